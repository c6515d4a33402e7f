/- Lemmas that the claim is made of. Conditions: each lemma names its own. -/
import Derived.Test.YtmfkkodnghambaaGreatKM3
import Derived.Test.YtmfkkodnghambaaGreatKM1
import Derived.Test.YtmfkkodnghambaaGreatKM0
import Derived.Lib.SliceRun
import Derived.RangeFuncNested
import Derived.RangeFuncCalls
import Derived.RangeFuncLeaves
import Derived.Below
import Derived.OrdersIn
import Derived.Test.YtmfkkodnghambaaGreatKM2
set_option maxRecDepth 20000
set_option maxHeartbeats 4000000
set_option linter.unusedSectionVars false
set_option linter.unusedSimpArgs false
set_option linter.unusedVariables false
namespace Go.Proofs.YtmfkkodnghambaaGreat
open Go.JE
inductive RA (to:List (List Int)) (n w:Nat):Nat→Prop
 | zero:w≠0→RA to n w 0
 | step {x:Nat} {t:Int}:RA to n w x→t∈ix to x→1≤t→t<n→t≠w→RA to n w t.toNat
theorem RA.nz{to:List (List Int)}{n w x:Nat}(h:RA to n w x):w≠0:=by
 induction h with
 | zero h=>exact h
 | step _ _ _ _ _ ih=>exact ih
theorem IB{to:List (List Int)}{n w x:Nat}(hn:0<n)(h:RA to n w x):x<n:=by
 induction h with
 | zero h=>exact hn
 | step _ _ _ _ _ _=>omega
theorem IA{to:List (List Int)}{f:D.Func}{n w x:Nat}(hl:f.Blocks.length=n)(hn:0<n)(ht:∀j,j<n→(ix f.Blocks j).Term.To=ix to j)(h:RA to n w x):ix (Dh f (w:Int)) x=true:=by
 have hw:=h.nz
 obtain⟨h0,hc⟩:=Xb (f:=f) (w:=(w:Int)) (by omega) (by omega)
 induction h with
 | zero h=>exact h0
 | @step y t h1 h2 h3 h4 h5 ih=>exact hc _ ih t (by rw[ht _ (IB hn h1)];exact h2) (by omega) (by omega) h5
def mkB(x:D.Block):List Int:=x.Phis.map (fun p=>p.Dst)++x.Ins.flatMap Ba
def Vs(n:Nat)(to:List (List Int))(par:Int)(bs:List D.Block)(b:Nat)(r:Int):Prop:=(0≤r∧r<par)∨∃a,a<n∧(a=b∨¬RA to n a b)∧r∈mkB (ix bs a)
def Vo(n:Nat)(to:List (List Int))(par:Int)(bs:List D.Block)(b:Nat)(r:Int):Prop:=(0≤r∧r<par)∨∃a,a<n∧(a≠b∧¬RA to n a b)∧r∈mkB (ix bs a)
def gIn(S:Int→Prop)(l:List D.Ins):Prop:=∀k,k<l.length→∀r∈(ix l k).Args,S r∨r∈(l.take k).flatMap Ba
theorem gIn.add{S:Int→Prop}{l:List D.Ins}{i:D.Ins}(h:gIn S l)(hi:∀r∈i.Args,S r∨r∈l.flatMap Ba):gIn S (l++[i]):=fun k hk r hr=>by
 rw[List.length_append,List.length_singleton] at hk
 rcases Nat.lt_or_ge k l.length with h1|h1
 ·rw[Up h1] at hr
  rw[List.take_append_of_le_length (by omega)];exact h k h1 r hr
 ·have e:k=l.length:=by omega
  subst e
  have e2:ix (l++[i]) l.length=i:=by rw[Bp (by simp)];simp
  rw[e2] at hr
  rw[List.take_left' rfl];exact hi r hr
theorem gIn.mono{S S':Int→Prop}{l:List D.Ins}(h:gIn S l)(hs:∀r,S r→S' r):gIn S' l:=fun k hk r hr=>(h k hk r hr).imp (hs r) id
structure VI(n:Nat)(to:List (List Int))(par:Int)(bs:List D.Block):Prop where
 len:bs.length=n
 gd:∀j,j<n→gIn (fun r=>Vo n to par bs j r∨r∈(ix bs j).Phis.map (fun p=>p.Dst)) (ix bs j).Ins
 tm:∀j,j<n→∀r∈(ix bs j).Term.Args,Vs n to par bs j r
 ph:∀j,j<n→∀p∈(ix bs j).Phis,∀x∈p.In,(0≤x.From∧x.From<n)∧Vs n to par bs x.From.toNat x.Val
def upB(bs bs':List D.Block):Prop:=∀j,∀r∈mkB (ix bs j),r∈mkB (ix bs' j)
section
variable{n:Nat}{to:List (List Int)}{par:Int}{bs bs':List D.Block}{b:Nat}{r:Int}
theorem Vs.up(h:Vs n to par bs b r)(hu:upB bs bs'):Vs n to par bs' b r:=h.imp id fun⟨a,h1,h2,h3⟩=>⟨a,h1,h2,hu a r h3⟩
theorem Vo.up(h:Vo n to par bs b r)(hu:upB bs bs'):Vo n to par bs' b r:=h.imp id fun⟨a,h1,h2,h3⟩=>⟨a,h1,h2,hu a r h3⟩
theorem Vs.here(hb:b<n)(h:r∈mkB (ix bs b)):Vs n to par bs b r := .inr ⟨b,hb,.inl rfl,h⟩
theorem Vs.split(h:Vs n to par bs b r):(Vo n to par bs b r∨r∈(ix bs b).Phis.map (fun p=>p.Dst))∨r∈(ix bs b).Ins.flatMap Ba:=by
 rcases h with h|⟨a,h1,h2,h3⟩
 ·exact .inl (.inl (.inl h))
 ·by_cases e:a=b
  ·subst e
   rcases List.mem_append.1 h3 with h4|h4
   ·exact .inl (.inr h4)
   ·exact .inr h4
  ·exact .inl (.inl (.inr ⟨a,h1,⟨e,h2.resolve_left e⟩,h3⟩))
theorem VI.put{x:D.Block}(h:VI n to par bs)(hb:b<n)(hm:∀r∈mkB (ix bs b),r∈mkB x)(hp:x.Phis.map (fun p=>p.Dst)=(ix bs b).Phis.map (fun p=>p.Dst)∨∀r∈(ix bs b).Phis.map (fun p=>p.Dst),r∈x.Phis.map (fun p=>p.Dst))
  (hi:gIn (fun r=>Vo n to par bs b r∨r∈(ix bs b).Phis.map (fun p=>p.Dst)) x.Ins) (ht:∀r∈x.Term.Args,Vs n to par bs b r)
  (hq:∀p∈x.Phis,∀y∈p.In,(0≤y.From∧y.From<n)∧Vs n to par bs y.From.toNat y.Val):VI n to par (bs.set b x)∧upB bs (bs.set b x):=by
 have hl:=h.len
 have hu:upB bs (bs.set b x):=fun j r hr=>by
  rw[Ch (by omega)];split
  ·rename_i e;subst e;exact hm r hr
  ·exact hr
 have hp':∀r∈(ix bs b).Phis.map (fun p=>p.Dst),r∈x.Phis.map (fun p=>p.Dst):=fun r hr=>hp.elim (fun e=>by rw[e];exact hr) (fun h=>h r hr)
 refine⟨⟨by rw[List.length_set];exact hl,fun j hj=>?_,fun j hj r hr=>?_,fun j hj p hm9 y hy=>?_⟩,hu⟩
 ·rw[Ch (by omega)];split
  ·rename_i e;subst e
   exact hi.mono fun r hr=>hr.imp (fun h=>h.up hu) (hp' r)
  ·exact(h.gd j hj).mono fun r hr=>hr.imp (fun h=>h.up hu) id
 ·rw[Ch (by omega)] at hr;split at hr
  ·rename_i e;subst e;exact(ht r hr).up hu
  ·exact(h.tm j hj r hr).up hu
 ·rw[Ch (by omega)] at hm9;split at hm9
  ·rename_i e;subst e;have:=hq p hm9 y hy;exact⟨this.1,this.2.up hu⟩
  ·have:=h.ph j hj p hm9 y hy;exact⟨this.1,this.2.up hu⟩
theorem VI.addI{i:D.Ins}(h:VI n to par bs)(hb:b<n)(hi:∀r∈i.Args,Vs n to par bs b r):VI n to par (bs.set b { (ix bs b) with Ins:=(ix bs b).Ins++[i] })∧upB bs (bs.set b { (ix bs b) with Ins:=(ix bs b).Ins++[i] })∧∀r∈Ba i,r∈mkB (ix (bs.set b { (ix bs b) with Ins:=(ix bs b).Ins++[i] }) b):=by
 have h1:=h.put (x:={ (ix bs b) with Ins:=(ix bs b).Ins++[i] }) hb (fun r hr=>by
  unfold mkB at hr ⊢
  dsimp only
  rw[List.flatMap_append]
  rcases List.mem_append.1 hr with h2|h2
  ·exact List.mem_append.2 (.inl h2)
  ·exact List.mem_append.2 (.inr (List.mem_append.2 (.inl h2)))) (.inl rfl) ((h.gd b hb).add fun r hr=>(hi r hr).split) (h.tm b hb) (h.ph b hb)
 refine⟨h1.1,h1.2,fun r hr=>?_⟩
 rw[Ch (by rw[h.len];exact hb),if_pos rfl]
 unfold mkB
 dsimp only
 rw[List.flatMap_append]
 exact List.mem_append.2 (.inr (List.mem_append.2 (.inr (by simpa using hr))))
end
structure VB(n:Nat)(to:List (List Int))(b:Nat)(par:Int)(bs:List D.Block)(lv:List Int):Prop where
 vi:VI n to par bs
 vl:∀x∈lv,Vs n to par bs b x
abbrev VM(n:Nat)(to:List (List Int))(b:Nat)(m:Mk):Prop:=VB n to b m.par m.bs m.lv
structure VG(n:Nat)(to:List (List Int))(b:Nat)(m m':Mk):Prop where
 vm:VM n to b m'
 par:m'.par=m.par
 up:upB m.bs m'.bs
abbrev Wv(n:Nat)(to:List (List Int))(b:Nat)(m:Mk)(x:Int):Prop:=Vs n to m.par m.bs b x
section
variable{n:Nat}{to:List (List Int)}{b:Nat}{m m' m2:Mk}{x:Int}
theorem VG.on(g:VG n to b m m')(h:Wv n to b m x):Wv n to b m' x:=by unfold Wv;rw[g.par];exact h.up g.up
theorem VG.tr(g:VG n to b m m')(h:VG n to b m' m2):VG n to b m m2:=⟨h.vm,h.par.trans g.par,fun j r hr=>h.up j r (g.up j r hr)⟩
theorem VM.rf(h:VM n to b m):VG n to b m m:=⟨h,rfl,fun _ _ h=>h⟩
theorem VM.same(h:VM n to b m)(h1:m'.par=m.par)(h2:m'.bs=m.bs)(h3:m'.lv=m.lv):VG n to b m m':=⟨by unfold VM;rw[h1,h2,h3];exact h,h1,by rw[h2];exact fun _ _ h=>h⟩
theorem VM.add{i:D.Ins}(h:VM n to b m)(hb:b<n)(hi:∀r∈i.Args,Wv n to b m r):VG n to b m (Cc (b:Int) i m)∧∀r∈Ba i,Wv n to b (Cc (b:Int) i m) r:=by
 obtain⟨h1,h2,h3⟩:=h.vi.addI hb hi
 have e:(Cc (b:Int) i m).bs=m.bs.set b { (ix m.bs b) with Ins:=(ix m.bs b).Ins++[i] }:=rfl
 have hn:∀r∈Ba i,Wv n to b (Cc (b:Int) i m) r:=fun r hr=>Vs.here hb (h3 r hr)
 refine⟨⟨⟨h1,fun y hy=>?_⟩,rfl,h2⟩,hn⟩
 rcases List.mem_append.1 (show y∈m.lv++Ba i from hy) with h4|h4
 ·exact(h.vl y h4).up h2
 ·exact hn y h4
theorem VM.con{v:Int}(h:VM n to b m)(hb:b<n):VG n to b m (Bq (b:Int) v m)∧Wv n to b (Bq (b:Int) v m) m.nx:=by
 have h1:=VM.add (m:=Bj m) (i:=⟨1,m.nx,0,[],v⟩) h hb (fun r hr=>by cases hr)
 exact⟨⟨h1.1.vm,rfl,h1.1.up⟩,h1.2 m.nx (by simp[Ba])⟩
theorem J8:(Cw m).par=m.par∧(Cw m).bs=m.bs∧(Cw m).lv=m.lv:=by unfold Cw;split<;>exact⟨rfl,rfl,rfl⟩
theorem GX:(Dg m).par=m.par∧(Dg m).bs=m.bs∧(Dg m).lv=m.lv:=by
 unfold Dg;split
 ·exact J8 (m:=m)
 ·exact J8
theorem VM.some(h:VM n to b m)(hb:b<n):VG n to b m (sS9 (b:Int) m)∧Wv n to b (sS9 (b:Int) m) (sV9 m):=by
 obtain⟨e1,e2,e3⟩:=GX (m:=m)
 have h0:VG n to b m (Dg m):=h.same e1 e2 e3
 unfold sS9 sV9
 by_cases hc:Gu m=true
 ·rw[if_pos hc,if_pos hc]
  have h1:=VM.con (m:=Ck (Dg m)) (v:=Ay (Dg m)) h0.vm hb
  exact⟨⟨h1.1.vm,e1,fun j r hr=>h1.1.up j r (h0.up j r hr)⟩,h1.2⟩
 ·rw[if_neg hc,if_neg hc]
  refine⟨h0,h0.on ?_⟩
  have hv:Dz m=true:=by
   cases h9:Dz m with
   | true=>rfl
   | false=>exact absurd (by unfold Gu;rw[h9];rfl) hc
  have hl:m.lv.length≠0:=by unfold Dz at hv;simpa using hv
  unfold El
  rw[if_neg hl]
  have hr:0≤Em m∧Em m<m.lv.length:=by
   unfold Em;split
   ·omega
   ·exact tV9 (by omega) m
  exact h.vl _ (Ax (l:=m.lv) (i:=(Em m).toNat) (by omega))
end
section
variable{n:Nat}{to:List (List Int)}{b:Nat}{m m' m2:Mk}{x:Int}
theorem w2{y z:Int}(h1:Wv n to b m y)(h2:Wv n to b m z):∀r∈[y,z],Wv n to b m r:=fun r hr=>by
 simp at hr;rcases hr with rfl|rfl<;>assumption
theorem w1{y:Int}(h1:Wv n to b m y):∀r∈[y],Wv n to b m r:=fun r hr=>by simp at hr;subst hr;exact h1
theorem VM.me1(h:VM n to b m)(hb:b<n):VG n to b m (Bt (b:Int) m).2∧Wv n to b (Bt (b:Int) m).2 (Bt (b:Int) m).1:=by
 have h1:=VM.con (m:=tSS m) (v:=IntKind.i32.wrap (tVV 9 m)) h hb
 have g1:VG n to b m (Bq (b:Int) (IntKind.i32.wrap (tVV 9 m)) (tSS m)):=⟨h1.1.vm,rfl,h1.1.up⟩
 have w0:=h1.2
 unfold Bt
 dsimp only
 generalize Bq (b:Int) (IntKind.i32.wrap (tVV 9 m)) (tSS m)=m1 at g1 w0 ⊢
 split
 ·have g2:VG n to b m1 (tSS m1):=g1.vm.same rfl rfl rfl
  have h3:=VM.some (m:=tSS m1) g2.vm hb
  have h4:=VM.con (m:=sS9 (b:Int) (tSS m1)) (v:=7) h3.1.vm hb
  have h6:=VM.add (m:=Bj (Bq (b:Int) 7 (sS9 (b:Int) (tSS m1)))) (i:=⟨5,(Bq (b:Int) 7 (sS9 (b:Int) (tSS m1))).nx,0,[sV9 (tSS m1),(sS9 (b:Int) (tSS m1)).nx],0⟩) h4.1.vm hb (w2 (h4.1.on h3.2) h4.2)
  have g14:=g2.tr (h3.1.tr h4.1)
  generalize Bq (b:Int) 7 (sS9 (b:Int) (tSS m1))=m4 at h4 h6 g14 ⊢
  have g6:VG n to b m4 (Cc (b:Int) ⟨5,m4.nx,0,[sV9 (tSS m1),(sS9 (b:Int) (tSS m1)).nx],0⟩ (Bj m4)):=⟨h6.1.vm,rfl,h6.1.up⟩
  have w6:=h6.2 m4.nx (by simp[Ba])
  generalize Cc (b:Int) ⟨5,m4.nx,0,[sV9 (tSS m1),(sS9 (b:Int) (tSS m1)).nx],0⟩ (Bj m4)=m6 at g6 w6 ⊢
  have h7:=VM.add (m:=Bj m6) (i:=⟨2,m6.nx,0,[(tSS m).nx,m4.nx],0⟩) g6.vm hb (w2 (g6.on (g14.on w0)) w6)
  exact⟨g1.tr (g14.tr (g6.tr ⟨h7.1.vm,rfl,h7.1.up⟩)),h7.2 _ (by simp[Ba])⟩
 ·exact⟨g1.tr (g1.vm.same rfl rfl rfl),w0⟩
theorem VM.me2(h:VM n to b m):VG n to b m (Cl m).2:=by
 unfold Cl;dsimp only;split<;>exact h.same rfl rfl rfl
theorem VM.mem{st:Bool}(h:VM n to b m)(hb:b<n):VG n to b m (Ci (b:Int) st m):=by
 have h1:=h.me1 hb
 have h2:=h1.1.vm.me2
 unfold Ci
 dsimp only
 split
 ·have h3:=h2.vm.some hb
  have h4:=h3.1.vm.add (i:=⟨16,0,0,[(Bt (b:Int) m).1,sV9 (Cl (Bt (b:Int) m).2).2],(Cl (Bt (b:Int) m).2).1⟩) hb (w2 (h3.1.on (h2.on h1.2)) h3.2)
  exact h1.1.tr (h2.tr (h3.1.tr h4.1))
 ·have h4:=VM.add (m:=Bj (Cl (Bt (b:Int) m).2).2) (i:=⟨15,(Cl (Bt (b:Int) m).2).2.nx,0,[(Bt (b:Int) m).1],(Cl (Bt (b:Int) m).2).1⟩) h2.vm hb (w1 (h2.on h1.2))
  exact h1.1.tr (h2.tr ⟨h4.1.vm,rfl,h4.1.up⟩)
theorem VM.args(hb:b<n):∀(k:Nat) (l:List Int) (m:Mk),VM n to b m→(∀x∈l,Wv n to b m x)→VG n to b m (Eg (b:Int) k l m).2∧∀x∈(Eg (b:Int) k l m).1,Wv n to b (Eg (b:Int) k l m).2 x
 | 0,l,m,h,hl=>⟨h.rf,hl⟩
 | k+1,l,m,h,hl=>by
  have h1:=h.some hb
  rw[Eg]
  obtain⟨a,d⟩:=VM.args hb k (l++[sV9 m]) (sS9 (b:Int) m) h1.1.vm (fun x hx=>by
   rcases List.mem_append.1 hx with h2|h2
   ·exact h1.1.on (hl x h2)
   ·simp at h2;subst h2;exact h1.2)
  exact⟨h1.1.tr a,d⟩
theorem VM.ad(h:VM n to b m)(hb:b<n){i:D.Ins}(hs:m'.par=m.par)(hs2:m'.bs=m.bs)(hs3:m'.lv=m.lv)(hi:∀r∈i.Args,Wv n to b m r):VG n to b m (Cc (b:Int) i m'):=by
 have g:=h.same hs hs2 hs3
 have h1:=g.vm.add (i:=i) hb (fun r hr=>g.on (hi r hr))
 exact g.tr h1.1
theorem VM.co(h:VM n to b m)(hb:b<n){v:Int}(hs:m'.par=m.par)(hs2:m'.bs=m.bs)(hs3:m'.lv=m.lv):VG n to b m (Bq (b:Int) v m')∧Wv n to b (Bq (b:Int) v m') m'.nx:=by
 have g:=h.same hs hs2 hs3
 have h1:=g.vm.con (v:=v) hb
 exact⟨g.tr h1.1,h1.2⟩
theorem VM.ins(h:VM n to b m)(hb:b<n):VG n to b m (Cj (b:Int) m):=by
 have g1:VG n to b m (tSS m):=h.same rfl rfl rfl
 have h2:=g1.vm.some hb
 have h3:=h2.1.vm.some hb
 have w1':=h3.1.on h2.2
 have g3:=g1.tr (h2.1.tr h3.1)
 unfold Cj
 dsimp only
 generalize tVV 20 m=k
 generalize tSS m=m1 at g1 h2 h3 w1' g3 ⊢
 split
 ·split
  ·have h4:=VM.co h3.1.vm hb (m':=tSS (tSS (sS9 (b:Int) (sS9 (b:Int) m1)))) (v:=IntKind.i32.wrap (tVV 40 (tSS (sS9 (b:Int) (sS9 (b:Int) m1)))-8)) rfl rfl rfl
   exact g3.tr (h4.1.tr (h4.1.vm.ad hb rfl rfl rfl (w2 (h4.1.on w1') h4.2)))
  ·exact g3.tr (h3.1.vm.ad hb rfl rfl rfl (w2 w1' h3.2))
 split
 ·exact g3.tr (h3.1.vm.ad hb rfl rfl rfl (w2 w1' h3.2))
 split
 ·have h4:=VM.co h2.1.vm hb (m':=tSS (sS9 (b:Int) m1)) (v:=IntKind.i32.wrap (tVV 12 (sS9 (b:Int) m1))) rfl rfl rfl
  have g4:=g1.tr (h2.1.tr h4.1)
  split
  ·have h5:=VM.co h4.1.vm hb (m':=tSS (tSS (Bq (b:Int) (IntKind.i32.wrap (tVV 12 (sS9 (b:Int) m1))) (tSS (sS9 (b:Int) m1))))) (v:=IntKind.i32.wrap (1+IntKind.i32.wrap (tVV 12 (tSS (Bq (b:Int) (IntKind.i32.wrap (tVV 12 (sS9 (b:Int) m1))) (tSS (sS9 (b:Int) m1))))))) rfl rfl rfl
   exact g4.tr (h5.1.tr (h5.1.vm.ad hb rfl rfl rfl (w2 (h5.1.on (h4.1.on h2.2)) h5.2)))
  ·exact g4.tr (h4.1.vm.ad hb rfl rfl rfl (w2 (h4.1.on h2.2) h4.2))
 split
 ·exact g1.tr (g1.vm.mem hb)
 split
 ·obtain⟨a,d⟩:=VM.args hb (tVV 5 m1).toNat [] (tSS m1) g1.vm (fun x hx=>by cases hx)
  have a':VG n to b m1 (Eg (b:Int) (tVV 5 m1).toNat [] (tSS m1)).2:=⟨a.vm,a.par,a.up⟩
  exact g1.tr (a'.tr (a.vm.ad hb rfl rfl rfl d))
 split
 ·exact g3.tr (h3.1.vm.ad hb rfl rfl rfl (w2 w1' h3.2))
 ·exact g1.tr (VM.co g1.vm hb (m':=Ck m1) (v:=Ay m1) rfl rfl rfl).1
theorem VM.is(hb:b<n):∀(k:Nat) {m:Mk},VM n to b m→VG n to b m (Ji b k m)
 | 0,_,h=>h.rf
 | k+1,_,h=>(h.ins hb).tr (VM.is hb k (h.ins hb).vm)
theorem VM.sT{t:D.Term}(h:VM n to b m)(hb:b<n)(hs:m'.par=m.par)(hs2:m'.bs=m.bs)(hs3:m'.lv=m.lv)(ht:∀r∈t.Args,Wv n to b m r):VG n to b m (setT (b:Int) t m'):=by
 have h1:=h.vi.put (x:={ (ix m.bs b) with Term:=t }) hb (fun r hr=>hr) (.inl rfl) (h.vi.gd b hb) ht (h.vi.ph b hb)
 have e:(setT (b:Int) t m').bs=m.bs.set b { (ix m.bs b) with Term:=t }:=by show m'.bs.set _ _=_;rw[hs2];rfl
 exact⟨⟨by rw[e];show VI n to m'.par _;rw[hs];exact h1.1,fun y hy=>by
  rw[e];show Vs n to m'.par _ b y;rw[hs];exact(h.vl y (by rw[←hs3];exact hy)).up h1.2⟩,hs,by rw[e];exact h1.2⟩
theorem VM.en{l:List Int}(h:VM n to b m)(hb:b<n):VG n to b m (Cq (b:Int) l m):=by
 unfold Cq
 split
 ·split
  ·exact h.sT hb rfl rfl rfl (fun r hr=>by cases hr)
  split
  ·have g1:VG n to b m (tSS m):=h.same rfl rfl rfl
   have h1:=g1.vm.some hb
   exact g1.tr (h1.1.tr (h1.1.vm.sT hb rfl rfl rfl (w1 h1.2)))
  ·exact h.sT hb rfl rfl rfl (fun r hr=>by cases hr)
 split
 ·exact h.sT hb rfl rfl rfl (fun r hr=>by cases hr)
 split
 ·have h3:=h.some hb
  have g2:VG n to b (sS9 (b:Int) m) (tSS (sS9 (b:Int) m)):=h3.1.vm.same rfl rfl rfl
  dsimp only
  split
  ·have h4:=g2.vm.some hb
   have g5:=VM.same (m':=tSS (Bj (sS9 (b:Int) (tSS (sS9 (b:Int) m))))) h4.1.vm rfl rfl rfl
   have h5:=g5.vm.add (i:=⟨ix [11,12,13] (tVV 3 (Bj (sS9 (b:Int) (tSS (sS9 (b:Int) m))))).toNat,(sS9 (b:Int) (tSS (sS9 (b:Int) m))).nx,0,[sV9 m,sV9 (tSS (sS9 (b:Int) m))],0⟩) hb (w2 (g5.on (h4.1.on (g2.on h3.2))) (g5.on h4.2))
   refine h3.1.tr (g2.tr (h4.1.tr (g5.tr (h5.1.tr (h5.1.vm.sT hb rfl rfl rfl (w1 (h5.2 _ ?_)))))))
   have hop:∀i:Nat,i<3→¬ix [(11:Int),12,13] i=16∧¬ix [(11:Int),12,13] i=18:=by decide
   have ho:=hop (tVV 3 (Bj (sS9 (b:Int) (tSS (sS9 (b:Int) m))))).toNat (by have:=tV9 (n:=3) (by omega) (Bj (sS9 (b:Int) (tSS (sS9 (b:Int) m))));omega)
   unfold Ba
   rw[if_neg ho.1,if_neg ho.2];simp
  ·exact h3.1.tr (h3.1.vm.sT hb rfl rfl rfl (w1 h3.2))
 ·have h3:=h.some hb
  have h4:=h3.1.vm.con (v:=7) hb
  have h5:=VM.add (m:=Bj (Bq (b:Int) 7 (sS9 (b:Int) m))) (i:=⟨5,(Bq (b:Int) 7 (sS9 (b:Int) m)).nx,0,[sV9 m,(sS9 (b:Int) m).nx],0⟩) h4.1.vm hb (w2 (h4.1.on h3.2) h4.2)
  dsimp only
  have g5:VG n to b (Bq (b:Int) 7 (sS9 (b:Int) m)) (Cc (b:Int) ⟨5,(Bq (b:Int) 7 (sS9 (b:Int) m)).nx,0,[sV9 m,(sS9 (b:Int) m).nx],0⟩ (Bj (Bq (b:Int) 7 (sS9 (b:Int) m)))):=⟨h5.1.vm,rfl,h5.1.up⟩
  exact h3.1.tr (h4.1.tr (g5.tr (g5.vm.sT hb rfl rfl rfl (w1 (h5.2 _ (by simp[Ba]))))))
end
abbrev VN(n:Nat)(to:List (List Int))(m:Mk):Prop:=VI n to m.par m.bs
section
variable{n b c:Nat}{to:List (List Int)}{m m':Mk}
theorem RI.ra(h:RI n b c to m)(hn:0<n){w x:Nat}(hr:ix (Dh (fnM m) (w:Int)) x=false):¬RA to n w x:=fun h9=>by
 have:=IA (f:=fnM m) h.len hn h.tos h9
 rw[hr] at this;cases this
theorem VN.lm{dn:List Bool}{q:Nat}(v:VN n to m)(h:RI n b c to m)(hn:0<n):VM n to q (lvM n q dn m):=⟨v,fun x hx=>by
 show Vs n to m.par m.bs q x
 rcases List.mem_append.1 (show x∈Ij m.par.toNat++(List.range n).flatMap (fun i=>lvB (fnM m) dn q i) from hx) with h1|h1
 ·have:=Tz h1;exact .inl (by omega)
 ·obtain⟨a,h2,h3⟩:=List.mem_flatMap.1 h1
  have ha:=List.mem_range.1 h2
  unfold lvB at h3
  split at h3
  ·cases h3
  ·rename_i hs
   refine .inr ⟨a,ha,?_,h3⟩
   by_cases e:a=q
   ·exact .inl e
   ·refine .inr (h.ra hn ?_)
    unfold Ox at hs
    simp[e] at hs
    exact hs.2⟩
theorem VN.bl{dn:List Bool}{q:Nat}(v:VN n to m)(h:RI n b c to m)(hq:q<n):VN n to (Iq n to q dn m)∧(Iq n to q dn m).par=m.par:=by
 have h0:=v.lm (dn:=dn) (q:=q) h (by omega)
 have g1:VG n to q (lvM n q dn m) (tSS (lvM n q dn m)):=h0.same rfl rfl rfl
 have g2:=VM.is hq (tVV 7 (lvM n q dn m)).toNat g1.vm
 have g3:=VM.en (l:=ix to q) g2.vm hq
 unfold Iq
 exact⟨g3.vm.vi,g3.par.trans g2.par⟩
theorem VN.row(hP:PB n to)(hL:∀j,(ix to j).length≤65):∀(k b c:Nat) (dn:List Bool) (m:Mk),b+k=n→dn.length=n→(∀j,j<n→ix dn j=decide (j<b))→RI n b c to m→VN n to m→VN n to (Ff n to k b dn m).2
 | 0,b,c,dn,m,hb,hl,hd,h,v=>v
 | k+1,b,c,dn,m,hb,hl,hd,h,v=>by
  rw[Ff,if_pos (h.ready hP (by omega) hd)]
  exact VN.row hP hL k (b+1) (c+120) (dn.set b true) (Iq n to b (dn.set b true) m) (by omega) (by rw[List.length_set];exact hl) (fun j hj=>by
   rw[Ch (by omega)];split
   ·rename_i e;subst e;simp
   ·rename_i e;rw[hd j hj,decide_eq_decide];omega) (h.bl (by omega) hL) (v.bl h (by omega)).1
theorem VN.turn(hP:PB n to)(hL:∀j,(ix to j).length≤65)(hn:0<n)(h:RI n 0 c to m)(v:VN n to m):VN n to (Gt n to n (List.replicate n false) m).2:=by
 obtain⟨k,rfl⟩:∃k,n=k+1:=⟨n-1,by omega⟩
 rw[Gt]
 obtain⟨x,y⟩:=RI.row hP hL (k+1) 0 c (List.replicate (k+1) false) m (by omega) (by simp) (fun j hj=>by rw[Jh];simp) h
 rw[Wb k _ _ y]
 exact VN.row hP hL (k+1) 0 c (List.replicate (k+1) false) m (by omega) (by simp) (fun j hj=>by rw[Jh];simp) h v
theorem VN.ap{j:Nat}(v:VN n to m)(hj:j<n):VN n to (Lt j m):=by
 refine(VI.put (x:={ (ix m.bs j) with Phis:=(ix m.bs j).Phis++[⟨m.nx,[]⟩] }) v hj (fun r hr=>?_) (.inr fun r hr=>?_) (v.gd j hj) (v.tm j hj) (fun p hp x hx=>?_)).1
 ·unfold mkB at hr ⊢
  dsimp only
  rw[List.map_append]
  rcases List.mem_append.1 hr with h2|h2
  ·exact List.mem_append.2 (.inl (List.mem_append.2 (.inl h2)))
  ·exact List.mem_append.2 (.inr h2)
 ·rw[List.map_append];exact List.mem_append.2 (.inl hr)
 ·rcases List.mem_append.1 hp with h2|h2
  ·exact v.ph j hj p h2 x hx
  ·simp at h2;subst h2;cases hx
theorem VN.pn{j:Nat}(hj:j<n):∀(k:Nat) {m:Mk},VN n to m→VN n to (Hb j k m)
 | 0,_,h=>h
 | k+1,_,h=>VN.pn hj k (h.ap hj)
theorem VN.ps:∀(k j:Nat) (ph:List Int) (m:Mk),j+k=n→VN n to m→VN n to (Fz k j ph m).2
 | 0,j,ph,m,hj,h=>h
 | k+1,j,ph,m,hj,h=>by
  rw[Fz]
  exact VN.ps k (j+1) _ _ (by omega) (VN.pn (m:=tSS m) (by omega) _ h)
theorem R0{t:D.Tg3}{x:Int}{b:Int}:∀(l:List D.Phi) (i:Nat),t∈phL b i l→x∈t.Makes→t.Block=b∧x∈l.map (fun p=>p.Dst)
 | [],_,h,_=>by cases h
 | p::l,i,h,hx=>by
  rw[phL] at h
  rcases List.mem_cons.1 h with rfl|h
  ·simp[phT] at hx;subst hx;exact⟨rfl,by simp⟩
  ·have:=R0 l _ h hx;exact⟨this.1,by simp only[List.map_cons,List.mem_cons];exact .inr this.2⟩
theorem AA{t:D.Tg3}{x:Int}{b:Int}:∀(l:List D.Ins) (i:Nat),t∈inL b i l→x∈t.Makes→t.Block=b∧x∈l.flatMap Ba
 | [],_,h,_=>by cases h
 | p::l,i,h,hx=>by
  rw[inL] at h
  rcases List.mem_cons.1 h with rfl|h
  ·exact⟨rfl,List.mem_flatMap.2 ⟨p,by simp,hx⟩⟩
  ·have:=AA l _ h hx
   obtain⟨q,h1,h2⟩:=List.mem_flatMap.1 this.2
   exact⟨this.1,List.mem_flatMap.2 ⟨q,by simp[h1],h2⟩⟩
theorem CG{t:D.Tg3}{x:Int}:∀(l:List D.Block) (k:Nat),t∈blL k l→x∈t.Makes→∃a:Nat,a<l.length∧t.Block=((k+a:Nat):Int)∧x∈mkB (ix l a)
 | [],_,h,_=>by cases h
 | y::l,k,h,hx=>by
  rw[blL] at h
  rcases List.mem_append.1 h with h1|h1
  ·have:=R0 _ _ h1 hx
   exact⟨0,by simp,by rw[this.1];simp,List.mem_append.2 (.inl this.2)⟩
  ·rcases List.mem_append.1 h1 with h1|h1
   ·have:=AA _ _ h1 hx
    exact⟨0,by simp,by rw[this.1];simp,List.mem_append.2 (.inr this.2)⟩
   ·rcases List.mem_cons.1 h1 with rfl|h1
    ·cases hx
    ·obtain⟨a,h2,h3,h4⟩:=CG l (k+1) h1 hx
     exact⟨a+1,by simp;omega,by rw[h3];congr 1;omega,by rw[Fi];exact h4⟩
theorem VN.stand{p:Int}(v:VN n to m)(h:RI n b c to m)(hp:0≤p∧p<n):∀x∈Cd (fnM m) p,Wv n to p.toNat m x:=fun x hx=>by
 rcases List.mem_append.1 hx with h1|h1
 ·have:=Tz h1
  have e:(fnM m).Params=m.par:=rfl
  rw[e] at this;exact .inl (by omega)
 ·obtain⟨t,h2,h3⟩:=List.mem_flatMap.1 h1
  split at h3
  ·rename_i hs
   obtain⟨a,h4,h5,h6⟩:=CG m.bs 0 h2 h3
   rw[h.len] at h4
   refine .inr ⟨a,h4,?_,h6⟩
   unfold Ot at hs
   rw[Bool.or_eq_true,decide_eq_true_eq,h5,Nat.zero_add] at hs
   rcases hs with hs|hs
   ·exact .inl (by omega)
   ·exact .inr (h.ra (by omega) (by simpa using hs))
  ·cases h3
theorem VN.ix0{p:Int}(v:VN n to m)(h:RI n b c to m)(hp:0≤p∧p<n):VN n to (inX p m).2∧(inX p m).2.par=m.par∧upB m.bs (inX p m).2.bs∧Wv n to p.toNat (inX p m).2 (inX p m).1.Val:=by
 unfold inX
 split
 ·have h1:=VI.addI (i:=⟨1,m.nx,0,[],Ay m⟩) v (b:=p.toNat) (by omega) (fun r hr=>by cases hr)
  have h2:=tV9 (n:=1) (by omega) (Bq p (Ay m) (Ck m))
  refine⟨h1.1,rfl,h1.2.1,?_⟩
  dsimp only
  rw[show tVV 1 (Bq p (Ay m) (Ck m))=0 by omega]
  exact Vs.here (by omega) (h1.2.2 m.nx (by simp[Ba]))
 ·rename_i h0
  have h1:=tV9 (n:=(Cd (fnM m) p).length) (by omega) m
  exact⟨v,rfl,fun _ _ h=>h,v.stand h hp _ (Ax (by omega))⟩
theorem VN.is0{p:List Int}(hp:∀x∈p,0≤x∧x<n):∀(k i:Nat) {c:Nat} (l:List D.In) (m:Mk),i+k=p.length→RI n b c to m→VN n to m→(∀x∈l,(0≤x.From∧x.From<n)∧Wv n to x.From.toNat m x.Val) →
  VN n to (inS p k i l m).2∧(inS p k i l m).2.par=m.par∧upB m.bs (inS p k i l m).2.bs∧∀x∈(inS p k i l m).1,(0≤x.From∧x.From<n)∧Wv n to x.From.toNat (inS p k i l m).2 x.Val
 | 0,i,_,l,m,hi,h,v,hl=>⟨v,rfl,fun _ _ h=>h,hl⟩
 | k+1,i,c,l,m,hi,h,v,hl=>by
  have hpi:=hp _ (Ax (l:=p) (i:=i) (by omega))
  obtain⟨a1,a2,a3,a4,a5⟩:=h.ix0 (p:=ix p i) hpi
  obtain⟨d1,d2,d3,d4⟩:=v.ix0 h hpi
  obtain⟨b1,b2,b3,b4⟩:=VN.is0 hp k (i+1) (l++[(inX (ix p i) m).1]) (inX (ix p i) m).2 (by omega) a1 d1 (fun x hx=>by
   rcases List.mem_append.1 hx with h1|h1
   ·have:=hl x h1
    exact⟨this.1,by unfold Wv;rw[d2];exact this.2.up d3⟩
   ·simp at h1;subst h1;rw[a3];exact⟨hpi,d4⟩)
  rw[inS]
  exact⟨b1,b2.trans d2,fun j r hr=>b3 j r (d3 j r hr),b4⟩
theorem VN.pi0{j i:Nat}{l:List D.In}(v:VN n to m)(hj:j<n)(hl:∀x∈l,(0≤x.From∧x.From<n)∧Wv n to x.From.toNat m x.Val):VN n to (Mo j i l m):=by
 have e:((ix m.bs j).Phis.set i { (ix (ix m.bs j).Phis i) with In:=l }).map (fun p=>p.Dst)=(ix m.bs j).Phis.map (fun p=>p.Dst):=Xq
 refine(VI.put (x:={ (ix m.bs j) with Phis:=(ix m.bs j).Phis.set i { (ix (ix m.bs j).Phis i) with In:=l } }) v hj (fun r hr=>?_) (.inl e) (v.gd j hj) (v.tm j hj) (fun p hp x hx=>?_)).1
 ·unfold mkB at hr ⊢
  dsimp only
  rw[e];exact hr
 ·rcases List.mem_or_eq_of_mem_set hp with h2|h2
  ·exact v.ph j hj p h2 x hx
  ·subst h2;exact hl x hx
theorem VN.ip0{p:List Int}{j:Nat}(hp:∀x∈p,0≤x∧x<n)(h9:p.length≤9)(hj:j<n):∀(k i:Nat) {c:Nat} (m:Mk),RI n b c to m→VN n to m→VN n to (inP p j k i m)
 | 0,i,_,m,h,v=>v
 | k+1,i,c,m,h,v=>by
  obtain⟨a1,a2,a3,a4,a5⟩:=RI.is0 hp p.length 0 [] m (by omega) h (fun x hx=>by cases hx) rfl
  obtain⟨d1,d2,d3,d4⟩:=VN.is0 hp p.length 0 [] m (by omega) h v (fun x hx=>by cases hx)
  rw[inP]
  exact VN.ip0 hp h9 hj k (i+1) _ (a1.pi0 (i:=i) hj a3) (d1.pi0 (i:=i) hj d4)
theorem VN.fi0{ph:List Int}(hn9:n≤9):∀(k j:Nat) {c:Nat} (m:Mk),j+k=n→RI n b c to m→VN n to m→VN n to (He ph k j m)
 | 0,j,_,m,hj,h,v=>v
 | k+1,j,c,m,hj,h,v=>by
  have hpe:pd3 (fnM m) (j:Int)=pT to n (j:Int):=by
   show Hr m.bs m.bs.length _=_
   rw[h.len];exact Xf n _ (fun q hq=>h.tos q hq)
  have b1:=(RI.ip0 (p:=pT to n (j:Int)) (j:=j) (fun x hx=>Tt n _ x hx) (Nat.le_trans (Tu n _) hn9) (by omega) (ix ph j).toNat 0 m h).1
  rw[He,hpe]
  exact VN.fi0 hn9 k (j+1) (inP (pT to n (j:Int)) j (ix ph j).toNat 0 m) (by omega) b1 (VN.ip0 (fun x hx=>Tt n _ x hx) (Nat.le_trans (Tu n _) hn9) (by omega) (ix ph j).toNat 0 m h v)
end
theorem T8(s:List Int):VN (mdN s).toNat (mdT s).1 (mdB s):=by
 obtain⟨a1,a2,a3,a4,a5⟩:=Qq (mdT s).1 (mdN s).toNat 0 { (mdT s).2 with bs:=List.replicate (mdN s).toNat default }
 have hlen:(List.replicate (mdN s).toNat (default:D.Block)).length=(mdN s).toNat:=by simp
 have hb:∀j,j<(mdN s).toNat→ix (mdB s).bs j={ (default:D.Block) with Term:={ (default:D.Block).Term with To:=ix (mdT s).1 j } }:=fun j hj=>by
  have:=a5 j (by show j<(List.replicate _ _).length;rw[hlen];exact hj)
  rw[if_pos (by omega)] at this
  dsimp only at this
  rw[Un] at this
  exact this
 exact⟨a1.trans hlen,fun j hj=>by rw[hb j hj];exact fun k hk=>(by cases hk),fun j hj r hr=>(by rw[hb j hj] at hr;cases hr),fun j hj p hp=>(by rw[hb j hj] at hp;cases hp)⟩
theorem LY(s:List Int):VI (mdN s).toNat (mdT s).1 (Lj s).Params (Lj s).Blocks:=by
 obtain⟨h0,t1,t2,hn,hp0⟩:=Uc s
 obtain⟨p1,p2,p3⟩:=RI.ps ((mdN s).toNat-1) 1 4 (List.replicate (mdN s).toNat 0) (mdB s) (by omega) (by simp) (fun j=>Wy j) hp0 h0
 have h1:RI (mdN s).toNat 0 31 (mdT s).1 (mdH s).2:=p1.mono (by omega)
 have hL:∀j,(ix (mdT s).1 j).length≤65:=fun j=>Nat.le_trans (t1.2.1 j) (by omega)
 have h2:RI (mdN s).toNat (mdN s).toNat 1111 (mdT s).1 (mdD s).2:=(h1.turn t2 hL (by omega)).mono (by omega)
 have v1:VN (mdN s).toNat (mdT s).1 (mdH s).2:=VN.ps _ 1 _ _ (by omega) (T8 s)
 have v2:VN (mdN s).toNat (mdT s).1 (mdD s).2:=VN.turn t2 hL (by omega) h1 v1
 exact VN.fi0 hn.2 _ 1 _ (by omega) h2 v2
structure UI(par nx:Int)(bs:List D.Block):Prop where
 pn:par≤nx
 rg:∀j,∀r∈mkB (ix bs j),par≤r∧r<nx
 nd:∀j,(mkB (ix bs j)).Nodup
 dj:∀i j,i≠j→∀r∈mkB (ix bs i),r∉mkB (ix bs j)
theorem UI.put{par nx nx':Int}{bs:List D.Block}{b:Nat}{x:D.Block}{ms:List Int}(h:UI par nx bs)(hn:nx≤nx')(hp:(mkB x).Perm (mkB (ix bs b)++ms))(hm:∀r∈ms,nx≤r∧r<nx')(hd:ms.Nodup):UI par nx' (bs.set b x):=by
 by_cases hb:b<bs.length
 ·have hs:∀j,ix (bs.set b x) j=if j=b then x else ix bs j:=fun j=>Ch hb
  have hx:∀r∈mkB x,r∈mkB (ix bs b)∨r∈ms:=fun r hr=>List.mem_append.1 (hp.mem_iff.1 hr)
  have hpn:=h.pn
  refine⟨by omega,fun j r hr=>?_,fun j=>?_,fun i j hij r hr hr2=>?_⟩
  ·rw[hs] at hr;split at hr
   ·rcases hx r hr with h1|h1
    ·have:=h.rg b r h1;omega
    ·have:=hm r h1;omega
   ·have:=h.rg j r hr;omega
  ·rw[hs];split
   ·exact hp.nodup_iff.2 (List.nodup_append.2 ⟨h.nd b,hd,fun y hy z hz e=>by have:=h.rg b y hy;have:=hm z hz;omega⟩)
   ·exact h.nd j
  ·rw[hs] at hr hr2
   split at hr
   ·rename_i e;subst e
    rw[if_neg (fun e=>hij e.symm)] at hr2
    rcases hx r hr with h1|h1
    ·exact h.dj _ _ hij r h1 hr2
    ·have:=h.rg j r hr2;have:=hm r h1;omega
   ·split at hr2
    ·rename_i e;subst e
     rcases hx r hr2 with h1|h1
     ·exact h.dj _ _ hij r hr h1
     ·have:=h.rg i r hr;have:=hm r h1;omega
    ·exact h.dj _ _ hij r hr hr2
 ·rw[List.set_eq_of_length_le (by omega)]
  exact⟨by have:=h.pn;omega,fun j r hr=>by have:=h.rg j r hr;omega,h.nd,h.dj⟩
def UG(m m':Mk):Prop:=m'.par=m.par∧(UI m.par m.nx m.bs→UI m'.par m'.nx m'.bs)
section
variable{m m' m2:Mk}{j:Int}{b:Nat}
theorem UG.rf:UG m m:=⟨rfl,id⟩
theorem UG.tr(h:UG m m')(h2:UG m' m2):UG m m2:=⟨h2.1.trans h.1,fun h3=>h2.2 (h.2 h3)⟩
theorem UG.same(h1:m'.par=m.par)(h2:m'.bs=m.bs)(h3:m'.nx=m.nx):UG m m':=⟨h1,by rw[h1,h2,h3];exact id⟩
theorem LM{x:D.Block}{i:D.Ins}:mkB { x with Ins:=x.Ins++[i] }=mkB x++Ba i:=by unfold mkB;rw[List.flatMap_append];simp
theorem UG.ad{i:D.Ins}(h1:m'.par=m.par)(h2:m'.bs=m.bs)(h3:m.nx≤m'.nx)(hm:∀r∈Ba i,m.nx≤r∧r<m'.nx)(hd:(Ba i).Nodup):UG m (Cc j i m'):=⟨h1,fun h=>by
 show UI m'.par m'.nx (m'.bs.set _ _)
 rw[h1,h2]
 exact h.put h3 (by rw[LM]) hm hd⟩
theorem UG.one{op v x:Int}{a:List Int}(h1:m'.par=m.par)(h2:m'.bs=m.bs)(h3:m'.nx=m.nx+1)(hx:x=m.nx)(ho:op≠16∧op≠18):UG m (Cc j ⟨op,x,0,a,v⟩ m'):=by
 have e:Ba ⟨op,x,0,a,v⟩=[x]:=by unfold Ba;rw[if_neg ho.1,if_neg ho.2]
 refine UG.ad h1 h2 (by omega) (fun r hr=>?_) (by rw[e];simp)
 rw[e] at hr;simp at hr;omega
theorem UG.con{v:Int}(h:UG m m'):UG m (Bq j v m'):=h.tr (UG.one (m':=Bj m') rfl rfl rfl rfl (by omega))
theorem UG.tk(h:UG m m'):UG m (tSS m'):=h.tr (.same rfl rfl rfl)
theorem UG.wd(h:UG m m'):UG m (Ck m'):=h.tr (.same rfl rfl rfl)
theorem UG.aF{op v:Int}{a:List Int}(h:UG m m')(ho:op≠16∧op≠18):UG m (Cc j ⟨op,m'.nx,0,a,v⟩ (Bj m')):=h.tr (UG.one rfl rfl rfl rfl ho)
theorem UG.aT{op v:Int}{a:List Int}(h:UG m m')(ho:op≠16∧op≠18):UG m (Cc j ⟨op,m'.nx,0,a,v⟩ (tSS (Bj m'))):=h.tr (UG.one rfl rfl rfl rfl ho)
theorem UG.val(h:UG m m'):UG m (Cw m'):=by unfold Cw;split;exact h;exact .tk (.tk h)
theorem UG.som0(h:UG m m'):UG m (Dg m'):=by
 unfold Dg;split
 ·exact .tk (.val h)
 ·exact .val h
theorem UG.som(h:UG m m'):UG m (sS9 j m'):=by
 unfold sS9;split
 ·exact .con (.wd (.som0 h))
 ·exact .som0 h
theorem UG.me1(h:UG m m'):UG m (Bt j m').2:=by
 unfold Bt;dsimp only;split
 ·exact .aF (.aF (.con (.som (.tk (.con (.tk h))))) (by omega)) (by omega)
 ·exact .tk (.con (.tk h))
theorem UG.me2(h:UG m m'):UG m (Cl m').2:=by unfold Cl;dsimp only;split<;>exact h.tr (.same rfl rfl rfl)
theorem UG.mem{st:Bool}(h:UG m m'):UG m (Ci j st m'):=by
 unfold Ci;dsimp only;split
 ·exact UG.tr (m':=sS9 j (Cl (Bt j m').2).2) (.som (.me2 (.me1 h))) (UG.ad rfl rfl (Int.le_refl _) (fun r hr=>by simp[Ba] at hr) (by simp[Ba]))
 ·exact .aF (.me2 (.me1 h)) (by omega)
theorem UG.args:∀(k:Nat) (l:List Int) (m':Mk),UG m m'→UG m (Eg j k l m').2
 | 0,_,_,h=>h
 | k+1,l,m',h=>by rw[Eg];exact UG.args k _ _ (.som h)
theorem S1{i:Nat}(h:i<12):ix [(2:Int),2,3,4,5,6,7,8,9,10,12,11] i≠16∧ix [(2:Int),2,3,4,5,6,7,8,9,10,12,11] i≠18:=by
 have:∀i:Nat,i<12→ix [(2:Int),2,3,4,5,6,7,8,9,10,12,11] i≠16∧ix [(2:Int),2,3,4,5,6,7,8,9,10,12,11] i≠18:=by decide
 exact this i h
theorem UG.mw{a:List Int}(h:UG m m'):UG m (Cc j ⟨18,m'.nx,(Bj m').nx,a,0⟩ (Bj (Bj m'))):=by
 refine h.tr (UG.ad rfl rfl (by show _≤_+1+1;omega) (fun r hr=>?_) (by simp[Ba,Bj];omega))
 have hr':r=m'.nx∨r=m'.nx+1:=by simpa[Ba,Bj] using hr
 show _∧_<_+1+1
 omega
theorem UG.ins(h:UG m m'):UG m (Cj j m'):=by
 have hk:=tV9 (n:=20) (by omega) m'
 unfold Cj;dsimp only
 generalize tVV 20 m'=k at hk
 have h3:UG m (sS9 j (sS9 j (tSS m'))) := .som (.som (.tk h))
 split
 ·split
  ·exact .aF (.con (.tk (.tk h3))) (S1 (by omega))
  ·exact .aF (.tk h3) (S1 (by omega))
 split
 ·exact .aF h3 (by omega)
 split
 ·split
  ·exact .aF (.con (.tk (.tk (.con (.tk (.som (.tk h))))))) (by omega)
  ·exact .aF (.tk (.con (.tk (.som (.tk h))))) (by omega)
 split
 ·exact .mem (.tk h)
 split
 ·exact .aT (UG.args _ _ _ (.tk (.tk h))) (by omega)
 split
 ·exact .mw h3
 ·exact .con (.wd (.tk h))
theorem UG.is:∀(k:Nat) (m':Mk),UG m m'→UG m (Ji b k m')
 | 0,_,h=>h
 | k+1,m',h=>by rw[Ji];exact UG.is k _ (.ins h)
theorem UG.sT{t:D.Term}(h:UG m m'):UG m (setT j t m'):=h.tr ⟨rfl,fun h=>by
 show UI m'.par m'.nx (m'.bs.set _ _)
 exact h.put (ms:=[]) (Int.le_refl _) (by rw[List.append_nil];exact List.Perm.refl _) (fun r hr=>by cases hr) List.nodup_nil⟩
theorem UG.en{l:List Int}(h:UG m m'):UG m (Cq j l m'):=by
 unfold Cq
 split
 ·split
  ·exact .sT (.tk (.tk h))
  split
  ·exact .sT (.som (.tk h))
  ·exact .sT (.tk h)
 split
 ·exact .sT h
 split
 ·dsimp only
  split
  ·have ho:∀i:Nat,i<3→ix [(11:Int),12,13] i≠16∧ix [(11:Int),12,13] i≠18:=by decide
   have hr:=tV9 (n:=3) (by omega) (Bj (sS9 j (tSS (sS9 j m'))))
   exact .sT (.aT (.som (.tk (.som h))) (ho _ (by omega)))
  ·exact .sT (.tk (.som h))
 ·dsimp only
  exact .sT (.aF (.con (.som h)) (by omega))
theorem UG.bl{n:Nat}{to:List (List Int)}{dn:List Bool}:UG m (Iq n to b dn m):=by
 unfold Iq
 exact UG.en (UG.is _ _ (.tk (.same rfl rfl rfl)))
theorem UG.row{n:Nat}{to:List (List Int)}:∀(k b:Nat) (dn:List Bool) (m:Mk),UG m (Ff n to k b dn m).2
 | 0,_,_,_ => .rf
 | k+1,b,dn,m=>by
  rw[Ff];split
  ·exact UG.bl.tr (UG.row k _ _ _)
  ·exact UG.row k _ _ _
theorem UG.turn{n:Nat}{to:List (List Int)}:∀(k:Nat) (dn:List Bool) (m:Mk),UG m (Gt n to k dn m).2
 | 0,_,_ => .rf
 | k+1,dn,m=>by rw[Gt];exact(UG.row _ _ _ _).tr (UG.turn k _ _)
theorem UG.ap:UG m (Lt b m):=⟨rfl,fun h=>by
 show UI m.par (m.nx+1) (m.bs.set _ _)
 refine h.put (ms:=[m.nx]) (by omega) ?_ (fun r hr=>by simp at hr;omega) (by simp)
 show(mkB { (ix m.bs b) with Phis:=(ix m.bs b).Phis++[⟨m.nx,[]⟩] }).Perm _
 unfold mkB
 dsimp only
 rw[List.map_append,List.append_assoc,List.append_assoc]
 exact List.Perm.append_left _ List.perm_append_comm⟩
theorem UG.pn:∀(k:Nat) (m:Mk),UG m (Hb b k m)
 | 0,_ => .rf
 | k+1,m=>by rw[Hb];exact UG.ap.tr (UG.pn k _)
theorem UG.ps:∀(k j:Nat) (ph:List Int) (m:Mk),UG m (Fz k j ph m).2
 | 0,_,_,_ => .rf
 | k+1,j,ph,m=>by rw[Fz];exact UG.tr (m':=tSS m) (.tk .rf) ((UG.pn _ _).tr (UG.ps k _ _ _))
theorem UG.inx{p:Int}:UG m (inX p m).2:=by
 unfold inX;split
 ·exact .tk (.con (.wd .rf))
 ·exact .tk .rf
theorem UG.ins'{p:List Int}:∀(k i:Nat) (l:List D.In) (m:Mk),UG m (inS p k i l m).2
 | 0,_,_,_ => .rf
 | k+1,i,l,m=>by rw[inS];exact UG.inx.tr (UG.ins' k _ _ _)
theorem UG.pi{i:Nat}{l:List D.In}:UG m (Mo b i l m):=⟨rfl,fun h=>by
 show UI m.par m.nx (m.bs.set _ _)
 refine h.put (ms:=[]) (Int.le_refl _) ?_ (fun r hr=>by cases hr) List.nodup_nil
 rw[List.append_nil]
 unfold mkB
 dsimp only
 rw[Xq]⟩
theorem UG.ip{p:List Int}:∀(k i:Nat) (m:Mk),UG m (inP p b k i m)
 | 0,_,_ => .rf
 | k+1,i,m=>by rw[inP];exact(UG.ins' _ _ _ _).tr (UG.pi.tr (UG.ip k _ _))
theorem UG.fi{ph:List Int}:∀(k j:Nat) (m:Mk),UG m (He ph k j m)
 | 0,_,_ => .rf
 | k+1,j,m=>by rw[He];exact(UG.ip _ _ _).tr (UG.fi k _ _)
end
theorem LX(s:List Int):∃nx,UI (Lj s).Params nx (Lj s).Blocks:=by
 obtain⟨h0,_,_,_,_⟩:=Uc s
 have v:=T8 s
 have hempty:∀j,mkB (ix (mdB s).bs j)=[]:=fun j=>by
  obtain⟨a1,a2,a3,a4,a5⟩:=Qq (mdT s).1 (mdN s).toNat 0 { (mdT s).2 with bs:=List.replicate (mdN s).toNat default }
  by_cases hj:j<(mdN s).toNat
  ·have:=a5 j (by show j<(List.replicate _ _).length;simpa using hj)
   rw[if_pos (by omega)] at this
   dsimp only at this
   rw[Un] at this
   have e:ix (mdB s).bs j={ (default:D.Block) with Term:={ (default:D.Block).Term with To:=ix (mdT s).1 j } }:=this
   rw[e];rfl
  ·have:ix (mdB s).bs j=default:=by
    have hl:=h0.len
    simp[ix,List.getD,List.getElem?_eq_none (show(mdB s).bs.length≤j by omega)]
   rw[this];rfl
 have hb:UI (mdB s).par (mdB s).nx (mdB s).bs:=⟨h0.nx.1,fun j r hr=>(by rw[hempty] at hr;cases hr),fun j=>(by rw[hempty];exact List.nodup_nil),fun i j _ r hr=>(by rw[hempty] at hr;cases hr)⟩
 exact⟨_,((((UG.ps _ _ _ _).tr (UG.turn _ _ _)).tr (UG.fi _ _ _)).2 hb:UI (mdF s).par (mdF s).nx (mdF s).bs)⟩
def wv(b p:Int):Value := .agg #[.int .i64 b,.int .i64 p]
def insA(b p:Int)(l:List Int)(L:List (Int×Value)):List (Int×Value):=l.foldl (fun m n=>upM m n (wv b p)) L
theorem Lk{b p:Int}:∀(l:List Int) (L:List (Int×Value)) (n:Int),lkM (insA b p l L) n=if n∈l then some (wv b p) else lkM L n
 | [],L,n=>by simp[insA]
 | x::l,L,n=>by
  have h:=Lk (b:=b) (p:=p) l (upM L x (wv b p)) n
  unfold insA at h ⊢
  rw[List.foldl_cons,h,D3]
  by_cases h1:n∈l
  ·rw[if_pos h1,if_pos (by simp[h1])]
  ·rw[if_neg h1]
   by_cases h2:n=x
   ·rw[if_pos h2,if_pos (by simp[h2])]
   ·rw[if_neg h2,if_neg (by simp[h1,h2])]
theorem PC{b p:Int}{l:List Int}{n:Int}{L:List (Int×Value)}:insA b p (l++[n]) L=upM (insA b p l L) n (wv b p):=by unfold insA;rw[List.foldl_append];rfl
def phA(b:Int)(ps:List D.Phi)(L:List (Int×Value)):Nat→List (Int×Value)
 | 0=>L
 | k+1=>insA b (-1-k) [(ix ps k).Dst] (phA b ps L k)
def inA(b:Int)(is:List D.Ins)(L:List (Int×Value)):Nat→List (Int×Value)
 | 0=>L
 | k+1=>insA b k (Ba (ix is k)) (inA b is L k)
def bkA(bs:List D.Block):Nat→List (Int×Value)
 | 0=>[]
 | k+1=>inA k (ix bs k).Ins (phA k (ix bs k).Phis (bkA bs k) (ix bs k).Phis.length) (ix bs k).Ins.length
theorem Mt{b:Int}{ps:List D.Phi}{L:List (Int×Value)}{n:Int}:∀{k:Nat},lkM (phA b ps L k) n=none↔lkM L n=none∧∀i,i<k→n≠(ix ps i).Dst
 | 0=>by simp[phA]
 | k+1=>by
  have ih:=Mt (b:=b) (ps:=ps) (L:=L) (n:=n) (k:=k)
  rw[phA,Lk]
  constructor
  ·intro h
   split at h
   ·cases h
   ·rename_i h1
    have h2:=ih.1 h
    refine⟨h2.1,fun i hi e=>?_⟩
    rcases Nat.lt_or_ge i k with h3|h3
    ·exact h2.2 i h3 e
    ·rw[show i=k by omega] at e;exact h1 (by simp[e])
  ·rintro⟨h1,h2⟩
   rw[if_neg (by simpa using h2 k (by omega))]
   exact ih.2 ⟨h1,fun i hi=>h2 i (by omega)⟩
theorem Pq{b:Int}{is:List D.Ins}{L:List (Int×Value)}{n:Int}:∀{k:Nat},lkM (inA b is L k) n=none↔lkM L n=none∧∀i,i<k→n∉Ba (ix is i)
 | 0=>by simp[inA]
 | k+1=>by
  have ih:=Pq (b:=b) (is:=is) (L:=L) (n:=n) (k:=k)
  rw[inA,Lk]
  constructor
  ·intro h
   split at h
   ·cases h
   ·rename_i h1
    have h2:=ih.1 h
    refine⟨h2.1,fun i hi e=>?_⟩
    rcases Nat.lt_or_ge i k with h3|h3
    ·exact h2.2 i h3 e
    ·rw[show i=k by omega] at e;exact h1 e
  ·rintro⟨h1,h2⟩
   rw[if_neg (h2 k (by omega))]
   exact ih.2 ⟨h1,fun i hi=>h2 i (by omega)⟩
theorem Ew{x:D.Block}{n:Int}:n∈mkB x↔(∃i,i<x.Phis.length∧n=(ix x.Phis i).Dst)∨∃i,i<x.Ins.length∧n∈Ba (ix x.Ins i):=by
 unfold mkB
 rw[List.mem_append]
 refine or_congr ⟨fun h=>?_,fun⟨i,h1,h2⟩=>?_⟩ ⟨fun h=>?_,fun⟨i,h1,h2⟩=>?_⟩
 ·obtain⟨p,h1,rfl⟩:=List.mem_map.1 h
  obtain⟨i,hi,e⟩:=List.getElem_of_mem h1
  exact⟨i,hi,by rw[Bp hi,e]⟩
 ·rw[h2];exact List.mem_map.2 ⟨_,Ax h1,rfl⟩
 ·obtain⟨p,h1,h2⟩:=List.mem_flatMap.1 h
  obtain⟨i,hi,e⟩:=List.getElem_of_mem h1
  exact⟨i,hi,by rw[Bp hi,e];exact h2⟩
 ·exact List.mem_flatMap.2 ⟨_,Ax h1,h2⟩
theorem Rr{bs:List D.Block}{n:Int}:∀{k:Nat},lkM (bkA bs k) n=none↔∀b,b<k→n∉mkB (ix bs b)
 | 0=>by simp[bkA,lkM]
 | k+1=>by
  have ih:=Rr (bs:=bs) (n:=n) (k:=k)
  rw[bkA,Pq,Mt,ih]
  constructor
  ·rintro⟨⟨h1,h2⟩,h3⟩ b hb h4
   rcases Nat.lt_or_ge b k with h5|h5
   ·exact h1 b h5 h4
   ·rw[show b=k by omega] at h4
    rcases Ew.1 h4 with⟨i,h6,h7⟩|⟨i,h6,h7⟩
    ·exact h2 i h6 h7
    ·exact h3 i h6 h7
  ·intro h
   refine⟨⟨fun b hb=>h b (by omega),fun i hi e=>h k (by omega) (Ew.2 (.inl ⟨i,hi,e⟩))⟩,fun i hi e=>h k (by omega) (Ew.2 (.inr ⟨i,hi,e⟩))⟩
def Oe(bs:List D.Block)(v:Int)(wb:Nat)(wp:Int):Prop:=wb<bs.length∧((∃i,i<(ix bs wb).Phis.length∧v=(ix (ix bs wb).Phis i).Dst∧wp=-1-(i:Int))∨∃i,i<(ix bs wb).Ins.length∧v∈Ba (ix (ix bs wb).Ins i)∧wp=(i:Int))
structure Once(bs:List D.Block):Prop where
 nd:∀j,(mkB (ix bs j)).Nodup
 dj:∀i j,i≠j→∀r∈mkB (ix bs i),r∉mkB (ix bs j)
theorem Ua{α β:Type}[Inhabited α]{f:α→List β}:∀{l:List α},(l.flatMap f).Nodup→∀{i j:Nat},i<l.length→j<l.length→i≠j→∀x∈f (ix l i),x∉f (ix l j)
 | [],_,i,_,hi,_,_=>by cases hi
 | a::l,h,i,j,hi,hj,hij=>by
  rw[List.flatMap_cons,List.nodup_append] at h
  obtain⟨h1,h2,h3⟩:=h
  intro x hx hx2
  have fl:∀{k:Nat},k<l.length→x∈f (ix l k)→x∈l.flatMap f:=fun hk hx=>List.mem_flatMap.2 ⟨_,Ax hk,hx⟩
  cases i with
  | zero =>
   cases j with
   | zero=>exact hij rfl
   | succ j =>
    rw[Fq] at hx;rw[Fi] at hx2
    exact h3 x hx x (fl (by simpa using hj) hx2) rfl
  | succ i =>
   rw[Fi] at hx
   cases j with
   | zero=>rw[Fq] at hx2;exact h3 x hx2 x (fl (by simpa using hi) hx) rfl
   | succ j=>rw[Fi] at hx2;exact Ua h2 (by simpa using hi) (by simpa using hj) (by omega) x hx hx2
theorem Once.phi{bs:List D.Block}(h:Once bs){b i:Nat}(hi:i<(ix bs b).Phis.length):lkM (phA b (ix bs b).Phis (bkA bs b) i) (ix (ix bs b).Phis i).Dst=none:=by
 have hm:(ix (ix bs b).Phis i).Dst∈mkB (ix bs b):=Ew.2 (.inl ⟨i,hi,rfl⟩)
 have hn:=(List.nodup_append.1 (h.nd b)).1
 refine Mt.2 ⟨Rr.2 fun c hc h1=>h.dj b c (by omega) _ hm h1,fun j hj e=>?_⟩
 have:=nodup_inj hn (i:=i) (j:=j) (by simpa using hi) (by simp;omega) (by rw[List.getElem_map,List.getElem_map,←Bp hi,←Bp (show j<_ by omega)];exact e)
 omega
theorem Once.ins{bs:List D.Block}(h:Once bs){b i:Nat}(hi:i<(ix bs b).Ins.length){n:Int}(hn:n∈Ba (ix (ix bs b).Ins i)):lkM (inA b (ix bs b).Ins (phA b (ix bs b).Phis (bkA bs b) (ix bs b).Phis.length) i) n=none:=by
 have hm:n∈mkB (ix bs b):=Ew.2 (.inr ⟨i,hi,hn⟩)
 obtain⟨h1,h2,h3⟩:=List.nodup_append.1 (h.nd b)
 refine Pq.2 ⟨Mt.2 ⟨Rr.2 fun c hc h4=>h.dj b c (by omega) _ hm h4,fun j hj e=>?_⟩,fun j hj e=>?_⟩
 ·exact h3 n (by rw[e];exact List.mem_map.2 ⟨_,Ax hj,rfl⟩) n (List.mem_flatMap.2 ⟨_,Ax hi,hn⟩) rfl
 ·exact Ua h2 hi (by omega) (show i≠j by omega) n hn e
theorem Once.mks{bs:List D.Block}(h:Once bs){b i:Nat}:(Ba (ix (ix bs b).Ins i)).Nodup:=by
 rcases Nat.lt_or_ge i (ix bs b).Ins.length with hi|hi
 ·have h2:=(List.nodup_append.1 (h.nd b)).2.1
  have:∀{l:List D.Ins},(l.flatMap Ba).Nodup→∀x∈l,(Ba x).Nodup:=by
   intro l
   induction l with
   | nil=>intro _ x hx;cases hx
   | cons a l ih =>
    intro h x hx
    rw[List.flatMap_cons,List.nodup_append] at h
    rcases List.mem_cons.1 hx with e|e
    ·subst e;exact h.1
    ·exact ih h.2.1 x e
  exact this h2 _ (Ax hi)
 ·rw[Gx (l:=(ix bs b).Ins) hi];exact(by decide:(Ba (default:D.Ins)).Nodup)
theorem Once.at{bs:List D.Block}(h:Once bs){v:Int}{wb:Nat}{wp:Int}(hp:Oe bs v wb wp):∀k,wb<k→lkM (bkA bs k) v=some (wv wb wp)
 | 0,hk=>absurd hk (Nat.not_lt_zero _)
 | k+1,hk=>by
  obtain⟨h1,h2⟩:=hp
  have hm:v∈mkB (ix bs wb):=by
   rcases h2 with⟨i,h3,h4,_⟩|⟨i,h3,h4,_⟩
   ·exact Ew.2 (.inl ⟨i,h3,h4⟩)
   ·exact Ew.2 (.inr ⟨i,h3,h4⟩)
  have up:∀(l:List D.Ins) (b:Int) (L:List (Int×Value)) (m:Nat),(∀i,i<m→v∉Ba (ix l i))→lkM (inA b l L m) v=lkM L v:=by
   intro l b L m
   induction m with
   | zero=>exact fun _=>rfl
   | succ m ih=>exact fun h9=>by rw[inA,Lk,if_neg (h9 m (by omega)),ih (fun i hi=>h9 i (by omega))]
  have upP:∀(l:List D.Phi) (b:Int) (L:List (Int×Value)) (m:Nat),(∀i,i<m→v≠(ix l i).Dst)→lkM (phA b l L m) v=lkM L v:=by
   intro l b L m
   induction m with
   | zero=>exact fun _=>rfl
   | succ m ih=>exact fun h9=>by rw[phA,Lk,if_neg (by simpa using h9 m (by omega)),ih (fun i hi=>h9 i (by omega))]
  rcases Nat.lt_or_ge wb k with h3|h3
  ·have hno:v∉mkB (ix bs k):=h.dj wb k (by omega) v hm
   rw[bkA,up _ _ _ _ (fun i hi e=>hno (Ew.2 (.inr ⟨i,hi,e⟩))),upP _ _ _ _ (fun i hi e=>hno (Ew.2 (.inl ⟨i,hi,e⟩)))]
   exact h.at ⟨h1,h2⟩ k h3
  ·have e:wb=k:=by omega
   subst e
   obtain⟨n1,n2,n3⟩:=List.nodup_append.1 (h.nd wb)
   rw[bkA]
   rcases h2 with⟨i,h3,h4,h5⟩|⟨i,h3,h4,h5⟩
   ·rw[up _ _ _ _ (fun j hj e=>n3 v (by rw[h4];exact List.mem_map.2 ⟨_,Ax h3,rfl⟩) v (List.mem_flatMap.2 ⟨_,Ax hj,e⟩) rfl)]
    have:∀m,i<m→m≤(ix bs wb).Phis.length→lkM (phA wb (ix bs wb).Phis (bkA bs wb) m) v=some (wv wb wp):=by
     intro m
     induction m with
     | zero=>intro hm;cases hm
     | succ m ih =>
      intro hm hl
      rw[phA,Lk]
      rcases Nat.lt_or_ge i m with h6|h6
      ·rw[if_neg,ih h6 (by omega)]
       intro h7
       simp at h7
       have:=nodup_inj n1 (i:=i) (j:=m) (by simpa using h3) (by simp;omega) (by rw[List.getElem_map,List.getElem_map,←Bp h3,←Bp (show m<_ by omega)];exact h4.symm.trans h7)
       omega
      ·have e:m=i:=by omega
       subst e
       rw[if_pos (by simp[h4]),h5]
    exact this _ h3 (Nat.le_refl _)
   ·have:∀m,i<m→m≤(ix bs wb).Ins.length→lkM (inA wb (ix bs wb).Ins (phA wb (ix bs wb).Phis (bkA bs wb) (ix bs wb).Phis.length) m) v=some (wv wb wp):=by
     intro m
     induction m with
     | zero=>intro hm;cases hm
     | succ m ih =>
      intro hm hl
      rw[inA,Lk]
      rcases Nat.lt_or_ge i m with h6|h6
      ·rw[if_neg (fun h7=>Ua n2 h3 (show m<_ by omega) (show i≠m by omega) v h4 h7),ih h6 (by omega)]
      ·have e:m=i:=by omega
       subst e
       rw[if_pos h4,h5]
    exact this _ h3 (Nat.le_refl _)
def shM(k:Int):Option (Int×Int×Int×Int):=if k=1 then some (0,0,1,1) else if k=2 then some (1,1,2,2) else if k=3 then some (1,1,2,65) else if k=4 then some (0,1,0,0) else if k=5 then some (0,0,0,0) else none
def US(f:D.Func)(v:Int)(b:Nat)(at':Int):Prop:=(0≤v∧v<f.Params)∨∃wb wp,Oe f.Blocks v wb wp∧((wb=b∧(wp<at'∨wp<0))∨(wb≠b∧¬RB (prG (Bh f)) wb b))
def Dx(bs:List D.Block):Nat:=(bs.map (fun b=>b.Phis.length+b.Ins.length)).sum
structure GoodF(f:D.Func):Prop where
 par:0≤f.Params∧f.Params≤4
 len:0<f.Blocks.length∧f.Blocks.length≤512
 cnt:f.Blocks.length+Dx f.Blocks≤4096
 once:Once f.Blocks
 rng:∀b,b<f.Blocks.length→∀r∈mkB (ix f.Blocks b),f.Params≤r∧r≤8191
 op:∀b,b<f.Blocks.length→∀i∈(ix f.Blocks b).Ins,(1≤i.Op∧i.Op≤18)∧(Cz i.Op).1≤(i.Args.length:Int)∧(i.Args.length:Int)≤(Cz i.Op).2
 tm:∀b,b<f.Blocks.length→∃s,shM (ix f.Blocks b).Term.Kind=some s∧(s.1≤((ix f.Blocks b).Term.Args.length:Int)∧((ix f.Blocks b).Term.Args.length:Int)≤s.2.1)∧(s.2.2.1≤((ix f.Blocks b).Term.To.length:Int)∧((ix f.Blocks b).Term.To.length:Int)≤s.2.2.2)
 to:∀b,b<f.Blocks.length→∀t∈(ix f.Blocks b).Term.To,1≤t∧t<f.Blocks.length
 reach:∀b,b<f.Blocks.length→∃w,RB (prG (Bh f)) w b
 fr:∀b,b<f.Blocks.length→∀p∈(ix f.Blocks b).Phis,0<b∧p.In.map (fun x=>x.From)=ix (Cv (Bh f)) b
 ui:∀b,b<f.Blocks.length→∀i,i<(ix f.Blocks b).Ins.length→∀v∈(ix (ix f.Blocks b).Ins i).Args,US f v b i
 ut:∀b,b<f.Blocks.length→∀v∈(ix f.Blocks b).Term.Args,US f v b (ix f.Blocks b).Ins.length
 up:∀b,b<f.Blocks.length→∀p∈(ix f.Blocks b).Phis,∀x∈p.In,US f x.Val x.From.toNat (ix f.Blocks x.From.toNat).Ins.length
theorem OZ{b p:Int}{l:List Int}{L:List (Int×Value)}{k:Nat}(hk:k<l.length)(hn:l.Nodup)(hL:∀n∈l,lkM L n=none):lkM (insA b p (l.take k) L) (ix l k)=none:=by
 rw[Lk,if_neg]
 ·exact hL _ (Ax hk)
 ·intro h
  obtain⟨j,hj,e⟩:=List.getElem_of_mem h
  rw[List.getElem_take,Bp hk] at e
  rw[List.length_take] at hj
  have:=nodup_inj hn (show j<l.length by omega) hk e
  omega
theorem OW{b p:Int}{l:List Int}{L:List (Int×Value)}{k:Nat}(hk:k<l.length):insA b p (l.take (k+1)) L=upM (insA b p (l.take k) L) (ix l k) (wv b p):=by rw[Ej hk,PC]
section
variable{f:D.Func}{b i:Nat}
theorem Mi{n a c:Int}(h:a≤n∧n≤c):Ge n a c=true:=by unfold Ge;simp[h]
theorem GoodF.pha(h:GoodF f)(hb:b<f.Blocks.length)(hi:i<(ix f.Blocks b).Phis.length):(∀n∈[(ix (ix f.Blocks b).Phis i).Dst],Ge n f.Params 8191=true)∧[(ix (ix f.Blocks b).Phis i).Dst].Nodup∧∀n∈[(ix (ix f.Blocks b).Phis i).Dst],lkM (phA b (ix f.Blocks b).Phis (bkA f.Blocks b) i) n=none :=
 ⟨fun n hn=>by simp at hn;subst hn;exact Mi (h.rng b hb _ (Ew.2 (.inl ⟨i,hi,rfl⟩))),by simp,fun n hn=>by simp at hn;subst hn;exact h.once.phi hi⟩
theorem GoodF.ina(h:GoodF f)(hb:b<f.Blocks.length)(hi:i<(ix f.Blocks b).Ins.length):(∀n∈Ba (ix (ix f.Blocks b).Ins i),Ge n f.Params 8191=true)∧(Ba (ix (ix f.Blocks b).Ins i)).Nodup∧∀n∈Ba (ix (ix f.Blocks b).Ins i),lkM (inA b (ix f.Blocks b).Ins (phA b (ix f.Blocks b).Phis (bkA f.Blocks b) (ix f.Blocks b).Phis.length) i) n=none :=
 ⟨fun n hn=>Mi (h.rng b hb _ (Ew.2 (.inr ⟨i,hi,hn⟩))),h.once.mks,fun n hn=>h.once.ins hi hn⟩
def shL:List (Int×Value):=[(1,.agg #[.int .i64 0,.int .i64 0,.int .i64 1,.int .i64 1]),(2,.agg #[.int .i64 1,.int .i64 1,.int .i64 2,.int .i64 2]),(3,.agg #[.int .i64 1,.int .i64 1,.int .i64 2,.int .i64 65]),(4,.agg #[.int .i64 0,.int .i64 1,.int .i64 0,.int .i64 0]),(5,.agg #[.int .i64 0,.int .i64 0,.int .i64 0,.int .i64 0])]
theorem GQ{k:Int}{s:Int×Int×Int×Int}(h:shM k=some s):lkM shL k=some (.agg #[.int .i64 s.1,.int .i64 s.2.1,.int .i64 s.2.2.1,.int .i64 s.2.2.2]):=by
 unfold shM at h
 split at h
 ·rename_i e;subst e;injection h with h;subst h;rfl
 split at h
 ·rename_i e;subst e;injection h with h;subst h;rfl
 split at h
 ·rename_i e;subst e;injection h with h;subst h;rfl
 split at h
 ·rename_i e;subst e;injection h with h;subst h;rfl
 split at h
 ·rename_i e;subst e;injection h with h;subst h;rfl
 ·cases h
end
def Jj(l:List Int)(v:Int):Nat→Nat→Int
 | 0,_=>-1
 | n+1,k=>if v=ix l k then k else Jj l v n (k+1)
def Rk(l:List Int)(v:Int):Int:=Jj l v l.length 0
def Ny(l:List Int)(v:Int):Bool:=decide (0≤Rk l v)
theorem AD{l:List Int}{v:Int}:∀(n k:Nat),(∃j,k≤j∧j<k+n∧v=ix l j)→0≤Jj l v n k
 | 0,k,⟨j,h1,h2,_⟩=>by omega
 | n+1,k,⟨j,h1,h2,h3⟩=>by
  rw[Jj];split
  ·omega
  ·rename_i h
   exact AD n (k+1) ⟨j,by rcases Nat.lt_or_ge k j with h4|h4;exact h4;exact absurd (by rw[show k=j by omega];exact h3) h,by omega,h3⟩
theorem RN{l:List Int}{v:Int}(h:v∈l):Ny l v=true:=by
 obtain⟨j,hj,e⟩:=List.getElem_of_mem h
 have:=AD (l:=l) (v:=v) l.length 0 ⟨j,Nat.zero_le _,by omega,by rw[Bp hj];exact e.symm⟩
 unfold Ny Rk;simpa using this
theorem PQ{l:List Int}{v:Int}{n k:Nat}(hk:k<n)(h:¬v=ix l k):Jj l v (n-k) k=Jj l v (n-(k+1)) (k+1):=by
 rw[show n-k=(n-(k+1))+1 by omega,Jj,if_neg h]
theorem AC{l:List Int}{v:Int}{n k:Nat}(hk:k<n)(h:v=ix l k):Jj l v (n-k) k=k:=by
 rw[show n-k=(n-(k+1))+1 by omega,Jj,if_pos h]
section
variable{f:D.Func}{b i j:Nat}
theorem Jl(f:D.Func):(Bh f).length=f.Blocks.length:=by simp[Bh]
theorem GoodF.gn(h:GoodF f):0<(Bh f).length∧(Bh f).length≤512:=by rw[Jl];exact h.len
end
theorem Rn{bs:List D.Block}{k:Nat}(h:k<bs.length):Dx (bs.take (k+1))=Dx (bs.take k)+((ix bs k).Phis.length+(ix bs k).Ins.length):=by
 unfold Dx;rw[Ej h];simp
theorem SA(bs:List D.Block)(k:Nat):Dx (bs.take k)≤Dx bs:=by
 have h:=List.take_append_drop k bs
 have:Dx bs=Dx (bs.take k)+Dx (bs.drop k):=by
  unfold Dx;conv=>lhs;rw[←h]
  rw[List.map_append,List.sum_append]
 omega
def Ql(p:Int)(L:List (Int×Value))(l:List Int):Prop:=(∀n∈l,Ge n p 8191=true)∧l.Nodup∧∀n∈l,lkM L n=none
def WV(L:List (Int×Value)):Prop:=∀n v,lkM L n=some v→∃b p,v=wv b p
theorem WV.get{L:List (Int×Value)}(h:WV L)(n:Int):∃b p,(lkM L n).getD (.agg #[.int .i64 0,.int .i64 0]) = .agg #[.int .i64 b,.int .i64 p]:=by
 cases h1:lkM L n with
 | none=>exact⟨0,0,rfl⟩
 | some v=>obtain⟨b,p,e⟩:=h n v h1;exact⟨b,p,e⟩
theorem WV.nil:WV []:=fun n v h=>by simp[lkM] at h
theorem WV.insA{L:List (Int×Value)}{b p:Int}{l:List Int}(h:WV L):WV (insA b p l L):=fun n v h1=>by
 rw[Lk] at h1
 split at h1
 ·injection h1 with h1;exact⟨b,p,h1.symm⟩
 ·exact h n v h1
theorem WV.phA{L:List (Int×Value)}{b:Int}{ps:List D.Phi}(h:WV L):∀k,WV (phA b ps L k)
 | 0=>h
 | k+1=>(h.phA k).insA
theorem WV.inA{L:List (Int×Value)}{b:Int}{is:List D.Ins}(h:WV L):∀k,WV (inA b is L k)
 | 0=>h
 | k+1=>(h.inA k).insA
theorem WV.bkA(bs:List D.Block):∀k,WV (bkA bs k)
 | 0 => .nil
 | k+1=>((WV.bkA bs k).phA _).inA _
def Wc(t:D.Term):Prop:=∃s,shM t.Kind=some s∧(s.1≤(t.Args.length:Int)∧(t.Args.length:Int)≤s.2.1)∧(s.2.2.1≤(t.To.length:Int)∧(t.To.length:Int)≤s.2.2.2)
def S3(i:D.Ins):Prop:=Ge i.Op 1 18=true∧Ge i.Args.length (Cz i.Op).1 (Cz i.Op).2=true
def phB(f:D.Func)(k i:Nat):Prop:=∀j,j<i→Ql f.Params (phA k (ix f.Blocks k).Phis (bkA f.Blocks k) j) [(ix (ix f.Blocks k).Phis j).Dst]
def inB(f:D.Func)(k i:Nat):Prop:=∀j,j<i→S3 (ix (ix f.Blocks k).Ins j)∧Ql f.Params (inA k (ix f.Blocks k).Ins (phA k (ix f.Blocks k).Phis (bkA f.Blocks k) (ix f.Blocks k).Phis.length) j) (Ba (ix (ix f.Blocks k).Ins j))
def toB(f:D.Func)(k i:Nat):Prop:=∀j,j<i→Ge (ix (ix f.Blocks k).Term.To j) 1 ((f.Blocks.length:Int)-1)=true
def Uz(f:D.Func)(k:Nat):Prop:=phB f k (ix f.Blocks k).Phis.length∧inB f k (ix f.Blocks k).Ins.length∧Wc (ix f.Blocks k).Term∧toB f k (ix f.Blocks k).Term.To.length
def ShB(f:D.Func)(k:Nat):Prop:=∀j,j<k→Uz f j
def Kz(f:D.Func):Prop:=ShB f f.Blocks.length
section
variable{f:D.Func}{k i:Nat}
theorem KF(h:phB f k i)(h2:Ql f.Params (phA k (ix f.Blocks k).Phis (bkA f.Blocks k) i) [(ix (ix f.Blocks k).Phis i).Dst]):phB f k (i+1):=fun j hj=>by
 rcases Nat.lt_or_ge j i with h3|h3
 ·exact h j h3
 ·rw[show j=i by omega];exact h2
theorem PI(h:inB f k i)(h1:S3 (ix (ix f.Blocks k).Ins i))(h2:Ql f.Params (inA k (ix f.Blocks k).Ins (phA k (ix f.Blocks k).Phis (bkA f.Blocks k) (ix f.Blocks k).Phis.length) i) (Ba (ix (ix f.Blocks k).Ins i))):inB f k (i+1):=fun j hj=>by
 rcases Nat.lt_or_ge j i with h3|h3
 ·exact h j h3
 ·rw[show j=i by omega];exact⟨h1,h2⟩
theorem FH(h:toB f k i)(h2:Ge (ix (ix f.Blocks k).Term.To i) 1 ((f.Blocks.length:Int)-1)=true):toB f k (i+1):=fun j hj=>by
 rcases Nat.lt_or_ge j i with h3|h3
 ·exact h j h3
 ·rw[show j=i by omega];exact h2
theorem TG(h:ShB f k)(h2:Uz f k):ShB f (k+1):=fun j hj=>by
 rcases Nat.lt_or_ge j k with h3|h3
 ·exact h j h3
 ·rw[show j=k by omega];exact h2
end
theorem Nu{n a c:Int}(h:Ge n a c=true):a≤n∧n≤c:=by unfold Ge at h;simpa using h
theorem QA{f:D.Func}(h:GoodF f):Kz f:=fun k hk=>by
 refine⟨fun j hj=>h.pha hk hj,fun j hj=>⟨?_,h.ina hk hj⟩,h.tm k hk,fun j hj=>?_⟩
 ·have:=h.op k hk _ (Ax hj);exact⟨Mi this.1,Mi this.2⟩
 ·have:=h.to k hk _ (Ax hj);exact Mi (by omega)
theorem LD{α β:Type}[Inhabited α]{l:List α}{g:α→β}(h:∀i j,i<j→j<l.length→g (ix l j)≠g (ix l i)):(l.map g).Nodup:=by
 rw[List.nodup_iff_pairwise_ne,List.pairwise_iff_getElem]
 intro i j hi hj hij e
 rw[List.length_map] at hi hj
 rw[List.getElem_map,List.getElem_map,←Bp hi,←Bp hj] at e
 exact h i j hij hj e.symm
theorem S7{α β:Type}[Inhabited α]{l:List α}{g:α→List β}(h0:∀i,i<l.length→(g (ix l i)).Nodup)(h:∀i j,i<j→j<l.length→∀x∈g (ix l j),x∉g (ix l i)):(l.flatMap g).Nodup:=by
 induction l with
 | nil=>exact List.nodup_nil
 | cons a l ih =>
  rw[List.flatMap_cons,List.nodup_append]
  refine⟨h0 0 (by simp),ih (fun i hi=>by have:=h0 (i+1) (by simpa using hi);rwa[Fi] at this) (fun i j hij hj=>by have:=h (i+1) (j+1) (by omega) (by simpa using hj);rwa[Fi,Fi] at this),fun x hx y hy e=>?_⟩
  subst e
  obtain⟨c,h1,h2⟩:=List.mem_flatMap.1 hy
  obtain⟨i,hi,e⟩:=List.getElem_of_mem h1
  have h3:=h 0 (i+1) (by omega) (by simpa using hi)
  rw[Fi,Fq,Bp hi,e] at h3
  exact h3 x h2 hx
section
variable{f:D.Func}{b:Nat}
theorem GO(h:Uz f b):(mkB (ix f.Blocks b)).Nodup:=by
 unfold mkB
 refine List.nodup_append.2 ⟨LD fun i j hij hj=>?_,S7 (fun i hi=>(h.2.1 i hi).2.2.1) (fun i j hij hj x hx=>?_),fun x hx y hy e=>?_⟩
 ·exact(Mt.1 ((h.1 j hj).2.2 _ (by simp))).2 i hij
 ·exact(Pq.1 ((h.2.1 j hj).2.2.2 x hx)).2 i hij
 ·subst e
  obtain⟨p,h1,rfl⟩:=List.mem_map.1 hx
  obtain⟨i,hi,e⟩:=List.getElem_of_mem h1
  obtain⟨c,h3,h4⟩:=List.mem_flatMap.1 hy
  obtain⟨j,hj,e2⟩:=List.getElem_of_mem h3
  rw[←Bp hi] at e;rw[←Bp hj] at e2;subst e;subst e2
  exact(Mt.1 (Pq.1 ((h.2.1 j hj).2.2.2 _ h4)).1).2 i hi rfl
theorem I9(h:Uz f b){n:Int}(hn:n∈mkB (ix f.Blocks b)):Ge n f.Params 8191=true∧lkM (bkA f.Blocks b) n=none:=by
 rcases Ew.1 hn with⟨i,hi,rfl⟩|⟨i,hi,h2⟩
 ·exact⟨(h.1 i hi).1 _ (by simp),(Mt.1 ((h.1 i hi).2.2 _ (by simp))).1⟩
 ·exact⟨(h.2.1 i hi).2.1 n h2,(Mt.1 (Pq.1 ((h.2.1 i hi).2.2.2 n h2)).1).1⟩
theorem I8(h:Kz f):Once f.Blocks:=by
 have key:∀i j,i<j→j<f.Blocks.length→∀r∈mkB (ix f.Blocks j),r∉mkB (ix f.Blocks i):=fun i j hij hj r hr=>Rr.1 (I9 (h j hj) hr).2 i hij
 have dm:∀j,¬j<f.Blocks.length→mkB (ix f.Blocks j)=[]:=fun j hj=>by rw[Gx (by omega)];rfl
 refine⟨fun j=>?_,fun i j hij r hr hr2=>?_⟩
 ·by_cases hj:j<f.Blocks.length
  ·exact GO (h j hj)
  ·rw[dm j hj];exact List.nodup_nil
 ·by_cases hj:j<f.Blocks.length
  ·by_cases hi:i<f.Blocks.length
   ·rcases Nat.lt_or_ge i j with h1|h1
    ·exact key i j h1 hj r hr2 hr
    ·exact key j i (by omega) hi r hr hr2
   ·rw[dm i hi] at hr;cases hr
  ·rw[dm j hj] at hr2;cases hr2
theorem GL(h:Kz f):∀b,b<f.Blocks.length→∀r∈mkB (ix f.Blocks b),f.Params≤r∧r≤8191:=fun b hb r hr=>Nu (I9 (h b hb) hr).1
theorem GM(h:Kz f):∀b,b<f.Blocks.length→∀i∈(ix f.Blocks b).Ins,(1≤i.Op∧i.Op≤18)∧(Cz i.Op).1≤(i.Args.length:Int)∧(i.Args.length:Int)≤(Cz i.Op).2:=fun b hb i hi=>by
 obtain⟨j,hj,e⟩:=List.getElem_of_mem hi
 rw[←Bp hj] at e;subst e
 have:=((h b hb).2.1 j hj).1
 exact⟨Nu this.1,Nu this.2⟩
theorem GK(h:Kz f):∀b,b<f.Blocks.length→∀t∈(ix f.Blocks b).Term.To,1≤t∧t<f.Blocks.length:=fun b hb t ht=>by
 obtain⟨j,hj,e⟩:=List.getElem_of_mem ht
 rw[←Bp hj] at e;subst e
 have:=Nu ((h b hb).2.2.2 j hj)
 omega
end
theorem S6{v:Int}{l3 p3:List Int}:∀(l2 p2:List Int),(l2++v::l3).Nodup→l2++v::l3=p2++v::p3→p3=l3
 | [],[],_,h=>by simp at h;exact h.symm
 | [],x::p2,hn,h=>by
  simp only[List.nil_append,List.cons_append,List.cons.injEq] at h hn
  rw[h.2] at hn
  exact absurd (by simp) (List.nodup_cons.1 hn).1
 | x::l2,[],hn,h=>by
  simp only[List.nil_append,List.cons_append,List.cons.injEq] at h hn
  rw[h.1] at hn
  exact absurd (by simp) (List.nodup_cons.1 hn).1
 | x::l2,y::p2,hn,h=>by
  simp only[List.cons_append,List.cons.injEq] at h hn
  exact S6 l2 p2 (List.nodup_cons.1 hn).2 h.2
theorem OO.mem{g:List (List Int)}{ord:List Int}(h:OO g ord){w b:Nat}(hr:RB (prG g) w b):(b:Int)∈ord:=by
 obtain⟨l,se,rfl,h⟩:=h
 unfold Ho
 rw[List.nil_append,List.mem_reverse]
 induction hr with
 | zero=>exact h.mem
 | @step x t h1 h2 _ ih =>
  have h3:=h.ov.cl x ih t (by rw[Int.toNat_natCast];exact h2)
  rw[Int.toNat_natCast] at h3
  have h4:=My g x t h2
  have h5:=(h.ov.mem t (by omega)).1 h3
  rw[Jh] at h5
  exact h5.resolve_left (by simp)
theorem OO.reach{g:List (List Int)}{ord:List Int}(h:OO g ord)(hn:0<g.length){v:Int}(hv:v∈ord):RB (prG g) g.length v.toNat:=by
 obtain⟨l,se,rfl,h⟩:=h
 unfold Ho at hv
 rw[List.nil_append,List.mem_reverse] at hv
 have key:∀(m:Nat) (l2 l3:List Int) (v:Int),l=l2++v::l3→l3.length<m→RB (prG g) g.length v.toNat:=by
  intro m
  induction m with
  | zero=>intro l2 l3 v _ h9;omega
  | succ m ih =>
   intro l2 l3 v e hm
   have hvl:v∈l:=by rw[e];simp
   have hv9:=(h.ov.new v hvl).1
   rcases h.ov.af v hvl with h1|⟨p2,p3,e2,q,hq,hvq⟩
   ·rw[h1];exact .zero (by omega)
   ·have hnd:=h.ov.nd
    have e3:p3=l3:=by
     have h5:l2++v::l3=p2++v::p3:=e.symm.trans e2
     have hn2:=hnd;rw[e] at hn2
     exact S6 l2 p2 hn2 h5
    subst e3
    obtain⟨a,b,e4⟩:=List.append_of_mem hq
    have:=ih (l2++v::a) b q (by rw[e,e4];simp) (by rw[e4] at hm;simp at hm;omega)
    refine .step this (show((v.toNat:Nat):Int)∈ix (Bn g) q.toNat by rw[Int.toNat_of_nonneg hv9.1];exact hvq) (by omega)
 obtain⟨a,b,e⟩:=List.append_of_mem hv
 exact key _ a b v e (Nat.lt_succ_self _)
theorem RM{l:List Int}{v:Int}(h:Ny l v=true):v∈l:=by
 have key:∀(n k:Nat),k+n=l.length→0≤Jj l v n k→v∈l:=by
  intro n
  induction n with
  | zero=>intro k _ h;rw[Jj] at h;omega
  | succ n ih =>
   intro k hk h
   rw[Jj] at h
   split at h
   ·rename_i e;rw[e];exact Ax (by omega)
   ·exact ih (k+1) (by omega) h
 unfold Ny Rk at h
 exact key l.length 0 (by omega) (by simpa using h)
def Jo(op n:Int):Bool:=if op=1 then decide (n=0) else if op=15 then decide (n=1) else if op=17 then decide (n≤4) else decide (n=2)
theorem BI{op:Int}{n:Nat}:Jo op n=true↔(Cz op).1≤(n:Int)∧(n:Int)≤(Cz op).2:=by
 unfold Jo Cz
 repeat' split
 all_goals (simp;try omega)
def Hl(t:D.Term):Bool :=
 if t.Kind=1 then decide ((t.Args.length:Int)=0)&&decide ((t.To.length:Int)=1) else if t.Kind=2 then decide ((t.Args.length:Int)=1)&&decide ((t.To.length:Int)=2)
 else if t.Kind=3 then (decide ((t.Args.length:Int)=1)&&decide (2≤(t.To.length:Int)))&&decide ((t.To.length:Int)≤65) else if t.Kind=4 then decide ((t.Args.length:Int)≤1)&&decide ((t.To.length:Int)=0)
 else if t.Kind=5 then decide ((t.Args.length:Int)=0)&&decide ((t.To.length:Int)=0) else false
theorem G0{t:D.Term}:Hl t=true↔∃s,shM t.Kind=some s∧(s.1≤(t.Args.length:Int)∧(t.Args.length:Int)≤s.2.1)∧(s.2.2.1≤(t.To.length:Int)∧(t.To.length:Int)≤s.2.2.2):=by
 unfold Hl shM
 by_cases h1:t.Kind=1
 ·simp only[h1,if_true,Bool.and_eq_true,decide_eq_true_eq,Option.some.injEq,exists_eq_left'];omega
 by_cases h2:t.Kind=2
 ·simp only[h2,if_true,show ¬(2:Int)=1 by decide,if_false,Bool.and_eq_true,decide_eq_true_eq,Option.some.injEq,exists_eq_left'];omega
 by_cases h3:t.Kind=3
 ·simp only[h3,if_true,show ¬(3:Int)=1 by decide,show ¬(3:Int)=2 by decide,if_false,Bool.and_eq_true,decide_eq_true_eq,Option.some.injEq,exists_eq_left'];omega
 by_cases h4:t.Kind=4
 ·simp only[h4,if_true,show ¬(4:Int)=1 by decide,show ¬(4:Int)=2 by decide,show ¬(4:Int)=3 by decide,if_false,Bool.and_eq_true,decide_eq_true_eq,Option.some.injEq,exists_eq_left'];omega
 by_cases h5:t.Kind=5
 ·simp only[h5,if_true,show ¬(5:Int)=1 by decide,show ¬(5:Int)=2 by decide,show ¬(5:Int)=3 by decide,show ¬(5:Int)=4 by decide,if_false,Bool.and_eq_true,decide_eq_true_eq,Option.some.injEq,exists_eq_left'];omega
 simp[h1,h2,h3,h4,h5]
inductive TAt (f:D.Func):D.Tg3→Prop
 | phi {b j:Nat}:b<f.Blocks.length→j<(ix f.Blocks b).Phis.length→TAt f (phT b j (ix (ix f.Blocks b).Phis j))
 | ins {b j:Nat}:b<f.Blocks.length→j<(ix f.Blocks b).Ins.length→TAt f (inT b j (ix (ix f.Blocks b).Ins j))
 | fin {b:Nat}:b<f.Blocks.length→TAt f (enT b (ix f.Blocks b))
theorem Q8{b:Int}{t:D.Tg3}:∀(l:List D.Phi) (i:Nat),t∈phL b i l↔∃j,j<l.length∧t=phT b (i+j) (ix l j)
 | [],i=>by simp[phL]
 | p::l,i=>by
  rw[phL,List.mem_cons,Q8 l (i+1)]
  constructor
  ·rintro(h|⟨j,h1,h2⟩)
   ·exact⟨0,by simp,by rw[h,Fq];rfl⟩
   ·exact⟨j+1,by simpa using h1,by rw[h2,Fi,show i+1+j=i+(j+1) by omega]⟩
  ·rintro⟨j,h1,h2⟩
   cases j with
   | zero=>left;rw[h2,Fq];rfl
   | succ j=>right;exact⟨j,by simpa using h1,by rw[h2,Fi,show i+1+j=i+(j+1) by omega]⟩
theorem Z8{b:Int}{t:D.Tg3}:∀(l:List D.Ins) (i:Nat),t∈inL b i l↔∃j,j<l.length∧t=inT b (i+j) (ix l j)
 | [],i=>by simp[inL]
 | p::l,i=>by
  rw[inL,List.mem_cons,Z8 l (i+1)]
  constructor
  ·rintro(h|⟨j,h1,h2⟩)
   ·exact⟨0,by simp,by rw[h,Fq];rfl⟩
   ·exact⟨j+1,by simpa using h1,by rw[h2,Fi,show i+1+j=i+(j+1) by omega]⟩
  ·rintro⟨j,h1,h2⟩
   cases j with
   | zero=>left;rw[h2,Fq];rfl
   | succ j=>right;exact⟨j,by simpa using h1,by rw[h2,Fi,show i+1+j=i+(j+1) by omega]⟩
theorem CC{t:D.Tg3}:∀(l:List D.Block) (k:Nat),t∈blL k l↔∃b,b<l.length∧((∃j,j<(ix l b).Phis.length∧t=phT ((k+b:Nat):Int) j (ix (ix l b).Phis j))∨(∃j,j<(ix l b).Ins.length∧t=inT ((k+b:Nat):Int) j (ix (ix l b).Ins j))∨t=enT ((k+b:Nat):Int) (ix l b))
 | [],k=>by simp[blL]
 | x::l,k=>by
  rw[blL,List.mem_append,List.mem_append,List.mem_cons,CC l (k+1),Q8,Z8]
  constructor
  ·rintro(⟨j,h1,h2⟩|⟨j,h1,h2⟩|h|⟨b,h1,h2⟩)
   ·exact⟨0,by simp,.inl ⟨j,by rw[Fq];exact h1,by rw[h2,Fq,Nat.zero_add];rfl⟩⟩
   ·exact⟨0,by simp,.inr (.inl ⟨j,by rw[Fq];exact h1,by rw[h2,Fq,Nat.zero_add];rfl⟩)⟩
   ·exact⟨0,by simp,.inr (.inr (by rw[h,Fq];rfl))⟩
   ·exact⟨b+1,by simpa using h1,by rw[Fi,show k+(b+1)=k+1+b by omega];exact h2⟩
  ·rintro⟨b,h1,h2⟩
   cases b with
   | zero =>
    rw[Fq] at h2
    rcases h2 with⟨j,h3,h4⟩|⟨j,h3,h4⟩|h3
    ·exact .inl ⟨j,h3,by rw[h4,Nat.zero_add];rfl⟩
    ·exact .inr (.inl ⟨j,h3,by rw[h4,Nat.zero_add];rfl⟩)
    ·exact .inr (.inr (.inl (by rw[h3];rfl)))
   | succ b =>
    rw[Fi,show k+(b+1)=k+1+b by omega] at h2
    exact .inr (.inr (.inr ⟨b,by simpa using h1,h2⟩))
theorem Gf{f:D.Func}{t:D.Tg3}:t∈Ad f↔TAt f t:=by
 unfold Ad
 rw[CC]
 simp only[Nat.zero_add]
 constructor
 ·rintro⟨b,h1,⟨j,h2,rfl⟩|⟨j,h2,rfl⟩|rfl⟩
  ·exact .phi h1 h2
  ·exact .ins h1 h2
  ·exact .fin h1
 ·rintro(⟨h1,h2⟩|⟨h1,h2⟩|h1)
  ·exact⟨_,h1,.inl ⟨_,h2,rfl⟩⟩
  ·exact⟨_,h1,.inr (.inl ⟨_,h2,rfl⟩)⟩
  ·exact⟨_,h1,.inr (.inr rfl)⟩
theorem Q7{b:Int}:∀(l:List D.Phi) (i:Nat),(phL b i l).flatMap (fun t=>t.Makes)=l.map (fun p=>p.Dst)
 | [],_=>rfl
 | p::l,i=>by rw[phL,List.flatMap_cons,Q7 l];rfl
theorem Z7{b:Int}:∀(l:List D.Ins) (i:Nat),(inL b i l).flatMap (fun t=>t.Makes)=l.flatMap Ba
 | [],_=>rfl
 | p::l,i=>by rw[inL,List.flatMap_cons,Z7 l,List.flatMap_cons];rfl
theorem CB:∀(l:List D.Block) (k:Nat),(blL k l).flatMap (fun t=>t.Makes)=l.flatMap mkB
 | [],_=>rfl
 | x::l,k=>by
  rw[blL,List.flatMap_append,List.flatMap_append,List.flatMap_cons,CB l,Q7,Z7,List.flatMap_cons,mkB,List.append_assoc];rfl
theorem D9{f:D.Func}:(Ad f).flatMap (fun t=>t.Makes)=f.Blocks.flatMap mkB:=CB _ _
def Ja(f:D.Func)(t:D.Tg3):D.Ins:=ix (ix f.Blocks t.Block.toNat).Ins t.Place.toNat
structure ThOk(f:D.Func)(t:D.Tg3):Prop where
 op:0≤t.Place→t.Place<(ix f.Blocks t.Block.toNat).Ins.length→(1≤(Ja f t).Op∧(Ja f t).Op≤18)∧Jo (Ja f t).Op (Ja f t).Args.length=true
 tm:t.Place=(ix f.Blocks t.Block.toNat).Ins.length→Hl (ix f.Blocks t.Block.toNat).Term=true
 mks:∀n∈t.Makes,f.Params≤n∧n≤8191
 to:t.Place=(ix f.Blocks t.Block.toNat).Ins.length→∀x∈(ix f.Blocks t.Block.toNat).Term.To,1≤x∧x<f.Blocks.length
def ShR(f:D.Func):Prop:=(∀t∈Ad f,ThOk f t)∧((Ad f).flatMap (fun t=>t.Makes)).Nodup
theorem S8{bs:List D.Block}:(bs.flatMap mkB).Nodup↔Once bs:=by
 constructor
 ·intro h
  refine⟨fun j=>?_,fun i j hij r hr hr2=>?_⟩
  ·rcases Nat.lt_or_ge j bs.length with hj|hj
   ·have:∀{l:List D.Block},(l.flatMap mkB).Nodup→∀x∈l,(mkB x).Nodup:=by
     intro l
     induction l with
     | nil=>intro _ x hx;cases hx
     | cons a l ih =>
      intro h x hx
      rw[List.flatMap_cons,List.nodup_append] at h
      rcases List.mem_cons.1 hx with e|e
      ·subst e;exact h.1
      ·exact ih h.2.1 x e
    exact this h _ (Ax hj)
   ·rw[Gx hj];exact List.nodup_nil
  ·rcases Nat.lt_or_ge i bs.length with hi|hi
   ·rcases Nat.lt_or_ge j bs.length with hj|hj
    ·exact Ua h hi hj hij r hr hr2
    ·rw[Gx hj] at hr2;cases hr2
   ·rw[Gx hi] at hr;cases hr
 ·intro h
  exact S7 (fun i _=>h.nd i) (fun i j hij _ x hx hx2=>h.dj j i (by omega) x hx hx2)
structure ShG(f:D.Func):Prop where
 once:Once f.Blocks
 rng:∀b,b<f.Blocks.length→∀r∈mkB (ix f.Blocks b),f.Params≤r∧r≤8191
 op:∀b,b<f.Blocks.length→∀i∈(ix f.Blocks b).Ins,(1≤i.Op∧i.Op≤18)∧(Cz i.Op).1≤(i.Args.length:Int)∧(i.Args.length:Int)≤(Cz i.Op).2
 tm:∀b,b<f.Blocks.length→Wc (ix f.Blocks b).Term
 to:∀b,b<f.Blocks.length→∀t∈(ix f.Blocks b).Term.To,1≤t∧t<f.Blocks.length
theorem J0{f:D.Func}:ShR f↔ShG f:=by
 constructor
 ·rintro⟨h,hn⟩
  refine⟨S8.1 (D9▸hn),fun b hb r hr=>?_,fun b hb i hi=>?_,fun b hb=>?_,fun b hb t ht=>?_⟩
  ·rcases Ew.1 hr with⟨i,h1,h2⟩|⟨i,h1,h2⟩
   ·exact(h _ (Gf.2 (.phi hb h1))).mks r (by rw[h2];simp[phT])
   ·exact(h _ (Gf.2 (.ins hb h1))).mks r h2
  ·obtain⟨j,hj,e⟩:=List.getElem_of_mem hi
   rw[←Bp hj] at e;subst e
   have:=(h _ (Gf.2 (.ins hb hj))).op (by show(0:Int)≤(j:Int);omega) (by show(j:Int)<_;simp only[inT,Int.toNat_natCast];omega)
   have e2:Ja f (inT b j (ix (ix f.Blocks b).Ins j))=ix (ix f.Blocks b).Ins j:=by simp[Ja,inT]
   rw[e2] at this
   exact⟨this.1,BI.1 this.2⟩
  ·have:=(h _ (Gf.2 (.fin hb))).tm (by simp[enT])
   simp only[enT,Int.toNat_natCast] at this
   exact G0.1 this
  ·have:=(h _ (Gf.2 (.fin hb))).to (by simp[enT])
   simp only[enT,Int.toNat_natCast] at this
   exact this t ht
 ·intro h
  refine⟨fun t ht=>?_,D9▸S8.2 h.once⟩
  rcases Gf.1 ht with⟨h1,h2⟩|⟨h1,h2⟩|h1
  ·refine⟨fun h9=>?_,fun h9=>?_,fun n hn=>?_,fun h9=>?_⟩
   ·simp only[phT] at h9;omega
   ·simp only[phT] at h9;omega
   ·simp only[phT,List.mem_singleton] at hn
    exact h.rng _ h1 n (Ew.2 (.inl ⟨_,h2,hn⟩))
   ·simp only[phT] at h9;omega
  ·refine⟨fun _ _=>?_,fun h9=>?_,fun n hn=>h.rng _ h1 n (Ew.2 (.inr ⟨_,h2,hn⟩)),fun h9=>?_⟩
   ·simp only[Ja,inT,Int.toNat_natCast]
    have:=h.op _ h1 _ (Ax h2)
    exact⟨this.1,BI.2 this.2⟩
   ·simp only[inT,Int.toNat_natCast] at h9;omega
   ·simp only[inT,Int.toNat_natCast] at h9;omega
  ·refine⟨fun _ h9=>?_,fun _=>?_,fun n hn=>?_,fun _=>?_⟩
   ·simp only[enT,Int.toNat_natCast] at h9;omega
   ·simp only[enT,Int.toNat_natCast];exact G0.2 (h.tm _ h1)
   ·simp[enT] at hn
   ·simp only[enT,Int.toNat_natCast];exact h.to _ h1
theorem Rl{f:D.Func}{q t:Nat}:prG (Bh f) q t↔(t:Int)∈(ix f.Blocks q).Term.To∧t<f.Blocks.length:=by
 unfold prG
 rcases Nat.lt_or_ge q f.Blocks.length with hq|hq
 ·have h1:ix (Bn (Bh f)) q=Gg (ix (Bh f) q) (Bh f).length:=by unfold Bn;rw[Ia (by rw[Jl];omega)]
  have h2:ix (Bh f) q=Gg (ix f.Blocks q).Term.To f.Blocks.length:=by unfold Bh;rw[Ia (l:=f.Blocks) (by omega)]
  rw[h1,h2,Jl,Xx,Pn]
  exact⟨fun h=>⟨h.1,by omega⟩,fun h=>⟨h.1,by omega⟩⟩
 ·rw[Gx (l:=Bn (Bh f)) (by unfold Bn Bh;simpa using hq),Gx hq]
  exact⟨fun h=>(by cases h),fun h=>(by cases h.1)⟩
theorem Zf{P:Nat→Prop}{w:Int}:∀(T:List Int) (se:List Bool) (q:List Int),(∀t∈T,0≤t→t<se.length→t≠w→P t.toNat)→(∀x,ix se x=true→P x)→(∀x∈q,0≤x∧P x.toNat) →
  (∀x,ix (Dc w se q T).1 x=true→P x)∧(∀x∈(Dc w se q T).2,0≤x∧P x.toNat)
 | [],se,q,_,h2,h3=>⟨h2,h3⟩
 | t::T,se,q,h1,h2,h3=>by
  rw[Dc]
  split
  ·rename_i h
   have hp:=h1 t (by simp) h.1.1 h.1.2 h.2.2
   refine Zf T _ _ (fun y hy h4 h5=>h1 y (by simp[hy]) h4 (by simpa using h5)) (fun x hx=>?_) (fun x hx=>?_)
   ·rw[Ch (by omega)] at hx
    split at hx
    ·rename_i e;rw[e];exact hp
    ·exact h2 x hx
   ·rcases List.mem_append.1 hx with h4|h4
    ·exact h3 x h4
    ·simp at h4;subst h4;exact⟨h.1.1,hp⟩
  ·exact Zf T _ _ (fun y hy=>h1 y (by simp[hy])) h2 h3
theorem CL{P:Nat→Prop}{bs:List D.Block}{w:Int}{n:Nat}(hc:∀x,P x→∀t∈(ix bs x).Term.To,0≤t→t<n→t≠w→P t.toNat):∀(k:Nat) (se:List Bool) (q:List Int) (i:Nat),se.length=n→(∀x,ix se x=true→P x)→(∀x∈q,0≤x∧P x.toNat)→∀x,ix (b3 bs w k se q i) x=true→P x
 | 0,se,q,i,_,h2,_=>h2
 | k+1,se,q,i,hl,h2,h3=>by
  rw[b3]
  split
  ·rename_i hi
   have h4:=h3 _ (Ax hi)
   obtain⟨h5,h6⟩:=Zf (w:=w) (ix bs (ix q i).toNat).Term.To se q (fun t ht h7 h8=>hc _ h4.2 t ht h7 (by omega)) h2 h3
   exact CL hc k _ _ _ (by rw[Rt];exact hl) h5 h6
  ·exact h2
theorem L5{f:D.Func}{w:Int}{w':Nat}(hw:∀t:Nat,t<f.Blocks.length→((t:Int)≠w↔t≠w')){b:Nat}(h:ix (Dh f w) b=true):RB (prG (Bh f)) w' b:=by
 unfold Dh at h
 split at h
 ·rename_i h0
  have z:RB (prG (Bh f)) w' 0 := .zero (fun e=>(hw 0 h0.2).1 (fun e2=>h0.1 e2.symm) e.symm)
  refine CL (P:=RB (prG (Bh f)) w') (n:=f.Blocks.length) (fun x hx t ht h1 h2 h3=>?_) _ _ _ _ (by simp) (fun x hx=>?_) (fun x hx=>?_) b h
  ·have h4:((t.toNat:Nat):Int)=t:=Int.toNat_of_nonneg h1
   exact .step hx (Rl.2 ⟨by rw[h4];exact ht,by omega⟩) ((hw t.toNat (by omega)).1 (by rw[h4];exact h3))
  ·rw[Ch (by simpa using h0.2)] at hx
   split at hx
   ·rename_i e;rw[e];exact z
   ·rw[Jh] at hx;cases hx
  ·simp at hx;subst hx;exact⟨Int.le_refl _,z⟩
 ·rw[Jh] at h;cases h
theorem L6{f:D.Func}{w:Int}{w':Nat}(hn:0<f.Blocks.length)(hw:∀t:Nat,t<f.Blocks.length→((t:Int)≠w↔t≠w')){b:Nat}(h:RB (prG (Bh f)) w' b):ix (Dh f w) b=true:=by
 have h0:w≠0:=by
  have:w'≠0:=by
   induction h with
   | zero h=>exact h
   | step _ _ _ ih=>exact ih
  exact fun e=>(hw 0 hn).2 (fun e2=>this e2.symm) (by rw[e];rfl)
 obtain⟨a,c⟩:=Xb (f:=f) h0 hn
 induction h with
 | zero h=>exact a
 | @step x t h1 h2 h3 ih =>
  have h4:=Rl.1 h2
  have:=c x ih t h4.1 (by omega) (by omega) ((hw t h4.2).2 h3)
  rwa[Int.toNat_natCast] at this
theorem HX{f:D.Func}{w:Nat}(hn:0<f.Blocks.length){b:Nat}:ix (Dh f (w:Int)) b=true↔RB (prG (Bh f)) w b :=
 ⟨L5 (fun t _=>by omega),L6 hn (fun t _=>by omega)⟩
theorem L7{f:D.Func}(hn:0<f.Blocks.length){b:Nat}:ix (Dh f (-1)) b=true↔∃w,RB (prG (Bh f)) w b:=by
 constructor
 ·exact fun h=>⟨_,L5 (w':=f.Blocks.length) (fun t ht=>by omega) h⟩
 ·rintro⟨w,h⟩
  refine L6 (w':=f.Blocks.length) hn (fun t ht=>by omega) ?_
  induction h with
  | zero _=>exact .zero (by omega)
  | step _ h2 _ ih=>exact .step ih h2 (by have:=(Rl.1 h2).2;omega)
def noT:D.Tg3:=⟨-1,0,[],[]⟩
def Kk(t:D.Tg3)(o:List D.Tg3)(n:Int):List D.Tg3:=if 0≤n∧n<8192 then o.set n.toNat t else o
def Kj(o:List D.Tg3)(t:D.Tg3):List D.Tg3:=t.Makes.foldl (Kk t) o
def Ic(l:List D.Tg3):List D.Tg3:=l.foldl Kj (List.replicate 8192 noT)
theorem I2{t:D.Tg3}{o:List D.Tg3}{n:Int}:(Kk t o n).length=o.length:=by unfold Kk;split<;>simp
theorem Wl{t:D.Tg3}:∀(l:List Int) (o:List D.Tg3),(l.foldl (Kk t) o).length=o.length
 | [],_=>rfl
 | n::l,o=>by rw[List.foldl_cons,Wl l,I2]
theorem I0:∀(l:List D.Tg3) (o:List D.Tg3),(l.foldl Kj o).length=o.length
 | [],_=>rfl
 | t::l,o=>by rw[List.foldl_cons,I0 l];exact Wl _ _
theorem I5{t:D.Tg3}{v:Nat}(hv:v<8192):∀(l:List Int) (o:List D.Tg3),o.length=8192→ix (l.foldl (Kk t) o) v=if (v:Int)∈l then t else ix o v
 | [],o,_=>by simp
 | n::l,o,ho=>by
  rw[List.foldl_cons,I5 hv l _ (by rw[I2];exact ho)]
  by_cases h1:(v:Int)∈l
  ·rw[if_pos h1,if_pos (by simp[h1])]
  ·rw[if_neg h1]
   by_cases h2:(v:Int)=n
   ·rw[if_pos (by simp[h2])]
    unfold Kk
    rw[if_pos (by omega),Ch (by omega),if_pos (by omega)]
   ·rw[if_neg (by simp[h1,h2])]
    unfold Kk
    split
    ·rw[Ch (by omega),if_neg (by omega)]
    ·rfl
theorem I1{v:Nat}(hv:v<8192):∀(l:List D.Tg3) (o:List D.Tg3),o.length=8192→(∃t∈l,(v:Int)∈t.Makes∧ix (l.foldl Kj o) v=t)∨((∀t∈l,(v:Int)∉t.Makes)∧ix (l.foldl Kj o) v=ix o v)
 | [],o,_ => .inr ⟨fun t h=>(by cases h),rfl⟩
 | t::l,o,ho=>by
  rw[List.foldl_cons]
  rcases I1 hv l (Kj o t) (by unfold Kj;rw[Wl];exact ho) with⟨t',h1,h2,h3⟩|⟨h1,h2⟩
  ·exact .inl ⟨t',by simp[h1],h2,h3⟩
  ·have h3:ix (Kj o t) v=if (v:Int)∈t.Makes then t else ix o v:=I5 hv _ _ ho
   by_cases h4:(v:Int)∈t.Makes
   ·rw[if_pos h4] at h3
    exact .inl ⟨t,by simp,h4,by rw[h2,h3]⟩
   ·rw[if_neg h4] at h3
    refine .inr ⟨fun t' ht'=>?_,by rw[h2,h3]⟩
    rcases List.mem_cons.1 ht' with e|e
    ·rw[e];exact h4
    ·exact h1 t' e
theorem H7{l:List D.Tg3}:(Ic l).length=8192:=by unfold Ic;rw[I0];exact List.length_replicate
theorem H8{l:List D.Tg3}{v:Nat}(hv:v<8192):(∃t∈l,(v:Int)∈t.Makes∧ix (Ic l) v=t)∨((∀t∈l,(v:Int)∉t.Makes)∧ix (Ic l) v=noT):=by
 rcases I1 hv l (List.replicate 8192 noT) List.length_replicate with h|⟨h1,h2⟩
 ·exact .inl h
 ·exact .inr ⟨h1,by unfold Ic;rw[h2,Bp (by rw[List.length_replicate];exact hv)];exact List.getElem_replicate _⟩
def Jt(f:D.Func)(made:List D.Tg3)(away:List (List Bool))(v b p:Int):Bool :=
 if 0≤v∧v<f.Params then true else if (v<0∨8191<v)∨(ix made v.toNat).Block<0 then false
 else if (ix made v.toNat).Block=b then decide ((ix made v.toNat).Place<0)||decide ((ix made v.toNat).Place<p)
 else !(ix (ix away (ix made v.toNat).Block.toNat) b.toNat)
theorem Sm{f:D.Func}{t:D.Tg3}(h:TAt f t):0≤t.Block∧t.Block<f.Blocks.length:=by
 rcases h with⟨h1,_⟩|⟨h1,_⟩|h1
 ·simp only[phT];omega
 ·simp only[inT];omega
 ·simp only[enT];omega
theorem H6{f:D.Func}{v:Nat}(hv:v<8192):(ix (Ic (Ad f)) v).Block<f.Blocks.length:=by
 rcases H8 (l:=Ad f) hv with⟨t,h1,_,h3⟩|⟨_,h2⟩
 ·rw[h3];exact(Sm (Gf.1 h1)).2
 ·rw[h2];show(-1:Int)<_;omega
theorem FM{f:D.Func}{t:D.Tg3}{v:Int}(h:TAt f t)(hv:v∈t.Makes):Oe f.Blocks v t.Block.toNat t.Place:=by
 rcases h with⟨h1,h2⟩|⟨h1,h2⟩|h1
 ·simp only[phT,List.mem_singleton] at hv ⊢
  exact⟨by simpa using h1,.inl ⟨_,by simpa using h2,by simpa using hv,rfl⟩⟩
 ·simp only[inT] at hv ⊢
  exact⟨by simpa using h1,.inr ⟨_,by simpa using h2,by simpa using hv,rfl⟩⟩
 ·simp[enT] at hv
theorem JP{f:D.Func}{v:Int}{wb:Nat}{wp:Int}(h:Oe f.Blocks v wb wp):∃t∈Ad f,v∈t.Makes:=by
 obtain⟨h1,⟨i,h2,h3,_⟩|⟨i,h2,h3,_⟩⟩:=h
 ·exact⟨_,Gf.2 (.phi h1 h2),by simp[phT,h3]⟩
 ·exact⟨_,Gf.2 (.ins h1 h2),h3⟩
theorem JQ{f:D.Func}(hO:Once f.Blocks){v:Int}{wb wb':Nat}{wp wp':Int}(h:Oe f.Blocks v wb wp)(h':Oe f.Blocks v wb' wp'):wb=wb'∧wp=wp':=by
 have e:=hO.at h _ h.1
 rw[hO.at h' _ h'.1] at e
 injection e with e;unfold wv at e;injection e with e;injection e with e
 simp at e
 exact⟨by omega,by omega⟩
theorem Oq{f:D.Func}(hS:ShG f)(hp0:0≤f.Params)(hn:0<f.Blocks.length){v b p:Int}(hb:0≤b∧b<f.Blocks.length):Jt f (Ic (Ad f)) (Kd f f.Blocks.length) v b p=true↔US f v b.toNat p:=by
 unfold Jt
 by_cases h1:0≤v∧v<f.Params
 ·rw[if_pos h1];exact⟨fun _ => .inl h1,fun _=>rfl⟩
 rw[if_neg h1]
 by_cases h2:v<0∨8191<v
 ·rw[if_pos (.inl h2)]
  refine⟨fun h=>(by cases h),fun h=>?_⟩
  rcases h with h|⟨wb,wp,h,_⟩
  ·exact absurd h h1
  ·have h3:v∈mkB (ix f.Blocks wb):=by
    obtain⟨_,⟨i,h4,h5,_⟩|⟨i,h4,h5,_⟩⟩:=h
    ·exact Ew.2 (.inl ⟨i,h4,h5⟩)
    ·exact Ew.2 (.inr ⟨i,h4,h5⟩)
   have:=hS.rng wb h.1 v h3
   have h9:0≤f.Params∨f.Params<0:=by omega
   rcases h2 with h2|h2
   ·omega
   ·omega
 ·have hv:((v.toNat:Nat):Int)=v:=Int.toNat_of_nonneg (by omega)
  rcases H8 (l:=Ad f) (v:=v.toNat) (by omega) with⟨t,ht,hm,e⟩|⟨hno,e⟩
  ·rw[hv] at hm
   have ha:=Gf.1 ht
   have hr:=Sm ha
   have hp:=FM ha hm
   rw[e,if_neg (by omega)]
   have hu:US f v b.toNat p↔(t.Block.toNat=b.toNat∧(t.Place<p∨t.Place<0))∨(t.Block.toNat≠b.toNat∧¬RB (prG (Bh f)) t.Block.toNat b.toNat):=by
    constructor
    ·rintro(h|⟨wb,wp,h,h3⟩)
     ·exact absurd h h1
     ·obtain⟨rfl,rfl⟩:=JQ hS.once hp h
      exact h3
    ·exact fun h => .inr ⟨_,_,hp,h⟩
   rw[hu]
   by_cases h3:t.Block=b
   ·rw[if_pos h3,h3]
    simp
    exact Or.comm
   ·rw[if_neg h3,Ru f (by omega)]
    have h4:t.Block.toNat≠b.toNat:=by omega
    have h5:=HX (f:=f) (w:=t.Block.toNat) hn (b:=b.toNat)
    simp only[Bool.not_eq_true']
    constructor
    ·intro h6
     exact .inr ⟨h4,fun h7=>by rw[h5.2 h7] at h6;cases h6⟩
    ·rintro(h6|⟨_,h6⟩)
     ·exact absurd h6.1 h4
     ·cases h7:ix (Dh f ((t.Block.toNat:Nat):Int)) b.toNat with
      | false=>rfl
      | true=>exact absurd (h5.1 h7) h6
  ·rw[hv] at hno
   rw[e,if_pos (.inr (by show(-1:Int)<0;omega))]
   refine⟨fun h=>(by cases h),fun h=>?_⟩
   rcases h with h|⟨wb,wp,h,_⟩
   ·exact absurd h h1
   ·obtain⟨t,h3,h4⟩:=JP h
    exact absurd h4 (hno t h3)
theorem M7{f:D.Func}{v:Nat}(hv:v<f.Blocks.length):∀k,Ih (Bn (Bh f)) k v=Hr f.Blocks k v
 | 0=>rfl
 | k+1=>by
  rw[Ih,Hr,M7 hv k]
  congr 1
  have h1:(v:Int)∈ix (Bn (Bh f)) k↔(v:Int)∈(ix f.Blocks k).Term.To:=⟨fun h=>(Rl.1 h).1,fun h=>Rl.2 ⟨h,hv⟩⟩
  by_cases h2:(v:Int)∈(ix f.Blocks k).Term.To
  ·rw[if_pos (h1.2 h2),if_pos (List.any_eq_true.2 ⟨_,h2,by simp⟩)]
  ·rw[if_neg (fun h3=>h2 (h1.1 h3)),if_neg (fun h3=>by
    obtain⟨y,h4,h5⟩:=List.any_eq_true.1 h3
    simp at h5;subst h5;exact h2 h4)]
theorem N4{f:D.Func}{v:Nat}(hv:v<f.Blocks.length):pd3 f v=ix (Cv (Bh f)) v:=by
 rw[Qx,Jl,M7 hv];rfl
def tIn(f:D.Func)(t:D.Tg3):List D.In:=(ix (ix f.Blocks t.Block.toNat).Phis (-1-t.Place).toNat).In
def stG(f:D.Func)(v b p:Int):Bool:=Jt f (Ic (Ad f)) (Kd f f.Blocks.length) v b p
structure ThUs(f:D.Func)(t:D.Tg3):Prop where
 tk:0≤t.Place→∀v∈t.Takes,stG f v t.Block t.Place=true
 fr:t.Place<0→0<t.Block∧(tIn f t).map (fun x=>x.From)=pd3 f t.Block
 up:t.Place<0→∀x∈tIn f t,stG f x.Val x.From (ix f.Blocks x.From.toNat).Ins.length=true
theorem Sq{f:D.Func}{b j:Nat}:tIn f (phT b j (ix (ix f.Blocks b).Phis j))=(ix (ix f.Blocks b).Phis j).In:=by
 unfold tIn phT
 simp only[Int.toNat_natCast]
 rw[show(-1-(-1-(j:Int))).toNat=j by omega]
theorem N7{f:D.Func}{b x:Int}(h:x∈pd3 f b):0≤x∧x<f.Blocks.length:=N6 x h
theorem Lr{f:D.Func}:GoodF f↔(0≤f.Params∧f.Params≤4)∧(0<f.Blocks.length∧f.Blocks.length≤512)∧f.Blocks.length+Dx f.Blocks≤4096∧ShR f∧(∀b,b<f.Blocks.length→ix (Dh f (-1)) b=true)∧∀t∈Ad f,ThUs f t:=by
 constructor
 ·intro h
  have hS:ShG f:=⟨h.once,h.rng,h.op,h.tm,h.to⟩
  refine⟨h.par,h.len,h.cnt,J0.2 hS,fun b hb=>(L7 h.len.1).2 (h.reach b hb),fun t ht=>?_⟩
  rcases Gf.1 ht with⟨h1,h2⟩|⟨h1,h2⟩|h1
  ·have hf:=h.fr _ h1 _ (Ax h2)
   refine⟨fun h9=>?_,fun _=>⟨?_,?_⟩,fun _ x hx=>?_⟩
   ·simp only[phT] at h9;omega
   ·simp only[phT];omega
   ·rw[Sq,hf.2];exact(N4 h1).symm
   ·rw[Sq] at hx
    have h4:=List.mem_map.2 ⟨x,hx,(rfl:x.From=x.From)⟩
    rw[hf.2] at h4
    have h5:=Xe h4
    rw[Jl] at h5
    exact(Oq hS h.par.1 h.len.1 h5).2 (h.up _ h1 _ (Ax h2) x hx)
  ·refine⟨fun _ v hv=>?_,fun h9=>?_,fun h9=>?_⟩
   ·refine(Oq hS h.par.1 h.len.1 (by simp only[inT];omega)).2 ?_
    simp only[inT,Int.toNat_natCast] at hv ⊢
    exact h.ui _ h1 _ h2 v hv
   ·simp only[inT] at h9;omega
   ·simp only[inT] at h9;omega
  ·refine⟨fun _ v hv=>?_,fun h9=>?_,fun h9=>?_⟩
   ·refine(Oq hS h.par.1 h.len.1 (by simp only[enT];omega)).2 ?_
    simp only[enT,Int.toNat_natCast] at hv ⊢
    exact h.ut _ h1 v hv
   ·simp only[enT] at h9;omega
   ·simp only[enT] at h9;omega
 ·rintro⟨h1,h2,h3,h4,h5,h6⟩
  have hS:=J0.1 h4
  refine⟨h1,h2,h3,hS.once,hS.rng,hS.op,hS.tm,hS.to,fun b hb=>(L7 h2.1).1 (h5 b hb),fun b hb p hp=>?_,fun b hb i hi v hv=>?_,fun b hb v hv=>?_,fun b hb p hp x hx=>?_⟩
  ·obtain⟨j,hj,e⟩:=List.getElem_of_mem hp
   rw[←Bp hj] at e;subst e
   have:=(h6 _ (Gf.2 (.phi hb hj))).fr (by simp only[phT];omega)
   rw[Sq] at this
   simp only[phT] at this
   exact⟨by omega,by rw[this.2,N4 hb]⟩
  ·have:=(h6 _ (Gf.2 (.ins hb hi))).tk (by simp only[inT];omega) v hv
   have:=(Oq hS h1.1 h2.1 (by simp only[inT];omega)).1 this
   simpa[inT] using this
  ·have:=(h6 _ (Gf.2 (.fin hb))).tk (by simp only[enT];omega) v hv
   have:=(Oq hS h1.1 h2.1 (by simp only[enT];omega)).1 this
   simpa[enT] using this
  ·obtain⟨j,hj,e⟩:=List.getElem_of_mem hp
   rw[←Bp hj] at e;subst e
   have h7:=h6 _ (Gf.2 (.phi hb hj))
   have h8:=h7.fr (by simp only[phT];omega)
   have h9:=h7.up (by simp only[phT];omega)
   rw[Sq] at h8 h9
   have ha:x.From∈pd3 f (phT b j (ix (ix f.Blocks b).Phis j)).Block:=by rw[←h8.2];exact List.mem_map.2 ⟨x,hx,rfl⟩
   exact(Oq hS h1.1 h2.1 (N7 ha)).1 (h9 x hx)
def SeI(se:List Bool)(l:List Int):Prop:=∀n:Nat,n<8192→(ix se n=true↔(n:Int)∈l)
abbrev mkT(l:List D.Tg3):List Int:=l.flatMap (fun t=>t.Makes)
theorem SeI.beg:SeI (List.replicate 8192 false) []:=fun n _=>by rw[Jh];simp
theorem SeI.put{se:List Bool}{l:List Int}{x:Int}(h:SeI se l)(hl:se.length=8192)(hx:0≤x∧x≤8191):SeI (se.set x.toNat true) (l++[x]):=fun n hn=>by
 rw[Ch (by omega),List.mem_append,List.mem_singleton]
 by_cases e:n=x.toNat
 ·rw[if_pos e];exact⟨fun _ => .inr (by omega),fun _=>rfl⟩
 ·rw[if_neg e,h n hn];exact⟨.inl,fun h9=>h9.resolve_right (by omega)⟩
theorem SeI.no{se:List Bool}{l:List Int}{x:Int}(h:SeI se l)(hx:0≤x∧x≤8191)(h0:¬ix se x.toNat=true):x∉l:=fun h9=>h0 ((h x.toNat (by omega)).2 (by rwa[Int.toNat_of_nonneg hx.1]))
theorem SeI.yes{se:List Bool}{l:List Int}{x:Int}(h:SeI se l)(hx:0≤x∧x≤8191)(h0:ix se x.toNat=true):x∈l:=by
 have:=(h x.toNat (by omega)).1 h0
 rwa[Int.toNat_of_nonneg hx.1] at this
theorem T0{l:List D.Tg3}{i j:Nat}(hi:i<l.length)(hj:(ix l i).Makes.length≤j):mkT (l.take i)++(ix l i).Makes.take j=mkT (l.take (i+1)):=by
 unfold mkT;rw[Ej hi,List.flatMap_append,List.take_of_length_le hj];simp
theorem G3{l m:List Int}{k:Nat}(hk:k<m.length):l++m.take (k+1)=(l++m.take k)++[ix m k]:=by rw[Ej hk,List.append_assoc]
theorem LJ{l:List Int}{x:Int}(h:l.Nodup)(hx:x∉l):(l++[x]).Nodup:=List.nodup_append.2 ⟨h,by simp,fun a ha b hb e=>by simp at hb;subst hb;subst e;exact hx ha⟩
theorem RG{l:List D.Tg3}{i k:Nat}(hi:i<l.length)(hk:k<(ix l i).Makes.length)(h:ix (ix l i).Makes k∈mkT (l.take i)++(ix l i).Makes.take k):¬(mkT l).Nodup:=fun hn=>by
 have e:mkT l=(mkT (l.take i)++(ix l i).Makes.take k)++(ix (ix l i).Makes k::((ix l i).Makes.drop (k+1)++mkT (l.drop (i+1)))):=by
  conv=>lhs;rw[←List.take_append_drop i l,Hf hi]
  unfold mkT
  rw[List.flatMap_append,List.flatMap_cons]
  conv=>lhs;rw[←List.take_append_drop k (ix l i).Makes,Hf hk]
  simp
 rw[e] at hn
 exact(List.nodup_append.1 hn).2.2 _ h _ (by simp) rfl
theorem Ra{P:Nat→Prop}{k:Nat}(h:∀n,n<k→P n)(h2:P k):∀n,n<k+1→P n:=fun n hn=>by
 rcases Nat.lt_or_ge n k with h3|h3
 ·exact h n h3
 ·rw[show n=k by omega];exact h2
theorem Vb{α:Type}[Inhabited α]{P:α→Prop}{l:List α}{k:Nat}(hk:k<l.length)(h:∀n∈l.take k,P n)(h2:P (ix l k)):∀n∈l.take (k+1),P n:=fun n hn=>by
 rw[Ej hk,List.mem_append] at hn
 rcases hn with h3|h3
 ·exact h n h3
 ·simp at h3;subst h3;exact h2
theorem Vd{α:Type}{P:α→Prop}{l:List α}{k:Nat}(h:∀n∈l.take k,P n)(hk:l.length≤k):∀n∈l,P n:=by rwa[List.take_of_length_le hk] at h
theorem DA{α:Type}[Inhabited α]{P:α→Prop}{l:List α}(h:∀j,j<l.length→P (ix l j)):∀t∈l,P t:=fun t ht=>by
 obtain⟨j,hj,e⟩:=List.getElem_of_mem ht
 rw[←e,←Bp hj];exact h j hj
theorem QT{α:Type}{n k:Nat}{a b x:α}(hk:k<n)(hx:x=a):(List.replicate k a++List.replicate (n-k) b).set k x=List.replicate (k+1) a++List.replicate (n-(k+1)) b:=by
 subst hx
 rw[List.set_append_right _ _ (by simp),List.length_replicate,Nat.sub_self]
 obtain⟨j,hj⟩:∃j,n-k=j+1:=⟨n-k-1,by omega⟩
 rw[hj,List.replicate_succ,List.set_cons_zero,show n-(k+1)=j by omega,List.replicate_succ',List.append_assoc];rfl
theorem QS{α:Type}[Inhabited α]{n k:Nat}{a b:α}(hk:k<n):ix (List.replicate k a++List.replicate (n-k) b) k=b:=by
 rw[Bp (by simp;omega),List.getElem_append_right (by simp)];simp
theorem G2{f:D.Func}{t:D.Tg3}(h:TAt f t)(hp:t.Place<0):0≤-1-t.Place∧(-1-t.Place).toNat<(ix f.Blocks t.Block.toNat).Phis.length:=by
 rcases h with⟨h1,h2⟩|⟨h1,h2⟩|h1
 ·simp only[phT,Int.toNat_natCast];omega
 ·simp only[inT] at hp;omega
 ·simp only[enT] at hp;omega
theorem FN{f:D.Func}{t:D.Tg3}(h:TAt f t)(hp:t.Place<0):-1-t.Place<((ix f.Blocks t.Block.toNat).Phis.length:Int):=by have:=G2 h hp;omega
def Og(f:D.Func)(t:D.Tg3)(k:Nat):Prop:=(0<t.Block∧(tIn f t).length=(pd3 f t.Block).length)∧∀m,m<k→(ix (tIn f t) m).From=ix (pd3 f t.Block) m
theorem AS{f:D.Func}{t:D.Tg3}{k:Nat}(hk:(pd3 f t.Block).length≤k):Og f t k↔(0<t.Block∧(tIn f t).map (fun x=>x.From)=pd3 f t.Block):=by
 constructor
 ·rintro⟨⟨h1,h2⟩,h3⟩
  refine⟨h1,List.ext_getElem (by simpa using h2) fun i hi hi2=>?_⟩
  rw[List.length_map] at hi
  have:=h3 i (by omega)
  rw[List.getElem_map,←Bp hi,this,Bp]
 ·rintro⟨h1,h2⟩
  have h3:(tIn f t).length=(pd3 f t.Block).length:=by rw[←h2];simp
  refine⟨⟨h1,h3⟩,fun m hm=>?_⟩
  rcases Nat.lt_or_ge m (tIn f t).length with h4|h4
  ·rw[←h2,Ia h4]
  ·rw[Gx h4,Gx (by omega)];rfl
theorem QP{f:D.Func}{t:D.Tg3}{k:Nat}{ft2:Bool}(h:Og f t k)(h2:ft2=decide ((ix (tIn f t) k).From=ix (pd3 f t.Block) k)):ft2=true↔Og f t (k+1):=by
 rw[h2,decide_eq_true_eq]
 exact⟨fun h3=>⟨h.1,Ra h.2 h3⟩,fun h3=>h3.2 k (by omega)⟩
theorem QQ{f:D.Func}{t:D.Tg3}{k m:Nat}(h:Og f t m)(hk:k≤m):Og f t k:=⟨h.1,fun j hj=>h.2 j (by omega)⟩
theorem Yx(l:List D.Block):Bw l=l.length+Dx l:=by
 induction l with
 | nil=>rfl
 | cons x l ih=>unfold Dx at ih ⊢;rw[Bw,ih,List.map_cons,List.sum_cons,List.length_cons];omega
theorem UB:Ent Tryz.prog 188:=⟨_,Tryz.func188,by kernel_rfl,by kernel_rfl⟩
theorem UA:Ent Tryz.prog 189:=⟨_,Tryz.func189,by kernel_rfl,by kernel_rfl⟩
theorem Nj(n:Int)(a:Int)(b:Int):Tv Tryz.prog 114 #[.int .i64 n,.int .i64 a,.int .i64 b] [] [] (.bool (Ge n a b)):=by
 refine Az (args:=[.int .i64 n,.int .i64 a,.int .i64 b]) Tryz.func114 rfl rfl rfl fun w0 X=>?_
 refine jq (jr (ja Z (jn (jx (jq (jr (jm Z (jm Z (js (Gj Z Z) (jm Z (jg Z Z (.t _) (fun hg=>jmv Z) ?_)))))))))))
 refine jg Z Z (.t _) (fun hg=>jmv Z) (jg Z Z (.t _) (fun hg=>Nv (evg Z hg) (evg Z hg)) (js (Cf Z Z) (ja Z (jn (jx (jrt ?_))))))
 exact jrB Z Z (by unfold Ge;rfl)
theorem KO(op:Int):Tv Tryz.prog 162 #[.int .i64 op] [] [] (.tuple #[.int .i64 ((Cz op).1),.int .i64 ((Cz op).2)]):=by
 refine Az (args:=[.int .i64 op]) Tryz.func162 rfl rfl rfl fun w0 X=>?_
 refine jq (jr (ja Z (ja Z (jn (jx (jq (jq (jr (jm Z (jn (jx ?_)))))))))))
 refine jb (jq (jr (js (Ao Z Z) (ja Z (jn (jx ?_))))))
 refine jif Z (fun hc1=>?_) (fun hc1=>?_)
 refine jq (jr (ja Z (ja Z (jn (jx (jrt (jbr (jtr ?_))))))))
 exact jr2 Z Z Z () (tII (by first|(simp[Cz, *];done)|(unfold Cz;(repeat' split)<;>first|rfl|(exfalso;omega)|simp_all))) dn (fun _ _=>kn)
 refine jq (jr (js (Ao Z Z) (ja Z (jn (jx ?_)))))
 refine jif Z (fun hc2=>?_) (fun hc2=>?_)
 refine jq (jr (ja Z (ja Z (jn (jx (jrt (jbr (jtr ?_))))))))
 exact jr2 Z Z Z () (tII (by first|(simp[Cz, *];done)|(unfold Cz;(repeat' split)<;>first|rfl|(exfalso;omega)|simp_all))) dn (fun _ _=>kn)
 refine jq (jr (js (Ao Z Z) (ja Z (jn (jx ?_)))))
 refine jif Z (fun hc3=>?_) (fun hc3=>?_)
 refine jq (jr (ja Z (ja Z (jn (jx (jrt (jbr (jtr ?_))))))))
 exact jr2 Z Z Z () (tII (by first|(simp[Cz, *];done)|(unfold Cz;(repeat' split)<;>first|rfl|(exfalso;omega)|simp_all))) dn (fun _ _=>kn)
 refine jsk (jbn (jx (jq (jr (ja Z (ja Z (jn (jx (jrt ?_)))))))))
 exact jr2 Z Z Z () (tII (by first|(simp[Cz, *];done)|(unfold Cz;(repeat' split)<;>first|rfl|(exfalso;omega)|simp_all))) dn (fun _ _=>kn)
theorem MW{a0:Value}{i:D.Ins}:Td Tryz.prog 163 #[vIns i a0] [da Am (vIns i a0) i] [] (rL (rI .i64)) (Ba i):=by
 refine Az (args:=[vIns i a0]) Tryz.func163 rfl rfl rfl fun w0 X=>?_
 refine jq (jr (Cm Z Z fun g1=>ja Z (jn (jx (jq (jq (jr (js (jf Ke Z) (js (jl k0 O3 Z Z) (jn ?_))))))))))
 refine jx (jb (jq (jr (js (Ao Z Z) (ja Z (jn (jx ?_)))))))
 refine jif Z (fun hc1=>?_) (fun hc1=>?_)
 refine jq (jr (ja Z (jn (jx (jrt (jbr (jtr ?_)))))))
 exact jrD Z Z (by first|(simp[Ba, *];done)|(unfold Ba;(repeat' split)<;>first|rfl|(exfalso;omega)|simp_all)) wN
 refine jq (jr (js (Ao Z Z) (ja Z (jn (jx ?_)))))
 refine jif Z (fun hc2=>?_) (fun hc2=>?_)
 refine jq (jr (js (jf Gn Z) (js (jl k0 O3 Z Z) (js (jf Vm Z) (js (jl k0 O3 Z Z) (Bg (r:=(rI .i64)) (l:=[i.Dst,i.Two]) U22 I3 (by decide) Z Z Z (lV Z Z (wI (Am.W_Dst d0)) (lV Z Z (wI (Am.W_Two d0)) ln)) fun g13=>ja Z (jn (jx (jrt (jbr ?_))))))))))
 refine jtr (qfz k0 (by(try simp)<;>omega) ?_)
 exact jrD Z Z (by first|(simp[Ba, *];done)|(unfold Ba;(repeat' split)<;>first|rfl|(exfalso;omega)|simp_all)) d0
 refine jsk (jbn (jx (jq (jr (js (jf Gn Z) (js (jl k0 O3 Z Z) (Bg (r:=(rI .i64)) (l:=[i.Dst]) U22 I3 (by decide) Z Z Z (lV Z Z (wI (Am.W_Dst d0)) ln) fun g16=>ja Z (jn (jx (jrt ?_))))))))))
 refine qfz k0 (by(try simp)<;>omega) ?_
 exact jrD Z Z (by first|(simp[Ba, *];done)|(unfold Ba;(repeat' split)<;>first|rfl|(exfalso;omega)|simp_all)) d0
theorem RT{a0:Value}{idom:List Int}{a1:Value}{num:List Int}(a:Int)(b:Int)(hok:DY idom num a b):Tv Tryz.prog 186 #[a0,a1,.int .i64 a,.int .i64 b] [dv (rL (rI .i64)) a0 idom,dv (rL (rI .i64)) a1 num] [] (.int .i64 (Ky idom num a b)):=by
 refine Az (args:=[a0,a1,.int .i64 a,.int .i64 b]) Tryz.func186 rfl rfl rfl fun w0 X=>?_
 obtain⟨n,pr,hg,hnl,hv,hc0⟩:=hok
 refine jq (jr (ja Z (jn (jx (jsc (jq (X8 (jx (jq (jb ?_))))))))))
 refine jlp (u3 fun(f:Nat) (a9:Int) (b9:Int)=>⟨CO n num idom a b a9 b9∧Ky idom num a b=Ip idom num f a9 b9∧(ix num a9.toNat).toNat+(ix num b9.toNat).toNat<f,[dv (rL (rI .i64)) a0 idom,dv (rL (rI .i64)) a1 num],[],[(0,a0),(1,a1),(2,.int .i64 a9),(3,.int .i64 b9),(8,.int .i64 0)],f⟩) ((ix num a.toNat).toNat+(ix num b.toNat).toNat+1,a,b) ⟨hc0,rfl,Nat.lt_succ_self _⟩ (dc d0 (dc d1 dn)) kn ⟨Z,Z,Z,Z,Z,trivial⟩ ?_
 rintro⟨f,a9,b9⟩;dsimp only[u3];rintro⟨hco,hcm,hfu⟩
 have ra:=hco.ra
 have rb:=hco.rb
 have na:=(hg.rng a9.toNat (by omega))
 have nb:=(hg.rng b9.toNat (by omega))
 have hil:=hv.len
 refine jb (jb (jq (Gh Bi (by kernel_rfl) (jt (jmv Z) (jt (jmv Z) (tdq d1 fun q1 w1=>jt (jix (i:=a9.toNat) U22 Z3 d1 Z Z (by omega) (by omega)) (jt (jlI (dix d1 a9.toNat (by omega)) O3 Z) (jt (jmv Z) (jt (jmv Z) (jt (jix (i:=b9.toNat) U22 Z3 d1 Z Z (by omega) (by omega)) ?_))))))))))
 refine jt (jlI (dix d1 b9.toNat (by omega)) O3 Z) (jt (Ee Z Z) (jt (jas Z) (jdn (jx ?_))))
 refine jif Z (fun hc1=>?_) (fun hc1=>?_)
 refine jr (jm Z (jm Z (jdq d0 fun q2 w2=>js (jix (i:=a9.toNat) U22 Z3 d0 Z Z (by omega) (by omega)) (js (jlI (dix d0 a9.toNat (by omega)) O3 Z) (ja Z (jn (jbn (jbn ?_))))))))
 exact jag (f-1,ix idom a9.toNat,b9) ⟨(hco.left hg hv (by omega)).1,by rw[hcm,RX (by omega) (by omega)],by have:=(hco.left hg hv (by omega)).2;have:=(hco.left hg hv (by omega)).1.ra;have:=hg.rng _ (show(ix idom a9.toNat).toNat<n by omega);dsimp only;omega⟩ (dc d0 (dc d1 dn)) kn ⟨Z,Z,Z,Z,Z,trivial⟩
 refine jq (Gh Bi (by kernel_rfl) (jt (jmv Z) (jt (jmv Z) (jt (jix (i:=b9.toNat) U22 Z3 d1 Z Z (by omega) (by omega)) (jt (jlI (dix d1 b9.toNat (by omega)) O3 Z) (jt (jmv Z) (jt (jmv Z) (jt (jix (i:=a9.toNat) U22 Z3 d1 Z Z (by omega) (by omega)) (jt (jlI (dix d1 a9.toNat (by omega)) O3 Z) (jt (Ee Z Z) (jt (jas Z) ?_)))))))))))
 refine jdn (jx ?_)
 refine jif Z (fun hc2=>?_) (fun hc2=>?_)
 refine jr (jm Z (jm Z (jdq d0 fun q3 w3=>js (jix (i:=b9.toNat) U22 Z3 d0 Z Z (by omega) (by omega)) (js (jlI (dix d0 b9.toNat (by omega)) O3 Z) (ja Z (jn (jbn (jbn ?_))))))))
 exact jag (f-1,a9,ix idom b9.toNat) ⟨(hco.right hg hv (by omega)).1,by rw[hcm,RV (by omega) (by omega)],by have:=(hco.right hg hv (by omega)).2;have:=(hco.right hg hv (by omega)).1.rb;have:=hg.rng _ (show(ix idom b9.toNat).toNat<n by omega);dsimp only;omega⟩ (dc d0 (dc d1 dn)) kn ⟨Z,Z,Z,Z,Z,trivial⟩
 refine jex (jbo (jbo (jtx (jbh (jx (jq (jr (jm Z (ja Z (jn (jx ?_)))))))))))
 refine jrt (jso ?_)
 exact jrI Z Z (by rw[hcm,RY (by omega) (by omega)])
theorem W5{a0:Value}{row:List Int}(n:Int):Tg Tryz.prog 181 #[a0,.int .i64 n] [dv (rL (rI .i64)) a0 row] [] (rI .i64) 3 (Gg row n):=by
 refine Az (args:=[a0,.int .i64 n]) Tryz.func181 rfl rfl rfl fun w0 X=>?_
 refine jq (jr (ja Z (jn (jx (jq (jr (ja Z (jn (jx (jq (jq ?_)))))))))))
 refine jr (jm Z (jdq d0 fun q1 w1=>js (jln U22 d0 Z) (jm Z (jn (jx (jb (cnl (r:=(rI .i64)) (E:=3) ?_)))))))
 refine jlp (u3 fun(k:Nat) (fs:List Int) (vo:Value)=>⟨k≤row.length∧fs=(row.take k).filter (fun b=>decide (0≤b)&&decide (b<n)),[dv (rL (rI .i64)) a0 row],[gl X.n (rI .i64) 3 vo fs],[(1,.int .i64 n),(4,.slice none 0 0),(5,vo),(8,a0),(9,.int .i64 (↑row.length)),(10,.int .i64 (↑k))],row.length-k⟩) (0,[],.slice none 0 0) ⟨by dsimp only;omega,rfl⟩ (dc d0 dn) (kc k0 kn) ⟨Z,Z,Z,Z,Z,eqI (by omega),trivial⟩ ?_
 rintro⟨k,fs,vo⟩;dsimp only[u3];rintro⟨hk,hfs⟩
 refine cgo k0 fun w2=>?_
 have hfl:fs.length≤k:=by rw[hfs];exact Nat.le_trans (List.length_filter_le _ _) (by rw[List.length_take];omega)
 refine jq (jr (js (Ar Z Z) (jn (jx (jq ?_)))))
 refine jif Z (fun hc1=>?_) (fun hc1=>?_)
 refine jsk (jx (jq (jb (jq (jr (js (jix U22 Z3 d0 Z Z Z (by omega)) (js (jlI (dix d0 k (by omega)) O3 Z) (ja Z (jn (jx (jq ?_)))))))))))
 refine jr (jm Z (js (Gj Z Z) (jm Z (jg Z Z (.t _) (fun hg=>jmv Z) (jg Z Z (.t _) (fun hg=>jmv Z) (jg Z Z (.t _) (fun hg=>Ar (evg Z hg) (evg Z hg)) (js (Cf Z Z) (jn (jx ?_)))))))))
 refine jif Z (fun hc2=>?_) (fun hc2=>?_)
 refine jr (jm Z (jm Z (Gk U22 I3 (by decide) Z Z k0 Z (wI (wad (dix d0 k (by omega)))) (by omega) (fun _=>Z) fun v24 _ w3=>ja Z (jn (jbn (jx (jr (js (Al Z Z (by omega)) (jm Z (jn ?_))))))))))
 exact jag (k+1,fs++[ix row k],v24) ⟨by dsimp only;omega,by dsimp only;rw[AU (by omega),hfs,if_pos (by simp;omega)]⟩ (dc d0 dn) (kc k0 kn) ⟨Z,Z,Z,Z,Z,eqI (by omega),trivial⟩
 refine jsk (jbn (jx (jr (js (Al Z Z (by omega)) (jm Z (jn ?_))))))
 exact jag (k+1,fs,vo) ⟨by dsimp only;omega,by dsimp only;rw[AU (by omega),hfs,if_neg (by simp;omega),List.append_nil]⟩ (dc d0 dn) (kc k0 kn) ⟨Z,Z,Z,Z,Z,eqI (by omega),trivial⟩
 refine jex (jtx (jtx (jbh (jx (jq (jr (jm Z (jc UB Z Z (GF (by omega)) dn (kc k0 kn) (fun _=>p0) (fun _=>p1) fun _=>jn (jx (jq ?_))))))))))
 refine jr (jm Z (jc UA Z Z (RS (by unfold Hx;rw[List.length_mergeSort];omega)) dn (kc k0 kn) (fun _=>p0) (fun _=>p1) fun v29=>jgo k0 fun w4=>ja Z (jn (jx (jrt ?_)))))
 exact jrG Z Z (by rw[Gg,hfs,List.take_of_length_le (by omega)]) k0
theorem DR:Ent Tryz.prog 181:=⟨_,Tryz.func181,by kernel_rfl,by kernel_rfl⟩
theorem BP{a0:Value}{g:List (List Int)}:Td Tryz.prog 182 #[a0] [dv (rL (rL (rI .i64))) a0 g] [] (rL (rL (rI .i64))) (Bn g):=by
 refine Az (args:=[a0]) Tryz.func182 rfl rfl rfl fun w0 X=>?_
 refine jq (jr (ja Z (jn (jx (jq (jr (jm Z (jdq d0 fun q1 w1=>js (jln Df d0 Z) (jmk (m:=g.length) (r:=(rL (rI .i64))) Df I22 Z Z Z Z Z (by omega) wN Z fun g8=>ja Z ?_)))))))))
 refine jn (jx (jq (jq (jr (jm Z (js (jln Df d0 Z) (jm Z (jn (jx (jb ?_))))))))))
 refine jlp (u2 fun(k:Nat) (rs:List (List Int))=>⟨k≤g.length∧rs=(Bn g).take k++List.replicate (g.length-k) [],[dv (rL (rL (rI .i64))) a0 g],[gl X.n (rL (rI .i64)) 22 (.slice (some ⟨g8,0,none⟩) g.length g.length) rs],[(0,a0),(2,.slice none 0 0),(3,(.slice (some ⟨g8,0,none⟩) g.length g.length)),(9,a0),(10,.int .i64 (↑g.length)),(11,.int .i64 (↑k))],g.length-k⟩) (0,List.replicate g.length ([])) ⟨by dsimp only;omega,by simp⟩ (dc d0 dn) (kc k0 kn) ⟨Z,Z,Z,Z,Z,eqI (by omega),trivial⟩ ?_
 rintro⟨k,rs⟩;dsimp only[u2];rintro⟨hk,hrs⟩
 have hfl:(Bn g).length=g.length:=by simp[Bn,Bh]
 have hrl:rs.length=g.length:=by rw[hrs,List.length_append,List.length_take,List.length_replicate];omega
 refine jq (jr (js (Ar Z Z) (jn (jx (jq ?_)))))
 refine jif Z (fun hc1=>?_) (fun hc1=>?_)
 have hkl:=W0 (ix g k) g.length
 refine jsk (jx (jq (jb (jq (jr (jm Z (js (jix Df Z22 d0 Z Z Z (by omega)) (jev (jlV (dix d0 k (by omega)) O22 Z Z) fun v15 q2 w2=>ja Z (ja Z (jn ?_))))))))))
 refine jx (jr (jm Z (jm Z (jm Z (jm Z (js (jln Df d1 Z) (jcg DR Z Z (W5 (↑g.length)) (dc d0 dn) kn fun v21 w4=>js (jig Df Z22 k1 Z Z Z (by omega)) (jfz k0 (by(try simp)<;>omega) (jsg k0 Z Z22 Z Z w4.one (by omega) d0 (jn ?_))))))))))
 refine jbn (jx (jr (js (Al Z Z (by omega)) (jm Z (jn ?_)))))
 exact jag (k+1,List.set rs k (Gg (ix g k) (((List.length g:Nat):Int)))) ⟨by dsimp only;omega,by dsimp only;rw[hrs];exact K6 (by omega) (by omega) (by rw[Bn,Ia (by omega)])⟩ (dc d2 dn) (kc k0 kn) ⟨Z,Z,Z,Z,Z,eqI (by omega),trivial⟩
 refine jex (jtx (jtx (jbh (jx (jq (jr (jm Z (ja Z (jn (jx (jrt ?_)))))))))))
 refine qfz k0 (by omega) ?_
 exact jrD Z Z (by rw[hrs,List.take_of_length_le (by omega),show g.length-k=0 by omega];simp) d0
theorem PV{a0:Value}{f:D.Func}:Td Tryz.prog 165 #[vFunc f a0] [da Aj (vFunc f a0) f] [] (rL (rL (rI .i64))) (Bh f):=by
 refine Az (args:=[vFunc f a0]) Tryz.func165 rfl rfl rfl fun w0 X=>?_
 refine jq (jr (Cm Z Z fun g1=>ja Z (jn (jx (jq (jr (js (jf Bu Z) (js (jl k0 O47 Z Z) (jdq (Aj.cB d0) fun q1 w1=>js (jln U47 (Aj.cB d0) Z) ?_)))))))))
 refine jmk (m:=(List.length f.Blocks)) (r:=(rL (rI .i64))) Df I22 Z Z Z Z Z (by omega) wN Z fun g9=>ja Z (jn (jx (jq (jq (jr (js (jf Bu Z) (js (jl k1 O47 Z Z) (js (jln U47 (Aj.cB d0) Z) (jm Z (jn ?_))))))))))
 refine jx (jb ?_)
 refine jlp (u2 fun(k:Nat) (rs:List (List Int))=>⟨k≤f.Blocks.length∧rs=(Bh f).take k++List.replicate (f.Blocks.length-k) [],[da Aj (vFunc f a0) f],[gl X.n (rL (rI .i64)) 22 (.slice (some ⟨g9,0,none⟩) (List.length f.Blocks) (List.length f.Blocks)) rs,bx g1 49 [.int .i64 f.Params,a0]],[(1,.pointer (some ⟨g1,0,none⟩)),(2,.slice none 0 0),(3,(.slice (some ⟨g9,0,none⟩) (List.length f.Blocks) (List.length f.Blocks))),(11,a0),(12,.int .i64 (↑(List.length f.Blocks))),(13,.int .i64 (↑k))],f.Blocks.length-k⟩) (0,List.replicate (List.length f.Blocks) ([])) ⟨by dsimp only;omega,by simp⟩ (dc d0 dn) (kd kn) ⟨Z,Z,Z,Z,Z,eqI (by omega),trivial⟩ ?_
 rintro⟨k,rs⟩;dsimp only[u2];rintro⟨hk,hrs⟩
 have hfl:(Bh f).length=f.Blocks.length:=by simp[Bn,Bh]
 have hrl:rs.length=f.Blocks.length:=by rw[hrs,List.length_append,List.length_take,List.length_replicate];omega
 refine jq (jr (js (Ar Z Z) (jn (jx (jq ?_)))))
 refine jif Z (fun hc1=>?_) (fun hc1=>?_)
 have hkl:=W0 (ix f.Blocks k).Term.To f.Blocks.length
 refine jsk (jx (jq (jb (jq (jr (jm Z (js (jix U47 Z62 (Aj.cB d0) Z Z Z (by omega)) (jA4 Le (jlA (dix (Aj.cB d0) k (by omega)) A62 Z62 Z) fun c17a c17b c17c c17d=>Bo J62 Z fun g5=>ja Z (jdq (Af.cP d0) fun q3 w3=>?_)))))))))
 refine jdq (Af.cI d0) fun q4 w4=>jdq (Af.c_Term_Args d0) fun q5 w5=>jdq (Af.c_Term_To d0) fun q6 w6=>Bk k0 Z62 Z Z Z ⟨w3.one,w4.one,Z,w5.one,w6.one,Z,trivial⟩ (saf Z) (jn (jx (jr (jm Z (jm Z (js (jf Eh Z) (js (jf Ei Z) (js (jl k0 O22 Z Z) ?_))))))))
 refine js (jf Bu Z) (js (jl k2 O47 Z Z) (js (jln U47 (Aj.cB d1) Z) (jcg DR Z Z (W5 (↑(List.length f.Blocks))) (dc (Af.c_Term_To d0) dn) kn fun v26 w7=>js (jig Df Z22 k2 Z Z Z (by omega)) (jfz k0 (by(try simp)<;>omega) (jsg k1 Z Z22 Z Z w7.one (by omega) d0 (jn (jbn (jx (jr (js (Al Z Z (by omega)) ?_))))))))))
 refine jm Z (jn ?_)
 exact jag (k+1,List.set rs k (Gg (((ix f.Blocks k).Term).To) (((List.length f.Blocks:Nat):Int)))) ⟨by dsimp only;omega,by dsimp only;rw[hrs];exact K6 (by omega) (by omega) (by rw[Bh,Ia (by omega)])⟩ (dc d2 dn) (kc k0 (kc k1 kn)) ⟨Z,Z,Z,Z,Z,eqI (by omega),trivial⟩
 refine jex (jtx (jtx (jbh (jx (jq (jr (jm Z (ja Z (jn (jx (jrt ?_)))))))))))
 refine qfz k0 (by omega) ?_
 exact jrD Z Z (by rw[hrs,List.take_of_length_le (by omega),show f.Blocks.length-k=0 by omega];simp) d0
end Go.Proofs.YtmfkkodnghambaaGreat
namespace Go.JE
variable{P:Program}{D:List Dt}{L M:List Res}{e:Env}{H:Heap}{T T' E:TypeId}{x y:Operand}{p:Option Addr}
section
variable{α:Type} [Inhabited α]{r:Rp α}{F:PH}{v:Value}{l:List α}{B i off:Nat}{k:IntKind}{n:Int}
end
section
variable{Q:Exit→Act→World→Prop}{X:Cx}{w0:World}{fn:Func}{m:Nat}{ι:Type}{val:ι→Value}{dr:ι→List Dt}{lr:Nat→ι→List Res}{N:List Res}
end
end Go.JE
namespace Go.JE
variable{P:Program}{D Ds:List Dt}{L M Ls:List Res}{e:Env}{X:Cx}{n:Fs}{w0:World}{Q:Exit→Act→World→Prop}{FS:PH}
variable{ops:Array Oper}{op:Op}{d:Nat}{ty:TypeId}{pos:String}{af:Array Edge}{rest l:List Oper}{z:Bool}{is:Od}{i:Nat}
theorem NP{D0:List Dt}{L0 N:List Res}{f:FuncId}{g:Operand}{xs:List Operand}{vs cs:List Value}{ts:Array TypeId}{v:Value}{j t:Nat}{want B:Bool}{u:Value}(hj:(ops[j]?).bind (·.dst)=some t)(hu:lk e t=some u)(hB:Gd u want B)(hE:Ent P f)(hf:B=true→ev e g=some (.func (.func f) #[] cs.toArray))(hl:B=true→evl e xs=some vs)(hT:B=true→Tr P f (vs++cs).toArray D0 L0 (fun _:Unit=>v) (fun _=>[]) (fun _ _=>L0))(hd:B=true→Sd D L D0)(hk:Tks L L0 M)(hq:Ap L0 M N)
  (k:LH P n w0 ops Q X D N ((d,gv B v)::e) rest) (hd1:Nat.blt d n.sz=true:=by rfl) (ht:Nat.blt t n.sz=true:=by rfl):LH P n w0 ops Q X D L e (⟨some d,.call { callee := .value g,args:=xs.toArray,argTypes:=ts },ty,pos,af,some (j,want)⟩::rest):=fun F H h=>by
 refine LF.gcallF hj hu hB (fun hb=>Iv.fnc hE (hf hb) (hl hb)) (fun hb=>(hT hb).run h (hd hb) hk) (fun v' H' hz=>?_) hd1 ht
 rcases hz with⟨hb,i,F',rfl,h2⟩|⟨hb,rfl⟩
 ·exact k F' H' (hq▸h2)
 ·subst hb
  refine k F H' (hq▸⟨h.hx,h.hin,h.hw,h.hd,?_,fun k h1=>h.ge k (hk.own (Own.app.1 h1))⟩)
  obtain⟨a,b,c⟩:=hk.ok h.ok
  exact Ok.app a b c
end Go.JE
namespace Go.Proofs.YtmfkkodnghambaaGreat
open Go.JE
theorem Zx:Ent Tryz.prog 187:=⟨_,Tryz.func187,by kernel_rfl,by kernel_rfl⟩
theorem Yg(n:Int){av:Value}{l:List Int}{g1:Nat}:Tr Tryz.prog 187 #[.int .i64 n,.pointer (some ⟨g1,0,none⟩)] [dv (rL (rI .i64)) av l] [bx g1 22 [av]] (fun _:Unit => .bool (Kv n l)) (fun _=>[]) (fun _ _=>[bx g1 22 [av]]):=by
 refine Az (args:=[.int .i64 n,.pointer (some ⟨g1,0,none⟩)]) Tryz.func187 rfl rfl rfl fun w0 X=>?_
 refine jq (jr (ja Z (jn (jx (jq (jr (jm Z (js (Gj Z Z) (jm Z (jg Z Z (.t _) (fun hg=>jmv Z) (jg Z Z (.t _) (fun hg=>jl k0 O22 Z Z) ?_)))))))))))
 refine jdq d0 fun q1 w1=>jg Z Z (.t _) (fun hg=>jln U22 d0 (evg Z hg)) (jg Z Z (.t _) (fun hg=>Ar (evg Z hg) (evg Z hg)) (js (Cf Z Z) (ja Z (jn (jx (jrt ?_))))))
 exact jr1 Z Z () (congrArg Value.bool (Eq.symm (by unfold Kv inR;rfl))) dn (fun _ _=>(kc k0 kn))
theorem RJ{a0:Value}{idom:List Int}(a:Int)(b:Int):Tv Tryz.prog 170 #[a0,.int .i64 a,.int .i64 b] [dv (rL (rI .i64)) a0 idom] [] (.bool (Kx idom a b)):=by
 refine Az (args:=[a0,.int .i64 a,.int .i64 b]) Tryz.func170 rfl rfl rfl fun w0 X=>?_
 refine jq (jr (jdq d0 fun q1 w1=>Cm Z w1.cells fun g3=>ja Z (jn (jx (jq (jr (js (Uj Z) (ja Z (jn ?_)))))))))
 refine jx (jq (jq (jr (jm Z (jm Z (jc Zx Z Z (Yg a) (dc d0 dn) (kc k0 kn) (fun _=>p0) (fun _=>p1) fun _=>js (Dq Z) (jm Z (jg Z Z (.f _) (fun hg=>jmv Z) (jg Z Z (.f _) (fun hg=>jmv Z) (NP Z Z (.f _) Zx (fun hg=>evg Z hg) (fun hg=>Yr (evg Z hg)) (fun hg=>(Yg b)) (fun hg=>(dc d0 dn)) (kc k0 kn) p1 ?_))))))))))
 refine jg Z Z (.f _) (fun hg=>Dq (evg Z hg)) (js (jor Z Z) (jn (jx ?_)))
 refine jif Z (fun hc1=>?_) (fun hc1=>?_)
 refine jq (jr (ja Z (jn (jx (jrt (jtr ?_))))))
 exact jrB Z Z (by first|(exact Uw (by simpa using hc1))|(rw[hdm,show idom.length+1-k=(idom.length-k)+1 by omega,Hg,if_pos hc3])|(rw[hdm,show idom.length+1-k=(idom.length-k)+1 by omega,Hg,if_neg hc3,if_neg (Uq (by simpa using hc4))])|(rw[hdm,show idom.length+1-k=0 by omega];rfl))
 have hia:inR idom a=true:=by simp[Kv] at hc1;exact hc1.1
 have hib:inR idom b=true:=by simp[Kv] at hc1;exact hc1.2
 refine jsk (jx (jq (jq (jr (js (jl k0 O22 Z Z) (js (jln U22 d0 Z) (js (Al Z Z (by omega)) (jm Z (jn (jx (jb ?_)))))))))))
 refine jlp (u2 fun(k:Nat) (b9:Int)=>⟨k≤idom.length+1∧Kx idom a b=Hg idom a (idom.length+1-k) b9,[dv (rL (rI .i64)) a0 idom],[bx g3 22 [a0]],[(1,.int .i64 a),(2,.int .i64 b9),(3,.pointer (some ⟨g3,0,none⟩)),(7,.func (.func 187) #[] #[.pointer (some ⟨g3,0,none⟩)]),(21,.int .i64 ((↑idom.length)+1)),(22,.int .i64 (↑k))],idom.length+1-k⟩) (0,b) ⟨by dsimp only;omega,by dsimp only;rw[Kx,if_pos ⟨hia,hib⟩];rfl⟩ (dc d0 dn) (kc k0 kn) ⟨Z,Z,Z,Z,Z,eqI (by omega),trivial⟩ ?_
 rintro⟨k,b9⟩;dsimp only[u2];rintro⟨hk,hdm⟩
 refine jq (jr (js (Ar Z Z) (jn (jx (jq ?_)))))
 refine jif Z (fun hc2=>?_) (fun hc2=>?_)
 refine jsk (jx (jq (jb (jq (jq (jr (jm Z (jm Z (js (Ao Z Z) (jn (jx ?_)))))))))))
 refine jif Z (fun hc3=>?_) (fun hc3=>?_)
 refine jq (jr (ja Z (jn (jx (jrt (jtr (jbr (jtr (jtr (jbr (jtr ?_)))))))))))
 exact jrB Z Z (by first|(exact Uw (by simpa using hc1))|(rw[hdm,show idom.length+1-k=(idom.length-k)+1 by omega,Hg,if_pos hc3])|(rw[hdm,show idom.length+1-k=(idom.length-k)+1 by omega,Hg,if_neg hc3,if_neg (Uq (by simpa using hc4))])|(rw[hdm,show idom.length+1-k=0 by omega];rfl))
 refine jsk (jx (jq (jq (jr (jm Z (jm Z (jc Zx Z Z (Yg b9) (dc d0 dn) (kc k0 kn) (fun _=>p0) (fun _=>p1) fun _=>js (Dq Z) (jn (jx ?_)))))))))
 refine jif Z (fun hc4=>?_) (fun hc4=>?_)
 refine jq (jr (ja Z (jn (jx (jrt (jtr (jbr (jtr (jtr (jbr (jtr ?_)))))))))))
 exact jrB Z Z (by first|(exact Uw (by simpa using hc1))|(rw[hdm,show idom.length+1-k=(idom.length-k)+1 by omega,Hg,if_pos hc3])|(rw[hdm,show idom.length+1-k=(idom.length-k)+1 by omega,Hg,if_neg hc3,if_neg (Uq (by simpa using hc4))])|(rw[hdm,show idom.length+1-k=0 by omega];rfl))
 have hin9:=Z6 (by simpa using hc4)
 refine jsk (jx (jr (js (jl k0 O22 Z Z) (jm Z (js (jix (i:=b9.toNat) U22 Z3 d0 Z Z (by omega) (by omega)) (js (jlI (dix d0 b9.toNat (by omega)) O3 Z) (ja Z (jn (jbn (jx (jr ?_)))))))))))
 refine js (Al Z Z (by omega)) (jm Z (jn ?_))
 exact jag (k+1,ix idom b9.toNat) ⟨by dsimp only;omega,by dsimp only;rw[hdm,show idom.length+1-k=(idom.length+1-(k+1))+1 by omega,Hg,if_neg (by assumption),if_pos (Z6 (by simpa using hc4))]⟩ (dc d0 dn) (kc k0 kn) ⟨Z,Z,Z,Z,Z,eqI (by omega),trivial⟩
 refine jex (jtx (jtx (jbh (jx (jq (jr (ja Z (jn (jx (jrt ?_))))))))))
 exact jrB Z Z (by first|(exact Uw (by simpa using hc1))|(rw[hdm,show idom.length+1-k=(idom.length-k)+1 by omega,Hg,if_pos hc3])|(rw[hdm,show idom.length+1-k=(idom.length-k)+1 by omega,Hg,if_neg hc3,if_neg (Uq (by simpa using hc4))])|(rw[hdm,show idom.length+1-k=0 by omega];rfl))
end Go.Proofs.YtmfkkodnghambaaGreat
namespace Go.JE
def pu(p:Prop):Dt:=⟨fun _=>p,fun _ h=>h⟩
variable{P:Program}{D:List Dt}{L M:List Res}{e:Env}{X:Cx}{n:Fs}{w0:World}{Q:Exit→Act→World→Prop}{ops:Array Oper}{rest:List Oper}{p:Prop}
theorem wpu(h:p):Nd D L (pu p):=fun _ _ _ _ _=>h
theorem jpu(h:Nd D L (pu p))(k:p→LH P n w0 ops Q X D L e rest):LH P n w0 ops Q X D L e rest:=fun F H hp=>k (h F H hp.hin hp.hd hp.ok) F H hp
end Go.JE
namespace Go.Proofs.YtmfkkodnghambaaGreat
open Go.JE
theorem DP:Ent Tryz.prog 183:=⟨_,Tryz.func183,by kernel_rfl,by kernel_rfl⟩
theorem Ry:One Tryz.prog 125:=⟨_,Tryz.underlying125,rfl⟩
theorem DJ:One Tryz.prog 133:=⟨_,Tryz.underlying133,rfl⟩
theorem KL(a:Int){va:Value}{se:List Bool}{n m:Nat}{g1:Nat}{B1:Nat}{vr:Value}{rows:List (List Int)}{g2:Nat}{g3:Nat}{vo:Value}{out:List Int}{g4:Nat}{B4:Nat}(ih:∀(a:Int) {se:List Bool} {out:List Int} {vo:Value},OP n rows se out a→Fu se<m→Tr Tryz.prog 183 #[.int .i64 a,.pointer (some ⟨g1,0,none⟩),.pointer (some ⟨g2,0,none⟩),.pointer (some ⟨g3,0,none⟩),.pointer (some ⟨g4,0,none⟩)] [dv (rL (rL (rI .i64))) vr rows] [gl B1 rB 4 va se,bx g1 129 [va],bx g2 125 [vr],bx g3 133 [.func (.func 183) #[] #[.pointer (some ⟨g1,0,none⟩),.pointer (some ⟨g2,0,none⟩),.pointer (some ⟨g3,0,none⟩),.pointer (some ⟨g4,0,none⟩)]],gl B4 (rI .i64) 3 vo out,bx g4 22 [vo]] (fun _:Value×List Bool×List Int => .tuple #[]) (fun c=>[pu (PO n rows se c.2.2 c.2.1 a)]) (fun _ c=>[gl B1 rB 4 va c.2.1,bx g1 129 [va],bx g2 125 [vr],bx g3 133 [.func (.func 183) #[] #[.pointer (some ⟨g1,0,none⟩),.pointer (some ⟨g2,0,none⟩),.pointer (some ⟨g3,0,none⟩),.pointer (some ⟨g4,0,none⟩)]],gl B4 (rI .i64) 3 c.1 (out++c.2.2),bx g4 22 [c.1]]))(hP:OP n rows se out a)(hm:Fu se≤m):Tr Tryz.prog 183 #[.int .i64 a,.pointer (some ⟨g1,0,none⟩),.pointer (some ⟨g2,0,none⟩),.pointer (some ⟨g3,0,none⟩),.pointer (some ⟨g4,0,none⟩)] [dv (rL (rL (rI .i64))) vr rows] [gl B1 rB 4 va se,bx g1 129 [va],bx g2 125 [vr],bx g3 133 [.func (.func 183) #[] #[.pointer (some ⟨g1,0,none⟩),.pointer (some ⟨g2,0,none⟩),.pointer (some ⟨g3,0,none⟩),.pointer (some ⟨g4,0,none⟩)]],gl B4 (rI .i64) 3 vo out,bx g4 22 [vo]] (fun _:Value×List Bool×List Int => .tuple #[]) (fun c=>[pu (PO n rows se c.2.2 c.2.1 a)]) (fun _ c=>[gl B1 rB 4 va c.2.1,bx g1 129 [va],bx g2 125 [vr],bx g3 133 [.func (.func 183) #[] #[.pointer (some ⟨g1,0,none⟩),.pointer (some ⟨g2,0,none⟩),.pointer (some ⟨g3,0,none⟩),.pointer (some ⟨g4,0,none⟩)]],gl B4 (rI .i64) 3 c.1 (out++c.2.2),bx g4 22 [c.1]]):=by
 refine Az (args:=[.int .i64 a,.pointer (some ⟨g1,0,none⟩),.pointer (some ⟨g2,0,none⟩),.pointer (some ⟨g3,0,none⟩),.pointer (some ⟨g4,0,none⟩)]) Tryz.func183 rfl rfl rfl fun w0 X=>?_
 refine cgo k0 fun w1=>cgo k4 fun w2=>?_
 have hal:=hP.a0
 have hpl:=hP.len
 have hrl:=hP.rl
 have hn5:=hP.n512
 refine jq (jr (js (jl k1 Rx Z Z) (jm Z (js (jig (i:=a.toNat) Ex Z4 k0 Z Z (by omega) (by omega)) (jsg k0 Z Z4 Z Z Z (by omega) wB (jn (jx (jq (jq (jr (js (jl k2 Ry Z Z) ?_)))))))))))
 refine jm Z (jdq d0 fun q3 w3=>js (jix (i:=a.toNat) Df Z22 d0 Z Z (by omega) (by omega)) (jev (jlV (dix d0 a.toNat (by omega)) O22 Z Z) fun v14 q4 w4=>js (jln U22 d0 Z) (jm Z (jn (jx (jb ?_))))))
 refine jlp (u5 fun(k:Nat) (se2:List Bool) (l2:List Int) (o2:List Int) (vo2:Value)=>⟨k≤(ix rows a.toNat).length∧OV n rows (se.set a.toNat true) l2 se2 (fun v=>v∈(ix rows a.toNat))∧(∀t∈(ix rows a.toNat).take k,ix se2 t.toNat=true)∧o2=out++l2,[dv (rL (rI .i64)) v14 (ix rows a.toNat),dv (rL (rL (rI .i64))) vr rows],[gl B1 rB 4 va se2,bx g1 129 [va],bx g2 125 [vr],bx g3 133 [.func (.func 183) #[] #[.pointer (some ⟨g1,0,none⟩),.pointer (some ⟨g2,0,none⟩),.pointer (some ⟨g3,0,none⟩),.pointer (some ⟨g4,0,none⟩)]],gl B4 (rI .i64) 3 vo2 o2,bx g4 22 [vo2]],[(0,.int .i64 a),(1,.pointer (some ⟨g1,0,none⟩)),(3,.pointer (some ⟨g3,0,none⟩)),(4,.pointer (some ⟨g4,0,none⟩)),(14,v14),(15,.int .i64 (↑(List.length (ix rows a.toNat)))),(16,.int .i64 (↑k))],(ix rows a.toNat).length-k⟩) (0,List.set se a.toNat true,[],out,vo) ⟨by dsimp only;omega,OV.beg (by rw[List.length_set];exact hP.len),(fun t h=>by cases h),by simp⟩ (dc d0 (dc d1 dn)) (kd (kd (kd kn))) ⟨Z,Z,Z,Z,Z,Z,eqI (by omega),trivial⟩ ?_
 rintro⟨k,se2,l2,o2,vo2⟩;dsimp only[u5];rintro⟨hk,hov,hdn,hoo⟩
 refine cgo k4 fun w6=>?_
 have hsl:=hov.len
 have hol:o2.length≤512:=by rw[hoo];exact hP.olen hov
 refine jq (jr (js (Ar Z Z) (jn (jx (jq ?_)))))
 refine jif Z (fun hc1=>?_) (fun hc1=>?_)
 have hr2:=hP.rows a.toNat (ix (ix rows a.toNat) k) (Ax (by omega))
 refine jsk (jx (jq (jb (jq (jr (js (jix U22 Z3 d0 Z Z Z (by omega)) (js (jlI (dix d0 k (by omega)) O3 Z) (ja Z (jn (jx (jq ?_)))))))))))
 refine jr (js (jl k1 Rx Z Z) (jm Z (js (jig (i:=(Int.toNat (ix (ix rows a.toNat) k))) Ex Z4 k0 Z Z (by omega) (by omega)) (js (jgB k0 (by omega) O4 Z) (js (Dq Z) (jn (jx ?_)))))))
 refine jif Z (fun hc2=>?_) (fun hc2=>?_)
 have hP2:OP n rows se2 o2 (ix (ix rows a.toNat) k):=by rw[hoo];exact hP.next hov (Ax (l:=ix rows a.toNat) (i:=k) (by omega)) (by simpa using hc2)
 have hlt2:=Nat.lt_of_lt_of_le (hP.less hov) hm
 have hr2:=hP.rows a.toNat (ix (ix rows a.toNat) k) (Ax (by omega))
 refine jr (js (jl k3 DJ Z Z) (jm Z (jc DP Z Z (ih (ix (ix rows a.toNat) k) hP2 hlt2) (dc d1 dn) (kd (kd (kd kn))) (fun _=>p1) (fun _=>p6) fun c27=>jpu d0 fun ho27=>jgo k4 fun w8=>jn (jbn (jx (jr (js (Al Z Z (by omega)) (jm Z ?_))))))))
 refine jn ?_
 exact jag (k+1,c27.2.1,l2++c27.2.2,(o2++c27.2.2),c27.1) ⟨by dsimp only;omega,hov.tr hP.rows (ho27.ov.weak (fun v h=>by subst h;exact Ax (by omega))),by dsimp only;exact KN (by omega) hdn (fun t ht=>hP.rows _ t ht) ho27.ov ho27.mem,by dsimp only;rw[hoo,List.append_assoc]⟩ (dc d1 (dc d2 dn)) (kd (kd (kd kn))) ⟨Z,Z,Z,Z,Z,Z,eqI (by omega),trivial⟩
 refine jsk (jbn (jx (jr (js (Al Z Z (by omega)) (jm Z (jn ?_))))))
 exact jag (k+1,se2,l2,o2,vo2) ⟨by dsimp only;omega,hov,by dsimp only;exact R7 (by omega) hdn (by simpa using hc2),hoo⟩ (dc d0 (dc d1 dn)) (kd (kd (kd kn))) ⟨Z,Z,Z,Z,Z,Z,eqI (by omega),trivial⟩
 refine jex (jtx (jtx (jbh (jx (jr (js (jl k5 O22 Z Z) (jm Z (Gk U22 I3 (by decide) Z Z k4 Z (wI (wp (IntWalk.i64_in _ (by omega)))) (by omega) (fun _=>Z) fun v32 _ w9=>jst k5 Z22 Z Z w9.one s0 (jn ?_)))))))))
 exact jd0 Z (v32,se2,l2++[a]) Z (dc (wpu ⟨⟨l2,rfl⟩,OV.done hP.len hP.a0 hP.no hov (fun t ht=>hdn t (by rw[List.take_of_length_le (by omega)];exact ht))⟩) dn) (fun _ _=>(kc k2 (kc k2 (kc k2 (kc k2 (kcg (by rw[hoo,List.append_assoc]) k1 (kc k0 kn)))))))
theorem DQ:Ent Tryz.prog 182:=⟨_,Tryz.func182,by kernel_rfl,by kernel_rfl⟩
theorem UE:Ent Tryz.prog 184:=⟨_,Tryz.func184,by kernel_rfl,by kernel_rfl⟩
theorem DC:Sz Tryz.prog 125 1:=by unfold Sz;kernel_rfl
theorem TD:Sz Tryz.prog 133 1:=by unfold Sz;kernel_rfl
theorem DK:(Tryz.prog.info? 125).bind (·.zero)=some (.slice none 0 0):=by kernel_rfl
theorem TM:(Tryz.prog.info? 129).bind (·.zero)=some (.slice none 0 0):=by kernel_rfl
theorem TL:(Tryz.prog.info? 133).bind (·.zero)=some (.nilFunc):=by kernel_rfl
theorem J22:(Tryz.prog.info? 22).bind (·.zero)=some (.slice none 0 0):=by kernel_rfl
theorem R6{g1 g2 g3 g4 B1 B4 n:Nat}{va vr:Value}{rows:List (List Int)}:∀(k:Nat) (a:Int) {se:List Bool} {out:List Int} {vo:Value},OP n rows se out a→Fu se<k→Tr Tryz.prog 183 #[.int .i64 a,.pointer (some ⟨g1,0,none⟩),.pointer (some ⟨g2,0,none⟩),.pointer (some ⟨g3,0,none⟩),.pointer (some ⟨g4,0,none⟩)] [dv (rL (rL (rI .i64))) vr rows] [gl B1 rB 4 va se,bx g1 129 [va],bx g2 125 [vr],bx g3 133 [.func (.func 183) #[] #[.pointer (some ⟨g1,0,none⟩),.pointer (some ⟨g2,0,none⟩),.pointer (some ⟨g3,0,none⟩),.pointer (some ⟨g4,0,none⟩)]],gl B4 (rI .i64) 3 vo out,bx g4 22 [vo]] (fun _:Value×List Bool×List Int => .tuple #[]) (fun c=>[pu (PO n rows se c.2.2 c.2.1 a)]) (fun _ c=>[gl B1 rB 4 va c.2.1,bx g1 129 [va],bx g2 125 [vr],bx g3 133 [.func (.func 183) #[] #[.pointer (some ⟨g1,0,none⟩),.pointer (some ⟨g2,0,none⟩),.pointer (some ⟨g3,0,none⟩),.pointer (some ⟨g4,0,none⟩)]],gl B4 (rI .i64) 3 c.1 (out++c.2.2),bx g4 22 [c.1]])
 | 0,_,_,_,_,_,h=>absurd h (Nat.not_lt_zero _)
 | k+1,a,_,_,_,hP,h=>KL (m:=k) a (fun a _ _ _ hP h=>R6 k a hP h) hP (by omega)
theorem R8{a0:Value}{g:List (List Int)}(hn:0<g.length∧g.length≤512):Tr Tryz.prog 166 #[a0] [dv (rL (rL (rI .i64))) a0 g] [] (fun c:Value×List Int=>c.1) (fun c=>[dv (rL (rI .i64)) c.1 c.2,pu (OO g c.2)]) (fun _ _=>[]):=by
 refine Az (args:=[a0]) Tryz.func166 rfl rfl rfl fun w0 X=>?_
 have hcr:=My g
 have hcl:=Pv g
 have hP:=KP (n:=g.length) (rows:=Bn g) hn hcl hcr
 refine jq (jr (ja Z (jn (jx (jq (jq (jr (jm Z (jdq d0 fun q1 w1=>js (jln Df d0 Z) (js (Ao Z Z) ?_))))))))))
 refine jn (jx ?_)
 refine jif Z (fun hc1=>?_) (fun hc1=>?_)
 exact absurd hc1 (by omega)
 refine jsk (jx (jq (jr (jm Z (jcd DQ Z Z BP (dc d0 dn) kn fun v11 q2 w2=>Bo DK Z fun g3=>jst k0 DC Z Z w2.one s0 (jn (jx (jq (jr ?_)))))))))
 refine jm Z (js (jln Df d1 Z) (jmk (m:=g.length) (r:=rB) Ex I4 Z Z Z Z Z (by omega) wB Z fun g14=>Bo TM Z fun g4=>jst k0 Vg Z Z Z s0 (jn (jx (jq (jr (Bo J22 Z fun g5=>jn (jx ?_))))))))
 refine jq (jr (Bo TL Z fun g6=>jn (jx (jq (jr (js (NJ Z Z Z Z) (jst k0 TD Z Z Z s0 (jn (jx (jq ?_))))))))))
 refine jr (js (jl k0 DJ Z Z) (jnl (r:=(rI .i64)) (E:=3) (jc DP Z Z (R6 (n:=g.length) (rows:=Bn g) (Fu (List.replicate g.length false)+1) 0 hP (Nat.lt_succ_self _)) (dc d0 dn) (kc k4 (kc k3 (kc k3 (kc k1 (kd kn))))) (fun _=>p1) (fun _=>p6) fun c17=>jpu d0 fun ho17=>jgo k4 fun w5=>?_)))
 have hoP:=ho17
 refine jn (jx (jq (jr (js (jl k5 O22 Z Z) (jc UE Z Z (HR (by have:=hoP.len hn.2;simpa using this)) dn (kc k4 kn) (fun _=>p0) (fun _=>p1) fun _=>jn (jx (jq (jr (js (jl k5 O22 Z Z) (ja Z ?_))))))))))
 refine jn (jx (jrt (qfz k0 (by have:=hoP.len hn.2;simpa[Ho] using this) ?_)))
 exact jr1 Z Z (c17.1,Ho ([]++c17.2.2)) Z (dc d0 (dc (wpu ⟨_,_,rfl,hoP⟩) dn)) (fun _ _=>kn)
end Go.Proofs.YtmfkkodnghambaaGreat
namespace Go.JE
variable{P:Program}{e:Env}{H:Heap}
section
variable{g:Nat}{z:Value}{f:Int→Value}
end
section
variable{α:Type}{r:Rp α}{F:PH}{B:Nat}{v:Value}{l:List α}
theorem Aa.sliceLoG{T E:TypeId}{x lx:Operand}{k:IntKind}{I:Int}{lo:Nat}(hT:P.underlying T=some (.slice E))(hE:Sz P E r.sz)(hs:Gl r E F H B v l)(hx:ev e x=some v)(hl:ev e lx=some (.int k I))(hI:I=lo)(h2:lo≤l.length) :
  Aa P e (.slice T x (some lx) none none) H (JE.resl r.sz v lo l.length):=by
 obtain⟨f,hf⟩:=hs.sl
 exact Aa.sliceLo hT hE hf hx hl hI h2
theorem Gl.resl0{E:TypeId}(h:Gl r E F H B v l){hi:Nat}(h2:hi≤l.length):∃a c,JE.resl r.sz v 0 hi = .slice a hi c∧((v = .slice none 0 0∧hi=0∧a=none∧c=0)∨∃g,a=some ⟨g,0,none⟩∧v = .slice (some ⟨g,0,none⟩) l.length c):=by
 obtain⟨xs,o1,_⟩:=h
 rcases o1.2 with⟨e1,e2⟩|⟨g,cap,cur,e1,_⟩
 ·subst e1
  obtain rfl:hi=0:=by omega
  exact⟨none,0,rfl,.inl ⟨rfl,rfl,rfl,rfl⟩⟩
 ·subst e1
  refine⟨some ⟨g,0,none⟩,cap,?_,.inr ⟨g,rfl,rfl⟩⟩
  simp only[JE.resl,Nat.sub_zero,Nat.zero_mul]
  split
  ·rfl
  ·simp[Addr.add_none]
theorem Gl.cut{E:TypeId}(h:Gl r E F H B v l){hi:Nat}(h2:hi≤l.length):Gl r E F H B (JE.resl r.sz v 0 hi) (l.take hi)∧(JE.resl r.sz v 0 hi).ownBlock=v.ownBlock:=by
 obtain⟨a,c,e0,hc⟩:=h.resl0 h2
 rw[e0]
 have hl:(l.take hi).length=hi:=by rw[List.length_take];omega
 rcases hc with⟨rfl,rfl,rfl,rfl⟩|⟨g,rfl,e1⟩
 ·refine⟨?_,rfl⟩
  rw[List.take_zero];exact Gl.nil F H B
 ·subst e1
  refine⟨?_,rfl⟩
  obtain⟨xs,o1,o2,o3⟩:=h
  rcases o1.2 with⟨e2,_⟩|⟨g',cap,cur,e2,hb,hg,hc1,hc2,hc3,hc4⟩
  ·cases e2
  cases e2
  refine⟨xs.take (hi*r.sz),⟨?_,.inr ⟨g,c,cur,?_,hb,hg,?_,hc2,hc3,?_⟩⟩,o2,?_⟩
  ·rw[List.length_take,o1.1,hl];exact Nat.min_eq_left (Nat.mul_le_mul_right _ h2)
  ·rw[hl]
  ·rw[hl];omega
  ·rw[hl,←hc4,List.take_take,Nat.min_eq_left (Nat.mul_le_mul_right _ h2)]
  ·intro i hi9
   rw[hl] at hi9
   rw[List.getElem_take]
   refine r.ext ?_ (o3 i (by omega))
   intro j hj
   have:i*r.sz+j<hi*r.sz:=by
    have h5:(i+1)*r.sz≤hi*r.sz:=Nat.mul_le_mul_right _ hi9
    rw[Nat.add_mul,Nat.one_mul] at h5;omega
   simp only[List.getD_eq_getElem?_getD,List.getElem?_take_of_lt this]
end
end Go.JE
namespace Go.JE
variable{P:Program}{n:Fs}{w0:World}{Q:Exit→Act→World→Prop}{e:Env}{H:Heap}
abbrev RW(ro:Option Nat):Fence:={ Fence.wide with round:=ro }
def NO(Q:Exit→Act→World→Prop):Exit→Act→World→Prop
 | .outgrown,_,_=>False
 | x,a,w=>Q x a w
theorem NO.imp{Q:Exit→Act→World→Prop}:∀(x:Exit) (a:Act) (w:World),NO Q x a w→Q x a w:=fun x a w h=>by
 cases x<;>first|exact h|exact(h:False).elim
theorem NO.lets{Q:Exit→Act→World→Prop}(h:LetsOut (NO Q)):False:=by obtain⟨_,_,h⟩:=h;exact h
def Jg(o:Oper):Bool:=match o.op with | .defer _=>false|_=>true
theorem BT{ro:Option Nat}{m:Nat}{f:FuncId}{args:Array Value}{w:World}{R:Ending→World→Prop}(h:Calls P f args w R):CallsIn (RW ro) m P f args w R :=
 show CallsIn Fence.wide m P f args w R from callsIn_wide.2 h
theorem HN{ro:Option Nat}{m:Nat}{row:String}{args:Array Value}{w:World}{R:Value→World→Prop}(h:Rows P row args w R):RowsIn (RW ro) m P row args w R :=
 fun c cs _=>let ⟨v,w',r,s⟩:=h c cs;⟨v,w',r,stepsIn_wide.2 s⟩
theorem C7{Q:Exit→Act→World→Prop}{ro:Option Nat}{m:Nat}{o:Oper}{a:Act}{next next':Act→World→Prop}(hk:∀a w,next a w→next' a w):∀r,o.upon P a next (NO Q) r→o.uponIn (RW ro) m P a next' (NO Q) r:=by
 intro r h
 unfold Oper.upon at h
 unfold Oper.uponIn
 split at h
 ·exact hk _ _ h
 ·exact hk _ _ h
 ·exact hk _ _ h
 ·refine⟨fun h0=>(by simp[Fence.wide] at h0),(BT h).mono fun x w' hx=>?_⟩
  cases x with
  | returned v=>exact hk _ _ hx
  | panicked c=>exact hx
  | outgrown=>exact hx
 ·exact⟨fun h0=>(by simp[Fence.wide] at h0),(HN h).mono fun v w' hx=>hk _ _ hx⟩
 ·exact h
 ·exact h.elim
theorem V0{Q:Exit→Act→World→Prop}{ro:Option Nat}{m:Nat}{ops:Array Oper}:∀(l:List Oper),l.all Jg=true→∀a w,wpList P ops (NO Q) l a w→wpListIn (RW ro) m P ops (NO Q) l a w
 | [],_,_,_,h=>h
 | o::l,hd,a,w,h=>by
  simp only[List.all_cons,Bool.and_eq_true] at hd
  have ih:∀a w,wpList P ops (NO Q) l a w→wpListIn (RW ro) m P ops (NO Q) l a w:=V0 l hd.2
  simp only[wpList] at h
  simp only[wpListIn]
  split at h
  ·rename_i hw
   rw[if_pos hw]
   rcases h with h|⟨_,h⟩
   ·refine⟨fun _ _=>trivial,?_⟩
    rw[Oper.semAt_eq _ _ _ (fun c hc=>by have:=hd.1;simp[Jg,hc] at this)]
    exact C7 (fun a w h=>ih a w h) _ h
   ·exact(NO.lets h).elim
  ·rename_i hw
   rw[if_neg hw]
   exact⟨fun _ _=>trivial,ih _ _ h⟩
def RCF(P:Program)(n:Fs)(w0:World)(ro:Option Nat)(m:Nat)(Q:Exit→Act→World→Prop)(e:Env)(c:Code)(H:Heap):Prop :=
 ∀a w,Fr n e a→Wd w0 H w→c.wpIn (RW ro) m P Q a w
section code
variable{x y:Code}{id:Nat}{l:List Oper}{ro:Option Nat}{m:Nat}
theorem RCF.region(h:LF P n w0 l.toArray (NO Q) e l H)(hd:l.all Jg=true:=by kernel_rfl):RCF P n w0 ro m Q e (.region id l.toArray false) H :=
 fun a w hf hw=>wpIn_mono (wpIn_region_lit (V0 l hd a w (h a w hf hw))) NO.imp
theorem RLF.nil{ops:Array Oper}(h:PF n w0 Q e .normal H):LF P n w0 ops (NO Q) e [] H:=fun a w hf hw=>wpList_nil (h a w hf hw)
theorem RCF.seq(h:RCF P n w0 ro m (Exit.then (y.wpIn (RW ro) m P Q) Q) e x H):RCF P n w0 ro m Q e (.seq x y) H:=fun a w hf hw=>wpIn_seq (h a w hf hw)
theorem RPF.next(h:RCF P n w0 ro m Q e y H):PF n w0 (Exit.then (y.wpIn (RW ro) m P Q) Q) e .normal H:=h
theorem RCF.block(h:RCF P n w0 ro m (Exit.inBlock id Q) e x H):RCF P n w0 ro m Q e (.block id x) H:=fun a w hf hw=>wpIn_block (h a w hf hw)
theorem RCF.out(h:RCF P n w0 none m Q e x H):CF P n w0 Q e x H:=fun a w hf hw=>(wpIn_wide (n:=m)).1 (show x.wpIn Fence.wide m P Q a w from h a w hf hw)
end code
def Rv(P:Program)(e:Env)(op:Op)(H:Heap)(l:Nat)(args:Array Value):Prop :=
 ∀(ρ:Operand→Value) (o:Oper) (w:World),o.op=op→(∀x u,ev e x=some u→ρ x=u)→w.heap=H→(execOp ρ o).run P w=(Instr.yield l args).run P w
theorem Rv.call{g:Operand}{l:Nat}{xs:List Operand}{vs:List Value}{ts:Array TypeId}(hf:ev e g=some (.func (.yield l) #[] #[]))(hl:evl e xs=some vs) :
  Rv P e (.call { callee := .value g,args:=xs.toArray,argTypes:=ts }) H l vs.toArray:=by
 intro ρ o w ho hev _
 have h1:xs.toArray.map ρ=vs.toArray:=by rw[←Yp hev xs vs hl];simp
 simp only[execOp,ho,resolve,h1,hev _ _ hf,Deferred.ofValue]
 simp only[Sem.run_bind,Sem.run_pure,Result.andThen_ok,invoke]
 simp
section yield
variable{ops:Array Oper}{op:Op}{d:Nat}{ty:TypeId}{pos:String}{af:Array Edge}{rest:List Oper}{m:Nat}
theorem DZ{l:Nat}{args:Array Value}{R:Ending→World→Prop}{a:Act}{w:World}(hf:Fr n e a)(hw:w.heap=H)(h:Rv P e op H l args)(hy:YieldAt (RW none) (m-1) P l args w R)
  (hR:∀x w',R x w'→∃v,x = .returned v∧wpListIn (RW none) m P ops Q rest (a.put (some d) v) w') :
  wpListIn (RW none) m P ops Q (⟨some d,op,ty,pos,af,none⟩::rest) a w:=by
 obtain⟨fn,tmps,assign,body,h1,h2⟩:=hy
 refine wpListIn_plain rfl fun K hK=>?_
 refine⟨fun _ _=>trivial,?_⟩
 have hs:(Oper.semAt (RW none).round a.eval ⟨some d,op,ty,pos,af,none⟩).run P w = .ok (.round l fn tmps assign body) w:=by
  show(execOp a.eval ⟨some d,op,ty,pos,af,none⟩).run P w=_
  rw[h a.eval _ w rfl (fun x u hx=>hf.ev hx) hw,h1]
 rw[hs]
 refine⟨fun h0=>(by simp[Fence.wide] at h0),h2.mono fun x w' hx=>?_⟩
 obtain⟨v,rfl,h3⟩:=hR x w' hx
 exact hK _ _ h3
end yield
def RQ{α:Type}(w0:World)(H:Heap)(bl:List Nat)(inv:List α→Heap→Prop)(ys:List α)(Hs:Heap):Exit→Act→World→Prop
 | .normal,_,w=>Wd w0 w.heap w∧Hs.size≤w.heap.size∧(∀k,H.size≤k→k<Hs.size→w.heap[k]? = Hs[k]?)∧(∀k∈bl,w.heap[k]? = Hs[k]?)∧inv ys w.heap
 | _,_,_=>False
def AQ(n:Fs)(w0:World)(l:Env)(H:Heap):Exit→Act→World→Prop
 | .normal,a,w=>Fr n l a∧Wd w0 H w
 | _,_,_=>False
theorem PF.assigned{l:Env}(hs:Sub e l):PF n w0 (AQ n w0 l H) e .normal H:=fun _ _ hf hw=>⟨hf.sub hs,hw⟩
def laid(e:Env):List Nat→List Value→Env
 | p::ps,v::vs=>laid ((p,v)::e) ps vs
 | _,_=>e
theorem V8{m:Nat}:∀(ps:List Nat) (vs:List Value) (e:Env) (t:Array Value),ps.all (fun p=>Nat.blt p m)=true→Fr ⟨m,[]⟩ e { tmps:=t,defers:=[] } →
  Fr ⟨m,[]⟩ (laid e ps vs) { tmps:=(ps.zip vs).foldl (fun t p=>t.setIfInBounds p.1 p.2) t,defers:=[] }
 | [],[],_,_,_,h=>h
 | [],_::_,_,_,_,h=>h
 | _::_,[],_,_,_,h=>h
 | p::ps,v::vs,e,t,hp,h=>by
  simp only[List.all_cons,Bool.and_eq_true] at hp
  exact V8 ps vs ((p,v)::e) _ hp.2 (h.put (n:=⟨m,[]⟩) hp.1 v)
abbrev Fs.mark(n:Fs)(D:Nat):Fs:=⟨n.sz,{ target := .collected D,args:=#[] }::n.ds⟩
section func
variable{f:FuncId}{fn:Func}{c:Code}{R:Value→Heap→Prop}
def BQM(P:Program)(fn:Func)(w0:World)(R:Value→Heap→Prop):Exit→Act→World→Prop :=
 bodyPostM Fence.wide 3 P fn fun x w'=>∃v,x = .returned v∧w'.os=w0.os∧w'.tape=w0.tape∧w'.output=w0.output∧R v w'.heap
theorem Ct.enterM{args:List Value}{n:Nat}(hf:P.funcs[f]? = some fn)(hb:fn.body=some c)(hn:fn.ntmps=n)(ha:Nat.ble args.length n=true)
  (h:∀w0:World,w0.heap=H→CF P ⟨n,[]⟩ w0 (BQM P fn w0 R) (Gv 0 args) c H):Ct P f args.toArray H R:=by
 intro w hw
 refine callsIn_wide.1 (callsIn_of_wp_marks (n:=3) hf hb trivial ?_ rfl)
 have ha':args.length≤n:=by simpa[Nat.ble_eq] using ha
 refine wpIn_wide.2 (h w hw _ w ⟨?_,rfl,?_⟩ ⟨hw,rfl,rfl,rfl⟩)
 ·simp[hn];omega
 ·intro t v hv
  obtain⟨i,h1,h2⟩:=Mw args 0 t v hv
  have hi:i<args.length:=(List.getElem?_eq_some_iff.1 h2).1
  have e1:t=i:=by omega
  subst e1
  simp only[Array.getD_eq_getD_getElem?]
  rw[Array.getElem?_append_left (by simpa using hi)]
  simp[h2]
def Pb(H:Heap)(D:Nat)(o:Obj):Heap:=H.setIfInBounds D o
theorem PF.ret1M{m D t:Nat}{v:Value}(hr:fn.results=#[.tmp t])(hv:lk e t=some v)(hD:H[D]? = some (.deferred (some [])))(hR:R v (Pb H D (.deferred none))):PF (Fs.mark ⟨m,[]⟩ D) w0 (BQM P fn w0 R) e .ret H:=by
 intro a w hf hw
 have hd:=hf.defers
 have hD':w.heap[D]? = some (.deferred (some [])):=by rw[hw.heap];exact hD
 show LeavesInM Fence.wide 3 P fn a.tmps _ a.defers .returning w
 rw[hd]
 refine⟨by simp,.inl ⟨_,_,rfl,run_takeDeferred hD',?_⟩⟩
 refine⟨v,?_,?_⟩
 ·rw[results_tmp hr,hf.get t v hv]
 ·exact⟨v,rfl,hw.os,hw.tape,hw.output,by show R v (w.heap.setIfInBounds D _);rw[hw.heap];exact hR⟩
end func
end Go.JE
namespace Go.JE
variable{P:Program}{n:Fs}{Q:Exit→Act→World→Prop}{e:Env}{w:World}{m:Nat}
def YL(P:Program)(n:Fs)(ops:Array Oper)(Q:Exit→Act→World→Prop)(m:Nat)(e:Env)(l:List Oper)(w:World):Prop:=∀a,Fr n e a→wpListIn (RW none) m P ops Q l a w
def YC(P:Program)(n:Fs)(Q:Exit→Act→World→Prop)(m:Nat)(e:Env)(c:Code)(w:World):Prop:=∀a,Fr n e a→c.wpIn (RW none) m P Q a w
def YP(n:Fs)(Q:Exit→Act→World→Prop)(e:Env)(x:Exit)(w:World):Prop:=∀a,Fr n e a→Q x a w
section ops
variable{ops:Array Oper}{op:Op}{d:Nat}{ty:TypeId}{pos:String}{af:Array Edge}{rest:List Oper}{v:Value}
theorem YL.nil(h:YP n Q e .normal w):YL P n ops Q m e [] w:=fun a hf=>wpListIn_nil (h a hf)
theorem YL.step(h:Aa P e op w.heap v)(K:YL P n ops Q m ((d,v)::e) rest w)(hd:Nat.blt d n.sz=true:=by rfl)(hn:Jg ⟨some d,op,ty,pos,af,none⟩=true:=by rfl) :
  YL P n ops Q m e (⟨some d,op,ty,pos,af,none⟩::rest) w:=by
 intro a hf
 refine wpListIn_plain rfl fun K' hK'=>⟨fun _ _=>trivial,?_⟩
 rw[Oper.semAt_eq _ _ _ (fun c hc=>by simp only at hc;subst hc;cases hn),h a.eval _ w rfl (fun x u hx=>hf.ev hx) rfl]
 exact hK' _ _ (K _ (hf.put hd v))
theorem YL.yield{l:Nat}{args:Array Value}{R:Ending→World→Prop}(h:Rv P e op w.heap l args)(hy:YieldAt (RW none) (m-1) P l args w R)
  (K:∀x w',R x w'→∃v,x = .returned v∧YL P n ops Q m ((d,v)::e) rest w') (hd:Nat.blt d n.sz=true:=by rfl) :
  YL P n ops Q m e (⟨some d,op,ty,pos,af,none⟩::rest) w:=by
 intro a hf
 refine DZ hf rfl h hy fun x w' hx=>?_
 obtain⟨v,rfl,h2⟩:=K x w' hx
 exact⟨v,rfl,h2 _ (hf.put hd v)⟩
end ops
section code
variable{x y:Code}{id:Nat}{l:List Oper}
theorem YC.region(h:YL P n l.toArray Q m e l w):YC P n Q m e (.region id l.toArray false) w:=fun a hf=>wpIn_region_lit (h a hf)
theorem YC.seq(h:YC P n (Exit.then (y.wpIn (RW none) m P Q) Q) m e x w):YC P n Q m e (.seq x y) w:=fun a hf=>wpIn_seq (h a hf)
theorem YP.next(h:YC P n Q m e y w):YP n (Exit.then (y.wpIn (RW none) m P Q) Q) e .normal w:=h
theorem YC.block(h:YC P n (Exit.inBlock id Q) m e x w):YC P n Q m e (.block id x) w:=fun a hf=>wpIn_block (h a hf)
theorem YC.skip(h:YP n Q e .normal w):YC P n Q m e .skip w:=fun a hf=>wpIn_skip (h a hf)
theorem YC.exit(h:YP n Q e (.exit id) w):YC P n Q m e (.exit id) w:=fun a hf=>wpIn_exit (h a hf)
theorem YC.ret(h:YP n Q e .ret w):YC P n Q m e .ret w:=fun a hf=>wpIn_ret (h a hf)
theorem YC.if{c:Operand}{b:Bool}{p q:Prop}(hc:ev e c=some (.bool b))[hb:BoolP b p q](ht:p→YC P n Q m e x w)(hf:q→YC P n Q m e y w):YC P n Q m e (.cond c x y) w:=by
 intro a hfr
 exact wpIn_cond_split (hfr.ev hc) (fun h=>ht (hb.pos h) a hfr) (fun h=>hf (hb.neg h) a hfr)
theorem YP.thenExit{K:Act→World→Prop}(h:YP n Q e (.exit id) w):YP n (Exit.then K Q) e (.exit id) w:=h
theorem YP.thenRet{K:Act→World→Prop}(h:YP n Q e .ret w):YP n (Exit.then K Q) e .ret w:=h
theorem YP.blockNormal(h:YP n Q e .normal w):YP n (Exit.inBlock id Q) e .normal w:=h
theorem YP.blockRet(h:YP n Q e .ret w):YP n (Exit.inBlock id Q) e .ret w:=h
theorem YP.blockHere(h:YP n Q e .normal w):YP n (Exit.inBlock id Q) e (.exit id) w:=fun a hf=>by
 show(if id=id then _ else _);rw[if_pos rfl];exact h a hf
def DD{ι:Type}(n:Fs)(inv:ι→World→Prop)(env:ι→Env)(μ:ι→Nat)(i:ι)(a:Act)(w:World):Prop:=∃j,inv j w∧Fr n (env j) a∧μ j<μ i
theorem YC.loop{ι:Type}(inv:ι→World→Prop)(env:ι→Env)(μ:ι→Nat)(i0:ι)(h0:inv i0 w)(hs:Sub e (env i0))
  (round:∀i w',inv i w'→YC P n (Exit.then (DD n inv env μ i) Q) m (env i) x w'):YC P n Q m e (.loop x) w:=by
 intro a hf
 let I:Nat→Act→World→Prop:=fun k a w=>∃i,μ i=k∧inv i w∧Fr n (env i) a
 refine wpIn_loop (fun a w=>∃k,I k a w) (fun a w=>leastOf (fun k=>I k a w)) ⟨μ i0,i0,rfl,h0,hf.sub hs⟩ ?_
 intro a w hI
 obtain⟨i,hm,hi,hfi⟩:=(leastOf_spec hI).1
 refine wpIn_mono (round i w hi a hfi) ?_
 intro z a' w' hq
 cases z with
 | normal =>
  obtain⟨j,h1,h2,h3⟩:=hq
  have hJ:∃k,I k a' w':=⟨μ j,j,rfl,h1,h2⟩
  exact⟨hJ,Nat.lt_of_le_of_lt ((leastOf_spec hJ).2 (μ j) ⟨j,rfl,h1,h2⟩) (hm▸h3)⟩
 | exit id=>exact hq
 | goto l=>exact hq
 | ret=>exact hq
 | panic ch=>exact hq
 | outgrown=>exact hq
theorem YP.again{ι:Type}{inv:ι→World→Prop}{env:ι→Env}{μ:ι→Nat}{i:ι}(j:ι)(hj:inv j w)(hs:Sub e (env j))(hm:μ j<μ i) :
 YP n (Exit.then (DD n inv env μ i) Q) e .normal w:=fun _ hf=>⟨j,hj,hf.sub hs,hm⟩
end code
section func
variable{f:FuncId}{fn:Func}{c:Code}{R:Ending→World→Prop}
theorem YC.enter{args:List Value}{k:Nat}(hf:P.funcs[f]? = some fn)(hb:fn.body=some c)(hn:fn.ntmps=k)(ha:Nat.ble args.length k=true)
  (h:YC P ⟨k,[]⟩ (bodyPost P fn R) m (Gv 0 args) c w):CallsIn (RW none) m P f args.toArray w R:=by
 refine callsIn_of_wp hf hb trivial ?_ rfl
 have ha':args.length≤k:=by simpa[Nat.ble_eq] using ha
 refine h _ ⟨?_,rfl,?_⟩
 ·simp[hn];omega
 ·intro t v hv
  obtain⟨i,h1,h2⟩:=Mw args 0 t v hv
  have hi:i<args.length:=(List.getElem?_eq_some_iff.1 h2).1
  have e1:t=i:=by omega
  subst e1
  simp only[Array.getD_eq_getD_getElem?]
  rw[Array.getElem?_append_left (by simpa using hi)]
  simp[h2]
theorem YP.ret0{k:Nat}(hr:fn.results=#[])(hR:R (.returned (.tuple #[])) w):YP ⟨k,[]⟩ (bodyPost P fn R) e .ret w:=fun _ hf=>bodyPost_ret (results_none hr _ _ _) hf.defers hR
theorem YP.end0{k:Nat}(hr:fn.results=#[])(hR:R (.returned (.tuple #[])) w):YP ⟨k,[]⟩ (bodyPost P fn R) e .normal w:=fun _ hf=>bodyPost_end (results_none hr _ _ _) hf.defers hR
end func
end Go.JE
namespace Go.JE
variable{P:Program}{n:Fs}{w0:World}{Q:Exit→Act→World→Prop}{e:Env}{H:Heap}
def Cg(N:Nat)(H1 H2:Heap):Prop:=H1.size≤H2.size∧∀k o,H1[k]? = some o→(k<N∨o.isCells=true)→H2[k]? = some o
section
variable{N:Nat}{H1 H2:Heap}
theorem InH.cg{F:PH}(h:InH F H1)(hF:InH F H)(c:Cg H.size H1 H2):InH F H2:=fun k o hk=>c.2 k o (h k o hk) (.inl (hF.lt hk))
theorem Kw.cg{W:Nat→Prop}{H0:Heap}(h:Kw W H0 H1)(hs:H0.size≤N)(c:Cg N H1 H2):Kw W H0 H2:=by
 refine⟨Nat.le_trans h.1 c.1,fun k hk hw=>?_⟩
 rw[←h.2 k hk hw]
 have:k<H1.size:=Nat.lt_of_lt_of_le hk h.1
 rw[c.2 k _ (Array.getElem?_eq_getElem this) (.inl (by omega)),Array.getElem?_eq_getElem this]
end
def Mk(H:Heap)(D:Nat):Prop:=H[D]? = some (.deferred (some []))
section
variable{D:Nat}{H':Heap}
theorem Mk.lt(h:Mk H D):D<H.size:=(Array.getElem?_eq_some_iff.1 h).1
theorem Mk.of(h:Mk H D)(hb:H'[D]? = H[D]?):Mk H' D:=by unfold Mk at *;rw[hb];exact h
end
section
variable{N:Nat}{H1 H2 H3:Heap}
theorem Gl.isc{α:Type}{r:Rp α}{E:TypeId}{F:PH}{B:Nat}{v:Value}{l:List α}(hg:Gl r E F H B v l){k:Nat}(hk:v.ownBlock=some k){o:Obj}(h:H[k]? = some o):o.isCells=true:=by
 obtain⟨xs,hr,_⟩:=hg
 rcases hr.2 with⟨h9,_⟩|⟨c,cap,cur,e1,_,hb,_⟩
 ·rw[h9] at hk;cases hk
 ·rw[e1] at hk
  have hcb:c=k:=by injection hk
  rw[hcb,h] at hb;injection hb with hb;subst hb;rfl
end
section
variable{fn:Func}{R:Value→Heap→Prop}
end
theorem all_cons{p:Nat→Prop}{D:Nat}{Ds:List Nat}(h:p D)(t:∀D∈Ds,p D):∀E∈D::Ds,p E:=fun E hE=>by
 rcases List.mem_cons.1 hE with rfl|hE
 ·exact h
 ·exact t E hE
section
variable{x:Code}
end
section
variable{r:Nat}{H':Heap}
end
section
variable{P:Program}{e:Env}{H:Heap}
end
end Go.JE
namespace Go.JE
variable{P:Program}{n:Fs}{w0:World}{Q:Exit→Act→World→Prop}{e:Env}{H:Heap}{X:Cx}{D Ds:List Dt}{L M Ls:List Res}
theorem LG(Q:Exit→Act→World→Prop):NoP (NO Q)=NO (NoP Q):=by
 funext x a w;cases x<;>first|rfl|exact propext ⟨fun h=>h a rfl,fun h=>False.elim h⟩
theorem KQ{ro:Option Nat}{m:Nat}{ops:Array Oper}(hd:∀(i:Nat) (o:Oper),ops[i]? = some o→Jg o=true){K K':Act→World→Prop}(hK:∀a w,K a w→K' a w){i:Nat}{a:Act}{w:World}(h:wpOp P ops (NO Q) i K a w):wpOpIn (RW ro) m P ops (NO Q) i K' a w:=by
 unfold wpOp at h
 unfold wpOpIn
 cases ho:ops[i]? with
 | none=>rw[ho] at h;exact hK _ _ h
 | some o =>
  rw[ho] at h
  dsimp only at h ⊢
  split at h
  ·rename_i hw
   rw[if_pos hw]
   rcases h with h|⟨_,h⟩
   ·refine⟨fun _ _=>trivial,?_⟩
    rw[Oper.semAt_eq _ _ _ (fun c hc=>by have:=hd i o ho;simp[Jg,hc] at this)]
    exact C7 hK _ h
   ·exact(NO.lets h).elim
  ·rename_i hw
   rw[if_neg hw]
   exact⟨fun _ _=>trivial,hK _ _ h⟩
theorem CY{ro:Option Nat}{m:Nat}{ops:Array Oper}(hd:∀(i:Nat) (o:Oper),ops[i]? = some o→Jg o=true):∀(fuel:Nat) (listed:Array Bool) (a:Act) (w:World),wpAny P .any ops (NO Q) fuel listed a w→wpAnyIn (RW ro) m P .any ops (NO Q) fuel listed a w
 | 0,_,_,_,h=>h
 | fuel+1,_,_,_,h=>⟨h.1,fun i hi=>KQ hd (fun a w h=>CY hd fuel _ a w h) (h.2 i hi)⟩
theorem RCF.any{id:Nat}{l:List Oper}{z:Bool}{ro:Option Nat}{m:Nat}(S:Heap→Prop)(hm:P.follows .mixedOrders=true)(hd:l.all Jg=true)(h:AF P n w0 l.toArray (NO Q) z S l.length (Array.replicate l.length false) e H):RCF P n w0 ro m Q e (.region id l.toArray true) H:=by
 intro a w hf hw
 have h1:=h a _ hf hw.drew
 rw[LG] at h1
 have hd':∀(i:Nat) (o:Oper),l.toArray[i]? = some o→Jg o=true:=fun i o ho=>List.all_eq_true.1 hd o (List.mem_of_getElem? (by simpa using ho))
 refine wpIn_mono (wpIn_region_any hm (CY hd' _ _ _ _ (Gq.any (z:=z) (S:=fun w=>S w.heap) _ _ _ _ ?_))) (fun x a w h=>NoP.imp _ _ _ (NO.imp _ _ _ h))
 simpa using h1
def RCH(P:Program)(n:Fs)(w0:World)(ro:Option Nat)(m:Nat)(Q:Exit→Act→World→Prop)(X:Cx)(D:List Dt)(L:List Res)(e:Env)(c:Code):Prop:=∀F H,Hp X D L F H→RCF P n w0 ro m Q e c H
section
variable{ro:Option Nat}{m:Nat}{x y:Code}{id:Nat}{l:List Oper}
theorem HZ(z:Bool)(is:Od)(hm:P.follows .mixedOrders=true)(hO:(okO l.toArray z (Array.replicate l.length false) is&&(Region.noSelect l.toArray&&decide (l.length=is.sz)))=true)(hk:Tks L Ls M)(hd:l.all Jg=true)
  (h:∀FS,AH P n w0 l (NO Q) z X FS D Ls is D L e):RCH P n w0 ro m Q X D L e (.region id l.toArray true):=fun F H hp=>by
 simp only[Bool.and_eq_true,decide_eq_true_eq] at hO
 refine RCF.any (z:=z) (SS X F Ls) hm hd ?_
 have:=h F F H (PH.le.refl F) hp.hd hp (.inl ⟨F,PH.le.refl F,hp.sub dn hk⟩) hO.2.1 _ hO.1
 rw[hO.2.2] at this ⊢
 exact this
theorem rb(h:RCH P n w0 ro m (Exit.inBlock id Q) X D L e x):RCH P n w0 ro m Q X D L e (.block id x):=fun F H hp=>RCF.block (h F H hp)
end
def Kq(Ow:Heap→Nat→Prop)(A B:Heap):Prop:=A.size≤B.size∧(∀k o,A[k]? = some o→o.isCells=true→¬Ow A k→B[k]? = some o)∧∀k,Ow B k→Ow A k∨A.size≤k
theorem Kq.trans{Ow:Heap→Nat→Prop}{A B C:Heap}(h:Kq Ow A B)(h2:Kq Ow B C):Kq Ow A C:=by
 refine⟨Nat.le_trans h.1 h2.1,fun k o hk hc ho=>?_,fun k hk=>?_⟩
 ·have hlt:=(Array.getElem?_eq_some_iff.1 hk).1
  refine h2.2.1 k o (h.2.1 k o hk hc ho) hc fun h9=>?_
  rcases h.2.2 k h9 with h8|h8
  ·exact ho h8
  ·omega
 ·rcases h2.2.2 k hk with h9|h9
  ·exact h.2.2 k h9
  ·exact .inr (Nat.le_trans h.1 h9)
def Zr{α:Type}(P:Program)(g:Nat)(lb:Array Value)(encs:α→Array Value)(Ow:Heap→Nat→Prop)(xs:List α)(H:Heap):Prop :=
 ∀w0:World,w0.heap=H→SeqStopsK (RW none) 2 P g lb encs (fun W W'=>Kq Ow W.heap W'.heap) (fun ys=>ys=xs) (fun _=>True) xs.length w0
def RQ3{σ:Type}(w0:World)(X2:Cx)(J:σ→Prop)(L:σ→List Res):Exit→Act→World→Prop
 | .normal,_,w=>Wd w0 w.heap w∧∃s F,J s∧Hp X2 [] (L s) F w.heap
 | _,_,_=>False
theorem Wz{σ:Type}{X2:Cx}{J:σ→Prop}{Lf:σ→List Res}(s:σ)(hJ:J s)(hk:Tks L (Lf s) []):QH n w0 (RQ3 w0 X2 J Lf) X2 D L e .normal:=fun F H hp a w hf hw=>by
 refine⟨⟨rfl,hw.os,hw.tape,hw.output⟩,s,F,hJ,?_⟩
 rw[hw.heap]
 obtain⟨o1,_,_⟩:=hk.ok hp.ok
 exact⟨hp.hx,hp.hin,hp.hw,trivial,o1,fun k h=>hp.ge k (hk.own (.inl h))⟩
theorem Hp.cg{F:PH}{H0 H1 H2:Heap}(h:Hp X D L F H1)(hF:InH F H0)(hs:X.H.size≤H0.size)(hc:∀k,Own L k→∃o,H1[k]? = some o∧o.isCells=true)(c:Cg H0.size H1 H2):Hp X D L F H2 :=
 ⟨h.hx,h.hin.cg hF c,h.hw.cg hs c,h.hd,h.ok.st (PH.le.refl F) c.1 (fun k hk=>h.ok.no hk) (fun k hk=>by obtain⟨o,h1,h2⟩:=hc k hk;rw[h1,c.2 k o h1 (.inr h2)]),h.ge⟩
theorem CH.rangeFunc{α σ:Type}{g:Operand}{ps:List Nat}{assign body:Code}{gf go:Nat}{lb:Array Value}{encs:α→List Value}{xs:List α}(envx:α→Env)
  (Lf:σ→List Res) (Ow:Heap→Nat→Prop) (inv:List α→σ→Prop) (s0:σ) (hg:ev e g=some (.func (.func gf) #[] lb)) (hE:Ent P gf) (hlen:∀x,(encs x).length=ps.length)
  (hps:ps.all (fun p=>Nat.blt p n.sz)=true)
  (hOw:∀pre s F A,inv pre s→Ok F A (Lf s)→∀k,Own (Lf s) k↔Ow A k) (hOc:∀pre s F A,inv pre s→Ok F A (Lf s)→∀k,Own (Lf s) k→∃o,A[k]? = some o∧o.isCells=true) (hOd:∀pre s F G A,inv pre s→F.le G→Ok G A (Lf s)→Ok F A (Lf s)) (hOg:∀A B:Heap,B[go]? = A[go]? → ∀k,Ow B k→Ow A k)
  (hit:∀F H,Hp X D (Lf s0) F H→Zr P gf lb (fun x=>(encs x).toArray) Ow xs H∧go<H.size) (h0:inv [] s0)
  (hassign:∀(l:Nat) (x:α) (H':Heap),RCF P ⟨n.sz,[]⟩ w0 (some l) 1 (AQ ⟨n.sz,[]⟩ w0 (envx x) H') (laid e ps (encs x)) assign H')
  (hbody:∀(l:Nat) (pre:List α) (x:α) (s:σ) (X2:Cx),inv pre s→pre.length<xs.length→RCH P ⟨n.sz,[]⟩ w0 (some l) 1 (RQ3 w0 X2 (inv (pre++[x])) Lf) X2 D (Lf s) (envx x) body)
  (hdone:∀(M9:Nat) (s:σ) (F:PH) (H H':Heap),inv xs s→InH F H→H.size≤M9→X.H.size≤M9→Hp X D (Lf s) F H'→Mk H' M9→PF (n.mark M9) w0 Q e .normal H') :
  CH P n w0 Q X D (Lf s0) e (.rangeFunc g ps.toArray assign body):=by
 intro F0 H hp
 obtain⟨hit,hgo⟩:=hit F0 H hp
 refine RCF.out (m:=3) fun a w hf hw=>?_
 have hw':=hw.heap
 have hB:w.heap.size=H.size:=by rw[hw']
 have hsX:X.H.size≤H.size:=hp.hw.1
 refine wpIn_rangeFunc_ownH (α:=α) (F:=RW none) (n:=3) (gf:=gf) (lb:=lb) (encs:=fun x=>(encs x).toArray) (Kp:=fun W W'=>Kq Ow W.heap W'.heap) (S:=fun ys=>ys=xs) (Sp:=fun _=>True) (N:=xs.length) (w0:=w)
  rfl (by decide) (hf.ev hg) trivial (fun args w=>hE.run args w) (hit w hw') (fun h1 h2=>h1.trans h2)
  (fun W l o o' hl ho hc _=>?putobj) (RowKit.Below.refl _ _) (fun x=>by simp[hlen])
  (fun pre W=>Wd w0 W.heap W∧H.size≤W.heap.size∧∃s,inv pre s∧Hp X D (Lf s) F0 W.heap) (fun _ _ _=>False) ?own (fun _ _ _ _ _ h _ _=>h) ⟨⟨rfl,hw.os,hw.tape,hw.output⟩,by omega,s0,h0,by rw[hw'];exact hp⟩
  (fun x a' _=>Fr ⟨n.sz,[]⟩ (envx x) a') (fun _ _ _ _ _ _ h _ _=>h) ?assign ?body ?done ?stop
 case putobj =>
  have hne:∀k,k≠l→(W.putObj l o').heap[k]? = W.heap[k]? := fun k hk=>World.putObj_heap_other hk
  refine⟨by simp[World.putObj],fun k o2 hk hc2 _=>?_,fun k hk => .inl (hOg _ _ (hne go (by omega)) k hk)⟩
  rw[hne k (fun e1=>by subst e1;rw[ho] at hk;injection hk with hk;subst hk;rw[hc] at hc2;cases hc2)];exact hk
 case own =>
  rintro pre W W' row ⟨h1,h2,s,h3,h4⟩ hg' hr
  refine⟨⟨rfl,hg'.os.trans h1.os,hg'.tape.trans h1.tape,hg'.output.trans h1.output⟩,Nat.le_trans h2 hg'.size,s,h3,h4.cg hp.hin hsX (hOc pre s F0 _ h3 h4.ok) ⟨hg'.size,fun k o hk hc=>?_⟩⟩
  refine(hg'.block k (Array.getElem?_eq_some_iff.1 hk).1 (fun e1=>?_)).trans hk
  obtain⟨h5,o',h6,h7⟩:=hr k e1.symm
  rcases hc with hc|hc
  ·omega
  ·rw[hk] at h6;injection h6 with h6;subst h6;rw[hc] at h7;cases h7
 case assign =>
  rintro l pre x W K ⟨h1,h2,h3⟩ hK
  have hfr:Fr ⟨n.sz,[]⟩ (laid e ps (encs x)) { tmps:=(ps.toArray.zip (encs x).toArray).foldl (fun t p=>t.setIfInBounds p.1 p.2) a.tmps,defers:=[] }:=by
   have:=V8 ps (encs x) e a.tmps hps ⟨hf.size,rfl,hf.get⟩
   simpa using this
  refine wpIn_mono (hassign l x W.heap _ W hfr h1) ?_
  intro z a' W' hz
  cases z with
  | normal =>
   obtain⟨h4,h5⟩:=hz
   have h6:W'.heap=W.heap:=h5.heap
   refine hK a' W' ⟨by rw[h6];exact Nat.le_refl _,fun k o _ hk _=>by rw[h6];exact hk⟩ ?_ ⟨⟨rfl,h5.os,h5.tape,h5.output⟩,by rw[h6];exact h2,by rw[h6];exact h3⟩ h4
   show Kq Ow W.heap W'.heap
   rw[h6]
   exact⟨Nat.le_refl _,fun _ _ h _ _=>h,fun _ h => .inl h⟩
  | _=>exact hz
 case body =>
  rintro l pre x a' W _ _ ⟨h1,h2,s,h3,h4⟩ hfr hlt
  have hp2:Hp ⟨Own (Lf s),W.heap,F0⟩ D (Lf s) F0 W.heap:=⟨PH.ext.refl F0,h4.hin,Kw.refl _ _,h4.hd,h4.ok,fun k hk => .inr hk⟩
  refine wpIn_mono (hbody l pre x s ⟨Own (Lf s),W.heap,F0⟩ h3 hlt F0 W.heap hp2 a' W hfr h1) ?_
  intro z a2 W' hz
  cases z with
  | normal =>
   obtain⟨h5,s',F',h6,h7⟩:=hz
   have hle:F0.le F':=h7.hx.1
   have hkw:Kw (Own (Lf s)) W.heap W'.heap:=h7.hw
   have ho':Ok F0 W'.heap (Lf s'):=hOd _ s' F0 F' _ h6 hle h7.ok
   have hown:=hOw _ s F0 W.heap h3 h4.ok
   have hown':=hOw _ s' F0 W'.heap h6 ho'
   refine⟨⟨hkw.1,fun k o hk ho hc=>?_⟩,⟨hkw.1,fun k o hk hc hno=>?_,fun k hk=>?_⟩,h5,Nat.le_trans h2 hkw.1,s',h6,?_⟩
   ·refine(hkw.2 k (Array.getElem?_eq_some_iff.1 ho).1 fun h9=>?_).trans ho
    obtain⟨o2,h8,h10⟩:=hOc _ s F0 _ h3 h4.ok k h9
    rw[ho] at h8;injection h8 with h8;subst h8;rw[hc] at h10;cases h10
   ·exact(hkw.2 k (Array.getElem?_eq_some_iff.1 hk).1 fun h9=>hno ((hown k).1 h9)).trans hk
   ·rcases h7.ge k ((hown' k).2 hk) with h9|h9
    ·exact .inr h9
    ·exact .inl ((hown k).1 h9)
   ·refine⟨h4.hx,fun k o hk=>h7.hin k o (hle k o hk),h4.hw.kw hkw fun k hk1 hk2=>(h4.ge k hk2).resolve_left (by omega),h4.hd,ho',fun k hk=>?_⟩
    rcases h7.ge k hk with h9|h9
    ·exact .inl (Nat.le_trans h4.hw.1 h9)
    ·exact h4.ge k h9
  | _=>exact hz.elim
 case done =>
  rintro M9 ys W hD rfl ⟨h1,h2,s,h3,h4⟩ hK
  exact hdone M9 s F0 H W.heap h3 hp.hin (by omega) (by omega) h4 hK _ W ⟨hf.size,by simp[hf.defers],hf.get⟩ h1
 case stop =>
  rintro M9 c pre W _ _ h _
  exact h.elim
end Go.JE
namespace Go.JE
variable{P:Program}{n:Fs}{Q:Exit→Act→World→Prop}{e:Env}{w:World}{m:Nat}{F:PH}{D:List Dt}
section
variable{ops:Array Oper}{op:Op}{d:Nat}{ty:TypeId}{pos:String}{af:Array Edge}{rest:List Oper}{v:Value}
theorem yo(hin:InH F w.heap)(hd:AllD F D)(h:OH P D [] e op v)(K:YL P n ops Q m ((d,v)::e) rest w)(hs:Nat.blt d n.sz=true:=by rfl)(hn:Jg ⟨some d,op,ty,pos,af,none⟩=true:=by rfl):YL P n ops Q m e (⟨some d,op,ty,pos,af,none⟩::rest) w:=YL.step (h F _ hin hd trivial) K hs hn
theorem ye{q:Value→PH→Prop}(hin:InH F w.heap)(hd:AllD F D)(h:OE P D [] e op q)(K:∀v,q v F→YL P n ops Q m ((d,v)::e) rest w)(hs:Nat.blt d n.sz=true:=by rfl)(hn:Jg ⟨some d,op,ty,pos,af,none⟩=true:=by rfl):YL P n ops Q m e (⟨some d,op,ty,pos,af,none⟩::rest) w:=by
 obtain⟨v,h1,h2⟩:=h F _ hin hd trivial
 exact YL.step h1 (K v h2) hs hn
theorem YL.call{f:FuncId}{args:Array Value}{R:Value→Heap→Prop}(h:Iv P e op w.heap f args)(hc:Ct P f args w.heap R)(K:∀v (w':World),w'.os=w.os→w'.tape=w.tape→w'.output=w.output→R v w'.heap→YL P n ops Q m ((d,v)::e) rest w')(hs:Nat.blt d n.sz=true:=by rfl)(hn:Jg ⟨some d,op,ty,pos,af,none⟩=true:=by rfl) :
  YL P n ops Q m e (⟨some d,op,ty,pos,af,none⟩::rest) w:=by
 intro a hf
 refine wpListIn_plain rfl fun K' hK'=>⟨fun _ _=>trivial,?_⟩
 rw[Oper.semAt_eq _ _ _ (fun c hc=>by simp only at hc;subst hc;cases hn),h a.eval _ w rfl (fun x u hx=>hf.ev hx) rfl]
 refine⟨fun h0=>(by simp[Fence.wide] at h0),(BT (hc w rfl)).mono fun x w' hx=>?_⟩
 obtain⟨v,rfl,h1,h2,h3,h4⟩:=hx
 exact hK' _ _ (K v w' h1 h2 h3 h4 _ (hf.put hs v))
end
def PH.cl(F:PH):PH:=fun k=>match F k with
 | some o=>if o.isCells=true then some o else none
 | none=>none
theorem PH.cl_some{F:PH}{k:Nat}{o:Obj}(h:F.cl k=some o):F k=some o∧o.isCells=true:=by
 unfold PH.cl at h
 split at h
 ·rename_i o' h1
  split at h
  ·rename_i h2;injection h with h;subst h;exact⟨h1,h2⟩
  ·cases h
 ·cases h
theorem PH.cl_pc(F:PH)(b o:Nat):pc F.cl b o=pc F b o:=by
 unfold pc PH.cl
 cases h:F b with
 | none=>rfl
 | some x =>
  cases x<;>simp[Obj.isCells]
theorem InH.cl{F:PH}{H:Heap}(h:InH F H):InH F.cl H:=fun k o hk=>h k o (PH.cl_some hk).1
theorem K2{F:PH}{v:Value}{k:IntKind}{l:List (List Int)}(h:(rL (rL (rI k))).rv F v l):(rL (rL (rI k))).rv F.cl v l:=by
 obtain⟨h0,a,cap,h1,h2,h3,g,h4,h5⟩:=h
 refine⟨h0,a,cap,h1,h2,h3,g,fun i hi=>by rw[PH.cl_pc];exact h4 i hi,fun i hi=>?_⟩
 obtain⟨p0,a',cap',p1,p2,p3,g',p4,p5⟩:=h5 i hi
 exact⟨p0,a',cap',p1,p2,p3,g',fun j hj=>by rw[PH.cl_pc];exact p4 j hj,p5⟩
structure Lie(Ow:Heap→Nat→Prop)(F:PH)(H:Heap):Prop where
 hin:InH F H
 cel:∀k o,F k=some o→o.isCells=true
 no:∀k o,F k=some o→¬Ow H k
theorem Lie.kq{Ow:Heap→Nat→Prop}{F:PH}{H H':Heap}(h:Lie Ow F H)(hk:Kq Ow H H'):Lie Ow F H':=by
 refine⟨fun k o hF=>hk.2.1 k o (h.hin k o hF) (h.cel k o hF) (h.no k o hF),h.cel,fun k o hF ho=>?_⟩
 rcases hk.2.2 k ho with h9|h9
 ·exact h.no k o hF h9
 ·have:=(Array.getElem?_eq_some_iff.1 (h.hin k o hF)).1;omega
end Go.JE
namespace Go.Proofs.YtmfkkodnghambaaGreat
open Go.JE
theorem QZ{F:PH}{H:Heap}{g1 go:Nat}{vg:Value}{g:List (List Int)}{Ow:Heap→Nat→Prop}(hin:InH F H)(hb:Bx H g1 125 [vg])(hd:(rL (rL (rI .i64))).rv F vg g)
  (hOg:∀A B:Heap,B[go]? = A[go]? → ∀k,Ow B k→Ow A k) (hgo:go<H.size) (hOl:∀k,Ow H k→k<H.size) (hOF:∀k,Ow H k→F k=none) :
  Zr Tryz.prog 190 #[.pointer (some ⟨g1,0,none⟩)] (fun x:Ed g.length=>(Rm x).toArray) Ow (Ft g) H:=by
 rintro w0 rfl lr J Jx W hW hJ hJx hY h0
 have hkW:∀k,k<w0.heap.size→W.heap[k]? = w0.heap[k]? := fun k hk=>hW.block k hk
 have hOW:∀k,Ow W.heap k→Ow w0.heap k:=hOg _ _ (hkW go hgo)
 have hFin:InH F.cl W.heap:=fun k o hk=>by
  have h1:=hin.cl k o hk
  rw[hkW k (Array.getElem?_eq_some_iff.1 h1).1];exact h1
 have hWsz:w0.heap.size≤W.heap.size:=hW.size
 have hbW:Bx W.heap g1 125 [vg]:=hb.of (hkW g1 hb.lt)
 have hdW:=K2 hd
 refine YC.enter (args:=[.func (.yield lr) #[] #[],.pointer (some ⟨g1,0,none⟩)]) Tryz.func190 rfl rfl rfl ?_
 refine YC.seq ?_
 refine YC.region ?_
 refine YL.step (Aa.ldBx hbW Ry rfl rfl) ?_
 refine YL.call (Iv.fnc (cs:=[]) DQ rfl (Yr Z)) (BP F.cl W.heap hFin ⟨hdW,trivial⟩ trivial) ?_
 rintro v8 W1 e1 e2 e3 ⟨_,F1,rfl,hr1⟩
 have hp1:=hr1 _ (Nat.le_refl _)
 have hkw1:=hp1.hw
 have hgr:W.grownBy W1 none:=⟨e1,e2,e3,hkw1.1,fun k hk _=>hkw1.2 k hk id⟩
 have hJ1:J [] W1:=hJ _ _ _ _ h0 hgr (fun r hr=>by cases hr)
 have hD:AllD F1.cl [dv (rL (rL (rI .i64))) v8 (Bn g)]:=⟨K2 hp1.hd.1,trivial⟩
 have hOW1:∀k,Ow W1.heap k→Ow w0.heap k:=fun k hk=>hOW k (hOg _ _ (hkw1.2 go (by show go<W.heap.size;omega) id) k hk)
 have hlie:Lie Ow F1.cl W1.heap:=by
  refine⟨hp1.hin.cl,fun k o hk=>(PH.cl_some hk).2,fun k o hk ho=>?_⟩
  have h2:=hOW1 k ho
  have h3:=hOl k h2
  have h4:=(PH.cl_some hk).1
  rw[hp1.hx.2 k (by show k<W.heap.size;omega)] at h4
  have h5:=(PH.cl_some h4).1
  rw[hOF k h2] at h5;cases h5
 clear hr1 hp1 hkw1 hgr e1 e2 e3
 have hcl:=Pv g
 have hxl:=Ys (g:=g)
 have hq:=rL.len hD.1
 rw[hcl] at hq
 refine yo hlie.hin hD (jln Df d0 Z) ?_
 refine YL.step (Aa.move rfl) ?_
 refine YL.nil ?_
 refine YP.next ?_
 refine YC.block ?_
 refine YC.loop (ι:=Nat) (fun k W'=>k≤g.length∧J ((Ft g).take (Db (Bn g) k).length) W'∧Lie Ow F1.cl W'.heap)
  (fun k=>[(0,.func (.yield lr) #[] #[]),(8,v8),(9,.int .i64 ((Bn g).length:Nat)),(10,.int .i64 (k:Int))]) (fun k=>g.length-k) 0 ⟨Nat.zero_le _,by simpa[Db] using hJ1,hlie⟩ ⟨rfl,rfl,rfl,rfl,trivial⟩ ?_
 rintro k W2 ⟨hk,hJ2,hl2⟩
 refine YC.seq ?_
 refine YC.region ?_
 refine yo hl2.hin hD (Ar Z Z) ?_
 refine YL.nil ?_
 refine YP.next ?_
 refine YC.seq ?_
 refine YC.if rfl (fun hc1=>?_) (fun hc1=>?_)
 ·refine YC.skip ?_
  refine YP.next ?_
  refine YC.seq ?_
  refine YC.block ?_
  refine YC.seq ?_
  refine YC.region ?_
  refine YL.step (Aa.move rfl) ?_
  refine yo hl2.hin hD (jix (i:=k) Df Z22 d0 Z Z Z (by omega)) ?_
  refine ye hl2.hin hD (jlV (dix d0 k (by omega)) O22 Z Z) fun v14 hv14=>?_
  have hD2:AllD F1.cl [dv (rL (rI .i64)) v14 (ix (Bn g) k)]:=⟨hv14,trivial⟩
  refine YL.step (Aa.assign rfl) ?_
  refine YL.step (Aa.assign rfl) ?_
  refine YL.nil ?_
  refine YP.next ?_
  refine YC.seq ?_
  refine YC.region ?_
  refine YL.step (Aa.move rfl) ?_
  refine yo hl2.hin hD2 (jln U22 d0 Z) ?_
  refine YL.step (Aa.move rfl) ?_
  refine YL.nil ?_
  refine YP.next ?_
  refine YC.block ?_
  refine YC.loop (ι:=Nat) (fun j W'=>j≤(ix (Bn g) k).length∧J ((Ft g).take ((Db (Bn g) k).length+j)) W'∧Lie Ow F1.cl W'.heap)
   (fun j=>[(0,.func (.yield lr) #[] #[]),(3,.int .i64 (k:Int)),(8,v8),(9,.int .i64 ((Bn g).length:Nat)),(10,.int .i64 (k:Int)),(15,v14),(16,.int .i64 ((ix (Bn g) k).length:Nat)),(17,.int .i64 (j:Int))]) (fun j=>(ix (Bn g) k).length-j) 0 ⟨Nat.zero_le _,by simpa using hJ2,hl2⟩ ⟨rfl,rfl,rfl,rfl,rfl,rfl,rfl,rfl,trivial⟩ ?_
  rintro j W3 ⟨hj,hJ3,hl3⟩
  refine YC.seq ?_
  refine YC.region ?_
  refine yo hl3.hin hD2 (Ar Z Z) ?_
  refine YL.nil ?_
  refine YP.next ?_
  refine YC.seq ?_
  refine YC.if rfl (fun hc2=>?_) (fun hc2=>?_)
  ·have hjl:j<(ix (Bn g) k).length:=by omega
   obtain⟨hp1,hp2⟩:=RF (rows:=Bn g) (n:=g.length) (k:=k) (j:=j) (by omega) hjl
   have hpx:(Db (Bn g) k).length+j<(Ft g).length:=by omega
   have hxv:(Ft g)[(Db (Bn g) k).length+j].val=((k:Int),ix (ix (Bn g) k) j):=(BC hpx).trans (hp2 hp1)
   have hsn:(Ft g).take ((Db (Bn g) k).length+j)++[(Ft g)[(Db (Bn g) k).length+j]]=(Ft g).take ((Db (Bn g) k).length+(j+1)):=(List.take_succ_eq_append_getElem hpx).symm
   refine YC.skip ?_
   refine YP.next ?_
   refine YC.seq ?_
   refine YC.block ?_
   refine YC.seq ?_
   refine YC.region ?_
   refine yo hl3.hin hD2 (jix (i:=j) U22 Z3 d0 Z Z Z hjl) ?_
   refine yo hl3.hin hD2 (jlI (dix d0 j hjl) O3 Z) ?_
   refine YL.step (Aa.assign rfl) ?_
   refine YL.nil ?_
   refine YP.next ?_
   refine YC.seq ?_
   refine YC.region ?_
   refine YL.step (Aa.move rfl) ?_
   refine YL.step (Aa.move rfl) ?_
   refine YL.step (Aa.move rfl) ?_
   have hy:=hY ((Ft g).take ((Db (Bn g) k).length+j)) (Ft g)[(Db (Bn g) k).length+j] W3 hJ3 (by rw[List.length_take];omega)
   refine YL.yield (l:=lr) (args:=(Rm (Ft g)[(Db (Bn g) k).length+j]).toArray) (Rv.call rfl (show some [Value.int .i64 (k:Int),Value.int .i64 (ix (ix (Bn g) k) j)]=some (Rm (Ft g)[(Db (Bn g) k).length+j]) by unfold Rm;rw[hxv])) hy ?_
   rintro z W4 (⟨rfl,hJ4,hk4⟩|⟨rfl,hJx4⟩)
   ·rw[hsn] at hJ4
    have hl4:Lie Ow F1.cl W4.heap:=hl3.kq hk4
    refine⟨_,rfl,?_⟩
    refine YL.step (Aa.not rfl) ?_
    refine YL.nil ?_
    refine YP.next ?_
    refine YC.if rfl (fun hc3=>absurd hc3 (by simp)) (fun hc3=>?_)
    refine YC.skip ?_
    refine YP.blockNormal ?_
    refine YP.next ?_
    refine YC.region ?_
    refine yo hl4.hin hD2 (Al Z Z (by have:=rL.len hv14;omega)) ?_
    refine YL.step (Aa.move rfl) ?_
    refine YL.nil ?_
    exact YP.again (j+1) ⟨by omega,hJ4,hl4⟩ ⟨rfl,rfl,rfl,rfl,rfl,rfl,rfl,eqI (by omega),trivial⟩ (by omega)
   ·refine⟨_,rfl,?_⟩
    refine YL.step (Aa.not rfl) ?_
    refine YL.nil ?_
    refine YP.next ?_
    refine YC.if rfl (fun hc3=>?_) (fun hc3=>absurd hc3 (by simp))
    refine YC.ret ?_
    repeat' first|refine YP.blockRet ?_|refine YP.thenRet ?_
    exact YP.ret0 rfl ⟨⟨_,rfl⟩,.inr ⟨_,trivial,hJx4⟩⟩
  ·have hje:j=(ix (Bn g) k).length:=by omega
   subst hje
   refine YC.exit ?_
   refine YP.thenExit ?_
   refine YP.thenExit ?_
   refine YP.blockHere ?_
   refine YP.blockNormal ?_
   refine YP.next ?_
   refine YC.region ?_
   refine YL.step (Aa.add rfl rfl (by omega)) ?_
   refine YL.step (Aa.move rfl) ?_
   refine YL.nil ?_
   exact YP.again (k+1) ⟨by omega,by rw[BB];exact hJ3,hl3⟩ ⟨rfl,rfl,rfl,eqI (by omega),trivial⟩ (by omega)
 ·have hke:k=g.length:=by omega
  subst hke
  rw[←hxl,List.take_length] at hJ2
  refine YC.exit ?_
  refine YP.thenExit ?_
  refine YP.thenExit ?_
  refine YP.blockHere ?_
  exact YP.end0 rfl ⟨⟨_,rfl⟩,.inl ⟨_,rfl,hJ2⟩⟩
end Go.Proofs.YtmfkkodnghambaaGreat
namespace Go.JE
variable{P:Program}{n:Fs}{w0:World}{Q:Exit→Act→World→Prop}{e:Env}{H:Heap}{X:Cx}{D D0:List Dt}{L L0 M N:List Res}{M9:Nat}
def mkR(M9:Nat):Res where
 sat F H:=Mk H M9∧F M9=none
 own k:=k=M9
 lt:=fun h e=>e▸h.1.lt
 no:=fun h e=>e▸h.2
 st:=fun _ _ h1 h2 h=>⟨h.1.of (h2 M9 rfl),h1 M9 rfl⟩
theorem crf{α σ:Type}{g:Operand}{ps:List Nat}{assign body:Code}{gf go:Nat}{lb:Array Value}{encs:α→List Value}{xs:List α}(envx:α→Env)
  (Lf:σ→List Res) (Ow:Heap→Nat→Prop) (inv:List α→σ→Prop) (s0:σ) (hg:ev e g=some (.func (.func gf) #[] lb)) (hE:Ent P gf) (hlen:∀x,(encs x).length=ps.length)
  (hps:ps.all (fun p=>Nat.blt p n.sz)=true)
  (hOw:∀pre s F A,inv pre s→Ok F A (Lf s)→∀k,Own (Lf s) k↔Ow A k) (hOc:∀pre s F A,inv pre s→Ok F A (Lf s)→∀k,Own (Lf s) k→∃o,A[k]? = some o∧o.isCells=true) (hOd:∀pre s F G A,inv pre s→F.le G→Ok G A (Lf s)→Ok F A (Lf s)) (hOg:∀A B:Heap,B[go]? = A[go]? → ∀k,Ow B k→Ow A k)
  (hit:∀F H,InH F H→AllD F D→Ok F H (Lf s0)→Zr P gf lb (fun x=>(encs x).toArray) Ow xs H∧go<H.size) (h0:inv [] s0)
  (hassign:∀(l:Nat) (x:α) (H':Heap),RCF P ⟨n.sz,[]⟩ w0 (some l) 1 (AQ ⟨n.sz,[]⟩ w0 (envx x) H') (laid e ps (encs x)) assign H')
  (hbody:∀(l:Nat) (pre:List α) (x:α) (s:σ) (X2:Cx),inv pre s→pre.length<xs.length→RCH P ⟨n.sz,[]⟩ w0 (some l) 1 (RQ3 w0 X2 (inv (pre++[x])) Lf) X2 D (Lf s) (envx x) body)
  (hdone:∀(M9:Nat) (s:σ),inv xs s→X.H.size≤M9→QH (n.mark M9) w0 Q X D (mkR M9::Lf s) e .normal) :
  CH P n w0 Q X D (Lf s0) e (.rangeFunc g ps.toArray assign body):=by
 refine CH.rangeFunc envx Lf Ow inv s0 hg hE hlen hps hOw hOc hOd hOg (fun F H hp=>hit F H hp.hin hp.hd hp.ok) h0 hassign hbody (fun M9 s F H H' hi hF hM hX hp hMk=>?_)
 intro a w hf hw
 have hs:=hp.hw.1
 have hFn:F M9=none:=by
  cases h:F M9 with
  | none=>rfl
  | some o=>have:=(Array.getElem?_eq_some_iff.1 (hF M9 o h)).1;omega
 refine hdone M9 s hi hX F H' ⟨hp.hx,hp.hin,hp.hw,hp.hd,⟨⟨hMk,hFn⟩,fun k hk ho=>?_,hp.ok⟩,fun k hk=>?_⟩ a w hf hw
 ·have hk':k=M9:=hk
  subst hk'
  obtain⟨o,h1,h2⟩:=hOc _ s F H' hi hp.ok k ho
  unfold Mk at hMk
  rw[hMk] at h1;injection h1 with h1;subst h1;cases h2
 ·rcases hk with hk|hk
  ·have hk':k=M9:=hk
   subst hk';exact .inl hX
  ·exact hp.ge k hk
section
variable{f:FuncId}{fn:Func}{c:Code}{args:List Value}{ι:Type}{val:ι→Value}{dr:ι→List Dt}{lr:Nat→ι→List Res}
def RQM(P:Program)(fn:Func)(w0:World)(X:Cx){ι:Type}(val:ι→Value)(dr:ι→List Dt)(lr:Nat→ι→List Res):Exit→Act→World→Prop:=BQM P fn w0 (fun v H'=>∃i F',v=val i∧∀B,B≤X.n→Hp X (dr i) (lr B i) F' H')
theorem NV{m:Nat}(hf:P.funcs[f]? = some fn)(hb:fn.body=some c)(hn:fn.ntmps=m)(ha:Nat.ble args.length m=true)
  (h:∀(w0:World) (X:Cx),CH P ⟨m,[]⟩ w0 (RQM P fn w0 X val dr lr) X D0 L0 (Gv 0 args) c):Tr P f args.toArray D0 L0 val dr lr:=fun F H hin hd ho =>
 Ct.enterM hf hb hn ha fun w0 hw=>h w0 ⟨Own L0,H,F⟩ F H ⟨PH.ext.refl F,hin,Kw.refl _ _,hd,ho,fun k hk => .inr hk⟩
theorem Hp.unmark{F:PH}(hp:Hp X D L F H)(hk:Tk L (mkR M9) M)(hX:X.H.size≤M9):Hp X D M F (Pb H M9 (.deferred none)):=by
 obtain⟨⟨h1,h2⟩,h3,h4⟩:=hk.ok hp.ok
 have ho:∀k,k≠M9→(Pb H M9 (.deferred none))[k]? = H[k]? := fun k hk=>by
  unfold Pb;exact Array.getElem?_setIfInBounds_ne (fun e=>hk e.symm)
 have hsz:(Pb H M9 (.deferred none)).size=H.size:=by unfold Pb;simp
 refine⟨hp.hx,hp.hin.of (fun k o hF=>ho k (fun e=>by subst e;rw[h2] at hF;cases hF)),⟨by rw[hsz];exact hp.hw.1,fun k hk1 hk2=>(ho k (by omega)).trans (hp.hw.2 k hk1 hk2)⟩,hp.hd,h4.st (PH.le.refl F) (by rw[hsz];exact Nat.le_refl _) (fun k hk1=>h4.no hk1) (fun k hk1=>ho k (fun e=>by subst e;exact h3 k rfl hk1)),fun k hk1=>hp.ge k (hk.own (.inr hk1))⟩
theorem jrM{m t:Nat}{v:Value}(hr:fn.results=#[.tmp t])(hv:lk e t=some v)(hmk:Tk L (mkR M9) M)(i:ι)(hm:v=val i)(hd:Sd D M (dr i))(hk:∀B,B≤X.n→Tks M (lr B i) N)(hX:X.H.size≤M9):QH (Fs.mark ⟨m,[]⟩ M9) w0 (RQM P fn w0 X val dr lr) X D L e .ret:=fun F H hp=>by
 have hp2:=hp.unmark hmk hX
 exact PF.ret1M hr hv (hmk.ok hp.ok).1.1 ⟨i,F,hm,fun B hB=>hp2.sub hd (hk B hB)⟩
end
end Go.JE
namespace Go.JE
variable{P:Program}{n:Fs}{w0:World}{Q:Exit→Act→World→Prop}{e:Env}{H A:Heap}{X:Cx}{D D0:List Dt}{L L0 M N:List Res}{F G:PH}{k:Nat}
def OwM(a b go:Nat)(A:Heap)(k:Nat):Prop:=k=a∨k=b∨k=go∨∃cur E,A[go]? = some (.cells cur E (0,0))∧∃v∈cur.toList,v.ownBlock=some k
theorem OwM.go{a b go:Nat}{A B:Heap}(h:B[go]? = A[go]?){k:Nat}(hk:OwM a b go B k):OwM a b go A k:=by
 unfold OwM at *
 rw[h] at hk;exact hk
section
variable{α:Type}{r:Rp α}{T To Ta Tb:TypeId}{B a b go m:Nat}{va vb:Value}{vs:List Value}{ls:List (List α)}
abbrev Lm(a:Nat)(Ta:TypeId)(va:Value)(b:Nat)(Tb:TypeId)(vb:Value)(B:Nat)(r:Rp α)(T To:TypeId)(go m:Nat)(s:List Value×List (List α)):List Res :=
 [bx a Ta [va],bx b Tb [vb],rw' B r T s.1 s.2,gl B rV To (.slice (some ⟨go,0,none⟩) m m) s.1]
theorem R5:∀{vs:List Value} {ls:List (List α)},vs.length=ls.length→(Own (rws B r T vs ls) k↔∃v∈vs,v.ownBlock=some k)
 | [],[],_=>⟨fun h=>h.elim,fun⟨_,h,_⟩=>by cases h⟩
 | v::vs,l::ls,h=>by
  have ih:=R5 (vs:=vs) (ls:=ls) (by simpa using h)
  have e:Own (rws B r T (v::vs) (l::ls)) k↔v.ownBlock=some k∨Own (rws B r T vs ls) k:=Iff.rfl
  rw[e,ih];simp
 | [],_::_,h=>by cases h
 | _::_,[],h=>by cases h
theorem K3:∀{vs:List Value} {ls:List (List α)},Ok F A (rws B r T vs ls)→∀k,Own (rws B r T vs ls) k→∃o,A[k]? = some o∧o.isCells=true
 | [],_,_,_,h=>h.elim
 | _::_,[],_,_,h=>h.elim
 | v::vs,l::ls,⟨h1,_,h3⟩,k,hk=>by
  rcases hk with hk|hk
  ·have hlt:=h1.1.lt k hk
   exact⟨_,Array.getElem?_eq_getElem hlt,h1.1.isc hk (Array.getElem?_eq_getElem hlt)⟩
  ·exact K3 h3 k hk
theorem Uf{F G:PH}{k:Nat}(h:F.le G)(hk:G k=none):F k=none:=by
 cases h1:F k with
 | none=>rfl
 | some o=>rw[h k o h1] at hk;cases hk
theorem K1(hr:∀(a:α) (g:Nat→Value),r.ok G a g→r.ok F a g)(hl:F.le G):∀{vs:List Value} {ls:List (List α)},Ok G A (rws B r T vs ls)→Ok F A (rws B r T vs ls)
 | [],_,_=>trivial
 | _::_,[],_=>trivial
 | v::vs,l::ls,⟨h1,h2,h3⟩=>by
  obtain⟨⟨xs,o1,o2,o3⟩,h4⟩:=h1
  exact⟨⟨⟨xs,o1,fun k hk=>Uf hl (o2 k hk),fun i hi=>hr _ _ (o3 i hi)⟩,h4⟩,h2,K1 hr hl h3⟩
theorem Xu(h:(gl B rV To (.slice (some ⟨go,0,none⟩) m m) vs).sat F A):∃cur,A[go]? = some (.cells cur To (0,0))∧cur.toList=vs:=by
 obtain⟨⟨xs,o1,o2,o3⟩,_⟩:=h
 rcases o1.2 with⟨h1,_⟩|⟨g,cap,cur,e1,f1,f2,f3,f4,f5,f6⟩
 ·cases h1
 ·injection e1 with e1 e2 e3
  injection e1 with e1
  injection e1 with e1
  subst e1;subst e2;subst e3
  refine⟨cur,f2,?_⟩
  have hsz:rV.sz=1:=rfl
  rw[hsz] at f5 f6
  rw[Nat.mul_one] at f5 f6
  rw[List.take_of_length_le (by simp[f5])] at f6
  rw[f6]
  have hl:xs.length=vs.length:=by have:=o1.1;rw[hsz,Nat.mul_one] at this;exact this
  refine List.ext_getElem hl fun i h1 h2=>?_
  have h3:=(o3 i h2).1
  have h4:xs.getD (i*1+0) undef=vs[i]:=h3
  rw[Nat.mul_one,Nat.add_zero,List.getD_eq_getElem?_getD,List.getElem?_eq_getElem h1] at h4
  exact h4
theorem Xt{s:List Value×List (List α)}(hs:s.1.length=s.2.length)(h:Ok F A (Lm a Ta va b Tb vb B r T To go m s))(k:Nat):Own (Lm a Ta va b Tb vb B r T To go m s) k↔OwM a b go A k:=by
 obtain⟨_,_,_,_,_,_,h4,_,_⟩:=h
 obtain⟨cur,h5,h6⟩:=Xu h4
 have e:Own (Lm a Ta va b Tb vb B r T To go m s) k↔k=a∨k=b∨Own (rws B r T s.1 s.2) k∨some go=some k∨False:=Iff.rfl
 rw[e,R5 hs]
 unfold OwM
 rw[h5]
 constructor
 ·rintro(h|h|h|h|h)
  ·exact .inl h
  ·exact .inr (.inl h)
  ·obtain⟨v,h7,h8⟩:=h
   exact .inr (.inr (.inr ⟨cur,To,rfl,v,by rw[h6];exact h7,h8⟩))
  ·injection h with h;exact .inr (.inr (.inl h.symm))
  ·exact h.elim
 ·rintro(h|h|h|⟨cur',E,h7,v,h8,h9⟩)
  ·exact .inl h
  ·exact .inr (.inl h)
  ·exact .inr (.inr (.inr (.inl (by rw[h]))))
  ·injection h7 with h7
   injection h7 with h7
   subst h7
   exact .inr (.inr (.inl ⟨v,by rw[←h6];exact h8,h9⟩))
theorem LR{s:List Value×List (List α)}(h:Ok F A (Lm a Ta va b Tb vb B r T To go m s))(k:Nat)(hk:Own (Lm a Ta va b Tb vb B r T To go m s) k):∃o,A[k]? = some o∧o.isCells=true:=by
 obtain⟨h1,_,h2,_,h3,_,h4,_,_⟩:=h
 rcases hk with hk|hk|hk|hk|hk
 ·have hk':k=a:=hk
  subst hk';exact⟨_,h1.1,rfl⟩
 ·have hk':k=b:=hk
  subst hk';exact⟨_,h2.1,rfl⟩
 ·exact K3 h3 k hk
 ·obtain⟨cur,h5,_⟩:=Xu h4
  have hk':some go=some k:=hk
  injection hk' with hk'
  subst hk';exact⟨_,h5,rfl⟩
 ·exact hk.elim
theorem LQ{s:List Value×List (List α)}(hr:∀(F G:PH) (a:α) (g:Nat→Value),r.ok G a g→r.ok F a g)(hl:F.le G)(h:Ok G A (Lm a Ta va b Tb vb B r T To go m s)):Ok F A (Lm a Ta va b Tb vb B r T To go m s):=by
 obtain⟨h1,p1,h2,p2,h3,p3,h4,p4,_⟩:=h
 obtain⟨⟨xs,o1,o2,o3⟩,o4⟩:=h4
 exact⟨⟨h1.1,Uf hl h1.2⟩,p1,⟨h2.1,Uf hl h2.2⟩,p2,K1 (hr F G) hl h3,p3,⟨⟨xs,o1,fun k hk=>Uf hl (o2 k hk),fun i hi=>o3 i hi⟩,o4⟩,p4,trivial⟩
end
section
variable{α:Type}{r:Rp α}{T To E:TypeId}{B go a b m':Nat}{va vb v:Value}{vs:List Value}{ls:List (List α)}{l:List α}{Ta Tb:TypeId}{ro:Option Nat}{m:Nat}{c:Code}
theorem U0{s:List Value×List (List α)}(h:Ok F A (Lm a Ta va b Tb vb B r T To go m' s)):go<A.size:=by
 obtain⟨_,_,_,_,_,_,h4,_,_⟩:=h
 obtain⟨cur,h5,_⟩:=Xu h4
 exact(Array.getElem?_eq_some_iff.1 h5).1
end
theorem IL{k:IntKind}(F G:PH)(a:Int)(g:Nat→Value)(h:(rI k).ok G a g):(rI k).ok F a g:=h
end Go.JE
namespace Go.Proofs.YtmfkkodnghambaaGreat
open Go.JE
theorem UD:Ent Tryz.prog 185:=⟨_,Tryz.func185,by kernel_rfl,by kernel_rfl⟩
theorem TZ:Ent Tryz.prog 190:=⟨_,Tryz.func190,by kernel_rfl,by kernel_rfl⟩
theorem RC{a0:Value}{g:List (List Int)}:Tr Tryz.prog 185 #[a0] [dv (rL (rL (rI .i64))) a0 g] [] (fun g1:Nat => .func (.func 190) #[] #[.pointer (some ⟨g1,0,none⟩)]) (fun _=>[]) (fun _ g1=>[bx g1 125 [a0]]):=by
 refine Az (args:=[a0]) Tryz.func185 rfl rfl rfl fun w0 X=>?_
 refine jq (jr (jdq d0 fun q1 w1=>Cm Z w1.cells fun g1=>ja Z (jn (jx (jq (jr (js (Uj Z) (ja Z (jn ?_)))))))))
 refine jx (jrt ?_)
 exact jr1 Z Z g1 Z dn (fun _ _=>(kc k0 kn))
theorem M8{a0:Value}{g:List (List Int)}(hgn:g.length≤512):Td Tryz.prog 167 #[a0] [dv (rL (rL (rI .i64))) a0 g] [] (rL (rL (rI .i64))) (Cv g):=by
 refine NV (args:=[a0]) Tryz.func167 rfl rfl rfl fun w0 X=>?_
 refine jq (jr (ja Z (jn (jx (jq (jr (jm Z (jdq d0 fun q1 w1=>js (jln Df d0 Z) (jmk (m:=g.length) (r:=rV) Df I22 Z Z Z Z Z (by omega) (wV Z) Z fun g8=>jrn (r:=(rI .i64)) (T:=3) g.length ?_)))))))))
 refine Bo DK Z fun g3=>jst k0 DC Z Z Z s0 (jn (jx (jq (jq (jr (jm Z (jc UD Z Z RC (dc d0 dn) kn (fun _=>p0) (fun _=>p1) fun g10=>jn (jx (jb ?_)))))))))
 refine crf (σ:=List Value×List (List Int)) (α:=Ed g.length) (go:=g8) (xs:=Ft g) (encs:=Rm) (fun x=>[(3,.pointer (some ⟨g3,0,none⟩)),(4,.int .i64 x.val.1),(5,.int .i64 x.val.2)]) (fun s=>Lm g10 125 a0 g3 125 (.slice (some ⟨g8,0,none⟩) g.length g.length) X.n (rI .i64) 3 22 g8 g.length s) (OwM g10 g3 g8) (fun pre s=>s.2=Jd g.length (pre.map Subtype.val)∧s.1.length=s.2.length) (List.replicate g.length (.slice none 0 0),List.replicate g.length []) rfl TZ (fun _=>rfl) rfl (fun _ s F A hi h=>Xt hi.2 h) (fun _ s F A hi h=>LR h) (fun _ s F G A hi hl h=>LQ (fun F G=>IL F G) hl h) (fun A B h k hk=>hk.go h) (fun F H hin hd ho=>⟨QZ hin ho.1.1 hd.1 (fun A B h k hk=>hk.go h) (U0 ho) (fun k hk=>ho.lt ((Xt (by simp) ho k).2 hk)) (fun k hk=>ho.no ((Xt (by simp) ho k).2 hk)),U0 ho⟩) ⟨rfl,by simp⟩ ?_ ?_ ?_
 intro lx x H9
 refine RCF.seq ?_
 refine RCF.region ?_
 refine LF.step (Aa.assign rfl) ?_
 refine RLF.nil ?_
 refine RPF.next ?_
 refine RCF.region ?_
 refine LF.step (Aa.assign rfl) ?_
 refine RLF.nil ?_
 exact PF.assigned ⟨rfl,rfl,rfl,trivial⟩
 rintro lx pre ⟨⟨pa,pb⟩,hpa,hpb⟩ ⟨vs,ls⟩ X2 ⟨hls,hvl⟩ hlt;dsimp only[Lm] at hpa hpb hls hvl ⊢
 have hll:ls.length=g.length:=by rw[hls];exact Tm _
 have hsm:(ls[pb.toNat]?.getD []).length≤262144:=by rw[hls];refine Nat.le_trans (JN _) ?_;rw[List.length_map];have:=RE hgn;omega
 refine rb (HZ false (.a 0 (.a 1 (.a 2 (.a 3 (.a 6 (.w 4 7 (.w 5 7 (.o 7 (.o 8 (.o 9 (.o 10 .e)))) (.o 5 (.o 8 (.o 9 (.o 10 .e))))) (.o 4 (.o 5 (.o 8 (.o 9 (.o 10 .e))))))))))) Bi (by kernel_rfl) (kc k1 kn) (by kernel_rfl) fun F2=>jy Z (jl k0 Ry Z Z) (jy Z (jmv Z) (jy Z (jl k0 Ry Z Z) (jy Z (jmv Z) (jy Z (jmv Z) ?_)))))
 refine jyw Z Z ?_ ?_
 refine js (jig (i:=pb.toNat) Df Z22 k3 Z Z (by omega) (by omega)) (jyn d0 (kc k1 kn) ?_)
 refine jyw Z Z ?_ ?_
 refine js (jgW k3 (by omega) O22 Z) (jyn d0 (kc k1 kn) (jyo Z (Bg (r:=(rI .i64)) (l:=[pa]) U22 I3 (by decide) Z Z Z (lV Z Z (wI (wp (IntWalk.i64_in _ (by omega)))) ln) fun g20=>jyn d0 (kc k2 kn) (jyo Z (jfz k0 (by(try simp)<;>omega) (jro pb.toNat k2 (by omega) (by omega) (jgo k0 fun w9=>Dl U22 I3 (by decide) Z k0 Z Z d0 (by(try simp)<;>omega) fun v21 w10=>jyn d1 (kc k3 kn) (jyo Z ?_))))))))
 refine js (jig (i:=pb.toNat) Df Z22 k4 Z Z (by omega) (by omega)) (jyn d0 (kc k3 kn) (jyo Z (jsg k4 Z Z22 Z Z w10.one (by omega) (wV w10.one) (jru k1 k1 (by omega) (by omega) (jyn d0 (kc k3 kn) (jyd ?_))))))
 exact Wz (List.set vs pb.toNat v21,List.set ls pb.toNat ((List.getD ls pb.toNat [])++([pa]))) ⟨by dsimp only;rw[hls,List.map_append];exact(Xi (l:=pre.map Subtype.val) (p:=(pa,pb))).symm,by simp[hvl]⟩ (kc k2 (kc k2 (kd kn)))
 refine Bg (r:=(rI .i64)) (l:=[pa]) U22 I3 (by decide) Z Z Z (lV Z Z (wI (wp (IntWalk.i64_in _ (by omega)))) ln) fun g20=>jyn d0 (kc k2 kn) (jyo Z (js (jgW k4 (by omega) O22 Z) (jyn d0 (kc k2 kn) (jyo Z (jfz k0 (by(try simp)<;>omega) (jro pb.toNat k2 (by omega) (by omega) (jgo k0 fun w9=>Dl U22 I3 (by decide) Z k0 Z Z d0 (by(try simp)<;>omega) fun v21 w10=>jyn d1 (kc k3 kn) (jyo Z ?_))))))))
 refine js (jig (i:=pb.toNat) Df Z22 k4 Z Z (by omega) (by omega)) (jyn d0 (kc k3 kn) (jyo Z (jsg k4 Z Z22 Z Z w10.one (by omega) (wV w10.one) (jru k1 k1 (by omega) (by omega) (jyn d0 (kc k3 kn) (jyd ?_))))))
 exact Wz (List.set vs pb.toNat v21,List.set ls pb.toNat ((List.getD ls pb.toNat [])++([pa]))) ⟨by dsimp only;rw[hls,List.map_append];exact(Xi (l:=pre.map Subtype.val) (p:=(pa,pb))).symm,by simp[hvl]⟩ (kc k2 (kc k2 (kd kn)))
 refine Bg (r:=(rI .i64)) (l:=[pa]) U22 I3 (by decide) Z Z Z (lV Z Z (wI (wp (IntWalk.i64_in _ (by omega)))) ln) fun g20=>jyn d0 (kc k2 kn) (jyo Z (js (jig (i:=pb.toNat) Df Z22 k4 Z Z (by omega) (by omega)) (jyn d0 (kc k2 kn) (jyo Z (js (jgW k4 (by omega) O22 Z) (jyn d0 (kc k2 kn) (jyo Z (jfz k0 (by(try simp)<;>omega) (jro pb.toNat k2 (by omega) (by omega) (jgo k0 fun w9=>?_))))))))))
 refine Dl U22 I3 (by decide) Z k0 Z Z d0 (by(try simp)<;>omega) fun v21 w10=>jyn d1 (kc k3 kn) (jyo Z (js (jig (i:=pb.toNat) Df Z22 k4 Z Z (by omega) (by omega)) (jyn d0 (kc k3 kn) (jyo Z (jsg k4 Z Z22 Z Z w10.one (by omega) (wV w10.one) (jru k1 k1 (by omega) (by omega) (jyn d0 (kc k3 kn) (jyd ?_))))))))
 exact Wz (List.set vs pb.toNat v21,List.set ls pb.toNat ((List.getD ls pb.toNat [])++([pa]))) ⟨by dsimp only;rw[hls,List.map_append];exact(Xi (l:=pre.map Subtype.val) (p:=(pa,pb))).symm,by simp[hvl]⟩ (kc k2 (kc k2 (kd kn)))
 rintro M9 ⟨vs,ls⟩ ⟨hls,hvl⟩ hMX;dsimp only[Lm] at hls hvl ⊢
 rw[RD] at hls;have hls0:ls=Cv g:=hls
 have hll:ls.length=g.length:=by rw[hls];exact Tm _
 refine jbn (jx (jq (jr (js (jl k2 Ry Z Z) (ja Z (jn (jx (jrt ?_))))))))
 refine qfr k4 k3 hvl (by omega) (fun l hl=>by rw[hls] at hl;exact JM hgn l hl) ?_
 exact jrM Z Z k0 ((.slice (some ⟨g8,0,none⟩) g.length g.length):Value) Z (by rw[←hls0];exact(dc d0 dn)) (fun _ _=>kn) hMX
theorem DT:Ent Tryz.prog 166:=⟨_,Tryz.func166,by kernel_rfl,by kernel_rfl⟩
theorem DS:Ent Tryz.prog 167:=⟨_,Tryz.func167,by kernel_rfl,by kernel_rfl⟩
theorem UC:Ent Tryz.prog 186:=⟨_,Tryz.func186,by kernel_rfl,by kernel_rfl⟩
theorem PR{a0:Value}{g:List (List Int)}(hn:0<g.length∧g.length≤512)(hw:∀b,b<g.length→∃w,RB (fun q t=>(t:Int)∈ix (Bn g) q) w b):Tr Tryz.prog 168 #[a0] [dv (rL (rL (rI .i64))) a0 g] [] (fun c:Value×List Int=>c.1) (fun c=>[dv (rL (rI .i64)) c.1 c.2,pu (Vt g c.2)]) (fun _ _=>[]):=by
 refine Az (args:=[a0]) Tryz.func168 rfl rfl rfl fun w0 X=>?_
 refine jq (jr (ja Z (jn (jx (jq (jr (jm Z (jc DT Z Z (R8 hn) (dc d0 dn) kn (fun _=>p2) (fun _=>p0) fun c17=>jpu d1 fun hod0=>?_))))))))
 have hod:=hod0.od hn.1 hw
 refine ja Z (jn (jx (jq (jr (jm Z (jdq d2 fun q3 w3=>js (jln Df d2 Z) (jmk (m:=g.length) (r:=(rI .i64)) U22 I3 Z Z Z Z Z (by omega) (wI (wp (by decide))) Z fun g20=>ja Z (jn (jx ?_)))))))))
 refine jq (jr (jm Z (js (jln Df d2 Z) (jmk (m:=g.length) (r:=(rI .i64)) U22 I3 Z Z Z Z Z (by omega) (wI (wp (by decide))) Z fun g23=>ja Z (jn (jx (jq (jq (jr (jm Z ?_))))))))))
 refine js (jln Df d2 Z) (jm Z (jn (jx (jb ?_))))
 refine jlp (u3 fun(k:Nat) (nm:List Int) (ou:List Int)=>⟨k≤g.length∧nm.length=g.length∧ou=List.replicate k (-1)++List.replicate (g.length-k) 0,[dv (rL (rI .i64)) c17.1 c17.2,dv (rL (rL (rI .i64))) a0 g],[gl X.n (rI .i64) 3 (.slice (some ⟨g23,0,none⟩) g.length g.length) ou,gl X.n (rI .i64) 3 (.slice (some ⟨g20,0,none⟩) g.length g.length) nm],[(0,a0),(2,.slice none 0 0),(3,c17.1),(4,(.slice (some ⟨g20,0,none⟩) g.length g.length)),(5,(.slice (some ⟨g23,0,none⟩) g.length g.length)),(25,.int .i64 (↑g.length)),(26,.int .i64 (↑k))],g.length-k⟩) (0,List.replicate g.length 0,List.replicate g.length 0) ⟨by dsimp only;omega,by simp,by simp⟩ (dc d0 (dc d2 dn)) (kd kn) ⟨Z,Z,Z,Z,Z,Z,eqI (by omega),trivial⟩ ?_
 rintro⟨k,nm,ou⟩;dsimp only[u3];rintro⟨hk,hnl,hou⟩
 have hol:ou.length=g.length:=by rw[hou];simp;omega
 refine jq (jr (js (Ar Z Z) (jn (jx (jq ?_)))))
 refine jif Z (fun hc1=>?_) (fun hc1=>?_)
 refine jsk (jx (jq (jb (jq (jr (jm Z (ja Z (jn (jx (jr (jm Z ?_)))))))))))
 refine jm Z (jm Z (jm Z (js (jig U22 Z3 k1 Z Z Z (by omega)) (jsg k1 Z Z3 Z Z Z (by omega) (wI (wl (-1))) (js (jig U22 Z3 k1 Z Z Z (by omega)) (jsg k1 Z Z3 Z Z Z (by omega) (wI (wl (-1))) (jn (jbn (jx (jr (js (Al Z Z (by omega)) ?_)))))))))))
 refine jm Z (jn ?_)
 exact jag (k+1,List.set nm k (-1),List.set ou k (-1)) ⟨by dsimp only;omega,by simpa using hnl,by dsimp only;rw[hou];exact QR (by omega)⟩ (dc d0 (dc d1 dn)) (kd kn) ⟨Z,Z,Z,Z,Z,Z,eqI (by omega),trivial⟩
 refine jex (jtx (jtx (jbh (jx (jq (jq (jr (jm Z (jdq d0 fun q4 w4=>js (jln U22 d0 Z) (jm Z ?_))))))))))
 refine jn (jx (jb ?_))
 refine jlp (u2 fun(k2:Nat) (nm:List Int)=>⟨k2≤c17.2.length∧NK g.length c17.2 nm k2,[dv (rL (rI .i64)) c17.1 c17.2,dv (rL (rL (rI .i64))) a0 g],[gl X.n (rI .i64) 3 (.slice (some ⟨g23,0,none⟩) g.length g.length) ou,gl X.n (rI .i64) 3 (.slice (some ⟨g20,0,none⟩) g.length g.length) nm],[(0,a0),(2,.slice none 0 0),(3,c17.1),(4,(.slice (some ⟨g20,0,none⟩) g.length g.length)),(5,(.slice (some ⟨g23,0,none⟩) g.length g.length)),(36,c17.1),(37,.int .i64 (↑(List.length c17.2))),(38,.int .i64 (↑k2))],c17.2.length-k2⟩) (0,nm) ⟨by dsimp only;omega,⟨by dsimp only;exact hnl,fun j h=>absurd h (Nat.not_lt_zero _)⟩⟩ (dc d0 (dc d1 dn)) (kd kn) ⟨Z,Z,Z,Z,Z,Z,Z,eqI (by omega),trivial⟩ ?_
 rintro⟨k2,nm⟩;dsimp only[u2];rintro⟨hk2,hnk⟩
 have hnl2:=hnk.1
 refine jq (jr (js (Ar Z Z) (jn (jx (jq ?_)))))
 refine jif Z (fun hc2=>?_) (fun hc2=>?_)
 have hr8:=Ty hod (k:=k2) (by omega)
 refine jsk (jx (jq (jb (jq (jr (jm Z (js (jix U22 Z3 d0 Z Z Z (by omega)) (js (jlI (dix d0 k2 (by omega)) O3 Z) (ja Z (ja Z (jn ?_)))))))))))
 refine jx (jr (jm Z (jm Z (jm Z (js (jig (i:=(Int.toNat (ix c17.2 k2))) U22 Z3 k1 Z Z (by omega) (by omega)) (jsg k1 Z Z3 Z Z Z (by omega) (wI (wp (IntWalk.i64_in _ (by omega)))) (jn (jbn (jx (jr (js (Al Z Z (by omega)) ?_)))))))))))
 refine jm Z (jn ?_)
 exact jag (k2+1,List.set nm (Int.toNat (ix c17.2 k2)) ((k2:Nat):Int)) ⟨by dsimp only;omega,hnk.nx hod (by omega)⟩ (dc d0 (dc d1 dn)) (kc k1 (kc k0 kn)) ⟨Z,Z,Z,Z,Z,Z,Z,eqI (by omega),trivial⟩
 refine jex (jtx (jtx (jbh (jx (jq (jr (jfz k1 (by omega) ?_)))))))
 have hnu:NU g.length c17.2 nm:=⟨hnk.1,fun j h=>hnk.2 j (by omega)⟩
 have hgn:=(hod.gn hn.1 hnu).1
 have hfull:=KY hod
 have hlen9:=KW hod
 have hpl:=Xg g
 refine jm Z (jcd DS Z Z (M8 hn.2) (dc d2 dn) kn fun v49 q6 w6=>ja Z (jn (jx (jq (jq (jr (ja Z (jn (jx (jb ?_))))))))))
 refine jlp (u3 fun(f:Nat) (ch:Bool) (ou:List Int)=>⟨IS g.length nm (prG g) ou 1∧(ch=false→IS g.length nm (prG g) ou (g.length:Int)∧FX g.length nm (prG g) ou (g.length:Int))∧smI g.length nm ou g.length+(if ch=true then 1 else 0)≤f,[dv (rL (rL (rI .i64))) v49 (Cv g),dv (rL (rI .i64)) (.slice (some ⟨g20,0,none⟩) g.length g.length) nm,dv (rL (rI .i64)) c17.1 c17.2],[gl X.n (rI .i64) 3 (.slice (some ⟨g23,0,none⟩) g.length g.length) ou],[(2,.slice none 0 0),(3,c17.1),(4,(.slice (some ⟨g20,0,none⟩) g.length g.length)),(5,(.slice (some ⟨g23,0,none⟩) g.length g.length)),(9,v49),(10,.bool ch)],f⟩) (smI g.length nm ou g.length+1,true,ou) ⟨by dsimp only;rw[hou];exact(by have h9:=IS.beg hgn;rw[show g.length-k=0 by omega];simpa[show k=g.length by omega] using h9),(fun h=>by cases h),by dsimp only;rw[if_pos rfl];exact Nat.le_refl _⟩ (dc d0 (dc d1 (dc d2 dn))) (kc k0 kn) ⟨Z,Z,Z,Z,Z,Z,trivial⟩ ?_
 rintro⟨f,ch,ou⟩;dsimp only[u3];rintro⟨his,hid,hfu⟩
 have hol:=his.tv.len
 refine jq (jq (jr (jm Z (jn (jx ?_)))))
 refine jif Z (fun hc3=>?_) (fun hc3=>?_)
 have hf0:0<f:=by rw[hc3] at hfu;simp at hfu;omega
 refine jsk (jx (jb (jq (jr (ja Z (jn (jx (jq (jr (jm Z (jm Z ?_)))))))))))
 refine js (jln U22 d2 Z) (js (Lo Z Z) (js (Kt (lo:=(Int.toNat (min 1 (↑(List.length c17.2))))) U22 Z3 d2 Z Z (by omega) (by omega)) (jdq (dlo d2 (Int.toNat (min 1 (↑(List.length c17.2)))) (by omega) (by omega)) fun q8 w8=>js (jln U22 (dlo d2 (Int.toNat (min 1 (↑(List.length c17.2)))) (by omega) (by omega)) Z) (jm Z (jn (jx (jb ?_)))))))
 refine jlp (u3 fun(k:Nat) (ch2:Bool) (ou2:List Int)=>⟨k≤c17.2.length-1∧IR g.length nm (prG g) ou ou2 ch2 k,[dv (rL (rL (rI .i64))) v49 (Cv g),dv (rL (rI .i64)) (.slice (some ⟨g20,0,none⟩) g.length g.length) nm,dv (rL (rI .i64)) c17.1 c17.2],[gl X.n (rI .i64) 3 (.slice (some ⟨g23,0,none⟩) g.length g.length) ou2],[(2,.slice none 0 0),(3,c17.1),(4,(.slice (some ⟨g20,0,none⟩) g.length g.length)),(5,(.slice (some ⟨g23,0,none⟩) g.length g.length)),(9,v49),(10,.bool ch2),(55,(resl 1 c17.1 (Int.toNat (min 1 (↑(List.length c17.2)))) (List.length c17.2))),(56,.int .i64 (↑(List.length (List.drop (Int.toNat (min 1 (↑(List.length c17.2)))) c17.2)))),(57,.int .i64 (↑k))],c17.2.length-1-k⟩) (0,false,ou) ⟨by dsimp only;omega,IR.beg hgn his⟩ (dc d0 (dc d1 (dc d2 dn))) (kc k0 kn) ⟨Z,Z,Z,Z,Z,Z,Z,Z,eqI (by omega),trivial⟩ ?_
 rintro⟨k,ch2,ou2⟩;dsimp only[u3];rintro⟨hk4,hir⟩
 have hol2:=hir.is.tv.len
 have hdl:(List.drop (min 1 (c17.2.length:Int)).toNat c17.2).length=c17.2.length-1:=by rw[List.length_drop];omega
 refine jq (jr (js (Ar Z Z) (jn (jx (jq ?_)))))
 refine jif Z (fun hc4=>?_) (fun hc4=>?_)
 refine jsk (jx (jq (jb (jq (jr (js (jix U22 Z3 (dlo d2 (Int.toNat (min 1 (↑(List.length c17.2)))) (by omega) (by omega)) Z Z Z (by omega)) (js (jlI (dix (dlo d2 (Int.toNat (min 1 (↑(List.length c17.2)))) (by omega) (by omega)) k (by omega)) O3 Z) (ja Z (jn (jx (jq ?_)))))))))))
 refine jr (ja Z (jn (jx (jq (jq (jr ?_))))))
 generalize hb:ix (List.drop (Int.toNat (min 1 (↑(List.length c17.2)))) c17.2) k=b at ⊢
 have hbe:b=ix c17.2 (k+1):=by rw[←hb,OT];congr 1;omega
 have hbr:=Ty hod (k:=k+1) (by omega)
 rw[←hbe] at hbr
 have hbn:ix nm b.toNat=((k+1:Nat):Int):=by rw[hbe];exact hnu.pos (k+1) (by omega)
 have hb0:b.toNat≠0:=fun h=>by rw[h,hgn.zero] at hbn;omega
 refine jm Z (jm Z (js (jix (i:=b.toNat) Df Z22 d0 Z Z (by omega) (by omega)) (jev (jlV (dix d0 b.toNat (by omega)) O22 Z Z) fun v64 q9 w9=>js (jln U22 d0 Z) (jm Z (jn (jx (jb ?_)))))))
 refine jlp (u2 fun(j:Nat) (best:Int)=>⟨S9 g.length ou2 (ix (Cv g) b.toNat) j best,[dv (rL (rI .i64)) v64 (ix (Cv g) b.toNat),dv (rL (rL (rI .i64))) v49 (Cv g),dv (rL (rI .i64)) (.slice (some ⟨g20,0,none⟩) g.length g.length) nm,dv (rL (rI .i64)) c17.1 c17.2],[gl X.n (rI .i64) 3 (.slice (some ⟨g23,0,none⟩) g.length g.length) ou2],[(2,.slice none 0 0),(3,c17.1),(4,(.slice (some ⟨g20,0,none⟩) g.length g.length)),(5,(.slice (some ⟨g23,0,none⟩) g.length g.length)),(9,v49),(10,.bool ch2),(12,.int .i64 b),(13,.int .i64 best),(55,(resl 1 c17.1 (Int.toNat (min 1 (↑(List.length c17.2)))) (List.length c17.2))),(56,.int .i64 (↑(List.length (List.drop (Int.toNat (min 1 (↑(List.length c17.2)))) c17.2)))),(57,.int .i64 (↑k)),(64,v64),(65,.int .i64 (↑(List.length (ix (Cv g) b.toNat)))),(66,.int .i64 (↑j))],(ix (Cv g) b.toNat).length-j⟩) (0,-1) ⟨by dsimp only;omega,BS.beg,by dsimp only;omega,by dsimp only;omega⟩ (dc d0 (dc d1 (dc d2 (dc d3 dn)))) (kc k0 kn) ⟨Z,Z,Z,Z,Z,Z,Z,eqI (by omega),Z,Z,Z,Z,Z,eqI (by omega),trivial⟩ ?_
 rintro⟨j,best⟩;dsimp only[u2];rintro⟨hj,hbs,hb1,hb2⟩
 have hs9:S9 g.length ou2 (ix (Cv g) b.toNat) j best:=⟨hj,hbs,hb1,hb2⟩
 refine jq (jr (js (Ar Z Z) (jn (jx (jq ?_)))))
 refine jif Z (fun hc5=>?_) (fun hc5=>?_)
 refine jsk (jx (jq (jb (jq (jr (js (jix U22 Z3 d0 Z Z Z (by omega)) (js (jlI (dix d0 j (by omega)) O3 Z) (ja Z (jn (jx (jq ?_)))))))))))
 refine jq (jr ?_)
 generalize ha:ix (ix (Cv g) b.toNat) j=a at ⊢
 have har:=Xe (Ax (l:=ix (Cv g) b.toNat) (i:=j) (by omega))
 rw[ha] at har
 refine jm Z (jm Z (jdq d2 fun q11 w11=>js (jix (i:=a.toNat) U22 Z3 d2 Z Z (by omega) (by omega)) (js (jlI (dix d2 a.toNat (by omega)) O3 Z) (js (Ar Z Z) (jm Z (jg Z Z (.f _) (fun hg=>jmv Z) (jg Z Z (.f _) (fun hg=>Ga (evg Z hg) Z) (jg Z Z (.f _) (fun hg=>jmv (evg Z hg)) (jg Z Z (.gt _ _) (fun hg=>jmv Z) (jg Z Z (.gt _ _) (fun hg=>jmv Z) ?_))))))))))
 refine jg Z Z (.gt _ _) (fun hg=>jig (i:=a.toNat) U22 Z3 k0 (evg Z hg) (evg Z hg) (by first|omega|(simp at hg;omega)) (by first|omega|(simp at hg;omega)|(simp only[List.length_set];omega)|(simp;done))) (jg Z Z (.gt _ _) (fun hg=>jgI k0 (by first|omega|(simp at hg;omega)|(simp only[List.length_set];omega)|(simp;done)) O3 (evg Z hg)) (jg Z Z (.gt _ _) (fun hg=>Ar (evg Z hg) Z) (jg Z Z (.f _) (fun hg=>Um hg Z Z) (js (jor Z Z) (jn (jx ?_))))))
 refine jif Z (fun hc6=>?_) (fun hc6=>?_)
 refine jex (jtx (jbh (jx (jr (js (Al Z Z (by omega)) (jm Z (jn ?_)))))))
 exact jag (j+1,best) (HA hgn hir.is hs9 ha har (by omega) (by simpa using hc6)) (dc d0 (dc d1 (dc d2 (dc d3 dn)))) (kc k0 kn) ⟨Z,Z,Z,Z,Z,Z,Z,Z,Z,Z,Z,Z,Z,eqI (by omega),trivial⟩
 have hca:¬a=0→0≤ix ou2 a.toNat:=by simp at hc6;exact fun h=>hc6.2.resolve_left h
 refine jsk (jx (jq (jq (jr (jm Z (js (Ar Z Z) (jn (jx ?_))))))))
 refine jif Z (fun hc7=>?_) (fun hc7=>?_)
 refine jq (jr (jm Z (ja Z (jn (jx (jex (jtx (jbh (jx (jr (js (Al Z Z (by omega)) ?_)))))))))))
 refine jm Z (jn ?_)
 exact jag (j+1,a) (HC hir.is hs9 ha har (by omega) hca hc7) (dc d0 (dc d1 (dc d2 (dc d3 dn)))) (kc k0 kn) ⟨Z,Z,Z,Z,Z,Z,Z,eqI (by omega),Z,Z,Z,Z,Z,eqI (by omega),trivial⟩
 refine jsk (jx (jr (jm Z (jm Z (jm Z (jm Z (jc UC Z Z (Tv.temp 1073741824 (RT best a (HB hgn hnl2 hir.is hs9 har hca (by omega))) (by omega)) (dc d2 dn) (kc k0 kn) (fun _=>p0) (fun _=>p1) fun _=>ja Z (jn (jbn (jx ?_))))))))))
 refine jr (js (Al Z Z (by omega)) (jm Z (jn ?_)))
 exact jag (j+1,Ky ou2 nm best a) (HD hgn hir.is hs9 ha har (by omega) hca (by omega)) (dc d0 (dc d1 (dc d2 (dc d3 dn)))) (kc k0 kn) ⟨Z,Z,Z,Z,Z,Z,Z,eqI (by omega),Z,Z,Z,Z,Z,eqI (by omega),trivial⟩
 refine jex (jtx (jtx (jbh (jx (jq (jr (jm Z (jm Z (js (jig (i:=b.toNat) U22 Z3 k0 Z Z (by omega) (by omega)) (js (jgI k0 (by omega) O3 Z) (jm Z ?_)))))))))))
 refine js (Ga Z Z) (jn (jx ?_))
 refine jif Z (fun hc8=>?_) (fun hc8=>?_)
 refine jr (jm Z (jm Z (jm Z (js (jig (i:=b.toNat) U22 Z3 k0 Z Z (by omega) (by omega)) (jsg k0 Z Z3 Z Z Z (by omega) (wI (wp (IntWalk.i64_in _ (by omega)))) (ja Z (jn (jbn (jx (jr (js (Al Z Z (by omega)) ?_)))))))))))
 refine jm Z (jn ?_)
 exact jag (k+1,true,List.set ou2 b.toNat best) ⟨by dsimp only;omega,hir.set hgn (by omega) hb0 hbn (hs9.all (by omega)) hc8⟩ (dc d1 (dc d2 (dc d3 dn))) (kc k0 kn) ⟨Z,Z,Z,Z,Z,Z,Z,Z,eqI (by omega),trivial⟩
 refine jsk (jbn (jx (jr (js (Al Z Z (by omega)) (jm Z (jn ?_))))))
 exact jag (k+1,ch2,ou2) ⟨by dsimp only;omega,hir.keep hgn (by omega) hb0 hbn (hs9.all (by omega)) (by omega)⟩ (dc d1 (dc d2 (dc d3 dn))) (kc k0 kn) ⟨Z,Z,Z,Z,Z,Z,Z,Z,eqI (by omega),trivial⟩
 refine jex (jtx (jtx (jbh (jbn ?_))))
 exact jag (f-1,ch2,ou2) ⟨(hir.is.end9 (by omega)).round hgn,fun h9=>⟨hir.is.end9 (by omega),(hir.fx h9).end9 (by omega)⟩,by have h8:=hir.le;have h9:=hir.lt;have hf9:=hfu;rw[if_pos hc3] at hf9;dsimp only;cases ch2<;>simp at h9⊢<;> omega⟩ (dc d0 (dc d1 (dc d2 dn))) (kc k0 kn) ⟨Z,Z,Z,Z,Z,Z,trivial⟩
 refine jex (jtx (jtx (jbh (jx (jq (jr (jm Z (ja Z (jn (jx (jrt ?_)))))))))))
 refine qfz k0 (by omega) ?_
 exact jr1 Z Z ((.slice (some ⟨g23,0,none⟩) g.length g.length),ou) Z (dc d0 (dc (wpu ((hid (by simpa using hc3)).1.dg hgn (hid (by simpa using hc3)).2)) dn)) (fun _ _=>kn)
end Go.Proofs.YtmfkkodnghambaaGreat
namespace Go.JE
variable{P:Program}{D D0:List Dt}{L M Ls L0:List Res}{e:Env}{X:Cx}{n:Fs}{w0:World}{Q:Exit→Act→World→Prop}
variable{ops:Array Oper}{op:Op}{d:Nat}{ty:TypeId}{pos:String}{af:Array Edge}{rest:List Oper}{T T' K E:TypeId}{x y z:Operand}{g:Nat}{l:List (Int×Value)}{k:Int}{v u:Value}{b:Bool}
end Go.JE
namespace Go.Proofs.YtmfkkodnghambaaGreat
open Go.JE
abbrev Zm:=@Tryz.underlying177
abbrev Na:=@Tryz.underlying213
theorem Kh:Ent Tryz.prog 113:=⟨_,Tryz.func113,by kernel_rfl,by kernel_rfl⟩
theorem Oh:Ent Tryz.prog 114:=⟨_,Tryz.func114,by kernel_rfl,by kernel_rfl⟩
theorem DV:Ent Tryz.prog 161:=⟨_,Tryz.func161,by kernel_rfl,by kernel_rfl⟩
theorem UR:Ent Tryz.prog 162:=⟨_,Tryz.func162,by kernel_rfl,by kernel_rfl⟩
theorem UQ:Ent Tryz.prog 163:=⟨_,Tryz.func163,by kernel_rfl,by kernel_rfl⟩
theorem DU:Ent Tryz.prog 164:=⟨_,Tryz.func164,by kernel_rfl,by kernel_rfl⟩
theorem UH:Ent Tryz.prog 179:=⟨_,Tryz.func179,by kernel_rfl,by kernel_rfl⟩
theorem UF:Ent Tryz.prog 180:=⟨_,Tryz.func180,by kernel_rfl,by kernel_rfl⟩
theorem Nf:Fld Tryz.prog 179 0 0:=⟨_,_,Tryz.underlying179,rfl,rfl,2,(by unfold Sz;kernel_rfl),by decide⟩
theorem Zv:Fld Tryz.prog 179 1 2:=⟨_,_,Tryz.underlying179,rfl,rfl,1,(by unfold Sz;kernel_rfl),by decide⟩
theorem TS:Fld Tryz.prog 211 0 0:=⟨_,_,Tryz.underlying211,rfl,rfl,1,(by unfold Sz;kernel_rfl),by decide⟩
theorem TQ:Fld Tryz.prog 211 1 1:=⟨_,_,Tryz.underlying211,rfl,rfl,1,(by unfold Sz;kernel_rfl),by decide⟩
theorem TP:Fld Tryz.prog 211 2 2:=⟨_,_,Tryz.underlying211,rfl,rfl,1,(by unfold Sz;kernel_rfl),by decide⟩
theorem TO:Fld Tryz.prog 211 3 3:=⟨_,_,Tryz.underlying211,rfl,rfl,1,(by unfold Sz;kernel_rfl),by decide⟩
theorem Zo:One Tryz.prog 177:=⟨_,Tryz.underlying177,rfl⟩
theorem Zl:Sz Tryz.prog 211 4:=by unfold Sz;kernel_rfl
theorem DB:Sz Tryz.prog 219 2:=by unfold Sz;kernel_rfl
theorem Qb:(Tryz.prog.info? 211).bind (·.zero)=some (.agg #[.int .i64 0,.int .i64 0,.int .i64 0,.int .i64 0]):=by kernel_rfl
theorem Vi:(Tryz.prog.info? 219).bind (·.zero)=some (.agg #[.int .i64 0,.int .i64 0]):=by kernel_rfl
theorem J67:(Tryz.prog.info? 67).bind (·.zero)=some (.agg #[.int .i64 0,.int .i64 0,.int .i64 0,.slice none 0 0,.int .i32 0]):=by kernel_rfl
theorem I6  : Tr Tryz.prog 164 #[] [] [] (fun g:Nat => .map (some g)) (fun _=>[]) (fun _ g=>[im g shL]):=by
 refine Az (args:=[]) Tryz.func164 rfl rfl rfl fun w0 X=>?_
 refine jq (jr (ja Z (jn (jx (jq (jr (jmm fun g1=>js (jbu (v := .agg #[.int .i64 0,.int .i64 0,.int .i64 1,.int .i64 1]) Z (fun _=>by kernel_rfl)) (jin Na U3 k0 Z Z Z Z (js (jbu (v := .agg #[.int .i64 1,.int .i64 1,.int .i64 2,.int .i64 2]) Z (fun _=>by kernel_rfl)) (jin Na U3 k0 Z Z Z Z ?_))))))))))
 refine js (jbu (v := .agg #[.int .i64 1,.int .i64 1,.int .i64 2,.int .i64 65]) Z (fun _=>by kernel_rfl)) (jin Na U3 k0 Z Z Z Z (js (jbu (v := .agg #[.int .i64 0,.int .i64 1,.int .i64 0,.int .i64 0]) Z (fun _=>by kernel_rfl)) (jin Na U3 k0 Z Z Z Z (js (jbu (v := .agg #[.int .i64 0,.int .i64 0,.int .i64 0,.int .i64 0]) Z (fun _=>by kernel_rfl)) (jin Na U3 k0 Z Z Z Z (jm Z (ja Z (jn (jx (jrt ?_))))))))))
 exact jr1 Z Z g1 Z dn (fun _ _=>(kc k0 kn))
end Go.Proofs.YtmfkkodnghambaaGreat
namespace Go.Proofs.YtmfkkodnghambaaGreat
open Go.JE
theorem Hw:Ag9 Tryz.prog 165:=⟨_,Tryz.underlying165,rfl⟩
theorem UK:Ent Tryz.prog 177:=⟨_,Tryz.func177,by kernel_rfl,by kernel_rfl⟩
theorem UJ:Ent Tryz.prog 178:=⟨_,Tryz.func178,by kernel_rfl,by kernel_rfl⟩
theorem Hj:Fld Tryz.prog 170 1 1:=⟨_,_,Tryz.underlying170,rfl,rfl,1,(by unfold Sz;kernel_rfl),by decide⟩
theorem Du:Sz Tryz.prog 165 3:=by unfold Sz;kernel_rfl
theorem Zq:(Tryz.prog.info? 165).bind (·.zero)=some (.agg #[.int .i64 0,.int .i64 0,.int .i64 0]):=by kernel_rfl
theorem JF(op:Int)(n:Int):Tv Tryz.prog 177 #[.int .i64 op,.int .i64 n] [] [] (.bool (Jo op n)):=by
 refine Az (args:=[.int .i64 op,.int .i64 n]) Tryz.func177 rfl rfl rfl fun w0 X=>?_
 refine jq (jr (ja Z (jn (jx (jq (jq (jr (jm Z (jn (jx (jb ?_)))))))))))
 refine jq (jr (js (Ao Z Z) (ja Z (jn (jx ?_)))))
 refine jif Z (fun hc1=>?_) (fun hc1=>?_)
 refine jq (jr (jm Z (js (Ao Z Z) (ja Z (jn (jx (jrt (jbr (jtr ?_)))))))))
 exact jrB Z Z (by first|(simp[Jo, *];done)|(unfold Jo;(repeat' split)<;>first|rfl|(exfalso;omega)|simp_all))
 refine jq (jr (js (Ao Z Z) (ja Z (jn (jx ?_)))))
 refine jif Z (fun hc2=>?_) (fun hc2=>?_)
 refine jq (jr (jm Z (js (Ao Z Z) (ja Z (jn (jx (jrt (jbr (jtr ?_)))))))))
 exact jrB Z Z (by first|(simp[Jo, *];done)|(unfold Jo;(repeat' split)<;>first|rfl|(exfalso;omega)|simp_all))
 refine jq (jr (js (Ao Z Z) (ja Z (jn (jx ?_)))))
 refine jif Z (fun hc3=>?_) (fun hc3=>?_)
 refine jq (jr (jm Z (js (Nv Z Z) (ja Z (jn (jx (jrt (jbr (jtr ?_)))))))))
 exact jrB Z Z (by first|(simp[Jo, *];done)|(unfold Jo;(repeat' split)<;>first|rfl|(exfalso;omega)|simp_all))
 refine jsk (jbn (jx (jq (jr (jm Z (js (Ao Z Z) (ja Z (jn (jx (jrt ?_))))))))))
 exact jrB Z Z (by first|(simp[Jo, *];done)|(unfold Jo;(repeat' split)<;>first|rfl|(exfalso;omega)|simp_all))
theorem IW{a0a a0b:Value}{t:D.Term}:Tv Tryz.prog 178 #[vTerm t (a0a,a0b)] [da Bf (vTerm t (a0a,a0b)) t] [] (.bool (Hl t)):=by
 refine Az (args:=[vTerm t (a0a,a0b)]) Tryz.func178 rfl rfl rfl fun w0 X=>?_
 refine jq (jr (Cm Z Z fun g1=>ja Z (jn (jx (jq (jr (js (jf Jq Z) (js (jl k0 O22 Z Z) (jdq (Bf.c_Args d0) fun q1 w1=>js (jln U22 (Bf.c_Args d0) Z) ?_)))))))))
 refine ja Z (jn (jx (jq (jr (js (jf Ei Z) (js (jl k0 O22 Z Z) (jdq (Bf.c_To d0) fun q2 w2=>js (jln U22 (Bf.c_To d0) Z) (ja Z (jn (jx ?_))))))))))
 refine jq (jq (jr (js (jf Lu Z) (js (jl k0 O3 Z Z) (jn (jx (jb (jq (jr (js (Ao Z Z) (ja Z ?_)))))))))))
 refine jn (jx ?_)
 refine jif Z (fun hc1=>?_) (fun hc1=>?_)
 refine jq (jr (jm Z (js (Ao Z Z) (jm Z (jg Z Z (.t _) (fun hg=>jmv Z) (jg Z Z (.t _) (fun hg=>Ao (evg Z hg) Z) (js (Cf Z Z) (ja Z (jn (jx (jrt ?_)))))))))))
 refine jbr (jtr ?_)
 exact jrB Z Z (by first|(simp[Hl, *];done)|(unfold Hl;(repeat' split)<;>first|rfl|(exfalso;omega)|simp_all))
 refine jq (jr (js (Ao Z Z) (ja Z (jn (jx ?_)))))
 refine jif Z (fun hc2=>?_) (fun hc2=>?_)
 refine jq (jr (jm Z (js (Ao Z Z) (jm Z (jg Z Z (.t _) (fun hg=>jmv Z) (jg Z Z (.t _) (fun hg=>Ao (evg Z hg) Z) (js (Cf Z Z) (ja Z (jn (jx (jrt ?_)))))))))))
 refine jbr (jtr ?_)
 exact jrB Z Z (by first|(simp[Hl, *];done)|(unfold Hl;(repeat' split)<;>first|rfl|(exfalso;omega)|simp_all))
 refine jq (jr (js (Ao Z Z) (ja Z (jn (jx ?_)))))
 refine jif Z (fun hc3=>?_) (fun hc3=>?_)
 refine jq (jr (jm Z (js (Ao Z Z) (jm Z (jg Z Z (.t _) (fun hg=>jmv Z) (jg Z Z (.t _) (fun hg=>Gj (evg Z hg) Z) (js (Cf Z Z) (jm Z (jg Z Z (.t _) (fun hg=>jmv Z) (jg Z Z (.t _) (fun hg=>Nv (evg Z hg) Z) (js (Cf Z Z) ?_)))))))))))
 refine ja Z (jn (jx (jrt (jbr (jtr ?_)))))
 exact jrB Z Z (by first|(simp[Hl, *];done)|(unfold Hl;(repeat' split)<;>first|rfl|(exfalso;omega)|simp_all))
 refine jq (jr (js (Ao Z Z) (ja Z (jn (jx ?_)))))
 refine jif Z (fun hc4=>?_) (fun hc4=>?_)
 refine jq (jr (jm Z (js (Nv Z Z) (jm Z (jg Z Z (.t _) (fun hg=>jmv Z) (jg Z Z (.t _) (fun hg=>Ao (evg Z hg) Z) (js (Cf Z Z) (ja Z (jn (jx (jrt ?_)))))))))))
 refine jbr (jtr ?_)
 exact jrB Z Z (by first|(simp[Hl, *];done)|(unfold Hl;(repeat' split)<;>first|rfl|(exfalso;omega)|simp_all))
 refine jq (jr (js (Ao Z Z) (ja Z (jn (jx ?_)))))
 refine jif Z (fun hc5=>?_) (fun hc5=>?_)
 refine jq (jr (jm Z (js (Ao Z Z) (jm Z (jg Z Z (.t _) (fun hg=>jmv Z) (jg Z Z (.t _) (fun hg=>Ao (evg Z hg) Z) (js (Cf Z Z) (ja Z (jn (jx (jrt ?_)))))))))))
 refine jbr (jtr ?_)
 exact jrB Z Z (by first|(simp[Hl, *];done)|(unfold Hl;(repeat' split)<;>first|rfl|(exfalso;omega)|simp_all))
 refine jsk (jbn (jx (jq (jr (ja Z (jn (jx (jrt ?_))))))))
 exact jrB Z Z (by first|(simp[Hl, *];done)|(unfold Hl;(repeat' split)<;>first|rfl|(exfalso;omega)|simp_all))
theorem IZ{a0:Value}{f:D.Func}(hp0:0≤f.Params)(hsz:Bw f.Blocks<1000000000):Tr Tryz.prog 157 #[vFunc f a0] [da Aj (vFunc f a0) f] [] (fun i:{ t:Int×Int×Int // t.1=0↔ShR f } => .agg #[.int .i64 i.1.1,.int .i64 i.1.2.1,.int .i64 i.1.2.2]) (fun _=>[]) (fun _ _=>[]):=by
 refine Az (args:=[vFunc f a0]) Tryz.func157 rfl rfl rfl fun w0 X=>?_
 refine jq (jr (Cm Z Z fun g1=>Bo Zq Z fun g2=>jn (jx (jq (jr (jmk (m:=8192) (r:=rB) Ex I4 Z Z Z Z Z (by omega) wB Z fun g13=>ja Z (jn (jx ?_))))))))
 refine jq (jr (js (jla k2 A49 Z49 Z Z Z) (jcd Vr Z Z (Ti (by omega)) (dc d0 dn) kn fun v15 q1 w1=>ja Z (jn (jx (jq (jq (jr (ja Z (jn ?_))))))))))
 refine jx (jb ?_)
 refine jlp (u2 fun(i:Nat) (se:List Bool)=>⟨i≤(Ad f).length∧(∀j,j<i→ThOk f (ix (Ad f) j))∧SeI se (mkT ((Ad f).take i))∧(mkT ((Ad f).take i)).Nodup∧se.length=8192,[dv (rL Be) v15 (Ad f),da Aj (vFunc f a0) f],[gl X.n rB 4 (.slice (some ⟨g13,0,none⟩) 8192 8192) se,bx g2 165 [.int .i64 0,.int .i64 0,.int .i64 0],bx g1 49 [.int .i64 f.Params,a0]],[(1,.pointer (some ⟨g1,0,none⟩)),(2,.pointer (some ⟨g2,0,none⟩)),(3,(.slice (some ⟨g13,0,none⟩) 8192 8192)),(4,v15),(5,.int .i64 (↑i))],(Ad f).length-i⟩) (0,List.replicate 8192 false) ⟨Nat.zero_le _,(fun j h=>absurd h (Nat.not_lt_zero _)),SeI.beg,List.nodup_nil,List.length_replicate⟩ (dc d0 (dc d1 dn)) (kd (kc k0 kn)) ⟨Z,Z,Z,Z,eqI (by omega),trivial⟩ ?_
 rintro⟨i,se⟩;dsimp only[u2];rintro⟨hi,hT9,hS9,hN9,hsl⟩
 refine jq (jq (jr (jm Z (jm Z (js (jln Ek d0 Z) (js (Ar Z Z) (jn (jx ?_))))))))
 refine jif Z (fun hc1=>?_) (fun hc1=>?_)
 have hta:=Gf.1 (Ax (l:=Ad f) (i:=i) (by omega))
 have htr:=Sm hta
 refine jsk (jx (jq (jb (jq (jr (jm Z (jm Z (js (jix Ek Er d0 Z Z Z (by omega)) (jA2 Sw (jlA (dix d0 i (by omega)) Se Er Z) fun c25a c25b=>Bo Vj Z fun g6=>jdq (Be.c_Makes d0) fun q4 w4=>?_)))))))))
 refine jdq (Be.c_Takes d0) fun q5 w5=>Bk k0 Er Z Z Z ⟨Z,Z,w4.one,w5.one,trivial⟩ (saf Z) (jn (jx (jq (jr (js (jf Bu Z) (js (jl k3 O47 Z Z) (js (jf Gp Z) (js (jl k0 O3 Z Z) (jdq (Aj.cB d2) fun q6 w6=>js (jix (i:=(Int.toNat ((ix (Ad f) i).Block))) U47 Z62 (Aj.cB d2) Z Z (by omega) (by omega)) ?_)))))))))
 refine jA4 Le (jlA (dix (Aj.cB d2) (Int.toNat ((ix (Ad f) i).Block)) (by omega)) A62 Z62 Z) fun c31a c31b c31c c31d=>Bo J62 Z fun g7=>jdq (Af.cP d0) fun q8 w8=>jdq (Af.cI d0) fun q9 w9=>jdq (Af.c_Term_Args d0) fun q10 w10=>jdq (Af.c_Term_To d0) fun q11 w11=>Bk k0 Z62 Z Z Z ⟨w8.one,w9.one,Z,w10.one,w11.one,Z,trivial⟩ (saf Z) (jn (jx (jq (jq (jr ?_)))))
 refine js (jf Hj Z) (js (jl k1 O3 Z Z) (js (Gj Z Z) (jm Z (jg Z Z (.t _) (fun hg=>jf Hj Z) (jg Z Z (.t _) (fun hg=>jl k1 O3 (evg Z hg) Z) (jg Z Z (.t _) (fun hg=>jf Cn Z) (jg Z Z (.t _) (fun hg=>jl k0 O58 (evg Z hg) Z) (jg Z Z (.t _) (fun hg=>jln U58 (Af.cI d0) (evg Z hg)) (jg Z Z (.t _) (fun hg=>Ar (evg Z hg) (evg Z hg)) (js (Cf Z Z) (jn ?_)))))))))))
 refine jx ?_
 refine jjo (fun(uq:Nat)=>⟨0≤uq∧(0≤(ix (Ad f) i).Place→(ix (Ad f) i).Place<(ix f.Blocks (Int.toNat (ix (Ad f) i).Block)).Ins.length→(1≤(Ja f (ix (Ad f) i)).Op∧(Ja f (ix (Ad f) i)).Op≤18)∧Jo (Ja f (ix (Ad f) i)).Op (Ja f (ix (Ad f) i)).Args.length=true),[da Af (vBlock (ix f.Blocks (Int.toNat ((ix (Ad f) i).Block))) (c31a,c31b,c31c,c31d)) (ix f.Blocks (Int.toNat ((ix (Ad f) i).Block))),da Be (vTg3 (ix (Ad f) i) (c25a,c25b)) (ix (Ad f) i),dv (rL Be) v15 (Ad f),da Aj (vFunc f a0) f],[bx g7 62 [c31a,c31b,.int .i64 (((ix f.Blocks (Int.toNat ((ix (Ad f) i).Block))).Term).Kind),c31c,c31d,.int .i32 (((ix f.Blocks (Int.toNat ((ix (Ad f) i).Block))).Term).Imm)],bx g6 170 [.int .i64 ((ix (Ad f) i).Block),.int .i64 ((ix (Ad f) i).Place),c25a,c25b],gl X.n rB 4 (.slice (some ⟨g13,0,none⟩) 8192 8192) se,bx g2 165 [.int .i64 0,.int .i64 0,.int .i64 0],bx g1 49 [.int .i64 f.Params,a0]],[(1,.pointer (some ⟨g1,0,none⟩)),(2,.pointer (some ⟨g2,0,none⟩)),(3,(.slice (some ⟨g13,0,none⟩) 8192 8192)),(4,v15),(5,.int .i64 (((i:Nat):Int))),(6,.pointer (some ⟨g6,0,none⟩)),(7,.pointer (some ⟨g7,0,none⟩))]⟩) ?_ ?_
 refine jif Z (fun hc2=>?_) (fun hc2=>?_)
 have hc2b:=hc2
 (try simp only[Bool.and_eq_true,decide_eq_true_eq] at hc2b)
 refine jq (jr (js (jf Cn Z) (js (jl k0 O58 Z Z) (js (jf Hj Z) (js (jl k1 O3 Z Z) (js (jix (i:=(Int.toNat ((ix (Ad f) i).Place))) U58 Z67 (Af.cI d0) Z Z (by omega) (by omega)) (jA Mb (jlA (dix (Af.cI d0) (Int.toNat ((ix (Ad f) i).Place)) (by omega)) A67 Z67 Z) fun c48=>Bo J67 Z fun g8=>jdq (Am.c_Args d0) fun q14 w14=>Bk k0 Z67 Z Z Z ⟨Z,Z,Z,w14.one,Z,trivial⟩ (saf Z) (jn ?_))))))))
 refine jx (jq (jr (js (jf Ke Z) (js (jl k0 O3 Z Z) (js (Ar Z Z) (jm Z (jg Z Z (.f _) (fun hg=>jf Ke Z) (jg Z Z (.f _) (fun hg=>jl k0 O3 (evg Z hg) Z) (jg Z Z (.f _) (fun hg=>Ee (evg Z hg) Z) (js (jor Z Z) (jm Z ?_)))))))))))
 refine jg Z Z (.f _) (fun hg=>jf Ke Z) (jg Z Z (.f _) (fun hg=>jl k0 O3 (evg Z hg) Z) (jg Z Z (.f _) (fun hg=>jf Hi Z) (jg Z Z (.f _) (fun hg=>jl k0 O22 (evg Z hg) Z) (jg Z Z (.f _) (fun hg=>jln U22 (Am.c_Args d0) (evg Z hg)) (jgc Z Z (.f _) UK Z (fun hg=>Mx (evg Z hg) (evg Z hg)) (fun hg=>(JF ((ix ((ix f.Blocks (Int.toNat ((ix (Ad f) i).Block))).Ins) (Int.toNat ((ix (Ad f) i).Place))).Op) (↑(List.length ((ix ((ix f.Blocks (Int.toNat ((ix (Ad f) i).Block))).Ins) (Int.toNat ((ix (Ad f) i).Place))).Args))))) (fun hg=>dn) kn p0 (jg Z Z (.f _) (fun hg=>Dq (evg Z hg)) (js (jor Z Z) (jn (jx ?_)))))))))
 refine jif Z (fun hc3=>?_) (fun hc3=>?_)
 refine jq (jr (js (jf Gp Z) (js (jl k2 O3 Z Z) (js (jf Hj Z) (js (jl k2 O3 Z Z) (js (jbu (v := .agg #[.int .i64 10,.int .i64 ((ix (Ad f) i).Block),.int .i64 ((ix (Ad f) i).Place)]) Z (fun _=>by kernel_rfl)) (Bk k4 Du Z Z Z ⟨Z,Z,Z,trivial⟩ (saf Z) (jn (jx (jrt (jjr ?_)))))))))))
 refine jtr (jbr (jtr (jtr (jbr (jtr ?_)))))
 exact jrc Z Z k0 Hw Du ⟨(10,(ix (Ad f) i).Block,(ix (Ad f) i).Place),⟨fun h=>absurd (show((10:Int))=0 from h) (by decide),fun h=>absurd h (fun h=>by have h9:=hc2;(try simp at h9);have h8:=(h.1 _ (Ax (l:=Ad f) (i:=i) (by omega))).op h9.1 h9.2;unfold Ja at h8;have h7:=hc3;simp[h8.2] at h7;omega)⟩⟩ Z dn (fun _ _=>kn)
 refine jsk ?_
 exact jje 0 ⟨Nat.le_refl _,(fun h1 h2=>by have h9:=hc3;unfold Ja;(try simp at h9);exact⟨by omega,by simp[h9]⟩)⟩ (dc d1 (dc d2 (dc d3 (dc d4 dn)))) (kc k1 (kc k1 (kc k1 (kc k1 (kc k1 kn))))) ⟨Z,Z,Z,Z,Z,Z,Z,trivial⟩
 refine jsk ?_
 exact jje 0 ⟨Nat.le_refl _,(fun h1 h2=>absurd hc2 (by simp[h1,h2]))⟩ (dc d0 (dc d1 (dc d2 (dc d3 dn)))) (kd (kd (kc k0 kn))) ⟨Z,Z,Z,Z,Z,Z,Z,trivial⟩
 rintro uq;dsimp only;rintro⟨huq,hop⟩
 refine jx (jq (jr (js (jf Hj Z) (js (jl k1 O3 Z Z) (js (jf Cn Z) (js (jl k0 O58 Z Z) (js (jln U58 (Af.cI d0) Z) (js (Ao Z Z) (ja Z (jn (jx ?_)))))))))))
 refine jq (jq (jr (jm Z (jm Z (jg Z Z (.t _) (fun hg=>jf Eh Z) (jg Z Z (.t _) (fun hg=>jla k0 A60 Z60 (evg Z hg) Z Z) (jgc Z Z (.t _) UJ Z (fun hg=>Yr (evg Z hg)) (fun hg=>IW) (fun hg=>(dc (Af.P_Term d0) dn)) kn p0 (jg Z Z (.t _) (fun hg=>Dq (evg Z hg)) (js (Cf Z Z) (jn (jx ?_)))))))))))
 refine jif Z (fun hc4=>?_) (fun hc4=>?_)
 refine jq (jr (js (jf Gp Z) (js (jl k1 O3 Z Z) (js (jf Hj Z) (js (jl k1 O3 Z Z) (js (jbu (v := .agg #[.int .i64 10,.int .i64 ((ix (Ad f) i).Block),.int .i64 ((ix (Ad f) i).Place)]) Z (fun _=>by kernel_rfl)) (Bk k3 Du Z Z Z ⟨Z,Z,Z,trivial⟩ (saf Z) (jn (jx (jrt (jtr ?_)))))))))))
 refine jbr (jtr (jtr (jbr (jtr ?_))))
 exact jrc Z Z k0 Hw Du ⟨(10,(ix (Ad f) i).Block,(ix (Ad f) i).Place),⟨fun h=>absurd (show((10:Int))=0 from h) (by decide),fun h=>absurd h (fun h=>by have h9:=hc4;(try simp at h9);have h8:=(h.1 _ (Ax (l:=Ad f) (i:=i) (by omega))).tm h9.1;rw[h8] at h9;cases h9.2)⟩⟩ Z dn (fun _ _=>kn)
 refine jsk (jx (jq (jq (jr (ja Z (jn (jx (jb ?_))))))))
 refine jlp (fun(k:Nat)=>⟨k≤(ix (Ad f) i).Makes.length∧∀n∈(ix (Ad f) i).Makes.take k,f.Params≤n∧n≤8191,[da Af (vBlock (ix f.Blocks (Int.toNat ((ix (Ad f) i).Block))) (c31a,c31b,c31c,c31d)) (ix f.Blocks (Int.toNat ((ix (Ad f) i).Block))),da Be (vTg3 (ix (Ad f) i) (c25a,c25b)) (ix (Ad f) i),dv (rL Be) v15 (Ad f),da Aj (vFunc f a0) f],[bx g7 62 [c31a,c31b,.int .i64 (((ix f.Blocks (Int.toNat ((ix (Ad f) i).Block))).Term).Kind),c31c,c31d,.int .i32 (((ix f.Blocks (Int.toNat ((ix (Ad f) i).Block))).Term).Imm)],bx g6 170 [.int .i64 ((ix (Ad f) i).Block),.int .i64 ((ix (Ad f) i).Place),c25a,c25b],gl X.n rB 4 (.slice (some ⟨g13,0,none⟩) 8192 8192) se,bx g2 165 [.int .i64 0,.int .i64 0,.int .i64 0],bx g1 49 [.int .i64 f.Params,a0]],[(1,.pointer (some ⟨g1,0,none⟩)),(2,.pointer (some ⟨g2,0,none⟩)),(3,(.slice (some ⟨g13,0,none⟩) 8192 8192)),(4,v15),(5,.int .i64 (↑i)),(6,.pointer (some ⟨g6,0,none⟩)),(7,.pointer (some ⟨g7,0,none⟩)),(9,.bool (decide ((ix (Ad f) i).Place=↑(List.length ((ix f.Blocks (Int.toNat ((ix (Ad f) i).Block))).Ins))))),(10,.int .i64 (↑k))],(ix (Ad f) i).Makes.length-k⟩) 0 ⟨Nat.zero_le _,(fun n h=>by cases h)⟩ (dc d0 (dc d1 (dc d2 (dc d3 dn)))) (kd (kd (kc k0 kn))) ⟨Z,Z,Z,Z,Z,Z,Z,Z,eqI (by omega),trivial⟩ ?_
 rintro k;dsimp only;rintro⟨hk,hR9⟩
 refine jq (jq (jr (jm Z (js (jf Iw Z) (js (jl k1 O22 Z Z) (js (jln U22 (Be.c_Makes d1) Z) (js (Ar Z Z) (jn (jx ?_)))))))))
 refine jif Z (fun hc5=>?_) (fun hc5=>?_)
 refine jsk (jx (jq (jb (jq (Gh Bi (by kernel_rfl) (jt (jf Iw Z) (jt (jl k1 O22 Z Z) (jt (jmv Z) (jt (jix U22 Z3 (Be.c_Makes d1) Z Z Z (by omega)) (jt (jlI (dix (Be.c_Makes d1) k (by omega)) O3 Z) (jt (jf Hu Z) ?_)))))))))))
 refine jt (jl k4 O3 Z Z) (jt (Ar Z Z) (jt (jmv Z) (jtg Z Z (.f _) (fun hg=>jf Iw Z) (jtg Z Z (.f _) (fun hg=>jl k1 O22 (evg Z hg) Z) (jtg Z Z (.f _) (fun hg=>jmv Z) (jtg Z Z (.f _) (fun hg=>jix U22 Z3 (Be.c_Makes d1) (evg Z hg) (evg Z hg) Z (by first|omega|(simp at hg;omega)|(simp only[List.length_set];omega)|(simp;done))) (jtg Z Z (.f _) (fun hg=>jlI (dix (Be.c_Makes d1) k (by first|omega|(simp at hg;omega)|(simp only[List.length_set];omega)|(simp;done))) O3 (evg Z hg)) (jtg Z Z (.f _) (fun hg=>Ee (evg Z hg) Z) (jt (jor Z Z) (jdn (jx ?_)))))))))))
 refine jif Z (fun hc6=>?_) (fun hc6=>?_)
 refine jq (jr (js (jf Gp Z) (js (jl k1 O3 Z Z) (js (jf Hj Z) (js (jl k1 O3 Z Z) (js (jbu (v := .agg #[.int .i64 11,.int .i64 ((ix (Ad f) i).Block),.int .i64 ((ix (Ad f) i).Place)]) Z (fun _=>by kernel_rfl)) (Bk k3 Du Z Z Z ⟨Z,Z,Z,trivial⟩ (saf Z) (jn (jx (jrt (jbr ?_)))))))))))
 refine jtr (jtr (jbr (jtr (jbr (jtr (jtr (jbr (jtr ?_))))))))
 exact jrc Z Z k0 Hw Du ⟨(11,(ix (Ad f) i).Block,(ix (Ad f) i).Place),⟨fun h=>absurd (show((11:Int))=0 from h) (by decide),fun h=>absurd h (fun h=>by have h8:=(h.1 _ (Ax (l:=Ad f) (i:=i) (by omega))).mks _ (Ax (l:=(ix (Ad f) i).Makes) (i:=k) (by omega));have h9:=hc6;(try simp at h9);omega)⟩⟩ Z dn (fun _ _=>kn)
 refine jsk (jbn (jx (jr (jm Z (js (Al Z Z (by omega)) (ja Z (jn ?_)))))))
 exact jag (k+1) ⟨by omega,Vb (by omega) hR9 (by have h9:=hc6;(try simp at h9);omega)⟩ (dc d0 (dc d1 (dc d2 (dc d3 dn)))) (kd (kd (kc k0 kn))) ⟨Z,Z,Z,Z,Z,Z,Z,Z,eqI (by omega),trivial⟩
 refine jex (jtx (jtx (jbh (jx (jq (jq (jr (ja Z (jn (jx (jb ?_)))))))))))
 refine jlp (u2 fun(m2:Nat) (se8:List Bool)=>⟨m2≤(ix (Ad f) i).Makes.length∧SeI se8 (mkT ((Ad f).take i)++(ix (Ad f) i).Makes.take m2)∧(mkT ((Ad f).take i)++(ix (Ad f) i).Makes.take m2).Nodup∧se8.length=8192,[da Af (vBlock (ix f.Blocks (Int.toNat ((ix (Ad f) i).Block))) (c31a,c31b,c31c,c31d)) (ix f.Blocks (Int.toNat ((ix (Ad f) i).Block))),da Be (vTg3 (ix (Ad f) i) (c25a,c25b)) (ix (Ad f) i),dv (rL Be) v15 (Ad f),da Aj (vFunc f a0) f],[bx g7 62 [c31a,c31b,.int .i64 (((ix f.Blocks (Int.toNat ((ix (Ad f) i).Block))).Term).Kind),c31c,c31d,.int .i32 (((ix f.Blocks (Int.toNat ((ix (Ad f) i).Block))).Term).Imm)],bx g6 170 [.int .i64 ((ix (Ad f) i).Block),.int .i64 ((ix (Ad f) i).Place),c25a,c25b],gl X.n rB 4 (.slice (some ⟨g13,0,none⟩) 8192 8192) se8,bx g2 165 [.int .i64 0,.int .i64 0,.int .i64 0],bx g1 49 [.int .i64 f.Params,a0]],[(1,.pointer (some ⟨g1,0,none⟩)),(2,.pointer (some ⟨g2,0,none⟩)),(3,(.slice (some ⟨g13,0,none⟩) 8192 8192)),(4,v15),(5,.int .i64 (↑i)),(6,.pointer (some ⟨g6,0,none⟩)),(7,.pointer (some ⟨g7,0,none⟩)),(9,.bool (decide ((ix (Ad f) i).Place=↑(List.length ((ix f.Blocks (Int.toNat ((ix (Ad f) i).Block))).Ins))))),(11,.int .i64 (↑m2))],(ix (Ad f) i).Makes.length-m2⟩) (0,se) ⟨Nat.zero_le _,by simpa using hS9,by simpa using hN9,hsl⟩ (dc d0 (dc d1 (dc d2 (dc d3 dn)))) (kd (kd (kc k0 kn))) ⟨Z,Z,Z,Z,Z,Z,Z,Z,eqI (by omega),trivial⟩ ?_
 rintro⟨m2,se8⟩;dsimp only[u2];rintro⟨hm2x,hS8,hN8,hsl8⟩
 refine jq (jq (jr (jm Z (js (jf Iw Z) (js (jl k1 O22 Z Z) (js (jln U22 (Be.c_Makes d1) Z) (js (Ar Z Z) (jn (jx ?_)))))))))
 refine jif Z (fun hc7=>?_) (fun hc7=>?_)
 have hr8:=hR9 _ (by rw[List.take_of_length_le (show(ix (Ad f) i).Makes.length≤k by omega)];exact Ax (l:=(ix (Ad f) i).Makes) (i:=m2) (by omega))
 have hr8:0≤ix (ix (Ad f) i).Makes m2∧ix (ix (Ad f) i).Makes m2≤8191:=by omega
 refine jsk (jx (jq (jb (jq (jq (jr (jm Z (js (jf Iw Z) (js (jl k1 O22 Z Z) (jm Z (js (jix U22 Z3 (Be.c_Makes d1) Z Z Z (by omega)) ?_)))))))))))
 refine js (jlI (dix (Be.c_Makes d1) m2 (by omega)) O3 Z) (js (jig (i:=(Int.toNat (ix ((ix (Ad f) i).Makes) m2))) Ex Z4 k2 Z Z (by omega) (by omega)) (js (jgB k2 (by omega) O4 Z) (jn (jx ?_))))
 refine jif Z (fun hc8=>?_) (fun hc8=>?_)
 refine jq (jr (js (jf Gp Z) (js (jl k1 O3 Z Z) (js (jf Hj Z) (js (jl k1 O3 Z Z) (js (jbu (v := .agg #[.int .i64 12,.int .i64 ((ix (Ad f) i).Block),.int .i64 ((ix (Ad f) i).Place)]) Z (fun _=>by kernel_rfl)) (Bk k3 Du Z Z Z ⟨Z,Z,Z,trivial⟩ (saf Z) (jn (jx (jrt (jtr ?_)))))))))))
 refine jbr (jtr (jtr (jbr (jtr (jbr (jtr (jtr (jbr (jtr ?_)))))))))
 exact jrc Z Z k0 Hw Du ⟨(12,(ix (Ad f) i).Block,(ix (Ad f) i).Place),⟨fun h=>absurd (show((12:Int))=0 from h) (by decide),fun h=>absurd h (fun h=>RG (l:=Ad f) (i:=i) (k:=m2) (by omega) (by omega) (hS8.yes hr8 hc8) h.2)⟩⟩ Z dn (fun _ _=>kn)
 refine jsk (jx (jr (jm Z (js (jf Iw Z) (js (jl k1 O22 Z Z) (jm Z (js (jix U22 Z3 (Be.c_Makes d1) Z Z Z (by omega)) (js (jlI (dix (Be.c_Makes d1) m2 (by omega)) O3 Z) (js (jig (i:=(Int.toNat (ix ((ix (Ad f) i).Makes) m2))) Ex Z4 k2 Z Z (by omega) (by omega)) (jsg k2 Z Z4 Z Z Z (by omega) wB (jn ?_)))))))))))
 refine jbn (jx (jr (jm Z (js (Al Z Z (by omega)) (ja Z (jn ?_))))))
 exact jag (m2+1,List.set se8 (Int.toNat (ix ((ix (Ad f) i).Makes) m2)) true) ⟨by dsimp only;omega,by dsimp only;rw[G3 (by omega)];exact hS8.put hsl8 hr8,by dsimp only;rw[G3 (by omega)];exact LJ hN8 (hS8.no hr8 (by simp[hc8])),by simpa using hsl8⟩ (dc d0 (dc d1 (dc d2 (dc d3 dn)))) (kc k1 (kc k1 (kd (kc k0 kn)))) ⟨Z,Z,Z,Z,Z,Z,Z,Z,eqI (by omega),trivial⟩
 refine jex (jtx (jtx (jbh (jx (jq (jr (ja Z (jn (jx (jb ?_))))))))))
 refine jlp (fun(m3:Nat)=>⟨m3≤(ix f.Blocks (Int.toNat (ix (Ad f) i).Block)).Term.To.length∧∀x∈(ix f.Blocks (Int.toNat (ix (Ad f) i).Block)).Term.To.take m3,1≤x∧x<f.Blocks.length,[da Af (vBlock (ix f.Blocks (Int.toNat ((ix (Ad f) i).Block))) (c31a,c31b,c31c,c31d)) (ix f.Blocks (Int.toNat ((ix (Ad f) i).Block))),da Be (vTg3 (ix (Ad f) i) (c25a,c25b)) (ix (Ad f) i),dv (rL Be) v15 (Ad f),da Aj (vFunc f a0) f],[bx g7 62 [c31a,c31b,.int .i64 (((ix f.Blocks (Int.toNat ((ix (Ad f) i).Block))).Term).Kind),c31c,c31d,.int .i32 (((ix f.Blocks (Int.toNat ((ix (Ad f) i).Block))).Term).Imm)],bx g6 170 [.int .i64 ((ix (Ad f) i).Block),.int .i64 ((ix (Ad f) i).Place),c25a,c25b],gl X.n rB 4 (.slice (some ⟨g13,0,none⟩) 8192 8192) se8,bx g2 165 [.int .i64 0,.int .i64 0,.int .i64 0],bx g1 49 [.int .i64 f.Params,a0]],[(1,.pointer (some ⟨g1,0,none⟩)),(2,.pointer (some ⟨g2,0,none⟩)),(3,(.slice (some ⟨g13,0,none⟩) 8192 8192)),(4,v15),(5,.int .i64 (↑i)),(6,.pointer (some ⟨g6,0,none⟩)),(7,.pointer (some ⟨g7,0,none⟩)),(9,.bool (decide ((ix (Ad f) i).Place=↑(List.length ((ix f.Blocks (Int.toNat ((ix (Ad f) i).Block))).Ins))))),(12,.int .i64 (↑m3))],(ix f.Blocks (Int.toNat (ix (Ad f) i).Block)).Term.To.length-m3⟩) 0 ⟨Nat.zero_le _,(fun n h=>by cases h)⟩ (dc d0 (dc d1 (dc d2 (dc d3 dn)))) (kd (kd (kc k0 kn))) ⟨Z,Z,Z,Z,Z,Z,Z,Z,eqI (by omega),trivial⟩ ?_
 rintro m3;dsimp only;rintro⟨hm3x,hO9⟩
 refine jq (jq (jr (jm Z (jm Z (jg Z Z (.t _) (fun hg=>jmv Z) (jg Z Z (.t _) (fun hg=>jf Eh Z) (jg Z Z (.t _) (fun hg=>jf Ei (evg Z hg)) (jg Z Z (.t _) (fun hg=>jl k0 O22 (evg Z hg) Z) (jg Z Z (.t _) (fun hg=>jln U22 (Af.c_Term_To d0) (evg Z hg)) (jg Z Z (.t _) (fun hg=>Ar (evg Z hg) (evg Z hg)) (js (Cf Z Z) ?_)))))))))))
 refine jn (jx ?_)
 refine jif Z (fun hc9=>?_) (fun hc9=>?_)
 have hc9b:=hc9
 (try simp only[Bool.and_eq_true,decide_eq_true_eq] at hc9b)
 refine jsk (jx (jq (jb (jq (Gh Bi (by kernel_rfl) (jt (jf Eh Z) (jt (jf Ei Z) (jt (jl k0 O22 Z Z) (jt (jmv Z) (jt (jix U22 Z3 (Af.c_Term_To d0) Z Z Z (by omega)) (jt (jlI (dix (Af.c_Term_To d0) m3 (by omega)) O3 Z) ?_)))))))))))
 refine jt (Ar Z Z) (jt (jmv Z) (jtg Z Z (.f _) (fun hg=>jf Eh Z) (jtg Z Z (.f _) (fun hg=>jf Ei (evg Z hg)) (jtg Z Z (.f _) (fun hg=>jl k0 O22 (evg Z hg) Z) (jtg Z Z (.f _) (fun hg=>jmv Z) (jtg Z Z (.f _) (fun hg=>jix U22 Z3 (Af.c_Term_To d0) (evg Z hg) (evg Z hg) Z (by first|omega|(simp at hg;omega)|(simp only[List.length_set];omega)|(simp;done))) (jtg Z Z (.f _) (fun hg=>jlI (dix (Af.c_Term_To d0) m3 (by first|omega|(simp at hg;omega)|(simp only[List.length_set];omega)|(simp;done))) O3 (evg Z hg)) (jtg Z Z (.f _) (fun hg=>jf Bu Z) (jtg Z Z (.f _) (fun hg=>jl k4 O47 (evg Z hg) Z) (jtg Z Z (.f _) (fun hg=>jln U47 (Aj.cB d3) (evg Z hg)) (jtg Z Z (.f _) (fun hg=>Gj (evg Z hg) (evg Z hg)) ?_)))))))))))
 refine jt (jor Z Z) (jdn (jx ?_))
 refine jif Z (fun hc10=>?_) (fun hc10=>?_)
 refine jq (jr (js (jf Gp Z) (js (jl k1 O3 Z Z) (js (jf Hj Z) (js (jl k1 O3 Z Z) (js (jbu (v := .agg #[.int .i64 14,.int .i64 ((ix (Ad f) i).Block),.int .i64 ((ix (Ad f) i).Place)]) Z (fun _=>by kernel_rfl)) (Bk k3 Du Z Z Z ⟨Z,Z,Z,trivial⟩ (saf Z) (jn (jx (jrt (jbr ?_)))))))))))
 refine jtr (jtr (jbr (jbr (jtr (jtr (jbr (jtr ?_)))))))
 exact jrc Z Z k0 Hw Du ⟨(14,(ix (Ad f) i).Block,(ix (Ad f) i).Place),⟨fun h=>absurd (show((14:Int))=0 from h) (by decide),fun h=>absurd h (fun h=>by have h7:=hc9;(try simp at h7);have h8:=(h.1 _ (Ax (l:=Ad f) (i:=i) (by omega))).to h7.1 _ (Ax (l:=(ix f.Blocks (Int.toNat (ix (Ad f) i).Block)).Term.To) (i:=m3) (by omega));have h9:=hc10;(try simp at h9);omega)⟩⟩ Z dn (fun _ _=>kn)
 refine jsk (jbn (jx (jr (jm Z (js (Al Z Z (by omega)) (ja Z (jn ?_)))))))
 exact jag (m3+1) ⟨by omega,Vb (by simp at hc9;omega) hO9 (by have h9:=hc10;(try simp at h9);omega)⟩ (dc d0 (dc d1 (dc d2 (dc d3 dn)))) (kd (kd (kc k0 kn))) ⟨Z,Z,Z,Z,Z,Z,Z,Z,eqI (by omega),trivial⟩
 refine jex (jtx (jtx (jbh (jbn (jx (jr (jm Z (js (Al Z Z (by omega)) (ja Z (jn ?_))))))))))
 exact jag (i+1,se8) ⟨by dsimp only;omega,Ra hT9 ⟨hop,fun h=>by have h9:=hc4;(try simp[h] at h9);simpa using h9,Vd hR9 (by omega),fun h=>Vd hO9 (by have h9:=hc9;(try simp[h] at h9);omega)⟩,by dsimp only;rw[←T0 (by omega) (show(ix (Ad f) i).Makes.length≤m2 by omega)];exact hS8,by dsimp only;rw[←T0 (by omega) (show(ix (Ad f) i).Makes.length≤m2 by omega)];exact hN8,hsl8⟩ (dc d2 (dc d3 dn)) (kc k2 (kc k2 (kc k2 kn))) ⟨Z,Z,Z,Z,eqI (by omega),trivial⟩
 refine jex (jtx (jtx (jbh (jx (jq (jr (js (jbu (v := .agg #[.int .i64 0,.int .i64 0,.int .i64 0]) Z (fun _=>by kernel_rfl)) (Bk k1 Du Z Z Z ⟨Z,Z,Z,trivial⟩ (saf Z) (jn (jx (jrt ?_)))))))))))
 exact jrc Z Z k0 Hw Du ⟨(0,0,0),⟨fun _=>⟨DA (fun j hj=>hT9 j (by omega)),by have h9:=hN9;rwa[List.take_of_length_le (by omega)] at h9⟩,fun _=>rfl⟩⟩ Z dn (fun _ _=>kn)
end Go.Proofs.YtmfkkodnghambaaGreat
