/- Lemmas that the claim is made of. Conditions: each lemma names its own. -/
import Derived.Test.YtehhjlkmbdhckaaGreatKH2
set_option linter.unusedSectionVars false
set_option linter.unusedSimpArgs false
set_option linter.unusedVariables false
namespace Go.Proofs.YtehhjlkmbdhckaaGreat
open Go.JE
structure Mk where
 s:List Int
 k:Int
 par:Int
 bs:List D.Block
 nx:Int
 lv:List Int
def tVV(n:Int)(m:Mk):Int:=Int.tmod (Int.tmod (if m.k<m.s.length then ix m.s m.k.toNat else 0) n+n) n
def tSS(m:Mk):Mk:={ m with k:=m.k+1 }
def wordV(m:Mk):Int :=
 if tVV 8 (tSS m)=0 then IntKind.i32.wrap (tVV 1048576 m*4099)
 else if tVV 8 (tSS m)=1 then -tVV 1048576 m
 else if tVV 8 (tSS m)=2 then -2147483648
 else if tVV 8 (tSS m)=3 then Int.tmod (tVV 1048576 m) 70000
 else Int.tmod (tVV 1048576 m) 20-4
def wordS(m:Mk):Mk:=tSS (tSS m)
def valueB(m:Mk):Bool:=!decide (m.lv.length=0)
def valueI(m:Mk):Int:=if tVV 3 (tSS m)=0 then (m.lv.length:Int)-1 else tVV m.lv.length m
def valueV(m:Mk):Int:=if m.lv.length=0 then 0 else ix m.lv (valueI m).toNat
def valueS(m:Mk):Mk:=if m.lv.length=0 then m else tSS (tSS m)
def freshS(m:Mk):Mk:={ m with nx:=m.nx+1 }
def makes3(i:D.Ins):List Int:=if i.Op=16 then [] else if i.Op=18 then [i.Dst,i.Two] else [i.Dst]
def addS(b:Int)(i:D.Ins)(m:Mk):Mk:={ m with bs:=m.bs.set b.toNat { (ix m.bs b.toNat) with Ins:=(ix m.bs b.toNat).Ins++[i] },lv:=m.lv++makes3 i }
def constS(b n:Int)(m:Mk):Mk:=addS b ⟨1,m.nx,0,[],n⟩ (freshS m)
def someC(m:Mk):Bool:=!valueB m||decide (tVV 9 (valueS m)=0)
def someM0(m:Mk):Mk:=if valueB m then tSS (valueS m) else valueS m
def sV9(m:Mk):Int:=if someC m then (wordS (someM0 m)).nx else valueV m
def sS9(b:Int)(m:Mk):Mk:=if someC m then constS b (wordV (someM0 m)) (wordS (someM0 m)) else someM0 m
def cntT:List D.Block→Nat
 | []=>0
 | x::l=>x.Phis.length+x.Ins.length+1+cntT l
theorem cntT_ix:∀{l:List D.Block} {j:Nat},j<l.length→(ix l j).Phis.length+(ix l j).Ins.length≤cntT l
 | x::l,0,_=>by rw[ix_zero,cntT];omega
 | x::l,j+1,h=>by rw[ix_cons,cntT];have:=cntT_ix (l:=l) (j:=j) (by simpa using h);omega
theorem cntT_set:∀{l:List D.Block} {j d:Nat} {b:D.Block},b.Phis.length+b.Ins.length≤(ix l j).Phis.length+(ix l j).Ins.length+d→cntT (l.set j b)≤cntT l+d
 | [],_,_,_,_=>by simp[cntT]
 | x::l,0,_,b,h=>by rw[ix_zero] at h;rw[List.set_cons_zero,cntT,cntT];omega
 | x::l,j+1,d,b,h=>by rw[ix_cons] at h;rw[List.set_cons_succ,cntT,cntT];have:=cntT_set (l:=l) h;omega
theorem cntT_rep(n:Nat):cntT (List.replicate n default)=n:=by
 induction n with
 | zero=>rfl
 | succ n ih=>rw[List.replicate_succ,cntT,ih];show 0+0+1+n=n+1;omega
def okM(nb c:Nat)(m:Mk):Prop:=(0≤m.k∧m.k≤c)∧(0≤m.nx∧m.nx≤c)∧(0≤m.par∧m.par≤4)∧m.lv.length≤2*c+4∧m.bs.length=nb∧cntT m.bs≤c
theorem okM.bnd{nb c:Nat}{m:Mk}(h:okM nb c m):0≤m.k∧m.k≤c∧0≤m.nx∧m.nx≤c∧0≤m.par∧m.par≤4∧m.lv.length≤2*c+4∧m.bs.length=nb∧cntT m.bs≤c:=⟨h.1.1,h.1.2,h.2.1.1,h.2.1.2,h.2.2.1.1,h.2.2.1.2,h.2.2.2.1,h.2.2.2.2.1,h.2.2.2.2.2⟩
theorem okM.row{nb c:Nat}{m:Mk}(h:okM nb c m){j:Nat}(hj:j<nb):(ix m.bs j).Phis.length≤c∧(ix m.bs j).Ins.length≤c:=by
 have h1:=cntT_ix (l:=m.bs) (j:=j) (by rw[h.2.2.2.2.1];exact hj)
 have h2:=h.2.2.2.2.2
 omega
theorem okM.mono{nb c c':Nat}{m:Mk}(h:okM nb c m)(hc:c≤c'):okM nb c' m:=⟨⟨h.1.1,by have:=h.1.2;omega⟩,⟨h.2.1.1,by have:=h.2.1.2;omega⟩,h.2.2.1,by have:=h.2.2.2.1;omega,h.2.2.2.2.1,by have:=h.2.2.2.2.2;omega⟩
theorem okM.setk{nb c c':Nat}{m:Mk}{x:Int}(h:okM nb c m)(hx:0≤x∧x≤c')(hc:c≤c'):okM nb c' { m with k:=x }:=⟨hx,(h.mono hc).2⟩
theorem okM.setnx{nb c c':Nat}{m:Mk}{x:Int}(h:okM nb c m)(hx:0≤x∧x≤c')(hc:c≤c'):okM nb c' { m with nx:=x }:=⟨(h.mono hc).1,hx,(h.mono hc).2.2⟩
theorem okM.setpar{nb c c':Nat}{m:Mk}{x:Int}(h:okM nb c m)(hx:0≤x∧x≤4)(hc:c≤c'):okM nb c' { m with par:=x }:=⟨(h.mono hc).1,(h.mono hc).2.1,hx,(h.mono hc).2.2.2⟩
theorem okM.setlv{nb c c':Nat}{m:Mk}{x:List Int}(h:okM nb c m)(hx:x.length≤2*c'+4)(hc:c≤c'):okM nb c' { m with lv:=x }:=⟨(h.mono hc).1,(h.mono hc).2.1,(h.mono hc).2.2.1,hx,(h.mono hc).2.2.2.2⟩
theorem okM.setb{nb c d:Nat}{m:Mk}{j:Nat}{b:D.Block}(h:okM nb c m)(hx:b.Phis.length+b.Ins.length≤(ix m.bs j).Phis.length+(ix m.bs j).Ins.length+d):okM nb (c+d) { m with bs:=m.bs.set j b }:=by
 have h1:cntT (m.bs.set j b)≤cntT m.bs+d:=cntT_set (l:=m.bs) hx
 have h2:=h.2.2.2.2.2
 have h3:okM nb (c+d) m:=h.mono (Nat.le_add_right _ _)
 exact⟨h3.1,h3.2.1,h3.2.2.1,h3.2.2.2.1,by simpa using h3.2.2.2.2.1,Nat.le_trans h1 (by omega)⟩
theorem okM.setbs{nb c n:Nat}{m:Mk}(h:okM nb c m):okM n (c+n) { m with bs:=List.replicate n default }:=by
 have h3:okM nb (c+n) m:=h.mono (Nat.le_add_right _ _)
 exact⟨h3.1,h3.2.1,h3.2.2.1,h3.2.2.2.1,by simp,by show cntT (List.replicate n default)≤_;rw[cntT_rep];omega⟩
section
variable{nb c:Nat}{m:Mk}
theorem tO9(h:okM nb c m):okM nb (c+1) (tSS m):=h.setk (by have:=h.bnd;omega) (by omega)
theorem word_ok(h:okM nb c m):okM nb (c+2) (wordS m):=tO9 (tO9 h)
theorem value_ok(h:okM nb c m):okM nb (c+2) (valueS m):=by unfold valueS;split;exact h.mono (by omega);exact tO9 (tO9 h)
theorem fresh_ok(h:okM nb c m):okM nb (c+1) (freshS m):=h.setnx (by have:=h.bnd;omega) (by omega)
theorem makes3_len(i:D.Ins):(makes3 i).length≤2:=by unfold makes3;(repeat' split)<;>simp
theorem add_ok{b:Int}{i:D.Ins}(h:okM nb c m)(hb:b.toNat<nb):okM nb (c+2) (addS b i m) :=
 okM.setlv (m:={ m with bs:=m.bs.set b.toNat { (ix m.bs b.toNat) with Ins:=(ix m.bs b.toNat).Ins++[i] } }) (c:=c+1) (h.setb (d:=1) (by dsimp only;rw[List.length_append];simp only[List.length_cons,List.length_nil];omega)) (by have:=h.bnd;have:=makes3_len i;simp only[List.length_append];omega) (by omega)
theorem const_ok{b n:Int}(h:okM nb c m)(hb:b.toNat<nb):okM nb (c+3) (constS b n m):=add_ok (fresh_ok h) hb
theorem some0_ok(h:okM nb c m):okM nb (c+3) (someM0 m):=by unfold someM0;split;exact tO9 (value_ok h);exact(value_ok h).mono (by omega)
theorem some_ok{b:Int}(h:okM nb c m)(hb:b.toNat<nb):okM nb (c+8) (sS9 b m):=by
 unfold sS9;split
 ·exact(const_ok (word_ok (some0_ok h)) hb).mono (by omega)
 ·exact(some0_ok h).mono (by omega)
theorem tV9{n:Int}(hn:0<n)(m:Mk):0≤tVV n m∧tVV n m<n:=by
 unfold tVV
 generalize (if m.k<m.s.length then ix m.s m.k.toNat else 0)=x
 have h1:=Int.lt_tmod_of_pos x hn
 exact⟨Int.tmod_nonneg _ (by omega),Int.tmod_lt_of_pos _ hn⟩
theorem word_w(m:Mk):IntKind.i32.wrap (wordV m)=wordV m:=by
 have h:=tV9 (n:=1048576) (by omega) m
 have h2:=Int.tmod_nonneg 70000 h.1
 have h3:=Int.tmod_lt_of_pos (tVV 1048576 m) (b:=70000) (by omega)
 have h4:=Int.tmod_nonneg 20 h.1
 have h5:=Int.tmod_lt_of_pos (tVV 1048576 m) (b:=20) (by omega)
 unfold wordV
 repeat' split
 ·exact JE.wrap_wrap _ _
 all_goals exact IntWalk.i32_in _ (by omega)
theorem valueS_s:(valueS m).s=m.s:=by unfold valueS;split<;>rfl
theorem addS_s{b:Int}{i:D.Ins}:(addS b i m).s=m.s:=rfl
theorem constS_s{b n:Int}:(constS b n m).s=m.s:=rfl
theorem someS_s{b:Int}:(sS9 b m).s=m.s:=by unfold sS9 someM0;(repeat' split)<;>first|rfl|exact valueS_s
end
theorem okM.lens{nb c:Nat}{m:Mk}(h:okM nb c m)(hc:c<1073741824):∀b∈m.bs,b.Phis.length<1073741824∧b.Ins.length<1073741824:=fun b hb=>by
 obtain⟨j,hj,rfl⟩:=List.getElem_of_mem hb
 have h1:=h.row (j:=j) (by rw[←h.2.2.2.2.1];exact hj)
 rw[ix_eq hj] at h1
 omega
theorem okM.s(nb c:Nat)(m:Mk):True:=trivial
abbrev okS(nb c:Nat)(S:List Int)(m:Mk):Prop:=okM nb c m∧m.s=S
abbrev bnd(nb c:Nat)(m:Mk):Prop:=0≤m.k∧m.k≤c∧0≤m.nx∧m.nx≤c∧0≤m.par∧m.par≤4∧m.lv.length≤2*c+4∧m.bs.length=nb∧cntT m.bs≤c
theorem okS.mono{nb c c':Nat}{S:List Int}{m:Mk}(h:okS nb c S m)(hc:c≤c'):okS nb c' S m:=⟨okM.mono h.1 hc,h.2⟩
theorem okS.lens{nb c:Nat}{S:List Int}{m:Mk}(h:okS nb c S m)(hc:c<1073741824)(hn:nb<1073741824):lensB m.bs:=⟨by rw[(okM.bnd h.1).2.2.2.2.2.2.2.1];exact hn,okM.lens h.1 hc⟩
abbrev mc(m:Mk)(vs vb al:Value):List Value:=[vs,.int .i64 m.k,.int .i64 m.par,vb,.int .i64 m.nx,al]
abbrev KA(P:Program)(f:FuncId)(args:List Value)(D0:List Dt)(g:Nat)(vs vb al:Value)(S:List Int)(m st:Mk)(val:Value):Prop :=
 Tr P f (.pointer (some ⟨g,0,none⟩)::args).toArray (dv (rL (rI .i64)) vs S::D0) [bx g 106 (mc m vs vb al)] (fun _:Unit=>val) (fun _=>[]) (fun _ _=>[bx g 106 (mc st vs vb al)])
abbrev KB(P:Program)(f:FuncId)(args:List Value)(D0:List Dt)(g:Nat)(vs vb al:Value)(S:List Int)(B B2:Nat)(qs:List BV)(E:List Dt)(m st:Mk)(val:Value):Prop :=
 Tr P f (.pointer (some ⟨g,0,none⟩)::args).toArray (dv (rL (rI .i64)) vs S::D0) [bx g 106 (mc m vs vb al),gl B (rI .i64) 3 al m.lv,bk B2 vb qs m.bs] (fun _:Value×List BV=>val) (fun _=>E) (fun _ p=>[bx g 106 (mc st vs vb p.1),gl B (rI .i64) 3 p.1 st.lv,bk B2 vb p.2 st.bs])
abbrev KD{α:Type}(P:Program)(f:FuncId)(args:List Value)(D0:List Dt)(g:Nat)(vs vb al:Value)(S:List Int)(r:Rp α)(a:α)(m st:Mk):Prop :=
 Tr P f (.pointer (some ⟨g,0,none⟩)::args).toArray (dv (rL (rI .i64)) vs S::D0) [bx g 106 (mc m vs vb al)] (fun v:Value=>v) (fun v=>[dv r v a]) (fun _ _=>[bx g 106 (mc st vs vb al)])
def wf(k:IntKind)(n:Int):Dt:=⟨fun _=>k.wrap n=n,fun _ h=>h⟩
theorem wca{Γ:List Dt}{L:List Res}{k:IntKind}{a b:Int}(e:a=b)(h:Wr Γ L k b):Nd Γ L (wf k a):=e▸h
theorem wfw{Γ:List Dt}{L:List Res}{k:IntKind}{a:Int}(h:Nd Γ L (wf k a)):Wr Γ L k a:=h
theorem kck{L M N Ls:List Res}{B:Nat}{v:Value}{qs:List BV}{bs bs':List D.Block}(e:bs'=bs)(h:Tk L (bk B v qs bs) M)(h':Tks M Ls N):Tks L (bk B v qs bs'::Ls) N:=e▸kc h h'
section
variable{P:Program}{Γ Γ' E D0:List Dt}{L M N:List Res}{e:Env}{X:Cx}{n:Fs}{w0:World}{Q:Exit→Act→World→Prop}{ops:Array Oper}{d:Nat}{ty:TypeId}{pos:String}{af:Array Edge}{rest:List Oper}{f:FuncId}{h:Operand}{xs:List Operand}{ws:List Value}{ts:Array TypeId}{g B B2 nb c:Nat}{vs vb al val:Value}{S:List Int}{m st:Mk}{qs:List BV}
theorem ka_n(h:KA P f ws D0 g vs vb al S m st val):KA P f (ws++[]) D0 g vs vb al S m st val:=by rw[List.append_nil];exact h
theorem kb_n(h:KB P f ws D0 g vs vb al S B B2 qs E m st val):KB P f (ws++[]) D0 g vs vb al S B B2 qs E m st val:=by rw[List.append_nil];exact h
theorem jka(hE:Ent P f)(hf:ev e h=some (.func (.func f) #[] #[]))(hl:evl e xs=some (.pointer (some ⟨g,0,none⟩)::ws))(hT:KA P f ws D0 g vs vb al S m st val)(hd:Sd Γ L (dv (rL (rI .i64)) vs S::D0))(hk:Tk L (bx g 106 (mc m vs vb al)) M)(ok:okS nb c S st)
  (k:∀x,x=st→okS nb c S x→bnd nb c x→LH P n w0 ops Q X Γ (bx g 106 (mc x vs vb al)::M) ((d,val)::e) rest) (hd1:Nat.blt d n.sz=true:=by rfl):LH P n w0 ops Q X Γ L e (⟨some d,.call { callee := .value h,args:=xs.toArray,argTypes:=ts },ty,pos,af,none⟩::rest) :=
 jc (cs:=[]) hE hf hl (ka_n hT) hd (kc hk kn) (fun _=>rfl) (fun _=>rfl) (fun _=>k st rfl ok (okM.bnd ok.1)) hd1
theorem tks1{A:Res}{Ls:List Res}(h:Tks L (A::Ls) M):Tks L [A] (Ls++M) where
 ok:=fun o=>by
  obtain⟨⟨a,b,c⟩,m,dj⟩:=h.ok o
  exact⟨⟨a,fun _ _=>id,trivial⟩,Ok.app c m (fun k hk=>dj k (.inr hk)),fun k hk ho=>(Own.app.1 ho).elim (fun h2=>b k (hk.resolve_right id) h2) (dj k (.inl (hk.resolve_right id)))⟩
 own:=fun ho=>h.own (ho.elim (fun h => .inl (.inl (h.resolve_right id))) (fun h=>(Own.app.1 h).imp .inr id))
theorem jkr(hE:Ent P f)(hf:ev e h=some (.func (.func f) #[] #[]))(hl:evl e xs=some (.pointer (some ⟨g,0,none⟩)::ws))(hT:KA P f ws D0 g vs vb al S m st val)(hd:Sd Γ L (dv (rL (rI .i64)) vs S::D0))(hk:Tks L [bx g 106 (mc m vs vb al),gl B (rI .i64) 3 al m.lv,bk B2 vb qs m.bs] M)(ok:okS nb c S st)
  (k:∀x,x=st→okS nb c S x→bnd nb c x→LH P n w0 ops Q X Γ (bx g 106 (mc x vs vb al)::gl B (rI .i64) 3 al x.lv::bk B2 vb qs x.bs::M) ((d,val)::e) rest) (h1:st.lv=m.lv:=by rfl) (h2:st.bs=m.bs:=by rfl) (hd1:Nat.blt d n.sz=true:=by rfl):LH P n w0 ops Q X Γ L e (⟨some d,.call { callee := .value h,args:=xs.toArray,argTypes:=ts },ty,pos,af,none⟩::rest) :=
 jc (cs:=[]) hE hf hl (ka_n hT) hd (tks1 hk) (fun _=>rfl) (fun _=>rfl) (fun _=>by have:=k st rfl ok (okM.bnd ok.1);rw[h1,h2] at this;exact this) hd1
theorem jkb(hE:Ent P f)(hf:ev e h=some (.func (.func f) #[] #[]))(hl:evl e xs=some (.pointer (some ⟨g,0,none⟩)::ws))(hT:KB P f ws D0 g vs vb al S B B2 qs E m st val)(hd:Sd Γ L (dv (rL (rI .i64)) vs S::D0))(hk:Tks L [bx g 106 (mc m vs vb al),gl B (rI .i64) 3 al m.lv,bk B2 vb qs m.bs] M)(ok:okS nb c S st)(hp:Ap E Γ Γ')
  (k:∀x,x=st→okS nb c S x→bnd nb c x→∀al' qs',Sv al'→LH P n w0 ops Q X Γ' (bx g 106 (mc x vs vb al')::gl B (rI .i64) 3 al' x.lv::bk B2 vb qs' x.bs::M) ((d,val)::e) rest) (hd1:Nat.blt d n.sz=true:=by rfl):LH P n w0 ops Q X Γ L e (⟨some d,.call { callee := .value h,args:=xs.toArray,argTypes:=ts },ty,pos,af,none⟩::rest) :=
 jc (cs:=[]) hE hf hl (kb_n hT) hd hk (fun _=>hp) (fun _=>rfl) (fun p=>jgo k1 fun h9=>k st rfl ok (okM.bnd ok.1) p.1 p.2 h9) hd1
theorem jkg{j t:Nat}{want Bb:Bool}{u:Value}(hj:(ops[j]?).bind (·.dst)=some t)(hu:lk e t=some u)(hB:Gd u want Bb)(hE:Ent P f)(hf:ev e h=some (.func (.func f) #[] #[]))(hl:Bb=true→evl e xs=some (.pointer (some ⟨g,0,none⟩)::ws))(hT:KA P f ws D0 g vs vb al S m st val)(hd:Sd Γ L (dv (rL (rI .i64)) vs S::D0))(hk:Tks L [bx g 106 (mc m vs vb al),gl B (rI .i64) 3 al m.lv,bk B2 vb qs m.bs] M)(ok:okS nb c S (if Bb then st else m))
  (k:∀x,x=(if Bb then st else m)→okS nb c S x→bnd nb c x→LH P n w0 ops Q X Γ (bx g 106 (mc x vs vb al)::gl B (rI .i64) 3 al x.lv::bk B2 vb qs x.bs::M) ((d,gv Bb val)::e) rest) (h1:st.lv=m.lv:=by rfl) (h2:st.bs=m.bs:=by rfl) (hd1:Nat.blt d n.sz=true:=by rfl) (ht:Nat.blt t n.sz=true:=by rfl):LH P n w0 ops Q X Γ L e (⟨some d,.call { callee := .value h,args:=xs.toArray,argTypes:=ts },ty,pos,af,some (j,want)⟩::rest):=fun F H hp=>by
 have hk1:=tks1 hk
 refine LF.gcallF hj hu hB (fun hb=>OpCall.fnc (cs:=[]) hE hf (hl hb)) (fun _=>(ka_n hT).run hp hd hk1) (fun v' H' hz=>?_) hd1 ht
 rcases hz with⟨hb,_,F',rfl,h9⟩|⟨hb,rfl⟩
 ·subst hb
  have:=k st (by simp) (by simpa using ok) (okM.bnd (by simpa using ok.1))
  rw[h1,h2] at this
  exact this F' H' h9
 ·subst hb
  have:=k m (by simp) (by simpa using ok) (okM.bnd (by simpa using ok.1))
  exact this F _ (hp_tks hp hk)
theorem jkga{j t:Nat}{want Bb:Bool}{u:Value}(hj:(ops[j]?).bind (·.dst)=some t)(hu:lk e t=some u)(hB:Gd u want Bb)(hE:Ent P f)(hf:ev e h=some (.func (.func f) #[] #[]))(hl:Bb=true→evl e xs=some (.pointer (some ⟨g,0,none⟩)::ws))(hT:KA P f ws D0 g vs vb al S m st val)(hd:Sd Γ L (dv (rL (rI .i64)) vs S::D0))(hk:Tk L (bx g 106 (mc m vs vb al)) M)(ok:okS nb c S (if Bb then st else m))
  (k:∀x,x=(if Bb then st else m)→okS nb c S x→bnd nb c x→LH P n w0 ops Q X Γ (bx g 106 (mc x vs vb al)::M) ((d,gv Bb val)::e) rest) (hd1:Nat.blt d n.sz=true:=by rfl) (ht:Nat.blt t n.sz=true:=by rfl):LH P n w0 ops Q X Γ L e (⟨some d,.call { callee := .value h,args:=xs.toArray,argTypes:=ts },ty,pos,af,some (j,want)⟩::rest):=fun F H hp=>by
 refine LF.gcallF hj hu hB (fun hb=>OpCall.fnc (cs:=[]) hE hf (hl hb)) (fun _=>(ka_n hT).run hp hd hk.tks) (fun v' H' hz=>?_) hd1 ht
 rcases hz with⟨hb,_,F',rfl,h9⟩|⟨hb,rfl⟩
 ·subst hb
  exact k st (by simp) (by simpa using ok) (okM.bnd (by simpa using ok.1)) F' H' h9
 ·subst hb
  exact k m (by simp) (by simpa using ok) (okM.bnd (by simpa using ok.1)) F _ (hp.front hk)
theorem jkd{α:Type}{r:Rp α}{N':Nat}{a:List α}(hE:Ent P f)(hf:ev e h=some (.func (.func f) #[] #[]))(hl:evl e xs=some (.pointer (some ⟨g,0,none⟩)::ws))(hT:KD P f (ws++[]) D0 g vs vb al S (rLn N' r) a m st)(hd:Sd Γ L (dv (rL (rI .i64)) vs S::D0))(hk:Tks L [bx g 106 (mc m vs vb al),gl B (rI .i64) 3 al m.lv,bk B2 vb qs m.bs] M)(ok:okS nb c S st)
  (k:∀x,x=st→okS nb c S x→bnd nb c x→∀v,Qn N' a.length→Sv v→LH P n w0 ops Q X (dv (rLn N' r) v a::Γ) (bx g 106 (mc x vs vb al)::gl B (rI .i64) 3 al x.lv::bk B2 vb qs x.bs::M) ((d,v)::e) rest) (h1:st.lv=m.lv:=by rfl) (h2:st.bs=m.bs:=by rfl) (hd1:Nat.blt d n.sz=true:=by rfl):LH P n w0 ops Q X Γ L e (⟨some d,.call { callee := .value h,args:=xs.toArray,argTypes:=ts },ty,pos,af,none⟩::rest) :=
 jc (cs:=[]) hE hf hl hT hd (tks1 hk) (fun _=>rfl) (fun _=>rfl) (fun v=>jdq d0 fun h8 h9=>by have:=k st rfl ok (okM.bnd ok.1) v h8 h9;rw[h1,h2] at this;exact this) hd1
theorem jkn(st:Mk)(hk:Tks L [bx g 106 (mc st vs vb al),gl B (rI .i64) 3 al st.lv,bk B2 vb qs st.bs] M)(ok:okS nb c S st)
 (k:∀x,x=st→okS nb c S x→bnd nb c x→LH P n w0 ops Q X Γ (bx g 106 (mc x vs vb al)::gl B (rI .i64) 3 al x.lv::bk B2 vb qs x.bs::M) e rest):LH P n w0 ops Q X Γ L e rest:=fun F H hp=>k st rfl ok (okM.bnd ok.1) F H (hp_tks hp hk)
theorem jkna(st:Mk)(hk:Tk L (bx g 106 (mc st vs vb al)) M)(ok:okS nb c S st)
 (k:∀x,x=st→okS nb c S x→bnd nb c x→LH P n w0 ops Q X Γ (bx g 106 (mc x vs vb al)::M) e rest):LH P n w0 ops Q X Γ L e rest:=fun F H hp=>k st rfl ok (okM.bnd ok.1) F H (hp.front hk)
end
theorem F106_0:Fld Tryz.prog 106 0 0:=⟨_,_,Tryz.underlying106,rfl,rfl,1,(by unfold Sz;kernel_rfl),by decide⟩
theorem F106_1:Fld Tryz.prog 106 1 1:=⟨_,_,Tryz.underlying106,rfl,rfl,1,(by unfold Sz;kernel_rfl),by decide⟩
set_option maxRecDepth 4000 in
theorem m3take_ct{vs vb al:Value}{m:Mk}{nb c:Nat}{S:List Int}{g0:Nat}(hok:okS nb c S m)(hc:c≤1000000)(n:Int)(hn9:0<n∧n≤1000000000):KA Tryz.prog 54 [.int .i64 n] [] g0 vs vb al S m (tSS m) (.int .i64 (tVV n m)):=by
 refine jenter (args:=[.pointer (some ⟨g0,0,none⟩),.int .i64 n]) Tryz.func54 rfl rfl rfl fun w0 X=>?_
 have bd0:=okM.bnd hok.1
 refine jq (jr (ja Z (jn (jx (jq (jr (ja Z (jn (jx (jq (jq ?_)))))))))))
 refine jstl Mixed (by kernel_rfl) (jt (jmv Z) (jt (jnil Z) (jt (jf F106_1 Z) (jt (jl k0 O3 Z Z) (jt (jmv Z) (jt (jnil Z) (jt (jf F106_0 Z) (jt (jl k0 O22 Z Z) (tdq d0 fun q1 w1=>jt (jln U22 d0 Z) (jt (jlss Z Z) ?_))))))))))
 refine jdn (jx ?_)
 refine jif Z (fun hc1=>?_) (fun hc1=>?_)
 refine jstl Mixed (by kernel_rfl) (jt (jmv Z) (jt (jnil Z) (jt (jf F106_0 Z) (jt (jl k0 O22 Z Z) (jt (jmv Z) (jt (jnil Z) (jt (jf F106_1 Z) (jt (jl k0 O3 Z Z) (jt (jix (i:=(Int.toNat m.k)) U22 Z3 d0 Z Z (by omega) (by omega)) (jt (jlI (dix d0 (Int.toNat m.k) (by omega)) O3 Z) (jt (jas Z) ?_)))))))))))
 refine jdn (jx (jq (jr (jm Z (jm Z (js (jnil Z) (js (jf F106_1 Z) (js (jl k0 O3 Z Z) (js (jadd Z Z (by omega)) (js (jnil Z) (js (jf F106_1 Z) ?_)))))))))))
 refine jst k0 Z3 Z Z Z s1 (jkna (c:=c+1) ({ m with k:=m.k+1 }) k0 ⟨(okM.setk hok.1 (by omega) (by omega)),hok.2⟩ fun ms2 hms2 oms2 bms2=>?_)
 clear bd0
 refine jn (jx (jq (jr (jm Z (jm Z (js (jrem Z Z (by omega)) (jm Z ?_)))))))
 have hz1:=Int.tmod_lt_of_pos (ix S (Int.toNat m.k)) hn9.1
 have hz2:=Int.lt_tmod_of_pos (ix S (Int.toNat m.k)) hn9.1
 refine js (jadd Z Z (by omega)) (jm Z (js (jrem Z Z (by omega)) (ja Z (jn (jx (jrt ?_))))))
 have hv0:tVV n m=(Int.tmod ((Int.tmod (ix S (Int.toNat m.k)) n)+n) n):=(by(try simp only[hms2] at hc1);(try simp only[hms2]);simp only[tVV,hok.2];simp[*])
 have hst:ms2=tSS m:=(by(try simp only[hms2] at hc1);(try simp only[hms2]);all_goals first|rfl|(simp[tVV,tSS,hc1];done)|(simp[tVV,tSS,hc1];rfl)|(unfold tVV tSS;(repeat' split)<;>first|rfl|(exfalso;omega)|(simp[hc1] at *;done)|(simp_all;done)))
 exact jr1 Z Z () (by rw[hv0]<;>rfl) dn (fun _ _=>(kcb (by rw[←hst]) k0 kn))
 refine jsk (jx (jq (jr (jm Z (jm Z (js (jnil Z) (js (jf F106_1 Z) (js (jl k0 O3 Z Z) (js (jadd Z Z (by omega)) (js (jnil Z) (js (jf F106_1 Z) ?_)))))))))))
 refine jst k0 Z3 Z Z Z s1 (jkna (c:=c+1) ({ m with k:=m.k+1 }) k0 ⟨(okM.setk hok.1 (by omega) (by omega)),hok.2⟩ fun ms3 hms3 oms3 bms3=>?_)
 clear bd0
 refine jn (jx (jq (jr (jm Z (jm Z (js (jrem Z Z (by omega)) (jm Z ?_)))))))
 have hz1:=Int.tmod_lt_of_pos 0 hn9.1
 have hz2:=Int.lt_tmod_of_pos 0 hn9.1
 refine js (jadd Z Z (by omega)) (jm Z (js (jrem Z Z (by omega)) (ja Z (jn (jx (jrt ?_))))))
 have hv0:tVV n m=(Int.tmod ((Int.tmod 0 n)+n) n):=(by(try simp only[hms3] at hc1);(try simp only[hms3]);simp only[tVV,hok.2];simp[*])
 have hst:ms3=tSS m:=(by(try simp only[hms3] at hc1);(try simp only[hms3]);all_goals first|rfl|(simp[tVV,tSS,hc1];done)|(simp[tVV,tSS,hc1];rfl)|(unfold tVV tSS;(repeat' split)<;>first|rfl|(exfalso;omega)|(simp[hc1] at *;done)|(simp_all;done)))
 exact jr1 Z Z () (by rw[hv0]<;>rfl) dn (fun _ _=>(kcb (by rw[←hst]) k0 kn))
theorem E54:Ent Tryz.prog 54:=⟨_,Tryz.func54,by kernel_rfl,by kernel_rfl⟩
theorem F106_3:Fld Tryz.prog 106 3 4:=⟨_,_,Tryz.underlying106,rfl,rfl,1,(by unfold Sz;kernel_rfl),by decide⟩
theorem F106_4:Fld Tryz.prog 106 4 5:=⟨_,_,Tryz.underlying106,rfl,rfl,1,(by unfold Sz;kernel_rfl),by decide⟩
theorem F163_0:Fld Tryz.prog 163 0 0:=⟨_,_,Tryz.underlying163,rfl,rfl,1,(by unfold Sz;kernel_rfl),by decide⟩
theorem F163_1:Fld Tryz.prog 163 1 1:=⟨_,_,Tryz.underlying163,rfl,rfl,1,(by unfold Sz;kernel_rfl),by decide⟩
theorem F163_2:Fld Tryz.prog 163 2 2:=⟨_,_,Tryz.underlying163,rfl,rfl,1,(by unfold Sz;kernel_rfl),by decide⟩
set_option maxRecDepth 4000 in
theorem m3fresh_ct{vs vb al:Value}{m:Mk}{nb c:Nat}{S:List Int}{g0:Nat}(hok:okS nb c S m)(hc:c≤1000000):KA Tryz.prog 99 [] [] g0 vs vb al S m (freshS m) (.int .i64 m.nx):=by
 refine jenter (args:=[.pointer (some ⟨g0,0,none⟩)]) Tryz.func99 rfl rfl rfl fun w0 X=>?_
 have bd0:=okM.bnd hok.1
 refine jq (jr (ja Z (jn (jx (jq (jr (jm Z (jm Z (js (jnil Z) (js (jf F106_3 Z) (js (jl k0 O3 Z Z) ?_)))))))))))
 refine js (jadd Z Z (by omega)) (js (jnil Z) (js (jf F106_3 Z) (jst k0 Z3 Z Z Z s4 (jkna (c:=c+1) ({ m with nx:=m.nx+1 }) k0 ⟨(okM.setnx hok.1 (by omega) (by omega)),hok.2⟩ fun ms1 hms1 oms1 bms1=>?_))))
 clear bd0
 refine jn (jx (jq (jr (jm Z (js (jnil Z) (js (jf F106_3 Z) (js (jl k0 O3 Z Z) (js (jsub Z Z (by omega)) (ja Z (jn (jx ?_)))))))))))
 refine jrt ?_
 have hv0:m.nx=(ms1.nx-1):=(by(try simp only[hms1]);simp)
 have hst:ms1=freshS m:=(by(try simp only[hms1]);all_goals first|rfl|(simp[freshS];done)|(simp[freshS];rfl)|(unfold freshS;(repeat' split)<;>first|rfl|(exfalso;omega)|(simp[] at *;done)|(simp_all;done)))
 exact jr1 Z Z () (by rw[hv0]<;>rfl) dn (fun _ _=>(kcb (by rw[←hst]) k0 kn))
set_option maxRecDepth 4000 in
theorem m3word_ct{vs vb al:Value}{m:Mk}{nb c:Nat}{S:List Int}{g0:Nat}(hok:okS nb c S m)(hc:c≤990000):KA Tryz.prog 53 [] [] g0 vs vb al S m (wordS m) (.int .i32 (wordV m)):=by
 refine jenter (args:=[.pointer (some ⟨g0,0,none⟩)]) Tryz.func53 rfl rfl rfl fun w0 X=>?_
 have bd0:=okM.bnd hok.1
 refine jq (jr (ja Z (jn (jx (jq (jr (jm Z (jka E54 Z Z (m3take_ct hok (by omega) 1048576 (by omega)) (dc d0 dn) k0 ⟨tO9 hok.1,hok.2⟩ fun m5 hm5 om5 bm5=>?_))))))))
 have w5_0:IntKind.i64.wrap (tVV 1048576 m)=tVV 1048576 m:=(IntWalk.i64_in _ (by have h9:=@tV9 1048576 (by omega) m;omega))
 have tr5:=@tV9 1048576 (by omega) m
 clear bd0
 refine ja Z (jn (jx (jq (jq (jr (jm Z (jka E54 Z Z (m3take_ct om5 (by omega) 8 (by omega)) (dc d0 dn) k0 ⟨tO9 om5.1,om5.2⟩ fun m7 hm7 om7 bm7=>?_)))))))
 have w7_0:IntKind.i64.wrap (tVV 8 m5)=tVV 8 m5:=(IntWalk.i64_in _ (by have h9:=@tV9 8 (by omega) m5;omega))
 have tr7:=@tV9 8 (by omega) m5
 clear bm5
 refine jn (jx (jb (jq (jr (js (jeql Z Z) (ja Z (jn (jx ?_))))))))
 refine jif Z (fun hc1=>?_) (fun hc1=>?_)
 refine jq (jr (jm Z (js (jmul Z Z (by omega)) (js (jco U3 U21 Z Z) (ja Z (jn (jx (jrt (jbr (jtr ?_))))))))))
 have hv0:wordV m=(IntKind.i32.wrap ((tVV 1048576 m)*4099)):=(by(try simp only[hm5,hm7] at hc1);(try simp only[hm5,hm7]);have w1:IntKind.i64.wrap (0-tVV 1048576 m)=0-tVV 1048576 m:=IntWalk.i64_in _ (by omega);have w2:IntKind.i32.wrap (0-tVV 1048576 m)=0-tVV 1048576 m:=IntWalk.i32_in _ (by omega);have a1:=Int.tmod_nonneg 70000 tr5.1;have a2:=Int.tmod_lt_of_pos (tVV 1048576 m) (b:=70000) (by omega);have a3:=Int.tmod_nonneg 20 tr5.1;have a4:=Int.tmod_lt_of_pos (tVV 1048576 m) (b:=20) (by omega);have w3:IntKind.i32.wrap (Int.tmod (tVV 1048576 m) 70000)=Int.tmod (tVV 1048576 m) 70000:=IntWalk.i32_in _ (by omega);have w4:IntKind.i32.wrap (Int.tmod (tVV 1048576 m) 20-4)=Int.tmod (tVV 1048576 m) 20-4:=IntWalk.i32_in _ (by omega);first|(rw[w1,w2];simp[wordV,hc1];done)|(rw[w3];simp[wordV,hc1];done)|(rw[w4];simp[wordV,hc1];done)|(simp[wordV,hc1];done))
 have hst:m7=wordS m:=(by(try simp only[hm5,hm7] at hc1);(try simp only[hm5,hm7]);all_goals first|rfl|(simp[wordV,wordS,hc1];done)|(simp[wordV,wordS,hc1];rfl)|(unfold wordV wordS;(repeat' split)<;>first|rfl|(exfalso;omega)|(simp[hc1] at *;done)|(simp_all;done)))
 exact jr1 Z Z () (by rw[hv0]<;>rfl) dn (fun _ _=>(kcb (by rw[←hst]) k0 kn))
 refine jq (jr (js (jeql Z Z) (ja Z (jn (jx ?_)))))
 refine jif Z (fun hc2=>?_) (fun hc2=>?_)
 refine jq (jr (jm Z (js (jneg Z) (js (jco U3 U21 Z Z) (ja Z (jn (jx (jrt (jbr (jtr ?_))))))))))
 have hv0:wordV m=(IntKind.i32.wrap (IntKind.i64.wrap (0-(tVV 1048576 m)))):=(by(try simp only[hm5,hm7] at hc1 hc2);(try simp only[hm5,hm7]);have w1:IntKind.i64.wrap (0-tVV 1048576 m)=0-tVV 1048576 m:=IntWalk.i64_in _ (by omega);have w2:IntKind.i32.wrap (0-tVV 1048576 m)=0-tVV 1048576 m:=IntWalk.i32_in _ (by omega);have a1:=Int.tmod_nonneg 70000 tr5.1;have a2:=Int.tmod_lt_of_pos (tVV 1048576 m) (b:=70000) (by omega);have a3:=Int.tmod_nonneg 20 tr5.1;have a4:=Int.tmod_lt_of_pos (tVV 1048576 m) (b:=20) (by omega);have w3:IntKind.i32.wrap (Int.tmod (tVV 1048576 m) 70000)=Int.tmod (tVV 1048576 m) 70000:=IntWalk.i32_in _ (by omega);have w4:IntKind.i32.wrap (Int.tmod (tVV 1048576 m) 20-4)=Int.tmod (tVV 1048576 m) 20-4:=IntWalk.i32_in _ (by omega);first|(rw[w1,w2];simp[wordV,hc1,hc2];done)|(rw[w3];simp[wordV,hc1,hc2];done)|(rw[w4];simp[wordV,hc1,hc2];done)|(simp[wordV,hc1,hc2];done))
 have hst:m7=wordS m:=(by(try simp only[hm5,hm7] at hc1 hc2);(try simp only[hm5,hm7]);all_goals first|rfl|(simp[wordV,wordS,hc1,hc2];done)|(simp[wordV,wordS,hc1,hc2];rfl)|(unfold wordV wordS;(repeat' split)<;>first|rfl|(exfalso;omega)|(simp[hc1,hc2] at *;done)|(simp_all;done)))
 exact jr1 Z Z () (by rw[hv0]<;>rfl) dn (fun _ _=>(kcb (by rw[←hst]) k0 kn))
 refine jq (jr (js (jeql Z Z) (ja Z (jn (jx ?_)))))
 refine jif Z (fun hc3=>?_) (fun hc3=>?_)
 refine jq (jr (ja Z (jn (jx (jrt (jbr (jtr ?_)))))))
 have hv0:wordV m=(-2147483648):=(by(try simp only[hm5,hm7] at hc1 hc2 hc3);(try simp only[hm5,hm7]);have w1:IntKind.i64.wrap (0-tVV 1048576 m)=0-tVV 1048576 m:=IntWalk.i64_in _ (by omega);have w2:IntKind.i32.wrap (0-tVV 1048576 m)=0-tVV 1048576 m:=IntWalk.i32_in _ (by omega);have a1:=Int.tmod_nonneg 70000 tr5.1;have a2:=Int.tmod_lt_of_pos (tVV 1048576 m) (b:=70000) (by omega);have a3:=Int.tmod_nonneg 20 tr5.1;have a4:=Int.tmod_lt_of_pos (tVV 1048576 m) (b:=20) (by omega);have w3:IntKind.i32.wrap (Int.tmod (tVV 1048576 m) 70000)=Int.tmod (tVV 1048576 m) 70000:=IntWalk.i32_in _ (by omega);have w4:IntKind.i32.wrap (Int.tmod (tVV 1048576 m) 20-4)=Int.tmod (tVV 1048576 m) 20-4:=IntWalk.i32_in _ (by omega);first|(rw[w1,w2];simp[wordV,hc1,hc2,hc3];done)|(rw[w3];simp[wordV,hc1,hc2,hc3];done)|(rw[w4];simp[wordV,hc1,hc2,hc3];done)|(simp[wordV,hc1,hc2,hc3];done))
 have hst:m7=wordS m:=(by(try simp only[hm5,hm7] at hc1 hc2 hc3);(try simp only[hm5,hm7]);all_goals first|rfl|(simp[wordV,wordS,hc1,hc2,hc3];done)|(simp[wordV,wordS,hc1,hc2,hc3];rfl)|(unfold wordV wordS;(repeat' split)<;>first|rfl|(exfalso;omega)|(simp[hc1,hc2,hc3] at *;done)|(simp_all;done)))
 exact jr1 Z Z () (by rw[hv0]<;>rfl) dn (fun _ _=>(kcb (by rw[←hst]) k0 kn))
 refine jq (jr (js (jeql Z Z) (ja Z (jn (jx ?_)))))
 refine jif Z (fun hc4=>?_) (fun hc4=>?_)
 refine jq (jr (jm Z (js (jrem Z Z (by decide)) (js (jco U3 U21 Z Z) (ja Z (jn (jx (jrt (jbr (jtr ?_))))))))))
 have hv0:wordV m=(IntKind.i32.wrap (Int.tmod (tVV 1048576 m) 70000)):=(by(try simp only[hm5,hm7] at hc1 hc2 hc3 hc4);(try simp only[hm5,hm7]);have w1:IntKind.i64.wrap (0-tVV 1048576 m)=0-tVV 1048576 m:=IntWalk.i64_in _ (by omega);have w2:IntKind.i32.wrap (0-tVV 1048576 m)=0-tVV 1048576 m:=IntWalk.i32_in _ (by omega);have a1:=Int.tmod_nonneg 70000 tr5.1;have a2:=Int.tmod_lt_of_pos (tVV 1048576 m) (b:=70000) (by omega);have a3:=Int.tmod_nonneg 20 tr5.1;have a4:=Int.tmod_lt_of_pos (tVV 1048576 m) (b:=20) (by omega);have w3:IntKind.i32.wrap (Int.tmod (tVV 1048576 m) 70000)=Int.tmod (tVV 1048576 m) 70000:=IntWalk.i32_in _ (by omega);have w4:IntKind.i32.wrap (Int.tmod (tVV 1048576 m) 20-4)=Int.tmod (tVV 1048576 m) 20-4:=IntWalk.i32_in _ (by omega);first|(rw[w1,w2];simp[wordV,hc1,hc2,hc3,hc4];done)|(rw[w3];simp[wordV,hc1,hc2,hc3,hc4];done)|(rw[w4];simp[wordV,hc1,hc2,hc3,hc4];done)|(simp[wordV,hc1,hc2,hc3,hc4];done))
 have hst:m7=wordS m:=(by(try simp only[hm5,hm7] at hc1 hc2 hc3 hc4);(try simp only[hm5,hm7]);all_goals first|rfl|(simp[wordV,wordS,hc1,hc2,hc3,hc4];done)|(simp[wordV,wordS,hc1,hc2,hc3,hc4];rfl)|(unfold wordV wordS;(repeat' split)<;>first|rfl|(exfalso;omega)|(simp[hc1,hc2,hc3,hc4] at *;done)|(simp_all;done)))
 exact jr1 Z Z () (by rw[hv0]<;>rfl) dn (fun _ _=>(kcb (by rw[←hst]) k0 kn))
 refine jsk (jbn (jx (jq (jr (jm Z (js (jrem Z Z (by decide)) ?_))))))
 have b3:=Int.tmod_nonneg 20 tr5.1
 have b4:=Int.tmod_lt_of_pos (tVV 1048576 m) (b:=20) (by omega)
 refine js (jsub Z Z (by omega)) (js (jco U3 U21 Z Z) (ja Z (jn (jx (jrt ?_)))))
 have hv0:wordV m=(IntKind.i32.wrap ((Int.tmod (tVV 1048576 m) 20)-4)):=(by(try simp only[hm5,hm7] at hc1 hc2 hc3 hc4);(try simp only[hm5,hm7]);have w1:IntKind.i64.wrap (0-tVV 1048576 m)=0-tVV 1048576 m:=IntWalk.i64_in _ (by omega);have w2:IntKind.i32.wrap (0-tVV 1048576 m)=0-tVV 1048576 m:=IntWalk.i32_in _ (by omega);have a1:=Int.tmod_nonneg 70000 tr5.1;have a2:=Int.tmod_lt_of_pos (tVV 1048576 m) (b:=70000) (by omega);have a3:=Int.tmod_nonneg 20 tr5.1;have a4:=Int.tmod_lt_of_pos (tVV 1048576 m) (b:=20) (by omega);have w3:IntKind.i32.wrap (Int.tmod (tVV 1048576 m) 70000)=Int.tmod (tVV 1048576 m) 70000:=IntWalk.i32_in _ (by omega);have w4:IntKind.i32.wrap (Int.tmod (tVV 1048576 m) 20-4)=Int.tmod (tVV 1048576 m) 20-4:=IntWalk.i32_in _ (by omega);first|(rw[w1,w2];simp[wordV,hc1,hc2,hc3,hc4];done)|(rw[w3];simp[wordV,hc1,hc2,hc3,hc4];done)|(rw[w4];simp[wordV,hc1,hc2,hc3,hc4];done)|(simp[wordV,hc1,hc2,hc3,hc4];done))
 have hst:m7=wordS m:=(by(try simp only[hm5,hm7] at hc1 hc2 hc3 hc4);(try simp only[hm5,hm7]);all_goals first|rfl|(simp[wordV,wordS,hc1,hc2,hc3,hc4];done)|(simp[wordV,wordS,hc1,hc2,hc3,hc4];rfl)|(unfold wordV wordS;(repeat' split)<;>first|rfl|(exfalso;omega)|(simp[hc1,hc2,hc3,hc4] at *;done)|(simp_all;done)))
 exact jr1 Z Z () (by rw[hv0]<;>rfl) dn (fun _ _=>(kcb (by rw[←hst]) k0 kn))
theorem r3makes_ct{a0:Value}{i:D.Ins}:Td Tryz.prog 101 #[vIns i a0] [da rIns (vIns i a0) i] [] (rL (rI .i64)) (makes3 i):=by
 refine jenter (args:=[vIns i a0]) Tryz.func101 rfl rfl rfl fun w0 X=>?_
 refine jq (jr (jbox Z Z fun g1=>ja Z (jn (jx (jq (jq (jr (js (jf F163_0 Z) (js (jl k0 O3 Z Z) (jn ?_))))))))))
 refine jx (jb (jq (jr (js (jeql Z Z) (ja Z (jn (jx ?_)))))))
 refine jif Z (fun hc1=>?_) (fun hc1=>?_)
 refine jq (jr (ja Z (jn (jx (jrt (jbr (jtr ?_)))))))
 exact jrD Z Z (by simp[makes3, *]) wN
 refine jq (jr (js (jeql Z Z) (ja Z (jn (jx ?_)))))
 refine jif Z (fun hc2=>?_) (fun hc2=>?_)
 refine jq (jr (js (jf F163_1 Z) (js (jl k0 O3 Z Z) (js (jf F163_2 Z) (js (jl k0 O3 Z Z) (jlit (r:=(rI .i64)) (l:=[i.Dst,i.Two]) U22 I3 (by decide) Z Z Z (lV Z Z (wI (rIns.W_Dst d0)) (lV Z Z (wI (rIns.W_Two d0)) ln)) fun g13=>ja Z (jn (jx (jrt (jbr ?_))))))))))
 refine jtr (qfz k0 (by(try simp)<;>omega) ?_)
 exact jrD Z Z (by simp[makes3, *]) d0
 refine jsk (jbn (jx (jq (jr (js (jf F163_1 Z) (js (jl k0 O3 Z Z) (jlit (r:=(rI .i64)) (l:=[i.Dst]) U22 I3 (by decide) Z Z Z (lV Z Z (wI (rIns.W_Dst d0)) ln) fun g16=>ja Z (jn (jx (jrt ?_))))))))))
 refine qfz k0 (by(try simp)<;>omega) ?_
 exact jrD Z Z (by simp[makes3, *]) d0
set_option maxRecDepth 4000 in
theorem m3value_ct{vs vb al:Value}{m:Mk}{nb c:Nat}{S:List Int}{g0:Nat}{B0 B1:Nat}{qs:List BV}(hok:okS nb c S m)(hc:c≤990000):KB Tryz.prog 170 [] [] g0 vs vb al S B0 B1 qs [wf .i64 (valueV m)] m (valueS m) (.tuple #[.int .i64 (valueV m),.bool (valueB m)]):=by
 refine jenter (args:=[.pointer (some ⟨g0,0,none⟩)]) Tryz.func170 rfl rfl rfl fun w0 X=>?_
 refine cgo k1 fun w1=>?_
 have bd0:=okM.bnd hok.1
 refine cbk k2 (okM.bnd hok.1).2.2.2.2.2.2.2.1 fun hvb=>jq (jr (ja Z (ja Z (jn (jx (jq (jq (jr (jm Z (js (jnil Z) ?_))))))))))
 refine js (jf F106_4 Z) (js (jl k0 O22 Z Z) (js (jlg U22 k1 Z) (js (jeql Z Z) (jn (jx ?_)))))
 refine jif Z (fun hc1=>?_) (fun hc1=>?_)
 have hz:m.lv.length=0:=by omega
 refine jq (jr (ja Z (ja Z (jn (jx (jrt (jtr ?_)))))))
 have hv0:valueV m=0:=(by first|(simp[valueV,valueB,valueS,valueI,hz];done)|(simp[valueV,valueB,valueS,valueI,hz];rfl))
 have hv1:valueB m=false:=(by first|(simp[valueV,valueB,valueS,valueI,hz];done)|(simp[valueV,valueB,valueS,valueI,hz];rfl))
 have hst:m=valueS m:=(by first|(simp[valueV,valueB,valueS,valueI,hz];done)|(simp[valueV,valueB,valueS,valueI,hz];rfl))
 exact jr2 Z Z Z (al,qs) (by rw[hv0,hv1]<;>rfl) (dc (wca hv0 (wl 0)) dn) (fun _ _=>(kcb (by rw[←hst]) k0 (kcg (by rw[←hst]) k0 (kck (by rw[←hst]) k0 kn))))
 have hz:¬m.lv.length=0:=by omega
 refine jsk (jx (jq (jr (jm Z (jm Z (js (jnil Z) (js (jf F106_4 Z) (js (jl k0 O22 Z Z) (js (jlg U22 k1 Z) (jkr E54 Z Z (m3take_ct hok (by omega) (↑(List.length m.lv)) (by omega)) (dc d0 dn) (kd (kc k0 kn)) ⟨tO9 hok.1,hok.2⟩ fun m17 hm17 om17 bm17=>?_))))))))))
 have w17_0:IntKind.i64.wrap (tVV (↑(List.length m.lv)) m)=tVV (↑(List.length m.lv)) m:=(IntWalk.i64_in _ (by have h9:=@tV9 (↑(List.length m.lv)) (by omega) m;omega))
 have tr17:=@tV9 (↑(List.length m.lv)) (by omega) m
 have llm17:List.length m17.lv=List.length m.lv:=by rw[hm17]<;>rfl
 clear bd0
 refine ja Z (jn (jx (jq (jq (jr (jm Z (jkr E54 Z Z (m3take_ct om17 (by omega) 3 (by omega)) (dc d0 dn) (kd (kc k0 kn)) ⟨tO9 om17.1,om17.2⟩ fun m19 hm19 om19 bm19=>?_)))))))
 have w19_0:IntKind.i64.wrap (tVV 3 m17)=tVV 3 m17:=(IntWalk.i64_in _ (by have h9:=@tV9 3 (by omega) m17;omega))
 have tr19:=@tV9 3 (by omega) m17
 have llm19:List.length m19.lv=List.length m17.lv:=by rw[hm19]<;>rfl
 clear bm17
 refine js (jeql Z Z) (jn (jx ?_))
 refine jif Z (fun hc2=>?_) (fun hc2=>?_)
 refine jr (jm Z (js (jnil Z) (js (jf F106_4 Z) (js (jl k0 O22 Z Z) (js (jlg U22 k1 Z) (js (jsub Z Z (by omega)) (ja Z (jn (jx (jq (jr ?_)))))))))))
 refine jm Z (js (jnil Z) (js (jf F106_4 Z) (js (jl k0 O22 Z Z) (jm Z (js (jig (i:=(Int.toNat ((↑(List.length m19.lv))-1))) U22 Z3 k1 Z Z (by omega) (by omega)) (js (jgI k1 (by omega) O3 Z) (ja Z (ja Z (jn (jx (jrt ?_)))))))))))
 have hv0:valueV m=(ix m19.lv (Int.toNat ((((List.length m19.lv:Nat):Int))-1))):=(by(try simp only[hm17,hm19] at hc1 hc2);(try simp only[hm17,hm19]);first|(simp[valueV,valueB,valueS,valueI,hz,hc2];done)|(simp[valueV,valueB,valueS,valueI,hz,hc2];rfl))
 have hv1:valueB m=true:=(by(try simp only[hm17,hm19] at hc1 hc2);(try simp only[hm17,hm19]);first|(simp[valueV,valueB,valueS,valueI,hz,hc2];done)|(simp[valueV,valueB,valueS,valueI,hz,hc2];rfl))
 have hst:m19=valueS m:=(by(try simp only[hm17,hm19] at hc1 hc2);(try simp only[hm17,hm19]);first|(simp[valueV,valueB,valueS,valueI,hz,hc2];done)|(simp[valueV,valueB,valueS,valueI,hz,hc2];rfl))
 exact jr2 Z Z Z (al,qs) (by rw[hv0,hv1]<;>rfl) (dc (wca hv0 (wgl k1 (by omega))) dn) (fun _ _=>(kcb (by rw[←hst]) k0 (kcg (by rw[←hst]) k0 (kck (by rw[←hst]) k0 kn))))
 refine jsk (jx (jq (jr (jm Z (js (jnil Z) (js (jf F106_4 Z) (js (jl k0 O22 Z Z) (jm Z (js (jig (i:=(Int.toNat (tVV (↑(List.length m.lv)) m))) U22 Z3 k1 Z Z (by omega) (by omega)) (js (jgI k1 (by omega) O3 Z) (ja Z ?_)))))))))))
 refine ja Z (jn (jx (jrt ?_)))
 have hv0:valueV m=(ix m19.lv (Int.toNat (tVV (((List.length m.lv:Nat):Int)) m))):=(by(try simp only[hm17,hm19] at hc1 hc2);(try simp only[hm17,hm19]);first|(simp[valueV,valueB,valueS,valueI,hz,hc2];done)|(simp[valueV,valueB,valueS,valueI,hz,hc2];rfl))
 have hv1:valueB m=true:=(by(try simp only[hm17,hm19] at hc1 hc2);(try simp only[hm17,hm19]);first|(simp[valueV,valueB,valueS,valueI,hz,hc2];done)|(simp[valueV,valueB,valueS,valueI,hz,hc2];rfl))
 have hst:m19=valueS m:=(by(try simp only[hm17,hm19] at hc1 hc2);(try simp only[hm17,hm19]);first|(simp[valueV,valueB,valueS,valueI,hz,hc2];done)|(simp[valueV,valueB,valueS,valueI,hz,hc2];rfl))
 exact jr2 Z Z Z (al,qs) (by rw[hv0,hv1]<;>rfl) (dc (wca hv0 (wgl k1 (by omega))) dn) (fun _ _=>(kcb (by rw[←hst]) k0 (kcg (by rw[←hst]) k0 (kck (by rw[←hst]) k0 kn))))
abbrev U102:=@Tryz.underlying102
abbrev U156:=@Tryz.underlying156
theorem A163:∃d,Tryz.prog.underlying 163=some d∧(match d with | .struct _ | .array _ _=>true|_=>false)=true:=⟨_,Tryz.underlying163,rfl⟩
theorem E101:Ent Tryz.prog 101:=⟨_,Tryz.func101,by kernel_rfl,by kernel_rfl⟩
theorem F104_1:Fld Tryz.prog 104 1 1:=⟨_,_,Tryz.underlying104,rfl,rfl,1,(by unfold Sz;kernel_rfl),by decide⟩
theorem F106_2:Fld Tryz.prog 106 2 2:=⟨_,_,Tryz.underlying106,rfl,rfl,2,(by unfold Sz;kernel_rfl),by decide⟩
theorem F160_1:Fld Tryz.prog 160 1 1:=⟨_,_,Tryz.underlying160,rfl,rfl,1,(by unfold Sz;kernel_rfl),by decide⟩
theorem I163:(Tryz.prog.info? 163).map (fun i=>(i.zero,i.size,i.bytes))=some (some (.agg #[.int .i64 0,.int .i64 0,.int .i64 0,.slice none 0 0,.int .i32 0]),5,56):=by kernel_rfl
theorem O102:One Tryz.prog 102:=⟨_,Tryz.underlying102,rfl⟩
theorem O156:One Tryz.prog 156:=⟨_,Tryz.underlying156,rfl⟩
theorem Z156:Sz Tryz.prog 156 1:=by unfold Sz;kernel_rfl
theorem Z160:Sz Tryz.prog 160 6:=by unfold Sz;kernel_rfl
theorem Z163:Sz Tryz.prog 163 5:=by unfold Sz;kernel_rfl
set_option maxRecDepth 4000 in
theorem m3add_ct{vs vb al:Value}{m:Mk}{nb c:Nat}{S:List Int}{g0:Nat}{B0 B1:Nat}{qs:List BV}(hok:okS nb c S m)(hc:c≤990000)(b:Int){a2:Value}{i:D.Ins}(hb9:0≤b∧b<nb):KB Tryz.prog 149 [.int .i64 b,vIns i a2] [da rIns (vIns i a2) i] g0 vs vb al S B0 B1 qs [] m (addS b i m) (.tuple #[]):=by
 refine jenter (args:=[.pointer (some ⟨g0,0,none⟩),.int .i64 b,vIns i a2]) Tryz.func149 rfl rfl rfl fun w0 X=>?_
 refine cgo k1 fun w1=>?_
 have bd0:=okM.bnd hok.1
 refine cbk k2 (okM.bnd hok.1).2.2.2.2.2.2.2.1 fun hvb=>jq (jr (jbox Z Z fun g5=>jn (jx (jq (jany true (.a 0 (.a 1 (.a 2 (.a 3 (.a 4 (.a 5 (.a 6 (.a 7 (.a 8 (.a 9 (.a 10 (.a 11 (.a 12 (.a 13 (.a 15 (.w 14 16 (.o 16 (.o 17 (.a 18 (.a 19 (.o 20 .e))))) (.o 14 (.o 17 (.a 18 (.a 19 (.o 20 .e))))))))))))))))))))) Mixed (by kernel_rfl) (kd kn) fun F2=>jy Z (jmv Z) (jy Z (jnil Z) (jy Z (jf F106_2 Z) (jy Z (jf F104_1 Z) ?_))))))))
 refine jy Z (jl k1 O102 Z Z) (jy Z (jmv Z) (jy Z (jmv Z) (jy Z (jnil Z) (jy Z (jf F106_2 Z) (jy Z (jf F104_1 Z) (jy Z (jl k1 O102 Z Z) (jy Z (jmv Z) (jy Z (jbi' (j:=(Int.toNat b)) U102 Z160 hvb Z Z (by omega) (by omega)) (jy Z (jf F160_1 Z) (jy Z (jla k0 A163 Z163 Z Z Z) ?_))))))))))
 refine jyw Z Z ?_ ?_
 refine js (jbh1 k3 (by omega) O156 Z Z) (jyn d0 (kd kn) (jyo Z (jlit (r:=rIns) (l:=[i]) U156 I163 (by decide) Z Z Z (lA d3 ln) fun g23=>jyn d0 (kc k1 (kc k1 kn)) (jyo Z (jfz k0 (by(try simp)<;>omega) ?_)))))
 have hrF7:=okM.row hok.1 (j:=(Int.toNat b)) (by omega)
 refine jbf1 (Int.toNat b) k3 (by omega) (jgo k0 fun w8=>japl U156 I163 (by decide) Z k0 Z Z d0 (by(try simp)<;>omega) fun v24 w9=>jyn d1 (kc k2 (kc k2 kn)) (jy Z (jbi' (j:=(Int.toNat b)) U102 Z160 hvb Z Z (by omega) (by omega)) (jy Z (jf F160_1 Z) (jyo Z (jbs1 k0 k0 (by omega) Z156 Z Z Z w9.one (jkn (c:=c+1) ({ m with bs:=List.set m.bs (Int.toNat b) { (ix m.bs (Int.toNat b)) with Ins:=((ix m.bs (Int.toNat b)).Ins)++([i]) } }) (kc k2 (kc k2 (kc k0 kn))) ⟨(okM.setb (d:=1) hok.1 (by dsimp only;rw[List.length_append];simp only[List.length_cons,List.length_nil];omega)),hok.2⟩ fun ms11 hms11 oms11 bms11=>?_))))))
 clear bd0
 refine jyz d0 (jyd (jx (jq (jr (js (jla k3 A163 Z163 Z Z Z) (jcd E101 Z Z r3makes_ct (dc d6 dn) kn fun v28 q12 w12=>ja Z (jn (jx (jr (jm Z ?_))))))))))
 refine jm Z (js (jnil Z) (js (jf F106_4 Z) (js (jl k0 O22 Z Z) (jm Z (japl U22 I3 (by decide) Z k1 Z Z d0 (by(try simp)<;>omega) fun v35 w14=>js (jnil Z) (js (jf F106_4 Z) (jst k1 Z22 Z Z w14.one s5 (jkn (c:=c+2) ({ ms11 with lv:=ms11.lv++(makes3 i) }) (kd (kc k0 kn)) ⟨(okM.setlv oms11.1 (by have:=makes3_len i;simp only[List.length_append];omega) (by omega)),oms11.2⟩ fun ms15 hms15 oms15 bms15=>?_))))))))
 clear bms11
 refine jn ?_
 have hst:ms15=addS b i m:=(by(try simp only[hms11,hms15]);all_goals first|rfl|(simp[addS];done)|(simp[addS];rfl)|(unfold addS;(repeat' split)<;>first|rfl|(exfalso;omega)|(simp[] at *;done)|(simp_all;done)))
 exact jd0 Z (v35,List.set qs (Int.toNat b) { (ix qs (Int.toNat b)) with I:=v24 }) Z dn (fun _ _=>(kcb (by rw[←hst]) k0 (kcg (by rw[←hst]) k0 (kck (by rw[←hst]) k0 kn))))
 refine jlit (r:=rIns) (l:=[i]) U156 I163 (by decide) Z Z Z (lA d2 ln) fun g23=>jyn d0 (kc k1 (kc k1 kn)) (jyo Z (js (jbh1 k4 (by omega) O156 Z Z) (jyn d0 (kc k1 (kc k1 kn)) (jyo Z (jfz k0 (by(try simp)<;>omega) ?_)))))
 have hrF7:=okM.row hok.1 (j:=(Int.toNat b)) (by omega)
 refine jbf1 (Int.toNat b) k3 (by omega) (jgo k0 fun w8=>japl U156 I163 (by decide) Z k0 Z Z d0 (by(try simp)<;>omega) fun v24 w9=>jyn d1 (kc k2 (kc k2 kn)) (jy Z (jbi' (j:=(Int.toNat b)) U102 Z160 hvb Z Z (by omega) (by omega)) (jy Z (jf F160_1 Z) (jyo Z (jbs1 k0 k0 (by omega) Z156 Z Z Z w9.one (jkn (c:=c+1) ({ m with bs:=List.set m.bs (Int.toNat b) { (ix m.bs (Int.toNat b)) with Ins:=((ix m.bs (Int.toNat b)).Ins)++([i]) } }) (kc k2 (kc k2 (kc k0 kn))) ⟨(okM.setb (d:=1) hok.1 (by dsimp only;rw[List.length_append];simp only[List.length_cons,List.length_nil];omega)),hok.2⟩ fun ms11 hms11 oms11 bms11=>?_))))))
 clear bd0
 refine jyz d0 (jyd (jx (jq (jr (js (jla k3 A163 Z163 Z Z Z) (jcd E101 Z Z r3makes_ct (dc d6 dn) kn fun v28 q12 w12=>ja Z (jn (jx (jr (jm Z ?_))))))))))
 refine jm Z (js (jnil Z) (js (jf F106_4 Z) (js (jl k0 O22 Z Z) (jm Z (japl U22 I3 (by decide) Z k1 Z Z d0 (by(try simp)<;>omega) fun v35 w14=>js (jnil Z) (js (jf F106_4 Z) (jst k1 Z22 Z Z w14.one s5 (jkn (c:=c+2) ({ ms11 with lv:=ms11.lv++(makes3 i) }) (kd (kc k0 kn)) ⟨(okM.setlv oms11.1 (by have:=makes3_len i;simp only[List.length_append];omega) (by omega)),oms11.2⟩ fun ms15 hms15 oms15 bms15=>?_))))))))
 clear bms11
 refine jn ?_
 have hst:ms15=addS b i m:=(by(try simp only[hms11,hms15]);all_goals first|rfl|(simp[addS];done)|(simp[addS];rfl)|(unfold addS;(repeat' split)<;>first|rfl|(exfalso;omega)|(simp[] at *;done)|(simp_all;done)))
 exact jd0 Z (v35,List.set qs (Int.toNat b) { (ix qs (Int.toNat b)) with I:=v24 }) Z dn (fun _ _=>(kcb (by rw[←hst]) k0 (kcg (by rw[←hst]) k0 (kck (by rw[←hst]) k0 kn))))
theorem E105:Ent Tryz.prog 105:=⟨_,Tryz.func105,by kernel_rfl,by kernel_rfl⟩
theorem E149:Ent Tryz.prog 149:=⟨_,Tryz.func149,by kernel_rfl,by kernel_rfl⟩
theorem E170:Ent Tryz.prog 170:=⟨_,Tryz.func170,by kernel_rfl,by kernel_rfl⟩
theorem E53:Ent Tryz.prog 53:=⟨_,Tryz.func53,by kernel_rfl,by kernel_rfl⟩
theorem E99:Ent Tryz.prog 99:=⟨_,Tryz.func99,by kernel_rfl,by kernel_rfl⟩
set_option maxRecDepth 4000 in
theorem m3const_ct{vs vb al:Value}{m:Mk}{nb c:Nat}{S:List Int}{g0:Nat}{B0 B1:Nat}{qs:List BV}(hok:okS nb c S m)(hc:c≤980000)(b:Int)(n:Int)(hb9:0≤b∧b<nb)(ww2:IntKind.i32.wrap n=n):KB Tryz.prog 105 [.int .i64 b,.int .i32 n] [] g0 vs vb al S B0 B1 qs [wf .i64 m.nx] m (constS b n m) (.int .i64 m.nx):=by
 refine jenter (args:=[.pointer (some ⟨g0,0,none⟩),.int .i64 b,.int .i32 n]) Tryz.func105 rfl rfl rfl fun w0 X=>?_
 refine cgo k1 fun w1=>?_
 have bd0:=okM.bnd hok.1
 refine cbk k2 (okM.bnd hok.1).2.2.2.2.2.2.2.1 fun hvb=>?_
 have hbn:b.toNat<nb:=by omega
 refine jq (jr (ja Z (jn (jx (jq (jr (jm Z (jkr E99 Z Z (m3fresh_ct hok (by omega)) (dc d0 dn) (kd (kc k0 kn)) ⟨fresh_ok hok.1,hok.2⟩ fun m9 hm9 om9 bm9=>?_))))))))
 have w9_0:IntKind.i64.wrap (m.nx)=m.nx:=(IntWalk.i64_in _ (by omega))
 clear bd0
 refine ja Z (jn (jx (jq (jr (jm Z (jm Z (jm Z (jm Z (js (jbu (v := .agg #[.int .i64 1,.int .i64 m.nx,.int .i64 0,.slice none 0 0,.int .i32 n]) Z (fun _=>by kernel_rfl)) (jkb E149 Z Z (m3add_ct (i:=⟨1,m.nx,0,[],n⟩) om9 (by omega) b hb9) (dc d0 (dc (rIns.M (m:=⟨1,m.nx,0,[],n⟩) (c:=(.slice none 0 0)) wN (wl 1) (wp w9_0) (wl 0) (wp ww2)) dn)) (kd (kc k0 kn)) ⟨add_ok om9.1 hbn,(addS_s.trans om9.2)⟩ p0 fun m15 hm15 om15 bm15 ua15 qs15 w2=>?_))))))))))
 clear bm9
 refine jn (jx (jq (jr (jm Z (ja Z (jn (jx (jrt ?_))))))))
 have hv0:m.nx=m.nx:=(by(try simp only[hm9,hm15]);all_goals first|rfl|(simp[constS];done)|(simp[constS];rfl)|(unfold constS;(repeat' split)<;>first|rfl|(exfalso;omega)|(simp[] at *;done)|(simp_all;done)))
 have hst:m15=constS b n m:=(by(try simp only[hm9,hm15]);all_goals first|rfl|(simp[constS];done)|(simp[constS];rfl)|(unfold constS;(repeat' split)<;>first|rfl|(exfalso;omega)|(simp[] at *;done)|(simp_all;done)))
 exact jr1 Z Z (ua15,qs15) (by rw[hv0]<;>rfl) (dc (wca hv0 (wp w9_0)) dn) (fun _ _=>(kcb (by rw[←hst]) k0 (kcg (by rw[←hst]) k0 (kck (by rw[←hst]) k0 kn))))
set_option maxRecDepth 4000 in
theorem m3some_ct{vs vb al:Value}{m:Mk}{nb c:Nat}{S:List Int}{g0:Nat}{B0 B1:Nat}{qs:List BV}(hok:okS nb c S m)(hc:c≤970000)(b:Int)(hb9:0≤b∧b<nb):KB Tryz.prog 148 [.int .i64 b] [] g0 vs vb al S B0 B1 qs [wf .i64 (sV9 m)] m (sS9 b m) (.int .i64 (sV9 m)):=by
 refine jenter (args:=[.pointer (some ⟨g0,0,none⟩),.int .i64 b]) Tryz.func148 rfl rfl rfl fun w0 X=>?_
 refine cgo k1 fun w1=>?_
 have bd0:=okM.bnd hok.1
 refine cbk k2 (okM.bnd hok.1).2.2.2.2.2.2.2.1 fun hvb=>?_
 have hbn:b.toNat<nb:=by omega
 refine jq (jr (ja Z (jn (jx (jq (jr (jm Z (jkb E170 Z Z (m3value_ct hok (by omega)) (dc d0 dn) (kd (kc k0 kn)) ⟨value_ok hok.1,(valueS_s.trans hok.2)⟩ p1 fun m9 hm9 om9 bm9 ua9 qs9 w2=>?_))))))))
 clear bd0
 refine jm Z (js (jex' Z Z) (js (jex' Z Z) (ja Z (ja Z (jn (jx (jq (jq (jr (jm Z (js (jnot Z) ?_)))))))))))
 refine jm Z (jg Z Z (.f _) (fun hg=>jmv Z) (jkg Z Z (.f _) E54 Z (fun hg=>evl2 (evg Z hg) Z) (m3take_ct om9 (by omega) 9 (by first|exact hb9|decide|omega)) (dc d1 dn) (kd (kc k0 kn)) (by split;exact⟨tO9 om9.1,om9.2⟩;exact om9.mono (by omega)) fun m16 hm16 om16 bm16=>?_))
 have w16_0:IntKind.i64.wrap (tVV 9 m9)=tVV 9 m9:=(IntWalk.i64_in _ (by have h9:=@tV9 9 (by omega) m9;omega))
 have tr16:=@tV9 9 (by omega) m9
 clear bm9
 refine jg Z Z (.f _) (fun hg=>jeql (evg Z hg) Z) (js (jor Z Z) (jn (jx ?_)))
 refine jif Z (fun hc1=>?_) (fun hc1=>?_)
 refine jq (jr (jm Z (jm Z (jm Z (jkr E53 Z Z (m3word_ct om16 (by omega)) (dc d1 dn) (kd (kc k0 kn)) ⟨word_ok om16.1,om16.2⟩ fun m22 hm22 om22 bm22=>?_)))))
 have w22_0:IntKind.i32.wrap (wordV m16)=wordV m16:=(word_w m16)
 clear bm16
 refine jkb E105 Z Z (m3const_ct om22 (by omega) b (wordV m16) (by first|exact hb9|decide|omega) w22_0) (dc d1 dn) (kd (kc k0 kn)) ⟨const_ok om22.1 hbn,(constS_s.trans om22.2)⟩ p1 fun m23 hm23 om23 bm23 ua23 qs23 w4=>?_
 clear bm22
 refine ja Z (jn (jx (jrt (jtr ?_))))
 have hv0:sV9 m=m22.nx:=(by(try simp only[hm9,hm16,hm22,hm23] at hc1);(try simp only[hm9,hm16,hm22,hm23]);all_goals first|rfl|(simp[sS9,sV9,someC,someM0,hc1];done)|(simp[sS9,sV9,someC,someM0,hc1];rfl)|(unfold sS9 sV9 someC someM0;(repeat' split)<;>first|rfl|(exfalso;omega)|(simp[hc1] at *;done)|(simp_all;done)))
 have hst:m23=sS9 b m:=(by(try simp only[hm9,hm16,hm22,hm23] at hc1);(try simp only[hm9,hm16,hm22,hm23]);all_goals first|rfl|(simp[sS9,sV9,someC,someM0,hc1];done)|(simp[sS9,sV9,someC,someM0,hc1];rfl)|(unfold sS9 sV9 someC someM0;(repeat' split)<;>first|rfl|(exfalso;omega)|(simp[hc1] at *;done)|(simp_all;done)))
 exact jr1 Z Z (ua23,qs23) (by rw[hv0]<;>rfl) (dc (wca hv0 ((wfw d0))) dn) (fun _ _=>(kcb (by rw[←hst]) k0 (kcg (by rw[←hst]) k0 (kck (by rw[←hst]) k0 kn))))
 refine jsk (jx (jq (jr (jm Z (ja Z (jn (jx (jrt ?_))))))))
 have hv0:sV9 m=(valueV m):=(by(try simp only[hm9,hm16] at hc1);(try simp only[hm9,hm16]);all_goals first|rfl|(simp[sS9,sV9,someC,someM0,hc1];done)|(simp[sS9,sV9,someC,someM0,hc1];rfl)|(unfold sS9 sV9 someC someM0;(repeat' split)<;>first|rfl|(exfalso;omega)|(simp[hc1] at *;done)|(simp_all;done)))
 have hst:m16=sS9 b m:=(by(try simp only[hm9,hm16] at hc1);(try simp only[hm9,hm16]);all_goals first|rfl|(simp[sS9,sV9,someC,someM0,hc1];done)|(simp[sS9,sV9,someC,someM0,hc1];rfl)|(unfold sS9 sV9 someC someM0;(repeat' split)<;>first|rfl|(exfalso;omega)|(simp[hc1] at *;done)|(simp_all;done)))
 exact jr1 Z Z (ua9,qs9) (by rw[hv0]<;>rfl) (dc (wca hv0 ((wfw d0))) dn) (fun _ _=>(kcb (by rw[←hst]) k0 (kcg (by rw[←hst]) k0 (kck (by rw[←hst]) k0 kn))))
def mem1(b:Int)(m:Mk):Int×Mk :=
 let m1:=constS b (IntKind.i32.wrap (tVV 9 m)) (tSS m)
 let m2:=tSS m1
 if tVV 3 m1=0 then
  let m3:=sS9 b m2
  let m4:=constS b 7 m3
  let m6:=addS b ⟨5,m4.nx,0,[sV9 m2,m3.nx],0⟩ (freshS m4)
  (m6.nx,addS b ⟨2,m6.nx,0,[(tSS m).nx,m4.nx],0⟩ (freshS m6))
 else ((tSS m).nx,m2)
def mem2(m:Mk):Int×Mk :=
 let m2:=tSS (tSS m)
 if tVV 12 (tSS m)=0 then (wordV m2,wordS m2) else (IntKind.i32.wrap (tVV 4 m),m2)
def memS(b:Int)(st:Bool)(m:Mk):Mk :=
 let a:=mem1 b m
 let i:=mem2 a.2
 if st then addS b ⟨16,0,0,[a.1,sV9 i.2],i.1⟩ (sS9 b i.2) else addS b ⟨15,i.2.nx,0,[a.1],i.1⟩ (freshS i.2)
def argsL(b:Int):Nat→List Int→Mk→List Int×Mk
 | 0,l,m=>(l,m)
 | n+1,l,m=>argsL b n (l++[sV9 m]) (sS9 b m)
def insS(b:Int)(m:Mk):Mk :=
 let k:=tVV 20 m
 let m1:=tSS m
 let m2:=sS9 b m1
 let m3:=sS9 b m2
 if k<12 then
  if tVV 3 m3=0 then
   let m4:=constS b (IntKind.i32.wrap (tVV 40 (tSS m3)-8)) (tSS (tSS m3))
   addS b ⟨ix [2,2,3,4,5,6,7,8,9,10,12,11] k.toNat,m4.nx,0,[sV9 m1,(tSS (tSS m3)).nx],0⟩ (freshS m4)
  else addS b ⟨ix [2,2,3,4,5,6,7,8,9,10,12,11] k.toNat,(tSS m3).nx,0,[sV9 m1,sV9 m2],0⟩ (freshS (tSS m3))
 else if k=12 then addS b ⟨13,m3.nx,0,[sV9 m1,sV9 m2],0⟩ (freshS m3)
 else if k=13 then
  let m4:=constS b (IntKind.i32.wrap (tVV 12 m2)) (tSS m2)
  if 0<tVV 3 m4 then
   let m5:=constS b (IntKind.i32.wrap (1+IntKind.i32.wrap (tVV 12 (tSS m4)))) (tSS (tSS m4))
   addS b ⟨14,m5.nx,0,[sV9 m1,(tSS (tSS m4)).nx],0⟩ (freshS m5)
  else addS b ⟨14,(tSS m4).nx,0,[sV9 m1,(tSS m2).nx],0⟩ (freshS (tSS m4))
 else if k<16 then memS b (decide (k=15)) m1
 else if k=16 then
  let r:=argsL b (tVV 5 m1).toNat [] (tSS m1)
  addS b ⟨17,r.2.nx,0,r.1,IntKind.i32.wrap (tVV 5 (freshS r.2))⟩ (tSS (freshS r.2))
 else if k=17 then addS b ⟨18,m3.nx,(freshS m3).nx,[sV9 m1,sV9 m2],0⟩ (freshS (freshS m3))
 else constS b (wordV m1) (wordS m1)
def setT(b:Int)(t:D.Term)(m:Mk):Mk:={ m with bs:=m.bs.set b.toNat { (ix m.bs b.toNat) with Term:=t } }
def endS(b:Int)(l:List Int)(m:Mk):Mk :=
 if l.length=0 then
  if tVV 8 m=0 then setT b ⟨5,[],[],IntKind.i32.wrap (tVV 200 (tSS m))⟩ (tSS (tSS m))
  else if tVV 8 m>1 then setT b ⟨4,[sV9 (tSS m)],[],0⟩ (sS9 b (tSS m))
  else setT b ⟨4,[],[],0⟩ (tSS m)
 else if l.length=1 then setT b ⟨1,[],l,0⟩ m
 else if l.length=2 then
  let m1:=sS9 b m
  let m2:=tSS m1
  if tVV 2 m1=0 then
   let m3:=sS9 b m2
   let m4:=freshS m3
   setT b ⟨2,[m3.nx],l,0⟩ (addS b ⟨ix [11,12,13] (tVV 3 m4).toNat,m3.nx,0,[sV9 m,sV9 m2],0⟩ (tSS m4))
  else setT b ⟨2,[sV9 m],l,0⟩ m2
 else
  let m1:=sS9 b m
  let m2:=constS b 7 m1
  setT b ⟨3,[m2.nx],l,0⟩ (addS b ⟨5,m2.nx,0,[sV9 m,m1.nx],0⟩ (freshS m2))
section
variable{nb c:Nat}{m:Mk}{b:Int}
theorem mem1_ok(h:okM nb c m)(hb:b.toNat<nb):okM nb (c+22) (mem1 b m).2:=by
 unfold mem1;dsimp only;split
 ·exact(add_ok (fresh_ok (add_ok (fresh_ok (const_ok (some_ok (tO9 (const_ok (tO9 h) hb)) hb) hb)) hb)) hb).mono (by omega)
 ·exact(tO9 (const_ok (tO9 h) hb)).mono (by omega)
theorem mem2_ok(h:okM nb c m):okM nb (c+4) (mem2 m).2:=by
 unfold mem2;dsimp only;split
 ·exact(word_ok (tO9 (tO9 h))).mono (by omega)
 ·exact(tO9 (tO9 h)).mono (by omega)
theorem mem_ok{st:Bool}(h:okM nb c m)(hb:b.toNat<nb):okM nb (c+40) (memS b st m):=by
 unfold memS;dsimp only;split
 ·exact(add_ok (some_ok (mem2_ok (mem1_ok h hb)) hb) hb).mono (by omega)
 ·exact(add_ok (fresh_ok (mem2_ok (mem1_ok h hb))) hb).mono (by omega)
theorem args_ok(hb:b.toNat<nb):∀(n:Nat) (l:List Int) {c:Nat} {m:Mk},okM nb c m→okM nb (c+8*n) (argsL b n l m).2
 | 0,_,_,_,h=>h
 | n+1,l,_,m,h=>by have:=args_ok hb n (l++[sV9 m]) (some_ok (b:=b) h hb);exact this.mono (by omega)
theorem args_len:∀(n:Nat) (l:List Int) (m:Mk),(argsL b n l m).1.length=l.length+n
 | 0,_,_=>rfl
 | n+1,l,m=>by rw[argsL,args_len n];simp;omega
theorem ins3_ok(h:okM nb c m)(hb:b.toNat<nb):okM nb (c+60) (insS b m):=by
 unfold insS;dsimp only
 repeat' split
 ·exact(add_ok (fresh_ok (const_ok (tO9 (tO9 (some_ok (some_ok (tO9 h) hb) hb))) hb)) hb).mono (by omega)
 ·exact(add_ok (fresh_ok (tO9 (some_ok (some_ok (tO9 h) hb) hb))) hb).mono (by omega)
 ·exact(add_ok (fresh_ok (some_ok (some_ok (tO9 h) hb) hb)) hb).mono (by omega)
 ·exact(add_ok (fresh_ok (const_ok (tO9 (tO9 (const_ok (tO9 (some_ok (tO9 h) hb)) hb))) hb)) hb).mono (by omega)
 ·exact(add_ok (fresh_ok (tO9 (const_ok (tO9 (some_ok (tO9 h) hb)) hb))) hb).mono (by omega)
 ·exact(mem_ok (tO9 h) hb).mono (by omega)
 ·have h9:=tV9 (n:=5) (by omega) (tSS m)
  exact(add_ok (tO9 (fresh_ok (args_ok hb _ [] (tO9 (tO9 h))))) hb).mono (by omega)
 ·exact(add_ok (fresh_ok (fresh_ok (some_ok (some_ok (tO9 h) hb) hb))) hb).mono (by omega)
 ·exact(const_ok (word_ok (tO9 h)) hb).mono (by omega)
theorem setT_ok{t:D.Term}(h:okM nb c m)(hb:b.toNat<nb):okM nb c (setT b t m):=h.setb (d:=0) (Nat.le_refl _)
theorem end_ok{l:List Int}(h:okM nb c m)(hb:b.toNat<nb):okM nb (c+40) (endS b l m):=by
 unfold endS;dsimp only
 repeat' split
 ·exact(setT_ok (tO9 (tO9 h)) hb).mono (by omega)
 ·exact(setT_ok (some_ok (tO9 h) hb) hb).mono (by omega)
 ·exact(setT_ok (tO9 h) hb).mono (by omega)
 ·exact(setT_ok h hb).mono (by omega)
 ·exact(setT_ok (add_ok (tO9 (fresh_ok (some_ok (tO9 (some_ok h hb)) hb))) hb) hb).mono (by omega)
 ·exact(setT_ok (tO9 (some_ok h hb)) hb).mono (by omega)
 ·exact(setT_ok (add_ok (fresh_ok (const_ok (some_ok h hb) hb)) hb) hb).mono (by omega)
theorem mem1_s:(mem1 b m).2.s=m.s:=by unfold mem1;dsimp only;split<;>simp only[addS_s,someS_s,constS_s,freshS,tSS]
theorem mem2_s:(mem2 m).2.s=m.s:=by unfold mem2;dsimp only;split<;>rfl
theorem memS_s{st:Bool}:(memS b st m).s=m.s:=by unfold memS;dsimp only;split<;>simp only[addS_s,someS_s,freshS,mem2_s,mem1_s]
theorem argsL_s:∀(n:Nat) (l:List Int) (m:Mk),(argsL b n l m).2.s=m.s
 | 0,_,_=>rfl
 | n+1,l,m=>by rw[argsL,argsL_s n,someS_s]
theorem insS_s:(insS b m).s=m.s:=by unfold insS;dsimp only;(repeat' split)<;>simp only[addS_s,someS_s,constS_s,freshS,tSS,memS_s,argsL_s,wordS]
theorem endS_s{l:List Int}:(endS b l m).s=m.s:=by unfold endS;dsimp only;(repeat' split)<;>simp only[setT,addS_s,someS_s,constS_s,freshS,tSS]
end
theorem E148:Ent Tryz.prog 148:=⟨_,Tryz.func148,by kernel_rfl,by kernel_rfl⟩
set_option maxRecDepth 4000 in
theorem m3mem_ct{vs vb al:Value}{m:Mk}{nb c:Nat}{S:List Int}{g0:Nat}{B0 B1:Nat}{qs:List BV}(hok:okS nb c S m)(hc:c≤950000)(b:Int)(st:Bool)(hb9:0≤b∧b<nb):KB Tryz.prog 150 [.int .i64 b,.bool st] [] g0 vs vb al S B0 B1 qs [] m (memS b st m) (.tuple #[]):=by
 refine jenter (args:=[.pointer (some ⟨g0,0,none⟩),.int .i64 b,.bool st]) Tryz.func150 rfl rfl rfl fun w0 X=>?_
 refine cgo k1 fun w1=>?_
 have bd0:=okM.bnd hok.1
 refine cbk k2 (okM.bnd hok.1).2.2.2.2.2.2.2.1 fun hvb=>?_
 have hbn:b.toNat<nb:=by omega
 refine jq (jr (jm Z (jm Z (jm Z (jkr E54 Z Z (m3take_ct hok (by omega) 9 (by first|exact hb9|decide|omega)) (dc d0 dn) (kd (kc k0 kn)) ⟨tO9 hok.1,hok.2⟩ fun m15 hm15 om15 bm15=>?_)))))
 have w15_0:IntKind.i64.wrap (tVV 9 m)=tVV 9 m:=(IntWalk.i64_in _ (by have h9:=@tV9 9 (by omega) m;omega))
 have tr15:=@tV9 9 (by omega) m
 clear bd0
 refine js (jco U3 U21 Z Z) (jkb E105 Z Z (m3const_ct om15 (by omega) b (IntKind.i32.wrap (tVV 9 m)) (by first|exact hb9|decide|omega) (JE.wrap_wrap _ _)) (dc d0 dn) (kd (kc k0 kn)) ⟨const_ok om15.1 hbn,(constS_s.trans om15.2)⟩ p1 fun m17 hm17 om17 bm17 ua17 qs17 w2=>?_)
 clear bm15
 refine ja Z (jn (jx (jq (jq (jr (jm Z (jkr E54 Z Z (m3take_ct om17 (by omega) 3 (by first|exact hb9|decide|omega)) (dc d1 dn) (kd (kc k0 kn)) ⟨tO9 om17.1,om17.2⟩ fun m19 hm19 om19 bm19=>?_)))))))
 have w19_0:IntKind.i64.wrap (tVV 3 m17)=tVV 3 m17:=(IntWalk.i64_in _ (by have h9:=@tV9 3 (by omega) m17;omega))
 have tr19:=@tV9 3 (by omega) m17
 clear bm17
 refine js (jeql Z Z) (jn (jx ?_))
 refine jif Z (fun hc1=>?_) (fun hc1=>?_)
 refine jq (jr (jm Z (jm Z (jkb E148 Z Z (m3some_ct om19 (by omega) b (by first|exact hb9|decide|omega)) (dc d1 dn) (kd (kc k0 kn)) ⟨some_ok om19.1 hbn,(someS_s.trans om19.2)⟩ p1 fun m23 hm23 om23 bm23 ua23 qs23 w4=>?_))))
 clear bm19
 refine ja Z (jn (jx (jq (jr (jm Z (jm Z (jkb E105 Z Z (m3const_ct om23 (by omega) b 7 (by first|exact hb9|decide|omega) (by decide)) (dc d2 dn) (kd (kc k0 kn)) ⟨const_ok om23.1 hbn,(constS_s.trans om23.2)⟩ p1 fun m26 hm26 om26 bm26 ua26 qs26 w6=>?_)))))))
 clear bm23
 refine ja Z (jn (jx (jq (jr (jm Z (jkr E99 Z Z (m3fresh_ct om26 (by omega)) (dc d3 dn) (kd (kc k0 kn)) ⟨fresh_ok om26.1,om26.2⟩ fun m28 hm28 om28 bm28=>?_))))))
 have w28_0:IntKind.i64.wrap (m26.nx)=m26.nx:=(IntWalk.i64_in _ (by omega))
 clear bm26
 refine ja Z (jn (jx (jq (jr (jm Z (jm Z (jm Z (jm Z (jm Z (jlit (r:=(rI .i64)) (l:=[sV9 m19,m23.nx]) U22 I3 (by decide) Z Z Z (lV Z Z (wI ((wfw d1))) (lV Z Z (wI ((wfw d0))) ln)) fun g34=>js (jbu (v := .agg #[.int .i64 5,.int .i64 m26.nx,.int .i64 0,(.slice (some ⟨g34,0,none⟩) 2 2),.int .i32 0]) Z (fun _=>by kernel_rfl)) ?_))))))))))
 refine jfz k0 (by(try simp)<;>omega) (jkb E149 Z Z (m3add_ct (i:=⟨5,m26.nx,0,[sV9 m19,m23.nx],0⟩) om28 (by omega) b (by first|exact hb9|decide|omega)) (dc d4 (dc (rIns.M (m:=⟨5,m26.nx,0,[sV9 m19,m23.nx],0⟩) (c:=(.slice (some ⟨g34,0,none⟩) 2 2)) d0 (wl 5) (wp w28_0) (wl 0) (wl 0)) dn)) (kd (kc k0 kn)) ⟨add_ok om28.1 hbn,(addS_s.trans om28.2)⟩ p0 fun m36 hm36 om36 bm36 ua36 qs36 w9=>?_)
 clear bm28
 refine jn (jx (jq (jr (jm Z (jkr E99 Z Z (m3fresh_ct om36 (by omega)) (dc d4 dn) (kd (kc k0 kn)) ⟨fresh_ok om36.1,om36.2⟩ fun m38 hm38 om38 bm38=>?_)))))
 have w38_0:IntKind.i64.wrap (m36.nx)=m36.nx:=(IntWalk.i64_in _ (by omega))
 clear bm36
 refine ja Z (jn (jx (jq (jr (jm Z (jm Z (jm Z (jm Z (jm Z (jlit (r:=(rI .i64)) (l:=[m15.nx,m26.nx]) U22 I3 (by decide) Z Z Z (lV Z Z (wI ((wfw d3))) (lV Z Z (wI (wp w28_0)) ln)) fun g44=>js (jbu (v := .agg #[.int .i64 2,.int .i64 m36.nx,.int .i64 0,(.slice (some ⟨g44,0,none⟩) 2 2),.int .i32 0]) Z (fun _=>by kernel_rfl)) ?_))))))))))
 refine jfz k0 (by(try simp)<;>omega) (jkb E149 Z Z (m3add_ct (i:=⟨2,m36.nx,0,[m15.nx,m26.nx],0⟩) om38 (by omega) b (by first|exact hb9|decide|omega)) (dc d5 (dc (rIns.M (m:=⟨2,m36.nx,0,[m15.nx,m26.nx],0⟩) (c:=(.slice (some ⟨g44,0,none⟩) 2 2)) d0 (wl 2) (wp w38_0) (wl 0) (wl 0)) dn)) (kd (kc k0 kn)) ⟨add_ok om38.1 hbn,(addS_s.trans om38.2)⟩ p0 fun m46 hm46 om46 bm46 ua46 qs46 w11=>?_)
 clear bm38
 refine jn (jx (jr (jm Z (ja Z (jn (jx (jq (jr (jm Z (jkr E54 Z Z (m3take_ct om46 (by omega) 4 (by first|exact hb9|decide|omega)) (dc d5 dn) (kd (kc k0 kn)) ⟨tO9 om46.1,om46.2⟩ fun m49 hm49 om49 bm49=>?_))))))))))
 have w49_0:IntKind.i64.wrap (tVV 4 m46)=tVV 4 m46:=(IntWalk.i64_in _ (by have h9:=@tV9 4 (by omega) m46;omega))
 have tr49:=@tV9 4 (by omega) m46
 clear bm46
 refine js (jco U3 U21 Z Z) (ja Z (jn (jx (jq (jq (jr (jm Z (jkr E54 Z Z (m3take_ct om49 (by omega) 12 (by first|exact hb9|decide|omega)) (dc d5 dn) (kd (kc k0 kn)) ⟨tO9 om49.1,om49.2⟩ fun m52 hm52 om52 bm52=>?_))))))))
 have w52_0:IntKind.i64.wrap (tVV 12 m49)=tVV 12 m49:=(IntWalk.i64_in _ (by have h9:=@tV9 12 (by omega) m49;omega))
 have tr52:=@tV9 12 (by omega) m49
 clear bm49
 refine js (jeql Z Z) (jn (jx ?_))
 refine jif Z (fun hc2=>?_) (fun hc2=>?_)
 refine jr (jm Z (jkr E53 Z Z (m3word_ct om52 (by omega)) (dc d5 dn) (kd (kc k0 kn)) ⟨word_ok om52.1,om52.2⟩ fun m55 hm55 om55 bm55=>?_))
 have w55_0:IntKind.i32.wrap (wordV m52)=wordV m52:=(word_w m52)
 clear bm52
 refine ja Z (jn (jx (jq (jr (jm Z (jn (jx ?_)))))))
 refine jif Z (fun hc3=>?_) (fun hc3=>?_)
 refine jr (jm Z (jm Z (jm Z (jm Z (jm Z (jkb E148 Z Z (m3some_ct om55 (by omega) b (by first|exact hb9|decide|omega)) (dc d5 dn) (kd (kc k0 kn)) ⟨some_ok om55.1 hbn,(someS_s.trans om55.2)⟩ p1 fun m62 hm62 om62 bm62 ua62 qs62 w12=>?_))))))
 clear bm55
 refine jlit (r:=(rI .i64)) (l:=[m36.nx,sV9 m55]) U22 I3 (by decide) Z Z Z (lV Z Z (wI (wp w38_0)) (lV Z Z (wI ((wfw d0))) ln)) fun g63=>jm Z (js (jbu (v := .agg #[.int .i64 16,.int .i64 0,.int .i64 0,(.slice (some ⟨g63,0,none⟩) 2 2),.int .i32 (wordV m52)]) Z (fun _=>by kernel_rfl)) (jfz k0 (by(try simp)<;>omega) (jkb E149 Z Z (m3add_ct (i:=⟨16,0,0,[m36.nx,sV9 m55],wordV m52⟩) om62 (by omega) b (by first|exact hb9|decide|omega)) (dc d7 (dc (rIns.M (m:=⟨16,0,0,[m36.nx,sV9 m55],wordV m52⟩) (c:=(.slice (some ⟨g63,0,none⟩) 2 2)) d0 (wl 16) (wl 0) (wl 0) (wp w55_0)) dn)) (kd (kc k0 kn)) ⟨add_ok om62.1 hbn,(addS_s.trans om62.2)⟩ p0 fun m66 hm66 om66 bm66 ua66 qs66 w15=>?_)))
 clear bm62
 refine jn ?_
 have hst:m66=memS b st m:=(by(try simp only[hm15,hm17,hm19,hm23,hm26,hm28,hm36,hm38,hm46,hm49,hm52,hm55,hm62,hm66] at hc1 hc2 hc3);(try simp only[hm15,hm17,hm19,hm23,hm26,hm28,hm36,hm38,hm46,hm49,hm52,hm55,hm62,hm66]);all_goals first|rfl|(simp[memS,mem1,mem2,hc1,hc2,hc3];done)|(simp[memS,mem1,mem2,hc1,hc2,hc3];rfl)|(unfold memS mem1 mem2;(repeat' split)<;>first|rfl|(exfalso;omega)|(simp[hc1,hc2,hc3] at *;done)|(simp_all;done)))
 exact jd0 Z (ua66,qs66) Z dn (fun _ _=>(kcb (by rw[←hst]) k0 (kcg (by rw[←hst]) k0 (kck (by rw[←hst]) k0 kn))))
 refine jr (jm Z (jm Z (jm Z (jkr E99 Z Z (m3fresh_ct om55 (by omega)) (dc d5 dn) (kd (kc k0 kn)) ⟨fresh_ok om55.1,om55.2⟩ fun m70 hm70 om70 bm70=>?_))))
 have w70_0:IntKind.i64.wrap (m55.nx)=m55.nx:=(IntWalk.i64_in _ (by omega))
 clear bm55
 refine jm Z (jlit (r:=(rI .i64)) (l:=[m36.nx]) U22 I3 (by decide) Z Z Z (lV Z Z (wI (wp w38_0)) ln) fun g72=>jm Z (js (jbu (v := .agg #[.int .i64 15,.int .i64 m55.nx,.int .i64 0,(.slice (some ⟨g72,0,none⟩) 1 1),.int .i32 (wordV m52)]) Z (fun _=>by kernel_rfl)) (jfz k0 (by(try simp)<;>omega) (jkb E149 Z Z (m3add_ct (i:=⟨15,m55.nx,0,[m36.nx],wordV m52⟩) om70 (by omega) b (by first|exact hb9|decide|omega)) (dc d6 (dc (rIns.M (m:=⟨15,m55.nx,0,[m36.nx],wordV m52⟩) (c:=(.slice (some ⟨g72,0,none⟩) 1 1)) d0 (wl 15) (wp w70_0) (wl 0) (wp w55_0)) dn)) (kd (kc k0 kn)) ⟨add_ok om70.1 hbn,(addS_s.trans om70.2)⟩ p0 fun m75 hm75 om75 bm75 ua75 qs75 w17=>?_))))
 clear bm70
 refine jn ?_
 have hst:m75=memS b st m:=(by(try simp only[hm15,hm17,hm19,hm23,hm26,hm28,hm36,hm38,hm46,hm49,hm52,hm55,hm70,hm75] at hc1 hc2 hc3);(try simp only[hm15,hm17,hm19,hm23,hm26,hm28,hm36,hm38,hm46,hm49,hm52,hm55,hm70,hm75]);all_goals first|rfl|(simp[memS,mem1,mem2,hc1,hc2,hc3];done)|(simp[memS,mem1,mem2,hc1,hc2,hc3];rfl)|(unfold memS mem1 mem2;(repeat' split)<;>first|rfl|(exfalso;omega)|(simp[hc1,hc2,hc3] at *;done)|(simp_all;done)))
 exact jd0 Z (ua75,qs75) Z dn (fun _ _=>(kcb (by rw[←hst]) k0 (kcg (by rw[←hst]) k0 (kck (by rw[←hst]) k0 kn))))
 refine jsk (jx (jq (jr (jm Z (jn (jx ?_))))))
 refine jif Z (fun hc4=>?_) (fun hc4=>?_)
 refine jr (jm Z (jm Z (jm Z (jm Z (jm Z (jkb E148 Z Z (m3some_ct om52 (by omega) b (by first|exact hb9|decide|omega)) (dc d5 dn) (kd (kc k0 kn)) ⟨some_ok om52.1 hbn,(someS_s.trans om52.2)⟩ p1 fun m62 hm62 om62 bm62 ua62 qs62 w18=>?_))))))
 clear bm52
 refine jlit (r:=(rI .i64)) (l:=[m36.nx,sV9 m52]) U22 I3 (by decide) Z Z Z (lV Z Z (wI (wp w38_0)) (lV Z Z (wI ((wfw d0))) ln)) fun g63_20=>jm Z (js (jbu (v := .agg #[.int .i64 16,.int .i64 0,.int .i64 0,(.slice (some ⟨g63_20,0,none⟩) 2 2),.int .i32 (IntKind.i32.wrap (tVV 4 m46))]) Z (fun _=>by kernel_rfl)) (jfz k0 (by(try simp)<;>omega) (jkb E149 Z Z (m3add_ct (i:=⟨16,0,0,[m36.nx,sV9 m52],IntKind.i32.wrap (tVV 4 m46)⟩) om62 (by omega) b (by first|exact hb9|decide|omega)) (dc d7 (dc (rIns.M (m:=⟨16,0,0,[m36.nx,sV9 m52],IntKind.i32.wrap (tVV 4 m46)⟩) (c:=(.slice (some ⟨g63_20,0,none⟩) 2 2)) d0 (wl 16) (wl 0) (wl 0) (wp (JE.wrap_wrap _ _))) dn)) (kd (kc k0 kn)) ⟨add_ok om62.1 hbn,(addS_s.trans om62.2)⟩ p0 fun m66 hm66 om66 bm66 ua66 qs66 w22=>?_)))
 clear bm62
 refine jn ?_
 have hst:m66=memS b st m:=(by(try simp only[hm15,hm17,hm19,hm23,hm26,hm28,hm36,hm38,hm46,hm49,hm52,hm62,hm66] at hc1 hc2 hc4);(try simp only[hm15,hm17,hm19,hm23,hm26,hm28,hm36,hm38,hm46,hm49,hm52,hm62,hm66]);all_goals first|rfl|(simp[memS,mem1,mem2,hc1,hc2,hc4];done)|(simp[memS,mem1,mem2,hc1,hc2,hc4];rfl)|(unfold memS mem1 mem2;(repeat' split)<;>first|rfl|(exfalso;omega)|(simp[hc1,hc2,hc4] at *;done)|(simp_all;done)))
 exact jd0 Z (ua66,qs66) Z dn (fun _ _=>(kcb (by rw[←hst]) k0 (kcg (by rw[←hst]) k0 (kck (by rw[←hst]) k0 kn))))
 refine jr (jm Z (jm Z (jm Z (jkr E99 Z Z (m3fresh_ct om52 (by omega)) (dc d5 dn) (kd (kc k0 kn)) ⟨fresh_ok om52.1,om52.2⟩ fun m70 hm70 om70 bm70=>?_))))
 have w70_0:IntKind.i64.wrap (m52.nx)=m52.nx:=(IntWalk.i64_in _ (by omega))
 clear bm52
 refine jm Z (jlit (r:=(rI .i64)) (l:=[m36.nx]) U22 I3 (by decide) Z Z Z (lV Z Z (wI (wp w38_0)) ln) fun g72_23=>jm Z (js (jbu (v := .agg #[.int .i64 15,.int .i64 m52.nx,.int .i64 0,(.slice (some ⟨g72_23,0,none⟩) 1 1),.int .i32 (IntKind.i32.wrap (tVV 4 m46))]) Z (fun _=>by kernel_rfl)) (jfz k0 (by(try simp)<;>omega) (jkb E149 Z Z (m3add_ct (i:=⟨15,m52.nx,0,[m36.nx],IntKind.i32.wrap (tVV 4 m46)⟩) om70 (by omega) b (by first|exact hb9|decide|omega)) (dc d6 (dc (rIns.M (m:=⟨15,m52.nx,0,[m36.nx],IntKind.i32.wrap (tVV 4 m46)⟩) (c:=(.slice (some ⟨g72_23,0,none⟩) 1 1)) d0 (wl 15) (wp w70_0) (wl 0) (wp (JE.wrap_wrap _ _))) dn)) (kd (kc k0 kn)) ⟨add_ok om70.1 hbn,(addS_s.trans om70.2)⟩ p0 fun m75 hm75 om75 bm75 ua75 qs75 w25=>?_))))
 clear bm70
 refine jn ?_
 have hst:m75=memS b st m:=(by(try simp only[hm15,hm17,hm19,hm23,hm26,hm28,hm36,hm38,hm46,hm49,hm52,hm70,hm75] at hc1 hc2 hc4);(try simp only[hm15,hm17,hm19,hm23,hm26,hm28,hm36,hm38,hm46,hm49,hm52,hm70,hm75]);all_goals first|rfl|(simp[memS,mem1,mem2,hc1,hc2,hc4];done)|(simp[memS,mem1,mem2,hc1,hc2,hc4];rfl)|(unfold memS mem1 mem2;(repeat' split)<;>first|rfl|(exfalso;omega)|(simp[hc1,hc2,hc4] at *;done)|(simp_all;done)))
 exact jd0 Z (ua75,qs75) Z dn (fun _ _=>(kcb (by rw[←hst]) k0 (kcg (by rw[←hst]) k0 (kck (by rw[←hst]) k0 kn))))
 refine jsk (jx (jq (jr (jm Z (jkr E54 Z Z (m3take_ct om19 (by omega) 4 (by first|exact hb9|decide|omega)) (dc d1 dn) (kd (kc k0 kn)) ⟨tO9 om19.1,om19.2⟩ fun m49 hm49 om49 bm49=>?_)))))
 have w49_0:IntKind.i64.wrap (tVV 4 m19)=tVV 4 m19:=(IntWalk.i64_in _ (by have h9:=@tV9 4 (by omega) m19;omega))
 have tr49:=@tV9 4 (by omega) m19
 clear bm19
 refine js (jco U3 U21 Z Z) (ja Z (jn (jx (jq (jq (jr (jm Z (jkr E54 Z Z (m3take_ct om49 (by omega) 12 (by first|exact hb9|decide|omega)) (dc d1 dn) (kd (kc k0 kn)) ⟨tO9 om49.1,om49.2⟩ fun m52 hm52 om52 bm52=>?_))))))))
 have w52_0:IntKind.i64.wrap (tVV 12 m49)=tVV 12 m49:=(IntWalk.i64_in _ (by have h9:=@tV9 12 (by omega) m49;omega))
 have tr52:=@tV9 12 (by omega) m49
 clear bm49
 refine js (jeql Z Z) (jn (jx ?_))
 refine jif Z (fun hc5=>?_) (fun hc5=>?_)
 refine jr (jm Z (jkr E53 Z Z (m3word_ct om52 (by omega)) (dc d1 dn) (kd (kc k0 kn)) ⟨word_ok om52.1,om52.2⟩ fun m55 hm55 om55 bm55=>?_))
 have w55_0:IntKind.i32.wrap (wordV m52)=wordV m52:=(word_w m52)
 clear bm52
 refine ja Z (jn (jx (jq (jr (jm Z (jn (jx ?_)))))))
 refine jif Z (fun hc6=>?_) (fun hc6=>?_)
 refine jr (jm Z (jm Z (jm Z (jm Z (jm Z (jkb E148 Z Z (m3some_ct om55 (by omega) b (by first|exact hb9|decide|omega)) (dc d1 dn) (kd (kc k0 kn)) ⟨some_ok om55.1 hbn,(someS_s.trans om55.2)⟩ p1 fun m62 hm62 om62 bm62 ua62 qs62 w26=>?_))))))
 clear bm55
 refine jlit (r:=(rI .i64)) (l:=[m15.nx,sV9 m55]) U22 I3 (by decide) Z Z Z (lV Z Z (wI ((wfw d1))) (lV Z Z (wI ((wfw d0))) ln)) fun g63_28=>jm Z (js (jbu (v := .agg #[.int .i64 16,.int .i64 0,.int .i64 0,(.slice (some ⟨g63_28,0,none⟩) 2 2),.int .i32 (wordV m52)]) Z (fun _=>by kernel_rfl)) (jfz k0 (by(try simp)<;>omega) (jkb E149 Z Z (m3add_ct (i:=⟨16,0,0,[m15.nx,sV9 m55],wordV m52⟩) om62 (by omega) b (by first|exact hb9|decide|omega)) (dc d3 (dc (rIns.M (m:=⟨16,0,0,[m15.nx,sV9 m55],wordV m52⟩) (c:=(.slice (some ⟨g63_28,0,none⟩) 2 2)) d0 (wl 16) (wl 0) (wl 0) (wp w55_0)) dn)) (kd (kc k0 kn)) ⟨add_ok om62.1 hbn,(addS_s.trans om62.2)⟩ p0 fun m66 hm66 om66 bm66 ua66 qs66 w30=>?_)))
 clear bm62
 refine jn ?_
 have hst:m66=memS b st m:=(by(try simp only[hm15,hm17,hm19,hm49,hm52,hm55,hm62,hm66] at hc1 hc5 hc6);(try simp only[hm15,hm17,hm19,hm49,hm52,hm55,hm62,hm66]);all_goals first|rfl|(simp[memS,mem1,mem2,hc1,hc5,hc6];done)|(simp[memS,mem1,mem2,hc1,hc5,hc6];rfl)|(unfold memS mem1 mem2;(repeat' split)<;>first|rfl|(exfalso;omega)|(simp[hc1,hc5,hc6] at *;done)|(simp_all;done)))
 exact jd0 Z (ua66,qs66) Z dn (fun _ _=>(kcb (by rw[←hst]) k0 (kcg (by rw[←hst]) k0 (kck (by rw[←hst]) k0 kn))))
 refine jr (jm Z (jm Z (jm Z (jkr E99 Z Z (m3fresh_ct om55 (by omega)) (dc d1 dn) (kd (kc k0 kn)) ⟨fresh_ok om55.1,om55.2⟩ fun m70 hm70 om70 bm70=>?_))))
 have w70_0:IntKind.i64.wrap (m55.nx)=m55.nx:=(IntWalk.i64_in _ (by omega))
 clear bm55
 refine jm Z (jlit (r:=(rI .i64)) (l:=[m15.nx]) U22 I3 (by decide) Z Z Z (lV Z Z (wI ((wfw d0))) ln) fun g72_31=>jm Z (js (jbu (v := .agg #[.int .i64 15,.int .i64 m55.nx,.int .i64 0,(.slice (some ⟨g72_31,0,none⟩) 1 1),.int .i32 (wordV m52)]) Z (fun _=>by kernel_rfl)) (jfz k0 (by(try simp)<;>omega) (jkb E149 Z Z (m3add_ct (i:=⟨15,m55.nx,0,[m15.nx],wordV m52⟩) om70 (by omega) b (by first|exact hb9|decide|omega)) (dc d2 (dc (rIns.M (m:=⟨15,m55.nx,0,[m15.nx],wordV m52⟩) (c:=(.slice (some ⟨g72_31,0,none⟩) 1 1)) d0 (wl 15) (wp w70_0) (wl 0) (wp w55_0)) dn)) (kd (kc k0 kn)) ⟨add_ok om70.1 hbn,(addS_s.trans om70.2)⟩ p0 fun m75 hm75 om75 bm75 ua75 qs75 w33=>?_))))
 clear bm70
 refine jn ?_
 have hst:m75=memS b st m:=(by(try simp only[hm15,hm17,hm19,hm49,hm52,hm55,hm70,hm75] at hc1 hc5 hc6);(try simp only[hm15,hm17,hm19,hm49,hm52,hm55,hm70,hm75]);all_goals first|rfl|(simp[memS,mem1,mem2,hc1,hc5,hc6];done)|(simp[memS,mem1,mem2,hc1,hc5,hc6];rfl)|(unfold memS mem1 mem2;(repeat' split)<;>first|rfl|(exfalso;omega)|(simp[hc1,hc5,hc6] at *;done)|(simp_all;done)))
 exact jd0 Z (ua75,qs75) Z dn (fun _ _=>(kcb (by rw[←hst]) k0 (kcg (by rw[←hst]) k0 (kck (by rw[←hst]) k0 kn))))
 refine jsk (jx (jq (jr (jm Z (jn (jx ?_))))))
 refine jif Z (fun hc7=>?_) (fun hc7=>?_)
 refine jr (jm Z (jm Z (jm Z (jm Z (jm Z (jkb E148 Z Z (m3some_ct om52 (by omega) b (by first|exact hb9|decide|omega)) (dc d1 dn) (kd (kc k0 kn)) ⟨some_ok om52.1 hbn,(someS_s.trans om52.2)⟩ p1 fun m62 hm62 om62 bm62 ua62 qs62 w34=>?_))))))
 clear bm52
 refine jlit (r:=(rI .i64)) (l:=[m15.nx,sV9 m52]) U22 I3 (by decide) Z Z Z (lV Z Z (wI ((wfw d1))) (lV Z Z (wI ((wfw d0))) ln)) fun g63_36=>jm Z (js (jbu (v := .agg #[.int .i64 16,.int .i64 0,.int .i64 0,(.slice (some ⟨g63_36,0,none⟩) 2 2),.int .i32 (IntKind.i32.wrap (tVV 4 m19))]) Z (fun _=>by kernel_rfl)) (jfz k0 (by(try simp)<;>omega) (jkb E149 Z Z (m3add_ct (i:=⟨16,0,0,[m15.nx,sV9 m52],IntKind.i32.wrap (tVV 4 m19)⟩) om62 (by omega) b (by first|exact hb9|decide|omega)) (dc d3 (dc (rIns.M (m:=⟨16,0,0,[m15.nx,sV9 m52],IntKind.i32.wrap (tVV 4 m19)⟩) (c:=(.slice (some ⟨g63_36,0,none⟩) 2 2)) d0 (wl 16) (wl 0) (wl 0) (wp (JE.wrap_wrap _ _))) dn)) (kd (kc k0 kn)) ⟨add_ok om62.1 hbn,(addS_s.trans om62.2)⟩ p0 fun m66 hm66 om66 bm66 ua66 qs66 w38=>?_)))
 clear bm62
 refine jn ?_
 have hst:m66=memS b st m:=(by(try simp only[hm15,hm17,hm19,hm49,hm52,hm62,hm66] at hc1 hc5 hc7);(try simp only[hm15,hm17,hm19,hm49,hm52,hm62,hm66]);all_goals first|rfl|(simp[memS,mem1,mem2,hc1,hc5,hc7];done)|(simp[memS,mem1,mem2,hc1,hc5,hc7];rfl)|(unfold memS mem1 mem2;(repeat' split)<;>first|rfl|(exfalso;omega)|(simp[hc1,hc5,hc7] at *;done)|(simp_all;done)))
 exact jd0 Z (ua66,qs66) Z dn (fun _ _=>(kcb (by rw[←hst]) k0 (kcg (by rw[←hst]) k0 (kck (by rw[←hst]) k0 kn))))
 refine jr (jm Z (jm Z (jm Z (jkr E99 Z Z (m3fresh_ct om52 (by omega)) (dc d1 dn) (kd (kc k0 kn)) ⟨fresh_ok om52.1,om52.2⟩ fun m70 hm70 om70 bm70=>?_))))
 have w70_0:IntKind.i64.wrap (m52.nx)=m52.nx:=(IntWalk.i64_in _ (by omega))
 clear bm52
 refine jm Z (jlit (r:=(rI .i64)) (l:=[m15.nx]) U22 I3 (by decide) Z Z Z (lV Z Z (wI ((wfw d0))) ln) fun g72_39=>jm Z (js (jbu (v := .agg #[.int .i64 15,.int .i64 m52.nx,.int .i64 0,(.slice (some ⟨g72_39,0,none⟩) 1 1),.int .i32 (IntKind.i32.wrap (tVV 4 m19))]) Z (fun _=>by kernel_rfl)) (jfz k0 (by(try simp)<;>omega) (jkb E149 Z Z (m3add_ct (i:=⟨15,m52.nx,0,[m15.nx],IntKind.i32.wrap (tVV 4 m19)⟩) om70 (by omega) b (by first|exact hb9|decide|omega)) (dc d2 (dc (rIns.M (m:=⟨15,m52.nx,0,[m15.nx],IntKind.i32.wrap (tVV 4 m19)⟩) (c:=(.slice (some ⟨g72_39,0,none⟩) 1 1)) d0 (wl 15) (wp w70_0) (wl 0) (wp (JE.wrap_wrap _ _))) dn)) (kd (kc k0 kn)) ⟨add_ok om70.1 hbn,(addS_s.trans om70.2)⟩ p0 fun m75 hm75 om75 bm75 ua75 qs75 w41=>?_))))
 clear bm70
 refine jn ?_
 have hst:m75=memS b st m:=(by(try simp only[hm15,hm17,hm19,hm49,hm52,hm70,hm75] at hc1 hc5 hc7);(try simp only[hm15,hm17,hm19,hm49,hm52,hm70,hm75]);all_goals first|rfl|(simp[memS,mem1,mem2,hc1,hc5,hc7];done)|(simp[memS,mem1,mem2,hc1,hc5,hc7];rfl)|(unfold memS mem1 mem2;(repeat' split)<;>first|rfl|(exfalso;omega)|(simp[hc1,hc5,hc7] at *;done)|(simp_all;done)))
 exact jd0 Z (ua75,qs75) Z dn (fun _ _=>(kcb (by rw[←hst]) k0 (kcg (by rw[←hst]) k0 (kck (by rw[←hst]) k0 kn))))
abbrev U23:=@Tryz.underlying23
theorem A158:∃d,Tryz.prog.underlying 158=some d∧(match d with | .struct _ | .array _ _=>true|_=>false)=true:=⟨_,Tryz.underlying158,rfl⟩
theorem F158_0:Fld Tryz.prog 158 0 0:=⟨_,_,Tryz.underlying158,rfl,rfl,1,(by unfold Sz;kernel_rfl),by decide⟩
theorem F158_1:Fld Tryz.prog 158 1 1:=⟨_,_,Tryz.underlying158,rfl,rfl,1,(by unfold Sz;kernel_rfl),by decide⟩
theorem F158_2:Fld Tryz.prog 158 2 2:=⟨_,_,Tryz.underlying158,rfl,rfl,1,(by unfold Sz;kernel_rfl),by decide⟩
theorem F158_3:Fld Tryz.prog 158 3 3:=⟨_,_,Tryz.underlying158,rfl,rfl,1,(by unfold Sz;kernel_rfl),by decide⟩
theorem F160_2:Fld Tryz.prog 160 2 2:=⟨_,_,Tryz.underlying160,rfl,rfl,4,(by unfold Sz;kernel_rfl),by decide⟩
theorem Z158:Sz Tryz.prog 158 4:=by unfold Sz;kernel_rfl
theorem Z23:Sz Tryz.prog 23 3:=by unfold Sz;kernel_rfl
theorem J158:(Tryz.prog.info? 158).bind (·.zero)=some (.agg #[.int .i64 0,.slice none 0 0,.slice none 0 0,.int .i32 0]):=by kernel_rfl
theorem J23:(Tryz.prog.info? 23).bind (·.zero)=some (.agg #[.int .i64 0,.int .i64 0,.int .i64 0]):=by kernel_rfl
set_option maxRecDepth 4000 in
theorem m3end_ct{vs vb al:Value}{m:Mk}{nb c:Nat}{S:List Int}{g0:Nat}{B0 B1:Nat}{qs:List BV}(hok:okS nb c S m)(hc:c≤950000)(b:Int){a2:Value}{l:List Int}(hb9:0≤b∧b<nb):KB Tryz.prog 103 [.int .i64 b,a2] [dv (rL (rI .i64)) a2 l] g0 vs vb al S B0 B1 qs [] m (endS b l m) (.tuple #[]):=by
 refine jenter (args:=[.pointer (some ⟨g0,0,none⟩),.int .i64 b,a2]) Tryz.func103 rfl rfl rfl fun w0 X=>?_
 refine cgo k1 fun w1=>?_
 have bd0:=okM.bnd hok.1
 refine cbk k2 (okM.bnd hok.1).2.2.2.2.2.2.2.1 fun hvb=>?_
 have hbn:b.toNat<nb:=by omega
 refine jq (jr (js (jbu (v := .agg #[.int .i64 0,.slice none 0 0,.slice none 0 0,.int .i32 0]) Z (fun _=>by kernel_rfl)) (jalc J158 Z fun g6=>jsta k0 Z158 Z Z Z ⟨Z,Z,Z,Z,trivial⟩ (saf Z) (jn (jx (jq (jq (jr (jm Z (jdq d1 fun q2 w2=>?_))))))))))
 refine js (jln U22 d1 Z) (jn (jx (jb (jq (jr (js (jeql Z Z) (ja Z (jn (jx ?_)))))))))
 refine jif Z (fun hc1=>?_) (fun hc1=>?_)
 refine jq (jr (js (jf F158_0 Z) (jst k0 Z3 Z Z Z s0 (jn (jx (jq (jr (jm Z (jkr E54 Z Z (m3take_ct hok (by omega) 8 (by first|exact hb9|decide|omega)) (dc d0 dn) (kc k1 (kc k1 (kc k1 kn))) ⟨tO9 hok.1,hok.2⟩ fun m44 hm44 om44 bm44=>?_)))))))))
 have w44_0:IntKind.i64.wrap (tVV 8 m)=tVV 8 m:=(IntWalk.i64_in _ (by have h9:=@tV9 8 (by omega) m;omega))
 have tr44:=@tV9 8 (by omega) m
 clear bd0
 refine ja Z (jn (jx (jq (jr (jm Z (js (jeql Z Z) (jn (jx ?_))))))))
 refine jif Z (fun hc2=>?_) (fun hc2=>?_)
 refine jq (jr (js (jf F158_0 Z) (jst k3 Z3 Z Z Z s0 (jn (jx (jr (jm Z (jkr E54 Z Z (m3take_ct om44 (by omega) 200 (by first|exact hb9|decide|omega)) (dc d0 dn) (kc k1 (kc k1 (kc k1 kn))) ⟨tO9 om44.1,om44.2⟩ fun m49 hm49 om49 bm49=>?_))))))))
 have w49_0:IntKind.i64.wrap (tVV 200 m44)=tVV 200 m44:=(IntWalk.i64_in _ (by have h9:=@tV9 200 (by omega) m44;omega))
 have tr49:=@tV9 200 (by omega) m44
 clear bm44
 refine js (jco U3 U21 Z Z) (js (jf F158_3 Z) (jst k3 Z21 Z Z Z s3 (jn (jbn (jx (jtl 9 Mixed (by kernel_rfl) (jt (jmv Z) (jt (jnil Z) (jt (jf F106_2 Z) (jt (jf F104_1 Z) (jt (jl k1 O102 Z Z) ?_)))))))))))
 refine jt (jmv Z) (jt (jla k0 A158 Z158 Z Z Z) (jt (jbi' (j:=(Int.toNat b)) U102 Z160 hvb Z Z (by omega) (by omega)) (jt (jf F160_2 Z) (jtt (jbT k3 (by omega) Z158 Z Z Z Z ⟨Z,Z,Z,Z,trivial⟩ (rTerm.M (m:=⟨5,[],[],IntKind.i32.wrap (tVV 200 m44)⟩) (c:=(.slice none 0 0,.slice none 0 0)) wN wN (wl 5) (wp (JE.wrap_wrap _ _))) (jkn (c:=c+2) ({ m49 with bs:=List.set m49.bs (Int.toNat b) { (ix m49.bs (Int.toNat b)) with Term:=⟨5,[],[],IntKind.i32.wrap (tVV 200 m44)⟩ } }) (kc k2 (kc k2 (kc k0 kn))) ⟨(okM.setb (d:=0) om49.1 (Nat.le_refl _)),om49.2⟩ fun ms3 hms3 oms3 bms3=>?_))))))
 clear bm49
 refine jn ?_
 have hst:ms3=endS b l m:=(by(try simp only[hm44,hm49,hms3] at hc1 hc2);(try simp only[hm44,hm49,hms3]);all_goals first|rfl|(simp[endS,setT,hc1,hc2];done)|(simp[endS,setT,hc1,hc2];rfl)|(unfold endS setT;(repeat' split)<;>first|rfl|(exfalso;omega)|(simp[hc1,hc2] at *;done)|(simp_all;done)))
 exact jd0 Z (al,List.set qs (Int.toNat b) { (ix qs (Int.toNat b)) with T:=⟨5,[],[],IntKind.i32.wrap (tVV 200 m44)⟩ }) Z dn (fun _ _=>(kcb (by rw[←hst]) k0 (kcg (by rw[←hst]) k0 (kck (by rw[←hst]) k0 kn))))
 refine jq (jr (jm Z (js (jgtr Z Z) (jn (jx ?_)))))
 refine jif Z (fun hc3=>?_) (fun hc3=>?_)
 refine jr (jm Z (jm Z (jkb E148 Z Z (m3some_ct om44 (by omega) b (by first|exact hb9|decide|omega)) (dc d0 dn) (kd (kc k0 kn)) ⟨some_ok om44.1 hbn,(someS_s.trans om44.2)⟩ p1 fun m56 hm56 om56 bm56 ua56 qs56 w4=>?_)))
 clear bm44
 refine jlit (r:=(rI .i64)) (l:=[sV9 m44]) U22 I3 (by decide) Z Z Z (lV Z Z (wI ((wfw d0))) ln) fun g57=>js (jf F158_1 Z) (jst k4 Z22 Z Z Z s1 (jn (jbn (jx (jtl 9 Mixed (by kernel_rfl) (jt (jmv Z) (jt (jnil Z) (jt (jf F106_2 Z) (jt (jf F104_1 Z) (jt (jl k2 O102 Z Z) ?_))))))))))
 refine jt (jmv Z) (jt (jla k0 A158 Z158 Z Z Z) (jt (jbi' (j:=(Int.toNat b)) U102 Z160 hvb Z Z (by omega) (by omega)) (jt (jf F160_2 Z) (jtt (jfz k1 (by(try simp)<;>omega) (jbT k3 (by omega) Z158 Z Z Z Z ⟨Z,Z,Z,Z,trivial⟩ (rTerm.M (m:=⟨4,[sV9 m44],[],0⟩) (c:=((.slice (some ⟨g57,0,none⟩) 1 1),.slice none 0 0)) d0 wN (wl 4) (wl 0)) (jkn (c:=c+9) ({ m56 with bs:=List.set m56.bs (Int.toNat b) { (ix m56.bs (Int.toNat b)) with Term:=⟨4,[sV9 m44],[],0⟩ } }) (kc k2 (kc k2 (kc k0 kn))) ⟨(okM.setb (d:=0) om56.1 (Nat.le_refl _)),om56.2⟩ fun ms7 hms7 oms7 bms7=>?_)))))))
 clear bm56
 refine jn ?_
 have hst:ms7=endS b l m:=(by(try simp only[hm44,hm56,hms7] at hc1 hc2 hc3);(try simp only[hm44,hm56,hms7]);all_goals first|rfl|(simp[endS,setT,hc1,hc2,hc3];done)|(simp[endS,setT,hc1,hc2,hc3];rfl)|(unfold endS setT;(repeat' split)<;>first|rfl|(exfalso;omega)|(simp[hc1,hc2,hc3] at *;done)|(simp_all;done)))
 exact jd0 Z (ua56,List.set qs56 (Int.toNat b) { (ix qs56 (Int.toNat b)) with T:=⟨4,[sV9 m44],[],0⟩ }) Z dn (fun _ _=>(kcb (by rw[←hst]) k0 (kcg (by rw[←hst]) k0 (kck (by rw[←hst]) k0 kn))))
 refine jsk (jbn (jx (jtl 9 Mixed (by kernel_rfl) (jt (jmv Z) (jt (jnil Z) (jt (jf F106_2 Z) (jt (jf F104_1 Z) (jt (jl k0 O102 Z Z) (jt (jmv Z) (jt (jla k3 A158 Z158 Z Z Z) (jt (jbi' (j:=(Int.toNat b)) U102 Z160 hvb Z Z (by omega) (by omega)) ?_)))))))))))
 refine jt (jf F160_2 Z) (jtt (jbT k2 (by omega) Z158 Z Z Z Z ⟨Z,Z,Z,Z,trivial⟩ (rTerm.M (m:=⟨4,[],[],0⟩) (c:=(.slice none 0 0,.slice none 0 0)) wN wN (wl 4) (wl 0)) (jkn (c:=c+1) ({ m44 with bs:=List.set m44.bs (Int.toNat b) { (ix m44.bs (Int.toNat b)) with Term:=⟨4,[],[],0⟩ } }) (kc k1 (kc k1 (kc k0 kn))) ⟨(okM.setb (d:=0) om44.1 (Nat.le_refl _)),om44.2⟩ fun ms8 hms8 oms8 bms8=>?_)))
 clear bm44
 refine jn ?_
 have hst:ms8=endS b l m:=(by(try simp only[hm44,hms8] at hc1 hc2 hc3);(try simp only[hm44,hms8]);all_goals first|rfl|(simp[endS,setT,hc1,hc2,hc3];done)|(simp[endS,setT,hc1,hc2,hc3];rfl)|(unfold endS setT;(repeat' split)<;>first|rfl|(exfalso;omega)|(simp[hc1,hc2,hc3] at *;done)|(simp_all;done)))
 exact jd0 Z (al,List.set qs (Int.toNat b) { (ix qs (Int.toNat b)) with T:=⟨4,[],[],0⟩ }) Z dn (fun _ _=>(kcb (by rw[←hst]) k0 (kcg (by rw[←hst]) k0 (kck (by rw[←hst]) k0 kn))))
 refine jq (jr (js (jeql Z Z) (ja Z (jn (jx ?_)))))
 refine jif Z (fun hc4=>?_) (fun hc4=>?_)
 refine jq (jr (js (jf F158_0 Z) (jst k0 Z3 Z Z Z s0 (jn (jx (jr (jm Z (js (jf F158_2 Z) (jst k0 Z22 Z Z w2.one s2 (jn (jbn ?_)))))))))))
 refine jx (jtl 9 Mixed (by kernel_rfl) (jt (jmv Z) (jt (jnil Z) (jt (jf F106_2 Z) (jt (jf F104_1 Z) (jt (jl k1 O102 Z Z) (jt (jmv Z) (jt (jla k0 A158 Z158 Z Z Z) (jt (jbi' (j:=(Int.toNat b)) U102 Z160 hvb Z Z (by omega) (by omega)) (jt (jf F160_2 Z) (jtt ?_)))))))))))
 refine jbT k3 (by omega) Z158 Z Z Z Z ⟨Z,Z,w2.one,Z,trivial⟩ (rTerm.M (m:=⟨1,[],l,0⟩) (c:=(.slice none 0 0,a2)) wN d1 (wl 1) (wl 0)) (jkn (c:=c) ({ m with bs:=List.set m.bs (Int.toNat b) { (ix m.bs (Int.toNat b)) with Term:=⟨1,[],l,0⟩ } }) (kc k2 (kc k2 (kc k0 kn))) ⟨(okM.setb (d:=0) hok.1 (Nat.le_refl _)),hok.2⟩ fun ms9 hms9 oms9 bms9=>?_)
 clear bd0
 refine jn ?_
 have hst:ms9=endS b l m:=(by(try simp only[hms9] at hc1 hc4);(try simp only[hms9]);all_goals first|rfl|(simp[endS,setT,hc1,hc4];done)|(simp[endS,setT,hc1,hc4];rfl)|(unfold endS setT;(repeat' split)<;>first|rfl|(exfalso;omega)|(simp[hc1,hc4] at *;done)|(simp_all;done)))
 exact jd0 Z (al,List.set qs (Int.toNat b) { (ix qs (Int.toNat b)) with T:=⟨1,[],l,0⟩ }) Z dn (fun _ _=>(kcb (by rw[←hst]) k0 (kcg (by rw[←hst]) k0 (kck (by rw[←hst]) k0 kn))))
 refine jq (jr (js (jeql Z Z) (ja Z (jn (jx ?_)))))
 refine jif Z (fun hc5=>?_) (fun hc5=>?_)
 refine jq (jr (js (jf F158_0 Z) (jst k0 Z3 Z Z Z s0 (jn (jx (jq (jr (jm Z (js (jf F158_2 Z) (jst k0 Z22 Z Z w2.one s2 (jn ?_)))))))))))
 refine jx (jq (jr (jm Z (jm Z (jkb E148 Z Z (m3some_ct hok (by omega) b (by first|exact hb9|decide|omega)) (dc d0 dn) (kc k1 (kc k1 (kc k1 kn))) ⟨some_ok hok.1 hbn,(someS_s.trans hok.2)⟩ p1 fun m71 hm71 om71 bm71 ua71 qs71 w10=>?_)))))
 clear bd0
 refine ja Z (jn (jx (jq (jq (jr (jm Z (jkr E54 Z Z (m3take_ct om71 (by omega) 2 (by first|exact hb9|decide|omega)) (dc d1 dn) (kd (kc k0 kn)) ⟨tO9 om71.1,om71.2⟩ fun m73 hm73 om73 bm73=>?_)))))))
 have w73_0:IntKind.i64.wrap (tVV 2 m71)=tVV 2 m71:=(IntWalk.i64_in _ (by have h9:=@tV9 2 (by omega) m71;omega))
 have tr73:=@tV9 2 (by omega) m71
 clear bm71
 refine js (jeql Z Z) (jn (jx ?_))
 refine jif Z (fun hc6=>?_) (fun hc6=>?_)
 refine jq (jr (js (jbu (v := .agg #[.int .i64 11,.int .i64 12,.int .i64 13]) Z (fun _=>by kernel_rfl)) (jalc J23 Z fun g9=>jsta k0 Z23 Z Z Z ⟨Z,Z,Z,trivial⟩ (saf Z) (jn (jx (jq (jr (jm Z (jm Z (jkb E148 Z Z (m3some_ct om73 (by omega) b (by first|exact hb9|decide|omega)) (dc d1 dn) (kc k1 (kc k1 (kc k1 kn))) ⟨some_ok om73.1 hbn,(someS_s.trans om73.2)⟩ p1 fun m78 hm78 om78 bm78 ua78 qs78 w12=>?_))))))))))
 clear bm73
 refine ja Z (jn (jx (jq (jr (jm Z (jkr E99 Z Z (m3fresh_ct om78 (by omega)) (dc d2 dn) (kd (kc k0 kn)) ⟨fresh_ok om78.1,om78.2⟩ fun m80 hm80 om80 bm80=>?_))))))
 have w80_0:IntKind.i64.wrap (m78.nx)=m78.nx:=(IntWalk.i64_in _ (by omega))
 clear bm78
 refine ja Z (jn (jx (jq (jr (jm Z (jm Z (jm Z (jkr E54 Z Z (m3take_ct om80 (by omega) 3 (by first|exact hb9|decide|omega)) (dc d2 dn) (kd (kc k0 kn)) ⟨tO9 om80.1,om80.2⟩ fun m84 hm84 om84 bm84=>?_))))))))
 have w84_0:IntKind.i64.wrap (tVV 3 m80)=tVV 3 m80:=(IntWalk.i64_in _ (by have h9:=@tV9 3 (by omega) m80;omega))
 have tr84:=@tV9 3 (by omega) m80
 clear bm80
 refine js (jixa (i:=(Int.toNat (tVV 3 m80))) U23 Z3 Z Z (by omega) (by omega)) (js (jli (i:=(Int.toNat (tVV 3 m80))) (l:=[11,12,13]) k3 (by show _<3;omega) (by omega) O3 Z) (jm Z (jm Z (jm Z (jlit (r:=(rI .i64)) (l:=[sV9 m,sV9 m73]) U22 I3 (by decide) Z Z Z (lV Z Z (wI ((wfw d1))) (lV Z Z (wI ((wfw d0))) ln)) fun g90=>js (jbu (v := .agg #[.int .i64 (ix [11,12,13] (Int.toNat (tVV 3 m80))),.int .i64 m78.nx,.int .i64 0,(.slice (some ⟨g90,0,none⟩) 2 2),.int .i32 0]) Z (fun _=>by kernel_rfl)) (jfz k0 (by(try simp)<;>omega) (jkb E149 Z Z (m3add_ct (i:=⟨ix [11,12,13] (Int.toNat (tVV 3 m80)),m78.nx,0,[sV9 m,sV9 m73],0⟩) om84 (by omega) b (by first|exact hb9|decide|omega)) (dc d3 (dc (rIns.M (m:=⟨ix [11,12,13] (Int.toNat (tVV 3 m80)),m78.nx,0,[sV9 m,sV9 m73],0⟩) (c:=(.slice (some ⟨g90,0,none⟩) 2 2)) d0 (wp (ix_w (l:=[11,12,13]) (by decide) (by decide) (Int.toNat (tVV 3 m80)))) (wp w80_0) (wl 0) (wl 0)) dn)) (kd (kc k0 kn)) ⟨add_ok om84.1 hbn,(addS_s.trans om84.2)⟩ p0 fun m92 hm92 om92 bm92 ua92 qs92 w15=>?_)))))))
 clear bm84
 refine jn (jx (jr (jm Z (ja Z (jn (jx (jr (jm Z (jlit (r:=(rI .i64)) (l:=[m78.nx]) U22 I3 (by decide) Z Z Z (lV Z Z (wI (wp w80_0)) ln) fun g95=>js (jf F158_1 Z) (jst k5 Z22 Z Z Z s1 ?_))))))))))
 refine jn (jbn (jx (jtl 9 Mixed (by kernel_rfl) (jt (jmv Z) (jt (jnil Z) (jt (jf F106_2 Z) (jt (jf F104_1 Z) (jt (jl k2 O102 Z Z) (jt (jmv Z) (jt (jla k0 A158 Z158 Z Z Z) (jt (jbi' (j:=(Int.toNat b)) U102 Z160 hvb Z Z (by omega) (by omega)) ?_)))))))))))
 refine jt (jf F160_2 Z) (jtt (jfz k1 (by(try simp)<;>omega) (jbT k3 (by omega) Z158 Z Z Z Z ⟨Z,Z,w2.one,Z,trivial⟩ (rTerm.M (m:=⟨2,[m78.nx],l,0⟩) (c:=((.slice (some ⟨g95,0,none⟩) 1 1),a2)) d0 d5 (wl 2) (wl 0)) (jkn (c:=c+21) ({ m92 with bs:=List.set m92.bs (Int.toNat b) { (ix m92.bs (Int.toNat b)) with Term:=⟨2,[m78.nx],l,0⟩ } }) (kc k2 (kc k2 (kc k0 kn))) ⟨(okM.setb (d:=0) om92.1 (Nat.le_refl _)),om92.2⟩ fun ms17 hms17 oms17 bms17=>?_))))
 clear bm92
 refine jn ?_
 have hst:ms17=endS b l m:=(by(try simp only[hm71,hm73,hm78,hm80,hm84,hm92,hms17] at hc1 hc4 hc5 hc6);(try simp only[hm71,hm73,hm78,hm80,hm84,hm92,hms17]);all_goals first|rfl|(simp[endS,setT,hc1,hc4,hc5,hc6];done)|(simp[endS,setT,hc1,hc4,hc5,hc6];rfl)|(unfold endS setT;(repeat' split)<;>first|rfl|(exfalso;omega)|(simp[hc1,hc4,hc5,hc6] at *;done)|(simp_all;done)))
 exact jd0 Z (ua92,List.set qs92 (Int.toNat b) { (ix qs92 (Int.toNat b)) with T:=⟨2,[m78.nx],l,0⟩ }) Z dn (fun _ _=>(kcb (by rw[←hst]) k0 (kcg (by rw[←hst]) k0 (kck (by rw[←hst]) k0 kn))))
 refine jsk (jx (jr (jm Z (jlit (r:=(rI .i64)) (l:=[sV9 m]) U22 I3 (by decide) Z Z Z (lV Z Z (wI ((wfw d0))) ln) fun g95_18=>js (jf F158_1 Z) (jst k4 Z22 Z Z Z s1 (jn (jbn (jx (jtl 9 Mixed (by kernel_rfl) (jt (jmv Z) ?_))))))))))
 refine jt (jnil Z) (jt (jf F106_2 Z) (jt (jf F104_1 Z) (jt (jl k2 O102 Z Z) (jt (jmv Z) (jt (jla k0 A158 Z158 Z Z Z) (jt (jbi' (j:=(Int.toNat b)) U102 Z160 hvb Z Z (by omega) (by omega)) (jt (jf F160_2 Z) (jtt (jfz k1 (by(try simp)<;>omega) (jbT k3 (by omega) Z158 Z Z Z Z ⟨Z,Z,w2.one,Z,trivial⟩ (rTerm.M (m:=⟨2,[sV9 m],l,0⟩) (c:=((.slice (some ⟨g95_18,0,none⟩) 1 1),a2)) d0 d3 (wl 2) (wl 0)) (jkn (c:=c+9) ({ m73 with bs:=List.set m73.bs (Int.toNat b) { (ix m73.bs (Int.toNat b)) with Term:=⟨2,[sV9 m],l,0⟩ } }) (kc k2 (kc k2 (kc k0 kn))) ⟨(okM.setb (d:=0) om73.1 (Nat.le_refl _)),om73.2⟩ fun ms20 hms20 oms20 bms20=>?_)))))))))))
 clear bm73
 refine jn ?_
 have hst:ms20=endS b l m:=(by(try simp only[hm71,hm73,hms20] at hc1 hc4 hc5 hc6);(try simp only[hm71,hm73,hms20]);all_goals first|rfl|(simp[endS,setT,hc1,hc4,hc5,hc6];done)|(simp[endS,setT,hc1,hc4,hc5,hc6];rfl)|(unfold endS setT;(repeat' split)<;>first|rfl|(exfalso;omega)|(simp[hc1,hc4,hc5,hc6] at *;done)|(simp_all;done)))
 exact jd0 Z (ua71,List.set qs71 (Int.toNat b) { (ix qs71 (Int.toNat b)) with T:=⟨2,[sV9 m],l,0⟩ }) Z dn (fun _ _=>(kcb (by rw[←hst]) k0 (kcg (by rw[←hst]) k0 (kck (by rw[←hst]) k0 kn))))
 refine jq (jr (js (jf F158_0 Z) (jst k0 Z3 Z Z Z s0 (jn (jx (jq (jr (jm Z (js (jf F158_2 Z) (jst k0 Z22 Z Z w2.one s2 (jn ?_)))))))))))
 refine jx (jq (jr (jm Z (jm Z (jkb E148 Z Z (m3some_ct hok (by omega) b (by first|exact hb9|decide|omega)) (dc d0 dn) (kc k1 (kc k1 (kc k1 kn))) ⟨some_ok hok.1 hbn,(someS_s.trans hok.2)⟩ p1 fun m23 hm23 om23 bm23 ua23 qs23 w21=>?_)))))
 clear bd0
 refine ja Z (jn (jx (jq (jr (jm Z (jm Z (jkb E105 Z Z (m3const_ct om23 (by omega) b 7 (by first|exact hb9|decide|omega) (by decide)) (dc d1 dn) (kd (kc k0 kn)) ⟨const_ok om23.1 hbn,(constS_s.trans om23.2)⟩ p1 fun m26 hm26 om26 bm26 ua26 qs26 w23=>?_)))))))
 clear bm23
 refine ja Z (jn (jx (jq (jr (jm Z (jkr E99 Z Z (m3fresh_ct om26 (by omega)) (dc d2 dn) (kd (kc k0 kn)) ⟨fresh_ok om26.1,om26.2⟩ fun m28 hm28 om28 bm28=>?_))))))
 have w28_0:IntKind.i64.wrap (m26.nx)=m26.nx:=(IntWalk.i64_in _ (by omega))
 clear bm26
 refine ja Z (jn (jx (jq (jr (jm Z (jm Z (jm Z (jm Z (jm Z (jlit (r:=(rI .i64)) (l:=[sV9 m,m23.nx]) U22 I3 (by decide) Z Z Z (lV Z Z (wI ((wfw d1))) (lV Z Z (wI ((wfw d0))) ln)) fun g34=>js (jbu (v := .agg #[.int .i64 5,.int .i64 m26.nx,.int .i64 0,(.slice (some ⟨g34,0,none⟩) 2 2),.int .i32 0]) Z (fun _=>by kernel_rfl)) ?_))))))))))
 refine jfz k0 (by(try simp)<;>omega) (jkb E149 Z Z (m3add_ct (i:=⟨5,m26.nx,0,[sV9 m,m23.nx],0⟩) om28 (by omega) b (by first|exact hb9|decide|omega)) (dc d3 (dc (rIns.M (m:=⟨5,m26.nx,0,[sV9 m,m23.nx],0⟩) (c:=(.slice (some ⟨g34,0,none⟩) 2 2)) d0 (wl 5) (wp w28_0) (wl 0) (wl 0)) dn)) (kd (kc k0 kn)) ⟨add_ok om28.1 hbn,(addS_s.trans om28.2)⟩ p0 fun m36 hm36 om36 bm36 ua36 qs36 w26=>?_)
 clear bm28
 refine jn (jx (jr (jm Z (jlit (r:=(rI .i64)) (l:=[m26.nx]) U22 I3 (by decide) Z Z Z (lV Z Z (wI (wp w28_0)) ln) fun g38=>js (jf F158_1 Z) (jst k4 Z22 Z Z Z s1 (jn (jbn (jx (jtl 9 Mixed (by kernel_rfl) (jt (jmv Z) ?_))))))))))
 refine jt (jnil Z) (jt (jf F106_2 Z) (jt (jf F104_1 Z) (jt (jl k2 O102 Z Z) (jt (jmv Z) (jt (jla k0 A158 Z158 Z Z Z) (jt (jbi' (j:=(Int.toNat b)) U102 Z160 hvb Z Z (by omega) (by omega)) (jt (jf F160_2 Z) (jtt (jfz k1 (by(try simp)<;>omega) (jbT k3 (by omega) Z158 Z Z Z Z ⟨Z,Z,w2.one,Z,trivial⟩ (rTerm.M (m:=⟨3,[m26.nx],l,0⟩) (c:=((.slice (some ⟨g38,0,none⟩) 1 1),a2)) d0 d5 (wl 3) (wl 0)) (jkn (c:=c+14) ({ m36 with bs:=List.set m36.bs (Int.toNat b) { (ix m36.bs (Int.toNat b)) with Term:=⟨3,[m26.nx],l,0⟩ } }) (kc k2 (kc k2 (kc k0 kn))) ⟨(okM.setb (d:=0) om36.1 (Nat.le_refl _)),om36.2⟩ fun ms28 hms28 oms28 bms28=>?_)))))))))))
 clear bm36
 refine jn ?_
 have hst:ms28=endS b l m:=(by(try simp only[hm23,hm26,hm28,hm36,hms28] at hc1 hc4 hc5);(try simp only[hm23,hm26,hm28,hm36,hms28]);all_goals first|rfl|(simp[endS,setT,hc1,hc4,hc5];done)|(simp[endS,setT,hc1,hc4,hc5];rfl)|(unfold endS setT;(repeat' split)<;>first|rfl|(exfalso;omega)|(simp[hc1,hc4,hc5] at *;done)|(simp_all;done)))
 exact jd0 Z (ua36,List.set qs36 (Int.toNat b) { (ix qs36 (Int.toNat b)) with T:=⟨3,[m26.nx],l,0⟩ }) Z dn (fun _ _=>(kcb (by rw[←hst]) k0 (kcg (by rw[←hst]) k0 (kck (by rw[←hst]) k0 kn))))
abbrev U199:=@Tryz.underlying199
theorem E150:Ent Tryz.prog 150:=⟨_,Tryz.func150,by kernel_rfl,by kernel_rfl⟩
theorem Z199:Sz Tryz.prog 199 12:=by unfold Sz;kernel_rfl
theorem J199:(Tryz.prog.info? 199).bind (·.zero)=some (.agg #[.int .i64 0,.int .i64 0,.int .i64 0,.int .i64 0,.int .i64 0,.int .i64 0,.int .i64 0,.int .i64 0,.int .i64 0,.int .i64 0,.int .i64 0,.int .i64 0]):=by kernel_rfl
set_option maxRecDepth 4000 in
theorem m3ins_ct{vs vb al:Value}{m:Mk}{nb c:Nat}{S:List Int}{g0:Nat}{B0 B1:Nat}{qs:List BV}(hok:okS nb c S m)(hc:c≤900000)(b:Int)(hb9:0≤b∧b<nb):KB Tryz.prog 102 [.int .i64 b] [] g0 vs vb al S B0 B1 qs [] m (insS b m) (.tuple #[]):=by
 refine jenter (args:=[.pointer (some ⟨g0,0,none⟩),.int .i64 b]) Tryz.func102 rfl rfl rfl fun w0 X=>?_
 refine cgo k1 fun w1=>?_
 have bd0:=okM.bnd hok.1
 refine cbk k2 (okM.bnd hok.1).2.2.2.2.2.2.2.1 fun hvb=>?_
 have hbn:b.toNat<nb:=by omega
 refine jq (jr (jm Z (jkr E54 Z Z (m3take_ct hok (by omega) 20 (by first|exact hb9|decide|omega)) (dc d0 dn) (kd (kc k0 kn)) ⟨tO9 hok.1,hok.2⟩ fun m19 hm19 om19 bm19=>?_)))
 have w19_0:IntKind.i64.wrap (tVV 20 m)=tVV 20 m:=(IntWalk.i64_in _ (by have h9:=@tV9 20 (by omega) m;omega))
 have tr19:=@tV9 20 (by omega) m
 clear bd0
 refine ja Z (jn (jx (jb (jq (jr (jm Z (js (jlss Z Z) (ja Z (jn (jx ?_))))))))))
 refine jif Z (fun hc1=>?_) (fun hc1=>?_)
 refine jq (jr (js (jbu (v := .agg #[.int .i64 2,.int .i64 2,.int .i64 3,.int .i64 4,.int .i64 5,.int .i64 6,.int .i64 7,.int .i64 8,.int .i64 9,.int .i64 10,.int .i64 12,.int .i64 11]) Z (fun _=>by kernel_rfl)) (jalc J199 Z fun g5=>jsta k0 Z199 Z Z Z ⟨Z,Z,Z,Z,Z,Z,Z,Z,Z,Z,Z,Z,trivial⟩ (saf Z) (jn (jx (jq (jr (jm Z (jm Z (jkb E148 Z Z (m3some_ct om19 (by omega) b (by first|exact hb9|decide|omega)) (dc d0 dn) (kc k1 (kc k1 (kc k1 kn))) ⟨some_ok om19.1 hbn,(someS_s.trans om19.2)⟩ p1 fun m31 hm31 om31 bm31 ua31 qs31 w2=>?_))))))))))
 clear bm19
 refine ja Z (jn (jx (jq (jr (jm Z (jm Z (jkb E148 Z Z (m3some_ct om31 (by omega) b (by first|exact hb9|decide|omega)) (dc d1 dn) (kd (kc k0 kn)) ⟨some_ok om31.1 hbn,(someS_s.trans om31.2)⟩ p1 fun m34 hm34 om34 bm34 ua34 qs34 w4=>?_)))))))
 clear bm31
 refine ja Z (jn (jx (jq (jq (jr (jm Z (jkr E54 Z Z (m3take_ct om34 (by omega) 3 (by first|exact hb9|decide|omega)) (dc d2 dn) (kd (kc k0 kn)) ⟨tO9 om34.1,om34.2⟩ fun m36 hm36 om36 bm36=>?_)))))))
 have w36_0:IntKind.i64.wrap (tVV 3 m34)=tVV 3 m34:=(IntWalk.i64_in _ (by have h9:=@tV9 3 (by omega) m34;omega))
 have tr36:=@tV9 3 (by omega) m34
 clear bm34
 refine js (jeql Z Z) (jn (jx ?_))
 refine jif Z (fun hc2=>?_) (fun hc2=>?_)
 refine jr (jm Z (jm Z (jm Z (jkr E54 Z Z (m3take_ct om36 (by omega) 40 (by first|exact hb9|decide|omega)) (dc d2 dn) (kd (kc k0 kn)) ⟨tO9 om36.1,om36.2⟩ fun m41 hm41 om41 bm41=>?_))))
 have w41_0:IntKind.i64.wrap (tVV 40 m36)=tVV 40 m36:=(IntWalk.i64_in _ (by have h9:=@tV9 40 (by omega) m36;omega))
 have tr41:=@tV9 40 (by omega) m36
 clear bm36
 refine js (jsub Z Z (by omega)) (js (jco U3 U21 Z Z) (jkb E105 Z Z (m3const_ct om41 (by omega) b (IntKind.i32.wrap ((tVV 40 m36)-8)) (by first|exact hb9|decide|omega) (JE.wrap_wrap _ _)) (dc d2 dn) (kd (kc k0 kn)) ⟨const_ok om41.1 hbn,(constS_s.trans om41.2)⟩ p1 fun m44 hm44 om44 bm44 ua44 qs44 w6=>?_))
 clear bm41
 refine ja Z (jn (jx (jany true (.a 0 (.a 1 (.a 2 (.a 3 (.a 4 (.a 5 (.a 7 (.a 8 (.w 6 9 (.o 9 (.a 10 (.o 11 .e))) (.o 6 (.a 10 (.o 11 .e)))))))))))) Mixed (by kernel_rfl) (kc k3 kn) fun F8=>jy Z (jmv Z) (jy Z (jmv Z) (jy Z (jmv Z) (jy Z (jixa (i:=(Int.toNat (tVV 20 m))) U199 Z3 Z Z (by omega) (by omega)) (jy Z (jli (i:=(Int.toNat (tVV 20 m))) (l:=[2,2,3,4,5,6,7,8,9,10,12,11]) k0 (by show _<12;omega) (by omega) O3 Z) (jy Z (jmv Z) (jy Z (jmv Z) (jy Z (jmv Z) ?_))))))))))
 refine jyw Z Z ?_ ?_
 refine jkr E99 Z Z (m3fresh_ct om44 (by omega)) (dc d4 dn) (kd (kc k0 kn)) ⟨fresh_ok om44.1,om44.2⟩ fun m51 hm51 om51 bm51=>?_
 have w51_0:IntKind.i64.wrap (m44.nx)=m44.nx:=(IntWalk.i64_in _ (by omega))
 clear bm44
 refine jyn d0 (kc k3 kn) (jyo Z (jlit (r:=(rI .i64)) (l:=[sV9 m19,m41.nx]) U22 I3 (by decide) Z Z Z (lV Z Z (wI ((wfw d4))) (lV Z Z (wI ((wfw d2))) ln)) fun g54=>jyn d0 (kc k4 kn) (jy Z (jbu (v := .agg #[.int .i64 (ix [2,2,3,4,5,6,7,8,9,10,12,11] (Int.toNat (tVV 20 m))),.int .i64 m44.nx,.int .i64 0,(.slice (some ⟨g54,0,none⟩) 2 2),.int .i32 0]) Z (fun _=>by kernel_rfl)) (jyo Z (jfz k0 (by(try simp)<;>omega) (jkb E149 Z Z (m3add_ct (i:=⟨ix [2,2,3,4,5,6,7,8,9,10,12,11] (Int.toNat (tVV 20 m)),m44.nx,0,[sV9 m19,m41.nx],0⟩) om51 (by omega) b (by first|exact hb9|decide|omega)) (dc d7 (dc (rIns.M (m:=⟨ix [2,2,3,4,5,6,7,8,9,10,12,11] (Int.toNat (tVV 20 m)),m44.nx,0,[sV9 m19,m41.nx],0⟩) (c:=(.slice (some ⟨g54,0,none⟩) 2 2)) d0 (wp (ix_w (l:=[2,2,3,4,5,6,7,8,9,10,12,11]) (by decide) (by decide) (Int.toNat (tVV 20 m)))) (wp w51_0) (wl 0) (wl 0)) dn)) (kd (kc k0 kn)) ⟨add_ok om51.1 hbn,(addS_s.trans om51.2)⟩ p0 fun m56 hm56 om56 bm56 ua56 qs56 w13=>?_))))))
 clear bm51
 refine jyz d1 (jyd (jbn ?_))
 have hst:m56=insS b m:=(by(try simp only[hm19,hm31,hm34,hm36,hm41,hm44,hm51,hm56] at hc1 hc2);(try simp only[hm19,hm31,hm34,hm36,hm41,hm44,hm51,hm56]);all_goals first|rfl|(simp[insS,hc1,hc2];done)|(simp[insS,hc1,hc2];rfl))
 exact jd0 Z (ua56,qs56) Z dn (fun _ _=>(kcb (by rw[←hst]) k0 (kcg (by rw[←hst]) k0 (kck (by rw[←hst]) k0 kn))))
 refine jlit (r:=(rI .i64)) (l:=[sV9 m19,m41.nx]) U22 I3 (by decide) Z Z Z (lV Z Z (wI ((wfw d3))) (lV Z Z (wI ((wfw d1))) ln)) fun g54=>jyn d0 (kc k4 kn) (jyo Z (jkr E99 Z Z (m3fresh_ct om44 (by omega)) (dc d5 dn) (kc k1 (kc k1 (kc k1 kn))) ⟨fresh_ok om44.1,om44.2⟩ fun m51 hm51 om51 bm51=>?_))
 have w51_0:IntKind.i64.wrap (m44.nx)=m44.nx:=(IntWalk.i64_in _ (by omega))
 clear bm44
 refine jyn d0 (kc k4 kn) (jy Z (jbu (v := .agg #[.int .i64 (ix [2,2,3,4,5,6,7,8,9,10,12,11] (Int.toNat (tVV 20 m))),.int .i64 m44.nx,.int .i64 0,(.slice (some ⟨g54,0,none⟩) 2 2),.int .i32 0]) Z (fun _=>by kernel_rfl)) (jyo Z (jfz k3 (by(try simp)<;>omega) (jkb E149 Z Z (m3add_ct (i:=⟨ix [2,2,3,4,5,6,7,8,9,10,12,11] (Int.toNat (tVV 20 m)),m44.nx,0,[sV9 m19,m41.nx],0⟩) om51 (by omega) b (by first|exact hb9|decide|omega)) (dc d7 (dc (rIns.M (m:=⟨ix [2,2,3,4,5,6,7,8,9,10,12,11] (Int.toNat (tVV 20 m)),m44.nx,0,[sV9 m19,m41.nx],0⟩) (c:=(.slice (some ⟨g54,0,none⟩) 2 2)) d0 (wp (ix_w (l:=[2,2,3,4,5,6,7,8,9,10,12,11]) (by decide) (by decide) (Int.toNat (tVV 20 m)))) (wp w51_0) (wl 0) (wl 0)) dn)) (kd (kc k0 kn)) ⟨add_ok om51.1 hbn,(addS_s.trans om51.2)⟩ p0 fun m56 hm56 om56 bm56 ua56 qs56 w13=>?_))))
 clear bm51
 refine jyz d1 (jyd (jbn ?_))
 have hst:m56=insS b m:=(by(try simp only[hm19,hm31,hm34,hm36,hm41,hm44,hm51,hm56] at hc1 hc2);(try simp only[hm19,hm31,hm34,hm36,hm41,hm44,hm51,hm56]);all_goals first|rfl|(simp[insS,hc1,hc2];done)|(simp[insS,hc1,hc2];rfl))
 exact jd0 Z (ua56,qs56) Z dn (fun _ _=>(kcb (by rw[←hst]) k0 (kcg (by rw[←hst]) k0 (kck (by rw[←hst]) k0 kn))))
 refine jsk (jx (jany true (.a 0 (.a 1 (.a 2 (.a 3 (.a 4 (.a 5 (.a 7 (.a 8 (.w 6 9 (.o 9 (.a 10 (.o 11 .e))) (.o 6 (.a 10 (.o 11 .e)))))))))))) Mixed (by kernel_rfl) (kc k3 kn) fun F14=>jy Z (jmv Z) (jy Z (jmv Z) (jy Z (jmv Z) (jy Z (jixa (i:=(Int.toNat (tVV 20 m))) U199 Z3 Z Z (by omega) (by omega)) (jy Z (jli (i:=(Int.toNat (tVV 20 m))) (l:=[2,2,3,4,5,6,7,8,9,10,12,11]) k0 (by show _<12;omega) (by omega) O3 Z) (jy Z (jmv Z) (jy Z (jmv Z) (jy Z (jmv Z) ?_)))))))))
 refine jyw Z Z ?_ ?_
 refine jkr E99 Z Z (m3fresh_ct om36 (by omega)) (dc d3 dn) (kd (kc k0 kn)) ⟨fresh_ok om36.1,om36.2⟩ fun m51 hm51 om51 bm51=>?_
 have w51_0:IntKind.i64.wrap (m36.nx)=m36.nx:=(IntWalk.i64_in _ (by omega))
 clear bm36
 refine jyn d0 (kc k3 kn) (jyo Z (jlit (r:=(rI .i64)) (l:=[sV9 m19,sV9 m31]) U22 I3 (by decide) Z Z Z (lV Z Z (wI ((wfw d3))) (lV Z Z (wI ((wfw d2))) ln)) fun g54_17=>jyn d0 (kc k4 kn) (jy Z (jbu (v := .agg #[.int .i64 (ix [2,2,3,4,5,6,7,8,9,10,12,11] (Int.toNat (tVV 20 m))),.int .i64 m36.nx,.int .i64 0,(.slice (some ⟨g54_17,0,none⟩) 2 2),.int .i32 0]) Z (fun _=>by kernel_rfl)) (jyo Z (jfz k0 (by(try simp)<;>omega) (jkb E149 Z Z (m3add_ct (i:=⟨ix [2,2,3,4,5,6,7,8,9,10,12,11] (Int.toNat (tVV 20 m)),m36.nx,0,[sV9 m19,sV9 m31],0⟩) om51 (by omega) b (by first|exact hb9|decide|omega)) (dc d6 (dc (rIns.M (m:=⟨ix [2,2,3,4,5,6,7,8,9,10,12,11] (Int.toNat (tVV 20 m)),m36.nx,0,[sV9 m19,sV9 m31],0⟩) (c:=(.slice (some ⟨g54_17,0,none⟩) 2 2)) d0 (wp (ix_w (l:=[2,2,3,4,5,6,7,8,9,10,12,11]) (by decide) (by decide) (Int.toNat (tVV 20 m)))) (wp w51_0) (wl 0) (wl 0)) dn)) (kd (kc k0 kn)) ⟨add_ok om51.1 hbn,(addS_s.trans om51.2)⟩ p0 fun m56 hm56 om56 bm56 ua56 qs56 w20=>?_))))))
 clear bm51
 refine jyz d1 (jyd (jbn ?_))
 have hst:m56=insS b m:=(by(try simp only[hm19,hm31,hm34,hm36,hm51,hm56] at hc1 hc2);(try simp only[hm19,hm31,hm34,hm36,hm51,hm56]);all_goals first|rfl|(simp[insS,hc1,hc2];done)|(simp[insS,hc1,hc2];rfl))
 exact jd0 Z (ua56,qs56) Z dn (fun _ _=>(kcb (by rw[←hst]) k0 (kcg (by rw[←hst]) k0 (kck (by rw[←hst]) k0 kn))))
 refine jlit (r:=(rI .i64)) (l:=[sV9 m19,sV9 m31]) U22 I3 (by decide) Z Z Z (lV Z Z (wI ((wfw d2))) (lV Z Z (wI ((wfw d1))) ln)) fun g54_16=>jyn d0 (kc k4 kn) (jyo Z (jkr E99 Z Z (m3fresh_ct om36 (by omega)) (dc d4 dn) (kc k1 (kc k1 (kc k1 kn))) ⟨fresh_ok om36.1,om36.2⟩ fun m51 hm51 om51 bm51=>?_))
 have w51_0:IntKind.i64.wrap (m36.nx)=m36.nx:=(IntWalk.i64_in _ (by omega))
 clear bm36
 refine jyn d0 (kc k4 kn) (jy Z (jbu (v := .agg #[.int .i64 (ix [2,2,3,4,5,6,7,8,9,10,12,11] (Int.toNat (tVV 20 m))),.int .i64 m36.nx,.int .i64 0,(.slice (some ⟨g54_16,0,none⟩) 2 2),.int .i32 0]) Z (fun _=>by kernel_rfl)) (jyo Z (jfz k3 (by(try simp)<;>omega) (jkb E149 Z Z (m3add_ct (i:=⟨ix [2,2,3,4,5,6,7,8,9,10,12,11] (Int.toNat (tVV 20 m)),m36.nx,0,[sV9 m19,sV9 m31],0⟩) om51 (by omega) b (by first|exact hb9|decide|omega)) (dc d6 (dc (rIns.M (m:=⟨ix [2,2,3,4,5,6,7,8,9,10,12,11] (Int.toNat (tVV 20 m)),m36.nx,0,[sV9 m19,sV9 m31],0⟩) (c:=(.slice (some ⟨g54_16,0,none⟩) 2 2)) d0 (wp (ix_w (l:=[2,2,3,4,5,6,7,8,9,10,12,11]) (by decide) (by decide) (Int.toNat (tVV 20 m)))) (wp w51_0) (wl 0) (wl 0)) dn)) (kd (kc k0 kn)) ⟨add_ok om51.1 hbn,(addS_s.trans om51.2)⟩ p0 fun m56 hm56 om56 bm56 ua56 qs56 w20=>?_))))
 clear bm51
 refine jyz d1 (jyd (jbn ?_))
 have hst:m56=insS b m:=(by(try simp only[hm19,hm31,hm34,hm36,hm51,hm56] at hc1 hc2);(try simp only[hm19,hm31,hm34,hm36,hm51,hm56]);all_goals first|rfl|(simp[insS,hc1,hc2];done)|(simp[insS,hc1,hc2];rfl))
 exact jd0 Z (ua56,qs56) Z dn (fun _ _=>(kcb (by rw[←hst]) k0 (kcg (by rw[←hst]) k0 (kck (by rw[←hst]) k0 kn))))
 refine jq (jr (jm Z (js (jeql Z Z) (ja Z (jn (jx ?_))))))
 refine jif Z (fun hc3=>?_) (fun hc3=>?_)
 refine jq (jr (jm Z (jm Z (jkb E148 Z Z (m3some_ct om19 (by omega) b (by first|exact hb9|decide|omega)) (dc d0 dn) (kd (kc k0 kn)) ⟨some_ok om19.1 hbn,(someS_s.trans om19.2)⟩ p1 fun m62 hm62 om62 bm62 ua62 qs62 w21=>?_))))
 clear bm19
 refine ja Z (jn (jx (jq (jr (jm Z (jm Z (jkb E148 Z Z (m3some_ct om62 (by omega) b (by first|exact hb9|decide|omega)) (dc d1 dn) (kd (kc k0 kn)) ⟨some_ok om62.1 hbn,(someS_s.trans om62.2)⟩ p1 fun m65 hm65 om65 bm65 ua65 qs65 w23=>?_)))))))
 clear bm62
 refine ja Z (jn (jx (jr (jm Z (jm Z (jm Z (jkr E99 Z Z (m3fresh_ct om65 (by omega)) (dc d2 dn) (kd (kc k0 kn)) ⟨fresh_ok om65.1,om65.2⟩ fun m69 hm69 om69 bm69=>?_)))))))
 have w69_0:IntKind.i64.wrap (m65.nx)=m65.nx:=(IntWalk.i64_in _ (by omega))
 clear bm65
 refine jm Z (jm Z (jlit (r:=(rI .i64)) (l:=[sV9 m19,sV9 m62]) U22 I3 (by decide) Z Z Z (lV Z Z (wI ((wfw d1))) (lV Z Z (wI ((wfw d0))) ln)) fun g72=>js (jbu (v := .agg #[.int .i64 13,.int .i64 m65.nx,.int .i64 0,(.slice (some ⟨g72,0,none⟩) 2 2),.int .i32 0]) Z (fun _=>by kernel_rfl)) (jfz k0 (by(try simp)<;>omega) (jkb E149 Z Z (m3add_ct (i:=⟨13,m65.nx,0,[sV9 m19,sV9 m62],0⟩) om69 (by omega) b (by first|exact hb9|decide|omega)) (dc d3 (dc (rIns.M (m:=⟨13,m65.nx,0,[sV9 m19,sV9 m62],0⟩) (c:=(.slice (some ⟨g72,0,none⟩) 2 2)) d0 (wl 13) (wp w69_0) (wl 0) (wl 0)) dn)) (kd (kc k0 kn)) ⟨add_ok om69.1 hbn,(addS_s.trans om69.2)⟩ p0 fun m74 hm74 om74 bm74 ua74 qs74 w26=>?_))))
 clear bm69
 refine jn (jbn ?_)
 have hst:m74=insS b m:=(by(try simp only[hm19,hm62,hm65,hm69,hm74] at hc1 hc3);(try simp only[hm19,hm62,hm65,hm69,hm74]);all_goals first|rfl|(simp[insS,hc1,hc3];done)|(simp[insS,hc1,hc3];rfl))
 exact jd0 Z (ua74,qs74) Z dn (fun _ _=>(kcb (by rw[←hst]) k0 (kcg (by rw[←hst]) k0 (kck (by rw[←hst]) k0 kn))))
 refine jq (jr (jm Z (js (jeql Z Z) (ja Z (jn (jx ?_))))))
 refine jif Z (fun hc4=>?_) (fun hc4=>?_)
 refine jq (jr (jm Z (jm Z (jkb E148 Z Z (m3some_ct om19 (by omega) b (by first|exact hb9|decide|omega)) (dc d0 dn) (kd (kc k0 kn)) ⟨some_ok om19.1 hbn,(someS_s.trans om19.2)⟩ p1 fun m80 hm80 om80 bm80 ua80 qs80 w27=>?_))))
 clear bm19
 refine ja Z (jn (jx (jq (jr (jm Z (jm Z (jm Z (jkr E54 Z Z (m3take_ct om80 (by omega) 12 (by first|exact hb9|decide|omega)) (dc d1 dn) (kd (kc k0 kn)) ⟨tO9 om80.1,om80.2⟩ fun m84 hm84 om84 bm84=>?_))))))))
 have w84_0:IntKind.i64.wrap (tVV 12 m80)=tVV 12 m80:=(IntWalk.i64_in _ (by have h9:=@tV9 12 (by omega) m80;omega))
 have tr84:=@tV9 12 (by omega) m80
 clear bm80
 refine js (jco U3 U21 Z Z) (jkb E105 Z Z (m3const_ct om84 (by omega) b (IntKind.i32.wrap (tVV 12 m80)) (by first|exact hb9|decide|omega) (JE.wrap_wrap _ _)) (dc d1 dn) (kd (kc k0 kn)) ⟨const_ok om84.1 hbn,(constS_s.trans om84.2)⟩ p1 fun m86 hm86 om86 bm86 ua86 qs86 w29=>?_)
 clear bm84
 refine ja Z (jn (jx (jq (jq (jr (jm Z (jkr E54 Z Z (m3take_ct om86 (by omega) 3 (by first|exact hb9|decide|omega)) (dc d2 dn) (kd (kc k0 kn)) ⟨tO9 om86.1,om86.2⟩ fun m88 hm88 om88 bm88=>?_)))))))
 have w88_0:IntKind.i64.wrap (tVV 3 m86)=tVV 3 m86:=(IntWalk.i64_in _ (by have h9:=@tV9 3 (by omega) m86;omega))
 have tr88:=@tV9 3 (by omega) m86
 clear bm86
 refine js (jgtr Z Z) (jn (jx ?_))
 refine jif Z (fun hc5=>?_) (fun hc5=>?_)
 refine jr (jm Z (jm Z (jm Z (jkr E54 Z Z (m3take_ct om88 (by omega) 12 (by first|exact hb9|decide|omega)) (dc d2 dn) (kd (kc k0 kn)) ⟨tO9 om88.1,om88.2⟩ fun m93 hm93 om93 bm93=>?_))))
 have w93_0:IntKind.i64.wrap (tVV 12 m88)=tVV 12 m88:=(IntWalk.i64_in _ (by have h9:=@tV9 12 (by omega) m88;omega))
 have tr93:=@tV9 12 (by omega) m88
 clear bm88
 refine js (jco U3 U21 Z Z) (js (jaddw Z Z) (jkb E105 Z Z (m3const_ct om93 (by omega) b (IntKind.i32.wrap (1+(IntKind.i32.wrap (tVV 12 m88)))) (by first|exact hb9|decide|omega) (JE.wrap_wrap _ _)) (dc d2 dn) (kd (kc k0 kn)) ⟨const_ok om93.1 hbn,(constS_s.trans om93.2)⟩ p1 fun m96 hm96 om96 bm96 ua96 qs96 w31=>?_))
 clear bm93
 refine ja Z (jn (jx (jr (jm Z (jm Z (jm Z (jkr E99 Z Z (m3fresh_ct om96 (by omega)) (dc d3 dn) (kd (kc k0 kn)) ⟨fresh_ok om96.1,om96.2⟩ fun m100 hm100 om100 bm100=>?_)))))))
 have w100_0:IntKind.i64.wrap (m96.nx)=m96.nx:=(IntWalk.i64_in _ (by omega))
 clear bm96
 refine jm Z (jm Z (jlit (r:=(rI .i64)) (l:=[sV9 m19,m93.nx]) U22 I3 (by decide) Z Z Z (lV Z Z (wI ((wfw d2))) (lV Z Z (wI ((wfw d0))) ln)) fun g103=>js (jbu (v := .agg #[.int .i64 14,.int .i64 m96.nx,.int .i64 0,(.slice (some ⟨g103,0,none⟩) 2 2),.int .i32 0]) Z (fun _=>by kernel_rfl)) (jfz k0 (by(try simp)<;>omega) (jkb E149 Z Z (m3add_ct (i:=⟨14,m96.nx,0,[sV9 m19,m93.nx],0⟩) om100 (by omega) b (by first|exact hb9|decide|omega)) (dc d4 (dc (rIns.M (m:=⟨14,m96.nx,0,[sV9 m19,m93.nx],0⟩) (c:=(.slice (some ⟨g103,0,none⟩) 2 2)) d0 (wl 14) (wp w100_0) (wl 0) (wl 0)) dn)) (kd (kc k0 kn)) ⟨add_ok om100.1 hbn,(addS_s.trans om100.2)⟩ p0 fun m105 hm105 om105 bm105 ua105 qs105 w34=>?_))))
 clear bm100
 refine jn (jbn ?_)
 have hst:m105=insS b m:=(by(try simp only[hm19,hm80,hm84,hm86,hm88,hm93,hm96,hm100,hm105] at hc1 hc3 hc4 hc5);(try simp only[hm19,hm80,hm84,hm86,hm88,hm93,hm96,hm100,hm105]);all_goals first|rfl|(simp[insS,hc1,hc3,hc4,hc5];done)|(simp[insS,hc1,hc3,hc4,hc5];rfl))
 exact jd0 Z (ua105,qs105) Z dn (fun _ _=>(kcb (by rw[←hst]) k0 (kcg (by rw[←hst]) k0 (kck (by rw[←hst]) k0 kn))))
 refine jsk (jx (jr (jm Z (jm Z (jm Z (jkr E99 Z Z (m3fresh_ct om88 (by omega)) (dc d2 dn) (kd (kc k0 kn)) ⟨fresh_ok om88.1,om88.2⟩ fun m100 hm100 om100 bm100=>?_))))))
 have w100_0:IntKind.i64.wrap (m88.nx)=m88.nx:=(IntWalk.i64_in _ (by omega))
 clear bm88
 refine jm Z (jm Z (jlit (r:=(rI .i64)) (l:=[sV9 m19,m84.nx]) U22 I3 (by decide) Z Z Z (lV Z Z (wI ((wfw d1))) (lV Z Z (wI ((wfw d0))) ln)) fun g103_35=>js (jbu (v := .agg #[.int .i64 14,.int .i64 m88.nx,.int .i64 0,(.slice (some ⟨g103_35,0,none⟩) 2 2),.int .i32 0]) Z (fun _=>by kernel_rfl)) (jfz k0 (by(try simp)<;>omega) (jkb E149 Z Z (m3add_ct (i:=⟨14,m88.nx,0,[sV9 m19,m84.nx],0⟩) om100 (by omega) b (by first|exact hb9|decide|omega)) (dc d3 (dc (rIns.M (m:=⟨14,m88.nx,0,[sV9 m19,m84.nx],0⟩) (c:=(.slice (some ⟨g103_35,0,none⟩) 2 2)) d0 (wl 14) (wp w100_0) (wl 0) (wl 0)) dn)) (kd (kc k0 kn)) ⟨add_ok om100.1 hbn,(addS_s.trans om100.2)⟩ p0 fun m105 hm105 om105 bm105 ua105 qs105 w37=>?_))))
 clear bm100
 refine jn (jbn ?_)
 have hst:m105=insS b m:=(by(try simp only[hm19,hm80,hm84,hm86,hm88,hm100,hm105] at hc1 hc3 hc4 hc5);(try simp only[hm19,hm80,hm84,hm86,hm88,hm100,hm105]);all_goals first|rfl|(simp[insS,hc1,hc3,hc4,hc5];done)|(simp[insS,hc1,hc3,hc4,hc5];rfl))
 exact jd0 Z (ua105,qs105) Z dn (fun _ _=>(kcb (by rw[←hst]) k0 (kcg (by rw[←hst]) k0 (kck (by rw[←hst]) k0 kn))))
 refine jq (jr (jm Z (js (jlss Z Z) (ja Z (jn (jx ?_))))))
 refine jif Z (fun hc6=>?_) (fun hc6=>?_)
 refine jr (jm Z (jm Z (jm Z (js (jeql Z Z) (jkb E150 Z Z (m3mem_ct om19 (by omega) b (decide (tVV 20 m=15)) (by first|exact hb9|decide|omega)) (dc d0 dn) (kd (kc k0 kn)) ⟨mem_ok om19.1 hbn,(memS_s.trans om19.2)⟩ p0 fun m113 hm113 om113 bm113 ua113 qs113 w38=>?_)))))
 clear bm19
 refine jn (jbn ?_)
 have hst:m113=insS b m:=(by(try simp only[hm19,hm113] at hc1 hc3 hc4 hc6);(try simp only[hm19,hm113]);all_goals first|rfl|(simp[insS,hc1,hc3,hc4,hc6];done)|(simp[insS,hc1,hc3,hc4,hc6];rfl))
 exact jd0 Z (ua113,qs113) Z dn (fun _ _=>(kcb (by rw[←hst]) k0 (kcg (by rw[←hst]) k0 (kck (by rw[←hst]) k0 kn))))
 refine jq (jr (jm Z (js (jeql Z Z) (ja Z (jn (jx ?_))))))
 refine jif Z (fun hc7=>?_) (fun hc7=>?_)
 refine jq (jr (jlit (r:=(rI .i64)) (l:=[]) U22 I3 (by decide) Z Z Z ln fun g117=>ja Z (jn (jx (jq (jr (jm Z (jkr E54 Z Z (m3take_ct om19 (by omega) 5 (by first|exact hb9|decide|omega)) (dc d0 dn) (kc k1 (kc k1 (kc k1 kn))) ⟨tO9 om19.1,om19.2⟩ fun m119 hm119 om119 bm119=>?_))))))))
 have w119_0:IntKind.i64.wrap (tVV 5 m19)=tVV 5 m19:=(IntWalk.i64_in _ (by have h9:=@tV9 5 (by omega) m19;omega))
 have tr119:=@tV9 5 (by omega) m19
 clear bm19
 refine ja Z (jn (jx (jq (jq (jr (ja Z (jn (jx (jb ?_)))))))))
 refine jlp (u6 fun(i:Nat) (l:List Int) (v:Value) (mm:Mk) (al1:Value) (qs1:List BV)=>⟨i≤(tVV 5 m19).toNat∧argsL b (tVV 5 m19).toNat [] m119=argsL b ((tVV 5 m19).toNat-i) l mm∧l.length=i∧okS nb (c+20+8*i) S mm,[dv (rL (rI .i64)) vs S],[bx g0 106 [vs,.int .i64 mm.k,.int .i64 mm.par,vb,.int .i64 mm.nx,al1],gl B0 (rI .i64) 3 al1 mm.lv,bk B1 vb qs1 mm.bs,gl X.n (rI .i64) 3 v l],[(0,.pointer (some ⟨g0,0,none⟩)),(1,.int .i64 b),(12,v),(13,.int .i64 (tVV 5 m19)),(14,.int .i64 (↑i))],(tVV 5 m19).toNat-i⟩) (0,[],(.slice (some ⟨g117,0,none⟩) 0 0),m119,al,qs) ⟨by omega,rfl,rfl,om119.mono (by omega)⟩ (dc d0 dn) (kd (kd kn)) ⟨Z,Z,Z,Z,eqI (by omega),trivial⟩ ?_
 rintro⟨i,l,v,mm,al1,qs1⟩;dsimp only[u6];rintro⟨hi,hR,hl,okL1⟩
 refine cgo k3 fun w39=>cgo k1 fun w40=>?_
 have bdL1:=okM.bnd okL1.1
 clear bm119
 refine jq (jq (jr (jm Z (jm Z (js (jlss Z Z) (jn (jx ?_)))))))
 refine jif Z (fun hc8=>?_) (fun hc8=>?_)
 refine jsk (jx (jq (jb (jr (jm Z (jm Z (jm Z (jkb E148 Z Z (m3some_ct okL1 (by omega) b (by first|exact hb9|decide|omega)) (dc d0 dn) (kd (kc k0 kn)) ⟨some_ok okL1.1 hbn,(someS_s.trans okL1.2)⟩ p1 fun m128 hm128 om128 bm128 ua128 qs128 w41=>?_))))))))
 clear bdL1
 refine japv U22 I3 (by decide) Z Z k3 Z (wI ((wfw d0))) (by omega) (fun _=>Z) fun v130 _ w43=>ja Z (jn (jbn (jx (jr (jm Z (js (jadd Z Z (by omega)) (ja Z (jn ?_))))))))
 exact jag (i+1,l++[sV9 mm],v130,m128,ua128,qs128) ⟨by dsimp only;omega,by dsimp only;rw[hR,show(tVV 5 m19).toNat-i=((tVV 5 m19).toNat-(i+1))+1 by omega,argsL,hm128],by simp;omega,om128.mono (by omega)⟩ (dc d1 dn) (kc k1 (kc k1 (kc k1 (kc k0 kn)))) ⟨Z,Z,Z,Z,eqI (by omega),trivial⟩
 refine jex (jtx (jtx (jbh (jx (jr (jm Z (jm Z (jm Z (jkr E99 Z Z (m3fresh_ct okL1 (by omega)) (dc d0 dn) (kd (kc k0 kn)) ⟨fresh_ok okL1.1,okL1.2⟩ fun m134 hm134 om134 bm134=>?_)))))))))
 have w134_0:IntKind.i64.wrap (mm.nx)=mm.nx:=(IntWalk.i64_in _ (by omega))
 clear bdL1
 refine jm Z (jm Z (jkr E54 Z Z (m3take_ct om134 (by omega) 5 (by first|exact hb9|decide|omega)) (dc d0 dn) (kd (kc k0 kn)) ⟨tO9 om134.1,om134.2⟩ fun m137 hm137 om137 bm137=>?_))
 have w137_0:IntKind.i64.wrap (tVV 5 m134)=tVV 5 m134:=(IntWalk.i64_in _ (by have h9:=@tV9 5 (by omega) m134;omega))
 have tr137:=@tV9 5 (by omega) m134
 clear bm134
 refine js (jco U3 U21 Z Z) (js (jbu (v := .agg #[.int .i64 17,.int .i64 mm.nx,.int .i64 0,v,.int .i32 (IntKind.i32.wrap (tVV 5 m134))]) Z (fun _=>by obtain⟨_,_,_,rfl⟩:=w39;kernel_rfl)) (jfz k3 (by omega) (jkb E149 Z Z (m3add_ct (i:=⟨17,mm.nx,0,l,IntKind.i32.wrap (tVV 5 m134)⟩) om137 (by omega) b (by first|exact hb9|decide|omega)) (dc d1 (dc (rIns.M (m:=⟨17,mm.nx,0,l,IntKind.i32.wrap (tVV 5 m134)⟩) (c:=v) d0 (wl 17) (wp w134_0) (wl 0) (wp (JE.wrap_wrap _ _))) dn)) (kd (kc k0 kn)) ⟨add_ok om137.1 hbn,(addS_s.trans om137.2)⟩ p0 fun m140 hm140 om140 bm140 ua140 qs140 w45=>?_)))
 clear bm137
 refine jn (jbn ?_)
 have hst:m140=insS b m:=(by have hE:argsL b (tVV 5 m19).toNat [] m119=(l,mm):=(by rw[hR,show(tVV 5 m19).toNat-i=0 by omega];rfl);(try simp only[hm19,hm119,hm134,hm137,hm140] at hE hc1 hc3 hc4 hc6 hc7 hc8);(try simp only[hm19,hm119,hm134,hm137,hm140]);simp[insS,hc1,hc3,hc4,hc6,hc7,hc8,hE])
 exact jd0 Z (ua140,qs140) Z dn (fun _ _=>(kcb (by rw[←hst]) k0 (kcg (by rw[←hst]) k0 (kck (by rw[←hst]) k0 kn))))
 refine jq (jr (jm Z (js (jeql Z Z) (ja Z (jn (jx ?_))))))
 refine jif Z (fun hc9=>?_) (fun hc9=>?_)
 refine jq (jr (jm Z (jm Z (jkb E148 Z Z (m3some_ct om19 (by omega) b (by first|exact hb9|decide|omega)) (dc d0 dn) (kd (kc k0 kn)) ⟨some_ok om19.1 hbn,(someS_s.trans om19.2)⟩ p1 fun m146 hm146 om146 bm146 ua146 qs146 w46=>?_))))
 clear bm19
 refine ja Z (jn (jx (jq (jr (jm Z (jm Z (jkb E148 Z Z (m3some_ct om146 (by omega) b (by first|exact hb9|decide|omega)) (dc d1 dn) (kd (kc k0 kn)) ⟨some_ok om146.1 hbn,(someS_s.trans om146.2)⟩ p1 fun m149 hm149 om149 bm149 ua149 qs149 w48=>?_)))))))
 clear bm146
 refine ja Z (jn (jx (jq (jr (jm Z (jkr E99 Z Z (m3fresh_ct om149 (by omega)) (dc d2 dn) (kd (kc k0 kn)) ⟨fresh_ok om149.1,om149.2⟩ fun m151 hm151 om151 bm151=>?_))))))
 have w151_0:IntKind.i64.wrap (m149.nx)=m149.nx:=(IntWalk.i64_in _ (by omega))
 clear bm149
 refine ja Z (jn (jx (jr (jm Z (jm Z (jm Z (jm Z (jkr E99 Z Z (m3fresh_ct om151 (by omega)) (dc d2 dn) (kd (kc k0 kn)) ⟨fresh_ok om151.1,om151.2⟩ fun m156 hm156 om156 bm156=>?_))))))))
 have w156_0:IntKind.i64.wrap (m151.nx)=m151.nx:=(IntWalk.i64_in _ (by omega))
 clear bm151
 refine jm Z (jm Z (jlit (r:=(rI .i64)) (l:=[sV9 m19,sV9 m146]) U22 I3 (by decide) Z Z Z (lV Z Z (wI ((wfw d1))) (lV Z Z (wI ((wfw d0))) ln)) fun g159=>js (jbu (v := .agg #[.int .i64 18,.int .i64 m149.nx,.int .i64 m151.nx,(.slice (some ⟨g159,0,none⟩) 2 2),.int .i32 0]) Z (fun _=>by kernel_rfl)) (jfz k0 (by(try simp)<;>omega) (jkb E149 Z Z (m3add_ct (i:=⟨18,m149.nx,m151.nx,[sV9 m19,sV9 m146],0⟩) om156 (by omega) b (by first|exact hb9|decide|omega)) (dc d3 (dc (rIns.M (m:=⟨18,m149.nx,m151.nx,[sV9 m19,sV9 m146],0⟩) (c:=(.slice (some ⟨g159,0,none⟩) 2 2)) d0 (wl 18) (wp w151_0) (wp w156_0) (wl 0)) dn)) (kd (kc k0 kn)) ⟨add_ok om156.1 hbn,(addS_s.trans om156.2)⟩ p0 fun m161 hm161 om161 bm161 ua161 qs161 w51=>?_))))
 clear bm156
 refine jn (jbn ?_)
 have hst:m161=insS b m:=(by(try simp only[hm19,hm146,hm149,hm151,hm156,hm161] at hc1 hc3 hc4 hc6 hc7 hc9);(try simp only[hm19,hm146,hm149,hm151,hm156,hm161]);all_goals first|rfl|(simp[insS,hc1,hc3,hc4,hc6,hc7,hc9];done)|(simp[insS,hc1,hc3,hc4,hc6,hc7,hc9];rfl))
 exact jd0 Z (ua161,qs161) Z dn (fun _ _=>(kcb (by rw[←hst]) k0 (kcg (by rw[←hst]) k0 (kck (by rw[←hst]) k0 kn))))
 refine jr (jm Z (jm Z (jm Z (jkr E53 Z Z (m3word_ct om19 (by omega)) (dc d0 dn) (kd (kc k0 kn)) ⟨word_ok om19.1,om19.2⟩ fun m23 hm23 om23 bm23=>?_))))
 have w23_0:IntKind.i32.wrap (wordV m19)=wordV m19:=(word_w m19)
 clear bm19
 refine jkb E105 Z Z (m3const_ct om23 (by omega) b (wordV m19) (by first|exact hb9|decide|omega) w23_0) (dc d0 dn) (kd (kc k0 kn)) ⟨const_ok om23.1 hbn,(constS_s.trans om23.2)⟩ p1 fun m24 hm24 om24 bm24 ua24 qs24 w52=>?_
 clear bm23
 refine jn (jbn ?_)
 have hst:m24=insS b m:=(by(try simp only[hm19,hm23,hm24] at hc1 hc3 hc4 hc6 hc7 hc9);(try simp only[hm19,hm23,hm24]);all_goals first|rfl|(simp[insS,hc1,hc3,hc4,hc6,hc7,hc9];done)|(simp[insS,hc1,hc3,hc4,hc6,hc7,hc9];rfl))
 exact jd0 Z (ua24,qs24) Z dn (fun _ _=>(kcb (by rw[←hst]) k0 (kcg (by rw[←hst]) k0 (kck (by rw[←hst]) k0 kn))))
def tgA:Nat→Int→List (List Int)→Mk→List (List Int)×Mk
 | 0,_,to,m=>(to,m)
 | k+1,b,to,m =>
  if tVV 3 m=0 then tgA k (b+1) (to.set (tVV b (tSS m)).toNat (to.getD (tVV b (tSS m)).toNat []++[b])) (tSS (tSS m))
  else tgA k (b+1) (to.set (b-1).toNat (to.getD (b-1).toNat []++[b])) (tSS m)
def tgX(n b:Int)(m:Mk):Int×Mk :=
 if 1+tVV (n-1) m≤b then
  if tVV 2 (tSS m)=0 then (min (b+1) (n-1),tSS (tSS m)) else (1+tVV (n-1) m,tSS (tSS m))
 else (1+tVV (n-1) m,tSS m)
def tgI(n b:Int):Nat→List (List Int)→Mk→List (List Int)×Mk
 | 0,to,m=>(to,m)
 | k+1,to,m=>tgI n b k (to.set b.toNat (to.getD b.toNat []++[(tgX n b m).1])) (tgX n b m).2
def tgB(n:Int):Nat→Int→List (List Int)→Mk→List (List Int)×Mk
 | 0,_,to,m=>(to,m)
 | k+1,b,to,m=>tgB n k (b+1) (tgI n b (if 1<n then (tVV 6 m-3).toNat else 0) to (tSS m)).1 (tgI n b (if 1<n then (tVV 6 m-3).toNat else 0) to (tSS m)).2
def targA(n:Int)(m:Mk):List (List Int)×Mk:=tgA (n.toNat-1) 1 (List.replicate n.toNat []) m
def targM(n:Int)(m:Mk):List (List Int)×Mk:=tgB n n.toNat 0 (targA n m).1 (targA n m).2
theorem rows_set{ls:List (List Int)}{B:Nat}(h:∀j,(ls.getD j []).length≤B)(p:Nat)(x:Int):∀j,((ls.set p (ls.getD p []++[x])).getD j []).length≤B+1:=by
 intro j
 by_cases e:p=j
 ·subst e
  by_cases hp:p<ls.length
  ·have:=h p;simp[List.getD,hp] at *;omega
  ·simp[List.getD,hp]
 ·have:=h j;simp[List.getD,List.getElem?_set_ne e] at *;omega
theorem rows_mono{ls:List (List Int)}{B C:Nat}(h:∀j,(ls.getD j []).length≤B)(hc:B≤C):∀j,(ls.getD j []).length≤C:=fun j=>Nat.le_trans (h j) hc
theorem rows_rep{n B:Nat}:∀j,((List.replicate n ([]:List Int)).getD j []).length≤B:=by intro j;by_cases h:j<n<;>simp[List.getD,h]
section
variable{nb c:Nat}{m:Mk}
theorem tgA_ok:∀(k:Nat) (b:Int) (to:List (List Int)) {c:Nat} {m:Mk},okM nb c m→okM nb (c+2*k) (tgA k b to m).2
 | 0,_,_,_,_,h=>h
 | k+1,b,to,c,m,h=>by
  unfold tgA;split
  ·exact(tgA_ok k _ _ (tO9 (tO9 h))).mono (by omega)
  ·exact(tgA_ok k _ _ (tO9 h)).mono (by omega)
theorem tgX_ok{n b:Int}(h:okM nb c m):okM nb (c+2) (tgX n b m).2:=by
 unfold tgX;(repeat' split)
 ·exact tO9 (tO9 h)
 ·exact tO9 (tO9 h)
 ·exact(tO9 h).mono (by omega)
theorem tgI_ok{n b:Int}:∀(k:Nat) (to:List (List Int)) {c:Nat} {m:Mk},okM nb c m→okM nb (c+2*k) (tgI n b k to m).2
 | 0,_,_,_,h=>h
 | k+1,to,c,m,h=>by unfold tgI;exact(tgI_ok k _ (tgX_ok h)).mono (by omega)
theorem tgB_ok{n:Int}:∀(k:Nat) (b:Int) (to:List (List Int)) {c:Nat} {m:Mk},okM nb c m→okM nb (c+5*k) (tgB n k b to m).2
 | 0,_,_,_,_,h=>h
 | k+1,b,to,c,m,h=>by
  unfold tgB
  have h6:=tV9 (n:=6) (by omega) m
  refine(tgB_ok k (b+1) _ (c:=c+5) ?_).mono (by omega)
  exact(tgI_ok _ to (tO9 h)).mono (by split<;>omega)
theorem targ_ok{n:Int}(h:okM nb c m)(hn:n≤9):okM nb (c+70) (targM n m).2:=(tgB_ok _ _ _ (tgA_ok _ _ _ h)).mono (by omega)
end
theorem tgA_len:∀(k:Nat) (b:Int) (to:List (List Int)) (m:Mk),(tgA k b to m).1.length=to.length
 | 0,_,_,_=>rfl
 | k+1,b,to,m=>by unfold tgA;split<;>rw[tgA_len k]<;>simp
theorem tgI_len{n b:Int}:∀(k:Nat) (to:List (List Int)) (m:Mk),(tgI n b k to m).1.length=to.length
 | 0,_,_=>rfl
 | k+1,to,m=>by unfold tgI;rw[tgI_len k];simp
theorem tgB_len{n:Int}:∀(k:Nat) (b:Int) (to:List (List Int)) (m:Mk),(tgB n k b to m).1.length=to.length
 | 0,_,_,_=>rfl
 | k+1,b,to,m=>by unfold tgB;rw[tgB_len k,tgI_len]
theorem targM_len(n:Int)(m:Mk):(targM n m).1.length=n.toNat:=by unfold targM targA;rw[tgB_len,tgA_len];simp
theorem tgX_k{n b:Int}(m:Mk):∃k,(tgX n b m).2={ m with k:=k }:=by unfold tgX;(repeat' split);exact⟨_,rfl⟩;exact⟨_,rfl⟩;exact⟨_,rfl⟩
theorem tgA_k:∀(k:Nat) (b:Int) (to:List (List Int)) (m:Mk),∃q,(tgA k b to m).2={ m with k:=q }
 | 0,_,_,m=>⟨m.k,rfl⟩
 | k+1,b,to,m=>by
  unfold tgA;split
  ·obtain⟨q,hq⟩:=tgA_k k (b+1) (to.set (tVV b (tSS m)).toNat (to.getD (tVV b (tSS m)).toNat []++[b])) (tSS (tSS m));exact⟨q,hq⟩
  ·obtain⟨q,hq⟩:=tgA_k k (b+1) (to.set (b-1).toNat (to.getD (b-1).toNat []++[b])) (tSS m);exact⟨q,hq⟩
theorem tgI_k{n b:Int}:∀(k:Nat) (to:List (List Int)) (m:Mk),∃q,(tgI n b k to m).2={ m with k:=q }
 | 0,_,m=>⟨m.k,rfl⟩
 | k+1,to,m=>by
  unfold tgI
  obtain⟨q,hq⟩:=tgI_k k (to.set b.toNat (to.getD b.toNat []++[(tgX n b m).1])) (tgX n b m).2
  obtain⟨q2,hq2⟩:=tgX_k (n:=n) (b:=b) m
  rw[hq,hq2];exact⟨q,rfl⟩
theorem tgB_k{n:Int}:∀(k:Nat) (b:Int) (to:List (List Int)) (m:Mk),∃q,(tgB n k b to m).2={ m with k:=q }
 | 0,_,_,m=>⟨m.k,rfl⟩
 | k+1,b,to,m=>by
  unfold tgB
  obtain⟨q,hq⟩:=tgB_k (n:=n) k (b+1) (tgI n b (if 1<n then (tVV 6 m-3).toNat else 0) to (tSS m)).1 (tgI n b (if 1<n then (tVV 6 m-3).toNat else 0) to (tSS m)).2
  obtain⟨q2,hq2⟩:=tgI_k (n:=n) (b:=b) (if 1<n then (tVV 6 m-3).toNat else 0) to (tSS m)
  rw[hq,hq2];exact⟨q,rfl⟩
theorem targM_k(n:Int)(m:Mk):∃q,(targM n m).2={ m with k:=q }:=by
 obtain⟨q,hq⟩:=tgB_k (n:=n) n.toNat 0 (targA n m).1 (targA n m).2
 obtain⟨q2,hq2⟩:=tgA_k (n.toNat-1) 1 (List.replicate n.toNat []) m
 exact⟨q,by rw[targM,hq];rw[show(targA n m).2=_ from hq2]⟩
theorem targM_s{n:Int}{m:Mk}:(targM n m).2.s=m.s:=by obtain⟨q,h⟩:=targM_k n m;rw[h]
theorem targM_lv{n:Int}{m:Mk}:(targM n m).2.lv=m.lv:=by obtain⟨q,h⟩:=targM_k n m;rw[h]
theorem targM_bs{n:Int}{m:Mk}:(targM n m).2.bs=m.bs:=by obtain⟨q,h⟩:=targM_k n m;rw[h]
set_option maxRecDepth 4000 in
theorem m3targ_ct{vs vb al:Value}{m:Mk}{nb c:Nat}{S:List Int}{g0:Nat}(hok:okS nb c S m)(hc:c≤900000)(n:Int)(hn9:1≤n∧n≤9):KD Tryz.prog 97 [.int .i64 n] [] g0 vs vb al S (rL (rL (rI .i64))) ((targM n m).1) m ((targM n m).2):=by
 refine jenter (args:=[.pointer (some ⟨g0,0,none⟩),.int .i64 n]) Tryz.func97 rfl rfl rfl fun w0 X=>?_
 have bd0:=okM.bnd hok.1
 refine jq (jr (ja Z (jn (jx (jq (jr (jm Z (jmk (m:=(Int.toNat n)) (r:=rV) U52 I22 Z Z Z (by omega) (by omega) (by omega) (wV Z) Z fun g13=>jrn (r:=(rI .i64)) (T:=3) (Int.toNat n) (ja Z (jn ?_))))))))))
 refine jx (jq (jq (jr (ja Z (jn (jx (jb ?_)))))))
 refine jlp (u4 fun(k:Nat) (vs1:List Value) (ls:List (List Int)) (mm:Mk)=>⟨1≤k∧(k:Int)≤n∧vs1.length=n.toNat∧ls.length=n.toNat∧(∀j,(ls.getD j []).length≤k)∧tgA (n.toNat-1) 1 (List.replicate n.toNat []) m=tgA (n.toNat-k) k ls mm∧okS nb (c+2*k) S mm,[dv (rL (rI .i64)) vs S],[rw' X.n (rI .i64) 3 vs1 ls,gl X.n rV 22 (.slice (some ⟨g13,0,none⟩) (Int.toNat n) (Int.toNat n)) vs1,bx g0 106 [vs,.int .i64 mm.k,.int .i64 mm.par,vb,.int .i64 mm.nx,al]],[(0,.pointer (some ⟨g0,0,none⟩)),(1,.int .i64 n),(4,.slice none 0 0),(5,(.slice (some ⟨g13,0,none⟩) (Int.toNat n) (Int.toNat n))),(6,.int .i64 (↑k))],n.toNat-k⟩) (1,List.replicate (Int.toNat n) (.slice none 0 0),List.replicate (Int.toNat n) [],m) ⟨by omega,by omega,by simp,by simp,rows_rep,rfl,hok.mono (by omega)⟩ (dc d0 dn) (kd (kc k0 kn)) ⟨Z,Z,Z,Z,eqI (by omega),trivial⟩ ?_
 rintro⟨k,vs1,ls,mm⟩;dsimp only[u4];rintro⟨hk1,hk2,hvl,hll,hrw,hR,okL1⟩
 have bdL1:=okM.bnd okL1.1
 clear bd0
 refine jq (jq (jr (jm Z (jm Z (js (jlss Z Z) (jn (jx ?_)))))))
 refine jif Z (fun hc1=>?_) (fun hc1=>?_)
 refine jsk (jx (jq (jb (jq (jr (jm Z (js (jsub Z Z (by omega)) (ja Z (jn (jx (jq ?_)))))))))))
 refine jq (jr (jm Z (jka E54 Z Z (m3take_ct okL1 (by omega) 3 (by first|decide|omega)) (dc d0 dn) k2 ⟨tO9 okL1.1,okL1.2⟩ fun m22 hm22 om22 bm22=>?_)))
 have w22_0:IntKind.i64.wrap (tVV 3 mm)=tVV 3 mm:=(IntWalk.i64_in _ (by have h9:=@tV9 3 (by omega) mm;omega))
 have tr22:=@tV9 3 (by omega) mm
 clear bdL1
 refine js (jeql Z Z) (jn (jx ?_))
 refine jif Z (fun hc2=>?_) (fun hc2=>?_)
 refine jr (jm Z (jm Z (jka E54 Z Z (m3take_ct om22 (by omega) ↑k (by first|decide|omega)) (dc d0 dn) k0 ⟨tO9 om22.1,om22.2⟩ fun m26 hm26 om26 bm26=>?_)))
 have w26_0:IntKind.i64.wrap (tVV ↑k m22)=tVV ↑k m22:=(IntWalk.i64_in _ (by have h9:=@tV9 ↑k (by omega) m22;omega))
 have tr26:=@tV9 ↑k (by omega) m22
 clear bm22
 refine ja Z (jn (jx (jr (jm Z (jm Z (jm Z (jm Z (js (jig (i:=(Int.toNat (tVV ↑k m22))) U52 Z22 k2 Z Z (by omega) (by omega)) (js (jgW k2 (by omega) O22 Z) (jm Z ?_))))))))))
 have hz:=hrw (Int.toNat (tVV ↑k m22))
 refine jro (Int.toNat (tVV ↑k m22)) k1 (by omega) (by omega) (jgo k0 fun w2=>japv U22 I3 (by decide) Z Z k0 Z (wI (wp (IntWalk.i64_in _ (by omega)))) (by omega) (fun _=>Z) fun v35 _ w3=>js (jig (i:=(Int.toNat (tVV ↑k m22))) U52 Z22 k3 Z Z (by omega) (by omega)) (jsg k3 Z Z22 Z Z w3.one (by omega) (wV w3.one) (jru k1 k1 (by omega) (by omega) (jn (jbn (jx (jr (jm Z (js (jadd Z Z (by omega)) ?_)))))))))
 refine ja Z (jn ?_)
 exact jag (k+1,List.set vs1 (Int.toNat (tVV ((k:Nat):Int) m22)) v35,List.set ls (Int.toNat (tVV ((k:Nat):Int) m22)) ((List.getD ls (Int.toNat (tVV ((k:Nat):Int) m22)) [])++[((k:Nat):Int)]),m26) ⟨by dsimp only;omega,by dsimp only;omega,by simp[hvl],by simp[hll],rows_set hrw _ _,by dsimp only;rw[hR,show n.toNat-k=(n.toNat-(k+1))+1 by omega,tgA];(first|rw[if_pos ‹_›]|rw[if_neg ‹_›]);(try simp only[hm22,hm26]);rfl,om26.mono (by omega)⟩ (dc d0 dn) (kd (kc k0 kn)) ⟨Z,Z,Z,Z,eqI (by omega),trivial⟩
 refine jsk (jx (jr (jm Z (jm Z (jm Z (jm Z (js (jig (i:=(Int.toNat (↑k-1))) U52 Z22 k2 Z Z (by omega) (by omega)) (js (jgW k2 (by omega) O22 Z) (jm Z ?_)))))))))
 have hz:=hrw (Int.toNat (↑k-1))
 refine jro (Int.toNat (↑k-1)) k1 (by omega) (by omega) (jgo k0 fun w5=>japv U22 I3 (by decide) Z Z k0 Z (wI (wp (IntWalk.i64_in _ (by omega)))) (by omega) (fun _=>Z) fun v35_6 _ w7=>js (jig (i:=(Int.toNat (↑k-1))) U52 Z22 k3 Z Z (by omega) (by omega)) (jsg k3 Z Z22 Z Z w7.one (by omega) (wV w7.one) (jru k1 k1 (by omega) (by omega) (jn (jbn (jx (jr (jm Z (js (jadd Z Z (by omega)) ?_)))))))))
 refine ja Z (jn ?_)
 exact jag (k+1,List.set vs1 (Int.toNat (((k:Nat):Int)-1)) v35_6,List.set ls (Int.toNat (((k:Nat):Int)-1)) ((List.getD ls (Int.toNat (((k:Nat):Int)-1)) [])++[((k:Nat):Int)]),m22) ⟨by dsimp only;omega,by dsimp only;omega,by simp[hvl],by simp[hll],rows_set hrw _ _,by dsimp only;rw[hR,show n.toNat-k=(n.toNat-(k+1))+1 by omega,tgA];(first|rw[if_pos ‹_›]|rw[if_neg ‹_›]);(try simp only[hm22]);rfl,om22.mono (by omega)⟩ (dc d0 dn) (kd (kc k0 kn)) ⟨Z,Z,Z,Z,eqI (by omega),trivial⟩
 have hA1:targA n m=(ls,mm):=by rw[targA,hR,show n.toNat-k=0 by omega];rfl
 refine jex (jtx (jtx (jbh (jx (jq (jq (jr (ja Z (jn (jx (jb ?_)))))))))))
 refine jlp (u4 fun(b:Nat) (vs2:List Value) (lt:List (List Int)) (mn:Mk)=>⟨(b:Int)≤n∧vs2.length=n.toNat∧lt.length=n.toNat∧(∀j,(lt.getD j []).length≤10+2*b)∧tgB n n.toNat 0 ls mm=tgB n (n.toNat-b) b lt mn∧okS nb (c+20+5*b) S mn,[dv (rL (rI .i64)) vs S],[rw' X.n (rI .i64) 3 vs2 lt,gl X.n rV 22 (.slice (some ⟨g13,0,none⟩) (Int.toNat n) (Int.toNat n)) vs2,bx g0 106 [vs,.int .i64 mn.k,.int .i64 mn.par,vb,.int .i64 mn.nx,al]],[(0,.pointer (some ⟨g0,0,none⟩)),(1,.int .i64 n),(4,.slice none 0 0),(5,(.slice (some ⟨g13,0,none⟩) (Int.toNat n) (Int.toNat n))),(8,.int .i64 (↑b))],n.toNat-b⟩) (0,vs1,ls,mm) ⟨by omega,hvl,hll,rows_mono hrw (by omega),rfl,okL1.mono (by omega)⟩ (dc d0 dn) (kd (kc k0 kn)) ⟨Z,Z,Z,Z,eqI (by omega),trivial⟩ ?_
 rintro⟨b,vs2,lt,mn⟩;dsimp only[u4];rintro⟨hb1,hvl2,hll2,hrw2,hR2,okL2⟩
 have bdL2:=okM.bnd okL2.1
 clear bdL1
 refine jq (jq (jr (jm Z (jm Z (js (jlss Z Z) (jn (jx ?_)))))))
 refine jif Z (fun hc3=>?_) (fun hc3=>?_)
 refine jsk (jx (jq (jb (jq (jr (jm Z (jka E54 Z Z (m3take_ct okL2 (by omega) 6 (by first|decide|omega)) (dc d0 dn) k2 ⟨tO9 okL2.1,okL2.2⟩ fun m43 hm43 om43 bm43=>?_)))))))
 have w43_0:IntKind.i64.wrap (tVV 6 mn)=tVV 6 mn:=(IntWalk.i64_in _ (by have h9:=@tV9 6 (by omega) mn;omega))
 have tr43:=@tV9 6 (by omega) mn
 clear bdL2
 refine ja Z (jn (jx (jq (jr (ja Z (jn (jx (jb ?_))))))))
 refine jlp (u4 fun(i:Nat) (vs3:List Value) (lu:List (List Int)) (mo:Mk)=>⟨i≤(if 1<n then (tVV 6 mn-3).toNat else 0)∧vs3.length=n.toNat∧lu.length=n.toNat∧(∀j,(lu.getD j []).length≤10+2*b+i)∧tgI n b (if 1<n then (tVV 6 mn-3).toNat else 0) lt m43=tgI n b ((if 1<n then (tVV 6 mn-3).toNat else 0)-i) lu mo∧okS nb (c+20+5*b+1+2*i) S mo,[dv (rL (rI .i64)) vs S],[bx g0 106 [vs,.int .i64 mo.k,.int .i64 mo.par,vb,.int .i64 mo.nx,al],rw' X.n (rI .i64) 3 vs3 lu,gl X.n rV 22 (.slice (some ⟨g13,0,none⟩) (Int.toNat n) (Int.toNat n)) vs3],[(0,.pointer (some ⟨g0,0,none⟩)),(1,.int .i64 n),(4,.slice none 0 0),(5,(.slice (some ⟨g13,0,none⟩) (Int.toNat n) (Int.toNat n))),(8,.int .i64 (↑b)),(9,.int .i64 (tVV 6 mn)),(10,.int .i64 (↑i))],(if 1<n then (tVV 6 mn-3).toNat else 0)-i⟩) (0,vs2,lt,m43) ⟨Nat.zero_le _,hvl2,hll2,rows_mono hrw2 (by omega),rfl,om43.mono (by omega)⟩ (dc d0 dn) (kd (kc k0 kn)) ⟨Z,Z,Z,Z,Z,Z,eqI (by omega),trivial⟩ ?_
 rintro⟨i,vs3,lu,mo⟩;dsimp only[u4];rintro⟨hi1,hvl3,hll3,hrw3,hR3,okL3⟩
 have bdL3:=okM.bnd okL3.1
 clear bm43
 refine jq (jq (jr (jm Z (jm Z (js (jsub Z Z (by omega)) (js (jlss Z Z) (jm Z (jg Z Z (.t _) (fun hg=>jmv Z) (jg Z Z (.t _) (fun hg=>jgtr (evg Z hg) Z) (js (jand Z Z) (jn ?_)))))))))))
 refine jx ?_
 refine jif Z (fun hc4=>?_) (fun hc4=>?_)
 refine jsk (jx (jq (jb (jq (jr (jm Z (jm Z (js (jsub Z Z (by omega)) (jka E54 Z Z (m3take_ct okL3 (by omega) (n-1) (by first|decide|omega)) (dc d0 dn) k0 ⟨tO9 okL3.1,okL3.2⟩ fun m57 hm57 om57 bm57=>?_)))))))))
 have w57_0:IntKind.i64.wrap (tVV (n-1) mo)=tVV (n-1) mo:=(IntWalk.i64_in _ (by have h9:=@tV9 (n-1) (by omega) mo;omega))
 have tr57:=@tV9 (n-1) (by omega) mo
 clear bdL3
 refine js (jadd Z Z (by omega)) (ja Z (jn (jx (jq (jq (jr (jm Z (jm Z (js (jleq Z Z) (jm Z (jg Z Z (.t _) (fun hg=>jmv Z) ?_)))))))))))
 refine jkga Z Z (.t _) E54 Z (fun hg=>evl2 (evg Z hg) Z) (m3take_ct om57 (by omega) 2 (by first|decide|omega)) (dc d0 dn) k0 (by split;exact⟨tO9 om57.1,om57.2⟩;exact om57.mono (by omega)) fun m64 hm64 om64 bm64=>?_
 have w64_0:IntKind.i64.wrap (tVV 2 m57)=tVV 2 m57:=(IntWalk.i64_in _ (by have h9:=@tV9 2 (by omega) m57;omega))
 have tr64:=@tV9 2 (by omega) m57
 clear bm57
 refine jg Z Z (.t _) (fun hg=>jeql (evg Z hg) Z) (js (jand Z Z) (jn (jx ?_)))
 refine jif Z (fun hc5=>?_) (fun hc5=>?_)
 refine jr (jm Z (js (jadd Z Z (by omega)) (jm Z (js (jsub Z Z (by omega)) (js (jmin Z Z) (ja Z (jn (jx (jr (jm Z (jm Z ?_)))))))))))
 refine jm Z (jm Z (js (jig U52 Z22 k2 Z Z Z (by omega)) (js (jgW k2 (by omega) O22 Z) (jm Z ?_))))
 have hX:tgX n ((b:Nat):Int) mo=(min (((b:Nat):Int)+1) (n-1),m64):=by
  try simp only[hm57,hm64] at hc5
  simp only[hm57,hm64]
  by_cases hA:1+tVV (n-1) mo≤(b:Int)<;>by_cases hB:tVV 2 (tSS mo)=0<;>simp[hA,hB] at hc5<;>simp[tgX,hA,hB]
 have hz:=hrw3 b
 refine jro b k1 (by omega) (by omega) (jgo k0 fun w9=>japv U22 I3 (by decide) Z Z k0 Z (wI (wp (IntWalk.i64_in _ (by omega)))) (by omega) (fun _=>Z) fun v80 _ w10=>js (jig U52 Z22 k3 Z Z Z (by omega)) (jsg k3 Z Z22 Z Z w10.one (by omega) (wV w10.one) (jru k1 k1 (by omega) (by omega) (jn (jbn (jx (jr (jm Z (js (jadd Z Z (by omega)) ?_)))))))))
 refine ja Z (jn ?_)
 exact jag (i+1,List.set vs3 b v80,List.set lu b ((List.getD lu b [])++[min (((b:Nat):Int)+1) (n-1)]),m64) ⟨by dsimp only;split<;>omega,by simp[hvl3],by simp[hll3],rows_set hrw3 _ _,by dsimp only;rw[hR3,show(if 1<n then (tVV 6 mn-3).toNat else 0)-i=((if 1<n then (tVV 6 mn-3).toNat else 0)-(i+1))+1 by split<;>omega,tgI,hX];(first|done|rfl),om64.mono (by omega)⟩ (dc d0 dn) (kc k2 (kd kn)) ⟨Z,Z,Z,Z,Z,Z,eqI (by omega),trivial⟩ (by dsimp only;split<;>omega)
 refine jsk (jx (jr (jm Z (jm Z (jm Z (jm Z (js (jig U52 Z22 k2 Z Z Z (by omega)) (js (jgW k2 (by omega) O22 Z) (jm Z ?_)))))))))
 have hX:tgX n ((b:Nat):Int) mo=(1+(tVV (n-1) mo),m64):=by
  try simp only[hm57,hm64] at hc5
  simp only[hm57,hm64]
  by_cases hA:1+tVV (n-1) mo≤(b:Int)<;>by_cases hB:tVV 2 (tSS mo)=0<;>simp[hA,hB] at hc5<;>simp[tgX,hA,hB]
 have hz:=hrw3 b
 refine jro b k1 (by omega) (by omega) (jgo k0 fun w12=>japv U22 I3 (by decide) Z Z k0 Z (wI (wp (IntWalk.i64_in _ (by omega)))) (by omega) (fun _=>Z) fun v80_13 _ w14=>js (jig U52 Z22 k3 Z Z Z (by omega)) (jsg k3 Z Z22 Z Z w14.one (by omega) (wV w14.one) (jru k1 k1 (by omega) (by omega) (jn (jbn (jx (jr (jm Z (js (jadd Z Z (by omega)) ?_)))))))))
 refine ja Z (jn ?_)
 exact jag (i+1,List.set vs3 b v80_13,List.set lu b ((List.getD lu b [])++[1+(tVV (n-1) mo)]),m64) ⟨by dsimp only;split<;>omega,by simp[hvl3],by simp[hll3],rows_set hrw3 _ _,by dsimp only;rw[hR3,show(if 1<n then (tVV 6 mn-3).toNat else 0)-i=((if 1<n then (tVV 6 mn-3).toNat else 0)-(i+1))+1 by split<;>omega,tgI,hX];(first|done|rfl),om64.mono (by omega)⟩ (dc d0 dn) (kc k2 (kd kn)) ⟨Z,Z,Z,Z,Z,Z,eqI (by omega),trivial⟩ (by dsimp only;split<;>omega)
 have hI:tgI n ↑b (if 1<n then (tVV 6 mn-3).toNat else 0) lt (tSS mn)=(lu,mo):=by rw[←hm43,hR3,show(if 1<n then (tVV 6 mn-3).toNat else 0)-i=0 by split<;>omega];rfl
 have hJ9:(if 1<n then (tVV 6 mn-3).toNat else 0)≤2:=by have h6:=tV9 (n:=6) (by omega) mn;split<;>omega
 refine jex (jtx (jtx (jbh (jbn (jx (jr (jm Z (js (jadd Z Z (by omega)) (ja Z (jn ?_))))))))))
 exact jag (b+1,vs3,lu,mo) ⟨by dsimp only;omega,hvl3,hll3,rows_mono hrw3 (by omega),by dsimp only;rw[hR2,show n.toNat-b=(n.toNat-(b+1))+1 by omega,tgB,hI];rfl,okL3.mono (by omega)⟩ (dc d0 dn) (kc k1 (kc k1 (kc k0 kn))) ⟨Z,Z,Z,Z,eqI (by omega),trivial⟩
 have hT:targM n m=(lt,mn):=by rw[targM,hA1];dsimp only;rw[hR2,show n.toNat-b=0 by omega];rfl
 refine jex (jtx (jtx (jbh (jx (jq (jr (jm Z (ja Z (jn (jx (jrt ?_)))))))))))
 have hv0:(targM n m).1=lt:=(by rw[hT])
 have hst:mn=(targM n m).2:=(by rw[hT])
 refine qfr k1 k0 (by omega) (by omega) (fun l9 h9=>by obtain⟨j,hj,rfl⟩:=List.getElem_of_mem h9;have:=hrw2 j;simp[List.getD,hj] at this;omega) ?_
 exact jr1 Z Z (.slice (some ⟨g13,0,none⟩) (Int.toNat n) (Int.toNat n)) Z (dc (dcast hv0 d0) dn) (fun _ _=>(kcb (by rw[←hst]) k0 kn))
def predsT3(bs:List D.Block):Nat→Int→List Int
 | 0,_=>[]
 | k+1,b=>predsT3 bs k b++(if (ix bs k).Term.To.any (fun y=>decide (y=b)) then [(k:Int)] else [])
def pd3(f:D.Func)(b:Int):List Int:=predsT3 f.Blocks f.Blocks.length b
theorem predsT3_len(bs:List D.Block)(b:Int):∀k,(predsT3 bs k b).length≤k
 | 0=>by simp[predsT3]
 | k+1=>by have:=predsT3_len bs b k;rw[predsT3,List.length_append];split<;>simp<;>omega
theorem none_any{α:Type}{l:List α}{q:α→Bool}(h:∀x∈l,q x=false):l.any q=false:=by simpa[List.any_eq_false] using h
theorem none_snoc{α:Type}[Inhabited α]{l:List α}{q:α→Bool}{k:Nat}(hk:k<l.length)(h:∀x∈l.take k,q x=false)(h1:q (ix l k)=false):∀x∈l.take (k+1),q x=false:=by
 rw[take_ix hk];intro x hx;rcases List.mem_append.1 hx with hx|hx
 ·exact h x hx
 ·simp at hx;subst hx;exact h1
theorem any_at{α:Type}[Inhabited α]{l:List α}{q:α→Bool}{k:Nat}(hk:k<l.length)(h1:q (ix l k)=true):l.any q=true:=List.any_eq_true.2 ⟨_,ix_mem hk,h1⟩
def cnt3(l:List Bool):Nat:=l.countP (fun x=>!x)
theorem cnt3_set{l:List Bool}{i:Nat}(hi:i<l.length)(h:ix l i=false):cnt3 (l.set i true)+1=cnt3 l:=by
 unfold cnt3
 have h2:l[i]=false:=by rw[←ix_eq hi];exact h
 rw[List.countP_set hi]
 have:0<l.countP (fun x=>!x):=List.countP_pos_iff.2 ⟨_,List.getElem_mem hi,by simp[h2]⟩
 simp[h2];omega
theorem cnt3_rep(n:Nat):cnt3 (List.replicate n false)=n:=by simp[cnt3,List.countP_replicate]
theorem ix_rep(n i:Nat):ix (List.replicate n false) i=false:=by by_cases h:i<n<;>simp[ix,h]
def b3In(w:Int):List Bool→List Int→List Int→List Bool×List Int
 | se,q,[]=>(se,q)
 | se,q,t::ts=>if (0≤t∧t<se.length)∧ix se t.toNat=false∧t≠w then b3In w (se.set t.toNat true) (q++[t]) ts else b3In w se q ts
def b3(bs:List D.Block)(w:Int):Nat→List Bool→List Int→Nat→List Bool
 | 0,se,_,_=>se
 | f+1,se,q,i=>if i<q.length then b3 bs w f (b3In w se q (ix bs (ix q i).toNat).Term.To).1 (b3In w se q (ix bs (ix q i).toNat).Term.To).2 (i+1) else se
def reach3(f:D.Func)(w:Int):List Bool :=
 if w≠0∧0<f.Blocks.length then b3 f.Blocks w f.Blocks.length ((List.replicate f.Blocks.length false).set 0 true) [0] 0
 else List.replicate f.Blocks.length false
theorem b3_step{bs:List D.Block}{w:Int}{f i:Nat}{se se2:List Bool}{q q2:List Int}(hf:0<f)(hi:i<q.length)(h:b3In w se q (ix bs (ix q i).toNat).Term.To=(se2,q2)):b3 bs w f se q i=b3 bs w (f-1) se2 q2 (i+1):=by
 cases f with
 | zero=>omega
 | succ f=>rw[b3,if_pos hi,h];rfl
theorem b3_end{bs:List D.Block}{w:Int}{f i:Nat}{se:List Bool}{q:List Int}(hi:q.length≤i):b3 bs w f se q i=se:=by
 cases f with
 | zero=>rfl
 | succ f=>rw[b3,if_neg (by omega)]
theorem b3_nil{bs:List D.Block}{w:Int}{f:Nat}{se:List Bool}:b3 bs w f se [] 0=se:=b3_end (by simp)
theorem b3In_new{w:Int}{se se0:List Bool}{q q0 T:List Int}{j:Nat}(hj:j<T.length)(hIn:b3In w se q (T.drop j)=b3In w se0 q0 T)(h:(0≤ix T j∧ix T j<se.length)∧ix se (ix T j).toNat=false∧ix T j≠w):b3In w (se.set (ix T j).toNat true) (q++[ix T j]) (T.drop (j+1))=b3In w se0 q0 T:=by
 rw[←hIn,drop_ix hj,b3In,if_pos h]
theorem b3In_old{w:Int}{se se0:List Bool}{q q0 T:List Int}{j:Nat}(hj:j<T.length)(hIn:b3In w se q (T.drop j)=b3In w se0 q0 T)(h:¬((0≤ix T j∧ix T j<se.length)∧ix se (ix T j).toNat=false∧ix T j≠w)):b3In w se q (T.drop (j+1))=b3In w se0 q0 T:=by
 rw[←hIn,drop_ix hj,b3In,if_neg h]
theorem b3In_len{w:Int}:∀(T:List Int) (se:List Bool) (q:List Int),(b3In w se q T).1.length=se.length
 | [],_,_=>rfl
 | t::ts,se,q=>by rw[b3In];split;(· rw[b3In_len ts];simp);exact b3In_len ts se q
theorem b3_len{bs:List D.Block}{w:Int}:∀(f:Nat) (se:List Bool) (q:List Int) (i:Nat),(b3 bs w f se q i).length=se.length
 | 0,_,_,_=>rfl
 | f+1,se,q,i=>by rw[b3];split;(· rw[b3_len f,b3In_len]);rfl
theorem reach3_len(f:D.Func)(w:Int):(reach3 f w).length=f.Blocks.length:=by unfold reach3;split;(· rw[b3_len];simp);simp
def phT(b:Int)(i:Nat)(p:D.Phi):D.Tg3:=⟨b,-1-i,[p.Dst],p.In.map (·.Val)⟩
def phL(b:Int):Nat→List D.Phi→List D.Tg3
 | _,[]=>[]
 | i,p::l=>phT b i p::phL b (i+1) l
def inT(b:Int)(i:Nat)(x:D.Ins):D.Tg3:=⟨b,i,makes3 x,x.Args⟩
def inL(b:Int):Nat→List D.Ins→List D.Tg3
 | _,[]=>[]
 | i,x::l=>inT b i x::inL b (i+1) l
def enT(b:Int)(x:D.Block):D.Tg3:=⟨b,(x.Ins.length:Nat),[],x.Term.Args⟩
def blL:Nat→List D.Block→List D.Tg3
 | _,[]=>[]
 | b,x::l=>phL b 0 x.Phis++(inL b 0 x.Ins++(enT b x::blL (b+1) l))
def things3(f:D.Func):List D.Tg3:=blL 0 f.Blocks
theorem phL_len(b:Int):∀(l:List D.Phi) (i:Nat),(phL b i l).length=l.length
 | [],_=>rfl
 | _::l,i=>by simp[phL,phL_len b l]
theorem inL_len(b:Int):∀(l:List D.Ins) (i:Nat),(inL b i l).length=l.length
 | [],_=>rfl
 | _::l,i=>by simp[inL,inL_len b l]
theorem blL_len:∀(l:List D.Block) (b:Nat),(blL b l).length=cntT l
 | [],_=>rfl
 | x::l,b=>by simp[blL,cntT,phL_len,inL_len,blL_len l];omega
theorem pre_len{α:Type}{a b c:List α}(h:a=b++c):b.length≤a.length:=by rw[h];simp
theorem bl_0{a out:List D.Tg3}{l:List D.Block}{k:Nat}(hk:k<l.length)(h:a=out++blL k (l.drop k)):a=out++(phL k 0 ((ix l k).Phis.drop 0)++(inL k 0 (ix l k).Ins++(enT k (ix l k)::blL (k+1) (l.drop (k+1))))):=by rw[h,drop_ix hk,blL];rfl
theorem ph_1{a out r:List D.Tg3}{b:Int}{l:List D.Phi}{i:Nat}(hi:i<l.length)(h:a=out++(phL b i (l.drop i)++r)):a=(out++[phT b i (ix l i)])++(phL b (i+1) (l.drop (i+1))++r):=by rw[h,drop_ix hi,phL];simp
theorem ph_2{a out r:List D.Tg3}{b:Int}{l:List D.Phi}{i:Nat}(hi:l.length≤i)(h:a=out++(phL b i (l.drop i)++r)):a=out++r:=by rw[h,List.drop_of_length_le hi];rfl
theorem in_1{a out r:List D.Tg3}{b:Int}{l:List D.Ins}{i:Nat}(hi:i<l.length)(h:a=out++(inL b i (l.drop i)++r)):a=(out++[inT b i (ix l i)])++(inL b (i+1) (l.drop (i+1))++r):=by rw[h,drop_ix hi,inL];simp
theorem in_2{a out r:List D.Tg3}{b:Int}{l:List D.Ins}{i:Nat}(hi:l.length≤i)(h:a=out++(inL b i (l.drop i)++r)):a=out++r:=by rw[h,List.drop_of_length_le hi];rfl
theorem bl_1{a out r:List D.Tg3}{x:D.Tg3}(h:a=out++(x::r)):a=(out++[x])++r:=by rw[h];simp
theorem map_snoc{α β:Type}[Inhabited α]{g:α→β}{l:List α}{k:Nat}(hk:k<l.length):(l.take (k+1)).map g=(l.take k).map g++[g (ix l k)]:=by rw[take_ix hk];simp
def stands3(f:D.Func)(b:Int)(t:D.Tg3):Bool:=decide (t.Block=b)||!(ix (reach3 f t.Block) b.toNat)
def standL(f:D.Func)(b:Int)(l:List D.Tg3):List Int:=l.flatMap (fun t=>if stands3 f b t then t.Makes else [])
def numsL(n:Nat):List Int:=(List.range n).map (fun(i:Nat)=>(i:Int))
def stand3(f:D.Func)(b:Int):List Int:=numsL f.Params.toNat++standL f b (things3 f)
theorem numsL_s(n:Nat):numsL (n+1)=numsL n++[(n:Int)]:=by simp[numsL,List.range_succ]
theorem numsL_len(n:Nat):(numsL n).length=n:=by simp[numsL]
theorem standL_s{f:D.Func}{b:Int}{l:List D.Tg3}{k:Nat}(hk:k<l.length):standL f b (l.take (k+1))=standL f b (l.take k)++(if stands3 f b (ix l k) then (ix l k).Makes else []):=by
 rw[take_ix hk];simp[standL]
theorem makes_in{b:Int}:∀{l:List D.Ins} {i:Nat} {t:D.Tg3},t∈inL b i l→t.Makes.length≤2
 | [],_,_,h=>by cases h
 | x::l,i,t,h=>by
  rcases List.mem_cons.1 h with h|h
  ·subst h;exact makes3_len x
  ·exact makes_in h
theorem makes_ph{b:Int}:∀{l:List D.Phi} {i:Nat} {t:D.Tg3},t∈phL b i l→t.Makes.length≤2
 | [],_,_,h=>by cases h
 | x::l,i,t,h=>by
  rcases List.mem_cons.1 h with h|h
  ·subst h;simp[phT]
  ·exact makes_ph h
theorem makes_bl:∀{l:List D.Block} {b:Nat} {t:D.Tg3},t∈blL b l→t.Makes.length≤2
 | [],_,_,h=>by cases h
 | x::l,b,t,h=>by
  rw[blL] at h
  rcases List.mem_append.1 h with h|h
  ·exact makes_ph h
  ·rcases List.mem_append.1 h with h|h
   ·exact makes_in h
   ·rcases List.mem_cons.1 h with h|h
    ·subst h;simp[enT]
    ·exact makes_bl h
theorem standL_len{f:D.Func}{b:Int}:∀{l:List D.Tg3},(∀t∈l,t.Makes.length≤2)→(standL f b l).length≤2*l.length
 | [],_=>by simp[standL]
 | x::l,h=>by
  have h1:=standL_len (f:=f) (b:=b) (l:=l) (fun t ht=>h t (List.mem_cons_of_mem _ ht))
  have h2:=h x (List.mem_cons_self)
  unfold standL at *
  rw[List.flatMap_cons,List.length_append,List.length_cons]
  split
  ·omega
  ·simp only[List.length_nil];omega
theorem things3_len(f:D.Func):(things3 f).length=cntT f.Blocks:=blL_len _ _
theorem things3_mk(f:D.Func):∀t∈things3 f,t.Makes.length≤2:=fun _ h=>makes_bl h
theorem okM0(s:List Int):okM 0 0 ⟨s,0,0,[],0,[]⟩:=by simp[okM,cntT]
def wordsL:Nat→List Int→Mk→List Int×Mk
 | 0,l,m=>(l,m)
 | n+1,l,m=>wordsL n (l++[wordV m]) (wordS m)
theorem words_1{n i:Nat}{a l:List Int}{m0 m:Mk}(hi:i<n)(h:wordsL n a m0=wordsL (n-i) l m):wordsL n a m0=wordsL (n-(i+1)) (l++[wordV m]) (wordS m):=by
 rw[h,show n-i=(n-(i+1))+1 by omega];rfl
theorem words_2{n i:Nat}{a l:List Int}{m0 m:Mk}(hi:n≤i)(h:wordsL n a m0=wordsL (n-i) l m):wordsL n a m0=(l,m):=by
 rw[h,show n-i=0 by omega];rfl
def input3(s:List Int):D.Input :=
 let a:=wordsL 4 [] ⟨s,0,0,[],0,[]⟩
 let b:=wordsL (4+tVV 13 a.2).toNat [] (tSS a.2)
 let c:=wordsL (tVV 7 b.2).toNat [] (tSS b.2)
 ⟨a.1,b.1,c.1,300⟩
theorem r3preds_ct{a0:Value}{f:D.Func}(block:Int):Tg Tryz.prog 98 #[vFunc f a0,.int .i64 block] [da rFunc (vFunc f a0) f] [] (rI .i64) 3 (pd3 f block):=by
 refine jenter (args:=[vFunc f a0,.int .i64 block]) Tryz.func98 rfl rfl rfl fun w0 X=>?_
 refine jq (jr (jbox Z Z fun g2=>ja Z (jn (jx (jq (jr (jlit (r:=(rI .i64)) (l:=[]) U22 I3 (by decide) Z Z Z ln fun g9=>ja Z (jn (jx ?_)))))))))
 refine jq (jq (jr (ja Z (jn (jx (jb ?_))))))
 refine jlp (u3 fun(k:Nat) (vo:Value) (lo:List Int)=>⟨k≤f.Blocks.length∧lo=predsT3 f.Blocks k block,[da rFunc (vFunc f a0) f],[gl X.n (rI .i64) 3 vo lo,bx g2 104 [.int .i64 f.Params,a0]],[(1,.int .i64 block),(2,.pointer (some ⟨g2,0,none⟩)),(4,.slice none 0 0),(5,vo),(6,.int .i64 (↑k))],f.Blocks.length-k⟩) (0,(.slice (some ⟨g9,0,none⟩) 0 0),[]) ⟨by dsimp only;omega,rfl⟩ (dc d0 dn) (kd kn) ⟨Z,Z,Z,Z,eqI (by omega),trivial⟩ ?_
 rintro⟨k,vo,lo⟩;dsimp only[u3];rintro⟨hk,hlo⟩
 refine cgo k0 fun w1=>?_
 have hll:lo.length≤k:=by rw[hlo];exact predsT3_len _ _ _
 refine jq (jq (jr (jm Z (js (jf F104_1 Z) (js (jl k1 O102 Z Z) (jdq (rFunc.cB d0) fun q2 w2=>js (jln U102 (rFunc.cB d0) Z) (js (jlss Z Z) (jn (jx ?_)))))))))
 refine jif Z (fun hc1=>?_) (fun hc1=>?_)
 refine jsk (jx (jq (jb (jq (jr (js (jf F104_1 Z) (js (jl k1 O102 Z Z) (jm Z (js (jix U102 Z160 (rFunc.cB d0) Z Z Z (by omega)) (js (jf F160_2 Z) (js (jf F158_2 Z) ?_)))))))))))
 refine jev (jlV (rTerm.A_To (rBlock.A_Term (dix (rFunc.cB d0) k (by omega)))) O22 Z Z) fun v23 q3 w3=>ja Z (jn (jx (jq (jr (ja Z (jn (jx (jb ?_))))))))
 refine jlp (fun(j:Nat)=>⟨j≤(ix f.Blocks k).Term.To.length∧(∀x∈(ix f.Blocks k).Term.To.take j,decide (x=block)=false),[dv (rL (rI .i64)) v23 (((ix f.Blocks k).Term).To),da rFunc (vFunc f a0) f],[gl X.n (rI .i64) 3 vo lo,bx g2 104 [.int .i64 f.Params,a0]],[(1,.int .i64 block),(2,.pointer (some ⟨g2,0,none⟩)),(4,.slice none 0 0),(5,vo),(6,.int .i64 (↑k)),(7,v23),(8,.int .i64 (↑j))],(ix f.Blocks k).Term.To.length-j⟩) 0 ⟨Nat.zero_le _,by simp⟩ (dc d0 (dc d1 dn)) (kd kn) ⟨Z,Z,Z,Z,Z,Z,eqI (by omega),trivial⟩ ?_
 rintro j;dsimp only;rintro⟨hj,hno⟩
 refine jq (jq (jr (jm Z (jm Z (js (jln U22 d0 Z) (js (jlss Z Z) (jn (jx ?_))))))))
 refine jif Z (fun hc2=>?_) (fun hc2=>?_)
 refine jsk (jx (jq (jb (jq (jr (jm Z (jm Z (js (jix U22 Z3 d0 Z Z Z (by omega)) (js (jlI (dix d0 j (by omega)) O3 Z) (jm Z (js (jeql Z Z) ?_)))))))))))
 refine jn (jx ?_)
 refine jif Z (fun hc3=>?_) (fun hc3=>?_)
 refine jq (jr (jm Z (jm Z (japv U22 I3 (by decide) Z Z k0 Z (wI (wp (IntWalk.i64_in _ (by omega)))) (by omega) (fun _=>Z) fun v39 _ w5=>ja Z (jn (jx (jex (jbo (jtx (jtx ?_))))))))))
 refine jbh (jbn (jx (jr (jm Z (js (jadd Z Z (by omega)) (ja Z (jn ?_)))))))
 exact jag (k+1,v39,lo++[((k:Nat):Int)]) ⟨by dsimp only;omega,by dsimp only;rw[predsT3,any_at (k:=j) (by omega) (by simpa using hc3),hlo];simp⟩ (dc d1 dn) (kd kn) ⟨Z,Z,Z,Z,eqI (by omega),trivial⟩
 refine jsk (jbn (jx (jr (jm Z (js (jadd Z Z (by omega)) (ja Z (jn ?_)))))))
 exact jag (j+1) ⟨by omega,none_snoc (by omega) hno (by simpa using hc3)⟩ (dc d0 (dc d1 dn)) (kd kn) ⟨Z,Z,Z,Z,Z,Z,eqI (by omega),trivial⟩
 refine jex (jtx (jtx (jbh (jbn (jx (jr (jm Z (js (jadd Z Z (by omega)) (ja Z (jn ?_))))))))))
 exact jag (k+1,vo,lo) ⟨by dsimp only;omega,by dsimp only;rw[predsT3,none_any (l:=(ix f.Blocks k).Term.To) (by have h9:=hno;rw[List.take_of_length_le (by omega)] at h9;exact h9),hlo];simp⟩ (dc d1 dn) (kd kn) ⟨Z,Z,Z,Z,eqI (by omega),trivial⟩
 refine jex (jtx (jtx (jbh (jx (jq (jr (jm Z (ja Z (jn (jx (jrt ?_)))))))))))
 exact jrG Z Z (by have e9:k=f.Blocks.length:=(by omega);subst e9;exact hlo.symm) k0
set_option maxRecDepth 4000 in
theorem r3reach_ct{a0:Value}{f:D.Func}(without:Int):Tg Tryz.prog 100 #[vFunc f a0,.int .i64 without] [da rFunc (vFunc f a0) f] [] rB 4 (reach3 f without):=by
 refine jenter (args:=[vFunc f a0,.int .i64 without]) Tryz.func100 rfl rfl rfl fun w0 X=>?_
 refine jq (jr (jbox Z Z fun g2=>ja Z (jn (jx (jq (jr (js (jf F104_1 Z) (js (jl k0 O102 Z Z) (jdq (rFunc.cB d0) fun q1 w1=>js (jln U102 (rFunc.cB d0) Z) ?_)))))))))
 refine jmk (m:=(List.length f.Blocks)) (r:=rB) U93 I4 Z Z Z Z Z (by omega) wB Z fun g13=>ja Z (jn (jx (jq (jr (jlit (r:=(rI .i64)) (l:=[]) U22 I3 (by decide) Z Z Z ln fun g14=>ja Z (jn (jx (jq (jq ?_)))))))))
 refine jr (jm Z (js (jneq Z Z) (jm Z (jg Z Z (.t _) (fun hg=>jf F104_1 Z) (jg Z Z (.t _) (fun hg=>jl k2 O102 (evg Z hg) Z) (jg Z Z (.t _) (fun hg=>jln U102 (rFunc.cB d0) (evg Z hg)) (jg Z Z (.t _) (fun hg=>jgtr (evg Z hg) Z) (js (jand Z Z) (jn (jx ?_))))))))))
 refine jif Z (fun hc1=>?_) (fun hc1=>?_)
 refine jq (jr (jm Z (js (jig (i:=0) U93 Z4 k1 Z Z Z (by rw[lrep];omega)) (jsg k1 Z Z4 Z Z Z (by rw[lrep];omega) wB (jn (jx (jr (jm Z (japvz U22 I3 (by decide) Z Z k1 Z (wI (wl 0)) (fun _=>Z) fun v27 _ w2=>ja Z (jn ?_))))))))))
 refine jx (jq (jq (jr (ja Z (jn (jx (jb ?_)))))))
 refine jlp (u4 fun(i:Nat) (se:List Bool) (l:List Int) (vl:Value)=>⟨reach3 f without=b3 f.Blocks without (f.Blocks.length-i) se l i∧cnt3 se+l.length≤f.Blocks.length∧i≤l.length∧se.length=f.Blocks.length∧(∀x∈l,0≤x∧x<f.Blocks.length),[da rFunc (vFunc f a0) f],[gl X.n (rI .i64) 3 vl l,gl X.n rB 4 (.slice (some ⟨g13,0,none⟩) (List.length f.Blocks) (List.length f.Blocks)) se,bx g2 104 [.int .i64 f.Params,a0]],[(1,.int .i64 without),(2,.pointer (some ⟨g2,0,none⟩)),(4,.slice none 0 0),(5,(.slice (some ⟨g13,0,none⟩) (List.length f.Blocks) (List.length f.Blocks))),(6,vl),(7,.int .i64 (↑i))],f.Blocks.length-i⟩) (0,List.set (List.replicate (List.length f.Blocks) false) 0 true,[0],v27) ⟨by first|(unfold reach3;rw[if_pos (by omega)];rfl)|(unfold reach3;rw[if_neg (by omega)];exact b3_nil.symm),by dsimp only;first|(rw[cnt3_rep];simp;done)|(have h9:=cnt3_set (l:=List.replicate f.Blocks.length false) (i:=0) (by simp;omega) (ix_rep _ _);rw[cnt3_rep] at h9;simp only[List.length_cons,List.length_nil];omega),by simp,by simp,by first|(simp;done)|(simp;omega)⟩ (dc d0 dn) (kd (kc k0 kn)) ⟨Z,Z,Z,Z,Z,eqI (by omega),trivial⟩ ?_
 rintro⟨i,se,l,vl⟩;dsimp only[u4];rintro⟨hb,hcn,hil,hse,hq⟩
 refine cgo k0 fun w3=>jq (jq (jr (jm Z (jm Z (js (jlg U22 k0 Z) (js (jlss Z Z) (jn (jx ?_))))))))
 refine jif Z (fun hc2=>?_) (fun hc2=>?_)
 have hqi:=hq _ (ix_mem (l:=l) (i:=i) (by omega))
 refine jsk (jx (jq (jb (jq (jstl Mixed (by kernel_rfl) (jt (jf F104_1 Z) (jt (jl k2 O102 Z Z) (jt (jmv Z) (jt (jmv Z) (jt (jig U22 Z3 k0 Z Z Z (by omega)) (jt (jgI k0 (by omega) O3 Z) ?_)))))))))))
 refine jt (jix (i:=(Int.toNat (ix l i))) U102 Z160 (rFunc.cB d0) Z Z (by omega) (by omega)) (jt (jf F160_2 Z) (jt (jf F158_2 Z) (jtv (jlV (rTerm.A_To (rBlock.A_Term (dix (rFunc.cB d0) (Int.toNat (ix l i)) (by omega)))) O22 Z Z) fun v43 q4 w4=>jt (jas Z) (jdn (jx (jq (jr (ja Z (jn (jx ?_))))))))))
 refine jb ?_
 refine jlp (u4 fun(j:Nat) (se2:List Bool) (l2:List Int) (vl2:Value)=>⟨j≤(ix f.Blocks (Int.toNat (ix l i))).Term.To.length∧b3In without se2 l2 ((ix f.Blocks (Int.toNat (ix l i))).Term.To.drop j)=b3In without se l (ix f.Blocks (Int.toNat (ix l i))).Term.To∧cnt3 se2+l2.length≤f.Blocks.length∧se2.length=f.Blocks.length∧(∀x∈l2,0≤x∧x<f.Blocks.length)∧i<l2.length,[dv (rL (rI .i64)) v43 (((ix f.Blocks (Int.toNat (ix l i))).Term).To),da rFunc (vFunc f a0) f],[gl X.n (rI .i64) 3 vl2 l2,gl X.n rB 4 (.slice (some ⟨g13,0,none⟩) (List.length f.Blocks) (List.length f.Blocks)) se2,bx g2 104 [.int .i64 f.Params,a0]],[(1,.int .i64 without),(2,.pointer (some ⟨g2,0,none⟩)),(4,.slice none 0 0),(5,(.slice (some ⟨g13,0,none⟩) (List.length f.Blocks) (List.length f.Blocks))),(6,vl2),(7,.int .i64 (↑i)),(8,v43),(9,.int .i64 (↑j))],(ix f.Blocks (Int.toNat (ix l i))).Term.To.length-j⟩) (0,se,l,vl) ⟨Nat.zero_le _,rfl,hcn,hse,hq,by dsimp only;omega⟩ (dc d0 (dc d1 dn)) (kd (kc k0 kn)) ⟨Z,Z,Z,Z,Z,Z,Z,eqI (by omega),trivial⟩ ?_
 rintro⟨j,se2,l2,vl2⟩;dsimp only[u4];rintro⟨hj,hIn,hcn2,hse2,hq2,hi2⟩
 refine cgo k0 fun w6=>jq (jq (jr (jm Z (jm Z (js (jln U22 d0 Z) (js (jlss Z Z) (jn (jx ?_))))))))
 refine jif Z (fun hc3=>?_) (fun hc3=>?_)
 refine jsk (jx (jq (jb (jq (jr (jm Z (jm Z (js (jix U22 Z3 d0 Z Z Z (by omega)) (js (jlI (dix d0 j (by omega)) O3 Z) (js (jgeq Z Z) (jm Z ?_)))))))))))
 refine jg Z Z (.t _) (fun hg=>jmv Z) (jg Z Z (.t _) (fun hg=>jmv Z) (jg Z Z (.t _) (fun hg=>jix U22 Z3 d0 (evg Z hg) (evg Z hg) Z (by first|omega|(simp at hg;omega)|(simp only[List.length_set];omega)|(simp;done))) (jg Z Z (.t _) (fun hg=>jlI (dix d0 j (by first|omega|(simp at hg;omega)|(simp only[List.length_set];omega)|(simp;done))) O3 (evg Z hg)) (jg Z Z (.t _) (fun hg=>jmv Z) (jg Z Z (.t _) (fun hg=>jlg U93 k1 (evg Z hg)) (jg Z Z (.t _) (fun hg=>jlss (evg Z hg) (evg Z hg)) (js (jand Z Z) (jm Z (jg Z Z (.t _) (fun hg=>jmv Z) (jg Z Z (.t _) (fun hg=>jmv Z) (jg Z Z (.t _) (fun hg=>jmv Z) ?_)))))))))))
 refine jg Z Z (.t _) (fun hg=>jix U22 Z3 d0 (evg Z hg) (evg Z hg) Z (by first|omega|(simp at hg;omega)|(simp only[List.length_set];omega)|(simp;done))) (jg Z Z (.t _) (fun hg=>jlI (dix d0 j (by first|omega|(simp at hg;omega)|(simp only[List.length_set];omega)|(simp;done))) O3 (evg Z hg)) (jg Z Z (.t _) (fun hg=>jig (i:=(Int.toNat (ix (((ix f.Blocks (Int.toNat (ix l i))).Term).To) j))) U93 Z4 k1 (evg Z hg) (evg Z hg) (by first|omega|(simp at hg;omega)) (by first|omega|(simp at hg;omega)|(simp only[List.length_set];omega)|(simp;done))) (jg Z Z (.t _) (fun hg=>jgB k1 (by first|omega|(simp at hg;omega)|(simp only[List.length_set];omega)|(simp;done)) O4 (evg Z hg)) (jg Z Z (.t _) (fun hg=>jnot (evg Z hg)) (js (jand Z Z) (jm Z (jg Z Z (.t _) (fun hg=>jmv Z) (jg Z Z (.t _) (fun hg=>jmv Z) (jg Z Z (.t _) (fun hg=>jix U22 Z3 d0 (evg Z hg) (evg Z hg) Z (by first|omega|(simp at hg;omega)|(simp only[List.length_set];omega)|(simp;done))) (jg Z Z (.t _) (fun hg=>jlI (dix d0 j (by first|omega|(simp at hg;omega)|(simp only[List.length_set];omega)|(simp;done))) O3 (evg Z hg)) (jg Z Z (.t _) (fun hg=>jmv Z) ?_)))))))))))
 refine jg Z Z (.t _) (fun hg=>jneq (evg Z hg) (evg Z hg)) (js (jand Z Z) (jn (jx ?_)))
 refine jif Z (fun hc4=>?_) (fun hc4=>?_)
 have hcx:((0≤ix (ix f.Blocks (Int.toNat (ix l i))).Term.To j∧ix (ix f.Blocks (Int.toNat (ix l i))).Term.To j<se2.length)∧ix se2 (Int.toNat (ix (ix f.Blocks (Int.toNat (ix l i))).Term.To j))=false∧ix (ix f.Blocks (Int.toNat (ix l i))).Term.To j≠without):=by simpa[and_assoc] using hc4
 refine jq (jr (jm Z (jm Z (jm Z (js (jix U22 Z3 d0 Z Z Z (by omega)) (js (jlI (dix d0 j (by omega)) O3 Z) (js (jig (i:=(Int.toNat (ix (((ix f.Blocks (Int.toNat (ix l i))).Term).To) j))) U93 Z4 k1 Z Z (by omega) (by omega)) (jsg k1 Z Z4 Z Z Z (by omega) wB (jn (jx (jr ?_)))))))))))
 refine jm Z (jm Z (jm Z (js (jix U22 Z3 d0 Z Z Z (by omega)) (js (jlI (dix d0 j (by omega)) O3 Z) (japv U22 I3 (by decide) Z Z k1 Z (wI (wad (dix d0 j (by omega)))) (by omega) (fun _=>Z) fun v94 _ w7=>ja Z (jn (jbn (jx (jr (jm Z ?_))))))))))
 refine js (jadd Z Z (by omega)) (ja Z (jn ?_))
 exact jag (j+1,List.set se2 (Int.toNat (ix (((ix f.Blocks (Int.toNat (ix l i))).Term).To) j)) true,l2++[ix (((ix f.Blocks (Int.toNat (ix l i))).Term).To) j],v94) ⟨by dsimp only;omega,b3In_new (by omega) hIn hcx,by dsimp only;have h9:=cnt3_set (l:=se2) (i:=Int.toNat (ix (ix f.Blocks (Int.toNat (ix l i))).Term.To j)) (by omega) hcx.2.1;rw[List.length_append];simp;omega,by dsimp only;rw[List.length_set];exact hse2,by dsimp only;intro x hx9;rcases List.mem_append.1 hx9 with h9|h9;(· exact hq2 x h9);(simp at h9;subst h9;omega),by dsimp only;rw[List.length_append];omega⟩ (dc d0 (dc d1 dn)) (kd (kc k0 kn)) ⟨Z,Z,Z,Z,Z,Z,Z,eqI (by omega),trivial⟩
 have hcx:¬((0≤ix (ix f.Blocks (Int.toNat (ix l i))).Term.To j∧ix (ix f.Blocks (Int.toNat (ix l i))).Term.To j<se2.length)∧ix se2 (Int.toNat (ix (ix f.Blocks (Int.toNat (ix l i))).Term.To j))=false∧ix (ix f.Blocks (Int.toNat (ix l i))).Term.To j≠without):=by rintro⟨⟨a1,a2⟩,a3,a4⟩;simp[a3,a4] at hc4;omega
 refine jsk (jbn (jx (jr (jm Z (js (jadd Z Z (by omega)) (ja Z (jn ?_)))))))
 exact jag (j+1,se2,l2,vl2) ⟨by dsimp only;omega,b3In_old (by omega) hIn hcx,hcn2,hse2,hq2,hi2⟩ (dc d0 (dc d1 dn)) (kd (kc k0 kn)) ⟨Z,Z,Z,Z,Z,Z,Z,eqI (by omega),trivial⟩
 refine jex (jtx (jtx (jbh (jbn (jx (jr (jm Z (js (jadd Z Z (by omega)) (ja Z (jn ?_))))))))))
 exact jag (i+1,se2,l2,vl2) ⟨by dsimp only;rw[hb,b3_step (by omega) (by omega) (show b3In _ _ _ _=(se2,l2) by rw[←hIn,List.drop_of_length_le (by omega)];rfl),show f.Blocks.length-i-1=f.Blocks.length-(i+1) by omega],by dsimp only;omega,by dsimp only;omega,hse2,hq2⟩ (dc d1 dn) (kd (kc k0 kn)) ⟨Z,Z,Z,Z,Z,eqI (by omega),trivial⟩
 refine jex (jtx (jtx (jbh (jx (jq (jr (jm Z (ja Z (jn (jx (jrt ?_)))))))))))
 exact jrG Z Z (by rw[hb];exact b3_end (by omega)) k1
 refine jsk (jx (jq (jq (jr (ja Z (jn (jx (jb ?_))))))))
 refine jlp (u4 fun(i:Nat) (se:List Bool) (l:List Int) (vl:Value)=>⟨reach3 f without=b3 f.Blocks without (f.Blocks.length-i) se l i∧cnt3 se+l.length≤f.Blocks.length∧i≤l.length∧se.length=f.Blocks.length∧(∀x∈l,0≤x∧x<f.Blocks.length),[da rFunc (vFunc f a0) f],[gl X.n (rI .i64) 3 vl l,gl X.n rB 4 (.slice (some ⟨g13,0,none⟩) (List.length f.Blocks) (List.length f.Blocks)) se,bx g2 104 [.int .i64 f.Params,a0]],[(1,.int .i64 without),(2,.pointer (some ⟨g2,0,none⟩)),(4,.slice none 0 0),(5,(.slice (some ⟨g13,0,none⟩) (List.length f.Blocks) (List.length f.Blocks))),(6,vl),(7,.int .i64 (↑i))],f.Blocks.length-i⟩) (0,List.replicate (List.length f.Blocks) false,[],(.slice (some ⟨g14,0,none⟩) 0 0)) ⟨by first|(unfold reach3;rw[if_pos (by omega)];rfl)|(unfold reach3;rw[if_neg (by omega)];exact b3_nil.symm),by dsimp only;first|(rw[cnt3_rep];simp;done)|(have h9:=cnt3_set (l:=List.replicate f.Blocks.length false) (i:=0) (by simp;omega) (ix_rep _ _);rw[cnt3_rep] at h9;simp only[List.length_cons,List.length_nil];omega),by simp,by simp,by first|(simp;done)|(simp;omega)⟩ (dc d0 dn) (kd (kc k0 kn)) ⟨Z,Z,Z,Z,Z,eqI (by omega),trivial⟩ ?_
 rintro⟨i,se,l,vl⟩;dsimp only[u4];rintro⟨hb,hcn,hil,hse,hq⟩
 refine cgo k0 fun w8=>jq (jq (jr (jm Z (jm Z (js (jlg U22 k0 Z) (js (jlss Z Z) (jn (jx ?_))))))))
 refine jif Z (fun hc5=>?_) (fun hc5=>?_)
 have hqi:=hq _ (ix_mem (l:=l) (i:=i) (by omega))
 refine jsk (jx (jq (jb (jq (jstl Mixed (by kernel_rfl) (jt (jf F104_1 Z) (jt (jl k2 O102 Z Z) (jt (jmv Z) (jt (jmv Z) (jt (jig U22 Z3 k0 Z Z Z (by omega)) (jt (jgI k0 (by omega) O3 Z) ?_)))))))))))
 refine jt (jix (i:=(Int.toNat (ix l i))) U102 Z160 (rFunc.cB d0) Z Z (by omega) (by omega)) (jt (jf F160_2 Z) (jt (jf F158_2 Z) (jtv (jlV (rTerm.A_To (rBlock.A_Term (dix (rFunc.cB d0) (Int.toNat (ix l i)) (by omega)))) O22 Z Z) fun v43_9 q10 w10=>jt (jas Z) (jdn (jx (jq (jr (ja Z (jn (jx ?_))))))))))
 refine jb ?_
 refine jlp (u4 fun(j:Nat) (se2:List Bool) (l2:List Int) (vl2:Value)=>⟨j≤(ix f.Blocks (Int.toNat (ix l i))).Term.To.length∧b3In without se2 l2 ((ix f.Blocks (Int.toNat (ix l i))).Term.To.drop j)=b3In without se l (ix f.Blocks (Int.toNat (ix l i))).Term.To∧cnt3 se2+l2.length≤f.Blocks.length∧se2.length=f.Blocks.length∧(∀x∈l2,0≤x∧x<f.Blocks.length)∧i<l2.length,[dv (rL (rI .i64)) v43_9 (((ix f.Blocks (Int.toNat (ix l i))).Term).To),da rFunc (vFunc f a0) f],[gl X.n (rI .i64) 3 vl2 l2,gl X.n rB 4 (.slice (some ⟨g13,0,none⟩) (List.length f.Blocks) (List.length f.Blocks)) se2,bx g2 104 [.int .i64 f.Params,a0]],[(1,.int .i64 without),(2,.pointer (some ⟨g2,0,none⟩)),(4,.slice none 0 0),(5,(.slice (some ⟨g13,0,none⟩) (List.length f.Blocks) (List.length f.Blocks))),(6,vl2),(7,.int .i64 (↑i)),(8,v43_9),(9,.int .i64 (↑j))],(ix f.Blocks (Int.toNat (ix l i))).Term.To.length-j⟩) (0,se,l,vl) ⟨Nat.zero_le _,rfl,hcn,hse,hq,by dsimp only;omega⟩ (dc d0 (dc d1 dn)) (kd (kc k0 kn)) ⟨Z,Z,Z,Z,Z,Z,Z,eqI (by omega),trivial⟩ ?_
 rintro⟨j,se2,l2,vl2⟩;dsimp only[u4];rintro⟨hj,hIn,hcn2,hse2,hq2,hi2⟩
 refine cgo k0 fun w12=>jq (jq (jr (jm Z (jm Z (js (jln U22 d0 Z) (js (jlss Z Z) (jn (jx ?_))))))))
 refine jif Z (fun hc6=>?_) (fun hc6=>?_)
 refine jsk (jx (jq (jb (jq (jr (jm Z (jm Z (js (jix U22 Z3 d0 Z Z Z (by omega)) (js (jlI (dix d0 j (by omega)) O3 Z) (js (jgeq Z Z) (jm Z ?_)))))))))))
 refine jg Z Z (.t _) (fun hg=>jmv Z) (jg Z Z (.t _) (fun hg=>jmv Z) (jg Z Z (.t _) (fun hg=>jix U22 Z3 d0 (evg Z hg) (evg Z hg) Z (by first|omega|(simp at hg;omega)|(simp only[List.length_set];omega)|(simp;done))) (jg Z Z (.t _) (fun hg=>jlI (dix d0 j (by first|omega|(simp at hg;omega)|(simp only[List.length_set];omega)|(simp;done))) O3 (evg Z hg)) (jg Z Z (.t _) (fun hg=>jmv Z) (jg Z Z (.t _) (fun hg=>jlg U93 k1 (evg Z hg)) (jg Z Z (.t _) (fun hg=>jlss (evg Z hg) (evg Z hg)) (js (jand Z Z) (jm Z (jg Z Z (.t _) (fun hg=>jmv Z) (jg Z Z (.t _) (fun hg=>jmv Z) (jg Z Z (.t _) (fun hg=>jmv Z) ?_)))))))))))
 refine jg Z Z (.t _) (fun hg=>jix U22 Z3 d0 (evg Z hg) (evg Z hg) Z (by first|omega|(simp at hg;omega)|(simp only[List.length_set];omega)|(simp;done))) (jg Z Z (.t _) (fun hg=>jlI (dix d0 j (by first|omega|(simp at hg;omega)|(simp only[List.length_set];omega)|(simp;done))) O3 (evg Z hg)) (jg Z Z (.t _) (fun hg=>jig (i:=(Int.toNat (ix (((ix f.Blocks (Int.toNat (ix l i))).Term).To) j))) U93 Z4 k1 (evg Z hg) (evg Z hg) (by first|omega|(simp at hg;omega)) (by first|omega|(simp at hg;omega)|(simp only[List.length_set];omega)|(simp;done))) (jg Z Z (.t _) (fun hg=>jgB k1 (by first|omega|(simp at hg;omega)|(simp only[List.length_set];omega)|(simp;done)) O4 (evg Z hg)) (jg Z Z (.t _) (fun hg=>jnot (evg Z hg)) (js (jand Z Z) (jm Z (jg Z Z (.t _) (fun hg=>jmv Z) (jg Z Z (.t _) (fun hg=>jmv Z) (jg Z Z (.t _) (fun hg=>jix U22 Z3 d0 (evg Z hg) (evg Z hg) Z (by first|omega|(simp at hg;omega)|(simp only[List.length_set];omega)|(simp;done))) (jg Z Z (.t _) (fun hg=>jlI (dix d0 j (by first|omega|(simp at hg;omega)|(simp only[List.length_set];omega)|(simp;done))) O3 (evg Z hg)) (jg Z Z (.t _) (fun hg=>jmv Z) ?_)))))))))))
 refine jg Z Z (.t _) (fun hg=>jneq (evg Z hg) (evg Z hg)) (js (jand Z Z) (jn (jx ?_)))
 refine jif Z (fun hc7=>?_) (fun hc7=>?_)
 have hcx:((0≤ix (ix f.Blocks (Int.toNat (ix l i))).Term.To j∧ix (ix f.Blocks (Int.toNat (ix l i))).Term.To j<se2.length)∧ix se2 (Int.toNat (ix (ix f.Blocks (Int.toNat (ix l i))).Term.To j))=false∧ix (ix f.Blocks (Int.toNat (ix l i))).Term.To j≠without):=by simpa[and_assoc] using hc7
 refine jq (jr (jm Z (jm Z (jm Z (js (jix U22 Z3 d0 Z Z Z (by omega)) (js (jlI (dix d0 j (by omega)) O3 Z) (js (jig (i:=(Int.toNat (ix (((ix f.Blocks (Int.toNat (ix l i))).Term).To) j))) U93 Z4 k1 Z Z (by omega) (by omega)) (jsg k1 Z Z4 Z Z Z (by omega) wB (jn (jx (jr ?_)))))))))))
 refine jm Z (jm Z (jm Z (js (jix U22 Z3 d0 Z Z Z (by omega)) (js (jlI (dix d0 j (by omega)) O3 Z) (japv U22 I3 (by decide) Z Z k1 Z (wI (wad (dix d0 j (by omega)))) (by omega) (fun _=>Z) fun v94_13 _ w14=>ja Z (jn (jbn (jx (jr (jm Z ?_))))))))))
 refine js (jadd Z Z (by omega)) (ja Z (jn ?_))
 exact jag (j+1,List.set se2 (Int.toNat (ix (((ix f.Blocks (Int.toNat (ix l i))).Term).To) j)) true,l2++[ix (((ix f.Blocks (Int.toNat (ix l i))).Term).To) j],v94_13) ⟨by dsimp only;omega,b3In_new (by omega) hIn hcx,by dsimp only;have h9:=cnt3_set (l:=se2) (i:=Int.toNat (ix (ix f.Blocks (Int.toNat (ix l i))).Term.To j)) (by omega) hcx.2.1;rw[List.length_append];simp;omega,by dsimp only;rw[List.length_set];exact hse2,by dsimp only;intro x hx9;rcases List.mem_append.1 hx9 with h9|h9;(· exact hq2 x h9);(simp at h9;subst h9;omega),by dsimp only;rw[List.length_append];omega⟩ (dc d0 (dc d1 dn)) (kd (kc k0 kn)) ⟨Z,Z,Z,Z,Z,Z,Z,eqI (by omega),trivial⟩
 have hcx:¬((0≤ix (ix f.Blocks (Int.toNat (ix l i))).Term.To j∧ix (ix f.Blocks (Int.toNat (ix l i))).Term.To j<se2.length)∧ix se2 (Int.toNat (ix (ix f.Blocks (Int.toNat (ix l i))).Term.To j))=false∧ix (ix f.Blocks (Int.toNat (ix l i))).Term.To j≠without):=by rintro⟨⟨a1,a2⟩,a3,a4⟩;simp[a3,a4] at hc7;omega
 refine jsk (jbn (jx (jr (jm Z (js (jadd Z Z (by omega)) (ja Z (jn ?_)))))))
 exact jag (j+1,se2,l2,vl2) ⟨by dsimp only;omega,b3In_old (by omega) hIn hcx,hcn2,hse2,hq2,hi2⟩ (dc d0 (dc d1 dn)) (kd (kc k0 kn)) ⟨Z,Z,Z,Z,Z,Z,Z,eqI (by omega),trivial⟩
 refine jex (jtx (jtx (jbh (jbn (jx (jr (jm Z (js (jadd Z Z (by omega)) (ja Z (jn ?_))))))))))
 exact jag (i+1,se2,l2,vl2) ⟨by dsimp only;rw[hb,b3_step (by omega) (by omega) (show b3In _ _ _ _=(se2,l2) by rw[←hIn,List.drop_of_length_le (by omega)];rfl),show f.Blocks.length-i-1=f.Blocks.length-(i+1) by omega],by dsimp only;omega,by dsimp only;omega,hse2,hq2⟩ (dc d1 dn) (kd (kc k0 kn)) ⟨Z,Z,Z,Z,Z,eqI (by omega),trivial⟩
 refine jex (jtx (jtx (jbh (jx (jq (jr (jm Z (ja Z (jn (jx (jrt ?_)))))))))))
 exact jrG Z Z (by rw[hb];exact b3_end (by omega)) k1
abbrev U194:=@Tryz.underlying194
theorem A160:∃d,Tryz.prog.underlying 160=some d∧(match d with | .struct _ | .array _ _=>true|_=>false)=true:=⟨_,Tryz.underlying160,rfl⟩
theorem A197:∃d,Tryz.prog.underlying 197=some d∧(match d with | .struct _ | .array _ _=>true|_=>false)=true:=⟨_,Tryz.underlying197,rfl⟩
theorem F160_0:Fld Tryz.prog 160 0 0:=⟨_,_,Tryz.underlying160,rfl,rfl,1,(by unfold Sz;kernel_rfl),by decide⟩
theorem F163_3:Fld Tryz.prog 163 3 3:=⟨_,_,Tryz.underlying163,rfl,rfl,1,(by unfold Sz;kernel_rfl),by decide⟩
theorem F197_3:Fld Tryz.prog 197 3 3:=⟨_,_,Tryz.underlying197,rfl,rfl,1,(by unfold Sz;kernel_rfl),by decide⟩
theorem I197:(Tryz.prog.info? 197).map (fun i=>(i.zero,i.size,i.bytes))=some (some (.agg #[.int .i64 0,.int .i64 0,.slice none 0 0,.slice none 0 0]),4,64):=by kernel_rfl
theorem Z197:Sz Tryz.prog 197 4:=by unfold Sz;kernel_rfl
theorem J160:(Tryz.prog.info? 160).bind (·.zero)=some (.agg #[.slice none 0 0,.slice none 0 0,.int .i64 0,.slice none 0 0,.slice none 0 0,.int .i32 0]):=by kernel_rfl
theorem J197:(Tryz.prog.info? 197).bind (·.zero)=some (.agg #[.int .i64 0,.int .i64 0,.slice none 0 0,.slice none 0 0]):=by kernel_rfl
set_option maxRecDepth 8000 in
set_option maxHeartbeats 1000000 in
theorem r3things_ct{a0:Value}{f:D.Func}(hsz:cntT f.Blocks<1000000000):Td Tryz.prog 140 #[vFunc f a0] [da rFunc (vFunc f a0) f] [] (rL rTg3) (things3 f):=by
 refine jenter (args:=[vFunc f a0]) Tryz.func140 rfl rfl rfl fun w0 X=>?_
 have htl:=things3_len f
 refine jq (jr (jbox Z Z fun g1=>ja Z (jn (jx (jq (jr (jlit (r:=rTg3) (l:=[]) U194 I197 (by decide) Z Z Z ln fun g10=>ja Z (jn (jx ?_)))))))))
 refine jq (jq (jr (ja Z (jn (jx (jb ?_))))))
 refine jlp (u3 fun(k:Nat) (vo:Value) (out:List D.Tg3)=>⟨k≤f.Blocks.length∧things3 f=out++blL k (f.Blocks.drop k),[da rFunc (vFunc f a0) f],[gl X.n rTg3 197 vo out,bx g1 104 [.int .i64 f.Params,a0]],[(1,.pointer (some ⟨g1,0,none⟩)),(2,.slice none 0 0),(3,vo),(4,.int .i64 (↑k))],f.Blocks.length-k⟩) (0,(.slice (some ⟨g10,0,none⟩) 0 0),[]) ⟨Nat.zero_le _,rfl⟩ (dc d0 dn) (kd kn) ⟨Z,Z,Z,eqI (by omega),trivial⟩ ?_
 rintro⟨k,vo,out⟩;dsimp only[u3];rintro⟨hk,hB⟩
 refine cgo k0 fun w1=>?_
 have hpl1:=pre_len hB
 refine jq (jq (jr (jm Z (js (jf F104_1 Z) (js (jl k1 O102 Z Z) (jdq (rFunc.cB d0) fun q2 w2=>js (jln U102 (rFunc.cB d0) Z) (js (jlss Z Z) (jn (jx ?_)))))))))
 refine jif Z (fun hc1=>?_) (fun hc1=>?_)
 refine jsk (jx (jq (jb (jq (jr (js (jf F104_1 Z) (js (jl k1 O102 Z Z) (jm Z (js (jix U102 Z160 (rFunc.cB d0) Z Z Z (by omega)) (jA4 sBlock (jlA (dix (rFunc.cB d0) k (by omega)) A160 Z160 Z) fun c22a c22b c22c c22d=>jalc J160 Z fun g5=>?_))))))))))
 refine jdq (rBlock.cP d0) fun q4 w4=>jdq (rBlock.cI d0) fun q5 w5=>jdq (rBlock.c_Term_Args d0) fun q6 w6=>jdq (rBlock.c_Term_To d0) fun q7 w7=>jsta k0 Z160 Z Z Z ⟨w4.one,w5.one,Z,w6.one,w7.one,Z,trivial⟩ (saf Z) (jn (jx (jq (jq (jr (ja Z (jn ?_)))))))
 refine jx (jb ?_)
 refine jlp (u3 fun(i:Nat) (vp:Value) (out2:List D.Tg3)=>⟨i≤(ix f.Blocks k).Phis.length∧things3 f=out2++(phL k i ((ix f.Blocks k).Phis.drop i)++(inL k 0 (ix f.Blocks k).Ins++(enT k (ix f.Blocks k)::blL (k+1) (f.Blocks.drop (k+1))))),[da rBlock (vBlock (ix f.Blocks k) (c22a,c22b,c22c,c22d)) (ix f.Blocks k),da rFunc (vFunc f a0) f],[bx g5 160 [c22a,c22b,.int .i64 (((ix f.Blocks k).Term).Kind),c22c,c22d,.int .i32 (((ix f.Blocks k).Term).Imm)],gl X.n rTg3 197 vp out2,bx g1 104 [.int .i64 f.Params,a0]],[(1,.pointer (some ⟨g1,0,none⟩)),(2,.slice none 0 0),(3,vp),(4,.int .i64 (↑k)),(5,.pointer (some ⟨g5,0,none⟩)),(6,.int .i64 (↑i))],(ix f.Blocks k).Phis.length-i⟩) (0,vo,out) ⟨Nat.zero_le _,bl_0 (by omega) hB⟩ (dc d0 (dc d1 dn)) (kd (kc k0 kn)) ⟨Z,Z,Z,Z,Z,eqI (by omega),trivial⟩ ?_
 rintro⟨i,vp,out2⟩;dsimp only[u3];rintro⟨hi,hP⟩
 refine cgo k1 fun w8=>?_
 have hpl2:=pre_len hP
 refine jq (jq (jr (jm Z (js (jf F160_0 Z) (js (jl k0 O32 Z Z) (js (jln U32 (rBlock.cP d0) Z) (js (jlss Z Z) (jn (jx ?_)))))))))
 refine jif Z (fun hc2=>?_) (fun hc2=>?_)
 refine jsk (jx (jq (jb (jq (jr (jm Z (jm Z (js (jsub Z Z (by omega)) (js (jf F160_0 Z) (js (jl k0 O32 Z Z) (jm Z ?_)))))))))))
 refine js (jix U32 Z62 (rBlock.cP d0) Z Z Z (by omega)) (js (jf F62_0 Z) (js (jlI (rPhi.A_Dst (dix (rBlock.cP d0) i (by omega))) O3 Z) (jlit (r:=(rI .i64)) (l:=[(ix ((ix f.Blocks k).Phis) i).Dst]) U22 I3 (by decide) Z Z Z (lV Z Z (wI (wad (rPhi.A_Dst (dix (rBlock.cP d0) i (by omega))))) ln) fun g39=>js (jbu (v := .agg #[.int .i64 (↑k),.int .i64 ((-1)-↑i),(.slice (some ⟨g39,0,none⟩) 1 1),.slice none 0 0]) Z (fun _=>by kernel_rfl)) (jalc J197 Z fun g7=>jsta k0 Z197 Z Z Z ⟨Z,Z,Z,Z,trivial⟩ (saf Z) (jn (jx (jq (jq (jr ?_)))))))))
 refine ja Z (jn (jx (jb (cnl (r:=(rI .i64)) (E:=3) ?_))))
 refine jlp (u3 fun(j:Nat) (ea:List Int) (ve:Value)=>⟨j≤(ix (ix f.Blocks k).Phis i).In.length∧ea=((ix (ix f.Blocks k).Phis i).In.take j).map (·.Val),[da rBlock (vBlock (ix f.Blocks k) (c22a,c22b,c22c,c22d)) (ix f.Blocks k),da rFunc (vFunc f a0) f],[gl X.n (rI .i64) 3 ve ea,bx g7 197 [.int .i64 (↑k),.int .i64 ((-1)-↑i),(.slice (some ⟨g39,0,none⟩) 1 1),ve],gl X.n (rI .i64) 3 (.slice (some ⟨g39,0,none⟩) 1 1) ([(ix ((ix f.Blocks k).Phis) i).Dst]),bx g5 160 [c22a,c22b,.int .i64 (((ix f.Blocks k).Term).Kind),c22c,c22d,.int .i32 (((ix f.Blocks k).Term).Imm)],gl X.n rTg3 197 vp out2,bx g1 104 [.int .i64 f.Params,a0]],[(1,.pointer (some ⟨g1,0,none⟩)),(2,.slice none 0 0),(3,vp),(4,.int .i64 (↑k)),(5,.pointer (some ⟨g5,0,none⟩)),(6,.int .i64 (↑i)),(7,.pointer (some ⟨g7,0,none⟩)),(8,.int .i64 (↑j))],(ix (ix f.Blocks k).Phis i).In.length-j⟩) (0,[],.slice none 0 0) ⟨Nat.zero_le _,rfl⟩ (dc d0 (dc d1 dn)) (kd (kd (kd kn))) ⟨Z,Z,Z,Z,Z,Z,Z,eqI (by omega),trivial⟩ ?_
 rintro⟨j,ea,ve⟩;dsimp only[u3];rintro⟨hj,hea⟩
 refine cgo k0 fun w9=>?_
 have hel:ea.length=j:=by rw[hea];simp;omega
 refine jq (jq (jr (jm Z (js (jf F160_0 Z) (js (jl k3 O32 Z Z) (jm Z (js (jix U32 Z62 (rBlock.cP d0) Z Z Z (by omega)) (js (jf F62_1 Z) (jev (jlV (rPhi.A_In (dix (rBlock.cP d0) i (by omega))) O60 Z Z) fun v47 q10 w10=>js (jln U60 d0 Z) (js (jlss Z Z) ?_))))))))))
 refine jn (jx ?_)
 refine jif Z (fun hc3=>?_) (fun hc3=>?_)
 refine jsk (jx (jq (jb (jany true (.a 0 (.a 1 (.a 2 (.a 3 (.a 4 (.a 5 (.a 6 (.a 7 (.a 8 (.a 9 (.a 10 (.a 11 (.o 12 (.o 13 (.a 14 (.o 15 .e)))))))))))))))) Mixed (by kernel_rfl) (kc k1 (kc k2 kn)) fun F12=>jy Z (jf F197_3 Z) (jy Z (jl k0 O22 Z Z) (jy Z (jf F160_0 Z) (jy Z (jl k1 O32 Z Z) (jy Z (jmv Z) (jy Z (jix U32 Z62 (rBlock.cP d1) Z Z Z (by omega)) (jy Z (jf F62_1 Z) ?_))))))))))
 refine jye (q:=fun v=>dv (rL rIn) v ((ix ((ix f.Blocks k).Phis) i).In)) Z (xlV (rPhi.A_In (dix (rBlock.cP d1) i (by omega))) O60 Z Z) fun v59=>jy Z (jmv Z) (adq d0 fun q14 w14=>jy Z (jix U60 Z64 d0 Z Z Z (by omega)) (jy Z (jf F64_1 Z) (jy Z (jlI (rIn.A_Val (dix d0 j (by omega))) O3 Z) (jyo Z (jlit (r:=(rI .i64)) (l:=[(ix ((ix ((ix f.Blocks k).Phis) i).In) j).Val]) U22 I3 (by decide) Z Z Z (lV Z Z (wI (wad (rIn.A_Val (dix d1 j (by omega))))) ln) fun g64=>jyn d0 (kc k2 (kc k3 kn)) (jyo Z (jfz k0 (by(try simp)<;>omega) (japl U22 I3 (by decide) Z k0 Z Z d0 (by(try simp)<;>omega) fun v65 w18=>?_))))))))
 refine jyn d1 (kc k1 (kc k2 kn)) (jy Z (jf F197_3 Z) (jyo Z (jst k1 Z22 Z Z w18.one s3 (jyz d0 (jyd (jbn (jx (jr (jm Z (js (jadd Z Z (by omega)) (ja Z ?_)))))))))))
 refine jn ?_
 exact jag (j+1,ea++([(ix ((ix ((ix f.Blocks k).Phis) i).In) j).Val]),v65) ⟨by dsimp only;omega,by dsimp only;rw[hea,map_snoc (by omega)]⟩ (dc d6 (dc d7 dn)) (kc k1 (kd (kd (kc k0 kn)))) ⟨Z,Z,Z,Z,Z,Z,Z,eqI (by omega),trivial⟩
 refine jex (jtx (jtx (jbh (jx (jr (jm Z (js (jla k1 A197 Z197 Z Z Z) (jfz k2 (by(try simp)<;>omega) (jfz k0 (by omega) (jap U194 I197 (by decide) Z k2 Z (rTg3.M (m:=⟨↑k,(-1)-↑i,[(ix ((ix f.Blocks k).Phis) i).Dst],ea⟩) (c:=((.slice (some ⟨g39,0,none⟩) 1 1),ve)) d1 d0 (wp (IntWalk.i64_in ↑k (by omega))) (wp (IntWalk.i64_in ((-1)-↑i) (by omega)))) (by omega) (fun _=>Z) fun v70 _ w22=>ja Z ?_))))))))))
 refine jn (jbn (jx (jr (jm Z (js (jadd Z Z (by omega)) (ja Z (jn ?_)))))))
 exact jag (i+1,v70,out2++[⟨((k:Nat):Int),(-1)-((i:Nat):Int),[(ix ((ix f.Blocks k).Phis) i).Dst],ea⟩]) ⟨by dsimp only;omega,by dsimp only;rw[show ea=(ix (ix f.Blocks k).Phis i).In.map (·.Val) by rw[hea,List.take_of_length_le (by omega)]];exact ph_1 (by omega) hP⟩ (dc d3 (dc d4 dn)) (kc k2 (kc k0 (kc k1 kn))) ⟨Z,Z,Z,Z,Z,eqI (by omega),trivial⟩
 refine jex (jtx (jtx (jbh (jx (jq (jq (jr (ja Z (jn (jx (jb ?_)))))))))))
 refine jlp (u3 fun(j:Nat) (vq:Value) (out4:List D.Tg3)=>⟨j≤(ix f.Blocks k).Ins.length∧things3 f=out4++(inL k j ((ix f.Blocks k).Ins.drop j)++(enT k (ix f.Blocks k)::blL (k+1) (f.Blocks.drop (k+1)))),[da rBlock (vBlock (ix f.Blocks k) (c22a,c22b,c22c,c22d)) (ix f.Blocks k),da rFunc (vFunc f a0) f],[bx g5 160 [c22a,c22b,.int .i64 (((ix f.Blocks k).Term).Kind),c22c,c22d,.int .i32 (((ix f.Blocks k).Term).Imm)],gl X.n rTg3 197 vq out4,bx g1 104 [.int .i64 f.Params,a0]],[(1,.pointer (some ⟨g1,0,none⟩)),(2,.slice none 0 0),(3,vq),(4,.int .i64 (↑k)),(5,.pointer (some ⟨g5,0,none⟩)),(9,.int .i64 (↑j))],(ix f.Blocks k).Ins.length-j⟩) (0,vp,out2) ⟨Nat.zero_le _,ph_2 (by omega) hP⟩ (dc d0 (dc d1 dn)) (kd (kc k0 kn)) ⟨Z,Z,Z,Z,Z,eqI (by omega),trivial⟩ ?_
 rintro⟨j,vq,out4⟩;dsimp only[u3];rintro⟨hj,hI⟩
 refine cgo k1 fun w23=>?_
 have hpl4:=pre_len hI
 refine jq (jq (jr (jm Z (js (jf F160_1 Z) (js (jl k0 O156 Z Z) (js (jln U156 (rBlock.cI d0) Z) (js (jlss Z Z) (jn (jx ?_)))))))))
 refine jif Z (fun hc4=>?_) (fun hc4=>?_)
 refine jsk (jx (jq (jb (jany false (.a 0 (.a 1 (.a 2 (.a 3 (.a 4 (.a 5 (.a 6 (.a 7 (.a 9 (.a 10 (.a 11 (.a 12 (.a 13 (.a 14 (.o 8 (.a 15 (.o 16 (.o 17 (.a 18 .e))))))))))))))))))) Mixed (by kernel_rfl) (kc k0 kn) fun F24=>jy Z (jmv Z) (jy Z (jmv Z) (jy Z (jmv Z) (jy Z (jf F160_1 Z) (jy Z (jl k0 O156 Z Z) (jy Z (jmv Z) (jy Z (jix U156 Z163 (rBlock.cI d0) Z Z Z (by omega)) ?_))))))))))
 refine jyA sIns Z (xlA (dix (rBlock.cI d0) j (by omega)) A163 Z163 Z) fun c85=>jy Z (jf F160_1 Z) (jy Z (jl k0 O156 Z Z) (jy Z (jmv Z) (jy Z (jix U156 Z163 (rBlock.cI d1) Z Z Z (by omega)) (jy Z (jf F163_3 Z) (jye (q:=fun v=>dv (rL (rI .i64)) v ((ix ((ix f.Blocks k).Ins) j).Args)) Z (xlV (rIns.A_Args (dix (rBlock.cI d1) j (by omega))) O22 Z Z) fun v92=>jyo Z (jcd E101 Z Z r3makes_ct (dc d2 dn) kn fun v86 q28 w28=>jyn d1 (kc k0 kn) (adq d2 fun q30 w30=>jy Z (jbu (v := .agg #[.int .i64 (↑k),.int .i64 (↑j),v86,v92]) Z (fun _=>by obtain⟨_,_,_,rfl⟩:=w28;obtain⟨_,_,_,rfl⟩:=w30;kernel_rfl)) ?_)))))))
 refine jyo Z (jlit (r:=rTg3) (l:=[⟨↑k,↑j,makes3 (ix ((ix f.Blocks k).Ins) j),(ix ((ix f.Blocks k).Ins) j).Args⟩]) U194 I197 (by decide) Z Z Z (lA (rTg3.M (m:=⟨↑k,↑j,makes3 (ix ((ix f.Blocks k).Ins) j),(ix ((ix f.Blocks k).Ins) j).Args⟩) (c:=(v86,v92)) d1 d3 (wp (IntWalk.i64_in ↑k (by omega))) (wp (IntWalk.i64_in ↑j (by omega)))) ln) fun g94=>jyn d0 (kc k1 kn) (jyo Z (jfz k0 (by(try simp)<;>omega) (japl U194 I197 (by decide) Z k1 Z Z d0 (by(try simp)<;>omega) fun v95 w34=>jyn d1 (kc k1 kn) (jy Z (jas Z) (jyd (jbn (jx (jr ?_)))))))))
 refine jm Z (js (jadd Z Z (by omega)) (ja Z (jn ?_)))
 exact jag (j+1,v95,out4++([⟨((k:Nat):Int),((j:Nat):Int),makes3 (ix ((ix f.Blocks k).Ins) j),(ix ((ix f.Blocks k).Ins) j).Args⟩])) ⟨by dsimp only;omega,by dsimp only;exact in_1 (by omega) hI⟩ (dc d7 (dc d8 dn)) (kc k1 (kd kn)) ⟨Z,Z,Z,Z,Z,eqI (by omega),trivial⟩
 refine jex (jtx (jtx (jbh (jx (jr (jm Z (jm Z (js (jf F160_1 Z) (js (jl k0 O156 Z Z) (js (jln U156 (rBlock.cI d0) Z) (js (jf F160_2 Z) ?_)))))))))))
 refine js (jf F158_1 Z) (js (jl k0 O22 Z Z) (js (jbu (v := .agg #[.int .i64 (↑k),.int .i64 (↑(List.length ((ix f.Blocks k).Ins))),.slice none 0 0,c22c]) Z (fun _=>by obtain⟨_,_,_,rfl⟩:=w6;kernel_rfl)) (jap U194 I197 (by decide) Z k1 Z (rTg3.M (m:=⟨↑k,↑(List.length ((ix f.Blocks k).Ins)),[],((ix f.Blocks k).Term).Args⟩) (c:=(.slice none 0 0,c22c)) wN (rBlock.c_Term_Args d0) (wp (IntWalk.i64_in ↑k (by omega))) (wp (IntWalk.i64_in (↑(List.length ((ix f.Blocks k).Ins))) (by omega)))) (by omega) (fun _=>Z) fun v106 _ w35=>ja Z (jn (jbn (jx (jr (jm Z (js (jadd Z Z (by omega)) (ja Z ?_))))))))))
 refine jn ?_
 exact jag (k+1,v106,out4++[⟨((k:Nat):Int),((List.length ((ix f.Blocks k).Ins):Nat):Int),[],((ix f.Blocks k).Term).Args⟩]) ⟨by dsimp only;omega,by dsimp only;exact bl_1 (in_2 (by omega) hI)⟩ (dc d1 dn) (kc k0 (kc k1 kn)) ⟨Z,Z,Z,eqI (by omega),trivial⟩
 refine jex (jtx (jtx (jbh (jx (jq (jr (jm Z (ja Z (jn (jx (jrt ?_)))))))))))
 refine qfz k0 (by omega) ?_
 exact jrD Z Z (by rw[hB,List.drop_of_length_le (by omega)];simp[blL]) d0
theorem A104:∃d,Tryz.prog.underlying 104=some d∧(match d with | .struct _ | .array _ _=>true|_=>false)=true:=⟨_,Tryz.underlying104,rfl⟩
theorem E100:Ent Tryz.prog 100:=⟨_,Tryz.func100,by kernel_rfl,by kernel_rfl⟩
theorem E140:Ent Tryz.prog 140:=⟨_,Tryz.func140,by kernel_rfl,by kernel_rfl⟩
theorem F104_0:Fld Tryz.prog 104 0 0:=⟨_,_,Tryz.underlying104,rfl,rfl,1,(by unfold Sz;kernel_rfl),by decide⟩
theorem F197_0:Fld Tryz.prog 197 0 0:=⟨_,_,Tryz.underlying197,rfl,rfl,1,(by unfold Sz;kernel_rfl),by decide⟩
theorem F197_2:Fld Tryz.prog 197 2 2:=⟨_,_,Tryz.underlying197,rfl,rfl,1,(by unfold Sz;kernel_rfl),by decide⟩
theorem Z104:Sz Tryz.prog 104 2:=by unfold Sz;kernel_rfl
set_option maxRecDepth 8000 in
theorem r3stand_ct{a0:Value}{f:D.Func}(block:Int)(hb9:0≤block∧block<f.Blocks.length)(hsz:cntT f.Blocks<100000000)(hpr:0≤f.Params∧f.Params≤4):Tg Tryz.prog 104 #[vFunc f a0,.int .i64 block] [da rFunc (vFunc f a0) f] [] (rI .i64) 3 (stand3 f block):=by
 refine jenter (args:=[vFunc f a0,.int .i64 block]) Tryz.func104 rfl rfl rfl fun w0 X=>?_
 have htl:=things3_len f
 refine jq (jr (jbox Z Z fun g2=>ja Z (jn (jx (jq (jr (jlit (r:=(rI .i64)) (l:=[]) U22 I3 (by decide) Z Z Z ln fun g11=>ja Z (jn (jx ?_)))))))))
 refine jq (jq (jr (ja Z (jn (jx (jb ?_))))))
 refine jlp (u3 fun(i:Nat) (vo:Value) (out:List Int)=>⟨i≤f.Params.toNat∧out=numsL i,[da rFunc (vFunc f a0) f],[gl X.n (rI .i64) 3 vo out,bx g2 104 [.int .i64 f.Params,a0]],[(1,.int .i64 block),(2,.pointer (some ⟨g2,0,none⟩)),(4,.slice none 0 0),(5,vo),(6,.int .i64 (↑i))],f.Params.toNat-i⟩) (0,(.slice (some ⟨g11,0,none⟩) 0 0),[]) ⟨Nat.zero_le _,rfl⟩ (dc d0 dn) (kd kn) ⟨Z,Z,Z,Z,eqI (by omega),trivial⟩ ?_
 rintro⟨i,vo,out⟩;dsimp only[u3];rintro⟨hi,ho⟩
 refine cgo k0 fun w1=>?_
 have hol:out.length=i:=by rw[ho];exact numsL_len i
 refine jq (jq (jr (jm Z (js (jf F104_0 Z) (js (jl k1 O3 Z Z) (js (jlss Z Z) (jn (jx ?_))))))))
 refine jif Z (fun hc1=>?_) (fun hc1=>?_)
 refine jsk (jx (jq (jb (jr (jm Z (jm Z (japv U22 I3 (by decide) Z Z k0 Z (wI (wp (IntWalk.i64_in _ (by omega)))) (by omega) (fun _=>Z) fun v21 _ w2=>ja Z (jn (jbn (jx ?_))))))))))
 refine jr (jm Z (js (jadd Z Z (by omega)) (ja Z (jn ?_))))
 exact jag (i+1,v21,out++[((i:Nat):Int)]) ⟨by dsimp only;omega,by dsimp only;rw[ho,numsL_s]⟩ (dc d0 dn) (kd kn) ⟨Z,Z,Z,Z,eqI (by omega),trivial⟩
 refine jex (jtx (jtx (jbh (jx (jq (jr (js (jla k1 A104 Z104 Z Z Z) (jcd E140 Z Z (r3things_ct (by omega)) (dc d0 dn) kn fun v23 q3 w3=>ja Z (jn (jx ?_))))))))))
 refine jq (jq (jr (ja Z (jn (jx (jb ?_))))))
 refine jlp (u3 fun(i2:Nat) (v2:Value) (o2:List Int)=>⟨i2≤(things3 f).length∧o2=numsL f.Params.toNat++standL f block ((things3 f).take i2),[dv (rL rTg3) v23 (things3 f),da rFunc (vFunc f a0) f],[gl X.n (rI .i64) 3 v2 o2,bx g2 104 [.int .i64 f.Params,a0]],[(1,.int .i64 block),(2,.pointer (some ⟨g2,0,none⟩)),(4,.slice none 0 0),(5,v2),(7,v23),(8,.int .i64 (↑i2))],(things3 f).length-i2⟩) (0,vo,out) ⟨Nat.zero_le _,by dsimp only;rw[ho,show i=f.Params.toNat by omega];simp[standL]⟩ (dc d0 (dc d1 dn)) (kd kn) ⟨Z,Z,Z,Z,Z,eqI (by omega),trivial⟩ ?_
 rintro⟨i2,v2,o2⟩;dsimp only[u3];rintro⟨hi2,ho2⟩
 refine cgo k0 fun w5=>?_
 have hs2:=standL_len (f:=f) (b:=block) (l:=(things3 f).take i2) (fun t ht=>things3_mk f t (List.mem_of_mem_take ht))
 have ho2l:o2.length≤4+2*i2:=by rw[ho2,List.length_append,numsL_len];rw[List.length_take] at hs2;omega
 refine jq (jq (jr (jm Z (jm Z (js (jln U194 d0 Z) (js (jlss Z Z) (jn (jx ?_))))))))
 refine jif Z (fun hc2=>?_) (fun hc2=>?_)
 refine jsk (jx (jq (jb (jq (jr (ja Z (jn (jx (jq (jq (jr ?_)))))))))))
 refine jm Z (jm Z (js (jix U194 Z197 d0 Z Z Z (by omega)) (js (jf F197_0 Z) (js (jlI (rTg3.A_Block (dix d0 i2 (by omega))) O3 Z) (jm Z (js (jneq Z Z) (jn (jx ?_))))))))
 refine jif Z (fun hc3=>?_) (fun hc3=>?_)
 refine jq (jtl 6 Mixed (by kernel_rfl) (jt (jla k1 A104 Z104 Z Z Z) (jt (jmv Z) (jt (jmv Z) (jt (jix U194 Z197 d0 Z Z Z (by omega)) (jt (jf F197_0 Z) (jt (jlI (rTg3.A_Block (dix d0 i2 (by omega))) O3 Z) (jtt (jcg E100 Z Z (r3reach_ct ((ix (things3 f) i2).Block)) (dc d1 dn) kn fun v43 w6=>ja Z (jn ?_))))))))))
 refine jx (jr (jm Z (jm Z ?_)))
 have hrl:=reach3_len f (ix (things3 f) i2).Block
 refine js (jig (i:=(Int.toNat block)) U93 Z4 k0 Z Z (by omega) (by omega)) (js (jgB k0 (by omega) O4 Z) (js (jnot Z) (ja Z (jn (jx (jq (jr (jm Z (jn (jx ?_))))))))))
 refine jif Z (fun hc4=>?_) (fun hc4=>?_)
 refine jr (jm Z (jm Z (jm Z (js (jix U194 Z197 d0 Z Z Z (by omega)) (js (jf F197_2 Z) (jev (jlV (rTg3.A_Makes (dix d0 i2 (by omega))) O22 Z Z) fun v55 q7 w7=>?_))))))
 have hm2:=things3_mk f _ (ix_mem (l:=things3 f) (i:=i2) (by omega))
 refine japl U22 I3 (by decide) Z k1 Z Z d0 (by(try simp)<;>omega) fun v56 w9=>ja Z (jn (jbn (jx (jr (jm Z (js (jadd Z Z (by omega)) (ja Z (jn ?_))))))))
 exact jag (i2+1,v56,o2++((ix (things3 f) i2).Makes)) ⟨by dsimp only;omega,by dsimp only;rw[standL_s (by omega),ho2];rw[if_pos (by simp[stands3,hc3,hc4])];simp⟩ (dc d1 (dc d2 dn)) (kc k0 (kc k1 kn)) ⟨Z,Z,Z,Z,Z,eqI (by omega),trivial⟩
 refine jsk (jbn (jx (jr (jm Z (js (jadd Z Z (by omega)) (ja Z (jn ?_)))))))
 exact jag (i2+1,v2,o2) ⟨by dsimp only;omega,by dsimp only;rw[standL_s (by omega),ho2];rw[if_neg (by simp[stands3,hc3,hc4])];simp⟩ (dc d0 (dc d1 dn)) (kc k1 (kc k1 kn)) ⟨Z,Z,Z,Z,Z,eqI (by omega),trivial⟩
 refine jsk (jx (jq (jr (jm Z (jn (jx ?_))))))
 refine jif Z (fun hc5=>?_) (fun hc5=>?_)
 refine jr (jm Z (jm Z (jm Z (js (jix U194 Z197 d0 Z Z Z (by omega)) (js (jf F197_2 Z) (jev (jlV (rTg3.A_Makes (dix d0 i2 (by omega))) O22 Z Z) fun v55_10 q11 w11=>?_))))))
 have hm2:=things3_mk f _ (ix_mem (l:=things3 f) (i:=i2) (by omega))
 refine japl U22 I3 (by decide) Z k0 Z Z d0 (by(try simp)<;>omega) fun v56_13 w14=>ja Z (jn (jbn (jx (jr (jm Z (js (jadd Z Z (by omega)) (ja Z (jn ?_))))))))
 exact jag (i2+1,v56_13,o2++((ix (things3 f) i2).Makes)) ⟨by dsimp only;omega,by dsimp only;rw[standL_s (by omega),ho2];rw[if_pos (by simp[stands3,hc3,hc5])];simp⟩ (dc d1 (dc d2 dn)) (kd kn) ⟨Z,Z,Z,Z,Z,eqI (by omega),trivial⟩
 exact absurd hc5 (by simp)
 refine jex (jtx (jtx (jbh (jx (jq (jr (jm Z (ja Z (jn (jx (jrt ?_)))))))))))
 exact jrG Z Z (by rw[ho2,List.take_of_length_le (by omega)];rfl) k0
theorem J74:(Tryz.prog.info? 74).bind (·.zero)=some (.agg #[.slice none 0 0,.slice none 0 0,.slice none 0 0,.int .i64 0]):=by kernel_rfl
set_option maxRecDepth 8000 in
theorem r3input_ct{a0:Value}{s:List Int}:Ts Tryz.prog 32 #[a0] [dv (rL (rI .i64)) a0 s] [] rInput vInput (input3 s):=by
 refine jenter (args:=[a0]) Tryz.func32 rfl rfl rfl fun w0 X=>?_
 refine jq (jr (jalc J74 Z fun g2=>jn (jx (jq (jr (jm Z (jdq d0 fun q1 w1=>js (jbu (v := .agg #[a0,.int .i64 0,.int .i64 0,.slice none 0 0,.int .i64 0,.slice none 0 0]) Z (fun _=>by obtain⟨_,_,_,rfl⟩:=w1;kernel_rfl)) (jbox Z Z fun g11=>jkna (c:=0) ⟨s,0,0,[],0,[]⟩ k0 ⟨okM0 _,Z⟩ fun mm0 hmm0 omm0 bmm0=>?_))))))))
 refine ja Z (jn (jx (jq (jr (js (jbu (v := .agg #[.slice none 0 0,.slice none 0 0,.slice none 0 0,.int .i64 300]) Z (fun _=>by kernel_rfl)) (jalc J74 Z fun g4=>jsta k0 Z74 Z Z Z ⟨Z,Z,Z,Z,trivial⟩ (saf Z) (jn (jx (jq (jq ?_))))))))))
 refine jr (ja Z (jn (jx (jb (cnl (r:=(rI .i32)) (E:=21) ?_)))))
 refine jlp (u4 fun(ia:Nat) (la:List Int) (va:Value) (ma:Mk)=>⟨ia≤4∧wordsL 4 [] mm0=wordsL (4-ia) la ma∧la.length=ia∧okS 0 (0+2*ia) s ma,[dv (rL (rI .i64)) a0 s],[gl X.n (rI .i32) 21 va la,bx g4 74 [va,.slice none 0 0,.slice none 0 0,.int .i64 300],bx g11 106 [a0,.int .i64 ma.k,.int .i64 ma.par,(.slice none 0 0),.int .i64 ma.nx,(.slice none 0 0)],bx g2 74 [.slice none 0 0,.slice none 0 0,.slice none 0 0,.int .i64 0]],[(2,.pointer (some ⟨g2,0,none⟩)),(3,.pointer (some ⟨g11,0,none⟩)),(4,.pointer (some ⟨g4,0,none⟩)),(5,.int .i64 (↑ia))],4-ia⟩) (0,[],.slice none 0 0,mm0) ⟨Nat.zero_le _,rfl,rfl,omm0.mono (by omega)⟩ (dc d0 dn) (kd (kd kn)) ⟨Z,Z,Z,eqI (by omega),trivial⟩ ?_
 rintro⟨ia,la,va,ma⟩;dsimp only[u4];rintro⟨hia,hRa,hla,okL1⟩
 refine cgo k0 fun w2=>?_
 have bdL1:=okM.bnd okL1.1
 clear bmm0
 refine jq (jq (jr (jm Z (js (jlss Z Z) (jn (jx ?_))))))
 refine jif Z (fun hc1=>?_) (fun hc1=>?_)
 refine jsk (jx (jq (jb (jany true (.a 0 (.a 1 (.a 2 (.o 3 (.o 4 (.o 5 (.a 6 (.o 7 .e)))))))) Mixed (by kernel_rfl) (kc k1 kn) fun F3=>jy Z (jf F74_0 Z) (jy Z (jl k0 O72 Z Z) (jy Z (jmv Z) (jyo Z (jka E53 Z Z (m3word_ct okL1 (by omega)) (dc d1 dn) k2 ⟨word_ok okL1.1,okL1.2⟩ fun m20 hm20 om20 bm20=>?_))))))))
 have w20_0:IntKind.i32.wrap (wordV ma)=wordV ma:=(word_w ma)
 clear bdL1
 refine jyn d0 (kc k2 kn) (jyo Z (jlit (r:=(rI .i32)) (l:=[wordV ma]) U72 I21 (by decide) Z Z Z (lV Z Z (wI (wp w20_0)) ln) fun g21=>jyn d0 (kc k3 kn) (jyo Z (jfz k0 (by(try simp)<;>omega) (japl U72 I21 (by decide) Z k1 Z Z d0 (by(try simp)<;>omega) fun v22 w8=>jyn d1 (kc k2 kn) (jy Z (jf F74_0 Z) (jyo Z (jst k2 Z72 Z Z w8.one s0 (jyz d0 ?_)))))))))
 refine jyd (jbn (jx (jr (jm Z (js (jadd Z Z (by omega)) (ja Z (jn ?_)))))))
 exact jag (ia+1,la++([wordV ma]),v22,m20) ⟨by dsimp only;omega,by dsimp only;rw[hm20];exact words_1 (by omega) hRa,by simp;omega,om20.mono (by omega)⟩ (dc d5 dn) (kc k1 (kd (kc k0 kn))) ⟨Z,Z,Z,eqI (by omega),trivial⟩
 refine jex (jtx (jtx (jbh (jx (jq (jr (jm Z (jka E54 Z Z (m3take_ct okL1 (by omega) 13 (by first|decide|omega)) (dc d0 dn) k2 ⟨tO9 okL1.1,okL1.2⟩ fun m25 hm25 om25 bm25=>?_))))))))
 have w25_0:IntKind.i64.wrap (tVV 13 ma)=tVV 13 ma:=(IntWalk.i64_in _ (by have h9:=@tV9 13 (by omega) ma;omega))
 have tr25:=@tV9 13 (by omega) ma
 clear bdL1
 refine js (jadd Z Z (by omega)) (ja Z (jn (jx (jq (jq (jr (ja Z (jn (jx (jb (cnl (r:=(rI .i32)) (E:=21) ?_)))))))))))
 refine jlp (u4 fun(ib:Nat) (lb:List Int) (vb:Value) (mb:Mk)=>⟨ib≤(4+(tVV 13 ma)).toNat∧wordsL (4+(tVV 13 ma)).toNat [] m25=wordsL ((4+(tVV 13 ma)).toNat-ib) lb mb∧lb.length=ib∧okS 0 (0+2*ia+1+2*ib) s mb,[dv (rL (rI .i64)) a0 s],[gl X.n (rI .i32) 21 vb lb,bx g11 106 [a0,.int .i64 mb.k,.int .i64 mb.par,(.slice none 0 0),.int .i64 mb.nx,(.slice none 0 0)],gl X.n (rI .i32) 21 va la,bx g4 74 [va,vb,.slice none 0 0,.int .i64 300],bx g2 74 [.slice none 0 0,.slice none 0 0,.slice none 0 0,.int .i64 0]],[(2,.pointer (some ⟨g2,0,none⟩)),(3,.pointer (some ⟨g11,0,none⟩)),(4,.pointer (some ⟨g4,0,none⟩)),(6,.int .i64 (4+(tVV 13 ma))),(7,.int .i64 (↑ib))],(4+(tVV 13 ma)).toNat-ib⟩) (0,[],.slice none 0 0,m25) ⟨Nat.zero_le _,rfl,rfl,om25.mono (by omega)⟩ (dc d0 dn) (kd (kd (kc k0 kn))) ⟨Z,Z,Z,Z,eqI (by omega),trivial⟩ ?_
 rintro⟨ib,lb,vb,mb⟩;dsimp only[u4];rintro⟨hib,hRb,hlb,okL2⟩
 refine cgo k0 fun w10=>?_
 have bdL2:=okM.bnd okL2.1
 clear bm25
 refine jq (jq (jr (jm Z (jm Z (js (jlss Z Z) (jn (jx ?_)))))))
 refine jif Z (fun hc2=>?_) (fun hc2=>?_)
 refine jsk (jx (jq (jb (jany true (.a 0 (.a 1 (.a 2 (.o 3 (.o 4 (.o 5 (.a 6 (.o 7 .e)))))))) Mixed (by kernel_rfl) (kc k3 kn) fun F11=>jy Z (jf F74_1 Z) (jy Z (jl k0 O72 Z Z) (jy Z (jmv Z) (jyo Z (jka E53 Z Z (m3word_ct okL2 (by omega)) (dc d1 dn) k1 ⟨word_ok okL2.1,okL2.2⟩ fun m35 hm35 om35 bm35=>?_))))))))
 have w35_0:IntKind.i32.wrap (wordV mb)=wordV mb:=(word_w mb)
 clear bdL2
 refine jyn d0 (kc k3 kn) (jyo Z (jlit (r:=(rI .i32)) (l:=[wordV mb]) U72 I21 (by decide) Z Z Z (lV Z Z (wI (wp w35_0)) ln) fun g36=>jyn d0 (kc k4 kn) (jyo Z (jfz k0 (by(try simp)<;>omega) (japl U72 I21 (by decide) Z k1 Z Z d0 (by(try simp)<;>omega) fun v37 w16=>jyn d1 (kc k3 kn) (jy Z (jf F74_1 Z) (jyo Z (jst k3 Z72 Z Z w16.one s1 (jyz d0 ?_)))))))))
 refine jyd (jbn (jx (jr (jm Z (js (jadd Z Z (by omega)) (ja Z (jn ?_)))))))
 exact jag (ib+1,lb++([wordV mb]),v37,m35) ⟨by dsimp only;omega,by dsimp only;rw[hm35];exact words_1 (by omega) hRb,by simp;omega,om35.mono (by omega)⟩ (dc d5 dn) (kc k1 (kc k1 (kc k1 (kd kn)))) ⟨Z,Z,Z,Z,eqI (by omega),trivial⟩
 refine jex (jtx (jtx (jbh (jx (jq (jr (jm Z (jka E54 Z Z (m3take_ct okL2 (by omega) 7 (by first|decide|omega)) (dc d0 dn) k1 ⟨tO9 okL2.1,okL2.2⟩ fun m40 hm40 om40 bm40=>?_))))))))
 have w40_0:IntKind.i64.wrap (tVV 7 mb)=tVV 7 mb:=(IntWalk.i64_in _ (by have h9:=@tV9 7 (by omega) mb;omega))
 have tr40:=@tV9 7 (by omega) mb
 clear bdL2
 refine ja Z (jn (jx (jq (jq (jr (ja Z (jn (jx (jb (cnl (r:=(rI .i32)) (E:=21) ?_))))))))))
 refine jlp (u4 fun(ic:Nat) (lc:List Int) (vc:Value) (mc:Mk)=>⟨ic≤(tVV 7 mb).toNat∧wordsL (tVV 7 mb).toNat [] m40=wordsL ((tVV 7 mb).toNat-ic) lc mc∧lc.length=ic∧okS 0 (0+2*ia+1+2*ib+1+2*ic) s mc,[dv (rL (rI .i64)) a0 s],[gl X.n (rI .i32) 21 vc lc,bx g11 106 [a0,.int .i64 mc.k,.int .i64 mc.par,(.slice none 0 0),.int .i64 mc.nx,(.slice none 0 0)],gl X.n (rI .i32) 21 vb lb,gl X.n (rI .i32) 21 va la,bx g4 74 [va,vb,vc,.int .i64 300],bx g2 74 [.slice none 0 0,.slice none 0 0,.slice none 0 0,.int .i64 0]],[(2,.pointer (some ⟨g2,0,none⟩)),(3,.pointer (some ⟨g11,0,none⟩)),(4,.pointer (some ⟨g4,0,none⟩)),(6,.int .i64 (tVV 7 mb)),(8,.int .i64 (↑ic))],(tVV 7 mb).toNat-ic⟩) (0,[],.slice none 0 0,m40) ⟨Nat.zero_le _,rfl,rfl,om40.mono (by omega)⟩ (dc d0 dn) (kd (kd (kd kn))) ⟨Z,Z,Z,Z,eqI (by omega),trivial⟩ ?_
 rintro⟨ic,lc,vc,mc⟩;dsimp only[u4];rintro⟨hic,hRc,hlc,okL3⟩
 refine cgo k0 fun w18=>?_
 have bdL3:=okM.bnd okL3.1
 clear bm40
 refine jq (jq (jr (jm Z (jm Z (js (jlss Z Z) (jn (jx ?_)))))))
 refine jif Z (fun hc3=>?_) (fun hc3=>?_)
 refine jsk (jx (jq (jb (jany true (.a 0 (.a 1 (.a 2 (.o 3 (.o 4 (.o 5 (.a 6 (.o 7 .e)))))))) Mixed (by kernel_rfl) (kc k4 kn) fun F19=>jy Z (jf F74_2 Z) (jy Z (jl k0 O72 Z Z) (jy Z (jmv Z) (jyo Z (jka E53 Z Z (m3word_ct okL3 (by omega)) (dc d1 dn) k1 ⟨word_ok okL3.1,okL3.2⟩ fun m49 hm49 om49 bm49=>?_))))))))
 have w49_0:IntKind.i32.wrap (wordV mc)=wordV mc:=(word_w mc)
 clear bdL3
 refine jyn d0 (kc k4 kn) (jyo Z (jlit (r:=(rI .i32)) (l:=[wordV mc]) U72 I21 (by decide) Z Z Z (lV Z Z (wI (wp w49_0)) ln) fun g50=>jyn d0 (kc k5 kn) (jyo Z (jfz k0 (by(try simp)<;>omega) (japl U72 I21 (by decide) Z k1 Z Z d0 (by(try simp)<;>omega) fun v51 w24=>jyn d1 (kc k4 kn) (jy Z (jf F74_2 Z) (jyo Z (jst k4 Z72 Z Z w24.one s2 (jyz d0 ?_)))))))))
 refine jyd (jbn (jx (jr (jm Z (js (jadd Z Z (by omega)) (ja Z (jn ?_)))))))
 exact jag (ic+1,lc++([wordV mc]),v51,m49) ⟨by dsimp only;omega,by dsimp only;rw[hm49];exact words_1 (by omega) hRc,by simp;omega,om49.mono (by omega)⟩ (dc d5 dn) (kc k1 (kc k1 (kc k1 (kc k1 (kd kn))))) ⟨Z,Z,Z,Z,eqI (by omega),trivial⟩
 refine jex (jtx (jtx (jbh (jx (jq (jr (js (jla k4 A74 Z74 Z Z Z) (jsta k5 Z74 Z Z Z ⟨w2.one,w10.one,w18.one,Z,trivial⟩ (saf Z) (jn (jx (jrt ?_)))))))))))
 refine qfz k4 (by omega) (qfz k3 (by omega) (qfz k1 (by omega) ?_))
 exact jrcA (val:=vInput) (b:=⟨la,lb,lc,300⟩) (c:=(va,vb,vc)) Z Z k0 A74 Z74 Z (by have ea:=words_2 (by omega) hRa;have eb:=words_2 (by omega) hRb;have ec:=words_2 (by omega) hRc;simp only[hmm0,hm25,hm40] at ea eb ec;simp only[input3,ea,eb,ec]) (rInput.M (m:=⟨la,lb,lc,300⟩) (c:=(va,vb,vc)) d2 d1 d0 (wl 300))
theorem poIn{Γ:List Dt}{L:List Res}{m:D.Phi}{u:Value}{l:List D.In}(h:Nd Γ L (dv (rL rIn) u l)):PO Γ L rPhi m 1 [u] { m with In:=l }:=fun F H a b c f hf =>
 ⟨⟨hf.1.1,hf.1.2⟩,(rL rIn).ext (fun i hi=>by rw[show i=0 from Nat.lt_one_iff.1 hi];rfl) (show(rL rIn).ok F l (fun _=>u) from h F H a b c)⟩
theorem ix_set{α:Type}[Inhabited α]{l:List α}{i j:Nat}{a:α}(hj:j<l.length):ix (l.set j a) i=if i=j then a else ix l i:=by
 by_cases h:i=j
 ·subst h;rw[if_pos rfl];simp[ix,hj]
 ·rw[if_neg h];simp[ix,List.getElem?_set_ne (Ne.symm h)]
def fnM(m:Mk):D.Func:=⟨m.par,m.bs⟩
def setTo(b:Nat)(l:List Int)(m:Mk):Mk:={ m with bs:=m.bs.set b { (ix m.bs b) with Term:={ (ix m.bs b).Term with To:=l } } }
def toS(to:List (List Int)):Nat→Nat→Mk→Mk
 | 0,_,m=>m
 | k+1,b,m=>toS to k (b+1) (setTo b (ix to b) m)
def addP(b:Nat)(m:Mk):Mk:={ (freshS m) with bs:=(freshS m).bs.set b { (ix (freshS m).bs b) with Phis:=(ix (freshS m).bs b).Phis++[⟨m.nx,[]⟩] } }
def phiN(b:Nat):Nat→Mk→Mk
 | 0,m=>m
 | k+1,m=>phiN b k (addP b m)
def phiR(b:Nat)(ph:List Int)(m:Mk):List Int :=
 if 1<(pd3 (fnM m) b).length then ph.set b (tVV 4 m) else if tVV 6 m=0 then ph.set b 1 else ph
def phiS:Nat→Nat→List Int→Mk→List Int×Mk
 | 0,_,ph,m=>(ph,m)
 | k+1,b,ph,m=>phiS k (b+1) (phiR b ph m) (phiN b (ix (phiR b ph m) b).toNat (tSS m))
def awayL(f:D.Func)(a:Nat):List (List Bool):=(List.range a).map (fun(i:Nat)=>reach3 f (i:Int))
def okA(f:D.Func)(dn:List Bool)(b a:Nat):Bool:=decide (a=b)||(ix dn a||ix (reach3 f (a:Int)) b)
def readyF(f:D.Func)(dn:List Bool)(b a:Nat):Bool:=!(ix dn b)&&(List.range a).all (fun i=>okA f dn b i)
def skipA(f:D.Func)(dn:List Bool)(b a:Nat):Bool:=!(decide (a=b))&&(!(ix dn a)||ix (reach3 f (a:Int)) b)
def lvB(f:D.Func)(dn:List Bool)(b a:Nat):List Int:=if skipA f dn b a then [] else (ix f.Blocks a).Phis.map (·.Dst)++(ix f.Blocks a).Ins.flatMap makes3
def lvF(f:D.Func)(dn:List Bool)(b a:Nat):List Int:=numsL f.Params.toNat++(List.range a).flatMap (fun i=>lvB f dn b i)
def insN(b:Nat):Nat→Mk→Mk
 | 0,m=>m
 | k+1,m=>insN b k (insS b m)
def lvM(n b:Nat)(dn:List Bool)(m:Mk):Mk:={ m with lv:=lvF (fnM m) dn b n }
def blkM(n:Nat)(to:List (List Int))(b:Nat)(dn:List Bool)(m:Mk):Mk:=endS b (ix to b) (insN b (tVV 7 (lvM n b dn m)).toNat (tSS (lvM n b dn m)))
def rowS(n:Nat)(to:List (List Int)):Nat→Nat→List Bool→Mk→List Bool×Mk
 | 0,_,dn,m=>(dn,m)
 | k+1,b,dn,m=>if readyF (fnM m) dn b n then rowS n to k (b+1) (dn.set b true) (blkM n to b (dn.set b true) m) else rowS n to k (b+1) dn m
def turnS(n:Nat)(to:List (List Int)):Nat→List Bool→Mk→List Bool×Mk
 | 0,dn,m=>(dn,m)
 | k+1,dn,m=>turnS n to k (rowS n to n 0 dn m).1 (rowS n to n 0 dn m).2
def inX(p:Int)(m:Mk):D.In×Mk :=
 if (stand3 (fnM m) p).length=0 then (⟨p,ix [(wordS m).nx] (tVV 1 (constS p (wordV m) (wordS m))).toNat⟩,tSS (constS p (wordV m) (wordS m)))
 else (⟨p,ix (stand3 (fnM m) p) (tVV (stand3 (fnM m) p).length m).toNat⟩,tSS m)
def inS(p:List Int):Nat→Nat→List D.In→Mk→List D.In×Mk
 | 0,_,l,m=>(l,m)
 | c+1,k,l,m=>inS p c (k+1) (l++[(inX (ix p k) m).1]) (inX (ix p k) m).2
def putIn(b i:Nat)(l:List D.In)(m:Mk):Mk:={ m with bs:=m.bs.set b { (ix m.bs b) with Phis:=(ix m.bs b).Phis.set i { (ix (ix m.bs b).Phis i) with In:=l } } }
def inP(p:List Int)(b:Nat):Nat→Nat→Mk→Mk
 | 0,_,m=>m
 | c+1,i,m=>inP p b c (i+1) (putIn b i (inS p p.length 0 [] m).1 (inS p p.length 0 [] m).2)
def finS(ph:List Int):Nat→Nat→Mk→Mk
 | 0,_,m=>m
 | c+1,b,m=>finS ph c (b+1) (inP (pd3 (fnM m) b) b (ix ph b).toNat 0 m)
def mdP(m:Mk):Mk:={ (tSS m) with par:=tVV 5 m }
def mdX(m:Mk):Mk:={ (mdP m) with nx:=(mdP m).par }
def md0(s:List Int):Mk:=mdX ⟨s,0,0,[],0,[]⟩
def mdN(s:List Int):Int:=1+tVV 9 (md0 s)
def mdT(s:List Int):List (List Int)×Mk:=targM (mdN s) (tSS (md0 s))
def mdB(s:List Int):Mk:=toS (mdT s).1 (mdN s).toNat 0 { (mdT s).2 with bs:=List.replicate (mdN s).toNat default }
def mdH(s:List Int):List Int×Mk:=phiS ((mdN s).toNat-1) 1 (List.replicate (mdN s).toNat 0) (mdB s)
def mdD(s:List Int):List Bool×Mk:=turnS (mdN s).toNat (mdT s).1 (mdN s).toNat (List.replicate (mdN s).toNat false) (mdH s).2
def mdF(s:List Int):Mk:=finS (mdH s).1 ((mdN s).toNat-1) 1 (mdD s).2
def made3(s:List Int):D.Func:=fnM (mdF s)
theorem awayL_s(f:D.Func)(a:Nat):awayL f (a+1)=awayL f a++[reach3 f (a:Int)]:=by simp[awayL,List.range_succ]
theorem awayL_len(f:D.Func)(a:Nat):(awayL f a).length=a:=by simp[awayL]
theorem awayL_ix(f:D.Func){n a:Nat}(h:a<n):ix (awayL f n) a=reach3 f (a:Int):=by rw[ix_eq (by rw[awayL_len];exact h)];simp[awayL]
theorem readyF_s(f:D.Func)(dn:List Bool)(b a:Nat):readyF f dn b (a+1)=(readyF f dn b a&&okA f dn b a):=by simp[readyF,List.range_succ,Bool.and_assoc]
theorem lvF_s(f:D.Func)(dn:List Bool)(b a:Nat):lvF f dn b (a+1)=lvF f dn b a++lvB f dn b a:=by simp[lvF,List.range_succ]
theorem fm_len{l:List D.Ins}:(l.flatMap makes3).length≤2*l.length:=by
 induction l with
 | nil=>simp
 | cons x l ih=>rw[List.flatMap_cons,List.length_append,List.length_cons];have:=makes3_len x;omega
theorem cntT_take:∀{l:List D.Block} {k:Nat},k<l.length→cntT (l.take (k+1))=cntT (l.take k)+((ix l k).Phis.length+(ix l k).Ins.length+1)
 | x::l,0,_=>by simp[cntT,ix_zero]
 | x::l,k+1,h=>by rw[List.take_succ_cons,List.take_succ_cons,cntT,cntT,ix_cons,cntT_take (l:=l) (k:=k) (by simpa using h)];omega
theorem cntT_le:∀(l:List D.Block) (k:Nat),cntT (l.take k)≤cntT l
 | [],k=>by simp[cntT]
 | x::l,0=>by simp[cntT]
 | x::l,k+1=>by rw[List.take_succ_cons,cntT,cntT];have:=cntT_le l k;omega
theorem lvF_len{f:D.Func}{dn:List Bool}{b:Nat}:∀{a:Nat},a≤f.Blocks.length→(lvF f dn b a).length≤f.Params.toNat+2*cntT (f.Blocks.take a)
 | 0,_=>by simp[lvF,numsL_len,cntT]
 | a+1,h=>by
  have h1:=lvF_len (f:=f) (dn:=dn) (b:=b) (a:=a) (by omega)
  rw[lvF_s,List.length_append,cntT_take (by omega)]
  have h2:(lvB f dn b a).length≤(ix f.Blocks a).Phis.length+2*(ix f.Blocks a).Ins.length:=by
   unfold lvB;split
   ·simp
   ·rw[List.length_append,List.length_map];have:=fm_len (l:=(ix f.Blocks a).Ins);omega
  omega
theorem rng_set{ph:List Int}{b:Nat}{x:Int}(h:∀j,0≤ix ph j∧ix ph j≤3)(hx:0≤x∧x≤3):∀j,0≤ix (ph.set b x) j∧ix (ph.set b x) j≤3:=by
 intro j
 by_cases e:b<ph.length
 ·rw[ix_set e];split
  ·exact hx
  ·exact h j
 ·rw[List.set_eq_of_length_le (by omega)];exact h j
theorem rng_rep{n:Nat}:∀j,0≤ix (List.replicate n (0:Int)) j∧ix (List.replicate n (0:Int)) j≤3:=by
 intro j;by_cases h:j<n<;>simp[ix,h]
def pl(m:Mk):List Nat:=m.bs.map (fun x=>x.Phis.length)
theorem pl_set{m:Mk}{j:Nat}{b:D.Block}(h:b.Phis.length=(ix m.bs j).Phis.length):(m.bs.set j b).map (fun x=>x.Phis.length)=pl m:=by
 unfold pl
 by_cases hj:j<m.bs.length
 ·rw[List.map_set]
  refine List.ext_getElem (by simp) (fun i h1 h2=>?_)
  rw[List.getElem_set]
  split
  ·rename_i e;subst e;rw[h,ix_eq hj];simp
  ·rfl
 ·rw[List.set_eq_of_length_le (by omega)]
theorem pl_add{b:Int}{i:D.Ins}{m:Mk}:pl (addS b i m)=pl m:=pl_set (m:=m) rfl
theorem pl_const{b n:Int}{m:Mk}:pl (constS b n m)=pl m:=pl_add (m:=freshS m)
theorem pl_value{m:Mk}:pl (valueS m)=pl m:=by unfold valueS;split<;>rfl
theorem pl_some{b:Int}{m:Mk}:pl (sS9 b m)=pl m:=by
 have h0:pl (someM0 m)=pl m:=by unfold someM0;split;exact pl_value;exact pl_value
 unfold sS9;split
 ·exact pl_const.trans h0
 ·exact h0
theorem pl_mem1{b:Int}{m:Mk}:pl (mem1 b m).2=pl m:=by
 unfold mem1;dsimp only;split
 ·exact pl_add.trans (pl_add.trans (pl_const.trans (pl_some.trans (pl_const (m:=tSS m)))))
 ·exact pl_const (m:=tSS m)
theorem pl_mem2{m:Mk}:pl (mem2 m).2=pl m:=by unfold mem2;dsimp only;split<;>rfl
theorem pl_mem{b:Int}{s:Bool}{m:Mk}:pl (memS b s m)=pl m:=by
 unfold memS;dsimp only;split
 ·exact pl_add.trans (pl_some.trans (pl_mem2.trans pl_mem1))
 ·exact(pl_add (m:=freshS _)).trans (pl_mem2.trans pl_mem1)
theorem pl_args{b:Int}:∀(n:Nat) (l:List Int) (m:Mk),pl (argsL b n l m).2=pl m
 | 0,_,_=>rfl
 | n+1,l,m=>(pl_args n _ _).trans pl_some
theorem pl_ins{b:Int}{m:Mk}:pl (insS b m)=pl m:=by
 have h2:pl (sS9 b (sS9 b (tSS m)))=pl m:=pl_some.trans (pl_some (m:=tSS m))
 unfold insS;dsimp only
 repeat' split
 ·exact(pl_add (m:=freshS _)).trans ((pl_const (m:=tSS (tSS _))).trans h2)
 ·exact(pl_add (m:=freshS (tSS _))).trans h2
 ·exact(pl_add (m:=freshS _)).trans h2
 ·exact(pl_add (m:=freshS _)).trans ((pl_const (m:=tSS (tSS _))).trans ((pl_const (m:=tSS _)).trans (pl_some (m:=tSS m))))
 ·exact(pl_add (m:=freshS (tSS _))).trans ((pl_const (m:=tSS _)).trans (pl_some (m:=tSS m)))
 ·exact pl_mem (m:=tSS m)
 ·exact(pl_add (m:=tSS (freshS _))).trans (pl_args _ _ _)
 ·exact(pl_add (m:=freshS (freshS _))).trans h2
 ·exact pl_const (m:=wordS (tSS m))
theorem pl_setT{b:Int}{t:D.Term}{m:Mk}:pl (setT b t m)=pl m:=pl_set (m:=m) rfl
theorem pl_end{b:Int}{l:List Int}{m:Mk}:pl (endS b l m)=pl m:=by
 unfold endS;dsimp only
 repeat' split
 ·exact pl_setT (m:=tSS (tSS m))
 ·exact pl_setT.trans (pl_some (m:=tSS m))
 ·exact pl_setT (m:=tSS m)
 ·exact pl_setT
 ·exact pl_setT.trans ((pl_add (m:=tSS (freshS _))).trans ((pl_some (m:=tSS _)).trans pl_some))
 ·exact(pl_setT (m:=tSS _)).trans pl_some
 ·exact pl_setT.trans ((pl_add (m:=freshS _)).trans (pl_const.trans pl_some))
theorem pl_insN{b:Nat}:∀(n:Nat) (m:Mk),pl (insN b n m)=pl m
 | 0,_=>rfl
 | n+1,m=>(pl_insN n _).trans pl_ins
theorem pl_putIn{b i:Nat}{l:List D.In}{m:Mk}:pl (putIn b i l m)=pl m:=pl_set (m:=m) (by simp)
theorem pl_get{m m':Mk}(h:pl m=pl m')(j:Nat):(ix m.bs j).Phis.length=(ix m'.bs j).Phis.length:=by
 have hl:m.bs.length=m'.bs.length:=by have:=congrArg List.length h;simpa[pl] using this
 by_cases hj:j<m.bs.length
 ·have h1:(pl m).getD j 0=(pl m').getD j 0:=by rw[h]
  simpa[pl,List.getD,hj,hl▸hj,ix] using h1
 ·have hj':¬j<m'.bs.length:=by omega
  simp[ix,hj,hj']
theorem preds3_rng{f:D.Func}{b:Int}:∀x∈pd3 f b,0≤x∧x<f.Blocks.length:=by
 have:∀k,∀x∈predsT3 f.Blocks k b,0≤x∧x<k:=by
  intro k
  induction k with
  | zero=>intro x hx;cases hx
  | succ k ih =>
   intro x hx
   rw[predsT3] at hx
   rcases List.mem_append.1 hx with h|h
   ·have:=ih x h;omega
   ·split at h
    ·simp at h;subst h;omega
    ·cases h
 exact this _
theorem preds3_len(f:D.Func)(b:Int):(pd3 f b).length≤f.Blocks.length:=predsT3_len _ _ _
theorem fm_snoc{l:List D.Ins}{k:Nat}(hk:k<l.length):(l.take (k+1)).flatMap makes3=(l.take k).flatMap makes3++makes3 (ix l k):=by rw[take_ix hk];simp
def phiOK(b:Nat)(ph:List Int)(m:Mk):Prop:=(∀j,(ix m.bs j).Phis.length=if j<b then (ix ph j).toNat else 0)∧∀j,b≤j→ix ph j=0
theorem phi_start{m m':Mk}{n:Nat}(h:pl m=pl m')(h2:m'.bs=List.replicate n default):phiOK 1 (List.replicate n 0) m:=by
 have h0:∀j,ix (List.replicate n (0:Int)) j=0:=fun j=>by by_cases hj:j<n<;>simp[ix,hj]
 refine⟨fun j=>?_,fun j _=>h0 j⟩
 rw[pl_get h,h2,h0]
 have:(ix (List.replicate n (default:D.Block)) j)=default:=by by_cases hj:j<n<;>simp[ix,hj]
 rw[this];split<;>rfl
theorem addP_len{b:Nat}{m:Mk}(hb:b<m.bs.length)(j:Nat):(ix (addP b m).bs j).Phis.length=(ix m.bs j).Phis.length+if j=b then 1 else 0:=by
 show(ix (m.bs.set b _) j).Phis.length=_
 rw[ix_set hb]
 split
 ·rename_i e;subst e;simp[freshS]
 ·rfl
theorem phiN_len{b:Nat}:∀(k:Nat) (m:Mk),b<m.bs.length→∀j,(ix (phiN b k m).bs j).Phis.length=(ix m.bs j).Phis.length+if j=b then k else 0
 | 0,m,_,j=>by simp[phiN]
 | k+1,m,hb,j=>by
  rw[phiN,phiN_len k (addP b m) (by simpa[addP,freshS] using hb) j,addP_len hb]
  split<;>omega
theorem phi_step{b:Nat}{ph ph':List Int}{m:Mk}(h:phiOK b ph m)(hb:b<m.bs.length)(hl:b<ph.length)(hp:ph'=phiR b ph m):phiOK (b+1) ph' (phiN b (ix ph' b).toNat (tSS m)):=by
 have hne:∀j,j≠b→ix ph' j=ix ph j:=fun j hj=>by
  rw[hp];unfold phiR;(repeat' split)<;>first|rfl|(rw[ix_set hl,if_neg hj])
 refine⟨fun j=>?_,fun j hj=>by rw[hne j (by omega)];exact h.2 j (by omega)⟩
 rw[phiN_len _ _ (by exact hb) j]
 show(ix m.bs j).Phis.length+_=_
 rw[h.1 j]
 by_cases e:j=b
 ·subst e;rw[if_neg (by omega),if_pos rfl,if_pos (by omega)];omega
 ·rw[if_neg e,hne j e]
  by_cases e2:j<b
  ·rw[if_pos e2,if_pos (by omega)];rfl
  ·rw[if_neg e2,if_neg (by omega)]
theorem pl_setTo{b:Nat}{l:List Int}{m:Mk}:pl (setTo b l m)=pl m:=pl_set (m:=m) rfl
theorem stand3_len(f:D.Func)(b:Int):(stand3 f b).length≤f.Params.toNat+2*cntT f.Blocks:=by
 have h:∀l:List D.Tg3,(∀t∈l,t.Makes.length≤2)→(standL f b l).length≤2*l.length:=by
  intro l
  induction l with
  | nil=>intro _;simp[standL]
  | cons x l ih =>
   intro hl
   have h1:=ih (fun t ht=>hl t (List.mem_cons_of_mem _ ht))
   have h2:=hl x (List.mem_cons_self ..)
   unfold standL at h1 ⊢
   rw[List.flatMap_cons,List.length_append,List.length_cons]
   split
   ·omega
   ·simp only[List.length_nil];omega
 have h3:=h (things3 f) (things3_mk f)
 rw[things3_len] at h3
 unfold stand3
 rw[List.length_append,numsL_len];omega
theorem phiR_rng{b:Nat}{ph:List Int}{m:Mk}(h:∀j,0≤ix ph j∧ix ph j≤3):∀j,0≤ix (phiR b ph m) j∧ix (phiR b ph m) j≤3:=by
 have h4:=tV9 (n:=4) (by omega) m
 unfold phiR;split
 ·exact rng_set h (by omega)
 split
 ·exact rng_set h (by omega)
 ·exact h
theorem phiR_len{b:Nat}{ph:List Int}{m:Mk}:(phiR b ph m).length=ph.length:=by unfold phiR;(repeat' split)<;>simp
structure Mq where
 s:List Int
 k:Int
 nx:Int
 l:List D.Mach
def takeQV(n:Int)(m:Mq):Int:=Int.tmod (Int.tmod (if m.k<m.s.length then ix m.s m.k.toNat else 0) n+n) n
def takeQ(m:Mq):Mq:={ m with k:=m.k+1 }
def tempQ(m:Mq):Mq:={ m with nx:=m.nx+1 }
def putQ(i:D.Mach)(m:Mq):Mq:={ m with l:=m.l++[i] }
def copV(r:Int)(m:Mq):Int:=if 0<takeQV 4 m then r else m.nx
def copQ(r:Int)(m:Mq):Mq:=if 0<takeQV 4 m then takeQ m else putQ ⟨1,m.nx,0,r,0,0,0,[]⟩ (tempQ (takeQ m))
def smallQ(n:Int):Bool:=decide (-32768≤n)&&decide (n<32768)
def wordQ0(n:Int)(m:Mq):Mq:=if smallQ n then takeQ m else m
def wordQ(d n:Int)(m:Mq):Mq:=if smallQ n=true∧takeQV 2 m=0 then putQ ⟨3,d,0,0,0,0,n,[]⟩ (wordQ0 n m) else putQ ⟨4,d,0,0,0,0,n,[]⟩ (wordQ0 n m)
def opQ(x:D.Ins)(d a b:Int):D.Mach:=⟨x.Op-2+5,d,0,a,b,0,0,[]⟩
def two3(x:D.Ins)(a b:Int)(m:Mq):Mq :=
 if takeQV 6 m=0 then putQ ⟨18,x.Dst,0,m.nx+1,0,0,-100,[]⟩ (putQ ⟨18,m.nx+1,0,m.nx,0,0,100,[]⟩ (putQ (opQ x m.nx a b) (tempQ (tempQ (takeQ m)))))
 else if takeQV 6 m=1 then putQ ⟨20,x.Dst,0,m.nx,0,0,0,[]⟩ (putQ (opQ x m.nx a b) (tempQ (takeQ m)))
 else if takeQV 6 m=2∧x.Op=4 then putQ ⟨23,x.Dst,0,a,b,m.nx,0,[]⟩ (wordQ m.nx 0 (tempQ (takeQ m)))
 else putQ (opQ x x.Dst a b) (takeQ m)
def twoQ(x:D.Ins)(m:Mq):Mq:=two3 x (copV (ix x.Args 0) m) (copV (ix x.Args 1) (copQ (ix x.Args 0) m)) (copQ (ix x.Args 1) (copQ (ix x.Args 0) m))
def byteQ(n:Int):Bool:=decide (0≤n)&&decide (n≤255)
def memQ0(n:Int)(m:Mq):Mq:=if byteQ n then takeQ m else m
def mem2Q(x:D.Ins)(a:Int)(m:Mq):Mq :=
 if byteQ x.Imm=true∧0<takeQV 3 m then (if x.Op=15 then putQ ⟨24,x.Dst,0,a,0,0,x.Imm,[]⟩ (takeQ m) else putQ ⟨26,0,0,a,ix x.Args 1,0,x.Imm,[]⟩ (takeQ m))
 else if x.Op=15 then putQ ⟨25,x.Dst,0,a,m.nx,0,0,[]⟩ (wordQ m.nx x.Imm (tempQ (memQ0 x.Imm m)))
 else putQ ⟨27,0,0,a,m.nx,ix x.Args 1,0,[]⟩ (wordQ m.nx x.Imm (tempQ (memQ0 x.Imm m)))
def memQ(x:D.Ins)(m:Mq):Mq:=mem2Q x (copV (ix x.Args 0) m) (copQ (ix x.Args 0) m)
def insQ(x:D.Ins)(m:Mq):Mq :=
 if x.Op=1 then wordQ x.Dst x.Imm m
 else if x.Op=15∨x.Op=16 then memQ x m
 else if x.Op=17 then putQ ⟨28,x.Dst,0,0,0,0,x.Imm,x.Args⟩ m
 else if x.Op=18 then putQ ⟨29,x.Dst,x.Two,ix x.Args 0,ix x.Args 1,0,0,[]⟩ m
 else twoQ x m
def endV(t:D.Term)(m:Mq):D.End :=
 if t.Kind=1 then ⟨1,0,0,t.To,t.Imm⟩
 else if t.Kind=2 then
  (if 1<takeQV 4 m then ⟨2,ix t.Args 0,0,t.To,t.Imm⟩
  else if takeQV 4 m=1 then ⟨3,m.nx,ix t.Args 0,[ix t.To 1,ix t.To 0],t.Imm⟩
  else ⟨5,m.nx,ix t.Args 0,t.To,t.Imm⟩)
 else if t.Kind=3 then ⟨6,ix t.Args 0,0,t.To,t.Imm⟩
 else if t.Kind=4 then (if t.Args.length=0 then ⟨7,-1,0,t.To,t.Imm⟩ else ⟨7,copV (ix t.Args 0) m,0,t.To,t.Imm⟩)
 else ⟨8,0,0,t.To,t.Imm⟩
def endQ(t:D.Term)(m:Mq):Mq :=
 if t.Kind=2 then (if 1<takeQV 4 m then takeQ m else wordQ m.nx 0 (tempQ (takeQ m)))
 else if t.Kind=4∧t.Args.length≠0 then copQ (ix t.Args 0) m
 else m
def okQ(nb c:Nat)(m:Mq):Prop:=(0≤m.k∧m.k≤c)∧(0≤m.nx∧m.nx≤nb+c)∧m.l.length≤c∧nb≤1000000
theorem okQ.bnd{nb c:Nat}{m:Mq}(h:okQ nb c m):0≤m.k∧m.k≤c∧0≤m.nx∧m.nx≤nb+c∧m.l.length≤c∧nb≤1000000:=⟨h.1.1,h.1.2,h.2.1.1,h.2.1.2,h.2.2.1,h.2.2.2⟩
theorem okQ.mono{nb c c':Nat}{m:Mq}(h:okQ nb c m)(hc:c≤c'):okQ nb c' m:=by unfold okQ at *;omega
theorem okQ.setk{nb c c':Nat}{m:Mq}{x:Int}(h:okQ nb c m)(hx:0≤x∧x≤c')(hc:c≤c'):okQ nb c' { m with k:=x }:=⟨hx,(h.mono hc).2⟩
theorem okQ.setnx{nb c c':Nat}{m:Mq}{x:Int}(h:okQ nb c m)(hx:0≤x∧x≤nb+c')(hc:c≤c'):okQ nb c' { m with nx:=x }:=⟨(h.mono hc).1,hx,(h.mono hc).2.2⟩
theorem okQ.setl{nb c c':Nat}{m:Mq}{x:List D.Mach}(h:okQ nb c m)(hx:x.length≤c')(hc:c≤c'):okQ nb c' { m with l:=x }:=⟨(h.mono hc).1,(h.mono hc).2.1,hx,h.2.2.2⟩
theorem okQ0{s:List Int}{n:Int}{nb:Nat}(h:0≤n∧n≤nb)(hb:nb≤1000000):okQ nb 0 ⟨s,0,n,[]⟩:=by unfold okQ;simp;omega
section
variable{nb c:Nat}{m:Mq}
theorem takeQ_ok(h:okQ nb c m):okQ nb (c+1) (takeQ m):=h.setk (by have:=h.bnd;omega) (by omega)
theorem tempQ_ok(h:okQ nb c m):okQ nb (c+1) (tempQ m):=h.setnx (by have:=h.bnd;omega) (by omega)
theorem putQ_ok{i:D.Mach}(h:okQ nb c m):okQ nb (c+1) (putQ i m):=h.setl (by have:=h.bnd;simp;omega) (by omega)
theorem copQ_ok{r:Int}(h:okQ nb c m):okQ nb (c+3) (copQ r m):=by
 unfold copQ;split
 ·exact(takeQ_ok h).mono (by omega)
 ·exact putQ_ok (tempQ_ok (takeQ_ok h))
theorem wordQ0_ok{n:Int}(h:okQ nb c m):okQ nb (c+1) (wordQ0 n m):=by unfold wordQ0;split;exact takeQ_ok h;exact h.mono (by omega)
theorem wordQ_ok{d n:Int}(h:okQ nb c m):okQ nb (c+2) (wordQ d n m):=by
 unfold wordQ;split<;>exact putQ_ok (wordQ0_ok h)
theorem two3_ok{x:D.Ins}{a b:Int}(h:okQ nb c m):okQ nb (c+6) (two3 x a b m):=by
 unfold two3
 repeat' split
 ·exact putQ_ok (putQ_ok (putQ_ok (tempQ_ok (tempQ_ok (takeQ_ok h)))))
 ·exact(putQ_ok (putQ_ok (tempQ_ok (takeQ_ok h)))).mono (by omega)
 ·exact(putQ_ok (wordQ_ok (tempQ_ok (takeQ_ok h)))).mono (by omega)
 ·exact(putQ_ok (takeQ_ok h)).mono (by omega)
theorem twoQ_ok{x:D.Ins}(h:okQ nb c m):okQ nb (c+12) (twoQ x m):=two3_ok (copQ_ok (copQ_ok h))
theorem mem2Q_ok{x:D.Ins}{a:Int}(h:okQ nb c m):okQ nb (c+5) (mem2Q x a m):=by
 have h1:okQ nb (c+1) (memQ0 x.Imm m):=by unfold memQ0;split;exact takeQ_ok h;exact h.mono (by omega)
 unfold mem2Q
 repeat' split
 ·exact(putQ_ok (takeQ_ok h)).mono (by omega)
 ·exact(putQ_ok (takeQ_ok h)).mono (by omega)
 all_goals exact putQ_ok (wordQ_ok (tempQ_ok h1))
theorem memQ_ok{x:D.Ins}(h:okQ nb c m):okQ nb (c+8) (memQ x m):=mem2Q_ok (copQ_ok h)
theorem insQ_ok{x:D.Ins}(h:okQ nb c m):okQ nb (c+12) (insQ x m):=by
 unfold insQ
 repeat' split
 ·exact(wordQ_ok h).mono (by omega)
 ·exact(memQ_ok h).mono (by omega)
 ·exact(putQ_ok h).mono (by omega)
 ·exact(putQ_ok h).mono (by omega)
 ·exact twoQ_ok h
theorem endQ_ok{t:D.Term}(h:okQ nb c m):okQ nb (c+4) (endQ t m):=by
 unfold endQ
 repeat' split
 ·exact(takeQ_ok h).mono (by omega)
 ·exact wordQ_ok (tempQ_ok (takeQ_ok h))
 ·exact(copQ_ok h).mono (by omega)
 ·exact h.mono (by omega)
theorem takeQV_rng{n:Int}(hn:0<n)(m:Mq):0≤takeQV n m∧takeQV n m<n:=by
 unfold takeQV
 generalize (if m.k<m.s.length then ix m.s m.k.toNat else 0)=x
 have h1:=Int.lt_tmod_of_pos x hn
 exact⟨Int.tmod_nonneg _ (by omega),Int.tmod_lt_of_pos _ hn⟩
theorem takeQ_s:(takeQ m).s=m.s:=rfl
theorem tempQ_s:(tempQ m).s=m.s:=rfl
theorem putQ_s{i:D.Mach}:(putQ i m).s=m.s:=rfl
theorem copQ_s{r:Int}:(copQ r m).s=m.s:=by unfold copQ;split<;>rfl
theorem wordQ0_s{n:Int}:(wordQ0 n m).s=m.s:=by unfold wordQ0;split<;>rfl
theorem wordQ_s{d n:Int}:(wordQ d n m).s=m.s:=by unfold wordQ;split<;>exact wordQ0_s
theorem two3_s{x:D.Ins}{a b:Int}:(two3 x a b m).s=m.s:=by
 unfold two3;(repeat' split)<;>first|rfl|(simp only[putQ_s,wordQ_s,tempQ_s,takeQ_s])
theorem twoQ_s{x:D.Ins}:(twoQ x m).s=m.s:=two3_s.trans (copQ_s.trans copQ_s)
theorem memQ0_s{n:Int}:(memQ0 n m).s=m.s:=by unfold memQ0;split<;>rfl
theorem mem2Q_s{x:D.Ins}{a:Int}:(mem2Q x a m).s=m.s:=by
 unfold mem2Q;(repeat' split)<;>first|rfl|(simp only[putQ_s,wordQ_s,tempQ_s,takeQ_s,memQ0_s])
theorem memQ_s{x:D.Ins}:(memQ x m).s=m.s:=mem2Q_s.trans copQ_s
theorem insQ_s{x:D.Ins}:(insQ x m).s=m.s:=by
 unfold insQ;(repeat' split)<;>first|rfl|exact wordQ_s|exact memQ_s|exact twoQ_s
theorem endQ_s{t:D.Term}:(endQ t m).s=m.s:=by
 unfold endQ;(repeat' split)<;>first|rfl|exact copQ_s|(simp only[putQ_s,wordQ_s,tempQ_s,takeQ_s])
end
theorem dacv{Γ:List Dt}{L:List Res}{α β:Type}{r:Rp α}(vl:α→β→Value){a a':α}{c:β}(e:a'=a)(h:Nd Γ L (da r (vl a c) a)):Nd Γ L (da r (vl a' c) a'):=by subst e;exact h
abbrev okSq(nb c:Nat)(S:List Int)(m:Mq):Prop:=okQ nb c m∧m.s=S
abbrev bndq(nb c:Nat)(m:Mq):Prop:=0≤m.k∧m.k≤c∧0≤m.nx∧m.nx≤nb+c∧m.l.length≤c∧nb≤1000000
theorem okSq.mono{nb c c':Nat}{S:List Int}{m:Mq}(h:okSq nb c S m)(hc:c≤c'):okSq nb c' S m:=⟨okQ.mono h.1 hc,h.2⟩
abbrev mcq(m:Mq)(vs al:Value):List Value:=[vs,.int .i64 m.k,.int .i64 m.nx,al]
abbrev KAq(P:Program)(f:FuncId)(args:List Value)(D0:List Dt)(g:Nat)(vs al:Value)(S:List Int)(m st:Mq)(val:Value):Prop :=
 Tr P f (.pointer (some ⟨g,0,none⟩)::args).toArray (dv (rL (rI .i64)) vs S::D0) [bx g 155 (mcq m vs al)] (fun _:Unit=>val) (fun _=>[]) (fun _ _=>[bx g 155 (mcq st vs al)])
abbrev KEq{α β:Type}(P:Program)(f:FuncId)(args:List Value)(D0:List Dt)(g:Nat)(vs al:Value)(S:List Int)(B:Nat)(r:Rp α)(vl:α→β→Value)(a:α)(m st:Mq):Prop :=
 Tr P f (.pointer (some ⟨g,0,none⟩)::args).toArray (dv (rL (rI .i64)) vs S::D0) [bx g 155 (mcq m vs al),gl B rMach 69 al m.l] (fun p:Value×β=>vl a p.2) (fun p=>[da r (vl a p.2) a]) (fun _ p=>[bx g 155 (mcq st vs p.1),gl B rMach 69 p.1 st.l])
abbrev KBq(P:Program)(f:FuncId)(args:List Value)(D0:List Dt)(g:Nat)(vs al:Value)(S:List Int)(B:Nat)(E:List Dt)(m st:Mq)(val:Value):Prop :=
 Tr P f (.pointer (some ⟨g,0,none⟩)::args).toArray (dv (rL (rI .i64)) vs S::D0) [bx g 155 (mcq m vs al),gl B rMach 69 al m.l] (fun _:Value=>val) (fun _=>E) (fun _ p=>[bx g 155 (mcq st vs p),gl B rMach 69 p st.l])
section
variable{P:Program}{Γ Γ' E D0:List Dt}{L M N:List Res}{e:Env}{X:Cx}{n:Fs}{w0:World}{Q:Exit→Act→World→Prop}{ops:Array Oper}{d:Nat}{ty:TypeId}{pos:String}{af:Array Edge}{rest:List Oper}{f:FuncId}{h:Operand}{xs:List Operand}{ws:List Value}{ts:Array TypeId}{g B nb c:Nat}{vs al val:Value}{S:List Int}{m st:Mq}
theorem ka_nq(h:KAq P f ws D0 g vs al S m st val):KAq P f (ws++[]) D0 g vs al S m st val:=by rw[List.append_nil];exact h
theorem kb_nq(h:KBq P f ws D0 g vs al S B E m st val):KBq P f (ws++[]) D0 g vs al S B E m st val:=by rw[List.append_nil];exact h
theorem jzr(hE:Ent P f)(hf:ev e h=some (.func (.func f) #[] #[]))(hl:evl e xs=some (.pointer (some ⟨g,0,none⟩)::ws))(hT:KAq P f ws D0 g vs al S m st val)(hd:Sd Γ L (dv (rL (rI .i64)) vs S::D0))(hk:Tks L [bx g 155 (mcq m vs al),gl B rMach 69 al m.l] M)(ok:okSq nb c S st)
  (k:∀x,x=st→okSq nb c S x→bndq nb c x→LH P n w0 ops Q X Γ (bx g 155 (mcq x vs al)::gl B rMach 69 al x.l::M) ((d,val)::e) rest) (h1:st.l=m.l:=by rfl) (hd1:Nat.blt d n.sz=true:=by rfl):LH P n w0 ops Q X Γ L e (⟨some d,.call { callee := .value h,args:=xs.toArray,argTypes:=ts },ty,pos,af,none⟩::rest) :=
 jc (cs:=[]) hE hf hl (ka_nq hT) hd (tks1 hk) (fun _=>rfl) (fun _=>rfl) (fun _=>by have:=k st rfl ok (okQ.bnd ok.1);rw[h1] at this;exact this) hd1
theorem jzb(hE:Ent P f)(hf:ev e h=some (.func (.func f) #[] #[]))(hl:evl e xs=some (.pointer (some ⟨g,0,none⟩)::ws))(hT:KBq P f ws D0 g vs al S B E m st val)(hd:Sd Γ L (dv (rL (rI .i64)) vs S::D0))(hk:Tks L [bx g 155 (mcq m vs al),gl B rMach 69 al m.l] M)(ok:okSq nb c S st)(hp:Ap E Γ Γ')
  (k:∀x,x=st→okSq nb c S x→bndq nb c x→∀al',Sv al'→LH P n w0 ops Q X Γ' (bx g 155 (mcq x vs al')::gl B rMach 69 al' x.l::M) ((d,val)::e) rest) (hd1:Nat.blt d n.sz=true:=by rfl):LH P n w0 ops Q X Γ L e (⟨some d,.call { callee := .value h,args:=xs.toArray,argTypes:=ts },ty,pos,af,none⟩::rest) :=
 jc (cs:=[]) hE hf hl (kb_nq hT) hd hk (fun _=>hp) (fun _=>rfl) (fun p=>jgo k1 fun h9=>k st rfl ok (okQ.bnd ok.1) p h9) hd1
theorem jze{α β:Type}{r:Rp α}{vl:α→β→Value}{a:α}(hE:Ent P f)(hf:ev e h=some (.func (.func f) #[] #[]))(hl:evl e xs=some (.pointer (some ⟨g,0,none⟩)::ws))(hT:KEq P f (ws++[]) D0 g vs al S B r vl a m st)(hd:Sd Γ L (dv (rL (rI .i64)) vs S::D0))(hk:Tks L [bx g 155 (mcq m vs al),gl B rMach 69 al m.l] M)(ok:okSq nb c S st)
  (k:∀x,x=st→okSq nb c S x→bndq nb c x→∀al' cc,Sv al'→LH P n w0 ops Q X (da r (vl a cc) a::Γ) (bx g 155 (mcq x vs al')::gl B rMach 69 al' x.l::M) ((d,vl a cc)::e) rest) (hd1:Nat.blt d n.sz=true:=by rfl):LH P n w0 ops Q X Γ L e (⟨some d,.call { callee := .value h,args:=xs.toArray,argTypes:=ts },ty,pos,af,none⟩::rest) :=
 jc (cs:=[]) hE hf hl hT hd hk (fun _=>rfl) (fun _=>rfl) (fun p=>jgo k1 fun h9=>k st rfl ok (okQ.bnd ok.1) p.1 p.2 h9) hd1
theorem jzg{j t:Nat}{want Bb:Bool}{u:Value}(hj:(ops[j]?).bind (·.dst)=some t)(hu:lk e t=some u)(hB:Gd u want Bb)(hE:Ent P f)(hf:ev e h=some (.func (.func f) #[] #[]))(hl:Bb=true→evl e xs=some (.pointer (some ⟨g,0,none⟩)::ws))(hT:KAq P f ws D0 g vs al S m st val)(hd:Sd Γ L (dv (rL (rI .i64)) vs S::D0))(hk:Tks L [bx g 155 (mcq m vs al),gl B rMach 69 al m.l] M)(ok:okSq nb c S (if Bb then st else m))
  (k:∀x,x=(if Bb then st else m)→okSq nb c S x→bndq nb c x→LH P n w0 ops Q X Γ (bx g 155 (mcq x vs al)::gl B rMach 69 al x.l::M) ((d,gv Bb val)::e) rest) (h1:st.l=m.l:=by rfl) (hd1:Nat.blt d n.sz=true:=by rfl) (ht:Nat.blt t n.sz=true:=by rfl):LH P n w0 ops Q X Γ L e (⟨some d,.call { callee := .value h,args:=xs.toArray,argTypes:=ts },ty,pos,af,some (j,want)⟩::rest):=fun F H hp=>by
 have hk1:=tks1 hk
 refine LF.gcallF hj hu hB (fun hb=>OpCall.fnc (cs:=[]) hE hf (hl hb)) (fun _=>(ka_nq hT).run hp hd hk1) (fun v' H' hz=>?_) hd1 ht
 rcases hz with⟨hb,_,F',rfl,h9⟩|⟨hb,rfl⟩
 ·subst hb
  have:=k st (by simp) (by simpa using ok) (okQ.bnd (by simpa using ok.1))
  rw[h1] at this
  exact this F' H' h9
 ·subst hb
  have:=k m (by simp) (by simpa using ok) (okQ.bnd (by simpa using ok.1))
  exact this F _ (hp_tks hp hk)
theorem jzn(st:Mq)(hk:Tks L [bx g 155 (mcq st vs al),gl B rMach 69 al st.l] M)(ok:okSq nb c S st)
 (k:∀x,x=st→okSq nb c S x→bndq nb c x→LH P n w0 ops Q X Γ (bx g 155 (mcq x vs al)::gl B rMach 69 al x.l::M) e rest):LH P n w0 ops Q X Γ L e rest:=fun F H hp=>k st rfl ok (okQ.bnd ok.1) F H (hp_tks hp hk)
theorem jzna(st:Mq)(hk:Tk L (bx g 155 (mcq st vs al)) M)(ok:okSq nb c S st)
 (k:∀x,x=st→okSq nb c S x→bndq nb c x→LH P n w0 ops Q X Γ (bx g 155 (mcq x vs al)::M) e rest):LH P n w0 ops Q X Γ L e rest:=fun F H hp=>k st rfl ok (okQ.bnd ok.1) F H (hp.front hk)
end
theorem F155_0:Fld Tryz.prog 155 0 0:=⟨_,_,Tryz.underlying155,rfl,rfl,1,(by unfold Sz;kernel_rfl),by decide⟩
theorem F155_1:Fld Tryz.prog 155 1 1:=⟨_,_,Tryz.underlying155,rfl,rfl,1,(by unfold Sz;kernel_rfl),by decide⟩
theorem F155_2:Fld Tryz.prog 155 2 2:=⟨_,_,Tryz.underlying155,rfl,rfl,1,(by unfold Sz;kernel_rfl),by decide⟩
theorem F155_3:Fld Tryz.prog 155 3 3:=⟨_,_,Tryz.underlying155,rfl,rfl,1,(by unfold Sz;kernel_rfl),by decide⟩
theorem I69:(Tryz.prog.info? 69).map (fun i=>(i.zero,i.size,i.bytes))=some (some (.agg #[.int .i64 0,.int .i64 0,.int .i64 0,.int .i64 0,.int .i64 0,.int .i64 0,.int .i32 0,.slice none 0 0]),8,80):=by kernel_rfl
theorem Z33:Sz Tryz.prog 33 1:=by unfold Sz;kernel_rfl
set_option maxRecDepth 4000 in
theorem m7take_ct{vs al:Value}{m:Mq}{nb c:Nat}{S:List Int}{g0:Nat}(hok:okSq nb c S m)(hc:c≤1000000)(n:Int)(hn9:0<n∧n≤1000000000):KAq Tryz.prog 145 [.int .i64 n] [] g0 vs al S m (takeQ m) (.int .i64 (takeQV n m)):=by
 refine jenter (args:=[.pointer (some ⟨g0,0,none⟩),.int .i64 n]) Tryz.func145 rfl rfl rfl fun w0 X=>?_
 have bd0:=okQ.bnd hok.1
 refine jq (jr (ja Z (jn (jx (jq (jr (ja Z (jn (jx (jq (jq ?_)))))))))))
 refine jstl Mixed (by kernel_rfl) (jt (jmv Z) (jt (jnil Z) (jt (jf F155_1 Z) (jt (jl k0 O3 Z Z) (jt (jmv Z) (jt (jnil Z) (jt (jf F155_0 Z) (jt (jl k0 O22 Z Z) (tdq d0 fun q1 w1=>jt (jln U22 d0 Z) (jt (jlss Z Z) ?_))))))))))
 refine jdn (jx ?_)
 refine jif Z (fun hc1=>?_) (fun hc1=>?_)
 refine jstl Mixed (by kernel_rfl) (jt (jmv Z) (jt (jnil Z) (jt (jf F155_0 Z) (jt (jl k0 O22 Z Z) (jt (jmv Z) (jt (jnil Z) (jt (jf F155_1 Z) (jt (jl k0 O3 Z Z) (jt (jix (i:=(Int.toNat m.k)) U22 Z3 d0 Z Z (by omega) (by omega)) (jt (jlI (dix d0 (Int.toNat m.k) (by omega)) O3 Z) (jt (jas Z) ?_)))))))))))
 refine jdn (jx (jq (jr (jm Z (js (jnil Z) (js (jf F155_1 Z) (js (jl k0 O3 Z Z) (js (jadd Z Z (by omega)) (js (jnil Z) (js (jf F155_1 Z) (jst k0 Z3 Z Z Z s1 ?_)))))))))))
 refine jzna (c:=c+1) ({ m with k:=m.k+1 }) k0 ⟨(okQ.setk hok.1 (by omega) (by omega)),hok.2⟩ fun ms2 hms2 oms2 bms2=>?_
 clear bd0
 refine jn (jx (jq (jr (jm Z (jm Z (js (jrem Z Z (by omega)) (jm Z ?_)))))))
 have hz1:=Int.tmod_lt_of_pos (ix S (Int.toNat m.k)) hn9.1
 have hz2:=Int.lt_tmod_of_pos (ix S (Int.toNat m.k)) hn9.1
 refine js (jadd Z Z (by omega)) (jm Z (js (jrem Z Z (by omega)) (ja Z (jn (jx (jrt ?_))))))
 have hv0:takeQV n m=(Int.tmod ((Int.tmod (ix S (Int.toNat m.k)) n)+n) n):=(by(try simp only[hms2] at hc1);(try simp only[hms2]);simp only[takeQV,hok.2];simp[*])
 have hst:ms2=takeQ m:=(by(try simp only[hms2] at hc1);(try simp only[hms2]);all_goals first|rfl|(simp[takeQV,takeQ,hc1];done)|(simp[takeQV,takeQ,hc1];rfl)|(unfold takeQV takeQ;(repeat' split)<;>first|rfl|(exfalso;omega)|(simp[hc1] at *;done)|(simp_all;done)))
 exact jr1 Z Z () (by rw[hv0]<;>rfl) dn (fun _ _=>(kcb (by rw[←hst]) k0 kn))
 refine jsk (jx (jq (jr (jm Z (js (jnil Z) (js (jf F155_1 Z) (js (jl k0 O3 Z Z) (js (jadd Z Z (by omega)) (js (jnil Z) (js (jf F155_1 Z) (jst k0 Z3 Z Z Z s1 ?_)))))))))))
 refine jzna (c:=c+1) ({ m with k:=m.k+1 }) k0 ⟨(okQ.setk hok.1 (by omega) (by omega)),hok.2⟩ fun ms3 hms3 oms3 bms3=>?_
 clear bd0
 refine jn (jx (jq (jr (jm Z (jm Z (js (jrem Z Z (by omega)) (jm Z ?_)))))))
 have hz1:=Int.tmod_lt_of_pos 0 hn9.1
 have hz2:=Int.lt_tmod_of_pos 0 hn9.1
 refine js (jadd Z Z (by omega)) (jm Z (js (jrem Z Z (by omega)) (ja Z (jn (jx (jrt ?_))))))
 have hv0:takeQV n m=(Int.tmod ((Int.tmod 0 n)+n) n):=(by(try simp only[hms3] at hc1);(try simp only[hms3]);simp only[takeQV,hok.2];simp[*])
 have hst:ms3=takeQ m:=(by(try simp only[hms3] at hc1);(try simp only[hms3]);all_goals first|rfl|(simp[takeQV,takeQ,hc1];done)|(simp[takeQV,takeQ,hc1];rfl)|(unfold takeQV takeQ;(repeat' split)<;>first|rfl|(exfalso;omega)|(simp[hc1] at *;done)|(simp_all;done)))
 exact jr1 Z Z () (by rw[hv0]<;>rfl) dn (fun _ _=>(kcb (by rw[←hst]) k0 kn))
set_option maxRecDepth 4000 in
theorem m7temp_ct{vs al:Value}{m:Mq}{nb c:Nat}{S:List Int}{g0:Nat}(hok:okSq nb c S m)(hc:c≤1000000):KAq Tryz.prog 146 [] [] g0 vs al S m (tempQ m) (.int .i64 m.nx):=by
 refine jenter (args:=[.pointer (some ⟨g0,0,none⟩)]) Tryz.func146 rfl rfl rfl fun w0 X=>?_
 have bd0:=okQ.bnd hok.1
 refine jq (jr (ja Z (jn (jx (jq (jr (jm Z (js (jnil Z) (js (jf F155_2 Z) (js (jl k0 O3 Z Z) (js (jadd Z Z (by omega)) ?_)))))))))))
 refine js (jnil Z) (js (jf F155_2 Z) (jst k0 Z3 Z Z Z s2 (jzna (c:=c+1) ({ m with nx:=m.nx+1 }) k0 ⟨(okQ.setnx hok.1 (by omega) (by omega)),hok.2⟩ fun ms1 hms1 oms1 bms1=>?_)))
 clear bd0
 refine jn (jx (jq (jr (jm Z (js (jnil Z) (js (jf F155_2 Z) (js (jl k0 O3 Z Z) (js (jsub Z Z (by omega)) (ja Z (jn (jx ?_)))))))))))
 refine jrt ?_
 have hv0:m.nx=(ms1.nx-1):=(by(try simp only[hms1]);simp)
 have hst:ms1=tempQ m:=(by(try simp only[hms1]);all_goals first|rfl|(simp[tempQ];done)|(simp[tempQ];rfl)|(unfold tempQ;(repeat' split)<;>first|rfl|(exfalso;omega)|(simp[] at *;done)|(simp_all;done)))
 exact jr1 Z Z () (by rw[hv0]<;>rfl) dn (fun _ _=>(kcb (by rw[←hst]) k0 kn))
set_option maxRecDepth 4000 in
theorem m7put_ct{vs al:Value}{m:Mq}{nb c:Nat}{S:List Int}{g0:Nat}{B0:Nat}(hok:okSq nb c S m)(hc:c≤1000000){a1:Value}{i:D.Mach}:KBq Tryz.prog 143 [vMach i a1] [da rMach (vMach i a1) i] g0 vs al S B0 [] m (putQ i m) (.tuple #[]):=by
 refine jenter (args:=[.pointer (some ⟨g0,0,none⟩),vMach i a1]) Tryz.func143 rfl rfl rfl fun w0 X=>?_
 refine cgo k1 fun w1=>?_
 have bd0:=okQ.bnd hok.1
 refine jq (jr (jbox Z Z fun g3=>jn (jx (jany true (.a 0 (.a 1 (.a 2 (.a 3 (.a 4 (.a 5 (.o 6 (.o 7 (.a 8 (.a 9 (.o 10 .e))))))))))) Mixed (by kernel_rfl) (kd kn) fun F2=>jy Z (jmv Z) (jy Z (jmv Z) (jy Z (jnil Z) (jy Z (jf F155_3 Z) (jy Z (jl k1 O33 Z Z) (jy Z (jla k0 A69 Z69 Z Z Z) ?_)))))))))
 refine jyo Z (jlit (r:=rMach) (l:=[i]) U33 I69 (by decide) Z Z Z (lA d2 ln) fun g10=>jyn d0 (kc k1 (kc k1 kn)) (jyo Z (jfz k0 (by(try simp)<;>omega) (japl U33 I69 (by decide) Z k2 Z Z d0 (by(try simp)<;>omega) fun v11 w6=>jyn d1 (kc k1 (kc k1 kn)) (jy Z (jnil Z) (jy Z (jf F155_3 Z) (jyo Z (jst k2 Z33 Z Z w6.one s3 (jzn (c:=c+1) ({ m with l:=m.l++([i]) }) (kd kn) ⟨(okQ.setl hok.1 (by simp only[List.length_append,List.length_cons,List.length_nil];omega) (by omega)),hok.2⟩ fun ms8 hms8 oms8 bms8=>?_)))))))))
 clear bd0
 refine jyz d0 (jyd ?_)
 have hst:ms8=putQ i m:=(by(try simp only[hms8]);all_goals first|rfl|(simp[putQ];done)|(simp[putQ];rfl)|(unfold putQ;(repeat' split)<;>first|rfl|(exfalso;omega)|(simp[] at *;done)|(simp_all;done)))
 exact jd0 Z v11 Z dn (fun _ _=>(kcb (by rw[←hst]) k0 (kcg (by rw[←hst]) k0 kn)))
theorem E143:Ent Tryz.prog 143:=⟨_,Tryz.func143,by kernel_rfl,by kernel_rfl⟩
theorem E145:Ent Tryz.prog 145:=⟨_,Tryz.func145,by kernel_rfl,by kernel_rfl⟩
theorem E146:Ent Tryz.prog 146:=⟨_,Tryz.func146,by kernel_rfl,by kernel_rfl⟩
set_option maxRecDepth 4000 in
theorem m7cop_ct{vs al:Value}{m:Mq}{nb c:Nat}{S:List Int}{g0:Nat}{B0:Nat}(hok:okSq nb c S m)(hc:c≤990000)(r:Int)(ww1:IntKind.i64.wrap r=r):KBq Tryz.prog 147 [.int .i64 r] [] g0 vs al S B0 [wf .i64 (copV r m)] m (copQ r m) (.int .i64 (copV r m)):=by
 refine jenter (args:=[.pointer (some ⟨g0,0,none⟩),.int .i64 r]) Tryz.func147 rfl rfl rfl fun w0 X=>?_
 refine cgo k1 fun w1=>?_
 have bd0:=okQ.bnd hok.1
 refine jq (jr (ja Z (jn (jx (jq (jq (jr (jm Z (jzr E145 Z Z (m7take_ct hok (by omega) 4 (by omega)) (dc d0 dn) (kd kn) ⟨takeQ_ok hok.1,hok.2⟩ fun m7 hm7 om7 bm7=>?_)))))))))
 have w7_0:IntKind.i64.wrap (takeQV 4 m)=takeQV 4 m:=(IntWalk.i64_in _ (by have h9:=@takeQV_rng 4 (by omega) m;omega))
 have tr7:=@takeQV_rng 4 (by omega) m
 clear bd0
 refine js (jgtr Z Z) (jn (jx ?_))
 refine jif Z (fun hc1=>?_) (fun hc1=>?_)
 refine jq (jr (jm Z (ja Z (jn (jx (jrt (jtr ?_)))))))
 have hv0:copV r m=r:=(by(try simp only[hm7] at hc1);(try simp only[hm7]);all_goals first|rfl|(simp[copQ,copV,hc1];done)|(simp[copQ,copV,hc1];rfl)|(unfold copQ copV;(repeat' split)<;>first|rfl|(exfalso;omega)|(simp[hc1] at *;done)|(simp_all;done)))
 have hst:m7=copQ r m:=(by(try simp only[hm7] at hc1);(try simp only[hm7]);all_goals first|rfl|(simp[copQ,copV,hc1];done)|(simp[copQ,copV,hc1];rfl)|(unfold copQ copV;(repeat' split)<;>first|rfl|(exfalso;omega)|(simp[hc1] at *;done)|(simp_all;done)))
 exact jr1 Z Z al (by rw[hv0]<;>rfl) (dc (wca hv0 (wp ww1)) dn) (fun _ _=>(kcb (by rw[←hst]) k0 (kcg (by rw[←hst]) k0 kn)))
 refine jsk (jx (jq (jr (jm Z (jzr E146 Z Z (m7temp_ct om7 (by omega)) (dc d0 dn) (kd kn) ⟨tempQ_ok om7.1,om7.2⟩ fun m11 hm11 om11 bm11=>?_)))))
 have w11_0:IntKind.i64.wrap (m7.nx)=m7.nx:=(IntWalk.i64_in _ (by omega))
 clear bm7
 refine ja Z (jn (jx (jq (jr (jm Z (jm Z (jm Z (js (jbu (v := .agg #[.int .i64 1,.int .i64 m7.nx,.int .i64 0,.int .i64 r,.int .i64 0,.int .i64 0,.int .i32 0,.slice none 0 0]) Z (fun _=>by kernel_rfl)) (jzb E143 Z Z (m7put_ct (i:=⟨1,m7.nx,0,r,0,0,0,[]⟩) om11 (by omega)) (dc d0 (dc (rMach.M (m:=⟨1,m7.nx,0,r,0,0,0,[]⟩) (c:=(.slice none 0 0)) wN (wl 1) (wp w11_0) (wl 0) (wp ww1) (wl 0) (wl 0) (wl 0)) dn)) (kd kn) ⟨putQ_ok om11.1,(putQ_s.trans om11.2)⟩ p0 fun m16 hm16 om16 bm16 ua16 w2=>?_)))))))))
 clear bm11
 refine jn (jx (jq (jr (jm Z (ja Z (jn (jx (jrt ?_))))))))
 have hv0:copV r m=m7.nx:=(by(try simp only[hm7,hm11,hm16] at hc1);(try simp only[hm7,hm11,hm16]);all_goals first|rfl|(simp[copQ,copV,hc1];done)|(simp[copQ,copV,hc1];rfl)|(unfold copQ copV;(repeat' split)<;>first|rfl|(exfalso;omega)|(simp[hc1] at *;done)|(simp_all;done)))
 have hst:m16=copQ r m:=(by(try simp only[hm7,hm11,hm16] at hc1);(try simp only[hm7,hm11,hm16]);all_goals first|rfl|(simp[copQ,copV,hc1];done)|(simp[copQ,copV,hc1];rfl)|(unfold copQ copV;(repeat' split)<;>first|rfl|(exfalso;omega)|(simp[hc1] at *;done)|(simp_all;done)))
 exact jr1 Z Z ua16 (by rw[hv0]<;>rfl) (dc (wca hv0 (wp w11_0)) dn) (fun _ _=>(kcb (by rw[←hst]) k0 (kcg (by rw[←hst]) k0 kn)))
set_option maxRecDepth 4000 in
theorem m7word_ct{vs al:Value}{m:Mq}{nb c:Nat}{S:List Int}{g0:Nat}{B0:Nat}(hok:okSq nb c S m)(hc:c≤990000)(d:Int)(n:Int)(ww1:IntKind.i64.wrap d=d)(ww2:IntKind.i32.wrap n=n):KBq Tryz.prog 141 [.int .i64 d,.int .i32 n] [] g0 vs al S B0 [] m (wordQ d n m) (.tuple #[]):=by
 refine jenter (args:=[.pointer (some ⟨g0,0,none⟩),.int .i64 d,.int .i32 n]) Tryz.func141 rfl rfl rfl fun w0 X=>?_
 refine cgo k1 fun w1=>?_
 have bd0:=okQ.bnd hok.1
 refine jq (jq (jr (jm Z (js (jgeq Z Z) (jm Z (jg Z Z (.t _) (fun hg=>jmv Z) (jg Z Z (.t _) (fun hg=>jlss (evg Z hg) Z) (js (jand Z Z) (jm Z (jg Z Z (.t _) (fun hg=>jmv Z) (jzg Z Z (.t _) E145 Z (fun hg=>evl2 (evg Z hg) Z) (m7take_ct hok (by omega) 2 (by omega)) (dc d0 dn) (kd kn) (by split;exact⟨takeQ_ok hok.1,hok.2⟩;exact hok.mono (by omega)) fun m14 hm14 om14 bm14=>?_)))))))))))
 have w14_0:IntKind.i64.wrap (takeQV 2 m)=takeQV 2 m:=(IntWalk.i64_in _ (by have h9:=@takeQV_rng 2 (by omega) m;omega))
 have tr14:=@takeQV_rng 2 (by omega) m
 clear bd0
 refine jg Z Z (.t _) (fun hg=>jeql (evg Z hg) Z) (js (jand Z Z) (jn (jx ?_)))
 refine jif Z (fun hc1=>?_) (fun hc1=>?_)
 refine jq (jr (jm Z (jm Z (jm Z (js (jbu (v := .agg #[.int .i64 3,.int .i64 d,.int .i64 0,.int .i64 0,.int .i64 0,.int .i64 0,.int .i32 n,.slice none 0 0]) Z (fun _=>by kernel_rfl)) (jzb E143 Z Z (m7put_ct (i:=⟨3,d,0,0,0,0,n,[]⟩) om14 (by omega)) (dc d0 (dc (rMach.M (m:=⟨3,d,0,0,0,0,n,[]⟩) (c:=(.slice none 0 0)) wN (wl 3) (wp ww1) (wl 0) (wl 0) (wl 0) (wl 0) (wp ww2)) dn)) (kd kn) ⟨putQ_ok om14.1,(putQ_s.trans om14.2)⟩ p0 fun m21 hm21 om21 bm21 ua21 w2=>?_))))))
 clear bm14
 refine jn (jx (jrt (jtr ?_)))
 have hst:m21=wordQ d n m:=(by(try simp only[hm14,hm21] at hc1);(try simp only[hm14,hm21]);unfold wordQ wordQ0 smallQ;by_cases h1:-32768≤n<;>by_cases h2:n<32768<;>by_cases h3:takeQV 2 m=0<;>simp[h1,h2,h3] at hc1 ⊢)
 exact jr0 Z ua21 Z dn (fun _ _=>(kcb (by rw[←hst]) k0 (kcg (by rw[←hst]) k0 kn)))
 refine jsk (jx (jr (jm Z (jm Z (jm Z (js (jbu (v := .agg #[.int .i64 4,.int .i64 d,.int .i64 0,.int .i64 0,.int .i64 0,.int .i64 0,.int .i32 n,.slice none 0 0]) Z (fun _=>by kernel_rfl)) (jzb E143 Z Z (m7put_ct (i:=⟨4,d,0,0,0,0,n,[]⟩) om14 (by omega)) (dc d0 (dc (rMach.M (m:=⟨4,d,0,0,0,0,n,[]⟩) (c:=(.slice none 0 0)) wN (wl 4) (wp ww1) (wl 0) (wl 0) (wl 0) (wl 0) (wp ww2)) dn)) (kd kn) ⟨putQ_ok om14.1,(putQ_s.trans om14.2)⟩ p0 fun m26 hm26 om26 bm26 ua26 w3=>?_)))))))
 clear bm14
 refine jn ?_
 have hst:m26=wordQ d n m:=(by(try simp only[hm14,hm26] at hc1);(try simp only[hm14,hm26]);unfold wordQ wordQ0 smallQ;by_cases h1:-32768≤n<;>by_cases h2:n<32768<;>by_cases h3:takeQV 2 m=0<;>simp[h1,h2,h3] at hc1 ⊢)
 exact jd0 Z ua26 Z dn (fun _ _=>(kcb (by rw[←hst]) k0 (kcg (by rw[←hst]) k0 kn)))
end Go.Proofs.YtehhjlkmbdhckaaGreat
