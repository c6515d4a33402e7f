/- Lemmas that the claim is made of. Conditions: each lemma names its own. -/
import Derived.Test.YtehhjlkmbdhckaaGreatKH4
import Derived.Shelf.Lay
import Derived.Shelf.Sort.Plain
import Derived.Shelf.Slices.In.SortNone
import Derived.Sort.OwnSortedInts
import Derived.Test.YtehhjlkmbdhckaaGreatRows
import Derived.Test.YtehhjlkmbdhckaaGreatKH2
set_option linter.unusedSectionVars false
set_option linter.unusedSimpArgs false
set_option linter.unusedVariables false
namespace Go.Proofs.YtehhjlkmbdhckaaGreat
open Go.JE
section
variable{x:D.Mach}{r m:List Int}
theorem ds0(h:x.Op=1):stepM x r m=((0,true),setM r x.D (getM r x.A),m):=by unfold stepM;rw[if_pos h]
theorem dk0(h:x.Op=1):takesM x=[x.A]:=by unfold takesM;rw[if_pos (by omega)]
theorem dm0(h:x.Op=1):makesM x=[x.D]:=by unfold makesM;rw[if_neg (by omega),if_neg (by omega),if_neg (by omega)]
theorem ds1(h:x.Op=2):stepM x r m=((0,true),setM (setM r x.A (getM r x.B)) x.B (getM r x.A),m):=by unfold stepM;rw[if_neg (by omega),if_pos h]
theorem dk1(h:x.Op=2):takesM x=[x.A,x.B]:=by unfold takesM;rw[if_neg (by omega),if_pos (by omega)]
theorem dm1(h:x.Op=2):makesM x=[x.A,x.B]:=by unfold makesM;rw[if_pos (by omega)]
theorem ds2(h:x.Op=3∨x.Op=4):stepM x r m=((0,true),setM r x.D x.Imm,m):=by unfold stepM;rw[if_neg (by omega),if_neg (by omega),if_pos h]
theorem dm2(h:x.Op=3∨x.Op=4):makesM x=[x.D]:=by unfold makesM;rw[if_neg (by omega),if_neg (by omega),if_neg (by omega)]
theorem ds3(h:5≤x.Op∧x.Op≤17):stepM x r m=if (doM (x.Op-5+2) (getM r x.A) (getM r x.B)).2=true then ((0,true),setM r x.D (doM (x.Op-5+2) (getM r x.A) (getM r x.B)).1,m) else ((-1,false),r,m):=by unfold stepM;rw[if_neg (by omega),if_neg (by omega),if_neg (by omega),if_pos h]
theorem dk3(h:5≤x.Op∧x.Op≤17):takesM x=[x.A,x.B]:=by unfold takesM;rw[if_neg (by omega),if_pos (by omega)]
theorem dm3(h:5≤x.Op∧x.Op≤17):makesM x=[x.D]:=by unfold makesM;rw[if_neg (by omega),if_neg (by omega),if_neg (by omega)]
theorem ds4(h:18≤x.Op∧x.Op≤22):stepM x r m=((0,true),setM r x.D (doM (immOp x.Op) (getM r x.A) x.Imm).1,m):=by unfold stepM;rw[if_neg (by omega),if_neg (by omega),if_neg (by omega),if_neg (by omega),if_pos h]
theorem dk4(h:18≤x.Op∧x.Op≤22):takesM x=[x.A]:=by unfold takesM;rw[if_pos (by omega)]
theorem dm4(h:18≤x.Op∧x.Op≤22):makesM x=[x.D]:=by unfold makesM;rw[if_neg (by omega),if_neg (by omega),if_neg (by omega)]
theorem ds5(h:x.Op=23):stepM x r m=((0,true),setM r x.D (w32 (w32 (getM r x.A*getM r x.B)+getM r x.C)),m):=by unfold stepM;rw[if_neg (by omega),if_neg (by omega),if_neg (by omega),if_neg (by omega),if_neg (by omega),if_pos h]
theorem dk5(h:x.Op=23):takesM x=[x.A,x.B,x.C]:=by unfold takesM;rw[if_neg (by omega),if_neg (by omega),if_pos (by omega)]
theorem dm5(h:x.Op=23):makesM x=[x.D]:=by unfold makesM;rw[if_neg (by omega),if_neg (by omega),if_neg (by omega)]
theorem ds6(h:x.Op=24):stepM x r m=if (loadM m (w32 (getM r x.A+x.Imm))).2=true then ((0,true),setM r x.D (loadM m (w32 (getM r x.A+x.Imm))).1,m) else ((-2,false),r,m):=by unfold stepM;rw[if_neg (by omega),if_neg (by omega),if_neg (by omega),if_neg (by omega),if_neg (by omega),if_neg (by omega),if_pos h]
theorem dk6(h:x.Op=24):takesM x=[x.A]:=by unfold takesM;rw[if_pos (by omega)]
theorem dm6(h:x.Op=24):makesM x=[x.D]:=by unfold makesM;rw[if_neg (by omega),if_neg (by omega),if_neg (by omega)]
theorem ds7(h:x.Op=25):stepM x r m=if (loadM m (w32 (getM r x.A+getM r x.B))).2=true then ((0,true),setM r x.D (loadM m (w32 (getM r x.A+getM r x.B))).1,m) else ((-2,false),r,m):=by unfold stepM;rw[if_neg (by omega),if_neg (by omega),if_neg (by omega),if_neg (by omega),if_neg (by omega),if_neg (by omega),if_neg (by omega),if_pos h]
theorem dk7(h:x.Op=25):takesM x=[x.A,x.B]:=by unfold takesM;rw[if_neg (by omega),if_pos (by omega)]
theorem dm7(h:x.Op=25):makesM x=[x.D]:=by unfold makesM;rw[if_neg (by omega),if_neg (by omega),if_neg (by omega)]
theorem ds8(h:x.Op=26):stepM x r m=((if storeOk m (w32 (getM r x.A+x.Imm)) (getM r x.B)=true then (0,true) else (-2,false)),r,storeM m (w32 (getM r x.A+x.Imm)) (getM r x.B)):=by unfold stepM;rw[if_neg (by omega),if_neg (by omega),if_neg (by omega),if_neg (by omega),if_neg (by omega),if_neg (by omega),if_neg (by omega),if_neg (by omega),if_pos h]
theorem dk8(h:x.Op=26):takesM x=[x.A,x.B]:=by unfold takesM;rw[if_neg (by omega),if_pos (by omega)]
theorem dm8(h:x.Op=26):makesM x=[]:=by unfold makesM;rw[if_neg (by omega),if_neg (by omega),if_pos (by omega)]
theorem ds9(h:x.Op=27):stepM x r m=((if storeOk m (w32 (getM r x.A+getM r x.B)) (getM r x.C)=true then (0,true) else (-2,false)),r,storeM m (w32 (getM r x.A+getM r x.B)) (getM r x.C)):=by unfold stepM;rw[if_neg (by omega),if_neg (by omega),if_neg (by omega),if_neg (by omega),if_neg (by omega),if_neg (by omega),if_neg (by omega),if_neg (by omega),if_neg (by omega),if_pos h]
theorem dk9(h:x.Op=27):takesM x=[x.A,x.B,x.C]:=by unfold takesM;rw[if_neg (by omega),if_neg (by omega),if_pos (by omega)]
theorem dm9(h:x.Op=27):makesM x=[]:=by unfold makesM;rw[if_neg (by omega),if_neg (by omega),if_pos (by omega)]
theorem ds10(h:x.Op=29):stepM x r m=((0,true),setM (setM r x.D (wideM (getM r x.A) (getM r x.B)).1) x.E (wideM (getM r x.A) (getM r x.B)).2,m):=by unfold stepM;rw[if_neg (by omega),if_neg (by omega),if_neg (by omega),if_neg (by omega),if_neg (by omega),if_neg (by omega),if_neg (by omega),if_neg (by omega),if_neg (by omega),if_neg (by omega),if_pos h]
theorem dk10(h:x.Op=29):takesM x=[x.A,x.B]:=by unfold takesM;rw[if_neg (by omega),if_pos (by omega)]
theorem dm10(h:x.Op=29):makesM x=[x.D,x.E]:=by unfold makesM;rw[if_neg (by omega),if_pos (by omega)]
theorem dop_all(x:D.Mach):(x.Op=1)∨(x.Op=2)∨(x.Op=3∨x.Op=4)∨(5≤x.Op∧x.Op≤17)∨(18≤x.Op∧x.Op≤22)∨(x.Op=23)∨(x.Op=24)∨(x.Op=25)∨(x.Op=26)∨(x.Op=27)∨(x.Op=29)∨(x.Op<1∨x.Op=28∨29<x.Op):=by omega
end
def Ar(A:Int→Prop)(rs rs':List Int):Prop:=rs.length=8192∧rs'.length=8192∧∀v:Int,0≤v→v<8192→A v→ix rs v.toNat=ix rs' v.toNat
section
variable{A B:Int→Prop}{rs rs' me:List Int}{v d x:Int}{i:D.Mach}
theorem Ar.mono(h:Ar A rs rs')(hb:∀v,B v→A v):Ar B rs rs':=⟨h.1,h.2.1,fun v a b c=>h.2.2 v a b (hb v c)⟩
theorem Ar.get(h:Ar A rs rs')(ha:A v):getM rs v=getM rs' v:=by
 unfold getM
 rw[h.1,h.2.1]
 split
 ·rfl
 ·exact h.2.2 v (by omega) (by omega) ha
theorem Ar.set(h:Ar A rs rs')(hb:∀v,B v→v≠d→A v):Ar B (setM rs d x) (setM rs' d x):=by
 refine⟨(setM_len _ _ _).trans h.1,(setM_len _ _ _).trans h.2.1,fun v h1 h2 h3=>?_⟩
 unfold setM
 rw[h.1,h.2.1]
 split
 ·rw[ix_set (by rw[h.1];omega),ix_set (by rw[h.2.1];omega)]
  by_cases e:v=d
  ·subst e;rw[if_pos rfl,if_pos rfl]
  ·rw[if_neg (by omega),if_neg (by omega)];exact h.2.2 v h1 h2 (hb v h3 e)
 ·exact h.2.2 v h1 h2 (hb v h3 (by rintro rfl;omega))
theorem Ar.dead(h:Ar A rs rs')(hd:¬A d):Ar A rs (setM rs' d x):=by
 have h8:=h.2.1
 refine⟨h.1,(setM_len _ _ _).trans h.2.1,fun v h1 h2 h3=>?_⟩
 unfold setM
 split
 ·rw[ix_set (by omega),if_neg (by intro e;exact hd (by rw[show d=v by omega];exact h3))];exact h.2.2 v h1 h2 h3
 ·exact h.2.2 v h1 h2 h3
theorem step_agree(h:Ar A rs rs')(ho:(1≤i.Op∧i.Op≤29)∧i.Op≠28)(ht:∀v∈takesM i,A v)(hn:∀v,B v→v∉makesM i→A v) :
  (stepM i rs me).1=(stepM i rs' me).1∧(stepM i rs me).2.2=(stepM i rs' me).2.2∧((stepM i rs me).1.2=true→Ar B (stepM i rs me).2.1 (stepM i rs' me).2.1):=by
 have one:makesM i=[i.D]→∀v,B v→v≠i.D→A v:=fun e v a b=>hn v a (by rw[e];simpa using b)
 have non:makesM i=[]→∀v,B v→A v:=fun e v a=>hn v a (by rw[e];simp)
 rcases dop_all i with c|c|c|c|c|c|c|c|c|c|c|c
 ·have e1:=h.get (ht i.A (by rw[dk0 c];simp))
  rw[ds0 c,ds0 c,e1];exact⟨rfl,rfl,fun _=>h.set (one (dm0 c))⟩
 ·have e1:=h.get (ht i.A (by rw[dk1 c];simp))
  have e2:=h.get (ht i.B (by rw[dk1 c];simp))
  rw[ds1 c,ds1 c,e1,e2]
  exact⟨rfl,rfl,fun _=>Ar.set (A:=fun v=>v=i.A∨A v) (h.set (fun v a b=>a.resolve_left b)) (fun v a b=>(Decidable.em (v=i.A)).imp id (fun e=>hn v a (by rw[dm1 c];simp[e,b])))⟩
 ·rw[ds2 c,ds2 c];exact⟨rfl,rfl,fun _=>h.set (one (dm2 c))⟩
 ·have e1:=h.get (ht i.A (by rw[dk3 c];simp))
  have e2:=h.get (ht i.B (by rw[dk3 c];simp))
  rw[ds3 c,ds3 c,e1,e2]
  split
  ·exact⟨rfl,rfl,fun _=>h.set (one (dm3 c))⟩
  ·exact⟨rfl,rfl,fun h9=>by cases h9⟩
 ·have e1:=h.get (ht i.A (by rw[dk4 c];simp))
  rw[ds4 c,ds4 c,e1];exact⟨rfl,rfl,fun _=>h.set (one (dm4 c))⟩
 ·have e1:=h.get (ht i.A (by rw[dk5 c];simp))
  have e2:=h.get (ht i.B (by rw[dk5 c];simp))
  have e3:=h.get (ht i.C (by rw[dk5 c];simp))
  rw[ds5 c,ds5 c,e1,e2,e3];exact⟨rfl,rfl,fun _=>h.set (one (dm5 c))⟩
 ·have e1:=h.get (ht i.A (by rw[dk6 c];simp))
  rw[ds6 c,ds6 c,e1]
  split
  ·exact⟨rfl,rfl,fun _=>h.set (one (dm6 c))⟩
  ·exact⟨rfl,rfl,fun h9=>by cases h9⟩
 ·have e1:=h.get (ht i.A (by rw[dk7 c];simp))
  have e2:=h.get (ht i.B (by rw[dk7 c];simp))
  rw[ds7 c,ds7 c,e1,e2]
  split
  ·exact⟨rfl,rfl,fun _=>h.set (one (dm7 c))⟩
  ·exact⟨rfl,rfl,fun h9=>by cases h9⟩
 ·have e1:=h.get (ht i.A (by rw[dk8 c];simp))
  have e2:=h.get (ht i.B (by rw[dk8 c];simp))
  rw[ds8 c,ds8 c,e1,e2];exact⟨rfl,rfl,fun _=>h.mono (non (dm8 c))⟩
 ·have e1:=h.get (ht i.A (by rw[dk9 c];simp))
  have e2:=h.get (ht i.B (by rw[dk9 c];simp))
  have e3:=h.get (ht i.C (by rw[dk9 c];simp))
  rw[ds9 c,ds9 c,e1,e2,e3];exact⟨rfl,rfl,fun _=>h.mono (non (dm9 c))⟩
 ·have e1:=h.get (ht i.A (by rw[dk10 c];simp))
  have e2:=h.get (ht i.B (by rw[dk10 c];simp))
  rw[ds10 c,ds10 c,e1,e2]
  exact⟨rfl,rfl,fun _=>Ar.set (A:=fun v=>v=i.D∨A v) (h.set (fun v a b=>a.resolve_left b)) (fun v a b=>(Decidable.em (v=i.D)).imp id (fun e=>hn v a (by rw[dm10 c];simp[e,b])))⟩
 ·omega
end
structure FlowB(A:Nat→Int→Prop)(l:List D.Mach):Prop where
 op:∀i,i<l.length→1≤(ix l i).Op∧(ix l i).Op≤29
 tk:∀i,i<l.length→∀v∈takesM (ix l i),(0≤v∧v<8192)∧A i v
 nx:∀i,i<l.length→∀v,A (i+1) v→v∉makesM (ix l i)→A i v
abbrev Kont:=List Int→List Int→List D.Event→List Int→Int→D.Outcome
theorem seg_agree{A:Nat→Int→Prop}{l:List D.Mach}{N N':Int}{K K':Kont}{r r':List D.Mach}(hF:FlowB A l):∀(n p:Nat) (rs rs' me:List Int) (cl:List D.Event) (an:List Int) (s s':Int),p+n≤l.length→Ar (A p) rs rs'→s'+(N-s)≤N' →
  (insRun N K ((l.drop p).take n++r) rs me cl an s).End=3 ∨
  (∃t me1 cl1 st st',insRun N K ((l.drop p).take n++r) rs me cl an s=⟨2,t,me1,cl1,st⟩∧insRun N' K' ((l.drop p).take n++r') rs' me cl an s'=⟨2,t,me1,cl1,st'⟩) ∨
  ∃rs1 rs1' me1 cl1 an1,Ar (A (p+n)) rs1 rs1'∧(n=0∨s+n≤N)∧insRun N K ((l.drop p).take n++r) rs me cl an s=insRun N K r rs1 me1 cl1 an1 (s+n)∧insRun N' K' ((l.drop p).take n++r') rs' me cl an s'=insRun N' K' r' rs1' me1 cl1 an1 (s'+n)
 | 0,p,rs,rs',me,cl,an,s,s',hp,hA,hN => .inr (.inr ⟨rs,rs',me,cl,an,hA,.inl rfl,by simp,by simp⟩)
 | n+1,p,rs,rs',me,cl,an,s,s',hp,hA,hN=>by
  have hpl:p<l.length:=by omega
  have e:(l.drop p).take (n+1)=ix l p::(l.drop (p+1)).take n:=by rw[drop_ix hpl,List.take_succ_cons]
  rw[e,List.cons_append,List.cons_append,insRun,insRun]
  have ht:∀v∈takesM (ix l p),A p v:=fun v hv=>(hF.tk p hpl v hv).2
  by_cases h9:N≤s
  ·rw[if_pos h9];exact .inl rfl
  ·have h9':¬N'≤s':=by omega
   rw[if_neg h9,if_neg h9']
   by_cases h28:(ix l p).Op=28
   ·rw[if_pos h28,if_pos h28]
    have hm:makesM (ix l p)=[(ix l p).D]:=by unfold makesM;rw[if_neg (by omega),if_neg (by omega),if_neg (by omega)]
    have hk:takesM (ix l p)=(ix l p).Args:=by unfold takesM;rw[if_neg (by omega),if_neg (by omega),if_neg (by omega),if_pos h28]
    have ha:List.map (fun q=>ix rs (Int.toNat q)) (ix l p).Args=List.map (fun q=>ix rs' (Int.toNat q)) (ix l p).Args:=List.map_congr_left (fun a ha=>by
     rw[←hk] at ha
     have:=hF.tk p hpl a ha
     exact hA.2.2 a this.1.1 this.1.2 this.2)
    have hA1:Ar (A (p+1)) (callR rs (ix l p).D an) (callR rs' (ix l p).D an):=by
     refine⟨by unfold callR;rw[List.length_set];exact hA.1,by unfold callR;rw[List.length_set];exact hA.2.1,fun v h1 h2 h3=>?_⟩
     unfold callR
     by_cases hd:Int.toNat (ix l p).D<8192
     ·rw[ix_set (by rw[hA.1];exact hd),ix_set (by rw[hA.2.1];exact hd)]
      split
      ·rfl
      ·exact hA.2.2 v h1 h2 (hF.nx p hpl v h3 (by rw[hm];simp;rintro rfl;omega))
     ·rw[List.set_eq_of_length_le (by rw[hA.1];omega),List.set_eq_of_length_le (by rw[hA.2.1];omega)]
      exact hA.2.2 v h1 h2 (hF.nx p hpl v h3 (by rw[hm];simp;rintro rfl;omega))
    rw[ha]
    rcases seg_agree (N:=N) (N':=N') (K:=K) (K':=K') (r:=r) (r':=r') hF n (p+1) (callR rs (ix l p).D an) (callR rs' (ix l p).D an) me (cl++[⟨(ix l p).Imm,List.map (fun q=>ix rs' (Int.toNat q)) (ix l p).Args⟩]) (an.drop 1) (s+1) (s'+1) (by omega) hA1 (by omega) with g|g|⟨a1,a2,a3,a4,a5,g1,g2,g3,g4⟩
    ·exact .inl g
    ·exact .inr (.inl g)
    ·exact .inr (.inr ⟨a1,a2,a3,a4,a5,by rw[show p+(n+1)=p+1+n by omega];exact g1,.inr (by omega),by rw[g3];congr 1;omega,by rw[g4];congr 1;omega⟩)
   ·rw[if_neg h28,if_neg h28]
    obtain⟨s1,s2,s3⟩:=step_agree (me:=me) (B:=A (p+1)) hA ⟨hF.op p hpl,h28⟩ ht (hF.nx p hpl)
    rw[←s1,←s2]
    by_cases hf:(stepM (ix l p) rs me).1.2=false
    ·rw[if_pos hf,if_pos hf]
     exact .inr (.inl ⟨_,_,_,_,_,rfl,rfl⟩)
    ·rw[if_neg hf,if_neg hf]
     rcases seg_agree (N:=N) (N':=N') (K:=K) (K':=K') (r:=r) (r':=r') hF n (p+1) _ _ (stepM (ix l p) rs me).2.2 cl an (s+1) (s'+1) (by omega) (s3 (by simpa using hf)) (by omega) with g|g|⟨a1,a2,a3,a4,a5,g1,g2,g3,g4⟩
     ·exact .inl g
     ·exact .inr (.inl g)
     ·exact .inr (.inr ⟨a1,a2,a3,a4,a5,by rw[show p+(n+1)=p+1+n by omega];exact g1,.inr (by omega),by rw[g3];congr 1;omega,by rw[g4];congr 1;omega⟩)
theorem Ar.put{A B:Int→Prop}{rs rs':List Int}{d x:Int}(h:Ar A rs rs')(hd:0≤d∧d<8192)(hb:∀v,B v→v≠d→A v):Ar B (rs.set d.toNat x) (rs'.set d.toNat x):=by
 have h1:=h.1
 have h2:=h.2.1
 refine⟨by rw[List.length_set];exact h1,by rw[List.length_set];exact h2,fun v a b c=>?_⟩
 rw[ix_set (by omega),ix_set (by omega)]
 by_cases e:v=d
 ·subst e;rw[if_pos rfl,if_pos rfl]
 ·rw[if_neg (by omega),if_neg (by omega)];exact h.2.2 v a b (hb v c e)
theorem setP_agree:∀(l:List D.Phi) (vs:List Int) (A B:Int→Prop) (rs rs':List Int),l.length=vs.length→(∀p∈l,0≤p.Dst∧p.Dst<8192)→Ar A rs rs'→(∀v,B v→v∉l.map (fun p=>p.Dst)→A v)→Ar B (setP rs l vs) (setP rs' l vs)
 | [],vs,A,B,rs,rs',_,_,h,hb=>by rw[setP_end,setP_end];exact h.mono (fun v a=>hb v a (by simp))
 | p::l,[],_,_,_,_,hl,_,_,_=>by cases hl
 | p::l,x::vs,A,B,rs,rs',hl,hd,h,hb=>by
  rw[setP,setP]
  refine setP_agree l vs (fun v=>v=p.Dst∨A v) B _ _ (by simpa using hl) (fun q hq=>hd q (by simp[hq])) (h.put (hd p (by simp)) (fun v a b=>a.resolve_left b)) (fun v a b=>?_)
  by_cases e:v=p.Dst
  ·exact .inl e
  ·exact .inr (hb v a (by rw[List.map_cons,List.mem_cons];exact fun h9=>h9.elim e b))
structure LiveM(bs:List D.MBlock)(A:Nat→Nat→Int→Prop):Prop where
 fb:∀b,b<bs.length→FlowB (A b) (ix bs b).Ins
 en:∀b,b<bs.length→∀v∈nM9 (ix bs b).End,A b (ix bs b).Ins.length v
 to:∀b,b<bs.length→∀t∈(ix bs b).End.To,0≤t∧t<bs.length
 pd:∀b,b<bs.length→∀p∈(ix bs b).Phis,0≤p.Dst∧p.Dst<8192
 pv:∀b,b<bs.length→∀t∈(ix bs b).End.To,∀p∈(ix bs (Int.toNat t)).Phis,(0≤(ix p.In (Int.toNat (idxM p.In (isFrom b)))).Val∧(ix p.In (Int.toNat (idxM p.In (isFrom b)))).Val<8192)∧A b (ix bs b).Ins.length (ix p.In (Int.toNat (idxM p.In (isFrom b)))).Val
 pn:∀b,b<bs.length→∀t∈(ix bs b).End.To,∀v,A (Int.toNat t) 0 v→v∉(ix bs (Int.toNat t)).Phis.map (fun p=>p.Dst)→A b (ix bs b).Ins.length v
 go:∀b,b<bs.length→∀rs,(ix bs b).End.Op≠7→(ix bs b).End.Op≠8→0≤goesM (ix bs b).End rs∧goesM (ix bs b).End rs<(ix bs b).End.To.length
theorem goes_agree{A:Int→Prop}{rs rs':List Int}{e:D.End}(h:Ar A rs rs')(hn:∀v∈nM9 e,A v):(e.Op=7→getM rs e.A=getM rs' e.A)∧goesM e rs=goesM e rs':=by
 have h1:e.Op=2∨e.Op=6∨(e.Op=7∧0≤e.A)→getM rs e.A=getM rs' e.A:=fun c=>h.get (hn _ (by unfold nM9;rw[if_pos c];simp))
 have h2:e.Op=3∨e.Op=4∨e.Op=5→getM rs e.A=getM rs' e.A∧getM rs e.B=getM rs' e.B:=fun c=>by
  have:nM9 e=[e.A,e.B]:=by unfold nM9;rw[if_neg (by omega),if_pos c]
  exact⟨h.get (hn _ (by rw[this];simp)),h.get (hn _ (by rw[this];simp))⟩
 refine⟨fun c=>?_,?_⟩
 ·by_cases ha:0≤e.A
  ·exact h1 (.inr (.inr ⟨c,ha⟩))
  ·unfold getM;rw[if_pos (.inl (by omega)),if_pos (.inl (by omega))]
 ·unfold goesM
  by_cases c1:e.Op=1
  ·rw[if_pos c1,if_pos c1]
  rw[if_neg c1,if_neg c1]
  by_cases c2:e.Op=2
  ·rw[if_pos c2,if_pos c2,h1 (.inl c2)]
  rw[if_neg c2,if_neg c2]
  by_cases c3:e.Op=3
  ·rw[if_pos c3,if_pos c3,(h2 (.inl c3)).1,(h2 (.inl c3)).2]
  rw[if_neg c3,if_neg c3]
  by_cases c4:e.Op=4
  ·rw[if_pos c4,if_pos c4,(h2 (.inr (.inl c4))).1,(h2 (.inr (.inl c4))).2]
  rw[if_neg c4,if_neg c4]
  by_cases c5:e.Op=5
  ·rw[if_pos c5,if_pos c5,(h2 (.inr (.inr c5))).1,(h2 (.inr (.inr c5))).2]
  rw[if_neg c5,if_neg c5]
  by_cases c6:e.Op=6
  ·rw[if_pos c6,if_pos c6,h1 (.inr (.inl c6))]
  rw[if_neg c6,if_neg c6]
theorem phis_agree{bs:List D.MBlock}{A:Nat→Nat→Int→Prop}(hL:LiveM bs A){b:Nat}(hb:b<bs.length){t:Int}(ht:t∈(ix bs b).End.To){rs rs':List Int}(h:Ar (A b (ix bs b).Ins.length) rs rs'):Ar (A (Int.toNat t) 0) (phisM (ix bs (Int.toNat t)).Phis b rs) (phisM (ix bs (Int.toNat t)).Phis b rs'):=by
 have h1:=hL.to b hb t ht
 unfold phisM
 have e:(ix bs (Int.toNat t)).Phis.map (phiVal b rs)=(ix bs (Int.toNat t)).Phis.map (phiVal b rs'):=List.map_congr_left (fun p hp=>by
  have h2:=hL.pv b hb t ht p hp
  exact h.2.2 _ h2.1.1 h2.1.2 h2.2)
 rw[e]
 exact setP_agree _ _ _ _ _ _ (by simp) (hL.pd _ (by omega)) h (hL.pn b hb t ht)
def insW9(b0 p0:Nat)(r w:Int)(b:Nat)(l:List D.Mach):List D.Mach:=if b=b0 then l.take p0++(⟨4,r,0,0,0,0,w,[]⟩::l.drop p0) else l
theorem dead_run{bs xb:List D.MBlock}{A:Nat→Nat→Int→Prop}{b0 p0:Nat}{r w N N':Int}(hL:LiveM bs A)(hd:¬A b0 p0 r)(hp0:b0<bs.length→p0≤(ix bs b0).Ins.length)
  (hx:∀b,b<bs.length→(ix xb b).Phis=(ix bs b).Phis∧(ix xb b).End=(ix bs b).End∧(ix xb b).Ins=insW9 b0 p0 r w b (ix bs b).Ins) (hN:2*N+2≤N') :
  ∀(k:Nat) (a fr:Int) (rs rs' me:List Int) (cl:List D.Event) (an:List Int) (s:Int) (k':Nat) (s':Int),(0≤a∧a<bs.length)→Ar (A (Int.toNat a) 0) (phisM (ix bs (Int.toNat a)).Phis fr rs) (phisM (ix bs (Int.toNat a)).Phis fr rs')→0≤s→s≤N→(s≤s'∧s'≤2*s)→N'-s'<k' →
  (blockRun bs N k a fr rs me cl an s).End=3∨∃st',blockRun xb N' k' a fr rs' me cl an s'={ (blockRun bs N k a fr rs me cl an s) with Steps:=st' }
 | 0,a,fr,rs,rs',me,cl,an,s,k',s',ha,hA,h0,h1,h2,h3 => .inl rfl
 | k+1,a,fr,rs,rs',me,cl,an,s,k',s',ha,hA,h0,h1,h2,h3=>by
  have hb:Int.toNat a<bs.length:=by omega
  have hk':0<k':=by omega
  obtain⟨x1,x2,x3⟩:=hx _ hb
  have hF:=hL.fb _ hb
  rw[blockRun,blockRun_pos hk',x1,x2,x3]
  generalize hK:endRun N (ix bs (Int.toNat a)).End (fun t=>blockRun bs N k t a)=K
  generalize hK':endRun N' (ix bs (Int.toNat a)).End (fun t=>blockRun xb N' (k'-1) t a)=K'
  have goal:∀(rs1 rs1' me1:List Int) (cl1:List D.Event) (an1:List Int) (s1 s1':Int),Ar (A (Int.toNat a) (ix bs (Int.toNat a)).Ins.length) rs1 rs1'→0≤s1→s1≤s1'→s'≤s1'→s1'+1≤2*(s1+1)→(K rs1 me1 cl1 an1 s1).End=3∨∃st',K' rs1' me1 cl1 an1 s1'={ (K rs1 me1 cl1 an1 s1) with Steps:=st' }:=by
   intro rs1 rs1' me1 cl1 an1 s1 s1' g1 g0 g2 g6 g3
   rw[←hK,←hK']
   unfold endRun
   by_cases h9:N≤s1
   ·rw[if_pos h9];exact .inl rfl
   have h9':¬N'≤s1':=by omega
   rw[if_neg h9,if_neg h9']
   obtain⟨g4,g5⟩:=goes_agree g1 (hL.en _ hb)
   by_cases e7:(ix bs (Int.toNat a)).End.Op=7
   ·rw[if_pos e7,if_pos e7,g4 e7];exact .inr ⟨_,rfl⟩
   rw[if_neg e7,if_neg e7]
   by_cases e8:(ix bs (Int.toNat a)).End.Op=8
   ·rw[if_pos e8,if_pos e8];exact .inr ⟨_,rfl⟩
   rw[if_neg e8,if_neg e8,←g5]
   have hg:=hL.go _ hb rs1 e7 e8
   have ht:ix (ix bs (Int.toNat a)).End.To (Int.toNat (goesM (ix bs (Int.toNat a)).End rs1))∈(ix bs (Int.toNat a)).End.To:=ix_mem (by omega)
   have hph:=phis_agree hL hb ht g1
   rw[Int.toNat_of_nonneg ha.1] at hph
   exact dead_run hL hd hp0 hx hN k _ a rs1 rs1' me1 cl1 an1 (s1+1) (k'-1) (s1'+1) (hL.to _ hb _ ht) hph (by omega) (by omega) (by omega) (by omega)
  by_cases hbb:Int.toNat a=b0
  ·have hp:=hp0 (by omega)
   rw[←hbb] at hp
   have e1:(ix bs (Int.toNat a)).Ins=(((ix bs (Int.toNat a)).Ins.drop 0).take p0)++(ix bs (Int.toNat a)).Ins.drop p0:=by simp
   have e2:insW9 b0 p0 r w (Int.toNat a) (ix bs (Int.toNat a)).Ins=(((ix bs (Int.toNat a)).Ins.drop 0).take p0)++(⟨4,r,0,0,0,0,w,[]⟩::(ix bs (Int.toNat a)).Ins.drop p0):=by unfold insW9;rw[if_pos hbb];simp
   have e3:(ix bs (Int.toNat a)).Ins.drop p0=(((ix bs (Int.toNat a)).Ins.drop p0).take ((ix bs (Int.toNat a)).Ins.length-p0))++[]:=by rw[List.append_nil,List.take_of_length_le (by rw[List.length_drop];omega)]
   rw[e2]
   rcases seg_agree (N:=N) (N':=N') (K:=K) (K':=K') (r:=(ix bs (Int.toNat a)).Ins.drop p0) (r':=⟨4,r,0,0,0,0,w,[]⟩::(ix bs (Int.toNat a)).Ins.drop p0) hF p0 0 _ _ me cl an s s' (by omega) hA (by omega) with g|⟨t,m1,c1,t1,t2,g1,g2⟩|⟨rs1,rs1',m1,c1,a1,g1,g2,g3,g4⟩
   ·rw[←e1] at g;exact .inl g
   ·rw[←e1] at g1;rw[g1,g2];exact .inr ⟨t2,rfl⟩
   ·rw[←e1] at g3
    rw[g3,g4]
    by_cases h9:N≤s+p0
    ·left
     cases hd9:(ix bs (Int.toNat a)).Ins.drop p0 with
     | nil=>rw[insRun,←hK];unfold endRun;rw[if_pos h9]
     | cons y ys=>rw[insRun,if_pos h9]
    have h9':¬N'≤s'+p0:=by omega
    rw[insRun,if_neg h9',if_neg (show ¬(4:Int)=28 by decide),show stepM (⟨4,r,0,0,0,0,w,[]⟩:D.Mach) rs1' m1=((0,true),setM rs1' r w,m1) by simp[stepM],if_neg (show ¬true=false by decide)]
    rw[Nat.zero_add] at g1
    have g5:Ar (A (Int.toNat a) p0) rs1 (setM rs1' r w):=g1.dead (by rw[hbb];exact hd)
    rw[e3]
    rcases seg_agree (N:=N) (N':=N') (K:=K) (K':=K') (r:=[]) (r':=[]) hF ((ix bs (Int.toNat a)).Ins.length-p0) p0 _ _ m1 c1 a1 (s+p0) (s'+p0+1) (by omega) g5 (by omega) with q|⟨t,m2,c2,t1,t2,q1,q2⟩|⟨rs2,rs2',m2,c2,a2,q1,q2,q3,q4⟩
    ·exact .inl q
    ·rw[q1,q2];exact .inr ⟨t2,rfl⟩
    ·rw[q3,q4,insRun,insRun]
     rw[show p0+((ix bs (Int.toNat a)).Ins.length-p0)=(ix bs (Int.toNat a)).Ins.length by omega] at q1
     exact goal _ _ _ _ _ _ _ q1 (by omega) (by omega) (by omega) (by omega)
  ·have e2:insW9 b0 p0 r w (Int.toNat a) (ix bs (Int.toNat a)).Ins=(ix bs (Int.toNat a)).Ins:=by unfold insW9;rw[if_neg hbb]
   have e1:(ix bs (Int.toNat a)).Ins=(((ix bs (Int.toNat a)).Ins.drop 0).take (ix bs (Int.toNat a)).Ins.length)++[]:=by simp
   rw[e2]
   rcases seg_agree (N:=N) (N':=N') (K:=K) (K':=K') (r:=[]) (r':=[]) hF (ix bs (Int.toNat a)).Ins.length 0 _ _ me cl an s s' (by omega) hA (by omega) with q|⟨t,m2,c2,t1,t2,q1,q2⟩|⟨rs2,rs2',m2,c2,a2,q1,q2,q3,q4⟩
   ·rw[←e1] at q;exact .inl q
   ·rw[←e1] at q1 q2;rw[q1,q2];exact .inr ⟨t2,rfl⟩
   ·rw[←e1] at q3 q4
    rw[q3,q4,insRun,insRun]
    rw[Nat.zero_add] at q1
    exact goal _ _ _ _ _ _ _ q1 (by omega) (by omega) (by omega) (by omega)
end Go.Proofs.YtehhjlkmbdhckaaGreat
namespace Go.JE
open Go
abbrev Ris(l:List Int):Prop:=l.Pairwise (·<·)
def zIn(x:Int):List Int→List Int
 | []=>[x]
 | y::l=>if x<y then x::y::l else if x=y then y::l else y::zIn x l
def zOut(x:Int)(l:List Int):List Int:=l.filter (fun y=>!decide (y=x))
theorem zIn_mem{x y:Int}:∀{l:List Int},y∈zIn x l↔y=x∨y∈l
 | []=>by simp[zIn]
 | z::l=>by
  rw[zIn];split
  ·simp
  ·split
   ·rename_i h;subst h;simp
   ·rw[List.mem_cons,zIn_mem,List.mem_cons]
    constructor
    ·rintro(h|h|h)<;>simp[h]
    ·rintro(h|h|h)<;>simp[h]
theorem zIn_ris{x:Int}:∀{l:List Int},Ris l→Ris (zIn x l)
 | [],_=>by simp[zIn,Ris]
 | z::l,h=>by
  rw[Ris,List.pairwise_cons] at h
  rw[zIn];split
  ·rename_i h1
   refine List.pairwise_cons.2 ⟨fun y hy=>?_,List.pairwise_cons.2 h⟩
   rcases List.mem_cons.1 hy with rfl|hy
   ·exact h1
   ·have:=h.1 y hy;omega
  ·split
   ·exact List.pairwise_cons.2 h
   ·refine List.pairwise_cons.2 ⟨fun y hy=>?_,zIn_ris h.2⟩
    rcases zIn_mem.1 hy with rfl|hy
    ·omega
    ·exact h.1 y hy
theorem zOut_mem{x y:Int}{l:List Int}:y∈zOut x l↔y∈l∧y≠x:=by simp[zOut]
theorem zOut_ris{x:Int}{l:List Int}(h:Ris l):Ris (zOut x l):=List.Pairwise.filter _ h
theorem ris_ext:∀{a b:List Int},Ris a→Ris b→(∀x,x∈a↔x∈b)→a=b
 | [],[],_,_,_=>rfl
 | [],y::b,_,_,h=>absurd ((h y).2 (by simp)) (by simp)
 | x::a,[],_,_,h=>absurd ((h x).1 (by simp)) (by simp)
 | x::a,y::b,ha,hb,h=>by
  rw[Ris,List.pairwise_cons] at ha hb
  have e:x=y:=by
   rcases List.mem_cons.1 ((h x).1 (by simp)) with e|e
   ·exact e
   ·rcases List.mem_cons.1 ((h y).2 (by simp)) with e2|e2
    ·exact e2.symm
    ·have:=hb.1 x e;have:=ha.1 y e2;omega
  subst e
  rw[ris_ext ha.2 hb.2 fun z=>?_]
  constructor
  ·intro hz
   rcases List.mem_cons.1 ((h z).1 (by simp[hz])) with e|e
   ·subst e;have:=ha.1 z hz;omega
   ·exact e
  ·intro hz
   rcases List.mem_cons.1 ((h z).2 (by simp[hz])) with e|e
   ·subst e;have:=hb.1 z hz;omega
   ·exact e
theorem Ris.nodup{l:List Int}(h:Ris l):l.Nodup:=List.Pairwise.imp (fun h=>by omega) h
structure Sx(L:List (Int×Value))(S:List Int):Prop where
 ris:Ris S
 mem:∀x,x∈L.map (·.1)↔x∈S
 tru:∀p∈L,p.2 = .bool true
theorem Sx.nil:Sx [] []:=⟨by simp[Ris],by simp,by simp⟩
theorem upM_tru{k:Int}:∀{L:List (Int×Value)},(∀p∈L,p.2 = .bool true)→∀p∈upM L k (.bool true),p.2 = .bool true
 | [],_,p,h=>by simp[upM] at h;subst h;rfl
 | q::r,hq,p,h=>by
  rw[upM] at h;split at h
  ·rcases List.mem_cons.1 h with rfl|h
   ·rfl
   ·exact hq p (by simp[h])
  ·rcases List.mem_cons.1 h with rfl|h
   ·exact hq _ (by simp)
   ·exact upM_tru (fun p hp=>hq p (by simp[hp])) p h
section
variable{L L':List (Int×Value)}{S:List Int}{k:Int}
theorem Sx.up(h:Sx L S):Sx (upM L k (.bool true)) (zIn k S) where
 ris:=zIn_ris h.ris
 mem:=fun x=>by
  rw[upM_keys,zIn_mem,←h.mem x]
  split
  ·rename_i h1
   exact⟨.inr,fun h2=>h2.elim (fun e=>e▸h1) id⟩
  ·simp[or_comm]
 tru:=upM_tru h.tru
theorem Sx.lk(h:Sx L S):(lkM L k).getD (.bool false) = .bool (decide (k∈S)):=by
 cases hl:lkM L k with
 | none =>
  have:=lkM_none.1 hl
  rw[h.mem] at this
  simp[this]
 | some v =>
  unfold lkM at hl
  rw[Option.map_eq_some_iff] at hl
  obtain⟨p,h1,rfl⟩:=hl
  have hm:=List.mem_of_find?_eq_some h1
  have he:=List.find?_some h1
  have:k∈S:=(h.mem k).1 (List.mem_map.2 ⟨p,hm,by simpa using he⟩)
  rw[h.tru p hm];simp[this]
theorem Sx.del(h:Sx L S)(hn:(L.map (·.1)).Nodup)(hn':(L'.map (·.1)).Nodup)(hL:∀m,lkM L' m=if m=k then none else lkM L m):Sx L' (zOut k S) where
 ris:=zOut_ris h.ris
 mem:=fun x=>by
  rw[zOut_mem,←h.mem x]
  have h1:∀(M:List (Int×Value)),x∈M.map (·.1)↔lkM M x≠none:=fun M=>by rw[Ne,lkM_none];simp
  rw[h1,h1,hL]
  by_cases e:x=k
  ·simp[e]
  ·simp[e]
 tru:=fun p hp=>by
  have h1:lkM L' p.1=some p.2:=(lkM_mem hn').1 hp
  rw[hL] at h1
  split at h1
  ·cases h1
  ·exact h.tru p ((lkM_mem hn).2 h1)
theorem Sx.len(h:Sx L S)(hn:(L.map (·.1)).Nodup):L.length=S.length:=by
 have h1:(L.map (·.1)).Perm S:=(List.perm_ext_iff_of_nodup hn h.ris.nodup).2 h.mem
 have:=h1.length_eq
 simpa using this
end
def rSet:Rp (Option (List Int)) where
 sz:=1
 agg:=false
 ok F a f:=match a with
  | none=>f 0 = .map none
  | some S=>∃g es c L,f 0 = .map (some g)∧F g=some (.map es c)∧ImAt es c L∧Sx L S
 up {F G a f} hl h:=by
  cases a with
  | none=>exact h
  | some S=>obtain⟨g,es,c,L,h1,h2,h3⟩:=h;exact⟨g,es,c,L,h1,hl _ _ h2,h3⟩
 ext {F a f g} he h:=by
  cases a with
  | none=>show g 0=_;rw[←he 0 (by omega)];exact h
  | some S=>obtain⟨q,es,c,L,h1,h2⟩:=h;exact⟨q,es,c,L,by rw[←he 0 (by omega)];exact h1,h2⟩
 one {F a f} h i hi:=by
  rw[show i=0 by omega]
  cases a with
  | none=>have h':f 0 = .map none:=h;rw[h'];rfl
  | some S=>obtain⟨q,es,c,L,h1,h2⟩:=h;rw[h1];rfl
def sm(B g:Nat)(S:List Int):Res where
 sat F H:=((∃L,Im H g L∧Sx L S)∧F g=none)∧B≤g
 own k:=k=g
 lt:=fun h e=>by subst e;obtain⟨⟨⟨L,h1,_⟩,_⟩,_⟩:=h;exact h1.lt
 no:=fun h e=>e▸h.1.2
 st:=fun _ _ h1 h2 h=>by obtain⟨⟨⟨L,a,b⟩,_⟩,d⟩:=h;exact⟨⟨⟨L,a.of (h2 g rfl),b⟩,h1 g rfl⟩,d⟩
variable{P:Program}{D D0:List Dt}{L M N:List Res}{e:Env}{X:Cx}{n:Fs}{w0:World}{Q:Exit→Act→World→Prop}
section
variable{ops:Array Oper}{op:Op}{d:Nat}{ty:TypeId}{pos:String}{af:Array Edge}{rest:List Oper}{T T' K E:TypeId}{x y z:Operand}{g B:Nat}{S:List Int}{k:Int}{v u:Value}
theorem jsm(kk:∀g,LH P n w0 ops Q X D (sm X.n g []::L) ((d,.map (some g))::e) rest)(hd:Nat.blt d n.sz=true:=by rfl):LH P n w0 ops Q X D L e (⟨some d,.makeMap T none,ty,pos,af,none⟩::rest):=fun F H hp =>
 LF.chg OpCh.makeMapB (by
  rintro _ H' ⟨g,rfl,eg,sg,kg,hb⟩
  exact kk g F H' (hp.new (R:=sm X.n g []) kg ⟨⟨⟨[],hb,Sx.nil⟩,hp.hin.nope (Nat.le_of_eq eg.symm)⟩,by rw[eg];exact hp.hw.1⟩ (fun k hk=>by have:k=g:=hk;omega))) hd
theorem Tw.kws{H H':Heap}(h:Tw g H H'):Kw (sm B g S).own H H':=⟨Nat.le_of_eq h.1.symm,fun k _ h2=>h.2 k h2⟩
theorem jsu(hT:P.underlying T=some (.map K E))(hK:P.underlying K=some (.int .i64))(hm:Tk L (sm B g S) M)(hx:ev e x=some (.map (some g)))(hi:ev e z=some (.int .i64 k))(hy:ev e y=some (.bool true))
  (kk:LH P n w0 ops Q X D (sm B g (zIn k S)::M) e rest):LH P n w0 ops Q X D L e (⟨none,.mapUpdate T x z y,ty,pos,af,none⟩::rest):=fun F H hp=>by
 obtain⟨⟨⟨L1,h1,h2⟩,h3⟩,h4⟩:=hp.at hm
 exact LF.chg0 (OpCh.mapUpdate hT hK h1 hx hi hy) (by rintro _ H' ⟨m,t⟩;exact kk F H' (hp.set (R':=sm B g (zIn k S)) hm t.kws ⟨⟨⟨_,m,h2.up⟩,h3⟩,h4⟩ (fun k h => .inr h)))
theorem jsd{t2:TypeId}(hT:P.underlying T=some (.map K E))(hK:P.underlying K=some (.int .i64))(hm:Tk L (sm B g S) M)(hx:ev e x=some (.map (some g)))(hi:ev e z=some (.int .i64 k))
  (kk:LH P n w0 ops Q X D (sm B g (zOut k S)::M) e rest):LH P n w0 ops Q X D L e (⟨none,.call { callee := .builtin .delete,args:=#[x,z],argTypes:=#[T,t2] },ty,pos,af,none⟩::rest):=fun F H hp=>by
 obtain⟨⟨⟨L1,h1,h2⟩,h3⟩,h4⟩:=hp.at hm
 exact LF.chg0 (OpCh.delete hT hK h1 hx hi) (by rintro _ H' ⟨L',m,hl,t⟩;exact kk F H' (hp.set (R':=sm B g (zOut k S)) hm t.kws ⟨⟨⟨_,m,h2.del h1.nodup m.nodup hl⟩,h3⟩,h4⟩ (fun k h => .inr h)))
theorem rSet.im{F:PH}{H:Heap}{S:List Int}{v:Value}(h:rSet.rv F v (some S))(hin:InH F H):∃g L,v = .map (some g)∧Im H g L∧Sx L S:=by
 obtain⟨g,es,c,L,h1,h2,h3,h4⟩:=h
 exact⟨g,L,h1,⟨es,c,hin _ _ h2,h3⟩,h4⟩
theorem jsfl(hT:P.underlying T=some (.map K E))(hv:Nd D L (dv rSet v (some S)))(hx:ev e x=some v):OH P D L e (.call { callee := .builtin .len,args:=#[x],argTypes:=#[T] }) (.int .i64 (S.length:Nat)):=fun F H h1 h2 h3=>by
 obtain⟨g,L1,rfl,h4,h5⟩:=rSet.im (hv F H h1 h2 h3) h1
 rw[←h5.len h4.nodup];exact OpOk.len_map hT h4 hx
theorem jsfk(hT:P.underlying T=some (.map K E))(hK:P.underlying K=some (.int .i64))(hz:(P.info? E).bind (·.zero)=some (.bool false))(hv:Nd D L (dv rSet v (some S)))(hx:ev e x=some v)(hi:ev e z=some (.int .i64 k)):OH P D L e (.lookup T x z false) (.bool (decide (k∈S))):=fun F H h1 h2 h3=>by
 obtain⟨g,L1,rfl,h4,h5⟩:=rSet.im (hv F H h1 h2 h3) h1
 rw[←h5.lk];exact OpOk.lookup hT hK hz h4 hx hi
theorem Hp.fset{F:PH}{H:Heap}(hp:Hp X D L F H)(hk:Tk L (sm X.n g S) M):∃G,Hp X (dv rSet (.map (some g)) (some S)::D) M G H:=by
 obtain⟨o1,o2,o3⟩:=hk.ok hp.ok
 obtain⟨⟨⟨L1,⟨es,c,h1,h2⟩,h3⟩,h4⟩,h5⟩:=o1
 have hl:F.le (F.add g (.map es c)):=PH.le_add h4
 have hne:∀k,k≠g→F.add g (.map es c) k=F k:=fun k hk1=>by unfold PH.add;rw[if_neg hk1]
 refine⟨F.add g (.map es c),⟨hp.hx.1.trans hl,fun k hk1=>(hne k (by have:X.n=X.H.size:=rfl;omega)).trans (hp.hx.2 k hk1)⟩,hp.hin.add h1,hp.hw,⟨⟨g,es,c,L1,rfl,by unfold PH.add;rw[if_pos rfl],h2,h3⟩,hp.hd.up hl⟩,o3.st hl (Nat.le_refl _) (fun k hk1=>(hne k (fun e1=>o2 k e1 hk1)).trans (o3.no hk1)) (fun _ _=>rfl),fun k hk1=>hp.ge k (hk.own (.inr hk1))⟩
theorem jfs(hk:Tk L (sm X.n g S) M)(k:LH P n w0 ops Q X (dv rSet (.map (some g)) (some S)::D) M e rest):LH P n w0 ops Q X D L e rest:=fun F H hp=>by
 obtain⟨G,h⟩:=hp.fset hk;exact k G H h
def sit(r:Nat)(v:Value)(S vis:List Int):Res where
 sat F H:=(∃g es c L,v = .map (some g)∧F g=some (.map es c)∧ImAt es c L∧Sx L S∧r≠g∧r<H.size∧∀K:Heap,K[g]? = some (.map es c)→K[r]? = H[r]? → It K r g L vis)∧F r=none
 own k:=k=r
 lt:=fun h e=>by obtain⟨⟨g,es,c,L,_,_,_,_,_,h1,_⟩,_⟩:=h;rw[e];exact h1
 no:=fun h e=>e▸h.2
 st:=fun hl hs h1 h2 h=>by
  obtain⟨⟨g,es,c,L,a1,a2,a3,a4,a5,a6,a7⟩,a8⟩:=h
  exact⟨⟨g,es,c,L,a1,hl _ _ a2,a3,a4,a5,Nat.lt_of_lt_of_le a6 hs,fun K hg hr=>a7 K hg (hr.trans (h2 r rfl))⟩,h1 r rfl⟩
theorem sit.it{F:PH}{H:Heap}{r:Nat}{vis:List Int}(h:(sit r v S vis).sat F H)(hin:InH F H):∃g L,v = .map (some g)∧It H r g L vis∧Sx L S∧r≠g:=by
 obtain⟨⟨g,es,c,L,a1,a2,a3,a4,a5,a6,a7⟩,a8⟩:=h
 exact⟨g,L,a1,a7 H (hin _ _ a2) rfl,a4,a5⟩
theorem jrs(hT:P.underlying T=some (.map K E))(hv:Nd D L (dv rSet v (some S)))(hx:ev e x=some v)(kk:∀r,LH P n w0 ops Q X D (sit r v S []::L) ((d,.pointer (some ⟨r,0,none⟩))::e) rest)(hd:Nat.blt d n.sz=true:=by rfl):LH P n w0 ops Q X D L e (⟨some d,.range T x,ty,pos,af,none⟩::rest):=fun F H hp=>by
 obtain⟨g,es,c,L1,rfl,h2,h3,h4⟩:=hv F H hp.hin hp.hd hp.ok
 have him:Im H g L1:=⟨es,c,hp.hin _ _ h2,h3⟩
 refine LF.chg (OpCh.range hT him hx) ?_ hd
 rintro _ H' ⟨rfl,h5,h6,h7⟩
 have hgl:g<H.size:=him.lt
 obtain⟨es',c',seen,q1,q2,q3,q4⟩:=h5
 have e1:es'=es∧c'=c:=by
  rw[h7 g hgl,hp.hin _ _ h2] at q1;injection q1 with q1;injection q1 with q1 q5;exact⟨q1.symm,q5.symm⟩
 obtain⟨rfl,rfl⟩:=e1
 refine kk H.size F H' (hp.new (R:=sit H.size (.map (some g)) S []) ⟨by omega,h7⟩ ⟨⟨g,es',c',L1,rfl,h2,h3,h4,by omega,by omega,fun K hg hr=>?_⟩,hp.hin.nope (Nat.le_refl _)⟩ (fun k hk=>by have:k=H.size:=hk;omega))
 exact⟨es',c',seen,hg,h3,hr.trans q3,q4⟩
theorem jns{r:Nat}{vis:List Int}(hk:Tk L (sit r v S vis) M)(hx:ev e x=some (.pointer (some ⟨r,0,none⟩)))
  (k1:(∀y∈S,y∈vis)→LH P n w0 ops Q X D (sit r v S vis::M) ((d,.tuple #[.bool false])::e) rest)
  (k2:∀y,y∈S→y∉vis→LH P n w0 ops Q X D (sit r v S (vis++[y])::M) ((d,.tuple #[.bool true,.int .i64 y,.bool true])::e) rest) (hd:Nat.blt d n.sz=true:=by rfl) :
  LH P n w0 ops Q X D L e (⟨some d,.next x false,ty,pos,af,none⟩::rest):=fun F H hp=>by
 have hs:=hp.at hk
 obtain⟨g,L1,rfl,h1,h2,h3⟩:=sit.it hs hp.hin
 refine LF.chg (OpCh.next h3 h1 hx) ?_ hd
 rintro _ H' (⟨rfl,h4,rfl⟩|⟨y,w,rfl,h4,h5,h6,h7⟩)
 ·have h8:=hp.set (R':=sit r (.map (some g)) S vis) hk (Kw.refl _ _) hs (fun k h => .inr h)
  exact k1 (fun y hy=>h4 y ((h2.mem y).2 hy)) F H' h8
 ·have hw:w = .bool true:=h2.tru _ h4
  subst hw
  have hy:y∈S:=(h2.mem y).1 (List.mem_map.2 ⟨_,h4,rfl⟩)
  refine k2 y hy h5 F H' (hp.set (R':=sit r (.map (some g)) S (vis++[y])) hk ⟨Nat.le_of_eq h7.1.symm,fun k _ h2=>h7.2 k h2⟩ ?_ (fun k h => .inr h))
  obtain⟨⟨g',es,c,L2,a1,a2,a3,a4,a5,a6,a7⟩,a8⟩:=hs
  injection a1 with a1;injection a1 with a1;subst a1
  obtain⟨es',c',seen,q1,q2,q3,q4,q5,q6,q7⟩:=h6
  have hgH:H'[g]? = some (.map es c):=(h7.2 g (Ne.symm h3)).trans (hp.hin _ _ a2)
  have e1:es'=es∧c'=c:=by rw[hgH] at q1;injection q1 with q1;injection q1 with q1 q5;exact⟨q1.symm,q5.symm⟩
  obtain⟨rfl,rfl⟩:=e1
  exact⟨⟨g,es',c',L1,rfl,a2,q2,h2,h3,by rw[h7.1];exact a6,fun K hg hr=>⟨es',c',seen,hg,q2,hr.trans q3,q4,q5,q6,q7⟩⟩,a8⟩
theorem jes{r:Nat}{vis:List Int}{i:Int}(hk:Tk L (sit r v S (vis++[i])) M)(hi:i∈S)(hx:ev e x=some (.pointer (some ⟨r,0,none⟩))):OH P D L e (.entry x) (.tuple #[.int .i64 i,.bool true]):=fun F H h1 h2 h3=>by
 obtain⟨g,L1,rfl,h4,h5,h6⟩:=sit.it (hk.ok h3).1 h1
 obtain⟨p,hp,e1⟩:=List.mem_map.1 ((h5.mem i).2 hi)
 have e2:=h5.tru p hp
 have e3:p=(i,.bool true):=by cases p;simp at e1 e2;rw[e1,e2]
 exact OpOk.entry h4 (e3▸hp) hx
theorem rSet.ris1{F:PH}(h:rSet.rv F v (some S)):Ris S:=by obtain⟨_,_,_,_,_,_,_,h4⟩:=h;exact h4.ris
theorem csR{c:Code}(h:Nd D L (dv rSet v (some S)))(k:Ris S→CH P n w0 Q X D L e c):CH P n w0 Q X D L e c:=fun F H hp=>k (rSet.ris1 (h F H hp.hin hp.hd hp.ok)) F H hp
theorem kcs{S':List Int}{Ls N:List Res}(e1:S'=S)(h:Tk L (sm B g S) M)(h':Tks M Ls N):Tks L (sm B g S'::Ls) N:=e1▸kc h h'
theorem wSn:Nd D L (dv rSet (.map none) none):=fun _ _ _ _ _=>rfl
theorem klS{Ls N:List Res}{S':List Int}(e1:S'=S)(hB:B≤X.n)(h:Tk L (sm X.n g S) M)(h':Tks M Ls N):Tks L (sm B g S'::Ls) N where
 ok:=fun o=>by
  obtain⟨⟨a,b,c⟩,x,y⟩:=(kcs e1 h h').ok o
  exact⟨⟨⟨a.1,Nat.le_trans hB a.2⟩,b,c⟩,x,y⟩
 own:=fun o=>(kcs e1 h h').own o
end
section
variable{α:Type}{r:Rp α}{T To:TypeId}{B i:Nat}{vs:List Value}{ls:List (List α)}{l':List α}{ops:Array Oper}{rest:List Oper}{c:Code}{z:Exit}
theorem cro(i:Nat)(hk:Tk L (rw' B r T vs ls) M)(h1:i<vs.length)(h2:i<ls.length)(k:CH P n w0 Q X D (gl B r T (vs.getD i undef) (ls.getD i [])::hole i B r T vs ls::M) e c):CH P n w0 Q X D L e c:=fun F H hp=>k F H (hp.row hk h1 h2)
theorem Hp.ruv{F:PH}{H:Heap}(hp:Hp X D L F H)(hk:Tk L (gl B r T (vs.getD i undef) l') M)(hk2:Tk M (hole i B r T vs ls) N)(h1:i<vs.length)(h2:i<ls.length):Hp X D (rw' B r T vs (ls.set i l')::N) F H:=by
 have h3:=hp.front hk
 have h4:Hp X D (gl B r T (vs.getD i undef) l'::hole i B r T vs ls::N) F H:=⟨h3.hx,h3.hin,h3.hw,h3.hd,by
  obtain⟨a,b,c⟩:=h3.ok
  obtain⟨x,y,z⟩:=hk2.ok c
  exact⟨a,fun k hk ho=>b k hk (hk2.own ho),x,y,z⟩,fun k hk=>hk.elim (fun h=>h3.ge k (.inl h)) (fun h=>h3.ge k (.inr (hk2.own h)))⟩
 have h5:=h4.unrow h1 h2
 rwa[set_same] at h5
theorem jruv(hk:Tk L (gl B r T (vs.getD i undef) l') M)(hk2:Tk M (hole i B r T vs ls) N)(h1:i<vs.length)(h2:i<ls.length)(k:LH P n w0 ops Q X D (rw' B r T vs (ls.set i l')::N) e rest):LH P n w0 ops Q X D L e rest:=fun F H hp=>k F H (hp.ruv hk hk2 h1 h2)
theorem qruv(hk:Tk L (gl B r T (vs.getD i undef) l') M)(hk2:Tk M (hole i B r T vs ls) N)(h1:i<vs.length)(h2:i<ls.length)(k:QH n w0 Q X D (rw' B r T vs (ls.set i l')::N) e z):QH n w0 Q X D L e z:=fun F H hp=>k F H (hp.ruv hk hk2 h1 h2)
theorem Hp.rmore{F:PH}{H:Heap}{u:Value}{l:List α}(hp:Hp X D L F H)(hk:Tk L (rw' B r T vs ls) M)(hk2:Tk M (gl B r T u l) N)(hl:vs.length=ls.length):Hp X D (rw' B r T (vs++[u]) (ls++[l])::N) F H:=by
 obtain⟨a,b,c⟩:=hk.ok hp.ok
 obtain⟨x,y,z⟩:=hk2.ok c
 have e1:rws B r T (vs++[u]) (ls++[l])=rws B r T vs ls++[gl B r T u l]:=by unfold rws;rw[List.zipWith_append hl];rfl
 have a':Ok F H (rws B r T vs ls):=a
 refine⟨hp.hx,hp.hin,hp.hw,hp.hd,⟨?_,fun k hk1 ho=>?_,z⟩,fun k hk1=>?_⟩
 ·show Ok F H (rws B r T (vs++[u]) (ls++[l]))
  rw[e1]
  exact Ok.app a' ⟨x,fun _ _=>id,trivial⟩ (fun k h1 h2=>b k h1 (hk2.own (.inl (h2.resolve_right id))))
 ·have h1:Own (rws B r T (vs++[u]) (ls++[l])) k:=hk1
  rw[e1] at h1
  rcases Own.app.1 h1 with h2|h2
  ·exact b k h2 (hk2.own (.inr ho))
  ·exact y k (h2.resolve_right id) ho
 ·rcases hk1 with h1|h1
  ·have h1':Own (rws B r T (vs++[u]) (ls++[l])) k:=h1
   rw[e1] at h1'
   rcases Own.app.1 h1' with h2|h2
   ·exact hp.ge k (hk.own (.inl h2))
   ·exact hp.ge k (hk.own (.inr (hk2.own (.inl (h2.resolve_right id)))))
  ·exact hp.ge k (hk.own (.inr (hk2.own (.inr h1))))
theorem jrm{u:Value}{l:List α}(hk:Tk L (rw' B r T vs ls) M)(hk2:Tk M (gl B r T u l) N)(hl:vs.length=ls.length)(k:LH P n w0 ops Q X D (rw' B r T (vs++[u]) (ls++[l])::N) e rest):LH P n w0 ops Q X D L e rest:=fun F H hp=>k F H (hp.rmore hk hk2 hl)
end
end Go.JE
namespace Go.Proofs.YtehhjlkmbdhckaaGreat
open Go.JE
def uniS(l xs:List Int):List Int:=xs.foldl (fun l x=>zIn x l) l
def delS(l xs:List Int):List Int:=xs.foldl (fun l x=>zOut x l) l
theorem uniS_mem{y:Int}:∀{xs l:List Int},y∈uniS l xs↔y∈l∨y∈xs
 | [],l=>by simp[uniS]
 | x::xs,l=>by
  show y∈uniS (zIn x l) xs↔_
  rw[uniS_mem,zIn_mem,List.mem_cons]
  constructor
  ·rintro((h|h)|h)<;>simp[h]
  ·rintro(h|h|h)<;>simp[h]
theorem uniS_ris:∀{xs l:List Int},Ris l→Ris (uniS l xs)
 | [],_,h=>h
 | _::xs,_,h=>uniS_ris (xs:=xs) (zIn_ris h)
theorem delS_mem{y:Int}:∀{xs l:List Int},y∈delS l xs↔y∈l∧y∉xs
 | [],l=>by simp[delS]
 | x::xs,l=>by
  show y∈delS (zOut x l) xs↔_
  rw[delS_mem,zOut_mem,List.mem_cons,not_or]
  exact⟨fun⟨⟨a,b⟩,c⟩=>⟨a,b,c⟩,fun⟨a,b,c⟩=>⟨⟨a,b⟩,c⟩⟩
theorem delS_ris:∀{xs l:List Int},Ris l→Ris (delS l xs)
 | [],_,h=>h
 | _::xs,_,h=>delS_ris (xs:=xs) (zOut_ris h)
def sAt:List D.Mach→List Int→List Int
 | [],now=>now
 | i::l,now=>uniS (delS (sAt l now) (makesM i)) (takesM i)
def bkB(r:Int):List D.Mach→Bool→Bool
 | [],o=>o
 | i::l,o=>if r∈takesM i then true else if r∈makesM i then false else bkB r l o
theorem sAt_mem{r:Int}{now:List Int}:∀{l:List D.Mach},r∈sAt l now↔bkB r l (decide (r∈now))=true
 | []=>by simp[sAt,bkB]
 | i::l=>by
  rw[sAt,bkB,uniS_mem,delS_mem,sAt_mem]
  by_cases h1:r∈takesM i
  ·simp[h1]
  ·by_cases h2:r∈makesM i
   ·simp[h1,h2]
   ·simp[h1,h2]
theorem sAt_ris{now:List Int}(h:Ris now):∀{l:List D.Mach},Ris (sAt l now)
 | []=>h
 | i::l=>uniS_ris (delS_ris (sAt_ris h))
theorem bkB_up{r:Int}:∀{l:List D.Mach} {o o':Bool},(o=true→o'=true)→bkB r l o=true→bkB r l o'=true
 | [],_,_,h,h1=>h h1
 | i::l,o,o',h,h1=>by
  rw[bkB] at h1 ⊢
  split
  ·rfl
  ·rename_i h2
   rw[if_neg h2] at h1
   split
   ·rename_i h3;rw[if_pos h3] at h1;exact h1
   ·rename_i h3;rw[if_neg h3] at h1;exact bkB_up h h1
theorem bkB_or{r:Int}:∀{l:List D.Mach} {o:Bool},bkB r l o=true→bkB r l false=true∨(o=true∧bkB r l true=true)
 | [],o,h => .inr ⟨h,rfl⟩
 | i::l,o,h=>by
  rw[bkB] at h ⊢
  split at h
  ·rename_i h2;left;exact if_pos h2
  ·rename_i h2
   rw[if_neg h2]
   split at h
   ·cases h
   ·rename_i h3
    rw[if_neg h3,bkB,if_neg h2,if_neg h3];exact bkB_or h
def backB(x:D.MBlock)(p:Nat)(r:Int)(o:Bool):Bool:=bkB r (x.Ins.drop p) (o||decide (r∈nM9 x.End))
theorem backB_up{x:D.MBlock}{p:Nat}{r:Int}{o o':Bool}(h:o=true→o'=true)(h1:backB x p r o=true):backB x p r o'=true :=
 bkB_up (fun h2=>by rw[Bool.or_eq_true] at h2 ⊢;exact h2.imp h id) h1
theorem backB_or{x:D.MBlock}{p:Nat}{r:Int}{o:Bool}(h:backB x p r o=true):backB x p r false=true∨(o=true∧backB x p r true=true):=by
 cases o with
 | false=>exact .inl h
 | true=>exact .inr ⟨rfl,h⟩
theorem sAt_back{x:D.MBlock}{p:Nat}{r:Int}{E:List Int}:r∈sAt (x.Ins.drop p) (uniS E (nM9 x.End))↔backB x p r (decide (r∈E))=true:=by
 rw[sAt_mem];unfold backB
 have:decide (r∈uniS E (nM9 x.End))=(decide (r∈E)||decide (r∈nM9 x.End)):=by rw[←Bool.decide_or,decide_eq_decide];exact uniS_mem
 rw[this]
def dsts(x:D.MBlock):List Int:=x.Phis.map (fun p=>p.Dst)
def phiT(x:D.MBlock)(n:Int):List Int:=x.Phis.flatMap (fun p=>(p.In.filter (fun y=>decide (y.From=n))).map (fun y=>y.Val))
inductive LO (bs:List D.MBlock):Nat→Int→Prop
 | phi {b:Nat} {to r:Int}:to∈(ix bs b).End.To→r∈phiT (ix bs to.toNat) b→LO bs b r
 | gen {b:Nat} {to r:Int}:to∈(ix bs b).End.To→r∉dsts (ix bs to.toNat)→backB (ix bs to.toNat) 0 r false=true→LO bs b r
 | thru {b:Nat} {to r:Int}:to∈(ix bs b).End.To→r∉dsts (ix bs to.toNat)→backB (ix bs to.toNat) 0 r true=true→LO bs to.toNat r→LO bs b r
def LI(bs:List D.MBlock)(b:Nat)(r:Int):Prop:=backB (ix bs b) 0 r false=true∨(backB (ix bs b) 0 r true=true∧LO bs b r)
theorem LI.lo{bs:List D.MBlock}{b:Nat}{to r:Int}(ht:to∈(ix bs b).End.To)(hd:r∉dsts (ix bs to.toNat))(h:LI bs to.toNat r):LO bs b r:=h.elim (fun h => .gen ht hd h) (fun h => .thru ht hd h.1 h.2)
def endOne(bs:List D.MBlock)(I:List (List Int))(n:Nat)(e:List Int)(to:Int):List Int:=uniS (uniS e (delS (ix I to.toNat) (dsts (ix bs to.toNat)))) (phiT (ix bs to.toNat) n)
def enS(bs:List D.MBlock)(I:List (List Int))(n:Nat):List Int:=(ix bs n).End.To.foldl (endOne bs I n) []
theorem endF_mem{bs:List D.MBlock}{I:List (List Int)}{n:Nat}{r:Int}:∀{ts e:List Int},r∈ts.foldl (endOne bs I n) e↔r∈e∨∃to∈ts,(r∈ix I to.toNat∧r∉dsts (ix bs to.toNat))∨r∈phiT (ix bs to.toNat) n
 | [],e=>by simp
 | t::ts,e=>by
  rw[List.foldl_cons,endF_mem]
  unfold endOne
  rw[uniS_mem,uniS_mem,delS_mem]
  constructor
  ·rintro(((h|h)|h)|⟨to,h1,h2⟩)
   ·exact .inl h
   ·exact .inr ⟨t,by simp,.inl h⟩
   ·exact .inr ⟨t,by simp,.inr h⟩
   ·exact .inr ⟨to,by simp[h1],h2⟩
  ·rintro(h|⟨to,h1,h2⟩)
   ·exact .inl (.inl (.inl h))
   ·rcases List.mem_cons.1 h1 with rfl|h1
    ·exact .inl (h2.elim (fun h => .inl (.inr h)) .inr)
    ·exact .inr ⟨to,h1,h2⟩
theorem enS_mem{bs:List D.MBlock}{I:List (List Int)}{n:Nat}{r:Int}:r∈enS bs I n↔∃to∈(ix bs n).End.To,(r∈ix I to.toNat∧r∉dsts (ix bs to.toNat))∨r∈phiT (ix bs to.toNat) n:=by
 unfold enS;rw[endF_mem];simp
theorem endF_ris{bs:List D.MBlock}{I:List (List Int)}{n:Nat}:∀{ts e:List Int},Ris e→Ris (ts.foldl (endOne bs I n) e)
 | [],_,h=>h
 | _::ts,_,h=>endF_ris (ts:=ts) (uniS_ris (uniS_ris h))
theorem enS_ris{bs:List D.MBlock}{I:List (List Int)}{n:Nat}:Ris (enS bs I n):=endF_ris (by simp[Ris])
def begS(bs:List D.MBlock)(b:Nat)(e:List Int):List Int:=sAt (ix bs b).Ins (uniS e (nM9 (ix bs b).End))
theorem begS_mem{bs:List D.MBlock}{b:Nat}{e:List Int}{r:Int}:r∈begS bs b e↔backB (ix bs b) 0 r (decide (r∈e))=true:=by
 have:=sAt_back (x:=ix bs b) (p:=0) (r:=r) (E:=e)
 rwa[List.drop_zero] at this
structure FS(bs:List D.MBlock)(E I:List (List Int)):Prop where
 le:E.length=bs.length
 li:I.length=bs.length
 re:∀b,b<bs.length→Ris (ix E b)
 ri:∀b,b<bs.length→Ris (ix I b)
 so:∀b,b<bs.length→∀r∈ix E b,LO bs b r
 si:∀b,b<bs.length→∀r∈ix I b,LI bs b r
 up:∀b,b<bs.length→∀r∈ix E b,r∈enS bs I b
 ui:∀b,b<bs.length→∀r∈ix I b,r∈begS bs b (ix E b)
def Fix(bs:List D.MBlock)(E I:List (List Int))(b:Nat):Prop:=ix E b=enS bs I b∧ix I b=begS bs b (ix E b)
theorem ixN{n b:Nat}:ix (List.replicate n ([]:List Int)) b=[]:=by
 by_cases hj:b<n
 ·simp[ix,hj]
 ·simp[ix,hj];rfl
section
variable{bs:List D.MBlock}{E I:List (List Int)}{b:Nat}
theorem FS.start:FS bs (List.replicate bs.length []) (List.replicate bs.length []) where
 le:=by simp
 li:=by simp
 re:=fun b _=>by rw[ixN];simp[Ris]
 ri:=fun b _=>by rw[ixN];simp[Ris]
 so:=fun b _ r h=>by rw[ixN] at h;cases h
 si:=fun b _ r h=>by rw[ixN] at h;cases h
 up:=fun b _ r h=>by rw[ixN] at h;cases h
 ui:=fun b _ r h=>by rw[ixN] at h;cases h
theorem ixS{l:List (List Int)}{n b j:Nat}{x:List Int}(hl:l.length=n)(hb:b<n):ix (l.set b x) j=if j=b then x else ix l j:=by rw[ix_set (by omega)]
theorem begS_mono{e e':List Int}(h:∀r∈e,r∈e'):∀r∈begS bs b e,r∈begS bs b e':=fun r hr=>by
 rw[begS_mem] at hr ⊢
 exact backB_up (fun h1=>by simp at h1 ⊢;exact h r h1) hr
theorem enS_mono{I':List (List Int)}{n:Nat}(h:∀j,∀r∈ix I j,r∈ix I' j):∀r∈enS bs I n,r∈enS bs I' n:=fun r hr=>by
 rw[enS_mem] at hr ⊢
 obtain⟨to,h1,h2⟩:=hr
 exact⟨to,h1,h2.imp (fun h3=>⟨h _ r h3.1,h3.2⟩) id⟩
theorem FS.step(h:FS bs E I)(hb:b<bs.length)(hT:∀to∈(ix bs b).End.To,to.toNat<bs.length) :
  FS bs (E.set b (enS bs I b)) (I.set b (begS bs b (enS bs I b)))∧(∀r∈ix E b,r∈enS bs I b)∧∀r∈ix I b,r∈begS bs b (enS bs I b):=by
 have h1:=h.up b hb
 have h2:∀r∈ix I b,r∈begS bs b (enS bs I b):=fun r hr=>begS_mono h1 r (h.ui b hb r hr)
 have hI:∀j,∀r∈ix I j,r∈ix (I.set b (begS bs b (enS bs I b))) j:=fun j r hr=>by
  rw[ixS h.li hb];split
  ·rename_i e;subst e;exact h2 r hr
  ·exact hr
 have hE:∀j,∀r∈ix E j,r∈ix (E.set b (enS bs I b)) j:=fun j r hr=>by
  rw[ixS h.le hb];split
  ·rename_i e;subst e;exact h1 r hr
  ·exact hr
 have hso:∀r∈enS bs I b,LO bs b r:=fun r hr=>by
  obtain⟨to,h3,h4⟩:=enS_mem.1 hr
  rcases h4 with h4|h4
  ·exact LI.lo h3 h4.2 (h.si _ (hT to h3) r h4.1)
  ·exact .phi h3 h4
 refine⟨⟨by simp[h.le],by simp[h.li],fun j hj=>?_,fun j hj=>?_,fun j hj r hr=>?_,fun j hj r hr=>?_,fun j hj r hr=>?_,fun j hj r hr=>?_⟩,h1,h2⟩
 ·rw[ixS h.le hb];split;exact enS_ris;exact h.re j hj
 ·rw[ixS h.li hb];split;exact sAt_ris (uniS_ris enS_ris);exact h.ri j hj
 ·rw[ixS h.le hb] at hr;split at hr
  ·rename_i e;subst e;exact hso r hr
  ·exact h.so j hj r hr
 ·rw[ixS h.li hb] at hr;split at hr
  ·rename_i e;subst e
   rw[begS_mem] at hr
   rcases backB_or hr with h3|h3
   ·exact .inl h3
   ·exact .inr ⟨h3.2,hso r (by simpa using h3.1)⟩
  ·exact h.si j hj r hr
 ·refine enS_mono hI r ?_
  rw[ixS h.le hb] at hr;split at hr
  ·rename_i e;subst e;exact hr
  ·exact h.up j hj r hr
 ·rw[ixS h.li hb] at hr;split at hr
  ·rename_i e;subst e;rw[ixS h.le hb,if_pos rfl];exact hr
  ·rename_i e;rw[ixS h.le hb,if_neg e];exact h.ui j hj r hr
theorem FS.done(h:FS bs E I)(hT:∀b,b<bs.length→∀to∈(ix bs b).End.To,to.toNat<bs.length)(hF:∀b,b<bs.length→Fix bs E I b){b:Nat}{r:Int}(hL:LO bs b r):b<bs.length→r∈ix E b:=by
 induction hL with
 | phi h1 h2=>intro hb;rw[(hF _ hb).1,enS_mem];exact⟨_,h1,.inr h2⟩
 | gen h1 h2 h3 =>
  intro hb
  have ht:=hT _ hb _ h1
  rw[(hF _ hb).1,enS_mem]
  refine⟨_,h1,.inl ⟨?_,h2⟩⟩
  rw[(hF _ ht).2,begS_mem]
  exact backB_up (fun h=>by cases h) h3
 | thru h1 h2 h3 h4 ih =>
  intro hb
  have ht:=hT _ hb _ h1
  rw[(hF _ hb).1,enS_mem]
  refine⟨_,h1,.inl ⟨?_,h2⟩⟩
  rw[(hF _ ht).2,begS_mem]
  have:=ih ht
  simpa[this] using h3
end
def tot:List (List Int)→Nat
 | []=>0
 | x::l=>x.length+tot l
theorem tot_set:∀{l:List (List Int)} {b:Nat} {x:List Int},b<l.length→tot (l.set b x)+(ix l b).length=tot l+x.length
 | y::l,0,x,_=>by rw[List.set_cons_zero,tot,tot,ix_zero];omega
 | y::l,b+1,x,h=>by rw[List.set_cons_succ,tot,tot,ix_cons];have:=tot_set (l:=l) (b:=b) (x:=x) (by simpa using h);omega
theorem ris_len:∀{l:List Int} {lo hi:Int},Ris l→lo≤hi→(∀x∈l,lo≤x∧x<hi)→(l.length:Int)≤hi-lo
 | [],_,_,_,h,_=>by simp;omega
 | x::l,lo,hi,hr,hlo,h=>by
  rw[Ris,List.pairwise_cons] at hr
  have hx:=h x (by simp)
  have:=ris_len (l:=l) (lo:=x+1) (hi:=hi) hr.2 (by omega) (fun y hy=>by have:=hr.1 y hy;have:=h y (by simp[hy]);omega)
  simp;omega
theorem tot_le{N:Nat}:∀{l:List (List Int)},(∀x∈l,x.length≤N)→tot l≤N*l.length
 | [],_=>by simp[tot]
 | x::l,h=>by
  have h1:=h x (by simp)
  have h2:=tot_le (l:=l) (fun y hy=>h y (by simp[hy]))
  rw[tot,List.length_cons,Nat.mul_add];omega
theorem ris_sub:∀{a b:List Int},Ris a→Ris b→(∀x∈a,x∈b)→a.length≤b.length∧(a.length=b.length→a=b)
 | [],b,_,_,_=>⟨Nat.zero_le _,fun h=>(List.eq_nil_of_length_eq_zero h.symm).symm⟩
 | x::a,[],_,_,h=>absurd (h x (by simp)) (by simp)
 | x::a,y::b,ha,hb,h=>by
  have ha':=List.pairwise_cons.1 ha
  have hb':=List.pairwise_cons.1 hb
  by_cases e:x=y
  ·subst e
   have:=ris_sub ha'.2 hb'.2 (fun z hz=>by
    rcases List.mem_cons.1 (h z (by simp[hz])) with e|e
    ·subst e;have:=ha'.1 z hz;omega
    ·exact e)
   refine⟨by simp;omega,fun e=>?_⟩
   rw[this.2 (by simpa using e)]
  ·have hx:x∈b:=(List.mem_cons.1 (h x (by simp))).resolve_left e
   have hxy:=hb'.1 x hx
   have:=ris_sub ha hb'.2 (fun z hz=>by
    have hzy:y<z:=by
     rcases List.mem_cons.1 hz with rfl|hz
     ·exact hxy
     ·have:=ha'.1 z hz;omega
    exact(List.mem_cons.1 (h z hz)).resolve_left (by omega))
   exact⟨by have:=this.1;simp at this ⊢;omega,fun e=>by have:=this.1;simp at this e;omega⟩
def rnd(bs:List D.MBlock):Nat→List (List Int)×List (List Int)→List (List Int)×List (List Int)
 | 0,s=>s
 | b+1,s=>rnd bs b (s.1.set b (enS bs s.2 b),s.2.set b (begS bs b (enS bs s.2 b)))
def itR(bs:List D.MBlock):Nat→List (List Int)×List (List Int)→List (List Int)×List (List Int)
 | 0,s=>s
 | k+1,s=>itR bs k (rnd bs bs.length s)
def loE(bs:List D.MBlock):List (List Int):=(itR bs (16384*bs.length+1) (List.replicate bs.length [],List.replicate bs.length [])).1
structure WL(bs:List D.MBlock):Prop where
 to:∀b,b<bs.length→∀t∈(ix bs b).End.To,1≤t∧t<bs.length
 rg:∀b,b<bs.length→(∀i∈(ix bs b).Ins,(∀r∈takesM i,Rg r)∧∀r∈makesM i,Rg r)∧(∀r∈nM9 (ix bs b).End,Rg r)∧∀p∈(ix bs b).Phis,Rg p.Dst∧∀x∈p.In,Rg x.Val
section
variable{bs:List D.MBlock}{E I:List (List Int)}
theorem WL.t(h:WL bs){b:Nat}(hb:b<bs.length):∀to∈(ix bs b).End.To,to.toNat<bs.length:=fun t ht=>by have:=h.to b hb t ht;omega
theorem bkB_rg{r:Int}:∀{l:List D.Mach} {o:Bool},(∀i∈l,∀r∈takesM i,Rg r)→bkB r l o=true→Rg r∨o=true
 | [],_,_,h => .inr h
 | i::l,o,hl,h=>by
  rw[bkB] at h;split at h
  ·rename_i h1;exact .inl (hl i (by simp) r h1)
  ·split at h
   ·cases h
   ·exact bkB_rg (fun j hj=>hl j (by simp[hj])) h
theorem WL.lo(h:WL bs){b:Nat}{r:Int}(hL:LO bs b r):b<bs.length→Rg r:=by
 induction hL with
 | phi h1 h2 =>
  intro hb
  obtain⟨p,h3,h4⟩:=List.mem_flatMap.1 h2
  obtain⟨y,h5,rfl⟩:=List.mem_map.1 h4
  exact((h.rg _ (h.t hb _ h1)).2.2 p h3).2 y (List.mem_filter.1 h5).1
 | gen h1 h2 h3 =>
  intro hb
  have hr:=h.rg _ (h.t hb _ h1)
  unfold backB at h3
  rw[List.drop_zero] at h3
  rcases bkB_rg (fun i hi=>(hr.1 i hi).1) h3 with h4|h4
  ·exact h4
  ·exact hr.2.1 _ (by simpa using h4)
 | thru h1 h2 h3 h4 ih=>intro hb;exact ih (h.t hb _ h1)
theorem WL.li(h:WL bs){b:Nat}{r:Int}(hb:b<bs.length)(hL:LI bs b r):Rg r:=by
 rcases hL with h3|h3
 ·have hr:=h.rg _ hb
  unfold backB at h3
  rw[List.drop_zero] at h3
  rcases bkB_rg (fun i hi=>(hr.1 i hi).1) h3 with h4|h4
  ·exact h4
  ·exact hr.2.1 _ (by simpa using h4)
 ·exact h.lo h3.2 hb
theorem FS.small(h:FS bs E I)(hw:WL bs):tot E+tot I≤16384*bs.length:=by
 have h1:tot E≤8192*E.length:=tot_le fun x hx=>by
  obtain⟨b,hb,e⟩:=List.getElem_of_mem hx
  have hb':b<bs.length:=by rw[←h.le];exact hb
  have e2:ix E b=x:=by rw[ix_eq hb];exact e
  have:=ris_len (l:=x) (lo:=0) (hi:=8192) (by rw[←e2];exact h.re b hb') (by omega) (fun r hr=>by rw[←e2] at hr;exact hw.lo (h.so b hb' r hr) hb')
  omega
 have h2:tot I≤8192*I.length:=tot_le fun x hx=>by
  obtain⟨b,hb,e⟩:=List.getElem_of_mem hx
  have hb':b<bs.length:=by rw[←h.li];exact hb
  have e2:ix I b=x:=by rw[ix_eq hb];exact e
  have:=ris_len (l:=x) (lo:=0) (hi:=8192) (by rw[←e2];exact h.ri b hb') (by omega) (fun r hr=>by rw[←e2] at hr;exact hw.li hb' (h.si b hb' r hr))
  omega
 rw[h.le] at h1;rw[h.li] at h2;omega
theorem FS.grow(h:FS bs E I){b:Nat}(hb:b<bs.length)(hT:∀to∈(ix bs b).End.To,to.toNat<bs.length) :
  tot E+tot I≤tot (E.set b (enS bs I b))+tot (I.set b (begS bs b (enS bs I b))) ∧
  ((enS bs I b).length+(begS bs b (enS bs I b)).length=(ix E b).length+(ix I b).length→Fix bs E I b∧E.set b (enS bs I b)=E∧I.set b (begS bs b (enS bs I b))=I) ∧
  ((enS bs I b).length+(begS bs b (enS bs I b)).length≠(ix E b).length+(ix I b).length→tot E+tot I<tot (E.set b (enS bs I b))+tot (I.set b (begS bs b (enS bs I b)))):=by
 obtain⟨_,h1,h2⟩:=h.step hb hT
 have s1:=ris_sub (h.re b hb) (enS_ris (bs:=bs) (I:=I) (n:=b)) h1
 have s2:(ix I b).length≤(begS bs b (enS bs I b)).length∧((ix I b).length=(begS bs b (enS bs I b)).length→ix I b=begS bs b (enS bs I b)):=ris_sub (h.ri b hb) (sAt_ris (uniS_ris enS_ris)) h2
 have t1:=tot_set (l:=E) (b:=b) (x:=enS bs I b) (by rw[h.le];exact hb)
 have t2:=tot_set (l:=I) (b:=b) (x:=begS bs b (enS bs I b)) (by rw[h.li];exact hb)
 refine⟨by omega,fun e=>?_,fun e=>by omega⟩
 have e1:=s1.2 (by omega)
 have e2:=s2.2 (by omega)
 refine⟨⟨e1,by rw[e1];exact e2⟩,?_,?_⟩
 ·have hb':b<E.length:=by rw[h.le];exact hb
  rw[←e1,ix_eq hb'];exact List.set_getElem_self _
 ·have hb':b<I.length:=by rw[h.li];exact hb
  rw[←e2,ix_eq hb'];exact List.set_getElem_self _
theorem rnd_fs(hw:WL bs):∀(b:Nat) (s:List (List Int)×List (List Int)),b≤bs.length→FS bs s.1 s.2→FS bs (rnd bs b s).1 (rnd bs b s).2∧tot s.1+tot s.2≤tot (rnd bs b s).1+tot (rnd bs b s).2 ∧
  (tot s.1+tot s.2=tot (rnd bs b s).1+tot (rnd bs b s).2→rnd bs b s=s∧∀j,j<b→Fix bs s.1 s.2 j)
 | 0,s,_,h=>⟨h,Nat.le_refl _,fun _=>⟨rfl,fun j hj=>by omega⟩⟩
 | b+1,s,hb,h=>by
  have hs:=h.step (b:=b) (by omega) (hw.t (by omega))
  obtain⟨g1,g2,g3⟩:=h.grow (b:=b) (by omega) (hw.t (by omega))
  obtain⟨a1,a2,a3⟩:=rnd_fs hw b (s.1.set b (enS bs s.2 b),s.2.set b (begS bs b (enS bs s.2 b))) (by omega) hs.1
  rw[rnd]
  dsimp only at a1 a2 a3
  refine⟨a1,by omega,fun e=>?_⟩
  have e1:(enS bs s.2 b).length+(begS bs b (enS bs s.2 b)).length=(ix s.1 b).length+(ix s.2 b).length:=Classical.byContradiction fun hne=>by have:=g3 hne;omega
  obtain⟨f1,f2,f3⟩:=g2 e1
  obtain⟨c1,c2⟩:=a3 (by omega)
  rw[f2,f3] at c1 c2
  refine⟨by rw[f2,f3];exact c1,fun j hj=>?_⟩
  by_cases e2:j=b
  ·subst e2;exact f1
  ·exact c2 j (by omega)
theorem itR_fix(hw:WL bs):∀(k:Nat) (s:List (List Int)×List (List Int)),FS bs s.1 s.2→FS bs (itR bs k s).1 (itR bs k s).2∧((∀j,j<bs.length→Fix bs (itR bs k s).1 (itR bs k s).2 j)∨tot s.1+tot s.2+k≤tot (itR bs k s).1+tot (itR bs k s).2)
 | 0,s,h=>⟨h,.inr (Nat.le_refl _)⟩
 | k+1,s,h=>by
  obtain⟨a1,a2,a3⟩:=rnd_fs hw bs.length s (Nat.le_refl _) h
  rw[itR]
  obtain⟨b1,b2⟩:=itR_fix hw k (rnd bs bs.length s) a1
  refine⟨b1,?_⟩
  rcases b2 with b2|b2
  ·exact .inl b2
  ·by_cases e:tot s.1+tot s.2=tot (rnd bs bs.length s).1+tot (rnd bs bs.length s).2
   ·obtain⟨c1,c2⟩:=a3 e
    left
    rw[c1]
    have:∀k,itR bs k s=s:=fun k=>by
     induction k with
     | zero=>rfl
     | succ k ih=>rw[itR,c1];exact ih
    rw[this];exact c2
   ·right;omega
theorem loE_fs(hw:WL bs):∃I,FS bs (loE bs) I∧∀j,j<bs.length→Fix bs (loE bs) I j:=by
 obtain⟨a,b⟩:=itR_fix hw (16384*bs.length+1) (List.replicate bs.length [],List.replicate bs.length []) FS.start
 refine⟨_,a,?_⟩
 rcases b with b|b
 ·exact b
 ·have:=a.small hw;omega
theorem loE_len(hw:WL bs):(loE bs).length=bs.length:=by obtain⟨I,h,_⟩:=loE_fs hw;exact h.le
theorem loE_ris(hw:WL bs){b:Nat}(hb:b<bs.length):Ris (ix (loE bs) b):=by obtain⟨I,h,_⟩:=loE_fs hw;exact h.re b hb
theorem loE_mem(hw:WL bs){b:Nat}(hb:b<bs.length){r:Int}:r∈ix (loE bs) b↔LO bs b r:=by
 obtain⟨I,h,hF⟩:=loE_fs hw
 exact⟨h.so b hb r,fun hL=>h.done (fun b hb=>hw.t hb) hF hL hb⟩
theorem FS.eq(h:FS bs E I)(hw:WL bs)(hF:∀j,j<bs.length→Fix bs E I j):E=loE bs:=by
 refine List.ext_getElem (by rw[h.le,loE_len hw]) fun j h1 h2=>?_
 have hj:j<bs.length:=by rw[←h.le];exact h1
 have e1:ix E j=E[j]:=ix_eq h1
 have e2:ix (loE bs) j=(loE bs)[j]:=ix_eq h2
 rw[←e1,←e2]
 exact ris_ext (h.re j hj) (loE_ris hw hj) fun r=>by rw[loE_mem hw hj];exact⟨h.so j hj r,fun hL=>h.done (fun b hb=>hw.t hb) hF hL hj⟩
end
abbrev U86:=@Tryz.underlying86
theorem foldl_take{α β:Type}[Inhabited β](f:α→β→α)(a:α){l:List β}{k:Nat}(h:k<l.length):(l.take (k+1)).foldl f a=f ((l.take k).foldl f a) (ix l k):=by rw[take_ix h,List.foldl_append];rfl
theorem without_ct{g0 B0:Nat}{S0:List Int}{a1:Value}{l:List Int}{N1:Nat}:Tr Tryz.prog 109 #[.map (some g0),a1] [dv (rLn N1 (rI .i64)) a1 l] [sm B0 g0 S0] (fun _:Unit => .tuple #[]) (fun _=>[]) (fun _ _=>[sm B0 g0 (delS S0 l)]):=by
 refine jenter (args:=[.map (some g0),a1]) Tryz.func109 rfl rfl rfl fun w0 X=>?_
 refine jq (jr (jm Z (jdq d0 fun q1 w1=>js (jln U22 d0 Z) (jm Z (jn (jx (jb ?_)))))))
 refine jlp (u2 fun(k:Nat) (Sk:List Int)=>⟨k≤l.length∧Sk=delS S0 (l.take k),[dv (rLn N1 (rI .i64)) a1 l],[sm B0 g0 Sk],[(0,(.map (some g0))),(6,a1),(7,.int .i64 (↑(List.length l))),(8,.int .i64 (↑k))],l.length-k⟩) (0,S0) ⟨by dsimp only;omega,rfl⟩ (dc d0 dn) (kc k0 kn) ⟨Z,Z,Z,eqI (by omega),trivial⟩ ?_
 rintro⟨k,Sk⟩;dsimp only[u2];rintro⟨hk,hS⟩
 refine jq (jr (js (jlss Z Z) (jn (jx (jq ?_)))))
 refine jif Z (fun hc1=>?_) (fun hc1=>?_)
 refine jsk (jx (jq (jb (jq (jr (js (jix U22 Z3 d0 Z Z Z (by omega)) (js (jlI (dix d0 k (by omega)) O3 Z) (ja Z (jn (jx (jr ?_)))))))))))
 refine jm Z (jm Z (jsd U86 U3 k0 Z Z (jn (jbn (jx (jr (js (jadd Z Z (by omega)) (jm Z (jn ?_)))))))))
 exact jag (k+1,zOut (ix l k) Sk) ⟨by dsimp only;omega,by dsimp only;unfold delS;rw[foldl_take _ _ (by omega)];exact congrArg (zOut (ix l k)) hS⟩ (dc d0 dn) (kc k0 kn) ⟨Z,Z,Z,eqI (by omega),trivial⟩
 refine jex (jtx (jtx (jbh ?_)))
 exact jd0 Z () Z dn (fun _ _=>kcs (by rw[hS,List.take_of_length_le (by omega)]) k0 kn)
theorem with_ct{g0 B0:Nat}{S0:List Int}{a1:Value}{l:List Int}{N1:Nat}:Tr Tryz.prog 110 #[.map (some g0),a1] [dv (rLn N1 (rI .i64)) a1 l] [sm B0 g0 S0] (fun _:Unit => .tuple #[]) (fun _=>[]) (fun _ _=>[sm B0 g0 (uniS S0 l)]):=by
 refine jenter (args:=[.map (some g0),a1]) Tryz.func110 rfl rfl rfl fun w0 X=>?_
 refine jq (jr (jm Z (jdq d0 fun q1 w1=>js (jln U22 d0 Z) (jm Z (jn (jx (jb ?_)))))))
 refine jlp (u2 fun(k:Nat) (Sk:List Int)=>⟨k≤l.length∧Sk=uniS S0 (l.take k),[dv (rLn N1 (rI .i64)) a1 l],[sm B0 g0 Sk],[(0,(.map (some g0))),(6,a1),(7,.int .i64 (↑(List.length l))),(8,.int .i64 (↑k))],l.length-k⟩) (0,S0) ⟨by dsimp only;omega,rfl⟩ (dc d0 dn) (kc k0 kn) ⟨Z,Z,Z,eqI (by omega),trivial⟩ ?_
 rintro⟨k,Sk⟩;dsimp only[u2];rintro⟨hk,hS⟩
 refine jq (jr (js (jlss Z Z) (jn (jx (jq ?_)))))
 refine jif Z (fun hc1=>?_) (fun hc1=>?_)
 refine jsk (jx (jq (jb (jq (jr (js (jix U22 Z3 d0 Z Z Z (by omega)) (js (jlI (dix d0 k (by omega)) O3 Z) (ja Z (jn (jx (jr ?_)))))))))))
 refine jm Z (jm Z (jsu U86 U3 k0 Z Z Z (jn (jbn (jx (jr (js (jadd Z Z (by omega)) (jm Z (jn ?_)))))))))
 exact jag (k+1,zIn (ix l k) Sk) ⟨by dsimp only;omega,by dsimp only;unfold uniS;rw[foldl_take _ _ (by omega)];exact congrArg (zIn (ix l k)) hS⟩ (dc d0 dn) (kc k0 kn) ⟨Z,Z,Z,eqI (by omega),trivial⟩
 refine jex (jtx (jtx (jbh ?_)))
 exact jd0 Z () Z dn (fun _ _=>kcs (by rw[hS,List.take_of_length_le (by omega)]) k0 kn)
theorem vis_nd{vis:List Int}{y:Int}(h:vis.Nodup)(hn:y∉vis):(vis++[y]).Nodup:=by
 rw[List.nodup_append];exact⟨h,by simp,fun a ha b hb=>by simp at hb;subst hb;rintro rfl;exact hn ha⟩
theorem vis_in{vis S:List Int}{y:Int}(h:∀z∈vis,z∈S)(hy:y∈S):∀z∈vis++[y],z∈S:=fun z hz=>by
 rcases List.mem_append.1 hz with hz|hz
 ·exact h z hz
 ·simp at hz;subst hz;exact hy
theorem vis_zin{vis So:List Int}{x:Int}(h:∀y,y∈So↔y∈vis)(y:Int):y∈zIn x So↔y∈vis++[x]:=by
 rw[zIn_mem,h];simp[or_comm]
theorem vis_lt{vis S:List Int}{y:Int}(h:vis.Nodup)(hs:∀z∈vis,z∈S)(hy:y∈S)(hn:y∉vis):vis.length<S.length:=by
 have h1:=(vis_nd h hn).length_le_of_subset (l₂:=S) (fun z hz=>vis_in hs hy z hz)
 simp at h1;omega
theorem vis_len{vis S:List Int}(h:vis.Nodup)(hs:∀z∈vis,z∈S):vis.length≤S.length:=h.length_le_of_subset hs
theorem vis_all{vis S:List Int}(hs:∀z∈vis,z∈S)(h:∀y∈S,y∈vis)(y:Int):y∈vis↔y∈S:=⟨hs y,h y⟩
theorem setClone_ct{a0:Value}{S0:List Int}:Tr Tryz.prog 108 #[a0] [dv rSet a0 (some S0)] [] (fun g:Nat => .map (some g)) (fun _=>[]) (fun B g=>[sm B g S0]):=by
 refine jenter (args:=[a0]) Tryz.func108 rfl rfl rfl fun w0 X=>?_
 refine csR d0 fun hris=>jq (jr (ja Z (jn (jx (jq (jr (jsm fun g5=>ja Z (jn (jx ?_)))))))))
 refine jq (jq (jr (jm Z (jrs U86 d0 Z fun g7=>jn (jx (jb ?_))))))
 refine jlp (u2 fun(vis:List Int) (So:List Int)=>⟨vis.Nodup∧(∀y∈vis,y∈S0)∧Ris So∧(∀y,y∈So↔y∈vis),[dv rSet a0 (some S0)],[sit g7 a0 S0 vis,sm X.n g5 So],[(2,.map none),(3,(.map (some g5))),(7,(.pointer (some ⟨g7,0,none⟩)))],S0.length-vis.length⟩) ([],[]) ⟨by simp,by simp,by simp[Ris],by simp⟩ (dc d0 dn) (kd kn) ⟨Z,Z,Z,trivial⟩ ?_
 rintro⟨vis,So⟩;dsimp only[u2];rintro⟨hvn,hvs,hro,hso⟩
 refine jq (jr ?_)
 refine jns k0 Z (fun hd1=>?_) (fun y1 hy1 hn1=>?_)
 refine js (jex' Z Z) (jn (jx (jq ?_)))
 refine jif Z (fun hc1=>?_) (fun hc1=>?_)
 exact absurd hc1 (by simp)
 refine jex (jtx (jtx (jbh (jx (jq (jr (jm Z (ja Z (jn (jx (jrt ?_)))))))))))
 exact jr1 Z Z g5 Z dn (fun _ hB=>klS (ris_ext hris hro (fun y=>by rw[hso,vis_all hvs hd1])) hB k1 kn)
 have hlt1:=vis_lt hvn hvs hy1 hn1
 refine js (jex' Z Z) (jn (jx (jq ?_)))
 refine jif Z (fun hc2=>?_) (fun hc2=>?_)
 refine jsk (jx (jb (jq (jr (js (jes k0 hy1 Z) (js (jex' Z Z) (ja Z (jn (jx (jr (jm Z ?_)))))))))))
 refine jm Z (jsu U86 U3 k1 Z Z Z (jn (jbn ?_)))
 exact jag (vis++[y1],zIn y1 So) ⟨vis_nd hvn hn1,vis_in hvs hy1,zIn_ris hro,fun y=>vis_zin hso y⟩ (dc d0 dn) (kc k1 (kc k0 kn)) ⟨Z,Z,Z,trivial⟩ (by dsimp only[u2];rw[List.length_append];simp;omega)
 exact absurd hc2 (by simp)
open Go.Shelf Go.JE
shelf_lay Lays.n189 Nm 189 at Tryz as Tryz.lays189
open Go.Sort Go.RowKit in
theorem Tryz.sort_int(blk off cap:Nat)(zs:List Int)(w:World)(hH:Holds (Value.int .i64) w blk off zs.toArray)(hblk:blk<w.heap.size)(hsz:zs.length<4611686018427387904) :
 Calls Tryz.prog 67 #[.slice (some ⟨blk,off,none⟩) zs.length cap] w fun e w' =>
  e = .returned (.tuple #[])∧∃n os,w'=grow (putRow (Value.int .i64) (Sort.ahead w n) blk off (zs.mergeSort fun x y=>decide (x≤y)).toArray) os:=Any.slices_Sort_int Tryz.lays189 blk off cap zs w hH hblk hsz
theorem Tryz.sort_none(p:Option Addr)(cap:Nat)(w:World) :
 Calls Tryz.prog 67 #[.slice p 0 cap] w fun e w'=>e = .returned (.tuple #[])∧w'=w:=Any.slices_Sort_int_none Tryz.lays189 p cap w
def sortM(l:List Int):List Int:=l.mergeSort fun x y=>decide (x≤y)
open Go.Sort Go.RowKit in
theorem sort_ct{F:PH}{H:Heap}(hin:InH F H){B:Nat}{v:Value}{l:List Int}(p:Gl (rI .i64) 3 F H B v l)(hl:l.length<1073741824) :
  Ct Tryz.prog 67 #[v] H (fun u H'=>u = .tuple #[]∧Kw (own1 v) H H'∧Gl (rI .i64) 3 F H' B v (sortM l)):=by
 obtain⟨xs,o1,o2,o3⟩:=p
 have hlen:(sortM l).length=l.length:=List.length_mergeSort l
 intro w hw
 rcases o1.2 with⟨rfl,e2⟩|⟨g,cap,cur,rfl,hb,hg,hc1,hc2,hc3,hc4⟩
 ·refine(Tryz.sort_none none 0 w).mono ?_
  rintro e w' ⟨rfl,rfl⟩
  have hn:l=[]:=List.eq_nil_of_length_eq_zero e2
  subst hn
  refine⟨_,rfl,rfl,rfl,rfl,rfl,by rw[hw];exact Kw.refl _ _,?_⟩
  rw[show sortM []=[] from by simp[sortM]];exact Gl.nil _ _ _
 ·have hgl:g<w.heap.size:=by rw[hw];exact(Array.getElem?_eq_some_iff.1 hg).1
  have hxl:xs.length=l.length:=by have:=o1.1;rw[show(rI .i64).sz=1 from rfl,Nat.mul_one] at this;exact this
  have hxs:xs=l.map (Value.int .i64):=by
   apply List.ext_getElem (by rw[hxl,List.length_map])
   intro i h1 h2
   rw[List.getElem_map]
   have:xs.getD (i*1+0) undef=Value.int .i64 l[i]:=(o3 i (by omega)).1
   rw[Nat.mul_one,Nat.add_zero,List.getD_eq_getElem?_getD,List.getElem?_eq_getElem h1] at this
   exact this
  have ht:cur.toList.take l.length=l.map (Value.int .i64):=by
   rw[←hxs,←hc4,show(rI .i64).sz=1 from rfl,Nat.mul_one]
  have hH:=holds_of_blockI (w:=w) (g:=g) (cur:=cur) (e:=3) (ss:=l) (by rw[hw];exact hg) ht
  refine(Tryz.sort_int g 0 cap l w hH hgl (by omega)).mono ?_
  rintro e w' ⟨rfl,n,os,rfl⟩
  have hgb:=grownBy_sortedI (w:=w) (g:=g) (n:=n) (os:=os) (sortM l).toArray
  have hro:=ownsRow_sortedI (w:=w) (base:=B) (g:=g) (cap:=cap) (n:=n) (e:=3) (os:=os) (cur:=cur) (ss:=l) (ts:=sortM l) hlen hb (by rw[hw];exact hg) hc1 hc2 hc3
  refine⟨_,rfl,hgb.os,hgb.tape,hgb.output,rfl,⟨by rw[←hw];exact hgb.size,fun k hk hn=>?_⟩,?_⟩
  ·rw[←hw] at hk ⊢
   exact hgb.block k hk (fun e1=>hn (show some g=some k from e1.symm))
  ·refine⟨(sortM l).map (Value.int .i64),?_,o2,fun i hi=>?_⟩
   ·rw[hlen];exact Gr.owns.1 hro
   ·have hm:(sortM l)[i]∈l:=(List.mergeSort_perm l _).subset (List.getElem_mem hi)
    obtain⟨j,hj,e1⟩:=List.getElem_of_mem hm
    refine⟨?_,?_⟩
    ·show((sortM l).map (Value.int .i64)).getD (i*1+0) undef=_
     rw[Nat.mul_one,Nat.add_zero,List.getD_eq_getElem?_getD,List.getElem?_map,List.getElem?_eq_getElem hi];rfl
    ·rw[←e1];exact(o3 j hj).2
open Go.JE in
theorem sortT{B:Nat}{v:Value}{l:List Int}(hl:l.length<1073741824):Tr Tryz.prog 67 #[v] [] [gl B (rI .i64) 3 v l] (fun _:Unit => .tuple #[]) (fun _=>[]) (fun _ _=>[gl B (rI .i64) 3 v (sortM l)]):=fun F H hin _ ho =>
 (sort_ct hin ho.1.1 hl).mono fun u H' ⟨h1,h2,h3⟩=>⟨(),F,h1,fun B' _=>⟨PH.ext.refl F,hin.kw h2 (fun k hk=>ho.1.1.no k hk),⟨h2.1,fun k hk hn=>h2.2 k hk (fun h=>hn (.inl h))⟩,trivial,⟨⟨h3,Nat.le_trans ho.1.2 h2.1⟩,fun _ _=>id,trivial⟩,fun k hk => .inr hk⟩⟩
theorem sortM_mem{l:List Int}{x:Int}:x∈sortM l↔x∈l:=(List.mergeSort_perm l _).mem_iff
theorem sortM_le(l:List Int):(sortM l).Pairwise (·≤·):=by
 have h:=List.pairwise_mergeSort (le:=fun x y:Int=>decide (x≤y)) (fun a b c h1 h2=>by simp at *;omega) (fun a b=>by simp;omega) l
 exact h.imp (fun h=>by simpa using h)
theorem sortM_nodup{l:List Int}(h:l.Nodup):(sortM l).Nodup:=(List.mergeSort_perm l _).nodup_iff.2 h
theorem E67:Ent Tryz.prog 67:=⟨_,Tryz.func67,by kernel_rfl,by kernel_rfl⟩
theorem sort_ris{vis S:List Int}(hn:vis.Nodup)(hr:Ris S)(h:∀y,y∈vis↔y∈S):sortM vis=S:=by
 refine ris_ext ?_ hr (fun y=>by rw[sortM_mem,h])
 have h1:=sortM_le vis
 have h2:=sortM_nodup hn
 exact(h1.and h2).imp (fun⟨a,b⟩=>by omega)
theorem sorted_ct{a0:Value}{S0:List Int}(hw:∀y∈S0,IntKind.i64.wrap y=y)(hsz:S0.length<1000000):Tg Tryz.prog 39 #[a0] [dv rSet a0 (some S0)] [] (rI .i64) 3 S0:=by
 refine jenter (args:=[a0]) Tryz.func39 rfl rfl rfl fun w0 X=>?_
 refine csR d0 fun hris=>jq (jr (ja Z (jn (jx (jq (jr (ja Z (jn (jx (jq ?_))))))))))
 refine jq (jr (jm Z (jrs U86 d0 Z fun g6=>jn (jx (jb (cnl (r:=(rI .i64)) (E:=3) ?_))))))
 refine jlp (u2 fun(vis:List Int) (vo:Value)=>⟨vis.Nodup∧(∀y∈vis,y∈S0),[dv rSet a0 (some S0)],[gl X.n (rI .i64) 3 vo vis,sit g6 a0 S0 vis],[(2,.slice none 0 0),(3,vo),(6,(.pointer (some ⟨g6,0,none⟩)))],S0.length-vis.length⟩) ([],.slice none 0 0) ⟨by simp,by simp⟩ (dc d0 dn) (kd kn) ⟨Z,Z,Z,trivial⟩ ?_
 rintro⟨vis,vo⟩;dsimp only[u2];rintro⟨hvn,hvs⟩
 refine cgo k0 fun w1=>jq (jr ?_)
 refine jns k1 Z (fun hd1=>?_) (fun y1 hy1 hn1=>?_)
 refine js (jex' Z Z) (jn (jx (jq ?_)))
 refine jif Z (fun hc1=>?_) (fun hc1=>?_)
 exact absurd hc1 (by simp)
 refine jex (jtx (jtx (jbh (jx (jq (jr (jm Z (jc E67 Z Z (sortT (by have:=vis_len hvn hvs;omega)) dn (kc k1 kn) (fun _=>p0) (fun _=>p1) fun _=>jn (jx (jq ?_))))))))))
 refine jr (jm Z (ja Z (jn (jx (jrt ?_)))))
 exact jrG Z Z (sort_ris hvn hris (vis_all hvs hd1)).symm k0
 have hlt1:=vis_lt hvn hvs hy1 hn1
 have wy1:=hw y1 hy1
 refine js (jex' Z Z) (jn (jx (jq ?_)))
 refine jif Z (fun hc2=>?_) (fun hc2=>?_)
 refine jsk (jx (jb (jq (jr (js (jes k0 hy1 Z) (js (jex' Z Z) (ja Z (jn (jx (jr (jm Z ?_)))))))))))
 refine jm Z (japv U22 I3 (by decide) Z Z k1 Z (wI (wp wy1)) (by omega) (fun _=>Z) fun v14 _ w2=>ja Z (jn (jbn ?_)))
 exact jag (vis++[y1],v14) ⟨vis_nd hvn hn1,vis_in hvs hy1⟩ (dc d0 dn) (kd kn) ⟨Z,Z,Z,trivial⟩ (by dsimp only[u2];rw[List.length_append];simp;omega)
 exact absurd hc2 (by simp)
structure D.live_flow where
 m:D.MFunc
 ends:List (Option (List Int))
 places:List (List (Option (List Int)))
deriving DecidableEq
instance:Inhabited D.live_flow:=⟨⟨default,[],[]⟩⟩
def rlive_flowN(N:Nat):Rp D.live_flow:=rM (rP (rMFuncN N) (rP (rLn N rSet) (rLn N (rLn N rSet)))) (fun m=>(m.m,m.ends,m.places))
abbrev rlive_flow:Rp D.live_flow:=rlive_flowN 1073741824
theorem rlive_flow.any{N:Nat}{F:PH}{v:Value}{m:D.live_flow}(h:(rlive_flowN N).ra F v m):∃f,(rlive_flowN N).ok F m f:=by obtain⟨l,_,_,h⟩:=h;exact⟨_,h⟩
theorem rlive_flow.open{N:Nat}{F:PH}{v:Value}{m:D.live_flow}(h:(rlive_flowN N).ra F v m):∃c1 c2 c3,v = .agg #[.int .i64 m.m.Params,c1,c2,c3]∧(rLn N (rMBlockN N)).rv F c1 m.m.Blocks∧(rLn N rSet).rv F c2 m.ends∧(rLn N (rLn N rSet)).rv F c3 m.places:=by
 obtain⟨l,rfl,hl,h⟩:=h
 match l,hl with
 | [a0,a1,a2,a3],_ =>
  obtain⟨⟨⟨h0,_⟩,h1⟩,h2,h3⟩:=h
  obtain rfl:a0=_:=h0
  exact⟨a1,a2,a3,rfl,h1,h2,h3⟩
theorem rlive_flow.mk{N:Nat}{F:PH}{m:D.live_flow}{c1:Value}{c2:Value}{c3:Value}(h1:(rLn N (rMBlockN N)).rv F c1 m.m.Blocks)(h2:(rLn N rSet).rv F c2 m.ends)(h3:(rLn N (rLn N rSet)).rv F c3 m.places)(w0:IntKind.i64.wrap m.m.Params=m.m.Params):(rlive_flowN N).ra F (.agg #[.int .i64 m.m.Params,c1,c2,c3]) m:=⟨[.int .i64 m.m.Params,c1,c2,c3],rfl,rfl,⟨⟨⟨rfl,w0⟩,h1⟩,h2,h3⟩⟩
@[reducible] def vlive_flow (m:D.live_flow) (c:Value×Value×Value):Value := .agg #[.int .i64 m.m.Params,c.1,c.2.1,c.2.2]
theorem slive_flow{N:Nat}:Sr (rlive_flowN N) vlive_flow:=⟨fun h=>by obtain⟨c1,c2,c3,e,_,_,_⟩:=rlive_flow.open h;exact⟨(c1,c2,c3),e⟩⟩
theorem rlive_flow.M{N:Nat}{Γ:List Dt}{L:List Res}{m:D.live_flow}{c:Value×Value×Value}(h0:Nd Γ L (dv (rLn N (rMBlockN N)) c.1 m.m.Blocks))(h1:Nd Γ L (dv (rLn N rSet) c.2.1 m.ends))(h2:Nd Γ L (dv (rLn N (rLn N rSet)) c.2.2 m.places))(w0:Wr Γ L .i64 m.m.Params):Nd Γ L (da (rlive_flowN N) (vlive_flow m c) m):=fun F H x y z=>rlive_flow.mk (m:=m) (h0 F H x y z) (h1 F H x y z) (h2 F H x y z) (w0 F H x y z)
abbrev OS:=Option (List Int)
def blkP(x:D.MBlock)(e:List Int):List OS:=(List.range (x.Ins.length+1)).map (fun p=>some (sAt (x.Ins.drop p) (uniS e (nM9 x.End))))
theorem blkP_len{x:D.MBlock}{e:List Int}:(blkP x e).length=x.Ins.length+1:=by simp[blkP]
theorem blkP_ix{x:D.MBlock}{e:List Int}{p:Nat}(h:p≤x.Ins.length):ix (blkP x e) p=some (sAt (x.Ins.drop p) (uniS e (nM9 x.End))):=by
 rw[ix_eq (by rw[blkP_len];omega)];simp[blkP]
theorem blkP_eq{x:D.MBlock}{e:List Int}{R:List OS}(hl:R.length=x.Ins.length+1)(h:∀j,j≤x.Ins.length→ix R j=some (sAt (x.Ins.drop j) (uniS e (nM9 x.End)))):R=blkP x e:=by
 refine List.ext_getElem (by rw[hl,blkP_len]) fun j h1 h2=>?_
 have e1:=h j (by omega)
 have e2:=blkP_ix (x:=x) (e:=e) (p:=j) (by omega)
 rw[ix_eq h1] at e1;rw[ix_eq h2] at e2;rw[e1,e2]
structure FP(bs:List D.MBlock)(E I:List (List Int))(Es:List OS)(vs:List Value)(Ps:List (List OS)):Prop where
 fs:FS bs E I
 es:Es=E.map some
 vl:vs.length=bs.length
 pl:Ps.length=bs.length
 pr:∀b,b<bs.length→(ix Ps b).length=(ix bs b).Ins.length+1∧ix (ix Ps b) 0=some (ix I b)
section
variable{bs:List D.MBlock}{E I:List (List Int)}{Es:List OS}{vs:List Value}{Ps:List (List OS)}
theorem FP.el(h:FP bs E I Es vs Ps):Es.length=bs.length:=by rw[h.es,List.length_map];exact h.fs.le
theorem FP.ee(h:FP bs E I Es vs Ps){b:Nat}(hb:b<bs.length):some (ix E b)=ix Es b:=by
 have h1:b<E.length:=by rw[h.fs.le];exact hb
 rw[h.es,ix_eq (l:=E.map some) (by rw[List.length_map];exact h1),ix_eq (l:=E) h1];simp
theorem FP.pg(h:FP bs E I Es vs Ps){b:Nat}(hb:b<bs.length):Ps.getD b []=ix Ps b∧(Ps.getD b []).length=(ix bs b).Ins.length+1∧some (ix I b)=ix (Ps.getD b []) 0:=⟨rfl,(h.pr b hb).1,(h.pr b hb).2.symm⟩
theorem FP.step(h:FP bs E I Es vs Ps)(hw:WL bs){b:Nat}(hb:b<bs.length):FP bs (E.set b (enS bs I b)) (I.set b (begS bs b (enS bs I b))) (Es.set b (some (enS bs I b))) vs (Ps.set b (blkP (ix bs b) (enS bs I b))) where
 fs:=(h.fs.step hb (hw.t hb)).1
 es:=by rw[h.es,List.map_set]
 vl:=h.vl
 pl:=by rw[List.length_set];exact h.pl
 pr:=fun j hj=>by
  rw[ix_set (by rw[h.pl];exact hb),ixS h.fs.li hb]
  split
  ·rename_i e;subst e
   refine⟨blkP_len,?_⟩
   rw[blkP_ix (Nat.zero_le _),List.drop_zero];rfl
  ·exact h.pr j hj
theorem FS.lenE(h:FS bs E I)(hw:WL bs){b:Nat}(hb:b<bs.length):(ix E b).length≤8192∧(ix I b).length≤8192:=by
 have h1:=ris_len (l:=ix E b) (lo:=0) (hi:=8192) (h.re b hb) (by omega) (fun r hr=>hw.lo (h.so b hb r hr) hb)
 have h2:=ris_len (l:=ix I b) (lo:=0) (hi:=8192) (h.ri b hb) (by omega) (fun r hr=>hw.li hb (h.si b hb r hr))
 omega
theorem FS.lenN(h:FS bs E I)(hw:WL bs){b:Nat}(hb:b<bs.length):(enS bs I b).length≤8192∧(begS bs b (enS bs I b)).length≤8192:=by
 have h1:=(h.step hb (hw.t hb)).1.lenE hw hb
 rw[ix_set (by rw[h.le];exact hb),if_pos rfl,ix_set (by rw[h.li];exact hb),if_pos rfl] at h1
 exact h1
end
theorem Rg.w{y:Int}(h:Rg y):IntKind.i64.wrap y=y:=IntWalk.i64_in _ (by unfold Rg at h;omega)
theorem en_phi{bs:List D.MBlock}{n:Int}{x:D.MBlock}{S:List Int}{k:Nat}(hk:k<x.Phis.length){T:List Int}(hT:T=uniS S ((x.Phis.take k).flatMap (fun p=>(p.In.filter (fun y=>decide (y.From=n))).map (fun y=>y.Val)))){T':List Int}(hT':T'=uniS T (((ix x.Phis k).In.filter (fun y=>decide (y.From=n))).map (fun y=>y.Val))) :
  T'=uniS S ((x.Phis.take (k+1)).flatMap (fun p=>(p.In.filter (fun y=>decide (y.From=n))).map (fun y=>y.Val))):=by
 rw[hT',hT,take_ix hk,List.flatMap_append]
 unfold uniS
 rw[List.foldl_append];simp
theorem en_in{n:Int}{l:List D.In}{T U:List Int}{k:Nat}(hk:k<l.length)(hU:U=uniS T (((l.take k).filter (fun y=>decide (y.From=n))).map (fun y=>y.Val)))(h:(ix l k).From=n):uniS U [(ix l k).Val]=uniS T (((l.take (k+1)).filter (fun y=>decide (y.From=n))).map (fun y=>y.Val)):=by
 rw[hU,take_ix hk,List.filter_append]
 simp only[List.filter_cons,h,decide_true,if_true,List.filter_nil,List.map_append,List.map_cons,List.map_nil]
 unfold uniS;rw[List.foldl_append]
theorem en_no{n:Int}{l:List D.In}{T U:List Int}{k:Nat}(hk:k<l.length)(hU:U=uniS T (((l.take k).filter (fun y=>decide (y.From=n))).map (fun y=>y.Val)))(h:¬(ix l k).From=n):U=uniS T (((l.take (k+1)).filter (fun y=>decide (y.From=n))).map (fun y=>y.Val)):=by
 rw[hU,take_ix hk,List.filter_append]
 simp[h]
theorem del_one{S:List Int}{l:List D.Phi}{k:Nat}(hk:k<l.length){T:List Int}(hT:T=delS S ((l.take k).map (fun p=>p.Dst))):delS T [(ix l k).Dst]=delS S ((l.take (k+1)).map (fun p=>p.Dst)):=by
 rw[hT,take_ix hk,List.map_append];unfold delS;rw[List.foldl_append];rfl
theorem uni_vis{e A vis:List Int}{x:Int}{T:List Int}(hT:Ris T∧∀y,y∈T↔y∈e∨y∈vis):Ris (uniS T [x])∧∀y,y∈uniS T [x]↔y∈e∨y∈vis++[x]:=by
 refine⟨uniS_ris hT.1,fun y=>?_⟩
 rw[uniS_mem,hT.2,List.mem_append]
 constructor
 ·rintro((h|h)|h)
  ·exact .inl h
  ·exact .inr (.inl h)
  ·exact .inr (.inr h)
 ·rintro(h|h|h)
  ·exact .inl (.inl h)
  ·exact .inl (.inr h)
  ·exact .inr h
theorem uni_all{e A vis T:List Int}(he:Ris e)(hT:Ris T∧∀y,y∈T↔y∈e∨y∈vis)(h:∀y,y∈vis↔y∈A):T=uniS e A:=ris_ext hT.1 (uniS_ris he) (fun y=>by rw[hT.2,uniS_mem,h])
theorem things_code:∀(bs:List D.MBlock) (b:Nat) (n:Int) (t:Int×Int×Int),thingsW n b bs=some t→t.1≠0:=by
 intro bs
 induction bs with
 | nil=>intro b n t h;cases h
 | cons x l ih =>
  intro b n t h
  rw[thingsW] at h
  cases hb:blockW n x with
  | none=>rw[hb] at h;exact ih _ _ _ h
  | some u =>
   rw[hb] at h
   cases h
   show u.1≠0
   unfold blockW at hb
   have hp:∀(P l:List D.Phi) (k:Nat) (u:Int×Int),phiW P k l=some u→u.1≠0:=by
    intro P l
    induction l with
    | nil=>intro k u h;cases h
    | cons p l ih2=>intro k u h;rw[phiW] at h;split at h;(· exact ih2 _ _ h);cases h;assumption
   have hi:∀(l:List D.Mach) (k:Nat) (u:Int×Int),insW k l=some u→u.1≠0:=by
    intro l
    induction l with
    | nil=>intro k u h;cases h
    | cons p l ih2=>intro k u h;rw[insW] at h;split at h;(· exact ih2 _ _ h);cases h;assumption
   cases h1:phiW x.Phis 0 x.Phis with
   | some t=>rw[h1] at hb;cases hb;exact hp _ _ _ _ h1
   | none =>
    rw[h1] at hb
    cases h2:insW 0 x.Ins with
    | some t=>rw[h2] at hb;cases hb;exact hi _ _ _ h2
    | none =>
     rw[h2] at hb
     by_cases h3:endE x.End n=0
     ·simp only[if_pos h3] at hb;cases hb
     ·simp only[if_neg h3] at hb;cases hb;exact h3
theorem cntB_mem:∀{l:List D.MBlock} {x:D.MBlock},x∈l→(x.Ins.length:Int)≤cntB l∧0≤cntB l
 | y::l,x,h=>by
  have h0:0≤cntB l:=by cases l with|nil=>exact Int.le_refl _|cons z l=>exact(cntB_mem (x:=z) (by simp)).2
  rw[cntB]
  rcases List.mem_cons.1 h with rfl|h
  ·omega
  ·have:=cntB_mem h;omega
theorem right_none{m:D.MFunc}(h:rightM m=true):thingsW m.Blocks.length 0 m.Blocks=none∧cntB m.Blocks≤16384:=by
 unfold rightM at h
 rw[decide_eq_true_eq] at h
 unfold funcM at h
 split at h
 ·cases h
 split at h
 ·cases h
 split at h
 ·cases h
 rename_i h1 h2 h3
 cases ht:thingsW m.Blocks.length 0 m.Blocks with
 | some t=>rw[ht] at h;exact absurd h (things_code _ _ _ _ ht)
 | none=>exact⟨rfl,by omega⟩
theorem right_wl{m:D.MFunc}(h:rightM m=true):WL m.Blocks where
 to:=fun b hb=>((right_wf h).to _ (ix_mem hb)).2
 rg:=fun b hb=>by
  obtain⟨h1,h2,h3⟩:=things_none _ _ (right_none h).1 (ix m.Blocks b) (ix_mem hb)
  refine⟨fun i hi=>?_,?_,fun p hp=>?_⟩
  ·have h9:=insW_none h2 i hi
   unfold insE at h9
   split at h9
   ·cases h9
   split at h9
   ·cases h9
   rename_i ha hb
   simp only[not_or,Bool.not_eq_false] at hb
   exact⟨regM_all hb.2,regM_all hb.1⟩
  ·unfold endE at h3
   split at h3
   ·cases h3
   split at h3
   ·cases h3
   rename_i hb
   exact regM_all (by simpa using hb)
  ·obtain⟨j,hj⟩:=phiW_none h1 p hp
   unfold phiE at hj
   split at hj
   ·cases hj
   rename_i h5
   simp only[not_or,Bool.not_eq_false,Bool.not_eq_true] at h5
   refine⟨regM_all h5.1 p.Dst (by simp),fun x hx=>?_⟩
   have h6:=h5.2
   unfold anyM at h6
   rw[List.any_eq_false] at h6
   have h7:=h6 x hx
   simp only[Bool.not_eq_true,Bool.not_eq_false'] at h7
   exact regM_all h7 x.Val (by simp)
theorem right_ins{m:D.MFunc}(h:rightM m=true):∀b,b<m.Blocks.length→(ix m.Blocks b).Ins.length<1000000:=fun b hb=>by
 have h1:=(cntB_mem (ix_mem (l:=m.Blocks) hb)).1
 have h2:=(right_none h).2
 omega
def plM(bs:List D.MBlock):List (List OS):=(List.range bs.length).map (fun b=>blkP (ix bs b) (ix (loE bs) b))
def blkC(bs:List D.MBlock)(E I:List (List Int))(n:Nat):Bool:=!decide (((enS bs I n).length:Int)+((begS bs n (enS bs I n)).length:Int)=((ix E n).length:Int)+((ix I n).length:Int))
structure OL(bs:List D.MBlock)(p:Nat)(c:Bool)(t0:Nat)(E I:List (List Int))(Es:List OS)(vs:List Value)(Ps:List (List OS)):Prop where
 fp:FP bs E I Es vs Ps
 le:t0≤tot E+tot I
 lt:c=true→t0<tot E+tot I
 fx:c=false→∀j,p≤j→j<bs.length→Fix bs E I j∧ix Ps j=blkP (ix bs j) (ix E j)
section
variable{bs:List D.MBlock}{E I:List (List Int)}{Es:List OS}{vs:List Value}{Ps:List (List OS)}{t0 p:Nat}{c:Bool}
theorem OL.step(h:OL bs p c t0 E I Es vs Ps)(hw:WL bs)(hp:0<p)(hp2:p≤bs.length){c':Bool}(hc:c'=(blkC bs E I (p-1)||c)) :
  OL bs (p-1) c' t0 (E.set (p-1) (enS bs I (p-1))) (I.set (p-1) (begS bs (p-1) (enS bs I (p-1)))) (Es.set (p-1) (some (enS bs I (p-1)))) vs (Ps.set (p-1) (blkP (ix bs (p-1)) (enS bs I (p-1)))):=by
 have hb:p-1<bs.length:=by omega
 obtain⟨g1,g2,g3⟩:=h.fp.fs.grow hb (hw.t hb)
 have hl:=h.le
 refine⟨h.fp.step hw hb,by omega,fun hc'=>?_,fun hc'=>?_⟩
 ·rw[hc',eq_comm,Bool.or_eq_true] at hc
  rcases hc with hc|hc
  ·unfold blkC at hc
   simp only[Bool.not_eq_true',decide_eq_false_iff_not] at hc
   have:=g3 (by omega);omega
  ·have:=h.lt hc;omega
 ·rw[hc',eq_comm,Bool.or_eq_false_iff] at hc
  obtain⟨hc,hc2⟩:=hc
  unfold blkC at hc
  simp only[Bool.not_eq_false',decide_eq_true_eq] at hc
  obtain⟨f1,f2,f3⟩:=g2 (by omega)
  rw[f2,f3]
  intro j hj hj2
  rw[ix_set (by rw[h.fp.pl];exact hb)]
  split
  ·rename_i e;subst e
   refine⟨f1,?_⟩
   have e2:enS bs I (p-1)=ix E (p-1):=by
    have e3:ix (E.set (p-1) (enS bs I (p-1))) (p-1)=enS bs I (p-1):=by rw[ix_set (by rw[h.fp.fs.le];exact hb),if_pos rfl]
    rw[f2] at e3;exact e3.symm
   rw[e2]
  ·exact h.fx hc2 j (by omega) hj2
theorem OL.beg(h:FP bs E I Es vs Ps):OL bs bs.length false (tot E+tot I) E I Es vs Ps:=⟨h,Nat.le_refl _,fun h=>(by cases h),fun _ j h1 h2=>by omega⟩
theorem FP.done(h:FP bs E I Es vs Ps)(hw:WL bs)(hx:∀j,j<bs.length→Fix bs E I j∧ix Ps j=blkP (ix bs j) (ix E j)):E=loE bs∧Es=(loE bs).map some∧Ps=plM bs:=by
 have e:E=loE bs:=h.fs.eq hw (fun j hj=>(hx j hj).1)
 refine⟨e,by rw[h.es,e],?_⟩
 refine List.ext_getElem (by rw[h.pl];simp[plM]) fun j h1 h2=>?_
 have h3:=(hx j (by rw[←h.pl];exact h1)).2
 rw[ix_eq h1] at h3
 rw[h3,e];simp[plM]
theorem FP.beg(hv:vs.length=bs.length)(hp:Ps.length=bs.length)(hE:Es=List.replicate bs.length (some []))(hr:∀b,b<bs.length→(ix Ps b).length=(ix bs b).Ins.length+1∧ix (ix Ps b) 0=some []) :
  FP bs (List.replicate bs.length []) (List.replicate bs.length []) Es vs Ps where
 fs:=FS.start
 es:=by rw[hE];simp
 vl:=hv
 pl:=hp
 pr:=fun b hb=>⟨(hr b hb).1,by rw[(hr b hb).2,ixN]⟩
theorem FP.small(h:FP bs E I Es vs Ps)(hw:WL bs):tot E+tot I≤16384*bs.length:=h.fs.small hw
end
theorem plM_len{bs:List D.MBlock}:(plM bs).length=bs.length:=by simp[plM]
theorem plM_ix{bs:List D.MBlock}{b:Nat}(h:b<bs.length):ix (plM bs) b=blkP (ix bs b) (ix (loE bs) b):=by
 rw[ix_eq (by rw[plM_len];exact h)];simp[plM]
theorem plM_mem{bs:List D.MBlock}(hi:∀b,b<bs.length→(ix bs b).Ins.length<1000000):∀l∈plM bs,l.length<1073741824:=fun l hl=>by
 obtain⟨b,hb,e⟩:=List.mem_map.1 hl
 rw[←e,blkP_len];have:=hi b (by simpa using hb);omega
theorem getD_last{α:Type}{l:List α}{x d:α}{k:Nat}(h:l.length=k):(l++[x]).getD k d=x:=by
 subst h;simp
theorem row_more{bs:List D.MBlock}{Ps:List (List OS)}{k q:Nat}(hl:Ps.length=k)(hk:k<bs.length)(hq:q=(ix bs k).Ins.length+1)(h:∀b,b<k→(ix Ps b).length=(ix bs b).Ins.length+1∧ix (ix Ps b) 0=some []) :
  ∀b,b<k+1→(ix ((Ps++[List.replicate q none]).set k (((Ps++[List.replicate q none]).getD k []).set 0 (some []))) b).length=(ix bs b).Ins.length+1 ∧
   ix (ix ((Ps++[List.replicate q none]).set k (((Ps++[List.replicate q none]).getD k []).set 0 (some []))) b) 0=some []:=fun b hb=>by
 rw[getD_last hl,ix_set (by simp;omega)]
 split
 ·rename_i e;subst e
  refine⟨by simp[hq],?_⟩
  rw[ix_set (by simp;omega),if_pos rfl]
 ·have e:ix (Ps++[List.replicate q none]) b=ix Ps b:=by
   rw[ix_eq (by simp;omega),ix_eq (l:=Ps) (by omega),List.getElem_append_left]
  rw[e];exact h b (by omega)
def thereM(m:D.MFunc)(b p:Int):Bool:=rightM m&&decide (0≤b)&&decide (b<m.Blocks.length)&&decide (0≤p)&&decide (p≤(ix m.Blocks (Int.toNat b)).Ins.length)
def sumB:List D.MBlock→Int
 | []=>0
 | x::l=>x.Ins.length+1+sumB l
theorem sumB_append:∀(l k:List D.MBlock),sumB (l++k)=sumB l+sumB k
 | [],k=>by simp[sumB]
 | x::l,k=>by rw[List.cons_append,sumB,sumB_append l k,sumB];omega
theorem sumB_next{l:List D.MBlock}{k:Nat}(h:k<l.length):sumB (l.take (k+1))=sumB (l.take k)+((ix l k).Ins.length+1):=by
 rw[take_ix h,sumB_append,sumB,sumB];omega
theorem sumB_bd{l:List D.MBlock}(h:∀b,b<l.length→(ix l b).Ins.length<1000000):∀k,k≤l.length→0≤sumB (l.take k)∧sumB (l.take k)≤1000000*k
 | 0,_=>by simp[sumB]
 | k+1,hk=>by
  have h1:=sumB_bd h k (by omega)
  have h2:=h k (by omega)
  rw[sumB_next (by omega)];omega
def numM(m:D.MFunc)(b p:Int):Int:=if thereM m b p=true then p+sumB (m.Blocks.take (Int.toNat b)) else -1
theorem there_yes{m:D.MFunc}{b p:Int}(h:thereM m b p=true):rightM m=true∧0≤b∧b<m.Blocks.length∧0≤p∧p≤(ix m.Blocks (Int.toNat b)).Ins.length:=by
 unfold thereM at h
 simp only[Bool.and_eq_true,decide_eq_true_eq] at h
 exact⟨h.1.1.1.1,h.1.1.1.2,h.1.1.2,h.1.2,h.2⟩
theorem there_mk{m:D.MFunc}{b p:Int}(h:rightM m=true∧0≤b∧b<m.Blocks.length∧0≤p∧p≤(ix m.Blocks (Int.toNat b)).Ins.length):thereM m b p=true:=by
 unfold thereM
 simp only[Bool.and_eq_true,decide_eq_true_eq]
 exact⟨⟨⟨⟨h.1,h.2.1⟩,h.2.2.1⟩,h.2.2.2.1⟩,h.2.2.2.2⟩
def rowQ(a b:List Int):Bool:=decide (a=b)
theorem row_ix{a b:List Int}(hl:a.length=b.length)(h:∀j,j<a.length→ix a j=ix b j):a=b:=List.ext_getElem hl fun j h1 h2=>by
 have:=h j h1;rw[ix_eq h1,ix_eq h2] at this;exact this
theorem tmod_in{n k:Int}(h:0<k):-k<Int.tmod n k∧Int.tmod n k<k:=by
 have h1:=Int.tmod_lt_of_pos n h
 have h2:=Int.tmod_lt_of_pos (-n) h
 rw[Int.neg_tmod] at h2
 omega
theorem sAt_rg{now:List Int}(hn:∀y∈now,Rg y):∀{l:List D.Mach},(∀i∈l,∀r∈takesM i,Rg r)→∀y∈sAt l now,Rg y
 | [],_,y,hy=>hn y hy
 | i::l,h,y,hy=>by
  rw[sAt,uniS_mem,delS_mem] at hy
  rcases hy with hy|hy
  ·exact sAt_rg hn (fun j hj=>h j (by simp[hj])) y hy.1
  ·exact h i (by simp) y hy
def atE(bs:List D.MBlock)(b p:Nat):List Int:=sAt ((ix bs b).Ins.drop p) (uniS (ix (loE bs) b) (nM9 (ix bs b).End))
structure SOk(S:List Int):Prop where
 w:∀y∈S,IntKind.i64.wrap y=y
 n:S.length<1000000
 r:Ris S
 g:∀y∈S,Rg y
theorem SOk.mk'{S:List Int}(h1:Ris S)(h2:∀y∈S,Rg y):SOk S:=⟨fun y hy=>(h2 y hy).w,by
 have:=ris_len (l:=S) (lo:=0) (hi:=8192) h1 (by omega) h2;omega,h1,h2⟩
section
variable{bs:List D.MBlock}
theorem loE_ok(hw:WL bs){b:Nat}(hb:b<bs.length):SOk (ix (loE bs) b) := .mk' (loE_ris hw hb) fun y hy=>hw.lo ((loE_mem hw hb).1 hy) hb
theorem at_ok(hw:WL bs){b p:Nat}(hb:b<bs.length):SOk (atE bs b p) := .mk' (sAt_ris (uniS_ris (loE_ris hw hb))) (sAt_rg (fun y hy=>by
 rw[uniS_mem] at hy
 rcases hy with hy|hy
 ·exact(loE_ok hw hb).g y hy
 ·exact(hw.rg b hb).2.1 y hy) (fun i hi=>((hw.rg b hb).1 i (List.mem_of_mem_drop hi)).1))
theorem at_some{b:Nat}(hb:b<bs.length){p:Nat}(hp:p≤(ix bs b).Ins.length):some (atE bs b p)=ix (ix (plM bs) b) p:=by
 rw[plM_ix hb,blkP_ix hp];rfl
theorem pl_len{b:Nat}(hb:b<bs.length):(ix (plM bs) b).length=(ix bs b).Ins.length+1:=by rw[plM_ix hb,blkP_len]
end
def atM(m:D.MFunc)(b p:Int):List Int:=if thereM m b p=true then atE m.Blocks (Int.toNat b) (Int.toNat p) else []
theorem numM_neg{m:D.MFunc}{b p:Int}:(numM m b p<0→thereM m b p=false)∧(¬numM m b p<0→thereM m b p=true):=by
 unfold numM
 by_cases h:thereM m b p=true
 ·rw[if_pos h]
  obtain⟨h1,h2,h3,h4,h5⟩:=there_yes h
  have:=sumB_bd (l:=m.Blocks) (right_ins h1) (Int.toNat b) (by omega)
  exact⟨fun h9=>by omega,fun _=>h⟩
 ·rw[if_neg h];exact⟨fun _=>by simpa using h,fun h9=>by omega⟩
def setsI(m:D.MFunc):List (List Int):=if rightM m=true then (List.range m.Blocks.length).map (fun b=>atE m.Blocks b 0) else []
def setsO(m:D.MFunc):List (List Int):=if rightM m=true then loE m.Blocks else []
def hasE(m:D.MFunc)(b p:Nat):List Int :=
 if 0<p then uniS (atE m.Blocks b p) (makesM (ix (ix m.Blocks b).Ins (p-1)))
 else if b=0 then uniS (uniS (atE m.Blocks b p) (dsts (ix m.Blocks b))) ((List.range (Int.toNat m.Params)).map (fun r:Nat=>(r:Int)))
 else uniS (atE m.Blocks b p) (dsts (ix m.Blocks b))
theorem uniS_one{S:List Int}{xs:List Int}{x:Int}:uniS (uniS S xs) [x]=uniS S (xs++[x]):=by unfold uniS;rw[List.foldl_append]
def preP(m:D.MFunc)(b p:Nat):List (Nat×Nat):=(List.range b).flatMap (fun b=>(List.range ((ix m.Blocks b).Ins.length+1)).map (fun p=>(b,p)))++(List.range p).map (fun p=>(b,p))
theorem preP_next{m:D.MFunc}{b p:Nat}:preP m b (p+1)=preP m b p++[(b,p)]:=by
 unfold preP;rw[List.range_succ,List.map_append,List.append_assoc];rfl
theorem preP_blk{m:D.MFunc}{b:Nat}:preP m (b+1) 0=preP m b ((ix m.Blocks b).Ins.length+1):=by
 unfold preP;rw[List.range_succ,List.flatMap_append];simp
def stM{σ:Type}(f:σ→Nat→List Int→σ)(m:D.MFunc)(b p:Nat)(s:σ):σ:=(preP m b p).zipIdx.foldl (fun s x=>f s x.2 (hasE m x.1.1 x.1.2)) s
theorem stM_next{σ:Type}{f:σ→Nat→List Int→σ}{m:D.MFunc}{b p:Nat}{s:σ}:stM f m b (p+1) s=f (stM f m b p s) (preP m b p).length (hasE m b p):=by
 unfold stM;rw[preP_next,List.zipIdx_append,List.foldl_append];simp
theorem stM_blk{σ:Type}{f:σ→Nat→List Int→σ}{m:D.MFunc}{b:Nat}{s:σ}:stM f m (b+1) 0 s=stM f m b ((ix m.Blocks b).Ins.length+1) s:=by unfold stM;rw[preP_blk]
theorem preP_len{m:D.MFunc}{b p:Nat}:(preP m b (p+1)).length=(preP m b p).length+1:=by rw[preP_next];simp
theorem preP_bd{m:D.MFunc}(h:∀b,b<m.Blocks.length→(ix m.Blocks b).Ins.length<1000000):∀{b:Nat},b≤m.Blocks.length→(preP m b 0).length≤1000000*b
 | 0,_=>by simp[preP]
 | b+1,hb=>by
  have h1:=preP_bd h (b:=b) (by omega)
  have h2:=h b (by omega)
  have h3:∀p,(preP m b p).length=(preP m b 0).length+p:=fun p=>by
   induction p with
   | zero=>rfl
   | succ p ih=>rw[preP_len,ih];omega
  rw[preP_blk,h3];omega
theorem preP_bd2{m:D.MFunc}(h:∀b,b<m.Blocks.length→(ix m.Blocks b).Ins.length<1000000){b p:Nat}(hb:b<m.Blocks.length)(hp:p≤1000000)(hn:m.Blocks.length≤512):(preP m b p).length≤1000000000:=by
 have h1:=preP_bd h (b:=b) (by omega)
 have h3:∀p,(preP m b p).length=(preP m b 0).length+p:=fun p=>by
  induction p with
  | zero=>rfl
  | succ p ih=>rw[preP_len,ih];omega
 rw[h3];omega
def mostS(s:Int)(_:Nat)(S:List Int):Int:=max s S.length
def togS(a b:Int)(s:Bool)(_:Nat)(S:List Int):Bool:=s||(decide (a∈S)&&decide (b∈S))
def mostM(m:D.MFunc):Int:=if rightM m=true then stM mostS m m.Blocks.length 0 0 else 0
def togM(m:D.MFunc)(a b:Int):Bool:=if rightM m=true then stM (togS a b) m m.Blocks.length 0 false else false
structure D.Range where
 From:Int
 To:Int
deriving DecidableEq
instance:Inhabited D.Range:=⟨⟨0,0⟩⟩
def rRange:Rp D.Range:=rM (rP (rI .i64) (rI .i64)) (fun m=>(m.From,m.To))
theorem rRange.open{F:PH}{v:Value}{m:D.Range}(h:rRange.ra F v m):v = .agg #[.int .i64 m.From,.int .i64 m.To]:=by
 obtain⟨l,rfl,hl,h⟩:=h
 match l,hl with
 | [a0,a1],_ =>
  obtain⟨⟨h0,_⟩,⟨h1,_⟩⟩:=h
  obtain rfl:a0=_:=h0
  obtain rfl:a1=_:=h1
  exact rfl
theorem rRange.mk{F:PH}{m:D.Range}(w0:IntKind.i64.wrap m.From=m.From)(w1:IntKind.i64.wrap m.To=m.To):rRange.ra F (.agg #[.int .i64 m.From,.int .i64 m.To]) m:=⟨[.int .i64 m.From,.int .i64 m.To],rfl,rfl,⟨⟨rfl,w0⟩,⟨rfl,w1⟩⟩⟩
structure D.Bo9 where
 In:List (List Int)
 Out:List (List Int)
deriving DecidableEq
instance:Inhabited D.Bo9:=⟨⟨[],[]⟩⟩
def rBo9N(N:Nat):Rp D.Bo9:=rM (rP (rLn N (rLn N (rI .i64))) (rLn N (rLn N (rI .i64)))) (fun m=>(m.In,m.Out))
abbrev rBo9:Rp D.Bo9:=rBo9N 1073741824
theorem rBo9.at_In{N:Nat}{F:PH}{b o:Nat}{m:D.Bo9}(h:At F (rBo9N N) b o m):At F (rLn N (rLn N (rI .i64))) b (o+0) m.In:=At.part 0 h (Nat.le_of_ble_eq_true rfl) (fun _ h=>h.1)
theorem rBo9.any{N:Nat}{F:PH}{v:Value}{m:D.Bo9}(h:(rBo9N N).ra F v m):∃f,(rBo9N N).ok F m f:=by obtain⟨l,_,_,h⟩:=h;exact⟨_,h⟩
theorem rBo9.open{N:Nat}{F:PH}{v:Value}{m:D.Bo9}(h:(rBo9N N).ra F v m):∃c0 c1,v = .agg #[c0,c1]∧(rLn N (rLn N (rI .i64))).rv F c0 m.In∧(rLn N (rLn N (rI .i64))).rv F c1 m.Out:=by
 obtain⟨l,rfl,hl,h⟩:=h
 match l,hl with
 | [a0,a1],_ =>
  obtain⟨h0,h1⟩:=h
  exact⟨a0,a1,rfl,h0,h1⟩
theorem rBo9.mk{N:Nat}{F:PH}{m:D.Bo9}{c0:Value}{c1:Value}(h0:(rLn N (rLn N (rI .i64))).rv F c0 m.In)(h1:(rLn N (rLn N (rI .i64))).rv F c1 m.Out)  : (rBo9N N).ra F (.agg #[c0,c1]) m:=⟨[c0,c1],rfl,rfl,⟨h0,h1⟩⟩
@[reducible] def vRange (m:D.Range) (c:Unit):Value := .agg #[.int .i64 m.From,.int .i64 m.To]
theorem sRange:Sr rRange vRange:=⟨fun h=>⟨(),rRange.open h⟩⟩
theorem rRange.M{Γ:List Dt}{L:List Res}{m:D.Range}{c:Unit}(w0:Wr Γ L .i64 m.From)(w1:Wr Γ L .i64 m.To):Nd Γ L (da rRange (vRange m c) m):=fun F H x y z=>rRange.mk (m:=m) (w0 F H x y z) (w1 F H x y z)
@[reducible] def vBo9 (m:D.Bo9) (c:Value×Value):Value := .agg #[c.1,c.2]
theorem sBo9{N:Nat}:Sr (rBo9N N) vBo9:=⟨fun h=>by obtain⟨c0,c1,e,_,_⟩:=rBo9.open h;exact⟨(c0,c1),e⟩⟩
theorem rBo9.c_In{N:Nat}{Γ:List Dt}{L:List Res}{m:D.Bo9}{c:Value×Value}(h:Nd Γ L (da (rBo9N N) (vBo9 m c) m)):Nd Γ L (dv (rLn N (rLn N (rI .i64))) c.1 m.In):=fun F H x y z=>leaf1 rfl ((ra_ok (h F H x y z)).1) rfl
theorem rBo9.A_In{N:Nat}{Γ:List Dt}{L:List Res}{b o:Nat}{m:D.Bo9}(h:Nd Γ L (ad (rBo9N N) b o m)):Nd Γ L (ad (rLn N (rLn N (rI .i64))) b (o+0) m.In):=fun F H x y z=>rBo9.at_In (h F H x y z)
theorem rBo9.M{N:Nat}{Γ:List Dt}{L:List Res}{m:D.Bo9}{c:Value×Value}(h0:Nd Γ L (dv (rLn N (rLn N (rI .i64))) c.1 m.In))(h1:Nd Γ L (dv (rLn N (rLn N (rI .i64))) c.2 m.Out))  : Nd Γ L (da (rBo9N N) (vBo9 m c) m):=fun F H x y z=>rBo9.mk (m:=m) (h0 F H x y z) (h1 F H x y z)
def rngS(r:Int)(l:List D.Range)(n:Nat)(S:List Int):List D.Range :=
 if r∈S then (if 0<l.length∧(ix l (l.length-1)).To=n then l.set (l.length-1) { ix l (l.length-1) with To:=(n:Int)+1 } else l++[⟨(n:Int),(n:Int)+1⟩]) else l
def rangesM(m:D.MFunc)(r:Int):List D.Range:=if rightM m=true then stM (rngS r) m m.Blocks.length 0 [] else []
theorem rngS_len(r:Int)(l:List D.Range)(n:Nat)(S:List Int):(rngS r l n S).length≤l.length+1:=by
 unfold rngS
 repeat' split
 all_goals simp
theorem stR_len{m:D.MFunc}{r:Int}{b p:Nat}:(stM (rngS r) m b p []).length≤(preP m b p).length:=by
 unfold stM
 have h:∀(q:List ((Nat×Nat)×Nat)) (l:List D.Range),(q.foldl (fun s x=>rngS r s x.2 (hasE m x.1.1 x.1.2)) l).length≤l.length+q.length:=by
  intro q
  induction q with
  | nil=>intro l;simp
  | cons x q ih=>intro l;have h1:=ih (rngS r l x.2 (hasE m x.1.1 x.1.2));have h2:=rngS_len r l x.2 (hasE m x.1.1 x.1.2);simp only[List.foldl_cons,List.length_cons];omega
 have h1:=h (preP m b p).zipIdx []
 simpa using h1
def hasL(l:List Int)(r:Int):Bool:=decide (r∈l)
theorem has_no{l:List Int}{r:Int}(h:∀j,j<l.length→¬ix l j=r):hasL l r=false:=decide_eq_false fun h9=>by
 obtain⟨j,hj,e⟩:=List.getElem_of_mem h9
 exact h j hj (by rw[ix_eq hj];exact e)
theorem has_yes{l:List Int}{r:Int}{j:Nat}(hj:j<l.length)(h:ix l j=r):hasL l r=true:=decide_eq_true (by rw[←h];exact ix_mem hj)
def inM(fr r:Int)(y:D.In):Bool:=decide (y.From=fr)&&decide (y.Val=r)
def phiA(l:List D.Phi)(fr r:Int):Bool:=l.any (fun p=>p.In.any (inM fr r))
def phiD(l:List D.Phi)(r:Int):Bool:=l.any (fun p=>decide (p.Dst=r))
theorem phiA_iff{x:D.MBlock}{fr r:Int}:phiA x.Phis fr r=decide (r∈phiT x fr):=by
 unfold phiA phiT
 rw[Bool.eq_iff_iff,List.any_eq_true,decide_eq_true_eq,List.mem_flatMap]
 constructor
 ·rintro⟨p,hp,h⟩
  rw[List.any_eq_true] at h
  obtain⟨y,hy,h⟩:=h
  unfold inM at h
  simp only[Bool.and_eq_true,decide_eq_true_eq] at h
  exact⟨p,hp,List.mem_map.2 ⟨y,List.mem_filter.2 ⟨hy,by simpa using h.1⟩,h.2⟩⟩
 ·rintro⟨p,hp,h⟩
  obtain⟨y,hy,e⟩:=List.mem_map.1 h
  obtain⟨h1,h2⟩:=List.mem_filter.1 hy
  refine⟨p,hp,List.any_eq_true.2 ⟨y,h1,?_⟩⟩
  unfold inM;simp only[Bool.and_eq_true,decide_eq_true_eq]
  exact⟨by simpa using h2,e⟩
theorem phiD_iff{x:D.MBlock}{r:Int}:phiD x.Phis r=decide (r∈dsts x):=by
 unfold phiD dsts
 rw[Bool.eq_iff_iff,List.any_eq_true,decide_eq_true_eq,List.mem_map]
 simp only[decide_eq_true_eq]
def edgeB(bs:List D.MBlock)(os:List Bool)(b:Nat)(to r:Int):Bool :=
 phiA (ix bs to.toNat).Phis b r||(backB (ix bs to.toNat) 0 r (ix os to.toNat)&&!phiD (ix bs to.toNat).Phis r)
structure OS9(bs:List D.MBlock)(r:Int)(os:List Bool):Prop where
 n:os.length=bs.length
 s:∀b,b<bs.length→ix os b=true→LO bs b r
theorem edgeB_lo{bs:List D.MBlock}{r:Int}{os:List Bool}(h:OS9 bs r os)(hw:WL bs){b:Nat}(hb:b<bs.length){to:Int}(ht:to∈(ix bs b).End.To)(he:edgeB bs os b to r=true):LO bs b r:=by
 unfold edgeB at he
 rw[phiA_iff,phiD_iff,Bool.or_eq_true,Bool.and_eq_true,Bool.not_eq_true',decide_eq_true_eq,decide_eq_false_iff_not] at he
 rcases he with he|⟨h1,h2⟩
 ·exact .phi ht he
 ·rcases backB_or h1 with h3|⟨h3,h4⟩
  ·exact .gen ht h2 h3
  ·exact .thru ht h2 h4 (h.s _ (hw.t hb to ht) h3)
theorem OS9.set{bs:List D.MBlock}{r:Int}{os:List Bool}(h:OS9 bs r os)(hw:WL bs){b:Nat}(hb:b<bs.length){to:Int}(ht:to∈(ix bs b).End.To)(he:edgeB bs os b to r=true):OS9 bs r (os.set b true) where
 n:=by rw[List.length_set];exact h.n
 s:=fun j hj h2=>by
  rw[ix_set (by rw[h.n];exact hb)] at h2
  split at h2
  ·rename_i e;subst e;exact edgeB_lo h hw hb ht he
  ·exact h.s j hj h2
theorem OS9.done{bs:List D.MBlock}{r:Int}{os:List Bool}(h:OS9 bs r os)(hw:WL bs)(hc:∀b,b<bs.length→ix os b=false→∀to∈(ix bs b).End.To,edgeB bs os b to r=false){b:Nat}(hL:LO bs b r):b<bs.length→ix os b=true:=by
 have key:∀{b:Nat} {to:Int},b<bs.length→to∈(ix bs b).End.To→edgeB bs os b to r=true→ix os b=true:=fun {b to} hb ht he=>by
  cases h9:ix os b with
  | true=>rfl
  | false=>rw[hc b hb h9 to ht] at he;cases he
 induction hL with
 | @phi b to r ht h1=>exact fun hb=>key hb ht (by unfold edgeB;rw[phiA_iff,decide_eq_true h1,Bool.true_or])
 | @gen b to r ht h1 h2=>exact fun hb=>key hb ht (by
   unfold edgeB;rw[phiD_iff,decide_eq_false h1,backB_up (fun h=>by cases h) h2];simp)
 | @thru b to r ht h1 h2 _ ih=>exact fun hb=>key hb ht (by
   unfold edgeB;rw[phiD_iff,decide_eq_false h1,ih h hc key (hw.t hb to ht),h2];simp)
def outsM(m:D.MFunc)(r:Int):List Bool:=(List.range m.Blocks.length).map (fun b=>decide (r∈ix (loE m.Blocks) b))
theorem outs_len{m:D.MFunc}{r:Int}:(outsM m r).length=m.Blocks.length:=by simp[outsM]
theorem outs_ix{m:D.MFunc}{r:Int}{b:Nat}(hb:b<m.Blocks.length):ix (outsM m r) b=decide (r∈ix (loE m.Blocks) b):=by
 rw[ix_eq (by rw[outs_len];exact hb)];simp[outsM]
theorem OS9.eq{m:D.MFunc}{r:Int}{os:List Bool}(h:OS9 m.Blocks r os)(hw:WL m.Blocks)(hc:∀b,b<m.Blocks.length→ix os b=false→∀to∈(ix m.Blocks b).End.To,edgeB m.Blocks os b to r=false):os=outsM m r:=by
 refine List.ext_getElem (by rw[h.n,outs_len]) fun j h1 h2=>?_
 have hj:j<m.Blocks.length:=by rw[←h.n];exact h1
 have e1:=outs_ix (r:=r) hj
 rw[ix_eq h2] at e1
 rw[e1,Bool.eq_iff_iff,decide_eq_true_eq,loE_mem hw hj,←ix_eq h1]
 exact⟨h.s j hj,fun h9=>h.done hw hc h9 hj⟩
def cntO:List Bool→Nat
 | []=>0
 | x::l=>(if x=true then 1 else 0)+cntO l
theorem cntO_set:∀{l:List Bool} {b:Nat},b<l.length→ix l b=false→cntO (l.set b true)=cntO l+1
 | [],b,h,_=>by cases h
 | x::l,0,_,h=>by
  have h':x=false:=h
  subst h';simp[cntO];omega
 | x::l,b+1,h,h2=>by
  have h3:=cntO_set (l:=l) (b:=b) (by simpa using h) (by simpa[ix] using h2)
  rw[List.set_cons_succ,cntO,h3,cntO];omega
structure RD(bs:List D.MBlock)(r:Int)(p:Nat)(c:Bool)(t0:Nat)(os:List Bool):Prop where
 o:OS9 bs r os
 le:t0≤cntO os
 lt:c=true→t0<cntO os
 fx:c=false→∀j,j<p→ix os j=false→∀to∈(ix bs j).End.To,edgeB bs os j to r=false
theorem RD.beg{bs:List D.MBlock}{r:Int}{os:List Bool}(h:OS9 bs r os):RD bs r 0 false (cntO os) os:=⟨h,Nat.le_refl _,fun h=>(by cases h),fun _ j h1=>by omega⟩
theorem RD.set{bs:List D.MBlock}{r:Int}{p t0:Nat}{c:Bool}{os:List Bool}(h:RD bs r p c t0 os)(hw:WL bs)(hp:p<bs.length)(h0:ix os p=false){to:Int}(ht:to∈(ix bs p).End.To)(he:edgeB bs os p to r=true):RD bs r p true t0 (os.set p true):=by
 have h1:=cntO_set (l:=os) (b:=p) (by rw[h.o.n];exact hp) h0
 have:=h.le
 exact⟨h.o.set hw hp ht he,by omega,fun _=>by omega,fun h=>by cases h⟩
theorem RD.next{bs:List D.MBlock}{r:Int}{p t0:Nat}{c:Bool}{os:List Bool}(h:RD bs r p c t0 os)(hn:c=false→ix os p=false→∀to∈(ix bs p).End.To,edgeB bs os p to r=false):RD bs r (p+1) c t0 os :=
 ⟨h.o,h.le,h.lt,fun hc j hj h0=>by
  rcases Nat.lt_or_ge j p with h9|h9
  ·exact h.fx hc j h9 h0
  ·have e:j=p:=by omega
   subst e;exact hn hc h0⟩
theorem OS9.beg{bs:List D.MBlock}{r:Int}:OS9 bs r (List.replicate bs.length false):=⟨by simp,fun b hb h=>by rw[ix_eq (by simpa using hb)] at h;simp at h⟩
theorem mem_ix{α:Type}[Inhabited α]{l:List α}{P:α→Prop}(h:∀k,k<l.length→P (ix l k)):∀x∈l,P x:=fun x hx=>by
 obtain⟨j,hj,e⟩:=List.getElem_of_mem hx
 have:=h j hj;rw[ix_eq hj,e] at this;exact this
def phiB(p:D.Phi):List Int:=p.Dst::p.In.map (fun y=>y.Val)
def insB(i:D.Mach):List Int:=takesM i++makesM i
def regB(x:D.MBlock):List Int:=nM9 x.End++x.Phis.flatMap phiB++x.Ins.flatMap insB
def parB(m:D.MFunc):List Int:=(List.range (Int.toNat m.Params)).map (fun k:Nat=>(k:Int))
def regA(m:D.MFunc):List Int:=parB m++m.Blocks.flatMap regB
def regsM(m:D.MFunc):List Int:=((List.range 8192).filter (fun k:Nat=>decide ((k:Int)∈regA m))).map (fun k:Nat=>(k:Int))
structure MK(P:List Int)(mk:List Bool):Prop where
 n:mk.length=8192
 s:∀k:Nat,k<8192→ix mk k=decide ((k:Int)∈P)
theorem MK.beg:MK [] (List.replicate 8192 false):=⟨List.length_replicate,fun k hk=>by rw[ix_eq (by rw[List.length_replicate];exact hk),List.getElem_replicate];exact(decide_eq_false (fun h=>by cases h)).symm⟩
theorem MK.set{P:List Int}{mk:List Bool}{r:Int}(h:MK P mk)(hr:Rg r):MK (P++[r]) (mk.set (Int.toNat r) true):=by
 unfold Rg at hr
 refine⟨by rw[List.length_set];exact h.n,fun k hk=>?_⟩
 rw[ix_set (by rw[h.n];omega)]
 split
 ·rename_i e
  rw[eq_comm,decide_eq_true_eq,List.mem_append];right;simp;omega
 ·rename_i e
  rw[h.s k hk,decide_eq_decide,List.mem_append]
  constructor
  ·exact .inl
  ·rintro(h9|h9)
   ·exact h9
   ·simp at h9;omega
theorem MK.of{P P':List Int}{mk:List Bool}(h:MK P mk)(e:P=P'):MK P' mk:=e▸h
theorem filt_next{f:Nat→Bool}{k:Nat}:((List.range (k+1)).filter f).map (fun k:Nat=>(k:Int))=((List.range k).filter f).map (fun k:Nat=>(k:Int))++if f k=true then [(k:Int)] else []:=by
 rw[List.range_succ,List.filter_append,List.map_append]
 congr 1
 by_cases h:f k=true
 ·simp[h]
 ·simp[h]
theorem flat_len{α β:Type}{f:α→List β}{c:Nat}:∀{l:List α},(∀x∈l,(f x).length≤c)→(l.flatMap f).length≤c*l.length
 | [],_=>by simp
 | x::l,h=>by
  have h1:=flat_len (l:=l) (fun y hy=>h y (by simp[hy]))
  have h2:=h x (by simp)
  rw[List.flatMap_cons,List.length_append,List.length_cons,Nat.mul_add];omega
theorem flat_next{α β:Type}[Inhabited α]{f:α→List β}{l:List α}{k:Nat}(h:k<l.length):(l.take (k+1)).flatMap f=(l.take k).flatMap f++f (ix l k):=by
 rw[take_ix h,List.flatMap_append];simp
theorem cntB_mem2:∀{l:List D.MBlock} {x:D.MBlock},x∈l→(x.Phis.length:Int)+x.Ins.length≤cntB l
 | y::l,x,h=>by
  have h0:0≤cntB l:=by cases l with|nil=>exact Int.le_refl _|cons z l=>exact(cntB_mem (x:=z) (by simp)).2
  rw[cntB]
  rcases List.mem_cons.1 h with rfl|h
  ·omega
  ·have:=cntB_mem2 h;omega
section
variable{m:D.MFunc}{b:Nat}
theorem right_phis(h:rightM m=true)(hb:b<m.Blocks.length):(ix m.Blocks b).Phis.length≤16384∧(ix m.Blocks b).Ins.length≤16384:=by
 have h1:=cntB_mem2 (ix_mem (l:=m.Blocks) hb)
 have h2:=(right_none h).2
 omega
theorem right_in(h:rightM m=true)(hb:b<m.Blocks.length):∀p∈(ix m.Blocks b).Phis,p.In.length≤512:=fun p hp=>by
 have hW:=right_wf h
 have h1:=(hW.phi b hb p hp).2.1
 have h2:(predsM m.Blocks b).length≤m.Blocks.length:=by
  unfold predsM predsT
  rw[List.length_map]
  exact Nat.le_trans (List.length_filter_le _ _) (by simp)
 have h3:=congrArg List.length h1
 rw[List.length_map] at h3
 have:=hW.n0
 omega
theorem takes_len{i:D.Mach}(h:i.Op=28→i.Args.length≤4):(takesM i).length≤4:=by
 unfold takesM
 repeat' split
 all_goals first|(rename_i h9;exact h h9)|simp
theorem makes_len{i:D.Mach}:(makesM i).length≤2:=by
 unfold makesM
 repeat' split
 all_goals simp
theorem needs_len{e:D.End}:(nM9 e).length≤2:=by
 unfold nM9
 repeat' split
 all_goals simp
theorem phiB_len(h:rightM m=true)(hb:b<m.Blocks.length)(k:Nat):(((ix m.Blocks b).Phis.take k).flatMap phiB).length≤513*16384:=by
 have h1:=flat_len (f:=phiB) (c:=513) (l:=(ix m.Blocks b).Phis.take k) (fun p hp=>by have:=right_in h hb p (List.mem_of_mem_take hp);simp[phiB];omega)
 have h2:=(right_phis h hb).1
 rw[List.length_take] at h1
 have:min k (ix m.Blocks b).Phis.length≤16384:=by omega
 have:=Nat.mul_le_mul_left 513 this
 omega
theorem insB_len(h:rightM m=true)(hb:b<m.Blocks.length)(k:Nat):(((ix m.Blocks b).Ins.take k).flatMap insB).length≤6*16384:=by
 have h1:=flat_len (f:=insB) (c:=6) (l:=(ix m.Blocks b).Ins.take k) (fun i hi=>by
  have h3:=takes_len (i:=i) (fun h28=>((right_wf h).ins _ (ix_mem hb) i (List.mem_of_mem_take hi) h28).2.2.1)
  have h4:=makes_len (i:=i)
  simp only[insB,List.length_append];omega)
 have h2:=(right_phis h hb).2
 rw[List.length_take] at h1
 have:min k (ix m.Blocks b).Ins.length≤16384:=by omega
 have:=Nat.mul_le_mul_left 6 this
 omega
theorem regB_rg(h:rightM m=true)(hb:b<m.Blocks.length):∀r∈regB (ix m.Blocks b),Rg r:=fun r hr=>by
 obtain⟨h1,h2,h3⟩:=(right_wl h).rg b hb
 unfold regB at hr
 rw[List.mem_append,List.mem_append] at hr
 rcases hr with(hr|hr)|hr
 ·exact h2 r hr
 ·obtain⟨p,hp,hr⟩:=List.mem_flatMap.1 hr
  rcases List.mem_cons.1 hr with rfl|hr
  ·exact(h3 p hp).1
  ·obtain⟨y,hy,rfl⟩:=List.mem_map.1 hr
   exact(h3 p hp).2 y hy
 ·obtain⟨i,hi,hr⟩:=List.mem_flatMap.1 hr
  rcases List.mem_append.1 hr with hr|hr
  ·exact(h1 i hi).1 r hr
  ·exact(h1 i hi).2 r hr
theorem bk_regs{r:Int}{x:D.MBlock}{p:Nat}(h:backB x p r false=true):r∈regB x:=by
 have h1:=bkB_or h
 unfold regB
 have key:∀{l:List D.Mach},bkB r l false=true→r∈l.flatMap insB:=by
  intro l
  induction l with
  | nil=>intro h;cases h
  | cons i l ih =>
   intro h
   rw[bkB] at h
   rw[List.flatMap_cons,List.mem_append]
   split at h
   ·rename_i h2;left;exact List.mem_append.2 (.inl h2)
   ·split at h
    ·cases h
    ·exact .inr (ih h)
 rcases h1 with h1|⟨h1,_⟩
 ·have h2:=key h1
  obtain⟨i,hi,h3⟩:=List.mem_flatMap.1 h2
  exact List.mem_append.2 (.inr (List.mem_flatMap.2 ⟨i,List.mem_of_mem_drop hi,h3⟩))
 ·exact List.mem_append.2 (.inl (List.mem_append.2 (.inl (by simpa using h1))))
theorem regB_A{r:Int}(hb:b<m.Blocks.length)(h:r∈regB (ix m.Blocks b)):r∈regA m:=List.mem_append.2 (.inr (List.mem_flatMap.2 ⟨_,ix_mem hb,h⟩))
theorem LO.regs(hw:WL m.Blocks){r:Int}(h:LO m.Blocks b r):b<m.Blocks.length→r∈regA m:=by
 induction h with
 | @phi b to r ht h1 =>
  intro hb
  refine regB_A (hw.t hb to ht) ?_
  obtain⟨p,hp,h2⟩:=List.mem_flatMap.1 h1
  obtain⟨y,hy,e⟩:=List.mem_map.1 h2
  exact List.mem_append.2 (.inl (List.mem_append.2 (.inr (List.mem_flatMap.2 ⟨p,hp,List.mem_cons.2 (.inr (List.mem_map.2 ⟨y,(List.mem_filter.1 hy).1,e⟩))⟩))))
 | @gen b to r ht h1 h2=>exact fun hb=>regB_A (hw.t hb to ht) (bk_regs h2)
 | @thru b to r ht h1 h2 _ ih=>exact fun hb=>ih (hw.t hb to ht)
theorem regs_mem{r:Int}:r∈regsM m↔Rg r∧r∈regA m:=by
 unfold regsM Rg
 rw[List.mem_map]
 constructor
 ·rintro⟨k,hk,rfl⟩
  obtain⟨h1,h2⟩:=List.mem_filter.1 hk
  rw[List.mem_range] at h1
  exact⟨by omega,by simpa using h2⟩
 ·rintro⟨h1,h2⟩
  refine⟨Int.toNat r,List.mem_filter.2 ⟨by rw[List.mem_range];omega,?_⟩,by omega⟩
  rw[show((Int.toNat r:Nat):Int)=r by omega];simpa using h2
theorem regs_len:(regsM m).length≤8192:=by
 unfold regsM
 rw[List.length_map]
 exact Nat.le_trans (List.length_filter_le _ _) (by simp)
end
theorem at_f{m:D.MFunc}{b p:Nat}{r:Int}:backB (ix m.Blocks b) p r (decide (r∈ix (loE m.Blocks) b))=decide (r∈atE m.Blocks b p):=by
 rw[Bool.eq_iff_iff,decide_eq_true_eq];unfold atE;exact sAt_back.symm
theorem filter_next{l:List Int}{f:Int→Bool}{k:Nat}(h:k<l.length):(l.take (k+1)).filter f=(l.take k).filter f++if f (ix l k)=true then [ix l k] else []:=by
 rw[take_ix h,List.filter_append]
 congr 1
 by_cases h9:f (ix l k)=true
 ·simp[h9]
 ·simp[h9]
structure GR(m:D.MFunc)(b i:Nat)(f:Nat→Int→Bool)(rs:List (List Int)):Prop where
 n:rs.length=m.Blocks.length
 s:∀j,j<m.Blocks.length→ix rs j=((regsM m).take (if j<b then i+1 else i)).filter (f j)
theorem GR.beg{m:D.MFunc}{f:Nat→Int→Bool}:GR m 0 0 f (List.replicate m.Blocks.length []):=⟨by simp,fun j hj=>by rw[ix_eq (by simpa using hj)];simp⟩
theorem GR.blk{m:D.MFunc}{b i:Nat}{f:Nat→Int→Bool}{rs:List (List Int)}(h:GR m b i f rs)(hb:m.Blocks.length≤b):GR m 0 (i+1) f rs:=⟨h.n,fun j hj=>by rw[h.s j hj,if_pos (by omega),if_neg (by omega)]⟩
theorem GR.no{m:D.MFunc}{b i:Nat}{f:Nat→Int→Bool}{rs:List (List Int)}(h:GR m b i f rs)(hi:i<(regsM m).length)(hf:f b (ix (regsM m) i)=false):GR m (b+1) i f rs:=⟨h.n,fun j hj=>by
 rw[h.s j hj]
 by_cases h9:j<b
 ·rw[if_pos h9,if_pos (by omega)]
 ·rw[if_neg h9]
  split
  ·have e:j=b:=by omega
   subst e
   rw[filter_next hi,hf];simp
  ·rfl⟩
theorem GR.len{m:D.MFunc}{b i:Nat}{f:Nat→Int→Bool}{rs:List (List Int)}(h:GR m b i f rs):∀l∈rs,l.length<1073741824:=mem_ix fun k hk=>by
 rw[h.s k (by rw[←h.n];exact hk)]
 have h1:=List.length_filter_le (f k) ((regsM m).take (if k<b then i+1 else i))
 have h2:=regs_len (m:=m)
 rw[List.length_take] at h1;omega
def shL:D.MFunc:=⟨2,[⟨[],[⟨5,2,0,0,1,0,0,[]⟩,⟨5,3,0,2,0,0,0,[]⟩],⟨7,3,0,[],0⟩⟩]⟩
theorem shL_right:rightM shL=true:=by decide
theorem shL_lo:loE shL.Blocks=[[]]:=by
 have hw:=right_wl shL_right
 have h1:(loE shL.Blocks).length=1:=loE_len hw
 have h2:ix (loE shL.Blocks) 0=[]:=by
  apply List.eq_nil_iff_forall_not_mem.2
  intro r hr
  have h3:=(loE_mem hw (b:=0) (by decide)).1 hr
  cases h3 with
  | phi h _=>cases h
  | gen h _ _=>cases h
  | thru h _ _ _=>cases h
 match hl:loE shL.Blocks,h1,h2 with
 | [x],_,h2 =>
  have h4:x=[]:=h2
  rw[h4]
theorem shL_at:atM shL 0 1=[0,2]:=by
 unfold atM atE;rw[shL_lo];decide
theorem shL_row:rowQ (atM shL 0 1) [0,2]=true:=by rw[shL_at];decide
theorem shL_tog1:togM shL 0 2=true:=by
 unfold togM stM togS hasE atE;rw[shL_lo];decide
theorem shL_tog2:togM shL 0 3=false:=by
 unfold togM stM togS hasE atE;rw[shL_lo];decide
theorem shL_most:mostM shL=2:=by
 unfold mostM stM mostS hasE atE;rw[shL_lo];decide
def rangesQ(a b:List D.Range):Bool:=decide (a=b)
theorem shL_rng:rangesQ (rangesM shL 0) [⟨0,2⟩]=true:=by
 unfold rangesM stM rngS hasE atE;rw[shL_lo];decide
theorem rng_ix{a b:List D.Range}(hl:a.length=b.length)(h:∀j,j<a.length→ix a j=ix b j):a=b:=List.ext_getElem hl fun j h1 h2=>by
 have:=h j h1;rw[ix_eq h1,ix_eq h2] at this;exact this
theorem rng_ext{x y:D.Range}(h:x.From=y.From∧x.To=y.To):x=y:=by
 cases x;cases y;obtain⟨h1,h2⟩:=h;dsimp only at h1 h2;subst h1;subst h2;rfl
def made10(s:List Int):D.MFunc:=made7 (s.take 200)
theorem there_nat{m:D.MFunc}(hr:rightM m=true){b p:Nat}(hb:b<m.Blocks.length)(hp:p≤(ix m.Blocks b).Ins.length):thereM m b p=true:=there_mk ⟨hr,by omega,by omega,by omega,by rw[Int.toNat_natCast];omega⟩
def prvT(l:List D.Range)(i:Nat):Int:=if i=0 then -1 else (ix l (i-1)).To
structure RS(l:List D.Range)(n:Int):Prop where
 s:∀i,i<l.length→prvT l i<(ix l i).From∧(ix l i).From<(ix l i).To∧(ix l i).To≤n
theorem RS.step{r:Int}{l:List D.Range}{n:Nat}{S:List Int}(h:RS l n):RS (rngS r l n S) ((n:Int)+1):=by
 unfold rngS
 split
 ·split
  ·rename_i h2
   refine⟨fun i hi=>?_⟩
   rw[List.length_set] at hi
   have h3:=h.s i hi
   have e:∀j,j<l.length→ix (l.set (l.length-1) { ix l (l.length-1) with To:=(n:Int)+1 }) j=if j=l.length-1 then { ix l (l.length-1) with To:=(n:Int)+1 } else ix l j:=fun j hj=>by
    rw[ix_set (by omega)]
   have e1:prvT (l.set (l.length-1) { ix l (l.length-1) with To:=(n:Int)+1 }) i=prvT l i:=by
    unfold prvT
    by_cases h0:i=0
    ·rw[if_pos h0,if_pos h0]
    ·rw[if_neg h0,if_neg h0,e (i-1) (by omega),if_neg (by omega)]
   rw[e1,e i hi]
   by_cases h0:i=l.length-1
   ·rw[if_pos h0];subst h0;dsimp only;have:=h2.2;omega
   ·rw[if_neg h0];omega
  ·rename_i h2
   refine⟨fun i hi=>?_⟩
   simp only[List.length_append,List.length_cons,List.length_nil] at hi
   have e:∀j,j<l.length→ix (l++[⟨(n:Int),(n:Int)+1⟩]) j=ix l j:=fun j hj=>by
    rw[ix_eq (by simp;omega),ix_eq hj,List.getElem_append_left]
   by_cases h0:i<l.length
   ·have h3:=h.s i h0
    have e1:prvT (l++[⟨(n:Int),(n:Int)+1⟩]) i=prvT l i:=by
     unfold prvT
     by_cases h0:i=0
     ·rw[if_pos h0,if_pos h0]
     ·rw[if_neg h0,if_neg h0,e (i-1) (by omega)]
    rw[e1,e i h0];omega
   ·have h4:i=l.length:=by omega
    have e2:ix (l++[(⟨(n:Int),(n:Int)+1⟩:D.Range)]) i=⟨(n:Int),(n:Int)+1⟩:=by
     rw[ix_eq (by simp;omega)];simp[h4]
    rw[e2]
    have e1:prvT (l++[⟨(n:Int),(n:Int)+1⟩]) i<n:=by
     unfold prvT
     by_cases h5:i=0
     ·rw[if_pos h5];omega
     ·rw[if_neg h5,e (i-1) (by omega)]
      have h6:=h.s (i-1) (by omega)
      have h7:¬(ix l (i-1)).To=n:=fun h8=>h2 ⟨by omega,by rw[←h4];exact h8⟩
      omega
    dsimp only;omega
 ·exact⟨fun i hi=>by have:=h.s i hi;omega⟩
def rgX(x:D.Range)(n:Int):Bool:=decide (x.From≤n)&&decide (n<x.To)
def rgS(l:List D.Range)(n:Int):Bool:=l.any (fun x=>rgX x n)
theorem inS_iff{l:List D.Range}{n:Int}:rgS l n=true↔∃j,j<l.length∧(ix l j).From≤n∧n<(ix l j).To:=by
 unfold rgS rgX
 rw[List.any_eq_true]
 constructor
 ·rintro⟨x,hx,h⟩
  obtain⟨j,hj,e⟩:=List.getElem_of_mem hx
  refine⟨j,hj,?_⟩
  rw[ix_eq hj,e];simpa using h
 ·rintro⟨j,hj,h⟩
  exact⟨_,ix_mem hj,by simpa using h⟩
theorem RS.above{l:List D.Range}{k n:Int}(h:RS l k)(hn:k≤n):rgS l n=false:=by
 cases h9:rgS l n with
 | false=>rfl
 | true =>
  obtain⟨j,hj,h1,h2⟩:=inS_iff.1 h9
  have:=h.s j hj;omega
theorem RS.put{r:Int}{l:List D.Range}{k:Nat}{S:List Int}(h:RS l k){n:Int}:rgS (rngS r l k S) n=if n=k then decide (r∈S) else rgS l n:=by
 have h0:=h.above (n:=k) (Int.le_refl _)
 unfold rngS
 by_cases hr:r∈S
 ·rw[if_pos hr]
  split
  ·rename_i h2
   have hl:l.length-1<l.length:=by omega
   have hlast:=h.s (l.length-1) hl
   rw[Bool.eq_iff_iff,inS_iff]
   have e:∀j,j<l.length→ix (l.set (l.length-1) { ix l (l.length-1) with To:=(k:Int)+1 }) j=if j=l.length-1 then { ix l (l.length-1) with To:=(k:Int)+1 } else ix l j:=fun j hj=>by rw[ix_set (by omega)]
   rw[List.length_set]
   by_cases hn:n=k
   ·rw[if_pos hn,decide_eq_true_eq]
    refine⟨fun _=>hr,fun _=>⟨l.length-1,hl,?_⟩⟩
    rw[e _ hl,if_pos rfl];dsimp only;omega
   ·rw[if_neg hn,inS_iff]
    constructor
    ·rintro⟨j,hj,h3⟩
     rw[e j hj] at h3
     split at h3
     ·rename_i h4;subst h4;dsimp only at h3;exact⟨_,hl,by omega,by omega⟩
     ·exact⟨j,hj,h3⟩
    ·rintro⟨j,hj,h3⟩
     refine⟨j,hj,?_⟩
     rw[e j hj]
     split
     ·rename_i h4;subst h4;dsimp only;omega
     ·exact h3
  ·rw[Bool.eq_iff_iff]
   unfold rgS
   rw[List.any_append,Bool.or_eq_true]
   by_cases hn:n=k
   ·rw[if_pos hn,decide_eq_true_eq]
    exact⟨fun _=>hr,fun _ => .inr (by subst hn;simp[rgX];omega)⟩
   ·rw[if_neg hn]
    constructor
    ·rintro(h3|h3)
     ·exact h3
     ·simp[rgX] at h3;omega
    ·exact .inl
 ·rw[if_neg hr]
  by_cases hn:n=k
  ·rw[if_pos hn,hn,h0,decide_eq_false hr]
  ·rw[if_neg hn]
theorem RS.once{n:Int}:∀{l:List D.Range} {k:Int},RS l k→l.countP (fun x=>rgX x n)=if rgS l n=true then 1 else 0:=by
 intro l
 have gen:∀(l:List D.Range) (lo:Int),(∀i,i<l.length→(if i=0 then lo else (ix l (i-1)).To)<(ix l i).From∧(ix l i).From<(ix l i).To)→(n≤lo→l.countP (fun x=>rgX x n)=0)∧l.countP (fun x=>rgX x n)=if rgS l n=true then 1 else 0:=by
  intro l
  induction l with
  | nil=>intro lo h;exact⟨fun _=>rfl,rfl⟩
  | cons x l ih =>
   intro lo h
   have h0:=h 0 (by simp)
   rw[if_pos rfl] at h0
   have h0':lo<x.From∧x.From<x.To:=h0
   obtain⟨i1,i2⟩:=ih x.To (fun i hi=>by
    have h1:=h (i+1) (by simpa using hi)
    rw[if_neg (by omega)] at h1
    have e1:ix (x::l) (i+1)=ix l i:=by simp[ix]
    rw[e1,Nat.add_sub_cancel] at h1
    by_cases h9:i=0
    ·subst h9;rw[if_pos rfl];exact h1
    ·rw[if_neg h9]
     have e2:ix (x::l) i=ix l (i-1):=by
      obtain⟨j,rfl⟩:∃j,i=j+1:=⟨i-1,by omega⟩
      simp[ix]
     rw[e2] at h1;exact h1)
   have ex:rgX x n=true↔x.From≤n∧n<x.To:=by unfold rgX;simp
   rw[List.countP_cons]
   have es:rgS (x::l) n=(rgX x n||rgS l n):=by unfold rgS;rw[List.any_cons]
   rw[es]
   by_cases hx:rgX x n=true
   ·have h2:=ex.1 hx
    rw[i1 (by omega),if_pos hx,hx]
    exact⟨fun h3=>by omega,by simp⟩
   ·rw[if_neg hx,show rgX x n=false from by simpa using hx,Bool.false_or]
    exact⟨fun h3=>by rw[i1 (by omega)],by rw[i2];simp⟩
 intro k h
 exact(gen l (-1) (fun i hi=>by have h1:=h.s i hi;unfold prvT at h1;exact⟨h1.1,h1.2.1⟩)).2
theorem setsI_ix{m:D.MFunc}(hr:rightM m=true){b:Nat}(hb:b<m.Blocks.length):ix (setsI m) b=atE m.Blocks b 0:=by
 unfold setsI;rw[if_pos hr,ix_eq (by simpa using hb)];simp
theorem setsO_ix{m:D.MFunc}(hr:rightM m=true){b:Nat}:ix (setsO m) b=ix (loE m.Blocks) b:=by
 unfold setsO;rw[if_pos hr]
theorem atM_nat{m:D.MFunc}(hr:rightM m=true){b p:Nat}(hb:b<m.Blocks.length)(hp:p≤(ix m.Blocks b).Ins.length):atM m b p=atE m.Blocks b p:=by
 unfold atM;rw[if_pos (there_nat hr hb hp),Int.toNat_natCast,Int.toNat_natCast]
def flowB(m:D.MFunc)(b:Nat)(r:Int)(to:Int):Bool:=phiA (ix m.Blocks to.toNat).Phis b r||(!phiD (ix m.Blocks to.toNat).Phis r&&hasL (ix (setsI m) to.toNat) r)
theorem flow_out{m:D.MFunc}(hr:rightM m=true){b:Nat}(hb:b<m.Blocks.length){r:Int}:(ix m.Blocks b).End.To.any (flowB m b r)=hasL (ix (setsO m) b) r:=by
 have hw:=right_wl hr
 unfold hasL
 rw[setsO_ix hr,Bool.eq_iff_iff,decide_eq_true_eq,loE_mem hw hb,List.any_eq_true]
 have at0:∀{to:Int},to∈(ix m.Blocks b).End.To→(flowB m b r to=true↔r∈phiT (ix m.Blocks to.toNat) b∨(r∉dsts (ix m.Blocks to.toNat)∧backB (ix m.Blocks to.toNat) 0 r (decide (r∈ix (loE m.Blocks) to.toNat))=true)):=fun {to} ht=>by
  unfold flowB hasL
  rw[phiA_iff,phiD_iff,setsI_ix hr (hw.t hb to ht),at_f]
  simp
 constructor
 ·rintro⟨to,ht,h⟩
  rcases(at0 ht).1 h with h1|⟨h1,h2⟩
  ·exact .phi ht h1
  ·rcases backB_or h2 with h3|⟨h3,h4⟩
   ·exact .gen ht h1 h3
   ·exact .thru ht h1 h4 ((loE_mem hw (hw.t hb to ht)).1 (by simpa using h3))
 ·intro h
  cases h with
  | @phi b to r ht h1=>exact⟨to,ht,(at0 ht).2 (.inl h1)⟩
  | @gen b to r ht h1 h2=>exact⟨to,ht,(at0 ht).2 (.inr ⟨h1,backB_up (fun h=>by cases h) h2⟩)⟩
  | @thru b to r ht h1 h2 h3=>exact⟨to,ht,(at0 ht).2 (.inr ⟨h1,by rw[decide_eq_true ((loE_mem hw (hw.t hb to ht)).2 h3)];exact h2⟩)⟩
theorem at_end{m:D.MFunc}(hr:rightM m=true){b:Nat}{r:Int}:hasL (atE m.Blocks b (ix m.Blocks b).Ins.length) r=(hasL (ix (setsO m) b) r||hasL (nM9 (ix m.Blocks b).End) r):=by
 unfold hasL atE
 rw[List.drop_length,sAt,setsO_ix hr,←Bool.decide_or,decide_eq_decide];exact uniS_mem
theorem at_step{m:D.MFunc}{b p:Nat}(hp:p<(ix m.Blocks b).Ins.length){r:Int}:hasL (atE m.Blocks b p) r=(hasL (takesM (ix (ix m.Blocks b).Ins p)) r||(hasL (atE m.Blocks b (p+1)) r&&!hasL (makesM (ix (ix m.Blocks b).Ins p)) r)):=by
 unfold hasL atE
 rw[drop_ix hp,sAt,Bool.eq_iff_iff]
 simp only[Bool.or_eq_true,Bool.and_eq_true,decide_eq_true_eq,Bool.not_eq_true',decide_eq_false_iff_not]
 rw[uniS_mem,delS_mem]
 exact⟨fun h=>h.symm,fun h=>h.symm⟩
theorem E62:Ent Tryz.prog 62:=⟨_,Tryz.func62,by kernel_rfl,by kernel_rfl⟩
theorem E63:Ent Tryz.prog 63:=⟨_,Tryz.func63,by kernel_rfl,by kernel_rfl⟩
theorem E64:Ent Tryz.prog 64:=⟨_,Tryz.func64,by kernel_rfl,by kernel_rfl⟩
theorem F113_0:Fld Tryz.prog 113 0 0:=⟨_,_,Tryz.underlying113,rfl,rfl,1,(by unfold Sz;kernel_rfl),by decide⟩
def evB(x y:D.Event):Bool:=decide (x.Callee=y.Callee)&&rowsM x.Args y.Args
def evsB(a b:List D.Event):Bool:=decide (a=b)
theorem evB_yes{x y:D.Event}(h:evB x y=true):x=y:=by
 unfold evB rowsM at h
 cases x;cases y;simp_all
theorem evB_self(x:D.Event):evB x x=true:=by simp[evB,rowsM]
theorem evsB_len{a b:List D.Event}(h:¬a.length=b.length):evsB a b=false:=by simp only[evsB,decide_eq_false_iff_not];rintro rfl;exact h rfl
theorem evsB_at{a b:List D.Event}{k:Nat}(h1:k<a.length)(h2:a.length=b.length)(h:evB (ix a k) (ix b k)=false):evsB a b=false:=by
 simp only[evsB,decide_eq_false_iff_not];rintro rfl;rw[evB_self] at h;cases h
theorem evsB_yes{a b:List D.Event}{k:Nat}(h1:a.length≤k)(h2:a.length=b.length)(h:a.take k=b.take k):evsB a b=true:=by
 rw[List.take_of_length_le h1,List.take_of_length_le (by omega)] at h
 simp only[evsB,h,decide_true]
theorem sameO_b(a b:D.Outcome):sameO a b=(((decide (a.End=b.End)&&decide (a.Val=b.Val))&&rowsM a.Mem b.Mem)&&evsB a.Calls b.Calls):=by
 unfold sameO rowsM evsB
 simp[Bool.decide_and,Bool.and_assoc]
theorem seq_ct{a0:Value}{a:List Int}{a1:Value}{b:List Int}:Tv Tryz.prog 62 #[a0,a1] [dv (rL (rI .i32)) a0 a,dv (rL (rI .i32)) a1 b] [] (.bool (rowsM a b)):=by
 refine jenter (args:=[a0,a1]) Tryz.func62 rfl rfl rfl fun w0 X=>?_
 refine jq (jr (ja Z (jn (jx (jq (jq (jr (jm Z (jdq d0 fun q1 w1=>js (jln U72 d0 Z) (jm Z ?_))))))))))
 refine jdq d1 fun q2 w2=>js (jln U72 d1 Z) (js (jneq Z Z) (jn (jx ?_)))
 refine jif Z (fun hc1=>?_) (fun hc1=>?_)
 refine jq (jr (ja Z (jn (jx (jrt (jtr ?_))))))
 exact jrB Z Z (rowsM_len (by omega))
 refine jsk (jx (jq (jq (jr (jm Z (js (jln U72 d0 Z) (jm Z (jn (jx (jb ?_))))))))))
 refine jlp (fun(k:Nat)=>⟨k≤a.length∧a.take k=b.take k,[dv (rL (rI .i32)) a0 a,dv (rL (rI .i32)) a1 b],[],[(0,a0),(1,a1),(12,.int .i64 (↑(List.length a))),(13,.int .i64 (↑k))],a.length-k⟩) 0 ⟨by omega,rfl⟩ (dc d0 (dc d1 dn)) kn ⟨Z,Z,Z,eqI (by omega),trivial⟩ ?_
 rintro k;dsimp only;rintro⟨hk,hR⟩
 refine jq (jr (js (jlss Z Z) (jn (jx (jq ?_)))))
 refine jif Z (fun hc2=>?_) (fun hc2=>?_)
 refine jsk (jx (jq (jb (jq (jr (jm Z (ja Z (jn (jx (jq (jstl Mixed (by kernel_rfl) ?_)))))))))))
 refine jt (jmv Z) (jt (jmv Z) (jt (jix U72 Z21 d0 Z Z Z (by omega)) (jt (jlI (dix d0 k (by omega)) O21 Z) (jt (jmv Z) (jt (jmv Z) (jt (jix U72 Z21 d1 Z Z Z (by omega)) (jt (jlI (dix d1 k (by omega)) O21 Z) (jt (jneq Z Z) (jdn (jx ?_))))))))))
 refine jif Z (fun hc3=>?_) (fun hc3=>?_)
 refine jq (jr (ja Z (jn (jx (jrt (jbr (jtr (jtr (jbr (jtr ?_))))))))))
 exact jrB Z Z (rowsM_at (k:=k) (by omega) (by omega) hc3)
 refine jsk (jbn (jx (jr (js (jadd Z Z (by omega)) (jm Z (jn ?_))))))
 exact jag (k+1) ⟨by omega,by rw[take_ix (by omega),take_ix (by omega),hR,hc3]⟩ (dc d0 (dc d1 dn)) kn ⟨Z,Z,Z,eqI (by omega),trivial⟩
 refine jex (jtx (jtx (jbh (jx (jq (jr (ja Z (jn (jx (jrt ?_))))))))))
 exact jrB Z Z (rowsM_yes (k:=k) (by omega) (by omega) hR)
theorem same1_ct{a0:Value}{x:D.Event}{a1:Value}{y:D.Event}:Tv Tryz.prog 64 #[vEvent x a0,vEvent y a1] [da rEvent (vEvent x a0) x,da rEvent (vEvent y a1) y] [] (.bool (evB x y)):=by
 refine jenter (args:=[vEvent x a0,vEvent y a1]) Tryz.func64 rfl rfl rfl fun w0 X=>?_
 refine jq (jr (jbox Z Z fun g2=>jbox Z Z fun g3=>ja Z (jn (jx (jq (jr (js (jf F113_0 Z) (js (jl k1 O21 Z Z) (js (jf F113_0 Z) ?_)))))))))
 refine js (jl k0 O21 Z Z) (js (jeql Z Z) (jm Z (jg Z Z (.t _) (fun hg=>jf F113_1 Z) (jg Z Z (.t _) (fun hg=>jl k1 O72 (evg Z hg) Z) (jg Z Z (.t _) (fun hg=>jf F113_1 Z) (jg Z Z (.t _) (fun hg=>jl k0 O72 (evg Z hg) Z) (jdq (rEvent.c_Args d0) fun q1 w1=>jdq (rEvent.c_Args d1) fun q2 w2=>jgc Z Z (.t _) E62 Z (fun hg=>evl2 (evg Z hg) (evg Z hg)) (fun hg=>seq_ct) (fun hg=>(dc (rEvent.c_Args d0) (dc (rEvent.c_Args d1) dn))) kn p0 (js (jand Z Z) (ja Z ?_)))))))))
 refine jn (jx (jrt ?_))
 exact jrB Z Z (by rfl)
theorem evs_ct{a0:Value}{a:List D.Event}{a1:Value}{b:List D.Event}:Tv Tryz.prog 63 #[a0,a1,.func (.func 64) #[] #[]] [dv (rL rEvent) a0 a,dv (rL rEvent) a1 b] [] (.bool (evsB a b )):=by
 refine jenter (args:=[a0,a1,.func (.func 64) #[] #[]]) Tryz.func63 rfl rfl rfl fun w0 X=>?_
 refine jq (jr (ja Z (jn (jx (jq (jq (jr (jm Z (jdq d0 fun q1 w1=>js (jln U76 d0 Z) (jm Z ?_))))))))))
 refine jdq d1 fun q2 w2=>js (jln U76 d1 Z) (js (jneq Z Z) (jn (jx ?_)))
 refine jif Z (fun hc1=>?_) (fun hc1=>?_)
 refine jq (jr (ja Z (jn (jx (jrt (jtr ?_))))))
 exact jrB Z Z (evsB_len (by omega))
 refine jsk (jx (jq (jq (jr (jm Z (js (jln U76 d0 Z) (jm Z (jn (jx (jb ?_))))))))))
 refine jlp (fun(k:Nat)=>⟨k≤a.length∧a.take k=b.take k,[dv (rL rEvent) a0 a,dv (rL rEvent) a1 b],[],[(1,a1),(2,.func (.func 64) #[] #[]),(15,a0),(16,.int .i64 (↑(List.length a))),(17,.int .i64 (↑k))],a.length-k⟩) 0 ⟨by omega,rfl⟩ (dc d0 (dc d1 dn)) kn ⟨Z,Z,Z,Z,eqI (by omega),trivial⟩ ?_
 rintro k;dsimp only;rintro⟨hk,hR⟩
 refine jq (jr (js (jlss Z Z) (jn (jx (jq ?_)))))
 refine jif Z (fun hc2=>?_) (fun hc2=>?_)
 refine jsk (jx (jq (jb (jq (jr (jm Z (js (jix U76 Z113 d0 Z Z Z (by omega)) (jA sEvent (jlA (dix d0 k (by omega)) A113 Z113 Z) fun c21=>jalc J113 Z fun g8=>ja Z (jdq (rEvent.c_Args d0) fun q4 w4=>?_)))))))))
 refine jsta k0 Z113 Z Z Z ⟨Z,w4.one,trivial⟩ (saf Z) (jn (jx (jq (jr (jm Z (jm Z (js (jix U76 Z113 d2 Z Z Z (by omega)) (jA sEvent (jlA (dix d2 k (by omega)) A113 Z113 Z) fun c25=>jalc J113 Z fun g9=>jdq (rEvent.c_Args d0) fun q6 w6=>jsta k0 Z113 Z Z Z ⟨Z,w6.one,trivial⟩ (saf Z) ?_))))))))
 refine jn (jx (jq (jr (jm Z (js (jla k1 A113 Z113 Z Z Z) (js (jla k0 A113 Z113 Z Z Z) (jcv E64 Z Z same1_ct (dc d1 (dc d0 dn)) kn (js (jnot Z) (jn (jx ?_))))))))))
 refine jif Z (fun hc3=>?_) (fun hc3=>?_)
 refine jq (jr (ja Z (jn (jx (jrt (jbr (jtr (jtr (jbr (jtr ?_))))))))))
 exact jrB Z Z (evsB_at (k:=k) (by omega) (by omega) hc3)
 refine jsk (jbn (jx (jr (js (jadd Z Z (by omega)) (jm Z (jn ?_))))))
 exact jag (k+1) ⟨by omega,by rw[take_ix (by omega),take_ix (by omega),hR,evB_yes hc3]⟩ (dc d2 (dc d3 dn)) kn ⟨Z,Z,Z,Z,eqI (by omega),trivial⟩
 refine jex (jtx (jtx (jbh (jx (jq (jr (ja Z (jn (jx (jrt ?_))))))))))
 exact jrB Z Z (evsB_yes (k:=k) (by omega) (by omega) hR)
theorem iSame_ct{a0a a0b:Value}{a:D.Outcome}{a1a a1b:Value}{b:D.Outcome}:Tv Tryz.prog 35 #[vOutcome a (a0a,a0b),vOutcome b (a1a,a1b)] [da rOutcome (vOutcome a (a0a,a0b)) a,da rOutcome (vOutcome b (a1a,a1b)) b] [] (.bool (sameO a b)):=by
 refine jenter (args:=[vOutcome a (a0a,a0b),vOutcome b (a1a,a1b)]) Tryz.func35 rfl rfl rfl fun w0 X=>?_
 refine jq (jr (jbox Z Z fun g2=>jbox Z Z fun g3=>ja Z (jn (jx (jq (jr (js (jf F78_0 Z) (js (jl k1 O3 Z Z) (js (jf F78_0 Z) ?_)))))))))
 refine js (jl k0 O3 Z Z) (js (jeql Z Z) (jm Z (jg Z Z (.t _) (fun hg=>jf F78_1 Z) (jg Z Z (.t _) (fun hg=>jl k1 O21 (evg Z hg) Z) (jg Z Z (.t _) (fun hg=>jf F78_1 Z) (jg Z Z (.t _) (fun hg=>jl k0 O21 (evg Z hg) Z) (jg Z Z (.t _) (fun hg=>jeql (evg Z hg) (evg Z hg)) (js (jand Z Z) (jm Z (jg Z Z (.t _) (fun hg=>jf F78_2 Z) (jg Z Z (.t _) (fun hg=>jl k1 O72 (evg Z hg) Z) ?_)))))))))))
 refine jg Z Z (.t _) (fun hg=>jf F78_2 Z) (jg Z Z (.t _) (fun hg=>jl k0 O72 (evg Z hg) Z) (jdq (rOutcome.c_Mem d0) fun q1 w1=>jdq (rOutcome.c_Mem d1) fun q2 w2=>jgc Z Z (.t _) E62 Z (fun hg=>evl2 (evg Z hg) (evg Z hg)) (fun hg=>seq_ct) (fun hg=>(dc (rOutcome.c_Mem d0) (dc (rOutcome.c_Mem d1) dn))) kn p0 (js (jand Z Z) (jm Z (jg Z Z (.t _) (fun hg=>jf F78_3 Z) (jg Z Z (.t _) (fun hg=>jl k1 O76 (evg Z hg) Z) (jg Z Z (.t _) (fun hg=>jf F78_3 Z) (jg Z Z (.t _) (fun hg=>jl k0 O76 (evg Z hg) Z) (jdq (rOutcome.c_Calls d0) fun q3 w3=>?_)))))))))
 refine jdq (rOutcome.c_Calls d1) fun q4 w4=>jgc Z Z (.t _) E63 Z (fun hg=>evl3 (evg Z hg) (evg Z hg) Z) (fun hg=>evs_ct) (fun hg=>(dc (rOutcome.c_Calls d0) (dc (rOutcome.c_Calls d1) dn))) kn p0 (js (jand Z Z) (ja Z (jn (jx (jrt ?_)))))
 exact jrB Z Z ((sameO_b a b))
theorem has_iff{l:List Int}{r:Int}:hasL l r=true↔r∈l:=decide_eq_true_iff
theorem idx_fr{l:List D.In}{fr:Int}(h:0≤idxM l (isFrom fr)):(ix l (Int.toNat (idxM l (isFrom fr))))∈l∧(ix l (Int.toNat (idxM l (isFrom fr)))).From=fr:=by
 have h1:=idx_lt l (isFrom fr)
 refine⟨ix_mem (by omega),?_⟩
 unfold idxM at h ⊢
 cases e:l.findIdx? (isFrom fr) with
 | none=>rw[e] at h;simp only at h;omega
 | some i =>
  obtain⟨hi,h2,_⟩:=List.findIdx?_eq_some_iff_getElem.1 e
  show(ix l (Int.toNat (i:Int))).From=fr
  rw[Int.toNat_natCast,ix_eq hi]
  unfold isFrom at h2;simpa using h2
theorem insE_op{i:D.Mach}(h:insE i=0):1≤i.Op∧i.Op≤29:=by
 unfold insE at h
 split at h
 ·cases h
 ·omega
theorem liveM_of{m:D.MFunc}(hr:rightM m=true):LiveM m.Blocks (fun b p v=>v∈atE m.Blocks b p):=by
 have hw:=right_wl hr
 have hW:=right_wf hr
 have hend:∀{b:Nat} {v:Int},b<m.Blocks.length→(hasL (ix (setsO m) b) v=true∨v∈nM9 (ix m.Blocks b).End)→v∈atE m.Blocks b (ix m.Blocks b).Ins.length:=fun {b v} hb h=>by
  rw[←has_iff,at_end hr,Bool.or_eq_true,has_iff (l:=nM9 _)];exact h
 refine⟨fun b hb=>⟨fun i hi=>?_,fun i hi v hv=>⟨(hw.rg b hb).1 _ (ix_mem hi) |>.1 v hv,?_⟩,fun i hi v h1 h2=>?_⟩,fun b hb v hv=>hend hb (.inr hv),fun b hb t ht=>?_,fun b hb p hp=>?_,fun b hb t ht p hp=>?_,fun b hb t ht v h1 h2=>?_,fun b hb rs h7 h8=>?_⟩
 ·exact insE_op (insW_none (things_none _ _ (right_none hr).1 (ix m.Blocks b) (ix_mem hb)).2.1 _ (ix_mem hi))
 ·show v∈atE m.Blocks b i
  rw[←has_iff,at_step hi,Bool.or_eq_true,has_iff];exact .inl hv
 ·show v∈atE m.Blocks b i
  rw[←has_iff,at_step hi,Bool.or_eq_true,Bool.and_eq_true,has_iff (l:=atE _ _ _)]
  exact .inr ⟨h1,by rw[Bool.not_eq_true'];exact decide_eq_false h2⟩
 ·have:=hw.to b hb t ht;omega
 ·have:=((hw.rg b hb).2.2 p hp).1;unfold Rg at this;omega
 ·have h1:=(hW.from1 (at':=b) (by omega) (by rw[Int.toNat_natCast];exact ht)).2 p hp
  refine⟨h1.v,hend hb (.inl ?_)⟩
  obtain⟨h2,h3⟩:=idx_fr h1.2.2.1
  rw[←flow_out hr hb,List.any_eq_true]
  refine⟨t,ht,?_⟩
  unfold flowB;rw[Bool.or_eq_true];left
  unfold phiA;rw[List.any_eq_true]
  refine⟨p,hp,List.any_eq_true.2 ⟨_,h2,?_⟩⟩
  unfold inM;rw[h3];simp
 ·refine hend hb (.inl ?_)
  rw[←flow_out hr hb,List.any_eq_true]
  have ht2:=hw.to b hb t ht
  refine⟨t,ht,?_⟩
  unfold flowB;rw[Bool.or_eq_true,Bool.and_eq_true,setsI_ix hr (by omega),has_iff (l:=atE _ _ _)]
  right
  refine⟨?_,h1⟩
  rw[Bool.not_eq_true'];unfold phiD
  rw[List.any_eq_false]
  intro p hp h9
  exact h2 (List.mem_map.2 ⟨p,hp,by simpa using h9⟩)
 ·have:=hW.goes (at':=(b:Int)) (by omega) rs (by rw[Int.toNat_natCast];exact h7) (by rw[Int.toNat_natCast];exact h8)
  rwa[Int.toNat_natCast] at this
def liw(r w:Int):D.Mach:=⟨4,r,0,0,0,0,w,[]⟩
def deadX(m:D.MFunc)(b p:Nat)(r w:Int):D.MFunc:=⟨m.Params,m.Blocks.set b { (ix m.Blocks b) with Ins:=(ix m.Blocks b).Ins.take p++[liw r w]++(ix m.Blocks b).Ins.drop p }⟩
theorem cntB_set:∀{l:List D.MBlock} {j:Nat} {x:D.MBlock},j<l.length→x.Phis=(ix l j).Phis→x.Ins.length≤(ix l j).Ins.length+1→cntB (l.set j x)≤cntB l+1
 | y::l,0,x,_,h1,h2=>by rw[ix_zero] at h1 h2;rw[List.set_cons_zero,cntB,cntB,h1];omega
 | y::l,j+1,x,hj,h1,h2=>by rw[ix_cons] at h1 h2;rw[List.set_cons_succ,cntB,cntB];have:=cntB_set (l:=l) (by simpa using hj) h1 h2;omega
theorem dead_ix{m:D.MFunc}{b p:Nat}{r w:Int}(hb:b<m.Blocks.length)(j:Nat):(ix (deadX m b p r w).Blocks j).Phis=(ix m.Blocks j).Phis∧(ix (deadX m b p r w).Blocks j).End=(ix m.Blocks j).End∧(ix (deadX m b p r w).Blocks j).Ins=insW9 b p r w j (ix m.Blocks j).Ins:=by
 unfold deadX insW9 liw
 dsimp only
 rw[ix_set hb]
 by_cases e:j=b
 ·subst e;rw[if_pos rfl,if_pos rfl];exact⟨rfl,rfl,by simp⟩
 ·rw[if_neg e,if_neg e];exact⟨rfl,rfl,rfl⟩
theorem dead_right{s:List Int}{b p:Nat}{r w:Int}(hb:b<(made10 s).Blocks.length)(hp:p≤(ix (made10 s).Blocks b).Ins.length)(hr:0≤r∧r<8192):rightM (deadX (made10 s) b p r w)=true:=by
 obtain⟨nx,h,hl,hc,hB⟩:=of7_mb (s.take 200) (s.take 200).reverse
 have e:made10 s=of7 (made3 (s.take 200)) (s.take 200).reverse:=rfl
 rw[←e] at hl hc hB
 have hx:=dead_ix (m:=made10 s) (p:=p) (r:=r) (w:=w) hb
 refine right_mb h (by rw[e];rfl) (by show(List.set _ _ _).length=_;rw[List.length_set];exact hl) ?_ (fun j hj=>(hx j).1.trans (hB j hj).ph) (fun j hj i hi=>?_) (fun j hj=>by rw[(hx j).2.1];exact(hB j hj).en) (fun j hj z=>by rw[(hx j).2.1];exact(hB j hj).to z)
 ·have:=cntB_set (l:=(made10 s).Blocks) (x:={ (ix (made10 s).Blocks b) with Ins:=(ix (made10 s).Blocks b).Ins.take p++[liw r w]++(ix (made10 s).Blocks b).Ins.drop p }) hb rfl (by simp only[List.length_append,List.length_take,List.length_drop,List.length_singleton];omega)
  show cntB (List.set _ _ _)≤_
  omega
 ·rw[(hx j).2.2] at hi
  unfold insW9 at hi
  split at hi
  ·rcases List.mem_append.1 hi with h9|h9
   ·exact(hB j hj).ins i (List.mem_of_mem_take h9)
   ·rcases List.mem_cons.1 h9 with h9|h9
    ·rw[h9];exact e_liw hr
    ·exact(hB j hj).ins i (List.mem_of_mem_drop h9)
  ·exact(hB j hj).ins i hi
theorem dead_same{s:List Int}{b p:Nat}{r w N N':Int}{i:D.Input}(hb:b<(made10 s).Blocks.length)(hp:p≤(ix (made10 s).Blocks b).Ins.length)(hr:0≤r∧r<8192)(hd:¬r∈atE (made10 s).Blocks b p)(hN:2*N+2≤N')(h0:0≤N) :
  (runM (made10 s) { i with Steps:=N }).End=3∨sameO (runM (made10 s) { i with Steps:=N }) (runM (deadX (made10 s) b p r w) { i with Steps:=N' })=true:=by
 have hm:rightM (made10 s)=true:=made7_right _
 have hx:=dead_right (w:=w) hb hp hr
 have hn:=(right_wf hm).n0
 unfold runM
 rw[hm,hx,if_neg (by decide),if_neg (by decide)]
 have hst:startR (deadX (made10 s) b p r w) { i with Steps:=N' }=startR (made10 s) { i with Steps:=N }:=rfl
 have hlen:(startR (made10 s) { i with Steps:=N }).length=8192:=by
  have:=(right_wf hm).p0
  unfold startR;rw[List.length_append,List.length_take,List.length_drop,List.length_replicate];dsimp only;omega
 rw[hst]
 have hph:(phisM (ix (made10 s).Blocks (Int.toNat 0)).Phis (-1) (startR (made10 s) { i with Steps:=N })).length=8192:=by rw[phisM_len];exact hlen
 have key:=dead_run (bs:=(made10 s).Blocks) (xb:=(deadX (made10 s) b p r w).Blocks) (b0:=b) (p0:=p) (r:=r) (w:=w) (liveM_of hm) hd (fun _=>hp) (fun j _=>dead_ix hb j) hN (Int.toNat N+1) 0 (-1) (startR (made10 s) { i with Steps:=N }) (startR (made10 s) { i with Steps:=N }) (memM { i with Steps:=N }) [] i.Answers 0 (Int.toNat N'+1) 0 (by omega) ⟨hph,hph,fun _ _ _ _=>rfl⟩ (Int.le_refl _) h0 (by omega) (by omega)
 rcases key with key|⟨st,key⟩
 ·exact .inl key
 ·right
  have e2:memM { i with Steps:=N' }=memM { i with Steps:=N }:=rfl
  rw[e2]
  show sameO _ (blockRun (deadX (made10 s) b p r w).Blocks N' (Int.toNat N'+1) 0 (-1) (startR (made10 s) { i with Steps:=N }) (memM { i with Steps:=N }) [] i.Answers 0)=true
  rw[key]
  unfold sameO;simp
abbrev U87:=@Tryz.underlying87
abbrev U88:=@Tryz.underlying88
theorem E108:Ent Tryz.prog 108:=⟨_,Tryz.func108,by kernel_rfl,by kernel_rfl⟩
theorem E109:Ent Tryz.prog 109:=⟨_,Tryz.func109,by kernel_rfl,by kernel_rfl⟩
theorem E110:Ent Tryz.prog 110:=⟨_,Tryz.func110,by kernel_rfl,by kernel_rfl⟩
theorem F90_0:Fld Tryz.prog 90 0 0:=⟨_,_,Tryz.underlying90,rfl,rfl,2,(by unfold Sz;kernel_rfl),by decide⟩
theorem F90_1:Fld Tryz.prog 90 1 2:=⟨_,_,Tryz.underlying90,rfl,rfl,1,(by unfold Sz;kernel_rfl),by decide⟩
theorem F90_2:Fld Tryz.prog 90 2 3:=⟨_,_,Tryz.underlying90,rfl,rfl,1,(by unfold Sz;kernel_rfl),by decide⟩
theorem O86:One Tryz.prog 86:=⟨_,Tryz.underlying86,rfl⟩
theorem O87:One Tryz.prog 87:=⟨_,Tryz.underlying87,rfl⟩
theorem O88:One Tryz.prog 88:=⟨_,Tryz.underlying88,rfl⟩
theorem Z86:Sz Tryz.prog 86 1:=by unfold Sz;kernel_rfl
theorem Z87:Sz Tryz.prog 87 1:=by unfold Sz;kernel_rfl
theorem row_nil{x:D.MBlock}{B:List Int}:some (sAt (x.Ins.drop x.Ins.length) B)=some B:=by rw[List.drop_length];rfl
theorem row_one{x:D.MBlock}{B:List Int}{p:Nat}(hp:0<p∧p≤x.Ins.length):some (sAt (x.Ins.drop (p-1)) B)=some (uniS (delS (sAt (x.Ins.drop p) B) (makesM (ix x.Ins (p-1)))) (takesM (ix x.Ins (p-1)))):=by
 rw[drop_ix (l:=x.Ins) (i:=p-1) (by omega),sAt,show p-1+1=p by omega]
theorem row_beg{x:D.MBlock}{B:List Int}{R:List OS}(hl:R.length=x.Ins.length+1):∀j,x.Ins.length≤j→j≤x.Ins.length→ix (R.set x.Ins.length (some B)) j=some (sAt (x.Ins.drop j) B):=fun j h1 h2=>by
 have e:j=x.Ins.length:=by omega
 subst e
 rw[ix_set (by omega),if_pos rfl,List.drop_length];rfl
theorem row_step{x:D.MBlock}{B:List Int}{R:List OS}{p:Nat}(hl:R.length=x.Ins.length+1)(hp:0<p∧p≤x.Ins.length)(h:∀j,p≤j→j≤x.Ins.length→ix R j=some (sAt (x.Ins.drop j) B)) :
  ∀j,p-1≤j→j≤x.Ins.length→ix (R.set (p-1) (some (uniS (delS (sAt (x.Ins.drop p) B) (makesM (ix x.Ins (p-1)))) (takesM (ix x.Ins (p-1)))))) j=some (sAt (x.Ins.drop j) B):=fun j h1 h2=>by
 rw[ix_set (by omega)];split
 ·rename_i e;subst e
  rw[drop_ix (l:=x.Ins) (i:=p-1) (by omega),sAt,show p-1+1=p by omega]
 ·exact h j (by omega) h2
set_option maxRecDepth 4000
theorem block_ct{g0 B1 B2 B3:Nat}{bv ev pv:Value}{m:D.MFunc}{Es:List OS}{vs:List Value}{Ps:List (List OS)}{n:Nat}{z:Int}{E I:List (List Int)}(hz:z=((n:Nat):Int))(hn:n<m.Blocks.length)(hw:WL m.Blocks)(hF:FP m.Blocks E I Es vs Ps)(hq:∀b,b<m.Blocks.length→(ix m.Blocks b).Ins.length<1000000):Tr Tryz.prog 68 #[.pointer (some ⟨g0,0,none⟩),.int .i64 z] [dv (rL rMBlock) bv m.Blocks] [bx g0 90 [.int .i64 m.Params,bv,ev,pv],gl B1 rSet 86 ev Es,gl B2 rV 87 pv vs,rw' B3 rSet 86 vs Ps] (fun _:Unit => .bool (blkC m.Blocks E I n)) (fun _=>[]) (fun _ _=>[bx g0 90 [.int .i64 m.Params,bv,ev,pv],gl B1 rSet 86 ev (Es.set n (some (enS m.Blocks I n))),gl B2 rV 87 pv vs,rw' B3 rSet 86 vs (Ps.set n (blkP (ix m.Blocks n) (enS m.Blocks I n)))]):=by
 refine jenter (args:=[.pointer (some ⟨g0,0,none⟩),.int .i64 z]) Tryz.func68 rfl rfl rfl fun w0 X=>?_
 refine cgo k1 fun w1=>cgo k2 fun w2=>?_
 subst hz
 have hvl:=hF.vl
 have hpl:=hF.pl
 have hel:=hF.el
 have hPn:=hF.pg hn
 have hnt:=hw.t hn
 have hq0:=hq n hn
 have hl1:=hF.fs.lenE hw hn
 have hl2:=hF.fs.lenN hw hn
 refine jq (jr (ja Z (jn (jx (jq (jr (jm Z (js (jnil Z) (js (jf F90_0 Z) (js (jf F28_1 Z) (js (jl k0 O26 Z Z) ?_)))))))))))
 refine jm Z (jdq d0 fun q3 w3=>js (jix U26 Z37 d0 Z Z Z (by omega)) (jA3 sMBlock (jlA (dix d0 n (by omega)) A37 Z37 Z) fun c27a c27b c27c=>jalc J37 Z fun g5=>jdq (rMBlock.cP d0) fun q5 w5=>jdq (rMBlock.cI d0) fun q6 w6=>jdq (rMBlock.cT d0) fun q7 w7=>jsta k0 Z37 Z Z Z ⟨w5.one,w6.one,Z,Z,Z,w7.one,Z,trivial⟩ (saf Z) (jn (jx (jq ?_)))))
 refine jr (jsm fun g28=>ja Z (jn (jx (jq (jq (jr (js (jf F37_2 Z) (js (jf F35_3 Z) (js (jl k1 O22 Z Z) (js (jln U22 (rMBlock.cT d0) Z) ?_))))))))))
 refine jm Z (jn (jx (jb ?_)))
 refine jlp (u2 fun(k:Nat) (Se:List Int)=>⟨k≤(ix m.Blocks n).End.To.length∧Se=((ix m.Blocks n).End.To.take k).foldl (endOne m.Blocks I n) [],[da rMBlock (vMBlock (ix m.Blocks n) (c27a,c27b,c27c)) (ix m.Blocks n),dv (rL rMBlock) bv m.Blocks],[sm X.n g28 Se,bx g5 37 [c27a,c27b,.int .i64 (((ix m.Blocks n).End).Op),.int .i64 (((ix m.Blocks n).End).A),.int .i64 (((ix m.Blocks n).End).B),c27c,.int .i32 (((ix m.Blocks n).End).Imm)],bx g0 90 [.int .i64 m.Params,bv,ev,pv],gl B1 rSet 86 ev Es,gl B2 rV 87 pv vs,rw' B3 rSet 86 vs Ps],[(0,.pointer (some ⟨g0,0,none⟩)),(1,.int .i64 (↑n)),(4,.bool false),(5,.pointer (some ⟨g5,0,none⟩)),(6,(.map (some g28))),(31,c27c),(32,.int .i64 (↑(List.length (((ix m.Blocks n).End).To)))),(33,.int .i64 (↑k))],(ix m.Blocks n).End.To.length-k⟩) (0,[]) ⟨by dsimp only;omega,rfl⟩ (dc d0 (dc d1 dn)) (kd (kd (kd kn))) ⟨Z,Z,Z,Z,Z,Z,Z,eqI (by omega),trivial⟩ ?_
 rintro⟨k,Se⟩;dsimp only[u2];rintro⟨hk,hSe⟩
 have hSr:Ris Se:=by rw[hSe];exact endF_ris (by simp[Ris])
 refine jq (jr (js (jlss Z Z) (jn (jx (jq ?_)))))
 refine jif Z (fun hc1=>?_) (fun hc1=>?_)
 have htk:=hnt _ (ix_mem (l:=(ix m.Blocks n).End.To) (i:=k) (by omega))
 have ht0:=(hw.to n hn _ (ix_mem (l:=(ix m.Blocks n).End.To) (i:=k) (by omega))).1
 have hPk:=hF.pg htk
 refine jsk (jx (jq (jb (jq (jr (js (jix U22 Z3 (rMBlock.cT d0) Z Z Z (by omega)) (js (jlI (dix (rMBlock.cT d0) k (by omega)) O3 Z) (ja Z (jn (jx (jq ?_)))))))))))
 refine jr (jm Z (js (jnil Z) (js (jf F90_2 Z) (js (jl k2 O88 Z Z) (jm Z (js (jig (i:=(Int.toNat (ix (((ix m.Blocks n).End).To) k))) U88 Z87 k4 Z Z (by omega) (by omega)) (js (jgW k4 (by omega) O87 Z) (jro (Int.toNat (ix (((ix m.Blocks n).End).To) k)) k5 (by omega) (by omega) (jgo k0 fun w9=>js (jig (i:=0) U87 Z86 k0 Z Z Z (by first|omega|(simp<;>omega))) (je (q:=fun v=>dv rSet v (ix (List.getD Ps (Int.toNat (ix (((ix m.Blocks n).End).To) k)) []) 0)) (jgV k0 (by first|omega|(simp<;>omega)) O86 Z Z) fun v45=>?_))))))))))
 refine jc E108 Z Z setClone_ct (dc (dcast (a:=ix (List.getD Ps (Int.toNat (ix (((ix m.Blocks n).End).To) k)) []) 0) (a':=some (ix I (Int.toNat (ix (ix m.Blocks n).End.To k)))) (hF.pg htk).2.2 d0) dn) kn (fun _=>p0) (fun _=>p1) fun g46=>jrx k1 k1 (by omega) (by omega) (ja Z (jn (jx (jq (jq (jr (jm Z (js (jnil Z) (js (jf F90_0 Z) (js (jf F28_1 Z) ?_))))))))))
 refine js (jl k4 O26 Z Z) (jm Z (js (jix (i:=(Int.toNat (ix (((ix m.Blocks n).End).To) k))) U26 Z37 d2 Z Z (by omega) (by omega)) (js (jf F37_0 Z) (jev (jlV (rMBlock.A_Phis (dix d2 (Int.toNat (ix (((ix m.Blocks n).End).To) k)) (by omega))) O32 Z Z) fun v55 q11 w11=>js (jln U32 d0 Z) (jm Z (jn (jx (jb ?_))))))))
 refine jlp (u2 fun(i2:Nat) (Sa:List Int)=>⟨i2≤(ix m.Blocks (Int.toNat (ix (ix m.Blocks n).End.To k))).Phis.length∧Sa=delS (ix I (Int.toNat (ix (ix m.Blocks n).End.To k))) (((ix m.Blocks (Int.toNat (ix (ix m.Blocks n).End.To k))).Phis.take i2).map (fun p=>p.Dst)),[dv (rL rPhi) v55 ((ix m.Blocks (Int.toNat (ix (((ix m.Blocks n).End).To) k))).Phis),da rMBlock (vMBlock (ix m.Blocks n) (c27a,c27b,c27c)) (ix m.Blocks n),dv (rL rMBlock) bv m.Blocks],[rw' B3 rSet 86 vs Ps,sm X.n g46 Sa,sm X.n g28 Se,bx g5 37 [c27a,c27b,.int .i64 (((ix m.Blocks n).End).Op),.int .i64 (((ix m.Blocks n).End).A),.int .i64 (((ix m.Blocks n).End).B),c27c,.int .i32 (((ix m.Blocks n).End).Imm)],bx g0 90 [.int .i64 m.Params,bv,ev,pv],gl B1 rSet 86 ev Es,gl B2 rV 87 pv vs],[(0,.pointer (some ⟨g0,0,none⟩)),(1,.int .i64 (↑n)),(4,.bool false),(5,.pointer (some ⟨g5,0,none⟩)),(6,(.map (some g28))),(8,.int .i64 (ix (((ix m.Blocks n).End).To) k)),(9,(.map (some g46))),(31,c27c),(32,.int .i64 (↑(List.length (((ix m.Blocks n).End).To)))),(33,.int .i64 (↑k)),(55,v55),(56,.int .i64 (↑(List.length ((ix m.Blocks (Int.toNat (ix (((ix m.Blocks n).End).To) k))).Phis)))),(57,.int .i64 (↑i2))],(ix m.Blocks (Int.toNat (ix (ix m.Blocks n).End.To k))).Phis.length-i2⟩) (0,(ix I (Int.toNat (ix (ix m.Blocks n).End.To k)))) ⟨by dsimp only;omega,rfl⟩ (dc d0 (dc d2 (dc d3 dn))) (kd (kd (kd (kc k0 kn)))) ⟨Z,Z,Z,Z,Z,Z,Z,Z,Z,Z,Z,Z,eqI (by omega),trivial⟩ ?_
 rintro⟨i2,Sa⟩;dsimp only[u2];rintro⟨hk2,hSa⟩
 refine jq (jr (js (jlss Z Z) (jn (jx (jq ?_)))))
 refine jif Z (fun hc2=>?_) (fun hc2=>?_)
 refine jsk (jx (jq (jb (jq (jr (js (jix U32 Z62 d0 Z Z Z (by omega)) (jA sPhi (jlA (dix d0 i2 (by omega)) A62 Z62 Z) fun c60=>jalc J62 Z fun g11=>jdq (rPhi.c_In d0) fun q14 w14=>jsta k0 Z62 Z Z Z ⟨Z,w14.one,trivial⟩ (saf Z) (jn ?_))))))))
 refine jx (jr (jm Z (js (jf F62_0 Z) (js (jl k0 O3 Z Z) (jlit (r:=(rI .i64)) (l:=[(ix ((ix m.Blocks (Int.toNat (ix (((ix m.Blocks n).End).To) k))).Phis) i2).Dst]) U22 I3 (by decide) Z Z Z (lV Z Z (wI (rPhi.W_Dst d0)) ln) fun g64=>jfz k0 (by(try simp)<;>omega) (jc E109 Z Z without_ct (dc d0 dn) (kc k2 kn) (fun _=>p0) (fun _=>p1) fun _=>jn (jbn (jx (jr ?_)))))))))
 refine js (jadd Z Z (by omega)) (jm Z (jn ?_))
 exact jag (i2+1,delS Sa ([(ix ((ix m.Blocks (Int.toNat (ix (((ix m.Blocks n).End).To) k))).Phis) i2).Dst])) ⟨by dsimp only;omega,by dsimp only;exact del_one (by omega) hSa⟩ (dc d2 (dc d3 (dc d4 dn))) (kc k2 (kc k0 (kc k1 (kc k1 (kc k1 (kc k1 (kc k1 kn))))))) ⟨Z,Z,Z,Z,Z,Z,Z,Z,Z,Z,Z,Z,eqI (by omega),trivial⟩
 have hA2:Sa=delS (ix I (Int.toNat (ix (ix m.Blocks n).End.To k))) (dsts (ix m.Blocks (Int.toNat (ix (ix m.Blocks n).End.To k)))):=by rw[hSa,List.take_of_length_le (by omega)];rfl
 refine jex (jtx (jtx (jbh (jx (jq (jq (jr (jm Z (jfs k1 (jrs U86 d0 Z fun g68=>jn ?_))))))))))
 refine jx (jb ?_)
 refine jlp (u2 fun(vis:List Int) (Su:List Int)=>⟨(vis.Nodup∧∀y∈vis,y∈Sa)∧Ris Su∧∀y,y∈Su↔y∈Se∨y∈vis,[dv rSet (.map (some g46)) (some Sa),da rMBlock (vMBlock (ix m.Blocks n) (c27a,c27b,c27c)) (ix m.Blocks n),dv (rL rMBlock) bv m.Blocks],[sit g68 (.map (some g46)) Sa vis,rw' B3 rSet 86 vs Ps,sm X.n g28 Su,bx g5 37 [c27a,c27b,.int .i64 (((ix m.Blocks n).End).Op),.int .i64 (((ix m.Blocks n).End).A),.int .i64 (((ix m.Blocks n).End).B),c27c,.int .i32 (((ix m.Blocks n).End).Imm)],bx g0 90 [.int .i64 m.Params,bv,ev,pv],gl B1 rSet 86 ev Es,gl B2 rV 87 pv vs],[(0,.pointer (some ⟨g0,0,none⟩)),(1,.int .i64 (↑n)),(4,.bool false),(5,.pointer (some ⟨g5,0,none⟩)),(6,(.map (some g28))),(8,.int .i64 (ix (((ix m.Blocks n).End).To) k)),(31,c27c),(32,.int .i64 (↑(List.length (((ix m.Blocks n).End).To)))),(33,.int .i64 (↑k)),(68,(.pointer (some ⟨g68,0,none⟩)))],Sa.length-vis.length⟩) ([],Se) ⟨⟨by simp,by simp⟩,hSr,by simp⟩ (dc d0 (dc d2 (dc d3 dn))) (kd (kd (kd (kc k0 kn)))) ⟨Z,Z,Z,Z,Z,Z,Z,Z,Z,Z,trivial⟩ ?_
 rintro⟨vis,Su⟩;dsimp only[u2];rintro⟨hv,hSu1⟩
 refine jq (jr ?_)
 refine jns k0 Z (fun hd1=>?_) (fun y1 hy1 hn1=>?_)
 refine js (jex' Z Z) (jn (jx (jq ?_)))
 refine jif Z (fun hc3=>?_) (fun hc3=>?_)
 exact absurd hc3 (by simp)
 have hSu:Su=uniS Se Sa:=uni_all hSr hSu1 (vis_all hv.2 hd1)
 refine jex (jtx (jtx (jbh (jx (jq (jr (jm Z (js (jnil Z) (js (jf F90_0 Z) (js (jf F28_1 Z) (js (jl k4 O26 Z Z) ?_)))))))))))
 refine jm Z (js (jix (i:=(Int.toNat (ix (((ix m.Blocks n).End).To) k))) U26 Z37 d2 Z Z (by omega) (by omega)) (js (jf F37_0 Z) (jev (jlV (rMBlock.A_Phis (dix d2 (Int.toNat (ix (((ix m.Blocks n).End).To) k)) (by omega))) O32 Z Z) fun v85 q17 w17=>js (jln U32 d0 Z) (jm Z (jn (jx (jb ?_)))))))
 refine jlp (u2 fun(i4:Nat) (S4:List Int)=>⟨i4≤(ix m.Blocks (Int.toNat (ix (ix m.Blocks n).End.To k))).Phis.length∧S4=uniS Su (((ix m.Blocks (Int.toNat (ix (ix m.Blocks n).End.To k))).Phis.take i4).flatMap (fun p=>(p.In.filter (fun y=>decide (y.From=(n:Int)))).map (fun y=>y.Val))),[dv (rL rPhi) v85 ((ix m.Blocks (Int.toNat (ix (((ix m.Blocks n).End).To) k))).Phis),da rMBlock (vMBlock (ix m.Blocks n) (c27a,c27b,c27c)) (ix m.Blocks n),dv (rL rMBlock) bv m.Blocks],[rw' B3 rSet 86 vs Ps,sm X.n g28 S4,bx g5 37 [c27a,c27b,.int .i64 (((ix m.Blocks n).End).Op),.int .i64 (((ix m.Blocks n).End).A),.int .i64 (((ix m.Blocks n).End).B),c27c,.int .i32 (((ix m.Blocks n).End).Imm)],bx g0 90 [.int .i64 m.Params,bv,ev,pv],gl B1 rSet 86 ev Es,gl B2 rV 87 pv vs],[(0,.pointer (some ⟨g0,0,none⟩)),(1,.int .i64 (↑n)),(4,.bool false),(5,.pointer (some ⟨g5,0,none⟩)),(6,(.map (some g28))),(31,c27c),(32,.int .i64 (↑(List.length (((ix m.Blocks n).End).To)))),(33,.int .i64 (↑k)),(85,v85),(86,.int .i64 (↑(List.length ((ix m.Blocks (Int.toNat (ix (((ix m.Blocks n).End).To) k))).Phis)))),(87,.int .i64 (↑i4))],(ix m.Blocks (Int.toNat (ix (ix m.Blocks n).End.To k))).Phis.length-i4⟩) (0,Su) ⟨by dsimp only;omega,rfl⟩ (dc d0 (dc d2 (dc d3 dn))) (kc k1 (kc k1 (kc k1 (kc k1 (kc k1 (kc k1 kn)))))) ⟨Z,Z,Z,Z,Z,Z,Z,Z,Z,Z,eqI (by omega),trivial⟩ ?_
 rintro⟨i4,S4⟩;dsimp only[u2];rintro⟨hk4,hT4⟩
 refine jq (jr (js (jlss Z Z) (jn (jx (jq ?_)))))
 refine jif Z (fun hc4=>?_) (fun hc4=>?_)
 refine jsk (jx (jq (jb (jq (jr (js (jix U32 Z62 d0 Z Z Z (by omega)) (jA sPhi (jlA (dix d0 i4 (by omega)) A62 Z62 Z) fun c90=>jalc J62 Z fun g14=>jdq (rPhi.c_In d0) fun q20 w20=>jsta k0 Z62 Z Z Z ⟨Z,w20.one,trivial⟩ (saf Z) (jn ?_))))))))
 refine jx (jq (jr (js (jf F62_1 Z) (js (jl k0 O60 Z Z) (js (jln U60 (rPhi.c_In d0) Z) (jm Z (jn (jx (jb ?_)))))))))
 refine jlp (u2 fun(i5:Nat) (S5:List Int)=>⟨i5≤(ix (ix m.Blocks (Int.toNat (ix (ix m.Blocks n).End.To k))).Phis i4).In.length∧S5=uniS S4 ((((ix (ix m.Blocks (Int.toNat (ix (ix m.Blocks n).End.To k))).Phis i4).In.take i5).filter (fun y=>decide (y.From=(n:Int)))).map (fun y=>y.Val)),[da rPhi (vPhi (ix ((ix m.Blocks (Int.toNat (ix (((ix m.Blocks n).End).To) k))).Phis) i4) c90) (ix ((ix m.Blocks (Int.toNat (ix (((ix m.Blocks n).End).To) k))).Phis) i4),dv (rL rPhi) v85 ((ix m.Blocks (Int.toNat (ix (((ix m.Blocks n).End).To) k))).Phis),da rMBlock (vMBlock (ix m.Blocks n) (c27a,c27b,c27c)) (ix m.Blocks n),dv (rL rMBlock) bv m.Blocks],[rw' B3 rSet 86 vs Ps,sm X.n g28 S5,bx g5 37 [c27a,c27b,.int .i64 (((ix m.Blocks n).End).Op),.int .i64 (((ix m.Blocks n).End).A),.int .i64 (((ix m.Blocks n).End).B),c27c,.int .i32 (((ix m.Blocks n).End).Imm)],bx g0 90 [.int .i64 m.Params,bv,ev,pv],gl B1 rSet 86 ev Es,gl B2 rV 87 pv vs],[(0,.pointer (some ⟨g0,0,none⟩)),(1,.int .i64 (↑n)),(4,.bool false),(5,.pointer (some ⟨g5,0,none⟩)),(6,(.map (some g28))),(31,c27c),(32,.int .i64 (↑(List.length (((ix m.Blocks n).End).To)))),(33,.int .i64 (↑k)),(85,v85),(86,.int .i64 (↑(List.length ((ix m.Blocks (Int.toNat (ix (((ix m.Blocks n).End).To) k))).Phis)))),(87,.int .i64 (↑i4)),(92,c90),(93,.int .i64 (↑(List.length ((ix ((ix m.Blocks (Int.toNat (ix (((ix m.Blocks n).End).To) k))).Phis) i4).In)))),(94,.int .i64 (↑i5))],(ix (ix m.Blocks (Int.toNat (ix (ix m.Blocks n).End.To k))).Phis i4).In.length-i5⟩) (0,S4) ⟨by dsimp only;omega,rfl⟩ (dc d0 (dc d1 (dc d2 (dc d3 dn)))) (kc k1 (kc k1 (kc k1 (kc k1 (kc k1 (kc k1 kn)))))) ⟨Z,Z,Z,Z,Z,Z,Z,Z,Z,Z,Z,Z,Z,eqI (by omega),trivial⟩ ?_
 rintro⟨i5,S5⟩;dsimp only[u2];rintro⟨hk5,hS5⟩
 refine jq (jr (js (jlss Z Z) (jn (jx (jq ?_)))))
 refine jif Z (fun hc5=>?_) (fun hc5=>?_)
 refine jsk (jx (jq (jb (jq (jr (js (jix U60 Z64 (rPhi.c_In d0) Z Z Z (by omega)) (jA sIn (jlA (dix (rPhi.c_In d0) i5 (by omega)) A64 Z64 Z) fun _=>jalc J64 Z fun g16=>jsta k0 Z64 Z Z Z ⟨Z,Z,trivial⟩ (saf Z) (jn (jx ?_)))))))))
 refine jq (jr (js (jf F64_0 Z) (js (jl k0 O3 Z Z) (jm Z (js (jeql Z Z) (jn (jx ?_)))))))
 refine jif Z (fun hc6=>?_) (fun hc6=>?_)
 have hcf:=hc6
 refine jr (jm Z (js (jf F64_1 Z) (js (jl k0 O3 Z Z) (jlit (r:=(rI .i64)) (l:=[(ix ((ix ((ix m.Blocks (Int.toNat (ix (((ix m.Blocks n).End).To) k))).Phis) i4).In) i5).Val]) U22 I3 (by decide) Z Z Z (lV Z Z (wI (rIn.W_Val d0)) ln) fun g105=>jfz k0 (by(try simp)<;>omega) (jc E110 Z Z with_ct (dc d0 dn) (kc k2 kn) (fun _=>p0) (fun _=>p1) fun _=>jn (jbn (jx (jr (js (jadd Z Z (by omega)) ?_)))))))))
 refine jm Z (jn ?_)
 exact jag (i5+1,uniS S5 ([(ix ((ix ((ix m.Blocks (Int.toNat (ix (((ix m.Blocks n).End).To) k))).Phis) i4).In) i5).Val])) ⟨by dsimp only;omega,by dsimp only;exact en_in (by omega) hS5 hcf⟩ (dc d2 (dc d3 (dc d4 (dc d5 dn)))) (kc k2 (kc k0 (kc k1 (kc k1 (kc k1 (kc k1 kn)))))) ⟨Z,Z,Z,Z,Z,Z,Z,Z,Z,Z,Z,Z,Z,eqI (by omega),trivial⟩
 have hcf:=hc6
 refine jsk (jbn (jx (jr (js (jadd Z Z (by omega)) (jm Z (jn ?_))))))
 exact jag (i5+1,S5) ⟨by dsimp only;omega,by dsimp only;exact en_no (by omega) hS5 hcf⟩ (dc d1 (dc d2 (dc d3 (dc d4 dn)))) (kc k1 (kc k1 (kc k1 (kc k1 (kc k1 (kc k1 kn)))))) ⟨Z,Z,Z,Z,Z,Z,Z,Z,Z,Z,Z,Z,Z,eqI (by omega),trivial⟩
 refine jex (jtx (jtx (jbh (jbn (jx (jr (js (jadd Z Z (by omega)) (jm Z (jn ?_)))))))))
 exact jag (i4+1,S5) ⟨by dsimp only;omega,by dsimp only;exact en_phi (bs:=m.Blocks) (by omega) hT4 (by rw[hS5,List.take_of_length_le (by omega)])⟩ (dc d1 (dc d2 (dc d3 dn))) (kd (kd (kd kn))) ⟨Z,Z,Z,Z,Z,Z,Z,Z,Z,Z,eqI (by omega),trivial⟩
 refine jex (jtx (jtx (jbh (jbn (jx (jr (js (jadd Z Z (by omega)) (jm Z (jn ?_)))))))))
 exact jag (k+1,S4) ⟨by dsimp only;omega,by dsimp only;rw[foldl_take _ _ (by omega),←hSe];unfold endOne;rw[hT4];unfold phiT;rw[hSu,hA2,List.take_of_length_le (by omega)]⟩ (dc d1 (dc d2 dn)) (kc k1 (kc k1 (kc k1 (kc k1 (kc k1 (kc k0 kn)))))) ⟨Z,Z,Z,Z,Z,Z,Z,eqI (by omega),trivial⟩
 have hlt1:=vis_lt hv.1 hv.2 hy1 hn1
 have wy1:=(hw.li htk (hF.fs.si _ htk _ (by rw[hA2] at hy1;exact(delS_mem.1 hy1).1)):Rg y1).w
 refine js (jex' Z Z) (jn (jx (jq ?_)))
 refine jif Z (fun hc7=>?_) (fun hc7=>?_)
 refine jsk (jx (jb (jq (jr (js (jes k0 hy1 Z) (js (jex' Z Z) (ja Z (jn (jx (jr (jm Z ?_)))))))))))
 refine jm Z (jlit (r:=(rI .i64)) (l:=[y1]) U22 I3 (by decide) Z Z Z (lV Z Z (wI (wp wy1)) ln) fun g75=>jfz k0 (by(try simp)<;>omega) (jc E110 Z Z with_ct (dc d0 dn) (kc k2 kn) (fun _=>p0) (fun _=>p1) fun _=>jn (jbn ?_)))
 exact jag (vis++[y1],uniS Su ([y1])) ⟨⟨vis_nd hv.1 hn1,vis_in hv.2 hy1⟩,by dsimp only;exact uni_vis (A:=[]) hSu1⟩ (dc d1 (dc d2 (dc d3 dn))) (kc k1 (kc k1 (kd (kd (kc k0 kn))))) ⟨Z,Z,Z,Z,Z,Z,Z,Z,Z,Z,trivial⟩ (by dsimp only[u2];rw[List.length_append];simp;omega)
 exact absurd hc7 (by simp)
 have hSe9:Se=enS m.Blocks I n:=by rw[hSe,List.take_of_length_le (by omega)];rfl
 subst hSe9
 refine jex (jtx (jtx (jbh (jx (jq (cro n k5 (by omega) (by omega) (cgo k0 fun w25=>jstl Mixed (by kernel_rfl) (jt (jmv Z) (jt (jnil Z) (jt (jf F90_1 Z) ?_))))))))))
 refine jt (jl k4 O87 Z Z) (jt (jmv Z) (jt (jig U87 Z86 k5 Z Z Z (by omega)) (jte (q:=fun v=>dv rSet v (ix Es n)) (jgV k5 (by omega) O86 Z Z) fun v116=>jt (jsfl U86 (dcast (a:=ix Es n) (a':=some (ix E n)) (hF.ee hn) d0) Z) (jt (jmv Z) (jt (jnil Z) (jt (jf F90_2 Z) (jt (jl k4 O88 Z Z) (jt (jmv Z) (jt (jig U88 Z87 k6 Z Z Z (by omega)) (jt (jgW k6 (by omega) O87 Z) ?_))))))))))
 refine jt (jig (i:=0) U87 Z86 k0 Z Z Z (by first|omega|(simp<;>omega))) (jte (q:=fun v=>dv rSet v (ix (List.getD Ps n []) 0)) (jgV k0 (by first|omega|(simp<;>omega)) O86 Z Z) fun v126=>jt (jsfl U86 (dcast (a:=ix (List.getD Ps n []) 0) (a':=some (ix I n)) hPn.2.2 d0) Z) (jt (jadd Z Z (by omega)) (jt (jas Z) (jdn (jx (jq (jr (jm Z (js (jnil Z) (js (jf F90_1 Z) ?_))))))))))
 refine js (jl k4 O87 Z Z) (jm Z (jm Z (js (jig U87 Z86 k5 Z Z Z (by omega)) (jfs k2 (jsg k4 Z Z86 Z Z Z (by omega) d0 (jn (jx (jq (jr (jm Z (jc E108 Z Z setClone_ct (dc d0 dn) kn (fun _=>p0) (fun _=>p1) fun g137=>?_)))))))))))
 refine ja Z (jn (jx (jq (jr (jm Z (js (jf F37_2 Z) (js (jla k4 A35 Z35 Z Z Z) (jcd E29 Z Z pNeeds_ct (dc (rMBlock.P_End d3) dn) kn fun v141 q29 w29=>jc E110 Z Z with_ct (dc d0 dn) (kc k0 kn) (fun _=>p0) (fun _=>p1) fun _=>jn (jx ?_)))))))))
 refine jq (jany false (.a 0 (.a 1 (.a 2 (.a 3 (.a 4 (.a 5 (.a 6 (.a 7 (.a 8 (.a 9 (.a 10 (.o 11 (.o 12 .e))))))))))))) Mixed (by kernel_rfl) (kc k4 (kc k4 (kc k4 kn))) fun F31=>jy Z (jmv Z) (jy Z (jnil Z) (jy Z (jf F90_2 Z) (jy Z (jl k1 O88 Z Z) (jy Z (jmv Z) (jy Z (jig U88 Z87 k2 Z Z Z (by omega)) (jy Z (jgW k2 (by omega) O87 Z) (jy Z (jf F37_1 Z) (jy Z (jl k0 O33 Z Z) (jy Z (jln U33 (rMBlock.cI d4) Z) ?_))))))))))
 refine jy Z (jmv Z) (jyo Z (js (jig U87 Z86 k2 Z Z Z (by first|omega|(simp<;>omega))) (jyn d0 (kc k4 (kc k4 (kc k4 kn))) (jyo Z (jfs k0 (jsg k1 Z Z86 Z Z Z (by first|omega|(simp<;>omega)) d0 (jyn d1 (kc k3 (kc k3 (kc k3 kn))) (jyd (jx (jq (jq ?_)))))))))))
 refine jr (js (jf F37_1 Z) (js (jl k3 O33 Z Z) (js (jln U33 (rMBlock.cI d7) Z) (js (jsub Z Z (by omega)) (ja Z (jn (jx (jb ?_))))))))
 refine jlp (u3 fun(p:Nat) (nv:Value) (Rw:List OS)=>⟨p≤(ix m.Blocks n).Ins.length∧Rw.length=(ix m.Blocks n).Ins.length+1∧∀j,p≤j→j≤(ix m.Blocks n).Ins.length→ix Rw j=some (sAt ((ix m.Blocks n).Ins.drop j) (uniS (enS m.Blocks I n) (nM9 (ix m.Blocks n).End))),[dv rSet (.map (some g28)) (some (enS m.Blocks I n)),da rMBlock (vMBlock (ix m.Blocks n) (c27a,c27b,c27c)) (ix m.Blocks n),dv (rL rMBlock) bv m.Blocks,dv rSet nv (some (sAt ((ix m.Blocks n).Ins.drop p) (uniS (enS m.Blocks I n) (nM9 (ix m.Blocks n).End))))],[gl B3 rSet 86 (List.getD vs n undef) Rw,gl B1 rSet 86 ev (List.set Es n (some (enS m.Blocks I n))),hole n B3 rSet 86 vs Ps,bx g5 37 [c27a,c27b,.int .i64 (((ix m.Blocks n).End).Op),.int .i64 (((ix m.Blocks n).End).A),.int .i64 (((ix m.Blocks n).End).B),c27c,.int .i32 (((ix m.Blocks n).End).Imm)],bx g0 90 [.int .i64 m.Params,bv,ev,pv],gl B2 rV 87 pv vs],[(0,.pointer (some ⟨g0,0,none⟩)),(1,.int .i64 (↑n)),(4,.bool false),(5,.pointer (some ⟨g5,0,none⟩)),(6,(.map (some g28))),(17,.int .i64 ((↑(List.length (ix E n)))+(↑(List.length (ix I n))))),(18,nv),(19,.int .i64 ((p:Int)-1))],p⟩) ((ix m.Blocks n).Ins.length,(.map (some g137)),List.set (List.getD Ps n []) (List.length ((ix m.Blocks n).Ins)) (some (uniS (enS m.Blocks I n) (nM9 ((ix m.Blocks n).End))))) ⟨by dsimp only;omega,by dsimp only;rw[List.length_set];exact hPn.2.1,row_beg hPn.2.1⟩ (dc d4 (dc d7 (dc d8 (dc (dcast (a:=some (uniS (enS m.Blocks I n) (nM9 ((ix m.Blocks n).End)))) (a':=some (sAt ((ix m.Blocks n).Ins.drop (ix m.Blocks n).Ins.length) (uniS (enS m.Blocks I n) (nM9 (ix m.Blocks n).End)))) (row_nil (x:=ix m.Blocks n)) d0) dn)))) (kd (kd (kd kn))) ⟨Z,Z,Z,Z,Z,Z,Z,eqI (by omega),trivial⟩ ?_
 rintro⟨p,nv,Rw⟩;dsimp only[u3];rintro⟨hp,hRl,hRw⟩
 refine jq (jq (jr (jm Z (js (jgeq Z Z) (jn (jx ?_))))))
 refine jif Z (fun hc8=>?_) (fun hc8=>?_)
 have hp1:0<p∧p≤(ix m.Blocks n).Ins.length:=by omega
 refine jsk (jx (jq (jb (jq (jr (jm Z (jc E108 Z Z setClone_ct (dc d3 dn) kn (fun _=>p0) (fun _=>p1) fun g164=>ja Z (jn (jx (jq ?_))))))))))
 refine jr (jm Z (js (jf F37_1 Z) (js (jl k4 O33 Z Z) (jm Z (js (jix (i:=(p-1)) U33 Z69 (rMBlock.cI d1) Z Z (by omega) (by omega)) (jA sMach (jlA (dix (rMBlock.cI d1) (p-1) (by omega)) A69 Z69 Z) fun c170=>jcd E31 Z Z pMakes_ct (dc d0 dn) kn fun v171 q37 w37=>jc E109 Z Z without_ct (dc d0 dn) (kc k0 kn) (fun _=>p0) (fun _=>p1) fun _=>jn (jx (jq ?_))))))))
 refine jr (jm Z (js (jf F37_1 Z) (js (jl k4 O33 Z Z) (jm Z (js (jix (i:=(p-1)) U33 Z69 (rMBlock.cI d3) Z Z (by omega) (by omega)) (jA sMach (jlA (dix (rMBlock.cI d3) (p-1) (by omega)) A69 Z69 Z) fun c178=>jcd E30 Z Z pTakes_ct (dc d0 dn) kn fun v179 q40 w40=>jc E110 Z Z with_ct (dc d0 dn) (kc k0 kn) (fun _=>p0) (fun _=>p1) fun _=>jn (jx (jr ?_))))))))
 refine jm Z (js (jnil Z) (js (jf F90_2 Z) (js (jl k5 O88 Z Z) (jm Z (js (jig U88 Z87 k6 Z Z Z (by omega)) (js (jgW k6 (by omega) O87 Z) (jm Z (jm Z (js (jig (i:=(p-1)) U87 Z86 k1 Z Z (by omega) (by omega)) (jfs k0 (jsg k0 Z Z86 Z Z Z (by omega) d0 ?_)))))))))))
 refine jn (jbn (jx (jr (jm Z (js (jsub Z Z (by omega)) (ja Z (jn ?_)))))))
 exact jag (p-1,(.map (some g164)),List.set Rw (p-1) (some (uniS (delS (sAt ((ix m.Blocks n).Ins.drop p) (uniS (enS m.Blocks I n) (nM9 (ix m.Blocks n).End))) (makesM (ix ((ix m.Blocks n).Ins) (p-1)))) (takesM (ix ((ix m.Blocks n).Ins) (p-1)))))) ⟨by dsimp only;omega,by dsimp only;rw[List.length_set];exact hRl,row_step hRl hp1 hRw⟩ (dc d5 (dc d6 (dc d7 (dc (dcast (a:=some (uniS (delS (sAt ((ix m.Blocks n).Ins.drop p) (uniS (enS m.Blocks I n) (nM9 (ix m.Blocks n).End))) (makesM (ix ((ix m.Blocks n).Ins) (p-1)))) (takesM (ix ((ix m.Blocks n).Ins) (p-1))))) (a':=some (sAt ((ix m.Blocks n).Ins.drop (p-1)) (uniS (enS m.Blocks I n) (nM9 (ix m.Blocks n).End)))) (row_one hp1) d0) dn)))) (kd (kd (kd kn))) ⟨Z,Z,Z,Z,Z,Z,Z,eqI (by omega),trivial⟩
 refine jex (jtx (jtx (jbh (jx (jq (jstl Mixed (by kernel_rfl) (jt (jmv Z) (jt (jsfl U86 d0 Z) (jt (jmv Z) (jt (jnil Z) (jt (jf F90_2 Z) ?_)))))))))))
 refine jt (jl k4 O88 Z Z) (jt (jmv Z) (jt (jig U88 Z87 k5 Z Z Z (by omega)) (jt (jgW k5 (by omega) O87 Z) (jt (jig (i:=0) U87 Z86 k0 Z Z Z (by omega)) (jte (q:=fun v=>dv rSet v (ix Rw 0)) (jgV k0 (by omega) O86 Z Z) fun v201=>jt (jsfl U86 (dcast (a:=ix Rw 0) (a':=some (begS m.Blocks n (enS m.Blocks I n))) (hRw 0 (by omega) (Nat.zero_le _)).symm d0) Z) (jt (jadd Z Z (by omega)) (jt (jmv Z) (jt (jneq Z Z) (jt (jas Z) (jdn ?_))))))))))
 refine jx (jrt (qruv k0 k1 (by omega) (by omega) ?_))
 have hRe:Rw=blkP (ix m.Blocks n) (enS m.Blocks I n):=blkP_eq hRl (fun j hj=>hRw j (by omega) hj)
 subst hRe
 exact jr1 Z Z () Z dn (fun _ _=>(kc k3 (kc k1 (kc k2 (kc k0 kn)))))
end Go.Proofs.YtehhjlkmbdhckaaGreat
namespace Go.Proofs.YtehhjlkmbdhckaaGreat
open Go.JE
theorem E68:Ent Tryz.prog 68:=⟨_,Tryz.func68,by kernel_rfl,by kernel_rfl⟩
theorem I86:(Tryz.prog.info? 86).map (fun i=>(i.zero,i.size,i.bytes))=some (some (.map none),1,8):=by kernel_rfl
theorem I87:(Tryz.prog.info? 87).map (fun i=>(i.zero,i.size,i.bytes))=some (some (.slice none 0 0),1,24):=by kernel_rfl
theorem Z88:Sz Tryz.prog 88 1:=by unfold Sz;kernel_rfl
theorem mu_dec{bs:List D.MBlock}{c c2:Bool}{E I E2 I2:List (List Int)}{Gs:List OS}{vs:List Value}{Rs:List (List OS)}{p:Nat}(h1:c=true)(h:OL bs p c2 (tot E+tot I) E2 I2 Gs vs Rs)(h2:tot E+tot I≤16384*bs.length)(h3:tot E2+tot I2≤16384*bs.length) :
  (if c2=true then 16384*bs.length+1-(tot E2+tot I2) else 0)<(if c=true then 16384*bs.length+1-(tot E+tot I) else 0):=by
 rw[if_pos h1];split
 ·rename_i h4;have:=h.lt h4;omega
 ·omega
set_option maxRecDepth 4000
theorem of_ct{a0:Value}{m:D.MFunc}(hr:rightM m=true):Tr Tryz.prog 40 #[vMFunc m a0] [da rMFunc (vMFunc m a0) m] [] (fun c:Nat×Value×Value => .pointer (some ⟨c.1,0,none⟩)) (fun c=>[dv (rL rSet) c.2.1 ((loE m.Blocks).map some),dv (rL (rL rSet)) c.2.2 (plM m.Blocks)]) (fun _ c=>[bx c.1 90 [.int .i64 m.Params,a0,c.2.1,c.2.2]]):=by
 refine jenter (args:=[vMFunc m a0]) Tryz.func40 rfl rfl rfl fun w0 X=>?_
 have hw:=right_wl hr
 have hq:=right_ins hr
 have hn0:=(right_wf hr).n0
 refine jq (jr (jbox Z Z fun g1=>ja Z (jn (jx (jq (jq (jr (js (jla k0 A28 Z28 Z Z Z) (jcv E34 Z Z pRight_ct (dc d0 dn) kn (js (jnot Z) ?_))))))))))
 refine jn (jx ?_)
 refine jif Z (fun hc1=>?_) (fun hc1=>?_)
 exact absurd hc1 (by simp[hr])
 refine jsk (jx (jq (jr (js (jla k0 A28 Z28 Z Z Z) (jdq (rMFunc.cB d0) fun q1 w1=>js (jbu (v := .agg #[.int .i64 m.Params,a0,.slice none 0 0,.slice none 0 0]) Z (fun _=>by obtain⟨_,_,_,rfl⟩:=w1;kernel_rfl)) (jbox Z Z fun g13=>ja Z (jn (jx (jq ?_)))))))))
 refine jq (jr (js (jf F28_1 Z) (js (jl k1 O26 Z Z) (jnl (r:=rSet) (E:=86) (jnl (r:=rV) (E:=87) (jrn (r:=rSet) (T:=86) 0 (js (jln U26 (rMFunc.cB d0) Z) (jm Z (jn (jx (jb ?_)))))))))))
 refine jlp (u6 fun(k:Nat) (ev:Value) (pv:Value) (Es:List OS) (vs:List Value) (Ps:List (List OS))=>⟨k≤m.Blocks.length∧vs.length=k∧Ps.length=k∧Es=List.replicate k (some [])∧∀b,b<k→(ix Ps b).length=(ix m.Blocks b).Ins.length+1∧ix (ix Ps b) 0=some [],[da rMFunc (vMFunc m a0) m],[rw' X.n rSet 86 vs Ps,gl X.n rV 87 pv vs,gl X.n rSet 86 ev Es,bx g13 90 [.int .i64 m.Params,a0,ev,pv],bx g1 28 [.int .i64 m.Params,a0]],[(1,.pointer (some ⟨g1,0,none⟩)),(2,.pointer none),(3,.pointer (some ⟨g13,0,none⟩)),(15,a0),(16,.int .i64 (↑(List.length m.Blocks))),(17,.int .i64 (↑k))],m.Blocks.length-k⟩) (0,.slice none 0 0,.slice none 0 0,[],[],[]) ⟨by dsimp only;omega,rfl,rfl,rfl,fun b hb=>absurd hb (Nat.not_lt_zero b)⟩ (dc d0 dn) (kd (kd (kc k0 kn))) ⟨Z,Z,Z,Z,Z,eqI (by omega),trivial⟩ ?_
 rintro⟨k,ev,pv,Es,vs,Ps⟩;dsimp only[u6];rintro⟨hk,hvk,hpk,hEk,hrk⟩
 refine cgo k2 fun w2=>cgo k1 fun w3=>?_
 have hek:Es.length=k:=by rw[hEk];simp
 refine jq (jr (js (jlss Z Z) (jn (jx (jq ?_)))))
 refine jif Z (fun hc2=>?_) (fun hc2=>?_)
 have hkb:k<m.Blocks.length:=by omega
 refine jsk (jx (jq (jb (jq (jr (js (jix U26 Z37 (rMFunc.cB d0) Z Z Z (by omega)) (jA3 sMBlock (jlA (dix (rMFunc.cB d0) k (by omega)) A37 Z37 Z) fun c20a c20b c20c=>jalc J37 Z fun g5=>jdq (rMBlock.cP d0) fun q5 w5=>jdq (rMBlock.cI d0) fun q6 w6=>jdq (rMBlock.cT d0) fun q7 w7=>?_)))))))
 refine jsta k0 Z37 Z Z Z ⟨w5.one,w6.one,Z,Z,Z,w7.one,Z,trivial⟩ (saf Z) (jn (jx (jq (jr (jm Z (jm Z (js (jnil Z) (js (jf F90_1 Z) (js (jl k4 O87 Z Z) (jsm fun g26=>jfs k0 ?_))))))))))
 refine japv U87 I86 (by decide) Z Z k3 Z d0 (by omega) (fun _=>Z) fun v28 _ w9=>js (jnil Z) (js (jf F90_1 Z) (jst k4 Z87 Z Z w9.one s2 (jn (jx (jq (jany true (.a 0 (.a 1 (.a 2 (.a 3 (.a 4 (.a 5 (.a 6 (.a 7 (.a 8 (.o 9 (.o 10 (.o 11 (.a 12 (.a 13 (.o 14 .e))))))))))))))) Mixed (by kernel_rfl) (kc k0 (kc k1 kn)) fun F10=>jy Z (jmv Z) (jy Z (jmv Z) (jy Z (jnil Z) (jy Z (jf F90_2 Z) ?_)))))))))
 refine jy Z (jl k0 O88 Z Z) (jy Z (jf F37_1 Z) (jy Z (jl k1 O33 Z Z) (jy Z (jln U33 (rMBlock.cI d1) Z) (jy Z (jadd Z Z (by omega)) (jyo Z (jmk (m:=((ix m.Blocks k).Ins.length+1)) (r:=rSet) U87 I86 Z Z Z (by omega) (by omega) (by omega) wSn Z fun g40=>jyn d0 (kc k1 (kc k2 kn)) (jyo Z (jlit (r:=rV) (l:=[(.slice (some ⟨g40,0,none⟩) ((ix m.Blocks k).Ins.length+1) ((ix m.Blocks k).Ins.length+1))]) U88 I87 (by decide) Z Z Z (lV Z Z (wV Z) ln) fun g41=>jyn d0 (kc k2 (kc k3 kn)) (jyo Z ?_)))))))))
 refine jfz k0 (by simp) (japl U88 I87 (by decide) Z k5 Z Z d0 (by simp<;>omega) fun v42 q15=>jrm k5 k1 (by omega) (jyn d1 (kc k2 (kc k3 kn)) (jy Z (jnil Z) (jy Z (jf F90_2 Z) (jyo Z (jst k2 Z88 Z Z q15.one s3 (jyz d0 (jyd (jx (cro k k1 (by first|omega|(simp<;>omega)) (by first|omega|(simp<;>omega)) ?_))))))))))
 refine cgo k0 fun w17=>?_
 have hgl:0<(List.getD (Ps++[List.replicate ((ix m.Blocks k).Ins.length+1) none]) k []).length:=by rw[getD_last hpk];simp
 have hvl:List.length (vs++[(.slice (some ⟨g40,0,none⟩) ((ix m.Blocks k).Ins.length+1) ((ix m.Blocks k).Ins.length+1))])=k+1:=by simp[hvk]
 refine jany false (.a 0 (.a 1 (.a 2 (.a 3 (.a 4 (.a 5 (.a 6 (.a 7 (.a 8 (.a 9 (.a 10 (.a 11 (.o 12 (.o 13 (.o 14 .e))))))))))))))) Mixed (by kernel_rfl) (kc k2 (kc k2 kn)) fun F18=>jy Z (jmv Z) (jy Z (jnil Z) (jy Z (jf F90_2 Z) (jy Z (jl k0 O88 Z Z) (jy Z (jmv Z) (jy Z (jnil Z) (jy Z (jf F90_2 Z) (jy Z (jl k0 O88 Z Z) (jy Z (jlg U88 k1 Z) (jy Z (jsub Z Z (by omega)) (jy Z (jig (i:=k) U88 Z87 k1 Z Z (by omega) (by first|omega|(simp<;>omega))) ?_))))))))))
 refine jy Z (jgW k1 (by first|omega|(simp<;>omega)) O87 Z) (jyo Z (jsm fun g57=>jyn d0 (kc k3 (kc k3 kn)) (jyo Z (js (jig (i:=0) U87 Z86 k1 Z Z Z (by first|omega|(simp<;>omega))) (jyn d0 (kc k3 (kc k3 kn)) (jyo Z (jfs k0 (jsg k0 Z Z86 Z Z Z (by first|omega|(simp<;>omega)) d0 (jyn d1 (kc k2 (kc k2 kn)) (jyd ?_))))))))))
 refine jbn (jx (jr (jruv k0 k0 (by first|omega|(simp<;>omega)) (by first|omega|(simp<;>omega)) (js (jadd Z Z (by omega)) (jm Z (jn ?_))))))
 exact jag (k+1,v28,v42,Es++[some ([])],vs++[(.slice (some ⟨g40,0,none⟩) ((ix m.Blocks k).Ins.length+1) ((ix m.Blocks k).Ins.length+1))],List.set (Ps++[List.replicate ((ix m.Blocks k).Ins.length+1) none]) k (List.set (List.getD (Ps++[List.replicate ((ix m.Blocks k).Ins.length+1) none]) k []) 0 (some ([])))) ⟨by dsimp only;omega,by simp;omega,by simp;omega,by dsimp only;rw[hEk,List.replicate_succ'],row_more hpk hkb rfl hrk⟩ (dc d11 dn) (kc k0 (kc k1 (kc k1 (kc k0 (kc k1 kn))))) ⟨Z,Z,Z,Z,Z,eqI (by omega),trivial⟩
 refine jex (jtx (jtx (jbh (jx (jq (jq (jr (ja Z (jn (jx (jb ?_)))))))))))
 have hkN:k=m.Blocks.length:=by omega
 have hFP0:=FP.beg (bs:=m.Blocks) (Es:=Es) (vs:=vs) (Ps:=Ps) (hvk.trans hkN) (hpk.trans hkN) (by rw[hEk,hkN]) (fun b hb=>hrk b (by omega))
 refine jlp (u5 fun(c:Bool) (E:List (List Int)) (I:List (List Int)) (Fs:List OS) (Qs:List (List OS))=>⟨FP m.Blocks E I Fs vs Qs∧(c=false→∀j,j<m.Blocks.length→Fix m.Blocks E I j∧ix Qs j=blkP (ix m.Blocks j) (ix E j)),[da rMFunc (vMFunc m a0) m],[rw' X.n rSet 86 vs Qs,gl X.n rV 87 pv vs,gl X.n rSet 86 ev Fs,bx g13 90 [.int .i64 m.Params,a0,ev,pv],bx g1 28 [.int .i64 m.Params,a0]],[(1,.pointer (some ⟨g1,0,none⟩)),(2,.pointer none),(3,.pointer (some ⟨g13,0,none⟩)),(6,.bool c)],if c=true then 16384*m.Blocks.length+1-(tot E+tot I) else 0⟩) (true,List.replicate m.Blocks.length [],List.replicate m.Blocks.length [],Es,Ps) ⟨hFP0,fun h=>by cases h⟩ (dc d0 dn) (kd (kd (kc k0 kn))) ⟨Z,Z,Z,Z,trivial⟩ ?_
 rintro⟨c,E,I,Fs,Qs⟩;dsimp only[u5];rintro⟨hF,hcF⟩
 refine jq (jq (jr (jm Z (jn (jx ?_)))))
 refine jif Z (fun hc3=>?_) (fun hc3=>?_)
 have hc2:c=true:=by simpa using hc3
 refine jsk (jx (jb (jq (jr (ja Z (jn (jx (jq (jr (js (jf F28_1 Z) (js (jl k4 O26 Z Z) ?_)))))))))))
 refine js (jln U26 (rMFunc.cB d0) Z) (js (jsub Z Z (by omega)) (ja Z (jn (jx (jb ?_)))))
 refine jlp (u6 fun(p:Nat) (c2:Bool) (E2:List (List Int)) (I2:List (List Int)) (Gs:List OS) (Rs:List (List OS))=>⟨p≤m.Blocks.length∧OL m.Blocks p c2 (tot E+tot I) E2 I2 Gs vs Rs,[da rMFunc (vMFunc m a0) m],[rw' X.n rSet 86 vs Rs,gl X.n rV 87 pv vs,gl X.n rSet 86 ev Gs,bx g13 90 [.int .i64 m.Params,a0,ev,pv],bx g1 28 [.int .i64 m.Params,a0]],[(1,.pointer (some ⟨g1,0,none⟩)),(2,.pointer none),(3,.pointer (some ⟨g13,0,none⟩)),(6,.bool c2),(7,.int .i64 ((p:Int)-1))],p⟩) (m.Blocks.length,false,E,I,Fs,Qs) ⟨by dsimp only;omega,OL.beg hF⟩ (dc d0 dn) (kd (kd (kc k0 kn))) ⟨Z,Z,Z,Z,eqI (by omega),trivial⟩ ?_
 rintro⟨p,c2,E2,I2,Gs,Rs⟩;dsimp only[u6];rintro⟨hp,hO⟩
 refine jq (jq (jr (jm Z (js (jgeq Z Z) (jn (jx ?_))))))
 refine jif Z (fun hc4=>?_) (fun hc4=>?_)
 refine jsk (jx (jq (jb (jr (jm Z (jm Z (jc E68 Z Z (block_ct (n:=(p-1)) (m:=m) (by omega) (by omega) hw hO.fp hq) (dc (rMFunc.cB d0) dn) (kc k3 (kc k2 (kc k1 (kc k0 (kn))))) (fun _=>p0) (fun _=>p4) fun _=>jm Z (jg Z Z (.f _) (fun hg=>jmv Z) (js (jor Z Z) (ja Z ?_))))))))))
 refine jn (jbn (jx (jr (jm Z (js (jsub Z Z (by omega)) (ja Z (jn ?_)))))))
 exact jag (p-1,(blkC m.Blocks E2 I2 (p-1))||c2,E2.set (p-1) (enS m.Blocks I2 (p-1)),I2.set (p-1) (begS m.Blocks (p-1) (enS m.Blocks I2 (p-1))),Gs.set (p-1) (some (enS m.Blocks I2 (p-1))),Rs.set (p-1) (blkP (ix m.Blocks (p-1)) (enS m.Blocks I2 (p-1)))) ⟨by dsimp only;omega,hO.step hw (by omega) hp rfl⟩ (dc d0 dn) (kc k3 (kc k2 (kc k1 (kd kn)))) ⟨Z,Z,Z,Z,eqI (by omega),trivial⟩
 refine jex (jtx (jtx (jbh (jbn ?_))))
 exact jag (c2,E2,I2,Gs,Rs) ⟨hO.fp,fun h j hj=>hO.fx h j (by omega) hj⟩ (dc d0 dn) (kd (kd (kc k0 kn))) ⟨Z,Z,Z,Z,trivial⟩ (by dsimp only[u5];exact mu_dec hc2 hO (hF.small hw) (hO.fp.small hw))
 refine jex (jtx (jtx (jbh (jx (jq (jr ?_))))))
 obtain⟨hE9,hF9,hQ9⟩:=hF.done hw (hcF (by simpa using hc3))
 subst hF9
 subst hQ9
 refine jfz k2 (by have:=loE_len hw;simp;omega) (jfr k1 k0 (hF.vl.trans plM_len.symm) (by rw[plM_len];omega) (plM_mem hq) (jm Z (ja Z (jn (jx (jrt ?_))))))
 exact jr1 Z Z ((g13,ev,pv):Nat×Value×Value) Z (dc d1 (dc d0 dn)) (fun _ _=>kc k0 kn)
end Go.Proofs.YtehhjlkmbdhckaaGreat
namespace Go.JE
variable{P:Program}{D:List Dt}{L M:List Res}{e:Env}{H:Heap}{T T' E:TypeId}{x y:Operand}{p:Option Addr}
theorem equalIn_pN(hT:P.underlying T=some (.pointer E))(d:Nat)(w:World):(Op.equalIn (d+1) T (.pointer p) (.pointer none)).run P w = .ok p.isNone w:=by
 cases p<;>(simp only[Op.equalIn,Sem.run_bind,run_underlying hT,Result.andThen_ok];rfl)
theorem OpOk.eqlP(hT:P.underlying T=some (.pointer E))(hx:ev e x=some (.pointer p))(hy:ev e y=some (.pointer none)):OpOk P e (.binOp .eql T x y T') H (.bool p.isNone):=by
 intro ρ o w ho hev _
 have h1:(Op.equal T (.pointer p) (.pointer none)).run P w = .ok p.isNone w:=equalIn_pN hT 9999 w
 simp only[execOp,ho,hev _ _ hx,hev _ _ hy,eqGuard,binOp]
 simp[h1]
theorem OpOk.neqP(hT:P.underlying T=some (.pointer E))(hx:ev e x=some (.pointer p))(hy:ev e y=some (.pointer none)):OpOk P e (.binOp .neq T x y T') H (.bool (!p.isNone)):=by
 intro ρ o w ho hev _
 have h1:(Op.equal T (.pointer p) (.pointer none)).run P w = .ok p.isNone w:=equalIn_pN hT 9999 w
 simp only[execOp,ho,hev _ _ hx,hev _ _ hy,eqGuard,binOp]
 simp[h1]
theorem jeqlP(hT:P.underlying T=some (.pointer E))(hx:ev e x=some (.pointer p))(hy:ev e y=some (.pointer none)):OH P D L e (.binOp .eql T x y T') (.bool p.isNone):=fun _ _ _ _ _=>OpOk.eqlP hT hx hy
theorem jneqP(hT:P.underlying T=some (.pointer E))(hx:ev e x=some (.pointer p))(hy:ev e y=some (.pointer none)):OH P D L e (.binOp .neq T x y T') (.bool (!p.isNone)):=fun _ _ _ _ _=>OpOk.neqP hT hx hy
section
variable{α:Type} [Inhabited α]{r:Rp α}{F:PH}{v:Value}{l:List α}{B i off:Nat}{k:IntKind}{n:Int}
theorem OpOk.ldGF(h:Gl r E F H B v l)(hi:i<l.length)(ho:off<r.sz)(hok:∀f,r.ok F (ix l i) f→f off = .int k n)(hT:One P T)(hx:ev e x=some (.pointer (some ⟨vblk v,voff v+i*r.sz+off,none⟩))):OpOk P e (.load T x) H (.int k n):=by
 obtain⟨f,h1,h2⟩:=h.cell hi (j:=off) ho
 have h3:=hok f (by rw[ix_eq hi];exact h1)
 rw[h3] at h2
 refine OpOk.load hT hx rfl ?_
 first|exact h2|(rw[Nat.add_assoc];exact h2)
theorem jgF(hk:Tk L (gl B r E v l) M)(hi:i<l.length)(hok:∀F f,r.ok F (ix l i) f→f off = .int k n)(hT:One P T)(hx:ev e x=some (.pointer (some ⟨vblk v,voff v+i*r.sz+off,none⟩)))(ho:off<r.sz:=by exact Nat.le_of_ble_eq_true rfl):OH P D L e (.load T x) (.int k n):=fun F H _ _ h=>OpOk.ldGF (hk.ok h).1.1 hi ho (fun f=>hok F f) hT hx
end
theorem results_cell1{fn:Func}{p g:Nat}{ty:TypeId}{v:Value}(h:fn.results=#[.cell p ty])(tmps:Array Value)(w:World)(hp:tmps.getD p undef = .pointer (some ⟨g,0,none⟩))(hO:One P ty)(hc1:w.cell? ⟨g,0,none⟩=some v) :
  (results fn tmps).run P w = .ok v w:=by
 have hp':tmps[p]?.getD undef = .pointer (some ⟨g,0,none⟩):=by simpa using hp
 simp[results,h,hp',asAddr,loadVar,hO.run,hc1]
theorem PF.retV{n:Nat}{w0:World}{fn:Func}{R:Value→Heap→Prop}{p g:Nat}{ty T:TypeId}{v:Value}(hr:fn.results=#[.cell p ty])(hv:lk e p=some (.pointer (some ⟨g,0,none⟩)))(hb:Bx H g T [v])
  (hO:One P ty) (hR:R v H):PF ⟨n,[]⟩ w0 (BQ P fn w0 R) e .ret H:=by
 intro a w hf hw
 exact bodyPost_ret (results_cell1 hr _ w (hf.get p _ hv) hO (by rw[cell_hc,hw.heap];exact hb.hc rfl)) hf.defers ⟨_,rfl,hw.os,hw.tape,hw.output,hw.heap▸hR⟩
section
variable{Q:Exit→Act→World→Prop}{X:Cx}{w0:World}{fn:Func}{m:Nat}{ι:Type}{val:ι→Value}{dr:ι→List Dt}{lr:Nat→ι→List Res}{N:List Res}
theorem jrcV{p g:Nat}{ty T:TypeId}{v:Value}(hr:fn.results=#[.cell p ty])(hv:lk e p=some (.pointer (some ⟨g,0,none⟩)))(hb:Tk L (bx g T [v]) N)(hO:One P ty)
 (i:ι) (hm:v=val i) (hd:Sd D L (dr i)) (hk:∀B,B≤X.n→Tks L (lr B i) M):QH ⟨m,[]⟩ w0 (RQ2 P fn w0 X val dr lr) X D L e .ret:=fun F H hp=>PF.retV hr hv (hp.at hb).1 hO ⟨i,F,hm,fun B hB=>hp.sub hd (hk B hB)⟩
theorem jrcD{α:Type}{r:Rp α}{a b:α}{p g:Nat}{ty T:TypeId}{v:Value}(hr:fn.results=#[.cell p ty])(hv:lk e p=some (.pointer (some ⟨g,0,none⟩)))(hb:Tk L (bx g T [v]) N)(hO:One P ty)(hm:a=b)(hd:Nd D L (dv r v b)) :
 QH ⟨m,[]⟩ w0 (RQ2 P fn w0 X (fun v:Value=>v) (fun v=>[dv r v a]) (fun _ _=>[])) X D L e .ret:=jrcV hr hv hb hO v rfl (dc (dcast hm hd) dn) (fun _ _=>kn)
end
structure St2q(P:Program)(T:TypeId)(k:IntKind):Prop where
 und : ∃ f0 f1, P.underlying T = some (.struct #[f0, f1]) ∧ f0.name ≠ "_" ∧ f1.name ≠ "_" ∧ f0.offset = 0 ∧ f1.offset = 1 ∧ P.underlying f0.type = some (.int k) ∧ P.underlying f1.type = some (.int k)
 stood:P.stoodInHeld T=false
 guard:P.eqGuardType P.depth T=false
theorem equalIn_intq{T:TypeId}{k:IntKind}{a b:Int}(hT:P.underlying T=some (.int k))(d:Nat)(w:World):(Op.equalIn (d+1) T (.int k a) (.int k b)).run P w = .ok (a==b) w:=by
 simp only[Op.equalIn,Sem.run_bind,run_underlying hT,Result.andThen_ok];simp
theorem equalIn_st2q{T:TypeId}{k:IntKind}{a b c d:Int}(h:St2q P T k)(n:Nat)(w:World):(Op.equalIn (n+2) T (.agg #[.int k a,.int k b]) (.agg #[.int k c,.int k d])).run P w = .ok (decide (a=c∧b=d)) w:=by
 obtain⟨⟨f0,f1,hu,n0,n1,o0,o1,u0,u1⟩,hs,_⟩:=h
 have q0:(isAgg f0.type).run P w = .ok false w:=by simp[isAgg,run_underlying u0]
 have q1:(isAgg f1.type).run P w = .ok false w:=by simp[isAgg,run_underlying u1]
 have e0:∀x y,(Op.equalIn (n+1) f0.type (.int k x) (.int k y)).run P w = .ok (x==y) w:=fun x y=>equalIn_intq u0 n w
 have e1:∀x y,(Op.equalIn (n+1) f1.type (.int k x) (.int k y)).run P w = .ok (x==y) w:=fun x y=>equalIn_intq u1 n w
 rw[Op.equalIn]
 simp only[Sem.run_bind,run_underlying hu,Result.andThen_ok]
 by_cases h1:a=c
 ·subst h1
  by_cases h2:b=d
  ·subst h2;simp[hs,n0,n1,part,o0,o1,q0,q1,e0,e1]
  ·simp[hs,n0,n1,part,o0,o1,q0,q1,e0,e1,h2]
 ·simp[hs,n0,n1,part,o0,o1,q0,q1,e0,e1,h1]
theorem OpOk.neqSt2q{T T':TypeId}{k:IntKind}{x y:Operand}{a b c d:Int}(h:St2q P T k)(hx:ev e x=some (.agg #[.int k a,.int k b]))(hy:ev e y=some (.agg #[.int k c,.int k d])):OpOk P e (.binOp .neq T x y T') H (.bool (!decide (a=c∧b=d))):=by
 intro ρ o w ho hev _
 have h1:(Op.equal T (.agg #[.int k a,.int k b]) (.agg #[.int k c,.int k d])).run P w = .ok (decide (a=c∧b=d)) w:=equalIn_st2q h 9998 w
 simp only[execOp,ho,hev _ _ hx,hev _ _ hy,eqGuard,binOp]
 simp[h1,h.guard]
theorem jneqSt{k:IntKind}{a b c d:Int}(h:St2q P T k)(hx:ev e x=some (.agg #[.int k a,.int k b]))(hy:ev e y=some (.agg #[.int k c,.int k d])):OH P D L e (.binOp .neq T x y T') (.bool (!decide (a=c∧b=d))):=fun _ _ _ _ _=>OpOk.neqSt2q h hx hy
end Go.JE
namespace Go.Proofs.YtehhjlkmbdhckaaGreat
open Go.JE
theorem E17:Ent Tryz.prog 17:=⟨_,Tryz.func17,by kernel_rfl,by kernel_rfl⟩
theorem of_no{a0:Value}{m:D.MFunc}(hr:rightM m=false):Tr Tryz.prog 40 #[vMFunc m a0] [da rMFunc (vMFunc m a0) m] [] (fun _:Unit => .pointer none) (fun _=>[]) (fun _ _=>[]):=by
 refine jenter (args:=[vMFunc m a0]) Tryz.func40 rfl rfl rfl fun w0 X=>?_
 refine jq (jr (jbox Z Z fun g1=>ja Z (jn (jx (jq (jq (jr (js (jla k0 A28 Z28 Z Z Z) (jcv E34 Z Z pRight_ct (dc d0 dn) kn (js (jnot Z) ?_))))))))))
 refine jn (jx ?_)
 refine jif Z (fun hc1=>?_) (fun hc1=>?_)
 refine jq (jr (ja Z (jn (jx (jrt (jtr ?_))))))
 exact jr1 Z Z () Z dn (fun _ _=>kn)
 exact absurd hc1 (by simp[hr])
theorem number_ct{a0:Value}{m:D.MFunc}(b:Int)(p:Int):Tv Tryz.prog 15 #[vMFunc m a0,.int .i64 b,.int .i64 p] [da rMFunc (vMFunc m a0) m] [] (.int .i64 (numM m b p)):=by
 refine jenter (args:=[vMFunc m a0,.int .i64 b,.int .i64 p]) Tryz.func15 rfl rfl rfl fun w0 X=>?_
 refine jq (jr (jbox Z Z fun g3=>ja Z (jn (jx (jq (jq (jr (jm Z (js (jlss Z Z) (jm Z ?_))))))))))
 refine jg Z Z (.f _) (fun hg=>jmv Z) (jg Z Z (.f _) (fun hg=>jf F28_1 Z) (jg Z Z (.f _) (fun hg=>jl k0 O26 (evg Z hg) Z) (jdq (rMFunc.cB d0) fun q1 w1=>jg Z Z (.f _) (fun hg=>jln U26 (rMFunc.cB d0) (evg Z hg)) (jg Z Z (.f _) (fun hg=>jgeq (evg Z hg) (evg Z hg)) (js (jor Z Z) (jm Z (jg Z Z (.f _) (fun hg=>jmv Z) (jg Z Z (.f _) (fun hg=>jlss (evg Z hg) Z) (js (jor Z Z) (jm Z ?_))))))))))
 refine jg Z Z (.f _) (fun hg=>jmv Z) (jg Z Z (.f _) (fun hg=>jf F28_1 Z) (jg Z Z (.f _) (fun hg=>jl k0 O26 (evg Z hg) Z) (jg Z Z (.f _) (fun hg=>jmv Z) (jg Z Z (.f _) (fun hg=>jix (i:=(Int.toNat b)) U26 Z37 (rMFunc.cB d0) (evg Z hg) (evg Z hg) (by first|omega|(simp at hg;omega)) (by first|omega|(simp at hg;omega)|(simp only[List.length_set];omega)|(simp;done))) (jg Z Z (.f _) (fun hg=>jf F37_1 (evg Z hg)) (jge (q:=fun v=>dv (rL rMach) v ((ix m.Blocks (Int.toNat b)).Ins)) Z Z (.f _) (fun hg=>jlV (rMBlock.A_Ins (dix (rMFunc.cB d0) (Int.toNat b) (by first|omega|(simp at hg;omega)|(simp only[List.length_set];omega)|(simp;done)))) O33 Z (evg Z hg)) fun v30=>jg Z Z (.f _) (fun hg=>jln U33 (d0.on hg) (evg Z hg)) (jg Z Z (.f _) (fun hg=>jgtr (evg Z hg) (evg Z hg)) (js (jor Z Z) (jm Z (jg Z Z (.f _) (fun hg=>jla k0 A28 Z28 Z Z Z) ?_))))))))))
 refine jgc Z Z (.f _) E34 Z (fun hg=>evl1 (evg Z hg)) (fun hg=>pRight_ct) (fun hg=>(dc d1 dn)) kn p0 (jg Z Z (.f _) (fun hg=>jnot (evg Z hg)) (js (jor Z Z) (jn (jx ?_))))
 refine jif Z (fun hc1=>?_) (fun hc1=>?_)
 refine jq (jr (ja Z (jn (jx (jrt (jtr ?_))))))
 exact jrI Z Z (by first|(rw[numM,if_pos hth,hs,show k=Int.toNat b by omega];done)|(rw[numM,if_neg (fun h9=>by have h8:=there_yes h9;rcases hc1 with h7|h7;(omega);(first|(rw[h8.1] at h7;cases h7)|(simp[h8.1] at h7)))];done))
 have hrt:=hc1.2
 have hq:=right_ins hrt
 have hn0:=(right_wf hrt).n0
 have hib:=hq (Int.toNat b) (by omega)
 have hth:thereM m b p=true:=there_mk ⟨hrt,by omega,by omega,by omega,by omega⟩
 have htl:(m.Blocks.take (Int.toNat b)).length=Int.toNat b:=by rw[List.length_take];omega
 refine jsk (jx (jq (jr (jm Z (ja Z (jn (jx (jq (jq (jr (js (jf F28_1 Z) ?_)))))))))))
 refine js (jl k0 O26 Z Z) (jm Z (js (jshi (hi:=(Int.toNat b)) U26 Z37 (rMFunc.cB d1) Z Z (by omega) (by omega)) (jdq (dhi (rMFunc.cB d1) (Int.toNat b) (by omega) (by omega)) fun q3 w3=>js (jln U26 (dhi (rMFunc.cB d1) (Int.toNat b) (by omega) (by omega)) Z) (jm Z (jn (jx (jb ?_)))))))
 refine jlp (u2 fun(k:Nat) (s:Int)=>⟨k≤Int.toNat b∧s=p+sumB (m.Blocks.take k),[da rMFunc (vMFunc m a0) m],[],[(6,.int .i64 0),(7,.int .i64 s),(43,(resl 7 a0 0 (Int.toNat b))),(44,.int .i64 (↑(List.length (List.take (Int.toNat b) m.Blocks)))),(45,.int .i64 (↑k))],Int.toNat b-k⟩) (0,p) ⟨by omega,by simp[sumB]⟩ (dc d1 dn) kn ⟨Z,eqI (by omega),Z,Z,eqI (by omega),trivial⟩ ?_
 rintro⟨k,s⟩;dsimp only[u2];rintro⟨hk,hs⟩
 have hsb:=sumB_bd hq k (by omega)
 refine jq (jr (js (jlss Z Z) (jn (jx (jq ?_)))))
 refine jif Z (fun hc2=>?_) (fun hc2=>?_)
 have hit:=ix_take (l:=m.Blocks) (i:=k) (n:=Int.toNat b) (by omega)
 have hil:(ix (m.Blocks.take (Int.toNat b)) k).Ins.length=(ix m.Blocks k).Ins.length:=by rw[hit]
 have hik:=hq k (by omega)
 refine jsk (jx (jq (jb (jq (jr (js (jix U26 Z37 (dhi (rMFunc.cB d0) (Int.toNat b) (by omega) (by omega)) Z Z Z (by omega)) (jA3 sMBlock (jlA (dix (dhi (rMFunc.cB d0) (Int.toNat b) (by omega) (by omega)) k (by omega)) A37 Z37 Z) fun c48a c48b c48c=>jalc J37 Z fun g9=>jdq (rMBlock.cP d0) fun q5 w5=>jdq (rMBlock.cI d0) fun q6 w6=>jdq (rMBlock.cT d0) fun q7 w7=>?_)))))))
 refine jsta k0 Z37 Z Z Z ⟨w5.one,w6.one,Z,Z,Z,w7.one,Z,trivial⟩ (saf Z) (jn (jx (jr (jm Z (js (jf F37_1 Z) (js (jl k0 O33 Z Z) (js (jln U33 (rMBlock.cI d0) Z) (js (jadd Z Z (by omega)) (js (jadd Z Z (by omega)) (ja Z (jn ?_)))))))))))
 refine jbn (jx (jr (js (jadd Z Z (by omega)) (jm Z (jn ?_)))))
 exact jag (k+1,s+((((List.length ((ix (List.take (Int.toNat b) m.Blocks) k).Ins):Nat):Int))+1)) ⟨by dsimp only;omega,by dsimp only;rw[hs,sumB_next (by omega),hil];omega⟩ (dc d1 dn) kn ⟨Z,eqI (by omega),Z,Z,eqI (by omega),trivial⟩
 refine jex (jtx (jtx (jbh (jx (jq (jr (jm Z (ja Z (jn (jx (jrt ?_)))))))))))
 exact jrI Z Z (by first|(rw[numM,if_pos hth,hs,show k=Int.toNat b by omega];done)|(rw[numM,if_neg (fun h9=>by have h8:=there_yes h9;rcases hc1 with h7|h7;(omega);(first|(rw[h8.1] at h7;cases h7)|(simp[h8.1] at h7)))];done))
theorem row_ct{a0:Value}{a:List Int}{a1:Value}{b:List Int}:Tv Tryz.prog 17 #[a0,a1] [dv (rL (rI .i64)) a0 a,dv (rL (rI .i64)) a1 b] [] (.bool (rowQ a b)):=by
 refine jenter (args:=[a0,a1]) Tryz.func17 rfl rfl rfl fun w0 X=>?_
 refine jq (jr (ja Z (jn (jx (jq (jq (jr (jm Z (jdq d0 fun q1 w1=>js (jln U22 d0 Z) (jm Z ?_))))))))))
 refine jdq d1 fun q2 w2=>js (jln U22 d1 Z) (js (jneq Z Z) (jn (jx ?_)))
 refine jif Z (fun hc1=>?_) (fun hc1=>?_)
 refine jq (jr (ja Z (jn (jx (jrt (jtr ?_))))))
 exact jrB Z Z (by first|(exact decide_eq_true (row_ix (by omega) (fun j hj=>hall j (by omega))))|(exact decide_eq_false (fun h9=>by subst h9;exact hc3 rfl))|(exact decide_eq_false (fun h9=>by subst h9;exact hc1 rfl)))
 refine jsk (jx (jq (jq (jr (ja Z (jn (jx (jb ?_))))))))
 refine jlp (fun(k:Nat)=>⟨k≤a.length∧∀j,j<k→ix a j=ix b j,[dv (rL (rI .i64)) a0 a,dv (rL (rI .i64)) a1 b],[],[(0,a0),(1,a1),(5,.int .i64 (↑k))],a.length-k⟩) 0 ⟨by omega,fun j hj=>by omega⟩ (dc d0 (dc d1 dn)) kn ⟨Z,Z,eqI (by omega),trivial⟩ ?_
 rintro k;dsimp only;rintro⟨hk,hall⟩
 refine jq (jq (jr (jm Z (jm Z (js (jln U22 d0 Z) (js (jlss Z Z) (jn (jx ?_))))))))
 refine jif Z (fun hc2=>?_) (fun hc2=>?_)
 refine jsk (jx (jq (jb (jq (jstl Mixed (by kernel_rfl) (jt (jmv Z) (jt (jmv Z) (jt (jix U22 Z3 d0 Z Z Z (by omega)) (jt (jlI (dix d0 k (by omega)) O3 Z) (jt (jmv Z) (jt (jmv Z) ?_)))))))))))
 refine jt (jix U22 Z3 d1 Z Z Z (by omega)) (jt (jlI (dix d1 k (by omega)) O3 Z) (jt (jneq Z Z) (jdn (jx ?_))))
 refine jif Z (fun hc3=>?_) (fun hc3=>?_)
 refine jq (jr (ja Z (jn (jx (jrt (jbr (jtr (jtr (jbr (jtr ?_))))))))))
 exact jrB Z Z (by first|(exact decide_eq_true (row_ix (by omega) (fun j hj=>hall j (by omega))))|(exact decide_eq_false (fun h9=>by subst h9;exact hc3 rfl))|(exact decide_eq_false (fun h9=>by subst h9;exact hc1 rfl)))
 refine jsk (jbn (jx (jr (jm Z (js (jadd Z Z (by omega)) (ja Z (jn ?_)))))))
 exact jag (k+1) ⟨by omega,fun j hj=>by rcases Nat.lt_or_ge j k with h7|h7;(exact hall j h7);(rw[show j=k by omega];exact hc3)⟩ (dc d0 (dc d1 dn)) kn ⟨Z,Z,eqI (by omega),trivial⟩
 refine jex (jtx (jtx (jbh (jx (jq (jr (ja Z (jn (jx (jrt ?_))))))))))
 exact jrB Z Z (by first|(exact decide_eq_true (row_ix (by omega) (fun j hj=>hall j (by omega))))|(exact decide_eq_false (fun h9=>by subst h9;exact hc3 rfl))|(exact decide_eq_false (fun h9=>by subst h9;exact hc1 rfl)))
def restM(n k:Int):Int:=Int.tmod (Int.tmod n k+k) k
theorem rest_ct(n:Int)(k:Int)(hk1:0<k)(hk2:k≤1073741824):Tv Tryz.prog 14 #[.int .i64 n,.int .i64 k] [] [] (.int .i64 (restM n k)):=by
 refine jenter (args:=[.int .i64 n,.int .i64 k]) Tryz.func14 rfl rfl rfl fun w0 X=>?_
 have ht1:=tmod_in (n:=n) hk1
 refine jq (jr (ja Z (jn (jx (jq (jr (jm Z (jm Z (js (jrem Z Z (by omega)) (jm Z (js (jadd Z Z (by omega)) ?_)))))))))))
 refine jm Z (js (jrem Z Z (by omega)) (ja Z (jn (jx (jrt ?_)))))
 exact jrI Z Z (by rfl)
abbrev U91:=@Tryz.underlying91
theorem E15:Ent Tryz.prog 15:=⟨_,Tryz.func15,by kernel_rfl,by kernel_rfl⟩
theorem E39:Ent Tryz.prog 39:=⟨_,Tryz.func39,by kernel_rfl,by kernel_rfl⟩
theorem E40:Ent Tryz.prog 40:=⟨_,Tryz.func40,by kernel_rfl,by kernel_rfl⟩
theorem at_ct{a0:Value}{m:D.MFunc}(b:Int)(p:Int):Td Tryz.prog 18 #[vMFunc m a0,.int .i64 b,.int .i64 p] [da rMFunc (vMFunc m a0) m] [] (rL (rI .i64)) (atM m b p):=by
 refine jenter (args:=[vMFunc m a0,.int .i64 b,.int .i64 p]) Tryz.func18 rfl rfl rfl fun w0 X=>?_
 refine jq (jr (jbox Z Z fun g3=>ja Z (jn (jx (jq (jq (jr (js (jla k0 A28 Z28 Z Z Z) (jm Z (jm Z ?_))))))))))
 refine jcv E15 Z Z (number_ct b p) (dc d0 dn) kn (js (jlss Z Z) (jn (jx ?_)))
 refine jif Z (fun hc1=>?_) (fun hc1=>?_)
 refine jq (jr (ja Z (jn (jx (jrt (jtr ?_))))))
 exact jrD Z Z (by first|(rw[atM,if_pos hth];done)|(rw[atM,if_neg (by rw[numM_neg.1 hc1];simp)];done)) wN
 have hth:=numM_neg.2 hc1
 have hty:=there_yes hth
 have hr:=hty.1
 have hw:=right_wl hr
 have hq:=right_ins hr
 have hple:=plM_len (bs:=m.Blocks)
 have hpll:=pl_len (bs:=m.Blocks) (b:=Int.toNat b) (by omega)
 have hso:=at_ok (p:=Int.toNat p) hw (b:=Int.toNat b) (by omega)
 refine jsk (jx (jq (jr (js (jla k0 A28 Z28 Z Z Z) (jc E40 Z Z (of_ct hr) (dc d0 dn) kn (fun _=>p2) (fun _=>p1) fun c13=>js (jnil Z) (js (jf F90_2 Z) (js (jl k0 O88 Z Z) (jm Z (jdq d1 fun q3 w3=>js (jix (i:=(Int.toNat b)) U88 Z87 d1 Z Z (by omega) (by omega)) ?_)))))))))
 refine jev (jlV (dix d1 (Int.toNat b) (by omega)) O87 Z Z) fun v19 q4 w4=>jm Z (js (jix (i:=(Int.toNat p)) U87 Z86 d0 Z Z (by omega) (by omega)) (je (q:=fun v=>dv rSet v (ix (ix (plM m.Blocks) (Int.toNat b)) (Int.toNat p))) (jlV (dix d0 (Int.toNat p) (by omega)) O86 Z Z) fun v22=>jcg E39 Z Z (sorted_ct hso.w hso.n) (dc (dcast (a:=ix (ix (plM m.Blocks) (Int.toNat b)) (Int.toNat p)) (a':=some (atE m.Blocks (Int.toNat b) (Int.toNat p))) (at_some (by omega) (by omega)) d0) dn) kn fun v23 w7=>ja Z (jn (jx (jrt (qfz k0 (by have:=hso.n;omega) ?_))))))
 exact jrD Z Z (by first|(rw[atM,if_pos hth];done)|(rw[atM,if_neg (by rw[numM_neg.1 hc1];simp)];done)) d0
theorem liveHas_ct{g0:Nat}{bv ev pv:Value}{m:D.MFunc}(b:Nat)(p:Nat)(hr:rightM m=true)(hb:b<m.Blocks.length)(hp:p≤(ix m.Blocks b).Ins.length):Tr Tryz.prog 71 #[.pointer (some ⟨g0,0,none⟩),.int .i64 (b:Nat),.int .i64 (p:Nat)] [dv (rL rMBlock) bv m.Blocks,dv (rL rSet) ev (List.map some (loE m.Blocks)),dv (rL (rL rSet)) pv (plM m.Blocks)] [bx g0 90 [.int .i64 m.Params,bv,ev,pv]] (fun g:Nat => .map (some g)) (fun _=>[]) (fun B g=>[bx g0 90 [.int .i64 m.Params,bv,ev,pv],sm B g (hasE m b p)]):=by
 refine jenter (args:=[.pointer (some ⟨g0,0,none⟩),.int .i64 (b:Nat),.int .i64 (p:Nat)]) Tryz.func71 rfl rfl rfl fun w0 X=>?_
 have hw:=right_wl hr
 have hq:=right_ins hr
 have hqb:=hq b hb
 have hnP:=(right_wf hr).p0
 have hple:=plM_len (bs:=m.Blocks)
 have hpll:=pl_len (bs:=m.Blocks) hb
 refine jq (jr (ja Z (jn (jx (jq (jr (jm Z (js (jnil Z) (js (jf F90_2 Z) (js (jl k0 O88 Z Z) (jm Z ?_)))))))))))
 refine jdq d2 fun q1 w1=>js (jix U88 Z87 d2 Z Z Z (by omega)) (jev (jlV (dix d2 b (by omega)) O87 Z Z) fun v17 q2 w2=>jm Z (js (jix U87 Z86 d0 Z Z Z (by omega)) (je (q:=fun v=>dv rSet v (ix (ix (plM m.Blocks) b) p)) (jlV (dix d0 p (by omega)) O86 Z Z) fun v20=>jc E108 Z Z setClone_ct (dc (dcast (a:=ix (ix (plM m.Blocks) b) p) (a':=some (atE m.Blocks b p)) (at_some hb hp) d0) dn) kn (fun _=>p0) (fun _=>p1) fun g21=>ja Z (jn (jx (jq (jq ?_)))))))
 refine jr (jm Z (js (jgtr Z Z) (jn (jx ?_))))
 refine jif Z (fun hc1=>?_) (fun hc1=>?_)
 refine jq (jr (jm Z (jm Z (js (jnil Z) (js (jf F90_0 Z) (js (jf F28_1 Z) (js (jl k1 O26 Z Z) (jm Z (jdq d2 fun q5 w5=>js (jix U26 Z37 d2 Z Z Z (by omega)) (js (jf F37_1 Z) ?_))))))))))
 refine jev (jlV (rMBlock.A_Ins (dix d2 b (by omega))) O33 Z Z) fun v33 q6 w6=>jm Z (js (jsub Z Z (by omega)) (js (jix (i:=(p-1)) U33 Z69 d0 Z Z (by omega) (by omega)) (jA sMach (jlA (dix d0 (p-1) (by omega)) A69 Z69 Z) fun c37=>jcd E31 Z Z pMakes_ct (dc d0 dn) kn fun v38 q9 w9=>jc E110 Z Z with_ct (dc d0 dn) (kc k0 kn) (fun _=>p0) (fun _=>p1) fun _=>jn (jx (jq (jr (jm Z ?_)))))))
 refine ja Z (jn (jx (jrt (jtr ?_))))
 exact jr1 Z Z g21 Z dn (fun _ hB=>kc k1 (klS (by unfold hasE;rw[if_pos (by omega)]) hB k0 kn))
 refine jsk (jx (jq (jq (jr (jm Z (js (jnil Z) (js (jf F90_0 Z) (js (jf F28_1 Z) (js (jl k1 O26 Z Z) (jm Z (jdq d2 fun q11 w11=>?_)))))))))))
 refine js (jix U26 Z37 d2 Z Z Z (by omega)) (js (jf F37_0 Z) (jev (jlV (rMBlock.A_Phis (dix d2 b (by omega))) O32 Z Z) fun v49 q12 w12=>js (jln U32 d0 Z) (jm Z (jn (jx (jb ?_))))))
 refine jlp (u2 fun(i:Nat) (S1:List Int)=>⟨i≤(ix m.Blocks b).Phis.length∧S1=uniS (atE m.Blocks b p) (((ix m.Blocks b).Phis.take i).map (fun q=>q.Dst)),[dv (rL rPhi) v49 ((ix m.Blocks b).Phis),dv (rL rMBlock) bv m.Blocks,dv (rL rSet) ev (List.map some (loE m.Blocks)),dv (rL (rL rSet)) pv (plM m.Blocks)],[sm X.n g21 S1,bx g0 90 [.int .i64 m.Params,bv,ev,pv]],[(0,.pointer (some ⟨g0,0,none⟩)),(1,.int .i64 (↑b)),(6,.map none),(7,(.map (some g21))),(49,v49),(50,.int .i64 (↑(List.length ((ix m.Blocks b).Phis)))),(51,.int .i64 (↑i))],(ix m.Blocks b).Phis.length-i⟩) (0,(atE m.Blocks b p)) ⟨by dsimp only;omega,rfl⟩ (dc d0 (dc d3 (dc d4 (dc d5 dn)))) (kd kn) ⟨Z,Z,Z,Z,Z,Z,eqI (by omega),trivial⟩ ?_
 rintro⟨i,S1⟩;dsimp only[u2];rintro⟨hi1,hS1⟩
 refine jq (jr (js (jlss Z Z) (jn (jx (jq ?_)))))
 refine jif Z (fun hc2=>?_) (fun hc2=>?_)
 refine jsk (jx (jq (jb (jq (jr (js (jix U32 Z62 d0 Z Z Z (by omega)) (jA sPhi (jlA (dix d0 i (by omega)) A62 Z62 Z) fun c54=>jalc J62 Z fun g9=>jdq (rPhi.c_In d0) fun q15 w15=>jsta k0 Z62 Z Z Z ⟨Z,w15.one,trivial⟩ (saf Z) (jn ?_))))))))
 refine jx (jr (jm Z (js (jf F62_0 Z) (js (jl k0 O3 Z Z) (jlit (r:=(rI .i64)) (l:=[(ix ((ix m.Blocks b).Phis) i).Dst]) U22 I3 (by decide) Z Z Z (lV Z Z (wI (rPhi.W_Dst d0)) ln) fun g58=>jfz k0 (by(try simp)<;>omega) (jc E110 Z Z with_ct (dc d0 dn) (kc k1 kn) (fun _=>p0) (fun _=>p1) fun _=>jn (jbn (jx (jr ?_)))))))))
 refine js (jadd Z Z (by omega)) (jm Z (jn ?_))
 exact jag (i+1,uniS S1 ([(ix ((ix m.Blocks b).Phis) i).Dst])) ⟨by dsimp only;omega,by dsimp only;rw[hS1,take_ix (by omega),List.map_append,uniS_one];rfl⟩ (dc d2 (dc d3 (dc d4 (dc d5 dn)))) (kc k0 (kc k1 kn)) ⟨Z,Z,Z,Z,Z,Z,eqI (by omega),trivial⟩
 refine jex (jtx (jtx (jbh (jx (jq (jq (jr (jm Z (js (jnil Z) (js (jf F90_0 Z) (js (jf F28_0 Z) ?_)))))))))))
 refine js (jl k1 O3 Z Z) (jm Z (jn (jx (jb ?_))))
 have hS2:S1=uniS (atE m.Blocks b p) (dsts (ix m.Blocks b)):=by rw[hS1,List.take_of_length_le (by omega)];rfl
 refine jlp (u2 fun(r:Nat) (S2:List Int)=>⟨r≤Int.toNat m.Params∧S2=if b=0 then uniS S1 ((List.range r).map (fun r:Nat=>(r:Int))) else S1,[dv (rL rMBlock) bv m.Blocks,dv (rL rSet) ev (List.map some (loE m.Blocks)),dv (rL (rL rSet)) pv (plM m.Blocks)],[sm X.n g21 S2,bx g0 90 [.int .i64 m.Params,bv,ev,pv]],[(1,.int .i64 (↑b)),(6,.map none),(7,(.map (some g21))),(65,.int .i64 m.Params),(66,.int .i64 (↑r))],Int.toNat m.Params-r⟩) (0,S1) ⟨by dsimp only;omega,by dsimp only;split<;>rfl⟩ (dc d1 (dc d2 (dc d3 dn))) (kd kn) ⟨Z,Z,Z,Z,eqI (by omega),trivial⟩ ?_
 rintro⟨r,S2⟩;dsimp only[u2];rintro⟨hr1,hS3⟩
 refine jq (jr (js (jlss Z Z) (jn (jx (jq ?_)))))
 refine jif Z (fun hc3=>?_) (fun hc3=>?_)
 refine jsk (jx (jq (jb (jq (jr (jm Z (ja Z (jn (jx (jq (jr ?_)))))))))))
 refine jm Z (js (jeql Z Z) (jn (jx ?_)))
 refine jif Z (fun hc4=>?_) (fun hc4=>?_)
 refine jr (jm Z (jm Z (jlit (r:=(rI .i64)) (l:=[↑r]) U22 I3 (by decide) Z Z Z (lV Z Z (wI (wp (IntWalk.i64_in _ (by omega)))) ln) fun g73=>jfz k0 (by(try simp)<;>omega) (jc E110 Z Z with_ct (dc d0 dn) (kc k0 kn) (fun _=>p0) (fun _=>p1) fun _=>jn (jbn (jx (jr (js (jadd Z Z (by omega)) (jm Z ?_)))))))))
 refine jn ?_
 exact jag (r+1,uniS S2 ([((r:Nat):Int)])) ⟨by dsimp only;omega,by dsimp only;rw[hS3];rw[if_pos (show b=0 by omega),if_pos (show b=0 by omega),uniS_one,List.range_succ,List.map_append];rfl⟩ (dc d1 (dc d2 (dc d3 dn))) (kd kn) ⟨Z,Z,Z,Z,eqI (by omega),trivial⟩
 refine jsk (jbn (jx (jr (js (jadd Z Z (by omega)) (jm Z (jn ?_))))))
 exact jag (r+1,S2) ⟨by dsimp only;omega,by dsimp only;rw[hS3];rw[if_neg (show ¬b=0 by omega),if_neg (show ¬b=0 by omega)]⟩ (dc d0 (dc d1 (dc d2 dn))) (kd kn) ⟨Z,Z,Z,Z,eqI (by omega),trivial⟩
 refine jex (jtx (jtx (jbh (jx (jq (jr (jm Z (ja Z (jn (jx (jrt ?_)))))))))))
 exact jr1 Z Z g21 Z dn (fun _ hB=>kc k1 (klS (by unfold hasE;rw[if_neg (by omega),hS3,hS2,show r=Int.toNat m.Params by omega]) hB k0 kn))
theorem J4:(Tryz.prog.info? 4).bind (·.zero)=some (.bool false):=by kernel_rfl
theorem most1_ct(n:Int){a1:Value}{S0:List Int}(s:Int){g2:Nat}:Tr Tryz.prog 50 #[.int .i64 n,a1,.pointer (some ⟨g2,0,none⟩)] [dv rSet a1 (some S0)] [bx g2 3 [.int .i64 s]] (fun _:Unit => .tuple #[]) (fun _=>[]) (fun _ _=>[bx g2 3 [.int .i64 (max s (S0.length:Int))]]):=by
 refine jenter (args:=[.int .i64 n,a1,.pointer (some ⟨g2,0,none⟩)]) Tryz.func50 rfl rfl rfl fun w0 X=>?_
 refine jr (js (jl k0 O3 Z Z) (jm Z (js (jsfl U86 d0 Z) (js (jmax Z Z) (jst k0 Z3 Z Z Z s0 (jn ?_))))))
 exact jd0 Z () Z dn (fun _ _=>(kc k0 kn))
theorem tog1_ct(n:Int){a1:Value}{S0:List Int}(s:Bool){g2:Nat}(a:Int){g3:Nat}(b:Int){g4:Nat}:Tr Tryz.prog 48 #[.int .i64 n,a1,.pointer (some ⟨g2,0,none⟩),.pointer (some ⟨g3,0,none⟩),.pointer (some ⟨g4,0,none⟩)] [dv rSet a1 (some S0)] [bx g2 4 [.bool s],bx g3 3 [.int .i64 a],bx g4 3 [.int .i64 b]] (fun _:Unit => .tuple #[]) (fun _=>[]) (fun _ _=>[bx g2 4 [.bool (s||(decide (a∈S0)&&decide (b∈S0)))],bx g3 3 [.int .i64 a],bx g4 3 [.int .i64 b]]):=by
 refine jenter (args:=[.int .i64 n,a1,.pointer (some ⟨g2,0,none⟩),.pointer (some ⟨g3,0,none⟩),.pointer (some ⟨g4,0,none⟩)]) Tryz.func48 rfl rfl rfl fun w0 X=>?_
 refine jr (js (jl k0 O4 Z Z) (jm Z (jg Z Z (.f _) (fun hg=>jmv Z) (jg Z Z (.f _) (fun hg=>jl k1 O3 Z Z) (jg Z Z (.f _) (fun hg=>jsfk U86 U3 J4 d0 (evg Z hg) (evg Z hg)) (jg Z Z (.f _) (fun hg=>jmv (evg Z hg)) (jg Z Z (.gt _ _) (fun hg=>jmv Z) (jg Z Z (.gt _ _) (fun hg=>jl k2 O3 Z Z) (jg Z Z (.gt _ _) (fun hg=>jsfk U86 U3 J4 d0 (evg Z hg) (evg Z hg)) (jg Z Z (.f _) (fun hg=>jand2 hg Z Z) (js (jor Z Z) ?_)))))))))))
 refine jst k0 Z4 Z Z Z s0 (jn ?_)
 exact jd0 Z () Z dn (fun _ _=>(kd (kc k0 kn)))
abbrev U44:=@Tryz.underlying44
theorem E47:Ent Tryz.prog 47:=⟨_,Tryz.func47,by kernel_rfl,by kernel_rfl⟩
theorem E48:Ent Tryz.prog 48:=⟨_,Tryz.func48,by kernel_rfl,by kernel_rfl⟩
theorem E50:Ent Tryz.prog 50:=⟨_,Tryz.func50,by kernel_rfl,by kernel_rfl⟩
theorem E71:Ent Tryz.prog 71:=⟨_,Tryz.func71,by kernel_rfl,by kernel_rfl⟩
theorem F47_1:Fld Tryz.prog 47 1 1:=⟨_,_,Tryz.underlying47,rfl,rfl,1,(by unfold Sz;kernel_rfl),by decide⟩
theorem I47:(Tryz.prog.info? 47).map (fun i=>(i.zero,i.size,i.bytes))=some (some (.agg #[.int .i64 0,.int .i64 0]),2,16):=by kernel_rfl
theorem O44:One Tryz.prog 44:=⟨_,Tryz.underlying44,rfl⟩
theorem Z44:Sz Tryz.prog 44 1:=by unfold Sz;kernel_rfl
theorem Z47:Sz Tryz.prog 47 2:=by unfold Sz;kernel_rfl
theorem rRange.S_To{Γ:List Dt}{L:List Res}{m:D.Range}{x:Int}(h:Wr Γ L .i64 x):PO Γ L rRange m 1 [.int .i64 x] { m with To:=x }:=fun F H a b c f hf=>⟨⟨hf.1.1,hf.1.2⟩,⟨rfl,h F H a b c⟩⟩
theorem rng1_ct(n:Nat){a1:Value}{S0:List Int}{sv:Value}{l:List D.Range}{g2:Nat}{B2:Nat}(r:Int){g3:Nat}(hnb:n≤1000000000)(hlb:l.length≤1000000000):Tr Tryz.prog 47 #[.int .i64 (n:Nat),a1,.pointer (some ⟨g2,0,none⟩),.pointer (some ⟨g3,0,none⟩)] [dv rSet a1 (some S0)] [gl B2 rRange 47 sv l,bx g2 44 [sv],bx g3 3 [.int .i64 r]] (fun _:Value => .tuple #[]) (fun _=>[]) (fun _ v=>[gl B2 rRange 47 v (rngS r l n S0),bx g2 44 [v],bx g3 3 [.int .i64 r]]):=by
 refine jenter (args:=[.int .i64 (n:Nat),a1,.pointer (some ⟨g2,0,none⟩),.pointer (some ⟨g3,0,none⟩)]) Tryz.func47 rfl rfl rfl fun w0 X=>?_
 refine cgo k0 fun w1=>jq (jr (js (jl k1 O44 Z Z) (js (jlg U44 k0 Z) (js (jsub Z Z (by omega)) (ja Z (jn (jx (jb (jq (jr ?_))))))))))
 refine jm Z (js (jl k2 O3 Z Z) (js (jsfk U86 U3 J4 d0 Z Z) (js (jnot Z) (ja Z (jn (jx ?_))))))
 refine jif Z (fun hc1=>?_) (fun hc1=>?_)
 refine jsk (jbn ?_)
 have hR9:rngS r l n S0=l:=by unfold rngS;first|(rw[if_neg (by simpa using hc1)];done)|(rw[if_pos (by simpa using hc1),if_pos ⟨by omega,hc2.2⟩];done)|(rw[if_pos (by simpa using hc1),if_neg (fun h9=>hc2 ⟨by omega,h9.2⟩)];done)|(rw[if_pos (by simpa using hc1),if_neg (by omega)];done)
 rw[hR9]
 exact jd0 Z sv Z dn (fun _ _=>(kd (kc k0 kn)))
 refine jq (jr (jm Z (js (jgeq Z Z) (jm Z (jg Z Z (.t _) (fun hg=>jl k1 O44 Z Z) (jg Z Z (.t _) (fun hg=>jmv Z) (jg Z Z (.t _) (fun hg=>jig (i:=(l.length-1)) U44 Z47 k0 (evg Z hg) (evg Z hg) (by first|omega|(simp at hg;omega)) (by first|omega|(simp at hg;omega)|(simp only[List.length_set];omega)|(simp;done))) (jg Z Z (.t _) (fun hg=>jf F47_1 (evg Z hg)) (jg Z Z (.t _) (fun hg=>jgF (i:=(l.length-1)) (off:=1) (n:=(ix l (l.length-1)).To) k0 (by first|omega|(simp at hg;omega)) (fun _ _ h=>(h.2).1) O3 (evg Z hg)) (jg Z Z (.t _) (fun hg=>jmv Z) (jg Z Z (.t _) (fun hg=>jeql (evg Z hg) (evg Z hg)) ?_)))))))))))
 refine js (jand Z Z) (ja Z (jn (jx ?_)))
 refine jif Z (fun hc2=>?_) (fun hc2=>?_)
 refine jr (js (jl k1 O44 Z Z) (jm Z (jm Z (js (jadd Z Z (by omega)) (js (jig (i:=(l.length-1)) U44 Z47 k0 Z Z (by omega) (by omega)) (js (jf F47_1 Z) (jsp (i:=(l.length-1)) (off:=1) (a:={ ix l (l.length-1) with To:=↑n+1 }) k0 (by omega) Z3 Z (by omega) Z Z (rRange.S_To (wp (IntWalk.i64_in _ (by omega)))) (jn (jbn ?_)))))))))
 have hR9:rngS r l n S0=List.set l (l.length-1) ({ ix l (l.length-1) with To:=↑n+1 }):=by unfold rngS;first|(rw[if_neg (by simpa using hc1)];done)|(rw[if_pos (by simpa using hc1),if_pos ⟨by omega,hc2.2⟩];done)|(rw[if_pos (by simpa using hc1),if_neg (fun h9=>hc2 ⟨by omega,h9.2⟩)];done)|(rw[if_pos (by simpa using hc1),if_neg (by omega)];done)
 rw[hR9]
 exact jd0 Z sv Z dn (fun _ _=>(kd (kc k0 kn)))
 refine jr (js (jl k1 O44 Z Z) (jm Z (jm Z (js (jadd Z Z (by omega)) (js (jbu (v := .agg #[.int .i64 (↑n),.int .i64 (↑n+1)]) Z (fun _=>by kernel_rfl)) (jap U44 I47 (by decide) Z k0 Z (rRange.M (m:=⟨↑n,↑n+1⟩) (c:=()) (wp (IntWalk.i64_in ↑n (by omega))) (wp (IntWalk.i64_in (↑n+1) (by omega)))) (by omega) (fun _=>Z) fun v16 _ w2=>jst k1 Z44 Z Z w2.one s0 (jn (jbn ?_))))))))
 have hR9:rngS r l n S0=l++[⟨↑n,↑n+1⟩]:=by unfold rngS;first|(rw[if_neg (by simpa using hc1)];done)|(rw[if_pos (by simpa using hc1),if_pos ⟨by omega,hc2.2⟩];done)|(rw[if_pos (by simpa using hc1),if_neg (fun h9=>hc2 ⟨by omega,h9.2⟩)];done)|(rw[if_pos (by simpa using hc1),if_neg (by omega)];done)
 rw[hR9]
 exact jd0 Z v16 Z dn (fun _ _=>(kc k1 (kd kn)))
theorem eachMost_ct{g0:Nat}{bv ev pv:Value}{m:D.MFunc}(s0:Int){h0:Nat}(hr:rightM m=true):Tr Tryz.prog 46 #[.pointer (some ⟨g0,0,none⟩),.func (.func 50) #[] #[.pointer (some ⟨h0,0,none⟩)]] [dv (rL rMBlock) bv m.Blocks,dv (rL rSet) ev (List.map some (loE m.Blocks)),dv (rL (rL rSet)) pv (plM m.Blocks)] [bx g0 90 [.int .i64 m.Params,bv,ev,pv],bx h0 3 [.int .i64 s0]] (fun _:Unit => .tuple #[]) (fun _=>[]) (fun _ _=>[bx g0 90 [.int .i64 m.Params,bv,ev,pv],bx h0 3 [.int .i64 (stM mostS m m.Blocks.length 0 s0)]]):=by
 refine jenter (args:=[.pointer (some ⟨g0,0,none⟩),.func (.func 50) #[] #[.pointer (some ⟨h0,0,none⟩)]]) Tryz.func46 rfl rfl rfl fun w0 X=>?_
 have hw:=right_wl hr
 have hq:=right_ins hr
 have hn0:=(right_wf hr).n0
 have hple:=plM_len (bs:=m.Blocks)
 refine jq (jr (ja Z (jn (jx (jq (jr (jm Z (js (jnil Z) (js (jf F90_2 Z) (js (jl k0 O88 Z Z) (jdq d2 fun q1 w1=>?_)))))))))))
 refine js (jln U88 d2 Z) (jm Z (jn (jx (jb ?_))))
 have h00:(preP m 0 0).length=0:=rfl
 refine jlp (u2 fun(b:Nat) (s:Int)=>⟨b≤m.Blocks.length∧s=stM (mostS) m b 0 s0,[dv (rL rMBlock) bv m.Blocks,dv (rL rSet) ev (List.map some (loE m.Blocks)),dv (rL (rL rSet)) pv (plM m.Blocks)],[bx g0 90 [.int .i64 m.Params,bv,ev,pv],bx h0 3 [.int .i64 s]],[(0,.pointer (some ⟨g0,0,none⟩)),(1,.func (.func 50) #[] #[.pointer (some ⟨h0,0,none⟩)]),(4,.int .i64 (↑(preP m b 0).length)),(11,.int .i64 (↑(List.length (plM m.Blocks)))),(12,.int .i64 (↑b))],m.Blocks.length-b⟩) (0,s0) ⟨by dsimp only;omega,rfl⟩ (dc d0 (dc d1 (dc d2 dn))) (kd kn) ⟨Z,Z,eqI (by dsimp only;omega),Z,eqI (by omega),trivial⟩ ?_
 rintro⟨b,s⟩;dsimp only[u2];rintro⟨hb,hs⟩
 refine jq (jr (js (jlss Z Z) (jn (jx (jq ?_)))))
 refine jif Z (fun hc1=>?_) (fun hc1=>?_)
 refine jsk (jx (jq (jb (jq (jr (jm Z (ja Z (jn (jx (jq (jr ?_)))))))))))
 refine jm Z (js (jnil Z) (js (jf F90_2 Z) (js (jl k0 O88 Z Z) (jm Z (js (jix U88 Z87 d2 Z Z Z (by omega)) (jev (jlV (dix d2 b (by omega)) O87 Z Z) fun v21 q2 w2=>js (jln U87 d0 Z) (jm Z (jn (jx (jb ?_))))))))))
 have hbb:b<m.Blocks.length:=by omega
 have hqb:=hq b hbb
 have hpll:=pl_len (bs:=m.Blocks) hbb
 refine jlp (u2 fun(p:Nat) (s2:Int)=>⟨p≤(ix m.Blocks b).Ins.length+1∧s2=stM (mostS) m b p s0,[dv (rL rMBlock) bv m.Blocks,dv (rL rSet) ev (List.map some (loE m.Blocks)),dv (rL (rL rSet)) pv (plM m.Blocks)],[bx g0 90 [.int .i64 m.Params,bv,ev,pv],bx h0 3 [.int .i64 s2]],[(0,.pointer (some ⟨g0,0,none⟩)),(1,.func (.func 50) #[] #[.pointer (some ⟨h0,0,none⟩)]),(4,.int .i64 (↑(preP m b p).length)),(5,.int .i64 (↑b)),(11,.int .i64 (↑(List.length (plM m.Blocks)))),(12,.int .i64 (↑b)),(22,.int .i64 (↑(List.length (ix (plM m.Blocks) b)))),(23,.int .i64 (↑p))],(ix m.Blocks b).Ins.length+1-p⟩) (0,s) ⟨by dsimp only;omega,hs⟩ (dc d1 (dc d2 (dc d3 dn))) (kd kn) ⟨Z,Z,Z,Z,Z,Z,Z,eqI (by omega),trivial⟩ ?_
 rintro⟨p,s2⟩;dsimp only[u2];rintro⟨hp,hs2⟩
 have hpb:=preP_bd2 hq (b:=b) (p:=p) hbb (by omega) (by omega)
 refine jq (jr (js (jlss Z Z) (jn (jx (jq ?_)))))
 refine jif Z (fun hc2=>?_) (fun hc2=>?_)
 have hpp:p≤(ix m.Blocks b).Ins.length:=by omega
 refine jsk (jx (jq (jb (jq (jr (jm Z (ja Z (jn (jx (jq (jr ?_)))))))))))
 refine jm Z (jm Z (jm Z (jm Z (jm Z (jc E71 Z Z (liveHas_ct (m:=m) b p hr hbb hpp) (dc d0 (dc d1 (dc d2 dn))) (kc k0 kn) (fun _=>p0) (fun _=>p2) fun g31=>jfs k1 (jc E50 Z Z (most1_ct _ _) (dc d0 dn) (kc k1 kn) (fun _=>p0) (fun _=>p1) fun _=>jn (jx (jr (jm Z ?_)))))))))
 refine js (jadd Z Z (by omega)) (ja Z (jn (jbn (jx (jr (js (jadd Z Z (by omega)) (jm Z (jn ?_))))))))
 have hpl:=preP_len (m:=m) (b:=b) (p:=p)
 exact jag (p+1,max s2 ((hasE m b p).length:Int)) ⟨by dsimp only;omega,by dsimp only;rw[stM_next,←hs2];try rfl⟩ (dc d1 (dc d2 (dc d3 dn))) (kc k1 (kc k0 kn)) ⟨Z,Z,eqI (by dsimp only;omega),Z,Z,Z,Z,eqI (by omega),trivial⟩
 refine jex (jtx (jtx (jbh (jbn (jx (jr (js (jadd Z Z (by omega)) (jm Z (jn ?_)))))))))
 have hpe:p=(ix m.Blocks b).Ins.length+1:=by omega
 have hpl:(preP m (b+1) 0).length=(preP m b p).length:=by rw[preP_blk,hpe]
 exact jag (b+1,s2) ⟨by dsimp only;omega,by dsimp only;rw[stM_blk,←hpe];exact hs2⟩ (dc d0 (dc d1 (dc d2 dn))) (kd kn) ⟨Z,Z,eqI (by dsimp only;omega),Z,eqI (by omega),trivial⟩
 refine jex (jtx (jtx (jbh ?_)))
 have hb9:b=m.Blocks.length:=by omega
 subst hb9
 subst hs
 exact jd0 Z () Z dn (fun _ _=>(kd kn))
theorem eachTog_ct{g0:Nat}{bv ev pv:Value}{m:D.MFunc}(s0:Bool){h0:Nat}(a:Int){h1:Nat}(c:Int){h2:Nat}(hr:rightM m=true):Tr Tryz.prog 46 #[.pointer (some ⟨g0,0,none⟩),.func (.func 48) #[] #[.pointer (some ⟨h0,0,none⟩),.pointer (some ⟨h1,0,none⟩),.pointer (some ⟨h2,0,none⟩)]] [dv (rL rMBlock) bv m.Blocks,dv (rL rSet) ev (List.map some (loE m.Blocks)),dv (rL (rL rSet)) pv (plM m.Blocks)] [bx g0 90 [.int .i64 m.Params,bv,ev,pv],bx h0 4 [.bool s0],bx h1 3 [.int .i64 a],bx h2 3 [.int .i64 c]] (fun _:Unit => .tuple #[]) (fun _=>[]) (fun _ _=>[bx g0 90 [.int .i64 m.Params,bv,ev,pv],bx h0 4 [.bool (stM (togS a c) m m.Blocks.length 0 s0)],bx h1 3 [.int .i64 a],bx h2 3 [.int .i64 c]]):=by
 refine jenter (args:=[.pointer (some ⟨g0,0,none⟩),.func (.func 48) #[] #[.pointer (some ⟨h0,0,none⟩),.pointer (some ⟨h1,0,none⟩),.pointer (some ⟨h2,0,none⟩)]]) Tryz.func46 rfl rfl rfl fun w0 X=>?_
 have hw:=right_wl hr
 have hq:=right_ins hr
 have hn0:=(right_wf hr).n0
 have hple:=plM_len (bs:=m.Blocks)
 refine jq (jr (ja Z (jn (jx (jq (jr (jm Z (js (jnil Z) (js (jf F90_2 Z) (js (jl k0 O88 Z Z) (jdq d2 fun q1 w1=>?_)))))))))))
 refine js (jln U88 d2 Z) (jm Z (jn (jx (jb ?_))))
 have h00:(preP m 0 0).length=0:=rfl
 refine jlp (u2 fun(b:Nat) (s:Bool)=>⟨b≤m.Blocks.length∧s=stM (togS a c) m b 0 s0,[dv (rL rMBlock) bv m.Blocks,dv (rL rSet) ev (List.map some (loE m.Blocks)),dv (rL (rL rSet)) pv (plM m.Blocks)],[bx g0 90 [.int .i64 m.Params,bv,ev,pv],bx h0 4 [.bool s],bx h1 3 [.int .i64 a],bx h2 3 [.int .i64 c]],[(0,.pointer (some ⟨g0,0,none⟩)),(1,.func (.func 48) #[] #[.pointer (some ⟨h0,0,none⟩),.pointer (some ⟨h1,0,none⟩),.pointer (some ⟨h2,0,none⟩)]),(4,.int .i64 (↑(preP m b 0).length)),(11,.int .i64 (↑(List.length (plM m.Blocks)))),(12,.int .i64 (↑b))],m.Blocks.length-b⟩) (0,s0) ⟨by dsimp only;omega,rfl⟩ (dc d0 (dc d1 (dc d2 dn))) (kd (kd kn)) ⟨Z,Z,eqI (by dsimp only;omega),Z,eqI (by omega),trivial⟩ ?_
 rintro⟨b,s⟩;dsimp only[u2];rintro⟨hb,hs⟩
 refine jq (jr (js (jlss Z Z) (jn (jx (jq ?_)))))
 refine jif Z (fun hc1=>?_) (fun hc1=>?_)
 refine jsk (jx (jq (jb (jq (jr (jm Z (ja Z (jn (jx (jq (jr ?_)))))))))))
 refine jm Z (js (jnil Z) (js (jf F90_2 Z) (js (jl k0 O88 Z Z) (jm Z (js (jix U88 Z87 d2 Z Z Z (by omega)) (jev (jlV (dix d2 b (by omega)) O87 Z Z) fun v21 q2 w2=>js (jln U87 d0 Z) (jm Z (jn (jx (jb ?_))))))))))
 have hbb:b<m.Blocks.length:=by omega
 have hqb:=hq b hbb
 have hpll:=pl_len (bs:=m.Blocks) hbb
 refine jlp (u2 fun(p:Nat) (s2:Bool)=>⟨p≤(ix m.Blocks b).Ins.length+1∧s2=stM (togS a c) m b p s0,[dv (rL rMBlock) bv m.Blocks,dv (rL rSet) ev (List.map some (loE m.Blocks)),dv (rL (rL rSet)) pv (plM m.Blocks)],[bx g0 90 [.int .i64 m.Params,bv,ev,pv],bx h0 4 [.bool s2],bx h1 3 [.int .i64 a],bx h2 3 [.int .i64 c]],[(0,.pointer (some ⟨g0,0,none⟩)),(1,.func (.func 48) #[] #[.pointer (some ⟨h0,0,none⟩),.pointer (some ⟨h1,0,none⟩),.pointer (some ⟨h2,0,none⟩)]),(4,.int .i64 (↑(preP m b p).length)),(5,.int .i64 (↑b)),(11,.int .i64 (↑(List.length (plM m.Blocks)))),(12,.int .i64 (↑b)),(22,.int .i64 (↑(List.length (ix (plM m.Blocks) b)))),(23,.int .i64 (↑p))],(ix m.Blocks b).Ins.length+1-p⟩) (0,s) ⟨by dsimp only;omega,hs⟩ (dc d1 (dc d2 (dc d3 dn))) (kd (kd kn)) ⟨Z,Z,Z,Z,Z,Z,Z,eqI (by omega),trivial⟩ ?_
 rintro⟨p,s2⟩;dsimp only[u2];rintro⟨hp,hs2⟩
 have hpb:=preP_bd2 hq (b:=b) (p:=p) hbb (by omega) (by omega)
 refine jq (jr (js (jlss Z Z) (jn (jx (jq ?_)))))
 refine jif Z (fun hc2=>?_) (fun hc2=>?_)
 have hpp:p≤(ix m.Blocks b).Ins.length:=by omega
 refine jsk (jx (jq (jb (jq (jr (jm Z (ja Z (jn (jx (jq (jr ?_)))))))))))
 refine jm Z (jm Z (jm Z (jm Z (jm Z (jc E71 Z Z (liveHas_ct (m:=m) b p hr hbb hpp) (dc d0 (dc d1 (dc d2 dn))) (kc k0 kn) (fun _=>p0) (fun _=>p2) fun g31=>jfs k1 (jc E48 Z Z (tog1_ct _ _ _ _) (dc d0 dn) (kc k1 (kc k1 (kc k1 kn))) (fun _=>p0) (fun _=>p3) fun _=>jn (jx (jr (jm Z ?_)))))))))
 refine js (jadd Z Z (by omega)) (ja Z (jn (jbn (jx (jr (js (jadd Z Z (by omega)) (jm Z (jn ?_))))))))
 have hpl:=preP_len (m:=m) (b:=b) (p:=p)
 exact jag (p+1,s2||(decide (a∈hasE m b p)&&decide (c∈hasE m b p))) ⟨by dsimp only;omega,by dsimp only;rw[stM_next,←hs2];try rfl⟩ (dc d1 (dc d2 (dc d3 dn))) (kc k3 (kd (kc k0 kn))) ⟨Z,Z,eqI (by dsimp only;omega),Z,Z,Z,Z,eqI (by omega),trivial⟩
 refine jex (jtx (jtx (jbh (jbn (jx (jr (js (jadd Z Z (by omega)) (jm Z (jn ?_)))))))))
 have hpe:p=(ix m.Blocks b).Ins.length+1:=by omega
 have hpl:(preP m (b+1) 0).length=(preP m b p).length:=by rw[preP_blk,hpe]
 exact jag (b+1,s2) ⟨by dsimp only;omega,by dsimp only;rw[stM_blk,←hpe];exact hs2⟩ (dc d0 (dc d1 (dc d2 dn))) (kd (kd kn)) ⟨Z,Z,eqI (by dsimp only;omega),Z,eqI (by omega),trivial⟩
 refine jex (jtx (jtx (jbh ?_)))
 have hb9:b=m.Blocks.length:=by omega
 subst hb9
 subst hs
 exact jd0 Z () Z dn (fun _ _=>(kd (kd kn)))
theorem eachRng_ct{g0:Nat}{bv ev pv:Value}{m:D.MFunc}{sv:Value}{l0:List D.Range}{h0:Nat}{C0:Nat}(r:Int){h1:Nat}(hr:rightM m=true)(hl0:l0=[]):Tr Tryz.prog 46 #[.pointer (some ⟨g0,0,none⟩),.func (.func 47) #[] #[.pointer (some ⟨h0,0,none⟩),.pointer (some ⟨h1,0,none⟩)]] [dv (rL rMBlock) bv m.Blocks,dv (rL rSet) ev (List.map some (loE m.Blocks)),dv (rL (rL rSet)) pv (plM m.Blocks)] [bx g0 90 [.int .i64 m.Params,bv,ev,pv],gl C0 rRange 47 sv l0,bx h0 44 [sv],bx h1 3 [.int .i64 r]] (fun _:Value => .tuple #[]) (fun _=>[]) (fun _ v=>[bx g0 90 [.int .i64 m.Params,bv,ev,pv],gl C0 rRange 47 v (stM (rngS r) m m.Blocks.length 0 l0),bx h0 44 [v],bx h1 3 [.int .i64 r]]):=by
 refine jenter (args:=[.pointer (some ⟨g0,0,none⟩),.func (.func 47) #[] #[.pointer (some ⟨h0,0,none⟩),.pointer (some ⟨h1,0,none⟩)]]) Tryz.func46 rfl rfl rfl fun w0 X=>?_
 refine cgo k1 fun w1=>?_
 have hw:=right_wl hr
 have hq:=right_ins hr
 have hn0:=(right_wf hr).n0
 have hple:=plM_len (bs:=m.Blocks)
 refine jq (jr (ja Z (jn (jx (jq (jr (jm Z (js (jnil Z) (js (jf F90_2 Z) (js (jl k0 O88 Z Z) (jdq d2 fun q2 w2=>?_)))))))))))
 refine js (jln U88 d2 Z) (jm Z (jn (jx (jb ?_))))
 have h00:(preP m 0 0).length=0:=rfl
 refine jlp (u3 fun(b:Nat) (s:List D.Range) (sv1:Value)=>⟨b≤m.Blocks.length∧s=stM (rngS r) m b 0 l0,[dv (rL rMBlock) bv m.Blocks,dv (rL rSet) ev (List.map some (loE m.Blocks)),dv (rL (rL rSet)) pv (plM m.Blocks)],[bx g0 90 [.int .i64 m.Params,bv,ev,pv],gl C0 rRange 47 sv1 s,bx h0 44 [sv1],bx h1 3 [.int .i64 r]],[(0,.pointer (some ⟨g0,0,none⟩)),(1,.func (.func 47) #[] #[.pointer (some ⟨h0,0,none⟩),.pointer (some ⟨h1,0,none⟩)]),(4,.int .i64 (↑(preP m b 0).length)),(11,.int .i64 (↑(List.length (plM m.Blocks)))),(12,.int .i64 (↑b))],m.Blocks.length-b⟩) (0,l0,sv) ⟨by dsimp only;omega,rfl⟩ (dc d0 (dc d1 (dc d2 dn))) (kd (kd kn)) ⟨Z,Z,eqI (by dsimp only;omega),Z,eqI (by omega),trivial⟩ ?_
 rintro⟨b,s,sv1⟩;dsimp only[u3];rintro⟨hb,hs⟩
 refine cgo k1 fun w3=>jq (jr (js (jlss Z Z) (jn (jx (jq ?_)))))
 refine jif Z (fun hc1=>?_) (fun hc1=>?_)
 refine jsk (jx (jq (jb (jq (jr (jm Z (ja Z (jn (jx (jq (jr ?_)))))))))))
 refine jm Z (js (jnil Z) (js (jf F90_2 Z) (js (jl k0 O88 Z Z) (jm Z (js (jix U88 Z87 d2 Z Z Z (by omega)) (jev (jlV (dix d2 b (by omega)) O87 Z Z) fun v21 q4 w4=>js (jln U87 d0 Z) (jm Z (jn (jx (jb ?_))))))))))
 have hbb:b<m.Blocks.length:=by omega
 have hqb:=hq b hbb
 have hpll:=pl_len (bs:=m.Blocks) hbb
 refine jlp (u3 fun(p:Nat) (s2:List D.Range) (sv2:Value)=>⟨p≤(ix m.Blocks b).Ins.length+1∧s2=stM (rngS r) m b p l0,[dv (rL rMBlock) bv m.Blocks,dv (rL rSet) ev (List.map some (loE m.Blocks)),dv (rL (rL rSet)) pv (plM m.Blocks)],[bx g0 90 [.int .i64 m.Params,bv,ev,pv],gl C0 rRange 47 sv2 s2,bx h0 44 [sv2],bx h1 3 [.int .i64 r]],[(0,.pointer (some ⟨g0,0,none⟩)),(1,.func (.func 47) #[] #[.pointer (some ⟨h0,0,none⟩),.pointer (some ⟨h1,0,none⟩)]),(4,.int .i64 (↑(preP m b p).length)),(5,.int .i64 (↑b)),(11,.int .i64 (↑(List.length (plM m.Blocks)))),(12,.int .i64 (↑b)),(22,.int .i64 (↑(List.length (ix (plM m.Blocks) b)))),(23,.int .i64 (↑p))],(ix m.Blocks b).Ins.length+1-p⟩) (0,s,sv1) ⟨by dsimp only;omega,hs⟩ (dc d1 (dc d2 (dc d3 dn))) (kd (kd kn)) ⟨Z,Z,Z,Z,Z,Z,Z,eqI (by omega),trivial⟩ ?_
 rintro⟨p,s2,sv2⟩;dsimp only[u3];rintro⟨hp,hs2⟩
 refine cgo k1 fun w6=>?_
 have hpb:=preP_bd2 hq (b:=b) (p:=p) hbb (by omega) (by omega)
 refine jq (jr (js (jlss Z Z) (jn (jx (jq ?_)))))
 refine jif Z (fun hc2=>?_) (fun hc2=>?_)
 have hpp:p≤(ix m.Blocks b).Ins.length:=by omega
 refine jsk (jx (jq (jb (jq (jr (jm Z (ja Z (jn (jx (jq (jr ?_)))))))))))
 refine jm Z (jm Z (jm Z (jm Z (jm Z (jc E71 Z Z (liveHas_ct (m:=m) b p hr hbb hpp) (dc d0 (dc d1 (dc d2 dn))) (kc k0 kn) (fun _=>p0) (fun _=>p2) fun g31=>jfs k1 (jc E47 Z Z (rng1_ct _ _ hpb (by rw[hs2,hl0];exact Nat.le_trans stR_len hpb)) (dc d0 dn) (kc k1 (kc k1 (kc k1 kn))) (fun _=>p0) (fun _=>p3) fun sw8=>jn (jx (jr (jm Z ?_)))))))))
 refine js (jadd Z Z (by omega)) (ja Z (jn (jbn (jx (jr (js (jadd Z Z (by omega)) (jm Z (jn ?_))))))))
 have hpl:=preP_len (m:=m) (b:=b) (p:=p)
 exact jag (p+1,rngS r s2 (preP m b p).length (hasE m b p),sw8) ⟨by dsimp only;omega,by dsimp only;rw[stM_next,←hs2];try rfl⟩ (dc d1 (dc d2 (dc d3 dn))) (kc k3 (kd (kc k0 kn))) ⟨Z,Z,eqI (by dsimp only;omega),Z,Z,Z,Z,eqI (by omega),trivial⟩
 refine jex (jtx (jtx (jbh (jbn (jx (jr (js (jadd Z Z (by omega)) (jm Z (jn ?_)))))))))
 have hpe:p=(ix m.Blocks b).Ins.length+1:=by omega
 have hpl:(preP m (b+1) 0).length=(preP m b p).length:=by rw[preP_blk,hpe]
 exact jag (b+1,s2,sv2) ⟨by dsimp only;omega,by dsimp only;rw[stM_blk,←hpe];exact hs2⟩ (dc d0 (dc d1 (dc d2 dn))) (kd (kd kn)) ⟨Z,Z,eqI (by dsimp only;omega),Z,eqI (by omega),trivial⟩
 refine jex (jtx (jtx (jbh ?_)))
 have hb9:b=m.Blocks.length:=by omega
 subst hb9
 subst hs
 exact jd0 Z sv1 Z dn (fun _ _=>(kd (kd kn)))
theorem E46:Ent Tryz.prog 46:=⟨_,Tryz.func46,by kernel_rfl,by kernel_rfl⟩
theorem J3:(Tryz.prog.info? 3).bind (·.zero)=some (.int .i64 0):=by kernel_rfl
theorem J44:(Tryz.prog.info? 44).bind (·.zero)=some (.slice none 0 0):=by kernel_rfl
theorem most_ct{a0:Value}{m:D.MFunc}:Tv Tryz.prog 24 #[vMFunc m a0] [da rMFunc (vMFunc m a0) m] [] (.int .i64 (mostM m)):=by
 refine jenter (args:=[vMFunc m a0]) Tryz.func24 rfl rfl rfl fun w0 X=>?_
 refine jq (jr (jbox Z Z fun g1=>ja Z (jn (jx (jq (jr (jalc J3 Z fun g3=>jst k0 Z3 Z Z Z s0 (jn (jx ?_)))))))))
 refine jq (jq (jr (js (jla k1 A28 Z28 Z Z Z) ?_)))
 refine Bool.casesOn (motive:=fun b=>rightM m=b→_) (rightM m) (fun hr=>?_) (fun hr=>?_) rfl
 refine jc E40 Z Z (of_no hr) (dc d0 dn) kn (fun _=>p0) (fun _=>p0) fun _=>ja Z (jn (jx (jq (jr (jm Z (js (jneqP U91 Z Z) (jn (jx ?_))))))))
 refine jif Z (fun hc1=>?_) (fun hc1=>?_)
 exact absurd hc1 (by simp)
 refine jsk (jx (jq (jr (js (jl k0 O3 Z Z) (ja Z (jn (jx (jrt ?_))))))))
 exact jrI Z Z (by first|(rw[mostM,if_pos hr];done)|(rw[mostM,if_neg (by simp[hr])];done))
 refine jc E40 Z Z (of_ct hr) (dc d0 dn) kn (fun _=>p2) (fun _=>p1) fun c6=>?_
 have hw:=right_wl hr
 have hq:=right_ins hr
 have hn0:=(right_wf hr).n0
 have hnP:=(right_wf hr).p0
 have hple:=plM_len (bs:=m.Blocks)
 have hlol:=loE_len hw
 have hlm:(List.map some (loE m.Blocks)).length=m.Blocks.length:=by rw[List.length_map];exact hlol
 refine ja Z (jn (jx (jq (jr (jm Z (js (jneqP U91 Z Z) (jn (jx ?_))))))))
 refine jif Z (fun hc2=>?_) (fun hc2=>?_)
 refine jr (jm Z (js (jmf1 Z) (jc E46 Z Z (eachMost_ct 0 hr) (dc (rMFunc.cB d2) (dc d0 (dc d1 dn))) (kd kn) (fun _=>p0) (fun _=>p2) fun _=>jn (jx (jq (jr (js (jl k1 O3 Z Z) (ja Z (jn (jx ?_))))))))))
 refine jrt ?_
 exact jrI Z Z (by first|(rw[mostM,if_pos hr];done)|(rw[mostM,if_neg (by simp[hr])];done))
 exact absurd hc2 (by simp)
theorem together_ct{a0:Value}{m:D.MFunc}(a:Int)(b:Int):Tv Tryz.prog 22 #[vMFunc m a0,.int .i64 a,.int .i64 b] [da rMFunc (vMFunc m a0) m] [] (.bool (togM m a b)):=by
 refine jenter (args:=[vMFunc m a0,.int .i64 a,.int .i64 b]) Tryz.func22 rfl rfl rfl fun w0 X=>?_
 refine jq (jr (jbox Z Z fun g3=>jbox Z Z fun g4=>jbox Z Z fun g5=>ja Z (jn (jx (jq (jr (jalc J4 Z fun g7=>jst k0 Z4 Z Z Z s0 ?_)))))))
 refine jn (jx (jq (jq (jr (js (jla k3 A28 Z28 Z Z Z) ?_)))))
 refine Bool.casesOn (motive:=fun b=>rightM m=b→_) (rightM m) (fun hr=>?_) (fun hr=>?_) rfl
 refine jc E40 Z Z (of_no hr) (dc d0 dn) kn (fun _=>p0) (fun _=>p0) fun _=>ja Z (jn (jx (jq (jr (jm Z (js (jneqP U91 Z Z) (jn (jx ?_))))))))
 refine jif Z (fun hc1=>?_) (fun hc1=>?_)
 exact absurd hc1 (by simp)
 refine jsk (jx (jq (jr (js (jl k0 O4 Z Z) (ja Z (jn (jx (jrt ?_))))))))
 exact jrB Z Z (by first|(rw[togM,if_pos hr];done)|(rw[togM,if_neg (by simp[hr])];done))
 refine jc E40 Z Z (of_ct hr) (dc d0 dn) kn (fun _=>p2) (fun _=>p1) fun c10=>?_
 have hw:=right_wl hr
 have hq:=right_ins hr
 have hn0:=(right_wf hr).n0
 have hnP:=(right_wf hr).p0
 have hple:=plM_len (bs:=m.Blocks)
 have hlol:=loE_len hw
 have hlm:(List.map some (loE m.Blocks)).length=m.Blocks.length:=by rw[List.length_map];exact hlol
 refine ja Z (jn (jx (jq (jr (jm Z (js (jneqP U91 Z Z) (jn (jx ?_))))))))
 refine jif Z (fun hc2=>?_) (fun hc2=>?_)
 refine jr (jm Z (js (jmf3 Z Z Z) (jc E46 Z Z (eachTog_ct false a b hr) (dc (rMFunc.cB d2) (dc d0 (dc d1 dn))) (kd (kc k1 (kc k0 kn))) (fun _=>p0) (fun _=>p4) fun _=>jn (jx (jq (jr (js (jl k1 O4 Z Z) (ja Z (jn (jx ?_))))))))))
 refine jrt ?_
 exact jrB Z Z (by first|(rw[togM,if_pos hr];done)|(rw[togM,if_neg (by simp[hr])];done))
 exact absurd hc2 (by simp)
theorem ranges_ct{a0:Value}{m:D.MFunc}(r:Int):Td Tryz.prog 21 #[vMFunc m a0,.int .i64 r] [da rMFunc (vMFunc m a0) m] [] (rL rRange) (rangesM m r):=by
 refine jenter (args:=[vMFunc m a0,.int .i64 r]) Tryz.func21 rfl rfl rfl fun w0 X=>?_
 refine jq (jr (jbox Z Z fun g2=>jbox Z Z fun g3=>jalc J44 Z fun g4=>jn (jx (jq (jr (js (jla k2 A28 Z28 Z Z Z) ?_))))))
 refine Bool.casesOn (motive:=fun b=>rightM m=b→_) (rightM m) (fun hr=>?_) (fun hr=>?_) rfl
 refine jc E40 Z Z (of_no hr) (dc d0 dn) kn (fun _=>p0) (fun _=>p0) fun _=>ja Z (jn (jx (jq (jq (jr (jm Z (js (jeqlP U91 Z Z) (jn (jx ?_)))))))))
 refine jif Z (fun hc1=>?_) (fun hc1=>?_)
 refine jq (jr (jst k0 Z44 Z Z Z s0 (jn (jx (jrt (jtr ?_))))))
 exact jrcD Z Z k0 O44 (by first|(rw[rangesM,if_pos hr];done)|(rw[rangesM,if_neg (by simp[hr])];done)) wN
 exact absurd hc1 (by simp)
 refine jc E40 Z Z (of_ct hr) (dc d0 dn) kn (fun _=>p2) (fun _=>p1) fun c7=>?_
 have hw:=right_wl hr
 have hq:=right_ins hr
 have hn0:=(right_wf hr).n0
 have hnP:=(right_wf hr).p0
 have hple:=plM_len (bs:=m.Blocks)
 have hlol:=loE_len hw
 have hlm:(List.map some (loE m.Blocks)).length=m.Blocks.length:=by rw[List.length_map];exact hlol
 refine ja Z (jn (jx (jq (jq (jr (jm Z (js (jeqlP U91 Z Z) (jn (jx ?_)))))))))
 refine jif Z (fun hc2=>?_) (fun hc2=>?_)
 exact absurd hc2 (by simp)
 refine jsk (jx (jq (jr (jm Z (jnl (r:=rRange) (E:=47) (js (jmf2 Z Z) (jc E46 Z Z (eachRng_ct r hr rfl) (dc (rMFunc.cB d2) (dc d0 (dc d1 dn))) (kc k1 (kd (kc k0 kn))) (fun _=>p0) (fun _=>p4) fun sw3=>jgo k1 fun w4=>jn (jx (jq ?_)))))))))
 refine jr (js (jl k2 O44 Z Z) (jst k2 Z44 Z Z w4.one s0 (jn (jx (jrt (qfz k2 (by have:=stR_len (m:=m) (r:=r) (b:=m.Blocks.length) (p:=0);have:=preP_bd hq (b:=m.Blocks.length) (by omega);omega) ?_))))))
 exact jrcD Z Z k0 O44 (by first|(rw[rangesM,if_pos hr];done)|(rw[rangesM,if_neg (by simp[hr])];done)) d0
theorem lawIn_ct{a0:Value}{l:List Int}(r:Int):Tv Tryz.prog 28 #[a0,.int .i64 r] [dv (rL (rI .i64)) a0 l] [] (.bool (hasL l r)):=by
 refine jenter (args:=[a0,.int .i64 r]) Tryz.func28 rfl rfl rfl fun w0 X=>?_
 refine jq (jr (ja Z (jn (jx (jq (jq (jr (ja Z (jn (jx (jb ?_)))))))))))
 refine jlp (fun(k:Nat)=>⟨k≤l.length∧∀j,j<k→¬ix l j=r,[dv (rL (rI .i64)) a0 l],[],[(0,a0),(1,.int .i64 r),(5,.int .i64 (↑k))],l.length-k⟩) 0 ⟨by omega,fun j hj=>by omega⟩ (dc d0 dn) kn ⟨Z,Z,eqI (by omega),trivial⟩ ?_
 rintro k;dsimp only;rintro⟨hk,hno⟩
 refine jq (jq (jr (jm Z (jm Z (jdq d0 fun q1 w1=>js (jln U22 d0 Z) (js (jlss Z Z) (jn (jx ?_))))))))
 refine jif Z (fun hc1=>?_) (fun hc1=>?_)
 refine jsk (jx (jq (jb (jq (jr (jm Z (jm Z (js (jix U22 Z3 d0 Z Z Z (by omega)) (js (jlI (dix d0 k (by omega)) O3 Z) (jm Z (js (jeql Z Z) ?_)))))))))))
 refine jn (jx ?_)
 refine jif Z (fun hc2=>?_) (fun hc2=>?_)
 refine jq (jr (ja Z (jn (jx (jrt (jbr (jtr (jtr (jbr (jtr ?_))))))))))
 exact jrB Z Z (by first|(exact has_yes (by omega) hc2)|(exact has_no (fun j hj=>hno j (by omega))))
 refine jsk (jbn (jx (jr (jm Z (js (jadd Z Z (by omega)) (ja Z (jn ?_)))))))
 exact jag (k+1) ⟨by omega,fun j hj=>by rcases Nat.lt_or_ge j k with h7|h7;(exact hno j h7);(rw[show j=k by omega];exact hc2)⟩ (dc d0 dn) kn ⟨Z,Z,eqI (by omega),trivial⟩
 refine jex (jtx (jtx (jbh (jx (jq (jr (ja Z (jn (jx (jrt ?_))))))))))
 exact jrB Z Z (by first|(exact has_yes (by omega) hc2)|(exact has_no (fun j hj=>hno j (by omega))))
set_option maxRecDepth 4000
end Go.Proofs.YtehhjlkmbdhckaaGreat
