/- Lemmas that the claim is made of. Conditions: each lemma names its own. -/
import Derived.Test.YtmfkkodnghambaaGreatKL2
import Derived.Test.YtmfkkodnghambaaGreatKL1
import Derived.Test.YtmfkkodnghambaaGreatKL0
import Derived.Lib.SliceRun
import Derived.RangeFuncNested
import Derived.RangeFuncCalls
import Derived.RangeFuncLeaves
import Derived.Below
import Derived.OrdersIn
import Derived.Recover
set_option linter.unusedSectionVars false
set_option linter.unusedSimpArgs false
set_option linter.unusedVariables false
namespace Go.Proofs.YtmfkkodnghambaaGreat
open Go.JE
def AllOk(p:Int)(L:List (Int×Value))(l:List Int):Prop:=(∀n∈l,withinM n p 8191=true)∧l.Nodup∧∀n∈l,lkM L n=none
def WV(L:List (Int×Value)):Prop:=∀n v,lkM L n=some v→∃b p,v=wv b p
theorem WV.get{L:List (Int×Value)}(h:WV L)(n:Int):∃b p,(lkM L n).getD (.agg #[.int .i64 0,.int .i64 0]) = .agg #[.int .i64 b,.int .i64 p]:=by
 cases h1:lkM L n with
 | none=>exact⟨0,0,rfl⟩
 | some v=>obtain⟨b,p,e⟩:=h n v h1;exact⟨b,p,e⟩
theorem WV.nil:WV []:=fun n v h=>by simp[lkM] at h
theorem WV.insA{L:List (Int×Value)}{b p:Int}{l:List Int}(h:WV L):WV (insA b p l L):=fun n v h1=>by
 rw[lk_insA] at h1
 split at h1
 ·injection h1 with h1;exact⟨b,p,h1.symm⟩
 ·exact h n v h1
theorem WV.phA{L:List (Int×Value)}{b:Int}{ps:List D.Phi}(h:WV L):∀k,WV (phA b ps L k)
 | 0=>h
 | k+1=>(h.phA k).insA
theorem WV.inA{L:List (Int×Value)}{b:Int}{is:List D.Ins}(h:WV L):∀k,WV (inA b is L k)
 | 0=>h
 | k+1=>(h.inA k).insA
theorem WV.bkA(bs:List D.Block):∀k,WV (bkA bs k)
 | 0 => .nil
 | k+1=>((WV.bkA bs k).phA _).inA _
def tmOk(t:D.Term):Prop:=∃s,shM t.Kind=some s∧(s.1≤(t.Args.length:Int)∧(t.Args.length:Int)≤s.2.1)∧(s.2.2.1≤(t.To.length:Int)∧(t.To.length:Int)≤s.2.2.2)
def opOk(i:D.Ins):Prop:=withinM i.Op 1 18=true∧withinM i.Args.length (operM i.Op).1 (operM i.Op).2=true
def phB(f:D.Func)(k i:Nat):Prop:=∀j,j<i→AllOk f.Params (phA k (ix f.Blocks k).Phis (bkA f.Blocks k) j) [(ix (ix f.Blocks k).Phis j).Dst]
def inB(f:D.Func)(k i:Nat):Prop:=∀j,j<i→opOk (ix (ix f.Blocks k).Ins j)∧AllOk f.Params (inA k (ix f.Blocks k).Ins (phA k (ix f.Blocks k).Phis (bkA f.Blocks k) (ix f.Blocks k).Phis.length) j) (makes3 (ix (ix f.Blocks k).Ins j))
def toB(f:D.Func)(k i:Nat):Prop:=∀j,j<i→withinM (ix (ix f.Blocks k).Term.To j) 1 ((f.Blocks.length:Int)-1)=true
def bkOk(f:D.Func)(k:Nat):Prop:=phB f k (ix f.Blocks k).Phis.length∧inB f k (ix f.Blocks k).Ins.length∧tmOk (ix f.Blocks k).Term∧toB f k (ix f.Blocks k).Term.To.length
def ShB(f:D.Func)(k:Nat):Prop:=∀j,j<k→bkOk f j
def ShOk(f:D.Func):Prop:=ShB f f.Blocks.length
section
variable{f:D.Func}{k i:Nat}
theorem phB_nx(h:phB f k i)(h2:AllOk f.Params (phA k (ix f.Blocks k).Phis (bkA f.Blocks k) i) [(ix (ix f.Blocks k).Phis i).Dst]):phB f k (i+1):=fun j hj=>by
 rcases Nat.lt_or_ge j i with h3|h3
 ·exact h j h3
 ·rw[show j=i by omega];exact h2
theorem inB_nx(h:inB f k i)(h1:opOk (ix (ix f.Blocks k).Ins i))(h2:AllOk f.Params (inA k (ix f.Blocks k).Ins (phA k (ix f.Blocks k).Phis (bkA f.Blocks k) (ix f.Blocks k).Phis.length) i) (makes3 (ix (ix f.Blocks k).Ins i))):inB f k (i+1):=fun j hj=>by
 rcases Nat.lt_or_ge j i with h3|h3
 ·exact h j h3
 ·rw[show j=i by omega];exact⟨h1,h2⟩
theorem toB_nx(h:toB f k i)(h2:withinM (ix (ix f.Blocks k).Term.To i) 1 ((f.Blocks.length:Int)-1)=true):toB f k (i+1):=fun j hj=>by
 rcases Nat.lt_or_ge j i with h3|h3
 ·exact h j h3
 ·rw[show j=i by omega];exact h2
theorem ShB_nx(h:ShB f k)(h2:bkOk f k):ShB f (k+1):=fun j hj=>by
 rcases Nat.lt_or_ge j k with h3|h3
 ·exact h j h3
 ·rw[show j=k by omega];exact h2
end
theorem of_within{n a c:Int}(h:withinM n a c=true):a≤n∧n≤c:=by unfold withinM at h;simpa using h
theorem good_sh{f:D.Func}(h:GoodF f):ShOk f:=fun k hk=>by
 refine⟨fun j hj=>h.pha hk hj,fun j hj=>⟨?_,h.ina hk hj⟩,h.tm k hk,fun j hj=>?_⟩
 ·have:=h.op k hk _ (ix_mem hj);exact⟨within_of this.1,within_of this.2⟩
 ·have:=h.to k hk _ (ix_mem hj);exact within_of (by omega)
theorem nodup_mapG{α β:Type}[Inhabited α]{l:List α}{g:α→β}(h:∀i j,i<j→j<l.length→g (ix l j)≠g (ix l i)):(l.map g).Nodup:=by
 rw[List.nodup_iff_pairwise_ne,List.pairwise_iff_getElem]
 intro i j hi hj hij e
 rw[List.length_map] at hi hj
 rw[List.getElem_map,List.getElem_map,←ix_eq hi,←ix_eq hj] at e
 exact h i j hij hj e.symm
theorem nodup_flatG{α β:Type}[Inhabited α]{l:List α}{g:α→List β}(h0:∀i,i<l.length→(g (ix l i)).Nodup)(h:∀i j,i<j→j<l.length→∀x∈g (ix l j),x∉g (ix l i)):(l.flatMap g).Nodup:=by
 induction l with
 | nil=>exact List.nodup_nil
 | cons a l ih =>
  rw[List.flatMap_cons,List.nodup_append]
  refine⟨h0 0 (by simp),ih (fun i hi=>by have:=h0 (i+1) (by simpa using hi);rwa[ix_cons] at this) (fun i j hij hj=>by have:=h (i+1) (j+1) (by omega) (by simpa using hj);rwa[ix_cons,ix_cons] at this),fun x hx y hy e=>?_⟩
  subst e
  obtain⟨c,h1,h2⟩:=List.mem_flatMap.1 hy
  obtain⟨i,hi,e⟩:=List.getElem_of_mem h1
  have h3:=h 0 (i+1) (by omega) (by simpa using hi)
  rw[ix_cons,ix_zero,ix_eq hi,e] at h3
  exact h3 x h2 hx
section
variable{f:D.Func}{b:Nat}
theorem sh_nd(h:bkOk f b):(mkB (ix f.Blocks b)).Nodup:=by
 unfold mkB
 refine List.nodup_append.2 ⟨nodup_mapG fun i j hij hj=>?_,nodup_flatG (fun i hi=>(h.2.1 i hi).2.2.1) (fun i j hij hj x hx=>?_),fun x hx y hy e=>?_⟩
 ·exact(phA_no.1 ((h.1 j hj).2.2 _ (by simp))).2 i hij
 ·exact(inA_no.1 ((h.2.1 j hj).2.2.2 x hx)).2 i hij
 ·subst e
  obtain⟨p,h1,rfl⟩:=List.mem_map.1 hx
  obtain⟨i,hi,e⟩:=List.getElem_of_mem h1
  obtain⟨c,h3,h4⟩:=List.mem_flatMap.1 hy
  obtain⟨j,hj,e2⟩:=List.getElem_of_mem h3
  rw[←ix_eq hi] at e;rw[←ix_eq hj] at e2;subst e;subst e2
  exact(phA_no.1 (inA_no.1 ((h.2.1 j hj).2.2.2 _ h4)).1).2 i hi rfl
theorem sh_bk(h:bkOk f b){n:Int}(hn:n∈mkB (ix f.Blocks b)):withinM n f.Params 8191=true∧lkM (bkA f.Blocks b) n=none:=by
 rcases mkB_ix.1 hn with⟨i,hi,rfl⟩|⟨i,hi,h2⟩
 ·exact⟨(h.1 i hi).1 _ (by simp),(phA_no.1 ((h.1 i hi).2.2 _ (by simp))).1⟩
 ·exact⟨(h.2.1 i hi).2.1 n h2,(phA_no.1 (inA_no.1 ((h.2.1 i hi).2.2.2 n h2)).1).1⟩
theorem sh_once(h:ShOk f):Once f.Blocks:=by
 have key:∀i j,i<j→j<f.Blocks.length→∀r∈mkB (ix f.Blocks j),r∉mkB (ix f.Blocks i):=fun i j hij hj r hr=>bkA_no.1 (sh_bk (h j hj) hr).2 i hij
 have dm:∀j,¬j<f.Blocks.length→mkB (ix f.Blocks j)=[]:=fun j hj=>by rw[ix_out (by omega)];rfl
 refine⟨fun j=>?_,fun i j hij r hr hr2=>?_⟩
 ·by_cases hj:j<f.Blocks.length
  ·exact sh_nd (h j hj)
  ·rw[dm j hj];exact List.nodup_nil
 ·by_cases hj:j<f.Blocks.length
  ·by_cases hi:i<f.Blocks.length
   ·rcases Nat.lt_or_ge i j with h1|h1
    ·exact key i j h1 hj r hr2 hr
    ·exact key j i (by omega) hi r hr hr2
   ·rw[dm i hi] at hr;cases hr
  ·rw[dm j hj] at hr2;cases hr2
theorem sh_rng(h:ShOk f):∀b,b<f.Blocks.length→∀r∈mkB (ix f.Blocks b),f.Params≤r∧r≤8191:=fun b hb r hr=>of_within (sh_bk (h b hb) hr).1
theorem sh_op(h:ShOk f):∀b,b<f.Blocks.length→∀i∈(ix f.Blocks b).Ins,(1≤i.Op∧i.Op≤18)∧(operM i.Op).1≤(i.Args.length:Int)∧(i.Args.length:Int)≤(operM i.Op).2:=fun b hb i hi=>by
 obtain⟨j,hj,e⟩:=List.getElem_of_mem hi
 rw[←ix_eq hj] at e;subst e
 have:=((h b hb).2.1 j hj).1
 exact⟨of_within this.1,of_within this.2⟩
theorem sh_to(h:ShOk f):∀b,b<f.Blocks.length→∀t∈(ix f.Blocks b).Term.To,1≤t∧t<f.Blocks.length:=fun b hb t ht=>by
 obtain⟨j,hj,e⟩:=List.getElem_of_mem ht
 rw[←ix_eq hj] at e;subst e
 have:=of_within ((h b hb).2.2.2 j hj)
 omega
end
theorem nodup_split{v:Int}{l3 p3:List Int}:∀(l2 p2:List Int),(l2++v::l3).Nodup→l2++v::l3=p2++v::p3→p3=l3
 | [],[],_,h=>by simp at h;exact h.symm
 | [],x::p2,hn,h=>by
  simp only[List.nil_append,List.cons_append,List.cons.injEq] at h hn
  rw[h.2] at hn
  exact absurd (by simp) (List.nodup_cons.1 hn).1
 | x::l2,[],hn,h=>by
  simp only[List.nil_append,List.cons_append,List.cons.injEq] at h hn
  rw[h.1] at hn
  exact absurd (by simp) (List.nodup_cons.1 hn).1
 | x::l2,y::p2,hn,h=>by
  simp only[List.cons_append,List.cons.injEq] at h hn
  exact nodup_split l2 p2 (List.nodup_cons.1 hn).2 h.2
theorem OO.rng{g:List (List Int)}{ord:List Int}(h:OO g ord):ord.length≤g.length∧∀v∈ord,0≤v∧v<g.length:=by
 obtain⟨l,se,rfl,h⟩:=h
 unfold revM
 rw[List.nil_append,List.length_reverse]
 exact⟨nodup_len _ l h.ov.nd (fun v hv=>(h.ov.new v hv).1),fun v hv=>(h.ov.new v (List.mem_reverse.1 hv)).1⟩
theorem OO.mem{g:List (List Int)}{ord:List Int}(h:OO g ord){w b:Nat}(hr:RB (prG g) w b):(b:Int)∈ord:=by
 obtain⟨l,se,rfl,h⟩:=h
 unfold revM
 rw[List.nil_append,List.mem_reverse]
 induction hr with
 | zero=>exact h.mem
 | @step x t h1 h2 _ ih =>
  have h3:=h.ov.cl x ih t (by rw[Int.toNat_natCast];exact h2)
  rw[Int.toNat_natCast] at h3
  have h4:=clean_rng g x t h2
  have h5:=(h.ov.mem t (by omega)).1 h3
  rw[ix_rep] at h5
  exact h5.resolve_left (by simp)
theorem OO.reach{g:List (List Int)}{ord:List Int}(h:OO g ord)(hn:0<g.length){v:Int}(hv:v∈ord):RB (prG g) g.length v.toNat:=by
 obtain⟨l,se,rfl,h⟩:=h
 unfold revM at hv
 rw[List.nil_append,List.mem_reverse] at hv
 have key:∀(m:Nat) (l2 l3:List Int) (v:Int),l=l2++v::l3→l3.length<m→RB (prG g) g.length v.toNat:=by
  intro m
  induction m with
  | zero=>intro l2 l3 v _ h9;omega
  | succ m ih =>
   intro l2 l3 v e hm
   have hvl:v∈l:=by rw[e];simp
   have hv9:=(h.ov.new v hvl).1
   rcases h.ov.af v hvl with h1|⟨p2,p3,e2,q,hq,hvq⟩
   ·rw[h1];exact .zero (by omega)
   ·have hnd:=h.ov.nd
    have e3:p3=l3:=by
     have h5:l2++v::l3=p2++v::p3:=e.symm.trans e2
     have hn2:=hnd;rw[e] at hn2
     exact nodup_split l2 p2 hn2 h5
    subst e3
    obtain⟨a,b,e4⟩:=List.append_of_mem hq
    have:=ih (l2++v::a) b q (by rw[e,e4];simp) (by rw[e4] at hm;simp at hm;omega)
    refine .step this (show((v.toNat:Nat):Int)∈ix (cleanM g) q.toNat by rw[Int.toNat_of_nonneg hv9.1];exact hvq) (by omega)
 obtain⟨a,b,e⟩:=List.append_of_mem hv
 exact key _ a b v e (Nat.lt_succ_self _)
theorem con_yes{l:List Int}{v:Int}(h:conM l v=true):v∈l:=by
 have key:∀(n k:Nat),k+n=l.length→0≤idxA l v n k→v∈l:=by
  intro n
  induction n with
  | zero=>intro k _ h;rw[idxA] at h;omega
  | succ n ih =>
   intro k hk h
   rw[idxA] at h
   split at h
   ·rename_i e;rw[e];exact ix_mem (by omega)
   ·exact ih (k+1) (by omega) h
 unfold conM idzM at h
 exact key l.length 0 (by omega) (by simpa using h)
def cntsM(op n:Int):Bool:=if op=1 then decide (n=0) else if op=15 then decide (n=1) else if op=17 then decide (n≤4) else decide (n=2)
theorem cnts_iff{op:Int}{n:Nat}:cntsM op n=true↔(operM op).1≤(n:Int)∧(n:Int)≤(operM op).2:=by
 unfold cntsM operM
 repeat' split
 all_goals (simp;try omega)
def termM(t:D.Term):Bool :=
 if t.Kind=1 then decide ((t.Args.length:Int)=0)&&decide ((t.To.length:Int)=1) else if t.Kind=2 then decide ((t.Args.length:Int)=1)&&decide ((t.To.length:Int)=2)
 else if t.Kind=3 then (decide ((t.Args.length:Int)=1)&&decide (2≤(t.To.length:Int)))&&decide ((t.To.length:Int)≤65) else if t.Kind=4 then decide ((t.Args.length:Int)≤1)&&decide ((t.To.length:Int)=0)
 else if t.Kind=5 then decide ((t.Args.length:Int)=0)&&decide ((t.To.length:Int)=0) else false
theorem term_iff{t:D.Term}:termM t=true↔∃s,shM t.Kind=some s∧(s.1≤(t.Args.length:Int)∧(t.Args.length:Int)≤s.2.1)∧(s.2.2.1≤(t.To.length:Int)∧(t.To.length:Int)≤s.2.2.2):=by
 unfold termM shM
 by_cases h1:t.Kind=1
 ·simp only[h1,if_true,Bool.and_eq_true,decide_eq_true_eq,Option.some.injEq,exists_eq_left'];omega
 by_cases h2:t.Kind=2
 ·simp only[h2,if_true,show ¬(2:Int)=1 by decide,if_false,Bool.and_eq_true,decide_eq_true_eq,Option.some.injEq,exists_eq_left'];omega
 by_cases h3:t.Kind=3
 ·simp only[h3,if_true,show ¬(3:Int)=1 by decide,show ¬(3:Int)=2 by decide,if_false,Bool.and_eq_true,decide_eq_true_eq,Option.some.injEq,exists_eq_left'];omega
 by_cases h4:t.Kind=4
 ·simp only[h4,if_true,show ¬(4:Int)=1 by decide,show ¬(4:Int)=2 by decide,show ¬(4:Int)=3 by decide,if_false,Bool.and_eq_true,decide_eq_true_eq,Option.some.injEq,exists_eq_left'];omega
 by_cases h5:t.Kind=5
 ·simp only[h5,if_true,show ¬(5:Int)=1 by decide,show ¬(5:Int)=2 by decide,show ¬(5:Int)=3 by decide,show ¬(5:Int)=4 by decide,if_false,Bool.and_eq_true,decide_eq_true_eq,Option.some.injEq,exists_eq_left'];omega
 simp[h1,h2,h3,h4,h5]
inductive TAt (f:D.Func):D.Tg3→Prop
 | phi {b j:Nat}:b<f.Blocks.length→j<(ix f.Blocks b).Phis.length→TAt f (phT b j (ix (ix f.Blocks b).Phis j))
 | ins {b j:Nat}:b<f.Blocks.length→j<(ix f.Blocks b).Ins.length→TAt f (inT b j (ix (ix f.Blocks b).Ins j))
 | fin {b:Nat}:b<f.Blocks.length→TAt f (enT b (ix f.Blocks b))
theorem phL_mm{b:Int}{t:D.Tg3}:∀(l:List D.Phi) (i:Nat),t∈phL b i l↔∃j,j<l.length∧t=phT b (i+j) (ix l j)
 | [],i=>by simp[phL]
 | p::l,i=>by
  rw[phL,List.mem_cons,phL_mm l (i+1)]
  constructor
  ·rintro(h|⟨j,h1,h2⟩)
   ·exact⟨0,by simp,by rw[h,ix_zero];rfl⟩
   ·exact⟨j+1,by simpa using h1,by rw[h2,ix_cons,show i+1+j=i+(j+1) by omega]⟩
  ·rintro⟨j,h1,h2⟩
   cases j with
   | zero=>left;rw[h2,ix_zero];rfl
   | succ j=>right;exact⟨j,by simpa using h1,by rw[h2,ix_cons,show i+1+j=i+(j+1) by omega]⟩
theorem inL_mm{b:Int}{t:D.Tg3}:∀(l:List D.Ins) (i:Nat),t∈inL b i l↔∃j,j<l.length∧t=inT b (i+j) (ix l j)
 | [],i=>by simp[inL]
 | p::l,i=>by
  rw[inL,List.mem_cons,inL_mm l (i+1)]
  constructor
  ·rintro(h|⟨j,h1,h2⟩)
   ·exact⟨0,by simp,by rw[h,ix_zero];rfl⟩
   ·exact⟨j+1,by simpa using h1,by rw[h2,ix_cons,show i+1+j=i+(j+1) by omega]⟩
  ·rintro⟨j,h1,h2⟩
   cases j with
   | zero=>left;rw[h2,ix_zero];rfl
   | succ j=>right;exact⟨j,by simpa using h1,by rw[h2,ix_cons,show i+1+j=i+(j+1) by omega]⟩
theorem blL_mm{t:D.Tg3}:∀(l:List D.Block) (k:Nat),t∈blL k l↔∃b,b<l.length∧((∃j,j<(ix l b).Phis.length∧t=phT ((k+b:Nat):Int) j (ix (ix l b).Phis j))∨(∃j,j<(ix l b).Ins.length∧t=inT ((k+b:Nat):Int) j (ix (ix l b).Ins j))∨t=enT ((k+b:Nat):Int) (ix l b))
 | [],k=>by simp[blL]
 | x::l,k=>by
  rw[blL,List.mem_append,List.mem_append,List.mem_cons,blL_mm l (k+1),phL_mm,inL_mm]
  constructor
  ·rintro(⟨j,h1,h2⟩|⟨j,h1,h2⟩|h|⟨b,h1,h2⟩)
   ·exact⟨0,by simp,.inl ⟨j,by rw[ix_zero];exact h1,by rw[h2,ix_zero,Nat.zero_add];rfl⟩⟩
   ·exact⟨0,by simp,.inr (.inl ⟨j,by rw[ix_zero];exact h1,by rw[h2,ix_zero,Nat.zero_add];rfl⟩)⟩
   ·exact⟨0,by simp,.inr (.inr (by rw[h,ix_zero];rfl))⟩
   ·exact⟨b+1,by simpa using h1,by rw[ix_cons,show k+(b+1)=k+1+b by omega];exact h2⟩
  ·rintro⟨b,h1,h2⟩
   cases b with
   | zero =>
    rw[ix_zero] at h2
    rcases h2 with⟨j,h3,h4⟩|⟨j,h3,h4⟩|h3
    ·exact .inl ⟨j,h3,by rw[h4,Nat.zero_add];rfl⟩
    ·exact .inr (.inl ⟨j,h3,by rw[h4,Nat.zero_add];rfl⟩)
    ·exact .inr (.inr (.inl (by rw[h3];rfl)))
   | succ b =>
    rw[ix_cons,show k+(b+1)=k+1+b by omega] at h2
    exact .inr (.inr (.inr ⟨b,by simpa using h1,h2⟩))
theorem things_mem{f:D.Func}{t:D.Tg3}:t∈things3 f↔TAt f t:=by
 unfold things3
 rw[blL_mm]
 simp only[Nat.zero_add]
 constructor
 ·rintro⟨b,h1,⟨j,h2,rfl⟩|⟨j,h2,rfl⟩|rfl⟩
  ·exact .phi h1 h2
  ·exact .ins h1 h2
  ·exact .fin h1
 ·rintro(⟨h1,h2⟩|⟨h1,h2⟩|h1)
  ·exact⟨_,h1,.inl ⟨_,h2,rfl⟩⟩
  ·exact⟨_,h1,.inr (.inl ⟨_,h2,rfl⟩)⟩
  ·exact⟨_,h1,.inr (.inr rfl)⟩
theorem phL_mq{b:Int}:∀(l:List D.Phi) (i:Nat),(phL b i l).flatMap (fun t=>t.Makes)=l.map (fun p=>p.Dst)
 | [],_=>rfl
 | p::l,i=>by rw[phL,List.flatMap_cons,phL_mq l];rfl
theorem inL_mq{b:Int}:∀(l:List D.Ins) (i:Nat),(inL b i l).flatMap (fun t=>t.Makes)=l.flatMap makes3
 | [],_=>rfl
 | p::l,i=>by rw[inL,List.flatMap_cons,inL_mq l,List.flatMap_cons];rfl
theorem blL_mq:∀(l:List D.Block) (k:Nat),(blL k l).flatMap (fun t=>t.Makes)=l.flatMap mkB
 | [],_=>rfl
 | x::l,k=>by
  rw[blL,List.flatMap_append,List.flatMap_append,List.flatMap_cons,blL_mq l,phL_mq,inL_mq,List.flatMap_cons,mkB,List.append_assoc];rfl
theorem things_makes{f:D.Func}:(things3 f).flatMap (fun t=>t.Makes)=f.Blocks.flatMap mkB:=blL_mq _ _
def tIns(f:D.Func)(t:D.Tg3):D.Ins:=ix (ix f.Blocks t.Block.toNat).Ins t.Place.toNat
structure ThOk(f:D.Func)(t:D.Tg3):Prop where
 op:0≤t.Place→t.Place<(ix f.Blocks t.Block.toNat).Ins.length→(1≤(tIns f t).Op∧(tIns f t).Op≤18)∧cntsM (tIns f t).Op (tIns f t).Args.length=true
 tm:t.Place=(ix f.Blocks t.Block.toNat).Ins.length→termM (ix f.Blocks t.Block.toNat).Term=true
 mks:∀n∈t.Makes,f.Params≤n∧n≤8191
 to:t.Place=(ix f.Blocks t.Block.toNat).Ins.length→∀x∈(ix f.Blocks t.Block.toNat).Term.To,1≤x∧x<f.Blocks.length
def ShR(f:D.Func):Prop:=(∀t∈things3 f,ThOk f t)∧((things3 f).flatMap (fun t=>t.Makes)).Nodup
theorem nodup_blk{bs:List D.Block}:(bs.flatMap mkB).Nodup↔Once bs:=by
 constructor
 ·intro h
  refine⟨fun j=>?_,fun i j hij r hr hr2=>?_⟩
  ·rcases Nat.lt_or_ge j bs.length with hj|hj
   ·have:∀{l:List D.Block},(l.flatMap mkB).Nodup→∀x∈l,(mkB x).Nodup:=by
     intro l
     induction l with
     | nil=>intro _ x hx;cases hx
     | cons a l ih =>
      intro h x hx
      rw[List.flatMap_cons,List.nodup_append] at h
      rcases List.mem_cons.1 hx with e|e
      ·subst e;exact h.1
      ·exact ih h.2.1 x e
    exact this h _ (ix_mem hj)
   ·rw[ix_out hj];exact List.nodup_nil
  ·rcases Nat.lt_or_ge i bs.length with hi|hi
   ·rcases Nat.lt_or_ge j bs.length with hj|hj
    ·exact nodup_flat h hi hj hij r hr hr2
    ·rw[ix_out hj] at hr2;cases hr2
   ·rw[ix_out hi] at hr;cases hr
 ·intro h
  exact nodup_flatG (fun i _=>h.nd i) (fun i j hij _ x hx hx2=>h.dj j i (by omega) x hx hx2)
structure ShG(f:D.Func):Prop where
 once:Once f.Blocks
 rng:∀b,b<f.Blocks.length→∀r∈mkB (ix f.Blocks b),f.Params≤r∧r≤8191
 op:∀b,b<f.Blocks.length→∀i∈(ix f.Blocks b).Ins,(1≤i.Op∧i.Op≤18)∧(operM i.Op).1≤(i.Args.length:Int)∧(i.Args.length:Int)≤(operM i.Op).2
 tm:∀b,b<f.Blocks.length→tmOk (ix f.Blocks b).Term
 to:∀b,b<f.Blocks.length→∀t∈(ix f.Blocks b).Term.To,1≤t∧t<f.Blocks.length
theorem shR_iff{f:D.Func}:ShR f↔ShG f:=by
 constructor
 ·rintro⟨h,hn⟩
  refine⟨nodup_blk.1 (things_makes▸hn),fun b hb r hr=>?_,fun b hb i hi=>?_,fun b hb=>?_,fun b hb t ht=>?_⟩
  ·rcases mkB_ix.1 hr with⟨i,h1,h2⟩|⟨i,h1,h2⟩
   ·exact(h _ (things_mem.2 (.phi hb h1))).mks r (by rw[h2];simp[phT])
   ·exact(h _ (things_mem.2 (.ins hb h1))).mks r h2
  ·obtain⟨j,hj,e⟩:=List.getElem_of_mem hi
   rw[←ix_eq hj] at e;subst e
   have:=(h _ (things_mem.2 (.ins hb hj))).op (by show(0:Int)≤(j:Int);omega) (by show(j:Int)<_;simp only[inT,Int.toNat_natCast];omega)
   have e2:tIns f (inT b j (ix (ix f.Blocks b).Ins j))=ix (ix f.Blocks b).Ins j:=by simp[tIns,inT]
   rw[e2] at this
   exact⟨this.1,cnts_iff.1 this.2⟩
  ·have:=(h _ (things_mem.2 (.fin hb))).tm (by simp[enT])
   simp only[enT,Int.toNat_natCast] at this
   exact term_iff.1 this
  ·have:=(h _ (things_mem.2 (.fin hb))).to (by simp[enT])
   simp only[enT,Int.toNat_natCast] at this
   exact this t ht
 ·intro h
  refine⟨fun t ht=>?_,things_makes▸nodup_blk.2 h.once⟩
  rcases things_mem.1 ht with⟨h1,h2⟩|⟨h1,h2⟩|h1
  ·refine⟨fun h9=>?_,fun h9=>?_,fun n hn=>?_,fun h9=>?_⟩
   ·simp only[phT] at h9;omega
   ·simp only[phT] at h9;omega
   ·simp only[phT,List.mem_singleton] at hn
    exact h.rng _ h1 n (mkB_ix.2 (.inl ⟨_,h2,hn⟩))
   ·simp only[phT] at h9;omega
  ·refine⟨fun _ _=>?_,fun h9=>?_,fun n hn=>h.rng _ h1 n (mkB_ix.2 (.inr ⟨_,h2,hn⟩)),fun h9=>?_⟩
   ·simp only[tIns,inT,Int.toNat_natCast]
    have:=h.op _ h1 _ (ix_mem h2)
    exact⟨this.1,cnts_iff.2 this.2⟩
   ·simp only[inT,Int.toNat_natCast] at h9;omega
   ·simp only[inT,Int.toNat_natCast] at h9;omega
  ·refine⟨fun _ h9=>?_,fun _=>?_,fun n hn=>?_,fun _=>?_⟩
   ·simp only[enT,Int.toNat_natCast] at h9;omega
   ·simp only[enT,Int.toNat_natCast];exact term_iff.2 (h.tm _ h1)
   ·simp[enT] at hn
   ·simp only[enT,Int.toNat_natCast];exact h.to _ h1
theorem gr_iff{f:D.Func}{q t:Nat}:prG (graphF f) q t↔(t:Int)∈(ix f.Blocks q).Term.To∧t<f.Blocks.length:=by
 unfold prG
 rcases Nat.lt_or_ge q f.Blocks.length with hq|hq
 ·have h1:ix (cleanM (graphF f)) q=keptM (ix (graphF f) q) (graphF f).length:=by unfold cleanM;rw[ix_mapG (by rw[graph_len];omega)]
  have h2:ix (graphF f) q=keptM (ix f.Blocks q).Term.To f.Blocks.length:=by unfold graphF;rw[ix_mapG (l:=f.Blocks) (by omega)]
  rw[h1,h2,graph_len,kept_kept,kept_mem]
  exact⟨fun h=>⟨h.1,by omega⟩,fun h=>⟨h.1,by omega⟩⟩
 ·rw[ix_out (l:=cleanM (graphF f)) (by unfold cleanM graphF;simpa using hq),ix_out hq]
  exact⟨fun h=>(by cases h),fun h=>(by cases h.1)⟩
theorem b3In_ok{P:Nat→Prop}{w:Int}:∀(T:List Int) (se:List Bool) (q:List Int),(∀t∈T,0≤t→t<se.length→t≠w→P t.toNat)→(∀x,ix se x=true→P x)→(∀x∈q,0≤x∧P x.toNat) →
  (∀x,ix (b3In w se q T).1 x=true→P x)∧(∀x∈(b3In w se q T).2,0≤x∧P x.toNat)
 | [],se,q,_,h2,h3=>⟨h2,h3⟩
 | t::T,se,q,h1,h2,h3=>by
  rw[b3In]
  split
  ·rename_i h
   have hp:=h1 t (by simp) h.1.1 h.1.2 h.2.2
   refine b3In_ok T _ _ (fun y hy h4 h5=>h1 y (by simp[hy]) h4 (by simpa using h5)) (fun x hx=>?_) (fun x hx=>?_)
   ·rw[ix_set (by omega)] at hx
    split at hx
    ·rename_i e;rw[e];exact hp
    ·exact h2 x hx
   ·rcases List.mem_append.1 hx with h4|h4
    ·exact h3 x h4
    ·simp at h4;subst h4;exact⟨h.1.1,hp⟩
  ·exact b3In_ok T _ _ (fun y hy=>h1 y (by simp[hy])) h2 h3
theorem b3_ok{P:Nat→Prop}{bs:List D.Block}{w:Int}{n:Nat}(hc:∀x,P x→∀t∈(ix bs x).Term.To,0≤t→t<n→t≠w→P t.toNat):∀(k:Nat) (se:List Bool) (q:List Int) (i:Nat),se.length=n→(∀x,ix se x=true→P x)→(∀x∈q,0≤x∧P x.toNat)→∀x,ix (b3 bs w k se q i) x=true→P x
 | 0,se,q,i,_,h2,_=>h2
 | k+1,se,q,i,hl,h2,h3=>by
  rw[b3]
  split
  ·rename_i hi
   have h4:=h3 _ (ix_mem hi)
   obtain⟨h5,h6⟩:=b3In_ok (w:=w) (ix bs (ix q i).toNat).Term.To se q (fun t ht h7 h8=>hc _ h4.2 t ht h7 (by omega)) h2 h3
   exact b3_ok hc k _ _ _ (by rw[b3In_len];exact hl) h5 h6
  ·exact h2
theorem reach_sound{f:D.Func}{w:Int}{w':Nat}(hw:∀t:Nat,t<f.Blocks.length→((t:Int)≠w↔t≠w')){b:Nat}(h:ix (reach3 f w) b=true):RB (prG (graphF f)) w' b:=by
 unfold reach3 at h
 split at h
 ·rename_i h0
  have z:RB (prG (graphF f)) w' 0 := .zero (fun e=>(hw 0 h0.2).1 (fun e2=>h0.1 e2.symm) e.symm)
  refine b3_ok (P:=RB (prG (graphF f)) w') (n:=f.Blocks.length) (fun x hx t ht h1 h2 h3=>?_) _ _ _ _ (by simp) (fun x hx=>?_) (fun x hx=>?_) b h
  ·have h4:((t.toNat:Nat):Int)=t:=Int.toNat_of_nonneg h1
   exact .step hx (gr_iff.2 ⟨by rw[h4];exact ht,by omega⟩) ((hw t.toNat (by omega)).1 (by rw[h4];exact h3))
  ·rw[ix_set (by simpa using h0.2)] at hx
   split at hx
   ·rename_i e;rw[e];exact z
   ·rw[ix_rep] at hx;cases hx
  ·simp at hx;subst hx;exact⟨Int.le_refl _,z⟩
 ·rw[ix_rep] at h;cases h
theorem reach_full{f:D.Func}{w:Int}{w':Nat}(hn:0<f.Blocks.length)(hw:∀t:Nat,t<f.Blocks.length→((t:Int)≠w↔t≠w')){b:Nat}(h:RB (prG (graphF f)) w' b):ix (reach3 f w) b=true:=by
 have h0:w≠0:=by
  have:w'≠0:=by
   induction h with
   | zero h=>exact h
   | step _ _ _ ih=>exact ih
  exact fun e=>(hw 0 hn).2 (fun e2=>this e2.symm) (by rw[e];rfl)
 obtain⟨a,c⟩:=reach3_cl (f:=f) h0 hn
 induction h with
 | zero h=>exact a
 | @step x t h1 h2 h3 ih =>
  have h4:=gr_iff.1 h2
  have:=c x ih t h4.1 (by omega) (by omega) ((hw t h4.2).2 h3)
  rwa[Int.toNat_natCast] at this
theorem reach_iff{f:D.Func}{w:Nat}(hn:0<f.Blocks.length){b:Nat}:ix (reach3 f (w:Int)) b=true↔RB (prG (graphF f)) w b :=
 ⟨reach_sound (fun t _=>by omega),reach_full hn (fun t _=>by omega)⟩
theorem reach_all{f:D.Func}(hn:0<f.Blocks.length){b:Nat}:ix (reach3 f (-1)) b=true↔∃w,RB (prG (graphF f)) w b:=by
 constructor
 ·exact fun h=>⟨_,reach_sound (w':=f.Blocks.length) (fun t ht=>by omega) h⟩
 ·rintro⟨w,h⟩
  refine reach_full (w':=f.Blocks.length) hn (fun t ht=>by omega) ?_
  induction h with
  | zero _=>exact .zero (by omega)
  | step _ h2 _ ih=>exact .step ih h2 (by have:=(gr_iff.1 h2).2;omega)
def noT:D.Tg3:=⟨-1,0,[],[]⟩
def sitN(t:D.Tg3)(o:List D.Tg3)(n:Int):List D.Tg3:=if 0≤n∧n<8192 then o.set n.toNat t else o
def sitT(o:List D.Tg3)(t:D.Tg3):List D.Tg3:=t.Makes.foldl (sitN t) o
def sitesM(l:List D.Tg3):List D.Tg3:=l.foldl sitT (List.replicate 8192 noT)
theorem sitN_len{t:D.Tg3}{o:List D.Tg3}{n:Int}:(sitN t o n).length=o.length:=by unfold sitN;split<;>simp
theorem sitF_len{t:D.Tg3}:∀(l:List Int) (o:List D.Tg3),(l.foldl (sitN t) o).length=o.length
 | [],_=>rfl
 | n::l,o=>by rw[List.foldl_cons,sitF_len l,sitN_len]
theorem sitT_len:∀(l:List D.Tg3) (o:List D.Tg3),(l.foldl sitT o).length=o.length
 | [],_=>rfl
 | t::l,o=>by rw[List.foldl_cons,sitT_len l];exact sitF_len _ _
theorem sitF_ix{t:D.Tg3}{v:Nat}(hv:v<8192):∀(l:List Int) (o:List D.Tg3),o.length=8192→ix (l.foldl (sitN t) o) v=if (v:Int)∈l then t else ix o v
 | [],o,_=>by simp
 | n::l,o,ho=>by
  rw[List.foldl_cons,sitF_ix hv l _ (by rw[sitN_len];exact ho)]
  by_cases h1:(v:Int)∈l
  ·rw[if_pos h1,if_pos (by simp[h1])]
  ·rw[if_neg h1]
   by_cases h2:(v:Int)=n
   ·rw[if_pos (by simp[h2])]
    unfold sitN
    rw[if_pos (by omega),ix_set (by omega),if_pos (by omega)]
   ·rw[if_neg (by simp[h1,h2])]
    unfold sitN
    split
    ·rw[ix_set (by omega),if_neg (by omega)]
    ·rfl
theorem sitT_ix{v:Nat}(hv:v<8192):∀(l:List D.Tg3) (o:List D.Tg3),o.length=8192→(∃t∈l,(v:Int)∈t.Makes∧ix (l.foldl sitT o) v=t)∨((∀t∈l,(v:Int)∉t.Makes)∧ix (l.foldl sitT o) v=ix o v)
 | [],o,_ => .inr ⟨fun t h=>(by cases h),rfl⟩
 | t::l,o,ho=>by
  rw[List.foldl_cons]
  rcases sitT_ix hv l (sitT o t) (by unfold sitT;rw[sitF_len];exact ho) with⟨t',h1,h2,h3⟩|⟨h1,h2⟩
  ·exact .inl ⟨t',by simp[h1],h2,h3⟩
  ·have h3:ix (sitT o t) v=if (v:Int)∈t.Makes then t else ix o v:=sitF_ix hv _ _ ho
   by_cases h4:(v:Int)∈t.Makes
   ·rw[if_pos h4] at h3
    exact .inl ⟨t,by simp,h4,by rw[h2,h3]⟩
   ·rw[if_neg h4] at h3
    refine .inr ⟨fun t' ht'=>?_,by rw[h2,h3]⟩
    rcases List.mem_cons.1 ht' with e|e
    ·rw[e];exact h4
    ·exact h1 t' e
theorem sites_len{l:List D.Tg3}:(sitesM l).length=8192:=by unfold sitesM;rw[sitT_len];exact List.length_replicate
theorem sites_ix{l:List D.Tg3}{v:Nat}(hv:v<8192):(∃t∈l,(v:Int)∈t.Makes∧ix (sitesM l) v=t)∨((∀t∈l,(v:Int)∉t.Makes)∧ix (sitesM l) v=noT):=by
 rcases sitT_ix hv l (List.replicate 8192 noT) List.length_replicate with h|⟨h1,h2⟩
 ·exact .inl h
 ·exact .inr ⟨h1,by unfold sitesM;rw[h2,ix_eq (by rw[List.length_replicate];exact hv)];exact List.getElem_replicate _⟩
def standsM(f:D.Func)(made:List D.Tg3)(away:List (List Bool))(v b p:Int):Bool :=
 if 0≤v∧v<f.Params then true else if (v<0∨8191<v)∨(ix made v.toNat).Block<0 then false
 else if (ix made v.toNat).Block=b then decide ((ix made v.toNat).Place<0)||decide ((ix made v.toNat).Place<p)
 else !(ix (ix away (ix made v.toNat).Block.toNat) b.toNat)
theorem tat_rng{f:D.Func}{t:D.Tg3}(h:TAt f t):0≤t.Block∧t.Block<f.Blocks.length:=by
 rcases h with⟨h1,_⟩|⟨h1,_⟩|h1
 ·simp only[phT];omega
 ·simp only[inT];omega
 ·simp only[enT];omega
theorem sites_rng{f:D.Func}{v:Nat}(hv:v<8192):(ix (sitesM (things3 f)) v).Block<f.Blocks.length:=by
 rcases sites_ix (l:=things3 f) hv with⟨t,h1,_,h3⟩|⟨_,h2⟩
 ·rw[h3];exact(tat_rng (things_mem.1 h1)).2
 ·rw[h2];show(-1:Int)<_;omega
theorem tat_pos{f:D.Func}{t:D.Tg3}{v:Int}(h:TAt f t)(hv:v∈t.Makes):PosAt f.Blocks v t.Block.toNat t.Place:=by
 rcases h with⟨h1,h2⟩|⟨h1,h2⟩|h1
 ·simp only[phT,List.mem_singleton] at hv ⊢
  exact⟨by simpa using h1,.inl ⟨_,by simpa using h2,by simpa using hv,rfl⟩⟩
 ·simp only[inT] at hv ⊢
  exact⟨by simpa using h1,.inr ⟨_,by simpa using h2,by simpa using hv,rfl⟩⟩
 ·simp[enT] at hv
theorem pos_tat{f:D.Func}{v:Int}{wb:Nat}{wp:Int}(h:PosAt f.Blocks v wb wp):∃t∈things3 f,v∈t.Makes:=by
 obtain⟨h1,⟨i,h2,h3,_⟩|⟨i,h2,h3,_⟩⟩:=h
 ·exact⟨_,things_mem.2 (.phi h1 h2),by simp[phT,h3]⟩
 ·exact⟨_,things_mem.2 (.ins h1 h2),h3⟩
theorem pos_one{f:D.Func}(hO:Once f.Blocks){v:Int}{wb wb':Nat}{wp wp':Int}(h:PosAt f.Blocks v wb wp)(h':PosAt f.Blocks v wb' wp'):wb=wb'∧wp=wp':=by
 have e:=hO.at h _ h.1
 rw[hO.at h' _ h'.1] at e
 injection e with e;unfold wv at e;injection e with e;injection e with e
 simp at e
 exact⟨by omega,by omega⟩
theorem stands_iff{f:D.Func}(hS:ShG f)(hp0:0≤f.Params)(hn:0<f.Blocks.length){v b p:Int}(hb:0≤b∧b<f.Blocks.length):standsM f (sitesM (things3 f)) (awayL f f.Blocks.length) v b p=true↔US f v b.toNat p:=by
 unfold standsM
 by_cases h1:0≤v∧v<f.Params
 ·rw[if_pos h1];exact⟨fun _ => .inl h1,fun _=>rfl⟩
 rw[if_neg h1]
 by_cases h2:v<0∨8191<v
 ·rw[if_pos (.inl h2)]
  refine⟨fun h=>(by cases h),fun h=>?_⟩
  rcases h with h|⟨wb,wp,h,_⟩
  ·exact absurd h h1
  ·have h3:v∈mkB (ix f.Blocks wb):=by
    obtain⟨_,⟨i,h4,h5,_⟩|⟨i,h4,h5,_⟩⟩:=h
    ·exact mkB_ix.2 (.inl ⟨i,h4,h5⟩)
    ·exact mkB_ix.2 (.inr ⟨i,h4,h5⟩)
   have:=hS.rng wb h.1 v h3
   have h9:0≤f.Params∨f.Params<0:=by omega
   rcases h2 with h2|h2
   ·omega
   ·omega
 ·have hv:((v.toNat:Nat):Int)=v:=Int.toNat_of_nonneg (by omega)
  rcases sites_ix (l:=things3 f) (v:=v.toNat) (by omega) with⟨t,ht,hm,e⟩|⟨hno,e⟩
  ·rw[hv] at hm
   have ha:=things_mem.1 ht
   have hr:=tat_rng ha
   have hp:=tat_pos ha hm
   rw[e,if_neg (by omega)]
   have hu:US f v b.toNat p↔(t.Block.toNat=b.toNat∧(t.Place<p∨t.Place<0))∨(t.Block.toNat≠b.toNat∧¬RB (prG (graphF f)) t.Block.toNat b.toNat):=by
    constructor
    ·rintro(h|⟨wb,wp,h,h3⟩)
     ·exact absurd h h1
     ·obtain⟨rfl,rfl⟩:=pos_one hS.once hp h
      exact h3
    ·exact fun h => .inr ⟨_,_,hp,h⟩
   rw[hu]
   by_cases h3:t.Block=b
   ·rw[if_pos h3,h3]
    simp
    exact Or.comm
   ·rw[if_neg h3,awayL_ix f (by omega)]
    have h4:t.Block.toNat≠b.toNat:=by omega
    have h5:=reach_iff (f:=f) (w:=t.Block.toNat) hn (b:=b.toNat)
    simp only[Bool.not_eq_true']
    constructor
    ·intro h6
     exact .inr ⟨h4,fun h7=>by rw[h5.2 h7] at h6;cases h6⟩
    ·rintro(h6|⟨_,h6⟩)
     ·exact absurd h6.1 h4
     ·cases h7:ix (reach3 f ((t.Block.toNat:Nat):Int)) b.toNat with
      | false=>rfl
      | true=>exact absurd (h5.1 h7) h6
  ·rw[hv] at hno
   rw[e,if_pos (.inr (by show(-1:Int)<0;omega))]
   refine⟨fun h=>(by cases h),fun h=>?_⟩
   rcases h with h|⟨wb,wp,h,_⟩
   ·exact absurd h h1
   ·obtain⟨t,h3,h4⟩:=pos_tat h
    exact absurd h4 (hno t h3)
theorem preds_pk{f:D.Func}{v:Nat}(hv:v<f.Blocks.length):∀k,predK (cleanM (graphF f)) k v=predsT3 f.Blocks k v
 | 0=>rfl
 | k+1=>by
  rw[predK,predsT3,preds_pk hv k]
  congr 1
  have h1:(v:Int)∈ix (cleanM (graphF f)) k↔(v:Int)∈(ix f.Blocks k).Term.To:=⟨fun h=>(gr_iff.1 h).1,fun h=>gr_iff.2 ⟨h,hv⟩⟩
  by_cases h2:(v:Int)∈(ix f.Blocks k).Term.To
  ·rw[if_pos (h1.2 h2),if_pos (List.any_eq_true.2 ⟨_,h2,by simp⟩)]
  ·rw[if_neg (fun h3=>h2 (h1.1 h3)),if_neg (fun h3=>by
    obtain⟨y,h4,h5⟩:=List.any_eq_true.1 h3
    simp at h5;subst h5;exact h2 h4)]
theorem preds_3{f:D.Func}{v:Nat}(hv:v<f.Blocks.length):pd3 f v=ix (predsG (graphF f)) v:=by
 rw[predsG_at,graph_len,preds_pk hv];rfl
def tIn(f:D.Func)(t:D.Tg3):List D.In:=(ix (ix f.Blocks t.Block.toNat).Phis (-1-t.Place).toNat).In
def stG(f:D.Func)(v b p:Int):Bool:=standsM f (sitesM (things3 f)) (awayL f f.Blocks.length) v b p
structure ThUs(f:D.Func)(t:D.Tg3):Prop where
 tk:0≤t.Place→∀v∈t.Takes,stG f v t.Block t.Place=true
 fr:t.Place<0→0<t.Block∧(tIn f t).map (fun x=>x.From)=pd3 f t.Block
 up:t.Place<0→∀x∈tIn f t,stG f x.Val x.From (ix f.Blocks x.From.toNat).Ins.length=true
theorem tIn_phi{f:D.Func}{b j:Nat}:tIn f (phT b j (ix (ix f.Blocks b).Phis j))=(ix (ix f.Blocks b).Phis j).In:=by
 unfold tIn phT
 simp only[Int.toNat_natCast]
 rw[show(-1-(-1-(j:Int))).toNat=j by omega]
theorem preds3_rg{f:D.Func}{b x:Int}(h:x∈pd3 f b):0≤x∧x<f.Blocks.length:=preds3_rng x h
theorem good_R{f:D.Func}:GoodF f↔(0≤f.Params∧f.Params≤4)∧(0<f.Blocks.length∧f.Blocks.length≤512)∧f.Blocks.length+cntF3 f.Blocks≤4096∧ShR f∧(∀b,b<f.Blocks.length→ix (reach3 f (-1)) b=true)∧∀t∈things3 f,ThUs f t:=by
 constructor
 ·intro h
  have hS:ShG f:=⟨h.once,h.rng,h.op,h.tm,h.to⟩
  refine⟨h.par,h.len,h.cnt,shR_iff.2 hS,fun b hb=>(reach_all h.len.1).2 (h.reach b hb),fun t ht=>?_⟩
  rcases things_mem.1 ht with⟨h1,h2⟩|⟨h1,h2⟩|h1
  ·have hf:=h.fr _ h1 _ (ix_mem h2)
   refine⟨fun h9=>?_,fun _=>⟨?_,?_⟩,fun _ x hx=>?_⟩
   ·simp only[phT] at h9;omega
   ·simp only[phT];omega
   ·rw[tIn_phi,hf.2];exact(preds_3 h1).symm
   ·rw[tIn_phi] at hx
    have h4:=List.mem_map.2 ⟨x,hx,(rfl:x.From=x.From)⟩
    rw[hf.2] at h4
    have h5:=preds_rng h4
    rw[graph_len] at h5
    exact(stands_iff hS h.par.1 h.len.1 h5).2 (h.up _ h1 _ (ix_mem h2) x hx)
  ·refine⟨fun _ v hv=>?_,fun h9=>?_,fun h9=>?_⟩
   ·refine(stands_iff hS h.par.1 h.len.1 (by simp only[inT];omega)).2 ?_
    simp only[inT,Int.toNat_natCast] at hv ⊢
    exact h.ui _ h1 _ h2 v hv
   ·simp only[inT] at h9;omega
   ·simp only[inT] at h9;omega
  ·refine⟨fun _ v hv=>?_,fun h9=>?_,fun h9=>?_⟩
   ·refine(stands_iff hS h.par.1 h.len.1 (by simp only[enT];omega)).2 ?_
    simp only[enT,Int.toNat_natCast] at hv ⊢
    exact h.ut _ h1 v hv
   ·simp only[enT] at h9;omega
   ·simp only[enT] at h9;omega
 ·rintro⟨h1,h2,h3,h4,h5,h6⟩
  have hS:=shR_iff.1 h4
  refine⟨h1,h2,h3,hS.once,hS.rng,hS.op,hS.tm,hS.to,fun b hb=>(reach_all h2.1).1 (h5 b hb),fun b hb p hp=>?_,fun b hb i hi v hv=>?_,fun b hb v hv=>?_,fun b hb p hp x hx=>?_⟩
  ·obtain⟨j,hj,e⟩:=List.getElem_of_mem hp
   rw[←ix_eq hj] at e;subst e
   have:=(h6 _ (things_mem.2 (.phi hb hj))).fr (by simp only[phT];omega)
   rw[tIn_phi] at this
   simp only[phT] at this
   exact⟨by omega,by rw[this.2,preds_3 hb]⟩
  ·have:=(h6 _ (things_mem.2 (.ins hb hi))).tk (by simp only[inT];omega) v hv
   have:=(stands_iff hS h1.1 h2.1 (by simp only[inT];omega)).1 this
   simpa[inT] using this
  ·have:=(h6 _ (things_mem.2 (.fin hb))).tk (by simp only[enT];omega) v hv
   have:=(stands_iff hS h1.1 h2.1 (by simp only[enT];omega)).1 this
   simpa[enT] using this
  ·obtain⟨j,hj,e⟩:=List.getElem_of_mem hp
   rw[←ix_eq hj] at e;subst e
   have h7:=h6 _ (things_mem.2 (.phi hb hj))
   have h8:=h7.fr (by simp only[phT];omega)
   have h9:=h7.up (by simp only[phT];omega)
   rw[tIn_phi] at h8 h9
   have ha:x.From∈pd3 f (phT b j (ix (ix f.Blocks b).Phis j)).Block:=by rw[←h8.2];exact List.mem_map.2 ⟨x,hx,rfl⟩
   exact(stands_iff hS h1.1 h2.1 (preds3_rg ha)).1 (h9 x hx)
def SeI(se:List Bool)(l:List Int):Prop:=∀n:Nat,n<8192→(ix se n=true↔(n:Int)∈l)
abbrev mkT(l:List D.Tg3):List Int:=l.flatMap (fun t=>t.Makes)
theorem SeI.beg:SeI (List.replicate 8192 false) []:=fun n _=>by rw[ix_rep];simp
theorem SeI.put{se:List Bool}{l:List Int}{x:Int}(h:SeI se l)(hl:se.length=8192)(hx:0≤x∧x≤8191):SeI (se.set x.toNat true) (l++[x]):=fun n hn=>by
 rw[ix_set (by omega),List.mem_append,List.mem_singleton]
 by_cases e:n=x.toNat
 ·rw[if_pos e];exact⟨fun _ => .inr (by omega),fun _=>rfl⟩
 ·rw[if_neg e,h n hn];exact⟨.inl,fun h9=>h9.resolve_right (by omega)⟩
theorem SeI.no{se:List Bool}{l:List Int}{x:Int}(h:SeI se l)(hx:0≤x∧x≤8191)(h0:¬ix se x.toNat=true):x∉l:=fun h9=>h0 ((h x.toNat (by omega)).2 (by rwa[Int.toNat_of_nonneg hx.1]))
theorem SeI.yes{se:List Bool}{l:List Int}{x:Int}(h:SeI se l)(hx:0≤x∧x≤8191)(h0:ix se x.toNat=true):x∈l:=by
 have:=(h x.toNat (by omega)).1 h0
 rwa[Int.toNat_of_nonneg hx.1] at this
theorem mkT_take{l:List D.Tg3}{i j:Nat}(hi:i<l.length)(hj:(ix l i).Makes.length≤j):mkT (l.take i)++(ix l i).Makes.take j=mkT (l.take (i+1)):=by
 unfold mkT;rw[take_ix hi,List.flatMap_append,List.take_of_length_le hj];simp
theorem take_app{l m:List Int}{k:Nat}(hk:k<m.length):l++m.take (k+1)=(l++m.take k)++[ix m k]:=by rw[take_ix hk,List.append_assoc]
theorem nd_snoc{l:List Int}{x:Int}(h:l.Nodup)(hx:x∉l):(l++[x]).Nodup:=List.nodup_append.2 ⟨h,by simp,fun a ha b hb e=>by simp at hb;subst hb;subst e;exact hx ha⟩
theorem dup_bad{l:List D.Tg3}{i k:Nat}(hi:i<l.length)(hk:k<(ix l i).Makes.length)(h:ix (ix l i).Makes k∈mkT (l.take i)++(ix l i).Makes.take k):¬(mkT l).Nodup:=fun hn=>by
 have e:mkT l=(mkT (l.take i)++(ix l i).Makes.take k)++(ix (ix l i).Makes k::((ix l i).Makes.drop (k+1)++mkT (l.drop (i+1)))):=by
  conv=>lhs;rw[←List.take_append_drop i l,drop_ix hi]
  unfold mkT
  rw[List.flatMap_append,List.flatMap_cons]
  conv=>lhs;rw[←List.take_append_drop k (ix l i).Makes,drop_ix hk]
  simp
 rw[e] at hn
 exact(List.nodup_append.1 hn).2.2 _ h _ (by simp) rfl
theorem lt_nx9{P:Nat→Prop}{k:Nat}(h:∀n,n<k→P n)(h2:P k):∀n,n<k+1→P n:=fun n hn=>by
 rcases Nat.lt_or_ge n k with h3|h3
 ·exact h n h3
 ·rw[show n=k by omega];exact h2
theorem all_nx9{α:Type}[Inhabited α]{P:α→Prop}{l:List α}{k:Nat}(hk:k<l.length)(h:∀n∈l.take k,P n)(h2:P (ix l k)):∀n∈l.take (k+1),P n:=fun n hn=>by
 rw[take_ix hk,List.mem_append] at hn
 rcases hn with h3|h3
 ·exact h n h3
 ·simp at h3;subst h3;exact h2
theorem all_end9{α:Type}{P:α→Prop}{l:List α}{k:Nat}(h:∀n∈l.take k,P n)(hk:l.length≤k):∀n∈l,P n:=by rwa[List.take_of_length_le hk] at h
theorem all_ix{α:Type}[Inhabited α]{P:α→Prop}{l:List α}(h:∀j,j<l.length→P (ix l j)):∀t∈l,P t:=fun t ht=>by
 obtain⟨j,hj,e⟩:=List.getElem_of_mem ht
 rw[←e,←ix_eq hj];exact h j hj
theorem fillG{α:Type}{n k:Nat}{a b x:α}(hk:k<n)(hx:x=a):(List.replicate k a++List.replicate (n-k) b).set k x=List.replicate (k+1) a++List.replicate (n-(k+1)) b:=by
 subst hx
 rw[List.set_append_right _ _ (by simp),List.length_replicate,Nat.sub_self]
 obtain⟨j,hj⟩:∃j,n-k=j+1:=⟨n-k-1,by omega⟩
 rw[hj,List.replicate_succ,List.set_cons_zero,show n-(k+1)=j by omega,List.replicate_succ',List.append_assoc];rfl
theorem fillG_ix{α:Type}[Inhabited α]{n k:Nat}{a b:α}(hk:k<n):ix (List.replicate k a++List.replicate (n-k) b) k=b:=by
 rw[ix_eq (by simp;omega),List.getElem_append_right (by simp)];simp
theorem tat_phi{f:D.Func}{t:D.Tg3}(h:TAt f t)(hp:t.Place<0):0≤-1-t.Place∧(-1-t.Place).toNat<(ix f.Blocks t.Block.toNat).Phis.length:=by
 rcases h with⟨h1,h2⟩|⟨h1,h2⟩|h1
 ·simp only[phT,Int.toNat_natCast];omega
 ·simp only[inT] at hp;omega
 ·simp only[enT] at hp;omega
theorem tat_phi2{f:D.Func}{t:D.Tg3}(h:TAt f t)(hp:t.Place<0):-1-t.Place<((ix f.Blocks t.Block.toNat).Phis.length:Int):=by have:=tat_phi h hp;omega
def FitR(f:D.Func)(t:D.Tg3)(k:Nat):Prop:=(0<t.Block∧(tIn f t).length=(pd3 f t.Block).length)∧∀m,m<k→(ix (tIn f t) m).From=ix (pd3 f t.Block) m
theorem fitR_end{f:D.Func}{t:D.Tg3}{k:Nat}(hk:(pd3 f t.Block).length≤k):FitR f t k↔(0<t.Block∧(tIn f t).map (fun x=>x.From)=pd3 f t.Block):=by
 constructor
 ·rintro⟨⟨h1,h2⟩,h3⟩
  refine⟨h1,List.ext_getElem (by simpa using h2) fun i hi hi2=>?_⟩
  rw[List.length_map] at hi
  have:=h3 i (by omega)
  rw[List.getElem_map,←ix_eq hi,this,ix_eq]
 ·rintro⟨h1,h2⟩
  have h3:(tIn f t).length=(pd3 f t.Block).length:=by rw[←h2];simp
  refine⟨⟨h1,h3⟩,fun m hm=>?_⟩
  rcases Nat.lt_or_ge m (tIn f t).length with h4|h4
  ·rw[←h2,ix_mapG h4]
  ·rw[ix_out h4,ix_out (by omega)];rfl
theorem fitR_nx{f:D.Func}{t:D.Tg3}{k:Nat}{ft2:Bool}(h:FitR f t k)(h2:ft2=decide ((ix (tIn f t) k).From=ix (pd3 f t.Block) k)):ft2=true↔FitR f t (k+1):=by
 rw[h2,decide_eq_true_eq]
 exact⟨fun h3=>⟨h.1,lt_nx9 h.2 h3⟩,fun h3=>h3.2 k (by omega)⟩
theorem fitR_dn{f:D.Func}{t:D.Tg3}{k m:Nat}(h:FitR f t m)(hk:k≤m):FitR f t k:=⟨h.1,fun j hj=>h.2 j (by omega)⟩
theorem cntT_F(l:List D.Block):cntT l=l.length+cntF3 l:=by
 induction l with
 | nil=>rfl
 | cons x l ih=>unfold cntF3 at ih ⊢;rw[cntT,ih,List.map_cons,List.sum_cons,List.length_cons];omega
theorem E188:Ent Tryz.prog 188:=⟨_,Tryz.func188,by kernel_rfl,by kernel_rfl⟩
theorem E189:Ent Tryz.prog 189:=⟨_,Tryz.func189,by kernel_rfl,by kernel_rfl⟩
theorem within_ct(n:Int)(a:Int)(b:Int):Tv Tryz.prog 114 #[.int .i64 n,.int .i64 a,.int .i64 b] [] [] (.bool (withinM n a b)):=by
 refine jenter (args:=[.int .i64 n,.int .i64 a,.int .i64 b]) Tryz.func114 rfl rfl rfl fun w0 X=>?_
 refine jq (jr (ja Z (jn (jx (jq (jr (jm Z (jm Z (js (jgeq Z Z) (jm Z (jg Z Z (.t _) (fun hg=>jmv Z) ?_)))))))))))
 refine jg Z Z (.t _) (fun hg=>jmv Z) (jg Z Z (.t _) (fun hg=>jleq (evg Z hg) (evg Z hg)) (js (jand Z Z) (ja Z (jn (jx (jrt ?_))))))
 exact jrB Z Z (by unfold withinM;rfl)
theorem oper_ct(op:Int):Tv Tryz.prog 162 #[.int .i64 op] [] [] (.tuple #[.int .i64 ((operM op).1),.int .i64 ((operM op).2)]):=by
 refine jenter (args:=[.int .i64 op]) Tryz.func162 rfl rfl rfl fun w0 X=>?_
 refine jq (jr (ja Z (ja Z (jn (jx (jq (jq (jr (jm Z (jn (jx ?_)))))))))))
 refine jb (jq (jr (js (jeql Z Z) (ja Z (jn (jx ?_))))))
 refine jif Z (fun hc1=>?_) (fun hc1=>?_)
 refine jq (jr (ja Z (ja Z (jn (jx (jrt (jbr (jtr ?_))))))))
 exact jr2 Z Z Z () (tII (by first|(simp[operM, *];done)|(unfold operM;(repeat' split)<;>first|rfl|(exfalso;omega)|simp_all))) dn (fun _ _=>kn)
 refine jq (jr (js (jeql Z Z) (ja Z (jn (jx ?_)))))
 refine jif Z (fun hc2=>?_) (fun hc2=>?_)
 refine jq (jr (ja Z (ja Z (jn (jx (jrt (jbr (jtr ?_))))))))
 exact jr2 Z Z Z () (tII (by first|(simp[operM, *];done)|(unfold operM;(repeat' split)<;>first|rfl|(exfalso;omega)|simp_all))) dn (fun _ _=>kn)
 refine jq (jr (js (jeql Z Z) (ja Z (jn (jx ?_)))))
 refine jif Z (fun hc3=>?_) (fun hc3=>?_)
 refine jq (jr (ja Z (ja Z (jn (jx (jrt (jbr (jtr ?_))))))))
 exact jr2 Z Z Z () (tII (by first|(simp[operM, *];done)|(unfold operM;(repeat' split)<;>first|rfl|(exfalso;omega)|simp_all))) dn (fun _ _=>kn)
 refine jsk (jbn (jx (jq (jr (ja Z (ja Z (jn (jx (jrt ?_)))))))))
 exact jr2 Z Z Z () (tII (by first|(simp[operM, *];done)|(unfold operM;(repeat' split)<;>first|rfl|(exfalso;omega)|simp_all))) dn (fun _ _=>kn)
theorem kMakes_ct{a0:Value}{i:D.Ins}:Td Tryz.prog 163 #[vIns i a0] [da rIns (vIns i a0) i] [] (rL (rI .i64)) (makes3 i):=by
 refine jenter (args:=[vIns i a0]) Tryz.func163 rfl rfl rfl fun w0 X=>?_
 refine jq (jr (jbox Z Z fun g1=>ja Z (jn (jx (jq (jq (jr (js (jf F67_0 Z) (js (jl k0 O3 Z Z) (jn ?_))))))))))
 refine jx (jb (jq (jr (js (jeql Z Z) (ja Z (jn (jx ?_)))))))
 refine jif Z (fun hc1=>?_) (fun hc1=>?_)
 refine jq (jr (ja Z (jn (jx (jrt (jbr (jtr ?_)))))))
 exact jrD Z Z (by first|(simp[makes3, *];done)|(unfold makes3;(repeat' split)<;>first|rfl|(exfalso;omega)|simp_all)) wN
 refine jq (jr (js (jeql Z Z) (ja Z (jn (jx ?_)))))
 refine jif Z (fun hc2=>?_) (fun hc2=>?_)
 refine jq (jr (js (jf F67_1 Z) (js (jl k0 O3 Z Z) (js (jf F67_2 Z) (js (jl k0 O3 Z Z) (jlit (r:=(rI .i64)) (l:=[i.Dst,i.Two]) U22 I3 (by decide) Z Z Z (lV Z Z (wI (rIns.W_Dst d0)) (lV Z Z (wI (rIns.W_Two d0)) ln)) fun g13=>ja Z (jn (jx (jrt (jbr ?_))))))))))
 refine jtr (qfz k0 (by(try simp)<;>omega) ?_)
 exact jrD Z Z (by first|(simp[makes3, *];done)|(unfold makes3;(repeat' split)<;>first|rfl|(exfalso;omega)|simp_all)) d0
 refine jsk (jbn (jx (jq (jr (js (jf F67_1 Z) (js (jl k0 O3 Z Z) (jlit (r:=(rI .i64)) (l:=[i.Dst]) U22 I3 (by decide) Z Z Z (lV Z Z (wI (rIns.W_Dst d0)) ln) fun g16=>ja Z (jn (jx (jrt ?_))))))))))
 refine qfz k0 (by(try simp)<;>omega) ?_
 exact jrD Z Z (by first|(simp[makes3, *];done)|(unfold makes3;(repeat' split)<;>first|rfl|(exfalso;omega)|simp_all)) d0
theorem common_ct{a0:Value}{idom:List Int}{a1:Value}{num:List Int}(a:Int)(b:Int)(hok:ComOK idom num a b):Tv Tryz.prog 186 #[a0,a1,.int .i64 a,.int .i64 b] [dv (rL (rI .i64)) a0 idom,dv (rL (rI .i64)) a1 num] [] (.int .i64 (comM idom num a b)):=by
 refine jenter (args:=[a0,a1,.int .i64 a,.int .i64 b]) Tryz.func186 rfl rfl rfl fun w0 X=>?_
 obtain⟨n,pr,hg,hnl,hv,hc0⟩:=hok
 refine jq (jr (ja Z (jn (jx (jsc (jq (jlab (jx (jq (jb ?_))))))))))
 refine jlp (u3 fun(f:Nat) (a9:Int) (b9:Int)=>⟨CO n num idom a b a9 b9∧comM idom num a b=comF idom num f a9 b9∧(ix num a9.toNat).toNat+(ix num b9.toNat).toNat<f,[dv (rL (rI .i64)) a0 idom,dv (rL (rI .i64)) a1 num],[],[(0,a0),(1,a1),(2,.int .i64 a9),(3,.int .i64 b9),(8,.int .i64 0)],f⟩) ((ix num a.toNat).toNat+(ix num b.toNat).toNat+1,a,b) ⟨hc0,rfl,Nat.lt_succ_self _⟩ (dc d0 (dc d1 dn)) kn ⟨Z,Z,Z,Z,Z,trivial⟩ ?_
 rintro⟨f,a9,b9⟩;dsimp only[u3];rintro⟨hco,hcm,hfu⟩
 have ra:=hco.ra
 have rb:=hco.rb
 have na:=(hg.rng a9.toNat (by omega))
 have nb:=(hg.rng b9.toNat (by omega))
 have hil:=hv.len
 refine jb (jb (jq (jstl Mixed (by kernel_rfl) (jt (jmv Z) (jt (jmv Z) (tdq d1 fun q1 w1=>jt (jix (i:=(Int.toNat a9)) U22 Z3 d1 Z Z (by omega) (by omega)) (jt (jlI (dix d1 (Int.toNat a9) (by omega)) O3 Z) (jt (jmv Z) (jt (jmv Z) (jt (jix (i:=(Int.toNat b9)) U22 Z3 d1 Z Z (by omega) (by omega)) ?_))))))))))
 refine jt (jlI (dix d1 (Int.toNat b9) (by omega)) O3 Z) (jt (jgtr Z Z) (jt (jas Z) (jdn (jx ?_))))
 refine jif Z (fun hc1=>?_) (fun hc1=>?_)
 refine jr (jm Z (jm Z (jdq d0 fun q2 w2=>js (jix (i:=(Int.toNat a9)) U22 Z3 d0 Z Z (by omega) (by omega)) (js (jlI (dix d0 (Int.toNat a9) (by omega)) O3 Z) (ja Z (jn (jbn (jbn ?_))))))))
 exact jag (f-1,ix idom (Int.toNat a9),b9) ⟨(hco.left hg hv (by omega)).1,by rw[hcm,comF_l (by omega) (by omega)],by have:=(hco.left hg hv (by omega)).2;have:=(hco.left hg hv (by omega)).1.ra;have:=hg.rng _ (show(ix idom a9.toNat).toNat<n by omega);dsimp only;omega⟩ (dc d0 (dc d1 dn)) kn ⟨Z,Z,Z,Z,Z,trivial⟩
 refine jq (jstl Mixed (by kernel_rfl) (jt (jmv Z) (jt (jmv Z) (jt (jix (i:=(Int.toNat b9)) U22 Z3 d1 Z Z (by omega) (by omega)) (jt (jlI (dix d1 (Int.toNat b9) (by omega)) O3 Z) (jt (jmv Z) (jt (jmv Z) (jt (jix (i:=(Int.toNat a9)) U22 Z3 d1 Z Z (by omega) (by omega)) (jt (jlI (dix d1 (Int.toNat a9) (by omega)) O3 Z) (jt (jgtr Z Z) (jt (jas Z) ?_)))))))))))
 refine jdn (jx ?_)
 refine jif Z (fun hc2=>?_) (fun hc2=>?_)
 refine jr (jm Z (jm Z (jdq d0 fun q3 w3=>js (jix (i:=(Int.toNat b9)) U22 Z3 d0 Z Z (by omega) (by omega)) (js (jlI (dix d0 (Int.toNat b9) (by omega)) O3 Z) (ja Z (jn (jbn (jbn ?_))))))))
 exact jag (f-1,a9,ix idom (Int.toNat b9)) ⟨(hco.right hg hv (by omega)).1,by rw[hcm,comF_r (by omega) (by omega)],by have:=(hco.right hg hv (by omega)).2;have:=(hco.right hg hv (by omega)).1.rb;have:=hg.rng _ (show(ix idom b9.toNat).toNat<n by omega);dsimp only;omega⟩ (dc d0 (dc d1 dn)) kn ⟨Z,Z,Z,Z,Z,trivial⟩
 refine jex (jbo (jbo (jtx (jbh (jx (jq (jr (jm Z (ja Z (jn (jx ?_)))))))))))
 refine jrt (jso ?_)
 exact jrI Z Z (by rw[hcm,comF_e (by omega) (by omega)])
theorem kept_ct{a0:Value}{row:List Int}(n:Int):Tg Tryz.prog 181 #[a0,.int .i64 n] [dv (rL (rI .i64)) a0 row] [] (rI .i64) 3 (keptM row n):=by
 refine jenter (args:=[a0,.int .i64 n]) Tryz.func181 rfl rfl rfl fun w0 X=>?_
 refine jq (jr (ja Z (jn (jx (jq (jr (ja Z (jn (jx (jq (jq ?_)))))))))))
 refine jr (jm Z (jdq d0 fun q1 w1=>js (jln U22 d0 Z) (jm Z (jn (jx (jb (cnl (r:=(rI .i64)) (E:=3) ?_)))))))
 refine jlp (u3 fun(k:Nat) (fs:List Int) (vo:Value)=>⟨k≤row.length∧fs=(row.take k).filter (fun b=>decide (0≤b)&&decide (b<n)),[dv (rL (rI .i64)) a0 row],[gl X.n (rI .i64) 3 vo fs],[(1,.int .i64 n),(4,.slice none 0 0),(5,vo),(8,a0),(9,.int .i64 (↑(List.length row))),(10,.int .i64 (↑k))],row.length-k⟩) (0,[],.slice none 0 0) ⟨by dsimp only;omega,rfl⟩ (dc d0 dn) (kc k0 kn) ⟨Z,Z,Z,Z,Z,eqI (by omega),trivial⟩ ?_
 rintro⟨k,fs,vo⟩;dsimp only[u3];rintro⟨hk,hfs⟩
 refine cgo k0 fun w2=>?_
 have hfl:fs.length≤k:=by rw[hfs];exact Nat.le_trans (List.length_filter_le _ _) (by rw[List.length_take];omega)
 refine jq (jr (js (jlss Z Z) (jn (jx (jq ?_)))))
 refine jif Z (fun hc1=>?_) (fun hc1=>?_)
 refine jsk (jx (jq (jb (jq (jr (js (jix U22 Z3 d0 Z Z Z (by omega)) (js (jlI (dix d0 k (by omega)) O3 Z) (ja Z (jn (jx (jq ?_)))))))))))
 refine jr (jm Z (js (jgeq Z Z) (jm Z (jg Z Z (.t _) (fun hg=>jmv Z) (jg Z Z (.t _) (fun hg=>jmv Z) (jg Z Z (.t _) (fun hg=>jlss (evg Z hg) (evg Z hg)) (js (jand Z Z) (jn (jx ?_)))))))))
 refine jif Z (fun hc2=>?_) (fun hc2=>?_)
 refine jr (jm Z (jm Z (japv U22 I3 (by decide) Z Z k0 Z (wI (wad (dix d0 k (by omega)))) (by omega) (fun _=>Z) fun v24 _ w3=>ja Z (jn (jbn (jx (jr (js (jadd Z Z (by omega)) (jm Z (jn ?_))))))))))
 exact jag (k+1,fs++[ix row k],v24) ⟨by dsimp only;omega,by dsimp only;rw[filt_nx (by omega),hfs,if_pos (by simp;omega)]⟩ (dc d0 dn) (kc k0 kn) ⟨Z,Z,Z,Z,Z,eqI (by omega),trivial⟩
 refine jsk (jbn (jx (jr (js (jadd Z Z (by omega)) (jm Z (jn ?_))))))
 exact jag (k+1,fs,vo) ⟨by dsimp only;omega,by dsimp only;rw[filt_nx (by omega),hfs,if_neg (by simp;omega),List.append_nil]⟩ (dc d0 dn) (kc k0 kn) ⟨Z,Z,Z,Z,Z,eqI (by omega),trivial⟩
 refine jex (jtx (jtx (jbh (jx (jq (jr (jm Z (jc E188 Z Z (sortT (by omega)) dn (kc k0 kn) (fun _=>p0) (fun _=>p1) fun _=>jn (jx (jq ?_))))))))))
 refine jr (jm Z (jc E189 Z Z (compT (by unfold sortM;rw[List.length_mergeSort];omega)) dn (kc k0 kn) (fun _=>p0) (fun _=>p1) fun v29=>jgo k0 fun w4=>ja Z (jn (jx (jrt ?_)))))
 exact jrG Z Z (by rw[keptM,hfs,List.take_of_length_le (by omega)]) k0
theorem E181:Ent Tryz.prog 181:=⟨_,Tryz.func181,by kernel_rfl,by kernel_rfl⟩
theorem clean_ct{a0:Value}{g:List (List Int)}:Td Tryz.prog 182 #[a0] [dv (rL (rL (rI .i64))) a0 g] [] (rL (rL (rI .i64))) (cleanM g):=by
 refine jenter (args:=[a0]) Tryz.func182 rfl rfl rfl fun w0 X=>?_
 refine jq (jr (ja Z (jn (jx (jq (jr (jm Z (jdq d0 fun q1 w1=>js (jln U125 d0 Z) (jmk (m:=(List.length g)) (r:=(rL (rI .i64))) U125 I22 Z Z Z Z Z (by omega) wN Z fun g8=>ja Z ?_)))))))))
 refine jn (jx (jq (jq (jr (jm Z (js (jln U125 d0 Z) (jm Z (jn (jx (jb ?_))))))))))
 refine jlp (u2 fun(k:Nat) (rs:List (List Int))=>⟨k≤g.length∧rs=(cleanM g).take k++List.replicate (g.length-k) [],[dv (rL (rL (rI .i64))) a0 g],[gl X.n (rL (rI .i64)) 22 (.slice (some ⟨g8,0,none⟩) (List.length g) (List.length g)) rs],[(0,a0),(2,.slice none 0 0),(3,(.slice (some ⟨g8,0,none⟩) (List.length g) (List.length g))),(9,a0),(10,.int .i64 (↑(List.length g))),(11,.int .i64 (↑k))],g.length-k⟩) (0,List.replicate (List.length g) ([])) ⟨by dsimp only;omega,by simp⟩ (dc d0 dn) (kc k0 kn) ⟨Z,Z,Z,Z,Z,eqI (by omega),trivial⟩ ?_
 rintro⟨k,rs⟩;dsimp only[u2];rintro⟨hk,hrs⟩
 have hfl:(cleanM g).length=g.length:=by simp[cleanM,graphF]
 have hrl:rs.length=g.length:=by rw[hrs,List.length_append,List.length_take,List.length_replicate];omega
 refine jq (jr (js (jlss Z Z) (jn (jx (jq ?_)))))
 refine jif Z (fun hc1=>?_) (fun hc1=>?_)
 have hkl:=kept_len (ix g k) g.length
 refine jsk (jx (jq (jb (jq (jr (jm Z (js (jix U125 Z22 d0 Z Z Z (by omega)) (jev (jlV (dix d0 k (by omega)) O22 Z Z) fun v15 q2 w2=>ja Z (ja Z (jn ?_))))))))))
 refine jx (jr (jm Z (jm Z (jm Z (jm Z (js (jln U125 d1 Z) (jcg E181 Z Z (kept_ct (↑(List.length g))) (dc d0 dn) kn fun v21 w4=>js (jig U125 Z22 k1 Z Z Z (by omega)) (jfz k0 (by(try simp)<;>omega) (jsg k0 Z Z22 Z Z w4.one (by omega) d0 (jn ?_))))))))))
 refine jbn (jx (jr (js (jadd Z Z (by omega)) (jm Z (jn ?_)))))
 exact jag (k+1,List.set rs k (keptM (ix g k) (((List.length g:Nat):Int)))) ⟨by dsimp only;omega,by dsimp only;rw[hrs];exact row_put (by omega) (by omega) (by rw[cleanM,ix_mapG (by omega)])⟩ (dc d2 dn) (kc k0 kn) ⟨Z,Z,Z,Z,Z,eqI (by omega),trivial⟩
 refine jex (jtx (jtx (jbh (jx (jq (jr (jm Z (ja Z (jn (jx (jrt ?_)))))))))))
 refine qfz k0 (by omega) ?_
 exact jrD Z Z (by rw[hrs,List.take_of_length_le (by omega),show g.length-k=0 by omega];simp) d0
theorem graphOf_ct{a0:Value}{f:D.Func}:Td Tryz.prog 165 #[vFunc f a0] [da rFunc (vFunc f a0) f] [] (rL (rL (rI .i64))) (graphF f):=by
 refine jenter (args:=[vFunc f a0]) Tryz.func165 rfl rfl rfl fun w0 X=>?_
 refine jq (jr (jbox Z Z fun g1=>ja Z (jn (jx (jq (jr (js (jf F49_1 Z) (js (jl k0 O47 Z Z) (jdq (rFunc.cB d0) fun q1 w1=>js (jln U47 (rFunc.cB d0) Z) ?_)))))))))
 refine jmk (m:=(List.length f.Blocks)) (r:=(rL (rI .i64))) U125 I22 Z Z Z Z Z (by omega) wN Z fun g9=>ja Z (jn (jx (jq (jq (jr (js (jf F49_1 Z) (js (jl k1 O47 Z Z) (js (jln U47 (rFunc.cB d0) Z) (jm Z (jn ?_))))))))))
 refine jx (jb ?_)
 refine jlp (u2 fun(k:Nat) (rs:List (List Int))=>⟨k≤f.Blocks.length∧rs=(graphF f).take k++List.replicate (f.Blocks.length-k) [],[da rFunc (vFunc f a0) f],[gl X.n (rL (rI .i64)) 22 (.slice (some ⟨g9,0,none⟩) (List.length f.Blocks) (List.length f.Blocks)) rs,bx g1 49 [.int .i64 f.Params,a0]],[(1,.pointer (some ⟨g1,0,none⟩)),(2,.slice none 0 0),(3,(.slice (some ⟨g9,0,none⟩) (List.length f.Blocks) (List.length f.Blocks))),(11,a0),(12,.int .i64 (↑(List.length f.Blocks))),(13,.int .i64 (↑k))],f.Blocks.length-k⟩) (0,List.replicate (List.length f.Blocks) ([])) ⟨by dsimp only;omega,by simp⟩ (dc d0 dn) (kd kn) ⟨Z,Z,Z,Z,Z,eqI (by omega),trivial⟩ ?_
 rintro⟨k,rs⟩;dsimp only[u2];rintro⟨hk,hrs⟩
 have hfl:(graphF f).length=f.Blocks.length:=by simp[cleanM,graphF]
 have hrl:rs.length=f.Blocks.length:=by rw[hrs,List.length_append,List.length_take,List.length_replicate];omega
 refine jq (jr (js (jlss Z Z) (jn (jx (jq ?_)))))
 refine jif Z (fun hc1=>?_) (fun hc1=>?_)
 have hkl:=kept_len (ix f.Blocks k).Term.To f.Blocks.length
 refine jsk (jx (jq (jb (jq (jr (jm Z (js (jix U47 Z62 (rFunc.cB d0) Z Z Z (by omega)) (jA4 sBlock (jlA (dix (rFunc.cB d0) k (by omega)) A62 Z62 Z) fun c17a c17b c17c c17d=>jalc J62 Z fun g5=>ja Z (jdq (rBlock.cP d0) fun q3 w3=>?_)))))))))
 refine jdq (rBlock.cI d0) fun q4 w4=>jdq (rBlock.c_Term_Args d0) fun q5 w5=>jdq (rBlock.c_Term_To d0) fun q6 w6=>jsta k0 Z62 Z Z Z ⟨w3.one,w4.one,Z,w5.one,w6.one,Z,trivial⟩ (saf Z) (jn (jx (jr (jm Z (jm Z (js (jf F62_2 Z) (js (jf F60_2 Z) (js (jl k0 O22 Z Z) ?_))))))))
 refine js (jf F49_1 Z) (js (jl k2 O47 Z Z) (js (jln U47 (rFunc.cB d1) Z) (jcg E181 Z Z (kept_ct (↑(List.length f.Blocks))) (dc (rBlock.c_Term_To d0) dn) kn fun v26 w7=>js (jig U125 Z22 k2 Z Z Z (by omega)) (jfz k0 (by(try simp)<;>omega) (jsg k1 Z Z22 Z Z w7.one (by omega) d0 (jn (jbn (jx (jr (js (jadd Z Z (by omega)) ?_))))))))))
 refine jm Z (jn ?_)
 exact jag (k+1,List.set rs k (keptM (((ix f.Blocks k).Term).To) (((List.length f.Blocks:Nat):Int)))) ⟨by dsimp only;omega,by dsimp only;rw[hrs];exact row_put (by omega) (by omega) (by rw[graphF,ix_mapG (by omega)])⟩ (dc d2 dn) (kc k0 (kc k1 kn)) ⟨Z,Z,Z,Z,Z,eqI (by omega),trivial⟩
 refine jex (jtx (jtx (jbh (jx (jq (jr (jm Z (ja Z (jn (jx (jrt ?_)))))))))))
 refine qfz k0 (by omega) ?_
 exact jrD Z Z (by rw[hrs,List.take_of_length_le (by omega),show f.Blocks.length-k=0 by omega];simp) d0
end Go.Proofs.YtmfkkodnghambaaGreat
namespace Go.JE
variable{P:Program}{D:List Dt}{L M:List Res}{e:Env}{H:Heap}{T T' E:TypeId}{x y:Operand}{p:Option Addr}
section
variable{α:Type} [Inhabited α]{r:Rp α}{F:PH}{v:Value}{l:List α}{B i off:Nat}{k:IntKind}{n:Int}
end
section
variable{Q:Exit→Act→World→Prop}{X:Cx}{w0:World}{fn:Func}{m:Nat}{ι:Type}{val:ι→Value}{dr:ι→List Dt}{lr:Nat→ι→List Res}{N:List Res}
end
structure St2q(P:Program)(T:TypeId)(k:IntKind):Prop where
 und : ∃ f0 f1, P.underlying T = some (.struct #[f0, f1]) ∧ f0.name ≠ "_" ∧ f1.name ≠ "_" ∧ f0.offset = 0 ∧ f1.offset = 1 ∧ P.underlying f0.type = some (.int k) ∧ P.underlying f1.type = some (.int k)
 stood:P.stoodInHeld T=false
 guard:P.eqGuardType P.depth T=false
end Go.JE
namespace Go.JE
variable{P:Program}{D Ds:List Dt}{L M Ls:List Res}{e:Env}{X:Cx}{n:Fs}{w0:World}{Q:Exit→Act→World→Prop}{FS:PH}
variable{ops:Array Oper}{op:Op}{d:Nat}{ty:TypeId}{pos:String}{af:Array Edge}{rest l:List Oper}{z:Bool}{is:Od}{i:Nat}
theorem jgcF{D0:List Dt}{L0 N:List Res}{f:FuncId}{g:Operand}{xs:List Operand}{vs cs:List Value}{ts:Array TypeId}{v:Value}{j t:Nat}{want B:Bool}{u:Value}(hj:(ops[j]?).bind (·.dst)=some t)(hu:lk e t=some u)(hB:Gd u want B)(hE:Ent P f)(hf:B=true→ev e g=some (.func (.func f) #[] cs.toArray))(hl:B=true→evl e xs=some vs)(hT:B=true→Tr P f (vs++cs).toArray D0 L0 (fun _:Unit=>v) (fun _=>[]) (fun _ _=>L0))(hd:B=true→Sd D L D0)(hk:Tks L L0 M)(hq:Ap L0 M N)
  (k:LH P n w0 ops Q X D N ((d,gv B v)::e) rest) (hd1:Nat.blt d n.sz=true:=by rfl) (ht:Nat.blt t n.sz=true:=by rfl):LH P n w0 ops Q X D L e (⟨some d,.call { callee := .value g,args:=xs.toArray,argTypes:=ts },ty,pos,af,some (j,want)⟩::rest):=fun F H h=>by
 refine LF.gcallF hj hu hB (fun hb=>OpCall.fnc hE (hf hb) (hl hb)) (fun hb=>(hT hb).run h (hd hb) hk) (fun v' H' hz=>?_) hd1 ht
 rcases hz with⟨hb,i,F',rfl,h2⟩|⟨hb,rfl⟩
 ·exact k F' H' (hq▸h2)
 ·subst hb
  refine k F H' (hq▸⟨h.hx,h.hin,h.hw,h.hd,?_,fun k h1=>h.ge k (hk.own (Own.app.1 h1))⟩)
  obtain⟨a,b,c⟩:=hk.ok h.ok
  exact Ok.app a b c
end Go.JE
namespace Go.Proofs.YtmfkkodnghambaaGreat
open Go.JE
theorem E187:Ent Tryz.prog 187:=⟨_,Tryz.func187,by kernel_rfl,by kernel_rfl⟩
theorem inR_ct(n:Int){av:Value}{l:List Int}{g1:Nat}:Tr Tryz.prog 187 #[.int .i64 n,.pointer (some ⟨g1,0,none⟩)] [dv (rL (rI .i64)) av l] [bx g1 22 [av]] (fun _:Unit => .bool (inRn n l)) (fun _=>[]) (fun _ _=>[bx g1 22 [av]]):=by
 refine jenter (args:=[.int .i64 n,.pointer (some ⟨g1,0,none⟩)]) Tryz.func187 rfl rfl rfl fun w0 X=>?_
 refine jq (jr (ja Z (jn (jx (jq (jr (jm Z (js (jgeq Z Z) (jm Z (jg Z Z (.t _) (fun hg=>jmv Z) (jg Z Z (.t _) (fun hg=>jl k0 O22 Z Z) ?_)))))))))))
 refine jdq d0 fun q1 w1=>jg Z Z (.t _) (fun hg=>jln U22 d0 (evg Z hg)) (jg Z Z (.t _) (fun hg=>jlss (evg Z hg) (evg Z hg)) (js (jand Z Z) (ja Z (jn (jx (jrt ?_))))))
 exact jr1 Z Z () (congrArg Value.bool (Eq.symm (by unfold inRn inR;rfl))) dn (fun _ _=>(kc k0 kn))
theorem dominates_ct{a0:Value}{idom:List Int}(a:Int)(b:Int):Tv Tryz.prog 170 #[a0,.int .i64 a,.int .i64 b] [dv (rL (rI .i64)) a0 idom] [] (.bool (dominM idom a b)):=by
 refine jenter (args:=[a0,.int .i64 a,.int .i64 b]) Tryz.func170 rfl rfl rfl fun w0 X=>?_
 refine jq (jr (jdq d0 fun q1 w1=>jbox Z w1.cells fun g3=>ja Z (jn (jx (jq (jr (js (jmf1 Z) (ja Z (jn ?_)))))))))
 refine jx (jq (jq (jr (jm Z (jm Z (jc E187 Z Z (inR_ct a) (dc d0 dn) (kc k0 kn) (fun _=>p0) (fun _=>p1) fun _=>js (jnot Z) (jm Z (jg Z Z (.f _) (fun hg=>jmv Z) (jg Z Z (.f _) (fun hg=>jmv Z) (jgcF Z Z (.f _) E187 (fun hg=>evg Z hg) (fun hg=>evl1 (evg Z hg)) (fun hg=>(inR_ct b)) (fun hg=>(dc d0 dn)) (kc k0 kn) p1 ?_))))))))))
 refine jg Z Z (.f _) (fun hg=>jnot (evg Z hg)) (js (jor Z Z) (jn (jx ?_)))
 refine jif Z (fun hc1=>?_) (fun hc1=>?_)
 refine jq (jr (ja Z (jn (jx (jrt (jtr ?_))))))
 exact jrB Z Z (by first|(exact domN (by simpa using hc1))|(rw[hdm,show idom.length+1-k=(idom.length-k)+1 by omega,domF,if_pos hc3])|(rw[hdm,show idom.length+1-k=(idom.length-k)+1 by omega,domF,if_neg hc3,if_neg (inRn_no (by simpa using hc4))])|(rw[hdm,show idom.length+1-k=0 by omega];rfl))
 have hia:inR idom a=true:=by simp[inRn] at hc1;exact hc1.1
 have hib:inR idom b=true:=by simp[inRn] at hc1;exact hc1.2
 refine jsk (jx (jq (jq (jr (js (jl k0 O22 Z Z) (js (jln U22 d0 Z) (js (jadd Z Z (by omega)) (jm Z (jn (jx (jb ?_)))))))))))
 refine jlp (u2 fun(k:Nat) (b9:Int)=>⟨k≤idom.length+1∧dominM idom a b=domF idom a (idom.length+1-k) b9,[dv (rL (rI .i64)) a0 idom],[bx g3 22 [a0]],[(1,.int .i64 a),(2,.int .i64 b9),(3,.pointer (some ⟨g3,0,none⟩)),(7,.func (.func 187) #[] #[.pointer (some ⟨g3,0,none⟩)]),(21,.int .i64 ((↑(List.length idom))+1)),(22,.int .i64 (↑k))],idom.length+1-k⟩) (0,b) ⟨by dsimp only;omega,by dsimp only;rw[dominM,if_pos ⟨hia,hib⟩];rfl⟩ (dc d0 dn) (kc k0 kn) ⟨Z,Z,Z,Z,Z,eqI (by omega),trivial⟩ ?_
 rintro⟨k,b9⟩;dsimp only[u2];rintro⟨hk,hdm⟩
 refine jq (jr (js (jlss Z Z) (jn (jx (jq ?_)))))
 refine jif Z (fun hc2=>?_) (fun hc2=>?_)
 refine jsk (jx (jq (jb (jq (jq (jr (jm Z (jm Z (js (jeql Z Z) (jn (jx ?_)))))))))))
 refine jif Z (fun hc3=>?_) (fun hc3=>?_)
 refine jq (jr (ja Z (jn (jx (jrt (jtr (jbr (jtr (jtr (jbr (jtr ?_)))))))))))
 exact jrB Z Z (by first|(exact domN (by simpa using hc1))|(rw[hdm,show idom.length+1-k=(idom.length-k)+1 by omega,domF,if_pos hc3])|(rw[hdm,show idom.length+1-k=(idom.length-k)+1 by omega,domF,if_neg hc3,if_neg (inRn_no (by simpa using hc4))])|(rw[hdm,show idom.length+1-k=0 by omega];rfl))
 refine jsk (jx (jq (jq (jr (jm Z (jm Z (jc E187 Z Z (inR_ct b9) (dc d0 dn) (kc k0 kn) (fun _=>p0) (fun _=>p1) fun _=>js (jnot Z) (jn (jx ?_)))))))))
 refine jif Z (fun hc4=>?_) (fun hc4=>?_)
 refine jq (jr (ja Z (jn (jx (jrt (jtr (jbr (jtr (jtr (jbr (jtr ?_)))))))))))
 exact jrB Z Z (by first|(exact domN (by simpa using hc1))|(rw[hdm,show idom.length+1-k=(idom.length-k)+1 by omega,domF,if_pos hc3])|(rw[hdm,show idom.length+1-k=(idom.length-k)+1 by omega,domF,if_neg hc3,if_neg (inRn_no (by simpa using hc4))])|(rw[hdm,show idom.length+1-k=0 by omega];rfl))
 have hin9:=inRn_yes (by simpa using hc4)
 refine jsk (jx (jr (js (jl k0 O22 Z Z) (jm Z (js (jix (i:=(Int.toNat b9)) U22 Z3 d0 Z Z (by omega) (by omega)) (js (jlI (dix d0 (Int.toNat b9) (by omega)) O3 Z) (ja Z (jn (jbn (jx (jr ?_)))))))))))
 refine js (jadd Z Z (by omega)) (jm Z (jn ?_))
 exact jag (k+1,ix idom (Int.toNat b9)) ⟨by dsimp only;omega,by dsimp only;rw[hdm,show idom.length+1-k=(idom.length+1-(k+1))+1 by omega,domF,if_neg (by assumption),if_pos (inRn_yes (by simpa using hc4))]⟩ (dc d0 dn) (kc k0 kn) ⟨Z,Z,Z,Z,Z,eqI (by omega),trivial⟩
 refine jex (jtx (jtx (jbh (jx (jq (jr (ja Z (jn (jx (jrt ?_))))))))))
 exact jrB Z Z (by first|(exact domN (by simpa using hc1))|(rw[hdm,show idom.length+1-k=(idom.length-k)+1 by omega,domF,if_pos hc3])|(rw[hdm,show idom.length+1-k=(idom.length-k)+1 by omega,domF,if_neg hc3,if_neg (inRn_no (by simpa using hc4))])|(rw[hdm,show idom.length+1-k=0 by omega];rfl))
end Go.Proofs.YtmfkkodnghambaaGreat
namespace Go.JE
def pu(p:Prop):Dt:=⟨fun _=>p,fun _ h=>h⟩
variable{P:Program}{D:List Dt}{L M:List Res}{e:Env}{X:Cx}{n:Fs}{w0:World}{Q:Exit→Act→World→Prop}{ops:Array Oper}{rest:List Oper}{p:Prop}
theorem wpu(h:p):Nd D L (pu p):=fun _ _ _ _ _=>h
theorem jpu(h:Nd D L (pu p))(k:p→LH P n w0 ops Q X D L e rest):LH P n w0 ops Q X D L e rest:=fun F H hp=>k (h F H hp.hin hp.hd hp.ok) F H hp
end Go.JE
namespace Go.Proofs.YtmfkkodnghambaaGreat
open Go.JE
theorem E183:Ent Tryz.prog 183:=⟨_,Tryz.func183,by kernel_rfl,by kernel_rfl⟩
theorem O125:One Tryz.prog 125:=⟨_,Tryz.underlying125,rfl⟩
theorem O133:One Tryz.prog 133:=⟨_,Tryz.underlying133,rfl⟩
theorem over_step(a:Int){va:Value}{se:List Bool}{n m:Nat}{g1:Nat}{B1:Nat}{vr:Value}{rows:List (List Int)}{g2:Nat}{g3:Nat}{vo:Value}{out:List Int}{g4:Nat}{B4:Nat}(ih:∀(a:Int) {se:List Bool} {out:List Int} {vo:Value},OP n rows se out a→cnt3 se<m→Tr Tryz.prog 183 #[.int .i64 a,.pointer (some ⟨g1,0,none⟩),.pointer (some ⟨g2,0,none⟩),.pointer (some ⟨g3,0,none⟩),.pointer (some ⟨g4,0,none⟩)] [dv (rL (rL (rI .i64))) vr rows] [gl B1 rB 4 va se,bx g1 129 [va],bx g2 125 [vr],bx g3 133 [.func (.func 183) #[] #[.pointer (some ⟨g1,0,none⟩),.pointer (some ⟨g2,0,none⟩),.pointer (some ⟨g3,0,none⟩),.pointer (some ⟨g4,0,none⟩)]],gl B4 (rI .i64) 3 vo out,bx g4 22 [vo]] (fun _:Value×List Bool×List Int => .tuple #[]) (fun c=>[pu (PO n rows se c.2.2 c.2.1 a)]) (fun _ c=>[gl B1 rB 4 va c.2.1,bx g1 129 [va],bx g2 125 [vr],bx g3 133 [.func (.func 183) #[] #[.pointer (some ⟨g1,0,none⟩),.pointer (some ⟨g2,0,none⟩),.pointer (some ⟨g3,0,none⟩),.pointer (some ⟨g4,0,none⟩)]],gl B4 (rI .i64) 3 c.1 (out++c.2.2),bx g4 22 [c.1]]))(hP:OP n rows se out a)(hm:cnt3 se≤m):Tr Tryz.prog 183 #[.int .i64 a,.pointer (some ⟨g1,0,none⟩),.pointer (some ⟨g2,0,none⟩),.pointer (some ⟨g3,0,none⟩),.pointer (some ⟨g4,0,none⟩)] [dv (rL (rL (rI .i64))) vr rows] [gl B1 rB 4 va se,bx g1 129 [va],bx g2 125 [vr],bx g3 133 [.func (.func 183) #[] #[.pointer (some ⟨g1,0,none⟩),.pointer (some ⟨g2,0,none⟩),.pointer (some ⟨g3,0,none⟩),.pointer (some ⟨g4,0,none⟩)]],gl B4 (rI .i64) 3 vo out,bx g4 22 [vo]] (fun _:Value×List Bool×List Int => .tuple #[]) (fun c=>[pu (PO n rows se c.2.2 c.2.1 a)]) (fun _ c=>[gl B1 rB 4 va c.2.1,bx g1 129 [va],bx g2 125 [vr],bx g3 133 [.func (.func 183) #[] #[.pointer (some ⟨g1,0,none⟩),.pointer (some ⟨g2,0,none⟩),.pointer (some ⟨g3,0,none⟩),.pointer (some ⟨g4,0,none⟩)]],gl B4 (rI .i64) 3 c.1 (out++c.2.2),bx g4 22 [c.1]]):=by
 refine jenter (args:=[.int .i64 a,.pointer (some ⟨g1,0,none⟩),.pointer (some ⟨g2,0,none⟩),.pointer (some ⟨g3,0,none⟩),.pointer (some ⟨g4,0,none⟩)]) Tryz.func183 rfl rfl rfl fun w0 X=>?_
 refine cgo k0 fun w1=>cgo k4 fun w2=>?_
 have hal:=hP.a0
 have hpl:=hP.len
 have hrl:=hP.rl
 have hn5:=hP.n512
 refine jq (jr (js (jl k1 O129 Z Z) (jm Z (js (jig (i:=(Int.toNat a)) U129 Z4 k0 Z Z (by omega) (by omega)) (jsg k0 Z Z4 Z Z Z (by omega) wB (jn (jx (jq (jq (jr (js (jl k2 O125 Z Z) ?_)))))))))))
 refine jm Z (jdq d0 fun q3 w3=>js (jix (i:=(Int.toNat a)) U125 Z22 d0 Z Z (by omega) (by omega)) (jev (jlV (dix d0 (Int.toNat a) (by omega)) O22 Z Z) fun v14 q4 w4=>js (jln U22 d0 Z) (jm Z (jn (jx (jb ?_))))))
 refine jlp (u5 fun(k:Nat) (se2:List Bool) (l2:List Int) (o2:List Int) (vo2:Value)=>⟨k≤(ix rows a.toNat).length∧OV n rows (se.set a.toNat true) l2 se2 (fun v=>v∈(ix rows a.toNat))∧(∀t∈(ix rows a.toNat).take k,ix se2 t.toNat=true)∧o2=out++l2,[dv (rL (rI .i64)) v14 (ix rows (Int.toNat a)),dv (rL (rL (rI .i64))) vr rows],[gl B1 rB 4 va se2,bx g1 129 [va],bx g2 125 [vr],bx g3 133 [.func (.func 183) #[] #[.pointer (some ⟨g1,0,none⟩),.pointer (some ⟨g2,0,none⟩),.pointer (some ⟨g3,0,none⟩),.pointer (some ⟨g4,0,none⟩)]],gl B4 (rI .i64) 3 vo2 o2,bx g4 22 [vo2]],[(0,.int .i64 a),(1,.pointer (some ⟨g1,0,none⟩)),(3,.pointer (some ⟨g3,0,none⟩)),(4,.pointer (some ⟨g4,0,none⟩)),(14,v14),(15,.int .i64 (↑(List.length (ix rows (Int.toNat a))))),(16,.int .i64 (↑k))],(ix rows a.toNat).length-k⟩) (0,List.set se (Int.toNat a) true,[],out,vo) ⟨by dsimp only;omega,OV.beg (by rw[List.length_set];exact hP.len),(fun t h=>by cases h),by simp⟩ (dc d0 (dc d1 dn)) (kd (kd (kd kn))) ⟨Z,Z,Z,Z,Z,Z,eqI (by omega),trivial⟩ ?_
 rintro⟨k,se2,l2,o2,vo2⟩;dsimp only[u5];rintro⟨hk,hov,hdn,hoo⟩
 refine cgo k4 fun w6=>?_
 have hsl:=hov.len
 have hol:o2.length≤512:=by rw[hoo];exact hP.olen hov
 refine jq (jr (js (jlss Z Z) (jn (jx (jq ?_)))))
 refine jif Z (fun hc1=>?_) (fun hc1=>?_)
 have hr2:=hP.rows a.toNat (ix (ix rows a.toNat) k) (ix_mem (by omega))
 refine jsk (jx (jq (jb (jq (jr (js (jix U22 Z3 d0 Z Z Z (by omega)) (js (jlI (dix d0 k (by omega)) O3 Z) (ja Z (jn (jx (jq ?_)))))))))))
 refine jr (js (jl k1 O129 Z Z) (jm Z (js (jig (i:=(Int.toNat (ix (ix rows (Int.toNat a)) k))) U129 Z4 k0 Z Z (by omega) (by omega)) (js (jgB k0 (by omega) O4 Z) (js (jnot Z) (jn (jx ?_)))))))
 refine jif Z (fun hc2=>?_) (fun hc2=>?_)
 have hP2:OP n rows se2 o2 (ix (ix rows a.toNat) k):=by rw[hoo];exact hP.next hov (ix_mem (l:=ix rows a.toNat) (i:=k) (by omega)) (by simpa using hc2)
 have hlt2:=Nat.lt_of_lt_of_le (hP.less hov) hm
 have hr2:=hP.rows a.toNat (ix (ix rows a.toNat) k) (ix_mem (by omega))
 refine jr (js (jl k3 O133 Z Z) (jm Z (jc E183 Z Z (ih (ix (ix rows (Int.toNat a)) k) hP2 hlt2) (dc d1 dn) (kd (kd (kd kn))) (fun _=>p1) (fun _=>p6) fun c27=>jpu d0 fun ho27=>jgo k4 fun w8=>jn (jbn (jx (jr (js (jadd Z Z (by omega)) (jm Z ?_))))))))
 refine jn ?_
 exact jag (k+1,c27.2.1,l2++c27.2.2,(o2++c27.2.2),c27.1) ⟨by dsimp only;omega,hov.tr hP.rows (ho27.ov.weak (fun v h=>by subst h;exact ix_mem (by omega))),by dsimp only;exact ov_next (by omega) hdn (fun t ht=>hP.rows _ t ht) ho27.ov ho27.mem,by dsimp only;rw[hoo,List.append_assoc]⟩ (dc d1 (dc d2 dn)) (kd (kd (kd kn))) ⟨Z,Z,Z,Z,Z,Z,eqI (by omega),trivial⟩
 refine jsk (jbn (jx (jr (js (jadd Z Z (by omega)) (jm Z (jn ?_))))))
 exact jag (k+1,se2,l2,o2,vo2) ⟨by dsimp only;omega,hov,by dsimp only;exact ov_seen (by omega) hdn (by simpa using hc2),hoo⟩ (dc d0 (dc d1 dn)) (kd (kd (kd kn))) ⟨Z,Z,Z,Z,Z,Z,eqI (by omega),trivial⟩
 refine jex (jtx (jtx (jbh (jx (jr (js (jl k5 O22 Z Z) (jm Z (japv U22 I3 (by decide) Z Z k4 Z (wI (wp (IntWalk.i64_in _ (by omega)))) (by omega) (fun _=>Z) fun v32 _ w9=>jst k5 Z22 Z Z w9.one s0 (jn ?_)))))))))
 exact jd0 Z (v32,se2,l2++[a]) Z (dc (wpu ⟨⟨l2,rfl⟩,OV.done hP.len hP.a0 hP.no hov (fun t ht=>hdn t (by rw[List.take_of_length_le (by omega)];exact ht))⟩) dn) (fun _ _=>(kc k2 (kc k2 (kc k2 (kc k2 (kcg (by rw[hoo,List.append_assoc]) k1 (kc k0 kn)))))))
theorem E182:Ent Tryz.prog 182:=⟨_,Tryz.func182,by kernel_rfl,by kernel_rfl⟩
theorem E184:Ent Tryz.prog 184:=⟨_,Tryz.func184,by kernel_rfl,by kernel_rfl⟩
theorem Z125:Sz Tryz.prog 125 1:=by unfold Sz;kernel_rfl
theorem Z133:Sz Tryz.prog 133 1:=by unfold Sz;kernel_rfl
theorem J125:(Tryz.prog.info? 125).bind (·.zero)=some (.slice none 0 0):=by kernel_rfl
theorem J129:(Tryz.prog.info? 129).bind (·.zero)=some (.slice none 0 0):=by kernel_rfl
theorem J133:(Tryz.prog.info? 133).bind (·.zero)=some (.nilFunc):=by kernel_rfl
theorem J22:(Tryz.prog.info? 22).bind (·.zero)=some (.slice none 0 0):=by kernel_rfl
theorem over_ct{g1 g2 g3 g4 B1 B4 n:Nat}{va vr:Value}{rows:List (List Int)}:∀(k:Nat) (a:Int) {se:List Bool} {out:List Int} {vo:Value},OP n rows se out a→cnt3 se<k→Tr Tryz.prog 183 #[.int .i64 a,.pointer (some ⟨g1,0,none⟩),.pointer (some ⟨g2,0,none⟩),.pointer (some ⟨g3,0,none⟩),.pointer (some ⟨g4,0,none⟩)] [dv (rL (rL (rI .i64))) vr rows] [gl B1 rB 4 va se,bx g1 129 [va],bx g2 125 [vr],bx g3 133 [.func (.func 183) #[] #[.pointer (some ⟨g1,0,none⟩),.pointer (some ⟨g2,0,none⟩),.pointer (some ⟨g3,0,none⟩),.pointer (some ⟨g4,0,none⟩)]],gl B4 (rI .i64) 3 vo out,bx g4 22 [vo]] (fun _:Value×List Bool×List Int => .tuple #[]) (fun c=>[pu (PO n rows se c.2.2 c.2.1 a)]) (fun _ c=>[gl B1 rB 4 va c.2.1,bx g1 129 [va],bx g2 125 [vr],bx g3 133 [.func (.func 183) #[] #[.pointer (some ⟨g1,0,none⟩),.pointer (some ⟨g2,0,none⟩),.pointer (some ⟨g3,0,none⟩),.pointer (some ⟨g4,0,none⟩)]],gl B4 (rI .i64) 3 c.1 (out++c.2.2),bx g4 22 [c.1]])
 | 0,_,_,_,_,_,h=>absurd h (Nat.not_lt_zero _)
 | k+1,a,_,_,_,hP,h=>over_step (m:=k) a (fun a _ _ _ hP h=>over_ct k a hP h) hP (by omega)
theorem order_ct{a0:Value}{g:List (List Int)}(hn:0<g.length∧g.length≤512):Tr Tryz.prog 166 #[a0] [dv (rL (rL (rI .i64))) a0 g] [] (fun c:Value×List Int=>c.1) (fun c=>[dv (rL (rI .i64)) c.1 c.2,pu (OO g c.2)]) (fun _ _=>[]):=by
 refine jenter (args:=[a0]) Tryz.func166 rfl rfl rfl fun w0 X=>?_
 have hcr:=clean_rng g
 have hcl:=clean_len g
 have hP:=op_beg (n:=g.length) (rows:=cleanM g) hn hcl hcr
 refine jq (jr (ja Z (jn (jx (jq (jq (jr (jm Z (jdq d0 fun q1 w1=>js (jln U125 d0 Z) (js (jeql Z Z) ?_))))))))))
 refine jn (jx ?_)
 refine jif Z (fun hc1=>?_) (fun hc1=>?_)
 exact absurd hc1 (by omega)
 refine jsk (jx (jq (jr (jm Z (jcd E182 Z Z clean_ct (dc d0 dn) kn fun v11 q2 w2=>jalc J125 Z fun g3=>jst k0 Z125 Z Z w2.one s0 (jn (jx (jq (jr ?_)))))))))
 refine jm Z (js (jln U125 d1 Z) (jmk (m:=(List.length g)) (r:=rB) U129 I4 Z Z Z Z Z (by omega) wB Z fun g14=>jalc J129 Z fun g4=>jst k0 Z129 Z Z Z s0 (jn (jx (jq (jr (jalc J22 Z fun g5=>jn (jx ?_))))))))
 refine jq (jr (jalc J133 Z fun g6=>jn (jx (jq (jr (js (jmf4 Z Z Z Z) (jst k0 Z133 Z Z Z s0 (jn (jx (jq ?_))))))))))
 refine jr (js (jl k0 O133 Z Z) (jnl (r:=(rI .i64)) (E:=3) (jc E183 Z Z (over_ct (n:=g.length) (rows:=cleanM g) (cnt3 (List.replicate g.length false)+1) 0 hP (Nat.lt_succ_self _)) (dc d0 dn) (kc k4 (kc k3 (kc k3 (kc k1 (kd kn))))) (fun _=>p1) (fun _=>p6) fun c17=>jpu d0 fun ho17=>jgo k4 fun w5=>?_)))
 have hoP:=ho17
 refine jn (jx (jq (jr (js (jl k5 O22 Z Z) (jc E184 Z Z (revT (by have:=hoP.len hn.2;simpa using this)) dn (kc k4 kn) (fun _=>p0) (fun _=>p1) fun _=>jn (jx (jq (jr (js (jl k5 O22 Z Z) (ja Z ?_))))))))))
 refine jn (jx (jrt (qfz k0 (by have:=hoP.len hn.2;simpa[revM] using this) ?_)))
 exact jr1 Z Z (c17.1,revM ([]++c17.2.2)) Z (dc d0 (dc (wpu ⟨_,_,rfl,hoP⟩) dn)) (fun _ _=>kn)
end Go.Proofs.YtmfkkodnghambaaGreat
namespace Go.JE
variable{P:Program}{e:Env}{H:Heap}
theorem OpCh.imp{op:Op}{R R':Value→Heap→Prop}(h:OpCh P e op H R)(hR:∀v H',R v H'→R' v H'):OpCh P e op H R':=by
 intro ρ o w ho hev hw
 obtain⟨v,w',h1,h2,h3,h4,h5⟩:=h ρ o w ho hev hw
 exact⟨v,w',h1,h2,h3,h4,hR _ _ h5⟩
theorem InH.none(H:Heap):InH (fun _=>none) H:=fun _ _ h=>by cases h
def Mf(H:Heap)(g:Nat)(z:Value)(f:Int→Value):Prop:=∃L,Im H g L∧∀k,(lkM L k).getD z=f k
section
variable{g:Nat}{z:Value}{f:Int→Value}
theorem Mf.lt(h:Mf H g z f):g<H.size:=by obtain⟨L,h,_⟩:=h;exact h.lt
theorem Mf.of{H':Heap}(h:Mf H g z f)(hb:H'[g]? = H[g]?):Mf H' g z f:=by obtain⟨L,h,h2⟩:=h;exact⟨L,h.of hb,h2⟩
theorem Mf.kp{B:Nat}{H':Heap}(h:Mf H g z f)(hk:Kp B H H')(hb:g<B):Mf H' g z f:=h.of (hk.2 g hb)
theorem Mf.new(h:Im H g []):Mf H g z (fun _=>z):=⟨[],h,fun _=>rfl⟩
end
section
variable{α:Type}{r:Rp α}{F:PH}{B:Nat}{v:Value}{l:List α}
theorem Gl.resl0{E:TypeId}(h:Gl r E F H B v l){hi:Nat}(h2:hi≤l.length):∃a c,JE.resl r.sz v 0 hi = .slice a hi c∧((v = .slice none 0 0∧hi=0∧a=none∧c=0)∨∃g,a=some ⟨g,0,none⟩∧v = .slice (some ⟨g,0,none⟩) l.length c):=by
 obtain⟨xs,o1,_⟩:=h
 rcases o1.2 with⟨e1,e2⟩|⟨g,cap,cur,e1,_⟩
 ·subst e1
  obtain rfl:hi=0:=by omega
  exact⟨none,0,rfl,.inl ⟨rfl,rfl,rfl,rfl⟩⟩
 ·subst e1
  refine⟨some ⟨g,0,none⟩,cap,?_,.inr ⟨g,rfl,rfl⟩⟩
  simp only[JE.resl,Nat.sub_zero,Nat.zero_mul]
  split
  ·rfl
  ·simp[Addr.add_none]
theorem Gl.cut{E:TypeId}(h:Gl r E F H B v l){hi:Nat}(h2:hi≤l.length):Gl r E F H B (JE.resl r.sz v 0 hi) (l.take hi)∧(JE.resl r.sz v 0 hi).ownBlock=v.ownBlock:=by
 obtain⟨a,c,e0,hc⟩:=h.resl0 h2
 rw[e0]
 have hl:(l.take hi).length=hi:=by rw[List.length_take];omega
 rcases hc with⟨rfl,rfl,rfl,rfl⟩|⟨g,rfl,e1⟩
 ·refine⟨?_,rfl⟩
  rw[List.take_zero];exact Gl.nil F H B
 ·subst e1
  refine⟨?_,rfl⟩
  obtain⟨xs,o1,o2,o3⟩:=h
  rcases o1.2 with⟨e2,_⟩|⟨g',cap,cur,e2,hb,hg,hc1,hc2,hc3,hc4⟩
  ·cases e2
  cases e2
  refine⟨xs.take (hi*r.sz),⟨?_,.inr ⟨g,c,cur,?_,hb,hg,?_,hc2,hc3,?_⟩⟩,o2,?_⟩
  ·rw[List.length_take,o1.1,hl];exact Nat.min_eq_left (Nat.mul_le_mul_right _ h2)
  ·rw[hl]
  ·rw[hl];omega
  ·rw[hl,←hc4,List.take_take,Nat.min_eq_left (Nat.mul_le_mul_right _ h2)]
  ·intro i hi9
   rw[hl] at hi9
   rw[List.getElem_take]
   refine r.ext ?_ (o3 i (by omega))
   intro j hj
   have:i*r.sz+j<hi*r.sz:=by
    have h5:(i+1)*r.sz≤hi*r.sz:=Nat.mul_le_mul_right _ hi9
    rw[Nat.add_mul,Nat.one_mul] at h5;omega
   simp only[List.getD_eq_getElem?_getD,List.getElem?_take_of_lt this]
end
end Go.JE
namespace Go.JE
variable{P:Program}{n:Fs}{w0:World}{Q:Exit→Act→World→Prop}{e:Env}{H:Heap}
abbrev RW(ro:Option Nat):Fence:={ Fence.wide with round:=ro }
def NO(Q:Exit→Act→World→Prop):Exit→Act→World→Prop
 | .outgrown,_,_=>False
 | x,a,w=>Q x a w
theorem NO.imp{Q:Exit→Act→World→Prop}:∀(x:Exit) (a:Act) (w:World),NO Q x a w→Q x a w:=fun x a w h=>by
 cases x<;>first|exact h|exact(h:False).elim
theorem NO.lets{Q:Exit→Act→World→Prop}(h:LetsOut (NO Q)):False:=by obtain⟨_,_,h⟩:=h;exact h
def noDefer(o:Oper):Bool:=match o.op with | .defer _=>false|_=>true
theorem callsRW{ro:Option Nat}{m:Nat}{f:FuncId}{args:Array Value}{w:World}{R:Ending→World→Prop}(h:Calls P f args w R):CallsIn (RW ro) m P f args w R :=
 show CallsIn Fence.wide m P f args w R from callsIn_wide.2 h
theorem rowsRW{ro:Option Nat}{m:Nat}{row:String}{args:Array Value}{w:World}{R:Value→World→Prop}(h:Rows P row args w R):RowsIn (RW ro) m P row args w R :=
 fun c cs _=>let ⟨v,w',r,s⟩:=h c cs;⟨v,w',r,stepsIn_wide.2 s⟩
theorem uponRW{Q:Exit→Act→World→Prop}{ro:Option Nat}{m:Nat}{o:Oper}{a:Act}{next next':Act→World→Prop}(hk:∀a w,next a w→next' a w):∀r,o.upon P a next (NO Q) r→o.uponIn (RW ro) m P a next' (NO Q) r:=by
 intro r h
 unfold Oper.upon at h
 unfold Oper.uponIn
 split at h
 ·exact hk _ _ h
 ·exact hk _ _ h
 ·exact hk _ _ h
 ·refine⟨fun h0=>(by simp[Fence.wide] at h0),(callsRW h).mono fun x w' hx=>?_⟩
  cases x with
  | returned v=>exact hk _ _ hx
  | panicked c=>exact hx
  | outgrown=>exact hx
 ·exact⟨fun h0=>(by simp[Fence.wide] at h0),(rowsRW h).mono fun v w' hx=>hk _ _ hx⟩
 ·exact h
 ·exact h.elim
theorem listRW{Q:Exit→Act→World→Prop}{ro:Option Nat}{m:Nat}{ops:Array Oper}:∀(l:List Oper),l.all noDefer=true→∀a w,wpList P ops (NO Q) l a w→wpListIn (RW ro) m P ops (NO Q) l a w
 | [],_,_,_,h=>h
 | o::l,hd,a,w,h=>by
  simp only[List.all_cons,Bool.and_eq_true] at hd
  have ih:∀a w,wpList P ops (NO Q) l a w→wpListIn (RW ro) m P ops (NO Q) l a w:=listRW l hd.2
  simp only[wpList] at h
  simp only[wpListIn]
  split at h
  ·rename_i hw
   rw[if_pos hw]
   rcases h with h|⟨_,h⟩
   ·refine⟨fun _ _=>trivial,?_⟩
    rw[Oper.semAt_eq _ _ _ (fun c hc=>by have:=hd.1;simp[noDefer,hc] at this)]
    exact uponRW (fun a w h=>ih a w h) _ h
   ·exact(NO.lets h).elim
  ·rename_i hw
   rw[if_neg hw]
   exact⟨fun _ _=>trivial,ih _ _ h⟩
def RCF(P:Program)(n:Fs)(w0:World)(ro:Option Nat)(m:Nat)(Q:Exit→Act→World→Prop)(e:Env)(c:Code)(H:Heap):Prop :=
 ∀a w,Fr n e a→Wd w0 H w→c.wpIn (RW ro) m P Q a w
section code
variable{x y:Code}{id:Nat}{l:List Oper}{ro:Option Nat}{m:Nat}
theorem RCF.region(h:LF P n w0 l.toArray (NO Q) e l H)(hd:l.all noDefer=true:=by kernel_rfl):RCF P n w0 ro m Q e (.region id l.toArray false) H :=
 fun a w hf hw=>wpIn_mono (wpIn_region_lit (listRW l hd a w (h a w hf hw))) NO.imp
theorem RLF.nil{ops:Array Oper}(h:PF n w0 Q e .normal H):LF P n w0 ops (NO Q) e [] H:=fun a w hf hw=>wpList_nil (h a w hf hw)
theorem RCF.seq(h:RCF P n w0 ro m (Exit.then (y.wpIn (RW ro) m P Q) Q) e x H):RCF P n w0 ro m Q e (.seq x y) H:=fun a w hf hw=>wpIn_seq (h a w hf hw)
theorem RPF.next(h:RCF P n w0 ro m Q e y H):PF n w0 (Exit.then (y.wpIn (RW ro) m P Q) Q) e .normal H:=h
theorem RCF.block(h:RCF P n w0 ro m (Exit.inBlock id Q) e x H):RCF P n w0 ro m Q e (.block id x) H:=fun a w hf hw=>wpIn_block (h a w hf hw)
theorem RCF.skip(h:PF n w0 Q e .normal H):RCF P n w0 ro m Q e .skip H:=fun a w hf hw=>wpIn_skip (h a w hf hw)
theorem RCF.exit(h:PF n w0 Q e (.exit id) H):RCF P n w0 ro m Q e (.exit id) H:=fun a w hf hw=>wpIn_exit (h a w hf hw)
theorem RCF.ret(h:PF n w0 Q e .ret H):RCF P n w0 ro m Q e .ret H:=fun a w hf hw=>wpIn_ret (h a w hf hw)
theorem RCF.if{c:Operand}{b:Bool}{p q:Prop}(hc:ev e c=some (.bool b))[hb:BoolP b p q](ht:p→RCF P n w0 ro m Q e x H)(hf:q→RCF P n w0 ro m Q e y H):RCF P n w0 ro m Q e (.cond c x y) H:=by
 intro a w hfr hw
 exact wpIn_cond_split (hfr.ev hc) (fun h=>ht (hb.pos h) a w hfr hw) (fun h=>hf (hb.neg h) a w hfr hw)
theorem RCF.of(h:CF P n w0 Q e x H):RCF P n w0 none m Q e x H:=fun a w hf hw=>show x.wpIn Fence.wide m P Q a w from wpIn_wide.2 (h a w hf hw)
theorem RCF.out(h:RCF P n w0 none m Q e x H):CF P n w0 Q e x H:=fun a w hf hw=>(wpIn_wide (n:=m)).1 (show x.wpIn Fence.wide m P Q a w from h a w hf hw)
theorem RCF.loop{ι:Type}(inv:ι→Heap→Prop)(env:ι→Env)(μ:ι→Nat)(i0:ι)(h0:inv i0 H)(hs:Sub e (env i0))
  (round:∀i H',inv i H'→RCF P n w0 ro m (Exit.then (Again n w0 inv env μ i) Q) (env i) x H'):RCF P n w0 ro m Q e (.loop x) H:=by
 intro a w hf hw
 let I:Nat→Act→World→Prop:=fun k a w=>∃i,μ i=k∧inv i w.heap∧Fr n (env i) a∧Wd w0 w.heap w
 refine wpIn_loop (fun a w=>∃k,I k a w) (fun a w=>leastOf (fun k=>I k a w)) ⟨μ i0,i0,rfl,hw.heap▸h0,hf.sub hs,⟨rfl,hw.os,hw.tape,hw.output⟩⟩ ?_
 intro a w hI
 obtain⟨i,hm,hi,hfi,hwi⟩:=(leastOf_spec hI).1
 refine wpIn_mono (round i w.heap hi a w hfi hwi) ?_
 intro z a' w' hq
 cases z with
 | normal =>
  obtain⟨j,h1,h2,h3,h4⟩:=hq
  have hJ:∃k,I k a' w':=⟨μ j,j,rfl,h1,h2,h3⟩
  exact⟨hJ,Nat.lt_of_le_of_lt ((leastOf_spec hJ).2 (μ j) ⟨j,rfl,h1,h2,h3⟩) (hm▸h4)⟩
 | exit id=>exact hq
 | goto l=>exact hq
 | ret=>exact hq
 | panic ch=>exact hq
 | outgrown=>exact hq
end code
def OpYield(P:Program)(e:Env)(op:Op)(H:Heap)(l:Nat)(args:Array Value):Prop :=
 ∀(ρ:Operand→Value) (o:Oper) (w:World),o.op=op→(∀x u,ev e x=some u→ρ x=u)→w.heap=H→(execOp ρ o).run P w=(Instr.yield l args).run P w
theorem OpYield.call{g:Operand}{l:Nat}{xs:List Operand}{vs:List Value}{ts:Array TypeId}(hf:ev e g=some (.func (.yield l) #[] #[]))(hl:evl e xs=some vs) :
  OpYield P e (.call { callee := .value g,args:=xs.toArray,argTypes:=ts }) H l vs.toArray:=by
 intro ρ o w ho hev _
 have h1:xs.toArray.map ρ=vs.toArray:=by rw[←evl_map hev xs vs hl];simp
 simp only[execOp,ho,resolve,h1,hev _ _ hf,Deferred.ofValue]
 simp only[Sem.run_bind,Sem.run_pure,Result.andThen_ok,invoke]
 simp
section yield
variable{ops:Array Oper}{op:Op}{d:Nat}{ty:TypeId}{pos:String}{af:Array Edge}{rest:List Oper}{m:Nat}
theorem yield_step{l:Nat}{args:Array Value}{R:Ending→World→Prop}{a:Act}{w:World}(hf:Fr n e a)(hw:w.heap=H)(h:OpYield P e op H l args)(hy:YieldAt (RW none) (m-1) P l args w R)
  (hR:∀x w',R x w'→∃v,x = .returned v∧wpListIn (RW none) m P ops Q rest (a.put (some d) v) w') :
  wpListIn (RW none) m P ops Q (⟨some d,op,ty,pos,af,none⟩::rest) a w:=by
 obtain⟨fn,tmps,assign,body,h1,h2⟩:=hy
 refine wpListIn_plain rfl fun K hK=>?_
 refine⟨fun _ _=>trivial,?_⟩
 have hs:(Oper.semAt (RW none).round a.eval ⟨some d,op,ty,pos,af,none⟩).run P w = .ok (.round l fn tmps assign body) w:=by
  show(execOp a.eval ⟨some d,op,ty,pos,af,none⟩).run P w=_
  rw[h a.eval _ w rfl (fun x u hx=>hf.ev hx) hw,h1]
 rw[hs]
 refine⟨fun h0=>(by simp[Fence.wide] at h0),h2.mono fun x w' hx=>?_⟩
 obtain⟨v,rfl,h3⟩:=hR x w' hx
 exact hK _ _ h3
end yield
def KeepsB(bl:List Nat)(W W':World):Prop:=∀k∈bl,W'.heap[k]? = W.heap[k]?
def Iter{α:Type}(P:Program)(g:Nat)(lb:Array Value)(encs:α→Array Value)(bl:List Nat)(xs:List α)(H:Heap):Prop :=
 ∀w0:World,w0.heap=H→SeqStopsK (RW none) 2 P g lb encs (KeepsB bl) (fun ys=>ys=xs) (fun _=>True) xs.length w0
def RQ{α:Type}(w0:World)(H:Heap)(bl:List Nat)(inv:List α→Heap→Prop)(ys:List α)(Hs:Heap):Exit→Act→World→Prop
 | .normal,_,w=>Wd w0 w.heap w∧Hs.size≤w.heap.size∧(∀k,H.size≤k→k<Hs.size→w.heap[k]? = Hs[k]?)∧(∀k∈bl,w.heap[k]? = Hs[k]?)∧inv ys w.heap
 | _,_,_=>False
theorem PF.round{α:Type}{bl:List Nat}{inv:List α→Heap→Prop}{ys:List α}{Hs H':Heap}(h1:Hs.size≤H'.size)(h2:∀k,H.size≤k→k<Hs.size→H'[k]? = Hs[k]?)(h3:∀k∈bl,H'[k]? = Hs[k]?)(h4:inv ys H') :
  PF n w0 (RQ w0 H bl inv ys Hs) e .normal H':=by
 intro a w hf hw
 rw[←hw.heap] at h1 h2 h3 h4
 exact⟨⟨rfl,hw.os,hw.tape,hw.output⟩,h1,h2,h3,h4⟩
def AQ(n:Fs)(w0:World)(l:Env)(H:Heap):Exit→Act→World→Prop
 | .normal,a,w=>Fr n l a∧Wd w0 H w
 | _,_,_=>False
theorem PF.assigned{l:Env}(hs:Sub e l):PF n w0 (AQ n w0 l H) e .normal H:=fun _ _ hf hw=>⟨hf.sub hs,hw⟩
def laid(e:Env):List Nat→List Value→Env
 | p::ps,v::vs=>laid ((p,v)::e) ps vs
 | _,_=>e
theorem laid_fr{m:Nat}:∀(ps:List Nat) (vs:List Value) (e:Env) (t:Array Value),ps.all (fun p=>Nat.blt p m)=true→Fr ⟨m,[]⟩ e { tmps:=t,defers:=[] } →
  Fr ⟨m,[]⟩ (laid e ps vs) { tmps:=(ps.zip vs).foldl (fun t p=>t.setIfInBounds p.1 p.2) t,defers:=[] }
 | [],[],_,_,_,h=>h
 | [],_::_,_,_,_,h=>h
 | _::_,[],_,_,_,h=>h
 | p::ps,v::vs,e,t,hp,h=>by
  simp only[List.all_cons,Bool.and_eq_true] at hp
  exact laid_fr ps vs ((p,v)::e) _ hp.2 (h.put (n:=⟨m,[]⟩) hp.1 v)
abbrev Fs.mark(n:Fs)(D:Nat):Fs:=⟨n.sz,{ target := .collected D,args:=#[] }::n.ds⟩
theorem CF.rangeFunc{α:Type}{g:Operand}{ps:List Nat}{assign body:Code}{gf:Nat}{lb:Array Value}{encs:α→List Value}{bl:List Nat}{xs:List α}(envx:α→Env)
  (inv:List α→Heap→Prop) (hg:ev e g=some (.func (.func gf) #[] lb)) (hE:Ent P gf) (hit:Iter P gf lb (fun x=>(encs x).toArray) bl xs H) (hbl:∀k∈bl,k<H.size) (hlen:∀x,(encs x).length=ps.length)
  (hps:ps.all (fun p=>Nat.blt p n.sz)=true)
  (hinv:∀pre H1 H2,inv pre H1→H1.size≤H2.size→(∀k,k<H.size→H2[k]? = H1[k]?)→inv pre H2) (h0:inv [] H)
  (hassign:∀(l:Nat) (x:α) (H':Heap),RCF P ⟨n.sz,[]⟩ w0 (some l) 1 (AQ ⟨n.sz,[]⟩ w0 (envx x) H') (laid e ps (encs x)) assign H')
  (hbody:∀(l:Nat) (pre:List α) (x:α) (H':Heap),inv pre H'→pre.length<xs.length→H.size≤H'.size→RCF P ⟨n.sz,[]⟩ w0 (some l) 1 (RQ w0 H bl inv (pre++[x]) H') (envx x) body H')
  (hdone:∀(D:Nat) (H':Heap),inv xs H'→H.size≤D→H.size≤H'.size→H'[D]? = some (.deferred (some []))→PF (n.mark D) w0 Q e .normal H') :
  CF P n w0 Q e (.rangeFunc g ps.toArray assign body) H:=by
 refine RCF.out (m:=3) fun a w hf hw=>?_
 have hw':=hw.heap
 have hB:w.heap.size=H.size:=by rw[hw']
 refine wpIn_rangeFunc_ownH (α:=α) (F:=RW none) (n:=3) (gf:=gf) (lb:=lb) (encs:=fun x=>(encs x).toArray) (Kp:=KeepsB bl) (S:=fun ys=>ys=xs) (Sp:=fun _=>True) (N:=xs.length) (w0:=w)
  rfl (by decide) (hf.ev hg) trivial (fun args w=>hE.run args w) (hit w hw') (fun h1 h2 k hk=>(h2 k hk).trans (h1 k hk))
  (fun W l o o' hl ho _ _ k hk=>World.putObj_heap_other (by have:=hbl k hk;omega)) (RowKit.Below.refl _ _) (fun x=>by simp[hlen])
  (fun pre W=>Wd w0 W.heap W∧H.size≤W.heap.size∧inv pre W.heap) (fun _ _ _=>False) ?own (fun _ _ _ _ _ h _ _=>h) ⟨⟨rfl,hw.os,hw.tape,hw.output⟩,by omega,by rw[hw'];exact h0⟩
  (fun x a' _=>Fr ⟨n.sz,[]⟩ (envx x) a') (fun _ _ _ _ _ _ h _ _=>h) ?assign ?body ?done ?stop
 case own =>
  rintro pre W W' row ⟨h1,h2,h3⟩ hg' hr
  refine⟨⟨rfl,hg'.os.trans h1.os,hg'.tape.trans h1.tape,hg'.output.trans h1.output⟩,Nat.le_trans h2 hg'.size,hinv pre _ _ h3 hg'.size fun k hk=>?_⟩
  exact hg'.block k (by omega) (fun e1=>by have:=(hr k e1.symm).1;omega)
 case assign =>
  rintro l pre x W K ⟨h1,h2,h3⟩ hK
  have hfr:Fr ⟨n.sz,[]⟩ (laid e ps (encs x)) { tmps:=(ps.toArray.zip (encs x).toArray).foldl (fun t p=>t.setIfInBounds p.1 p.2) a.tmps,defers:=[] }:=by
   have:=laid_fr ps (encs x) e a.tmps hps ⟨hf.size,rfl,hf.get⟩
   simpa using this
  refine wpIn_mono (hassign l x W.heap _ W hfr h1) ?_
  intro z a' W' hz
  cases z with
  | normal =>
   obtain⟨h4,h5⟩:=hz
   have h6:W'.heap=W.heap:=h5.heap
   exact hK a' W' ⟨by rw[h6];exact Nat.le_refl _,fun k o _ hk _=>by rw[h6];exact hk⟩ (fun k _=>by rw[h6]) ⟨⟨rfl,h5.os,h5.tape,h5.output⟩,by rw[h6];exact h2,by rw[h6];exact h3⟩ h4
  | _=>exact hz
 case body =>
  rintro l pre x a' W _ _ ⟨h1,h2,h3⟩ hfr hlt
  refine wpIn_mono (hbody l pre x W.heap h3 hlt h2 a' W hfr h1) ?_
  intro z a2 W' hz
  cases z with
  | normal =>
   obtain⟨h4,h5,h6,h7,h8⟩:=hz
   exact⟨⟨h5,fun k o hk ho _=>(h6 k (by omega) (Array.getElem?_eq_some_iff.1 ho).1).trans ho⟩,h7,h4,Nat.le_trans h2 h5,h8⟩
  | _=>exact hz.elim
 case done =>
  rintro D ys W hD rfl ⟨h1,h2,h3⟩ hK
  exact hdone D W.heap h3 (by omega) h2 hK _ W ⟨hf.size,by simp[hf.defers],hf.get⟩ h1
 case stop =>
  rintro D c pre W _ _ h _
  exact h.elim
section func
variable{f:FuncId}{fn:Func}{c:Code}{R:Value→Heap→Prop}
def BQM(P:Program)(fn:Func)(w0:World)(R:Value→Heap→Prop):Exit→Act→World→Prop :=
 bodyPostM Fence.wide 3 P fn fun x w'=>∃v,x = .returned v∧w'.os=w0.os∧w'.tape=w0.tape∧w'.output=w0.output∧R v w'.heap
theorem Ct.enterM{args:List Value}{n:Nat}(hf:P.funcs[f]? = some fn)(hb:fn.body=some c)(hn:fn.ntmps=n)(ha:Nat.ble args.length n=true)
  (h:∀w0:World,w0.heap=H→CF P ⟨n,[]⟩ w0 (BQM P fn w0 R) (number 0 args) c H):Ct P f args.toArray H R:=by
 intro w hw
 refine callsIn_wide.1 (callsIn_of_wp_marks (n:=3) hf hb trivial ?_ rfl)
 have ha':args.length≤n:=by simpa[Nat.ble_eq] using ha
 refine wpIn_wide.2 (h w hw _ w ⟨?_,rfl,?_⟩ ⟨hw,rfl,rfl,rfl⟩)
 ·simp[hn];omega
 ·intro t v hv
  obtain⟨i,h1,h2⟩:=lk_number args 0 t v hv
  have hi:i<args.length:=(List.getElem?_eq_some_iff.1 h2).1
  have e1:t=i:=by omega
  subst e1
  simp only[Array.getD_eq_getD_getElem?]
  rw[Array.getElem?_append_left (by simpa using hi)]
  simp[h2]
def puto(H:Heap)(D:Nat)(o:Obj):Heap:=H.setIfInBounds D o
theorem PF.ret1M{m D t:Nat}{v:Value}(hr:fn.results=#[.tmp t])(hv:lk e t=some v)(hD:H[D]? = some (.deferred (some [])))(hR:R v (puto H D (.deferred none))):PF (Fs.mark ⟨m,[]⟩ D) w0 (BQM P fn w0 R) e .ret H:=by
 intro a w hf hw
 have hd:=hf.defers
 have hD':w.heap[D]? = some (.deferred (some [])):=by rw[hw.heap];exact hD
 show LeavesInM Fence.wide 3 P fn a.tmps _ a.defers .returning w
 rw[hd]
 refine⟨by simp,.inl ⟨_,_,rfl,run_takeDeferred hD',?_⟩⟩
 refine⟨v,?_,?_⟩
 ·rw[results_tmp hr,hf.get t v hv]
 ·exact⟨v,rfl,hw.os,hw.tape,hw.output,by show R v (w.heap.setIfInBounds D _);rw[hw.heap];exact hR⟩
end func
end Go.JE
namespace Go.JE
variable{P:Program}{n:Fs}{Q:Exit→Act→World→Prop}{e:Env}{w:World}{m:Nat}
def YL(P:Program)(n:Fs)(ops:Array Oper)(Q:Exit→Act→World→Prop)(m:Nat)(e:Env)(l:List Oper)(w:World):Prop:=∀a,Fr n e a→wpListIn (RW none) m P ops Q l a w
def YC(P:Program)(n:Fs)(Q:Exit→Act→World→Prop)(m:Nat)(e:Env)(c:Code)(w:World):Prop:=∀a,Fr n e a→c.wpIn (RW none) m P Q a w
def YP(n:Fs)(Q:Exit→Act→World→Prop)(e:Env)(x:Exit)(w:World):Prop:=∀a,Fr n e a→Q x a w
section ops
variable{ops:Array Oper}{op:Op}{d:Nat}{ty:TypeId}{pos:String}{af:Array Edge}{rest:List Oper}{v:Value}
theorem YL.nil(h:YP n Q e .normal w):YL P n ops Q m e [] w:=fun a hf=>wpListIn_nil (h a hf)
theorem YL.step(h:OpOk P e op w.heap v)(K:YL P n ops Q m ((d,v)::e) rest w)(hd:Nat.blt d n.sz=true:=by rfl)(hn:noDefer ⟨some d,op,ty,pos,af,none⟩=true:=by rfl) :
  YL P n ops Q m e (⟨some d,op,ty,pos,af,none⟩::rest) w:=by
 intro a hf
 refine wpListIn_plain rfl fun K' hK'=>⟨fun _ _=>trivial,?_⟩
 rw[Oper.semAt_eq _ _ _ (fun c hc=>by simp only at hc;subst hc;cases hn),h a.eval _ w rfl (fun x u hx=>hf.ev hx) rfl]
 exact hK' _ _ (K _ (hf.put hd v))
theorem YL.gstep{j t:Nat}{want B:Bool}{u:Value}(hj:(ops[j]?).bind (·.dst)=some t)(hu:lk e t=some u)(hB:Gd u want B)(h:B=true→OpOk P e op w.heap v)(K:YL P n ops Q m ((d,gv B v)::e) rest w)
  (hd:Nat.blt d n.sz=true:=by rfl) (ht:Nat.blt t n.sz=true:=by rfl) (hn:noDefer ⟨some d,op,ty,pos,af,some (j,want)⟩=true:=by rfl) :
  YL P n ops Q m e (⟨some d,op,ty,pos,af,some (j,want)⟩::rest) w:=by
 intro a hf
 have hwt:=wanted_gd (o:=⟨some d,op,ty,pos,af,some (j,want)⟩) rfl hj ht hf hu hB
 simp only[wpListIn]
 rw[hwt]
 cases B with
 | true =>
  rw[if_pos rfl]
  refine⟨fun _ _=>trivial,?_⟩
  rw[Oper.semAt_eq _ _ _ (fun c hc=>by simp only at hc;subst hc;cases hn),h rfl a.eval _ w rfl (fun x u hx=>hf.ev hx) rfl]
  exact K _ (hf.put hd v)
 | false =>
  rw[if_neg (by decide)]
  exact⟨fun _ _=>trivial,K _ (hf.put hd undef)⟩
theorem YL.yield{l:Nat}{args:Array Value}{R:Ending→World→Prop}(h:OpYield P e op w.heap l args)(hy:YieldAt (RW none) (m-1) P l args w R)
  (K:∀x w',R x w'→∃v,x = .returned v∧YL P n ops Q m ((d,v)::e) rest w') (hd:Nat.blt d n.sz=true:=by rfl) :
  YL P n ops Q m e (⟨some d,op,ty,pos,af,none⟩::rest) w:=by
 intro a hf
 refine yield_step hf rfl h hy fun x w' hx=>?_
 obtain⟨v,rfl,h2⟩:=K x w' hx
 exact⟨v,rfl,h2 _ (hf.put hd v)⟩
end ops
section code
variable{x y:Code}{id:Nat}{l:List Oper}
theorem YC.region(h:YL P n l.toArray Q m e l w):YC P n Q m e (.region id l.toArray false) w:=fun a hf=>wpIn_region_lit (h a hf)
theorem YC.seq(h:YC P n (Exit.then (y.wpIn (RW none) m P Q) Q) m e x w):YC P n Q m e (.seq x y) w:=fun a hf=>wpIn_seq (h a hf)
theorem YP.next(h:YC P n Q m e y w):YP n (Exit.then (y.wpIn (RW none) m P Q) Q) e .normal w:=h
theorem YC.block(h:YC P n (Exit.inBlock id Q) m e x w):YC P n Q m e (.block id x) w:=fun a hf=>wpIn_block (h a hf)
theorem YC.skip(h:YP n Q e .normal w):YC P n Q m e .skip w:=fun a hf=>wpIn_skip (h a hf)
theorem YC.exit(h:YP n Q e (.exit id) w):YC P n Q m e (.exit id) w:=fun a hf=>wpIn_exit (h a hf)
theorem YC.ret(h:YP n Q e .ret w):YC P n Q m e .ret w:=fun a hf=>wpIn_ret (h a hf)
theorem YC.if{c:Operand}{b:Bool}{p q:Prop}(hc:ev e c=some (.bool b))[hb:BoolP b p q](ht:p→YC P n Q m e x w)(hf:q→YC P n Q m e y w):YC P n Q m e (.cond c x y) w:=by
 intro a hfr
 exact wpIn_cond_split (hfr.ev hc) (fun h=>ht (hb.pos h) a hfr) (fun h=>hf (hb.neg h) a hfr)
theorem YP.thenExit{K:Act→World→Prop}(h:YP n Q e (.exit id) w):YP n (Exit.then K Q) e (.exit id) w:=h
theorem YP.thenRet{K:Act→World→Prop}(h:YP n Q e .ret w):YP n (Exit.then K Q) e .ret w:=h
theorem YP.blockNormal(h:YP n Q e .normal w):YP n (Exit.inBlock id Q) e .normal w:=h
theorem YP.blockRet(h:YP n Q e .ret w):YP n (Exit.inBlock id Q) e .ret w:=h
theorem YP.blockHere(h:YP n Q e .normal w):YP n (Exit.inBlock id Q) e (.exit id) w:=fun a hf=>by
 show(if id=id then _ else _);rw[if_pos rfl];exact h a hf
def YAgain{ι:Type}(n:Fs)(inv:ι→World→Prop)(env:ι→Env)(μ:ι→Nat)(i:ι)(a:Act)(w:World):Prop:=∃j,inv j w∧Fr n (env j) a∧μ j<μ i
theorem YC.loop{ι:Type}(inv:ι→World→Prop)(env:ι→Env)(μ:ι→Nat)(i0:ι)(h0:inv i0 w)(hs:Sub e (env i0))
  (round:∀i w',inv i w'→YC P n (Exit.then (YAgain n inv env μ i) Q) m (env i) x w'):YC P n Q m e (.loop x) w:=by
 intro a hf
 let I:Nat→Act→World→Prop:=fun k a w=>∃i,μ i=k∧inv i w∧Fr n (env i) a
 refine wpIn_loop (fun a w=>∃k,I k a w) (fun a w=>leastOf (fun k=>I k a w)) ⟨μ i0,i0,rfl,h0,hf.sub hs⟩ ?_
 intro a w hI
 obtain⟨i,hm,hi,hfi⟩:=(leastOf_spec hI).1
 refine wpIn_mono (round i w hi a hfi) ?_
 intro z a' w' hq
 cases z with
 | normal =>
  obtain⟨j,h1,h2,h3⟩:=hq
  have hJ:∃k,I k a' w':=⟨μ j,j,rfl,h1,h2⟩
  exact⟨hJ,Nat.lt_of_le_of_lt ((leastOf_spec hJ).2 (μ j) ⟨j,rfl,h1,h2⟩) (hm▸h3)⟩
 | exit id=>exact hq
 | goto l=>exact hq
 | ret=>exact hq
 | panic ch=>exact hq
 | outgrown=>exact hq
theorem YP.again{ι:Type}{inv:ι→World→Prop}{env:ι→Env}{μ:ι→Nat}{i:ι}(j:ι)(hj:inv j w)(hs:Sub e (env j))(hm:μ j<μ i) :
 YP n (Exit.then (YAgain n inv env μ i) Q) e .normal w:=fun _ hf=>⟨j,hj,hf.sub hs,hm⟩
end code
section func
variable{f:FuncId}{fn:Func}{c:Code}{R:Ending→World→Prop}
theorem YC.enter{args:List Value}{k:Nat}(hf:P.funcs[f]? = some fn)(hb:fn.body=some c)(hn:fn.ntmps=k)(ha:Nat.ble args.length k=true)
  (h:YC P ⟨k,[]⟩ (bodyPost P fn R) m (number 0 args) c w):CallsIn (RW none) m P f args.toArray w R:=by
 refine callsIn_of_wp hf hb trivial ?_ rfl
 have ha':args.length≤k:=by simpa[Nat.ble_eq] using ha
 refine h _ ⟨?_,rfl,?_⟩
 ·simp[hn];omega
 ·intro t v hv
  obtain⟨i,h1,h2⟩:=lk_number args 0 t v hv
  have hi:i<args.length:=(List.getElem?_eq_some_iff.1 h2).1
  have e1:t=i:=by omega
  subst e1
  simp only[Array.getD_eq_getD_getElem?]
  rw[Array.getElem?_append_left (by simpa using hi)]
  simp[h2]
theorem YP.ret0{k:Nat}(hr:fn.results=#[])(hR:R (.returned (.tuple #[])) w):YP ⟨k,[]⟩ (bodyPost P fn R) e .ret w:=fun _ hf=>bodyPost_ret (results_none hr _ _ _) hf.defers hR
theorem YP.end0{k:Nat}(hr:fn.results=#[])(hR:R (.returned (.tuple #[])) w):YP ⟨k,[]⟩ (bodyPost P fn R) e .normal w:=fun _ hf=>bodyPost_end (results_none hr _ _ _) hf.defers hR
end func
end Go.JE
namespace Go.JE
variable{P:Program}{n:Fs}{w0:World}{Q:Exit→Act→World→Prop}{e:Env}{H:Heap}
def Cg(N:Nat)(H1 H2:Heap):Prop:=H1.size≤H2.size∧∀k o,H1[k]? = some o→(k<N∨o.isCells=true)→H2[k]? = some o
section
variable{N:Nat}{H1 H2:Heap}
theorem InH.cg{F:PH}(h:InH F H1)(hF:InH F H)(c:Cg H.size H1 H2):InH F H2:=fun k o hk=>c.2 k o (h k o hk) (.inl (hF.lt hk))
theorem Bx.cg{g:Nat}{T:TypeId}{l:List Value}(h:Bx H1 g T l)(c:Cg N H1 H2):Bx H2 g T l:=c.2 g _ h (.inr rfl)
theorem Gl.cg{α:Type}{r:Rp α}{E:TypeId}{F:PH}{B:Nat}{v:Value}{l:List α}(h:Gl r E F H1 B v l)(c:Cg N H1 H2):Gl r E F H2 B v l:=by
 refine h.of fun k hk=>?_
 obtain⟨xs,hr,_⟩:=h
 rcases hr.2 with⟨e1,_⟩|⟨g,cap,cur,e1,_,hg,_⟩
 ·rw[e1] at hk;cases hk
 ·rw[e1] at hk
  have hgk:g=k:=by injection hk
  subst hgk
  rw[hg,c.2 g _ hg (.inr rfl)]
theorem Mf.cg{g:Nat}{z:Value}{f:Int→Value}(h:Mf H1 g z f)(hg:g<N)(c:Cg N H1 H2):Mf H2 g z f:=by
 refine h.of ?_
 have:=h.lt
 rw[c.2 g _ (Array.getElem?_eq_getElem this) (.inl hg),Array.getElem?_eq_getElem this]
theorem Kw.cg{W:Nat→Prop}{H0:Heap}(h:Kw W H0 H1)(hs:H0.size≤N)(c:Cg N H1 H2):Kw W H0 H2:=by
 refine⟨Nat.le_trans h.1 c.1,fun k hk hw=>?_⟩
 rw[←h.2 k hk hw]
 have:k<H1.size:=Nat.lt_of_lt_of_le hk h.1
 rw[c.2 k _ (Array.getElem?_eq_getElem this) (.inl (by omega)),Array.getElem?_eq_getElem this]
theorem Kp.cg{B:Nat}{H0:Heap}(h:Kp B H0 H1)(hB:B≤H0.size)(hs:H0.size≤N)(c:Cg N H1 H2):Kp B H0 H2:=by
 refine⟨Nat.le_trans h.1 c.1,fun k hk=>?_⟩
 rw[←h.2 k hk]
 have:k<H1.size:=by have:=h.1;omega
 rw[c.2 k _ (Array.getElem?_eq_getElem this) (.inl (by omega)),Array.getElem?_eq_getElem this]
end
def Mk(H:Heap)(D:Nat):Prop:=H[D]? = some (.deferred (some []))
section
variable{D:Nat}{H':Heap}
theorem Mk.lt(h:Mk H D):D<H.size:=(Array.getElem?_eq_some_iff.1 h).1
theorem Mk.of(h:Mk H D)(hb:H'[D]? = H[D]?):Mk H' D:=by unfold Mk at *;rw[hb];exact h
theorem Mk.kp{B:Nat}(h:Mk H D)(hk:Kp B H H')(hb:D<B):Mk H' D:=h.of (hk.2 D hb)
theorem Mk.cg{N:Nat}{H2:Heap}(h:Mk H D)(hg:D<N)(c:Cg N H H2):Mk H2 D:=c.2 D _ h (.inl hg)
end
def Nc(N:Nat)(H1 H2:Heap):Prop:=∀k o,N≤k→H1[k]? = some o→o.isCells=false→H2[k]? = some o
section
variable{N:Nat}{H1 H2 H3:Heap}
theorem Nc.refl(N:Nat)(H:Heap):Nc N H H:=fun _ _ _ h _=>h
theorem Nc.kp(h:Nc N H1 H2)(hk:Kp H2.size H2 H3):Nc N H1 H3:=fun k o hN h1 ho=>by
 have:=h k o hN h1 ho
 rw[hk.2 k (Array.getElem?_eq_some_iff.1 this).1];exact this
theorem Nc.kw{W:Nat→Prop}(h:Nc N H1 H2)(hk:Kw W H2 H3)(hw:∀k o,N≤k→H2[k]? = some o→W k→o.isCells=true):Nc N H1 H3:=fun k o hN h1 ho=>by
 have h2:=h k o hN h1 ho
 rw[hk.2 k (Array.getElem?_eq_some_iff.1 h2).1 ?_];exact h2
 intro h9
 rw[hw k o hN h2 h9] at ho;cases ho
theorem Bx.isc{g:Nat}{T:TypeId}{l:List Value}(hb:Bx H g T l){o:Obj}(h:H[g]? = some o):o.isCells=true:=by unfold Bx at hb;rw[hb] at h;injection h with h;subst h;rfl
theorem Gl.isc{α:Type}{r:Rp α}{E:TypeId}{F:PH}{B:Nat}{v:Value}{l:List α}(hg:Gl r E F H B v l){k:Nat}(hk:v.ownBlock=some k){o:Obj}(h:H[k]? = some o):o.isCells=true:=by
 obtain⟨xs,hr,_⟩:=hg
 rcases hr.2 with⟨h9,_⟩|⟨c,cap,cur,e1,_,hb,_⟩
 ·rw[h9] at hk;cases hk
 ·rw[e1] at hk
  have hcb:c=k:=by injection hk
  rw[hcb,h] at hb;injection hb with hb;subst hb;rfl
end
def Fs.marks(n:Fs)(Ds:List Nat):Fs:=⟨n.sz,Ds.map (fun D=>{ target := .collected D,args:=#[] })++n.ds⟩
section
variable{fn:Func}{R:Value→Heap→Prop}
end
theorem all_cons{p:Nat→Prop}{D:Nat}{Ds:List Nat}(h:p D)(t:∀D∈Ds,p D):∀E∈D::Ds,p E:=fun E hE=>by
 rcases List.mem_cons.1 hE with rfl|hE
 ·exact h
 ·exact t E hE
section
variable{x:Code}
end
theorem Bx.same{H':Heap}{g:Nat}{T:TypeId}{l:List Value}(h:Bx H' g T l)(h2:Bx H g T l):H'[g]? = H[g]? := by unfold Bx at h h2;rw[h,h2]
def Ir(H:Heap)(r:Nat):Prop:=∃a b c d,H[r]? = some (.mapIter a b c d)
section
variable{r:Nat}{H':Heap}
theorem Ir.lt(h:Ir H r):r<H.size:=by obtain⟨a,b,c,d,h⟩:=h;exact(Array.getElem?_eq_some_iff.1 h).1
theorem Ir.of(h:Ir H r)(hb:H'[r]? = H[r]?):Ir H' r:=by obtain⟨a,b,c,d,h⟩:=h;exact⟨a,b,c,d,hb.trans h⟩
theorem Ir.kp{B:Nat}(h:Ir H r)(hk:Kp B H H')(hb:r<B):Ir H' r:=h.of (hk.2 r hb)
theorem It.ir{b:Nat}{L:List (Int×Value)}{vis:List Int}(h:It H r b L vis):Ir H r:=by obtain⟨es,c,seen,h1,h2,h3,_⟩:=h;exact⟨_,_,_,_,h3⟩
end
theorem PH.ext.mark{F0 F G:PH}{D:Nat}(hx:PH.ext H F0 F)(hl:F.le G)(hn:∀k,k≠D→G k=F k)(hD:H.size≤D):PH.ext H F0 G :=
 ⟨hx.1.trans hl,fun k hk=>(hn k (by omega)).trans (hx.2 k hk)⟩
section
variable{P:Program}{e:Env}{H:Heap}
structure St2(P:Program)(T:TypeId)(k:IntKind):Prop where
 und : ∃ f0 f1, P.underlying T = some (.struct #[f0, f1]) ∧ f0.name ≠ "_" ∧ f1.name ≠ "_" ∧ f0.offset = 0 ∧ f1.offset = 1 ∧ P.underlying f0.type = some (.int k) ∧ P.underlying f1.type = some (.int k)
 stood:P.stoodInHeld T=false
 guard:P.eqGuardType P.depth T=false
end
end Go.JE
namespace Go.JE
variable{P:Program}{n:Fs}{w0:World}{Q:Exit→Act→World→Prop}{e:Env}{H:Heap}{X:Cx}{D Ds:List Dt}{L M Ls:List Res}
theorem no_nop(Q:Exit→Act→World→Prop):NoP (NO Q)=NO (NoP Q):=by
 funext x a w;cases x<;>first|rfl|exact propext ⟨fun h=>h a rfl,fun h=>False.elim h⟩
theorem opRW{ro:Option Nat}{m:Nat}{ops:Array Oper}(hd:∀(i:Nat) (o:Oper),ops[i]? = some o→noDefer o=true){K K':Act→World→Prop}(hK:∀a w,K a w→K' a w){i:Nat}{a:Act}{w:World}(h:wpOp P ops (NO Q) i K a w):wpOpIn (RW ro) m P ops (NO Q) i K' a w:=by
 unfold wpOp at h
 unfold wpOpIn
 cases ho:ops[i]? with
 | none=>rw[ho] at h;exact hK _ _ h
 | some o =>
  rw[ho] at h
  dsimp only at h ⊢
  split at h
  ·rename_i hw
   rw[if_pos hw]
   rcases h with h|⟨_,h⟩
   ·refine⟨fun _ _=>trivial,?_⟩
    rw[Oper.semAt_eq _ _ _ (fun c hc=>by have:=hd i o ho;simp[noDefer,hc] at this)]
    exact uponRW hK _ h
   ·exact(NO.lets h).elim
  ·rename_i hw
   rw[if_neg hw]
   exact⟨fun _ _=>trivial,hK _ _ h⟩
theorem anyRW{ro:Option Nat}{m:Nat}{ops:Array Oper}(hd:∀(i:Nat) (o:Oper),ops[i]? = some o→noDefer o=true):∀(fuel:Nat) (listed:Array Bool) (a:Act) (w:World),wpAny P .any ops (NO Q) fuel listed a w→wpAnyIn (RW ro) m P .any ops (NO Q) fuel listed a w
 | 0,_,_,_,h=>h
 | fuel+1,_,_,_,h=>⟨h.1,fun i hi=>opRW hd (fun a w h=>anyRW hd fuel _ a w h) (h.2 i hi)⟩
theorem RCF.any{id:Nat}{l:List Oper}{z:Bool}{ro:Option Nat}{m:Nat}(S:Heap→Prop)(hm:P.follows .mixedOrders=true)(hd:l.all noDefer=true)(h:AF P n w0 l.toArray (NO Q) z S l.length (Array.replicate l.length false) e H):RCF P n w0 ro m Q e (.region id l.toArray true) H:=by
 intro a w hf hw
 have h1:=h a _ hf hw.drew
 rw[no_nop] at h1
 have hd':∀(i:Nat) (o:Oper),l.toArray[i]? = some o→noDefer o=true:=fun i o ho=>List.all_eq_true.1 hd o (List.mem_of_getElem? (by simpa using ho))
 refine wpIn_mono (wpIn_region_any hm (anyRW hd' _ _ _ _ (AnyL.any (z:=z) (S:=fun w=>S w.heap) _ _ _ _ ?_))) (fun x a w h=>NoP.imp _ _ _ (NO.imp _ _ _ h))
 simpa using h1
def RCH(P:Program)(n:Fs)(w0:World)(ro:Option Nat)(m:Nat)(Q:Exit→Act→World→Prop)(X:Cx)(D:List Dt)(L:List Res)(e:Env)(c:Code):Prop:=∀F H,Hp X D L F H→RCF P n w0 ro m Q e c H
section
variable{ro:Option Nat}{m:Nat}{x y:Code}{id:Nat}{l:List Oper}
theorem rany(z:Bool)(is:Od)(hm:P.follows .mixedOrders=true)(hO:(okO l.toArray z (Array.replicate l.length false) is&&(Region.noSelect l.toArray&&decide (l.length=is.sz)))=true)(hk:Tks L Ls M)(hd:l.all noDefer=true)
  (h:∀FS,AH P n w0 l (NO Q) z X FS D Ls is D L e):RCH P n w0 ro m Q X D L e (.region id l.toArray true):=fun F H hp=>by
 simp only[Bool.and_eq_true,decide_eq_true_eq] at hO
 refine RCF.any (z:=z) (SS X F Ls) hm hd ?_
 have:=h F F H (PH.le.refl F) hp.hd hp (.inl ⟨F,PH.le.refl F,hp.sub dn hk⟩) hO.2.1 _ hO.1
 rw[hO.2.2] at this ⊢
 exact this
theorem rb(h:RCH P n w0 ro m (Exit.inBlock id Q) X D L e x):RCH P n w0 ro m Q X D L e (.block id x):=fun F H hp=>RCF.block (h F H hp)
end
def Kq(Ow:Heap→Nat→Prop)(A B:Heap):Prop:=A.size≤B.size∧(∀k o,A[k]? = some o→o.isCells=true→¬Ow A k→B[k]? = some o)∧∀k,Ow B k→Ow A k∨A.size≤k
theorem Kq.trans{Ow:Heap→Nat→Prop}{A B C:Heap}(h:Kq Ow A B)(h2:Kq Ow B C):Kq Ow A C:=by
 refine⟨Nat.le_trans h.1 h2.1,fun k o hk hc ho=>?_,fun k hk=>?_⟩
 ·have hlt:=(Array.getElem?_eq_some_iff.1 hk).1
  refine h2.2.1 k o (h.2.1 k o hk hc ho) hc fun h9=>?_
  rcases h.2.2 k h9 with h8|h8
  ·exact ho h8
  ·omega
 ·rcases h2.2.2 k hk with h9|h9
  ·exact h.2.2 k h9
  ·exact .inr (Nat.le_trans h.1 h9)
def IterQ{α:Type}(P:Program)(g:Nat)(lb:Array Value)(encs:α→Array Value)(Ow:Heap→Nat→Prop)(xs:List α)(H:Heap):Prop :=
 ∀w0:World,w0.heap=H→SeqStopsK (RW none) 2 P g lb encs (fun W W'=>Kq Ow W.heap W'.heap) (fun ys=>ys=xs) (fun _=>True) xs.length w0
def RQ3{σ:Type}(w0:World)(X2:Cx)(J:σ→Prop)(L:σ→List Res):Exit→Act→World→Prop
 | .normal,_,w=>Wd w0 w.heap w∧∃s F,J s∧Hp X2 [] (L s) F w.heap
 | _,_,_=>False
theorem rend{σ:Type}{X2:Cx}{J:σ→Prop}{Lf:σ→List Res}(s:σ)(hJ:J s)(hk:Tks L (Lf s) []):QH n w0 (RQ3 w0 X2 J Lf) X2 D L e .normal:=fun F H hp a w hf hw=>by
 refine⟨⟨rfl,hw.os,hw.tape,hw.output⟩,s,F,hJ,?_⟩
 rw[hw.heap]
 obtain⟨o1,_,_⟩:=hk.ok hp.ok
 exact⟨hp.hx,hp.hin,hp.hw,trivial,o1,fun k h=>hp.ge k (hk.own (.inl h))⟩
theorem Hp.cg{F:PH}{H0 H1 H2:Heap}(h:Hp X D L F H1)(hF:InH F H0)(hs:X.H.size≤H0.size)(hc:∀k,Own L k→∃o,H1[k]? = some o∧o.isCells=true)(c:Cg H0.size H1 H2):Hp X D L F H2 :=
 ⟨h.hx,h.hin.cg hF c,h.hw.cg hs c,h.hd,h.ok.st (PH.le.refl F) c.1 (fun k hk=>h.ok.no hk) (fun k hk=>by obtain⟨o,h1,h2⟩:=hc k hk;rw[h1,c.2 k o h1 (.inr h2)]),h.ge⟩
theorem CH.rangeFunc{α σ:Type}{g:Operand}{ps:List Nat}{assign body:Code}{gf go:Nat}{lb:Array Value}{encs:α→List Value}{xs:List α}(envx:α→Env)
  (Lf:σ→List Res) (Ow:Heap→Nat→Prop) (inv:List α→σ→Prop) (s0:σ) (hg:ev e g=some (.func (.func gf) #[] lb)) (hE:Ent P gf) (hlen:∀x,(encs x).length=ps.length)
  (hps:ps.all (fun p=>Nat.blt p n.sz)=true)
  (hOw:∀pre s F A,inv pre s→Ok F A (Lf s)→∀k,Own (Lf s) k↔Ow A k) (hOc:∀pre s F A,inv pre s→Ok F A (Lf s)→∀k,Own (Lf s) k→∃o,A[k]? = some o∧o.isCells=true) (hOd:∀pre s F G A,inv pre s→F.le G→Ok G A (Lf s)→Ok F A (Lf s)) (hOg:∀A B:Heap,B[go]? = A[go]? → ∀k,Ow B k→Ow A k)
  (hit:∀F H,Hp X D (Lf s0) F H→IterQ P gf lb (fun x=>(encs x).toArray) Ow xs H∧go<H.size) (h0:inv [] s0)
  (hassign:∀(l:Nat) (x:α) (H':Heap),RCF P ⟨n.sz,[]⟩ w0 (some l) 1 (AQ ⟨n.sz,[]⟩ w0 (envx x) H') (laid e ps (encs x)) assign H')
  (hbody:∀(l:Nat) (pre:List α) (x:α) (s:σ) (X2:Cx),inv pre s→pre.length<xs.length→RCH P ⟨n.sz,[]⟩ w0 (some l) 1 (RQ3 w0 X2 (inv (pre++[x])) Lf) X2 D (Lf s) (envx x) body)
  (hdone:∀(M9:Nat) (s:σ) (F:PH) (H H':Heap),inv xs s→InH F H→H.size≤M9→X.H.size≤M9→Hp X D (Lf s) F H'→Mk H' M9→PF (n.mark M9) w0 Q e .normal H') :
  CH P n w0 Q X D (Lf s0) e (.rangeFunc g ps.toArray assign body):=by
 intro F0 H hp
 obtain⟨hit,hgo⟩:=hit F0 H hp
 refine RCF.out (m:=3) fun a w hf hw=>?_
 have hw':=hw.heap
 have hB:w.heap.size=H.size:=by rw[hw']
 have hsX:X.H.size≤H.size:=hp.hw.1
 refine wpIn_rangeFunc_ownH (α:=α) (F:=RW none) (n:=3) (gf:=gf) (lb:=lb) (encs:=fun x=>(encs x).toArray) (Kp:=fun W W'=>Kq Ow W.heap W'.heap) (S:=fun ys=>ys=xs) (Sp:=fun _=>True) (N:=xs.length) (w0:=w)
  rfl (by decide) (hf.ev hg) trivial (fun args w=>hE.run args w) (hit w hw') (fun h1 h2=>h1.trans h2)
  (fun W l o o' hl ho hc _=>?putobj) (RowKit.Below.refl _ _) (fun x=>by simp[hlen])
  (fun pre W=>Wd w0 W.heap W∧H.size≤W.heap.size∧∃s,inv pre s∧Hp X D (Lf s) F0 W.heap) (fun _ _ _=>False) ?own (fun _ _ _ _ _ h _ _=>h) ⟨⟨rfl,hw.os,hw.tape,hw.output⟩,by omega,s0,h0,by rw[hw'];exact hp⟩
  (fun x a' _=>Fr ⟨n.sz,[]⟩ (envx x) a') (fun _ _ _ _ _ _ h _ _=>h) ?assign ?body ?done ?stop
 case putobj =>
  have hne:∀k,k≠l→(W.putObj l o').heap[k]? = W.heap[k]? := fun k hk=>World.putObj_heap_other hk
  refine⟨by simp[World.putObj],fun k o2 hk hc2 _=>?_,fun k hk => .inl (hOg _ _ (hne go (by omega)) k hk)⟩
  rw[hne k (fun e1=>by subst e1;rw[ho] at hk;injection hk with hk;subst hk;rw[hc] at hc2;cases hc2)];exact hk
 case own =>
  rintro pre W W' row ⟨h1,h2,s,h3,h4⟩ hg' hr
  refine⟨⟨rfl,hg'.os.trans h1.os,hg'.tape.trans h1.tape,hg'.output.trans h1.output⟩,Nat.le_trans h2 hg'.size,s,h3,h4.cg hp.hin hsX (hOc pre s F0 _ h3 h4.ok) ⟨hg'.size,fun k o hk hc=>?_⟩⟩
  refine(hg'.block k (Array.getElem?_eq_some_iff.1 hk).1 (fun e1=>?_)).trans hk
  obtain⟨h5,o',h6,h7⟩:=hr k e1.symm
  rcases hc with hc|hc
  ·omega
  ·rw[hk] at h6;injection h6 with h6;subst h6;rw[hc] at h7;cases h7
 case assign =>
  rintro l pre x W K ⟨h1,h2,h3⟩ hK
  have hfr:Fr ⟨n.sz,[]⟩ (laid e ps (encs x)) { tmps:=(ps.toArray.zip (encs x).toArray).foldl (fun t p=>t.setIfInBounds p.1 p.2) a.tmps,defers:=[] }:=by
   have:=laid_fr ps (encs x) e a.tmps hps ⟨hf.size,rfl,hf.get⟩
   simpa using this
  refine wpIn_mono (hassign l x W.heap _ W hfr h1) ?_
  intro z a' W' hz
  cases z with
  | normal =>
   obtain⟨h4,h5⟩:=hz
   have h6:W'.heap=W.heap:=h5.heap
   refine hK a' W' ⟨by rw[h6];exact Nat.le_refl _,fun k o _ hk _=>by rw[h6];exact hk⟩ ?_ ⟨⟨rfl,h5.os,h5.tape,h5.output⟩,by rw[h6];exact h2,by rw[h6];exact h3⟩ h4
   show Kq Ow W.heap W'.heap
   rw[h6]
   exact⟨Nat.le_refl _,fun _ _ h _ _=>h,fun _ h => .inl h⟩
  | _=>exact hz
 case body =>
  rintro l pre x a' W _ _ ⟨h1,h2,s,h3,h4⟩ hfr hlt
  have hp2:Hp ⟨Own (Lf s),W.heap,F0⟩ D (Lf s) F0 W.heap:=⟨PH.ext.refl F0,h4.hin,Kw.refl _ _,h4.hd,h4.ok,fun k hk => .inr hk⟩
  refine wpIn_mono (hbody l pre x s ⟨Own (Lf s),W.heap,F0⟩ h3 hlt F0 W.heap hp2 a' W hfr h1) ?_
  intro z a2 W' hz
  cases z with
  | normal =>
   obtain⟨h5,s',F',h6,h7⟩:=hz
   have hle:F0.le F':=h7.hx.1
   have hkw:Kw (Own (Lf s)) W.heap W'.heap:=h7.hw
   have ho':Ok F0 W'.heap (Lf s'):=hOd _ s' F0 F' _ h6 hle h7.ok
   have hown:=hOw _ s F0 W.heap h3 h4.ok
   have hown':=hOw _ s' F0 W'.heap h6 ho'
   refine⟨⟨hkw.1,fun k o hk ho hc=>?_⟩,⟨hkw.1,fun k o hk hc hno=>?_,fun k hk=>?_⟩,h5,Nat.le_trans h2 hkw.1,s',h6,?_⟩
   ·refine(hkw.2 k (Array.getElem?_eq_some_iff.1 ho).1 fun h9=>?_).trans ho
    obtain⟨o2,h8,h10⟩:=hOc _ s F0 _ h3 h4.ok k h9
    rw[ho] at h8;injection h8 with h8;subst h8;rw[hc] at h10;cases h10
   ·exact(hkw.2 k (Array.getElem?_eq_some_iff.1 hk).1 fun h9=>hno ((hown k).1 h9)).trans hk
   ·rcases h7.ge k ((hown' k).2 hk) with h9|h9
    ·exact .inr h9
    ·exact .inl ((hown k).1 h9)
   ·refine⟨h4.hx,fun k o hk=>h7.hin k o (hle k o hk),h4.hw.kw hkw fun k hk1 hk2=>(h4.ge k hk2).resolve_left (by omega),h4.hd,ho',fun k hk=>?_⟩
    rcases h7.ge k hk with h9|h9
    ·exact .inl (Nat.le_trans h4.hw.1 h9)
    ·exact h4.ge k h9
  | _=>exact hz.elim
 case done =>
  rintro M9 ys W hD rfl ⟨h1,h2,s,h3,h4⟩ hK
  exact hdone M9 s F0 H W.heap h3 hp.hin (by omega) (by omega) h4 hK _ W ⟨hf.size,by simp[hf.defers],hf.get⟩ h1
 case stop =>
  rintro M9 c pre W _ _ h _
  exact h.elim
end Go.JE
namespace Go.JE
variable{P:Program}{n:Fs}{Q:Exit→Act→World→Prop}{e:Env}{w:World}{m:Nat}{F:PH}{D:List Dt}
section
variable{ops:Array Oper}{op:Op}{d:Nat}{ty:TypeId}{pos:String}{af:Array Edge}{rest:List Oper}{v:Value}
theorem yo(hin:InH F w.heap)(hd:AllD F D)(h:OH P D [] e op v)(K:YL P n ops Q m ((d,v)::e) rest w)(hs:Nat.blt d n.sz=true:=by rfl)(hn:noDefer ⟨some d,op,ty,pos,af,none⟩=true:=by rfl):YL P n ops Q m e (⟨some d,op,ty,pos,af,none⟩::rest) w:=YL.step (h F _ hin hd trivial) K hs hn
theorem ye{q:Value→PH→Prop}(hin:InH F w.heap)(hd:AllD F D)(h:OE P D [] e op q)(K:∀v,q v F→YL P n ops Q m ((d,v)::e) rest w)(hs:Nat.blt d n.sz=true:=by rfl)(hn:noDefer ⟨some d,op,ty,pos,af,none⟩=true:=by rfl):YL P n ops Q m e (⟨some d,op,ty,pos,af,none⟩::rest) w:=by
 obtain⟨v,h1,h2⟩:=h F _ hin hd trivial
 exact YL.step h1 (K v h2) hs hn
theorem YL.call{f:FuncId}{args:Array Value}{R:Value→Heap→Prop}(h:OpCall P e op w.heap f args)(hc:Ct P f args w.heap R)(K:∀v (w':World),w'.os=w.os→w'.tape=w.tape→w'.output=w.output→R v w'.heap→YL P n ops Q m ((d,v)::e) rest w')(hs:Nat.blt d n.sz=true:=by rfl)(hn:noDefer ⟨some d,op,ty,pos,af,none⟩=true:=by rfl) :
  YL P n ops Q m e (⟨some d,op,ty,pos,af,none⟩::rest) w:=by
 intro a hf
 refine wpListIn_plain rfl fun K' hK'=>⟨fun _ _=>trivial,?_⟩
 rw[Oper.semAt_eq _ _ _ (fun c hc=>by simp only at hc;subst hc;cases hn),h a.eval _ w rfl (fun x u hx=>hf.ev hx) rfl]
 refine⟨fun h0=>(by simp[Fence.wide] at h0),(callsRW (hc w rfl)).mono fun x w' hx=>?_⟩
 obtain⟨v,rfl,h1,h2,h3,h4⟩:=hx
 exact hK' _ _ (K v w' h1 h2 h3 h4 _ (hf.put hs v))
end
def PH.cl(F:PH):PH:=fun k=>match F k with
 | some o=>if o.isCells=true then some o else none
 | none=>none
theorem PH.cl_some{F:PH}{k:Nat}{o:Obj}(h:F.cl k=some o):F k=some o∧o.isCells=true:=by
 unfold PH.cl at h
 split at h
 ·rename_i o' h1
  split at h
  ·rename_i h2;injection h with h;subst h;exact⟨h1,h2⟩
  ·cases h
 ·cases h
theorem PH.cl_pc(F:PH)(b o:Nat):pc F.cl b o=pc F b o:=by
 unfold pc PH.cl
 cases h:F b with
 | none=>rfl
 | some x =>
  cases x<;>simp[Obj.isCells]
theorem InH.cl{F:PH}{H:Heap}(h:InH F H):InH F.cl H:=fun k o hk=>h k o (PH.cl_some hk).1
theorem rows_cl{F:PH}{v:Value}{k:IntKind}{l:List (List Int)}(h:(rL (rL (rI k))).rv F v l):(rL (rL (rI k))).rv F.cl v l:=by
 obtain⟨h0,a,cap,h1,h2,h3,g,h4,h5⟩:=h
 refine⟨h0,a,cap,h1,h2,h3,g,fun i hi=>by rw[PH.cl_pc];exact h4 i hi,fun i hi=>?_⟩
 obtain⟨p0,a',cap',p1,p2,p3,g',p4,p5⟩:=h5 i hi
 exact⟨p0,a',cap',p1,p2,p3,g',fun j hj=>by rw[PH.cl_pc];exact p4 j hj,p5⟩
structure Lie(Ow:Heap→Nat→Prop)(F:PH)(H:Heap):Prop where
 hin:InH F H
 cel:∀k o,F k=some o→o.isCells=true
 no:∀k o,F k=some o→¬Ow H k
theorem Lie.kq{Ow:Heap→Nat→Prop}{F:PH}{H H':Heap}(h:Lie Ow F H)(hk:Kq Ow H H'):Lie Ow F H':=by
 refine⟨fun k o hF=>hk.2.1 k o (h.hin k o hF) (h.cel k o hF) (h.no k o hF),h.cel,fun k o hF ho=>?_⟩
 rcases hk.2.2 k ho with h9|h9
 ·exact h.no k o hF h9
 ·have:=(Array.getElem?_eq_some_iff.1 (h.hin k o hF)).1;omega
end Go.JE
namespace Go.Proofs.YtmfkkodnghambaaGreat
open Go.JE
theorem edges_iter{F:PH}{H:Heap}{g1 go:Nat}{vg:Value}{g:List (List Int)}{Ow:Heap→Nat→Prop}(hin:InH F H)(hb:Bx H g1 125 [vg])(hd:(rL (rL (rI .i64))).rv F vg g)
  (hOg:∀A B:Heap,B[go]? = A[go]? → ∀k,Ow B k→Ow A k) (hgo:go<H.size) (hOl:∀k,Ow H k→k<H.size) (hOF:∀k,Ow H k→F k=none) :
  IterQ Tryz.prog 190 #[.pointer (some ⟨g1,0,none⟩)] (fun x:Ed g.length=>(edEnc x).toArray) Ow (edgesX g) H:=by
 rintro w0 rfl lr J Jx W hW hJ hJx hY h0
 have hkW:∀k,k<w0.heap.size→W.heap[k]? = w0.heap[k]? := fun k hk=>hW.block k hk
 have hOW:∀k,Ow W.heap k→Ow w0.heap k:=hOg _ _ (hkW go hgo)
 have hFin:InH F.cl W.heap:=fun k o hk=>by
  have h1:=hin.cl k o hk
  rw[hkW k (Array.getElem?_eq_some_iff.1 h1).1];exact h1
 have hWsz:w0.heap.size≤W.heap.size:=hW.size
 have hbW:Bx W.heap g1 125 [vg]:=hb.of (hkW g1 hb.lt)
 have hdW:=rows_cl hd
 refine YC.enter (args:=[.func (.yield lr) #[] #[],.pointer (some ⟨g1,0,none⟩)]) Tryz.func190 rfl rfl rfl ?_
 refine YC.seq ?_
 refine YC.region ?_
 refine YL.step (OpOk.ldBx hbW O125 rfl rfl) ?_
 refine YL.call (OpCall.fnc (cs:=[]) E182 rfl (evl1 Z)) (clean_ct F.cl W.heap hFin ⟨hdW,trivial⟩ trivial) ?_
 rintro v8 W1 e1 e2 e3 ⟨_,F1,rfl,hr1⟩
 have hp1:=hr1 _ (Nat.le_refl _)
 have hkw1:=hp1.hw
 have hgr:W.grownBy W1 none:=⟨e1,e2,e3,hkw1.1,fun k hk _=>hkw1.2 k hk id⟩
 have hJ1:J [] W1:=hJ _ _ _ _ h0 hgr (fun r hr=>by cases hr)
 have hD:AllD F1.cl [dv (rL (rL (rI .i64))) v8 (cleanM g)]:=⟨rows_cl hp1.hd.1,trivial⟩
 have hOW1:∀k,Ow W1.heap k→Ow w0.heap k:=fun k hk=>hOW k (hOg _ _ (hkw1.2 go (by show go<W.heap.size;omega) id) k hk)
 have hlie:Lie Ow F1.cl W1.heap:=by
  refine⟨hp1.hin.cl,fun k o hk=>(PH.cl_some hk).2,fun k o hk ho=>?_⟩
  have h2:=hOW1 k ho
  have h3:=hOl k h2
  have h4:=(PH.cl_some hk).1
  rw[hp1.hx.2 k (by show k<W.heap.size;omega)] at h4
  have h5:=(PH.cl_some h4).1
  rw[hOF k h2] at h5;cases h5
 clear hr1 hp1 hkw1 hgr e1 e2 e3
 have hcl:=clean_len g
 have hxl:=edgesX_len (g:=g)
 have hq:=rL.len hD.1
 rw[hcl] at hq
 refine yo hlie.hin hD (jln U125 d0 Z) ?_
 refine YL.step (OpOk.move rfl) ?_
 refine YL.nil ?_
 refine YP.next ?_
 refine YC.block ?_
 refine YC.loop (ι:=Nat) (fun k W'=>k≤g.length∧J ((edgesX g).take (edgesT (cleanM g) k).length) W'∧Lie Ow F1.cl W'.heap)
  (fun k=>[(0,.func (.yield lr) #[] #[]),(8,v8),(9,.int .i64 ((cleanM g).length:Nat)),(10,.int .i64 (k:Int))]) (fun k=>g.length-k) 0 ⟨Nat.zero_le _,by simpa[edgesT] using hJ1,hlie⟩ ⟨rfl,rfl,rfl,rfl,trivial⟩ ?_
 rintro k W2 ⟨hk,hJ2,hl2⟩
 refine YC.seq ?_
 refine YC.region ?_
 refine yo hl2.hin hD (jlss Z Z) ?_
 refine YL.nil ?_
 refine YP.next ?_
 refine YC.seq ?_
 refine YC.if rfl (fun hc1=>?_) (fun hc1=>?_)
 ·refine YC.skip ?_
  refine YP.next ?_
  refine YC.seq ?_
  refine YC.block ?_
  refine YC.seq ?_
  refine YC.region ?_
  refine YL.step (OpOk.move rfl) ?_
  refine yo hl2.hin hD (jix (i:=k) U125 Z22 d0 Z Z Z (by omega)) ?_
  refine ye hl2.hin hD (jlV (dix d0 k (by omega)) O22 Z Z) fun v14 hv14=>?_
  have hD2:AllD F1.cl [dv (rL (rI .i64)) v14 (ix (cleanM g) k)]:=⟨hv14,trivial⟩
  refine YL.step (OpOk.assign rfl) ?_
  refine YL.step (OpOk.assign rfl) ?_
  refine YL.nil ?_
  refine YP.next ?_
  refine YC.seq ?_
  refine YC.region ?_
  refine YL.step (OpOk.move rfl) ?_
  refine yo hl2.hin hD2 (jln U22 d0 Z) ?_
  refine YL.step (OpOk.move rfl) ?_
  refine YL.nil ?_
  refine YP.next ?_
  refine YC.block ?_
  refine YC.loop (ι:=Nat) (fun j W'=>j≤(ix (cleanM g) k).length∧J ((edgesX g).take ((edgesT (cleanM g) k).length+j)) W'∧Lie Ow F1.cl W'.heap)
   (fun j=>[(0,.func (.yield lr) #[] #[]),(3,.int .i64 (k:Int)),(8,v8),(9,.int .i64 ((cleanM g).length:Nat)),(10,.int .i64 (k:Int)),(15,v14),(16,.int .i64 ((ix (cleanM g) k).length:Nat)),(17,.int .i64 (j:Int))]) (fun j=>(ix (cleanM g) k).length-j) 0 ⟨Nat.zero_le _,by simpa using hJ2,hl2⟩ ⟨rfl,rfl,rfl,rfl,rfl,rfl,rfl,rfl,trivial⟩ ?_
  rintro j W3 ⟨hj,hJ3,hl3⟩
  refine YC.seq ?_
  refine YC.region ?_
  refine yo hl3.hin hD2 (jlss Z Z) ?_
  refine YL.nil ?_
  refine YP.next ?_
  refine YC.seq ?_
  refine YC.if rfl (fun hc2=>?_) (fun hc2=>?_)
  ·have hjl:j<(ix (cleanM g) k).length:=by omega
   obtain⟨hp1,hp2⟩:=edge_at (rows:=cleanM g) (n:=g.length) (k:=k) (j:=j) (by omega) hjl
   have hpx:(edgesT (cleanM g) k).length+j<(edgesX g).length:=by omega
   have hxv:(edgesX g)[(edgesT (cleanM g) k).length+j].val=((k:Int),ix (ix (cleanM g) k) j):=(edgesX_at hpx).trans (hp2 hp1)
   have hsn:(edgesX g).take ((edgesT (cleanM g) k).length+j)++[(edgesX g)[(edgesT (cleanM g) k).length+j]]=(edgesX g).take ((edgesT (cleanM g) k).length+(j+1)):=(List.take_succ_eq_append_getElem hpx).symm
   refine YC.skip ?_
   refine YP.next ?_
   refine YC.seq ?_
   refine YC.block ?_
   refine YC.seq ?_
   refine YC.region ?_
   refine yo hl3.hin hD2 (jix (i:=j) U22 Z3 d0 Z Z Z hjl) ?_
   refine yo hl3.hin hD2 (jlI (dix d0 j hjl) O3 Z) ?_
   refine YL.step (OpOk.assign rfl) ?_
   refine YL.nil ?_
   refine YP.next ?_
   refine YC.seq ?_
   refine YC.region ?_
   refine YL.step (OpOk.move rfl) ?_
   refine YL.step (OpOk.move rfl) ?_
   refine YL.step (OpOk.move rfl) ?_
   have hy:=hY ((edgesX g).take ((edgesT (cleanM g) k).length+j)) (edgesX g)[(edgesT (cleanM g) k).length+j] W3 hJ3 (by rw[List.length_take];omega)
   refine YL.yield (l:=lr) (args:=(edEnc (edgesX g)[(edgesT (cleanM g) k).length+j]).toArray) (OpYield.call rfl (show some [Value.int .i64 (k:Int),Value.int .i64 (ix (ix (cleanM g) k) j)]=some (edEnc (edgesX g)[(edgesT (cleanM g) k).length+j]) by unfold edEnc;rw[hxv])) hy ?_
   rintro z W4 (⟨rfl,hJ4,hk4⟩|⟨rfl,hJx4⟩)
   ·rw[hsn] at hJ4
    have hl4:Lie Ow F1.cl W4.heap:=hl3.kq hk4
    refine⟨_,rfl,?_⟩
    refine YL.step (OpOk.not rfl) ?_
    refine YL.nil ?_
    refine YP.next ?_
    refine YC.if rfl (fun hc3=>absurd hc3 (by simp)) (fun hc3=>?_)
    refine YC.skip ?_
    refine YP.blockNormal ?_
    refine YP.next ?_
    refine YC.region ?_
    refine yo hl4.hin hD2 (jadd Z Z (by have:=rL.len hv14;omega)) ?_
    refine YL.step (OpOk.move rfl) ?_
    refine YL.nil ?_
    exact YP.again (j+1) ⟨by omega,hJ4,hl4⟩ ⟨rfl,rfl,rfl,rfl,rfl,rfl,rfl,eqI (by omega),trivial⟩ (by omega)
   ·refine⟨_,rfl,?_⟩
    refine YL.step (OpOk.not rfl) ?_
    refine YL.nil ?_
    refine YP.next ?_
    refine YC.if rfl (fun hc3=>?_) (fun hc3=>absurd hc3 (by simp))
    refine YC.ret ?_
    repeat' first|refine YP.blockRet ?_|refine YP.thenRet ?_
    exact YP.ret0 rfl ⟨⟨_,rfl⟩,.inr ⟨_,trivial,hJx4⟩⟩
  ·have hje:j=(ix (cleanM g) k).length:=by omega
   subst hje
   refine YC.exit ?_
   refine YP.thenExit ?_
   refine YP.thenExit ?_
   refine YP.blockHere ?_
   refine YP.blockNormal ?_
   refine YP.next ?_
   refine YC.region ?_
   refine YL.step (OpOk.add rfl rfl (by omega)) ?_
   refine YL.step (OpOk.move rfl) ?_
   refine YL.nil ?_
   exact YP.again (k+1) ⟨by omega,by rw[edges_next];exact hJ3,hl3⟩ ⟨rfl,rfl,rfl,eqI (by omega),trivial⟩ (by omega)
 ·have hke:k=g.length:=by omega
  subst hke
  rw[←hxl,List.take_length] at hJ2
  refine YC.exit ?_
  refine YP.thenExit ?_
  refine YP.thenExit ?_
  refine YP.blockHere ?_
  exact YP.end0 rfl ⟨⟨_,rfl⟩,.inl ⟨_,rfl,hJ2⟩⟩
end Go.Proofs.YtmfkkodnghambaaGreat
namespace Go.JE
variable{P:Program}{n:Fs}{w0:World}{Q:Exit→Act→World→Prop}{e:Env}{H:Heap}{X:Cx}{D D0:List Dt}{L L0 M N:List Res}{M9:Nat}
def mkR(M9:Nat):Res where
 sat F H:=Mk H M9∧F M9=none
 own k:=k=M9
 lt:=fun h e=>e▸h.1.lt
 no:=fun h e=>e▸h.2
 st:=fun _ _ h1 h2 h=>⟨h.1.of (h2 M9 rfl),h1 M9 rfl⟩
theorem crf{α σ:Type}{g:Operand}{ps:List Nat}{assign body:Code}{gf go:Nat}{lb:Array Value}{encs:α→List Value}{xs:List α}(envx:α→Env)
  (Lf:σ→List Res) (Ow:Heap→Nat→Prop) (inv:List α→σ→Prop) (s0:σ) (hg:ev e g=some (.func (.func gf) #[] lb)) (hE:Ent P gf) (hlen:∀x,(encs x).length=ps.length)
  (hps:ps.all (fun p=>Nat.blt p n.sz)=true)
  (hOw:∀pre s F A,inv pre s→Ok F A (Lf s)→∀k,Own (Lf s) k↔Ow A k) (hOc:∀pre s F A,inv pre s→Ok F A (Lf s)→∀k,Own (Lf s) k→∃o,A[k]? = some o∧o.isCells=true) (hOd:∀pre s F G A,inv pre s→F.le G→Ok G A (Lf s)→Ok F A (Lf s)) (hOg:∀A B:Heap,B[go]? = A[go]? → ∀k,Ow B k→Ow A k)
  (hit:∀F H,InH F H→AllD F D→Ok F H (Lf s0)→IterQ P gf lb (fun x=>(encs x).toArray) Ow xs H∧go<H.size) (h0:inv [] s0)
  (hassign:∀(l:Nat) (x:α) (H':Heap),RCF P ⟨n.sz,[]⟩ w0 (some l) 1 (AQ ⟨n.sz,[]⟩ w0 (envx x) H') (laid e ps (encs x)) assign H')
  (hbody:∀(l:Nat) (pre:List α) (x:α) (s:σ) (X2:Cx),inv pre s→pre.length<xs.length→RCH P ⟨n.sz,[]⟩ w0 (some l) 1 (RQ3 w0 X2 (inv (pre++[x])) Lf) X2 D (Lf s) (envx x) body)
  (hdone:∀(M9:Nat) (s:σ),inv xs s→X.H.size≤M9→QH (n.mark M9) w0 Q X D (mkR M9::Lf s) e .normal) :
  CH P n w0 Q X D (Lf s0) e (.rangeFunc g ps.toArray assign body):=by
 refine CH.rangeFunc envx Lf Ow inv s0 hg hE hlen hps hOw hOc hOd hOg (fun F H hp=>hit F H hp.hin hp.hd hp.ok) h0 hassign hbody (fun M9 s F H H' hi hF hM hX hp hMk=>?_)
 intro a w hf hw
 have hs:=hp.hw.1
 have hFn:F M9=none:=by
  cases h:F M9 with
  | none=>rfl
  | some o=>have:=(Array.getElem?_eq_some_iff.1 (hF M9 o h)).1;omega
 refine hdone M9 s hi hX F H' ⟨hp.hx,hp.hin,hp.hw,hp.hd,⟨⟨hMk,hFn⟩,fun k hk ho=>?_,hp.ok⟩,fun k hk=>?_⟩ a w hf hw
 ·have hk':k=M9:=hk
  subst hk'
  obtain⟨o,h1,h2⟩:=hOc _ s F H' hi hp.ok k ho
  unfold Mk at hMk
  rw[hMk] at h1;injection h1 with h1;subst h1;cases h2
 ·rcases hk with hk|hk
  ·have hk':k=M9:=hk
   subst hk';exact .inl hX
  ·exact hp.ge k hk
section
variable{f:FuncId}{fn:Func}{c:Code}{args:List Value}{ι:Type}{val:ι→Value}{dr:ι→List Dt}{lr:Nat→ι→List Res}
def RQM(P:Program)(fn:Func)(w0:World)(X:Cx){ι:Type}(val:ι→Value)(dr:ι→List Dt)(lr:Nat→ι→List Res):Exit→Act→World→Prop:=BQM P fn w0 (fun v H'=>∃i F',v=val i∧∀B,B≤X.n→Hp X (dr i) (lr B i) F' H')
theorem jenterM{m:Nat}(hf:P.funcs[f]? = some fn)(hb:fn.body=some c)(hn:fn.ntmps=m)(ha:Nat.ble args.length m=true)
  (h:∀(w0:World) (X:Cx),CH P ⟨m,[]⟩ w0 (RQM P fn w0 X val dr lr) X D0 L0 (number 0 args) c):Tr P f args.toArray D0 L0 val dr lr:=fun F H hin hd ho =>
 Ct.enterM hf hb hn ha fun w0 hw=>h w0 ⟨Own L0,H,F⟩ F H ⟨PH.ext.refl F,hin,Kw.refl _ _,hd,ho,fun k hk => .inr hk⟩
theorem Hp.unmark{F:PH}(hp:Hp X D L F H)(hk:Tk L (mkR M9) M)(hX:X.H.size≤M9):Hp X D M F (puto H M9 (.deferred none)):=by
 obtain⟨⟨h1,h2⟩,h3,h4⟩:=hk.ok hp.ok
 have ho:∀k,k≠M9→(puto H M9 (.deferred none))[k]? = H[k]? := fun k hk=>by
  unfold puto;exact Array.getElem?_setIfInBounds_ne (fun e=>hk e.symm)
 have hsz:(puto H M9 (.deferred none)).size=H.size:=by unfold puto;simp
 refine⟨hp.hx,hp.hin.of (fun k o hF=>ho k (fun e=>by subst e;rw[h2] at hF;cases hF)),⟨by rw[hsz];exact hp.hw.1,fun k hk1 hk2=>(ho k (by omega)).trans (hp.hw.2 k hk1 hk2)⟩,hp.hd,h4.st (PH.le.refl F) (by rw[hsz];exact Nat.le_refl _) (fun k hk1=>h4.no hk1) (fun k hk1=>ho k (fun e=>by subst e;exact h3 k rfl hk1)),fun k hk1=>hp.ge k (hk.own (.inr hk1))⟩
theorem jrM{m t:Nat}{v:Value}(hr:fn.results=#[.tmp t])(hv:lk e t=some v)(hmk:Tk L (mkR M9) M)(i:ι)(hm:v=val i)(hd:Sd D M (dr i))(hk:∀B,B≤X.n→Tks M (lr B i) N)(hX:X.H.size≤M9):QH (Fs.mark ⟨m,[]⟩ M9) w0 (RQM P fn w0 X val dr lr) X D L e .ret:=fun F H hp=>by
 have hp2:=hp.unmark hmk hX
 exact PF.ret1M hr hv (hmk.ok hp.ok).1.1 ⟨i,F,hm,fun B hB=>hp2.sub hd (hk B hB)⟩
end
end Go.JE
namespace Go.JE
variable{P:Program}{n:Fs}{w0:World}{Q:Exit→Act→World→Prop}{e:Env}{H A:Heap}{X:Cx}{D D0:List Dt}{L L0 M N:List Res}{F G:PH}{k:Nat}
def OwM(a b go:Nat)(A:Heap)(k:Nat):Prop:=k=a∨k=b∨k=go∨∃cur E,A[go]? = some (.cells cur E (0,0))∧∃v∈cur.toList,v.ownBlock=some k
theorem OwM.go{a b go:Nat}{A B:Heap}(h:B[go]? = A[go]?){k:Nat}(hk:OwM a b go B k):OwM a b go A k:=by
 unfold OwM at *
 rw[h] at hk;exact hk
section
variable{α:Type}{r:Rp α}{T To Ta Tb:TypeId}{B a b go m:Nat}{va vb:Value}{vs:List Value}{ls:List (List α)}
abbrev Lm(a:Nat)(Ta:TypeId)(va:Value)(b:Nat)(Tb:TypeId)(vb:Value)(B:Nat)(r:Rp α)(T To:TypeId)(go m:Nat)(s:List Value×List (List α)):List Res :=
 [bx a Ta [va],bx b Tb [vb],rw' B r T s.1 s.2,gl B rV To (.slice (some ⟨go,0,none⟩) m m) s.1]
theorem own_rws:∀{vs:List Value} {ls:List (List α)},vs.length=ls.length→(Own (rws B r T vs ls) k↔∃v∈vs,v.ownBlock=some k)
 | [],[],_=>⟨fun h=>h.elim,fun⟨_,h,_⟩=>by cases h⟩
 | v::vs,l::ls,h=>by
  have ih:=own_rws (vs:=vs) (ls:=ls) (by simpa using h)
  have e:Own (rws B r T (v::vs) (l::ls)) k↔v.ownBlock=some k∨Own (rws B r T vs ls) k:=Iff.rfl
  rw[e,ih];simp
 | [],_::_,h=>by cases h
 | _::_,[],h=>by cases h
theorem rows_cells:∀{vs:List Value} {ls:List (List α)},Ok F A (rws B r T vs ls)→∀k,Own (rws B r T vs ls) k→∃o,A[k]? = some o∧o.isCells=true
 | [],_,_,_,h=>h.elim
 | _::_,[],_,_,h=>h.elim
 | v::vs,l::ls,⟨h1,_,h3⟩,k,hk=>by
  rcases hk with hk|hk
  ·have hlt:=h1.1.lt k hk
   exact⟨_,Array.getElem?_eq_getElem hlt,h1.1.isc hk (Array.getElem?_eq_getElem hlt)⟩
  ·exact rows_cells h3 k hk
theorem le_none{F G:PH}{k:Nat}(h:F.le G)(hk:G k=none):F k=none:=by
 cases h1:F k with
 | none=>rfl
 | some o=>rw[h k o h1] at hk;cases hk
theorem rows_down(hr:∀(a:α) (g:Nat→Value),r.ok G a g→r.ok F a g)(hl:F.le G):∀{vs:List Value} {ls:List (List α)},Ok G A (rws B r T vs ls)→Ok F A (rws B r T vs ls)
 | [],_,_=>trivial
 | _::_,[],_=>trivial
 | v::vs,l::ls,⟨h1,h2,h3⟩=>by
  obtain⟨⟨xs,o1,o2,o3⟩,h4⟩:=h1
  exact⟨⟨⟨xs,o1,fun k hk=>le_none hl (o2 k hk),fun i hi=>hr _ _ (o3 i hi)⟩,h4⟩,h2,rows_down hr hl h3⟩
theorem mat_out(h:(gl B rV To (.slice (some ⟨go,0,none⟩) m m) vs).sat F A):∃cur,A[go]? = some (.cells cur To (0,0))∧cur.toList=vs:=by
 obtain⟨⟨xs,o1,o2,o3⟩,_⟩:=h
 rcases o1.2 with⟨h1,_⟩|⟨g,cap,cur,e1,f1,f2,f3,f4,f5,f6⟩
 ·cases h1
 ·injection e1 with e1 e2 e3
  injection e1 with e1
  injection e1 with e1
  subst e1;subst e2;subst e3
  refine⟨cur,f2,?_⟩
  have hsz:rV.sz=1:=rfl
  rw[hsz] at f5 f6
  rw[Nat.mul_one] at f5 f6
  rw[List.take_of_length_le (by simp[f5])] at f6
  rw[f6]
  have hl:xs.length=vs.length:=by have:=o1.1;rw[hsz,Nat.mul_one] at this;exact this
  refine List.ext_getElem hl fun i h1 h2=>?_
  have h3:=(o3 i h2).1
  have h4:xs.getD (i*1+0) undef=vs[i]:=h3
  rw[Nat.mul_one,Nat.add_zero,List.getD_eq_getElem?_getD,List.getElem?_eq_getElem h1] at h4
  exact h4
theorem mat_ow{s:List Value×List (List α)}(hs:s.1.length=s.2.length)(h:Ok F A (Lm a Ta va b Tb vb B r T To go m s))(k:Nat):Own (Lm a Ta va b Tb vb B r T To go m s) k↔OwM a b go A k:=by
 obtain⟨_,_,_,_,_,_,h4,_,_⟩:=h
 obtain⟨cur,h5,h6⟩:=mat_out h4
 have e:Own (Lm a Ta va b Tb vb B r T To go m s) k↔k=a∨k=b∨Own (rws B r T s.1 s.2) k∨some go=some k∨False:=Iff.rfl
 rw[e,own_rws hs]
 unfold OwM
 rw[h5]
 constructor
 ·rintro(h|h|h|h|h)
  ·exact .inl h
  ·exact .inr (.inl h)
  ·obtain⟨v,h7,h8⟩:=h
   exact .inr (.inr (.inr ⟨cur,To,rfl,v,by rw[h6];exact h7,h8⟩))
  ·injection h with h;exact .inr (.inr (.inl h.symm))
  ·exact h.elim
 ·rintro(h|h|h|⟨cur',E,h7,v,h8,h9⟩)
  ·exact .inl h
  ·exact .inr (.inl h)
  ·exact .inr (.inr (.inr (.inl (by rw[h]))))
  ·injection h7 with h7
   injection h7 with h7
   subst h7
   exact .inr (.inr (.inl ⟨v,by rw[←h6];exact h8,h9⟩))
theorem mat_oc{s:List Value×List (List α)}(h:Ok F A (Lm a Ta va b Tb vb B r T To go m s))(k:Nat)(hk:Own (Lm a Ta va b Tb vb B r T To go m s) k):∃o,A[k]? = some o∧o.isCells=true:=by
 obtain⟨h1,_,h2,_,h3,_,h4,_,_⟩:=h
 rcases hk with hk|hk|hk|hk|hk
 ·have hk':k=a:=hk
  subst hk';exact⟨_,h1.1,rfl⟩
 ·have hk':k=b:=hk
  subst hk';exact⟨_,h2.1,rfl⟩
 ·exact rows_cells h3 k hk
 ·obtain⟨cur,h5,_⟩:=mat_out h4
  have hk':some go=some k:=hk
  injection hk' with hk'
  subst hk';exact⟨_,h5,rfl⟩
 ·exact hk.elim
theorem mat_od{s:List Value×List (List α)}(hr:∀(F G:PH) (a:α) (g:Nat→Value),r.ok G a g→r.ok F a g)(hl:F.le G)(h:Ok G A (Lm a Ta va b Tb vb B r T To go m s)):Ok F A (Lm a Ta va b Tb vb B r T To go m s):=by
 obtain⟨h1,p1,h2,p2,h3,p3,h4,p4,_⟩:=h
 obtain⟨⟨xs,o1,o2,o3⟩,o4⟩:=h4
 exact⟨⟨h1.1,le_none hl h1.2⟩,p1,⟨h2.1,le_none hl h2.2⟩,p2,rows_down (hr F G) hl h3,p3,⟨⟨xs,o1,fun k hk=>le_none hl (o2 k hk),fun i hi=>o3 i hi⟩,o4⟩,p4,trivial⟩
end
section
variable{α:Type}{r:Rp α}{T To E:TypeId}{B go a b m':Nat}{va vb v:Value}{vs:List Value}{ls:List (List α)}{l:List α}{Ta Tb:TypeId}{ro:Option Nat}{m:Nat}{c:Code}
theorem mat_go{s:List Value×List (List α)}(h:Ok F A (Lm a Ta va b Tb vb B r T To go m' s)):go<A.size:=by
 obtain⟨_,_,_,_,_,_,h4,_,_⟩:=h
 obtain⟨cur,h5,_⟩:=mat_out h4
 exact(Array.getElem?_eq_some_iff.1 h5).1
end
theorem rI_any{k:IntKind}(F G:PH)(a:Int)(g:Nat→Value)(h:(rI k).ok G a g):(rI k).ok F a g:=h
end Go.JE
namespace Go.Proofs.YtmfkkodnghambaaGreat
open Go.JE
theorem E185:Ent Tryz.prog 185:=⟨_,Tryz.func185,by kernel_rfl,by kernel_rfl⟩
theorem E190:Ent Tryz.prog 190:=⟨_,Tryz.func190,by kernel_rfl,by kernel_rfl⟩
theorem edges_ct{a0:Value}{g:List (List Int)}:Tr Tryz.prog 185 #[a0] [dv (rL (rL (rI .i64))) a0 g] [] (fun g1:Nat => .func (.func 190) #[] #[.pointer (some ⟨g1,0,none⟩)]) (fun _=>[]) (fun _ g1=>[bx g1 125 [a0]]):=by
 refine jenter (args:=[a0]) Tryz.func185 rfl rfl rfl fun w0 X=>?_
 refine jq (jr (jdq d0 fun q1 w1=>jbox Z w1.cells fun g1=>ja Z (jn (jx (jq (jr (js (jmf1 Z) (ja Z (jn ?_)))))))))
 refine jx (jrt ?_)
 exact jr1 Z Z g1 Z dn (fun _ _=>(kc k0 kn))
theorem preds_ct{a0:Value}{g:List (List Int)}(hgn:g.length≤512):Td Tryz.prog 167 #[a0] [dv (rL (rL (rI .i64))) a0 g] [] (rL (rL (rI .i64))) (predsG g):=by
 refine jenterM (args:=[a0]) Tryz.func167 rfl rfl rfl fun w0 X=>?_
 refine jq (jr (ja Z (jn (jx (jq (jr (jm Z (jdq d0 fun q1 w1=>js (jln U125 d0 Z) (jmk (m:=(List.length g)) (r:=rV) U125 I22 Z Z Z Z Z (by omega) (wV Z) Z fun g8=>jrn (r:=(rI .i64)) (T:=3) (List.length g) ?_)))))))))
 refine jalc J125 Z fun g3=>jst k0 Z125 Z Z Z s0 (jn (jx (jq (jq (jr (jm Z (jc E185 Z Z edges_ct (dc d0 dn) kn (fun _=>p0) (fun _=>p1) fun g10=>jn (jx (jb ?_)))))))))
 refine crf (σ:=List Value×List (List Int)) (α:=Ed g.length) (go:=g8) (xs:=edgesX g) (encs:=edEnc) (fun x=>[(3,.pointer (some ⟨g3,0,none⟩)),(4,.int .i64 x.val.1),(5,.int .i64 x.val.2)]) (fun s=>Lm g10 125 a0 g3 125 (.slice (some ⟨g8,0,none⟩) (List.length g) (List.length g)) X.n (rI .i64) 3 22 g8 (List.length g) s) (OwM g10 g3 g8) (fun pre s=>s.2=predsE g.length (pre.map Subtype.val)∧s.1.length=s.2.length) (List.replicate (List.length g) (.slice none 0 0),List.replicate (List.length g) []) rfl E190 (fun _=>rfl) rfl (fun _ s F A hi h=>mat_ow hi.2 h) (fun _ s F A hi h=>mat_oc h) (fun _ s F G A hi hl h=>mat_od (fun F G=>rI_any F G) hl h) (fun A B h k hk=>hk.go h) (fun F H hin hd ho=>⟨edges_iter hin ho.1.1 hd.1 (fun A B h k hk=>hk.go h) (mat_go ho) (fun k hk=>ho.lt ((mat_ow (by simp) ho k).2 hk)) (fun k hk=>ho.no ((mat_ow (by simp) ho k).2 hk)),mat_go ho⟩) ⟨rfl,by simp⟩ ?_ ?_ ?_
 intro lx x H9
 refine RCF.seq ?_
 refine RCF.region ?_
 refine LF.step (OpOk.assign rfl) ?_
 refine RLF.nil ?_
 refine RPF.next ?_
 refine RCF.region ?_
 refine LF.step (OpOk.assign rfl) ?_
 refine RLF.nil ?_
 exact PF.assigned ⟨rfl,rfl,rfl,trivial⟩
 rintro lx pre ⟨⟨pa,pb⟩,hpa,hpb⟩ ⟨vs,ls⟩ X2 ⟨hls,hvl⟩ hlt;dsimp only[Lm] at hpa hpb hls hvl ⊢
 have hll:ls.length=g.length:=by rw[hls];exact predsE_len _
 have hsm:(ls[pb.toNat]?.getD []).length≤262144:=by rw[hls];refine Nat.le_trans (predsE_le _) ?_;rw[List.length_map];have:=edgesX_few hgn;omega
 refine rb (rany false (.a 0 (.a 1 (.a 2 (.a 3 (.a 6 (.w 4 7 (.w 5 7 (.o 7 (.o 8 (.o 9 (.o 10 .e)))) (.o 5 (.o 8 (.o 9 (.o 10 .e))))) (.o 4 (.o 5 (.o 8 (.o 9 (.o 10 .e))))))))))) Mixed (by kernel_rfl) (kc k1 kn) (by kernel_rfl) fun F2=>jy Z (jl k0 O125 Z Z) (jy Z (jmv Z) (jy Z (jl k0 O125 Z Z) (jy Z (jmv Z) (jy Z (jmv Z) ?_)))))
 refine jyw Z Z ?_ ?_
 refine js (jig (i:=(Int.toNat pb)) U125 Z22 k3 Z Z (by omega) (by omega)) (jyn d0 (kc k1 kn) ?_)
 refine jyw Z Z ?_ ?_
 refine js (jgW k3 (by omega) O22 Z) (jyn d0 (kc k1 kn) (jyo Z (jlit (r:=(rI .i64)) (l:=[pa]) U22 I3 (by decide) Z Z Z (lV Z Z (wI (wp (IntWalk.i64_in _ (by omega)))) ln) fun g20=>jyn d0 (kc k2 kn) (jyo Z (jfz k0 (by(try simp)<;>omega) (jro (Int.toNat pb) k2 (by omega) (by omega) (jgo k0 fun w9=>japl U22 I3 (by decide) Z k0 Z Z d0 (by(try simp)<;>omega) fun v21 w10=>jyn d1 (kc k3 kn) (jyo Z ?_))))))))
 refine js (jig (i:=(Int.toNat pb)) U125 Z22 k4 Z Z (by omega) (by omega)) (jyn d0 (kc k3 kn) (jyo Z (jsg k4 Z Z22 Z Z w10.one (by omega) (wV w10.one) (jru k1 k1 (by omega) (by omega) (jyn d0 (kc k3 kn) (jyd ?_))))))
 exact rend (List.set vs (Int.toNat pb) v21,List.set ls (Int.toNat pb) ((List.getD ls (Int.toNat pb) [])++([pa]))) ⟨by dsimp only;rw[hls,List.map_append];exact(predsE_snoc (l:=pre.map Subtype.val) (p:=(pa,pb))).symm,by simp[hvl]⟩ (kc k2 (kc k2 (kd kn)))
 refine jlit (r:=(rI .i64)) (l:=[pa]) U22 I3 (by decide) Z Z Z (lV Z Z (wI (wp (IntWalk.i64_in _ (by omega)))) ln) fun g20=>jyn d0 (kc k2 kn) (jyo Z (js (jgW k4 (by omega) O22 Z) (jyn d0 (kc k2 kn) (jyo Z (jfz k0 (by(try simp)<;>omega) (jro (Int.toNat pb) k2 (by omega) (by omega) (jgo k0 fun w9=>japl U22 I3 (by decide) Z k0 Z Z d0 (by(try simp)<;>omega) fun v21 w10=>jyn d1 (kc k3 kn) (jyo Z ?_))))))))
 refine js (jig (i:=(Int.toNat pb)) U125 Z22 k4 Z Z (by omega) (by omega)) (jyn d0 (kc k3 kn) (jyo Z (jsg k4 Z Z22 Z Z w10.one (by omega) (wV w10.one) (jru k1 k1 (by omega) (by omega) (jyn d0 (kc k3 kn) (jyd ?_))))))
 exact rend (List.set vs (Int.toNat pb) v21,List.set ls (Int.toNat pb) ((List.getD ls (Int.toNat pb) [])++([pa]))) ⟨by dsimp only;rw[hls,List.map_append];exact(predsE_snoc (l:=pre.map Subtype.val) (p:=(pa,pb))).symm,by simp[hvl]⟩ (kc k2 (kc k2 (kd kn)))
 refine jlit (r:=(rI .i64)) (l:=[pa]) U22 I3 (by decide) Z Z Z (lV Z Z (wI (wp (IntWalk.i64_in _ (by omega)))) ln) fun g20=>jyn d0 (kc k2 kn) (jyo Z (js (jig (i:=(Int.toNat pb)) U125 Z22 k4 Z Z (by omega) (by omega)) (jyn d0 (kc k2 kn) (jyo Z (js (jgW k4 (by omega) O22 Z) (jyn d0 (kc k2 kn) (jyo Z (jfz k0 (by(try simp)<;>omega) (jro (Int.toNat pb) k2 (by omega) (by omega) (jgo k0 fun w9=>?_))))))))))
 refine japl U22 I3 (by decide) Z k0 Z Z d0 (by(try simp)<;>omega) fun v21 w10=>jyn d1 (kc k3 kn) (jyo Z (js (jig (i:=(Int.toNat pb)) U125 Z22 k4 Z Z (by omega) (by omega)) (jyn d0 (kc k3 kn) (jyo Z (jsg k4 Z Z22 Z Z w10.one (by omega) (wV w10.one) (jru k1 k1 (by omega) (by omega) (jyn d0 (kc k3 kn) (jyd ?_))))))))
 exact rend (List.set vs (Int.toNat pb) v21,List.set ls (Int.toNat pb) ((List.getD ls (Int.toNat pb) [])++([pa]))) ⟨by dsimp only;rw[hls,List.map_append];exact(predsE_snoc (l:=pre.map Subtype.val) (p:=(pa,pb))).symm,by simp[hvl]⟩ (kc k2 (kc k2 (kd kn)))
 rintro M9 ⟨vs,ls⟩ ⟨hls,hvl⟩ hMX;dsimp only[Lm] at hls hvl ⊢
 rw[edgesX_val] at hls;have hls0:ls=predsG g:=hls
 have hll:ls.length=g.length:=by rw[hls];exact predsE_len _
 refine jbn (jx (jq (jr (js (jl k2 O125 Z Z) (ja Z (jn (jx (jrt ?_))))))))
 refine qfr k4 k3 hvl (by omega) (fun l hl=>by rw[hls] at hl;exact predsE_small hgn l hl) ?_
 exact jrM Z Z k0 ((.slice (some ⟨g8,0,none⟩) (List.length g) (List.length g)):Value) Z (by rw[←hls0];exact(dc d0 dn)) (fun _ _=>kn) hMX
theorem E166:Ent Tryz.prog 166:=⟨_,Tryz.func166,by kernel_rfl,by kernel_rfl⟩
theorem E167:Ent Tryz.prog 167:=⟨_,Tryz.func167,by kernel_rfl,by kernel_rfl⟩
theorem E186:Ent Tryz.prog 186:=⟨_,Tryz.func186,by kernel_rfl,by kernel_rfl⟩
theorem idom_ct{a0:Value}{g:List (List Int)}(hn:0<g.length∧g.length≤512)(hw:∀b,b<g.length→∃w,RB (fun q t=>(t:Int)∈ix (cleanM g) q) w b):Tr Tryz.prog 168 #[a0] [dv (rL (rL (rI .i64))) a0 g] [] (fun c:Value×List Int=>c.1) (fun c=>[dv (rL (rI .i64)) c.1 c.2,pu (DomG g c.2)]) (fun _ _=>[]):=by
 refine jenter (args:=[a0]) Tryz.func168 rfl rfl rfl fun w0 X=>?_
 refine jq (jr (ja Z (jn (jx (jq (jr (jm Z (jc E166 Z Z (order_ct hn) (dc d0 dn) kn (fun _=>p2) (fun _=>p0) fun c17=>jpu d1 fun hod0=>?_))))))))
 have hod:=hod0.od hn.1 hw
 refine ja Z (jn (jx (jq (jr (jm Z (jdq d2 fun q3 w3=>js (jln U125 d2 Z) (jmk (m:=(List.length g)) (r:=(rI .i64)) U22 I3 Z Z Z Z Z (by omega) (wI (wp (by decide))) Z fun g20=>ja Z (jn (jx ?_)))))))))
 refine jq (jr (jm Z (js (jln U125 d2 Z) (jmk (m:=(List.length g)) (r:=(rI .i64)) U22 I3 Z Z Z Z Z (by omega) (wI (wp (by decide))) Z fun g23=>ja Z (jn (jx (jq (jq (jr (jm Z ?_))))))))))
 refine js (jln U125 d2 Z) (jm Z (jn (jx (jb ?_))))
 refine jlp (u3 fun(k:Nat) (nm:List Int) (ou:List Int)=>⟨k≤g.length∧nm.length=g.length∧ou=List.replicate k (-1)++List.replicate (g.length-k) 0,[dv (rL (rI .i64)) c17.1 c17.2,dv (rL (rL (rI .i64))) a0 g],[gl X.n (rI .i64) 3 (.slice (some ⟨g23,0,none⟩) (List.length g) (List.length g)) ou,gl X.n (rI .i64) 3 (.slice (some ⟨g20,0,none⟩) (List.length g) (List.length g)) nm],[(0,a0),(2,.slice none 0 0),(3,c17.1),(4,(.slice (some ⟨g20,0,none⟩) (List.length g) (List.length g))),(5,(.slice (some ⟨g23,0,none⟩) (List.length g) (List.length g))),(25,.int .i64 (↑(List.length g))),(26,.int .i64 (↑k))],g.length-k⟩) (0,List.replicate (List.length g) 0,List.replicate (List.length g) 0) ⟨by dsimp only;omega,by simp,by simp⟩ (dc d0 (dc d2 dn)) (kd kn) ⟨Z,Z,Z,Z,Z,Z,eqI (by omega),trivial⟩ ?_
 rintro⟨k,nm,ou⟩;dsimp only[u3];rintro⟨hk,hnl,hou⟩
 have hol:ou.length=g.length:=by rw[hou];simp;omega
 refine jq (jr (js (jlss Z Z) (jn (jx (jq ?_)))))
 refine jif Z (fun hc1=>?_) (fun hc1=>?_)
 refine jsk (jx (jq (jb (jq (jr (jm Z (ja Z (jn (jx (jr (jm Z ?_)))))))))))
 refine jm Z (jm Z (jm Z (js (jig U22 Z3 k1 Z Z Z (by omega)) (jsg k1 Z Z3 Z Z Z (by omega) (wI (wl (-1))) (js (jig U22 Z3 k1 Z Z Z (by omega)) (jsg k1 Z Z3 Z Z Z (by omega) (wI (wl (-1))) (jn (jbn (jx (jr (js (jadd Z Z (by omega)) ?_)))))))))))
 refine jm Z (jn ?_)
 exact jag (k+1,List.set nm k (-1),List.set ou k (-1)) ⟨by dsimp only;omega,by simpa using hnl,by dsimp only;rw[hou];exact fill_put (by omega)⟩ (dc d0 (dc d1 dn)) (kd kn) ⟨Z,Z,Z,Z,Z,Z,eqI (by omega),trivial⟩
 refine jex (jtx (jtx (jbh (jx (jq (jq (jr (jm Z (jdq d0 fun q4 w4=>js (jln U22 d0 Z) (jm Z ?_))))))))))
 refine jn (jx (jb ?_))
 refine jlp (u2 fun(k2:Nat) (nm:List Int)=>⟨k2≤c17.2.length∧NK g.length c17.2 nm k2,[dv (rL (rI .i64)) c17.1 c17.2,dv (rL (rL (rI .i64))) a0 g],[gl X.n (rI .i64) 3 (.slice (some ⟨g23,0,none⟩) (List.length g) (List.length g)) ou,gl X.n (rI .i64) 3 (.slice (some ⟨g20,0,none⟩) (List.length g) (List.length g)) nm],[(0,a0),(2,.slice none 0 0),(3,c17.1),(4,(.slice (some ⟨g20,0,none⟩) (List.length g) (List.length g))),(5,(.slice (some ⟨g23,0,none⟩) (List.length g) (List.length g))),(36,c17.1),(37,.int .i64 (↑(List.length c17.2))),(38,.int .i64 (↑k2))],c17.2.length-k2⟩) (0,nm) ⟨by dsimp only;omega,⟨by dsimp only;exact hnl,fun j h=>absurd h (Nat.not_lt_zero _)⟩⟩ (dc d0 (dc d1 dn)) (kd kn) ⟨Z,Z,Z,Z,Z,Z,Z,eqI (by omega),trivial⟩ ?_
 rintro⟨k2,nm⟩;dsimp only[u2];rintro⟨hk2,hnk⟩
 have hnl2:=hnk.1
 refine jq (jr (js (jlss Z Z) (jn (jx (jq ?_)))))
 refine jif Z (fun hc2=>?_) (fun hc2=>?_)
 have hr8:=od_rng hod (k:=k2) (by omega)
 refine jsk (jx (jq (jb (jq (jr (jm Z (js (jix U22 Z3 d0 Z Z Z (by omega)) (js (jlI (dix d0 k2 (by omega)) O3 Z) (ja Z (ja Z (jn ?_)))))))))))
 refine jx (jr (jm Z (jm Z (jm Z (js (jig (i:=(Int.toNat (ix c17.2 k2))) U22 Z3 k1 Z Z (by omega) (by omega)) (jsg k1 Z Z3 Z Z Z (by omega) (wI (wp (IntWalk.i64_in _ (by omega)))) (jn (jbn (jx (jr (js (jadd Z Z (by omega)) ?_)))))))))))
 refine jm Z (jn ?_)
 exact jag (k2+1,List.set nm (Int.toNat (ix c17.2 k2)) ((k2:Nat):Int)) ⟨by dsimp only;omega,hnk.nx hod (by omega)⟩ (dc d0 (dc d1 dn)) (kc k1 (kc k0 kn)) ⟨Z,Z,Z,Z,Z,Z,Z,eqI (by omega),trivial⟩
 refine jex (jtx (jtx (jbh (jx (jq (jr (jfz k1 (by omega) ?_)))))))
 have hnu:NU g.length c17.2 nm:=⟨hnk.1,fun j h=>hnk.2 j (by omega)⟩
 have hgn:=(hod.gn hn.1 hnu).1
 have hfull:=od_full hod
 have hlen9:=od_len hod
 have hpl:=preds_len g
 refine jm Z (jcd E167 Z Z (preds_ct hn.2) (dc d2 dn) kn fun v49 q6 w6=>ja Z (jn (jx (jq (jq (jr (ja Z (jn (jx (jb ?_))))))))))
 refine jlp (u3 fun(f:Nat) (ch:Bool) (ou:List Int)=>⟨IS g.length nm (prG g) ou 1∧(ch=false→IS g.length nm (prG g) ou (g.length:Int)∧FX g.length nm (prG g) ou (g.length:Int))∧smI g.length nm ou g.length+(if ch=true then 1 else 0)≤f,[dv (rL (rL (rI .i64))) v49 (predsG g),dv (rL (rI .i64)) (.slice (some ⟨g20,0,none⟩) (List.length g) (List.length g)) nm,dv (rL (rI .i64)) c17.1 c17.2],[gl X.n (rI .i64) 3 (.slice (some ⟨g23,0,none⟩) (List.length g) (List.length g)) ou],[(2,.slice none 0 0),(3,c17.1),(4,(.slice (some ⟨g20,0,none⟩) (List.length g) (List.length g))),(5,(.slice (some ⟨g23,0,none⟩) (List.length g) (List.length g))),(9,v49),(10,.bool ch)],f⟩) (smI g.length nm ou g.length+1,true,ou) ⟨by dsimp only;rw[hou];exact(by have h9:=IS.beg hgn;rw[show g.length-k=0 by omega];simpa[show k=g.length by omega] using h9),(fun h=>by cases h),by dsimp only;rw[if_pos rfl];exact Nat.le_refl _⟩ (dc d0 (dc d1 (dc d2 dn))) (kc k0 kn) ⟨Z,Z,Z,Z,Z,Z,trivial⟩ ?_
 rintro⟨f,ch,ou⟩;dsimp only[u3];rintro⟨his,hid,hfu⟩
 have hol:=his.tv.len
 refine jq (jq (jr (jm Z (jn (jx ?_)))))
 refine jif Z (fun hc3=>?_) (fun hc3=>?_)
 have hf0:0<f:=by rw[hc3] at hfu;simp at hfu;omega
 refine jsk (jx (jb (jq (jr (ja Z (jn (jx (jq (jr (jm Z (jm Z ?_)))))))))))
 refine js (jln U22 d2 Z) (js (jmin Z Z) (js (jslo (lo:=(Int.toNat (min 1 (↑(List.length c17.2))))) U22 Z3 d2 Z Z (by omega) (by omega)) (jdq (dlo d2 (Int.toNat (min 1 (↑(List.length c17.2)))) (by omega) (by omega)) fun q8 w8=>js (jln U22 (dlo d2 (Int.toNat (min 1 (↑(List.length c17.2)))) (by omega) (by omega)) Z) (jm Z (jn (jx (jb ?_)))))))
 refine jlp (u3 fun(k:Nat) (ch2:Bool) (ou2:List Int)=>⟨k≤c17.2.length-1∧IR g.length nm (prG g) ou ou2 ch2 k,[dv (rL (rL (rI .i64))) v49 (predsG g),dv (rL (rI .i64)) (.slice (some ⟨g20,0,none⟩) (List.length g) (List.length g)) nm,dv (rL (rI .i64)) c17.1 c17.2],[gl X.n (rI .i64) 3 (.slice (some ⟨g23,0,none⟩) (List.length g) (List.length g)) ou2],[(2,.slice none 0 0),(3,c17.1),(4,(.slice (some ⟨g20,0,none⟩) (List.length g) (List.length g))),(5,(.slice (some ⟨g23,0,none⟩) (List.length g) (List.length g))),(9,v49),(10,.bool ch2),(55,(resl 1 c17.1 (Int.toNat (min 1 (↑(List.length c17.2)))) (List.length c17.2))),(56,.int .i64 (↑(List.length (List.drop (Int.toNat (min 1 (↑(List.length c17.2)))) c17.2)))),(57,.int .i64 (↑k))],c17.2.length-1-k⟩) (0,false,ou) ⟨by dsimp only;omega,IR.beg hgn his⟩ (dc d0 (dc d1 (dc d2 dn))) (kc k0 kn) ⟨Z,Z,Z,Z,Z,Z,Z,Z,eqI (by omega),trivial⟩ ?_
 rintro⟨k,ch2,ou2⟩;dsimp only[u3];rintro⟨hk4,hir⟩
 have hol2:=hir.is.tv.len
 have hdl:(List.drop (min 1 (c17.2.length:Int)).toNat c17.2).length=c17.2.length-1:=by rw[List.length_drop];omega
 refine jq (jr (js (jlss Z Z) (jn (jx (jq ?_)))))
 refine jif Z (fun hc4=>?_) (fun hc4=>?_)
 refine jsk (jx (jq (jb (jq (jr (js (jix U22 Z3 (dlo d2 (Int.toNat (min 1 (↑(List.length c17.2)))) (by omega) (by omega)) Z Z Z (by omega)) (js (jlI (dix (dlo d2 (Int.toNat (min 1 (↑(List.length c17.2)))) (by omega) (by omega)) k (by omega)) O3 Z) (ja Z (jn (jx (jq ?_)))))))))))
 refine jr (ja Z (jn (jx (jq (jq (jr ?_))))))
 generalize hb:ix (List.drop (Int.toNat (min 1 (↑(List.length c17.2)))) c17.2) k=b at ⊢
 have hbe:b=ix c17.2 (k+1):=by rw[←hb,ix_drop9];congr 1;omega
 have hbr:=od_rng hod (k:=k+1) (by omega)
 rw[←hbe] at hbr
 have hbn:ix nm b.toNat=((k+1:Nat):Int):=by rw[hbe];exact hnu.pos (k+1) (by omega)
 have hb0:b.toNat≠0:=fun h=>by rw[h,hgn.zero] at hbn;omega
 refine jm Z (jm Z (js (jix (i:=(Int.toNat b)) U125 Z22 d0 Z Z (by omega) (by omega)) (jev (jlV (dix d0 (Int.toNat b) (by omega)) O22 Z Z) fun v64 q9 w9=>js (jln U22 d0 Z) (jm Z (jn (jx (jb ?_)))))))
 refine jlp (u2 fun(j:Nat) (best:Int)=>⟨S9 g.length ou2 (ix (predsG g) (Int.toNat b)) j best,[dv (rL (rI .i64)) v64 (ix (predsG g) (Int.toNat b)),dv (rL (rL (rI .i64))) v49 (predsG g),dv (rL (rI .i64)) (.slice (some ⟨g20,0,none⟩) (List.length g) (List.length g)) nm,dv (rL (rI .i64)) c17.1 c17.2],[gl X.n (rI .i64) 3 (.slice (some ⟨g23,0,none⟩) (List.length g) (List.length g)) ou2],[(2,.slice none 0 0),(3,c17.1),(4,(.slice (some ⟨g20,0,none⟩) (List.length g) (List.length g))),(5,(.slice (some ⟨g23,0,none⟩) (List.length g) (List.length g))),(9,v49),(10,.bool ch2),(12,.int .i64 b),(13,.int .i64 best),(55,(resl 1 c17.1 (Int.toNat (min 1 (↑(List.length c17.2)))) (List.length c17.2))),(56,.int .i64 (↑(List.length (List.drop (Int.toNat (min 1 (↑(List.length c17.2)))) c17.2)))),(57,.int .i64 (↑k)),(64,v64),(65,.int .i64 (↑(List.length (ix (predsG g) (Int.toNat b))))),(66,.int .i64 (↑j))],(ix (predsG g) (Int.toNat b)).length-j⟩) (0,-1) ⟨by dsimp only;omega,BS.beg,by dsimp only;omega,by dsimp only;omega⟩ (dc d0 (dc d1 (dc d2 (dc d3 dn)))) (kc k0 kn) ⟨Z,Z,Z,Z,Z,Z,Z,eqI (by omega),Z,Z,Z,Z,Z,eqI (by omega),trivial⟩ ?_
 rintro⟨j,best⟩;dsimp only[u2];rintro⟨hj,hbs,hb1,hb2⟩
 have hs9:S9 g.length ou2 (ix (predsG g) (Int.toNat b)) j best:=⟨hj,hbs,hb1,hb2⟩
 refine jq (jr (js (jlss Z Z) (jn (jx (jq ?_)))))
 refine jif Z (fun hc5=>?_) (fun hc5=>?_)
 refine jsk (jx (jq (jb (jq (jr (js (jix U22 Z3 d0 Z Z Z (by omega)) (js (jlI (dix d0 j (by omega)) O3 Z) (ja Z (jn (jx (jq ?_)))))))))))
 refine jq (jr ?_)
 generalize ha:ix (ix (predsG g) (Int.toNat b)) j=a at ⊢
 have har:=preds_rng (ix_mem (l:=ix (predsG g) b.toNat) (i:=j) (by omega))
 rw[ha] at har
 refine jm Z (jm Z (jdq d2 fun q11 w11=>js (jix (i:=(Int.toNat a)) U22 Z3 d2 Z Z (by omega) (by omega)) (js (jlI (dix d2 (Int.toNat a) (by omega)) O3 Z) (js (jlss Z Z) (jm Z (jg Z Z (.f _) (fun hg=>jmv Z) (jg Z Z (.f _) (fun hg=>jneq (evg Z hg) Z) (jg Z Z (.f _) (fun hg=>jmv (evg Z hg)) (jg Z Z (.gt _ _) (fun hg=>jmv Z) (jg Z Z (.gt _ _) (fun hg=>jmv Z) ?_))))))))))
 refine jg Z Z (.gt _ _) (fun hg=>jig (i:=(Int.toNat a)) U22 Z3 k0 (evg Z hg) (evg Z hg) (by first|omega|(simp at hg;omega)) (by first|omega|(simp at hg;omega)|(simp only[List.length_set];omega)|(simp;done))) (jg Z Z (.gt _ _) (fun hg=>jgI k0 (by first|omega|(simp at hg;omega)|(simp only[List.length_set];omega)|(simp;done)) O3 (evg Z hg)) (jg Z Z (.gt _ _) (fun hg=>jlss (evg Z hg) Z) (jg Z Z (.f _) (fun hg=>jand2 hg Z Z) (js (jor Z Z) (jn (jx ?_))))))
 refine jif Z (fun hc6=>?_) (fun hc6=>?_)
 refine jex (jtx (jbh (jx (jr (js (jadd Z Z (by omega)) (jm Z (jn ?_)))))))
 exact jag (j+1,best) (s9_skip hgn hir.is hs9 ha har (by omega) (by simpa using hc6)) (dc d0 (dc d1 (dc d2 (dc d3 dn)))) (kc k0 kn) ⟨Z,Z,Z,Z,Z,Z,Z,Z,Z,Z,Z,Z,Z,eqI (by omega),trivial⟩
 have hca:¬a=0→0≤ix ou2 a.toNat:=by simp at hc6;exact fun h=>hc6.2.resolve_left h
 refine jsk (jx (jq (jq (jr (jm Z (js (jlss Z Z) (jn (jx ?_))))))))
 refine jif Z (fun hc7=>?_) (fun hc7=>?_)
 refine jq (jr (jm Z (ja Z (jn (jx (jex (jtx (jbh (jx (jr (js (jadd Z Z (by omega)) ?_)))))))))))
 refine jm Z (jn ?_)
 exact jag (j+1,a) (s9_first hir.is hs9 ha har (by omega) hca hc7) (dc d0 (dc d1 (dc d2 (dc d3 dn)))) (kc k0 kn) ⟨Z,Z,Z,Z,Z,Z,Z,eqI (by omega),Z,Z,Z,Z,Z,eqI (by omega),trivial⟩
 refine jsk (jx (jr (jm Z (jm Z (jm Z (jm Z (jc E186 Z Z (Tv.temp 1073741824 (common_ct best a (s9_ok hgn hnl2 hir.is hs9 har hca (by omega))) (by omega)) (dc d2 dn) (kc k0 kn) (fun _=>p0) (fun _=>p1) fun _=>ja Z (jn (jbn (jx ?_))))))))))
 refine jr (js (jadd Z Z (by omega)) (jm Z (jn ?_)))
 exact jag (j+1,comM ou2 nm best a) (s9_com hgn hir.is hs9 ha har (by omega) hca (by omega)) (dc d0 (dc d1 (dc d2 (dc d3 dn)))) (kc k0 kn) ⟨Z,Z,Z,Z,Z,Z,Z,eqI (by omega),Z,Z,Z,Z,Z,eqI (by omega),trivial⟩
 refine jex (jtx (jtx (jbh (jx (jq (jr (jm Z (jm Z (js (jig (i:=(Int.toNat b)) U22 Z3 k0 Z Z (by omega) (by omega)) (js (jgI k0 (by omega) O3 Z) (jm Z ?_)))))))))))
 refine js (jneq Z Z) (jn (jx ?_))
 refine jif Z (fun hc8=>?_) (fun hc8=>?_)
 refine jr (jm Z (jm Z (jm Z (js (jig (i:=(Int.toNat b)) U22 Z3 k0 Z Z (by omega) (by omega)) (jsg k0 Z Z3 Z Z Z (by omega) (wI (wp (IntWalk.i64_in _ (by omega)))) (ja Z (jn (jbn (jx (jr (js (jadd Z Z (by omega)) ?_)))))))))))
 refine jm Z (jn ?_)
 exact jag (k+1,true,List.set ou2 (Int.toNat b) best) ⟨by dsimp only;omega,hir.set hgn (by omega) hb0 hbn (hs9.all (by omega)) hc8⟩ (dc d1 (dc d2 (dc d3 dn))) (kc k0 kn) ⟨Z,Z,Z,Z,Z,Z,Z,Z,eqI (by omega),trivial⟩
 refine jsk (jbn (jx (jr (js (jadd Z Z (by omega)) (jm Z (jn ?_))))))
 exact jag (k+1,ch2,ou2) ⟨by dsimp only;omega,hir.keep hgn (by omega) hb0 hbn (hs9.all (by omega)) (by omega)⟩ (dc d1 (dc d2 (dc d3 dn))) (kc k0 kn) ⟨Z,Z,Z,Z,Z,Z,Z,Z,eqI (by omega),trivial⟩
 refine jex (jtx (jtx (jbh (jbn ?_))))
 exact jag (f-1,ch2,ou2) ⟨(hir.is.end9 (by omega)).round hgn,fun h9=>⟨hir.is.end9 (by omega),(hir.fx h9).end9 (by omega)⟩,by have h8:=hir.le;have h9:=hir.lt;have hf9:=hfu;rw[if_pos hc3] at hf9;dsimp only;cases ch2<;>simp at h9⊢<;> omega⟩ (dc d0 (dc d1 (dc d2 dn))) (kc k0 kn) ⟨Z,Z,Z,Z,Z,Z,trivial⟩
 refine jex (jtx (jtx (jbh (jx (jq (jr (jm Z (ja Z (jn (jx (jrt ?_)))))))))))
 refine qfz k0 (by omega) ?_
 exact jr1 Z Z ((.slice (some ⟨g23,0,none⟩) (List.length g) (List.length g)),ou) Z (dc d0 (dc (wpu ((hid (by simpa using hc3)).1.dg hgn (hid (by simpa using hc3)).2)) dn)) (fun _ _=>kn)
end Go.Proofs.YtmfkkodnghambaaGreat
namespace Go.JE
variable{P:Program}{D D0:List Dt}{L M Ls L0:List Res}{e:Env}{X:Cx}{n:Fs}{w0:World}{Q:Exit→Act→World→Prop}
variable{ops:Array Oper}{op:Op}{d:Nat}{ty:TypeId}{pos:String}{af:Array Edge}{rest:List Oper}{T T' K E:TypeId}{x y z:Operand}{g:Nat}{l:List (Int×Value)}{k:Int}{v u:Value}{b:Bool}
end Go.JE
namespace Go.Proofs.YtmfkkodnghambaaGreat
open Go.JE
abbrev U177:=@Tryz.underlying177
abbrev U213:=@Tryz.underlying213
theorem E113:Ent Tryz.prog 113:=⟨_,Tryz.func113,by kernel_rfl,by kernel_rfl⟩
theorem E114:Ent Tryz.prog 114:=⟨_,Tryz.func114,by kernel_rfl,by kernel_rfl⟩
theorem E161:Ent Tryz.prog 161:=⟨_,Tryz.func161,by kernel_rfl,by kernel_rfl⟩
theorem E162:Ent Tryz.prog 162:=⟨_,Tryz.func162,by kernel_rfl,by kernel_rfl⟩
theorem E163:Ent Tryz.prog 163:=⟨_,Tryz.func163,by kernel_rfl,by kernel_rfl⟩
theorem E164:Ent Tryz.prog 164:=⟨_,Tryz.func164,by kernel_rfl,by kernel_rfl⟩
theorem E179:Ent Tryz.prog 179:=⟨_,Tryz.func179,by kernel_rfl,by kernel_rfl⟩
theorem E180:Ent Tryz.prog 180:=⟨_,Tryz.func180,by kernel_rfl,by kernel_rfl⟩
theorem F179_0:Fld Tryz.prog 179 0 0:=⟨_,_,Tryz.underlying179,rfl,rfl,2,(by unfold Sz;kernel_rfl),by decide⟩
theorem F179_1:Fld Tryz.prog 179 1 2:=⟨_,_,Tryz.underlying179,rfl,rfl,1,(by unfold Sz;kernel_rfl),by decide⟩
theorem F211_0:Fld Tryz.prog 211 0 0:=⟨_,_,Tryz.underlying211,rfl,rfl,1,(by unfold Sz;kernel_rfl),by decide⟩
theorem F211_1:Fld Tryz.prog 211 1 1:=⟨_,_,Tryz.underlying211,rfl,rfl,1,(by unfold Sz;kernel_rfl),by decide⟩
theorem F211_2:Fld Tryz.prog 211 2 2:=⟨_,_,Tryz.underlying211,rfl,rfl,1,(by unfold Sz;kernel_rfl),by decide⟩
theorem F211_3:Fld Tryz.prog 211 3 3:=⟨_,_,Tryz.underlying211,rfl,rfl,1,(by unfold Sz;kernel_rfl),by decide⟩
theorem O177:One Tryz.prog 177:=⟨_,Tryz.underlying177,rfl⟩
theorem Z211:Sz Tryz.prog 211 4:=by unfold Sz;kernel_rfl
theorem Z219:Sz Tryz.prog 219 2:=by unfold Sz;kernel_rfl
theorem J211:(Tryz.prog.info? 211).bind (·.zero)=some (.agg #[.int .i64 0,.int .i64 0,.int .i64 0,.int .i64 0]):=by kernel_rfl
theorem J219:(Tryz.prog.info? 219).bind (·.zero)=some (.agg #[.int .i64 0,.int .i64 0]):=by kernel_rfl
theorem J67:(Tryz.prog.info? 67).bind (·.zero)=some (.agg #[.int .i64 0,.int .i64 0,.int .i64 0,.slice none 0 0,.int .i32 0]):=by kernel_rfl
set_option maxRecDepth 4000
theorem shapes_ct  : Tr Tryz.prog 164 #[] [] [] (fun g:Nat => .map (some g)) (fun _=>[]) (fun _ g=>[im g shL]):=by
 refine jenter (args:=[]) Tryz.func164 rfl rfl rfl fun w0 X=>?_
 refine jq (jr (ja Z (jn (jx (jq (jr (jmm fun g1=>js (jbu (v := .agg #[.int .i64 0,.int .i64 0,.int .i64 1,.int .i64 1]) Z (fun _=>by kernel_rfl)) (jin U213 U3 k0 Z Z Z Z (js (jbu (v := .agg #[.int .i64 1,.int .i64 1,.int .i64 2,.int .i64 2]) Z (fun _=>by kernel_rfl)) (jin U213 U3 k0 Z Z Z Z ?_))))))))))
 refine js (jbu (v := .agg #[.int .i64 1,.int .i64 1,.int .i64 2,.int .i64 65]) Z (fun _=>by kernel_rfl)) (jin U213 U3 k0 Z Z Z Z (js (jbu (v := .agg #[.int .i64 0,.int .i64 1,.int .i64 0,.int .i64 0]) Z (fun _=>by kernel_rfl)) (jin U213 U3 k0 Z Z Z Z (js (jbu (v := .agg #[.int .i64 0,.int .i64 0,.int .i64 0,.int .i64 0]) Z (fun _=>by kernel_rfl)) (jin U213 U3 k0 Z Z Z Z (jm Z (ja Z (jn (jx (jrt ?_))))))))))
 exact jr1 Z Z g1 Z dn (fun _ _=>(kc k0 kn))
end Go.Proofs.YtmfkkodnghambaaGreat
namespace Go.Proofs.YtmfkkodnghambaaGreat
open Go.JE
theorem A165:∃d,Tryz.prog.underlying 165=some d∧(match d with | .struct _ | .array _ _=>true|_=>false)=true:=⟨_,Tryz.underlying165,rfl⟩
theorem E177:Ent Tryz.prog 177:=⟨_,Tryz.func177,by kernel_rfl,by kernel_rfl⟩
theorem E178:Ent Tryz.prog 178:=⟨_,Tryz.func178,by kernel_rfl,by kernel_rfl⟩
theorem F170_1:Fld Tryz.prog 170 1 1:=⟨_,_,Tryz.underlying170,rfl,rfl,1,(by unfold Sz;kernel_rfl),by decide⟩
theorem Z165:Sz Tryz.prog 165 3:=by unfold Sz;kernel_rfl
theorem J165:(Tryz.prog.info? 165).bind (·.zero)=some (.agg #[.int .i64 0,.int .i64 0,.int .i64 0]):=by kernel_rfl
set_option maxRecDepth 8000
theorem r3counts_ct(op:Int)(n:Int):Tv Tryz.prog 177 #[.int .i64 op,.int .i64 n] [] [] (.bool (cntsM op n)):=by
 refine jenter (args:=[.int .i64 op,.int .i64 n]) Tryz.func177 rfl rfl rfl fun w0 X=>?_
 refine jq (jr (ja Z (jn (jx (jq (jq (jr (jm Z (jn (jx (jb ?_)))))))))))
 refine jq (jr (js (jeql Z Z) (ja Z (jn (jx ?_)))))
 refine jif Z (fun hc1=>?_) (fun hc1=>?_)
 refine jq (jr (jm Z (js (jeql Z Z) (ja Z (jn (jx (jrt (jbr (jtr ?_)))))))))
 exact jrB Z Z (by first|(simp[cntsM, *];done)|(unfold cntsM;(repeat' split)<;>first|rfl|(exfalso;omega)|simp_all))
 refine jq (jr (js (jeql Z Z) (ja Z (jn (jx ?_)))))
 refine jif Z (fun hc2=>?_) (fun hc2=>?_)
 refine jq (jr (jm Z (js (jeql Z Z) (ja Z (jn (jx (jrt (jbr (jtr ?_)))))))))
 exact jrB Z Z (by first|(simp[cntsM, *];done)|(unfold cntsM;(repeat' split)<;>first|rfl|(exfalso;omega)|simp_all))
 refine jq (jr (js (jeql Z Z) (ja Z (jn (jx ?_)))))
 refine jif Z (fun hc3=>?_) (fun hc3=>?_)
 refine jq (jr (jm Z (js (jleq Z Z) (ja Z (jn (jx (jrt (jbr (jtr ?_)))))))))
 exact jrB Z Z (by first|(simp[cntsM, *];done)|(unfold cntsM;(repeat' split)<;>first|rfl|(exfalso;omega)|simp_all))
 refine jsk (jbn (jx (jq (jr (jm Z (js (jeql Z Z) (ja Z (jn (jx (jrt ?_))))))))))
 exact jrB Z Z (by first|(simp[cntsM, *];done)|(unfold cntsM;(repeat' split)<;>first|rfl|(exfalso;omega)|simp_all))
theorem r3term_ct{a0a a0b:Value}{t:D.Term}:Tv Tryz.prog 178 #[vTerm t (a0a,a0b)] [da rTerm (vTerm t (a0a,a0b)) t] [] (.bool (termM t)):=by
 refine jenter (args:=[vTerm t (a0a,a0b)]) Tryz.func178 rfl rfl rfl fun w0 X=>?_
 refine jq (jr (jbox Z Z fun g1=>ja Z (jn (jx (jq (jr (js (jf F60_1 Z) (js (jl k0 O22 Z Z) (jdq (rTerm.c_Args d0) fun q1 w1=>js (jln U22 (rTerm.c_Args d0) Z) ?_)))))))))
 refine ja Z (jn (jx (jq (jr (js (jf F60_2 Z) (js (jl k0 O22 Z Z) (jdq (rTerm.c_To d0) fun q2 w2=>js (jln U22 (rTerm.c_To d0) Z) (ja Z (jn (jx ?_))))))))))
 refine jq (jq (jr (js (jf F60_0 Z) (js (jl k0 O3 Z Z) (jn (jx (jb (jq (jr (js (jeql Z Z) (ja Z ?_)))))))))))
 refine jn (jx ?_)
 refine jif Z (fun hc1=>?_) (fun hc1=>?_)
 refine jq (jr (jm Z (js (jeql Z Z) (jm Z (jg Z Z (.t _) (fun hg=>jmv Z) (jg Z Z (.t _) (fun hg=>jeql (evg Z hg) Z) (js (jand Z Z) (ja Z (jn (jx (jrt ?_)))))))))))
 refine jbr (jtr ?_)
 exact jrB Z Z (by first|(simp[termM, *];done)|(unfold termM;(repeat' split)<;>first|rfl|(exfalso;omega)|simp_all))
 refine jq (jr (js (jeql Z Z) (ja Z (jn (jx ?_)))))
 refine jif Z (fun hc2=>?_) (fun hc2=>?_)
 refine jq (jr (jm Z (js (jeql Z Z) (jm Z (jg Z Z (.t _) (fun hg=>jmv Z) (jg Z Z (.t _) (fun hg=>jeql (evg Z hg) Z) (js (jand Z Z) (ja Z (jn (jx (jrt ?_)))))))))))
 refine jbr (jtr ?_)
 exact jrB Z Z (by first|(simp[termM, *];done)|(unfold termM;(repeat' split)<;>first|rfl|(exfalso;omega)|simp_all))
 refine jq (jr (js (jeql Z Z) (ja Z (jn (jx ?_)))))
 refine jif Z (fun hc3=>?_) (fun hc3=>?_)
 refine jq (jr (jm Z (js (jeql Z Z) (jm Z (jg Z Z (.t _) (fun hg=>jmv Z) (jg Z Z (.t _) (fun hg=>jgeq (evg Z hg) Z) (js (jand Z Z) (jm Z (jg Z Z (.t _) (fun hg=>jmv Z) (jg Z Z (.t _) (fun hg=>jleq (evg Z hg) Z) (js (jand Z Z) ?_)))))))))))
 refine ja Z (jn (jx (jrt (jbr (jtr ?_)))))
 exact jrB Z Z (by first|(simp[termM, *];done)|(unfold termM;(repeat' split)<;>first|rfl|(exfalso;omega)|simp_all))
 refine jq (jr (js (jeql Z Z) (ja Z (jn (jx ?_)))))
 refine jif Z (fun hc4=>?_) (fun hc4=>?_)
 refine jq (jr (jm Z (js (jleq Z Z) (jm Z (jg Z Z (.t _) (fun hg=>jmv Z) (jg Z Z (.t _) (fun hg=>jeql (evg Z hg) Z) (js (jand Z Z) (ja Z (jn (jx (jrt ?_)))))))))))
 refine jbr (jtr ?_)
 exact jrB Z Z (by first|(simp[termM, *];done)|(unfold termM;(repeat' split)<;>first|rfl|(exfalso;omega)|simp_all))
 refine jq (jr (js (jeql Z Z) (ja Z (jn (jx ?_)))))
 refine jif Z (fun hc5=>?_) (fun hc5=>?_)
 refine jq (jr (jm Z (js (jeql Z Z) (jm Z (jg Z Z (.t _) (fun hg=>jmv Z) (jg Z Z (.t _) (fun hg=>jeql (evg Z hg) Z) (js (jand Z Z) (ja Z (jn (jx (jrt ?_)))))))))))
 refine jbr (jtr ?_)
 exact jrB Z Z (by first|(simp[termM, *];done)|(unfold termM;(repeat' split)<;>first|rfl|(exfalso;omega)|simp_all))
 refine jsk (jbn (jx (jq (jr (ja Z (jn (jx (jrt ?_))))))))
 exact jrB Z Z (by first|(simp[termM, *];done)|(unfold termM;(repeat' split)<;>first|rfl|(exfalso;omega)|simp_all))
set_option maxHeartbeats 4000000 in
theorem r3shape_ct{a0:Value}{f:D.Func}(hp0:0≤f.Params)(hsz:cntT f.Blocks<1000000000):Tr Tryz.prog 157 #[vFunc f a0] [da rFunc (vFunc f a0) f] [] (fun i:{ t:Int×Int×Int // t.1=0↔ShR f } => .agg #[.int .i64 i.1.1,.int .i64 i.1.2.1,.int .i64 i.1.2.2]) (fun _=>[]) (fun _ _=>[]):=by
 refine jenter (args:=[vFunc f a0]) Tryz.func157 rfl rfl rfl fun w0 X=>?_
 refine jq (jr (jbox Z Z fun g1=>jalc J165 Z fun g2=>jn (jx (jq (jr (jmk (m:=8192) (r:=rB) U129 I4 Z Z Z Z Z (by omega) wB Z fun g13=>ja Z (jn (jx ?_))))))))
 refine jq (jr (js (jla k2 A49 Z49 Z Z Z) (jcd E105 Z Z (r3things_ct (by omega)) (dc d0 dn) kn fun v15 q1 w1=>ja Z (jn (jx (jq (jq (jr (ja Z (jn ?_))))))))))
 refine jx (jb ?_)
 refine jlp (u2 fun(i:Nat) (se:List Bool)=>⟨i≤(things3 f).length∧(∀j,j<i→ThOk f (ix (things3 f) j))∧SeI se (mkT ((things3 f).take i))∧(mkT ((things3 f).take i)).Nodup∧se.length=8192,[dv (rL rTg3) v15 (things3 f),da rFunc (vFunc f a0) f],[gl X.n rB 4 (.slice (some ⟨g13,0,none⟩) 8192 8192) se,bx g2 165 [.int .i64 0,.int .i64 0,.int .i64 0],bx g1 49 [.int .i64 f.Params,a0]],[(1,.pointer (some ⟨g1,0,none⟩)),(2,.pointer (some ⟨g2,0,none⟩)),(3,(.slice (some ⟨g13,0,none⟩) 8192 8192)),(4,v15),(5,.int .i64 (↑i))],(things3 f).length-i⟩) (0,List.replicate 8192 false) ⟨Nat.zero_le _,(fun j h=>absurd h (Nat.not_lt_zero _)),SeI.beg,List.nodup_nil,List.length_replicate⟩ (dc d0 (dc d1 dn)) (kd (kc k0 kn)) ⟨Z,Z,Z,Z,eqI (by omega),trivial⟩ ?_
 rintro⟨i,se⟩;dsimp only[u2];rintro⟨hi,hT9,hS9,hN9,hsl⟩
 refine jq (jq (jr (jm Z (jm Z (js (jln U167 d0 Z) (js (jlss Z Z) (jn (jx ?_))))))))
 refine jif Z (fun hc1=>?_) (fun hc1=>?_)
 have hta:=things_mem.1 (ix_mem (l:=things3 f) (i:=i) (by omega))
 have htr:=tat_rng hta
 refine jsk (jx (jq (jb (jq (jr (jm Z (jm Z (js (jix U167 Z170 d0 Z Z Z (by omega)) (jA2 sTg3 (jlA (dix d0 i (by omega)) A170 Z170 Z) fun c25a c25b=>jalc J170 Z fun g6=>jdq (rTg3.c_Makes d0) fun q4 w4=>?_)))))))))
 refine jdq (rTg3.c_Takes d0) fun q5 w5=>jsta k0 Z170 Z Z Z ⟨Z,Z,w4.one,w5.one,trivial⟩ (saf Z) (jn (jx (jq (jr (js (jf F49_1 Z) (js (jl k3 O47 Z Z) (js (jf F170_0 Z) (js (jl k0 O3 Z Z) (jdq (rFunc.cB d2) fun q6 w6=>js (jix (i:=(Int.toNat ((ix (things3 f) i).Block))) U47 Z62 (rFunc.cB d2) Z Z (by omega) (by omega)) ?_)))))))))
 refine jA4 sBlock (jlA (dix (rFunc.cB d2) (Int.toNat ((ix (things3 f) i).Block)) (by omega)) A62 Z62 Z) fun c31a c31b c31c c31d=>jalc J62 Z fun g7=>jdq (rBlock.cP d0) fun q8 w8=>jdq (rBlock.cI d0) fun q9 w9=>jdq (rBlock.c_Term_Args d0) fun q10 w10=>jdq (rBlock.c_Term_To d0) fun q11 w11=>jsta k0 Z62 Z Z Z ⟨w8.one,w9.one,Z,w10.one,w11.one,Z,trivial⟩ (saf Z) (jn (jx (jq (jq (jr ?_)))))
 refine js (jf F170_1 Z) (js (jl k1 O3 Z Z) (js (jgeq Z Z) (jm Z (jg Z Z (.t _) (fun hg=>jf F170_1 Z) (jg Z Z (.t _) (fun hg=>jl k1 O3 (evg Z hg) Z) (jg Z Z (.t _) (fun hg=>jf F62_1 Z) (jg Z Z (.t _) (fun hg=>jl k0 O58 (evg Z hg) Z) (jg Z Z (.t _) (fun hg=>jln U58 (rBlock.cI d0) (evg Z hg)) (jg Z Z (.t _) (fun hg=>jlss (evg Z hg) (evg Z hg)) (js (jand Z Z) (jn ?_)))))))))))
 refine jx ?_
 refine jjo (fun(uq:Nat)=>⟨0≤uq∧(0≤(ix (things3 f) i).Place→(ix (things3 f) i).Place<(ix f.Blocks (Int.toNat (ix (things3 f) i).Block)).Ins.length→(1≤(tIns f (ix (things3 f) i)).Op∧(tIns f (ix (things3 f) i)).Op≤18)∧cntsM (tIns f (ix (things3 f) i)).Op (tIns f (ix (things3 f) i)).Args.length=true),[da rBlock (vBlock (ix f.Blocks (Int.toNat ((ix (things3 f) i).Block))) (c31a,c31b,c31c,c31d)) (ix f.Blocks (Int.toNat ((ix (things3 f) i).Block))),da rTg3 (vTg3 (ix (things3 f) i) (c25a,c25b)) (ix (things3 f) i),dv (rL rTg3) v15 (things3 f),da rFunc (vFunc f a0) f],[bx g7 62 [c31a,c31b,.int .i64 (((ix f.Blocks (Int.toNat ((ix (things3 f) i).Block))).Term).Kind),c31c,c31d,.int .i32 (((ix f.Blocks (Int.toNat ((ix (things3 f) i).Block))).Term).Imm)],bx g6 170 [.int .i64 ((ix (things3 f) i).Block),.int .i64 ((ix (things3 f) i).Place),c25a,c25b],gl X.n rB 4 (.slice (some ⟨g13,0,none⟩) 8192 8192) se,bx g2 165 [.int .i64 0,.int .i64 0,.int .i64 0],bx g1 49 [.int .i64 f.Params,a0]],[(1,.pointer (some ⟨g1,0,none⟩)),(2,.pointer (some ⟨g2,0,none⟩)),(3,(.slice (some ⟨g13,0,none⟩) 8192 8192)),(4,v15),(5,.int .i64 (((i:Nat):Int))),(6,.pointer (some ⟨g6,0,none⟩)),(7,.pointer (some ⟨g7,0,none⟩))]⟩) ?_ ?_
 refine jif Z (fun hc2=>?_) (fun hc2=>?_)
 have hc2b:=hc2
 (try simp only[Bool.and_eq_true,decide_eq_true_eq] at hc2b)
 refine jq (jr (js (jf F62_1 Z) (js (jl k0 O58 Z Z) (js (jf F170_1 Z) (js (jl k1 O3 Z Z) (js (jix (i:=(Int.toNat ((ix (things3 f) i).Place))) U58 Z67 (rBlock.cI d0) Z Z (by omega) (by omega)) (jA sIns (jlA (dix (rBlock.cI d0) (Int.toNat ((ix (things3 f) i).Place)) (by omega)) A67 Z67 Z) fun c48=>jalc J67 Z fun g8=>jdq (rIns.c_Args d0) fun q14 w14=>jsta k0 Z67 Z Z Z ⟨Z,Z,Z,w14.one,Z,trivial⟩ (saf Z) (jn ?_))))))))
 refine jx (jq (jr (js (jf F67_0 Z) (js (jl k0 O3 Z Z) (js (jlss Z Z) (jm Z (jg Z Z (.f _) (fun hg=>jf F67_0 Z) (jg Z Z (.f _) (fun hg=>jl k0 O3 (evg Z hg) Z) (jg Z Z (.f _) (fun hg=>jgtr (evg Z hg) Z) (js (jor Z Z) (jm Z ?_)))))))))))
 refine jg Z Z (.f _) (fun hg=>jf F67_0 Z) (jg Z Z (.f _) (fun hg=>jl k0 O3 (evg Z hg) Z) (jg Z Z (.f _) (fun hg=>jf F67_3 Z) (jg Z Z (.f _) (fun hg=>jl k0 O22 (evg Z hg) Z) (jg Z Z (.f _) (fun hg=>jln U22 (rIns.c_Args d0) (evg Z hg)) (jgc Z Z (.f _) E177 Z (fun hg=>evl2 (evg Z hg) (evg Z hg)) (fun hg=>(r3counts_ct ((ix ((ix f.Blocks (Int.toNat ((ix (things3 f) i).Block))).Ins) (Int.toNat ((ix (things3 f) i).Place))).Op) (↑(List.length ((ix ((ix f.Blocks (Int.toNat ((ix (things3 f) i).Block))).Ins) (Int.toNat ((ix (things3 f) i).Place))).Args))))) (fun hg=>dn) kn p0 (jg Z Z (.f _) (fun hg=>jnot (evg Z hg)) (js (jor Z Z) (jn (jx ?_)))))))))
 refine jif Z (fun hc3=>?_) (fun hc3=>?_)
 refine jq (jr (js (jf F170_0 Z) (js (jl k2 O3 Z Z) (js (jf F170_1 Z) (js (jl k2 O3 Z Z) (js (jbu (v := .agg #[.int .i64 10,.int .i64 ((ix (things3 f) i).Block),.int .i64 ((ix (things3 f) i).Place)]) Z (fun _=>by kernel_rfl)) (jsta k4 Z165 Z Z Z ⟨Z,Z,Z,trivial⟩ (saf Z) (jn (jx (jrt (jjr ?_)))))))))))
 refine jtr (jbr (jtr (jtr (jbr (jtr ?_)))))
 exact jrc Z Z k0 A165 Z165 ⟨(10,(ix (things3 f) i).Block,(ix (things3 f) i).Place),⟨fun h=>absurd (show((10:Int))=0 from h) (by decide),fun h=>absurd h (fun h=>by have h9:=hc2;(try simp at h9);have h8:=(h.1 _ (ix_mem (l:=things3 f) (i:=i) (by omega))).op h9.1 h9.2;unfold tIns at h8;have h7:=hc3;simp[h8.2] at h7;omega)⟩⟩ Z dn (fun _ _=>kn)
 refine jsk ?_
 exact jje 0 ⟨Nat.le_refl _,(fun h1 h2=>by have h9:=hc3;unfold tIns;(try simp at h9);exact⟨by omega,by simp[h9]⟩)⟩ (dc d1 (dc d2 (dc d3 (dc d4 dn)))) (kc k1 (kc k1 (kc k1 (kc k1 (kc k1 kn))))) ⟨Z,Z,Z,Z,Z,Z,Z,trivial⟩
 refine jsk ?_
 exact jje 0 ⟨Nat.le_refl _,(fun h1 h2=>absurd hc2 (by simp[h1,h2]))⟩ (dc d0 (dc d1 (dc d2 (dc d3 dn)))) (kd (kd (kc k0 kn))) ⟨Z,Z,Z,Z,Z,Z,Z,trivial⟩
 rintro uq;dsimp only;rintro⟨huq,hop⟩
 refine jx (jq (jr (js (jf F170_1 Z) (js (jl k1 O3 Z Z) (js (jf F62_1 Z) (js (jl k0 O58 Z Z) (js (jln U58 (rBlock.cI d0) Z) (js (jeql Z Z) (ja Z (jn (jx ?_)))))))))))
 refine jq (jq (jr (jm Z (jm Z (jg Z Z (.t _) (fun hg=>jf F62_2 Z) (jg Z Z (.t _) (fun hg=>jla k0 A60 Z60 (evg Z hg) Z Z) (jgc Z Z (.t _) E178 Z (fun hg=>evl1 (evg Z hg)) (fun hg=>r3term_ct) (fun hg=>(dc (rBlock.P_Term d0) dn)) kn p0 (jg Z Z (.t _) (fun hg=>jnot (evg Z hg)) (js (jand Z Z) (jn (jx ?_)))))))))))
 refine jif Z (fun hc4=>?_) (fun hc4=>?_)
 refine jq (jr (js (jf F170_0 Z) (js (jl k1 O3 Z Z) (js (jf F170_1 Z) (js (jl k1 O3 Z Z) (js (jbu (v := .agg #[.int .i64 10,.int .i64 ((ix (things3 f) i).Block),.int .i64 ((ix (things3 f) i).Place)]) Z (fun _=>by kernel_rfl)) (jsta k3 Z165 Z Z Z ⟨Z,Z,Z,trivial⟩ (saf Z) (jn (jx (jrt (jtr ?_)))))))))))
 refine jbr (jtr (jtr (jbr (jtr ?_))))
 exact jrc Z Z k0 A165 Z165 ⟨(10,(ix (things3 f) i).Block,(ix (things3 f) i).Place),⟨fun h=>absurd (show((10:Int))=0 from h) (by decide),fun h=>absurd h (fun h=>by have h9:=hc4;(try simp at h9);have h8:=(h.1 _ (ix_mem (l:=things3 f) (i:=i) (by omega))).tm h9.1;rw[h8] at h9;cases h9.2)⟩⟩ Z dn (fun _ _=>kn)
 refine jsk (jx (jq (jq (jr (ja Z (jn (jx (jb ?_))))))))
 refine jlp (fun(k:Nat)=>⟨k≤(ix (things3 f) i).Makes.length∧∀n∈(ix (things3 f) i).Makes.take k,f.Params≤n∧n≤8191,[da rBlock (vBlock (ix f.Blocks (Int.toNat ((ix (things3 f) i).Block))) (c31a,c31b,c31c,c31d)) (ix f.Blocks (Int.toNat ((ix (things3 f) i).Block))),da rTg3 (vTg3 (ix (things3 f) i) (c25a,c25b)) (ix (things3 f) i),dv (rL rTg3) v15 (things3 f),da rFunc (vFunc f a0) f],[bx g7 62 [c31a,c31b,.int .i64 (((ix f.Blocks (Int.toNat ((ix (things3 f) i).Block))).Term).Kind),c31c,c31d,.int .i32 (((ix f.Blocks (Int.toNat ((ix (things3 f) i).Block))).Term).Imm)],bx g6 170 [.int .i64 ((ix (things3 f) i).Block),.int .i64 ((ix (things3 f) i).Place),c25a,c25b],gl X.n rB 4 (.slice (some ⟨g13,0,none⟩) 8192 8192) se,bx g2 165 [.int .i64 0,.int .i64 0,.int .i64 0],bx g1 49 [.int .i64 f.Params,a0]],[(1,.pointer (some ⟨g1,0,none⟩)),(2,.pointer (some ⟨g2,0,none⟩)),(3,(.slice (some ⟨g13,0,none⟩) 8192 8192)),(4,v15),(5,.int .i64 (↑i)),(6,.pointer (some ⟨g6,0,none⟩)),(7,.pointer (some ⟨g7,0,none⟩)),(9,.bool (decide ((ix (things3 f) i).Place=↑(List.length ((ix f.Blocks (Int.toNat ((ix (things3 f) i).Block))).Ins))))),(10,.int .i64 (↑k))],(ix (things3 f) i).Makes.length-k⟩) 0 ⟨Nat.zero_le _,(fun n h=>by cases h)⟩ (dc d0 (dc d1 (dc d2 (dc d3 dn)))) (kd (kd (kc k0 kn))) ⟨Z,Z,Z,Z,Z,Z,Z,Z,eqI (by omega),trivial⟩ ?_
 rintro k;dsimp only;rintro⟨hk,hR9⟩
 refine jq (jq (jr (jm Z (js (jf F170_2 Z) (js (jl k1 O22 Z Z) (js (jln U22 (rTg3.c_Makes d1) Z) (js (jlss Z Z) (jn (jx ?_)))))))))
 refine jif Z (fun hc5=>?_) (fun hc5=>?_)
 refine jsk (jx (jq (jb (jq (jstl Mixed (by kernel_rfl) (jt (jf F170_2 Z) (jt (jl k1 O22 Z Z) (jt (jmv Z) (jt (jix U22 Z3 (rTg3.c_Makes d1) Z Z Z (by omega)) (jt (jlI (dix (rTg3.c_Makes d1) k (by omega)) O3 Z) (jt (jf F49_0 Z) ?_)))))))))))
 refine jt (jl k4 O3 Z Z) (jt (jlss Z Z) (jt (jmv Z) (jtg Z Z (.f _) (fun hg=>jf F170_2 Z) (jtg Z Z (.f _) (fun hg=>jl k1 O22 (evg Z hg) Z) (jtg Z Z (.f _) (fun hg=>jmv Z) (jtg Z Z (.f _) (fun hg=>jix U22 Z3 (rTg3.c_Makes d1) (evg Z hg) (evg Z hg) Z (by first|omega|(simp at hg;omega)|(simp only[List.length_set];omega)|(simp;done))) (jtg Z Z (.f _) (fun hg=>jlI (dix (rTg3.c_Makes d1) k (by first|omega|(simp at hg;omega)|(simp only[List.length_set];omega)|(simp;done))) O3 (evg Z hg)) (jtg Z Z (.f _) (fun hg=>jgtr (evg Z hg) Z) (jt (jor Z Z) (jdn (jx ?_)))))))))))
 refine jif Z (fun hc6=>?_) (fun hc6=>?_)
 refine jq (jr (js (jf F170_0 Z) (js (jl k1 O3 Z Z) (js (jf F170_1 Z) (js (jl k1 O3 Z Z) (js (jbu (v := .agg #[.int .i64 11,.int .i64 ((ix (things3 f) i).Block),.int .i64 ((ix (things3 f) i).Place)]) Z (fun _=>by kernel_rfl)) (jsta k3 Z165 Z Z Z ⟨Z,Z,Z,trivial⟩ (saf Z) (jn (jx (jrt (jbr ?_)))))))))))
 refine jtr (jtr (jbr (jtr (jbr (jtr (jtr (jbr (jtr ?_))))))))
 exact jrc Z Z k0 A165 Z165 ⟨(11,(ix (things3 f) i).Block,(ix (things3 f) i).Place),⟨fun h=>absurd (show((11:Int))=0 from h) (by decide),fun h=>absurd h (fun h=>by have h8:=(h.1 _ (ix_mem (l:=things3 f) (i:=i) (by omega))).mks _ (ix_mem (l:=(ix (things3 f) i).Makes) (i:=k) (by omega));have h9:=hc6;(try simp at h9);omega)⟩⟩ Z dn (fun _ _=>kn)
 refine jsk (jbn (jx (jr (jm Z (js (jadd Z Z (by omega)) (ja Z (jn ?_)))))))
 exact jag (k+1) ⟨by omega,all_nx9 (by omega) hR9 (by have h9:=hc6;(try simp at h9);omega)⟩ (dc d0 (dc d1 (dc d2 (dc d3 dn)))) (kd (kd (kc k0 kn))) ⟨Z,Z,Z,Z,Z,Z,Z,Z,eqI (by omega),trivial⟩
 refine jex (jtx (jtx (jbh (jx (jq (jq (jr (ja Z (jn (jx (jb ?_)))))))))))
 refine jlp (u2 fun(m2:Nat) (se8:List Bool)=>⟨m2≤(ix (things3 f) i).Makes.length∧SeI se8 (mkT ((things3 f).take i)++(ix (things3 f) i).Makes.take m2)∧(mkT ((things3 f).take i)++(ix (things3 f) i).Makes.take m2).Nodup∧se8.length=8192,[da rBlock (vBlock (ix f.Blocks (Int.toNat ((ix (things3 f) i).Block))) (c31a,c31b,c31c,c31d)) (ix f.Blocks (Int.toNat ((ix (things3 f) i).Block))),da rTg3 (vTg3 (ix (things3 f) i) (c25a,c25b)) (ix (things3 f) i),dv (rL rTg3) v15 (things3 f),da rFunc (vFunc f a0) f],[bx g7 62 [c31a,c31b,.int .i64 (((ix f.Blocks (Int.toNat ((ix (things3 f) i).Block))).Term).Kind),c31c,c31d,.int .i32 (((ix f.Blocks (Int.toNat ((ix (things3 f) i).Block))).Term).Imm)],bx g6 170 [.int .i64 ((ix (things3 f) i).Block),.int .i64 ((ix (things3 f) i).Place),c25a,c25b],gl X.n rB 4 (.slice (some ⟨g13,0,none⟩) 8192 8192) se8,bx g2 165 [.int .i64 0,.int .i64 0,.int .i64 0],bx g1 49 [.int .i64 f.Params,a0]],[(1,.pointer (some ⟨g1,0,none⟩)),(2,.pointer (some ⟨g2,0,none⟩)),(3,(.slice (some ⟨g13,0,none⟩) 8192 8192)),(4,v15),(5,.int .i64 (↑i)),(6,.pointer (some ⟨g6,0,none⟩)),(7,.pointer (some ⟨g7,0,none⟩)),(9,.bool (decide ((ix (things3 f) i).Place=↑(List.length ((ix f.Blocks (Int.toNat ((ix (things3 f) i).Block))).Ins))))),(11,.int .i64 (↑m2))],(ix (things3 f) i).Makes.length-m2⟩) (0,se) ⟨Nat.zero_le _,by simpa using hS9,by simpa using hN9,hsl⟩ (dc d0 (dc d1 (dc d2 (dc d3 dn)))) (kd (kd (kc k0 kn))) ⟨Z,Z,Z,Z,Z,Z,Z,Z,eqI (by omega),trivial⟩ ?_
 rintro⟨m2,se8⟩;dsimp only[u2];rintro⟨hm2x,hS8,hN8,hsl8⟩
 refine jq (jq (jr (jm Z (js (jf F170_2 Z) (js (jl k1 O22 Z Z) (js (jln U22 (rTg3.c_Makes d1) Z) (js (jlss Z Z) (jn (jx ?_)))))))))
 refine jif Z (fun hc7=>?_) (fun hc7=>?_)
 have hr8:=hR9 _ (by rw[List.take_of_length_le (show(ix (things3 f) i).Makes.length≤k by omega)];exact ix_mem (l:=(ix (things3 f) i).Makes) (i:=m2) (by omega))
 have hr8:0≤ix (ix (things3 f) i).Makes m2∧ix (ix (things3 f) i).Makes m2≤8191:=by omega
 refine jsk (jx (jq (jb (jq (jq (jr (jm Z (js (jf F170_2 Z) (js (jl k1 O22 Z Z) (jm Z (js (jix U22 Z3 (rTg3.c_Makes d1) Z Z Z (by omega)) ?_)))))))))))
 refine js (jlI (dix (rTg3.c_Makes d1) m2 (by omega)) O3 Z) (js (jig (i:=(Int.toNat (ix ((ix (things3 f) i).Makes) m2))) U129 Z4 k2 Z Z (by omega) (by omega)) (js (jgB k2 (by omega) O4 Z) (jn (jx ?_))))
 refine jif Z (fun hc8=>?_) (fun hc8=>?_)
 refine jq (jr (js (jf F170_0 Z) (js (jl k1 O3 Z Z) (js (jf F170_1 Z) (js (jl k1 O3 Z Z) (js (jbu (v := .agg #[.int .i64 12,.int .i64 ((ix (things3 f) i).Block),.int .i64 ((ix (things3 f) i).Place)]) Z (fun _=>by kernel_rfl)) (jsta k3 Z165 Z Z Z ⟨Z,Z,Z,trivial⟩ (saf Z) (jn (jx (jrt (jtr ?_)))))))))))
 refine jbr (jtr (jtr (jbr (jtr (jbr (jtr (jtr (jbr (jtr ?_)))))))))
 exact jrc Z Z k0 A165 Z165 ⟨(12,(ix (things3 f) i).Block,(ix (things3 f) i).Place),⟨fun h=>absurd (show((12:Int))=0 from h) (by decide),fun h=>absurd h (fun h=>dup_bad (l:=things3 f) (i:=i) (k:=m2) (by omega) (by omega) (hS8.yes hr8 hc8) h.2)⟩⟩ Z dn (fun _ _=>kn)
 refine jsk (jx (jr (jm Z (js (jf F170_2 Z) (js (jl k1 O22 Z Z) (jm Z (js (jix U22 Z3 (rTg3.c_Makes d1) Z Z Z (by omega)) (js (jlI (dix (rTg3.c_Makes d1) m2 (by omega)) O3 Z) (js (jig (i:=(Int.toNat (ix ((ix (things3 f) i).Makes) m2))) U129 Z4 k2 Z Z (by omega) (by omega)) (jsg k2 Z Z4 Z Z Z (by omega) wB (jn ?_)))))))))))
 refine jbn (jx (jr (jm Z (js (jadd Z Z (by omega)) (ja Z (jn ?_))))))
 exact jag (m2+1,List.set se8 (Int.toNat (ix ((ix (things3 f) i).Makes) m2)) true) ⟨by dsimp only;omega,by dsimp only;rw[take_app (by omega)];exact hS8.put hsl8 hr8,by dsimp only;rw[take_app (by omega)];exact nd_snoc hN8 (hS8.no hr8 (by simp[hc8])),by simpa using hsl8⟩ (dc d0 (dc d1 (dc d2 (dc d3 dn)))) (kc k1 (kc k1 (kd (kc k0 kn)))) ⟨Z,Z,Z,Z,Z,Z,Z,Z,eqI (by omega),trivial⟩
 refine jex (jtx (jtx (jbh (jx (jq (jr (ja Z (jn (jx (jb ?_))))))))))
 refine jlp (fun(m3:Nat)=>⟨m3≤(ix f.Blocks (Int.toNat (ix (things3 f) i).Block)).Term.To.length∧∀x∈(ix f.Blocks (Int.toNat (ix (things3 f) i).Block)).Term.To.take m3,1≤x∧x<f.Blocks.length,[da rBlock (vBlock (ix f.Blocks (Int.toNat ((ix (things3 f) i).Block))) (c31a,c31b,c31c,c31d)) (ix f.Blocks (Int.toNat ((ix (things3 f) i).Block))),da rTg3 (vTg3 (ix (things3 f) i) (c25a,c25b)) (ix (things3 f) i),dv (rL rTg3) v15 (things3 f),da rFunc (vFunc f a0) f],[bx g7 62 [c31a,c31b,.int .i64 (((ix f.Blocks (Int.toNat ((ix (things3 f) i).Block))).Term).Kind),c31c,c31d,.int .i32 (((ix f.Blocks (Int.toNat ((ix (things3 f) i).Block))).Term).Imm)],bx g6 170 [.int .i64 ((ix (things3 f) i).Block),.int .i64 ((ix (things3 f) i).Place),c25a,c25b],gl X.n rB 4 (.slice (some ⟨g13,0,none⟩) 8192 8192) se8,bx g2 165 [.int .i64 0,.int .i64 0,.int .i64 0],bx g1 49 [.int .i64 f.Params,a0]],[(1,.pointer (some ⟨g1,0,none⟩)),(2,.pointer (some ⟨g2,0,none⟩)),(3,(.slice (some ⟨g13,0,none⟩) 8192 8192)),(4,v15),(5,.int .i64 (↑i)),(6,.pointer (some ⟨g6,0,none⟩)),(7,.pointer (some ⟨g7,0,none⟩)),(9,.bool (decide ((ix (things3 f) i).Place=↑(List.length ((ix f.Blocks (Int.toNat ((ix (things3 f) i).Block))).Ins))))),(12,.int .i64 (↑m3))],(ix f.Blocks (Int.toNat (ix (things3 f) i).Block)).Term.To.length-m3⟩) 0 ⟨Nat.zero_le _,(fun n h=>by cases h)⟩ (dc d0 (dc d1 (dc d2 (dc d3 dn)))) (kd (kd (kc k0 kn))) ⟨Z,Z,Z,Z,Z,Z,Z,Z,eqI (by omega),trivial⟩ ?_
 rintro m3;dsimp only;rintro⟨hm3x,hO9⟩
 refine jq (jq (jr (jm Z (jm Z (jg Z Z (.t _) (fun hg=>jmv Z) (jg Z Z (.t _) (fun hg=>jf F62_2 Z) (jg Z Z (.t _) (fun hg=>jf F60_2 (evg Z hg)) (jg Z Z (.t _) (fun hg=>jl k0 O22 (evg Z hg) Z) (jg Z Z (.t _) (fun hg=>jln U22 (rBlock.c_Term_To d0) (evg Z hg)) (jg Z Z (.t _) (fun hg=>jlss (evg Z hg) (evg Z hg)) (js (jand Z Z) ?_)))))))))))
 refine jn (jx ?_)
 refine jif Z (fun hc9=>?_) (fun hc9=>?_)
 have hc9b:=hc9
 (try simp only[Bool.and_eq_true,decide_eq_true_eq] at hc9b)
 refine jsk (jx (jq (jb (jq (jstl Mixed (by kernel_rfl) (jt (jf F62_2 Z) (jt (jf F60_2 Z) (jt (jl k0 O22 Z Z) (jt (jmv Z) (jt (jix U22 Z3 (rBlock.c_Term_To d0) Z Z Z (by omega)) (jt (jlI (dix (rBlock.c_Term_To d0) m3 (by omega)) O3 Z) ?_)))))))))))
 refine jt (jlss Z Z) (jt (jmv Z) (jtg Z Z (.f _) (fun hg=>jf F62_2 Z) (jtg Z Z (.f _) (fun hg=>jf F60_2 (evg Z hg)) (jtg Z Z (.f _) (fun hg=>jl k0 O22 (evg Z hg) Z) (jtg Z Z (.f _) (fun hg=>jmv Z) (jtg Z Z (.f _) (fun hg=>jix U22 Z3 (rBlock.c_Term_To d0) (evg Z hg) (evg Z hg) Z (by first|omega|(simp at hg;omega)|(simp only[List.length_set];omega)|(simp;done))) (jtg Z Z (.f _) (fun hg=>jlI (dix (rBlock.c_Term_To d0) m3 (by first|omega|(simp at hg;omega)|(simp only[List.length_set];omega)|(simp;done))) O3 (evg Z hg)) (jtg Z Z (.f _) (fun hg=>jf F49_1 Z) (jtg Z Z (.f _) (fun hg=>jl k4 O47 (evg Z hg) Z) (jtg Z Z (.f _) (fun hg=>jln U47 (rFunc.cB d3) (evg Z hg)) (jtg Z Z (.f _) (fun hg=>jgeq (evg Z hg) (evg Z hg)) ?_)))))))))))
 refine jt (jor Z Z) (jdn (jx ?_))
 refine jif Z (fun hc10=>?_) (fun hc10=>?_)
 refine jq (jr (js (jf F170_0 Z) (js (jl k1 O3 Z Z) (js (jf F170_1 Z) (js (jl k1 O3 Z Z) (js (jbu (v := .agg #[.int .i64 14,.int .i64 ((ix (things3 f) i).Block),.int .i64 ((ix (things3 f) i).Place)]) Z (fun _=>by kernel_rfl)) (jsta k3 Z165 Z Z Z ⟨Z,Z,Z,trivial⟩ (saf Z) (jn (jx (jrt (jbr ?_)))))))))))
 refine jtr (jtr (jbr (jbr (jtr (jtr (jbr (jtr ?_)))))))
 exact jrc Z Z k0 A165 Z165 ⟨(14,(ix (things3 f) i).Block,(ix (things3 f) i).Place),⟨fun h=>absurd (show((14:Int))=0 from h) (by decide),fun h=>absurd h (fun h=>by have h7:=hc9;(try simp at h7);have h8:=(h.1 _ (ix_mem (l:=things3 f) (i:=i) (by omega))).to h7.1 _ (ix_mem (l:=(ix f.Blocks (Int.toNat (ix (things3 f) i).Block)).Term.To) (i:=m3) (by omega));have h9:=hc10;(try simp at h9);omega)⟩⟩ Z dn (fun _ _=>kn)
 refine jsk (jbn (jx (jr (jm Z (js (jadd Z Z (by omega)) (ja Z (jn ?_)))))))
 exact jag (m3+1) ⟨by omega,all_nx9 (by simp at hc9;omega) hO9 (by have h9:=hc10;(try simp at h9);omega)⟩ (dc d0 (dc d1 (dc d2 (dc d3 dn)))) (kd (kd (kc k0 kn))) ⟨Z,Z,Z,Z,Z,Z,Z,Z,eqI (by omega),trivial⟩
 refine jex (jtx (jtx (jbh (jbn (jx (jr (jm Z (js (jadd Z Z (by omega)) (ja Z (jn ?_))))))))))
 exact jag (i+1,se8) ⟨by dsimp only;omega,lt_nx9 hT9 ⟨hop,fun h=>by have h9:=hc4;(try simp[h] at h9);simpa using h9,all_end9 hR9 (by omega),fun h=>all_end9 hO9 (by have h9:=hc9;(try simp[h] at h9);omega)⟩,by dsimp only;rw[←mkT_take (by omega) (show(ix (things3 f) i).Makes.length≤m2 by omega)];exact hS8,by dsimp only;rw[←mkT_take (by omega) (show(ix (things3 f) i).Makes.length≤m2 by omega)];exact hN8,hsl8⟩ (dc d2 (dc d3 dn)) (kc k2 (kc k2 (kc k2 kn))) ⟨Z,Z,Z,Z,eqI (by omega),trivial⟩
 refine jex (jtx (jtx (jbh (jx (jq (jr (js (jbu (v := .agg #[.int .i64 0,.int .i64 0,.int .i64 0]) Z (fun _=>by kernel_rfl)) (jsta k1 Z165 Z Z Z ⟨Z,Z,Z,trivial⟩ (saf Z) (jn (jx (jrt ?_)))))))))))
 exact jrc Z Z k0 A165 Z165 ⟨(0,0,0),⟨fun _=>⟨all_ix (fun j hj=>hT9 j (by omega)),by have h9:=hN9;rwa[List.take_of_length_le (by omega)] at h9⟩,fun _=>rfl⟩⟩ Z dn (fun _ _=>kn)
end Go.Proofs.YtmfkkodnghambaaGreat
namespace Go.JE
variable{P:Program}{n:Fs}{w0:World}{Q:Exit→Act→World→Prop}{e:Env}{H:Heap}
theorem resolve_fn{ρ:Operand→Value}{x:Operand}{t:TypeId}{f:FuncId}{lb:Array Value}(h:ρ x = .func (.func f) #[] lb)(w:World):(resolve ρ { callee := .value x,args:=#[],argTypes:=#[] } t).run P w = .ok { target := .fn (.func f) lb,args:=#[] } w:=by
 simp[resolve,h,Deferred.ofValue]
theorem LF.dfr{ops:Array Oper}{x:Operand}{ty:TypeId}{pos:String}{af:Array Edge}{rest:List Oper}{f:FuncId}{lb:Array Value}(hx:ev e x=some (.func (.func f) #[] lb))
  (K:LF P ⟨n.sz,{ target := .fn (.func f) lb,args:=#[] }::n.ds⟩ w0 ops Q e rest H):LF P n w0 ops Q e (⟨none,.defer { callee := .value x,args:=#[],argTypes:=#[] },ty,pos,af,none⟩::rest) H:=by
 intro a w hf hw
 refine wpList_plain rfl fun K' hK'=>?_
 unfold Oper.wp
 have hr:(execOp a.eval ⟨none,.defer { callee := .value x,args:=#[],argTypes:=#[] },ty,pos,af,none⟩).run P w = .ok (.defer { target := .fn (.func f) lb,args:=#[] }) w:=by
  simp[execOp,resolve_fn (hf.ev hx)]
 rw[hr]
 exact hK' _ _ (K _ _ ⟨hf.size,by show _::a.defers=_;rw[hf.defers],hf.get⟩ hw)
theorem invoke_fn{f:FuncId}{lb:Array Value}(hE:Ent P f)(w:World):(invoke (.fn (.func f) lb) #[]).run P w = .ok (.enter f lb) w:=by
 simp only[invoke]
 rw[show(#[]++lb:Array Value)=lb by simp]
 exact hE.run lb w
theorem OpOk.eqlIf{T T':TypeId}{x:Operand}(hT:P.underlying T=some (.interface #[]))(hx:ev e x=some .nilIface):OpOk P e (.binOp .eql T x (.const .nilIface) T') H (.bool true):=by
 intro ρ o w ho hev _
 have h1:∀d,(Op.equalIn (d+1) T .nilIface .nilIface).run P w = .ok true w:=fun d=>by
  simp only[Op.equalIn,Sem.run_bind,run_underlying hT,Result.andThen_ok];rfl
 have h2:(Op.equal T .nilIface .nilIface).run P w = .ok true w:=h1 9999
 have h3:∀d,(Op.eqGuardIn (d+1) T .nilIface .nilIface).run P w = .ok false w:=fun d=>by
  simp only[Op.eqGuardIn,Sem.run_bind,run_underlying hT,Result.andThen_ok];rfl
 have hy:ρ (.const .nilIface) = .nilIface:=hev _ _ rfl
 simp only[execOp,ho,hev _ _ hx,hy,eqGuard,binOp]
 simp[h2,h3]
theorem callsD_quiet{f:FuncId}{fn:Func}{args:List Value}{id d m:Nat}{ty:TypeId}{pos:String}{af:Array Edge}{c:Code}{R:Value→Heap→Prop}{w:World}(hf:P.funcs[f]? = some fn)
  (hb:fn.body=some (.seq (.region id #[⟨some d,.call { callee := .builtin .recover,args:=#[],argTypes:=#[] },ty,pos,af,none⟩] false) c)) (hn:fn.ntmps=m) (ha:Nat.ble args.length m=true) (hd:Nat.blt d m=true)
  (h:CF P ⟨m,[]⟩ w (BQ P fn w R) ((d,.nilIface)::number 0 args) c w.heap) :
  CallsD P f args.toArray .returning w fun x u' w'=>u' = .returning∧∃v,x = .returned v∧w'.os=w.os∧w'.tape=w.tape∧w'.output=w.output∧R v w'.heap:=by
 refine callsD_of_wpS hf hb fun c₀ cs hu=>wpS_seq (wpS_region ?_)
 have hl:List.range (#[(⟨some d,.call { callee := .builtin .recover,args:=#[],argTypes:=#[] },ty,pos,af,none⟩:Oper)]).size=[0]:=rfl
 rw[hl]
 have ha':args.length≤m:=by simpa[Nat.ble_eq] using ha
 have hfr:Fr ⟨m,[]⟩ (number 0 args) { tmps:=args.toArray++Array.replicate (fn.ntmps-args.toArray.size) undef,defers:=[] }:=by
  refine⟨by simp[hn];omega,rfl,fun t v hv=>?_⟩
  obtain⟨i,h1,h2⟩:=lk_number args 0 t v hv
  have hi:i<args.length:=(List.getElem?_eq_some_iff.1 h2).1
  have e1:t=i:=by omega
  subst e1
  simp only[Array.getD_eq_getD_getElem?]
  rw[Array.getElem?_append_left (by simpa using hi)]
  simp[h2]
 have hrun:∀ρ,(execOp ρ (⟨some d,.call { callee := .builtin .recover,args:=#[],argTypes:=#[] },ty,pos,af,none⟩:Oper)).run P w = .ok .recover w:=fun ρ=>by
  simp[execOp,resolve,invoke,builtin]
 have hrec:recoverD (c₀::cs)=none:=by simp[recoverD,hu]
 simp only[wpOpsS,List.getElem?_toArray,List.getElem?_cons_zero,Region.wanted,if_true,hrun,hrec]
 have h2:=h _ _ (hfr.put hd .nilIface) ⟨rfl,rfl,rfl,rfl⟩
 refine wpS_of_wp (Code.wp_mono ?_ h2)
 intro x a' w' hq
 cases x with
 | normal=>obtain⟨h1,v,h3,h4⟩:=hq;exact⟨h1,.returning,by rw[←hu],v,h3,rfl,v,rfl,by obtain⟨_,e,h5⟩:=h4;injection e with e;subst e;exact h5⟩
 | ret=>obtain⟨h1,v,h3,h4⟩:=hq;exact⟨h1,.returning,by rw[←hu],v,h3,rfl,v,rfl,by obtain⟨_,e,h5⟩:=h4;injection e with e;subst e;exact h5⟩
 | panic ch=>obtain⟨_,_,e,_⟩:=hq;cases e
 | exit i=>exact hq
 | goto l=>exact hq
 | outgrown=>obtain⟨_,e,_⟩:=hq;cases e
def BQD(P:Program)(fn:Func)(w0:World)(R:Value→Heap→Prop):Exit→Act→World→Prop :=
 bodyPostD P fn fun x w'=>∃v,x = .returned v∧w'.os=w0.os∧w'.tape=w0.tape∧w'.output=w0.output∧R v w'.heap
theorem Ct.enterD{f:FuncId}{fn:Func}{c:Code}{args:List Value}{m:Nat}{R:Value→Heap→Prop}(hf:P.funcs[f]? = some fn)(hb:fn.body=some c)(hn:fn.ntmps=m)(ha:Nat.ble args.length m=true)
  (h:∀w0:World,w0.heap=H→CF P ⟨m,[]⟩ w0 (BQD P fn w0 R) (number 0 args) c H):Ct P f args.toArray H R:=by
 intro w hw
 refine calls_of_wp_defers hf hb ?_
 have ha':args.length≤m:=by simpa[Nat.ble_eq] using ha
 refine h w hw _ w ⟨by simp[hn];omega,rfl,fun t v hv=>?_⟩ ⟨hw,rfl,rfl,rfl⟩
 obtain⟨i,h1,h2⟩:=lk_number args 0 t v hv
 have hi:i<args.length:=(List.getElem?_eq_some_iff.1 h2).1
 have e1:t=i:=by omega
 subst e1
 simp only[Array.getD_eq_getD_getElem?]
 rw[Array.getElem?_append_left (by simpa using hi)]
 simp[h2]
theorem results_cell3{fn:Func}{p q r g g' g'':Nat}{ty ty' ty'':TypeId}{v v' v'':Value}(h:fn.results=#[.cell p ty,.cell q ty',.cell r ty''])(tmps:Array Value)(w:World)(hp:tmps.getD p undef = .pointer (some ⟨g,0,none⟩))(hO:One P ty)(hc:w.cell? ⟨g,0,none⟩=some v)
  (hp':tmps.getD q undef = .pointer (some ⟨g',0,none⟩)) (hO':One P ty') (hc':w.cell? ⟨g',0,none⟩=some v') (hp'':tmps.getD r undef = .pointer (some ⟨g'',0,none⟩)) (hO'':One P ty'') (hc'':w.cell? ⟨g'',0,none⟩=some v'') :
  (results fn tmps).run P w = .ok (.tuple #[v,v',v'']) w:=by
 have h1:tmps[p]?.getD undef = .pointer (some ⟨g,0,none⟩):=by simpa using hp
 have h2:tmps[q]?.getD undef = .pointer (some ⟨g',0,none⟩):=by simpa using hp'
 have h3:tmps[r]?.getD undef = .pointer (some ⟨g'',0,none⟩):=by simpa using hp''
 simp[results,h,h1,h2,h3,asAddr,loadVar,hO.run,hO'.run,hO''.run,hc,hc',hc'']
theorem PF.retD{fn:Func}{m f:Nat}{lb:Array Value}{R:Value→Heap→Prop}{v:Value}(hE:Ent P f)(hc:∀w:World,w.heap=H→CallsD P f lb .returning w fun x u' w'=>u' = .returning∧∃v',x = .returned v'∧w'.os=w.os∧w'.tape=w.tape∧w'.output=w.output∧w'.heap=H)
  (hr:∀(a:Act) (w:World),Fr ⟨m,[{ target := .fn (.func f) lb,args:=#[] }]⟩ e a→w.heap=H→(results fn a.tmps).run P w = .ok v w) (hR:R v H):PF ⟨m,[{ target := .fn (.func f) lb,args:=#[] }]⟩ w0 (BQD P fn w0 R) e .ret H:=by
 intro a w hf hw
 show Leaves P fn a.tmps _ a.defers .returning w
 rw[hf.defers]
 refine leaves_cons (by simp) (invoke_fn hE w) ((hc w hw.heap).mono ?_)
 rintro x u' w' ⟨rfl,v',rfl,h1,h2,h3,h4⟩
 exact⟨v,hr a w' hf h4,v,rfl,h1.trans hw.os,h2.trans hw.tape,h3.trans hw.output,h4▸hR⟩
section
variable{f:FuncId}{fn:Func}{c:Code}{args:List Value}{D D0:List Dt}{L L0 M:List Res}{X:Cx}{ι:Type}{val:ι→Value}{dr:ι→List Dt}{lr:Nat→ι→List Res}
def RQD(P:Program)(fn:Func)(w0:World)(X:Cx){ι:Type}(val:ι→Value)(dr:ι→List Dt)(lr:Nat→ι→List Res):Exit→Act→World→Prop:=BQD P fn w0 (fun v H'=>∃i F',v=val i∧∀B,B≤X.n→Hp X (dr i) (lr B i) F' H')
theorem jenterD{m:Nat}(hf:P.funcs[f]? = some fn)(hb:fn.body=some c)(hn:fn.ntmps=m)(ha:Nat.ble args.length m=true)
  (h:∀(w0:World) (X:Cx),CH P ⟨m,[]⟩ w0 (RQD P fn w0 X val dr lr) X D0 L0 (number 0 args) c):Tr P f args.toArray D0 L0 val dr lr:=fun F H hin hd ho =>
 Ct.enterD hf hb hn ha fun w0 hw=>h w0 ⟨Own L0,H,F⟩ F H ⟨PH.ext.refl F,hin,Kw.refl _ _,hd,ho,fun k hk => .inr hk⟩
theorem jdf{ops:Array Oper}{x:Operand}{ty:TypeId}{pos:String}{af:Array Edge}{rest:List Oper}{f:FuncId}{lb:Array Value}(hx:ev e x=some (.func (.func f) #[] lb))
 (K:LH P ⟨n.sz,{ target := .fn (.func f) lb,args:=#[] }::n.ds⟩ w0 ops Q X D L e rest):LH P n w0 ops Q X D L e (⟨none,.defer { callee := .value x,args:=#[],argTypes:=#[] },ty,pos,af,none⟩::rest):=fun F H hp=>LF.dfr hx (K F H hp)
theorem jrD3{m f':Nat}{lb:Array Value}{p q r g g' g'':Nat}{ty ty' ty'' T T' T'':TypeId}{v v' v'':Value}{N N' N'':List Res}(hr:fn.results=#[.cell p ty,.cell q ty',.cell r ty''])(hv:lk e p=some (.pointer (some ⟨g,0,none⟩)))(hv':lk e q=some (.pointer (some ⟨g',0,none⟩)))(hv'':lk e r=some (.pointer (some ⟨g'',0,none⟩)))
  (hb:Tk L (bx g T [v]) N) (hO:One P ty) (hb':Tk L (bx g' T' [v']) N') (hO':One P ty') (hb'':Tk L (bx g'' T'' [v'']) N'') (hO'':One P ty'') (hE:Ent P f')
  (hc:∀w:World,CallsD P f' lb .returning w fun x u' w'=>u' = .returning∧∃v',x = .returned v'∧w'.os=w.os∧w'.tape=w.tape∧w'.output=w.output∧w'.heap=w.heap)
  (i:ι) (hm : .tuple #[v,v',v'']=val i) (hd:Sd D L (dr i)) (hk:∀B,B≤X.n→Tks L (lr B i) M):QH ⟨m,[{ target := .fn (.func f') lb,args:=#[] }]⟩ w0 (RQD P fn w0 X val dr lr) X D L e .ret:=fun F H hp =>
 PF.retD hE (fun w hw=>by have h:=hc w;rw[hw] at h;exact h) (fun a w hf hw=>results_cell3 hr _ w (hf.get p _ hv) hO (by rw[cell_hc,hw];exact(hp.at hb).1.hc rfl) (hf.get q _ hv') hO' (by rw[cell_hc,hw];exact(hp.at hb').1.hc rfl) (hf.get r _ hv'') hO'' (by rw[cell_hc,hw];exact(hp.at hb'').1.hc rfl)) ⟨i,F,hm,fun B hB=>hp.sub hd (hk B hB)⟩
end
end Go.JE
namespace Go.JE
variable{P:Program}{D D0:List Dt}{L M Ls L0:List Res}{e:Env}{X:Cx}{n:Fs}{w0:World}{Q:Exit→Act→World→Prop}
def VmR(l:List (Int×Value))(V:Int→Int):Prop:=∀k,(lkM l k).getD (.int .i32 0) = .int .i32 (V k)
def vm(g:Nat)(V:Int→Int):Res where
 sat F H:=((∃l,Im H g l∧VmR l V)∧∀k,IntKind.i32.wrap (V k)=V k)∧F g=none
 own k:=k=g
 lt:=fun⟨⟨⟨l,h,_⟩,_⟩,_⟩ e=>e▸h.lt
 no:=fun h e=>e▸h.2
 st:=fun _ _ h1 h2 ⟨⟨⟨l,h,h3⟩,h4⟩,_⟩=>⟨⟨⟨l,h.of (h2 g rfl),h3⟩,h4⟩,h1 g rfl⟩
def vme(g:Nat)(V:Int→Int)(k:Int)(st:Nat):Res where
 sat F H:=((∃l,ImS H g l k st∧VmR l V)∧∀k,IntKind.i32.wrap (V k)=V k)∧F g=none
 own k:=k=g
 lt:=fun⟨⟨⟨l,h,_⟩,_⟩,_⟩ e=>e▸h.im.lt
 no:=fun h e=>e▸h.2
 st:=fun _ _ h1 h2 ⟨⟨⟨l,h,h3⟩,h4⟩,_⟩=>⟨⟨⟨l,h.of (h2 g rfl),h3⟩,h4⟩,h1 g rfl⟩
def setV(V:Int→Int)(k v:Int):Int→Int:=fun j=>if j=k then v else V j
theorem VmR.up{l:List (Int×Value)}{V:Int→Int}(h:VmR l V)(k v:Int):VmR (upM l k (.int .i32 v)) (setV V k v):=fun j=>by
 rw[upM_lk];unfold setV
 split
 ·rfl
 ·exact h j
theorem VmR.ins{l:List (Int×Value)}{V:Int→Int}(h:VmR l V)(k:Int):VmR (insM l k (.int .i32 0)) V:=fun j=>by
 have hj:=h j
 unfold insM
 split
 ·exact hj
 ·rename_i hk
  have e:lkM (l++[(k,Value.int .i32 0)]) j=(lkM l j).or (lkM [(k,Value.int .i32 0)] j):=by
   unfold lkM;rw[List.find?_append];cases List.find? (fun p=>p.1==j) l<;>rfl
  rw[e]
  cases h1:lkM l j with
  | some u=>rw[h1] at hj;exact hj
  | none =>
   rw[h1] at hj
   rw[←hj]
   unfold lkM
   simp only[List.find?_cons,List.find?_nil]
   cases k==j<;>rfl
theorem setV_wr{V:Int→Int}(h:∀k,IntKind.i32.wrap (V k)=V k){k v:Int}(hv:IntKind.i32.wrap v=v):∀j,IntKind.i32.wrap (setV V k v j)=setV V k v j:=fun j=>by
 unfold setV;split
 ·exact hv
 ·exact h j
def encW(nx:List (Int×Int)):List (Int×Value):=nx.map (fun p=>(p.1,.int .i32 p.2))
def nm(g:Nat)(nx:List (Int×Int)):Res:=im g (encW nx)
def upW:List (Int×Int)→Int→Int→List (Int×Int)
 | [],k,v=>[(k,v)]
 | p::r,k,v=>if p.1==k then (k,v)::r else p::upW r k v
theorem enc_up:∀(nx:List (Int×Int)) (k v:Int),upM (encW nx) k (.int .i32 v)=encW (upW nx k v)
 | [],k,v=>rfl
 | p::r,k,v=>by
  show upM ((p.1,.int .i32 p.2)::encW r) k (.int .i32 v)=encW (if p.1==k then (k,v)::r else p::upW r k v)
  unfold upM
  split
  ·rfl
  ·rw[enc_up r k v];rfl
def mit(r g:Nat)(nx:List (Int×Int))(vis:List Int):Res where
 sat F H:=(It H r g (encW nx) vis∧r≠g)∧F r=none∧F g=none
 own k:=k=r∨k=g
 lt:=fun⟨⟨h,_⟩,_⟩ e=>by
  rcases e with e|e
  ·obtain⟨es,c,seen,_,_,h3,_⟩:=h
   rw[e];exact(Array.getElem?_eq_some_iff.1 h3).1
  ·rw[e];exact h.im.lt
 no:=fun h e=>by rcases e with e|e<;>rw[e];exact h.2.1;exact h.2.2
 st:=fun _ _ h1 h2 ⟨⟨h,h3⟩,_⟩=>⟨⟨h.of (h2 r (.inl rfl)) (h2 g (.inr rfl)),h3⟩,h1 r (.inl rfl),h1 g (.inr rfl)⟩
section
variable{ops:Array Oper}{op:Op}{d:Nat}{ty:TypeId}{pos:String}{af:Array Edge}{rest:List Oper}{T T' K E:TypeId}{x y z:Operand}{g r st:Nat}{V:Int→Int}{k v:Int}{nx:List (Int×Int)}{vis:List Int}{u:Value}
theorem jvn(kk:∀g,LH P n w0 ops Q X D (vm g (fun _=>0)::L) ((d,.map (some g))::e) rest)(hd:Nat.blt d n.sz=true:=by rfl):LH P n w0 ops Q X D L e (⟨some d,.makeMap T none,ty,pos,af,none⟩::rest):=fun F H hp =>
 LF.chg OpCh.makeMapB (by rintro _ H' ⟨g,rfl,eg,sg,kg,hb⟩;exact kk g F H' (hp.new (R:=vm g (fun _=>0)) kg ⟨⟨⟨[],hb,fun _=>rfl⟩,fun _=>by show IntKind.i32.wrap 0=0;decide⟩,hp.hin.nope (Nat.le_of_eq eg.symm)⟩ (fun k hk=>by have:k=g:=hk;omega))) hd
theorem jvk(hT:P.underlying T=some (.map K E))(hK:P.underlying K=some (.int .i64))(hz:(P.info? E).bind (·.zero)=some (.int .i32 0))(hm:Tk L (vm g V) M)(hx:ev e x=some (.map (some g)))(hi:ev e z=some (.int .i64 k)):OH P D L e (.lookup T x z false) (.int .i32 (V k)):=fun F H h1 h2 h=>by
 obtain⟨⟨⟨l,h3,h4⟩,_⟩,_⟩:=(hm.ok h).1
 rw[←h4 k];exact OpOk.lookup hT hK hz h3 hx hi
theorem Tw.kwv{H H':Heap}(h:Tw g H H'):Kw (vm g V).own H H':=⟨Nat.le_of_eq h.1.symm,fun k _ h2=>h.2 k h2⟩
theorem jvu(hT:P.underlying T=some (.map K E))(hK:P.underlying K=some (.int .i64))(hm:Tk L (vm g V) M)(hx:ev e x=some (.map (some g)))(hi:ev e z=some (.int .i64 k))(hy:ev e y=some (.int .i32 v))(hw:Wr D L .i32 v)
  (kk:LH P n w0 ops Q X D (vm g (setV V k v)::M) e rest):LH P n w0 ops Q X D L e (⟨none,.mapUpdate T x z y,ty,pos,af,none⟩::rest):=fun F H hp=>by
 obtain⟨⟨⟨l,h3,h4⟩,h5⟩,h6⟩:=hp.at hm
 have h7:=hw F H hp.hin hp.hd hp.ok
 exact LF.chg0 (OpCh.mapUpdate hT hK h3 hx hi hy) (by rintro _ H' ⟨m,t⟩;exact kk F H' (hp.set (R':=vm g (setV V k v)) hm t.kwv ⟨⟨⟨_,m,h4.up k v⟩,setV_wr h5 h7⟩,h6⟩ (fun k h => .inr h)))
theorem jve(hT:P.underlying T=some (.map K E))(hK:P.underlying K=some (.int .i64))(hz:(P.info? E).bind (·.zero)=some (.int .i32 0))(hm:Tk L (vm g V) M)(hx:ev e x=some (.map (some g)))(hi:ev e z=some (.int .i64 k))
  (kk:∀(u:Value) (st:Nat),LH P n w0 ops Q X D (vme g V k st::M) ((d,.tuple #[u,.int .i64 st])::e) rest) (hd:Nat.blt d n.sz=true:=by rfl):LH P n w0 ops Q X D L e (⟨some d,.mapEntry T x z,ty,pos,af,none⟩::rest):=fun F H hp=>by
 obtain⟨⟨⟨l,h3,h4⟩,h5⟩,h6⟩:=hp.at hm
 exact LF.chg (OpCh.mapEntry hT hK hz h3 hx hi) (by rintro _ H' ⟨st,rfl,m,t⟩;exact kk _ st F H' (hp.set (R':=vme g V k st) hm t.kwv ⟨⟨⟨_,m,h4.ins k⟩,h5⟩,h6⟩ (fun k h => .inr h))) hd
theorem jvs(hm:Tk L (vme g V k st) M)(hx:ev e x=some (.map (some g)))(hi:ev e z=some (.int .i64 st))(hy:ev e y=some (.int .i32 v))(hw:Wr D L .i32 v)
  (kk:LH P n w0 ops Q X D (vm g (setV V k v)::M) e rest):LH P n w0 ops Q X D L e (⟨none,.entryStore T x z y,ty,pos,af,none⟩::rest):=fun F H hp=>by
 obtain⟨⟨⟨l,h3,h4⟩,h5⟩,h6⟩:=hp.at hm
 have h7:=hw F H hp.hin hp.hd hp.ok
 exact LF.chg0 (OpCh.entryStore h3 hx hi hy) (by rintro _ H' ⟨m,t⟩;exact kk F H' (hp.set (R':=vm g (setV V k v)) hm (t.kwv (V:=V)) ⟨⟨⟨_,m,h4.up k v⟩,setV_wr h5 h7⟩,h6⟩ (fun k h => .inr h)))
theorem jvw(hm:Tk L (vm g V) M)(kk:(∀k,IntKind.i32.wrap (V k)=V k)→LH P n w0 ops Q X D L e rest):LH P n w0 ops Q X D L e rest:=fun F H hp=>kk (hp.at hm).1.2 F H hp
theorem cvw{c:Code}(hm:Tk L (vm g V) M)(kk:(∀k,IntKind.i32.wrap (V k)=V k)→CH P n w0 Q X D L e c):CH P n w0 Q X D L e c:=fun F H hp=>kk (hp.at hm).1.2 F H hp
theorem jnn(kk:∀g,LH P n w0 ops Q X D (nm g []::L) ((d,.map (some g))::e) rest)(hd:Nat.blt d n.sz=true:=by rfl):LH P n w0 ops Q X D L e (⟨some d,.makeMap T none,ty,pos,af,none⟩::rest):=jmm kk hd
theorem jnu(hT:P.underlying T=some (.map K E))(hK:P.underlying K=some (.int .i64))(hm:Tk L (nm g nx) M)(hx:ev e x=some (.map (some g)))(hi:ev e z=some (.int .i64 k))(hy:ev e y=some (.int .i32 v))
 (kk:LH P n w0 ops Q X D (nm g (upW nx k v)::M) e rest):LH P n w0 ops Q X D L e (⟨none,.mapUpdate T x z y,ty,pos,af,none⟩::rest):=jup hT hK hm hx hi hy (enc_up nx k v) kk
theorem jri(hT:P.underlying T=some (.map K E))(hm:Tk L (nm g nx) M)(hx:ev e x=some (.map (some g)))(kk:∀r,LH P n w0 ops Q X D (mit r g nx []::M) ((d,.pointer (some ⟨r,0,none⟩))::e) rest)(hd:Nat.blt d n.sz=true:=by rfl):LH P n w0 ops Q X D L e (⟨some d,.range T x,ty,pos,af,none⟩::rest):=fun F H hp=>by
 obtain⟨h3,h4⟩:=hp.at hm
 refine LF.chg (OpCh.range hT h3 hx) ?_ hd
 rintro _ H' ⟨rfl,h5,h6,h7⟩
 have hgl:=h3.lt
 refine kk H.size F H' (hp.set (R':=mit H.size g nx []) hm ⟨by omega,fun k h1 _=>h7 k h1⟩ ⟨⟨h5,by omega⟩,hp.hin.nope (Nat.le_refl _),h4⟩ (fun k hk=>?_))
 rcases hk with hk|hk
 ·exact .inl (by omega)
 ·exact .inr hk
theorem jni(hk:Tk L (mit r g nx vis) M)(hx:ev e x=some (.pointer (some ⟨r,0,none⟩)))
  (k1:(∀p∈nx,p.1∈vis)→LH P n w0 ops Q X D (mit r g nx vis::M) ((d,.tuple #[.bool false])::e) rest)
  (k2:∀k v,(k,v)∈nx→k∉vis→LH P n w0 ops Q X D (mit r g nx (vis++[k])::M) ((d,.tuple #[.bool true,.int .i64 k,.int .i32 v])::e) rest) (hd:Nat.blt d n.sz=true:=by rfl) :
  LH P n w0 ops Q X D L e (⟨some d,.next x false,ty,pos,af,none⟩::rest):=fun F H hp=>by
 obtain⟨⟨h1,h2⟩,h3,h4⟩:=hp.at hk
 refine LF.chg (OpCh.next h2 h1 hx) ?_ hd
 rintro _ H' (⟨rfl,h5,rfl⟩|⟨k,w,rfl,h5,h6,h7,h8⟩)
 ·refine k1 (fun p hp=>h5 p.1 ?_) F H' (hp.set (R':=mit r g nx vis) hk (Kw.refl _ _) ⟨⟨h1,h2⟩,h3,h4⟩ (fun k h => .inr h))
  exact List.mem_map.2 ⟨(p.1,.int .i32 p.2),List.mem_map.2 ⟨p,hp,rfl⟩,rfl⟩
 ·obtain⟨p,h9,h10⟩:=List.mem_map.1 h5
  injection h10 with h10 h11
  subst h10;subst h11
  exact k2 p.1 p.2 h9 h6 F H' (hp.set (R':=mit r g nx (vis++[p.1])) hk ⟨Nat.le_of_eq h8.1.symm,fun k _ h2=>h8.2 k (fun e=>h2 (.inl e))⟩ ⟨⟨h7,h2⟩,h3,h4⟩ (fun k h => .inr h))
theorem jei(hk:Tk L (mit r g nx (vis++[k])) M)(hi:(k,v)∈nx)(hx:ev e x=some (.pointer (some ⟨r,0,none⟩))):OH P D L e (.entry x) (.tuple #[.int .i64 k,.int .i32 v]):=fun F H h1 h2 h3=>by
 obtain⟨⟨h4,_⟩,_⟩:=(hk.ok h3).1
 exact OpOk.entry h4 (List.mem_map.2 ⟨_,hi,rfl⟩) hx
end
end Go.JE
namespace Go.JE
variable{P:Program}{D D0:List Dt}{L M Ls L0:List Res}{e:Env}{X:Cx}{n:Fs}{w0:World}{Q:Exit→Act→World→Prop}{F:PH}{H:Heap}
abbrev Chn:=List PanicEntry
def Ct2(P:Program)(f:FuncId)(args:Array Value)(H:Heap)(R:Value→Heap→Prop)(E:Chn→Heap→Prop):Prop :=
 ∀w,w.heap=H→Calls P f args w fun x w'=>(w'.os=w.os∧w'.tape=w.tape∧w'.output=w.output)∧((∃v,x = .returned v∧R v w'.heap)∨∃c,x = .panicked c∧E c w'.heap)
def BQ3(P:Program)(fn:Func)(w0:World)(R:Value→Heap→Prop)(E:Chn→Heap→Prop):Exit→Act→World→Prop :=
 bodyPost P fn fun x w'=>(w'.os=w0.os∧w'.tape=w0.tape∧w'.output=w0.output)∧((∃v,x = .returned v∧R v w'.heap)∨∃c,x = .panicked c∧E c w'.heap)
theorem Ct2.mono{f:FuncId}{args:Array Value}{R R':Value→Heap→Prop}{E E':Chn→Heap→Prop}(h:Ct2 P f args H R E)(hr:∀v H',R v H'→R' v H')(he:∀c H',E c H'→E' c H'):Ct2 P f args H R' E' :=
 fun w hw=>(h w hw).mono fun _ _ ⟨a,b⟩=>⟨a,b.imp (fun⟨v,x,y⟩=>⟨v,x,hr _ _ y⟩) (fun⟨c,x,y⟩=>⟨c,x,he _ _ y⟩)⟩
theorem Ct2.enter{f:FuncId}{fn:Func}{c:Code}{R:Value→Heap→Prop}{E:Chn→Heap→Prop}{args:List Value}{n:Nat}(hf:P.funcs[f]? = some fn)(hb:fn.body=some c)(hn:fn.ntmps=n)(ha:Nat.ble args.length n=true)
  (h:∀w0:World,w0.heap=H→CF P ⟨n,[]⟩ w0 (BQ3 P fn w0 R E) (number 0 args) c H):Ct2 P f args.toArray H R E:=by
 intro w hw
 refine calls_of_wp hf hb ?_
 have ha':args.length≤n:=by simpa[Nat.ble_eq] using ha
 refine h w hw _ w ⟨?_,rfl,?_⟩ ⟨hw,rfl,rfl,rfl⟩
 ·simp[hn];omega
 ·intro t v hv
  obtain⟨i,h1,h2⟩:=lk_number args 0 t v hv
  have hi:i<args.length:=(List.getElem?_eq_some_iff.1 h2).1
  have e1:t=i:=by omega
  subst e1
  simp only[Array.getD_eq_getD_getElem?]
  rw[Array.getElem?_append_left (by simpa using hi)]
  simp[h2]
def Px(E:Chn→Prop)(X:Cx):Chn→Heap→Prop:=fun c H=>E c∧Kw X.W X.H H∧InH X.F H
def Trx(P:Program)(f:FuncId)(args:Array Value)(D0:List Dt)(L0:List Res){ι:Type}(val:ι→Value)(dr:ι→List Dt)(lr:Nat→ι→List Res)(E:Chn→Prop):Prop :=
 ∀F H,InH F H→AllD F D0→Ok F H L0→Ct2 P f args H (fun v H'=>∃i F',v=val i∧∀B,B≤H.size→Hp ⟨Own L0,H,F⟩ (dr i) (lr B i) F' H') (Px E ⟨Own L0,H,F⟩)
section
variable{f:FuncId}{fn:Func}{c:Code}{ι:Type}{val:ι→Value}{dr:ι→List Dt}{lr:Nat→ι→List Res}{E E':Chn→Prop}
def RQX(P:Program)(fn:Func)(w0:World)(X:Cx){ι:Type}(val:ι→Value)(dr:ι→List Dt)(lr:Nat→ι→List Res)(E:Chn→Prop):Exit→Act→World→Prop:=BQ3 P fn w0 (fun v H'=>∃i F',v=val i∧∀B,B≤X.n→Hp X (dr i) (lr B i) F' H') (Px E X)
theorem xenter{args:List Value}{m:Nat}(hf:P.funcs[f]? = some fn)(hb:fn.body=some c)(hn:fn.ntmps=m)(ha:Nat.ble args.length m=true)
  (h:∀(w0:World) (X:Cx),CH P ⟨m,[]⟩ w0 (RQX P fn w0 X val dr lr E) X D0 L0 (number 0 args) c):Trx P f args.toArray D0 L0 val dr lr E:=fun F H hin hd ho =>
 Ct2.enter hf hb hn ha fun w0 hw=>h w0 ⟨Own L0,H,F⟩ F H ⟨PH.ext.refl F,hin,Kw.refl _ _,hd,ho,fun k hk => .inr hk⟩
theorem xret{m:Nat}(h:QH ⟨m,[]⟩ w0 (RQ2 P fn w0 X val dr lr) X D L e .ret):QH ⟨m,[]⟩ w0 (RQX P fn w0 X val dr lr E) X D L e .ret:=fun F H hp a w hf hw=>by
 obtain⟨h1,v,h2,v',h3,h4,h5,h6,h7⟩:=h F H hp a w hf hw
 exact⟨h1,v,h2,⟨h4,h5,h6⟩,.inl ⟨v',h3,h7⟩⟩
theorem xnor{m:Nat}(h:QH ⟨m,[]⟩ w0 (RQ2 P fn w0 X val dr lr) X D L e .normal):QH ⟨m,[]⟩ w0 (RQX P fn w0 X val dr lr E) X D L e .normal:=fun F H hp a w hf hw=>by
 obtain⟨h1,v,h2,v',h3,h4,h5,h6,h7⟩:=h F H hp a w hf hw
 exact⟨h1,v,h2,⟨h4,h5,h6⟩,.inl ⟨v',h3,h7⟩⟩
theorem xpan{m:Nat}{ch:Chn}(h:E ch):QH ⟨m,[]⟩ w0 (RQX P fn w0 X val dr lr E) X D L e (.panic ch):=fun F H hp a w hf hw =>
 ⟨hf.defers,⟨hw.os,hw.tape,hw.output⟩,.inr ⟨ch,rfl,h,hw.heap▸hp.hw,hw.heap▸hp.hin.down hp.hx.1⟩⟩
theorem Trx.run{args:Array Value}{F:PH}{H:Heap}(h:Trx P f args D0 L0 val dr lr E)(hp:Hp X D L F H)(hd:Sd D L D0)(hk:Tks L L0 M):Ct2 P f args H (fun v H'=>∃i F',v=val i∧Hp X (dr i++D) (lr X.n i++M) F' H') (fun c H'=>E c∧Hp X D M F H') :=
 (h F H hp.hin (hd F H hp.hin hp.hd hp.ok) (hk.ok hp.ok).1).mono (fun v H' ⟨i,F',h1,h2⟩=>⟨i,F',h1,(fun h2=>hp.frame hk h2.hx h2.hin h2.hw h2.hd h2.ok h2.ge) (h2 X.n hp.hw.1)⟩)
  (fun c H' ⟨h1,h2,h3⟩=>⟨h1,hp.frame hk (PH.ext.refl F) h3 h2 (E:=[]) (Ls':=[]) trivial trivial (fun k h9=>h9.elim)⟩)
variable{ops:Array Oper}{op:Op}{d:Nat}{ty:TypeId}{pos:String}{af:Array Edge}{rest:List Oper}{v:Value}{g:Operand}{xs:List Operand}{vs cs:List Value}{ts:Array TypeId}{Dn:ι→List Dt}{Ln:ι→List Res}
theorem LF.callx{args:Array Value}{R:Value→Heap→Prop}{Ep:Chn→Heap→Prop}(h:OpCall P e op H f args)(hc:Ct2 P f args H R Ep)(K:∀v H',R v H'→LF P n w0 ops Q ((d,v)::e) rest H')(Kp:∀c H',Ep c H'→PF n w0 Q e (.panic c) H')(hd:Nat.blt d n.sz=true:=by rfl) :
  LF P n w0 ops Q e (⟨some d,op,ty,pos,af,none⟩::rest) H:=by
 intro a w hf hw
 refine wpList_plain rfl fun K' hK'=>?_
 unfold Oper.wp
 rw[h a.eval _ w rfl (fun x u hx=>hf.ev hx) hw.heap,Oper.upon_enter]
 refine(hc w hw.heap).mono fun x w' ⟨⟨h1,h2,h3⟩,hR⟩=>?_
 rcases hR with⟨v,rfl,hR⟩|⟨c,rfl,hR⟩
 ·exact hK' _ _ (K _ _ hR _ _ (hf.put hd v) ⟨rfl,h1.trans hw.os,h2.trans hw.tape,h3.trans hw.output⟩)
 ·exact Kp _ _ hR _ _ hf ⟨rfl,h1.trans hw.os,h2.trans hw.tape,h3.trans hw.output⟩
theorem jcx(hE:Ent P f)(hf:ev e g=some (.func (.func f) #[] cs.toArray))(hl:evl e xs=some vs)(hT:Trx P f (vs++cs).toArray D0 L0 val dr lr E)(hd:Sd D L D0)(hk:Tks L L0 M)(hp:∀i,Ap (dr i) D (Dn i))(hq:∀i,Ap (lr X.n i) M (Ln i))
  (k:∀i,LH P n w0 ops Q X (Dn i) (Ln i) ((d,val i)::e) rest) (kp:∀c,E c→QH n w0 Q X D M e (.panic c)) (hd1:Nat.blt d n.sz=true:=by rfl):LH P n w0 ops Q X D L e (⟨some d,.call { callee := .value g,args:=xs.toArray,argTypes:=ts },ty,pos,af,none⟩::rest):=fun F H h =>
 LF.callx (OpCall.fnc hE hf hl) (hT.run h hd hk) (by rintro _ H' ⟨i,F',rfl,h2⟩;exact k i F' H' (hp i▸hq i▸h2)) (fun c H' ⟨h1,h2⟩=>kp c h1 F H' h2) hd1
theorem jlkoG{T K E9:TypeId}{u v:Value}{x z:Operand}{g:Nat}{l:List (Int×Value)}{k:Int}(hT:P.underlying T=some (.map K E9))(hK:P.underlying K=some (.int .i64))(hz:(P.info? E9).bind (·.zero)=some u)(hm:Tk L (im g l) M)(hx:ev e x=some (.map (some g)))(hi:ev e z=some (.int .i64 k))(hl:(lkM l k).getD u=v):OH P D L e (.lookup T x z true) (.tuple #[v,.bool (lkM l k).isSome]):=by
 rw[←hl];exact jlko hT hK hz hm hx hi
theorem jmif{T:TypeId}{x:Operand}{dsc:TypeDesc}(hT:P.underlying T=some dsc)(hn:(match dsc with | .interface _=>true|_=>false)=false)(hx:ev e x=some v):OH P D L e (.makeInterface T x) (.iface T v):=fun F H _ _ _ ρ o w ho hev _=>by
 simp only[execOp,ho,hev _ _ hx,Instr.makeInterface,Sem.run_bind,run_underlying hT,Result.andThen_ok]
 cases dsc<;>first|(simp at hn;done)|rfl
theorem LF.pan{T:TypeId}{x:Operand}{H:Heap}(hx:ev e x=some (.iface T v))(K:PF n w0 Q e (.panic [{ v := .iface T v,recovered:=false }]) H):LF P n w0 ops Q e (⟨none,.panic x,ty,pos,af,none⟩::rest) H:=by
 intro a w hf hw
 refine wpList_plain rfl fun K' hK'=>?_
 unfold Oper.wp
 have:(execOp a.eval ⟨none,.panic x,ty,pos,af,none⟩).run P w = .halt (.panic (.iface T v)) w:=by
  simp only[execOp,hf.ev hx,Instr.panic,goPanic];rfl
 rw[this,Oper.upon_panic]
 exact K a w hf hw
theorem jpan{T:TypeId}{x:Operand}(hx:ev e x=some (.iface T v))(k:QH n w0 Q X D L e (.panic [{ v := .iface T v,recovered:=false }])):LH P n w0 ops Q X D L e (⟨none,.panic x,ty,pos,af,none⟩::rest):=fun F H hp=>LF.pan hx (k F H hp)
end
theorem callsD_catch{f:FuncId}{fn:Func}{args:List Value}{id d m:Nat}{ty:TypeId}{pos:String}{af:Array Edge}{c:Code}{R:Value→Heap→Prop}{w:World}{pv:Value}(hf:P.funcs[f]? = some fn)
  (hb:fn.body=some (.seq (.region id #[⟨some d,.call { callee := .builtin .recover,args:=#[],argTypes:=#[] },ty,pos,af,none⟩] false) c)) (hn:fn.ntmps=m) (ha:Nat.ble args.length m=true) (hd:Nat.blt d m=true)
  (h:CF P ⟨m,[]⟩ w (BQ P fn w R) ((d,pv)::number 0 args) c w.heap) :
  CallsD P f args.toArray (.panicking [{ v:=pv,recovered:=false }]) w fun x u' w'=>u' = .panicking [{ v:=pv,recovered:=true }]∧∃v,x = .returned v∧w'.os=w.os∧w'.tape=w.tape∧w'.output=w.output∧R v w'.heap:=by
 refine callsD_of_wpS hf hb fun c₀ cs hu=>wpS_seq (wpS_region ?_)
 have hl:List.range (#[(⟨some d,.call { callee := .builtin .recover,args:=#[],argTypes:=#[] },ty,pos,af,none⟩:Oper)]).size=[0]:=rfl
 rw[hl]
 have ha':args.length≤m:=by simpa[Nat.ble_eq] using ha
 have hfr:Fr ⟨m,[]⟩ (number 0 args) { tmps:=args.toArray++Array.replicate (fn.ntmps-args.toArray.size) undef,defers:=[] }:=by
  refine⟨by simp[hn];omega,rfl,fun t v hv=>?_⟩
  obtain⟨i,h1,h2⟩:=lk_number args 0 t v hv
  have hi:i<args.length:=(List.getElem?_eq_some_iff.1 h2).1
  have e1:t=i:=by omega
  subst e1
  simp only[Array.getD_eq_getD_getElem?]
  rw[Array.getElem?_append_left (by simpa using hi)]
  simp[h2]
 have hrun:∀ρ,(execOp ρ (⟨some d,.call { callee := .builtin .recover,args:=#[],argTypes:=#[] },ty,pos,af,none⟩:Oper)).run P w = .ok .recover w:=fun ρ=>by
  simp[execOp,resolve,invoke,builtin]
 have hrec:recoverD (c₀::cs)=some (pv,{ c₀ with mode := .panicking [{ v:=pv,recovered:=true }] }::cs):=by simp[recoverD,hu]
 simp only[wpOpsS,List.getElem?_toArray,List.getElem?_cons_zero,Region.wanted,if_true,hrun,hrec]
 have h2:=h _ _ (hfr.put hd pv) ⟨rfl,rfl,rfl,rfl⟩
 refine wpS_of_wp (Code.wp_mono ?_ h2)
 intro x a' w' hq
 cases x with
 | normal=>obtain⟨h1,v,h3,h4⟩:=hq;exact⟨h1,.panicking [{ v:=pv,recovered:=true }],rfl,v,h3,rfl,v,rfl,by obtain⟨_,e,h5⟩:=h4;injection e with e;subst e;exact h5⟩
 | ret=>obtain⟨h1,v,h3,h4⟩:=hq;exact⟨h1,.panicking [{ v:=pv,recovered:=true }],rfl,v,h3,rfl,v,rfl,by obtain⟨_,e,h5⟩:=h4;injection e with e;subst e;exact h5⟩
 | panic ch=>obtain⟨_,_,e,_⟩:=hq;cases e
 | exit i=>exact hq
 | goto l=>exact hq
 | outgrown=>obtain⟨_,e,_⟩:=hq;cases e
theorem PF.panD{fn:Func}{m f:Nat}{lb:Array Value}{R:Value→Heap→Prop}{RH:Heap→Prop}{v pv:Value}(hE:Ent P f)(hc:∀w:World,w.heap=H→CallsD P f lb (.panicking [{ v:=pv,recovered:=false }]) w fun x u' w'=>u' = .panicking [{ v:=pv,recovered:=true }]∧∃v',x = .returned v'∧w'.os=w.os∧w'.tape=w.tape∧w'.output=w.output∧RH w'.heap)
  (hr:∀(a:Act) (w:World),Fr ⟨m,[{ target := .fn (.func f) lb,args:=#[] }]⟩ e a→RH w.heap→(results fn a.tmps).run P w = .ok v w) (hR:∀H',RH H'→R v H'):PF ⟨m,[{ target := .fn (.func f) lb,args:=#[] }]⟩ w0 (BQD P fn w0 R) e (.panic [{ v:=pv,recovered:=false }]) H:=by
 intro a w hf hw
 show Leaves P fn a.tmps _ a.defers (.panicking [{ v:=pv,recovered:=false }]) w
 rw[hf.defers]
 refine leaves_cons (by simp) (invoke_fn hE w) ((hc w hw.heap).mono ?_)
 rintro x u' w' ⟨rfl,v',rfl,h1,h2,h3,h4⟩
 exact⟨v,hr a w' hf h4,v,rfl,h1.trans hw.os,h2.trans hw.tape,h3.trans hw.output,hR _ h4⟩
theorem jeqI{T T' T2:TypeId}{x:Operand}{v:Value}(hT:P.underlying T=some (.interface #[]))(hx:ev e x=some (.iface T2 v)):OH P D L e (.binOp .eql T x (.const .nilIface) T') (.bool false):=fun F H _ _ _ ρ o w ho hev _=>by
 have h1:∀d,(Op.equalIn (d+1) T (.iface T2 v) .nilIface).run P w = .ok false w:=fun d=>by
  simp only[Op.equalIn,Sem.run_bind,run_underlying hT,Result.andThen_ok];rfl
 have h2:(Op.equal T (.iface T2 v) .nilIface).run P w = .ok false w:=h1 9999
 have h3:∀d,(Op.eqGuardIn (d+1) T (.iface T2 v) .nilIface).run P w = .ok false w:=fun d=>by
  simp only[Op.eqGuardIn,Sem.run_bind,run_underlying hT,Result.andThen_ok];rfl
 have hy:ρ (.const .nilIface) = .nilIface:=hev _ _ rfl
 simp only[execOp,ho,hev _ _ hx,hy,eqGuard,binOp]
 simp[h2,h3]
class PanTo (Q:Exit→Act→World→Prop) (Q0:outParam (Exit→Act→World→Prop)):Prop where
 thru:∀c a w,Q0 (.panic c) a w→Q (.panic c) a w
section
variable{f:FuncId}{fn:Func}{c:Code}{ι:Type}{val:ι→Value}{dr:ι→List Dt}{lr:Nat→ι→List Res}{E E2:Chn→Prop}{Q0:Exit→Act→World→Prop}
instance:PanTo (RQX P fn w0 X val dr lr E) (RQX P fn w0 X val dr lr E):=⟨fun _ _ _ h=>h⟩
instance{k:Act→World→Prop}[h:PanTo Q Q0]:PanTo (Exit.then k Q) Q0:=⟨fun c a w h9=>h.thru c a w h9⟩
instance{i:Nat}[h:PanTo Q Q0]:PanTo (Exit.inBlock i Q) Q0:=⟨fun c a w h9=>h.thru c a w h9⟩
instance[h:PanTo Q Q0]:PanTo (Exit.noGoto Q) Q0:=⟨fun c a w h9=>h.thru c a w h9⟩
instance{κ:Type}{S:κ→Jn}[h:PanTo Q Q0]:PanTo (QJn n w0 X S Q) Q0:=⟨fun c a w h9 => .inr ⟨by simp,h.thru c a w h9⟩⟩
instance{m:Nat}{w1:World}{l:List Oper}{z:Bool}{X2:Cx}{FS:PH}{Ls:List Res}{is:Od}[h:PanTo Q (RQX P fn w0 X val dr lr E)]:PanTo (YQ P ⟨m,[]⟩ w1 l Q z X2 FS Ls is) (RQX P fn w0 X val dr lr E):=⟨fun c a w h9=>fun a' e=>h.thru c a' w (by
 obtain⟨h1,h2⟩:a.defers=[]∧_:=h9
 exact⟨e.trans h1,h2⟩)⟩
theorem xpc{m:Nat}{ch:Chn}[hP:PanTo Q (RQX P fn w0 X val dr lr E)](h:E ch):QH ⟨m,[]⟩ w0 Q X D L e (.panic ch):=fun F H hp a w hf hw=>hP.thru _ _ _ (xpan h F H hp a w hf hw)
variable{ops:Array Oper}{d m:Nat}{ty:TypeId}{pos:String}{af:Array Edge}{rest:List Oper}{g:Operand}{xs:List Operand}{vs cs:List Value}{ts:Array TypeId}{κ:Type}{val':κ→Value}{dr':κ→List Dt}{lr':Nat→κ→List Res}{Dn:κ→List Dt}{Ln:κ→List Res}
theorem jcy[hP:PanTo Q (RQX P fn w0 X val dr lr E2)](hE:Ent P f)(hf:ev e g=some (.func (.func f) #[] cs.toArray))(hl:evl e xs=some vs)(hT:Trx P f (vs++cs).toArray D0 L0 val' dr' lr' E)(hd:Sd D L D0)(hk:Tks L L0 M)(hp:∀i,Ap (dr' i) D (Dn i))(hq:∀i,Ap (lr' X.n i) M (Ln i))
  (kp:∀c,E c→E2 c) (k:∀i,LH P ⟨m,[]⟩ w0 ops Q X (Dn i) (Ln i) ((d,val' i)::e) rest) (hd1:Nat.blt d (Fs.mk m []).sz=true:=by rfl):LH P ⟨m,[]⟩ w0 ops Q X D L e (⟨some d,.call { callee := .value g,args:=xs.toArray,argTypes:=ts },ty,pos,af,none⟩::rest) :=
 jcx hE hf hl hT hd hk hp hq k (fun c hc=>xpc (kp c hc)) hd1
end
end Go.JE
namespace Go.JE
variable{P:Program}{D D0:List Dt}{L M Ls L0:List Res}{e:Env}{X:Cx}{n:Fs}{w0:World}{Q:Exit→Act→World→Prop}
def TrK(P:Program)(f:FuncId)(args:Array Value)(pv:Value)(D0:List Dt)(L0:List Res){ι:Type}(val:ι→Value)(dr:ι→List Dt)(lr:Nat→ι→List Res):Prop :=
 ∀F H,InH F H→AllD F D0→Ok F H L0→∀w:World,w.heap=H→CallsD P f args (.panicking [{ v:=pv,recovered:=false }]) w fun x u' w'=>u' = .panicking [{ v:=pv,recovered:=true }]∧∃v',x = .returned v'∧w'.os=w.os∧w'.tape=w.tape∧w'.output=w.output∧∃i F',v'=val i∧∀B,B≤H.size→Hp ⟨Own L0,H,F⟩ (dr i) (lr B i) F' w'.heap
theorem kenter{f:FuncId}{fn:Func}{args:List Value}{id d m:Nat}{ty:TypeId}{pos:String}{af:Array Edge}{c:Code}{pv:Value}{ι:Type}{val:ι→Value}{dr:ι→List Dt}{lr:Nat→ι→List Res}(hf:P.funcs[f]? = some fn)
  (hb:fn.body=some (.seq (.region id #[⟨some d,.call { callee := .builtin .recover,args:=#[],argTypes:=#[] },ty,pos,af,none⟩] false) c)) (hn:fn.ntmps=m) (ha:Nat.ble args.length m=true) (hd:Nat.blt d m=true)
  (h:∀(w0:World) (X:Cx),CH P ⟨m,[]⟩ w0 (RQ2 P fn w0 X val dr lr) X D0 L0 ((d,pv)::number 0 args) c):TrK P f args.toArray pv D0 L0 val dr lr:=fun F H hin hd0 ho w hw=>by
 subst hw
 exact callsD_catch hf hb hn ha hd (h w ⟨Own L0,w.heap,F⟩ F w.heap ⟨PH.ext.refl F,hin,Kw.refl _ _,hd0,ho,fun k hk => .inr hk⟩)
theorem jtas{T T':TypeId}{x:Operand}{dsc:TypeDesc}{v:Value}(hT:P.underlying T'=some dsc)(hn:(match dsc with | .interface _=>true|_=>false)=false)(hx:ev e x=some (.iface T' v)):OH P D L e (.typeAssert x T T' true) (.tuple #[v,.bool true]):=fun F H _ _ _ ρ o w ho hev _=>by
 simp only[execOp,ho,hev _ _ hx,Instr.typeAssert,Sem.run_bind,run_underlying hT,Result.andThen_ok]
 cases dsc<;>first|(simp at hn;done)|(simp<;>rfl)|rfl
section
variable{f:FuncId}{fn:Func}{c:Code}{ι κ:Type}{val:ι→Value}{dr:ι→List Dt}{lr:Nat→ι→List Res}{val':κ→Value}{dr':κ→List Dt}{lr':Nat→κ→List Res}{Dn:κ→List Dt}{Ln:κ→List Res}{E:Chn→Prop}
instance:PanTo (RQD P fn w0 X val dr lr) (RQD P fn w0 X val dr lr):=⟨fun _ _ _ h=>h⟩
variable{ops:Array Oper}{d m:Nat}{ty:TypeId}{pos:String}{af:Array Edge}{rest:List Oper}{g:Operand}{xs:List Operand}{vs cs:List Value}{ts:Array TypeId}{df:Deferred}
theorem jcyD[hP:PanTo Q (RQD P fn w0 X val dr lr)](hE:Ent P f)(hf:ev e g=some (.func (.func f) #[] cs.toArray))(hl:evl e xs=some vs)(hT:Trx P f (vs++cs).toArray D0 L0 val' dr' lr' E)(hd:Sd D L D0)(hk:Tks L L0 M)(hp:∀i,Ap (dr' i) D (Dn i))(hq:∀i,Ap (lr' X.n i) M (Ln i))
  (kp:∀c,E c→QH ⟨m,[df]⟩ w0 (RQD P fn w0 X val dr lr) X D M e (.panic c)) (k:∀i,LH P ⟨m,[df]⟩ w0 ops Q X (Dn i) (Ln i) ((d,val' i)::e) rest) (hd1:Nat.blt d (Fs.mk m [df]).sz=true:=by rfl):LH P ⟨m,[df]⟩ w0 ops Q X D L e (⟨some d,.call { callee := .value g,args:=xs.toArray,argTypes:=ts },ty,pos,af,none⟩::rest) :=
 jcx hE hf hl hT hd hk hp hq k (fun c hc F H h a w hf hw=>hP.thru _ _ _ (kp c hc F H h a w hf hw)) hd1
theorem jpD3{f':Nat}{lb:Array Value}{p q r g g' g'':Nat}{ty ty' ty'' T T' T'':TypeId}{v v' v'' u u' u'' pv:Value}{N:List Res}(hr:fn.results=#[.cell p ty,.cell q ty',.cell r ty''])(hv:lk e p=some (.pointer (some ⟨g,0,none⟩)))(hv':lk e q=some (.pointer (some ⟨g',0,none⟩)))(hv'':lk e r=some (.pointer (some ⟨g'',0,none⟩)))
  (hK:TrK P f' lb pv [] [bx g T [v],bx g' T' [v'],bx g'' T'' [v'']] (fun _:Unit => .tuple #[]) (fun _=>[]) (fun _ _=>[bx g T [u],bx g' T' [u'],bx g'' T'' [u'']])) (hk:Tks L [bx g T [v],bx g' T' [v'],bx g'' T'' [v'']] N)
  (hO:One P ty) (hO':One P ty') (hO'':One P ty'') (hE:Ent P f') (i:ι) (hm : .tuple #[u,u',u'']=val i) (hd:Sd D (bx g T [u]::bx g' T' [u']::bx g'' T'' [u'']::N) (dr i)) (hk2:∀B,B≤X.n→Tks (bx g T [u]::bx g' T' [u']::bx g'' T'' [u'']::N) (lr B i) M) :
  QH ⟨m,[{ target := .fn (.func f') lb,args:=#[] }]⟩ w0 (RQD P fn w0 X val dr lr) X D L e (.panic [{ v:=pv,recovered:=false }]):=fun F H hp =>
 PF.panD (RH:=fun H'=>∃F',Hp X D (bx g T [u]::bx g' T' [u']::bx g'' T'' [u'']::N) F' H') (v := .tuple #[u,u',u'']) hE
  (fun w hw=>(hK F H hp.hin trivial (hk.ok hp.ok).1 w hw).mono (by
   rintro x uu w' ⟨h1,v',h2,h3,h4,h5,_,F',_,h6⟩
   have h7:=h6 X.n hp.hw.1
   have h8:=hp.frame hk h7.hx h7.hin h7.hw h7.hd h7.ok h7.ge
   exact⟨h1,v',h2,h3,h4,h5,F',h8⟩))
  (fun a w hf ⟨F',h⟩=>results_cell3 hr _ w (hf.get p _ hv) hO (by rw[cell_hc];exact(h.at k0).1.hc rfl) (hf.get q _ hv') hO' (by rw[cell_hc];exact(h.at k1).1.hc rfl) (hf.get r _ hv'') hO'' (by rw[cell_hc];exact(h.at k2).1.hc rfl))
  (fun H' ⟨F',h⟩=>⟨i,F',hm,fun B hB=>h.sub hd (hk2 B hB)⟩)
theorem jmkN{T E:TypeId}{x y:Operand}{z:Value}{bytes k9:Nat}{I J:Int}{α:Type}[Inhabited α]{r:Rp α}{a:α}(hT:P.underlying T=some (.slice E))(hE:(P.info? E).map (fun i=>(i.zero,i.size,i.bytes))=some (some z,r.sz,bytes))(hz:z.cells.size=r.sz)(hs:0<r.sz)
  (hx:ev e x=some (.int .i64 I)) (hy:ev e y=some (.int .i64 J)) (hI:I=k9) (hJ:J=k9) (h1:bytes*k9≤281474976710656∧k9≤140737488355328) (hok:∀F,r.ok F a (fun j=>z.cells.getD j undef))
  (k:∀g,LH P n w0 ops Q X D (gl X.n r E (.slice (some ⟨g,0,none⟩) k9 k9) (List.replicate k9 a)::L) ((d,.slice (some ⟨g,0,none⟩) k9 k9)::e) rest) (hd:Nat.blt d n.sz=true:=by rfl):LH P n w0 ops Q X D L e (⟨some d,.makeSlice T x y,ty,pos,af,none⟩::rest):=fun F H hp =>
 LF.chg (OpCh.makeN (F:=F) (r:=r) (n:=k9) (a:=a) hT hE hz hs hx hy hI hJ h1.1 h1.2 (hok F)) (by rintro _ H' ⟨g,rfl,eg,sg,kg,hb⟩;exact k g F H' (hp.newG kg hb)) hd
end
end Go.JE
namespace Go.Proofs.YtmfkkodnghambaaGreat
open Go.JE
set_option maxRecDepth 8000
theorem rTg3.S_Block{Γ:List Dt}{L:List Res}{m:D.Tg3}{x:Int}(h:Wr Γ L .i64 x):Go.JE.PO Γ L rTg3 m 0 [.int .i64 x] { m with Block:=x }:=fun F H a b c f hf =>
 ⟨⟨rfl,h F H a b c⟩,⟨hf.2.1.1,hf.2.1.2⟩,((rL (rI .i64)).ext (fun i hi=>by rw[show i=0 from Nat.lt_one_iff.1 hi];rfl) hf.2.2.1),((rL (rI .i64)).ext (fun i hi=>by rw[show i=0 from Nat.lt_one_iff.1 hi];rfl) hf.2.2.2)⟩
set_option maxHeartbeats 1000000 in
theorem r3sites_ct{a0:Value}{l:List D.Tg3}:Td Tryz.prog 158 #[a0] [dv (rL rTg3) a0 l] [] (rL rTg3) (sitesM l):=by
 refine jenter (args:=[a0]) Tryz.func158 rfl rfl rfl fun w0 X=>?_
 refine jq (jr (ja Z (jn (jx (jq (jr (jmkN (k9:=8192) (r:=rTg3) (a:=default) U167 I170 rfl (by decide) Z Z Z Z (by omega) (fun F=>⟨⟨rfl,rfl⟩,⟨rfl,rfl⟩,rL.nil _,rL.nil _⟩) fun g8=>ja Z (jn (jx (jq ?_))))))))))
 refine jq (jr (ja Z (jn (jx (jb ?_)))))
 refine jlp (u2 fun(k:Nat) (o1:List D.Tg3)=>⟨k≤8192∧o1=List.replicate k noT++List.replicate (8192-k) default,[dv (rL rTg3) a0 l],[gl X.n rTg3 170 (.slice (some ⟨g8,0,none⟩) 8192 8192) o1],[(0,a0),(2,.slice none 0 0),(3,(.slice (some ⟨g8,0,none⟩) 8192 8192)),(4,.int .i64 (↑k))],8192-k⟩) (0,List.replicate 8192 default) ⟨by dsimp only;omega,by show _=List.replicate 0 noT++List.replicate (8192-0) default;rw[List.replicate_zero,List.nil_append]⟩ (dc d0 dn) (kc k0 kn) ⟨Z,Z,Z,eqI (by omega),trivial⟩ ?_
 rintro⟨k,o1⟩;dsimp only[u2];rintro⟨hk,ho1⟩
 have hol:o1.length=8192:=by rw[ho1,List.length_append,List.length_replicate,List.length_replicate];omega
 refine jq (jq (jr (jm Z (js (jlss Z Z) (jn (jx ?_))))))
 refine jif Z (fun hc1=>?_) (fun hc1=>?_)
 refine jsk (jx (jq (jb (jr (jm Z (jm Z (js (jig U167 Z170 k0 Z Z Z (by omega)) (js (jf F170_0 Z) (jsp (i:=k) (off:=0) (a:={ ix o1 k with Block:=(-1) }) k0 (by omega) Z3 Z (by omega) Z Z (rTg3.S_Block (wl (-1))) (jn (jbn ?_)))))))))))
 refine jx (jr (jm Z (js (jadd Z Z (by omega)) (ja Z (jn ?_)))))
 exact jag (k+1,List.set o1 k ({ ix o1 k with Block:=(-1) })) ⟨by dsimp only;omega,by dsimp only;rw[ho1];exact fillG (by omega) (by rw[fillG_ix (by omega)];rfl)⟩ (dc d0 dn) (kc k0 kn) ⟨Z,Z,Z,eqI (by omega),trivial⟩
 refine jex (jtx (jtx (jbh (jx (jq (jq (jr (ja Z (jn (jx (jb ?_)))))))))))
 refine jlp (u2 fun(i:Nat) (o2:List D.Tg3)=>⟨i≤l.length∧sitesM l=(l.drop i).foldl sitT o2∧o2.length=8192,[dv (rL rTg3) a0 l],[gl X.n rTg3 170 (.slice (some ⟨g8,0,none⟩) 8192 8192) o2],[(0,a0),(2,.slice none 0 0),(3,(.slice (some ⟨g8,0,none⟩) 8192 8192)),(5,.int .i64 (↑i))],l.length-i⟩) (0,o1) ⟨by dsimp only;omega,by dsimp only;rw[ho1,show k=8192 by omega,Nat.sub_self,List.replicate_zero,List.append_nil];rfl,hol⟩ (dc d0 dn) (kc k0 kn) ⟨Z,Z,Z,eqI (by omega),trivial⟩ ?_
 rintro⟨i,o2⟩;dsimp only[u2];rintro⟨hi,hS,hol2⟩
 refine jq (jq (jr (jm Z (jm Z (jdq d0 fun q1 w1=>js (jln U167 d0 Z) (js (jlss Z Z) (jn (jx ?_))))))))
 refine jif Z (fun hc2=>?_) (fun hc2=>?_)
 refine jsk (jx (jq (jb (jq (jr (ja Z (jn (jx (jb ?_)))))))))
 refine jlp (u2 fun(j:Nat) (o3:List D.Tg3)=>⟨j≤(ix l i).Makes.length∧(ix l i).Makes.foldl (sitN (ix l i)) o2=((ix l i).Makes.drop j).foldl (sitN (ix l i)) o3∧o3.length=8192,[dv (rL rTg3) a0 l],[gl X.n rTg3 170 (.slice (some ⟨g8,0,none⟩) 8192 8192) o3],[(0,a0),(2,.slice none 0 0),(3,(.slice (some ⟨g8,0,none⟩) 8192 8192)),(5,.int .i64 (↑i)),(6,.int .i64 (↑j))],(ix l i).Makes.length-j⟩) (0,o2) ⟨Nat.zero_le _,rfl,hol2⟩ (dc d0 dn) (kc k0 kn) ⟨Z,Z,Z,Z,eqI (by omega),trivial⟩ ?_
 rintro⟨j,o3⟩;dsimp only[u2];rintro⟨hj,hJ,hol3⟩
 refine jq (jq (jr (jm Z (jm Z (jm Z (js (jix U167 Z170 d0 Z Z Z (by omega)) (js (jf F170_2 Z) (jev (jlV (rTg3.A_Makes (dix d0 i (by omega))) O22 Z Z) fun v28 q2 w2=>js (jln U22 d0 Z) (js (jlss Z Z) (jn ?_))))))))))
 refine jx ?_
 refine jif Z (fun hc3=>?_) (fun hc3=>?_)
 refine jsk (jx (jq (jb (jq (jr (jm Z (jm Z (js (jix U167 Z170 d1 Z Z Z (by omega)) (js (jf F170_2 Z) (jev (jlV (rTg3.A_Makes (dix d1 i (by omega))) O22 Z Z) fun v37 q4 w4=>jm Z ?_))))))))))
 refine js (jix U22 Z3 d0 Z Z Z (by omega)) (js (jlI (dix d0 j (by omega)) O3 Z) (ja Z (jn (jx (jq (jr (jm Z (js (jgeq Z Z) (jm Z (jg Z Z (.t _) (fun hg=>jmv Z) (jg Z Z (.t _) (fun hg=>jlss (evg Z hg) Z) ?_)))))))))))
 refine js (jand Z Z) (jn (jx ?_))
 refine jif Z (fun hc4=>?_) (fun hc4=>?_)
 have hc4b:=hc4
 (try simp only[Bool.and_eq_true,decide_eq_true_eq] at hc4b)
 refine jr (jm Z (jm Z (jm Z (jm Z (js (jix U167 Z170 d2 Z Z Z (by omega)) (jA2 sTg3 (jlA (dix d2 i (by omega)) A170 Z170 Z) fun c52a c52b=>js (jig (i:=(Int.toNat (ix ((ix l i).Makes) j))) U167 Z170 k0 Z Z (by omega) (by omega)) (jdq (rTg3.c_Makes d0) fun q7 w7=>jdq (rTg3.c_Takes d0) fun q8 w8=>jspA (i:=(Int.toNat (ix ((ix l i).Makes) j))) (off:=0) (us:=[.int .i64 ((ix l i).Block),.int .i64 ((ix l i).Place),c52a,c52b]) (a:=ix l i) k0 (by omega) Z170 Z (by omega) Z Z ⟨Z,Z,w7.one,w8.one,trivial⟩ (POa d0 Z) (jn ?_))))))))
 refine jbn (jx (jr (jm Z (js (jadd Z Z (by omega)) (ja Z (jn ?_))))))
 exact jag (j+1,List.set o3 (Int.toNat (ix ((ix l i).Makes) j)) (ix l i)) ⟨by dsimp only;omega,by dsimp only;rw[hJ,drop_ix (by omega),List.foldl_cons];congr 1;unfold sitN;rw[if_pos (by(try simp at hc4);omega)],by simpa using hol3⟩ (dc d3 dn) (kc k0 kn) ⟨Z,Z,Z,Z,eqI (by omega),trivial⟩
 refine jsk (jbn (jx (jr (jm Z (js (jadd Z Z (by omega)) (ja Z (jn ?_)))))))
 exact jag (j+1,o3) ⟨by dsimp only;omega,by dsimp only;rw[hJ,drop_ix (by omega),List.foldl_cons];congr 1;unfold sitN;rw[if_neg (by(try simp at hc4);omega)],hol3⟩ (dc d2 dn) (kc k0 kn) ⟨Z,Z,Z,Z,eqI (by omega),trivial⟩
 refine jex (jtx (jtx (jbh (jbn (jx (jr (jm Z (js (jadd Z Z (by omega)) (ja Z (jn ?_))))))))))
 exact jag (i+1,o3) ⟨by dsimp only;omega,by dsimp only;rw[hS,drop_ix (by omega),List.foldl_cons];show _=List.foldl sitT o3 _;rw[←show sitT o2 (ix l i)=o3 by unfold sitT;rw[hJ,List.drop_of_length_le (by omega)];rfl],hol3⟩ (dc d1 dn) (kc k0 kn) ⟨Z,Z,Z,eqI (by omega),trivial⟩
 refine jex (jtx (jtx (jbh (jx (jq (jr (jm Z (ja Z (jn (jx (jrt ?_)))))))))))
 refine qfz k0 (by omega) ?_
 exact jrD Z Z (by rw[hS,List.drop_of_length_le (by omega)];rfl) d0
theorem r3stands_ct{a0:Value}{f:D.Func}{a1:Value}{made:List D.Tg3}{a2:Value}{away:List (List Bool)}(v:Int)(b:Int)(p:Int)(hb9:0≤b∧b<f.Blocks.length)(hm9:made.length=8192∧∀k,k<8192→(ix made k).Block<f.Blocks.length)(ha9:away.length=f.Blocks.length∧∀k,k<f.Blocks.length→(ix away k).length=f.Blocks.length):Tv Tryz.prog 159 #[vFunc f a0,a1,a2,.int .i64 v,.int .i64 b,.int .i64 p] [da rFunc (vFunc f a0) f,dv (rL rTg3) a1 made,dv (rL (rL rB)) a2 away] [] (.bool (standsM f made away v b p)):=by
 refine jenter (args:=[vFunc f a0,a1,a2,.int .i64 v,.int .i64 b,.int .i64 p]) Tryz.func159 rfl rfl rfl fun w0 X=>?_
 refine jq (jr (jbox Z Z fun g6=>ja Z (jn (jx (jq (jq (jr (jm Z (js (jgeq Z Z) (jm Z ?_))))))))))
 refine jg Z Z (.t _) (fun hg=>jmv Z) (jg Z Z (.t _) (fun hg=>jf F49_0 Z) (jg Z Z (.t _) (fun hg=>jl k0 O3 (evg Z hg) Z) (jg Z Z (.t _) (fun hg=>jlss (evg Z hg) (evg Z hg)) (js (jand Z Z) (jn (jx ?_))))))
 refine jif Z (fun hc1=>?_) (fun hc1=>?_)
 refine jq (jr (ja Z (jn (jx (jrt (jtr ?_))))))
 exact jrB Z Z (by first|(unfold standsM;simp_all;done)|(unfold standsM;(repeat' split)<;>first|rfl|(exfalso;omega)|simp_all))
 have hml:=hm9.1
 have hal:=ha9.1
 refine jsk (jx (jq (jq (jr (jm Z (js (jlss Z Z) (jm Z (jg Z Z (.f _) (fun hg=>jmv Z) (jg Z Z (.f _) (fun hg=>jgtr (evg Z hg) Z) (js (jor Z Z) (jm Z ?_)))))))))))
 refine jg Z Z (.f _) (fun hg=>jmv Z) (jg Z Z (.f _) (fun hg=>jmv Z) (jdq d1 fun q1 w1=>jg Z Z (.f _) (fun hg=>jix (i:=(Int.toNat v)) U167 Z170 d1 (evg Z hg) (evg Z hg) (by first|omega|(simp at hg;omega)) (by first|omega|(simp at hg;omega)|(simp only[List.length_set];omega)|(simp;done))) (jg Z Z (.f _) (fun hg=>jf F170_0 (evg Z hg)) (jg Z Z (.f _) (fun hg=>jlI (rTg3.A_Block (dix d1 (Int.toNat v) (by first|omega|(simp at hg;omega)|(simp only[List.length_set];omega)|(simp;done)))) O3 (evg Z hg)) (jg Z Z (.f _) (fun hg=>jlss (evg Z hg) Z) (js (jor Z Z) (jn (jx ?_))))))))
 refine jif Z (fun hc2=>?_) (fun hc2=>?_)
 refine jq (jr (ja Z (jn (jx (jrt (jtr ?_))))))
 exact jrB Z Z (by first|(unfold standsM;simp_all;done)|(unfold standsM;(repeat' split)<;>first|rfl|(exfalso;omega)|simp_all))
 have hc2b:=hc2
 (try simp only[Bool.or_eq_true,decide_eq_true_eq,not_or] at hc2b)
 have hmb:=hm9.2 v.toNat (by omega)
 refine jsk (jx (jq (jr (jm Z (jm Z (js (jix (i:=(Int.toNat v)) U167 Z170 d1 Z Z (by omega) (by omega)) (jA2 sTg3 (jlA (dix d1 (Int.toNat v) (by omega)) A170 Z170 Z) fun c39a c39b=>jalc J170 Z fun g13=>jdq (rTg3.c_Makes d0) fun q3 w3=>jdq (rTg3.c_Takes d0) fun q4 w4=>jsta k0 Z170 Z Z Z ⟨Z,Z,w3.one,w4.one,trivial⟩ (saf Z) ?_)))))))
 refine jn (jx (jq (jq (jr (js (jf F170_0 Z) (js (jl k0 O3 Z Z) (jm Z (js (jeql Z Z) (jn (jx ?_))))))))))
 refine jif Z (fun hc3=>?_) (fun hc3=>?_)
 refine jq (jr (js (jf F170_1 Z) (js (jl k0 O3 Z Z) (js (jlss Z Z) (jm Z (jg Z Z (.f _) (fun hg=>jf F170_1 Z) (jg Z Z (.f _) (fun hg=>jl k0 O3 (evg Z hg) Z) (jg Z Z (.f _) (fun hg=>jmv Z) (jg Z Z (.f _) (fun hg=>jlss (evg Z hg) (evg Z hg)) (js (jor Z Z) (ja Z ?_)))))))))))
 refine jn (jx (jrt (jtr ?_)))
 exact jrB Z Z (by first|(unfold standsM;simp_all;done)|(unfold standsM;(repeat' split)<;>first|rfl|(exfalso;omega)|simp_all))
 have hab:=ha9.2 (ix made v.toNat).Block.toNat (by omega)
 refine jsk (jx (jq (jr (jm Z (js (jf F170_0 Z) (js (jl k0 O3 Z Z) (jdq d3 fun q5 w5=>js (jix (i:=(Int.toNat ((ix made (Int.toNat v)).Block))) U130 Z129 d3 Z Z (by omega) (by omega)) (jev (jlV (dix d3 (Int.toNat ((ix made (Int.toNat v)).Block)) (by omega)) O129 Z Z) fun v57 q6 w6=>jm Z (js (jix (i:=(Int.toNat b)) U129 Z4 d0 Z Z (by omega) (by omega)) ?_)))))))))
 refine js (jlB (dix d0 (Int.toNat b) (by omega)) O4 Z) (js (jnot Z) (ja Z (jn (jx (jrt ?_)))))
 exact jrB Z Z (by first|(unfold standsM;simp_all;done)|(unfold standsM;(repeat' split)<;>first|rfl|(exfalso;omega)|simp_all))
end Go.Proofs.YtmfkkodnghambaaGreat
