/- Lemmas that the claim is made of. Conditions: each lemma names its own. -/
import Derived.Test.YtmfkkodnghambaaKF3
set_option linter.unusedSectionVars false
set_option linter.unusedSimpArgs false
set_option linter.unusedVariables false
namespace Go.Proofs.Ytmfkkodnghambaa
open Go.JE
structure Mk where
 s : List Int
 k : Int
 par : Int
 bs : List D.Block
 nx : Int
 lv : List Int
def tVV (n : Int) (m : Mk) : Int := Int.tmod (Int.tmod (if m.k < m.s.length then ix m.s m.k.toNat else 0) n + n) n
def tSS (m : Mk) : Mk := { m with k := m.k + 1 }
def wordV (m : Mk) : Int :=
 if tVV 8 (tSS m) = 0 then IntKind.i32.wrap (tVV 1048576 m * 4099)
 else if tVV 8 (tSS m) = 1 then -tVV 1048576 m
 else if tVV 8 (tSS m) = 2 then -2147483648
 else if tVV 8 (tSS m) = 3 then Int.tmod (tVV 1048576 m) 70000
 else Int.tmod (tVV 1048576 m) 20 - 4
def wordS (m : Mk) : Mk := tSS (tSS m)
def valueB (m : Mk) : Bool := !decide (m.lv.length = 0)
def valueI (m : Mk) : Int := if tVV 3 (tSS m) = 0 then (m.lv.length : Int) - 1 else tVV m.lv.length m
def valueV (m : Mk) : Int := if m.lv.length = 0 then 0 else ix m.lv (valueI m).toNat
def valueS (m : Mk) : Mk := if m.lv.length = 0 then m else tSS (tSS m)
def freshS (m : Mk) : Mk := { m with nx := m.nx + 1 }
def makes3 (i : D.Ins) : List Int := if i.Op = 16 then [] else if i.Op = 18 then [i.Dst,i.Two] else [i.Dst]
def addS (b : Int) (i : D.Ins) (m : Mk) : Mk := { m with bs := m.bs.set b.toNat { (ix m.bs b.toNat) with Ins := (ix m.bs b.toNat).Ins ++ [i] },lv := m.lv ++ makes3 i }
def constS (b n : Int) (m : Mk) : Mk := addS b ⟨1,m.nx,0,[],n⟩ (freshS m)
def someC (m : Mk) : Bool := !valueB m || decide (tVV 9 (valueS m) = 0)
def someM0 (m : Mk) : Mk := if valueB m then tSS (valueS m) else valueS m
def sV9 (m : Mk) : Int := if someC m then (wordS (someM0 m)).nx else valueV m
def sS9 (b : Int) (m : Mk) : Mk := if someC m then constS b (wordV (someM0 m)) (wordS (someM0 m)) else someM0 m
def cntT : List D.Block → Nat
 | [] => 0
 | x :: l => x.Phis.length + x.Ins.length + 1 + cntT l
theorem cntT_ix : ∀ {l : List D.Block} {j : Nat},j < l.length → (ix l j).Phis.length + (ix l j).Ins.length ≤ cntT l
 | x :: l,0,_ => by rw [ix_zero,cntT]; omega
 | x :: l,j + 1,h => by rw [ix_cons,cntT]; have := cntT_ix (l := l) (j := j) (by simpa using h); omega
def okM (nb c : Nat) (m : Mk) : Prop := (0 ≤ m.k ∧ m.k ≤ c) ∧ (0 ≤ m.nx ∧ m.nx ≤ c) ∧ (0 ≤ m.par ∧ m.par ≤ 4) ∧ m.lv.length ≤ 2 * c + 4 ∧ m.bs.length = nb ∧ cntT m.bs ≤ c
theorem okM.row {nb c : Nat} {m : Mk} (h : okM nb c m) {j : Nat} (hj : j < nb) : (ix m.bs j).Phis.length ≤ c ∧ (ix m.bs j).Ins.length ≤ c := by
 have h1 := cntT_ix (l := m.bs) (j := j) (by rw [h.2.2.2.2.1]; exact hj)
 have h2 := h.2.2.2.2.2
 omega
theorem okM.mono {nb c c' : Nat} {m : Mk} (h : okM nb c m) (hc : c ≤ c') : okM nb c' m := ⟨⟨h.1.1,by have := h.1.2; omega⟩,⟨h.2.1.1,by have := h.2.1.2; omega⟩,h.2.2.1,by have := h.2.2.2.1; omega,h.2.2.2.2.1,by have := h.2.2.2.2.2; omega⟩
section
variable {nb c : Nat} {m : Mk}
theorem tV9 {n : Int} (hn : 0 < n) (m : Mk) : 0 ≤ tVV n m ∧ tVV n m < n := by
 unfold tVV
 generalize (if m.k < m.s.length then ix m.s m.k.toNat else 0) = x
 have h1 := Int.lt_tmod_of_pos x hn
 exact ⟨Int.tmod_nonneg _ (by omega),Int.tmod_lt_of_pos _ hn⟩
end
theorem okM.s (nb c : Nat) (m : Mk) : True := trivial
abbrev okS (nb c : Nat) (S : List Int) (m : Mk) : Prop := okM nb c m ∧ m.s = S
theorem okS.mono {nb c c' : Nat} {S : List Int} {m : Mk} (h : okS nb c S m) (hc : c ≤ c') : okS nb c' S m := ⟨okM.mono h.1 hc,h.2⟩
theorem A60 : ∃ d,Try.prog.underlying 60 = some d ∧ (match d with | .struct _ | .array _ _ => true | _ => false) = true := ⟨_,Try.underlying60,rfl⟩
theorem E42 : Ent Try.prog 42 := ⟨_,Try.func42,by kernel_rfl,by kernel_rfl⟩
theorem E43 : Ent Try.prog 43 := ⟨_,Try.func43,by kernel_rfl,by kernel_rfl⟩
theorem E44 : Ent Try.prog 44 := ⟨_,Try.func44,by kernel_rfl,by kernel_rfl⟩
theorem J60 : (Try.prog.info? 60).bind (·.zero) = some (.agg #[.int .i32 0,.slice none 0 0]) := by kernel_rfl
def evB (x y : D.Event) : Bool := decide (x.Callee = y.Callee) && rowsM x.Args y.Args
def evsB (a b : List D.Event) : Bool := decide (a = b)
theorem evB_yes {x y : D.Event} (h : evB x y = true) : x = y := by
 unfold evB rowsM at h
 cases x; cases y; simp_all
theorem evB_self (x : D.Event) : evB x x = true := by simp [evB,rowsM]
theorem evsB_len {a b : List D.Event} (h : ¬ a.length = b.length) : evsB a b = false := by simp only [evsB,decide_eq_false_iff_not]; rintro rfl; exact h rfl
theorem evsB_at {a b : List D.Event} {k : Nat} (h1 : k < a.length) (h2 : a.length = b.length) (h : evB (ix a k) (ix b k) = false) : evsB a b = false := by
 simp only [evsB,decide_eq_false_iff_not]; rintro rfl; rw [evB_self] at h; cases h
theorem evsB_yes {a b : List D.Event} {k : Nat} (h1 : a.length ≤ k) (h2 : a.length = b.length) (h : a.take k = b.take k) : evsB a b = true := by
 rw [List.take_of_length_le h1,List.take_of_length_le (by omega)] at h
 simp only [evsB,h,decide_true]
theorem sameO_b (a b : D.Outcome) : sameO a b = (((decide (a.End = b.End) && decide (a.Val = b.Val)) && rowsM a.Mem b.Mem) && evsB a.Calls b.Calls) := by
 unfold sameO rowsM evsB
 simp [Bool.decide_and,Bool.and_assoc]
theorem seq_ct {a0 : Value} {a : List Int} {a1 : Value} {b : List Int} : Tv Try.prog 42 #[a0,a1] [dv (rL (rI .i32)) a0 a,dv (rL (rI .i32)) a1 b] [] (.bool (rowsM a b)) := by
 refine jenter (args := [a0,a1]) Try.func42 rfl rfl rfl fun w0 X => ?_
 refine jq (jr (ja Z (jn (jx (jq (jq (jr (jm Z (jdq d0 fun q1 w1 => js (jln U23 d0 Z) (jm Z ?_))))))))))
 refine jdq d1 fun q2 w2 => js (jln U23 d1 Z) (js (jneq Z Z) (jn (jx ?_)))
 refine jif Z (fun hc1 => ?_) (fun hc1 => ?_)
 refine jq (jr (ja Z (jn (jx (jrt (jtr ?_))))))
 exact jrB Z Z (rowsM_len (by omega))
 refine jsk (jx (jq (jq (jr (jm Z (js (jln U23 d0 Z) (jm Z (jn (jx (jb ?_))))))))))
 refine jlp (fun (k : Nat) => ⟨k ≤ a.length ∧ a.take k = b.take k,[dv (rL (rI .i32)) a0 a,dv (rL (rI .i32)) a1 b],[],[(0,a0),(1,a1),(12,.int .i64 (↑(List.length a))),(13,.int .i64 (↑k))],a.length - k⟩) 0 ⟨by omega,rfl⟩ (dc d0 (dc d1 dn)) kn ⟨Z,Z,Z,eqI (by omega),trivial⟩ ?_
 rintro k; dsimp only; rintro ⟨hk,hR⟩
 refine jq (jr (js (jlss Z Z) (jn (jx (jq ?_)))))
 refine jif Z (fun hc2 => ?_) (fun hc2 => ?_)
 refine jsk (jx (jq (jb (jq (jr (jm Z (ja Z (jn (jx (jq (jstl Mixed (by kernel_rfl) ?_)))))))))))
 refine jt (jmv Z) (jt (jmv Z) (jt (jix U23 Z21 d0 Z Z Z (by omega)) (jt (jlI (dix d0 k (by omega)) O21 Z) (jt (jmv Z) (jt (jmv Z) (jt (jix U23 Z21 d1 Z Z Z (by omega)) (jt (jlI (dix d1 k (by omega)) O21 Z) (jt (jneq Z Z) (jdn (jx ?_))))))))))
 refine jif Z (fun hc3 => ?_) (fun hc3 => ?_)
 refine jq (jr (ja Z (jn (jx (jrt (jbr (jtr (jtr (jbr (jtr ?_))))))))))
 exact jrB Z Z (rowsM_at (k := k) (by omega) (by omega) hc3)
 refine jsk (jbn (jx (jr (js (jadd Z Z (by omega)) (jm Z (jn ?_))))))
 exact jag (k + 1) ⟨by omega,by rw [take_ix (by omega),take_ix (by omega),hR,hc3]⟩ (dc d0 (dc d1 dn)) kn ⟨Z,Z,Z,eqI (by omega),trivial⟩
 refine jex (jtx (jtx (jbh (jx (jq (jr (ja Z (jn (jx (jrt ?_))))))))))
 exact jrB Z Z (rowsM_yes (k := k) (by omega) (by omega) hR)
theorem same1_ct {a0 : Value} {x : D.Event} {a1 : Value} {y : D.Event} : Tv Try.prog 44 #[vEvent x a0,vEvent y a1] [da rEvent (vEvent x a0) x,da rEvent (vEvent y a1) y] [] (.bool (evB x y)) := by
 refine jenter (args := [vEvent x a0,vEvent y a1]) Try.func44 rfl rfl rfl fun w0 X => ?_
 refine jq (jr (jbox Z Z fun g2 => jbox Z Z fun g3 => ja Z (jn (jx (jq (jr (js (jf F60_0 Z) (js (jl k1 O21 Z Z) (js (jf F60_0 Z) ?_)))))))))
 refine js (jl k0 O21 Z Z) (js (jeql Z Z) (jm Z (jg Z Z (.t _) (fun hg => jf F60_1 Z) (jg Z Z (.t _) (fun hg => jl k1 O23 (evg Z hg) Z) (jg Z Z (.t _) (fun hg => jf F60_1 Z) (jg Z Z (.t _) (fun hg => jl k0 O23 (evg Z hg) Z) (jdq (rEvent.c_Args d0) fun q1 w1 => jdq (rEvent.c_Args d1) fun q2 w2 => jgc Z Z (.t _) E42 Z (fun hg => evl2 (evg Z hg) (evg Z hg)) (fun hg => seq_ct) (fun hg => (dc (rEvent.c_Args d0) (dc (rEvent.c_Args d1) dn))) kn p0 (js (jand Z Z) (ja Z ?_)))))))))
 refine jn (jx (jrt ?_))
 exact jrB Z Z (by rfl)
theorem evs_ct {a0 : Value} {a : List D.Event} {a1 : Value} {b : List D.Event} : Tv Try.prog 43 #[a0,a1,.func (.func 44) #[] #[]] [dv (rL rEvent) a0 a,dv (rL rEvent) a1 b] [] (.bool (evsB a b )) := by
 refine jenter (args := [a0,a1,.func (.func 44) #[] #[]]) Try.func43 rfl rfl rfl fun w0 X => ?_
 refine jq (jr (ja Z (jn (jx (jq (jq (jr (jm Z (jdq d0 fun q1 w1 => js (jln U24 d0 Z) (jm Z ?_))))))))))
 refine jdq d1 fun q2 w2 => js (jln U24 d1 Z) (js (jneq Z Z) (jn (jx ?_)))
 refine jif Z (fun hc1 => ?_) (fun hc1 => ?_)
 refine jq (jr (ja Z (jn (jx (jrt (jtr ?_))))))
 exact jrB Z Z (evsB_len (by omega))
 refine jsk (jx (jq (jq (jr (jm Z (js (jln U24 d0 Z) (jm Z (jn (jx (jb ?_))))))))))
 refine jlp (fun (k : Nat) => ⟨k ≤ a.length ∧ a.take k = b.take k,[dv (rL rEvent) a0 a,dv (rL rEvent) a1 b],[],[(1,a1),(2,.func (.func 44) #[] #[]),(15,a0),(16,.int .i64 (↑(List.length a))),(17,.int .i64 (↑k))],a.length - k⟩) 0 ⟨by omega,rfl⟩ (dc d0 (dc d1 dn)) kn ⟨Z,Z,Z,Z,eqI (by omega),trivial⟩ ?_
 rintro k; dsimp only; rintro ⟨hk,hR⟩
 refine jq (jr (js (jlss Z Z) (jn (jx (jq ?_)))))
 refine jif Z (fun hc2 => ?_) (fun hc2 => ?_)
 refine jsk (jx (jq (jb (jq (jr (jm Z (js (jix U24 Z60 d0 Z Z Z (by omega)) (jA sEvent (jlA (dix d0 k (by omega)) A60 Z60 Z) fun c21 => jalc J60 Z fun g8 => ja Z (jdq (rEvent.c_Args d0) fun q4 w4 => ?_)))))))))
 refine jsta k0 Z60 Z Z Z ⟨Z,w4.one,trivial⟩ (saf Z) (jn (jx (jq (jr (jm Z (jm Z (js (jix U24 Z60 d2 Z Z Z (by omega)) (jA sEvent (jlA (dix d2 k (by omega)) A60 Z60 Z) fun c25 => jalc J60 Z fun g9 => jdq (rEvent.c_Args d0) fun q6 w6 => jsta k0 Z60 Z Z Z ⟨Z,w6.one,trivial⟩ (saf Z) ?_))))))))
 refine jn (jx (jq (jr (jm Z (js (jla k1 A60 Z60 Z Z Z) (js (jla k0 A60 Z60 Z Z Z) (jcv E44 Z Z same1_ct (dc d1 (dc d0 dn)) kn (js (jnot Z) (jn (jx ?_))))))))))
 refine jif Z (fun hc3 => ?_) (fun hc3 => ?_)
 refine jq (jr (ja Z (jn (jx (jrt (jbr (jtr (jtr (jbr (jtr ?_))))))))))
 exact jrB Z Z (evsB_at (k := k) (by omega) (by omega) hc3)
 refine jsk (jbn (jx (jr (js (jadd Z Z (by omega)) (jm Z (jn ?_))))))
 exact jag (k + 1) ⟨by omega,by rw [take_ix (by omega),take_ix (by omega),hR,evB_yes hc3]⟩ (dc d2 (dc d3 dn)) kn ⟨Z,Z,Z,Z,eqI (by omega),trivial⟩
 refine jex (jtx (jtx (jbh (jx (jq (jr (ja Z (jn (jx (jrt ?_))))))))))
 exact jrB Z Z (evsB_yes (k := k) (by omega) (by omega) hR)
theorem iSame_ct {a0a a0b : Value} {a : D.Outcome} {a1a a1b : Value} {b : D.Outcome} : Tv Try.prog 20 #[vOutcome a (a0a,a0b),vOutcome b (a1a,a1b)] [da rOutcome (vOutcome a (a0a,a0b)) a,da rOutcome (vOutcome b (a1a,a1b)) b] [] (.bool (sameO a b)) := by
 refine jenter (args := [vOutcome a (a0a,a0b),vOutcome b (a1a,a1b)]) Try.func20 rfl rfl rfl fun w0 X => ?_
 refine jq (jr (jbox Z Z fun g2 => jbox Z Z fun g3 => ja Z (jn (jx (jq (jr (js (jf F26_0 Z) (js (jl k1 O3 Z Z) (js (jf F26_0 Z) ?_)))))))))
 refine js (jl k0 O3 Z Z) (js (jeql Z Z) (jm Z (jg Z Z (.t _) (fun hg => jf F26_1 Z) (jg Z Z (.t _) (fun hg => jl k1 O21 (evg Z hg) Z) (jg Z Z (.t _) (fun hg => jf F26_1 Z) (jg Z Z (.t _) (fun hg => jl k0 O21 (evg Z hg) Z) (jg Z Z (.t _) (fun hg => jeql (evg Z hg) (evg Z hg)) (js (jand Z Z) (jm Z (jg Z Z (.t _) (fun hg => jf F26_2 Z) (jg Z Z (.t _) (fun hg => jl k1 O23 (evg Z hg) Z) ?_)))))))))))
 refine jg Z Z (.t _) (fun hg => jf F26_2 Z) (jg Z Z (.t _) (fun hg => jl k0 O23 (evg Z hg) Z) (jdq (rOutcome.c_Mem d0) fun q1 w1 => jdq (rOutcome.c_Mem d1) fun q2 w2 => jgc Z Z (.t _) E42 Z (fun hg => evl2 (evg Z hg) (evg Z hg)) (fun hg => seq_ct) (fun hg => (dc (rOutcome.c_Mem d0) (dc (rOutcome.c_Mem d1) dn))) kn p0 (js (jand Z Z) (jm Z (jg Z Z (.t _) (fun hg => jf F26_3 Z) (jg Z Z (.t _) (fun hg => jl k1 O24 (evg Z hg) Z) (jg Z Z (.t _) (fun hg => jf F26_3 Z) (jg Z Z (.t _) (fun hg => jl k0 O24 (evg Z hg) Z) (jdq (rOutcome.c_Calls d0) fun q3 w3 => ?_)))))))))
 refine jdq (rOutcome.c_Calls d1) fun q4 w4 => jgc Z Z (.t _) E43 Z (fun hg => evl3 (evg Z hg) (evg Z hg) Z) (fun hg => evs_ct) (fun hg => (dc (rOutcome.c_Calls d0) (dc (rOutcome.c_Calls d1) dn))) kn p0 (js (jand Z Z) (ja Z (jn (jx (jrt ?_)))))
 exact jrB Z Z ((sameO_b a b))
def mem1 (b : Int) (m : Mk) : Int × Mk :=
 let m1 := constS b (IntKind.i32.wrap (tVV 9 m)) (tSS m)
 let m2 := tSS m1
 if tVV 3 m1 = 0 then
   let m3 := sS9 b m2
   let m4 := constS b 7 m3
   let m6 := addS b ⟨5,m4.nx,0,[sV9 m2,m3.nx],0⟩ (freshS m4)
   (m6.nx,addS b ⟨2,m6.nx,0,[(tSS m).nx,m4.nx],0⟩ (freshS m6))
 else ((tSS m).nx,m2)
def mem2 (m : Mk) : Int × Mk :=
 let m2 := tSS (tSS m)
 if tVV 12 (tSS m) = 0 then (wordV m2,wordS m2) else (IntKind.i32.wrap (tVV 4 m),m2)
def memS (b : Int) (st : Bool) (m : Mk) : Mk :=
 let a := mem1 b m
 let i := mem2 a.2
 if st then addS b ⟨16,0,0,[a.1,sV9 i.2],i.1⟩ (sS9 b i.2) else addS b ⟨15,i.2.nx,0,[a.1],i.1⟩ (freshS i.2)
def argsL (b : Int) : Nat → List Int → Mk → List Int × Mk
 | 0,l,m => (l,m)
 | n + 1,l,m => argsL b n (l ++ [sV9 m]) (sS9 b m)
def insS (b : Int) (m : Mk) : Mk :=
 let k := tVV 20 m
 let m1 := tSS m
 let m2 := sS9 b m1
 let m3 := sS9 b m2
 if k < 12 then
   if tVV 3 m3 = 0 then
     let m4 := constS b (IntKind.i32.wrap (tVV 40 (tSS m3) - 8)) (tSS (tSS m3))
     addS b ⟨ix [2,2,3,4,5,6,7,8,9,10,12,11] k.toNat,m4.nx,0,[sV9 m1,(tSS (tSS m3)).nx],0⟩ (freshS m4)
   else addS b ⟨ix [2,2,3,4,5,6,7,8,9,10,12,11] k.toNat,(tSS m3).nx,0,[sV9 m1,sV9 m2],0⟩ (freshS (tSS m3))
 else if k = 12 then addS b ⟨13,m3.nx,0,[sV9 m1,sV9 m2],0⟩ (freshS m3)
 else if k = 13 then
   let m4 := constS b (IntKind.i32.wrap (tVV 12 m2)) (tSS m2)
   if 0 < tVV 3 m4 then
     let m5 := constS b (IntKind.i32.wrap (1 + IntKind.i32.wrap (tVV 12 (tSS m4)))) (tSS (tSS m4))
     addS b ⟨14,m5.nx,0,[sV9 m1,(tSS (tSS m4)).nx],0⟩ (freshS m5)
   else addS b ⟨14,(tSS m4).nx,0,[sV9 m1,(tSS m2).nx],0⟩ (freshS (tSS m4))
 else if k < 16 then memS b (decide (k = 15)) m1
 else if k = 16 then
   let r := argsL b (tVV 5 m1).toNat [] (tSS m1)
   addS b ⟨17,r.2.nx,0,r.1,IntKind.i32.wrap (tVV 5 (freshS r.2))⟩ (tSS (freshS r.2))
 else if k = 17 then addS b ⟨18,m3.nx,(freshS m3).nx,[sV9 m1,sV9 m2],0⟩ (freshS (freshS m3))
 else constS b (wordV m1) (wordS m1)
def setT (b : Int) (t : D.Term) (m : Mk) : Mk := { m with bs := m.bs.set b.toNat { (ix m.bs b.toNat) with Term := t } }
def endS (b : Int) (l : List Int) (m : Mk) : Mk :=
 if l.length = 0 then
   if tVV 8 m = 0 then setT b ⟨5,[],[],IntKind.i32.wrap (tVV 200 (tSS m))⟩ (tSS (tSS m))
   else if tVV 8 m > 1 then setT b ⟨4,[sV9 (tSS m)],[],0⟩ (sS9 b (tSS m))
   else setT b ⟨4,[],[],0⟩ (tSS m)
 else if l.length = 1 then setT b ⟨1,[],l,0⟩ m
 else if l.length = 2 then
   let m1 := sS9 b m
   let m2 := tSS m1
   if tVV 2 m1 = 0 then
     let m3 := sS9 b m2
     let m4 := freshS m3
     setT b ⟨2,[m3.nx],l,0⟩ (addS b ⟨ix [11,12,13] (tVV 3 m4).toNat,m3.nx,0,[sV9 m,sV9 m2],0⟩ (tSS m4))
   else setT b ⟨2,[sV9 m],l,0⟩ m2
 else
   let m1 := sS9 b m
   let m2 := constS b 7 m1
   setT b ⟨3,[m2.nx],l,0⟩ (addS b ⟨5,m2.nx,0,[sV9 m,m1.nx],0⟩ (freshS m2))
section
variable {nb c : Nat} {m : Mk} {b : Int}
theorem args_len : ∀ (n : Nat) (l : List Int) (m : Mk),(argsL b n l m).1.length = l.length + n
 | 0,_,_ => rfl
 | n + 1,l,m => by rw [argsL,args_len n]; simp; omega
end
def predsT3 (bs : List D.Block) : Nat → Int → List Int
 | 0,_ => []
 | k + 1,b => predsT3 bs k b ++ (if (ix bs k).Term.To.any (fun y => decide (y = b)) then [(k : Int)] else [])
def pd3 (f : D.Func) (b : Int) : List Int := predsT3 f.Blocks f.Blocks.length b
def cnt3 (l : List Bool) : Nat := l.countP (fun x => !x)
theorem cnt3_set {l : List Bool} {i : Nat} (hi : i < l.length) (h : ix l i = false) : cnt3 (l.set i true) + 1 = cnt3 l := by
 unfold cnt3
 have h2 : l[i] = false := by rw [← ix_eq hi]; exact h
 rw [List.countP_set hi]
 have : 0 < l.countP (fun x => !x) := List.countP_pos_iff.2 ⟨_,List.getElem_mem hi,by simp [h2]⟩
 simp [h2]; omega
theorem cnt3_rep (n : Nat) : cnt3 (List.replicate n false) = n := by simp [cnt3,List.countP_replicate]
theorem ix_rep (n i : Nat) : ix (List.replicate n false) i = false := by by_cases h : i < n <;> simp [ix,h]
def b3In (w : Int) : List Bool → List Int → List Int → List Bool × List Int
 | se,q,[] => (se,q)
 | se,q,t :: ts => if (0 ≤ t ∧ t < se.length) ∧ ix se t.toNat = false ∧ t ≠ w then b3In w (se.set t.toNat true) (q ++ [t]) ts else b3In w se q ts
def b3 (bs : List D.Block) (w : Int) : Nat → List Bool → List Int → Nat → List Bool
 | 0,se,_,_ => se
 | f + 1,se,q,i => if i < q.length then b3 bs w f (b3In w se q (ix bs (ix q i).toNat).Term.To).1 (b3In w se q (ix bs (ix q i).toNat).Term.To).2 (i + 1) else se
def reach3 (f : D.Func) (w : Int) : List Bool :=
 if w ≠ 0 ∧ 0 < f.Blocks.length then b3 f.Blocks w f.Blocks.length ((List.replicate f.Blocks.length false).set 0 true) [0] 0
 else List.replicate f.Blocks.length false
theorem b3In_len {w : Int} : ∀ (T : List Int) (se : List Bool) (q : List Int),(b3In w se q T).1.length = se.length
 | [],_,_ => rfl
 | t :: ts,se,q => by rw [b3In]; split; (· rw [b3In_len ts]; simp); exact b3In_len ts se q
def numsL (n : Nat) : List Int := (List.range n).map (fun (i : Nat) => (i : Int))
theorem ix_set {α : Type} [Inhabited α] {l : List α} {i j : Nat} {a : α} (hj : j < l.length) : ix (l.set j a) i = if i = j then a else ix l i := by
 by_cases h : i = j
 · subst h; rw [if_pos rfl]; simp [ix,hj]
 · rw [if_neg h]; simp [ix,List.getElem?_set_ne (Ne.symm h)]
def fnM (m : Mk) : D.Func := ⟨m.par,m.bs⟩
def addP (b : Nat) (m : Mk) : Mk := { (freshS m) with bs := (freshS m).bs.set b { (ix (freshS m).bs b) with Phis := (ix (freshS m).bs b).Phis ++ [⟨m.nx,[]⟩] } }
def phiN (b : Nat) : Nat → Mk → Mk
 | 0,m => m
 | k + 1,m => phiN b k (addP b m)
def phiR (b : Nat) (ph : List Int) (m : Mk) : List Int :=
 if 1 < (pd3 (fnM m) b).length then ph.set b (tVV 4 m) else if tVV 6 m = 0 then ph.set b 1 else ph
def phiS : Nat → Nat → List Int → Mk → List Int × Mk
 | 0,_,ph,m => (ph,m)
 | k + 1,b,ph,m => phiS k (b + 1) (phiR b ph m) (phiN b (ix (phiR b ph m) b).toNat (tSS m))
def okA (f : D.Func) (dn : List Bool) (b a : Nat) : Bool := decide (a = b) || (ix dn a || ix (reach3 f (a : Int)) b)
def readyF (f : D.Func) (dn : List Bool) (b a : Nat) : Bool := !(ix dn b) && (List.range a).all (fun i => okA f dn b i)
def skipA (f : D.Func) (dn : List Bool) (b a : Nat) : Bool := !(decide (a = b)) && (!(ix dn a) || ix (reach3 f (a : Int)) b)
def lvB (f : D.Func) (dn : List Bool) (b a : Nat) : List Int := if skipA f dn b a then [] else (ix f.Blocks a).Phis.map (·.Dst) ++ (ix f.Blocks a).Ins.flatMap makes3
def lvF (f : D.Func) (dn : List Bool) (b a : Nat) : List Int := numsL f.Params.toNat ++ (List.range a).flatMap (fun i => lvB f dn b i)
def insN (b : Nat) : Nat → Mk → Mk
 | 0,m => m
 | k + 1,m => insN b k (insS b m)
def lvM (n b : Nat) (dn : List Bool) (m : Mk) : Mk := { m with lv := lvF (fnM m) dn b n }
def blkM (n : Nat) (to : List (List Int)) (b : Nat) (dn : List Bool) (m : Mk) : Mk := endS b (ix to b) (insN b (tVV 7 (lvM n b dn m)).toNat (tSS (lvM n b dn m)))
def rowS (n : Nat) (to : List (List Int)) : Nat → Nat → List Bool → Mk → List Bool × Mk
 | 0,_,dn,m => (dn,m)
 | k + 1,b,dn,m => if readyF (fnM m) dn b n then rowS n to k (b + 1) (dn.set b true) (blkM n to b (dn.set b true) m) else rowS n to k (b + 1) dn m
theorem rng_set {ph : List Int} {b : Nat} {x : Int} (h : ∀ j,0 ≤ ix ph j ∧ ix ph j ≤ 3) (hx : 0 ≤ x ∧ x ≤ 3) : ∀ j,0 ≤ ix (ph.set b x) j ∧ ix (ph.set b x) j ≤ 3 := by
 intro j
 by_cases e : b < ph.length
 · rw [ix_set e]; split
   · exact hx
   · exact h j
 · rw [List.set_eq_of_length_le (by omega)]; exact h j
def phiOK (b : Nat) (ph : List Int) (m : Mk) : Prop := (∀ j,(ix m.bs j).Phis.length = if j < b then (ix ph j).toNat else 0) ∧ ∀ j,b ≤ j → ix ph j = 0
theorem addP_len {b : Nat} {m : Mk} (hb : b < m.bs.length) (j : Nat) : (ix (addP b m).bs j).Phis.length = (ix m.bs j).Phis.length + if j = b then 1 else 0 := by
 show (ix (m.bs.set b _) j).Phis.length = _
 rw [ix_set hb]
 split
 · rename_i e; subst e; simp [freshS]
 · rfl
theorem phiN_len {b : Nat} : ∀ (k : Nat) (m : Mk),b < m.bs.length → ∀ j,(ix (phiN b k m).bs j).Phis.length = (ix m.bs j).Phis.length + if j = b then k else 0
 | 0,m,_,j => by simp [phiN]
 | k + 1,m,hb,j => by
   rw [phiN,phiN_len k (addP b m) (by simpa [addP,freshS] using hb) j,addP_len hb]
   split <;> omega
theorem phi_step {b : Nat} {ph ph' : List Int} {m : Mk} (h : phiOK b ph m) (hb : b < m.bs.length) (hl : b < ph.length) (hp : ph' = phiR b ph m) : phiOK (b + 1) ph' (phiN b (ix ph' b).toNat (tSS m)) := by
 have hne : ∀ j,j ≠ b → ix ph' j = ix ph j := fun j hj => by
   rw [hp]; unfold phiR; (repeat' split) <;> first | rfl | (rw [ix_set hl,if_neg hj])
 refine ⟨fun j => ?_,fun j hj => by rw [hne j (by omega)]; exact h.2 j (by omega)⟩
 rw [phiN_len _ _ (by exact hb) j]
 show (ix m.bs j).Phis.length + _ = _
 rw [h.1 j]
 by_cases e : j = b
 · subst e; rw [if_neg (by omega),if_pos rfl,if_pos (by omega)]; omega
 · rw [if_neg e,hne j e]
   by_cases e2 : j < b
   · rw [if_pos e2,if_pos (by omega)]; rfl
   · rw [if_neg e2,if_neg (by omega)]
theorem phiR_rng {b : Nat} {ph : List Int} {m : Mk} (h : ∀ j,0 ≤ ix ph j ∧ ix ph j ≤ 3) : ∀ j,0 ≤ ix (phiR b ph m) j ∧ ix (phiR b ph m) j ≤ 3 := by
 have h4 := tV9 (n := 4) (by omega) m
 unfold phiR; split
 · exact rng_set h (by omega)
 split
 · exact rng_set h (by omega)
 · exact h
theorem phiR_len {b : Nat} {ph : List Int} {m : Mk} : (phiR b ph m).length = ph.length := by unfold phiR; (repeat' split) <;> simp
def goodI (i : D.Ins) : Prop := (0 ≤ i.Op ∧ i.Op ≤ 1000) ∧ (i.Op = 1 ∨ i.Op = 17 ∨ (i.Op = 15 ∧ 1 ≤ i.Args.length) ∨ 2 ≤ i.Args.length)
def goodT (t : D.Term) : Prop := (t.Kind ≠ 2 ∨ (1 ≤ t.Args.length ∧ 2 ≤ t.To.length)) ∧ (t.Kind ≠ 3 ∨ 1 ≤ t.Args.length)
def goodB (b : D.Block) : Prop := (∀ i ∈ b.Ins,goodI i) ∧ goodT b.Term
def goodF (f : D.Func) : Prop := ∀ b ∈ f.Blocks,goodB b
theorem goodF.ins {f : D.Func} (h : goodF f) {b j : Nat} (hb : b < f.Blocks.length) (hj : j < (ix f.Blocks b).Ins.length) : (0 ≤ (ix (ix f.Blocks b).Ins j).Op ∧ (ix (ix f.Blocks b).Ins j).Op ≤ 1000) ∧ ((ix (ix f.Blocks b).Ins j).Op = 1 ∨ (ix (ix f.Blocks b).Ins j).Op = 17 ∨ ((ix (ix f.Blocks b).Ins j).Op = 15 ∧ 1 ≤ (ix (ix f.Blocks b).Ins j).Args.length) ∨ 2 ≤ (ix (ix f.Blocks b).Ins j).Args.length) :=
 (h _ (ix_mem hb)).1 _ (ix_mem hj)
def goodM (m : Mk) : Prop := ∀ b ∈ m.bs,goodB b
theorem goodB0 : goodB default := ⟨fun _ h => (List.not_mem_nil h).elim,⟨.inl (by decide),.inl (by decide)⟩⟩
theorem goodM.ix {m : Mk} (h : goodM m) (j : Nat) : goodB (ix m.bs j) := by
 by_cases hj : j < m.bs.length
 · exact h _ (ix_mem hj)
 · have : JE.ix m.bs j = default := by simp [JE.ix,hj]
   rw [this]; exact goodB0
theorem goodM.set {m : Mk} (h : goodM m) {j : Nat} {x : D.Block} (hx : goodB x) : goodM { m with bs := m.bs.set j x } := fun b hb => by
 rcases List.mem_or_eq_of_mem_set hb with h1 | h1
 · exact h b h1
 · exact h1 ▸ hx
def fgM (nb c : Nat) (m : Mk) : Prop := okM nb c m ∧ goodM m
theorem fgM.mono {nb c c' : Nat} {m : Mk} (h : fgM nb c m) (hc : c ≤ c') : fgM nb c' m := ⟨h.1.mono hc,h.2⟩
theorem ixd_set {l : List Bool} {i j : Nat} : ix (l.set j true) i = true → i = j ∨ ix l i = true := by
 intro h
 by_cases hj : j < l.length
 · rw [ix_set hj] at h; split at h; (· left; assumption); right; exact h
 · rw [List.set_eq_of_length_le (by omega)] at h; exact .inr h
theorem ix_up {l : List Bool} {i j : Nat} (h : ix l i = true) : ix (l.set j true) i = true := by
 by_cases hj : j < l.length
 · rw [ix_set hj]; split; rfl; exact h
 · rw [List.set_eq_of_length_le (by omega)]; exact h
theorem ix_len {l : List Bool} {i : Nat} (h : ix l i = true) : i < l.length := by
 rcases Nat.lt_or_ge i l.length with h1 | h1
 · exact h1
 · simp [ix,List.getD,List.getElem?_eq_none h1] at h
section
variable {w : Int}
theorem b3In_mono : ∀ (ts : List Int) (se : List Bool) (q : List Int) (j : Nat),ix se j = true → ix (b3In w se q ts).1 j = true
 | [],_,_,_,h => h
 | t :: ts,se,q,j,h => by rw [b3In]; split; exact b3In_mono ts _ _ j (ix_up h); exact b3In_mono ts _ _ j h
theorem b3In_app : ∀ (ts : List Int) (se : List Bool) (q : List Int),∃ u,(b3In w se q ts).2 = q ++ u
 | [],_,q => ⟨[],by simp [b3In]⟩
 | t :: ts,se,q => by
   rw [b3In]; split
   · obtain ⟨u,h⟩ := b3In_app ts (se.set t.toNat true) (q ++ [t]); exact ⟨t :: u,by rw [h]; simp⟩
   · exact b3In_app ts se q
theorem b3In_cl : ∀ (ts : List Int) (se : List Bool) (q : List Int),∀ t ∈ ts,0 ≤ t → t < se.length → t ≠ w → ix (b3In w se q ts).1 t.toNat = true
 | [],_,_,t,h,_,_,_ => by cases h
 | y :: ts,se,q,t,h,h0,h1,h2 => by
   rw [b3In]
   rcases List.mem_cons.1 h with rfl | h
   · split
     · exact b3In_mono ts _ _ _ (by rw [ix_set (by omega),if_pos rfl])
     · rename_i h9
       refine b3In_mono ts _ _ _ ?_
       cases h8 : ix se t.toNat with
       | true => rfl
       | false => exact absurd ⟨⟨h0,h1⟩,h8,h2⟩ h9
   · split
     · exact b3In_cl ts _ _ t h h0 (by simpa using h1) h2
     · exact b3In_cl ts _ _ t h h0 h1 h2
theorem b3In_q : ∀ (ts : List Int) (se : List Bool) (q : List Int),(∀ j : Nat,ix se j = true → (j : Int) ∈ q) → ∀ j : Nat,ix (b3In w se q ts).1 j = true → (j : Int) ∈ (b3In w se q ts).2
 | [],_,_,h,j,hj => h j hj
 | t :: ts,se,q,h,j,hj => by
   rw [b3In] at hj ⊢
   split at hj
   · rename_i h9
     rw [if_pos h9]
     refine b3In_q ts _ _ (fun i hi => ?_) j hj
     rcases ixd_set hi with e | e
     · rw [e]; simp; right; omega
     · simp [h i e]
   · rename_i h9
     rw [if_neg h9]; exact b3In_q ts _ _ h j hj
theorem b3In_cnt : ∀ (ts : List Int) (se : List Bool) (q : List Int),(b3In w se q ts).2.length + cnt3 (b3In w se q ts).1 = q.length + cnt3 se
 | [],_,_ => rfl
 | t :: ts,se,q => by
   rw [b3In]; split
   · rename_i h9
     rw [b3In_cnt ts]
     have := cnt3_set (l := se) (i := t.toNat) (by omega) h9.2.1
     rw [List.length_append]; simp; omega
   · exact b3In_cnt ts _ _
end
theorem b3_cl {bs : List D.Block} {w : Int} : ∀ (f : Nat) (se : List Bool) (q : List Int) (i : Nat),bs.length ≤ f + i → se.length = bs.length → q.length + cnt3 se ≤ bs.length →
   (∀ j : Nat,ix se j = true → (j : Int) ∈ q) → (∀ j,j < i → j < q.length → ∀ t ∈ (ix bs (ix q j).toNat).Term.To,0 ≤ t → t < bs.length → t ≠ w → ix se t.toNat = true) →
   (∀ j,ix se j = true → ix (b3 bs w f se q i) j = true) ∧ ∀ x : Nat,ix (b3 bs w f se q i) x = true → ∀ t ∈ (ix bs x).Term.To,0 ≤ t → t < bs.length → t ≠ w → ix (b3 bs w f se q i) t.toNat = true
 | 0,se,q,i,hf,hl,hc,hq,hp => by
   refine ⟨fun j h => h,fun x hx t ht h0 h1 h2 => ?_⟩
   obtain ⟨j,hj,e⟩ := List.getElem_of_mem (hq x hx)
   have e2 : ix q j = x := by rw [ix_eq hj]; exact e
   exact hp j (by omega) hj t (by rw [e2]; simpa using ht) h0 h1 h2
 | f + 1,se,q,i,hf,hl,hc,hq,hp => by
   rw [b3]
   by_cases hi : i < q.length
   · rw [if_pos hi]
     obtain ⟨u,hu⟩ := b3In_app (w := w) (ix bs (ix q i).toNat).Term.To se q
     have hcn := b3In_cnt (w := w) (ix bs (ix q i).toNat).Term.To se q
     obtain ⟨a,b⟩ := b3_cl (bs := bs) (w := w) f (b3In w se q (ix bs (ix q i).toNat).Term.To).1 (b3In w se q (ix bs (ix q i).toNat).Term.To).2 (i + 1) (by omega) (by rw [b3In_len]; exact hl) (by omega)
       (b3In_q _ _ _ hq) (fun j hj hj2 t ht h0 h1 h2 => by
         rw [hu] at ht
         rcases Nat.lt_or_ge j i with h | h
         · rw [ix_app (l := q) (i := j) (by omega)] at ht
           exact b3In_mono _ _ _ _ (hp j h (by omega) t ht h0 h1 h2)
         · rw [show j = i by omega,ix_app hi] at ht
           exact b3In_cl _ _ _ t ht h0 (by omega) h2)
     exact ⟨fun j hj => a j (b3In_mono _ _ _ _ hj),b⟩
   · rw [if_neg hi]
     refine ⟨fun j h => h,fun x hx t ht h0 h1 h2 => ?_⟩
     obtain ⟨j,hj,e⟩ := List.getElem_of_mem (hq x hx)
     have e2 : ix q j = x := by rw [ix_eq hj]; exact e
     exact hp j (by omega) hj t (by rw [e2]; simpa using ht) h0 h1 h2
theorem reach3_cl {f : D.Func} {w : Int} (hw : w ≠ 0) (hn : 0 < f.Blocks.length) : ix (reach3 f w) 0 = true ∧ ∀ x : Nat,ix (reach3 f w) x = true → ∀ t ∈ (ix f.Blocks x).Term.To,0 ≤ t → t < f.Blocks.length → t ≠ w → ix (reach3 f w) t.toNat = true := by
 unfold reach3
 rw [if_pos ⟨hw,hn⟩]
 have h0 : ix ((List.replicate f.Blocks.length false).set 0 true) 0 = true := by rw [ix_set (by simpa using hn),if_pos rfl]
 obtain ⟨a,b⟩ := b3_cl (bs := f.Blocks) (w := w) f.Blocks.length ((List.replicate f.Blocks.length false).set 0 true) [0] 0 (by omega) (by simp)
   (by have := cnt3_set (l := List.replicate f.Blocks.length false) (i := 0) (by simpa using hn) (ix_rep _ _); rw [cnt3_rep] at this; simp; omega)
   (fun j hj => by rcases ixd_set hj with e | e; (· subst e; simp); rw [ix_rep] at e; cases e) (fun j hj => by omega)
 exact ⟨a 0 h0,b⟩
def Parent (n : Nat) (to : Nat → List Int) : Prop := ∀ b : Nat,1 ≤ b → b < n → ∃ p,p < b ∧ (b : Int) ∈ to p
def TR (n : Nat) (L : Nat) (to : List (List Int)) : Prop := to.length = n ∧ (∀ j,(ix to j).length ≤ L) ∧ ∀ j,∀ t ∈ ix to j,1 ≤ t ∧ t < n
def PB (b : Int) (to : List (List Int)) : Prop := ∀ c : Nat,1 ≤ c → (c : Int) < b → ∃ p,p < c ∧ (c : Int) ∈ ix to p
theorem TR.mono {n L M : Nat} {to : List (List Int)} (h : TR n L to) (hl : L ≤ M) : TR n M to := ⟨h.1,fun j => Nat.le_trans (h.2.1 j) hl,h.2.2⟩
theorem ix_put {to : List (List Int)} {p : Nat} {x : Int} (hp : p < to.length) (j : Nat) : ix (to.set p (to.getD p [] ++ [x])) j = if j = p then ix to p ++ [x] else ix to j := by
 rw [ix_set hp]; rfl
theorem TR.put {n L p : Nat} {to : List (List Int)} {x : Int} (h : TR n L to) (hp : p < n) (hx : 1 ≤ x ∧ x < n) : TR n (L + 1) (to.set p (to.getD p [] ++ [x])) := by
 have hp' : p < to.length := by rw [h.1]; exact hp
 refine ⟨by rw [List.length_set]; exact h.1,fun j => ?_,fun j t ht => ?_⟩
 · rw [ix_put hp']; split
   · rw [List.length_append]; have := h.2.1 p; simp; omega
   · have := h.2.1 j; omega
 · rw [ix_put hp'] at ht; split at ht
   · rcases List.mem_append.1 ht with h1 | h1
     · exact h.2.2 p t h1
     · simp at h1; subst h1; exact hx
   · exact h.2.2 j t ht
theorem mem_put {to : List (List Int)} {p j : Nat} {x y : Int} (hp : p < to.length) (h : y ∈ ix to j) : y ∈ ix (to.set p (to.getD p [] ++ [x])) j := by
 rw [ix_put hp]; split
 · rename_i e; subst e; simp [h]
 · exact h
theorem PB.put {to : List (List Int)} {b : Int} {p : Nat} {x : Int} (h : PB b to) (hp : p < to.length) : PB b (to.set p (to.getD p [] ++ [x])) := fun c h1 h2 => by
 obtain ⟨q,h3,h4⟩ := h c h1 h2
 exact ⟨q,h3,mem_put hp h4⟩
theorem PB.next {to : List (List Int)} {b : Int} {p : Nat} (h : PB b to) (hp : p < to.length) (hb : (p : Int) < b) : PB (b + 1) (to.set p (to.getD p [] ++ [b])) := fun c h1 h2 => by
 by_cases e : (c : Int) = b
 · refine ⟨p,by omega,?_⟩
   rw [ix_put hp,if_pos rfl,e]; simp
 · exact h.put hp c h1 (by omega)
def gI (n : Int) (i : D.Ins) : Prop := (1 ≤ i.Op ∧ i.Op ≤ 18) ∧ (i.Op = 1 ∨ i.Op = 17 ∨ (i.Op = 15 ∧ 1 ≤ i.Args.length) ∨ 2 ≤ i.Args.length) ∧ i.Args.length ≤ 4 ∧ (∀ a ∈ i.Args,0 ≤ a ∧ a < n) ∧ (∀ d ∈ makes3 i,0 ≤ d ∧ d < n) ∧ (i.Op = 18 → i.Dst ≠ i.Two)
def gT (n : Int) (t : D.Term) : Prop := (1 ≤ t.Kind ∧ t.Kind ≤ 5) ∧ (∀ a ∈ t.Args,0 ≤ a ∧ a < n) ∧ (t.Kind = 1 → t.To.length = 1) ∧ (t.Kind = 2 → t.To.length = 2 ∧ 1 ≤ t.Args.length) ∧ (t.Kind = 3 → 2 ≤ t.To.length ∧ t.To.length ≤ 65 ∧ 1 ≤ t.Args.length) ∧ (4 ≤ t.Kind → t.To = [])
def gP (n : Int) (p : D.Phi) : Prop := (0 ≤ p.Dst ∧ p.Dst < n) ∧ ∀ x ∈ p.In,0 ≤ x.Val ∧ x.Val < n
def gB (n : Int) (x : D.Block) : Prop := (∀ i ∈ x.Ins,gI n i) ∧ (∀ p ∈ x.Phis,gP n p) ∧ (x.Term.Kind = 0 ∨ gT n x.Term) ∧ (x.Phis.map (·.Dst)).Nodup
def cI : List D.Block → Nat
 | [] => 0
 | x :: l => x.Ins.length + cI l
theorem cI_set : ∀ {l : List D.Block} {j d : Nat} {b : D.Block},b.Ins.length ≤ (ix l j).Ins.length + d → cI (l.set j b) ≤ cI l + d
 | [],_,_,_,_ => by simp [cI]
 | x :: l,0,_,b,h => by rw [ix_zero] at h; rw [List.set_cons_zero,cI,cI]; omega
 | x :: l,j + 1,d,b,h => by rw [ix_cons] at h; rw [List.set_cons_succ,cI,cI]; have := cI_set (l := l) h; omega
section
variable {n n' : Int}
theorem gI.mono {i : D.Ins} (h : gI n i) (hn : n ≤ n') : gI n' i := ⟨h.1,h.2.1,h.2.2.1,fun a ha => by have := h.2.2.2.1 a ha; omega,fun a ha => by have := h.2.2.2.2.1 a ha; omega,h.2.2.2.2.2⟩
theorem gT.mono {t : D.Term} (h : gT n t) (hn : n ≤ n') : gT n' t := ⟨h.1,fun a ha => by have := h.2.1 a ha; omega,h.2.2⟩
theorem gP.mono {p : D.Phi} (h : gP n p) (hn : n ≤ n') : gP n' p := ⟨by have := h.1; omega,fun x hx => by have := h.2 x hx; omega⟩
theorem gB.mono {x : D.Block} (h : gB n x) (hn : n ≤ n') : gB n' x := ⟨fun i hi => (h.1 i hi).mono hn,fun i hi => (h.2.1 i hi).mono hn,h.2.2.1.imp id (fun h => h.mono hn),h.2.2.2⟩
end
structure RI (n b c : Nat) (to : List (List Int)) (m : Mk) : Prop where
 len : m.bs.length = n
 par : 0 ≤ m.par ∧ m.par ≤ 4
 nx : m.par ≤ m.nx ∧ m.nx ≤ c
 cnt : cI m.bs ≤ c
 lv : ∀ x ∈ m.lv,0 ≤ x ∧ x < m.nx
 blk : ∀ j,j < n → gB m.nx (ix m.bs j)
 tos : ∀ j,j < n → (ix m.bs j).Term.To = ix to j
 kd : ∀ j,j < b → j < n → (ix m.bs j).Term.Kind ≠ 0
section
variable {n b c d : Nat} {to : List (List Int)} {m : Mk}
theorem RI.mono (h : RI n b c to m) (hc : c ≤ d) : RI n b d to m := ⟨h.len,h.par,by have := h.nx; omega,by have := h.cnt; omega,h.lv,h.blk,h.tos,h.kd⟩
theorem RI.take (h : RI n b c to m) : RI n b c to (tSS m) := ⟨h.len,h.par,h.nx,h.cnt,h.lv,h.blk,h.tos,h.kd⟩
theorem RI.fresh (h : RI n b c to m) : RI n b (c + 1) to (freshS m) where
 len := h.len
 par := h.par
 nx := by have := h.nx; show m.par ≤ m.nx + 1 ∧ m.nx + 1 ≤ _; omega
 cnt := by have := h.cnt; show cI m.bs ≤ _; omega
 lv := fun x hx => by have := h.lv x hx; show 0 ≤ x ∧ x < m.nx + 1; omega
 blk := fun j hj => (h.blk j hj).mono (by show m.nx ≤ m.nx + 1; omega)
 tos := h.tos
 kd := h.kd
theorem RI.add {i : D.Ins} {j : Int} (h : RI n b c to m) (hj : 0 ≤ j ∧ j < n) (hi : gI m.nx i) : RI n b (c + 1) to (addS j i m) where
 len := by show (m.bs.set _ _).length = n; rw [List.length_set]; exact h.len
 par := h.par
 nx := by have := h.nx; show m.par ≤ m.nx ∧ m.nx ≤ _; omega
 cnt := by
   have h1 := cI_set (l := m.bs) (j := j.toNat) (d := 1) (b := { (ix m.bs j.toNat) with Ins := (ix m.bs j.toNat).Ins ++ [i] }) (by dsimp only; rw [List.length_append]; exact Nat.le_refl _)
   have h2 := h.cnt
   show cI (m.bs.set _ _) ≤ _; omega
 lv := fun x hx => by
   rcases List.mem_append.1 (show x ∈ m.lv ++ makes3 i from hx) with h1 | h1
   · exact h.lv x h1
   · exact hi.2.2.2.2.1 x h1
 blk := fun q hq => by
   show gB m.nx (ix (m.bs.set _ _) q)
   rw [ix_set (by rw [h.len]; omega)]; split
   · have h1 := h.blk j.toNat (by omega)
     refine ⟨fun y hy => ?_,h1.2⟩
     rcases List.mem_append.1 hy with h2 | h2
     · exact h1.1 y h2
     · simp at h2; subst h2; exact hi
   · exact h.blk q hq
 tos := fun q hq => by
   show (ix (m.bs.set _ _) q).Term.To = _
   rw [ix_set (by rw [h.len]; omega)]; split
   · rename_i e; subst e; exact h.tos _ hq
   · exact h.tos q hq
 kd := fun q hb hq => by
   show (ix (m.bs.set _ _) q).Term.Kind ≠ 0
   rw [ix_set (by rw [h.len]; omega)]; split
   · rename_i e; subst e; exact h.kd _ hb hq
   · exact h.kd q hb hq
theorem gI_const {n v : Int} {x : Int} (h : 0 ≤ x ∧ x < n) : gI n ⟨1,x,0,[],v⟩ := ⟨(by dsimp only; omega),.inl rfl,Nat.zero_le _,fun a ha => (by cases ha),fun a ha => (by simp [makes3] at ha; subst ha; exact h),fun h => (by simp at h)⟩
theorem gI_two {n op x a b v : Int} (hop : 2 ≤ op ∧ op ≤ 14) (h : 0 ≤ x ∧ x < n) (ha : 0 ≤ a ∧ a < n) (hb : 0 ≤ b ∧ b < n) : gI n ⟨op,x,0,[a,b],v⟩ :=
 ⟨(by dsimp only; omega),.inr (.inr (.inr (Nat.le_refl _))),(by show 2 ≤ 4; omega),fun y hy => (by simp at hy; rcases hy with rfl | rfl <;> assumption),fun y hy => (by
   have : makes3 ⟨op,x,0,[a,b],v⟩ = [x] := by unfold makes3; rw [if_neg (by dsimp only; omega),if_neg (by dsimp only; omega)]
   rw [this] at hy; simp at hy; subst hy; exact h),fun h => (by dsimp only at h; omega)⟩
theorem RI.const {j v : Int} (h : RI n b c to m) (hj : 0 ≤ j ∧ j < n) : RI n b (c + 2) to (constS j v m) := h.fresh.add hj (gI_const (by have := h.nx; have := h.par; show 0 ≤ m.nx ∧ m.nx < m.nx + 1; omega))
theorem nx_const {j v : Int} : (constS j v m).nx = m.nx + 1 := rfl
theorem RI.word (h : RI n b c to m) : RI n b c to (wordS m) := h.take.take
theorem RI.value (h : RI n b c to m) : RI n b c to (valueS m) ∧ (valueS m).nx = m.nx := by unfold valueS; split; exact ⟨h,rfl⟩; exact ⟨h.take.take,rfl⟩
theorem RI.some0 (h : RI n b c to m) : RI n b c to (someM0 m) ∧ (someM0 m).nx = m.nx := by
 unfold someM0; split
 · exact ⟨h.value.1.take,h.value.2⟩
 · exact h.value
theorem RI.nn (h : RI n b c to m) : 0 ≤ m.nx := by have := h.nx; have := h.par; omega
theorem RI.some {j : Int} (h : RI n b c to m) (hj : 0 ≤ j ∧ j < n) : RI n b (c + 2) to (sS9 j m) ∧ m.nx ≤ (sS9 j m).nx ∧ 0 ≤ sV9 m ∧ sV9 m < (sS9 j m).nx := by
 have h0 := h.some0
 have hn := h.nn
 unfold sS9 sV9
 by_cases hc : someC m = true
 · rw [if_pos hc,if_pos hc,nx_const]
   have : (wordS (someM0 m)).nx = m.nx := h0.2
   exact ⟨h0.1.word.const hj,by omega,by omega,by omega⟩
 · rw [if_neg hc,if_neg hc]
   refine ⟨h0.1.mono (by omega),by omega,?_⟩
   rw [h0.2]
   have hv : valueB m = true := by
     cases h9 : valueB m with
     | true => rfl
     | false => exact absurd (by unfold someC; rw [h9]; rfl) hc
   have hl : m.lv.length ≠ 0 := by unfold valueB at hv; simpa using hv
   unfold valueV
   rw [if_neg hl]
   have hr : 0 ≤ valueI m ∧ valueI m < m.lv.length := by
     unfold valueI; split
     · omega
     · exact tV9 (by omega) m
   have := h.lv _ (ix_mem (l := m.lv) (i := (valueI m).toNat) (by omega))
   exact this
theorem RI.me1 {j : Int} (h : RI n b c to m) (hj : 0 ≤ j ∧ j < n) : RI n b (c + 12) to (mem1 j m).2 ∧ m.nx ≤ (mem1 j m).2.nx ∧ 0 ≤ (mem1 j m).1 ∧ (mem1 j m).1 < (mem1 j m).2.nx := by
 have h1 : RI n b (c + 2) to (constS j (IntKind.i32.wrap (tVV 9 m)) (tSS m)) := h.take.const hj
 have hn := h.nn
 unfold mem1
 dsimp only
 split
 · have h2 := h1.take.some hj
   have e2 : (tSS (constS j (IntKind.i32.wrap (tVV 9 m)) (tSS m))).nx = m.nx + 1 := rfl
   generalize tSS (constS j (IntKind.i32.wrap (tVV 9 m)) (tSS m)) = m2 at h2 e2 ⊢
   have h3 := h2.1
   generalize sS9 j m2 = m3 at h2 h3 ⊢
   have h4 : RI n b (c + 6) to (constS j 7 m3) := h3.const hj
   have e4 : (constS j 7 m3).nx = m3.nx + 1 := rfl
   generalize constS j 7 m3 = m4 at h4 e4 ⊢
   have h6 : RI n b (c + 8) to (addS j ⟨5,m4.nx,0,[sV9 m2,m3.nx],0⟩ (freshS m4)) := h4.fresh.add hj (gI_two (by omega) (by show _ ∧ _ < m4.nx + 1; omega) (by show _ ∧ _ < m4.nx + 1; omega) (by show _ ∧ _ < m4.nx + 1; omega))
   have e6 : (addS j ⟨5,m4.nx,0,[sV9 m2,m3.nx],0⟩ (freshS m4)).nx = m4.nx + 1 := rfl
   generalize addS j ⟨5,m4.nx,0,[sV9 m2,m3.nx],0⟩ (freshS m4) = m6 at h6 e6 ⊢
   have et : (tSS m).nx = m.nx := rfl
   refine ⟨(h6.fresh.add hj (gI_two (by omega) (by show _ ∧ _ < m6.nx + 1; omega) (by show _ ∧ _ < m6.nx + 1; omega) (by show _ ∧ _ < m6.nx + 1; omega))).mono (by omega),?_,?_,?_⟩
   · show m.nx ≤ m6.nx + 1; omega
   · show 0 ≤ m6.nx; omega
   · show m6.nx < m6.nx + 1; omega
 · refine ⟨h1.take.mono (by omega),?_,?_,?_⟩
   · show m.nx ≤ m.nx + 1; omega
   · show 0 ≤ m.nx; omega
   · show m.nx < m.nx + 1; omega
theorem RI.me2 (h : RI n b c to m) : RI n b c to (mem2 m).2 ∧ (mem2 m).2.nx = m.nx := by
 unfold mem2; dsimp only; split
 · exact ⟨h.take.take.word,rfl⟩
 · exact ⟨h.take.take,rfl⟩
theorem RI.mem {j : Int} {st : Bool} (h : RI n b c to m) (hj : 0 ≤ j ∧ j < n) : RI n b (c + 15) to (memS j st m) := by
 have h1 := h.me1 hj
 have h2 := h1.1.me2
 unfold memS
 dsimp only
 have hn := h2.1.nn
 split
 · have h3 := h2.1.some hj
   exact h3.1.add hj ⟨(by dsimp only; omega),.inr (.inr (.inr (Nat.le_refl _))),(by show 2 ≤ 4; omega),fun y hy => (by simp at hy; rcases hy with rfl | rfl <;> omega),fun y hy => (by simp [makes3] at hy),fun h => (by simp at h)⟩
 · refine (h2.1.fresh.add hj ⟨(by dsimp only; omega),.inr (.inr (.inl ⟨rfl,Nat.le_refl _⟩)),(by show 1 ≤ 4; omega),fun y hy => (by simp at hy; subst hy; show _ ∧ _ < _ + 1; omega),fun y hy => (by simp [makes3] at hy; subst hy; show _ ∧ _ < _ + 1; omega),fun h => (by simp at h)⟩).mono (by omega)
theorem RI.args {j : Int} (hj : 0 ≤ j ∧ j < n) : ∀ (k : Nat) {c : Nat} (l : List Int) (m : Mk),RI n b c to m → (∀ x ∈ l,0 ≤ x ∧ x < m.nx) → RI n b (c + 2 * k) to (argsL j k l m).2 ∧ m.nx ≤ (argsL j k l m).2.nx ∧ ∀ x ∈ (argsL j k l m).1,0 ≤ x ∧ x < (argsL j k l m).2.nx
 | 0,_,l,m,h,hl => ⟨h,Int.le_refl _,hl⟩
 | k + 1,c,l,m,h,hl => by
   have h1 := h.some hj
   rw [argsL]
   obtain ⟨a,d,e⟩ := RI.args hj k (l ++ [sV9 m]) (sS9 j m) h1.1 (fun x hx => by
     rcases List.mem_append.1 hx with h2 | h2
     · have := hl x h2; omega
     · simp at h2; subst h2; omega)
   exact ⟨a.mono (by omega),by omega,e⟩
theorem op_rng2 {k : Int} (h : 0 ≤ k ∧ k < 12) : 2 ≤ ix [(2 : Int),2,3,4,5,6,7,8,9,10,12,11] k.toNat ∧ ix [(2 : Int),2,3,4,5,6,7,8,9,10,12,11] k.toNat ≤ 14 := by
 have : ∀ i : Nat,i < 12 → 2 ≤ ix [(2 : Int),2,3,4,5,6,7,8,9,10,12,11] i ∧ ix [(2 : Int),2,3,4,5,6,7,8,9,10,12,11] i ≤ 14 := by decide
 exact this _ (by omega)
theorem op3_rng2 {k : Int} (h : 0 ≤ k ∧ k < 3) : 2 ≤ ix [(11 : Int),12,13] k.toNat ∧ ix [(11 : Int),12,13] k.toNat ≤ 14 := by
 have : ∀ i : Nat,i < 3 → 2 ≤ ix [(11 : Int),12,13] i ∧ ix [(11 : Int),12,13] i ≤ 14 := by decide
 exact this _ (by omega)
theorem RI.ins {j : Int} (h : RI n b c to m) (hj : 0 ≤ j ∧ j < n) : RI n b (c + 16) to (insS j m) := by
 have hn := h.nn
 have hk := tV9 (n := 20) (by omega) m
 have h1 : RI n b c to (tSS m) := h.take
 have e1 : (tSS m).nx = m.nx := rfl
 have h2 := h1.some hj
 have h3 := h2.1.some hj
 unfold insS
 dsimp only
 generalize tVV 20 m = k at hk ⊢
 generalize tSS m = m1 at h1 e1 h2 h3 ⊢
 split
 · split
   · have h4 : RI n b (c + 6) to (constS j (IntKind.i32.wrap (tVV 40 (tSS (sS9 j (sS9 j m1))) - 8)) (tSS (tSS (sS9 j (sS9 j m1))))) := h3.1.take.take.const hj
     have e4 : (constS j (IntKind.i32.wrap (tVV 40 (tSS (sS9 j (sS9 j m1))) - 8)) (tSS (tSS (sS9 j (sS9 j m1))))).nx = (sS9 j (sS9 j m1)).nx + 1 := rfl
     have e5 : (tSS (tSS (sS9 j (sS9 j m1)))).nx = (sS9 j (sS9 j m1)).nx := rfl
     generalize constS j (IntKind.i32.wrap (tVV 40 (tSS (sS9 j (sS9 j m1))) - 8)) (tSS (tSS (sS9 j (sS9 j m1)))) = m4 at h4 e4 ⊢
     exact (h4.fresh.add hj (gI_two (op_rng2 (by omega)) (by show _ ∧ _ < m4.nx + 1; omega) (by show _ ∧ _ < m4.nx + 1; omega) (by show _ ∧ _ < m4.nx + 1; omega))).mono (by omega)
   · have e5 : (tSS (sS9 j (sS9 j m1))).nx = (sS9 j (sS9 j m1)).nx := rfl
     exact (h3.1.take.fresh.add hj (gI_two (op_rng2 (by omega)) (by show _ ∧ _ < (sS9 j (sS9 j m1)).nx + 1; omega) (by show _ ∧ _ < (sS9 j (sS9 j m1)).nx + 1; omega) (by show _ ∧ _ < (sS9 j (sS9 j m1)).nx + 1; omega))).mono (by omega)
 split
 · exact (h3.1.fresh.add hj (gI_two (by omega) (by show _ ∧ _ < (sS9 j (sS9 j m1)).nx + 1; omega) (by show _ ∧ _ < (sS9 j (sS9 j m1)).nx + 1; omega) (by show _ ∧ _ < (sS9 j (sS9 j m1)).nx + 1; omega))).mono (by omega)
 split
 · have h4 : RI n b (c + 4) to (constS j (IntKind.i32.wrap (tVV 12 (sS9 j m1))) (tSS (sS9 j m1))) := h2.1.take.const hj
   have e4 : (constS j (IntKind.i32.wrap (tVV 12 (sS9 j m1))) (tSS (sS9 j m1))).nx = (sS9 j m1).nx + 1 := rfl
   have e9 : (tSS (sS9 j m1)).nx = (sS9 j m1).nx := rfl
   generalize constS j (IntKind.i32.wrap (tVV 12 (sS9 j m1))) (tSS (sS9 j m1)) = m4 at h4 e4 ⊢
   split
   · have h5 : RI n b (c + 6) to (constS j (IntKind.i32.wrap (1 + IntKind.i32.wrap (tVV 12 (tSS m4)))) (tSS (tSS m4))) := h4.take.take.const hj
     have e5 : (constS j (IntKind.i32.wrap (1 + IntKind.i32.wrap (tVV 12 (tSS m4)))) (tSS (tSS m4))).nx = m4.nx + 1 := rfl
     have e6 : (tSS (tSS m4)).nx = m4.nx := rfl
     generalize constS j (IntKind.i32.wrap (1 + IntKind.i32.wrap (tVV 12 (tSS m4)))) (tSS (tSS m4)) = m5 at h5 e5 ⊢
     exact (h5.fresh.add hj (gI_two (by omega) (by show _ ∧ _ < m5.nx + 1; omega) (by show _ ∧ _ < m5.nx + 1; omega) (by show _ ∧ _ < m5.nx + 1; omega))).mono (by omega)
   · have e6 : (tSS m4).nx = m4.nx := rfl
     exact (h4.take.fresh.add hj (gI_two (by omega) (by show _ ∧ _ < m4.nx + 1; omega) (by show _ ∧ _ < m4.nx + 1; omega) (by show _ ∧ _ < m4.nx + 1; omega))).mono (by omega)
 split
 · exact (h1.mem hj).mono (by omega)
 split
 · have h5 := tV9 (n := 5) (by omega) m1
   obtain ⟨a,d,e⟩ := RI.args hj (tVV 5 m1).toNat [] (tSS m1) h1.take (fun x hx => by cases hx)
   have hl := args_len (b := j) (tVV 5 m1).toNat [] (tSS m1)
   have hn2 := a.nn
   generalize argsL j (tVV 5 m1).toNat [] (tSS m1) = r at a d e hl hn2 ⊢
   refine ((a.fresh.take).add hj ⟨(by dsimp only; omega),.inr (.inl rfl),(by dsimp only; rw [hl]; simp; omega),fun y hy => ?_,fun y hy => ?_,fun h => (by simp at h)⟩).mono (by omega)
   · have := e y hy; show _ ∧ _ < r.2.nx + 1; omega
   · simp [makes3] at hy; subst hy; show 0 ≤ r.2.nx ∧ r.2.nx < r.2.nx + 1; omega
 split
 · refine (h3.1.fresh.fresh.add hj ⟨(by dsimp only; omega),.inr (.inr (.inr (Nat.le_refl _))),(by show 2 ≤ 4; omega),fun y hy => ?_,fun y hy => ?_,fun _ => ?_⟩).mono (by omega)
   · simp at hy; show _ ∧ _ < (sS9 j (sS9 j m1)).nx + 1 + 1
     rcases hy with rfl | rfl <;> omega
   · simp [makes3] at hy; show _ ∧ _ < (sS9 j (sS9 j m1)).nx + 1 + 1
     have e : (freshS (sS9 j (sS9 j m1))).nx = (sS9 j (sS9 j m1)).nx + 1 := rfl
     rcases hy with rfl | rfl <;> omega
   · show (sS9 j (sS9 j m1)).nx ≠ (sS9 j (sS9 j m1)).nx + 1; omega
 · exact (h1.word.const hj).mono (by omega)
theorem RI.setT {t : D.Term} (h : RI n b c to m) (hb : b < n) (ht : gT m.nx t) (hto : t.To = ix to b) : RI n (b + 1) c to (setT (b : Int) t m) where
 len := by show (m.bs.set _ _).length = n; rw [List.length_set]; exact h.len
 par := h.par
 nx := h.nx
 cnt := by
   have h1 := cI_set (l := m.bs) (j := (b : Int).toNat) (d := 0) (b := { (ix m.bs (b : Int).toNat) with Term := t }) (by dsimp only; omega)
   have h2 := h.cnt
   show cI (m.bs.set _ _) ≤ _; omega
 lv := h.lv
 blk := fun q hq => by
   show gB m.nx (ix (m.bs.set _ _) q)
   rw [ix_set (by rw [h.len]; omega)]; split
   · have h1 := h.blk b hb
     exact ⟨h1.1,h1.2.1,.inr ht,h1.2.2.2⟩
   · exact h.blk q hq
 tos := fun q hq => by
   show (ix (m.bs.set _ _) q).Term.To = _
   rw [ix_set (by rw [h.len]; omega)]; split
   · rename_i e; rw [e]; exact hto
   · exact h.tos q hq
 kd := fun q hb' hq => by
   show (ix (m.bs.set _ _) q).Term.Kind ≠ 0
   rw [ix_set (by rw [h.len]; omega)]; split
   · have := ht.1; show t.Kind ≠ 0; omega
   · rename_i e; exact h.kd q (by simp at e; omega) hq
theorem RI.en (h : RI n b c to m) (hb : b < n) (hL : (ix to b).length ≤ 65) : RI n (b + 1) (c + 8) to (endS (b : Int) (ix to b) m) := by
 have hj : 0 ≤ (b : Int) ∧ (b : Int) < n := by omega
 have hn := h.nn
 unfold endS
 split
 · rename_i h0
   have e0 : ix to b = [] := List.eq_nil_of_length_eq_zero h0
   split
   · exact (h.take.take.setT hb ⟨(by dsimp only; omega),fun a ha => (by cases ha),fun h => (by simp at h),fun h => (by simp at h),fun h => (by simp at h),fun _ => rfl⟩ e0.symm).mono (by omega)
   split
   · have h1 := h.take.some hj
     exact (h1.1.setT hb ⟨(by dsimp only; omega),fun a ha => (by simp at ha; subst ha; omega),fun h => (by simp at h),fun h => (by simp at h),fun h => (by simp at h),fun _ => rfl⟩ e0.symm).mono (by omega)
   · exact (h.take.setT hb ⟨(by dsimp only; omega),fun a ha => (by cases ha),fun h => (by simp at h),fun h => (by simp at h),fun h => (by simp at h),fun _ => rfl⟩ e0.symm).mono (by omega)
 split
 · rename_i h1
   exact (h.setT hb ⟨(by dsimp only; omega),fun a ha => (by cases ha),fun _ => h1,fun h => (by simp at h),fun h => (by simp at h),fun h => (by dsimp only at h; omega)⟩ rfl).mono (by omega)
 split
 · rename_i h2
   have h3 := h.some hj
   dsimp only
   split
   · have h4 := h3.1.take.some hj
     have e4 : (tSS (sS9 (b : Int) m)).nx = (sS9 (b : Int) m).nx := rfl
     have ht := tV9 (n := 3) (by omega) (freshS (sS9 (b : Int) (tSS (sS9 (b : Int) m))))
     have h5 : RI n b (c + 6) to (addS (b : Int) ⟨ix [11,12,13] (tVV 3 (freshS (sS9 (b : Int) (tSS (sS9 (b : Int) m))))).toNat,(sS9 (b : Int) (tSS (sS9 (b : Int) m))).nx,0,[sV9 m,sV9 (tSS (sS9 (b : Int) m))],0⟩ (tSS (freshS (sS9 (b : Int) (tSS (sS9 (b : Int) m)))))) :=
       h4.1.fresh.take.add hj (gI_two (op3_rng2 ht) (by show _ ∧ _ < (sS9 (b : Int) (tSS (sS9 (b : Int) m))).nx + 1; omega) (by show _ ∧ _ < (sS9 (b : Int) (tSS (sS9 (b : Int) m))).nx + 1; omega) (by show _ ∧ _ < (sS9 (b : Int) (tSS (sS9 (b : Int) m))).nx + 1; omega))
     refine (h5.setT hb ⟨(by dsimp only; omega),fun a ha => ?_,fun h => (by simp at h),fun _ => ⟨h2,Nat.le_refl _⟩,fun h => (by simp at h),fun h => (by dsimp only at h; omega)⟩ rfl).mono (by omega)
     simp at ha; subst ha
     show 0 ≤ _ ∧ _ < (sS9 (b : Int) (tSS (sS9 (b : Int) m))).nx + 1; omega
   · refine (h3.1.take.setT hb ⟨(by dsimp only; omega),fun a ha => ?_,fun h => (by simp at h),fun _ => ⟨h2,Nat.le_refl _⟩,fun h => (by simp at h),fun h => (by dsimp only at h; omega)⟩ rfl).mono (by omega)
     simp at ha; subst ha
     show 0 ≤ _ ∧ _ < (sS9 (b : Int) m).nx; omega
 · rename_i h0 h1 h2
   have h3 := h.some hj
   dsimp only
   have h4 : RI n b (c + 4) to (constS (b : Int) 7 (sS9 (b : Int) m)) := h3.1.const hj
   have e4 : (constS (b : Int) 7 (sS9 (b : Int) m)).nx = (sS9 (b : Int) m).nx + 1 := rfl
   generalize constS (b : Int) 7 (sS9 (b : Int) m) = m4 at h4 e4 ⊢
   have h5 : RI n b (c + 6) to (addS (b : Int) ⟨5,m4.nx,0,[sV9 m,(sS9 (b : Int) m).nx],0⟩ (freshS m4)) := h4.fresh.add hj (gI_two (by omega) (by show _ ∧ _ < m4.nx + 1; omega) (by show _ ∧ _ < m4.nx + 1; omega) (by show _ ∧ _ < m4.nx + 1; omega))
   refine (h5.setT hb ⟨(by dsimp only; omega),fun a ha => ?_,fun h => (by simp at h),fun h => (by simp at h),fun _ => ⟨(by dsimp only; omega),hL,Nat.le_refl _⟩,fun h => (by dsimp only at h; omega)⟩ rfl).mono (by omega)
   simp at ha; subst ha
   show 0 ≤ m4.nx ∧ m4.nx < m4.nx + 1; omega
end
section
variable {n b c d : Nat} {to : List (List Int)} {m : Mk}
theorem RI.is (hb : b < n) : ∀ (k : Nat) {c : Nat} {m : Mk},RI n b c to m → RI n b (c + 16 * k) to (insN b k m)
 | 0,_,_,h => h
 | k + 1,_,_,h => (RI.is hb k (h.ins (by omega))).mono (by omega)
theorem numsL_mem {k : Nat} {x : Int} (h : x ∈ numsL k) : 0 ≤ x ∧ x < k := by
 unfold numsL at h
 obtain ⟨i,h1,rfl⟩ := List.mem_map.1 h
 have := List.mem_range.1 h1; omega
theorem RI.lm {dn : List Bool} (h : RI n b c to m) : RI n b c to (lvM n b dn m) where
 len := h.len
 par := h.par
 nx := h.nx
 cnt := h.cnt
 lv := fun x hx => by
   show 0 ≤ x ∧ x < m.nx
   rcases List.mem_append.1 (show x ∈ numsL m.par.toNat ++ (List.range n).flatMap (fun i => lvB (fnM m) dn b i) from hx) with h1 | h1
   · have := numsL_mem h1; have := h.nx; have := h.par; omega
   · obtain ⟨a,h2,h3⟩ := List.mem_flatMap.1 h1
     have ha := List.mem_range.1 h2
     have hg := h.blk a ha
     unfold lvB at h3
     split at h3
     · cases h3
     · rcases List.mem_append.1 h3 with h4 | h4
       · obtain ⟨p,h5,rfl⟩ := List.mem_map.1 h4
         exact (hg.2.1 p h5).1
       · obtain ⟨i,h5,h6⟩ := List.mem_flatMap.1 h4
         exact (hg.1 i h5).2.2.2.2.1 x h6
 blk := h.blk
 tos := h.tos
 kd := h.kd
theorem RI.bl {dn : List Bool} (h : RI n b c to m) (hb : b < n) (hL : ∀ j,(ix to j).length ≤ 65) : RI n (b + 1) (c + 120) to (blkM n to b dn m) := by
 unfold blkM
 have h7 := tV9 (n := 7) (by omega) (lvM n b dn m)
 exact (((h.lm (dn := dn)).take.is hb _).en hb (hL b)).mono (by omega)
theorem RI.parent (h : RI n b c to m) (hP : PB n to) : Parent (fnM m).Blocks.length (fun j => (ix (fnM m).Blocks j).Term.To) := fun q h1 h2 => by
 have h2' : q < n := by have := h.len; have e : (fnM m).Blocks = m.bs := rfl; rw [e] at h2; omega
 obtain ⟨p,h3,h4⟩ := hP q h1 (by omega)
 refine ⟨p,h3,?_⟩
 show (q : Int) ∈ (ix m.bs p).Term.To
 rw [h.tos p (by omega)]; exact h4
theorem RI.ap {j : Nat} (h : RI n b c to m) (hj : j < n) : RI n b (c + 1) to (addP j m) where
 len := by show (m.bs.set _ _).length = n; rw [List.length_set]; exact h.len
 par := h.par
 nx := by have := h.nx; show m.par ≤ m.nx + 1 ∧ m.nx + 1 ≤ _; omega
 cnt := by
   have h1 : cI (addP j m).bs ≤ cI m.bs + 0 := cI_set (l := m.bs) (j := j) (d := 0) (by exact Nat.le_refl _)
   have h2 := h.cnt
   omega
 lv := fun x hx => by have := h.lv x hx; show 0 ≤ x ∧ x < m.nx + 1; omega
 blk := fun q hq => by
   have hn := h.nn
   show gB (m.nx + 1) (ix (m.bs.set _ _) q)
   rw [ix_set (by rw [h.len]; omega)]; split
   · have h0 := h.blk j hj
     have h1 := h0.mono (show m.nx ≤ m.nx + 1 by omega)
     refine ⟨h1.1,fun p hp => ?_,h1.2.2.1,?_⟩
     · rcases List.mem_append.1 (show p ∈ (ix m.bs j).Phis ++ [⟨m.nx,[]⟩] from hp) with h2 | h2
       · exact h1.2.1 p h2
       · simp at h2; subst h2; exact ⟨by dsimp only; omega,fun x hx => by cases hx⟩
     · show (((ix m.bs j).Phis ++ [(⟨m.nx,[]⟩ : D.Phi)]).map (fun p => p.Dst)).Nodup
       rw [List.map_append,List.nodup_append]
       refine ⟨h0.2.2.2,by simp,fun a ha x hx => ?_⟩
       simp at hx; subst hx
       obtain ⟨p,h3,rfl⟩ := List.mem_map.1 ha
       have := (h0.2.1 p h3).1; omega
   · exact (h.blk q hq).mono (by omega)
 tos := fun q hq => by
   show (ix (m.bs.set _ _) q).Term.To = _
   rw [ix_set (by rw [h.len]; omega)]; split
   · rename_i e; subst e; exact h.tos _ hq
   · exact h.tos q hq
 kd := fun q hb hq => by
   show (ix (m.bs.set _ _) q).Term.Kind ≠ 0
   rw [ix_set (by rw [h.len]; omega)]; split
   · rename_i e; subst e; exact h.kd _ hb hq
   · exact h.kd q hb hq
theorem RI.pn {j : Nat} (hj : j < n) : ∀ (k : Nat) {c : Nat} {m : Mk},RI n b c to m → RI n b (c + k) to (phiN j k m)
 | 0,_,_,h => h
 | k + 1,_,_,h => (RI.pn hj k (h.ap hj)).mono (by omega)
theorem RI.ps : ∀ (k j c : Nat) (ph : List Int) (m : Mk),j + k = n → ph.length = n → (∀ j,0 ≤ ix ph j ∧ ix ph j ≤ 3) → phiOK j ph m → RI n b c to m →
   RI n b (c + 3 * k) to (phiS k j ph m).2 ∧ phiOK n (phiS k j ph m).1 (phiS k j ph m).2 ∧ ∀ i,0 ≤ ix (phiS k j ph m).1 i ∧ ix (phiS k j ph m).1 i ≤ 3
 | 0,j,c,ph,m,hj,hl,hr,ho,h => by
   have e : j = n := by omega
   subst e; exact ⟨h,ho,hr⟩
 | k + 1,j,c,ph,m,hj,hl,hr,ho,h => by
   have hr' := phiR_rng (b := j) (m := m) hr
   have h1 : RI n b (c + 3) to (phiN j (ix (phiR j ph m) j).toNat (tSS m)) := (h.take.pn (j := j) (by omega) _).mono (by have := hr' j; omega)
   have h2 := phi_step ho (by rw [h.len]; omega) (by omega) (rfl : phiR j ph m = phiR j ph m)
   obtain ⟨a,d,e⟩ := RI.ps k (j + 1) (c + 3) (phiR j ph m) _ (by omega) (by rw [phiR_len]; exact hl) hr' h2 h1
   rw [phiS]
   exact ⟨a.mono (by omega),d,e⟩
end
def pT (to : List (List Int)) : Nat → Int → List Int
 | 0,_ => []
 | k + 1,b => pT to k b ++ (if (ix to k).any (fun y => decide (y = b)) then [(k : Int)] else [])
def fr (m : Mk) (j : Nat) : List (List Int) := (ix m.bs j).Phis.map (fun p => p.In.map (fun x => x.From))
section
variable {n b c d : Nat} {to : List (List Int)} {m : Mk}
theorem RI.all (h : RI n b c to m) : ∀ x ∈ m.bs,gB m.nx x := fun x hx => by
 obtain ⟨j,hj,e⟩ := List.getElem_of_mem hx
 have := h.blk j (by rw [← h.len]; exact hj)
 rw [ix_eq hj,e] at this; exact this
end
structure Right3 (n : Nat) (to : List (List Int)) (f : D.Func) (nx : Int) : Prop where
 n1 : 1 ≤ n ∧ n ≤ 9
 len : f.Blocks.length = n
 par : 0 ≤ f.Params ∧ f.Params ≤ 4
 nxb : f.Params ≤ nx ∧ nx ≤ 1560
 cnt : cI f.Blocks ≤ 1560
 blk : ∀ j,j < n → gB nx (ix f.Blocks j)
 tos : ∀ j,j < n → (ix f.Blocks j).Term.To = ix to j
 kd : ∀ j,j < n → (ix f.Blocks j).Term.Kind ≠ 0
 tr : TR n 30 to
 pb : PB n to
 ph0 : (ix f.Blocks 0).Phis = []
 ph3 : ∀ j,j < n → (ix f.Blocks j).Phis.length ≤ 3
 fr : ∀ j,j < n → ∀ p ∈ (ix f.Blocks j).Phis,p.In.map (fun x => x.From) = pT to n j
end Go.Proofs.Ytmfkkodnghambaa
