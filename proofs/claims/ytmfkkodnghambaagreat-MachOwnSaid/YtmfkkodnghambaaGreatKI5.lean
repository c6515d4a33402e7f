/- Lemmas that the claim is made of. Conditions: each lemma names its own. -/
import Derived.Test.YtmfkkodnghambaaGreatKI4
import Derived.Test.YtmfkkodnghambaaGreatKI3
set_option linter.unusedSectionVars false
set_option linter.unusedSimpArgs false
set_option linter.unusedVariables false
namespace Go.Proofs.YtmfkkodnghambaaGreat
open Go.JE
abbrev U190 := @Tryz.underlying190
abbrev U191 := @Tryz.underlying191
theorem A88 : ∃ d,Tryz.prog.underlying 88 = some d ∧ (match d with | .struct _ | .array _ _ => true | _ => false) = true := ⟨_,Tryz.underlying88,rfl⟩
theorem E129 : Ent Tryz.prog 129 := ⟨_,Tryz.func129,by kernel_rfl,by kernel_rfl⟩
theorem E134 : Ent Tryz.prog 134 := ⟨_,Tryz.func134,by kernel_rfl,by kernel_rfl⟩
theorem E135 : Ent Tryz.prog 135 := ⟨_,Tryz.func135,by kernel_rfl,by kernel_rfl⟩
theorem E136 : Ent Tryz.prog 136 := ⟨_,Tryz.func136,by kernel_rfl,by kernel_rfl⟩
theorem E137 : Ent Tryz.prog 137 := ⟨_,Tryz.func137,by kernel_rfl,by kernel_rfl⟩
theorem E14 : Ent Tryz.prog 14 := ⟨_,Tryz.func14,by kernel_rfl,by kernel_rfl⟩
theorem E172 : Ent Tryz.prog 172 := ⟨_,Tryz.func172,by kernel_rfl,by kernel_rfl⟩
theorem E174 : Ent Tryz.prog 174 := ⟨_,Tryz.func174,by kernel_rfl,by kernel_rfl⟩
theorem Z190 : Sz Tryz.prog 190 2 := by unfold Sz; kernel_rfl
theorem Z88 : Sz Tryz.prog 88 5 := by unfold Sz; kernel_rfl
theorem J190 : (Tryz.prog.info? 190).bind (·.zero) = some (.agg #[.int .i64 0,.int .i64 0]) := by kernel_rfl
def badR (r : Int) : Bool := decide (r < 0) || decide (8192 ≤ r)
theorem any_reg : ∀ l : List Int,(!anyM l badR) = regM l
 | [] => rfl
 | x :: l => by
   have ih := any_reg l
   unfold anyM at ih ⊢
   rw [List.any_cons,regM,Bool.not_or,ih]
   by_cases h : x < 0 ∨ 8192 ≤ x
   · rw [if_pos h]; have : badR x = true := by unfold badR; simp; exact h
     rw [this]; rfl
   · rw [if_neg h]; have : badR x = false := by unfold badR; simp; omega
     rw [this]; rfl
theorem u32_dec {n : Int} (h : IntKind.i32.wrap n = n) (m : Int) (hm : 0 < m ∧ m ≤ 1000) : decide (IntKind.u32.wrap n < m) = decide (0 ≤ n ∧ n ≤ m - 1) := by
 have h1 := i32_rng h
 rw [decide_eq_decide,IntKind.wrap_u32]; omega
def immM (i : D.Mach) : Bool :=
 if i.Op = 3 then fitsM i.Imm 16
 else if i.Op = 18 ∨ i.Op = 19 then fitsM i.Imm 8
 else if i.Op = 20 ∨ i.Op = 21 ∨ i.Op = 22 then decide (0 ≤ i.Imm ∧ i.Imm ≤ 31)
 else if i.Op = 24 ∨ i.Op = 26 then decide (0 ≤ i.Imm ∧ i.Imm ≤ 255)
 else true
def insE (i : D.Mach) : Int :=
 if i.Op < 1 ∨ 29 < i.Op ∨ i.Op = 2 ∨ (i.Op = 28 ∧ 4 < i.Args.length) then 30
 else if regM (makesM i) = false ∨ regM (takesM i) = false then 31
 else if i.Op = 29 ∧ i.D = i.E then 12
 else if immM i = false then 32
 else 0
def limLo (op : Int) : Int := if op = 1 then 1 else if op = 7 ∨ op = 8 then 0 else 2
def limHi (op : Int) : Int := if op = 1 then 1 else if op = 7 ∨ op = 8 then 0 else if op = 6 then 65 else 2
def toM (e : D.End) : Bool := decide (1 ≤ e.Op ∧ e.Op ≤ 8 ∧ limLo e.Op ≤ e.To.length ∧ e.To.length ≤ limHi e.Op)
def badB (n b : Int) : Bool := decide (b < 1) || decide (n ≤ b)
def endE (e : D.End) (n : Int) : Int := if toM e = false then 30 else if regM (nM9 e) = false then 31 else if anyM e.To (badB n) = true then 14 else 0
def phiE (p : D.Phi) (ahead : List D.Phi) : Int :=
 if regM [p.Dst] = false ∨ anyM p.In (fun x => !regM [x.Val]) = true then 31
 else if anyM ahead (fun x => decide (x.Dst = p.Dst)) = true then 12
 else 0
theorem ltab (op : Int) : ((.tuple #[(lkM [(1,.agg #[.int .i64 1,.int .i64 1]),(2,.agg #[.int .i64 2,.int .i64 2]),(3,.agg #[.int .i64 2,.int .i64 2]),(4,.agg #[.int .i64 2,.int .i64 2]),(5,.agg #[.int .i64 2,.int .i64 2]),(6,.agg #[.int .i64 2,.int .i64 65]),(7,.agg #[.int .i64 0,.int .i64 0]),(8,.agg #[.int .i64 0,.int .i64 0])] op).getD (.agg #[.int .i64 0,.int .i64 0]),.bool (lkM [(1,.agg #[.int .i64 1,.int .i64 1]),(2,.agg #[.int .i64 2,.int .i64 2]),(3,.agg #[.int .i64 2,.int .i64 2]),(4,.agg #[.int .i64 2,.int .i64 2]),(5,.agg #[.int .i64 2,.int .i64 2]),(6,.agg #[.int .i64 2,.int .i64 65]),(7,.agg #[.int .i64 0,.int .i64 0]),(8,.agg #[.int .i64 0,.int .i64 0])] op).isSome] : Value) = .tuple #[.agg #[.int .i64 (limLo op),.int .i64 (limHi op)],.bool true] ∧ 1 ≤ op ∧ op ≤ 8) ∨
   ((.tuple #[(lkM [(1,.agg #[.int .i64 1,.int .i64 1]),(2,.agg #[.int .i64 2,.int .i64 2]),(3,.agg #[.int .i64 2,.int .i64 2]),(4,.agg #[.int .i64 2,.int .i64 2]),(5,.agg #[.int .i64 2,.int .i64 2]),(6,.agg #[.int .i64 2,.int .i64 65]),(7,.agg #[.int .i64 0,.int .i64 0]),(8,.agg #[.int .i64 0,.int .i64 0])] op).getD (.agg #[.int .i64 0,.int .i64 0]),.bool (lkM [(1,.agg #[.int .i64 1,.int .i64 1]),(2,.agg #[.int .i64 2,.int .i64 2]),(3,.agg #[.int .i64 2,.int .i64 2]),(4,.agg #[.int .i64 2,.int .i64 2]),(5,.agg #[.int .i64 2,.int .i64 2]),(6,.agg #[.int .i64 2,.int .i64 65]),(7,.agg #[.int .i64 0,.int .i64 0]),(8,.agg #[.int .i64 0,.int .i64 0])] op).isSome] : Value) = .tuple #[.agg #[.int .i64 0,.int .i64 0],.bool false] ∧ ¬ (1 ≤ op ∧ op ≤ 8)) := by
 by_cases ho : 1 ≤ op ∧ op ≤ 8
 · refine .inl ⟨?_,ho⟩
   have hc : op = 1 ∨ op = 2 ∨ op = 3 ∨ op = 4 ∨ op = 5 ∨ op = 6 ∨ op = 7 ∨ op = 8 := by omega
   rcases hc with rfl | rfl | rfl | rfl | rfl | rfl | rfl | rfl <;> rfl
 · refine .inr ⟨?_,ho⟩
   have h1 : ∀ k : Int,1 ≤ k → k ≤ 8 → (k == op) = false := fun k h2 h3 => by rw [beq_eq_false_iff_ne]; omega
   simp [lkM,List.find?,h1]
theorem pRegs1_ct (r : Int) : Tv Tryz.prog 172 #[.int .i64 r] [] [] (.bool (badR r)) := by
 refine jenter (args := [.int .i64 r]) Tryz.func172 rfl rfl rfl fun w0 X => ?_
 refine jq (jr (ja Z (jn (jx (jq (jr (jm Z (js (jlss Z Z) (jm Z (jg Z Z (.f _) (fun hg => jmv Z) (jg Z Z (.f _) (fun hg => jgeq (evg Z hg) Z) ?_)))))))))))
 refine js (jor Z Z) (ja Z (jn (jx (jrt ?_))))
 exact jrB Z Z (by rfl)
theorem pRegs_ct {a0 : Value} {l : List Int} : Tv Tryz.prog 129 #[a0] [dv (rL (rI .i64)) a0 l] [] (.bool (regM l)) := by
 refine jenter (args := [a0]) Tryz.func129 rfl rfl rfl fun w0 X => ?_
 refine jq (jr (ja Z (jn (jx (jq (jr (jm Z (jdq d0 fun q1 w1 => jcp E136 Z Z (anyFInt_ct badR E172 (fun x _ => Tr.it (pRegs1_ct x) i0)) (dc d0 (dc (db dn) dn)) kn p0 (js (jnot Z) (ja Z ?_))))))))))
 refine jn (jx (jrt ?_))
 exact jrB Z Z ((any_reg l).symm)
theorem pImm_ct {a0 : Value} {i : D.Mach} : Tv Tryz.prog 134 #[vMach i a0] [da rMach (vMach i a0) i] [] (.bool (immM i)) := by
 refine jenter (args := [vMach i a0]) Tryz.func134 rfl rfl rfl fun w0 X => ?_
 refine cwr (rMach.W_Imm d0) fun wim => jq (jr (jbox Z Z fun g1 => ja Z (jn (jx (jq (jq (jr (js (jf F24_0 Z) (js (jl k0 O3 Z Z) ?_)))))))))
 refine jn (jx (jb (jq (jr (js (jeql Z Z) (ja Z (jn (jx ?_))))))))
 refine jif Z (fun hc1 => ?_) (fun hc1 => ?_)
 refine jq (jr (js (jf F24_6 Z) (js (jl k0 O21 Z Z) (jwr (rMach.W_Imm d0) fun w1 => jcv E174 Z Z (wFits_ct i.Imm 16 w1) dn kn (ja Z (jn (jx (jrt (jbr (jtr ?_))))))))))
 exact jrB Z Z (by (unfold immM; (repeat rw [if_neg (by omega)]) <;> (try rw [if_pos (by omega)]) <;> first | rfl | exact (u32_dec wim 32 (by decide)).symm | exact (u32_dec wim 256 (by decide)).symm | (simp [*]; done) | (simp; done) | (rw [Bool.decide_and]; done)))
 refine jq (jq (jr (js (jeql Z Z) (ja Z (jn (jx ?_))))))
 refine jif Z (fun hc2 => ?_) (fun hc2 => ?_)
 refine jsk (jx ?_)
 refine jif Z (fun hc3 => ?_) (fun hc3 => ?_)
 refine jq (jr (js (jf F24_6 Z) (js (jl k0 O21 Z Z) (jwr (rMach.W_Imm d0) fun w2 => jcv E174 Z Z (wFits_ct i.Imm 8 w2) dn kn (ja Z (jn (jx (jrt (jbr (jtr ?_))))))))))
 exact jrB Z Z (by (unfold immM; (repeat rw [if_neg (by omega)]) <;> (try rw [if_pos (by omega)]) <;> first | rfl | exact (u32_dec wim 32 (by decide)).symm | exact (u32_dec wim 256 (by decide)).symm | (simp [*]; done) | (simp; done) | (rw [Bool.decide_and]; done)))
 exact absurd hc3 (by simp [hc1,hc2])
 refine jr (js (jeql Z Z) (ja Z (jn (jx ?_))))
 refine jif Z (fun hc4 => ?_) (fun hc4 => ?_)
 refine jq (jr (js (jf F24_6 Z) (js (jl k0 O21 Z Z) (jwr (rMach.W_Imm d0) fun w3 => jcv E174 Z Z (wFits_ct i.Imm 8 w3) dn kn (ja Z (jn (jx (jrt (jbr (jtr ?_))))))))))
 exact jrB Z Z (by (unfold immM; (repeat rw [if_neg (by omega)]) <;> (try rw [if_pos (by omega)]) <;> first | rfl | exact (u32_dec wim 32 (by decide)).symm | exact (u32_dec wim 256 (by decide)).symm | (simp [*]; done) | (simp; done) | (rw [Bool.decide_and]; done)))
 refine jq (jq (jr (js (jeql Z Z) (ja Z (jn (jx ?_))))))
 refine jif Z (fun hc5 => ?_) (fun hc5 => ?_)
 refine jsk (jx ?_)
 refine jif Z (fun hc6 => ?_) (fun hc6 => ?_)
 refine jq (jr (js (jf F24_6 Z) (js (jl k0 O21 Z Z) (js (jco U21 U155 Z Z) (js (jlss Z Z) (ja Z (jn (jx (jrt (jbr (jtr ?_)))))))))))
 exact jrB Z Z (by (unfold immM; (repeat rw [if_neg (by omega)]) <;> (try rw [if_pos (by omega)]) <;> first | rfl | exact (u32_dec wim 32 (by decide)).symm | exact (u32_dec wim 256 (by decide)).symm | (simp [*]; done) | (simp; done) | (rw [Bool.decide_and]; done)))
 exact absurd hc6 (by simp [hc1,hc2,hc4,hc5])
 refine jq (jr (js (jeql Z Z) (ja Z (jn (jx ?_)))))
 refine jif Z (fun hc7 => ?_) (fun hc7 => ?_)
 refine jsk (jx ?_)
 refine jif Z (fun hc8 => ?_) (fun hc8 => ?_)
 refine jq (jr (js (jf F24_6 Z) (js (jl k0 O21 Z Z) (js (jco U21 U155 Z Z) (js (jlss Z Z) (ja Z (jn (jx (jrt (jbr (jtr ?_)))))))))))
 exact jrB Z Z (by (unfold immM; (repeat rw [if_neg (by omega)]) <;> (try rw [if_pos (by omega)]) <;> first | rfl | exact (u32_dec wim 32 (by decide)).symm | exact (u32_dec wim 256 (by decide)).symm | (simp [*]; done) | (simp; done) | (rw [Bool.decide_and]; done)))
 exact absurd hc8 (by simp [hc1,hc2,hc4,hc5,hc7])
 refine jr (js (jeql Z Z) (ja Z (jn (jx ?_))))
 refine jif Z (fun hc9 => ?_) (fun hc9 => ?_)
 refine jq (jr (js (jf F24_6 Z) (js (jl k0 O21 Z Z) (js (jco U21 U155 Z Z) (js (jlss Z Z) (ja Z (jn (jx (jrt (jbr (jtr ?_)))))))))))
 exact jrB Z Z (by (unfold immM; (repeat rw [if_neg (by omega)]) <;> (try rw [if_pos (by omega)]) <;> first | rfl | exact (u32_dec wim 32 (by decide)).symm | exact (u32_dec wim 256 (by decide)).symm | (simp [*]; done) | (simp; done) | (rw [Bool.decide_and]; done)))
 refine jq (jq (jr (js (jeql Z Z) (ja Z (jn (jx ?_))))))
 refine jif Z (fun hc10 => ?_) (fun hc10 => ?_)
 refine jsk (jx ?_)
 refine jif Z (fun hc11 => ?_) (fun hc11 => ?_)
 refine jq (jr (js (jf F24_6 Z) (js (jl k0 O21 Z Z) (js (jco U21 U155 Z Z) (js (jlss Z Z) (ja Z (jn (jx (jrt (jbr (jtr ?_)))))))))))
 exact jrB Z Z (by (unfold immM; (repeat rw [if_neg (by omega)]) <;> (try rw [if_pos (by omega)]) <;> first | rfl | exact (u32_dec wim 32 (by decide)).symm | exact (u32_dec wim 256 (by decide)).symm | (simp [*]; done) | (simp; done) | (rw [Bool.decide_and]; done)))
 exact absurd hc11 (by simp [hc1,hc2,hc4,hc5,hc7,hc9,hc10])
 refine jr (js (jeql Z Z) (ja Z (jn (jx ?_))))
 refine jif Z (fun hc12 => ?_) (fun hc12 => ?_)
 refine jq (jr (js (jf F24_6 Z) (js (jl k0 O21 Z Z) (js (jco U21 U155 Z Z) (js (jlss Z Z) (ja Z (jn (jx (jrt (jbr (jtr ?_)))))))))))
 exact jrB Z Z (by (unfold immM; (repeat rw [if_neg (by omega)]) <;> (try rw [if_pos (by omega)]) <;> first | rfl | exact (u32_dec wim 32 (by decide)).symm | exact (u32_dec wim 256 (by decide)).symm | (simp [*]; done) | (simp; done) | (rw [Bool.decide_and]; done)))
 refine jsk (jbn (jx (jq (jr (ja Z (jn (jx (jrt ?_))))))))
 exact jrB Z Z (by (unfold immM; (repeat rw [if_neg (by omega)]) <;> (try rw [if_pos (by omega)]) <;> first | rfl | exact (u32_dec wim 32 (by decide)).symm | exact (u32_dec wim 256 (by decide)).symm | (simp [*]; done) | (simp; done) | (rw [Bool.decide_and]; done)))
theorem pIns_ct {a0 : Value} {i : D.Mach} : Tv Tryz.prog 78 #[vMach i a0] [da rMach (vMach i a0) i] [] (.int .i64 (insE i)) := by
 refine jenter (args := [vMach i a0]) Tryz.func78 rfl rfl rfl fun w0 X => ?_
 refine jq (jr (jbox Z Z fun g1 => ja Z (jn (jx (jq (jb (jq (jr (js (jf F24_0 Z) (js (jl k0 O3 Z Z) ?_))))))))))
 refine js (jlss Z Z) (jm Z (jg Z Z (.f _) (fun hg => jf F24_0 Z) (jg Z Z (.f _) (fun hg => jl k0 O3 (evg Z hg) Z) (jg Z Z (.f _) (fun hg => jgtr (evg Z hg) Z) (js (jor Z Z) (jm Z (jg Z Z (.f _) (fun hg => jf F24_0 Z) (jg Z Z (.f _) (fun hg => jl k0 O3 (evg Z hg) Z) (jg Z Z (.f _) (fun hg => jeql (evg Z hg) Z) (js (jor Z Z) (jm Z ?_)))))))))))
 refine jg Z Z (.f _) (fun hg => jf F24_0 Z) (jg Z Z (.f _) (fun hg => jl k0 O3 (evg Z hg) Z) (jg Z Z (.f _) (fun hg => jeql (evg Z hg) Z) (jg Z Z (.f _) (fun hg => jmv (evg Z hg)) (jg Z Z (.gt _ _) (fun hg => jf F24_7 Z) (jg Z Z (.gt _ _) (fun hg => jl k0 O22 (evg Z hg) Z) (jdq (rMach.c_Args d0) fun q1 w1 => jg Z Z (.gt _ _) (fun hg => jln U22 (rMach.c_Args d0) (evg Z hg)) (jg Z Z (.gt _ _) (fun hg => jgtr (evg Z hg) Z) (jg Z Z (.f _) (fun hg => jand2 hg Z Z) (js (jor Z Z) (ja Z ?_))))))))))
 refine jn (jx ?_)
 refine jif Z (fun hc1 => ?_) (fun hc1 => ?_)
 refine jq (jr (ja Z (jn (jx (jrt (jbr (jtr ?_)))))))
 exact jrI Z Z (by first | (unfold insE; rw [if_pos (by omega)]; done) | (unfold insE; rw [if_neg (by omega)]; simp [*]; done) | (unfold insE; rw [if_neg (by omega)]; simp [*]; omega))
 refine jq (jr (js (jla k0 A24 Z24 Z Z Z) (jcd E88 Z Z pMakes_ct (dc d0 dn) kn fun v30 q2 w2 => jcv E129 Z Z pRegs_ct (dc d0 dn) kn (js (jnot Z) (jm Z (jg Z Z (.f _) (fun hg => jla k0 A24 Z24 Z Z Z) (jgcd Z Z (.f _) E14 Z (fun hg => evl1 (evg Z hg)) (fun hg => pTakes_ct) (fun hg => (dc d1 dn)) fun v35 => jgc Z Z (.f _) E129 Z (fun hg => evl1 (evg Z hg)) (fun hg => pRegs_ct) (fun hg => (dc (d0.on hg) dn)) kn p0 (jg Z Z (.f _) (fun hg => jnot (evg Z hg)) (js (jor Z Z) ?_)))))))))
 refine ja Z (jn (jx ?_))
 refine jif Z (fun hc2 => ?_) (fun hc2 => ?_)
 refine jq (jr (ja Z (jn (jx (jrt (jbr (jtr ?_)))))))
 exact jrI Z Z (by first | (unfold insE; rw [if_pos (by omega)]; done) | (unfold insE; rw [if_neg (by omega)]; simp [*]; done) | (unfold insE; rw [if_neg (by omega)]; simp [*]; omega))
 refine jq (jr (js (jf F24_0 Z) (js (jl k0 O3 Z Z) (js (jeql Z Z) (jm Z (jg Z Z (.t _) (fun hg => jf F24_1 Z) (jg Z Z (.t _) (fun hg => jl k0 O3 (evg Z hg) Z) (jg Z Z (.t _) (fun hg => jf F24_2 Z) (jg Z Z (.t _) (fun hg => jl k0 O3 (evg Z hg) Z) (jg Z Z (.t _) (fun hg => jeql (evg Z hg) (evg Z hg)) (js (jand Z Z) ?_)))))))))))
 refine ja Z (jn (jx ?_))
 refine jif Z (fun hc3 => ?_) (fun hc3 => ?_)
 refine jq (jr (ja Z (jn (jx (jrt (jbr (jtr ?_)))))))
 exact jrI Z Z (by first | (unfold insE; rw [if_pos (by omega)]; done) | (unfold insE; rw [if_neg (by omega)]; simp [*]; done) | (unfold insE; rw [if_neg (by omega)]; simp [*]; omega))
 refine jq (jr (js (jla k0 A24 Z24 Z Z Z) (jcv E134 Z Z pImm_ct (dc d2 dn) kn (js (jnot Z) (ja Z (jn (jx ?_)))))))
 refine jif Z (fun hc4 => ?_) (fun hc4 => ?_)
 refine jq (jr (ja Z (jn (jx (jrt (jbr (jtr ?_)))))))
 exact jrI Z Z (by first | (unfold insE; rw [if_pos (by omega)]; done) | (unfold insE; rw [if_neg (by omega)]; simp [*]; done) | (unfold insE; rw [if_neg (by omega)]; simp [*]; omega))
 refine jsk (jbn (jx (jq (jr (ja Z (jn (jx (jrt ?_))))))))
 exact jrI Z Z (by first | (unfold insE; rw [if_pos (by omega)]; done) | (unfold insE; rw [if_neg (by omega)]; simp [*]; done) | (unfold insE; rw [if_neg (by omega)]; simp [*]; omega))
theorem pEnd1_ct (b : Int) (n : Int) {g1 : Nat} : Tr Tryz.prog 137 #[.int .i64 b,.pointer (some ⟨g1,0,none⟩)] [] [bx g1 3 [.int .i64 n]] (fun _ : Unit => .bool ((badB n) b)) (fun _ => []) (fun _ _ => [bx g1 3 [.int .i64 n]]) := by
 refine jenter (args := [.int .i64 b,.pointer (some ⟨g1,0,none⟩)]) Tryz.func137 rfl rfl rfl fun w0 X => ?_
 refine jq (jr (ja Z (jn (jx (jq (jr (jm Z (js (jlss Z Z) (jm Z (jg Z Z (.f _) (fun hg => jmv Z) (jg Z Z (.f _) (fun hg => jl k0 O3 Z Z) ?_)))))))))))
 refine jg Z Z (.f _) (fun hg => jgeq (evg Z hg) (evg Z hg)) (js (jor Z Z) (ja Z (jn (jx (jrt ?_)))))
 exact jr1 Z Z () (congrArg Value.bool (Eq.symm (by rfl))) dn (fun _ _ => (kc k0 kn))
theorem pEnd_ct {a0 : Value} {e : D.End} (n : Int) : Tv Tryz.prog 79 #[vEnd e a0,.int .i64 n] [da rEnd (vEnd e a0) e] [] (.int .i64 (endE e n)) := by
 refine jenter (args := [vEnd e a0,.int .i64 n]) Tryz.func79 rfl rfl rfl fun w0 X => ?_
 refine jq (jr (jbox Z Z fun g2 => jbox Z Z fun g3 => ja Z (jn (jx (jq (jr (jmm fun g8 => js (jbu (v := .agg #[.int .i64 1,.int .i64 1]) Z (fun _ => by kernel_rfl)) (jin U191 U3 k0 Z Z Z Z ?_))))))))
 refine js (jbu (v := .agg #[.int .i64 2,.int .i64 2]) Z (fun _ => by kernel_rfl)) (jin U191 U3 k0 Z Z Z Z (js (jbu (v := .agg #[.int .i64 2,.int .i64 2]) Z (fun _ => by kernel_rfl)) (jin U191 U3 k0 Z Z Z Z (js (jbu (v := .agg #[.int .i64 2,.int .i64 2]) Z (fun _ => by kernel_rfl)) (jin U191 U3 k0 Z Z Z Z (js (jbu (v := .agg #[.int .i64 2,.int .i64 2]) Z (fun _ => by kernel_rfl)) (jin U191 U3 k0 Z Z Z Z (js (jbu (v := .agg #[.int .i64 2,.int .i64 65]) Z (fun _ => by kernel_rfl)) (jin U191 U3 k0 Z Z Z Z (js (jbu (v := .agg #[.int .i64 0,.int .i64 0]) Z (fun _ => by kernel_rfl)) (jin U191 U3 k0 Z Z Z Z ?_)))))))))))
 refine js (jbu (v := .agg #[.int .i64 0,.int .i64 0]) Z (fun _ => by kernel_rfl)) (jin U191 U3 k0 Z Z Z Z (jm Z (ja Z (jn (jx (jq (jr (jm Z (js (jf F88_0 Z) (js (jl k2 O3 Z Z) ?_))))))))))
 refine jfk (p := fun v => (v = .tuple #[.agg #[.int .i64 (limLo e.Op),.int .i64 (limHi e.Op)],.bool true] ∧ 1 ≤ e.Op ∧ e.Op ≤ 8) ∨ (v = .tuple #[.agg #[.int .i64 0,.int .i64 0],.bool false] ∧ ¬ (1 ≤ e.Op ∧ e.Op ≤ 8))) ⟨_,jlko U191 U3 J190 k0 Z Z,ltab e.Op⟩ ?_
 rintro v22 (⟨rfl,hop⟩ | ⟨rfl,hop⟩)
 refine jm Z (js (jex' Z Z) (js (jex' Z Z) (jalc J190 Z fun g6 => jsta k0 Z190 Z Z Z ⟨Z,Z,trivial⟩ (saf Z) (ja Z (jn (jx (jq (jb (jq (jr ?_))))))))))
 refine jm Z (js (jnot Z) (jm Z (jk Z Z (.f _) (jf F88_3 Z) (jk Z Z (.f _) (jl k3 O22 Z Z) (jdq (rEnd.c_To d0) fun q1 w1 => jk Z Z (.f _) (jln U22 (rEnd.c_To d0) Z) (jk Z Z (.f _) (jixa (i := 0) U190 Z3 Z Z Z (by omega)) (jk Z Z (.f _) (jl k0 O3 Z Z) (jk Z Z (.f _) (jlss Z Z) (js (jor Z Z) (jm Z ?_))))))))))
 refine jg Z Z (.f _) (fun hg => jf F88_3 Z) (jg Z Z (.f _) (fun hg => jl k3 O22 (evg Z hg) Z) (jg Z Z (.f _) (fun hg => jln U22 (rEnd.c_To d0) (evg Z hg)) (jg Z Z (.f _) (fun hg => jixa (i := 1) U190 Z3 Z Z Z (by first | omega | (simp at hg; omega))) (jg Z Z (.f _) (fun hg => jl k0 O3 (evg Z hg) Z) (jg Z Z (.f _) (fun hg => jgtr (evg Z hg) (evg Z hg)) (js (jor Z Z) (ja Z (jn (jx ?_)))))))))
 refine jif Z (fun hc1 => ?_) (fun hc1 => ?_)
 try simp only [false_or,true_and] at hc1
 refine jq (jr (ja Z (jn (jx (jrt (jbr (jtr ?_)))))))
 exact jrI Z Z (by first | (have ht : toM e = false := (by unfold toM; simp only [decide_eq_false_iff_not]; omega); unfold endE; rw [if_pos ht]; done) | (have ht : toM e = true := (by unfold toM; simp only [decide_eq_true_eq]; omega); unfold endE; rw [if_neg (by rw [ht]; decide)]; simp [*]; done))
 try simp only [false_or,true_and] at hc1
 refine jq (jr (js (jla k3 A88 Z88 Z Z Z) (jcd E135 Z Z pNeeds_ct (dc d0 dn) kn fun v46 q2 w2 => jcv E129 Z Z pRegs_ct (dc d0 dn) kn (js (jnot Z) (ja Z (jn (jx ?_)))))))
 refine jif Z (fun hc2 => ?_) (fun hc2 => ?_)
 refine jq (jr (ja Z (jn (jx (jrt (jbr (jtr ?_)))))))
 exact jrI Z Z (by first | (have ht : toM e = false := (by unfold toM; simp only [decide_eq_false_iff_not]; omega); unfold endE; rw [if_pos ht]; done) | (have ht : toM e = true := (by unfold toM; simp only [decide_eq_true_eq]; omega); unfold endE; rw [if_neg (by rw [ht]; decide)]; simp [*]; done))
 refine jq (jr (js (jf F88_3 Z) (js (jl k3 O22 Z Z) (js (jmf1 Z) (jcp E136 Z Z (anyFInt_ct (badB n) E137 (fun x _ => Tr.it (pEnd1_ct x n) i0)) (dc (rEnd.c_To d1) (dc (db dn) dn)) (kc k2 kn) p1 (ja Z (jn (jx ?_))))))))
 refine jif Z (fun hc3 => ?_) (fun hc3 => ?_)
 refine jq (jr (ja Z (jn (jx (jrt (jbr (jtr ?_)))))))
 exact jrI Z Z (by first | (have ht : toM e = false := (by unfold toM; simp only [decide_eq_false_iff_not]; omega); unfold endE; rw [if_pos ht]; done) | (have ht : toM e = true := (by unfold toM; simp only [decide_eq_true_eq]; omega); unfold endE; rw [if_neg (by rw [ht]; decide)]; simp [*]; done))
 refine jsk (jbn (jx (jq (jr (ja Z (jn (jx (jrt ?_))))))))
 exact jrI Z Z (by first | (have ht : toM e = false := (by unfold toM; simp only [decide_eq_false_iff_not]; omega); unfold endE; rw [if_pos ht]; done) | (have ht : toM e = true := (by unfold toM; simp only [decide_eq_true_eq]; omega); unfold endE; rw [if_neg (by rw [ht]; decide)]; simp [*]; done))
 refine jm Z (js (jex' Z Z) (js (jex' Z Z) (jalc J190 Z fun g6_4 => jsta k0 Z190 Z Z Z ⟨Z,Z,trivial⟩ (saf Z) (ja Z (jn (jx (jq (jb (jq (jr ?_))))))))))
 refine jm Z (js (jnot Z) (jm Z (jg Z Z (.f _) (fun hg => jf F88_3 Z) (jg Z Z (.f _) (fun hg => jl k3 O22 (evg Z hg) Z) (jdq (rEnd.c_To d0) fun q5 w5 => jg Z Z (.f _) (fun hg => jln U22 (rEnd.c_To d0) (evg Z hg)) (jg Z Z (.f _) (fun hg => jixa (i := 0) U190 Z3 Z Z Z (by first | omega | (simp at hg; omega))) (jg Z Z (.f _) (fun hg => jl k0 O3 (evg Z hg) Z) (jg Z Z (.f _) (fun hg => jlss (evg Z hg) (evg Z hg)) (js (jor Z Z) (jm Z ?_))))))))))
 refine jg Z Z (.f _) (fun hg => jf F88_3 Z) (jg Z Z (.f _) (fun hg => jl k3 O22 (evg Z hg) Z) (jg Z Z (.f _) (fun hg => jln U22 (rEnd.c_To d0) (evg Z hg)) (jg Z Z (.f _) (fun hg => jixa (i := 1) U190 Z3 Z Z Z (by first | omega | (simp at hg; omega))) (jg Z Z (.f _) (fun hg => jl k0 O3 (evg Z hg) Z) (jg Z Z (.f _) (fun hg => jgtr (evg Z hg) (evg Z hg)) (js (jor Z Z) (ja Z (jn (jx ?_)))))))))
 refine jif Z (fun hc4 => ?_) (fun hc4 => ?_)
 refine jq (jr (ja Z (jn (jx (jrt (jbr (jtr ?_)))))))
 exact jrI Z Z (by first | (have ht : toM e = false := (by unfold toM; simp only [decide_eq_false_iff_not]; omega); unfold endE; rw [if_pos ht]; done) | (have ht : toM e = true := (by unfold toM; simp only [decide_eq_true_eq]; omega); unfold endE; rw [if_neg (by rw [ht]; decide)]; simp [*]; done))
 exact absurd hc4 (by simp)
theorem E130 : Ent Tryz.prog 130 := ⟨_,Tryz.func130,by kernel_rfl,by kernel_rfl⟩
theorem E131 : Ent Tryz.prog 131 := ⟨_,Tryz.func131,by kernel_rfl,by kernel_rfl⟩
theorem E132 : Ent Tryz.prog 132 := ⟨_,Tryz.func132,by kernel_rfl,by kernel_rfl⟩
theorem E133 : Ent Tryz.prog 133 := ⟨_,Tryz.func133,by kernel_rfl,by kernel_rfl⟩
theorem F111_1 : Fld Tryz.prog 111 1 1 := ⟨_,_,Tryz.underlying111,rfl,rfl,1,(by unfold Sz; kernel_rfl),by decide⟩
theorem F65_0 : Fld Tryz.prog 65 0 0 := ⟨_,_,Tryz.underlying65,rfl,rfl,1,(by unfold Sz; kernel_rfl),by decide⟩
theorem F65_1 : Fld Tryz.prog 65 1 1 := ⟨_,_,Tryz.underlying65,rfl,rfl,1,(by unfold Sz; kernel_rfl),by decide⟩
theorem O63 : One Tryz.prog 63 := ⟨_,Tryz.underlying63,rfl⟩
theorem pPhi1_ct {x : D.In} : Tv Tryz.prog 131 #[vIn x ()] [da rIn (vIn x ()) x] [] (.bool ((fun x : D.In => !regM [x.Val]) x)) := by
 refine jenter (args := [vIn x ()]) Tryz.func131 rfl rfl rfl fun w0 X => ?_
 refine jq (jr (jbox Z Z fun g1 => ja Z (jn (jx (jq (jr (js (jf F111_1 Z) (js (jl k0 O3 Z Z) (jlit (r := (rI .i64)) (l := [x.Val]) U22 I3 (by decide) Z Z Z (lV Z Z (wI (rIn.W_Val d0)) ln) fun g5 => jc E129 Z Z (Tv.temp 1073741824 pRegs_ct (by (try simp) <;> omega)) dn (kc k0 kn) (fun _ => p0) (fun _ => p1) fun _ => ?_)))))))))
 refine js (jnot Z) (ja Z (jn (jx (jrt ?_))))
 exact jrB Z Z (by rfl)
theorem pPhi2_ct {a0 : Value} {x : D.Phi} {d : Int} {c : Value} {g1 : Nat} : Tr Tryz.prog 133 #[vPhi x a0,.pointer (some ⟨g1,0,none⟩)] [da rPhi (vPhi x a0) x] [bx g1 65 [.int .i64 d,c]] (fun _ : Unit => .bool ((fun (d : Int) (x : D.Phi) => decide (x.Dst = d)) d x)) (fun _ => []) (fun _ _ => [bx g1 65 [.int .i64 d,c]]) := by
 refine jenter (args := [vPhi x a0,.pointer (some ⟨g1,0,none⟩)]) Tryz.func133 rfl rfl rfl fun w0 X => ?_
 refine jq (jr (jbox Z Z fun g2 => ja Z (jn (jx (jq (jr (js (jf F65_0 Z) (js (jl k0 O3 Z Z) (js (jf F65_0 Z) (js (jl k1 O3 Z Z) ?_))))))))))
 refine js (jeql Z Z) (ja Z (jn (jx (jrt ?_))))
 exact jr1 Z Z () (congrArg Value.bool (Eq.symm (by rfl))) dn (fun _ _ => (kc k1 kn))
theorem pPhi_ct {a0 : Value} {p : D.Phi} {a1 : Value} {ahead : List D.Phi} : Tv Tryz.prog 77 #[vPhi p a0,a1] [da rPhi (vPhi p a0) p,dv (rL rPhi) a1 ahead] [] (.int .i64 (phiE p ahead)) := by
 refine jenter (args := [vPhi p a0,a1]) Tryz.func77 rfl rfl rfl fun w0 X => ?_
 refine jq (jr (jbox Z Z fun g2 => ja Z (jn (jx (jq (jq (jr (js (jf F65_0 Z) (js (jl k0 O3 Z Z) (jlit (r := (rI .i64)) (l := [p.Dst]) U22 I3 (by decide) Z Z Z (lV Z Z (wI (rPhi.W_Dst d0)) ln) fun g7 => ?_))))))))))
 refine jc E129 Z Z (Tv.temp 1073741824 pRegs_ct (by (try simp) <;> omega)) dn (kc k0 kn) (fun _ => p0) (fun _ => p1) fun _ => js (jnot Z) (jm Z (jg Z Z (.f _) (fun hg => jf F65_1 Z) (jg Z Z (.f _) (fun hg => jl k1 O63 (evg Z hg) Z) (jdq (rPhi.c_In d0) fun q1 w1 => jgcp Z Z (.f _) E130 Z (fun hg => evl2 (evg Z hg) Z) (fun hg => (anyFIn_ct (fun x : D.In => !regM [x.Val]) E131 (fun x _ c => Tr.it pPhi1_ct ir))) (fun hg => (dc (rPhi.c_In d0) (dc (db dn) dn))) kn p0 (js (jor Z Z) (jn (jx ?_)))))))
 refine jif Z (fun hc1 => ?_) (fun hc1 => ?_)
 refine jq (jr (ja Z (jn (jx (jrt (jtr ?_))))))
 exact jrI Z Z (by unfold phiE; simp [*]; done)
 refine jsk (jx (jq (jq (jr (jm Z (js (jmf1 Z) (jdq d1 fun q2 w2 => jcp E132 Z Z (anyFPhi_ct (fun x : D.Phi => decide (x.Dst = p.Dst)) E133 (fun x _ c => Tr.it pPhi2_ct ir)) (dc d1 (dc (db dn) dn)) (kc k1 kn) p1 (jn (jx ?_)))))))))
 refine jif Z (fun hc2 => ?_) (fun hc2 => ?_)
 refine jq (jr (ja Z (jn (jx (jrt (jtr ?_))))))
 exact jrI Z Z (by unfold phiE; simp [*]; done)
 refine jsk (jx (jq (jr (ja Z (jn (jx (jrt ?_)))))))
 exact jrI Z Z (by unfold phiE; simp [*]; done)
abbrev U129 := @Tryz.underlying129
abbrev U4 := @Tryz.underlying4
theorem E141 : Ent Tryz.prog 141 := ⟨_,Tryz.func141,by kernel_rfl,by kernel_rfl⟩
theorem E176 : Ent Tryz.prog 176 := ⟨_,Tryz.func176,by kernel_rfl,by kernel_rfl⟩
theorem F111_0 : Fld Tryz.prog 111 0 0 := ⟨_,_,Tryz.underlying111,rfl,rfl,1,(by unfold Sz; kernel_rfl),by decide⟩
theorem O4 : One Tryz.prog 4 := ⟨_,Tryz.underlying4,rfl⟩
theorem Z4 : Sz Tryz.prog 4 1 := by unfold Sz; kernel_rfl
theorem J111 : (Tryz.prog.info? 111).bind (·.zero) = some (.agg #[.int .i64 0,.int .i64 0]) := by kernel_rfl
def predsT (bs : List D.MBlock) (k : Nat) (b : Int) : List Int := ((List.range k).filter (fun a : Nat => decide (b ∈ (ix bs a).End.To))).map (fun a : Nat => (a : Int))
def predsM (bs : List D.MBlock) (b : Int) : List Int := predsT bs bs.length b
theorem predsT_succ (bs : List D.MBlock) (k : Nat) (b : Int) : predsT bs (k + 1) b = predsT bs k b ++ if b ∈ (ix bs k).End.To then [(k : Int)] else [] := by
 unfold predsT
 rw [List.range_succ,List.filter_append,List.map_append]
 congr 1
 by_cases h : b ∈ (ix bs k).End.To <;> simp [h]
theorem predsT_lt (bs : List D.MBlock) (k : Nat) (b : Int) : ∀ x ∈ predsT bs k b,x < k := by
 intro x hx
 unfold predsT at hx
 obtain ⟨a,ha,rfl⟩ := List.mem_map.1 hx
 have := List.mem_range.1 (List.mem_filter.1 ha).1
 omega
theorem predsT_len (bs : List D.MBlock) (k : Nat) (b : Int) : (predsT bs k b).length ≤ k := by
 unfold predsT
 rw [List.length_map]
 exact Nat.le_trans (List.length_filter_le _ _) (by simp)
def predsJ (bs : List D.MBlock) (k j : Nat) (b : Int) : List Int := predsT bs k b ++ if b ∈ (ix bs k).End.To.take j then [(k : Int)] else []
theorem predsJ_zero (bs : List D.MBlock) (k : Nat) (b : Int) : predsJ bs k 0 b = predsT bs k b := by simp [predsJ]
theorem predsJ_end (bs : List D.MBlock) (k j : Nat) (b : Int) (h : (ix bs k).End.To.length ≤ j) : predsJ bs k j b = predsT bs (k + 1) b := by
 rw [predsT_succ]; unfold predsJ; rw [List.take_of_length_le h]
theorem predsJ_len (bs : List D.MBlock) (k j : Nat) (b : Int) : (predsJ bs k j b).length ≤ k + 1 := by
 have := predsT_len bs k b
 unfold predsJ; rw [List.length_append]; split <;> simp <;> omega
theorem predsJ_mem (bs : List D.MBlock) (k j : Nat) (b : Int) : (k : Int) ∈ predsJ bs k j b ↔ b ∈ (ix bs k).End.To.take j := by
 unfold predsJ
 rw [List.mem_append]
 constructor
 · rintro (h | h)
   · have := predsT_lt bs k b _ h; omega
   · split at h
     · assumption
     · cases h
 · intro h; rw [if_pos h]; exact .inr (by simp)
theorem predsJ_old {bs : List D.MBlock} {k j : Nat} (hj : j < (ix bs k).End.To.length) (h : (k : Int) ∈ predsJ bs k j (ix (ix bs k).End.To j)) (b : Int) : predsJ bs k (j + 1) b = predsJ bs k j b := by
 rw [predsJ_mem] at h
 unfold predsJ
 rw [take_ix hj]
 by_cases h1 : b ∈ (ix bs k).End.To.take j
 · rw [if_pos (by simp [h1]),if_pos h1]
 · have h2 : b ≠ ix (ix bs k).End.To j := by rintro rfl; exact h1 h
   rw [if_neg (by simp [h1,h2]),if_neg h1]
theorem predsJ_new {bs : List D.MBlock} {k j : Nat} (hj : j < (ix bs k).End.To.length) (h : ¬ (k : Int) ∈ predsJ bs k j (ix (ix bs k).End.To j)) (b : Int) :
   predsJ bs k (j + 1) b = if b = ix (ix bs k).End.To j then predsJ bs k j b ++ [(k : Int)] else predsJ bs k j b := by
 rw [predsJ_mem] at h
 unfold predsJ
 rw [take_ix hj]
 by_cases h1 : b = ix (ix bs k).End.To j
 · subst h1; rw [if_pos (by simp),if_neg h,if_pos rfl]; simp
 · rw [if_neg h1]
   by_cases h2 : b ∈ (ix bs k).End.To.take j
   · rw [if_pos (by simp [h2]),if_pos h2]
   · rw [if_neg (by simp [h1,h2]),if_neg h2]
def bfsIn : List Bool → List Int → List Int → List Bool × List Int
 | seen,q,[] => (seen,q)
 | seen,q,t :: ts => if ix seen t.toNat = true then bfsIn seen q ts else bfsIn (seen.set t.toNat true) (q ++ [t]) ts
def bfs (bs : List D.MBlock) : Nat → List Bool → List Int → List Bool
 | 0,seen,_ => seen
 | _ + 1,seen,[] => seen
 | f + 1,seen,x :: q => bfs bs f (bfsIn seen (x :: q) (ix bs x.toNat).End.To).1 ((bfsIn seen (x :: q) (ix bs x.toNat).End.To).2.drop 1)
def reachedM (bs : List D.MBlock) : List Bool := bfs bs bs.length ((List.replicate bs.length false).set 0 true) [0]
def cntF (l : List Bool) : Nat := l.countP (fun x => !x)
theorem cntF_set {l : List Bool} {i : Nat} (hi : i < l.length) (h : ¬ ix l i = true) : cntF (l.set i true) + 1 = cntF l := by
 unfold cntF
 have h2 : l[i] = false := by rw [← ix_eq hi]; simpa using h
 rw [List.countP_set hi]
 have : 0 < l.countP (fun x => !x) := List.countP_pos_iff.2 ⟨_,List.getElem_mem hi,by simp [h2]⟩
 simp [h2]; omega
def badPhi (bs : List D.MBlock) (b : Nat) (p : D.Phi) : Bool := decide (b = 0) || !decide (p.In.map (·.From) = predsM bs b)
def graphPhis (bs : List D.MBlock) : Nat → List D.MBlock → Int × Int × Int
 | _,[] => (0,0,0)
 | b,x :: l => match x.Phis.findIdx? (badPhi bs b) with
   | some i => (16,b,-1 - i)
   | none => graphPhis bs (b + 1) l
def graphM (m : D.MFunc) : Int × Int × Int := if 0 ≤ idxM (reachedM m.Blocks) (fun x => false == x) then (15,idxM (reachedM m.Blocks) (fun x => false == x),0) else graphPhis m.Blocks 0 m.Blocks
def eqfM (a : List D.In) (b : List Int) : Bool := decide (a.map (·.From) = b)
theorem eqf_len {a : List D.In} {b : List Int} (h : ¬ a.length = b.length) : eqfM a b = false := by simp only [eqfM,decide_eq_false_iff_not]; intro h1; have := congrArg List.length h1; simp at this; omega
theorem eqf_at {a : List D.In} {b : List Int} {k : Nat} (h1 : k < a.length) (h2 : a.length = b.length) (h : ¬ (ix a k).From = ix b k) : eqfM a b = false := by
 simp only [eqfM,decide_eq_false_iff_not]
 rintro rfl
 rw [ix_eq h1,ix_eq (by simpa using h1)] at h
 simp at h
theorem eqf_yes {a : List D.In} {b : List Int} {k : Nat} (h1 : a.length ≤ k) (h2 : a.length = b.length) (h : (a.take k).map (·.From) = b.take k) : eqfM a b = true := by
 rw [List.take_of_length_le h1,List.take_of_length_le (by omega)] at h
 simp [eqfM,h]
def hasM (l : List Int) (x : Int) : Bool := decide (x ∈ l)
theorem has_any (l : List Int) (x : Int) : decide (0 ≤ idxM l (fun y => decide (x = y))) = hasM l x := by
 rw [idx_any]; unfold anyM hasM
 rw [Bool.eq_iff_iff,List.any_eq_true,decide_eq_true_eq]
 constructor
 · rintro ⟨y,hy,h⟩; simp at h; subst h; exact hy
 · intro h; exact ⟨x,h,by simp⟩
section
variable {bs : List D.MBlock} {k j n : Nat} {ls : List (List Int)}
theorem stepOld (hj : j < (ix bs k).End.To.length) (hls : ∀ b : Nat,b < n → ls.getD b [] = predsJ bs k j b) (ht : 0 ≤ ix (ix bs k).End.To j ∧ ix (ix bs k).End.To j < n) (h : hasM (ls.getD (ix (ix bs k).End.To j).toNat []) k = true) :
   ∀ b : Nat,b < n → ls.getD b [] = predsJ bs k (j + 1) b := by
 intro b hb
 have h1 := hls (ix (ix bs k).End.To j).toNat (by omega)
 rw [show (((ix (ix bs k).End.To j).toNat : Nat) : Int) = ix (ix bs k).End.To j by omega] at h1
 unfold hasM at h; rw [h1,decide_eq_true_eq] at h
 rw [predsJ_old hj h]; exact hls b hb
theorem stepNew (hj : j < (ix bs k).End.To.length) (hls : ∀ b : Nat,b < n → ls.getD b [] = predsJ bs k j b) (ht : 0 ≤ ix (ix bs k).End.To j ∧ ix (ix bs k).End.To j < n) (hl : ls.length = n) (h : hasM (ls.getD (ix (ix bs k).End.To j).toNat []) k = false) :
   ∀ b : Nat,b < n → (ls.set (ix (ix bs k).End.To j).toNat (ls.getD (ix (ix bs k).End.To j).toNat [] ++ [(k : Int)])).getD b [] = predsJ bs k (j + 1) b := by
 intro b hb
 have h1 := hls (ix (ix bs k).End.To j).toNat (by omega)
 rw [show (((ix (ix bs k).End.To j).toNat : Nat) : Int) = ix (ix bs k).End.To j by omega] at h1
 unfold hasM at h; rw [h1,decide_eq_false_iff_not] at h
 rw [predsJ_new hj h]
 by_cases e1 : b = (ix (ix bs k).End.To j).toNat
 · subst e1
   rw [if_pos (by omega),h1,show (((ix (ix bs k).End.To j).toNat : Nat) : Int) = ix (ix bs k).End.To j by omega]
   have : (ix (ix bs k).End.To j).toNat < ls.length := by omega
   simp [List.getD,this]
 · rw [if_neg (by omega),← hls b hb]
   simp [List.getD,List.getElem?_set_ne (Ne.symm e1)]
theorem rows_len (hl : ls.length = n) (hn : n < 1073741824) (hls : ∀ b : Nat,b < n → ls.getD b [] = predsT bs k b) (hk : k ≤ n) : ∀ l ∈ ls,l.length < 1073741824 := by
 intro l hm
 obtain ⟨i,hi,rfl⟩ := List.mem_iff_getElem.1 hm
 have h1 := hls i (by omega)
 rw [List.getD,List.getElem?_eq_getElem hi] at h1
 simp only [Option.getD_some] at h1
 rw [h1]
 have := predsT_len bs k i
 omega
theorem row_len (hn : n < 1073741824) (hls : ∀ b : Nat,b < n → ls.getD b [] = predsJ bs k j b) (hk : k < n) {t : Nat} (ht : t < n) : (ls.getD t []).length < 1073741825 := by
 rw [hls t ht]; have := predsJ_len bs k j t; omega
theorem cnt_start (hn : 0 < n) : cntF ((List.replicate n false).set 0 true) + [(0 : Int)].length ≤ n := by
 have := cntF_set (l := List.replicate n false) (i := 0) (by simpa using hn) (by rw [ix_eq (by simpa using hn)]; simp)
 have h2 : cntF (List.replicate n false) = n := by unfold cntF; rw [List.countP_replicate]; rfl
 simp only [List.length_cons,List.length_nil]; omega
theorem bfs_nil (f : Nat) (se : List Bool) : bfs bs f se [] = se := by cases f <;> rfl
theorem bfs_step {f : Nat} {se : List Bool} {q : List Int} (hf : 0 < f) (hq : 0 < q.length) : bfs bs f se q = bfs bs (f - 1) (bfsIn se q (ix bs (ix q 0).toNat).End.To).1 ((bfsIn se q (ix bs (ix q 0).toNat).End.To).2.drop 1) := by
 obtain ⟨f,rfl⟩ : ∃ g,f = g + 1 := ⟨f - 1,by omega⟩
 match q,hq with
 | x :: q,_ => rfl
theorem phis_bad {l : List D.MBlock} (hk : k < l.length) {i : Nat} (hi : i < (ix l k).Phis.length) (hG : graphPhis bs 0 l = graphPhis bs k (l.drop k)) (hno : ∀ p ∈ (ix l k).Phis.take i,badPhi bs k p = false) (h : badPhi bs k (ix (ix l k).Phis i) = true) : graphPhis bs 0 l = (16,(k : Int),-1 - (i : Int)) := by
 rw [hG,drop_ix hk,graphPhis]
 have := idx_hit hi hno h
 unfold idxM at this
 split at this
 · rename_i a ha; (try rw [ha]); have : a = i := by omega
   subst this; rfl
 · omega
theorem phis_good {l : List D.MBlock} (hk : k < l.length) {i : Nat} (hi : (ix l k).Phis.length ≤ i) (hG : graphPhis bs 0 l = graphPhis bs k (l.drop k)) (hno : ∀ p ∈ (ix l k).Phis.take i,badPhi bs k p = false) : graphPhis bs 0 l = graphPhis bs (k + 1) (l.drop (k + 1)) := by
 rw [hG,drop_ix hk,graphPhis]
 rw [List.take_of_length_le hi] at hno
 rw [List.findIdx?_eq_none_iff.2 hno]
end
def idxInt (l : List Int) (x : Int) : Int := idxM l (fun y => decide (x = y))
theorem idxInt_ct {a0 : Value} {l : List Int} {N0 : Nat} (x : Int) : Tv Tryz.prog 176 #[a0,.int .i64 x] [dv (rLn N0 (rI .i64)) a0 l] [] (.int .i64 (idxInt l x)) := by
 refine jenter (args := [a0,.int .i64 x]) Tryz.func176 rfl rfl rfl fun w0 X => ?_
 refine jq (jr (ja Z (jn (jx (jq (jq (jr (jm Z (jdq d0 fun q1 w1 => js (jln U22 d0 Z) (jm Z ?_))))))))))
 refine jn (jx (jb ?_))
 refine jlp (fun (k : Nat) => ⟨k ≤ l.length ∧ (∀ y ∈ l.take k,decide (x = y) = false),[dv (rLn N0 (rI .i64)) a0 l],[],[(0,a0),(1,.int .i64 x),(7,.int .i64 (↑(List.length l))),(8,.int .i64 (↑k))],l.length - k⟩) 0 ⟨by omega,by simp⟩ (dc d0 dn) kn ⟨Z,Z,Z,eqI (by omega),trivial⟩ ?_
 rintro k; dsimp only; rintro ⟨hk,hR⟩
 refine jq (jr (js (jlss Z Z) (jn (jx (jq ?_)))))
 refine jif Z (fun hc1 => ?_) (fun hc1 => ?_)
 refine jsk (jx (jq (jb (jq (jr (jm Z (ja Z (jn (jx (jq (jr ?_)))))))))))
 refine jm Z (jm Z (jm Z (js (jix U22 Z3 d0 Z Z Z (by omega)) (js (jlI (dix d0 k (by omega)) O3 Z) (js (jeql Z Z) (jn (jx ?_)))))))
 refine jif Z (fun hc2 => ?_) (fun hc2 => ?_)
 refine jq (jr (jm Z (ja Z (jn (jx (jrt (jbr (jtr (jtr (jbr (jtr ?_)))))))))))
 exact jrI Z Z (idx_hit (q := fun y => decide (x = y)) (by omega) hR (decide_eq_true hc2))
 refine jsk (jbn (jx (jr (js (jadd Z Z (by omega)) (jm Z (jn ?_))))))
 exact jag (k + 1) ⟨by omega,no_snoc (q := fun y => decide (x = y)) (by omega) hR (decide_eq_false hc2)⟩ (dc d0 dn) kn ⟨Z,Z,Z,eqI (by omega),trivial⟩
 refine jex (jtx (jtx (jbh (jx (jq (jr (ja Z (jn (jx (jrt ?_))))))))))
 exact jrI Z Z (idx_none (q := fun y => decide (x = y)) (by omega) hR)
def idxBool (l : List Bool) (x : Bool) : Int := idxM l (fun y => (x == y))
theorem idxBool_ct {a0 : Value} {l : List Bool} {N0 : Nat} (x : Bool) : Tv Tryz.prog 139 #[a0,.bool x] [dv (rLn N0 rB) a0 l] [] (.int .i64 (idxBool l x)) := by
 refine jenter (args := [a0,.bool x]) Tryz.func139 rfl rfl rfl fun w0 X => ?_
 refine jq (jr (ja Z (jn (jx (jq (jq (jr (jm Z (jdq d0 fun q1 w1 => js (jln U129 d0 Z) (jm Z ?_))))))))))
 refine jn (jx (jb ?_))
 refine jlp (fun (k : Nat) => ⟨k ≤ l.length ∧ (∀ y ∈ l.take k,(x == y) = false),[dv (rLn N0 rB) a0 l],[],[(0,a0),(1,.bool x),(7,.int .i64 (↑(List.length l))),(8,.int .i64 (↑k))],l.length - k⟩) 0 ⟨by omega,by simp⟩ (dc d0 dn) kn ⟨Z,Z,Z,eqI (by omega),trivial⟩ ?_
 rintro k; dsimp only; rintro ⟨hk,hR⟩
 refine jq (jr (js (jlss Z Z) (jn (jx (jq ?_)))))
 refine jif Z (fun hc1 => ?_) (fun hc1 => ?_)
 refine jsk (jx (jq (jb (jq (jr (jm Z (ja Z (jn (jx (jq (jr ?_)))))))))))
 refine jm Z (jm Z (jm Z (js (jix U129 Z4 d0 Z Z Z (by omega)) (js (jlB (dix d0 k (by omega)) O4 Z) (js (jeqlB U4 Z Z) (jn (jx ?_)))))))
 refine jif Z (fun hc2 => ?_) (fun hc2 => ?_)
 refine jq (jr (jm Z (ja Z (jn (jx (jrt (jbr (jtr (jtr (jbr (jtr ?_)))))))))))
 exact jrI Z Z (idx_hit (q := fun y => (x == y)) (by omega) hR hc2)
 refine jsk (jbn (jx (jr (js (jadd Z Z (by omega)) (jm Z (jn ?_))))))
 exact jag (k + 1) ⟨by omega,no_snoc (q := fun y => (x == y)) (by omega) hR hc2⟩ (dc d0 dn) kn ⟨Z,Z,Z,eqI (by omega),trivial⟩
 refine jex (jtx (jtx (jbh (jx (jq (jr (ja Z (jn (jx (jrt ?_))))))))))
 exact jrI Z Z (idx_none (q := fun y => (x == y)) (by omega) hR)
theorem has_ct {a0 : Value} {l : List Int} {N0 : Nat} (x : Int) : Tv Tryz.prog 138 #[a0,.int .i64 x] [dv (rLn N0 (rI .i64)) a0 l] [] (.bool (hasM l x)) := by
 refine jenter (args := [a0,.int .i64 x]) Tryz.func138 rfl rfl rfl fun w0 X => ?_
 refine jq (jr (ja Z (jn (jx (jq (jr (jm Z (jm Z (jdq d0 fun q1 w1 => jcv E176 Z Z (idxInt_ct x) (dc d0 dn) kn (js (jgeq Z Z) ?_))))))))))
 refine ja Z (jn (jx (jrt ?_)))
 exact jrB Z Z ((has_any l x).symm)
theorem pGraph1_ct {x : D.In} (y : Int) : Tv Tryz.prog 141 #[vIn x (),.int .i64 y] [da rIn (vIn x ()) x] [] (.bool ((fun (x : D.In) (y : Int) => decide (x.From = y)) x y)) := by
 refine jenter (args := [vIn x (),.int .i64 y]) Tryz.func141 rfl rfl rfl fun w0 X => ?_
 refine jq (jr (jbox Z Z fun g2 => ja Z (jn (jx (jq (jr (js (jf F111_0 Z) (js (jl k0 O3 Z Z) (jm Z (js (jeql Z Z) ?_))))))))))
 refine ja Z (jn (jx (jrt ?_)))
 exact jrB Z Z (by rfl)
theorem eqf_ct {a0 : Value} {a : List D.In} {a1 : Value} {b : List Int} : Tv Tryz.prog 140 #[a0,a1,.func (.func 141) #[] #[]] [dv (rL rIn) a0 a,dv (rL (rI .i64)) a1 b] [] (.bool (eqfM a b )) := by
 refine jenter (args := [a0,a1,.func (.func 141) #[] #[]]) Tryz.func140 rfl rfl rfl fun w0 X => ?_
 refine jq (jr (ja Z (jn (jx (jq (jq (jr (jm Z (jdq d0 fun q1 w1 => js (jln U63 d0 Z) (jm Z ?_))))))))))
 refine jdq d1 fun q2 w2 => js (jln U22 d1 Z) (js (jneq Z Z) (jn (jx ?_)))
 refine jif Z (fun hc1 => ?_) (fun hc1 => ?_)
 refine jq (jr (ja Z (jn (jx (jrt (jtr ?_))))))
 exact jrB Z Z (eqf_len (by omega))
 refine jsk (jx (jq (jq (jr (jm Z (js (jln U63 d0 Z) (jm Z (jn (jx (jb ?_))))))))))
 refine jlp (fun (k : Nat) => ⟨k ≤ a.length ∧ (a.take k).map (·.From) = b.take k,[dv (rL rIn) a0 a,dv (rL (rI .i64)) a1 b],[],[(1,a1),(2,.func (.func 141) #[] #[]),(15,a0),(16,.int .i64 (↑(List.length a))),(17,.int .i64 (↑k))],a.length - k⟩) 0 ⟨by omega,rfl⟩ (dc d0 (dc d1 dn)) kn ⟨Z,Z,Z,Z,eqI (by omega),trivial⟩ ?_
 rintro k; dsimp only; rintro ⟨hk,hR⟩
 refine jq (jr (js (jlss Z Z) (jn (jx (jq ?_)))))
 refine jif Z (fun hc2 => ?_) (fun hc2 => ?_)
 refine jsk (jx (jq (jb (jq (jr (jm Z (js (jix U63 Z111 d0 Z Z Z (by omega)) (jA sIn (jlA (dix d0 k (by omega)) A111 Z111 Z) fun _ => jalc J111 Z fun g8 => ja Z (jsta k0 Z111 Z Z Z ⟨Z,Z,trivial⟩ (saf Z) ?_)))))))))
 refine jn (jx (jq (jr (jm Z (jm Z (js (jix U22 Z3 d2 Z Z Z (by omega)) (js (jlI (dix d2 k (by omega)) O3 Z) (ja Z (jn (jx (jq ?_)))))))))))
 refine jr (jm Z (js (jla k0 A111 Z111 Z Z Z) (jm Z (jcv E141 Z Z (pGraph1_ct (ix b k)) (dc d0 dn) kn (js (jnot Z) (jn (jx ?_)))))))
 refine jif Z (fun hc3 => ?_) (fun hc3 => ?_)
 refine jq (jr (ja Z (jn (jx (jrt (jbr (jtr (jtr (jbr (jtr ?_))))))))))
 exact jrB Z Z (eqf_at (k := k) (by omega) (by omega) hc3)
 refine jsk (jbn (jx (jr (js (jadd Z Z (by omega)) (jm Z (jn ?_))))))
 exact jag (k + 1) ⟨by omega,by rw [take_ix (by omega),take_ix (by omega),List.map_append,hR]; simp [hc3]⟩ (dc d1 (dc d2 dn)) kn ⟨Z,Z,Z,Z,eqI (by omega),trivial⟩
 refine jex (jtx (jtx (jbh (jx (jq (jr (ja Z (jn (jx (jrt ?_))))))))))
 exact jrB Z Z (eqf_yes (k := k) (by omega) (by omega) hR)
abbrev U125 := @Tryz.underlying125
abbrev U26 := @Tryz.underlying26
theorem A95 : ∃ d,Tryz.prog.underlying 95 = some d ∧ (match d with | .struct _ | .array _ _ => true | _ => false) = true := ⟨_,Tryz.underlying95,rfl⟩
theorem E138 : Ent Tryz.prog 138 := ⟨_,Tryz.func138,by kernel_rfl,by kernel_rfl⟩
theorem E139 : Ent Tryz.prog 139 := ⟨_,Tryz.func139,by kernel_rfl,by kernel_rfl⟩
theorem E140 : Ent Tryz.prog 140 := ⟨_,Tryz.func140,by kernel_rfl,by kernel_rfl⟩
theorem F28_1 : Fld Tryz.prog 28 1 1 := ⟨_,_,Tryz.underlying28,rfl,rfl,1,(by unfold Sz; kernel_rfl),by decide⟩
theorem F95_0 : Fld Tryz.prog 95 0 0 := ⟨_,_,Tryz.underlying95,rfl,rfl,1,(by unfold Sz; kernel_rfl),by decide⟩
theorem F95_2 : Fld Tryz.prog 95 2 2 := ⟨_,_,Tryz.underlying95,rfl,rfl,5,(by unfold Sz; kernel_rfl),by decide⟩
theorem I22 : (Tryz.prog.info? 22).map (fun i => (i.zero,i.size,i.bytes)) = some (some (.slice none 0 0),1,24) := by kernel_rfl
theorem I4 : (Tryz.prog.info? 4).map (fun i => (i.zero,i.size,i.bytes)) = some (some (.bool false),1,1) := by kernel_rfl
theorem O26 : One Tryz.prog 26 := ⟨_,Tryz.underlying26,rfl⟩
theorem O57 : One Tryz.prog 57 := ⟨_,Tryz.underlying57,rfl⟩
theorem Z22 : Sz Tryz.prog 22 1 := by unfold Sz; kernel_rfl
theorem Z95 : Sz Tryz.prog 95 7 := by unfold Sz; kernel_rfl
theorem J65 : (Tryz.prog.info? 65).bind (·.zero) = some (.agg #[.int .i64 0,.slice none 0 0]) := by kernel_rfl
theorem J95 : (Tryz.prog.info? 95).bind (·.zero) = some (.agg #[.slice none 0 0,.slice none 0 0,.int .i64 0,.int .i64 0,.int .i64 0,.slice none 0 0,.int .i32 0]) := by kernel_rfl
theorem bad_yes {bs : List D.MBlock} {ls : List (List Int)} {k : Nat} {p : D.Phi} (hk : k < bs.length) (hls : ∀ b : Nat,b < bs.length → ls.getD b [] = predsT bs bs.length b) (h : (k : Int) = 0 ∨ eqfM p.In (ix ls k) = false) : badPhi bs k p = true := by
 have h1 : ix ls k = predsM bs k := hls k hk
 unfold badPhi
 rcases h with h | h
 · rw [decide_eq_true (by omega)]; rfl
 · rw [h1] at h; unfold eqfM at h; rw [h]; simp
theorem bad_no {bs : List D.MBlock} {ls : List (List Int)} {k : Nat} {p : D.Phi} (hk : k < bs.length) (hls : ∀ b : Nat,b < bs.length → ls.getD b [] = predsT bs bs.length b) (h : ¬ (k : Int) = 0 ∧ eqfM p.In (ix ls k) = true) : badPhi bs k p = false := by
 have h1 : ix ls k = predsM bs k := hls k hk
 unfold badPhi
 obtain ⟨h,h2⟩ := h
 rw [h1] at h2; unfold eqfM at h2; rw [h2,decide_eq_false (by omega)]; rfl
section
variable {m : D.MFunc} {f : Nat} {se : List Bool} {q : List Int}
theorem graph_re (hb : reachedM m.Blocks = bfs m.Blocks f se q) (hq : q = []) : reachedM m.Blocks = se := by rw [hb,hq,bfs_nil]
theorem graph_15 (hb : reachedM m.Blocks = bfs m.Blocks f se q) (hq : q = []) (h : 0 ≤ idxBool se false) : graphM m = (15,idxBool se false,0) := by
 unfold graphM; rw [graph_re hb hq]; unfold idxBool at h ⊢; rw [if_pos h]
theorem graph_no (hb : reachedM m.Blocks = bfs m.Blocks f se q) (hq : q = []) (h : ¬ 0 ≤ idxBool se false) : graphM m = graphPhis m.Blocks 0 m.Blocks := by
 unfold graphM; rw [graph_re hb hq]; unfold idxBool at h; rw [if_neg h]
theorem graph_16 (hb : reachedM m.Blocks = bfs m.Blocks f se q) (hq : q = []) (h : ¬ 0 ≤ idxBool se false) {k i : Nat} (hk : k < m.Blocks.length) (hi : i < (ix m.Blocks k).Phis.length) (hG : graphPhis m.Blocks 0 m.Blocks = graphPhis m.Blocks k (m.Blocks.drop k)) (hno : ∀ p ∈ (ix m.Blocks k).Phis.take i,badPhi m.Blocks k p = false) (h2 : badPhi m.Blocks k (ix (ix m.Blocks k).Phis i) = true) : graphM m = (16,(k : Int),-1 - (i : Int)) := by
 rw [graph_no hb hq h]; exact phis_bad hk hi hG hno h2
theorem graph_0 (hb : reachedM m.Blocks = bfs m.Blocks f se q) (hq : q = []) (h : ¬ 0 ≤ idxBool se false) {k : Nat} (hk : m.Blocks.length ≤ k) (hG : graphPhis m.Blocks 0 m.Blocks = graphPhis m.Blocks k (m.Blocks.drop k)) : graphM m = (0,0,0) := by
 rw [graph_no hb hq h,hG,List.drop_of_length_le hk]; rfl
end
set_option maxRecDepth 4000 in
theorem pGraph_ct {a0 : Value} {m : D.MFunc} (hn : 0 < m.Blocks.length) (hT : ∀ x ∈ m.Blocks,∀ t ∈ x.End.To,1 ≤ t ∧ t < m.Blocks.length) : Tv Tryz.prog 80 #[vMFunc m a0] [da rMFunc (vMFunc m a0) m] [] (.tuple #[.int .i64 ((graphM m).1),.int .i64 ((graphM m).2.1),.int .i64 ((graphM m).2.2)]) := by
 refine jenter (args := [vMFunc m a0]) Tryz.func80 rfl rfl rfl fun w0 X => ?_
 refine jq (jr (jbox Z Z fun g1 => ja Z (ja Z (ja Z (jn (jx (jq (jr (js (jf F28_1 Z) (js (jl k0 O26 Z Z) ?_))))))))))
 refine jdq (rMFunc.cB d0) fun q1 w1 => js (jln U26 (rMFunc.cB d0) Z) (jmk (m := (List.length m.Blocks)) (r := rV) U125 I22 Z Z Z Z Z (by omega) (wV Z) Z fun g22 => jrn (r := (rI .i64)) (T := 3) (List.length m.Blocks) (ja Z (jn (jx (jq (jr (js (jf F28_1 Z) (js (jl k2 O26 Z Z) (js (jln U26 (rMFunc.cB d0) Z) ?_)))))))))
 refine jmk (m := (List.length m.Blocks)) (r := rB) U129 I4 Z Z Z Z Z (by omega) wB Z fun g26 => ja Z (jn (jx (jq (jq (jr (js (jf F28_1 Z) (js (jl k3 O26 Z Z) (js (jln U26 (rMFunc.cB d0) Z) (jm Z (jn ?_))))))))))
 refine jx (jb ?_)
 refine jlp (u3 fun (k : Nat) (vs : List Value) (ls : List (List Int)) => ⟨k ≤ m.Blocks.length ∧ vs.length = m.Blocks.length ∧ ls.length = m.Blocks.length ∧ (∀ b : Nat,b < m.Blocks.length → ls.getD b [] = predsT m.Blocks k b),[da rMFunc (vMFunc m a0) m],[gl X.n rB 4 (.slice (some ⟨g26,0,none⟩) (List.length m.Blocks) (List.length m.Blocks)) (List.replicate (List.length m.Blocks) false),rw' X.n (rI .i64) 3 vs ls,gl X.n rV 22 (.slice (some ⟨g22,0,none⟩) (List.length m.Blocks) (List.length m.Blocks)) vs,bx g1 28 [.int .i64 m.Params,a0]],[(1,.pointer (some ⟨g1,0,none⟩)),(2,.int .i64 0),(3,.int .i64 0),(4,.int .i64 0),(5,(.slice (some ⟨g22,0,none⟩) (List.length m.Blocks) (List.length m.Blocks))),(6,(.slice (some ⟨g26,0,none⟩) (List.length m.Blocks) (List.length m.Blocks))),(28,a0),(29,.int .i64 (↑(List.length m.Blocks))),(30,.int .i64 (↑k))],m.Blocks.length - k⟩) (0,List.replicate (List.length m.Blocks) (.slice none 0 0),List.replicate (List.length m.Blocks) []) ⟨by dsimp only; omega,by simp,by simp,by intro b hb; simp [predsT,List.getD,hb]⟩ (dc d0 dn) (kd (kd kn)) ⟨Z,Z,Z,Z,Z,Z,Z,Z,eqI (by omega),trivial⟩ ?_
 rintro ⟨k,vs,ls⟩; dsimp only [u3]; rintro ⟨hk,hv,hl,hls⟩
 refine jq (jr (js (jlss Z Z) (jn (jx (jq ?_)))))
 refine jif Z (fun hc1 => ?_) (fun hc1 => ?_)
 refine jsk (jx (jq (jb (jq (jr (jm Z (js (jix U26 Z95 (rMFunc.cB d0) Z Z Z (by omega)) (jA3 sMBlock (jlA (dix (rMFunc.cB d0) k (by omega)) A95 Z95 Z) fun c34a c34b c34c => jalc J95 Z fun g8 => ja Z (jdq (rMBlock.cP d0) fun q3 w3 => ?_)))))))))
 refine jdq (rMBlock.cI d0) fun q4 w4 => jdq (rMBlock.cT d0) fun q5 w5 => jsta k0 Z95 Z Z Z ⟨w3.one,w4.one,Z,Z,Z,w5.one,Z,trivial⟩ (saf Z) (jn (jx (jq (jr (js (jf F95_2 Z) (js (jf F88_3 Z) (js (jl k0 O22 Z Z) (js (jln U22 (rMBlock.cT d0) Z) (jm Z ?_)))))))))
 refine jn (jx (jb ?_))
 refine jlp (u3 fun (j : Nat) (vs2 : List Value) (ls2 : List (List Int)) => ⟨j ≤ (ix m.Blocks k).End.To.length ∧ vs2.length = m.Blocks.length ∧ ls2.length = m.Blocks.length ∧ (∀ b : Nat,b < m.Blocks.length → ls2.getD b [] = predsJ m.Blocks k j b),[da rMBlock (vMBlock (ix m.Blocks k) (c34a,c34b,c34c)) (ix m.Blocks k),da rMFunc (vMFunc m a0) m],[gl X.n rB 4 (.slice (some ⟨g26,0,none⟩) (List.length m.Blocks) (List.length m.Blocks)) (List.replicate (List.length m.Blocks) false),rw' X.n (rI .i64) 3 vs2 ls2,gl X.n rV 22 (.slice (some ⟨g22,0,none⟩) (List.length m.Blocks) (List.length m.Blocks)) vs2,bx g1 28 [.int .i64 m.Params,a0]],[(1,.pointer (some ⟨g1,0,none⟩)),(2,.int .i64 0),(3,.int .i64 0),(4,.int .i64 0),(5,(.slice (some ⟨g22,0,none⟩) (List.length m.Blocks) (List.length m.Blocks))),(6,(.slice (some ⟨g26,0,none⟩) (List.length m.Blocks) (List.length m.Blocks))),(7,.int .i64 (↑k)),(28,a0),(29,.int .i64 (↑(List.length m.Blocks))),(30,.int .i64 (↑k)),(37,c34c),(38,.int .i64 (↑(List.length (((ix m.Blocks k).End).To)))),(39,.int .i64 (↑j))],(ix m.Blocks k).End.To.length - j⟩) (0,vs,ls) ⟨by dsimp only; omega,hv,hl,by dsimp only; intro b hb; rw [predsJ_zero]; exact hls b hb⟩ (dc d0 (dc d1 dn)) (kc k1 (kc k1 (kc k1 (kc k1 kn)))) ⟨Z,Z,Z,Z,Z,Z,Z,Z,Z,Z,Z,Z,eqI (by omega),trivial⟩ ?_
 rintro ⟨j,vs2,ls2⟩; dsimp only [u3]; rintro ⟨hj,hv2,hl2,hls2⟩
 refine jq (jr (js (jlss Z Z) (jn (jx (jq ?_)))))
 refine jif Z (fun hc2 => ?_) (fun hc2 => ?_)
 have htj := hT _ (ix_mem (l := m.Blocks) (i := k) (by omega)) _ (ix_mem (l := (ix m.Blocks k).End.To) (i := j) (by omega))
 have hrl := row_len (by omega) hls2 (by omega) (show (ix (ix m.Blocks k).End.To j).toNat < m.Blocks.length by omega)
 refine jsk (jx (jq (jb (jq (jr (js (jix U22 Z3 (rMBlock.cT d0) Z Z Z (by omega)) (js (jlI (dix (rMBlock.cT d0) j (by omega)) O3 Z) (ja Z (jn (jx (jq ?_)))))))))))
 refine jr (jm Z (jm Z (js (jig (i := (Int.toNat (ix (((ix m.Blocks k).End).To) j))) U125 Z22 k2 Z Z (by omega) (by omega)) (js (jgW k2 (by omega) O22 Z) (jm Z (jro (Int.toNat (ix (((ix m.Blocks k).End).To) j)) k1 (by omega) (by omega) (jgo k0 fun w7 => jc E138 Z Z (Tv.temp 4294967296 (has_ct ↑k) (by omega)) dn (kc k0 kn) (fun _ => p0) (fun _ => p1) fun _ => jrx k0 k0 (by omega) (by omega) (js (jnot Z) (jn ?_)))))))))
 refine jx ?_
 refine jif Z (fun hc3 => ?_) (fun hc3 => ?_)
 refine jr (jm Z (jm Z (jm Z (jm Z (js (jig (i := (Int.toNat (ix (((ix m.Blocks k).End).To) j))) U125 Z22 k2 Z Z (by omega) (by omega)) (js (jgW k2 (by omega) O22 Z) (jm Z (jro (Int.toNat (ix (((ix m.Blocks k).End).To) j)) k0 (by omega) (by omega) (jgo k0 fun w9 => japv U22 I3 (by decide) Z Z k0 Z (wI (wp (IntWalk.i64_in _ (by omega)))) (by omega) (fun _ => Z) fun v58 _ w10 => js (jig (i := (Int.toNat (ix (((ix m.Blocks k).End).To) j))) U125 Z22 k3 Z Z (by omega) (by omega)) ?_)))))))))
 refine jsg k3 Z Z22 Z Z w10.one (by omega) (wV w10.one) (jru k1 k1 (by omega) (by omega) (jn (jbn (jx (jr (js (jadd Z Z (by omega)) (jm Z (jn ?_))))))))
 exact jag (j + 1,List.set vs2 (Int.toNat (ix (((ix m.Blocks k).End).To) j)) v58,List.set ls2 (Int.toNat (ix (((ix m.Blocks k).End).To) j)) ((List.getD ls2 (Int.toNat (ix (((ix m.Blocks k).End).To) j)) []) ++ [((k : Nat) : Int)])) ⟨by dsimp only; omega,by dsimp only; first | exact hv2 | (rw [List.length_set]; exact hv2),by dsimp only; first | exact hl2 | (rw [List.length_set]; exact hl2),by dsimp only; first | exact stepOld (by omega) hls2 (by omega) hc3 | exact stepNew (by omega) hls2 (by omega) hl2 hc3⟩ (dc d0 (dc d1 dn)) (kc k2 (kd (kc k0 kn))) ⟨Z,Z,Z,Z,Z,Z,Z,Z,Z,Z,Z,Z,eqI (by omega),trivial⟩
 refine jsk (jbn (jx (jr (js (jadd Z Z (by omega)) (jm Z (jn ?_))))))
 exact jag (j + 1,vs2,ls2) ⟨by dsimp only; omega,by dsimp only; first | exact hv2 | (rw [List.length_set]; exact hv2),by dsimp only; first | exact hl2 | (rw [List.length_set]; exact hl2),by dsimp only; first | exact stepOld (by omega) hls2 (by omega) hc3 | exact stepNew (by omega) hls2 (by omega) hl2 hc3⟩ (dc d0 (dc d1 dn)) (kc k1 (kd (kc k0 kn))) ⟨Z,Z,Z,Z,Z,Z,Z,Z,Z,Z,Z,Z,eqI (by omega),trivial⟩
 refine jex (jtx (jtx (jbh (jbn (jx (jr (js (jadd Z Z (by omega)) (jm Z (jn ?_)))))))))
 exact jag (k + 1,vs2,ls2) ⟨by dsimp only; omega,by dsimp only; exact hv2,by dsimp only; exact hl2,by dsimp only; intro b hb; rw [hls2 b hb,predsJ_end _ _ _ _ (by omega)]⟩ (dc d1 dn) (kd (kd kn)) ⟨Z,Z,Z,Z,Z,Z,Z,Z,eqI (by omega),trivial⟩
 refine jex (jtx (jtx (jbh (jx (jq (cfr k2 k1 (by omega) (by omega) (rows_len hl (by omega) hls hk) (jr (jm Z (js (jig (i := 0) U129 Z4 k0 Z Z Z (by rw [lrep]; omega)) (jsg k0 Z Z4 Z Z Z (by rw [lrep]; omega) wB (jn ?_)))))))))))
 refine jx (jq (jq (jr (jlit (r := (rI .i64)) (l := [0]) U22 I3 (by decide) Z Z Z (lV Z Z (wI (wl 0)) ln) fun g64 => ja Z (jn (jx (jb (jgw k0 Z (by simp) ?_))))))))
 refine jlp (u4 fun (f : Nat) (se : List Bool) (q : List Int) (vq : Value) => ⟨reachedM m.Blocks = bfs m.Blocks f se q ∧ cntF se + q.length ≤ f ∧ f ≤ m.Blocks.length ∧ se.length = m.Blocks.length ∧ (∀ x ∈ q,0 ≤ x ∧ x < m.Blocks.length),[dv (rL (rL (rI .i64))) (.slice (some ⟨g22,0,none⟩) (List.length m.Blocks) (List.length m.Blocks)) ls,da rMFunc (vMFunc m a0) m],[wn X.n (rI .i64) 3 vq q,gl X.n rB 4 (.slice (some ⟨g26,0,none⟩) (List.length m.Blocks) (List.length m.Blocks)) se,bx g1 28 [.int .i64 m.Params,a0]],[(1,.pointer (some ⟨g1,0,none⟩)),(2,.int .i64 0),(3,.int .i64 0),(4,.int .i64 0),(5,(.slice (some ⟨g22,0,none⟩) (List.length m.Blocks) (List.length m.Blocks))),(6,(.slice (some ⟨g26,0,none⟩) (List.length m.Blocks) (List.length m.Blocks))),(11,vq)],f⟩) (m.Blocks.length,List.set (List.replicate (List.length m.Blocks) false) 0 true,[0],(.slice (some ⟨g64,0,none⟩) 1 1)) ⟨rfl,cnt_start hn,Nat.le_refl _,by simp,by simp; omega⟩ (dc d0 (dc d1 dn)) (kd (kc k0 kn)) ⟨Z,Z,Z,Z,Z,Z,Z,trivial⟩ ?_
 rintro ⟨f,se,q,vq⟩; dsimp only [u4]; rintro ⟨hb,hcn,hfn,hse,hq⟩
 refine cgw k0 fun w12 => jq (jq (jr (jm Z (js (jlw U22 k0 Z) (js (jgtr Z Z) (jn (jx ?_)))))))
 refine jif Z (fun hc4 => ?_) (fun hc4 => ?_)
 have hq1 := hq _ (ix_mem (l := q) (i := 0) (by omega))
 refine jsk (jx (jq (jb (jq (jstl Mixed (by kernel_rfl) (jt (jf F28_1 Z) (jt (jl k2 O26 Z Z) (jt (jmv Z) (jt (jiw (i := 0) U22 Z3 k0 Z Z Z (by omega)) (jt (jwI k0 (by omega) O3 Z) (jt (jix (i := (Int.toNat (ix q 0))) U26 Z95 (rMFunc.cB d1) Z Z (by omega) (by omega)) ?_)))))))))))
 refine jt (jf F95_2 Z) (jt (jf F88_3 Z) (jtv (jlV (rEnd.A_To (rMBlock.A_End (dix (rMFunc.cB d1) (Int.toNat (ix q 0)) (by omega)))) O22 Z Z) fun v78 q13 w13 => jt (jln U22 d0 Z) (jt (jmv Z) (jdn (jx (jb ?_))))))
 refine jlp (u4 fun (j : Nat) (se2 : List Bool) (q2 : List Int) (vq2 : Value) => ⟨j ≤ (ix m.Blocks (Int.toNat (ix q 0))).End.To.length ∧ bfsIn se2 q2 ((ix m.Blocks (Int.toNat (ix q 0))).End.To.drop j) = bfsIn se q (ix m.Blocks (Int.toNat (ix q 0))).End.To ∧ cntF se2 + q2.length = cntF se + q.length ∧ se2.length = m.Blocks.length ∧ (∀ x ∈ q2,0 ≤ x ∧ x < m.Blocks.length) ∧ 0 < q2.length,[dv (rL (rI .i64)) v78 (((ix m.Blocks (Int.toNat (ix q 0))).End).To),dv (rL (rL (rI .i64))) (.slice (some ⟨g22,0,none⟩) (List.length m.Blocks) (List.length m.Blocks)) ls,da rMFunc (vMFunc m a0) m],[wn X.n (rI .i64) 3 vq2 q2,gl X.n rB 4 (.slice (some ⟨g26,0,none⟩) (List.length m.Blocks) (List.length m.Blocks)) se2,bx g1 28 [.int .i64 m.Params,a0]],[(1,.pointer (some ⟨g1,0,none⟩)),(2,.int .i64 0),(3,.int .i64 0),(4,.int .i64 0),(5,(.slice (some ⟨g22,0,none⟩) (List.length m.Blocks) (List.length m.Blocks))),(6,(.slice (some ⟨g26,0,none⟩) (List.length m.Blocks) (List.length m.Blocks))),(11,vq2),(78,v78),(79,.int .i64 (↑(List.length (((ix m.Blocks (Int.toNat (ix q 0))).End).To)))),(80,.int .i64 (↑j))],(ix m.Blocks (Int.toNat (ix q 0))).End.To.length - j⟩) (0,se,q,vq) ⟨by dsimp only; omega,rfl,rfl,hse,hq,by dsimp only; omega⟩ (dc d0 (dc d1 (dc d2 dn))) (kd (kc k0 kn)) ⟨Z,Z,Z,Z,Z,Z,Z,Z,Z,eqI (by omega),trivial⟩ ?_
 rintro ⟨j,se2,q2,vq2⟩; dsimp only [u4]; rintro ⟨hj,hIn,hcn2,hse2,hq2,hq0⟩
 refine cgw k0 fun w15 => jq (jr (js (jlss Z Z) (jn (jx (jq ?_)))))
 refine jif Z (fun hc5 => ?_) (fun hc5 => ?_)
 have htq := hT _ (ix_mem (l := m.Blocks) (i := Int.toNat (ix q 0)) (by omega)) _ (ix_mem (l := (ix m.Blocks (Int.toNat (ix q 0))).End.To) (i := j) (by omega))
 refine jsk (jx (jq (jb (jq (jr (js (jix U22 Z3 d0 Z Z Z (by omega)) (js (jlI (dix d0 j (by omega)) O3 Z) (ja Z (jn (jx (jq ?_)))))))))))
 refine jr (jm Z (jm Z (js (jig (i := (Int.toNat (ix (((ix m.Blocks (Int.toNat (ix q 0))).End).To) j))) U129 Z4 k1 Z Z (by omega) (by omega)) (js (jgB k1 (by omega) O4 Z) (js (jnot Z) (jn (jx ?_)))))))
 refine jif Z (fun hc6 => ?_) (fun hc6 => ?_)
 refine jq (jr (jm Z (jm Z (js (jig (i := (Int.toNat (ix (((ix m.Blocks (Int.toNat (ix q 0))).End).To) j))) U129 Z4 k1 Z Z (by omega) (by omega)) (jsg k1 Z Z4 Z Z Z (by omega) wB (jn (jx (jr (jm Z (jm Z (jlit (r := (rI .i64)) (l := [ix (((ix m.Blocks (Int.toNat (ix q 0))).End).To) j]) U22 I3 (by decide) Z Z Z (lV Z Z (wI (wad (dix d0 j (by omega)))) ln) fun g94 => ?_)))))))))))
 refine jaw U22 I3 (by decide) Z Z k2 k0 Z Z (by omega) fun v95 w16 => ja Z (jn (jbn (jx (jr (js (jadd Z Z (by omega)) (jm Z (jn ?_)))))))
 exact jag (j + 1,List.set se2 (Int.toNat (ix (((ix m.Blocks (Int.toNat (ix q 0))).End).To) j)) true,q2 ++ [ix (((ix m.Blocks (Int.toNat (ix q 0))).End).To) j],v95) ⟨by dsimp only; omega,by dsimp only; rw [← hIn,drop_ix (l := (ix m.Blocks (Int.toNat (ix q 0))).End.To) (i := j) (by omega)]; simp only [bfsIn]; rw [if_neg (by rw [hc6]; decide)],by dsimp only; have h9 := cntF_set (l := se2) (i := Int.toNat (ix (ix m.Blocks (Int.toNat (ix q 0))).End.To j)) (by omega) (by rw [hc6]; decide); rw [List.length_append]; simp; omega,by dsimp only; rw [List.length_set]; exact hse2,by dsimp only; intro x hx9; rcases List.mem_append.1 hx9 with h9 | h9; (· exact hq2 x h9); (simp at h9; subst h9; omega),by dsimp only; rw [List.length_append]; simp⟩ (dc d0 (dc d1 (dc d2 dn))) (kd (kc k0 kn)) ⟨Z,Z,Z,Z,Z,Z,Z,Z,Z,eqI (by omega),trivial⟩
 refine jsk (jbn (jx (jr (js (jadd Z Z (by omega)) (jm Z (jn ?_))))))
 exact jag (j + 1,se2,q2,vq2) ⟨by dsimp only; omega,by dsimp only; rw [← hIn,drop_ix (l := (ix m.Blocks (Int.toNat (ix q 0))).End.To) (i := j) (by omega)]; simp only [bfsIn]; rw [if_pos hc6],hcn2,hse2,hq2,hq0⟩ (dc d0 (dc d1 (dc d2 dn))) (kd (kc k0 kn)) ⟨Z,Z,Z,Z,Z,Z,Z,Z,Z,eqI (by omega),trivial⟩
 refine jex (jtx (jtx (jbh (jbn (jx (jr (jm Z (jsw (lo := 1) U22 Z3 k0 Z Z Z (by omega) fun v69 w17 => ja Z (jn ?_)))))))))
 exact jag (f - 1,se2,List.drop 1 q2,v69) ⟨by dsimp only; rw [hb,bfs_step (by omega) (by omega),← hIn,List.drop_of_length_le (by omega)]; rfl,by dsimp only; rw [List.length_drop]; omega,by dsimp only; omega,hse2,by dsimp only; intro x hx9; exact hq2 x (List.mem_of_mem_drop hx9)⟩ (dc d1 (dc d2 dn)) (kd (kc k0 kn)) ⟨Z,Z,Z,Z,Z,Z,Z,trivial⟩
 have hq9 : q = [] := List.eq_nil_of_length_eq_zero (by omega)
 refine jex (jtx (jtx (jbh (jx (jq (jq (jr (jm Z (jc E139 Z Z (Tv.temp 4294967296 (idxBool_ct false) (by omega)) dn (kc k1 kn) (fun _ => p0) (fun _ => p1) fun _ => ja Z (jn ?_))))))))))
 refine jx (jq (jr (jm Z (js (jgeq Z Z) (jn (jx ?_))))))
 refine jif Z (fun hc7 => ?_) (fun hc7 => ?_)
 refine jq (jr (jm Z (ja Z (ja Z (ja Z (jn (jx (jrt (jtr ?_)))))))))
 exact jr3 Z Z Z Z () (tIII (by first | exact graph_15 hb hq9 hc7 | exact graph_16 hb hq9 hc7 (by omega) (by omega) hG hno (bad_yes (by omega) hls hc10) | exact graph_0 hb hq9 hc7 (by omega) hG)) dn (fun _ _ => kn)
 rw [show k = m.Blocks.length by omega] at hls
 refine jsk (jx (jq (jq (jr (js (jf F28_1 Z) (js (jl k2 O26 Z Z) (js (jln U26 (rMFunc.cB d1) Z) (jm Z (jn (jx (jb ?_)))))))))))
 refine jlp (fun (k5 : Nat) => ⟨k5 ≤ m.Blocks.length ∧ graphPhis m.Blocks 0 m.Blocks = graphPhis m.Blocks k5 (m.Blocks.drop k5),[dv (rL (rL (rI .i64))) (.slice (some ⟨g22,0,none⟩) (List.length m.Blocks) (List.length m.Blocks)) ls,da rMFunc (vMFunc m a0) m],[],[(5,(.slice (some ⟨g22,0,none⟩) (List.length m.Blocks) (List.length m.Blocks))),(103,a0),(104,.int .i64 (↑(List.length m.Blocks))),(105,.int .i64 (↑k5))],m.Blocks.length - k5⟩) 0 ⟨by omega,rfl⟩ (dc d0 (dc d1 dn)) kn ⟨Z,Z,Z,eqI (by omega),trivial⟩ ?_
 rintro k5; dsimp only; rintro ⟨hk5,hG⟩
 refine jq (jr (js (jlss Z Z) (jn (jx (jq ?_)))))
 refine jif Z (fun hc8 => ?_) (fun hc8 => ?_)
 refine jsk (jx (jq (jb (jq (jr (jm Z (js (jix U26 Z95 (rMFunc.cB d1) Z Z Z (by omega)) (jA3 sMBlock (jlA (dix (rMFunc.cB d1) k5 (by omega)) A95 Z95 Z) fun c109a c109b c109c => jalc J95 Z fun g16 => ja Z (jdq (rMBlock.cP d0) fun q19 w19 => ?_)))))))))
 refine jdq (rMBlock.cI d0) fun q20 w20 => jdq (rMBlock.cT d0) fun q21 w21 => jsta k0 Z95 Z Z Z ⟨w19.one,w20.one,Z,Z,Z,w21.one,Z,trivial⟩ (saf Z) (jn (jx (jq (jr (js (jf F95_0 Z) (js (jl k0 O57 Z Z) (js (jln U57 (rMBlock.cP d0) Z) (jm Z (jn ?_)))))))))
 refine jx (jb ?_)
 refine jlp (fun (i6 : Nat) => ⟨i6 ≤ (ix m.Blocks k5).Phis.length ∧ (∀ p ∈ (ix m.Blocks k5).Phis.take i6,badPhi m.Blocks k5 p = false),[da rMBlock (vMBlock (ix m.Blocks k5) (c109a,c109b,c109c)) (ix m.Blocks k5),dv (rL (rL (rI .i64))) (.slice (some ⟨g22,0,none⟩) (List.length m.Blocks) (List.length m.Blocks)) ls,da rMFunc (vMFunc m a0) m],[],[(5,(.slice (some ⟨g22,0,none⟩) (List.length m.Blocks) (List.length m.Blocks))),(15,.int .i64 (↑k5)),(103,a0),(104,.int .i64 (↑(List.length m.Blocks))),(105,.int .i64 (↑k5)),(111,c109a),(112,.int .i64 (↑(List.length ((ix m.Blocks k5).Phis)))),(113,.int .i64 (↑i6))],(ix m.Blocks k5).Phis.length - i6⟩) 0 ⟨by omega,by simp⟩ (dc d0 (dc d1 (dc d2 dn))) kn ⟨Z,Z,Z,Z,Z,Z,Z,eqI (by omega),trivial⟩ ?_
 rintro i6; dsimp only; rintro ⟨hi6,hno⟩
 refine jq (jr (js (jlss Z Z) (jn (jx (jq ?_)))))
 refine jif Z (fun hc9 => ?_) (fun hc9 => ?_)
 refine jsk (jx (jq (jb (jq (jr (jm Z (js (jix U57 Z65 (rMBlock.cP d0) Z Z Z (by omega)) (jA sPhi (jlA (dix (rMBlock.cP d0) i6 (by omega)) A65 Z65 Z) fun c117 => jalc J65 Z fun g18 => ja Z (jdq (rPhi.c_In d0) fun q23 w23 => ?_)))))))))
 refine jsta k0 Z65 Z Z Z ⟨Z,w23.one,trivial⟩ (saf Z) (jn (jx (jq (jany false (.a 0 (.a 1 (.a 2 (.a 3 (.a 4 (.a 5 (.a 6 (.a 7 (.a 8 (.o 9 (.a 10 (.a 11 .e)))))))))))) Mixed (by kernel_rfl) (kc k0 kn) fun F24 => jy Z (jmv Z) (jy Z (jeql Z Z) (jy Z (jmv Z) (jyg Z Z Z (.f _) (fun hg => jf F65_1 Z) (jyg Z Z Z (.f _) (fun hg => jl k0 O63 (evg Z hg) Z) (jyg Z Z Z (.f _) (fun hg => jmv Z) (jyg Z Z Z (.f _) (fun hg => jmv Z) ?_))))))))))
 refine adq d2 fun q25 w25 => jyg Z Z Z (.f _) (fun hg => jix U125 Z22 d2 (evg Z hg) (evg Z hg) Z (by first | omega | (simp at hg; omega) | (simp only [List.length_set]; omega) | (simp; done))) (jyge (q := fun v => dv (rL (rI .i64)) v (ix ls k5)) Z Z Z (.f _) (fun hg => xlV (dix d2 k5 (by first | omega | (simp at hg; omega) | (simp only [List.length_set]; omega) | (simp; done))) O22 Z (evg Z hg)) fun v126 => jyo Z (jgc Z Z (.f _) E140 Z (fun hg => evl3 (evg Z hg) (evg Z hg) Z) (fun hg => eqf_ct) (fun hg => (dc (rPhi.c_In d2) (dc (d1.on hg) dn))) kn p0 (jyn d0 (kc k0 kn) (jyg Z Z Z (.f _) (fun hg => jnot (evg Z hg)) (jy Z (jor Z Z) (jyd (jx ?_)))))))
 refine jif Z (fun hc10 => ?_) (fun hc10 => ?_)
 refine jq (jr (jm Z (jm Z (js (jsub Z Z (by omega)) (ja Z (ja Z (ja Z (jn (jx (jrt (jbr ?_)))))))))))
 refine jtr (jtr (jbr (jbr (jtr (jtr (jbr (jtr ?_)))))))
 exact jr3 Z Z Z Z () (tIII (by first | exact graph_15 hb hq9 hc7 | exact graph_16 hb hq9 hc7 (by omega) (by omega) hG hno (bad_yes (by omega) hls hc10) | exact graph_0 hb hq9 hc7 (by omega) hG)) dn (fun _ _ => kn)
 refine jsk (jbn (jx (jr (js (jadd Z Z (by omega)) (jm Z (jn ?_))))))
 exact jag (i6 + 1) ⟨by omega,no_snoc (by omega) hno (bad_no (by omega) hls hc10)⟩ (dc d3 (dc d4 (dc d5 dn))) kn ⟨Z,Z,Z,Z,Z,Z,Z,eqI (by omega),trivial⟩
 refine jex (jtx (jtx (jbh (jbn (jx (jr (js (jadd Z Z (by omega)) (jm Z (jn ?_)))))))))
 exact jag (k5 + 1) ⟨by omega,phis_good (by omega) (by omega) hG hno⟩ (dc d1 (dc d2 dn)) kn ⟨Z,Z,Z,eqI (by omega),trivial⟩
 refine jex (jtx (jtx (jbh (jx (jq (jr (ja Z (ja Z (ja Z (jn (jx ?_)))))))))))
 refine jrt ?_
 exact jr3 Z Z Z Z () (tIII (by first | exact graph_15 hb hq9 hc7 | exact graph_16 hb hq9 hc7 (by omega) (by omega) hG hno (bad_yes (by omega) hls hc10) | exact graph_0 hb hq9 hc7 (by omega) hG)) dn (fun _ _ => kn)
abbrev U93 := @Tryz.underlying93
theorem A28 : ∃ d,Tryz.prog.underlying 28 = some d ∧ (match d with | .struct _ | .array _ _ => true | _ => false) = true := ⟨_,Tryz.underlying28,rfl⟩
theorem E38 : Ent Tryz.prog 38 := ⟨_,Tryz.func38,by kernel_rfl,by kernel_rfl⟩
theorem E77 : Ent Tryz.prog 77 := ⟨_,Tryz.func77,by kernel_rfl,by kernel_rfl⟩
theorem E78 : Ent Tryz.prog 78 := ⟨_,Tryz.func78,by kernel_rfl,by kernel_rfl⟩
theorem E79 : Ent Tryz.prog 79 := ⟨_,Tryz.func79,by kernel_rfl,by kernel_rfl⟩
theorem E80 : Ent Tryz.prog 80 := ⟨_,Tryz.func80,by kernel_rfl,by kernel_rfl⟩
theorem F28_0 : Fld Tryz.prog 28 0 0 := ⟨_,_,Tryz.underlying28,rfl,rfl,1,(by unfold Sz; kernel_rfl),by decide⟩
theorem F95_1 : Fld Tryz.prog 95 1 1 := ⟨_,_,Tryz.underlying95,rfl,rfl,1,(by unfold Sz; kernel_rfl),by decide⟩
theorem O93 : One Tryz.prog 93 := ⟨_,Tryz.underlying93,rfl⟩
theorem Z28 : Sz Tryz.prog 28 2 := by unfold Sz; kernel_rfl
theorem J24 : (Tryz.prog.info? 24).bind (·.zero) = some (.agg #[.int .i64 0,.int .i64 0,.int .i64 0,.int .i64 0,.int .i64 0,.int .i64 0,.int .i32 0,.slice none 0 0]) := by kernel_rfl
def insW : Nat → List D.Mach → Option (Int × Int)
 | _,[] => none
 | i,y :: l => if insE y = 0 then insW (i + 1) l else some (insE y,(i : Int))
def phiW (all : List D.Phi) : Nat → List D.Phi → Option (Int × Int)
 | _,[] => none
 | i,p :: l => if phiE p (all.take i) = 0 then phiW all (i + 1) l else some (phiE p (all.take i),-1 - (i : Int))
def blockW (n : Int) (x : D.MBlock) : Option (Int × Int) :=
 match phiW x.Phis 0 x.Phis with
 | some t => some t
 | none => match insW 0 x.Ins with
   | some t => some t
   | none => if endE x.End n = 0 then none else some (endE x.End n,(x.Ins.length : Int))
def thingsW (n : Int) : Nat → List D.MBlock → Option (Int × Int × Int)
 | _,[] => none
 | b,x :: l => match blockW n x with
   | some t => some (t.1,(b : Int),t.2)
   | none => thingsW n (b + 1) l
def cntB : List D.MBlock → Int
 | [] => 0
 | x :: l => x.Phis.length + x.Ins.length + 1 + cntB l
def funcM (m : D.MFunc) : Int × Int × Int :=
 if m.Params < 0 ∨ 4 < m.Params then (1,0,0)
 else if m.Blocks.length = 0 then (14,0,0)
 else if 512 < m.Blocks.length ∨ 16384 < cntB m.Blocks then (2,0,0)
 else match thingsW m.Blocks.length 0 m.Blocks with
   | some t => t
   | none => graphM m
def rightM (m : D.MFunc) : Bool := decide ((funcM m).1 = 0)
section
variable {n : Int} {bs : List D.MBlock} {k i : Nat}
theorem phiW_end {P : List D.Phi} (hi : P.length ≤ i) (h : phiW P 0 P = phiW P i (P.drop i)) : phiW P 0 P = none := by rw [h,List.drop_of_length_le hi]; rfl
theorem insW_end {P : List D.Mach} (hi : P.length ≤ i) (h : insW 0 P = insW i (P.drop i)) : insW 0 P = none := by rw [h,List.drop_of_length_le hi]; rfl
theorem phiW_next {P : List D.Phi} (hi : i < P.length) (h : phiW P 0 P = phiW P i (P.drop i)) (h0 : phiE (ix P i) (P.take i) = 0) : phiW P 0 P = phiW P (i + 1) (P.drop (i + 1)) := by rw [h,drop_ix hi,phiW,if_pos h0]
theorem insW_next {P : List D.Mach} (hi : i < P.length) (h : insW 0 P = insW i (P.drop i)) (h0 : insE (ix P i) = 0) : insW 0 P = insW (i + 1) (P.drop (i + 1)) := by rw [h,drop_ix hi,insW,if_pos h0]
theorem things_phi (hk : k < bs.length) (hB : thingsW n 0 bs = thingsW n k (bs.drop k)) (hi : i < (ix bs k).Phis.length) (hP : phiW (ix bs k).Phis 0 (ix bs k).Phis = phiW (ix bs k).Phis i ((ix bs k).Phis.drop i)) (h : ¬ phiE (ix (ix bs k).Phis i) ((ix bs k).Phis.take i) = 0) :
   thingsW n 0 bs = some (phiE (ix (ix bs k).Phis i) ((ix bs k).Phis.take i),(k : Int),-1 - (i : Int)) := by
 rw [drop_ix hi,phiW,if_neg h] at hP
 rw [hB,drop_ix hk,thingsW,blockW,hP]
theorem things_ins (hk : k < bs.length) (hB : thingsW n 0 bs = thingsW n k (bs.drop k)) (hP : phiW (ix bs k).Phis 0 (ix bs k).Phis = none) (hi : i < (ix bs k).Ins.length) (hI : insW 0 (ix bs k).Ins = insW i ((ix bs k).Ins.drop i)) (h : ¬ insE (ix (ix bs k).Ins i) = 0) :
   thingsW n 0 bs = some (insE (ix (ix bs k).Ins i),(k : Int),(i : Int)) := by
 rw [drop_ix hi,insW,if_neg h] at hI
 rw [hB,drop_ix hk,thingsW,blockW,hP,hI]
theorem things_end (hk : k < bs.length) (hB : thingsW n 0 bs = thingsW n k (bs.drop k)) (hP : phiW (ix bs k).Phis 0 (ix bs k).Phis = none) (hI : insW 0 (ix bs k).Ins = none) (h : ¬ endE (ix bs k).End n = 0) :
   thingsW n 0 bs = some (endE (ix bs k).End n,(k : Int),((ix bs k).Ins.length : Int)) := by
 rw [hB,drop_ix hk,thingsW,blockW,hP,hI]
 simp only [if_neg h]
theorem things_next (hk : k < bs.length) (hB : thingsW n 0 bs = thingsW n k (bs.drop k)) (hP : phiW (ix bs k).Phis 0 (ix bs k).Phis = none) (hI : insW 0 (ix bs k).Ins = none) (h : endE (ix bs k).End n = 0) :
   thingsW n 0 bs = thingsW n (k + 1) (bs.drop (k + 1)) := by
 rw [hB,drop_ix hk,thingsW,blockW,hP,hI]
 simp only [if_pos h]
theorem things_done (hk : bs.length ≤ k) (hB : thingsW n 0 bs = thingsW n k (bs.drop k)) : thingsW n 0 bs = none := by rw [hB,List.drop_of_length_le hk]; rfl
theorem things_none : ∀ (bs : List D.MBlock) (b : Nat),thingsW n b bs = none → ∀ x ∈ bs,phiW x.Phis 0 x.Phis = none ∧ insW 0 x.Ins = none ∧ endE x.End n = 0
 | [],_,_,x,hx => by cases hx
 | y :: l,b,h,x,hx => by
   rw [thingsW] at h
   cases hb : blockW n y with
   | some t => rw [hb] at h; cases h
   | none =>
     rw [hb] at h
     rcases List.mem_cons.1 hx with rfl | hx
     · unfold blockW at hb
       cases h1 : phiW x.Phis 0 x.Phis with
       | some t => rw [h1] at hb; cases hb
       | none =>
         rw [h1] at hb
         cases h2 : insW 0 x.Ins with
         | some t => rw [h2] at hb; cases hb
         | none =>
           rw [h2] at hb
           refine ⟨rfl,rfl,?_⟩
           by_cases h3 : endE x.End n = 0
           · exact h3
           · simp only [if_neg h3] at hb; cases hb
     · exact things_none l _ h x hx
theorem end_to {e : D.End} (h : endE e n = 0) : toM e = true ∧ regM (nM9 e) = true ∧ ∀ t ∈ e.To,1 ≤ t ∧ t < n := by
 unfold endE at h
 split at h
 · cases h
 · split at h
   · cases h
   · split at h
     · cases h
     · rename_i h1 h2 h3
       refine ⟨by simpa using h1,by simpa using h2,fun t ht => ?_⟩
       have := (List.any_eq_false.1 (by simpa [anyM] using h3)) t ht
       unfold badB at this; simp at this; omega
theorem things_to (h : thingsW n 0 bs = none) : ∀ x ∈ bs,∀ t ∈ x.End.To,1 ≤ t ∧ t < n := fun x hx => (end_to (things_none bs 0 h x hx).2.2).2.2
end
section
variable {m : D.MFunc}
theorem func_arg (h : m.Params < 0 ∨ 4 < m.Params) : funcM m = (1,0,0) := by unfold funcM; rw [if_pos h]
theorem func_block (h : ¬ m.Params < 0 ∧ ¬ 4 < m.Params) (h2 : (m.Blocks.length : Int) = 0) : funcM m = (14,0,0) := by unfold funcM; rw [if_neg (by omega),if_pos (by omega)]
theorem func_many (h : ¬ m.Params < 0 ∧ ¬ 4 < m.Params) (h2 : ¬ (m.Blocks.length : Int) = 0) (h3 : 512 < (m.Blocks.length : Int) ∨ 16384 < cntB m.Blocks) : funcM m = (2,0,0) := by unfold funcM; rw [if_neg (by omega),if_neg (by omega),if_pos (by omega)]
theorem func_some (h : ¬ m.Params < 0 ∧ ¬ 4 < m.Params) (h2 : ¬ (m.Blocks.length : Int) = 0) (h3 : ¬ 512 < (m.Blocks.length : Int) ∧ ¬ 16384 < cntB m.Blocks) {t : Int × Int × Int} (h4 : thingsW m.Blocks.length 0 m.Blocks = some t) : funcM m = t := by
 unfold funcM; rw [if_neg (by omega),if_neg (by omega),if_neg (by omega),h4]
theorem func_graph (h : ¬ m.Params < 0 ∧ ¬ 4 < m.Params) (h2 : ¬ (m.Blocks.length : Int) = 0) (h3 : ¬ 512 < (m.Blocks.length : Int) ∧ ¬ 16384 < cntB m.Blocks) (h4 : thingsW m.Blocks.length 0 m.Blocks = none) : funcM m = graphM m := by
 unfold funcM; rw [if_neg (by omega),if_neg (by omega),if_neg (by omega),h4]
end
set_option maxRecDepth 4000 in
theorem pFunc_ct {a0 : Value} {m : D.MFunc} : Tv Tryz.prog 38 #[vMFunc m a0] [da rMFunc (vMFunc m a0) m] [] (.tuple #[.int .i64 ((funcM m).1),.int .i64 ((funcM m).2.1),.int .i64 ((funcM m).2.2)]) := by
 refine jenter (args := [vMFunc m a0]) Tryz.func38 rfl rfl rfl fun w0 X => ?_
 refine jq (jr (jbox Z Z fun g1 => ja Z (ja Z (ja Z (jn (jx (jq (jr (ja Z (jn ?_))))))))))
 refine jx (jq (jq (jr (js (jf F28_1 Z) (js (jl k0 O26 Z Z) (jdq (rMFunc.cB d0) fun q1 w1 => js (jln U26 (rMFunc.cB d0) Z) (jm Z (jn (jx (jb ?_))))))))))
 refine jlp (u2 fun (k : Nat) (c : Int) => ⟨k ≤ m.Blocks.length ∧ c + cntB (m.Blocks.drop k) = cntB m.Blocks ∧ 0 ≤ c ∧ c ≤ 2147483649 * k,[da rMFunc (vMFunc m a0) m],[bx g1 28 [.int .i64 m.Params,a0]],[(1,.pointer (some ⟨g1,0,none⟩)),(2,.int .i64 0),(3,.int .i64 0),(4,.int .i64 0),(5,.int .i64 c),(18,a0),(19,.int .i64 (↑(List.length m.Blocks))),(20,.int .i64 (↑k))],m.Blocks.length - k⟩) (0,0) ⟨by dsimp only; omega,by simp,by simp,by simp⟩ (dc d0 dn) (kc k0 kn) ⟨Z,Z,Z,Z,eqI (by omega),Z,Z,eqI (by omega),trivial⟩ ?_
 rintro ⟨k,c⟩; dsimp only [u2]; rintro ⟨hk,hc,h0,hc9⟩
 refine jq (jr (js (jlss Z Z) (jn (jx (jq ?_)))))
 refine jif Z (fun hc1 => ?_) (fun hc1 => ?_)
 refine jsk (jx (jq (jb (jq (jr (js (jix U26 Z95 (rMFunc.cB d0) Z Z Z (by omega)) (jA3 sMBlock (jlA (dix (rMFunc.cB d0) k (by omega)) A95 Z95 Z) fun c23a c23b c23c => jalc J95 Z fun g7 => jdq (rMBlock.cP d0) fun q3 w3 => jdq (rMBlock.cI d0) fun q4 w4 => jdq (rMBlock.cT d0) fun q5 w5 => ?_)))))))
 refine jsta k0 Z95 Z Z Z ⟨w3.one,w4.one,Z,Z,Z,w5.one,Z,trivial⟩ (saf Z) (jn (jx (jr (jm Z (js (jf F95_0 Z) (js (jl k0 O57 Z Z) (js (jln U57 (rMBlock.cP d0) Z) (js (jf F95_1 Z) (js (jl k0 O93 Z Z) (js (jln U93 (rMBlock.cI d0) Z) (js (jadd Z Z (by omega)) ?_)))))))))))
 refine js (jadd Z Z (by omega)) (js (jadd Z Z (by omega)) (ja Z (jn (jbn (jx (jr (js (jadd Z Z (by omega)) (jm Z (jn ?_)))))))))
 exact jag (k + 1,c + (((((List.length ((ix m.Blocks k).Phis) : Nat) : Int)) + (((List.length ((ix m.Blocks k).Ins) : Nat) : Int))) + 1)) ⟨by dsimp only; omega,by dsimp only; rw [← hc,drop_ix (l := m.Blocks) (i := k) (by omega),cntB]; omega,by dsimp only; omega,by dsimp only; omega⟩ (dc d1 dn) (kc k1 kn) ⟨Z,Z,Z,Z,Z,Z,Z,eqI (by omega),trivial⟩
 have hcnt : c = cntB m.Blocks := by rw [← hc,List.drop_of_length_le (by omega)]; simp [cntB]
 subst hcnt
 refine jex (jtx (jtx (jbh (jx (jq (jb (jq (jr (js (jf F28_0 Z) (js (jl k0 O3 Z Z) (js (jlss Z Z) ?_)))))))))))
 refine jm Z (jg Z Z (.f _) (fun hg => jf F28_0 Z) (jg Z Z (.f _) (fun hg => jl k0 O3 (evg Z hg) Z) (jg Z Z (.f _) (fun hg => jgtr (evg Z hg) Z) (js (jor Z Z) (ja Z (jn (jx ?_)))))))
 refine jif Z (fun hc2 => ?_) (fun hc2 => ?_)
 refine jq (jr (ja Z (ja Z (ja Z (jn (jx (jrt (jbr (jtr ?_)))))))))
 exact jr3 Z Z Z Z () (tIII (by first | exact func_arg hc2 | exact func_block hc2 hc3 | exact func_many hc2 hc3 hc4 | exact func_some hc2 hc3 hc4 (things_phi (by omega) hB (by omega) hP hc7) | exact func_some hc2 hc3 hc4 (things_ins (by omega) hB (phiW_end (by omega) hP) (by omega) hI hc9) | exact func_some hc2 hc3 hc4 (things_end (by omega) hB (phiW_end (by omega) hP) (insW_end (by omega) hI) hc10) | exact func_graph hc2 hc3 hc4 (things_done (by omega) hB))) dn (fun _ _ => kn)
 refine jq (jr (js (jf F28_1 Z) (js (jl k0 O26 Z Z) (js (jln U26 (rMFunc.cB d0) Z) (js (jeql Z Z) (ja Z (jn (jx ?_))))))))
 refine jif Z (fun hc3 => ?_) (fun hc3 => ?_)
 refine jq (jr (ja Z (ja Z (ja Z (jn (jx (jrt (jbr (jtr ?_)))))))))
 exact jr3 Z Z Z Z () (tIII (by first | exact func_arg hc2 | exact func_block hc2 hc3 | exact func_many hc2 hc3 hc4 | exact func_some hc2 hc3 hc4 (things_phi (by omega) hB (by omega) hP hc7) | exact func_some hc2 hc3 hc4 (things_ins (by omega) hB (phiW_end (by omega) hP) (by omega) hI hc9) | exact func_some hc2 hc3 hc4 (things_end (by omega) hB (phiW_end (by omega) hP) (insW_end (by omega) hI) hc10) | exact func_graph hc2 hc3 hc4 (things_done (by omega) hB))) dn (fun _ _ => kn)
 refine jq (jr (js (jf F28_1 Z) (js (jl k0 O26 Z Z) (js (jln U26 (rMFunc.cB d0) Z) (js (jgtr Z Z) (jm Z (jg Z Z (.f _) (fun hg => jmv Z) (jg Z Z (.f _) (fun hg => jgtr (evg Z hg) Z) (js (jor Z Z) (ja Z (jn ?_)))))))))))
 refine jx ?_
 refine jif Z (fun hc4 => ?_) (fun hc4 => ?_)
 refine jq (jr (ja Z (ja Z (ja Z (jn (jx (jrt (jbr (jtr ?_)))))))))
 exact jr3 Z Z Z Z () (tIII (by first | exact func_arg hc2 | exact func_block hc2 hc3 | exact func_many hc2 hc3 hc4 | exact func_some hc2 hc3 hc4 (things_phi (by omega) hB (by omega) hP hc7) | exact func_some hc2 hc3 hc4 (things_ins (by omega) hB (phiW_end (by omega) hP) (by omega) hI hc9) | exact func_some hc2 hc3 hc4 (things_end (by omega) hB (phiW_end (by omega) hP) (insW_end (by omega) hI) hc10) | exact func_graph hc2 hc3 hc4 (things_done (by omega) hB))) dn (fun _ _ => kn)
 refine jsk (jbn (jx (jq (jq (jr (js (jf F28_1 Z) (js (jl k0 O26 Z Z) (js (jln U26 (rMFunc.cB d0) Z) (jm Z (jn (jx ?_)))))))))))
 refine jb ?_
 refine jlp (fun (k : Nat) => ⟨k ≤ m.Blocks.length ∧ thingsW m.Blocks.length 0 m.Blocks = thingsW m.Blocks.length k (m.Blocks.drop k),[da rMFunc (vMFunc m a0) m],[bx g1 28 [.int .i64 m.Params,a0]],[(1,.pointer (some ⟨g1,0,none⟩)),(59,a0),(60,.int .i64 (↑(List.length m.Blocks))),(61,.int .i64 (↑k))],m.Blocks.length - k⟩) 0 ⟨by omega,rfl⟩ (dc d0 dn) (kc k0 kn) ⟨Z,Z,Z,eqI (by omega),trivial⟩ ?_
 rintro k; dsimp only; rintro ⟨hk,hB⟩
 refine jq (jr (js (jlss Z Z) (jn (jx (jq ?_)))))
 refine jif Z (fun hc5 => ?_) (fun hc5 => ?_)
 refine jsk (jx (jq (jb (jq (jr (jm Z (js (jix U26 Z95 (rMFunc.cB d0) Z Z Z (by omega)) (jA3 sMBlock (jlA (dix (rMFunc.cB d0) k (by omega)) A95 Z95 Z) fun c65a c65b c65c => jalc J95 Z fun g9 => ja Z (jdq (rMBlock.cP d0) fun q7 w7 => ?_)))))))))
 refine jdq (rMBlock.cI d0) fun q8 w8 => jdq (rMBlock.cT d0) fun q9 w9 => jsta k0 Z95 Z Z Z ⟨w7.one,w8.one,Z,Z,Z,w9.one,Z,trivial⟩ (saf Z) (jn (jx (jq (jq (jr (js (jf F95_0 Z) (js (jl k0 O57 Z Z) (js (jln U57 (rMBlock.cP d0) Z) (jm Z ?_)))))))))
 refine jn (jx (jb ?_))
 refine jlp (fun (i : Nat) => ⟨i ≤ (ix m.Blocks k).Phis.length ∧ phiW (ix m.Blocks k).Phis 0 (ix m.Blocks k).Phis = phiW (ix m.Blocks k).Phis i ((ix m.Blocks k).Phis.drop i),[da rMBlock (vMBlock (ix m.Blocks k) (c65a,c65b,c65c)) (ix m.Blocks k),da rMFunc (vMFunc m a0) m],[bx g9 95 [c65a,c65b,.int .i64 (((ix m.Blocks k).End).Op),.int .i64 (((ix m.Blocks k).End).A),.int .i64 (((ix m.Blocks k).End).B),c65c,.int .i32 (((ix m.Blocks k).End).Imm)],bx g1 28 [.int .i64 m.Params,a0]],[(1,.pointer (some ⟨g1,0,none⟩)),(8,.int .i64 (↑k)),(9,.pointer (some ⟨g9,0,none⟩)),(59,a0),(60,.int .i64 (↑(List.length m.Blocks))),(61,.int .i64 (↑k)),(67,c65a),(68,.int .i64 (↑(List.length ((ix m.Blocks k).Phis)))),(69,.int .i64 (↑i))],(ix m.Blocks k).Phis.length - i⟩) 0 ⟨by omega,rfl⟩ (dc d0 (dc d1 dn)) (kd kn) ⟨Z,Z,Z,Z,Z,Z,Z,Z,eqI (by omega),trivial⟩ ?_
 rintro i; dsimp only; rintro ⟨hi,hP⟩
 refine jq (jr (js (jlss Z Z) (jn (jx (jq ?_)))))
 refine jif Z (fun hc6 => ?_) (fun hc6 => ?_)
 refine jsk (jx (jq (jb (jq (jr (jm Z (js (jix U57 Z65 (rMBlock.cP d0) Z Z Z (by omega)) (jA sPhi (jlA (dix (rMBlock.cP d0) i (by omega)) A65 Z65 Z) fun c73 => jalc J65 Z fun g11 => ja Z (jdq (rPhi.c_In d0) fun q11 w11 => ?_)))))))))
 refine jsta k0 Z65 Z Z Z ⟨Z,w11.one,trivial⟩ (saf Z) (jn (jx (jq (jtl 5 Mixed (by kernel_rfl) (jt (jla k0 A65 Z65 Z Z Z) (jt (jf F95_0 Z) (jt (jl k1 O57 Z Z) (jt (jmv Z) (jt (jshi (hi := i) U57 Z65 (rMBlock.cP d1) Z Z Z (by omega)) (jtt (jdq (dhi (rMBlock.cP d1) i (by omega) (by omega)) fun q12 w12 => ?_)))))))))))
 refine jcv E77 Z Z pPhi_ct (dc d0 (dc (dhi (rMBlock.cP d1) i (by omega) (by omega)) dn)) kn (ja Z (jn (jx (jq (jr (jm Z (js (jneq Z Z) (jn (jx ?_)))))))))
 refine jif Z (fun hc7 => ?_) (fun hc7 => ?_)
 refine jq (jr (jm Z (jm Z (jm Z (js (jsub Z Z (by omega)) (ja Z (ja Z (ja Z (jn (jx (jrt ?_)))))))))))
 refine jbr (jtr (jtr (jbr (jtr (jbr (jtr (jtr (jbr (jtr ?_)))))))))
 exact jr3 Z Z Z Z () (tIII (by first | exact func_arg hc2 | exact func_block hc2 hc3 | exact func_many hc2 hc3 hc4 | exact func_some hc2 hc3 hc4 (things_phi (by omega) hB (by omega) hP hc7) | exact func_some hc2 hc3 hc4 (things_ins (by omega) hB (phiW_end (by omega) hP) (by omega) hI hc9) | exact func_some hc2 hc3 hc4 (things_end (by omega) hB (phiW_end (by omega) hP) (insW_end (by omega) hI) hc10) | exact func_graph hc2 hc3 hc4 (things_done (by omega) hB))) dn (fun _ _ => kn)
 refine jsk (jbn (jx (jr (js (jadd Z Z (by omega)) (jm Z (jn ?_))))))
 exact jag (i + 1) ⟨by omega,phiW_next (by omega) hP hc7⟩ (dc d1 (dc d2 dn)) (kc k1 (kc k1 kn)) ⟨Z,Z,Z,Z,Z,Z,Z,Z,eqI (by omega),trivial⟩
 refine jex (jtx (jtx (jbh (jx (jq (jq (jr (js (jf F95_1 Z) (js (jl k0 O93 Z Z) (js (jln U93 (rMBlock.cI d0) Z) (jm Z ?_)))))))))))
 refine jn (jx (jb ?_))
 refine jlp (fun (j : Nat) => ⟨j ≤ (ix m.Blocks k).Ins.length ∧ insW 0 (ix m.Blocks k).Ins = insW j ((ix m.Blocks k).Ins.drop j),[da rMBlock (vMBlock (ix m.Blocks k) (c65a,c65b,c65c)) (ix m.Blocks k),da rMFunc (vMFunc m a0) m],[bx g9 95 [c65a,c65b,.int .i64 (((ix m.Blocks k).End).Op),.int .i64 (((ix m.Blocks k).End).A),.int .i64 (((ix m.Blocks k).End).B),c65c,.int .i32 (((ix m.Blocks k).End).Imm)],bx g1 28 [.int .i64 m.Params,a0]],[(1,.pointer (some ⟨g1,0,none⟩)),(8,.int .i64 (↑k)),(9,.pointer (some ⟨g9,0,none⟩)),(59,a0),(60,.int .i64 (↑(List.length m.Blocks))),(61,.int .i64 (↑k)),(88,c65b),(89,.int .i64 (↑(List.length ((ix m.Blocks k).Ins)))),(90,.int .i64 (↑j))],(ix m.Blocks k).Ins.length - j⟩) 0 ⟨by omega,rfl⟩ (dc d0 (dc d1 dn)) (kd kn) ⟨Z,Z,Z,Z,Z,Z,Z,Z,eqI (by omega),trivial⟩ ?_
 rintro j; dsimp only; rintro ⟨hj,hI⟩
 refine jq (jr (js (jlss Z Z) (jn (jx (jq ?_)))))
 refine jif Z (fun hc8 => ?_) (fun hc8 => ?_)
 refine jsk (jx (jq (jb (jq (jr (jm Z (js (jix U93 Z24 (rMBlock.cI d0) Z Z Z (by omega)) (jA sMach (jlA (dix (rMBlock.cI d0) j (by omega)) A24 Z24 Z) fun c94 => jalc J24 Z fun g14 => ja Z (jdq (rMach.c_Args d0) fun q14 w14 => ?_)))))))))
 refine jsta k0 Z24 Z Z Z ⟨Z,Z,Z,Z,Z,Z,Z,w14.one,trivial⟩ (saf Z) (jn (jx (jq (jr (js (jla k0 A24 Z24 Z Z Z) (jcv E78 Z Z pIns_ct (dc d0 dn) kn (ja Z (jn (jx (jq (jr ?_)))))))))))
 refine jm Z (js (jneq Z Z) (jn (jx ?_)))
 refine jif Z (fun hc9 => ?_) (fun hc9 => ?_)
 refine jq (jr (jm Z (jm Z (jm Z (ja Z (ja Z (ja Z (jn (jx (jrt (jbr ?_)))))))))))
 refine jtr (jtr (jbr (jtr (jbr (jtr (jtr (jbr (jtr ?_))))))))
 exact jr3 Z Z Z Z () (tIII (by first | exact func_arg hc2 | exact func_block hc2 hc3 | exact func_many hc2 hc3 hc4 | exact func_some hc2 hc3 hc4 (things_phi (by omega) hB (by omega) hP hc7) | exact func_some hc2 hc3 hc4 (things_ins (by omega) hB (phiW_end (by omega) hP) (by omega) hI hc9) | exact func_some hc2 hc3 hc4 (things_end (by omega) hB (phiW_end (by omega) hP) (insW_end (by omega) hI) hc10) | exact func_graph hc2 hc3 hc4 (things_done (by omega) hB))) dn (fun _ _ => kn)
 refine jsk (jbn (jx (jr (js (jadd Z Z (by omega)) (jm Z (jn ?_))))))
 exact jag (j + 1) ⟨by omega,insW_next (by omega) hI hc9⟩ (dc d1 (dc d2 dn)) (kc k1 (kc k1 kn)) ⟨Z,Z,Z,Z,Z,Z,Z,Z,eqI (by omega),trivial⟩
 refine jex (jtx (jtx (jbh (jx (jq (jr (js (jf F95_2 Z) (js (jla k0 A88 Z88 Z Z Z) (js (jf F28_1 Z) (js (jl k1 O26 Z Z) (js (jln U26 (rMFunc.cB d1) Z) ?_)))))))))))
 refine jcv E79 Z Z (pEnd_ct (↑(List.length m.Blocks))) (dc (rMBlock.P_End d0) dn) kn (ja Z (jn (jx (jq (jr (jm Z (js (jneq Z Z) (jn (jx ?_)))))))))
 refine jif Z (fun hc10 => ?_) (fun hc10 => ?_)
 refine jq (jstl Mixed (by kernel_rfl) (jt (jmv Z) (jt (jmv Z) (jt (jf F95_1 Z) (jt (jl k0 O93 Z Z) (jt (jln U93 (rMBlock.cI d0) Z) (jt (jas Z) (jt (jas Z) (jt (jas Z) (jdn (jx ?_)))))))))))
 refine jrt (jbr (jtr (jtr (jbr (jtr ?_)))))
 exact jr3 Z Z Z Z () (tIII (by first | exact func_arg hc2 | exact func_block hc2 hc3 | exact func_many hc2 hc3 hc4 | exact func_some hc2 hc3 hc4 (things_phi (by omega) hB (by omega) hP hc7) | exact func_some hc2 hc3 hc4 (things_ins (by omega) hB (phiW_end (by omega) hP) (by omega) hI hc9) | exact func_some hc2 hc3 hc4 (things_end (by omega) hB (phiW_end (by omega) hP) (insW_end (by omega) hI) hc10) | exact func_graph hc2 hc3 hc4 (things_done (by omega) hB))) dn (fun _ _ => kn)
 refine jsk (jbn (jx (jr (js (jadd Z Z (by omega)) (jm Z (jn ?_))))))
 exact jag (k + 1) ⟨by omega,things_next (by omega) hB (phiW_end (by omega) hP) (insW_end (by omega) hI) hc10⟩ (dc d1 dn) (kc k1 kn) ⟨Z,Z,Z,eqI (by omega),trivial⟩
 refine jex (jtx (jtx (jbh (jx (jq (jr (js (jla k0 A28 Z28 Z Z Z) (jcv E80 Z Z (pGraph_ct (by first | omega | exact things_to (things_done (by omega) hB)) (by first | omega | exact things_to (things_done (by omega) hB))) (dc d0 dn) kn (js (jex' Z Z) (js (jex' Z Z) (js (jex' Z Z) ?_)))))))))))
 refine ja Z (ja Z (ja Z (jn (jx (jrt ?_)))))
 exact jr3 Z Z Z Z () (tIII (by first | exact func_arg hc2 | exact func_block hc2 hc3 | exact func_many hc2 hc3 hc4 | exact func_some hc2 hc3 hc4 (things_phi (by omega) hB (by omega) hP hc7) | exact func_some hc2 hc3 hc4 (things_ins (by omega) hB (phiW_end (by omega) hP) (by omega) hI hc9) | exact func_some hc2 hc3 hc4 (things_end (by omega) hB (phiW_end (by omega) hP) (insW_end (by omega) hI) hc10) | exact func_graph hc2 hc3 hc4 (things_done (by omega) hB))) dn (fun _ _ => kn)
theorem pRight_ct {a0 : Value} {m : D.MFunc} : Tv Tryz.prog 35 #[vMFunc m a0] [da rMFunc (vMFunc m a0) m] [] (.bool (rightM m)) := by
 refine jenter (args := [vMFunc m a0]) Tryz.func35 rfl rfl rfl fun w0 X => ?_
 refine jq (jr (jbox Z Z fun g1 => ja Z (jn (jx (jq (jr (js (jla k0 A28 Z28 Z Z Z) (jcv E38 Z Z pFunc_ct (dc d0 dn) kn (jm Z (js (jex' Z Z) ?_))))))))))
 refine js (jex' Z Z) (js (jex' Z Z) (ja Z (ja Z (ja Z (jn (jx (jq (jr (jm Z (js (jeql Z Z) (ja Z ?_)))))))))))
 refine jn (jx (jrt ?_))
 exact jrB Z Z (by rfl)
theorem E82 : Ent Tryz.prog 82 := ⟨_,Tryz.func82,by kernel_rfl,by kernel_rfl⟩
def isFrom (from' : Int) (x : D.In) : Bool := decide (x.From = from')
def phiVal (from' : Int) (regs : List Int) (p : D.Phi) : Int := ix regs (Int.toNat (ix p.In (Int.toNat (idxM p.In (isFrom from')))).Val)
def setP : List Int → List D.Phi → List Int → List Int
 | rs,p :: l,v :: vs => setP (rs.set (Int.toNat p.Dst) v) l vs
 | rs,_,_ => rs
def phisM (l : List D.Phi) (from' : Int) (regs : List Int) : List Int := setP regs l (l.map (phiVal from' regs))
theorem idx_lt {α : Type} (l : List α) (q : α → Bool) : idxM l q < l.length := by
 unfold idxM
 cases h : l.findIdx? q with
 | none => simp only; omega
 | some i => obtain ⟨hi,_⟩ := List.findIdx?_eq_some_iff_getElem.1 h; simp only; omega
theorem setP_len : ∀ (rs : List Int) (l : List D.Phi) (vs : List Int),(setP rs l vs).length = rs.length
 | rs,p :: l,v :: vs => by rw [setP,setP_len]; simp
 | rs,[],_ => by cases ‹List Int› <;> rfl
 | rs,_ :: _,[] => rfl
theorem setP_end (rs : List Int) (vs : List Int) : setP rs [] vs = rs := by cases vs <;> rfl
theorem setP_next {rs rs2 : List Int} {l : List D.Phi} {vs : List Int} {k : Nat} (h1 : k < l.length) (h2 : k < vs.length) (h : setP rs l vs = setP rs2 (l.drop k) (vs.drop k)) : setP rs l vs = setP (rs2.set (Int.toNat (ix l k).Dst) (ix vs k)) (l.drop (k + 1)) (vs.drop (k + 1)) := by
 rw [h,drop_ix (l := l) h1,drop_ix (l := vs) h2,setP]
def phiOk (from' : Int) (n : Nat) (p : D.Phi) : Prop := 0 ≤ p.Dst ∧ p.Dst < n ∧ 0 ≤ idxM p.In (isFrom from') ∧ ∀ x ∈ p.In,0 ≤ x.Val ∧ x.Val < n
theorem phiOk.v {from' : Int} {n : Nat} {p : D.Phi} (h : phiOk from' n p) : 0 ≤ (ix p.In (Int.toNat (idxM p.In (isFrom from')))).Val ∧ (ix p.In (Int.toNat (idxM p.In (isFrom from')))).Val < n := by
 have := idx_lt p.In (isFrom from')
 exact h.2.2.2 _ (ix_mem (by have := h.2.2.1; omega))
theorem pPhis1_ct {x : D.In} {c : Int} {g1 : Nat} : Tr Tryz.prog 82 #[vIn x (),.pointer (some ⟨g1,0,none⟩)] [da rIn (vIn x ()) x] [bx g1 3 [.int .i64 c]] (fun _ : Unit => .bool (isFrom c x)) (fun _ => []) (fun _ _ => [bx g1 3 [.int .i64 c]]) := by
 refine jenter (args := [vIn x (),.pointer (some ⟨g1,0,none⟩)]) Tryz.func82 rfl rfl rfl fun w0 X => ?_
 refine jq (jr (jbox Z Z fun g2 => ja Z (jn (jx (jq (jr (js (jf F111_0 Z) (js (jl k0 O3 Z Z) (js (jl k1 O3 Z Z) (js (jeql Z Z) ?_))))))))))
 refine ja Z (jn (jx (jrt ?_)))
 exact jr1 Z Z () (congrArg Value.bool (Eq.symm (by rfl))) dn (fun _ _ => (kc k1 kn))
set_option maxRecDepth 4000 in
theorem pPhis_ct {a0 : Value} {l : List D.Phi} (from' : Int) {a2 : Value} {regs : List Int} {B2 : Nat} (hrl0 : regs.length < 1073741824) (hp : ∀ p ∈ l,phiOk from' regs.length p) : Tr Tryz.prog 40 #[a0,.int .i64 from',a2] [dv (rL rPhi) a0 l] [gl B2 (rI .i32) 21 a2 regs] (fun _ : Unit => .tuple #[]) (fun _ => []) (fun _ _ => [gl B2 (rI .i32) 21 a2 (phisM l (from') regs)]) := by
 refine jenter (args := [a0,.int .i64 from',a2]) Tryz.func40 rfl rfl rfl fun w0 X => ?_
 refine cgo k0 fun w1 => jq (jr (jbox Z Z fun g4 => jn (jx (jq (jr (ja Z (jn (jx (jq ?_)))))))))
 refine jq (jr (jm Z (jdq d0 fun q2 w2 => js (jln U57 d0 Z) (jm Z (jn (jx (jb (cnl (r := (rI .i32)) (E := 21) ?_))))))))
 refine jlp (u3 fun (k : Nat) (vo : Value) (vs : List Int) => ⟨k ≤ l.length ∧ vs = (l.take k).map (phiVal from' regs),[dv (rL rPhi) a0 l],[gl X.n (rI .i32) 21 vo vs,bx g4 3 [.int .i64 (from')],gl B2 (rI .i32) 21 a2 regs],[(0,a0),(2,a2),(4,.pointer (some ⟨g4,0,none⟩)),(6,vo),(12,a0),(13,.int .i64 (↑(List.length l))),(14,.int .i64 (↑k))],l.length - k⟩) (0,.slice none 0 0,[]) ⟨by dsimp only; omega,rfl⟩ (dc d0 dn) (kd (kc k0 kn)) ⟨Z,Z,Z,Z,Z,Z,eqI (by omega),trivial⟩ ?_
 rintro ⟨k,vo,vs⟩; dsimp only [u3]; rintro ⟨hk,hvs⟩
 refine cgo k0 fun w3 => ?_
 have hvl : vs.length = k := by rw [hvs]; simp; omega
 refine jq (jr (js (jlss Z Z) (jn (jx (jq ?_)))))
 refine jif Z (fun hc1 => ?_) (fun hc1 => ?_)
 have hpk := hp _ (ix_mem (l := l) (i := k) (by omega))
 have hpv := hpk.v
 have hpi := idx_lt (ix l k).In (isFrom from')
 obtain ⟨hd0,hd1,hi0,_⟩ := hpk
 refine jsk (jx (jq (jb (jq (jr (js (jix U57 Z65 d0 Z Z Z (by omega)) (jA sPhi (jlA (dix d0 k (by omega)) A65 Z65 Z) fun c17 => jalc J65 Z fun g8 => jdq (rPhi.c_In d0) fun q5 w5 => jsta k0 Z65 Z Z Z ⟨Z,w5.one,trivial⟩ (saf Z) (jn ?_))))))))
 refine jx (jq (jr (js (jf F65_1 Z) (js (jl k0 O63 Z Z) (js (jmf1 Z) (jcp E81 Z Z (idxFIn_ct (isFrom from') E82 (fun x _ c => Tr.it pPhis1_ct ir)) (dc (rPhi.c_In d0) (dc (db dn) dn)) (kc k2 kn) p1 (ja Z (jn (jx (jr (jm Z ?_)))))))))))
 refine jm Z (js (jf F65_1 Z) (js (jl k1 O63 Z Z) (jm Z (js (jix (i := (Int.toNat (idxM ((ix l k).In) (isFrom from')))) U63 Z111 (rPhi.c_In d0) Z Z (by omega) (by omega)) (js (jf F111_1 Z) (js (jlI (rIn.A_Val (dix (rPhi.c_In d0) (Int.toNat (idxM ((ix l k).In) (isFrom from'))) (by omega))) O3 Z) (js (jig (i := (Int.toNat ((ix ((ix l k).In) (Int.toNat (idxM ((ix l k).In) (isFrom from')))).Val))) U29 Z21 k3 Z Z (by omega) (by omega)) (js (jgI k3 (by omega) O21 Z) (japv U29 I21 (by decide) Z Z k2 Z (wI (wgl k3 (by omega))) (by omega) (fun _ => Z) fun v33 _ w6 => ja Z (jn ?_))))))))))
 refine jbn (jx (jr (js (jadd Z Z (by omega)) (jm Z (jn ?_)))))
 exact jag (k + 1,v33,vs ++ [ix regs (Int.toNat ((ix ((ix l k).In) (Int.toNat (idxM ((ix l k).In) (isFrom from')))).Val))]) ⟨by dsimp only; omega,by dsimp only; rw [hvs,take_ix (by omega),List.map_append]; rfl⟩ (dc d1 dn) (kd (kc k1 kn)) ⟨Z,Z,Z,Z,Z,Z,eqI (by omega),trivial⟩
 have hvl2 : vs.length = l.length := by omega
 refine jex (jtx (jtx (jbh (jx (jq (jr (jm Z (js (jln U57 d0 Z) (jm Z (jn (jx ?_)))))))))))
 refine jb ?_
 refine jlp (u2 fun (k : Nat) (rs : List Int) => ⟨k ≤ l.length ∧ setP regs l vs = setP rs (l.drop k) (vs.drop k) ∧ rs.length = regs.length,[dv (rL rPhi) a0 l],[gl X.n (rI .i32) 21 vo vs,gl B2 (rI .i32) 21 a2 rs],[(2,a2),(6,vo),(35,a0),(36,.int .i64 (↑(List.length l))),(37,.int .i64 (↑k))],l.length - k⟩) (0,regs) ⟨by dsimp only; omega,rfl,rfl⟩ (dc d0 dn) (kc k0 (kc k1 kn)) ⟨Z,Z,Z,Z,eqI (by omega),trivial⟩ ?_
 rintro ⟨k,rs⟩; dsimp only [u2]; rintro ⟨hk,hS,hrl⟩
 refine jq (jr (js (jlss Z Z) (jn (jx (jq ?_)))))
 refine jif Z (fun hc2 => ?_) (fun hc2 => ?_)
 have hpk := hp _ (ix_mem (l := l) (i := k) (by omega))
 obtain ⟨hd0,hd1,hi0,_⟩ := hpk
 refine jsk (jx (jq (jb (jq (jr (jm Z (js (jix U57 Z65 d0 Z Z Z (by omega)) (jA sPhi (jlA (dix d0 k (by omega)) A65 Z65 Z) fun c41 => jalc J65 Z fun g11 => ja Z (jdq (rPhi.c_In d0) fun q8 w8 => ?_)))))))))
 refine jsta k0 Z65 Z Z Z ⟨Z,w8.one,trivial⟩ (saf Z) (jn (jx (jtl 8 Mixed (by kernel_rfl) (jt (jmv Z) (jt (jf F65_0 Z) (jt (jl k0 O3 Z Z) (jt (jmv Z) (jt (jmv Z) (jt (jig U29 Z21 k1 Z Z Z (by omega)) (jt (jgI k1 (by omega) O21 Z) (jt (jig (i := (Int.toNat ((ix l k).Dst))) U29 Z21 k2 Z Z (by omega) (by omega)) ?_)))))))))))
 refine jtt (jsg k2 Z Z21 Z Z Z (by omega) (wI (wgl k1 (by omega))) (jn (jbn (jx (jr (js (jadd Z Z (by omega)) (jm Z (jn ?_))))))))
 exact jag (k + 1,List.set rs (Int.toNat ((ix l k).Dst)) (ix vs k)) ⟨by dsimp only; omega,setP_next (by omega) (by omega) hS,by dsimp only; rw [List.length_set]; exact hrl⟩ (dc d1 dn) (kc k2 (kc k0 kn)) ⟨Z,Z,Z,Z,eqI (by omega),trivial⟩
 refine jex (jtx (jtx (jbh ?_)))
 exact jd0 Z () Z dn (fun _ _ => (kcg (by have e1 : k = l.length := (by omega); unfold phisM; rw [List.take_of_length_le (by omega)] at hvs; rw [← hvs,hS,List.drop_of_length_le (by omega),setP_end]) k1 kn))
end Go.Proofs.YtmfkkodnghambaaGreat
