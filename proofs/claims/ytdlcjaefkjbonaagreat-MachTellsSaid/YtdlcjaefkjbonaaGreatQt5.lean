/- Lemmas that the claim is made of. Conditions: each lemma names its own. -/
import Derived.Test.YtdlcjaefkjbonaaGreatQt4
namespace Go.Proofs.YtdlcjaefkjbonaaGreat
set_option linter.unusedVariables false
set_option linter.unusedSimpArgs false
set_option linter.unusedSectionVars false
open Go.JE
abbrev U134 := @Tryz.underlying134
theorem E70 : Ent Tryz.prog 70 := ⟨_, Tryz.func70, by kernel_rfl, by kernel_rfl⟩
theorem E71 : Ent Tryz.prog 71 := ⟨_, Tryz.func71, by kernel_rfl, by kernel_rfl⟩
theorem E73 : Ent Tryz.prog 73 := ⟨_, Tryz.func73, by kernel_rfl, by kernel_rfl⟩
theorem E74 : Ent Tryz.prog 74 := ⟨_, Tryz.func74, by kernel_rfl, by kernel_rfl⟩
theorem E75 : Ent Tryz.prog 75 := ⟨_, Tryz.func75, by kernel_rfl, by kernel_rfl⟩
theorem F46_6 : Fld Tryz.prog 46 6 6 := ⟨_, _, Tryz.underlying46, rfl, rfl, 1, (by unfold Sz; kernel_rfl), by decide⟩
theorem pSet_ct (r : Int) (x : Int) {a2 : Value} {regs : List Int} {g2 : Nat} {B2 : Nat} (hl : regs.length < 1073741824) (ww1 : IntKind.i32.wrap x = x) : Tr Tryz.prog 70 #[.int .i64 r, .int .i32 x, .pointer (some ⟨g2, 0, none⟩)] [] [gl B2 (rI .i32) 21 a2 regs, bx g2 34 [a2]] (fun _ : Unit => .tuple #[]) (fun _ => []) (fun _ _ => [gl B2 (rI .i32) 21 a2 (setM regs r x), bx g2 34 [a2]]) := by
  refine jenter (args := [.int .i64 r, .int .i32 x, .pointer (some ⟨g2, 0, none⟩)]) Tryz.func70 rfl rfl rfl fun w0 X => ?_
  refine cgo k0 fun w1 => jq (jr (jm ζ (js (jgeq ζ ζ) (jm ζ (jg ζ ζ (.t _) (fun hg => jmv ζ) (jg ζ ζ (.t _) (fun hg => jl k1 O34 ζ ζ) (jg ζ ζ (.t _) (fun hg => jlg U34 k0 (evg ζ hg)) (jg ζ ζ (.t _) (fun hg => jlss (evg ζ hg) (evg ζ hg)) (js (jand ζ ζ) (jn ?_))))))))))
  refine jx ?_
  refine jif ζ (fun hc1 => ?_) (fun hc1 => ?_)
  refine jr (js (jl k1 O34 ζ ζ) (jm ζ (jm ζ (js (jig (i := (Int.toNat r)) U34 Z21 k0 ζ ζ (by omega) (by omega)) (jsg k0 ζ Z21 ζ ζ ζ (by omega) (wI (wp ww1)) (jn ?_))))))
  exact jd0 ζ () ζ dn (fun _ _ => (kcg (by first | (simp [setM, *]; done) | (unfold setM; rw [if_neg (by omega)]; done) | (unfold setM; rw [if_pos (by omega)]; done)) k0 (kc k0 kn)))
  refine jsk ?_
  exact jd0 ζ () ζ dn (fun _ _ => (kcg (by first | (simp [setM, *]; done) | (unfold setM; rw [if_neg (by omega)]; done) | (unfold setM; rw [if_pos (by omega)]; done)) k0 (kc k0 kn)))
def DoJ (i : D.Mach) (regs mem : List Int) (v t : Int) (ok : Bool) (me : List Int) : Prop := (ok = true → stepM i regs mem = ((0, true), setAllM regs (makesM i) v, me)) ∧ (ok = false → stepM i regs mem = ((if t = 0 then -2 else t, false), regs, me))
theorem doJ1 {i : D.Mach} {regs mem me : List Int} {v t : Int} {ok : Bool} (e : makesM i = [i.D]) (h1 : ok = true → stepM i regs mem = ((0, true), setM regs i.D v, me)) (h2 : ok = false → stepM i regs mem = ((if t = 0 then -2 else t, false), regs, me)) : DoJ i regs mem v t ok me := ⟨fun h => by rw [h1 h, e]; rfl, h2⟩
theorem doJ0 {i : D.Mach} {regs mem me : List Int} {v t : Int} {ok : Bool} (e : makesM i = []) (h1 : ok = true → stepM i regs mem = ((0, true), regs, me)) (h2 : ok = false → stepM i regs mem = ((if t = 0 then -2 else t, false), regs, me)) : DoJ i regs mem v t ok me := ⟨fun h => by rw [h1 h, e]; rfl, h2⟩
theorem doJ_end {i : D.Mach} {regs mem me rs : List Int} {v t : Int} {k : Nat} (h : DoJ i regs mem v t true me) (hR : setAllM regs (makesM i) v = setAllM rs ((makesM i).drop k) v) (hk : (makesM i).length ≤ k) : stepM i regs mem = ((0, true), rs, me) := by
  rw [h.1 rfl, hR, List.drop_of_length_le hk]; rfl
set_option maxHeartbeats 4000000 in
theorem pDoM_ct {a0 : Value} {i : D.Mach} {a1 : Value} {regs : List Int} {B1 : Nat} {a2 : Value} {mem : List Int} {B2 : Nat} (hl : regs.length < 1073741824) (hl2 : mem.length < 1073741824) : Tr Tryz.prog 33 #[vMach i a0, a1, a2] [da rMach (vMach i a0) i] [gl B1 (rI .i32) 21 a1 regs, gl B2 (rI .i32) 21 a2 mem] (fun _ : Unit => .tuple #[.int .i32 ((stepM i regs mem).1.1), .bool ((stepM i regs mem).1.2)]) (fun _ => []) (fun _ _ => [gl B1 (rI .i32) 21 a1 ((stepM i regs mem).2.1), gl B2 (rI .i32) 21 a2 ((stepM i regs mem).2.2)]) := by
  refine jenter (args := [vMach i a0, a1, a2]) Tryz.func33 rfl rfl rfl fun w0 X => ?_
  refine cgo k0 fun w1 => cgo k1 fun w2 => jq (jr (jbox ζ ζ fun g3 => jbox ζ w1.cells fun g4 => ja ζ (ja ζ (jn (jx (jq (jany false (.a 0 (.a 1 (.a 2 (.a 4 (.a 5 (.a 6 (.a 8 (.a 9 (.a 10 (.o 3 (.o 7 (.o 11 (.a 12 (.a 13 (.a 14 .e))))))))))))))) Mixed (by kernel_rfl) (kc k0 (kc k0 kn)) fun F3 => ?_)))))))
  refine jy ζ (jl k0 O34 ζ ζ) (jy ζ (jf F46_3 ζ) (jy ζ (jl k1 O3 ζ ζ) (jy ζ (jl k0 O34 ζ ζ) (jy ζ (jf F46_4 ζ) (jy ζ (jl k1 O3 ζ ζ) (jy ζ (jl k0 O34 ζ ζ) (jy ζ (jf F46_5 ζ) (jy ζ (jl k1 O3 ζ ζ) (jyo ζ (jc E34 ζ ζ (Tv.temp 1073741824 (pGet_ct i.A) (by omega)) dn (kc k2 kn) (fun _ => p0) (fun _ => p1) fun _ => jwr (wgt k0 i.A) fun w5 => ?_))))))))))
  refine jyn d0 (kc k1 (kc k1 kn)) (jyo ζ (jc E34 ζ ζ (Tv.temp 1073741824 (pGet_ct i.B) (by omega)) dn (kc k0 kn) (fun _ => p0) (fun _ => p1) fun _ => jyn d0 (kc k1 (kc k1 kn)) (jyo ζ (jc E34 ζ ζ (Tv.temp 1073741824 (pGet_ct i.C) (by omega)) dn (kc k0 kn) (fun _ => p0) (fun _ => p1) fun _ => jyn d0 (kc k1 (kc k1 kn)) (jy ζ (jas ζ) (jy ζ (jas ζ) (jy ζ (jas ζ) (jyd (jx ?_)))))))))
  refine jq (jr (js (jmf1 ζ) (ja ζ (jn (jx (jq (jr (jm ζ (ja ζ (ja ζ (ja ζ ?_)))))))))))
  refine jn (jx (jq ?_))
  refine jjo (u4 fun (v : Int) (t : Int) (ok : Bool) (me : List Int) => ⟨IntKind.i32.wrap v = v ∧ me.length = mem.length ∧ DoJ i regs mem v t ok me, [da rMach (vMach i a0) i], [gl B1 (rI .i32) 21 a1 regs, bx g4 34 [a1], bx g3 46 [.int .i64 i.Op, .int .i64 i.D, .int .i64 i.E, .int .i64 i.A, .int .i64 i.B, .int .i64 i.C, .int .i32 i.Imm, a0], gl B2 (rI .i32) 21 a2 me], [(3, .pointer (some ⟨g3, 0, none⟩)), (11, .func (.func 70) #[] #[.pointer (some ⟨g4, 0, none⟩)]), (12, .int .i32 v), (13, .int .i32 t), (14, .bool ok)]⟩) ?_ ?_
  refine jb (jq (jr (js (jf F46_0 ζ) (js (jl k2 O3 ζ ζ) (js (jeql ζ ζ) (ja ζ (jn (jx ?_))))))))
  refine jif ζ (fun hc1 => ?_) (fun hc1 => ?_)
  refine jsk (jbn ?_)
  exact jje (getM regs i.A, 0, true, mem) ⟨by dsimp only; exact w5, by first | rfl | exact storeM_len _ _ _, by dsimp only; exact doJ1 (by unfold makesM; repeat rw [if_neg (by omega)]) (fun h9 => by (unfold stepM; (repeat rw [if_neg (by omega)]) <;> (try rw [if_pos (by omega)]) <;> first | rfl | (simp [*]; done) | (simp [immOp, *]; done) | simp_all)) (fun h9 => by (unfold stepM; (repeat rw [if_neg (by omega)]) <;> (try rw [if_pos (by omega)]) <;> first | rfl | (simp [*]; done) | (simp [immOp, *]; done) | simp_all))⟩ (dc d3 dn) (kc k0 (kc k0 (kc k0 (kc k0 kn)))) ⟨ζ, ζ, ζ, ζ, ζ, trivial⟩
  refine jq (jr (js (jf F46_0 ζ) (js (jl k2 O3 ζ ζ) (js (jeql ζ ζ) (ja ζ (jn (jx ?_)))))))
  refine jif ζ (fun hc2 => ?_) (fun hc2 => ?_)
  refine jq (jr (jm ζ (js (jf F46_3 ζ) (js (jl k2 O3 ζ ζ) (jm ζ (jwr (wgt k0 i.B) fun w9 => jc E70 ζ ζ (pSet_ct i.A (getM regs i.B) (by first | omega | (simp only [setM_len, storeM_len]; omega)) w9) dn (kc k0 (kc k0 kn)) (fun _ => p0) (fun _ => p2) fun _ => jn (jx (jq (jr ?_)))))))))
  refine jm ζ (js (jf F46_4 ζ) (js (jl k2 O3 ζ ζ) (jm ζ (jc E70 ζ ζ (pSet_ct i.B (getM regs i.A) (by first | omega | (simp only [setM_len, storeM_len]; omega)) w5) dn (kc k0 (kc k0 kn)) (fun _ => p0) (fun _ => p2) fun _ => jn (jx (jq (jr (ja ζ (ja ζ (jn ?_))))))))))
  refine jx (jrt (jbr (jjr (jtr ?_))))
  have hm : stepM i regs mem = ((0, true), setM (setM regs i.A (getM regs i.B)) i.B (getM regs i.A), mem) := (by unfold stepM; (repeat rw [if_neg (by omega)]) <;> (try rw [if_pos (by omega)]) <;> first | rfl | (simp [*]; done) | (simp [immOp, *]; done) | (exfalso; (try simp at hc1); (try simp at hc2); simp_all; done))
  exact jr2 ζ ζ ζ () (by rw [hm]) dn (fun _ _ => (kcg (by rw [hm]) k0 (kcg (by rw [hm]) k2 kn)))
  refine jq (jr (js (jf F46_0 ζ) (js (jl k2 O3 ζ ζ) (js (jeql ζ ζ) (jm ζ (jg ζ ζ (.f _) (fun hg => jf F46_0 ζ) (jg ζ ζ (.f _) (fun hg => jl k2 O3 (evg ζ hg) ζ) (jg ζ ζ (.f _) (fun hg => jeql (evg ζ hg) ζ) (js (jor ζ ζ) (ja ζ (jn ?_)))))))))))
  refine jx ?_
  refine jif ζ (fun hc3 => ?_) (fun hc3 => ?_)
  refine jr (js (jf F46_6 ζ) (js (jl k2 O21 ζ ζ) (ja ζ (jn (jbn (qwr (rMach.W_Imm d3) fun w10 => ?_))))))
  exact jje (i.Imm, 0, true, mem) ⟨by dsimp only; exact w10, by first | rfl | exact storeM_len _ _ _, by dsimp only; exact doJ1 (by unfold makesM; repeat rw [if_neg (by omega)]) (fun h9 => by (unfold stepM; (repeat rw [if_neg (by omega)]) <;> (try rw [if_pos (by omega)]) <;> first | rfl | (simp [*]; done) | (simp [immOp, *]; done) | simp_all)) (fun h9 => by (unfold stepM; (repeat rw [if_neg (by omega)]) <;> (try rw [if_pos (by omega)]) <;> first | rfl | (simp [*]; done) | (simp [immOp, *]; done) | simp_all))⟩ (dc d3 dn) (kc k0 (kc k0 (kc k0 (kc k0 kn)))) ⟨ζ, ζ, ζ, ζ, ζ, trivial⟩
  refine jq (jr (js (jf F46_0 ζ) (js (jl k2 O3 ζ ζ) (js (jgeq ζ ζ) (jm ζ (jg ζ ζ (.t _) (fun hg => jf F46_0 ζ) (jg ζ ζ (.t _) (fun hg => jl k2 O3 (evg ζ hg) ζ) (jg ζ ζ (.t _) (fun hg => jleq (evg ζ hg) ζ) (js (jand ζ ζ) (ja ζ (jn ?_)))))))))))
  refine jx ?_
  refine jif ζ (fun hc4 => ?_) (fun hc4 => ?_)
  refine jq (jr (js (jf F46_0 ζ) (js (jl k2 O3 ζ ζ) (js (jsub ζ ζ (by omega)) (js (jadd ζ ζ (by omega)) (jm ζ (jm ζ (jcv E71 ζ ζ (wDo_ct ((i.Op - 5) + 2) (getM regs i.A) (getM regs i.B)) dn kn (jm ζ (js (jex' ζ ζ) (js (jex' ζ ζ) ?_)))))))))))
  refine ja ζ (ja ζ (jn (jx (jr (ja ζ (jn (jbn (qwr (m := ((doM ((i.Op - 5) + 2) (getM regs i.A) (getM regs i.B)).1)) (wdo (wp w5)) fun w11 => ?_))))))))
  exact jje ((doM ((i.Op - 5) + 2) (getM regs i.A) (getM regs i.B)).1, (-1), (doM ((i.Op - 5) + 2) (getM regs i.A) (getM regs i.B)).2, mem) ⟨by dsimp only; exact w11, by first | rfl | exact storeM_len _ _ _, by dsimp only; exact doJ1 (by unfold makesM; repeat rw [if_neg (by omega)]) (fun h9 => by (unfold stepM; (repeat rw [if_neg (by omega)]) <;> (try rw [if_pos (by omega)]) <;> first | rfl | (simp [*]; done) | (simp [immOp, *]; done) | simp_all)) (fun h9 => by (unfold stepM; (repeat rw [if_neg (by omega)]) <;> (try rw [if_pos (by omega)]) <;> first | rfl | (simp [*]; done) | (simp [immOp, *]; done) | simp_all))⟩ (dc d3 dn) (kc k0 (kc k0 (kc k0 (kc k0 kn)))) ⟨ζ, ζ, ζ, ζ, ζ, trivial⟩
  refine jq (jr (js (jf F46_0 ζ) (js (jl k2 O3 ζ ζ) (js (jgeq ζ ζ) (jm ζ (jg ζ ζ (.t _) (fun hg => jf F46_0 ζ) (jg ζ ζ (.t _) (fun hg => jl k2 O3 (evg ζ hg) ζ) (jg ζ ζ (.t _) (fun hg => jleq (evg ζ hg) ζ) (js (jand ζ ζ) (ja ζ (jn ?_)))))))))))
  refine jx ?_
  refine jif ζ (fun hc5 => ?_) (fun hc5 => ?_)
  refine jany false (.a 0 (.a 1 (.a 2 (.a 3 (.a 4 (.a 5 (.a 6 (.a 7 (.o 8 (.a 9 (.a 10 (.a 11 (.a 12 .e))))))))))))) Mixed (by kernel_rfl) (kc k2 kn) fun F12 => jy ζ (jbu (v := .agg #[.int .i64 2, .int .i64 5, .int .i64 8, .int .i64 9, .int .i64 10]) ζ (fun _ => by kernel_rfl)) (jy ζ (jf F46_0 ζ) (jy ζ (jl k0 O3 ζ ζ) (jy ζ (jsub ζ ζ (by omega)) (jy ζ (jci (l := [2, 5, 8, 9, 10]) U134 Z3 O3 ζ ζ ⟨by omega, by omega, ζ⟩) (jy ζ (jmv ζ) (jy ζ (jf F46_6 ζ) (jy ζ (jl k0 O21 ζ ζ) (jyo ζ (jcv E71 ζ ζ (wDo_ct (ix [2, 5, 8, 9, 10] (Int.toNat (i.Op - 18))) (getM regs i.A) i.Imm) dn kn (jyn d0 (kc k2 kn) ?_))))))))))
  refine jy ζ (jmv ζ) (jy ζ (jex' ζ ζ) (jy ζ (jex' ζ ζ) (jy ζ (jas ζ) (jyd (jbn (qwr (m := ((doM (ix [2, 5, 8, 9, 10] (Int.toNat (i.Op - 18))) (getM regs i.A) i.Imm).1)) (wdo (wp w5)) fun w14 => ?_))))))
  exact jje ((doM (ix [2, 5, 8, 9, 10] (Int.toNat (i.Op - 18))) (getM regs i.A) i.Imm).1, 0, true, mem) ⟨by dsimp only; exact w14, by first | rfl | exact storeM_len _ _ _, by dsimp only; exact doJ1 (by unfold makesM; repeat rw [if_neg (by omega)]) (fun h9 => by (unfold stepM; (repeat rw [if_neg (by omega)]) <;> (try rw [if_pos (by omega)]) <;> first | rfl | (simp [*]; done) | (simp [immOp, *]; done) | simp_all)) (fun h9 => by (unfold stepM; (repeat rw [if_neg (by omega)]) <;> (try rw [if_pos (by omega)]) <;> first | rfl | (simp [*]; done) | (simp [immOp, *]; done) | simp_all))⟩ (dc d4 dn) (kc k0 (kc k0 (kc k0 (kc k0 kn)))) ⟨ζ, ζ, ζ, ζ, ζ, trivial⟩
  refine jq (jr (js (jf F46_0 ζ) (js (jl k2 O3 ζ ζ) (js (jeql ζ ζ) (ja ζ (jn (jx ?_)))))))
  refine jif ζ (fun hc6 => ?_) (fun hc6 => ?_)
  refine jr (jm ζ (jm ζ (js (jmulw ζ ζ) (jm ζ (js (jaddw ζ ζ) (ja ζ (jn (jbn ?_))))))))
  exact jje (IntKind.i32.wrap ((IntKind.i32.wrap ((getM regs i.A) * (getM regs i.B))) + (getM regs i.C)), 0, true, mem) ⟨by dsimp only; exact (wrap_wrap _ _), by first | rfl | exact storeM_len _ _ _, by dsimp only; exact doJ1 (by unfold makesM; repeat rw [if_neg (by omega)]) (fun h9 => by (unfold stepM; (repeat rw [if_neg (by omega)]) <;> (try rw [if_pos (by omega)]) <;> first | rfl | (simp [*]; done) | (simp [immOp, *]; done) | simp_all)) (fun h9 => by (unfold stepM; (repeat rw [if_neg (by omega)]) <;> (try rw [if_pos (by omega)]) <;> first | rfl | (simp [*]; done) | (simp [immOp, *]; done) | simp_all))⟩ (dc d3 dn) (kc k0 (kc k0 (kc k0 (kc k0 kn)))) ⟨ζ, ζ, ζ, ζ, ζ, trivial⟩
  refine jq (jr (js (jf F46_0 ζ) (js (jl k2 O3 ζ ζ) (js (jeql ζ ζ) (ja ζ (jn (jx ?_)))))))
  refine jif ζ (fun hc7 => ?_) (fun hc7 => ?_)
  refine jr (jm ζ (jm ζ (js (jf F46_6 ζ) (js (jl k2 O21 ζ ζ) (js (jaddw ζ ζ) (jc E72 ζ ζ (Tv.temp 1073741824 (pLoad_ct (IntKind.i32.wrap ((getM regs i.A) + i.Imm)) (wrap_wrap _ _)) (by omega)) dn (kc k3 kn) (fun _ => p0) (fun _ => p1) fun _ => jm ζ (js (jex' ζ ζ) (js (jex' ζ ζ) (ja ζ (ja ζ ?_))))))))))
  refine jn (jbn (qwr (m := ((loadM mem (IntKind.i32.wrap ((getM regs i.A) + i.Imm))).1)) (wld k0 (IntKind.i32.wrap ((getM regs i.A) + i.Imm))) fun w15 => ?_))
  exact jje ((loadM mem (IntKind.i32.wrap ((getM regs i.A) + i.Imm))).1, 0, (loadM mem (IntKind.i32.wrap ((getM regs i.A) + i.Imm))).2, mem) ⟨by dsimp only; exact w15, by first | rfl | exact storeM_len _ _ _, by dsimp only; exact doJ1 (by unfold makesM; repeat rw [if_neg (by omega)]) (fun h9 => by (unfold stepM; (repeat rw [if_neg (by omega)]) <;> (try rw [if_pos (by omega)]) <;> first | rfl | (simp [*]; done) | (simp [immOp, *]; done) | simp_all)) (fun h9 => by (unfold stepM; (repeat rw [if_neg (by omega)]) <;> (try rw [if_pos (by omega)]) <;> first | rfl | (simp [*]; done) | (simp [immOp, *]; done) | simp_all))⟩ (dc d3 dn) (kc k1 (kc k1 (kc k1 (kc k0 kn)))) ⟨ζ, ζ, ζ, ζ, ζ, trivial⟩
  refine jq (jr (js (jf F46_0 ζ) (js (jl k2 O3 ζ ζ) (js (jeql ζ ζ) (ja ζ (jn (jx ?_)))))))
  refine jif ζ (fun hc8 => ?_) (fun hc8 => ?_)
  refine jr (jm ζ (jm ζ (jm ζ (js (jaddw ζ ζ) (jc E72 ζ ζ (Tv.temp 1073741824 (pLoad_ct (IntKind.i32.wrap ((getM regs i.A) + (getM regs i.B))) (wrap_wrap _ _)) (by omega)) dn (kc k3 kn) (fun _ => p0) (fun _ => p1) fun _ => jm ζ (js (jex' ζ ζ) (js (jex' ζ ζ) (ja ζ (ja ζ (jn ?_))))))))))
  refine jbn (qwr (m := ((loadM mem (IntKind.i32.wrap ((getM regs i.A) + (getM regs i.B)))).1)) (wld k0 (IntKind.i32.wrap ((getM regs i.A) + (getM regs i.B)))) fun w16 => ?_)
  exact jje ((loadM mem (IntKind.i32.wrap ((getM regs i.A) + (getM regs i.B)))).1, 0, (loadM mem (IntKind.i32.wrap ((getM regs i.A) + (getM regs i.B)))).2, mem) ⟨by dsimp only; exact w16, by first | rfl | exact storeM_len _ _ _, by dsimp only; exact doJ1 (by unfold makesM; repeat rw [if_neg (by omega)]) (fun h9 => by (unfold stepM; (repeat rw [if_neg (by omega)]) <;> (try rw [if_pos (by omega)]) <;> first | rfl | (simp [*]; done) | (simp [immOp, *]; done) | simp_all)) (fun h9 => by (unfold stepM; (repeat rw [if_neg (by omega)]) <;> (try rw [if_pos (by omega)]) <;> first | rfl | (simp [*]; done) | (simp [immOp, *]; done) | simp_all))⟩ (dc d3 dn) (kc k1 (kc k1 (kc k1 (kc k0 kn)))) ⟨ζ, ζ, ζ, ζ, ζ, trivial⟩
  refine jq (jr (js (jf F46_0 ζ) (js (jl k2 O3 ζ ζ) (js (jeql ζ ζ) (ja ζ (jn (jx ?_)))))))
  refine jif ζ (fun hc9 => ?_) (fun hc9 => ?_)
  refine jr (jm ζ (jm ζ (js (jf F46_6 ζ) (js (jl k2 O21 ζ ζ) (js (jaddw ζ ζ) (jm ζ (jwr (wgt k0 i.B) fun w17 => jc E73 ζ ζ (pStore_ct (IntKind.i32.wrap ((getM regs i.A) + i.Imm)) (getM regs i.B) (by first | omega | (simp only [setM_len, storeM_len]; omega)) (wrap_wrap _ _) w17) dn (kc k3 kn) (fun _ => p0) (fun _ => p1) fun _ => ja ζ (jn (jbn ?_)))))))))
  exact jje (getM regs i.A, 0, storeOk mem (IntKind.i32.wrap ((getM regs i.A) + i.Imm)) (getM regs i.B), storeM mem (IntKind.i32.wrap ((getM regs i.A) + i.Imm)) (getM regs i.B)) ⟨by dsimp only; exact w5, by first | rfl | exact storeM_len _ _ _, by dsimp only; exact doJ0 (by unfold makesM; (repeat rw [if_neg (by omega)]) <;> (try rw [if_pos (by omega)])) (fun h9 => by (unfold stepM; (repeat rw [if_neg (by omega)]) <;> (try rw [if_pos (by omega)]) <;> first | rfl | (simp [*]; done) | (simp [immOp, *]; done) | simp_all)) (fun h9 => by (unfold stepM; (repeat rw [if_neg (by omega)]) <;> (try rw [if_pos (by omega)]) <;> first | rfl | (simp [*]; done) | (simp [immOp, *]; done) | simp_all))⟩ (dc d3 dn) (kc k1 (kc k1 (kc k1 (kc k0 kn)))) ⟨ζ, ζ, ζ, ζ, ζ, trivial⟩
  refine jq (jr (js (jf F46_0 ζ) (js (jl k2 O3 ζ ζ) (js (jeql ζ ζ) (ja ζ (jn (jx ?_)))))))
  refine jif ζ (fun hc10 => ?_) (fun hc10 => ?_)
  refine jr (jm ζ (jm ζ (jm ζ (js (jaddw ζ ζ) (jm ζ (jwr (wgt k0 i.C) fun w18 => jc E73 ζ ζ (pStore_ct (IntKind.i32.wrap ((getM regs i.A) + (getM regs i.B))) (getM regs i.C) (by first | omega | (simp only [setM_len, storeM_len]; omega)) (wrap_wrap _ _) w18) dn (kc k3 kn) (fun _ => p0) (fun _ => p1) fun _ => ja ζ (jn (jbn ?_))))))))
  exact jje (getM regs i.A, 0, storeOk mem (IntKind.i32.wrap ((getM regs i.A) + (getM regs i.B))) (getM regs i.C), storeM mem (IntKind.i32.wrap ((getM regs i.A) + (getM regs i.B))) (getM regs i.C)) ⟨by dsimp only; exact w5, by first | rfl | exact storeM_len _ _ _, by dsimp only; exact doJ0 (by unfold makesM; (repeat rw [if_neg (by omega)]) <;> (try rw [if_pos (by omega)])) (fun h9 => by (unfold stepM; (repeat rw [if_neg (by omega)]) <;> (try rw [if_pos (by omega)]) <;> first | rfl | (simp [*]; done) | (simp [immOp, *]; done) | simp_all)) (fun h9 => by (unfold stepM; (repeat rw [if_neg (by omega)]) <;> (try rw [if_pos (by omega)]) <;> first | rfl | (simp [*]; done) | (simp [immOp, *]; done) | simp_all))⟩ (dc d3 dn) (kc k1 (kc k1 (kc k1 (kc k0 kn)))) ⟨ζ, ζ, ζ, ζ, ζ, trivial⟩
  refine jq (jr (js (jf F46_0 ζ) (js (jl k2 O3 ζ ζ) (js (jeql ζ ζ) (ja ζ (jn (jx ?_)))))))
  refine jif ζ (fun hc11 => ?_) (fun hc11 => ?_)
  refine jq (jr (jm ζ (jm ζ (jwr (wgt k0 i.B) fun w19 => jcv E74 ζ ζ (wWide_ct (getM regs i.A) (getM regs i.B) w5 w19) dn kn (jm ζ (js (jex' ζ ζ) (js (jex' ζ ζ) (ja ζ (ja ζ (jn ?_))))))))))
  refine jx (jq (jr (jm ζ (js (jf F46_1 ζ) (js (jl k2 O3 ζ ζ) (jm ζ (jc E70 ζ ζ (pSet_ct i.D ((wideM (getM regs i.A) (getM regs i.B)).1) (by first | omega | (simp only [setM_len, storeM_len]; omega)) (wrap_wrap _ _)) dn (kc k0 (kc k0 kn)) (fun _ => p0) (fun _ => p2) fun _ => jn (jx (jq (jr ?_))))))))))
  refine jm ζ (js (jf F46_2 ζ) (js (jl k2 O3 ζ ζ) (jm ζ (jc E70 ζ ζ (pSet_ct i.E ((wideM (getM regs i.A) (getM regs i.B)).2) (by first | omega | (simp only [setM_len, storeM_len]; omega)) (wrap_wrap _ _)) dn (kc k0 (kc k0 kn)) (fun _ => p0) (fun _ => p2) fun _ => jn (jx (jq (jr (ja ζ (ja ζ (jn ?_))))))))))
  refine jx (jrt (jbr (jjr (jtr ?_))))
  have hm : stepM i regs mem = ((0, true), setM (setM regs i.D ((wideM (getM regs i.A) (getM regs i.B)).1)) i.E ((wideM (getM regs i.A) (getM regs i.B)).2), mem) := (by unfold stepM; (repeat rw [if_neg (by omega)]) <;> (try rw [if_pos (by omega)]) <;> first | rfl | (simp [*]; done) | (simp [immOp, *]; done) | (exfalso; (try simp at hc9); (try simp at hc10); (try simp at hc11); simp_all; done))
  exact jr2 ζ ζ ζ () (by rw [hm]) dn (fun _ _ => (kcg (by rw [hm]) k0 (kcg (by rw [hm]) k2 kn)))
  refine jq (jr (ja ζ (ja ζ (jn (jx (jrt (jbr (jjr (jtr ?_)))))))))
  have hm : stepM i regs mem = ((0, true), regs, mem) := (by unfold stepM; (repeat rw [if_neg (by omega)]) <;> (try rw [if_pos (by omega)]) <;> first | rfl | (simp [*]; done) | (simp [immOp, *]; done) | (exfalso; (try simp at hc9); (try simp at hc10); (try simp at hc11); simp_all; done))
  exact jr2 ζ ζ ζ () (by rw [hm]) dn (fun _ _ => (kcg (by rw [hm]) k0 (kcg (by rw [hm]) k2 kn)))
  rintro ⟨v, t, ok, me⟩; dsimp only [u4]; rintro ⟨hvw, hme, hJ⟩
  refine jx (jq (jq (jr (jm ζ (js (jnot ζ) (jm ζ (jg ζ ζ (.t _) (fun hg => jmv ζ) (jg ζ ζ (.t _) (fun hg => jeql (evg ζ hg) ζ) (js (jand ζ ζ) (jn (jx ?_)))))))))))
  refine jif ζ (fun hc12 => ?_) (fun hc12 => ?_)
  refine jr (ja ζ (jn (jx (jq (jq (jr (jm ζ (js (jnot ζ) (jn (jx ?_))))))))))
  refine jif ζ (fun hc13 => ?_) (fun hc13 => ?_)
  refine jq (jr (jm ζ (ja ζ (ja ζ (jn (jx (jrt (jtr ?_))))))))
  have hm : stepM i regs mem = (((-2), false), regs, me) := (by rw [hJ.2 (by simp_all)]; simp_all)
  exact jr2 ζ ζ ζ () (by rw [hm]) dn (fun _ _ => (kcg (by rw [hm]) k0 (kcg (by rw [hm]) k2 kn)))
  exact absurd hc13 (by simp [hc12])
  refine jsk (jx (jq (jq (jr (jm ζ (js (jnot ζ) (jn (jx ?_))))))))
  refine jif ζ (fun hc14 => ?_) (fun hc14 => ?_)
  refine jq (jr (jm ζ (ja ζ (ja ζ (jn (jx (jrt (jtr ?_))))))))
  have hm : stepM i regs mem = ((t, false), regs, me) := (by rw [hJ.2 (by simp_all)]; simp_all)
  exact jr2 ζ ζ ζ () (by rw [hm]) dn (fun _ _ => (kcg (by rw [hm]) k0 (kcg (by rw [hm]) k2 kn)))
  refine jsk (jx (jq (jq (jr (js (jla k2 A46 Z46 ζ ζ ζ) (jcd E75 ζ ζ pMakes_ct (dc d0 dn) kn fun v187 q20 w20 => js (jln U22 d0 ζ) (jm ζ (jn (jx (jb ?_))))))))))
  refine jlp (u2 fun (k : Nat) (rs : List Int) => ⟨k ≤ (makesM i).length ∧ setAllM regs (makesM i) v = setAllM rs ((makesM i).drop k) v ∧ rs.length = regs.length, [dv (rL (rI .i64)) v187 (makesM i)], [gl B1 (rI .i32) 21 a1 rs, bx g4 34 [a1], gl B2 (rI .i32) 21 a2 me], [(11, .func (.func 70) #[] #[.pointer (some ⟨g4, 0, none⟩)]), (12, .int .i32 v), (187, v187), (188, .int .i64 (↑(List.length (makesM i)))), (189, .int .i64 (↑k))], (makesM i).length - k⟩) (0, regs) ⟨by omega, rfl, rfl⟩ (dc d0 dn) (kc k0 (kc k0 (kc k1 kn))) ⟨ζ, ζ, ζ, ζ, eqI (by omega), trivial⟩ ?_
  rintro ⟨k, rs⟩; dsimp only [u2]; rintro ⟨hk, hR, hl9⟩
  refine jq (jr (js (jlss ζ ζ) (jn (jx (jq ?_)))))
  refine jif ζ (fun hc15 => ?_) (fun hc15 => ?_)
  refine jsk (jx (jq (jb (jq (jr (js (jix U22 Z3 d0 ζ ζ ζ (by omega)) (js (jlI (dix d0 k (by omega)) O3 ζ) (ja ζ (jn (jx (jr ?_)))))))))))
  refine jm ζ (jm ζ (jm ζ (jc E70 ζ ζ (pSet_ct (ix (makesM i) k) v (by first | omega | (simp only [setM_len, storeM_len]; omega)) hvw) dn (kc k0 (kc k0 kn)) (fun _ => p0) (fun _ => p2) fun _ => jn (jbn (jx (jr (js (jadd ζ ζ (by omega)) (jm ζ (jn ?_)))))))))
  exact jag (k + 1, setM rs (ix (makesM i) k) v) ⟨by dsimp only; omega, by dsimp only; rw [hR, drop_ix (by omega)]; rfl, by dsimp only; rw [setM_len]; exact hl9⟩ (dc d0 dn) (kc k0 (kc k0 (kc k0 kn))) ⟨ζ, ζ, ζ, ζ, eqI (by omega), trivial⟩
  refine jex (jtx (jtx (jbh (jx (jq (jr (ja ζ (ja ζ (jn (jx (jrt ?_)))))))))))
  have hm : stepM i regs mem = ((0, true), rs, me) := (by first | exact doJ_end (by simp_all) hR (by omega) | (have e9 : ok = true := (by simp_all); subst e9; exact doJ_end hJ hR (by omega)))
  exact jr2 ζ ζ ζ () (by rw [hm]) dn (fun _ _ => (kcg (by rw [hm]) k0 (kcg (by rw [hm]) k1 kn)))
end Go.Proofs.YtdlcjaefkjbonaaGreat
namespace Go.JE
set_option linter.unusedVariables false
set_option linter.unusedSimpArgs false
set_option linter.unusedSectionVars false
variable {P : Program} {D D0 D1 E : List Dt} {L M N Ls L0 : List Res} {e : Env} {X : Cx} {n : Fs} {w0 : World} {Q : Exit → Act → World → Prop}
def it (Ls : List Res) : Res where
  sat F H := Ok F H Ls
  own k := Own Ls k
  lt := Ok.lt
  no := Ok.no
  st := fun hl hs h1 h2 h => Ok.st hl hs h1 h2 h
def dl (E : List Dt) : Dt := ⟨fun F => AllD F E, fun hl h => h.up hl⟩
theorem db {d : List Dt} (h : Sd D L d) : Nd D L (dl d) := h
theorem Ok.un {F : PH} {H : Heap} : Ok F H (it Ls :: M) ↔ Ok F H (Ls ++ M) := by
  induction Ls with
  | nil => exact ⟨fun h => h.2.2, fun h => ⟨trivial, fun _ h => h.elim, h⟩⟩
  | cons R Ls ih =>
    constructor
    · rintro ⟨⟨a, b, c⟩, d, f⟩
      have := ih.1 ⟨c, fun k hk => d k (.inr hk), f⟩
      exact ⟨a, fun k hk ho => (Own.app.1 ho).elim (b k hk) (d k (.inl hk)), this⟩
    · rintro ⟨a, b, c⟩
      obtain ⟨c1, c2, c3⟩ := ih.2 c
      exact ⟨⟨a, fun k hk ho => b k hk (Own.app.2 (.inl ho)), c1⟩, fun k hk ho => hk.elim (fun h => b k h (Own.app.2 (.inr ho))) (fun h => c2 k h ho), c3⟩
theorem Own.un {k : Nat} : Own (it Ls :: M) k ↔ Own (Ls ++ M) k := ⟨fun h => Own.app.2 h, fun h => Own.app.1 h⟩
theorem Tks.it (h : Tks L Ls M) : Tks L [it Ls] M where
  ok := fun o => by
    obtain ⟨a, b, c⟩ := h.ok o
    exact ⟨⟨a, fun _ _ => id, trivial⟩, b, fun k hk => c k (hk.resolve_right id)⟩
  own := fun o => h.own (o.imp (·.resolve_right id) id)
theorem Hp.unit {F : PH} {H : Heap} (h : Hp X D (JE.it Ls :: M) F H) : Hp X D (Ls ++ M) F H := ⟨h.hx, h.hin, h.hw, h.hd, Ok.un.1 h.ok, fun k hk => h.ge k (Own.un.2 hk)⟩
section
variable {ops : Array Oper} {d : Nat} {ty : TypeId} {pos : String} {af : Array Edge} {rest : List Oper} {f : FuncId} {g : Operand} {xs : List Operand} {vs cs : List Value} {args : Array Value} {ts : Array TypeId} {ι : Type} {val : ι → Value} {dr : ι → List Dt} {lr : Nat → ι → List Res} {v : Value}
abbrev Pd (P : Program) (f : FuncId) (args : Array Value) (D0 : List Dt) (Ls : List Res) (b : Bool) : Prop := Tr P f args D0 [it Ls] (fun _ : Unit => .bool b) (fun _ => []) (fun _ _ => [it Ls])
theorem Tr.it {D2 : List Dt} (h : Tr P f args D0 Ls val dr (fun _ _ => Ls)) (hd : ∀ {F : PH}, AllD F D2 → AllD F D0) : Tr P f args D2 [it Ls] val dr (fun _ _ => [JE.it Ls]) := fun F H hin hD ho =>
  (h F H hin (hd hD) ho.1).mono fun v H' ⟨i, F', h1, h2⟩ => ⟨i, F', h1, fun B hB => by
    have h3 := h2 B hB
    refine ⟨h3.hx, h3.hin, ⟨h3.hw.1, fun k h1 h4 => h3.hw.2 k h1 (fun h5 => h4 (.inl h5))⟩, h3.hd, ⟨h3.ok, fun _ _ => id, trivial⟩, fun k hk => (h3.ge k (hk.resolve_right id)).imp id .inl⟩⟩
theorem i1 {F : PH} {d : Dt} : AllD F [dl [d]] → AllD F [d] := fun h => h.1
theorem i0 {F : PH} {D2 : List Dt} : AllD F D2 → AllD F [] := fun _ => trivial
theorem il {F : PH} {c : Dt} {E : List Dt} : AllD F [c, dl E] → AllD F (c :: E) := fun h => ⟨h.1, h.2.1⟩
theorem ir {F : PH} {c : Dt} {E : List Dt} : AllD F [c, dl E] → AllD F [c] := fun h => ⟨h.1, trivial⟩
theorem jcp (hE : Ent P f) (hf : ev e g = some (.func (.func f) #[] cs.toArray)) (hl : evl e xs = some vs) (hT : Tr P f (vs ++ cs).toArray D0 [it Ls] (fun _ : Unit => v) (fun _ => []) (fun _ _ => [it Ls])) (hd : Sd D L D0) (hk : Tks L Ls M) (hq : Ap Ls M N)
    (k : LH P n w0 ops Q X D N ((d, v) :: e) rest) (hd1 : Nat.blt d n.sz = true := by rfl) : LH P n w0 ops Q X D L e (⟨some d, .call { callee := .value g, args := xs.toArray, argTypes := ts }, ty, pos, af, none⟩ :: rest) :=
  jc hE hf hl hT hd hk.it (fun _ => rfl) (fun _ => rfl) (fun _ F H h => k F H (hq ▸ h.unit)) hd1
theorem jgcp {j t : Nat} {want B : Bool} {u : Value} (hj : (ops[j]?).bind (·.dst) = some t) (hu : lk e t = some u) (hB : Gd u want B) (hE : Ent P f) (hf : ev e g = some (.func (.func f) #[] cs.toArray)) (hl : B = true → evl e xs = some vs) (hT : B = true → Tr P f (vs ++ cs).toArray D0 [it Ls] (fun _ : Unit => v) (fun _ => []) (fun _ _ => [it Ls])) (hd : B = true → Sd D L D0) (hk : Tks L Ls M) (hq : Ap Ls M N)
    (k : LH P n w0 ops Q X D N ((d, gv B v) :: e) rest) (hd1 : Nat.blt d n.sz = true := by rfl) (ht : Nat.blt t n.sz = true := by rfl) : LH P n w0 ops Q X D L e (⟨some d, .call { callee := .value g, args := xs.toArray, argTypes := ts }, ty, pos, af, some (j, want)⟩ :: rest) :=
  jgc hj hu hB hE hf hl hT hd hk.it rfl (fun F H h => k F H (hq ▸ h.unit)) hd1 ht
end
end Go.JE
namespace Go.Proofs.YtdlcjaefkjbonaaGreat
set_option linter.unusedVariables false
set_option linter.unusedSimpArgs false
set_option linter.unusedSectionVars false
open Go.JE
abbrev U68 := @Tryz.underlying68
abbrev U74 := @Tryz.underlying74
theorem A73 : ∃ d, Tryz.prog.underlying 73 = some d ∧ (match d with | .struct _ | .array _ _ => true | _ => false) = true := ⟨_, Tryz.underlying73, rfl⟩
theorem A76 : ∃ d, Tryz.prog.underlying 76 = some d ∧ (match d with | .struct _ | .array _ _ => true | _ => false) = true := ⟨_, Tryz.underlying76, rfl⟩
theorem E136 : Ent Tryz.prog 136 := ⟨_, Tryz.func136, by kernel_rfl, by kernel_rfl⟩
theorem E138 : Ent Tryz.prog 138 := ⟨_, Tryz.func138, by kernel_rfl, by kernel_rfl⟩
theorem E68 : Ent Tryz.prog 68 := ⟨_, Tryz.func68, by kernel_rfl, by kernel_rfl⟩
theorem Z73 : Sz Tryz.prog 73 2 := by unfold Sz; kernel_rfl
theorem Z76 : Sz Tryz.prog 76 2 := by unfold Sz; kernel_rfl
def idxM {α : Type} (l : List α) (q : α → Bool) : Int := match l.findIdx? q with
  | some i => i
  | none => -1
def anyM {α : Type} (l : List α) (q : α → Bool) : Bool := l.any q
theorem idx_hit {α : Type} [Inhabited α] {l : List α} {q : α → Bool} {k : Nat} (hk : k < l.length) (h : ∀ x ∈ l.take k, q x = false) (h1 : q (ix l k) = true) : idxM l q = k := by
  have : l.findIdx? q = some k := by
    rw [List.findIdx?_eq_some_iff_getElem]
    refine ⟨hk, by rw [← ix_eq hk]; exact h1, fun j hj => ?_⟩
    have := h l[j] (by rw [List.mem_take_iff_getElem]; exact ⟨j, by omega, rfl⟩)
    simp [this]
  simp [idxM, this]
theorem idx_none {α : Type} {l : List α} {q : α → Bool} {k : Nat} (hk : l.length ≤ k) (h : ∀ x ∈ l.take k, q x = false) : idxM l q = -1 := by
  rw [List.take_of_length_le hk] at h
  have : l.findIdx? q = none := by rw [List.findIdx?_eq_none_iff]; exact h
  simp [idxM, this]
theorem idx_any {α : Type} (l : List α) (q : α → Bool) : decide (0 ≤ idxM l q) = anyM l q := by
  unfold idxM anyM
  cases h : l.findIdx? q with
  | none =>
    rw [List.findIdx?_eq_none_iff] at h
    have : l.any q = false := by rw [List.any_eq_false]; intro x hx; simp [h x hx]
    rw [this]; rfl
  | some i =>
    obtain ⟨hi, h1, _⟩ := List.findIdx?_eq_some_iff_getElem.1 h
    have : l.any q = true := List.any_eq_true.2 ⟨_, List.getElem_mem hi, h1⟩
    rw [this]; simp
theorem no_snoc {α : Type} [Inhabited α] {l : List α} {q : α → Bool} {k : Nat} (hk : k < l.length) (h : ∀ x ∈ l.take k, q x = false) (h1 : q (ix l k) = false) : ∀ x ∈ l.take (k + 1), q x = false := by
  intro x hx
  rw [take_ix hk] at hx
  rcases List.mem_append.1 hx with hx | hx
  · exact h x hx
  · simp at hx; subst hx; exact h1
theorem Ct.kp {P : Program} {f : FuncId} {args : Array Value} {H : Heap} {u : Value} (h : Ct P f args H (fun v H' => v = u ∧ H' = H)) : Ct P f args H (fun v H' => v = u ∧ Kp H.size H H') := h.mono fun _ _ ⟨a, b⟩ => ⟨a, b ▸ Kp.refl _ _⟩
theorem idxFInt_ct {a0 : Value} {l : List Int} {fp : Nat} {cp : List Value} {D1 : List Dt} {L1 : List Res} (q : Int → Bool) (hE : Ent Tryz.prog fp) (hq : ∀ x, x ∈ l → Pd Tryz.prog fp (.int .i64 x :: cp).toArray [dl D1] L1 (q x)) : Tr Tryz.prog 138 #[a0, .func (.func fp) #[] cp.toArray] [dv (rL (rI .i64)) a0 l, dl D1] [it L1] (fun _ : Unit => .int .i64 (idxM l q)) (fun _ => []) (fun _ _ => [it L1]) := by
  refine jenter (args := [a0, .func (.func fp) #[] cp.toArray]) Tryz.func138 rfl rfl rfl fun w0 X => ?_
  refine jq (jr (ja ζ (jn (jx (jq (jq (jr (jm ζ (jdq d0 fun q1 w1 => js (jln U22 d0 ζ) (jm ζ ?_))))))))))
  refine jn (jx (jb ?_))
  refine jlp (fun (k : Nat) => ⟨k ≤ l.length ∧ (∀ x ∈ l.take k, q x = false), [dv (rL (rI .i64)) a0 l, dl D1], [it L1], [(0, a0), (1, .func (.func fp) #[] cp.toArray), (7, .int .i64 (↑(List.length l))), (8, .int .i64 (↑k))], l.length - k⟩) 0 ⟨by omega, by simp⟩ (dc d0 (dc d1 dn)) (kc k0 kn) ⟨ζ, ζ, ζ, eqI (by omega), trivial⟩ ?_
  rintro k; dsimp only; rintro ⟨hk, hR⟩
  refine jq (jr (js (jlss ζ ζ) (jn (jx (jq ?_)))))
  refine jif ζ (fun hc1 => ?_) (fun hc1 => ?_)
  refine jsk (jx (jq (jb (jq (jr (jm ζ (ja ζ (jn (jx (jq (jr ?_)))))))))))
  refine jm ζ (jm ζ (jm ζ (js (jix U22 Z3 d0 ζ ζ ζ (by omega)) (js (jlI (dix d0 k (by omega)) O3 ζ) (jc hE ζ ζ (hq (ix l k) (ix_mem (by omega))) (dc d1 dn) (kc k0 kn) (fun _ => p0) (fun _ => p1) fun _ => jn (jx ?_))))))
  refine jif ζ (fun hc2 => ?_) (fun hc2 => ?_)
  refine jq (jr (jm ζ (ja ζ (jn (jx (jrt (jbr (jtr (jtr (jbr (jtr ?_)))))))))))
  exact jr1 ζ ζ () (congrArg (Value.int .i64) (Eq.symm (idx_hit (by omega) hR hc2))) dn (fun _ _ => (kc k0 kn))
  refine jsk (jbn (jx (jr (js (jadd ζ ζ (by omega)) (jm ζ (jn ?_))))))
  exact jag (k + 1) ⟨by omega, no_snoc (by omega) hR hc2⟩ (dc d0 (dc d1 dn)) (kc k0 kn) ⟨ζ, ζ, ζ, eqI (by omega), trivial⟩
  refine jex (jtx (jtx (jbh (jx (jq (jr (ja ζ (jn (jx (jrt ?_))))))))))
  exact jr1 ζ ζ () (congrArg (Value.int .i64) (Eq.symm (idx_none (by omega) hR))) dn (fun _ _ => (kc k0 kn))
theorem anyFInt_ct {a0 : Value} {l : List Int} {fp : Nat} {cp : List Value} {D1 : List Dt} {L1 : List Res} (q : Int → Bool) (hE : Ent Tryz.prog fp) (hq : ∀ x, x ∈ l → Pd Tryz.prog fp (.int .i64 x :: cp).toArray [dl D1] L1 (q x)) : Tr Tryz.prog 99 #[a0, .func (.func fp) #[] cp.toArray] [dv (rL (rI .i64)) a0 l, dl D1] [it L1] (fun _ : Unit => .bool (anyM l q)) (fun _ => []) (fun _ _ => [it L1]) := by
  refine jenter (args := [a0, .func (.func fp) #[] cp.toArray]) Tryz.func99 rfl rfl rfl fun w0 X => ?_
  refine jq (jr (ja ζ (jn (jx (jq (jr (jm ζ (jm ζ (jdq d0 fun q1 w1 => jc E138 ζ ζ (idxFInt_ct q hE hq) (dc d0 (dc d1 dn)) (kc k0 kn) (fun _ => p0) (fun _ => p1) fun _ => js (jgeq ζ ζ) ?_)))))))))
  refine ja ζ (jn (jx (jrt ?_)))
  exact jr1 ζ ζ () (congrArg Value.bool (Eq.symm ((idx_any l q).symm))) dn (fun _ _ => (kc k0 kn))
theorem idxFIn_ct {a0 : Value} {l : List D.In} {fp : Nat} {cp : List Value} {D1 : List Dt} {L1 : List Res} (q : D.In → Bool) (hE : Ent Tryz.prog fp) (hq : ∀ x, x ∈ l → ∀ c : Unit, Pd Tryz.prog fp (vIn x c :: cp).toArray [da rIn (vIn x c) x, dl D1] L1 (q x)) : Tr Tryz.prog 68 #[a0, .func (.func fp) #[] cp.toArray] [dv (rL rIn) a0 l, dl D1] [it L1] (fun _ : Unit => .int .i64 (idxM l q)) (fun _ => []) (fun _ _ => [it L1]) := by
  refine jenter (args := [a0, .func (.func fp) #[] cp.toArray]) Tryz.func68 rfl rfl rfl fun w0 X => ?_
  refine jq (jr (ja ζ (jn (jx (jq (jq (jr (jm ζ (jdq d0 fun q1 w1 => js (jln U74 d0 ζ) (jm ζ ?_))))))))))
  refine jn (jx (jb ?_))
  refine jlp (fun (k : Nat) => ⟨k ≤ l.length ∧ (∀ x ∈ l.take k, q x = false), [dv (rL rIn) a0 l, dl D1], [it L1], [(0, a0), (1, .func (.func fp) #[] cp.toArray), (7, .int .i64 (↑(List.length l))), (8, .int .i64 (↑k))], l.length - k⟩) 0 ⟨by omega, by simp⟩ (dc d0 (dc d1 dn)) (kc k0 kn) ⟨ζ, ζ, ζ, eqI (by omega), trivial⟩ ?_
  rintro k; dsimp only; rintro ⟨hk, hR⟩
  refine jq (jr (js (jlss ζ ζ) (jn (jx (jq ?_)))))
  refine jif ζ (fun hc1 => ?_) (fun hc1 => ?_)
  refine jsk (jx (jq (jb (jq (jr (jm ζ (ja ζ (jn (jx (jq (jr ?_)))))))))))
  refine jm ζ (jm ζ (jm ζ (js (jix U74 Z73 d0 ζ ζ ζ (by omega)) (jA sIn (jlA (dix d0 k (by omega)) A73 Z73 ζ) fun _ => jc hE ζ ζ (hq (ix l k) (ix_mem (by omega)) ()) (dc d0 (dc d2 dn)) (kc k0 kn) (fun _ => p0) (fun _ => p1) fun _ => jn (jx ?_)))))
  refine jif ζ (fun hc2 => ?_) (fun hc2 => ?_)
  refine jq (jr (jm ζ (ja ζ (jn (jx (jrt (jbr (jtr (jtr (jbr (jtr ?_)))))))))))
  exact jr1 ζ ζ () (congrArg (Value.int .i64) (Eq.symm (idx_hit (by omega) hR hc2))) dn (fun _ _ => (kc k0 kn))
  refine jsk (jbn (jx (jr (js (jadd ζ ζ (by omega)) (jm ζ (jn ?_))))))
  exact jag (k + 1) ⟨by omega, no_snoc (by omega) hR hc2⟩ (dc d1 (dc d2 dn)) (kc k0 kn) ⟨ζ, ζ, ζ, eqI (by omega), trivial⟩
  refine jex (jtx (jtx (jbh (jx (jq (jr (ja ζ (jn (jx (jrt ?_))))))))))
  exact jr1 ζ ζ () (congrArg (Value.int .i64) (Eq.symm (idx_none (by omega) hR))) dn (fun _ _ => (kc k0 kn))
theorem anyFIn_ct {a0 : Value} {l : List D.In} {fp : Nat} {cp : List Value} {D1 : List Dt} {L1 : List Res} (q : D.In → Bool) (hE : Ent Tryz.prog fp) (hq : ∀ x, x ∈ l → ∀ c : Unit, Pd Tryz.prog fp (vIn x c :: cp).toArray [da rIn (vIn x c) x, dl D1] L1 (q x)) : Tr Tryz.prog 93 #[a0, .func (.func fp) #[] cp.toArray] [dv (rL rIn) a0 l, dl D1] [it L1] (fun _ : Unit => .bool (anyM l q)) (fun _ => []) (fun _ _ => [it L1]) := by
  refine jenter (args := [a0, .func (.func fp) #[] cp.toArray]) Tryz.func93 rfl rfl rfl fun w0 X => ?_
  refine jq (jr (ja ζ (jn (jx (jq (jr (jm ζ (jm ζ (jdq d0 fun q1 w1 => jc E68 ζ ζ (idxFIn_ct q hE hq) (dc d0 (dc d1 dn)) (kc k0 kn) (fun _ => p0) (fun _ => p1) fun _ => js (jgeq ζ ζ) ?_)))))))))
  refine ja ζ (jn (jx (jrt ?_)))
  exact jr1 ζ ζ () (congrArg Value.bool (Eq.symm ((idx_any l q).symm))) dn (fun _ _ => (kc k0 kn))
theorem idxFPhi_ct {a0 : Value} {l : List D.Phi} {fp : Nat} {cp : List Value} {D1 : List Dt} {L1 : List Res} (q : D.Phi → Bool) (hE : Ent Tryz.prog fp) (hq : ∀ x, x ∈ l → ∀ c : Value, Pd Tryz.prog fp (vPhi x c :: cp).toArray [da rPhi (vPhi x c) x, dl D1] L1 (q x)) : Tr Tryz.prog 136 #[a0, .func (.func fp) #[] cp.toArray] [dv (rL rPhi) a0 l, dl D1] [it L1] (fun _ : Unit => .int .i64 (idxM l q)) (fun _ => []) (fun _ _ => [it L1]) := by
  refine jenter (args := [a0, .func (.func fp) #[] cp.toArray]) Tryz.func136 rfl rfl rfl fun w0 X => ?_
  refine jq (jr (ja ζ (jn (jx (jq (jq (jr (jm ζ (jdq d0 fun q1 w1 => js (jln U68 d0 ζ) (jm ζ ?_))))))))))
  refine jn (jx (jb ?_))
  refine jlp (fun (k : Nat) => ⟨k ≤ l.length ∧ (∀ x ∈ l.take k, q x = false), [dv (rL rPhi) a0 l, dl D1], [it L1], [(0, a0), (1, .func (.func fp) #[] cp.toArray), (7, .int .i64 (↑(List.length l))), (8, .int .i64 (↑k))], l.length - k⟩) 0 ⟨by omega, by simp⟩ (dc d0 (dc d1 dn)) (kc k0 kn) ⟨ζ, ζ, ζ, eqI (by omega), trivial⟩ ?_
  rintro k; dsimp only; rintro ⟨hk, hR⟩
  refine jq (jr (js (jlss ζ ζ) (jn (jx (jq ?_)))))
  refine jif ζ (fun hc1 => ?_) (fun hc1 => ?_)
  refine jsk (jx (jq (jb (jq (jr (jm ζ (ja ζ (jn (jx (jq (jr ?_)))))))))))
  refine jm ζ (jm ζ (jm ζ (js (jix U68 Z76 d0 ζ ζ ζ (by omega)) (jA sPhi (jlA (dix d0 k (by omega)) A76 Z76 ζ) fun c15 => jc hE ζ ζ (hq (ix l k) (ix_mem (by omega)) c15) (dc d0 (dc d2 dn)) (kc k0 kn) (fun _ => p0) (fun _ => p1) fun _ => jn (jx ?_)))))
  refine jif ζ (fun hc2 => ?_) (fun hc2 => ?_)
  refine jq (jr (jm ζ (ja ζ (jn (jx (jrt (jbr (jtr (jtr (jbr (jtr ?_)))))))))))
  exact jr1 ζ ζ () (congrArg (Value.int .i64) (Eq.symm (idx_hit (by omega) hR hc2))) dn (fun _ _ => (kc k0 kn))
  refine jsk (jbn (jx (jr (js (jadd ζ ζ (by omega)) (jm ζ (jn ?_))))))
  exact jag (k + 1) ⟨by omega, no_snoc (by omega) hR hc2⟩ (dc d1 (dc d2 dn)) (kc k0 kn) ⟨ζ, ζ, ζ, eqI (by omega), trivial⟩
  refine jex (jtx (jtx (jbh (jx (jq (jr (ja ζ (jn (jx (jrt ?_))))))))))
  exact jr1 ζ ζ () (congrArg (Value.int .i64) (Eq.symm (idx_none (by omega) hR))) dn (fun _ _ => (kc k0 kn))
theorem anyFPhi_ct {a0 : Value} {l : List D.Phi} {fp : Nat} {cp : List Value} {D1 : List Dt} {L1 : List Res} (q : D.Phi → Bool) (hE : Ent Tryz.prog fp) (hq : ∀ x, x ∈ l → ∀ c : Value, Pd Tryz.prog fp (vPhi x c :: cp).toArray [da rPhi (vPhi x c) x, dl D1] L1 (q x)) : Tr Tryz.prog 95 #[a0, .func (.func fp) #[] cp.toArray] [dv (rL rPhi) a0 l, dl D1] [it L1] (fun _ : Unit => .bool (anyM l q)) (fun _ => []) (fun _ _ => [it L1]) := by
  refine jenter (args := [a0, .func (.func fp) #[] cp.toArray]) Tryz.func95 rfl rfl rfl fun w0 X => ?_
  refine jq (jr (ja ζ (jn (jx (jq (jr (jm ζ (jm ζ (jdq d0 fun q1 w1 => jc E136 ζ ζ (idxFPhi_ct q hE hq) (dc d0 (dc d1 dn)) (kc k0 kn) (fun _ => p0) (fun _ => p1) fun _ => js (jgeq ζ ζ) ?_)))))))))
  refine ja ζ (jn (jx (jrt ?_)))
  exact jr1 ζ ζ () (congrArg Value.bool (Eq.symm ((idx_any l q).symm))) dn (fun _ _ => (kc k0 kn))
end Go.Proofs.YtdlcjaefkjbonaaGreat
namespace Go.Proofs.YtdlcjaefkjbonaaGreat
set_option linter.unusedVariables false
set_option linter.unusedSimpArgs false
set_option linter.unusedSectionVars false
open Go.JE
abbrev U152 := @Tryz.underlying152
abbrev U153 := @Tryz.underlying153
theorem A59 : ∃ d, Tryz.prog.underlying 59 = some d ∧ (match d with | .struct _ | .array _ _ => true | _ => false) = true := ⟨_, Tryz.underlying59, rfl⟩
theorem E100 : Ent Tryz.prog 100 := ⟨_, Tryz.func100, by kernel_rfl, by kernel_rfl⟩
theorem E135 : Ent Tryz.prog 135 := ⟨_, Tryz.func135, by kernel_rfl, by kernel_rfl⟩
theorem E137 : Ent Tryz.prog 137 := ⟨_, Tryz.func137, by kernel_rfl, by kernel_rfl⟩
theorem E141 : Ent Tryz.prog 141 := ⟨_, Tryz.func141, by kernel_rfl, by kernel_rfl⟩
theorem E142 : Ent Tryz.prog 142 := ⟨_, Tryz.func142, by kernel_rfl, by kernel_rfl⟩
theorem E143 : Ent Tryz.prog 143 := ⟨_, Tryz.func143, by kernel_rfl, by kernel_rfl⟩
theorem E144 : Ent Tryz.prog 144 := ⟨_, Tryz.func144, by kernel_rfl, by kernel_rfl⟩
theorem E147 : Ent Tryz.prog 147 := ⟨_, Tryz.func147, by kernel_rfl, by kernel_rfl⟩
theorem E18 : Ent Tryz.prog 18 := ⟨_, Tryz.func18, by kernel_rfl, by kernel_rfl⟩
theorem E92 : Ent Tryz.prog 92 := ⟨_, Tryz.func92, by kernel_rfl, by kernel_rfl⟩
theorem E97 : Ent Tryz.prog 97 := ⟨_, Tryz.func97, by kernel_rfl, by kernel_rfl⟩
theorem E98 : Ent Tryz.prog 98 := ⟨_, Tryz.func98, by kernel_rfl, by kernel_rfl⟩
theorem E99 : Ent Tryz.prog 99 := ⟨_, Tryz.func99, by kernel_rfl, by kernel_rfl⟩
theorem Z152 : Sz Tryz.prog 152 2 := by unfold Sz; kernel_rfl
theorem Z59 : Sz Tryz.prog 59 5 := by unfold Sz; kernel_rfl
theorem J152 : (Tryz.prog.info? 152).bind (·.zero) = some (.agg #[.int .i64 0, .int .i64 0]) := by kernel_rfl
def badR (r : Int) : Bool := decide (r < 0) || decide (8192 ≤ r)
theorem any_reg : ∀ l : List Int, (!anyM l badR) = regM l
  | [] => rfl
  | x :: l => by
    have ih := any_reg l
    unfold anyM at ih ⊢
    rw [List.any_cons, regM, Bool.not_or, ih]
    by_cases h : x < 0 ∨ 8192 ≤ x
    · rw [if_pos h]; have : badR x = true := by unfold badR; simp; exact h
      rw [this]; rfl
    · rw [if_neg h]; have : badR x = false := by unfold badR; simp; omega
      rw [this]; rfl
theorem u32_dec {n : Int} (h : IntKind.i32.wrap n = n) (m : Int) (hm : 0 < m ∧ m ≤ 1000) : decide (IntKind.u32.wrap n < m) = decide (0 ≤ n ∧ n ≤ m - 1) := by
  have h1 := i32_rng h
  rw [decide_eq_decide, IntKind.wrap_u32]; omega
def immM (i : D.Mach) : Bool :=
  if i.Op = 3 then fitsM i.Imm 16
  else if i.Op = 18 ∨ i.Op = 19 then fitsM i.Imm 8
  else if i.Op = 20 ∨ i.Op = 21 ∨ i.Op = 22 then decide (0 ≤ i.Imm ∧ i.Imm ≤ 31)
  else if i.Op = 24 ∨ i.Op = 26 then decide (0 ≤ i.Imm ∧ i.Imm ≤ 255)
  else true
def insE (i : D.Mach) : Int :=
  if i.Op < 1 ∨ 29 < i.Op ∨ i.Op = 2 ∨ (i.Op = 28 ∧ 4 < i.Args.length) then 30
  else if regM (makesM i) = false ∨ regM (takesM i) = false then 31
  else if i.Op = 29 ∧ i.D = i.E then 12
  else if immM i = false then 32
  else 0
def limLo (op : Int) : Int := if op = 1 then 1 else if op = 7 ∨ op = 8 then 0 else 2
def limHi (op : Int) : Int := if op = 1 then 1 else if op = 7 ∨ op = 8 then 0 else if op = 6 then 65 else 2
def toM (e : D.End) : Bool := decide (1 ≤ e.Op ∧ e.Op ≤ 8 ∧ limLo e.Op ≤ e.To.length ∧ e.To.length ≤ limHi e.Op)
def badB (n b : Int) : Bool := decide (b < 1) || decide (n ≤ b)
def endE (e : D.End) (n : Int) : Int := if toM e = false then 30 else if regM (needsM e) = false then 31 else if anyM e.To (badB n) = true then 14 else 0
def phiE (p : D.Phi) (ahead : List D.Phi) : Int :=
  if regM [p.Dst] = false ∨ anyM p.In (fun x => !regM [x.Val]) = true then 31
  else if anyM ahead (fun x => decide (x.Dst = p.Dst)) = true then 12
  else 0
theorem ltab (op : Int) : ((.tuple #[(lkM [(1, .agg #[.int .i64 1, .int .i64 1]), (2, .agg #[.int .i64 2, .int .i64 2]), (3, .agg #[.int .i64 2, .int .i64 2]), (4, .agg #[.int .i64 2, .int .i64 2]), (5, .agg #[.int .i64 2, .int .i64 2]), (6, .agg #[.int .i64 2, .int .i64 65]), (7, .agg #[.int .i64 0, .int .i64 0]), (8, .agg #[.int .i64 0, .int .i64 0])] op).getD (.agg #[.int .i64 0, .int .i64 0]), .bool (lkM [(1, .agg #[.int .i64 1, .int .i64 1]), (2, .agg #[.int .i64 2, .int .i64 2]), (3, .agg #[.int .i64 2, .int .i64 2]), (4, .agg #[.int .i64 2, .int .i64 2]), (5, .agg #[.int .i64 2, .int .i64 2]), (6, .agg #[.int .i64 2, .int .i64 65]), (7, .agg #[.int .i64 0, .int .i64 0]), (8, .agg #[.int .i64 0, .int .i64 0])] op).isSome] : Value) = .tuple #[.agg #[.int .i64 (limLo op), .int .i64 (limHi op)], .bool true] ∧ 1 ≤ op ∧ op ≤ 8) ∨
    ((.tuple #[(lkM [(1, .agg #[.int .i64 1, .int .i64 1]), (2, .agg #[.int .i64 2, .int .i64 2]), (3, .agg #[.int .i64 2, .int .i64 2]), (4, .agg #[.int .i64 2, .int .i64 2]), (5, .agg #[.int .i64 2, .int .i64 2]), (6, .agg #[.int .i64 2, .int .i64 65]), (7, .agg #[.int .i64 0, .int .i64 0]), (8, .agg #[.int .i64 0, .int .i64 0])] op).getD (.agg #[.int .i64 0, .int .i64 0]), .bool (lkM [(1, .agg #[.int .i64 1, .int .i64 1]), (2, .agg #[.int .i64 2, .int .i64 2]), (3, .agg #[.int .i64 2, .int .i64 2]), (4, .agg #[.int .i64 2, .int .i64 2]), (5, .agg #[.int .i64 2, .int .i64 2]), (6, .agg #[.int .i64 2, .int .i64 65]), (7, .agg #[.int .i64 0, .int .i64 0]), (8, .agg #[.int .i64 0, .int .i64 0])] op).isSome] : Value) = .tuple #[.agg #[.int .i64 0, .int .i64 0], .bool false] ∧ ¬ (1 ≤ op ∧ op ≤ 8)) := by
  by_cases ho : 1 ≤ op ∧ op ≤ 8
  · refine .inl ⟨?_, ho⟩
    have hc : op = 1 ∨ op = 2 ∨ op = 3 ∨ op = 4 ∨ op = 5 ∨ op = 6 ∨ op = 7 ∨ op = 8 := by omega
    rcases hc with rfl | rfl | rfl | rfl | rfl | rfl | rfl | rfl <;> rfl
  · refine .inr ⟨?_, ho⟩
    have h1 : ∀ k : Int, 1 ≤ k → k ≤ 8 → (k == op) = false := fun k h2 h3 => by rw [beq_eq_false_iff_ne]; omega
    simp [lkM, List.find?, h1]
theorem pRegs1_ct (r : Int) : Tv Tryz.prog 135 #[.int .i64 r] [] [] (.bool (badR r)) := by
  refine jenter (args := [.int .i64 r]) Tryz.func135 rfl rfl rfl fun w0 X => ?_
  refine jq (jr (ja ζ (jn (jx (jq (jr (jm ζ (js (jlss ζ ζ) (jm ζ (jg ζ ζ (.f _) (fun hg => jmv ζ) (jg ζ ζ (.f _) (fun hg => jgeq (evg ζ hg) ζ) ?_)))))))))))
  refine js (jor ζ ζ) (ja ζ (jn (jx (jrt ?_))))
  exact jrB ζ ζ (by rfl)
theorem pRegs_ct {a0 : Value} {l : List Int} : Tv Tryz.prog 92 #[a0] [dv (rL (rI .i64)) a0 l] [] (.bool (regM l)) := by
  refine jenter (args := [a0]) Tryz.func92 rfl rfl rfl fun w0 X => ?_
  refine jq (jr (ja ζ (jn (jx (jq (jr (jm ζ (jdq d0 fun q1 w1 => jcp E99 ζ ζ (anyFInt_ct badR E135 (fun x _ => Tr.it (pRegs1_ct x) i0)) (dc d0 (dc (db dn) dn)) kn p0 (js (jnot ζ) (ja ζ ?_))))))))))
  refine jn (jx (jrt ?_))
  exact jrB ζ ζ ((any_reg l).symm)
theorem pImm_ct {a0 : Value} {i : D.Mach} : Tv Tryz.prog 97 #[vMach i a0] [da rMach (vMach i a0) i] [] (.bool (immM i)) := by
  refine jenter (args := [vMach i a0]) Tryz.func97 rfl rfl rfl fun w0 X => ?_
  refine cwr (rMach.W_Imm d0) fun wim => jq (jr (jbox ζ ζ fun g1 => ja ζ (jn (jx (jq (jq (jr (js (jf F46_0 ζ) (js (jl k0 O3 ζ ζ) ?_)))))))))
  refine jn (jx (jb (jq (jr (js (jeql ζ ζ) (ja ζ (jn (jx ?_))))))))
  refine jif ζ (fun hc1 => ?_) (fun hc1 => ?_)
  refine jq (jr (js (jf F46_6 ζ) (js (jl k0 O21 ζ ζ) (jwr (rMach.W_Imm d0) fun w1 => jcv E137 ζ ζ (wFits_ct i.Imm 16 w1) dn kn (ja ζ (jn (jx (jrt (jbr (jtr ?_))))))))))
  exact jrB ζ ζ (by (unfold immM; (repeat rw [if_neg (by omega)]) <;> (try rw [if_pos (by omega)]) <;> first | rfl | exact (u32_dec wim 32 (by decide)).symm | exact (u32_dec wim 256 (by decide)).symm | (simp [*]; done) | (simp; done) | (rw [Bool.decide_and]; done)))
  refine jq (jq (jr (js (jeql ζ ζ) (ja ζ (jn (jx ?_))))))
  refine jif ζ (fun hc2 => ?_) (fun hc2 => ?_)
  refine jsk (jx ?_)
  refine jif ζ (fun hc3 => ?_) (fun hc3 => ?_)
  refine jq (jr (js (jf F46_6 ζ) (js (jl k0 O21 ζ ζ) (jwr (rMach.W_Imm d0) fun w2 => jcv E137 ζ ζ (wFits_ct i.Imm 8 w2) dn kn (ja ζ (jn (jx (jrt (jbr (jtr ?_))))))))))
  exact jrB ζ ζ (by (unfold immM; (repeat rw [if_neg (by omega)]) <;> (try rw [if_pos (by omega)]) <;> first | rfl | exact (u32_dec wim 32 (by decide)).symm | exact (u32_dec wim 256 (by decide)).symm | (simp [*]; done) | (simp; done) | (rw [Bool.decide_and]; done)))
  exact absurd hc3 (by simp [hc1, hc2])
  refine jr (js (jeql ζ ζ) (ja ζ (jn (jx ?_))))
  refine jif ζ (fun hc4 => ?_) (fun hc4 => ?_)
  refine jq (jr (js (jf F46_6 ζ) (js (jl k0 O21 ζ ζ) (jwr (rMach.W_Imm d0) fun w3 => jcv E137 ζ ζ (wFits_ct i.Imm 8 w3) dn kn (ja ζ (jn (jx (jrt (jbr (jtr ?_))))))))))
  exact jrB ζ ζ (by (unfold immM; (repeat rw [if_neg (by omega)]) <;> (try rw [if_pos (by omega)]) <;> first | rfl | exact (u32_dec wim 32 (by decide)).symm | exact (u32_dec wim 256 (by decide)).symm | (simp [*]; done) | (simp; done) | (rw [Bool.decide_and]; done)))
  refine jq (jq (jr (js (jeql ζ ζ) (ja ζ (jn (jx ?_))))))
  refine jif ζ (fun hc5 => ?_) (fun hc5 => ?_)
  refine jsk (jx ?_)
  refine jif ζ (fun hc6 => ?_) (fun hc6 => ?_)
  refine jq (jr (js (jf F46_6 ζ) (js (jl k0 O21 ζ ζ) (js (jco U21 U139 ζ ζ) (js (jlss ζ ζ) (ja ζ (jn (jx (jrt (jbr (jtr ?_)))))))))))
  exact jrB ζ ζ (by (unfold immM; (repeat rw [if_neg (by omega)]) <;> (try rw [if_pos (by omega)]) <;> first | rfl | exact (u32_dec wim 32 (by decide)).symm | exact (u32_dec wim 256 (by decide)).symm | (simp [*]; done) | (simp; done) | (rw [Bool.decide_and]; done)))
  exact absurd hc6 (by simp [hc1, hc2, hc4, hc5])
  refine jq (jr (js (jeql ζ ζ) (ja ζ (jn (jx ?_)))))
  refine jif ζ (fun hc7 => ?_) (fun hc7 => ?_)
  refine jsk (jx ?_)
  refine jif ζ (fun hc8 => ?_) (fun hc8 => ?_)
  refine jq (jr (js (jf F46_6 ζ) (js (jl k0 O21 ζ ζ) (js (jco U21 U139 ζ ζ) (js (jlss ζ ζ) (ja ζ (jn (jx (jrt (jbr (jtr ?_)))))))))))
  exact jrB ζ ζ (by (unfold immM; (repeat rw [if_neg (by omega)]) <;> (try rw [if_pos (by omega)]) <;> first | rfl | exact (u32_dec wim 32 (by decide)).symm | exact (u32_dec wim 256 (by decide)).symm | (simp [*]; done) | (simp; done) | (rw [Bool.decide_and]; done)))
  exact absurd hc8 (by simp [hc1, hc2, hc4, hc5, hc7])
  refine jr (js (jeql ζ ζ) (ja ζ (jn (jx ?_))))
  refine jif ζ (fun hc9 => ?_) (fun hc9 => ?_)
  refine jq (jr (js (jf F46_6 ζ) (js (jl k0 O21 ζ ζ) (js (jco U21 U139 ζ ζ) (js (jlss ζ ζ) (ja ζ (jn (jx (jrt (jbr (jtr ?_)))))))))))
  exact jrB ζ ζ (by (unfold immM; (repeat rw [if_neg (by omega)]) <;> (try rw [if_pos (by omega)]) <;> first | rfl | exact (u32_dec wim 32 (by decide)).symm | exact (u32_dec wim 256 (by decide)).symm | (simp [*]; done) | (simp; done) | (rw [Bool.decide_and]; done)))
  refine jq (jq (jr (js (jeql ζ ζ) (ja ζ (jn (jx ?_))))))
  refine jif ζ (fun hc10 => ?_) (fun hc10 => ?_)
  refine jsk (jx ?_)
  refine jif ζ (fun hc11 => ?_) (fun hc11 => ?_)
  refine jq (jr (js (jf F46_6 ζ) (js (jl k0 O21 ζ ζ) (js (jco U21 U139 ζ ζ) (js (jlss ζ ζ) (ja ζ (jn (jx (jrt (jbr (jtr ?_)))))))))))
  exact jrB ζ ζ (by (unfold immM; (repeat rw [if_neg (by omega)]) <;> (try rw [if_pos (by omega)]) <;> first | rfl | exact (u32_dec wim 32 (by decide)).symm | exact (u32_dec wim 256 (by decide)).symm | (simp [*]; done) | (simp; done) | (rw [Bool.decide_and]; done)))
  exact absurd hc11 (by simp [hc1, hc2, hc4, hc5, hc7, hc9, hc10])
  refine jr (js (jeql ζ ζ) (ja ζ (jn (jx ?_))))
  refine jif ζ (fun hc12 => ?_) (fun hc12 => ?_)
  refine jq (jr (js (jf F46_6 ζ) (js (jl k0 O21 ζ ζ) (js (jco U21 U139 ζ ζ) (js (jlss ζ ζ) (ja ζ (jn (jx (jrt (jbr (jtr ?_)))))))))))
  exact jrB ζ ζ (by (unfold immM; (repeat rw [if_neg (by omega)]) <;> (try rw [if_pos (by omega)]) <;> first | rfl | exact (u32_dec wim 32 (by decide)).symm | exact (u32_dec wim 256 (by decide)).symm | (simp [*]; done) | (simp; done) | (rw [Bool.decide_and]; done)))
  refine jsk (jbn (jx (jq (jr (ja ζ (jn (jx (jrt ?_))))))))
  exact jrB ζ ζ (by (unfold immM; (repeat rw [if_neg (by omega)]) <;> (try rw [if_pos (by omega)]) <;> first | rfl | exact (u32_dec wim 32 (by decide)).symm | exact (u32_dec wim 256 (by decide)).symm | (simp [*]; done) | (simp; done) | (rw [Bool.decide_and]; done)))
theorem rImm_ct {a0 : Value} {i : D.Mach} : Tv Tryz.prog 144 #[vMach i a0] [da rMach (vMach i a0) i] [] (.bool (immM i)) := by
  refine jenter (args := [vMach i a0]) Tryz.func144 rfl rfl rfl fun w0 X => ?_
  refine cwr (rMach.W_Imm d0) fun wim => jq (jr (jbox ζ ζ fun g1 => ja ζ (jn (jx (jq (jq (jr (js (jf F46_0 ζ) (js (jl k0 O3 ζ ζ) ?_)))))))))
  refine jn (jx (jb (jq (jr (js (jeql ζ ζ) (ja ζ (jn (jx ?_))))))))
  refine jif ζ (fun hc1 => ?_) (fun hc1 => ?_)
  refine jq (jr (js (jf F46_6 ζ) (js (jl k0 O21 ζ ζ) (jwr (rMach.W_Imm d0) fun w1 => jcv E147 ζ ζ (rFits_ct i.Imm 16 w1) dn kn (ja ζ (jn (jx (jrt (jbr (jtr ?_))))))))))
  exact jrB ζ ζ (by (unfold immM; (repeat rw [if_neg (by omega)]) <;> (try rw [if_pos (by omega)]) <;> first | rfl | exact (u32_dec wim 32 (by decide)).symm | exact (u32_dec wim 256 (by decide)).symm | (simp [*]; done) | (simp; done) | (rw [Bool.decide_and]; done)))
  refine jq (jq (jr (js (jeql ζ ζ) (ja ζ (jn (jx ?_))))))
  refine jif ζ (fun hc2 => ?_) (fun hc2 => ?_)
  refine jsk (jx ?_)
  refine jif ζ (fun hc3 => ?_) (fun hc3 => ?_)
  refine jq (jr (js (jf F46_6 ζ) (js (jl k0 O21 ζ ζ) (jwr (rMach.W_Imm d0) fun w2 => jcv E147 ζ ζ (rFits_ct i.Imm 8 w2) dn kn (ja ζ (jn (jx (jrt (jbr (jtr ?_))))))))))
  exact jrB ζ ζ (by (unfold immM; (repeat rw [if_neg (by omega)]) <;> (try rw [if_pos (by omega)]) <;> first | rfl | exact (u32_dec wim 32 (by decide)).symm | exact (u32_dec wim 256 (by decide)).symm | (simp [*]; done) | (simp; done) | (rw [Bool.decide_and]; done)))
  exact absurd hc3 (by simp [hc1, hc2])
  refine jr (js (jeql ζ ζ) (ja ζ (jn (jx ?_))))
  refine jif ζ (fun hc4 => ?_) (fun hc4 => ?_)
  refine jq (jr (js (jf F46_6 ζ) (js (jl k0 O21 ζ ζ) (jwr (rMach.W_Imm d0) fun w3 => jcv E147 ζ ζ (rFits_ct i.Imm 8 w3) dn kn (ja ζ (jn (jx (jrt (jbr (jtr ?_))))))))))
  exact jrB ζ ζ (by (unfold immM; (repeat rw [if_neg (by omega)]) <;> (try rw [if_pos (by omega)]) <;> first | rfl | exact (u32_dec wim 32 (by decide)).symm | exact (u32_dec wim 256 (by decide)).symm | (simp [*]; done) | (simp; done) | (rw [Bool.decide_and]; done)))
  refine jq (jq (jr (js (jeql ζ ζ) (ja ζ (jn (jx ?_))))))
  refine jif ζ (fun hc5 => ?_) (fun hc5 => ?_)
  refine jsk (jx ?_)
  refine jif ζ (fun hc6 => ?_) (fun hc6 => ?_)
  refine jq (jr (js (jf F46_6 ζ) (js (jl k0 O21 ζ ζ) (js (jgeq ζ ζ) (jm ζ (jg ζ ζ (.t _) (fun hg => jf F46_6 ζ) (jg ζ ζ (.t _) (fun hg => jl k0 O21 (evg ζ hg) ζ) (jg ζ ζ (.t _) (fun hg => jleq (evg ζ hg) ζ) (js (jand ζ ζ) (ja ζ (jn ?_)))))))))))
  refine jx (jrt (jbr (jtr ?_)))
  exact jrB ζ ζ (by (unfold immM; (repeat rw [if_neg (by omega)]) <;> (try rw [if_pos (by omega)]) <;> first | rfl | exact (u32_dec wim 32 (by decide)).symm | exact (u32_dec wim 256 (by decide)).symm | (simp [*]; done) | (simp; done) | (rw [Bool.decide_and]; done)))
  exact absurd hc6 (by simp [hc1, hc2, hc4, hc5])
  refine jq (jr (js (jeql ζ ζ) (ja ζ (jn (jx ?_)))))
  refine jif ζ (fun hc7 => ?_) (fun hc7 => ?_)
  refine jsk (jx ?_)
  refine jif ζ (fun hc8 => ?_) (fun hc8 => ?_)
  refine jq (jr (js (jf F46_6 ζ) (js (jl k0 O21 ζ ζ) (js (jgeq ζ ζ) (jm ζ (jg ζ ζ (.t _) (fun hg => jf F46_6 ζ) (jg ζ ζ (.t _) (fun hg => jl k0 O21 (evg ζ hg) ζ) (jg ζ ζ (.t _) (fun hg => jleq (evg ζ hg) ζ) (js (jand ζ ζ) (ja ζ (jn ?_)))))))))))
  refine jx (jrt (jbr (jtr ?_)))
  exact jrB ζ ζ (by (unfold immM; (repeat rw [if_neg (by omega)]) <;> (try rw [if_pos (by omega)]) <;> first | rfl | exact (u32_dec wim 32 (by decide)).symm | exact (u32_dec wim 256 (by decide)).symm | (simp [*]; done) | (simp; done) | (rw [Bool.decide_and]; done)))
  exact absurd hc8 (by simp [hc1, hc2, hc4, hc5, hc7])
  refine jr (js (jeql ζ ζ) (ja ζ (jn (jx ?_))))
  refine jif ζ (fun hc9 => ?_) (fun hc9 => ?_)
  refine jq (jr (js (jf F46_6 ζ) (js (jl k0 O21 ζ ζ) (js (jgeq ζ ζ) (jm ζ (jg ζ ζ (.t _) (fun hg => jf F46_6 ζ) (jg ζ ζ (.t _) (fun hg => jl k0 O21 (evg ζ hg) ζ) (jg ζ ζ (.t _) (fun hg => jleq (evg ζ hg) ζ) (js (jand ζ ζ) (ja ζ (jn ?_)))))))))))
  refine jx (jrt (jbr (jtr ?_)))
  exact jrB ζ ζ (by (unfold immM; (repeat rw [if_neg (by omega)]) <;> (try rw [if_pos (by omega)]) <;> first | rfl | exact (u32_dec wim 32 (by decide)).symm | exact (u32_dec wim 256 (by decide)).symm | (simp [*]; done) | (simp; done) | (rw [Bool.decide_and]; done)))
  refine jq (jq (jr (js (jeql ζ ζ) (ja ζ (jn (jx ?_))))))
  refine jif ζ (fun hc10 => ?_) (fun hc10 => ?_)
  refine jsk (jx ?_)
  refine jif ζ (fun hc11 => ?_) (fun hc11 => ?_)
  refine jq (jr (js (jf F46_6 ζ) (js (jl k0 O21 ζ ζ) (js (jgeq ζ ζ) (jm ζ (jg ζ ζ (.t _) (fun hg => jf F46_6 ζ) (jg ζ ζ (.t _) (fun hg => jl k0 O21 (evg ζ hg) ζ) (jg ζ ζ (.t _) (fun hg => jleq (evg ζ hg) ζ) (js (jand ζ ζ) (ja ζ (jn ?_)))))))))))
  refine jx (jrt (jbr (jtr ?_)))
  exact jrB ζ ζ (by (unfold immM; (repeat rw [if_neg (by omega)]) <;> (try rw [if_pos (by omega)]) <;> first | rfl | exact (u32_dec wim 32 (by decide)).symm | exact (u32_dec wim 256 (by decide)).symm | (simp [*]; done) | (simp; done) | (rw [Bool.decide_and]; done)))
  exact absurd hc11 (by simp [hc1, hc2, hc4, hc5, hc7, hc9, hc10])
  refine jr (js (jeql ζ ζ) (ja ζ (jn (jx ?_))))
  refine jif ζ (fun hc12 => ?_) (fun hc12 => ?_)
  refine jq (jr (js (jf F46_6 ζ) (js (jl k0 O21 ζ ζ) (js (jgeq ζ ζ) (jm ζ (jg ζ ζ (.t _) (fun hg => jf F46_6 ζ) (jg ζ ζ (.t _) (fun hg => jl k0 O21 (evg ζ hg) ζ) (jg ζ ζ (.t _) (fun hg => jleq (evg ζ hg) ζ) (js (jand ζ ζ) (ja ζ (jn ?_)))))))))))
  refine jx (jrt (jbr (jtr ?_)))
  exact jrB ζ ζ (by (unfold immM; (repeat rw [if_neg (by omega)]) <;> (try rw [if_pos (by omega)]) <;> first | rfl | exact (u32_dec wim 32 (by decide)).symm | exact (u32_dec wim 256 (by decide)).symm | (simp [*]; done) | (simp; done) | (rw [Bool.decide_and]; done)))
  refine jsk (jbn (jx (jq (jr (ja ζ (jn (jx (jrt ?_))))))))
  exact jrB ζ ζ (by (unfold immM; (repeat rw [if_neg (by omega)]) <;> (try rw [if_pos (by omega)]) <;> first | rfl | exact (u32_dec wim 32 (by decide)).symm | exact (u32_dec wim 256 (by decide)).symm | (simp [*]; done) | (simp; done) | (rw [Bool.decide_and]; done)))
theorem pIns_ct {a0 : Value} {i : D.Mach} : Tv Tryz.prog 47 #[vMach i a0] [da rMach (vMach i a0) i] [] (.int .i64 (insE i)) := by
  refine jenter (args := [vMach i a0]) Tryz.func47 rfl rfl rfl fun w0 X => ?_
  refine jq (jr (jbox ζ ζ fun g1 => ja ζ (jn (jx (jq (jb (jq (jr (js (jf F46_0 ζ) (js (jl k0 O3 ζ ζ) ?_))))))))))
  refine js (jlss ζ ζ) (jm ζ (jg ζ ζ (.f _) (fun hg => jf F46_0 ζ) (jg ζ ζ (.f _) (fun hg => jl k0 O3 (evg ζ hg) ζ) (jg ζ ζ (.f _) (fun hg => jgtr (evg ζ hg) ζ) (js (jor ζ ζ) (jm ζ (jg ζ ζ (.f _) (fun hg => jf F46_0 ζ) (jg ζ ζ (.f _) (fun hg => jl k0 O3 (evg ζ hg) ζ) (jg ζ ζ (.f _) (fun hg => jeql (evg ζ hg) ζ) (js (jor ζ ζ) (jm ζ ?_)))))))))))
  refine jg ζ ζ (.f _) (fun hg => jf F46_0 ζ) (jg ζ ζ (.f _) (fun hg => jl k0 O3 (evg ζ hg) ζ) (jg ζ ζ (.f _) (fun hg => jeql (evg ζ hg) ζ) (jg ζ ζ (.f _) (fun hg => jmv (evg ζ hg)) (jg ζ ζ (.gt _ _) (fun hg => jf F46_7 ζ) (jg ζ ζ (.gt _ _) (fun hg => jl k0 O22 (evg ζ hg) ζ) (jdq (rMach.c_Args d0) fun q1 w1 => jg ζ ζ (.gt _ _) (fun hg => jln U22 (rMach.c_Args d0) (evg ζ hg)) (jg ζ ζ (.gt _ _) (fun hg => jgtr (evg ζ hg) ζ) (jg ζ ζ (.f _) (fun hg => jand2 hg ζ ζ) (js (jor ζ ζ) (ja ζ ?_))))))))))
  refine jn (jx ?_)
  refine jif ζ (fun hc1 => ?_) (fun hc1 => ?_)
  refine jq (jr (ja ζ (jn (jx (jrt (jbr (jtr ?_)))))))
  exact jrI ζ ζ (by first | (unfold insE; rw [if_pos (by omega)]; done) | (unfold insE; rw [if_neg (by omega)]; simp [*]; done) | (unfold insE; rw [if_neg (by omega)]; simp [*]; omega))
  refine jq (jr (js (jla k0 A46 Z46 ζ ζ ζ) (jcd E75 ζ ζ pMakes_ct (dc d0 dn) kn fun v30 q2 w2 => jcv E92 ζ ζ pRegs_ct (dc d0 dn) kn (js (jnot ζ) (jm ζ (jg ζ ζ (.f _) (fun hg => jla k0 A46 Z46 ζ ζ ζ) (jgcd ζ ζ (.f _) E18 ζ (fun hg => evl1 (evg ζ hg)) (fun hg => pTakes_ct) (fun hg => (dc d1 dn)) fun v35 => jgc ζ ζ (.f _) E92 ζ (fun hg => evl1 (evg ζ hg)) (fun hg => pRegs_ct) (fun hg => (dc (d0.on hg) dn)) kn p0 (jg ζ ζ (.f _) (fun hg => jnot (evg ζ hg)) (js (jor ζ ζ) ?_)))))))))
  refine ja ζ (jn (jx ?_))
  refine jif ζ (fun hc2 => ?_) (fun hc2 => ?_)
  refine jq (jr (ja ζ (jn (jx (jrt (jbr (jtr ?_)))))))
  exact jrI ζ ζ (by first | (unfold insE; rw [if_pos (by omega)]; done) | (unfold insE; rw [if_neg (by omega)]; simp [*]; done) | (unfold insE; rw [if_neg (by omega)]; simp [*]; omega))
  refine jq (jr (js (jf F46_0 ζ) (js (jl k0 O3 ζ ζ) (js (jeql ζ ζ) (jm ζ (jg ζ ζ (.t _) (fun hg => jf F46_1 ζ) (jg ζ ζ (.t _) (fun hg => jl k0 O3 (evg ζ hg) ζ) (jg ζ ζ (.t _) (fun hg => jf F46_2 ζ) (jg ζ ζ (.t _) (fun hg => jl k0 O3 (evg ζ hg) ζ) (jg ζ ζ (.t _) (fun hg => jeql (evg ζ hg) (evg ζ hg)) (js (jand ζ ζ) ?_)))))))))))
  refine ja ζ (jn (jx ?_))
  refine jif ζ (fun hc3 => ?_) (fun hc3 => ?_)
  refine jq (jr (ja ζ (jn (jx (jrt (jbr (jtr ?_)))))))
  exact jrI ζ ζ (by first | (unfold insE; rw [if_pos (by omega)]; done) | (unfold insE; rw [if_neg (by omega)]; simp [*]; done) | (unfold insE; rw [if_neg (by omega)]; simp [*]; omega))
  refine jq (jr (js (jla k0 A46 Z46 ζ ζ ζ) (jcv E97 ζ ζ pImm_ct (dc d2 dn) kn (js (jnot ζ) (ja ζ (jn (jx ?_)))))))
  refine jif ζ (fun hc4 => ?_) (fun hc4 => ?_)
  refine jq (jr (ja ζ (jn (jx (jrt (jbr (jtr ?_)))))))
  exact jrI ζ ζ (by first | (unfold insE; rw [if_pos (by omega)]; done) | (unfold insE; rw [if_neg (by omega)]; simp [*]; done) | (unfold insE; rw [if_neg (by omega)]; simp [*]; omega))
  refine jsk (jbn (jx (jq (jr (ja ζ (jn (jx (jrt ?_))))))))
  exact jrI ζ ζ (by first | (unfold insE; rw [if_pos (by omega)]; done) | (unfold insE; rw [if_neg (by omega)]; simp [*]; done) | (unfold insE; rw [if_neg (by omega)]; simp [*]; omega))
theorem rIns_ct {a0 : Value} {i : D.Mach} : Tv Tryz.prog 117 #[vMach i a0] [da rMach (vMach i a0) i] [] (.int .i64 (insE i)) := by
  refine jenter (args := [vMach i a0]) Tryz.func117 rfl rfl rfl fun w0 X => ?_
  refine jq (jr (jbox ζ ζ fun g1 => ja ζ (jn (jx (jq (jq (jr (js (jf F46_0 ζ) (js (jl k0 O3 ζ ζ) (js (jlss ζ ζ) ?_))))))))))
  refine jm ζ (jg ζ ζ (.f _) (fun hg => jf F46_0 ζ) (jg ζ ζ (.f _) (fun hg => jl k0 O3 (evg ζ hg) ζ) (jg ζ ζ (.f _) (fun hg => jgtr (evg ζ hg) ζ) (js (jor ζ ζ) (jm ζ (jg ζ ζ (.f _) (fun hg => jf F46_0 ζ) (jg ζ ζ (.f _) (fun hg => jl k0 O3 (evg ζ hg) ζ) (jg ζ ζ (.f _) (fun hg => jeql (evg ζ hg) ζ) (js (jor ζ ζ) (jm ζ (jg ζ ζ (.f _) (fun hg => jf F46_0 ζ) ?_)))))))))))
  refine jg ζ ζ (.f _) (fun hg => jl k0 O3 (evg ζ hg) ζ) (jg ζ ζ (.f _) (fun hg => jeql (evg ζ hg) ζ) (jg ζ ζ (.f _) (fun hg => jmv (evg ζ hg)) (jg ζ ζ (.gt _ _) (fun hg => jf F46_7 ζ) (jg ζ ζ (.gt _ _) (fun hg => jl k0 O22 (evg ζ hg) ζ) (jdq (rMach.c_Args d0) fun q1 w1 => jg ζ ζ (.gt _ _) (fun hg => jln U22 (rMach.c_Args d0) (evg ζ hg)) (jg ζ ζ (.gt _ _) (fun hg => jgtr (evg ζ hg) ζ) (jg ζ ζ (.f _) (fun hg => jand2 hg ζ ζ) (js (jor ζ ζ) (jn (jx ?_))))))))))
  refine jif ζ (fun hc1 => ?_) (fun hc1 => ?_)
  refine jq (jr (ja ζ (jn (jx (jrt (jtr ?_))))))
  exact jrI ζ ζ (by first | (unfold insE; rw [if_pos (by omega)]; done) | (unfold insE; rw [if_neg (by omega)]; simp [*]; done) | (unfold insE; rw [if_neg (by omega)]; simp [*]; omega))
  refine jsk (jx (jq (jq (jr (js (jla k0 A46 Z46 ζ ζ ζ) (jcd E142 ζ ζ rMakes_ct (dc d0 dn) kn fun v28 q2 w2 => jcv E141 ζ ζ rReg_ct (dc d0 dn) kn (js (jnot ζ) (jm ζ (jg ζ ζ (.f _) (fun hg => jla k0 A46 Z46 ζ ζ ζ) (jgcd ζ ζ (.f _) E143 ζ (fun hg => evl1 (evg ζ hg)) (fun hg => rTakes_ct) (fun hg => (dc d1 dn)) fun v33 => ?_))))))))))
  refine jgc ζ ζ (.f _) E141 ζ (fun hg => evl1 (evg ζ hg)) (fun hg => rReg_ct) (fun hg => (dc (d0.on hg) dn)) kn p0 (jg ζ ζ (.f _) (fun hg => jnot (evg ζ hg)) (js (jor ζ ζ) (jn (jx ?_))))
  refine jif ζ (fun hc2 => ?_) (fun hc2 => ?_)
  refine jq (jr (ja ζ (jn (jx (jrt (jtr ?_))))))
  exact jrI ζ ζ (by first | (unfold insE; rw [if_pos (by omega)]; done) | (unfold insE; rw [if_neg (by omega)]; simp [*]; done) | (unfold insE; rw [if_neg (by omega)]; simp [*]; omega))
  refine jsk (jx (jq (jq (jr (js (jf F46_0 ζ) (js (jl k0 O3 ζ ζ) (js (jeql ζ ζ) (jm ζ (jg ζ ζ (.t _) (fun hg => jf F46_1 ζ) (jg ζ ζ (.t _) (fun hg => jl k0 O3 (evg ζ hg) ζ) (jg ζ ζ (.t _) (fun hg => jf F46_2 ζ) ?_)))))))))))
  refine jg ζ ζ (.t _) (fun hg => jl k0 O3 (evg ζ hg) ζ) (jg ζ ζ (.t _) (fun hg => jeql (evg ζ hg) (evg ζ hg)) (js (jand ζ ζ) (jn (jx ?_))))
  refine jif ζ (fun hc3 => ?_) (fun hc3 => ?_)
  refine jq (jr (ja ζ (jn (jx (jrt (jtr ?_))))))
  exact jrI ζ ζ (by first | (unfold insE; rw [if_pos (by omega)]; done) | (unfold insE; rw [if_neg (by omega)]; simp [*]; done) | (unfold insE; rw [if_neg (by omega)]; simp [*]; omega))
  refine jsk (jx (jq (jq (jr (js (jla k0 A46 Z46 ζ ζ ζ) (jcv E144 ζ ζ rImm_ct (dc d2 dn) kn (js (jnot ζ) (jn (jx ?_)))))))))
  refine jif ζ (fun hc4 => ?_) (fun hc4 => ?_)
  refine jq (jr (ja ζ (jn (jx (jrt (jtr ?_))))))
  exact jrI ζ ζ (by first | (unfold insE; rw [if_pos (by omega)]; done) | (unfold insE; rw [if_neg (by omega)]; simp [*]; done) | (unfold insE; rw [if_neg (by omega)]; simp [*]; omega))
  refine jsk (jx (jq (jr (ja ζ (jn (jx (jrt ?_)))))))
  exact jrI ζ ζ (by first | (unfold insE; rw [if_pos (by omega)]; done) | (unfold insE; rw [if_neg (by omega)]; simp [*]; done) | (unfold insE; rw [if_neg (by omega)]; simp [*]; omega))
theorem pEnd1_ct (b : Int) (n : Int) {g1 : Nat} : Tr Tryz.prog 100 #[.int .i64 b, .pointer (some ⟨g1, 0, none⟩)] [] [bx g1 3 [.int .i64 n]] (fun _ : Unit => .bool ((badB n) b)) (fun _ => []) (fun _ _ => [bx g1 3 [.int .i64 n]]) := by
  refine jenter (args := [.int .i64 b, .pointer (some ⟨g1, 0, none⟩)]) Tryz.func100 rfl rfl rfl fun w0 X => ?_
  refine jq (jr (ja ζ (jn (jx (jq (jr (jm ζ (js (jlss ζ ζ) (jm ζ (jg ζ ζ (.f _) (fun hg => jmv ζ) (jg ζ ζ (.f _) (fun hg => jl k0 O3 ζ ζ) ?_)))))))))))
  refine jg ζ ζ (.f _) (fun hg => jgeq (evg ζ hg) (evg ζ hg)) (js (jor ζ ζ) (ja ζ (jn (jx (jrt ?_)))))
  exact jr1 ζ ζ () (congrArg Value.bool (Eq.symm (by rfl))) dn (fun _ _ => (kc k0 kn))
theorem pEnd_ct {a0 : Value} {e : D.End} (n : Int) : Tv Tryz.prog 48 #[vEnd e a0, .int .i64 n] [da rEnd (vEnd e a0) e] [] (.int .i64 (endE e n)) := by
  refine jenter (args := [vEnd e a0, .int .i64 n]) Tryz.func48 rfl rfl rfl fun w0 X => ?_
  refine jq (jr (jbox ζ ζ fun g2 => jbox ζ ζ fun g3 => ja ζ (jn (jx (jq (jr (jmm fun g8 => js (jbu (v := .agg #[.int .i64 1, .int .i64 1]) ζ (fun _ => by kernel_rfl)) (jin U153 U3 k0 ζ ζ ζ ζ ?_))))))))
  refine js (jbu (v := .agg #[.int .i64 2, .int .i64 2]) ζ (fun _ => by kernel_rfl)) (jin U153 U3 k0 ζ ζ ζ ζ (js (jbu (v := .agg #[.int .i64 2, .int .i64 2]) ζ (fun _ => by kernel_rfl)) (jin U153 U3 k0 ζ ζ ζ ζ (js (jbu (v := .agg #[.int .i64 2, .int .i64 2]) ζ (fun _ => by kernel_rfl)) (jin U153 U3 k0 ζ ζ ζ ζ (js (jbu (v := .agg #[.int .i64 2, .int .i64 2]) ζ (fun _ => by kernel_rfl)) (jin U153 U3 k0 ζ ζ ζ ζ (js (jbu (v := .agg #[.int .i64 2, .int .i64 65]) ζ (fun _ => by kernel_rfl)) (jin U153 U3 k0 ζ ζ ζ ζ (js (jbu (v := .agg #[.int .i64 0, .int .i64 0]) ζ (fun _ => by kernel_rfl)) (jin U153 U3 k0 ζ ζ ζ ζ ?_)))))))))))
  refine js (jbu (v := .agg #[.int .i64 0, .int .i64 0]) ζ (fun _ => by kernel_rfl)) (jin U153 U3 k0 ζ ζ ζ ζ (jm ζ (ja ζ (jn (jx (jq (jr (jm ζ (js (jf F59_0 ζ) (js (jl k2 O3 ζ ζ) ?_))))))))))
  refine jfk (p := fun v => (v = .tuple #[.agg #[.int .i64 (limLo e.Op), .int .i64 (limHi e.Op)], .bool true] ∧ 1 ≤ e.Op ∧ e.Op ≤ 8) ∨ (v = .tuple #[.agg #[.int .i64 0, .int .i64 0], .bool false] ∧ ¬ (1 ≤ e.Op ∧ e.Op ≤ 8))) ⟨_, jlko U153 U3 J152 k0 ζ ζ, ltab e.Op⟩ ?_
  rintro v22 (⟨rfl, hop⟩ | ⟨rfl, hop⟩)
  refine jm ζ (js (jex' ζ ζ) (js (jex' ζ ζ) (jalc J152 ζ fun g6 => jsta k0 Z152 ζ ζ ζ ⟨ζ, ζ, trivial⟩ (saf ζ) (ja ζ (jn (jx (jq (jb (jq (jr ?_))))))))))
  refine jm ζ (js (jnot ζ) (jm ζ (jk ζ ζ (.f _) (jf F59_3 ζ) (jk ζ ζ (.f _) (jl k3 O22 ζ ζ) (jdq (rEnd.c_To d0) fun q1 w1 => jk ζ ζ (.f _) (jln U22 (rEnd.c_To d0) ζ) (jk ζ ζ (.f _) (jixa (i := 0) U152 Z3 ζ ζ ζ (by omega)) (jk ζ ζ (.f _) (jl k0 O3 ζ ζ) (jk ζ ζ (.f _) (jlss ζ ζ) (js (jor ζ ζ) (jm ζ ?_))))))))))
  refine jg ζ ζ (.f _) (fun hg => jf F59_3 ζ) (jg ζ ζ (.f _) (fun hg => jl k3 O22 (evg ζ hg) ζ) (jg ζ ζ (.f _) (fun hg => jln U22 (rEnd.c_To d0) (evg ζ hg)) (jg ζ ζ (.f _) (fun hg => jixa (i := 1) U152 Z3 ζ ζ ζ (by first | omega | (simp at hg; omega))) (jg ζ ζ (.f _) (fun hg => jl k0 O3 (evg ζ hg) ζ) (jg ζ ζ (.f _) (fun hg => jgtr (evg ζ hg) (evg ζ hg)) (js (jor ζ ζ) (ja ζ (jn (jx ?_)))))))))
  refine jif ζ (fun hc1 => ?_) (fun hc1 => ?_)
  try simp only [false_or, true_and] at hc1
  refine jq (jr (ja ζ (jn (jx (jrt (jbr (jtr ?_)))))))
  exact jrI ζ ζ (by first | (have ht : toM e = false := (by unfold toM; simp only [decide_eq_false_iff_not]; omega); unfold endE; rw [if_pos ht]; done) | (have ht : toM e = true := (by unfold toM; simp only [decide_eq_true_eq]; omega); unfold endE; rw [if_neg (by rw [ht]; decide)]; simp [*]; done))
  try simp only [false_or, true_and] at hc1
  refine jq (jr (js (jla k3 A59 Z59 ζ ζ ζ) (jcd E98 ζ ζ pNeeds_ct (dc d0 dn) kn fun v46 q2 w2 => jcv E92 ζ ζ pRegs_ct (dc d0 dn) kn (js (jnot ζ) (ja ζ (jn (jx ?_)))))))
  refine jif ζ (fun hc2 => ?_) (fun hc2 => ?_)
  refine jq (jr (ja ζ (jn (jx (jrt (jbr (jtr ?_)))))))
  exact jrI ζ ζ (by first | (have ht : toM e = false := (by unfold toM; simp only [decide_eq_false_iff_not]; omega); unfold endE; rw [if_pos ht]; done) | (have ht : toM e = true := (by unfold toM; simp only [decide_eq_true_eq]; omega); unfold endE; rw [if_neg (by rw [ht]; decide)]; simp [*]; done))
  refine jq (jr (js (jf F59_3 ζ) (js (jl k3 O22 ζ ζ) (js (jmf1 ζ) (jcp E99 ζ ζ (anyFInt_ct (badB n) E100 (fun x _ => Tr.it (pEnd1_ct x n) i0)) (dc (rEnd.c_To d1) (dc (db dn) dn)) (kc k2 kn) p1 (ja ζ (jn (jx ?_))))))))
  refine jif ζ (fun hc3 => ?_) (fun hc3 => ?_)
  refine jq (jr (ja ζ (jn (jx (jrt (jbr (jtr ?_)))))))
  exact jrI ζ ζ (by first | (have ht : toM e = false := (by unfold toM; simp only [decide_eq_false_iff_not]; omega); unfold endE; rw [if_pos ht]; done) | (have ht : toM e = true := (by unfold toM; simp only [decide_eq_true_eq]; omega); unfold endE; rw [if_neg (by rw [ht]; decide)]; simp [*]; done))
  refine jsk (jbn (jx (jq (jr (ja ζ (jn (jx (jrt ?_))))))))
  exact jrI ζ ζ (by first | (have ht : toM e = false := (by unfold toM; simp only [decide_eq_false_iff_not]; omega); unfold endE; rw [if_pos ht]; done) | (have ht : toM e = true := (by unfold toM; simp only [decide_eq_true_eq]; omega); unfold endE; rw [if_neg (by rw [ht]; decide)]; simp [*]; done))
  refine jm ζ (js (jex' ζ ζ) (js (jex' ζ ζ) (jalc J152 ζ fun g6_4 => jsta k0 Z152 ζ ζ ζ ⟨ζ, ζ, trivial⟩ (saf ζ) (ja ζ (jn (jx (jq (jb (jq (jr ?_))))))))))
  refine jm ζ (js (jnot ζ) (jm ζ (jg ζ ζ (.f _) (fun hg => jf F59_3 ζ) (jg ζ ζ (.f _) (fun hg => jl k3 O22 (evg ζ hg) ζ) (jdq (rEnd.c_To d0) fun q5 w5 => jg ζ ζ (.f _) (fun hg => jln U22 (rEnd.c_To d0) (evg ζ hg)) (jg ζ ζ (.f _) (fun hg => jixa (i := 0) U152 Z3 ζ ζ ζ (by first | omega | (simp at hg; omega))) (jg ζ ζ (.f _) (fun hg => jl k0 O3 (evg ζ hg) ζ) (jg ζ ζ (.f _) (fun hg => jlss (evg ζ hg) (evg ζ hg)) (js (jor ζ ζ) (jm ζ ?_))))))))))
  refine jg ζ ζ (.f _) (fun hg => jf F59_3 ζ) (jg ζ ζ (.f _) (fun hg => jl k3 O22 (evg ζ hg) ζ) (jg ζ ζ (.f _) (fun hg => jln U22 (rEnd.c_To d0) (evg ζ hg)) (jg ζ ζ (.f _) (fun hg => jixa (i := 1) U152 Z3 ζ ζ ζ (by first | omega | (simp at hg; omega))) (jg ζ ζ (.f _) (fun hg => jl k0 O3 (evg ζ hg) ζ) (jg ζ ζ (.f _) (fun hg => jgtr (evg ζ hg) (evg ζ hg)) (js (jor ζ ζ) (ja ζ (jn (jx ?_)))))))))
  refine jif ζ (fun hc4 => ?_) (fun hc4 => ?_)
  refine jq (jr (ja ζ (jn (jx (jrt (jbr (jtr ?_)))))))
  exact jrI ζ ζ (by first | (have ht : toM e = false := (by unfold toM; simp only [decide_eq_false_iff_not]; omega); unfold endE; rw [if_pos ht]; done) | (have ht : toM e = true := (by unfold toM; simp only [decide_eq_true_eq]; omega); unfold endE; rw [if_neg (by rw [ht]; decide)]; simp [*]; done))
  exact absurd hc4 (by simp)
theorem rTo_ct {a0 : Value} {e : D.End} : Tv Tryz.prog 145 #[vEnd e a0] [da rEnd (vEnd e a0) e] [] (.bool (toM e)) := by
  refine jenter (args := [vEnd e a0]) Tryz.func145 rfl rfl rfl fun w0 X => ?_
  refine jq (jr (jbox ζ ζ fun g1 => ja ζ (jn (jx (jq (jr (js (jf F59_3 ζ) (js (jl k0 O22 ζ ζ) (jdq (rEnd.c_To d0) fun q1 w1 => js (jln U22 (rEnd.c_To d0) ζ) ?_)))))))))
  refine ja ζ (jn (jx (jq (jq (jr (js (jf F59_0 ζ) (js (jl k0 O3 ζ ζ) (jn (jx (jb (jq ?_)))))))))))
  refine jr (js (jeql ζ ζ) (ja ζ (jn (jx ?_))))
  refine jif ζ (fun hc1 => ?_) (fun hc1 => ?_)
  refine jq (jr (jm ζ (js (jeql ζ ζ) (ja ζ (jn (jx (jrt (jbr (jtr ?_)))))))))
  exact jrB ζ ζ (by unfold toM limLo limHi; rw [Bool.eq_iff_iff]; simp only [decide_eq_true_eq, Bool.and_eq_true, Bool.false_eq_true, iff_false]; (repeat' split) <;> omega)
  refine jq (jq (jr (js (jeql ζ ζ) (ja ζ (jn (jx ?_))))))
  refine jif ζ (fun hc2 => ?_) (fun hc2 => ?_)
  refine jsk (jx ?_)
  refine jif ζ (fun hc3 => ?_) (fun hc3 => ?_)
  refine jq (jr (jm ζ (js (jeql ζ ζ) (ja ζ (jn (jx (jrt (jbr (jtr ?_)))))))))
  exact jrB ζ ζ (by unfold toM limLo limHi; rw [Bool.eq_iff_iff]; simp only [decide_eq_true_eq, Bool.and_eq_true, Bool.false_eq_true, iff_false]; (repeat' split) <;> omega)
  exact absurd hc3 (by simp [hc1, hc2])
  refine jq (jr (js (jeql ζ ζ) (ja ζ (jn (jx ?_)))))
  refine jif ζ (fun hc4 => ?_) (fun hc4 => ?_)
  refine jsk (jx ?_)
  refine jif ζ (fun hc5 => ?_) (fun hc5 => ?_)
  refine jq (jr (jm ζ (js (jeql ζ ζ) (ja ζ (jn (jx (jrt (jbr (jtr ?_)))))))))
  exact jrB ζ ζ (by unfold toM limLo limHi; rw [Bool.eq_iff_iff]; simp only [decide_eq_true_eq, Bool.and_eq_true, Bool.false_eq_true, iff_false]; (repeat' split) <;> omega)
  exact absurd hc5 (by simp [hc1, hc2, hc4])
  refine jq (jr (js (jeql ζ ζ) (ja ζ (jn (jx ?_)))))
  refine jif ζ (fun hc6 => ?_) (fun hc6 => ?_)
  refine jsk (jx ?_)
  refine jif ζ (fun hc7 => ?_) (fun hc7 => ?_)
  refine jq (jr (jm ζ (js (jeql ζ ζ) (ja ζ (jn (jx (jrt (jbr (jtr ?_)))))))))
  exact jrB ζ ζ (by unfold toM limLo limHi; rw [Bool.eq_iff_iff]; simp only [decide_eq_true_eq, Bool.and_eq_true, Bool.false_eq_true, iff_false]; (repeat' split) <;> omega)
  exact absurd hc7 (by simp [hc1, hc2, hc4, hc6])
  refine jr (js (jeql ζ ζ) (ja ζ (jn (jx ?_))))
  refine jif ζ (fun hc8 => ?_) (fun hc8 => ?_)
  refine jq (jr (jm ζ (js (jeql ζ ζ) (ja ζ (jn (jx (jrt (jbr (jtr ?_)))))))))
  exact jrB ζ ζ (by unfold toM limLo limHi; rw [Bool.eq_iff_iff]; simp only [decide_eq_true_eq, Bool.and_eq_true, Bool.false_eq_true, iff_false]; (repeat' split) <;> omega)
  refine jq (jr (js (jeql ζ ζ) (ja ζ (jn (jx ?_)))))
  refine jif ζ (fun hc9 => ?_) (fun hc9 => ?_)
  refine jq (jr (jm ζ (js (jgeq ζ ζ) (jm ζ (jg ζ ζ (.t _) (fun hg => jmv ζ) (jg ζ ζ (.t _) (fun hg => jleq (evg ζ hg) ζ) (js (jand ζ ζ) (ja ζ (jn (jx (jrt ?_)))))))))))
  refine jbr (jtr ?_)
  exact jrB ζ ζ (by unfold toM limLo limHi; rw [Bool.eq_iff_iff]; simp only [decide_eq_true_eq, Bool.and_eq_true, Bool.false_eq_true, iff_false]; (repeat' split) <;> omega)
  refine jq (jq (jr (js (jeql ζ ζ) (ja ζ (jn (jx ?_))))))
  refine jif ζ (fun hc10 => ?_) (fun hc10 => ?_)
  refine jsk (jx ?_)
  refine jif ζ (fun hc11 => ?_) (fun hc11 => ?_)
  refine jq (jr (jm ζ (js (jeql ζ ζ) (ja ζ (jn (jx (jrt (jbr (jtr ?_)))))))))
  exact jrB ζ ζ (by unfold toM limLo limHi; rw [Bool.eq_iff_iff]; simp only [decide_eq_true_eq, Bool.and_eq_true, Bool.false_eq_true, iff_false]; (repeat' split) <;> omega)
  exact absurd hc11 (by simp [hc1, hc2, hc4, hc6, hc8, hc9, hc10])
  refine jr (js (jeql ζ ζ) (ja ζ (jn (jx ?_))))
  refine jif ζ (fun hc12 => ?_) (fun hc12 => ?_)
  refine jq (jr (jm ζ (js (jeql ζ ζ) (ja ζ (jn (jx (jrt (jbr (jtr ?_)))))))))
  exact jrB ζ ζ (by unfold toM limLo limHi; rw [Bool.eq_iff_iff]; simp only [decide_eq_true_eq, Bool.and_eq_true, Bool.false_eq_true, iff_false]; (repeat' split) <;> omega)
  refine jsk (jbn (jx (jq (jr (ja ζ (jn (jx (jrt ?_))))))))
  exact jrB ζ ζ (by unfold toM limLo limHi; rw [Bool.eq_iff_iff]; simp only [decide_eq_true_eq, Bool.and_eq_true, Bool.false_eq_true, iff_false]; (repeat' split) <;> omega)
end Go.Proofs.YtdlcjaefkjbonaaGreat
namespace Go.Proofs.YtdlcjaefkjbonaaGreat
set_option linter.unusedVariables false
set_option linter.unusedSimpArgs false
set_option linter.unusedSectionVars false
open Go.JE
theorem E93 : Ent Tryz.prog 93 := ⟨_, Tryz.func93, by kernel_rfl, by kernel_rfl⟩
theorem E94 : Ent Tryz.prog 94 := ⟨_, Tryz.func94, by kernel_rfl, by kernel_rfl⟩
theorem E95 : Ent Tryz.prog 95 := ⟨_, Tryz.func95, by kernel_rfl, by kernel_rfl⟩
theorem E96 : Ent Tryz.prog 96 := ⟨_, Tryz.func96, by kernel_rfl, by kernel_rfl⟩
theorem F73_1 : Fld Tryz.prog 73 1 1 := ⟨_, _, Tryz.underlying73, rfl, rfl, 1, (by unfold Sz; kernel_rfl), by decide⟩
theorem F76_0 : Fld Tryz.prog 76 0 0 := ⟨_, _, Tryz.underlying76, rfl, rfl, 1, (by unfold Sz; kernel_rfl), by decide⟩
theorem F76_1 : Fld Tryz.prog 76 1 1 := ⟨_, _, Tryz.underlying76, rfl, rfl, 1, (by unfold Sz; kernel_rfl), by decide⟩
theorem O74 : One Tryz.prog 74 := ⟨_, Tryz.underlying74, rfl⟩
theorem regM_append : ∀ (a b : List Int), regM (a ++ b) = (regM a && regM b)
  | [], b => rfl
  | x :: a, b => by simp only [List.cons_append, regM]; split <;> simp [regM_append a b]
theorem regM_vals : ∀ (l : List D.In), regM (l.map (·.Val)) = !anyM l (fun x => !regM [x.Val])
  | [] => rfl
  | x :: l => by
    have ih := regM_vals l
    unfold anyM at ih ⊢
    rw [List.map_cons, show x.Val :: l.map (·.Val) = [x.Val] ++ l.map (·.Val) from rfl, regM_append, ih, List.any_cons, Bool.not_or, Bool.not_not]
theorem regM_phi (d : Int) (l : List D.In) : regM (d :: l.map (·.Val)) = (regM [d] && !anyM l (fun x => !regM [x.Val])) := by
  rw [show d :: l.map (·.Val) = [d] ++ l.map (·.Val) from rfl, regM_append, regM_vals]
theorem phi_lo {p : D.Phi} {lo : List Int} {j : Nat} (hlo : lo = p.Dst :: (p.In.take j).map (·.Val)) (hj : p.In.length ≤ j) : regM lo = (regM [p.Dst] && !anyM p.In (fun x => !regM [x.Val])) := by
  rw [hlo, List.take_of_length_le hj, regM_phi]
theorem phiE_bad {p : D.Phi} {lo : List Int} {j : Nat} {ah : List D.Phi} (hlo : lo = p.Dst :: (p.In.take j).map (·.Val)) (hj : p.In.length ≤ j) (h : regM lo = false) : phiE p ah = 31 := by
  rw [phi_lo hlo hj, Bool.and_eq_false_iff] at h
  unfold phiE; rw [if_pos (by rcases h with h | h; (· exact .inl h); exact .inr (by simpa using h))]
theorem phiE_good {p : D.Phi} {lo : List Int} {j : Nat} {ah : List D.Phi} (hlo : lo = p.Dst :: (p.In.take j).map (·.Val)) (hj : p.In.length ≤ j) (h : regM lo = true) : phiE p ah = if anyM ah (fun x => decide (x.Dst = p.Dst)) = true then 12 else 0 := by
  rw [phi_lo hlo hj, Bool.and_eq_true] at h
  unfold phiE; rw [if_neg (by rw [h.1]; simpa using h.2)]
theorem phiE_hit {p : D.Phi} {lo : List Int} {j : Nat} {ah : List D.Phi} (hlo : lo = p.Dst :: (p.In.take j).map (·.Val)) (hj : p.In.length ≤ j) (h : regM lo = true) (h2 : anyM ah (fun x => decide (x.Dst = p.Dst)) = true) : phiE p ah = 12 := by
  rw [phiE_good hlo hj h, if_pos h2]
theorem phiE_ok {p : D.Phi} {lo : List Int} {j : Nat} {ah : List D.Phi} (hlo : lo = p.Dst :: (p.In.take j).map (·.Val)) (hj : p.In.length ≤ j) (h : regM lo = true) (h2 : anyM ah (fun x => decide (x.Dst = p.Dst)) = false) : phiE p ah = 0 := by
  rw [phiE_good hlo hj h, if_neg (by rw [h2]; decide)]
theorem any_hit {α : Type} [Inhabited α] {l : List α} {q : α → Bool} {k : Nat} (hk : k < l.length) (h1 : q (ix l k) = true) : anyM l q = true := List.any_eq_true.2 ⟨_, ix_mem hk, h1⟩
theorem any_no {α : Type} {l : List α} {q : α → Bool} (h : ∀ x ∈ l, q x = false) : anyM l q = false := by unfold anyM; rw [List.any_eq_false]; intro x hx; simp [h x hx]
theorem ix_take {α : Type} [Inhabited α] {l : List α} {i n : Nat} (h : i < n) : ix (l.take n) i = ix l i := by simp [ix, List.getD, h]
def rPhiM (l : List D.Phi) (n : Int) : Int := phiE (ix l (Int.toNat n)) (l.take (Int.toNat n))
theorem pPhi1_ct {x : D.In} : Tv Tryz.prog 94 #[vIn x ()] [da rIn (vIn x ()) x] [] (.bool ((fun x : D.In => !regM [x.Val]) x)) := by
  refine jenter (args := [vIn x ()]) Tryz.func94 rfl rfl rfl fun w0 X => ?_
  refine jq (jr (jbox ζ ζ fun g1 => ja ζ (jn (jx (jq (jr (js (jf F73_1 ζ) (js (jl k0 O3 ζ ζ) (jlit (r := (rI .i64)) (l := [x.Val]) U22 I3 (by decide) ζ ζ ζ (lV ζ ζ (wI (rIn.W_Val d0)) ln) fun g5 => jc E92 ζ ζ (Tv.temp 1073741824 pRegs_ct (by (try simp) <;> omega)) dn (kc k0 kn) (fun _ => p0) (fun _ => p1) fun _ => ?_)))))))))
  refine js (jnot ζ) (ja ζ (jn (jx (jrt ?_))))
  exact jrB ζ ζ (by rfl)
theorem pPhi2_ct {a0 : Value} {x : D.Phi} {d : Int} {c : Value} {g1 : Nat} : Tr Tryz.prog 96 #[vPhi x a0, .pointer (some ⟨g1, 0, none⟩)] [da rPhi (vPhi x a0) x] [bx g1 76 [.int .i64 d, c]] (fun _ : Unit => .bool ((fun (d : Int) (x : D.Phi) => decide (x.Dst = d)) d x)) (fun _ => []) (fun _ _ => [bx g1 76 [.int .i64 d, c]]) := by
  refine jenter (args := [vPhi x a0, .pointer (some ⟨g1, 0, none⟩)]) Tryz.func96 rfl rfl rfl fun w0 X => ?_
  refine jq (jr (jbox ζ ζ fun g2 => ja ζ (jn (jx (jq (jr (js (jf F76_0 ζ) (js (jl k0 O3 ζ ζ) (js (jf F76_0 ζ) (js (jl k1 O3 ζ ζ) ?_))))))))))
  refine js (jeql ζ ζ) (ja ζ (jn (jx (jrt ?_))))
  exact jr1 ζ ζ () (congrArg Value.bool (Eq.symm (by rfl))) dn (fun _ _ => (kc k1 kn))
theorem pPhi_ct {a0 : Value} {p : D.Phi} {a1 : Value} {ahead : List D.Phi} : Tv Tryz.prog 46 #[vPhi p a0, a1] [da rPhi (vPhi p a0) p, dv (rL rPhi) a1 ahead] [] (.int .i64 (phiE p ahead)) := by
  refine jenter (args := [vPhi p a0, a1]) Tryz.func46 rfl rfl rfl fun w0 X => ?_
  refine jq (jr (jbox ζ ζ fun g2 => ja ζ (jn (jx (jq (jq (jr (js (jf F76_0 ζ) (js (jl k0 O3 ζ ζ) (jlit (r := (rI .i64)) (l := [p.Dst]) U22 I3 (by decide) ζ ζ ζ (lV ζ ζ (wI (rPhi.W_Dst d0)) ln) fun g7 => ?_))))))))))
  refine jc E92 ζ ζ (Tv.temp 1073741824 pRegs_ct (by (try simp) <;> omega)) dn (kc k0 kn) (fun _ => p0) (fun _ => p1) fun _ => js (jnot ζ) (jm ζ (jg ζ ζ (.f _) (fun hg => jf F76_1 ζ) (jg ζ ζ (.f _) (fun hg => jl k1 O74 (evg ζ hg) ζ) (jdq (rPhi.c_In d0) fun q1 w1 => jgcp ζ ζ (.f _) E93 ζ (fun hg => evl2 (evg ζ hg) ζ) (fun hg => (anyFIn_ct (fun x : D.In => !regM [x.Val]) E94 (fun x _ c => Tr.it pPhi1_ct ir))) (fun hg => (dc (rPhi.c_In d0) (dc (db dn) dn))) kn p0 (js (jor ζ ζ) (jn (jx ?_)))))))
  refine jif ζ (fun hc1 => ?_) (fun hc1 => ?_)
  refine jq (jr (ja ζ (jn (jx (jrt (jtr ?_))))))
  exact jrI ζ ζ (by unfold phiE; simp [*]; done)
  refine jsk (jx (jq (jq (jr (jm ζ (js (jmf1 ζ) (jdq d1 fun q2 w2 => jcp E95 ζ ζ (anyFPhi_ct (fun x : D.Phi => decide (x.Dst = p.Dst)) E96 (fun x _ c => Tr.it pPhi2_ct ir)) (dc d1 (dc (db dn) dn)) (kc k1 kn) p1 (jn (jx ?_)))))))))
  refine jif ζ (fun hc2 => ?_) (fun hc2 => ?_)
  refine jq (jr (ja ζ (jn (jx (jrt (jtr ?_))))))
  exact jrI ζ ζ (by unfold phiE; simp [*]; done)
  refine jsk (jx (jq (jr (ja ζ (jn (jx (jrt ?_)))))))
  exact jrI ζ ζ (by unfold phiE; simp [*]; done)
set_option maxRecDepth 4000 in
theorem rPhi_ct {a0 : Value} {l : List D.Phi} (n : Int) (hn : 0 ≤ n ∧ n < l.length) : Tv Tryz.prog 116 #[a0, .int .i64 n] [dv (rL rPhi) a0 l] [] (.int .i64 (rPhiM l n)) := by
  refine jenter (args := [a0, .int .i64 n]) Tryz.func116 rfl rfl rfl fun w0 X => ?_
  refine jq (jr (ja ζ (jn (jx (jq (jr (jm ζ (jm ζ (jdq d0 fun q1 w1 => js (jix (i := (Int.toNat n)) U68 Z76 d0 ζ ζ (by omega) (by omega)) (js (jf F76_0 ζ) ?_))))))))))
  refine js (jlI (rPhi.A_Dst (dix d0 (Int.toNat n) (by omega))) O3 ζ) (jlit (r := (rI .i64)) (l := [(ix l (Int.toNat n)).Dst]) U22 I3 (by decide) ζ ζ ζ (lV ζ ζ (wI (wad (rPhi.A_Dst (dix d0 (Int.toNat n) (by omega))))) ln) fun g13 => ja ζ (jn (jx (jq (jq (jr (ja ζ (jn (jx (jb ?_))))))))))
  refine jlp (u3 fun (j : Nat) (vo : Value) (lo : List Int) => ⟨j ≤ (ix l (Int.toNat n)).In.length ∧ lo = (ix l (Int.toNat n)).Dst :: ((ix l (Int.toNat n)).In.take j).map (·.Val), [dv (rL rPhi) a0 l], [gl X.n (rI .i64) 3 vo lo], [(0, a0), (1, .int .i64 n), (4, .int .i64 0), (5, vo), (6, .int .i64 (↑j))], (ix l (Int.toNat n)).In.length - j⟩) (0, (.slice (some ⟨g13, 0, none⟩) 1 1), [(ix l (Int.toNat n)).Dst]) ⟨by dsimp only; omega, rfl⟩ (dc d0 dn) (kc k0 kn) ⟨ζ, ζ, ζ, ζ, eqI (by omega), trivial⟩ ?_
  rintro ⟨j, vo, lo⟩; dsimp only [u3]; rintro ⟨hj, hlo⟩
  refine cgo k0 fun w2 => ?_
  have hll : lo.length = j + 1 := by rw [hlo]; simp; omega
  refine jq (jq (jr (jm ζ (jm ζ (jm ζ (js (jix (i := (Int.toNat n)) U68 Z76 d0 ζ ζ (by omega) (by omega)) (js (jf F76_1 ζ) (jev (jlV (rPhi.A_In (dix d0 (Int.toNat n) (by omega))) O74 ζ ζ) fun v19 q3 w3 => js (jln U74 d0 ζ) (js (jlss ζ ζ) (jn ?_))))))))))
  refine jx ?_
  refine jif ζ (fun hc1 => ?_) (fun hc1 => ?_)
  refine jsk (jx (jq (jb (jr (jm ζ (jm ζ (jm ζ (js (jix (i := (Int.toNat n)) U68 Z76 d1 ζ ζ (by omega) (by omega)) (js (jf F76_1 ζ) (jev (jlV (rPhi.A_In (dix d1 (Int.toNat n) (by omega))) O74 ζ ζ) fun v29 q5 w5 => jm ζ ?_))))))))))
  refine js (jix U74 Z73 d0 ζ ζ ζ (by omega)) (js (jf F73_1 ζ) (js (jlI (rIn.A_Val (dix d0 j (by omega))) O3 ζ) (japv U22 I3 (by decide) ζ ζ k0 ζ (wI (wad (rIn.A_Val (dix d0 j (by omega))))) (by omega) (fun _ => ζ) fun v35 _ w7 => ja ζ (jn (jbn (jx (jr (jm ζ (js (jadd ζ ζ (by omega)) (ja ζ ?_))))))))))
  refine jn ?_
  exact jag (j + 1, v35, lo ++ [(ix ((ix l (Int.toNat n)).In) j).Val]) ⟨by dsimp only; omega, by dsimp only; rw [hlo, take_ix (by omega), List.map_append]; rfl⟩ (dc d2 dn) (kc k0 kn) ⟨ζ, ζ, ζ, ζ, eqI (by omega), trivial⟩
  refine jex (jtx (jtx (jbh (jx (jq (jq (jr (jm ζ (jc E141 ζ ζ (Tv.temp 4294967296 rReg_ct (by omega)) dn (kc k0 kn) (fun _ => p0) (fun _ => p1) fun _ => js (jnot ζ) (jn ?_))))))))))
  refine jx ?_
  refine jif ζ (fun hc2 => ?_) (fun hc2 => ?_)
  refine jq (jr (ja ζ (jn (jx (jrt (jtr ?_))))))
  exact jrI ζ ζ (by first | exact phiE_bad hlo (by omega) hc2 | exact phiE_hit hlo (by omega) hc2 (any_hit (k := i) (by simp; omega) (by rw [ix_take (by omega)]; exact decide_eq_true hc4)) | exact phiE_ok hlo (by omega) hc2 (any_no (by rw [List.take_of_length_le (by simp; omega)] at hno; exact hno)))
  refine jsk (jx (jq (jq (jr (ja ζ (jn (jx (jb ?_))))))))
  refine jlp (fun (i : Nat) => ⟨(i : Int) ≤ n ∧ (∀ x ∈ (l.take (Int.toNat n)).take i, decide (x.Dst = (ix l (Int.toNat n)).Dst) = false), [dv (rL rPhi) a0 l], [], [(0, a0), (1, .int .i64 n), (7, .int .i64 (↑i))], (Int.toNat n) - i⟩) 0 ⟨by omega, by simp⟩ (dc d1 dn) kn ⟨ζ, ζ, eqI (by omega), trivial⟩ ?_
  rintro i; dsimp only; rintro ⟨hi, hno⟩
  refine jq (jq (jr (jm ζ (jm ζ (js (jlss ζ ζ) (jn (jx ?_)))))))
  refine jif ζ (fun hc3 => ?_) (fun hc3 => ?_)
  refine jsk (jx (jq (jb (jq (jstl Mixed (by kernel_rfl) (jt (jmv ζ) (jt (jmv ζ) (jt (jix U68 Z76 d0 ζ ζ ζ (by omega)) (jt (jf F76_0 ζ) (jt (jlI (rPhi.A_Dst (dix d0 i (by omega))) O3 ζ) (jt (jmv ζ) ?_)))))))))))
  refine jt (jmv ζ) (jt (jix (i := (Int.toNat n)) U68 Z76 d0 ζ ζ (by omega) (by omega)) (jt (jf F76_0 ζ) (jt (jlI (rPhi.A_Dst (dix d0 (Int.toNat n) (by omega))) O3 ζ) (jt (jeql ζ ζ) (jdn (jx ?_))))))
  refine jif ζ (fun hc4 => ?_) (fun hc4 => ?_)
  refine jq (jr (ja ζ (jn (jx (jrt (jbr (jtr (jtr (jbr (jtr ?_))))))))))
  exact jrI ζ ζ (by first | exact phiE_bad hlo (by omega) hc2 | exact phiE_hit hlo (by omega) hc2 (any_hit (k := i) (by simp; omega) (by rw [ix_take (by omega)]; exact decide_eq_true hc4)) | exact phiE_ok hlo (by omega) hc2 (any_no (by rw [List.take_of_length_le (by simp; omega)] at hno; exact hno)))
  refine jsk (jbn (jx (jr (jm ζ (js (jadd ζ ζ (by omega)) (ja ζ (jn ?_)))))))
  exact jag (i + 1) ⟨by omega, no_snoc (by simp; omega) hno (by rw [ix_take (by omega)]; exact decide_eq_false hc4)⟩ (dc d0 dn) kn ⟨ζ, ζ, eqI (by omega), trivial⟩
  refine jex (jtx (jtx (jbh (jx (jq (jr (ja ζ (jn (jx (jrt ?_))))))))))
  exact jrI ζ ζ (by first | exact phiE_bad hlo (by omega) hc2 | exact phiE_hit hlo (by omega) hc2 (any_hit (k := i) (by simp; omega) (by rw [ix_take (by omega)]; exact decide_eq_true hc4)) | exact phiE_ok hlo (by omega) hc2 (any_no (by rw [List.take_of_length_le (by simp; omega)] at hno; exact hno)))
end Go.Proofs.YtdlcjaefkjbonaaGreat
namespace Go.JE
set_option linter.unusedVariables false
set_option linter.unusedSimpArgs false
set_option linter.unusedSectionVars false
variable {P : Program} {D D0 D1 E : List Dt} {L M N Ls L0 Rs : List Res} {e : Env} {X : Cx} {n : Fs} {w0 : World} {Q : Exit → Act → World → Prop} {F G : PH} {H : Heap} {R : Res} {i k : Nat}
theorem Own.focus : ∀ {Rs : List Res} {i : Nat} (hi : i < Rs.length), Own Rs k ↔ Own (Rs[i] :: Rs.set i (it [])) k
  | R :: Rs, 0, _ => ⟨fun h => h.imp id .inr, fun h => h.imp id (·.resolve_left id)⟩
  | R :: Rs, i + 1, hi => by
    have ih := Own.focus (Rs := Rs) (i := i) (by simpa using hi)
    simp only [Own, List.getElem_cons_succ, List.set_cons_succ] at ih ⊢
    rw [ih]
    constructor
    · rintro (h | h | h)
      · exact .inr (.inl h)
      · exact .inl h
      · exact .inr (.inr h)
    · rintro (h | h | h)
      · exact .inr (.inl h)
      · exact .inl h
      · exact .inr (.inr h)
theorem Ok.focus : ∀ {Rs : List Res} {i : Nat} (hi : i < Rs.length), Ok F H Rs ↔ Ok F H (Rs[i] :: Rs.set i (it []))
  | R :: Rs, 0, _ => ⟨fun ⟨a, b, c⟩ => ⟨a, fun k h ho => b k h (ho.resolve_left id), trivial, fun _ h => h.elim, c⟩, fun ⟨a, b, _, _, c⟩ => ⟨a, fun k h ho => b k h (.inr ho), c⟩⟩
  | R :: Rs, i + 1, hi => by
    have hi' : i < Rs.length := by simpa using hi
    have ih := Ok.focus (Rs := Rs) (i := i) hi'
    simp only [List.getElem_cons_succ, List.set_cons_succ]
    constructor
    · rintro ⟨a, b, c⟩
      obtain ⟨x, y, z⟩ := ih.1 c
      refine ⟨x, ?_, a, fun k hk ho => b k hk ((Own.focus hi').2 (.inr ho)), z⟩
      rintro k hk (ho | ho)
      · exact b k ho ((Own.focus hi').2 (.inl hk))
      · exact y k hk ho
    · rintro ⟨x, y, a, b, z⟩
      refine ⟨a, fun k hk ho => ?_, ih.2 ⟨x, fun k hk ho => y k hk (.inr ho), z⟩⟩
      rcases (Own.focus hi').1 ho with h | h
      · exact y k h (.inl hk)
      · exact b k hk h
theorem Hp.focus (h : Hp X D (it Rs :: M) F H) (hi : i < Rs.length) : Hp X D (Rs[i] :: it (Rs.set i (it [])) :: M) F H := by
  have o := Ok.un.1 h.ok
  refine ⟨h.hx, h.hin, h.hw, h.hd, ?_, fun k hk => ?_⟩
  · obtain ⟨a, b, c⟩ := h.ok
    obtain ⟨x, y, z⟩ := (Ok.focus hi).1 a
    exact ⟨x, fun k hk ho => ho.elim (y k hk) (b k ((Own.focus hi).2 (.inl hk))), z, fun k hk => b k ((Own.focus hi).2 (.inr hk)), c⟩
  · rcases hk with hk | hk | hk
    · exact h.ge k (.inl ((Own.focus hi).2 (.inl hk)))
    · exact h.ge k (.inl ((Own.focus hi).2 (.inr hk)))
    · exact h.ge k (.inr hk)
theorem Hp.unfocus (h : Hp X D (R :: it (Rs.set i (it [])) :: M) F H) (hi : i < Rs.length) : Hp X D (it (Rs.set i R) :: M) F H := by
  have hi2 : i < (Rs.set i R).length := by simpa using hi
  have e1 : (Rs.set i R)[i] = R := by simp
  have e2 : (Rs.set i R).set i (it []) = Rs.set i (it []) := by simp
  refine ⟨h.hx, h.hin, h.hw, h.hd, ?_, fun k hk => ?_⟩
  · obtain ⟨a, b, c, d, f⟩ := h.ok
    refine ⟨(Ok.focus hi2).2 (by rw [e1, e2]; exact ⟨a, fun k hk ho => b k hk (.inl ho), c⟩), fun k hk => ?_, f⟩
    have hk' := (Own.focus hi2).1 hk
    rw [e1, e2] at hk'
    exact hk'.elim (fun h1 h2 => b k h1 (.inr h2)) (d k)
  · rcases hk with hk | hk
    · have hk' := (Own.focus hi2).1 hk
      rw [e1, e2] at hk'
      exact hk'.elim (fun h1 => h.ge k (.inl h1)) (fun h1 => h.ge k (.inr (.inl h1)))
    · exact h.ge k (.inr (.inr hk))
theorem Hp.front (h : Hp X D L F H) (hk : Tk L R M) : Hp X D (R :: M) F H := ⟨h.hx, h.hin, h.hw, h.hd, hk.ok h.ok, fun k h1 => h.ge k (hk.own h1)⟩
def rV : Rp Value where
  sz := 1
  agg := false
  ok _ u f := f 0 = u ∧ u.oneCell' = true
  up _ h := h
  ext he h := by rw [← he 0 (by omega)]; exact h
  one h i hi := by rw [show i = 0 by omega, h.1]; exact h.2
theorem wV {u : Value} (h : u.oneCell' = true) : Nd D L (dv rV u u) := fun _ _ _ _ _ => ⟨rfl, h⟩
section
variable {α : Type} {r : Rp α} {T To : TypeId} {B : Nat} {v u v' : Value} {vs : List Value} {ls : List (List α)} {l l' : List α}
def rws (B : Nat) (r : Rp α) (T : TypeId) (vs : List Value) (ls : List (List α)) : List Res := List.zipWith (gl B r T) vs ls
theorem zip_set {β γ δ : Type} (f : β → γ → δ) : ∀ (a : List β) (b : List γ) (i : Nat) (x : β) (y : γ), (List.zipWith f a b).set i (f x y) = List.zipWith f (a.set i x) (b.set i y)
  | [], _, _, _, _ => by simp
  | _ :: _, [], i, _, _ => by cases i <;> simp
  | _ :: _, _ :: _, 0, _, _ => rfl
  | _ :: a, _ :: b, i + 1, x, y => by simp [zip_set f a b i x y]
def hole (i : Nat) (B : Nat) (r : Rp α) (T : TypeId) (vs : List Value) (ls : List (List α)) : Res := it ((rws B r T vs ls).set i (it []))
abbrev rw' (B : Nat) (r : Rp α) (T : TypeId) (vs : List Value) (ls : List (List α)) : Res := it (rws B r T vs ls)
section
variable {ops : Array Oper} {rest : List Oper} {c : Code} {m : Nat}
theorem rws_ix (h1 : i < vs.length) (h2 : i < ls.length) : ∃ h, (rws B r T vs ls)[i]'h = gl B r T (vs.getD i undef) (ls.getD i []) :=
  ⟨by simp [rws]; omega, by simp [rws, h1, h2]⟩
theorem Hp.row (hp : Hp X D L F H) (hk : Tk L (rw' B r T vs ls) M) (h1 : i < vs.length) (h2 : i < ls.length) : Hp X D (gl B r T (vs.getD i undef) (ls.getD i []) :: hole i B r T vs ls :: M) F H := by
  obtain ⟨h3, h4⟩ := rws_ix (B := B) (r := r) (T := T) h1 h2
  have := (hp.front hk).focus h3
  rw [h4] at this; exact this
theorem Hp.unrow (hp : Hp X D (gl B r T v' l' :: hole i B r T vs ls :: M) F H) (h1 : i < vs.length) (h2 : i < ls.length) : Hp X D (rw' B r T (vs.set i v') (ls.set i l') :: M) F H := by
  obtain ⟨h3, _⟩ := rws_ix (B := B) (r := r) (T := T) h1 h2
  have := hp.unfocus h3
  unfold rws at this
  rw [zip_set] at this; exact this
theorem jro (i : Nat) (hk : Tk L (rw' B r T vs ls) M) (h1 : i < vs.length) (h2 : i < ls.length) (k : LH P n w0 ops Q X D (gl B r T (vs.getD i undef) (ls.getD i []) :: hole i B r T vs ls :: M) e rest) : LH P n w0 ops Q X D L e rest := fun F H hp => k F H (hp.row hk h1 h2)
theorem jru (hk : Tk L (gl B r T v' l') M) (hk2 : Tk M (hole i B r T vs ls) N) (h1 : i < vs.length) (h2 : i < ls.length) (k : LH P n w0 ops Q X D (rw' B r T (vs.set i v') (ls.set i l') :: N) e rest) : LH P n w0 ops Q X D L e rest := fun F H hp => by
  have h3 := hp.front hk
  have h4 : Hp X D (gl B r T v' l' :: hole i B r T vs ls :: N) F H := ⟨h3.hx, h3.hin, h3.hw, h3.hd, by
      obtain ⟨a, b, c⟩ := h3.ok
      obtain ⟨x, y, z⟩ := hk2.ok c
      exact ⟨a, fun k hk ho => b k hk (hk2.own ho), x, y, z⟩, fun k hk => hk.elim (fun h => h3.ge k (.inl h)) (fun h => h3.ge k (.inr (hk2.own h)))⟩
  exact k F H (h4.unrow h1 h2)
theorem set_same {β : Type} (l : List β) (i : Nat) (z : β) : l.set i (l.getD i z) = l := by
  by_cases h : i < l.length
  · simp [List.getD, h]
  · rw [List.set_eq_of_length_le (by omega)]
theorem jrx (hk : Tk L (gl B r T (vs.getD i undef) (ls.getD i [])) M) (hk2 : Tk M (hole i B r T vs ls) N) (h1 : i < vs.length) (h2 : i < ls.length) (k : LH P n w0 ops Q X D (rw' B r T vs ls :: N) e rest) : LH P n w0 ops Q X D L e rest :=
  jru hk hk2 h1 h2 (by rw [set_same, set_same]; exact k)
theorem jrn (m : Nat) (k : LH P n w0 ops Q X D (rw' X.n r T (List.replicate m (.slice none 0 0)) (List.replicate m []) :: L) e rest) : LH P n w0 ops Q X D L e rest := fun F H hp => by
  have h1 : ∀ m k, ¬ Own (rws X.n r T (List.replicate m (.slice none 0 0)) (List.replicate m [])) k := by
    intro m k
    induction m with
    | zero => exact id
    | succ m ih => exact fun h => h.elim (fun h => by cases h) ih
  have h2 : ∀ m, Ok F H (rws X.n r T (List.replicate m (.slice none 0 0)) (List.replicate m [])) := by
    intro m
    induction m with
    | zero => trivial
    | succ m ih => exact ⟨⟨Gl.nil _ _ _, hp.hw.1⟩, (fun k h => by cases h), ih⟩
  exact k F H (hp.new (R := rw' X.n r T (List.replicate m (.slice none 0 0)) (List.replicate m [])) (Kp.refl _ _) (h2 m) (fun k h => (h1 m k h).elim))
theorem jgW {x : Operand} (hk : Tk L (gl B rV To v vs) M) (hi : i < vs.length) (hT : One P T) (hx : ev e x = some (.pointer (some ⟨vblk v, voff v + i * 1, none⟩))) : OH P D L e (.load T x) (vs.getD i undef) := fun F H _ _ h => by
  obtain ⟨u, h1, h2⟩ := OpOk.ldGV (hk.ok h).1.1 hi hT rfl hx
  have e1 : u = vs.getD i undef := h2.1
  exact e1 ▸ h1
theorem rws_freeze : ∀ {vs : List Value} {ls : List (List α)} {F : PH}, InH F H → Ok F H (rws B r T vs ls) → vs.length = ls.length → (∀ l ∈ ls, l.length < 1073741824) → ∃ G, F.le G ∧ InH G H ∧ (∀ k, k < B → G k = F k) ∧ (∀ k, ¬ Own (rws B r T vs ls) k → G k = F k) ∧ ∀ i (h1 : i < vs.length) (h2 : i < ls.length), (rL r).rv G vs[i] ls[i]
  | [], [], F, hin, _, _, _ => ⟨F, PH.le.refl F, hin, fun _ _ => rfl, fun _ _ => rfl, fun i h1 => by cases h1⟩
  | v :: vs, l :: ls, F, hin, ⟨⟨a, a2⟩, b, c⟩, hl, hM => by
    obtain ⟨G, h1, h2, h3, h4, h5⟩ := a.freeze (N := 1073741824) hin (hM l (.head _))
    have c' : Ok G H (rws B r T vs ls) := c.st h1 (Nat.le_refl _) (fun k hk => (h4 k (fun e1 => b k e1 hk)).trans (c.no hk)) (fun _ _ => rfl)
    obtain ⟨K, g1, g2, g3, g4, g5⟩ := rws_freeze h2 c' (by simpa using hl) (fun l hl => hM l (.tail _ hl))
    refine ⟨K, h1.trans g1, g2, fun k hk => (g3 k hk).trans (h3 k hk), fun k hk => (g4 k (fun h => hk (.inr h))).trans (h4 k (fun h => hk (.inl h))), fun i => ?_⟩
    cases i with
    | zero => exact fun _ _ => Rp.rv.up h5 g1
    | succ i => exact fun h1 h2 => g5 i (by simpa using h1) (by simpa using h2)
  | [], _ :: _, _, _, _, hl, _ => by cases hl
  | _ :: _, [], _, _, _, hl, _ => by cases hl
theorem rows_rv (h : (rLn m rV).rv F v vs) (hl : vs.length = ls.length) (hr : ∀ i (h1 : i < vs.length) (h2 : i < ls.length), (rL r).rv F vs[i] ls[i]) : (rLn m (rL r)).rv F v ls := by
  obtain ⟨a, b, c, d, f, g, g', x, y⟩ := h
  refine ⟨hl ▸ a, b, c, hl ▸ d, hl ▸ f, fun i hi => g i (by rw [hl]; exact hi), g', fun i hi => x i (by rw [hl]; exact hi), fun i hi => ?_⟩
  have hi' : i < vs.length := hl ▸ hi
  have h1 := hr i hi' hi
  have h2 := y i hi'
  refine (rL r).ext (fun j hj => ?_) h1
  rw [show j = 0 from Nat.lt_one_iff.1 hj]
  exact h2.1.symm
theorem Hp.freezes (hp : Hp X D L F H) (hk : Tk L (gl X.n rV To v vs) M) (hk2 : Tk M (rw' X.n r T vs ls) N) (hl : vs.length = ls.length) (h0 : ls.length < 1073741824) (hM : ∀ l ∈ ls, l.length < 1073741824) : ∃ G, Hp X (dv (rL (rL r)) v ls :: D) N G H := by
  have h1 := hp.front hk
  obtain ⟨o1, o2, o3⟩ := h1.ok
  obtain ⟨q1, q2, q3⟩ := hk2.ok o3
  have o1' : Gl rV To F H X.n v vs := o1.1
  obtain ⟨G, f1, f2, f3, f4, f5⟩ := o1'.freeze (N := 1073741824) hp.hin (by omega)
  have q1' : Ok G H (rws X.n r T vs ls) := Ok.st f1 (Nat.le_refl _) (fun k hk => (f4 k (fun e1 => o2 k e1 (hk2.own (.inl hk)))).trans (Ok.no (L := rws X.n r T vs ls) q1 hk)) (fun _ _ => rfl) q1
  obtain ⟨K, g1, g2, g3, g4, g5⟩ := rws_freeze f2 q1' hl hM
  have h6 : ∀ k, Own N k → K k = F k := fun k hk1 => (g4 k (fun h => q2 k h hk1)).trans (f4 k (fun e1 => o2 k e1 (hk2.own (.inr hk1))))
  have hx2 : ∀ k, k < X.n → K k = F k := fun k hk1 => (g3 k hk1).trans (f3 k hk1)
  refine ⟨K, ⟨hp.hx.1.trans (f1.trans g1), fun k hk1 => (hx2 k hk1).trans (hp.hx.2 k hk1)⟩, g2, hp.hw, ⟨rows_rv (Rp.rv.up f5 g1) hl g5, hp.hd.up (f1.trans g1)⟩, q3.st (f1.trans g1) (Nat.le_refl _) (fun k hk1 => (h6 k hk1).trans (q3.no hk1)) (fun _ _ => rfl), fun k hk1 => h1.ge k (.inr (hk2.own (.inr hk1)))⟩
theorem cfr (hk : Tk L (gl X.n rV To v vs) M) (hk2 : Tk M (rw' X.n r T vs ls) N) (hl : vs.length = ls.length) (h0 : ls.length < 1073741824) (hM : ∀ l ∈ ls, l.length < 1073741824) (k : CH P n w0 Q X (dv (rL (rL r)) v ls :: D) N e c) : CH P n w0 Q X D L e c := fun F H hp => by
  obtain ⟨G, h⟩ := hp.freezes hk hk2 hl h0 hM; exact k G H h
theorem qfr {z : Exit} (hk : Tk L (gl X.n rV To v vs) M) (hk2 : Tk M (rw' X.n r T vs ls) N) (hl : vs.length = ls.length) (h0 : ls.length < 1073741824) (hM : ∀ l ∈ ls, l.length < 1073741824) (k : QH n w0 Q X (dv (rL (rL r)) v ls :: D) N e z) : QH n w0 Q X D L e z := fun F H hp => by
  obtain ⟨G, h⟩ := hp.freezes hk hk2 hl h0 hM; exact k G H h
end
end
end Go.JE
