/- Lemmas that the claim is made of. Conditions: each lemma names its own. -/
import Derived.Test.YtehhjlkmbdhckaaGreatKC13
import Derived.Test.YtehhjlkmbdhckaaGreatKC11
namespace Go.Proofs.YtehhjlkmbdhckaaGreat
set_option linter.unusedVariables false
set_option linter.unusedSimpArgs false
set_option linter.unusedSectionVars false
open Go.JE
set_option maxRecDepth 4000
theorem rNeedsG_ct {a0 : Value} {e : D.End} : Tg Tryz.prog 43 #[vEnd e a0] [da rEnd (vEnd e a0) e] [] (rI .i64) 3 (needsM e) := by
  refine jenter (args := [vEnd e a0]) Tryz.func43 rfl rfl rfl fun w0 X => ?_
  refine jq (jr (jbox Z Z fun g1 => ja Z (jn (jx (jq (jq (jr (js (jf F35_0 Z) (js (jl k0 O3 Z Z) (jn ?_))))))))))
  refine jx (jb (jq (jq (jr (js (jeql Z Z) (ja Z (jn (jx ?_))))))))
  refine jif Z (fun hc1 => ?_) (fun hc1 => ?_)
  refine jsk (jx ?_)
  refine jif Z (fun hc2 => ?_) (fun hc2 => ?_)
  refine jq (jr (js (jf F35_1 Z) (js (jl k0 O3 Z Z) (jlit (r := (rI .i64)) (l := [e.A]) U22 I3 (by decide) Z Z Z (lV Z Z (wI (rEnd.W_A d0)) ln) fun g10 => ja Z (jn (jx (jrt (jbr (jtr ?_)))))))))
  exact jrG Z Z (by first | (simp [needsM, hc1, hc2]; done) | (unfold needsM; (repeat' split) <;> first | rfl | (exfalso; omega) | (simp [needsM, hc1, hc2]; done))) k0
  exact absurd hc2 (by simp [hc1])
  refine jr (js (jeql Z Z) (ja Z (jn (jx ?_))))
  refine jif Z (fun hc3 => ?_) (fun hc3 => ?_)
  refine jq (jr (js (jf F35_1 Z) (js (jl k0 O3 Z Z) (jlit (r := (rI .i64)) (l := [e.A]) U22 I3 (by decide) Z Z Z (lV Z Z (wI (rEnd.W_A d0)) ln) fun g10_1 => ja Z (jn (jx (jrt (jbr (jtr ?_)))))))))
  exact jrG Z Z (by first | (simp [needsM, hc1, hc3]; done) | (unfold needsM; (repeat' split) <;> first | rfl | (exfalso; omega) | (simp [needsM, hc1, hc3]; done))) k0
  refine jq (jq (jr (js (jeql Z Z) (ja Z (jn (jx ?_))))))
  refine jif Z (fun hc4 => ?_) (fun hc4 => ?_)
  refine jsk (jx ?_)
  refine jif Z (fun hc5 => ?_) (fun hc5 => ?_)
  refine jq (jr (js (jf F35_1 Z) (js (jl k0 O3 Z Z) (js (jf F35_2 Z) (js (jl k0 O3 Z Z) (jlit (r := (rI .i64)) (l := [e.A, e.B]) U22 I3 (by decide) Z Z Z (lV Z Z (wI (rEnd.W_A d0)) (lV Z Z (wI (rEnd.W_B d0)) ln)) fun g19 => ja Z (jn (jx (jrt (jbr ?_))))))))))
  refine jtr ?_
  exact jrG Z Z (by first | (simp [needsM, hc1, hc3, hc4, hc5]; done) | (unfold needsM; (repeat' split) <;> first | rfl | (exfalso; omega) | (simp [needsM, hc1, hc3, hc4, hc5]; done))) k0
  exact absurd hc5 (by simp [hc1, hc3, hc4])
  refine jq (jr (js (jeql Z Z) (ja Z (jn (jx ?_)))))
  refine jif Z (fun hc6 => ?_) (fun hc6 => ?_)
  refine jsk (jx ?_)
  refine jif Z (fun hc7 => ?_) (fun hc7 => ?_)
  refine jq (jr (js (jf F35_1 Z) (js (jl k0 O3 Z Z) (js (jf F35_2 Z) (js (jl k0 O3 Z Z) (jlit (r := (rI .i64)) (l := [e.A, e.B]) U22 I3 (by decide) Z Z Z (lV Z Z (wI (rEnd.W_A d0)) (lV Z Z (wI (rEnd.W_B d0)) ln)) fun g19_2 => ja Z (jn (jx (jrt (jbr ?_))))))))))
  refine jtr ?_
  exact jrG Z Z (by first | (simp [needsM, hc1, hc3, hc4, hc6, hc7]; done) | (unfold needsM; (repeat' split) <;> first | rfl | (exfalso; omega) | (simp [needsM, hc1, hc3, hc4, hc6, hc7]; done))) k0
  exact absurd hc7 (by simp [hc1, hc3, hc4, hc6])
  refine jr (js (jeql Z Z) (ja Z (jn (jx ?_))))
  refine jif Z (fun hc8 => ?_) (fun hc8 => ?_)
  refine jq (jr (js (jf F35_1 Z) (js (jl k0 O3 Z Z) (js (jf F35_2 Z) (js (jl k0 O3 Z Z) (jlit (r := (rI .i64)) (l := [e.A, e.B]) U22 I3 (by decide) Z Z Z (lV Z Z (wI (rEnd.W_A d0)) (lV Z Z (wI (rEnd.W_B d0)) ln)) fun g19_3 => ja Z (jn (jx (jrt (jbr ?_))))))))))
  refine jtr ?_
  exact jrG Z Z (by first | (simp [needsM, hc1, hc3, hc4, hc6, hc8]; done) | (unfold needsM; (repeat' split) <;> first | rfl | (exfalso; omega) | (simp [needsM, hc1, hc3, hc4, hc6, hc8]; done))) k0
  refine jq (jr (js (jeql Z Z) (ja Z (jn (jx ?_)))))
  refine jif Z (fun hc9 => ?_) (fun hc9 => ?_)
  refine jq (jr (js (jf F35_1 Z) (js (jl k0 O3 Z Z) (js (jgeq Z Z) (jn (jx ?_))))))
  refine jif Z (fun hc10 => ?_) (fun hc10 => ?_)
  refine jq (jr (js (jf F35_1 Z) (js (jl k0 O3 Z Z) (jlit (r := (rI .i64)) (l := [e.A]) U22 I3 (by decide) Z Z Z (lV Z Z (wI (rEnd.W_A d0)) ln) fun g27 => ja Z (jn (jx (jrt (jbr (jtr ?_)))))))))
  exact jrG Z Z (by first | (simp [needsM, hc1, hc3, hc4, hc6, hc8, hc9, hc10]; done) | (unfold needsM; (repeat' split) <;> first | rfl | (exfalso; omega) | (simp [needsM, hc1, hc3, hc4, hc6, hc8, hc9, hc10]; done))) k0
  refine jsk (jbn (jx (jq (jr (ja Z (jn (jx (jrt (qnl (r := (rI .i64)) (E := 3) ?_)))))))))
  exact jrG Z Z (by first | (simp [needsM, hc1, hc3, hc4, hc6, hc8, hc9, hc10]; done) | (unfold needsM; (repeat' split) <;> first | rfl | (exfalso; omega) | (simp [needsM, hc1, hc3, hc4, hc6, hc8, hc9, hc10]; done))) k0
  refine jsk (jbn (jx (jq (jr (ja Z (jn (jx (jrt (qnl (r := (rI .i64)) (E := 3) ?_)))))))))
  exact jrG Z Z (by first | (simp [needsM, hc1, hc3, hc4, hc6, hc8, hc9]; done) | (unfold needsM; (repeat' split) <;> first | rfl | (exfalso; omega) | (simp [needsM, hc1, hc3, hc4, hc6, hc8, hc9]; done))) k0
theorem regs_ct {a0 : Value} {m : D.MFunc} (hr : rightM m = true) : Td Tryz.prog 20 #[vMFunc m a0] [da rMFunc (vMFunc m a0) m] [] (rL (rI .i64)) (regsM m) := by
  refine jenter (args := [vMFunc m a0]) Tryz.func20 rfl rfl rfl fun w0 X => ?_
  have hw := right_wl hr
  have hn0 := (right_wf hr).n0
  have hnP := (right_wf hr).p0
  refine jq (jr (jbox Z Z fun g1 => ja Z (jn (jx (jq (jr (jmk (m := 8192) (r := rB) U93 I4 Z Z Z Z Z (by omega) wB Z fun g14 => ja Z (jn (jx ?_)))))))))
  refine jq (jq (jr (ja Z (jn (jx (jb ?_))))))
  refine jlp (u2 fun (i : Nat) (m1 : List Bool) => ⟨i ≤ Int.toNat m.Params ∧ MK ((List.range i).map (fun k : Nat => (k : Int))) m1, [da rMFunc (vMFunc m a0) m], [gl X.n rB 4 (.slice (some ⟨g14, 0, none⟩) 8192 8192) m1, bx g1 28 [.int .i64 m.Params, a0]], [(1, .pointer (some ⟨g1, 0, none⟩)), (2, .slice none 0 0), (3, (.slice (some ⟨g14, 0, none⟩) 8192 8192)), (4, .int .i64 (↑i))], Int.toNat m.Params - i⟩) (0, List.replicate 8192 false) ⟨by dsimp only; omega, MK.beg⟩ (dc d0 dn) (kc k0 (kc k0 kn)) ⟨Z, Z, Z, eqI (by omega), trivial⟩ ?_
  rintro ⟨i, m1⟩; dsimp only [u2]; rintro ⟨hi, hm1⟩
  have hl1 := hm1.n
  refine jq (jq (jr (jm Z (js (jf F28_0 Z) (js (jl k1 O3 Z Z) (js (jlss Z Z) (jn (jx ?_))))))))
  refine jif Z (fun hc1 => ?_) (fun hc1 => ?_)
  refine jsk (jx (jq (jb (jr (jm Z (jm Z (js (jig U93 Z4 k0 Z Z Z (by omega)) (jsg k0 Z Z4 Z Z Z (by omega) wB (jn (jbn (jx ?_)))))))))))
  refine jr (jm Z (js (jadd Z Z (by omega)) (ja Z (jn ?_))))
  exact jag (i + 1, List.set m1 i true) ⟨by dsimp only; omega, by dsimp only; exact (hm1.set (r := (i : Int)) (by unfold Rg; omega)).of (by rw [List.range_succ, List.map_append]; rfl)⟩ (dc d0 dn) (kc k0 (kc k0 kn)) ⟨Z, Z, Z, eqI (by omega), trivial⟩
  refine jex (jtx (jtx (jbh (jx (jq (jq (jr (ja Z (jn (jx (jb ?_)))))))))))
  have hm19 : MK (parB m) m1 := hm1.of (by rw [show i = Int.toNat m.Params by omega]; rfl)
  refine jlp (u2 fun (b : Nat) (m2 : List Bool) => ⟨b ≤ m.Blocks.length ∧ MK (parB m ++ (m.Blocks.take b).flatMap regB) m2, [da rMFunc (vMFunc m a0) m], [gl X.n rB 4 (.slice (some ⟨g14, 0, none⟩) 8192 8192) m2, bx g1 28 [.int .i64 m.Params, a0]], [(1, .pointer (some ⟨g1, 0, none⟩)), (2, .slice none 0 0), (3, (.slice (some ⟨g14, 0, none⟩) 8192 8192)), (5, .int .i64 (↑b))], m.Blocks.length - b⟩) (0, m1) ⟨by dsimp only; omega, by dsimp only; exact hm19.of (by simp)⟩ (dc d0 dn) (kc k0 (kc k0 kn)) ⟨Z, Z, Z, eqI (by omega), trivial⟩ ?_
  rintro ⟨b, m2⟩; dsimp only [u2]; rintro ⟨hb, hm2⟩
  have hl2 := hm2.n
  refine jq (jq (jr (jm Z (js (jf F28_1 Z) (js (jl k1 O26 Z Z) (jdq (rMFunc.c_Blocks d0) fun q1 w1 => js (jln U26 (rMFunc.c_Blocks d0) Z) (js (jlss Z Z) (jn (jx ?_)))))))))
  refine jif Z (fun hc2 => ?_) (fun hc2 => ?_)
  refine jsk (jx (jq (jb (jq (jr (js (jf F28_1 Z) (js (jl k1 O26 Z Z) (jm Z (js (jix U26 Z37 (rMFunc.c_Blocks d0) Z Z Z (by omega)) (js (jf F37_2 Z) (jA sEnd (jlA (rMBlock.A_End (dix (rMFunc.c_Blocks d0) b (by omega))) A35 Z35 Z) fun c36 => ?_)))))))))))
  refine jcg E43 Z Z rNeedsG_ct (dc d0 dn) kn fun v37 w3 => ja Z (jn (jx (jq (jq (jr (ja Z (jn (jx (jb ?_)))))))))
  have hbb : b < m.Blocks.length := by omega
  have hnl := needs_len (e := (ix m.Blocks b).End)
  have hpk := right_phis hr hbb
  refine jlp (u3 fun (k : Nat) (l3 : List Int) (v3 : Value) => ⟨k ≤ (ix m.Blocks b).Phis.length ∧ l3 = needsM (ix m.Blocks b).End ++ ((ix m.Blocks b).Phis.take k).flatMap phiB, [da rMFunc (vMFunc m a0) m], [gl X.n (rI .i64) 3 v3 l3, gl X.n rB 4 (.slice (some ⟨g14, 0, none⟩) 8192 8192) m2, bx g1 28 [.int .i64 m.Params, a0]], [(1, .pointer (some ⟨g1, 0, none⟩)), (2, .slice none 0 0), (3, (.slice (some ⟨g14, 0, none⟩) 8192 8192)), (5, .int .i64 (↑b)), (6, v3), (7, .int .i64 (↑k))], (ix m.Blocks b).Phis.length - k⟩) (0, needsM ((ix m.Blocks b).End), v37) ⟨by dsimp only; omega, by dsimp only; simp⟩ (dc d1 dn) (kc k0 (kc k0 (kc k0 kn))) ⟨Z, Z, Z, Z, Z, eqI (by omega), trivial⟩ ?_
  rintro ⟨k, l3, v3⟩; dsimp only [u3]; rintro ⟨hk, hl3⟩
  refine cgo k0 fun w4 => ?_
  have hl3l : l3.length ≤ 9000000 := by have := phiB_len hr hbb k; rw [hl3, List.length_append]; omega
  refine jq (jq (jr (jm Z (js (jf F28_1 Z) (js (jl k2 O26 Z Z) (jm Z (js (jix U26 Z37 (rMFunc.c_Blocks d0) Z Z Z (by omega)) (js (jf F37_0 Z) (jev (jlV (rMBlock.A_Phis (dix (rMFunc.c_Blocks d0) b (by omega))) O32 Z Z) fun v44 q5 w5 => js (jln U32 d0 Z) (js (jlss Z Z) ?_))))))))))
  refine jn (jx ?_)
  refine jif Z (fun hc3 => ?_) (fun hc3 => ?_)
  refine jsk (jx (jq (jb (jq (jr (js (jf F28_1 Z) (js (jl k2 O26 Z Z) (jm Z (js (jix U26 Z37 (rMFunc.c_Blocks d1) Z Z Z (by omega)) (js (jf F37_0 Z) (jev (jlV (rMBlock.A_Phis (dix (rMFunc.c_Blocks d1) b (by omega))) O32 Z Z) fun v54 q7 w7 => ?_)))))))))))
  refine jm Z (js (jix U32 Z62 d0 Z Z Z (by omega)) (jA sPhi (jlA (dix d0 k (by omega)) A62 Z62 Z) fun c57 => jalc J62 Z fun g8 => jdq (rPhi.c_In d0) fun q10 w10 => jsta k0 Z62 Z Z Z ⟨Z, w10.one, trivial⟩ (saf Z) (jn (jx (jq (jr (jm Z (js (jf F62_0 Z) ?_))))))))
  refine js (jl k0 O3 Z Z) (japv U22 I3 (by decide) Z Z k1 Z (wI (rPhi.W_Dst d0)) (by omega) (fun _ => Z) fun v62 _ w11 => ja Z (jn (jx (jq (jr (ja Z (jn (jx (jb ?_)))))))))
  have hkk : k < (ix m.Blocks b).Phis.length := by omega
  have hin := right_in hr hbb _ (ix_mem hkk)
  refine jlp (u3 fun (j : Nat) (l4 : List Int) (v4 : Value) => ⟨j ≤ (ix (ix m.Blocks b).Phis k).In.length ∧ l4 = l3 ++ ((ix (ix m.Blocks b).Phis k).Dst :: ((ix (ix m.Blocks b).Phis k).In.take j).map (fun y => y.Val)), [da rPhi (vPhi (ix ((ix m.Blocks b).Phis) k) c57) (ix ((ix m.Blocks b).Phis) k), da rMFunc (vMFunc m a0) m], [gl X.n (rI .i64) 3 v4 l4, bx g8 62 [.int .i64 ((ix ((ix m.Blocks b).Phis) k).Dst), c57], gl X.n rB 4 (.slice (some ⟨g14, 0, none⟩) 8192 8192) m2, bx g1 28 [.int .i64 m.Params, a0]], [(1, .pointer (some ⟨g1, 0, none⟩)), (2, .slice none 0 0), (3, (.slice (some ⟨g14, 0, none⟩) 8192 8192)), (5, .int .i64 (↑b)), (6, v4), (7, .int .i64 (↑k)), (8, .pointer (some ⟨g8, 0, none⟩)), (9, .int .i64 (↑j))], (ix (ix m.Blocks b).Phis k).In.length - j⟩) (0, l3 ++ [(ix ((ix m.Blocks b).Phis) k).Dst], v62) ⟨by dsimp only; omega, rfl⟩ (dc d0 (dc d3 dn)) (kc k0 (kc k0 (kc k0 (kc k0 kn)))) ⟨Z, Z, Z, Z, Z, Z, Z, eqI (by omega), trivial⟩ ?_
  rintro ⟨j, l4, v4⟩; dsimp only [u3]; rintro ⟨hj, hl4⟩
  refine cgo k0 fun w12 => ?_
  have hl4l : l4.length ≤ 9001000 := by rw [hl4]; simp only [List.length_append, List.length_cons, List.length_map, List.length_take]; omega
  refine jq (jq (jr (jm Z (js (jf F62_1 Z) (js (jl k1 O60 Z Z) (js (jln U60 (rPhi.c_In d0) Z) (js (jlss Z Z) (jn (jx ?_)))))))))
  refine jif Z (fun hc4 => ?_) (fun hc4 => ?_)
  refine jsk (jx (jq (jb (jr (jm Z (js (jf F62_1 Z) (js (jl k1 O60 Z Z) (jm Z (js (jix U60 Z64 (rPhi.c_In d0) Z Z Z (by omega)) (js (jf F64_1 Z) (js (jlI (rIn.A_Val (dix (rPhi.c_In d0) j (by omega))) O3 Z) ?_)))))))))))
  refine japv U22 I3 (by decide) Z Z k0 Z (wI (wad (rIn.A_Val (dix (rPhi.c_In d0) j (by omega))))) (by omega) (fun _ => Z) fun v78 _ w13 => ja Z (jn (jbn (jx (jr (jm Z (js (jadd Z Z (by omega)) (ja Z (jn ?_))))))))
  exact jag (j + 1, l4 ++ [(ix ((ix ((ix m.Blocks b).Phis) k).In) j).Val], v78) ⟨by dsimp only; omega, by dsimp only; rw [hl4, take_ix (by omega), List.map_append, ← List.cons_append, List.append_assoc]; rfl⟩ (dc d0 (dc d1 dn)) (kc k0 (kc k0 (kc k0 (kc k0 kn)))) ⟨Z, Z, Z, Z, Z, Z, Z, eqI (by omega), trivial⟩
  refine jex (jtx (jtx (jbh (jbn (jx (jr (jm Z (js (jadd Z Z (by omega)) (ja Z (jn ?_))))))))))
  exact jag (k + 1, l4, v4) ⟨by dsimp only; omega, by dsimp only; rw [hl4, hl3, List.take_of_length_le (l := (ix (ix m.Blocks b).Phis k).In) (by omega), flat_next (by omega), List.append_assoc]; rfl⟩ (dc d1 dn) (kc k0 (kc k1 (kc k1 kn))) ⟨Z, Z, Z, Z, Z, eqI (by omega), trivial⟩
  refine jex (jtx (jtx (jbh (jx (jq (jq (jr (ja Z (jn (jx (jb ?_)))))))))))
  refine jlp (u3 fun (i5 : Nat) (l5 : List Int) (v5 : Value) => ⟨i5 ≤ (ix m.Blocks b).Ins.length ∧ l5 = needsM (ix m.Blocks b).End ++ (ix m.Blocks b).Phis.flatMap phiB ++ ((ix m.Blocks b).Ins.take i5).flatMap insB, [da rMFunc (vMFunc m a0) m], [gl X.n (rI .i64) 3 v5 l5, gl X.n rB 4 (.slice (some ⟨g14, 0, none⟩) 8192 8192) m2, bx g1 28 [.int .i64 m.Params, a0]], [(1, .pointer (some ⟨g1, 0, none⟩)), (2, .slice none 0 0), (3, (.slice (some ⟨g14, 0, none⟩) 8192 8192)), (5, .int .i64 (↑b)), (6, v5), (10, .int .i64 (↑i5))], (ix m.Blocks b).Ins.length - i5⟩) (0, l3, v3) ⟨by dsimp only; omega, by dsimp only; rw [hl3, List.take_of_length_le (by omega)]; simp⟩ (dc d1 dn) (kc k0 (kc k0 (kc k0 kn))) ⟨Z, Z, Z, Z, Z, eqI (by omega), trivial⟩ ?_
  rintro ⟨i5, l5, v5⟩; dsimp only [u3]; rintro ⟨hi5, hl5⟩
  refine cgo k0 fun w14 => ?_
  have hl5l : l5.length ≤ 9500000 := by have := phiB_len hr hbb (ix m.Blocks b).Phis.length; rw [List.take_length] at this; have := insB_len hr hbb i5; rw [hl5]; simp only [List.length_append]; omega
  refine jq (jq (jr (jm Z (js (jf F28_1 Z) (js (jl k2 O26 Z Z) (jm Z (js (jix U26 Z37 (rMFunc.c_Blocks d0) Z Z Z (by omega)) (js (jf F37_1 Z) (jev (jlV (rMBlock.A_Ins (dix (rMFunc.c_Blocks d0) b (by omega))) O33 Z Z) fun v85 q15 w15 => js (jln U33 d0 Z) (js (jlss Z Z) ?_))))))))))
  refine jn (jx ?_)
  refine jif Z (fun hc5 => ?_) (fun hc5 => ?_)
  refine jsk (jx (jq (jb (jany false (.a 0 (.a 1 (.a 2 (.a 3 (.a 4 (.a 5 (.a 6 (.a 7 (.a 8 (.a 9 (.a 12 (.a 13 (.a 14 (.a 15 (.a 16 (.a 17 (.a 18 (.a 19 (.a 20 (.o 10 (.o 11 (.o 21 (.o 22 (.a 23 .e)))))))))))))))))))))))) Mixed (by kernel_rfl) (kc k2 kn) fun F17 => jy Z (jmv Z) (jy Z (jf F28_1 Z) (jy Z (jl k0 O26 Z Z) (jy Z (jmv Z) (jy Z (jix U26 Z37 (rMFunc.c_Blocks d1) Z Z Z (by omega)) (jy Z (jf F37_1 Z) (jye (q := fun v => dv (rL rMach) v ((ix m.Blocks b).Ins)) Z (xlV (rMBlock.A_Ins (dix (rMFunc.c_Blocks d1) b (by omega))) O33 Z Z) fun v96 => ?_))))))))))
  refine jy Z (jmv Z) (adq d0 fun q19 w19 => jy Z (jix U33 Z69 d0 Z Z Z (by omega)) (jyA sMach Z (xlA (dix d0 i5 (by omega)) A69 Z69 Z) fun c99 => jy Z (jf F28_1 Z) (jy Z (jl k0 O26 Z Z) (jy Z (jmv Z) (jy Z (jix U26 Z37 (rMFunc.c_Blocks d3) Z Z Z (by omega)) (jy Z (jf F37_1 Z) (jye (q := fun v => dv (rL rMach) v ((ix m.Blocks b).Ins)) Z (xlV (rMBlock.A_Ins (dix (rMFunc.c_Blocks d3) b (by omega))) O33 Z Z) fun v107 => jy Z (jmv Z) (adq d0 fun q22 w22 => ?_))))))))
  refine jy Z (jix U33 Z69 d0 Z Z Z (by omega)) (jyA sMach Z (xlA (dix d0 i5 (by omega)) A69 Z69 Z) fun c110 => jyo Z (jcd E44 Z Z rTakes_ct (dc d3 dn) kn fun v100 q25 w25 => jyn d1 (kc k2 kn) (jyo Z (japl U22 I3 (by decide) Z k0 Z Z d1 (by (try simp) <;> omega) fun v101 w28 => jyn d0 (kc k2 kn) (jyo Z (jcd E45 Z Z rMakes_ct (dc d4 dn) kn fun v111 q30 w30 => jyn d1 (kc k2 kn) (jyo Z ?_)))))))
  refine japl U22 I3 (by decide) Z k0 Z Z d1 (by (try simp) <;> omega) fun v112 w33 => jyn d0 (kc k2 kn) (jy Z (jas Z) (jyd (jbn (jx (jr (jm Z (js (jadd Z Z (by omega)) (ja Z (jn ?_)))))))))
  exact jag (i5 + 1, (l5 ++ (takesM (ix ((ix m.Blocks b).Ins) i5))) ++ (makesM (ix ((ix m.Blocks b).Ins) i5)), v112) ⟨by dsimp only; omega, by dsimp only; rw [hl5, flat_next (by omega)]; simp only [insB, List.append_assoc]⟩ (dc d11 dn) (kc k0 (kc k0 (kc k0 kn))) ⟨Z, Z, Z, Z, Z, eqI (by omega), trivial⟩
  refine jex (jtx (jtx (jbh (jx (jq (jr (ja Z (jn (jx (jb ?_))))))))))
  have hl59 : l5 = regB (ix m.Blocks b) := by rw [hl5, List.take_of_length_le (by omega)]; rfl
  have hrg : ∀ r ∈ l5, Rg r := by rw [hl59]; exact regB_rg hr hbb
  refine jlp (u2 fun (j6 : Nat) (m6 : List Bool) => ⟨j6 ≤ l5.length ∧ MK ((parB m ++ (m.Blocks.take b).flatMap regB) ++ l5.take j6) m6, [da rMFunc (vMFunc m a0) m], [gl X.n (rI .i64) 3 v5 l5, gl X.n rB 4 (.slice (some ⟨g14, 0, none⟩) 8192 8192) m6, bx g1 28 [.int .i64 m.Params, a0]], [(1, .pointer (some ⟨g1, 0, none⟩)), (2, .slice none 0 0), (3, (.slice (some ⟨g14, 0, none⟩) 8192 8192)), (5, .int .i64 (↑b)), (6, v5), (11, .int .i64 (↑j6))], l5.length - j6⟩) (0, m2) ⟨by dsimp only; omega, by dsimp only; exact hm2.of (by simp)⟩ (dc d1 dn) (kc k0 (kc k0 (kc k0 kn))) ⟨Z, Z, Z, Z, Z, eqI (by omega), trivial⟩ ?_
  rintro ⟨j6, m6⟩; dsimp only [u2]; rintro ⟨hj6, hm6⟩
  have hl6 := hm6.n
  refine jq (jq (jr (jm Z (jm Z (js (jlg U22 k0 Z) (js (jlss Z Z) (jn (jx ?_))))))))
  refine jif Z (fun hc6 => ?_) (fun hc6 => ?_)
  have hrj : Rg (ix l5 j6) := hrg _ (ix_mem (by omega))
  have hrj2 : 0 ≤ ix l5 j6 ∧ ix l5 j6 < 8192 := hrj
  refine jsk (jx (jq (jb (jr (jm Z (jm Z (jm Z (js (jig U22 Z3 k0 Z Z Z (by omega)) (js (jgI k0 (by omega) O3 Z) (js (jig (i := (Int.toNat (ix l5 j6))) U93 Z4 k1 Z Z (by omega) (by omega)) (jsg k1 Z Z4 Z Z Z (by omega) wB ?_)))))))))))
  refine jn (jbn (jx (jr (jm Z (js (jadd Z Z (by omega)) (ja Z (jn ?_)))))))
  exact jag (j6 + 1, List.set m6 (Int.toNat (ix l5 j6)) true) ⟨by dsimp only; omega, by dsimp only; exact (hm6.set hrj).of (by rw [take_ix (by omega), List.append_assoc])⟩ (dc d0 dn) (kc k1 (kc k0 (kc k0 kn))) ⟨Z, Z, Z, Z, Z, eqI (by omega), trivial⟩
  refine jex (jtx (jtx (jbh (jbn (jx (jr (jm Z (js (jadd Z Z (by omega)) (ja Z (jn ?_))))))))))
  exact jag (b + 1, m6) ⟨by dsimp only; omega, by dsimp only; exact hm6.of (by rw [flat_next hbb, List.take_of_length_le (l := l5) (by omega), hl59, List.append_assoc])⟩ (dc d0 dn) (kc k1 (kc k1 kn)) ⟨Z, Z, Z, eqI (by omega), trivial⟩
  refine jex (jtx (jtx (jbh (jx (jq (jr (jlit (r := (rI .i64)) (l := []) U22 I3 (by decide) Z Z Z ln fun g125 => ja Z (jn (jx (jq ?_))))))))))
  refine jq (jr (ja Z (jn (jx (jb ?_)))))
  have hm29 : MK (regA m) m2 := hm2.of (by rw [List.take_of_length_le (by omega)]; rfl)
  refine jlp (u3 fun (k7 : Nat) (rs : List Int) (vr : Value) => ⟨k7 ≤ 8192 ∧ rs = ((List.range k7).filter (fun k : Nat => decide ((k : Int) ∈ regA m))).map (fun k : Nat => (k : Int)), [], [gl X.n (rI .i64) 3 vr rs, gl X.n rB 4 (.slice (some ⟨g14, 0, none⟩) 8192 8192) m2], [(2, .slice none 0 0), (3, (.slice (some ⟨g14, 0, none⟩) 8192 8192)), (12, vr), (13, .int .i64 (↑k7))], 8192 - k7⟩) (0, [], (.slice (some ⟨g125, 0, none⟩) 0 0)) ⟨by dsimp only; omega, rfl⟩ dn (kc k0 (kc k0 kn)) ⟨Z, Z, Z, eqI (by omega), trivial⟩ ?_
  rintro ⟨k7, rs, vr⟩; dsimp only [u3]; rintro ⟨hk7, hrs⟩
  refine cgo k0 fun w34 => ?_
  have hrl : rs.length ≤ 8192 := by rw [hrs, List.length_map]; exact Nat.le_trans (List.length_filter_le _ _) (by rw [List.length_range]; exact hk7)
  refine jq (jq (jr (jm Z (jm Z (js (jlg U93 k1 Z) (js (jlss Z Z) (jn (jx ?_))))))))
  refine jif Z (fun hc7 => ?_) (fun hc7 => ?_)
  refine jsk (jx (jq (jb (jq (jr (jm Z (jm Z (js (jig U93 Z4 k1 Z Z Z (by omega)) (js (jgB k1 (by omega) O4 Z) (jn (jx ?_)))))))))))
  refine jif Z (fun hc8 => ?_) (fun hc8 => ?_)
  refine jr (jm Z (jm Z (japv U22 I3 (by decide) Z Z k0 Z (wI (wp (IntWalk.i64_in _ (by omega)))) (by omega) (fun _ => Z) fun v139 _ w35 => ja Z (jn (jbn (jx (jr (jm Z (js (jadd Z Z (by omega)) (ja Z ?_))))))))))
  refine jn ?_
  exact jag (k7 + 1, rs ++ [((k7 : Nat) : Int)], v139) ⟨by dsimp only; omega, by dsimp only; rw [filt_next, ← hrs]; rw [if_pos (by rw [← hm29.s k7 (by omega)]; exact hc8)]⟩ dn (kc k0 (kc k0 kn)) ⟨Z, Z, Z, eqI (by omega), trivial⟩
  refine jsk (jbn (jx (jr (jm Z (js (jadd Z Z (by omega)) (ja Z (jn ?_)))))))
  exact jag (k7 + 1, rs, vr) ⟨by dsimp only; omega, by dsimp only; rw [filt_next, ← hrs]; rw [if_neg (by rw [← hm29.s k7 (by omega)]; simp [hc8]), List.append_nil]⟩ dn (kc k0 (kc k0 kn)) ⟨Z, Z, Z, eqI (by omega), trivial⟩
  refine jex (jtx (jtx (jbh (jx (jq (jr (jm Z (ja Z (jn (jx (jrt ?_)))))))))))
  refine qfz k0 (by omega) ?_
  exact jrD Z Z (by rw [regsM, hrs, show k7 = 8192 by omega]) d0
end Go.Proofs.YtehhjlkmbdhckaaGreat
namespace Go.Proofs.YtehhjlkmbdhckaaGreat
set_option linter.unusedVariables false
set_option linter.unusedSimpArgs false
set_option linter.unusedSectionVars false
open Go.JE
theorem filter_next {l : List Int} {f : Int → Bool} {k : Nat} (h : k < l.length) : (l.take (k + 1)).filter f = (l.take k).filter f ++ if f (ix l k) = true then [ix l k] else [] := by
  rw [take_ix h, List.filter_append]
  congr 1
  by_cases h9 : f (ix l k) = true
  · simp [h9]
  · simp [h9]
theorem preP_all {m : D.MFunc} (h : ∀ b, b < m.Blocks.length → (ix m.Blocks b).Ins.length < 1000000) (hn : m.Blocks.length ≤ 512) : (preP m m.Blocks.length 0).length ≤ 512000000 := by
  have := preP_bd h (b := m.Blocks.length) (Nat.le_refl _); omega
structure GR (m : D.MFunc) (b i : Nat) (f : Nat → Int → Bool) (rs : List (List Int)) : Prop where
  n : rs.length = m.Blocks.length
  s : ∀ j, j < m.Blocks.length → ix rs j = ((regsM m).take (if j < b then i + 1 else i)).filter (f j)
theorem GR.beg {m : D.MFunc} {f : Nat → Int → Bool} : GR m 0 0 f (List.replicate m.Blocks.length []) := ⟨by simp, fun j hj => by rw [ix_eq (by simpa using hj)]; simp⟩
theorem GR.blk {m : D.MFunc} {b i : Nat} {f : Nat → Int → Bool} {rs : List (List Int)} (h : GR m b i f rs) (hb : m.Blocks.length ≤ b) : GR m 0 (i + 1) f rs := ⟨h.n, fun j hj => by rw [h.s j hj, if_pos (by omega), if_neg (by omega)]⟩
theorem GR.no {m : D.MFunc} {b i : Nat} {f : Nat → Int → Bool} {rs : List (List Int)} (h : GR m b i f rs) (hi : i < (regsM m).length) (hf : f b (ix (regsM m) i) = false) : GR m (b + 1) i f rs := ⟨h.n, fun j hj => by
  rw [h.s j hj]
  by_cases h9 : j < b
  · rw [if_pos h9, if_pos (by omega)]
  · rw [if_neg h9]
    split
    · have e : j = b := by omega
      subst e
      rw [filter_next hi, hf]; simp
    · rfl⟩
theorem GR.len {m : D.MFunc} {b i : Nat} {f : Nat → Int → Bool} {rs : List (List Int)} (h : GR m b i f rs) : ∀ l ∈ rs, l.length < 1073741824 := mem_ix fun k hk => by
  rw [h.s k (by rw [← h.n]; exact hk)]
  have h1 := List.length_filter_le (f k) ((regsM m).take (if k < b then i + 1 else i))
  have h2 := regs_len (m := m)
  rw [List.length_take] at h1; omega
end Go.Proofs.YtehhjlkmbdhckaaGreat
namespace Go.Proofs.YtehhjlkmbdhckaaGreat
set_option linter.unusedVariables false
set_option linter.unusedSimpArgs false
set_option linter.unusedSectionVars false
open Go.JE
theorem E20 : Ent Tryz.prog 20 := ⟨_, Tryz.func20, by kernel_rfl, by kernel_rfl⟩
set_option maxRecDepth 4000
end Go.Proofs.YtehhjlkmbdhckaaGreat
namespace Go.Proofs.YtehhjlkmbdhckaaGreat
set_option linter.unusedVariables false
set_option linter.unusedSimpArgs false
set_option linter.unusedSectionVars false
open Go.JE
set_option maxRecDepth 4000
end Go.Proofs.YtehhjlkmbdhckaaGreat
namespace Go.Proofs.YtehhjlkmbdhckaaGreat
set_option linter.unusedVariables false
set_option linter.unusedSimpArgs false
set_option linter.unusedSectionVars false
open Go.JE
set_option maxRecDepth 4000
theorem GR.one {m : D.MFunc} {b i c : Nat} {f : Nat → Int → Bool} {rs : List (List Int)} (h : GR m b i f rs) (hc : c < m.Blocks.length) : (rs.getD c []).length ≤ 8192 := by
  have h3 := h.s c hc
  have h1 := List.length_filter_le (f c) ((regsM m).take (if c < b then i + 1 else i))
  have h2 := regs_len (m := m)
  rw [List.length_take] at h1
  have h4 : (ix rs c).length ≤ 8192 := by rw [h3]; omega
  exact h4
end Go.Proofs.YtehhjlkmbdhckaaGreat
namespace Go.Proofs.YtehhjlkmbdhckaaGreat
set_option linter.unusedVariables false
set_option linter.unusedSimpArgs false
set_option linter.unusedSectionVars false
open Go.JE
def shL : D.MFunc := ⟨2, [⟨[], [⟨5, 2, 0, 0, 1, 0, 0, []⟩, ⟨5, 3, 0, 2, 0, 0, 0, []⟩], ⟨7, 3, 0, [], 0⟩⟩]⟩
theorem shL_right : rightM shL = true := by decide
theorem shL_lo : loE shL.Blocks = [[]] := by
  have hw := right_wl shL_right
  have h1 : (loE shL.Blocks).length = 1 := loE_len hw
  have h2 : ix (loE shL.Blocks) 0 = [] := by
    apply List.eq_nil_iff_forall_not_mem.2
    intro r hr
    have h3 := (loE_mem hw (b := 0) (by decide)).1 hr
    cases h3 with
    | phi h _ => cases h
    | gen h _ _ => cases h
    | thru h _ _ _ => cases h
  match hl : loE shL.Blocks, h1, h2 with
  | [x], _, h2 =>
    have h4 : x = [] := h2
    rw [h4]
theorem shL_at : atM shL 0 1 = [0, 2] := by
  unfold atM atE; rw [shL_lo]; decide
theorem shL_row : rowQ (atM shL 0 1) [0, 2] = true := by rw [shL_at]; decide
theorem shL_tog1 : togM shL 0 2 = true := by
  unfold togM stM togS hasE atE; rw [shL_lo]; decide
theorem shL_tog2 : togM shL 0 3 = false := by
  unfold togM stM togS hasE atE; rw [shL_lo]; decide
theorem shL_most : mostM shL = 2 := by
  unfold mostM stM mostS hasE atE; rw [shL_lo]; decide
def rangesQ (a b : List D.Range) : Bool := decide (a = b)
theorem shL_rng : rangesQ (rangesM shL 0) [⟨0, 2⟩] = true := by
  unfold rangesM stM rngS hasE atE; rw [shL_lo]; decide
theorem rng_ix {a b : List D.Range} (hl : a.length = b.length) (h : ∀ j, j < a.length → ix a j = ix b j) : a = b := List.ext_getElem hl fun j h1 h2 => by
  have := h j h1; rw [ix_eq h1, ix_eq h2] at this; exact this
theorem rng_ext {x y : D.Range} (h : x.From = y.From ∧ x.To = y.To) : x = y := by
  cases x; cases y; obtain ⟨h1, h2⟩ := h; dsimp only at h1 h2; subst h1; subst h2; rfl
def made10 (s : List Int) : D.MFunc := made7 (s.take 200)
end Go.Proofs.YtehhjlkmbdhckaaGreat
namespace Go.Proofs.YtehhjlkmbdhckaaGreat
set_option linter.unusedVariables false
set_option linter.unusedSimpArgs false
set_option linter.unusedSectionVars false
open Go.JE
theorem A47 : ∃ d, Tryz.prog.underlying 47 = some d ∧ (match d with | .struct _ | .array _ _ => true | _ => false) = true := ⟨_, Tryz.underlying47, rfl⟩
theorem E18 : Ent Tryz.prog 18 := ⟨_, Tryz.func18, by kernel_rfl, by kernel_rfl⟩
theorem E21 : Ent Tryz.prog 21 := ⟨_, Tryz.func21, by kernel_rfl, by kernel_rfl⟩
theorem E22 : Ent Tryz.prog 22 := ⟨_, Tryz.func22, by kernel_rfl, by kernel_rfl⟩
theorem E24 : Ent Tryz.prog 24 := ⟨_, Tryz.func24, by kernel_rfl, by kernel_rfl⟩
theorem E36 : Ent Tryz.prog 36 := ⟨_, Tryz.func36, by kernel_rfl, by kernel_rfl⟩
theorem E37 : Ent Tryz.prog 37 := ⟨_, Tryz.func37, by kernel_rfl, by kernel_rfl⟩
theorem S2_47 : St2 Tryz.prog 47 .i64 := ⟨⟨_, _, Tryz.underlying47, by decide, by decide, rfl, rfl, Tryz.underlying3, Tryz.underlying3⟩, by kernel_rfl, by kernel_rfl⟩
set_option maxRecDepth 8000
theorem lawRanges_ct {a0 : Value} {a : List D.Range} {a1 : Value} {b : List D.Range} : Tv Tryz.prog 36 #[a0, a1] [dv (rL rRange) a0 a, dv (rL rRange) a1 b] [] (.bool (rangesQ a b)) := by
  refine jenter (args := [a0, a1]) Tryz.func36 rfl rfl rfl fun w0 X => ?_
  refine jq (jr (ja Z (jn (jx (jq (jq (jr (jm Z (jdq d0 fun q1 w1 => js (jln U44 d0 Z) (jm Z ?_))))))))))
  refine jdq d1 fun q2 w2 => js (jln U44 d1 Z) (js (jneq Z Z) (jn (jx ?_)))
  refine jif Z (fun hc1 => ?_) (fun hc1 => ?_)
  refine jq (jr (ja Z (jn (jx (jrt (jtr ?_))))))
  exact jrB Z Z (by first | (exact decide_eq_true (rng_ix (by omega) (fun j hj => hall j (by omega)))) | (exact decide_eq_false (fun h9 => by subst h9; simp at hc3)) | (exact decide_eq_false (fun h9 => by subst h9; exact hc1 rfl)))
  refine jsk (jx (jq (jq (jr (ja Z (jn (jx (jb ?_))))))))
  refine jlp (fun (k : Nat) => ⟨k ≤ a.length ∧ ∀ j, j < k → ix a j = ix b j, [dv (rL rRange) a0 a, dv (rL rRange) a1 b], [], [(0, a0), (1, a1), (5, .int .i64 (↑k))], a.length - k⟩) 0 ⟨by omega, fun j hj => by omega⟩ (dc d0 (dc d1 dn)) kn ⟨Z, Z, eqI (by omega), trivial⟩ ?_
  rintro k; dsimp only; rintro ⟨hk, hall⟩
  refine jq (jq (jr (jm Z (jm Z (js (jln U44 d0 Z) (js (jlss Z Z) (jn (jx ?_))))))))
  refine jif Z (fun hc2 => ?_) (fun hc2 => ?_)
  refine jsk (jx (jq (jb (jq (jstl Mixed (by kernel_rfl) (jt (jmv Z) (jt (jmv Z) (jt (jix U44 Z47 d0 Z Z Z (by omega)) (jtA sRange (jlA (dix d0 k (by omega)) A47 Z47 Z) fun _ => jt (jmv Z) (jt (jmv Z) ?_))))))))))
  refine jt (jix U44 Z47 d2 Z Z Z (by omega)) (jtA sRange (jlA (dix d2 k (by omega)) A47 Z47 Z) fun _ => jt (jneqSt S2_47 Z Z) (jdn (jx ?_)))
  refine jif Z (fun hc3 => ?_) (fun hc3 => ?_)
  refine jq (jr (ja Z (jn (jx (jrt (jbr (jtr (jtr (jbr (jtr ?_))))))))))
  exact jrB Z Z (by first | (exact decide_eq_true (rng_ix (by omega) (fun j hj => hall j (by omega)))) | (exact decide_eq_false (fun h9 => by subst h9; simp at hc3)) | (exact decide_eq_false (fun h9 => by subst h9; exact hc1 rfl)))
  refine jsk (jbn (jx (jr (jm Z (js (jadd Z Z (by omega)) (ja Z (jn ?_)))))))
  exact jag (k + 1) ⟨by omega, fun j hj => by rcases Nat.lt_or_ge j k with h7 | h7; (exact hall j h7); (rw [show j = k by omega]; exact rng_ext (by simpa using hc3))⟩ (dc d2 (dc d3 dn)) kn ⟨Z, Z, eqI (by omega), trivial⟩
  refine jex (jtx (jtx (jbh (jx (jq (jr (ja Z (jn (jx (jrt ?_))))))))))
  exact jrB Z Z (by first | (exact decide_eq_true (rng_ix (by omega) (fun j hj => hall j (by omega)))) | (exact decide_eq_false (fun h9 => by subst h9; simp at hc3)) | (exact decide_eq_false (fun h9 => by subst h9; exact hc1 rfl)))
theorem shown_ct  : Tv Tryz.prog 11 #[] [] [] (.bool true) := by
  refine jenter (args := []) Tryz.func11 rfl rfl rfl fun w0 X => ?_
  refine jq (jr (ja Z (jn (jx (jq (jr (js (jbu (v := .agg #[.int .i64 5, .int .i64 2, .int .i64 0, .int .i64 0, .int .i64 1, .int .i64 0, .int .i32 0, .slice none 0 0]) Z (fun _ => by kernel_rfl)) (js (jbu (v := .agg #[.int .i64 5, .int .i64 3, .int .i64 0, .int .i64 2, .int .i64 0, .int .i64 0, .int .i32 0, .slice none 0 0]) Z (fun _ => by kernel_rfl)) (jlit (r := rMach) (l := [⟨5, 2, 0, 0, 1, 0, 0, []⟩, ⟨5, 3, 0, 2, 0, 0, 0, []⟩]) U33 I69 (by decide) Z Z Z (lA (rMach.M (m := ⟨5, 2, 0, 0, 1, 0, 0, []⟩) (c := (.slice none 0 0)) wN (wl 5) (wl 2) (wl 0) (wl 0) (wl 1) (wl 0) (wl 0)) (lA (rMach.M (m := ⟨5, 3, 0, 2, 0, 0, 0, []⟩) (c := (.slice none 0 0)) wN (wl 5) (wl 3) (wl 0) (wl 2) (wl 0) (wl 0) (wl 0)) ln)) fun g4 => js (jbu (v := .agg #[.int .i64 7, .int .i64 3, .int .i64 0, .slice none 0 0, .int .i32 0]) Z (fun _ => by kernel_rfl)) (js (jbu (v := .agg #[.slice none 0 0, (.slice (some ⟨g4, 0, none⟩) 2 2), .int .i64 7, .int .i64 3, .int .i64 0, .slice none 0 0, .int .i32 0]) Z (fun _ => by kernel_rfl)) ?_))))))))))
  refine jfz k0 (by (try simp) <;> omega) (jlit (r := rMBlock) (l := [⟨[], [⟨5, 2, 0, 0, 1, 0, 0, []⟩, ⟨5, 3, 0, 2, 0, 0, 0, []⟩], ⟨7, 3, 0, [], 0⟩⟩]) U26 I37 (by decide) Z Z Z (lA (rMBlock.M (m := ⟨[], [⟨5, 2, 0, 0, 1, 0, 0, []⟩, ⟨5, 3, 0, 2, 0, 0, 0, []⟩], ⟨7, 3, 0, [], 0⟩⟩) (c := (.slice none 0 0, (.slice (some ⟨g4, 0, none⟩) 2 2), .slice none 0 0)) wN d0 wN (wl 7) (wl 3) (wl 0) (wl 0)) ln) fun g7 => js (jbu (v := .agg #[.int .i64 2, (.slice (some ⟨g7, 0, none⟩) 1 1)]) Z (fun _ => by kernel_rfl)) (jalc J28 Z fun g1 => jsta k0 Z28 Z Z Z ⟨Z, Z, trivial⟩ (saf Z) (jn (jx (jq (jr (js (jla k0 A28 Z28 Z Z Z) (jfz k1 (by (try simp) <;> omega) (jcd E18 Z Z (at_ct (m := ⟨2, [⟨[], [⟨5, 2, 0, 0, 1, 0, 0, []⟩, ⟨5, 3, 0, 2, 0, 0, 0, []⟩], ⟨7, 3, 0, [], 0⟩⟩]⟩) 0 1) (dc (rMFunc.M (m := ⟨2, [⟨[], [⟨5, 2, 0, 0, 1, 0, 0, []⟩, ⟨5, 3, 0, 2, 0, 0, 0, []⟩], ⟨7, 3, 0, [], 0⟩⟩]⟩) (c := (.slice (some ⟨g7, 0, none⟩) 1 1)) d0 (wl 2)) dn) kn fun v10 q3 w3 => ?_)))))))))
  refine jlit (r := (rI .i64)) (l := [0, 2]) U22 I3 (by decide) Z Z Z (lV Z Z (wI (wl 0)) (lV Z Z (wI (wl 2)) ln)) fun g11 => jc E17 Z Z (Tv.temp1 1073741824 row_ct (by (try simp) <;> omega)) (dc d0 dn) (kc k0 kn) (fun _ => p0) (fun _ => p1) fun _ => ?_
  rw [show rowQ (atM (⟨2, [⟨[], [⟨5, 2, 0, 0, 1, 0, 0, []⟩, ⟨5, 3, 0, 2, 0, 0, 0, []⟩], ⟨7, 3, 0, [], 0⟩⟩]⟩) 0 1) ([0, 2]) = true from shL_row]
  refine jm Z (jk Z Z (.t _) (jla k1 A28 Z28 Z Z Z) (jgk Z Z (.t _) (jcd E21 Z Z (ranges_ct (m := ⟨2, [⟨[], [⟨5, 2, 0, 0, 1, 0, 0, []⟩, ⟨5, 3, 0, 2, 0, 0, 0, []⟩], ⟨7, 3, 0, [], 0⟩⟩]⟩) 0) (dc (rMFunc.M (m := ⟨2, [⟨[], [⟨5, 2, 0, 0, 1, 0, 0, []⟩, ⟨5, 3, 0, 2, 0, 0, 0, []⟩], ⟨7, 3, 0, [], 0⟩⟩]⟩) (c := (.slice (some ⟨g7, 0, none⟩) 1 1)) d1 (wl 2)) dn) kn fun v15 q5 w5 => jk Z Z (.t _) (jbu (v := .agg #[.int .i64 0, .int .i64 2]) Z (fun _ => by kernel_rfl)) (jgk Z Z (.t _) (jlit (r := rRange) (l := [⟨0, 2⟩]) U44 I47 (by decide) Z Z Z (lA (rRange.M (m := ⟨0, 2⟩) (c := ()) (wl 0) (wl 2)) ln) fun g17 => jgk Z Z (.t _) (jc E36 Z Z (Tv.temp1 1073741824 lawRanges_ct (by (try simp) <;> omega)) (dc d0 dn) (kc k0 kn) (fun _ => p0) (fun _ => p1) fun _ => ?_))))))
  rw [show rangesQ (rangesM (⟨2, [⟨[], [⟨5, 2, 0, 0, 1, 0, 0, []⟩, ⟨5, 3, 0, 2, 0, 0, 0, []⟩], ⟨7, 3, 0, [], 0⟩⟩]⟩) 0) ([⟨0, 2⟩]) = true from shL_rng]
  refine js (jand Z Z) (jm Z (jk Z Z (.t _) (jla k2 A28 Z28 Z Z Z) (jgk Z Z (.t _) (jcv E22 Z Z (together_ct (m := ⟨2, [⟨[], [⟨5, 2, 0, 0, 1, 0, 0, []⟩, ⟨5, 3, 0, 2, 0, 0, 0, []⟩], ⟨7, 3, 0, [], 0⟩⟩]⟩) 0 2) (dc (rMFunc.M (m := ⟨2, [⟨[], [⟨5, 2, 0, 0, 1, 0, 0, []⟩, ⟨5, 3, 0, 2, 0, 0, 0, []⟩], ⟨7, 3, 0, [], 0⟩⟩]⟩) (c := (.slice (some ⟨g7, 0, none⟩) 1 1)) d2 (wl 2)) dn) kn ?_))))
  rw [show togM (⟨2, [⟨[], [⟨5, 2, 0, 0, 1, 0, 0, []⟩, ⟨5, 3, 0, 2, 0, 0, 0, []⟩], ⟨7, 3, 0, [], 0⟩⟩]⟩) 0 2 = true from shL_tog1]
  refine js (jand Z Z) (jm Z (jk Z Z (.t _) (jla k2 A28 Z28 Z Z Z) (jgk Z Z (.t _) (jcv E22 Z Z (together_ct (m := ⟨2, [⟨[], [⟨5, 2, 0, 0, 1, 0, 0, []⟩, ⟨5, 3, 0, 2, 0, 0, 0, []⟩], ⟨7, 3, 0, [], 0⟩⟩]⟩) 0 3) (dc (rMFunc.M (m := ⟨2, [⟨[], [⟨5, 2, 0, 0, 1, 0, 0, []⟩, ⟨5, 3, 0, 2, 0, 0, 0, []⟩], ⟨7, 3, 0, [], 0⟩⟩]⟩) (c := (.slice (some ⟨g7, 0, none⟩) 1 1)) d2 (wl 2)) dn) kn ?_))))
  rw [show togM (⟨2, [⟨[], [⟨5, 2, 0, 0, 1, 0, 0, []⟩, ⟨5, 3, 0, 2, 0, 0, 0, []⟩], ⟨7, 3, 0, [], 0⟩⟩]⟩) 0 3 = false from shL_tog2]
  refine jk Z Z (.t _) (jnot Z) (js (jand Z Z) (jm Z (jk Z Z (.t _) (jla k2 A28 Z28 Z Z Z) (jgk Z Z (.t _) (jcv E24 Z Z (most_ct (m := ⟨2, [⟨[], [⟨5, 2, 0, 0, 1, 0, 0, []⟩, ⟨5, 3, 0, 2, 0, 0, 0, []⟩], ⟨7, 3, 0, [], 0⟩⟩]⟩)) (dc (rMFunc.M (m := ⟨2, [⟨[], [⟨5, 2, 0, 0, 1, 0, 0, []⟩, ⟨5, 3, 0, 2, 0, 0, 0, []⟩], ⟨7, 3, 0, [], 0⟩⟩]⟩) (c := (.slice (some ⟨g7, 0, none⟩) 1 1)) d2 (wl 2)) dn) kn ?_)))))
  rw [show mostM (⟨2, [⟨[], [⟨5, 2, 0, 0, 1, 0, 0, []⟩, ⟨5, 3, 0, 2, 0, 0, 0, []⟩], ⟨7, 3, 0, [], 0⟩⟩]⟩) = 2 from shL_most]
  refine jk Z Z (.t _) (jeql Z Z) (js (jand Z Z) (ja Z (jn (jx (jrt ?_)))))
  exact jrB Z Z (by first | rfl | decide)
theorem made10_ct {a0 : Value} {s : List Int} {N0 : Nat} : Ts Tryz.prog 12 #[a0] [dv (rLn N0 (rI .i64)) a0 s] [] rMFunc vMFunc (made10 s) := by
  refine jenter (args := [a0]) Tryz.func12 rfl rfl rfl fun w0 X => ?_
  refine jq (jr (jalc J28 Z fun g2 => jn (jx (jq (jr (jm Z (jm Z (jdq d0 fun q1 w1 => js (jln U22 d0 Z) (js (jmin Z Z) ?_)))))))))
  refine js (jshi (hi := (Int.toNat (min (↑(List.length s)) 200))) U22 Z3 d0 Z Z (by omega) (by omega)) (jdq (dhi d0 (Int.toNat (min (↑(List.length s)) 200)) (by omega) (by omega)) fun q2 w2 => jcs E37 Z Z r7made_ct (dc (dhi d0 (Int.toNat (min (↑(List.length s)) 200)) (by omega) (by omega)) dn) kn fun c8 => jdq (rMFunc.c_Blocks d0) fun q4 w4 => jsta k0 Z28 Z Z Z ⟨Z, w4.one, trivial⟩ (saf Z) (jn (jx (jrt ?_))))
  exact jrcA (val := vMFunc) (b := made7 (List.take (Int.toNat (min (↑(List.length s)) 200)) s)) (c := c8) Z Z k0 A28 Z28 Z (by rw [← take_min s 200 200 rfl]; rfl) d0
end Go.Proofs.YtehhjlkmbdhckaaGreat
namespace Go.Proofs.YtehhjlkmbdhckaaGreat
set_option linter.unusedVariables false
set_option linter.unusedSimpArgs false
set_option linter.unusedSectionVars false
open Go.JE
theorem preP_sum {m : D.MFunc} : ∀ {b : Nat}, b ≤ m.Blocks.length → ∀ p, ((preP m b p).length : Int) = p + sumB (m.Blocks.take b) := by
  have key : ∀ b p, (preP m b p).length = (preP m b 0).length + p := fun b p => by
    induction p with
    | zero => rfl
    | succ p ih => rw [preP_len, ih]; omega
  intro b
  induction b with
  | zero => intro _ p; rw [key]; simp [sumB, preP]
  | succ b ih =>
    intro hb p
    have h1 := ih (by omega) ((ix m.Blocks b).Ins.length + 1)
    rw [key, preP_blk, sumB_next (by omega)]; omega
theorem there_nat {m : D.MFunc} (hr : rightM m = true) {b p : Nat} (hb : b < m.Blocks.length) (hp : p ≤ (ix m.Blocks b).Ins.length) : thereM m b p = true := there_mk ⟨hr, by omega, by omega, by omega, by rw [Int.toNat_natCast]; omega⟩
theorem numM_pre {m : D.MFunc} (hr : rightM m = true) {b p : Nat} (hb : b < m.Blocks.length) (hp : p ≤ (ix m.Blocks b).Ins.length) : numM m b p = (preP m b p).length := by
  unfold numM
  rw [if_pos (there_nat hr hb hp), preP_sum (by omega), Int.toNat_natCast]
theorem numM_out {m : D.MFunc} {b : Nat} {p : Int} (hp : p < 0 ∨ ((ix m.Blocks b).Ins.length : Int) < p) : numM m b p = -1 := by
  unfold numM
  rw [if_neg]
  intro h
  have h1 := there_yes h
  rw [Int.toNat_natCast] at h1; omega
def prvT (l : List D.Range) (i : Nat) : Int := if i = 0 then -1 else (ix l (i - 1)).To
structure RS (l : List D.Range) (n : Int) : Prop where
  s : ∀ i, i < l.length → prvT l i < (ix l i).From ∧ (ix l i).From < (ix l i).To ∧ (ix l i).To ≤ n
theorem RS.step {r : Int} {l : List D.Range} {n : Nat} {S : List Int} (h : RS l n) : RS (rngS r l n S) ((n : Int) + 1) := by
  unfold rngS
  split
  · split
    · rename_i h2
      refine ⟨fun i hi => ?_⟩
      rw [List.length_set] at hi
      have h3 := h.s i hi
      have e : ∀ j, j < l.length → ix (l.set (l.length - 1) { ix l (l.length - 1) with To := (n : Int) + 1 }) j = if j = l.length - 1 then { ix l (l.length - 1) with To := (n : Int) + 1 } else ix l j := fun j hj => by
        rw [ix_set (by omega)]
      have e1 : prvT (l.set (l.length - 1) { ix l (l.length - 1) with To := (n : Int) + 1 }) i = prvT l i := by
        unfold prvT
        by_cases h0 : i = 0
        · rw [if_pos h0, if_pos h0]
        · rw [if_neg h0, if_neg h0, e (i - 1) (by omega), if_neg (by omega)]
      rw [e1, e i hi]
      by_cases h0 : i = l.length - 1
      · rw [if_pos h0]; subst h0; dsimp only; have := h2.2; omega
      · rw [if_neg h0]; omega
    · rename_i h2
      refine ⟨fun i hi => ?_⟩
      simp only [List.length_append, List.length_cons, List.length_nil] at hi
      have e : ∀ j, j < l.length → ix (l ++ [⟨(n : Int), (n : Int) + 1⟩]) j = ix l j := fun j hj => by
        rw [ix_eq (by simp; omega), ix_eq hj, List.getElem_append_left]
      by_cases h0 : i < l.length
      · have h3 := h.s i h0
        have e1 : prvT (l ++ [⟨(n : Int), (n : Int) + 1⟩]) i = prvT l i := by
          unfold prvT
          by_cases h0 : i = 0
          · rw [if_pos h0, if_pos h0]
          · rw [if_neg h0, if_neg h0, e (i - 1) (by omega)]
        rw [e1, e i h0]; omega
      · have h4 : i = l.length := by omega
        have e2 : ix (l ++ [(⟨(n : Int), (n : Int) + 1⟩ : D.Range)]) i = ⟨(n : Int), (n : Int) + 1⟩ := by
          rw [ix_eq (by simp; omega)]; simp [h4]
        rw [e2]
        have e1 : prvT (l ++ [⟨(n : Int), (n : Int) + 1⟩]) i < n := by
          unfold prvT
          by_cases h5 : i = 0
          · rw [if_pos h5]; omega
          · rw [if_neg h5, e (i - 1) (by omega)]
            have h6 := h.s (i - 1) (by omega)
            have h7 : ¬ (ix l (i - 1)).To = n := fun h8 => h2 ⟨by omega, by rw [← h4]; exact h8⟩
            omega
        dsimp only; omega
  · exact ⟨fun i hi => by have := h.s i hi; omega⟩
theorem RS.fold {m : D.MFunc} {r : Int} : ∀ (q : List (Nat × Nat)) (l : List D.Range) (k : Nat), RS l k → RS ((q.zipIdx k).foldl (fun s x => rngS r s x.2 (hasE m x.1.1 x.1.2)) l) ((k : Int) + q.length)
  | [], l, k, h => by simpa using h
  | x :: q, l, k, h => by
    rw [List.zipIdx_cons, List.foldl_cons]
    have h1 := RS.fold (m := m) (r := r) q (rngS r l k (hasE m x.1 x.2)) (k + 1) h.step
    rw [List.length_cons]
    have e : ((k + 1 : Nat) : Int) + (q.length : Int) = (k : Int) + ((q.length + 1 : Nat) : Int) := by omega
    rw [← e]; exact h1
theorem ranges_rs {m : D.MFunc} (hr : rightM m = true) (r : Int) : RS (rangesM m r) (preP m m.Blocks.length 0).length := by
  unfold rangesM stM
  rw [if_pos hr]
  have := RS.fold (m := m) (r := r) (preP m m.Blocks.length 0) [] 0 ⟨fun i hi => by cases hi⟩
  simpa using this
theorem ranges_len {m : D.MFunc} (hr : rightM m = true) (r : Int) : (rangesM m r).length ≤ (preP m m.Blocks.length 0).length := by unfold rangesM; rw [if_pos hr]; exact stR_len
end Go.Proofs.YtehhjlkmbdhckaaGreat
namespace Go.Proofs.YtehhjlkmbdhckaaGreat
set_option linter.unusedVariables false
set_option linter.unusedSimpArgs false
set_option linter.unusedSectionVars false
open Go.JE
theorem E11 : Ent Tryz.prog 11 := ⟨_, Tryz.func11, by kernel_rfl, by kernel_rfl⟩
theorem E12 : Ent Tryz.prog 12 := ⟨_, Tryz.func12, by kernel_rfl, by kernel_rfl⟩
theorem F47_0 : Fld Tryz.prog 47 0 0 := ⟨_, _, Tryz.underlying47, rfl, rfl, 1, (by unfold Sz; kernel_rfl), by decide⟩
set_option maxRecDepth 8000
attribute [local irreducible] made10
set_option maxRecDepth 20000 in
set_option maxHeartbeats 4000000 in
theorem liveNumbers_ct {a0 : Value} {s : List Int} {N0 : Nat} : Tv Tryz.prog 5 #[a0] [dv (rLn N0 (rI .i64)) a0 s] [] (.bool true) := by
  refine jenter (args := [a0]) Tryz.func5 rfl rfl rfl fun w0 X => ?_
  have hr : rightM (made10 s) = true := by unfold made10; exact made7_right _
  refine jq (jr (ja Z (jn (jx (jq (jr (jcv E11 Z Z shown_ct dn kn (ja Z (jn (jx (jq ?_)))))))))))
  refine jr (jm Z (jdq d0 fun q1 w1 => jcs E12 Z Z made10_ct (dc d0 dn) kn fun c15 => ?_))
  generalize hma : made10 s = ma at hr ⊢
  have hn0 := (right_wf hr).n0
  have hq := right_ins hr
  refine jalc J28 Z fun g4 => jdq (rMFunc.c_Blocks d0) fun q3 w3 => jsta k0 Z28 Z Z Z ⟨Z, w3.one, trivial⟩ (saf Z) (jn (jx (jq (jr (ja Z (jn (jx (jq (jq ?_)))))))))
  refine jr (ja Z (jn (jx (jb ?_))))
  have h00 : (preP ma 0 0).length = 0 := rfl
  refine jlp (fun (b : Nat) => ⟨b ≤ ma.Blocks.length, [da rMFunc (vMFunc ma c15) ma], [bx g4 28 [.int .i64 ma.Params, c15]], [(3, .bool true), (4, .pointer (some ⟨g4, 0, none⟩)), (5, .int .i64 (↑((preP ma b 0).length))), (6, .int .i64 (↑b))], ma.Blocks.length - b⟩) 0 (by omega) (dc d0 dn) (kc k0 kn) ⟨Z, Z, eqI (by omega), eqI (by omega), trivial⟩ ?_
  rintro b; dsimp only; rintro hb
  refine jq (jq (jr (jm Z (js (jf F28_1 Z) (js (jl k0 O26 Z Z) (js (jln U26 (rMFunc.c_Blocks d0) Z) (js (jlss Z Z) (jn (jx ?_)))))))))
  refine jif Z (fun hc1 => ?_) (fun hc1 => ?_)
  refine jsk (jx (jq (jb (jq (jq (jr (ja Z (jn (jx (jb ?_))))))))))
  have hbb : b < ma.Blocks.length := by omega
  have hqb := hq b hbb
  refine jlp (fun (p : Nat) => ⟨p ≤ (ix ma.Blocks b).Ins.length + 1, [da rMFunc (vMFunc ma c15) ma], [bx g4 28 [.int .i64 ma.Params, c15]], [(3, .bool true), (4, .pointer (some ⟨g4, 0, none⟩)), (5, .int .i64 (↑((preP ma b p).length))), (6, .int .i64 (↑b)), (7, .int .i64 (↑p))], (ix ma.Blocks b).Ins.length + 1 - p⟩) 0 (by omega) (dc d0 dn) (kc k0 kn) ⟨Z, Z, eqI (by omega), Z, eqI (by omega), trivial⟩ ?_
  rintro p; dsimp only; rintro hp
  have hpb := preP_bd2 hq (b := b) (p := p) hbb (by omega) (by omega)
  refine jq (jq (jr (jm Z (js (jf F28_1 Z) (js (jl k0 O26 Z Z) (jm Z (js (jix U26 Z37 (rMFunc.c_Blocks d0) Z Z Z (by omega)) (js (jf F37_1 Z) (jev (jlV (rMBlock.A_Ins (dix (rMFunc.c_Blocks d0) b (by omega))) O33 Z Z) fun v29 q4 w4 => js (jln U33 d0 Z) (js (jleq Z Z) ?_))))))))))
  refine jn (jx ?_)
  refine jif Z (fun hc2 => ?_) (fun hc2 => ?_)
  have hpp : p ≤ (ix ma.Blocks b).Ins.length := by omega
  refine jsk (jx (jq (jb (jq (jq (jr (js (jla k0 A28 Z28 Z Z Z) (jm Z (jm Z (jcv E15 Z Z (number_ct ↑b ↑p) (dc d1 dn) kn (jm Z ?_)))))))))))
  refine js (jneq Z Z) ?_
  rw [show (!decide (numM ma ((b : Nat) : Int) ((p : Nat) : Int) = (((preP ma b p).length : Nat) : Int))) = false from by rw [numM_pre hr hbb hpp]; simp]
  refine jn (jx ?_)
  refine jif Z (fun hc3 => ?_) (fun hc3 => ?_)
  exact absurd hc3 (by simp)
  refine jsk (jx (jr (jm Z (js (jadd Z Z (by omega)) (ja Z (jn (jbn (jx (jr (jm Z (js (jadd Z Z (by omega)) ?_)))))))))))
  refine ja Z (jn ?_)
  have hpl := preP_len (m := ma) (b := b) (p := p)
  exact jag (p + 1) (by omega) (dc d1 dn) (kc k0 kn) ⟨Z, Z, eqI (by omega), Z, eqI (by omega), trivial⟩
  refine jex (jtx (jtx (jbh (jx (jq (jany false (.a 0 (.a 1 (.a 2 (.a 3 (.a 4 (.a 5 (.a 6 (.a 7 (.a 8 (.a 9 (.o 10 (.a 11 (.a 12 (.a 13 (.a 14 (.o 15 (.a 16 (.a 17 .e)))))))))))))))))) Mixed (by kernel_rfl) (kc k0 kn) fun F6 => jy Z (jla k0 A28 Z28 Z Z Z) (jy Z (jmv Z) (jy Z (jf F28_1 Z) (jy Z (jl k0 O26 Z Z) (jy Z (jmv Z) ?_))))))))))
  refine jy Z (jix U26 Z37 (rMFunc.c_Blocks d1) Z Z Z (by omega)) (jy Z (jf F37_1 Z) (jye (q := fun v => dv (rL rMach) v ((ix ma.Blocks b).Ins)) Z (xlV (rMBlock.A_Ins (dix (rMFunc.c_Blocks d1) b (by omega))) O33 Z Z) fun v49 => adq d0 fun q8 w8 => jy Z (jln U33 d0 Z) (jy Z (jadd Z Z (by omega)) (jyo Z (jcv E15 Z Z (number_ct ↑b ((((List.length ((ix ma.Blocks b).Ins) : Nat) : Int)) + 1)) (dc d3 dn) kn (jyn d0 (kc k0 kn) (jy Z (jneq Z Z) ?_)))))))
  rw [show (!decide (numM ma ((b : Nat) : Int) ((((List.length ((ix ma.Blocks b).Ins) : Nat) : Int)) + 1) = (-1))) = false from by rw [numM_out (by omega)]; rfl]
  refine jy Z (jmv Z) (jyk Z Z Z (.f _) (jla k0 A28 Z28 Z Z Z) (jyk Z Z Z (.f _) (jmv Z) (jyo Z (jgk Z Z (.f _) (jcv E15 Z Z (number_ct ↑b (-1)) (dc d4 dn) kn (jyn d0 (kc k0 kn) (jyk Z Z Z (.f _) (jneq Z Z) ?_)))))))
  rw [show (!decide (numM ma ((b : Nat) : Int) (-1) = (-1))) = false from by rw [numM_out (by omega)]; rfl]
  refine jy Z (jor Z Z) (jyd (jx ?_))
  refine jif Z (fun hc4 => ?_) (fun hc4 => ?_)
  exact absurd hc4 (by simp)
  refine jsk (jbn (jx (jr (jm Z (js (jadd Z Z (by omega)) (ja Z (jn ?_)))))))
  have hpe : p = (ix ma.Blocks b).Ins.length + 1 := by omega
  have hpl : (preP ma (b + 1) 0).length = (preP ma b p).length := by rw [preP_blk, hpe]
  exact jag (b + 1) (by omega) (dc d4 dn) (kc k0 kn) ⟨Z, Z, eqI (by omega), eqI (by omega), trivial⟩
  refine jex (jtx (jtx (jbh (jx (jq (jr (js (jla k0 A28 Z28 Z Z Z) (jcd E20 Z Z (regs_ct hr) (dc d0 dn) kn fun v61 q11 w11 => ja Z (jn (jx ?_))))))))))
  refine jq (jq (jr (ja Z (jn (jx (jb ?_))))))
  have hbN : b = ma.Blocks.length := by omega
  have hpA := preP_all hq hn0.2
  refine jlp (fun (k : Nat) => ⟨k ≤ (regsM ma).length, [dv (rL (rI .i64)) v61 (regsM ma), da rMFunc (vMFunc ma c15) ma], [bx g4 28 [.int .i64 ma.Params, c15]], [(3, .bool true), (4, .pointer (some ⟨g4, 0, none⟩)), (5, .int .i64 (↑((preP ma b 0).length))), (8, v61), (9, .int .i64 (↑k))], (regsM ma).length - k⟩) 0 (by omega) (dc d0 (dc d1 dn)) (kc k0 kn) ⟨Z, Z, Z, Z, eqI (by omega), trivial⟩ ?_
  rintro k; dsimp only; rintro hk
  refine jq (jq (jr (jm Z (jm Z (js (jln U22 d0 Z) (js (jlss Z Z) (jn (jx ?_))))))))
  refine jif Z (fun hc5 => ?_) (fun hc5 => ?_)
  refine jsk (jx (jq (jb (jq (jtl 5 Mixed (by kernel_rfl) (jt (jla k0 A28 Z28 Z Z Z) (jt (jmv Z) (jt (jmv Z) (jt (jix U22 Z3 d0 Z Z Z (by omega)) (jt (jlI (dix d0 k (by omega)) O3 Z) (jtt ?_)))))))))))
  refine jcd E21 Z Z (ranges_ct (ix (regsM ma) k)) (dc d1 dn) kn fun v73 q13 w13 => ja Z (jn (jx (jq (jr (ja Z (jn (jx (jq (jr (ja Z ?_))))))))))
  refine jn (jx (jb ?_))
  have hRS := ranges_rs hr (ix (regsM ma) k)
  have hRL := ranges_len hr (ix (regsM ma) k)
  refine jlp (fun (i : Nat) => ⟨i ≤ (rangesM ma (ix (regsM ma) k)).length, [dv (rL rRange) v73 (rangesM ma (ix (regsM ma) k)), dv (rL (rI .i64)) v61 (regsM ma), da rMFunc (vMFunc ma c15) ma], [bx g4 28 [.int .i64 ma.Params, c15]], [(3, .bool true), (4, .pointer (some ⟨g4, 0, none⟩)), (5, .int .i64 (↑((preP ma b 0).length))), (8, v61), (9, .int .i64 (↑k)), (10, v73), (11, .int .i64 (prvT (rangesM ma (ix (regsM ma) k)) i)), (12, .int .i64 (↑i))], (rangesM ma (ix (regsM ma) k)).length - i⟩) 0 (by omega) (dc d0 (dc d1 (dc d2 dn))) (kc k0 kn) ⟨Z, Z, Z, Z, Z, Z, eqI (by simp [prvT]), eqI (by omega), trivial⟩ ?_
  rintro i; dsimp only; rintro hi
  refine jq (jq (jr (jm Z (jm Z (js (jln U44 d0 Z) (js (jlss Z Z) (jn (jx ?_))))))))
  refine jif Z (fun hc6 => ?_) (fun hc6 => ?_)
  refine jsk (jx (jq (jb (jq (jq (jstl Mixed (by kernel_rfl) (jt (jmv Z) (jt (jmv Z) (jt (jix U44 Z47 d0 Z Z Z (by omega)) (jt (jf F47_0 Z) (jt (jlI (rRange.A_From (dix d0 i (by omega))) O3 Z) ?_)))))))))))
  refine jt (jmv Z) (jt (jleq Z Z) (jt (jmv Z) (jtg Z Z (.f _) (fun hg => jmv Z) (jtg Z Z (.f _) (fun hg => jmv Z) (jtg Z Z (.f _) (fun hg => jix U44 Z47 d0 (evg Z hg) (evg Z hg) Z (by first | omega | (simp at hg; omega) | (simp only [List.length_set]; omega))) (jtg Z Z (.f _) (fun hg => jf F47_1 (evg Z hg)) (jtg Z Z (.f _) (fun hg => jlI (rRange.A_To (dix d0 i (by first | omega | (simp at hg; omega) | (simp only [List.length_set]; omega)))) O3 (evg Z hg)) (jtg Z Z (.f _) (fun hg => jmv Z) (jtg Z Z (.f _) (fun hg => jmv Z) (jtg Z Z (.f _) (fun hg => jix U44 Z47 d0 (evg Z hg) (evg Z hg) Z (by first | omega | (simp at hg; omega) | (simp only [List.length_set]; omega))) (jtg Z Z (.f _) (fun hg => jf F47_0 (evg Z hg)) ?_)))))))))))
  refine jtg Z Z (.f _) (fun hg => jlI (rRange.A_From (dix d0 i (by first | omega | (simp at hg; omega) | (simp only [List.length_set]; omega)))) O3 (evg Z hg)) (jtg Z Z (.f _) (fun hg => jleq (evg Z hg) (evg Z hg)) (jt (jor Z Z) (jt (jmv Z) (jtg Z Z (.f _) (fun hg => jmv Z) (jtg Z Z (.f _) (fun hg => jmv Z) (jtg Z Z (.f _) (fun hg => jix U44 Z47 d0 (evg Z hg) (evg Z hg) Z (by first | omega | (simp at hg; omega) | (simp only [List.length_set]; omega))) (jtg Z Z (.f _) (fun hg => jf F47_1 (evg Z hg)) (jtg Z Z (.f _) (fun hg => jlI (rRange.A_To (dix d0 i (by first | omega | (simp at hg; omega) | (simp only [List.length_set]; omega)))) O3 (evg Z hg)) (jtg Z Z (.f _) (fun hg => jmv Z) (jtg Z Z (.f _) (fun hg => jgtr (evg Z hg) (evg Z hg)) (jt (jor Z Z) ?_)))))))))))
  rw [show (((decide ((ix (rangesM ma (ix (regsM ma) k)) i).From ≤ prvT (rangesM ma (ix (regsM ma) k)) i)) || (decide ((ix (rangesM ma (ix (regsM ma) k)) i).To ≤ (ix (rangesM ma (ix (regsM ma) k)) i).From))) || (decide ((((preP ma b 0).length : Nat) : Int) < (ix (rangesM ma (ix (regsM ma) k)) i).To))) = false from by have h9 := hRS.s i (by omega); rw [← hbN] at h9; simp; omega]
  refine jdn (jx ?_)
  refine jif Z (fun hc7 => ?_) (fun hc7 => ?_)
  exact absurd hc7 (by simp)
  refine jsk (jx (jr (jm Z (jm Z (js (jix U44 Z47 d0 Z Z Z (by omega)) (js (jf F47_1 Z) (js (jlI (rRange.A_To (dix d0 i (by omega))) O3 Z) (ja Z (jn (jbn (jx ?_)))))))))))
  refine jr (jm Z (js (jadd Z Z (by omega)) (ja Z (jn ?_))))
  exact jag (i + 1) (by omega) (dc d0 (dc d1 (dc d2 dn))) (kc k0 kn) ⟨Z, Z, Z, Z, Z, Z, eqI (by simp [prvT]), eqI (by omega), trivial⟩
  refine jex (jtx (jtx (jbh (jbn (jx (jr (jm Z (js (jadd Z Z (by omega)) (ja Z (jn ?_))))))))))
  exact jag (k + 1) (by omega) (dc d1 (dc d2 dn)) (kc k0 kn) ⟨Z, Z, Z, Z, eqI (by omega), trivial⟩
  refine jex (jtx (jtx (jbh (jx (jq (jr (jm Z (ja Z (jn (jx (jrt ?_)))))))))))
  exact jrB Z Z (by rfl)
end Go.Proofs.YtehhjlkmbdhckaaGreat
