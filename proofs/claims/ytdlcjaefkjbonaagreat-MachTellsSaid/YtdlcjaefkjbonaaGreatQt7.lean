/- Lemmas that the claim is made of. Conditions: each lemma names its own. -/
import Derived.Test.YtdlcjaefkjbonaaGreatQt6
namespace Go.Proofs.YtdlcjaefkjbonaaGreat
set_option linter.unusedVariables false
set_option linter.unusedSimpArgs false
set_option linter.unusedSectionVars false
open Go.JE
abbrev U40 := @Tryz.underlying40
theorem A36 : ∃ d, Tryz.prog.underlying 36 = some d ∧ (match d with | .struct _ | .array _ _ => true | _ => false) = true := ⟨_, Tryz.underlying36, rfl⟩
theorem A42 : ∃ d, Tryz.prog.underlying 42 = some d ∧ (match d with | .struct _ | .array _ _ => true | _ => false) = true := ⟨_, Tryz.underlying42, rfl⟩
theorem A85 : ∃ d, Tryz.prog.underlying 85 = some d ∧ (match d with | .struct _ | .array _ _ => true | _ => false) = true := ⟨_, Tryz.underlying85, rfl⟩
theorem E11 : Ent Tryz.prog 11 := ⟨_, Tryz.func11, by kernel_rfl, by kernel_rfl⟩
theorem E30 : Ent Tryz.prog 30 := ⟨_, Tryz.func30, by kernel_rfl, by kernel_rfl⟩
theorem E31 : Ent Tryz.prog 31 := ⟨_, Tryz.func31, by kernel_rfl, by kernel_rfl⟩
theorem E32 : Ent Tryz.prog 32 := ⟨_, Tryz.func32, by kernel_rfl, by kernel_rfl⟩
theorem E33 : Ent Tryz.prog 33 := ⟨_, Tryz.func33, by kernel_rfl, by kernel_rfl⟩
theorem E35 : Ent Tryz.prog 35 := ⟨_, Tryz.func35, by kernel_rfl, by kernel_rfl⟩
theorem F36_0 : Fld Tryz.prog 36 0 0 := ⟨_, _, Tryz.underlying36, rfl, rfl, 1, (by unfold Sz; kernel_rfl), by decide⟩
theorem F36_2 : Fld Tryz.prog 36 2 2 := ⟨_, _, Tryz.underlying36, rfl, rfl, 1, (by unfold Sz; kernel_rfl), by decide⟩
theorem F36_3 : Fld Tryz.prog 36 3 3 := ⟨_, _, Tryz.underlying36, rfl, rfl, 1, (by unfold Sz; kernel_rfl), by decide⟩
theorem F42_0 : Fld Tryz.prog 42 0 0 := ⟨_, _, Tryz.underlying42, rfl, rfl, 1, (by unfold Sz; kernel_rfl), by decide⟩
theorem F42_1 : Fld Tryz.prog 42 1 1 := ⟨_, _, Tryz.underlying42, rfl, rfl, 1, (by unfold Sz; kernel_rfl), by decide⟩
theorem F42_2 : Fld Tryz.prog 42 2 2 := ⟨_, _, Tryz.underlying42, rfl, rfl, 1, (by unfold Sz; kernel_rfl), by decide⟩
theorem F42_3 : Fld Tryz.prog 42 3 3 := ⟨_, _, Tryz.underlying42, rfl, rfl, 1, (by unfold Sz; kernel_rfl), by decide⟩
theorem F42_4 : Fld Tryz.prog 42 4 4 := ⟨_, _, Tryz.underlying42, rfl, rfl, 1, (by unfold Sz; kernel_rfl), by decide⟩
theorem F59_4 : Fld Tryz.prog 59 4 4 := ⟨_, _, Tryz.underlying59, rfl, rfl, 1, (by unfold Sz; kernel_rfl), by decide⟩
theorem F85_1 : Fld Tryz.prog 85 1 1 := ⟨_, _, Tryz.underlying85, rfl, rfl, 1, (by unfold Sz; kernel_rfl), by decide⟩
theorem I85 : (Tryz.prog.info? 85).map (fun i => (i.zero, i.size, i.bytes)) = some (some (.agg #[.int .i32 0, .slice none 0 0]), 2, 32) := by kernel_rfl
theorem O40 : One Tryz.prog 40 := ⟨_, Tryz.underlying40, rfl⟩
theorem Z34 : Sz Tryz.prog 34 1 := by unfold Sz; kernel_rfl
theorem Z36 : Sz Tryz.prog 36 4 := by unfold Sz; kernel_rfl
theorem Z40 : Sz Tryz.prog 40 1 := by unfold Sz; kernel_rfl
theorem Z42 : Sz Tryz.prog 42 5 := by unfold Sz; kernel_rfl
theorem Z85 : Sz Tryz.prog 85 2 := by unfold Sz; kernel_rfl
theorem J42 : (Tryz.prog.info? 42).bind (·.zero) = some (.agg #[.int .i64 0, .int .i32 0, .slice none 0 0, .slice none 0 0, .int .i64 0]) := by kernel_rfl
theorem J85 : (Tryz.prog.info? 85).bind (·.zero) = some (.agg #[.int .i32 0, .slice none 0 0]) := by kernel_rfl
theorem pStop_ct (kd : Int) (x : Int) {e0 v0 z0 : Int} {m0 c0 : Value} {g2 : Nat} (om : m0.oneCell' = true) (oc : c0.oneCell' = true) : Tr Tryz.prog 31 #[.int .i64 kd, .int .i32 x, .pointer (some ⟨g2, 0, none⟩)] [] [bx g2 42 [.int .i64 e0, .int .i32 v0, m0, c0, .int .i64 z0]] (fun _ : Unit => .agg #[.int .i64 kd, .int .i32 x, m0, c0, .int .i64 z0]) (fun _ => []) (fun _ _ => [bx g2 42 [.int .i64 kd, .int .i32 x, m0, c0, .int .i64 z0]]) := by
  refine jenter (args := [.int .i64 kd, .int .i32 x, .pointer (some ⟨g2, 0, none⟩)]) Tryz.func31 rfl rfl rfl fun w0 X => ?_
  refine jq (jr (jalc J42 ζ fun g5 => jn (jx (jq (jr (jm ζ (jm ζ (js (jf F42_0 ζ) (jst k1 Z3 ζ ζ ζ s0 (js (jf F42_1 ζ) ?_))))))))))
  refine jst k0 Z21 ζ ζ ζ s1 (jn (jx (jq (jr (js (jla k0 A42 Z42 ζ ζ ζ) (jsta k1 Z42 ζ ζ ζ ⟨ζ, ζ, om, oc, ζ, trivial⟩ (saf ζ) (jn (jx (jrt ?_)))))))))
  exact jrc ζ ζ k0 A42 Z42 () ζ dn (fun _ _ => (kc k1 kn))
set_option maxRecDepth 8000 in
set_option maxHeartbeats 4000000 in
theorem pRun_ct {a0 : Value} {m : D.MFunc} {a1a a1b a1c : Value} {i : D.Input} (hstp : i.Steps ≤ 1000000) : Ts Tryz.prog 14 #[vMFunc m a0, vInput i (a1a, a1b, a1c)] [da rMFunc (vMFunc m a0) m, da rInput (vInput i (a1a, a1b, a1c)) i] [] rOutcome vOutcome (runM m i) := by
  refine jenter (args := [vMFunc m a0, vInput i (a1a, a1b, a1c)]) Tryz.func14 rfl rfl rfl fun w0 X => ?_
  refine jq (jr (jbox ζ ζ fun g2 => jbox ζ ζ fun g3 => jalc J42 ζ fun g4 => jn (jx (jsc (jq (jq (jr (js (jla k2 A28 Z28 ζ ζ ζ) ?_))))))))
  refine jcv E11 ζ ζ pRight_ct (dc d0 dn) kn (js (jnot ζ) (jn (jx ?_)))
  refine jif ζ (fun hc1 => ?_) (fun hc1 => ?_)
  refine jq (jr (js (jbu (v := .agg #[.int .i64 4, .int .i32 0, .slice none 0 0, .slice none 0 0, .int .i64 0]) ζ (fun _ => by kernel_rfl)) (jsta k0 Z42 ζ ζ ζ ⟨ζ, ζ, ζ, ζ, ζ, trivial⟩ (saf ζ) (jn (jx (jrt (jtr (jso ?_))))))))
  exact jrcA (val := vOutcome) (b := ⟨4, 0, [], [], 0⟩) (c := (.slice none 0 0, .slice none 0 0)) ζ ζ k0 A42 Z42 ζ (by first | exact run_wrong (by simpa using hc1) | exact ins_stop hI (by omega) hc3 | exact ins_trap hI (by omega) hc3 hc4 (by simpa using hc7) | exact end_stop hI (by omega) hc8 | exact end_ret hI (by omega) hc8 hc9 | exact end_trap hI (by omega) hc8 hc9 hc10) (rOutcome.M (m := ⟨4, 0, [], [], 0⟩) (c := (.slice none 0 0, .slice none 0 0)) wN wN (wl 4) (wl 0) (wl 0))
  have hR : rightM m = true := by simpa using hc1
  have hW := right_wf hR
  have hp0 := hW.p0
  have hn0 := hW.n0
  refine jsk (jx (jq (jr (js (jla k1 A36 Z36 ζ ζ ζ) (jcg E30 ζ ζ pMem_ct (dc d1 dn) kn fun v24 w1 => js (jbu (v := .agg #[.int .i64 0, .int .i32 0, v24, .slice none 0 0, .int .i64 0]) ζ (fun _ => by obtain ⟨_, _, _, rfl⟩ := w1; kernel_rfl)) (jalc J42 ζ fun g5 => jsta k0 Z42 ζ ζ ζ ⟨ζ, ζ, w1.one, ζ, ζ, trivial⟩ (saf ζ) (jn (jx (jq ?_)))))))))
  refine jr (jmk (m := 8192) (r := (rI .i32)) U34 I21 ζ ζ ζ ζ ζ (by omega) (wI (wp (by decide))) ζ fun g26 => ja ζ (jn (jx (jq (jtl 6 Mixed (by kernel_rfl) (jt (jmv ζ) (jt (jf F28_0 ζ) (jt (jl k5 O3 ζ ζ) (jt (jshg (hi := (Int.toNat m.Params)) U34 Z21 k0 ζ ζ (by omega) (by rw [lrep]; omega)) (jt (jf F36_0 ζ) ?_))))))))))
  refine jt (jl k4 O34 ζ ζ) (jtt (jdq (rInput.c_Args d1) fun q2 w2 => jcpy U34 I21 ζ ζ ζ k0 (by rw [lrep]; omega) (rInput.c_Args d1) (jn (jx (jq (jr (js (jf F36_2 ζ) (js (jl k4 O34 ζ ζ) (ja ζ (jn ?_))))))))))
  refine jx (jq (jr (js (jmf1 ζ) (ja ζ (jn (jx (jq (jr (ja ζ (ja ζ (jn ?_)))))))))))
  refine jx (jq (jlab (jx (jq (jb (cnl (r := rEvent) (E := 85) ?_))))))
  refine jlp (u10 fun (f : Nat) (ab : Int) (fb : Int) (rs : List Int) (me : List Int) (cl : List D.Event) (an : List Int) (s9 : Int) (vc : Value) (va : Value) => ⟨0 < f ∧ runM m i = blockRun m.Blocks i.Steps f ab fb rs me cl an s9 ∧ (0 ≤ ab ∧ ab < m.Blocks.length) ∧ (∀ p ∈ (ix m.Blocks (Int.toNat ab)).Phis, phiOk fb 8192 p) ∧ rs.length = 8192 ∧ me.length ≤ 4096 ∧ 0 ≤ s9 ∧ cl.length ≤ s9 ∧ (s9 ≤ i.Steps ∨ s9 = 0) ∧ i.Steps - s9 < f, [da rMFunc (vMFunc m a0) m, da rInput (vInput i (a1a, a1b, a1c)) i, dv (rL (rI .i32)) va an], [gl X.n rEvent 85 vc cl, gl X.n (rI .i32) 21 (.slice (some ⟨g26, 0, none⟩) 8192 8192) rs, bx g5 42 [.int .i64 0, .int .i32 0, v24, vc, .int .i64 s9], gl X.n (rI .i32) 21 v24 me, bx g4 42 [.int .i64 0, .int .i32 0, .slice none 0 0, .slice none 0 0, .int .i64 0], bx g3 36 [a1a, a1b, a1c, .int .i64 i.Steps], bx g2 28 [.int .i64 m.Params, a0]], [(2, .pointer (some ⟨g2, 0, none⟩)), (3, .pointer (some ⟨g3, 0, none⟩)), (4, .pointer (some ⟨g4, 0, none⟩)), (5, .pointer (some ⟨g5, 0, none⟩)), (6, (.slice (some ⟨g26, 0, none⟩) 8192 8192)), (7, va), (8, .func (.func 31) #[] #[.pointer (some ⟨g5, 0, none⟩)]), (9, .int .i64 ab), (10, .int .i64 fb)], f⟩) (Int.toNat i.Steps + 1, 0, (-1), startR m i, memM i, [], i.Answers, 0, .slice none 0 0, a1c) ⟨by dsimp only; omega, run_right hR, by dsimp only; omega, hW.from0, startR_len hW i, memM_len i, Int.le_refl _, by simp, by dsimp only; omega, by dsimp only; omega⟩ (dc d0 (dc d1 (dc (rInput.c_Answers d1) dn))) (kc k0 (kc k0 (kc k0 (kc k0 (kc k0 (kc k0 (kc k0 kn))))))) ⟨ζ, ζ, ζ, ζ, ζ, ζ, ζ, ζ, ζ, trivial⟩ ?_
  rintro ⟨f, ab, fb, rs, me, cl, an, s9, vc, va⟩; dsimp only [u10]; rintro ⟨hf, hrun, hat, hfr, hrl, hml, hs0, hcl, hst, hfu⟩
  refine cgo k0 fun w4 => cdq d2 fun q5 w5 => jb (jq (jr (js (jf F28_1 ζ) (js (jl k6 O26 ζ ζ) (jm ζ (jdq (rMFunc.c_Blocks d0) fun q6 w6 => js (jix (i := (Int.toNat ab)) U26 Z71 (rMFunc.c_Blocks d0) ζ ζ (by omega) (by omega)) (jA3 sMBlock (jlA (dix (rMFunc.c_Blocks d0) (Int.toNat ab) (by omega)) A71 Z71 ζ) fun c41a c41b c41c => jalc J71 ζ fun g11 => ?_)))))))
  refine jdq (rMBlock.c_Phis d0) fun q8 w8 => jdq (rMBlock.c_Ins d0) fun q9 w9 => jdq (rMBlock.c_End_To d0) fun q10 w10 => jsta k0 Z71 ζ ζ ζ ⟨w8.one, w9.one, ζ, ζ, ζ, w10.one, ζ, trivial⟩ (saf ζ) (jn (jx (jq (jr (js (jf F71_0 ζ) (js (jl k0 O68 ζ ζ) (jm ζ (jm ζ ?_))))))))
  refine jc E32 ζ ζ (pPhis_ct fb (by omega) (by rw [hrl]; exact hfr)) (dc (rMBlock.c_Phis d0) dn) (kc k2 kn) (fun _ => p0) (fun _ => p1) fun _ => jn (jx (jq (jq (jr (js (jf F71_1 ζ) (js (jl k1 O69 ζ ζ) (js (jln U69 (rMBlock.c_Ins d0) ζ) (jm ζ (jn (jx ?_))))))))))
  refine jb ?_
  refine jlp (u8 fun (k : Nat) (rs2 : List Int) (me2 : List Int) (cl2 : List D.Event) (an2 : List Int) (s2 : Int) (vc2 : Value) (va2 : Value) => ⟨k ≤ (ix m.Blocks (Int.toNat ab)).Ins.length ∧ runM m i = insRun i.Steps (endRun i.Steps (ix m.Blocks (Int.toNat ab)).End (fun t => blockRun m.Blocks i.Steps (f - 1) t ab)) ((ix m.Blocks (Int.toNat ab)).Ins.drop k) rs2 me2 cl2 an2 s2 ∧ rs2.length = 8192 ∧ me2.length ≤ 4096 ∧ s9 ≤ s2 ∧ cl2.length ≤ s2 ∧ (s2 ≤ i.Steps ∨ s2 = 0), [da rMBlock (vMBlock (ix m.Blocks (Int.toNat ab)) (c41a, c41b, c41c)) (ix m.Blocks (Int.toNat ab)), da rMFunc (vMFunc m a0) m, da rInput (vInput i (a1a, a1b, a1c)) i, dv (rL (rI .i32)) va2 an2], [gl X.n (rI .i32) 21 (.slice (some ⟨g26, 0, none⟩) 8192 8192) rs2, bx g11 71 [c41a, c41b, .int .i64 (((ix m.Blocks (Int.toNat ab)).End).Op), .int .i64 (((ix m.Blocks (Int.toNat ab)).End).A), .int .i64 (((ix m.Blocks (Int.toNat ab)).End).B), c41c, .int .i32 (((ix m.Blocks (Int.toNat ab)).End).Imm)], gl X.n rEvent 85 vc2 cl2, bx g5 42 [.int .i64 0, .int .i32 0, v24, vc2, .int .i64 s2], gl X.n (rI .i32) 21 v24 me2, bx g4 42 [.int .i64 0, .int .i32 0, .slice none 0 0, .slice none 0 0, .int .i64 0], bx g3 36 [a1a, a1b, a1c, .int .i64 i.Steps], bx g2 28 [.int .i64 m.Params, a0]], [(2, .pointer (some ⟨g2, 0, none⟩)), (3, .pointer (some ⟨g3, 0, none⟩)), (4, .pointer (some ⟨g4, 0, none⟩)), (5, .pointer (some ⟨g5, 0, none⟩)), (6, (.slice (some ⟨g26, 0, none⟩) 8192 8192)), (7, va2), (8, .func (.func 31) #[] #[.pointer (some ⟨g5, 0, none⟩)]), (9, .int .i64 ab), (10, .int .i64 fb), (11, .pointer (some ⟨g11, 0, none⟩)), (48, c41b), (49, .int .i64 (↑(List.length ((ix m.Blocks (Int.toNat ab)).Ins)))), (50, .int .i64 (↑k))], (ix m.Blocks (Int.toNat ab)).Ins.length - k⟩) (0, phisM ((ix m.Blocks (Int.toNat ab)).Phis) fb rs, me, cl, an, s9, vc, va) ⟨by dsimp only; omega, by dsimp only; rw [hrun, blockRun_pos hf]; rfl, by dsimp only; rw [phisM_len]; exact hrl, hml, by dsimp only; omega, hcl, hst⟩ (dc d0 (dc d1 (dc d2 (dc d3 dn)))) (kc k0 (kc k0 (kc k0 (kc k0 (kc k0 (kc k0 (kc k0 (kc k0 kn)))))))) ⟨ζ, ζ, ζ, ζ, ζ, ζ, ζ, ζ, ζ, ζ, ζ, ζ, eqI (by omega), trivial⟩ ?_
  rintro ⟨k, rs2, me2, cl2, an2, s2, vc2, va2⟩; dsimp only [u8]; rintro ⟨hk, hI, hrl2, hml2, hss, hcl2, hst2⟩
  refine cgo k2 fun w12 => cdq d3 fun q13 w13 => jq (jr (js (jlss ζ ζ) (jn (jx (jq ?_)))))
  refine jif ζ (fun hc2 => ?_) (fun hc2 => ?_)
  refine jsk (jx (jq (jb (jq (jr (js (jix U69 Z46 (rMBlock.c_Ins d0) ζ ζ ζ (by omega)) (jA sMach (jlA (dix (rMBlock.c_Ins d0) k (by omega)) A46 Z46 ζ) fun c53 => jalc J46 ζ fun g13 => jdq (rMach.c_Args d0) fun q15 w15 => jsta k0 Z46 ζ ζ ζ ⟨ζ, ζ, ζ, ζ, ζ, ζ, ζ, w15.one, trivial⟩ (saf ζ) (jn ?_))))))))
  refine jx (jq (jq (jr (js (jf F42_4 ζ) (js (jl k4 O3 ζ ζ) (js (jf F36_3 ζ) (js (jl k7 O3 ζ ζ) (js (jgeq ζ ζ) (jn (jx ?_))))))))))
  refine jif ζ (fun hc3 => ?_) (fun hc3 => ?_)
  refine jex (jtx (jbo (jtx (jtx (jbo (jtx (jbo (jtx (jbh (jx (jq ?_)))))))))))
  refine jr (jm ζ (jc E31 ζ ζ (pStop_ct 3 0 w1.one w12.one) dn (kc k4 kn) (fun _ => p0) (fun _ => p1) fun _ => jsta k6 Z42 ζ ζ ζ ⟨ζ, ζ, w1.one, w12.one, ζ, trivial⟩ (saf ζ) (jn (jx (jrt (jso (qfz k6 (by first | omega | (rw [(stepM_len _ _ _).2]; omega)) (qfz k5 (by omega) ?_))))))))
  exact jrcA (val := vOutcome) (b := ⟨3, 0, me2, cl2, s2⟩) (c := (v24, vc2)) ζ ζ k0 A42 Z42 ζ (by first | exact run_wrong (by simpa using hc1) | exact ins_stop hI (by omega) hc3 | exact ins_trap hI (by omega) hc3 hc4 (by simpa using hc7) | exact end_stop hI (by omega) hc8 | exact end_ret hI (by omega) hc8 hc9 | exact end_trap hI (by omega) hc8 hc9 hc10) (rOutcome.M (m := ⟨3, 0, me2, cl2, s2⟩) (c := (v24, vc2)) d1 d0 (wl 3) (wl 0) (wp (IntWalk.i64_in s2 (by omega))))
  have hNi := hc3
  refine jsk (jx (jq (jr (js (jf F42_4 ζ) (js (jl k4 O3 ζ ζ) (js (jadd ζ ζ (by omega)) (js (jf F42_4 ζ) (jst k4 Z3 ζ ζ ζ s4 (jn (jx (jq ?_)))))))))))
  refine jq (jr (js (jf F46_0 ζ) (js (jl k1 O3 ζ ζ) (js (jeql ζ ζ) (jn (jx ?_))))))
  refine jif ζ (fun hc4 => ?_) (fun hc4 => ?_)
  have h28 := hc4
  have hi28 := hW.ins _ (ix_mem (l := m.Blocks) (i := Int.toNat ab) (by omega)) _ (ix_mem (l := (ix m.Blocks (Int.toNat ab)).Ins) (i := k) (by omega)) hc4
  obtain ⟨hD0, hD1, hA4, hAr⟩ := hi28
  refine jq (jr (js (jf F46_6 ζ) (js (jl k1 O21 ζ ζ) (js (jbu (v := .agg #[.int .i32 ((ix ((ix m.Blocks (Int.toNat ab)).Ins) k).Imm), .slice none 0 0]) ζ (fun _ => by kernel_rfl)) (jalc J85 ζ fun g14 => jsta k0 Z85 ζ ζ ζ ⟨ζ, ζ, trivial⟩ (saf ζ) (jn (jx (jq (jq (jr ?_))))))))))
  refine js (jf F46_7 ζ) (js (jl k2 O22 ζ ζ) (js (jln U22 (rMach.c_Args d0) ζ) (jm ζ (jn (jx (jb (cnl (r := (rI .i32)) (E := 21) ?_)))))))
  refine jlp (u3 fun (j : Nat) (ea : List Int) (ve : Value) => ⟨j ≤ (ix (ix m.Blocks (Int.toNat ab)).Ins k).Args.length ∧ ea = ((ix (ix m.Blocks (Int.toNat ab)).Ins k).Args.take j).map (fun r => ix rs2 (Int.toNat r)), [da rMach (vMach (ix ((ix m.Blocks (Int.toNat ab)).Ins) k) c53) (ix ((ix m.Blocks (Int.toNat ab)).Ins) k), da rMBlock (vMBlock (ix m.Blocks (Int.toNat ab)) (c41a, c41b, c41c)) (ix m.Blocks (Int.toNat ab)), da rMFunc (vMFunc m a0) m, da rInput (vInput i (a1a, a1b, a1c)) i, dv (rL (rI .i32)) va2 an2], [gl X.n (rI .i32) 21 ve ea, bx g14 85 [.int .i32 ((ix ((ix m.Blocks (Int.toNat ab)).Ins) k).Imm), ve], bx g5 42 [.int .i64 0, .int .i32 0, v24, vc2, .int .i64 (s2 + 1)], bx g13 46 [.int .i64 ((ix ((ix m.Blocks (Int.toNat ab)).Ins) k).Op), .int .i64 ((ix ((ix m.Blocks (Int.toNat ab)).Ins) k).D), .int .i64 ((ix ((ix m.Blocks (Int.toNat ab)).Ins) k).E), .int .i64 ((ix ((ix m.Blocks (Int.toNat ab)).Ins) k).A), .int .i64 ((ix ((ix m.Blocks (Int.toNat ab)).Ins) k).B), .int .i64 ((ix ((ix m.Blocks (Int.toNat ab)).Ins) k).C), .int .i32 ((ix ((ix m.Blocks (Int.toNat ab)).Ins) k).Imm), c53], gl X.n (rI .i32) 21 (.slice (some ⟨g26, 0, none⟩) 8192 8192) rs2, bx g11 71 [c41a, c41b, .int .i64 (((ix m.Blocks (Int.toNat ab)).End).Op), .int .i64 (((ix m.Blocks (Int.toNat ab)).End).A), .int .i64 (((ix m.Blocks (Int.toNat ab)).End).B), c41c, .int .i32 (((ix m.Blocks (Int.toNat ab)).End).Imm)], gl X.n rEvent 85 vc2 cl2, gl X.n (rI .i32) 21 v24 me2, bx g4 42 [.int .i64 0, .int .i32 0, .slice none 0 0, .slice none 0 0, .int .i64 0], bx g3 36 [a1a, a1b, a1c, .int .i64 i.Steps], bx g2 28 [.int .i64 m.Params, a0]], [(2, .pointer (some ⟨g2, 0, none⟩)), (3, .pointer (some ⟨g3, 0, none⟩)), (4, .pointer (some ⟨g4, 0, none⟩)), (5, .pointer (some ⟨g5, 0, none⟩)), (6, (.slice (some ⟨g26, 0, none⟩) 8192 8192)), (7, va2), (8, .func (.func 31) #[] #[.pointer (some ⟨g5, 0, none⟩)]), (9, .int .i64 ab), (10, .int .i64 fb), (11, .pointer (some ⟨g11, 0, none⟩)), (13, .pointer (some ⟨g13, 0, none⟩)), (14, .pointer (some ⟨g14, 0, none⟩)), (48, c41b), (49, .int .i64 (↑(List.length ((ix m.Blocks (Int.toNat ab)).Ins)))), (50, .int .i64 (↑k)), (70, c53), (71, .int .i64 (↑(List.length ((ix ((ix m.Blocks (Int.toNat ab)).Ins) k).Args)))), (72, .int .i64 (↑j))], (ix (ix m.Blocks (Int.toNat ab)).Ins k).Args.length - j⟩) (0, [], .slice none 0 0) ⟨by dsimp only; omega, rfl⟩ (dc d0 (dc d1 (dc d2 (dc d3 (dc d4 dn))))) (kc k0 (kc k0 (kc k0 (kc k0 (kc k0 (kc k0 (kc k0 (kc k0 (kc k0 (kc k0 (kc k0 kn))))))))))) ⟨ζ, ζ, ζ, ζ, ζ, ζ, ζ, ζ, ζ, ζ, ζ, ζ, ζ, ζ, ζ, ζ, ζ, eqI (by omega), trivial⟩ ?_
  rintro ⟨j, ea, ve⟩; dsimp only [u3]; rintro ⟨hj, hea⟩
  refine cgo k0 fun w18 => ?_
  have hel : ea.length = j := by rw [hea]; simp; omega
  refine jq (jr (js (jlss ζ ζ) (jn (jx (jq ?_)))))
  refine jif ζ (fun hc5 => ?_) (fun hc5 => ?_)
  have har := hAr _ (ix_mem (l := (ix (ix m.Blocks (Int.toNat ab)).Ins k).Args) (i := j) (by omega))
  refine jsk (jx (jq (jb (jq (jr (js (jix U22 Z3 (rMach.c_Args d0) ζ ζ ζ (by omega)) (js (jlI (dix (rMach.c_Args d0) j (by omega)) O3 ζ) (ja ζ (jn (jx (jany true (.a 0 (.a 1 (.a 2 (.a 3 (.a 4 (.a 5 (.o 6 (.o 7 (.a 8 (.o 9 .e)))))))))) Mixed (by kernel_rfl) (kc k1 (kc k3 kn)) fun F19 => ?_)))))))))))
  refine jy ζ (jf F85_1 ζ) (jy ζ (jl k0 O34 ζ ζ) (jy ζ (jmv ζ) (jy ζ (jmv ζ) (jy ζ (jig (i := (Int.toNat (ix ((ix ((ix m.Blocks (Int.toNat ab)).Ins) k).Args) j))) U34 Z21 k1 ζ ζ (by omega) (by omega)) (jy ζ (jgI k1 (by omega) O21 ζ) (jyo ζ (jlit (r := (rI .i32)) (l := [ix rs2 (Int.toNat (ix ((ix ((ix m.Blocks (Int.toNat ab)).Ins) k).Args) j))]) U34 I21 (by decide) ζ ζ ζ (lV ζ ζ (wI (wgl k4 (by omega))) ln) fun g82 => jyn d0 (kc k2 (kc k4 kn)) (jyo ζ (jfz k0 (by (try simp) <;> omega) (japl U34 I21 (by decide) ζ k0 ζ ζ d0 (by (try simp) <;> omega) fun v83 w23 => ?_))))))))))
  refine jyn d1 (kc k1 (kc k3 kn)) (jy ζ (jf F85_1 ζ) (jyo ζ (jst k1 Z34 ζ ζ w23.one s1 (jyz d0 (jyd (jbn (jx (jr (js (jadd ζ ζ (by omega)) (jm ζ (jn ?_)))))))))))
  exact jag (j + 1, ea ++ ([ix rs2 (Int.toNat (ix ((ix ((ix m.Blocks (Int.toNat ab)).Ins) k).Args) j))]), v83) ⟨by dsimp only; omega, by dsimp only; rw [hea, take_ix (by omega), List.map_append]; rfl⟩ (dc d4 (dc d5 (dc d6 (dc d7 (dc d8 dn))))) (kc k1 (kc k0 (kc k0 (kc k0 (kc k0 (kc k0 (kc k0 (kc k0 (kc k0 (kc k0 (kc k0 kn))))))))))) ⟨ζ, ζ, ζ, ζ, ζ, ζ, ζ, ζ, ζ, ζ, ζ, ζ, ζ, ζ, ζ, ζ, ζ, eqI (by omega), trivial⟩
  have hja : (ix (ix m.Blocks (Int.toNat ab)).Ins k).Args.length ≤ j := by omega
  refine jex (jtx (jtx (jbh (jx (jq (jr (js (jf F42_3 ζ) (js (jl k2 O40 ζ ζ) (js (jla k1 A85 Z85 ζ ζ ζ) (jfz k0 (by omega) (jap U40 I85 (by decide) ζ k5 ζ (rEvent.M (m := ⟨(ix ((ix m.Blocks (Int.toNat ab)).Ins) k).Imm, ea⟩) (c := ve) d0 (rMach.W_Imm d1)) (by omega) (fun _ => ζ) fun v90 _ w26 => ?_)))))))))))
  refine js (jf F42_3 ζ) (jst k2 Z40 ζ ζ w26.one s3 (jn (jx (jq (jr (jm ζ (js (jf F46_1 ζ) (js (jl k3 O3 ζ ζ) (js (jig (i := (Int.toNat ((ix ((ix m.Blocks (Int.toNat ab)).Ins) k).D))) U34 Z21 k4 ζ ζ (by omega) (by omega)) (jsg k4 ζ Z21 ζ ζ ζ (by omega) (wI (wl 0)) (jn ?_)))))))))))
  refine jx (jq (jq (jr (jm ζ (js (jln U34 d5 ζ) (js (jgtr ζ ζ) (jn (jx ?_))))))))
  refine jif ζ (fun hc6 => ?_) (fun hc6 => ?_)
  refine jany false (.a 0 (.a 1 (.a 2 (.a 3 (.a 4 (.a 5 (.a 6 (.a 7 (.o 8 (.o 9 (.a 10 .e))))))))))) Mixed (by kernel_rfl) (kc k4 kn) fun F27 => jy ζ (jmv ζ) (jy ζ (jf F46_1 ζ) (jy ζ (jl k0 O3 ζ ζ) (jy ζ (jmv ζ) (jy ζ (jix (i := 0) U34 Z21 d5 ζ ζ ζ (by omega)) (jy ζ (jlI (dix d5 0 (by omega)) O21 ζ) (jy ζ (jmv ζ) (jy ζ (jslo (lo := 1) U34 Z21 d5 ζ ζ ζ (by omega)) (jyo ζ (js (jig (i := (Int.toNat ((ix ((ix m.Blocks (Int.toNat ab)).Ins) k).D))) U34 Z21 k0 ζ ζ (by omega) (by first | omega | (simp <;> omega))) (jyn d0 (kc k4 kn) ?_))))))))))
  refine jyo ζ (jsg k0 ζ Z21 ζ ζ ζ (by first | omega | (simp <;> omega)) (wI (wad (dix d7 0 (by omega)))) (jyn d0 (kc k4 kn) (jy ζ (jas ζ) (jyd (jx (jex (jtx (jbh (jx (jr (js (jadd ζ ζ (by omega)) ?_)))))))))))
  refine jm ζ (jn ?_)
  exact jag (k + 1, List.set (List.set rs2 (Int.toNat ((ix ((ix m.Blocks (Int.toNat ab)).Ins) k).D)) 0) (Int.toNat ((ix ((ix m.Blocks (Int.toNat ab)).Ins) k).D)) (ix an2 0), me2, cl2 ++ [⟨(ix ((ix m.Blocks (Int.toNat ab)).Ins) k).Imm, ea⟩], List.drop 1 an2, s2 + 1, v90, (resl 1 va2 1 (List.length an2))) ⟨by dsimp only; omega, by dsimp only; first | exact ins_callA hI (by omega) hNi h28 hja hea (by omega) | exact ins_callB hI (by omega) hNi h28 hja hea | exact ins_ok hI (by omega) hNi h28 hdo, by dsimp only; first | (rw [List.length_set, List.length_set]; exact hrl2) | (rw [List.length_set]; exact hrl2) | (rw [(stepM_len _ _ _).1]; exact hrl2), by dsimp only; first | exact hml2 | (rw [(stepM_len _ _ _).2]; exact hml2), by dsimp only; omega, by dsimp only; first | (rw [List.length_append]; simp; omega) | omega, by dsimp only; omega⟩ (dc d4 (dc d5 (dc d6 (dc (dlo d7 1 (by omega) (by omega)) dn)))) (kc k0 (kc k4 (kc k1 (kc k0 (kc k2 (kc k2 (kc k2 (kc k2 kn)))))))) ⟨ζ, ζ, ζ, ζ, ζ, ζ, ζ, ζ, ζ, ζ, ζ, ζ, eqI (by omega), trivial⟩
  refine jsk (jx (jex (jtx (jbh (jx (jr (js (jadd ζ ζ (by omega)) (jm ζ (jn ?_)))))))))
  exact jag (k + 1, List.set rs2 (Int.toNat ((ix ((ix m.Blocks (Int.toNat ab)).Ins) k).D)) 0, me2, cl2 ++ [⟨(ix ((ix m.Blocks (Int.toNat ab)).Ins) k).Imm, ea⟩], an2, s2 + 1, v90, va2) ⟨by dsimp only; omega, by dsimp only; first | exact ins_callA hI (by omega) hNi h28 hja hea (by omega) | exact ins_callB hI (by omega) hNi h28 hja hea | exact ins_ok hI (by omega) hNi h28 hdo, by dsimp only; first | (rw [List.length_set, List.length_set]; exact hrl2) | (rw [List.length_set]; exact hrl2) | (rw [(stepM_len _ _ _).1]; exact hrl2), by dsimp only; first | exact hml2 | (rw [(stepM_len _ _ _).2]; exact hml2), by dsimp only; omega, by dsimp only; first | (rw [List.length_append]; simp; omega) | omega, by dsimp only; omega⟩ (dc d2 (dc d3 (dc d4 (dc d5 dn)))) (kc k0 (kc k4 (kc k1 (kc k0 (kc k2 (kc k2 (kc k2 (kc k2 kn)))))))) ⟨ζ, ζ, ζ, ζ, ζ, ζ, ζ, ζ, ζ, ζ, ζ, ζ, eqI (by omega), trivial⟩
  have h28 := hc4
  refine jsk (jx (jq (jr (js (jla k1 A46 Z46 ζ ζ ζ) (jm ζ (js (jf F42_2 ζ) (js (jl k0 O34 ζ ζ) (jc E33 ζ ζ (pDoM_ct (by omega) (by omega)) (dc d0 dn) (kc k2 (kc k4 kn)) (fun _ => p0) (fun _ => p2) fun _ => jm ζ (js (jex' ζ ζ) (js (jex' ζ ζ) ?_))))))))))
  refine ja ζ (ja ζ (jn (jx (jq (jr (jm ζ (js (jnot ζ) (jn (jx ?_)))))))))
  refine jif ζ (fun hc7 => ?_) (fun hc7 => ?_)
  refine jq (jr (jm ζ (jm ζ (jc E31 ζ ζ (pStop_ct 2 ((stepM (ix ((ix m.Blocks (Int.toNat ab)).Ins) k) rs2 me2).1.1) w1.one w12.one) dn (kc k2 kn) (fun _ => p0) (fun _ => p1) fun _ => jsta k6 Z42 ζ ζ ζ ⟨ζ, ζ, w1.one, w12.one, ζ, trivial⟩ (saf ζ) (jn (jx (jrt (jbr (jtr (jtr ?_))))))))))
  refine jbr (jtr (jbr (jtr (jbr (jtr (jso (qfz k3 (by first | omega | (rw [(stepM_len _ _ _).2]; omega)) (qfz k5 (by omega) ?_))))))))
  exact jrcA (val := vOutcome) (b := ⟨2, (stepM (ix ((ix m.Blocks (Int.toNat ab)).Ins) k) rs2 me2).1.1, (stepM (ix ((ix m.Blocks (Int.toNat ab)).Ins) k) rs2 me2).2.2, cl2, s2 + 1⟩) (c := (v24, vc2)) ζ ζ k0 A42 Z42 ζ (by first | exact run_wrong (by simpa using hc1) | exact ins_stop hI (by omega) hc3 | exact ins_trap hI (by omega) hc3 hc4 (by simpa using hc7) | exact end_stop hI (by omega) hc8 | exact end_ret hI (by omega) hc8 hc9 | exact end_trap hI (by omega) hc8 hc9 hc10) (rOutcome.M (m := ⟨2, (stepM (ix ((ix m.Blocks (Int.toNat ab)).Ins) k) rs2 me2).1.1, (stepM (ix ((ix m.Blocks (Int.toNat ab)).Ins) k) rs2 me2).2.2, cl2, s2 + 1⟩) (c := (v24, vc2)) d1 d0 (wl 2) (wp (stepM_wr (ix ((ix m.Blocks (Int.toNat ab)).Ins) k) rs2 me2)) (wp (IntWalk.i64_in (s2 + 1) (by omega))))
  have hdo : (stepM (ix (ix m.Blocks (Int.toNat ab)).Ins k) rs2 me2).1.2 = true := by simpa using hc7
  refine jsk (jbn (jx (jr (js (jadd ζ ζ (by omega)) (jm ζ (jn ?_))))))
  exact jag (k + 1, (stepM (ix ((ix m.Blocks (Int.toNat ab)).Ins) k) rs2 me2).2.1, (stepM (ix ((ix m.Blocks (Int.toNat ab)).Ins) k) rs2 me2).2.2, cl2, an2, s2 + 1, vc2, va2) ⟨by dsimp only; omega, by dsimp only; first | exact ins_callA hI (by omega) hNi h28 hja hea (by omega) | exact ins_callB hI (by omega) hNi h28 hja hea | exact ins_ok hI (by omega) hNi h28 hdo, by dsimp only; first | (rw [List.length_set, List.length_set]; exact hrl2) | (rw [List.length_set]; exact hrl2) | (rw [(stepM_len _ _ _).1]; exact hrl2), by dsimp only; first | exact hml2 | (rw [(stepM_len _ _ _).2]; exact hml2), by dsimp only; omega, by dsimp only; first | (rw [List.length_append]; simp; omega) | omega, by dsimp only; omega⟩ (dc d1 (dc d2 (dc d3 (dc d4 dn)))) (kc k0 (kc k3 (kc k3 (kc k1 (kc k0 (kc k1 (kc k1 (kc k1 kn)))))))) ⟨ζ, ζ, ζ, ζ, ζ, ζ, ζ, ζ, ζ, ζ, ζ, ζ, eqI (by omega), trivial⟩
  refine jex (jtx (jtx (jbh (jx (jq (jq (jr (js (jf F42_4 ζ) (js (jl k3 O3 ζ ζ) (js (jf F36_3 ζ) (js (jl k6 O3 ζ ζ) ?_)))))))))))
  refine js (jgeq ζ ζ) (jn (jx ?_))
  refine jif ζ (fun hc8 => ?_) (fun hc8 => ?_)
  refine jex (jtx (jbo (jtx (jbh (jx (jq (jr (jm ζ (jc E31 ζ ζ (pStop_ct 3 0 w1.one w12.one) dn (kc k3 kn) (fun _ => p0) (fun _ => p1) fun _ => jsta k5 Z42 ζ ζ ζ ⟨ζ, ζ, w1.one, w12.one, ζ, trivial⟩ (saf ζ) (jn ?_))))))))))
  refine jx (jrt (jso (qfz k5 (by first | omega | (rw [(stepM_len _ _ _).2]; omega)) (qfz k4 (by omega) ?_))))
  exact jrcA (val := vOutcome) (b := ⟨3, 0, me2, cl2, s2⟩) (c := (v24, vc2)) ζ ζ k0 A42 Z42 ζ (by first | exact run_wrong (by simpa using hc1) | exact ins_stop hI (by omega) hc3 | exact ins_trap hI (by omega) hc3 hc4 (by simpa using hc7) | exact end_stop hI (by omega) hc8 | exact end_ret hI (by omega) hc8 hc9 | exact end_trap hI (by omega) hc8 hc9 hc10) (rOutcome.M (m := ⟨3, 0, me2, cl2, s2⟩) (c := (v24, vc2)) d1 d0 (wl 3) (wl 0) (wp (IntWalk.i64_in s2 (by omega))))
  have hNe := hc8
  refine jsk (jx (jq (jr (js (jf F42_4 ζ) (js (jl k3 O3 ζ ζ) (js (jadd ζ ζ (by omega)) (js (jf F42_4 ζ) (jst k3 Z3 ζ ζ ζ s4 (jn (jx (jq ?_)))))))))))
  refine jq (jr (js (jf F71_2 ζ) (js (jf F59_0 ζ) (js (jl k2 O3 ζ ζ) (jn (jx (jb (jq (jr (js (jeql ζ ζ) (ja ζ ?_)))))))))))
  refine jn (jx ?_)
  refine jif ζ (fun hc9 => ?_) (fun hc9 => ?_)
  refine jq (jr (jm ζ (jm ζ (js (jf F71_2 ζ) (js (jf F59_1 ζ) (js (jl k2 O3 ζ ζ) (jc E34 ζ ζ (Tv.temp 1073741824 (pGet_ct (((ix m.Blocks (Int.toNat ab)).End).A)) (by omega)) dn (kc k1 kn) (fun _ => p0) (fun _ => p1) fun _ => jc E31 ζ ζ (pStop_ct 1 (getM rs2 (((ix m.Blocks (Int.toNat ab)).End).A)) w1.one w12.one) dn (kc k1 kn) (fun _ => p0) (fun _ => p1) fun _ => jsta k5 Z42 ζ ζ ζ ⟨ζ, ζ, w1.one, w12.one, ζ, trivial⟩ (saf ζ) (jn (jx ?_)))))))))
  refine jrt (jbr (jtr (jbr (jtr (jbr (jtr (jso (qfz k5 (by first | omega | (rw [(stepM_len _ _ _).2]; omega)) (qfz k4 (by omega) ?_)))))))))
  exact jrcA (val := vOutcome) (b := ⟨1, getM rs2 (((ix m.Blocks (Int.toNat ab)).End).A), me2, cl2, s2 + 1⟩) (c := (v24, vc2)) ζ ζ k0 A42 Z42 ζ (by first | exact run_wrong (by simpa using hc1) | exact ins_stop hI (by omega) hc3 | exact ins_trap hI (by omega) hc3 hc4 (by simpa using hc7) | exact end_stop hI (by omega) hc8 | exact end_ret hI (by omega) hc8 hc9 | exact end_trap hI (by omega) hc8 hc9 hc10) (rOutcome.M (m := ⟨1, getM rs2 (((ix m.Blocks (Int.toNat ab)).End).A), me2, cl2, s2 + 1⟩) (c := (v24, vc2)) d1 d0 (wl 1) (wgt k2 (((ix m.Blocks (Int.toNat ab)).End).A)) (wp (IntWalk.i64_in (s2 + 1) (by omega))))
  have h7 := hc9
  refine jq (jr (js (jeql ζ ζ) (ja ζ (jn (jx ?_)))))
  refine jif ζ (fun hc10 => ?_) (fun hc10 => ?_)
  refine jq (jr (jm ζ (js (jf F71_2 ζ) (js (jf F59_4 ζ) (js (jl k2 O21 ζ ζ) (jc E31 ζ ζ (pStop_ct 2 (((ix m.Blocks (Int.toNat ab)).End).Imm) w1.one w12.one) dn (kc k0 kn) (fun _ => p0) (fun _ => p1) fun _ => jsta k5 Z42 ζ ζ ζ ⟨ζ, ζ, w1.one, w12.one, ζ, trivial⟩ (saf ζ) (jn (jx (jrt (jbr ?_))))))))))
  refine jtr (jbr (jtr (jbr (jtr (jso (qfz k5 (by first | omega | (rw [(stepM_len _ _ _).2]; omega)) (qfz k4 (by omega) ?_)))))))
  exact jrcA (val := vOutcome) (b := ⟨2, ((ix m.Blocks (Int.toNat ab)).End).Imm, me2, cl2, s2 + 1⟩) (c := (v24, vc2)) ζ ζ k0 A42 Z42 ζ (by first | exact run_wrong (by simpa using hc1) | exact ins_stop hI (by omega) hc3 | exact ins_trap hI (by omega) hc3 hc4 (by simpa using hc7) | exact end_stop hI (by omega) hc8 | exact end_ret hI (by omega) hc8 hc9 | exact end_trap hI (by omega) hc8 hc9 hc10) (rOutcome.M (m := ⟨2, ((ix m.Blocks (Int.toNat ab)).End).Imm, me2, cl2, s2 + 1⟩) (c := (v24, vc2)) d1 d0 (wl 2) (rMBlock.W_End_Imm d2) (wp (IntWalk.i64_in (s2 + 1) (by omega))))
  have h8 := hc10
  have htm := ix_mem (l := (ix m.Blocks (Int.toNat ab)).End.To) (i := Int.toNat (goesM (ix m.Blocks (Int.toNat ab)).End rs2)) (by have := hW.goes hat rs2 hc9 hc10; omega)
  refine jsk (jbn (jx (jany false (.a 0 (.a 1 (.a 2 (.a 3 (.a 4 (.a 5 (.a 6 (.o 7 (.a 8 (.a 9 (.a 10 (.a 11 .e)))))))))))) Mixed (by kernel_rfl) (kc k2 kn) fun F38 => jy ζ (jmv ζ) (jy ζ (jf F71_2 ζ) (jy ζ (jf F59_3 ζ) (jy ζ (jl k0 O22 ζ ζ) (jy ζ (jf F71_2 ζ) (jy ζ (jla k0 A59 Z59 ζ ζ ζ) (jy ζ (jmv ζ) (jyo ζ ?_))))))))))
  refine jc E35 ζ ζ (Tv.temp1 1073741824 pGoes_ct (by omega)) (dc (rMBlock.P_End d1) dn) (kc k1 kn) (fun _ => p0) (fun _ => p1) fun _ => jyn d0 (kc k2 kn) ?_
  have hgo : 0 ≤ goesM ((ix m.Blocks (Int.toNat ab)).End) rs2 ∧ goesM ((ix m.Blocks (Int.toNat ab)).End) rs2 < (ix m.Blocks (Int.toNat ab)).End.To.length := hW.goes hat rs2 hc9 hc10
  refine jy ζ (jix (i := (Int.toNat (goesM ((ix m.Blocks (Int.toNat ab)).End) rs2))) U22 Z3 (rMBlock.c_End_To d0) ζ ζ (by omega) (by omega)) (jy ζ (jlI (dix (rMBlock.c_End_To d0) (Int.toNat (goesM ((ix m.Blocks (Int.toNat ab)).End) rs2)) (by omega)) O3 ζ) (jy ζ (jas ζ) (jy ζ (jas ζ) (jyd (jbn ?_)))))
  exact jag (f - 1, ix (((ix m.Blocks (Int.toNat ab)).End).To) (Int.toNat (goesM ((ix m.Blocks (Int.toNat ab)).End) rs2)), ab, rs2, me2, cl2, an2, s2 + 1, vc2, va2) ⟨by dsimp only; omega, end_go hI (by omega) hNe h7 h8, by dsimp only; exact (hW.from1 hat htm).1, by dsimp only; exact (hW.from1 hat htm).2, hrl2, hml2, by dsimp only; omega, by dsimp only; omega, by dsimp only; omega, by dsimp only; omega⟩ (dc d2 (dc d3 (dc d4 dn))) (kc k3 (kc k0 (kc k0 (kc k1 (kc k1 (kc k1 (kc k1 kn))))))) ⟨ζ, ζ, ζ, ζ, ζ, ζ, ζ, ζ, ζ, trivial⟩
end Go.Proofs.YtdlcjaefkjbonaaGreat
namespace Go.Proofs.YtdlcjaefkjbonaaGreat
set_option linter.unusedVariables false
set_option linter.unusedSimpArgs false
set_option linter.unusedSectionVars false
open Go.JE
theorem A78 : ∃ d, Tryz.prog.underlying 78 = some d ∧ (match d with | .struct _ | .array _ _ => true | _ => false) = true := ⟨_, Tryz.underlying78, rfl⟩
theorem E116 : Ent Tryz.prog 116 := ⟨_, Tryz.func116, by kernel_rfl, by kernel_rfl⟩
theorem E117 : Ent Tryz.prog 117 := ⟨_, Tryz.func117, by kernel_rfl, by kernel_rfl⟩
theorem E118 : Ent Tryz.prog 118 := ⟨_, Tryz.func118, by kernel_rfl, by kernel_rfl⟩
theorem E145 : Ent Tryz.prog 145 := ⟨_, Tryz.func145, by kernel_rfl, by kernel_rfl⟩
theorem E146 : Ent Tryz.prog 146 := ⟨_, Tryz.func146, by kernel_rfl, by kernel_rfl⟩
theorem E27 : Ent Tryz.prog 27 := ⟨_, Tryz.func27, by kernel_rfl, by kernel_rfl⟩
theorem E64 : Ent Tryz.prog 64 := ⟨_, Tryz.func64, by kernel_rfl, by kernel_rfl⟩
theorem E65 : Ent Tryz.prog 65 := ⟨_, Tryz.func65, by kernel_rfl, by kernel_rfl⟩
theorem E66 : Ent Tryz.prog 66 := ⟨_, Tryz.func66, by kernel_rfl, by kernel_rfl⟩
theorem F78_0 : Fld Tryz.prog 78 0 0 := ⟨_, _, Tryz.underlying78, rfl, rfl, 1, (by unfold Sz; kernel_rfl), by decide⟩
theorem O60 : One Tryz.prog 60 := ⟨_, Tryz.underlying60, rfl⟩
theorem Z78 : Sz Tryz.prog 78 3 := by unfold Sz; kernel_rfl
theorem J78 : (Tryz.prog.info? 78).bind (·.zero) = some (.agg #[.int .i64 0, .int .i64 0, .int .i64 0]) := by kernel_rfl
theorem any_snoc {α : Type} [Inhabited α] {l : List α} {q : α → Bool} {k : Nat} (hk : k < l.length) : (l.take (k + 1)).any q = ((l.take k).any q || q (ix l k)) := by rw [take_ix hk, List.any_append]; simp
theorem badB_f {n b : Int} (h : ¬ b < 1 ∧ ¬ n ≤ b) : badB n b = false := by unfold badB; rw [decide_eq_false h.1, decide_eq_false h.2]; rfl
theorem badB_t {n b : Int} (h : b < 1 ∨ n ≤ b) : badB n b = true := by unfold badB; rcases h with h | h <;> simp [h]
section
variable {e : D.End} {n : Int}
theorem endE_1 (h : toM e = false) : endE e n = 30 := by unfold endE; rw [if_pos h]
theorem endE_2 (h : toM e = true) (h2 : regM (needsM e) = false) : endE e n = 31 := by unfold endE; rw [if_neg (by rw [h]; decide), if_pos h2]
theorem endE_3 (h : toM e = true) (h2 : regM (needsM e) = true) {i : Nat} (hi : i < e.To.length) (h3 : badB n (ix e.To i) = true) : endE e n = 14 := by
  unfold endE; rw [if_neg (by rw [h]; decide), if_neg (by rw [h2]; decide), if_pos (any_hit hi h3)]
theorem endE_4 (h : toM e = true) (h2 : regM (needsM e) = true) {i : Nat} (hi : e.To.length ≤ i) (h3 : ∀ x ∈ e.To.take i, badB n x = false) : endE e n = 0 := by
  rw [List.take_of_length_le hi] at h3
  unfold endE; rw [if_neg (by rw [h]; decide), if_neg (by rw [h2]; decide), if_neg (by rw [any_no h3]; decide)]
end
def rPredsM (m : D.MFunc) (b : Int) : List Int := predsM m.Blocks b
def rReachM (m : D.MFunc) : List Bool := reachedM m.Blocks
def thM (m : D.MFunc) : D.jacquardref07_Got := match thingsW m.Blocks.length 0 m.Blocks with
  | some t => ⟨t.1, t.2.1, t.2.2⟩
  | none => ⟨0, 0, 0⟩
def gotM (m : D.MFunc) : D.jacquardref07_Got := ⟨(funcM m).1, (funcM m).2.1, (funcM m).2.2⟩
section
variable {m : D.MFunc} {a b c : Int}
theorem th_some (h : thingsW m.Blocks.length 0 m.Blocks = some (a, b, c)) : thM m = ⟨a, b, c⟩ := by unfold thM; rw [h]
theorem th_none (h : thingsW m.Blocks.length 0 m.Blocks = none) : thM m = ⟨0, 0, 0⟩ := by unfold thM; rw [h]
theorem got_of (h : funcM m = (a, b, c)) : gotM m = ⟨a, b, c⟩ := by unfold gotM; rw [h]
theorem th_bad (h : ¬ (thM m).E = 0) : ∃ t, thingsW m.Blocks.length 0 m.Blocks = some t ∧ thM m = ⟨t.1, t.2.1, t.2.2⟩ := by
  unfold thM at h ⊢
  cases h1 : thingsW m.Blocks.length 0 m.Blocks with
  | some t => exact ⟨t, rfl, rfl⟩
  | none => rw [h1] at h; exact absurd rfl h
theorem things_pos : ∀ (bs : List D.MBlock) (k : Nat) (n : Int) (t : Int × Int × Int), thingsW n k bs = some t → t.1 ≠ 0 := by
  intro bs
  induction bs with
  | nil => intro b n t h; cases h
  | cons x l ih =>
    intro b n t h
    rw [thingsW] at h
    cases hb : blockW n x with
    | none => rw [hb] at h; exact ih _ _ _ h
    | some u =>
      rw [hb] at h
      cases h
      show u.1 ≠ 0
      unfold blockW at hb
      have hp : ∀ (P l : List D.Phi) (k : Nat) (u : Int × Int), phiW P k l = some u → u.1 ≠ 0 := by
        intro P l
        induction l with
        | nil => intro k u h; cases h
        | cons p l ih2 => intro k u h; rw [phiW] at h; split at h; (· exact ih2 _ _ h); cases h; assumption
      have hi : ∀ (l : List D.Mach) (k : Nat) (u : Int × Int), insW k l = some u → u.1 ≠ 0 := by
        intro l
        induction l with
        | nil => intro k u h; cases h
        | cons p l ih2 => intro k u h; rw [insW] at h; split at h; (· exact ih2 _ _ h); cases h; assumption
      cases h1 : phiW x.Phis 0 x.Phis with
      | some t => rw [h1] at hb; cases hb; exact hp _ _ _ _ h1
      | none =>
        rw [h1] at hb
        cases h2 : insW 0 x.Ins with
        | some t => rw [h2] at hb; cases hb; exact hi _ _ _ h2
        | none =>
          rw [h2] at hb
          by_cases h3 : endE x.End n = 0
          · simp only [if_pos h3] at hb; cases hb
          · simp only [if_neg h3] at hb; cases hb; exact h3
theorem th_good (h : (thM m).E = 0) : thingsW m.Blocks.length 0 m.Blocks = none := by
  unfold thM at h
  cases h1 : thingsW m.Blocks.length 0 m.Blocks with
  | some t => rw [h1] at h; exact absurd h (things_pos _ _ _ _ h1)
  | none => rfl
end
theorem preds_step {bs : List D.MBlock} {k j : Nat} {b : Bool} {x : Int} (hb : b = ((ix bs k).End.To.take j).any (fun y => decide (y = x))) (hj : (ix bs k).End.To.length ≤ j) : predsT bs (k + 1) x = predsT bs k x ++ if b = true then [(k : Int)] else [] := by
  rw [predsT_succ]
  congr 1
  rw [List.take_of_length_le hj] at hb
  by_cases h : x ∈ (ix bs k).End.To
  · rw [if_pos h, if_pos]
    rw [hb, List.any_eq_true]; exact ⟨x, h, by simp⟩
  · rw [if_neg h, if_neg]
    intro h1
    rw [hb, List.any_eq_true] at h1
    obtain ⟨y, hy, h2⟩ := h1
    simp at h2; subst h2; exact h hy
section
variable {bs : List D.MBlock} {i j : Nat} {se se2 : List Bool} {l l2 : List Int}
theorem ix_drop0 (h : i < l.length) : ix (l.drop i) 0 = ix l i := by rw [drop_ix h]; rfl
theorem rb_step (hi : i < l.length) (hf : 0 < bs.length - i) (hb : reachedM bs = bfs bs (bs.length - i) se (l.drop i))
    (hIn : bfsIn se2 (l2.drop i) ((ix bs (ix l i).toNat).End.To.drop j) = bfsIn se (l.drop i) (ix bs (ix l i).toNat).End.To) (hj : (ix bs (ix l i).toNat).End.To.length ≤ j) : reachedM bs = bfs bs (bs.length - (i + 1)) se2 (l2.drop (i + 1)) := by
  rw [List.drop_of_length_le hj] at hIn
  rw [hb, bfs_step hf (by rw [List.length_drop]; omega), ix_drop0 hi, ← hIn, show bs.length - i - 1 = bs.length - (i + 1) by omega]
  show bfs bs _ se2 ((l2.drop i).drop 1) = _
  rw [List.drop_drop]
theorem rb_end (hb : reachedM bs = bfs bs (bs.length - i) se (l.drop i)) (hi : l.length ≤ i) : reachedM bs = se := by rw [hb, List.drop_of_length_le hi, bfs_nil]
theorem rb_old {T : List Int} (hj : j < T.length) (hIn : bfsIn se2 (l2.drop i) (T.drop j) = bfsIn se (l.drop i) T) (h : ix se2 (Int.toNat (ix T j)) = true) : bfsIn se2 (l2.drop i) (T.drop (j + 1)) = bfsIn se (l.drop i) T := by
  rw [← hIn, drop_ix hj, bfsIn, if_pos h]
theorem rb_new {T : List Int} (hj : j < T.length) (hi : i ≤ l2.length) (hIn : bfsIn se2 (l2.drop i) (T.drop j) = bfsIn se (l.drop i) T) (h : ix se2 (Int.toNat (ix T j)) = false) : bfsIn (List.set se2 (Int.toNat (ix T j)) true) ((l2 ++ [ix T j]).drop i) (T.drop (j + 1)) = bfsIn se (l.drop i) T := by
  rw [← hIn, drop_ix hj, bfsIn, if_neg (by rw [h]; decide), List.drop_append_of_le_length hi]
end
section
variable {m : D.MFunc} {k : Nat}
theorem rg_15 (hk : k < (rReachM m).length) (hR : ∀ x ∈ (rReachM m).take k, (false == x) = false) (h : ix (rReachM m) k = false) : graphM m = (15, (k : Int), 0) := by
  have := idx_hit (q := fun x => false == x) hk hR (by simp [h])
  unfold graphM; unfold rReachM at this; rw [this, if_pos (by omega)]
theorem rg_no (hk : (rReachM m).length ≤ k) (hR : ∀ x ∈ (rReachM m).take k, (false == x) = false) : graphM m = graphPhis m.Blocks 0 m.Blocks := by
  have := idx_none (q := fun x => false == x) hk hR
  unfold graphM; unfold rReachM at this; rw [this, if_neg (by decide)]
def EqIn (bs : List D.MBlock) (b : Nat) (p : D.Phi) (k : Nat) (ok : Bool) : Prop :=
  (ok = true ∧ 0 < b ∧ p.In.length = (predsM bs b).length ∧ k ≤ p.In.length ∧ (p.In.take k).map (·.From) = (predsM bs b).take k) ∨ (ok = false ∧ badPhi bs b p = true)
theorem eqIn_start {bs : List D.MBlock} {b : Nat} {p : D.Phi} : EqIn bs b p 0 (decide (0 < (b : Int)) && decide ((p.In.length : Int) = ((predsM bs b).length : Int))) := by
  unfold EqIn
  by_cases h : 0 < b
  · by_cases h2 : p.In.length = (predsM bs b).length
    · refine .inl ⟨by simp [h, h2], h, h2, by omega, by simp⟩
    · refine .inr ⟨by rw [Bool.and_eq_false_iff]; exact .inr (decide_eq_false (by omega)), ?_⟩
      unfold badPhi
      have : ¬ p.In.map (·.From) = predsM bs b := by intro h3; have := congrArg List.length h3; simp at this; exact h2 this
      simp [this]
  · refine .inr ⟨by rw [Bool.and_eq_false_iff]; exact .inl (decide_eq_false (by omega)), ?_⟩
    unfold badPhi
    simp [show b = 0 by omega]
theorem eqIn_next {bs : List D.MBlock} {b k : Nat} {p : D.Phi} {ok : Bool} (h : EqIn bs b p k ok) (hc : ok = true ∧ (k : Int) < ((predsM bs b).length : Int)) : EqIn bs b p (k + 1) (decide ((ix p.In k).From = ix (predsM bs b) k)) := by
  rcases h with ⟨h1, h2, h3, h4, h5⟩ | ⟨h1, _⟩
  · have hk : k < (predsM bs b).length := by omega
    by_cases h6 : (ix p.In k).From = ix (predsM bs b) k
    · refine .inl ⟨by simp [h6], h2, h3, by omega, ?_⟩
      rw [take_ix (by omega), take_ix hk, List.map_append, h5]
      simp [h6]
    · refine .inr ⟨by simp [h6], ?_⟩
      unfold badPhi
      have : ¬ p.In.map (·.From) = predsM bs b := by
        intro h7; apply h6; rw [← h7, ix_eq (by omega), ix_eq (by simpa using (by omega : k < p.In.length))]; simp
      simp [this]
  · rw [h1] at hc; exact absurd hc.1 (by decide)
theorem eqIn_ok {bs : List D.MBlock} {b k : Nat} {p : D.Phi} {ok : Bool} (h : EqIn bs b p k ok) (hc : ok = false ∨ ¬ (k : Int) < ((predsM bs b).length : Int)) (hok : ok = true) : badPhi bs b p = false := by
  rcases h with ⟨_, h2, h3, h4, h5⟩ | ⟨h1, _⟩
  · have h6 : (predsM bs b).length ≤ k := by
      have : ¬ (k : Int) < ((predsM bs b).length : Int) := hc.resolve_left (by rw [hok]; decide)
      omega
    rw [List.take_of_length_le (by omega), List.take_of_length_le h6] at h5
    unfold badPhi
    simp [h5, show ¬ b = 0 by omega]
  · rw [h1] at hok; cases hok
theorem eqIn_bad {bs : List D.MBlock} {b k : Nat} {p : D.Phi} {ok : Bool} (h : EqIn bs b p k ok) (hok : ok = false) : badPhi bs b p = true := by
  rcases h with ⟨h1, _⟩ | ⟨_, h2⟩
  · rw [hok] at h1; cases h1
  · exact h2
end
theorem phiE_wr (l : List D.Phi) (n : Int) : IntKind.i64.wrap (rPhiM l n) = rPhiM l n := IntWalk.i64_in _ (by unfold rPhiM phiE; (repeat' split) <;> omega)
theorem insE_wr (i : D.Mach) : IntKind.i64.wrap (insE i) = insE i := IntWalk.i64_in _ (by unfold insE; (repeat' split) <;> omega)
theorem endE_wr (e : D.End) (n : Int) : IntKind.i64.wrap (endE e n) = endE e n := IntWalk.i64_in _ (by unfold endE; (repeat' split) <;> omega)
theorem rEnd_ct {a0 : Value} {e : D.End} (n : Int) : Tv Tryz.prog 118 #[vEnd e a0, .int .i64 n] [da rEnd (vEnd e a0) e] [] (.int .i64 (endE e n)) := by
  refine jenter (args := [vEnd e a0, .int .i64 n]) Tryz.func118 rfl rfl rfl fun w0 X => ?_
  refine jq (jr (jbox ζ ζ fun g2 => ja ζ (jn (jx (jq (jq (jr (js (jla k0 A59 Z59 ζ ζ ζ) (jcv E145 ζ ζ rTo_ct (dc d0 dn) kn (js (jnot ζ) ?_))))))))))
  refine jn (jx ?_)
  refine jif ζ (fun hc1 => ?_) (fun hc1 => ?_)
  refine jq (jr (ja ζ (jn (jx (jrt (jtr ?_))))))
  exact jrI ζ ζ (by first | exact endE_1 hc1 | exact endE_2 hc1 hc2 | exact endE_3 hc1 hc2 (by omega) (badB_t hc4) | exact endE_4 hc1 hc2 (by omega) hno)
  refine jsk (jx (jq (jq (jr (js (jla k0 A59 Z59 ζ ζ ζ) (jcd E146 ζ ζ rNeeds_ct (dc d0 dn) kn fun v10 q1 w1 => jcv E141 ζ ζ rReg_ct (dc d0 dn) kn (js (jnot ζ) (jn (jx ?_)))))))))
  refine jif ζ (fun hc2 => ?_) (fun hc2 => ?_)
  refine jq (jr (ja ζ (jn (jx (jrt (jtr ?_))))))
  exact jrI ζ ζ (by first | exact endE_1 hc1 | exact endE_2 hc1 hc2 | exact endE_3 hc1 hc2 (by omega) (badB_t hc4) | exact endE_4 hc1 hc2 (by omega) hno)
  refine jsk (jx (jq (jq (jr (ja ζ (jn (jx (jb ?_))))))))
  refine jlp (fun (i : Nat) => ⟨i ≤ e.To.length ∧ (∀ x ∈ e.To.take i, badB n x = false), [da rEnd (vEnd e a0) e], [bx g2 59 [.int .i64 e.Op, .int .i64 e.A, .int .i64 e.B, a0, .int .i32 e.Imm]], [(1, .int .i64 n), (2, .pointer (some ⟨g2, 0, none⟩)), (5, .int .i64 (↑i))], e.To.length - i⟩) 0 ⟨by omega, by simp⟩ (dc d1 dn) (kc k0 kn) ⟨ζ, ζ, eqI (by omega), trivial⟩ ?_
  rintro i; dsimp only; rintro ⟨hi, hno⟩
  refine jq (jq (jr (jm ζ (js (jf F59_3 ζ) (js (jl k0 O22 ζ ζ) (jdq (rEnd.c_To d0) fun q3 w3 => js (jln U22 (rEnd.c_To d0) ζ) (js (jlss ζ ζ) (jn (jx ?_)))))))))
  refine jif ζ (fun hc3 => ?_) (fun hc3 => ?_)
  refine jsk (jx (jq (jb (jq (jr (js (jf F59_3 ζ) (js (jl k0 O22 ζ ζ) (jm ζ (js (jix U22 Z3 (rEnd.c_To d0) ζ ζ ζ (by omega)) (js (jlI (dix (rEnd.c_To d0) i (by omega)) O3 ζ) (js (jlss ζ ζ) ?_)))))))))))
  refine jm ζ (jg ζ ζ (.f _) (fun hg => jf F59_3 ζ) (jg ζ ζ (.f _) (fun hg => jl k0 O22 (evg ζ hg) ζ) (jg ζ ζ (.f _) (fun hg => jmv ζ) (jg ζ ζ (.f _) (fun hg => jix U22 Z3 (rEnd.c_To d0) (evg ζ hg) (evg ζ hg) ζ (by first | omega | (simp at hg; omega) | (simp only [List.length_set]; omega))) (jg ζ ζ (.f _) (fun hg => jlI (dix (rEnd.c_To d0) i (by first | omega | (simp at hg; omega) | (simp only [List.length_set]; omega))) O3 (evg ζ hg)) (jg ζ ζ (.f _) (fun hg => jmv ζ) (jg ζ ζ (.f _) (fun hg => jgeq (evg ζ hg) (evg ζ hg)) (js (jor ζ ζ) (jn (jx ?_))))))))))
  refine jif ζ (fun hc4 => ?_) (fun hc4 => ?_)
  refine jq (jr (ja ζ (jn (jx (jrt (jbr (jtr (jtr (jbr (jtr ?_))))))))))
  exact jrI ζ ζ (by first | exact endE_1 hc1 | exact endE_2 hc1 hc2 | exact endE_3 hc1 hc2 (by omega) (badB_t hc4) | exact endE_4 hc1 hc2 (by omega) hno)
  refine jsk (jbn (jx (jr (jm ζ (js (jadd ζ ζ (by omega)) (ja ζ (jn ?_)))))))
  exact jag (i + 1) ⟨by omega, no_snoc (by omega) hno (badB_f hc4)⟩ (dc d0 dn) (kc k0 kn) ⟨ζ, ζ, eqI (by omega), trivial⟩
  refine jex (jtx (jtx (jbh (jx (jq (jr (ja ζ (jn (jx (jrt ?_))))))))))
  exact jrI ζ ζ (by first | exact endE_1 hc1 | exact endE_2 hc1 hc2 | exact endE_3 hc1 hc2 (by omega) (badB_t hc4) | exact endE_4 hc1 hc2 (by omega) hno)
set_option maxRecDepth 4000 in
theorem rThings_ct {a0 : Value} {m : D.MFunc} : Ts Tryz.prog 64 #[vMFunc m a0] [da rMFunc (vMFunc m a0) m] [] rjacquardref07_Got vjacquardref07_Got (thM m) := by
  refine jenter (args := [vMFunc m a0]) Tryz.func64 rfl rfl rfl fun w0 X => ?_
  refine jq (jr (jbox ζ ζ fun g1 => jalc J78 ζ fun g2 => jn (jx (jq (jq (jr (ja ζ (jn (jx ?_)))))))))
  refine jb ?_
  refine jlp (fun (k : Nat) => ⟨k ≤ m.Blocks.length ∧ thingsW m.Blocks.length 0 m.Blocks = thingsW m.Blocks.length k (m.Blocks.drop k), [da rMFunc (vMFunc m a0) m], [bx g2 78 [.int .i64 0, .int .i64 0, .int .i64 0], bx g1 28 [.int .i64 m.Params, a0]], [(1, .pointer (some ⟨g1, 0, none⟩)), (2, .pointer (some ⟨g2, 0, none⟩)), (3, .int .i64 (↑k))], m.Blocks.length - k⟩) 0 ⟨by omega, rfl⟩ (dc d0 dn) (kc k0 (kc k0 kn)) ⟨ζ, ζ, eqI (by omega), trivial⟩ ?_
  rintro k; dsimp only; rintro ⟨hk, hB⟩
  refine jq (jq (jr (jm ζ (js (jf F28_1 ζ) (js (jl k1 O26 ζ ζ) (jdq (rMFunc.c_Blocks d0) fun q1 w1 => js (jln U26 (rMFunc.c_Blocks d0) ζ) (js (jlss ζ ζ) (jn (jx ?_)))))))))
  refine jif ζ (fun hc1 => ?_) (fun hc1 => ?_)
  refine jsk (jx (jq (jb (jq (jr (js (jf F28_1 ζ) (js (jl k1 O26 ζ ζ) (jm ζ (js (jix U26 Z71 (rMFunc.c_Blocks d0) ζ ζ ζ (by omega)) (jA3 sMBlock (jlA (dix (rMFunc.c_Blocks d0) k (by omega)) A71 Z71 ζ) fun c21a c21b c21c => jalc J71 ζ fun g4 => ?_))))))))))
  refine jdq (rMBlock.c_Phis d0) fun q3 w3 => jdq (rMBlock.c_Ins d0) fun q4 w4 => jdq (rMBlock.c_End_To d0) fun q5 w5 => jsta k0 Z71 ζ ζ ζ ⟨w3.one, w4.one, ζ, ζ, ζ, w5.one, ζ, trivial⟩ (saf ζ) (jn (jx (jq (jq (jr (ja ζ (jn (jx ?_))))))))
  refine jb ?_
  refine jlp (fun (i : Nat) => ⟨i ≤ (ix m.Blocks k).Phis.length ∧ phiW (ix m.Blocks k).Phis 0 (ix m.Blocks k).Phis = phiW (ix m.Blocks k).Phis i ((ix m.Blocks k).Phis.drop i), [da rMBlock (vMBlock (ix m.Blocks k) (c21a, c21b, c21c)) (ix m.Blocks k), da rMFunc (vMFunc m a0) m], [bx g4 71 [c21a, c21b, .int .i64 (((ix m.Blocks k).End).Op), .int .i64 (((ix m.Blocks k).End).A), .int .i64 (((ix m.Blocks k).End).B), c21c, .int .i32 (((ix m.Blocks k).End).Imm)], bx g2 78 [.int .i64 0, .int .i64 0, .int .i64 0], bx g1 28 [.int .i64 m.Params, a0]], [(1, .pointer (some ⟨g1, 0, none⟩)), (2, .pointer (some ⟨g2, 0, none⟩)), (3, .int .i64 (↑k)), (4, .pointer (some ⟨g4, 0, none⟩)), (5, .int .i64 (↑i))], (ix m.Blocks k).Phis.length - i⟩) 0 ⟨by omega, rfl⟩ (dc d0 (dc d1 dn)) (kc k0 (kc k0 (kc k0 kn))) ⟨ζ, ζ, ζ, ζ, eqI (by omega), trivial⟩ ?_
  rintro i; dsimp only; rintro ⟨hi, hP⟩
  refine jq (jq (jr (jm ζ (js (jf F71_0 ζ) (js (jl k0 O68 ζ ζ) (js (jln U68 (rMBlock.c_Phis d0) ζ) (js (jlss ζ ζ) (jn (jx ?_)))))))))
  refine jif ζ (fun hc2 => ?_) (fun hc2 => ?_)
  refine jsk (jx (jq (jb (jq (jr (js (jf F71_0 ζ) (js (jl k0 O68 ζ ζ) (jm ζ (jcv E116 ζ ζ (rPhi_ct ↑i (by omega)) (dc (rMBlock.c_Phis d0) dn) kn (ja ζ (jn ?_)))))))))))
  refine jx (jq (jr (jm ζ (js (jneq ζ ζ) (jn (jx ?_))))))
  refine jif ζ (fun hc3 => ?_) (fun hc3 => ?_)
  refine jq (jr (jm ζ (jm ζ (jm ζ (js (jsub ζ ζ (by omega)) (js (jbu (v := .agg #[.int .i64 (rPhiM ((ix m.Blocks k).Phis) ↑i), .int .i64 (↑k), .int .i64 ((-1) - ↑i)]) ζ (fun _ => by kernel_rfl)) (jsta k1 Z78 ζ ζ ζ ⟨ζ, ζ, ζ, trivial⟩ (saf ζ) (jn (jx (jrt (jbr ?_)))))))))))
  refine jtr (jtr (jbr (jtr (jbr (jtr (jtr (jbr (jtr ?_))))))))
  exact jrcA (val := vjacquardref07_Got) (b := ⟨rPhiM ((ix m.Blocks k).Phis) ↑i, ↑k, (-1) - ↑i⟩) (c := ()) ζ ζ k0 A78 Z78 ζ (by first | exact th_some (things_phi (by omega) hB (by omega) hP hc3) | exact th_some (things_ins (by omega) hB (phiW_end (by omega) hP) (by omega) hI hc5) | exact th_some (things_end (by omega) hB (phiW_end (by omega) hP) (insW_end (by omega) hI) hc6) | exact th_none (things_done (by omega) hB)) (rjacquardref07_Got.M (m := ⟨rPhiM ((ix m.Blocks k).Phis) ↑i, ↑k, (-1) - ↑i⟩) (c := ()) (wp (phiE_wr _ _)) (wp (IntWalk.i64_in ↑k (by omega))) (wp (IntWalk.i64_in ((-1) - ↑i) (by omega))))
  refine jsk (jbn (jx (jr (jm ζ (js (jadd ζ ζ (by omega)) (ja ζ (jn ?_)))))))
  exact jag (i + 1) ⟨by omega, phiW_next (by omega) hP hc3⟩ (dc d0 (dc d1 dn)) (kc k0 (kc k0 (kc k0 kn))) ⟨ζ, ζ, ζ, ζ, eqI (by omega), trivial⟩
  refine jex (jtx (jtx (jbh (jx (jq (jq (jr (ja ζ (jn (jx (jb ?_)))))))))))
  refine jlp (fun (j : Nat) => ⟨j ≤ (ix m.Blocks k).Ins.length ∧ insW 0 (ix m.Blocks k).Ins = insW j ((ix m.Blocks k).Ins.drop j), [da rMBlock (vMBlock (ix m.Blocks k) (c21a, c21b, c21c)) (ix m.Blocks k), da rMFunc (vMFunc m a0) m], [bx g4 71 [c21a, c21b, .int .i64 (((ix m.Blocks k).End).Op), .int .i64 (((ix m.Blocks k).End).A), .int .i64 (((ix m.Blocks k).End).B), c21c, .int .i32 (((ix m.Blocks k).End).Imm)], bx g2 78 [.int .i64 0, .int .i64 0, .int .i64 0], bx g1 28 [.int .i64 m.Params, a0]], [(1, .pointer (some ⟨g1, 0, none⟩)), (2, .pointer (some ⟨g2, 0, none⟩)), (3, .int .i64 (↑k)), (4, .pointer (some ⟨g4, 0, none⟩)), (7, .int .i64 (↑j))], (ix m.Blocks k).Ins.length - j⟩) 0 ⟨by omega, rfl⟩ (dc d0 (dc d1 dn)) (kc k0 (kc k0 (kc k0 kn))) ⟨ζ, ζ, ζ, ζ, eqI (by omega), trivial⟩ ?_
  rintro j; dsimp only; rintro ⟨hj, hI⟩
  refine jq (jq (jr (jm ζ (js (jf F71_1 ζ) (js (jl k0 O69 ζ ζ) (js (jln U69 (rMBlock.c_Ins d0) ζ) (js (jlss ζ ζ) (jn (jx ?_)))))))))
  refine jif ζ (fun hc4 => ?_) (fun hc4 => ?_)
  refine jsk (jx (jq (jb (jq (jr (js (jf F71_1 ζ) (js (jl k0 O69 ζ ζ) (jm ζ (js (jix U69 Z46 (rMBlock.c_Ins d0) ζ ζ ζ (by omega)) (jA sMach (jlA (dix (rMBlock.c_Ins d0) j (by omega)) A46 Z46 ζ) fun c51 => jcv E117 ζ ζ rIns_ct (dc d0 dn) kn ?_))))))))))
  refine ja ζ (jn (jx (jq (jr (jm ζ (js (jneq ζ ζ) (jn (jx ?_))))))))
  refine jif ζ (fun hc5 => ?_) (fun hc5 => ?_)
  refine jq (jr (jm ζ (jm ζ (jm ζ (js (jbu (v := .agg #[.int .i64 (insE (ix ((ix m.Blocks k).Ins) j)), .int .i64 (↑k), .int .i64 (↑j)]) ζ (fun _ => by kernel_rfl)) (jsta k1 Z78 ζ ζ ζ ⟨ζ, ζ, ζ, trivial⟩ (saf ζ) (jn (jx (jrt (jbr (jtr ?_)))))))))))
  refine jtr (jbr (jtr (jbr (jtr (jtr (jbr (jtr ?_)))))))
  exact jrcA (val := vjacquardref07_Got) (b := ⟨insE (ix ((ix m.Blocks k).Ins) j), ↑k, ↑j⟩) (c := ()) ζ ζ k0 A78 Z78 ζ (by first | exact th_some (things_phi (by omega) hB (by omega) hP hc3) | exact th_some (things_ins (by omega) hB (phiW_end (by omega) hP) (by omega) hI hc5) | exact th_some (things_end (by omega) hB (phiW_end (by omega) hP) (insW_end (by omega) hI) hc6) | exact th_none (things_done (by omega) hB)) (rjacquardref07_Got.M (m := ⟨insE (ix ((ix m.Blocks k).Ins) j), ↑k, ↑j⟩) (c := ()) (wp (insE_wr _)) (wp (IntWalk.i64_in ↑k (by omega))) (wp (IntWalk.i64_in ↑j (by omega))))
  refine jsk (jbn (jx (jr (jm ζ (js (jadd ζ ζ (by omega)) (ja ζ (jn ?_)))))))
  exact jag (j + 1) ⟨by omega, insW_next (by omega) hI hc5⟩ (dc d1 (dc d2 dn)) (kc k0 (kc k0 (kc k0 kn))) ⟨ζ, ζ, ζ, ζ, eqI (by omega), trivial⟩
  refine jex (jtx (jtx (jbh (jx (jq (jr (js (jf F71_2 ζ) (js (jla k0 A59 Z59 ζ ζ ζ) (js (jf F28_1 ζ) (js (jl k2 O26 ζ ζ) (js (jln U26 (rMFunc.c_Blocks d1) ζ) ?_)))))))))))
  refine jcv E118 ζ ζ (rEnd_ct (↑(List.length m.Blocks))) (dc (rMBlock.P_End d0) dn) kn (ja ζ (jn (jx (jq (jr (jm ζ (js (jneq ζ ζ) (jn (jx ?_)))))))))
  refine jif ζ (fun hc6 => ?_) (fun hc6 => ?_)
  refine jq (jr (jm ζ (jm ζ (js (jf F71_1 ζ) (js (jl k0 O69 ζ ζ) (js (jln U69 (rMBlock.c_Ins d0) ζ) (js (jbu (v := .agg #[.int .i64 (endE ((ix m.Blocks k).End) (↑(List.length m.Blocks))), .int .i64 (↑k), .int .i64 (↑(List.length ((ix m.Blocks k).Ins)))]) ζ (fun _ => by kernel_rfl)) (jsta k1 Z78 ζ ζ ζ ⟨ζ, ζ, ζ, trivial⟩ (saf ζ) (jn (jx (jrt ?_)))))))))))
  refine jbr (jtr (jtr (jbr (jtr ?_))))
  exact jrcA (val := vjacquardref07_Got) (b := ⟨endE ((ix m.Blocks k).End) (↑(List.length m.Blocks)), ↑k, ↑(List.length ((ix m.Blocks k).Ins))⟩) (c := ()) ζ ζ k0 A78 Z78 ζ (by first | exact th_some (things_phi (by omega) hB (by omega) hP hc3) | exact th_some (things_ins (by omega) hB (phiW_end (by omega) hP) (by omega) hI hc5) | exact th_some (things_end (by omega) hB (phiW_end (by omega) hP) (insW_end (by omega) hI) hc6) | exact th_none (things_done (by omega) hB)) (rjacquardref07_Got.M (m := ⟨endE ((ix m.Blocks k).End) (↑(List.length m.Blocks)), ↑k, ↑(List.length ((ix m.Blocks k).Ins))⟩) (c := ()) (wp (endE_wr _ _)) (wp (IntWalk.i64_in ↑k (by omega))) (wp (IntWalk.i64_in (↑(List.length ((ix m.Blocks k).Ins))) (by omega))))
  refine jsk (jbn (jx (jr (jm ζ (js (jadd ζ ζ (by omega)) (ja ζ (jn ?_)))))))
  exact jag (k + 1) ⟨by omega, things_next (by omega) hB (phiW_end (by omega) hP) (insW_end (by omega) hI) hc6⟩ (dc d1 dn) (kc k1 (kc k1 kn)) ⟨ζ, ζ, eqI (by omega), trivial⟩
  refine jex (jtx (jtx (jbh (jx (jq (jr (js (jbu (v := .agg #[.int .i64 0, .int .i64 0, .int .i64 0]) ζ (fun _ => by kernel_rfl)) (jsta k0 Z78 ζ ζ ζ ⟨ζ, ζ, ζ, trivial⟩ (saf ζ) (jn (jx (jrt ?_)))))))))))
  exact jrcA (val := vjacquardref07_Got) (b := ⟨0, 0, 0⟩) (c := ()) ζ ζ k0 A78 Z78 ζ (by first | exact th_some (things_phi (by omega) hB (by omega) hP hc3) | exact th_some (things_ins (by omega) hB (phiW_end (by omega) hP) (by omega) hI hc5) | exact th_some (things_end (by omega) hB (phiW_end (by omega) hP) (insW_end (by omega) hI) hc6) | exact th_none (things_done (by omega) hB)) (rjacquardref07_Got.M (m := ⟨0, 0, 0⟩) (c := ()) (wl 0) (wl 0) (wl 0))
theorem rPreds_ct {a0 : Value} {m : D.MFunc} (block : Int) (hn9 : m.Blocks.length < 1073741824) : Td Tryz.prog 66 #[vMFunc m a0, .int .i64 block] [da rMFunc (vMFunc m a0) m] [] (rL (rI .i64)) (rPredsM m block) := by
  refine jenter (args := [vMFunc m a0, .int .i64 block]) Tryz.func66 rfl rfl rfl fun w0 X => ?_
  refine jq (jr (jbox ζ ζ fun g2 => ja ζ (jn (jx (jq (jr (jlit (r := (rI .i64)) (l := []) U22 I3 (by decide) ζ ζ ζ ln fun g9 => ja ζ (jn (jx ?_)))))))))
  refine jq (jq (jr (ja ζ (jn (jx (jb ?_))))))
  refine jlp (u3 fun (k : Nat) (vo : Value) (lo : List Int) => ⟨k ≤ m.Blocks.length ∧ lo = predsT m.Blocks k block, [da rMFunc (vMFunc m a0) m], [gl X.n (rI .i64) 3 vo lo, bx g2 28 [.int .i64 m.Params, a0]], [(1, .int .i64 block), (2, .pointer (some ⟨g2, 0, none⟩)), (4, .slice none 0 0), (5, vo), (6, .int .i64 (↑k))], m.Blocks.length - k⟩) (0, (.slice (some ⟨g9, 0, none⟩) 0 0), []) ⟨by dsimp only; omega, rfl⟩ (dc d0 dn) (kc k0 (kc k0 kn)) ⟨ζ, ζ, ζ, ζ, eqI (by omega), trivial⟩ ?_
  rintro ⟨k, vo, lo⟩; dsimp only [u3]; rintro ⟨hk, hlo⟩
  refine cgo k0 fun w1 => ?_
  have hll : lo.length ≤ k := by rw [hlo]; exact predsT_len _ _ _
  refine jq (jq (jr (jm ζ (js (jf F28_1 ζ) (js (jl k1 O26 ζ ζ) (jdq (rMFunc.c_Blocks d0) fun q2 w2 => js (jln U26 (rMFunc.c_Blocks d0) ζ) (js (jlss ζ ζ) (jn (jx ?_)))))))))
  refine jif ζ (fun hc1 => ?_) (fun hc1 => ?_)
  refine jsk (jx (jq (jb (jq (jr (ja ζ (jn (jx (jq (jq (jr ?_)))))))))))
  refine ja ζ (jn (jx (jb ?_)))
  refine jlp (u2 fun (j : Nat) (b : Bool) => ⟨j ≤ (ix m.Blocks k).End.To.length ∧ b = ((ix m.Blocks k).End.To.take j).any (fun y => decide (y = block)), [da rMFunc (vMFunc m a0) m], [gl X.n (rI .i64) 3 vo lo, bx g2 28 [.int .i64 m.Params, a0]], [(1, .int .i64 block), (2, .pointer (some ⟨g2, 0, none⟩)), (4, .slice none 0 0), (5, vo), (6, .int .i64 (↑k)), (7, .bool b), (8, .int .i64 (↑j))], (ix m.Blocks k).End.To.length - j⟩) (0, false) ⟨by dsimp only; omega, rfl⟩ (dc d0 dn) (kc k0 (kc k0 kn)) ⟨ζ, ζ, ζ, ζ, ζ, ζ, eqI (by omega), trivial⟩ ?_
  rintro ⟨j, b⟩; dsimp only [u2]; rintro ⟨hj, hb⟩
  refine jq (jq (jr (jm ζ (js (jf F28_1 ζ) (js (jl k1 O26 ζ ζ) (jm ζ (js (jix U26 Z71 (rMFunc.c_Blocks d0) ζ ζ ζ (by omega)) (js (jf F71_2 ζ) (js (jf F59_3 ζ) (jev (jlV (rEnd.A_To (rMBlock.A_End (dix (rMFunc.c_Blocks d0) k (by omega)))) O22 ζ ζ) fun v24 q3 w3 => js (jln U22 d0 ζ) ?_))))))))))
  refine js (jlss ζ ζ) (jn (jx ?_))
  refine jif ζ (fun hc2 => ?_) (fun hc2 => ?_)
  refine jsk (jx (jq (jb (jr (jm ζ (jm ζ (jg ζ ζ (.f _) (fun hg => jf F28_1 ζ) (jg ζ ζ (.f _) (fun hg => jl k1 O26 (evg ζ hg) ζ) (jg ζ ζ (.f _) (fun hg => jmv ζ) (jg ζ ζ (.f _) (fun hg => jix U26 Z71 (rMFunc.c_Blocks d1) (evg ζ hg) (evg ζ hg) ζ (by first | omega | (simp at hg; omega) | (simp only [List.length_set]; omega))) (jg ζ ζ (.f _) (fun hg => jf F71_2 (evg ζ hg)) ?_)))))))))))
  refine jg ζ ζ (.f _) (fun hg => jf F59_3 (evg ζ hg)) (jge (q := fun v => dv (rL (rI .i64)) v (((ix m.Blocks k).End).To)) ζ ζ (.f _) (fun hg => jlV (rEnd.A_To (rMBlock.A_End (dix (rMFunc.c_Blocks d1) k (by first | omega | (simp at hg; omega) | (simp only [List.length_set]; omega))))) O22 ζ (evg ζ hg)) fun v37 => jg ζ ζ (.f _) (fun hg => jmv ζ) (jg ζ ζ (.f _) (fun hg => jix U22 Z3 (d0.on hg) (evg ζ hg) (evg ζ hg) ζ (by first | omega | (simp at hg; omega) | (simp only [List.length_set]; omega))) (jg ζ ζ (.f _) (fun hg => jlI (dix (d0.on hg) j (by first | omega | (simp at hg; omega) | (simp only [List.length_set]; omega))) O3 (evg ζ hg)) (jg ζ ζ (.f _) (fun hg => jmv ζ) (jg ζ ζ (.f _) (fun hg => jeql (evg ζ hg) (evg ζ hg)) (js (jor ζ ζ) (ja ζ (jn (jbn (jx ?_))))))))))
  refine jr (jm ζ (js (jadd ζ ζ (by omega)) (ja ζ (jn ?_))))
  exact jag (j + 1, b || (decide (ix (((ix m.Blocks k).End).To) j = block))) ⟨by dsimp only; omega, by dsimp only; rw [any_snoc (by omega), ← hb]⟩ (dc d2 dn) (kc k0 (kc k0 kn)) ⟨ζ, ζ, ζ, ζ, ζ, ζ, eqI (by omega), trivial⟩
  refine jex (jtx (jtx (jbh (jx (jq (jr (jm ζ (jn (jx ?_)))))))))
  refine jif ζ (fun hc3 => ?_) (fun hc3 => ?_)
  refine jr (jm ζ (jm ζ (japv U22 I3 (by decide) ζ ζ k0 ζ (wI (wp (IntWalk.i64_in _ (by omega)))) (by omega) (fun _ => ζ) fun v48 _ w6 => ja ζ (jn (jbn (jx (jr (jm ζ (js (jadd ζ ζ (by omega)) (ja ζ ?_))))))))))
  refine jn ?_
  exact jag (k + 1, v48, lo ++ [((k : Nat) : Int)]) ⟨by dsimp only; omega, by dsimp only; rw [preds_step hb (by omega), hc3, ← hlo]; simp⟩ (dc d1 dn) (kc k0 (kc k0 kn)) ⟨ζ, ζ, ζ, ζ, eqI (by omega), trivial⟩
  refine jsk (jbn (jx (jr (jm ζ (js (jadd ζ ζ (by omega)) (ja ζ (jn ?_)))))))
  exact jag (k + 1, vo, lo) ⟨by dsimp only; omega, by dsimp only; rw [preds_step hb (by omega), hc3, ← hlo]; simp⟩ (dc d1 dn) (kc k0 (kc k0 kn)) ⟨ζ, ζ, ζ, ζ, eqI (by omega), trivial⟩
  refine jex (jtx (jtx (jbh (jx (jq (jr (jm ζ (ja ζ (jn (jx (jrt ?_)))))))))))
  refine qfz k0 (by omega) ?_
  exact jrD ζ ζ (by have e9 : k = m.Blocks.length := (by omega); subst e9; exact hlo.symm) d0
set_option maxRecDepth 4000 in
theorem rReached_ct {a0 : Value} {m : D.MFunc} (hn : 0 < m.Blocks.length) (hT : ∀ x ∈ m.Blocks, ∀ t ∈ x.End.To, 1 ≤ t ∧ t < m.Blocks.length) : Td Tryz.prog 65 #[vMFunc m a0] [da rMFunc (vMFunc m a0) m] [] (rL rB) (rReachM m) := by
  refine jenter (args := [vMFunc m a0]) Tryz.func65 rfl rfl rfl fun w0 X => ?_
  refine jq (jr (jbox ζ ζ fun g1 => ja ζ (jn (jx (jq (jr (js (jf F28_1 ζ) (js (jl k0 O26 ζ ζ) (jdq (rMFunc.c_Blocks d0) fun q1 w1 => js (jln U26 (rMFunc.c_Blocks d0) ζ) ?_)))))))))
  refine jmk (m := (List.length m.Blocks)) (r := rB) U120 I4 ζ ζ ζ ζ ζ (by omega) wB ζ fun g11 => ja ζ (jn (jx (jq (jr (jlit (r := (rI .i64)) (l := [0]) U22 I3 (by decide) ζ ζ ζ (lV ζ ζ (wI (wl 0)) ln) fun g12 => ja ζ (jn (jx (jq (jr ?_)))))))))
  refine jm ζ (js (jig (i := 0) U120 Z4 k1 ζ ζ ζ (by rw [lrep]; omega)) (jsg k1 ζ Z4 ζ ζ ζ (by rw [lrep]; omega) wB (jn (jx (jq (jq (jr (ja ζ (jn (jx (jb ?_)))))))))))
  refine jlp (u4 fun (i : Nat) (se : List Bool) (l : List Int) (vl : Value) => ⟨reachedM m.Blocks = bfs m.Blocks (m.Blocks.length - i) se (l.drop i) ∧ cntF se + l.length ≤ m.Blocks.length ∧ i ≤ l.length ∧ se.length = m.Blocks.length ∧ (∀ x ∈ l, 0 ≤ x ∧ x < m.Blocks.length), [da rMFunc (vMFunc m a0) m], [gl X.n rB 4 (.slice (some ⟨g11, 0, none⟩) (List.length m.Blocks) (List.length m.Blocks)) se, gl X.n (rI .i64) 3 vl l, bx g1 28 [.int .i64 m.Params, a0]], [(1, .pointer (some ⟨g1, 0, none⟩)), (2, .slice none 0 0), (3, (.slice (some ⟨g11, 0, none⟩) (List.length m.Blocks) (List.length m.Blocks))), (4, vl), (5, .int .i64 (↑i))], m.Blocks.length - i⟩) (0, List.set (List.replicate (List.length m.Blocks) false) 0 true, [0], (.slice (some ⟨g12, 0, none⟩) 1 1)) ⟨rfl, cnt_start hn, by simp, by simp, by simp; omega⟩ (dc d0 dn) (kc k0 (kc k0 (kc k0 kn))) ⟨ζ, ζ, ζ, ζ, eqI (by omega), trivial⟩ ?_
  rintro ⟨i, se, l, vl⟩; dsimp only [u4]; rintro ⟨hb, hcn, hil, hse, hq⟩
  refine cgo k1 fun w2 => jq (jq (jr (jm ζ (jm ζ (js (jlg U22 k1 ζ) (js (jlss ζ ζ) (jn (jx ?_))))))))
  refine jif ζ (fun hc1 => ?_) (fun hc1 => ?_)
  have hqi := hq _ (ix_mem (l := l) (i := i) (by omega))
  refine jsk (jx (jq (jb (jq (jstl Mixed (by kernel_rfl) (jt (jf F28_1 ζ) (jt (jl k2 O26 ζ ζ) (jt (jmv ζ) (jt (jmv ζ) (jt (jig U22 Z3 k1 ζ ζ ζ (by omega)) (jt (jgI k1 (by omega) O3 ζ) ?_)))))))))))
  refine jt (jix (i := (Int.toNat (ix l i))) U26 Z71 (rMFunc.c_Blocks d0) ζ ζ (by omega) (by omega)) (jt (jf F71_2 ζ) (jt (jf F59_3 ζ) (jtv (jlV (rEnd.A_To (rMBlock.A_End (dix (rMFunc.c_Blocks d0) (Int.toNat (ix l i)) (by omega)))) O22 ζ ζ) fun v30 q3 w3 => jt (jas ζ) (jdn (jx (jq (jr (ja ζ (jn (jx ?_))))))))))
  refine jb ?_
  refine jlp (u4 fun (j : Nat) (se2 : List Bool) (l2 : List Int) (vl2 : Value) => ⟨j ≤ (ix m.Blocks (Int.toNat (ix l i))).End.To.length ∧ bfsIn se2 (l2.drop i) ((ix m.Blocks (Int.toNat (ix l i))).End.To.drop j) = bfsIn se (l.drop i) (ix m.Blocks (Int.toNat (ix l i))).End.To ∧ cntF se2 + l2.length ≤ m.Blocks.length ∧ se2.length = m.Blocks.length ∧ (∀ x ∈ l2, 0 ≤ x ∧ x < m.Blocks.length) ∧ i < l2.length, [dv (rL (rI .i64)) v30 (((ix m.Blocks (Int.toNat (ix l i))).End).To), da rMFunc (vMFunc m a0) m], [gl X.n rB 4 (.slice (some ⟨g11, 0, none⟩) (List.length m.Blocks) (List.length m.Blocks)) se2, gl X.n (rI .i64) 3 vl2 l2, bx g1 28 [.int .i64 m.Params, a0]], [(1, .pointer (some ⟨g1, 0, none⟩)), (2, .slice none 0 0), (3, (.slice (some ⟨g11, 0, none⟩) (List.length m.Blocks) (List.length m.Blocks))), (4, vl2), (5, .int .i64 (↑i)), (6, v30), (7, .int .i64 (↑j))], (ix m.Blocks (Int.toNat (ix l i))).End.To.length - j⟩) (0, se, l, vl) ⟨by dsimp only; omega, rfl, hcn, hse, hq, by dsimp only; omega⟩ (dc d0 (dc d1 dn)) (kc k0 (kc k0 (kc k0 kn))) ⟨ζ, ζ, ζ, ζ, ζ, ζ, eqI (by omega), trivial⟩ ?_
  rintro ⟨j, se2, l2, vl2⟩; dsimp only [u4]; rintro ⟨hj, hIn, hcn2, hse2, hq2, hi2⟩
  refine cgo k1 fun w5 => jq (jq (jr (jm ζ (jm ζ (js (jln U22 d0 ζ) (js (jlss ζ ζ) (jn (jx ?_))))))))
  refine jif ζ (fun hc2 => ?_) (fun hc2 => ?_)
  have htq := hT _ (ix_mem (l := m.Blocks) (i := Int.toNat (ix l i)) (by omega)) _ (ix_mem (l := (ix m.Blocks (Int.toNat (ix l i))).End.To) (i := j) (by omega))
  refine jsk (jx (jq (jb (jq (jr (jm ζ (jm ζ (jm ζ (js (jix U22 Z3 d0 ζ ζ ζ (by omega)) (js (jlI (dix d0 j (by omega)) O3 ζ) (js (jig (i := (Int.toNat (ix (((ix m.Blocks (Int.toNat (ix l i))).End).To) j))) U120 Z4 k0 ζ ζ (by omega) (by omega)) ?_)))))))))))
  refine js (jgB k0 (by omega) O4 ζ) (js (jnot ζ) (jn (jx ?_)))
  refine jif ζ (fun hc3 => ?_) (fun hc3 => ?_)
  refine jq (jr (jm ζ (jm ζ (jm ζ (js (jix U22 Z3 d0 ζ ζ ζ (by omega)) (js (jlI (dix d0 j (by omega)) O3 ζ) (js (jig (i := (Int.toNat (ix (((ix m.Blocks (Int.toNat (ix l i))).End).To) j))) U120 Z4 k0 ζ ζ (by omega) (by omega)) (jsg k0 ζ Z4 ζ ζ ζ (by omega) wB (jn (jx (jr ?_)))))))))))
  refine jm ζ (jm ζ (jm ζ (js (jix U22 Z3 d0 ζ ζ ζ (by omega)) (js (jlI (dix d0 j (by omega)) O3 ζ) (japv U22 I3 (by decide) ζ ζ k1 ζ (wI (wad (dix d0 j (by omega)))) (by omega) (fun _ => ζ) fun v57 _ w6 => ja ζ (jn (jbn (jx (jr (jm ζ ?_))))))))))
  refine js (jadd ζ ζ (by omega)) (ja ζ (jn ?_))
  exact jag (j + 1, List.set se2 (Int.toNat (ix (((ix m.Blocks (Int.toNat (ix l i))).End).To) j)) true, l2 ++ [ix (((ix m.Blocks (Int.toNat (ix l i))).End).To) j], v57) ⟨by dsimp only; omega, rb_new (by omega) (by omega) hIn hc3, by dsimp only; have h9 := cntF_set (l := se2) (i := Int.toNat (ix (ix m.Blocks (Int.toNat (ix l i))).End.To j)) (by omega) (by rw [hc3]; decide); rw [List.length_append]; simp; omega, by dsimp only; rw [List.length_set]; exact hse2, by dsimp only; intro x hx9; rcases List.mem_append.1 hx9 with h9 | h9; (· exact hq2 x h9); (simp at h9; subst h9; omega), by dsimp only; rw [List.length_append]; omega⟩ (dc d0 (dc d1 dn)) (kc k1 (kc k0 (kc k0 kn))) ⟨ζ, ζ, ζ, ζ, ζ, ζ, eqI (by omega), trivial⟩
  refine jsk (jbn (jx (jr (jm ζ (js (jadd ζ ζ (by omega)) (ja ζ (jn ?_)))))))
  exact jag (j + 1, se2, l2, vl2) ⟨by dsimp only; omega, rb_old (by omega) hIn hc3, hcn2, hse2, hq2, hi2⟩ (dc d0 (dc d1 dn)) (kc k0 (kc k0 (kc k0 kn))) ⟨ζ, ζ, ζ, ζ, ζ, ζ, eqI (by omega), trivial⟩
  refine jex (jtx (jtx (jbh (jbn (jx (jr (jm ζ (js (jadd ζ ζ (by omega)) (ja ζ (jn ?_))))))))))
  exact jag (i + 1, se2, l2, vl2) ⟨rb_step (by omega) (by omega) hb hIn (by omega), by dsimp only; omega, by dsimp only; omega, hse2, hq2⟩ (dc d1 dn) (kc k0 (kc k0 (kc k0 kn))) ⟨ζ, ζ, ζ, ζ, eqI (by omega), trivial⟩
  refine jex (jtx (jtx (jbh (jx (jq (jr (jm ζ (ja ζ (jn (jx (jrt ?_)))))))))))
  refine qfz k0 (by omega) ?_
  exact jrD ζ ζ (rb_end hb (by omega)) d0
set_option maxRecDepth 4000 in
set_option maxHeartbeats 1000000 in
theorem rFunc_ct {a0 : Value} {m : D.MFunc} : Ts Tryz.prog 27 #[vMFunc m a0] [da rMFunc (vMFunc m a0) m] [] rjacquardref07_Got vjacquardref07_Got (gotM m) := by
  refine jenter (args := [vMFunc m a0]) Tryz.func27 rfl rfl rfl fun w0 X => ?_
  refine jq (jr (jbox ζ ζ fun g1 => jalc J78 ζ fun g2 => jn (jx (jq (jq (jr (js (jf F28_0 ζ) (js (jl k1 O3 ζ ζ) (js (jlss ζ ζ) ?_)))))))))
  refine jm ζ (jg ζ ζ (.f _) (fun hg => jf F28_0 ζ) (jg ζ ζ (.f _) (fun hg => jl k1 O3 (evg ζ hg) ζ) (jg ζ ζ (.f _) (fun hg => jgtr (evg ζ hg) ζ) (js (jor ζ ζ) (jn (jx ?_))))))
  refine jif ζ (fun hc1 => ?_) (fun hc1 => ?_)
  refine jq (jr (js (jbu (v := .agg #[.int .i64 1, .int .i64 0, .int .i64 0]) ζ (fun _ => by kernel_rfl)) (jsta k0 Z78 ζ ζ ζ ⟨ζ, ζ, ζ, trivial⟩ (saf ζ) (jn (jx (jrt (jtr ?_)))))))
  exact jrcA (val := vjacquardref07_Got) (b := ⟨1, 0, 0⟩) (c := ()) ζ ζ k0 A78 Z78 ζ (by first | exact got_of (func_arg hc1) | exact got_of (func_block hc1 hc2) | exact got_of (func_many hc1 hc2 hc4) | (obtain ⟨t9, h8, h9⟩ := th_bad hc5; rw [got_of (func_some hc1 hc2 hc4 h8), h9]; done) | (rw [got_of ((func_graph hc1 hc2 hc4 (th_good hc5)).trans (rg_15 (by omega) hR hc7))]; done) | exact got_of ((func_graph hc1 hc2 hc4 (th_good hc5)).trans ((rg_no (by omega) hR).trans (phis_bad (by omega) (by omega) hG hno (eqIn_bad hEq hc11)))) | exact got_of ((func_graph hc1 hc2 hc4 (th_good hc5)).trans ((rg_no (by omega) hR).trans (by rw [hG, List.drop_of_length_le (by omega)]; rfl)))) (rjacquardref07_Got.M (m := ⟨1, 0, 0⟩) (c := ()) (wl 1) (wl 0) (wl 0))
  refine jsk (jx (jq (jq (jr (js (jf F28_1 ζ) (js (jl k1 O26 ζ ζ) (jdq (rMFunc.c_Blocks d0) fun q1 w1 => js (jln U26 (rMFunc.c_Blocks d0) ζ) (js (jeql ζ ζ) (jn (jx ?_))))))))))
  refine jif ζ (fun hc2 => ?_) (fun hc2 => ?_)
  refine jq (jr (js (jbu (v := .agg #[.int .i64 14, .int .i64 0, .int .i64 0]) ζ (fun _ => by kernel_rfl)) (jsta k0 Z78 ζ ζ ζ ⟨ζ, ζ, ζ, trivial⟩ (saf ζ) (jn (jx (jrt (jtr ?_)))))))
  exact jrcA (val := vjacquardref07_Got) (b := ⟨14, 0, 0⟩) (c := ()) ζ ζ k0 A78 Z78 ζ (by first | exact got_of (func_arg hc1) | exact got_of (func_block hc1 hc2) | exact got_of (func_many hc1 hc2 hc4) | (obtain ⟨t9, h8, h9⟩ := th_bad hc5; rw [got_of (func_some hc1 hc2 hc4 h8), h9]; done) | (rw [got_of ((func_graph hc1 hc2 hc4 (th_good hc5)).trans (rg_15 (by omega) hR hc7))]; done) | exact got_of ((func_graph hc1 hc2 hc4 (th_good hc5)).trans ((rg_no (by omega) hR).trans (phis_bad (by omega) (by omega) hG hno (eqIn_bad hEq hc11)))) | exact got_of ((func_graph hc1 hc2 hc4 (th_good hc5)).trans ((rg_no (by omega) hR).trans (by rw [hG, List.drop_of_length_le (by omega)]; rfl)))) (rjacquardref07_Got.M (m := ⟨14, 0, 0⟩) (c := ()) (wl 14) (wl 0) (wl 0))
  refine jsk (jx (jq (jr (ja ζ (jn (jx (jq (jq (jr (ja ζ (jn ?_)))))))))))
  refine jx (jb ?_)
  refine jlp (u2 fun (k : Nat) (c : Int) => ⟨k ≤ m.Blocks.length ∧ c + cntB (m.Blocks.drop k) = cntB m.Blocks ∧ 0 ≤ c ∧ c ≤ 2147483649 * k, [da rMFunc (vMFunc m a0) m], [bx g2 78 [.int .i64 0, .int .i64 0, .int .i64 0], bx g1 28 [.int .i64 m.Params, a0]], [(1, .pointer (some ⟨g1, 0, none⟩)), (2, .pointer (some ⟨g2, 0, none⟩)), (3, .int .i64 c), (4, .int .i64 (↑k))], m.Blocks.length - k⟩) (0, 0) ⟨by dsimp only; omega, by simp, by simp, by simp⟩ (dc d0 dn) (kc k0 (kc k0 kn)) ⟨ζ, ζ, eqI (by omega), eqI (by omega), trivial⟩ ?_
  rintro ⟨k, c⟩; dsimp only [u2]; rintro ⟨hk, hc, h0, hc9⟩
  refine jq (jq (jr (jm ζ (js (jf F28_1 ζ) (js (jl k1 O26 ζ ζ) (js (jln U26 (rMFunc.c_Blocks d0) ζ) (js (jlss ζ ζ) (jn (jx ?_)))))))))
  refine jif ζ (fun hc3 => ?_) (fun hc3 => ?_)
  refine jsk (jx (jq (jb (jstl Mixed (by kernel_rfl) (jt (jmv ζ) (jt (jf F28_1 ζ) (jt (jl k1 O26 ζ ζ) (jt (jmv ζ) (jt (jix U26 Z71 (rMFunc.c_Blocks d0) ζ ζ ζ (by omega)) (jt (jf F71_0 ζ) (jtv (jlV (rMBlock.A_Phis (dix (rMFunc.c_Blocks d0) k (by omega))) O68 ζ ζ) fun v41 q2 w2 => ?_)))))))))))
  refine jt (jln U68 d0 ζ) (jt (jadd ζ ζ (by omega)) (jt (jf F28_1 ζ) (jt (jl k1 O26 ζ ζ) (jt (jmv ζ) (jt (jix U26 Z71 (rMFunc.c_Blocks d1) ζ ζ ζ (by omega)) (jt (jf F71_1 ζ) (jtv (jlV (rMBlock.A_Ins (dix (rMFunc.c_Blocks d1) k (by omega))) O69 ζ ζ) fun v49 q4 w4 => jt (jln U69 d0 ζ) (jt (jadd ζ ζ (by omega)) (jt (jadd ζ ζ (by omega)) (jt (jas ζ) ?_))))))))))
  refine jdn (jbn (jx (jr (jm ζ (js (jadd ζ ζ (by omega)) (ja ζ (jn ?_)))))))
  exact jag (k + 1, ((c + (((List.length ((ix m.Blocks k).Phis) : Nat) : Int))) + (((List.length ((ix m.Blocks k).Ins) : Nat) : Int))) + 1) ⟨by dsimp only; omega, by dsimp only; rw [← hc, drop_ix (l := m.Blocks) (i := k) (by omega), cntB]; omega, by dsimp only; omega, by dsimp only; omega⟩ (dc d2 dn) (kc k0 (kc k0 kn)) ⟨ζ, ζ, ζ, eqI (by omega), trivial⟩
  have hcnt : c = cntB m.Blocks := by rw [← hc, List.drop_of_length_le (by omega)]; simp [cntB]
  subst hcnt
  refine jex (jtx (jtx (jbh (jx (jq (jq (jr (js (jf F28_1 ζ) (js (jl k1 O26 ζ ζ) (js (jln U26 (rMFunc.c_Blocks d0) ζ) (js (jgtr ζ ζ) ?_)))))))))))
  refine jm ζ (jg ζ ζ (.f _) (fun hg => jmv ζ) (jg ζ ζ (.f _) (fun hg => jgtr (evg ζ hg) ζ) (js (jor ζ ζ) (jn (jx ?_)))))
  refine jif ζ (fun hc4 => ?_) (fun hc4 => ?_)
  refine jq (jr (js (jbu (v := .agg #[.int .i64 2, .int .i64 0, .int .i64 0]) ζ (fun _ => by kernel_rfl)) (jsta k0 Z78 ζ ζ ζ ⟨ζ, ζ, ζ, trivial⟩ (saf ζ) (jn (jx (jrt (jtr ?_)))))))
  exact jrcA (val := vjacquardref07_Got) (b := ⟨2, 0, 0⟩) (c := ()) ζ ζ k0 A78 Z78 ζ (by first | exact got_of (func_arg hc1) | exact got_of (func_block hc1 hc2) | exact got_of (func_many hc1 hc2 hc4) | (obtain ⟨t9, h8, h9⟩ := th_bad hc5; rw [got_of (func_some hc1 hc2 hc4 h8), h9]; done) | (rw [got_of ((func_graph hc1 hc2 hc4 (th_good hc5)).trans (rg_15 (by omega) hR hc7))]; done) | exact got_of ((func_graph hc1 hc2 hc4 (th_good hc5)).trans ((rg_no (by omega) hR).trans (phis_bad (by omega) (by omega) hG hno (eqIn_bad hEq hc11)))) | exact got_of ((func_graph hc1 hc2 hc4 (th_good hc5)).trans ((rg_no (by omega) hR).trans (by rw [hG, List.drop_of_length_le (by omega)]; rfl)))) (rjacquardref07_Got.M (m := ⟨2, 0, 0⟩) (c := ()) (wl 2) (wl 0) (wl 0))
  refine jsk (jx (jq (jr (js (jla k1 A28 Z28 ζ ζ ζ) (jcs E64 ζ ζ rThings_ct (dc d0 dn) kn fun _ => jalc J78 ζ fun g5 => jsta k0 Z78 ζ ζ ζ ⟨ζ, ζ, ζ, trivial⟩ (saf ζ) (jn (jx (jq (jq ?_)))))))))
  refine jr (js (jf F78_0 ζ) (js (jl k0 O60 ζ ζ) (js (jneq ζ ζ) (jn (jx ?_)))))
  refine jif ζ (fun hc5 => ?_) (fun hc5 => ?_)
  refine jq (jr (js (jla k0 A78 Z78 ζ ζ ζ) (jsta k1 Z78 ζ ζ ζ ⟨ζ, ζ, ζ, trivial⟩ (saf ζ) (jn (jx (jrt (jtr ?_)))))))
  exact jrcA (val := vjacquardref07_Got) (b := thM m) (c := ()) ζ ζ k0 A78 Z78 ζ (by first | exact got_of (func_arg hc1) | exact got_of (func_block hc1 hc2) | exact got_of (func_many hc1 hc2 hc4) | (obtain ⟨t9, h8, h9⟩ := th_bad hc5; rw [got_of (func_some hc1 hc2 hc4 h8), h9]; done) | (rw [got_of ((func_graph hc1 hc2 hc4 (th_good hc5)).trans (rg_15 (by omega) hR hc7))]; done) | exact got_of ((func_graph hc1 hc2 hc4 (th_good hc5)).trans ((rg_no (by omega) hR).trans (phis_bad (by omega) (by omega) hG hno (eqIn_bad hEq hc11)))) | exact got_of ((func_graph hc1 hc2 hc4 (th_good hc5)).trans ((rg_no (by omega) hR).trans (by rw [hG, List.drop_of_length_le (by omega)]; rfl)))) d0
  refine jsk (jx (jq (jr (js (jla k2 A28 Z28 ζ ζ ζ) (jcd E65 ζ ζ (rReached_ct (by first | omega | exact things_to (th_good hc5)) (by first | omega | exact things_to (th_good hc5))) (dc d1 dn) kn fun v69 q7 w7 => ja ζ (jn (jx (jq (jq (jr ?_))))))))))
  refine ja ζ (jn (jx (jb ?_)))
  refine jlp (fun (k2 : Nat) => ⟨k2 ≤ (rReachM m).length ∧ (∀ x ∈ (rReachM m).take k2, (false == x) = false), [dv (rL rB) v69 (rReachM m), da rMFunc (vMFunc m a0) m], [bx g2 78 [.int .i64 0, .int .i64 0, .int .i64 0], bx g1 28 [.int .i64 m.Params, a0]], [(1, .pointer (some ⟨g1, 0, none⟩)), (2, .pointer (some ⟨g2, 0, none⟩)), (6, v69), (7, .int .i64 (↑k2))], (rReachM m).length - k2⟩) 0 ⟨by omega, by simp⟩ (dc d0 (dc d2 dn)) (kc k1 (kc k1 kn)) ⟨ζ, ζ, ζ, eqI (by omega), trivial⟩ ?_
  rintro k2; dsimp only; rintro ⟨hk2, hR⟩
  refine jq (jq (jr (jm ζ (jm ζ (js (jln U120 d0 ζ) (js (jlss ζ ζ) (jn (jx ?_))))))))
  refine jif ζ (fun hc6 => ?_) (fun hc6 => ?_)
  refine jsk (jx (jq (jb (jq (jr (jm ζ (jm ζ (js (jix U120 Z4 d0 ζ ζ ζ (by omega)) (js (jlB (dix d0 k2 (by omega)) O4 ζ) (js (jnot ζ) (jn ?_)))))))))))
  refine jx ?_
  refine jif ζ (fun hc7 => ?_) (fun hc7 => ?_)
  refine jq (jr (jm ζ (js (jbu (v := .agg #[.int .i64 15, .int .i64 (↑k2), .int .i64 0]) ζ (fun _ => by kernel_rfl)) (jsta k0 Z78 ζ ζ ζ ⟨ζ, ζ, ζ, trivial⟩ (saf ζ) (jn (jx (jrt (jbr (jtr (jtr (jbr ?_)))))))))))
  refine jtr ?_
  exact jrcA (val := vjacquardref07_Got) (b := ⟨15, ↑k2, 0⟩) (c := ()) ζ ζ k0 A78 Z78 ζ (by first | exact got_of (func_arg hc1) | exact got_of (func_block hc1 hc2) | exact got_of (func_many hc1 hc2 hc4) | (obtain ⟨t9, h8, h9⟩ := th_bad hc5; rw [got_of (func_some hc1 hc2 hc4 h8), h9]; done) | (rw [got_of ((func_graph hc1 hc2 hc4 (th_good hc5)).trans (rg_15 (by omega) hR hc7))]; done) | exact got_of ((func_graph hc1 hc2 hc4 (th_good hc5)).trans ((rg_no (by omega) hR).trans (phis_bad (by omega) (by omega) hG hno (eqIn_bad hEq hc11)))) | exact got_of ((func_graph hc1 hc2 hc4 (th_good hc5)).trans ((rg_no (by omega) hR).trans (by rw [hG, List.drop_of_length_le (by omega)]; rfl)))) (rjacquardref07_Got.M (m := ⟨15, ↑k2, 0⟩) (c := ()) (wl 15) (wp (IntWalk.i64_in ↑k2 (by omega))) (wl 0))
  refine jsk (jbn (jx (jr (jm ζ (js (jadd ζ ζ (by omega)) (ja ζ (jn ?_)))))))
  exact jag (k2 + 1) ⟨by omega, no_snoc (q := fun x => false == x) (by omega) hR (by simp [hc7])⟩ (dc d0 (dc d1 dn)) (kc k0 (kc k0 kn)) ⟨ζ, ζ, ζ, eqI (by omega), trivial⟩
  refine jex (jtx (jtx (jbh (jx (jq (jq (jr (ja ζ (jn (jx (jb ?_)))))))))))
  refine jlp (fun (k5 : Nat) => ⟨k5 ≤ m.Blocks.length ∧ graphPhis m.Blocks 0 m.Blocks = graphPhis m.Blocks k5 (m.Blocks.drop k5), [da rMFunc (vMFunc m a0) m], [bx g2 78 [.int .i64 0, .int .i64 0, .int .i64 0], bx g1 28 [.int .i64 m.Params, a0]], [(1, .pointer (some ⟨g1, 0, none⟩)), (2, .pointer (some ⟨g2, 0, none⟩)), (8, .int .i64 (↑k5))], m.Blocks.length - k5⟩) 0 ⟨by omega, rfl⟩ (dc d1 dn) (kc k0 (kc k0 kn)) ⟨ζ, ζ, eqI (by omega), trivial⟩ ?_
  rintro k5; dsimp only; rintro ⟨hk5, hG⟩
  refine jq (jq (jr (jm ζ (js (jf F28_1 ζ) (js (jl k1 O26 ζ ζ) (js (jln U26 (rMFunc.c_Blocks d0) ζ) (js (jlss ζ ζ) (jn (jx ?_)))))))))
  refine jif ζ (fun hc8 => ?_) (fun hc8 => ?_)
  refine jsk (jx (jq (jb (jq (jr (js (jla k1 A28 Z28 ζ ζ ζ) (jm ζ (jcd E66 ζ ζ (rPreds_ct ↑k5 (by first | omega | exact things_to (th_good hc5))) (dc d0 dn) kn fun v92 q9 w9 => ja ζ (jn (jx ?_))))))))))
  refine jq (jr (ja ζ (jn (jx (jb ?_)))))
  refine jlp (fun (i6 : Nat) => ⟨i6 ≤ (ix m.Blocks k5).Phis.length ∧ (∀ p ∈ (ix m.Blocks k5).Phis.take i6, badPhi m.Blocks k5 p = false), [dv (rL (rI .i64)) v92 (rPredsM m ↑k5), da rMFunc (vMFunc m a0) m], [bx g2 78 [.int .i64 0, .int .i64 0, .int .i64 0], bx g1 28 [.int .i64 m.Params, a0]], [(1, .pointer (some ⟨g1, 0, none⟩)), (2, .pointer (some ⟨g2, 0, none⟩)), (8, .int .i64 (↑k5)), (9, v92), (10, .int .i64 (↑i6))], (ix m.Blocks k5).Phis.length - i6⟩) 0 ⟨by omega, by simp⟩ (dc d0 (dc d1 dn)) (kc k0 (kc k0 kn)) ⟨ζ, ζ, ζ, ζ, eqI (by omega), trivial⟩ ?_
  rintro i6; dsimp only; rintro ⟨hi6, hno⟩
  refine jq (jq (jr (jm ζ (js (jf F28_1 ζ) (js (jl k1 O26 ζ ζ) (jm ζ (js (jix U26 Z71 (rMFunc.c_Blocks d1) ζ ζ ζ (by omega)) (js (jf F71_0 ζ) (jev (jlV (rMBlock.A_Phis (dix (rMFunc.c_Blocks d1) k5 (by omega))) O68 ζ ζ) fun v99 q11 w11 => js (jln U68 d0 ζ) (js (jlss ζ ζ) ?_))))))))))
  refine jn (jx ?_)
  refine jif ζ (fun hc9 => ?_) (fun hc9 => ?_)
  refine jsk (jx (jq (jb (jq (jr (js (jf F28_1 ζ) (js (jl k1 O26 ζ ζ) (jm ζ (js (jix U26 Z71 (rMFunc.c_Blocks d2) ζ ζ ζ (by omega)) (js (jf F71_0 ζ) (jev (jlV (rMBlock.A_Phis (dix (rMFunc.c_Blocks d2) k5 (by omega))) O68 ζ ζ) fun v109 q13 w13 => ?_)))))))))))
  refine jm ζ (js (jix U68 Z76 d0 ζ ζ ζ (by omega)) (js (jf F76_1 ζ) (jev (jlV (rPhi.A_In (dix d0 i6 (by omega))) O74 ζ ζ) fun v113 q15 w15 => ja ζ (jn (jx (jq (jr (jm ζ (js (jgtr ζ ζ) (jm ζ ?_))))))))))
  refine jg ζ ζ (.t _) (fun hg => jmv ζ) (jg ζ ζ (.t _) (fun hg => jln U74 d0 (evg ζ hg)) (jg ζ ζ (.t _) (fun hg => jmv ζ) (jg ζ ζ (.t _) (fun hg => jln U22 d3 (evg ζ hg)) (jg ζ ζ (.t _) (fun hg => jeql (evg ζ hg) (evg ζ hg)) (js (jand ζ ζ) (ja ζ (jn (jx (jq (jq (jr ?_)))))))))))
  refine ja ζ (jn (jx (jb ?_)))
  refine jlp (u2 fun (k7 : Nat) (ok : Bool) => ⟨EqIn m.Blocks k5 (ix (ix m.Blocks k5).Phis i6) k7 ok ∧ k7 ≤ (ix (ix m.Blocks k5).Phis i6).In.length, [dv (rL rIn) v113 ((ix ((ix m.Blocks k5).Phis) i6).In), dv (rL (rI .i64)) v92 (rPredsM m ↑k5), da rMFunc (vMFunc m a0) m], [bx g2 78 [.int .i64 0, .int .i64 0, .int .i64 0], bx g1 28 [.int .i64 m.Params, a0]], [(1, .pointer (some ⟨g1, 0, none⟩)), (2, .pointer (some ⟨g2, 0, none⟩)), (8, .int .i64 (↑k5)), (9, v92), (10, .int .i64 (↑i6)), (11, v113), (12, .bool ok), (13, .int .i64 (↑k7))], (ix (ix m.Blocks k5).Phis i6).In.length + 1 - k7⟩) (0, (decide (0 < ((k5 : Nat) : Int))) && (decide (((List.length ((ix ((ix m.Blocks k5).Phis) i6).In) : Nat) : Int) = ((List.length (rPredsM m ((k5 : Nat) : Int)) : Nat) : Int)))) ⟨eqIn_start, by dsimp only; omega⟩ (dc d0 (dc d3 (dc d4 dn))) (kc k0 (kc k0 kn)) ⟨ζ, ζ, ζ, ζ, ζ, ζ, ζ, eqI (by omega), trivial⟩ ?_
  rintro ⟨k7, ok⟩; dsimp only [u2]; rintro ⟨hEq, hk7⟩
  refine jq (jq (jr (jm ζ (jm ζ (jg ζ ζ (.t _) (fun hg => jmv ζ) (jg ζ ζ (.t _) (fun hg => jmv ζ) (jg ζ ζ (.t _) (fun hg => jln U22 d1 (evg ζ hg)) (jg ζ ζ (.t _) (fun hg => jlss (evg ζ hg) (evg ζ hg)) (js (jand ζ ζ) (jn (jx ?_)))))))))))
  refine jif ζ (fun hc10 => ?_) (fun hc10 => ?_)
  have hlt7 : k7 < (ix (ix m.Blocks k5).Phis i6).In.length := by have h10 : (k7 : Int) < ((predsM m.Blocks k5).length : Int) := hc10.2; rcases hEq with ⟨_, _, h9, _⟩ | ⟨h9, _⟩; (· omega); (rw [h9] at hc10; exact absurd hc10.1 (by decide))
  refine jsk (jx (jq (jb (jstl Mixed (by kernel_rfl) (jt (jmv ζ) (jt (jmv ζ) (jt (jix U74 Z73 d0 ζ ζ ζ (by omega)) (jt (jf F73_0 ζ) (jt (jlI (rIn.A_From (dix d0 k7 (by omega))) O3 ζ) (jt (jmv ζ) (jt (jmv ζ) ?_)))))))))))
  refine jt (jix U22 Z3 d1 ζ ζ ζ (by omega)) (jt (jlI (dix d1 k7 (by omega)) O3 ζ) (jt (jeql ζ ζ) (jt (jas ζ) (jdn (jbn (jx (jr (jm ζ (js (jadd ζ ζ (by omega)) (ja ζ (jn ?_)))))))))))
  exact jag (k7 + 1, decide ((ix ((ix ((ix m.Blocks k5).Phis) i6).In) k7).From = ix (rPredsM m ((k5 : Nat) : Int)) k7)) ⟨eqIn_next hEq hc10, by dsimp only; omega⟩ (dc d0 (dc d1 (dc d2 dn))) (kc k0 (kc k0 kn)) ⟨ζ, ζ, ζ, ζ, ζ, ζ, ζ, eqI (by omega), trivial⟩
  refine jex (jtx (jtx (jbh (jx (jq (jr (jm ζ (js (jnot ζ) (jn (jx ?_))))))))))
  refine jif ζ (fun hc11 => ?_) (fun hc11 => ?_)
  refine jq (jr (jm ζ (jm ζ (js (jsub ζ ζ (by omega)) (js (jbu (v := .agg #[.int .i64 16, .int .i64 (↑k5), .int .i64 ((-1) - ↑i6)]) ζ (fun _ => by kernel_rfl)) (jsta k0 Z78 ζ ζ ζ ⟨ζ, ζ, ζ, trivial⟩ (saf ζ) (jn (jx (jrt (jbr (jtr ?_)))))))))))
  refine jtr (jbr (jbr (jtr (jtr (jbr (jtr ?_))))))
  exact jrcA (val := vjacquardref07_Got) (b := ⟨16, ↑k5, (-1) - ↑i6⟩) (c := ()) ζ ζ k0 A78 Z78 ζ (by first | exact got_of (func_arg hc1) | exact got_of (func_block hc1 hc2) | exact got_of (func_many hc1 hc2 hc4) | (obtain ⟨t9, h8, h9⟩ := th_bad hc5; rw [got_of (func_some hc1 hc2 hc4 h8), h9]; done) | (rw [got_of ((func_graph hc1 hc2 hc4 (th_good hc5)).trans (rg_15 (by omega) hR hc7))]; done) | exact got_of ((func_graph hc1 hc2 hc4 (th_good hc5)).trans ((rg_no (by omega) hR).trans (phis_bad (by omega) (by omega) hG hno (eqIn_bad hEq hc11)))) | exact got_of ((func_graph hc1 hc2 hc4 (th_good hc5)).trans ((rg_no (by omega) hR).trans (by rw [hG, List.drop_of_length_le (by omega)]; rfl)))) (rjacquardref07_Got.M (m := ⟨16, ↑k5, (-1) - ↑i6⟩) (c := ()) (wl 16) (wp (IntWalk.i64_in ↑k5 (by omega))) (wp (IntWalk.i64_in ((-1) - ↑i6) (by omega))))
  refine jsk (jbn (jx (jr (jm ζ (js (jadd ζ ζ (by omega)) (ja ζ (jn ?_)))))))
  exact jag (i6 + 1) ⟨by omega, no_snoc (by omega) hno (eqIn_ok hEq hc10 hc11)⟩ (dc d1 (dc d2 dn)) (kc k0 (kc k0 kn)) ⟨ζ, ζ, ζ, ζ, eqI (by omega), trivial⟩
  refine jex (jtx (jtx (jbh (jbn (jx (jr (jm ζ (js (jadd ζ ζ (by omega)) (ja ζ (jn ?_))))))))))
  exact jag (k5 + 1) ⟨by omega, phis_good (by omega) (by omega) hG hno⟩ (dc d2 dn) (kc k0 (kc k0 kn)) ⟨ζ, ζ, eqI (by omega), trivial⟩
  refine jex (jtx (jtx (jbh (jx (jq (jr (js (jbu (v := .agg #[.int .i64 0, .int .i64 0, .int .i64 0]) ζ (fun _ => by kernel_rfl)) (jsta k0 Z78 ζ ζ ζ ⟨ζ, ζ, ζ, trivial⟩ (saf ζ) (jn (jx (jrt ?_)))))))))))
  exact jrcA (val := vjacquardref07_Got) (b := ⟨0, 0, 0⟩) (c := ()) ζ ζ k0 A78 Z78 ζ (by first | exact got_of (func_arg hc1) | exact got_of (func_block hc1 hc2) | exact got_of (func_many hc1 hc2 hc4) | (obtain ⟨t9, h8, h9⟩ := th_bad hc5; rw [got_of (func_some hc1 hc2 hc4 h8), h9]; done) | (rw [got_of ((func_graph hc1 hc2 hc4 (th_good hc5)).trans (rg_15 (by omega) hR hc7))]; done) | exact got_of ((func_graph hc1 hc2 hc4 (th_good hc5)).trans ((rg_no (by omega) hR).trans (phis_bad (by omega) (by omega) hG hno (eqIn_bad hEq hc11)))) | exact got_of ((func_graph hc1 hc2 hc4 (th_good hc5)).trans ((rg_no (by omega) hR).trans (by rw [hG, List.drop_of_length_le (by omega)]; rfl)))) (rjacquardref07_Got.M (m := ⟨0, 0, 0⟩) (c := ()) (wl 0) (wl 0) (wl 0))
end Go.Proofs.YtdlcjaefkjbonaaGreat
namespace Go.Proofs.YtdlcjaefkjbonaaGreat
set_option linter.unusedVariables false
set_option linter.unusedSimpArgs false
set_option linter.unusedSectionVars false
open Go.JE
theorem predsT_nodup (bs : List D.MBlock) (k : Nat) (b : Int) : (predsT bs k b).Nodup := by
  unfold predsT
  exact List.Pairwise.map _ (fun a b hab h => hab (Int.ofNat_inj.1 h)) (List.Pairwise.filter _ List.nodup_range)
theorem WFm.nodup {m : D.MFunc} (hw : WFm m) {k : Nat} (hk : k < m.Blocks.length) : ∀ p ∈ (ix m.Blocks k).Phis, (p.In.map (·.From)).Nodup := by
  intro p hp
  obtain ⟨_, h3, _⟩ := hw.phi k hk p hp
  rw [h3]; exact predsT_nodup _ _ _
section
variable {N : Int} {K : List Int → List Int → List D.Event → List Int → Int → D.Outcome} {O : D.Outcome} {I : List D.Mach} {k j na : Nat} {rs me A ea : List Int} {cl : List D.Event} {s : Int}
end
section
variable {a b : D.Outcome}
end
end Go.Proofs.YtdlcjaefkjbonaaGreat
namespace Go.Proofs.YtdlcjaefkjbonaaGreat
set_option linter.unusedVariables false
set_option linter.unusedSimpArgs false
set_option linter.unusedSectionVars false
open Go.JE
end Go.Proofs.YtdlcjaefkjbonaaGreat
namespace Go.JE
set_option linter.unusedVariables false
set_option linter.unusedSimpArgs false
set_option linter.unusedSectionVars false
variable {P : Program} {D D0 D1 : List Dt} {L M N Ls L0 Rs : List Res} {e : Env} {X : Cx} {n : Fs} {w0 : World} {Q : Exit → Act → World → Prop}
def putf (off : Nat) (us : List Value) (f : Nat → Value) : Nat → Value := fun j => if off ≤ j ∧ j < off + us.length then us.getD (j - off) undef else f j
section
variable {α : Type} [Inhabited α] {r : Rp α} {E T : TypeId} {F : PH} {H : Heap} {B i off m o g : Nat} {v u : Value} {us : List Value} {l : List α} {a : α} {x y : Operand}
theorem ix_lt {l : List α} {i : Nat} (h : i < l.length) : ix l i = l[i] := by simp [ix, List.getD, h]
omit [Inhabited α] in
theorem setAt_getD {cs l : List Value} {o i : Nat} (ho : o + l.length ≤ cs.length) : (setAt cs o l).getD i undef = if o ≤ i ∧ i < o + l.length then l.getD (i - o) undef else cs.getD i undef := setAt_get l cs o i ho
theorem Gl.putl (h : Gl r E F H B v l) (hi : i < l.length) (hg : v.ownBlock = some g) (ho : off + us.length ≤ r.sz) (hok : ∀ f, r.ok F (ix l i) f → r.ok F a (putf off us f)) : Gl r E F (setl H g (i * r.sz + off) us) B v (l.set i a) := by
  obtain ⟨xs, h1, h2, h3⟩ := h
  have hb : (i + 1) * r.sz ≤ l.length * r.sz := Nat.mul_le_mul_right _ hi
  rw [Nat.add_mul] at hb
  have hlen : i * r.sz + off + us.length ≤ xs.length := by rw [h1.1]; omega
  refine ⟨setAt xs (i * r.sz + off) us, by rw [List.length_set]; exact Gr.setl us _ h1 ⟨g, hg⟩ g hg, h2, fun j hj => ?_⟩
  rw [List.length_set] at hj
  by_cases e1 : j = i
  · subst e1
    rw [List.getElem_set_self]
    refine r.ext (fun q hq => ?_) (hok _ (by rw [ix_lt hi]; exact h3 j hi))
    rw [setAt_getD hlen]
    unfold putf
    by_cases h5 : off ≤ q ∧ q < off + us.length
    · rw [if_pos h5, if_pos (by omega), show j * r.sz + q - (j * r.sz + off) = q - off by omega]
    · rw [if_neg h5, if_neg (by omega)]
  · rw [List.getElem_set_ne (Ne.symm e1)]
    refine r.ext (fun q hq => ?_) (h3 j hj)
    rw [setAt_getD hlen, if_neg]
    rintro ⟨h5, h6⟩
    rcases Nat.lt_or_gt_of_ne e1 with h7 | h7
    · have : (j + 1) * r.sz ≤ i * r.sz := Nat.mul_le_mul_right _ h7
      rw [Nat.add_mul] at this; omega
    · have : (i + 1) * r.sz ≤ j * r.sz := Nat.mul_le_mul_right _ h7
      rw [Nat.add_mul] at this; omega
omit [Inhabited α] in
theorem Gl.rw (h : Gl r E F H B v l) (hi : i < l.length) (hs : 0 < r.sz) : ∃ g c n, v = .slice (some ⟨g, 0, none⟩) l.length c ∧ (∃ f, Rw H g E n f) ∧ l.length * r.sz ≤ n := by
  obtain ⟨xs, g1, g2, g3⟩ := h
  rcases g1.2 with ⟨h9, h8⟩ | ⟨g, cap, cur, h9, hb, hg, hc1, hc2, hc3, hc4⟩
  · omega
  · exact ⟨g, cap, cur.size, h9, ⟨fun j => cur.getD j undef, cur, hg, rfl, fun j hj => by simp [Array.getD, hj]⟩, by rw [hc3]; exact Nat.mul_le_mul_right _ hc1⟩
theorem OpCh.storeP (h : Gl r E F H B v l) (hi : i < l.length) (hT : Sz P T 1) (hx : ev e x = some (.pointer (some ⟨vblk v, o, none⟩))) (hoo : o = voff v + i * r.sz + off) (hy : ev e y = some u) (h1 : u.oneCell' = true) (ho : off < r.sz) (hok : ∀ f, r.ok F (ix l i) f → r.ok F a (putf off [u] f)) :
    OpCh P e (.store T x y) H (fun _ H' => ∃ g, v.ownBlock = some g ∧ Tw g H H' ∧ Gl r E F H' B v (l.set i a)) := by
  obtain ⟨g, c, n, rfl, ⟨f, hr⟩, hn⟩ := h.rw hi (by omega)
  have hb : (i + 1) * r.sz ≤ l.length * r.sz := Nat.mul_le_mul_right _ hi
  rw [Nat.add_mul] at hb
  intro ρ oo w hoo' hev hw
  have hx' : ev e x = some (.pointer (some ⟨g, i * r.sz + off, none⟩)) := by rw [hx, hoo]; simp [vblk, voff]
  obtain ⟨v', w', k1, k2, k3, k4, k5⟩ := OpCh.store (P := P) hT hx' hy h1 hr (by omega) ρ oo w hoo' hev hw
  refine ⟨v', w', k1, k2, k3, k4, g, rfl, by rw [k5]; exact ⟨size_setc, fun k hk => setc_other hk⟩, ?_⟩
  rw [k5]
  exact h.putl (us := [u]) hi rfl (by simp only [List.length_cons, List.length_nil]; omega) hok
theorem OpCh.storePA (h : Gl r E F H B v l) (hi : i < l.length) (hT : Sz P T m) (hx : ev e x = some (.pointer (some ⟨vblk v, o, none⟩))) (hoo : o = voff v + i * r.sz + off) (hy : ev e y = some (.agg us.toArray)) (hl : us.length = m) (h1 : ∀ u ∈ us, u.oneCell' = true) (hs : 0 < r.sz) (ho : off + us.length ≤ r.sz) (hok : ∀ f, r.ok F (ix l i) f → r.ok F a (putf off us f)) :
    OpCh P e (.store T x y) H (fun _ H' => ∃ g, v.ownBlock = some g ∧ Tw g H H' ∧ Gl r E F H' B v (l.set i a)) := by
  obtain ⟨g, c, n, rfl, ⟨f, hr⟩, hn⟩ := h.rw hi hs
  have hb : (i + 1) * r.sz ≤ l.length * r.sz := Nat.mul_le_mul_right _ hi
  rw [Nat.add_mul] at hb
  intro ρ oo w hoo' hev hw
  have hx' : ev e x = some (.pointer (some ⟨g, i * r.sz + off, none⟩)) := by rw [hx, hoo]; simp [vblk, voff]
  obtain ⟨v', w', k1, k2, k3, k4, k5⟩ := OpCh.storeAgg (P := P) hT hx' hy hl h1 hr (by omega) ρ oo w hoo' hev hw
  refine ⟨v', w', k1, k2, k3, k4, g, rfl, by rw [k5]; exact ⟨size_setl _ _ _ _, fun k hk => setl_other hk _ _ _⟩, ?_⟩
  rw [k5]
  exact h.putl hi rfl ho hok
theorem Gl.cellP (h : Gl r E F H B v l) (hi : i < l.length) (ho : off < r.sz) : ∃ f, r.ok F (ix l i) f ∧ hc H (vblk v) (voff v + i * r.sz + off) = some (f off) := by
  obtain ⟨xs, g1, g2, g3⟩ := h
  have hb : (i + 1) * r.sz ≤ l.length * r.sz := Nat.mul_le_mul_right _ hi
  rw [Nat.add_mul] at hb
  refine ⟨fun j => xs.getD (i * r.sz + j) undef, by rw [ix_lt hi]; exact g3 i hi, ?_⟩
  rcases g1.2 with ⟨h9, h8⟩ | ⟨g, cap, cur, rfl, hb', hg, hc1, hc2, hc3, hc4⟩
  · omega
  · have h5 : i * r.sz + off < cur.size := by
      rw [hc3]
      have : l.length * r.sz ≤ cap * r.sz := Nat.mul_le_mul_right _ hc1
      omega
    have h6 : i * r.sz + off < l.length * r.sz := by omega
    simp only [vblk, voff, Nat.zero_add, hc, hg]
    rw [← hc4]
    simp [List.getD, h5, h6, List.getElem?_take]
section
variable {ops : Array Oper} {d : Nat} {ty : TypeId} {pos : String} {af : Array Edge} {rest : List Oper}
def PO (D : List Dt) (L : List Res) (r : Rp α) (a : α) (off : Nat) (us : List Value) (b : α) : Prop := ∀ F H, InH F H → AllD F D → Ok F H L → ∀ f, r.ok F a f → r.ok F b (putf off us f)
theorem jsp (hk : Tk L (gl B r E v l) M) (hi : i < l.length) (hT : Sz P T 1) (hx : ev e x = some (.pointer (some ⟨vblk v, o, none⟩))) (hoo : o = voff v + i * r.sz + off) (hy : ev e y = some u) (h1 : u.oneCell' = true) (hok : PO D L r (ix l i) off [u] a)
    (k : LH P n w0 ops Q X D (gl B r E v (l.set i a) :: M) e rest) (ho : off < r.sz := by exact Nat.le_of_ble_eq_true rfl) : LH P n w0 ops Q X D L e (⟨none, .store T x y, ty, pos, af, none⟩ :: rest) := fun F H hp =>
  LF.chg0 (OpCh.storeP (hp.at hk).1 hi hT hx hoo hy h1 ho (hok F H hp.hin hp.hd hp.ok)) (by
    rintro _ H' ⟨g, hg, t, hb⟩
    exact k F H' (hp.set (R' := gl B r E v (l.set i a)) hk ⟨Nat.le_of_eq t.1.symm, fun k _ h2 => t.2 k (fun e1 => h2 (e1 ▸ hg))⟩ ⟨hb, by rw [t.1]; exact hp1 hp hk⟩ (fun k h => .inr h)))
theorem jspA (hk : Tk L (gl B r E v l) M) (hi : i < l.length) (hT : Sz P T m) (hx : ev e x = some (.pointer (some ⟨vblk v, o, none⟩))) (hoo : o = voff v + i * r.sz + off) (hy : ev e y = some (.agg us.toArray)) (hl : us.length = m) (h1 : allOne us) (hok : PO D L r (ix l i) off us a)
    (k : LH P n w0 ops Q X D (gl B r E v (l.set i a) :: M) e rest) (ho : off + us.length ≤ r.sz := by exact Nat.le_of_ble_eq_true rfl) (hs : 0 < r.sz := by exact Nat.le_of_ble_eq_true rfl) : LH P n w0 ops Q X D L e (⟨none, .store T x y, ty, pos, af, none⟩ :: rest) := fun F H hp =>
  LF.chg0 (OpCh.storePA (hp.at hk).1 hi hT hx hoo hy hl h1.mem hs ho (hok F H hp.hin hp.hd hp.ok)) (by
    rintro _ H' ⟨g, hg, t, hb⟩
    exact k F H' (hp.set (R' := gl B r E v (l.set i a)) hk ⟨Nat.le_of_eq t.1.symm, fun k _ h2 => t.2 k (fun e1 => h2 (e1 ▸ hg))⟩ ⟨hb, by rw [t.1]; exact hp1 hp hk⟩ (fun k h => .inr h)))
end
theorem OpCh.makeN {z : Value} {bytes n : Nat} {I J : Int} (hT : P.underlying T = some (.slice E)) (hE : (P.info? E).map (fun i => (i.zero, i.size, i.bytes)) = some (some z, r.sz, bytes)) (hz : z.cells.size = r.sz) (hs : 0 < r.sz)
    (hx : ev e x = some (.int .i64 I)) (hy : ev e y = some (.int .i64 J)) (hI : I = n) (hJ : J = n) (h1 : bytes * n ≤ 281474976710656) (h2 : n ≤ 140737488355328) (hok : r.ok F a (fun j => z.cells.getD j undef)) :
    OpCh P e (.makeSlice T x y) H (fun u H' => ∃ g, u = .slice (some ⟨g, 0, none⟩) n n ∧ g = H.size ∧ H'.size = H.size + 1 ∧ Kp H.size H H' ∧ (InH F H → Gl r E F H' H.size (.slice (some ⟨g, 0, none⟩) n n) (List.replicate n a))) := by
  subst hI; subst hJ
  intro ρ o w ho hev hw
  obtain ⟨i, hi, hzz⟩ := Option.map_eq_some_iff.1 hE
  simp only [Prod.mk.injEq] at hzz
  obtain ⟨hz0, hs', hb⟩ := hzz
  have hb' : (i.bytes : Int) * (n : Int) ≤ 281474976710656 := by
    have h9 : ((i.bytes * n : Nat) : Int) ≤ 281474976710656 := by rw [hb]; omega
    rwa [Int.natCast_mul] at h9
  have hr := run_make (P := P) w T E i z hT hi hz0 .i64 .i64 n n (by omega) (Int.le_refl _) hb' (by omega)
  refine ⟨.slice (some ⟨w.heap.size, 0, none⟩) n n, w.alloc (.cells (madeCells z.cells (n * i.size)) E), .inl ?_, rfl, rfl, rfl, H.size, ?_⟩
  · simp only [Int.toNat_natCast] at hr
    simp [execOp, ho, hev _ _ hx, hev _ _ hy, hr]
  · subst hw
    refine ⟨rfl, rfl, by show (w.heap.push _).size = _; simp, ⟨by show _ ≤ (w.heap.push _).size; simp, fun k hk => push_old hk⟩, fun hin => ?_⟩
    refine Gl.ofRow (cs := (madeCells z.cells (n * r.sz)).toList) ?_ (hin.nope (Nat.le_refl _)) (Nat.le_refl _) (by simp [madeCells]) (by simp) (by unfold maxLen; omega) (fun j hj => ?_)
    · show (w.heap.push _)[w.heap.size]? = _
      rw [push_new, hs']
    · simp only [List.length_replicate] at hj
      simp only [List.getElem_replicate]
      refine r.ext (fun q hq => ?_) hok
      have h3 : j * r.sz + q < n * r.sz := by
        have : (j + 1) * r.sz ≤ n * r.sz := Nat.mul_le_mul_right _ hj
        rw [Nat.add_mul] at this; omega
      have h4 : (j * r.sz + q) % r.sz = q := by rw [Nat.add_comm, Nat.add_mul_mod_self_right, Nat.mod_eq_of_lt hq]
      simp [List.getD, madeCells, hz, h3, h4, hq]
end
end Go.JE
