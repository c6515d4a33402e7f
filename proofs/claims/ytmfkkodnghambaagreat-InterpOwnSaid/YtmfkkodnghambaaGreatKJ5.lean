/- Lemmas that the claim is made of. Conditions: each lemma names its own. -/
import Derived.Test.YtmfkkodnghambaaGreatKJ4
set_option linter.unusedSectionVars false
set_option linter.unusedSimpArgs false
set_option linter.unusedVariables false
namespace Go.Proofs.YtmfkkodnghambaaGreat
open Go.JE
theorem E47 : Ent Tryz.prog 47 := ⟨_,Tryz.func47,by kernel_rfl,by kernel_rfl⟩
theorem F108_3 : Fld Tryz.prog 108 3 4 := ⟨_,_,Tryz.underlying108,rfl,rfl,1,(by unfold Sz; kernel_rfl),by decide⟩
theorem F108_4 : Fld Tryz.prog 108 4 5 := ⟨_,_,Tryz.underlying108,rfl,rfl,1,(by unfold Sz; kernel_rfl),by decide⟩
theorem F67_0 : Fld Tryz.prog 67 0 0 := ⟨_,_,Tryz.underlying67,rfl,rfl,1,(by unfold Sz; kernel_rfl),by decide⟩
theorem F67_1 : Fld Tryz.prog 67 1 1 := ⟨_,_,Tryz.underlying67,rfl,rfl,1,(by unfold Sz; kernel_rfl),by decide⟩
theorem F67_2 : Fld Tryz.prog 67 2 2 := ⟨_,_,Tryz.underlying67,rfl,rfl,1,(by unfold Sz; kernel_rfl),by decide⟩
set_option maxRecDepth 4000 in
theorem m3fresh_ct {vs vb al : Value} {m : Mk} {nb c : Nat} {S : List Int} {g0 : Nat} (hok : okS nb c S m) (hc : c ≤ 1000000) : KA Tryz.prog 64 [] [] g0 vs vb al S m (freshS m) (.int .i64 m.nx) := by
 refine jenter (args := [.pointer (some ⟨g0,0,none⟩)]) Tryz.func64 rfl rfl rfl fun w0 X => ?_
 have bd0 := okM.bnd hok.1
 refine jq (jr (ja Z (jn (jx (jq (jr (jm Z (jm Z (js (jnil Z) (js (jf F108_3 Z) (js (jl k0 O3 Z Z) ?_)))))))))))
 refine js (jadd Z Z (by omega)) (js (jnil Z) (js (jf F108_3 Z) (jst k0 Z3 Z Z Z s4 (jkna (c := c + 1) ({ m with nx := m.nx + 1 }) k0 ⟨(okM.setnx hok.1 (by omega) (by omega)),hok.2⟩ fun ms1 hms1 oms1 bms1 => ?_))))
 clear bd0
 refine jn (jx (jq (jr (jm Z (js (jnil Z) (js (jf F108_3 Z) (js (jl k0 O3 Z Z) (js (jsub Z Z (by omega)) (ja Z (jn (jx ?_)))))))))))
 refine jrt ?_
 have hv0 : m.nx = (ms1.nx - 1) := (by (try simp only [hms1]); simp)
 have hst : ms1 = freshS m := (by (try simp only [hms1]); all_goals first | rfl | (simp [freshS]; done) | (simp [freshS]; rfl) | (unfold freshS; (repeat' split) <;> first | rfl | (exfalso; omega) | (simp [] at *; done) | (simp_all; done)))
 exact jr1 Z Z () (by rw [hv0] <;> rfl) dn (fun _ _ => (kcb (by rw [← hst]) k0 kn))
set_option maxRecDepth 4000 in
theorem m3word_ct {vs vb al : Value} {m : Mk} {nb c : Nat} {S : List Int} {g0 : Nat} (hok : okS nb c S m) (hc : c ≤ 990000) : KA Tryz.prog 71 [] [] g0 vs vb al S m (wordS m) (.int .i32 (wordV m)) := by
 refine jenter (args := [.pointer (some ⟨g0,0,none⟩)]) Tryz.func71 rfl rfl rfl fun w0 X => ?_
 have bd0 := okM.bnd hok.1
 refine jq (jr (ja Z (jn (jx (jq (jr (jm Z (jka E47 Z Z (m3take_ct hok (by omega) 1048576 (by omega)) (dc d0 dn) k0 ⟨tO9 hok.1,hok.2⟩ fun m5 hm5 om5 bm5 => ?_))))))))
 have w5_0 : IntKind.i64.wrap (tVV 1048576 m) = tVV 1048576 m := (IntWalk.i64_in _ (by have h9 := @tV9 1048576 (by omega) m; omega))
 have tr5 := @tV9 1048576 (by omega) m
 clear bd0
 refine ja Z (jn (jx (jq (jq (jr (jm Z (jka E47 Z Z (m3take_ct om5 (by omega) 8 (by omega)) (dc d0 dn) k0 ⟨tO9 om5.1,om5.2⟩ fun m7 hm7 om7 bm7 => ?_)))))))
 have w7_0 : IntKind.i64.wrap (tVV 8 m5) = tVV 8 m5 := (IntWalk.i64_in _ (by have h9 := @tV9 8 (by omega) m5; omega))
 have tr7 := @tV9 8 (by omega) m5
 clear bm5
 refine jn (jx (jb (jq (jr (js (jeql Z Z) (ja Z (jn (jx ?_))))))))
 refine jif Z (fun hc1 => ?_) (fun hc1 => ?_)
 refine jq (jr (jm Z (js (jmul Z Z (by omega)) (js (jco U3 U21 Z Z) (ja Z (jn (jx (jrt (jbr (jtr ?_))))))))))
 have hv0 : wordV m = (IntKind.i32.wrap ((tVV 1048576 m) * 4099)) := (by (try simp only [hm5,hm7] at hc1); (try simp only [hm5,hm7]); have w1 : IntKind.i64.wrap (0 - tVV 1048576 m) = 0 - tVV 1048576 m := IntWalk.i64_in _ (by omega); have w2 : IntKind.i32.wrap (0 - tVV 1048576 m) = 0 - tVV 1048576 m := IntWalk.i32_in _ (by omega); have a1 := Int.tmod_nonneg 70000 tr5.1; have a2 := Int.tmod_lt_of_pos (tVV 1048576 m) (b := 70000) (by omega); have a3 := Int.tmod_nonneg 20 tr5.1; have a4 := Int.tmod_lt_of_pos (tVV 1048576 m) (b := 20) (by omega); have w3 : IntKind.i32.wrap (Int.tmod (tVV 1048576 m) 70000) = Int.tmod (tVV 1048576 m) 70000 := IntWalk.i32_in _ (by omega); have w4 : IntKind.i32.wrap (Int.tmod (tVV 1048576 m) 20 - 4) = Int.tmod (tVV 1048576 m) 20 - 4 := IntWalk.i32_in _ (by omega); first | (rw [w1,w2]; simp [wordV,hc1]; done) | (rw [w3]; simp [wordV,hc1]; done) | (rw [w4]; simp [wordV,hc1]; done) | (simp [wordV,hc1]; done))
 have hst : m7 = wordS m := (by (try simp only [hm5,hm7] at hc1); (try simp only [hm5,hm7]); all_goals first | rfl | (simp [wordV,wordS,hc1]; done) | (simp [wordV,wordS,hc1]; rfl) | (unfold wordV wordS; (repeat' split) <;> first | rfl | (exfalso; omega) | (simp [hc1] at *; done) | (simp_all; done)))
 exact jr1 Z Z () (by rw [hv0] <;> rfl) dn (fun _ _ => (kcb (by rw [← hst]) k0 kn))
 refine jq (jr (js (jeql Z Z) (ja Z (jn (jx ?_)))))
 refine jif Z (fun hc2 => ?_) (fun hc2 => ?_)
 refine jq (jr (jm Z (js (jneg Z) (js (jco U3 U21 Z Z) (ja Z (jn (jx (jrt (jbr (jtr ?_))))))))))
 have hv0 : wordV m = (IntKind.i32.wrap (IntKind.i64.wrap (0 - (tVV 1048576 m)))) := (by (try simp only [hm5,hm7] at hc1 hc2); (try simp only [hm5,hm7]); have w1 : IntKind.i64.wrap (0 - tVV 1048576 m) = 0 - tVV 1048576 m := IntWalk.i64_in _ (by omega); have w2 : IntKind.i32.wrap (0 - tVV 1048576 m) = 0 - tVV 1048576 m := IntWalk.i32_in _ (by omega); have a1 := Int.tmod_nonneg 70000 tr5.1; have a2 := Int.tmod_lt_of_pos (tVV 1048576 m) (b := 70000) (by omega); have a3 := Int.tmod_nonneg 20 tr5.1; have a4 := Int.tmod_lt_of_pos (tVV 1048576 m) (b := 20) (by omega); have w3 : IntKind.i32.wrap (Int.tmod (tVV 1048576 m) 70000) = Int.tmod (tVV 1048576 m) 70000 := IntWalk.i32_in _ (by omega); have w4 : IntKind.i32.wrap (Int.tmod (tVV 1048576 m) 20 - 4) = Int.tmod (tVV 1048576 m) 20 - 4 := IntWalk.i32_in _ (by omega); first | (rw [w1,w2]; simp [wordV,hc1,hc2]; done) | (rw [w3]; simp [wordV,hc1,hc2]; done) | (rw [w4]; simp [wordV,hc1,hc2]; done) | (simp [wordV,hc1,hc2]; done))
 have hst : m7 = wordS m := (by (try simp only [hm5,hm7] at hc1 hc2); (try simp only [hm5,hm7]); all_goals first | rfl | (simp [wordV,wordS,hc1,hc2]; done) | (simp [wordV,wordS,hc1,hc2]; rfl) | (unfold wordV wordS; (repeat' split) <;> first | rfl | (exfalso; omega) | (simp [hc1,hc2] at *; done) | (simp_all; done)))
 exact jr1 Z Z () (by rw [hv0] <;> rfl) dn (fun _ _ => (kcb (by rw [← hst]) k0 kn))
 refine jq (jr (js (jeql Z Z) (ja Z (jn (jx ?_)))))
 refine jif Z (fun hc3 => ?_) (fun hc3 => ?_)
 refine jq (jr (ja Z (jn (jx (jrt (jbr (jtr ?_)))))))
 have hv0 : wordV m = (-2147483648) := (by (try simp only [hm5,hm7] at hc1 hc2 hc3); (try simp only [hm5,hm7]); have w1 : IntKind.i64.wrap (0 - tVV 1048576 m) = 0 - tVV 1048576 m := IntWalk.i64_in _ (by omega); have w2 : IntKind.i32.wrap (0 - tVV 1048576 m) = 0 - tVV 1048576 m := IntWalk.i32_in _ (by omega); have a1 := Int.tmod_nonneg 70000 tr5.1; have a2 := Int.tmod_lt_of_pos (tVV 1048576 m) (b := 70000) (by omega); have a3 := Int.tmod_nonneg 20 tr5.1; have a4 := Int.tmod_lt_of_pos (tVV 1048576 m) (b := 20) (by omega); have w3 : IntKind.i32.wrap (Int.tmod (tVV 1048576 m) 70000) = Int.tmod (tVV 1048576 m) 70000 := IntWalk.i32_in _ (by omega); have w4 : IntKind.i32.wrap (Int.tmod (tVV 1048576 m) 20 - 4) = Int.tmod (tVV 1048576 m) 20 - 4 := IntWalk.i32_in _ (by omega); first | (rw [w1,w2]; simp [wordV,hc1,hc2,hc3]; done) | (rw [w3]; simp [wordV,hc1,hc2,hc3]; done) | (rw [w4]; simp [wordV,hc1,hc2,hc3]; done) | (simp [wordV,hc1,hc2,hc3]; done))
 have hst : m7 = wordS m := (by (try simp only [hm5,hm7] at hc1 hc2 hc3); (try simp only [hm5,hm7]); all_goals first | rfl | (simp [wordV,wordS,hc1,hc2,hc3]; done) | (simp [wordV,wordS,hc1,hc2,hc3]; rfl) | (unfold wordV wordS; (repeat' split) <;> first | rfl | (exfalso; omega) | (simp [hc1,hc2,hc3] at *; done) | (simp_all; done)))
 exact jr1 Z Z () (by rw [hv0] <;> rfl) dn (fun _ _ => (kcb (by rw [← hst]) k0 kn))
 refine jq (jr (js (jeql Z Z) (ja Z (jn (jx ?_)))))
 refine jif Z (fun hc4 => ?_) (fun hc4 => ?_)
 refine jq (jr (jm Z (js (jrem Z Z (by decide)) (js (jco U3 U21 Z Z) (ja Z (jn (jx (jrt (jbr (jtr ?_))))))))))
 have hv0 : wordV m = (IntKind.i32.wrap (Int.tmod (tVV 1048576 m) 70000)) := (by (try simp only [hm5,hm7] at hc1 hc2 hc3 hc4); (try simp only [hm5,hm7]); have w1 : IntKind.i64.wrap (0 - tVV 1048576 m) = 0 - tVV 1048576 m := IntWalk.i64_in _ (by omega); have w2 : IntKind.i32.wrap (0 - tVV 1048576 m) = 0 - tVV 1048576 m := IntWalk.i32_in _ (by omega); have a1 := Int.tmod_nonneg 70000 tr5.1; have a2 := Int.tmod_lt_of_pos (tVV 1048576 m) (b := 70000) (by omega); have a3 := Int.tmod_nonneg 20 tr5.1; have a4 := Int.tmod_lt_of_pos (tVV 1048576 m) (b := 20) (by omega); have w3 : IntKind.i32.wrap (Int.tmod (tVV 1048576 m) 70000) = Int.tmod (tVV 1048576 m) 70000 := IntWalk.i32_in _ (by omega); have w4 : IntKind.i32.wrap (Int.tmod (tVV 1048576 m) 20 - 4) = Int.tmod (tVV 1048576 m) 20 - 4 := IntWalk.i32_in _ (by omega); first | (rw [w1,w2]; simp [wordV,hc1,hc2,hc3,hc4]; done) | (rw [w3]; simp [wordV,hc1,hc2,hc3,hc4]; done) | (rw [w4]; simp [wordV,hc1,hc2,hc3,hc4]; done) | (simp [wordV,hc1,hc2,hc3,hc4]; done))
 have hst : m7 = wordS m := (by (try simp only [hm5,hm7] at hc1 hc2 hc3 hc4); (try simp only [hm5,hm7]); all_goals first | rfl | (simp [wordV,wordS,hc1,hc2,hc3,hc4]; done) | (simp [wordV,wordS,hc1,hc2,hc3,hc4]; rfl) | (unfold wordV wordS; (repeat' split) <;> first | rfl | (exfalso; omega) | (simp [hc1,hc2,hc3,hc4] at *; done) | (simp_all; done)))
 exact jr1 Z Z () (by rw [hv0] <;> rfl) dn (fun _ _ => (kcb (by rw [← hst]) k0 kn))
 refine jsk (jbn (jx (jq (jr (jm Z (js (jrem Z Z (by decide)) ?_))))))
 have b3 := Int.tmod_nonneg 20 tr5.1
 have b4 := Int.tmod_lt_of_pos (tVV 1048576 m) (b := 20) (by omega)
 refine js (jsub Z Z (by omega)) (js (jco U3 U21 Z Z) (ja Z (jn (jx (jrt ?_)))))
 have hv0 : wordV m = (IntKind.i32.wrap ((Int.tmod (tVV 1048576 m) 20) - 4)) := (by (try simp only [hm5,hm7] at hc1 hc2 hc3 hc4); (try simp only [hm5,hm7]); have w1 : IntKind.i64.wrap (0 - tVV 1048576 m) = 0 - tVV 1048576 m := IntWalk.i64_in _ (by omega); have w2 : IntKind.i32.wrap (0 - tVV 1048576 m) = 0 - tVV 1048576 m := IntWalk.i32_in _ (by omega); have a1 := Int.tmod_nonneg 70000 tr5.1; have a2 := Int.tmod_lt_of_pos (tVV 1048576 m) (b := 70000) (by omega); have a3 := Int.tmod_nonneg 20 tr5.1; have a4 := Int.tmod_lt_of_pos (tVV 1048576 m) (b := 20) (by omega); have w3 : IntKind.i32.wrap (Int.tmod (tVV 1048576 m) 70000) = Int.tmod (tVV 1048576 m) 70000 := IntWalk.i32_in _ (by omega); have w4 : IntKind.i32.wrap (Int.tmod (tVV 1048576 m) 20 - 4) = Int.tmod (tVV 1048576 m) 20 - 4 := IntWalk.i32_in _ (by omega); first | (rw [w1,w2]; simp [wordV,hc1,hc2,hc3,hc4]; done) | (rw [w3]; simp [wordV,hc1,hc2,hc3,hc4]; done) | (rw [w4]; simp [wordV,hc1,hc2,hc3,hc4]; done) | (simp [wordV,hc1,hc2,hc3,hc4]; done))
 have hst : m7 = wordS m := (by (try simp only [hm5,hm7] at hc1 hc2 hc3 hc4); (try simp only [hm5,hm7]); all_goals first | rfl | (simp [wordV,wordS,hc1,hc2,hc3,hc4]; done) | (simp [wordV,wordS,hc1,hc2,hc3,hc4]; rfl) | (unfold wordV wordS; (repeat' split) <;> first | rfl | (exfalso; omega) | (simp [hc1,hc2,hc3,hc4] at *; done) | (simp_all; done)))
 exact jr1 Z Z () (by rw [hv0] <;> rfl) dn (fun _ _ => (kcb (by rw [← hst]) k0 kn))
theorem r3makes_ct {a0 : Value} {i : D.Ins} : Td Tryz.prog 66 #[vIns i a0] [da rIns (vIns i a0) i] [] (rL (rI .i64)) (makes3 i) := by
 refine jenter (args := [vIns i a0]) Tryz.func66 rfl rfl rfl fun w0 X => ?_
 refine jq (jr (jbox Z Z fun g1 => ja Z (jn (jx (jq (jq (jr (js (jf F67_0 Z) (js (jl k0 O3 Z Z) (jn ?_))))))))))
 refine jx (jb (jq (jr (js (jeql Z Z) (ja Z (jn (jx ?_)))))))
 refine jif Z (fun hc1 => ?_) (fun hc1 => ?_)
 refine jq (jr (ja Z (jn (jx (jrt (jbr (jtr ?_)))))))
 exact jrD Z Z (by simp [makes3, *]) wN
 refine jq (jr (js (jeql Z Z) (ja Z (jn (jx ?_)))))
 refine jif Z (fun hc2 => ?_) (fun hc2 => ?_)
 refine jq (jr (js (jf F67_1 Z) (js (jl k0 O3 Z Z) (js (jf F67_2 Z) (js (jl k0 O3 Z Z) (jlit (r := (rI .i64)) (l := [i.Dst,i.Two]) U22 I3 (by decide) Z Z Z (lV Z Z (wI (rIns.W_Dst d0)) (lV Z Z (wI (rIns.W_Two d0)) ln)) fun g13 => ja Z (jn (jx (jrt (jbr ?_))))))))))
 refine jtr (qfz k0 (by (try simp) <;> omega) ?_)
 exact jrD Z Z (by simp [makes3, *]) d0
 refine jsk (jbn (jx (jq (jr (js (jf F67_1 Z) (js (jl k0 O3 Z Z) (jlit (r := (rI .i64)) (l := [i.Dst]) U22 I3 (by decide) Z Z Z (lV Z Z (wI (rIns.W_Dst d0)) ln) fun g16 => ja Z (jn (jx (jrt ?_))))))))))
 refine qfz k0 (by (try simp) <;> omega) ?_
 exact jrD Z Z (by simp [makes3, *]) d0
set_option maxRecDepth 4000 in
theorem m3value_ct {vs vb al : Value} {m : Mk} {nb c : Nat} {S : List Int} {g0 : Nat} {B0 B1 : Nat} {qs : List BV} (hok : okS nb c S m) (hc : c ≤ 990000) : KB Tryz.prog 171 [] [] g0 vs vb al S B0 B1 qs [wf .i64 (valueV m)] m (valueS m) (.tuple #[.int .i64 (valueV m),.bool (valueB m)]) := by
 refine jenter (args := [.pointer (some ⟨g0,0,none⟩)]) Tryz.func171 rfl rfl rfl fun w0 X => ?_
 refine cgo k1 fun w1 => ?_
 have bd0 := okM.bnd hok.1
 refine cbk k2 (okM.bnd hok.1).2.2.2.2.2.2.2.1 fun hvb => jq (jr (ja Z (ja Z (jn (jx (jq (jq (jr (jm Z (js (jnil Z) ?_))))))))))
 refine js (jf F108_4 Z) (js (jl k0 O22 Z Z) (js (jlg U22 k1 Z) (js (jeql Z Z) (jn (jx ?_)))))
 refine jif Z (fun hc1 => ?_) (fun hc1 => ?_)
 have hz : m.lv.length = 0 := by omega
 refine jq (jr (ja Z (ja Z (jn (jx (jrt (jtr ?_)))))))
 have hv0 : valueV m = 0 := (by first | (simp [valueV,valueB,valueS,valueI,hz]; done) | (simp [valueV,valueB,valueS,valueI,hz]; rfl))
 have hv1 : valueB m = false := (by first | (simp [valueV,valueB,valueS,valueI,hz]; done) | (simp [valueV,valueB,valueS,valueI,hz]; rfl))
 have hst : m = valueS m := (by first | (simp [valueV,valueB,valueS,valueI,hz]; done) | (simp [valueV,valueB,valueS,valueI,hz]; rfl))
 exact jr2 Z Z Z (al,qs) (by rw [hv0,hv1] <;> rfl) (dc (wca hv0 (wl 0)) dn) (fun _ _ => (kcb (by rw [← hst]) k0 (kcg (by rw [← hst]) k0 (kck (by rw [← hst]) k0 kn))))
 have hz : ¬ m.lv.length = 0 := by omega
 refine jsk (jx (jq (jr (jm Z (jm Z (js (jnil Z) (js (jf F108_4 Z) (js (jl k0 O22 Z Z) (js (jlg U22 k1 Z) (jkr E47 Z Z (m3take_ct hok (by omega) (↑(List.length m.lv)) (by omega)) (dc d0 dn) (kd (kc k0 kn)) ⟨tO9 hok.1,hok.2⟩ fun m17 hm17 om17 bm17 => ?_))))))))))
 have w17_0 : IntKind.i64.wrap (tVV (↑(List.length m.lv)) m) = tVV (↑(List.length m.lv)) m := (IntWalk.i64_in _ (by have h9 := @tV9 (↑(List.length m.lv)) (by omega) m; omega))
 have tr17 := @tV9 (↑(List.length m.lv)) (by omega) m
 have llm17 : List.length m17.lv = List.length m.lv := by rw [hm17] <;> rfl
 clear bd0
 refine ja Z (jn (jx (jq (jq (jr (jm Z (jkr E47 Z Z (m3take_ct om17 (by omega) 3 (by omega)) (dc d0 dn) (kd (kc k0 kn)) ⟨tO9 om17.1,om17.2⟩ fun m19 hm19 om19 bm19 => ?_)))))))
 have w19_0 : IntKind.i64.wrap (tVV 3 m17) = tVV 3 m17 := (IntWalk.i64_in _ (by have h9 := @tV9 3 (by omega) m17; omega))
 have tr19 := @tV9 3 (by omega) m17
 have llm19 : List.length m19.lv = List.length m17.lv := by rw [hm19] <;> rfl
 clear bm17
 refine js (jeql Z Z) (jn (jx ?_))
 refine jif Z (fun hc2 => ?_) (fun hc2 => ?_)
 refine jr (jm Z (js (jnil Z) (js (jf F108_4 Z) (js (jl k0 O22 Z Z) (js (jlg U22 k1 Z) (js (jsub Z Z (by omega)) (ja Z (jn (jx (jq (jr ?_)))))))))))
 refine jm Z (js (jnil Z) (js (jf F108_4 Z) (js (jl k0 O22 Z Z) (jm Z (js (jig (i := (Int.toNat ((↑(List.length m19.lv)) - 1))) U22 Z3 k1 Z Z (by omega) (by omega)) (js (jgI k1 (by omega) O3 Z) (ja Z (ja Z (jn (jx (jrt ?_)))))))))))
 have hv0 : valueV m = (ix m19.lv (Int.toNat ((((List.length m19.lv : Nat) : Int)) - 1))) := (by (try simp only [hm17,hm19] at hc1 hc2); (try simp only [hm17,hm19]); first | (simp [valueV,valueB,valueS,valueI,hz,hc2]; done) | (simp [valueV,valueB,valueS,valueI,hz,hc2]; rfl))
 have hv1 : valueB m = true := (by (try simp only [hm17,hm19] at hc1 hc2); (try simp only [hm17,hm19]); first | (simp [valueV,valueB,valueS,valueI,hz,hc2]; done) | (simp [valueV,valueB,valueS,valueI,hz,hc2]; rfl))
 have hst : m19 = valueS m := (by (try simp only [hm17,hm19] at hc1 hc2); (try simp only [hm17,hm19]); first | (simp [valueV,valueB,valueS,valueI,hz,hc2]; done) | (simp [valueV,valueB,valueS,valueI,hz,hc2]; rfl))
 exact jr2 Z Z Z (al,qs) (by rw [hv0,hv1] <;> rfl) (dc (wca hv0 (wgl k1 (by omega))) dn) (fun _ _ => (kcb (by rw [← hst]) k0 (kcg (by rw [← hst]) k0 (kck (by rw [← hst]) k0 kn))))
 refine jsk (jx (jq (jr (jm Z (js (jnil Z) (js (jf F108_4 Z) (js (jl k0 O22 Z Z) (jm Z (js (jig (i := (Int.toNat (tVV (↑(List.length m.lv)) m))) U22 Z3 k1 Z Z (by omega) (by omega)) (js (jgI k1 (by omega) O3 Z) (ja Z ?_)))))))))))
 refine ja Z (jn (jx (jrt ?_)))
 have hv0 : valueV m = (ix m19.lv (Int.toNat (tVV (((List.length m.lv : Nat) : Int)) m))) := (by (try simp only [hm17,hm19] at hc1 hc2); (try simp only [hm17,hm19]); first | (simp [valueV,valueB,valueS,valueI,hz,hc2]; done) | (simp [valueV,valueB,valueS,valueI,hz,hc2]; rfl))
 have hv1 : valueB m = true := (by (try simp only [hm17,hm19] at hc1 hc2); (try simp only [hm17,hm19]); first | (simp [valueV,valueB,valueS,valueI,hz,hc2]; done) | (simp [valueV,valueB,valueS,valueI,hz,hc2]; rfl))
 have hst : m19 = valueS m := (by (try simp only [hm17,hm19] at hc1 hc2); (try simp only [hm17,hm19]); first | (simp [valueV,valueB,valueS,valueI,hz,hc2]; done) | (simp [valueV,valueB,valueS,valueI,hz,hc2]; rfl))
 exact jr2 Z Z Z (al,qs) (by rw [hv0,hv1] <;> rfl) (dc (wca hv0 (wgl k1 (by omega))) dn) (fun _ _ => (kcb (by rw [← hst]) k0 (kcg (by rw [← hst]) k0 (kck (by rw [← hst]) k0 kn))))
abbrev U47 := @Tryz.underlying47
abbrev U58 := @Tryz.underlying58
theorem A67 : ∃ d,Tryz.prog.underlying 67 = some d ∧ (match d with | .struct _ | .array _ _ => true | _ => false) = true := ⟨_,Tryz.underlying67,rfl⟩
theorem E66 : Ent Tryz.prog 66 := ⟨_,Tryz.func66,by kernel_rfl,by kernel_rfl⟩
theorem F108_2 : Fld Tryz.prog 108 2 2 := ⟨_,_,Tryz.underlying108,rfl,rfl,2,(by unfold Sz; kernel_rfl),by decide⟩
theorem F49_1 : Fld Tryz.prog 49 1 1 := ⟨_,_,Tryz.underlying49,rfl,rfl,1,(by unfold Sz; kernel_rfl),by decide⟩
theorem F62_1 : Fld Tryz.prog 62 1 1 := ⟨_,_,Tryz.underlying62,rfl,rfl,1,(by unfold Sz; kernel_rfl),by decide⟩
theorem I67 : (Tryz.prog.info? 67).map (fun i => (i.zero,i.size,i.bytes)) = some (some (.agg #[.int .i64 0,.int .i64 0,.int .i64 0,.slice none 0 0,.int .i32 0]),5,56) := by kernel_rfl
theorem O47 : One Tryz.prog 47 := ⟨_,Tryz.underlying47,rfl⟩
theorem O58 : One Tryz.prog 58 := ⟨_,Tryz.underlying58,rfl⟩
theorem Z58 : Sz Tryz.prog 58 1 := by unfold Sz; kernel_rfl
theorem Z62 : Sz Tryz.prog 62 6 := by unfold Sz; kernel_rfl
theorem Z67 : Sz Tryz.prog 67 5 := by unfold Sz; kernel_rfl
set_option maxRecDepth 4000 in
theorem m3add_ct {vs vb al : Value} {m : Mk} {nb c : Nat} {S : List Int} {g0 : Nat} {B0 B1 : Nat} {qs : List BV} (hok : okS nb c S m) (hc : c ≤ 990000) (b : Int) {a2 : Value} {i : D.Ins} (hb9 : 0 ≤ b ∧ b < nb) : KB Tryz.prog 120 [.int .i64 b,vIns i a2] [da rIns (vIns i a2) i] g0 vs vb al S B0 B1 qs [] m (addS b i m) (.tuple #[]) := by
 refine jenter (args := [.pointer (some ⟨g0,0,none⟩),.int .i64 b,vIns i a2]) Tryz.func120 rfl rfl rfl fun w0 X => ?_
 refine cgo k1 fun w1 => ?_
 have bd0 := okM.bnd hok.1
 refine cbk k2 (okM.bnd hok.1).2.2.2.2.2.2.2.1 fun hvb => jq (jr (jbox Z Z fun g5 => jn (jx (jq (jany true (.a 0 (.a 1 (.a 2 (.a 3 (.a 4 (.a 5 (.a 6 (.a 7 (.a 8 (.a 9 (.a 10 (.a 11 (.a 12 (.a 13 (.a 15 (.w 14 16 (.o 16 (.o 17 (.a 18 (.a 19 (.o 20 .e))))) (.o 14 (.o 17 (.a 18 (.a 19 (.o 20 .e))))))))))))))))))))) Mixed (by kernel_rfl) (kd kn) fun F2 => jy Z (jmv Z) (jy Z (jnil Z) (jy Z (jf F108_2 Z) (jy Z (jf F49_1 Z) ?_))))))))
 refine jy Z (jl k1 O47 Z Z) (jy Z (jmv Z) (jy Z (jmv Z) (jy Z (jnil Z) (jy Z (jf F108_2 Z) (jy Z (jf F49_1 Z) (jy Z (jl k1 O47 Z Z) (jy Z (jmv Z) (jy Z (jbi' (j := (Int.toNat b)) U47 Z62 hvb Z Z (by omega) (by omega)) (jy Z (jf F62_1 Z) (jy Z (jla k0 A67 Z67 Z Z Z) ?_))))))))))
 refine jyw Z Z ?_ ?_
 refine js (jbh1 k3 (by omega) O58 Z Z) (jyn d0 (kd kn) (jyo Z (jlit (r := rIns) (l := [i]) U58 I67 (by decide) Z Z Z (lA d3 ln) fun g23 => jyn d0 (kc k1 (kc k1 kn)) (jyo Z (jfz k0 (by (try simp) <;> omega) ?_)))))
 have hrF7 := okM.row hok.1 (j := (Int.toNat b)) (by omega)
 refine jbf1 (Int.toNat b) k3 (by omega) (jgo k0 fun w8 => japl U58 I67 (by decide) Z k0 Z Z d0 (by (try simp) <;> omega) fun v24 w9 => jyn d1 (kc k2 (kc k2 kn)) (jy Z (jbi' (j := (Int.toNat b)) U47 Z62 hvb Z Z (by omega) (by omega)) (jy Z (jf F62_1 Z) (jyo Z (jbs1 k0 k0 (by omega) Z58 Z Z Z w9.one (jkn (c := c + 1) ({ m with bs := List.set m.bs (Int.toNat b) { (ix m.bs (Int.toNat b)) with Ins := ((ix m.bs (Int.toNat b)).Ins) ++ ([i]) } }) (kc k2 (kc k2 (kc k0 kn))) ⟨(okM.setb (d := 1) hok.1 (by dsimp only; rw [List.length_append]; simp only [List.length_cons,List.length_nil]; omega)),hok.2⟩ fun ms11 hms11 oms11 bms11 => ?_))))))
 clear bd0
 refine jyz d0 (jyd (jx (jq (jr (js (jla k3 A67 Z67 Z Z Z) (jcd E66 Z Z r3makes_ct (dc d6 dn) kn fun v28 q12 w12 => ja Z (jn (jx (jr (jm Z ?_))))))))))
 refine jm Z (js (jnil Z) (js (jf F108_4 Z) (js (jl k0 O22 Z Z) (jm Z (japl U22 I3 (by decide) Z k1 Z Z d0 (by (try simp) <;> omega) fun v35 w14 => js (jnil Z) (js (jf F108_4 Z) (jst k1 Z22 Z Z w14.one s5 (jkn (c := c + 2) ({ ms11 with lv := ms11.lv ++ (makes3 i) }) (kd (kc k0 kn)) ⟨(okM.setlv oms11.1 (by have := makes3_len i; simp only [List.length_append]; omega) (by omega)),oms11.2⟩ fun ms15 hms15 oms15 bms15 => ?_))))))))
 clear bms11
 refine jn ?_
 have hst : ms15 = addS b i m := (by (try simp only [hms11,hms15]); all_goals first | rfl | (simp [addS]; done) | (simp [addS]; rfl) | (unfold addS; (repeat' split) <;> first | rfl | (exfalso; omega) | (simp [] at *; done) | (simp_all; done)))
 exact jd0 Z (v35,List.set qs (Int.toNat b) { (ix qs (Int.toNat b)) with I := v24 }) Z dn (fun _ _ => (kcb (by rw [← hst]) k0 (kcg (by rw [← hst]) k0 (kck (by rw [← hst]) k0 kn))))
 refine jlit (r := rIns) (l := [i]) U58 I67 (by decide) Z Z Z (lA d2 ln) fun g23 => jyn d0 (kc k1 (kc k1 kn)) (jyo Z (js (jbh1 k4 (by omega) O58 Z Z) (jyn d0 (kc k1 (kc k1 kn)) (jyo Z (jfz k0 (by (try simp) <;> omega) ?_)))))
 have hrF7 := okM.row hok.1 (j := (Int.toNat b)) (by omega)
 refine jbf1 (Int.toNat b) k3 (by omega) (jgo k0 fun w8 => japl U58 I67 (by decide) Z k0 Z Z d0 (by (try simp) <;> omega) fun v24 w9 => jyn d1 (kc k2 (kc k2 kn)) (jy Z (jbi' (j := (Int.toNat b)) U47 Z62 hvb Z Z (by omega) (by omega)) (jy Z (jf F62_1 Z) (jyo Z (jbs1 k0 k0 (by omega) Z58 Z Z Z w9.one (jkn (c := c + 1) ({ m with bs := List.set m.bs (Int.toNat b) { (ix m.bs (Int.toNat b)) with Ins := ((ix m.bs (Int.toNat b)).Ins) ++ ([i]) } }) (kc k2 (kc k2 (kc k0 kn))) ⟨(okM.setb (d := 1) hok.1 (by dsimp only; rw [List.length_append]; simp only [List.length_cons,List.length_nil]; omega)),hok.2⟩ fun ms11 hms11 oms11 bms11 => ?_))))))
 clear bd0
 refine jyz d0 (jyd (jx (jq (jr (js (jla k3 A67 Z67 Z Z Z) (jcd E66 Z Z r3makes_ct (dc d6 dn) kn fun v28 q12 w12 => ja Z (jn (jx (jr (jm Z ?_))))))))))
 refine jm Z (js (jnil Z) (js (jf F108_4 Z) (js (jl k0 O22 Z Z) (jm Z (japl U22 I3 (by decide) Z k1 Z Z d0 (by (try simp) <;> omega) fun v35 w14 => js (jnil Z) (js (jf F108_4 Z) (jst k1 Z22 Z Z w14.one s5 (jkn (c := c + 2) ({ ms11 with lv := ms11.lv ++ (makes3 i) }) (kd (kc k0 kn)) ⟨(okM.setlv oms11.1 (by have := makes3_len i; simp only [List.length_append]; omega) (by omega)),oms11.2⟩ fun ms15 hms15 oms15 bms15 => ?_))))))))
 clear bms11
 refine jn ?_
 have hst : ms15 = addS b i m := (by (try simp only [hms11,hms15]); all_goals first | rfl | (simp [addS]; done) | (simp [addS]; rfl) | (unfold addS; (repeat' split) <;> first | rfl | (exfalso; omega) | (simp [] at *; done) | (simp_all; done)))
 exact jd0 Z (v35,List.set qs (Int.toNat b) { (ix qs (Int.toNat b)) with I := v24 }) Z dn (fun _ _ => (kcb (by rw [← hst]) k0 (kcg (by rw [← hst]) k0 (kck (by rw [← hst]) k0 kn))))
theorem E120 : Ent Tryz.prog 120 := ⟨_,Tryz.func120,by kernel_rfl,by kernel_rfl⟩
theorem E171 : Ent Tryz.prog 171 := ⟨_,Tryz.func171,by kernel_rfl,by kernel_rfl⟩
theorem E64 : Ent Tryz.prog 64 := ⟨_,Tryz.func64,by kernel_rfl,by kernel_rfl⟩
theorem E70 : Ent Tryz.prog 70 := ⟨_,Tryz.func70,by kernel_rfl,by kernel_rfl⟩
theorem E71 : Ent Tryz.prog 71 := ⟨_,Tryz.func71,by kernel_rfl,by kernel_rfl⟩
set_option maxRecDepth 4000 in
theorem m3const_ct {vs vb al : Value} {m : Mk} {nb c : Nat} {S : List Int} {g0 : Nat} {B0 B1 : Nat} {qs : List BV} (hok : okS nb c S m) (hc : c ≤ 980000) (b : Int) (n : Int) (hb9 : 0 ≤ b ∧ b < nb) (ww2 : IntKind.i32.wrap n = n) : KB Tryz.prog 70 [.int .i64 b,.int .i32 n] [] g0 vs vb al S B0 B1 qs [wf .i64 m.nx] m (constS b n m) (.int .i64 m.nx) := by
 refine jenter (args := [.pointer (some ⟨g0,0,none⟩),.int .i64 b,.int .i32 n]) Tryz.func70 rfl rfl rfl fun w0 X => ?_
 refine cgo k1 fun w1 => ?_
 have bd0 := okM.bnd hok.1
 refine cbk k2 (okM.bnd hok.1).2.2.2.2.2.2.2.1 fun hvb => ?_
 have hbn : b.toNat < nb := by omega
 refine jq (jr (ja Z (jn (jx (jq (jr (jm Z (jkr E64 Z Z (m3fresh_ct hok (by omega)) (dc d0 dn) (kd (kc k0 kn)) ⟨fresh_ok hok.1,hok.2⟩ fun m9 hm9 om9 bm9 => ?_))))))))
 have w9_0 : IntKind.i64.wrap (m.nx) = m.nx := (IntWalk.i64_in _ (by omega))
 clear bd0
 refine ja Z (jn (jx (jq (jr (jm Z (jm Z (jm Z (jm Z (js (jbu (v := .agg #[.int .i64 1,.int .i64 m.nx,.int .i64 0,.slice none 0 0,.int .i32 n]) Z (fun _ => by kernel_rfl)) (jkb E120 Z Z (m3add_ct (i := ⟨1,m.nx,0,[],n⟩) om9 (by omega) b hb9) (dc d0 (dc (rIns.M (m := ⟨1,m.nx,0,[],n⟩) (c := (.slice none 0 0)) wN (wl 1) (wp w9_0) (wl 0) (wp ww2)) dn)) (kd (kc k0 kn)) ⟨add_ok om9.1 hbn,(addS_s.trans om9.2)⟩ p0 fun m15 hm15 om15 bm15 ua15 qs15 w2 => ?_))))))))))
 clear bm9
 refine jn (jx (jq (jr (jm Z (ja Z (jn (jx (jrt ?_))))))))
 have hv0 : m.nx = m.nx := (by (try simp only [hm9,hm15]); all_goals first | rfl | (simp [constS]; done) | (simp [constS]; rfl) | (unfold constS; (repeat' split) <;> first | rfl | (exfalso; omega) | (simp [] at *; done) | (simp_all; done)))
 have hst : m15 = constS b n m := (by (try simp only [hm9,hm15]); all_goals first | rfl | (simp [constS]; done) | (simp [constS]; rfl) | (unfold constS; (repeat' split) <;> first | rfl | (exfalso; omega) | (simp [] at *; done) | (simp_all; done)))
 exact jr1 Z Z (ua15,qs15) (by rw [hv0] <;> rfl) (dc (wca hv0 (wp w9_0)) dn) (fun _ _ => (kcb (by rw [← hst]) k0 (kcg (by rw [← hst]) k0 (kck (by rw [← hst]) k0 kn))))
set_option maxRecDepth 4000 in
theorem m3some_ct {vs vb al : Value} {m : Mk} {nb c : Nat} {S : List Int} {g0 : Nat} {B0 B1 : Nat} {qs : List BV} (hok : okS nb c S m) (hc : c ≤ 970000) (b : Int) (hb9 : 0 ≤ b ∧ b < nb) : KB Tryz.prog 119 [.int .i64 b] [] g0 vs vb al S B0 B1 qs [wf .i64 (sV9 m)] m (sS9 b m) (.int .i64 (sV9 m)) := by
 refine jenter (args := [.pointer (some ⟨g0,0,none⟩),.int .i64 b]) Tryz.func119 rfl rfl rfl fun w0 X => ?_
 refine cgo k1 fun w1 => ?_
 have bd0 := okM.bnd hok.1
 refine cbk k2 (okM.bnd hok.1).2.2.2.2.2.2.2.1 fun hvb => ?_
 have hbn : b.toNat < nb := by omega
 refine jq (jr (ja Z (jn (jx (jq (jr (jm Z (jkb E171 Z Z (m3value_ct hok (by omega)) (dc d0 dn) (kd (kc k0 kn)) ⟨value_ok hok.1,(valueS_s.trans hok.2)⟩ p1 fun m9 hm9 om9 bm9 ua9 qs9 w2 => ?_))))))))
 clear bd0
 refine jm Z (js (jex' Z Z) (js (jex' Z Z) (ja Z (ja Z (jn (jx (jq (jq (jr (jm Z (js (jnot Z) ?_)))))))))))
 refine jm Z (jg Z Z (.f _) (fun hg => jmv Z) (jkg Z Z (.f _) E47 Z (fun hg => evl2 (evg Z hg) Z) (m3take_ct om9 (by omega) 9 (by first | exact hb9 | decide | omega)) (dc d1 dn) (kd (kc k0 kn)) (by split; exact ⟨tO9 om9.1,om9.2⟩; exact om9.mono (by omega)) fun m16 hm16 om16 bm16 => ?_))
 have w16_0 : IntKind.i64.wrap (tVV 9 m9) = tVV 9 m9 := (IntWalk.i64_in _ (by have h9 := @tV9 9 (by omega) m9; omega))
 have tr16 := @tV9 9 (by omega) m9
 clear bm9
 refine jg Z Z (.f _) (fun hg => jeql (evg Z hg) Z) (js (jor Z Z) (jn (jx ?_)))
 refine jif Z (fun hc1 => ?_) (fun hc1 => ?_)
 refine jq (jr (jm Z (jm Z (jm Z (jkr E71 Z Z (m3word_ct om16 (by omega)) (dc d1 dn) (kd (kc k0 kn)) ⟨word_ok om16.1,om16.2⟩ fun m22 hm22 om22 bm22 => ?_)))))
 have w22_0 : IntKind.i32.wrap (wordV m16) = wordV m16 := (word_w m16)
 clear bm16
 refine jkb E70 Z Z (m3const_ct om22 (by omega) b (wordV m16) (by first | exact hb9 | decide | omega) w22_0) (dc d1 dn) (kd (kc k0 kn)) ⟨const_ok om22.1 hbn,(constS_s.trans om22.2)⟩ p1 fun m23 hm23 om23 bm23 ua23 qs23 w4 => ?_
 clear bm22
 refine ja Z (jn (jx (jrt (jtr ?_))))
 have hv0 : sV9 m = m22.nx := (by (try simp only [hm9,hm16,hm22,hm23] at hc1); (try simp only [hm9,hm16,hm22,hm23]); all_goals first | rfl | (simp [sS9,sV9,someC,someM0,hc1]; done) | (simp [sS9,sV9,someC,someM0,hc1]; rfl) | (unfold sS9 sV9 someC someM0; (repeat' split) <;> first | rfl | (exfalso; omega) | (simp [hc1] at *; done) | (simp_all; done)))
 have hst : m23 = sS9 b m := (by (try simp only [hm9,hm16,hm22,hm23] at hc1); (try simp only [hm9,hm16,hm22,hm23]); all_goals first | rfl | (simp [sS9,sV9,someC,someM0,hc1]; done) | (simp [sS9,sV9,someC,someM0,hc1]; rfl) | (unfold sS9 sV9 someC someM0; (repeat' split) <;> first | rfl | (exfalso; omega) | (simp [hc1] at *; done) | (simp_all; done)))
 exact jr1 Z Z (ua23,qs23) (by rw [hv0] <;> rfl) (dc (wca hv0 ((wfw d0))) dn) (fun _ _ => (kcb (by rw [← hst]) k0 (kcg (by rw [← hst]) k0 (kck (by rw [← hst]) k0 kn))))
 refine jsk (jx (jq (jr (jm Z (ja Z (jn (jx (jrt ?_))))))))
 have hv0 : sV9 m = (valueV m) := (by (try simp only [hm9,hm16] at hc1); (try simp only [hm9,hm16]); all_goals first | rfl | (simp [sS9,sV9,someC,someM0,hc1]; done) | (simp [sS9,sV9,someC,someM0,hc1]; rfl) | (unfold sS9 sV9 someC someM0; (repeat' split) <;> first | rfl | (exfalso; omega) | (simp [hc1] at *; done) | (simp_all; done)))
 have hst : m16 = sS9 b m := (by (try simp only [hm9,hm16] at hc1); (try simp only [hm9,hm16]); all_goals first | rfl | (simp [sS9,sV9,someC,someM0,hc1]; done) | (simp [sS9,sV9,someC,someM0,hc1]; rfl) | (unfold sS9 sV9 someC someM0; (repeat' split) <;> first | rfl | (exfalso; omega) | (simp [hc1] at *; done) | (simp_all; done)))
 exact jr1 Z Z (ua9,qs9) (by rw [hv0] <;> rfl) (dc (wca hv0 ((wfw d0))) dn) (fun _ _ => (kcb (by rw [← hst]) k0 (kcg (by rw [← hst]) k0 (kck (by rw [← hst]) k0 kn))))
def mem1 (b : Int) (m : Mk) : Int × Mk :=
 let m1 := constS b (IntKind.i32.wrap (tVV 9 m)) (tSS m)
 let m2 := tSS m1
 if tVV 3 m1 = 0 then
   let m3 := sS9 b m2
   let m4 := constS b 7 m3
   let m6 := addS b ⟨5,m4.nx,0,[sV9 m2,m3.nx],0⟩ (freshS m4)
   (m6.nx,addS b ⟨2,m6.nx,0,[(tSS m).nx,m4.nx],0⟩ (freshS m6))
 else ((tSS m).nx,m2)
def mem2 (m : Mk) : Int × Mk :=
 let m2 := tSS (tSS m)
 if tVV 12 (tSS m) = 0 then (wordV m2,wordS m2) else (IntKind.i32.wrap (tVV 4 m),m2)
def memS (b : Int) (st : Bool) (m : Mk) : Mk :=
 let a := mem1 b m
 let i := mem2 a.2
 if st then addS b ⟨16,0,0,[a.1,sV9 i.2],i.1⟩ (sS9 b i.2) else addS b ⟨15,i.2.nx,0,[a.1],i.1⟩ (freshS i.2)
def argsL (b : Int) : Nat → List Int → Mk → List Int × Mk
 | 0,l,m => (l,m)
 | n + 1,l,m => argsL b n (l ++ [sV9 m]) (sS9 b m)
def insS (b : Int) (m : Mk) : Mk :=
 let k := tVV 20 m
 let m1 := tSS m
 let m2 := sS9 b m1
 let m3 := sS9 b m2
 if k < 12 then
   if tVV 3 m3 = 0 then
     let m4 := constS b (IntKind.i32.wrap (tVV 40 (tSS m3) - 8)) (tSS (tSS m3))
     addS b ⟨ix [2,2,3,4,5,6,7,8,9,10,12,11] k.toNat,m4.nx,0,[sV9 m1,(tSS (tSS m3)).nx],0⟩ (freshS m4)
   else addS b ⟨ix [2,2,3,4,5,6,7,8,9,10,12,11] k.toNat,(tSS m3).nx,0,[sV9 m1,sV9 m2],0⟩ (freshS (tSS m3))
 else if k = 12 then addS b ⟨13,m3.nx,0,[sV9 m1,sV9 m2],0⟩ (freshS m3)
 else if k = 13 then
   let m4 := constS b (IntKind.i32.wrap (tVV 12 m2)) (tSS m2)
   if 0 < tVV 3 m4 then
     let m5 := constS b (IntKind.i32.wrap (1 + IntKind.i32.wrap (tVV 12 (tSS m4)))) (tSS (tSS m4))
     addS b ⟨14,m5.nx,0,[sV9 m1,(tSS (tSS m4)).nx],0⟩ (freshS m5)
   else addS b ⟨14,(tSS m4).nx,0,[sV9 m1,(tSS m2).nx],0⟩ (freshS (tSS m4))
 else if k < 16 then memS b (decide (k = 15)) m1
 else if k = 16 then
   let r := argsL b (tVV 5 m1).toNat [] (tSS m1)
   addS b ⟨17,r.2.nx,0,r.1,IntKind.i32.wrap (tVV 5 (freshS r.2))⟩ (tSS (freshS r.2))
 else if k = 17 then addS b ⟨18,m3.nx,(freshS m3).nx,[sV9 m1,sV9 m2],0⟩ (freshS (freshS m3))
 else constS b (wordV m1) (wordS m1)
def setT (b : Int) (t : D.Term) (m : Mk) : Mk := { m with bs := m.bs.set b.toNat { (ix m.bs b.toNat) with Term := t } }
def endS (b : Int) (l : List Int) (m : Mk) : Mk :=
 if l.length = 0 then
   if tVV 8 m = 0 then setT b ⟨5,[],[],IntKind.i32.wrap (tVV 200 (tSS m))⟩ (tSS (tSS m))
   else if tVV 8 m > 1 then setT b ⟨4,[sV9 (tSS m)],[],0⟩ (sS9 b (tSS m))
   else setT b ⟨4,[],[],0⟩ (tSS m)
 else if l.length = 1 then setT b ⟨1,[],l,0⟩ m
 else if l.length = 2 then
   let m1 := sS9 b m
   let m2 := tSS m1
   if tVV 2 m1 = 0 then
     let m3 := sS9 b m2
     let m4 := freshS m3
     setT b ⟨2,[m3.nx],l,0⟩ (addS b ⟨ix [11,12,13] (tVV 3 m4).toNat,m3.nx,0,[sV9 m,sV9 m2],0⟩ (tSS m4))
   else setT b ⟨2,[sV9 m],l,0⟩ m2
 else
   let m1 := sS9 b m
   let m2 := constS b 7 m1
   setT b ⟨3,[m2.nx],l,0⟩ (addS b ⟨5,m2.nx,0,[sV9 m,m1.nx],0⟩ (freshS m2))
section
variable {nb c : Nat} {m : Mk} {b : Int}
theorem mem1_ok (h : okM nb c m) (hb : b.toNat < nb) : okM nb (c + 22) (mem1 b m).2 := by
 unfold mem1; dsimp only; split
 · exact (add_ok (fresh_ok (add_ok (fresh_ok (const_ok (some_ok (tO9 (const_ok (tO9 h) hb)) hb) hb)) hb)) hb).mono (by omega)
 · exact (tO9 (const_ok (tO9 h) hb)).mono (by omega)
theorem mem2_ok (h : okM nb c m) : okM nb (c + 4) (mem2 m).2 := by
 unfold mem2; dsimp only; split
 · exact (word_ok (tO9 (tO9 h))).mono (by omega)
 · exact (tO9 (tO9 h)).mono (by omega)
theorem mem_ok {st : Bool} (h : okM nb c m) (hb : b.toNat < nb) : okM nb (c + 40) (memS b st m) := by
 unfold memS; dsimp only; split
 · exact (add_ok (some_ok (mem2_ok (mem1_ok h hb)) hb) hb).mono (by omega)
 · exact (add_ok (fresh_ok (mem2_ok (mem1_ok h hb))) hb).mono (by omega)
theorem args_ok (hb : b.toNat < nb) : ∀ (n : Nat) (l : List Int) {c : Nat} {m : Mk},okM nb c m → okM nb (c + 8 * n) (argsL b n l m).2
 | 0,_,_,_,h => h
 | n + 1,l,_,m,h => by have := args_ok hb n (l ++ [sV9 m]) (some_ok (b := b) h hb); exact this.mono (by omega)
theorem args_len : ∀ (n : Nat) (l : List Int) (m : Mk),(argsL b n l m).1.length = l.length + n
 | 0,_,_ => rfl
 | n + 1,l,m => by rw [argsL,args_len n]; simp; omega
theorem ins3_ok (h : okM nb c m) (hb : b.toNat < nb) : okM nb (c + 60) (insS b m) := by
 unfold insS; dsimp only
 repeat' split
 · exact (add_ok (fresh_ok (const_ok (tO9 (tO9 (some_ok (some_ok (tO9 h) hb) hb))) hb)) hb).mono (by omega)
 · exact (add_ok (fresh_ok (tO9 (some_ok (some_ok (tO9 h) hb) hb))) hb).mono (by omega)
 · exact (add_ok (fresh_ok (some_ok (some_ok (tO9 h) hb) hb)) hb).mono (by omega)
 · exact (add_ok (fresh_ok (const_ok (tO9 (tO9 (const_ok (tO9 (some_ok (tO9 h) hb)) hb))) hb)) hb).mono (by omega)
 · exact (add_ok (fresh_ok (tO9 (const_ok (tO9 (some_ok (tO9 h) hb)) hb))) hb).mono (by omega)
 · exact (mem_ok (tO9 h) hb).mono (by omega)
 · have h9 := tV9 (n := 5) (by omega) (tSS m)
   exact (add_ok (tO9 (fresh_ok (args_ok hb _ [] (tO9 (tO9 h))))) hb).mono (by omega)
 · exact (add_ok (fresh_ok (fresh_ok (some_ok (some_ok (tO9 h) hb) hb))) hb).mono (by omega)
 · exact (const_ok (word_ok (tO9 h)) hb).mono (by omega)
theorem setT_ok {t : D.Term} (h : okM nb c m) (hb : b.toNat < nb) : okM nb c (setT b t m) := h.setb (d := 0) (Nat.le_refl _)
theorem end_ok {l : List Int} (h : okM nb c m) (hb : b.toNat < nb) : okM nb (c + 40) (endS b l m) := by
 unfold endS; dsimp only
 repeat' split
 · exact (setT_ok (tO9 (tO9 h)) hb).mono (by omega)
 · exact (setT_ok (some_ok (tO9 h) hb) hb).mono (by omega)
 · exact (setT_ok (tO9 h) hb).mono (by omega)
 · exact (setT_ok h hb).mono (by omega)
 · exact (setT_ok (add_ok (tO9 (fresh_ok (some_ok (tO9 (some_ok h hb)) hb))) hb) hb).mono (by omega)
 · exact (setT_ok (tO9 (some_ok h hb)) hb).mono (by omega)
 · exact (setT_ok (add_ok (fresh_ok (const_ok (some_ok h hb) hb)) hb) hb).mono (by omega)
theorem mem1_s : (mem1 b m).2.s = m.s := by unfold mem1; dsimp only; split <;> simp only [addS_s,someS_s,constS_s,freshS,tSS]
theorem mem2_s : (mem2 m).2.s = m.s := by unfold mem2; dsimp only; split <;> rfl
theorem memS_s {st : Bool} : (memS b st m).s = m.s := by unfold memS; dsimp only; split <;> simp only [addS_s,someS_s,freshS,mem2_s,mem1_s]
theorem argsL_s : ∀ (n : Nat) (l : List Int) (m : Mk),(argsL b n l m).2.s = m.s
 | 0,_,_ => rfl
 | n + 1,l,m => by rw [argsL,argsL_s n,someS_s]
theorem insS_s : (insS b m).s = m.s := by unfold insS; dsimp only; (repeat' split) <;> simp only [addS_s,someS_s,constS_s,freshS,tSS,memS_s,argsL_s,wordS]
theorem endS_s {l : List Int} : (endS b l m).s = m.s := by unfold endS; dsimp only; (repeat' split) <;> simp only [setT,addS_s,someS_s,constS_s,freshS,tSS]
end
theorem E119 : Ent Tryz.prog 119 := ⟨_,Tryz.func119,by kernel_rfl,by kernel_rfl⟩
set_option maxRecDepth 4000 in
theorem m3mem_ct {vs vb al : Value} {m : Mk} {nb c : Nat} {S : List Int} {g0 : Nat} {B0 B1 : Nat} {qs : List BV} (hok : okS nb c S m) (hc : c ≤ 950000) (b : Int) (st : Bool) (hb9 : 0 ≤ b ∧ b < nb) : KB Tryz.prog 121 [.int .i64 b,.bool st] [] g0 vs vb al S B0 B1 qs [] m (memS b st m) (.tuple #[]) := by
 refine jenter (args := [.pointer (some ⟨g0,0,none⟩),.int .i64 b,.bool st]) Tryz.func121 rfl rfl rfl fun w0 X => ?_
 refine cgo k1 fun w1 => ?_
 have bd0 := okM.bnd hok.1
 refine cbk k2 (okM.bnd hok.1).2.2.2.2.2.2.2.1 fun hvb => ?_
 have hbn : b.toNat < nb := by omega
 refine jq (jr (jm Z (jm Z (jm Z (jkr E47 Z Z (m3take_ct hok (by omega) 9 (by first | exact hb9 | decide | omega)) (dc d0 dn) (kd (kc k0 kn)) ⟨tO9 hok.1,hok.2⟩ fun m15 hm15 om15 bm15 => ?_)))))
 have w15_0 : IntKind.i64.wrap (tVV 9 m) = tVV 9 m := (IntWalk.i64_in _ (by have h9 := @tV9 9 (by omega) m; omega))
 have tr15 := @tV9 9 (by omega) m
 clear bd0
 refine js (jco U3 U21 Z Z) (jkb E70 Z Z (m3const_ct om15 (by omega) b (IntKind.i32.wrap (tVV 9 m)) (by first | exact hb9 | decide | omega) (JE.wrap_wrap _ _)) (dc d0 dn) (kd (kc k0 kn)) ⟨const_ok om15.1 hbn,(constS_s.trans om15.2)⟩ p1 fun m17 hm17 om17 bm17 ua17 qs17 w2 => ?_)
 clear bm15
 refine ja Z (jn (jx (jq (jq (jr (jm Z (jkr E47 Z Z (m3take_ct om17 (by omega) 3 (by first | exact hb9 | decide | omega)) (dc d1 dn) (kd (kc k0 kn)) ⟨tO9 om17.1,om17.2⟩ fun m19 hm19 om19 bm19 => ?_)))))))
 have w19_0 : IntKind.i64.wrap (tVV 3 m17) = tVV 3 m17 := (IntWalk.i64_in _ (by have h9 := @tV9 3 (by omega) m17; omega))
 have tr19 := @tV9 3 (by omega) m17
 clear bm17
 refine js (jeql Z Z) (jn (jx ?_))
 refine jif Z (fun hc1 => ?_) (fun hc1 => ?_)
 refine jq (jr (jm Z (jm Z (jkb E119 Z Z (m3some_ct om19 (by omega) b (by first | exact hb9 | decide | omega)) (dc d1 dn) (kd (kc k0 kn)) ⟨some_ok om19.1 hbn,(someS_s.trans om19.2)⟩ p1 fun m23 hm23 om23 bm23 ua23 qs23 w4 => ?_))))
 clear bm19
 refine ja Z (jn (jx (jq (jr (jm Z (jm Z (jkb E70 Z Z (m3const_ct om23 (by omega) b 7 (by first | exact hb9 | decide | omega) (by decide)) (dc d2 dn) (kd (kc k0 kn)) ⟨const_ok om23.1 hbn,(constS_s.trans om23.2)⟩ p1 fun m26 hm26 om26 bm26 ua26 qs26 w6 => ?_)))))))
 clear bm23
 refine ja Z (jn (jx (jq (jr (jm Z (jkr E64 Z Z (m3fresh_ct om26 (by omega)) (dc d3 dn) (kd (kc k0 kn)) ⟨fresh_ok om26.1,om26.2⟩ fun m28 hm28 om28 bm28 => ?_))))))
 have w28_0 : IntKind.i64.wrap (m26.nx) = m26.nx := (IntWalk.i64_in _ (by omega))
 clear bm26
 refine ja Z (jn (jx (jq (jr (jm Z (jm Z (jm Z (jm Z (jm Z (jlit (r := (rI .i64)) (l := [sV9 m19,m23.nx]) U22 I3 (by decide) Z Z Z (lV Z Z (wI ((wfw d1))) (lV Z Z (wI ((wfw d0))) ln)) fun g34 => js (jbu (v := .agg #[.int .i64 5,.int .i64 m26.nx,.int .i64 0,(.slice (some ⟨g34,0,none⟩) 2 2),.int .i32 0]) Z (fun _ => by kernel_rfl)) ?_))))))))))
 refine jfz k0 (by (try simp) <;> omega) (jkb E120 Z Z (m3add_ct (i := ⟨5,m26.nx,0,[sV9 m19,m23.nx],0⟩) om28 (by omega) b (by first | exact hb9 | decide | omega)) (dc d4 (dc (rIns.M (m := ⟨5,m26.nx,0,[sV9 m19,m23.nx],0⟩) (c := (.slice (some ⟨g34,0,none⟩) 2 2)) d0 (wl 5) (wp w28_0) (wl 0) (wl 0)) dn)) (kd (kc k0 kn)) ⟨add_ok om28.1 hbn,(addS_s.trans om28.2)⟩ p0 fun m36 hm36 om36 bm36 ua36 qs36 w9 => ?_)
 clear bm28
 refine jn (jx (jq (jr (jm Z (jkr E64 Z Z (m3fresh_ct om36 (by omega)) (dc d4 dn) (kd (kc k0 kn)) ⟨fresh_ok om36.1,om36.2⟩ fun m38 hm38 om38 bm38 => ?_)))))
 have w38_0 : IntKind.i64.wrap (m36.nx) = m36.nx := (IntWalk.i64_in _ (by omega))
 clear bm36
 refine ja Z (jn (jx (jq (jr (jm Z (jm Z (jm Z (jm Z (jm Z (jlit (r := (rI .i64)) (l := [m15.nx,m26.nx]) U22 I3 (by decide) Z Z Z (lV Z Z (wI ((wfw d3))) (lV Z Z (wI (wp w28_0)) ln)) fun g44 => js (jbu (v := .agg #[.int .i64 2,.int .i64 m36.nx,.int .i64 0,(.slice (some ⟨g44,0,none⟩) 2 2),.int .i32 0]) Z (fun _ => by kernel_rfl)) ?_))))))))))
 refine jfz k0 (by (try simp) <;> omega) (jkb E120 Z Z (m3add_ct (i := ⟨2,m36.nx,0,[m15.nx,m26.nx],0⟩) om38 (by omega) b (by first | exact hb9 | decide | omega)) (dc d5 (dc (rIns.M (m := ⟨2,m36.nx,0,[m15.nx,m26.nx],0⟩) (c := (.slice (some ⟨g44,0,none⟩) 2 2)) d0 (wl 2) (wp w38_0) (wl 0) (wl 0)) dn)) (kd (kc k0 kn)) ⟨add_ok om38.1 hbn,(addS_s.trans om38.2)⟩ p0 fun m46 hm46 om46 bm46 ua46 qs46 w11 => ?_)
 clear bm38
 refine jn (jx (jr (jm Z (ja Z (jn (jx (jq (jr (jm Z (jkr E47 Z Z (m3take_ct om46 (by omega) 4 (by first | exact hb9 | decide | omega)) (dc d5 dn) (kd (kc k0 kn)) ⟨tO9 om46.1,om46.2⟩ fun m49 hm49 om49 bm49 => ?_))))))))))
 have w49_0 : IntKind.i64.wrap (tVV 4 m46) = tVV 4 m46 := (IntWalk.i64_in _ (by have h9 := @tV9 4 (by omega) m46; omega))
 have tr49 := @tV9 4 (by omega) m46
 clear bm46
 refine js (jco U3 U21 Z Z) (ja Z (jn (jx (jq (jq (jr (jm Z (jkr E47 Z Z (m3take_ct om49 (by omega) 12 (by first | exact hb9 | decide | omega)) (dc d5 dn) (kd (kc k0 kn)) ⟨tO9 om49.1,om49.2⟩ fun m52 hm52 om52 bm52 => ?_))))))))
 have w52_0 : IntKind.i64.wrap (tVV 12 m49) = tVV 12 m49 := (IntWalk.i64_in _ (by have h9 := @tV9 12 (by omega) m49; omega))
 have tr52 := @tV9 12 (by omega) m49
 clear bm49
 refine js (jeql Z Z) (jn (jx ?_))
 refine jif Z (fun hc2 => ?_) (fun hc2 => ?_)
 refine jr (jm Z (jkr E71 Z Z (m3word_ct om52 (by omega)) (dc d5 dn) (kd (kc k0 kn)) ⟨word_ok om52.1,om52.2⟩ fun m55 hm55 om55 bm55 => ?_))
 have w55_0 : IntKind.i32.wrap (wordV m52) = wordV m52 := (word_w m52)
 clear bm52
 refine ja Z (jn (jx (jq (jr (jm Z (jn (jx ?_)))))))
 refine jif Z (fun hc3 => ?_) (fun hc3 => ?_)
 refine jr (jm Z (jm Z (jm Z (jm Z (jm Z (jkb E119 Z Z (m3some_ct om55 (by omega) b (by first | exact hb9 | decide | omega)) (dc d5 dn) (kd (kc k0 kn)) ⟨some_ok om55.1 hbn,(someS_s.trans om55.2)⟩ p1 fun m62 hm62 om62 bm62 ua62 qs62 w12 => ?_))))))
 clear bm55
 refine jlit (r := (rI .i64)) (l := [m36.nx,sV9 m55]) U22 I3 (by decide) Z Z Z (lV Z Z (wI (wp w38_0)) (lV Z Z (wI ((wfw d0))) ln)) fun g63 => jm Z (js (jbu (v := .agg #[.int .i64 16,.int .i64 0,.int .i64 0,(.slice (some ⟨g63,0,none⟩) 2 2),.int .i32 (wordV m52)]) Z (fun _ => by kernel_rfl)) (jfz k0 (by (try simp) <;> omega) (jkb E120 Z Z (m3add_ct (i := ⟨16,0,0,[m36.nx,sV9 m55],wordV m52⟩) om62 (by omega) b (by first | exact hb9 | decide | omega)) (dc d7 (dc (rIns.M (m := ⟨16,0,0,[m36.nx,sV9 m55],wordV m52⟩) (c := (.slice (some ⟨g63,0,none⟩) 2 2)) d0 (wl 16) (wl 0) (wl 0) (wp w55_0)) dn)) (kd (kc k0 kn)) ⟨add_ok om62.1 hbn,(addS_s.trans om62.2)⟩ p0 fun m66 hm66 om66 bm66 ua66 qs66 w15 => ?_)))
 clear bm62
 refine jn ?_
 have hst : m66 = memS b st m := (by (try simp only [hm15,hm17,hm19,hm23,hm26,hm28,hm36,hm38,hm46,hm49,hm52,hm55,hm62,hm66] at hc1 hc2 hc3); (try simp only [hm15,hm17,hm19,hm23,hm26,hm28,hm36,hm38,hm46,hm49,hm52,hm55,hm62,hm66]); all_goals first | rfl | (simp [memS,mem1,mem2,hc1,hc2,hc3]; done) | (simp [memS,mem1,mem2,hc1,hc2,hc3]; rfl) | (unfold memS mem1 mem2; (repeat' split) <;> first | rfl | (exfalso; omega) | (simp [hc1,hc2,hc3] at *; done) | (simp_all; done)))
 exact jd0 Z (ua66,qs66) Z dn (fun _ _ => (kcb (by rw [← hst]) k0 (kcg (by rw [← hst]) k0 (kck (by rw [← hst]) k0 kn))))
 refine jr (jm Z (jm Z (jm Z (jkr E64 Z Z (m3fresh_ct om55 (by omega)) (dc d5 dn) (kd (kc k0 kn)) ⟨fresh_ok om55.1,om55.2⟩ fun m70 hm70 om70 bm70 => ?_))))
 have w70_0 : IntKind.i64.wrap (m55.nx) = m55.nx := (IntWalk.i64_in _ (by omega))
 clear bm55
 refine jm Z (jlit (r := (rI .i64)) (l := [m36.nx]) U22 I3 (by decide) Z Z Z (lV Z Z (wI (wp w38_0)) ln) fun g72 => jm Z (js (jbu (v := .agg #[.int .i64 15,.int .i64 m55.nx,.int .i64 0,(.slice (some ⟨g72,0,none⟩) 1 1),.int .i32 (wordV m52)]) Z (fun _ => by kernel_rfl)) (jfz k0 (by (try simp) <;> omega) (jkb E120 Z Z (m3add_ct (i := ⟨15,m55.nx,0,[m36.nx],wordV m52⟩) om70 (by omega) b (by first | exact hb9 | decide | omega)) (dc d6 (dc (rIns.M (m := ⟨15,m55.nx,0,[m36.nx],wordV m52⟩) (c := (.slice (some ⟨g72,0,none⟩) 1 1)) d0 (wl 15) (wp w70_0) (wl 0) (wp w55_0)) dn)) (kd (kc k0 kn)) ⟨add_ok om70.1 hbn,(addS_s.trans om70.2)⟩ p0 fun m75 hm75 om75 bm75 ua75 qs75 w17 => ?_))))
 clear bm70
 refine jn ?_
 have hst : m75 = memS b st m := (by (try simp only [hm15,hm17,hm19,hm23,hm26,hm28,hm36,hm38,hm46,hm49,hm52,hm55,hm70,hm75] at hc1 hc2 hc3); (try simp only [hm15,hm17,hm19,hm23,hm26,hm28,hm36,hm38,hm46,hm49,hm52,hm55,hm70,hm75]); all_goals first | rfl | (simp [memS,mem1,mem2,hc1,hc2,hc3]; done) | (simp [memS,mem1,mem2,hc1,hc2,hc3]; rfl) | (unfold memS mem1 mem2; (repeat' split) <;> first | rfl | (exfalso; omega) | (simp [hc1,hc2,hc3] at *; done) | (simp_all; done)))
 exact jd0 Z (ua75,qs75) Z dn (fun _ _ => (kcb (by rw [← hst]) k0 (kcg (by rw [← hst]) k0 (kck (by rw [← hst]) k0 kn))))
 refine jsk (jx (jq (jr (jm Z (jn (jx ?_))))))
 refine jif Z (fun hc4 => ?_) (fun hc4 => ?_)
 refine jr (jm Z (jm Z (jm Z (jm Z (jm Z (jkb E119 Z Z (m3some_ct om52 (by omega) b (by first | exact hb9 | decide | omega)) (dc d5 dn) (kd (kc k0 kn)) ⟨some_ok om52.1 hbn,(someS_s.trans om52.2)⟩ p1 fun m62 hm62 om62 bm62 ua62 qs62 w18 => ?_))))))
 clear bm52
 refine jlit (r := (rI .i64)) (l := [m36.nx,sV9 m52]) U22 I3 (by decide) Z Z Z (lV Z Z (wI (wp w38_0)) (lV Z Z (wI ((wfw d0))) ln)) fun g63_20 => jm Z (js (jbu (v := .agg #[.int .i64 16,.int .i64 0,.int .i64 0,(.slice (some ⟨g63_20,0,none⟩) 2 2),.int .i32 (IntKind.i32.wrap (tVV 4 m46))]) Z (fun _ => by kernel_rfl)) (jfz k0 (by (try simp) <;> omega) (jkb E120 Z Z (m3add_ct (i := ⟨16,0,0,[m36.nx,sV9 m52],IntKind.i32.wrap (tVV 4 m46)⟩) om62 (by omega) b (by first | exact hb9 | decide | omega)) (dc d7 (dc (rIns.M (m := ⟨16,0,0,[m36.nx,sV9 m52],IntKind.i32.wrap (tVV 4 m46)⟩) (c := (.slice (some ⟨g63_20,0,none⟩) 2 2)) d0 (wl 16) (wl 0) (wl 0) (wp (JE.wrap_wrap _ _))) dn)) (kd (kc k0 kn)) ⟨add_ok om62.1 hbn,(addS_s.trans om62.2)⟩ p0 fun m66 hm66 om66 bm66 ua66 qs66 w22 => ?_)))
 clear bm62
 refine jn ?_
 have hst : m66 = memS b st m := (by (try simp only [hm15,hm17,hm19,hm23,hm26,hm28,hm36,hm38,hm46,hm49,hm52,hm62,hm66] at hc1 hc2 hc4); (try simp only [hm15,hm17,hm19,hm23,hm26,hm28,hm36,hm38,hm46,hm49,hm52,hm62,hm66]); all_goals first | rfl | (simp [memS,mem1,mem2,hc1,hc2,hc4]; done) | (simp [memS,mem1,mem2,hc1,hc2,hc4]; rfl) | (unfold memS mem1 mem2; (repeat' split) <;> first | rfl | (exfalso; omega) | (simp [hc1,hc2,hc4] at *; done) | (simp_all; done)))
 exact jd0 Z (ua66,qs66) Z dn (fun _ _ => (kcb (by rw [← hst]) k0 (kcg (by rw [← hst]) k0 (kck (by rw [← hst]) k0 kn))))
 refine jr (jm Z (jm Z (jm Z (jkr E64 Z Z (m3fresh_ct om52 (by omega)) (dc d5 dn) (kd (kc k0 kn)) ⟨fresh_ok om52.1,om52.2⟩ fun m70 hm70 om70 bm70 => ?_))))
 have w70_0 : IntKind.i64.wrap (m52.nx) = m52.nx := (IntWalk.i64_in _ (by omega))
 clear bm52
 refine jm Z (jlit (r := (rI .i64)) (l := [m36.nx]) U22 I3 (by decide) Z Z Z (lV Z Z (wI (wp w38_0)) ln) fun g72_23 => jm Z (js (jbu (v := .agg #[.int .i64 15,.int .i64 m52.nx,.int .i64 0,(.slice (some ⟨g72_23,0,none⟩) 1 1),.int .i32 (IntKind.i32.wrap (tVV 4 m46))]) Z (fun _ => by kernel_rfl)) (jfz k0 (by (try simp) <;> omega) (jkb E120 Z Z (m3add_ct (i := ⟨15,m52.nx,0,[m36.nx],IntKind.i32.wrap (tVV 4 m46)⟩) om70 (by omega) b (by first | exact hb9 | decide | omega)) (dc d6 (dc (rIns.M (m := ⟨15,m52.nx,0,[m36.nx],IntKind.i32.wrap (tVV 4 m46)⟩) (c := (.slice (some ⟨g72_23,0,none⟩) 1 1)) d0 (wl 15) (wp w70_0) (wl 0) (wp (JE.wrap_wrap _ _))) dn)) (kd (kc k0 kn)) ⟨add_ok om70.1 hbn,(addS_s.trans om70.2)⟩ p0 fun m75 hm75 om75 bm75 ua75 qs75 w25 => ?_))))
 clear bm70
 refine jn ?_
 have hst : m75 = memS b st m := (by (try simp only [hm15,hm17,hm19,hm23,hm26,hm28,hm36,hm38,hm46,hm49,hm52,hm70,hm75] at hc1 hc2 hc4); (try simp only [hm15,hm17,hm19,hm23,hm26,hm28,hm36,hm38,hm46,hm49,hm52,hm70,hm75]); all_goals first | rfl | (simp [memS,mem1,mem2,hc1,hc2,hc4]; done) | (simp [memS,mem1,mem2,hc1,hc2,hc4]; rfl) | (unfold memS mem1 mem2; (repeat' split) <;> first | rfl | (exfalso; omega) | (simp [hc1,hc2,hc4] at *; done) | (simp_all; done)))
 exact jd0 Z (ua75,qs75) Z dn (fun _ _ => (kcb (by rw [← hst]) k0 (kcg (by rw [← hst]) k0 (kck (by rw [← hst]) k0 kn))))
 refine jsk (jx (jq (jr (jm Z (jkr E47 Z Z (m3take_ct om19 (by omega) 4 (by first | exact hb9 | decide | omega)) (dc d1 dn) (kd (kc k0 kn)) ⟨tO9 om19.1,om19.2⟩ fun m49 hm49 om49 bm49 => ?_)))))
 have w49_0 : IntKind.i64.wrap (tVV 4 m19) = tVV 4 m19 := (IntWalk.i64_in _ (by have h9 := @tV9 4 (by omega) m19; omega))
 have tr49 := @tV9 4 (by omega) m19
 clear bm19
 refine js (jco U3 U21 Z Z) (ja Z (jn (jx (jq (jq (jr (jm Z (jkr E47 Z Z (m3take_ct om49 (by omega) 12 (by first | exact hb9 | decide | omega)) (dc d1 dn) (kd (kc k0 kn)) ⟨tO9 om49.1,om49.2⟩ fun m52 hm52 om52 bm52 => ?_))))))))
 have w52_0 : IntKind.i64.wrap (tVV 12 m49) = tVV 12 m49 := (IntWalk.i64_in _ (by have h9 := @tV9 12 (by omega) m49; omega))
 have tr52 := @tV9 12 (by omega) m49
 clear bm49
 refine js (jeql Z Z) (jn (jx ?_))
 refine jif Z (fun hc5 => ?_) (fun hc5 => ?_)
 refine jr (jm Z (jkr E71 Z Z (m3word_ct om52 (by omega)) (dc d1 dn) (kd (kc k0 kn)) ⟨word_ok om52.1,om52.2⟩ fun m55 hm55 om55 bm55 => ?_))
 have w55_0 : IntKind.i32.wrap (wordV m52) = wordV m52 := (word_w m52)
 clear bm52
 refine ja Z (jn (jx (jq (jr (jm Z (jn (jx ?_)))))))
 refine jif Z (fun hc6 => ?_) (fun hc6 => ?_)
 refine jr (jm Z (jm Z (jm Z (jm Z (jm Z (jkb E119 Z Z (m3some_ct om55 (by omega) b (by first | exact hb9 | decide | omega)) (dc d1 dn) (kd (kc k0 kn)) ⟨some_ok om55.1 hbn,(someS_s.trans om55.2)⟩ p1 fun m62 hm62 om62 bm62 ua62 qs62 w26 => ?_))))))
 clear bm55
 refine jlit (r := (rI .i64)) (l := [m15.nx,sV9 m55]) U22 I3 (by decide) Z Z Z (lV Z Z (wI ((wfw d1))) (lV Z Z (wI ((wfw d0))) ln)) fun g63_28 => jm Z (js (jbu (v := .agg #[.int .i64 16,.int .i64 0,.int .i64 0,(.slice (some ⟨g63_28,0,none⟩) 2 2),.int .i32 (wordV m52)]) Z (fun _ => by kernel_rfl)) (jfz k0 (by (try simp) <;> omega) (jkb E120 Z Z (m3add_ct (i := ⟨16,0,0,[m15.nx,sV9 m55],wordV m52⟩) om62 (by omega) b (by first | exact hb9 | decide | omega)) (dc d3 (dc (rIns.M (m := ⟨16,0,0,[m15.nx,sV9 m55],wordV m52⟩) (c := (.slice (some ⟨g63_28,0,none⟩) 2 2)) d0 (wl 16) (wl 0) (wl 0) (wp w55_0)) dn)) (kd (kc k0 kn)) ⟨add_ok om62.1 hbn,(addS_s.trans om62.2)⟩ p0 fun m66 hm66 om66 bm66 ua66 qs66 w30 => ?_)))
 clear bm62
 refine jn ?_
 have hst : m66 = memS b st m := (by (try simp only [hm15,hm17,hm19,hm49,hm52,hm55,hm62,hm66] at hc1 hc5 hc6); (try simp only [hm15,hm17,hm19,hm49,hm52,hm55,hm62,hm66]); all_goals first | rfl | (simp [memS,mem1,mem2,hc1,hc5,hc6]; done) | (simp [memS,mem1,mem2,hc1,hc5,hc6]; rfl) | (unfold memS mem1 mem2; (repeat' split) <;> first | rfl | (exfalso; omega) | (simp [hc1,hc5,hc6] at *; done) | (simp_all; done)))
 exact jd0 Z (ua66,qs66) Z dn (fun _ _ => (kcb (by rw [← hst]) k0 (kcg (by rw [← hst]) k0 (kck (by rw [← hst]) k0 kn))))
 refine jr (jm Z (jm Z (jm Z (jkr E64 Z Z (m3fresh_ct om55 (by omega)) (dc d1 dn) (kd (kc k0 kn)) ⟨fresh_ok om55.1,om55.2⟩ fun m70 hm70 om70 bm70 => ?_))))
 have w70_0 : IntKind.i64.wrap (m55.nx) = m55.nx := (IntWalk.i64_in _ (by omega))
 clear bm55
 refine jm Z (jlit (r := (rI .i64)) (l := [m15.nx]) U22 I3 (by decide) Z Z Z (lV Z Z (wI ((wfw d0))) ln) fun g72_31 => jm Z (js (jbu (v := .agg #[.int .i64 15,.int .i64 m55.nx,.int .i64 0,(.slice (some ⟨g72_31,0,none⟩) 1 1),.int .i32 (wordV m52)]) Z (fun _ => by kernel_rfl)) (jfz k0 (by (try simp) <;> omega) (jkb E120 Z Z (m3add_ct (i := ⟨15,m55.nx,0,[m15.nx],wordV m52⟩) om70 (by omega) b (by first | exact hb9 | decide | omega)) (dc d2 (dc (rIns.M (m := ⟨15,m55.nx,0,[m15.nx],wordV m52⟩) (c := (.slice (some ⟨g72_31,0,none⟩) 1 1)) d0 (wl 15) (wp w70_0) (wl 0) (wp w55_0)) dn)) (kd (kc k0 kn)) ⟨add_ok om70.1 hbn,(addS_s.trans om70.2)⟩ p0 fun m75 hm75 om75 bm75 ua75 qs75 w33 => ?_))))
 clear bm70
 refine jn ?_
 have hst : m75 = memS b st m := (by (try simp only [hm15,hm17,hm19,hm49,hm52,hm55,hm70,hm75] at hc1 hc5 hc6); (try simp only [hm15,hm17,hm19,hm49,hm52,hm55,hm70,hm75]); all_goals first | rfl | (simp [memS,mem1,mem2,hc1,hc5,hc6]; done) | (simp [memS,mem1,mem2,hc1,hc5,hc6]; rfl) | (unfold memS mem1 mem2; (repeat' split) <;> first | rfl | (exfalso; omega) | (simp [hc1,hc5,hc6] at *; done) | (simp_all; done)))
 exact jd0 Z (ua75,qs75) Z dn (fun _ _ => (kcb (by rw [← hst]) k0 (kcg (by rw [← hst]) k0 (kck (by rw [← hst]) k0 kn))))
 refine jsk (jx (jq (jr (jm Z (jn (jx ?_))))))
 refine jif Z (fun hc7 => ?_) (fun hc7 => ?_)
 refine jr (jm Z (jm Z (jm Z (jm Z (jm Z (jkb E119 Z Z (m3some_ct om52 (by omega) b (by first | exact hb9 | decide | omega)) (dc d1 dn) (kd (kc k0 kn)) ⟨some_ok om52.1 hbn,(someS_s.trans om52.2)⟩ p1 fun m62 hm62 om62 bm62 ua62 qs62 w34 => ?_))))))
 clear bm52
 refine jlit (r := (rI .i64)) (l := [m15.nx,sV9 m52]) U22 I3 (by decide) Z Z Z (lV Z Z (wI ((wfw d1))) (lV Z Z (wI ((wfw d0))) ln)) fun g63_36 => jm Z (js (jbu (v := .agg #[.int .i64 16,.int .i64 0,.int .i64 0,(.slice (some ⟨g63_36,0,none⟩) 2 2),.int .i32 (IntKind.i32.wrap (tVV 4 m19))]) Z (fun _ => by kernel_rfl)) (jfz k0 (by (try simp) <;> omega) (jkb E120 Z Z (m3add_ct (i := ⟨16,0,0,[m15.nx,sV9 m52],IntKind.i32.wrap (tVV 4 m19)⟩) om62 (by omega) b (by first | exact hb9 | decide | omega)) (dc d3 (dc (rIns.M (m := ⟨16,0,0,[m15.nx,sV9 m52],IntKind.i32.wrap (tVV 4 m19)⟩) (c := (.slice (some ⟨g63_36,0,none⟩) 2 2)) d0 (wl 16) (wl 0) (wl 0) (wp (JE.wrap_wrap _ _))) dn)) (kd (kc k0 kn)) ⟨add_ok om62.1 hbn,(addS_s.trans om62.2)⟩ p0 fun m66 hm66 om66 bm66 ua66 qs66 w38 => ?_)))
 clear bm62
 refine jn ?_
 have hst : m66 = memS b st m := (by (try simp only [hm15,hm17,hm19,hm49,hm52,hm62,hm66] at hc1 hc5 hc7); (try simp only [hm15,hm17,hm19,hm49,hm52,hm62,hm66]); all_goals first | rfl | (simp [memS,mem1,mem2,hc1,hc5,hc7]; done) | (simp [memS,mem1,mem2,hc1,hc5,hc7]; rfl) | (unfold memS mem1 mem2; (repeat' split) <;> first | rfl | (exfalso; omega) | (simp [hc1,hc5,hc7] at *; done) | (simp_all; done)))
 exact jd0 Z (ua66,qs66) Z dn (fun _ _ => (kcb (by rw [← hst]) k0 (kcg (by rw [← hst]) k0 (kck (by rw [← hst]) k0 kn))))
 refine jr (jm Z (jm Z (jm Z (jkr E64 Z Z (m3fresh_ct om52 (by omega)) (dc d1 dn) (kd (kc k0 kn)) ⟨fresh_ok om52.1,om52.2⟩ fun m70 hm70 om70 bm70 => ?_))))
 have w70_0 : IntKind.i64.wrap (m52.nx) = m52.nx := (IntWalk.i64_in _ (by omega))
 clear bm52
 refine jm Z (jlit (r := (rI .i64)) (l := [m15.nx]) U22 I3 (by decide) Z Z Z (lV Z Z (wI ((wfw d0))) ln) fun g72_39 => jm Z (js (jbu (v := .agg #[.int .i64 15,.int .i64 m52.nx,.int .i64 0,(.slice (some ⟨g72_39,0,none⟩) 1 1),.int .i32 (IntKind.i32.wrap (tVV 4 m19))]) Z (fun _ => by kernel_rfl)) (jfz k0 (by (try simp) <;> omega) (jkb E120 Z Z (m3add_ct (i := ⟨15,m52.nx,0,[m15.nx],IntKind.i32.wrap (tVV 4 m19)⟩) om70 (by omega) b (by first | exact hb9 | decide | omega)) (dc d2 (dc (rIns.M (m := ⟨15,m52.nx,0,[m15.nx],IntKind.i32.wrap (tVV 4 m19)⟩) (c := (.slice (some ⟨g72_39,0,none⟩) 1 1)) d0 (wl 15) (wp w70_0) (wl 0) (wp (JE.wrap_wrap _ _))) dn)) (kd (kc k0 kn)) ⟨add_ok om70.1 hbn,(addS_s.trans om70.2)⟩ p0 fun m75 hm75 om75 bm75 ua75 qs75 w41 => ?_))))
 clear bm70
 refine jn ?_
 have hst : m75 = memS b st m := (by (try simp only [hm15,hm17,hm19,hm49,hm52,hm70,hm75] at hc1 hc5 hc7); (try simp only [hm15,hm17,hm19,hm49,hm52,hm70,hm75]); all_goals first | rfl | (simp [memS,mem1,mem2,hc1,hc5,hc7]; done) | (simp [memS,mem1,mem2,hc1,hc5,hc7]; rfl) | (unfold memS mem1 mem2; (repeat' split) <;> first | rfl | (exfalso; omega) | (simp [hc1,hc5,hc7] at *; done) | (simp_all; done)))
 exact jd0 Z (ua75,qs75) Z dn (fun _ _ => (kcb (by rw [← hst]) k0 (kcg (by rw [← hst]) k0 (kck (by rw [← hst]) k0 kn))))
abbrev U53 := @Tryz.underlying53
theorem A60 : ∃ d,Tryz.prog.underlying 60 = some d ∧ (match d with | .struct _ | .array _ _ => true | _ => false) = true := ⟨_,Tryz.underlying60,rfl⟩
theorem F60_0 : Fld Tryz.prog 60 0 0 := ⟨_,_,Tryz.underlying60,rfl,rfl,1,(by unfold Sz; kernel_rfl),by decide⟩
theorem F60_1 : Fld Tryz.prog 60 1 1 := ⟨_,_,Tryz.underlying60,rfl,rfl,1,(by unfold Sz; kernel_rfl),by decide⟩
theorem F60_2 : Fld Tryz.prog 60 2 2 := ⟨_,_,Tryz.underlying60,rfl,rfl,1,(by unfold Sz; kernel_rfl),by decide⟩
theorem F60_3 : Fld Tryz.prog 60 3 3 := ⟨_,_,Tryz.underlying60,rfl,rfl,1,(by unfold Sz; kernel_rfl),by decide⟩
theorem F62_2 : Fld Tryz.prog 62 2 2 := ⟨_,_,Tryz.underlying62,rfl,rfl,4,(by unfold Sz; kernel_rfl),by decide⟩
theorem Z53 : Sz Tryz.prog 53 3 := by unfold Sz; kernel_rfl
theorem Z60 : Sz Tryz.prog 60 4 := by unfold Sz; kernel_rfl
theorem J53 : (Tryz.prog.info? 53).bind (·.zero) = some (.agg #[.int .i64 0,.int .i64 0,.int .i64 0]) := by kernel_rfl
theorem J60 : (Tryz.prog.info? 60).bind (·.zero) = some (.agg #[.int .i64 0,.slice none 0 0,.slice none 0 0,.int .i32 0]) := by kernel_rfl
set_option maxRecDepth 4000 in
theorem m3end_ct {vs vb al : Value} {m : Mk} {nb c : Nat} {S : List Int} {g0 : Nat} {B0 B1 : Nat} {qs : List BV} (hok : okS nb c S m) (hc : c ≤ 950000) (b : Int) {a2 : Value} {l : List Int} (hb9 : 0 ≤ b ∧ b < nb) : KB Tryz.prog 68 [.int .i64 b,a2] [dv (rL (rI .i64)) a2 l] g0 vs vb al S B0 B1 qs [] m (endS b l m) (.tuple #[]) := by
 refine jenter (args := [.pointer (some ⟨g0,0,none⟩),.int .i64 b,a2]) Tryz.func68 rfl rfl rfl fun w0 X => ?_
 refine cgo k1 fun w1 => ?_
 have bd0 := okM.bnd hok.1
 refine cbk k2 (okM.bnd hok.1).2.2.2.2.2.2.2.1 fun hvb => ?_
 have hbn : b.toNat < nb := by omega
 refine jq (jr (js (jbu (v := .agg #[.int .i64 0,.slice none 0 0,.slice none 0 0,.int .i32 0]) Z (fun _ => by kernel_rfl)) (jalc J60 Z fun g6 => jsta k0 Z60 Z Z Z ⟨Z,Z,Z,Z,trivial⟩ (saf Z) (jn (jx (jq (jq (jr (jm Z (jdq d1 fun q2 w2 => ?_))))))))))
 refine js (jln U22 d1 Z) (jn (jx (jb (jq (jr (js (jeql Z Z) (ja Z (jn (jx ?_)))))))))
 refine jif Z (fun hc1 => ?_) (fun hc1 => ?_)
 refine jq (jr (js (jf F60_0 Z) (jst k0 Z3 Z Z Z s0 (jn (jx (jq (jr (jm Z (jkr E47 Z Z (m3take_ct hok (by omega) 8 (by first | exact hb9 | decide | omega)) (dc d0 dn) (kc k1 (kc k1 (kc k1 kn))) ⟨tO9 hok.1,hok.2⟩ fun m44 hm44 om44 bm44 => ?_)))))))))
 have w44_0 : IntKind.i64.wrap (tVV 8 m) = tVV 8 m := (IntWalk.i64_in _ (by have h9 := @tV9 8 (by omega) m; omega))
 have tr44 := @tV9 8 (by omega) m
 clear bd0
 refine ja Z (jn (jx (jq (jr (jm Z (js (jeql Z Z) (jn (jx ?_))))))))
 refine jif Z (fun hc2 => ?_) (fun hc2 => ?_)
 refine jq (jr (js (jf F60_0 Z) (jst k3 Z3 Z Z Z s0 (jn (jx (jr (jm Z (jkr E47 Z Z (m3take_ct om44 (by omega) 200 (by first | exact hb9 | decide | omega)) (dc d0 dn) (kc k1 (kc k1 (kc k1 kn))) ⟨tO9 om44.1,om44.2⟩ fun m49 hm49 om49 bm49 => ?_))))))))
 have w49_0 : IntKind.i64.wrap (tVV 200 m44) = tVV 200 m44 := (IntWalk.i64_in _ (by have h9 := @tV9 200 (by omega) m44; omega))
 have tr49 := @tV9 200 (by omega) m44
 clear bm44
 refine js (jco U3 U21 Z Z) (js (jf F60_3 Z) (jst k3 Z21 Z Z Z s3 (jn (jbn (jx (jtl 9 Mixed (by kernel_rfl) (jt (jmv Z) (jt (jnil Z) (jt (jf F108_2 Z) (jt (jf F49_1 Z) (jt (jl k1 O47 Z Z) ?_)))))))))))
 refine jt (jmv Z) (jt (jla k0 A60 Z60 Z Z Z) (jt (jbi' (j := (Int.toNat b)) U47 Z62 hvb Z Z (by omega) (by omega)) (jt (jf F62_2 Z) (jtt (jbT k3 (by omega) Z60 Z Z Z Z ⟨Z,Z,Z,Z,trivial⟩ (rTerm.M (m := ⟨5,[],[],IntKind.i32.wrap (tVV 200 m44)⟩) (c := (.slice none 0 0,.slice none 0 0)) wN wN (wl 5) (wp (JE.wrap_wrap _ _))) (jkn (c := c + 2) ({ m49 with bs := List.set m49.bs (Int.toNat b) { (ix m49.bs (Int.toNat b)) with Term := ⟨5,[],[],IntKind.i32.wrap (tVV 200 m44)⟩ } }) (kc k2 (kc k2 (kc k0 kn))) ⟨(okM.setb (d := 0) om49.1 (Nat.le_refl _)),om49.2⟩ fun ms3 hms3 oms3 bms3 => ?_))))))
 clear bm49
 refine jn ?_
 have hst : ms3 = endS b l m := (by (try simp only [hm44,hm49,hms3] at hc1 hc2); (try simp only [hm44,hm49,hms3]); all_goals first | rfl | (simp [endS,setT,hc1,hc2]; done) | (simp [endS,setT,hc1,hc2]; rfl) | (unfold endS setT; (repeat' split) <;> first | rfl | (exfalso; omega) | (simp [hc1,hc2] at *; done) | (simp_all; done)))
 exact jd0 Z (al,List.set qs (Int.toNat b) { (ix qs (Int.toNat b)) with T := ⟨5,[],[],IntKind.i32.wrap (tVV 200 m44)⟩ }) Z dn (fun _ _ => (kcb (by rw [← hst]) k0 (kcg (by rw [← hst]) k0 (kck (by rw [← hst]) k0 kn))))
 refine jq (jr (jm Z (js (jgtr Z Z) (jn (jx ?_)))))
 refine jif Z (fun hc3 => ?_) (fun hc3 => ?_)
 refine jr (jm Z (jm Z (jkb E119 Z Z (m3some_ct om44 (by omega) b (by first | exact hb9 | decide | omega)) (dc d0 dn) (kd (kc k0 kn)) ⟨some_ok om44.1 hbn,(someS_s.trans om44.2)⟩ p1 fun m56 hm56 om56 bm56 ua56 qs56 w4 => ?_)))
 clear bm44
 refine jlit (r := (rI .i64)) (l := [sV9 m44]) U22 I3 (by decide) Z Z Z (lV Z Z (wI ((wfw d0))) ln) fun g57 => js (jf F60_1 Z) (jst k4 Z22 Z Z Z s1 (jn (jbn (jx (jtl 9 Mixed (by kernel_rfl) (jt (jmv Z) (jt (jnil Z) (jt (jf F108_2 Z) (jt (jf F49_1 Z) (jt (jl k2 O47 Z Z) ?_))))))))))
 refine jt (jmv Z) (jt (jla k0 A60 Z60 Z Z Z) (jt (jbi' (j := (Int.toNat b)) U47 Z62 hvb Z Z (by omega) (by omega)) (jt (jf F62_2 Z) (jtt (jfz k1 (by (try simp) <;> omega) (jbT k3 (by omega) Z60 Z Z Z Z ⟨Z,Z,Z,Z,trivial⟩ (rTerm.M (m := ⟨4,[sV9 m44],[],0⟩) (c := ((.slice (some ⟨g57,0,none⟩) 1 1),.slice none 0 0)) d0 wN (wl 4) (wl 0)) (jkn (c := c + 9) ({ m56 with bs := List.set m56.bs (Int.toNat b) { (ix m56.bs (Int.toNat b)) with Term := ⟨4,[sV9 m44],[],0⟩ } }) (kc k2 (kc k2 (kc k0 kn))) ⟨(okM.setb (d := 0) om56.1 (Nat.le_refl _)),om56.2⟩ fun ms7 hms7 oms7 bms7 => ?_)))))))
 clear bm56
 refine jn ?_
 have hst : ms7 = endS b l m := (by (try simp only [hm44,hm56,hms7] at hc1 hc2 hc3); (try simp only [hm44,hm56,hms7]); all_goals first | rfl | (simp [endS,setT,hc1,hc2,hc3]; done) | (simp [endS,setT,hc1,hc2,hc3]; rfl) | (unfold endS setT; (repeat' split) <;> first | rfl | (exfalso; omega) | (simp [hc1,hc2,hc3] at *; done) | (simp_all; done)))
 exact jd0 Z (ua56,List.set qs56 (Int.toNat b) { (ix qs56 (Int.toNat b)) with T := ⟨4,[sV9 m44],[],0⟩ }) Z dn (fun _ _ => (kcb (by rw [← hst]) k0 (kcg (by rw [← hst]) k0 (kck (by rw [← hst]) k0 kn))))
 refine jsk (jbn (jx (jtl 9 Mixed (by kernel_rfl) (jt (jmv Z) (jt (jnil Z) (jt (jf F108_2 Z) (jt (jf F49_1 Z) (jt (jl k0 O47 Z Z) (jt (jmv Z) (jt (jla k3 A60 Z60 Z Z Z) (jt (jbi' (j := (Int.toNat b)) U47 Z62 hvb Z Z (by omega) (by omega)) ?_)))))))))))
 refine jt (jf F62_2 Z) (jtt (jbT k2 (by omega) Z60 Z Z Z Z ⟨Z,Z,Z,Z,trivial⟩ (rTerm.M (m := ⟨4,[],[],0⟩) (c := (.slice none 0 0,.slice none 0 0)) wN wN (wl 4) (wl 0)) (jkn (c := c + 1) ({ m44 with bs := List.set m44.bs (Int.toNat b) { (ix m44.bs (Int.toNat b)) with Term := ⟨4,[],[],0⟩ } }) (kc k1 (kc k1 (kc k0 kn))) ⟨(okM.setb (d := 0) om44.1 (Nat.le_refl _)),om44.2⟩ fun ms8 hms8 oms8 bms8 => ?_)))
 clear bm44
 refine jn ?_
 have hst : ms8 = endS b l m := (by (try simp only [hm44,hms8] at hc1 hc2 hc3); (try simp only [hm44,hms8]); all_goals first | rfl | (simp [endS,setT,hc1,hc2,hc3]; done) | (simp [endS,setT,hc1,hc2,hc3]; rfl) | (unfold endS setT; (repeat' split) <;> first | rfl | (exfalso; omega) | (simp [hc1,hc2,hc3] at *; done) | (simp_all; done)))
 exact jd0 Z (al,List.set qs (Int.toNat b) { (ix qs (Int.toNat b)) with T := ⟨4,[],[],0⟩ }) Z dn (fun _ _ => (kcb (by rw [← hst]) k0 (kcg (by rw [← hst]) k0 (kck (by rw [← hst]) k0 kn))))
 refine jq (jr (js (jeql Z Z) (ja Z (jn (jx ?_)))))
 refine jif Z (fun hc4 => ?_) (fun hc4 => ?_)
 refine jq (jr (js (jf F60_0 Z) (jst k0 Z3 Z Z Z s0 (jn (jx (jr (jm Z (js (jf F60_2 Z) (jst k0 Z22 Z Z w2.one s2 (jn (jbn ?_)))))))))))
 refine jx (jtl 9 Mixed (by kernel_rfl) (jt (jmv Z) (jt (jnil Z) (jt (jf F108_2 Z) (jt (jf F49_1 Z) (jt (jl k1 O47 Z Z) (jt (jmv Z) (jt (jla k0 A60 Z60 Z Z Z) (jt (jbi' (j := (Int.toNat b)) U47 Z62 hvb Z Z (by omega) (by omega)) (jt (jf F62_2 Z) (jtt ?_)))))))))))
 refine jbT k3 (by omega) Z60 Z Z Z Z ⟨Z,Z,w2.one,Z,trivial⟩ (rTerm.M (m := ⟨1,[],l,0⟩) (c := (.slice none 0 0,a2)) wN d1 (wl 1) (wl 0)) (jkn (c := c) ({ m with bs := List.set m.bs (Int.toNat b) { (ix m.bs (Int.toNat b)) with Term := ⟨1,[],l,0⟩ } }) (kc k2 (kc k2 (kc k0 kn))) ⟨(okM.setb (d := 0) hok.1 (Nat.le_refl _)),hok.2⟩ fun ms9 hms9 oms9 bms9 => ?_)
 clear bd0
 refine jn ?_
 have hst : ms9 = endS b l m := (by (try simp only [hms9] at hc1 hc4); (try simp only [hms9]); all_goals first | rfl | (simp [endS,setT,hc1,hc4]; done) | (simp [endS,setT,hc1,hc4]; rfl) | (unfold endS setT; (repeat' split) <;> first | rfl | (exfalso; omega) | (simp [hc1,hc4] at *; done) | (simp_all; done)))
 exact jd0 Z (al,List.set qs (Int.toNat b) { (ix qs (Int.toNat b)) with T := ⟨1,[],l,0⟩ }) Z dn (fun _ _ => (kcb (by rw [← hst]) k0 (kcg (by rw [← hst]) k0 (kck (by rw [← hst]) k0 kn))))
 refine jq (jr (js (jeql Z Z) (ja Z (jn (jx ?_)))))
 refine jif Z (fun hc5 => ?_) (fun hc5 => ?_)
 refine jq (jr (js (jf F60_0 Z) (jst k0 Z3 Z Z Z s0 (jn (jx (jq (jr (jm Z (js (jf F60_2 Z) (jst k0 Z22 Z Z w2.one s2 (jn ?_)))))))))))
 refine jx (jq (jr (jm Z (jm Z (jkb E119 Z Z (m3some_ct hok (by omega) b (by first | exact hb9 | decide | omega)) (dc d0 dn) (kc k1 (kc k1 (kc k1 kn))) ⟨some_ok hok.1 hbn,(someS_s.trans hok.2)⟩ p1 fun m71 hm71 om71 bm71 ua71 qs71 w10 => ?_)))))
 clear bd0
 refine ja Z (jn (jx (jq (jq (jr (jm Z (jkr E47 Z Z (m3take_ct om71 (by omega) 2 (by first | exact hb9 | decide | omega)) (dc d1 dn) (kd (kc k0 kn)) ⟨tO9 om71.1,om71.2⟩ fun m73 hm73 om73 bm73 => ?_)))))))
 have w73_0 : IntKind.i64.wrap (tVV 2 m71) = tVV 2 m71 := (IntWalk.i64_in _ (by have h9 := @tV9 2 (by omega) m71; omega))
 have tr73 := @tV9 2 (by omega) m71
 clear bm71
 refine js (jeql Z Z) (jn (jx ?_))
 refine jif Z (fun hc6 => ?_) (fun hc6 => ?_)
 refine jq (jr (js (jbu (v := .agg #[.int .i64 11,.int .i64 12,.int .i64 13]) Z (fun _ => by kernel_rfl)) (jalc J53 Z fun g9 => jsta k0 Z53 Z Z Z ⟨Z,Z,Z,trivial⟩ (saf Z) (jn (jx (jq (jr (jm Z (jm Z (jkb E119 Z Z (m3some_ct om73 (by omega) b (by first | exact hb9 | decide | omega)) (dc d1 dn) (kc k1 (kc k1 (kc k1 kn))) ⟨some_ok om73.1 hbn,(someS_s.trans om73.2)⟩ p1 fun m78 hm78 om78 bm78 ua78 qs78 w12 => ?_))))))))))
 clear bm73
 refine ja Z (jn (jx (jq (jr (jm Z (jkr E64 Z Z (m3fresh_ct om78 (by omega)) (dc d2 dn) (kd (kc k0 kn)) ⟨fresh_ok om78.1,om78.2⟩ fun m80 hm80 om80 bm80 => ?_))))))
 have w80_0 : IntKind.i64.wrap (m78.nx) = m78.nx := (IntWalk.i64_in _ (by omega))
 clear bm78
 refine ja Z (jn (jx (jq (jr (jm Z (jm Z (jm Z (jkr E47 Z Z (m3take_ct om80 (by omega) 3 (by first | exact hb9 | decide | omega)) (dc d2 dn) (kd (kc k0 kn)) ⟨tO9 om80.1,om80.2⟩ fun m84 hm84 om84 bm84 => ?_))))))))
 have w84_0 : IntKind.i64.wrap (tVV 3 m80) = tVV 3 m80 := (IntWalk.i64_in _ (by have h9 := @tV9 3 (by omega) m80; omega))
 have tr84 := @tV9 3 (by omega) m80
 clear bm80
 refine js (jixa (i := (Int.toNat (tVV 3 m80))) U53 Z3 Z Z (by omega) (by omega)) (js (jli (i := (Int.toNat (tVV 3 m80))) (l := [11,12,13]) k3 (by show _ < 3; omega) (by omega) O3 Z) (jm Z (jm Z (jm Z (jlit (r := (rI .i64)) (l := [sV9 m,sV9 m73]) U22 I3 (by decide) Z Z Z (lV Z Z (wI ((wfw d1))) (lV Z Z (wI ((wfw d0))) ln)) fun g90 => js (jbu (v := .agg #[.int .i64 (ix [11,12,13] (Int.toNat (tVV 3 m80))),.int .i64 m78.nx,.int .i64 0,(.slice (some ⟨g90,0,none⟩) 2 2),.int .i32 0]) Z (fun _ => by kernel_rfl)) (jfz k0 (by (try simp) <;> omega) (jkb E120 Z Z (m3add_ct (i := ⟨ix [11,12,13] (Int.toNat (tVV 3 m80)),m78.nx,0,[sV9 m,sV9 m73],0⟩) om84 (by omega) b (by first | exact hb9 | decide | omega)) (dc d3 (dc (rIns.M (m := ⟨ix [11,12,13] (Int.toNat (tVV 3 m80)),m78.nx,0,[sV9 m,sV9 m73],0⟩) (c := (.slice (some ⟨g90,0,none⟩) 2 2)) d0 (wp (ix_w (l := [11,12,13]) (by decide) (by decide) (Int.toNat (tVV 3 m80)))) (wp w80_0) (wl 0) (wl 0)) dn)) (kd (kc k0 kn)) ⟨add_ok om84.1 hbn,(addS_s.trans om84.2)⟩ p0 fun m92 hm92 om92 bm92 ua92 qs92 w15 => ?_)))))))
 clear bm84
 refine jn (jx (jr (jm Z (ja Z (jn (jx (jr (jm Z (jlit (r := (rI .i64)) (l := [m78.nx]) U22 I3 (by decide) Z Z Z (lV Z Z (wI (wp w80_0)) ln) fun g95 => js (jf F60_1 Z) (jst k5 Z22 Z Z Z s1 ?_))))))))))
 refine jn (jbn (jx (jtl 9 Mixed (by kernel_rfl) (jt (jmv Z) (jt (jnil Z) (jt (jf F108_2 Z) (jt (jf F49_1 Z) (jt (jl k2 O47 Z Z) (jt (jmv Z) (jt (jla k0 A60 Z60 Z Z Z) (jt (jbi' (j := (Int.toNat b)) U47 Z62 hvb Z Z (by omega) (by omega)) ?_)))))))))))
 refine jt (jf F62_2 Z) (jtt (jfz k1 (by (try simp) <;> omega) (jbT k3 (by omega) Z60 Z Z Z Z ⟨Z,Z,w2.one,Z,trivial⟩ (rTerm.M (m := ⟨2,[m78.nx],l,0⟩) (c := ((.slice (some ⟨g95,0,none⟩) 1 1),a2)) d0 d5 (wl 2) (wl 0)) (jkn (c := c + 21) ({ m92 with bs := List.set m92.bs (Int.toNat b) { (ix m92.bs (Int.toNat b)) with Term := ⟨2,[m78.nx],l,0⟩ } }) (kc k2 (kc k2 (kc k0 kn))) ⟨(okM.setb (d := 0) om92.1 (Nat.le_refl _)),om92.2⟩ fun ms17 hms17 oms17 bms17 => ?_))))
 clear bm92
 refine jn ?_
 have hst : ms17 = endS b l m := (by (try simp only [hm71,hm73,hm78,hm80,hm84,hm92,hms17] at hc1 hc4 hc5 hc6); (try simp only [hm71,hm73,hm78,hm80,hm84,hm92,hms17]); all_goals first | rfl | (simp [endS,setT,hc1,hc4,hc5,hc6]; done) | (simp [endS,setT,hc1,hc4,hc5,hc6]; rfl) | (unfold endS setT; (repeat' split) <;> first | rfl | (exfalso; omega) | (simp [hc1,hc4,hc5,hc6] at *; done) | (simp_all; done)))
 exact jd0 Z (ua92,List.set qs92 (Int.toNat b) { (ix qs92 (Int.toNat b)) with T := ⟨2,[m78.nx],l,0⟩ }) Z dn (fun _ _ => (kcb (by rw [← hst]) k0 (kcg (by rw [← hst]) k0 (kck (by rw [← hst]) k0 kn))))
 refine jsk (jx (jr (jm Z (jlit (r := (rI .i64)) (l := [sV9 m]) U22 I3 (by decide) Z Z Z (lV Z Z (wI ((wfw d0))) ln) fun g95_18 => js (jf F60_1 Z) (jst k4 Z22 Z Z Z s1 (jn (jbn (jx (jtl 9 Mixed (by kernel_rfl) (jt (jmv Z) ?_))))))))))
 refine jt (jnil Z) (jt (jf F108_2 Z) (jt (jf F49_1 Z) (jt (jl k2 O47 Z Z) (jt (jmv Z) (jt (jla k0 A60 Z60 Z Z Z) (jt (jbi' (j := (Int.toNat b)) U47 Z62 hvb Z Z (by omega) (by omega)) (jt (jf F62_2 Z) (jtt (jfz k1 (by (try simp) <;> omega) (jbT k3 (by omega) Z60 Z Z Z Z ⟨Z,Z,w2.one,Z,trivial⟩ (rTerm.M (m := ⟨2,[sV9 m],l,0⟩) (c := ((.slice (some ⟨g95_18,0,none⟩) 1 1),a2)) d0 d3 (wl 2) (wl 0)) (jkn (c := c + 9) ({ m73 with bs := List.set m73.bs (Int.toNat b) { (ix m73.bs (Int.toNat b)) with Term := ⟨2,[sV9 m],l,0⟩ } }) (kc k2 (kc k2 (kc k0 kn))) ⟨(okM.setb (d := 0) om73.1 (Nat.le_refl _)),om73.2⟩ fun ms20 hms20 oms20 bms20 => ?_)))))))))))
 clear bm73
 refine jn ?_
 have hst : ms20 = endS b l m := (by (try simp only [hm71,hm73,hms20] at hc1 hc4 hc5 hc6); (try simp only [hm71,hm73,hms20]); all_goals first | rfl | (simp [endS,setT,hc1,hc4,hc5,hc6]; done) | (simp [endS,setT,hc1,hc4,hc5,hc6]; rfl) | (unfold endS setT; (repeat' split) <;> first | rfl | (exfalso; omega) | (simp [hc1,hc4,hc5,hc6] at *; done) | (simp_all; done)))
 exact jd0 Z (ua71,List.set qs71 (Int.toNat b) { (ix qs71 (Int.toNat b)) with T := ⟨2,[sV9 m],l,0⟩ }) Z dn (fun _ _ => (kcb (by rw [← hst]) k0 (kcg (by rw [← hst]) k0 (kck (by rw [← hst]) k0 kn))))
 refine jq (jr (js (jf F60_0 Z) (jst k0 Z3 Z Z Z s0 (jn (jx (jq (jr (jm Z (js (jf F60_2 Z) (jst k0 Z22 Z Z w2.one s2 (jn ?_)))))))))))
 refine jx (jq (jr (jm Z (jm Z (jkb E119 Z Z (m3some_ct hok (by omega) b (by first | exact hb9 | decide | omega)) (dc d0 dn) (kc k1 (kc k1 (kc k1 kn))) ⟨some_ok hok.1 hbn,(someS_s.trans hok.2)⟩ p1 fun m23 hm23 om23 bm23 ua23 qs23 w21 => ?_)))))
 clear bd0
 refine ja Z (jn (jx (jq (jr (jm Z (jm Z (jkb E70 Z Z (m3const_ct om23 (by omega) b 7 (by first | exact hb9 | decide | omega) (by decide)) (dc d1 dn) (kd (kc k0 kn)) ⟨const_ok om23.1 hbn,(constS_s.trans om23.2)⟩ p1 fun m26 hm26 om26 bm26 ua26 qs26 w23 => ?_)))))))
 clear bm23
 refine ja Z (jn (jx (jq (jr (jm Z (jkr E64 Z Z (m3fresh_ct om26 (by omega)) (dc d2 dn) (kd (kc k0 kn)) ⟨fresh_ok om26.1,om26.2⟩ fun m28 hm28 om28 bm28 => ?_))))))
 have w28_0 : IntKind.i64.wrap (m26.nx) = m26.nx := (IntWalk.i64_in _ (by omega))
 clear bm26
 refine ja Z (jn (jx (jq (jr (jm Z (jm Z (jm Z (jm Z (jm Z (jlit (r := (rI .i64)) (l := [sV9 m,m23.nx]) U22 I3 (by decide) Z Z Z (lV Z Z (wI ((wfw d1))) (lV Z Z (wI ((wfw d0))) ln)) fun g34 => js (jbu (v := .agg #[.int .i64 5,.int .i64 m26.nx,.int .i64 0,(.slice (some ⟨g34,0,none⟩) 2 2),.int .i32 0]) Z (fun _ => by kernel_rfl)) ?_))))))))))
 refine jfz k0 (by (try simp) <;> omega) (jkb E120 Z Z (m3add_ct (i := ⟨5,m26.nx,0,[sV9 m,m23.nx],0⟩) om28 (by omega) b (by first | exact hb9 | decide | omega)) (dc d3 (dc (rIns.M (m := ⟨5,m26.nx,0,[sV9 m,m23.nx],0⟩) (c := (.slice (some ⟨g34,0,none⟩) 2 2)) d0 (wl 5) (wp w28_0) (wl 0) (wl 0)) dn)) (kd (kc k0 kn)) ⟨add_ok om28.1 hbn,(addS_s.trans om28.2)⟩ p0 fun m36 hm36 om36 bm36 ua36 qs36 w26 => ?_)
 clear bm28
 refine jn (jx (jr (jm Z (jlit (r := (rI .i64)) (l := [m26.nx]) U22 I3 (by decide) Z Z Z (lV Z Z (wI (wp w28_0)) ln) fun g38 => js (jf F60_1 Z) (jst k4 Z22 Z Z Z s1 (jn (jbn (jx (jtl 9 Mixed (by kernel_rfl) (jt (jmv Z) ?_))))))))))
 refine jt (jnil Z) (jt (jf F108_2 Z) (jt (jf F49_1 Z) (jt (jl k2 O47 Z Z) (jt (jmv Z) (jt (jla k0 A60 Z60 Z Z Z) (jt (jbi' (j := (Int.toNat b)) U47 Z62 hvb Z Z (by omega) (by omega)) (jt (jf F62_2 Z) (jtt (jfz k1 (by (try simp) <;> omega) (jbT k3 (by omega) Z60 Z Z Z Z ⟨Z,Z,w2.one,Z,trivial⟩ (rTerm.M (m := ⟨3,[m26.nx],l,0⟩) (c := ((.slice (some ⟨g38,0,none⟩) 1 1),a2)) d0 d5 (wl 3) (wl 0)) (jkn (c := c + 14) ({ m36 with bs := List.set m36.bs (Int.toNat b) { (ix m36.bs (Int.toNat b)) with Term := ⟨3,[m26.nx],l,0⟩ } }) (kc k2 (kc k2 (kc k0 kn))) ⟨(okM.setb (d := 0) om36.1 (Nat.le_refl _)),om36.2⟩ fun ms28 hms28 oms28 bms28 => ?_)))))))))))
 clear bm36
 refine jn ?_
 have hst : ms28 = endS b l m := (by (try simp only [hm23,hm26,hm28,hm36,hms28] at hc1 hc4 hc5); (try simp only [hm23,hm26,hm28,hm36,hms28]); all_goals first | rfl | (simp [endS,setT,hc1,hc4,hc5]; done) | (simp [endS,setT,hc1,hc4,hc5]; rfl) | (unfold endS setT; (repeat' split) <;> first | rfl | (exfalso; omega) | (simp [hc1,hc4,hc5] at *; done) | (simp_all; done)))
 exact jd0 Z (ua36,List.set qs36 (Int.toNat b) { (ix qs36 (Int.toNat b)) with T := ⟨3,[m26.nx],l,0⟩ }) Z dn (fun _ _ => (kcb (by rw [← hst]) k0 (kcg (by rw [← hst]) k0 (kck (by rw [← hst]) k0 kn))))
abbrev U181 := @Tryz.underlying181
theorem E121 : Ent Tryz.prog 121 := ⟨_,Tryz.func121,by kernel_rfl,by kernel_rfl⟩
theorem Z181 : Sz Tryz.prog 181 12 := by unfold Sz; kernel_rfl
theorem J181 : (Tryz.prog.info? 181).bind (·.zero) = some (.agg #[.int .i64 0,.int .i64 0,.int .i64 0,.int .i64 0,.int .i64 0,.int .i64 0,.int .i64 0,.int .i64 0,.int .i64 0,.int .i64 0,.int .i64 0,.int .i64 0]) := by kernel_rfl
set_option maxRecDepth 4000 in
theorem m3ins_ct {vs vb al : Value} {m : Mk} {nb c : Nat} {S : List Int} {g0 : Nat} {B0 B1 : Nat} {qs : List BV} (hok : okS nb c S m) (hc : c ≤ 900000) (b : Int) (hb9 : 0 ≤ b ∧ b < nb) : KB Tryz.prog 67 [.int .i64 b] [] g0 vs vb al S B0 B1 qs [] m (insS b m) (.tuple #[]) := by
 refine jenter (args := [.pointer (some ⟨g0,0,none⟩),.int .i64 b]) Tryz.func67 rfl rfl rfl fun w0 X => ?_
 refine cgo k1 fun w1 => ?_
 have bd0 := okM.bnd hok.1
 refine cbk k2 (okM.bnd hok.1).2.2.2.2.2.2.2.1 fun hvb => ?_
 have hbn : b.toNat < nb := by omega
 refine jq (jr (jm Z (jkr E47 Z Z (m3take_ct hok (by omega) 20 (by first | exact hb9 | decide | omega)) (dc d0 dn) (kd (kc k0 kn)) ⟨tO9 hok.1,hok.2⟩ fun m19 hm19 om19 bm19 => ?_)))
 have w19_0 : IntKind.i64.wrap (tVV 20 m) = tVV 20 m := (IntWalk.i64_in _ (by have h9 := @tV9 20 (by omega) m; omega))
 have tr19 := @tV9 20 (by omega) m
 clear bd0
 refine ja Z (jn (jx (jb (jq (jr (jm Z (js (jlss Z Z) (ja Z (jn (jx ?_))))))))))
 refine jif Z (fun hc1 => ?_) (fun hc1 => ?_)
 refine jq (jr (js (jbu (v := .agg #[.int .i64 2,.int .i64 2,.int .i64 3,.int .i64 4,.int .i64 5,.int .i64 6,.int .i64 7,.int .i64 8,.int .i64 9,.int .i64 10,.int .i64 12,.int .i64 11]) Z (fun _ => by kernel_rfl)) (jalc J181 Z fun g5 => jsta k0 Z181 Z Z Z ⟨Z,Z,Z,Z,Z,Z,Z,Z,Z,Z,Z,Z,trivial⟩ (saf Z) (jn (jx (jq (jr (jm Z (jm Z (jkb E119 Z Z (m3some_ct om19 (by omega) b (by first | exact hb9 | decide | omega)) (dc d0 dn) (kc k1 (kc k1 (kc k1 kn))) ⟨some_ok om19.1 hbn,(someS_s.trans om19.2)⟩ p1 fun m31 hm31 om31 bm31 ua31 qs31 w2 => ?_))))))))))
 clear bm19
 refine ja Z (jn (jx (jq (jr (jm Z (jm Z (jkb E119 Z Z (m3some_ct om31 (by omega) b (by first | exact hb9 | decide | omega)) (dc d1 dn) (kd (kc k0 kn)) ⟨some_ok om31.1 hbn,(someS_s.trans om31.2)⟩ p1 fun m34 hm34 om34 bm34 ua34 qs34 w4 => ?_)))))))
 clear bm31
 refine ja Z (jn (jx (jq (jq (jr (jm Z (jkr E47 Z Z (m3take_ct om34 (by omega) 3 (by first | exact hb9 | decide | omega)) (dc d2 dn) (kd (kc k0 kn)) ⟨tO9 om34.1,om34.2⟩ fun m36 hm36 om36 bm36 => ?_)))))))
 have w36_0 : IntKind.i64.wrap (tVV 3 m34) = tVV 3 m34 := (IntWalk.i64_in _ (by have h9 := @tV9 3 (by omega) m34; omega))
 have tr36 := @tV9 3 (by omega) m34
 clear bm34
 refine js (jeql Z Z) (jn (jx ?_))
 refine jif Z (fun hc2 => ?_) (fun hc2 => ?_)
 refine jr (jm Z (jm Z (jm Z (jkr E47 Z Z (m3take_ct om36 (by omega) 40 (by first | exact hb9 | decide | omega)) (dc d2 dn) (kd (kc k0 kn)) ⟨tO9 om36.1,om36.2⟩ fun m41 hm41 om41 bm41 => ?_))))
 have w41_0 : IntKind.i64.wrap (tVV 40 m36) = tVV 40 m36 := (IntWalk.i64_in _ (by have h9 := @tV9 40 (by omega) m36; omega))
 have tr41 := @tV9 40 (by omega) m36
 clear bm36
 refine js (jsub Z Z (by omega)) (js (jco U3 U21 Z Z) (jkb E70 Z Z (m3const_ct om41 (by omega) b (IntKind.i32.wrap ((tVV 40 m36) - 8)) (by first | exact hb9 | decide | omega) (JE.wrap_wrap _ _)) (dc d2 dn) (kd (kc k0 kn)) ⟨const_ok om41.1 hbn,(constS_s.trans om41.2)⟩ p1 fun m44 hm44 om44 bm44 ua44 qs44 w6 => ?_))
 clear bm41
 refine ja Z (jn (jx (jany true (.a 0 (.a 1 (.a 2 (.a 3 (.a 4 (.a 5 (.a 7 (.a 8 (.w 6 9 (.o 9 (.a 10 (.o 11 .e))) (.o 6 (.a 10 (.o 11 .e)))))))))))) Mixed (by kernel_rfl) (kc k3 kn) fun F8 => jy Z (jmv Z) (jy Z (jmv Z) (jy Z (jmv Z) (jy Z (jixa (i := (Int.toNat (tVV 20 m))) U181 Z3 Z Z (by omega) (by omega)) (jy Z (jli (i := (Int.toNat (tVV 20 m))) (l := [2,2,3,4,5,6,7,8,9,10,12,11]) k0 (by show _ < 12; omega) (by omega) O3 Z) (jy Z (jmv Z) (jy Z (jmv Z) (jy Z (jmv Z) ?_))))))))))
 refine jyw Z Z ?_ ?_
 refine jkr E64 Z Z (m3fresh_ct om44 (by omega)) (dc d4 dn) (kd (kc k0 kn)) ⟨fresh_ok om44.1,om44.2⟩ fun m51 hm51 om51 bm51 => ?_
 have w51_0 : IntKind.i64.wrap (m44.nx) = m44.nx := (IntWalk.i64_in _ (by omega))
 clear bm44
 refine jyn d0 (kc k3 kn) (jyo Z (jlit (r := (rI .i64)) (l := [sV9 m19,m41.nx]) U22 I3 (by decide) Z Z Z (lV Z Z (wI ((wfw d4))) (lV Z Z (wI ((wfw d2))) ln)) fun g54 => jyn d0 (kc k4 kn) (jy Z (jbu (v := .agg #[.int .i64 (ix [2,2,3,4,5,6,7,8,9,10,12,11] (Int.toNat (tVV 20 m))),.int .i64 m44.nx,.int .i64 0,(.slice (some ⟨g54,0,none⟩) 2 2),.int .i32 0]) Z (fun _ => by kernel_rfl)) (jyo Z (jfz k0 (by (try simp) <;> omega) (jkb E120 Z Z (m3add_ct (i := ⟨ix [2,2,3,4,5,6,7,8,9,10,12,11] (Int.toNat (tVV 20 m)),m44.nx,0,[sV9 m19,m41.nx],0⟩) om51 (by omega) b (by first | exact hb9 | decide | omega)) (dc d7 (dc (rIns.M (m := ⟨ix [2,2,3,4,5,6,7,8,9,10,12,11] (Int.toNat (tVV 20 m)),m44.nx,0,[sV9 m19,m41.nx],0⟩) (c := (.slice (some ⟨g54,0,none⟩) 2 2)) d0 (wp (ix_w (l := [2,2,3,4,5,6,7,8,9,10,12,11]) (by decide) (by decide) (Int.toNat (tVV 20 m)))) (wp w51_0) (wl 0) (wl 0)) dn)) (kd (kc k0 kn)) ⟨add_ok om51.1 hbn,(addS_s.trans om51.2)⟩ p0 fun m56 hm56 om56 bm56 ua56 qs56 w13 => ?_))))))
 clear bm51
 refine jyz d1 (jyd (jbn ?_))
 have hst : m56 = insS b m := (by (try simp only [hm19,hm31,hm34,hm36,hm41,hm44,hm51,hm56] at hc1 hc2); (try simp only [hm19,hm31,hm34,hm36,hm41,hm44,hm51,hm56]); all_goals first | rfl | (simp [insS,hc1,hc2]; done) | (simp [insS,hc1,hc2]; rfl))
 exact jd0 Z (ua56,qs56) Z dn (fun _ _ => (kcb (by rw [← hst]) k0 (kcg (by rw [← hst]) k0 (kck (by rw [← hst]) k0 kn))))
 refine jlit (r := (rI .i64)) (l := [sV9 m19,m41.nx]) U22 I3 (by decide) Z Z Z (lV Z Z (wI ((wfw d3))) (lV Z Z (wI ((wfw d1))) ln)) fun g54 => jyn d0 (kc k4 kn) (jyo Z (jkr E64 Z Z (m3fresh_ct om44 (by omega)) (dc d5 dn) (kc k1 (kc k1 (kc k1 kn))) ⟨fresh_ok om44.1,om44.2⟩ fun m51 hm51 om51 bm51 => ?_))
 have w51_0 : IntKind.i64.wrap (m44.nx) = m44.nx := (IntWalk.i64_in _ (by omega))
 clear bm44
 refine jyn d0 (kc k4 kn) (jy Z (jbu (v := .agg #[.int .i64 (ix [2,2,3,4,5,6,7,8,9,10,12,11] (Int.toNat (tVV 20 m))),.int .i64 m44.nx,.int .i64 0,(.slice (some ⟨g54,0,none⟩) 2 2),.int .i32 0]) Z (fun _ => by kernel_rfl)) (jyo Z (jfz k3 (by (try simp) <;> omega) (jkb E120 Z Z (m3add_ct (i := ⟨ix [2,2,3,4,5,6,7,8,9,10,12,11] (Int.toNat (tVV 20 m)),m44.nx,0,[sV9 m19,m41.nx],0⟩) om51 (by omega) b (by first | exact hb9 | decide | omega)) (dc d7 (dc (rIns.M (m := ⟨ix [2,2,3,4,5,6,7,8,9,10,12,11] (Int.toNat (tVV 20 m)),m44.nx,0,[sV9 m19,m41.nx],0⟩) (c := (.slice (some ⟨g54,0,none⟩) 2 2)) d0 (wp (ix_w (l := [2,2,3,4,5,6,7,8,9,10,12,11]) (by decide) (by decide) (Int.toNat (tVV 20 m)))) (wp w51_0) (wl 0) (wl 0)) dn)) (kd (kc k0 kn)) ⟨add_ok om51.1 hbn,(addS_s.trans om51.2)⟩ p0 fun m56 hm56 om56 bm56 ua56 qs56 w13 => ?_))))
 clear bm51
 refine jyz d1 (jyd (jbn ?_))
 have hst : m56 = insS b m := (by (try simp only [hm19,hm31,hm34,hm36,hm41,hm44,hm51,hm56] at hc1 hc2); (try simp only [hm19,hm31,hm34,hm36,hm41,hm44,hm51,hm56]); all_goals first | rfl | (simp [insS,hc1,hc2]; done) | (simp [insS,hc1,hc2]; rfl))
 exact jd0 Z (ua56,qs56) Z dn (fun _ _ => (kcb (by rw [← hst]) k0 (kcg (by rw [← hst]) k0 (kck (by rw [← hst]) k0 kn))))
 refine jsk (jx (jany true (.a 0 (.a 1 (.a 2 (.a 3 (.a 4 (.a 5 (.a 7 (.a 8 (.w 6 9 (.o 9 (.a 10 (.o 11 .e))) (.o 6 (.a 10 (.o 11 .e)))))))))))) Mixed (by kernel_rfl) (kc k3 kn) fun F14 => jy Z (jmv Z) (jy Z (jmv Z) (jy Z (jmv Z) (jy Z (jixa (i := (Int.toNat (tVV 20 m))) U181 Z3 Z Z (by omega) (by omega)) (jy Z (jli (i := (Int.toNat (tVV 20 m))) (l := [2,2,3,4,5,6,7,8,9,10,12,11]) k0 (by show _ < 12; omega) (by omega) O3 Z) (jy Z (jmv Z) (jy Z (jmv Z) (jy Z (jmv Z) ?_)))))))))
 refine jyw Z Z ?_ ?_
 refine jkr E64 Z Z (m3fresh_ct om36 (by omega)) (dc d3 dn) (kd (kc k0 kn)) ⟨fresh_ok om36.1,om36.2⟩ fun m51 hm51 om51 bm51 => ?_
 have w51_0 : IntKind.i64.wrap (m36.nx) = m36.nx := (IntWalk.i64_in _ (by omega))
 clear bm36
 refine jyn d0 (kc k3 kn) (jyo Z (jlit (r := (rI .i64)) (l := [sV9 m19,sV9 m31]) U22 I3 (by decide) Z Z Z (lV Z Z (wI ((wfw d3))) (lV Z Z (wI ((wfw d2))) ln)) fun g54_17 => jyn d0 (kc k4 kn) (jy Z (jbu (v := .agg #[.int .i64 (ix [2,2,3,4,5,6,7,8,9,10,12,11] (Int.toNat (tVV 20 m))),.int .i64 m36.nx,.int .i64 0,(.slice (some ⟨g54_17,0,none⟩) 2 2),.int .i32 0]) Z (fun _ => by kernel_rfl)) (jyo Z (jfz k0 (by (try simp) <;> omega) (jkb E120 Z Z (m3add_ct (i := ⟨ix [2,2,3,4,5,6,7,8,9,10,12,11] (Int.toNat (tVV 20 m)),m36.nx,0,[sV9 m19,sV9 m31],0⟩) om51 (by omega) b (by first | exact hb9 | decide | omega)) (dc d6 (dc (rIns.M (m := ⟨ix [2,2,3,4,5,6,7,8,9,10,12,11] (Int.toNat (tVV 20 m)),m36.nx,0,[sV9 m19,sV9 m31],0⟩) (c := (.slice (some ⟨g54_17,0,none⟩) 2 2)) d0 (wp (ix_w (l := [2,2,3,4,5,6,7,8,9,10,12,11]) (by decide) (by decide) (Int.toNat (tVV 20 m)))) (wp w51_0) (wl 0) (wl 0)) dn)) (kd (kc k0 kn)) ⟨add_ok om51.1 hbn,(addS_s.trans om51.2)⟩ p0 fun m56 hm56 om56 bm56 ua56 qs56 w20 => ?_))))))
 clear bm51
 refine jyz d1 (jyd (jbn ?_))
 have hst : m56 = insS b m := (by (try simp only [hm19,hm31,hm34,hm36,hm51,hm56] at hc1 hc2); (try simp only [hm19,hm31,hm34,hm36,hm51,hm56]); all_goals first | rfl | (simp [insS,hc1,hc2]; done) | (simp [insS,hc1,hc2]; rfl))
 exact jd0 Z (ua56,qs56) Z dn (fun _ _ => (kcb (by rw [← hst]) k0 (kcg (by rw [← hst]) k0 (kck (by rw [← hst]) k0 kn))))
 refine jlit (r := (rI .i64)) (l := [sV9 m19,sV9 m31]) U22 I3 (by decide) Z Z Z (lV Z Z (wI ((wfw d2))) (lV Z Z (wI ((wfw d1))) ln)) fun g54_16 => jyn d0 (kc k4 kn) (jyo Z (jkr E64 Z Z (m3fresh_ct om36 (by omega)) (dc d4 dn) (kc k1 (kc k1 (kc k1 kn))) ⟨fresh_ok om36.1,om36.2⟩ fun m51 hm51 om51 bm51 => ?_))
 have w51_0 : IntKind.i64.wrap (m36.nx) = m36.nx := (IntWalk.i64_in _ (by omega))
 clear bm36
 refine jyn d0 (kc k4 kn) (jy Z (jbu (v := .agg #[.int .i64 (ix [2,2,3,4,5,6,7,8,9,10,12,11] (Int.toNat (tVV 20 m))),.int .i64 m36.nx,.int .i64 0,(.slice (some ⟨g54_16,0,none⟩) 2 2),.int .i32 0]) Z (fun _ => by kernel_rfl)) (jyo Z (jfz k3 (by (try simp) <;> omega) (jkb E120 Z Z (m3add_ct (i := ⟨ix [2,2,3,4,5,6,7,8,9,10,12,11] (Int.toNat (tVV 20 m)),m36.nx,0,[sV9 m19,sV9 m31],0⟩) om51 (by omega) b (by first | exact hb9 | decide | omega)) (dc d6 (dc (rIns.M (m := ⟨ix [2,2,3,4,5,6,7,8,9,10,12,11] (Int.toNat (tVV 20 m)),m36.nx,0,[sV9 m19,sV9 m31],0⟩) (c := (.slice (some ⟨g54_16,0,none⟩) 2 2)) d0 (wp (ix_w (l := [2,2,3,4,5,6,7,8,9,10,12,11]) (by decide) (by decide) (Int.toNat (tVV 20 m)))) (wp w51_0) (wl 0) (wl 0)) dn)) (kd (kc k0 kn)) ⟨add_ok om51.1 hbn,(addS_s.trans om51.2)⟩ p0 fun m56 hm56 om56 bm56 ua56 qs56 w20 => ?_))))
 clear bm51
 refine jyz d1 (jyd (jbn ?_))
 have hst : m56 = insS b m := (by (try simp only [hm19,hm31,hm34,hm36,hm51,hm56] at hc1 hc2); (try simp only [hm19,hm31,hm34,hm36,hm51,hm56]); all_goals first | rfl | (simp [insS,hc1,hc2]; done) | (simp [insS,hc1,hc2]; rfl))
 exact jd0 Z (ua56,qs56) Z dn (fun _ _ => (kcb (by rw [← hst]) k0 (kcg (by rw [← hst]) k0 (kck (by rw [← hst]) k0 kn))))
 refine jq (jr (jm Z (js (jeql Z Z) (ja Z (jn (jx ?_))))))
 refine jif Z (fun hc3 => ?_) (fun hc3 => ?_)
 refine jq (jr (jm Z (jm Z (jkb E119 Z Z (m3some_ct om19 (by omega) b (by first | exact hb9 | decide | omega)) (dc d0 dn) (kd (kc k0 kn)) ⟨some_ok om19.1 hbn,(someS_s.trans om19.2)⟩ p1 fun m62 hm62 om62 bm62 ua62 qs62 w21 => ?_))))
 clear bm19
 refine ja Z (jn (jx (jq (jr (jm Z (jm Z (jkb E119 Z Z (m3some_ct om62 (by omega) b (by first | exact hb9 | decide | omega)) (dc d1 dn) (kd (kc k0 kn)) ⟨some_ok om62.1 hbn,(someS_s.trans om62.2)⟩ p1 fun m65 hm65 om65 bm65 ua65 qs65 w23 => ?_)))))))
 clear bm62
 refine ja Z (jn (jx (jr (jm Z (jm Z (jm Z (jkr E64 Z Z (m3fresh_ct om65 (by omega)) (dc d2 dn) (kd (kc k0 kn)) ⟨fresh_ok om65.1,om65.2⟩ fun m69 hm69 om69 bm69 => ?_)))))))
 have w69_0 : IntKind.i64.wrap (m65.nx) = m65.nx := (IntWalk.i64_in _ (by omega))
 clear bm65
 refine jm Z (jm Z (jlit (r := (rI .i64)) (l := [sV9 m19,sV9 m62]) U22 I3 (by decide) Z Z Z (lV Z Z (wI ((wfw d1))) (lV Z Z (wI ((wfw d0))) ln)) fun g72 => js (jbu (v := .agg #[.int .i64 13,.int .i64 m65.nx,.int .i64 0,(.slice (some ⟨g72,0,none⟩) 2 2),.int .i32 0]) Z (fun _ => by kernel_rfl)) (jfz k0 (by (try simp) <;> omega) (jkb E120 Z Z (m3add_ct (i := ⟨13,m65.nx,0,[sV9 m19,sV9 m62],0⟩) om69 (by omega) b (by first | exact hb9 | decide | omega)) (dc d3 (dc (rIns.M (m := ⟨13,m65.nx,0,[sV9 m19,sV9 m62],0⟩) (c := (.slice (some ⟨g72,0,none⟩) 2 2)) d0 (wl 13) (wp w69_0) (wl 0) (wl 0)) dn)) (kd (kc k0 kn)) ⟨add_ok om69.1 hbn,(addS_s.trans om69.2)⟩ p0 fun m74 hm74 om74 bm74 ua74 qs74 w26 => ?_))))
 clear bm69
 refine jn (jbn ?_)
 have hst : m74 = insS b m := (by (try simp only [hm19,hm62,hm65,hm69,hm74] at hc1 hc3); (try simp only [hm19,hm62,hm65,hm69,hm74]); all_goals first | rfl | (simp [insS,hc1,hc3]; done) | (simp [insS,hc1,hc3]; rfl))
 exact jd0 Z (ua74,qs74) Z dn (fun _ _ => (kcb (by rw [← hst]) k0 (kcg (by rw [← hst]) k0 (kck (by rw [← hst]) k0 kn))))
 refine jq (jr (jm Z (js (jeql Z Z) (ja Z (jn (jx ?_))))))
 refine jif Z (fun hc4 => ?_) (fun hc4 => ?_)
 refine jq (jr (jm Z (jm Z (jkb E119 Z Z (m3some_ct om19 (by omega) b (by first | exact hb9 | decide | omega)) (dc d0 dn) (kd (kc k0 kn)) ⟨some_ok om19.1 hbn,(someS_s.trans om19.2)⟩ p1 fun m80 hm80 om80 bm80 ua80 qs80 w27 => ?_))))
 clear bm19
 refine ja Z (jn (jx (jq (jr (jm Z (jm Z (jm Z (jkr E47 Z Z (m3take_ct om80 (by omega) 12 (by first | exact hb9 | decide | omega)) (dc d1 dn) (kd (kc k0 kn)) ⟨tO9 om80.1,om80.2⟩ fun m84 hm84 om84 bm84 => ?_))))))))
 have w84_0 : IntKind.i64.wrap (tVV 12 m80) = tVV 12 m80 := (IntWalk.i64_in _ (by have h9 := @tV9 12 (by omega) m80; omega))
 have tr84 := @tV9 12 (by omega) m80
 clear bm80
 refine js (jco U3 U21 Z Z) (jkb E70 Z Z (m3const_ct om84 (by omega) b (IntKind.i32.wrap (tVV 12 m80)) (by first | exact hb9 | decide | omega) (JE.wrap_wrap _ _)) (dc d1 dn) (kd (kc k0 kn)) ⟨const_ok om84.1 hbn,(constS_s.trans om84.2)⟩ p1 fun m86 hm86 om86 bm86 ua86 qs86 w29 => ?_)
 clear bm84
 refine ja Z (jn (jx (jq (jq (jr (jm Z (jkr E47 Z Z (m3take_ct om86 (by omega) 3 (by first | exact hb9 | decide | omega)) (dc d2 dn) (kd (kc k0 kn)) ⟨tO9 om86.1,om86.2⟩ fun m88 hm88 om88 bm88 => ?_)))))))
 have w88_0 : IntKind.i64.wrap (tVV 3 m86) = tVV 3 m86 := (IntWalk.i64_in _ (by have h9 := @tV9 3 (by omega) m86; omega))
 have tr88 := @tV9 3 (by omega) m86
 clear bm86
 refine js (jgtr Z Z) (jn (jx ?_))
 refine jif Z (fun hc5 => ?_) (fun hc5 => ?_)
 refine jr (jm Z (jm Z (jm Z (jkr E47 Z Z (m3take_ct om88 (by omega) 12 (by first | exact hb9 | decide | omega)) (dc d2 dn) (kd (kc k0 kn)) ⟨tO9 om88.1,om88.2⟩ fun m93 hm93 om93 bm93 => ?_))))
 have w93_0 : IntKind.i64.wrap (tVV 12 m88) = tVV 12 m88 := (IntWalk.i64_in _ (by have h9 := @tV9 12 (by omega) m88; omega))
 have tr93 := @tV9 12 (by omega) m88
 clear bm88
 refine js (jco U3 U21 Z Z) (js (jaddw Z Z) (jkb E70 Z Z (m3const_ct om93 (by omega) b (IntKind.i32.wrap (1 + (IntKind.i32.wrap (tVV 12 m88)))) (by first | exact hb9 | decide | omega) (JE.wrap_wrap _ _)) (dc d2 dn) (kd (kc k0 kn)) ⟨const_ok om93.1 hbn,(constS_s.trans om93.2)⟩ p1 fun m96 hm96 om96 bm96 ua96 qs96 w31 => ?_))
 clear bm93
 refine ja Z (jn (jx (jr (jm Z (jm Z (jm Z (jkr E64 Z Z (m3fresh_ct om96 (by omega)) (dc d3 dn) (kd (kc k0 kn)) ⟨fresh_ok om96.1,om96.2⟩ fun m100 hm100 om100 bm100 => ?_)))))))
 have w100_0 : IntKind.i64.wrap (m96.nx) = m96.nx := (IntWalk.i64_in _ (by omega))
 clear bm96
 refine jm Z (jm Z (jlit (r := (rI .i64)) (l := [sV9 m19,m93.nx]) U22 I3 (by decide) Z Z Z (lV Z Z (wI ((wfw d2))) (lV Z Z (wI ((wfw d0))) ln)) fun g103 => js (jbu (v := .agg #[.int .i64 14,.int .i64 m96.nx,.int .i64 0,(.slice (some ⟨g103,0,none⟩) 2 2),.int .i32 0]) Z (fun _ => by kernel_rfl)) (jfz k0 (by (try simp) <;> omega) (jkb E120 Z Z (m3add_ct (i := ⟨14,m96.nx,0,[sV9 m19,m93.nx],0⟩) om100 (by omega) b (by first | exact hb9 | decide | omega)) (dc d4 (dc (rIns.M (m := ⟨14,m96.nx,0,[sV9 m19,m93.nx],0⟩) (c := (.slice (some ⟨g103,0,none⟩) 2 2)) d0 (wl 14) (wp w100_0) (wl 0) (wl 0)) dn)) (kd (kc k0 kn)) ⟨add_ok om100.1 hbn,(addS_s.trans om100.2)⟩ p0 fun m105 hm105 om105 bm105 ua105 qs105 w34 => ?_))))
 clear bm100
 refine jn (jbn ?_)
 have hst : m105 = insS b m := (by (try simp only [hm19,hm80,hm84,hm86,hm88,hm93,hm96,hm100,hm105] at hc1 hc3 hc4 hc5); (try simp only [hm19,hm80,hm84,hm86,hm88,hm93,hm96,hm100,hm105]); all_goals first | rfl | (simp [insS,hc1,hc3,hc4,hc5]; done) | (simp [insS,hc1,hc3,hc4,hc5]; rfl))
 exact jd0 Z (ua105,qs105) Z dn (fun _ _ => (kcb (by rw [← hst]) k0 (kcg (by rw [← hst]) k0 (kck (by rw [← hst]) k0 kn))))
 refine jsk (jx (jr (jm Z (jm Z (jm Z (jkr E64 Z Z (m3fresh_ct om88 (by omega)) (dc d2 dn) (kd (kc k0 kn)) ⟨fresh_ok om88.1,om88.2⟩ fun m100 hm100 om100 bm100 => ?_))))))
 have w100_0 : IntKind.i64.wrap (m88.nx) = m88.nx := (IntWalk.i64_in _ (by omega))
 clear bm88
 refine jm Z (jm Z (jlit (r := (rI .i64)) (l := [sV9 m19,m84.nx]) U22 I3 (by decide) Z Z Z (lV Z Z (wI ((wfw d1))) (lV Z Z (wI ((wfw d0))) ln)) fun g103_35 => js (jbu (v := .agg #[.int .i64 14,.int .i64 m88.nx,.int .i64 0,(.slice (some ⟨g103_35,0,none⟩) 2 2),.int .i32 0]) Z (fun _ => by kernel_rfl)) (jfz k0 (by (try simp) <;> omega) (jkb E120 Z Z (m3add_ct (i := ⟨14,m88.nx,0,[sV9 m19,m84.nx],0⟩) om100 (by omega) b (by first | exact hb9 | decide | omega)) (dc d3 (dc (rIns.M (m := ⟨14,m88.nx,0,[sV9 m19,m84.nx],0⟩) (c := (.slice (some ⟨g103_35,0,none⟩) 2 2)) d0 (wl 14) (wp w100_0) (wl 0) (wl 0)) dn)) (kd (kc k0 kn)) ⟨add_ok om100.1 hbn,(addS_s.trans om100.2)⟩ p0 fun m105 hm105 om105 bm105 ua105 qs105 w37 => ?_))))
 clear bm100
 refine jn (jbn ?_)
 have hst : m105 = insS b m := (by (try simp only [hm19,hm80,hm84,hm86,hm88,hm100,hm105] at hc1 hc3 hc4 hc5); (try simp only [hm19,hm80,hm84,hm86,hm88,hm100,hm105]); all_goals first | rfl | (simp [insS,hc1,hc3,hc4,hc5]; done) | (simp [insS,hc1,hc3,hc4,hc5]; rfl))
 exact jd0 Z (ua105,qs105) Z dn (fun _ _ => (kcb (by rw [← hst]) k0 (kcg (by rw [← hst]) k0 (kck (by rw [← hst]) k0 kn))))
 refine jq (jr (jm Z (js (jlss Z Z) (ja Z (jn (jx ?_))))))
 refine jif Z (fun hc6 => ?_) (fun hc6 => ?_)
 refine jr (jm Z (jm Z (jm Z (js (jeql Z Z) (jkb E121 Z Z (m3mem_ct om19 (by omega) b (decide (tVV 20 m = 15)) (by first | exact hb9 | decide | omega)) (dc d0 dn) (kd (kc k0 kn)) ⟨mem_ok om19.1 hbn,(memS_s.trans om19.2)⟩ p0 fun m113 hm113 om113 bm113 ua113 qs113 w38 => ?_)))))
 clear bm19
 refine jn (jbn ?_)
 have hst : m113 = insS b m := (by (try simp only [hm19,hm113] at hc1 hc3 hc4 hc6); (try simp only [hm19,hm113]); all_goals first | rfl | (simp [insS,hc1,hc3,hc4,hc6]; done) | (simp [insS,hc1,hc3,hc4,hc6]; rfl))
 exact jd0 Z (ua113,qs113) Z dn (fun _ _ => (kcb (by rw [← hst]) k0 (kcg (by rw [← hst]) k0 (kck (by rw [← hst]) k0 kn))))
 refine jq (jr (jm Z (js (jeql Z Z) (ja Z (jn (jx ?_))))))
 refine jif Z (fun hc7 => ?_) (fun hc7 => ?_)
 refine jq (jr (jlit (r := (rI .i64)) (l := []) U22 I3 (by decide) Z Z Z ln fun g117 => ja Z (jn (jx (jq (jr (jm Z (jkr E47 Z Z (m3take_ct om19 (by omega) 5 (by first | exact hb9 | decide | omega)) (dc d0 dn) (kc k1 (kc k1 (kc k1 kn))) ⟨tO9 om19.1,om19.2⟩ fun m119 hm119 om119 bm119 => ?_))))))))
 have w119_0 : IntKind.i64.wrap (tVV 5 m19) = tVV 5 m19 := (IntWalk.i64_in _ (by have h9 := @tV9 5 (by omega) m19; omega))
 have tr119 := @tV9 5 (by omega) m19
 clear bm19
 refine ja Z (jn (jx (jq (jq (jr (ja Z (jn (jx (jb ?_)))))))))
 refine jlp (u6 fun (i : Nat) (l : List Int) (v : Value) (mm : Mk) (al1 : Value) (qs1 : List BV) => ⟨i ≤ (tVV 5 m19).toNat ∧ argsL b (tVV 5 m19).toNat [] m119 = argsL b ((tVV 5 m19).toNat - i) l mm ∧ l.length = i ∧ okS nb (c + 20 + 8 * i) S mm,[dv (rL (rI .i64)) vs S],[bx g0 108 [vs,.int .i64 mm.k,.int .i64 mm.par,vb,.int .i64 mm.nx,al1],gl B0 (rI .i64) 3 al1 mm.lv,bk B1 vb qs1 mm.bs,gl X.n (rI .i64) 3 v l],[(0,.pointer (some ⟨g0,0,none⟩)),(1,.int .i64 b),(12,v),(13,.int .i64 (tVV 5 m19)),(14,.int .i64 (↑i))],(tVV 5 m19).toNat - i⟩) (0,[],(.slice (some ⟨g117,0,none⟩) 0 0),m119,al,qs) ⟨by omega,rfl,rfl,om119.mono (by omega)⟩ (dc d0 dn) (kd (kd kn)) ⟨Z,Z,Z,Z,eqI (by omega),trivial⟩ ?_
 rintro ⟨i,l,v,mm,al1,qs1⟩; dsimp only [u6]; rintro ⟨hi,hR,hl,okL1⟩
 refine cgo k3 fun w39 => cgo k1 fun w40 => ?_
 have bdL1 := okM.bnd okL1.1
 clear bm119
 refine jq (jq (jr (jm Z (jm Z (js (jlss Z Z) (jn (jx ?_)))))))
 refine jif Z (fun hc8 => ?_) (fun hc8 => ?_)
 refine jsk (jx (jq (jb (jr (jm Z (jm Z (jm Z (jkb E119 Z Z (m3some_ct okL1 (by omega) b (by first | exact hb9 | decide | omega)) (dc d0 dn) (kd (kc k0 kn)) ⟨some_ok okL1.1 hbn,(someS_s.trans okL1.2)⟩ p1 fun m128 hm128 om128 bm128 ua128 qs128 w41 => ?_))))))))
 clear bdL1
 refine japv U22 I3 (by decide) Z Z k3 Z (wI ((wfw d0))) (by omega) (fun _ => Z) fun v130 _ w43 => ja Z (jn (jbn (jx (jr (jm Z (js (jadd Z Z (by omega)) (ja Z (jn ?_))))))))
 exact jag (i + 1,l ++ [sV9 mm],v130,m128,ua128,qs128) ⟨by dsimp only; omega,by dsimp only; rw [hR,show (tVV 5 m19).toNat - i = ((tVV 5 m19).toNat - (i + 1)) + 1 by omega,argsL,hm128],by simp; omega,om128.mono (by omega)⟩ (dc d1 dn) (kc k1 (kc k1 (kc k1 (kc k0 kn)))) ⟨Z,Z,Z,Z,eqI (by omega),trivial⟩
 refine jex (jtx (jtx (jbh (jx (jr (jm Z (jm Z (jm Z (jkr E64 Z Z (m3fresh_ct okL1 (by omega)) (dc d0 dn) (kd (kc k0 kn)) ⟨fresh_ok okL1.1,okL1.2⟩ fun m134 hm134 om134 bm134 => ?_)))))))))
 have w134_0 : IntKind.i64.wrap (mm.nx) = mm.nx := (IntWalk.i64_in _ (by omega))
 clear bdL1
 refine jm Z (jm Z (jkr E47 Z Z (m3take_ct om134 (by omega) 5 (by first | exact hb9 | decide | omega)) (dc d0 dn) (kd (kc k0 kn)) ⟨tO9 om134.1,om134.2⟩ fun m137 hm137 om137 bm137 => ?_))
 have w137_0 : IntKind.i64.wrap (tVV 5 m134) = tVV 5 m134 := (IntWalk.i64_in _ (by have h9 := @tV9 5 (by omega) m134; omega))
 have tr137 := @tV9 5 (by omega) m134
 clear bm134
 refine js (jco U3 U21 Z Z) (js (jbu (v := .agg #[.int .i64 17,.int .i64 mm.nx,.int .i64 0,v,.int .i32 (IntKind.i32.wrap (tVV 5 m134))]) Z (fun _ => by obtain ⟨_,_,_,rfl⟩ := w39; kernel_rfl)) (jfz k3 (by omega) (jkb E120 Z Z (m3add_ct (i := ⟨17,mm.nx,0,l,IntKind.i32.wrap (tVV 5 m134)⟩) om137 (by omega) b (by first | exact hb9 | decide | omega)) (dc d1 (dc (rIns.M (m := ⟨17,mm.nx,0,l,IntKind.i32.wrap (tVV 5 m134)⟩) (c := v) d0 (wl 17) (wp w134_0) (wl 0) (wp (JE.wrap_wrap _ _))) dn)) (kd (kc k0 kn)) ⟨add_ok om137.1 hbn,(addS_s.trans om137.2)⟩ p0 fun m140 hm140 om140 bm140 ua140 qs140 w45 => ?_)))
 clear bm137
 refine jn (jbn ?_)
 have hst : m140 = insS b m := (by have hE : argsL b (tVV 5 m19).toNat [] m119 = (l,mm) := (by rw [hR,show (tVV 5 m19).toNat - i = 0 by omega]; rfl); (try simp only [hm19,hm119,hm134,hm137,hm140] at hE hc1 hc3 hc4 hc6 hc7 hc8); (try simp only [hm19,hm119,hm134,hm137,hm140]); simp [insS,hc1,hc3,hc4,hc6,hc7,hc8,hE])
 exact jd0 Z (ua140,qs140) Z dn (fun _ _ => (kcb (by rw [← hst]) k0 (kcg (by rw [← hst]) k0 (kck (by rw [← hst]) k0 kn))))
 refine jq (jr (jm Z (js (jeql Z Z) (ja Z (jn (jx ?_))))))
 refine jif Z (fun hc9 => ?_) (fun hc9 => ?_)
 refine jq (jr (jm Z (jm Z (jkb E119 Z Z (m3some_ct om19 (by omega) b (by first | exact hb9 | decide | omega)) (dc d0 dn) (kd (kc k0 kn)) ⟨some_ok om19.1 hbn,(someS_s.trans om19.2)⟩ p1 fun m146 hm146 om146 bm146 ua146 qs146 w46 => ?_))))
 clear bm19
 refine ja Z (jn (jx (jq (jr (jm Z (jm Z (jkb E119 Z Z (m3some_ct om146 (by omega) b (by first | exact hb9 | decide | omega)) (dc d1 dn) (kd (kc k0 kn)) ⟨some_ok om146.1 hbn,(someS_s.trans om146.2)⟩ p1 fun m149 hm149 om149 bm149 ua149 qs149 w48 => ?_)))))))
 clear bm146
 refine ja Z (jn (jx (jq (jr (jm Z (jkr E64 Z Z (m3fresh_ct om149 (by omega)) (dc d2 dn) (kd (kc k0 kn)) ⟨fresh_ok om149.1,om149.2⟩ fun m151 hm151 om151 bm151 => ?_))))))
 have w151_0 : IntKind.i64.wrap (m149.nx) = m149.nx := (IntWalk.i64_in _ (by omega))
 clear bm149
 refine ja Z (jn (jx (jr (jm Z (jm Z (jm Z (jm Z (jkr E64 Z Z (m3fresh_ct om151 (by omega)) (dc d2 dn) (kd (kc k0 kn)) ⟨fresh_ok om151.1,om151.2⟩ fun m156 hm156 om156 bm156 => ?_))))))))
 have w156_0 : IntKind.i64.wrap (m151.nx) = m151.nx := (IntWalk.i64_in _ (by omega))
 clear bm151
 refine jm Z (jm Z (jlit (r := (rI .i64)) (l := [sV9 m19,sV9 m146]) U22 I3 (by decide) Z Z Z (lV Z Z (wI ((wfw d1))) (lV Z Z (wI ((wfw d0))) ln)) fun g159 => js (jbu (v := .agg #[.int .i64 18,.int .i64 m149.nx,.int .i64 m151.nx,(.slice (some ⟨g159,0,none⟩) 2 2),.int .i32 0]) Z (fun _ => by kernel_rfl)) (jfz k0 (by (try simp) <;> omega) (jkb E120 Z Z (m3add_ct (i := ⟨18,m149.nx,m151.nx,[sV9 m19,sV9 m146],0⟩) om156 (by omega) b (by first | exact hb9 | decide | omega)) (dc d3 (dc (rIns.M (m := ⟨18,m149.nx,m151.nx,[sV9 m19,sV9 m146],0⟩) (c := (.slice (some ⟨g159,0,none⟩) 2 2)) d0 (wl 18) (wp w151_0) (wp w156_0) (wl 0)) dn)) (kd (kc k0 kn)) ⟨add_ok om156.1 hbn,(addS_s.trans om156.2)⟩ p0 fun m161 hm161 om161 bm161 ua161 qs161 w51 => ?_))))
 clear bm156
 refine jn (jbn ?_)
 have hst : m161 = insS b m := (by (try simp only [hm19,hm146,hm149,hm151,hm156,hm161] at hc1 hc3 hc4 hc6 hc7 hc9); (try simp only [hm19,hm146,hm149,hm151,hm156,hm161]); all_goals first | rfl | (simp [insS,hc1,hc3,hc4,hc6,hc7,hc9]; done) | (simp [insS,hc1,hc3,hc4,hc6,hc7,hc9]; rfl))
 exact jd0 Z (ua161,qs161) Z dn (fun _ _ => (kcb (by rw [← hst]) k0 (kcg (by rw [← hst]) k0 (kck (by rw [← hst]) k0 kn))))
 refine jr (jm Z (jm Z (jm Z (jkr E71 Z Z (m3word_ct om19 (by omega)) (dc d0 dn) (kd (kc k0 kn)) ⟨word_ok om19.1,om19.2⟩ fun m23 hm23 om23 bm23 => ?_))))
 have w23_0 : IntKind.i32.wrap (wordV m19) = wordV m19 := (word_w m19)
 clear bm19
 refine jkb E70 Z Z (m3const_ct om23 (by omega) b (wordV m19) (by first | exact hb9 | decide | omega) w23_0) (dc d0 dn) (kd (kc k0 kn)) ⟨const_ok om23.1 hbn,(constS_s.trans om23.2)⟩ p1 fun m24 hm24 om24 bm24 ua24 qs24 w52 => ?_
 clear bm23
 refine jn (jbn ?_)
 have hst : m24 = insS b m := (by (try simp only [hm19,hm23,hm24] at hc1 hc3 hc4 hc6 hc7 hc9); (try simp only [hm19,hm23,hm24]); all_goals first | rfl | (simp [insS,hc1,hc3,hc4,hc6,hc7,hc9]; done) | (simp [insS,hc1,hc3,hc4,hc6,hc7,hc9]; rfl))
 exact jd0 Z (ua24,qs24) Z dn (fun _ _ => (kcb (by rw [← hst]) k0 (kcg (by rw [← hst]) k0 (kck (by rw [← hst]) k0 kn))))
def tgA : Nat → Int → List (List Int) → Mk → List (List Int) × Mk
 | 0,_,to,m => (to,m)
 | k + 1,b,to,m =>
   if tVV 3 m = 0 then tgA k (b + 1) (to.set (tVV b (tSS m)).toNat (to.getD (tVV b (tSS m)).toNat [] ++ [b])) (tSS (tSS m))
   else tgA k (b + 1) (to.set (b - 1).toNat (to.getD (b - 1).toNat [] ++ [b])) (tSS m)
def tgX (n b : Int) (m : Mk) : Int × Mk :=
 if 1 + tVV (n - 1) m ≤ b then
   if tVV 2 (tSS m) = 0 then (min (b + 1) (n - 1),tSS (tSS m)) else (1 + tVV (n - 1) m,tSS (tSS m))
 else (1 + tVV (n - 1) m,tSS m)
def tgI (n b : Int) : Nat → List (List Int) → Mk → List (List Int) × Mk
 | 0,to,m => (to,m)
 | k + 1,to,m => tgI n b k (to.set b.toNat (to.getD b.toNat [] ++ [(tgX n b m).1])) (tgX n b m).2
def tgB (n : Int) : Nat → Int → List (List Int) → Mk → List (List Int) × Mk
 | 0,_,to,m => (to,m)
 | k + 1,b,to,m => tgB n k (b + 1) (tgI n b (if 1 < n then (tVV 6 m - 3).toNat else 0) to (tSS m)).1 (tgI n b (if 1 < n then (tVV 6 m - 3).toNat else 0) to (tSS m)).2
def targA (n : Int) (m : Mk) : List (List Int) × Mk := tgA (n.toNat - 1) 1 (List.replicate n.toNat []) m
def targM (n : Int) (m : Mk) : List (List Int) × Mk := tgB n n.toNat 0 (targA n m).1 (targA n m).2
theorem rows_set {ls : List (List Int)} {B : Nat} (h : ∀ j,(ls.getD j []).length ≤ B) (p : Nat) (x : Int) : ∀ j,((ls.set p (ls.getD p [] ++ [x])).getD j []).length ≤ B + 1 := by
 intro j
 by_cases e : p = j
 · subst e
   by_cases hp : p < ls.length
   · have := h p; simp [List.getD,hp] at *; omega
   · simp [List.getD,hp]
 · have := h j; simp [List.getD,List.getElem?_set_ne e] at *; omega
theorem rows_mono {ls : List (List Int)} {B C : Nat} (h : ∀ j,(ls.getD j []).length ≤ B) (hc : B ≤ C) : ∀ j,(ls.getD j []).length ≤ C := fun j => Nat.le_trans (h j) hc
theorem rows_rep {n B : Nat} : ∀ j,((List.replicate n ([] : List Int)).getD j []).length ≤ B := by intro j; by_cases h : j < n <;> simp [List.getD,h]
section
variable {nb c : Nat} {m : Mk}
theorem tgA_ok : ∀ (k : Nat) (b : Int) (to : List (List Int)) {c : Nat} {m : Mk},okM nb c m → okM nb (c + 2 * k) (tgA k b to m).2
 | 0,_,_,_,_,h => h
 | k + 1,b,to,c,m,h => by
   unfold tgA; split
   · exact (tgA_ok k _ _ (tO9 (tO9 h))).mono (by omega)
   · exact (tgA_ok k _ _ (tO9 h)).mono (by omega)
theorem tgX_ok {n b : Int} (h : okM nb c m) : okM nb (c + 2) (tgX n b m).2 := by
 unfold tgX; (repeat' split)
 · exact tO9 (tO9 h)
 · exact tO9 (tO9 h)
 · exact (tO9 h).mono (by omega)
theorem tgI_ok {n b : Int} : ∀ (k : Nat) (to : List (List Int)) {c : Nat} {m : Mk},okM nb c m → okM nb (c + 2 * k) (tgI n b k to m).2
 | 0,_,_,_,h => h
 | k + 1,to,c,m,h => by unfold tgI; exact (tgI_ok k _ (tgX_ok h)).mono (by omega)
theorem tgB_ok {n : Int} : ∀ (k : Nat) (b : Int) (to : List (List Int)) {c : Nat} {m : Mk},okM nb c m → okM nb (c + 5 * k) (tgB n k b to m).2
 | 0,_,_,_,_,h => h
 | k + 1,b,to,c,m,h => by
   unfold tgB
   have h6 := tV9 (n := 6) (by omega) m
   refine (tgB_ok k (b + 1) _ (c := c + 5) ?_).mono (by omega)
   exact (tgI_ok _ to (tO9 h)).mono (by split <;> omega)
theorem targ_ok {n : Int} (h : okM nb c m) (hn : n ≤ 9) : okM nb (c + 70) (targM n m).2 := (tgB_ok _ _ _ (tgA_ok _ _ _ h)).mono (by omega)
end
theorem tgA_len : ∀ (k : Nat) (b : Int) (to : List (List Int)) (m : Mk),(tgA k b to m).1.length = to.length
 | 0,_,_,_ => rfl
 | k + 1,b,to,m => by unfold tgA; split <;> rw [tgA_len k] <;> simp
theorem tgI_len {n b : Int} : ∀ (k : Nat) (to : List (List Int)) (m : Mk),(tgI n b k to m).1.length = to.length
 | 0,_,_ => rfl
 | k + 1,to,m => by unfold tgI; rw [tgI_len k]; simp
theorem tgB_len {n : Int} : ∀ (k : Nat) (b : Int) (to : List (List Int)) (m : Mk),(tgB n k b to m).1.length = to.length
 | 0,_,_,_ => rfl
 | k + 1,b,to,m => by unfold tgB; rw [tgB_len k,tgI_len]
theorem targM_len (n : Int) (m : Mk) : (targM n m).1.length = n.toNat := by unfold targM targA; rw [tgB_len,tgA_len]; simp
theorem tgX_k {n b : Int} (m : Mk) : ∃ k,(tgX n b m).2 = { m with k := k } := by unfold tgX; (repeat' split); exact ⟨_,rfl⟩; exact ⟨_,rfl⟩; exact ⟨_,rfl⟩
theorem tgA_k : ∀ (k : Nat) (b : Int) (to : List (List Int)) (m : Mk),∃ q,(tgA k b to m).2 = { m with k := q }
 | 0,_,_,m => ⟨m.k,rfl⟩
 | k + 1,b,to,m => by
   unfold tgA; split
   · obtain ⟨q,hq⟩ := tgA_k k (b + 1) (to.set (tVV b (tSS m)).toNat (to.getD (tVV b (tSS m)).toNat [] ++ [b])) (tSS (tSS m)); exact ⟨q,hq⟩
   · obtain ⟨q,hq⟩ := tgA_k k (b + 1) (to.set (b - 1).toNat (to.getD (b - 1).toNat [] ++ [b])) (tSS m); exact ⟨q,hq⟩
theorem tgI_k {n b : Int} : ∀ (k : Nat) (to : List (List Int)) (m : Mk),∃ q,(tgI n b k to m).2 = { m with k := q }
 | 0,_,m => ⟨m.k,rfl⟩
 | k + 1,to,m => by
   unfold tgI
   obtain ⟨q,hq⟩ := tgI_k k (to.set b.toNat (to.getD b.toNat [] ++ [(tgX n b m).1])) (tgX n b m).2
   obtain ⟨q2,hq2⟩ := tgX_k (n := n) (b := b) m
   rw [hq,hq2]; exact ⟨q,rfl⟩
theorem tgB_k {n : Int} : ∀ (k : Nat) (b : Int) (to : List (List Int)) (m : Mk),∃ q,(tgB n k b to m).2 = { m with k := q }
 | 0,_,_,m => ⟨m.k,rfl⟩
 | k + 1,b,to,m => by
   unfold tgB
   obtain ⟨q,hq⟩ := tgB_k (n := n) k (b + 1) (tgI n b (if 1 < n then (tVV 6 m - 3).toNat else 0) to (tSS m)).1 (tgI n b (if 1 < n then (tVV 6 m - 3).toNat else 0) to (tSS m)).2
   obtain ⟨q2,hq2⟩ := tgI_k (n := n) (b := b) (if 1 < n then (tVV 6 m - 3).toNat else 0) to (tSS m)
   rw [hq,hq2]; exact ⟨q,rfl⟩
theorem targM_k (n : Int) (m : Mk) : ∃ q,(targM n m).2 = { m with k := q } := by
 obtain ⟨q,hq⟩ := tgB_k (n := n) n.toNat 0 (targA n m).1 (targA n m).2
 obtain ⟨q2,hq2⟩ := tgA_k (n.toNat - 1) 1 (List.replicate n.toNat []) m
 exact ⟨q,by rw [targM,hq]; rw [show (targA n m).2 = _ from hq2]⟩
theorem targM_s {n : Int} {m : Mk} : (targM n m).2.s = m.s := by obtain ⟨q,h⟩ := targM_k n m; rw [h]
theorem targM_lv {n : Int} {m : Mk} : (targM n m).2.lv = m.lv := by obtain ⟨q,h⟩ := targM_k n m; rw [h]
theorem targM_bs {n : Int} {m : Mk} : (targM n m).2.bs = m.bs := by obtain ⟨q,h⟩ := targM_k n m; rw [h]
end Go.Proofs.YtmfkkodnghambaaGreat
