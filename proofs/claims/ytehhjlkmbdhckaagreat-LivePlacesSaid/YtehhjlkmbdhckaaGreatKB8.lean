/- Lemmas that the claim is made of. Conditions: each lemma names its own. -/
import Derived.Test.YtehhjlkmbdhckaaGreatKB7
set_option linter.unusedSectionVars false
set_option linter.unusedSimpArgs false
set_option linter.unusedVariables false
namespace Go.Proofs.YtehhjlkmbdhckaaGreat
open Go.JE
abbrev U199 := @Tryz.underlying199
theorem E150 : Ent Tryz.prog 150 := ⟨_, Tryz.func150, by kernel_rfl, by kernel_rfl⟩
theorem Z199 : Sz Tryz.prog 199 12 := by unfold Sz; kernel_rfl
theorem J199 : (Tryz.prog.info? 199).bind (·.zero) = some (.agg #[.int .i64 0, .int .i64 0, .int .i64 0, .int .i64 0, .int .i64 0, .int .i64 0, .int .i64 0, .int .i64 0, .int .i64 0, .int .i64 0, .int .i64 0, .int .i64 0]) := by kernel_rfl
set_option maxRecDepth 4000 in
theorem m3ins_ct {vs vb al : Value} {m : Mk} {nb c : Nat} {S : List Int} {g0 : Nat} {B0 B1 : Nat} {qs : List BV} (hok : okS nb c S m) (hc : c ≤ 900000) (b : Int) (hb9 : 0 ≤ b ∧ b < nb) : KB Tryz.prog 102 [.int .i64 b] [] g0 vs vb al S B0 B1 qs [] m (insS b m) (.tuple #[]) := by
  refine jenter (args := [.pointer (some ⟨g0, 0, none⟩), .int .i64 b]) Tryz.func102 rfl rfl rfl fun w0 X => ?_
  refine cgo k1 fun w1 => ?_
  have bd0 := okM.bnd hok.1
  refine cbk k2 (okM.bnd hok.1).2.2.2.2.2.2.2.1 fun hvb => ?_
  have hbn : b.toNat < nb := by omega
  refine jq (jr (jm Z (jkr E54 Z Z (m3take_ct hok (by omega) 20 (by first | exact hb9 | decide | omega)) (dc d0 dn) (kd (kc k0 kn)) ⟨take_ok hok.1, hok.2⟩ fun m19 hm19 om19 bm19 => ?_)))
  have w19_0 : IntKind.i64.wrap (takeV 20 m) = takeV 20 m := (IntWalk.i64_in _ (by have h9 := @takeV_rng 20 (by omega) m; omega))
  have tr19 := @takeV_rng 20 (by omega) m
  clear bd0
  refine ja Z (jn (jx (jb (jq (jr (jm Z (js (jlss Z Z) (ja Z (jn (jx ?_))))))))))
  refine jif Z (fun hc1 => ?_) (fun hc1 => ?_)
  refine jq (jr (js (jbu (v := .agg #[.int .i64 2, .int .i64 2, .int .i64 3, .int .i64 4, .int .i64 5, .int .i64 6, .int .i64 7, .int .i64 8, .int .i64 9, .int .i64 10, .int .i64 12, .int .i64 11]) Z (fun _ => by kernel_rfl)) (jalc J199 Z fun g5 => jsta k0 Z199 Z Z Z ⟨Z, Z, Z, Z, Z, Z, Z, Z, Z, Z, Z, Z, trivial⟩ (saf Z) (jn (jx (jq (jr (jm Z (jm Z (jkb E148 Z Z (m3some_ct om19 (by omega) b (by first | exact hb9 | decide | omega)) (dc d0 dn) (kc k1 (kc k1 (kc k1 kn))) ⟨some_ok om19.1 hbn, (someS_s.trans om19.2)⟩ p1 fun m31 hm31 om31 bm31 ua31 qs31 w2 => ?_))))))))))
  clear bm19
  refine ja Z (jn (jx (jq (jr (jm Z (jm Z (jkb E148 Z Z (m3some_ct om31 (by omega) b (by first | exact hb9 | decide | omega)) (dc d1 dn) (kd (kc k0 kn)) ⟨some_ok om31.1 hbn, (someS_s.trans om31.2)⟩ p1 fun m34 hm34 om34 bm34 ua34 qs34 w4 => ?_)))))))
  clear bm31
  refine ja Z (jn (jx (jq (jq (jr (jm Z (jkr E54 Z Z (m3take_ct om34 (by omega) 3 (by first | exact hb9 | decide | omega)) (dc d2 dn) (kd (kc k0 kn)) ⟨take_ok om34.1, om34.2⟩ fun m36 hm36 om36 bm36 => ?_)))))))
  have w36_0 : IntKind.i64.wrap (takeV 3 m34) = takeV 3 m34 := (IntWalk.i64_in _ (by have h9 := @takeV_rng 3 (by omega) m34; omega))
  have tr36 := @takeV_rng 3 (by omega) m34
  clear bm34
  refine js (jeql Z Z) (jn (jx ?_))
  refine jif Z (fun hc2 => ?_) (fun hc2 => ?_)
  refine jr (jm Z (jm Z (jm Z (jkr E54 Z Z (m3take_ct om36 (by omega) 40 (by first | exact hb9 | decide | omega)) (dc d2 dn) (kd (kc k0 kn)) ⟨take_ok om36.1, om36.2⟩ fun m41 hm41 om41 bm41 => ?_))))
  have w41_0 : IntKind.i64.wrap (takeV 40 m36) = takeV 40 m36 := (IntWalk.i64_in _ (by have h9 := @takeV_rng 40 (by omega) m36; omega))
  have tr41 := @takeV_rng 40 (by omega) m36
  clear bm36
  refine js (jsub Z Z (by omega)) (js (jco U3 U21 Z Z) (jkb E105 Z Z (m3const_ct om41 (by omega) b (IntKind.i32.wrap ((takeV 40 m36) - 8)) (by first | exact hb9 | decide | omega) (wrap_wrap _ _)) (dc d2 dn) (kd (kc k0 kn)) ⟨const_ok om41.1 hbn, (constS_s.trans om41.2)⟩ p1 fun m44 hm44 om44 bm44 ua44 qs44 w6 => ?_))
  clear bm41
  refine ja Z (jn (jx (jany true (.a 0 (.a 1 (.a 2 (.a 3 (.a 4 (.a 5 (.a 7 (.a 8 (.w 6 9 (.o 9 (.a 10 (.o 11 .e))) (.o 6 (.a 10 (.o 11 .e)))))))))))) Mixed (by kernel_rfl) (kc k3 kn) fun F8 => jy Z (jmv Z) (jy Z (jmv Z) (jy Z (jmv Z) (jy Z (jixa (i := (Int.toNat (takeV 20 m))) U199 Z3 Z Z (by omega) (by omega)) (jy Z (jli (i := (Int.toNat (takeV 20 m))) (l := [2, 2, 3, 4, 5, 6, 7, 8, 9, 10, 12, 11]) k0 (by show _ < 12; omega) (by omega) O3 Z) (jy Z (jmv Z) (jy Z (jmv Z) (jy Z (jmv Z) ?_))))))))))
  refine jyw Z Z ?_ ?_
  refine jkr E99 Z Z (m3fresh_ct om44 (by omega)) (dc d4 dn) (kd (kc k0 kn)) ⟨fresh_ok om44.1, om44.2⟩ fun m51 hm51 om51 bm51 => ?_
  have w51_0 : IntKind.i64.wrap (m44.nx) = m44.nx := (IntWalk.i64_in _ (by omega))
  clear bm44
  refine jyn d0 (kc k3 kn) (jyo Z (jlit (r := (rI .i64)) (l := [someV m19, m41.nx]) U22 I3 (by decide) Z Z Z (lV Z Z (wI ((wfw d4))) (lV Z Z (wI ((wfw d2))) ln)) fun g54 => jyn d0 (kc k4 kn) (jy Z (jbu (v := .agg #[.int .i64 (ix [2, 2, 3, 4, 5, 6, 7, 8, 9, 10, 12, 11] (Int.toNat (takeV 20 m))), .int .i64 m44.nx, .int .i64 0, (.slice (some ⟨g54, 0, none⟩) 2 2), .int .i32 0]) Z (fun _ => by kernel_rfl)) (jyo Z (jfz k0 (by (try simp) <;> omega) (jkb E149 Z Z (m3add_ct (i := ⟨ix [2, 2, 3, 4, 5, 6, 7, 8, 9, 10, 12, 11] (Int.toNat (takeV 20 m)), m44.nx, 0, [someV m19, m41.nx], 0⟩) om51 (by omega) b (by first | exact hb9 | decide | omega)) (dc d7 (dc (rIns.M (m := ⟨ix [2, 2, 3, 4, 5, 6, 7, 8, 9, 10, 12, 11] (Int.toNat (takeV 20 m)), m44.nx, 0, [someV m19, m41.nx], 0⟩) (c := (.slice (some ⟨g54, 0, none⟩) 2 2)) d0 (wp (ix_w (l := [2, 2, 3, 4, 5, 6, 7, 8, 9, 10, 12, 11]) (by decide) (by decide) (Int.toNat (takeV 20 m)))) (wp w51_0) (wl 0) (wl 0)) dn)) (kd (kc k0 kn)) ⟨add_ok om51.1 hbn, (addS_s.trans om51.2)⟩ p0 fun m56 hm56 om56 bm56 ua56 qs56 w13 => ?_))))))
  clear bm51
  refine jyz d1 (jyd (jbn ?_))
  have hst : m56 = insS b m := (by (try simp only [hm19, hm31, hm34, hm36, hm41, hm44, hm51, hm56] at hc1 hc2); (try simp only [hm19, hm31, hm34, hm36, hm41, hm44, hm51, hm56]); all_goals first | rfl | (simp [insS, hc1, hc2]; done) | (simp [insS, hc1, hc2]; rfl))
  exact jd0 Z (ua56, qs56) Z dn (fun _ _ => (kcb (by rw [← hst]) k0 (kcg (by rw [← hst]) k0 (kck (by rw [← hst]) k0 kn))))
  refine jlit (r := (rI .i64)) (l := [someV m19, m41.nx]) U22 I3 (by decide) Z Z Z (lV Z Z (wI ((wfw d3))) (lV Z Z (wI ((wfw d1))) ln)) fun g54 => jyn d0 (kc k4 kn) (jyo Z (jkr E99 Z Z (m3fresh_ct om44 (by omega)) (dc d5 dn) (kc k1 (kc k1 (kc k1 kn))) ⟨fresh_ok om44.1, om44.2⟩ fun m51 hm51 om51 bm51 => ?_))
  have w51_0 : IntKind.i64.wrap (m44.nx) = m44.nx := (IntWalk.i64_in _ (by omega))
  clear bm44
  refine jyn d0 (kc k4 kn) (jy Z (jbu (v := .agg #[.int .i64 (ix [2, 2, 3, 4, 5, 6, 7, 8, 9, 10, 12, 11] (Int.toNat (takeV 20 m))), .int .i64 m44.nx, .int .i64 0, (.slice (some ⟨g54, 0, none⟩) 2 2), .int .i32 0]) Z (fun _ => by kernel_rfl)) (jyo Z (jfz k3 (by (try simp) <;> omega) (jkb E149 Z Z (m3add_ct (i := ⟨ix [2, 2, 3, 4, 5, 6, 7, 8, 9, 10, 12, 11] (Int.toNat (takeV 20 m)), m44.nx, 0, [someV m19, m41.nx], 0⟩) om51 (by omega) b (by first | exact hb9 | decide | omega)) (dc d7 (dc (rIns.M (m := ⟨ix [2, 2, 3, 4, 5, 6, 7, 8, 9, 10, 12, 11] (Int.toNat (takeV 20 m)), m44.nx, 0, [someV m19, m41.nx], 0⟩) (c := (.slice (some ⟨g54, 0, none⟩) 2 2)) d0 (wp (ix_w (l := [2, 2, 3, 4, 5, 6, 7, 8, 9, 10, 12, 11]) (by decide) (by decide) (Int.toNat (takeV 20 m)))) (wp w51_0) (wl 0) (wl 0)) dn)) (kd (kc k0 kn)) ⟨add_ok om51.1 hbn, (addS_s.trans om51.2)⟩ p0 fun m56 hm56 om56 bm56 ua56 qs56 w13 => ?_))))
  clear bm51
  refine jyz d1 (jyd (jbn ?_))
  have hst : m56 = insS b m := (by (try simp only [hm19, hm31, hm34, hm36, hm41, hm44, hm51, hm56] at hc1 hc2); (try simp only [hm19, hm31, hm34, hm36, hm41, hm44, hm51, hm56]); all_goals first | rfl | (simp [insS, hc1, hc2]; done) | (simp [insS, hc1, hc2]; rfl))
  exact jd0 Z (ua56, qs56) Z dn (fun _ _ => (kcb (by rw [← hst]) k0 (kcg (by rw [← hst]) k0 (kck (by rw [← hst]) k0 kn))))
  refine jsk (jx (jany true (.a 0 (.a 1 (.a 2 (.a 3 (.a 4 (.a 5 (.a 7 (.a 8 (.w 6 9 (.o 9 (.a 10 (.o 11 .e))) (.o 6 (.a 10 (.o 11 .e)))))))))))) Mixed (by kernel_rfl) (kc k3 kn) fun F14 => jy Z (jmv Z) (jy Z (jmv Z) (jy Z (jmv Z) (jy Z (jixa (i := (Int.toNat (takeV 20 m))) U199 Z3 Z Z (by omega) (by omega)) (jy Z (jli (i := (Int.toNat (takeV 20 m))) (l := [2, 2, 3, 4, 5, 6, 7, 8, 9, 10, 12, 11]) k0 (by show _ < 12; omega) (by omega) O3 Z) (jy Z (jmv Z) (jy Z (jmv Z) (jy Z (jmv Z) ?_)))))))))
  refine jyw Z Z ?_ ?_
  refine jkr E99 Z Z (m3fresh_ct om36 (by omega)) (dc d3 dn) (kd (kc k0 kn)) ⟨fresh_ok om36.1, om36.2⟩ fun m51 hm51 om51 bm51 => ?_
  have w51_0 : IntKind.i64.wrap (m36.nx) = m36.nx := (IntWalk.i64_in _ (by omega))
  clear bm36
  refine jyn d0 (kc k3 kn) (jyo Z (jlit (r := (rI .i64)) (l := [someV m19, someV m31]) U22 I3 (by decide) Z Z Z (lV Z Z (wI ((wfw d3))) (lV Z Z (wI ((wfw d2))) ln)) fun g54_17 => jyn d0 (kc k4 kn) (jy Z (jbu (v := .agg #[.int .i64 (ix [2, 2, 3, 4, 5, 6, 7, 8, 9, 10, 12, 11] (Int.toNat (takeV 20 m))), .int .i64 m36.nx, .int .i64 0, (.slice (some ⟨g54_17, 0, none⟩) 2 2), .int .i32 0]) Z (fun _ => by kernel_rfl)) (jyo Z (jfz k0 (by (try simp) <;> omega) (jkb E149 Z Z (m3add_ct (i := ⟨ix [2, 2, 3, 4, 5, 6, 7, 8, 9, 10, 12, 11] (Int.toNat (takeV 20 m)), m36.nx, 0, [someV m19, someV m31], 0⟩) om51 (by omega) b (by first | exact hb9 | decide | omega)) (dc d6 (dc (rIns.M (m := ⟨ix [2, 2, 3, 4, 5, 6, 7, 8, 9, 10, 12, 11] (Int.toNat (takeV 20 m)), m36.nx, 0, [someV m19, someV m31], 0⟩) (c := (.slice (some ⟨g54_17, 0, none⟩) 2 2)) d0 (wp (ix_w (l := [2, 2, 3, 4, 5, 6, 7, 8, 9, 10, 12, 11]) (by decide) (by decide) (Int.toNat (takeV 20 m)))) (wp w51_0) (wl 0) (wl 0)) dn)) (kd (kc k0 kn)) ⟨add_ok om51.1 hbn, (addS_s.trans om51.2)⟩ p0 fun m56 hm56 om56 bm56 ua56 qs56 w20 => ?_))))))
  clear bm51
  refine jyz d1 (jyd (jbn ?_))
  have hst : m56 = insS b m := (by (try simp only [hm19, hm31, hm34, hm36, hm51, hm56] at hc1 hc2); (try simp only [hm19, hm31, hm34, hm36, hm51, hm56]); all_goals first | rfl | (simp [insS, hc1, hc2]; done) | (simp [insS, hc1, hc2]; rfl))
  exact jd0 Z (ua56, qs56) Z dn (fun _ _ => (kcb (by rw [← hst]) k0 (kcg (by rw [← hst]) k0 (kck (by rw [← hst]) k0 kn))))
  refine jlit (r := (rI .i64)) (l := [someV m19, someV m31]) U22 I3 (by decide) Z Z Z (lV Z Z (wI ((wfw d2))) (lV Z Z (wI ((wfw d1))) ln)) fun g54_16 => jyn d0 (kc k4 kn) (jyo Z (jkr E99 Z Z (m3fresh_ct om36 (by omega)) (dc d4 dn) (kc k1 (kc k1 (kc k1 kn))) ⟨fresh_ok om36.1, om36.2⟩ fun m51 hm51 om51 bm51 => ?_))
  have w51_0 : IntKind.i64.wrap (m36.nx) = m36.nx := (IntWalk.i64_in _ (by omega))
  clear bm36
  refine jyn d0 (kc k4 kn) (jy Z (jbu (v := .agg #[.int .i64 (ix [2, 2, 3, 4, 5, 6, 7, 8, 9, 10, 12, 11] (Int.toNat (takeV 20 m))), .int .i64 m36.nx, .int .i64 0, (.slice (some ⟨g54_16, 0, none⟩) 2 2), .int .i32 0]) Z (fun _ => by kernel_rfl)) (jyo Z (jfz k3 (by (try simp) <;> omega) (jkb E149 Z Z (m3add_ct (i := ⟨ix [2, 2, 3, 4, 5, 6, 7, 8, 9, 10, 12, 11] (Int.toNat (takeV 20 m)), m36.nx, 0, [someV m19, someV m31], 0⟩) om51 (by omega) b (by first | exact hb9 | decide | omega)) (dc d6 (dc (rIns.M (m := ⟨ix [2, 2, 3, 4, 5, 6, 7, 8, 9, 10, 12, 11] (Int.toNat (takeV 20 m)), m36.nx, 0, [someV m19, someV m31], 0⟩) (c := (.slice (some ⟨g54_16, 0, none⟩) 2 2)) d0 (wp (ix_w (l := [2, 2, 3, 4, 5, 6, 7, 8, 9, 10, 12, 11]) (by decide) (by decide) (Int.toNat (takeV 20 m)))) (wp w51_0) (wl 0) (wl 0)) dn)) (kd (kc k0 kn)) ⟨add_ok om51.1 hbn, (addS_s.trans om51.2)⟩ p0 fun m56 hm56 om56 bm56 ua56 qs56 w20 => ?_))))
  clear bm51
  refine jyz d1 (jyd (jbn ?_))
  have hst : m56 = insS b m := (by (try simp only [hm19, hm31, hm34, hm36, hm51, hm56] at hc1 hc2); (try simp only [hm19, hm31, hm34, hm36, hm51, hm56]); all_goals first | rfl | (simp [insS, hc1, hc2]; done) | (simp [insS, hc1, hc2]; rfl))
  exact jd0 Z (ua56, qs56) Z dn (fun _ _ => (kcb (by rw [← hst]) k0 (kcg (by rw [← hst]) k0 (kck (by rw [← hst]) k0 kn))))
  refine jq (jr (jm Z (js (jeql Z Z) (ja Z (jn (jx ?_))))))
  refine jif Z (fun hc3 => ?_) (fun hc3 => ?_)
  refine jq (jr (jm Z (jm Z (jkb E148 Z Z (m3some_ct om19 (by omega) b (by first | exact hb9 | decide | omega)) (dc d0 dn) (kd (kc k0 kn)) ⟨some_ok om19.1 hbn, (someS_s.trans om19.2)⟩ p1 fun m62 hm62 om62 bm62 ua62 qs62 w21 => ?_))))
  clear bm19
  refine ja Z (jn (jx (jq (jr (jm Z (jm Z (jkb E148 Z Z (m3some_ct om62 (by omega) b (by first | exact hb9 | decide | omega)) (dc d1 dn) (kd (kc k0 kn)) ⟨some_ok om62.1 hbn, (someS_s.trans om62.2)⟩ p1 fun m65 hm65 om65 bm65 ua65 qs65 w23 => ?_)))))))
  clear bm62
  refine ja Z (jn (jx (jr (jm Z (jm Z (jm Z (jkr E99 Z Z (m3fresh_ct om65 (by omega)) (dc d2 dn) (kd (kc k0 kn)) ⟨fresh_ok om65.1, om65.2⟩ fun m69 hm69 om69 bm69 => ?_)))))))
  have w69_0 : IntKind.i64.wrap (m65.nx) = m65.nx := (IntWalk.i64_in _ (by omega))
  clear bm65
  refine jm Z (jm Z (jlit (r := (rI .i64)) (l := [someV m19, someV m62]) U22 I3 (by decide) Z Z Z (lV Z Z (wI ((wfw d1))) (lV Z Z (wI ((wfw d0))) ln)) fun g72 => js (jbu (v := .agg #[.int .i64 13, .int .i64 m65.nx, .int .i64 0, (.slice (some ⟨g72, 0, none⟩) 2 2), .int .i32 0]) Z (fun _ => by kernel_rfl)) (jfz k0 (by (try simp) <;> omega) (jkb E149 Z Z (m3add_ct (i := ⟨13, m65.nx, 0, [someV m19, someV m62], 0⟩) om69 (by omega) b (by first | exact hb9 | decide | omega)) (dc d3 (dc (rIns.M (m := ⟨13, m65.nx, 0, [someV m19, someV m62], 0⟩) (c := (.slice (some ⟨g72, 0, none⟩) 2 2)) d0 (wl 13) (wp w69_0) (wl 0) (wl 0)) dn)) (kd (kc k0 kn)) ⟨add_ok om69.1 hbn, (addS_s.trans om69.2)⟩ p0 fun m74 hm74 om74 bm74 ua74 qs74 w26 => ?_))))
  clear bm69
  refine jn (jbn ?_)
  have hst : m74 = insS b m := (by (try simp only [hm19, hm62, hm65, hm69, hm74] at hc1 hc3); (try simp only [hm19, hm62, hm65, hm69, hm74]); all_goals first | rfl | (simp [insS, hc1, hc3]; done) | (simp [insS, hc1, hc3]; rfl))
  exact jd0 Z (ua74, qs74) Z dn (fun _ _ => (kcb (by rw [← hst]) k0 (kcg (by rw [← hst]) k0 (kck (by rw [← hst]) k0 kn))))
  refine jq (jr (jm Z (js (jeql Z Z) (ja Z (jn (jx ?_))))))
  refine jif Z (fun hc4 => ?_) (fun hc4 => ?_)
  refine jq (jr (jm Z (jm Z (jkb E148 Z Z (m3some_ct om19 (by omega) b (by first | exact hb9 | decide | omega)) (dc d0 dn) (kd (kc k0 kn)) ⟨some_ok om19.1 hbn, (someS_s.trans om19.2)⟩ p1 fun m80 hm80 om80 bm80 ua80 qs80 w27 => ?_))))
  clear bm19
  refine ja Z (jn (jx (jq (jr (jm Z (jm Z (jm Z (jkr E54 Z Z (m3take_ct om80 (by omega) 12 (by first | exact hb9 | decide | omega)) (dc d1 dn) (kd (kc k0 kn)) ⟨take_ok om80.1, om80.2⟩ fun m84 hm84 om84 bm84 => ?_))))))))
  have w84_0 : IntKind.i64.wrap (takeV 12 m80) = takeV 12 m80 := (IntWalk.i64_in _ (by have h9 := @takeV_rng 12 (by omega) m80; omega))
  have tr84 := @takeV_rng 12 (by omega) m80
  clear bm80
  refine js (jco U3 U21 Z Z) (jkb E105 Z Z (m3const_ct om84 (by omega) b (IntKind.i32.wrap (takeV 12 m80)) (by first | exact hb9 | decide | omega) (wrap_wrap _ _)) (dc d1 dn) (kd (kc k0 kn)) ⟨const_ok om84.1 hbn, (constS_s.trans om84.2)⟩ p1 fun m86 hm86 om86 bm86 ua86 qs86 w29 => ?_)
  clear bm84
  refine ja Z (jn (jx (jq (jq (jr (jm Z (jkr E54 Z Z (m3take_ct om86 (by omega) 3 (by first | exact hb9 | decide | omega)) (dc d2 dn) (kd (kc k0 kn)) ⟨take_ok om86.1, om86.2⟩ fun m88 hm88 om88 bm88 => ?_)))))))
  have w88_0 : IntKind.i64.wrap (takeV 3 m86) = takeV 3 m86 := (IntWalk.i64_in _ (by have h9 := @takeV_rng 3 (by omega) m86; omega))
  have tr88 := @takeV_rng 3 (by omega) m86
  clear bm86
  refine js (jgtr Z Z) (jn (jx ?_))
  refine jif Z (fun hc5 => ?_) (fun hc5 => ?_)
  refine jr (jm Z (jm Z (jm Z (jkr E54 Z Z (m3take_ct om88 (by omega) 12 (by first | exact hb9 | decide | omega)) (dc d2 dn) (kd (kc k0 kn)) ⟨take_ok om88.1, om88.2⟩ fun m93 hm93 om93 bm93 => ?_))))
  have w93_0 : IntKind.i64.wrap (takeV 12 m88) = takeV 12 m88 := (IntWalk.i64_in _ (by have h9 := @takeV_rng 12 (by omega) m88; omega))
  have tr93 := @takeV_rng 12 (by omega) m88
  clear bm88
  refine js (jco U3 U21 Z Z) (js (jaddw Z Z) (jkb E105 Z Z (m3const_ct om93 (by omega) b (IntKind.i32.wrap (1 + (IntKind.i32.wrap (takeV 12 m88)))) (by first | exact hb9 | decide | omega) (wrap_wrap _ _)) (dc d2 dn) (kd (kc k0 kn)) ⟨const_ok om93.1 hbn, (constS_s.trans om93.2)⟩ p1 fun m96 hm96 om96 bm96 ua96 qs96 w31 => ?_))
  clear bm93
  refine ja Z (jn (jx (jr (jm Z (jm Z (jm Z (jkr E99 Z Z (m3fresh_ct om96 (by omega)) (dc d3 dn) (kd (kc k0 kn)) ⟨fresh_ok om96.1, om96.2⟩ fun m100 hm100 om100 bm100 => ?_)))))))
  have w100_0 : IntKind.i64.wrap (m96.nx) = m96.nx := (IntWalk.i64_in _ (by omega))
  clear bm96
  refine jm Z (jm Z (jlit (r := (rI .i64)) (l := [someV m19, m93.nx]) U22 I3 (by decide) Z Z Z (lV Z Z (wI ((wfw d2))) (lV Z Z (wI ((wfw d0))) ln)) fun g103 => js (jbu (v := .agg #[.int .i64 14, .int .i64 m96.nx, .int .i64 0, (.slice (some ⟨g103, 0, none⟩) 2 2), .int .i32 0]) Z (fun _ => by kernel_rfl)) (jfz k0 (by (try simp) <;> omega) (jkb E149 Z Z (m3add_ct (i := ⟨14, m96.nx, 0, [someV m19, m93.nx], 0⟩) om100 (by omega) b (by first | exact hb9 | decide | omega)) (dc d4 (dc (rIns.M (m := ⟨14, m96.nx, 0, [someV m19, m93.nx], 0⟩) (c := (.slice (some ⟨g103, 0, none⟩) 2 2)) d0 (wl 14) (wp w100_0) (wl 0) (wl 0)) dn)) (kd (kc k0 kn)) ⟨add_ok om100.1 hbn, (addS_s.trans om100.2)⟩ p0 fun m105 hm105 om105 bm105 ua105 qs105 w34 => ?_))))
  clear bm100
  refine jn (jbn ?_)
  have hst : m105 = insS b m := (by (try simp only [hm19, hm80, hm84, hm86, hm88, hm93, hm96, hm100, hm105] at hc1 hc3 hc4 hc5); (try simp only [hm19, hm80, hm84, hm86, hm88, hm93, hm96, hm100, hm105]); all_goals first | rfl | (simp [insS, hc1, hc3, hc4, hc5]; done) | (simp [insS, hc1, hc3, hc4, hc5]; rfl))
  exact jd0 Z (ua105, qs105) Z dn (fun _ _ => (kcb (by rw [← hst]) k0 (kcg (by rw [← hst]) k0 (kck (by rw [← hst]) k0 kn))))
  refine jsk (jx (jr (jm Z (jm Z (jm Z (jkr E99 Z Z (m3fresh_ct om88 (by omega)) (dc d2 dn) (kd (kc k0 kn)) ⟨fresh_ok om88.1, om88.2⟩ fun m100 hm100 om100 bm100 => ?_))))))
  have w100_0 : IntKind.i64.wrap (m88.nx) = m88.nx := (IntWalk.i64_in _ (by omega))
  clear bm88
  refine jm Z (jm Z (jlit (r := (rI .i64)) (l := [someV m19, m84.nx]) U22 I3 (by decide) Z Z Z (lV Z Z (wI ((wfw d1))) (lV Z Z (wI ((wfw d0))) ln)) fun g103_35 => js (jbu (v := .agg #[.int .i64 14, .int .i64 m88.nx, .int .i64 0, (.slice (some ⟨g103_35, 0, none⟩) 2 2), .int .i32 0]) Z (fun _ => by kernel_rfl)) (jfz k0 (by (try simp) <;> omega) (jkb E149 Z Z (m3add_ct (i := ⟨14, m88.nx, 0, [someV m19, m84.nx], 0⟩) om100 (by omega) b (by first | exact hb9 | decide | omega)) (dc d3 (dc (rIns.M (m := ⟨14, m88.nx, 0, [someV m19, m84.nx], 0⟩) (c := (.slice (some ⟨g103_35, 0, none⟩) 2 2)) d0 (wl 14) (wp w100_0) (wl 0) (wl 0)) dn)) (kd (kc k0 kn)) ⟨add_ok om100.1 hbn, (addS_s.trans om100.2)⟩ p0 fun m105 hm105 om105 bm105 ua105 qs105 w37 => ?_))))
  clear bm100
  refine jn (jbn ?_)
  have hst : m105 = insS b m := (by (try simp only [hm19, hm80, hm84, hm86, hm88, hm100, hm105] at hc1 hc3 hc4 hc5); (try simp only [hm19, hm80, hm84, hm86, hm88, hm100, hm105]); all_goals first | rfl | (simp [insS, hc1, hc3, hc4, hc5]; done) | (simp [insS, hc1, hc3, hc4, hc5]; rfl))
  exact jd0 Z (ua105, qs105) Z dn (fun _ _ => (kcb (by rw [← hst]) k0 (kcg (by rw [← hst]) k0 (kck (by rw [← hst]) k0 kn))))
  refine jq (jr (jm Z (js (jlss Z Z) (ja Z (jn (jx ?_))))))
  refine jif Z (fun hc6 => ?_) (fun hc6 => ?_)
  refine jr (jm Z (jm Z (jm Z (js (jeql Z Z) (jkb E150 Z Z (m3mem_ct om19 (by omega) b (decide (takeV 20 m = 15)) (by first | exact hb9 | decide | omega)) (dc d0 dn) (kd (kc k0 kn)) ⟨mem_ok om19.1 hbn, (memS_s.trans om19.2)⟩ p0 fun m113 hm113 om113 bm113 ua113 qs113 w38 => ?_)))))
  clear bm19
  refine jn (jbn ?_)
  have hst : m113 = insS b m := (by (try simp only [hm19, hm113] at hc1 hc3 hc4 hc6); (try simp only [hm19, hm113]); all_goals first | rfl | (simp [insS, hc1, hc3, hc4, hc6]; done) | (simp [insS, hc1, hc3, hc4, hc6]; rfl))
  exact jd0 Z (ua113, qs113) Z dn (fun _ _ => (kcb (by rw [← hst]) k0 (kcg (by rw [← hst]) k0 (kck (by rw [← hst]) k0 kn))))
  refine jq (jr (jm Z (js (jeql Z Z) (ja Z (jn (jx ?_))))))
  refine jif Z (fun hc7 => ?_) (fun hc7 => ?_)
  refine jq (jr (jlit (r := (rI .i64)) (l := []) U22 I3 (by decide) Z Z Z ln fun g117 => ja Z (jn (jx (jq (jr (jm Z (jkr E54 Z Z (m3take_ct om19 (by omega) 5 (by first | exact hb9 | decide | omega)) (dc d0 dn) (kc k1 (kc k1 (kc k1 kn))) ⟨take_ok om19.1, om19.2⟩ fun m119 hm119 om119 bm119 => ?_))))))))
  have w119_0 : IntKind.i64.wrap (takeV 5 m19) = takeV 5 m19 := (IntWalk.i64_in _ (by have h9 := @takeV_rng 5 (by omega) m19; omega))
  have tr119 := @takeV_rng 5 (by omega) m19
  clear bm19
  refine ja Z (jn (jx (jq (jq (jr (ja Z (jn (jx (jb ?_)))))))))
  refine jlp (u6 fun (i : Nat) (l : List Int) (v : Value) (mm : Mk) (al1 : Value) (qs1 : List BV) => ⟨i ≤ (takeV 5 m19).toNat ∧ argsL b (takeV 5 m19).toNat [] m119 = argsL b ((takeV 5 m19).toNat - i) l mm ∧ l.length = i ∧ okS nb (c + 20 + 8 * i) S mm, [dv (rL (rI .i64)) vs S], [bx g0 106 [vs, .int .i64 mm.k, .int .i64 mm.par, vb, .int .i64 mm.nx, al1], gl B0 (rI .i64) 3 al1 mm.lv, bk B1 vb qs1 mm.bs, gl X.n (rI .i64) 3 v l], [(0, .pointer (some ⟨g0, 0, none⟩)), (1, .int .i64 b), (12, v), (13, .int .i64 (takeV 5 m19)), (14, .int .i64 (↑i))], (takeV 5 m19).toNat - i⟩) (0, [], (.slice (some ⟨g117, 0, none⟩) 0 0), m119, al, qs) ⟨by omega, rfl, rfl, om119.mono (by omega)⟩ (dc d0 dn) (kd (kd kn)) ⟨Z, Z, Z, Z, eqI (by omega), trivial⟩ ?_
  rintro ⟨i, l, v, mm, al1, qs1⟩; dsimp only [u6]; rintro ⟨hi, hR, hl, okL1⟩
  refine cgo k3 fun w39 => cgo k1 fun w40 => ?_
  have bdL1 := okM.bnd okL1.1
  clear bm119
  refine jq (jq (jr (jm Z (jm Z (js (jlss Z Z) (jn (jx ?_)))))))
  refine jif Z (fun hc8 => ?_) (fun hc8 => ?_)
  refine jsk (jx (jq (jb (jr (jm Z (jm Z (jm Z (jkb E148 Z Z (m3some_ct okL1 (by omega) b (by first | exact hb9 | decide | omega)) (dc d0 dn) (kd (kc k0 kn)) ⟨some_ok okL1.1 hbn, (someS_s.trans okL1.2)⟩ p1 fun m128 hm128 om128 bm128 ua128 qs128 w41 => ?_))))))))
  clear bdL1
  refine japv U22 I3 (by decide) Z Z k3 Z (wI ((wfw d0))) (by omega) (fun _ => Z) fun v130 _ w43 => ja Z (jn (jbn (jx (jr (jm Z (js (jadd Z Z (by omega)) (ja Z (jn ?_))))))))
  exact jag (i + 1, l ++ [someV mm], v130, m128, ua128, qs128) ⟨by dsimp only; omega, by dsimp only; rw [hR, show (takeV 5 m19).toNat - i = ((takeV 5 m19).toNat - (i + 1)) + 1 by omega, argsL, hm128], by simp; omega, om128.mono (by omega)⟩ (dc d1 dn) (kc k1 (kc k1 (kc k1 (kc k0 kn)))) ⟨Z, Z, Z, Z, eqI (by omega), trivial⟩
  refine jex (jtx (jtx (jbh (jx (jr (jm Z (jm Z (jm Z (jkr E99 Z Z (m3fresh_ct okL1 (by omega)) (dc d0 dn) (kd (kc k0 kn)) ⟨fresh_ok okL1.1, okL1.2⟩ fun m134 hm134 om134 bm134 => ?_)))))))))
  have w134_0 : IntKind.i64.wrap (mm.nx) = mm.nx := (IntWalk.i64_in _ (by omega))
  clear bdL1
  refine jm Z (jm Z (jkr E54 Z Z (m3take_ct om134 (by omega) 5 (by first | exact hb9 | decide | omega)) (dc d0 dn) (kd (kc k0 kn)) ⟨take_ok om134.1, om134.2⟩ fun m137 hm137 om137 bm137 => ?_))
  have w137_0 : IntKind.i64.wrap (takeV 5 m134) = takeV 5 m134 := (IntWalk.i64_in _ (by have h9 := @takeV_rng 5 (by omega) m134; omega))
  have tr137 := @takeV_rng 5 (by omega) m134
  clear bm134
  refine js (jco U3 U21 Z Z) (js (jbu (v := .agg #[.int .i64 17, .int .i64 mm.nx, .int .i64 0, v, .int .i32 (IntKind.i32.wrap (takeV 5 m134))]) Z (fun _ => by obtain ⟨_, _, _, rfl⟩ := w39; kernel_rfl)) (jfz k3 (by omega) (jkb E149 Z Z (m3add_ct (i := ⟨17, mm.nx, 0, l, IntKind.i32.wrap (takeV 5 m134)⟩) om137 (by omega) b (by first | exact hb9 | decide | omega)) (dc d1 (dc (rIns.M (m := ⟨17, mm.nx, 0, l, IntKind.i32.wrap (takeV 5 m134)⟩) (c := v) d0 (wl 17) (wp w134_0) (wl 0) (wp (wrap_wrap _ _))) dn)) (kd (kc k0 kn)) ⟨add_ok om137.1 hbn, (addS_s.trans om137.2)⟩ p0 fun m140 hm140 om140 bm140 ua140 qs140 w45 => ?_)))
  clear bm137
  refine jn (jbn ?_)
  have hst : m140 = insS b m := (by have hE : argsL b (takeV 5 m19).toNat [] m119 = (l, mm) := (by rw [hR, show (takeV 5 m19).toNat - i = 0 by omega]; rfl); (try simp only [hm19, hm119, hm134, hm137, hm140] at hE hc1 hc3 hc4 hc6 hc7 hc8); (try simp only [hm19, hm119, hm134, hm137, hm140]); simp [insS, hc1, hc3, hc4, hc6, hc7, hc8, hE])
  exact jd0 Z (ua140, qs140) Z dn (fun _ _ => (kcb (by rw [← hst]) k0 (kcg (by rw [← hst]) k0 (kck (by rw [← hst]) k0 kn))))
  refine jq (jr (jm Z (js (jeql Z Z) (ja Z (jn (jx ?_))))))
  refine jif Z (fun hc9 => ?_) (fun hc9 => ?_)
  refine jq (jr (jm Z (jm Z (jkb E148 Z Z (m3some_ct om19 (by omega) b (by first | exact hb9 | decide | omega)) (dc d0 dn) (kd (kc k0 kn)) ⟨some_ok om19.1 hbn, (someS_s.trans om19.2)⟩ p1 fun m146 hm146 om146 bm146 ua146 qs146 w46 => ?_))))
  clear bm19
  refine ja Z (jn (jx (jq (jr (jm Z (jm Z (jkb E148 Z Z (m3some_ct om146 (by omega) b (by first | exact hb9 | decide | omega)) (dc d1 dn) (kd (kc k0 kn)) ⟨some_ok om146.1 hbn, (someS_s.trans om146.2)⟩ p1 fun m149 hm149 om149 bm149 ua149 qs149 w48 => ?_)))))))
  clear bm146
  refine ja Z (jn (jx (jq (jr (jm Z (jkr E99 Z Z (m3fresh_ct om149 (by omega)) (dc d2 dn) (kd (kc k0 kn)) ⟨fresh_ok om149.1, om149.2⟩ fun m151 hm151 om151 bm151 => ?_))))))
  have w151_0 : IntKind.i64.wrap (m149.nx) = m149.nx := (IntWalk.i64_in _ (by omega))
  clear bm149
  refine ja Z (jn (jx (jr (jm Z (jm Z (jm Z (jm Z (jkr E99 Z Z (m3fresh_ct om151 (by omega)) (dc d2 dn) (kd (kc k0 kn)) ⟨fresh_ok om151.1, om151.2⟩ fun m156 hm156 om156 bm156 => ?_))))))))
  have w156_0 : IntKind.i64.wrap (m151.nx) = m151.nx := (IntWalk.i64_in _ (by omega))
  clear bm151
  refine jm Z (jm Z (jlit (r := (rI .i64)) (l := [someV m19, someV m146]) U22 I3 (by decide) Z Z Z (lV Z Z (wI ((wfw d1))) (lV Z Z (wI ((wfw d0))) ln)) fun g159 => js (jbu (v := .agg #[.int .i64 18, .int .i64 m149.nx, .int .i64 m151.nx, (.slice (some ⟨g159, 0, none⟩) 2 2), .int .i32 0]) Z (fun _ => by kernel_rfl)) (jfz k0 (by (try simp) <;> omega) (jkb E149 Z Z (m3add_ct (i := ⟨18, m149.nx, m151.nx, [someV m19, someV m146], 0⟩) om156 (by omega) b (by first | exact hb9 | decide | omega)) (dc d3 (dc (rIns.M (m := ⟨18, m149.nx, m151.nx, [someV m19, someV m146], 0⟩) (c := (.slice (some ⟨g159, 0, none⟩) 2 2)) d0 (wl 18) (wp w151_0) (wp w156_0) (wl 0)) dn)) (kd (kc k0 kn)) ⟨add_ok om156.1 hbn, (addS_s.trans om156.2)⟩ p0 fun m161 hm161 om161 bm161 ua161 qs161 w51 => ?_))))
  clear bm156
  refine jn (jbn ?_)
  have hst : m161 = insS b m := (by (try simp only [hm19, hm146, hm149, hm151, hm156, hm161] at hc1 hc3 hc4 hc6 hc7 hc9); (try simp only [hm19, hm146, hm149, hm151, hm156, hm161]); all_goals first | rfl | (simp [insS, hc1, hc3, hc4, hc6, hc7, hc9]; done) | (simp [insS, hc1, hc3, hc4, hc6, hc7, hc9]; rfl))
  exact jd0 Z (ua161, qs161) Z dn (fun _ _ => (kcb (by rw [← hst]) k0 (kcg (by rw [← hst]) k0 (kck (by rw [← hst]) k0 kn))))
  refine jr (jm Z (jm Z (jm Z (jkr E53 Z Z (m3word_ct om19 (by omega)) (dc d0 dn) (kd (kc k0 kn)) ⟨word_ok om19.1, om19.2⟩ fun m23 hm23 om23 bm23 => ?_))))
  have w23_0 : IntKind.i32.wrap (wordV m19) = wordV m19 := (word_w m19)
  clear bm19
  refine jkb E105 Z Z (m3const_ct om23 (by omega) b (wordV m19) (by first | exact hb9 | decide | omega) w23_0) (dc d0 dn) (kd (kc k0 kn)) ⟨const_ok om23.1 hbn, (constS_s.trans om23.2)⟩ p1 fun m24 hm24 om24 bm24 ua24 qs24 w52 => ?_
  clear bm23
  refine jn (jbn ?_)
  have hst : m24 = insS b m := (by (try simp only [hm19, hm23, hm24] at hc1 hc3 hc4 hc6 hc7 hc9); (try simp only [hm19, hm23, hm24]); all_goals first | rfl | (simp [insS, hc1, hc3, hc4, hc6, hc7, hc9]; done) | (simp [insS, hc1, hc3, hc4, hc6, hc7, hc9]; rfl))
  exact jd0 Z (ua24, qs24) Z dn (fun _ _ => (kcb (by rw [← hst]) k0 (kcg (by rw [← hst]) k0 (kck (by rw [← hst]) k0 kn))))
def tgA : Nat → Int → List (List Int) → Mk → List (List Int) × Mk
  | 0, _, to, m => (to, m)
  | k + 1, b, to, m =>
    if takeV 3 m = 0 then tgA k (b + 1) (to.set (takeV b (takeS m)).toNat (to.getD (takeV b (takeS m)).toNat [] ++ [b])) (takeS (takeS m))
    else tgA k (b + 1) (to.set (b - 1).toNat (to.getD (b - 1).toNat [] ++ [b])) (takeS m)
def tgX (n b : Int) (m : Mk) : Int × Mk :=
  if 1 + takeV (n - 1) m ≤ b then
    if takeV 2 (takeS m) = 0 then (min (b + 1) (n - 1), takeS (takeS m)) else (1 + takeV (n - 1) m, takeS (takeS m))
  else (1 + takeV (n - 1) m, takeS m)
def tgI (n b : Int) : Nat → List (List Int) → Mk → List (List Int) × Mk
  | 0, to, m => (to, m)
  | k + 1, to, m => tgI n b k (to.set b.toNat (to.getD b.toNat [] ++ [(tgX n b m).1])) (tgX n b m).2
def tgB (n : Int) : Nat → Int → List (List Int) → Mk → List (List Int) × Mk
  | 0, _, to, m => (to, m)
  | k + 1, b, to, m => tgB n k (b + 1) (tgI n b (if 1 < n then (takeV 6 m - 3).toNat else 0) to (takeS m)).1 (tgI n b (if 1 < n then (takeV 6 m - 3).toNat else 0) to (takeS m)).2
def targA (n : Int) (m : Mk) : List (List Int) × Mk := tgA (n.toNat - 1) 1 (List.replicate n.toNat []) m
def targM (n : Int) (m : Mk) : List (List Int) × Mk := tgB n n.toNat 0 (targA n m).1 (targA n m).2
theorem rows_set {ls : List (List Int)} {B : Nat} (h : ∀ j, (ls.getD j []).length ≤ B) (p : Nat) (x : Int) : ∀ j, ((ls.set p (ls.getD p [] ++ [x])).getD j []).length ≤ B + 1 := by
  intro j
  by_cases e : p = j
  · subst e
    by_cases hp : p < ls.length
    · have := h p; simp [List.getD, hp] at *; omega
    · simp [List.getD, hp]
  · have := h j; simp [List.getD, List.getElem?_set_ne e] at *; omega
theorem rows_mono {ls : List (List Int)} {B C : Nat} (h : ∀ j, (ls.getD j []).length ≤ B) (hc : B ≤ C) : ∀ j, (ls.getD j []).length ≤ C := fun j => Nat.le_trans (h j) hc
theorem rows_rep {n B : Nat} : ∀ j, ((List.replicate n ([] : List Int)).getD j []).length ≤ B := by intro j; by_cases h : j < n <;> simp [List.getD, h]
section
variable {nb c : Nat} {m : Mk}
theorem tgA_ok : ∀ (k : Nat) (b : Int) (to : List (List Int)) {c : Nat} {m : Mk}, okM nb c m → okM nb (c + 2 * k) (tgA k b to m).2
  | 0, _, _, _, _, h => h
  | k + 1, b, to, c, m, h => by
    unfold tgA; split
    · exact (tgA_ok k _ _ (take_ok (take_ok h))).mono (by omega)
    · exact (tgA_ok k _ _ (take_ok h)).mono (by omega)
theorem tgX_ok {n b : Int} (h : okM nb c m) : okM nb (c + 2) (tgX n b m).2 := by
  unfold tgX; (repeat' split)
  · exact take_ok (take_ok h)
  · exact take_ok (take_ok h)
  · exact (take_ok h).mono (by omega)
theorem tgI_ok {n b : Int} : ∀ (k : Nat) (to : List (List Int)) {c : Nat} {m : Mk}, okM nb c m → okM nb (c + 2 * k) (tgI n b k to m).2
  | 0, _, _, _, h => h
  | k + 1, to, c, m, h => by unfold tgI; exact (tgI_ok k _ (tgX_ok h)).mono (by omega)
theorem tgB_ok {n : Int} : ∀ (k : Nat) (b : Int) (to : List (List Int)) {c : Nat} {m : Mk}, okM nb c m → okM nb (c + 5 * k) (tgB n k b to m).2
  | 0, _, _, _, _, h => h
  | k + 1, b, to, c, m, h => by
    unfold tgB
    have h6 := takeV_rng (n := 6) (by omega) m
    refine (tgB_ok k (b + 1) _ (c := c + 5) ?_).mono (by omega)
    exact (tgI_ok _ to (take_ok h)).mono (by split <;> omega)
theorem targ_ok {n : Int} (h : okM nb c m) (hn : n ≤ 9) : okM nb (c + 70) (targM n m).2 := (tgB_ok _ _ _ (tgA_ok _ _ _ h)).mono (by omega)
end
theorem tgA_len : ∀ (k : Nat) (b : Int) (to : List (List Int)) (m : Mk), (tgA k b to m).1.length = to.length
  | 0, _, _, _ => rfl
  | k + 1, b, to, m => by unfold tgA; split <;> rw [tgA_len k] <;> simp
theorem tgI_len {n b : Int} : ∀ (k : Nat) (to : List (List Int)) (m : Mk), (tgI n b k to m).1.length = to.length
  | 0, _, _ => rfl
  | k + 1, to, m => by unfold tgI; rw [tgI_len k]; simp
theorem tgB_len {n : Int} : ∀ (k : Nat) (b : Int) (to : List (List Int)) (m : Mk), (tgB n k b to m).1.length = to.length
  | 0, _, _, _ => rfl
  | k + 1, b, to, m => by unfold tgB; rw [tgB_len k, tgI_len]
theorem targM_len (n : Int) (m : Mk) : (targM n m).1.length = n.toNat := by unfold targM targA; rw [tgB_len, tgA_len]; simp
theorem tgX_k {n b : Int} (m : Mk) : ∃ k, (tgX n b m).2 = { m with k := k } := by unfold tgX; (repeat' split); exact ⟨_, rfl⟩; exact ⟨_, rfl⟩; exact ⟨_, rfl⟩
theorem tgA_k : ∀ (k : Nat) (b : Int) (to : List (List Int)) (m : Mk), ∃ q, (tgA k b to m).2 = { m with k := q }
  | 0, _, _, m => ⟨m.k, rfl⟩
  | k + 1, b, to, m => by
    unfold tgA; split
    · obtain ⟨q, hq⟩ := tgA_k k (b + 1) (to.set (takeV b (takeS m)).toNat (to.getD (takeV b (takeS m)).toNat [] ++ [b])) (takeS (takeS m)); exact ⟨q, hq⟩
    · obtain ⟨q, hq⟩ := tgA_k k (b + 1) (to.set (b - 1).toNat (to.getD (b - 1).toNat [] ++ [b])) (takeS m); exact ⟨q, hq⟩
theorem tgI_k {n b : Int} : ∀ (k : Nat) (to : List (List Int)) (m : Mk), ∃ q, (tgI n b k to m).2 = { m with k := q }
  | 0, _, m => ⟨m.k, rfl⟩
  | k + 1, to, m => by
    unfold tgI
    obtain ⟨q, hq⟩ := tgI_k k (to.set b.toNat (to.getD b.toNat [] ++ [(tgX n b m).1])) (tgX n b m).2
    obtain ⟨q2, hq2⟩ := tgX_k (n := n) (b := b) m
    rw [hq, hq2]; exact ⟨q, rfl⟩
theorem tgB_k {n : Int} : ∀ (k : Nat) (b : Int) (to : List (List Int)) (m : Mk), ∃ q, (tgB n k b to m).2 = { m with k := q }
  | 0, _, _, m => ⟨m.k, rfl⟩
  | k + 1, b, to, m => by
    unfold tgB
    obtain ⟨q, hq⟩ := tgB_k (n := n) k (b + 1) (tgI n b (if 1 < n then (takeV 6 m - 3).toNat else 0) to (takeS m)).1 (tgI n b (if 1 < n then (takeV 6 m - 3).toNat else 0) to (takeS m)).2
    obtain ⟨q2, hq2⟩ := tgI_k (n := n) (b := b) (if 1 < n then (takeV 6 m - 3).toNat else 0) to (takeS m)
    rw [hq, hq2]; exact ⟨q, rfl⟩
theorem targM_k (n : Int) (m : Mk) : ∃ q, (targM n m).2 = { m with k := q } := by
  obtain ⟨q, hq⟩ := tgB_k (n := n) n.toNat 0 (targA n m).1 (targA n m).2
  obtain ⟨q2, hq2⟩ := tgA_k (n.toNat - 1) 1 (List.replicate n.toNat []) m
  exact ⟨q, by rw [targM, hq]; rw [show (targA n m).2 = _ from hq2]⟩
theorem targM_s {n : Int} {m : Mk} : (targM n m).2.s = m.s := by obtain ⟨q, h⟩ := targM_k n m; rw [h]
theorem targM_lv {n : Int} {m : Mk} : (targM n m).2.lv = m.lv := by obtain ⟨q, h⟩ := targM_k n m; rw [h]
theorem targM_bs {n : Int} {m : Mk} : (targM n m).2.bs = m.bs := by obtain ⟨q, h⟩ := targM_k n m; rw [h]
set_option maxRecDepth 4000 in
theorem m3targ_ct {vs vb al : Value} {m : Mk} {nb c : Nat} {S : List Int} {g0 : Nat} (hok : okS nb c S m) (hc : c ≤ 900000) (n : Int) (hn9 : 1 ≤ n ∧ n ≤ 9) : KD Tryz.prog 97 [.int .i64 n] [] g0 vs vb al S (rL (rL (rI .i64))) ((targM n m).1) m ((targM n m).2) := by
  refine jenter (args := [.pointer (some ⟨g0, 0, none⟩), .int .i64 n]) Tryz.func97 rfl rfl rfl fun w0 X => ?_
  have bd0 := okM.bnd hok.1
  refine jq (jr (ja Z (jn (jx (jq (jr (jm Z (jmk (m := (Int.toNat n)) (r := rV) U52 I22 Z Z Z (by omega) (by omega) (by omega) (wV Z) Z fun g13 => jrn (r := (rI .i64)) (T := 3) (Int.toNat n) (ja Z (jn ?_))))))))))
  refine jx (jq (jq (jr (ja Z (jn (jx (jb ?_)))))))
  refine jlp (u4 fun (k : Nat) (vs1 : List Value) (ls : List (List Int)) (mm : Mk) => ⟨1 ≤ k ∧ (k : Int) ≤ n ∧ vs1.length = n.toNat ∧ ls.length = n.toNat ∧ (∀ j, (ls.getD j []).length ≤ k) ∧ tgA (n.toNat - 1) 1 (List.replicate n.toNat []) m = tgA (n.toNat - k) k ls mm ∧ okS nb (c + 2 * k) S mm, [dv (rL (rI .i64)) vs S], [rw' X.n (rI .i64) 3 vs1 ls, gl X.n rV 22 (.slice (some ⟨g13, 0, none⟩) (Int.toNat n) (Int.toNat n)) vs1, bx g0 106 [vs, .int .i64 mm.k, .int .i64 mm.par, vb, .int .i64 mm.nx, al]], [(0, .pointer (some ⟨g0, 0, none⟩)), (1, .int .i64 n), (4, .slice none 0 0), (5, (.slice (some ⟨g13, 0, none⟩) (Int.toNat n) (Int.toNat n))), (6, .int .i64 (↑k))], n.toNat - k⟩) (1, List.replicate (Int.toNat n) (.slice none 0 0), List.replicate (Int.toNat n) [], m) ⟨by omega, by omega, by simp, by simp, rows_rep, rfl, hok.mono (by omega)⟩ (dc d0 dn) (kd (kc k0 kn)) ⟨Z, Z, Z, Z, eqI (by omega), trivial⟩ ?_
  rintro ⟨k, vs1, ls, mm⟩; dsimp only [u4]; rintro ⟨hk1, hk2, hvl, hll, hrw, hR, okL1⟩
  have bdL1 := okM.bnd okL1.1
  clear bd0
  refine jq (jq (jr (jm Z (jm Z (js (jlss Z Z) (jn (jx ?_)))))))
  refine jif Z (fun hc1 => ?_) (fun hc1 => ?_)
  refine jsk (jx (jq (jb (jq (jr (jm Z (js (jsub Z Z (by omega)) (ja Z (jn (jx (jq ?_)))))))))))
  refine jq (jr (jm Z (jka E54 Z Z (m3take_ct okL1 (by omega) 3 (by first | decide | omega)) (dc d0 dn) k2 ⟨take_ok okL1.1, okL1.2⟩ fun m22 hm22 om22 bm22 => ?_)))
  have w22_0 : IntKind.i64.wrap (takeV 3 mm) = takeV 3 mm := (IntWalk.i64_in _ (by have h9 := @takeV_rng 3 (by omega) mm; omega))
  have tr22 := @takeV_rng 3 (by omega) mm
  clear bdL1
  refine js (jeql Z Z) (jn (jx ?_))
  refine jif Z (fun hc2 => ?_) (fun hc2 => ?_)
  refine jr (jm Z (jm Z (jka E54 Z Z (m3take_ct om22 (by omega) ↑k (by first | decide | omega)) (dc d0 dn) k0 ⟨take_ok om22.1, om22.2⟩ fun m26 hm26 om26 bm26 => ?_)))
  have w26_0 : IntKind.i64.wrap (takeV ↑k m22) = takeV ↑k m22 := (IntWalk.i64_in _ (by have h9 := @takeV_rng ↑k (by omega) m22; omega))
  have tr26 := @takeV_rng ↑k (by omega) m22
  clear bm22
  refine ja Z (jn (jx (jr (jm Z (jm Z (jm Z (jm Z (js (jig (i := (Int.toNat (takeV ↑k m22))) U52 Z22 k2 Z Z (by omega) (by omega)) (js (jgW k2 (by omega) O22 Z) (jm Z ?_))))))))))
  have hz := hrw (Int.toNat (takeV ↑k m22))
  refine jro (Int.toNat (takeV ↑k m22)) k1 (by omega) (by omega) (jgo k0 fun w2 => japv U22 I3 (by decide) Z Z k0 Z (wI (wp (IntWalk.i64_in _ (by omega)))) (by omega) (fun _ => Z) fun v35 _ w3 => js (jig (i := (Int.toNat (takeV ↑k m22))) U52 Z22 k3 Z Z (by omega) (by omega)) (jsg k3 Z Z22 Z Z w3.one (by omega) (wV w3.one) (jru k1 k1 (by omega) (by omega) (jn (jbn (jx (jr (jm Z (js (jadd Z Z (by omega)) ?_)))))))))
  refine ja Z (jn ?_)
  exact jag (k + 1, List.set vs1 (Int.toNat (takeV ((k : Nat) : Int) m22)) v35, List.set ls (Int.toNat (takeV ((k : Nat) : Int) m22)) ((List.getD ls (Int.toNat (takeV ((k : Nat) : Int) m22)) []) ++ [((k : Nat) : Int)]), m26) ⟨by dsimp only; omega, by dsimp only; omega, by simp [hvl], by simp [hll], rows_set hrw _ _, by dsimp only; rw [hR, show n.toNat - k = (n.toNat - (k + 1)) + 1 by omega, tgA]; (first | rw [if_pos ‹_›] | rw [if_neg ‹_›]); (try simp only [hm22, hm26]); rfl, om26.mono (by omega)⟩ (dc d0 dn) (kd (kc k0 kn)) ⟨Z, Z, Z, Z, eqI (by omega), trivial⟩
  refine jsk (jx (jr (jm Z (jm Z (jm Z (jm Z (js (jig (i := (Int.toNat (↑k - 1))) U52 Z22 k2 Z Z (by omega) (by omega)) (js (jgW k2 (by omega) O22 Z) (jm Z ?_)))))))))
  have hz := hrw (Int.toNat (↑k - 1))
  refine jro (Int.toNat (↑k - 1)) k1 (by omega) (by omega) (jgo k0 fun w5 => japv U22 I3 (by decide) Z Z k0 Z (wI (wp (IntWalk.i64_in _ (by omega)))) (by omega) (fun _ => Z) fun v35_6 _ w7 => js (jig (i := (Int.toNat (↑k - 1))) U52 Z22 k3 Z Z (by omega) (by omega)) (jsg k3 Z Z22 Z Z w7.one (by omega) (wV w7.one) (jru k1 k1 (by omega) (by omega) (jn (jbn (jx (jr (jm Z (js (jadd Z Z (by omega)) ?_)))))))))
  refine ja Z (jn ?_)
  exact jag (k + 1, List.set vs1 (Int.toNat (((k : Nat) : Int) - 1)) v35_6, List.set ls (Int.toNat (((k : Nat) : Int) - 1)) ((List.getD ls (Int.toNat (((k : Nat) : Int) - 1)) []) ++ [((k : Nat) : Int)]), m22) ⟨by dsimp only; omega, by dsimp only; omega, by simp [hvl], by simp [hll], rows_set hrw _ _, by dsimp only; rw [hR, show n.toNat - k = (n.toNat - (k + 1)) + 1 by omega, tgA]; (first | rw [if_pos ‹_›] | rw [if_neg ‹_›]); (try simp only [hm22]); rfl, om22.mono (by omega)⟩ (dc d0 dn) (kd (kc k0 kn)) ⟨Z, Z, Z, Z, eqI (by omega), trivial⟩
  have hA1 : targA n m = (ls, mm) := by rw [targA, hR, show n.toNat - k = 0 by omega]; rfl
  refine jex (jtx (jtx (jbh (jx (jq (jq (jr (ja Z (jn (jx (jb ?_)))))))))))
  refine jlp (u4 fun (b : Nat) (vs2 : List Value) (lt : List (List Int)) (mn : Mk) => ⟨(b : Int) ≤ n ∧ vs2.length = n.toNat ∧ lt.length = n.toNat ∧ (∀ j, (lt.getD j []).length ≤ 10 + 2 * b) ∧ tgB n n.toNat 0 ls mm = tgB n (n.toNat - b) b lt mn ∧ okS nb (c + 20 + 5 * b) S mn, [dv (rL (rI .i64)) vs S], [rw' X.n (rI .i64) 3 vs2 lt, gl X.n rV 22 (.slice (some ⟨g13, 0, none⟩) (Int.toNat n) (Int.toNat n)) vs2, bx g0 106 [vs, .int .i64 mn.k, .int .i64 mn.par, vb, .int .i64 mn.nx, al]], [(0, .pointer (some ⟨g0, 0, none⟩)), (1, .int .i64 n), (4, .slice none 0 0), (5, (.slice (some ⟨g13, 0, none⟩) (Int.toNat n) (Int.toNat n))), (8, .int .i64 (↑b))], n.toNat - b⟩) (0, vs1, ls, mm) ⟨by omega, hvl, hll, rows_mono hrw (by omega), rfl, okL1.mono (by omega)⟩ (dc d0 dn) (kd (kc k0 kn)) ⟨Z, Z, Z, Z, eqI (by omega), trivial⟩ ?_
  rintro ⟨b, vs2, lt, mn⟩; dsimp only [u4]; rintro ⟨hb1, hvl2, hll2, hrw2, hR2, okL2⟩
  have bdL2 := okM.bnd okL2.1
  clear bdL1
  refine jq (jq (jr (jm Z (jm Z (js (jlss Z Z) (jn (jx ?_)))))))
  refine jif Z (fun hc3 => ?_) (fun hc3 => ?_)
  refine jsk (jx (jq (jb (jq (jr (jm Z (jka E54 Z Z (m3take_ct okL2 (by omega) 6 (by first | decide | omega)) (dc d0 dn) k2 ⟨take_ok okL2.1, okL2.2⟩ fun m43 hm43 om43 bm43 => ?_)))))))
  have w43_0 : IntKind.i64.wrap (takeV 6 mn) = takeV 6 mn := (IntWalk.i64_in _ (by have h9 := @takeV_rng 6 (by omega) mn; omega))
  have tr43 := @takeV_rng 6 (by omega) mn
  clear bdL2
  refine ja Z (jn (jx (jq (jr (ja Z (jn (jx (jb ?_))))))))
  refine jlp (u4 fun (i : Nat) (vs3 : List Value) (lu : List (List Int)) (mo : Mk) => ⟨i ≤ (if 1 < n then (takeV 6 mn - 3).toNat else 0) ∧ vs3.length = n.toNat ∧ lu.length = n.toNat ∧ (∀ j, (lu.getD j []).length ≤ 10 + 2 * b + i) ∧ tgI n b (if 1 < n then (takeV 6 mn - 3).toNat else 0) lt m43 = tgI n b ((if 1 < n then (takeV 6 mn - 3).toNat else 0) - i) lu mo ∧ okS nb (c + 20 + 5 * b + 1 + 2 * i) S mo, [dv (rL (rI .i64)) vs S], [bx g0 106 [vs, .int .i64 mo.k, .int .i64 mo.par, vb, .int .i64 mo.nx, al], rw' X.n (rI .i64) 3 vs3 lu, gl X.n rV 22 (.slice (some ⟨g13, 0, none⟩) (Int.toNat n) (Int.toNat n)) vs3], [(0, .pointer (some ⟨g0, 0, none⟩)), (1, .int .i64 n), (4, .slice none 0 0), (5, (.slice (some ⟨g13, 0, none⟩) (Int.toNat n) (Int.toNat n))), (8, .int .i64 (↑b)), (9, .int .i64 (takeV 6 mn)), (10, .int .i64 (↑i))], (if 1 < n then (takeV 6 mn - 3).toNat else 0) - i⟩) (0, vs2, lt, m43) ⟨Nat.zero_le _, hvl2, hll2, rows_mono hrw2 (by omega), rfl, om43.mono (by omega)⟩ (dc d0 dn) (kd (kc k0 kn)) ⟨Z, Z, Z, Z, Z, Z, eqI (by omega), trivial⟩ ?_
  rintro ⟨i, vs3, lu, mo⟩; dsimp only [u4]; rintro ⟨hi1, hvl3, hll3, hrw3, hR3, okL3⟩
  have bdL3 := okM.bnd okL3.1
  clear bm43
  refine jq (jq (jr (jm Z (jm Z (js (jsub Z Z (by omega)) (js (jlss Z Z) (jm Z (jg Z Z (.t _) (fun hg => jmv Z) (jg Z Z (.t _) (fun hg => jgtr (evg Z hg) Z) (js (jand Z Z) (jn ?_)))))))))))
  refine jx ?_
  refine jif Z (fun hc4 => ?_) (fun hc4 => ?_)
  refine jsk (jx (jq (jb (jq (jr (jm Z (jm Z (js (jsub Z Z (by omega)) (jka E54 Z Z (m3take_ct okL3 (by omega) (n - 1) (by first | decide | omega)) (dc d0 dn) k0 ⟨take_ok okL3.1, okL3.2⟩ fun m57 hm57 om57 bm57 => ?_)))))))))
  have w57_0 : IntKind.i64.wrap (takeV (n - 1) mo) = takeV (n - 1) mo := (IntWalk.i64_in _ (by have h9 := @takeV_rng (n - 1) (by omega) mo; omega))
  have tr57 := @takeV_rng (n - 1) (by omega) mo
  clear bdL3
  refine js (jadd Z Z (by omega)) (ja Z (jn (jx (jq (jq (jr (jm Z (jm Z (js (jleq Z Z) (jm Z (jg Z Z (.t _) (fun hg => jmv Z) ?_)))))))))))
  refine jkga Z Z (.t _) E54 Z (fun hg => evl2 (evg Z hg) Z) (m3take_ct om57 (by omega) 2 (by first | decide | omega)) (dc d0 dn) k0 (by split; exact ⟨take_ok om57.1, om57.2⟩; exact om57.mono (by omega)) fun m64 hm64 om64 bm64 => ?_
  have w64_0 : IntKind.i64.wrap (takeV 2 m57) = takeV 2 m57 := (IntWalk.i64_in _ (by have h9 := @takeV_rng 2 (by omega) m57; omega))
  have tr64 := @takeV_rng 2 (by omega) m57
  clear bm57
  refine jg Z Z (.t _) (fun hg => jeql (evg Z hg) Z) (js (jand Z Z) (jn (jx ?_)))
  refine jif Z (fun hc5 => ?_) (fun hc5 => ?_)
  refine jr (jm Z (js (jadd Z Z (by omega)) (jm Z (js (jsub Z Z (by omega)) (js (jmin Z Z) (ja Z (jn (jx (jr (jm Z (jm Z ?_)))))))))))
  refine jm Z (jm Z (js (jig U52 Z22 k2 Z Z Z (by omega)) (js (jgW k2 (by omega) O22 Z) (jm Z ?_))))
  have hX : tgX n ((b : Nat) : Int) mo = (min (((b : Nat) : Int) + 1) (n - 1), m64) := by
    try simp only [hm57, hm64] at hc5
    simp only [hm57, hm64]
    by_cases hA : 1 + takeV (n - 1) mo ≤ (b : Int) <;> by_cases hB : takeV 2 (takeS mo) = 0 <;> simp [hA, hB] at hc5 <;> simp [tgX, hA, hB]
  have hz := hrw3 b
  refine jro b k1 (by omega) (by omega) (jgo k0 fun w9 => japv U22 I3 (by decide) Z Z k0 Z (wI (wp (IntWalk.i64_in _ (by omega)))) (by omega) (fun _ => Z) fun v80 _ w10 => js (jig U52 Z22 k3 Z Z Z (by omega)) (jsg k3 Z Z22 Z Z w10.one (by omega) (wV w10.one) (jru k1 k1 (by omega) (by omega) (jn (jbn (jx (jr (jm Z (js (jadd Z Z (by omega)) ?_)))))))))
  refine ja Z (jn ?_)
  exact jag (i + 1, List.set vs3 b v80, List.set lu b ((List.getD lu b []) ++ [min (((b : Nat) : Int) + 1) (n - 1)]), m64) ⟨by dsimp only; split <;> omega, by simp [hvl3], by simp [hll3], rows_set hrw3 _ _, by dsimp only; rw [hR3, show (if 1 < n then (takeV 6 mn - 3).toNat else 0) - i = ((if 1 < n then (takeV 6 mn - 3).toNat else 0) - (i + 1)) + 1 by split <;> omega, tgI, hX]; (first | done | rfl), om64.mono (by omega)⟩ (dc d0 dn) (kc k2 (kd kn)) ⟨Z, Z, Z, Z, Z, Z, eqI (by omega), trivial⟩ (by dsimp only; split <;> omega)
  refine jsk (jx (jr (jm Z (jm Z (jm Z (jm Z (js (jig U52 Z22 k2 Z Z Z (by omega)) (js (jgW k2 (by omega) O22 Z) (jm Z ?_)))))))))
  have hX : tgX n ((b : Nat) : Int) mo = (1 + (takeV (n - 1) mo), m64) := by
    try simp only [hm57, hm64] at hc5
    simp only [hm57, hm64]
    by_cases hA : 1 + takeV (n - 1) mo ≤ (b : Int) <;> by_cases hB : takeV 2 (takeS mo) = 0 <;> simp [hA, hB] at hc5 <;> simp [tgX, hA, hB]
  have hz := hrw3 b
  refine jro b k1 (by omega) (by omega) (jgo k0 fun w12 => japv U22 I3 (by decide) Z Z k0 Z (wI (wp (IntWalk.i64_in _ (by omega)))) (by omega) (fun _ => Z) fun v80_13 _ w14 => js (jig U52 Z22 k3 Z Z Z (by omega)) (jsg k3 Z Z22 Z Z w14.one (by omega) (wV w14.one) (jru k1 k1 (by omega) (by omega) (jn (jbn (jx (jr (jm Z (js (jadd Z Z (by omega)) ?_)))))))))
  refine ja Z (jn ?_)
  exact jag (i + 1, List.set vs3 b v80_13, List.set lu b ((List.getD lu b []) ++ [1 + (takeV (n - 1) mo)]), m64) ⟨by dsimp only; split <;> omega, by simp [hvl3], by simp [hll3], rows_set hrw3 _ _, by dsimp only; rw [hR3, show (if 1 < n then (takeV 6 mn - 3).toNat else 0) - i = ((if 1 < n then (takeV 6 mn - 3).toNat else 0) - (i + 1)) + 1 by split <;> omega, tgI, hX]; (first | done | rfl), om64.mono (by omega)⟩ (dc d0 dn) (kc k2 (kd kn)) ⟨Z, Z, Z, Z, Z, Z, eqI (by omega), trivial⟩ (by dsimp only; split <;> omega)
  have hI : tgI n ↑b (if 1 < n then (takeV 6 mn - 3).toNat else 0) lt (takeS mn) = (lu, mo) := by rw [← hm43, hR3, show (if 1 < n then (takeV 6 mn - 3).toNat else 0) - i = 0 by split <;> omega]; rfl
  have hJ9 : (if 1 < n then (takeV 6 mn - 3).toNat else 0) ≤ 2 := by have h6 := takeV_rng (n := 6) (by omega) mn; split <;> omega
  refine jex (jtx (jtx (jbh (jbn (jx (jr (jm Z (js (jadd Z Z (by omega)) (ja Z (jn ?_))))))))))
  exact jag (b + 1, vs3, lu, mo) ⟨by dsimp only; omega, hvl3, hll3, rows_mono hrw3 (by omega), by dsimp only; rw [hR2, show n.toNat - b = (n.toNat - (b + 1)) + 1 by omega, tgB, hI]; rfl, okL3.mono (by omega)⟩ (dc d0 dn) (kc k1 (kc k1 (kc k0 kn))) ⟨Z, Z, Z, Z, eqI (by omega), trivial⟩
  have hT : targM n m = (lt, mn) := by rw [targM, hA1]; dsimp only; rw [hR2, show n.toNat - b = 0 by omega]; rfl
  refine jex (jtx (jtx (jbh (jx (jq (jr (jm Z (ja Z (jn (jx (jrt ?_)))))))))))
  have hv0 : (targM n m).1 = lt := (by rw [hT])
  have hst : mn = (targM n m).2 := (by rw [hT])
  refine qfr k1 k0 (by omega) (by omega) (fun l9 h9 => by obtain ⟨j, hj, rfl⟩ := List.getElem_of_mem h9; have := hrw2 j; simp [List.getD, hj] at this; omega) ?_
  exact jr1 Z Z (.slice (some ⟨g13, 0, none⟩) (Int.toNat n) (Int.toNat n)) Z (dc (dcast hv0 d0) dn) (fun _ _ => (kcb (by rw [← hst]) k0 kn))
def predsT3 (bs : List D.Block) : Nat → Int → List Int
  | 0, _ => []
  | k + 1, b => predsT3 bs k b ++ (if (ix bs k).Term.To.any (fun y => decide (y = b)) then [(k : Int)] else [])
def preds3 (f : D.Func) (b : Int) : List Int := predsT3 f.Blocks f.Blocks.length b
theorem predsT3_len (bs : List D.Block) (b : Int) : ∀ k, (predsT3 bs k b).length ≤ k
  | 0 => by simp [predsT3]
  | k + 1 => by have := predsT3_len bs b k; rw [predsT3, List.length_append]; split <;> simp <;> omega
theorem none_any {α : Type} {l : List α} {q : α → Bool} (h : ∀ x ∈ l, q x = false) : l.any q = false := by simpa [List.any_eq_false] using h
theorem none_snoc {α : Type} [Inhabited α] {l : List α} {q : α → Bool} {k : Nat} (hk : k < l.length) (h : ∀ x ∈ l.take k, q x = false) (h1 : q (ix l k) = false) : ∀ x ∈ l.take (k + 1), q x = false := by
  rw [take_ix hk]; intro x hx; rcases List.mem_append.1 hx with hx | hx
  · exact h x hx
  · simp at hx; subst hx; exact h1
theorem any_at {α : Type} [Inhabited α] {l : List α} {q : α → Bool} {k : Nat} (hk : k < l.length) (h1 : q (ix l k) = true) : l.any q = true := List.any_eq_true.2 ⟨_, ix_mem hk, h1⟩
def cnt3 (l : List Bool) : Nat := l.countP (fun x => !x)
theorem cnt3_set {l : List Bool} {i : Nat} (hi : i < l.length) (h : ix l i = false) : cnt3 (l.set i true) + 1 = cnt3 l := by
  unfold cnt3
  have h2 : l[i] = false := by rw [← ix_eq hi]; exact h
  rw [List.countP_set hi]
  have : 0 < l.countP (fun x => !x) := List.countP_pos_iff.2 ⟨_, List.getElem_mem hi, by simp [h2]⟩
  simp [h2]; omega
theorem cnt3_rep (n : Nat) : cnt3 (List.replicate n false) = n := by simp [cnt3, List.countP_replicate]
theorem ix_rep (n i : Nat) : ix (List.replicate n false) i = false := by by_cases h : i < n <;> simp [ix, h]
def b3In (w : Int) : List Bool → List Int → List Int → List Bool × List Int
  | se, q, [] => (se, q)
  | se, q, t :: ts => if (0 ≤ t ∧ t < se.length) ∧ ix se t.toNat = false ∧ t ≠ w then b3In w (se.set t.toNat true) (q ++ [t]) ts else b3In w se q ts
def b3 (bs : List D.Block) (w : Int) : Nat → List Bool → List Int → Nat → List Bool
  | 0, se, _, _ => se
  | f + 1, se, q, i => if i < q.length then b3 bs w f (b3In w se q (ix bs (ix q i).toNat).Term.To).1 (b3In w se q (ix bs (ix q i).toNat).Term.To).2 (i + 1) else se
def reach3 (f : D.Func) (w : Int) : List Bool :=
  if w ≠ 0 ∧ 0 < f.Blocks.length then b3 f.Blocks w f.Blocks.length ((List.replicate f.Blocks.length false).set 0 true) [0] 0
  else List.replicate f.Blocks.length false
theorem b3_step {bs : List D.Block} {w : Int} {f i : Nat} {se se2 : List Bool} {q q2 : List Int} (hf : 0 < f) (hi : i < q.length) (h : b3In w se q (ix bs (ix q i).toNat).Term.To = (se2, q2)) : b3 bs w f se q i = b3 bs w (f - 1) se2 q2 (i + 1) := by
  cases f with
  | zero => omega
  | succ f => rw [b3, if_pos hi, h]; rfl
theorem b3_end {bs : List D.Block} {w : Int} {f i : Nat} {se : List Bool} {q : List Int} (hi : q.length ≤ i) : b3 bs w f se q i = se := by
  cases f with
  | zero => rfl
  | succ f => rw [b3, if_neg (by omega)]
theorem b3_nil {bs : List D.Block} {w : Int} {f : Nat} {se : List Bool} : b3 bs w f se [] 0 = se := b3_end (by simp)
theorem b3In_new {w : Int} {se se0 : List Bool} {q q0 T : List Int} {j : Nat} (hj : j < T.length) (hIn : b3In w se q (T.drop j) = b3In w se0 q0 T) (h : (0 ≤ ix T j ∧ ix T j < se.length) ∧ ix se (ix T j).toNat = false ∧ ix T j ≠ w) : b3In w (se.set (ix T j).toNat true) (q ++ [ix T j]) (T.drop (j + 1)) = b3In w se0 q0 T := by
  rw [← hIn, drop_ix hj, b3In, if_pos h]
theorem b3In_old {w : Int} {se se0 : List Bool} {q q0 T : List Int} {j : Nat} (hj : j < T.length) (hIn : b3In w se q (T.drop j) = b3In w se0 q0 T) (h : ¬ ((0 ≤ ix T j ∧ ix T j < se.length) ∧ ix se (ix T j).toNat = false ∧ ix T j ≠ w)) : b3In w se q (T.drop (j + 1)) = b3In w se0 q0 T := by
  rw [← hIn, drop_ix hj, b3In, if_neg h]
theorem b3In_len {w : Int} : ∀ (T : List Int) (se : List Bool) (q : List Int), (b3In w se q T).1.length = se.length
  | [], _, _ => rfl
  | t :: ts, se, q => by rw [b3In]; split; (· rw [b3In_len ts]; simp); exact b3In_len ts se q
theorem b3_len {bs : List D.Block} {w : Int} : ∀ (f : Nat) (se : List Bool) (q : List Int) (i : Nat), (b3 bs w f se q i).length = se.length
  | 0, _, _, _ => rfl
  | f + 1, se, q, i => by rw [b3]; split; (· rw [b3_len f, b3In_len]); rfl
theorem reach3_len (f : D.Func) (w : Int) : (reach3 f w).length = f.Blocks.length := by unfold reach3; split; (· rw [b3_len]; simp); simp
def phT (b : Int) (i : Nat) (p : D.Phi) : D.jacquardref03_Thing := ⟨b, -1 - i, [p.Dst], p.In.map (·.Val)⟩
def phL (b : Int) : Nat → List D.Phi → List D.jacquardref03_Thing
  | _, [] => []
  | i, p :: l => phT b i p :: phL b (i + 1) l
def inT (b : Int) (i : Nat) (x : D.Ins) : D.jacquardref03_Thing := ⟨b, i, makes3 x, x.Args⟩
def inL (b : Int) : Nat → List D.Ins → List D.jacquardref03_Thing
  | _, [] => []
  | i, x :: l => inT b i x :: inL b (i + 1) l
def enT (b : Int) (x : D.Block) : D.jacquardref03_Thing := ⟨b, (x.Ins.length : Nat), [], x.Term.Args⟩
def blL : Nat → List D.Block → List D.jacquardref03_Thing
  | _, [] => []
  | b, x :: l => phL b 0 x.Phis ++ (inL b 0 x.Ins ++ (enT b x :: blL (b + 1) l))
def things3 (f : D.Func) : List D.jacquardref03_Thing := blL 0 f.Blocks
theorem phL_len (b : Int) : ∀ (l : List D.Phi) (i : Nat), (phL b i l).length = l.length
  | [], _ => rfl
  | _ :: l, i => by simp [phL, phL_len b l]
theorem inL_len (b : Int) : ∀ (l : List D.Ins) (i : Nat), (inL b i l).length = l.length
  | [], _ => rfl
  | _ :: l, i => by simp [inL, inL_len b l]
theorem blL_len : ∀ (l : List D.Block) (b : Nat), (blL b l).length = cntT l
  | [], _ => rfl
  | x :: l, b => by simp [blL, cntT, phL_len, inL_len, blL_len l]; omega
theorem pre_len {α : Type} {a b c : List α} (h : a = b ++ c) : b.length ≤ a.length := by rw [h]; simp
theorem bl_0 {a out : List D.jacquardref03_Thing} {l : List D.Block} {k : Nat} (hk : k < l.length) (h : a = out ++ blL k (l.drop k)) : a = out ++ (phL k 0 ((ix l k).Phis.drop 0) ++ (inL k 0 (ix l k).Ins ++ (enT k (ix l k) :: blL (k + 1) (l.drop (k + 1))))) := by rw [h, drop_ix hk, blL]; rfl
theorem ph_1 {a out r : List D.jacquardref03_Thing} {b : Int} {l : List D.Phi} {i : Nat} (hi : i < l.length) (h : a = out ++ (phL b i (l.drop i) ++ r)) : a = (out ++ [phT b i (ix l i)]) ++ (phL b (i + 1) (l.drop (i + 1)) ++ r) := by rw [h, drop_ix hi, phL]; simp
theorem ph_2 {a out r : List D.jacquardref03_Thing} {b : Int} {l : List D.Phi} {i : Nat} (hi : l.length ≤ i) (h : a = out ++ (phL b i (l.drop i) ++ r)) : a = out ++ r := by rw [h, List.drop_of_length_le hi]; rfl
theorem in_1 {a out r : List D.jacquardref03_Thing} {b : Int} {l : List D.Ins} {i : Nat} (hi : i < l.length) (h : a = out ++ (inL b i (l.drop i) ++ r)) : a = (out ++ [inT b i (ix l i)]) ++ (inL b (i + 1) (l.drop (i + 1)) ++ r) := by rw [h, drop_ix hi, inL]; simp
theorem in_2 {a out r : List D.jacquardref03_Thing} {b : Int} {l : List D.Ins} {i : Nat} (hi : l.length ≤ i) (h : a = out ++ (inL b i (l.drop i) ++ r)) : a = out ++ r := by rw [h, List.drop_of_length_le hi]; rfl
theorem bl_1 {a out r : List D.jacquardref03_Thing} {x : D.jacquardref03_Thing} (h : a = out ++ (x :: r)) : a = (out ++ [x]) ++ r := by rw [h]; simp
theorem map_snoc {α β : Type} [Inhabited α] {g : α → β} {l : List α} {k : Nat} (hk : k < l.length) : (l.take (k + 1)).map g = (l.take k).map g ++ [g (ix l k)] := by rw [take_ix hk]; simp
def stands3 (f : D.Func) (b : Int) (t : D.jacquardref03_Thing) : Bool := decide (t.Block = b) || !(ix (reach3 f t.Block) b.toNat)
def standL (f : D.Func) (b : Int) (l : List D.jacquardref03_Thing) : List Int := l.flatMap (fun t => if stands3 f b t then t.Makes else [])
def numsL (n : Nat) : List Int := (List.range n).map (fun (i : Nat) => (i : Int))
def stand3 (f : D.Func) (b : Int) : List Int := numsL f.Params.toNat ++ standL f b (things3 f)
theorem numsL_s (n : Nat) : numsL (n + 1) = numsL n ++ [(n : Int)] := by simp [numsL, List.range_succ]
theorem numsL_len (n : Nat) : (numsL n).length = n := by simp [numsL]
theorem standL_s {f : D.Func} {b : Int} {l : List D.jacquardref03_Thing} {k : Nat} (hk : k < l.length) : standL f b (l.take (k + 1)) = standL f b (l.take k) ++ (if stands3 f b (ix l k) then (ix l k).Makes else []) := by
  rw [take_ix hk]; simp [standL]
theorem makes_in {b : Int} : ∀ {l : List D.Ins} {i : Nat} {t : D.jacquardref03_Thing}, t ∈ inL b i l → t.Makes.length ≤ 2
  | [], _, _, h => by cases h
  | x :: l, i, t, h => by
    rcases List.mem_cons.1 h with h | h
    · subst h; exact makes3_len x
    · exact makes_in h
theorem makes_ph {b : Int} : ∀ {l : List D.Phi} {i : Nat} {t : D.jacquardref03_Thing}, t ∈ phL b i l → t.Makes.length ≤ 2
  | [], _, _, h => by cases h
  | x :: l, i, t, h => by
    rcases List.mem_cons.1 h with h | h
    · subst h; simp [phT]
    · exact makes_ph h
theorem makes_bl : ∀ {l : List D.Block} {b : Nat} {t : D.jacquardref03_Thing}, t ∈ blL b l → t.Makes.length ≤ 2
  | [], _, _, h => by cases h
  | x :: l, b, t, h => by
    rw [blL] at h
    rcases List.mem_append.1 h with h | h
    · exact makes_ph h
    · rcases List.mem_append.1 h with h | h
      · exact makes_in h
      · rcases List.mem_cons.1 h with h | h
        · subst h; simp [enT]
        · exact makes_bl h
theorem standL_len {f : D.Func} {b : Int} : ∀ {l : List D.jacquardref03_Thing}, (∀ t ∈ l, t.Makes.length ≤ 2) → (standL f b l).length ≤ 2 * l.length
  | [], _ => by simp [standL]
  | x :: l, h => by
    have h1 := standL_len (f := f) (b := b) (l := l) (fun t ht => h t (List.mem_cons_of_mem _ ht))
    have h2 := h x (List.mem_cons_self)
    unfold standL at *
    rw [List.flatMap_cons, List.length_append, List.length_cons]
    split
    · omega
    · simp only [List.length_nil]; omega
theorem things3_len (f : D.Func) : (things3 f).length = cntT f.Blocks := blL_len _ _
theorem things3_mk (f : D.Func) : ∀ t ∈ things3 f, t.Makes.length ≤ 2 := fun _ h => makes_bl h
theorem okM0 (s : List Int) : okM 0 0 ⟨s, 0, 0, [], 0, []⟩ := by simp [okM, cntT]
theorem r3preds_ct {a0 : Value} {f : D.Func} (block : Int) : Tg Tryz.prog 98 #[vFunc f a0, .int .i64 block] [da rFunc (vFunc f a0) f] [] (rI .i64) 3 (preds3 f block) := by
  refine jenter (args := [vFunc f a0, .int .i64 block]) Tryz.func98 rfl rfl rfl fun w0 X => ?_
  refine jq (jr (jbox Z Z fun g2 => ja Z (jn (jx (jq (jr (jlit (r := (rI .i64)) (l := []) U22 I3 (by decide) Z Z Z ln fun g9 => ja Z (jn (jx ?_)))))))))
  refine jq (jq (jr (ja Z (jn (jx (jb ?_))))))
  refine jlp (u3 fun (k : Nat) (vo : Value) (lo : List Int) => ⟨k ≤ f.Blocks.length ∧ lo = predsT3 f.Blocks k block, [da rFunc (vFunc f a0) f], [gl X.n (rI .i64) 3 vo lo, bx g2 104 [.int .i64 f.Params, a0]], [(1, .int .i64 block), (2, .pointer (some ⟨g2, 0, none⟩)), (4, .slice none 0 0), (5, vo), (6, .int .i64 (↑k))], f.Blocks.length - k⟩) (0, (.slice (some ⟨g9, 0, none⟩) 0 0), []) ⟨by dsimp only; omega, rfl⟩ (dc d0 dn) (kd kn) ⟨Z, Z, Z, Z, eqI (by omega), trivial⟩ ?_
  rintro ⟨k, vo, lo⟩; dsimp only [u3]; rintro ⟨hk, hlo⟩
  refine cgo k0 fun w1 => ?_
  have hll : lo.length ≤ k := by rw [hlo]; exact predsT3_len _ _ _
  refine jq (jq (jr (jm Z (js (jf F104_1 Z) (js (jl k1 O102 Z Z) (jdq (rFunc.c_Blocks d0) fun q2 w2 => js (jln U102 (rFunc.c_Blocks d0) Z) (js (jlss Z Z) (jn (jx ?_)))))))))
  refine jif Z (fun hc1 => ?_) (fun hc1 => ?_)
  refine jsk (jx (jq (jb (jq (jr (js (jf F104_1 Z) (js (jl k1 O102 Z Z) (jm Z (js (jix U102 Z160 (rFunc.c_Blocks d0) Z Z Z (by omega)) (js (jf F160_2 Z) (js (jf F158_2 Z) ?_)))))))))))
  refine jev (jlV (rTerm.A_To (rBlock.A_Term (dix (rFunc.c_Blocks d0) k (by omega)))) O22 Z Z) fun v23 q3 w3 => ja Z (jn (jx (jq (jr (ja Z (jn (jx (jb ?_))))))))
  refine jlp (fun (j : Nat) => ⟨j ≤ (ix f.Blocks k).Term.To.length ∧ (∀ x ∈ (ix f.Blocks k).Term.To.take j, decide (x = block) = false), [dv (rL (rI .i64)) v23 (((ix f.Blocks k).Term).To), da rFunc (vFunc f a0) f], [gl X.n (rI .i64) 3 vo lo, bx g2 104 [.int .i64 f.Params, a0]], [(1, .int .i64 block), (2, .pointer (some ⟨g2, 0, none⟩)), (4, .slice none 0 0), (5, vo), (6, .int .i64 (↑k)), (7, v23), (8, .int .i64 (↑j))], (ix f.Blocks k).Term.To.length - j⟩) 0 ⟨Nat.zero_le _, by simp⟩ (dc d0 (dc d1 dn)) (kd kn) ⟨Z, Z, Z, Z, Z, Z, eqI (by omega), trivial⟩ ?_
  rintro j; dsimp only; rintro ⟨hj, hno⟩
  refine jq (jq (jr (jm Z (jm Z (js (jln U22 d0 Z) (js (jlss Z Z) (jn (jx ?_))))))))
  refine jif Z (fun hc2 => ?_) (fun hc2 => ?_)
  refine jsk (jx (jq (jb (jq (jr (jm Z (jm Z (js (jix U22 Z3 d0 Z Z Z (by omega)) (js (jlI (dix d0 j (by omega)) O3 Z) (jm Z (js (jeql Z Z) ?_)))))))))))
  refine jn (jx ?_)
  refine jif Z (fun hc3 => ?_) (fun hc3 => ?_)
  refine jq (jr (jm Z (jm Z (japv U22 I3 (by decide) Z Z k0 Z (wI (wp (IntWalk.i64_in _ (by omega)))) (by omega) (fun _ => Z) fun v39 _ w5 => ja Z (jn (jx (jex (jbo (jtx (jtx ?_))))))))))
  refine jbh (jbn (jx (jr (jm Z (js (jadd Z Z (by omega)) (ja Z (jn ?_)))))))
  exact jag (k + 1, v39, lo ++ [((k : Nat) : Int)]) ⟨by dsimp only; omega, by dsimp only; rw [predsT3, any_at (k := j) (by omega) (by simpa using hc3), hlo]; simp⟩ (dc d1 dn) (kd kn) ⟨Z, Z, Z, Z, eqI (by omega), trivial⟩
  refine jsk (jbn (jx (jr (jm Z (js (jadd Z Z (by omega)) (ja Z (jn ?_)))))))
  exact jag (j + 1) ⟨by omega, none_snoc (by omega) hno (by simpa using hc3)⟩ (dc d0 (dc d1 dn)) (kd kn) ⟨Z, Z, Z, Z, Z, Z, eqI (by omega), trivial⟩
  refine jex (jtx (jtx (jbh (jbn (jx (jr (jm Z (js (jadd Z Z (by omega)) (ja Z (jn ?_))))))))))
  exact jag (k + 1, vo, lo) ⟨by dsimp only; omega, by dsimp only; rw [predsT3, none_any (l := (ix f.Blocks k).Term.To) (by have h9 := hno; rw [List.take_of_length_le (by omega)] at h9; exact h9), hlo]; simp⟩ (dc d1 dn) (kd kn) ⟨Z, Z, Z, Z, eqI (by omega), trivial⟩
  refine jex (jtx (jtx (jbh (jx (jq (jr (jm Z (ja Z (jn (jx (jrt ?_)))))))))))
  exact jrG Z Z (by have e9 : k = f.Blocks.length := (by omega); subst e9; exact hlo.symm) k0
set_option maxRecDepth 4000 in
theorem r3reach_ct {a0 : Value} {f : D.Func} (without : Int) : Tg Tryz.prog 100 #[vFunc f a0, .int .i64 without] [da rFunc (vFunc f a0) f] [] rB 4 (reach3 f without) := by
  refine jenter (args := [vFunc f a0, .int .i64 without]) Tryz.func100 rfl rfl rfl fun w0 X => ?_
  refine jq (jr (jbox Z Z fun g2 => ja Z (jn (jx (jq (jr (js (jf F104_1 Z) (js (jl k0 O102 Z Z) (jdq (rFunc.c_Blocks d0) fun q1 w1 => js (jln U102 (rFunc.c_Blocks d0) Z) ?_)))))))))
  refine jmk (m := (List.length f.Blocks)) (r := rB) U93 I4 Z Z Z Z Z (by omega) wB Z fun g13 => ja Z (jn (jx (jq (jr (jlit (r := (rI .i64)) (l := []) U22 I3 (by decide) Z Z Z ln fun g14 => ja Z (jn (jx (jq (jq ?_)))))))))
  refine jr (jm Z (js (jneq Z Z) (jm Z (jg Z Z (.t _) (fun hg => jf F104_1 Z) (jg Z Z (.t _) (fun hg => jl k2 O102 (evg Z hg) Z) (jg Z Z (.t _) (fun hg => jln U102 (rFunc.c_Blocks d0) (evg Z hg)) (jg Z Z (.t _) (fun hg => jgtr (evg Z hg) Z) (js (jand Z Z) (jn (jx ?_))))))))))
  refine jif Z (fun hc1 => ?_) (fun hc1 => ?_)
  refine jq (jr (jm Z (js (jig (i := 0) U93 Z4 k1 Z Z Z (by rw [lrep]; omega)) (jsg k1 Z Z4 Z Z Z (by rw [lrep]; omega) wB (jn (jx (jr (jm Z (japvz U22 I3 (by decide) Z Z k1 Z (wI (wl 0)) (fun _ => Z) fun v27 _ w2 => ja Z (jn ?_))))))))))
  refine jx (jq (jq (jr (ja Z (jn (jx (jb ?_)))))))
  refine jlp (u4 fun (i : Nat) (se : List Bool) (l : List Int) (vl : Value) => ⟨reach3 f without = b3 f.Blocks without (f.Blocks.length - i) se l i ∧ cnt3 se + l.length ≤ f.Blocks.length ∧ i ≤ l.length ∧ se.length = f.Blocks.length ∧ (∀ x ∈ l, 0 ≤ x ∧ x < f.Blocks.length), [da rFunc (vFunc f a0) f], [gl X.n (rI .i64) 3 vl l, gl X.n rB 4 (.slice (some ⟨g13, 0, none⟩) (List.length f.Blocks) (List.length f.Blocks)) se, bx g2 104 [.int .i64 f.Params, a0]], [(1, .int .i64 without), (2, .pointer (some ⟨g2, 0, none⟩)), (4, .slice none 0 0), (5, (.slice (some ⟨g13, 0, none⟩) (List.length f.Blocks) (List.length f.Blocks))), (6, vl), (7, .int .i64 (↑i))], f.Blocks.length - i⟩) (0, List.set (List.replicate (List.length f.Blocks) false) 0 true, [0], v27) ⟨by first | (unfold reach3; rw [if_pos (by omega)]; rfl) | (unfold reach3; rw [if_neg (by omega)]; exact b3_nil.symm), by dsimp only; first | (rw [cnt3_rep]; simp; done) | (have h9 := cnt3_set (l := List.replicate f.Blocks.length false) (i := 0) (by simp; omega) (ix_rep _ _); rw [cnt3_rep] at h9; simp only [List.length_cons, List.length_nil]; omega), by simp, by simp, by first | (simp; done) | (simp; omega)⟩ (dc d0 dn) (kd (kc k0 kn)) ⟨Z, Z, Z, Z, Z, eqI (by omega), trivial⟩ ?_
  rintro ⟨i, se, l, vl⟩; dsimp only [u4]; rintro ⟨hb, hcn, hil, hse, hq⟩
  refine cgo k0 fun w3 => jq (jq (jr (jm Z (jm Z (js (jlg U22 k0 Z) (js (jlss Z Z) (jn (jx ?_))))))))
  refine jif Z (fun hc2 => ?_) (fun hc2 => ?_)
  have hqi := hq _ (ix_mem (l := l) (i := i) (by omega))
  refine jsk (jx (jq (jb (jq (jstl Mixed (by kernel_rfl) (jt (jf F104_1 Z) (jt (jl k2 O102 Z Z) (jt (jmv Z) (jt (jmv Z) (jt (jig U22 Z3 k0 Z Z Z (by omega)) (jt (jgI k0 (by omega) O3 Z) ?_)))))))))))
  refine jt (jix (i := (Int.toNat (ix l i))) U102 Z160 (rFunc.c_Blocks d0) Z Z (by omega) (by omega)) (jt (jf F160_2 Z) (jt (jf F158_2 Z) (jtv (jlV (rTerm.A_To (rBlock.A_Term (dix (rFunc.c_Blocks d0) (Int.toNat (ix l i)) (by omega)))) O22 Z Z) fun v43 q4 w4 => jt (jas Z) (jdn (jx (jq (jr (ja Z (jn (jx ?_))))))))))
  refine jb ?_
  refine jlp (u4 fun (j : Nat) (se2 : List Bool) (l2 : List Int) (vl2 : Value) => ⟨j ≤ (ix f.Blocks (Int.toNat (ix l i))).Term.To.length ∧ b3In without se2 l2 ((ix f.Blocks (Int.toNat (ix l i))).Term.To.drop j) = b3In without se l (ix f.Blocks (Int.toNat (ix l i))).Term.To ∧ cnt3 se2 + l2.length ≤ f.Blocks.length ∧ se2.length = f.Blocks.length ∧ (∀ x ∈ l2, 0 ≤ x ∧ x < f.Blocks.length) ∧ i < l2.length, [dv (rL (rI .i64)) v43 (((ix f.Blocks (Int.toNat (ix l i))).Term).To), da rFunc (vFunc f a0) f], [gl X.n (rI .i64) 3 vl2 l2, gl X.n rB 4 (.slice (some ⟨g13, 0, none⟩) (List.length f.Blocks) (List.length f.Blocks)) se2, bx g2 104 [.int .i64 f.Params, a0]], [(1, .int .i64 without), (2, .pointer (some ⟨g2, 0, none⟩)), (4, .slice none 0 0), (5, (.slice (some ⟨g13, 0, none⟩) (List.length f.Blocks) (List.length f.Blocks))), (6, vl2), (7, .int .i64 (↑i)), (8, v43), (9, .int .i64 (↑j))], (ix f.Blocks (Int.toNat (ix l i))).Term.To.length - j⟩) (0, se, l, vl) ⟨Nat.zero_le _, rfl, hcn, hse, hq, by dsimp only; omega⟩ (dc d0 (dc d1 dn)) (kd (kc k0 kn)) ⟨Z, Z, Z, Z, Z, Z, Z, eqI (by omega), trivial⟩ ?_
  rintro ⟨j, se2, l2, vl2⟩; dsimp only [u4]; rintro ⟨hj, hIn, hcn2, hse2, hq2, hi2⟩
  refine cgo k0 fun w6 => jq (jq (jr (jm Z (jm Z (js (jln U22 d0 Z) (js (jlss Z Z) (jn (jx ?_))))))))
  refine jif Z (fun hc3 => ?_) (fun hc3 => ?_)
  refine jsk (jx (jq (jb (jq (jr (jm Z (jm Z (js (jix U22 Z3 d0 Z Z Z (by omega)) (js (jlI (dix d0 j (by omega)) O3 Z) (js (jgeq Z Z) (jm Z ?_)))))))))))
  refine jg Z Z (.t _) (fun hg => jmv Z) (jg Z Z (.t _) (fun hg => jmv Z) (jg Z Z (.t _) (fun hg => jix U22 Z3 d0 (evg Z hg) (evg Z hg) Z (by first | omega | (simp at hg; omega) | (simp only [List.length_set]; omega))) (jg Z Z (.t _) (fun hg => jlI (dix d0 j (by first | omega | (simp at hg; omega) | (simp only [List.length_set]; omega))) O3 (evg Z hg)) (jg Z Z (.t _) (fun hg => jmv Z) (jg Z Z (.t _) (fun hg => jlg U93 k1 (evg Z hg)) (jg Z Z (.t _) (fun hg => jlss (evg Z hg) (evg Z hg)) (js (jand Z Z) (jm Z (jg Z Z (.t _) (fun hg => jmv Z) (jg Z Z (.t _) (fun hg => jmv Z) (jg Z Z (.t _) (fun hg => jmv Z) ?_)))))))))))
  refine jg Z Z (.t _) (fun hg => jix U22 Z3 d0 (evg Z hg) (evg Z hg) Z (by first | omega | (simp at hg; omega) | (simp only [List.length_set]; omega))) (jg Z Z (.t _) (fun hg => jlI (dix d0 j (by first | omega | (simp at hg; omega) | (simp only [List.length_set]; omega))) O3 (evg Z hg)) (jg Z Z (.t _) (fun hg => jig (i := (Int.toNat (ix (((ix f.Blocks (Int.toNat (ix l i))).Term).To) j))) U93 Z4 k1 (evg Z hg) (evg Z hg) (by first | omega | (simp at hg; omega)) (by first | omega | (simp at hg; omega) | (simp only [List.length_set]; omega))) (jg Z Z (.t _) (fun hg => jgB k1 (by first | omega | (simp at hg; omega) | (simp only [List.length_set]; omega)) O4 (evg Z hg)) (jg Z Z (.t _) (fun hg => jnot (evg Z hg)) (js (jand Z Z) (jm Z (jg Z Z (.t _) (fun hg => jmv Z) (jg Z Z (.t _) (fun hg => jmv Z) (jg Z Z (.t _) (fun hg => jix U22 Z3 d0 (evg Z hg) (evg Z hg) Z (by first | omega | (simp at hg; omega) | (simp only [List.length_set]; omega))) (jg Z Z (.t _) (fun hg => jlI (dix d0 j (by first | omega | (simp at hg; omega) | (simp only [List.length_set]; omega))) O3 (evg Z hg)) (jg Z Z (.t _) (fun hg => jmv Z) ?_)))))))))))
  refine jg Z Z (.t _) (fun hg => jneq (evg Z hg) (evg Z hg)) (js (jand Z Z) (jn (jx ?_)))
  refine jif Z (fun hc4 => ?_) (fun hc4 => ?_)
  have hcx : ((0 ≤ ix (ix f.Blocks (Int.toNat (ix l i))).Term.To j ∧ ix (ix f.Blocks (Int.toNat (ix l i))).Term.To j < se2.length) ∧ ix se2 (Int.toNat (ix (ix f.Blocks (Int.toNat (ix l i))).Term.To j)) = false ∧ ix (ix f.Blocks (Int.toNat (ix l i))).Term.To j ≠ without) := by simpa [and_assoc] using hc4
  refine jq (jr (jm Z (jm Z (jm Z (js (jix U22 Z3 d0 Z Z Z (by omega)) (js (jlI (dix d0 j (by omega)) O3 Z) (js (jig (i := (Int.toNat (ix (((ix f.Blocks (Int.toNat (ix l i))).Term).To) j))) U93 Z4 k1 Z Z (by omega) (by omega)) (jsg k1 Z Z4 Z Z Z (by omega) wB (jn (jx (jr ?_)))))))))))
  refine jm Z (jm Z (jm Z (js (jix U22 Z3 d0 Z Z Z (by omega)) (js (jlI (dix d0 j (by omega)) O3 Z) (japv U22 I3 (by decide) Z Z k1 Z (wI (wad (dix d0 j (by omega)))) (by omega) (fun _ => Z) fun v94 _ w7 => ja Z (jn (jbn (jx (jr (jm Z ?_))))))))))
  refine js (jadd Z Z (by omega)) (ja Z (jn ?_))
  exact jag (j + 1, List.set se2 (Int.toNat (ix (((ix f.Blocks (Int.toNat (ix l i))).Term).To) j)) true, l2 ++ [ix (((ix f.Blocks (Int.toNat (ix l i))).Term).To) j], v94) ⟨by dsimp only; omega, b3In_new (by omega) hIn hcx, by dsimp only; have h9 := cnt3_set (l := se2) (i := Int.toNat (ix (ix f.Blocks (Int.toNat (ix l i))).Term.To j)) (by omega) hcx.2.1; rw [List.length_append]; simp; omega, by dsimp only; rw [List.length_set]; exact hse2, by dsimp only; intro x hx9; rcases List.mem_append.1 hx9 with h9 | h9; (· exact hq2 x h9); (simp at h9; subst h9; omega), by dsimp only; rw [List.length_append]; omega⟩ (dc d0 (dc d1 dn)) (kd (kc k0 kn)) ⟨Z, Z, Z, Z, Z, Z, Z, eqI (by omega), trivial⟩
  have hcx : ¬ ((0 ≤ ix (ix f.Blocks (Int.toNat (ix l i))).Term.To j ∧ ix (ix f.Blocks (Int.toNat (ix l i))).Term.To j < se2.length) ∧ ix se2 (Int.toNat (ix (ix f.Blocks (Int.toNat (ix l i))).Term.To j)) = false ∧ ix (ix f.Blocks (Int.toNat (ix l i))).Term.To j ≠ without) := by rintro ⟨⟨a1, a2⟩, a3, a4⟩; simp [a3, a4] at hc4; omega
  refine jsk (jbn (jx (jr (jm Z (js (jadd Z Z (by omega)) (ja Z (jn ?_)))))))
  exact jag (j + 1, se2, l2, vl2) ⟨by dsimp only; omega, b3In_old (by omega) hIn hcx, hcn2, hse2, hq2, hi2⟩ (dc d0 (dc d1 dn)) (kd (kc k0 kn)) ⟨Z, Z, Z, Z, Z, Z, Z, eqI (by omega), trivial⟩
  refine jex (jtx (jtx (jbh (jbn (jx (jr (jm Z (js (jadd Z Z (by omega)) (ja Z (jn ?_))))))))))
  exact jag (i + 1, se2, l2, vl2) ⟨by dsimp only; rw [hb, b3_step (by omega) (by omega) (show b3In _ _ _ _ = (se2, l2) by rw [← hIn, List.drop_of_length_le (by omega)]; rfl), show f.Blocks.length - i - 1 = f.Blocks.length - (i + 1) by omega], by dsimp only; omega, by dsimp only; omega, hse2, hq2⟩ (dc d1 dn) (kd (kc k0 kn)) ⟨Z, Z, Z, Z, Z, eqI (by omega), trivial⟩
  refine jex (jtx (jtx (jbh (jx (jq (jr (jm Z (ja Z (jn (jx (jrt ?_)))))))))))
  exact jrG Z Z (by rw [hb]; exact b3_end (by omega)) k1
  refine jsk (jx (jq (jq (jr (ja Z (jn (jx (jb ?_))))))))
  refine jlp (u4 fun (i : Nat) (se : List Bool) (l : List Int) (vl : Value) => ⟨reach3 f without = b3 f.Blocks without (f.Blocks.length - i) se l i ∧ cnt3 se + l.length ≤ f.Blocks.length ∧ i ≤ l.length ∧ se.length = f.Blocks.length ∧ (∀ x ∈ l, 0 ≤ x ∧ x < f.Blocks.length), [da rFunc (vFunc f a0) f], [gl X.n (rI .i64) 3 vl l, gl X.n rB 4 (.slice (some ⟨g13, 0, none⟩) (List.length f.Blocks) (List.length f.Blocks)) se, bx g2 104 [.int .i64 f.Params, a0]], [(1, .int .i64 without), (2, .pointer (some ⟨g2, 0, none⟩)), (4, .slice none 0 0), (5, (.slice (some ⟨g13, 0, none⟩) (List.length f.Blocks) (List.length f.Blocks))), (6, vl), (7, .int .i64 (↑i))], f.Blocks.length - i⟩) (0, List.replicate (List.length f.Blocks) false, [], (.slice (some ⟨g14, 0, none⟩) 0 0)) ⟨by first | (unfold reach3; rw [if_pos (by omega)]; rfl) | (unfold reach3; rw [if_neg (by omega)]; exact b3_nil.symm), by dsimp only; first | (rw [cnt3_rep]; simp; done) | (have h9 := cnt3_set (l := List.replicate f.Blocks.length false) (i := 0) (by simp; omega) (ix_rep _ _); rw [cnt3_rep] at h9; simp only [List.length_cons, List.length_nil]; omega), by simp, by simp, by first | (simp; done) | (simp; omega)⟩ (dc d0 dn) (kd (kc k0 kn)) ⟨Z, Z, Z, Z, Z, eqI (by omega), trivial⟩ ?_
  rintro ⟨i, se, l, vl⟩; dsimp only [u4]; rintro ⟨hb, hcn, hil, hse, hq⟩
  refine cgo k0 fun w8 => jq (jq (jr (jm Z (jm Z (js (jlg U22 k0 Z) (js (jlss Z Z) (jn (jx ?_))))))))
  refine jif Z (fun hc5 => ?_) (fun hc5 => ?_)
  have hqi := hq _ (ix_mem (l := l) (i := i) (by omega))
  refine jsk (jx (jq (jb (jq (jstl Mixed (by kernel_rfl) (jt (jf F104_1 Z) (jt (jl k2 O102 Z Z) (jt (jmv Z) (jt (jmv Z) (jt (jig U22 Z3 k0 Z Z Z (by omega)) (jt (jgI k0 (by omega) O3 Z) ?_)))))))))))
  refine jt (jix (i := (Int.toNat (ix l i))) U102 Z160 (rFunc.c_Blocks d0) Z Z (by omega) (by omega)) (jt (jf F160_2 Z) (jt (jf F158_2 Z) (jtv (jlV (rTerm.A_To (rBlock.A_Term (dix (rFunc.c_Blocks d0) (Int.toNat (ix l i)) (by omega)))) O22 Z Z) fun v43_9 q10 w10 => jt (jas Z) (jdn (jx (jq (jr (ja Z (jn (jx ?_))))))))))
  refine jb ?_
  refine jlp (u4 fun (j : Nat) (se2 : List Bool) (l2 : List Int) (vl2 : Value) => ⟨j ≤ (ix f.Blocks (Int.toNat (ix l i))).Term.To.length ∧ b3In without se2 l2 ((ix f.Blocks (Int.toNat (ix l i))).Term.To.drop j) = b3In without se l (ix f.Blocks (Int.toNat (ix l i))).Term.To ∧ cnt3 se2 + l2.length ≤ f.Blocks.length ∧ se2.length = f.Blocks.length ∧ (∀ x ∈ l2, 0 ≤ x ∧ x < f.Blocks.length) ∧ i < l2.length, [dv (rL (rI .i64)) v43_9 (((ix f.Blocks (Int.toNat (ix l i))).Term).To), da rFunc (vFunc f a0) f], [gl X.n (rI .i64) 3 vl2 l2, gl X.n rB 4 (.slice (some ⟨g13, 0, none⟩) (List.length f.Blocks) (List.length f.Blocks)) se2, bx g2 104 [.int .i64 f.Params, a0]], [(1, .int .i64 without), (2, .pointer (some ⟨g2, 0, none⟩)), (4, .slice none 0 0), (5, (.slice (some ⟨g13, 0, none⟩) (List.length f.Blocks) (List.length f.Blocks))), (6, vl2), (7, .int .i64 (↑i)), (8, v43_9), (9, .int .i64 (↑j))], (ix f.Blocks (Int.toNat (ix l i))).Term.To.length - j⟩) (0, se, l, vl) ⟨Nat.zero_le _, rfl, hcn, hse, hq, by dsimp only; omega⟩ (dc d0 (dc d1 dn)) (kd (kc k0 kn)) ⟨Z, Z, Z, Z, Z, Z, Z, eqI (by omega), trivial⟩ ?_
  rintro ⟨j, se2, l2, vl2⟩; dsimp only [u4]; rintro ⟨hj, hIn, hcn2, hse2, hq2, hi2⟩
  refine cgo k0 fun w12 => jq (jq (jr (jm Z (jm Z (js (jln U22 d0 Z) (js (jlss Z Z) (jn (jx ?_))))))))
  refine jif Z (fun hc6 => ?_) (fun hc6 => ?_)
  refine jsk (jx (jq (jb (jq (jr (jm Z (jm Z (js (jix U22 Z3 d0 Z Z Z (by omega)) (js (jlI (dix d0 j (by omega)) O3 Z) (js (jgeq Z Z) (jm Z ?_)))))))))))
  refine jg Z Z (.t _) (fun hg => jmv Z) (jg Z Z (.t _) (fun hg => jmv Z) (jg Z Z (.t _) (fun hg => jix U22 Z3 d0 (evg Z hg) (evg Z hg) Z (by first | omega | (simp at hg; omega) | (simp only [List.length_set]; omega))) (jg Z Z (.t _) (fun hg => jlI (dix d0 j (by first | omega | (simp at hg; omega) | (simp only [List.length_set]; omega))) O3 (evg Z hg)) (jg Z Z (.t _) (fun hg => jmv Z) (jg Z Z (.t _) (fun hg => jlg U93 k1 (evg Z hg)) (jg Z Z (.t _) (fun hg => jlss (evg Z hg) (evg Z hg)) (js (jand Z Z) (jm Z (jg Z Z (.t _) (fun hg => jmv Z) (jg Z Z (.t _) (fun hg => jmv Z) (jg Z Z (.t _) (fun hg => jmv Z) ?_)))))))))))
  refine jg Z Z (.t _) (fun hg => jix U22 Z3 d0 (evg Z hg) (evg Z hg) Z (by first | omega | (simp at hg; omega) | (simp only [List.length_set]; omega))) (jg Z Z (.t _) (fun hg => jlI (dix d0 j (by first | omega | (simp at hg; omega) | (simp only [List.length_set]; omega))) O3 (evg Z hg)) (jg Z Z (.t _) (fun hg => jig (i := (Int.toNat (ix (((ix f.Blocks (Int.toNat (ix l i))).Term).To) j))) U93 Z4 k1 (evg Z hg) (evg Z hg) (by first | omega | (simp at hg; omega)) (by first | omega | (simp at hg; omega) | (simp only [List.length_set]; omega))) (jg Z Z (.t _) (fun hg => jgB k1 (by first | omega | (simp at hg; omega) | (simp only [List.length_set]; omega)) O4 (evg Z hg)) (jg Z Z (.t _) (fun hg => jnot (evg Z hg)) (js (jand Z Z) (jm Z (jg Z Z (.t _) (fun hg => jmv Z) (jg Z Z (.t _) (fun hg => jmv Z) (jg Z Z (.t _) (fun hg => jix U22 Z3 d0 (evg Z hg) (evg Z hg) Z (by first | omega | (simp at hg; omega) | (simp only [List.length_set]; omega))) (jg Z Z (.t _) (fun hg => jlI (dix d0 j (by first | omega | (simp at hg; omega) | (simp only [List.length_set]; omega))) O3 (evg Z hg)) (jg Z Z (.t _) (fun hg => jmv Z) ?_)))))))))))
  refine jg Z Z (.t _) (fun hg => jneq (evg Z hg) (evg Z hg)) (js (jand Z Z) (jn (jx ?_)))
  refine jif Z (fun hc7 => ?_) (fun hc7 => ?_)
  have hcx : ((0 ≤ ix (ix f.Blocks (Int.toNat (ix l i))).Term.To j ∧ ix (ix f.Blocks (Int.toNat (ix l i))).Term.To j < se2.length) ∧ ix se2 (Int.toNat (ix (ix f.Blocks (Int.toNat (ix l i))).Term.To j)) = false ∧ ix (ix f.Blocks (Int.toNat (ix l i))).Term.To j ≠ without) := by simpa [and_assoc] using hc7
  refine jq (jr (jm Z (jm Z (jm Z (js (jix U22 Z3 d0 Z Z Z (by omega)) (js (jlI (dix d0 j (by omega)) O3 Z) (js (jig (i := (Int.toNat (ix (((ix f.Blocks (Int.toNat (ix l i))).Term).To) j))) U93 Z4 k1 Z Z (by omega) (by omega)) (jsg k1 Z Z4 Z Z Z (by omega) wB (jn (jx (jr ?_)))))))))))
  refine jm Z (jm Z (jm Z (js (jix U22 Z3 d0 Z Z Z (by omega)) (js (jlI (dix d0 j (by omega)) O3 Z) (japv U22 I3 (by decide) Z Z k1 Z (wI (wad (dix d0 j (by omega)))) (by omega) (fun _ => Z) fun v94_13 _ w14 => ja Z (jn (jbn (jx (jr (jm Z ?_))))))))))
  refine js (jadd Z Z (by omega)) (ja Z (jn ?_))
  exact jag (j + 1, List.set se2 (Int.toNat (ix (((ix f.Blocks (Int.toNat (ix l i))).Term).To) j)) true, l2 ++ [ix (((ix f.Blocks (Int.toNat (ix l i))).Term).To) j], v94_13) ⟨by dsimp only; omega, b3In_new (by omega) hIn hcx, by dsimp only; have h9 := cnt3_set (l := se2) (i := Int.toNat (ix (ix f.Blocks (Int.toNat (ix l i))).Term.To j)) (by omega) hcx.2.1; rw [List.length_append]; simp; omega, by dsimp only; rw [List.length_set]; exact hse2, by dsimp only; intro x hx9; rcases List.mem_append.1 hx9 with h9 | h9; (· exact hq2 x h9); (simp at h9; subst h9; omega), by dsimp only; rw [List.length_append]; omega⟩ (dc d0 (dc d1 dn)) (kd (kc k0 kn)) ⟨Z, Z, Z, Z, Z, Z, Z, eqI (by omega), trivial⟩
  have hcx : ¬ ((0 ≤ ix (ix f.Blocks (Int.toNat (ix l i))).Term.To j ∧ ix (ix f.Blocks (Int.toNat (ix l i))).Term.To j < se2.length) ∧ ix se2 (Int.toNat (ix (ix f.Blocks (Int.toNat (ix l i))).Term.To j)) = false ∧ ix (ix f.Blocks (Int.toNat (ix l i))).Term.To j ≠ without) := by rintro ⟨⟨a1, a2⟩, a3, a4⟩; simp [a3, a4] at hc7; omega
  refine jsk (jbn (jx (jr (jm Z (js (jadd Z Z (by omega)) (ja Z (jn ?_)))))))
  exact jag (j + 1, se2, l2, vl2) ⟨by dsimp only; omega, b3In_old (by omega) hIn hcx, hcn2, hse2, hq2, hi2⟩ (dc d0 (dc d1 dn)) (kd (kc k0 kn)) ⟨Z, Z, Z, Z, Z, Z, Z, eqI (by omega), trivial⟩
  refine jex (jtx (jtx (jbh (jbn (jx (jr (jm Z (js (jadd Z Z (by omega)) (ja Z (jn ?_))))))))))
  exact jag (i + 1, se2, l2, vl2) ⟨by dsimp only; rw [hb, b3_step (by omega) (by omega) (show b3In _ _ _ _ = (se2, l2) by rw [← hIn, List.drop_of_length_le (by omega)]; rfl), show f.Blocks.length - i - 1 = f.Blocks.length - (i + 1) by omega], by dsimp only; omega, by dsimp only; omega, hse2, hq2⟩ (dc d1 dn) (kd (kc k0 kn)) ⟨Z, Z, Z, Z, Z, eqI (by omega), trivial⟩
  refine jex (jtx (jtx (jbh (jx (jq (jr (jm Z (ja Z (jn (jx (jrt ?_)))))))))))
  exact jrG Z Z (by rw [hb]; exact b3_end (by omega)) k1
abbrev U194 := @Tryz.underlying194
theorem A160 : ∃ d, Tryz.prog.underlying 160 = some d ∧ (match d with | .struct _ | .array _ _ => true | _ => false) = true := ⟨_, Tryz.underlying160, rfl⟩
theorem A197 : ∃ d, Tryz.prog.underlying 197 = some d ∧ (match d with | .struct _ | .array _ _ => true | _ => false) = true := ⟨_, Tryz.underlying197, rfl⟩
theorem F160_0 : Fld Tryz.prog 160 0 0 := ⟨_, _, Tryz.underlying160, rfl, rfl, 1, (by unfold Sz; kernel_rfl), by decide⟩
theorem F163_3 : Fld Tryz.prog 163 3 3 := ⟨_, _, Tryz.underlying163, rfl, rfl, 1, (by unfold Sz; kernel_rfl), by decide⟩
theorem F197_3 : Fld Tryz.prog 197 3 3 := ⟨_, _, Tryz.underlying197, rfl, rfl, 1, (by unfold Sz; kernel_rfl), by decide⟩
theorem I197 : (Tryz.prog.info? 197).map (fun i => (i.zero, i.size, i.bytes)) = some (some (.agg #[.int .i64 0, .int .i64 0, .slice none 0 0, .slice none 0 0]), 4, 64) := by kernel_rfl
theorem Z197 : Sz Tryz.prog 197 4 := by unfold Sz; kernel_rfl
theorem J160 : (Tryz.prog.info? 160).bind (·.zero) = some (.agg #[.slice none 0 0, .slice none 0 0, .int .i64 0, .slice none 0 0, .slice none 0 0, .int .i32 0]) := by kernel_rfl
theorem J197 : (Tryz.prog.info? 197).bind (·.zero) = some (.agg #[.int .i64 0, .int .i64 0, .slice none 0 0, .slice none 0 0]) := by kernel_rfl
set_option maxRecDepth 8000 in
set_option maxHeartbeats 1000000 in
theorem r3things_ct {a0 : Value} {f : D.Func} (hsz : cntT f.Blocks < 1000000000) : Td Tryz.prog 140 #[vFunc f a0] [da rFunc (vFunc f a0) f] [] (rL rjacquardref03_Thing) (things3 f) := by
  refine jenter (args := [vFunc f a0]) Tryz.func140 rfl rfl rfl fun w0 X => ?_
  have htl := things3_len f
  refine jq (jr (jbox Z Z fun g1 => ja Z (jn (jx (jq (jr (jlit (r := rjacquardref03_Thing) (l := []) U194 I197 (by decide) Z Z Z ln fun g10 => ja Z (jn (jx ?_)))))))))
  refine jq (jq (jr (ja Z (jn (jx (jb ?_))))))
  refine jlp (u3 fun (k : Nat) (vo : Value) (out : List D.jacquardref03_Thing) => ⟨k ≤ f.Blocks.length ∧ things3 f = out ++ blL k (f.Blocks.drop k), [da rFunc (vFunc f a0) f], [gl X.n rjacquardref03_Thing 197 vo out, bx g1 104 [.int .i64 f.Params, a0]], [(1, .pointer (some ⟨g1, 0, none⟩)), (2, .slice none 0 0), (3, vo), (4, .int .i64 (↑k))], f.Blocks.length - k⟩) (0, (.slice (some ⟨g10, 0, none⟩) 0 0), []) ⟨Nat.zero_le _, rfl⟩ (dc d0 dn) (kd kn) ⟨Z, Z, Z, eqI (by omega), trivial⟩ ?_
  rintro ⟨k, vo, out⟩; dsimp only [u3]; rintro ⟨hk, hB⟩
  refine cgo k0 fun w1 => ?_
  have hpl1 := pre_len hB
  refine jq (jq (jr (jm Z (js (jf F104_1 Z) (js (jl k1 O102 Z Z) (jdq (rFunc.c_Blocks d0) fun q2 w2 => js (jln U102 (rFunc.c_Blocks d0) Z) (js (jlss Z Z) (jn (jx ?_)))))))))
  refine jif Z (fun hc1 => ?_) (fun hc1 => ?_)
  refine jsk (jx (jq (jb (jq (jr (js (jf F104_1 Z) (js (jl k1 O102 Z Z) (jm Z (js (jix U102 Z160 (rFunc.c_Blocks d0) Z Z Z (by omega)) (jA4 sBlock (jlA (dix (rFunc.c_Blocks d0) k (by omega)) A160 Z160 Z) fun c22a c22b c22c c22d => jalc J160 Z fun g5 => ?_))))))))))
  refine jdq (rBlock.c_Phis d0) fun q4 w4 => jdq (rBlock.c_Ins d0) fun q5 w5 => jdq (rBlock.c_Term_Args d0) fun q6 w6 => jdq (rBlock.c_Term_To d0) fun q7 w7 => jsta k0 Z160 Z Z Z ⟨w4.one, w5.one, Z, w6.one, w7.one, Z, trivial⟩ (saf Z) (jn (jx (jq (jq (jr (ja Z (jn ?_)))))))
  refine jx (jb ?_)
  refine jlp (u3 fun (i : Nat) (vp : Value) (out2 : List D.jacquardref03_Thing) => ⟨i ≤ (ix f.Blocks k).Phis.length ∧ things3 f = out2 ++ (phL k i ((ix f.Blocks k).Phis.drop i) ++ (inL k 0 (ix f.Blocks k).Ins ++ (enT k (ix f.Blocks k) :: blL (k + 1) (f.Blocks.drop (k + 1))))), [da rBlock (vBlock (ix f.Blocks k) (c22a, c22b, c22c, c22d)) (ix f.Blocks k), da rFunc (vFunc f a0) f], [bx g5 160 [c22a, c22b, .int .i64 (((ix f.Blocks k).Term).Kind), c22c, c22d, .int .i32 (((ix f.Blocks k).Term).Imm)], gl X.n rjacquardref03_Thing 197 vp out2, bx g1 104 [.int .i64 f.Params, a0]], [(1, .pointer (some ⟨g1, 0, none⟩)), (2, .slice none 0 0), (3, vp), (4, .int .i64 (↑k)), (5, .pointer (some ⟨g5, 0, none⟩)), (6, .int .i64 (↑i))], (ix f.Blocks k).Phis.length - i⟩) (0, vo, out) ⟨Nat.zero_le _, bl_0 (by omega) hB⟩ (dc d0 (dc d1 dn)) (kd (kc k0 kn)) ⟨Z, Z, Z, Z, Z, eqI (by omega), trivial⟩ ?_
  rintro ⟨i, vp, out2⟩; dsimp only [u3]; rintro ⟨hi, hP⟩
  refine cgo k1 fun w8 => ?_
  have hpl2 := pre_len hP
  refine jq (jq (jr (jm Z (js (jf F160_0 Z) (js (jl k0 O32 Z Z) (js (jln U32 (rBlock.c_Phis d0) Z) (js (jlss Z Z) (jn (jx ?_)))))))))
  refine jif Z (fun hc2 => ?_) (fun hc2 => ?_)
  refine jsk (jx (jq (jb (jq (jr (jm Z (jm Z (js (jsub Z Z (by omega)) (js (jf F160_0 Z) (js (jl k0 O32 Z Z) (jm Z ?_)))))))))))
  refine js (jix U32 Z62 (rBlock.c_Phis d0) Z Z Z (by omega)) (js (jf F62_0 Z) (js (jlI (rPhi.A_Dst (dix (rBlock.c_Phis d0) i (by omega))) O3 Z) (jlit (r := (rI .i64)) (l := [(ix ((ix f.Blocks k).Phis) i).Dst]) U22 I3 (by decide) Z Z Z (lV Z Z (wI (wad (rPhi.A_Dst (dix (rBlock.c_Phis d0) i (by omega))))) ln) fun g39 => js (jbu (v := .agg #[.int .i64 (↑k), .int .i64 ((-1) - ↑i), (.slice (some ⟨g39, 0, none⟩) 1 1), .slice none 0 0]) Z (fun _ => by kernel_rfl)) (jalc J197 Z fun g7 => jsta k0 Z197 Z Z Z ⟨Z, Z, Z, Z, trivial⟩ (saf Z) (jn (jx (jq (jq (jr ?_)))))))))
  refine ja Z (jn (jx (jb (cnl (r := (rI .i64)) (E := 3) ?_))))
  refine jlp (u3 fun (j : Nat) (ea : List Int) (ve : Value) => ⟨j ≤ (ix (ix f.Blocks k).Phis i).In.length ∧ ea = ((ix (ix f.Blocks k).Phis i).In.take j).map (·.Val), [da rBlock (vBlock (ix f.Blocks k) (c22a, c22b, c22c, c22d)) (ix f.Blocks k), da rFunc (vFunc f a0) f], [gl X.n (rI .i64) 3 ve ea, bx g7 197 [.int .i64 (↑k), .int .i64 ((-1) - ↑i), (.slice (some ⟨g39, 0, none⟩) 1 1), ve], gl X.n (rI .i64) 3 (.slice (some ⟨g39, 0, none⟩) 1 1) ([(ix ((ix f.Blocks k).Phis) i).Dst]), bx g5 160 [c22a, c22b, .int .i64 (((ix f.Blocks k).Term).Kind), c22c, c22d, .int .i32 (((ix f.Blocks k).Term).Imm)], gl X.n rjacquardref03_Thing 197 vp out2, bx g1 104 [.int .i64 f.Params, a0]], [(1, .pointer (some ⟨g1, 0, none⟩)), (2, .slice none 0 0), (3, vp), (4, .int .i64 (↑k)), (5, .pointer (some ⟨g5, 0, none⟩)), (6, .int .i64 (↑i)), (7, .pointer (some ⟨g7, 0, none⟩)), (8, .int .i64 (↑j))], (ix (ix f.Blocks k).Phis i).In.length - j⟩) (0, [], .slice none 0 0) ⟨Nat.zero_le _, rfl⟩ (dc d0 (dc d1 dn)) (kd (kd (kd kn))) ⟨Z, Z, Z, Z, Z, Z, Z, eqI (by omega), trivial⟩ ?_
  rintro ⟨j, ea, ve⟩; dsimp only [u3]; rintro ⟨hj, hea⟩
  refine cgo k0 fun w9 => ?_
  have hel : ea.length = j := by rw [hea]; simp; omega
  refine jq (jq (jr (jm Z (js (jf F160_0 Z) (js (jl k3 O32 Z Z) (jm Z (js (jix U32 Z62 (rBlock.c_Phis d0) Z Z Z (by omega)) (js (jf F62_1 Z) (jev (jlV (rPhi.A_In (dix (rBlock.c_Phis d0) i (by omega))) O60 Z Z) fun v47 q10 w10 => js (jln U60 d0 Z) (js (jlss Z Z) ?_))))))))))
  refine jn (jx ?_)
  refine jif Z (fun hc3 => ?_) (fun hc3 => ?_)
  refine jsk (jx (jq (jb (jany true (.a 0 (.a 1 (.a 2 (.a 3 (.a 4 (.a 5 (.a 6 (.a 7 (.a 8 (.a 9 (.a 10 (.a 11 (.o 12 (.o 13 (.a 14 (.o 15 .e)))))))))))))))) Mixed (by kernel_rfl) (kc k1 (kc k2 kn)) fun F12 => jy Z (jf F197_3 Z) (jy Z (jl k0 O22 Z Z) (jy Z (jf F160_0 Z) (jy Z (jl k1 O32 Z Z) (jy Z (jmv Z) (jy Z (jix U32 Z62 (rBlock.c_Phis d1) Z Z Z (by omega)) (jy Z (jf F62_1 Z) ?_))))))))))
  refine jye (q := fun v => dv (rL rIn) v ((ix ((ix f.Blocks k).Phis) i).In)) Z (xlV (rPhi.A_In (dix (rBlock.c_Phis d1) i (by omega))) O60 Z Z) fun v59 => jy Z (jmv Z) (adq d0 fun q14 w14 => jy Z (jix U60 Z64 d0 Z Z Z (by omega)) (jy Z (jf F64_1 Z) (jy Z (jlI (rIn.A_Val (dix d0 j (by omega))) O3 Z) (jyo Z (jlit (r := (rI .i64)) (l := [(ix ((ix ((ix f.Blocks k).Phis) i).In) j).Val]) U22 I3 (by decide) Z Z Z (lV Z Z (wI (wad (rIn.A_Val (dix d1 j (by omega))))) ln) fun g64 => jyn d0 (kc k2 (kc k3 kn)) (jyo Z (jfz k0 (by (try simp) <;> omega) (japl U22 I3 (by decide) Z k0 Z Z d0 (by (try simp) <;> omega) fun v65 w18 => ?_))))))))
  refine jyn d1 (kc k1 (kc k2 kn)) (jy Z (jf F197_3 Z) (jyo Z (jst k1 Z22 Z Z w18.one s3 (jyz d0 (jyd (jbn (jx (jr (jm Z (js (jadd Z Z (by omega)) (ja Z ?_)))))))))))
  refine jn ?_
  exact jag (j + 1, ea ++ ([(ix ((ix ((ix f.Blocks k).Phis) i).In) j).Val]), v65) ⟨by dsimp only; omega, by dsimp only; rw [hea, map_snoc (by omega)]⟩ (dc d6 (dc d7 dn)) (kc k1 (kd (kd (kc k0 kn)))) ⟨Z, Z, Z, Z, Z, Z, Z, eqI (by omega), trivial⟩
  refine jex (jtx (jtx (jbh (jx (jr (jm Z (js (jla k1 A197 Z197 Z Z Z) (jfz k2 (by (try simp) <;> omega) (jfz k0 (by omega) (jap U194 I197 (by decide) Z k2 Z (rjacquardref03_Thing.M (m := ⟨↑k, (-1) - ↑i, [(ix ((ix f.Blocks k).Phis) i).Dst], ea⟩) (c := ((.slice (some ⟨g39, 0, none⟩) 1 1), ve)) d1 d0 (wp (IntWalk.i64_in ↑k (by omega))) (wp (IntWalk.i64_in ((-1) - ↑i) (by omega)))) (by omega) (fun _ => Z) fun v70 _ w22 => ja Z ?_))))))))))
  refine jn (jbn (jx (jr (jm Z (js (jadd Z Z (by omega)) (ja Z (jn ?_)))))))
  exact jag (i + 1, v70, out2 ++ [⟨((k : Nat) : Int), (-1) - ((i : Nat) : Int), [(ix ((ix f.Blocks k).Phis) i).Dst], ea⟩]) ⟨by dsimp only; omega, by dsimp only; rw [show ea = (ix (ix f.Blocks k).Phis i).In.map (·.Val) by rw [hea, List.take_of_length_le (by omega)]]; exact ph_1 (by omega) hP⟩ (dc d3 (dc d4 dn)) (kc k2 (kc k0 (kc k1 kn))) ⟨Z, Z, Z, Z, Z, eqI (by omega), trivial⟩
  refine jex (jtx (jtx (jbh (jx (jq (jq (jr (ja Z (jn (jx (jb ?_)))))))))))
  refine jlp (u3 fun (j : Nat) (vq : Value) (out4 : List D.jacquardref03_Thing) => ⟨j ≤ (ix f.Blocks k).Ins.length ∧ things3 f = out4 ++ (inL k j ((ix f.Blocks k).Ins.drop j) ++ (enT k (ix f.Blocks k) :: blL (k + 1) (f.Blocks.drop (k + 1)))), [da rBlock (vBlock (ix f.Blocks k) (c22a, c22b, c22c, c22d)) (ix f.Blocks k), da rFunc (vFunc f a0) f], [bx g5 160 [c22a, c22b, .int .i64 (((ix f.Blocks k).Term).Kind), c22c, c22d, .int .i32 (((ix f.Blocks k).Term).Imm)], gl X.n rjacquardref03_Thing 197 vq out4, bx g1 104 [.int .i64 f.Params, a0]], [(1, .pointer (some ⟨g1, 0, none⟩)), (2, .slice none 0 0), (3, vq), (4, .int .i64 (↑k)), (5, .pointer (some ⟨g5, 0, none⟩)), (9, .int .i64 (↑j))], (ix f.Blocks k).Ins.length - j⟩) (0, vp, out2) ⟨Nat.zero_le _, ph_2 (by omega) hP⟩ (dc d0 (dc d1 dn)) (kd (kc k0 kn)) ⟨Z, Z, Z, Z, Z, eqI (by omega), trivial⟩ ?_
  rintro ⟨j, vq, out4⟩; dsimp only [u3]; rintro ⟨hj, hI⟩
  refine cgo k1 fun w23 => ?_
  have hpl4 := pre_len hI
  refine jq (jq (jr (jm Z (js (jf F160_1 Z) (js (jl k0 O156 Z Z) (js (jln U156 (rBlock.c_Ins d0) Z) (js (jlss Z Z) (jn (jx ?_)))))))))
  refine jif Z (fun hc4 => ?_) (fun hc4 => ?_)
  refine jsk (jx (jq (jb (jany false (.a 0 (.a 1 (.a 2 (.a 3 (.a 4 (.a 5 (.a 6 (.a 7 (.a 9 (.a 10 (.a 11 (.a 12 (.a 13 (.a 14 (.o 8 (.a 15 (.o 16 (.o 17 (.a 18 .e))))))))))))))))))) Mixed (by kernel_rfl) (kc k0 kn) fun F24 => jy Z (jmv Z) (jy Z (jmv Z) (jy Z (jmv Z) (jy Z (jf F160_1 Z) (jy Z (jl k0 O156 Z Z) (jy Z (jmv Z) (jy Z (jix U156 Z163 (rBlock.c_Ins d0) Z Z Z (by omega)) ?_))))))))))
  refine jyA sIns Z (xlA (dix (rBlock.c_Ins d0) j (by omega)) A163 Z163 Z) fun c85 => jy Z (jf F160_1 Z) (jy Z (jl k0 O156 Z Z) (jy Z (jmv Z) (jy Z (jix U156 Z163 (rBlock.c_Ins d1) Z Z Z (by omega)) (jy Z (jf F163_3 Z) (jye (q := fun v => dv (rL (rI .i64)) v ((ix ((ix f.Blocks k).Ins) j).Args)) Z (xlV (rIns.A_Args (dix (rBlock.c_Ins d1) j (by omega))) O22 Z Z) fun v92 => jyo Z (jcd E101 Z Z r3makes_ct (dc d2 dn) kn fun v86 q28 w28 => jyn d1 (kc k0 kn) (adq d2 fun q30 w30 => jy Z (jbu (v := .agg #[.int .i64 (↑k), .int .i64 (↑j), v86, v92]) Z (fun _ => by obtain ⟨_, _, _, rfl⟩ := w28; obtain ⟨_, _, _, rfl⟩ := w30; kernel_rfl)) ?_)))))))
  refine jyo Z (jlit (r := rjacquardref03_Thing) (l := [⟨↑k, ↑j, makes3 (ix ((ix f.Blocks k).Ins) j), (ix ((ix f.Blocks k).Ins) j).Args⟩]) U194 I197 (by decide) Z Z Z (lA (rjacquardref03_Thing.M (m := ⟨↑k, ↑j, makes3 (ix ((ix f.Blocks k).Ins) j), (ix ((ix f.Blocks k).Ins) j).Args⟩) (c := (v86, v92)) d1 d3 (wp (IntWalk.i64_in ↑k (by omega))) (wp (IntWalk.i64_in ↑j (by omega)))) ln) fun g94 => jyn d0 (kc k1 kn) (jyo Z (jfz k0 (by (try simp) <;> omega) (japl U194 I197 (by decide) Z k1 Z Z d0 (by (try simp) <;> omega) fun v95 w34 => jyn d1 (kc k1 kn) (jy Z (jas Z) (jyd (jbn (jx (jr ?_)))))))))
  refine jm Z (js (jadd Z Z (by omega)) (ja Z (jn ?_)))
  exact jag (j + 1, v95, out4 ++ ([⟨((k : Nat) : Int), ((j : Nat) : Int), makes3 (ix ((ix f.Blocks k).Ins) j), (ix ((ix f.Blocks k).Ins) j).Args⟩])) ⟨by dsimp only; omega, by dsimp only; exact in_1 (by omega) hI⟩ (dc d7 (dc d8 dn)) (kc k1 (kd kn)) ⟨Z, Z, Z, Z, Z, eqI (by omega), trivial⟩
  refine jex (jtx (jtx (jbh (jx (jr (jm Z (jm Z (js (jf F160_1 Z) (js (jl k0 O156 Z Z) (js (jln U156 (rBlock.c_Ins d0) Z) (js (jf F160_2 Z) ?_)))))))))))
  refine js (jf F158_1 Z) (js (jl k0 O22 Z Z) (js (jbu (v := .agg #[.int .i64 (↑k), .int .i64 (↑(List.length ((ix f.Blocks k).Ins))), .slice none 0 0, c22c]) Z (fun _ => by obtain ⟨_, _, _, rfl⟩ := w6; kernel_rfl)) (jap U194 I197 (by decide) Z k1 Z (rjacquardref03_Thing.M (m := ⟨↑k, ↑(List.length ((ix f.Blocks k).Ins)), [], ((ix f.Blocks k).Term).Args⟩) (c := (.slice none 0 0, c22c)) wN (rBlock.c_Term_Args d0) (wp (IntWalk.i64_in ↑k (by omega))) (wp (IntWalk.i64_in (↑(List.length ((ix f.Blocks k).Ins))) (by omega)))) (by omega) (fun _ => Z) fun v106 _ w35 => ja Z (jn (jbn (jx (jr (jm Z (js (jadd Z Z (by omega)) (ja Z ?_))))))))))
  refine jn ?_
  exact jag (k + 1, v106, out4 ++ [⟨((k : Nat) : Int), ((List.length ((ix f.Blocks k).Ins) : Nat) : Int), [], ((ix f.Blocks k).Term).Args⟩]) ⟨by dsimp only; omega, by dsimp only; exact bl_1 (in_2 (by omega) hI)⟩ (dc d1 dn) (kc k0 (kc k1 kn)) ⟨Z, Z, Z, eqI (by omega), trivial⟩
  refine jex (jtx (jtx (jbh (jx (jq (jr (jm Z (ja Z (jn (jx (jrt ?_)))))))))))
  refine qfz k0 (by omega) ?_
  exact jrD Z Z (by rw [hB, List.drop_of_length_le (by omega)]; simp [blL]) d0
theorem A104 : ∃ d, Tryz.prog.underlying 104 = some d ∧ (match d with | .struct _ | .array _ _ => true | _ => false) = true := ⟨_, Tryz.underlying104, rfl⟩
theorem E100 : Ent Tryz.prog 100 := ⟨_, Tryz.func100, by kernel_rfl, by kernel_rfl⟩
theorem E140 : Ent Tryz.prog 140 := ⟨_, Tryz.func140, by kernel_rfl, by kernel_rfl⟩
theorem F104_0 : Fld Tryz.prog 104 0 0 := ⟨_, _, Tryz.underlying104, rfl, rfl, 1, (by unfold Sz; kernel_rfl), by decide⟩
theorem F197_0 : Fld Tryz.prog 197 0 0 := ⟨_, _, Tryz.underlying197, rfl, rfl, 1, (by unfold Sz; kernel_rfl), by decide⟩
theorem F197_2 : Fld Tryz.prog 197 2 2 := ⟨_, _, Tryz.underlying197, rfl, rfl, 1, (by unfold Sz; kernel_rfl), by decide⟩
theorem Z104 : Sz Tryz.prog 104 2 := by unfold Sz; kernel_rfl
set_option maxRecDepth 8000 in
theorem r3stand_ct {a0 : Value} {f : D.Func} (block : Int) (hb9 : 0 ≤ block ∧ block < f.Blocks.length) (hsz : cntT f.Blocks < 100000000) (hpr : 0 ≤ f.Params ∧ f.Params ≤ 4) : Tg Tryz.prog 104 #[vFunc f a0, .int .i64 block] [da rFunc (vFunc f a0) f] [] (rI .i64) 3 (stand3 f block) := by
  refine jenter (args := [vFunc f a0, .int .i64 block]) Tryz.func104 rfl rfl rfl fun w0 X => ?_
  have htl := things3_len f
  refine jq (jr (jbox Z Z fun g2 => ja Z (jn (jx (jq (jr (jlit (r := (rI .i64)) (l := []) U22 I3 (by decide) Z Z Z ln fun g11 => ja Z (jn (jx ?_)))))))))
  refine jq (jq (jr (ja Z (jn (jx (jb ?_))))))
  refine jlp (u3 fun (i : Nat) (vo : Value) (out : List Int) => ⟨i ≤ f.Params.toNat ∧ out = numsL i, [da rFunc (vFunc f a0) f], [gl X.n (rI .i64) 3 vo out, bx g2 104 [.int .i64 f.Params, a0]], [(1, .int .i64 block), (2, .pointer (some ⟨g2, 0, none⟩)), (4, .slice none 0 0), (5, vo), (6, .int .i64 (↑i))], f.Params.toNat - i⟩) (0, (.slice (some ⟨g11, 0, none⟩) 0 0), []) ⟨Nat.zero_le _, rfl⟩ (dc d0 dn) (kd kn) ⟨Z, Z, Z, Z, eqI (by omega), trivial⟩ ?_
  rintro ⟨i, vo, out⟩; dsimp only [u3]; rintro ⟨hi, ho⟩
  refine cgo k0 fun w1 => ?_
  have hol : out.length = i := by rw [ho]; exact numsL_len i
  refine jq (jq (jr (jm Z (js (jf F104_0 Z) (js (jl k1 O3 Z Z) (js (jlss Z Z) (jn (jx ?_))))))))
  refine jif Z (fun hc1 => ?_) (fun hc1 => ?_)
  refine jsk (jx (jq (jb (jr (jm Z (jm Z (japv U22 I3 (by decide) Z Z k0 Z (wI (wp (IntWalk.i64_in _ (by omega)))) (by omega) (fun _ => Z) fun v21 _ w2 => ja Z (jn (jbn (jx ?_))))))))))
  refine jr (jm Z (js (jadd Z Z (by omega)) (ja Z (jn ?_))))
  exact jag (i + 1, v21, out ++ [((i : Nat) : Int)]) ⟨by dsimp only; omega, by dsimp only; rw [ho, numsL_s]⟩ (dc d0 dn) (kd kn) ⟨Z, Z, Z, Z, eqI (by omega), trivial⟩
  refine jex (jtx (jtx (jbh (jx (jq (jr (js (jla k1 A104 Z104 Z Z Z) (jcd E140 Z Z (r3things_ct (by omega)) (dc d0 dn) kn fun v23 q3 w3 => ja Z (jn (jx ?_))))))))))
  refine jq (jq (jr (ja Z (jn (jx (jb ?_))))))
  refine jlp (u3 fun (i2 : Nat) (v2 : Value) (o2 : List Int) => ⟨i2 ≤ (things3 f).length ∧ o2 = numsL f.Params.toNat ++ standL f block ((things3 f).take i2), [dv (rL rjacquardref03_Thing) v23 (things3 f), da rFunc (vFunc f a0) f], [gl X.n (rI .i64) 3 v2 o2, bx g2 104 [.int .i64 f.Params, a0]], [(1, .int .i64 block), (2, .pointer (some ⟨g2, 0, none⟩)), (4, .slice none 0 0), (5, v2), (7, v23), (8, .int .i64 (↑i2))], (things3 f).length - i2⟩) (0, vo, out) ⟨Nat.zero_le _, by dsimp only; rw [ho, show i = f.Params.toNat by omega]; simp [standL]⟩ (dc d0 (dc d1 dn)) (kd kn) ⟨Z, Z, Z, Z, Z, eqI (by omega), trivial⟩ ?_
  rintro ⟨i2, v2, o2⟩; dsimp only [u3]; rintro ⟨hi2, ho2⟩
  refine cgo k0 fun w5 => ?_
  have hs2 := standL_len (f := f) (b := block) (l := (things3 f).take i2) (fun t ht => things3_mk f t (List.mem_of_mem_take ht))
  have ho2l : o2.length ≤ 4 + 2 * i2 := by rw [ho2, List.length_append, numsL_len]; rw [List.length_take] at hs2; omega
  refine jq (jq (jr (jm Z (jm Z (js (jln U194 d0 Z) (js (jlss Z Z) (jn (jx ?_))))))))
  refine jif Z (fun hc2 => ?_) (fun hc2 => ?_)
  refine jsk (jx (jq (jb (jq (jr (ja Z (jn (jx (jq (jq (jr ?_)))))))))))
  refine jm Z (jm Z (js (jix U194 Z197 d0 Z Z Z (by omega)) (js (jf F197_0 Z) (js (jlI (rjacquardref03_Thing.A_Block (dix d0 i2 (by omega))) O3 Z) (jm Z (js (jneq Z Z) (jn (jx ?_))))))))
  refine jif Z (fun hc3 => ?_) (fun hc3 => ?_)
  refine jq (jtl 6 Mixed (by kernel_rfl) (jt (jla k1 A104 Z104 Z Z Z) (jt (jmv Z) (jt (jmv Z) (jt (jix U194 Z197 d0 Z Z Z (by omega)) (jt (jf F197_0 Z) (jt (jlI (rjacquardref03_Thing.A_Block (dix d0 i2 (by omega))) O3 Z) (jtt (jcg E100 Z Z (r3reach_ct ((ix (things3 f) i2).Block)) (dc d1 dn) kn fun v43 w6 => ja Z (jn ?_))))))))))
  refine jx (jr (jm Z (jm Z ?_)))
  have hrl := reach3_len f (ix (things3 f) i2).Block
  refine js (jig (i := (Int.toNat block)) U93 Z4 k0 Z Z (by omega) (by omega)) (js (jgB k0 (by omega) O4 Z) (js (jnot Z) (ja Z (jn (jx (jq (jr (jm Z (jn (jx ?_))))))))))
  refine jif Z (fun hc4 => ?_) (fun hc4 => ?_)
  refine jr (jm Z (jm Z (jm Z (js (jix U194 Z197 d0 Z Z Z (by omega)) (js (jf F197_2 Z) (jev (jlV (rjacquardref03_Thing.A_Makes (dix d0 i2 (by omega))) O22 Z Z) fun v55 q7 w7 => ?_))))))
  have hm2 := things3_mk f _ (ix_mem (l := things3 f) (i := i2) (by omega))
  refine japl U22 I3 (by decide) Z k1 Z Z d0 (by (try simp) <;> omega) fun v56 w9 => ja Z (jn (jbn (jx (jr (jm Z (js (jadd Z Z (by omega)) (ja Z (jn ?_))))))))
  exact jag (i2 + 1, v56, o2 ++ ((ix (things3 f) i2).Makes)) ⟨by dsimp only; omega, by dsimp only; rw [standL_s (by omega), ho2]; rw [if_pos (by simp [stands3, hc3, hc4])]; simp⟩ (dc d1 (dc d2 dn)) (kc k0 (kc k1 kn)) ⟨Z, Z, Z, Z, Z, eqI (by omega), trivial⟩
  refine jsk (jbn (jx (jr (jm Z (js (jadd Z Z (by omega)) (ja Z (jn ?_)))))))
  exact jag (i2 + 1, v2, o2) ⟨by dsimp only; omega, by dsimp only; rw [standL_s (by omega), ho2]; rw [if_neg (by simp [stands3, hc3, hc4])]; simp⟩ (dc d0 (dc d1 dn)) (kc k1 (kc k1 kn)) ⟨Z, Z, Z, Z, Z, eqI (by omega), trivial⟩
  refine jsk (jx (jq (jr (jm Z (jn (jx ?_))))))
  refine jif Z (fun hc5 => ?_) (fun hc5 => ?_)
  refine jr (jm Z (jm Z (jm Z (js (jix U194 Z197 d0 Z Z Z (by omega)) (js (jf F197_2 Z) (jev (jlV (rjacquardref03_Thing.A_Makes (dix d0 i2 (by omega))) O22 Z Z) fun v55_10 q11 w11 => ?_))))))
  have hm2 := things3_mk f _ (ix_mem (l := things3 f) (i := i2) (by omega))
  refine japl U22 I3 (by decide) Z k0 Z Z d0 (by (try simp) <;> omega) fun v56_13 w14 => ja Z (jn (jbn (jx (jr (jm Z (js (jadd Z Z (by omega)) (ja Z (jn ?_))))))))
  exact jag (i2 + 1, v56_13, o2 ++ ((ix (things3 f) i2).Makes)) ⟨by dsimp only; omega, by dsimp only; rw [standL_s (by omega), ho2]; rw [if_pos (by simp [stands3, hc3, hc5])]; simp⟩ (dc d1 (dc d2 dn)) (kd kn) ⟨Z, Z, Z, Z, Z, eqI (by omega), trivial⟩
  exact absurd hc5 (by simp)
  refine jex (jtx (jtx (jbh (jx (jq (jr (jm Z (ja Z (jn (jx (jrt ?_)))))))))))
  exact jrG Z Z (by rw [ho2, List.take_of_length_le (by omega)]; rfl) k0
end Go.Proofs.YtehhjlkmbdhckaaGreat
