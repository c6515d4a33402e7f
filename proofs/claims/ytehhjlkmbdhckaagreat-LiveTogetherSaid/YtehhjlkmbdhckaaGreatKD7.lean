/- Lemmas that the claim is made of. Conditions: each lemma names its own. -/
import Derived.Test.YtehhjlkmbdhckaaGreatKD6
set_option linter.unusedSectionVars false
set_option linter.unusedSimpArgs false
set_option linter.unusedVariables false
namespace Go.Proofs.YtehhjlkmbdhckaaGreat
open Go.JE
theorem E148 : Ent Tryz.prog 148 := ⟨_,Tryz.func148,by kernel_rfl,by kernel_rfl⟩
set_option maxRecDepth 4000 in
theorem m3mem_ct {vs vb al : Value} {m : Mk} {nb c : Nat} {S : List Int} {g0 : Nat} {B0 B1 : Nat} {qs : List BV} (hok : okS nb c S m) (hc : c ≤ 950000) (b : Int) (st : Bool) (hb9 : 0 ≤ b ∧ b < nb) : KB Tryz.prog 150 [.int .i64 b,.bool st] [] g0 vs vb al S B0 B1 qs [] m (memS b st m) (.tuple #[]) := by
 refine jenter (args := [.pointer (some ⟨g0,0,none⟩),.int .i64 b,.bool st]) Tryz.func150 rfl rfl rfl fun w0 X => ?_
 refine cgo k1 fun w1 => ?_
 have bd0 := okM.bnd hok.1
 refine cbk k2 (okM.bnd hok.1).2.2.2.2.2.2.2.1 fun hvb => ?_
 have hbn : b.toNat < nb := by omega
 refine jq (jr (jm Z (jm Z (jm Z (jkr E54 Z Z (m3take_ct hok (by omega) 9 (by first | exact hb9 | decide | omega)) (dc d0 dn) (kd (kc k0 kn)) ⟨tO9 hok.1,hok.2⟩ fun m15 hm15 om15 bm15 => ?_)))))
 have w15_0 : IntKind.i64.wrap (tVV 9 m) = tVV 9 m := (IntWalk.i64_in _ (by have h9 := @tV9 9 (by omega) m; omega))
 have tr15 := @tV9 9 (by omega) m
 clear bd0
 refine js (jco U3 U21 Z Z) (jkb E105 Z Z (m3const_ct om15 (by omega) b (IntKind.i32.wrap (tVV 9 m)) (by first | exact hb9 | decide | omega) (wrap_wrap _ _)) (dc d0 dn) (kd (kc k0 kn)) ⟨const_ok om15.1 hbn,(constS_s.trans om15.2)⟩ p1 fun m17 hm17 om17 bm17 ua17 qs17 w2 => ?_)
 clear bm15
 refine ja Z (jn (jx (jq (jq (jr (jm Z (jkr E54 Z Z (m3take_ct om17 (by omega) 3 (by first | exact hb9 | decide | omega)) (dc d1 dn) (kd (kc k0 kn)) ⟨tO9 om17.1,om17.2⟩ fun m19 hm19 om19 bm19 => ?_)))))))
 have w19_0 : IntKind.i64.wrap (tVV 3 m17) = tVV 3 m17 := (IntWalk.i64_in _ (by have h9 := @tV9 3 (by omega) m17; omega))
 have tr19 := @tV9 3 (by omega) m17
 clear bm17
 refine js (jeql Z Z) (jn (jx ?_))
 refine jif Z (fun hc1 => ?_) (fun hc1 => ?_)
 refine jq (jr (jm Z (jm Z (jkb E148 Z Z (m3some_ct om19 (by omega) b (by first | exact hb9 | decide | omega)) (dc d1 dn) (kd (kc k0 kn)) ⟨some_ok om19.1 hbn,(someS_s.trans om19.2)⟩ p1 fun m23 hm23 om23 bm23 ua23 qs23 w4 => ?_))))
 clear bm19
 refine ja Z (jn (jx (jq (jr (jm Z (jm Z (jkb E105 Z Z (m3const_ct om23 (by omega) b 7 (by first | exact hb9 | decide | omega) (by decide)) (dc d2 dn) (kd (kc k0 kn)) ⟨const_ok om23.1 hbn,(constS_s.trans om23.2)⟩ p1 fun m26 hm26 om26 bm26 ua26 qs26 w6 => ?_)))))))
 clear bm23
 refine ja Z (jn (jx (jq (jr (jm Z (jkr E99 Z Z (m3fresh_ct om26 (by omega)) (dc d3 dn) (kd (kc k0 kn)) ⟨fresh_ok om26.1,om26.2⟩ fun m28 hm28 om28 bm28 => ?_))))))
 have w28_0 : IntKind.i64.wrap (m26.nx) = m26.nx := (IntWalk.i64_in _ (by omega))
 clear bm26
 refine ja Z (jn (jx (jq (jr (jm Z (jm Z (jm Z (jm Z (jm Z (jlit (r := (rI .i64)) (l := [sV9 m19,m23.nx]) U22 I3 (by decide) Z Z Z (lV Z Z (wI ((wfw d1))) (lV Z Z (wI ((wfw d0))) ln)) fun g34 => js (jbu (v := .agg #[.int .i64 5,.int .i64 m26.nx,.int .i64 0,(.slice (some ⟨g34,0,none⟩) 2 2),.int .i32 0]) Z (fun _ => by kernel_rfl)) ?_))))))))))
 refine jfz k0 (by (try simp) <;> omega) (jkb E149 Z Z (m3add_ct (i := ⟨5,m26.nx,0,[sV9 m19,m23.nx],0⟩) om28 (by omega) b (by first | exact hb9 | decide | omega)) (dc d4 (dc (rIns.M (m := ⟨5,m26.nx,0,[sV9 m19,m23.nx],0⟩) (c := (.slice (some ⟨g34,0,none⟩) 2 2)) d0 (wl 5) (wp w28_0) (wl 0) (wl 0)) dn)) (kd (kc k0 kn)) ⟨add_ok om28.1 hbn,(addS_s.trans om28.2)⟩ p0 fun m36 hm36 om36 bm36 ua36 qs36 w9 => ?_)
 clear bm28
 refine jn (jx (jq (jr (jm Z (jkr E99 Z Z (m3fresh_ct om36 (by omega)) (dc d4 dn) (kd (kc k0 kn)) ⟨fresh_ok om36.1,om36.2⟩ fun m38 hm38 om38 bm38 => ?_)))))
 have w38_0 : IntKind.i64.wrap (m36.nx) = m36.nx := (IntWalk.i64_in _ (by omega))
 clear bm36
 refine ja Z (jn (jx (jq (jr (jm Z (jm Z (jm Z (jm Z (jm Z (jlit (r := (rI .i64)) (l := [m15.nx,m26.nx]) U22 I3 (by decide) Z Z Z (lV Z Z (wI ((wfw d3))) (lV Z Z (wI (wp w28_0)) ln)) fun g44 => js (jbu (v := .agg #[.int .i64 2,.int .i64 m36.nx,.int .i64 0,(.slice (some ⟨g44,0,none⟩) 2 2),.int .i32 0]) Z (fun _ => by kernel_rfl)) ?_))))))))))
 refine jfz k0 (by (try simp) <;> omega) (jkb E149 Z Z (m3add_ct (i := ⟨2,m36.nx,0,[m15.nx,m26.nx],0⟩) om38 (by omega) b (by first | exact hb9 | decide | omega)) (dc d5 (dc (rIns.M (m := ⟨2,m36.nx,0,[m15.nx,m26.nx],0⟩) (c := (.slice (some ⟨g44,0,none⟩) 2 2)) d0 (wl 2) (wp w38_0) (wl 0) (wl 0)) dn)) (kd (kc k0 kn)) ⟨add_ok om38.1 hbn,(addS_s.trans om38.2)⟩ p0 fun m46 hm46 om46 bm46 ua46 qs46 w11 => ?_)
 clear bm38
 refine jn (jx (jr (jm Z (ja Z (jn (jx (jq (jr (jm Z (jkr E54 Z Z (m3take_ct om46 (by omega) 4 (by first | exact hb9 | decide | omega)) (dc d5 dn) (kd (kc k0 kn)) ⟨tO9 om46.1,om46.2⟩ fun m49 hm49 om49 bm49 => ?_))))))))))
 have w49_0 : IntKind.i64.wrap (tVV 4 m46) = tVV 4 m46 := (IntWalk.i64_in _ (by have h9 := @tV9 4 (by omega) m46; omega))
 have tr49 := @tV9 4 (by omega) m46
 clear bm46
 refine js (jco U3 U21 Z Z) (ja Z (jn (jx (jq (jq (jr (jm Z (jkr E54 Z Z (m3take_ct om49 (by omega) 12 (by first | exact hb9 | decide | omega)) (dc d5 dn) (kd (kc k0 kn)) ⟨tO9 om49.1,om49.2⟩ fun m52 hm52 om52 bm52 => ?_))))))))
 have w52_0 : IntKind.i64.wrap (tVV 12 m49) = tVV 12 m49 := (IntWalk.i64_in _ (by have h9 := @tV9 12 (by omega) m49; omega))
 have tr52 := @tV9 12 (by omega) m49
 clear bm49
 refine js (jeql Z Z) (jn (jx ?_))
 refine jif Z (fun hc2 => ?_) (fun hc2 => ?_)
 refine jr (jm Z (jkr E53 Z Z (m3word_ct om52 (by omega)) (dc d5 dn) (kd (kc k0 kn)) ⟨word_ok om52.1,om52.2⟩ fun m55 hm55 om55 bm55 => ?_))
 have w55_0 : IntKind.i32.wrap (wordV m52) = wordV m52 := (word_w m52)
 clear bm52
 refine ja Z (jn (jx (jq (jr (jm Z (jn (jx ?_)))))))
 refine jif Z (fun hc3 => ?_) (fun hc3 => ?_)
 refine jr (jm Z (jm Z (jm Z (jm Z (jm Z (jkb E148 Z Z (m3some_ct om55 (by omega) b (by first | exact hb9 | decide | omega)) (dc d5 dn) (kd (kc k0 kn)) ⟨some_ok om55.1 hbn,(someS_s.trans om55.2)⟩ p1 fun m62 hm62 om62 bm62 ua62 qs62 w12 => ?_))))))
 clear bm55
 refine jlit (r := (rI .i64)) (l := [m36.nx,sV9 m55]) U22 I3 (by decide) Z Z Z (lV Z Z (wI (wp w38_0)) (lV Z Z (wI ((wfw d0))) ln)) fun g63 => jm Z (js (jbu (v := .agg #[.int .i64 16,.int .i64 0,.int .i64 0,(.slice (some ⟨g63,0,none⟩) 2 2),.int .i32 (wordV m52)]) Z (fun _ => by kernel_rfl)) (jfz k0 (by (try simp) <;> omega) (jkb E149 Z Z (m3add_ct (i := ⟨16,0,0,[m36.nx,sV9 m55],wordV m52⟩) om62 (by omega) b (by first | exact hb9 | decide | omega)) (dc d7 (dc (rIns.M (m := ⟨16,0,0,[m36.nx,sV9 m55],wordV m52⟩) (c := (.slice (some ⟨g63,0,none⟩) 2 2)) d0 (wl 16) (wl 0) (wl 0) (wp w55_0)) dn)) (kd (kc k0 kn)) ⟨add_ok om62.1 hbn,(addS_s.trans om62.2)⟩ p0 fun m66 hm66 om66 bm66 ua66 qs66 w15 => ?_)))
 clear bm62
 refine jn ?_
 have hst : m66 = memS b st m := (by (try simp only [hm15,hm17,hm19,hm23,hm26,hm28,hm36,hm38,hm46,hm49,hm52,hm55,hm62,hm66] at hc1 hc2 hc3); (try simp only [hm15,hm17,hm19,hm23,hm26,hm28,hm36,hm38,hm46,hm49,hm52,hm55,hm62,hm66]); all_goals first | rfl | (simp [memS,mem1,mem2,hc1,hc2,hc3]; done) | (simp [memS,mem1,mem2,hc1,hc2,hc3]; rfl) | (unfold memS mem1 mem2; (repeat' split) <;> first | rfl | (exfalso; omega) | (simp [hc1,hc2,hc3] at *; done) | (simp_all; done)))
 exact jd0 Z (ua66,qs66) Z dn (fun _ _ => (kcb (by rw [← hst]) k0 (kcg (by rw [← hst]) k0 (kck (by rw [← hst]) k0 kn))))
 refine jr (jm Z (jm Z (jm Z (jkr E99 Z Z (m3fresh_ct om55 (by omega)) (dc d5 dn) (kd (kc k0 kn)) ⟨fresh_ok om55.1,om55.2⟩ fun m70 hm70 om70 bm70 => ?_))))
 have w70_0 : IntKind.i64.wrap (m55.nx) = m55.nx := (IntWalk.i64_in _ (by omega))
 clear bm55
 refine jm Z (jlit (r := (rI .i64)) (l := [m36.nx]) U22 I3 (by decide) Z Z Z (lV Z Z (wI (wp w38_0)) ln) fun g72 => jm Z (js (jbu (v := .agg #[.int .i64 15,.int .i64 m55.nx,.int .i64 0,(.slice (some ⟨g72,0,none⟩) 1 1),.int .i32 (wordV m52)]) Z (fun _ => by kernel_rfl)) (jfz k0 (by (try simp) <;> omega) (jkb E149 Z Z (m3add_ct (i := ⟨15,m55.nx,0,[m36.nx],wordV m52⟩) om70 (by omega) b (by first | exact hb9 | decide | omega)) (dc d6 (dc (rIns.M (m := ⟨15,m55.nx,0,[m36.nx],wordV m52⟩) (c := (.slice (some ⟨g72,0,none⟩) 1 1)) d0 (wl 15) (wp w70_0) (wl 0) (wp w55_0)) dn)) (kd (kc k0 kn)) ⟨add_ok om70.1 hbn,(addS_s.trans om70.2)⟩ p0 fun m75 hm75 om75 bm75 ua75 qs75 w17 => ?_))))
 clear bm70
 refine jn ?_
 have hst : m75 = memS b st m := (by (try simp only [hm15,hm17,hm19,hm23,hm26,hm28,hm36,hm38,hm46,hm49,hm52,hm55,hm70,hm75] at hc1 hc2 hc3); (try simp only [hm15,hm17,hm19,hm23,hm26,hm28,hm36,hm38,hm46,hm49,hm52,hm55,hm70,hm75]); all_goals first | rfl | (simp [memS,mem1,mem2,hc1,hc2,hc3]; done) | (simp [memS,mem1,mem2,hc1,hc2,hc3]; rfl) | (unfold memS mem1 mem2; (repeat' split) <;> first | rfl | (exfalso; omega) | (simp [hc1,hc2,hc3] at *; done) | (simp_all; done)))
 exact jd0 Z (ua75,qs75) Z dn (fun _ _ => (kcb (by rw [← hst]) k0 (kcg (by rw [← hst]) k0 (kck (by rw [← hst]) k0 kn))))
 refine jsk (jx (jq (jr (jm Z (jn (jx ?_))))))
 refine jif Z (fun hc4 => ?_) (fun hc4 => ?_)
 refine jr (jm Z (jm Z (jm Z (jm Z (jm Z (jkb E148 Z Z (m3some_ct om52 (by omega) b (by first | exact hb9 | decide | omega)) (dc d5 dn) (kd (kc k0 kn)) ⟨some_ok om52.1 hbn,(someS_s.trans om52.2)⟩ p1 fun m62 hm62 om62 bm62 ua62 qs62 w18 => ?_))))))
 clear bm52
 refine jlit (r := (rI .i64)) (l := [m36.nx,sV9 m52]) U22 I3 (by decide) Z Z Z (lV Z Z (wI (wp w38_0)) (lV Z Z (wI ((wfw d0))) ln)) fun g63_20 => jm Z (js (jbu (v := .agg #[.int .i64 16,.int .i64 0,.int .i64 0,(.slice (some ⟨g63_20,0,none⟩) 2 2),.int .i32 (IntKind.i32.wrap (tVV 4 m46))]) Z (fun _ => by kernel_rfl)) (jfz k0 (by (try simp) <;> omega) (jkb E149 Z Z (m3add_ct (i := ⟨16,0,0,[m36.nx,sV9 m52],IntKind.i32.wrap (tVV 4 m46)⟩) om62 (by omega) b (by first | exact hb9 | decide | omega)) (dc d7 (dc (rIns.M (m := ⟨16,0,0,[m36.nx,sV9 m52],IntKind.i32.wrap (tVV 4 m46)⟩) (c := (.slice (some ⟨g63_20,0,none⟩) 2 2)) d0 (wl 16) (wl 0) (wl 0) (wp (wrap_wrap _ _))) dn)) (kd (kc k0 kn)) ⟨add_ok om62.1 hbn,(addS_s.trans om62.2)⟩ p0 fun m66 hm66 om66 bm66 ua66 qs66 w22 => ?_)))
 clear bm62
 refine jn ?_
 have hst : m66 = memS b st m := (by (try simp only [hm15,hm17,hm19,hm23,hm26,hm28,hm36,hm38,hm46,hm49,hm52,hm62,hm66] at hc1 hc2 hc4); (try simp only [hm15,hm17,hm19,hm23,hm26,hm28,hm36,hm38,hm46,hm49,hm52,hm62,hm66]); all_goals first | rfl | (simp [memS,mem1,mem2,hc1,hc2,hc4]; done) | (simp [memS,mem1,mem2,hc1,hc2,hc4]; rfl) | (unfold memS mem1 mem2; (repeat' split) <;> first | rfl | (exfalso; omega) | (simp [hc1,hc2,hc4] at *; done) | (simp_all; done)))
 exact jd0 Z (ua66,qs66) Z dn (fun _ _ => (kcb (by rw [← hst]) k0 (kcg (by rw [← hst]) k0 (kck (by rw [← hst]) k0 kn))))
 refine jr (jm Z (jm Z (jm Z (jkr E99 Z Z (m3fresh_ct om52 (by omega)) (dc d5 dn) (kd (kc k0 kn)) ⟨fresh_ok om52.1,om52.2⟩ fun m70 hm70 om70 bm70 => ?_))))
 have w70_0 : IntKind.i64.wrap (m52.nx) = m52.nx := (IntWalk.i64_in _ (by omega))
 clear bm52
 refine jm Z (jlit (r := (rI .i64)) (l := [m36.nx]) U22 I3 (by decide) Z Z Z (lV Z Z (wI (wp w38_0)) ln) fun g72_23 => jm Z (js (jbu (v := .agg #[.int .i64 15,.int .i64 m52.nx,.int .i64 0,(.slice (some ⟨g72_23,0,none⟩) 1 1),.int .i32 (IntKind.i32.wrap (tVV 4 m46))]) Z (fun _ => by kernel_rfl)) (jfz k0 (by (try simp) <;> omega) (jkb E149 Z Z (m3add_ct (i := ⟨15,m52.nx,0,[m36.nx],IntKind.i32.wrap (tVV 4 m46)⟩) om70 (by omega) b (by first | exact hb9 | decide | omega)) (dc d6 (dc (rIns.M (m := ⟨15,m52.nx,0,[m36.nx],IntKind.i32.wrap (tVV 4 m46)⟩) (c := (.slice (some ⟨g72_23,0,none⟩) 1 1)) d0 (wl 15) (wp w70_0) (wl 0) (wp (wrap_wrap _ _))) dn)) (kd (kc k0 kn)) ⟨add_ok om70.1 hbn,(addS_s.trans om70.2)⟩ p0 fun m75 hm75 om75 bm75 ua75 qs75 w25 => ?_))))
 clear bm70
 refine jn ?_
 have hst : m75 = memS b st m := (by (try simp only [hm15,hm17,hm19,hm23,hm26,hm28,hm36,hm38,hm46,hm49,hm52,hm70,hm75] at hc1 hc2 hc4); (try simp only [hm15,hm17,hm19,hm23,hm26,hm28,hm36,hm38,hm46,hm49,hm52,hm70,hm75]); all_goals first | rfl | (simp [memS,mem1,mem2,hc1,hc2,hc4]; done) | (simp [memS,mem1,mem2,hc1,hc2,hc4]; rfl) | (unfold memS mem1 mem2; (repeat' split) <;> first | rfl | (exfalso; omega) | (simp [hc1,hc2,hc4] at *; done) | (simp_all; done)))
 exact jd0 Z (ua75,qs75) Z dn (fun _ _ => (kcb (by rw [← hst]) k0 (kcg (by rw [← hst]) k0 (kck (by rw [← hst]) k0 kn))))
 refine jsk (jx (jq (jr (jm Z (jkr E54 Z Z (m3take_ct om19 (by omega) 4 (by first | exact hb9 | decide | omega)) (dc d1 dn) (kd (kc k0 kn)) ⟨tO9 om19.1,om19.2⟩ fun m49 hm49 om49 bm49 => ?_)))))
 have w49_0 : IntKind.i64.wrap (tVV 4 m19) = tVV 4 m19 := (IntWalk.i64_in _ (by have h9 := @tV9 4 (by omega) m19; omega))
 have tr49 := @tV9 4 (by omega) m19
 clear bm19
 refine js (jco U3 U21 Z Z) (ja Z (jn (jx (jq (jq (jr (jm Z (jkr E54 Z Z (m3take_ct om49 (by omega) 12 (by first | exact hb9 | decide | omega)) (dc d1 dn) (kd (kc k0 kn)) ⟨tO9 om49.1,om49.2⟩ fun m52 hm52 om52 bm52 => ?_))))))))
 have w52_0 : IntKind.i64.wrap (tVV 12 m49) = tVV 12 m49 := (IntWalk.i64_in _ (by have h9 := @tV9 12 (by omega) m49; omega))
 have tr52 := @tV9 12 (by omega) m49
 clear bm49
 refine js (jeql Z Z) (jn (jx ?_))
 refine jif Z (fun hc5 => ?_) (fun hc5 => ?_)
 refine jr (jm Z (jkr E53 Z Z (m3word_ct om52 (by omega)) (dc d1 dn) (kd (kc k0 kn)) ⟨word_ok om52.1,om52.2⟩ fun m55 hm55 om55 bm55 => ?_))
 have w55_0 : IntKind.i32.wrap (wordV m52) = wordV m52 := (word_w m52)
 clear bm52
 refine ja Z (jn (jx (jq (jr (jm Z (jn (jx ?_)))))))
 refine jif Z (fun hc6 => ?_) (fun hc6 => ?_)
 refine jr (jm Z (jm Z (jm Z (jm Z (jm Z (jkb E148 Z Z (m3some_ct om55 (by omega) b (by first | exact hb9 | decide | omega)) (dc d1 dn) (kd (kc k0 kn)) ⟨some_ok om55.1 hbn,(someS_s.trans om55.2)⟩ p1 fun m62 hm62 om62 bm62 ua62 qs62 w26 => ?_))))))
 clear bm55
 refine jlit (r := (rI .i64)) (l := [m15.nx,sV9 m55]) U22 I3 (by decide) Z Z Z (lV Z Z (wI ((wfw d1))) (lV Z Z (wI ((wfw d0))) ln)) fun g63_28 => jm Z (js (jbu (v := .agg #[.int .i64 16,.int .i64 0,.int .i64 0,(.slice (some ⟨g63_28,0,none⟩) 2 2),.int .i32 (wordV m52)]) Z (fun _ => by kernel_rfl)) (jfz k0 (by (try simp) <;> omega) (jkb E149 Z Z (m3add_ct (i := ⟨16,0,0,[m15.nx,sV9 m55],wordV m52⟩) om62 (by omega) b (by first | exact hb9 | decide | omega)) (dc d3 (dc (rIns.M (m := ⟨16,0,0,[m15.nx,sV9 m55],wordV m52⟩) (c := (.slice (some ⟨g63_28,0,none⟩) 2 2)) d0 (wl 16) (wl 0) (wl 0) (wp w55_0)) dn)) (kd (kc k0 kn)) ⟨add_ok om62.1 hbn,(addS_s.trans om62.2)⟩ p0 fun m66 hm66 om66 bm66 ua66 qs66 w30 => ?_)))
 clear bm62
 refine jn ?_
 have hst : m66 = memS b st m := (by (try simp only [hm15,hm17,hm19,hm49,hm52,hm55,hm62,hm66] at hc1 hc5 hc6); (try simp only [hm15,hm17,hm19,hm49,hm52,hm55,hm62,hm66]); all_goals first | rfl | (simp [memS,mem1,mem2,hc1,hc5,hc6]; done) | (simp [memS,mem1,mem2,hc1,hc5,hc6]; rfl) | (unfold memS mem1 mem2; (repeat' split) <;> first | rfl | (exfalso; omega) | (simp [hc1,hc5,hc6] at *; done) | (simp_all; done)))
 exact jd0 Z (ua66,qs66) Z dn (fun _ _ => (kcb (by rw [← hst]) k0 (kcg (by rw [← hst]) k0 (kck (by rw [← hst]) k0 kn))))
 refine jr (jm Z (jm Z (jm Z (jkr E99 Z Z (m3fresh_ct om55 (by omega)) (dc d1 dn) (kd (kc k0 kn)) ⟨fresh_ok om55.1,om55.2⟩ fun m70 hm70 om70 bm70 => ?_))))
 have w70_0 : IntKind.i64.wrap (m55.nx) = m55.nx := (IntWalk.i64_in _ (by omega))
 clear bm55
 refine jm Z (jlit (r := (rI .i64)) (l := [m15.nx]) U22 I3 (by decide) Z Z Z (lV Z Z (wI ((wfw d0))) ln) fun g72_31 => jm Z (js (jbu (v := .agg #[.int .i64 15,.int .i64 m55.nx,.int .i64 0,(.slice (some ⟨g72_31,0,none⟩) 1 1),.int .i32 (wordV m52)]) Z (fun _ => by kernel_rfl)) (jfz k0 (by (try simp) <;> omega) (jkb E149 Z Z (m3add_ct (i := ⟨15,m55.nx,0,[m15.nx],wordV m52⟩) om70 (by omega) b (by first | exact hb9 | decide | omega)) (dc d2 (dc (rIns.M (m := ⟨15,m55.nx,0,[m15.nx],wordV m52⟩) (c := (.slice (some ⟨g72_31,0,none⟩) 1 1)) d0 (wl 15) (wp w70_0) (wl 0) (wp w55_0)) dn)) (kd (kc k0 kn)) ⟨add_ok om70.1 hbn,(addS_s.trans om70.2)⟩ p0 fun m75 hm75 om75 bm75 ua75 qs75 w33 => ?_))))
 clear bm70
 refine jn ?_
 have hst : m75 = memS b st m := (by (try simp only [hm15,hm17,hm19,hm49,hm52,hm55,hm70,hm75] at hc1 hc5 hc6); (try simp only [hm15,hm17,hm19,hm49,hm52,hm55,hm70,hm75]); all_goals first | rfl | (simp [memS,mem1,mem2,hc1,hc5,hc6]; done) | (simp [memS,mem1,mem2,hc1,hc5,hc6]; rfl) | (unfold memS mem1 mem2; (repeat' split) <;> first | rfl | (exfalso; omega) | (simp [hc1,hc5,hc6] at *; done) | (simp_all; done)))
 exact jd0 Z (ua75,qs75) Z dn (fun _ _ => (kcb (by rw [← hst]) k0 (kcg (by rw [← hst]) k0 (kck (by rw [← hst]) k0 kn))))
 refine jsk (jx (jq (jr (jm Z (jn (jx ?_))))))
 refine jif Z (fun hc7 => ?_) (fun hc7 => ?_)
 refine jr (jm Z (jm Z (jm Z (jm Z (jm Z (jkb E148 Z Z (m3some_ct om52 (by omega) b (by first | exact hb9 | decide | omega)) (dc d1 dn) (kd (kc k0 kn)) ⟨some_ok om52.1 hbn,(someS_s.trans om52.2)⟩ p1 fun m62 hm62 om62 bm62 ua62 qs62 w34 => ?_))))))
 clear bm52
 refine jlit (r := (rI .i64)) (l := [m15.nx,sV9 m52]) U22 I3 (by decide) Z Z Z (lV Z Z (wI ((wfw d1))) (lV Z Z (wI ((wfw d0))) ln)) fun g63_36 => jm Z (js (jbu (v := .agg #[.int .i64 16,.int .i64 0,.int .i64 0,(.slice (some ⟨g63_36,0,none⟩) 2 2),.int .i32 (IntKind.i32.wrap (tVV 4 m19))]) Z (fun _ => by kernel_rfl)) (jfz k0 (by (try simp) <;> omega) (jkb E149 Z Z (m3add_ct (i := ⟨16,0,0,[m15.nx,sV9 m52],IntKind.i32.wrap (tVV 4 m19)⟩) om62 (by omega) b (by first | exact hb9 | decide | omega)) (dc d3 (dc (rIns.M (m := ⟨16,0,0,[m15.nx,sV9 m52],IntKind.i32.wrap (tVV 4 m19)⟩) (c := (.slice (some ⟨g63_36,0,none⟩) 2 2)) d0 (wl 16) (wl 0) (wl 0) (wp (wrap_wrap _ _))) dn)) (kd (kc k0 kn)) ⟨add_ok om62.1 hbn,(addS_s.trans om62.2)⟩ p0 fun m66 hm66 om66 bm66 ua66 qs66 w38 => ?_)))
 clear bm62
 refine jn ?_
 have hst : m66 = memS b st m := (by (try simp only [hm15,hm17,hm19,hm49,hm52,hm62,hm66] at hc1 hc5 hc7); (try simp only [hm15,hm17,hm19,hm49,hm52,hm62,hm66]); all_goals first | rfl | (simp [memS,mem1,mem2,hc1,hc5,hc7]; done) | (simp [memS,mem1,mem2,hc1,hc5,hc7]; rfl) | (unfold memS mem1 mem2; (repeat' split) <;> first | rfl | (exfalso; omega) | (simp [hc1,hc5,hc7] at *; done) | (simp_all; done)))
 exact jd0 Z (ua66,qs66) Z dn (fun _ _ => (kcb (by rw [← hst]) k0 (kcg (by rw [← hst]) k0 (kck (by rw [← hst]) k0 kn))))
 refine jr (jm Z (jm Z (jm Z (jkr E99 Z Z (m3fresh_ct om52 (by omega)) (dc d1 dn) (kd (kc k0 kn)) ⟨fresh_ok om52.1,om52.2⟩ fun m70 hm70 om70 bm70 => ?_))))
 have w70_0 : IntKind.i64.wrap (m52.nx) = m52.nx := (IntWalk.i64_in _ (by omega))
 clear bm52
 refine jm Z (jlit (r := (rI .i64)) (l := [m15.nx]) U22 I3 (by decide) Z Z Z (lV Z Z (wI ((wfw d0))) ln) fun g72_39 => jm Z (js (jbu (v := .agg #[.int .i64 15,.int .i64 m52.nx,.int .i64 0,(.slice (some ⟨g72_39,0,none⟩) 1 1),.int .i32 (IntKind.i32.wrap (tVV 4 m19))]) Z (fun _ => by kernel_rfl)) (jfz k0 (by (try simp) <;> omega) (jkb E149 Z Z (m3add_ct (i := ⟨15,m52.nx,0,[m15.nx],IntKind.i32.wrap (tVV 4 m19)⟩) om70 (by omega) b (by first | exact hb9 | decide | omega)) (dc d2 (dc (rIns.M (m := ⟨15,m52.nx,0,[m15.nx],IntKind.i32.wrap (tVV 4 m19)⟩) (c := (.slice (some ⟨g72_39,0,none⟩) 1 1)) d0 (wl 15) (wp w70_0) (wl 0) (wp (wrap_wrap _ _))) dn)) (kd (kc k0 kn)) ⟨add_ok om70.1 hbn,(addS_s.trans om70.2)⟩ p0 fun m75 hm75 om75 bm75 ua75 qs75 w41 => ?_))))
 clear bm70
 refine jn ?_
 have hst : m75 = memS b st m := (by (try simp only [hm15,hm17,hm19,hm49,hm52,hm70,hm75] at hc1 hc5 hc7); (try simp only [hm15,hm17,hm19,hm49,hm52,hm70,hm75]); all_goals first | rfl | (simp [memS,mem1,mem2,hc1,hc5,hc7]; done) | (simp [memS,mem1,mem2,hc1,hc5,hc7]; rfl) | (unfold memS mem1 mem2; (repeat' split) <;> first | rfl | (exfalso; omega) | (simp [hc1,hc5,hc7] at *; done) | (simp_all; done)))
 exact jd0 Z (ua75,qs75) Z dn (fun _ _ => (kcb (by rw [← hst]) k0 (kcg (by rw [← hst]) k0 (kck (by rw [← hst]) k0 kn))))
abbrev U23 := @Tryz.underlying23
theorem A158 : ∃ d,Tryz.prog.underlying 158 = some d ∧ (match d with | .struct _ | .array _ _ => true | _ => false) = true := ⟨_,Tryz.underlying158,rfl⟩
theorem F158_0 : Fld Tryz.prog 158 0 0 := ⟨_,_,Tryz.underlying158,rfl,rfl,1,(by unfold Sz; kernel_rfl),by decide⟩
theorem F158_1 : Fld Tryz.prog 158 1 1 := ⟨_,_,Tryz.underlying158,rfl,rfl,1,(by unfold Sz; kernel_rfl),by decide⟩
theorem F158_2 : Fld Tryz.prog 158 2 2 := ⟨_,_,Tryz.underlying158,rfl,rfl,1,(by unfold Sz; kernel_rfl),by decide⟩
theorem F158_3 : Fld Tryz.prog 158 3 3 := ⟨_,_,Tryz.underlying158,rfl,rfl,1,(by unfold Sz; kernel_rfl),by decide⟩
theorem F160_2 : Fld Tryz.prog 160 2 2 := ⟨_,_,Tryz.underlying160,rfl,rfl,4,(by unfold Sz; kernel_rfl),by decide⟩
theorem Z158 : Sz Tryz.prog 158 4 := by unfold Sz; kernel_rfl
theorem Z23 : Sz Tryz.prog 23 3 := by unfold Sz; kernel_rfl
theorem J158 : (Tryz.prog.info? 158).bind (·.zero) = some (.agg #[.int .i64 0,.slice none 0 0,.slice none 0 0,.int .i32 0]) := by kernel_rfl
theorem J23 : (Tryz.prog.info? 23).bind (·.zero) = some (.agg #[.int .i64 0,.int .i64 0,.int .i64 0]) := by kernel_rfl
set_option maxRecDepth 4000 in
theorem m3end_ct {vs vb al : Value} {m : Mk} {nb c : Nat} {S : List Int} {g0 : Nat} {B0 B1 : Nat} {qs : List BV} (hok : okS nb c S m) (hc : c ≤ 950000) (b : Int) {a2 : Value} {l : List Int} (hb9 : 0 ≤ b ∧ b < nb) : KB Tryz.prog 103 [.int .i64 b,a2] [dv (rL (rI .i64)) a2 l] g0 vs vb al S B0 B1 qs [] m (endS b l m) (.tuple #[]) := by
 refine jenter (args := [.pointer (some ⟨g0,0,none⟩),.int .i64 b,a2]) Tryz.func103 rfl rfl rfl fun w0 X => ?_
 refine cgo k1 fun w1 => ?_
 have bd0 := okM.bnd hok.1
 refine cbk k2 (okM.bnd hok.1).2.2.2.2.2.2.2.1 fun hvb => ?_
 have hbn : b.toNat < nb := by omega
 refine jq (jr (js (jbu (v := .agg #[.int .i64 0,.slice none 0 0,.slice none 0 0,.int .i32 0]) Z (fun _ => by kernel_rfl)) (jalc J158 Z fun g6 => jsta k0 Z158 Z Z Z ⟨Z,Z,Z,Z,trivial⟩ (saf Z) (jn (jx (jq (jq (jr (jm Z (jdq d1 fun q2 w2 => ?_))))))))))
 refine js (jln U22 d1 Z) (jn (jx (jb (jq (jr (js (jeql Z Z) (ja Z (jn (jx ?_)))))))))
 refine jif Z (fun hc1 => ?_) (fun hc1 => ?_)
 refine jq (jr (js (jf F158_0 Z) (jst k0 Z3 Z Z Z s0 (jn (jx (jq (jr (jm Z (jkr E54 Z Z (m3take_ct hok (by omega) 8 (by first | exact hb9 | decide | omega)) (dc d0 dn) (kc k1 (kc k1 (kc k1 kn))) ⟨tO9 hok.1,hok.2⟩ fun m44 hm44 om44 bm44 => ?_)))))))))
 have w44_0 : IntKind.i64.wrap (tVV 8 m) = tVV 8 m := (IntWalk.i64_in _ (by have h9 := @tV9 8 (by omega) m; omega))
 have tr44 := @tV9 8 (by omega) m
 clear bd0
 refine ja Z (jn (jx (jq (jr (jm Z (js (jeql Z Z) (jn (jx ?_))))))))
 refine jif Z (fun hc2 => ?_) (fun hc2 => ?_)
 refine jq (jr (js (jf F158_0 Z) (jst k3 Z3 Z Z Z s0 (jn (jx (jr (jm Z (jkr E54 Z Z (m3take_ct om44 (by omega) 200 (by first | exact hb9 | decide | omega)) (dc d0 dn) (kc k1 (kc k1 (kc k1 kn))) ⟨tO9 om44.1,om44.2⟩ fun m49 hm49 om49 bm49 => ?_))))))))
 have w49_0 : IntKind.i64.wrap (tVV 200 m44) = tVV 200 m44 := (IntWalk.i64_in _ (by have h9 := @tV9 200 (by omega) m44; omega))
 have tr49 := @tV9 200 (by omega) m44
 clear bm44
 refine js (jco U3 U21 Z Z) (js (jf F158_3 Z) (jst k3 Z21 Z Z Z s3 (jn (jbn (jx (jtl 9 Mixed (by kernel_rfl) (jt (jmv Z) (jt (jnil Z) (jt (jf F106_2 Z) (jt (jf F104_1 Z) (jt (jl k1 O102 Z Z) ?_)))))))))))
 refine jt (jmv Z) (jt (jla k0 A158 Z158 Z Z Z) (jt (jbi' (j := (Int.toNat b)) U102 Z160 hvb Z Z (by omega) (by omega)) (jt (jf F160_2 Z) (jtt (jbT k3 (by omega) Z158 Z Z Z Z ⟨Z,Z,Z,Z,trivial⟩ (rTerm.M (m := ⟨5,[],[],IntKind.i32.wrap (tVV 200 m44)⟩) (c := (.slice none 0 0,.slice none 0 0)) wN wN (wl 5) (wp (wrap_wrap _ _))) (jkn (c := c + 2) ({ m49 with bs := List.set m49.bs (Int.toNat b) { (ix m49.bs (Int.toNat b)) with Term := ⟨5,[],[],IntKind.i32.wrap (tVV 200 m44)⟩ } }) (kc k2 (kc k2 (kc k0 kn))) ⟨(okM.setb (d := 0) om49.1 (Nat.le_refl _)),om49.2⟩ fun ms3 hms3 oms3 bms3 => ?_))))))
 clear bm49
 refine jn ?_
 have hst : ms3 = endS b l m := (by (try simp only [hm44,hm49,hms3] at hc1 hc2); (try simp only [hm44,hm49,hms3]); all_goals first | rfl | (simp [endS,setT,hc1,hc2]; done) | (simp [endS,setT,hc1,hc2]; rfl) | (unfold endS setT; (repeat' split) <;> first | rfl | (exfalso; omega) | (simp [hc1,hc2] at *; done) | (simp_all; done)))
 exact jd0 Z (al,List.set qs (Int.toNat b) { (ix qs (Int.toNat b)) with T := ⟨5,[],[],IntKind.i32.wrap (tVV 200 m44)⟩ }) Z dn (fun _ _ => (kcb (by rw [← hst]) k0 (kcg (by rw [← hst]) k0 (kck (by rw [← hst]) k0 kn))))
 refine jq (jr (jm Z (js (jgtr Z Z) (jn (jx ?_)))))
 refine jif Z (fun hc3 => ?_) (fun hc3 => ?_)
 refine jr (jm Z (jm Z (jkb E148 Z Z (m3some_ct om44 (by omega) b (by first | exact hb9 | decide | omega)) (dc d0 dn) (kd (kc k0 kn)) ⟨some_ok om44.1 hbn,(someS_s.trans om44.2)⟩ p1 fun m56 hm56 om56 bm56 ua56 qs56 w4 => ?_)))
 clear bm44
 refine jlit (r := (rI .i64)) (l := [sV9 m44]) U22 I3 (by decide) Z Z Z (lV Z Z (wI ((wfw d0))) ln) fun g57 => js (jf F158_1 Z) (jst k4 Z22 Z Z Z s1 (jn (jbn (jx (jtl 9 Mixed (by kernel_rfl) (jt (jmv Z) (jt (jnil Z) (jt (jf F106_2 Z) (jt (jf F104_1 Z) (jt (jl k2 O102 Z Z) ?_))))))))))
 refine jt (jmv Z) (jt (jla k0 A158 Z158 Z Z Z) (jt (jbi' (j := (Int.toNat b)) U102 Z160 hvb Z Z (by omega) (by omega)) (jt (jf F160_2 Z) (jtt (jfz k1 (by (try simp) <;> omega) (jbT k3 (by omega) Z158 Z Z Z Z ⟨Z,Z,Z,Z,trivial⟩ (rTerm.M (m := ⟨4,[sV9 m44],[],0⟩) (c := ((.slice (some ⟨g57,0,none⟩) 1 1),.slice none 0 0)) d0 wN (wl 4) (wl 0)) (jkn (c := c + 9) ({ m56 with bs := List.set m56.bs (Int.toNat b) { (ix m56.bs (Int.toNat b)) with Term := ⟨4,[sV9 m44],[],0⟩ } }) (kc k2 (kc k2 (kc k0 kn))) ⟨(okM.setb (d := 0) om56.1 (Nat.le_refl _)),om56.2⟩ fun ms7 hms7 oms7 bms7 => ?_)))))))
 clear bm56
 refine jn ?_
 have hst : ms7 = endS b l m := (by (try simp only [hm44,hm56,hms7] at hc1 hc2 hc3); (try simp only [hm44,hm56,hms7]); all_goals first | rfl | (simp [endS,setT,hc1,hc2,hc3]; done) | (simp [endS,setT,hc1,hc2,hc3]; rfl) | (unfold endS setT; (repeat' split) <;> first | rfl | (exfalso; omega) | (simp [hc1,hc2,hc3] at *; done) | (simp_all; done)))
 exact jd0 Z (ua56,List.set qs56 (Int.toNat b) { (ix qs56 (Int.toNat b)) with T := ⟨4,[sV9 m44],[],0⟩ }) Z dn (fun _ _ => (kcb (by rw [← hst]) k0 (kcg (by rw [← hst]) k0 (kck (by rw [← hst]) k0 kn))))
 refine jsk (jbn (jx (jtl 9 Mixed (by kernel_rfl) (jt (jmv Z) (jt (jnil Z) (jt (jf F106_2 Z) (jt (jf F104_1 Z) (jt (jl k0 O102 Z Z) (jt (jmv Z) (jt (jla k3 A158 Z158 Z Z Z) (jt (jbi' (j := (Int.toNat b)) U102 Z160 hvb Z Z (by omega) (by omega)) ?_)))))))))))
 refine jt (jf F160_2 Z) (jtt (jbT k2 (by omega) Z158 Z Z Z Z ⟨Z,Z,Z,Z,trivial⟩ (rTerm.M (m := ⟨4,[],[],0⟩) (c := (.slice none 0 0,.slice none 0 0)) wN wN (wl 4) (wl 0)) (jkn (c := c + 1) ({ m44 with bs := List.set m44.bs (Int.toNat b) { (ix m44.bs (Int.toNat b)) with Term := ⟨4,[],[],0⟩ } }) (kc k1 (kc k1 (kc k0 kn))) ⟨(okM.setb (d := 0) om44.1 (Nat.le_refl _)),om44.2⟩ fun ms8 hms8 oms8 bms8 => ?_)))
 clear bm44
 refine jn ?_
 have hst : ms8 = endS b l m := (by (try simp only [hm44,hms8] at hc1 hc2 hc3); (try simp only [hm44,hms8]); all_goals first | rfl | (simp [endS,setT,hc1,hc2,hc3]; done) | (simp [endS,setT,hc1,hc2,hc3]; rfl) | (unfold endS setT; (repeat' split) <;> first | rfl | (exfalso; omega) | (simp [hc1,hc2,hc3] at *; done) | (simp_all; done)))
 exact jd0 Z (al,List.set qs (Int.toNat b) { (ix qs (Int.toNat b)) with T := ⟨4,[],[],0⟩ }) Z dn (fun _ _ => (kcb (by rw [← hst]) k0 (kcg (by rw [← hst]) k0 (kck (by rw [← hst]) k0 kn))))
 refine jq (jr (js (jeql Z Z) (ja Z (jn (jx ?_)))))
 refine jif Z (fun hc4 => ?_) (fun hc4 => ?_)
 refine jq (jr (js (jf F158_0 Z) (jst k0 Z3 Z Z Z s0 (jn (jx (jr (jm Z (js (jf F158_2 Z) (jst k0 Z22 Z Z w2.one s2 (jn (jbn ?_)))))))))))
 refine jx (jtl 9 Mixed (by kernel_rfl) (jt (jmv Z) (jt (jnil Z) (jt (jf F106_2 Z) (jt (jf F104_1 Z) (jt (jl k1 O102 Z Z) (jt (jmv Z) (jt (jla k0 A158 Z158 Z Z Z) (jt (jbi' (j := (Int.toNat b)) U102 Z160 hvb Z Z (by omega) (by omega)) (jt (jf F160_2 Z) (jtt ?_)))))))))))
 refine jbT k3 (by omega) Z158 Z Z Z Z ⟨Z,Z,w2.one,Z,trivial⟩ (rTerm.M (m := ⟨1,[],l,0⟩) (c := (.slice none 0 0,a2)) wN d1 (wl 1) (wl 0)) (jkn (c := c) ({ m with bs := List.set m.bs (Int.toNat b) { (ix m.bs (Int.toNat b)) with Term := ⟨1,[],l,0⟩ } }) (kc k2 (kc k2 (kc k0 kn))) ⟨(okM.setb (d := 0) hok.1 (Nat.le_refl _)),hok.2⟩ fun ms9 hms9 oms9 bms9 => ?_)
 clear bd0
 refine jn ?_
 have hst : ms9 = endS b l m := (by (try simp only [hms9] at hc1 hc4); (try simp only [hms9]); all_goals first | rfl | (simp [endS,setT,hc1,hc4]; done) | (simp [endS,setT,hc1,hc4]; rfl) | (unfold endS setT; (repeat' split) <;> first | rfl | (exfalso; omega) | (simp [hc1,hc4] at *; done) | (simp_all; done)))
 exact jd0 Z (al,List.set qs (Int.toNat b) { (ix qs (Int.toNat b)) with T := ⟨1,[],l,0⟩ }) Z dn (fun _ _ => (kcb (by rw [← hst]) k0 (kcg (by rw [← hst]) k0 (kck (by rw [← hst]) k0 kn))))
 refine jq (jr (js (jeql Z Z) (ja Z (jn (jx ?_)))))
 refine jif Z (fun hc5 => ?_) (fun hc5 => ?_)
 refine jq (jr (js (jf F158_0 Z) (jst k0 Z3 Z Z Z s0 (jn (jx (jq (jr (jm Z (js (jf F158_2 Z) (jst k0 Z22 Z Z w2.one s2 (jn ?_)))))))))))
 refine jx (jq (jr (jm Z (jm Z (jkb E148 Z Z (m3some_ct hok (by omega) b (by first | exact hb9 | decide | omega)) (dc d0 dn) (kc k1 (kc k1 (kc k1 kn))) ⟨some_ok hok.1 hbn,(someS_s.trans hok.2)⟩ p1 fun m71 hm71 om71 bm71 ua71 qs71 w10 => ?_)))))
 clear bd0
 refine ja Z (jn (jx (jq (jq (jr (jm Z (jkr E54 Z Z (m3take_ct om71 (by omega) 2 (by first | exact hb9 | decide | omega)) (dc d1 dn) (kd (kc k0 kn)) ⟨tO9 om71.1,om71.2⟩ fun m73 hm73 om73 bm73 => ?_)))))))
 have w73_0 : IntKind.i64.wrap (tVV 2 m71) = tVV 2 m71 := (IntWalk.i64_in _ (by have h9 := @tV9 2 (by omega) m71; omega))
 have tr73 := @tV9 2 (by omega) m71
 clear bm71
 refine js (jeql Z Z) (jn (jx ?_))
 refine jif Z (fun hc6 => ?_) (fun hc6 => ?_)
 refine jq (jr (js (jbu (v := .agg #[.int .i64 11,.int .i64 12,.int .i64 13]) Z (fun _ => by kernel_rfl)) (jalc J23 Z fun g9 => jsta k0 Z23 Z Z Z ⟨Z,Z,Z,trivial⟩ (saf Z) (jn (jx (jq (jr (jm Z (jm Z (jkb E148 Z Z (m3some_ct om73 (by omega) b (by first | exact hb9 | decide | omega)) (dc d1 dn) (kc k1 (kc k1 (kc k1 kn))) ⟨some_ok om73.1 hbn,(someS_s.trans om73.2)⟩ p1 fun m78 hm78 om78 bm78 ua78 qs78 w12 => ?_))))))))))
 clear bm73
 refine ja Z (jn (jx (jq (jr (jm Z (jkr E99 Z Z (m3fresh_ct om78 (by omega)) (dc d2 dn) (kd (kc k0 kn)) ⟨fresh_ok om78.1,om78.2⟩ fun m80 hm80 om80 bm80 => ?_))))))
 have w80_0 : IntKind.i64.wrap (m78.nx) = m78.nx := (IntWalk.i64_in _ (by omega))
 clear bm78
 refine ja Z (jn (jx (jq (jr (jm Z (jm Z (jm Z (jkr E54 Z Z (m3take_ct om80 (by omega) 3 (by first | exact hb9 | decide | omega)) (dc d2 dn) (kd (kc k0 kn)) ⟨tO9 om80.1,om80.2⟩ fun m84 hm84 om84 bm84 => ?_))))))))
 have w84_0 : IntKind.i64.wrap (tVV 3 m80) = tVV 3 m80 := (IntWalk.i64_in _ (by have h9 := @tV9 3 (by omega) m80; omega))
 have tr84 := @tV9 3 (by omega) m80
 clear bm80
 refine js (jixa (i := (Int.toNat (tVV 3 m80))) U23 Z3 Z Z (by omega) (by omega)) (js (jli (i := (Int.toNat (tVV 3 m80))) (l := [11,12,13]) k3 (by show _ < 3; omega) (by omega) O3 Z) (jm Z (jm Z (jm Z (jlit (r := (rI .i64)) (l := [sV9 m,sV9 m73]) U22 I3 (by decide) Z Z Z (lV Z Z (wI ((wfw d1))) (lV Z Z (wI ((wfw d0))) ln)) fun g90 => js (jbu (v := .agg #[.int .i64 (ix [11,12,13] (Int.toNat (tVV 3 m80))),.int .i64 m78.nx,.int .i64 0,(.slice (some ⟨g90,0,none⟩) 2 2),.int .i32 0]) Z (fun _ => by kernel_rfl)) (jfz k0 (by (try simp) <;> omega) (jkb E149 Z Z (m3add_ct (i := ⟨ix [11,12,13] (Int.toNat (tVV 3 m80)),m78.nx,0,[sV9 m,sV9 m73],0⟩) om84 (by omega) b (by first | exact hb9 | decide | omega)) (dc d3 (dc (rIns.M (m := ⟨ix [11,12,13] (Int.toNat (tVV 3 m80)),m78.nx,0,[sV9 m,sV9 m73],0⟩) (c := (.slice (some ⟨g90,0,none⟩) 2 2)) d0 (wp (ix_w (l := [11,12,13]) (by decide) (by decide) (Int.toNat (tVV 3 m80)))) (wp w80_0) (wl 0) (wl 0)) dn)) (kd (kc k0 kn)) ⟨add_ok om84.1 hbn,(addS_s.trans om84.2)⟩ p0 fun m92 hm92 om92 bm92 ua92 qs92 w15 => ?_)))))))
 clear bm84
 refine jn (jx (jr (jm Z (ja Z (jn (jx (jr (jm Z (jlit (r := (rI .i64)) (l := [m78.nx]) U22 I3 (by decide) Z Z Z (lV Z Z (wI (wp w80_0)) ln) fun g95 => js (jf F158_1 Z) (jst k5 Z22 Z Z Z s1 ?_))))))))))
 refine jn (jbn (jx (jtl 9 Mixed (by kernel_rfl) (jt (jmv Z) (jt (jnil Z) (jt (jf F106_2 Z) (jt (jf F104_1 Z) (jt (jl k2 O102 Z Z) (jt (jmv Z) (jt (jla k0 A158 Z158 Z Z Z) (jt (jbi' (j := (Int.toNat b)) U102 Z160 hvb Z Z (by omega) (by omega)) ?_)))))))))))
 refine jt (jf F160_2 Z) (jtt (jfz k1 (by (try simp) <;> omega) (jbT k3 (by omega) Z158 Z Z Z Z ⟨Z,Z,w2.one,Z,trivial⟩ (rTerm.M (m := ⟨2,[m78.nx],l,0⟩) (c := ((.slice (some ⟨g95,0,none⟩) 1 1),a2)) d0 d5 (wl 2) (wl 0)) (jkn (c := c + 21) ({ m92 with bs := List.set m92.bs (Int.toNat b) { (ix m92.bs (Int.toNat b)) with Term := ⟨2,[m78.nx],l,0⟩ } }) (kc k2 (kc k2 (kc k0 kn))) ⟨(okM.setb (d := 0) om92.1 (Nat.le_refl _)),om92.2⟩ fun ms17 hms17 oms17 bms17 => ?_))))
 clear bm92
 refine jn ?_
 have hst : ms17 = endS b l m := (by (try simp only [hm71,hm73,hm78,hm80,hm84,hm92,hms17] at hc1 hc4 hc5 hc6); (try simp only [hm71,hm73,hm78,hm80,hm84,hm92,hms17]); all_goals first | rfl | (simp [endS,setT,hc1,hc4,hc5,hc6]; done) | (simp [endS,setT,hc1,hc4,hc5,hc6]; rfl) | (unfold endS setT; (repeat' split) <;> first | rfl | (exfalso; omega) | (simp [hc1,hc4,hc5,hc6] at *; done) | (simp_all; done)))
 exact jd0 Z (ua92,List.set qs92 (Int.toNat b) { (ix qs92 (Int.toNat b)) with T := ⟨2,[m78.nx],l,0⟩ }) Z dn (fun _ _ => (kcb (by rw [← hst]) k0 (kcg (by rw [← hst]) k0 (kck (by rw [← hst]) k0 kn))))
 refine jsk (jx (jr (jm Z (jlit (r := (rI .i64)) (l := [sV9 m]) U22 I3 (by decide) Z Z Z (lV Z Z (wI ((wfw d0))) ln) fun g95_18 => js (jf F158_1 Z) (jst k4 Z22 Z Z Z s1 (jn (jbn (jx (jtl 9 Mixed (by kernel_rfl) (jt (jmv Z) ?_))))))))))
 refine jt (jnil Z) (jt (jf F106_2 Z) (jt (jf F104_1 Z) (jt (jl k2 O102 Z Z) (jt (jmv Z) (jt (jla k0 A158 Z158 Z Z Z) (jt (jbi' (j := (Int.toNat b)) U102 Z160 hvb Z Z (by omega) (by omega)) (jt (jf F160_2 Z) (jtt (jfz k1 (by (try simp) <;> omega) (jbT k3 (by omega) Z158 Z Z Z Z ⟨Z,Z,w2.one,Z,trivial⟩ (rTerm.M (m := ⟨2,[sV9 m],l,0⟩) (c := ((.slice (some ⟨g95_18,0,none⟩) 1 1),a2)) d0 d3 (wl 2) (wl 0)) (jkn (c := c + 9) ({ m73 with bs := List.set m73.bs (Int.toNat b) { (ix m73.bs (Int.toNat b)) with Term := ⟨2,[sV9 m],l,0⟩ } }) (kc k2 (kc k2 (kc k0 kn))) ⟨(okM.setb (d := 0) om73.1 (Nat.le_refl _)),om73.2⟩ fun ms20 hms20 oms20 bms20 => ?_)))))))))))
 clear bm73
 refine jn ?_
 have hst : ms20 = endS b l m := (by (try simp only [hm71,hm73,hms20] at hc1 hc4 hc5 hc6); (try simp only [hm71,hm73,hms20]); all_goals first | rfl | (simp [endS,setT,hc1,hc4,hc5,hc6]; done) | (simp [endS,setT,hc1,hc4,hc5,hc6]; rfl) | (unfold endS setT; (repeat' split) <;> first | rfl | (exfalso; omega) | (simp [hc1,hc4,hc5,hc6] at *; done) | (simp_all; done)))
 exact jd0 Z (ua71,List.set qs71 (Int.toNat b) { (ix qs71 (Int.toNat b)) with T := ⟨2,[sV9 m],l,0⟩ }) Z dn (fun _ _ => (kcb (by rw [← hst]) k0 (kcg (by rw [← hst]) k0 (kck (by rw [← hst]) k0 kn))))
 refine jq (jr (js (jf F158_0 Z) (jst k0 Z3 Z Z Z s0 (jn (jx (jq (jr (jm Z (js (jf F158_2 Z) (jst k0 Z22 Z Z w2.one s2 (jn ?_)))))))))))
 refine jx (jq (jr (jm Z (jm Z (jkb E148 Z Z (m3some_ct hok (by omega) b (by first | exact hb9 | decide | omega)) (dc d0 dn) (kc k1 (kc k1 (kc k1 kn))) ⟨some_ok hok.1 hbn,(someS_s.trans hok.2)⟩ p1 fun m23 hm23 om23 bm23 ua23 qs23 w21 => ?_)))))
 clear bd0
 refine ja Z (jn (jx (jq (jr (jm Z (jm Z (jkb E105 Z Z (m3const_ct om23 (by omega) b 7 (by first | exact hb9 | decide | omega) (by decide)) (dc d1 dn) (kd (kc k0 kn)) ⟨const_ok om23.1 hbn,(constS_s.trans om23.2)⟩ p1 fun m26 hm26 om26 bm26 ua26 qs26 w23 => ?_)))))))
 clear bm23
 refine ja Z (jn (jx (jq (jr (jm Z (jkr E99 Z Z (m3fresh_ct om26 (by omega)) (dc d2 dn) (kd (kc k0 kn)) ⟨fresh_ok om26.1,om26.2⟩ fun m28 hm28 om28 bm28 => ?_))))))
 have w28_0 : IntKind.i64.wrap (m26.nx) = m26.nx := (IntWalk.i64_in _ (by omega))
 clear bm26
 refine ja Z (jn (jx (jq (jr (jm Z (jm Z (jm Z (jm Z (jm Z (jlit (r := (rI .i64)) (l := [sV9 m,m23.nx]) U22 I3 (by decide) Z Z Z (lV Z Z (wI ((wfw d1))) (lV Z Z (wI ((wfw d0))) ln)) fun g34 => js (jbu (v := .agg #[.int .i64 5,.int .i64 m26.nx,.int .i64 0,(.slice (some ⟨g34,0,none⟩) 2 2),.int .i32 0]) Z (fun _ => by kernel_rfl)) ?_))))))))))
 refine jfz k0 (by (try simp) <;> omega) (jkb E149 Z Z (m3add_ct (i := ⟨5,m26.nx,0,[sV9 m,m23.nx],0⟩) om28 (by omega) b (by first | exact hb9 | decide | omega)) (dc d3 (dc (rIns.M (m := ⟨5,m26.nx,0,[sV9 m,m23.nx],0⟩) (c := (.slice (some ⟨g34,0,none⟩) 2 2)) d0 (wl 5) (wp w28_0) (wl 0) (wl 0)) dn)) (kd (kc k0 kn)) ⟨add_ok om28.1 hbn,(addS_s.trans om28.2)⟩ p0 fun m36 hm36 om36 bm36 ua36 qs36 w26 => ?_)
 clear bm28
 refine jn (jx (jr (jm Z (jlit (r := (rI .i64)) (l := [m26.nx]) U22 I3 (by decide) Z Z Z (lV Z Z (wI (wp w28_0)) ln) fun g38 => js (jf F158_1 Z) (jst k4 Z22 Z Z Z s1 (jn (jbn (jx (jtl 9 Mixed (by kernel_rfl) (jt (jmv Z) ?_))))))))))
 refine jt (jnil Z) (jt (jf F106_2 Z) (jt (jf F104_1 Z) (jt (jl k2 O102 Z Z) (jt (jmv Z) (jt (jla k0 A158 Z158 Z Z Z) (jt (jbi' (j := (Int.toNat b)) U102 Z160 hvb Z Z (by omega) (by omega)) (jt (jf F160_2 Z) (jtt (jfz k1 (by (try simp) <;> omega) (jbT k3 (by omega) Z158 Z Z Z Z ⟨Z,Z,w2.one,Z,trivial⟩ (rTerm.M (m := ⟨3,[m26.nx],l,0⟩) (c := ((.slice (some ⟨g38,0,none⟩) 1 1),a2)) d0 d5 (wl 3) (wl 0)) (jkn (c := c + 14) ({ m36 with bs := List.set m36.bs (Int.toNat b) { (ix m36.bs (Int.toNat b)) with Term := ⟨3,[m26.nx],l,0⟩ } }) (kc k2 (kc k2 (kc k0 kn))) ⟨(okM.setb (d := 0) om36.1 (Nat.le_refl _)),om36.2⟩ fun ms28 hms28 oms28 bms28 => ?_)))))))))))
 clear bm36
 refine jn ?_
 have hst : ms28 = endS b l m := (by (try simp only [hm23,hm26,hm28,hm36,hms28] at hc1 hc4 hc5); (try simp only [hm23,hm26,hm28,hm36,hms28]); all_goals first | rfl | (simp [endS,setT,hc1,hc4,hc5]; done) | (simp [endS,setT,hc1,hc4,hc5]; rfl) | (unfold endS setT; (repeat' split) <;> first | rfl | (exfalso; omega) | (simp [hc1,hc4,hc5] at *; done) | (simp_all; done)))
 exact jd0 Z (ua36,List.set qs36 (Int.toNat b) { (ix qs36 (Int.toNat b)) with T := ⟨3,[m26.nx],l,0⟩ }) Z dn (fun _ _ => (kcb (by rw [← hst]) k0 (kcg (by rw [← hst]) k0 (kck (by rw [← hst]) k0 kn))))
abbrev U199 := @Tryz.underlying199
theorem E150 : Ent Tryz.prog 150 := ⟨_,Tryz.func150,by kernel_rfl,by kernel_rfl⟩
theorem Z199 : Sz Tryz.prog 199 12 := by unfold Sz; kernel_rfl
theorem J199 : (Tryz.prog.info? 199).bind (·.zero) = some (.agg #[.int .i64 0,.int .i64 0,.int .i64 0,.int .i64 0,.int .i64 0,.int .i64 0,.int .i64 0,.int .i64 0,.int .i64 0,.int .i64 0,.int .i64 0,.int .i64 0]) := by kernel_rfl
set_option maxRecDepth 4000 in
theorem m3ins_ct {vs vb al : Value} {m : Mk} {nb c : Nat} {S : List Int} {g0 : Nat} {B0 B1 : Nat} {qs : List BV} (hok : okS nb c S m) (hc : c ≤ 900000) (b : Int) (hb9 : 0 ≤ b ∧ b < nb) : KB Tryz.prog 102 [.int .i64 b] [] g0 vs vb al S B0 B1 qs [] m (insS b m) (.tuple #[]) := by
 refine jenter (args := [.pointer (some ⟨g0,0,none⟩),.int .i64 b]) Tryz.func102 rfl rfl rfl fun w0 X => ?_
 refine cgo k1 fun w1 => ?_
 have bd0 := okM.bnd hok.1
 refine cbk k2 (okM.bnd hok.1).2.2.2.2.2.2.2.1 fun hvb => ?_
 have hbn : b.toNat < nb := by omega
 refine jq (jr (jm Z (jkr E54 Z Z (m3take_ct hok (by omega) 20 (by first | exact hb9 | decide | omega)) (dc d0 dn) (kd (kc k0 kn)) ⟨tO9 hok.1,hok.2⟩ fun m19 hm19 om19 bm19 => ?_)))
 have w19_0 : IntKind.i64.wrap (tVV 20 m) = tVV 20 m := (IntWalk.i64_in _ (by have h9 := @tV9 20 (by omega) m; omega))
 have tr19 := @tV9 20 (by omega) m
 clear bd0
 refine ja Z (jn (jx (jb (jq (jr (jm Z (js (jlss Z Z) (ja Z (jn (jx ?_))))))))))
 refine jif Z (fun hc1 => ?_) (fun hc1 => ?_)
 refine jq (jr (js (jbu (v := .agg #[.int .i64 2,.int .i64 2,.int .i64 3,.int .i64 4,.int .i64 5,.int .i64 6,.int .i64 7,.int .i64 8,.int .i64 9,.int .i64 10,.int .i64 12,.int .i64 11]) Z (fun _ => by kernel_rfl)) (jalc J199 Z fun g5 => jsta k0 Z199 Z Z Z ⟨Z,Z,Z,Z,Z,Z,Z,Z,Z,Z,Z,Z,trivial⟩ (saf Z) (jn (jx (jq (jr (jm Z (jm Z (jkb E148 Z Z (m3some_ct om19 (by omega) b (by first | exact hb9 | decide | omega)) (dc d0 dn) (kc k1 (kc k1 (kc k1 kn))) ⟨some_ok om19.1 hbn,(someS_s.trans om19.2)⟩ p1 fun m31 hm31 om31 bm31 ua31 qs31 w2 => ?_))))))))))
 clear bm19
 refine ja Z (jn (jx (jq (jr (jm Z (jm Z (jkb E148 Z Z (m3some_ct om31 (by omega) b (by first | exact hb9 | decide | omega)) (dc d1 dn) (kd (kc k0 kn)) ⟨some_ok om31.1 hbn,(someS_s.trans om31.2)⟩ p1 fun m34 hm34 om34 bm34 ua34 qs34 w4 => ?_)))))))
 clear bm31
 refine ja Z (jn (jx (jq (jq (jr (jm Z (jkr E54 Z Z (m3take_ct om34 (by omega) 3 (by first | exact hb9 | decide | omega)) (dc d2 dn) (kd (kc k0 kn)) ⟨tO9 om34.1,om34.2⟩ fun m36 hm36 om36 bm36 => ?_)))))))
 have w36_0 : IntKind.i64.wrap (tVV 3 m34) = tVV 3 m34 := (IntWalk.i64_in _ (by have h9 := @tV9 3 (by omega) m34; omega))
 have tr36 := @tV9 3 (by omega) m34
 clear bm34
 refine js (jeql Z Z) (jn (jx ?_))
 refine jif Z (fun hc2 => ?_) (fun hc2 => ?_)
 refine jr (jm Z (jm Z (jm Z (jkr E54 Z Z (m3take_ct om36 (by omega) 40 (by first | exact hb9 | decide | omega)) (dc d2 dn) (kd (kc k0 kn)) ⟨tO9 om36.1,om36.2⟩ fun m41 hm41 om41 bm41 => ?_))))
 have w41_0 : IntKind.i64.wrap (tVV 40 m36) = tVV 40 m36 := (IntWalk.i64_in _ (by have h9 := @tV9 40 (by omega) m36; omega))
 have tr41 := @tV9 40 (by omega) m36
 clear bm36
 refine js (jsub Z Z (by omega)) (js (jco U3 U21 Z Z) (jkb E105 Z Z (m3const_ct om41 (by omega) b (IntKind.i32.wrap ((tVV 40 m36) - 8)) (by first | exact hb9 | decide | omega) (wrap_wrap _ _)) (dc d2 dn) (kd (kc k0 kn)) ⟨const_ok om41.1 hbn,(constS_s.trans om41.2)⟩ p1 fun m44 hm44 om44 bm44 ua44 qs44 w6 => ?_))
 clear bm41
 refine ja Z (jn (jx (jany true (.a 0 (.a 1 (.a 2 (.a 3 (.a 4 (.a 5 (.a 7 (.a 8 (.w 6 9 (.o 9 (.a 10 (.o 11 .e))) (.o 6 (.a 10 (.o 11 .e)))))))))))) Mixed (by kernel_rfl) (kc k3 kn) fun F8 => jy Z (jmv Z) (jy Z (jmv Z) (jy Z (jmv Z) (jy Z (jixa (i := (Int.toNat (tVV 20 m))) U199 Z3 Z Z (by omega) (by omega)) (jy Z (jli (i := (Int.toNat (tVV 20 m))) (l := [2,2,3,4,5,6,7,8,9,10,12,11]) k0 (by show _ < 12; omega) (by omega) O3 Z) (jy Z (jmv Z) (jy Z (jmv Z) (jy Z (jmv Z) ?_))))))))))
 refine jyw Z Z ?_ ?_
 refine jkr E99 Z Z (m3fresh_ct om44 (by omega)) (dc d4 dn) (kd (kc k0 kn)) ⟨fresh_ok om44.1,om44.2⟩ fun m51 hm51 om51 bm51 => ?_
 have w51_0 : IntKind.i64.wrap (m44.nx) = m44.nx := (IntWalk.i64_in _ (by omega))
 clear bm44
 refine jyn d0 (kc k3 kn) (jyo Z (jlit (r := (rI .i64)) (l := [sV9 m19,m41.nx]) U22 I3 (by decide) Z Z Z (lV Z Z (wI ((wfw d4))) (lV Z Z (wI ((wfw d2))) ln)) fun g54 => jyn d0 (kc k4 kn) (jy Z (jbu (v := .agg #[.int .i64 (ix [2,2,3,4,5,6,7,8,9,10,12,11] (Int.toNat (tVV 20 m))),.int .i64 m44.nx,.int .i64 0,(.slice (some ⟨g54,0,none⟩) 2 2),.int .i32 0]) Z (fun _ => by kernel_rfl)) (jyo Z (jfz k0 (by (try simp) <;> omega) (jkb E149 Z Z (m3add_ct (i := ⟨ix [2,2,3,4,5,6,7,8,9,10,12,11] (Int.toNat (tVV 20 m)),m44.nx,0,[sV9 m19,m41.nx],0⟩) om51 (by omega) b (by first | exact hb9 | decide | omega)) (dc d7 (dc (rIns.M (m := ⟨ix [2,2,3,4,5,6,7,8,9,10,12,11] (Int.toNat (tVV 20 m)),m44.nx,0,[sV9 m19,m41.nx],0⟩) (c := (.slice (some ⟨g54,0,none⟩) 2 2)) d0 (wp (ix_w (l := [2,2,3,4,5,6,7,8,9,10,12,11]) (by decide) (by decide) (Int.toNat (tVV 20 m)))) (wp w51_0) (wl 0) (wl 0)) dn)) (kd (kc k0 kn)) ⟨add_ok om51.1 hbn,(addS_s.trans om51.2)⟩ p0 fun m56 hm56 om56 bm56 ua56 qs56 w13 => ?_))))))
 clear bm51
 refine jyz d1 (jyd (jbn ?_))
 have hst : m56 = insS b m := (by (try simp only [hm19,hm31,hm34,hm36,hm41,hm44,hm51,hm56] at hc1 hc2); (try simp only [hm19,hm31,hm34,hm36,hm41,hm44,hm51,hm56]); all_goals first | rfl | (simp [insS,hc1,hc2]; done) | (simp [insS,hc1,hc2]; rfl))
 exact jd0 Z (ua56,qs56) Z dn (fun _ _ => (kcb (by rw [← hst]) k0 (kcg (by rw [← hst]) k0 (kck (by rw [← hst]) k0 kn))))
 refine jlit (r := (rI .i64)) (l := [sV9 m19,m41.nx]) U22 I3 (by decide) Z Z Z (lV Z Z (wI ((wfw d3))) (lV Z Z (wI ((wfw d1))) ln)) fun g54 => jyn d0 (kc k4 kn) (jyo Z (jkr E99 Z Z (m3fresh_ct om44 (by omega)) (dc d5 dn) (kc k1 (kc k1 (kc k1 kn))) ⟨fresh_ok om44.1,om44.2⟩ fun m51 hm51 om51 bm51 => ?_))
 have w51_0 : IntKind.i64.wrap (m44.nx) = m44.nx := (IntWalk.i64_in _ (by omega))
 clear bm44
 refine jyn d0 (kc k4 kn) (jy Z (jbu (v := .agg #[.int .i64 (ix [2,2,3,4,5,6,7,8,9,10,12,11] (Int.toNat (tVV 20 m))),.int .i64 m44.nx,.int .i64 0,(.slice (some ⟨g54,0,none⟩) 2 2),.int .i32 0]) Z (fun _ => by kernel_rfl)) (jyo Z (jfz k3 (by (try simp) <;> omega) (jkb E149 Z Z (m3add_ct (i := ⟨ix [2,2,3,4,5,6,7,8,9,10,12,11] (Int.toNat (tVV 20 m)),m44.nx,0,[sV9 m19,m41.nx],0⟩) om51 (by omega) b (by first | exact hb9 | decide | omega)) (dc d7 (dc (rIns.M (m := ⟨ix [2,2,3,4,5,6,7,8,9,10,12,11] (Int.toNat (tVV 20 m)),m44.nx,0,[sV9 m19,m41.nx],0⟩) (c := (.slice (some ⟨g54,0,none⟩) 2 2)) d0 (wp (ix_w (l := [2,2,3,4,5,6,7,8,9,10,12,11]) (by decide) (by decide) (Int.toNat (tVV 20 m)))) (wp w51_0) (wl 0) (wl 0)) dn)) (kd (kc k0 kn)) ⟨add_ok om51.1 hbn,(addS_s.trans om51.2)⟩ p0 fun m56 hm56 om56 bm56 ua56 qs56 w13 => ?_))))
 clear bm51
 refine jyz d1 (jyd (jbn ?_))
 have hst : m56 = insS b m := (by (try simp only [hm19,hm31,hm34,hm36,hm41,hm44,hm51,hm56] at hc1 hc2); (try simp only [hm19,hm31,hm34,hm36,hm41,hm44,hm51,hm56]); all_goals first | rfl | (simp [insS,hc1,hc2]; done) | (simp [insS,hc1,hc2]; rfl))
 exact jd0 Z (ua56,qs56) Z dn (fun _ _ => (kcb (by rw [← hst]) k0 (kcg (by rw [← hst]) k0 (kck (by rw [← hst]) k0 kn))))
 refine jsk (jx (jany true (.a 0 (.a 1 (.a 2 (.a 3 (.a 4 (.a 5 (.a 7 (.a 8 (.w 6 9 (.o 9 (.a 10 (.o 11 .e))) (.o 6 (.a 10 (.o 11 .e)))))))))))) Mixed (by kernel_rfl) (kc k3 kn) fun F14 => jy Z (jmv Z) (jy Z (jmv Z) (jy Z (jmv Z) (jy Z (jixa (i := (Int.toNat (tVV 20 m))) U199 Z3 Z Z (by omega) (by omega)) (jy Z (jli (i := (Int.toNat (tVV 20 m))) (l := [2,2,3,4,5,6,7,8,9,10,12,11]) k0 (by show _ < 12; omega) (by omega) O3 Z) (jy Z (jmv Z) (jy Z (jmv Z) (jy Z (jmv Z) ?_)))))))))
 refine jyw Z Z ?_ ?_
 refine jkr E99 Z Z (m3fresh_ct om36 (by omega)) (dc d3 dn) (kd (kc k0 kn)) ⟨fresh_ok om36.1,om36.2⟩ fun m51 hm51 om51 bm51 => ?_
 have w51_0 : IntKind.i64.wrap (m36.nx) = m36.nx := (IntWalk.i64_in _ (by omega))
 clear bm36
 refine jyn d0 (kc k3 kn) (jyo Z (jlit (r := (rI .i64)) (l := [sV9 m19,sV9 m31]) U22 I3 (by decide) Z Z Z (lV Z Z (wI ((wfw d3))) (lV Z Z (wI ((wfw d2))) ln)) fun g54_17 => jyn d0 (kc k4 kn) (jy Z (jbu (v := .agg #[.int .i64 (ix [2,2,3,4,5,6,7,8,9,10,12,11] (Int.toNat (tVV 20 m))),.int .i64 m36.nx,.int .i64 0,(.slice (some ⟨g54_17,0,none⟩) 2 2),.int .i32 0]) Z (fun _ => by kernel_rfl)) (jyo Z (jfz k0 (by (try simp) <;> omega) (jkb E149 Z Z (m3add_ct (i := ⟨ix [2,2,3,4,5,6,7,8,9,10,12,11] (Int.toNat (tVV 20 m)),m36.nx,0,[sV9 m19,sV9 m31],0⟩) om51 (by omega) b (by first | exact hb9 | decide | omega)) (dc d6 (dc (rIns.M (m := ⟨ix [2,2,3,4,5,6,7,8,9,10,12,11] (Int.toNat (tVV 20 m)),m36.nx,0,[sV9 m19,sV9 m31],0⟩) (c := (.slice (some ⟨g54_17,0,none⟩) 2 2)) d0 (wp (ix_w (l := [2,2,3,4,5,6,7,8,9,10,12,11]) (by decide) (by decide) (Int.toNat (tVV 20 m)))) (wp w51_0) (wl 0) (wl 0)) dn)) (kd (kc k0 kn)) ⟨add_ok om51.1 hbn,(addS_s.trans om51.2)⟩ p0 fun m56 hm56 om56 bm56 ua56 qs56 w20 => ?_))))))
 clear bm51
 refine jyz d1 (jyd (jbn ?_))
 have hst : m56 = insS b m := (by (try simp only [hm19,hm31,hm34,hm36,hm51,hm56] at hc1 hc2); (try simp only [hm19,hm31,hm34,hm36,hm51,hm56]); all_goals first | rfl | (simp [insS,hc1,hc2]; done) | (simp [insS,hc1,hc2]; rfl))
 exact jd0 Z (ua56,qs56) Z dn (fun _ _ => (kcb (by rw [← hst]) k0 (kcg (by rw [← hst]) k0 (kck (by rw [← hst]) k0 kn))))
 refine jlit (r := (rI .i64)) (l := [sV9 m19,sV9 m31]) U22 I3 (by decide) Z Z Z (lV Z Z (wI ((wfw d2))) (lV Z Z (wI ((wfw d1))) ln)) fun g54_16 => jyn d0 (kc k4 kn) (jyo Z (jkr E99 Z Z (m3fresh_ct om36 (by omega)) (dc d4 dn) (kc k1 (kc k1 (kc k1 kn))) ⟨fresh_ok om36.1,om36.2⟩ fun m51 hm51 om51 bm51 => ?_))
 have w51_0 : IntKind.i64.wrap (m36.nx) = m36.nx := (IntWalk.i64_in _ (by omega))
 clear bm36
 refine jyn d0 (kc k4 kn) (jy Z (jbu (v := .agg #[.int .i64 (ix [2,2,3,4,5,6,7,8,9,10,12,11] (Int.toNat (tVV 20 m))),.int .i64 m36.nx,.int .i64 0,(.slice (some ⟨g54_16,0,none⟩) 2 2),.int .i32 0]) Z (fun _ => by kernel_rfl)) (jyo Z (jfz k3 (by (try simp) <;> omega) (jkb E149 Z Z (m3add_ct (i := ⟨ix [2,2,3,4,5,6,7,8,9,10,12,11] (Int.toNat (tVV 20 m)),m36.nx,0,[sV9 m19,sV9 m31],0⟩) om51 (by omega) b (by first | exact hb9 | decide | omega)) (dc d6 (dc (rIns.M (m := ⟨ix [2,2,3,4,5,6,7,8,9,10,12,11] (Int.toNat (tVV 20 m)),m36.nx,0,[sV9 m19,sV9 m31],0⟩) (c := (.slice (some ⟨g54_16,0,none⟩) 2 2)) d0 (wp (ix_w (l := [2,2,3,4,5,6,7,8,9,10,12,11]) (by decide) (by decide) (Int.toNat (tVV 20 m)))) (wp w51_0) (wl 0) (wl 0)) dn)) (kd (kc k0 kn)) ⟨add_ok om51.1 hbn,(addS_s.trans om51.2)⟩ p0 fun m56 hm56 om56 bm56 ua56 qs56 w20 => ?_))))
 clear bm51
 refine jyz d1 (jyd (jbn ?_))
 have hst : m56 = insS b m := (by (try simp only [hm19,hm31,hm34,hm36,hm51,hm56] at hc1 hc2); (try simp only [hm19,hm31,hm34,hm36,hm51,hm56]); all_goals first | rfl | (simp [insS,hc1,hc2]; done) | (simp [insS,hc1,hc2]; rfl))
 exact jd0 Z (ua56,qs56) Z dn (fun _ _ => (kcb (by rw [← hst]) k0 (kcg (by rw [← hst]) k0 (kck (by rw [← hst]) k0 kn))))
 refine jq (jr (jm Z (js (jeql Z Z) (ja Z (jn (jx ?_))))))
 refine jif Z (fun hc3 => ?_) (fun hc3 => ?_)
 refine jq (jr (jm Z (jm Z (jkb E148 Z Z (m3some_ct om19 (by omega) b (by first | exact hb9 | decide | omega)) (dc d0 dn) (kd (kc k0 kn)) ⟨some_ok om19.1 hbn,(someS_s.trans om19.2)⟩ p1 fun m62 hm62 om62 bm62 ua62 qs62 w21 => ?_))))
 clear bm19
 refine ja Z (jn (jx (jq (jr (jm Z (jm Z (jkb E148 Z Z (m3some_ct om62 (by omega) b (by first | exact hb9 | decide | omega)) (dc d1 dn) (kd (kc k0 kn)) ⟨some_ok om62.1 hbn,(someS_s.trans om62.2)⟩ p1 fun m65 hm65 om65 bm65 ua65 qs65 w23 => ?_)))))))
 clear bm62
 refine ja Z (jn (jx (jr (jm Z (jm Z (jm Z (jkr E99 Z Z (m3fresh_ct om65 (by omega)) (dc d2 dn) (kd (kc k0 kn)) ⟨fresh_ok om65.1,om65.2⟩ fun m69 hm69 om69 bm69 => ?_)))))))
 have w69_0 : IntKind.i64.wrap (m65.nx) = m65.nx := (IntWalk.i64_in _ (by omega))
 clear bm65
 refine jm Z (jm Z (jlit (r := (rI .i64)) (l := [sV9 m19,sV9 m62]) U22 I3 (by decide) Z Z Z (lV Z Z (wI ((wfw d1))) (lV Z Z (wI ((wfw d0))) ln)) fun g72 => js (jbu (v := .agg #[.int .i64 13,.int .i64 m65.nx,.int .i64 0,(.slice (some ⟨g72,0,none⟩) 2 2),.int .i32 0]) Z (fun _ => by kernel_rfl)) (jfz k0 (by (try simp) <;> omega) (jkb E149 Z Z (m3add_ct (i := ⟨13,m65.nx,0,[sV9 m19,sV9 m62],0⟩) om69 (by omega) b (by first | exact hb9 | decide | omega)) (dc d3 (dc (rIns.M (m := ⟨13,m65.nx,0,[sV9 m19,sV9 m62],0⟩) (c := (.slice (some ⟨g72,0,none⟩) 2 2)) d0 (wl 13) (wp w69_0) (wl 0) (wl 0)) dn)) (kd (kc k0 kn)) ⟨add_ok om69.1 hbn,(addS_s.trans om69.2)⟩ p0 fun m74 hm74 om74 bm74 ua74 qs74 w26 => ?_))))
 clear bm69
 refine jn (jbn ?_)
 have hst : m74 = insS b m := (by (try simp only [hm19,hm62,hm65,hm69,hm74] at hc1 hc3); (try simp only [hm19,hm62,hm65,hm69,hm74]); all_goals first | rfl | (simp [insS,hc1,hc3]; done) | (simp [insS,hc1,hc3]; rfl))
 exact jd0 Z (ua74,qs74) Z dn (fun _ _ => (kcb (by rw [← hst]) k0 (kcg (by rw [← hst]) k0 (kck (by rw [← hst]) k0 kn))))
 refine jq (jr (jm Z (js (jeql Z Z) (ja Z (jn (jx ?_))))))
 refine jif Z (fun hc4 => ?_) (fun hc4 => ?_)
 refine jq (jr (jm Z (jm Z (jkb E148 Z Z (m3some_ct om19 (by omega) b (by first | exact hb9 | decide | omega)) (dc d0 dn) (kd (kc k0 kn)) ⟨some_ok om19.1 hbn,(someS_s.trans om19.2)⟩ p1 fun m80 hm80 om80 bm80 ua80 qs80 w27 => ?_))))
 clear bm19
 refine ja Z (jn (jx (jq (jr (jm Z (jm Z (jm Z (jkr E54 Z Z (m3take_ct om80 (by omega) 12 (by first | exact hb9 | decide | omega)) (dc d1 dn) (kd (kc k0 kn)) ⟨tO9 om80.1,om80.2⟩ fun m84 hm84 om84 bm84 => ?_))))))))
 have w84_0 : IntKind.i64.wrap (tVV 12 m80) = tVV 12 m80 := (IntWalk.i64_in _ (by have h9 := @tV9 12 (by omega) m80; omega))
 have tr84 := @tV9 12 (by omega) m80
 clear bm80
 refine js (jco U3 U21 Z Z) (jkb E105 Z Z (m3const_ct om84 (by omega) b (IntKind.i32.wrap (tVV 12 m80)) (by first | exact hb9 | decide | omega) (wrap_wrap _ _)) (dc d1 dn) (kd (kc k0 kn)) ⟨const_ok om84.1 hbn,(constS_s.trans om84.2)⟩ p1 fun m86 hm86 om86 bm86 ua86 qs86 w29 => ?_)
 clear bm84
 refine ja Z (jn (jx (jq (jq (jr (jm Z (jkr E54 Z Z (m3take_ct om86 (by omega) 3 (by first | exact hb9 | decide | omega)) (dc d2 dn) (kd (kc k0 kn)) ⟨tO9 om86.1,om86.2⟩ fun m88 hm88 om88 bm88 => ?_)))))))
 have w88_0 : IntKind.i64.wrap (tVV 3 m86) = tVV 3 m86 := (IntWalk.i64_in _ (by have h9 := @tV9 3 (by omega) m86; omega))
 have tr88 := @tV9 3 (by omega) m86
 clear bm86
 refine js (jgtr Z Z) (jn (jx ?_))
 refine jif Z (fun hc5 => ?_) (fun hc5 => ?_)
 refine jr (jm Z (jm Z (jm Z (jkr E54 Z Z (m3take_ct om88 (by omega) 12 (by first | exact hb9 | decide | omega)) (dc d2 dn) (kd (kc k0 kn)) ⟨tO9 om88.1,om88.2⟩ fun m93 hm93 om93 bm93 => ?_))))
 have w93_0 : IntKind.i64.wrap (tVV 12 m88) = tVV 12 m88 := (IntWalk.i64_in _ (by have h9 := @tV9 12 (by omega) m88; omega))
 have tr93 := @tV9 12 (by omega) m88
 clear bm88
 refine js (jco U3 U21 Z Z) (js (jaddw Z Z) (jkb E105 Z Z (m3const_ct om93 (by omega) b (IntKind.i32.wrap (1 + (IntKind.i32.wrap (tVV 12 m88)))) (by first | exact hb9 | decide | omega) (wrap_wrap _ _)) (dc d2 dn) (kd (kc k0 kn)) ⟨const_ok om93.1 hbn,(constS_s.trans om93.2)⟩ p1 fun m96 hm96 om96 bm96 ua96 qs96 w31 => ?_))
 clear bm93
 refine ja Z (jn (jx (jr (jm Z (jm Z (jm Z (jkr E99 Z Z (m3fresh_ct om96 (by omega)) (dc d3 dn) (kd (kc k0 kn)) ⟨fresh_ok om96.1,om96.2⟩ fun m100 hm100 om100 bm100 => ?_)))))))
 have w100_0 : IntKind.i64.wrap (m96.nx) = m96.nx := (IntWalk.i64_in _ (by omega))
 clear bm96
 refine jm Z (jm Z (jlit (r := (rI .i64)) (l := [sV9 m19,m93.nx]) U22 I3 (by decide) Z Z Z (lV Z Z (wI ((wfw d2))) (lV Z Z (wI ((wfw d0))) ln)) fun g103 => js (jbu (v := .agg #[.int .i64 14,.int .i64 m96.nx,.int .i64 0,(.slice (some ⟨g103,0,none⟩) 2 2),.int .i32 0]) Z (fun _ => by kernel_rfl)) (jfz k0 (by (try simp) <;> omega) (jkb E149 Z Z (m3add_ct (i := ⟨14,m96.nx,0,[sV9 m19,m93.nx],0⟩) om100 (by omega) b (by first | exact hb9 | decide | omega)) (dc d4 (dc (rIns.M (m := ⟨14,m96.nx,0,[sV9 m19,m93.nx],0⟩) (c := (.slice (some ⟨g103,0,none⟩) 2 2)) d0 (wl 14) (wp w100_0) (wl 0) (wl 0)) dn)) (kd (kc k0 kn)) ⟨add_ok om100.1 hbn,(addS_s.trans om100.2)⟩ p0 fun m105 hm105 om105 bm105 ua105 qs105 w34 => ?_))))
 clear bm100
 refine jn (jbn ?_)
 have hst : m105 = insS b m := (by (try simp only [hm19,hm80,hm84,hm86,hm88,hm93,hm96,hm100,hm105] at hc1 hc3 hc4 hc5); (try simp only [hm19,hm80,hm84,hm86,hm88,hm93,hm96,hm100,hm105]); all_goals first | rfl | (simp [insS,hc1,hc3,hc4,hc5]; done) | (simp [insS,hc1,hc3,hc4,hc5]; rfl))
 exact jd0 Z (ua105,qs105) Z dn (fun _ _ => (kcb (by rw [← hst]) k0 (kcg (by rw [← hst]) k0 (kck (by rw [← hst]) k0 kn))))
 refine jsk (jx (jr (jm Z (jm Z (jm Z (jkr E99 Z Z (m3fresh_ct om88 (by omega)) (dc d2 dn) (kd (kc k0 kn)) ⟨fresh_ok om88.1,om88.2⟩ fun m100 hm100 om100 bm100 => ?_))))))
 have w100_0 : IntKind.i64.wrap (m88.nx) = m88.nx := (IntWalk.i64_in _ (by omega))
 clear bm88
 refine jm Z (jm Z (jlit (r := (rI .i64)) (l := [sV9 m19,m84.nx]) U22 I3 (by decide) Z Z Z (lV Z Z (wI ((wfw d1))) (lV Z Z (wI ((wfw d0))) ln)) fun g103_35 => js (jbu (v := .agg #[.int .i64 14,.int .i64 m88.nx,.int .i64 0,(.slice (some ⟨g103_35,0,none⟩) 2 2),.int .i32 0]) Z (fun _ => by kernel_rfl)) (jfz k0 (by (try simp) <;> omega) (jkb E149 Z Z (m3add_ct (i := ⟨14,m88.nx,0,[sV9 m19,m84.nx],0⟩) om100 (by omega) b (by first | exact hb9 | decide | omega)) (dc d3 (dc (rIns.M (m := ⟨14,m88.nx,0,[sV9 m19,m84.nx],0⟩) (c := (.slice (some ⟨g103_35,0,none⟩) 2 2)) d0 (wl 14) (wp w100_0) (wl 0) (wl 0)) dn)) (kd (kc k0 kn)) ⟨add_ok om100.1 hbn,(addS_s.trans om100.2)⟩ p0 fun m105 hm105 om105 bm105 ua105 qs105 w37 => ?_))))
 clear bm100
 refine jn (jbn ?_)
 have hst : m105 = insS b m := (by (try simp only [hm19,hm80,hm84,hm86,hm88,hm100,hm105] at hc1 hc3 hc4 hc5); (try simp only [hm19,hm80,hm84,hm86,hm88,hm100,hm105]); all_goals first | rfl | (simp [insS,hc1,hc3,hc4,hc5]; done) | (simp [insS,hc1,hc3,hc4,hc5]; rfl))
 exact jd0 Z (ua105,qs105) Z dn (fun _ _ => (kcb (by rw [← hst]) k0 (kcg (by rw [← hst]) k0 (kck (by rw [← hst]) k0 kn))))
 refine jq (jr (jm Z (js (jlss Z Z) (ja Z (jn (jx ?_))))))
 refine jif Z (fun hc6 => ?_) (fun hc6 => ?_)
 refine jr (jm Z (jm Z (jm Z (js (jeql Z Z) (jkb E150 Z Z (m3mem_ct om19 (by omega) b (decide (tVV 20 m = 15)) (by first | exact hb9 | decide | omega)) (dc d0 dn) (kd (kc k0 kn)) ⟨mem_ok om19.1 hbn,(memS_s.trans om19.2)⟩ p0 fun m113 hm113 om113 bm113 ua113 qs113 w38 => ?_)))))
 clear bm19
 refine jn (jbn ?_)
 have hst : m113 = insS b m := (by (try simp only [hm19,hm113] at hc1 hc3 hc4 hc6); (try simp only [hm19,hm113]); all_goals first | rfl | (simp [insS,hc1,hc3,hc4,hc6]; done) | (simp [insS,hc1,hc3,hc4,hc6]; rfl))
 exact jd0 Z (ua113,qs113) Z dn (fun _ _ => (kcb (by rw [← hst]) k0 (kcg (by rw [← hst]) k0 (kck (by rw [← hst]) k0 kn))))
 refine jq (jr (jm Z (js (jeql Z Z) (ja Z (jn (jx ?_))))))
 refine jif Z (fun hc7 => ?_) (fun hc7 => ?_)
 refine jq (jr (jlit (r := (rI .i64)) (l := []) U22 I3 (by decide) Z Z Z ln fun g117 => ja Z (jn (jx (jq (jr (jm Z (jkr E54 Z Z (m3take_ct om19 (by omega) 5 (by first | exact hb9 | decide | omega)) (dc d0 dn) (kc k1 (kc k1 (kc k1 kn))) ⟨tO9 om19.1,om19.2⟩ fun m119 hm119 om119 bm119 => ?_))))))))
 have w119_0 : IntKind.i64.wrap (tVV 5 m19) = tVV 5 m19 := (IntWalk.i64_in _ (by have h9 := @tV9 5 (by omega) m19; omega))
 have tr119 := @tV9 5 (by omega) m19
 clear bm19
 refine ja Z (jn (jx (jq (jq (jr (ja Z (jn (jx (jb ?_)))))))))
 refine jlp (u6 fun (i : Nat) (l : List Int) (v : Value) (mm : Mk) (al1 : Value) (qs1 : List BV) => ⟨i ≤ (tVV 5 m19).toNat ∧ argsL b (tVV 5 m19).toNat [] m119 = argsL b ((tVV 5 m19).toNat - i) l mm ∧ l.length = i ∧ okS nb (c + 20 + 8 * i) S mm,[dv (rL (rI .i64)) vs S],[bx g0 106 [vs,.int .i64 mm.k,.int .i64 mm.par,vb,.int .i64 mm.nx,al1],gl B0 (rI .i64) 3 al1 mm.lv,bk B1 vb qs1 mm.bs,gl X.n (rI .i64) 3 v l],[(0,.pointer (some ⟨g0,0,none⟩)),(1,.int .i64 b),(12,v),(13,.int .i64 (tVV 5 m19)),(14,.int .i64 (↑i))],(tVV 5 m19).toNat - i⟩) (0,[],(.slice (some ⟨g117,0,none⟩) 0 0),m119,al,qs) ⟨by omega,rfl,rfl,om119.mono (by omega)⟩ (dc d0 dn) (kd (kd kn)) ⟨Z,Z,Z,Z,eqI (by omega),trivial⟩ ?_
 rintro ⟨i,l,v,mm,al1,qs1⟩; dsimp only [u6]; rintro ⟨hi,hR,hl,okL1⟩
 refine cgo k3 fun w39 => cgo k1 fun w40 => ?_
 have bdL1 := okM.bnd okL1.1
 clear bm119
 refine jq (jq (jr (jm Z (jm Z (js (jlss Z Z) (jn (jx ?_)))))))
 refine jif Z (fun hc8 => ?_) (fun hc8 => ?_)
 refine jsk (jx (jq (jb (jr (jm Z (jm Z (jm Z (jkb E148 Z Z (m3some_ct okL1 (by omega) b (by first | exact hb9 | decide | omega)) (dc d0 dn) (kd (kc k0 kn)) ⟨some_ok okL1.1 hbn,(someS_s.trans okL1.2)⟩ p1 fun m128 hm128 om128 bm128 ua128 qs128 w41 => ?_))))))))
 clear bdL1
 refine japv U22 I3 (by decide) Z Z k3 Z (wI ((wfw d0))) (by omega) (fun _ => Z) fun v130 _ w43 => ja Z (jn (jbn (jx (jr (jm Z (js (jadd Z Z (by omega)) (ja Z (jn ?_))))))))
 exact jag (i + 1,l ++ [sV9 mm],v130,m128,ua128,qs128) ⟨by dsimp only; omega,by dsimp only; rw [hR,show (tVV 5 m19).toNat - i = ((tVV 5 m19).toNat - (i + 1)) + 1 by omega,argsL,hm128],by simp; omega,om128.mono (by omega)⟩ (dc d1 dn) (kc k1 (kc k1 (kc k1 (kc k0 kn)))) ⟨Z,Z,Z,Z,eqI (by omega),trivial⟩
 refine jex (jtx (jtx (jbh (jx (jr (jm Z (jm Z (jm Z (jkr E99 Z Z (m3fresh_ct okL1 (by omega)) (dc d0 dn) (kd (kc k0 kn)) ⟨fresh_ok okL1.1,okL1.2⟩ fun m134 hm134 om134 bm134 => ?_)))))))))
 have w134_0 : IntKind.i64.wrap (mm.nx) = mm.nx := (IntWalk.i64_in _ (by omega))
 clear bdL1
 refine jm Z (jm Z (jkr E54 Z Z (m3take_ct om134 (by omega) 5 (by first | exact hb9 | decide | omega)) (dc d0 dn) (kd (kc k0 kn)) ⟨tO9 om134.1,om134.2⟩ fun m137 hm137 om137 bm137 => ?_))
 have w137_0 : IntKind.i64.wrap (tVV 5 m134) = tVV 5 m134 := (IntWalk.i64_in _ (by have h9 := @tV9 5 (by omega) m134; omega))
 have tr137 := @tV9 5 (by omega) m134
 clear bm134
 refine js (jco U3 U21 Z Z) (js (jbu (v := .agg #[.int .i64 17,.int .i64 mm.nx,.int .i64 0,v,.int .i32 (IntKind.i32.wrap (tVV 5 m134))]) Z (fun _ => by obtain ⟨_,_,_,rfl⟩ := w39; kernel_rfl)) (jfz k3 (by omega) (jkb E149 Z Z (m3add_ct (i := ⟨17,mm.nx,0,l,IntKind.i32.wrap (tVV 5 m134)⟩) om137 (by omega) b (by first | exact hb9 | decide | omega)) (dc d1 (dc (rIns.M (m := ⟨17,mm.nx,0,l,IntKind.i32.wrap (tVV 5 m134)⟩) (c := v) d0 (wl 17) (wp w134_0) (wl 0) (wp (wrap_wrap _ _))) dn)) (kd (kc k0 kn)) ⟨add_ok om137.1 hbn,(addS_s.trans om137.2)⟩ p0 fun m140 hm140 om140 bm140 ua140 qs140 w45 => ?_)))
 clear bm137
 refine jn (jbn ?_)
 have hst : m140 = insS b m := (by have hE : argsL b (tVV 5 m19).toNat [] m119 = (l,mm) := (by rw [hR,show (tVV 5 m19).toNat - i = 0 by omega]; rfl); (try simp only [hm19,hm119,hm134,hm137,hm140] at hE hc1 hc3 hc4 hc6 hc7 hc8); (try simp only [hm19,hm119,hm134,hm137,hm140]); simp [insS,hc1,hc3,hc4,hc6,hc7,hc8,hE])
 exact jd0 Z (ua140,qs140) Z dn (fun _ _ => (kcb (by rw [← hst]) k0 (kcg (by rw [← hst]) k0 (kck (by rw [← hst]) k0 kn))))
 refine jq (jr (jm Z (js (jeql Z Z) (ja Z (jn (jx ?_))))))
 refine jif Z (fun hc9 => ?_) (fun hc9 => ?_)
 refine jq (jr (jm Z (jm Z (jkb E148 Z Z (m3some_ct om19 (by omega) b (by first | exact hb9 | decide | omega)) (dc d0 dn) (kd (kc k0 kn)) ⟨some_ok om19.1 hbn,(someS_s.trans om19.2)⟩ p1 fun m146 hm146 om146 bm146 ua146 qs146 w46 => ?_))))
 clear bm19
 refine ja Z (jn (jx (jq (jr (jm Z (jm Z (jkb E148 Z Z (m3some_ct om146 (by omega) b (by first | exact hb9 | decide | omega)) (dc d1 dn) (kd (kc k0 kn)) ⟨some_ok om146.1 hbn,(someS_s.trans om146.2)⟩ p1 fun m149 hm149 om149 bm149 ua149 qs149 w48 => ?_)))))))
 clear bm146
 refine ja Z (jn (jx (jq (jr (jm Z (jkr E99 Z Z (m3fresh_ct om149 (by omega)) (dc d2 dn) (kd (kc k0 kn)) ⟨fresh_ok om149.1,om149.2⟩ fun m151 hm151 om151 bm151 => ?_))))))
 have w151_0 : IntKind.i64.wrap (m149.nx) = m149.nx := (IntWalk.i64_in _ (by omega))
 clear bm149
 refine ja Z (jn (jx (jr (jm Z (jm Z (jm Z (jm Z (jkr E99 Z Z (m3fresh_ct om151 (by omega)) (dc d2 dn) (kd (kc k0 kn)) ⟨fresh_ok om151.1,om151.2⟩ fun m156 hm156 om156 bm156 => ?_))))))))
 have w156_0 : IntKind.i64.wrap (m151.nx) = m151.nx := (IntWalk.i64_in _ (by omega))
 clear bm151
 refine jm Z (jm Z (jlit (r := (rI .i64)) (l := [sV9 m19,sV9 m146]) U22 I3 (by decide) Z Z Z (lV Z Z (wI ((wfw d1))) (lV Z Z (wI ((wfw d0))) ln)) fun g159 => js (jbu (v := .agg #[.int .i64 18,.int .i64 m149.nx,.int .i64 m151.nx,(.slice (some ⟨g159,0,none⟩) 2 2),.int .i32 0]) Z (fun _ => by kernel_rfl)) (jfz k0 (by (try simp) <;> omega) (jkb E149 Z Z (m3add_ct (i := ⟨18,m149.nx,m151.nx,[sV9 m19,sV9 m146],0⟩) om156 (by omega) b (by first | exact hb9 | decide | omega)) (dc d3 (dc (rIns.M (m := ⟨18,m149.nx,m151.nx,[sV9 m19,sV9 m146],0⟩) (c := (.slice (some ⟨g159,0,none⟩) 2 2)) d0 (wl 18) (wp w151_0) (wp w156_0) (wl 0)) dn)) (kd (kc k0 kn)) ⟨add_ok om156.1 hbn,(addS_s.trans om156.2)⟩ p0 fun m161 hm161 om161 bm161 ua161 qs161 w51 => ?_))))
 clear bm156
 refine jn (jbn ?_)
 have hst : m161 = insS b m := (by (try simp only [hm19,hm146,hm149,hm151,hm156,hm161] at hc1 hc3 hc4 hc6 hc7 hc9); (try simp only [hm19,hm146,hm149,hm151,hm156,hm161]); all_goals first | rfl | (simp [insS,hc1,hc3,hc4,hc6,hc7,hc9]; done) | (simp [insS,hc1,hc3,hc4,hc6,hc7,hc9]; rfl))
 exact jd0 Z (ua161,qs161) Z dn (fun _ _ => (kcb (by rw [← hst]) k0 (kcg (by rw [← hst]) k0 (kck (by rw [← hst]) k0 kn))))
 refine jr (jm Z (jm Z (jm Z (jkr E53 Z Z (m3word_ct om19 (by omega)) (dc d0 dn) (kd (kc k0 kn)) ⟨word_ok om19.1,om19.2⟩ fun m23 hm23 om23 bm23 => ?_))))
 have w23_0 : IntKind.i32.wrap (wordV m19) = wordV m19 := (word_w m19)
 clear bm19
 refine jkb E105 Z Z (m3const_ct om23 (by omega) b (wordV m19) (by first | exact hb9 | decide | omega) w23_0) (dc d0 dn) (kd (kc k0 kn)) ⟨const_ok om23.1 hbn,(constS_s.trans om23.2)⟩ p1 fun m24 hm24 om24 bm24 ua24 qs24 w52 => ?_
 clear bm23
 refine jn (jbn ?_)
 have hst : m24 = insS b m := (by (try simp only [hm19,hm23,hm24] at hc1 hc3 hc4 hc6 hc7 hc9); (try simp only [hm19,hm23,hm24]); all_goals first | rfl | (simp [insS,hc1,hc3,hc4,hc6,hc7,hc9]; done) | (simp [insS,hc1,hc3,hc4,hc6,hc7,hc9]; rfl))
 exact jd0 Z (ua24,qs24) Z dn (fun _ _ => (kcb (by rw [← hst]) k0 (kcg (by rw [← hst]) k0 (kck (by rw [← hst]) k0 kn))))
def tgA : Nat → Int → List (List Int) → Mk → List (List Int) × Mk
 | 0,_,to,m => (to,m)
 | k + 1,b,to,m =>
   if tVV 3 m = 0 then tgA k (b + 1) (to.set (tVV b (tSS m)).toNat (to.getD (tVV b (tSS m)).toNat [] ++ [b])) (tSS (tSS m))
   else tgA k (b + 1) (to.set (b - 1).toNat (to.getD (b - 1).toNat [] ++ [b])) (tSS m)
def tgX (n b : Int) (m : Mk) : Int × Mk :=
 if 1 + tVV (n - 1) m ≤ b then
   if tVV 2 (tSS m) = 0 then (min (b + 1) (n - 1),tSS (tSS m)) else (1 + tVV (n - 1) m,tSS (tSS m))
 else (1 + tVV (n - 1) m,tSS m)
def tgI (n b : Int) : Nat → List (List Int) → Mk → List (List Int) × Mk
 | 0,to,m => (to,m)
 | k + 1,to,m => tgI n b k (to.set b.toNat (to.getD b.toNat [] ++ [(tgX n b m).1])) (tgX n b m).2
def tgB (n : Int) : Nat → Int → List (List Int) → Mk → List (List Int) × Mk
 | 0,_,to,m => (to,m)
 | k + 1,b,to,m => tgB n k (b + 1) (tgI n b (if 1 < n then (tVV 6 m - 3).toNat else 0) to (tSS m)).1 (tgI n b (if 1 < n then (tVV 6 m - 3).toNat else 0) to (tSS m)).2
def targA (n : Int) (m : Mk) : List (List Int) × Mk := tgA (n.toNat - 1) 1 (List.replicate n.toNat []) m
def targM (n : Int) (m : Mk) : List (List Int) × Mk := tgB n n.toNat 0 (targA n m).1 (targA n m).2
theorem rows_set {ls : List (List Int)} {B : Nat} (h : ∀ j,(ls.getD j []).length ≤ B) (p : Nat) (x : Int) : ∀ j,((ls.set p (ls.getD p [] ++ [x])).getD j []).length ≤ B + 1 := by
 intro j
 by_cases e : p = j
 · subst e
   by_cases hp : p < ls.length
   · have := h p; simp [List.getD,hp] at *; omega
   · simp [List.getD,hp]
 · have := h j; simp [List.getD,List.getElem?_set_ne e] at *; omega
theorem rows_mono {ls : List (List Int)} {B C : Nat} (h : ∀ j,(ls.getD j []).length ≤ B) (hc : B ≤ C) : ∀ j,(ls.getD j []).length ≤ C := fun j => Nat.le_trans (h j) hc
theorem rows_rep {n B : Nat} : ∀ j,((List.replicate n ([] : List Int)).getD j []).length ≤ B := by intro j; by_cases h : j < n <;> simp [List.getD,h]
section
variable {nb c : Nat} {m : Mk}
theorem tgA_ok : ∀ (k : Nat) (b : Int) (to : List (List Int)) {c : Nat} {m : Mk},okM nb c m → okM nb (c + 2 * k) (tgA k b to m).2
 | 0,_,_,_,_,h => h
 | k + 1,b,to,c,m,h => by
   unfold tgA; split
   · exact (tgA_ok k _ _ (tO9 (tO9 h))).mono (by omega)
   · exact (tgA_ok k _ _ (tO9 h)).mono (by omega)
theorem tgX_ok {n b : Int} (h : okM nb c m) : okM nb (c + 2) (tgX n b m).2 := by
 unfold tgX; (repeat' split)
 · exact tO9 (tO9 h)
 · exact tO9 (tO9 h)
 · exact (tO9 h).mono (by omega)
theorem tgI_ok {n b : Int} : ∀ (k : Nat) (to : List (List Int)) {c : Nat} {m : Mk},okM nb c m → okM nb (c + 2 * k) (tgI n b k to m).2
 | 0,_,_,_,h => h
 | k + 1,to,c,m,h => by unfold tgI; exact (tgI_ok k _ (tgX_ok h)).mono (by omega)
theorem tgB_ok {n : Int} : ∀ (k : Nat) (b : Int) (to : List (List Int)) {c : Nat} {m : Mk},okM nb c m → okM nb (c + 5 * k) (tgB n k b to m).2
 | 0,_,_,_,_,h => h
 | k + 1,b,to,c,m,h => by
   unfold tgB
   have h6 := tV9 (n := 6) (by omega) m
   refine (tgB_ok k (b + 1) _ (c := c + 5) ?_).mono (by omega)
   exact (tgI_ok _ to (tO9 h)).mono (by split <;> omega)
theorem targ_ok {n : Int} (h : okM nb c m) (hn : n ≤ 9) : okM nb (c + 70) (targM n m).2 := (tgB_ok _ _ _ (tgA_ok _ _ _ h)).mono (by omega)
end
theorem tgA_len : ∀ (k : Nat) (b : Int) (to : List (List Int)) (m : Mk),(tgA k b to m).1.length = to.length
 | 0,_,_,_ => rfl
 | k + 1,b,to,m => by unfold tgA; split <;> rw [tgA_len k] <;> simp
theorem tgI_len {n b : Int} : ∀ (k : Nat) (to : List (List Int)) (m : Mk),(tgI n b k to m).1.length = to.length
 | 0,_,_ => rfl
 | k + 1,to,m => by unfold tgI; rw [tgI_len k]; simp
theorem tgB_len {n : Int} : ∀ (k : Nat) (b : Int) (to : List (List Int)) (m : Mk),(tgB n k b to m).1.length = to.length
 | 0,_,_,_ => rfl
 | k + 1,b,to,m => by unfold tgB; rw [tgB_len k,tgI_len]
theorem targM_len (n : Int) (m : Mk) : (targM n m).1.length = n.toNat := by unfold targM targA; rw [tgB_len,tgA_len]; simp
theorem tgX_k {n b : Int} (m : Mk) : ∃ k,(tgX n b m).2 = { m with k := k } := by unfold tgX; (repeat' split); exact ⟨_,rfl⟩; exact ⟨_,rfl⟩; exact ⟨_,rfl⟩
theorem tgA_k : ∀ (k : Nat) (b : Int) (to : List (List Int)) (m : Mk),∃ q,(tgA k b to m).2 = { m with k := q }
 | 0,_,_,m => ⟨m.k,rfl⟩
 | k + 1,b,to,m => by
   unfold tgA; split
   · obtain ⟨q,hq⟩ := tgA_k k (b + 1) (to.set (tVV b (tSS m)).toNat (to.getD (tVV b (tSS m)).toNat [] ++ [b])) (tSS (tSS m)); exact ⟨q,hq⟩
   · obtain ⟨q,hq⟩ := tgA_k k (b + 1) (to.set (b - 1).toNat (to.getD (b - 1).toNat [] ++ [b])) (tSS m); exact ⟨q,hq⟩
theorem tgI_k {n b : Int} : ∀ (k : Nat) (to : List (List Int)) (m : Mk),∃ q,(tgI n b k to m).2 = { m with k := q }
 | 0,_,m => ⟨m.k,rfl⟩
 | k + 1,to,m => by
   unfold tgI
   obtain ⟨q,hq⟩ := tgI_k k (to.set b.toNat (to.getD b.toNat [] ++ [(tgX n b m).1])) (tgX n b m).2
   obtain ⟨q2,hq2⟩ := tgX_k (n := n) (b := b) m
   rw [hq,hq2]; exact ⟨q,rfl⟩
theorem tgB_k {n : Int} : ∀ (k : Nat) (b : Int) (to : List (List Int)) (m : Mk),∃ q,(tgB n k b to m).2 = { m with k := q }
 | 0,_,_,m => ⟨m.k,rfl⟩
 | k + 1,b,to,m => by
   unfold tgB
   obtain ⟨q,hq⟩ := tgB_k (n := n) k (b + 1) (tgI n b (if 1 < n then (tVV 6 m - 3).toNat else 0) to (tSS m)).1 (tgI n b (if 1 < n then (tVV 6 m - 3).toNat else 0) to (tSS m)).2
   obtain ⟨q2,hq2⟩ := tgI_k (n := n) (b := b) (if 1 < n then (tVV 6 m - 3).toNat else 0) to (tSS m)
   rw [hq,hq2]; exact ⟨q,rfl⟩
theorem targM_k (n : Int) (m : Mk) : ∃ q,(targM n m).2 = { m with k := q } := by
 obtain ⟨q,hq⟩ := tgB_k (n := n) n.toNat 0 (targA n m).1 (targA n m).2
 obtain ⟨q2,hq2⟩ := tgA_k (n.toNat - 1) 1 (List.replicate n.toNat []) m
 exact ⟨q,by rw [targM,hq]; rw [show (targA n m).2 = _ from hq2]⟩
theorem targM_s {n : Int} {m : Mk} : (targM n m).2.s = m.s := by obtain ⟨q,h⟩ := targM_k n m; rw [h]
theorem targM_lv {n : Int} {m : Mk} : (targM n m).2.lv = m.lv := by obtain ⟨q,h⟩ := targM_k n m; rw [h]
theorem targM_bs {n : Int} {m : Mk} : (targM n m).2.bs = m.bs := by obtain ⟨q,h⟩ := targM_k n m; rw [h]
set_option maxRecDepth 4000 in
theorem m3targ_ct {vs vb al : Value} {m : Mk} {nb c : Nat} {S : List Int} {g0 : Nat} (hok : okS nb c S m) (hc : c ≤ 900000) (n : Int) (hn9 : 1 ≤ n ∧ n ≤ 9) : KD Tryz.prog 97 [.int .i64 n] [] g0 vs vb al S (rL (rL (rI .i64))) ((targM n m).1) m ((targM n m).2) := by
 refine jenter (args := [.pointer (some ⟨g0,0,none⟩),.int .i64 n]) Tryz.func97 rfl rfl rfl fun w0 X => ?_
 have bd0 := okM.bnd hok.1
 refine jq (jr (ja Z (jn (jx (jq (jr (jm Z (jmk (m := (Int.toNat n)) (r := rV) U52 I22 Z Z Z (by omega) (by omega) (by omega) (wV Z) Z fun g13 => jrn (r := (rI .i64)) (T := 3) (Int.toNat n) (ja Z (jn ?_))))))))))
 refine jx (jq (jq (jr (ja Z (jn (jx (jb ?_)))))))
 refine jlp (u4 fun (k : Nat) (vs1 : List Value) (ls : List (List Int)) (mm : Mk) => ⟨1 ≤ k ∧ (k : Int) ≤ n ∧ vs1.length = n.toNat ∧ ls.length = n.toNat ∧ (∀ j,(ls.getD j []).length ≤ k) ∧ tgA (n.toNat - 1) 1 (List.replicate n.toNat []) m = tgA (n.toNat - k) k ls mm ∧ okS nb (c + 2 * k) S mm,[dv (rL (rI .i64)) vs S],[rw' X.n (rI .i64) 3 vs1 ls,gl X.n rV 22 (.slice (some ⟨g13,0,none⟩) (Int.toNat n) (Int.toNat n)) vs1,bx g0 106 [vs,.int .i64 mm.k,.int .i64 mm.par,vb,.int .i64 mm.nx,al]],[(0,.pointer (some ⟨g0,0,none⟩)),(1,.int .i64 n),(4,.slice none 0 0),(5,(.slice (some ⟨g13,0,none⟩) (Int.toNat n) (Int.toNat n))),(6,.int .i64 (↑k))],n.toNat - k⟩) (1,List.replicate (Int.toNat n) (.slice none 0 0),List.replicate (Int.toNat n) [],m) ⟨by omega,by omega,by simp,by simp,rows_rep,rfl,hok.mono (by omega)⟩ (dc d0 dn) (kd (kc k0 kn)) ⟨Z,Z,Z,Z,eqI (by omega),trivial⟩ ?_
 rintro ⟨k,vs1,ls,mm⟩; dsimp only [u4]; rintro ⟨hk1,hk2,hvl,hll,hrw,hR,okL1⟩
 have bdL1 := okM.bnd okL1.1
 clear bd0
 refine jq (jq (jr (jm Z (jm Z (js (jlss Z Z) (jn (jx ?_)))))))
 refine jif Z (fun hc1 => ?_) (fun hc1 => ?_)
 refine jsk (jx (jq (jb (jq (jr (jm Z (js (jsub Z Z (by omega)) (ja Z (jn (jx (jq ?_)))))))))))
 refine jq (jr (jm Z (jka E54 Z Z (m3take_ct okL1 (by omega) 3 (by first | decide | omega)) (dc d0 dn) k2 ⟨tO9 okL1.1,okL1.2⟩ fun m22 hm22 om22 bm22 => ?_)))
 have w22_0 : IntKind.i64.wrap (tVV 3 mm) = tVV 3 mm := (IntWalk.i64_in _ (by have h9 := @tV9 3 (by omega) mm; omega))
 have tr22 := @tV9 3 (by omega) mm
 clear bdL1
 refine js (jeql Z Z) (jn (jx ?_))
 refine jif Z (fun hc2 => ?_) (fun hc2 => ?_)
 refine jr (jm Z (jm Z (jka E54 Z Z (m3take_ct om22 (by omega) ↑k (by first | decide | omega)) (dc d0 dn) k0 ⟨tO9 om22.1,om22.2⟩ fun m26 hm26 om26 bm26 => ?_)))
 have w26_0 : IntKind.i64.wrap (tVV ↑k m22) = tVV ↑k m22 := (IntWalk.i64_in _ (by have h9 := @tV9 ↑k (by omega) m22; omega))
 have tr26 := @tV9 ↑k (by omega) m22
 clear bm22
 refine ja Z (jn (jx (jr (jm Z (jm Z (jm Z (jm Z (js (jig (i := (Int.toNat (tVV ↑k m22))) U52 Z22 k2 Z Z (by omega) (by omega)) (js (jgW k2 (by omega) O22 Z) (jm Z ?_))))))))))
 have hz := hrw (Int.toNat (tVV ↑k m22))
 refine jro (Int.toNat (tVV ↑k m22)) k1 (by omega) (by omega) (jgo k0 fun w2 => japv U22 I3 (by decide) Z Z k0 Z (wI (wp (IntWalk.i64_in _ (by omega)))) (by omega) (fun _ => Z) fun v35 _ w3 => js (jig (i := (Int.toNat (tVV ↑k m22))) U52 Z22 k3 Z Z (by omega) (by omega)) (jsg k3 Z Z22 Z Z w3.one (by omega) (wV w3.one) (jru k1 k1 (by omega) (by omega) (jn (jbn (jx (jr (jm Z (js (jadd Z Z (by omega)) ?_)))))))))
 refine ja Z (jn ?_)
 exact jag (k + 1,List.set vs1 (Int.toNat (tVV ((k : Nat) : Int) m22)) v35,List.set ls (Int.toNat (tVV ((k : Nat) : Int) m22)) ((List.getD ls (Int.toNat (tVV ((k : Nat) : Int) m22)) []) ++ [((k : Nat) : Int)]),m26) ⟨by dsimp only; omega,by dsimp only; omega,by simp [hvl],by simp [hll],rows_set hrw _ _,by dsimp only; rw [hR,show n.toNat - k = (n.toNat - (k + 1)) + 1 by omega,tgA]; (first | rw [if_pos ‹_›] | rw [if_neg ‹_›]); (try simp only [hm22,hm26]); rfl,om26.mono (by omega)⟩ (dc d0 dn) (kd (kc k0 kn)) ⟨Z,Z,Z,Z,eqI (by omega),trivial⟩
 refine jsk (jx (jr (jm Z (jm Z (jm Z (jm Z (js (jig (i := (Int.toNat (↑k - 1))) U52 Z22 k2 Z Z (by omega) (by omega)) (js (jgW k2 (by omega) O22 Z) (jm Z ?_)))))))))
 have hz := hrw (Int.toNat (↑k - 1))
 refine jro (Int.toNat (↑k - 1)) k1 (by omega) (by omega) (jgo k0 fun w5 => japv U22 I3 (by decide) Z Z k0 Z (wI (wp (IntWalk.i64_in _ (by omega)))) (by omega) (fun _ => Z) fun v35_6 _ w7 => js (jig (i := (Int.toNat (↑k - 1))) U52 Z22 k3 Z Z (by omega) (by omega)) (jsg k3 Z Z22 Z Z w7.one (by omega) (wV w7.one) (jru k1 k1 (by omega) (by omega) (jn (jbn (jx (jr (jm Z (js (jadd Z Z (by omega)) ?_)))))))))
 refine ja Z (jn ?_)
 exact jag (k + 1,List.set vs1 (Int.toNat (((k : Nat) : Int) - 1)) v35_6,List.set ls (Int.toNat (((k : Nat) : Int) - 1)) ((List.getD ls (Int.toNat (((k : Nat) : Int) - 1)) []) ++ [((k : Nat) : Int)]),m22) ⟨by dsimp only; omega,by dsimp only; omega,by simp [hvl],by simp [hll],rows_set hrw _ _,by dsimp only; rw [hR,show n.toNat - k = (n.toNat - (k + 1)) + 1 by omega,tgA]; (first | rw [if_pos ‹_›] | rw [if_neg ‹_›]); (try simp only [hm22]); rfl,om22.mono (by omega)⟩ (dc d0 dn) (kd (kc k0 kn)) ⟨Z,Z,Z,Z,eqI (by omega),trivial⟩
 have hA1 : targA n m = (ls,mm) := by rw [targA,hR,show n.toNat - k = 0 by omega]; rfl
 refine jex (jtx (jtx (jbh (jx (jq (jq (jr (ja Z (jn (jx (jb ?_)))))))))))
 refine jlp (u4 fun (b : Nat) (vs2 : List Value) (lt : List (List Int)) (mn : Mk) => ⟨(b : Int) ≤ n ∧ vs2.length = n.toNat ∧ lt.length = n.toNat ∧ (∀ j,(lt.getD j []).length ≤ 10 + 2 * b) ∧ tgB n n.toNat 0 ls mm = tgB n (n.toNat - b) b lt mn ∧ okS nb (c + 20 + 5 * b) S mn,[dv (rL (rI .i64)) vs S],[rw' X.n (rI .i64) 3 vs2 lt,gl X.n rV 22 (.slice (some ⟨g13,0,none⟩) (Int.toNat n) (Int.toNat n)) vs2,bx g0 106 [vs,.int .i64 mn.k,.int .i64 mn.par,vb,.int .i64 mn.nx,al]],[(0,.pointer (some ⟨g0,0,none⟩)),(1,.int .i64 n),(4,.slice none 0 0),(5,(.slice (some ⟨g13,0,none⟩) (Int.toNat n) (Int.toNat n))),(8,.int .i64 (↑b))],n.toNat - b⟩) (0,vs1,ls,mm) ⟨by omega,hvl,hll,rows_mono hrw (by omega),rfl,okL1.mono (by omega)⟩ (dc d0 dn) (kd (kc k0 kn)) ⟨Z,Z,Z,Z,eqI (by omega),trivial⟩ ?_
 rintro ⟨b,vs2,lt,mn⟩; dsimp only [u4]; rintro ⟨hb1,hvl2,hll2,hrw2,hR2,okL2⟩
 have bdL2 := okM.bnd okL2.1
 clear bdL1
 refine jq (jq (jr (jm Z (jm Z (js (jlss Z Z) (jn (jx ?_)))))))
 refine jif Z (fun hc3 => ?_) (fun hc3 => ?_)
 refine jsk (jx (jq (jb (jq (jr (jm Z (jka E54 Z Z (m3take_ct okL2 (by omega) 6 (by first | decide | omega)) (dc d0 dn) k2 ⟨tO9 okL2.1,okL2.2⟩ fun m43 hm43 om43 bm43 => ?_)))))))
 have w43_0 : IntKind.i64.wrap (tVV 6 mn) = tVV 6 mn := (IntWalk.i64_in _ (by have h9 := @tV9 6 (by omega) mn; omega))
 have tr43 := @tV9 6 (by omega) mn
 clear bdL2
 refine ja Z (jn (jx (jq (jr (ja Z (jn (jx (jb ?_))))))))
 refine jlp (u4 fun (i : Nat) (vs3 : List Value) (lu : List (List Int)) (mo : Mk) => ⟨i ≤ (if 1 < n then (tVV 6 mn - 3).toNat else 0) ∧ vs3.length = n.toNat ∧ lu.length = n.toNat ∧ (∀ j,(lu.getD j []).length ≤ 10 + 2 * b + i) ∧ tgI n b (if 1 < n then (tVV 6 mn - 3).toNat else 0) lt m43 = tgI n b ((if 1 < n then (tVV 6 mn - 3).toNat else 0) - i) lu mo ∧ okS nb (c + 20 + 5 * b + 1 + 2 * i) S mo,[dv (rL (rI .i64)) vs S],[bx g0 106 [vs,.int .i64 mo.k,.int .i64 mo.par,vb,.int .i64 mo.nx,al],rw' X.n (rI .i64) 3 vs3 lu,gl X.n rV 22 (.slice (some ⟨g13,0,none⟩) (Int.toNat n) (Int.toNat n)) vs3],[(0,.pointer (some ⟨g0,0,none⟩)),(1,.int .i64 n),(4,.slice none 0 0),(5,(.slice (some ⟨g13,0,none⟩) (Int.toNat n) (Int.toNat n))),(8,.int .i64 (↑b)),(9,.int .i64 (tVV 6 mn)),(10,.int .i64 (↑i))],(if 1 < n then (tVV 6 mn - 3).toNat else 0) - i⟩) (0,vs2,lt,m43) ⟨Nat.zero_le _,hvl2,hll2,rows_mono hrw2 (by omega),rfl,om43.mono (by omega)⟩ (dc d0 dn) (kd (kc k0 kn)) ⟨Z,Z,Z,Z,Z,Z,eqI (by omega),trivial⟩ ?_
 rintro ⟨i,vs3,lu,mo⟩; dsimp only [u4]; rintro ⟨hi1,hvl3,hll3,hrw3,hR3,okL3⟩
 have bdL3 := okM.bnd okL3.1
 clear bm43
 refine jq (jq (jr (jm Z (jm Z (js (jsub Z Z (by omega)) (js (jlss Z Z) (jm Z (jg Z Z (.t _) (fun hg => jmv Z) (jg Z Z (.t _) (fun hg => jgtr (evg Z hg) Z) (js (jand Z Z) (jn ?_)))))))))))
 refine jx ?_
 refine jif Z (fun hc4 => ?_) (fun hc4 => ?_)
 refine jsk (jx (jq (jb (jq (jr (jm Z (jm Z (js (jsub Z Z (by omega)) (jka E54 Z Z (m3take_ct okL3 (by omega) (n - 1) (by first | decide | omega)) (dc d0 dn) k0 ⟨tO9 okL3.1,okL3.2⟩ fun m57 hm57 om57 bm57 => ?_)))))))))
 have w57_0 : IntKind.i64.wrap (tVV (n - 1) mo) = tVV (n - 1) mo := (IntWalk.i64_in _ (by have h9 := @tV9 (n - 1) (by omega) mo; omega))
 have tr57 := @tV9 (n - 1) (by omega) mo
 clear bdL3
 refine js (jadd Z Z (by omega)) (ja Z (jn (jx (jq (jq (jr (jm Z (jm Z (js (jleq Z Z) (jm Z (jg Z Z (.t _) (fun hg => jmv Z) ?_)))))))))))
 refine jkga Z Z (.t _) E54 Z (fun hg => evl2 (evg Z hg) Z) (m3take_ct om57 (by omega) 2 (by first | decide | omega)) (dc d0 dn) k0 (by split; exact ⟨tO9 om57.1,om57.2⟩; exact om57.mono (by omega)) fun m64 hm64 om64 bm64 => ?_
 have w64_0 : IntKind.i64.wrap (tVV 2 m57) = tVV 2 m57 := (IntWalk.i64_in _ (by have h9 := @tV9 2 (by omega) m57; omega))
 have tr64 := @tV9 2 (by omega) m57
 clear bm57
 refine jg Z Z (.t _) (fun hg => jeql (evg Z hg) Z) (js (jand Z Z) (jn (jx ?_)))
 refine jif Z (fun hc5 => ?_) (fun hc5 => ?_)
 refine jr (jm Z (js (jadd Z Z (by omega)) (jm Z (js (jsub Z Z (by omega)) (js (jmin Z Z) (ja Z (jn (jx (jr (jm Z (jm Z ?_)))))))))))
 refine jm Z (jm Z (js (jig U52 Z22 k2 Z Z Z (by omega)) (js (jgW k2 (by omega) O22 Z) (jm Z ?_))))
 have hX : tgX n ((b : Nat) : Int) mo = (min (((b : Nat) : Int) + 1) (n - 1),m64) := by
   try simp only [hm57,hm64] at hc5
   simp only [hm57,hm64]
   by_cases hA : 1 + tVV (n - 1) mo ≤ (b : Int) <;> by_cases hB : tVV 2 (tSS mo) = 0 <;> simp [hA,hB] at hc5 <;> simp [tgX,hA,hB]
 have hz := hrw3 b
 refine jro b k1 (by omega) (by omega) (jgo k0 fun w9 => japv U22 I3 (by decide) Z Z k0 Z (wI (wp (IntWalk.i64_in _ (by omega)))) (by omega) (fun _ => Z) fun v80 _ w10 => js (jig U52 Z22 k3 Z Z Z (by omega)) (jsg k3 Z Z22 Z Z w10.one (by omega) (wV w10.one) (jru k1 k1 (by omega) (by omega) (jn (jbn (jx (jr (jm Z (js (jadd Z Z (by omega)) ?_)))))))))
 refine ja Z (jn ?_)
 exact jag (i + 1,List.set vs3 b v80,List.set lu b ((List.getD lu b []) ++ [min (((b : Nat) : Int) + 1) (n - 1)]),m64) ⟨by dsimp only; split <;> omega,by simp [hvl3],by simp [hll3],rows_set hrw3 _ _,by dsimp only; rw [hR3,show (if 1 < n then (tVV 6 mn - 3).toNat else 0) - i = ((if 1 < n then (tVV 6 mn - 3).toNat else 0) - (i + 1)) + 1 by split <;> omega,tgI,hX]; (first | done | rfl),om64.mono (by omega)⟩ (dc d0 dn) (kc k2 (kd kn)) ⟨Z,Z,Z,Z,Z,Z,eqI (by omega),trivial⟩ (by dsimp only; split <;> omega)
 refine jsk (jx (jr (jm Z (jm Z (jm Z (jm Z (js (jig U52 Z22 k2 Z Z Z (by omega)) (js (jgW k2 (by omega) O22 Z) (jm Z ?_)))))))))
 have hX : tgX n ((b : Nat) : Int) mo = (1 + (tVV (n - 1) mo),m64) := by
   try simp only [hm57,hm64] at hc5
   simp only [hm57,hm64]
   by_cases hA : 1 + tVV (n - 1) mo ≤ (b : Int) <;> by_cases hB : tVV 2 (tSS mo) = 0 <;> simp [hA,hB] at hc5 <;> simp [tgX,hA,hB]
 have hz := hrw3 b
 refine jro b k1 (by omega) (by omega) (jgo k0 fun w12 => japv U22 I3 (by decide) Z Z k0 Z (wI (wp (IntWalk.i64_in _ (by omega)))) (by omega) (fun _ => Z) fun v80_13 _ w14 => js (jig U52 Z22 k3 Z Z Z (by omega)) (jsg k3 Z Z22 Z Z w14.one (by omega) (wV w14.one) (jru k1 k1 (by omega) (by omega) (jn (jbn (jx (jr (jm Z (js (jadd Z Z (by omega)) ?_)))))))))
 refine ja Z (jn ?_)
 exact jag (i + 1,List.set vs3 b v80_13,List.set lu b ((List.getD lu b []) ++ [1 + (tVV (n - 1) mo)]),m64) ⟨by dsimp only; split <;> omega,by simp [hvl3],by simp [hll3],rows_set hrw3 _ _,by dsimp only; rw [hR3,show (if 1 < n then (tVV 6 mn - 3).toNat else 0) - i = ((if 1 < n then (tVV 6 mn - 3).toNat else 0) - (i + 1)) + 1 by split <;> omega,tgI,hX]; (first | done | rfl),om64.mono (by omega)⟩ (dc d0 dn) (kc k2 (kd kn)) ⟨Z,Z,Z,Z,Z,Z,eqI (by omega),trivial⟩ (by dsimp only; split <;> omega)
 have hI : tgI n ↑b (if 1 < n then (tVV 6 mn - 3).toNat else 0) lt (tSS mn) = (lu,mo) := by rw [← hm43,hR3,show (if 1 < n then (tVV 6 mn - 3).toNat else 0) - i = 0 by split <;> omega]; rfl
 have hJ9 : (if 1 < n then (tVV 6 mn - 3).toNat else 0) ≤ 2 := by have h6 := tV9 (n := 6) (by omega) mn; split <;> omega
 refine jex (jtx (jtx (jbh (jbn (jx (jr (jm Z (js (jadd Z Z (by omega)) (ja Z (jn ?_))))))))))
 exact jag (b + 1,vs3,lu,mo) ⟨by dsimp only; omega,hvl3,hll3,rows_mono hrw3 (by omega),by dsimp only; rw [hR2,show n.toNat - b = (n.toNat - (b + 1)) + 1 by omega,tgB,hI]; rfl,okL3.mono (by omega)⟩ (dc d0 dn) (kc k1 (kc k1 (kc k0 kn))) ⟨Z,Z,Z,Z,eqI (by omega),trivial⟩
 have hT : targM n m = (lt,mn) := by rw [targM,hA1]; dsimp only; rw [hR2,show n.toNat - b = 0 by omega]; rfl
 refine jex (jtx (jtx (jbh (jx (jq (jr (jm Z (ja Z (jn (jx (jrt ?_)))))))))))
 have hv0 : (targM n m).1 = lt := (by rw [hT])
 have hst : mn = (targM n m).2 := (by rw [hT])
 refine qfr k1 k0 (by omega) (by omega) (fun l9 h9 => by obtain ⟨j,hj,rfl⟩ := List.getElem_of_mem h9; have := hrw2 j; simp [List.getD,hj] at this; omega) ?_
 exact jr1 Z Z (.slice (some ⟨g13,0,none⟩) (Int.toNat n) (Int.toNat n)) Z (dc (dcast hv0 d0) dn) (fun _ _ => (kcb (by rw [← hst]) k0 kn))
def predsT3 (bs : List D.Block) : Nat → Int → List Int
 | 0,_ => []
 | k + 1,b => predsT3 bs k b ++ (if (ix bs k).Term.To.any (fun y => decide (y = b)) then [(k : Int)] else [])
def pd3 (f : D.Func) (b : Int) : List Int := predsT3 f.Blocks f.Blocks.length b
theorem predsT3_len (bs : List D.Block) (b : Int) : ∀ k,(predsT3 bs k b).length ≤ k
 | 0 => by simp [predsT3]
 | k + 1 => by have := predsT3_len bs b k; rw [predsT3,List.length_append]; split <;> simp <;> omega
theorem none_any {α : Type} {l : List α} {q : α → Bool} (h : ∀ x ∈ l,q x = false) : l.any q = false := by simpa [List.any_eq_false] using h
theorem none_snoc {α : Type} [Inhabited α] {l : List α} {q : α → Bool} {k : Nat} (hk : k < l.length) (h : ∀ x ∈ l.take k,q x = false) (h1 : q (ix l k) = false) : ∀ x ∈ l.take (k + 1),q x = false := by
 rw [take_ix hk]; intro x hx; rcases List.mem_append.1 hx with hx | hx
 · exact h x hx
 · simp at hx; subst hx; exact h1
theorem any_at {α : Type} [Inhabited α] {l : List α} {q : α → Bool} {k : Nat} (hk : k < l.length) (h1 : q (ix l k) = true) : l.any q = true := List.any_eq_true.2 ⟨_,ix_mem hk,h1⟩
def cnt3 (l : List Bool) : Nat := l.countP (fun x => !x)
theorem cnt3_set {l : List Bool} {i : Nat} (hi : i < l.length) (h : ix l i = false) : cnt3 (l.set i true) + 1 = cnt3 l := by
 unfold cnt3
 have h2 : l[i] = false := by rw [← ix_eq hi]; exact h
 rw [List.countP_set hi]
 have : 0 < l.countP (fun x => !x) := List.countP_pos_iff.2 ⟨_,List.getElem_mem hi,by simp [h2]⟩
 simp [h2]; omega
theorem cnt3_rep (n : Nat) : cnt3 (List.replicate n false) = n := by simp [cnt3,List.countP_replicate]
theorem ix_rep (n i : Nat) : ix (List.replicate n false) i = false := by by_cases h : i < n <;> simp [ix,h]
def b3In (w : Int) : List Bool → List Int → List Int → List Bool × List Int
 | se,q,[] => (se,q)
 | se,q,t :: ts => if (0 ≤ t ∧ t < se.length) ∧ ix se t.toNat = false ∧ t ≠ w then b3In w (se.set t.toNat true) (q ++ [t]) ts else b3In w se q ts
def b3 (bs : List D.Block) (w : Int) : Nat → List Bool → List Int → Nat → List Bool
 | 0,se,_,_ => se
 | f + 1,se,q,i => if i < q.length then b3 bs w f (b3In w se q (ix bs (ix q i).toNat).Term.To).1 (b3In w se q (ix bs (ix q i).toNat).Term.To).2 (i + 1) else se
def reach3 (f : D.Func) (w : Int) : List Bool :=
 if w ≠ 0 ∧ 0 < f.Blocks.length then b3 f.Blocks w f.Blocks.length ((List.replicate f.Blocks.length false).set 0 true) [0] 0
 else List.replicate f.Blocks.length false
theorem b3_step {bs : List D.Block} {w : Int} {f i : Nat} {se se2 : List Bool} {q q2 : List Int} (hf : 0 < f) (hi : i < q.length) (h : b3In w se q (ix bs (ix q i).toNat).Term.To = (se2,q2)) : b3 bs w f se q i = b3 bs w (f - 1) se2 q2 (i + 1) := by
 cases f with
 | zero => omega
 | succ f => rw [b3,if_pos hi,h]; rfl
theorem b3_end {bs : List D.Block} {w : Int} {f i : Nat} {se : List Bool} {q : List Int} (hi : q.length ≤ i) : b3 bs w f se q i = se := by
 cases f with
 | zero => rfl
 | succ f => rw [b3,if_neg (by omega)]
theorem b3_nil {bs : List D.Block} {w : Int} {f : Nat} {se : List Bool} : b3 bs w f se [] 0 = se := b3_end (by simp)
theorem b3In_new {w : Int} {se se0 : List Bool} {q q0 T : List Int} {j : Nat} (hj : j < T.length) (hIn : b3In w se q (T.drop j) = b3In w se0 q0 T) (h : (0 ≤ ix T j ∧ ix T j < se.length) ∧ ix se (ix T j).toNat = false ∧ ix T j ≠ w) : b3In w (se.set (ix T j).toNat true) (q ++ [ix T j]) (T.drop (j + 1)) = b3In w se0 q0 T := by
 rw [← hIn,drop_ix hj,b3In,if_pos h]
theorem b3In_old {w : Int} {se se0 : List Bool} {q q0 T : List Int} {j : Nat} (hj : j < T.length) (hIn : b3In w se q (T.drop j) = b3In w se0 q0 T) (h : ¬ ((0 ≤ ix T j ∧ ix T j < se.length) ∧ ix se (ix T j).toNat = false ∧ ix T j ≠ w)) : b3In w se q (T.drop (j + 1)) = b3In w se0 q0 T := by
 rw [← hIn,drop_ix hj,b3In,if_neg h]
theorem b3In_len {w : Int} : ∀ (T : List Int) (se : List Bool) (q : List Int),(b3In w se q T).1.length = se.length
 | [],_,_ => rfl
 | t :: ts,se,q => by rw [b3In]; split; (· rw [b3In_len ts]; simp); exact b3In_len ts se q
theorem b3_len {bs : List D.Block} {w : Int} : ∀ (f : Nat) (se : List Bool) (q : List Int) (i : Nat),(b3 bs w f se q i).length = se.length
 | 0,_,_,_ => rfl
 | f + 1,se,q,i => by rw [b3]; split; (· rw [b3_len f,b3In_len]); rfl
theorem reach3_len (f : D.Func) (w : Int) : (reach3 f w).length = f.Blocks.length := by unfold reach3; split; (· rw [b3_len]; simp); simp
def phT (b : Int) (i : Nat) (p : D.Phi) : D.Tg3 := ⟨b,-1 - i,[p.Dst],p.In.map (·.Val)⟩
def phL (b : Int) : Nat → List D.Phi → List D.Tg3
 | _,[] => []
 | i,p :: l => phT b i p :: phL b (i + 1) l
def inT (b : Int) (i : Nat) (x : D.Ins) : D.Tg3 := ⟨b,i,makes3 x,x.Args⟩
def inL (b : Int) : Nat → List D.Ins → List D.Tg3
 | _,[] => []
 | i,x :: l => inT b i x :: inL b (i + 1) l
def enT (b : Int) (x : D.Block) : D.Tg3 := ⟨b,(x.Ins.length : Nat),[],x.Term.Args⟩
def blL : Nat → List D.Block → List D.Tg3
 | _,[] => []
 | b,x :: l => phL b 0 x.Phis ++ (inL b 0 x.Ins ++ (enT b x :: blL (b + 1) l))
def things3 (f : D.Func) : List D.Tg3 := blL 0 f.Blocks
theorem phL_len (b : Int) : ∀ (l : List D.Phi) (i : Nat),(phL b i l).length = l.length
 | [],_ => rfl
 | _ :: l,i => by simp [phL,phL_len b l]
theorem inL_len (b : Int) : ∀ (l : List D.Ins) (i : Nat),(inL b i l).length = l.length
 | [],_ => rfl
 | _ :: l,i => by simp [inL,inL_len b l]
theorem blL_len : ∀ (l : List D.Block) (b : Nat),(blL b l).length = cntT l
 | [],_ => rfl
 | x :: l,b => by simp [blL,cntT,phL_len,inL_len,blL_len l]; omega
theorem pre_len {α : Type} {a b c : List α} (h : a = b ++ c) : b.length ≤ a.length := by rw [h]; simp
theorem bl_0 {a out : List D.Tg3} {l : List D.Block} {k : Nat} (hk : k < l.length) (h : a = out ++ blL k (l.drop k)) : a = out ++ (phL k 0 ((ix l k).Phis.drop 0) ++ (inL k 0 (ix l k).Ins ++ (enT k (ix l k) :: blL (k + 1) (l.drop (k + 1))))) := by rw [h,drop_ix hk,blL]; rfl
theorem ph_1 {a out r : List D.Tg3} {b : Int} {l : List D.Phi} {i : Nat} (hi : i < l.length) (h : a = out ++ (phL b i (l.drop i) ++ r)) : a = (out ++ [phT b i (ix l i)]) ++ (phL b (i + 1) (l.drop (i + 1)) ++ r) := by rw [h,drop_ix hi,phL]; simp
theorem ph_2 {a out r : List D.Tg3} {b : Int} {l : List D.Phi} {i : Nat} (hi : l.length ≤ i) (h : a = out ++ (phL b i (l.drop i) ++ r)) : a = out ++ r := by rw [h,List.drop_of_length_le hi]; rfl
theorem in_1 {a out r : List D.Tg3} {b : Int} {l : List D.Ins} {i : Nat} (hi : i < l.length) (h : a = out ++ (inL b i (l.drop i) ++ r)) : a = (out ++ [inT b i (ix l i)]) ++ (inL b (i + 1) (l.drop (i + 1)) ++ r) := by rw [h,drop_ix hi,inL]; simp
theorem in_2 {a out r : List D.Tg3} {b : Int} {l : List D.Ins} {i : Nat} (hi : l.length ≤ i) (h : a = out ++ (inL b i (l.drop i) ++ r)) : a = out ++ r := by rw [h,List.drop_of_length_le hi]; rfl
theorem bl_1 {a out r : List D.Tg3} {x : D.Tg3} (h : a = out ++ (x :: r)) : a = (out ++ [x]) ++ r := by rw [h]; simp
theorem map_snoc {α β : Type} [Inhabited α] {g : α → β} {l : List α} {k : Nat} (hk : k < l.length) : (l.take (k + 1)).map g = (l.take k).map g ++ [g (ix l k)] := by rw [take_ix hk]; simp
def stands3 (f : D.Func) (b : Int) (t : D.Tg3) : Bool := decide (t.Block = b) || !(ix (reach3 f t.Block) b.toNat)
def standL (f : D.Func) (b : Int) (l : List D.Tg3) : List Int := l.flatMap (fun t => if stands3 f b t then t.Makes else [])
def numsL (n : Nat) : List Int := (List.range n).map (fun (i : Nat) => (i : Int))
def stand3 (f : D.Func) (b : Int) : List Int := numsL f.Params.toNat ++ standL f b (things3 f)
theorem numsL_s (n : Nat) : numsL (n + 1) = numsL n ++ [(n : Int)] := by simp [numsL,List.range_succ]
theorem numsL_len (n : Nat) : (numsL n).length = n := by simp [numsL]
theorem standL_s {f : D.Func} {b : Int} {l : List D.Tg3} {k : Nat} (hk : k < l.length) : standL f b (l.take (k + 1)) = standL f b (l.take k) ++ (if stands3 f b (ix l k) then (ix l k).Makes else []) := by
 rw [take_ix hk]; simp [standL]
theorem makes_in {b : Int} : ∀ {l : List D.Ins} {i : Nat} {t : D.Tg3},t ∈ inL b i l → t.Makes.length ≤ 2
 | [],_,_,h => by cases h
 | x :: l,i,t,h => by
   rcases List.mem_cons.1 h with h | h
   · subst h; exact makes3_len x
   · exact makes_in h
theorem makes_ph {b : Int} : ∀ {l : List D.Phi} {i : Nat} {t : D.Tg3},t ∈ phL b i l → t.Makes.length ≤ 2
 | [],_,_,h => by cases h
 | x :: l,i,t,h => by
   rcases List.mem_cons.1 h with h | h
   · subst h; simp [phT]
   · exact makes_ph h
theorem makes_bl : ∀ {l : List D.Block} {b : Nat} {t : D.Tg3},t ∈ blL b l → t.Makes.length ≤ 2
 | [],_,_,h => by cases h
 | x :: l,b,t,h => by
   rw [blL] at h
   rcases List.mem_append.1 h with h | h
   · exact makes_ph h
   · rcases List.mem_append.1 h with h | h
     · exact makes_in h
     · rcases List.mem_cons.1 h with h | h
       · subst h; simp [enT]
       · exact makes_bl h
theorem standL_len {f : D.Func} {b : Int} : ∀ {l : List D.Tg3},(∀ t ∈ l,t.Makes.length ≤ 2) → (standL f b l).length ≤ 2 * l.length
 | [],_ => by simp [standL]
 | x :: l,h => by
   have h1 := standL_len (f := f) (b := b) (l := l) (fun t ht => h t (List.mem_cons_of_mem _ ht))
   have h2 := h x (List.mem_cons_self)
   unfold standL at *
   rw [List.flatMap_cons,List.length_append,List.length_cons]
   split
   · omega
   · simp only [List.length_nil]; omega
theorem things3_len (f : D.Func) : (things3 f).length = cntT f.Blocks := blL_len _ _
theorem things3_mk (f : D.Func) : ∀ t ∈ things3 f,t.Makes.length ≤ 2 := fun _ h => makes_bl h
theorem okM0 (s : List Int) : okM 0 0 ⟨s,0,0,[],0,[]⟩ := by simp [okM,cntT]
end Go.Proofs.YtehhjlkmbdhckaaGreat
