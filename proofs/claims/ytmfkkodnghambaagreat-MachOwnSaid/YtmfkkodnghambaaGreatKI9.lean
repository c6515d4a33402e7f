/- Lemmas that the claim is made of. Conditions: each lemma names its own. -/
import Derived.Test.YtmfkkodnghambaaGreatKI8
set_option linter.unusedSectionVars false
set_option linter.unusedSimpArgs false
set_option linter.unusedVariables false
namespace Go.Proofs.YtmfkkodnghambaaGreat
open Go.JE
theorem F139_0 : Fld Tryz.prog 139 0 0 := ⟨_,_,Tryz.underlying139,rfl,rfl,1,(by unfold Sz; kernel_rfl),by decide⟩
theorem F139_1 : Fld Tryz.prog 139 1 1 := ⟨_,_,Tryz.underlying139,rfl,rfl,1,(by unfold Sz; kernel_rfl),by decide⟩
theorem F139_2 : Fld Tryz.prog 139 2 2 := ⟨_,_,Tryz.underlying139,rfl,rfl,1,(by unfold Sz; kernel_rfl),by decide⟩
theorem F139_3 : Fld Tryz.prog 139 3 3 := ⟨_,_,Tryz.underlying139,rfl,rfl,1,(by unfold Sz; kernel_rfl),by decide⟩
theorem I24 : (Tryz.prog.info? 24).map (fun i => (i.zero,i.size,i.bytes)) = some (some (.agg #[.int .i64 0,.int .i64 0,.int .i64 0,.int .i64 0,.int .i64 0,.int .i64 0,.int .i32 0,.slice none 0 0]),8,80) := by kernel_rfl
theorem Z93 : Sz Tryz.prog 93 1 := by unfold Sz; kernel_rfl
set_option maxRecDepth 4000 in
theorem m7take_ct {vs al : Value} {m : Mq} {nb c : Nat} {S : List Int} {g0 : Nat} (hok : okSq nb c S m) (hc : c ≤ 1000000) (n : Int) (hn9 : 0 < n ∧ n ≤ 1000000000) : KAq Tryz.prog 126 [.int .i64 n] [] g0 vs al S m (takeQ m) (.int .i64 (takeQV n m)) := by
 refine jenter (args := [.pointer (some ⟨g0,0,none⟩),.int .i64 n]) Tryz.func126 rfl rfl rfl fun w0 X => ?_
 have bd0 := okQ.bnd hok.1
 refine jq (jr (ja Z (jn (jx (jq (jr (ja Z (jn (jx (jq (jq ?_)))))))))))
 refine jstl Mixed (by kernel_rfl) (jt (jmv Z) (jt (jnil Z) (jt (jf F139_1 Z) (jt (jl k0 O3 Z Z) (jt (jmv Z) (jt (jnil Z) (jt (jf F139_0 Z) (jt (jl k0 O22 Z Z) (tdq d0 fun q1 w1 => jt (jln U22 d0 Z) (jt (jlss Z Z) ?_))))))))))
 refine jdn (jx ?_)
 refine jif Z (fun hc1 => ?_) (fun hc1 => ?_)
 refine jstl Mixed (by kernel_rfl) (jt (jmv Z) (jt (jnil Z) (jt (jf F139_0 Z) (jt (jl k0 O22 Z Z) (jt (jmv Z) (jt (jnil Z) (jt (jf F139_1 Z) (jt (jl k0 O3 Z Z) (jt (jix (i := (Int.toNat m.k)) U22 Z3 d0 Z Z (by omega) (by omega)) (jt (jlI (dix d0 (Int.toNat m.k) (by omega)) O3 Z) (jt (jas Z) ?_)))))))))))
 refine jdn (jx (jq (jr (jm Z (js (jnil Z) (js (jf F139_1 Z) (js (jl k0 O3 Z Z) (js (jadd Z Z (by omega)) (js (jnil Z) (js (jf F139_1 Z) (jst k0 Z3 Z Z Z s1 ?_)))))))))))
 refine jzna (c := c + 1) ({ m with k := m.k + 1 }) k0 ⟨(okQ.setk hok.1 (by omega) (by omega)),hok.2⟩ fun ms2 hms2 oms2 bms2 => ?_
 clear bd0
 refine jn (jx (jq (jr (jm Z (jm Z (js (jrem Z Z (by omega)) (jm Z ?_)))))))
 have hz1 := Int.tmod_lt_of_pos (ix S (Int.toNat m.k)) hn9.1
 have hz2 := Int.lt_tmod_of_pos (ix S (Int.toNat m.k)) hn9.1
 refine js (jadd Z Z (by omega)) (jm Z (js (jrem Z Z (by omega)) (ja Z (jn (jx (jrt ?_))))))
 have hv0 : takeQV n m = (Int.tmod ((Int.tmod (ix S (Int.toNat m.k)) n) + n) n) := (by (try simp only [hms2] at hc1); (try simp only [hms2]); simp only [takeQV,hok.2]; simp [*])
 have hst : ms2 = takeQ m := (by (try simp only [hms2] at hc1); (try simp only [hms2]); all_goals first | rfl | (simp [takeQV,takeQ,hc1]; done) | (simp [takeQV,takeQ,hc1]; rfl) | (unfold takeQV takeQ; (repeat' split) <;> first | rfl | (exfalso; omega) | (simp [hc1] at *; done) | (simp_all; done)))
 exact jr1 Z Z () (by rw [hv0] <;> rfl) dn (fun _ _ => (kcb (by rw [← hst]) k0 kn))
 refine jsk (jx (jq (jr (jm Z (js (jnil Z) (js (jf F139_1 Z) (js (jl k0 O3 Z Z) (js (jadd Z Z (by omega)) (js (jnil Z) (js (jf F139_1 Z) (jst k0 Z3 Z Z Z s1 ?_)))))))))))
 refine jzna (c := c + 1) ({ m with k := m.k + 1 }) k0 ⟨(okQ.setk hok.1 (by omega) (by omega)),hok.2⟩ fun ms3 hms3 oms3 bms3 => ?_
 clear bd0
 refine jn (jx (jq (jr (jm Z (jm Z (js (jrem Z Z (by omega)) (jm Z ?_)))))))
 have hz1 := Int.tmod_lt_of_pos 0 hn9.1
 have hz2 := Int.lt_tmod_of_pos 0 hn9.1
 refine js (jadd Z Z (by omega)) (jm Z (js (jrem Z Z (by omega)) (ja Z (jn (jx (jrt ?_))))))
 have hv0 : takeQV n m = (Int.tmod ((Int.tmod 0 n) + n) n) := (by (try simp only [hms3] at hc1); (try simp only [hms3]); simp only [takeQV,hok.2]; simp [*])
 have hst : ms3 = takeQ m := (by (try simp only [hms3] at hc1); (try simp only [hms3]); all_goals first | rfl | (simp [takeQV,takeQ,hc1]; done) | (simp [takeQV,takeQ,hc1]; rfl) | (unfold takeQV takeQ; (repeat' split) <;> first | rfl | (exfalso; omega) | (simp [hc1] at *; done) | (simp_all; done)))
 exact jr1 Z Z () (by rw [hv0] <;> rfl) dn (fun _ _ => (kcb (by rw [← hst]) k0 kn))
set_option maxRecDepth 4000 in
theorem m7temp_ct {vs al : Value} {m : Mq} {nb c : Nat} {S : List Int} {g0 : Nat} (hok : okSq nb c S m) (hc : c ≤ 1000000) : KAq Tryz.prog 127 [] [] g0 vs al S m (tempQ m) (.int .i64 m.nx) := by
 refine jenter (args := [.pointer (some ⟨g0,0,none⟩)]) Tryz.func127 rfl rfl rfl fun w0 X => ?_
 have bd0 := okQ.bnd hok.1
 refine jq (jr (ja Z (jn (jx (jq (jr (jm Z (js (jnil Z) (js (jf F139_2 Z) (js (jl k0 O3 Z Z) (js (jadd Z Z (by omega)) ?_)))))))))))
 refine js (jnil Z) (js (jf F139_2 Z) (jst k0 Z3 Z Z Z s2 (jzna (c := c + 1) ({ m with nx := m.nx + 1 }) k0 ⟨(okQ.setnx hok.1 (by omega) (by omega)),hok.2⟩ fun ms1 hms1 oms1 bms1 => ?_)))
 clear bd0
 refine jn (jx (jq (jr (jm Z (js (jnil Z) (js (jf F139_2 Z) (js (jl k0 O3 Z Z) (js (jsub Z Z (by omega)) (ja Z (jn (jx ?_)))))))))))
 refine jrt ?_
 have hv0 : m.nx = (ms1.nx - 1) := (by (try simp only [hms1]); simp)
 have hst : ms1 = tempQ m := (by (try simp only [hms1]); all_goals first | rfl | (simp [tempQ]; done) | (simp [tempQ]; rfl) | (unfold tempQ; (repeat' split) <;> first | rfl | (exfalso; omega) | (simp [] at *; done) | (simp_all; done)))
 exact jr1 Z Z () (by rw [hv0] <;> rfl) dn (fun _ _ => (kcb (by rw [← hst]) k0 kn))
set_option maxRecDepth 4000 in
theorem m7put_ct {vs al : Value} {m : Mq} {nb c : Nat} {S : List Int} {g0 : Nat} {B0 : Nat} (hok : okSq nb c S m) (hc : c ≤ 1000000) {a1 : Value} {i : D.Mach} : KBq Tryz.prog 124 [vMach i a1] [da rMach (vMach i a1) i] g0 vs al S B0 [] m (putQ i m) (.tuple #[]) := by
 refine jenter (args := [.pointer (some ⟨g0,0,none⟩),vMach i a1]) Tryz.func124 rfl rfl rfl fun w0 X => ?_
 refine cgo k1 fun w1 => ?_
 have bd0 := okQ.bnd hok.1
 refine jq (jr (jbox Z Z fun g3 => jn (jx (jany true (.a 0 (.a 1 (.a 2 (.a 3 (.a 4 (.a 5 (.o 6 (.o 7 (.a 8 (.a 9 (.o 10 .e))))))))))) Mixed (by kernel_rfl) (kd kn) fun F2 => jy Z (jmv Z) (jy Z (jmv Z) (jy Z (jnil Z) (jy Z (jf F139_3 Z) (jy Z (jl k1 O93 Z Z) (jy Z (jla k0 A24 Z24 Z Z Z) ?_)))))))))
 refine jyo Z (jlit (r := rMach) (l := [i]) U93 I24 (by decide) Z Z Z (lA d2 ln) fun g10 => jyn d0 (kc k1 (kc k1 kn)) (jyo Z (jfz k0 (by (try simp) <;> omega) (japl U93 I24 (by decide) Z k2 Z Z d0 (by (try simp) <;> omega) fun v11 w6 => jyn d1 (kc k1 (kc k1 kn)) (jy Z (jnil Z) (jy Z (jf F139_3 Z) (jyo Z (jst k2 Z93 Z Z w6.one s3 (jzn (c := c + 1) ({ m with l := m.l ++ ([i]) }) (kd kn) ⟨(okQ.setl hok.1 (by simp only [List.length_append,List.length_cons,List.length_nil]; omega) (by omega)),hok.2⟩ fun ms8 hms8 oms8 bms8 => ?_)))))))))
 clear bd0
 refine jyz d0 (jyd ?_)
 have hst : ms8 = putQ i m := (by (try simp only [hms8]); all_goals first | rfl | (simp [putQ]; done) | (simp [putQ]; rfl) | (unfold putQ; (repeat' split) <;> first | rfl | (exfalso; omega) | (simp [] at *; done) | (simp_all; done)))
 exact jd0 Z v11 Z dn (fun _ _ => (kcb (by rw [← hst]) k0 (kcg (by rw [← hst]) k0 kn)))
theorem E124 : Ent Tryz.prog 124 := ⟨_,Tryz.func124,by kernel_rfl,by kernel_rfl⟩
theorem E126 : Ent Tryz.prog 126 := ⟨_,Tryz.func126,by kernel_rfl,by kernel_rfl⟩
theorem E127 : Ent Tryz.prog 127 := ⟨_,Tryz.func127,by kernel_rfl,by kernel_rfl⟩
set_option maxRecDepth 4000 in
theorem m7cop_ct {vs al : Value} {m : Mq} {nb c : Nat} {S : List Int} {g0 : Nat} {B0 : Nat} (hok : okSq nb c S m) (hc : c ≤ 990000) (r : Int) (ww1 : IntKind.i64.wrap r = r) : KBq Tryz.prog 128 [.int .i64 r] [] g0 vs al S B0 [wf .i64 (copV r m)] m (copQ r m) (.int .i64 (copV r m)) := by
 refine jenter (args := [.pointer (some ⟨g0,0,none⟩),.int .i64 r]) Tryz.func128 rfl rfl rfl fun w0 X => ?_
 refine cgo k1 fun w1 => ?_
 have bd0 := okQ.bnd hok.1
 refine jq (jr (ja Z (jn (jx (jq (jq (jr (jm Z (jzr E126 Z Z (m7take_ct hok (by omega) 4 (by omega)) (dc d0 dn) (kd kn) ⟨takeQ_ok hok.1,hok.2⟩ fun m7 hm7 om7 bm7 => ?_)))))))))
 have w7_0 : IntKind.i64.wrap (takeQV 4 m) = takeQV 4 m := (IntWalk.i64_in _ (by have h9 := @takeQV_rng 4 (by omega) m; omega))
 have tr7 := @takeQV_rng 4 (by omega) m
 clear bd0
 refine js (jgtr Z Z) (jn (jx ?_))
 refine jif Z (fun hc1 => ?_) (fun hc1 => ?_)
 refine jq (jr (jm Z (ja Z (jn (jx (jrt (jtr ?_)))))))
 have hv0 : copV r m = r := (by (try simp only [hm7] at hc1); (try simp only [hm7]); all_goals first | rfl | (simp [copQ,copV,hc1]; done) | (simp [copQ,copV,hc1]; rfl) | (unfold copQ copV; (repeat' split) <;> first | rfl | (exfalso; omega) | (simp [hc1] at *; done) | (simp_all; done)))
 have hst : m7 = copQ r m := (by (try simp only [hm7] at hc1); (try simp only [hm7]); all_goals first | rfl | (simp [copQ,copV,hc1]; done) | (simp [copQ,copV,hc1]; rfl) | (unfold copQ copV; (repeat' split) <;> first | rfl | (exfalso; omega) | (simp [hc1] at *; done) | (simp_all; done)))
 exact jr1 Z Z al (by rw [hv0] <;> rfl) (dc (wca hv0 (wp ww1)) dn) (fun _ _ => (kcb (by rw [← hst]) k0 (kcg (by rw [← hst]) k0 kn)))
 refine jsk (jx (jq (jr (jm Z (jzr E127 Z Z (m7temp_ct om7 (by omega)) (dc d0 dn) (kd kn) ⟨tempQ_ok om7.1,om7.2⟩ fun m11 hm11 om11 bm11 => ?_)))))
 have w11_0 : IntKind.i64.wrap (m7.nx) = m7.nx := (IntWalk.i64_in _ (by omega))
 clear bm7
 refine ja Z (jn (jx (jq (jr (jm Z (jm Z (jm Z (js (jbu (v := .agg #[.int .i64 1,.int .i64 m7.nx,.int .i64 0,.int .i64 r,.int .i64 0,.int .i64 0,.int .i32 0,.slice none 0 0]) Z (fun _ => by kernel_rfl)) (jzb E124 Z Z (m7put_ct (i := ⟨1,m7.nx,0,r,0,0,0,[]⟩) om11 (by omega)) (dc d0 (dc (rMach.M (m := ⟨1,m7.nx,0,r,0,0,0,[]⟩) (c := (.slice none 0 0)) wN (wl 1) (wp w11_0) (wl 0) (wp ww1) (wl 0) (wl 0) (wl 0)) dn)) (kd kn) ⟨putQ_ok om11.1,(putQ_s.trans om11.2)⟩ p0 fun m16 hm16 om16 bm16 ua16 w2 => ?_)))))))))
 clear bm11
 refine jn (jx (jq (jr (jm Z (ja Z (jn (jx (jrt ?_))))))))
 have hv0 : copV r m = m7.nx := (by (try simp only [hm7,hm11,hm16] at hc1); (try simp only [hm7,hm11,hm16]); all_goals first | rfl | (simp [copQ,copV,hc1]; done) | (simp [copQ,copV,hc1]; rfl) | (unfold copQ copV; (repeat' split) <;> first | rfl | (exfalso; omega) | (simp [hc1] at *; done) | (simp_all; done)))
 have hst : m16 = copQ r m := (by (try simp only [hm7,hm11,hm16] at hc1); (try simp only [hm7,hm11,hm16]); all_goals first | rfl | (simp [copQ,copV,hc1]; done) | (simp [copQ,copV,hc1]; rfl) | (unfold copQ copV; (repeat' split) <;> first | rfl | (exfalso; omega) | (simp [hc1] at *; done) | (simp_all; done)))
 exact jr1 Z Z ua16 (by rw [hv0] <;> rfl) (dc (wca hv0 (wp w11_0)) dn) (fun _ _ => (kcb (by rw [← hst]) k0 (kcg (by rw [← hst]) k0 kn)))
set_option maxRecDepth 4000 in
theorem m7word_ct {vs al : Value} {m : Mq} {nb c : Nat} {S : List Int} {g0 : Nat} {B0 : Nat} (hok : okSq nb c S m) (hc : c ≤ 990000) (d : Int) (n : Int) (ww1 : IntKind.i64.wrap d = d) (ww2 : IntKind.i32.wrap n = n) : KBq Tryz.prog 122 [.int .i64 d,.int .i32 n] [] g0 vs al S B0 [] m (wordQ d n m) (.tuple #[]) := by
 refine jenter (args := [.pointer (some ⟨g0,0,none⟩),.int .i64 d,.int .i32 n]) Tryz.func122 rfl rfl rfl fun w0 X => ?_
 refine cgo k1 fun w1 => ?_
 have bd0 := okQ.bnd hok.1
 refine jq (jq (jr (jm Z (js (jgeq Z Z) (jm Z (jg Z Z (.t _) (fun hg => jmv Z) (jg Z Z (.t _) (fun hg => jlss (evg Z hg) Z) (js (jand Z Z) (jm Z (jg Z Z (.t _) (fun hg => jmv Z) (jzg Z Z (.t _) E126 Z (fun hg => evl2 (evg Z hg) Z) (m7take_ct hok (by omega) 2 (by omega)) (dc d0 dn) (kd kn) (by split; exact ⟨takeQ_ok hok.1,hok.2⟩; exact hok.mono (by omega)) fun m14 hm14 om14 bm14 => ?_)))))))))))
 have w14_0 : IntKind.i64.wrap (takeQV 2 m) = takeQV 2 m := (IntWalk.i64_in _ (by have h9 := @takeQV_rng 2 (by omega) m; omega))
 have tr14 := @takeQV_rng 2 (by omega) m
 clear bd0
 refine jg Z Z (.t _) (fun hg => jeql (evg Z hg) Z) (js (jand Z Z) (jn (jx ?_)))
 refine jif Z (fun hc1 => ?_) (fun hc1 => ?_)
 refine jq (jr (jm Z (jm Z (jm Z (js (jbu (v := .agg #[.int .i64 3,.int .i64 d,.int .i64 0,.int .i64 0,.int .i64 0,.int .i64 0,.int .i32 n,.slice none 0 0]) Z (fun _ => by kernel_rfl)) (jzb E124 Z Z (m7put_ct (i := ⟨3,d,0,0,0,0,n,[]⟩) om14 (by omega)) (dc d0 (dc (rMach.M (m := ⟨3,d,0,0,0,0,n,[]⟩) (c := (.slice none 0 0)) wN (wl 3) (wp ww1) (wl 0) (wl 0) (wl 0) (wl 0) (wp ww2)) dn)) (kd kn) ⟨putQ_ok om14.1,(putQ_s.trans om14.2)⟩ p0 fun m21 hm21 om21 bm21 ua21 w2 => ?_))))))
 clear bm14
 refine jn (jx (jrt (jtr ?_)))
 have hst : m21 = wordQ d n m := (by (try simp only [hm14,hm21] at hc1); (try simp only [hm14,hm21]); unfold wordQ wordQ0 smallQ; by_cases h1 : -32768 ≤ n <;> by_cases h2 : n < 32768 <;> by_cases h3 : takeQV 2 m = 0 <;> simp [h1,h2,h3] at hc1 ⊢)
 exact jr0 Z ua21 Z dn (fun _ _ => (kcb (by rw [← hst]) k0 (kcg (by rw [← hst]) k0 kn)))
 refine jsk (jx (jr (jm Z (jm Z (jm Z (js (jbu (v := .agg #[.int .i64 4,.int .i64 d,.int .i64 0,.int .i64 0,.int .i64 0,.int .i64 0,.int .i32 n,.slice none 0 0]) Z (fun _ => by kernel_rfl)) (jzb E124 Z Z (m7put_ct (i := ⟨4,d,0,0,0,0,n,[]⟩) om14 (by omega)) (dc d0 (dc (rMach.M (m := ⟨4,d,0,0,0,0,n,[]⟩) (c := (.slice none 0 0)) wN (wl 4) (wp ww1) (wl 0) (wl 0) (wl 0) (wl 0) (wp ww2)) dn)) (kd kn) ⟨putQ_ok om14.1,(putQ_s.trans om14.2)⟩ p0 fun m26 hm26 om26 bm26 ua26 w3 => ?_)))))))
 clear bm14
 refine jn ?_
 have hst : m26 = wordQ d n m := (by (try simp only [hm14,hm26] at hc1); (try simp only [hm14,hm26]); unfold wordQ wordQ0 smallQ; by_cases h1 : -32768 ≤ n <;> by_cases h2 : n < 32768 <;> by_cases h3 : takeQV 2 m = 0 <;> simp [h1,h2,h3] at hc1 ⊢)
 exact jd0 Z ua26 Z dn (fun _ _ => (kcb (by rw [← hst]) k0 (kcg (by rw [← hst]) k0 kn)))
theorem E122 : Ent Tryz.prog 122 := ⟨_,Tryz.func122,by kernel_rfl,by kernel_rfl⟩
theorem E128 : Ent Tryz.prog 128 := ⟨_,Tryz.func128,by kernel_rfl,by kernel_rfl⟩
theorem F67_4 : Fld Tryz.prog 67 4 4 := ⟨_,_,Tryz.underlying67,rfl,rfl,1,(by unfold Sz; kernel_rfl),by decide⟩
set_option maxRecDepth 4000 in
theorem m7two_ct {vs al : Value} {m : Mq} {nb c : Nat} {S : List Int} {g0 : Nat} {B0 : Nat} (hok : okSq nb c S m) (hc : c ≤ 980000) {a1 : Value} {x : D.Ins} (hop : 0 ≤ x.Op ∧ x.Op ≤ 1000) (hl2 : 2 ≤ x.Args.length) : KBq Tryz.prog 125 [vIns x a1] [da rIns (vIns x a1) x] g0 vs al S B0 [] m (twoQ x m) (.tuple #[]) := by
 refine jenter (args := [.pointer (some ⟨g0,0,none⟩),vIns x a1]) Tryz.func125 rfl rfl rfl fun w0 X => ?_
 refine cgo k1 fun w1 => ?_
 have bd0 := okQ.bnd hok.1
 refine jq (jr (jbox Z Z fun g3 => jn (jx (jq (jr (js (jf F67_0 Z) (js (jl k0 O3 Z Z) (js (jsub Z Z (by omega)) (js (jadd Z Z (by omega)) (ja Z ?_))))))))))
 refine jn (jx (jq (jr (jm Z (js (jf F67_3 Z) (js (jl k0 O22 Z Z) (jdq (rIns.c_Args d1) fun q2 w2 => js (jix (i := 0) U22 Z3 (rIns.c_Args d1) Z Z Z (by omega)) (js (jlI (dix (rIns.c_Args d1) 0 (by omega)) O3 Z) (jwr (wad (dix (rIns.c_Args d1) 0 (by omega))) fun w3 => jzb E128 Z Z (m7cop_ct hok (by omega) (ix x.Args 0) w3) (dc d0 dn) (kc k1 (kc k1 kn)) ⟨copQ_ok hok.1,(copQ_s.trans hok.2)⟩ p1 fun m20 hm20 om20 bm20 ua20 w4 => ?_)))))))))
 clear bd0
 refine ja Z (jn (jx (jq (jr (jm Z (js (jf F67_3 Z) (js (jl k2 O22 Z Z) (js (jix (i := 1) U22 Z3 (rIns.c_Args d2) Z Z Z (by omega)) (js (jlI (dix (rIns.c_Args d2) 1 (by omega)) O3 Z) (jwr (wad (dix (rIns.c_Args d2) 1 (by omega))) fun w6 => jzb E128 Z Z (m7cop_ct om20 (by omega) (ix x.Args 1) w6) (dc d1 dn) (kd kn) ⟨copQ_ok om20.1,(copQ_s.trans om20.2)⟩ p1 fun m26 hm26 om26 bm26 ua26 w7 => ?_))))))))))
 clear bm20
 refine ja Z (jn (jx (jq (jr (jm Z (jzr E126 Z Z (m7take_ct om26 (by omega) 6 (by first | decide | omega | assumption)) (dc d2 dn) (kd kn) ⟨takeQ_ok om26.1,om26.2⟩ fun m28 hm28 om28 bm28 => ?_))))))
 have w28_0 : IntKind.i64.wrap (takeQV 6 m26) = takeQV 6 m26 := (IntWalk.i64_in _ (by have h9 := @takeQV_rng 6 (by omega) m26; omega))
 have tr28 := @takeQV_rng 6 (by omega) m26
 clear bm26
 refine jn (jx (jb (jq (jr (js (jeql Z Z) (ja Z (jn (jx ?_))))))))
 refine jif Z (fun hc1 => ?_) (fun hc1 => ?_)
 refine jq (jr (jm Z (jzr E127 Z Z (m7temp_ct om28 (by omega)) (dc d2 dn) (kd kn) ⟨tempQ_ok om28.1,om28.2⟩ fun m40 hm40 om40 bm40 => ?_)))
 have w40_0 : IntKind.i64.wrap (m28.nx) = m28.nx := (IntWalk.i64_in _ (by omega))
 clear bm28
 refine ja Z (jn (jx (jq (jr (jm Z (jzr E127 Z Z (m7temp_ct om40 (by omega)) (dc d2 dn) (kd kn) ⟨tempQ_ok om40.1,om40.2⟩ fun m42 hm42 om42 bm42 => ?_))))))
 have w42_0 : IntKind.i64.wrap (m40.nx) = m40.nx := (IntWalk.i64_in _ (by omega))
 clear bm40
 refine ja Z (jn (jx (jq (jr (jm Z (jm Z (jm Z (jm Z (jm Z (js (jbu (v := .agg #[.int .i64 ((x.Op - 2) + 5),.int .i64 m28.nx,.int .i64 0,.int .i64 (copV (ix x.Args 0) m),.int .i64 (copV (ix x.Args 1) m20),.int .i64 0,.int .i32 0,.slice none 0 0]) Z (fun _ => by kernel_rfl)) (jzb E124 Z Z (m7put_ct (i := ⟨(x.Op - 2) + 5,m28.nx,0,copV (ix x.Args 0) m,copV (ix x.Args 1) m20,0,0,[]⟩) om42 (by omega)) (dc d2 (dc (rMach.M (m := ⟨(x.Op - 2) + 5,m28.nx,0,copV (ix x.Args 0) m,copV (ix x.Args 1) m20,0,0,[]⟩) (c := (.slice none 0 0)) wN (wp (IntWalk.i64_in ((x.Op - 2) + 5) (by omega))) (wp w40_0) (wl 0) ((wfw d1)) ((wfw d0)) (wl 0) (wl 0)) dn)) (kd kn) ⟨putQ_ok om42.1,(putQ_s.trans om42.2)⟩ p0 fun m49 hm49 om49 bm49 ua49 w9 => ?_)))))))))))
 clear bm42
 refine jn (jx (jq (jr (jm Z (jm Z (jm Z (js (jbu (v := .agg #[.int .i64 18,.int .i64 m40.nx,.int .i64 0,.int .i64 m28.nx,.int .i64 0,.int .i64 0,.int .i32 100,.slice none 0 0]) Z (fun _ => by kernel_rfl)) (jzb E124 Z Z (m7put_ct (i := ⟨18,m40.nx,0,m28.nx,0,0,100,[]⟩) om49 (by omega)) (dc d2 (dc (rMach.M (m := ⟨18,m40.nx,0,m28.nx,0,0,100,[]⟩) (c := (.slice none 0 0)) wN (wl 18) (wp w42_0) (wl 0) (wp w40_0) (wl 0) (wl 0) (wl 100)) dn)) (kd kn) ⟨putQ_ok om49.1,(putQ_s.trans om49.2)⟩ p0 fun m54 hm54 om54 bm54 ua54 w10 => ?_))))))))
 clear bm49
 refine jn (jx (jr (jm Z (js (jf F67_1 Z) (js (jl k2 O3 Z Z) (jm Z (js (jbu (v := .agg #[.int .i64 18,.int .i64 x.Dst,.int .i64 0,.int .i64 m40.nx,.int .i64 0,.int .i64 0,.int .i32 ((-100)),.slice none 0 0]) Z (fun _ => by kernel_rfl)) (jzb E124 Z Z (m7put_ct (i := ⟨18,x.Dst,0,m40.nx,0,0,(-100),[]⟩) om54 (by omega)) (dc d2 (dc (rMach.M (m := ⟨18,x.Dst,0,m40.nx,0,0,(-100),[]⟩) (c := (.slice none 0 0)) wN (wl 18) (rIns.W_Dst d3) (wl 0) (wp w42_0) (wl 0) (wl 0) (wl (-100))) dn)) (kd kn) ⟨putQ_ok om54.1,(putQ_s.trans om54.2)⟩ p0 fun m60 hm60 om60 bm60 ua60 w11 => ?_))))))))
 clear bm54
 refine jn (jbn ?_)
 have hst : m60 = twoQ x m := (by (try simp only [hm20,hm26,hm28,hm40,hm42,hm49,hm54,hm60] at hc1); (try simp only [hm20,hm26,hm28,hm40,hm42,hm49,hm54,hm60]); all_goals first | rfl | (simp [twoQ,two3,opQ,hc1]; done) | (simp [twoQ,two3,opQ,hc1]; rfl) | (unfold twoQ two3 opQ; (repeat' split) <;> first | rfl | (exfalso; omega) | (simp [hc1] at *; done) | (simp_all; done)))
 exact jd0 Z ua60 Z dn (fun _ _ => (kcb (by rw [← hst]) k0 (kcg (by rw [← hst]) k0 kn)))
 refine jq (jr (js (jeql Z Z) (ja Z (jn (jx ?_)))))
 refine jif Z (fun hc2 => ?_) (fun hc2 => ?_)
 refine jq (jr (jm Z (jzr E127 Z Z (m7temp_ct om28 (by omega)) (dc d2 dn) (kd kn) ⟨tempQ_ok om28.1,om28.2⟩ fun m64 hm64 om64 bm64 => ?_)))
 have w64_0 : IntKind.i64.wrap (m28.nx) = m28.nx := (IntWalk.i64_in _ (by omega))
 clear bm28
 refine ja Z (jn (jx (jq (jr (jm Z (jm Z (jm Z (jm Z (jm Z (js (jbu (v := .agg #[.int .i64 ((x.Op - 2) + 5),.int .i64 m28.nx,.int .i64 0,.int .i64 (copV (ix x.Args 0) m),.int .i64 (copV (ix x.Args 1) m20),.int .i64 0,.int .i32 0,.slice none 0 0]) Z (fun _ => by kernel_rfl)) (jzb E124 Z Z (m7put_ct (i := ⟨(x.Op - 2) + 5,m28.nx,0,copV (ix x.Args 0) m,copV (ix x.Args 1) m20,0,0,[]⟩) om64 (by omega)) (dc d2 (dc (rMach.M (m := ⟨(x.Op - 2) + 5,m28.nx,0,copV (ix x.Args 0) m,copV (ix x.Args 1) m20,0,0,[]⟩) (c := (.slice none 0 0)) wN (wp (IntWalk.i64_in ((x.Op - 2) + 5) (by omega))) (wp w64_0) (wl 0) ((wfw d1)) ((wfw d0)) (wl 0) (wl 0)) dn)) (kd kn) ⟨putQ_ok om64.1,(putQ_s.trans om64.2)⟩ p0 fun m71 hm71 om71 bm71 ua71 w12 => ?_)))))))))))
 clear bm64
 refine jn (jx (jr (jm Z (js (jf F67_1 Z) (js (jl k2 O3 Z Z) (jm Z (js (jbu (v := .agg #[.int .i64 20,.int .i64 x.Dst,.int .i64 0,.int .i64 m28.nx,.int .i64 0,.int .i64 0,.int .i32 0,.slice none 0 0]) Z (fun _ => by kernel_rfl)) (jzb E124 Z Z (m7put_ct (i := ⟨20,x.Dst,0,m28.nx,0,0,0,[]⟩) om71 (by omega)) (dc d2 (dc (rMach.M (m := ⟨20,x.Dst,0,m28.nx,0,0,0,[]⟩) (c := (.slice none 0 0)) wN (wl 20) (rIns.W_Dst d3) (wl 0) (wp w64_0) (wl 0) (wl 0) (wl 0)) dn)) (kd kn) ⟨putQ_ok om71.1,(putQ_s.trans om71.2)⟩ p0 fun m77 hm77 om77 bm77 ua77 w13 => ?_))))))))
 clear bm71
 refine jn (jbn ?_)
 have hst : m77 = twoQ x m := (by (try simp only [hm20,hm26,hm28,hm64,hm71,hm77] at hc1 hc2); (try simp only [hm20,hm26,hm28,hm64,hm71,hm77]); all_goals first | rfl | (simp [twoQ,two3,opQ,hc1,hc2]; done) | (simp [twoQ,two3,opQ,hc1,hc2]; rfl) | (unfold twoQ two3 opQ; (repeat' split) <;> first | rfl | (exfalso; omega) | (simp [hc1,hc2] at *; done) | (simp_all; done)))
 exact jd0 Z ua77 Z dn (fun _ _ => (kcb (by rw [← hst]) k0 (kcg (by rw [← hst]) k0 kn)))
 refine jq (jr (js (jeql Z Z) (ja Z (jn (jx ?_)))))
 refine jif Z (fun hc3 => ?_) (fun hc3 => ?_)
 refine jq (jq (jr (js (jf F67_0 Z) (js (jl k2 O3 Z Z) (js (jeql Z Z) (jn (jx ?_)))))))
 refine jif Z (fun hc4 => ?_) (fun hc4 => ?_)
 refine jq (jr (jm Z (jzr E127 Z Z (m7temp_ct om28 (by omega)) (dc d2 dn) (kd kn) ⟨tempQ_ok om28.1,om28.2⟩ fun m84 hm84 om84 bm84 => ?_)))
 have w84_0 : IntKind.i64.wrap (m28.nx) = m28.nx := (IntWalk.i64_in _ (by omega))
 clear bm28
 refine ja Z (jn (jx (jq (jr (jm Z (jm Z (jzb E122 Z Z (m7word_ct om84 (by omega) m28.nx 0 w84_0 (by decide)) (dc d2 dn) (kd kn) ⟨wordQ_ok om84.1,(wordQ_s.trans om84.2)⟩ p0 fun m87 hm87 om87 bm87 ua87 w14 => ?_)))))))
 clear bm84
 refine jn (jx (jq (jr (jm Z (js (jf F67_1 Z) (js (jl k2 O3 Z Z) (jm Z (jm Z (jm Z (js (jbu (v := .agg #[.int .i64 23,.int .i64 x.Dst,.int .i64 0,.int .i64 (copV (ix x.Args 0) m),.int .i64 (copV (ix x.Args 1) m20),.int .i64 m28.nx,.int .i32 0,.slice none 0 0]) Z (fun _ => by kernel_rfl)) (jzb E124 Z Z (m7put_ct (i := ⟨23,x.Dst,0,copV (ix x.Args 0) m,copV (ix x.Args 1) m20,m28.nx,0,[]⟩) om87 (by omega)) (dc d2 (dc (rMach.M (m := ⟨23,x.Dst,0,copV (ix x.Args 0) m,copV (ix x.Args 1) m20,m28.nx,0,[]⟩) (c := (.slice none 0 0)) wN (wl 23) (rIns.W_Dst d3) (wl 0) ((wfw d1)) ((wfw d0)) (wp w84_0) (wl 0)) dn)) (kd kn) ⟨putQ_ok om87.1,(putQ_s.trans om87.2)⟩ p0 fun m95 hm95 om95 bm95 ua95 w15 => ?_)))))))))))
 clear bm87
 refine jn (jx (jrt (jtr (jbr ?_))))
 have hst : m95 = twoQ x m := (by (try simp only [hm20,hm26,hm28,hm84,hm87,hm95] at hc1 hc2 hc3 hc4); (try simp only [hm20,hm26,hm28,hm84,hm87,hm95]); all_goals first | rfl | (simp [twoQ,two3,opQ,hc1,hc2,hc3,hc4]; done) | (simp [twoQ,two3,opQ,hc1,hc2,hc3,hc4]; rfl) | (unfold twoQ two3 opQ; (repeat' split) <;> first | rfl | (exfalso; omega) | (simp [hc1,hc2,hc3,hc4] at *; done) | (simp_all; done)))
 exact jr0 Z ua95 Z dn (fun _ _ => (kcb (by rw [← hst]) k0 (kcg (by rw [← hst]) k0 kn)))
 refine jsk (jx (jr (jm Z (jm Z (js (jf F67_1 Z) (js (jl k2 O3 Z Z) (jm Z (jm Z (js (jbu (v := .agg #[.int .i64 ((x.Op - 2) + 5),.int .i64 x.Dst,.int .i64 0,.int .i64 (copV (ix x.Args 0) m),.int .i64 (copV (ix x.Args 1) m20),.int .i64 0,.int .i32 0,.slice none 0 0]) Z (fun _ => by kernel_rfl)) (jzb E124 Z Z (m7put_ct (i := ⟨(x.Op - 2) + 5,x.Dst,0,copV (ix x.Args 0) m,copV (ix x.Args 1) m20,0,0,[]⟩) om28 (by omega)) (dc d2 (dc (rMach.M (m := ⟨(x.Op - 2) + 5,x.Dst,0,copV (ix x.Args 0) m,copV (ix x.Args 1) m20,0,0,[]⟩) (c := (.slice none 0 0)) wN (wp (IntWalk.i64_in ((x.Op - 2) + 5) (by omega))) (rIns.W_Dst d3) (wl 0) ((wfw d1)) ((wfw d0)) (wl 0) (wl 0)) dn)) (kd kn) ⟨putQ_ok om28.1,(putQ_s.trans om28.2)⟩ p0 fun m103 hm103 om103 bm103 ua103 w16 => ?_))))))))))
 clear bm28
 refine jn (jbn ?_)
 have hst : m103 = twoQ x m := (by (try simp only [hm20,hm26,hm28,hm103] at hc1 hc2 hc3 hc4); (try simp only [hm20,hm26,hm28,hm103]); all_goals first | rfl | (simp [twoQ,two3,opQ,hc1,hc2,hc3,hc4]; done) | (simp [twoQ,two3,opQ,hc1,hc2,hc3,hc4]; rfl) | (unfold twoQ two3 opQ; (repeat' split) <;> first | rfl | (exfalso; omega) | (simp [hc1,hc2,hc3,hc4] at *; done) | (simp_all; done)))
 exact jd0 Z ua103 Z dn (fun _ _ => (kcb (by rw [← hst]) k0 (kcg (by rw [← hst]) k0 kn)))
 refine jr (jm Z (jm Z (js (jf F67_1 Z) (js (jl k2 O3 Z Z) (jm Z (jm Z (js (jbu (v := .agg #[.int .i64 ((x.Op - 2) + 5),.int .i64 x.Dst,.int .i64 0,.int .i64 (copV (ix x.Args 0) m),.int .i64 (copV (ix x.Args 1) m20),.int .i64 0,.int .i32 0,.slice none 0 0]) Z (fun _ => by kernel_rfl)) (jzb E124 Z Z (m7put_ct (i := ⟨(x.Op - 2) + 5,x.Dst,0,copV (ix x.Args 0) m,copV (ix x.Args 1) m20,0,0,[]⟩) om28 (by omega)) (dc d2 (dc (rMach.M (m := ⟨(x.Op - 2) + 5,x.Dst,0,copV (ix x.Args 0) m,copV (ix x.Args 1) m20,0,0,[]⟩) (c := (.slice none 0 0)) wN (wp (IntWalk.i64_in ((x.Op - 2) + 5) (by omega))) (rIns.W_Dst d3) (wl 0) ((wfw d1)) ((wfw d0)) (wl 0) (wl 0)) dn)) (kd kn) ⟨putQ_ok om28.1,(putQ_s.trans om28.2)⟩ p0 fun m36 hm36 om36 bm36 ua36 w17 => ?_))))))))
 clear bm28
 refine jn (jbn ?_)
 have hst : m36 = twoQ x m := (by (try simp only [hm20,hm26,hm28,hm36] at hc1 hc2 hc3); (try simp only [hm20,hm26,hm28,hm36]); all_goals first | rfl | (simp [twoQ,two3,opQ,hc1,hc2,hc3]; done) | (simp [twoQ,two3,opQ,hc1,hc2,hc3]; rfl) | (unfold twoQ two3 opQ; (repeat' split) <;> first | rfl | (exfalso; omega) | (simp [hc1,hc2,hc3] at *; done) | (simp_all; done)))
 exact jd0 Z ua36 Z dn (fun _ _ => (kcb (by rw [← hst]) k0 (kcg (by rw [← hst]) k0 kn)))
set_option maxRecDepth 4000 in
theorem m7mem_ct {vs al : Value} {m : Mq} {nb c : Nat} {S : List Int} {g0 : Nat} {B0 : Nat} (hok : okSq nb c S m) (hc : c ≤ 980000) {a1 : Value} {x : D.Ins} (hl1 : 1 ≤ x.Args.length) (hl2 : x.Op = 15 ∨ 2 ≤ x.Args.length) : KBq Tryz.prog 123 [vIns x a1] [da rIns (vIns x a1) x] g0 vs al S B0 [] m (memQ x m) (.tuple #[]) := by
 refine jenter (args := [.pointer (some ⟨g0,0,none⟩),vIns x a1]) Tryz.func123 rfl rfl rfl fun w0 X => ?_
 refine cgo k1 fun w1 => ?_
 have bd0 := okQ.bnd hok.1
 refine jq (jr (jbox Z Z fun g3 => jn (jx (jq (jr (jm Z (js (jf F67_3 Z) (js (jl k0 O22 Z Z) (jdq (rIns.c_Args d1) fun q2 w2 => js (jix (i := 0) U22 Z3 (rIns.c_Args d1) Z Z Z (by omega)) ?_)))))))))
 refine js (jlI (dix (rIns.c_Args d1) 0 (by omega)) O3 Z) (jwr (wad (dix (rIns.c_Args d1) 0 (by omega))) fun w3 => jzb E128 Z Z (m7cop_ct hok (by omega) (ix x.Args 0) w3) (dc d0 dn) (kc k1 (kc k1 kn)) ⟨copQ_ok hok.1,(copQ_s.trans hok.2)⟩ p1 fun m11 hm11 om11 bm11 ua11 w4 => ?_)
 clear bd0
 refine ja Z (jn (jx (jq (jq (jr (js (jf F67_4 Z) (js (jl k2 O21 Z Z) (js (jgeq Z Z) (jm Z (jg Z Z (.t _) (fun hg => jf F67_4 Z) (jg Z Z (.t _) (fun hg => jl k2 O21 (evg Z hg) Z) ?_)))))))))))
 refine jg Z Z (.t _) (fun hg => jleq (evg Z hg) Z) (js (jand Z Z) (jm Z (jg Z Z (.t _) (fun hg => jmv Z) (jzg Z Z (.t _) E126 Z (fun hg => evl2 (evg Z hg) Z) (m7take_ct om11 (by omega) 3 (by first | decide | omega | assumption)) (dc d1 dn) (kd kn) (by split; exact ⟨takeQ_ok om11.1,om11.2⟩; exact om11.mono (by omega)) fun m22 hm22 om22 bm22 => ?_))))
 have w22_0 : IntKind.i64.wrap (takeQV 3 m11) = takeQV 3 m11 := (IntWalk.i64_in _ (by have h9 := @takeQV_rng 3 (by omega) m11; omega))
 have tr22 := @takeQV_rng 3 (by omega) m11
 clear bm11
 refine jg Z Z (.t _) (fun hg => jgtr (evg Z hg) Z) (js (jand Z Z) (jn (jx ?_)))
 refine jif Z (fun hc1 => ?_) (fun hc1 => ?_)
 refine jq (jq (jr (js (jf F67_0 Z) (js (jl k2 O3 Z Z) (js (jeql Z Z) (jn (jx ?_)))))))
 refine jif Z (fun hc2 => ?_) (fun hc2 => ?_)
 refine jq (jr (jm Z (js (jf F67_1 Z) (js (jl k2 O3 Z Z) (jm Z (js (jf F67_4 Z) (js (jl k2 O21 Z Z) (js (jbu (v := .agg #[.int .i64 24,.int .i64 x.Dst,.int .i64 0,.int .i64 (copV (ix x.Args 0) m),.int .i64 0,.int .i64 0,.int .i32 x.Imm,.slice none 0 0]) Z (fun _ => by kernel_rfl)) (jzb E124 Z Z (m7put_ct (i := ⟨24,x.Dst,0,copV (ix x.Args 0) m,0,0,x.Imm,[]⟩) om22 (by omega)) (dc d1 (dc (rMach.M (m := ⟨24,x.Dst,0,copV (ix x.Args 0) m,0,0,x.Imm,[]⟩) (c := (.slice none 0 0)) wN (wl 24) (rIns.W_Dst d2) (wl 0) ((wfw d0)) (wl 0) (wl 0) (rIns.W_Imm d2)) dn)) (kd kn) ⟨putQ_ok om22.1,(putQ_s.trans om22.2)⟩ p0 fun m35 hm35 om35 bm35 ua35 w6 => ?_)))))))))
 clear bm22
 refine jn (jx (jrt (jtr (jtr ?_))))
 have hst : m35 = memQ x m := (by (try simp only [hm11,hm22,hm35] at hc1 hc2); (try simp only [hm11,hm22,hm35]); unfold memQ mem2Q memQ0 byteQ; by_cases h1 : 0 ≤ x.Imm <;> by_cases h2 : x.Imm ≤ 255 <;> by_cases h3 : 0 < takeQV 3 (copQ (ix x.Args 0) m) <;> by_cases h4 : x.Op = 15 <;> simp [h1,h2,h3,h4] at hc1 hc2 ⊢ <;> rfl)
 exact jr0 Z ua35 Z dn (fun _ _ => (kcb (by rw [← hst]) k0 (kcg (by rw [← hst]) k0 kn)))
 refine jsk (jx (jq (jtl 9 Mixed (by kernel_rfl) (jt (jmv Z) (jt (jmv Z) (jt (jf F67_3 Z) (jt (jl k2 O22 Z Z) (jt (jix (i := 1) U22 Z3 (rIns.c_Args d2) Z Z Z (by omega)) (jt (jlI (dix (rIns.c_Args d2) 1 (by omega)) O3 Z) (jt (jf F67_4 Z) (jt (jl k2 O21 Z Z) ?_)))))))))))
 refine jt (jbu (v := .agg #[.int .i64 26,.int .i64 0,.int .i64 0,.int .i64 (copV (ix x.Args 0) m),.int .i64 (ix x.Args 1),.int .i64 0,.int .i32 x.Imm,.slice none 0 0]) Z (fun _ => by kernel_rfl)) (jtt (jzb E124 Z Z (m7put_ct (i := ⟨26,0,0,copV (ix x.Args 0) m,ix x.Args 1,0,x.Imm,[]⟩) om22 (by omega)) (dc d1 (dc (rMach.M (m := ⟨26,0,0,copV (ix x.Args 0) m,ix x.Args 1,0,x.Imm,[]⟩) (c := (.slice none 0 0)) wN (wl 26) (wl 0) (wl 0) ((wfw d0)) (wad (dix (rIns.c_Args d2) 1 (by omega))) (wl 0) (rIns.W_Imm d2)) dn)) (kd kn) ⟨putQ_ok om22.1,(putQ_s.trans om22.2)⟩ p0 fun m45 hm45 om45 bm45 ua45 w7 => ?_))
 clear bm22
 refine jn (jx (jrt (jtr ?_)))
 have hst : m45 = memQ x m := (by (try simp only [hm11,hm22,hm45] at hc1 hc2); (try simp only [hm11,hm22,hm45]); unfold memQ mem2Q memQ0 byteQ; by_cases h1 : 0 ≤ x.Imm <;> by_cases h2 : x.Imm ≤ 255 <;> by_cases h3 : 0 < takeQV 3 (copQ (ix x.Args 0) m) <;> by_cases h4 : x.Op = 15 <;> simp [h1,h2,h3,h4] at hc1 hc2 ⊢ <;> rfl)
 exact jr0 Z ua45 Z dn (fun _ _ => (kcb (by rw [← hst]) k0 (kcg (by rw [← hst]) k0 kn)))
 refine jsk (jx (jq (jr (jm Z (jzr E127 Z Z (m7temp_ct om22 (by omega)) (dc d1 dn) (kd kn) ⟨tempQ_ok om22.1,om22.2⟩ fun m47 hm47 om47 bm47 => ?_)))))
 have w47_0 : IntKind.i64.wrap (m22.nx) = m22.nx := (IntWalk.i64_in _ (by omega))
 clear bm22
 refine ja Z (jn (jx (jq (jr (jm Z (jm Z (js (jf F67_4 Z) (js (jl k2 O21 Z Z) (jwr (rIns.W_Imm d2) fun w8 => jzb E122 Z Z (m7word_ct om47 (by omega) m22.nx x.Imm w47_0 w8) (dc d1 dn) (kd kn) ⟨wordQ_ok om47.1,(wordQ_s.trans om47.2)⟩ p0 fun m52 hm52 om52 bm52 ua52 w9 => ?_)))))))))
 clear bm47
 refine jn (jx (jq (jq (jr (js (jf F67_0 Z) (js (jl k2 O3 Z Z) (js (jeql Z Z) (jn (jx ?_)))))))))
 refine jif Z (fun hc3 => ?_) (fun hc3 => ?_)
 refine jq (jr (jm Z (js (jf F67_1 Z) (js (jl k2 O3 Z Z) (jm Z (jm Z (js (jbu (v := .agg #[.int .i64 25,.int .i64 x.Dst,.int .i64 0,.int .i64 (copV (ix x.Args 0) m),.int .i64 m22.nx,.int .i64 0,.int .i32 0,.slice none 0 0]) Z (fun _ => by kernel_rfl)) (jzb E124 Z Z (m7put_ct (i := ⟨25,x.Dst,0,copV (ix x.Args 0) m,m22.nx,0,0,[]⟩) om52 (by omega)) (dc d1 (dc (rMach.M (m := ⟨25,x.Dst,0,copV (ix x.Args 0) m,m22.nx,0,0,[]⟩) (c := (.slice none 0 0)) wN (wl 25) (rIns.W_Dst d2) (wl 0) ((wfw d0)) (wp w47_0) (wl 0) (wl 0)) dn)) (kd kn) ⟨putQ_ok om52.1,(putQ_s.trans om52.2)⟩ p0 fun m62 hm62 om62 bm62 ua62 w10 => ?_))))))))
 clear bm52
 refine jn (jx (jrt (jtr ?_)))
 have hst : m62 = memQ x m := (by (try simp only [hm11,hm22,hm47,hm52,hm62] at hc1 hc3); (try simp only [hm11,hm22,hm47,hm52,hm62]); unfold memQ mem2Q memQ0 byteQ; by_cases h1 : 0 ≤ x.Imm <;> by_cases h2 : x.Imm ≤ 255 <;> by_cases h3 : 0 < takeQV 3 (copQ (ix x.Args 0) m) <;> by_cases h4 : x.Op = 15 <;> simp [h1,h2,h3,h4] at hc1 hc3 ⊢ <;> rfl)
 exact jr0 Z ua62 Z dn (fun _ _ => (kcb (by rw [← hst]) k0 (kcg (by rw [← hst]) k0 kn)))
 refine jsk (jx (jr (jm Z (jm Z (jm Z (js (jf F67_3 Z) (js (jl k2 O22 Z Z) (js (jix (i := 1) U22 Z3 (rIns.c_Args d2) Z Z Z (by omega)) (js (jlI (dix (rIns.c_Args d2) 1 (by omega)) O3 Z) (js (jbu (v := .agg #[.int .i64 27,.int .i64 0,.int .i64 0,.int .i64 (copV (ix x.Args 0) m),.int .i64 m22.nx,.int .i64 (ix x.Args 1),.int .i32 0,.slice none 0 0]) Z (fun _ => by kernel_rfl)) (jzb E124 Z Z (m7put_ct (i := ⟨27,0,0,copV (ix x.Args 0) m,m22.nx,ix x.Args 1,0,[]⟩) om52 (by omega)) (dc d1 (dc (rMach.M (m := ⟨27,0,0,copV (ix x.Args 0) m,m22.nx,ix x.Args 1,0,[]⟩) (c := (.slice none 0 0)) wN (wl 27) (wl 0) (wl 0) ((wfw d0)) (wp w47_0) (wad (dix (rIns.c_Args d2) 1 (by omega))) (wl 0)) dn)) (kd kn) ⟨putQ_ok om52.1,(putQ_s.trans om52.2)⟩ p0 fun m71 hm71 om71 bm71 ua71 w11 => ?_)))))))))))
 clear bm52
 refine jn ?_
 have hst : m71 = memQ x m := (by (try simp only [hm11,hm22,hm47,hm52,hm71] at hc1 hc3); (try simp only [hm11,hm22,hm47,hm52,hm71]); unfold memQ mem2Q memQ0 byteQ; by_cases h1 : 0 ≤ x.Imm <;> by_cases h2 : x.Imm ≤ 255 <;> by_cases h3 : 0 < takeQV 3 (copQ (ix x.Args 0) m) <;> by_cases h4 : x.Op = 15 <;> simp [h1,h2,h3,h4] at hc1 hc3 ⊢ <;> rfl)
 exact jd0 Z ua71 Z dn (fun _ _ => (kcb (by rw [← hst]) k0 (kcg (by rw [← hst]) k0 kn)))
theorem E123 : Ent Tryz.prog 123 := ⟨_,Tryz.func123,by kernel_rfl,by kernel_rfl⟩
theorem E125 : Ent Tryz.prog 125 := ⟨_,Tryz.func125,by kernel_rfl,by kernel_rfl⟩
set_option maxRecDepth 4000 in
theorem m7ins_ct {vs al : Value} {m : Mq} {nb c : Nat} {S : List Int} {g0 : Nat} {B0 : Nat} (hok : okSq nb c S m) (hc : c ≤ 970000) {a1 : Value} {x : D.Ins} (hop : 0 ≤ x.Op ∧ x.Op ≤ 1000) (hl9 : x.Op = 1 ∨ x.Op = 17 ∨ (x.Op = 15 ∧ 1 ≤ x.Args.length) ∨ 2 ≤ x.Args.length) : KBq Tryz.prog 72 [vIns x a1] [da rIns (vIns x a1) x] g0 vs al S B0 [] m (insQ x m) (.tuple #[]) := by
 refine jenter (args := [.pointer (some ⟨g0,0,none⟩),vIns x a1]) Tryz.func72 rfl rfl rfl fun w0 X => ?_
 refine cgo k1 fun w1 => ?_
 have bd0 := okQ.bnd hok.1
 refine jq (jr (jbox Z Z fun g3 => jn (jx (jq (jr (js (jf F67_0 Z) (js (jl k0 O3 Z Z) (jn (jx (jb ?_))))))))))
 refine jq (jr (js (jeql Z Z) (ja Z (jn (jx ?_)))))
 refine jif Z (fun hc1 => ?_) (fun hc1 => ?_)
 refine jr (jm Z (js (jf F67_1 Z) (js (jl k0 O3 Z Z) (js (jf F67_4 Z) (js (jl k0 O21 Z Z) (jwr (rIns.W_Dst d1) fun w2 => jwr (rIns.W_Imm d1) fun w3 => jzb E122 Z Z (m7word_ct hok (by omega) x.Dst x.Imm w2 w3) (dc d0 dn) (kc k1 (kc k1 kn)) ⟨wordQ_ok hok.1,(wordQ_s.trans hok.2)⟩ p0 fun m16 hm16 om16 bm16 ua16 w4 => ?_))))))
 clear bd0
 refine jn (jbn ?_)
 have hst : m16 = insQ x m := (by (try simp only [hm16] at hc1); (try simp only [hm16]); all_goals first | rfl | (simp [insQ,hc1]; done) | (simp [insQ,hc1]; rfl) | (unfold insQ; (repeat' split) <;> first | rfl | (exfalso; omega) | (simp [hc1] at *; done) | (simp_all; done)))
 exact jd0 Z ua16 Z dn (fun _ _ => (kcb (by rw [← hst]) k0 (kcg (by rw [← hst]) k0 kn)))
 refine jq (jq (jr (js (jeql Z Z) (ja Z (jn (jx ?_))))))
 refine jif Z (fun hc2 => ?_) (fun hc2 => ?_)
 refine jsk (jx ?_)
 refine jif Z (fun hc3 => ?_) (fun hc3 => ?_)
 refine jr (jm Z (js (jla k0 A67 Z67 Z Z Z) (jzb E123 Z Z (m7mem_ct hok (by omega) (by first | decide | omega | assumption) (by first | decide | omega | assumption)) (dc d0 (dc d1 dn)) (kc k1 (kc k1 kn)) ⟨memQ_ok hok.1,(memQ_s.trans hok.2)⟩ p0 fun m22 hm22 om22 bm22 ua22 w5 => ?_)))
 clear bd0
 refine jn (jbn ?_)
 have hst : m22 = insQ x m := (by (try simp only [hm22] at hc1 hc2 hc3); (try simp only [hm22]); all_goals first | rfl | (simp [insQ,hc1,hc2,hc3]; done) | (simp [insQ,hc1,hc2,hc3]; rfl) | (unfold insQ; (repeat' split) <;> first | rfl | (exfalso; omega) | (simp [hc1,hc2,hc3] at *; done) | (simp_all; done)))
 exact jd0 Z ua22 Z dn (fun _ _ => (kcb (by rw [← hst]) k0 (kcg (by rw [← hst]) k0 kn)))
 exact absurd hc3 (by simp [hc1,hc2])
 refine jr (js (jeql Z Z) (ja Z (jn (jx ?_))))
 refine jif Z (fun hc4 => ?_) (fun hc4 => ?_)
 refine jr (jm Z (js (jla k0 A67 Z67 Z Z Z) (jzb E123 Z Z (m7mem_ct hok (by omega) (by first | decide | omega | assumption) (by first | decide | omega | assumption)) (dc d0 (dc d1 dn)) (kc k1 (kc k1 kn)) ⟨memQ_ok hok.1,(memQ_s.trans hok.2)⟩ p0 fun m22 hm22 om22 bm22 ua22 w6 => ?_)))
 clear bd0
 refine jn (jbn ?_)
 have hst : m22 = insQ x m := (by (try simp only [hm22] at hc1 hc2 hc4); (try simp only [hm22]); all_goals first | rfl | (simp [insQ,hc1,hc2,hc4]; done) | (simp [insQ,hc1,hc2,hc4]; rfl) | (unfold insQ; (repeat' split) <;> first | rfl | (exfalso; omega) | (simp [hc1,hc2,hc4] at *; done) | (simp_all; done)))
 exact jd0 Z ua22 Z dn (fun _ _ => (kcb (by rw [← hst]) k0 (kcg (by rw [← hst]) k0 kn)))
 refine jq (jr (js (jeql Z Z) (ja Z (jn (jx ?_)))))
 refine jif Z (fun hc5 => ?_) (fun hc5 => ?_)
 refine jany true (.a 0 (.a 1 (.a 2 (.a 3 (.a 4 (.a 6 (.a 7 (.o 5 (.o 8 (.a 9 (.o 10 .e))))))))))) Mixed (by kernel_rfl) (kc k0 kn) fun F7 => jy Z (jmv Z) (jy Z (jf F67_1 Z) (jy Z (jl k0 O3 Z Z) (jy Z (jf F67_4 Z) (jy Z (jl k0 O21 Z Z) (jy Z (jf F67_3 Z) (jy Z (jl k0 O22 Z Z) (jyo Z (jlit (r := (rI .i64)) (l := []) U22 I3 (by decide) Z Z Z ln fun g30 => jyn d0 (kc k1 kn) (jyo Z ?_)))))))))
 refine jdq (rIns.c_Args d3) fun q10 w10 => japlz U22 I3 (by decide) Z k0 Z Z (rIns.c_Args d3) (by omega) fun v33 w11 => jyn d0 (kc k1 kn) (jy Z (jbu (v := .agg #[.int .i64 28,.int .i64 x.Dst,.int .i64 0,.int .i64 0,.int .i64 0,.int .i64 0,.int .i32 x.Imm,v33]) Z (fun _ => by obtain ⟨_,_,_,rfl⟩ := w11; kernel_rfl)) (jyo Z (jfz k0 (by omega) (jzb E124 Z Z (m7put_ct (i := ⟨28,x.Dst,0,0,0,0,x.Imm,x.Args⟩) hok (by omega)) (dc d4 (dc (rMach.M (m := ⟨28,x.Dst,0,0,0,0,x.Imm,x.Args⟩) (c := v33) d0 (wl 28) (rIns.W_Dst d5) (wl 0) (wl 0) (wl 0) (wl 0) (rIns.W_Imm d5)) dn)) (kc k1 (kc k1 kn)) ⟨putQ_ok hok.1,(putQ_s.trans hok.2)⟩ p0 fun m35 hm35 om35 bm35 ua35 w14 => ?_))))
 clear bd0
 refine jyz d1 (jyd (jbn ?_))
 have hst : m35 = insQ x m := (by (try simp only [hm35] at hc1 hc2 hc4 hc5); (try simp only [hm35]); all_goals first | rfl | (simp [insQ,hc1,hc2,hc4,hc5]; done) | (simp [insQ,hc1,hc2,hc4,hc5]; rfl) | (unfold insQ; (repeat' split) <;> first | rfl | (exfalso; omega) | (simp [hc1,hc2,hc4,hc5] at *; done) | (simp_all; done)))
 exact jd0 Z ua35 Z dn (fun _ _ => (kcb (by rw [← hst]) k0 (kcg (by rw [← hst]) k0 kn)))
 refine jq (jr (js (jeql Z Z) (ja Z (jn (jx ?_)))))
 refine jif Z (fun hc6 => ?_) (fun hc6 => ?_)
 refine jtl 14 Mixed (by kernel_rfl) (jt (jmv Z) (jt (jf F67_1 Z) (jt (jl k0 O3 Z Z) (jt (jf F67_2 Z) (jt (jl k0 O3 Z Z) (jt (jf F67_3 Z) (jt (jl k0 O22 Z Z) (tdq (rIns.c_Args d1) fun q15 w15 => jt (jix (i := 0) U22 Z3 (rIns.c_Args d1) Z Z Z (by omega)) (jt (jlI (dix (rIns.c_Args d1) 0 (by omega)) O3 Z) (jt (jf F67_3 Z) ?_))))))))))
 refine jt (jl k0 O22 Z Z) (jt (jix (i := 1) U22 Z3 (rIns.c_Args d1) Z Z Z (by omega)) (jt (jlI (dix (rIns.c_Args d1) 1 (by omega)) O3 Z) (jt (jbu (v := .agg #[.int .i64 29,.int .i64 x.Dst,.int .i64 x.Two,.int .i64 (ix x.Args 0),.int .i64 (ix x.Args 1),.int .i64 0,.int .i32 0,.slice none 0 0]) Z (fun _ => by kernel_rfl)) (jtt (jzb E124 Z Z (m7put_ct (i := ⟨29,x.Dst,x.Two,ix x.Args 0,ix x.Args 1,0,0,[]⟩) hok (by omega)) (dc d0 (dc (rMach.M (m := ⟨29,x.Dst,x.Two,ix x.Args 0,ix x.Args 1,0,0,[]⟩) (c := (.slice none 0 0)) wN (wl 29) (rIns.W_Dst d1) (rIns.W_Two d1) (wad (dix (rIns.c_Args d1) 0 (by omega))) (wad (dix (rIns.c_Args d1) 1 (by omega))) (wl 0) (wl 0)) dn)) (kc k1 (kc k1 kn)) ⟨putQ_ok hok.1,(putQ_s.trans hok.2)⟩ p0 fun m52 hm52 om52 bm52 ua52 w16 => ?_)))))
 clear bd0
 refine jn (jbn ?_)
 have hst : m52 = insQ x m := (by (try simp only [hm52] at hc1 hc2 hc4 hc5 hc6); (try simp only [hm52]); all_goals first | rfl | (simp [insQ,hc1,hc2,hc4,hc5,hc6]; done) | (simp [insQ,hc1,hc2,hc4,hc5,hc6]; rfl) | (unfold insQ; (repeat' split) <;> first | rfl | (exfalso; omega) | (simp [hc1,hc2,hc4,hc5,hc6] at *; done) | (simp_all; done)))
 exact jd0 Z ua52 Z dn (fun _ _ => (kcb (by rw [← hst]) k0 (kcg (by rw [← hst]) k0 kn)))
 refine jr (jm Z (js (jla k0 A67 Z67 Z Z Z) (jzb E125 Z Z (m7two_ct hok (by omega) (by first | decide | omega | assumption) (by first | decide | omega | assumption)) (dc d0 (dc d1 dn)) (kc k1 (kc k1 kn)) ⟨twoQ_ok hok.1,(twoQ_s.trans hok.2)⟩ p0 fun m8 hm8 om8 bm8 ua8 w17 => ?_)))
 clear bd0
 refine jn (jbn ?_)
 have hst : m8 = insQ x m := (by (try simp only [hm8] at hc1 hc2 hc4 hc5 hc6); (try simp only [hm8]); all_goals first | rfl | (simp [insQ,hc1,hc2,hc4,hc5,hc6]; done) | (simp [insQ,hc1,hc2,hc4,hc5,hc6]; rfl) | (unfold insQ; (repeat' split) <;> first | rfl | (exfalso; omega) | (simp [hc1,hc2,hc4,hc5,hc6] at *; done) | (simp_all; done)))
 exact jd0 Z ua8 Z dn (fun _ _ => (kcb (by rw [← hst]) k0 (kcg (by rw [← hst]) k0 kn)))
theorem J88 : (Tryz.prog.info? 88).bind (·.zero) = some (.agg #[.int .i64 0,.int .i64 0,.int .i64 0,.slice none 0 0,.int .i32 0]) := by kernel_rfl
set_option maxRecDepth 4000 in
theorem m7end_ct {vs al : Value} {m : Mq} {nb c : Nat} {S : List Int} {g0 : Nat} {B0 : Nat} (hok : okSq nb c S m) (hc : c ≤ 970000) {a1a a1b : Value} {t : D.Term} (hT : (t.Kind ≠ 2 ∨ (1 ≤ t.Args.length ∧ 2 ≤ t.To.length)) ∧ (t.Kind ≠ 3 ∨ 1 ≤ t.Args.length)) : KEq Tryz.prog 73 [vTerm t (a1a,a1b)] [da rTerm (vTerm t (a1a,a1b)) t] g0 vs al S B0 rEnd vEnd (endV t m) m (endQ t m) := by
 refine jenter (args := [.pointer (some ⟨g0,0,none⟩),vTerm t (a1a,a1b)]) Tryz.func73 rfl rfl rfl fun w0 X => ?_
 refine cgo k1 fun w1 => ?_
 have bd0 := okQ.bnd hok.1
 refine jq (jr (jbox Z Z fun g3 => jalc J88 Z fun g4 => jn (jx (jq ?_))))
 refine jjo (u2 fun (g9 : Nat) (v9 : Value) => ⟨IntKind.i32.wrap t.Imm = t.Imm ∧ t.To.length < 1073741824,[dv (rL (rI .i64)) vs S,da rTerm (vTerm t (a1a,a1b)) t],[bx g9 88 [.int .i64 0,.int .i64 0,.int .i64 0,v9,.int .i32 t.Imm],gl X.n (rI .i64) 3 v9 t.To,bx g4 88 [.int .i64 0,.int .i64 0,.int .i64 0,.slice none 0 0,.int .i32 0],bx g3 60 [.int .i64 t.Kind,a1a,a1b,.int .i32 t.Imm],bx g0 139 [vs,.int .i64 m.k,.int .i64 m.nx,al],gl B0 rMach 24 al m.l],[(0,.pointer (some ⟨g0,0,none⟩)),(3,.pointer (some ⟨g3,0,none⟩)),(4,.pointer (some ⟨g4,0,none⟩)),(5,.pointer (some ⟨g9,0,none⟩))]⟩) ?_ ?_
 refine jany false (.a 1 (.a 2 (.a 4 (.a 5 (.w 0 7 (.w 3 7 (.a 6 (.o 7 (.o 8 .e))) (.o 3 (.a 6 (.o 8 .e)))) (.o 0 (.o 3 (.a 6 (.o 8 .e))))))))) Mixed (by kernel_rfl) (kc k1 kn) fun F3 => jy Z (jf F60_2 Z) (jy Z (jl k0 O22 Z Z) (jy Z (jf F60_3 Z) (jy Z (jl k0 O21 Z Z) ?_)))
 refine jyw Z Z ?_ ?_
 refine jlit (r := (rI .i64)) (l := []) U22 I3 (by decide) Z Z Z ln fun g8 => jyn d0 (kc k2 kn) ?_
 refine jyw Z Z ?_ ?_
 refine jdq (rTerm.c_To d3) fun q6 w6 => japlz U22 I3 (by decide) Z k0 Z Z (rTerm.c_To d3) (by omega) fun v11 w7 => jyn d0 (kc k2 kn) (jy Z (jbu (v := .agg #[.int .i64 0,.int .i64 0,.int .i64 0,v11,.int .i32 t.Imm]) Z (fun _ => by obtain ⟨_,_,_,rfl⟩ := w7; kernel_rfl)) (jyo Z (jalc J88 Z fun g5 => jyn d0 (kc k3 kn) (jyo Z (jsta k0 Z88 Z Z Z ⟨Z,Z,Z,w7.one,Z,trivial⟩ (saf Z) (jyn d0 (kc k3 kn) (jyd (qwr (rTerm.W_Imm d5) fun w10 => ?_))))))))
 exact jje (g5,v11) ⟨w10,by omega⟩ (dc d4 (dc d5 dn)) (kd (kd (kd kn))) ⟨Z,Z,Z,Z,trivial⟩
 refine jalc J88 Z fun g5 => jyn d0 (kc k3 kn) (jyo Z (jdq (rTerm.c_To d4) fun q7 w7 => japlz U22 I3 (by decide) Z k1 Z Z (rTerm.c_To d4) (by omega) fun v11 w8 => jyn d0 (kc k3 kn) (jy Z (jbu (v := .agg #[.int .i64 0,.int .i64 0,.int .i64 0,v11,.int .i32 t.Imm]) Z (fun _ => by obtain ⟨_,_,_,rfl⟩ := w8; kernel_rfl)) (jyo Z (jsta k1 Z88 Z Z Z ⟨Z,Z,Z,w8.one,Z,trivial⟩ (saf Z) (jyn d0 (kc k3 kn) (jyd (qwr (rTerm.W_Imm d5) fun w10 => ?_))))))))
 exact jje (g5,v11) ⟨w10,by omega⟩ (dc d4 (dc d5 dn)) (kd (kd (kd kn))) ⟨Z,Z,Z,Z,trivial⟩
 refine jalc J88 Z fun g5 => jyn d0 (kc k2 kn) (jyo Z (jlit (r := (rI .i64)) (l := []) U22 I3 (by decide) Z Z Z ln fun g8 => jyn d0 (kc k3 kn) (jyo Z (jdq (rTerm.c_To d4) fun q7 w7 => japlz U22 I3 (by decide) Z k0 Z Z (rTerm.c_To d4) (by omega) fun v11 w8 => jyn d0 (kc k3 kn) (jy Z (jbu (v := .agg #[.int .i64 0,.int .i64 0,.int .i64 0,v11,.int .i32 t.Imm]) Z (fun _ => by obtain ⟨_,_,_,rfl⟩ := w8; kernel_rfl)) (jyo Z (jsta k1 Z88 Z Z Z ⟨Z,Z,Z,w8.one,Z,trivial⟩ (saf Z) ?_)))))))
 refine jyn d0 (kc k3 kn) (jyd (qwr (rTerm.W_Imm d5) fun w10 => ?_))
 exact jje (g5,v11) ⟨w10,by omega⟩ (dc d4 (dc d5 dn)) (kd (kd (kd kn))) ⟨Z,Z,Z,Z,trivial⟩
 rintro ⟨g9,v9⟩; dsimp only [u2]; rintro ⟨ww9,ln9⟩
 refine qgo k1 fun w11 => jx (jq (jq (jr (js (jf F60_0 Z) (js (jl k3 O3 Z Z) (jn (jx (jb (jq (jr ?_))))))))))
 refine js (jeql Z Z) (ja Z (jn (jx ?_)))
 refine jif Z (fun hc1 => ?_) (fun hc1 => ?_)
 refine jr (js (jf F88_0 Z) (jst k0 Z3 Z Z Z s0 (jn (jbn (jx (jq (jr (js (jla k0 A88 Z88 Z Z Z) (jsta k2 Z88 Z Z Z ⟨Z,Z,Z,w11.one,Z,trivial⟩ (saf Z) (jn (jx ?_)))))))))))
 refine jrt (qfz k2 (by omega) ?_)
 have hv0 : endV t m = (⟨1,0,0,t.To,t.Imm⟩) := (by all_goals first | rfl | ((first | unfold endV | unfold endQ); (repeat' split) <;> first | rfl | (exfalso; omega) | (simp_all; done)))
 have hst : m = endQ t m := (by all_goals first | rfl | ((first | unfold endV | unfold endQ); (repeat' split) <;> first | rfl | (exfalso; omega) | (simp_all; done)))
 exact jrc Z Z k0 A88 Z88 (al,v9) (by rw [hv0] <;> rfl) (dc (dacv vEnd hv0 (rEnd.M (m := ⟨1,0,0,t.To,t.Imm⟩) (c := v9) d0 (wl 1) (wl 0) (wl 0) (wp ww9))) dn) (fun _ _ => (kcb (by rw [← hst]) k3 (kcg (by rw [← hst]) k3 kn)))
 refine jq (jr (js (jeql Z Z) (ja Z (jn (jx ?_)))))
 refine jif Z (fun hc2 => ?_) (fun hc2 => ?_)
 refine jq (jr (js (jf F88_0 Z) (jst k0 Z3 Z Z Z s0 (jn (jx (jq (jr (js (jf F60_1 Z) (js (jl k3 O22 Z Z) (jdq (rTerm.c_Args d1) fun q13 w13 => js (jix (i := 0) U22 Z3 (rTerm.c_Args d1) Z Z Z (by omega)) ?_))))))))))
 refine js (jlI (dix (rTerm.c_Args d1) 0 (by omega)) O3 Z) (js (jf F88_1 Z) (jst k0 Z3 Z Z Z s1 (jn (jx (jq (jr (jm Z (jzr E126 Z Z (m7take_ct hok (by omega) 4 (by first | decide | omega | assumption)) (dc d0 dn) (kc k4 (kc k4 kn)) ⟨takeQ_ok hok.1,hok.2⟩ fun m30 hm30 om30 bm30 => ?_))))))))
 have w30_0 : IntKind.i64.wrap (takeQV 4 m) = takeQV 4 m := (IntWalk.i64_in _ (by have h9 := @takeQV_rng 4 (by omega) m; omega))
 have tr30 := @takeQV_rng 4 (by omega) m
 clear bd0
 refine ja Z (jn (jx (jq (jq (jr (jm Z (js (jgtr Z Z) (jn (jx ?_)))))))))
 refine jif Z (fun hc3 => ?_) (fun hc3 => ?_)
 refine jq (jr (js (jla k2 A88 Z88 Z Z Z) (jsta k4 Z88 Z Z Z ⟨Z,Z,Z,w11.one,Z,trivial⟩ (saf Z) (jn (jx (jrt (jtr (jbr (jtr (qfz k4 (by omega) ?_))))))))))
 have hv0 : endV t m = (⟨2,ix t.Args 0,0,t.To,t.Imm⟩) := (by (try simp only [hm30] at hc1 hc2 hc3); (try simp only [hm30]); all_goals first | rfl | ((first | unfold endV | unfold endQ); (repeat' split) <;> first | rfl | (exfalso; omega) | (simp_all; done)))
 have hst : m30 = endQ t m := (by (try simp only [hm30] at hc1 hc2 hc3); (try simp only [hm30]); all_goals first | rfl | ((first | unfold endV | unfold endQ); (repeat' split) <;> first | rfl | (exfalso; omega) | (simp_all; done)))
 exact jrc Z Z k0 A88 Z88 (al,v9) (by rw [hv0] <;> rfl) (dc (dacv vEnd hv0 (rEnd.M (m := ⟨2,ix t.Args 0,0,t.To,t.Imm⟩) (c := v9) d0 (wl 2) (wad (dix (rTerm.c_Args d2) 0 (by omega))) (wl 0) (wp ww9))) dn) (fun _ _ => (kcb (by rw [← hst]) k1 (kcg (by rw [← hst]) k1 kn)))
 refine jsk (jx (jq (jr (jm Z (jzr E127 Z Z (m7temp_ct om30 (by omega)) (dc d0 dn) (kd kn) ⟨tempQ_ok om30.1,om30.2⟩ fun m35 hm35 om35 bm35 => ?_)))))
 have w35_0 : IntKind.i64.wrap (m30.nx) = m30.nx := (IntWalk.i64_in _ (by omega))
 clear bm30
 refine ja Z (jn (jx (jq (jr (jm Z (jm Z (jzb E122 Z Z (m7word_ct om35 (by omega) m30.nx 0 w35_0 (by decide)) (dc d0 dn) (kd kn) ⟨wordQ_ok om35.1,(wordQ_s.trans om35.2)⟩ p0 fun m38 hm38 om38 bm38 ua38 w15 => ?_)))))))
 clear bm35
 refine jn (jx (jq (jr (js (jf F88_0 Z) (jst k2 Z3 Z Z Z s0 (jn (jx (jq (jr (jm Z (js (jf F88_1 Z) ?_)))))))))))
 refine jst k0 Z3 Z Z Z s1 (jn (jx (jq (jr (js (jf F60_1 Z) (js (jl k5 O22 Z Z) (js (jix (i := 0) U22 Z3 (rTerm.c_Args d1) Z Z Z (by omega)) (js (jlI (dix (rTerm.c_Args d1) 0 (by omega)) O3 Z) (js (jf F88_2 Z) (jst k0 Z3 Z Z Z s2 (jn ?_)))))))))))
 refine jx (jq (jr (jm Z (js (jeql Z Z) (jn (jx ?_))))))
 refine jif Z (fun hc4 => ?_) (fun hc4 => ?_)
 refine jq (jr (js (jf F88_0 Z) (jst k0 Z3 Z Z Z s0 (jn (jx (jany true (.a 0 (.a 1 (.a 2 (.a 3 (.a 4 (.a 5 (.a 6 (.a 7 (.o 8 (.a 9 (.o 10 .e))))))))))) Mixed (by kernel_rfl) (kc k5 kn) fun F16 => jy Z (jf F60_2 Z) (jy Z (jl k0 O22 Z Z) (adq (rTerm.c_To d1) fun q17 w17 => jy Z (jix (i := 1) U22 Z3 (rTerm.c_To d1) Z Z Z (by omega)) (jy Z (jlI (dix (rTerm.c_To d1) 1 (by omega)) O3 Z) ?_)))))))))
 refine jy Z (jf F60_2 Z) (jy Z (jl k0 O22 Z Z) (jy Z (jix (i := 0) U22 Z3 (rTerm.c_To d1) Z Z Z (by omega)) (jy Z (jlI (dix (rTerm.c_To d1) 0 (by omega)) O3 Z) (jyo Z (jlit (r := (rI .i64)) (l := [ix t.To 1,ix t.To 0]) U22 I3 (by decide) Z Z Z (lV Z Z (wI (wad (dix (rTerm.c_To d2) 1 (by omega)))) (lV Z Z (wI (wad (dix (rTerm.c_To d2) 0 (by omega)))) ln)) fun g58 => jyn d0 (kc k6 kn) (jy Z (jf F88_3 Z) (jyo Z (jst k1 Z22 Z Z Z s3 (jyz d0 (jyd ?_))))))))))
 refine jbn (jx (jq (jr (js (jla k0 A88 Z88 Z Z Z) (jsta k5 Z88 Z Z Z ⟨Z,Z,Z,Z,Z,trivial⟩ (saf Z) (jn (jx (jrt (qfz k2 (by (try simp) <;> omega) ?_)))))))))
 have hv0 : endV t m = (⟨3,m30.nx,ix t.Args 0,[ix t.To 1,ix t.To 0],t.Imm⟩) := (by (try simp only [hm30,hm35,hm38] at hc1 hc2 hc3 hc4); (try simp only [hm30,hm35,hm38]); all_goals first | rfl | ((first | unfold endV | unfold endQ); (repeat' split) <;> first | rfl | (exfalso; omega) | (simp_all; done)))
 have hst : m38 = endQ t m := (by (try simp only [hm30,hm35,hm38] at hc1 hc2 hc3 hc4); (try simp only [hm30,hm35,hm38]); all_goals first | rfl | ((first | unfold endV | unfold endQ); (repeat' split) <;> first | rfl | (exfalso; omega) | (simp_all; done)))
 exact jrc Z Z k0 A88 Z88 (ua38,(.slice (some ⟨g58,0,none⟩) 2 2)) (by rw [hv0] <;> rfl) (dc (dacv vEnd hv0 (rEnd.M (m := ⟨3,m30.nx,ix t.Args 0,[ix t.To 1,ix t.To 0],t.Imm⟩) (c := (.slice (some ⟨g58,0,none⟩) 2 2)) d0 (wl 3) (wp w35_0) (wad (dix (rTerm.c_Args d4) 0 (by omega))) (wp ww9))) dn) (fun _ _ => (kcb (by rw [← hst]) k2 (kcg (by rw [← hst]) k2 kn)))
 refine jsk (jbn (jx (jq (jr (js (jla k0 A88 Z88 Z Z Z) (jsta k4 Z88 Z Z Z ⟨Z,Z,Z,w11.one,Z,trivial⟩ (saf Z) (jn (jx (jrt (qfz k4 (by omega) ?_))))))))))
 have hv0 : endV t m = (⟨5,m30.nx,ix t.Args 0,t.To,t.Imm⟩) := (by (try simp only [hm30,hm35,hm38] at hc1 hc2 hc3 hc4); (try simp only [hm30,hm35,hm38]); all_goals first | rfl | ((first | unfold endV | unfold endQ); (repeat' split) <;> first | rfl | (exfalso; omega) | (simp_all; done)))
 have hst : m38 = endQ t m := (by (try simp only [hm30,hm35,hm38] at hc1 hc2 hc3 hc4); (try simp only [hm30,hm35,hm38]); all_goals first | rfl | ((first | unfold endV | unfold endQ); (repeat' split) <;> first | rfl | (exfalso; omega) | (simp_all; done)))
 exact jrc Z Z k0 A88 Z88 (ua38,v9) (by rw [hv0] <;> rfl) (dc (dacv vEnd hv0 (rEnd.M (m := ⟨5,m30.nx,ix t.Args 0,t.To,t.Imm⟩) (c := v9) d0 (wl 5) (wp w35_0) (wad (dix (rTerm.c_Args d2) 0 (by omega))) (wp ww9))) dn) (fun _ _ => (kcb (by rw [← hst]) k2 (kcg (by rw [← hst]) k2 kn)))
 refine jq (jr (js (jeql Z Z) (ja Z (jn (jx ?_)))))
 refine jif Z (fun hc5 => ?_) (fun hc5 => ?_)
 refine jq (jr (js (jf F88_0 Z) (jst k0 Z3 Z Z Z s0 (jn (jx (jr (js (jf F60_1 Z) (js (jl k3 O22 Z Z) (jdq (rTerm.c_Args d1) fun q22 w22 => js (jix (i := 0) U22 Z3 (rTerm.c_Args d1) Z Z Z (by omega)) (js (jlI (dix (rTerm.c_Args d1) 0 (by omega)) O3 Z) ?_))))))))))
 refine js (jf F88_1 Z) (jst k0 Z3 Z Z Z s1 (jn (jbn (jx (jq (jr (js (jla k0 A88 Z88 Z Z Z) (jsta k2 Z88 Z Z Z ⟨Z,Z,Z,w11.one,Z,trivial⟩ (saf Z) (jn (jx (jrt ?_)))))))))))
 refine qfz k2 (by omega) ?_
 have hv0 : endV t m = (⟨6,ix t.Args 0,0,t.To,t.Imm⟩) := (by all_goals first | rfl | ((first | unfold endV | unfold endQ); (repeat' split) <;> first | rfl | (exfalso; omega) | (simp_all; done)))
 have hst : m = endQ t m := (by all_goals first | rfl | ((first | unfold endV | unfold endQ); (repeat' split) <;> first | rfl | (exfalso; omega) | (simp_all; done)))
 exact jrc Z Z k0 A88 Z88 (al,v9) (by rw [hv0] <;> rfl) (dc (dacv vEnd hv0 (rEnd.M (m := ⟨6,ix t.Args 0,0,t.To,t.Imm⟩) (c := v9) d0 (wl 6) (wad (dix (rTerm.c_Args d2) 0 (by omega))) (wl 0) (wp ww9))) dn) (fun _ _ => (kcb (by rw [← hst]) k3 (kcg (by rw [← hst]) k3 kn)))
 refine jq (jr (js (jeql Z Z) (ja Z (jn (jx ?_)))))
 refine jif Z (fun hc6 => ?_) (fun hc6 => ?_)
 refine jq (jr (js (jf F88_0 Z) (jst k0 Z3 Z Z Z s0 (jn (jx (jq (jr (js (jf F88_1 Z) (jst k0 Z3 Z Z Z s1 (jn (jx ?_)))))))))))
 refine jq (jr (js (jf F60_1 Z) (js (jl k3 O22 Z Z) (jdq (rTerm.c_Args d1) fun q24 w24 => js (jln U22 (rTerm.c_Args d1) Z) (js (jgtr Z Z) (jn (jx ?_)))))))
 refine jif Z (fun hc7 => ?_) (fun hc7 => ?_)
 refine jr (jm Z (js (jf F60_1 Z) (js (jl k3 O22 Z Z) (js (jix (i := 0) U22 Z3 (rTerm.c_Args d1) Z Z Z (by omega)) (js (jlI (dix (rTerm.c_Args d1) 0 (by omega)) O3 Z) (jwr (wad (dix (rTerm.c_Args d1) 0 (by omega))) fun w25 => jzb E128 Z Z (m7cop_ct hok (by omega) (ix t.Args 0) w25) (dc d0 dn) (kc k4 (kc k4 kn)) ⟨copQ_ok hok.1,(copQ_s.trans hok.2)⟩ p1 fun m81 hm81 om81 bm81 ua81 w26 => ?_))))))
 clear bd0
 refine js (jf F88_1 Z) (jst k2 Z3 Z Z Z s1 (jn (jbn (jx (jq (jr (js (jla k0 A88 Z88 Z Z Z) (jsta k4 Z88 Z Z Z ⟨Z,Z,Z,w11.one,Z,trivial⟩ (saf Z) (jn (jx (jrt ?_)))))))))))
 refine qfz k4 (by omega) ?_
 have hv0 : endV t m = (⟨7,copV (ix t.Args 0) m,0,t.To,t.Imm⟩) := (by (try simp only [hm81] at hc1 hc2 hc5 hc6 hc7); (try simp only [hm81]); all_goals first | rfl | ((first | unfold endV | unfold endQ); (repeat' split) <;> first | rfl | (exfalso; omega) | (simp_all; done)))
 have hst : m81 = endQ t m := (by (try simp only [hm81] at hc1 hc2 hc5 hc6 hc7); (try simp only [hm81]); all_goals first | rfl | ((first | unfold endV | unfold endQ); (repeat' split) <;> first | rfl | (exfalso; omega) | (simp_all; done)))
 exact jrc Z Z k0 A88 Z88 (ua81,v9) (by rw [hv0] <;> rfl) (dc (dacv vEnd hv0 (rEnd.M (m := ⟨7,copV (ix t.Args 0) m,0,t.To,t.Imm⟩) (c := v9) d0 (wl 7) ((wfw d1)) (wl 0) (wp ww9))) dn) (fun _ _ => (kcb (by rw [← hst]) k2 (kcg (by rw [← hst]) k2 kn)))
 refine jsk (jbn (jx (jq (jr (js (jla k0 A88 Z88 Z Z Z) (jsta k2 Z88 Z Z Z ⟨Z,Z,Z,w11.one,Z,trivial⟩ (saf Z) (jn (jx (jrt (qfz k2 (by omega) ?_))))))))))
 have hv0 : endV t m = (⟨7,(-1),0,t.To,t.Imm⟩) := (by all_goals first | rfl | ((first | unfold endV | unfold endQ); (repeat' split) <;> first | rfl | (exfalso; omega) | (simp_all; done)))
 have hst : m = endQ t m := (by all_goals first | rfl | ((first | unfold endV | unfold endQ); (repeat' split) <;> first | rfl | (exfalso; omega) | (simp_all; done)))
 exact jrc Z Z k0 A88 Z88 (al,v9) (by rw [hv0] <;> rfl) (dc (dacv vEnd hv0 (rEnd.M (m := ⟨7,(-1),0,t.To,t.Imm⟩) (c := v9) d0 (wl 7) (wl (-1)) (wl 0) (wp ww9))) dn) (fun _ _ => (kcb (by rw [← hst]) k3 (kcg (by rw [← hst]) k3 kn)))
 refine jr (js (jf F88_0 Z) (jst k0 Z3 Z Z Z s0 (jn (jbn (jx (jq (jr (js (jla k0 A88 Z88 Z Z Z) (jsta k2 Z88 Z Z Z ⟨Z,Z,Z,w11.one,Z,trivial⟩ (saf Z) (jn (jx ?_)))))))))))
 refine jrt (qfz k2 (by omega) ?_)
 have hv0 : endV t m = (⟨8,0,0,t.To,t.Imm⟩) := (by all_goals first | rfl | ((first | unfold endV | unfold endQ); (repeat' split) <;> first | rfl | (exfalso; omega) | (simp_all; done)))
 have hst : m = endQ t m := (by all_goals first | rfl | ((first | unfold endV | unfold endQ); (repeat' split) <;> first | rfl | (exfalso; omega) | (simp_all; done)))
 exact jrc Z Z k0 A88 Z88 (al,v9) (by rw [hv0] <;> rfl) (dc (dacv vEnd hv0 (rEnd.M (m := ⟨8,0,0,t.To,t.Imm⟩) (c := v9) d0 (wl 8) (wl 0) (wl 0) (wp ww9))) dn) (fun _ _ => (kcb (by rw [← hst]) k3 (kcg (by rw [← hst]) k3 kn)))
end Go.Proofs.YtmfkkodnghambaaGreat
