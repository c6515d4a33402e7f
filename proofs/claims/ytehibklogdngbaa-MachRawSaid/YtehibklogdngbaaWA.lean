/- Walks. Conditions: each contract names its own. -/
import Derived.Test.YtehibklogdngbaaW9
namespace Go.Proofs.Ytehibklogdngbaa
set_option linter.unusedVariables false
set_option linter.unusedSimpArgs false
set_option linter.unusedSectionVars false
open Go.JE

theorem Try.ent80 : Ent Try.prog 80 := ⟨_, Try.func80, by kernel_rfl, by kernel_rfl⟩
theorem Try.ent81 : Ent Try.prog 81 := ⟨_, Try.func81, by kernel_rfl, by kernel_rfl⟩
theorem Try.ent82 : Ent Try.prog 82 := ⟨_, Try.func82, by kernel_rfl, by kernel_rfl⟩
theorem Try.ent83 : Ent Try.prog 83 := ⟨_, Try.func83, by kernel_rfl, by kernel_rfl⟩
theorem Try.fld70_0 : Fld Try.prog 70 0 0 := ⟨_, _, Try.underlying70, rfl, rfl, 1, (by unfold Sz; kernel_rfl), by decide⟩
theorem Try.fld70_1 : Fld Try.prog 70 1 1 := ⟨_, _, Try.underlying70, rfl, rfl, 1, (by unfold Sz; kernel_rfl), by decide⟩
theorem Try.fld82_1 : Fld Try.prog 82 1 1 := ⟨_, _, Try.underlying82, rfl, rfl, 1, (by unfold Sz; kernel_rfl), by decide⟩
theorem Try.one68 : One Try.prog 68 := ⟨_, Try.underlying68, rfl⟩
theorem regM_append : ∀ (a b : List Int), regM (a ++ b) = (regM a && regM b)
  | [], b => rfl
  | x :: a, b => by simp only [List.cons_append, regM]; split <;> simp [regM_append a b]
theorem regM_vals : ∀ (l : List D.In), regM (l.map (·.Val)) = !anyM l (fun x => !regM [x.Val])
  | [] => rfl
  | x :: l => by
    have ih := regM_vals l
    unfold anyM at ih ⊢
    rw [List.map_cons, show x.Val :: l.map (·.Val) = [x.Val] ++ l.map (·.Val) from rfl, regM_append, ih, List.any_cons, Bool.not_or, Bool.not_not]
theorem regM_phi (d : Int) (l : List D.In) : regM (d :: l.map (·.Val)) = (regM [d] && !anyM l (fun x => !regM [x.Val])) := by
  rw [show d :: l.map (·.Val) = [d] ++ l.map (·.Val) from rfl, regM_append, regM_vals]
theorem phi_lo {p : D.Phi} {lo : List Int} {j : Nat} (hlo : lo = p.Dst :: (p.In.take j).map (·.Val)) (hj : p.In.length ≤ j) : regM lo = (regM [p.Dst] && !anyM p.In (fun x => !regM [x.Val])) := by
  rw [hlo, List.take_of_length_le hj, regM_phi]
theorem phiE_bad {p : D.Phi} {lo : List Int} {j : Nat} {ah : List D.Phi} (hlo : lo = p.Dst :: (p.In.take j).map (·.Val)) (hj : p.In.length ≤ j) (h : regM lo = false) : phiE p ah = 31 := by
  rw [phi_lo hlo hj, Bool.and_eq_false_iff] at h
  unfold phiE; rw [if_pos (by rcases h with h | h; (· exact .inl h); exact .inr (by simpa using h))]
theorem phiE_good {p : D.Phi} {lo : List Int} {j : Nat} {ah : List D.Phi} (hlo : lo = p.Dst :: (p.In.take j).map (·.Val)) (hj : p.In.length ≤ j) (h : regM lo = true) : phiE p ah = if anyM ah (fun x => decide (x.Dst = p.Dst)) = true then 12 else 0 := by
  rw [phi_lo hlo hj, Bool.and_eq_true] at h
  unfold phiE; rw [if_neg (by rw [h.1]; simpa using h.2)]
theorem phiE_hit {p : D.Phi} {lo : List Int} {j : Nat} {ah : List D.Phi} (hlo : lo = p.Dst :: (p.In.take j).map (·.Val)) (hj : p.In.length ≤ j) (h : regM lo = true) (h2 : anyM ah (fun x => decide (x.Dst = p.Dst)) = true) : phiE p ah = 12 := by
  rw [phiE_good hlo hj h, if_pos h2]
theorem phiE_ok {p : D.Phi} {lo : List Int} {j : Nat} {ah : List D.Phi} (hlo : lo = p.Dst :: (p.In.take j).map (·.Val)) (hj : p.In.length ≤ j) (h : regM lo = true) (h2 : anyM ah (fun x => decide (x.Dst = p.Dst)) = false) : phiE p ah = 0 := by
  rw [phiE_good hlo hj h, if_neg (by rw [h2]; decide)]
theorem any_hit {α : Type} [Inhabited α] {l : List α} {q : α → Bool} {k : Nat} (hk : k < l.length) (h1 : q (ix l k) = true) : anyM l q = true := List.any_eq_true.2 ⟨_, ix_mem hk, h1⟩
theorem any_no {α : Type} {l : List α} {q : α → Bool} (h : ∀ x ∈ l, q x = false) : anyM l q = false := by unfold anyM; rw [List.any_eq_false]; intro x hx; simp [h x hx]

-- jacquard/mach.phi$1: function 81
theorem pPhi1_ct {F : PH} {H : Heap} (hin : InH F H) {a0 : Value} {x : D.In} (p0 : rIn.ra F a0 x) :
    Ct Try.prog 81 #[a0] H (fun v H' => v = .bool ((fun x : D.In => !regM [x.Val]) x) ∧ Kp H.size H H') := by
  have p0k := rIn.any p0
  obtain rfl := rIn.open p0
  have hkp := Kp.refl H.size H
  have hx := PH.ext.refl (H := H) F
  refine Ct.enter (args := [.agg #[.int .i64 x.From, .int .i64 x.Val]]) Try.func81 rfl rfl rfl (fun w0 hw0 => ?_)
  refine CF.seq (CF.region ?_)
  refine LF.chg (OpCh.boxB rfl rfl) ?_
  rintro _ H1 ⟨g1, rfl, eg1, sg1, kg1, hb1⟩
  have ng1 := hin.nope (Nat.le_of_eq eg1.symm)
  have lg1 := hkp.1
  have zkg1 := kg1.1
  replace hin := hin.kp kg1
  replace hkp := hkp.trans (kg1.mono hkp.1)
  clear kg1
  refine LF.step (OpOk.assign rfl) (LF.nil (PF.next (CF.seq (CF.region ?_))))
  refine LF.step (OpOk.fieldAddr (Try.fld82_1) rfl) ?_
  refine LF.step (OpOk.ldBx hb1 Try.one3 rfl rfl) ?_
  refine LF.chg (OpCh.litL (F := F) (r := (rI .i64)) (l := [x.Val]) (us := [.int .i64 x.Val]) (cs := [[.int .i64 x.Val]]) Try.underlying38 Try.info3 (by decide) rfl rfl rfl ⟨rfl, rfl, ⟨rfl, (rIn.w_Val (m := x) p0k)⟩, trivial⟩) ?_
  rintro _ H5 ⟨g5, rfl, e5, s5, k5, x5⟩
  have l5 := hkp.1
  replace x5 := (x5 hin).base l5
  have zk5 := k5.1
  replace hin := hin.kp k5
  replace hkp := hkp.trans (k5.mono hkp.1)
  replace hb1 := hb1.kp k5
  refine LF.call (OpCall.fn Try.ent79 rfl rfl) (x5.temp 1073741824 hin (by first | (simp only [List.length_append, List.length_take, List.length_drop, List.length_nil, List.length_cons, List.length_set, List.length_replicate]; omega) | (simp; done) | (simp; omega) | omega) (fun G1 lg1 hin1 hr1 => pRegs_ct hin1 hr1)) ?_
  rintro _ H6 ⟨rfl, k6⟩
  have zk6 := k6.1
  replace hin := hin.kp k6
  replace hkp := hkp.trans (k6.mono hkp.1)
  replace hb1 := hb1.kp k6
  replace x5 := x5.kp k6
  refine LF.step (OpOk.not rfl) ?_
  refine LF.step (OpOk.assign rfl) (LF.nil (PF.next (CF.ret ?_)))
  have hm : (fun x : D.In => !regM [x.Val]) x = (!(regM ([x.Val]))) := by
    rfl
  exact PF.ret1 rfl rfl ⟨by rw [hm] <;> rfl, hkp⟩

-- jacquard/mach.phi$2: function 83
theorem pPhi2_ct {F : PH} {H : Heap} (hin : InH F H) {a0 : Value} {x : D.Phi} (p0 : rPhi.ra F a0 x) {d : Int} {c : Value} {g1 : Nat} (hb1 : Bx H g1 70 [.int .i64 d, c]) :
    Ct Try.prog 83 #[a0, .pointer (some ⟨g1, 0, none⟩)] H (fun v H' => v = .bool ((fun (d : Int) (x : D.Phi) => decide (x.Dst = d)) d x) ∧ Kp H.size H H') := by
  have p0k := rPhi.any p0
  obtain ⟨a0c1, rfl, p0c1⟩ := rPhi.open p0
  have p0c1q := rL.len2 p0c1
  have lt1 := hb1.lt
  have hkp := Kp.refl H.size H
  have hx := PH.ext.refl (H := H) F
  refine Ct.enter (args := [.agg #[.int .i64 x.Dst, a0c1], .pointer (some ⟨g1, 0, none⟩)]) Try.func83 rfl rfl rfl (fun w0 hw0 => ?_)
  refine CF.seq (CF.region ?_)
  refine LF.chg (OpCh.boxB rfl rfl) ?_
  rintro _ H2 ⟨g2, rfl, eg2, sg2, kg2, hb2⟩
  have ng2 := hin.nope (Nat.le_of_eq eg2.symm)
  have lg2 := hkp.1
  have nb2_1 : g1 ≠ g2 := by have := hb1.lt; omega
  have zkg2 := kg2.1
  replace hin := hin.kp kg2
  replace hkp := hkp.trans (kg2.mono hkp.1)
  replace hb1 := hb1.kp kg2
  clear kg2
  refine LF.step (OpOk.assign rfl) (LF.nil (PF.next (CF.seq (CF.region ?_))))
  refine LF.step (OpOk.fieldAddr (Try.fld70_0) rfl) ?_
  refine LF.step (OpOk.ldBx hb2 Try.one3 rfl rfl) ?_
  refine LF.step (OpOk.fieldAddr (Try.fld70_0) rfl) ?_
  refine LF.step (OpOk.ldBx hb1 Try.one3 rfl rfl) ?_
  refine LF.step (OpOk.eql rfl rfl) ?_
  refine LF.step (OpOk.assign rfl) (LF.nil (PF.next (CF.ret ?_)))
  have hm : (fun (d : Int) (x : D.Phi) => decide (x.Dst = d)) d x = (decide (x.Dst = d)) := by
    rfl
  exact PF.ret1 rfl rfl ⟨by rw [hm] <;> rfl, hkp⟩

-- jacquard/mach.phi: function 56
theorem pPhi_ct {F : PH} {H : Heap} (hin : InH F H) {a0 : Value} {p : D.Phi} (p0 : rPhi.ra F a0 p) {a1 : Value} {ahead : List D.Phi} (p1 : (rL rPhi).rv F a1 ahead) :
    Ct Try.prog 56 #[a0, a1] H (fun v H' => v = .int .i64 (phiE p ahead) ∧ Kp H.size H H') := by
  have p0k := rPhi.any p0
  obtain ⟨a0c1, rfl, p0c1⟩ := rPhi.open p0
  have p0c1q := rL.len2 p0c1
  have q1 := rL.len2 p1
  have hkp := Kp.refl H.size H
  have hx := PH.ext.refl (H := H) F
  refine Ct.enter (args := [.agg #[.int .i64 p.Dst, a0c1], a1]) Try.func56 rfl rfl rfl (fun w0 hw0 => ?_)
  refine CF.seq (CF.region ?_)
  refine LF.chg (OpCh.boxB rfl rfl) ?_
  rintro _ H2 ⟨g2, rfl, eg2, sg2, kg2, hb2⟩
  have ng2 := hin.nope (Nat.le_of_eq eg2.symm)
  have lg2 := hkp.1
  have zkg2 := kg2.1
  replace hin := hin.kp kg2
  replace hkp := hkp.trans (kg2.mono hkp.1)
  clear kg2
  refine LF.step (OpOk.assign rfl) (LF.nil (PF.next (CF.seq (CF.seq (CF.region ?_)))))
  refine LF.step (OpOk.fieldAddr (Try.fld70_0) rfl) ?_
  refine LF.step (OpOk.ldBx hb2 Try.one3 rfl rfl) ?_
  refine LF.chg (OpCh.litL (F := F) (r := (rI .i64)) (l := [p.Dst]) (us := [.int .i64 p.Dst]) (cs := [[.int .i64 p.Dst]]) Try.underlying38 Try.info3 (by decide) rfl rfl rfl ⟨rfl, rfl, ⟨rfl, (rPhi.w_Dst (m := p) p0k)⟩, trivial⟩) ?_
  rintro _ H7 ⟨g7, rfl, e7, s7, k7, x7⟩
  have l7 := hkp.1
  replace x7 := (x7 hin).base l7
  have zk7 := k7.1
  replace hin := hin.kp k7
  replace hkp := hkp.trans (k7.mono hkp.1)
  replace hb2 := hb2.kp k7
  refine LF.call (OpCall.fn Try.ent79 rfl rfl) (x7.temp 1073741824 hin (by first | (simp only [List.length_append, List.length_take, List.length_drop, List.length_nil, List.length_cons, List.length_set, List.length_replicate]; omega) | (simp; done) | (simp; omega) | omega) (fun G1 lg1 hin1 hr1 => pRegs_ct hin1 hr1)) ?_
  rintro _ H8 ⟨rfl, k8⟩
  have zk8 := k8.1
  replace hin := hin.kp k8
  replace hkp := hkp.trans (k8.mono hkp.1)
  replace hb2 := hb2.kp k8
  replace x7 := x7.kp k8
  refine LF.step (OpOk.not rfl) ?_
  refine LF.step (OpOk.move rfl) ?_
  refine LF.gstep rfl rfl (.f _) (fun hg => OpOk.fieldAddr (Try.fld70_1) rfl) ?_
  refine LF.gstep rfl rfl (.f _) (fun hg => OpOk.ldBx hb2 Try.one68 (evg rfl hg) rfl) ?_
  refine LF.gcallR rfl rfl (.f _) (fun hg => OpCall.fn Try.ent80 rfl (evl2 (evg rfl hg) rfl)) (fun hg => anyFIn_ct hin p0c1 81 [] Try.ent81 (fun x : D.In => !regM [x.Val]) (fun H' hin' _ x _ u hu => pPhi1_ct hin' hu)) (fun _ _ h => h.1) ?_
  intro Hq1 zq1
  have kq1 := gkp2 zq1
  have zkq1 := kq1.1
  replace hin := hin.kp kq1
  replace hkp := hkp.trans (kq1.mono hkp.1)
  replace hb2 := hb2.kp kq1
  replace x7 := x7.kp kq1
  clear zq1
  refine LF.step (OpOk.pickOr rfl rfl) ?_
  refine LF.nil (PF.next ?_)
  refine CF.if rfl (fun hc1 => ?_) (fun hc1 => ?_)
  refine CF.seq (CF.region (LF.step (OpOk.assign rfl) (LF.nil (PF.next (CF.ret (PF.thenRet ?_))))))
  have hm : phiE p ahead = 31 := by
    unfold phiE; simp [*]; done
  exact PF.ret1 rfl rfl ⟨by rw [hm] <;> rfl, hkp⟩
  refine CF.skip (PF.next (CF.seq (CF.seq (CF.region (LF.step (OpOk.move rfl) ?_)))))
  refine LF.step (OpOk.makeFunc1 rfl) ?_
  refine LF.call (OpCall.fn Try.ent82 rfl rfl) (anyFPhi_ct hin p1 83 [.pointer (some ⟨g2, 0, none⟩)] Try.ent83 (fun x : D.Phi => decide (x.Dst = p.Dst)) (fun H' hin' k9 x _ u hu => pPhi2_ct hin' hu (hb2.kp k9))) ?_
  rintro _ H17 ⟨rfl, k17⟩
  have zk17 := k17.1
  replace hin := hin.kp k17
  replace hkp := hkp.trans (k17.mono hkp.1)
  replace hb2 := hb2.kp k17
  replace x7 := x7.kp k17
  refine LF.nil (PF.next ?_)
  refine CF.if rfl (fun hc2 => ?_) (fun hc2 => ?_)
  refine CF.seq (CF.region (LF.step (OpOk.assign rfl) (LF.nil (PF.next (CF.ret (PF.thenRet ?_))))))
  have hm : phiE p ahead = 12 := by
    unfold phiE; simp [*]; done
  exact PF.ret1 rfl rfl ⟨by rw [hm] <;> rfl, hkp⟩
  refine CF.skip (PF.next (CF.seq (CF.region (LF.step (OpOk.assign rfl) (LF.nil (PF.next (CF.ret ?_)))))))
  have hm : phiE p ahead = 0 := by
    unfold phiE; simp [*]; done
  exact PF.ret1 rfl rfl ⟨by rw [hm] <;> rfl, hkp⟩

theorem ix_take {α : Type} [Inhabited α] {l : List α} {i n : Nat} (h : i < n) : ix (l.take n) i = ix l i := by simp [ix, List.getD, h]

def rPhiM (l : List D.Phi) (n : Int) : Int := phiE (ix l (Int.toNat n)) (l.take (Int.toNat n))
-- jacquard/jacquardref07.phi: function 92
set_option maxRecDepth 4000 in
theorem rPhi_ct {F : PH} {H : Heap} (hin : InH F H) {a0 : Value} {l : List D.Phi} (p0 : (rL rPhi).rv F a0 l) (n : Int) (hn : 0 ≤ n ∧ n < l.length) :
    Ct Try.prog 92 #[a0, .int .i64 n] H (fun v H' => v = .int .i64 (rPhiM l n) ∧ Kp H.size H H') := by
  have q0 := rL.len2 p0
  have hkp := Kp.refl H.size H
  have hx := PH.ext.refl (H := H) F
  refine Ct.enter (args := [a0, .int .i64 n]) Try.func92 rfl rfl rfl (fun w0 hw0 => ?_)
  refine CF.seq (CF.region (LF.step (OpOk.assign rfl) (LF.nil (PF.next (CF.seq (CF.region (LF.step (OpOk.move rfl) (LF.step (OpOk.move rfl) ?_))))))))
  refine LF.step (OpOk.idxL (i := (Int.toNat n)) Try.underlying58 Try.sz70 p0 rfl rfl (by omega) (by omega)) ?_
  refine LF.step (OpOk.fieldAddr (Try.fld70_0) rfl) ?_
  refine LF.step (OpOk.ldI hin (rPhi.at_Dst (rL.ix p0 (Int.toNat n) (by omega))) Try.one3 rfl) ?_
  refine LF.chg (OpCh.litL (F := F) (r := (rI .i64)) (l := [(ix l (Int.toNat n)).Dst]) (us := [.int .i64 ((ix l (Int.toNat n)).Dst)]) (cs := [[.int .i64 ((ix l (Int.toNat n)).Dst)]]) Try.underlying38 Try.info3 (by decide) rfl rfl rfl ⟨rfl, rfl, ⟨rfl, (At.wr (rPhi.at_Dst (rL.ix p0 (Int.toNat n) (by omega))))⟩, trivial⟩) ?_
  rintro _ H13 ⟨g13, rfl, e13, s13, k13, x13⟩
  have l13 := hkp.1
  replace x13 := (x13 hin).base l13
  have zk13 := k13.1
  replace hin := hin.kp k13
  replace hkp := hkp.trans (k13.mono hkp.1)
  refine LF.step (OpOk.assign rfl) (LF.nil (PF.next (CF.seq (CF.seq (CF.region (LF.step (OpOk.assign rfl) (LF.nil (PF.next (CF.block ?_)))))))))
  refine CF.loop (ι := Nat × Value × List Int) (fun z9 H1 => z9.1 ≤ (ix l (Int.toNat n)).In.length ∧ z9.2.2 = (ix l (Int.toNat n)).Dst :: ((ix l (Int.toNat n)).In.take z9.1).map (·.Val) ∧ InH F H1 ∧ Kp H.size H H1 ∧ Gl (rI .i64) 3 F H1 H.size z9.2.1 z9.2.2) (fun z9 => [(0, a0), (1, .int .i64 n), (4, .int .i64 0), (5, z9.2.1), (6, .int .i64 (↑z9.1))]) (fun z9 => (ix l (Int.toNat n)).In.length - z9.1) (0, .slice (some ⟨g13, 0, none⟩) 1 1, [(ix l (Int.toNat n)).Dst]) ⟨by dsimp only; omega, rfl, hin, hkp, x13⟩ ⟨rfl, rfl, rfl, rfl, eqI (by omega), trivial⟩ ?_
  clear hin hkp x13
  rintro ⟨j, vo, lo⟩ H1 ⟨hj, hlo, hin, hkp, x13⟩
  dsimp only at hj hlo x13 ⊢
  have hll : lo.length = j + 1 := by rw [hlo]; simp; omega
  refine CF.seq (CF.seq (CF.region (LF.step (OpOk.move rfl) (LF.step (OpOk.move rfl) (LF.step (OpOk.move rfl) ?_)))))
  refine LF.step (OpOk.idxL (i := (Int.toNat n)) Try.underlying58 Try.sz70 p0 rfl rfl (by omega) (by omega)) ?_
  refine LF.step (OpOk.fieldAddr (Try.fld70_1) rfl) ?_
  refine LF.stepE (OpOk.ldV hin (rPhi.at_In (rL.ix p0 (Int.toNat n) (by omega))) Try.one68 rfl rfl) ?_
  intro v19 h19
  have h19q := rL.len2 h19
  refine LF.step (OpOk.lenL Try.underlying68 h19 rfl) ?_
  refine LF.step (OpOk.lss rfl rfl) ?_
  refine LF.nil (PF.next ?_)
  refine CF.if rfl (fun hc1 => ?_) (fun hc1 => ?_)
  refine CF.skip (PF.next (CF.seq (CF.block (CF.region (LF.step (OpOk.move rfl) (LF.step (OpOk.move rfl) (LF.step (OpOk.move rfl) ?_)))))))
  refine LF.step (OpOk.idxL (i := (Int.toNat n)) Try.underlying58 Try.sz70 p0 rfl rfl (by omega) (by omega)) ?_
  refine LF.step (OpOk.fieldAddr (Try.fld70_1) rfl) ?_
  refine LF.stepE (OpOk.ldV hin (rPhi.at_In (rL.ix p0 (Int.toNat n) (by omega))) Try.one68 rfl rfl) ?_
  intro v29 h29
  have h29q := rL.len2 h29
  refine LF.step (OpOk.move rfl) ?_
  refine LF.step (OpOk.idxL (i := j) Try.underlying68 Try.sz82 h29 rfl rfl rfl (by omega)) ?_
  refine LF.step (OpOk.fieldAddr (Try.fld82_1) rfl) ?_
  refine LF.step (OpOk.ldI hin (rIn.at_Val (rL.ix h29 j (by omega))) Try.one3 rfl) ?_
  refine LF.appV (r := (rI .i64)) (a := (ix ((ix l (Int.toNat n)).In) j).Val) Try.underlying38 Try.info3 (by decide) rfl rfl rfl ⟨rfl, (At.wr (rIn.at_Val (rL.ix h29 j (by omega))))⟩ x13 hin (by first | (simp only [List.length_append, List.length_take, List.length_drop, List.length_nil, List.length_cons, List.length_set, List.length_replicate]; omega) | (simp; done) | (simp; omega) | omega) rfl ?_ hkp.1
  intro v35 H35 x35 gb35 nn35 ob35
  replace hin := hin.grown gb35 x13.no
  replace hkp := gb35.kp hkp (Nat.le_refl _) (fun k0 hk0 => (x13.blk k0 hk0).1)
  refine LF.step (OpOk.assign rfl) (LF.nil (PF.blockNormal (PF.next (CF.region (LF.step (OpOk.move rfl) ?_)))))
  refine LF.step (OpOk.add rfl rfl (by omega)) ?_
  refine LF.step (OpOk.assign rfl) (LF.nil ?_)
  exact PF.again (j + 1, v35, lo ++ [(ix ((ix l (Int.toNat n)).In) j).Val]) ⟨by dsimp only; omega, by dsimp only; rw [hlo, take_ix (by omega), List.map_append]; rfl, hin, hkp, x35⟩ ⟨rfl, rfl, rfl, rfl, eqI (by omega), trivial⟩ (by omega)
  refine CF.exit (PF.thenExit (PF.thenExit (PF.blockHere (PF.next (CF.seq (CF.seq (CF.region (LF.step (OpOk.move rfl) ?_))))))))
  refine LF.call (OpCall.fn Try.ent101 rfl rfl) (x13.temp 4294967296 hin (by first | (simp only [List.length_append, List.length_take, List.length_drop, List.length_nil, List.length_cons, List.length_set, List.length_replicate]; omega) | (simp; done) | (simp; omega) | omega) (fun G1 lg1 hin1 hr1 => rReg_ct hin1 hr1)) ?_
  rintro _ _ ⟨rfl, rfl⟩
  refine LF.step (OpOk.not rfl) ?_
  refine LF.nil (PF.next ?_)
  refine CF.if rfl (fun hc2 => ?_) (fun hc2 => ?_)
  refine CF.seq (CF.region (LF.step (OpOk.assign rfl) (LF.nil (PF.next (CF.ret (PF.thenRet ?_))))))
  have hm : rPhiM l n = 31 := by
    first | exact phiE_bad hlo (by omega) hc2 | exact phiE_hit hlo (by omega) hc2 (any_hit (k := i) (by simp; omega) (by rw [ix_take (by omega)]; exact decide_eq_true hc4)) | exact phiE_ok hlo (by omega) hc2 (any_no (by rw [List.take_of_length_le (by simp; omega)] at hno; exact hno))
  exact PF.ret1 rfl rfl ⟨by rw [hm] <;> rfl, hkp⟩
  refine CF.skip (PF.next (CF.seq (CF.seq (CF.region (LF.step (OpOk.assign rfl) (LF.nil (PF.next (CF.block ?_))))))))
  refine CF.loop (ι := Nat) (fun i H1 => (i : Int) ≤ n ∧ (∀ x ∈ (l.take (Int.toNat n)).take i, decide (x.Dst = (ix l (Int.toNat n)).Dst) = false) ∧ InH F H1 ∧ Kp H.size H H1 ∧ Gl (rI .i64) 3 F H1 H.size vo lo) (fun i => [(0, a0), (1, .int .i64 n), (7, .int .i64 (↑i))]) (fun i => (Int.toNat n) - i) 0 ⟨by omega, by simp, hin, hkp, x13⟩ ⟨rfl, rfl, eqI (by omega), trivial⟩ ?_
  clear hin hkp x13
  rintro i H1 ⟨hi, hno, hin, hkp, x13⟩
  refine CF.seq (CF.seq (CF.region (LF.step (OpOk.move rfl) (LF.step (OpOk.move rfl) ?_))))
  refine LF.step (OpOk.lss rfl rfl) ?_
  refine LF.nil (PF.next ?_)
  refine CF.if rfl (fun hc3 => ?_) (fun hc3 => ?_)
  refine CF.skip (PF.next (CF.seq (CF.block (CF.seq ?_))))
  refine CF.still Try.mixed (by kernel_rfl) ?_
  refine LS.step (OpOk.move rfl) (LS.step (OpOk.move rfl) ?_)
  refine LS.step (OpOk.idxL (i := i) Try.underlying58 Try.sz70 p0 rfl rfl rfl (by omega)) ?_
  refine LS.step (OpOk.fieldAddr (Try.fld70_0) rfl) ?_
  refine LS.step (OpOk.ldI hin (rPhi.at_Dst (rL.ix p0 i (by omega))) Try.one3 rfl) ?_
  refine LS.step (OpOk.move rfl) (LS.step (OpOk.move rfl) ?_)
  refine LS.step (OpOk.idxL (i := (Int.toNat n)) Try.underlying58 Try.sz70 p0 rfl rfl (by omega) (by omega)) ?_
  refine LS.step (OpOk.fieldAddr (Try.fld70_0) rfl) ?_
  refine LS.step (OpOk.ldI hin (rPhi.at_Dst (rL.ix p0 (Int.toNat n) (by omega))) Try.one3 rfl) ?_
  refine LS.step (OpOk.eql rfl rfl) ?_
  refine LS.done ?_
  refine PF.next ?_
  refine CF.if rfl (fun hc4 => ?_) (fun hc4 => ?_)
  refine CF.seq (CF.region (LF.step (OpOk.assign rfl) (LF.nil (PF.next (CF.ret (PF.blockRet (PF.thenRet (PF.thenRet (PF.blockRet (PF.thenRet ?_))))))))))
  have hm : rPhiM l n = 12 := by
    first | exact phiE_bad hlo (by omega) hc2 | exact phiE_hit hlo (by omega) hc2 (any_hit (k := i) (by simp; omega) (by rw [ix_take (by omega)]; exact decide_eq_true hc4)) | exact phiE_ok hlo (by omega) hc2 (any_no (by rw [List.take_of_length_le (by simp; omega)] at hno; exact hno))
  exact PF.ret1 rfl rfl ⟨by rw [hm] <;> rfl, hkp⟩
  refine CF.skip (PF.blockNormal (PF.next (CF.region (LF.step (OpOk.move rfl) ?_))))
  refine LF.step (OpOk.add rfl rfl (by omega)) ?_
  refine LF.step (OpOk.assign rfl) (LF.nil ?_)
  exact PF.again (i + 1) ⟨by omega, no_snoc (by simp; omega) hno (by rw [ix_take (by omega)]; exact decide_eq_false hc4), hin, hkp, x13⟩ ⟨rfl, rfl, eqI (by omega), trivial⟩ (by omega)
  refine CF.exit (PF.thenExit (PF.thenExit (PF.blockHere (PF.next (CF.seq (CF.region (LF.step (OpOk.assign rfl) (LF.nil (PF.next (CF.ret ?_))))))))))
  have hm : rPhiM l n = 0 := by
    first | exact phiE_bad hlo (by omega) hc2 | exact phiE_hit hlo (by omega) hc2 (any_hit (k := i) (by simp; omega) (by rw [ix_take (by omega)]; exact decide_eq_true hc4)) | exact phiE_ok hlo (by omega) hc2 (any_no (by rw [List.take_of_length_le (by simp; omega)] at hno; exact hno))
  exact PF.ret1 rfl rfl ⟨by rw [hm] <;> rfl, hkp⟩

end Go.Proofs.Ytehibklogdngbaa
