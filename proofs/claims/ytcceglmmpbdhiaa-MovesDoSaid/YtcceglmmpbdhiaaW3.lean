/- Walks. Conditions: each contract names its own. -/
import Derived.Test.YtcceglmmpbdhiaaW2
namespace Go.Proofs.Ytcceglmmpbdhiaa
set_option linter.unusedVariables false
set_option linter.unusedSimpArgs false
set_option linter.unusedSectionVars false
set_option maxRecDepth 8000
open Go.JE

theorem Try.ent27 : Ent Try.prog 27 := ⟨_, Try.func27, by kernel_rfl, by kernel_rfl⟩
theorem Try.ent43 : Ent Try.prog 43 := ⟨_, Try.func43, by kernel_rfl, by kernel_rfl⟩
theorem Try.ent44 : Ent Try.prog 44 := ⟨_, Try.func44, by kernel_rfl, by kernel_rfl⟩
theorem Try.ent45 : Ent Try.prog 45 := ⟨_, Try.func45, by kernel_rfl, by kernel_rfl⟩
theorem Try.ent46 : Ent Try.prog 46 := ⟨_, Try.func46, by kernel_rfl, by kernel_rfl⟩
theorem Try.ent48 : Ent Try.prog 48 := ⟨_, Try.func48, by kernel_rfl, by kernel_rfl⟩
theorem Try.fld39_0 : Fld Try.prog 39 0 0 := ⟨_, _, Try.underlying39, rfl, rfl, 1, (by unfold Sz; kernel_rfl), by decide⟩
theorem Try.fld39_1 : Fld Try.prog 39 1 1 := ⟨_, _, Try.underlying39, rfl, rfl, 1, (by unfold Sz; kernel_rfl), by decide⟩
theorem Try.fld39_3 : Fld Try.prog 39 3 3 := ⟨_, _, Try.underlying39, rfl, rfl, 1, (by unfold Sz; kernel_rfl), by decide⟩
theorem Try.fld39_4 : Fld Try.prog 39 4 4 := ⟨_, _, Try.underlying39, rfl, rfl, 1, (by unfold Sz; kernel_rfl), by decide⟩
theorem Try.fld39_6 : Fld Try.prog 39 6 6 := ⟨_, _, Try.underlying39, rfl, rfl, 1, (by unfold Sz; kernel_rfl), by decide⟩
theorem Try.info31 : (Try.prog.info? 31).map (fun i => (i.zero, i.size, i.bytes)) = some (some (.agg #[.int .i64 0, .int .i64 0]), 2, 16) := by kernel_rfl
theorem Try.sz3 : Sz Try.prog 3 1 := by unfold Sz; kernel_rfl
-- jacquard/jacquardref11.Do: function 24
theorem rDo_ct {F : PH} {H : Heap} (hin : InH F H) {a0 : Value} {l : List D.Mach} {N0 : Nat} (p0 : (rLn N0 (rMachN N0)).rv F a0 l) {a1 : Value} {places : List Int} (p1 : (rL (rI .i32)).rv F a1 places) :
    Ct Try.prog 24 #[a0, a1] H (fun v H' => Gl (rI .i32) 21 F H' H.size v (doM l places) ∧ Kp H.size H H') := by
  have q0 := rL.len2 p0
  have q1 := rL.len2 p1
  have hkp := Kp.refl H.size H
  have hx := PH.ext.refl (H := H) F
  refine Ct.enter (args := [a0, a1]) Try.func24 rfl rfl rfl (fun w0 hw0 => ?_)
  refine CF.seq (CF.region (LF.step (OpOk.assign rfl) (LF.nil (PF.next (CF.seq (CF.region ?_))))))
  refine LF.chg (OpCh.litL (F := F) (r := (rI .i32)) (l := []) (us := []) (cs := []) Try.underlying44 Try.info21 (by decide) rfl rfl rfl trivial) ?_
  rintro _ H10 ⟨g10, rfl, e10, s10, k10, x10⟩
  have l10 := hkp.1
  replace x10 := (x10 hin).base l10
  have zk10 := k10.1
  replace hin := hin.kp k10
  replace hkp := hkp.trans (k10.mono hkp.1)
  refine LF.step (OpOk.move rfl) ?_
  refine LF.chg (OpCh.appL (r := (rI .i32)) Try.underlying44 Try.info21 (by decide) rfl rfl rfl x10 p1 hin (by first | (simp only [List.length_append, List.length_take, List.length_drop, List.length_nil, List.length_cons, List.length_set, List.length_replicate]; omega) | (simp; done) | (simp; omega) | omega) (by first | omega | exact hkp.1)) ?_
  rintro v12 H12 ⟨x12, gb12, ob12⟩
  replace hin := hin.grown gb12 x10.no
  replace hkp := gb12.kp hkp (Nat.le_refl _) (fun k0 hk0 => (x10.blk k0 hk0).1)
  rw [List.nil_append] at x12
  refine LF.step (OpOk.assign rfl) (LF.nil (PF.next (CF.seq (CF.seq (CF.region (LF.step (OpOk.assign rfl) (LF.nil (PF.next (CF.block ?_)))))))))
  refine CF.loop (ι := Nat × List Int) (fun z9 H1 => z9.1 ≤ l.length ∧ doM l places = doM (l.drop z9.1) z9.2 ∧ z9.2.length = places.length ∧ InH F H1 ∧ Kp H.size H H1 ∧ Gl (rI .i32) 21 F H1 H.size v12 z9.2) (fun z9 => [(0, a0), (4, .slice none 0 0), (5, v12), (6, .int .i64 (↑z9.1))]) (fun z9 => l.length - z9.1) (0, places) ⟨by dsimp only; omega, rfl, rfl, hin, hkp, x12⟩ ⟨rfl, rfl, rfl, eqI (by omega), trivial⟩ ?_
  clear hin hkp x12
  rintro ⟨k, o⟩ H1 ⟨hk, hR, hl9, hin, hkp, x12⟩
  dsimp only at hk hR hl9 x12 ⊢
  refine CF.seq (CF.seq (CF.region (LF.step (OpOk.move rfl) (LF.step (OpOk.move rfl) ?_))))
  refine LF.step (OpOk.lenL Try.underlying34 p0 rfl) ?_
  refine LF.step (OpOk.lss rfl rfl) ?_
  refine LF.nil (PF.next ?_)
  refine CF.if rfl (fun hc1 => ?_) (fun hc1 => ?_)
  refine CF.skip (PF.next (CF.seq (CF.block (CF.seq (CF.region (LF.step (OpOk.move rfl) (LF.step (OpOk.move rfl) ?_)))))))
  refine LF.step (OpOk.idxL (i := k) Try.underlying34 Try.sz39 p0 rfl rfl rfl (by omega)) ?_
  refine LF.stepE (OpOk.ldA hin (rL.ix p0 k (by omega)) Try.agg39 Try.sz39 rfl) ?_
  intro v22 h22
  have h22k := rMach.any h22
  obtain ⟨v22c7, rfl, h22c7⟩ := rMach.open h22
  have h22c7q := rL.len2 h22c7
  refine LF.chg (OpCh.allocB Try.zero39 rfl) ?_
  rintro _ H7 ⟨g7, rfl, eg7, sg7, kg7, hb7⟩
  have ng7 := hin.nope (Nat.le_of_eq eg7.symm)
  have lg7 := hkp.1
  have zkg7 := kg7.1
  replace hin := hin.kp kg7
  replace hkp := hkp.trans (kg7.mono hkp.1)
  replace x12 := x12.kp kg7
  clear kg7
  refine LF.chg0 (OpCh.storeBA hb7 Try.sz39 rfl rfl rfl (allOne.mem (l := [.int .i64 ((ix l k).Op), .int .i64 ((ix l k).D), .int .i64 ((ix l k).E), .int .i64 ((ix l k).A), .int .i64 ((ix l k).B), .int .i64 ((ix l k).C), .int .i32 ((ix l k).Imm), v22c7]) ⟨rfl, rfl, rfl, rfl, rfl, rfl, rfl, (h22c7.one1), trivial⟩) (by decide)) ?_
  rintro _ Hw1 ⟨tw1, bw1⟩
  have ztw1 := tw1.1
  replace hin := hin.tw tw1 ng7
  replace hkp := Tw.kp' hkp tw1 (by omega)
  replace x12 := x12.tw tw1 (x12.neBx hb7 (by decide))
  replace hb7 : Bx _ _ _ [.int .i64 ((ix l k).Op), .int .i64 ((ix l k).D), .int .i64 ((ix l k).E), .int .i64 ((ix l k).A), .int .i64 ((ix l k).B), .int .i64 ((ix l k).C), .int .i32 ((ix l k).Imm), v22c7] := bw1
  clear bw1 tw1
  refine LF.nil (PF.next (CF.seq (CF.region ?_)))
  refine LF.step (OpOk.fieldAddr (Try.fld39_0) rfl) ?_
  refine LF.step (OpOk.ldBx hb7 Try.one3 rfl rfl) ?_
  refine LF.nil (PF.next (CF.block (CF.seq (CF.region ?_))))
  refine LF.step (OpOk.eql rfl rfl) ?_
  refine LF.step (OpOk.assign rfl) (LF.nil (PF.next ?_))
  refine CF.if rfl (fun hc2 => ?_) (fun hc2 => ?_)
  refine CF.any (z := false) (fun H' => InH F H' ∧ Bx H' g7 39 [.int .i64 ((ix l k).Op), .int .i64 ((ix l k).D), .int .i64 ((ix l k).E), .int .i64 ((ix l k).A), .int .i64 ((ix l k).B), .int .i64 ((ix l k).C), .int .i32 ((ix l k).Imm), v22c7] ∧ True) Try.mixed ?_
  refine AF.take 0 rfl (by kernel_rfl) (by kernel_rfl) (by kernel_rfl) ⟨hin, hb7, trivial⟩ (fun _ ⟨hin, hb7, _⟩ => OpOk.move rfl) ?_
  refine AF.take 1 rfl (by kernel_rfl) (by kernel_rfl) (by kernel_rfl) ⟨hin, hb7, trivial⟩ (fun _ ⟨hin, hb7, _⟩ => OpOk.fieldAddr (Try.fld39_1) rfl) ?_
  refine AF.take 2 rfl (by kernel_rfl) (by kernel_rfl) (by kernel_rfl) ⟨hin, hb7, trivial⟩ (fun _ ⟨hin, hb7, _⟩ => OpOk.ldBx hb7 Try.one3 rfl rfl) ?_
  refine AF.take 4 rfl (by kernel_rfl) (by kernel_rfl) (by kernel_rfl) ⟨hin, hb7, trivial⟩ (fun _ ⟨hin, hb7, _⟩ => OpOk.move rfl) ?_
  refine AF.take 5 rfl (by kernel_rfl) (by kernel_rfl) (by kernel_rfl) ⟨hin, hb7, trivial⟩ (fun _ ⟨hin, hb7, _⟩ => OpOk.fieldAddr (Try.fld39_3) rfl) ?_
  refine AF.take 6 rfl (by kernel_rfl) (by kernel_rfl) (by kernel_rfl) ⟨hin, hb7, trivial⟩ (fun _ ⟨hin, hb7, _⟩ => OpOk.ldBx hb7 Try.one3 rfl rfl) ?_
  refine AF.call 3 rfl (by kernel_rfl) (OpCall.fn Try.ent46 rfl rfl) (rReg_ct hin ((ix l k).D)) (by rintro _ _ ⟨_, rfl⟩; exact ⟨hin, hb7, trivial⟩) ?_
  rintro _ _ ⟨rfl, rfl⟩
  refine AF.call 7 rfl (by kernel_rfl) (OpCall.fn Try.ent46 rfl rfl) (rReg_ct hin ((ix l k).A)) (by rintro _ _ ⟨_, rfl⟩; exact ⟨hin, hb7, trivial⟩) ?_
  rintro _ _ ⟨rfl, rfl⟩
  refine AF.call 8 rfl (by kernel_rfl) (OpCall.fn Try.ent47 rfl rfl) (x12.temp 1073741824 hin (by first | (simp only [List.length_append, List.length_take, List.length_drop, List.length_nil, List.length_cons, List.length_set, List.length_replicate]; omega) | (simp; done) | (simp; omega) | omega) (fun G1 lg1 hin1 hr1 => rAt_ct hin1 hr1 (regR ((ix l k).A)))) (by rintro _ _ ⟨_, rfl⟩; exact ⟨hin, hb7, trivial⟩) ?_
  rintro _ _ ⟨rfl, rfl⟩
  have w35_0 : IntKind.i32.wrap (atM o (regR ((ix l k).A))) = atM o (regR ((ix l k).A)) := atM_wrG x12 _
  refine AF.one 9 (by kernel_rfl) ?_
  refine AFN.call rfl (OpCall.fn Try.ent45 rfl rfl) (rPut_ct hin x12 (regR ((ix l k).D)) (atM o (regR ((ix l k).A))) (by first | omega | (simp only [putM_len]; omega)) w35_0) ?_
  rintro _ H36 ⟨rfl, k36, x36_0⟩
  have zk36 := k36.1
  replace hin := hin.kw k36 (by intro k0 hk0; exact x12.no k0 hk0)
  replace hb7 := hb7.kw k36 (x12.neBx hb7 (by decide))
  replace hkp := hkp.kw k36 (by intro k0 hk0; exact x12.ge k0 hk0)
  replace x12 := x36_0
  refine ⟨⟨hin, hb7, trivial⟩, ?_⟩
  refine AF.done (by kernel_rfl) ?_
  refine PF.blockNormal (PF.blockNormal (PF.next (CF.region (LF.step (OpOk.move rfl) ?_))))
  refine LF.step (OpOk.add rfl rfl (by omega)) ?_
  refine LF.step (OpOk.assign rfl) (LF.nil ?_)
  exact PF.again (k + 1, putM o (regR ((ix l k).D)) (atM o (regR ((ix l k).A)))) ⟨by dsimp only; omega, by dsimp only; rw [hR, drop_ix (by omega), doM]; congr 1; unfold doM1; (repeat rw [if_neg (by omega)]) <;> (try rw [if_pos (by omega)]) <;> (try simp only [at_regP, put_regP]), by dsimp only; (try simp only [putM_len]); exact hl9, hin, hkp, x12⟩ ⟨rfl, rfl, rfl, eqI (by omega), trivial⟩ (by omega)
  refine CF.seq (CF.region ?_)
  refine LF.step (OpOk.eql rfl rfl) ?_
  refine LF.step (OpOk.assign rfl) (LF.nil (PF.next ?_))
  refine CF.if rfl (fun hc3 => ?_) (fun hc3 => ?_)
  refine CF.seq (CF.region (LF.step (OpOk.move rfl) ?_))
  refine LF.step (OpOk.fieldAddr (Try.fld39_3) rfl) ?_
  refine LF.step (OpOk.ldBx hb7 Try.one3 rfl rfl) ?_
  refine LF.call (OpCall.fn Try.ent46 rfl rfl) (rReg_ct hin ((ix l k).A)) ?_
  rintro _ _ ⟨rfl, rfl⟩
  refine LF.call (OpCall.fn Try.ent47 rfl rfl) (x12.temp 1073741824 hin (by first | (simp only [List.length_append, List.length_take, List.length_drop, List.length_nil, List.length_cons, List.length_set, List.length_replicate]; omega) | (simp; done) | (simp; omega) | omega) (fun G1 lg1 hin1 hr1 => rAt_ct hin1 hr1 (regR ((ix l k).A)))) ?_
  rintro _ _ ⟨rfl, rfl⟩
  have w43_0 : IntKind.i32.wrap (atM o (regR ((ix l k).A))) = atM o (regR ((ix l k).A)) := atM_wrG x12 _
  refine LF.step (OpOk.assign rfl) (LF.nil (PF.next (CF.seq (CF.region (LF.step (OpOk.move rfl) ?_)))))
  refine LF.step (OpOk.fieldAddr (Try.fld39_4) rfl) ?_
  refine LF.step (OpOk.ldBx hb7 Try.one3 rfl rfl) ?_
  refine LF.call (OpCall.fn Try.ent46 rfl rfl) (rReg_ct hin ((ix l k).B)) ?_
  rintro _ _ ⟨rfl, rfl⟩
  refine LF.call (OpCall.fn Try.ent47 rfl rfl) (x12.temp 1073741824 hin (by first | (simp only [List.length_append, List.length_take, List.length_drop, List.length_nil, List.length_cons, List.length_set, List.length_replicate]; omega) | (simp; done) | (simp; omega) | omega) (fun G1 lg1 hin1 hr1 => rAt_ct hin1 hr1 (regR ((ix l k).B)))) ?_
  rintro _ _ ⟨rfl, rfl⟩
  have w48_0 : IntKind.i32.wrap (atM o (regR ((ix l k).B))) = atM o (regR ((ix l k).B)) := atM_wrG x12 _
  refine LF.step (OpOk.assign rfl) (LF.nil (PF.next (CF.seq (CF.region (LF.step (OpOk.move rfl) ?_)))))
  refine LF.step (OpOk.fieldAddr (Try.fld39_3) rfl) ?_
  refine LF.step (OpOk.ldBx hb7 Try.one3 rfl rfl) ?_
  refine LF.call (OpCall.fn Try.ent46 rfl rfl) (rReg_ct hin ((ix l k).A)) ?_
  rintro _ _ ⟨rfl, rfl⟩
  refine LF.step (OpOk.move rfl) ?_
  refine LF.call (OpCall.fn Try.ent45 rfl rfl) (rPut_ct hin x12 (regR ((ix l k).A)) (atM o (regR ((ix l k).B))) (by first | omega | (simp only [putM_len]; omega)) w48_0) ?_
  rintro _ H54 ⟨rfl, k54, x54_0⟩
  have zk54 := k54.1
  replace hin := hin.kw k54 (by intro k0 hk0; exact x12.no k0 hk0)
  replace hb7 := hb7.kw k54 (x12.neBx hb7 (by decide))
  replace hkp := hkp.kw k54 (by intro k0 hk0; exact x12.ge k0 hk0)
  replace x12 := x54_0
  refine LF.nil (PF.next (CF.region (LF.step (OpOk.move rfl) ?_)))
  refine LF.step (OpOk.fieldAddr (Try.fld39_4) rfl) ?_
  refine LF.step (OpOk.ldBx hb7 Try.one3 rfl rfl) ?_
  refine LF.call (OpCall.fn Try.ent46 rfl rfl) (rReg_ct hin ((ix l k).B)) ?_
  rintro _ _ ⟨rfl, rfl⟩
  refine LF.step (OpOk.move rfl) ?_
  refine LF.call (OpCall.fn Try.ent45 rfl rfl) (rPut_ct hin x12 (regR ((ix l k).B)) (atM o (regR ((ix l k).A))) (by first | omega | (simp only [putM_len]; omega)) w43_0) ?_
  rintro _ H60 ⟨rfl, k60, x60_0⟩
  have zk60 := k60.1
  replace hin := hin.kw k60 (by intro k0 hk0; exact x12.no k0 hk0)
  replace hb7 := hb7.kw k60 (x12.neBx hb7 (by decide))
  replace hkp := hkp.kw k60 (by intro k0 hk0; exact x12.ge k0 hk0)
  replace x12 := x60_0
  refine LF.nil (PF.blockNormal (PF.blockNormal (PF.next (CF.region (LF.step (OpOk.move rfl) ?_)))))
  refine LF.step (OpOk.add rfl rfl (by omega)) ?_
  refine LF.step (OpOk.assign rfl) (LF.nil ?_)
  exact PF.again (k + 1, putM (putM o (regR ((ix l k).A)) (atM o (regR ((ix l k).B)))) (regR ((ix l k).B)) (atM o (regR ((ix l k).A)))) ⟨by dsimp only; omega, by dsimp only; rw [hR, drop_ix (by omega), doM]; congr 1; unfold doM1; (repeat rw [if_neg (by omega)]) <;> (try rw [if_pos (by omega)]) <;> (try simp only [at_regP, put_regP]), by dsimp only; (try simp only [putM_len]); exact hl9, hin, hkp, x12⟩ ⟨rfl, rfl, rfl, eqI (by omega), trivial⟩ (by omega)
  refine CF.seq (CF.region ?_)
  refine LF.step (OpOk.eql rfl rfl) ?_
  refine LF.step (OpOk.assign rfl) (LF.nil (PF.next ?_))
  refine CF.if rfl (fun hc4 => ?_) (fun hc4 => ?_)
  refine CF.any (z := false) (fun H' => InH F H' ∧ Bx H' g7 39 [.int .i64 ((ix l k).Op), .int .i64 ((ix l k).D), .int .i64 ((ix l k).E), .int .i64 ((ix l k).A), .int .i64 ((ix l k).B), .int .i64 ((ix l k).C), .int .i32 ((ix l k).Imm), v22c7] ∧ True) Try.mixed ?_
  refine AF.take 0 rfl (by kernel_rfl) (by kernel_rfl) (by kernel_rfl) ⟨hin, hb7, trivial⟩ (fun _ ⟨hin, hb7, _⟩ => OpOk.move rfl) ?_
  refine AF.take 1 rfl (by kernel_rfl) (by kernel_rfl) (by kernel_rfl) ⟨hin, hb7, trivial⟩ (fun _ ⟨hin, hb7, _⟩ => OpOk.fieldAddr (Try.fld39_1) rfl) ?_
  refine AF.take 2 rfl (by kernel_rfl) (by kernel_rfl) (by kernel_rfl) ⟨hin, hb7, trivial⟩ (fun _ ⟨hin, hb7, _⟩ => OpOk.ldBx hb7 Try.one3 rfl rfl) ?_
  refine AF.take 4 rfl (by kernel_rfl) (by kernel_rfl) (by kernel_rfl) ⟨hin, hb7, trivial⟩ (fun _ ⟨hin, hb7, _⟩ => OpOk.move rfl) ?_
  refine AF.take 5 rfl (by kernel_rfl) (by kernel_rfl) (by kernel_rfl) ⟨hin, hb7, trivial⟩ (fun _ ⟨hin, hb7, _⟩ => OpOk.fieldAddr (Try.fld39_6) rfl) ?_
  refine AF.take 6 rfl (by kernel_rfl) (by kernel_rfl) (by kernel_rfl) ⟨hin, hb7, trivial⟩ (fun _ ⟨hin, hb7, _⟩ => OpOk.ldBx hb7 Try.one21 rfl rfl) ?_
  refine AF.call 3 rfl (by kernel_rfl) (OpCall.fn Try.ent46 rfl rfl) (rReg_ct hin ((ix l k).D)) (by rintro _ _ ⟨_, rfl⟩; exact ⟨hin, hb7, trivial⟩) ?_
  rintro _ _ ⟨rfl, rfl⟩
  refine AF.call 7 rfl (by kernel_rfl) (OpCall.fn Try.ent48 rfl rfl) (rSlot_ct hin ((ix l k).Imm) (rMach.w_Imm (m := (ix l k)) h22k)) (by rintro _ _ ⟨_, rfl⟩; exact ⟨hin, hb7, trivial⟩) ?_
  rintro _ _ ⟨rfl, rfl⟩
  refine AF.call 8 rfl (by kernel_rfl) (OpCall.fn Try.ent47 rfl rfl) (x12.temp 1073741824 hin (by first | (simp only [List.length_append, List.length_take, List.length_drop, List.length_nil, List.length_cons, List.length_set, List.length_replicate]; omega) | (simp; done) | (simp; omega) | omega) (fun G1 lg1 hin1 hr1 => rAt_ct hin1 hr1 (slotM ((ix l k).Imm)))) (by rintro _ _ ⟨_, rfl⟩; exact ⟨hin, hb7, trivial⟩) ?_
  rintro _ _ ⟨rfl, rfl⟩
  have w71_0 : IntKind.i32.wrap (atM o (slotM ((ix l k).Imm))) = atM o (slotM ((ix l k).Imm)) := atM_wrG x12 _
  refine AF.one 9 (by kernel_rfl) ?_
  refine AFN.call rfl (OpCall.fn Try.ent45 rfl rfl) (rPut_ct hin x12 (regR ((ix l k).D)) (atM o (slotM ((ix l k).Imm))) (by first | omega | (simp only [putM_len]; omega)) w71_0) ?_
  rintro _ H72 ⟨rfl, k72, x72_0⟩
  have zk72 := k72.1
  replace hin := hin.kw k72 (by intro k0 hk0; exact x12.no k0 hk0)
  replace hb7 := hb7.kw k72 (x12.neBx hb7 (by decide))
  replace hkp := hkp.kw k72 (by intro k0 hk0; exact x12.ge k0 hk0)
  replace x12 := x72_0
  refine ⟨⟨hin, hb7, trivial⟩, ?_⟩
  refine AF.done (by kernel_rfl) ?_
  refine PF.blockNormal (PF.blockNormal (PF.next (CF.region (LF.step (OpOk.move rfl) ?_))))
  refine LF.step (OpOk.add rfl rfl (by omega)) ?_
  refine LF.step (OpOk.assign rfl) (LF.nil ?_)
  exact PF.again (k + 1, putM o (regR ((ix l k).D)) (atM o (slotM ((ix l k).Imm)))) ⟨by dsimp only; omega, by dsimp only; rw [hR, drop_ix (by omega), doM]; congr 1; unfold doM1; (repeat rw [if_neg (by omega)]) <;> (try rw [if_pos (by omega)]) <;> (try simp only [at_regP, put_regP]), by dsimp only; (try simp only [putM_len]); exact hl9, hin, hkp, x12⟩ ⟨rfl, rfl, rfl, eqI (by omega), trivial⟩ (by omega)
  refine CF.seq (CF.region ?_)
  refine LF.step (OpOk.eql rfl rfl) ?_
  refine LF.step (OpOk.assign rfl) (LF.nil (PF.next ?_))
  refine CF.if rfl (fun hc5 => ?_) (fun hc5 => ?_)
  refine CF.any (z := false) (fun H' => InH F H' ∧ Bx H' g7 39 [.int .i64 ((ix l k).Op), .int .i64 ((ix l k).D), .int .i64 ((ix l k).E), .int .i64 ((ix l k).A), .int .i64 ((ix l k).B), .int .i64 ((ix l k).C), .int .i32 ((ix l k).Imm), v22c7] ∧ True) Try.mixed ?_
  refine AF.take 0 rfl (by kernel_rfl) (by kernel_rfl) (by kernel_rfl) ⟨hin, hb7, trivial⟩ (fun _ ⟨hin, hb7, _⟩ => OpOk.move rfl) ?_
  refine AF.take 1 rfl (by kernel_rfl) (by kernel_rfl) (by kernel_rfl) ⟨hin, hb7, trivial⟩ (fun _ ⟨hin, hb7, _⟩ => OpOk.fieldAddr (Try.fld39_6) rfl) ?_
  refine AF.take 2 rfl (by kernel_rfl) (by kernel_rfl) (by kernel_rfl) ⟨hin, hb7, trivial⟩ (fun _ ⟨hin, hb7, _⟩ => OpOk.ldBx hb7 Try.one21 rfl rfl) ?_
  refine AF.take 4 rfl (by kernel_rfl) (by kernel_rfl) (by kernel_rfl) ⟨hin, hb7, trivial⟩ (fun _ ⟨hin, hb7, _⟩ => OpOk.move rfl) ?_
  refine AF.take 5 rfl (by kernel_rfl) (by kernel_rfl) (by kernel_rfl) ⟨hin, hb7, trivial⟩ (fun _ ⟨hin, hb7, _⟩ => OpOk.fieldAddr (Try.fld39_3) rfl) ?_
  refine AF.take 6 rfl (by kernel_rfl) (by kernel_rfl) (by kernel_rfl) ⟨hin, hb7, trivial⟩ (fun _ ⟨hin, hb7, _⟩ => OpOk.ldBx hb7 Try.one3 rfl rfl) ?_
  refine AF.call 3 rfl (by kernel_rfl) (OpCall.fn Try.ent48 rfl rfl) (rSlot_ct hin ((ix l k).Imm) (rMach.w_Imm (m := (ix l k)) h22k)) (by rintro _ _ ⟨_, rfl⟩; exact ⟨hin, hb7, trivial⟩) ?_
  rintro _ _ ⟨rfl, rfl⟩
  refine AF.call 7 rfl (by kernel_rfl) (OpCall.fn Try.ent46 rfl rfl) (rReg_ct hin ((ix l k).A)) (by rintro _ _ ⟨_, rfl⟩; exact ⟨hin, hb7, trivial⟩) ?_
  rintro _ _ ⟨rfl, rfl⟩
  refine AF.call 8 rfl (by kernel_rfl) (OpCall.fn Try.ent47 rfl rfl) (x12.temp 1073741824 hin (by first | (simp only [List.length_append, List.length_take, List.length_drop, List.length_nil, List.length_cons, List.length_set, List.length_replicate]; omega) | (simp; done) | (simp; omega) | omega) (fun G1 lg1 hin1 hr1 => rAt_ct hin1 hr1 (regR ((ix l k).A)))) (by rintro _ _ ⟨_, rfl⟩; exact ⟨hin, hb7, trivial⟩) ?_
  rintro _ _ ⟨rfl, rfl⟩
  have w83_0 : IntKind.i32.wrap (atM o (regR ((ix l k).A))) = atM o (regR ((ix l k).A)) := atM_wrG x12 _
  refine AF.one 9 (by kernel_rfl) ?_
  refine AFN.call rfl (OpCall.fn Try.ent45 rfl rfl) (rPut_ct hin x12 (slotM ((ix l k).Imm)) (atM o (regR ((ix l k).A))) (by first | omega | (simp only [putM_len]; omega)) w83_0) ?_
  rintro _ H84 ⟨rfl, k84, x84_0⟩
  have zk84 := k84.1
  replace hin := hin.kw k84 (by intro k0 hk0; exact x12.no k0 hk0)
  replace hb7 := hb7.kw k84 (x12.neBx hb7 (by decide))
  replace hkp := hkp.kw k84 (by intro k0 hk0; exact x12.ge k0 hk0)
  replace x12 := x84_0
  refine ⟨⟨hin, hb7, trivial⟩, ?_⟩
  refine AF.done (by kernel_rfl) ?_
  refine PF.blockNormal (PF.blockNormal (PF.next (CF.region (LF.step (OpOk.move rfl) ?_))))
  refine LF.step (OpOk.add rfl rfl (by omega)) ?_
  refine LF.step (OpOk.assign rfl) (LF.nil ?_)
  exact PF.again (k + 1, putM o (slotM ((ix l k).Imm)) (atM o (regR ((ix l k).A)))) ⟨by dsimp only; omega, by dsimp only; rw [hR, drop_ix (by omega), doM]; congr 1; unfold doM1; (repeat rw [if_neg (by omega)]) <;> (try rw [if_pos (by omega)]) <;> (try simp only [at_regP, put_regP]), by dsimp only; (try simp only [putM_len]); exact hl9, hin, hkp, x12⟩ ⟨rfl, rfl, rfl, eqI (by omega), trivial⟩ (by omega)
  refine CF.seq (CF.seq (CF.region ?_))
  refine LF.step (OpOk.eql rfl rfl) ?_
  refine LF.step (OpOk.assign rfl) (LF.nil (PF.next ?_))
  refine CF.if rfl (fun hc6 => ?_) (fun hc6 => ?_)
  refine CF.skip (PF.next ?_)
  refine CF.if rfl (fun hc7 => ?_) (fun hc7 => ?_)
  refine CF.any (z := false) (fun H' => InH F H' ∧ Bx H' g7 39 [.int .i64 ((ix l k).Op), .int .i64 ((ix l k).D), .int .i64 ((ix l k).E), .int .i64 ((ix l k).A), .int .i64 ((ix l k).B), .int .i64 ((ix l k).C), .int .i32 ((ix l k).Imm), v22c7] ∧ True) Try.mixed ?_
  refine AF.take 0 rfl (by kernel_rfl) (by kernel_rfl) (by kernel_rfl) ⟨hin, hb7, trivial⟩ (fun _ ⟨hin, hb7, _⟩ => OpOk.move rfl) ?_
  refine AF.take 1 rfl (by kernel_rfl) (by kernel_rfl) (by kernel_rfl) ⟨hin, hb7, trivial⟩ (fun _ ⟨hin, hb7, _⟩ => OpOk.fieldAddr (Try.fld39_1) rfl) ?_
  refine AF.take 2 rfl (by kernel_rfl) (by kernel_rfl) (by kernel_rfl) ⟨hin, hb7, trivial⟩ (fun _ ⟨hin, hb7, _⟩ => OpOk.ldBx hb7 Try.one3 rfl rfl) ?_
  refine AF.take 4 rfl (by kernel_rfl) (by kernel_rfl) (by kernel_rfl) ⟨hin, hb7, trivial⟩ (fun _ ⟨hin, hb7, _⟩ => OpOk.fieldAddr (Try.fld39_6) rfl) ?_
  refine AF.take 5 rfl (by kernel_rfl) (by kernel_rfl) (by kernel_rfl) ⟨hin, hb7, trivial⟩ (fun _ ⟨hin, hb7, _⟩ => OpOk.ldBx hb7 Try.one21 rfl rfl) ?_
  refine AF.call 3 rfl (by kernel_rfl) (OpCall.fn Try.ent46 rfl rfl) (rReg_ct hin ((ix l k).D)) (by rintro _ _ ⟨_, rfl⟩; exact ⟨hin, hb7, trivial⟩) ?_
  rintro _ _ ⟨rfl, rfl⟩
  refine AF.one 6 (by kernel_rfl) ?_
  refine AFN.call rfl (OpCall.fn Try.ent45 rfl rfl) (rPut_ct hin x12 (regR ((ix l k).D)) ((ix l k).Imm) (by first | omega | (simp only [putM_len]; omega)) (rMach.w_Imm (m := (ix l k)) h22k)) ?_
  rintro _ H94 ⟨rfl, k94, x94_0⟩
  have zk94 := k94.1
  replace hin := hin.kw k94 (by intro k0 hk0; exact x12.no k0 hk0)
  replace hb7 := hb7.kw k94 (x12.neBx hb7 (by decide))
  replace hkp := hkp.kw k94 (by intro k0 hk0; exact x12.ge k0 hk0)
  replace x12 := x94_0
  refine ⟨⟨hin, hb7, trivial⟩, ?_⟩
  refine AF.done (by kernel_rfl) ?_
  refine PF.blockNormal (PF.blockNormal (PF.next (CF.region (LF.step (OpOk.move rfl) ?_))))
  refine LF.step (OpOk.add rfl rfl (by omega)) ?_
  refine LF.step (OpOk.assign rfl) (LF.nil ?_)
  exact PF.again (k + 1, putM o (regR ((ix l k).D)) ((ix l k).Imm)) ⟨by dsimp only; omega, by dsimp only; rw [hR, drop_ix (by omega), doM]; congr 1; unfold doM1; (repeat rw [if_neg (by omega)]) <;> (try rw [if_pos (by omega)]) <;> (try simp only [at_regP, put_regP]), by dsimp only; (try simp only [putM_len]); exact hl9, hin, hkp, x12⟩ ⟨rfl, rfl, rfl, eqI (by omega), trivial⟩ (by omega)
  exact absurd hc7 (by simp [hc1, hc2, hc3, hc4, hc5, hc6])
  refine CF.region ?_
  refine LF.step (OpOk.eql rfl rfl) ?_
  refine LF.step (OpOk.assign rfl) (LF.nil (PF.next ?_))
  refine CF.if rfl (fun hc8 => ?_) (fun hc8 => ?_)
  refine CF.any (z := false) (fun H' => InH F H' ∧ Bx H' g7 39 [.int .i64 ((ix l k).Op), .int .i64 ((ix l k).D), .int .i64 ((ix l k).E), .int .i64 ((ix l k).A), .int .i64 ((ix l k).B), .int .i64 ((ix l k).C), .int .i32 ((ix l k).Imm), v22c7] ∧ True) Try.mixed ?_
  refine AF.take 0 rfl (by kernel_rfl) (by kernel_rfl) (by kernel_rfl) ⟨hin, hb7, trivial⟩ (fun _ ⟨hin, hb7, _⟩ => OpOk.move rfl) ?_
  refine AF.take 1 rfl (by kernel_rfl) (by kernel_rfl) (by kernel_rfl) ⟨hin, hb7, trivial⟩ (fun _ ⟨hin, hb7, _⟩ => OpOk.fieldAddr (Try.fld39_1) rfl) ?_
  refine AF.take 2 rfl (by kernel_rfl) (by kernel_rfl) (by kernel_rfl) ⟨hin, hb7, trivial⟩ (fun _ ⟨hin, hb7, _⟩ => OpOk.ldBx hb7 Try.one3 rfl rfl) ?_
  refine AF.take 4 rfl (by kernel_rfl) (by kernel_rfl) (by kernel_rfl) ⟨hin, hb7, trivial⟩ (fun _ ⟨hin, hb7, _⟩ => OpOk.fieldAddr (Try.fld39_6) rfl) ?_
  refine AF.take 5 rfl (by kernel_rfl) (by kernel_rfl) (by kernel_rfl) ⟨hin, hb7, trivial⟩ (fun _ ⟨hin, hb7, _⟩ => OpOk.ldBx hb7 Try.one21 rfl rfl) ?_
  refine AF.call 3 rfl (by kernel_rfl) (OpCall.fn Try.ent46 rfl rfl) (rReg_ct hin ((ix l k).D)) (by rintro _ _ ⟨_, rfl⟩; exact ⟨hin, hb7, trivial⟩) ?_
  rintro _ _ ⟨rfl, rfl⟩
  refine AF.one 6 (by kernel_rfl) ?_
  refine AFN.call rfl (OpCall.fn Try.ent45 rfl rfl) (rPut_ct hin x12 (regR ((ix l k).D)) ((ix l k).Imm) (by first | omega | (simp only [putM_len]; omega)) (rMach.w_Imm (m := (ix l k)) h22k)) ?_
  rintro _ H94 ⟨rfl, k94, x94_0⟩
  have zk94 := k94.1
  replace hin := hin.kw k94 (by intro k0 hk0; exact x12.no k0 hk0)
  replace hb7 := hb7.kw k94 (x12.neBx hb7 (by decide))
  replace hkp := hkp.kw k94 (by intro k0 hk0; exact x12.ge k0 hk0)
  replace x12 := x94_0
  refine ⟨⟨hin, hb7, trivial⟩, ?_⟩
  refine AF.done (by kernel_rfl) ?_
  refine PF.blockNormal (PF.blockNormal (PF.next (CF.region (LF.step (OpOk.move rfl) ?_))))
  refine LF.step (OpOk.add rfl rfl (by omega)) ?_
  refine LF.step (OpOk.assign rfl) (LF.nil ?_)
  exact PF.again (k + 1, putM o (regR ((ix l k).D)) ((ix l k).Imm)) ⟨by dsimp only; omega, by dsimp only; rw [hR, drop_ix (by omega), doM]; congr 1; unfold doM1; (repeat rw [if_neg (by omega)]) <;> (try rw [if_pos (by omega)]) <;> (try simp only [at_regP, put_regP]), by dsimp only; (try simp only [putM_len]); exact hl9, hin, hkp, x12⟩ ⟨rfl, rfl, rfl, eqI (by omega), trivial⟩ (by omega)
  refine CF.skip (PF.blockNormal (PF.blockNormal (PF.next (CF.region (LF.step (OpOk.move rfl) ?_)))))
  refine LF.step (OpOk.add rfl rfl (by omega)) ?_
  refine LF.step (OpOk.assign rfl) (LF.nil ?_)
  exact PF.again (k + 1, o) ⟨by dsimp only; omega, by dsimp only; rw [hR, drop_ix (by omega), doM]; congr 1; unfold doM1; (repeat rw [if_neg (by omega)]) <;> (try rw [if_pos (by omega)]) <;> (try simp only [at_regP, put_regP]), by dsimp only; (try simp only [putM_len]); exact hl9, hin, hkp, x12⟩ ⟨rfl, rfl, rfl, eqI (by omega), trivial⟩ (by omega)
  refine CF.exit (PF.thenExit (PF.thenExit (PF.blockHere (PF.next (CF.seq (CF.region (LF.step (OpOk.move rfl) (LF.step (OpOk.assign rfl) (LF.nil (PF.next (CF.ret ?_)))))))))))
  have hm : doM l places = o := by
    rw [hR, List.drop_of_length_le (by omega)]; rfl
  exact PF.ret1 rfl rfl ⟨by rw [hm]; exact x12, hkp⟩

-- jacquard/moves.Do: function 23
theorem pDo_ct {F : PH} {H : Heap} (hin : InH F H) {a0 : Value} {l : List D.Mach} {N0 : Nat} (p0 : (rLn N0 (rMachN N0)).rv F a0 l) {a1 : Value} {places : List Int} (p1 : (rL (rI .i32)).rv F a1 places) :
    Ct Try.prog 23 #[a0, a1] H (fun v H' => Gl (rI .i32) 21 F H' H.size v (doM l places) ∧ Kp H.size H H') := by
  have q0 := rL.len2 p0
  have q1 := rL.len2 p1
  have hkp := Kp.refl H.size H
  have hx := PH.ext.refl (H := H) F
  refine Ct.enter (args := [a0, a1]) Try.func23 rfl rfl rfl (fun w0 hw0 => ?_)
  refine CF.seq (CF.region (LF.step (OpOk.assign rfl) (LF.nil (PF.next (CF.seq (CF.region (LF.step (OpOk.move rfl) ?_)))))))
  refine LF.call (OpCall.fn Try.ent40 rfl rfl) (clone32_ct hin p1) ?_
  rintro v13 H13 ⟨x13, k13⟩
  replace x13 := x13.base hkp.1
  have zk13 := k13.1
  replace hin := hin.kp k13
  replace hkp := hkp.trans (k13.mono hkp.1)
  refine LF.step (OpOk.assign rfl) (LF.nil (PF.next (CF.seq (CF.region (LF.step (OpOk.assign rfl) (LF.nil (PF.next (CF.seq (CF.region (LF.step (OpOk.assign rfl) (LF.nil ?_)))))))))))
  refine PF.next (CF.seq (CF.seq (CF.region (LF.step (OpOk.move rfl) ?_))))
  refine LF.step (OpOk.lenL Try.underlying34 p0 rfl) ?_
  refine LF.step (OpOk.move rfl) (LF.nil (PF.next (CF.block ?_)))
  refine CF.loop (ι := Nat × List Int) (fun z9 H1 => z9.1 ≤ l.length ∧ doM l places = doM (l.drop z9.1) z9.2 ∧ z9.2.length = places.length ∧ InH F H1 ∧ Kp H.size H H1 ∧ Gl (rI .i32) 21 F H1 H.size v13 z9.2) (fun z9 => [(4, .slice none 0 0), (5, v13), (6, .func (.func 43) #[] #[]), (7, .func (.func 44) #[] #[]), (14, a0), (15, .int .i64 (↑(List.length l))), (16, .int .i64 (↑z9.1))]) (fun z9 => l.length - z9.1) (0, places) ⟨by dsimp only; omega, rfl, rfl, hin, hkp, x13⟩ ⟨rfl, rfl, rfl, rfl, rfl, rfl, eqI (by omega), trivial⟩ ?_
  clear hin hkp x13
  rintro ⟨k, o⟩ H1 ⟨hk, hR, hl9, hin, hkp, x13⟩
  dsimp only at hk hR hl9 x13 ⊢
  refine CF.seq (CF.region ?_)
  refine LF.step (OpOk.lss rfl rfl) ?_
  refine LF.nil (PF.next (CF.seq ?_))
  refine CF.if rfl (fun hc1 => ?_) (fun hc1 => ?_)
  refine CF.skip (PF.next (CF.seq (CF.block (CF.seq (CF.region ?_)))))
  refine LF.step (OpOk.idxL (i := k) Try.underlying34 Try.sz39 p0 rfl rfl rfl (by omega)) ?_
  refine LF.stepE (OpOk.ldA hin (rL.ix p0 k (by omega)) Try.agg39 Try.sz39 rfl) ?_
  intro v19 h19
  have h19k := rMach.any h19
  obtain ⟨v19c7, rfl, h19c7⟩ := rMach.open h19
  have h19c7q := rL.len2 h19c7
  refine LF.chg (OpCh.allocB Try.zero39 rfl) ?_
  rintro _ H9 ⟨g9, rfl, eg9, sg9, kg9, hb9⟩
  have ng9 := hin.nope (Nat.le_of_eq eg9.symm)
  have lg9 := hkp.1
  have zkg9 := kg9.1
  replace hin := hin.kp kg9
  replace hkp := hkp.trans (kg9.mono hkp.1)
  replace x13 := x13.kp kg9
  clear kg9
  refine LF.chg0 (OpCh.storeBA hb9 Try.sz39 rfl rfl rfl (allOne.mem (l := [.int .i64 ((ix l k).Op), .int .i64 ((ix l k).D), .int .i64 ((ix l k).E), .int .i64 ((ix l k).A), .int .i64 ((ix l k).B), .int .i64 ((ix l k).C), .int .i32 ((ix l k).Imm), v19c7]) ⟨rfl, rfl, rfl, rfl, rfl, rfl, rfl, (h19c7.one1), trivial⟩) (by decide)) ?_
  rintro _ Hw1 ⟨tw1, bw1⟩
  have ztw1 := tw1.1
  replace hin := hin.tw tw1 ng9
  replace hkp := Tw.kp' hkp tw1 (by omega)
  replace x13 := x13.tw tw1 (x13.neBx hb9 (by decide))
  replace hb9 : Bx _ _ _ [.int .i64 ((ix l k).Op), .int .i64 ((ix l k).D), .int .i64 ((ix l k).E), .int .i64 ((ix l k).A), .int .i64 ((ix l k).B), .int .i64 ((ix l k).C), .int .i32 ((ix l k).Imm), v19c7] := bw1
  clear bw1 tw1
  refine LF.nil (PF.next (CF.seq (CF.region ?_)))
  refine LF.step (OpOk.fieldAddr (Try.fld39_0) rfl) ?_
  refine LF.step (OpOk.ldBx hb9 Try.one3 rfl rfl) ?_
  refine LF.nil (PF.next (CF.block (CF.seq (CF.region ?_))))
  refine LF.step (OpOk.eql rfl rfl) ?_
  refine LF.step (OpOk.assign rfl) (LF.nil (PF.next ?_))
  refine CF.if rfl (fun hc2 => ?_) (fun hc2 => ?_)
  refine CF.any (z := false) (fun H' => InH F H' ∧ Bx H' g9 39 [.int .i64 ((ix l k).Op), .int .i64 ((ix l k).D), .int .i64 ((ix l k).E), .int .i64 ((ix l k).A), .int .i64 ((ix l k).B), .int .i64 ((ix l k).C), .int .i32 ((ix l k).Imm), v19c7] ∧ True) Try.mixed ?_
  refine AF.take 0 rfl (by kernel_rfl) (by kernel_rfl) (by kernel_rfl) ⟨hin, hb9, trivial⟩ (fun _ ⟨hin, hb9, _⟩ => OpOk.move rfl) ?_
  refine AF.take 1 rfl (by kernel_rfl) (by kernel_rfl) (by kernel_rfl) ⟨hin, hb9, trivial⟩ (fun _ ⟨hin, hb9, _⟩ => OpOk.move rfl) ?_
  refine AF.take 2 rfl (by kernel_rfl) (by kernel_rfl) (by kernel_rfl) ⟨hin, hb9, trivial⟩ (fun _ ⟨hin, hb9, _⟩ => OpOk.fieldAddr (Try.fld39_1) rfl) ?_
  refine AF.take 3 rfl (by kernel_rfl) (by kernel_rfl) (by kernel_rfl) ⟨hin, hb9, trivial⟩ (fun _ ⟨hin, hb9, _⟩ => OpOk.ldBx hb9 Try.one3 rfl rfl) ?_
  refine AF.take 5 rfl (by kernel_rfl) (by kernel_rfl) (by kernel_rfl) ⟨hin, hb9, trivial⟩ (fun _ ⟨hin, hb9, _⟩ => OpOk.move rfl) ?_
  refine AF.take 6 rfl (by kernel_rfl) (by kernel_rfl) (by kernel_rfl) ⟨hin, hb9, trivial⟩ (fun _ ⟨hin, hb9, _⟩ => OpOk.move rfl) ?_
  refine AF.take 7 rfl (by kernel_rfl) (by kernel_rfl) (by kernel_rfl) ⟨hin, hb9, trivial⟩ (fun _ ⟨hin, hb9, _⟩ => OpOk.fieldAddr (Try.fld39_3) rfl) ?_
  refine AF.take 8 rfl (by kernel_rfl) (by kernel_rfl) (by kernel_rfl) ⟨hin, hb9, trivial⟩ (fun _ ⟨hin, hb9, _⟩ => OpOk.ldBx hb9 Try.one3 rfl rfl) ?_
  refine AF.call 4 rfl (by kernel_rfl) (OpCall.fn Try.ent43 rfl rfl) (pReg_ct hin ((ix l k).D)) (by rintro _ _ ⟨_, rfl⟩; exact ⟨hin, hb9, trivial⟩) ?_
  rintro _ _ ⟨rfl, rfl⟩
  refine AF.call 9 rfl (by kernel_rfl) (OpCall.fn Try.ent43 rfl rfl) (pReg_ct hin ((ix l k).A)) (by rintro _ _ ⟨_, rfl⟩; exact ⟨hin, hb9, trivial⟩) ?_
  rintro _ _ ⟨rfl, rfl⟩
  refine AF.call 10 rfl (by kernel_rfl) (OpCall.fn Try.ent42 rfl rfl) (x13.temp 1073741824 hin (by first | (simp only [List.length_append, List.length_take, List.length_drop, List.length_nil, List.length_cons, List.length_set, List.length_replicate]; omega) | (simp; done) | (simp; omega) | omega) (fun G1 lg1 hin1 hr1 => pAt_ct hin1 hr1 (regP ((ix l k).A)))) (by rintro _ _ ⟨_, rfl⟩; exact ⟨hin, hb9, trivial⟩) ?_
  rintro _ _ ⟨rfl, rfl⟩
  have w34_0 : IntKind.i32.wrap (atM o (regP ((ix l k).A))) = atM o (regP ((ix l k).A)) := atM_wrG x13 _
  refine AF.one 11 (by kernel_rfl) ?_
  refine AFN.call rfl (OpCall.fn Try.ent41 rfl rfl) (pPut_ct hin x13 (regP ((ix l k).D)) (atM o (regP ((ix l k).A))) (by first | omega | (simp only [putM_len]; omega)) w34_0) ?_
  rintro _ H35 ⟨rfl, k35, x35_0⟩
  have zk35 := k35.1
  replace hin := hin.kw k35 (by intro k0 hk0; exact x13.no k0 hk0)
  replace hb9 := hb9.kw k35 (x13.neBx hb9 (by decide))
  replace hkp := hkp.kw k35 (by intro k0 hk0; exact x13.ge k0 hk0)
  replace x13 := x35_0
  refine ⟨⟨hin, hb9, trivial⟩, ?_⟩
  refine AF.done (by kernel_rfl) ?_
  refine PF.blockNormal (PF.blockNormal (PF.next (CF.region ?_)))
  refine LF.step (OpOk.add rfl rfl (by omega)) ?_
  refine LF.step (OpOk.move rfl) (LF.nil ?_)
  exact PF.again (k + 1, putM o (regP ((ix l k).D)) (atM o (regP ((ix l k).A)))) ⟨by dsimp only; omega, by dsimp only; rw [hR, drop_ix (by omega), doM]; congr 1; unfold doM1; (repeat rw [if_neg (by omega)]) <;> (try rw [if_pos (by omega)]) <;> (try simp only [at_regP, put_regP]), by dsimp only; (try simp only [putM_len]); exact hl9, hin, hkp, x13⟩ ⟨rfl, rfl, rfl, rfl, rfl, rfl, eqI (by omega), trivial⟩ (by omega)
  refine CF.seq (CF.region ?_)
  refine LF.step (OpOk.eql rfl rfl) ?_
  refine LF.step (OpOk.assign rfl) (LF.nil (PF.next ?_))
  refine CF.if rfl (fun hc3 => ?_) (fun hc3 => ?_)
  refine CF.seq ?_
  refine CF.any (z := false) (fun H' => InH F H' ∧ Bx H' g9 39 [.int .i64 ((ix l k).Op), .int .i64 ((ix l k).D), .int .i64 ((ix l k).E), .int .i64 ((ix l k).A), .int .i64 ((ix l k).B), .int .i64 ((ix l k).C), .int .i32 ((ix l k).Imm), v19c7] ∧ True) Try.mixed ?_
  refine AF.take 0 rfl (by kernel_rfl) (by kernel_rfl) (by kernel_rfl) ⟨hin, hb9, trivial⟩ (fun _ ⟨hin, hb9, _⟩ => OpOk.move rfl) ?_
  refine AF.take 1 rfl (by kernel_rfl) (by kernel_rfl) (by kernel_rfl) ⟨hin, hb9, trivial⟩ (fun _ ⟨hin, hb9, _⟩ => OpOk.move rfl) ?_
  refine AF.take 2 rfl (by kernel_rfl) (by kernel_rfl) (by kernel_rfl) ⟨hin, hb9, trivial⟩ (fun _ ⟨hin, hb9, _⟩ => OpOk.fieldAddr (Try.fld39_3) rfl) ?_
  refine AF.take 3 rfl (by kernel_rfl) (by kernel_rfl) (by kernel_rfl) ⟨hin, hb9, trivial⟩ (fun _ ⟨hin, hb9, _⟩ => OpOk.ldBx hb9 Try.one3 rfl rfl) ?_
  refine AF.take 6 rfl (by kernel_rfl) (by kernel_rfl) (by kernel_rfl) ⟨hin, hb9, trivial⟩ (fun _ ⟨hin, hb9, _⟩ => OpOk.move rfl) ?_
  refine AF.take 7 rfl (by kernel_rfl) (by kernel_rfl) (by kernel_rfl) ⟨hin, hb9, trivial⟩ (fun _ ⟨hin, hb9, _⟩ => OpOk.move rfl) ?_
  refine AF.take 8 rfl (by kernel_rfl) (by kernel_rfl) (by kernel_rfl) ⟨hin, hb9, trivial⟩ (fun _ ⟨hin, hb9, _⟩ => OpOk.fieldAddr (Try.fld39_4) rfl) ?_
  refine AF.take 9 rfl (by kernel_rfl) (by kernel_rfl) (by kernel_rfl) ⟨hin, hb9, trivial⟩ (fun _ ⟨hin, hb9, _⟩ => OpOk.ldBx hb9 Try.one3 rfl rfl) ?_
  refine AF.call 4 rfl (by kernel_rfl) (OpCall.fn Try.ent43 rfl rfl) (pReg_ct hin ((ix l k).A)) (by rintro _ _ ⟨_, rfl⟩; exact ⟨hin, hb9, trivial⟩) ?_
  rintro _ _ ⟨rfl, rfl⟩
  refine AF.call 5 rfl (by kernel_rfl) (OpCall.fn Try.ent42 rfl rfl) (x13.temp 1073741824 hin (by first | (simp only [List.length_append, List.length_take, List.length_drop, List.length_nil, List.length_cons, List.length_set, List.length_replicate]; omega) | (simp; done) | (simp; omega) | omega) (fun G1 lg1 hin1 hr1 => pAt_ct hin1 hr1 (regP ((ix l k).A)))) (by rintro _ _ ⟨_, rfl⟩; exact ⟨hin, hb9, trivial⟩) ?_
  rintro _ _ ⟨rfl, rfl⟩
  have w43_0 : IntKind.i32.wrap (atM o (regP ((ix l k).A))) = atM o (regP ((ix l k).A)) := atM_wrG x13 _
  refine AF.call 10 rfl (by kernel_rfl) (OpCall.fn Try.ent43 rfl rfl) (pReg_ct hin ((ix l k).B)) (by rintro _ _ ⟨_, rfl⟩; exact ⟨hin, hb9, trivial⟩) ?_
  rintro _ _ ⟨rfl, rfl⟩
  refine AF.call 11 rfl (by kernel_rfl) (OpCall.fn Try.ent42 rfl rfl) (x13.temp 1073741824 hin (by first | (simp only [List.length_append, List.length_take, List.length_drop, List.length_nil, List.length_cons, List.length_set, List.length_replicate]; omega) | (simp; done) | (simp; omega) | omega) (fun G1 lg1 hin1 hr1 => pAt_ct hin1 hr1 (regP ((ix l k).B)))) (by rintro _ _ ⟨_, rfl⟩; exact ⟨hin, hb9, trivial⟩) ?_
  rintro _ _ ⟨rfl, rfl⟩
  have w49_0 : IntKind.i32.wrap (atM o (regP ((ix l k).B))) = atM o (regP ((ix l k).B)) := atM_wrG x13 _
  refine AF.take 12 rfl (by kernel_rfl) (by kernel_rfl) (by kernel_rfl) ⟨hin, hb9, trivial⟩ (fun _ ⟨hin, hb9, _⟩ => OpOk.assign rfl) ?_
  refine AF.take 13 rfl (by kernel_rfl) (by kernel_rfl) (by kernel_rfl) ⟨hin, hb9, trivial⟩ (fun _ ⟨hin, hb9, _⟩ => OpOk.assign rfl) ?_
  refine AF.done (by kernel_rfl) ?_
  refine PF.next (CF.seq (CF.region (LF.step (OpOk.move rfl) (LF.step (OpOk.move rfl) ?_))))
  refine LF.step (OpOk.fieldAddr (Try.fld39_3) rfl) ?_
  refine LF.step (OpOk.ldBx hb9 Try.one3 rfl rfl) ?_
  refine LF.call (OpCall.fn Try.ent43 rfl rfl) (pReg_ct hin ((ix l k).A)) ?_
  rintro _ _ ⟨rfl, rfl⟩
  refine LF.step (OpOk.move rfl) ?_
  refine LF.call (OpCall.fn Try.ent41 rfl rfl) (pPut_ct hin x13 (regP ((ix l k).A)) (atM o (regP ((ix l k).B))) (by first | omega | (simp only [putM_len]; omega)) w49_0) ?_
  rintro _ H56 ⟨rfl, k56, x56_0⟩
  have zk56 := k56.1
  replace hin := hin.kw k56 (by intro k0 hk0; exact x13.no k0 hk0)
  replace hb9 := hb9.kw k56 (x13.neBx hb9 (by decide))
  replace hkp := hkp.kw k56 (by intro k0 hk0; exact x13.ge k0 hk0)
  replace x13 := x56_0
  refine LF.nil (PF.next (CF.region (LF.step (OpOk.move rfl) (LF.step (OpOk.move rfl) ?_))))
  refine LF.step (OpOk.fieldAddr (Try.fld39_4) rfl) ?_
  refine LF.step (OpOk.ldBx hb9 Try.one3 rfl rfl) ?_
  refine LF.call (OpCall.fn Try.ent43 rfl rfl) (pReg_ct hin ((ix l k).B)) ?_
  rintro _ _ ⟨rfl, rfl⟩
  refine LF.step (OpOk.move rfl) ?_
  refine LF.call (OpCall.fn Try.ent41 rfl rfl) (pPut_ct hin x13 (regP ((ix l k).B)) (atM o (regP ((ix l k).A))) (by first | omega | (simp only [putM_len]; omega)) w43_0) ?_
  rintro _ H63 ⟨rfl, k63, x63_0⟩
  have zk63 := k63.1
  replace hin := hin.kw k63 (by intro k0 hk0; exact x13.no k0 hk0)
  replace hb9 := hb9.kw k63 (x13.neBx hb9 (by decide))
  replace hkp := hkp.kw k63 (by intro k0 hk0; exact x13.ge k0 hk0)
  replace x13 := x63_0
  refine LF.nil (PF.blockNormal (PF.blockNormal (PF.next (CF.region ?_))))
  refine LF.step (OpOk.add rfl rfl (by omega)) ?_
  refine LF.step (OpOk.move rfl) (LF.nil ?_)
  exact PF.again (k + 1, putM (putM o (regP ((ix l k).A)) (atM o (regP ((ix l k).B)))) (regP ((ix l k).B)) (atM o (regP ((ix l k).A)))) ⟨by dsimp only; omega, by dsimp only; rw [hR, drop_ix (by omega), doM]; congr 1; unfold doM1; (repeat rw [if_neg (by omega)]) <;> (try rw [if_pos (by omega)]) <;> (try simp only [at_regP, put_regP]), by dsimp only; (try simp only [putM_len]); exact hl9, hin, hkp, x13⟩ ⟨rfl, rfl, rfl, rfl, rfl, rfl, eqI (by omega), trivial⟩ (by omega)
  refine CF.seq (CF.region ?_)
  refine LF.step (OpOk.eql rfl rfl) ?_
  refine LF.step (OpOk.assign rfl) (LF.nil (PF.next ?_))
  refine CF.if rfl (fun hc4 => ?_) (fun hc4 => ?_)
  refine CF.any (z := false) (fun H' => InH F H' ∧ Bx H' g9 39 [.int .i64 ((ix l k).Op), .int .i64 ((ix l k).D), .int .i64 ((ix l k).E), .int .i64 ((ix l k).A), .int .i64 ((ix l k).B), .int .i64 ((ix l k).C), .int .i32 ((ix l k).Imm), v19c7] ∧ True) Try.mixed ?_
  refine AF.take 0 rfl (by kernel_rfl) (by kernel_rfl) (by kernel_rfl) ⟨hin, hb9, trivial⟩ (fun _ ⟨hin, hb9, _⟩ => OpOk.move rfl) ?_
  refine AF.take 1 rfl (by kernel_rfl) (by kernel_rfl) (by kernel_rfl) ⟨hin, hb9, trivial⟩ (fun _ ⟨hin, hb9, _⟩ => OpOk.move rfl) ?_
  refine AF.take 2 rfl (by kernel_rfl) (by kernel_rfl) (by kernel_rfl) ⟨hin, hb9, trivial⟩ (fun _ ⟨hin, hb9, _⟩ => OpOk.fieldAddr (Try.fld39_1) rfl) ?_
  refine AF.take 3 rfl (by kernel_rfl) (by kernel_rfl) (by kernel_rfl) ⟨hin, hb9, trivial⟩ (fun _ ⟨hin, hb9, _⟩ => OpOk.ldBx hb9 Try.one3 rfl rfl) ?_
  refine AF.take 5 rfl (by kernel_rfl) (by kernel_rfl) (by kernel_rfl) ⟨hin, hb9, trivial⟩ (fun _ ⟨hin, hb9, _⟩ => OpOk.move rfl) ?_
  refine AF.take 6 rfl (by kernel_rfl) (by kernel_rfl) (by kernel_rfl) ⟨hin, hb9, trivial⟩ (fun _ ⟨hin, hb9, _⟩ => OpOk.move rfl) ?_
  refine AF.take 7 rfl (by kernel_rfl) (by kernel_rfl) (by kernel_rfl) ⟨hin, hb9, trivial⟩ (fun _ ⟨hin, hb9, _⟩ => OpOk.fieldAddr (Try.fld39_6) rfl) ?_
  refine AF.take 8 rfl (by kernel_rfl) (by kernel_rfl) (by kernel_rfl) ⟨hin, hb9, trivial⟩ (fun _ ⟨hin, hb9, _⟩ => OpOk.ldBx hb9 Try.one21 rfl rfl) ?_
  refine AF.call 4 rfl (by kernel_rfl) (OpCall.fn Try.ent43 rfl rfl) (pReg_ct hin ((ix l k).D)) (by rintro _ _ ⟨_, rfl⟩; exact ⟨hin, hb9, trivial⟩) ?_
  rintro _ _ ⟨rfl, rfl⟩
  refine AF.call 9 rfl (by kernel_rfl) (OpCall.fn Try.ent44 rfl rfl) (pSlot_ct hin ((ix l k).Imm) (rMach.w_Imm (m := (ix l k)) h19k)) (by rintro _ _ ⟨_, rfl⟩; exact ⟨hin, hb9, trivial⟩) ?_
  rintro _ _ ⟨rfl, rfl⟩
  refine AF.call 10 rfl (by kernel_rfl) (OpCall.fn Try.ent42 rfl rfl) (x13.temp 1073741824 hin (by first | (simp only [List.length_append, List.length_take, List.length_drop, List.length_nil, List.length_cons, List.length_set, List.length_replicate]; omega) | (simp; done) | (simp; omega) | omega) (fun G1 lg1 hin1 hr1 => pAt_ct hin1 hr1 (slotM ((ix l k).Imm)))) (by rintro _ _ ⟨_, rfl⟩; exact ⟨hin, hb9, trivial⟩) ?_
  rintro _ _ ⟨rfl, rfl⟩
  have w76_0 : IntKind.i32.wrap (atM o (slotM ((ix l k).Imm))) = atM o (slotM ((ix l k).Imm)) := atM_wrG x13 _
  refine AF.one 11 (by kernel_rfl) ?_
  refine AFN.call rfl (OpCall.fn Try.ent41 rfl rfl) (pPut_ct hin x13 (regP ((ix l k).D)) (atM o (slotM ((ix l k).Imm))) (by first | omega | (simp only [putM_len]; omega)) w76_0) ?_
  rintro _ H77 ⟨rfl, k77, x77_0⟩
  have zk77 := k77.1
  replace hin := hin.kw k77 (by intro k0 hk0; exact x13.no k0 hk0)
  replace hb9 := hb9.kw k77 (x13.neBx hb9 (by decide))
  replace hkp := hkp.kw k77 (by intro k0 hk0; exact x13.ge k0 hk0)
  replace x13 := x77_0
  refine ⟨⟨hin, hb9, trivial⟩, ?_⟩
  refine AF.done (by kernel_rfl) ?_
  refine PF.blockNormal (PF.blockNormal (PF.next (CF.region ?_)))
  refine LF.step (OpOk.add rfl rfl (by omega)) ?_
  refine LF.step (OpOk.move rfl) (LF.nil ?_)
  exact PF.again (k + 1, putM o (regP ((ix l k).D)) (atM o (slotM ((ix l k).Imm)))) ⟨by dsimp only; omega, by dsimp only; rw [hR, drop_ix (by omega), doM]; congr 1; unfold doM1; (repeat rw [if_neg (by omega)]) <;> (try rw [if_pos (by omega)]) <;> (try simp only [at_regP, put_regP]), by dsimp only; (try simp only [putM_len]); exact hl9, hin, hkp, x13⟩ ⟨rfl, rfl, rfl, rfl, rfl, rfl, eqI (by omega), trivial⟩ (by omega)
  refine CF.seq (CF.region ?_)
  refine LF.step (OpOk.eql rfl rfl) ?_
  refine LF.step (OpOk.assign rfl) (LF.nil (PF.next ?_))
  refine CF.if rfl (fun hc5 => ?_) (fun hc5 => ?_)
  refine CF.any (z := false) (fun H' => InH F H' ∧ Bx H' g9 39 [.int .i64 ((ix l k).Op), .int .i64 ((ix l k).D), .int .i64 ((ix l k).E), .int .i64 ((ix l k).A), .int .i64 ((ix l k).B), .int .i64 ((ix l k).C), .int .i32 ((ix l k).Imm), v19c7] ∧ True) Try.mixed ?_
  refine AF.take 0 rfl (by kernel_rfl) (by kernel_rfl) (by kernel_rfl) ⟨hin, hb9, trivial⟩ (fun _ ⟨hin, hb9, _⟩ => OpOk.move rfl) ?_
  refine AF.take 1 rfl (by kernel_rfl) (by kernel_rfl) (by kernel_rfl) ⟨hin, hb9, trivial⟩ (fun _ ⟨hin, hb9, _⟩ => OpOk.move rfl) ?_
  refine AF.take 2 rfl (by kernel_rfl) (by kernel_rfl) (by kernel_rfl) ⟨hin, hb9, trivial⟩ (fun _ ⟨hin, hb9, _⟩ => OpOk.fieldAddr (Try.fld39_6) rfl) ?_
  refine AF.take 3 rfl (by kernel_rfl) (by kernel_rfl) (by kernel_rfl) ⟨hin, hb9, trivial⟩ (fun _ ⟨hin, hb9, _⟩ => OpOk.ldBx hb9 Try.one21 rfl rfl) ?_
  refine AF.take 5 rfl (by kernel_rfl) (by kernel_rfl) (by kernel_rfl) ⟨hin, hb9, trivial⟩ (fun _ ⟨hin, hb9, _⟩ => OpOk.move rfl) ?_
  refine AF.take 6 rfl (by kernel_rfl) (by kernel_rfl) (by kernel_rfl) ⟨hin, hb9, trivial⟩ (fun _ ⟨hin, hb9, _⟩ => OpOk.move rfl) ?_
  refine AF.take 7 rfl (by kernel_rfl) (by kernel_rfl) (by kernel_rfl) ⟨hin, hb9, trivial⟩ (fun _ ⟨hin, hb9, _⟩ => OpOk.fieldAddr (Try.fld39_3) rfl) ?_
  refine AF.take 8 rfl (by kernel_rfl) (by kernel_rfl) (by kernel_rfl) ⟨hin, hb9, trivial⟩ (fun _ ⟨hin, hb9, _⟩ => OpOk.ldBx hb9 Try.one3 rfl rfl) ?_
  refine AF.call 4 rfl (by kernel_rfl) (OpCall.fn Try.ent44 rfl rfl) (pSlot_ct hin ((ix l k).Imm) (rMach.w_Imm (m := (ix l k)) h19k)) (by rintro _ _ ⟨_, rfl⟩; exact ⟨hin, hb9, trivial⟩) ?_
  rintro _ _ ⟨rfl, rfl⟩
  refine AF.call 9 rfl (by kernel_rfl) (OpCall.fn Try.ent43 rfl rfl) (pReg_ct hin ((ix l k).A)) (by rintro _ _ ⟨_, rfl⟩; exact ⟨hin, hb9, trivial⟩) ?_
  rintro _ _ ⟨rfl, rfl⟩
  refine AF.call 10 rfl (by kernel_rfl) (OpCall.fn Try.ent42 rfl rfl) (x13.temp 1073741824 hin (by first | (simp only [List.length_append, List.length_take, List.length_drop, List.length_nil, List.length_cons, List.length_set, List.length_replicate]; omega) | (simp; done) | (simp; omega) | omega) (fun G1 lg1 hin1 hr1 => pAt_ct hin1 hr1 (regP ((ix l k).A)))) (by rintro _ _ ⟨_, rfl⟩; exact ⟨hin, hb9, trivial⟩) ?_
  rintro _ _ ⟨rfl, rfl⟩
  have w90_0 : IntKind.i32.wrap (atM o (regP ((ix l k).A))) = atM o (regP ((ix l k).A)) := atM_wrG x13 _
  refine AF.one 11 (by kernel_rfl) ?_
  refine AFN.call rfl (OpCall.fn Try.ent41 rfl rfl) (pPut_ct hin x13 (slotM ((ix l k).Imm)) (atM o (regP ((ix l k).A))) (by first | omega | (simp only [putM_len]; omega)) w90_0) ?_
  rintro _ H91 ⟨rfl, k91, x91_0⟩
  have zk91 := k91.1
  replace hin := hin.kw k91 (by intro k0 hk0; exact x13.no k0 hk0)
  replace hb9 := hb9.kw k91 (x13.neBx hb9 (by decide))
  replace hkp := hkp.kw k91 (by intro k0 hk0; exact x13.ge k0 hk0)
  replace x13 := x91_0
  refine ⟨⟨hin, hb9, trivial⟩, ?_⟩
  refine AF.done (by kernel_rfl) ?_
  refine PF.blockNormal (PF.blockNormal (PF.next (CF.region ?_)))
  refine LF.step (OpOk.add rfl rfl (by omega)) ?_
  refine LF.step (OpOk.move rfl) (LF.nil ?_)
  exact PF.again (k + 1, putM o (slotM ((ix l k).Imm)) (atM o (regP ((ix l k).A)))) ⟨by dsimp only; omega, by dsimp only; rw [hR, drop_ix (by omega), doM]; congr 1; unfold doM1; (repeat rw [if_neg (by omega)]) <;> (try rw [if_pos (by omega)]) <;> (try simp only [at_regP, put_regP]), by dsimp only; (try simp only [putM_len]); exact hl9, hin, hkp, x13⟩ ⟨rfl, rfl, rfl, rfl, rfl, rfl, eqI (by omega), trivial⟩ (by omega)
  refine CF.seq (CF.seq (CF.region ?_))
  refine LF.step (OpOk.eql rfl rfl) ?_
  refine LF.step (OpOk.assign rfl) (LF.nil (PF.next ?_))
  refine CF.if rfl (fun hc6 => ?_) (fun hc6 => ?_)
  refine CF.skip (PF.next ?_)
  refine CF.if rfl (fun hc7 => ?_) (fun hc7 => ?_)
  refine CF.any (z := false) (fun H' => InH F H' ∧ Bx H' g9 39 [.int .i64 ((ix l k).Op), .int .i64 ((ix l k).D), .int .i64 ((ix l k).E), .int .i64 ((ix l k).A), .int .i64 ((ix l k).B), .int .i64 ((ix l k).C), .int .i32 ((ix l k).Imm), v19c7] ∧ True) Try.mixed ?_
  refine AF.take 0 rfl (by kernel_rfl) (by kernel_rfl) (by kernel_rfl) ⟨hin, hb9, trivial⟩ (fun _ ⟨hin, hb9, _⟩ => OpOk.move rfl) ?_
  refine AF.take 1 rfl (by kernel_rfl) (by kernel_rfl) (by kernel_rfl) ⟨hin, hb9, trivial⟩ (fun _ ⟨hin, hb9, _⟩ => OpOk.move rfl) ?_
  refine AF.take 2 rfl (by kernel_rfl) (by kernel_rfl) (by kernel_rfl) ⟨hin, hb9, trivial⟩ (fun _ ⟨hin, hb9, _⟩ => OpOk.fieldAddr (Try.fld39_1) rfl) ?_
  refine AF.take 3 rfl (by kernel_rfl) (by kernel_rfl) (by kernel_rfl) ⟨hin, hb9, trivial⟩ (fun _ ⟨hin, hb9, _⟩ => OpOk.ldBx hb9 Try.one3 rfl rfl) ?_
  refine AF.take 5 rfl (by kernel_rfl) (by kernel_rfl) (by kernel_rfl) ⟨hin, hb9, trivial⟩ (fun _ ⟨hin, hb9, _⟩ => OpOk.fieldAddr (Try.fld39_6) rfl) ?_
  refine AF.take 6 rfl (by kernel_rfl) (by kernel_rfl) (by kernel_rfl) ⟨hin, hb9, trivial⟩ (fun _ ⟨hin, hb9, _⟩ => OpOk.ldBx hb9 Try.one21 rfl rfl) ?_
  refine AF.call 4 rfl (by kernel_rfl) (OpCall.fn Try.ent43 rfl rfl) (pReg_ct hin ((ix l k).D)) (by rintro _ _ ⟨_, rfl⟩; exact ⟨hin, hb9, trivial⟩) ?_
  rintro _ _ ⟨rfl, rfl⟩
  refine AF.one 7 (by kernel_rfl) ?_
  refine AFN.call rfl (OpCall.fn Try.ent41 rfl rfl) (pPut_ct hin x13 (regP ((ix l k).D)) ((ix l k).Imm) (by first | omega | (simp only [putM_len]; omega)) (rMach.w_Imm (m := (ix l k)) h19k)) ?_
  rintro _ H102 ⟨rfl, k102, x102_0⟩
  have zk102 := k102.1
  replace hin := hin.kw k102 (by intro k0 hk0; exact x13.no k0 hk0)
  replace hb9 := hb9.kw k102 (x13.neBx hb9 (by decide))
  replace hkp := hkp.kw k102 (by intro k0 hk0; exact x13.ge k0 hk0)
  replace x13 := x102_0
  refine ⟨⟨hin, hb9, trivial⟩, ?_⟩
  refine AF.done (by kernel_rfl) ?_
  refine PF.blockNormal (PF.blockNormal (PF.next (CF.region ?_)))
  refine LF.step (OpOk.add rfl rfl (by omega)) ?_
  refine LF.step (OpOk.move rfl) (LF.nil ?_)
  exact PF.again (k + 1, putM o (regP ((ix l k).D)) ((ix l k).Imm)) ⟨by dsimp only; omega, by dsimp only; rw [hR, drop_ix (by omega), doM]; congr 1; unfold doM1; (repeat rw [if_neg (by omega)]) <;> (try rw [if_pos (by omega)]) <;> (try simp only [at_regP, put_regP]), by dsimp only; (try simp only [putM_len]); exact hl9, hin, hkp, x13⟩ ⟨rfl, rfl, rfl, rfl, rfl, rfl, eqI (by omega), trivial⟩ (by omega)
  exact absurd hc7 (by simp [hc1, hc2, hc3, hc4, hc5, hc6])
  refine CF.region ?_
  refine LF.step (OpOk.eql rfl rfl) ?_
  refine LF.step (OpOk.assign rfl) (LF.nil (PF.next ?_))
  refine CF.if rfl (fun hc8 => ?_) (fun hc8 => ?_)
  refine CF.any (z := false) (fun H' => InH F H' ∧ Bx H' g9 39 [.int .i64 ((ix l k).Op), .int .i64 ((ix l k).D), .int .i64 ((ix l k).E), .int .i64 ((ix l k).A), .int .i64 ((ix l k).B), .int .i64 ((ix l k).C), .int .i32 ((ix l k).Imm), v19c7] ∧ True) Try.mixed ?_
  refine AF.take 0 rfl (by kernel_rfl) (by kernel_rfl) (by kernel_rfl) ⟨hin, hb9, trivial⟩ (fun _ ⟨hin, hb9, _⟩ => OpOk.move rfl) ?_
  refine AF.take 1 rfl (by kernel_rfl) (by kernel_rfl) (by kernel_rfl) ⟨hin, hb9, trivial⟩ (fun _ ⟨hin, hb9, _⟩ => OpOk.move rfl) ?_
  refine AF.take 2 rfl (by kernel_rfl) (by kernel_rfl) (by kernel_rfl) ⟨hin, hb9, trivial⟩ (fun _ ⟨hin, hb9, _⟩ => OpOk.fieldAddr (Try.fld39_1) rfl) ?_
  refine AF.take 3 rfl (by kernel_rfl) (by kernel_rfl) (by kernel_rfl) ⟨hin, hb9, trivial⟩ (fun _ ⟨hin, hb9, _⟩ => OpOk.ldBx hb9 Try.one3 rfl rfl) ?_
  refine AF.take 5 rfl (by kernel_rfl) (by kernel_rfl) (by kernel_rfl) ⟨hin, hb9, trivial⟩ (fun _ ⟨hin, hb9, _⟩ => OpOk.fieldAddr (Try.fld39_6) rfl) ?_
  refine AF.take 6 rfl (by kernel_rfl) (by kernel_rfl) (by kernel_rfl) ⟨hin, hb9, trivial⟩ (fun _ ⟨hin, hb9, _⟩ => OpOk.ldBx hb9 Try.one21 rfl rfl) ?_
  refine AF.call 4 rfl (by kernel_rfl) (OpCall.fn Try.ent43 rfl rfl) (pReg_ct hin ((ix l k).D)) (by rintro _ _ ⟨_, rfl⟩; exact ⟨hin, hb9, trivial⟩) ?_
  rintro _ _ ⟨rfl, rfl⟩
  refine AF.one 7 (by kernel_rfl) ?_
  refine AFN.call rfl (OpCall.fn Try.ent41 rfl rfl) (pPut_ct hin x13 (regP ((ix l k).D)) ((ix l k).Imm) (by first | omega | (simp only [putM_len]; omega)) (rMach.w_Imm (m := (ix l k)) h19k)) ?_
  rintro _ H102 ⟨rfl, k102, x102_0⟩
  have zk102 := k102.1
  replace hin := hin.kw k102 (by intro k0 hk0; exact x13.no k0 hk0)
  replace hb9 := hb9.kw k102 (x13.neBx hb9 (by decide))
  replace hkp := hkp.kw k102 (by intro k0 hk0; exact x13.ge k0 hk0)
  replace x13 := x102_0
  refine ⟨⟨hin, hb9, trivial⟩, ?_⟩
  refine AF.done (by kernel_rfl) ?_
  refine PF.blockNormal (PF.blockNormal (PF.next (CF.region ?_)))
  refine LF.step (OpOk.add rfl rfl (by omega)) ?_
  refine LF.step (OpOk.move rfl) (LF.nil ?_)
  exact PF.again (k + 1, putM o (regP ((ix l k).D)) ((ix l k).Imm)) ⟨by dsimp only; omega, by dsimp only; rw [hR, drop_ix (by omega), doM]; congr 1; unfold doM1; (repeat rw [if_neg (by omega)]) <;> (try rw [if_pos (by omega)]) <;> (try simp only [at_regP, put_regP]), by dsimp only; (try simp only [putM_len]); exact hl9, hin, hkp, x13⟩ ⟨rfl, rfl, rfl, rfl, rfl, rfl, eqI (by omega), trivial⟩ (by omega)
  refine CF.skip (PF.blockNormal (PF.blockNormal (PF.next (CF.region ?_))))
  refine LF.step (OpOk.add rfl rfl (by omega)) ?_
  refine LF.step (OpOk.move rfl) (LF.nil ?_)
  exact PF.again (k + 1, o) ⟨by dsimp only; omega, by dsimp only; rw [hR, drop_ix (by omega), doM]; congr 1; unfold doM1; (repeat rw [if_neg (by omega)]) <;> (try rw [if_pos (by omega)]) <;> (try simp only [at_regP, put_regP]), by dsimp only; (try simp only [putM_len]); exact hl9, hin, hkp, x13⟩ ⟨rfl, rfl, rfl, rfl, rfl, rfl, eqI (by omega), trivial⟩ (by omega)
  refine CF.exit (PF.thenExit (PF.thenExit (PF.blockHere (PF.next (CF.seq (CF.region (LF.step (OpOk.move rfl) (LF.step (OpOk.assign rfl) (LF.nil (PF.next (CF.ret ?_)))))))))))
  have hm : doM l places = o := by
    rw [hR, List.drop_of_length_le (by omega)]; rfl
  exact PF.ret1 rfl rfl ⟨by rw [hm]; exact x13, hkp⟩

-- jacquard/jacquardref11.Made: function 13
theorem made_ct {F : PH} {H : Heap} (hin : InH F H) {a0 : Value} {s : List Int} {N0 : Nat} (p0 : (rLn N0 (rI .i64)).rv F a0 s) :
    Ct Try.prog 13 #[a0] H (fun v H' => ∃ F', PH.ext H F F' ∧ InH F' H' ∧ Kp H.size H H' ∧ (rL rMove).rv F' v (madeM s)) := by
  have q0 := rL.len2 p0
  have hkp := Kp.refl H.size H
  have hx := PH.ext.refl (H := H) F
  refine Ct.enter (args := [a0]) Try.func13 rfl rfl rfl (fun w0 hw0 => ?_)
  refine CF.seq (CF.region (LF.step (OpOk.assign rfl) (LF.nil (PF.next (CF.seq (CF.region (LF.step (OpOk.assign rfl) (LF.nil (PF.next (CF.seq (CF.seq ?_)))))))))))
  refine CF.region (LF.step (OpOk.assign rfl) (LF.nil (PF.next (CF.block ?_))))
  have x9001 := (fun (H9 : Heap) (_ : InH F H9) => (Gl.nil F H9 H.size : Gl rMove 31 F H9 H.size (.slice none 0 0) [])) _ hin
  refine CF.loop (ι := Nat × Value × List D.Move) (fun z9 H1 => z9.1 ≤ s.length ∧ madeFrom 0 s = z9.2.2 ++ madeFrom z9.1 (s.drop z9.1) ∧ z9.2.2.length ≤ z9.1 ∧ z9.1 ≤ 20 ∧ InH F H1 ∧ Kp H.size H H1 ∧ Gl rMove 31 F H1 H.size z9.2.1 z9.2.2) (fun z9 => [(0, a0), (2, .slice none 0 0), (3, z9.2.1), (4, .int .i64 (↑z9.1))]) (fun z9 => s.length - z9.1) (0, .slice none 0 0, []) ⟨by dsimp only; omega, rfl, by dsimp only; simp, by dsimp only; omega, hin, hkp, x9001⟩ ⟨rfl, rfl, rfl, eqI (by omega), trivial⟩ ?_
  clear hin hkp x9001
  rintro ⟨k, va, vs⟩ H1 ⟨hk, hR, hvl, hk2, hin, hkp, x9001⟩
  dsimp only at hk hR hvl hk2 x9001 ⊢
  refine CF.seq (CF.seq (CF.region (LF.step (OpOk.move rfl) (LF.step (OpOk.move rfl) ?_))))
  refine LF.step (OpOk.lenL Try.underlying23 p0 rfl) ?_
  refine LF.step (OpOk.lss rfl rfl) ?_
  refine LF.step (OpOk.move rfl) ?_
  refine LF.gstep rfl rfl (.t _) (fun hg => OpOk.move rfl) ?_
  refine LF.gstep rfl rfl (.t _) (fun hg => OpOk.lss (evg rfl hg) rfl) ?_
  refine LF.step (OpOk.pickAnd rfl rfl) ?_
  refine LF.nil (PF.next ?_)
  refine CF.if rfl (fun hc1 => ?_) (fun hc1 => ?_)
  have hk20 : k < 20 := by simp at hc1; omega
  refine CF.skip (PF.next (CF.seq (CF.block (CF.seq (CF.region (LF.step (OpOk.move rfl) ?_))))))
  refine LF.call (OpCall.fn Try.ent27 rfl rfl) (spot_ct hin ↑k (by omega)) ?_
  rintro _ _ ⟨rfl, rfl⟩
  have w18_0 : IntKind.i64.wrap (spotM ↑k) = spotM ↑k := IntWalk.i64_in _ (spotM_rng (by omega))
  refine LF.step (OpOk.assign rfl) (LF.nil (PF.next (CF.seq (CF.region (LF.step (OpOk.move rfl) (LF.step (OpOk.move rfl) ?_))))))
  refine LF.step (OpOk.idxL (i := k) Try.underlying23 Try.sz3 p0 rfl rfl rfl (by omega)) ?_
  refine LF.step (OpOk.ldI hin (rL.ix p0 k (by omega)) Try.one3 rfl) ?_
  have q1 := Int.tmod_lt_of_pos (ix s k) (show (0 : Int) < 24 by decide)
  have q2 := Int.lt_tmod_of_pos (ix s k) (show (0 : Int) < 24 by decide)
  have h24 := tm24 (ix s k)
  refine LF.step (OpOk.rem rfl rfl (by decide)) ?_
  refine LF.step (OpOk.add rfl rfl (by omega)) ?_
  refine LF.step (OpOk.rem rfl rfl (by decide)) ?_
  refine LF.step (OpOk.assign rfl) (LF.nil (PF.next (CF.seq (CF.region (LF.step (OpOk.move rfl) ?_)))))
  refine LF.step (OpOk.lss rfl rfl) ?_
  refine LF.nil (PF.next ?_)
  refine CF.if rfl (fun hc2 => ?_) (fun hc2 => ?_)
  refine CF.region (LF.step (OpOk.move rfl) (LF.step (OpOk.move rfl) (LF.step (OpOk.move rfl) ?_)))
  refine LF.call (OpCall.fn Try.ent27 rfl rfl) (spot_ct hin (Int.tmod ((Int.tmod (ix s k) 24) + 24) 24) (by omega)) ?_
  rintro _ _ ⟨rfl, rfl⟩
  have w31_0 : IntKind.i64.wrap (spotM (Int.tmod ((Int.tmod (ix s k) 24) + 24) 24)) = spotM (Int.tmod ((Int.tmod (ix s k) 24) + 24) 24) := IntWalk.i64_in _ (spotM_rng (by omega))
  refine LF.step (OpOk.build (v := .agg #[.int .i64 (spotM ↑k), .int .i64 (spotM (Int.tmod ((Int.tmod (ix s k) 24) + 24) 24))]) rfl (fun w => by kernel_rfl)) ?_
  refine LF.appA (r := rMove) (a := ⟨spotM ↑k, spotM (Int.tmod ((Int.tmod (ix s k) 24) + 24) 24)⟩) Try.underlying22 Try.info31 (by decide) rfl rfl (rMove.mk (m := ⟨spotM ↑k, spotM (Int.tmod ((Int.tmod (ix s k) 24) + 24) 24)⟩) w18_0 w31_0) x9001 hin (by first | (simp only [List.length_append, List.length_take, List.length_drop, List.length_nil, List.length_cons, List.length_set, List.length_replicate]; omega) | (simp; done) | (simp; omega) | omega) rfl ?_ hkp.1
  intro v34 H34 x34 gb34 nn34 ob34
  replace hin := hin.grown gb34 x9001.no
  replace hkp := gb34.kp hkp (Nat.le_refl _) (fun k0 hk0 => (x9001.blk k0 hk0).1)
  refine LF.step (OpOk.assign rfl) (LF.nil (PF.blockNormal (PF.next (CF.region (LF.step (OpOk.move rfl) ?_)))))
  refine LF.step (OpOk.add rfl rfl (by omega)) ?_
  refine LF.step (OpOk.assign rfl) (LF.nil ?_)
  exact PF.again (k + 1, v34, vs ++ [⟨spotM ((k : Nat) : Int), spotM (Int.tmod ((Int.tmod (ix s k) 24) + 24) 24)⟩]) ⟨by dsimp only; omega, by dsimp only; rw [hR, madeM_drop (by omega), if_neg (by omega)]; first | (rw [if_pos (by omega)]; simp; done) | (rw [if_neg (by omega)]), by dsimp only; (try simp only [List.length_append, List.length_cons, List.length_nil]); omega, by dsimp only; omega, hin, hkp, x34⟩ ⟨rfl, rfl, rfl, eqI (by omega), trivial⟩ (by omega)
  refine CF.skip (PF.blockNormal (PF.next (CF.region (LF.step (OpOk.move rfl) ?_))))
  refine LF.step (OpOk.add rfl rfl (by omega)) ?_
  refine LF.step (OpOk.assign rfl) (LF.nil ?_)
  exact PF.again (k + 1, va, vs) ⟨by dsimp only; omega, by dsimp only; rw [hR, madeM_drop (by omega), if_neg (by omega)]; first | (rw [if_pos (by omega)]; simp; done) | (rw [if_neg (by omega)]), by dsimp only; (try simp only [List.length_append, List.length_cons, List.length_nil]); omega, by dsimp only; omega, hin, hkp, x9001⟩ ⟨rfl, rfl, rfl, eqI (by omega), trivial⟩ (by omega)
  have hk20 : s.length ≤ k ∨ 20 ≤ k := by simp at hc1; omega
  refine CF.exit (PF.thenExit (PF.thenExit (PF.blockHere (PF.next (CF.seq (CF.region (LF.step (OpOk.move rfl) (LF.step (OpOk.assign rfl) (LF.nil (PF.next (CF.ret ?_)))))))))))
  obtain ⟨Fz1, hxz1, lez1, hinz1, _, hrz1⟩ := x9001.freezeX hin hx (Nat.le_refl _) (by first | (simp only [List.length_append, List.length_take, List.length_drop, List.length_nil, List.length_cons, List.length_set, List.length_replicate]; omega) | (simp; done) | (simp; omega) | omega)
  replace hin := hinz1
  replace hx := hxz1
  have le0 := lez1
  have hm : madeM s = vs := by
    unfold madeM; rw [hR, madeFrom_end (by omega)]; simp
  exact PF.ret1 rfl rfl ⟨_, hx, hin, hkp, by rw [hm]; exact hrz1⟩

-- jacquard/jacquardref11.source: function 52
theorem source_ct {F : PH} {H : Heap} (hin : InH F H) {a0 : Value} {l : List D.Move} (p0 : (rL rMove).rv F a0 l) (p : Int) :
    Ct Try.prog 52 #[a0, .int .i64 p] H (fun v H' => v = .int .i64 (srcM l p) ∧ H' = H) := by
  have q0 := rL.len2 p0
  have hkp := Kp.refl H.size H
  have hx := PH.ext.refl (H := H) F
  refine Ct.enter (args := [a0, .int .i64 p]) Try.func52 rfl rfl rfl (fun w0 hw0 => ?_)
  refine CF.seq (CF.region (LF.step (OpOk.assign rfl) (LF.nil (PF.next (CF.seq (CF.region (LF.step (OpOk.assign rfl) (LF.nil (PF.next (CF.seq (CF.seq ?_)))))))))))
  refine CF.region (LF.step (OpOk.assign rfl) (LF.nil (PF.next (CF.block ?_))))
  refine CF.loop (ι := Nat × Int) (fun z9 H1 => z9.1 ≤ l.length ∧ sourceM l p (-1) = sourceM (l.drop z9.1) p z9.2 ∧ H1 = H) (fun z9 => [(0, a0), (1, .int .i64 p), (4, .int .i64 0), (5, .int .i64 z9.2), (6, .int .i64 (↑z9.1))]) (fun z9 => l.length - z9.1) (0, -1) ⟨by dsimp only; omega, rfl, rfl⟩ ⟨rfl, rfl, rfl, eqI (by omega), eqI (by omega), trivial⟩ ?_
  rintro ⟨k, o⟩ H1 ⟨hk, hR, rfl⟩
  dsimp only at hk hR ⊢
  refine CF.seq (CF.seq (CF.region (LF.step (OpOk.move rfl) (LF.step (OpOk.move rfl) ?_))))
  refine LF.step (OpOk.lenL Try.underlying22 p0 rfl) ?_
  refine LF.step (OpOk.lss rfl rfl) ?_
  refine LF.nil (PF.next ?_)
  refine CF.if rfl (fun hc1 => ?_) (fun hc1 => ?_)
  refine CF.skip (PF.next (CF.seq (CF.block (CF.seq (CF.region (LF.step (OpOk.move rfl) (LF.step (OpOk.move rfl) ?_)))))))
  refine LF.step (OpOk.idxL (i := k) Try.underlying22 Try.sz31 p0 rfl rfl rfl (by omega)) ?_
  refine LF.step (OpOk.fieldAddr (Try.fld31_0) rfl) ?_
  refine LF.step (OpOk.ldI hin (rMove.at_To (rL.ix p0 k (by omega))) Try.one3 rfl) ?_
  refine LF.step (OpOk.move rfl) ?_
  refine LF.step (OpOk.eql rfl rfl) ?_
  refine LF.nil (PF.next ?_)
  refine CF.if rfl (fun hc2 => ?_) (fun hc2 => ?_)
  refine CF.region (LF.step (OpOk.move rfl) (LF.step (OpOk.move rfl) ?_))
  refine LF.step (OpOk.idxL (i := k) Try.underlying22 Try.sz31 p0 rfl rfl rfl (by omega)) ?_
  refine LF.step (OpOk.fieldAddr (Try.fld31_1) rfl) ?_
  refine LF.step (OpOk.ldI hin (rMove.at_From (rL.ix p0 k (by omega))) Try.one3 rfl) ?_
  refine LF.step (OpOk.assign rfl) (LF.nil (PF.blockNormal (PF.next (CF.region (LF.step (OpOk.move rfl) ?_)))))
  refine LF.step (OpOk.add rfl rfl (by omega)) ?_
  refine LF.step (OpOk.assign rfl) (LF.nil ?_)
  exact PF.again (k + 1, (ix l k).From) ⟨by dsimp only; omega, by dsimp only; rw [hR, sourceM_drop _ _ (by omega)]; first | rw [if_pos (by assumption)] | rw [if_neg (by assumption)], rfl⟩ ⟨rfl, rfl, rfl, eqI (by omega), eqI (by omega), trivial⟩ (by omega)
  refine CF.skip (PF.blockNormal (PF.next (CF.region (LF.step (OpOk.move rfl) ?_))))
  refine LF.step (OpOk.add rfl rfl (by omega)) ?_
  refine LF.step (OpOk.assign rfl) (LF.nil ?_)
  exact PF.again (k + 1, o) ⟨by dsimp only; omega, by dsimp only; rw [hR, sourceM_drop _ _ (by omega)]; first | rw [if_pos (by assumption)] | rw [if_neg (by assumption)], rfl⟩ ⟨rfl, rfl, rfl, rfl, eqI (by omega), trivial⟩ (by omega)
  refine CF.exit (PF.thenExit (PF.thenExit (PF.blockHere (PF.next (CF.seq (CF.region (LF.step (OpOk.move rfl) (LF.step (OpOk.assign rfl) (LF.nil (PF.next (CF.ret ?_)))))))))))
  have hm : srcM l p = o := by
    unfold srcM; rw [hR, List.drop_of_length_le (by omega)]; rfl
  exact PF.ret1 rfl rfl ⟨by rw [hm] <;> rfl, rfl⟩

-- jacquard/jacquardref11.without: function 53
theorem without_ct {F : PH} {H : Heap} (hin : InH F H) {a0 : Value} {l : List D.Move} (p0 : (rL rMove).rv F a0 l) (p : Int) :
    Ct Try.prog 53 #[a0, .int .i64 p] H (fun v H' => ∃ F', PH.ext H F F' ∧ InH F' H' ∧ Kp H.size H H' ∧ (rL rMove).rv F' v (withoutM l p)) := by
  have q0 := rL.len2 p0
  have hkp := Kp.refl H.size H
  have hx := PH.ext.refl (H := H) F
  refine Ct.enter (args := [a0, .int .i64 p]) Try.func53 rfl rfl rfl (fun w0 hw0 => ?_)
  refine CF.seq (CF.region (LF.step (OpOk.assign rfl) (LF.nil (PF.next (CF.seq (CF.region (LF.step (OpOk.assign rfl) (LF.nil (PF.next (CF.seq (CF.seq ?_)))))))))))
  refine CF.region (LF.step (OpOk.assign rfl) (LF.nil (PF.next (CF.block ?_))))
  have x9001 := (fun (H9 : Heap) (_ : InH F H9) => (Gl.nil F H9 H.size : Gl rMove 31 F H9 H.size (.slice none 0 0) [])) _ hin
  refine CF.loop (ι := Nat × Value × List D.Move) (fun z9 H1 => z9.1 ≤ l.length ∧ z9.2.2 = withoutM (l.take z9.1) p ∧ InH F H1 ∧ Kp H.size H H1 ∧ Gl rMove 31 F H1 H.size z9.2.1 z9.2.2) (fun z9 => [(0, a0), (1, .int .i64 p), (4, .slice none 0 0), (5, z9.2.1), (6, .int .i64 (↑z9.1))]) (fun z9 => l.length - z9.1) (0, .slice none 0 0, []) ⟨by dsimp only; omega, rfl, hin, hkp, x9001⟩ ⟨rfl, rfl, rfl, rfl, eqI (by omega), trivial⟩ ?_
  clear hin hkp x9001
  rintro ⟨k, va, vs⟩ H1 ⟨hk, hR, hin, hkp, x9001⟩
  dsimp only at hk hR x9001 ⊢
  have hvl : vs.length ≤ k := by rw [hR]; have := List.length_filter_le (fun (m : D.Move) => decide (m.To ≠ p)) (l.take k); unfold withoutM; simp at this ⊢; omega
  refine CF.seq (CF.seq (CF.region (LF.step (OpOk.move rfl) (LF.step (OpOk.move rfl) ?_))))
  refine LF.step (OpOk.lenL Try.underlying22 p0 rfl) ?_
  refine LF.step (OpOk.lss rfl rfl) ?_
  refine LF.nil (PF.next ?_)
  refine CF.if rfl (fun hc1 => ?_) (fun hc1 => ?_)
  refine CF.skip (PF.next (CF.seq (CF.block (CF.seq (CF.region (LF.step (OpOk.move rfl) (LF.step (OpOk.move rfl) ?_)))))))
  refine LF.step (OpOk.idxL (i := k) Try.underlying22 Try.sz31 p0 rfl rfl rfl (by omega)) ?_
  refine LF.step (OpOk.fieldAddr (Try.fld31_0) rfl) ?_
  refine LF.step (OpOk.ldI hin (rMove.at_To (rL.ix p0 k (by omega))) Try.one3 rfl) ?_
  refine LF.step (OpOk.move rfl) ?_
  refine LF.step (OpOk.neq rfl rfl) ?_
  refine LF.nil (PF.next ?_)
  refine CF.if rfl (fun hc2 => ?_) (fun hc2 => ?_)
  refine CF.region (LF.step (OpOk.move rfl) (LF.step (OpOk.move rfl) (LF.step (OpOk.move rfl) ?_)))
  refine LF.step (OpOk.idxL (i := k) Try.underlying22 Try.sz31 p0 rfl rfl rfl (by omega)) ?_
  refine LF.stepE (OpOk.ldA hin (rL.ix p0 k (by omega)) Try.agg31 Try.sz31 rfl) ?_
  intro v24 h24
  have h24k := rMove.any h24
  obtain rfl := rMove.open h24
  refine LF.appA (r := rMove) (a := ix l k) Try.underlying22 Try.info31 (by decide) rfl rfl h24 x9001 hin (by first | (simp only [List.length_append, List.length_take, List.length_drop, List.length_nil, List.length_cons, List.length_set, List.length_replicate]; omega) | (simp; done) | (simp; omega) | omega) rfl ?_ hkp.1
  intro v26 H26 x26 gb26 nn26 ob26
  replace hin := hin.grown gb26 x9001.no
  replace hkp := gb26.kp hkp (Nat.le_refl _) (fun k0 hk0 => (x9001.blk k0 hk0).1)
  refine LF.step (OpOk.assign rfl) (LF.nil (PF.blockNormal (PF.next (CF.region (LF.step (OpOk.move rfl) ?_)))))
  refine LF.step (OpOk.add rfl rfl (by omega)) ?_
  refine LF.step (OpOk.assign rfl) (LF.nil ?_)
  exact PF.again (k + 1, v26, vs ++ [ix l k]) ⟨by dsimp only; omega, by dsimp only; unfold withoutM at hR ⊢; rw [hR, take_ix (by omega), List.filter_append]; simp [List.filter, *], hin, hkp, x26⟩ ⟨rfl, rfl, rfl, rfl, eqI (by omega), trivial⟩ (by omega)
  refine CF.skip (PF.blockNormal (PF.next (CF.region (LF.step (OpOk.move rfl) ?_))))
  refine LF.step (OpOk.add rfl rfl (by omega)) ?_
  refine LF.step (OpOk.assign rfl) (LF.nil ?_)
  exact PF.again (k + 1, va, vs) ⟨by dsimp only; omega, by dsimp only; unfold withoutM at hR ⊢; rw [hR, take_ix (by omega), List.filter_append]; simp [List.filter, *], hin, hkp, x9001⟩ ⟨rfl, rfl, rfl, rfl, eqI (by omega), trivial⟩ (by omega)
  refine CF.exit (PF.thenExit (PF.thenExit (PF.blockHere (PF.next (CF.seq (CF.region (LF.step (OpOk.move rfl) (LF.step (OpOk.assign rfl) (LF.nil (PF.next (CF.ret ?_)))))))))))
  obtain ⟨Fz1, hxz1, lez1, hinz1, _, hrz1⟩ := x9001.freezeX hin hx (Nat.le_refl _) (by first | (simp only [List.length_append, List.length_take, List.length_drop, List.length_nil, List.length_cons, List.length_set, List.length_replicate]; omega) | (simp; done) | (simp; omega) | omega)
  replace hin := hinz1
  replace hx := hxz1
  have le0 := lez1
  have hm : withoutM l p = vs := by
    rw [hR, List.take_of_length_le (by omega)]
  exact PF.ret1 rfl rfl ⟨_, hx, hin, hkp, by rw [hm]; exact hrz1⟩

-- jacquard/jacquardlaw11.few: function 15
theorem few_ct {F : PH} {H : Heap} (hin : InH F H) {a0 : Value} {l : List D.Move} {N0 : Nat} (p0 : (rLn N0 rMove).rv F a0 l) :
    Ct Try.prog 15 #[a0] H (fun v H' => ∃ F', PH.ext H F F' ∧ InH F' H' ∧ Kp H.size H H' ∧ (rL rMove).rv F' v (fewM l)) := by
  have q0 := rL.len2 p0
  have hkp := Kp.refl H.size H
  have hx := PH.ext.refl (H := H) F
  refine Ct.enter (args := [a0]) Try.func15 rfl rfl rfl (fun w0 hw0 => ?_)
  refine CF.seq (CF.region (LF.step (OpOk.assign rfl) (LF.nil (PF.next (CF.seq (CF.seq (CF.region (LF.step (OpOk.move rfl) ?_))))))))
  refine LF.step (OpOk.lenL Try.underlying22 p0 rfl) ?_
  refine LF.step (OpOk.gtr rfl rfl) ?_
  refine LF.nil (PF.next ?_)
  refine CF.if rfl (fun hc1 => ?_) (fun hc1 => ?_)
  refine CF.seq (CF.region (LF.step (OpOk.move rfl) ?_))
  refine LF.step (OpOk.sliceHiL (hi := 24) Try.underlying22 Try.sz31 p0 hin rfl rfl rfl (by omega)) ?_
  refine LF.step (OpOk.assign rfl) (LF.nil (PF.next (CF.ret (PF.thenRet ?_))))
  have hm : fewM l = (List.take 24 l) := by
    first | rfl | (unfold fewM; rw [List.take_of_length_le (by omega)])
  exact PF.ret1 rfl rfl ⟨_, hx, hin, hkp, by rw [hm]; exact (rL.hi p0 24 (by omega) (by omega))⟩
  replace p0 := rL.ren (M := 1073741824) p0 (by omega)
  refine CF.skip (PF.next (CF.seq (CF.region (LF.step (OpOk.move rfl) (LF.step (OpOk.assign rfl) (LF.nil (PF.next (CF.ret ?_))))))))
  have hm : fewM l = l := by
    first | rfl | (unfold fewM; rw [List.take_of_length_le (by omega)])
  exact PF.ret1 rfl rfl ⟨_, hx, hin, hkp, by rw [hm]; exact p0⟩

-- jacquard/jacquardlaw11.start: function 20
theorem start_ct {F : PH} {H : Heap} (hin : InH F H) (x : Int) :
    Ct Try.prog 20 #[.int .i32 x] H (fun v H' => Gl (rI .i32) 21 F H' H.size v (startM x) ∧ Kp H.size H H') := by
  have hkp := Kp.refl H.size H
  have hx := PH.ext.refl (H := H) F
  refine Ct.enter (args := [.int .i32 x]) Try.func20 rfl rfl rfl (fun w0 hw0 => ?_)
  refine CF.seq (CF.region (LF.step (OpOk.assign rfl) (LF.nil (PF.next (CF.seq (CF.region (LF.step (OpOk.assign rfl) (LF.nil (PF.next (CF.seq (CF.seq ?_)))))))))))
  refine CF.region (LF.step (OpOk.assign rfl) (LF.nil (PF.next (CF.block ?_))))
  have x9001 := (fun (H9 : Heap) (_ : InH F H9) => (Gl.nil F H9 H.size : Gl (rI .i32) 21 F H9 H.size (.slice none 0 0) [])) _ hin
  refine CF.loop (ι := Nat × Value × List Int) (fun z9 H1 => z9.1 ≤ 40 ∧ z9.2.2 = (List.range z9.1).map (fun (i : Nat) => IntKind.i32.wrap (x + IntKind.i32.wrap (IntKind.i32.wrap (i : Int) * 1000003))) ∧ InH F H1 ∧ Kp H.size H H1 ∧ Gl (rI .i32) 21 F H1 H.size z9.2.1 z9.2.2) (fun z9 => [(0, .int .i32 x), (2, .slice none 0 0), (3, z9.2.1), (4, .int .i64 (↑z9.1))]) (fun z9 => 40 - z9.1) (0, .slice none 0 0, []) ⟨by dsimp only; omega, rfl, hin, hkp, x9001⟩ ⟨rfl, rfl, rfl, eqI (by omega), trivial⟩ ?_
  clear hin hkp x9001
  rintro ⟨k, va, vs⟩ H1 ⟨hk, hR, hin, hkp, x9001⟩
  dsimp only at hk hR x9001 ⊢
  have hvl := startM_take x k hk vs hR
  refine CF.seq (CF.seq (CF.region (LF.step (OpOk.move rfl) ?_)))
  refine LF.step (OpOk.lss rfl rfl) ?_
  refine LF.nil (PF.next ?_)
  refine CF.if rfl (fun hc1 => ?_) (fun hc1 => ?_)
  refine CF.skip (PF.next (CF.seq (CF.block (CF.region (LF.step (OpOk.move rfl) (LF.step (OpOk.move rfl) (LF.step (OpOk.move rfl) ?_)))))))
  refine LF.step (OpOk.convI Try.underlying3 Try.underlying21 rfl rfl) ?_
  refine LF.step (OpOk.mulw rfl rfl rfl) ?_
  refine LF.step (OpOk.addw rfl rfl rfl) ?_
  refine LF.appV (r := (rI .i32)) (a := IntKind.i32.wrap (x + (IntKind.i32.wrap ((IntKind.i32.wrap ↑k) * 1000003)))) Try.underlying44 Try.info21 (by decide) rfl rfl rfl ⟨rfl, (wrap_wrap _ _)⟩ x9001 hin (by first | (simp only [List.length_append, List.length_take, List.length_drop, List.length_nil, List.length_cons, List.length_set, List.length_replicate]; omega) | (simp; done) | (simp; omega) | omega) rfl ?_ hkp.1
  intro v16 H16 x16 gb16 nn16 ob16
  replace hin := hin.grown gb16 x9001.no
  replace hkp := gb16.kp hkp (Nat.le_refl _) (fun k0 hk0 => (x9001.blk k0 hk0).1)
  refine LF.step (OpOk.assign rfl) (LF.nil (PF.blockNormal (PF.next (CF.region (LF.step (OpOk.move rfl) ?_)))))
  refine LF.step (OpOk.add rfl rfl (by omega)) ?_
  refine LF.step (OpOk.assign rfl) (LF.nil ?_)
  exact PF.again (k + 1, v16, vs ++ [IntKind.i32.wrap (x + (IntKind.i32.wrap ((IntKind.i32.wrap ((k : Nat) : Int)) * 1000003)))]) ⟨by dsimp only; omega, by dsimp only; rw [hR, List.range_succ, List.map_append]; rfl, hin, hkp, x16⟩ ⟨rfl, rfl, rfl, eqI (by omega), trivial⟩ (by omega)
  refine CF.exit (PF.thenExit (PF.thenExit (PF.blockHere (PF.next (CF.seq (CF.region (LF.step (OpOk.move rfl) (LF.step (OpOk.assign rfl) (LF.nil (PF.next (CF.ret ?_)))))))))))
  have hm : startM x = vs := by
    unfold startM; rw [hR]; congr 2; omega
  exact PF.ret1 rfl rfl ⟨by rw [hm]; exact x9001, hkp⟩

end Go.Proofs.Ytcceglmmpbdhiaa
