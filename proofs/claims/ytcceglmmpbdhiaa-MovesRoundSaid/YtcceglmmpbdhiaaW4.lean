/- Walks. Conditions: each contract names its own. -/
import Derived.Test.YtcceglmmpbdhiaaW3
namespace Go.Proofs.Ytcceglmmpbdhiaa
set_option linter.unusedVariables false
set_option linter.unusedSimpArgs false
set_option linter.unusedSectionVars false
set_option maxRecDepth 8000
open Go.JE

theorem Try.fld39_2 : Fld Try.prog 39 2 2 := ⟨_, _, Try.underlying39, rfl, rfl, 1, (by unfold Sz; kernel_rfl), by decide⟩
theorem Try.fld39_5 : Fld Try.prog 39 5 5 := ⟨_, _, Try.underlying39, rfl, rfl, 1, (by unfold Sz; kernel_rfl), by decide⟩
theorem Try.fld39_7 : Fld Try.prog 39 7 7 := ⟨_, _, Try.underlying39, rfl, rfl, 1, (by unfold Sz; kernel_rfl), by decide⟩
theorem Try.one23 : One Try.prog 23 := ⟨_, Try.underlying23, rfl⟩
-- jacquard/jacquardref11.Same: function 19
theorem same_ct {F : PH} {H : Heap} (hin : InH F H) {a0 : Value} {a : List D.Mach} (p0 : (rL rMach).rv F a0 a) {a1 : Value} {b : List D.Mach} (p1 : (rL rMach).rv F a1 b) :
    Ct Try.prog 19 #[a0, a1] H (fun v H' => v = .bool (sameM a b) ∧ Kp H.size H H') := by
  have q0 := rL.len2 p0
  have q1 := rL.len2 p1
  have hkp := Kp.refl H.size H
  have hx := PH.ext.refl (H := H) F
  refine Ct.enter (args := [a0, a1]) Try.func19 rfl rfl rfl (fun w0 hw0 => ?_)
  refine CF.seq (CF.region (LF.step (OpOk.assign rfl) (LF.nil (PF.next (CF.seq (CF.seq (CF.region (LF.step (OpOk.move rfl) ?_))))))))
  refine LF.step (OpOk.lenL Try.underlying34 p0 rfl) ?_
  refine LF.step (OpOk.move rfl) ?_
  refine LF.step (OpOk.lenL Try.underlying34 p1 rfl) ?_
  refine LF.step (OpOk.neq rfl rfl) ?_
  refine LF.nil (PF.next ?_)
  refine CF.if rfl (fun hc1 => ?_) (fun hc1 => ?_)
  refine CF.seq (CF.region (LF.step (OpOk.assign rfl) (LF.nil (PF.next (CF.ret (PF.thenRet ?_))))))
  exact PF.ret1 rfl rfl ⟨by rw [sameM_len (by omega)], hkp⟩
  refine CF.skip (PF.next (CF.seq (CF.seq (CF.region (LF.step (OpOk.assign rfl) (LF.nil (PF.next (CF.block ?_))))))))
  refine CF.loop (ι := Nat) (fun k H1 => k ≤ a.length ∧ a.take k = b.take k ∧ (a.take k).all (fun i => decide (i.Args = [])) = true ∧ InH F H1 ∧ Kp H.size H H1) (fun k => [(0, a0), (1, a1), (5, .int .i64 (↑k))]) (fun k => a.length - k) 0 ⟨by omega, rfl, rfl, hin, hkp⟩ ⟨rfl, rfl, eqI (by omega), trivial⟩ ?_
  clear hin hkp
  rintro k H1 ⟨hk, hR, hA, hin, hkp⟩
  refine CF.seq (CF.seq (CF.region (LF.step (OpOk.move rfl) (LF.step (OpOk.move rfl) ?_))))
  refine LF.step (OpOk.lenL Try.underlying34 p0 rfl) ?_
  refine LF.step (OpOk.lss rfl rfl) ?_
  refine LF.nil (PF.next ?_)
  refine CF.if rfl (fun hc2 => ?_) (fun hc2 => ?_)
  refine CF.skip (PF.next (CF.seq (CF.block (CF.seq (CF.region (LF.step (OpOk.move rfl) (LF.step (OpOk.move rfl) ?_)))))))
  refine LF.step (OpOk.idxL (i := k) Try.underlying34 Try.sz39 p0 rfl rfl rfl (by omega)) ?_
  refine LF.stepE (OpOk.ldA hin (rL.ix p0 k (by omega)) Try.agg39 Try.sz39 rfl) ?_
  intro v22 h22
  have h22k := rMach.any h22
  obtain ⟨v22c7, rfl, h22c7⟩ := rMach.open h22
  have h22c7q := rL.len2 h22c7
  refine LF.chg (OpCh.allocB Try.zero39 rfl) ?_
  rintro _ H6 ⟨g6, rfl, eg6, sg6, kg6, hb6⟩
  have ng6 := hin.nope (Nat.le_of_eq eg6.symm)
  have lg6 := hkp.1
  have zkg6 := kg6.1
  replace hin := hin.kp kg6
  replace hkp := hkp.trans (kg6.mono hkp.1)
  clear kg6
  refine LF.chg0 (OpCh.storeBA hb6 Try.sz39 rfl rfl rfl (allOne.mem (l := [.int .i64 ((ix a k).Op), .int .i64 ((ix a k).D), .int .i64 ((ix a k).E), .int .i64 ((ix a k).A), .int .i64 ((ix a k).B), .int .i64 ((ix a k).C), .int .i32 ((ix a k).Imm), v22c7]) ⟨rfl, rfl, rfl, rfl, rfl, rfl, rfl, (h22c7.one1), trivial⟩) (by decide)) ?_
  rintro _ Hw1 ⟨tw1, bw1⟩
  have ztw1 := tw1.1
  replace hin := hin.tw tw1 ng6
  replace hkp := Tw.kp' hkp tw1 (by omega)
  replace hb6 : Bx _ _ _ [.int .i64 ((ix a k).Op), .int .i64 ((ix a k).D), .int .i64 ((ix a k).E), .int .i64 ((ix a k).A), .int .i64 ((ix a k).B), .int .i64 ((ix a k).C), .int .i32 ((ix a k).Imm), v22c7] := bw1
  clear bw1 tw1
  refine LF.nil (PF.next (CF.seq (CF.region (LF.step (OpOk.move rfl) (LF.step (OpOk.move rfl) ?_)))))
  refine LF.step (OpOk.idxL (i := k) Try.underlying34 Try.sz39 p1 rfl rfl rfl (by omega)) ?_
  refine LF.stepE (OpOk.ldA hin (rL.ix p1 k (by omega)) Try.agg39 Try.sz39 rfl) ?_
  intro v26 h26
  have h26k := rMach.any h26
  obtain ⟨v26c7, rfl, h26c7⟩ := rMach.open h26
  have h26c7q := rL.len2 h26c7
  refine LF.chg (OpCh.allocB Try.zero39 rfl) ?_
  rintro _ H7 ⟨g7, rfl, eg7, sg7, kg7, hb7⟩
  have ng7 := hin.nope (Nat.le_of_eq eg7.symm)
  have lg7 := hkp.1
  have nb7_6 : g6 ≠ g7 := by have := hb6.lt; omega
  have zkg7 := kg7.1
  replace hin := hin.kp kg7
  replace hkp := hkp.trans (kg7.mono hkp.1)
  replace hb6 := hb6.kp kg7
  clear kg7
  refine LF.chg0 (OpCh.storeBA hb7 Try.sz39 rfl rfl rfl (allOne.mem (l := [.int .i64 ((ix b k).Op), .int .i64 ((ix b k).D), .int .i64 ((ix b k).E), .int .i64 ((ix b k).A), .int .i64 ((ix b k).B), .int .i64 ((ix b k).C), .int .i32 ((ix b k).Imm), v26c7]) ⟨rfl, rfl, rfl, rfl, rfl, rfl, rfl, (h26c7.one1), trivial⟩) (by decide)) ?_
  rintro _ Hw2 ⟨tw2, bw2⟩
  have ztw2 := tw2.1
  replace hin := hin.tw tw2 ng7
  replace hkp := Tw.kp' hkp tw2 (by omega)
  replace hb6 := hb6.tw tw2 (by first | omega | assumption | exact Ne.symm (by assumption))
  replace hb7 : Bx _ _ _ [.int .i64 ((ix b k).Op), .int .i64 ((ix b k).D), .int .i64 ((ix b k).E), .int .i64 ((ix b k).A), .int .i64 ((ix b k).B), .int .i64 ((ix b k).C), .int .i32 ((ix b k).Imm), v26c7] := bw2
  clear bw2 tw2
  refine LF.nil (PF.next (CF.seq (CF.region ?_)))
  refine LF.step (OpOk.fieldAddr (Try.fld39_0) rfl) ?_
  refine LF.step (OpOk.ldBx hb6 Try.one3 rfl rfl) ?_
  refine LF.step (OpOk.fieldAddr (Try.fld39_0) rfl) ?_
  refine LF.step (OpOk.ldBx hb7 Try.one3 rfl rfl) ?_
  refine LF.step (OpOk.neq rfl rfl) ?_
  refine LF.step (OpOk.move rfl) ?_
  refine LF.gstep rfl rfl (.f _) (fun hg => OpOk.fieldAddr (Try.fld39_1) rfl) ?_
  refine LF.gstep rfl rfl (.f _) (fun hg => OpOk.ldBx hb6 Try.one3 (evg rfl hg) rfl) ?_
  refine LF.gstep rfl rfl (.f _) (fun hg => OpOk.fieldAddr (Try.fld39_1) rfl) ?_
  refine LF.gstep rfl rfl (.f _) (fun hg => OpOk.ldBx hb7 Try.one3 (evg rfl hg) rfl) ?_
  refine LF.gstep rfl rfl (.f _) (fun hg => OpOk.neq (evg rfl hg) (evg rfl hg)) ?_
  refine LF.step (OpOk.pickOr rfl rfl) ?_
  refine LF.step (OpOk.move rfl) ?_
  refine LF.gstep rfl rfl (.f _) (fun hg => OpOk.fieldAddr (Try.fld39_2) rfl) ?_
  refine LF.gstep rfl rfl (.f _) (fun hg => OpOk.ldBx hb6 Try.one3 (evg rfl hg) rfl) ?_
  refine LF.gstep rfl rfl (.f _) (fun hg => OpOk.fieldAddr (Try.fld39_2) rfl) ?_
  refine LF.gstep rfl rfl (.f _) (fun hg => OpOk.ldBx hb7 Try.one3 (evg rfl hg) rfl) ?_
  refine LF.gstep rfl rfl (.f _) (fun hg => OpOk.neq (evg rfl hg) (evg rfl hg)) ?_
  refine LF.step (OpOk.pickOr rfl rfl) ?_
  refine LF.step (OpOk.move rfl) ?_
  refine LF.gstep rfl rfl (.f _) (fun hg => OpOk.fieldAddr (Try.fld39_3) rfl) ?_
  refine LF.gstep rfl rfl (.f _) (fun hg => OpOk.ldBx hb6 Try.one3 (evg rfl hg) rfl) ?_
  refine LF.gstep rfl rfl (.f _) (fun hg => OpOk.fieldAddr (Try.fld39_3) rfl) ?_
  refine LF.gstep rfl rfl (.f _) (fun hg => OpOk.ldBx hb7 Try.one3 (evg rfl hg) rfl) ?_
  refine LF.gstep rfl rfl (.f _) (fun hg => OpOk.neq (evg rfl hg) (evg rfl hg)) ?_
  refine LF.step (OpOk.pickOr rfl rfl) ?_
  refine LF.step (OpOk.move rfl) ?_
  refine LF.gstep rfl rfl (.f _) (fun hg => OpOk.fieldAddr (Try.fld39_4) rfl) ?_
  refine LF.gstep rfl rfl (.f _) (fun hg => OpOk.ldBx hb6 Try.one3 (evg rfl hg) rfl) ?_
  refine LF.gstep rfl rfl (.f _) (fun hg => OpOk.fieldAddr (Try.fld39_4) rfl) ?_
  refine LF.gstep rfl rfl (.f _) (fun hg => OpOk.ldBx hb7 Try.one3 (evg rfl hg) rfl) ?_
  refine LF.gstep rfl rfl (.f _) (fun hg => OpOk.neq (evg rfl hg) (evg rfl hg)) ?_
  refine LF.step (OpOk.pickOr rfl rfl) ?_
  refine LF.step (OpOk.move rfl) ?_
  refine LF.gstep rfl rfl (.f _) (fun hg => OpOk.fieldAddr (Try.fld39_5) rfl) ?_
  refine LF.gstep rfl rfl (.f _) (fun hg => OpOk.ldBx hb6 Try.one3 (evg rfl hg) rfl) ?_
  refine LF.gstep rfl rfl (.f _) (fun hg => OpOk.fieldAddr (Try.fld39_5) rfl) ?_
  refine LF.gstep rfl rfl (.f _) (fun hg => OpOk.ldBx hb7 Try.one3 (evg rfl hg) rfl) ?_
  refine LF.gstep rfl rfl (.f _) (fun hg => OpOk.neq (evg rfl hg) (evg rfl hg)) ?_
  refine LF.step (OpOk.pickOr rfl rfl) ?_
  refine LF.step (OpOk.move rfl) ?_
  refine LF.gstep rfl rfl (.f _) (fun hg => OpOk.fieldAddr (Try.fld39_6) rfl) ?_
  refine LF.gstep rfl rfl (.f _) (fun hg => OpOk.ldBx hb6 Try.one21 (evg rfl hg) rfl) ?_
  refine LF.gstep rfl rfl (.f _) (fun hg => OpOk.fieldAddr (Try.fld39_6) rfl) ?_
  refine LF.gstep rfl rfl (.f _) (fun hg => OpOk.ldBx hb7 Try.one21 (evg rfl hg) rfl) ?_
  refine LF.gstep rfl rfl (.f _) (fun hg => OpOk.neq (evg rfl hg) (evg rfl hg)) ?_
  refine LF.step (OpOk.pickOr rfl rfl) ?_
  refine LF.step (OpOk.move rfl) ?_
  refine LF.gstep rfl rfl (.f _) (fun hg => OpOk.fieldAddr (Try.fld39_7) rfl) ?_
  refine LF.gstep rfl rfl (.f _) (fun hg => OpOk.ldBx hb6 Try.one23 (evg rfl hg) rfl) ?_
  refine LF.gstep rfl rfl (.f _) (fun hg => OpOk.lenL Try.underlying23 h22c7 (evg rfl hg)) ?_
  refine LF.gstep rfl rfl (.f _) (fun hg => OpOk.fieldAddr (Try.fld39_7) rfl) ?_
  refine LF.gstep rfl rfl (.f _) (fun hg => OpOk.ldBx hb7 Try.one23 (evg rfl hg) rfl) ?_
  refine LF.gstep rfl rfl (.f _) (fun hg => OpOk.lenL Try.underlying23 h26c7 (evg rfl hg)) ?_
  refine LF.gstep rfl rfl (.f _) (fun hg => OpOk.add (evg rfl hg) (evg rfl hg) (by first | omega | (simp at hg; omega))) ?_
  refine LF.gstep rfl rfl (.f _) (fun hg => OpOk.gtr (evg rfl hg) rfl) ?_
  refine LF.step (OpOk.pickOr rfl rfl) ?_
  refine LF.nil (PF.next ?_)
  refine CF.if rfl (fun hc3 => ?_) (fun hc3 => ?_)
  refine CF.seq (CF.region (LF.step (OpOk.assign rfl) (LF.nil (PF.next (CF.ret (PF.blockRet (PF.thenRet (PF.thenRet (PF.blockRet (PF.thenRet ?_))))))))))
  exact PF.ret1 rfl rfl ⟨by rw [sameM_at (k := k) (by omega) (by omega) (by rintro ⟨e1, e2⟩; revert hc3; rw [← e1]; simp [e2])], hkp⟩
  refine CF.skip (PF.blockNormal (PF.next (CF.region (LF.step (OpOk.move rfl) ?_))))
  refine LF.step (OpOk.add rfl rfl (by omega)) ?_
  refine LF.step (OpOk.assign rfl) (LF.nil ?_)
  exact PF.again (k + 1) ⟨by omega, by have h9 : ix a k = ix b k ∧ (ix a k).Args = [] := ⟨ext_mach (by omega) (by omega) (by omega) (by omega) (by omega) (by omega) (by omega) ((List.eq_nil_of_length_eq_zero (by omega)).trans (List.eq_nil_of_length_eq_zero (by omega)).symm), List.eq_nil_of_length_eq_zero (by omega)⟩; rw [take_ix (by omega), take_ix (by omega), hR, h9.1], by have h9 : ix a k = ix b k ∧ (ix a k).Args = [] := ⟨ext_mach (by omega) (by omega) (by omega) (by omega) (by omega) (by omega) (by omega) ((List.eq_nil_of_length_eq_zero (by omega)).trans (List.eq_nil_of_length_eq_zero (by omega)).symm), List.eq_nil_of_length_eq_zero (by omega)⟩; rw [take_ix (by omega), List.all_append, hA]; simp [h9.2], hin, hkp⟩ ⟨rfl, rfl, eqI (by omega), trivial⟩ (by omega)
  refine CF.exit (PF.thenExit (PF.thenExit (PF.blockHere (PF.next (CF.seq (CF.region (LF.step (OpOk.assign rfl) (LF.nil (PF.next (CF.ret ?_))))))))))
  exact PF.ret1 rfl rfl ⟨by rw [sameM_yes (k := k) (by omega) (by omega) hR hA], hkp⟩

end Go.Proofs.Ytcceglmmpbdhiaa
