/- Walks. Conditions: each contract names its own. -/
import Derived.Test.YtehibklogdngbaaWO
namespace Go.Proofs.Ytehibklogdngbaa
set_option linter.unusedVariables false
set_option linter.unusedSimpArgs false
set_option linter.unusedSectionVars false
open Go.JE

theorem Try.ent20 : Ent Try.prog 20 := ⟨_, Try.func20, by kernel_rfl, by kernel_rfl⟩
theorem Try.ent32 : Ent Try.prog 32 := ⟨_, Try.func32, by kernel_rfl, by kernel_rfl⟩
theorem Try.fld75_0 : Fld Try.prog 75 0 0 := ⟨_, _, Try.underlying75, rfl, rfl, 1, (by unfold Sz; kernel_rfl), by decide⟩
-- jacquard/jacquardref04.Same: function 32
theorem rSame_ct {F : PH} {H : Heap} (hin : InH F H) {a0 : Value} {a : D.Outcome} (p0 : rOutcome.ra F a0 a) {a1 : Value} {b : D.Outcome} (p1 : rOutcome.ra F a1 b) :
    Ct Try.prog 32 #[a0, a1] H (fun v H' => v = .bool (sameO a b) ∧ Kp H.size H H') := by
  have p0k := rOutcome.any p0
  obtain ⟨a0c2, a0c3, rfl, p0c2, p0c3⟩ := rOutcome.open p0
  have p0c2q := rL.len2 p0c2
  have p0c3q := rL.len2 p0c3
  have p1k := rOutcome.any p1
  obtain ⟨a1c2, a1c3, rfl, p1c2, p1c3⟩ := rOutcome.open p1
  have p1c2q := rL.len2 p1c2
  have p1c3q := rL.len2 p1c3
  have hkp := Kp.refl H.size H
  have hx := PH.ext.refl (H := H) F
  refine Ct.enter (args := [.agg #[.int .i64 a.End, .int .i32 a.Val, a0c2, a0c3, .int .i64 a.Steps], .agg #[.int .i64 b.End, .int .i32 b.Val, a1c2, a1c3, .int .i64 b.Steps]]) Try.func32 rfl rfl rfl (fun w0 hw0 => ?_)
  refine CF.seq (CF.region ?_)
  refine LF.chg (OpCh.boxB rfl rfl) ?_
  rintro _ H2 ⟨g2, rfl, eg2, sg2, kg2, hb2⟩
  have ng2 := hin.nope (Nat.le_of_eq eg2.symm)
  have lg2 := hkp.1
  have zkg2 := kg2.1
  replace hin := hin.kp kg2
  replace hkp := hkp.trans (kg2.mono hkp.1)
  clear kg2
  refine LF.chg (OpCh.boxB rfl rfl) ?_
  rintro _ H3 ⟨g3, rfl, eg3, sg3, kg3, hb3⟩
  have ng3 := hin.nope (Nat.le_of_eq eg3.symm)
  have lg3 := hkp.1
  have nb3_2 : g2 ≠ g3 := by have := hb2.lt; omega
  have zkg3 := kg3.1
  replace hin := hin.kp kg3
  replace hkp := hkp.trans (kg3.mono hkp.1)
  replace hb2 := hb2.kp kg3
  clear kg3
  refine LF.step (OpOk.assign rfl) (LF.nil (PF.next (CF.seq (CF.seq (CF.region ?_)))))
  refine LF.step (OpOk.fieldAddr (Try.fld33_0) rfl) ?_
  refine LF.step (OpOk.ldBx hb2 Try.one3 rfl rfl) ?_
  refine LF.step (OpOk.fieldAddr (Try.fld33_0) rfl) ?_
  refine LF.step (OpOk.ldBx hb3 Try.one3 rfl rfl) ?_
  refine LF.step (OpOk.neq rfl rfl) ?_
  refine LF.step (OpOk.move rfl) ?_
  refine LF.gstep rfl rfl (.f _) (fun hg => OpOk.fieldAddr (Try.fld33_1) rfl) ?_
  refine LF.gstep rfl rfl (.f _) (fun hg => OpOk.ldBx hb2 Try.one21 (evg rfl hg) rfl) ?_
  refine LF.gstep rfl rfl (.f _) (fun hg => OpOk.fieldAddr (Try.fld33_1) rfl) ?_
  refine LF.gstep rfl rfl (.f _) (fun hg => OpOk.ldBx hb3 Try.one21 (evg rfl hg) rfl) ?_
  refine LF.gstep rfl rfl (.f _) (fun hg => OpOk.neq (evg rfl hg) (evg rfl hg)) ?_
  refine LF.step (OpOk.pickOr rfl rfl) ?_
  refine LF.step (OpOk.move rfl) ?_
  refine LF.gstep rfl rfl (.f _) (fun hg => OpOk.fieldAddr (Try.fld33_2) rfl) ?_
  refine LF.gstep rfl rfl (.f _) (fun hg => OpOk.ldBx hb2 Try.one25 (evg rfl hg) rfl) ?_
  refine LF.gstep rfl rfl (.f _) (fun hg => OpOk.fieldAddr (Try.fld33_2) rfl) ?_
  refine LF.gstep rfl rfl (.f _) (fun hg => OpOk.ldBx hb3 Try.one25 (evg rfl hg) rfl) ?_
  refine LF.gcall rfl rfl (.f _) (fun hg => OpCall.fn Try.ent20 rfl (evl2 (evg rfl hg) (evg rfl hg))) (fun hg => words_ct hin p0c2 p1c2) (fun _ _ h => h) ?_
  refine LF.gstep rfl rfl (.f _) (fun hg => OpOk.not (evg rfl hg)) ?_
  refine LF.step (OpOk.pickOr rfl rfl) ?_
  refine LF.step (OpOk.move rfl) ?_
  refine LF.gstep rfl rfl (.f _) (fun hg => OpOk.fieldAddr (Try.fld33_3) rfl) ?_
  refine LF.gstep rfl rfl (.f _) (fun hg => OpOk.ldBx hb2 Try.one31 (evg rfl hg) rfl) ?_
  refine LF.gstep rfl rfl (.f _) (fun hg => OpOk.lenL Try.underlying31 p0c3 (evg rfl hg)) ?_
  refine LF.gstep rfl rfl (.f _) (fun hg => OpOk.fieldAddr (Try.fld33_3) rfl) ?_
  refine LF.gstep rfl rfl (.f _) (fun hg => OpOk.ldBx hb3 Try.one31 (evg rfl hg) rfl) ?_
  refine LF.gstep rfl rfl (.f _) (fun hg => OpOk.lenL Try.underlying31 p1c3 (evg rfl hg)) ?_
  refine LF.gstep rfl rfl (.f _) (fun hg => OpOk.neq (evg rfl hg) (evg rfl hg)) ?_
  refine LF.step (OpOk.pickOr rfl rfl) ?_
  refine LF.nil (PF.next ?_)
  refine CF.if rfl (fun hc1 => ?_) (fun hc1 => ?_)
  refine CF.seq (CF.region (LF.step (OpOk.assign rfl) (LF.nil (PF.next (CF.ret (PF.thenRet ?_))))))
  have hm : sameO a b = false := by
    first | exact same_no hc1 | exact same_ev (by omega) hsh.2.2.2 hc3 | exact same_yes hsh (by omega) hT
  exact PF.ret1 rfl rfl ⟨by rw [hm] <;> rfl, hkp⟩
  have hsh := same_head hc1
  refine CF.skip (PF.next (CF.seq (CF.seq (CF.region (LF.step (OpOk.assign rfl) (LF.nil (PF.next (CF.block ?_))))))))
  refine CF.loop (ι := Nat) (fun k H1 => k ≤ a.Calls.length ∧ a.Calls.take k = b.Calls.take k ∧ InH F H1 ∧ Kp H.size H H1 ∧ Bx H1 g2 33 [.int .i64 a.End, .int .i32 a.Val, a0c2, a0c3, .int .i64 a.Steps] ∧ Bx H1 g3 33 [.int .i64 b.End, .int .i32 b.Val, a1c2, a1c3, .int .i64 b.Steps]) (fun k => [(2, .pointer (some ⟨g2, 0, none⟩)), (3, .pointer (some ⟨g3, 0, none⟩)), (5, .int .i64 (↑k))]) (fun k => a.Calls.length - k) 0 ⟨by omega, rfl, hin, hkp, hb2, hb3⟩ ⟨rfl, rfl, eqI (by omega), trivial⟩ ?_
  clear hin hkp hb2 hb3
  rintro k H1 ⟨hk, hT, hin, hkp, hb2, hb3⟩
  refine CF.seq (CF.seq (CF.region (LF.step (OpOk.move rfl) ?_)))
  refine LF.step (OpOk.fieldAddr (Try.fld33_3) rfl) ?_
  refine LF.step (OpOk.ldBx hb2 Try.one31 rfl rfl) ?_
  refine LF.step (OpOk.lenL Try.underlying31 p0c3 rfl) ?_
  refine LF.step (OpOk.lss rfl rfl) ?_
  refine LF.nil (PF.next ?_)
  refine CF.if rfl (fun hc2 => ?_) (fun hc2 => ?_)
  refine CF.skip (PF.next (CF.seq (CF.block (CF.seq ?_))))
  refine CF.any (fun H' => InH F H' ∧ Bx H' g2 33 [.int .i64 a.End, .int .i32 a.Val, a0c2, a0c3, .int .i64 a.Steps] ∧ Bx H' g3 33 [.int .i64 b.End, .int .i32 b.Val, a1c2, a1c3, .int .i64 b.Steps] ∧ True) Try.mixed ?_
  refine AF.take 0 rfl (by kernel_rfl) (by kernel_rfl) (by kernel_rfl) ⟨hin, hb2, hb3, trivial⟩ (fun _ ⟨hin, hb2, hb3, _⟩ => OpOk.fieldAddr (Try.fld33_3) rfl) ?_
  refine AF.take 1 rfl (by kernel_rfl) (by kernel_rfl) (by kernel_rfl) ⟨hin, hb2, hb3, trivial⟩ (fun _ ⟨hin, hb2, hb3, _⟩ => OpOk.ldBx hb2 Try.one31 rfl rfl) ?_
  refine AF.take 2 rfl (by kernel_rfl) (by kernel_rfl) (by kernel_rfl) ⟨hin, hb2, hb3, trivial⟩ (fun _ ⟨hin, hb2, hb3, _⟩ => OpOk.move rfl) ?_
  refine AF.take 3 rfl (by kernel_rfl) (by kernel_rfl) (by kernel_rfl) ⟨hin, hb2, hb3, trivial⟩ (fun _ ⟨hin, hb2, hb3, _⟩ => OpOk.idxL (i := k) Try.underlying31 Try.sz75 p0c3 rfl rfl rfl (by omega)) ?_
  refine AF.take 4 rfl (by kernel_rfl) (by kernel_rfl) (by kernel_rfl) ⟨hin, hb2, hb3, trivial⟩ (fun _ ⟨hin, hb2, hb3, _⟩ => OpOk.fieldAddr (Try.fld75_0) rfl) ?_
  refine AF.take 5 rfl (by kernel_rfl) (by kernel_rfl) (by kernel_rfl) ⟨hin, hb2, hb3, trivial⟩ (fun _ ⟨hin, hb2, hb3, _⟩ => OpOk.ldI hin (rEvent.at_Callee (rL.ix p0c3 k (by omega))) Try.one21 rfl) ?_
  refine AF.take 6 rfl (by kernel_rfl) (by kernel_rfl) (by kernel_rfl) ⟨hin, hb2, hb3, trivial⟩ (fun _ ⟨hin, hb2, hb3, _⟩ => OpOk.fieldAddr (Try.fld33_3) rfl) ?_
  refine AF.take 7 rfl (by kernel_rfl) (by kernel_rfl) (by kernel_rfl) ⟨hin, hb2, hb3, trivial⟩ (fun _ ⟨hin, hb2, hb3, _⟩ => OpOk.ldBx hb3 Try.one31 rfl rfl) ?_
  refine AF.take 8 rfl (by kernel_rfl) (by kernel_rfl) (by kernel_rfl) ⟨hin, hb2, hb3, trivial⟩ (fun _ ⟨hin, hb2, hb3, _⟩ => OpOk.move rfl) ?_
  refine AF.take 9 rfl (by kernel_rfl) (by kernel_rfl) (by kernel_rfl) ⟨hin, hb2, hb3, trivial⟩ (fun _ ⟨hin, hb2, hb3, _⟩ => OpOk.idxL (i := k) Try.underlying31 Try.sz75 p1c3 rfl rfl rfl (by omega)) ?_
  refine AF.take 10 rfl (by kernel_rfl) (by kernel_rfl) (by kernel_rfl) ⟨hin, hb2, hb3, trivial⟩ (fun _ ⟨hin, hb2, hb3, _⟩ => OpOk.fieldAddr (Try.fld75_0) rfl) ?_
  refine AF.take 11 rfl (by kernel_rfl) (by kernel_rfl) (by kernel_rfl) ⟨hin, hb2, hb3, trivial⟩ (fun _ ⟨hin, hb2, hb3, _⟩ => OpOk.ldI hin (rEvent.at_Callee (rL.ix p1c3 k (by omega))) Try.one21 rfl) ?_
  refine AF.take 12 rfl (by kernel_rfl) (by kernel_rfl) (by kernel_rfl) ⟨hin, hb2, hb3, trivial⟩ (fun _ ⟨hin, hb2, hb3, _⟩ => OpOk.neq rfl rfl) ?_
  refine AF.take 13 rfl (by kernel_rfl) (by kernel_rfl) (by kernel_rfl) ⟨hin, hb2, hb3, trivial⟩ (fun _ ⟨hin, hb2, hb3, _⟩ => OpOk.move rfl) ?_
  refine AF.gtake 14 rfl (by kernel_rfl) (by kernel_rfl) (by kernel_rfl) ⟨hin, hb2, hb3, trivial⟩ rfl rfl (.f _) (fun hg _ ⟨hin, hb2, hb3, _⟩ => OpOk.fieldAddr (Try.fld33_3) rfl) ?_
  refine AF.gtake 15 rfl (by kernel_rfl) (by kernel_rfl) (by kernel_rfl) ⟨hin, hb2, hb3, trivial⟩ rfl rfl (.f _) (fun hg _ ⟨hin, hb2, hb3, _⟩ => OpOk.ldBx hb2 Try.one31 (evg rfl hg) rfl) ?_
  refine AF.gtake 16 rfl (by kernel_rfl) (by kernel_rfl) (by kernel_rfl) ⟨hin, hb2, hb3, trivial⟩ rfl rfl (.f _) (fun hg _ ⟨hin, hb2, hb3, _⟩ => OpOk.move rfl) ?_
  refine AF.gtake 17 rfl (by kernel_rfl) (by kernel_rfl) (by kernel_rfl) ⟨hin, hb2, hb3, trivial⟩ rfl rfl (.f _) (fun hg _ ⟨hin, hb2, hb3, _⟩ => OpOk.idxL (i := k) Try.underlying31 Try.sz75 p0c3 (evg rfl hg) (evg rfl hg) rfl (by omega)) ?_
  refine AF.gtake 18 rfl (by kernel_rfl) (by kernel_rfl) (by kernel_rfl) ⟨hin, hb2, hb3, trivial⟩ rfl rfl (.f _) (fun hg _ ⟨hin, hb2, hb3, _⟩ => OpOk.fieldAddr (Try.fld75_1) (evg rfl hg)) ?_
  refine AF.gtakeE 19 rfl (by kernel_rfl) (by kernel_rfl) (by kernel_rfl) ⟨hin, hb2, hb3, trivial⟩ rfl rfl (.f _) (fun hg => OpOk.ldVS (rEvent.at_Args (rL.ix p0c3 k (by omega))) Try.one25 rfl (evg rfl hg) (fun _ h => h.1)) ?_
  intro v61 h61
  refine AF.gtake 20 rfl (by kernel_rfl) (by kernel_rfl) (by kernel_rfl) ⟨hin, hb2, hb3, trivial⟩ rfl rfl (.f _) (fun hg _ ⟨hin, hb2, hb3, _⟩ => OpOk.fieldAddr (Try.fld33_3) rfl) ?_
  refine AF.gtake 21 rfl (by kernel_rfl) (by kernel_rfl) (by kernel_rfl) ⟨hin, hb2, hb3, trivial⟩ rfl rfl (.f _) (fun hg _ ⟨hin, hb2, hb3, _⟩ => OpOk.ldBx hb3 Try.one31 (evg rfl hg) rfl) ?_
  refine AF.gtake 22 rfl (by kernel_rfl) (by kernel_rfl) (by kernel_rfl) ⟨hin, hb2, hb3, trivial⟩ rfl rfl (.f _) (fun hg _ ⟨hin, hb2, hb3, _⟩ => OpOk.move rfl) ?_
  refine AF.gtake 23 rfl (by kernel_rfl) (by kernel_rfl) (by kernel_rfl) ⟨hin, hb2, hb3, trivial⟩ rfl rfl (.f _) (fun hg _ ⟨hin, hb2, hb3, _⟩ => OpOk.idxL (i := k) Try.underlying31 Try.sz75 p1c3 (evg rfl hg) (evg rfl hg) rfl (by omega)) ?_
  refine AF.gtake 24 rfl (by kernel_rfl) (by kernel_rfl) (by kernel_rfl) ⟨hin, hb2, hb3, trivial⟩ rfl rfl (.f _) (fun hg _ ⟨hin, hb2, hb3, _⟩ => OpOk.fieldAddr (Try.fld75_1) (evg rfl hg)) ?_
  refine AF.gtakeE 25 rfl (by kernel_rfl) (by kernel_rfl) (by kernel_rfl) ⟨hin, hb2, hb3, trivial⟩ rfl rfl (.f _) (fun hg => OpOk.ldVS (rEvent.at_Args (rL.ix p1c3 k (by omega))) Try.one25 rfl (evg rfl hg) (fun _ h => h.1)) ?_
  intro v67 h67
  refine AF.gcallR 26 rfl (by kernel_rfl) rfl rfl (.f _) (fun hg => OpCall.fn Try.ent20 rfl (evl2 (evg rfl hg) (evg rfl hg))) (fun hg => words_ct hin (h61 hg) (h67 hg)) (fun _ _ h => h.1) (by rintro _ _ ⟨_, rfl⟩; exact ⟨hin, hb2, hb3, trivial⟩) ⟨hin, hb2, hb3, trivial⟩ ?_
  intro Hq1 zq1
  obtain rfl : Hq1 = _ := gpure zq1
  clear zq1
  refine AF.gtake 27 rfl (by kernel_rfl) (by kernel_rfl) (by kernel_rfl) ⟨hin, hb2, hb3, trivial⟩ rfl rfl (.f _) (fun hg _ ⟨hin, hb2, hb3, _⟩ => OpOk.not (evg rfl hg)) ?_
  refine AF.take 28 rfl (by kernel_rfl) (by kernel_rfl) (by kernel_rfl) ⟨hin, hb2, hb3, trivial⟩ (fun _ ⟨hin, hb2, hb3, _⟩ => OpOk.pickOr rfl rfl) ?_
  refine AF.done (by kernel_rfl) ?_
  refine PF.next ?_
  refine CF.if rfl (fun hc3 => ?_) (fun hc3 => ?_)
  refine CF.seq (CF.region (LF.step (OpOk.assign rfl) (LF.nil (PF.next (CF.ret (PF.blockRet (PF.thenRet (PF.thenRet (PF.blockRet (PF.thenRet ?_))))))))))
  have hm : sameO a b = false := by
    first | exact same_no hc1 | exact same_ev (by omega) hsh.2.2.2 hc3 | exact same_yes hsh (by omega) hT
  exact PF.ret1 rfl rfl ⟨by rw [hm] <;> rfl, hkp⟩
  refine CF.skip (PF.blockNormal (PF.next (CF.region (LF.step (OpOk.move rfl) ?_))))
  refine LF.step (OpOk.add rfl rfl (by omega)) ?_
  refine LF.step (OpOk.assign rfl) (LF.nil ?_)
  exact PF.again (k + 1) ⟨by omega, same_next (by omega) hsh.2.2.2 hT hc3, hin, hkp, hb2, hb3⟩ ⟨rfl, rfl, eqI (by omega), trivial⟩ (by omega)
  refine CF.exit (PF.thenExit (PF.thenExit (PF.blockHere (PF.next (CF.seq (CF.region (LF.step (OpOk.assign rfl) (LF.nil (PF.next (CF.ret ?_))))))))))
  have hm : sameO a b = true := by
    first | exact same_no hc1 | exact same_ev (by omega) hsh.2.2.2 hc3 | exact same_yes hsh (by omega) hT
  exact PF.ret1 rfl rfl ⟨by rw [hm] <;> rfl, hkp⟩

-- jacquard/jacquardref04.Alike: function 13
theorem rAlike_ct {F : PH} {H : Heap} (hin : InH F H) {a0 : Value} {a : D.Outcome} (p0 : rOutcome.ra F a0 a) {a1 : Value} {b : D.Outcome} (p1 : rOutcome.ra F a1 b) :
    Ct Try.prog 13 #[a0, a1] H (fun v H' => v = .bool (alikeO a b) ∧ Kp H.size H H') := by
  have p0k := rOutcome.any p0
  obtain ⟨a0c2, a0c3, rfl, p0c2, p0c3⟩ := rOutcome.open p0
  have p0c2q := rL.len2 p0c2
  have p0c3q := rL.len2 p0c3
  have p1k := rOutcome.any p1
  obtain ⟨a1c2, a1c3, rfl, p1c2, p1c3⟩ := rOutcome.open p1
  have p1c2q := rL.len2 p1c2
  have p1c3q := rL.len2 p1c3
  have hkp := Kp.refl H.size H
  have hx := PH.ext.refl (H := H) F
  refine Ct.enter (args := [.agg #[.int .i64 a.End, .int .i32 a.Val, a0c2, a0c3, .int .i64 a.Steps], .agg #[.int .i64 b.End, .int .i32 b.Val, a1c2, a1c3, .int .i64 b.Steps]]) Try.func13 rfl rfl rfl (fun w0 hw0 => ?_)
  refine CF.seq (CF.region ?_)
  refine LF.chg (OpCh.boxB rfl rfl) ?_
  rintro _ H2 ⟨g2, rfl, eg2, sg2, kg2, hb2⟩
  have ng2 := hin.nope (Nat.le_of_eq eg2.symm)
  have lg2 := hkp.1
  have zkg2 := kg2.1
  replace hin := hin.kp kg2
  replace hkp := hkp.trans (kg2.mono hkp.1)
  clear kg2
  refine LF.chg (OpCh.boxB rfl rfl) ?_
  rintro _ H3 ⟨g3, rfl, eg3, sg3, kg3, hb3⟩
  have ng3 := hin.nope (Nat.le_of_eq eg3.symm)
  have lg3 := hkp.1
  have nb3_2 : g2 ≠ g3 := by have := hb2.lt; omega
  have zkg3 := kg3.1
  replace hin := hin.kp kg3
  replace hkp := hkp.trans (kg3.mono hkp.1)
  replace hb2 := hb2.kp kg3
  clear kg3
  refine LF.step (OpOk.assign rfl) (LF.nil (PF.next (CF.seq (CF.region ?_))))
  refine LF.step (OpOk.ldBxA hb2 Try.agg33 Try.sz33 rfl rfl rfl) ?_
  refine LF.step (OpOk.ldBxA hb3 Try.agg33 Try.sz33 rfl rfl rfl) ?_
  refine LF.call (OpCall.fn Try.ent32 rfl rfl) (rSame_ct hin p0 p1) ?_
  rintro _ H7 ⟨rfl, k7⟩
  have zk7 := k7.1
  replace hin := hin.kp k7
  replace hkp := hkp.trans (k7.mono hkp.1)
  replace hb2 := hb2.kp k7
  replace hb3 := hb3.kp k7
  refine LF.step (OpOk.move rfl) ?_
  refine LF.gstep rfl rfl (.t _) (fun hg => OpOk.fieldAddr (Try.fld33_4) rfl) ?_
  refine LF.gstep rfl rfl (.t _) (fun hg => OpOk.ldBx hb2 Try.one3 (evg rfl hg) rfl) ?_
  refine LF.gstep rfl rfl (.t _) (fun hg => OpOk.fieldAddr (Try.fld33_4) rfl) ?_
  refine LF.gstep rfl rfl (.t _) (fun hg => OpOk.ldBx hb3 Try.one3 (evg rfl hg) rfl) ?_
  refine LF.gstep rfl rfl (.t _) (fun hg => OpOk.eql (evg rfl hg) (evg rfl hg)) ?_
  refine LF.step (OpOk.pickAnd rfl rfl) ?_
  refine LF.step (OpOk.assign rfl) (LF.nil (PF.next (CF.ret ?_)))
  have hm : alikeO a b = ((sameO a b) && (decide (a.Steps = b.Steps))) := by
    rfl
  exact PF.ret1 rfl rfl ⟨by rw [hm] <;> rfl, hkp⟩

end Go.Proofs.Ytehibklogdngbaa
