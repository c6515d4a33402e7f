/- Walks. Conditions: each contract names its own. -/
import Derived.Test.YtehibklogdngbaaWP
namespace Go.Proofs.Ytehibklogdngbaa
set_option linter.unusedVariables false
set_option linter.unusedSimpArgs false
set_option linter.unusedSectionVars false
open Go.JE

theorem Try.ent16 : Ent Try.prog 16 := ⟨_, Try.func16, by kernel_rfl, by kernel_rfl⟩
theorem Try.fld79_1 : Fld Try.prog 79 1 1 := ⟨_, _, Try.underlying79, rfl, rfl, 1, (by unfold Sz; kernel_rfl), by decide⟩
theorem Try.fld79_2 : Fld Try.prog 79 2 2 := ⟨_, _, Try.underlying79, rfl, rfl, 1, (by unfold Sz; kernel_rfl), by decide⟩
theorem Try.info70 : (Try.prog.info? 70).map (fun i => (i.zero, i.size, i.bytes)) = some (some (.agg #[.int .i64 0, .slice none 0 0]), 2, 32) := by kernel_rfl
theorem Try.info82 : (Try.prog.info? 82).map (fun i => (i.zero, i.size, i.bytes)) = some (some (.agg #[.int .i64 0, .int .i64 0]), 2, 16) := by kernel_rfl
theorem Try.sz22 : Sz Try.prog 22 1 := by unfold Sz; kernel_rfl
theorem Try.sz58 : Sz Try.prog 58 1 := by unfold Sz; kernel_rfl
theorem Try.sz59 : Sz Try.prog 59 1 := by unfold Sz; kernel_rfl
-- jacquard/jacquardlaw07.same: function 12
theorem same_ct {F : PH} {H : Heap} (hin : InH F H) {a0 : Value} {m : D.MFunc} (p0 : rMFunc.ra F a0 m) :
    Ct Try.prog 12 #[a0] H (fun v H' => v = .bool ((fun _ => true) m) ∧ Kp H.size H H') := by
  have p0k := rMFunc.any p0
  obtain ⟨a0c1, rfl, p0c1⟩ := rMFunc.open p0
  have p0c1q := rL.len2 p0c1
  have hkp := Kp.refl H.size H
  have hx := PH.ext.refl (H := H) F
  refine Ct.enter (args := [.agg #[.int .i64 m.Params, a0c1]]) Try.func12 rfl rfl rfl (fun w0 hw0 => ?_)
  refine CF.seq (CF.region ?_)
  refine LF.chg (OpCh.boxB rfl rfl) ?_
  rintro _ H1 ⟨g1, rfl, eg1, sg1, kg1, hb1⟩
  have ng1 := hin.nope (Nat.le_of_eq eg1.symm)
  have lg1 := hkp.1
  have zkg1 := kg1.1
  replace hin := hin.kp kg1
  replace hkp := hkp.trans (kg1.mono hkp.1)
  clear kg1
  refine LF.step (OpOk.assign rfl) (LF.nil (PF.next (CF.seq (CF.region ?_))))
  refine LF.step (OpOk.ldBxA hb1 Try.agg24 Try.sz24 rfl rfl rfl) ?_
  refine LF.call (OpCall.fn Try.ent24 rfl rfl) (pFunc_ct hin p0) ?_
  rintro _ H9 ⟨rfl, k9⟩
  have zk9 := k9.1
  replace hin := hin.kp k9
  replace hkp := hkp.trans (k9.mono hkp.1)
  replace hb1 := hb1.kp k9
  refine LF.step (OpOk.move rfl) ?_
  refine LF.step (OpOk.extract (v := .int .i64 ((funcM m).1)) rfl rfl) ?_
  refine LF.step (OpOk.extract (v := .int .i64 ((funcM m).2.1)) rfl rfl) ?_
  refine LF.step (OpOk.extract (v := .int .i64 ((funcM m).2.2)) rfl rfl) ?_
  refine LF.step (OpOk.assign rfl) (LF.step (OpOk.assign rfl) (LF.step (OpOk.assign rfl) (LF.nil (PF.next (CF.seq (CF.region ?_))))))
  refine LF.step (OpOk.ldBxA hb1 Try.agg24 Try.sz24 rfl rfl rfl) ?_
  refine LF.call (OpCall.fn Try.ent31 rfl rfl) (rFunc_ct hin p0) ?_
  rintro v14 H14 ⟨F14, x14, i14, k14, h14⟩
  have zk14 := k14.1
  replace hx := hx.trans x14 hkp.1
  replace hkp := hkp.trans (k14.mono hkp.1)
  have l14 := hkp.1
  replace ng1 := x14.no ng1 hb1.lt
  replace hb1 := hb1.kp k14
  have le0 := x14.1
  have hin := i14
  have h14k := rjacquardref07_Got.any h14
  obtain rfl := rjacquardref07_Got.open h14
  refine LF.chg (OpCh.allocB Try.zero79 rfl) ?_
  rintro _ H6 ⟨g6, rfl, eg6, sg6, kg6, hb6⟩
  have ng6 := hin.nope (Nat.le_of_eq eg6.symm)
  have lg6 := hkp.1
  have zkg6 := kg6.1
  replace hin := hin.kp kg6
  replace hkp := hkp.trans (kg6.mono hkp.1)
  replace hb1 := hb1.kp kg6
  clear kg6
  refine LF.chg0 (OpCh.storeBA hb6 Try.sz79 rfl rfl rfl (allOne.mem (l := [.int .i64 ((gotM m).E), .int .i64 ((gotM m).Block), .int .i64 ((gotM m).Place)]) ⟨rfl, rfl, rfl, trivial⟩) (by decide)) ?_
  rintro _ Hw1 ⟨tw1, bw1⟩
  have ztw1 := tw1.1
  replace hin := hin.tw tw1 ng6
  replace hkp := Tw.kp' hkp tw1 (by omega)
  replace hb1 := hb1.tw tw1 (Bx.ne hb1 hb6 (by decide))
  replace hb6 : Bx _ _ _ [.int .i64 ((gotM m).E), .int .i64 ((gotM m).Block), .int .i64 ((gotM m).Place)] := bw1
  clear bw1 tw1
  refine LF.nil (PF.next (CF.seq ?_))
  refine CF.any (fun H' => InH F14 H' ∧ Bx H' g1 24 [.int .i64 m.Params, a0c1] ∧ Bx H' g6 79 [.int .i64 ((gotM m).E), .int .i64 ((gotM m).Block), .int .i64 ((gotM m).Place)] ∧ True) Try.mixed ?_
  refine AF.take 0 rfl (by kernel_rfl) (by kernel_rfl) (by kernel_rfl) ⟨hin, hb1, hb6, trivial⟩ (fun _ ⟨hin, hb1, hb6, _⟩ => OpOk.move rfl) ?_
  refine AF.take 1 rfl (by kernel_rfl) (by kernel_rfl) (by kernel_rfl) ⟨hin, hb1, hb6, trivial⟩ (fun _ ⟨hin, hb1, hb6, _⟩ => OpOk.fieldAddr (Try.fld79_0) rfl) ?_
  refine AF.take 2 rfl (by kernel_rfl) (by kernel_rfl) (by kernel_rfl) ⟨hin, hb1, hb6, trivial⟩ (fun _ ⟨hin, hb1, hb6, _⟩ => OpOk.ldBx hb6 Try.one56 rfl rfl) ?_
  refine AF.take 3 rfl (by kernel_rfl) (by kernel_rfl) (by kernel_rfl) ⟨hin, hb1, hb6, trivial⟩ (fun _ ⟨hin, hb1, hb6, _⟩ => OpOk.eql rfl rfl) ?_
  refine AF.take 4 rfl (by kernel_rfl) (by kernel_rfl) (by kernel_rfl) ⟨hin, hb1, hb6, trivial⟩ (fun _ ⟨hin, hb1, hb6, _⟩ => OpOk.move rfl) ?_
  refine AF.gtake 5 rfl (by kernel_rfl) (by kernel_rfl) (by kernel_rfl) ⟨hin, hb1, hb6, trivial⟩ rfl rfl (.t _) (fun hg _ ⟨hin, hb1, hb6, _⟩ => OpOk.move rfl) ?_
  refine AF.gtake 6 rfl (by kernel_rfl) (by kernel_rfl) (by kernel_rfl) ⟨hin, hb1, hb6, trivial⟩ rfl rfl (.t _) (fun hg _ ⟨hin, hb1, hb6, _⟩ => OpOk.fieldAddr (Try.fld79_1) rfl) ?_
  refine AF.gtake 7 rfl (by kernel_rfl) (by kernel_rfl) (by kernel_rfl) ⟨hin, hb1, hb6, trivial⟩ rfl rfl (.t _) (fun hg _ ⟨hin, hb1, hb6, _⟩ => OpOk.ldBx hb6 Try.one3 (evg rfl hg) rfl) ?_
  refine AF.gtake 8 rfl (by kernel_rfl) (by kernel_rfl) (by kernel_rfl) ⟨hin, hb1, hb6, trivial⟩ rfl rfl (.t _) (fun hg _ ⟨hin, hb1, hb6, _⟩ => OpOk.eql (evg rfl hg) (evg rfl hg)) ?_
  refine AF.take 9 rfl (by kernel_rfl) (by kernel_rfl) (by kernel_rfl) ⟨hin, hb1, hb6, trivial⟩ (fun _ ⟨hin, hb1, hb6, _⟩ => OpOk.pickAnd rfl rfl) ?_
  refine AF.take 10 rfl (by kernel_rfl) (by kernel_rfl) (by kernel_rfl) ⟨hin, hb1, hb6, trivial⟩ (fun _ ⟨hin, hb1, hb6, _⟩ => OpOk.move rfl) ?_
  refine AF.gtake 11 rfl (by kernel_rfl) (by kernel_rfl) (by kernel_rfl) ⟨hin, hb1, hb6, trivial⟩ rfl rfl (.t _) (fun hg _ ⟨hin, hb1, hb6, _⟩ => OpOk.move rfl) ?_
  refine AF.gtake 12 rfl (by kernel_rfl) (by kernel_rfl) (by kernel_rfl) ⟨hin, hb1, hb6, trivial⟩ rfl rfl (.t _) (fun hg _ ⟨hin, hb1, hb6, _⟩ => OpOk.fieldAddr (Try.fld79_2) rfl) ?_
  refine AF.gtake 13 rfl (by kernel_rfl) (by kernel_rfl) (by kernel_rfl) ⟨hin, hb1, hb6, trivial⟩ rfl rfl (.t _) (fun hg _ ⟨hin, hb1, hb6, _⟩ => OpOk.ldBx hb6 Try.one3 (evg rfl hg) rfl) ?_
  refine AF.gtake 14 rfl (by kernel_rfl) (by kernel_rfl) (by kernel_rfl) ⟨hin, hb1, hb6, trivial⟩ rfl rfl (.t _) (fun hg _ ⟨hin, hb1, hb6, _⟩ => OpOk.eql (evg rfl hg) (evg rfl hg)) ?_
  refine AF.take 15 rfl (by kernel_rfl) (by kernel_rfl) (by kernel_rfl) ⟨hin, hb1, hb6, trivial⟩ (fun _ ⟨hin, hb1, hb6, _⟩ => OpOk.pickAnd rfl rfl) ?_
  refine AF.take 16 rfl (by kernel_rfl) (by kernel_rfl) (by kernel_rfl) ⟨hin, hb1, hb6, trivial⟩ (fun _ ⟨hin, hb1, hb6, _⟩ => OpOk.move rfl) ?_
  refine AF.gtake 17 rfl (by kernel_rfl) (by kernel_rfl) (by kernel_rfl) ⟨hin, hb1, hb6, trivial⟩ rfl rfl (.t _) (fun hg _ ⟨hin, hb1, hb6, _⟩ => OpOk.ldBxA hb1 Try.agg24 Try.sz24 rfl rfl rfl) ?_
  refine AF.gtake 19 rfl (by kernel_rfl) (by kernel_rfl) (by kernel_rfl) ⟨hin, hb1, hb6, trivial⟩ rfl rfl (.t _) (fun hg _ ⟨hin, hb1, hb6, _⟩ => OpOk.fieldAddr (Try.fld79_0) rfl) ?_
  refine AF.gtake 20 rfl (by kernel_rfl) (by kernel_rfl) (by kernel_rfl) ⟨hin, hb1, hb6, trivial⟩ rfl rfl (.t _) (fun hg _ ⟨hin, hb1, hb6, _⟩ => OpOk.ldBx hb6 Try.one56 (evg rfl hg) rfl) ?_
  refine AF.gtake 21 rfl (by kernel_rfl) (by kernel_rfl) (by kernel_rfl) ⟨hin, hb1, hb6, trivial⟩ rfl rfl (.t _) (fun hg _ ⟨hin, hb1, hb6, _⟩ => OpOk.eql (evg rfl hg) rfl) ?_
  refine AF.gcallR 18 rfl (by kernel_rfl) rfl rfl (.t _) (fun hg => OpCall.fn Try.ent15 rfl (evl1 (evg rfl hg))) (fun hg => pRight_ct hin (p0.up le0)) (fun _ _ h => h.1) (by rintro _ _ ⟨_, k⟩; exact ⟨(hin.kp k), (hb1.kp k), (hb6.kp k), trivial⟩) ⟨hin, hb1, hb6, trivial⟩ ?_
  intro Hq2 zq2
  have kq2 := gkp2 zq2
  have zkq2 := kq2.1
  replace hin := hin.kp kq2
  replace hkp := hkp.trans (kq2.mono hkp.1)
  replace hb1 := hb1.kp kq2
  replace hb6 := hb6.kp kq2
  clear zq2
  refine AF.gtake 22 rfl (by kernel_rfl) (by kernel_rfl) (by kernel_rfl) ⟨hin, hb1, hb6, trivial⟩ rfl rfl (.t _) (fun hg _ ⟨hin, hb1, hb6, _⟩ => OpOk.eqlB Try.underlying4 (evg rfl hg) (evg rfl hg)) ?_
  refine AF.take 23 rfl (by kernel_rfl) (by kernel_rfl) (by kernel_rfl) ⟨hin, hb1, hb6, trivial⟩ (fun _ ⟨hin, hb1, hb6, _⟩ => OpOk.pickAnd rfl rfl) ?_
  refine AF.take 24 rfl (by kernel_rfl) (by kernel_rfl) (by kernel_rfl) ⟨hin, hb1, hb6, trivial⟩ (fun _ ⟨hin, hb1, hb6, _⟩ => OpOk.assign rfl) ?_
  refine AF.done (by kernel_rfl) ?_
  refine PF.next (CF.ret ?_)
  have hm : (fun _ => true) m = ((((decide ((funcM m).1 = (gotM m).E)) && (decide ((funcM m).2.1 = (gotM m).Block))) && (decide ((funcM m).2.2 = (gotM m).Place))) && ((rightM m) == (decide ((gotM m).E = 0)))) := by
    simp [gotM, rightM] <;> rfl
  exact PF.ret1 rfl rfl ⟨by first | (rw [hm] <;> rfl) | exact (congrArg Value.bool hm).symm, hkp⟩

theorem raw_phi {p : D.Phi} : (⟨p.Dst, List.take (Int.toNat (min (p.In.length : Int) 8)) p.In⟩ : D.Phi) = rawP p := by
  unfold rawP; congr 1; exact (take_min _ 8 _ rfl).symm
theorem raw_block {x : D.MBlock} : (⟨(x.Phis.take 4).map rawP, (x.Ins.take 8).map fewM, ⟨x.End.Op, x.End.A, x.End.B, List.take (Int.toNat (min (x.End.To.length : Int) 8)) x.End.To, x.End.Imm⟩⟩ : D.MBlock) = rawB x := by
  unfold rawB rawE; congr 2; exact (take_min _ 8 _ rfl).symm

-- jacquard/jacquardlaw07.raw: function 9
set_option maxRecDepth 8000 in
set_option maxHeartbeats 4000000 in
theorem raw_ct {F : PH} {H : Heap} (hin : InH F H) {a0 : Value} {m : D.MFunc} {N0 : Nat} (p0 : (rMFuncN N0).ra F a0 m) :
    Ct Try.prog 9 #[a0] H (fun v H' => ∃ F', PH.ext H F F' ∧ InH F' H' ∧ Kp H.size H H' ∧ rMFunc.ra F' v (rawM m)) := by
  have p0k := rMFunc.any p0
  obtain ⟨a0c1, rfl, p0c1⟩ := rMFunc.open p0
  have p0c1q := rL.len2 p0c1
  have hkp := Kp.refl H.size H
  have hx := PH.ext.refl (H := H) F
  refine Ct.enter (args := [.agg #[.int .i64 m.Params, a0c1]]) Try.func9 rfl rfl rfl (fun w0 hw0 => ?_)
  refine CF.seq (CF.region ?_)
  refine LF.chg (OpCh.boxB rfl rfl) ?_
  rintro _ H1 ⟨g1, rfl, eg1, sg1, kg1, hb1⟩
  have ng1 := hin.nope (Nat.le_of_eq eg1.symm)
  have lg1 := hkp.1
  have zkg1 := kg1.1
  replace hin := hin.kp kg1
  replace hkp := hkp.trans (kg1.mono hkp.1)
  clear kg1
  refine LF.chg (OpCh.allocB Try.zero24 rfl) ?_
  rintro _ H2 ⟨g2, rfl, eg2, sg2, kg2, hb2⟩
  have ng2 := hin.nope (Nat.le_of_eq eg2.symm)
  have lg2 := hkp.1
  have nb2_1 : g1 ≠ g2 := by have := hb1.lt; omega
  have zkg2 := kg2.1
  replace hin := hin.kp kg2
  replace hkp := hkp.trans (kg2.mono hkp.1)
  replace hb1 := hb1.kp kg2
  clear kg2
  refine LF.nil (PF.next (CF.seq (CF.region ?_)))
  refine LF.step (OpOk.fieldAddr (Try.fld24_0) rfl) ?_
  refine LF.step (OpOk.ldBx hb1 Try.one3 rfl rfl) ?_
  refine LF.step (OpOk.build (v := .agg #[.int .i64 m.Params, .slice none 0 0]) rfl (fun w => by kernel_rfl)) ?_
  refine LF.chg (OpCh.allocB Try.zero24 rfl) ?_
  rintro _ H3 ⟨g3, rfl, eg3, sg3, kg3, hb3⟩
  have ng3 := hin.nope (Nat.le_of_eq eg3.symm)
  have lg3 := hkp.1
  have nb3_1 : g1 ≠ g3 := by have := hb1.lt; omega
  have nb3_2 : g2 ≠ g3 := by have := hb2.lt; omega
  have zkg3 := kg3.1
  replace hin := hin.kp kg3
  replace hkp := hkp.trans (kg3.mono hkp.1)
  replace hb1 := hb1.kp kg3
  replace hb2 := hb2.kp kg3
  clear kg3
  refine LF.chg0 (OpCh.storeBA hb3 Try.sz24 rfl rfl rfl (allOne.mem (l := [.int .i64 m.Params, .slice none 0 0]) ⟨rfl, rfl, trivial⟩) (by decide)) ?_
  rintro _ Hw1 ⟨tw1, bw1⟩
  have ztw1 := tw1.1
  replace hin := hin.tw tw1 ng3
  replace hkp := Tw.kp' hkp tw1 (by omega)
  replace hb1 := hb1.tw tw1 (by first | omega | assumption | exact Ne.symm (by assumption))
  replace hb2 := hb2.tw tw1 (by first | omega | assumption | exact Ne.symm (by assumption))
  replace hb3 : Bx _ _ _ [.int .i64 m.Params, .slice none 0 0] := bw1
  clear bw1 tw1
  refine LF.nil (PF.next (CF.seq (CF.seq (CF.region (LF.step (OpOk.assign rfl) (LF.nil (PF.next (CF.block ?_))))))))
  have x9003 := (fun (H9 : Heap) (_ : InH F H9) => (Gl.nil F H9 H.size : Gl rMBlock 61 F H9 H.size (.slice none 0 0) [])) _ hin
  refine CF.loop (ι := Nat × List D.MBlock × Value × PH) (fun z9 H1 => (z9.1 ≤ m.Blocks.length ∧ z9.1 ≤ 5) ∧ z9.2.1 = (m.Blocks.take z9.1).map rawB ∧ PH.ext H F z9.2.2.2 ∧ PH.le F z9.2.2.2 ∧ InH z9.2.2.2 H1 ∧ Kp H.size H H1 ∧ Bx H1 g1 24 [.int .i64 m.Params, a0c1] ∧ z9.2.2.2 g1 = none ∧ Bx H1 g2 24 [.int .i64 0, .slice none 0 0] ∧ z9.2.2.2 g2 = none ∧ Bx H1 g3 24 [.int .i64 m.Params, z9.2.2.1] ∧ z9.2.2.2 g3 = none ∧ Gl rMBlock 61 z9.2.2.2 H1 H.size z9.2.2.1 z9.2.1) (fun z9 => [(1, .pointer (some ⟨g1, 0, none⟩)), (2, .pointer (some ⟨g2, 0, none⟩)), (3, .pointer (some ⟨g3, 0, none⟩)), (4, .int .i64 (↑z9.1))]) (fun z9 => 5 - z9.1) (0, [], .slice none 0 0, F) ⟨by dsimp only; omega, rfl, hx, PH.le.refl _, hin, hkp, hb1, ng1, hb2, ng2, hb3, ng3, x9003⟩ ⟨rfl, rfl, rfl, eqI (by omega), trivial⟩ ?_
  clear hx hin hkp hb1 ng1 hb2 ng2 hb3 ng3 x9003
  rintro ⟨k, bl, vb, Fl⟩ H1 ⟨hk, hbl, hx, le0, hin, hkp, hb1, ng1, hb2, ng2, hb3, ng3, x9003⟩
  dsimp only at hk hbl hin hkp hb1 ng1 hb2 ng2 hb3 ng3 x9003 ⊢
  have hbn : bl.length = k := by rw [hbl]; simp; omega
  refine CF.seq (CF.seq (CF.region (LF.step (OpOk.move rfl) ?_)))
  refine LF.step (OpOk.fieldAddr (Try.fld24_1) rfl) ?_
  refine LF.step (OpOk.ldBx hb1 Try.one22 rfl rfl) ?_
  refine LF.step (OpOk.lenL Try.underlying22 (p0c1.up le0) rfl) ?_
  refine LF.step (OpOk.lss rfl rfl) ?_
  refine LF.step (OpOk.move rfl) ?_
  refine LF.gstep rfl rfl (.t _) (fun hg => OpOk.move rfl) ?_
  refine LF.gstep rfl rfl (.t _) (fun hg => OpOk.lss (evg rfl hg) rfl) ?_
  refine LF.step (OpOk.pickAnd rfl rfl) ?_
  refine LF.nil (PF.next ?_)
  refine CF.if rfl (fun hc1 => ?_) (fun hc1 => ?_)
  refine CF.skip (PF.next (CF.seq (CF.block (CF.seq (CF.region ?_)))))
  refine LF.step (OpOk.fieldAddr (Try.fld24_1) rfl) ?_
  refine LF.step (OpOk.ldBx hb1 Try.one22 rfl rfl) ?_
  refine LF.step (OpOk.move rfl) ?_
  refine LF.step (OpOk.idxL (i := k) Try.underlying22 Try.sz61 (p0c1.up le0) rfl rfl rfl (by omega)) ?_
  refine LF.step (OpOk.fieldAddr (Try.fld61_2) rfl) ?_
  refine LF.stepE (OpOk.ldA hin (rMBlock.at_End (rL.ix (p0c1.up le0) k (by omega))) Try.agg55 Try.sz55 rfl) ?_
  intro v28 h28
  have h28k := rEnd.any h28
  obtain ⟨v28c3, rfl, h28c3⟩ := rEnd.open h28
  have h28c3q := rL.len2 h28c3
  refine LF.step (OpOk.build (v := .agg #[.slice none 0 0, .slice none 0 0, .int .i64 (((ix m.Blocks k).End).Op), .int .i64 (((ix m.Blocks k).End).A), .int .i64 (((ix m.Blocks k).End).B), v28c3, .int .i32 (((ix m.Blocks k).End).Imm)]) rfl (fun w => by obtain ⟨_, a59, c59, e59, _⟩ := h28c3; rw [show (v28c3 : Value) = _ from e59]; kernel_rfl)) ?_
  refine LF.chg (OpCh.allocB Try.zero61 rfl) ?_
  rintro _ H5 ⟨g5, rfl, eg5, sg5, kg5, hb5⟩
  have ng5 := hin.nope (Nat.le_of_eq eg5.symm)
  have lg5 := hkp.1
  have nq9003_5 : (vb : Value).ownBlock ≠ some g5 := fun h9 => by have := x9003.lt _ h9; omega
  have zkg5 := kg5.1
  replace hin := hin.kp kg5
  replace hkp := hkp.trans (kg5.mono hkp.1)
  replace hb1 := hb1.kp kg5
  replace hb2 := hb2.kp kg5
  replace hb3 := hb3.kp kg5
  replace x9003 := x9003.kp kg5
  clear kg5
  refine LF.chg0 (OpCh.storeBA hb5 Try.sz61 rfl rfl rfl (allOne.mem (l := [.slice none 0 0, .slice none 0 0, .int .i64 (((ix m.Blocks k).End).Op), .int .i64 (((ix m.Blocks k).End).A), .int .i64 (((ix m.Blocks k).End).B), v28c3, .int .i32 (((ix m.Blocks k).End).Imm)]) ⟨rfl, rfl, rfl, rfl, rfl, (h28c3.one1), rfl, trivial⟩) (by decide)) ?_
  rintro _ Hw2 ⟨tw2, bw2⟩
  have ztw2 := tw2.1
  replace hin := hin.tw tw2 ng5
  replace hkp := Tw.kp' hkp tw2 (by omega)
  replace hb1 := hb1.tw tw2 (Bx.ne hb1 hb5 (by decide))
  replace hb2 := hb2.tw tw2 (Bx.ne hb2 hb5 (by decide))
  replace hb3 := hb3.tw tw2 (Bx.ne hb3 hb5 (by decide))
  replace x9003 := x9003.tw tw2 (by first | exact x9003.neLt (by omega) | exact nq9003_5)
  replace hb5 : Bx _ _ _ [.slice none 0 0, .slice none 0 0, .int .i64 (((ix m.Blocks k).End).Op), .int .i64 (((ix m.Blocks k).End).A), .int .i64 (((ix m.Blocks k).End).B), v28c3, .int .i32 (((ix m.Blocks k).End).Imm)] := bw2
  clear bw2 tw2
  refine LF.nil (PF.next (CF.seq (CF.region ?_)))
  refine LF.chg (OpCh.litL (F := Fl) (r := (rI .i64)) (l := []) (us := []) (cs := []) Try.underlying38 Try.info3 (by decide) rfl rfl rfl trivial) ?_
  rintro _ H30 ⟨g30, rfl, e30, s30, k30, x30⟩
  have l30 := hkp.1
  have ap9003_30 := ap_new x9003.lt (x30 hin).ge
  replace x30 := (x30 hin).base l30
  have zk30 := k30.1
  replace hin := hin.kp k30
  replace hkp := hkp.trans (k30.mono hkp.1)
  replace hb1 := hb1.kp k30
  replace hb2 := hb2.kp k30
  replace hb3 := hb3.kp k30
  replace hb5 := hb5.kp k30
  replace x9003 := x9003.kp k30
  have ap30_9003 := ap_sym ap9003_30
  refine LF.step (OpOk.fieldAddr (Try.fld61_2) rfl) ?_
  refine LF.step (OpOk.fieldAddr (Try.fld55_3) rfl) ?_
  refine LF.step (OpOk.ldBx hb5 Try.one38 rfl rfl) ?_
  refine LF.step (OpOk.fieldAddr (Try.fld61_2) rfl) ?_
  refine LF.step (OpOk.fieldAddr (Try.fld55_3) rfl) ?_
  refine LF.step (OpOk.ldBx hb5 Try.one38 rfl rfl) ?_
  refine LF.step (OpOk.lenL Try.underlying38 h28c3 rfl) ?_
  refine LF.step (OpOk.min3 rfl rfl) ?_
  refine LF.step (OpOk.sliceHiL (hi := (Int.toNat (min (↑(List.length (((ix m.Blocks k).End).To))) 8))) Try.underlying38 Try.sz3 h28c3 hin rfl rfl (by omega) (by omega)) ?_
  refine LF.chg (OpCh.appL (r := (rI .i64)) Try.underlying38 Try.info3 (by decide) rfl rfl rfl x30 (rL.hi h28c3 (Int.toNat (min (↑(List.length (((ix m.Blocks k).End).To))) 8)) (by omega) (by omega)) hin (by first | (simp only [List.length_append, List.length_take, List.length_drop, List.length_nil, List.length_cons, List.length_set, List.length_replicate]; omega) | (simp; done) | (simp; omega) | omega) (by omega)) ?_
  rintro v40 H40 ⟨x40, gb40, ob40⟩
  replace hin := hin.grown gb40 x30.no
  replace hkp := gb40.kp hkp (Nat.le_refl _) (fun k0 hk0 => (x30.blk k0 hk0).1)
  replace hb1 := hb1.of (gb40.2 _ hb1.lt (Ne.symm (by first | exact x30.neBx hb1 (by decide) | exact nq30_1)))
  replace hb2 := hb2.of (gb40.2 _ hb2.lt (Ne.symm (by first | exact x30.neBx hb2 (by decide) | exact nq30_2)))
  replace hb3 := hb3.of (gb40.2 _ hb3.lt (Ne.symm (by first | exact x30.neBx hb3 (by decide) | exact nq30_3)))
  replace hb5 := hb5.of (gb40.2 _ hb5.lt (Ne.symm (by first | exact x30.neBx hb5 (by decide) | exact nq30_5)))
  have ap40_9003 := ap_grow ap30_9003 x9003.lt (ob_some ob40)
  have ap9003_40 := ap_sym ap40_9003
  replace x9003 := x9003.of (fun k0 hk0 => gb40.2 k0 (x9003.blk k0 hk0).2 (fun e9 => ap30_9003 _ e9.symm hk0))
  rw [List.nil_append] at x40
  refine LF.step (OpOk.fieldAddr (Try.fld61_2) rfl) ?_
  refine LF.step (OpOk.fieldAddr (Try.fld55_3) rfl) ?_
  refine LF.chg0 (OpCh.storeB hb5 Try.sz38 rfl rfl x40.one1 (by first | decide | (simp; done))) ?_
  rintro _ Hw3 ⟨tw3, bw3⟩
  have ztw3 := tw3.1
  replace hin := hin.tw tw3 ng5
  replace hkp := Tw.kp' hkp tw3 (by omega)
  replace hb1 := hb1.tw tw3 (Bx.ne hb1 hb5 (by decide))
  replace hb2 := hb2.tw tw3 (Bx.ne hb2 hb5 (by decide))
  replace hb3 := hb3.tw tw3 (Bx.ne hb3 hb5 (by decide))
  replace x9003 := x9003.tw tw3 (by first | exact x9003.neLt (by omega) | exact nq9003_5)
  replace x40 := x40.tw tw3 (x40.neBx hb5 (by decide))
  replace hb5 : Bx _ _ _ [.slice none 0 0, .slice none 0 0, .int .i64 (((ix m.Blocks k).End).Op), .int .i64 (((ix m.Blocks k).End).A), .int .i64 (((ix m.Blocks k).End).B), v40, .int .i32 (((ix m.Blocks k).End).Imm)] := bw3
  clear bw3 tw3
  refine LF.nil (PF.next (CF.seq (CF.seq (CF.region (LF.step (OpOk.assign rfl) (LF.nil (PF.next (CF.block ?_))))))))
  have x9005 := (fun (H9 : Heap) (_ : InH Fl H9) => (Gl.nil Fl H9 H.size : Gl rPhi 70 Fl H9 H.size (.slice none 0 0) [])) _ hin
  have ap9005_9003 : ∀ k9, (Value.slice none 0 0).ownBlock = some k9 → (vb : Value).ownBlock ≠ some k9 := fun _ h9 => by cases h9
  have ap9003_9005 := ap_sym ap9005_9003
  have ap9005_40 : ∀ k9, (Value.slice none 0 0).ownBlock = some k9 → (v40 : Value).ownBlock ≠ some k9 := fun _ h9 => by cases h9
  have ap40_9005 := ap_sym ap9005_40
  refine CF.loop (ι := Nat × List D.Phi × Value × PH) (fun z9 H1 => (z9.1 ≤ (ix m.Blocks k).Phis.length ∧ z9.1 ≤ 4) ∧ z9.2.1 = ((ix m.Blocks k).Phis.take z9.1).map rawP ∧ PH.ext H F z9.2.2.2 ∧ PH.le Fl z9.2.2.2 ∧ InH z9.2.2.2 H1 ∧ Kp H.size H H1 ∧ Bx H1 g1 24 [.int .i64 m.Params, a0c1] ∧ z9.2.2.2 g1 = none ∧ Bx H1 g2 24 [.int .i64 0, .slice none 0 0] ∧ z9.2.2.2 g2 = none ∧ Bx H1 g3 24 [.int .i64 m.Params, vb] ∧ z9.2.2.2 g3 = none ∧ Bx H1 g5 61 [z9.2.2.1, .slice none 0 0, .int .i64 (((ix m.Blocks k).End).Op), .int .i64 (((ix m.Blocks k).End).A), .int .i64 (((ix m.Blocks k).End).B), v40, .int .i32 (((ix m.Blocks k).End).Imm)] ∧ z9.2.2.2 g5 = none ∧ Gl rMBlock 61 z9.2.2.2 H1 H.size vb bl ∧ Gl (rI .i64) 3 z9.2.2.2 H1 H.size v40 (List.take (Int.toNat (min (↑(List.length (((ix m.Blocks k).End).To))) 8)) (((ix m.Blocks k).End).To)) ∧ Gl rPhi 70 z9.2.2.2 H1 H.size z9.2.2.1 z9.2.1 ∧ (∀ k9, (vb : Value).ownBlock = some k9 → (z9.2.2.1 : Value).ownBlock ≠ some k9) ∧ (∀ k9, (v40 : Value).ownBlock = some k9 → (z9.2.2.1 : Value).ownBlock ≠ some k9)) (fun z9 => [(1, .pointer (some ⟨g1, 0, none⟩)), (2, .pointer (some ⟨g2, 0, none⟩)), (3, .pointer (some ⟨g3, 0, none⟩)), (4, .int .i64 (↑k)), (5, .pointer (some ⟨g5, 0, none⟩)), (6, .int .i64 (↑z9.1))]) (fun z9 => 4 - z9.1) (0, [], .slice none 0 0, Fl) ⟨by dsimp only; omega, rfl, hx, PH.le.refl _, hin, hkp, hb1, ng1, hb2, ng2, hb3, ng3, hb5, ng5, x9003, x40, x9005, ap9003_9005, ap40_9005⟩ ⟨rfl, rfl, rfl, rfl, rfl, eqI (by omega), trivial⟩ ?_
  clear hx hin hkp hb1 ng1 hb2 ng2 hb3 ng3 hb5 ng5 x9003 x40 x9005 ap9003_9005 ap40_9005
  rintro ⟨i, pl, vp, Fm⟩ H1 ⟨hi, hpl, hx, le1, hin, hkp, hb1, ng1, hb2, ng2, hb3, ng3, hb5, ng5, x9003, x40, x9005, ap9003_9005, ap40_9005⟩
  dsimp only at hi hpl hin hkp hb1 ng1 hb2 ng2 hb3 ng3 hb5 ng5 x9003 x40 x9005 ap9003_9005 ap40_9005 ⊢
  replace le0 := le0.trans le1
  have ap9005_9003 := ap_sym ap9003_9005
  have ap9005_40 := ap_sym ap40_9005
  have hpn : pl.length = i := by rw [hpl]; simp; omega
  refine CF.seq (CF.seq (CF.region (LF.step (OpOk.move rfl) ?_)))
  refine LF.step (OpOk.fieldAddr (Try.fld24_1) rfl) ?_
  refine LF.step (OpOk.ldBx hb1 Try.one22 rfl rfl) ?_
  refine LF.step (OpOk.move rfl) ?_
  refine LF.step (OpOk.idxL (i := k) Try.underlying22 Try.sz61 (p0c1.up le0) rfl rfl rfl (by omega)) ?_
  refine LF.step (OpOk.fieldAddr (Try.fld61_0) rfl) ?_
  refine LF.stepE (OpOk.ldV hin (rMBlock.at_Phis (rL.ix (p0c1.up le0) k (by omega))) Try.one58 rfl rfl) ?_
  intro v49 h49
  have h49q := rL.len2 h49
  refine LF.step (OpOk.lenL Try.underlying58 h49 rfl) ?_
  refine LF.step (OpOk.lss rfl rfl) ?_
  refine LF.step (OpOk.move rfl) ?_
  refine LF.gstep rfl rfl (.t _) (fun hg => OpOk.move rfl) ?_
  refine LF.gstep rfl rfl (.t _) (fun hg => OpOk.lss (evg rfl hg) rfl) ?_
  refine LF.step (OpOk.pickAnd rfl rfl) ?_
  refine LF.nil (PF.next ?_)
  refine CF.if rfl (fun hc2 => ?_) (fun hc2 => ?_)
  refine CF.skip (PF.next (CF.seq (CF.block (CF.seq (CF.region ?_)))))
  refine LF.step (OpOk.fieldAddr (Try.fld24_1) rfl) ?_
  refine LF.step (OpOk.ldBx hb1 Try.one22 rfl rfl) ?_
  refine LF.step (OpOk.move rfl) ?_
  refine LF.step (OpOk.idxL (i := k) Try.underlying22 Try.sz61 (p0c1.up le0) rfl rfl rfl (by omega)) ?_
  refine LF.step (OpOk.fieldAddr (Try.fld61_0) rfl) ?_
  refine LF.stepE (OpOk.ldV hin (rMBlock.at_Phis (rL.ix (p0c1.up le0) k (by omega))) Try.one58 rfl rfl) ?_
  intro v63 h63
  have h63q := rL.len2 h63
  refine LF.step (OpOk.move rfl) ?_
  refine LF.step (OpOk.idxL (i := i) Try.underlying58 Try.sz70 h63 rfl rfl rfl (by omega)) ?_
  refine LF.stepE (OpOk.ldA hin (rL.ix h63 i (by omega)) Try.agg70 Try.sz70 rfl) ?_
  intro v66 h66
  have h66k := rPhi.any h66
  obtain ⟨v66c1, rfl, h66c1⟩ := rPhi.open h66
  have h66c1q := rL.len2 h66c1
  refine LF.chg (OpCh.allocB Try.zero70 rfl) ?_
  rintro _ H7 ⟨g7, rfl, eg7, sg7, kg7, hb7⟩
  have ng7 := hin.nope (Nat.le_of_eq eg7.symm)
  have lg7 := hkp.1
  have nq9005_7 : (vp : Value).ownBlock ≠ some g7 := fun h9 => by have := x9005.lt _ h9; omega
  have zkg7 := kg7.1
  replace hin := hin.kp kg7
  replace hkp := hkp.trans (kg7.mono hkp.1)
  replace hb1 := hb1.kp kg7
  replace hb2 := hb2.kp kg7
  replace hb3 := hb3.kp kg7
  replace hb5 := hb5.kp kg7
  replace x9003 := x9003.kp kg7
  replace x40 := x40.kp kg7
  replace x9005 := x9005.kp kg7
  clear kg7
  refine LF.chg0 (OpCh.storeBA hb7 Try.sz70 rfl rfl rfl (allOne.mem (l := [.int .i64 ((ix ((ix m.Blocks k).Phis) i).Dst), v66c1]) ⟨rfl, (h66c1.one1), trivial⟩) (by decide)) ?_
  rintro _ Hw4 ⟨tw4, bw4⟩
  have ztw4 := tw4.1
  replace hin := hin.tw tw4 ng7
  replace hkp := Tw.kp' hkp tw4 (by omega)
  replace hb1 := hb1.tw tw4 (Bx.ne hb1 hb7 (by decide))
  replace hb2 := hb2.tw tw4 (Bx.ne hb2 hb7 (by decide))
  replace hb3 := hb3.tw tw4 (Bx.ne hb3 hb7 (by decide))
  replace hb5 := hb5.tw tw4 (Bx.ne hb5 hb7 (by decide))
  replace x9003 := x9003.tw tw4 (x9003.neBx hb7 (by decide))
  replace x40 := x40.tw tw4 (x40.neBx hb7 (by decide))
  replace x9005 := x9005.tw tw4 (by first | exact x9005.neLt (by omega) | exact nq9005_7)
  replace hb7 : Bx _ _ _ [.int .i64 ((ix ((ix m.Blocks k).Phis) i).Dst), v66c1] := bw4
  clear bw4 tw4
  refine LF.nil (PF.next ?_)
  refine CF.any (fun H' => InH Fm H' ∧ Bx H' g1 24 [.int .i64 m.Params, a0c1] ∧ Bx H' g2 24 [.int .i64 0, .slice none 0 0] ∧ Bx H' g3 24 [.int .i64 m.Params, vb] ∧ Bx H' g7 70 [.int .i64 ((ix ((ix m.Blocks k).Phis) i).Dst), v66c1] ∧ True) Try.mixed ?_
  refine AF.take 0 rfl (by kernel_rfl) (by kernel_rfl) (by kernel_rfl) ⟨hin, hb1, hb2, hb3, hb7, trivial⟩ (fun _ ⟨hin, hb1, hb2, hb3, hb7, _⟩ => OpOk.fieldAddr (Try.fld61_0) rfl) ?_
  refine AF.take 2 rfl (by kernel_rfl) (by kernel_rfl) (by kernel_rfl) ⟨hin, hb1, hb2, hb3, hb7, trivial⟩ (fun _ ⟨hin, hb1, hb2, hb3, hb7, _⟩ => OpOk.fieldAddr (Try.fld70_0) rfl) ?_
  refine AF.take 3 rfl (by kernel_rfl) (by kernel_rfl) (by kernel_rfl) ⟨hin, hb1, hb2, hb3, hb7, trivial⟩ (fun _ ⟨hin, hb1, hb2, hb3, hb7, _⟩ => OpOk.ldBx hb7 Try.one3 rfl rfl) ?_
  refine AF.take 5 rfl (by kernel_rfl) (by kernel_rfl) (by kernel_rfl) ⟨hin, hb1, hb2, hb3, hb7, trivial⟩ (fun _ ⟨hin, hb1, hb2, hb3, hb7, _⟩ => OpOk.fieldAddr (Try.fld70_1) rfl) ?_
  refine AF.take 6 rfl (by kernel_rfl) (by kernel_rfl) (by kernel_rfl) ⟨hin, hb1, hb2, hb3, hb7, trivial⟩ (fun _ ⟨hin, hb1, hb2, hb3, hb7, _⟩ => OpOk.ldBx hb7 Try.one68 rfl rfl) ?_
  refine AF.take 7 rfl (by kernel_rfl) (by kernel_rfl) (by kernel_rfl) ⟨hin, hb1, hb2, hb3, hb7, trivial⟩ (fun _ ⟨hin, hb1, hb2, hb3, hb7, _⟩ => OpOk.fieldAddr (Try.fld70_1) rfl) ?_
  refine AF.take 8 rfl (by kernel_rfl) (by kernel_rfl) (by kernel_rfl) ⟨hin, hb1, hb2, hb3, hb7, trivial⟩ (fun _ ⟨hin, hb1, hb2, hb3, hb7, _⟩ => OpOk.ldBx hb7 Try.one68 rfl rfl) ?_
  refine AF.take 9 rfl (by kernel_rfl) (by kernel_rfl) (by kernel_rfl) ⟨hin, hb1, hb2, hb3, hb7, trivial⟩ (fun _ ⟨hin, hb1, hb2, hb3, hb7, _⟩ => OpOk.lenL Try.underlying68 h66c1 rfl) ?_
  refine AF.take 10 rfl (by kernel_rfl) (by kernel_rfl) (by kernel_rfl) ⟨hin, hb1, hb2, hb3, hb7, trivial⟩ (fun _ ⟨hin, hb1, hb2, hb3, hb7, _⟩ => OpOk.min3 rfl rfl) ?_
  refine AF.take 11 rfl (by kernel_rfl) (by kernel_rfl) (by kernel_rfl) ⟨hin, hb1, hb2, hb3, hb7, trivial⟩ (fun _ ⟨hin, hb1, hb2, hb3, hb7, _⟩ => OpOk.sliceHiL (hi := (Int.toNat (min (↑(List.length ((ix ((ix m.Blocks k).Phis) i).In))) 8))) Try.underlying68 Try.sz82 h66c1 hin rfl rfl (by omega) (by omega)) ?_
  refine AF.two 1 4 (by kernel_rfl) ?_ ?_
  refine AFN.step rfl (OpOk.ldBx hb5 Try.one58 rfl rfl) ⟨hin, hb1, hb2, hb3, hb7, trivial⟩ ?_
  refine AF.one 4 (by kernel_rfl) ?_
  refine AFN.chg rfl (OpCh.litL (F := Fm) (r := rIn) (l := []) (us := []) (cs := []) Try.underlying68 Try.info82 (by decide) rfl rfl rfl trivial) ?_
  rintro _ H71 ⟨g71, rfl, e71, s71, k71, x71⟩
  have l71 := hkp.1
  have ap9003_71 := ap_new x9003.lt (x71 hin).ge
  have ap40_71 := ap_new x40.lt (x71 hin).ge
  have ap9005_71 := ap_new x9005.lt (x71 hin).ge
  replace x71 := (x71 hin).base l71
  have zk71 := k71.1
  replace hin := hin.kp k71
  replace hkp := hkp.trans (k71.mono hkp.1)
  replace hb1 := hb1.kp k71
  replace hb2 := hb2.kp k71
  replace hb3 := hb3.kp k71
  replace hb5 := hb5.kp k71
  replace hb7 := hb7.kp k71
  replace x9003 := x9003.kp k71
  replace x40 := x40.kp k71
  replace x9005 := x9005.kp k71
  have ap71_9003 := ap_sym ap9003_71
  have ap71_40 := ap_sym ap40_71
  have ap71_9005 := ap_sym ap9005_71
  refine ⟨⟨hin, hb1, hb2, hb3, hb7, trivial⟩, ?_⟩
  refine AF.one 12 (by kernel_rfl) ?_
  refine AFN.chg rfl (OpCh.appL (r := rIn) Try.underlying68 Try.info82 (by decide) rfl rfl rfl x71 (rL.hi h66c1 (Int.toNat (min (↑(List.length ((ix ((ix m.Blocks k).Phis) i).In))) 8)) (by omega) (by omega)) hin (by first | (simp only [List.length_append, List.length_take, List.length_drop, List.length_nil, List.length_cons, List.length_set, List.length_replicate]; omega) | (simp; done) | (simp; omega) | omega) (by omega)) ?_
  rintro v79 H79 ⟨x79, gb79, ob79⟩
  replace hin := hin.grown gb79 x71.no
  replace hkp := gb79.kp hkp (Nat.le_refl _) (fun k0 hk0 => (x71.blk k0 hk0).1)
  replace hb1 := hb1.of (gb79.2 _ hb1.lt (Ne.symm (by first | exact x71.neBx hb1 (by decide) | exact nq71_1)))
  replace hb2 := hb2.of (gb79.2 _ hb2.lt (Ne.symm (by first | exact x71.neBx hb2 (by decide) | exact nq71_2)))
  replace hb3 := hb3.of (gb79.2 _ hb3.lt (Ne.symm (by first | exact x71.neBx hb3 (by decide) | exact nq71_3)))
  replace hb5 := hb5.of (gb79.2 _ hb5.lt (Ne.symm (by first | exact x71.neBx hb5 (by decide) | exact nq71_5)))
  replace hb7 := hb7.of (gb79.2 _ hb7.lt (Ne.symm (by first | exact x71.neBx hb7 (by decide) | exact nq71_7)))
  have ap79_9003 := ap_grow ap71_9003 x9003.lt (ob_some ob79)
  have ap9003_79 := ap_sym ap79_9003
  replace x9003 := x9003.of (fun k0 hk0 => gb79.2 k0 (x9003.blk k0 hk0).2 (fun e9 => ap71_9003 _ e9.symm hk0))
  have ap79_40 := ap_grow ap71_40 x40.lt (ob_some ob79)
  have ap40_79 := ap_sym ap79_40
  replace x40 := x40.of (fun k0 hk0 => gb79.2 k0 (x40.blk k0 hk0).2 (fun e9 => ap71_40 _ e9.symm hk0))
  have ap79_9005 := ap_grow ap71_9005 x9005.lt (ob_some ob79)
  have ap9005_79 := ap_sym ap79_9005
  replace x9005 := x9005.of (fun k0 hk0 => gb79.2 k0 (x9005.blk k0 hk0).2 (fun e9 => ap71_9005 _ e9.symm hk0))
  rw [List.nil_append] at x79
  refine ⟨⟨hin, hb1, hb2, hb3, hb7, trivial⟩, ?_⟩
  refine AF.take 13 rfl (by kernel_rfl) (by kernel_rfl) (by kernel_rfl) ⟨hin, hb1, hb2, hb3, hb7, trivial⟩ (fun _ ⟨hin, hb1, hb2, hb3, hb7, _⟩ => OpOk.build (v := .agg #[.int .i64 ((ix ((ix m.Blocks k).Phis) i).Dst), v79]) rfl (fun w => by obtain ⟨xs9, h9, _⟩ := x79; obtain ⟨a19, c19, e19⟩ := h9.len; rw [show (v79 : Value) = _ from e19]; kernel_rfl)) ?_
  refine AF.one 14 (by kernel_rfl) ?_
  obtain ⟨Fz5, hxz5, lez5, hinz5, noz5, hrz5⟩ := x79.freezeX hin hx (Nat.le_refl _) (by first | (simp only [List.length_append, List.length_take, List.length_drop, List.length_nil, List.length_cons, List.length_set, List.length_replicate]; omega) | (simp; done) | (simp; omega) | omega)
  replace hin := hinz5
  replace hx := hxz5
  replace le0 := le0.trans lez5
  replace le1 := le1.trans lez5
  have le2 := lez5
  replace ng1 := (noz5 _ (x79.neBx hb1 (by decide))).trans ng1
  replace ng2 := (noz5 _ (x79.neBx hb2 (by decide))).trans ng2
  replace ng3 := (noz5 _ (x79.neBx hb3 (by decide))).trans ng3
  replace ng5 := (noz5 _ (x79.neBx hb5 (by decide))).trans ng5
  replace ng7 := (noz5 _ (x79.neBx hb7 (by decide))).trans ng7
  replace x9003 := x9003.frozen lez5 noz5 ap9003_79
  replace x40 := x40.frozen lez5 noz5 ap40_79
  replace x9005 := x9005.frozen lez5 noz5 ap9005_79
  refine AFN.chg rfl (OpCh.litL (F := Fz5) (r := rPhi) (l := [⟨(ix ((ix m.Blocks k).Phis) i).Dst, List.take (Int.toNat (min (↑(List.length ((ix ((ix m.Blocks k).Phis) i).In))) 8)) ((ix ((ix m.Blocks k).Phis) i).In)⟩]) (us := [.agg #[.int .i64 ((ix ((ix m.Blocks k).Phis) i).Dst), v79]]) (cs := [[.int .i64 ((ix ((ix m.Blocks k).Phis) i).Dst), v79]]) Try.underlying58 Try.info70 (by decide) rfl rfl rfl ⟨rfl, rfl, (ra_ok (rPhi.mk (m := ⟨(ix ((ix m.Blocks k).Phis) i).Dst, List.take (Int.toNat (min (↑(List.length ((ix ((ix m.Blocks k).Phis) i).In))) 8)) ((ix ((ix m.Blocks k).Phis) i).In)⟩) hrz5 (rPhi.w_Dst (m := (ix ((ix m.Blocks k).Phis) i)) h66k))), trivial⟩) ?_
  rintro _ H81 ⟨g81, rfl, e81, s81, k81, x81⟩
  have l81 := hkp.1
  have ap9003_81 := ap_new x9003.lt (x81 hin).ge
  have ap40_81 := ap_new x40.lt (x81 hin).ge
  have ap9005_81 := ap_new x9005.lt (x81 hin).ge
  have nq81_7 := (x81 hin).neLt (.inl hb7.lt)
  replace x81 := (x81 hin).base l81
  have zk81 := k81.1
  replace hin := hin.kp k81
  replace hkp := hkp.trans (k81.mono hkp.1)
  replace hb1 := hb1.kp k81
  replace hb2 := hb2.kp k81
  replace hb3 := hb3.kp k81
  replace hb5 := hb5.kp k81
  replace hb7 := hb7.kp k81
  replace x9003 := x9003.kp k81
  replace x40 := x40.kp k81
  replace x9005 := x9005.kp k81
  have ap81_9003 := ap_sym ap9003_81
  have ap81_40 := ap_sym ap40_81
  have ap81_9005 := ap_sym ap9005_81
  refine ⟨⟨(hin.down le2), hb1, hb2, hb3, hb7, trivial⟩, ?_⟩
  refine AF.one 15 (by kernel_rfl) ?_
  obtain ⟨Fz6, hxz6, lez6, hinz6, noz6, hrz6⟩ := x81.freezeX hin hx (Nat.le_refl _) (by first | (simp only [List.length_append, List.length_take, List.length_drop, List.length_nil, List.length_cons, List.length_set, List.length_replicate]; omega) | (simp; done) | (simp; omega) | omega)
  replace hin := hinz6
  replace hx := hxz6
  replace le0 := le0.trans lez6
  replace le1 := le1.trans lez6
  replace le2 := le2.trans lez6
  have le3 := lez6
  replace ng1 := (noz6 _ (x81.neBx hb1 (by decide))).trans ng1
  replace ng2 := (noz6 _ (x81.neBx hb2 (by decide))).trans ng2
  replace ng3 := (noz6 _ (x81.neBx hb3 (by decide))).trans ng3
  replace ng5 := (noz6 _ (x81.neBx hb5 (by decide))).trans ng5
  replace ng7 := (noz6 _ nq81_7).trans ng7
  replace x9003 := x9003.frozen lez6 noz6 ap9003_81
  replace x40 := x40.frozen lez6 noz6 ap40_81
  replace x9005 := x9005.frozen lez6 noz6 ap9005_81
  refine AFN.chg rfl (OpCh.appL (r := rPhi) Try.underlying58 Try.info70 (by decide) rfl rfl rfl x9005 hrz6 hin (by first | (simp only [List.length_append, List.length_take, List.length_drop, List.length_nil, List.length_cons, List.length_set, List.length_replicate]; omega) | (simp; done) | (simp; omega) | omega) (by omega)) ?_
  rintro v82 H82 ⟨x82, gb82, ob82⟩
  replace hin := hin.grown gb82 x9005.no
  replace hkp := gb82.kp hkp (Nat.le_refl _) (fun k0 hk0 => (x9005.blk k0 hk0).1)
  replace hb1 := hb1.of (gb82.2 _ hb1.lt (Ne.symm (by first | exact x9005.neBx hb1 (by decide) | exact nq9005_1)))
  replace hb2 := hb2.of (gb82.2 _ hb2.lt (Ne.symm (by first | exact x9005.neBx hb2 (by decide) | exact nq9005_2)))
  replace hb3 := hb3.of (gb82.2 _ hb3.lt (Ne.symm (by first | exact x9005.neBx hb3 (by decide) | exact nq9005_3)))
  replace hb5 := hb5.of (gb82.2 _ hb5.lt (Ne.symm (by first | exact x9005.neBx hb5 (by decide) | exact nq9005_5)))
  replace hb7 := hb7.of (gb82.2 _ hb7.lt (Ne.symm (by first | exact x9005.neBx hb7 (by decide) | exact nq9005_7)))
  have ap82_9003 := ap_grow ap9005_9003 x9003.lt (ob_some ob82)
  have ap9003_82 := ap_sym ap82_9003
  replace x9003 := x9003.of (fun k0 hk0 => gb82.2 k0 (x9003.blk k0 hk0).2 (fun e9 => ap9005_9003 _ e9.symm hk0))
  have ap82_40 := ap_grow ap9005_40 x40.lt (ob_some ob82)
  have ap40_82 := ap_sym ap82_40
  replace x40 := x40.of (fun k0 hk0 => gb82.2 k0 (x40.blk k0 hk0).2 (fun e9 => ap9005_40 _ e9.symm hk0))
  refine ⟨⟨(hin.down le2), hb1, hb2, hb3, hb7, trivial⟩, ?_⟩
  refine AF.take 16 rfl (by kernel_rfl) (by kernel_rfl) (by kernel_rfl) ⟨(hin.down le2), hb1, hb2, hb3, hb7, trivial⟩ (fun _ ⟨hin, hb1, hb2, hb3, hb7, _⟩ => OpOk.fieldAddr (Try.fld61_0) rfl) ?_
  refine AF.one 17 (by kernel_rfl) ?_
  refine AFN.chg0 rfl (OpCh.storeB hb5 Try.sz58 rfl rfl x82.one1 (by first | decide | (simp; done))) ?_
  rintro _ Hw7 ⟨tw7, bw7⟩
  have ztw7 := tw7.1
  replace hin := hin.tw tw7 ng5
  replace hkp := Tw.kp' hkp tw7 (by omega)
  replace hb1 := hb1.tw tw7 (Bx.ne hb1 hb5 (by decide))
  replace hb2 := hb2.tw tw7 (Bx.ne hb2 hb5 (by decide))
  replace hb3 := hb3.tw tw7 (Bx.ne hb3 hb5 (by decide))
  replace hb7 := hb7.tw tw7 (Bx.ne hb7 hb5 (by decide))
  replace x9003 := x9003.tw tw7 (by first | exact x9003.neLt (by omega) | exact nq9003_5)
  replace x40 := x40.tw tw7 (x40.neBx hb5 (by decide))
  replace x82 := x82.tw tw7 (x82.neBx hb5 (by decide))
  replace hb5 : Bx _ _ _ [v82, .slice none 0 0, .int .i64 (((ix m.Blocks k).End).Op), .int .i64 (((ix m.Blocks k).End).A), .int .i64 (((ix m.Blocks k).End).B), v40, .int .i32 (((ix m.Blocks k).End).Imm)] := bw7
  clear bw7 tw7
  refine ⟨⟨(hin.down le2), hb1, hb2, hb3, hb7, trivial⟩, ?_⟩
  refine AF.done (by kernel_rfl) ?_
  refine PF.blockNormal (PF.next (CF.region (LF.step (OpOk.move rfl) ?_)))
  refine LF.step (OpOk.add rfl rfl (by omega)) ?_
  refine LF.step (OpOk.assign rfl) (LF.nil ?_)
  exact PF.again (i + 1, pl ++ ([⟨(ix ((ix m.Blocks k).Phis) i).Dst, List.take (Int.toNat (min (((List.length ((ix ((ix m.Blocks k).Phis) i).In) : Nat) : Int)) 8)) ((ix ((ix m.Blocks k).Phis) i).In)⟩]), v82, Fz6) ⟨by dsimp only; omega, by dsimp only; rw [hpl, take_ix (by omega), List.map_append]; exact congrArg (fun z => _ ++ [z]) raw_phi, hx, le1, hin, hkp, hb1, ng1, hb2, ng2, hb3, ng3, hb5, ng5, x9003, x40, x82, ap9003_82, ap40_82⟩ ⟨rfl, rfl, rfl, rfl, rfl, eqI (by omega), trivial⟩ (by omega)
  refine AFN.chg rfl (OpCh.litL (F := Fm) (r := rIn) (l := []) (us := []) (cs := []) Try.underlying68 Try.info82 (by decide) rfl rfl rfl trivial) ?_
  rintro _ H71 ⟨g71, rfl, e71, s71, k71, x71⟩
  have l71 := hkp.1
  have ap9003_71 := ap_new x9003.lt (x71 hin).ge
  have ap40_71 := ap_new x40.lt (x71 hin).ge
  have ap9005_71 := ap_new x9005.lt (x71 hin).ge
  replace x71 := (x71 hin).base l71
  have zk71 := k71.1
  replace hin := hin.kp k71
  replace hkp := hkp.trans (k71.mono hkp.1)
  replace hb1 := hb1.kp k71
  replace hb2 := hb2.kp k71
  replace hb3 := hb3.kp k71
  replace hb5 := hb5.kp k71
  replace hb7 := hb7.kp k71
  replace x9003 := x9003.kp k71
  replace x40 := x40.kp k71
  replace x9005 := x9005.kp k71
  have ap71_9003 := ap_sym ap9003_71
  have ap71_40 := ap_sym ap40_71
  have ap71_9005 := ap_sym ap9005_71
  refine ⟨⟨hin, hb1, hb2, hb3, hb7, trivial⟩, ?_⟩
  refine AF.two 1 12 (by kernel_rfl) ?_ ?_
  refine AFN.step rfl (OpOk.ldBx hb5 Try.one58 rfl rfl) ⟨hin, hb1, hb2, hb3, hb7, trivial⟩ ?_
  refine AF.one 12 (by kernel_rfl) ?_
  refine AFN.chg rfl (OpCh.appL (r := rIn) Try.underlying68 Try.info82 (by decide) rfl rfl rfl x71 (rL.hi h66c1 (Int.toNat (min (↑(List.length ((ix ((ix m.Blocks k).Phis) i).In))) 8)) (by omega) (by omega)) hin (by first | (simp only [List.length_append, List.length_take, List.length_drop, List.length_nil, List.length_cons, List.length_set, List.length_replicate]; omega) | (simp; done) | (simp; omega) | omega) (by omega)) ?_
  rintro v79 H79 ⟨x79, gb79, ob79⟩
  replace hin := hin.grown gb79 x71.no
  replace hkp := gb79.kp hkp (Nat.le_refl _) (fun k0 hk0 => (x71.blk k0 hk0).1)
  replace hb1 := hb1.of (gb79.2 _ hb1.lt (Ne.symm (by first | exact x71.neBx hb1 (by decide) | exact nq71_1)))
  replace hb2 := hb2.of (gb79.2 _ hb2.lt (Ne.symm (by first | exact x71.neBx hb2 (by decide) | exact nq71_2)))
  replace hb3 := hb3.of (gb79.2 _ hb3.lt (Ne.symm (by first | exact x71.neBx hb3 (by decide) | exact nq71_3)))
  replace hb5 := hb5.of (gb79.2 _ hb5.lt (Ne.symm (by first | exact x71.neBx hb5 (by decide) | exact nq71_5)))
  replace hb7 := hb7.of (gb79.2 _ hb7.lt (Ne.symm (by first | exact x71.neBx hb7 (by decide) | exact nq71_7)))
  have ap79_9003 := ap_grow ap71_9003 x9003.lt (ob_some ob79)
  have ap9003_79 := ap_sym ap79_9003
  replace x9003 := x9003.of (fun k0 hk0 => gb79.2 k0 (x9003.blk k0 hk0).2 (fun e9 => ap71_9003 _ e9.symm hk0))
  have ap79_40 := ap_grow ap71_40 x40.lt (ob_some ob79)
  have ap40_79 := ap_sym ap79_40
  replace x40 := x40.of (fun k0 hk0 => gb79.2 k0 (x40.blk k0 hk0).2 (fun e9 => ap71_40 _ e9.symm hk0))
  have ap79_9005 := ap_grow ap71_9005 x9005.lt (ob_some ob79)
  have ap9005_79 := ap_sym ap79_9005
  replace x9005 := x9005.of (fun k0 hk0 => gb79.2 k0 (x9005.blk k0 hk0).2 (fun e9 => ap71_9005 _ e9.symm hk0))
  rw [List.nil_append] at x79
  refine ⟨⟨hin, hb1, hb2, hb3, hb7, trivial⟩, ?_⟩
  refine AF.take 13 rfl (by kernel_rfl) (by kernel_rfl) (by kernel_rfl) ⟨hin, hb1, hb2, hb3, hb7, trivial⟩ (fun _ ⟨hin, hb1, hb2, hb3, hb7, _⟩ => OpOk.build (v := .agg #[.int .i64 ((ix ((ix m.Blocks k).Phis) i).Dst), v79]) rfl (fun w => by obtain ⟨xs9, h9, _⟩ := x79; obtain ⟨a19, c19, e19⟩ := h9.len; rw [show (v79 : Value) = _ from e19]; kernel_rfl)) ?_
  refine AF.one 14 (by kernel_rfl) ?_
  obtain ⟨Fz8, hxz8, lez8, hinz8, noz8, hrz8⟩ := x79.freezeX hin hx (Nat.le_refl _) (by first | (simp only [List.length_append, List.length_take, List.length_drop, List.length_nil, List.length_cons, List.length_set, List.length_replicate]; omega) | (simp; done) | (simp; omega) | omega)
  replace hin := hinz8
  replace hx := hxz8
  replace le0 := le0.trans lez8
  replace le1 := le1.trans lez8
  have le2 := lez8
  replace ng1 := (noz8 _ (x79.neBx hb1 (by decide))).trans ng1
  replace ng2 := (noz8 _ (x79.neBx hb2 (by decide))).trans ng2
  replace ng3 := (noz8 _ (x79.neBx hb3 (by decide))).trans ng3
  replace ng5 := (noz8 _ (x79.neBx hb5 (by decide))).trans ng5
  replace ng7 := (noz8 _ (x79.neBx hb7 (by decide))).trans ng7
  replace x9003 := x9003.frozen lez8 noz8 ap9003_79
  replace x40 := x40.frozen lez8 noz8 ap40_79
  replace x9005 := x9005.frozen lez8 noz8 ap9005_79
  refine AFN.chg rfl (OpCh.litL (F := Fz8) (r := rPhi) (l := [⟨(ix ((ix m.Blocks k).Phis) i).Dst, List.take (Int.toNat (min (↑(List.length ((ix ((ix m.Blocks k).Phis) i).In))) 8)) ((ix ((ix m.Blocks k).Phis) i).In)⟩]) (us := [.agg #[.int .i64 ((ix ((ix m.Blocks k).Phis) i).Dst), v79]]) (cs := [[.int .i64 ((ix ((ix m.Blocks k).Phis) i).Dst), v79]]) Try.underlying58 Try.info70 (by decide) rfl rfl rfl ⟨rfl, rfl, (ra_ok (rPhi.mk (m := ⟨(ix ((ix m.Blocks k).Phis) i).Dst, List.take (Int.toNat (min (↑(List.length ((ix ((ix m.Blocks k).Phis) i).In))) 8)) ((ix ((ix m.Blocks k).Phis) i).In)⟩) hrz8 (rPhi.w_Dst (m := (ix ((ix m.Blocks k).Phis) i)) h66k))), trivial⟩) ?_
  rintro _ H81 ⟨g81, rfl, e81, s81, k81, x81⟩
  have l81 := hkp.1
  have ap9003_81 := ap_new x9003.lt (x81 hin).ge
  have ap40_81 := ap_new x40.lt (x81 hin).ge
  have ap9005_81 := ap_new x9005.lt (x81 hin).ge
  have nq81_7 := (x81 hin).neLt (.inl hb7.lt)
  replace x81 := (x81 hin).base l81
  have zk81 := k81.1
  replace hin := hin.kp k81
  replace hkp := hkp.trans (k81.mono hkp.1)
  replace hb1 := hb1.kp k81
  replace hb2 := hb2.kp k81
  replace hb3 := hb3.kp k81
  replace hb5 := hb5.kp k81
  replace hb7 := hb7.kp k81
  replace x9003 := x9003.kp k81
  replace x40 := x40.kp k81
  replace x9005 := x9005.kp k81
  have ap81_9003 := ap_sym ap9003_81
  have ap81_40 := ap_sym ap40_81
  have ap81_9005 := ap_sym ap9005_81
  refine ⟨⟨(hin.down le2), hb1, hb2, hb3, hb7, trivial⟩, ?_⟩
  refine AF.one 15 (by kernel_rfl) ?_
  obtain ⟨Fz9, hxz9, lez9, hinz9, noz9, hrz9⟩ := x81.freezeX hin hx (Nat.le_refl _) (by first | (simp only [List.length_append, List.length_take, List.length_drop, List.length_nil, List.length_cons, List.length_set, List.length_replicate]; omega) | (simp; done) | (simp; omega) | omega)
  replace hin := hinz9
  replace hx := hxz9
  replace le0 := le0.trans lez9
  replace le1 := le1.trans lez9
  replace le2 := le2.trans lez9
  have le3 := lez9
  replace ng1 := (noz9 _ (x81.neBx hb1 (by decide))).trans ng1
  replace ng2 := (noz9 _ (x81.neBx hb2 (by decide))).trans ng2
  replace ng3 := (noz9 _ (x81.neBx hb3 (by decide))).trans ng3
  replace ng5 := (noz9 _ (x81.neBx hb5 (by decide))).trans ng5
  replace ng7 := (noz9 _ nq81_7).trans ng7
  replace x9003 := x9003.frozen lez9 noz9 ap9003_81
  replace x40 := x40.frozen lez9 noz9 ap40_81
  replace x9005 := x9005.frozen lez9 noz9 ap9005_81
  refine AFN.chg rfl (OpCh.appL (r := rPhi) Try.underlying58 Try.info70 (by decide) rfl rfl rfl x9005 hrz9 hin (by first | (simp only [List.length_append, List.length_take, List.length_drop, List.length_nil, List.length_cons, List.length_set, List.length_replicate]; omega) | (simp; done) | (simp; omega) | omega) (by omega)) ?_
  rintro v82 H82 ⟨x82, gb82, ob82⟩
  replace hin := hin.grown gb82 x9005.no
  replace hkp := gb82.kp hkp (Nat.le_refl _) (fun k0 hk0 => (x9005.blk k0 hk0).1)
  replace hb1 := hb1.of (gb82.2 _ hb1.lt (Ne.symm (by first | exact x9005.neBx hb1 (by decide) | exact nq9005_1)))
  replace hb2 := hb2.of (gb82.2 _ hb2.lt (Ne.symm (by first | exact x9005.neBx hb2 (by decide) | exact nq9005_2)))
  replace hb3 := hb3.of (gb82.2 _ hb3.lt (Ne.symm (by first | exact x9005.neBx hb3 (by decide) | exact nq9005_3)))
  replace hb5 := hb5.of (gb82.2 _ hb5.lt (Ne.symm (by first | exact x9005.neBx hb5 (by decide) | exact nq9005_5)))
  replace hb7 := hb7.of (gb82.2 _ hb7.lt (Ne.symm (by first | exact x9005.neBx hb7 (by decide) | exact nq9005_7)))
  have ap82_9003 := ap_grow ap9005_9003 x9003.lt (ob_some ob82)
  have ap9003_82 := ap_sym ap82_9003
  replace x9003 := x9003.of (fun k0 hk0 => gb82.2 k0 (x9003.blk k0 hk0).2 (fun e9 => ap9005_9003 _ e9.symm hk0))
  have ap82_40 := ap_grow ap9005_40 x40.lt (ob_some ob82)
  have ap40_82 := ap_sym ap82_40
  replace x40 := x40.of (fun k0 hk0 => gb82.2 k0 (x40.blk k0 hk0).2 (fun e9 => ap9005_40 _ e9.symm hk0))
  refine ⟨⟨(hin.down le2), hb1, hb2, hb3, hb7, trivial⟩, ?_⟩
  refine AF.take 16 rfl (by kernel_rfl) (by kernel_rfl) (by kernel_rfl) ⟨(hin.down le2), hb1, hb2, hb3, hb7, trivial⟩ (fun _ ⟨hin, hb1, hb2, hb3, hb7, _⟩ => OpOk.fieldAddr (Try.fld61_0) rfl) ?_
  refine AF.one 17 (by kernel_rfl) ?_
  refine AFN.chg0 rfl (OpCh.storeB hb5 Try.sz58 rfl rfl x82.one1 (by first | decide | (simp; done))) ?_
  rintro _ Hw10 ⟨tw10, bw10⟩
  have ztw10 := tw10.1
  replace hin := hin.tw tw10 ng5
  replace hkp := Tw.kp' hkp tw10 (by omega)
  replace hb1 := hb1.tw tw10 (Bx.ne hb1 hb5 (by decide))
  replace hb2 := hb2.tw tw10 (Bx.ne hb2 hb5 (by decide))
  replace hb3 := hb3.tw tw10 (Bx.ne hb3 hb5 (by decide))
  replace hb7 := hb7.tw tw10 (Bx.ne hb7 hb5 (by decide))
  replace x9003 := x9003.tw tw10 (by first | exact x9003.neLt (by omega) | exact nq9003_5)
  replace x40 := x40.tw tw10 (x40.neBx hb5 (by decide))
  replace x82 := x82.tw tw10 (x82.neBx hb5 (by decide))
  replace hb5 : Bx _ _ _ [v82, .slice none 0 0, .int .i64 (((ix m.Blocks k).End).Op), .int .i64 (((ix m.Blocks k).End).A), .int .i64 (((ix m.Blocks k).End).B), v40, .int .i32 (((ix m.Blocks k).End).Imm)] := bw10
  clear bw10 tw10
  refine ⟨⟨(hin.down le2), hb1, hb2, hb3, hb7, trivial⟩, ?_⟩
  refine AF.done (by kernel_rfl) ?_
  refine PF.blockNormal (PF.next (CF.region (LF.step (OpOk.move rfl) ?_)))
  refine LF.step (OpOk.add rfl rfl (by omega)) ?_
  refine LF.step (OpOk.assign rfl) (LF.nil ?_)
  exact PF.again (i + 1, pl ++ ([⟨(ix ((ix m.Blocks k).Phis) i).Dst, List.take (Int.toNat (min (((List.length ((ix ((ix m.Blocks k).Phis) i).In) : Nat) : Int)) 8)) ((ix ((ix m.Blocks k).Phis) i).In)⟩]), v82, Fz9) ⟨by dsimp only; omega, by dsimp only; rw [hpl, take_ix (by omega), List.map_append]; exact congrArg (fun z => _ ++ [z]) raw_phi, hx, le1, hin, hkp, hb1, ng1, hb2, ng2, hb3, ng3, hb5, ng5, x9003, x40, x82, ap9003_82, ap40_82⟩ ⟨rfl, rfl, rfl, rfl, rfl, eqI (by omega), trivial⟩ (by omega)
  refine AFN.chg rfl (OpCh.appL (r := rIn) Try.underlying68 Try.info82 (by decide) rfl rfl rfl x71 (rL.hi h66c1 (Int.toNat (min (↑(List.length ((ix ((ix m.Blocks k).Phis) i).In))) 8)) (by omega) (by omega)) hin (by first | (simp only [List.length_append, List.length_take, List.length_drop, List.length_nil, List.length_cons, List.length_set, List.length_replicate]; omega) | (simp; done) | (simp; omega) | omega) (by omega)) ?_
  rintro v79 H79 ⟨x79, gb79, ob79⟩
  replace hin := hin.grown gb79 x71.no
  replace hkp := gb79.kp hkp (Nat.le_refl _) (fun k0 hk0 => (x71.blk k0 hk0).1)
  replace hb1 := hb1.of (gb79.2 _ hb1.lt (Ne.symm (by first | exact x71.neBx hb1 (by decide) | exact nq71_1)))
  replace hb2 := hb2.of (gb79.2 _ hb2.lt (Ne.symm (by first | exact x71.neBx hb2 (by decide) | exact nq71_2)))
  replace hb3 := hb3.of (gb79.2 _ hb3.lt (Ne.symm (by first | exact x71.neBx hb3 (by decide) | exact nq71_3)))
  replace hb5 := hb5.of (gb79.2 _ hb5.lt (Ne.symm (by first | exact x71.neBx hb5 (by decide) | exact nq71_5)))
  replace hb7 := hb7.of (gb79.2 _ hb7.lt (Ne.symm (by first | exact x71.neBx hb7 (by decide) | exact nq71_7)))
  have ap79_9003 := ap_grow ap71_9003 x9003.lt (ob_some ob79)
  have ap9003_79 := ap_sym ap79_9003
  replace x9003 := x9003.of (fun k0 hk0 => gb79.2 k0 (x9003.blk k0 hk0).2 (fun e9 => ap71_9003 _ e9.symm hk0))
  have ap79_40 := ap_grow ap71_40 x40.lt (ob_some ob79)
  have ap40_79 := ap_sym ap79_40
  replace x40 := x40.of (fun k0 hk0 => gb79.2 k0 (x40.blk k0 hk0).2 (fun e9 => ap71_40 _ e9.symm hk0))
  have ap79_9005 := ap_grow ap71_9005 x9005.lt (ob_some ob79)
  have ap9005_79 := ap_sym ap79_9005
  replace x9005 := x9005.of (fun k0 hk0 => gb79.2 k0 (x9005.blk k0 hk0).2 (fun e9 => ap71_9005 _ e9.symm hk0))
  rw [List.nil_append] at x79
  refine ⟨⟨hin, hb1, hb2, hb3, hb7, trivial⟩, ?_⟩
  refine AF.take 13 rfl (by kernel_rfl) (by kernel_rfl) (by kernel_rfl) ⟨hin, hb1, hb2, hb3, hb7, trivial⟩ (fun _ ⟨hin, hb1, hb2, hb3, hb7, _⟩ => OpOk.build (v := .agg #[.int .i64 ((ix ((ix m.Blocks k).Phis) i).Dst), v79]) rfl (fun w => by obtain ⟨xs9, h9, _⟩ := x79; obtain ⟨a19, c19, e19⟩ := h9.len; rw [show (v79 : Value) = _ from e19]; kernel_rfl)) ?_
  refine AF.two 1 14 (by kernel_rfl) ?_ ?_
  refine AFN.step rfl (OpOk.ldBx hb5 Try.one58 rfl rfl) ⟨hin, hb1, hb2, hb3, hb7, trivial⟩ ?_
  refine AF.one 14 (by kernel_rfl) ?_
  obtain ⟨Fz11, hxz11, lez11, hinz11, noz11, hrz11⟩ := x79.freezeX hin hx (Nat.le_refl _) (by first | (simp only [List.length_append, List.length_take, List.length_drop, List.length_nil, List.length_cons, List.length_set, List.length_replicate]; omega) | (simp; done) | (simp; omega) | omega)
  replace hin := hinz11
  replace hx := hxz11
  replace le0 := le0.trans lez11
  replace le1 := le1.trans lez11
  have le2 := lez11
  replace ng1 := (noz11 _ (x79.neBx hb1 (by decide))).trans ng1
  replace ng2 := (noz11 _ (x79.neBx hb2 (by decide))).trans ng2
  replace ng3 := (noz11 _ (x79.neBx hb3 (by decide))).trans ng3
  replace ng5 := (noz11 _ (x79.neBx hb5 (by decide))).trans ng5
  replace ng7 := (noz11 _ (x79.neBx hb7 (by decide))).trans ng7
  replace x9003 := x9003.frozen lez11 noz11 ap9003_79
  replace x40 := x40.frozen lez11 noz11 ap40_79
  replace x9005 := x9005.frozen lez11 noz11 ap9005_79
  refine AFN.chg rfl (OpCh.litL (F := Fz11) (r := rPhi) (l := [⟨(ix ((ix m.Blocks k).Phis) i).Dst, List.take (Int.toNat (min (↑(List.length ((ix ((ix m.Blocks k).Phis) i).In))) 8)) ((ix ((ix m.Blocks k).Phis) i).In)⟩]) (us := [.agg #[.int .i64 ((ix ((ix m.Blocks k).Phis) i).Dst), v79]]) (cs := [[.int .i64 ((ix ((ix m.Blocks k).Phis) i).Dst), v79]]) Try.underlying58 Try.info70 (by decide) rfl rfl rfl ⟨rfl, rfl, (ra_ok (rPhi.mk (m := ⟨(ix ((ix m.Blocks k).Phis) i).Dst, List.take (Int.toNat (min (↑(List.length ((ix ((ix m.Blocks k).Phis) i).In))) 8)) ((ix ((ix m.Blocks k).Phis) i).In)⟩) hrz11 (rPhi.w_Dst (m := (ix ((ix m.Blocks k).Phis) i)) h66k))), trivial⟩) ?_
  rintro _ H81 ⟨g81, rfl, e81, s81, k81, x81⟩
  have l81 := hkp.1
  have ap9003_81 := ap_new x9003.lt (x81 hin).ge
  have ap40_81 := ap_new x40.lt (x81 hin).ge
  have ap9005_81 := ap_new x9005.lt (x81 hin).ge
  have nq81_7 := (x81 hin).neLt (.inl hb7.lt)
  replace x81 := (x81 hin).base l81
  have zk81 := k81.1
  replace hin := hin.kp k81
  replace hkp := hkp.trans (k81.mono hkp.1)
  replace hb1 := hb1.kp k81
  replace hb2 := hb2.kp k81
  replace hb3 := hb3.kp k81
  replace hb5 := hb5.kp k81
  replace hb7 := hb7.kp k81
  replace x9003 := x9003.kp k81
  replace x40 := x40.kp k81
  replace x9005 := x9005.kp k81
  have ap81_9003 := ap_sym ap9003_81
  have ap81_40 := ap_sym ap40_81
  have ap81_9005 := ap_sym ap9005_81
  refine ⟨⟨(hin.down le2), hb1, hb2, hb3, hb7, trivial⟩, ?_⟩
  refine AF.one 15 (by kernel_rfl) ?_
  obtain ⟨Fz12, hxz12, lez12, hinz12, noz12, hrz12⟩ := x81.freezeX hin hx (Nat.le_refl _) (by first | (simp only [List.length_append, List.length_take, List.length_drop, List.length_nil, List.length_cons, List.length_set, List.length_replicate]; omega) | (simp; done) | (simp; omega) | omega)
  replace hin := hinz12
  replace hx := hxz12
  replace le0 := le0.trans lez12
  replace le1 := le1.trans lez12
  replace le2 := le2.trans lez12
  have le3 := lez12
  replace ng1 := (noz12 _ (x81.neBx hb1 (by decide))).trans ng1
  replace ng2 := (noz12 _ (x81.neBx hb2 (by decide))).trans ng2
  replace ng3 := (noz12 _ (x81.neBx hb3 (by decide))).trans ng3
  replace ng5 := (noz12 _ (x81.neBx hb5 (by decide))).trans ng5
  replace ng7 := (noz12 _ nq81_7).trans ng7
  replace x9003 := x9003.frozen lez12 noz12 ap9003_81
  replace x40 := x40.frozen lez12 noz12 ap40_81
  replace x9005 := x9005.frozen lez12 noz12 ap9005_81
  refine AFN.chg rfl (OpCh.appL (r := rPhi) Try.underlying58 Try.info70 (by decide) rfl rfl rfl x9005 hrz12 hin (by first | (simp only [List.length_append, List.length_take, List.length_drop, List.length_nil, List.length_cons, List.length_set, List.length_replicate]; omega) | (simp; done) | (simp; omega) | omega) (by omega)) ?_
  rintro v82 H82 ⟨x82, gb82, ob82⟩
  replace hin := hin.grown gb82 x9005.no
  replace hkp := gb82.kp hkp (Nat.le_refl _) (fun k0 hk0 => (x9005.blk k0 hk0).1)
  replace hb1 := hb1.of (gb82.2 _ hb1.lt (Ne.symm (by first | exact x9005.neBx hb1 (by decide) | exact nq9005_1)))
  replace hb2 := hb2.of (gb82.2 _ hb2.lt (Ne.symm (by first | exact x9005.neBx hb2 (by decide) | exact nq9005_2)))
  replace hb3 := hb3.of (gb82.2 _ hb3.lt (Ne.symm (by first | exact x9005.neBx hb3 (by decide) | exact nq9005_3)))
  replace hb5 := hb5.of (gb82.2 _ hb5.lt (Ne.symm (by first | exact x9005.neBx hb5 (by decide) | exact nq9005_5)))
  replace hb7 := hb7.of (gb82.2 _ hb7.lt (Ne.symm (by first | exact x9005.neBx hb7 (by decide) | exact nq9005_7)))
  have ap82_9003 := ap_grow ap9005_9003 x9003.lt (ob_some ob82)
  have ap9003_82 := ap_sym ap82_9003
  replace x9003 := x9003.of (fun k0 hk0 => gb82.2 k0 (x9003.blk k0 hk0).2 (fun e9 => ap9005_9003 _ e9.symm hk0))
  have ap82_40 := ap_grow ap9005_40 x40.lt (ob_some ob82)
  have ap40_82 := ap_sym ap82_40
  replace x40 := x40.of (fun k0 hk0 => gb82.2 k0 (x40.blk k0 hk0).2 (fun e9 => ap9005_40 _ e9.symm hk0))
  refine ⟨⟨(hin.down le2), hb1, hb2, hb3, hb7, trivial⟩, ?_⟩
  refine AF.take 16 rfl (by kernel_rfl) (by kernel_rfl) (by kernel_rfl) ⟨(hin.down le2), hb1, hb2, hb3, hb7, trivial⟩ (fun _ ⟨hin, hb1, hb2, hb3, hb7, _⟩ => OpOk.fieldAddr (Try.fld61_0) rfl) ?_
  refine AF.one 17 (by kernel_rfl) ?_
  refine AFN.chg0 rfl (OpCh.storeB hb5 Try.sz58 rfl rfl x82.one1 (by first | decide | (simp; done))) ?_
  rintro _ Hw13 ⟨tw13, bw13⟩
  have ztw13 := tw13.1
  replace hin := hin.tw tw13 ng5
  replace hkp := Tw.kp' hkp tw13 (by omega)
  replace hb1 := hb1.tw tw13 (Bx.ne hb1 hb5 (by decide))
  replace hb2 := hb2.tw tw13 (Bx.ne hb2 hb5 (by decide))
  replace hb3 := hb3.tw tw13 (Bx.ne hb3 hb5 (by decide))
  replace hb7 := hb7.tw tw13 (Bx.ne hb7 hb5 (by decide))
  replace x9003 := x9003.tw tw13 (by first | exact x9003.neLt (by omega) | exact nq9003_5)
  replace x40 := x40.tw tw13 (x40.neBx hb5 (by decide))
  replace x82 := x82.tw tw13 (x82.neBx hb5 (by decide))
  replace hb5 : Bx _ _ _ [v82, .slice none 0 0, .int .i64 (((ix m.Blocks k).End).Op), .int .i64 (((ix m.Blocks k).End).A), .int .i64 (((ix m.Blocks k).End).B), v40, .int .i32 (((ix m.Blocks k).End).Imm)] := bw13
  clear bw13 tw13
  refine ⟨⟨(hin.down le2), hb1, hb2, hb3, hb7, trivial⟩, ?_⟩
  refine AF.done (by kernel_rfl) ?_
  refine PF.blockNormal (PF.next (CF.region (LF.step (OpOk.move rfl) ?_)))
  refine LF.step (OpOk.add rfl rfl (by omega)) ?_
  refine LF.step (OpOk.assign rfl) (LF.nil ?_)
  exact PF.again (i + 1, pl ++ ([⟨(ix ((ix m.Blocks k).Phis) i).Dst, List.take (Int.toNat (min (((List.length ((ix ((ix m.Blocks k).Phis) i).In) : Nat) : Int)) 8)) ((ix ((ix m.Blocks k).Phis) i).In)⟩]), v82, Fz12) ⟨by dsimp only; omega, by dsimp only; rw [hpl, take_ix (by omega), List.map_append]; exact congrArg (fun z => _ ++ [z]) raw_phi, hx, le1, hin, hkp, hb1, ng1, hb2, ng2, hb3, ng3, hb5, ng5, x9003, x40, x82, ap9003_82, ap40_82⟩ ⟨rfl, rfl, rfl, rfl, rfl, eqI (by omega), trivial⟩ (by omega)
  obtain ⟨Fz14, hxz14, lez14, hinz14, noz14, hrz14⟩ := x79.freezeX hin hx (Nat.le_refl _) (by first | (simp only [List.length_append, List.length_take, List.length_drop, List.length_nil, List.length_cons, List.length_set, List.length_replicate]; omega) | (simp; done) | (simp; omega) | omega)
  replace hin := hinz14
  replace hx := hxz14
  replace le0 := le0.trans lez14
  replace le1 := le1.trans lez14
  have le2 := lez14
  replace ng1 := (noz14 _ (x79.neBx hb1 (by decide))).trans ng1
  replace ng2 := (noz14 _ (x79.neBx hb2 (by decide))).trans ng2
  replace ng3 := (noz14 _ (x79.neBx hb3 (by decide))).trans ng3
  replace ng5 := (noz14 _ (x79.neBx hb5 (by decide))).trans ng5
  replace ng7 := (noz14 _ (x79.neBx hb7 (by decide))).trans ng7
  replace x9003 := x9003.frozen lez14 noz14 ap9003_79
  replace x40 := x40.frozen lez14 noz14 ap40_79
  replace x9005 := x9005.frozen lez14 noz14 ap9005_79
  refine AFN.chg rfl (OpCh.litL (F := Fz14) (r := rPhi) (l := [⟨(ix ((ix m.Blocks k).Phis) i).Dst, List.take (Int.toNat (min (↑(List.length ((ix ((ix m.Blocks k).Phis) i).In))) 8)) ((ix ((ix m.Blocks k).Phis) i).In)⟩]) (us := [.agg #[.int .i64 ((ix ((ix m.Blocks k).Phis) i).Dst), v79]]) (cs := [[.int .i64 ((ix ((ix m.Blocks k).Phis) i).Dst), v79]]) Try.underlying58 Try.info70 (by decide) rfl rfl rfl ⟨rfl, rfl, (ra_ok (rPhi.mk (m := ⟨(ix ((ix m.Blocks k).Phis) i).Dst, List.take (Int.toNat (min (↑(List.length ((ix ((ix m.Blocks k).Phis) i).In))) 8)) ((ix ((ix m.Blocks k).Phis) i).In)⟩) hrz14 (rPhi.w_Dst (m := (ix ((ix m.Blocks k).Phis) i)) h66k))), trivial⟩) ?_
  rintro _ H81 ⟨g81, rfl, e81, s81, k81, x81⟩
  have l81 := hkp.1
  have ap9003_81 := ap_new x9003.lt (x81 hin).ge
  have ap40_81 := ap_new x40.lt (x81 hin).ge
  have ap9005_81 := ap_new x9005.lt (x81 hin).ge
  have nq81_7 := (x81 hin).neLt (.inl hb7.lt)
  replace x81 := (x81 hin).base l81
  have zk81 := k81.1
  replace hin := hin.kp k81
  replace hkp := hkp.trans (k81.mono hkp.1)
  replace hb1 := hb1.kp k81
  replace hb2 := hb2.kp k81
  replace hb3 := hb3.kp k81
  replace hb5 := hb5.kp k81
  replace hb7 := hb7.kp k81
  replace x9003 := x9003.kp k81
  replace x40 := x40.kp k81
  replace x9005 := x9005.kp k81
  have ap81_9003 := ap_sym ap9003_81
  have ap81_40 := ap_sym ap40_81
  have ap81_9005 := ap_sym ap9005_81
  refine ⟨⟨(hin.down le2), hb1, hb2, hb3, hb7, trivial⟩, ?_⟩
  refine AF.one 1 (by kernel_rfl) ?_
  refine AFN.step rfl (OpOk.ldBx hb5 Try.one58 rfl rfl) ⟨(hin.down le2), hb1, hb2, hb3, hb7, trivial⟩ ?_
  refine AF.one 15 (by kernel_rfl) ?_
  obtain ⟨Fz15, hxz15, lez15, hinz15, noz15, hrz15⟩ := x81.freezeX hin hx (Nat.le_refl _) (by first | (simp only [List.length_append, List.length_take, List.length_drop, List.length_nil, List.length_cons, List.length_set, List.length_replicate]; omega) | (simp; done) | (simp; omega) | omega)
  replace hin := hinz15
  replace hx := hxz15
  replace le0 := le0.trans lez15
  replace le1 := le1.trans lez15
  replace le2 := le2.trans lez15
  have le3 := lez15
  replace ng1 := (noz15 _ (x81.neBx hb1 (by decide))).trans ng1
  replace ng2 := (noz15 _ (x81.neBx hb2 (by decide))).trans ng2
  replace ng3 := (noz15 _ (x81.neBx hb3 (by decide))).trans ng3
  replace ng5 := (noz15 _ (x81.neBx hb5 (by decide))).trans ng5
  replace ng7 := (noz15 _ nq81_7).trans ng7
  replace x9003 := x9003.frozen lez15 noz15 ap9003_81
  replace x40 := x40.frozen lez15 noz15 ap40_81
  replace x9005 := x9005.frozen lez15 noz15 ap9005_81
  refine AFN.chg rfl (OpCh.appL (r := rPhi) Try.underlying58 Try.info70 (by decide) rfl rfl rfl x9005 hrz15 hin (by first | (simp only [List.length_append, List.length_take, List.length_drop, List.length_nil, List.length_cons, List.length_set, List.length_replicate]; omega) | (simp; done) | (simp; omega) | omega) (by omega)) ?_
  rintro v82 H82 ⟨x82, gb82, ob82⟩
  replace hin := hin.grown gb82 x9005.no
  replace hkp := gb82.kp hkp (Nat.le_refl _) (fun k0 hk0 => (x9005.blk k0 hk0).1)
  replace hb1 := hb1.of (gb82.2 _ hb1.lt (Ne.symm (by first | exact x9005.neBx hb1 (by decide) | exact nq9005_1)))
  replace hb2 := hb2.of (gb82.2 _ hb2.lt (Ne.symm (by first | exact x9005.neBx hb2 (by decide) | exact nq9005_2)))
  replace hb3 := hb3.of (gb82.2 _ hb3.lt (Ne.symm (by first | exact x9005.neBx hb3 (by decide) | exact nq9005_3)))
  replace hb5 := hb5.of (gb82.2 _ hb5.lt (Ne.symm (by first | exact x9005.neBx hb5 (by decide) | exact nq9005_5)))
  replace hb7 := hb7.of (gb82.2 _ hb7.lt (Ne.symm (by first | exact x9005.neBx hb7 (by decide) | exact nq9005_7)))
  have ap82_9003 := ap_grow ap9005_9003 x9003.lt (ob_some ob82)
  have ap9003_82 := ap_sym ap82_9003
  replace x9003 := x9003.of (fun k0 hk0 => gb82.2 k0 (x9003.blk k0 hk0).2 (fun e9 => ap9005_9003 _ e9.symm hk0))
  have ap82_40 := ap_grow ap9005_40 x40.lt (ob_some ob82)
  have ap40_82 := ap_sym ap82_40
  replace x40 := x40.of (fun k0 hk0 => gb82.2 k0 (x40.blk k0 hk0).2 (fun e9 => ap9005_40 _ e9.symm hk0))
  refine ⟨⟨(hin.down le2), hb1, hb2, hb3, hb7, trivial⟩, ?_⟩
  refine AF.take 16 rfl (by kernel_rfl) (by kernel_rfl) (by kernel_rfl) ⟨(hin.down le2), hb1, hb2, hb3, hb7, trivial⟩ (fun _ ⟨hin, hb1, hb2, hb3, hb7, _⟩ => OpOk.fieldAddr (Try.fld61_0) rfl) ?_
  refine AF.one 17 (by kernel_rfl) ?_
  refine AFN.chg0 rfl (OpCh.storeB hb5 Try.sz58 rfl rfl x82.one1 (by first | decide | (simp; done))) ?_
  rintro _ Hw16 ⟨tw16, bw16⟩
  have ztw16 := tw16.1
  replace hin := hin.tw tw16 ng5
  replace hkp := Tw.kp' hkp tw16 (by omega)
  replace hb1 := hb1.tw tw16 (Bx.ne hb1 hb5 (by decide))
  replace hb2 := hb2.tw tw16 (Bx.ne hb2 hb5 (by decide))
  replace hb3 := hb3.tw tw16 (Bx.ne hb3 hb5 (by decide))
  replace hb7 := hb7.tw tw16 (Bx.ne hb7 hb5 (by decide))
  replace x9003 := x9003.tw tw16 (by first | exact x9003.neLt (by omega) | exact nq9003_5)
  replace x40 := x40.tw tw16 (x40.neBx hb5 (by decide))
  replace x82 := x82.tw tw16 (x82.neBx hb5 (by decide))
  replace hb5 : Bx _ _ _ [v82, .slice none 0 0, .int .i64 (((ix m.Blocks k).End).Op), .int .i64 (((ix m.Blocks k).End).A), .int .i64 (((ix m.Blocks k).End).B), v40, .int .i32 (((ix m.Blocks k).End).Imm)] := bw16
  clear bw16 tw16
  refine ⟨⟨(hin.down le2), hb1, hb2, hb3, hb7, trivial⟩, ?_⟩
  refine AF.done (by kernel_rfl) ?_
  refine PF.blockNormal (PF.next (CF.region (LF.step (OpOk.move rfl) ?_)))
  refine LF.step (OpOk.add rfl rfl (by omega)) ?_
  refine LF.step (OpOk.assign rfl) (LF.nil ?_)
  exact PF.again (i + 1, pl ++ ([⟨(ix ((ix m.Blocks k).Phis) i).Dst, List.take (Int.toNat (min (((List.length ((ix ((ix m.Blocks k).Phis) i).In) : Nat) : Int)) 8)) ((ix ((ix m.Blocks k).Phis) i).In)⟩]), v82, Fz15) ⟨by dsimp only; omega, by dsimp only; rw [hpl, take_ix (by omega), List.map_append]; exact congrArg (fun z => _ ++ [z]) raw_phi, hx, le1, hin, hkp, hb1, ng1, hb2, ng2, hb3, ng3, hb5, ng5, x9003, x40, x82, ap9003_82, ap40_82⟩ ⟨rfl, rfl, rfl, rfl, rfl, eqI (by omega), trivial⟩ (by omega)
  refine CF.exit (PF.thenExit (PF.thenExit (PF.blockHere (PF.next (CF.seq (CF.seq (CF.region (LF.step (OpOk.assign rfl) (LF.nil (PF.next (CF.block ?_)))))))))))
  have x9006 := (fun (H9 : Heap) (_ : InH Fm H9) => (Gl.nil Fm H9 H.size : Gl rMach 40 Fm H9 H.size (.slice none 0 0) [])) _ hin
  have ap9006_9003 : ∀ k9, (Value.slice none 0 0).ownBlock = some k9 → (vb : Value).ownBlock ≠ some k9 := fun _ h9 => by cases h9
  have ap9003_9006 := ap_sym ap9006_9003
  have ap9006_40 : ∀ k9, (Value.slice none 0 0).ownBlock = some k9 → (v40 : Value).ownBlock ≠ some k9 := fun _ h9 => by cases h9
  have ap40_9006 := ap_sym ap9006_40
  have ap9006_9005 : ∀ k9, (Value.slice none 0 0).ownBlock = some k9 → (vp : Value).ownBlock ≠ some k9 := fun _ h9 => by cases h9
  have ap9005_9006 := ap_sym ap9006_9005
  refine CF.loop (ι := Nat × List D.Mach × Value × PH) (fun z9 H1 => (z9.1 ≤ (ix m.Blocks k).Ins.length ∧ z9.1 ≤ 8) ∧ z9.2.1 = ((ix m.Blocks k).Ins.take z9.1).map fewM ∧ PH.ext H F z9.2.2.2 ∧ PH.le Fm z9.2.2.2 ∧ InH z9.2.2.2 H1 ∧ Kp H.size H H1 ∧ Bx H1 g1 24 [.int .i64 m.Params, a0c1] ∧ z9.2.2.2 g1 = none ∧ Bx H1 g2 24 [.int .i64 0, .slice none 0 0] ∧ z9.2.2.2 g2 = none ∧ Bx H1 g3 24 [.int .i64 m.Params, vb] ∧ z9.2.2.2 g3 = none ∧ Bx H1 g5 61 [vp, z9.2.2.1, .int .i64 (((ix m.Blocks k).End).Op), .int .i64 (((ix m.Blocks k).End).A), .int .i64 (((ix m.Blocks k).End).B), v40, .int .i32 (((ix m.Blocks k).End).Imm)] ∧ z9.2.2.2 g5 = none ∧ Gl rMBlock 61 z9.2.2.2 H1 H.size vb bl ∧ Gl (rI .i64) 3 z9.2.2.2 H1 H.size v40 (List.take (Int.toNat (min (↑(List.length (((ix m.Blocks k).End).To))) 8)) (((ix m.Blocks k).End).To)) ∧ Gl rPhi 70 z9.2.2.2 H1 H.size vp pl ∧ Gl rMach 40 z9.2.2.2 H1 H.size z9.2.2.1 z9.2.1 ∧ (∀ k9, (vb : Value).ownBlock = some k9 → (z9.2.2.1 : Value).ownBlock ≠ some k9) ∧ (∀ k9, (v40 : Value).ownBlock = some k9 → (z9.2.2.1 : Value).ownBlock ≠ some k9) ∧ (∀ k9, (vp : Value).ownBlock = some k9 → (z9.2.2.1 : Value).ownBlock ≠ some k9)) (fun z9 => [(1, .pointer (some ⟨g1, 0, none⟩)), (2, .pointer (some ⟨g2, 0, none⟩)), (3, .pointer (some ⟨g3, 0, none⟩)), (4, .int .i64 (↑k)), (5, .pointer (some ⟨g5, 0, none⟩)), (8, .int .i64 (↑z9.1))]) (fun z9 => 8 - z9.1) (0, [], .slice none 0 0, Fm) ⟨by dsimp only; omega, rfl, hx, PH.le.refl _, hin, hkp, hb1, ng1, hb2, ng2, hb3, ng3, hb5, ng5, x9003, x40, x9005, x9006, ap9003_9006, ap40_9006, ap9005_9006⟩ ⟨rfl, rfl, rfl, rfl, rfl, eqI (by omega), trivial⟩ ?_
  clear hx hin hkp hb1 ng1 hb2 ng2 hb3 ng3 hb5 ng5 x9003 x40 x9005 x9006 ap9003_9006 ap40_9006 ap9005_9006
  rintro ⟨j, ml, vm, Fn⟩ H1 ⟨hj, hml, hx, le2, hin, hkp, hb1, ng1, hb2, ng2, hb3, ng3, hb5, ng5, x9003, x40, x9005, x9006, ap9003_9006, ap40_9006, ap9005_9006⟩
  dsimp only at hj hml hin hkp hb1 ng1 hb2 ng2 hb3 ng3 hb5 ng5 x9003 x40 x9005 x9006 ap9003_9006 ap40_9006 ap9005_9006 ⊢
  replace le0 := le0.trans le2
  replace le1 := le1.trans le2
  have ap9006_9003 := ap_sym ap9003_9006
  have ap9006_40 := ap_sym ap40_9006
  have ap9006_9005 := ap_sym ap9005_9006
  have hmn : ml.length = j := by rw [hml]; simp; omega
  refine CF.seq (CF.seq (CF.region (LF.step (OpOk.move rfl) ?_)))
  refine LF.step (OpOk.fieldAddr (Try.fld24_1) rfl) ?_
  refine LF.step (OpOk.ldBx hb1 Try.one22 rfl rfl) ?_
  refine LF.step (OpOk.move rfl) ?_
  refine LF.step (OpOk.idxL (i := k) Try.underlying22 Try.sz61 (p0c1.up le0) rfl rfl rfl (by omega)) ?_
  refine LF.step (OpOk.fieldAddr (Try.fld61_1) rfl) ?_
  refine LF.stepE (OpOk.ldV hin (rMBlock.at_Ins (rL.ix (p0c1.up le0) k (by omega))) Try.one59 rfl rfl) ?_
  intro v90 h90
  have h90q := rL.len2 h90
  refine LF.step (OpOk.lenL Try.underlying59 h90 rfl) ?_
  refine LF.step (OpOk.lss rfl rfl) ?_
  refine LF.step (OpOk.move rfl) ?_
  refine LF.gstep rfl rfl (.t _) (fun hg => OpOk.move rfl) ?_
  refine LF.gstep rfl rfl (.t _) (fun hg => OpOk.lss (evg rfl hg) rfl) ?_
  refine LF.step (OpOk.pickAnd rfl rfl) ?_
  refine LF.nil (PF.next ?_)
  refine CF.if rfl (fun hc3 => ?_) (fun hc3 => ?_)
  refine CF.skip (PF.next (CF.seq (CF.block ?_)))
  refine CF.any (fun H' => InH Fn H' ∧ Bx H' g1 24 [.int .i64 m.Params, a0c1] ∧ Bx H' g2 24 [.int .i64 0, .slice none 0 0] ∧ Bx H' g3 24 [.int .i64 m.Params, vb] ∧ True) Try.mixed ?_
  refine AF.take 0 rfl (by kernel_rfl) (by kernel_rfl) (by kernel_rfl) ⟨hin, hb1, hb2, hb3, trivial⟩ (fun _ ⟨hin, hb1, hb2, hb3, _⟩ => OpOk.fieldAddr (Try.fld61_1) rfl) ?_
  refine AF.take 2 rfl (by kernel_rfl) (by kernel_rfl) (by kernel_rfl) ⟨hin, hb1, hb2, hb3, trivial⟩ (fun _ ⟨hin, hb1, hb2, hb3, _⟩ => OpOk.fieldAddr (Try.fld24_1) rfl) ?_
  refine AF.take 3 rfl (by kernel_rfl) (by kernel_rfl) (by kernel_rfl) ⟨hin, hb1, hb2, hb3, trivial⟩ (fun _ ⟨hin, hb1, hb2, hb3, _⟩ => OpOk.ldBx hb1 Try.one22 rfl rfl) ?_
  refine AF.take 4 rfl (by kernel_rfl) (by kernel_rfl) (by kernel_rfl) ⟨hin, hb1, hb2, hb3, trivial⟩ (fun _ ⟨hin, hb1, hb2, hb3, _⟩ => OpOk.move rfl) ?_
  refine AF.take 5 rfl (by kernel_rfl) (by kernel_rfl) (by kernel_rfl) ⟨hin, hb1, hb2, hb3, trivial⟩ (fun _ ⟨hin, hb1, hb2, hb3, _⟩ => OpOk.idxL (i := k) Try.underlying22 Try.sz61 (p0c1.up le0) rfl rfl rfl (by omega)) ?_
  refine AF.take 6 rfl (by kernel_rfl) (by kernel_rfl) (by kernel_rfl) ⟨hin, hb1, hb2, hb3, trivial⟩ (fun _ ⟨hin, hb1, hb2, hb3, _⟩ => OpOk.fieldAddr (Try.fld61_1) rfl) ?_
  refine AF.takeE 7 rfl (by kernel_rfl) (by kernel_rfl) (by kernel_rfl) ⟨hin, hb1, hb2, hb3, trivial⟩ (OpOk.ldVS (rMBlock.at_Ins (rL.ix (p0c1.up le0) k (by omega))) Try.one59 rfl rfl (fun _ h => h.1)) ?_
  intro v106 h106
  have h106q := rL.len2 h106
  refine AF.take 8 rfl (by kernel_rfl) (by kernel_rfl) (by kernel_rfl) ⟨hin, hb1, hb2, hb3, trivial⟩ (fun _ ⟨hin, hb1, hb2, hb3, _⟩ => OpOk.move rfl) ?_
  refine AF.take 9 rfl (by kernel_rfl) (by kernel_rfl) (by kernel_rfl) ⟨hin, hb1, hb2, hb3, trivial⟩ (fun _ ⟨hin, hb1, hb2, hb3, _⟩ => OpOk.idxL (i := j) Try.underlying59 Try.sz40 h106 rfl rfl rfl (by omega)) ?_
  refine AF.takeE 10 rfl (by kernel_rfl) (by kernel_rfl) (by kernel_rfl) ⟨hin, hb1, hb2, hb3, trivial⟩ (OpOk.ldAS (rL.ix h106 j (by omega)) Try.agg40 Try.sz40 rfl (fun _ h => h.1)) ?_
  intro v109 h109
  have h109k := rMach.any h109
  obtain ⟨v109c7, rfl, h109c7⟩ := rMach.open h109
  have h109c7q := rL.len2 h109c7
  refine AF.two 1 11 (by kernel_rfl) ?_ ?_
  refine AFN.step rfl (OpOk.ldBx hb5 Try.one59 rfl rfl) ⟨hin, hb1, hb2, hb3, trivial⟩ ?_
  refine AF.call 11 rfl (by kernel_rfl) (OpCall.fn Try.ent16 rfl rfl) (few_ct hin h109) (by rintro _ _ ⟨_, _, _, k, _⟩; exact ⟨(hin.kp k), (hb1.kp k), (hb2.kp k), (hb3.kp k), trivial⟩) ?_
  rintro v110 H110 ⟨F110, x110, i110, k110, h110⟩
  have zk110 := k110.1
  replace hx := hx.trans x110 hkp.1
  replace hkp := hkp.trans (k110.mono hkp.1)
  have l110 := hkp.1
  replace ng1 := x110.no ng1 hb1.lt
  replace hb1 := hb1.kp k110
  replace ng2 := x110.no ng2 hb2.lt
  replace hb2 := hb2.kp k110
  replace ng3 := x110.no ng3 hb3.lt
  replace hb3 := hb3.kp k110
  replace ng5 := x110.no ng5 hb5.lt
  replace hb5 := hb5.kp k110
  replace x9003 := (x9003.ext x110).kp k110
  replace x40 := (x40.ext x110).kp k110
  replace x9005 := (x9005.ext x110).kp k110
  replace x9006 := (x9006.ext x110).kp k110
  replace le0 := le0.trans x110.1
  replace le1 := le1.trans x110.1
  replace le2 := le2.trans x110.1
  have le3 := x110.1
  have hin := i110
  have h110k := rMach.any h110
  obtain ⟨v110c7, rfl, h110c7⟩ := rMach.open h110
  have h110c7q := rL.len2 h110c7
  refine AF.one 12 (by kernel_rfl) ?_
  refine AFN.chg rfl (OpCh.litL (F := F110) (r := rMach) (l := [fewM (ix ((ix m.Blocks k).Ins) j)]) (us := [.agg #[.int .i64 ((fewM (ix ((ix m.Blocks k).Ins) j)).Op), .int .i64 ((fewM (ix ((ix m.Blocks k).Ins) j)).D), .int .i64 ((fewM (ix ((ix m.Blocks k).Ins) j)).E), .int .i64 ((fewM (ix ((ix m.Blocks k).Ins) j)).A), .int .i64 ((fewM (ix ((ix m.Blocks k).Ins) j)).B), .int .i64 ((fewM (ix ((ix m.Blocks k).Ins) j)).C), .int .i32 ((fewM (ix ((ix m.Blocks k).Ins) j)).Imm), v110c7]]) (cs := [[.int .i64 ((fewM (ix ((ix m.Blocks k).Ins) j)).Op), .int .i64 ((fewM (ix ((ix m.Blocks k).Ins) j)).D), .int .i64 ((fewM (ix ((ix m.Blocks k).Ins) j)).E), .int .i64 ((fewM (ix ((ix m.Blocks k).Ins) j)).A), .int .i64 ((fewM (ix ((ix m.Blocks k).Ins) j)).B), .int .i64 ((fewM (ix ((ix m.Blocks k).Ins) j)).C), .int .i32 ((fewM (ix ((ix m.Blocks k).Ins) j)).Imm), v110c7]]) Try.underlying59 Try.info40 (by decide) rfl rfl rfl ⟨rfl, rfl, (ra_ok h110), trivial⟩) ?_
  rintro _ H111 ⟨g111, rfl, e111, s111, k111, x111⟩
  have l111 := hkp.1
  have ap9003_111 := ap_new x9003.lt (x111 hin).ge
  have ap40_111 := ap_new x40.lt (x111 hin).ge
  have ap9005_111 := ap_new x9005.lt (x111 hin).ge
  have ap9006_111 := ap_new x9006.lt (x111 hin).ge
  replace x111 := (x111 hin).base l111
  have zk111 := k111.1
  replace hin := hin.kp k111
  replace hkp := hkp.trans (k111.mono hkp.1)
  replace hb1 := hb1.kp k111
  replace hb2 := hb2.kp k111
  replace hb3 := hb3.kp k111
  replace hb5 := hb5.kp k111
  replace x9003 := x9003.kp k111
  replace x40 := x40.kp k111
  replace x9005 := x9005.kp k111
  replace x9006 := x9006.kp k111
  have ap111_9003 := ap_sym ap9003_111
  have ap111_40 := ap_sym ap40_111
  have ap111_9005 := ap_sym ap9005_111
  have ap111_9006 := ap_sym ap9006_111
  refine ⟨⟨(hin.down le3), hb1, hb2, hb3, trivial⟩, ?_⟩
  refine AF.one 13 (by kernel_rfl) ?_
  obtain ⟨Fz17, hxz17, lez17, hinz17, noz17, hrz17⟩ := x111.freezeX hin hx (Nat.le_refl _) (by first | (simp only [List.length_append, List.length_take, List.length_drop, List.length_nil, List.length_cons, List.length_set, List.length_replicate]; omega) | (simp; done) | (simp; omega) | omega)
  replace hin := hinz17
  replace hx := hxz17
  replace le0 := le0.trans lez17
  replace le1 := le1.trans lez17
  replace le2 := le2.trans lez17
  replace le3 := le3.trans lez17
  have le4 := lez17
  replace ng1 := (noz17 _ (x111.neBx hb1 (by decide))).trans ng1
  replace ng2 := (noz17 _ (x111.neBx hb2 (by decide))).trans ng2
  replace ng3 := (noz17 _ (x111.neBx hb3 (by decide))).trans ng3
  replace ng5 := (noz17 _ (x111.neBx hb5 (by decide))).trans ng5
  replace x9003 := x9003.frozen lez17 noz17 ap9003_111
  replace x40 := x40.frozen lez17 noz17 ap40_111
  replace x9005 := x9005.frozen lez17 noz17 ap9005_111
  replace x9006 := x9006.frozen lez17 noz17 ap9006_111
  refine AFN.chg rfl (OpCh.appL (r := rMach) Try.underlying59 Try.info40 (by decide) rfl rfl rfl x9006 hrz17 hin (by first | (simp only [List.length_append, List.length_take, List.length_drop, List.length_nil, List.length_cons, List.length_set, List.length_replicate]; omega) | (simp; done) | (simp; omega) | omega) (by omega)) ?_
  rintro v112 H112 ⟨x112, gb112, ob112⟩
  replace hin := hin.grown gb112 x9006.no
  replace hkp := gb112.kp hkp (Nat.le_refl _) (fun k0 hk0 => (x9006.blk k0 hk0).1)
  replace hb1 := hb1.of (gb112.2 _ hb1.lt (Ne.symm (by first | exact x9006.neBx hb1 (by decide) | exact nq9006_1)))
  replace hb2 := hb2.of (gb112.2 _ hb2.lt (Ne.symm (by first | exact x9006.neBx hb2 (by decide) | exact nq9006_2)))
  replace hb3 := hb3.of (gb112.2 _ hb3.lt (Ne.symm (by first | exact x9006.neBx hb3 (by decide) | exact nq9006_3)))
  replace hb5 := hb5.of (gb112.2 _ hb5.lt (Ne.symm (by first | exact x9006.neBx hb5 (by decide) | exact nq9006_5)))
  have ap112_9003 := ap_grow ap9006_9003 x9003.lt (ob_some ob112)
  have ap9003_112 := ap_sym ap112_9003
  replace x9003 := x9003.of (fun k0 hk0 => gb112.2 k0 (x9003.blk k0 hk0).2 (fun e9 => ap9006_9003 _ e9.symm hk0))
  have ap112_40 := ap_grow ap9006_40 x40.lt (ob_some ob112)
  have ap40_112 := ap_sym ap112_40
  replace x40 := x40.of (fun k0 hk0 => gb112.2 k0 (x40.blk k0 hk0).2 (fun e9 => ap9006_40 _ e9.symm hk0))
  have ap112_9005 := ap_grow ap9006_9005 x9005.lt (ob_some ob112)
  have ap9005_112 := ap_sym ap112_9005
  replace x9005 := x9005.of (fun k0 hk0 => gb112.2 k0 (x9005.blk k0 hk0).2 (fun e9 => ap9006_9005 _ e9.symm hk0))
  refine ⟨⟨(hin.down le3), hb1, hb2, hb3, trivial⟩, ?_⟩
  refine AF.take 14 rfl (by kernel_rfl) (by kernel_rfl) (by kernel_rfl) ⟨(hin.down le3), hb1, hb2, hb3, trivial⟩ (fun _ ⟨hin, hb1, hb2, hb3, _⟩ => OpOk.fieldAddr (Try.fld61_1) rfl) ?_
  refine AF.one 15 (by kernel_rfl) ?_
  refine AFN.chg0 rfl (OpCh.storeB hb5 Try.sz59 rfl rfl x112.one1 (by first | decide | (simp; done))) ?_
  rintro _ Hw18 ⟨tw18, bw18⟩
  have ztw18 := tw18.1
  replace hin := hin.tw tw18 ng5
  replace hkp := Tw.kp' hkp tw18 (by omega)
  replace hb1 := hb1.tw tw18 (Bx.ne hb1 hb5 (by decide))
  replace hb2 := hb2.tw tw18 (Bx.ne hb2 hb5 (by decide))
  replace hb3 := hb3.tw tw18 (Bx.ne hb3 hb5 (by decide))
  replace x9003 := x9003.tw tw18 (by first | exact x9003.neLt (by omega) | exact nq9003_5)
  replace x40 := x40.tw tw18 (x40.neBx hb5 (by decide))
  replace x9005 := x9005.tw tw18 (x9005.neBx hb5 (by decide))
  replace x112 := x112.tw tw18 (x112.neBx hb5 (by decide))
  replace hb5 : Bx _ _ _ [vp, v112, .int .i64 (((ix m.Blocks k).End).Op), .int .i64 (((ix m.Blocks k).End).A), .int .i64 (((ix m.Blocks k).End).B), v40, .int .i32 (((ix m.Blocks k).End).Imm)] := bw18
  clear bw18 tw18
  refine ⟨⟨(hin.down le3), hb1, hb2, hb3, trivial⟩, ?_⟩
  refine AF.done (by kernel_rfl) ?_
  refine PF.blockNormal (PF.next (CF.region (LF.step (OpOk.move rfl) ?_)))
  refine LF.step (OpOk.add rfl rfl (by omega)) ?_
  refine LF.step (OpOk.assign rfl) (LF.nil ?_)
  exact PF.again (j + 1, ml ++ ([fewM (ix ((ix m.Blocks k).Ins) j)]), v112, Fz17) ⟨by dsimp only; omega, by dsimp only; rw [hml, take_ix (by omega), List.map_append]; rfl, hx, le2, hin, hkp, hb1, ng1, hb2, ng2, hb3, ng3, hb5, ng5, x9003, x40, x9005, x112, ap9003_112, ap40_112, ap9005_112⟩ ⟨rfl, rfl, rfl, rfl, rfl, eqI (by omega), trivial⟩ (by omega)
  refine AFN.call rfl (OpCall.fn Try.ent16 rfl rfl) (few_ct hin h109) ?_
  rintro v110 H110 ⟨F110, x110, i110, k110, h110⟩
  have zk110 := k110.1
  replace hx := hx.trans x110 hkp.1
  replace hkp := hkp.trans (k110.mono hkp.1)
  have l110 := hkp.1
  replace ng1 := x110.no ng1 hb1.lt
  replace hb1 := hb1.kp k110
  replace ng2 := x110.no ng2 hb2.lt
  replace hb2 := hb2.kp k110
  replace ng3 := x110.no ng3 hb3.lt
  replace hb3 := hb3.kp k110
  replace ng5 := x110.no ng5 hb5.lt
  replace hb5 := hb5.kp k110
  replace x9003 := (x9003.ext x110).kp k110
  replace x40 := (x40.ext x110).kp k110
  replace x9005 := (x9005.ext x110).kp k110
  replace x9006 := (x9006.ext x110).kp k110
  replace le0 := le0.trans x110.1
  replace le1 := le1.trans x110.1
  replace le2 := le2.trans x110.1
  have le3 := x110.1
  have hin := i110
  have h110k := rMach.any h110
  obtain ⟨v110c7, rfl, h110c7⟩ := rMach.open h110
  have h110c7q := rL.len2 h110c7
  refine ⟨⟨(hin.down le3), hb1, hb2, hb3, trivial⟩, ?_⟩
  refine AF.two 1 12 (by kernel_rfl) ?_ ?_
  refine AFN.step rfl (OpOk.ldBx hb5 Try.one59 rfl rfl) ⟨(hin.down le3), hb1, hb2, hb3, trivial⟩ ?_
  refine AF.one 12 (by kernel_rfl) ?_
  refine AFN.chg rfl (OpCh.litL (F := F110) (r := rMach) (l := [fewM (ix ((ix m.Blocks k).Ins) j)]) (us := [.agg #[.int .i64 ((fewM (ix ((ix m.Blocks k).Ins) j)).Op), .int .i64 ((fewM (ix ((ix m.Blocks k).Ins) j)).D), .int .i64 ((fewM (ix ((ix m.Blocks k).Ins) j)).E), .int .i64 ((fewM (ix ((ix m.Blocks k).Ins) j)).A), .int .i64 ((fewM (ix ((ix m.Blocks k).Ins) j)).B), .int .i64 ((fewM (ix ((ix m.Blocks k).Ins) j)).C), .int .i32 ((fewM (ix ((ix m.Blocks k).Ins) j)).Imm), v110c7]]) (cs := [[.int .i64 ((fewM (ix ((ix m.Blocks k).Ins) j)).Op), .int .i64 ((fewM (ix ((ix m.Blocks k).Ins) j)).D), .int .i64 ((fewM (ix ((ix m.Blocks k).Ins) j)).E), .int .i64 ((fewM (ix ((ix m.Blocks k).Ins) j)).A), .int .i64 ((fewM (ix ((ix m.Blocks k).Ins) j)).B), .int .i64 ((fewM (ix ((ix m.Blocks k).Ins) j)).C), .int .i32 ((fewM (ix ((ix m.Blocks k).Ins) j)).Imm), v110c7]]) Try.underlying59 Try.info40 (by decide) rfl rfl rfl ⟨rfl, rfl, (ra_ok h110), trivial⟩) ?_
  rintro _ H111 ⟨g111, rfl, e111, s111, k111, x111⟩
  have l111 := hkp.1
  have ap9003_111 := ap_new x9003.lt (x111 hin).ge
  have ap40_111 := ap_new x40.lt (x111 hin).ge
  have ap9005_111 := ap_new x9005.lt (x111 hin).ge
  have ap9006_111 := ap_new x9006.lt (x111 hin).ge
  replace x111 := (x111 hin).base l111
  have zk111 := k111.1
  replace hin := hin.kp k111
  replace hkp := hkp.trans (k111.mono hkp.1)
  replace hb1 := hb1.kp k111
  replace hb2 := hb2.kp k111
  replace hb3 := hb3.kp k111
  replace hb5 := hb5.kp k111
  replace x9003 := x9003.kp k111
  replace x40 := x40.kp k111
  replace x9005 := x9005.kp k111
  replace x9006 := x9006.kp k111
  have ap111_9003 := ap_sym ap9003_111
  have ap111_40 := ap_sym ap40_111
  have ap111_9005 := ap_sym ap9005_111
  have ap111_9006 := ap_sym ap9006_111
  refine ⟨⟨(hin.down le3), hb1, hb2, hb3, trivial⟩, ?_⟩
  refine AF.one 13 (by kernel_rfl) ?_
  obtain ⟨Fz19, hxz19, lez19, hinz19, noz19, hrz19⟩ := x111.freezeX hin hx (Nat.le_refl _) (by first | (simp only [List.length_append, List.length_take, List.length_drop, List.length_nil, List.length_cons, List.length_set, List.length_replicate]; omega) | (simp; done) | (simp; omega) | omega)
  replace hin := hinz19
  replace hx := hxz19
  replace le0 := le0.trans lez19
  replace le1 := le1.trans lez19
  replace le2 := le2.trans lez19
  replace le3 := le3.trans lez19
  have le4 := lez19
  replace ng1 := (noz19 _ (x111.neBx hb1 (by decide))).trans ng1
  replace ng2 := (noz19 _ (x111.neBx hb2 (by decide))).trans ng2
  replace ng3 := (noz19 _ (x111.neBx hb3 (by decide))).trans ng3
  replace ng5 := (noz19 _ (x111.neBx hb5 (by decide))).trans ng5
  replace x9003 := x9003.frozen lez19 noz19 ap9003_111
  replace x40 := x40.frozen lez19 noz19 ap40_111
  replace x9005 := x9005.frozen lez19 noz19 ap9005_111
  replace x9006 := x9006.frozen lez19 noz19 ap9006_111
  refine AFN.chg rfl (OpCh.appL (r := rMach) Try.underlying59 Try.info40 (by decide) rfl rfl rfl x9006 hrz19 hin (by first | (simp only [List.length_append, List.length_take, List.length_drop, List.length_nil, List.length_cons, List.length_set, List.length_replicate]; omega) | (simp; done) | (simp; omega) | omega) (by omega)) ?_
  rintro v112 H112 ⟨x112, gb112, ob112⟩
  replace hin := hin.grown gb112 x9006.no
  replace hkp := gb112.kp hkp (Nat.le_refl _) (fun k0 hk0 => (x9006.blk k0 hk0).1)
  replace hb1 := hb1.of (gb112.2 _ hb1.lt (Ne.symm (by first | exact x9006.neBx hb1 (by decide) | exact nq9006_1)))
  replace hb2 := hb2.of (gb112.2 _ hb2.lt (Ne.symm (by first | exact x9006.neBx hb2 (by decide) | exact nq9006_2)))
  replace hb3 := hb3.of (gb112.2 _ hb3.lt (Ne.symm (by first | exact x9006.neBx hb3 (by decide) | exact nq9006_3)))
  replace hb5 := hb5.of (gb112.2 _ hb5.lt (Ne.symm (by first | exact x9006.neBx hb5 (by decide) | exact nq9006_5)))
  have ap112_9003 := ap_grow ap9006_9003 x9003.lt (ob_some ob112)
  have ap9003_112 := ap_sym ap112_9003
  replace x9003 := x9003.of (fun k0 hk0 => gb112.2 k0 (x9003.blk k0 hk0).2 (fun e9 => ap9006_9003 _ e9.symm hk0))
  have ap112_40 := ap_grow ap9006_40 x40.lt (ob_some ob112)
  have ap40_112 := ap_sym ap112_40
  replace x40 := x40.of (fun k0 hk0 => gb112.2 k0 (x40.blk k0 hk0).2 (fun e9 => ap9006_40 _ e9.symm hk0))
  have ap112_9005 := ap_grow ap9006_9005 x9005.lt (ob_some ob112)
  have ap9005_112 := ap_sym ap112_9005
  replace x9005 := x9005.of (fun k0 hk0 => gb112.2 k0 (x9005.blk k0 hk0).2 (fun e9 => ap9006_9005 _ e9.symm hk0))
  refine ⟨⟨(hin.down le3), hb1, hb2, hb3, trivial⟩, ?_⟩
  refine AF.take 14 rfl (by kernel_rfl) (by kernel_rfl) (by kernel_rfl) ⟨(hin.down le3), hb1, hb2, hb3, trivial⟩ (fun _ ⟨hin, hb1, hb2, hb3, _⟩ => OpOk.fieldAddr (Try.fld61_1) rfl) ?_
  refine AF.one 15 (by kernel_rfl) ?_
  refine AFN.chg0 rfl (OpCh.storeB hb5 Try.sz59 rfl rfl x112.one1 (by first | decide | (simp; done))) ?_
  rintro _ Hw20 ⟨tw20, bw20⟩
  have ztw20 := tw20.1
  replace hin := hin.tw tw20 ng5
  replace hkp := Tw.kp' hkp tw20 (by omega)
  replace hb1 := hb1.tw tw20 (Bx.ne hb1 hb5 (by decide))
  replace hb2 := hb2.tw tw20 (Bx.ne hb2 hb5 (by decide))
  replace hb3 := hb3.tw tw20 (Bx.ne hb3 hb5 (by decide))
  replace x9003 := x9003.tw tw20 (by first | exact x9003.neLt (by omega) | exact nq9003_5)
  replace x40 := x40.tw tw20 (x40.neBx hb5 (by decide))
  replace x9005 := x9005.tw tw20 (x9005.neBx hb5 (by decide))
  replace x112 := x112.tw tw20 (x112.neBx hb5 (by decide))
  replace hb5 : Bx _ _ _ [vp, v112, .int .i64 (((ix m.Blocks k).End).Op), .int .i64 (((ix m.Blocks k).End).A), .int .i64 (((ix m.Blocks k).End).B), v40, .int .i32 (((ix m.Blocks k).End).Imm)] := bw20
  clear bw20 tw20
  refine ⟨⟨(hin.down le3), hb1, hb2, hb3, trivial⟩, ?_⟩
  refine AF.done (by kernel_rfl) ?_
  refine PF.blockNormal (PF.next (CF.region (LF.step (OpOk.move rfl) ?_)))
  refine LF.step (OpOk.add rfl rfl (by omega)) ?_
  refine LF.step (OpOk.assign rfl) (LF.nil ?_)
  exact PF.again (j + 1, ml ++ ([fewM (ix ((ix m.Blocks k).Ins) j)]), v112, Fz19) ⟨by dsimp only; omega, by dsimp only; rw [hml, take_ix (by omega), List.map_append]; rfl, hx, le2, hin, hkp, hb1, ng1, hb2, ng2, hb3, ng3, hb5, ng5, x9003, x40, x9005, x112, ap9003_112, ap40_112, ap9005_112⟩ ⟨rfl, rfl, rfl, rfl, rfl, eqI (by omega), trivial⟩ (by omega)
  refine AFN.chg rfl (OpCh.litL (F := F110) (r := rMach) (l := [fewM (ix ((ix m.Blocks k).Ins) j)]) (us := [.agg #[.int .i64 ((fewM (ix ((ix m.Blocks k).Ins) j)).Op), .int .i64 ((fewM (ix ((ix m.Blocks k).Ins) j)).D), .int .i64 ((fewM (ix ((ix m.Blocks k).Ins) j)).E), .int .i64 ((fewM (ix ((ix m.Blocks k).Ins) j)).A), .int .i64 ((fewM (ix ((ix m.Blocks k).Ins) j)).B), .int .i64 ((fewM (ix ((ix m.Blocks k).Ins) j)).C), .int .i32 ((fewM (ix ((ix m.Blocks k).Ins) j)).Imm), v110c7]]) (cs := [[.int .i64 ((fewM (ix ((ix m.Blocks k).Ins) j)).Op), .int .i64 ((fewM (ix ((ix m.Blocks k).Ins) j)).D), .int .i64 ((fewM (ix ((ix m.Blocks k).Ins) j)).E), .int .i64 ((fewM (ix ((ix m.Blocks k).Ins) j)).A), .int .i64 ((fewM (ix ((ix m.Blocks k).Ins) j)).B), .int .i64 ((fewM (ix ((ix m.Blocks k).Ins) j)).C), .int .i32 ((fewM (ix ((ix m.Blocks k).Ins) j)).Imm), v110c7]]) Try.underlying59 Try.info40 (by decide) rfl rfl rfl ⟨rfl, rfl, (ra_ok h110), trivial⟩) ?_
  rintro _ H111 ⟨g111, rfl, e111, s111, k111, x111⟩
  have l111 := hkp.1
  have ap9003_111 := ap_new x9003.lt (x111 hin).ge
  have ap40_111 := ap_new x40.lt (x111 hin).ge
  have ap9005_111 := ap_new x9005.lt (x111 hin).ge
  have ap9006_111 := ap_new x9006.lt (x111 hin).ge
  replace x111 := (x111 hin).base l111
  have zk111 := k111.1
  replace hin := hin.kp k111
  replace hkp := hkp.trans (k111.mono hkp.1)
  replace hb1 := hb1.kp k111
  replace hb2 := hb2.kp k111
  replace hb3 := hb3.kp k111
  replace hb5 := hb5.kp k111
  replace x9003 := x9003.kp k111
  replace x40 := x40.kp k111
  replace x9005 := x9005.kp k111
  replace x9006 := x9006.kp k111
  have ap111_9003 := ap_sym ap9003_111
  have ap111_40 := ap_sym ap40_111
  have ap111_9005 := ap_sym ap9005_111
  have ap111_9006 := ap_sym ap9006_111
  refine ⟨⟨(hin.down le3), hb1, hb2, hb3, trivial⟩, ?_⟩
  refine AF.one 1 (by kernel_rfl) ?_
  refine AFN.step rfl (OpOk.ldBx hb5 Try.one59 rfl rfl) ⟨(hin.down le3), hb1, hb2, hb3, trivial⟩ ?_
  refine AF.one 13 (by kernel_rfl) ?_
  obtain ⟨Fz21, hxz21, lez21, hinz21, noz21, hrz21⟩ := x111.freezeX hin hx (Nat.le_refl _) (by first | (simp only [List.length_append, List.length_take, List.length_drop, List.length_nil, List.length_cons, List.length_set, List.length_replicate]; omega) | (simp; done) | (simp; omega) | omega)
  replace hin := hinz21
  replace hx := hxz21
  replace le0 := le0.trans lez21
  replace le1 := le1.trans lez21
  replace le2 := le2.trans lez21
  replace le3 := le3.trans lez21
  have le4 := lez21
  replace ng1 := (noz21 _ (x111.neBx hb1 (by decide))).trans ng1
  replace ng2 := (noz21 _ (x111.neBx hb2 (by decide))).trans ng2
  replace ng3 := (noz21 _ (x111.neBx hb3 (by decide))).trans ng3
  replace ng5 := (noz21 _ (x111.neBx hb5 (by decide))).trans ng5
  replace x9003 := x9003.frozen lez21 noz21 ap9003_111
  replace x40 := x40.frozen lez21 noz21 ap40_111
  replace x9005 := x9005.frozen lez21 noz21 ap9005_111
  replace x9006 := x9006.frozen lez21 noz21 ap9006_111
  refine AFN.chg rfl (OpCh.appL (r := rMach) Try.underlying59 Try.info40 (by decide) rfl rfl rfl x9006 hrz21 hin (by first | (simp only [List.length_append, List.length_take, List.length_drop, List.length_nil, List.length_cons, List.length_set, List.length_replicate]; omega) | (simp; done) | (simp; omega) | omega) (by omega)) ?_
  rintro v112 H112 ⟨x112, gb112, ob112⟩
  replace hin := hin.grown gb112 x9006.no
  replace hkp := gb112.kp hkp (Nat.le_refl _) (fun k0 hk0 => (x9006.blk k0 hk0).1)
  replace hb1 := hb1.of (gb112.2 _ hb1.lt (Ne.symm (by first | exact x9006.neBx hb1 (by decide) | exact nq9006_1)))
  replace hb2 := hb2.of (gb112.2 _ hb2.lt (Ne.symm (by first | exact x9006.neBx hb2 (by decide) | exact nq9006_2)))
  replace hb3 := hb3.of (gb112.2 _ hb3.lt (Ne.symm (by first | exact x9006.neBx hb3 (by decide) | exact nq9006_3)))
  replace hb5 := hb5.of (gb112.2 _ hb5.lt (Ne.symm (by first | exact x9006.neBx hb5 (by decide) | exact nq9006_5)))
  have ap112_9003 := ap_grow ap9006_9003 x9003.lt (ob_some ob112)
  have ap9003_112 := ap_sym ap112_9003
  replace x9003 := x9003.of (fun k0 hk0 => gb112.2 k0 (x9003.blk k0 hk0).2 (fun e9 => ap9006_9003 _ e9.symm hk0))
  have ap112_40 := ap_grow ap9006_40 x40.lt (ob_some ob112)
  have ap40_112 := ap_sym ap112_40
  replace x40 := x40.of (fun k0 hk0 => gb112.2 k0 (x40.blk k0 hk0).2 (fun e9 => ap9006_40 _ e9.symm hk0))
  have ap112_9005 := ap_grow ap9006_9005 x9005.lt (ob_some ob112)
  have ap9005_112 := ap_sym ap112_9005
  replace x9005 := x9005.of (fun k0 hk0 => gb112.2 k0 (x9005.blk k0 hk0).2 (fun e9 => ap9006_9005 _ e9.symm hk0))
  refine ⟨⟨(hin.down le3), hb1, hb2, hb3, trivial⟩, ?_⟩
  refine AF.take 14 rfl (by kernel_rfl) (by kernel_rfl) (by kernel_rfl) ⟨(hin.down le3), hb1, hb2, hb3, trivial⟩ (fun _ ⟨hin, hb1, hb2, hb3, _⟩ => OpOk.fieldAddr (Try.fld61_1) rfl) ?_
  refine AF.one 15 (by kernel_rfl) ?_
  refine AFN.chg0 rfl (OpCh.storeB hb5 Try.sz59 rfl rfl x112.one1 (by first | decide | (simp; done))) ?_
  rintro _ Hw22 ⟨tw22, bw22⟩
  have ztw22 := tw22.1
  replace hin := hin.tw tw22 ng5
  replace hkp := Tw.kp' hkp tw22 (by omega)
  replace hb1 := hb1.tw tw22 (Bx.ne hb1 hb5 (by decide))
  replace hb2 := hb2.tw tw22 (Bx.ne hb2 hb5 (by decide))
  replace hb3 := hb3.tw tw22 (Bx.ne hb3 hb5 (by decide))
  replace x9003 := x9003.tw tw22 (by first | exact x9003.neLt (by omega) | exact nq9003_5)
  replace x40 := x40.tw tw22 (x40.neBx hb5 (by decide))
  replace x9005 := x9005.tw tw22 (x9005.neBx hb5 (by decide))
  replace x112 := x112.tw tw22 (x112.neBx hb5 (by decide))
  replace hb5 : Bx _ _ _ [vp, v112, .int .i64 (((ix m.Blocks k).End).Op), .int .i64 (((ix m.Blocks k).End).A), .int .i64 (((ix m.Blocks k).End).B), v40, .int .i32 (((ix m.Blocks k).End).Imm)] := bw22
  clear bw22 tw22
  refine ⟨⟨(hin.down le3), hb1, hb2, hb3, trivial⟩, ?_⟩
  refine AF.done (by kernel_rfl) ?_
  refine PF.blockNormal (PF.next (CF.region (LF.step (OpOk.move rfl) ?_)))
  refine LF.step (OpOk.add rfl rfl (by omega)) ?_
  refine LF.step (OpOk.assign rfl) (LF.nil ?_)
  exact PF.again (j + 1, ml ++ ([fewM (ix ((ix m.Blocks k).Ins) j)]), v112, Fz21) ⟨by dsimp only; omega, by dsimp only; rw [hml, take_ix (by omega), List.map_append]; rfl, hx, le2, hin, hkp, hb1, ng1, hb2, ng2, hb3, ng3, hb5, ng5, x9003, x40, x9005, x112, ap9003_112, ap40_112, ap9005_112⟩ ⟨rfl, rfl, rfl, rfl, rfl, eqI (by omega), trivial⟩ (by omega)
  refine CF.exit (PF.thenExit (PF.thenExit (PF.blockHere (PF.next (CF.region ?_)))))
  refine LF.step (OpOk.fieldAddr (Try.fld24_1) rfl) ?_
  refine LF.step (OpOk.ldBx hb3 Try.one22 rfl rfl) ?_
  refine LF.step (OpOk.ldBxA hb5 Try.agg61 Try.sz61 rfl rfl rfl) ?_
  obtain ⟨Fz23, hxz23, lez23, hinz23, noz23, hrz23⟩ := x9005.freezeX hin hx (Nat.le_refl _) (by first | (simp only [List.length_append, List.length_take, List.length_drop, List.length_nil, List.length_cons, List.length_set, List.length_replicate]; omega) | (simp; done) | (simp; omega) | omega)
  replace hin := hinz23
  replace hx := hxz23
  replace le0 := le0.trans lez23
  replace le1 := le1.trans lez23
  replace le2 := le2.trans lez23
  have le3 := lez23
  replace ng1 := (noz23 _ (x9005.neBx hb1 (by decide))).trans ng1
  replace ng2 := (noz23 _ (x9005.neBx hb2 (by decide))).trans ng2
  replace ng3 := (noz23 _ (x9005.neBx hb3 (by decide))).trans ng3
  replace ng5 := (noz23 _ (x9005.neBx hb5 (by decide))).trans ng5
  replace x9003 := x9003.frozen lez23 noz23 ap9003_9005
  replace x40 := x40.frozen lez23 noz23 ap40_9005
  replace x9006 := x9006.frozen lez23 noz23 ap9006_9005
  obtain ⟨Fz24, hxz24, lez24, hinz24, noz24, hrz24⟩ := x9006.freezeX hin hx (Nat.le_refl _) (by first | (simp only [List.length_append, List.length_take, List.length_drop, List.length_nil, List.length_cons, List.length_set, List.length_replicate]; omega) | (simp; done) | (simp; omega) | omega)
  replace hin := hinz24
  replace hx := hxz24
  replace le0 := le0.trans lez24
  replace le1 := le1.trans lez24
  replace le2 := le2.trans lez24
  replace le3 := le3.trans lez24
  have le4 := lez24
  replace ng1 := (noz24 _ (x9006.neBx hb1 (by decide))).trans ng1
  replace ng2 := (noz24 _ (x9006.neBx hb2 (by decide))).trans ng2
  replace ng3 := (noz24 _ (x9006.neBx hb3 (by decide))).trans ng3
  replace ng5 := (noz24 _ (x9006.neBx hb5 (by decide))).trans ng5
  replace x9003 := x9003.frozen lez24 noz24 ap9003_9006
  replace x40 := x40.frozen lez24 noz24 ap40_9006
  obtain ⟨Fz25, hxz25, lez25, hinz25, noz25, hrz25⟩ := x40.freezeX hin hx (Nat.le_refl _) (by first | (simp only [List.length_append, List.length_take, List.length_drop, List.length_nil, List.length_cons, List.length_set, List.length_replicate]; omega) | (simp; done) | (simp; omega) | omega)
  replace hin := hinz25
  replace hx := hxz25
  replace le0 := le0.trans lez25
  replace le1 := le1.trans lez25
  replace le2 := le2.trans lez25
  replace le3 := le3.trans lez25
  replace le4 := le4.trans lez25
  have le5 := lez25
  replace ng1 := (noz25 _ (x40.neBx hb1 (by decide))).trans ng1
  replace ng2 := (noz25 _ (x40.neBx hb2 (by decide))).trans ng2
  replace ng3 := (noz25 _ (x40.neBx hb3 (by decide))).trans ng3
  replace ng5 := (noz25 _ (x40.neBx hb5 (by decide))).trans ng5
  replace x9003 := x9003.frozen lez25 noz25 ap9003_40
  refine LF.appA (r := rMBlock) (a := ⟨pl, ml, ⟨((ix m.Blocks k).End).Op, ((ix m.Blocks k).End).A, ((ix m.Blocks k).End).B, List.take (Int.toNat (min (↑(List.length (((ix m.Blocks k).End).To))) 8)) (((ix m.Blocks k).End).To), ((ix m.Blocks k).End).Imm⟩⟩) Try.underlying22 Try.info61 (by decide) rfl rfl (rMBlock.mk (m := ⟨pl, ml, ⟨((ix m.Blocks k).End).Op, ((ix m.Blocks k).End).A, ((ix m.Blocks k).End).B, List.take (Int.toNat (min (↑(List.length (((ix m.Blocks k).End).To))) 8)) (((ix m.Blocks k).End).To), ((ix m.Blocks k).End).Imm⟩⟩) (hrz23.up le4) (hrz24.up le5) hrz25 (rEnd.w_Op (m := ((ix m.Blocks k).End)) h28k) (rEnd.w_A (m := ((ix m.Blocks k).End)) h28k) (rEnd.w_B (m := ((ix m.Blocks k).End)) h28k) (rEnd.w_Imm (m := ((ix m.Blocks k).End)) h28k)) x9003 hin (by first | (simp only [List.length_append, List.length_take, List.length_drop, List.length_nil, List.length_cons, List.length_set, List.length_replicate]; omega) | (simp; done) | (simp; omega) | omega) rfl ?_ hkp.1
  intro v118 H118 x118 gb118 nn118 ob118
  replace hin := hin.grown gb118 x9003.no
  replace hkp := gb118.kp hkp (Nat.le_refl _) (fun k0 hk0 => (x9003.blk k0 hk0).1)
  replace hb1 := hb1.of (gb118.2 _ hb1.lt (Ne.symm (by first | exact x9003.neBx hb1 (by decide) | exact nq9003_1)))
  replace hb2 := hb2.of (gb118.2 _ hb2.lt (Ne.symm (by first | exact x9003.neBx hb2 (by decide) | exact nq9003_2)))
  replace hb3 := hb3.of (gb118.2 _ hb3.lt (Ne.symm (by first | exact x9003.neBx hb3 (by decide) | exact nq9003_3)))
  replace hb5 := hb5.of (gb118.2 _ hb5.lt (Ne.symm (by first | exact x9003.neBx hb5 (by decide) | exact nq9003_5)))
  refine LF.step (OpOk.fieldAddr (Try.fld24_1) rfl) ?_
  refine LF.chg0 (OpCh.storeB hb3 Try.sz22 rfl rfl x118.one1 (by first | decide | (simp; done))) ?_
  rintro _ Hw26 ⟨tw26, bw26⟩
  have ztw26 := tw26.1
  replace hin := hin.tw tw26 ng3
  replace hkp := Tw.kp' hkp tw26 (by omega)
  replace hb1 := hb1.tw tw26 (by first | omega | assumption | exact Ne.symm (by assumption))
  replace hb2 := hb2.tw tw26 (by first | omega | assumption | exact Ne.symm (by assumption))
  replace hb5 := hb5.tw tw26 (Bx.ne hb5 hb3 (by decide))
  replace x118 := x118.tw tw26 (x118.neBx hb3 (by decide))
  replace hb3 : Bx _ _ _ [.int .i64 m.Params, v118] := bw26
  clear bw26 tw26
  refine LF.nil (PF.blockNormal (PF.next (CF.region (LF.step (OpOk.move rfl) ?_))))
  refine LF.step (OpOk.add rfl rfl (by omega)) ?_
  refine LF.step (OpOk.assign rfl) (LF.nil ?_)
  exact PF.again (k + 1, bl ++ [⟨pl, ml, ⟨((ix m.Blocks k).End).Op, ((ix m.Blocks k).End).A, ((ix m.Blocks k).End).B, List.take (Int.toNat (min (((List.length (((ix m.Blocks k).End).To) : Nat) : Int)) 8)) (((ix m.Blocks k).End).To), ((ix m.Blocks k).End).Imm⟩⟩], v118, Fz25) ⟨by dsimp only; omega, by dsimp only; rw [hbl, hpl, hml, take_full hc2 hi, take_full hc3 hj, take_ix (l := m.Blocks) (i := k) (by omega), List.map_append]; exact congrArg (fun z => List.map rawB (List.take k m.Blocks) ++ [z]) (raw_block (x := ix m.Blocks k)), hx, le0, hin, hkp, hb1, ng1, hb2, ng2, hb3, ng3, x118⟩ ⟨rfl, rfl, rfl, eqI (by omega), trivial⟩ (by omega)
  refine CF.exit (PF.thenExit (PF.thenExit (PF.blockHere (PF.next (CF.seq (CF.region ?_))))))
  refine LF.step (OpOk.ldBxA hb3 Try.agg24 Try.sz24 rfl rfl rfl) ?_
  refine LF.chg0 (OpCh.storeBA hb2 Try.sz24 rfl rfl rfl (allOne.mem (l := [.int .i64 m.Params, vb]) ⟨rfl, x9003.one1, trivial⟩) (by decide)) ?_
  rintro _ Hw27 ⟨tw27, bw27⟩
  have ztw27 := tw27.1
  replace hin := hin.tw tw27 ng2
  replace hkp := Tw.kp' hkp tw27 (by omega)
  replace hb1 := hb1.tw tw27 (by first | omega | assumption | exact Ne.symm (by assumption))
  replace hb3 := hb3.tw tw27 (by first | omega | assumption | exact Ne.symm (by assumption))
  replace x9003 := x9003.tw tw27 (x9003.neBx hb2 (by decide))
  replace hb2 : Bx _ _ _ [.int .i64 m.Params, vb] := bw27
  clear bw27 tw27
  refine LF.nil (PF.next (CF.ret ?_))
  obtain ⟨Fz28, hxz28, lez28, hinz28, noz28, hrz28⟩ := x9003.freezeX hin hx (Nat.le_refl _) (by first | (simp only [List.length_append, List.length_take, List.length_drop, List.length_nil, List.length_cons, List.length_set, List.length_replicate]; omega) | (simp; done) | (simp; omega) | omega)
  replace hin := hinz28
  replace hx := hxz28
  replace le0 := le0.trans lez28
  have le1 := lez28
  replace ng1 := (noz28 _ (x9003.neBx hb1 (by decide))).trans ng1
  replace ng2 := (noz28 _ (x9003.neBx hb2 (by decide))).trans ng2
  replace ng3 := (noz28 _ (x9003.neBx hb3 (by decide))).trans ng3
  have hm : rawM m = (⟨m.Params, bl⟩) := by
    unfold rawM; rw [hbl, take_full hc1 hk]
  exact PF.retC rfl rfl hb2 Try.agg24 Try.sz24 ⟨_, hx, hin, hkp, by rw [hm]; exact (rMFunc.mk (m := ⟨m.Params, bl⟩) hrz28 (rMFunc.w_Params (m := m) p0k))⟩

end Go.Proofs.Ytehibklogdngbaa
