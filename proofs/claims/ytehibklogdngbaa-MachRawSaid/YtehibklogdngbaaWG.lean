/- Walks. Conditions: each contract names its own. -/
import Derived.Test.YtehibklogdngbaaWF
namespace Go.Proofs.Ytehibklogdngbaa
set_option linter.unusedVariables false
set_option linter.unusedSimpArgs false
set_option linter.unusedSectionVars false
open Go.JE

theorem Try.agg27 : ∃ d, Try.prog.underlying 27 = some d ∧ (match d with | .struct _ | .array _ _ => true | _ => false) = true := ⟨_, Try.underlying27, rfl⟩
theorem Try.agg33 : ∃ d, Try.prog.underlying 33 = some d ∧ (match d with | .struct _ | .array _ _ => true | _ => false) = true := ⟨_, Try.underlying33, rfl⟩
theorem Try.agg75 : ∃ d, Try.prog.underlying 75 = some d ∧ (match d with | .struct _ | .array _ _ => true | _ => false) = true := ⟨_, Try.underlying75, rfl⟩
theorem Try.ent15 : Ent Try.prog 15 := ⟨_, Try.func15, by kernel_rfl, by kernel_rfl⟩
theorem Try.ent19 : Ent Try.prog 19 := ⟨_, Try.func19, by kernel_rfl, by kernel_rfl⟩
theorem Try.ent26 : Ent Try.prog 26 := ⟨_, Try.func26, by kernel_rfl, by kernel_rfl⟩
theorem Try.ent27 : Ent Try.prog 27 := ⟨_, Try.func27, by kernel_rfl, by kernel_rfl⟩
theorem Try.ent28 : Ent Try.prog 28 := ⟨_, Try.func28, by kernel_rfl, by kernel_rfl⟩
theorem Try.ent30 : Ent Try.prog 30 := ⟨_, Try.func30, by kernel_rfl, by kernel_rfl⟩
theorem Try.fld27_0 : Fld Try.prog 27 0 0 := ⟨_, _, Try.underlying27, rfl, rfl, 1, (by unfold Sz; kernel_rfl), by decide⟩
theorem Try.fld27_2 : Fld Try.prog 27 2 2 := ⟨_, _, Try.underlying27, rfl, rfl, 1, (by unfold Sz; kernel_rfl), by decide⟩
theorem Try.fld27_3 : Fld Try.prog 27 3 3 := ⟨_, _, Try.underlying27, rfl, rfl, 1, (by unfold Sz; kernel_rfl), by decide⟩
theorem Try.fld33_0 : Fld Try.prog 33 0 0 := ⟨_, _, Try.underlying33, rfl, rfl, 1, (by unfold Sz; kernel_rfl), by decide⟩
theorem Try.fld33_1 : Fld Try.prog 33 1 1 := ⟨_, _, Try.underlying33, rfl, rfl, 1, (by unfold Sz; kernel_rfl), by decide⟩
theorem Try.fld33_2 : Fld Try.prog 33 2 2 := ⟨_, _, Try.underlying33, rfl, rfl, 1, (by unfold Sz; kernel_rfl), by decide⟩
theorem Try.fld33_3 : Fld Try.prog 33 3 3 := ⟨_, _, Try.underlying33, rfl, rfl, 1, (by unfold Sz; kernel_rfl), by decide⟩
theorem Try.fld33_4 : Fld Try.prog 33 4 4 := ⟨_, _, Try.underlying33, rfl, rfl, 1, (by unfold Sz; kernel_rfl), by decide⟩
theorem Try.fld55_4 : Fld Try.prog 55 4 4 := ⟨_, _, Try.underlying55, rfl, rfl, 1, (by unfold Sz; kernel_rfl), by decide⟩
theorem Try.fld75_1 : Fld Try.prog 75 1 1 := ⟨_, _, Try.underlying75, rfl, rfl, 1, (by unfold Sz; kernel_rfl), by decide⟩
theorem Try.info75 : (Try.prog.info? 75).map (fun i => (i.zero, i.size, i.bytes)) = some (some (.agg #[.int .i32 0, .slice none 0 0]), 2, 32) := by kernel_rfl
theorem Try.one31 : One Try.prog 31 := ⟨_, Try.underlying31, rfl⟩
theorem Try.sz25 : Sz Try.prog 25 1 := by unfold Sz; kernel_rfl
theorem Try.sz27 : Sz Try.prog 27 4 := by unfold Sz; kernel_rfl
theorem Try.sz31 : Sz Try.prog 31 1 := by unfold Sz; kernel_rfl
theorem Try.sz33 : Sz Try.prog 33 5 := by unfold Sz; kernel_rfl
theorem Try.sz75 : Sz Try.prog 75 2 := by unfold Sz; kernel_rfl
theorem Try.zero33 : (Try.prog.info? 33).bind (·.zero) = some (.agg #[.int .i64 0, .int .i32 0, .slice none 0 0, .slice none 0 0, .int .i64 0]) := by kernel_rfl
theorem Try.zero75 : (Try.prog.info? 75).bind (·.zero) = some (.agg #[.int .i32 0, .slice none 0 0]) := by kernel_rfl
-- jacquard/mach.Run$1: function 27
theorem pStop_ct {F : PH} {H : Heap} (hin : InH F H) (kd : Int) (x : Int) {e0 v0 s0 : Int} {m0 c0 : Value} {g2 : Nat} (hb2 : Bx H g2 33 [.int .i64 e0, .int .i32 v0, m0, c0, .int .i64 s0]) (ng2 : F g2 = none) (om : m0.oneCell' = true) (oc : c0.oneCell' = true) :
    Ct Try.prog 27 #[.int .i64 kd, .int .i32 x, .pointer (some ⟨g2, 0, none⟩)] H (fun u H' => u = .agg #[.int .i64 kd, .int .i32 x, m0, c0, .int .i64 s0] ∧ Kw (fun j9 => j9 = g2) H H') := by
  have lt2 := hb2.lt
  have hkp := Kw.refl (fun j9 => j9 = g2) H
  have hx := PH.ext.refl (H := H) F
  refine Ct.enter (args := [.int .i64 kd, .int .i32 x, .pointer (some ⟨g2, 0, none⟩)]) Try.func27 rfl rfl rfl (fun w0 hw0 => ?_)
  refine CF.seq (CF.region ?_)
  refine LF.chg (OpCh.allocB Try.zero33 rfl) ?_
  rintro _ H5 ⟨g5, rfl, eg5, sg5, kg5, hb5⟩
  have ng5 := hin.nope (Nat.le_of_eq eg5.symm)
  have lg5 := hkp.1
  have nb5_2 : g2 ≠ g5 := by have := hb2.lt; omega
  have zkg5 := kg5.1
  replace hin := hin.kp kg5
  replace hkp := hkp.trans (kg5.mono hkp.1)
  replace hb2 := hb2.kp kg5
  clear kg5
  refine LF.nil (PF.next (CF.seq (CF.region (LF.step (OpOk.move rfl) (LF.step (OpOk.move rfl) ?_)))))
  refine LF.step (OpOk.fieldAddr (Try.fld33_0) rfl) ?_
  refine LF.chg0 (OpCh.storeB hb2 Try.sz3 rfl rfl rfl (by first | decide | (simp; done))) ?_
  rintro _ Hw1 ⟨tw1, bw1⟩
  have ztw1 := tw1.1
  replace hin := hin.tw tw1 ng2
  replace hkp := hkp.tw tw1 (.inr rfl)
  replace hb5 := hb5.tw tw1 (by first | omega | assumption | exact Ne.symm (by assumption))
  replace hb2 : Bx _ _ _ [.int .i64 kd, .int .i32 v0, m0, c0, .int .i64 s0] := bw1
  clear bw1 tw1
  refine LF.step (OpOk.fieldAddr (Try.fld33_1) rfl) ?_
  refine LF.chg0 (OpCh.storeB hb2 Try.sz21 rfl rfl rfl (by first | decide | (simp; done))) ?_
  rintro _ Hw2 ⟨tw2, bw2⟩
  have ztw2 := tw2.1
  replace hin := hin.tw tw2 ng2
  replace hkp := hkp.tw tw2 (.inr rfl)
  replace hb5 := hb5.tw tw2 (by first | omega | assumption | exact Ne.symm (by assumption))
  replace hb2 : Bx _ _ _ [.int .i64 kd, .int .i32 x, m0, c0, .int .i64 s0] := bw2
  clear bw2 tw2
  refine LF.nil (PF.next (CF.seq (CF.region ?_)))
  refine LF.step (OpOk.ldBxA hb2 Try.agg33 Try.sz33 rfl rfl rfl) ?_
  refine LF.chg0 (OpCh.storeBA hb5 Try.sz33 rfl rfl rfl (allOne.mem (l := [.int .i64 kd, .int .i32 x, m0, c0, .int .i64 s0]) ⟨rfl, rfl, om, oc, rfl, trivial⟩) (by decide)) ?_
  rintro _ Hw3 ⟨tw3, bw3⟩
  have ztw3 := tw3.1
  replace hin := hin.tw tw3 ng5
  replace hkp := hkp.tw tw3 (.inl (by omega))
  replace hb2 := hb2.tw tw3 (by first | omega | assumption | exact Ne.symm (by assumption))
  replace hb5 : Bx _ _ _ [.int .i64 kd, .int .i32 x, m0, c0, .int .i64 s0] := bw3
  clear bw3 tw3
  refine LF.nil (PF.next (CF.ret ?_))
  exact PF.retC rfl rfl hb5 Try.agg33 Try.sz33 ⟨rfl, hkp⟩

-- jacquard/mach.Run: function 11
set_option maxRecDepth 8000 in
set_option maxHeartbeats 4000000 in
theorem runM_ct {F : PH} {H : Heap} (hin : InH F H) {a0 : Value} {m : D.MFunc} (p0 : rMFunc.ra F a0 m) {a1 : Value} {i : D.Input} (p1 : rInput.ra F a1 i) (hstp : i.Steps ≤ 1000000) :
    Ct Try.prog 11 #[a0, a1] H (fun v H' => ∃ F', PH.ext H F F' ∧ InH F' H' ∧ Kp H.size H H' ∧ rOutcome.ra F' v (runM m i)) := by
  have p0k := rMFunc.any p0
  obtain ⟨a0c1, rfl, p0c1⟩ := rMFunc.open p0
  have p0c1q := rL.len2 p0c1
  have p1k := rInput.any p1
  obtain ⟨a1c0, a1c1, a1c2, rfl, p1c0, p1c1, p1c2⟩ := rInput.open p1
  have p1c0q := rL.len2 p1c0
  have p1c1q := rL.len2 p1c1
  have p1c2q := rL.len2 p1c2
  have hkp := Kp.refl H.size H
  have hx := PH.ext.refl (H := H) F
  refine Ct.enter (args := [.agg #[.int .i64 m.Params, a0c1], .agg #[a1c0, a1c1, a1c2, .int .i64 i.Steps]]) Try.func11 rfl rfl rfl (fun w0 hw0 => ?_)
  refine CF.seq (CF.region ?_)
  refine LF.chg (OpCh.boxB rfl rfl) ?_
  rintro _ H2 ⟨g2, rfl, eg2, sg2, kg2, hb2⟩
  have ng2 := hin.nope (Nat.le_of_eq eg2.symm)
  have lg2 := hkp.1
  have zkg2 := kg2.1
  replace hin := hin.kp kg2
  replace hkp := hkp.trans (kg2.mono hkp.1)
  clear kg2
  refine LF.chg (OpCh.boxB rfl rfl) ?_
  rintro _ H3 ⟨g3, rfl, eg3, sg3, kg3, hb3⟩
  have ng3 := hin.nope (Nat.le_of_eq eg3.symm)
  have lg3 := hkp.1
  have zkg3 := kg3.1
  replace hin := hin.kp kg3
  replace hkp := hkp.trans (kg3.mono hkp.1)
  replace hb2 := hb2.kp kg3
  clear kg3
  refine LF.chg (OpCh.allocB Try.zero33 rfl) ?_
  rintro _ H4 ⟨g4, rfl, eg4, sg4, kg4, hb4⟩
  have ng4 := hin.nope (Nat.le_of_eq eg4.symm)
  have lg4 := hkp.1
  have zkg4 := kg4.1
  replace hin := hin.kp kg4
  replace hkp := hkp.trans (kg4.mono hkp.1)
  replace hb2 := hb2.kp kg4
  replace hb3 := hb3.kp kg4
  clear kg4
  refine LF.nil (PF.next ?_)
  refine CF.scope ?_
  refine CF.seq (CF.seq (CF.region ?_))
  refine LF.step (OpOk.ldBxA hb2 Try.agg24 Try.sz24 rfl rfl rfl) ?_
  refine LF.call (OpCall.fn Try.ent15 rfl rfl) (pRight_ct hin p0) ?_
  rintro _ H20 ⟨rfl, k20⟩
  have zk20 := k20.1
  replace hin := hin.kp k20
  replace hkp := hkp.trans (k20.mono hkp.1)
  replace hb2 := hb2.kp k20
  replace hb3 := hb3.kp k20
  replace hb4 := hb4.kp k20
  refine LF.step (OpOk.not rfl) ?_
  refine LF.nil (PF.next ?_)
  refine CF.if rfl (fun hc1 => ?_) (fun hc1 => ?_)
  refine CF.seq (CF.region ?_)
  refine LF.step (OpOk.build (v := .agg #[.int .i64 4, .int .i32 0, .slice none 0 0, .slice none 0 0, .int .i64 0]) rfl (fun w => by kernel_rfl)) ?_
  refine LF.chg0 (OpCh.storeBA hb4 Try.sz33 rfl rfl rfl (allOne.mem (l := [.int .i64 4, .int .i32 0, .slice none 0 0, .slice none 0 0, .int .i64 0]) ⟨rfl, rfl, rfl, rfl, rfl, trivial⟩) (by decide)) ?_
  rintro _ Hw1 ⟨tw1, bw1⟩
  have ztw1 := tw1.1
  replace hin := hin.tw tw1 ng4
  replace hkp := Tw.kp' hkp tw1 (by omega)
  replace hb2 := hb2.tw tw1 (Bx.ne hb2 hb4 (by decide))
  replace hb3 := hb3.tw tw1 (Bx.ne hb3 hb4 (by decide))
  replace hb4 : Bx _ _ _ [.int .i64 4, .int .i32 0, .slice none 0 0, .slice none 0 0, .int .i64 0] := bw1
  clear bw1 tw1
  refine LF.nil (PF.next (CF.ret (PF.thenRet ?_)))
  refine PF.scope ?_ (by simp)
  have hm : runM m i = (⟨4, 0, [], [], 0⟩) := by
    first | exact run_wrong (by simpa using hc1) | exact ins_stop hI (by omega) hc3 | exact ins_trap hI (by omega) hc3 hc4 (by simpa using hc7) | exact end_stop hI (by omega) hc8 | exact end_ret hI (by omega) hc8 hc9 | exact end_trap hI (by omega) hc8 hc9 hc10
  exact PF.retC rfl rfl hb4 Try.agg33 Try.sz33 ⟨_, hx, hin, hkp, by rw [hm]; exact (rOutcome.mk (m := ⟨4, 0, [], [], 0⟩) (rL.nil _) (rL.nil _) (by decide : IntKind.i64.wrap 4 = 4) (by decide : IntKind.i32.wrap 0 = 0) (by decide : IntKind.i64.wrap 0 = 0))⟩
  have hR : rightM m = true := by simpa using hc1
  have hW := right_wf hR
  have hp0 := hW.p0
  have hn0 := hW.n0
  refine CF.skip (PF.next (CF.seq (CF.region ?_)))
  refine LF.step (OpOk.ldBxA hb3 Try.agg27 Try.sz27 rfl rfl rfl) ?_
  refine LF.call (OpCall.fn Try.ent26 rfl rfl) (pMem_ct hin p1) ?_
  rintro v24 H24 ⟨x24, k24⟩
  replace x24 := x24.base hkp.1
  have zk24 := k24.1
  replace hin := hin.kp k24
  replace hkp := hkp.trans (k24.mono hkp.1)
  replace hb2 := hb2.kp k24
  replace hb3 := hb3.kp k24
  replace hb4 := hb4.kp k24
  refine LF.step (OpOk.build (v := .agg #[.int .i64 0, .int .i32 0, v24, .slice none 0 0, .int .i64 0]) rfl (fun w => by obtain ⟨xs9, h9, _⟩ := x24; obtain ⟨a29, c29, e29⟩ := h9.len; rw [show (v24 : Value) = _ from e29]; kernel_rfl)) ?_
  refine LF.chg (OpCh.allocB Try.zero33 rfl) ?_
  rintro _ H5 ⟨g5, rfl, eg5, sg5, kg5, hb5⟩
  have ng5 := hin.nope (Nat.le_of_eq eg5.symm)
  have lg5 := hkp.1
  have nb5_4 : g4 ≠ g5 := by have := hb4.lt; omega
  have zkg5 := kg5.1
  replace hin := hin.kp kg5
  replace hkp := hkp.trans (kg5.mono hkp.1)
  replace hb2 := hb2.kp kg5
  replace hb3 := hb3.kp kg5
  replace hb4 := hb4.kp kg5
  replace x24 := x24.kp kg5
  clear kg5
  refine LF.chg0 (OpCh.storeBA hb5 Try.sz33 rfl rfl rfl (allOne.mem (l := [.int .i64 0, .int .i32 0, v24, .slice none 0 0, .int .i64 0]) ⟨rfl, rfl, x24.one1, rfl, rfl, trivial⟩) (by decide)) ?_
  rintro _ Hw2 ⟨tw2, bw2⟩
  have ztw2 := tw2.1
  replace hin := hin.tw tw2 ng5
  replace hkp := Tw.kp' hkp tw2 (by omega)
  replace hb2 := hb2.tw tw2 (Bx.ne hb2 hb5 (by decide))
  replace hb3 := hb3.tw tw2 (Bx.ne hb3 hb5 (by decide))
  replace hb4 := hb4.tw tw2 (by first | omega | assumption | exact Ne.symm (by assumption))
  replace x24 := x24.tw tw2 (x24.neBx hb5 (by decide))
  replace hb5 : Bx _ _ _ [.int .i64 0, .int .i32 0, v24, .slice none 0 0, .int .i64 0] := bw2
  clear bw2 tw2
  refine LF.nil (PF.next (CF.seq (CF.region ?_)))
  refine LF.chg (OpCh.makeL (F := F) (r := (rI .i32)) (n := 8192) (a := 0) Try.underlying25 Try.info21 rfl rfl rfl (by omega) (by omega) (by omega) (by omega) ⟨rfl, (by decide : IntKind.i32.wrap 0 = 0)⟩) ?_
  rintro _ H26 ⟨g26, rfl, e26, s26, k26, x26⟩
  have l26 := hkp.1
  have ap24_26 := ap_new x24.lt (x26 hin).ge
  replace x26 := (x26 hin).base l26
  have zk26 := k26.1
  replace hin := hin.kp k26
  replace hkp := hkp.trans (k26.mono hkp.1)
  replace hb2 := hb2.kp k26
  replace hb3 := hb3.kp k26
  replace hb4 := hb4.kp k26
  replace hb5 := hb5.kp k26
  replace x24 := x24.kp k26
  have ap26_24 := ap_sym ap24_26
  refine LF.step (OpOk.assign rfl) (LF.nil (PF.next (CF.seq ?_)))
  refine CF.tail 6 Try.mixed (by kernel_rfl) ?_
  refine LS.step (OpOk.move rfl) ?_
  refine LS.step (OpOk.fieldAddr (Try.fld24_0) rfl) ?_
  refine LS.step (OpOk.ldBx hb2 Try.one3 rfl rfl) ?_
  refine LS.step (OpOk.sliceHiG (hi := (Int.toNat m.Params)) Try.underlying25 Try.sz21 x26 rfl rfl (by omega) (by first | omega | (simp only [List.length_replicate, List.length_set, List.length_append, List.length_cons, List.length_nil]; omega))) ?_
  refine LS.step (OpOk.fieldAddr (Try.fld27_0) rfl) ?_
  refine LS.step (OpOk.ldBx hb3 Try.one25 rfl rfl) ?_
  refine LS.tail ?_
  refine LF.chg (OpCh.copyG Try.underlying25 Try.info21 rfl rfl rfl x26 (by first | omega | (simp only [List.length_replicate, List.length_set, List.length_append, List.length_cons, List.length_nil]; omega)) p1c0 hin) ?_
  rintro _ H33 ⟨rfl, k33, x33⟩
  have zk33 := k33.1
  replace hin := hin.kw k33 x26.no
  replace hb2 := hb2.kw k33 (x26.neBx hb2 (by decide))
  replace hb3 := hb3.kw k33 (x26.neBx hb3 (by decide))
  replace hb4 := hb4.kw k33 (x26.neBx hb4 (by decide))
  replace hb5 := hb5.kw k33 (x26.neBx hb5 (by decide))
  replace x24 := x24.kw k33 (ap24_26)
  replace hkp := hkp.kw k33 x26.ge
  refine LF.nil (PF.next (CF.seq (CF.region ?_)))
  refine LF.step (OpOk.fieldAddr (Try.fld27_2) rfl) ?_
  refine LF.step (OpOk.ldBx hb3 Try.one25 rfl rfl) ?_
  refine LF.step (OpOk.assign rfl) (LF.nil (PF.next (CF.seq (CF.region ?_))))
  refine LF.step (OpOk.makeFunc1 rfl) ?_
  refine LF.step (OpOk.assign rfl) (LF.nil (PF.next (CF.seq (CF.region (LF.step (OpOk.assign rfl) (LF.step (OpOk.assign rfl) (LF.nil (PF.next (CF.seq ?_)))))))))
  refine CF.label ?_
  refine PF.next (CF.seq (CF.block ?_))
  have x9003 := (fun (H9 : Heap) (_ : InH F H9) => (Gl.nil F H9 H.size : Gl rEvent 75 F H9 H.size (.slice none 0 0) [])) _ hin
  have ap9003_24 : ∀ k9, (Value.slice none 0 0).ownBlock = some k9 → (v24 : Value).ownBlock ≠ some k9 := fun _ h9 => by cases h9
  have ap24_9003 := ap_sym ap9003_24
  have ap9003_26 : ∀ k9, (Value.slice none 0 0).ownBlock = some k9 → (.slice (some ⟨g26, 0, none⟩) 8192 8192 : Value).ownBlock ≠ some k9 := fun _ h9 => by cases h9
  have ap26_9003 := ap_sym ap9003_26
  refine CF.loop (ι := Nat × Int × Int × List Int × List Int × List D.Event × List Int × Int × Value × Value × PH) (fun z9 H1 => 0 < z9.1 ∧ runM m i = blockRun m.Blocks i.Steps z9.1 z9.2.1 z9.2.2.1 z9.2.2.2.1 z9.2.2.2.2.1 z9.2.2.2.2.2.1 z9.2.2.2.2.2.2.1 z9.2.2.2.2.2.2.2.1 ∧ (0 ≤ z9.2.1 ∧ z9.2.1 < m.Blocks.length) ∧ (∀ p ∈ (ix m.Blocks (Int.toNat z9.2.1)).Phis, phiOk z9.2.2.1 8192 p) ∧ z9.2.2.2.1.length = 8192 ∧ z9.2.2.2.2.1.length ≤ 4096 ∧ 0 ≤ z9.2.2.2.2.2.2.2.1 ∧ z9.2.2.2.2.2.1.length ≤ z9.2.2.2.2.2.2.2.1 ∧ (z9.2.2.2.2.2.2.2.1 ≤ i.Steps ∨ z9.2.2.2.2.2.2.2.1 = 0) ∧ i.Steps - z9.2.2.2.2.2.2.2.1 < z9.1 ∧ (rL (rI .i32)).rv z9.2.2.2.2.2.2.2.2.2.2 z9.2.2.2.2.2.2.2.2.2.1 z9.2.2.2.2.2.2.1 ∧ PH.ext H F z9.2.2.2.2.2.2.2.2.2.2 ∧ PH.le F z9.2.2.2.2.2.2.2.2.2.2 ∧ InH z9.2.2.2.2.2.2.2.2.2.2 H1 ∧ Kp H.size H H1 ∧ Bx H1 g2 24 [.int .i64 m.Params, a0c1] ∧ z9.2.2.2.2.2.2.2.2.2.2 g2 = none ∧ Bx H1 g3 27 [a1c0, a1c1, a1c2, .int .i64 i.Steps] ∧ z9.2.2.2.2.2.2.2.2.2.2 g3 = none ∧ Bx H1 g4 33 [.int .i64 0, .int .i32 0, .slice none 0 0, .slice none 0 0, .int .i64 0] ∧ z9.2.2.2.2.2.2.2.2.2.2 g4 = none ∧ Bx H1 g5 33 [.int .i64 0, .int .i32 0, v24, z9.2.2.2.2.2.2.2.2.1, .int .i64 z9.2.2.2.2.2.2.2.1] ∧ z9.2.2.2.2.2.2.2.2.2.2 g5 = none ∧ Gl (rI .i32) 21 z9.2.2.2.2.2.2.2.2.2.2 H1 H.size v24 z9.2.2.2.2.1 ∧ Gl (rI .i32) 21 z9.2.2.2.2.2.2.2.2.2.2 H1 H.size (.slice (some ⟨g26, 0, none⟩) 8192 8192) z9.2.2.2.1 ∧ Gl rEvent 75 z9.2.2.2.2.2.2.2.2.2.2 H1 H.size z9.2.2.2.2.2.2.2.2.1 z9.2.2.2.2.2.1 ∧ (∀ k9, (v24 : Value).ownBlock = some k9 → (z9.2.2.2.2.2.2.2.2.1 : Value).ownBlock ≠ some k9) ∧ (∀ k9, (.slice (some ⟨g26, 0, none⟩) 8192 8192 : Value).ownBlock = some k9 → (z9.2.2.2.2.2.2.2.2.1 : Value).ownBlock ≠ some k9)) (fun z9 => [(2, .pointer (some ⟨g2, 0, none⟩)), (3, .pointer (some ⟨g3, 0, none⟩)), (4, .pointer (some ⟨g4, 0, none⟩)), (5, .pointer (some ⟨g5, 0, none⟩)), (6, .slice (some ⟨g26, 0, none⟩) 8192 8192), (7, z9.2.2.2.2.2.2.2.2.2.1), (8, .func (.func 27) #[] #[.pointer (some ⟨g5, 0, none⟩)]), (9, .int .i64 z9.2.1), (10, .int .i64 z9.2.2.1)]) (fun z9 => z9.1) (Int.toNat i.Steps + 1, 0, (-1), startR m i, memM i, [], i.Answers, 0, .slice none 0 0, a1c2, F) ⟨by dsimp only; omega, run_right hR, by dsimp only; omega, hW.from0, startR_len hW i, memM_len i, Int.le_refl _, by simp, by dsimp only; omega, by dsimp only; omega, p1c2, hx, PH.le.refl _, hin, hkp, hb2, ng2, hb3, ng3, hb4, ng4, hb5, ng5, x24, x33, x9003, ap24_9003, ap26_9003⟩ ⟨rfl, rfl, rfl, rfl, rfl, rfl, rfl, rfl, rfl, trivial⟩ ?_
  clear hx hin hkp hb2 ng2 hb3 ng3 hb4 ng4 hb5 ng5 x24 x33 x9003 ap24_9003 ap26_9003
  rintro ⟨f, ab, fb, rs, me, cl, an, s9, vc, va, Fl⟩ H1 ⟨hf, hrun, hat, hfr, hrl, hml, hs0, hcl, hst, hfu, han, hx, le0, hin, hkp, hb2, ng2, hb3, ng3, hb4, ng4, hb5, ng5, x24, x33, x9003, ap24_9003, ap26_9003⟩
  dsimp only at hf hrun hat hfr hrl hml hs0 hcl hst hfu han hin hkp hb2 ng2 hb3 ng3 hb4 ng4 hb5 ng5 x24 x33 x9003 ap24_9003 ap26_9003 ⊢
  have ap9003_24 := ap_sym ap24_9003
  have ap9003_26 := ap_sym ap26_9003
  refine CF.block (CF.seq (CF.region ?_))
  refine LF.step (OpOk.fieldAddr (Try.fld24_1) rfl) ?_
  refine LF.step (OpOk.ldBx hb2 Try.one22 rfl rfl) ?_
  refine LF.step (OpOk.move rfl) ?_
  refine LF.step (OpOk.idxL (i := (Int.toNat ab)) Try.underlying22 Try.sz61 (p0c1.up le0) rfl rfl (by omega) (by omega)) ?_
  refine LF.stepE (OpOk.ldA hin (rL.ix (p0c1.up le0) (Int.toNat ab) (by omega)) Try.agg61 Try.sz61 rfl) ?_
  intro v41 h41
  have h41k := rMBlock.any h41
  obtain ⟨v41c0, v41c1, v41c5, rfl, h41c0, h41c1, h41c5⟩ := rMBlock.open h41
  have h41c0q := rL.len2 h41c0
  have h41c1q := rL.len2 h41c1
  have h41c5q := rL.len2 h41c5
  refine LF.chg (OpCh.allocB Try.zero61 rfl) ?_
  rintro _ H11 ⟨g11, rfl, eg11, sg11, kg11, hb11⟩
  have ng11 := hin.nope (Nat.le_of_eq eg11.symm)
  have lg11 := hkp.1
  have zkg11 := kg11.1
  replace hin := hin.kp kg11
  replace hkp := hkp.trans (kg11.mono hkp.1)
  replace hb2 := hb2.kp kg11
  replace hb3 := hb3.kp kg11
  replace hb4 := hb4.kp kg11
  replace hb5 := hb5.kp kg11
  replace x24 := x24.kp kg11
  replace x33 := x33.kp kg11
  replace x9003 := x9003.kp kg11
  clear kg11
  refine LF.chg0 (OpCh.storeBA hb11 Try.sz61 rfl rfl rfl (allOne.mem (l := [v41c0, v41c1, .int .i64 (((ix m.Blocks (Int.toNat ab)).End).Op), .int .i64 (((ix m.Blocks (Int.toNat ab)).End).A), .int .i64 (((ix m.Blocks (Int.toNat ab)).End).B), v41c5, .int .i32 (((ix m.Blocks (Int.toNat ab)).End).Imm)]) ⟨(h41c0.one1), (h41c1.one1), rfl, rfl, rfl, (h41c5.one1), rfl, trivial⟩) (by decide)) ?_
  rintro _ Hw3 ⟨tw3, bw3⟩
  have ztw3 := tw3.1
  replace hin := hin.tw tw3 ng11
  replace hkp := Tw.kp' hkp tw3 (by omega)
  replace hb2 := hb2.tw tw3 (Bx.ne hb2 hb11 (by decide))
  replace hb3 := hb3.tw tw3 (Bx.ne hb3 hb11 (by decide))
  replace hb4 := hb4.tw tw3 (Bx.ne hb4 hb11 (by decide))
  replace hb5 := hb5.tw tw3 (Bx.ne hb5 hb11 (by decide))
  replace x24 := x24.tw tw3 (x24.neBx hb11 (by decide))
  replace x33 := x33.tw tw3 (x33.neBx hb11 (by decide))
  replace x9003 := x9003.tw tw3 (x9003.neBx hb11 (by decide))
  replace hb11 : Bx _ _ _ [v41c0, v41c1, .int .i64 (((ix m.Blocks (Int.toNat ab)).End).Op), .int .i64 (((ix m.Blocks (Int.toNat ab)).End).A), .int .i64 (((ix m.Blocks (Int.toNat ab)).End).B), v41c5, .int .i32 (((ix m.Blocks (Int.toNat ab)).End).Imm)] := bw3
  clear bw3 tw3
  refine LF.nil (PF.next (CF.seq (CF.region ?_)))
  refine LF.step (OpOk.fieldAddr (Try.fld61_0) rfl) ?_
  refine LF.step (OpOk.ldBx hb11 Try.one58 rfl rfl) ?_
  refine LF.step (OpOk.move rfl) (LF.step (OpOk.move rfl) ?_)
  refine LF.call (OpCall.fn Try.ent28 rfl rfl) (pPhis_ct hin h41c0 fb x33 (by omega) (by rw [hrl]; exact hfr)) ?_
  rintro _ H46 ⟨rfl, k46, x46_2⟩
  have zk46 := k46.1
  replace hin := hin.kw k46 (by intro k0 hk0; exact x33.no k0 hk0)
  replace hb2 := hb2.kw k46 (x33.neBx hb2 (by decide))
  replace hb3 := hb3.kw k46 (x33.neBx hb3 (by decide))
  replace hb4 := hb4.kw k46 (x33.neBx hb4 (by decide))
  replace hb5 := hb5.kw k46 (x33.neBx hb5 (by decide))
  replace hb11 := hb11.kw k46 (x33.neBx hb11 (by decide))
  replace x24 := x24.kw k46 (ap24_26)
  replace x9003 := x9003.kw k46 (ap9003_26)
  replace hkp := hkp.kw k46 (by intro k0 hk0; exact x33.ge k0 hk0)
  replace x33 := x46_2
  refine LF.nil (PF.next (CF.seq (CF.seq (CF.region ?_))))
  refine LF.step (OpOk.fieldAddr (Try.fld61_1) rfl) ?_
  refine LF.step (OpOk.ldBx hb11 Try.one59 rfl rfl) ?_
  refine LF.step (OpOk.lenL Try.underlying59 h41c1 rfl) ?_
  refine LF.step (OpOk.move rfl) (LF.nil (PF.next (CF.block ?_)))
  refine CF.loop (ι := Nat × List Int × List Int × List D.Event × List Int × Int × Value × Value × PH) (fun z9 H1 => z9.1 ≤ (ix m.Blocks (Int.toNat ab)).Ins.length ∧ runM m i = insRun i.Steps (endRun i.Steps (ix m.Blocks (Int.toNat ab)).End (fun t => blockRun m.Blocks i.Steps (f - 1) t ab)) ((ix m.Blocks (Int.toNat ab)).Ins.drop z9.1) z9.2.1 z9.2.2.1 z9.2.2.2.1 z9.2.2.2.2.1 z9.2.2.2.2.2.1 ∧ z9.2.1.length = 8192 ∧ z9.2.2.1.length ≤ 4096 ∧ s9 ≤ z9.2.2.2.2.2.1 ∧ z9.2.2.2.1.length ≤ z9.2.2.2.2.2.1 ∧ (z9.2.2.2.2.2.1 ≤ i.Steps ∨ z9.2.2.2.2.2.1 = 0) ∧ (rL (rI .i32)).rv z9.2.2.2.2.2.2.2.2 z9.2.2.2.2.2.2.2.1 z9.2.2.2.2.1 ∧ PH.ext H F z9.2.2.2.2.2.2.2.2 ∧ PH.le Fl z9.2.2.2.2.2.2.2.2 ∧ InH z9.2.2.2.2.2.2.2.2 H1 ∧ Kp H.size H H1 ∧ Bx H1 g2 24 [.int .i64 m.Params, a0c1] ∧ z9.2.2.2.2.2.2.2.2 g2 = none ∧ Bx H1 g3 27 [a1c0, a1c1, a1c2, .int .i64 i.Steps] ∧ z9.2.2.2.2.2.2.2.2 g3 = none ∧ Bx H1 g4 33 [.int .i64 0, .int .i32 0, .slice none 0 0, .slice none 0 0, .int .i64 0] ∧ z9.2.2.2.2.2.2.2.2 g4 = none ∧ Bx H1 g5 33 [.int .i64 0, .int .i32 0, v24, z9.2.2.2.2.2.2.1, .int .i64 z9.2.2.2.2.2.1] ∧ z9.2.2.2.2.2.2.2.2 g5 = none ∧ Bx H1 g11 61 [v41c0, v41c1, .int .i64 (((ix m.Blocks (Int.toNat ab)).End).Op), .int .i64 (((ix m.Blocks (Int.toNat ab)).End).A), .int .i64 (((ix m.Blocks (Int.toNat ab)).End).B), v41c5, .int .i32 (((ix m.Blocks (Int.toNat ab)).End).Imm)] ∧ z9.2.2.2.2.2.2.2.2 g11 = none ∧ Gl (rI .i32) 21 z9.2.2.2.2.2.2.2.2 H1 H.size v24 z9.2.2.1 ∧ Gl (rI .i32) 21 z9.2.2.2.2.2.2.2.2 H1 H.size (.slice (some ⟨g26, 0, none⟩) 8192 8192) z9.2.1 ∧ Gl rEvent 75 z9.2.2.2.2.2.2.2.2 H1 H.size z9.2.2.2.2.2.2.1 z9.2.2.2.1 ∧ (∀ k9, (v24 : Value).ownBlock = some k9 → (z9.2.2.2.2.2.2.1 : Value).ownBlock ≠ some k9) ∧ (∀ k9, (.slice (some ⟨g26, 0, none⟩) 8192 8192 : Value).ownBlock = some k9 → (z9.2.2.2.2.2.2.1 : Value).ownBlock ≠ some k9)) (fun z9 => [(2, .pointer (some ⟨g2, 0, none⟩)), (3, .pointer (some ⟨g3, 0, none⟩)), (4, .pointer (some ⟨g4, 0, none⟩)), (5, .pointer (some ⟨g5, 0, none⟩)), (6, .slice (some ⟨g26, 0, none⟩) 8192 8192), (7, z9.2.2.2.2.2.2.2.1), (8, .func (.func 27) #[] #[.pointer (some ⟨g5, 0, none⟩)]), (9, .int .i64 ab), (10, .int .i64 fb), (11, .pointer (some ⟨g11, 0, none⟩)), (48, v41c1), (49, .int .i64 (↑(List.length ((ix m.Blocks (Int.toNat ab)).Ins)))), (50, .int .i64 (↑z9.1))]) (fun z9 => (ix m.Blocks (Int.toNat ab)).Ins.length - z9.1) (0, phisM ((ix m.Blocks (Int.toNat ab)).Phis) fb rs, me, cl, an, s9, vc, va, Fl) ⟨by dsimp only; omega, by dsimp only; rw [hrun, blockRun_pos hf]; rfl, by dsimp only; rw [phisM_len]; exact hrl, hml, by dsimp only; omega, hcl, hst, han, hx, PH.le.refl _, hin, hkp, hb2, ng2, hb3, ng3, hb4, ng4, hb5, ng5, hb11, ng11, x24, x33, x9003, ap24_9003, ap26_9003⟩ ⟨rfl, rfl, rfl, rfl, rfl, rfl, rfl, rfl, rfl, rfl, rfl, rfl, eqI (by omega), trivial⟩ ?_
  clear hx hin hkp hb2 ng2 hb3 ng3 hb4 ng4 hb5 ng5 hb11 ng11 x24 x33 x9003 ap24_9003 ap26_9003
  rintro ⟨k, rs2, me2, cl2, an2, s2, vc2, va2, Fm⟩ H1 ⟨hk, hI, hrl2, hml2, hss, hcl2, hst2, han2, hx, le1, hin, hkp, hb2, ng2, hb3, ng3, hb4, ng4, hb5, ng5, hb11, ng11, x24, x33, x9003, ap24_9003, ap26_9003⟩
  dsimp only at hk hI hrl2 hml2 hss hcl2 hst2 han2 hin hkp hb2 ng2 hb3 ng3 hb4 ng4 hb5 ng5 hb11 ng11 x24 x33 x9003 ap24_9003 ap26_9003 ⊢
  replace le0 := le0.trans le1
  have ap9003_24 := ap_sym ap24_9003
  have ap9003_26 := ap_sym ap26_9003
  have han2q := rL.len han2
  refine CF.seq (CF.region ?_)
  refine LF.step (OpOk.lss rfl rfl) ?_
  refine LF.nil (PF.next (CF.seq ?_))
  refine CF.if rfl (fun hc2 => ?_) (fun hc2 => ?_)
  refine CF.skip (PF.next (CF.seq (CF.block (CF.seq (CF.region ?_)))))
  refine LF.step (OpOk.idxL (i := k) Try.underlying59 Try.sz40 (h41c1.up le1) rfl rfl rfl (by omega)) ?_
  refine LF.stepE (OpOk.ldA hin (rL.ix (h41c1.up le1) k (by omega)) Try.agg40 Try.sz40 rfl) ?_
  intro v53 h53
  have h53k := rMach.any h53
  obtain ⟨v53c7, rfl, h53c7⟩ := rMach.open h53
  have h53c7q := rL.len2 h53c7
  refine LF.chg (OpCh.allocB Try.zero40 rfl) ?_
  rintro _ H13 ⟨g13, rfl, eg13, sg13, kg13, hb13⟩
  have ng13 := hin.nope (Nat.le_of_eq eg13.symm)
  have lg13 := hkp.1
  have zkg13 := kg13.1
  replace hin := hin.kp kg13
  replace hkp := hkp.trans (kg13.mono hkp.1)
  replace hb2 := hb2.kp kg13
  replace hb3 := hb3.kp kg13
  replace hb4 := hb4.kp kg13
  replace hb5 := hb5.kp kg13
  replace hb11 := hb11.kp kg13
  replace x24 := x24.kp kg13
  replace x33 := x33.kp kg13
  replace x9003 := x9003.kp kg13
  clear kg13
  refine LF.chg0 (OpCh.storeBA hb13 Try.sz40 rfl rfl rfl (allOne.mem (l := [.int .i64 ((ix ((ix m.Blocks (Int.toNat ab)).Ins) k).Op), .int .i64 ((ix ((ix m.Blocks (Int.toNat ab)).Ins) k).D), .int .i64 ((ix ((ix m.Blocks (Int.toNat ab)).Ins) k).E), .int .i64 ((ix ((ix m.Blocks (Int.toNat ab)).Ins) k).A), .int .i64 ((ix ((ix m.Blocks (Int.toNat ab)).Ins) k).B), .int .i64 ((ix ((ix m.Blocks (Int.toNat ab)).Ins) k).C), .int .i32 ((ix ((ix m.Blocks (Int.toNat ab)).Ins) k).Imm), v53c7]) ⟨rfl, rfl, rfl, rfl, rfl, rfl, rfl, (h53c7.one1), trivial⟩) (by decide)) ?_
  rintro _ Hw4 ⟨tw4, bw4⟩
  have ztw4 := tw4.1
  replace hin := hin.tw tw4 ng13
  replace hkp := Tw.kp' hkp tw4 (by omega)
  replace hb2 := hb2.tw tw4 (Bx.ne hb2 hb13 (by decide))
  replace hb3 := hb3.tw tw4 (Bx.ne hb3 hb13 (by decide))
  replace hb4 := hb4.tw tw4 (Bx.ne hb4 hb13 (by decide))
  replace hb5 := hb5.tw tw4 (Bx.ne hb5 hb13 (by decide))
  replace hb11 := hb11.tw tw4 (Bx.ne hb11 hb13 (by decide))
  replace x24 := x24.tw tw4 (x24.neBx hb13 (by decide))
  replace x33 := x33.tw tw4 (x33.neBx hb13 (by decide))
  replace x9003 := x9003.tw tw4 (x9003.neBx hb13 (by decide))
  replace hb13 : Bx _ _ _ [.int .i64 ((ix ((ix m.Blocks (Int.toNat ab)).Ins) k).Op), .int .i64 ((ix ((ix m.Blocks (Int.toNat ab)).Ins) k).D), .int .i64 ((ix ((ix m.Blocks (Int.toNat ab)).Ins) k).E), .int .i64 ((ix ((ix m.Blocks (Int.toNat ab)).Ins) k).A), .int .i64 ((ix ((ix m.Blocks (Int.toNat ab)).Ins) k).B), .int .i64 ((ix ((ix m.Blocks (Int.toNat ab)).Ins) k).C), .int .i32 ((ix ((ix m.Blocks (Int.toNat ab)).Ins) k).Imm), v53c7] := bw4
  clear bw4 tw4
  refine LF.nil (PF.next (CF.seq (CF.seq (CF.region ?_))))
  refine LF.step (OpOk.fieldAddr (Try.fld33_4) rfl) ?_
  refine LF.step (OpOk.ldBx hb5 Try.one3 rfl rfl) ?_
  refine LF.step (OpOk.fieldAddr (Try.fld27_3) rfl) ?_
  refine LF.step (OpOk.ldBx hb3 Try.one3 rfl rfl) ?_
  refine LF.step (OpOk.geq rfl rfl) ?_
  refine LF.nil (PF.next ?_)
  refine CF.if rfl (fun hc3 => ?_) (fun hc3 => ?_)
  refine CF.exit (PF.thenExit (PF.blockOther (PF.thenExit (PF.thenExit (PF.blockOther (PF.thenExit (PF.blockOther (PF.thenExit (PF.blockHere (PF.next (CF.seq ?_)))))))))))
  refine CF.region (LF.step (OpOk.move rfl) ?_)
  refine LF.call (OpCall.fnc Try.ent27 rfl rfl) (pStop_ct hin 3 0 hb5 ng5 x24.one1 x9003.one1) ?_
  rintro _ H161 ⟨rfl, k161⟩
  have zk161 := k161.1
  replace hin := hin.kw k161 (by rintro k0 rfl; exact ng5)
  replace hb2 := hb2.kw k161 (by show ¬ _ = _; first | omega | exact Bx.ne hb2 hb5 (by decide))
  replace hb3 := hb3.kw k161 (by show ¬ _ = _; first | omega | exact Bx.ne hb3 hb5 (by decide))
  replace hb4 := hb4.kw k161 (by show ¬ _ = _; first | omega | exact Bx.ne hb4 hb5 (by decide))
  replace hb11 := hb11.kw k161 (by show ¬ _ = _; first | omega | exact Bx.ne hb11 hb5 (by decide))
  replace hb13 := hb13.kw k161 (by show ¬ _ = _; first | omega | exact Bx.ne hb13 hb5 (by decide))
  replace x24 := x24.kw k161 (by intro k0 h9 e9; subst e9; exact x24.neBx hb5 (by decide) h9)
  replace x33 := x33.kw k161 (by intro k0 h9 e9; subst e9; exact x33.neBx hb5 (by decide) h9)
  replace x9003 := x9003.kw k161 (by intro k0 h9 e9; subst e9; exact x9003.neBx hb5 (by decide) h9)
  replace hkp := hkp.kw k161 (by rintro k0 rfl; omega)
  refine LF.chg0 (OpCh.storeBA hb4 Try.sz33 rfl rfl rfl (allOne.mem (l := [.int .i64 3, .int .i32 0, v24, vc2, .int .i64 s2]) ⟨rfl, rfl, x24.one1, x9003.one1, rfl, trivial⟩) (by decide)) ?_
  rintro _ Hw5 ⟨tw5, bw5⟩
  have ztw5 := tw5.1
  replace hin := hin.tw tw5 ng4
  replace hkp := Tw.kp' hkp tw5 (by omega)
  replace hb2 := hb2.tw tw5 (Bx.ne hb2 hb4 (by decide))
  replace hb3 := hb3.tw tw5 (Bx.ne hb3 hb4 (by decide))
  replace hb11 := hb11.tw tw5 (Bx.ne hb11 hb4 (by decide))
  replace hb13 := hb13.tw tw5 (Bx.ne hb13 hb4 (by decide))
  replace x24 := x24.tw tw5 (x24.neBx hb4 (by decide))
  replace x33 := x33.tw tw5 (x33.neBx hb4 (by decide))
  replace x9003 := x9003.tw tw5 (x9003.neBx hb4 (by decide))
  replace hb4 : Bx _ _ _ [.int .i64 3, .int .i32 0, v24, vc2, .int .i64 s2] := bw5
  clear bw5 tw5
  refine LF.nil (PF.next (CF.ret ?_))
  refine PF.scope ?_ (by simp)
  obtain ⟨Fz6, hxz6, lez6, hinz6, noz6, hrz6⟩ := x24.freezeX hin hx (Nat.le_refl _) (by first | omega | (rw [(stepM_len _ _ _).2]; omega))
  replace hin := hinz6
  replace hx := hxz6
  replace le0 := le0.trans lez6
  replace le1 := le1.trans lez6
  have le2 := lez6
  replace ng2 := (noz6 _ (x24.neBx hb2 (by decide))).trans ng2
  replace ng3 := (noz6 _ (x24.neBx hb3 (by decide))).trans ng3
  replace ng4 := (noz6 _ (x24.neBx hb4 (by decide))).trans ng4
  replace ng11 := (noz6 _ (x24.neBx hb11 (by decide))).trans ng11
  replace ng13 := (noz6 _ (x24.neBx hb13 (by decide))).trans ng13
  replace x33 := x33.frozen lez6 noz6 ap26_24
  replace x9003 := x9003.frozen lez6 noz6 ap9003_24
  obtain ⟨Fz7, hxz7, lez7, hinz7, noz7, hrz7⟩ := x9003.freezeX hin hx (Nat.le_refl _) (by first | (simp only [List.length_append, List.length_take, List.length_drop, List.length_nil, List.length_cons, List.length_set, List.length_replicate]; omega) | (simp; done) | (simp; omega) | omega)
  replace hin := hinz7
  replace hx := hxz7
  replace le0 := le0.trans lez7
  replace le1 := le1.trans lez7
  replace le2 := le2.trans lez7
  have le3 := lez7
  replace ng2 := (noz7 _ (x9003.neBx hb2 (by decide))).trans ng2
  replace ng3 := (noz7 _ (x9003.neBx hb3 (by decide))).trans ng3
  replace ng4 := (noz7 _ (x9003.neBx hb4 (by decide))).trans ng4
  replace ng11 := (noz7 _ (x9003.neBx hb11 (by decide))).trans ng11
  replace ng13 := (noz7 _ (x9003.neBx hb13 (by decide))).trans ng13
  replace x33 := x33.frozen lez7 noz7 ap26_9003
  have hm : runM m i = (⟨3, 0, me2, cl2, s2⟩) := by
    first | exact run_wrong (by simpa using hc1) | exact ins_stop hI (by omega) hc3 | exact ins_trap hI (by omega) hc3 hc4 (by simpa using hc7) | exact end_stop hI (by omega) hc8 | exact end_ret hI (by omega) hc8 hc9 | exact end_trap hI (by omega) hc8 hc9 hc10
  exact PF.retC rfl rfl hb4 Try.agg33 Try.sz33 ⟨_, hx, hin, hkp, by rw [hm]; exact (rOutcome.mk (m := ⟨3, 0, me2, cl2, s2⟩) (hrz6.up le3) hrz7 (by decide : IntKind.i64.wrap 3 = 3) (by decide : IntKind.i32.wrap 0 = 0) (IntWalk.i64_in s2 (by omega)))⟩
  have hNi := hc3
  refine CF.skip (PF.next (CF.seq (CF.region ?_)))
  refine LF.step (OpOk.fieldAddr (Try.fld33_4) rfl) ?_
  refine LF.step (OpOk.ldBx hb5 Try.one3 rfl rfl) ?_
  refine LF.step (OpOk.add rfl rfl (by omega)) ?_
  refine LF.step (OpOk.fieldAddr (Try.fld33_4) rfl) ?_
  refine LF.chg0 (OpCh.storeB hb5 Try.sz3 rfl rfl rfl (by first | decide | (simp; done))) ?_
  rintro _ Hw8 ⟨tw8, bw8⟩
  have ztw8 := tw8.1
  replace hin := hin.tw tw8 ng5
  replace hkp := Tw.kp' hkp tw8 (by omega)
  replace hb2 := hb2.tw tw8 (Bx.ne hb2 hb5 (by decide))
  replace hb3 := hb3.tw tw8 (Bx.ne hb3 hb5 (by decide))
  replace hb4 := hb4.tw tw8 (by first | omega | assumption | exact Ne.symm (by assumption))
  replace hb11 := hb11.tw tw8 (Bx.ne hb11 hb5 (by decide))
  replace hb13 := hb13.tw tw8 (Bx.ne hb13 hb5 (by decide))
  replace x24 := x24.tw tw8 (x24.neBx hb5 (by decide))
  replace x33 := x33.tw tw8 (x33.neBx hb5 (by decide))
  replace x9003 := x9003.tw tw8 (x9003.neBx hb5 (by decide))
  replace hb5 : Bx _ _ _ [.int .i64 0, .int .i32 0, v24, vc2, .int .i64 (s2 + 1)] := bw8
  clear bw8 tw8
  refine LF.nil (PF.next (CF.seq (CF.seq (CF.region ?_))))
  refine LF.step (OpOk.fieldAddr (Try.fld40_0) rfl) ?_
  refine LF.step (OpOk.ldBx hb13 Try.one3 rfl rfl) ?_
  refine LF.step (OpOk.eql rfl rfl) ?_
  refine LF.nil (PF.next ?_)
  refine CF.if rfl (fun hc4 => ?_) (fun hc4 => ?_)
  have h28 := hc4
  have hi28 := hW.ins _ (ix_mem (l := m.Blocks) (i := Int.toNat ab) (by omega)) _ (ix_mem (l := (ix m.Blocks (Int.toNat ab)).Ins) (i := k) (by omega)) hc4
  obtain ⟨hD0, hD1, hA4, hAr⟩ := hi28
  refine CF.seq (CF.region ?_)
  refine LF.step (OpOk.fieldAddr (Try.fld40_6) rfl) ?_
  refine LF.step (OpOk.ldBx hb13 Try.one21 rfl rfl) ?_
  refine LF.step (OpOk.build (v := .agg #[.int .i32 ((ix ((ix m.Blocks (Int.toNat ab)).Ins) k).Imm), .slice none 0 0]) rfl (fun w => by kernel_rfl)) ?_
  refine LF.chg (OpCh.allocB Try.zero75 rfl) ?_
  rintro _ H14 ⟨g14, rfl, eg14, sg14, kg14, hb14⟩
  have ng14 := hin.nope (Nat.le_of_eq eg14.symm)
  have lg14 := hkp.1
  have nq9003_14 : (vc2 : Value).ownBlock ≠ some g14 := fun h9 => by have := x9003.lt _ h9; omega
  have zkg14 := kg14.1
  replace hin := hin.kp kg14
  replace hkp := hkp.trans (kg14.mono hkp.1)
  replace hb2 := hb2.kp kg14
  replace hb3 := hb3.kp kg14
  replace hb4 := hb4.kp kg14
  replace hb5 := hb5.kp kg14
  replace hb11 := hb11.kp kg14
  replace hb13 := hb13.kp kg14
  replace x24 := x24.kp kg14
  replace x33 := x33.kp kg14
  replace x9003 := x9003.kp kg14
  clear kg14
  refine LF.chg0 (OpCh.storeBA hb14 Try.sz75 rfl rfl rfl (allOne.mem (l := [.int .i32 ((ix ((ix m.Blocks (Int.toNat ab)).Ins) k).Imm), .slice none 0 0]) ⟨rfl, rfl, trivial⟩) (by decide)) ?_
  rintro _ Hw9 ⟨tw9, bw9⟩
  have ztw9 := tw9.1
  replace hin := hin.tw tw9 ng14
  replace hkp := Tw.kp' hkp tw9 (by omega)
  replace hb2 := hb2.tw tw9 (Bx.ne hb2 hb14 (by decide))
  replace hb3 := hb3.tw tw9 (Bx.ne hb3 hb14 (by decide))
  replace hb4 := hb4.tw tw9 (Bx.ne hb4 hb14 (by decide))
  replace hb5 := hb5.tw tw9 (Bx.ne hb5 hb14 (by decide))
  replace hb11 := hb11.tw tw9 (Bx.ne hb11 hb14 (by decide))
  replace hb13 := hb13.tw tw9 (Bx.ne hb13 hb14 (by decide))
  replace x24 := x24.tw tw9 (x24.neBx hb14 (by decide))
  replace x33 := x33.tw tw9 (x33.neBx hb14 (by decide))
  replace x9003 := x9003.tw tw9 (by first | exact x9003.neLt (by omega) | exact nq9003_14)
  replace hb14 : Bx _ _ _ [.int .i32 ((ix ((ix m.Blocks (Int.toNat ab)).Ins) k).Imm), .slice none 0 0] := bw9
  clear bw9 tw9
  refine LF.nil (PF.next (CF.seq (CF.seq (CF.region ?_))))
  refine LF.step (OpOk.fieldAddr (Try.fld40_7) rfl) ?_
  refine LF.step (OpOk.ldBx hb13 Try.one38 rfl rfl) ?_
  refine LF.step (OpOk.lenL Try.underlying38 h53c7 rfl) ?_
  refine LF.step (OpOk.move rfl) (LF.nil (PF.next (CF.block ?_)))
  have x9014 := (fun (H9 : Heap) (_ : InH Fm H9) => (Gl.nil Fm H9 H.size : Gl (rI .i32) 21 Fm H9 H.size (.slice none 0 0) [])) _ hin
  have ap9014_24 : ∀ k9, (Value.slice none 0 0).ownBlock = some k9 → (v24 : Value).ownBlock ≠ some k9 := fun _ h9 => by cases h9
  have ap24_9014 := ap_sym ap9014_24
  have ap9014_26 : ∀ k9, (Value.slice none 0 0).ownBlock = some k9 → (.slice (some ⟨g26, 0, none⟩) 8192 8192 : Value).ownBlock ≠ some k9 := fun _ h9 => by cases h9
  have ap26_9014 := ap_sym ap9014_26
  have ap9014_9003 : ∀ k9, (Value.slice none 0 0).ownBlock = some k9 → (vc2 : Value).ownBlock ≠ some k9 := fun _ h9 => by cases h9
  have ap9003_9014 := ap_sym ap9014_9003
  refine CF.loop (ι := Nat × List Int × Value) (fun z9 H1 => z9.1 ≤ (ix (ix m.Blocks (Int.toNat ab)).Ins k).Args.length ∧ z9.2.1 = ((ix (ix m.Blocks (Int.toNat ab)).Ins k).Args.take z9.1).map (fun r => ix rs2 (Int.toNat r)) ∧ InH Fm H1 ∧ Kp H.size H H1 ∧ Bx H1 g2 24 [.int .i64 m.Params, a0c1] ∧ Bx H1 g3 27 [a1c0, a1c1, a1c2, .int .i64 i.Steps] ∧ Bx H1 g4 33 [.int .i64 0, .int .i32 0, .slice none 0 0, .slice none 0 0, .int .i64 0] ∧ Bx H1 g5 33 [.int .i64 0, .int .i32 0, v24, vc2, .int .i64 (s2 + 1)] ∧ Bx H1 g11 61 [v41c0, v41c1, .int .i64 (((ix m.Blocks (Int.toNat ab)).End).Op), .int .i64 (((ix m.Blocks (Int.toNat ab)).End).A), .int .i64 (((ix m.Blocks (Int.toNat ab)).End).B), v41c5, .int .i32 (((ix m.Blocks (Int.toNat ab)).End).Imm)] ∧ Bx H1 g13 40 [.int .i64 ((ix ((ix m.Blocks (Int.toNat ab)).Ins) k).Op), .int .i64 ((ix ((ix m.Blocks (Int.toNat ab)).Ins) k).D), .int .i64 ((ix ((ix m.Blocks (Int.toNat ab)).Ins) k).E), .int .i64 ((ix ((ix m.Blocks (Int.toNat ab)).Ins) k).A), .int .i64 ((ix ((ix m.Blocks (Int.toNat ab)).Ins) k).B), .int .i64 ((ix ((ix m.Blocks (Int.toNat ab)).Ins) k).C), .int .i32 ((ix ((ix m.Blocks (Int.toNat ab)).Ins) k).Imm), v53c7] ∧ Bx H1 g14 75 [.int .i32 ((ix ((ix m.Blocks (Int.toNat ab)).Ins) k).Imm), z9.2.2] ∧ Gl (rI .i32) 21 Fm H1 H.size v24 me2 ∧ Gl (rI .i32) 21 Fm H1 H.size (.slice (some ⟨g26, 0, none⟩) 8192 8192) rs2 ∧ Gl rEvent 75 Fm H1 H.size vc2 cl2 ∧ Gl (rI .i32) 21 Fm H1 H.size z9.2.2 z9.2.1 ∧ (∀ k9, (v24 : Value).ownBlock = some k9 → (z9.2.2 : Value).ownBlock ≠ some k9) ∧ (∀ k9, (.slice (some ⟨g26, 0, none⟩) 8192 8192 : Value).ownBlock = some k9 → (z9.2.2 : Value).ownBlock ≠ some k9) ∧ (∀ k9, (vc2 : Value).ownBlock = some k9 → (z9.2.2 : Value).ownBlock ≠ some k9)) (fun z9 => [(2, .pointer (some ⟨g2, 0, none⟩)), (3, .pointer (some ⟨g3, 0, none⟩)), (4, .pointer (some ⟨g4, 0, none⟩)), (5, .pointer (some ⟨g5, 0, none⟩)), (6, .slice (some ⟨g26, 0, none⟩) 8192 8192), (7, va2), (8, .func (.func 27) #[] #[.pointer (some ⟨g5, 0, none⟩)]), (9, .int .i64 ab), (10, .int .i64 fb), (11, .pointer (some ⟨g11, 0, none⟩)), (13, .pointer (some ⟨g13, 0, none⟩)), (14, .pointer (some ⟨g14, 0, none⟩)), (48, v41c1), (49, .int .i64 (↑(List.length ((ix m.Blocks (Int.toNat ab)).Ins)))), (50, .int .i64 (↑k)), (70, v53c7), (71, .int .i64 (↑(List.length ((ix ((ix m.Blocks (Int.toNat ab)).Ins) k).Args)))), (72, .int .i64 (↑z9.1))]) (fun z9 => (ix (ix m.Blocks (Int.toNat ab)).Ins k).Args.length - z9.1) (0, [], .slice none 0 0) ⟨by dsimp only; omega, rfl, hin, hkp, hb2, hb3, hb4, hb5, hb11, hb13, hb14, x24, x33, x9003, x9014, ap24_9014, ap26_9014, ap9003_9014⟩ ⟨rfl, rfl, rfl, rfl, rfl, rfl, rfl, rfl, rfl, rfl, rfl, rfl, rfl, rfl, rfl, rfl, rfl, eqI (by omega), trivial⟩ ?_
  clear hin hkp hb2 hb3 hb4 hb5 hb11 hb13 hb14 x24 x33 x9003 x9014 ap24_9014 ap26_9014 ap9003_9014
  rintro ⟨j, ea, ve⟩ H1 ⟨hj, hea, hin, hkp, hb2, hb3, hb4, hb5, hb11, hb13, hb14, x24, x33, x9003, x9014, ap24_9014, ap26_9014, ap9003_9014⟩
  dsimp only at hj hea hb2 hb3 hb4 hb5 hb11 hb13 hb14 x24 x33 x9003 x9014 ap24_9014 ap26_9014 ap9003_9014 ⊢
  have ap9014_24 := ap_sym ap24_9014
  have ap9014_26 := ap_sym ap26_9014
  have ap9014_9003 := ap_sym ap9003_9014
  have hel : ea.length = j := by rw [hea]; simp; omega
  refine CF.seq (CF.region ?_)
  refine LF.step (OpOk.lss rfl rfl) ?_
  refine LF.nil (PF.next (CF.seq ?_))
  refine CF.if rfl (fun hc5 => ?_) (fun hc5 => ?_)
  have har := hAr _ (ix_mem (l := (ix (ix m.Blocks (Int.toNat ab)).Ins k).Args) (i := j) (by omega))
  refine CF.skip (PF.next (CF.seq (CF.block (CF.seq (CF.region ?_)))))
  refine LF.step (OpOk.idxL (i := j) Try.underlying38 Try.sz3 h53c7 rfl rfl rfl (by omega)) ?_
  refine LF.step (OpOk.ldI hin (rL.ix h53c7 j (by omega)) Try.one3 rfl) ?_
  refine LF.step (OpOk.assign rfl) (LF.nil (PF.next ?_))
  refine CF.any (fun H' => InH Fm H' ∧ Bx H' g2 24 [.int .i64 m.Params, a0c1] ∧ Bx H' g3 27 [a1c0, a1c1, a1c2, .int .i64 i.Steps] ∧ Bx H' g4 33 [.int .i64 0, .int .i32 0, .slice none 0 0, .slice none 0 0, .int .i64 0] ∧ Bx H' g5 33 [.int .i64 0, .int .i32 0, v24, vc2, .int .i64 (s2 + 1)] ∧ Bx H' g11 61 [v41c0, v41c1, .int .i64 (((ix m.Blocks (Int.toNat ab)).End).Op), .int .i64 (((ix m.Blocks (Int.toNat ab)).End).A), .int .i64 (((ix m.Blocks (Int.toNat ab)).End).B), v41c5, .int .i32 (((ix m.Blocks (Int.toNat ab)).End).Imm)] ∧ Bx H' g13 40 [.int .i64 ((ix ((ix m.Blocks (Int.toNat ab)).Ins) k).Op), .int .i64 ((ix ((ix m.Blocks (Int.toNat ab)).Ins) k).D), .int .i64 ((ix ((ix m.Blocks (Int.toNat ab)).Ins) k).E), .int .i64 ((ix ((ix m.Blocks (Int.toNat ab)).Ins) k).A), .int .i64 ((ix ((ix m.Blocks (Int.toNat ab)).Ins) k).B), .int .i64 ((ix ((ix m.Blocks (Int.toNat ab)).Ins) k).C), .int .i32 ((ix ((ix m.Blocks (Int.toNat ab)).Ins) k).Imm), v53c7] ∧ True) Try.mixed ?_
  refine AF.take 0 rfl (by kernel_rfl) (by kernel_rfl) (by kernel_rfl) ⟨hin, hb2, hb3, hb4, hb5, hb11, hb13, trivial⟩ (fun _ ⟨hin, hb2, hb3, hb4, hb5, hb11, hb13, _⟩ => OpOk.fieldAddr (Try.fld75_1) rfl) ?_
  refine AF.take 2 rfl (by kernel_rfl) (by kernel_rfl) (by kernel_rfl) ⟨hin, hb2, hb3, hb4, hb5, hb11, hb13, trivial⟩ (fun _ ⟨hin, hb2, hb3, hb4, hb5, hb11, hb13, _⟩ => OpOk.move rfl) ?_
  refine AF.take 3 rfl (by kernel_rfl) (by kernel_rfl) (by kernel_rfl) ⟨hin, hb2, hb3, hb4, hb5, hb11, hb13, trivial⟩ (fun _ ⟨hin, hb2, hb3, hb4, hb5, hb11, hb13, _⟩ => OpOk.move rfl) ?_
  refine AF.two 1 4 (by kernel_rfl) ?_ ?_
  refine AFN.step rfl (OpOk.ldBx hb14 Try.one25 rfl rfl) ⟨hin, hb2, hb3, hb4, hb5, hb11, hb13, trivial⟩ ?_
  refine AF.one 4 (by kernel_rfl) ?_
  refine AFN.step rfl (OpOk.idxG (i := (Int.toNat (ix ((ix ((ix m.Blocks (Int.toNat ab)).Ins) k).Args) j))) Try.underlying25 Try.sz21 x33 rfl rfl (by omega) (by first | omega | (simp only [List.length_replicate, List.length_set, List.length_append, List.length_cons, List.length_nil]; omega))) ⟨hin, hb2, hb3, hb4, hb5, hb11, hb13, trivial⟩ ?_
  refine AF.one 5 (by kernel_rfl) ?_
  refine AFN.step rfl (OpOk.ldGI x33 (by first | omega | (simp only [List.length_replicate, List.length_set, List.length_append, List.length_cons, List.length_nil]; omega)) Try.one21 rfl) ⟨hin, hb2, hb3, hb4, hb5, hb11, hb13, trivial⟩ ?_
  refine AF.one 6 (by kernel_rfl) ?_
  refine AFN.chg rfl (OpCh.litL (F := Fm) (r := (rI .i32)) (l := [ix rs2 (Int.toNat (ix ((ix ((ix m.Blocks (Int.toNat ab)).Ins) k).Args) j))]) (us := [.int .i32 (ix rs2 (Int.toNat (ix ((ix ((ix m.Blocks (Int.toNat ab)).Ins) k).Args) j)))]) (cs := [[.int .i32 (ix rs2 (Int.toNat (ix ((ix ((ix m.Blocks (Int.toNat ab)).Ins) k).Args) j)))]]) Try.underlying25 Try.info21 (by decide) rfl rfl rfl ⟨rfl, rfl, ⟨rfl, (Gl.wr x33 (by omega))⟩, trivial⟩) ?_
  rintro _ H82 ⟨g82, rfl, e82, s82, k82, x82⟩
  have l82 := hkp.1
  have ap24_82 := ap_new x24.lt (x82 hin).ge
  have ap26_82 := ap_new x33.lt (x82 hin).ge
  have ap9003_82 := ap_new x9003.lt (x82 hin).ge
  have ap9014_82 := ap_new x9014.lt (x82 hin).ge
  replace x82 := (x82 hin).base l82
  have zk82 := k82.1
  replace hin := hin.kp k82
  replace hkp := hkp.trans (k82.mono hkp.1)
  replace hb2 := hb2.kp k82
  replace hb3 := hb3.kp k82
  replace hb4 := hb4.kp k82
  replace hb5 := hb5.kp k82
  replace hb11 := hb11.kp k82
  replace hb13 := hb13.kp k82
  replace hb14 := hb14.kp k82
  replace x24 := x24.kp k82
  replace x33 := x33.kp k82
  replace x9003 := x9003.kp k82
  replace x9014 := x9014.kp k82
  have ap82_24 := ap_sym ap24_82
  have ap82_26 := ap_sym ap26_82
  have ap82_9003 := ap_sym ap9003_82
  have ap82_9014 := ap_sym ap9014_82
  refine ⟨⟨hin, hb2, hb3, hb4, hb5, hb11, hb13, trivial⟩, ?_⟩
  refine AF.one 7 (by kernel_rfl) ?_
  obtain ⟨u83, hu83, hr83⟩ := x82.cell0 (i := 0) (by simp) rfl
  refine AFN.chg rfl (OpCh.appG1 (r := (rI .i32)) (a := ix rs2 (Int.toNat (ix ((ix ((ix m.Blocks (Int.toNat ab)).Ins) k).Args) j))) Try.underlying25 Try.info21 (by decide) rfl rfl rfl rfl hu83 hr83 x9014 hin (by first | (simp only [List.length_append, List.length_take, List.length_drop, List.length_nil, List.length_cons, List.length_set, List.length_replicate]; omega) | (simp; done) | (simp; omega) | omega) (by omega)) ?_
  rintro v83 H83 ⟨x83, gb83, ob83⟩
  replace hin := hin.grown gb83 x9014.no
  replace hkp := gb83.kp hkp (Nat.le_refl _) (fun k0 hk0 => (x9014.blk k0 hk0).1)
  replace hb2 := hb2.of (gb83.2 _ hb2.lt (Ne.symm (by first | exact x9014.neBx hb2 (by decide) | exact nq9014_2)))
  replace hb3 := hb3.of (gb83.2 _ hb3.lt (Ne.symm (by first | exact x9014.neBx hb3 (by decide) | exact nq9014_3)))
  replace hb4 := hb4.of (gb83.2 _ hb4.lt (Ne.symm (by first | exact x9014.neBx hb4 (by decide) | exact nq9014_4)))
  replace hb5 := hb5.of (gb83.2 _ hb5.lt (Ne.symm (by first | exact x9014.neBx hb5 (by decide) | exact nq9014_5)))
  replace hb11 := hb11.of (gb83.2 _ hb11.lt (Ne.symm (by first | exact x9014.neBx hb11 (by decide) | exact nq9014_11)))
  replace hb13 := hb13.of (gb83.2 _ hb13.lt (Ne.symm (by first | exact x9014.neBx hb13 (by decide) | exact nq9014_13)))
  replace hb14 := hb14.of (gb83.2 _ hb14.lt (Ne.symm (by first | exact x9014.neBx hb14 (by decide) | exact nq9014_14)))
  have ap83_24 := ap_grow ap9014_24 x24.lt (ob_some ob83)
  have ap24_83 := ap_sym ap83_24
  replace x24 := x24.of (fun k0 hk0 => gb83.2 k0 (x24.blk k0 hk0).2 (fun e9 => ap9014_24 _ e9.symm hk0))
  have ap83_26 := ap_grow ap9014_26 x33.lt (ob_some ob83)
  have ap26_83 := ap_sym ap83_26
  replace x33 := x33.of (fun k0 hk0 => gb83.2 k0 (x33.blk k0 hk0).2 (fun e9 => ap9014_26 _ e9.symm hk0))
  have ap83_9003 := ap_grow ap9014_9003 x9003.lt (ob_some ob83)
  have ap9003_83 := ap_sym ap83_9003
  replace x9003 := x9003.of (fun k0 hk0 => gb83.2 k0 (x9003.blk k0 hk0).2 (fun e9 => ap9014_9003 _ e9.symm hk0))
  refine ⟨⟨hin, hb2, hb3, hb4, hb5, hb11, hb13, trivial⟩, ?_⟩
  refine AF.take 8 rfl (by kernel_rfl) (by kernel_rfl) (by kernel_rfl) ⟨hin, hb2, hb3, hb4, hb5, hb11, hb13, trivial⟩ (fun _ ⟨hin, hb2, hb3, hb4, hb5, hb11, hb13, _⟩ => OpOk.fieldAddr (Try.fld75_1) rfl) ?_
  refine AF.one 9 (by kernel_rfl) ?_
  refine AFN.chg0 rfl (OpCh.storeB hb14 Try.sz25 rfl rfl x83.one1 (by first | decide | (simp; done))) ?_
  rintro _ Hw10 ⟨tw10, bw10⟩
  have ztw10 := tw10.1
  replace hin := hin.tw tw10 ng14
  replace hkp := Tw.kp' hkp tw10 (by omega)
  replace hb2 := hb2.tw tw10 (Bx.ne hb2 hb14 (by decide))
  replace hb3 := hb3.tw tw10 (Bx.ne hb3 hb14 (by decide))
  replace hb4 := hb4.tw tw10 (Bx.ne hb4 hb14 (by decide))
  replace hb5 := hb5.tw tw10 (Bx.ne hb5 hb14 (by decide))
  replace hb11 := hb11.tw tw10 (Bx.ne hb11 hb14 (by decide))
  replace hb13 := hb13.tw tw10 (Bx.ne hb13 hb14 (by decide))
  replace x24 := x24.tw tw10 (x24.neBx hb14 (by decide))
  replace x33 := x33.tw tw10 (x33.neBx hb14 (by decide))
  replace x9003 := x9003.tw tw10 (by first | exact x9003.neLt (by omega) | exact nq9003_14)
  replace x83 := x83.tw tw10 (x83.neBx hb14 (by decide))
  replace hb14 : Bx _ _ _ [.int .i32 ((ix ((ix m.Blocks (Int.toNat ab)).Ins) k).Imm), v83] := bw10
  clear bw10 tw10
  refine ⟨⟨hin, hb2, hb3, hb4, hb5, hb11, hb13, trivial⟩, ?_⟩
  refine AF.done (by kernel_rfl) ?_
  refine PF.blockNormal (PF.next (CF.region ?_))
  refine LF.step (OpOk.add rfl rfl (by omega)) ?_
  refine LF.step (OpOk.move rfl) (LF.nil ?_)
  exact PF.again (j + 1, ea ++ ([ix rs2 (Int.toNat (ix ((ix ((ix m.Blocks (Int.toNat ab)).Ins) k).Args) j))]), v83) ⟨by dsimp only; omega, by dsimp only; rw [hea, take_ix (by omega), List.map_append]; rfl, hin, hkp, hb2, hb3, hb4, hb5, hb11, hb13, hb14, x24, x33, x9003, x83, ap24_83, ap26_83, ap9003_83⟩ ⟨rfl, rfl, rfl, rfl, rfl, rfl, rfl, rfl, rfl, rfl, rfl, rfl, rfl, rfl, rfl, rfl, rfl, eqI (by omega), trivial⟩ (by omega)
  refine AFN.step rfl (OpOk.idxG (i := (Int.toNat (ix ((ix ((ix m.Blocks (Int.toNat ab)).Ins) k).Args) j))) Try.underlying25 Try.sz21 x33 rfl rfl (by omega) (by first | omega | (simp only [List.length_replicate, List.length_set, List.length_append, List.length_cons, List.length_nil]; omega))) ⟨hin, hb2, hb3, hb4, hb5, hb11, hb13, trivial⟩ ?_
  refine AF.two 1 5 (by kernel_rfl) ?_ ?_
  refine AFN.step rfl (OpOk.ldBx hb14 Try.one25 rfl rfl) ⟨hin, hb2, hb3, hb4, hb5, hb11, hb13, trivial⟩ ?_
  refine AF.one 5 (by kernel_rfl) ?_
  refine AFN.step rfl (OpOk.ldGI x33 (by first | omega | (simp only [List.length_replicate, List.length_set, List.length_append, List.length_cons, List.length_nil]; omega)) Try.one21 rfl) ⟨hin, hb2, hb3, hb4, hb5, hb11, hb13, trivial⟩ ?_
  refine AF.one 6 (by kernel_rfl) ?_
  refine AFN.chg rfl (OpCh.litL (F := Fm) (r := (rI .i32)) (l := [ix rs2 (Int.toNat (ix ((ix ((ix m.Blocks (Int.toNat ab)).Ins) k).Args) j))]) (us := [.int .i32 (ix rs2 (Int.toNat (ix ((ix ((ix m.Blocks (Int.toNat ab)).Ins) k).Args) j)))]) (cs := [[.int .i32 (ix rs2 (Int.toNat (ix ((ix ((ix m.Blocks (Int.toNat ab)).Ins) k).Args) j)))]]) Try.underlying25 Try.info21 (by decide) rfl rfl rfl ⟨rfl, rfl, ⟨rfl, (Gl.wr x33 (by omega))⟩, trivial⟩) ?_
  rintro _ H82 ⟨g82, rfl, e82, s82, k82, x82⟩
  have l82 := hkp.1
  have ap24_82 := ap_new x24.lt (x82 hin).ge
  have ap26_82 := ap_new x33.lt (x82 hin).ge
  have ap9003_82 := ap_new x9003.lt (x82 hin).ge
  have ap9014_82 := ap_new x9014.lt (x82 hin).ge
  replace x82 := (x82 hin).base l82
  have zk82 := k82.1
  replace hin := hin.kp k82
  replace hkp := hkp.trans (k82.mono hkp.1)
  replace hb2 := hb2.kp k82
  replace hb3 := hb3.kp k82
  replace hb4 := hb4.kp k82
  replace hb5 := hb5.kp k82
  replace hb11 := hb11.kp k82
  replace hb13 := hb13.kp k82
  replace hb14 := hb14.kp k82
  replace x24 := x24.kp k82
  replace x33 := x33.kp k82
  replace x9003 := x9003.kp k82
  replace x9014 := x9014.kp k82
  have ap82_24 := ap_sym ap24_82
  have ap82_26 := ap_sym ap26_82
  have ap82_9003 := ap_sym ap9003_82
  have ap82_9014 := ap_sym ap9014_82
  refine ⟨⟨hin, hb2, hb3, hb4, hb5, hb11, hb13, trivial⟩, ?_⟩
  refine AF.one 7 (by kernel_rfl) ?_
  obtain ⟨u83, hu83, hr83⟩ := x82.cell0 (i := 0) (by simp) rfl
  refine AFN.chg rfl (OpCh.appG1 (r := (rI .i32)) (a := ix rs2 (Int.toNat (ix ((ix ((ix m.Blocks (Int.toNat ab)).Ins) k).Args) j))) Try.underlying25 Try.info21 (by decide) rfl rfl rfl rfl hu83 hr83 x9014 hin (by first | (simp only [List.length_append, List.length_take, List.length_drop, List.length_nil, List.length_cons, List.length_set, List.length_replicate]; omega) | (simp; done) | (simp; omega) | omega) (by omega)) ?_
  rintro v83 H83 ⟨x83, gb83, ob83⟩
  replace hin := hin.grown gb83 x9014.no
  replace hkp := gb83.kp hkp (Nat.le_refl _) (fun k0 hk0 => (x9014.blk k0 hk0).1)
  replace hb2 := hb2.of (gb83.2 _ hb2.lt (Ne.symm (by first | exact x9014.neBx hb2 (by decide) | exact nq9014_2)))
  replace hb3 := hb3.of (gb83.2 _ hb3.lt (Ne.symm (by first | exact x9014.neBx hb3 (by decide) | exact nq9014_3)))
  replace hb4 := hb4.of (gb83.2 _ hb4.lt (Ne.symm (by first | exact x9014.neBx hb4 (by decide) | exact nq9014_4)))
  replace hb5 := hb5.of (gb83.2 _ hb5.lt (Ne.symm (by first | exact x9014.neBx hb5 (by decide) | exact nq9014_5)))
  replace hb11 := hb11.of (gb83.2 _ hb11.lt (Ne.symm (by first | exact x9014.neBx hb11 (by decide) | exact nq9014_11)))
  replace hb13 := hb13.of (gb83.2 _ hb13.lt (Ne.symm (by first | exact x9014.neBx hb13 (by decide) | exact nq9014_13)))
  replace hb14 := hb14.of (gb83.2 _ hb14.lt (Ne.symm (by first | exact x9014.neBx hb14 (by decide) | exact nq9014_14)))
  have ap83_24 := ap_grow ap9014_24 x24.lt (ob_some ob83)
  have ap24_83 := ap_sym ap83_24
  replace x24 := x24.of (fun k0 hk0 => gb83.2 k0 (x24.blk k0 hk0).2 (fun e9 => ap9014_24 _ e9.symm hk0))
  have ap83_26 := ap_grow ap9014_26 x33.lt (ob_some ob83)
  have ap26_83 := ap_sym ap83_26
  replace x33 := x33.of (fun k0 hk0 => gb83.2 k0 (x33.blk k0 hk0).2 (fun e9 => ap9014_26 _ e9.symm hk0))
  have ap83_9003 := ap_grow ap9014_9003 x9003.lt (ob_some ob83)
  have ap9003_83 := ap_sym ap83_9003
  replace x9003 := x9003.of (fun k0 hk0 => gb83.2 k0 (x9003.blk k0 hk0).2 (fun e9 => ap9014_9003 _ e9.symm hk0))
  refine ⟨⟨hin, hb2, hb3, hb4, hb5, hb11, hb13, trivial⟩, ?_⟩
  refine AF.take 8 rfl (by kernel_rfl) (by kernel_rfl) (by kernel_rfl) ⟨hin, hb2, hb3, hb4, hb5, hb11, hb13, trivial⟩ (fun _ ⟨hin, hb2, hb3, hb4, hb5, hb11, hb13, _⟩ => OpOk.fieldAddr (Try.fld75_1) rfl) ?_
  refine AF.one 9 (by kernel_rfl) ?_
  refine AFN.chg0 rfl (OpCh.storeB hb14 Try.sz25 rfl rfl x83.one1 (by first | decide | (simp; done))) ?_
  rintro _ Hw11 ⟨tw11, bw11⟩
  have ztw11 := tw11.1
  replace hin := hin.tw tw11 ng14
  replace hkp := Tw.kp' hkp tw11 (by omega)
  replace hb2 := hb2.tw tw11 (Bx.ne hb2 hb14 (by decide))
  replace hb3 := hb3.tw tw11 (Bx.ne hb3 hb14 (by decide))
  replace hb4 := hb4.tw tw11 (Bx.ne hb4 hb14 (by decide))
  replace hb5 := hb5.tw tw11 (Bx.ne hb5 hb14 (by decide))
  replace hb11 := hb11.tw tw11 (Bx.ne hb11 hb14 (by decide))
  replace hb13 := hb13.tw tw11 (Bx.ne hb13 hb14 (by decide))
  replace x24 := x24.tw tw11 (x24.neBx hb14 (by decide))
  replace x33 := x33.tw tw11 (x33.neBx hb14 (by decide))
  replace x9003 := x9003.tw tw11 (by first | exact x9003.neLt (by omega) | exact nq9003_14)
  replace x83 := x83.tw tw11 (x83.neBx hb14 (by decide))
  replace hb14 : Bx _ _ _ [.int .i32 ((ix ((ix m.Blocks (Int.toNat ab)).Ins) k).Imm), v83] := bw11
  clear bw11 tw11
  refine ⟨⟨hin, hb2, hb3, hb4, hb5, hb11, hb13, trivial⟩, ?_⟩
  refine AF.done (by kernel_rfl) ?_
  refine PF.blockNormal (PF.next (CF.region ?_))
  refine LF.step (OpOk.add rfl rfl (by omega)) ?_
  refine LF.step (OpOk.move rfl) (LF.nil ?_)
  exact PF.again (j + 1, ea ++ ([ix rs2 (Int.toNat (ix ((ix ((ix m.Blocks (Int.toNat ab)).Ins) k).Args) j))]), v83) ⟨by dsimp only; omega, by dsimp only; rw [hea, take_ix (by omega), List.map_append]; rfl, hin, hkp, hb2, hb3, hb4, hb5, hb11, hb13, hb14, x24, x33, x9003, x83, ap24_83, ap26_83, ap9003_83⟩ ⟨rfl, rfl, rfl, rfl, rfl, rfl, rfl, rfl, rfl, rfl, rfl, rfl, rfl, rfl, rfl, rfl, rfl, eqI (by omega), trivial⟩ (by omega)
  refine AFN.step rfl (OpOk.ldGI x33 (by first | omega | (simp only [List.length_replicate, List.length_set, List.length_append, List.length_cons, List.length_nil]; omega)) Try.one21 rfl) ⟨hin, hb2, hb3, hb4, hb5, hb11, hb13, trivial⟩ ?_
  refine AF.two 1 6 (by kernel_rfl) ?_ ?_
  refine AFN.step rfl (OpOk.ldBx hb14 Try.one25 rfl rfl) ⟨hin, hb2, hb3, hb4, hb5, hb11, hb13, trivial⟩ ?_
  refine AF.one 6 (by kernel_rfl) ?_
  refine AFN.chg rfl (OpCh.litL (F := Fm) (r := (rI .i32)) (l := [ix rs2 (Int.toNat (ix ((ix ((ix m.Blocks (Int.toNat ab)).Ins) k).Args) j))]) (us := [.int .i32 (ix rs2 (Int.toNat (ix ((ix ((ix m.Blocks (Int.toNat ab)).Ins) k).Args) j)))]) (cs := [[.int .i32 (ix rs2 (Int.toNat (ix ((ix ((ix m.Blocks (Int.toNat ab)).Ins) k).Args) j)))]]) Try.underlying25 Try.info21 (by decide) rfl rfl rfl ⟨rfl, rfl, ⟨rfl, (Gl.wr x33 (by omega))⟩, trivial⟩) ?_
  rintro _ H82 ⟨g82, rfl, e82, s82, k82, x82⟩
  have l82 := hkp.1
  have ap24_82 := ap_new x24.lt (x82 hin).ge
  have ap26_82 := ap_new x33.lt (x82 hin).ge
  have ap9003_82 := ap_new x9003.lt (x82 hin).ge
  have ap9014_82 := ap_new x9014.lt (x82 hin).ge
  replace x82 := (x82 hin).base l82
  have zk82 := k82.1
  replace hin := hin.kp k82
  replace hkp := hkp.trans (k82.mono hkp.1)
  replace hb2 := hb2.kp k82
  replace hb3 := hb3.kp k82
  replace hb4 := hb4.kp k82
  replace hb5 := hb5.kp k82
  replace hb11 := hb11.kp k82
  replace hb13 := hb13.kp k82
  replace hb14 := hb14.kp k82
  replace x24 := x24.kp k82
  replace x33 := x33.kp k82
  replace x9003 := x9003.kp k82
  replace x9014 := x9014.kp k82
  have ap82_24 := ap_sym ap24_82
  have ap82_26 := ap_sym ap26_82
  have ap82_9003 := ap_sym ap9003_82
  have ap82_9014 := ap_sym ap9014_82
  refine ⟨⟨hin, hb2, hb3, hb4, hb5, hb11, hb13, trivial⟩, ?_⟩
  refine AF.one 7 (by kernel_rfl) ?_
  obtain ⟨u83, hu83, hr83⟩ := x82.cell0 (i := 0) (by simp) rfl
  refine AFN.chg rfl (OpCh.appG1 (r := (rI .i32)) (a := ix rs2 (Int.toNat (ix ((ix ((ix m.Blocks (Int.toNat ab)).Ins) k).Args) j))) Try.underlying25 Try.info21 (by decide) rfl rfl rfl rfl hu83 hr83 x9014 hin (by first | (simp only [List.length_append, List.length_take, List.length_drop, List.length_nil, List.length_cons, List.length_set, List.length_replicate]; omega) | (simp; done) | (simp; omega) | omega) (by omega)) ?_
  rintro v83 H83 ⟨x83, gb83, ob83⟩
  replace hin := hin.grown gb83 x9014.no
  replace hkp := gb83.kp hkp (Nat.le_refl _) (fun k0 hk0 => (x9014.blk k0 hk0).1)
  replace hb2 := hb2.of (gb83.2 _ hb2.lt (Ne.symm (by first | exact x9014.neBx hb2 (by decide) | exact nq9014_2)))
  replace hb3 := hb3.of (gb83.2 _ hb3.lt (Ne.symm (by first | exact x9014.neBx hb3 (by decide) | exact nq9014_3)))
  replace hb4 := hb4.of (gb83.2 _ hb4.lt (Ne.symm (by first | exact x9014.neBx hb4 (by decide) | exact nq9014_4)))
  replace hb5 := hb5.of (gb83.2 _ hb5.lt (Ne.symm (by first | exact x9014.neBx hb5 (by decide) | exact nq9014_5)))
  replace hb11 := hb11.of (gb83.2 _ hb11.lt (Ne.symm (by first | exact x9014.neBx hb11 (by decide) | exact nq9014_11)))
  replace hb13 := hb13.of (gb83.2 _ hb13.lt (Ne.symm (by first | exact x9014.neBx hb13 (by decide) | exact nq9014_13)))
  replace hb14 := hb14.of (gb83.2 _ hb14.lt (Ne.symm (by first | exact x9014.neBx hb14 (by decide) | exact nq9014_14)))
  have ap83_24 := ap_grow ap9014_24 x24.lt (ob_some ob83)
  have ap24_83 := ap_sym ap83_24
  replace x24 := x24.of (fun k0 hk0 => gb83.2 k0 (x24.blk k0 hk0).2 (fun e9 => ap9014_24 _ e9.symm hk0))
  have ap83_26 := ap_grow ap9014_26 x33.lt (ob_some ob83)
  have ap26_83 := ap_sym ap83_26
  replace x33 := x33.of (fun k0 hk0 => gb83.2 k0 (x33.blk k0 hk0).2 (fun e9 => ap9014_26 _ e9.symm hk0))
  have ap83_9003 := ap_grow ap9014_9003 x9003.lt (ob_some ob83)
  have ap9003_83 := ap_sym ap83_9003
  replace x9003 := x9003.of (fun k0 hk0 => gb83.2 k0 (x9003.blk k0 hk0).2 (fun e9 => ap9014_9003 _ e9.symm hk0))
  refine ⟨⟨hin, hb2, hb3, hb4, hb5, hb11, hb13, trivial⟩, ?_⟩
  refine AF.take 8 rfl (by kernel_rfl) (by kernel_rfl) (by kernel_rfl) ⟨hin, hb2, hb3, hb4, hb5, hb11, hb13, trivial⟩ (fun _ ⟨hin, hb2, hb3, hb4, hb5, hb11, hb13, _⟩ => OpOk.fieldAddr (Try.fld75_1) rfl) ?_
  refine AF.one 9 (by kernel_rfl) ?_
  refine AFN.chg0 rfl (OpCh.storeB hb14 Try.sz25 rfl rfl x83.one1 (by first | decide | (simp; done))) ?_
  rintro _ Hw12 ⟨tw12, bw12⟩
  have ztw12 := tw12.1
  replace hin := hin.tw tw12 ng14
  replace hkp := Tw.kp' hkp tw12 (by omega)
  replace hb2 := hb2.tw tw12 (Bx.ne hb2 hb14 (by decide))
  replace hb3 := hb3.tw tw12 (Bx.ne hb3 hb14 (by decide))
  replace hb4 := hb4.tw tw12 (Bx.ne hb4 hb14 (by decide))
  replace hb5 := hb5.tw tw12 (Bx.ne hb5 hb14 (by decide))
  replace hb11 := hb11.tw tw12 (Bx.ne hb11 hb14 (by decide))
  replace hb13 := hb13.tw tw12 (Bx.ne hb13 hb14 (by decide))
  replace x24 := x24.tw tw12 (x24.neBx hb14 (by decide))
  replace x33 := x33.tw tw12 (x33.neBx hb14 (by decide))
  replace x9003 := x9003.tw tw12 (by first | exact x9003.neLt (by omega) | exact nq9003_14)
  replace x83 := x83.tw tw12 (x83.neBx hb14 (by decide))
  replace hb14 : Bx _ _ _ [.int .i32 ((ix ((ix m.Blocks (Int.toNat ab)).Ins) k).Imm), v83] := bw12
  clear bw12 tw12
  refine ⟨⟨hin, hb2, hb3, hb4, hb5, hb11, hb13, trivial⟩, ?_⟩
  refine AF.done (by kernel_rfl) ?_
  refine PF.blockNormal (PF.next (CF.region ?_))
  refine LF.step (OpOk.add rfl rfl (by omega)) ?_
  refine LF.step (OpOk.move rfl) (LF.nil ?_)
  exact PF.again (j + 1, ea ++ ([ix rs2 (Int.toNat (ix ((ix ((ix m.Blocks (Int.toNat ab)).Ins) k).Args) j))]), v83) ⟨by dsimp only; omega, by dsimp only; rw [hea, take_ix (by omega), List.map_append]; rfl, hin, hkp, hb2, hb3, hb4, hb5, hb11, hb13, hb14, x24, x33, x9003, x83, ap24_83, ap26_83, ap9003_83⟩ ⟨rfl, rfl, rfl, rfl, rfl, rfl, rfl, rfl, rfl, rfl, rfl, rfl, rfl, rfl, rfl, rfl, rfl, eqI (by omega), trivial⟩ (by omega)
  refine AFN.chg rfl (OpCh.litL (F := Fm) (r := (rI .i32)) (l := [ix rs2 (Int.toNat (ix ((ix ((ix m.Blocks (Int.toNat ab)).Ins) k).Args) j))]) (us := [.int .i32 (ix rs2 (Int.toNat (ix ((ix ((ix m.Blocks (Int.toNat ab)).Ins) k).Args) j)))]) (cs := [[.int .i32 (ix rs2 (Int.toNat (ix ((ix ((ix m.Blocks (Int.toNat ab)).Ins) k).Args) j)))]]) Try.underlying25 Try.info21 (by decide) rfl rfl rfl ⟨rfl, rfl, ⟨rfl, (Gl.wr x33 (by omega))⟩, trivial⟩) ?_
  rintro _ H82 ⟨g82, rfl, e82, s82, k82, x82⟩
  have l82 := hkp.1
  have ap24_82 := ap_new x24.lt (x82 hin).ge
  have ap26_82 := ap_new x33.lt (x82 hin).ge
  have ap9003_82 := ap_new x9003.lt (x82 hin).ge
  have ap9014_82 := ap_new x9014.lt (x82 hin).ge
  replace x82 := (x82 hin).base l82
  have zk82 := k82.1
  replace hin := hin.kp k82
  replace hkp := hkp.trans (k82.mono hkp.1)
  replace hb2 := hb2.kp k82
  replace hb3 := hb3.kp k82
  replace hb4 := hb4.kp k82
  replace hb5 := hb5.kp k82
  replace hb11 := hb11.kp k82
  replace hb13 := hb13.kp k82
  replace hb14 := hb14.kp k82
  replace x24 := x24.kp k82
  replace x33 := x33.kp k82
  replace x9003 := x9003.kp k82
  replace x9014 := x9014.kp k82
  have ap82_24 := ap_sym ap24_82
  have ap82_26 := ap_sym ap26_82
  have ap82_9003 := ap_sym ap9003_82
  have ap82_9014 := ap_sym ap9014_82
  refine ⟨⟨hin, hb2, hb3, hb4, hb5, hb11, hb13, trivial⟩, ?_⟩
  refine AF.one 1 (by kernel_rfl) ?_
  refine AFN.step rfl (OpOk.ldBx hb14 Try.one25 rfl rfl) ⟨hin, hb2, hb3, hb4, hb5, hb11, hb13, trivial⟩ ?_
  refine AF.one 7 (by kernel_rfl) ?_
  obtain ⟨u83, hu83, hr83⟩ := x82.cell0 (i := 0) (by simp) rfl
  refine AFN.chg rfl (OpCh.appG1 (r := (rI .i32)) (a := ix rs2 (Int.toNat (ix ((ix ((ix m.Blocks (Int.toNat ab)).Ins) k).Args) j))) Try.underlying25 Try.info21 (by decide) rfl rfl rfl rfl hu83 hr83 x9014 hin (by first | (simp only [List.length_append, List.length_take, List.length_drop, List.length_nil, List.length_cons, List.length_set, List.length_replicate]; omega) | (simp; done) | (simp; omega) | omega) (by omega)) ?_
  rintro v83 H83 ⟨x83, gb83, ob83⟩
  replace hin := hin.grown gb83 x9014.no
  replace hkp := gb83.kp hkp (Nat.le_refl _) (fun k0 hk0 => (x9014.blk k0 hk0).1)
  replace hb2 := hb2.of (gb83.2 _ hb2.lt (Ne.symm (by first | exact x9014.neBx hb2 (by decide) | exact nq9014_2)))
  replace hb3 := hb3.of (gb83.2 _ hb3.lt (Ne.symm (by first | exact x9014.neBx hb3 (by decide) | exact nq9014_3)))
  replace hb4 := hb4.of (gb83.2 _ hb4.lt (Ne.symm (by first | exact x9014.neBx hb4 (by decide) | exact nq9014_4)))
  replace hb5 := hb5.of (gb83.2 _ hb5.lt (Ne.symm (by first | exact x9014.neBx hb5 (by decide) | exact nq9014_5)))
  replace hb11 := hb11.of (gb83.2 _ hb11.lt (Ne.symm (by first | exact x9014.neBx hb11 (by decide) | exact nq9014_11)))
  replace hb13 := hb13.of (gb83.2 _ hb13.lt (Ne.symm (by first | exact x9014.neBx hb13 (by decide) | exact nq9014_13)))
  replace hb14 := hb14.of (gb83.2 _ hb14.lt (Ne.symm (by first | exact x9014.neBx hb14 (by decide) | exact nq9014_14)))
  have ap83_24 := ap_grow ap9014_24 x24.lt (ob_some ob83)
  have ap24_83 := ap_sym ap83_24
  replace x24 := x24.of (fun k0 hk0 => gb83.2 k0 (x24.blk k0 hk0).2 (fun e9 => ap9014_24 _ e9.symm hk0))
  have ap83_26 := ap_grow ap9014_26 x33.lt (ob_some ob83)
  have ap26_83 := ap_sym ap83_26
  replace x33 := x33.of (fun k0 hk0 => gb83.2 k0 (x33.blk k0 hk0).2 (fun e9 => ap9014_26 _ e9.symm hk0))
  have ap83_9003 := ap_grow ap9014_9003 x9003.lt (ob_some ob83)
  have ap9003_83 := ap_sym ap83_9003
  replace x9003 := x9003.of (fun k0 hk0 => gb83.2 k0 (x9003.blk k0 hk0).2 (fun e9 => ap9014_9003 _ e9.symm hk0))
  refine ⟨⟨hin, hb2, hb3, hb4, hb5, hb11, hb13, trivial⟩, ?_⟩
  refine AF.take 8 rfl (by kernel_rfl) (by kernel_rfl) (by kernel_rfl) ⟨hin, hb2, hb3, hb4, hb5, hb11, hb13, trivial⟩ (fun _ ⟨hin, hb2, hb3, hb4, hb5, hb11, hb13, _⟩ => OpOk.fieldAddr (Try.fld75_1) rfl) ?_
  refine AF.one 9 (by kernel_rfl) ?_
  refine AFN.chg0 rfl (OpCh.storeB hb14 Try.sz25 rfl rfl x83.one1 (by first | decide | (simp; done))) ?_
  rintro _ Hw13 ⟨tw13, bw13⟩
  have ztw13 := tw13.1
  replace hin := hin.tw tw13 ng14
  replace hkp := Tw.kp' hkp tw13 (by omega)
  replace hb2 := hb2.tw tw13 (Bx.ne hb2 hb14 (by decide))
  replace hb3 := hb3.tw tw13 (Bx.ne hb3 hb14 (by decide))
  replace hb4 := hb4.tw tw13 (Bx.ne hb4 hb14 (by decide))
  replace hb5 := hb5.tw tw13 (Bx.ne hb5 hb14 (by decide))
  replace hb11 := hb11.tw tw13 (Bx.ne hb11 hb14 (by decide))
  replace hb13 := hb13.tw tw13 (Bx.ne hb13 hb14 (by decide))
  replace x24 := x24.tw tw13 (x24.neBx hb14 (by decide))
  replace x33 := x33.tw tw13 (x33.neBx hb14 (by decide))
  replace x9003 := x9003.tw tw13 (by first | exact x9003.neLt (by omega) | exact nq9003_14)
  replace x83 := x83.tw tw13 (x83.neBx hb14 (by decide))
  replace hb14 : Bx _ _ _ [.int .i32 ((ix ((ix m.Blocks (Int.toNat ab)).Ins) k).Imm), v83] := bw13
  clear bw13 tw13
  refine ⟨⟨hin, hb2, hb3, hb4, hb5, hb11, hb13, trivial⟩, ?_⟩
  refine AF.done (by kernel_rfl) ?_
  refine PF.blockNormal (PF.next (CF.region ?_))
  refine LF.step (OpOk.add rfl rfl (by omega)) ?_
  refine LF.step (OpOk.move rfl) (LF.nil ?_)
  exact PF.again (j + 1, ea ++ ([ix rs2 (Int.toNat (ix ((ix ((ix m.Blocks (Int.toNat ab)).Ins) k).Args) j))]), v83) ⟨by dsimp only; omega, by dsimp only; rw [hea, take_ix (by omega), List.map_append]; rfl, hin, hkp, hb2, hb3, hb4, hb5, hb11, hb13, hb14, x24, x33, x9003, x83, ap24_83, ap26_83, ap9003_83⟩ ⟨rfl, rfl, rfl, rfl, rfl, rfl, rfl, rfl, rfl, rfl, rfl, rfl, rfl, rfl, rfl, rfl, rfl, eqI (by omega), trivial⟩ (by omega)
  have hja : (ix (ix m.Blocks (Int.toNat ab)).Ins k).Args.length ≤ j := by omega
  refine CF.exit (PF.thenExit (PF.thenExit (PF.blockHere (PF.next (CF.seq (CF.region ?_))))))
  refine LF.step (OpOk.fieldAddr (Try.fld33_3) rfl) ?_
  refine LF.step (OpOk.ldBx hb5 Try.one31 rfl rfl) ?_
  refine LF.step (OpOk.ldBxA hb14 Try.agg75 Try.sz75 rfl rfl rfl) ?_
  obtain ⟨Fz14, hxz14, lez14, hinz14, noz14, hrz14⟩ := x9014.freezeX hin hx (Nat.le_refl _) (by first | (simp only [List.length_append, List.length_take, List.length_drop, List.length_nil, List.length_cons, List.length_set, List.length_replicate]; omega) | (simp; done) | (simp; omega) | omega)
  replace hin := hinz14
  replace hx := hxz14
  replace le0 := le0.trans lez14
  replace le1 := le1.trans lez14
  have le2 := lez14
  replace ng2 := (noz14 _ (x9014.neBx hb2 (by decide))).trans ng2
  replace ng3 := (noz14 _ (x9014.neBx hb3 (by decide))).trans ng3
  replace ng4 := (noz14 _ (x9014.neBx hb4 (by decide))).trans ng4
  replace ng5 := (noz14 _ (x9014.neBx hb5 (by decide))).trans ng5
  replace ng11 := (noz14 _ (x9014.neBx hb11 (by decide))).trans ng11
  replace ng13 := (noz14 _ (x9014.neBx hb13 (by decide))).trans ng13
  replace ng14 := (noz14 _ (x9014.neBx hb14 (by decide))).trans ng14
  replace x24 := x24.frozen lez14 noz14 ap24_9014
  replace x33 := x33.frozen lez14 noz14 ap26_9014
  replace x9003 := x9003.frozen lez14 noz14 ap9003_9014
  refine LF.appA (r := rEvent) (a := ⟨(ix ((ix m.Blocks (Int.toNat ab)).Ins) k).Imm, ea⟩) Try.underlying31 Try.info75 (by decide) rfl rfl (rEvent.mk (m := ⟨(ix ((ix m.Blocks (Int.toNat ab)).Ins) k).Imm, ea⟩) hrz14 (rMach.w_Imm (m := (ix ((ix m.Blocks (Int.toNat ab)).Ins) k)) h53k)) x9003 hin (by first | (simp only [List.length_append, List.length_take, List.length_drop, List.length_nil, List.length_cons, List.length_set, List.length_replicate]; omega) | (simp; done) | (simp; omega) | omega) rfl ?_ hkp.1
  intro v90 H90 x90 gb90 nn90 ob90
  replace hin := hin.grown gb90 x9003.no
  replace hkp := gb90.kp hkp (Nat.le_refl _) (fun k0 hk0 => (x9003.blk k0 hk0).1)
  replace hb2 := hb2.of (gb90.2 _ hb2.lt (Ne.symm (by first | exact x9003.neBx hb2 (by decide) | exact nq9003_2)))
  replace hb3 := hb3.of (gb90.2 _ hb3.lt (Ne.symm (by first | exact x9003.neBx hb3 (by decide) | exact nq9003_3)))
  replace hb4 := hb4.of (gb90.2 _ hb4.lt (Ne.symm (by first | exact x9003.neBx hb4 (by decide) | exact nq9003_4)))
  replace hb5 := hb5.of (gb90.2 _ hb5.lt (Ne.symm (by first | exact x9003.neBx hb5 (by decide) | exact nq9003_5)))
  replace hb11 := hb11.of (gb90.2 _ hb11.lt (Ne.symm (by first | exact x9003.neBx hb11 (by decide) | exact nq9003_11)))
  replace hb13 := hb13.of (gb90.2 _ hb13.lt (Ne.symm (by first | exact x9003.neBx hb13 (by decide) | exact nq9003_13)))
  replace hb14 := hb14.of (gb90.2 _ hb14.lt (Ne.symm (by first | exact x9003.neBx hb14 (by decide) | exact nq9003_14)))
  have ap90_24 := ap_grow ap9003_24 x24.lt ob90
  have ap24_90 := ap_sym ap90_24
  replace x24 := x24.of (fun k0 hk0 => gb90.2 k0 (x24.blk k0 hk0).2 (fun e9 => ap9003_24 _ e9.symm hk0))
  have ap90_26 := ap_grow ap9003_26 x33.lt ob90
  have ap26_90 := ap_sym ap90_26
  replace x33 := x33.of (fun k0 hk0 => gb90.2 k0 (x33.blk k0 hk0).2 (fun e9 => ap9003_26 _ e9.symm hk0))
  refine LF.step (OpOk.fieldAddr (Try.fld33_3) rfl) ?_
  refine LF.chg0 (OpCh.storeB hb5 Try.sz31 rfl rfl x90.one1 (by first | decide | (simp; done))) ?_
  rintro _ Hw15 ⟨tw15, bw15⟩
  have ztw15 := tw15.1
  replace hin := hin.tw tw15 ng5
  replace hkp := Tw.kp' hkp tw15 (by omega)
  replace hb2 := hb2.tw tw15 (Bx.ne hb2 hb5 (by decide))
  replace hb3 := hb3.tw tw15 (Bx.ne hb3 hb5 (by decide))
  replace hb4 := hb4.tw tw15 (by first | omega | assumption | exact Ne.symm (by assumption))
  replace hb11 := hb11.tw tw15 (Bx.ne hb11 hb5 (by decide))
  replace hb13 := hb13.tw tw15 (Bx.ne hb13 hb5 (by decide))
  replace hb14 := hb14.tw tw15 (Bx.ne hb14 hb5 (by decide))
  replace x24 := x24.tw tw15 (x24.neBx hb5 (by decide))
  replace x33 := x33.tw tw15 (x33.neBx hb5 (by decide))
  replace x90 := x90.tw tw15 (x90.neBx hb5 (by decide))
  replace hb5 : Bx _ _ _ [.int .i64 0, .int .i32 0, v24, v90, .int .i64 (s2 + 1)] := bw15
  clear bw15 tw15
  refine LF.nil (PF.next (CF.seq (CF.region (LF.step (OpOk.move rfl) ?_))))
  refine LF.step (OpOk.fieldAddr (Try.fld40_1) rfl) ?_
  refine LF.step (OpOk.ldBx hb13 Try.one3 rfl rfl) ?_
  refine LF.step (OpOk.idxG (i := (Int.toNat ((ix ((ix m.Blocks (Int.toNat ab)).Ins) k).D))) Try.underlying25 Try.sz21 x33 rfl rfl (by omega) (by first | omega | (simp only [List.length_replicate, List.length_set, List.length_append, List.length_cons, List.length_nil]; omega))) ?_
  refine LF.chg0 (OpCh.storeG x33 rfl Try.sz21 rfl rfl rfl (by first | omega | (simp only [List.length_replicate, List.length_set, List.length_append, List.length_cons, List.length_nil]; omega)) ⟨rfl, (by decide : IntKind.i32.wrap 0 = 0)⟩) ?_
  rintro _ Hw16 ⟨gw16, qw16, tw16, xw16⟩
  have ztw16 := tw16.1
  replace hin := hin.tw tw16 (x33.no _ qw16)
  replace hkp := Tw.kp' hkp tw16 (x33.blk _ qw16).1
  replace hb2 := hb2.tw tw16 (ne_of_own qw16 (x33.neBx hb2 (by decide)))
  replace hb3 := hb3.tw tw16 (ne_of_own qw16 (x33.neBx hb3 (by decide)))
  replace hb4 := hb4.tw tw16 (ne_of_own qw16 (x33.neBx hb4 (by decide)))
  replace hb5 := hb5.tw tw16 (ne_of_own qw16 (x33.neBx hb5 (by decide)))
  replace hb11 := hb11.tw tw16 (ne_of_own qw16 (x33.neBx hb11 (by decide)))
  replace hb13 := hb13.tw tw16 (ne_of_own qw16 (x33.neBx hb13 (by decide)))
  replace hb14 := hb14.tw tw16 (ne_of_own qw16 (x33.neBx hb14 (by decide)))
  replace x24 := x24.tw tw16 (ap26_24 _ qw16)
  replace x90 := x90.tw tw16 (ap26_90 _ qw16)
  replace x33 := xw16
  refine LF.nil (PF.next (CF.seq (CF.seq (CF.region (LF.step (OpOk.move rfl) ?_)))))
  refine LF.step (OpOk.lenL Try.underlying25 (han2.up le2) rfl) ?_
  refine LF.step (OpOk.gtr rfl rfl) ?_
  refine LF.nil (PF.next ?_)
  refine CF.if rfl (fun hc6 => ?_) (fun hc6 => ?_)
  refine CF.any (fun H' => InH Fz14 H' ∧ Bx H' g2 24 [.int .i64 m.Params, a0c1] ∧ Bx H' g3 27 [a1c0, a1c1, a1c2, .int .i64 i.Steps] ∧ Bx H' g4 33 [.int .i64 0, .int .i32 0, .slice none 0 0, .slice none 0 0, .int .i64 0] ∧ Bx H' g5 33 [.int .i64 0, .int .i32 0, v24, v90, .int .i64 (s2 + 1)] ∧ Bx H' g11 61 [v41c0, v41c1, .int .i64 (((ix m.Blocks (Int.toNat ab)).End).Op), .int .i64 (((ix m.Blocks (Int.toNat ab)).End).A), .int .i64 (((ix m.Blocks (Int.toNat ab)).End).B), v41c5, .int .i32 (((ix m.Blocks (Int.toNat ab)).End).Imm)] ∧ Bx H' g13 40 [.int .i64 ((ix ((ix m.Blocks (Int.toNat ab)).Ins) k).Op), .int .i64 ((ix ((ix m.Blocks (Int.toNat ab)).Ins) k).D), .int .i64 ((ix ((ix m.Blocks (Int.toNat ab)).Ins) k).E), .int .i64 ((ix ((ix m.Blocks (Int.toNat ab)).Ins) k).A), .int .i64 ((ix ((ix m.Blocks (Int.toNat ab)).Ins) k).B), .int .i64 ((ix ((ix m.Blocks (Int.toNat ab)).Ins) k).C), .int .i32 ((ix ((ix m.Blocks (Int.toNat ab)).Ins) k).Imm), v53c7] ∧ Bx H' g14 75 [.int .i32 ((ix ((ix m.Blocks (Int.toNat ab)).Ins) k).Imm), ve] ∧ True) Try.mixed ?_
  refine AF.take 0 rfl (by kernel_rfl) (by kernel_rfl) (by kernel_rfl) ⟨hin, hb2, hb3, hb4, hb5, hb11, hb13, hb14, trivial⟩ (fun _ ⟨hin, hb2, hb3, hb4, hb5, hb11, hb13, hb14, _⟩ => OpOk.move rfl) ?_
  refine AF.take 1 rfl (by kernel_rfl) (by kernel_rfl) (by kernel_rfl) ⟨hin, hb2, hb3, hb4, hb5, hb11, hb13, hb14, trivial⟩ (fun _ ⟨hin, hb2, hb3, hb4, hb5, hb11, hb13, hb14, _⟩ => OpOk.fieldAddr (Try.fld40_1) rfl) ?_
  refine AF.take 2 rfl (by kernel_rfl) (by kernel_rfl) (by kernel_rfl) ⟨hin, hb2, hb3, hb4, hb5, hb11, hb13, hb14, trivial⟩ (fun _ ⟨hin, hb2, hb3, hb4, hb5, hb11, hb13, hb14, _⟩ => OpOk.ldBx hb13 Try.one3 rfl rfl) ?_
  refine AF.take 3 rfl (by kernel_rfl) (by kernel_rfl) (by kernel_rfl) ⟨hin, hb2, hb3, hb4, hb5, hb11, hb13, hb14, trivial⟩ (fun _ ⟨hin, hb2, hb3, hb4, hb5, hb11, hb13, hb14, _⟩ => OpOk.move rfl) ?_
  refine AF.take 4 rfl (by kernel_rfl) (by kernel_rfl) (by kernel_rfl) ⟨hin, hb2, hb3, hb4, hb5, hb11, hb13, hb14, trivial⟩ (fun _ ⟨hin, hb2, hb3, hb4, hb5, hb11, hb13, hb14, _⟩ => OpOk.idxL (i := 0) Try.underlying25 Try.sz21 (han2.up le2) rfl rfl (by omega) (by omega)) ?_
  refine AF.take 5 rfl (by kernel_rfl) (by kernel_rfl) (by kernel_rfl) ⟨hin, hb2, hb3, hb4, hb5, hb11, hb13, hb14, trivial⟩ (fun _ ⟨hin, hb2, hb3, hb4, hb5, hb11, hb13, hb14, _⟩ => OpOk.ldI hin (rL.ix (han2.up le2) 0 (by omega)) Try.one21 rfl) ?_
  refine AF.take 6 rfl (by kernel_rfl) (by kernel_rfl) (by kernel_rfl) ⟨hin, hb2, hb3, hb4, hb5, hb11, hb13, hb14, trivial⟩ (fun _ ⟨hin, hb2, hb3, hb4, hb5, hb11, hb13, hb14, _⟩ => OpOk.move rfl) ?_
  refine AF.take 7 rfl (by kernel_rfl) (by kernel_rfl) (by kernel_rfl) ⟨hin, hb2, hb3, hb4, hb5, hb11, hb13, hb14, trivial⟩ (fun _ ⟨hin, hb2, hb3, hb4, hb5, hb11, hb13, hb14, _⟩ => OpOk.sliceLoL (lo := 1) Try.underlying25 Try.sz21 (han2.up le2) hin rfl rfl rfl (by omega)) ?_
  refine AF.one 8 (by kernel_rfl) ?_
  refine AFN.step rfl (OpOk.idxG (i := (Int.toNat ((ix ((ix m.Blocks (Int.toNat ab)).Ins) k).D))) Try.underlying25 Try.sz21 x33 rfl rfl (by omega) (by first | omega | (simp only [List.length_replicate, List.length_set, List.length_append, List.length_cons, List.length_nil]; omega))) ⟨hin, hb2, hb3, hb4, hb5, hb11, hb13, hb14, trivial⟩ ?_
  refine AF.one 9 (by kernel_rfl) ?_
  refine AFN.chg0 rfl (OpCh.storeG x33 rfl Try.sz21 rfl rfl rfl (by first | omega | (simp only [List.length_replicate, List.length_set, List.length_append, List.length_cons, List.length_nil]; omega)) ⟨rfl, (At.wr (rL.ix (han2.up le2) 0 (by omega)))⟩) ?_
  rintro _ Hw17 ⟨gw17, qw17, tw17, xw17⟩
  have ztw17 := tw17.1
  replace hin := hin.tw tw17 (x33.no _ qw17)
  replace hkp := Tw.kp' hkp tw17 (x33.blk _ qw17).1
  replace hb2 := hb2.tw tw17 (ne_of_own qw17 (x33.neBx hb2 (by decide)))
  replace hb3 := hb3.tw tw17 (ne_of_own qw17 (x33.neBx hb3 (by decide)))
  replace hb4 := hb4.tw tw17 (ne_of_own qw17 (x33.neBx hb4 (by decide)))
  replace hb5 := hb5.tw tw17 (ne_of_own qw17 (x33.neBx hb5 (by decide)))
  replace hb11 := hb11.tw tw17 (ne_of_own qw17 (x33.neBx hb11 (by decide)))
  replace hb13 := hb13.tw tw17 (ne_of_own qw17 (x33.neBx hb13 (by decide)))
  replace hb14 := hb14.tw tw17 (ne_of_own qw17 (x33.neBx hb14 (by decide)))
  replace x24 := x24.tw tw17 (ap26_24 _ qw17)
  replace x90 := x90.tw tw17 (ap26_90 _ qw17)
  replace x33 := xw17
  refine ⟨⟨hin, hb2, hb3, hb4, hb5, hb11, hb13, hb14, trivial⟩, ?_⟩
  refine AF.take 10 rfl (by kernel_rfl) (by kernel_rfl) (by kernel_rfl) ⟨hin, hb2, hb3, hb4, hb5, hb11, hb13, hb14, trivial⟩ (fun _ ⟨hin, hb2, hb3, hb4, hb5, hb11, hb13, hb14, _⟩ => OpOk.assign rfl) ?_
  refine AF.done (by kernel_rfl) ?_
  refine PF.next (CF.exit (PF.thenExit (PF.blockHere (PF.next (CF.region ?_)))))
  refine LF.step (OpOk.add rfl rfl (by omega)) ?_
  refine LF.step (OpOk.move rfl) (LF.nil ?_)
  exact PF.again (k + 1, List.set (List.set rs2 (Int.toNat ((ix ((ix m.Blocks (Int.toNat ab)).Ins) k).D)) 0) (Int.toNat ((ix ((ix m.Blocks (Int.toNat ab)).Ins) k).D)) (ix an2 0), me2, cl2 ++ [⟨(ix ((ix m.Blocks (Int.toNat ab)).Ins) k).Imm, ea⟩], List.drop 1 an2, s2 + 1, v90, (resl 1 va2 1 (List.length an2)), Fz14) ⟨by dsimp only; omega, by dsimp only; first | exact ins_callA hI (by omega) hNi h28 hja hea (by omega) | exact ins_callB hI (by omega) hNi h28 hja hea | exact ins_ok hI (by omega) hNi h28 hdo, by dsimp only; first | (rw [List.length_set, List.length_set]; exact hrl2) | (rw [List.length_set]; exact hrl2) | (rw [(stepM_len _ _ _).1]; exact hrl2), by dsimp only; first | exact hml2 | (rw [(stepM_len _ _ _).2]; exact hml2), by dsimp only; omega, by dsimp only; first | (rw [List.length_append]; simp; omega) | omega, by dsimp only; omega, (rL.lo (han2.up le2) 1 (by omega) (by omega)), hx, le1, hin, hkp, hb2, ng2, hb3, ng3, hb4, ng4, hb5, ng5, hb11, ng11, x24, x33, x90, ap24_90, ap26_90⟩ ⟨rfl, rfl, rfl, rfl, rfl, rfl, rfl, rfl, rfl, rfl, rfl, rfl, eqI (by omega), trivial⟩ (by omega)
  refine CF.skip (PF.next (CF.exit (PF.thenExit (PF.blockHere (PF.next (CF.region ?_))))))
  refine LF.step (OpOk.add rfl rfl (by omega)) ?_
  refine LF.step (OpOk.move rfl) (LF.nil ?_)
  exact PF.again (k + 1, List.set rs2 (Int.toNat ((ix ((ix m.Blocks (Int.toNat ab)).Ins) k).D)) 0, me2, cl2 ++ [⟨(ix ((ix m.Blocks (Int.toNat ab)).Ins) k).Imm, ea⟩], an2, s2 + 1, v90, va2, Fz14) ⟨by dsimp only; omega, by dsimp only; first | exact ins_callA hI (by omega) hNi h28 hja hea (by omega) | exact ins_callB hI (by omega) hNi h28 hja hea | exact ins_ok hI (by omega) hNi h28 hdo, by dsimp only; first | (rw [List.length_set, List.length_set]; exact hrl2) | (rw [List.length_set]; exact hrl2) | (rw [(stepM_len _ _ _).1]; exact hrl2), by dsimp only; first | exact hml2 | (rw [(stepM_len _ _ _).2]; exact hml2), by dsimp only; omega, by dsimp only; first | (rw [List.length_append]; simp; omega) | omega, by dsimp only; omega, (han2.up le2), hx, le1, hin, hkp, hb2, ng2, hb3, ng3, hb4, ng4, hb5, ng5, hb11, ng11, x24, x33, x90, ap24_90, ap26_90⟩ ⟨rfl, rfl, rfl, rfl, rfl, rfl, rfl, rfl, rfl, rfl, rfl, rfl, eqI (by omega), trivial⟩ (by omega)
  have h28 := hc4
  refine CF.skip (PF.next (CF.seq (CF.region ?_)))
  refine LF.step (OpOk.ldBxA hb13 Try.agg40 Try.sz40 rfl rfl rfl) ?_
  refine LF.step (OpOk.move rfl) ?_
  refine LF.step (OpOk.fieldAddr (Try.fld33_2) rfl) ?_
  refine LF.step (OpOk.ldBx hb5 Try.one25 rfl rfl) ?_
  refine LF.call (OpCall.fn Try.ent19 rfl rfl) (pDoM_ct hin h53 x33 x24 (by omega) (by omega) ap26_24) ?_
  rintro _ H113 ⟨rfl, k113, x113_1, x113_2⟩
  have zk113 := k113.1
  replace hin := hin.kw k113 (by intro k0 hk0; rcases hk0 with hk0 | hk0; exact x33.no k0 hk0; exact x24.no k0 hk0)
  replace hb2 := hb2.kw k113 (by rintro (hk0 | hk0); exact x33.neBx hb2 (by decide) hk0; exact x24.neBx hb2 (by decide) hk0)
  replace hb3 := hb3.kw k113 (by rintro (hk0 | hk0); exact x33.neBx hb3 (by decide) hk0; exact x24.neBx hb3 (by decide) hk0)
  replace hb4 := hb4.kw k113 (by rintro (hk0 | hk0); exact x33.neBx hb4 (by decide) hk0; exact x24.neBx hb4 (by decide) hk0)
  replace hb5 := hb5.kw k113 (by rintro (hk0 | hk0); exact x33.neBx hb5 (by decide) hk0; exact x24.neBx hb5 (by decide) hk0)
  replace hb11 := hb11.kw k113 (by rintro (hk0 | hk0); exact x33.neBx hb11 (by decide) hk0; exact x24.neBx hb11 (by decide) hk0)
  replace hb13 := hb13.kw k113 (by rintro (hk0 | hk0); exact x33.neBx hb13 (by decide) hk0; exact x24.neBx hb13 (by decide) hk0)
  replace x9003 := x9003.kw k113 (by intro k0 hk0; rintro (h9 | h9); exact ap9003_26 k0 hk0 h9; exact ap9003_24 k0 hk0 h9)
  replace hkp := hkp.kw k113 (by rintro k0 (hk0 | hk0); exact x33.ge k0 hk0; exact x24.ge k0 hk0)
  replace x33 := x113_1
  replace x24 := x113_2
  have w113_0 : IntKind.i32.wrap ((stepM (ix ((ix m.Blocks (Int.toNat ab)).Ins) k) rs2 me2).1.1) = (stepM (ix ((ix m.Blocks (Int.toNat ab)).Ins) k) rs2 me2).1.1 := stepM_wr _ _ _
  refine LF.step (OpOk.move rfl) ?_
  refine LF.step (OpOk.extract (v := .int .i32 ((stepM (ix ((ix m.Blocks (Int.toNat ab)).Ins) k) rs2 me2).1.1)) rfl rfl) ?_
  refine LF.step (OpOk.extract (v := .bool ((stepM (ix ((ix m.Blocks (Int.toNat ab)).Ins) k) rs2 me2).1.2)) rfl rfl) ?_
  refine LF.step (OpOk.assign rfl) (LF.step (OpOk.assign rfl) (LF.nil (PF.next (CF.seq (CF.region (LF.step (OpOk.move rfl) ?_))))))
  refine LF.step (OpOk.not rfl) ?_
  refine LF.nil (PF.next ?_)
  refine CF.if rfl (fun hc7 => ?_) (fun hc7 => ?_)
  refine CF.seq (CF.region (LF.step (OpOk.move rfl) (LF.step (OpOk.move rfl) ?_)))
  refine LF.call (OpCall.fnc Try.ent27 rfl rfl) (pStop_ct hin 2 ((stepM (ix ((ix m.Blocks (Int.toNat ab)).Ins) k) rs2 me2).1.1) hb5 ng5 x24.one1 x9003.one1) ?_
  rintro _ H120 ⟨rfl, k120⟩
  have zk120 := k120.1
  replace hin := hin.kw k120 (by rintro k0 rfl; exact ng5)
  replace hb2 := hb2.kw k120 (by show ¬ _ = _; first | omega | exact Bx.ne hb2 hb5 (by decide))
  replace hb3 := hb3.kw k120 (by show ¬ _ = _; first | omega | exact Bx.ne hb3 hb5 (by decide))
  replace hb4 := hb4.kw k120 (by show ¬ _ = _; first | omega | exact Bx.ne hb4 hb5 (by decide))
  replace hb11 := hb11.kw k120 (by show ¬ _ = _; first | omega | exact Bx.ne hb11 hb5 (by decide))
  replace hb13 := hb13.kw k120 (by show ¬ _ = _; first | omega | exact Bx.ne hb13 hb5 (by decide))
  replace x24 := x24.kw k120 (by intro k0 h9 e9; subst e9; exact x24.neBx hb5 (by decide) h9)
  replace x33 := x33.kw k120 (by intro k0 h9 e9; subst e9; exact x33.neBx hb5 (by decide) h9)
  replace x9003 := x9003.kw k120 (by intro k0 h9 e9; subst e9; exact x9003.neBx hb5 (by decide) h9)
  replace hkp := hkp.kw k120 (by rintro k0 rfl; omega)
  refine LF.chg0 (OpCh.storeBA hb4 Try.sz33 rfl rfl rfl (allOne.mem (l := [.int .i64 2, .int .i32 ((stepM (ix ((ix m.Blocks (Int.toNat ab)).Ins) k) rs2 me2).1.1), v24, vc2, .int .i64 (s2 + 1)]) ⟨rfl, rfl, x24.one1, x9003.one1, rfl, trivial⟩) (by decide)) ?_
  rintro _ Hw18 ⟨tw18, bw18⟩
  have ztw18 := tw18.1
  replace hin := hin.tw tw18 ng4
  replace hkp := Tw.kp' hkp tw18 (by omega)
  replace hb2 := hb2.tw tw18 (Bx.ne hb2 hb4 (by decide))
  replace hb3 := hb3.tw tw18 (Bx.ne hb3 hb4 (by decide))
  replace hb11 := hb11.tw tw18 (Bx.ne hb11 hb4 (by decide))
  replace hb13 := hb13.tw tw18 (Bx.ne hb13 hb4 (by decide))
  replace x24 := x24.tw tw18 (x24.neBx hb4 (by decide))
  replace x33 := x33.tw tw18 (x33.neBx hb4 (by decide))
  replace x9003 := x9003.tw tw18 (x9003.neBx hb4 (by decide))
  replace hb4 : Bx _ _ _ [.int .i64 2, .int .i32 ((stepM (ix ((ix m.Blocks (Int.toNat ab)).Ins) k) rs2 me2).1.1), v24, vc2, .int .i64 (s2 + 1)] := bw18
  clear bw18 tw18
  refine LF.nil (PF.next (CF.ret (PF.blockRet (PF.thenRet (PF.thenRet (PF.blockRet (PF.thenRet (PF.blockRet (PF.thenRet (PF.blockRet (PF.thenRet ?_)))))))))))
  refine PF.scope ?_ (by simp)
  obtain ⟨Fz19, hxz19, lez19, hinz19, noz19, hrz19⟩ := x24.freezeX hin hx (Nat.le_refl _) (by first | omega | (rw [(stepM_len _ _ _).2]; omega))
  replace hin := hinz19
  replace hx := hxz19
  replace le0 := le0.trans lez19
  replace le1 := le1.trans lez19
  have le2 := lez19
  replace ng2 := (noz19 _ (x24.neBx hb2 (by decide))).trans ng2
  replace ng3 := (noz19 _ (x24.neBx hb3 (by decide))).trans ng3
  replace ng4 := (noz19 _ (x24.neBx hb4 (by decide))).trans ng4
  replace ng11 := (noz19 _ (x24.neBx hb11 (by decide))).trans ng11
  replace ng13 := (noz19 _ (x24.neBx hb13 (by decide))).trans ng13
  replace x33 := x33.frozen lez19 noz19 ap26_24
  replace x9003 := x9003.frozen lez19 noz19 ap9003_24
  obtain ⟨Fz20, hxz20, lez20, hinz20, noz20, hrz20⟩ := x9003.freezeX hin hx (Nat.le_refl _) (by first | (simp only [List.length_append, List.length_take, List.length_drop, List.length_nil, List.length_cons, List.length_set, List.length_replicate]; omega) | (simp; done) | (simp; omega) | omega)
  replace hin := hinz20
  replace hx := hxz20
  replace le0 := le0.trans lez20
  replace le1 := le1.trans lez20
  replace le2 := le2.trans lez20
  have le3 := lez20
  replace ng2 := (noz20 _ (x9003.neBx hb2 (by decide))).trans ng2
  replace ng3 := (noz20 _ (x9003.neBx hb3 (by decide))).trans ng3
  replace ng4 := (noz20 _ (x9003.neBx hb4 (by decide))).trans ng4
  replace ng11 := (noz20 _ (x9003.neBx hb11 (by decide))).trans ng11
  replace ng13 := (noz20 _ (x9003.neBx hb13 (by decide))).trans ng13
  replace x33 := x33.frozen lez20 noz20 ap26_9003
  have hm : runM m i = (⟨2, (stepM (ix ((ix m.Blocks (Int.toNat ab)).Ins) k) rs2 me2).1.1, (stepM (ix ((ix m.Blocks (Int.toNat ab)).Ins) k) rs2 me2).2.2, cl2, s2 + 1⟩) := by
    first | exact run_wrong (by simpa using hc1) | exact ins_stop hI (by omega) hc3 | exact ins_trap hI (by omega) hc3 hc4 (by simpa using hc7) | exact end_stop hI (by omega) hc8 | exact end_ret hI (by omega) hc8 hc9 | exact end_trap hI (by omega) hc8 hc9 hc10
  exact PF.retC rfl rfl hb4 Try.agg33 Try.sz33 ⟨_, hx, hin, hkp, by rw [hm]; exact (rOutcome.mk (m := ⟨2, (stepM (ix ((ix m.Blocks (Int.toNat ab)).Ins) k) rs2 me2).1.1, (stepM (ix ((ix m.Blocks (Int.toNat ab)).Ins) k) rs2 me2).2.2, cl2, s2 + 1⟩) (hrz19.up le3) hrz20 (by decide : IntKind.i64.wrap 2 = 2) w113_0 (IntWalk.i64_in (s2 + 1) (by omega)))⟩
  have hdo : (stepM (ix (ix m.Blocks (Int.toNat ab)).Ins k) rs2 me2).1.2 = true := by simpa using hc7
  refine CF.skip (PF.blockNormal (PF.next (CF.region ?_)))
  refine LF.step (OpOk.add rfl rfl (by omega)) ?_
  refine LF.step (OpOk.move rfl) (LF.nil ?_)
  exact PF.again (k + 1, (stepM (ix ((ix m.Blocks (Int.toNat ab)).Ins) k) rs2 me2).2.1, (stepM (ix ((ix m.Blocks (Int.toNat ab)).Ins) k) rs2 me2).2.2, cl2, an2, s2 + 1, vc2, va2, Fm) ⟨by dsimp only; omega, by dsimp only; first | exact ins_callA hI (by omega) hNi h28 hja hea (by omega) | exact ins_callB hI (by omega) hNi h28 hja hea | exact ins_ok hI (by omega) hNi h28 hdo, by dsimp only; first | (rw [List.length_set, List.length_set]; exact hrl2) | (rw [List.length_set]; exact hrl2) | (rw [(stepM_len _ _ _).1]; exact hrl2), by dsimp only; first | exact hml2 | (rw [(stepM_len _ _ _).2]; exact hml2), by dsimp only; omega, by dsimp only; first | (rw [List.length_append]; simp; omega) | omega, by dsimp only; omega, han2, hx, le1, hin, hkp, hb2, ng2, hb3, ng3, hb4, ng4, hb5, ng5, hb11, ng11, x24, x33, x9003, ap24_9003, ap26_9003⟩ ⟨rfl, rfl, rfl, rfl, rfl, rfl, rfl, rfl, rfl, rfl, rfl, rfl, eqI (by omega), trivial⟩ (by omega)
  refine CF.exit (PF.thenExit (PF.thenExit (PF.blockHere (PF.next (CF.seq (CF.seq (CF.region ?_)))))))
  refine LF.step (OpOk.fieldAddr (Try.fld33_4) rfl) ?_
  refine LF.step (OpOk.ldBx hb5 Try.one3 rfl rfl) ?_
  refine LF.step (OpOk.fieldAddr (Try.fld27_3) rfl) ?_
  refine LF.step (OpOk.ldBx hb3 Try.one3 rfl rfl) ?_
  refine LF.step (OpOk.geq rfl rfl) ?_
  refine LF.nil (PF.next ?_)
  refine CF.if rfl (fun hc8 => ?_) (fun hc8 => ?_)
  refine CF.exit (PF.thenExit (PF.blockOther (PF.thenExit (PF.blockHere (PF.next (CF.seq (CF.region (LF.step (OpOk.move rfl) ?_))))))))
  refine LF.call (OpCall.fnc Try.ent27 rfl rfl) (pStop_ct hin 3 0 hb5 ng5 x24.one1 x9003.one1) ?_
  rintro _ H161 ⟨rfl, k161⟩
  have zk161 := k161.1
  replace hin := hin.kw k161 (by rintro k0 rfl; exact ng5)
  replace hb2 := hb2.kw k161 (by show ¬ _ = _; first | omega | exact Bx.ne hb2 hb5 (by decide))
  replace hb3 := hb3.kw k161 (by show ¬ _ = _; first | omega | exact Bx.ne hb3 hb5 (by decide))
  replace hb4 := hb4.kw k161 (by show ¬ _ = _; first | omega | exact Bx.ne hb4 hb5 (by decide))
  replace hb11 := hb11.kw k161 (by show ¬ _ = _; first | omega | exact Bx.ne hb11 hb5 (by decide))
  replace x24 := x24.kw k161 (by intro k0 h9 e9; subst e9; exact x24.neBx hb5 (by decide) h9)
  replace x33 := x33.kw k161 (by intro k0 h9 e9; subst e9; exact x33.neBx hb5 (by decide) h9)
  replace x9003 := x9003.kw k161 (by intro k0 h9 e9; subst e9; exact x9003.neBx hb5 (by decide) h9)
  replace hkp := hkp.kw k161 (by rintro k0 rfl; omega)
  refine LF.chg0 (OpCh.storeBA hb4 Try.sz33 rfl rfl rfl (allOne.mem (l := [.int .i64 3, .int .i32 0, v24, vc2, .int .i64 s2]) ⟨rfl, rfl, x24.one1, x9003.one1, rfl, trivial⟩) (by decide)) ?_
  rintro _ Hw21 ⟨tw21, bw21⟩
  have ztw21 := tw21.1
  replace hin := hin.tw tw21 ng4
  replace hkp := Tw.kp' hkp tw21 (by omega)
  replace hb2 := hb2.tw tw21 (Bx.ne hb2 hb4 (by decide))
  replace hb3 := hb3.tw tw21 (Bx.ne hb3 hb4 (by decide))
  replace hb11 := hb11.tw tw21 (Bx.ne hb11 hb4 (by decide))
  replace x24 := x24.tw tw21 (x24.neBx hb4 (by decide))
  replace x33 := x33.tw tw21 (x33.neBx hb4 (by decide))
  replace x9003 := x9003.tw tw21 (x9003.neBx hb4 (by decide))
  replace hb4 : Bx _ _ _ [.int .i64 3, .int .i32 0, v24, vc2, .int .i64 s2] := bw21
  clear bw21 tw21
  refine LF.nil (PF.next (CF.ret ?_))
  refine PF.scope ?_ (by simp)
  obtain ⟨Fz22, hxz22, lez22, hinz22, noz22, hrz22⟩ := x24.freezeX hin hx (Nat.le_refl _) (by first | omega | (rw [(stepM_len _ _ _).2]; omega))
  replace hin := hinz22
  replace hx := hxz22
  replace le0 := le0.trans lez22
  replace le1 := le1.trans lez22
  have le2 := lez22
  replace ng2 := (noz22 _ (x24.neBx hb2 (by decide))).trans ng2
  replace ng3 := (noz22 _ (x24.neBx hb3 (by decide))).trans ng3
  replace ng4 := (noz22 _ (x24.neBx hb4 (by decide))).trans ng4
  replace ng11 := (noz22 _ (x24.neBx hb11 (by decide))).trans ng11
  replace x33 := x33.frozen lez22 noz22 ap26_24
  replace x9003 := x9003.frozen lez22 noz22 ap9003_24
  obtain ⟨Fz23, hxz23, lez23, hinz23, noz23, hrz23⟩ := x9003.freezeX hin hx (Nat.le_refl _) (by first | (simp only [List.length_append, List.length_take, List.length_drop, List.length_nil, List.length_cons, List.length_set, List.length_replicate]; omega) | (simp; done) | (simp; omega) | omega)
  replace hin := hinz23
  replace hx := hxz23
  replace le0 := le0.trans lez23
  replace le1 := le1.trans lez23
  replace le2 := le2.trans lez23
  have le3 := lez23
  replace ng2 := (noz23 _ (x9003.neBx hb2 (by decide))).trans ng2
  replace ng3 := (noz23 _ (x9003.neBx hb3 (by decide))).trans ng3
  replace ng4 := (noz23 _ (x9003.neBx hb4 (by decide))).trans ng4
  replace ng11 := (noz23 _ (x9003.neBx hb11 (by decide))).trans ng11
  replace x33 := x33.frozen lez23 noz23 ap26_9003
  have hm : runM m i = (⟨3, 0, me2, cl2, s2⟩) := by
    first | exact run_wrong (by simpa using hc1) | exact ins_stop hI (by omega) hc3 | exact ins_trap hI (by omega) hc3 hc4 (by simpa using hc7) | exact end_stop hI (by omega) hc8 | exact end_ret hI (by omega) hc8 hc9 | exact end_trap hI (by omega) hc8 hc9 hc10
  exact PF.retC rfl rfl hb4 Try.agg33 Try.sz33 ⟨_, hx, hin, hkp, by rw [hm]; exact (rOutcome.mk (m := ⟨3, 0, me2, cl2, s2⟩) (hrz22.up le3) hrz23 (by decide : IntKind.i64.wrap 3 = 3) (by decide : IntKind.i32.wrap 0 = 0) (IntWalk.i64_in s2 (by omega)))⟩
  have hNe := hc8
  refine CF.skip (PF.next (CF.seq (CF.region ?_)))
  refine LF.step (OpOk.fieldAddr (Try.fld33_4) rfl) ?_
  refine LF.step (OpOk.ldBx hb5 Try.one3 rfl rfl) ?_
  refine LF.step (OpOk.add rfl rfl (by omega)) ?_
  refine LF.step (OpOk.fieldAddr (Try.fld33_4) rfl) ?_
  refine LF.chg0 (OpCh.storeB hb5 Try.sz3 rfl rfl rfl (by first | decide | (simp; done))) ?_
  rintro _ Hw24 ⟨tw24, bw24⟩
  have ztw24 := tw24.1
  replace hin := hin.tw tw24 ng5
  replace hkp := Tw.kp' hkp tw24 (by omega)
  replace hb2 := hb2.tw tw24 (Bx.ne hb2 hb5 (by decide))
  replace hb3 := hb3.tw tw24 (Bx.ne hb3 hb5 (by decide))
  replace hb4 := hb4.tw tw24 (by first | omega | assumption | exact Ne.symm (by assumption))
  replace hb11 := hb11.tw tw24 (Bx.ne hb11 hb5 (by decide))
  replace x24 := x24.tw tw24 (x24.neBx hb5 (by decide))
  replace x33 := x33.tw tw24 (x33.neBx hb5 (by decide))
  replace x9003 := x9003.tw tw24 (x9003.neBx hb5 (by decide))
  replace hb5 : Bx _ _ _ [.int .i64 0, .int .i32 0, v24, vc2, .int .i64 (s2 + 1)] := bw24
  clear bw24 tw24
  refine LF.nil (PF.next (CF.seq (CF.seq (CF.region ?_))))
  refine LF.step (OpOk.fieldAddr (Try.fld61_2) rfl) ?_
  refine LF.step (OpOk.fieldAddr (Try.fld55_0) rfl) ?_
  refine LF.step (OpOk.ldBx hb11 Try.one3 rfl rfl) ?_
  refine LF.nil (PF.next (CF.block (CF.seq (CF.region ?_))))
  refine LF.step (OpOk.eql rfl rfl) ?_
  refine LF.step (OpOk.assign rfl) (LF.nil (PF.next ?_))
  refine CF.if rfl (fun hc9 => ?_) (fun hc9 => ?_)
  refine CF.seq (CF.region (LF.step (OpOk.move rfl) (LF.step (OpOk.move rfl) ?_)))
  refine LF.step (OpOk.fieldAddr (Try.fld61_2) rfl) ?_
  refine LF.step (OpOk.fieldAddr (Try.fld55_1) rfl) ?_
  refine LF.step (OpOk.ldBx hb11 Try.one3 rfl rfl) ?_
  refine LF.call (OpCall.fn Try.ent29 rfl rfl) (x33.temp 1073741824 hin (by first | (simp only [List.length_append, List.length_take, List.length_drop, List.length_nil, List.length_cons, List.length_set, List.length_replicate]; omega) | (simp; done) | (simp; omega) | omega) (fun G1 lg1 hin1 hr1 => pGet_ct hin1 hr1 (((ix m.Blocks (Int.toNat ab)).End).A))) ?_
  rintro _ _ ⟨rfl, rfl⟩
  have w141_0 : IntKind.i32.wrap (getM rs2 (((ix m.Blocks (Int.toNat ab)).End).A)) = getM rs2 (((ix m.Blocks (Int.toNat ab)).End).A) := getM_wrG x33 _
  refine LF.call (OpCall.fnc Try.ent27 rfl rfl) (pStop_ct hin 1 (getM rs2 (((ix m.Blocks (Int.toNat ab)).End).A)) hb5 ng5 x24.one1 x9003.one1) ?_
  rintro _ H142 ⟨rfl, k142⟩
  have zk142 := k142.1
  replace hin := hin.kw k142 (by rintro k0 rfl; exact ng5)
  replace hb2 := hb2.kw k142 (by show ¬ _ = _; first | omega | exact Bx.ne hb2 hb5 (by decide))
  replace hb3 := hb3.kw k142 (by show ¬ _ = _; first | omega | exact Bx.ne hb3 hb5 (by decide))
  replace hb4 := hb4.kw k142 (by show ¬ _ = _; first | omega | exact Bx.ne hb4 hb5 (by decide))
  replace hb11 := hb11.kw k142 (by show ¬ _ = _; first | omega | exact Bx.ne hb11 hb5 (by decide))
  replace x24 := x24.kw k142 (by intro k0 h9 e9; subst e9; exact x24.neBx hb5 (by decide) h9)
  replace x33 := x33.kw k142 (by intro k0 h9 e9; subst e9; exact x33.neBx hb5 (by decide) h9)
  replace x9003 := x9003.kw k142 (by intro k0 h9 e9; subst e9; exact x9003.neBx hb5 (by decide) h9)
  replace hkp := hkp.kw k142 (by rintro k0 rfl; omega)
  refine LF.chg0 (OpCh.storeBA hb4 Try.sz33 rfl rfl rfl (allOne.mem (l := [.int .i64 1, .int .i32 (getM rs2 (((ix m.Blocks (Int.toNat ab)).End).A)), v24, vc2, .int .i64 (s2 + 1)]) ⟨rfl, rfl, x24.one1, x9003.one1, rfl, trivial⟩) (by decide)) ?_
  rintro _ Hw25 ⟨tw25, bw25⟩
  have ztw25 := tw25.1
  replace hin := hin.tw tw25 ng4
  replace hkp := Tw.kp' hkp tw25 (by omega)
  replace hb2 := hb2.tw tw25 (Bx.ne hb2 hb4 (by decide))
  replace hb3 := hb3.tw tw25 (Bx.ne hb3 hb4 (by decide))
  replace hb11 := hb11.tw tw25 (Bx.ne hb11 hb4 (by decide))
  replace x24 := x24.tw tw25 (x24.neBx hb4 (by decide))
  replace x33 := x33.tw tw25 (x33.neBx hb4 (by decide))
  replace x9003 := x9003.tw tw25 (x9003.neBx hb4 (by decide))
  replace hb4 : Bx _ _ _ [.int .i64 1, .int .i32 (getM rs2 (((ix m.Blocks (Int.toNat ab)).End).A)), v24, vc2, .int .i64 (s2 + 1)] := bw25
  clear bw25 tw25
  refine LF.nil (PF.next (CF.ret (PF.blockRet (PF.thenRet (PF.blockRet (PF.thenRet (PF.blockRet (PF.thenRet ?_))))))))
  refine PF.scope ?_ (by simp)
  obtain ⟨Fz26, hxz26, lez26, hinz26, noz26, hrz26⟩ := x24.freezeX hin hx (Nat.le_refl _) (by first | omega | (rw [(stepM_len _ _ _).2]; omega))
  replace hin := hinz26
  replace hx := hxz26
  replace le0 := le0.trans lez26
  replace le1 := le1.trans lez26
  have le2 := lez26
  replace ng2 := (noz26 _ (x24.neBx hb2 (by decide))).trans ng2
  replace ng3 := (noz26 _ (x24.neBx hb3 (by decide))).trans ng3
  replace ng4 := (noz26 _ (x24.neBx hb4 (by decide))).trans ng4
  replace ng11 := (noz26 _ (x24.neBx hb11 (by decide))).trans ng11
  replace x33 := x33.frozen lez26 noz26 ap26_24
  replace x9003 := x9003.frozen lez26 noz26 ap9003_24
  obtain ⟨Fz27, hxz27, lez27, hinz27, noz27, hrz27⟩ := x9003.freezeX hin hx (Nat.le_refl _) (by first | (simp only [List.length_append, List.length_take, List.length_drop, List.length_nil, List.length_cons, List.length_set, List.length_replicate]; omega) | (simp; done) | (simp; omega) | omega)
  replace hin := hinz27
  replace hx := hxz27
  replace le0 := le0.trans lez27
  replace le1 := le1.trans lez27
  replace le2 := le2.trans lez27
  have le3 := lez27
  replace ng2 := (noz27 _ (x9003.neBx hb2 (by decide))).trans ng2
  replace ng3 := (noz27 _ (x9003.neBx hb3 (by decide))).trans ng3
  replace ng4 := (noz27 _ (x9003.neBx hb4 (by decide))).trans ng4
  replace ng11 := (noz27 _ (x9003.neBx hb11 (by decide))).trans ng11
  replace x33 := x33.frozen lez27 noz27 ap26_9003
  have hm : runM m i = (⟨1, getM rs2 (((ix m.Blocks (Int.toNat ab)).End).A), me2, cl2, s2 + 1⟩) := by
    first | exact run_wrong (by simpa using hc1) | exact ins_stop hI (by omega) hc3 | exact ins_trap hI (by omega) hc3 hc4 (by simpa using hc7) | exact end_stop hI (by omega) hc8 | exact end_ret hI (by omega) hc8 hc9 | exact end_trap hI (by omega) hc8 hc9 hc10
  exact PF.retC rfl rfl hb4 Try.agg33 Try.sz33 ⟨_, hx, hin, hkp, by rw [hm]; exact (rOutcome.mk (m := ⟨1, getM rs2 (((ix m.Blocks (Int.toNat ab)).End).A), me2, cl2, s2 + 1⟩) (hrz26.up le3) hrz27 (by decide : IntKind.i64.wrap 1 = 1) w141_0 (IntWalk.i64_in (s2 + 1) (by omega)))⟩
  have h7 := hc9
  refine CF.seq (CF.region ?_)
  refine LF.step (OpOk.eql rfl rfl) ?_
  refine LF.step (OpOk.assign rfl) (LF.nil (PF.next ?_))
  refine CF.if rfl (fun hc10 => ?_) (fun hc10 => ?_)
  refine CF.seq (CF.region (LF.step (OpOk.move rfl) ?_))
  refine LF.step (OpOk.fieldAddr (Try.fld61_2) rfl) ?_
  refine LF.step (OpOk.fieldAddr (Try.fld55_4) rfl) ?_
  refine LF.step (OpOk.ldBx hb11 Try.one21 rfl rfl) ?_
  refine LF.call (OpCall.fnc Try.ent27 rfl rfl) (pStop_ct hin 2 (((ix m.Blocks (Int.toNat ab)).End).Imm) hb5 ng5 x24.one1 x9003.one1) ?_
  rintro _ H149 ⟨rfl, k149⟩
  have zk149 := k149.1
  replace hin := hin.kw k149 (by rintro k0 rfl; exact ng5)
  replace hb2 := hb2.kw k149 (by show ¬ _ = _; first | omega | exact Bx.ne hb2 hb5 (by decide))
  replace hb3 := hb3.kw k149 (by show ¬ _ = _; first | omega | exact Bx.ne hb3 hb5 (by decide))
  replace hb4 := hb4.kw k149 (by show ¬ _ = _; first | omega | exact Bx.ne hb4 hb5 (by decide))
  replace hb11 := hb11.kw k149 (by show ¬ _ = _; first | omega | exact Bx.ne hb11 hb5 (by decide))
  replace x24 := x24.kw k149 (by intro k0 h9 e9; subst e9; exact x24.neBx hb5 (by decide) h9)
  replace x33 := x33.kw k149 (by intro k0 h9 e9; subst e9; exact x33.neBx hb5 (by decide) h9)
  replace x9003 := x9003.kw k149 (by intro k0 h9 e9; subst e9; exact x9003.neBx hb5 (by decide) h9)
  replace hkp := hkp.kw k149 (by rintro k0 rfl; omega)
  refine LF.chg0 (OpCh.storeBA hb4 Try.sz33 rfl rfl rfl (allOne.mem (l := [.int .i64 2, .int .i32 (((ix m.Blocks (Int.toNat ab)).End).Imm), v24, vc2, .int .i64 (s2 + 1)]) ⟨rfl, rfl, x24.one1, x9003.one1, rfl, trivial⟩) (by decide)) ?_
  rintro _ Hw28 ⟨tw28, bw28⟩
  have ztw28 := tw28.1
  replace hin := hin.tw tw28 ng4
  replace hkp := Tw.kp' hkp tw28 (by omega)
  replace hb2 := hb2.tw tw28 (Bx.ne hb2 hb4 (by decide))
  replace hb3 := hb3.tw tw28 (Bx.ne hb3 hb4 (by decide))
  replace hb11 := hb11.tw tw28 (Bx.ne hb11 hb4 (by decide))
  replace x24 := x24.tw tw28 (x24.neBx hb4 (by decide))
  replace x33 := x33.tw tw28 (x33.neBx hb4 (by decide))
  replace x9003 := x9003.tw tw28 (x9003.neBx hb4 (by decide))
  replace hb4 : Bx _ _ _ [.int .i64 2, .int .i32 (((ix m.Blocks (Int.toNat ab)).End).Imm), v24, vc2, .int .i64 (s2 + 1)] := bw28
  clear bw28 tw28
  refine LF.nil (PF.next (CF.ret (PF.blockRet (PF.thenRet (PF.blockRet (PF.thenRet (PF.blockRet (PF.thenRet ?_))))))))
  refine PF.scope ?_ (by simp)
  obtain ⟨Fz29, hxz29, lez29, hinz29, noz29, hrz29⟩ := x24.freezeX hin hx (Nat.le_refl _) (by first | omega | (rw [(stepM_len _ _ _).2]; omega))
  replace hin := hinz29
  replace hx := hxz29
  replace le0 := le0.trans lez29
  replace le1 := le1.trans lez29
  have le2 := lez29
  replace ng2 := (noz29 _ (x24.neBx hb2 (by decide))).trans ng2
  replace ng3 := (noz29 _ (x24.neBx hb3 (by decide))).trans ng3
  replace ng4 := (noz29 _ (x24.neBx hb4 (by decide))).trans ng4
  replace ng11 := (noz29 _ (x24.neBx hb11 (by decide))).trans ng11
  replace x33 := x33.frozen lez29 noz29 ap26_24
  replace x9003 := x9003.frozen lez29 noz29 ap9003_24
  obtain ⟨Fz30, hxz30, lez30, hinz30, noz30, hrz30⟩ := x9003.freezeX hin hx (Nat.le_refl _) (by first | (simp only [List.length_append, List.length_take, List.length_drop, List.length_nil, List.length_cons, List.length_set, List.length_replicate]; omega) | (simp; done) | (simp; omega) | omega)
  replace hin := hinz30
  replace hx := hxz30
  replace le0 := le0.trans lez30
  replace le1 := le1.trans lez30
  replace le2 := le2.trans lez30
  have le3 := lez30
  replace ng2 := (noz30 _ (x9003.neBx hb2 (by decide))).trans ng2
  replace ng3 := (noz30 _ (x9003.neBx hb3 (by decide))).trans ng3
  replace ng4 := (noz30 _ (x9003.neBx hb4 (by decide))).trans ng4
  replace ng11 := (noz30 _ (x9003.neBx hb11 (by decide))).trans ng11
  replace x33 := x33.frozen lez30 noz30 ap26_9003
  have hm : runM m i = (⟨2, ((ix m.Blocks (Int.toNat ab)).End).Imm, me2, cl2, s2 + 1⟩) := by
    first | exact run_wrong (by simpa using hc1) | exact ins_stop hI (by omega) hc3 | exact ins_trap hI (by omega) hc3 hc4 (by simpa using hc7) | exact end_stop hI (by omega) hc8 | exact end_ret hI (by omega) hc8 hc9 | exact end_trap hI (by omega) hc8 hc9 hc10
  exact PF.retC rfl rfl hb4 Try.agg33 Try.sz33 ⟨_, hx, hin, hkp, by rw [hm]; exact (rOutcome.mk (m := ⟨2, ((ix m.Blocks (Int.toNat ab)).End).Imm, me2, cl2, s2 + 1⟩) (hrz29.up le3) hrz30 (by decide : IntKind.i64.wrap 2 = 2) (rEnd.w_Imm (m := ((ix m.Blocks (Int.toNat ab)).End)) (rMBlock.k_End h41k)) (IntWalk.i64_in (s2 + 1) (by omega)))⟩
  have h8 := hc10
  have htm := ix_mem (l := (ix m.Blocks (Int.toNat ab)).End.To) (i := Int.toNat (goesM (ix m.Blocks (Int.toNat ab)).End rs2)) (by have := hW.goes hat rs2 hc9 hc10; omega)
  refine CF.skip (PF.blockNormal (PF.next ?_))
  refine CF.any (fun H' => InH Fm H' ∧ Bx H' g2 24 [.int .i64 m.Params, a0c1] ∧ Bx H' g3 27 [a1c0, a1c1, a1c2, .int .i64 i.Steps] ∧ Bx H' g4 33 [.int .i64 0, .int .i32 0, .slice none 0 0, .slice none 0 0, .int .i64 0] ∧ Bx H' g5 33 [.int .i64 0, .int .i32 0, v24, vc2, .int .i64 (s2 + 1)] ∧ Bx H' g11 61 [v41c0, v41c1, .int .i64 (((ix m.Blocks (Int.toNat ab)).End).Op), .int .i64 (((ix m.Blocks (Int.toNat ab)).End).A), .int .i64 (((ix m.Blocks (Int.toNat ab)).End).B), v41c5, .int .i32 (((ix m.Blocks (Int.toNat ab)).End).Imm)] ∧ True) Try.mixed ?_
  refine AF.take 0 rfl (by kernel_rfl) (by kernel_rfl) (by kernel_rfl) ⟨hin, hb2, hb3, hb4, hb5, hb11, trivial⟩ (fun _ ⟨hin, hb2, hb3, hb4, hb5, hb11, _⟩ => OpOk.move rfl) ?_
  refine AF.take 1 rfl (by kernel_rfl) (by kernel_rfl) (by kernel_rfl) ⟨hin, hb2, hb3, hb4, hb5, hb11, trivial⟩ (fun _ ⟨hin, hb2, hb3, hb4, hb5, hb11, _⟩ => OpOk.fieldAddr (Try.fld61_2) rfl) ?_
  refine AF.take 2 rfl (by kernel_rfl) (by kernel_rfl) (by kernel_rfl) ⟨hin, hb2, hb3, hb4, hb5, hb11, trivial⟩ (fun _ ⟨hin, hb2, hb3, hb4, hb5, hb11, _⟩ => OpOk.fieldAddr (Try.fld55_3) rfl) ?_
  refine AF.take 3 rfl (by kernel_rfl) (by kernel_rfl) (by kernel_rfl) ⟨hin, hb2, hb3, hb4, hb5, hb11, trivial⟩ (fun _ ⟨hin, hb2, hb3, hb4, hb5, hb11, _⟩ => OpOk.ldBx hb11 Try.one38 rfl rfl) ?_
  refine AF.take 4 rfl (by kernel_rfl) (by kernel_rfl) (by kernel_rfl) ⟨hin, hb2, hb3, hb4, hb5, hb11, trivial⟩ (fun _ ⟨hin, hb2, hb3, hb4, hb5, hb11, _⟩ => OpOk.fieldAddr (Try.fld61_2) rfl) ?_
  refine AF.take 5 rfl (by kernel_rfl) (by kernel_rfl) (by kernel_rfl) ⟨hin, hb2, hb3, hb4, hb5, hb11, trivial⟩ (fun _ ⟨hin, hb2, hb3, hb4, hb5, hb11, _⟩ => OpOk.ldBxA hb11 Try.agg55 Try.sz55 rfl rfl rfl) ?_
  refine AF.take 6 rfl (by kernel_rfl) (by kernel_rfl) (by kernel_rfl) ⟨hin, hb2, hb3, hb4, hb5, hb11, trivial⟩ (fun _ ⟨hin, hb2, hb3, hb4, hb5, hb11, _⟩ => OpOk.move rfl) ?_
  refine AF.call 7 rfl (by kernel_rfl) (OpCall.fn Try.ent30 rfl rfl) (x33.temp 1073741824 hin (by first | (simp only [List.length_append, List.length_take, List.length_drop, List.length_nil, List.length_cons, List.length_set, List.length_replicate]; omega) | (simp; done) | (simp; omega) | omega) (fun G1 lg1 hin1 hr1 => pGoes_ct hin1 ((rEnd.mk (m := ⟨((ix m.Blocks (Int.toNat ab)).End).Op, ((ix m.Blocks (Int.toNat ab)).End).A, ((ix m.Blocks (Int.toNat ab)).End).B, ((ix m.Blocks (Int.toNat ab)).End).To, ((ix m.Blocks (Int.toNat ab)).End).Imm⟩) (h41c5.up le1) (rEnd.w_Op (m := ((ix m.Blocks (Int.toNat ab)).End)) (rMBlock.k_End h41k)) (rEnd.w_A (m := ((ix m.Blocks (Int.toNat ab)).End)) (rMBlock.k_End h41k)) (rEnd.w_B (m := ((ix m.Blocks (Int.toNat ab)).End)) (rMBlock.k_End h41k)) (rEnd.w_Imm (m := ((ix m.Blocks (Int.toNat ab)).End)) (rMBlock.k_End h41k))).up lg1) hr1)) (by rintro _ _ ⟨_, k⟩; exact ⟨(hin.kp k), (hb2.kp k), (hb3.kp k), (hb4.kp k), (hb5.kp k), (hb11.kp k), trivial⟩) ?_
  rintro _ H157 ⟨rfl, k157⟩
  have zk157 := k157.1
  replace hin := hin.kp k157
  replace hkp := hkp.trans (k157.mono hkp.1)
  replace hb2 := hb2.kp k157
  replace hb3 := hb3.kp k157
  replace hb4 := hb4.kp k157
  replace hb5 := hb5.kp k157
  replace hb11 := hb11.kp k157
  replace x24 := x24.kp k157
  replace x33 := x33.kp k157
  replace x9003 := x9003.kp k157
  have hgo : 0 ≤ goesM (⟨((ix m.Blocks (Int.toNat ab)).End).Op, ((ix m.Blocks (Int.toNat ab)).End).A, ((ix m.Blocks (Int.toNat ab)).End).B, ((ix m.Blocks (Int.toNat ab)).End).To, ((ix m.Blocks (Int.toNat ab)).End).Imm⟩) rs2 ∧ goesM (⟨((ix m.Blocks (Int.toNat ab)).End).Op, ((ix m.Blocks (Int.toNat ab)).End).A, ((ix m.Blocks (Int.toNat ab)).End).B, ((ix m.Blocks (Int.toNat ab)).End).To, ((ix m.Blocks (Int.toNat ab)).End).Imm⟩) rs2 < (ix m.Blocks (Int.toNat ab)).End.To.length := hW.goes hat rs2 hc9 hc10
  refine AF.take 8 rfl (by kernel_rfl) (by kernel_rfl) (by kernel_rfl) ⟨hin, hb2, hb3, hb4, hb5, hb11, trivial⟩ (fun _ ⟨hin, hb2, hb3, hb4, hb5, hb11, _⟩ => OpOk.idxL (i := (Int.toNat (goesM (⟨((ix m.Blocks (Int.toNat ab)).End).Op, ((ix m.Blocks (Int.toNat ab)).End).A, ((ix m.Blocks (Int.toNat ab)).End).B, ((ix m.Blocks (Int.toNat ab)).End).To, ((ix m.Blocks (Int.toNat ab)).End).Imm⟩) rs2))) Try.underlying38 Try.sz3 (h41c5.up le1) rfl rfl (by omega) (by omega)) ?_
  refine AF.take 9 rfl (by kernel_rfl) (by kernel_rfl) (by kernel_rfl) ⟨hin, hb2, hb3, hb4, hb5, hb11, trivial⟩ (fun _ ⟨hin, hb2, hb3, hb4, hb5, hb11, _⟩ => OpOk.ldI hin (rL.ix (h41c5.up le1) (Int.toNat (goesM (⟨((ix m.Blocks (Int.toNat ab)).End).Op, ((ix m.Blocks (Int.toNat ab)).End).A, ((ix m.Blocks (Int.toNat ab)).End).B, ((ix m.Blocks (Int.toNat ab)).End).To, ((ix m.Blocks (Int.toNat ab)).End).Imm⟩) rs2)) (by omega)) Try.one3 rfl) ?_
  refine AF.take 10 rfl (by kernel_rfl) (by kernel_rfl) (by kernel_rfl) ⟨hin, hb2, hb3, hb4, hb5, hb11, trivial⟩ (fun _ ⟨hin, hb2, hb3, hb4, hb5, hb11, _⟩ => OpOk.assign rfl) ?_
  refine AF.take 11 rfl (by kernel_rfl) (by kernel_rfl) (by kernel_rfl) ⟨hin, hb2, hb3, hb4, hb5, hb11, trivial⟩ (fun _ ⟨hin, hb2, hb3, hb4, hb5, hb11, _⟩ => OpOk.assign rfl) ?_
  refine AF.done (by kernel_rfl) ?_
  refine PF.blockNormal ?_
  exact PF.again (f - 1, ix (((ix m.Blocks (Int.toNat ab)).End).To) (Int.toNat (goesM (⟨((ix m.Blocks (Int.toNat ab)).End).Op, ((ix m.Blocks (Int.toNat ab)).End).A, ((ix m.Blocks (Int.toNat ab)).End).B, ((ix m.Blocks (Int.toNat ab)).End).To, ((ix m.Blocks (Int.toNat ab)).End).Imm⟩) rs2)), ab, rs2, me2, cl2, an2, s2 + 1, vc2, va2, Fm) ⟨by dsimp only; omega, end_go hI (by omega) hNe h7 h8, by dsimp only; exact (hW.from1 hat htm).1, by dsimp only; exact (hW.from1 hat htm).2, hrl2, hml2, by dsimp only; omega, by dsimp only; omega, by dsimp only; omega, by dsimp only; omega, han2, hx, le0, hin, hkp, hb2, ng2, hb3, ng3, hb4, ng4, hb5, ng5, x24, x33, x9003, ap24_9003, ap26_9003⟩ ⟨rfl, rfl, rfl, rfl, rfl, rfl, rfl, rfl, rfl, trivial⟩ (by omega)

end Go.Proofs.Ytehibklogdngbaa
