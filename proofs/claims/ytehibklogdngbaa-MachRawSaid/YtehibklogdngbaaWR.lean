/- Walks. Conditions: each contract names its own. -/
import Derived.Test.YtehibklogdngbaaWQ
namespace Go.Proofs.Ytehibklogdngbaa
set_option linter.unusedVariables false
set_option linter.unusedSimpArgs false
set_option linter.unusedSectionVars false
open Go.JE

theorem Try.ent10 : Ent Try.prog 10 := ⟨_, Try.func10, by kernel_rfl, by kernel_rfl⟩
theorem Try.ent12 : Ent Try.prog 12 := ⟨_, Try.func12, by kernel_rfl, by kernel_rfl⟩
theorem Try.ent13 : Ent Try.prog 13 := ⟨_, Try.func13, by kernel_rfl, by kernel_rfl⟩
theorem Try.ent14 : Ent Try.prog 14 := ⟨_, Try.func14, by kernel_rfl, by kernel_rfl⟩
theorem Try.ent8 : Ent Try.prog 8 := ⟨_, Try.func8, by kernel_rfl, by kernel_rfl⟩
theorem Try.ent9 : Ent Try.prog 9 := ⟨_, Try.func9, by kernel_rfl, by kernel_rfl⟩
theorem Try.zero27 : (Try.prog.info? 27).bind (·.zero) = some (.agg #[.slice none 0 0, .slice none 0 0, .slice none 0 0, .int .i64 0]) := by kernel_rfl
-- jacquard/jacquardlaw07.MachRaw: function 3
set_option maxRecDepth 8000 in
set_option maxHeartbeats 4000000 in
theorem machRaw_ct {F : PH} {H : Heap} (hin : InH F H) {a0 : Value} {m : D.MFunc} {N0 : Nat} (p0 : (rMFuncN N0).ra F a0 m) {a1 : Value} {ia : D.Input} {N1 : Nat} (p1 : (rInputN N1).ra F a1 ia) :
    Ct Try.prog 3 #[a0, a1] H (fun v H' => v = .bool ((fun _ _ => true) m ia) ∧ Kp H.size H H') := by
  have p0k := rMFunc.any p0
  obtain ⟨a0c1, rfl, p0c1⟩ := rMFunc.open p0
  have p0c1q := rL.len2 p0c1
  have p1k := rInput.any p1
  obtain ⟨a1c0, a1c1, a1c2, rfl, p1c0, p1c1, p1c2⟩ := rInput.open p1
  have p1c0q := rL.len2 p1c0
  have p1c1q := rL.len2 p1c1
  have p1c2q := rL.len2 p1c2
  have hkp := Kp.refl H.size H
  have hx := PH.ext.refl (H := H) F
  have b1 := i64_rng (rInput.w_Steps (m := ia) p1k)
  refine Ct.enter (args := [.agg #[.int .i64 m.Params, a0c1], .agg #[a1c0, a1c1, a1c2, .int .i64 ia.Steps]]) Try.func3 rfl rfl rfl (fun w0 hw0 => ?_)
  refine CF.seq (CF.region ?_)
  refine LF.chg (OpCh.boxB rfl rfl) ?_
  rintro _ H2 ⟨g2, rfl, eg2, sg2, kg2, hb2⟩
  have ng2 := hin.nope (Nat.le_of_eq eg2.symm)
  have lg2 := hkp.1
  have zkg2 := kg2.1
  replace hin := hin.kp kg2
  replace hkp := hkp.trans (kg2.mono hkp.1)
  clear kg2
  refine LF.chg (OpCh.boxB rfl rfl) ?_
  rintro _ H3 ⟨g3, rfl, eg3, sg3, kg3, hb3⟩
  have ng3 := hin.nope (Nat.le_of_eq eg3.symm)
  have lg3 := hkp.1
  have zkg3 := kg3.1
  replace hin := hin.kp kg3
  replace hkp := hkp.trans (kg3.mono hkp.1)
  replace hb2 := hb2.kp kg3
  clear kg3
  refine LF.step (OpOk.assign rfl) (LF.nil (PF.next (CF.seq (CF.region ?_))))
  refine LF.call (OpCall.fn Try.ent8 rfl rfl) (shown_ct hin ) ?_
  rintro _ H9 ⟨rfl, k9⟩
  have zk9 := k9.1
  replace hin := hin.kp k9
  replace hkp := hkp.trans (k9.mono hkp.1)
  replace hb2 := hb2.kp k9
  replace hb3 := hb3.kp k9
  refine LF.step (OpOk.assign rfl) (LF.nil (PF.next (CF.seq (CF.region ?_))))
  refine LF.step (OpOk.ldBxA hb2 Try.agg24 Try.sz24 rfl rfl rfl) ?_
  refine LF.call (OpCall.fn Try.ent9 rfl rfl) (raw_ct hin p0) ?_
  rintro v11 H11 ⟨F11, x11, i11, k11, h11⟩
  have zk11 := k11.1
  replace hx := hx.trans x11 hkp.1
  replace hkp := hkp.trans (k11.mono hkp.1)
  have l11 := hkp.1
  replace ng2 := x11.no ng2 hb2.lt
  replace hb2 := hb2.kp k11
  replace ng3 := x11.no ng3 hb3.lt
  replace hb3 := hb3.kp k11
  have le0 := x11.1
  have hin := i11
  have h11k := rMFunc.any h11
  obtain ⟨v11c1, rfl, h11c1⟩ := rMFunc.open h11
  have h11c1q := rL.len2 h11c1
  refine LF.chg (OpCh.allocB Try.zero24 rfl) ?_
  rintro _ H6 ⟨g6, rfl, eg6, sg6, kg6, hb6⟩
  have ng6 := hin.nope (Nat.le_of_eq eg6.symm)
  have lg6 := hkp.1
  have nb6_2 : g2 ≠ g6 := by have := hb2.lt; omega
  have zkg6 := kg6.1
  replace hin := hin.kp kg6
  replace hkp := hkp.trans (kg6.mono hkp.1)
  replace hb2 := hb2.kp kg6
  replace hb3 := hb3.kp kg6
  clear kg6
  refine LF.chg0 (OpCh.storeBA hb6 Try.sz24 rfl rfl rfl (allOne.mem (l := [.int .i64 ((rawM m).Params), v11c1]) ⟨rfl, (h11c1.one1), trivial⟩) (by decide)) ?_
  rintro _ Hw1 ⟨tw1, bw1⟩
  have ztw1 := tw1.1
  replace hin := hin.tw tw1 ng6
  replace hkp := Tw.kp' hkp tw1 (by omega)
  replace hb2 := hb2.tw tw1 (by first | omega | assumption | exact Ne.symm (by assumption))
  replace hb3 := hb3.tw tw1 (Bx.ne hb3 hb6 (by decide))
  replace hb6 : Bx _ _ _ [.int .i64 ((rawM m).Params), v11c1] := bw1
  clear bw1 tw1
  refine LF.nil (PF.next (CF.seq ?_))
  refine CF.any (fun H' => InH F11 H' ∧ Bx H' g2 24 [.int .i64 m.Params, a0c1] ∧ Bx H' g3 27 [a1c0, a1c1, a1c2, .int .i64 ia.Steps] ∧ Bx H' g6 24 [.int .i64 ((rawM m).Params), v11c1] ∧ True) Try.mixed ?_
  refine AF.take 0 rfl (by kernel_rfl) (by kernel_rfl) (by kernel_rfl) ⟨hin, hb2, hb3, hb6, trivial⟩ (fun _ ⟨hin, hb2, hb3, hb6, _⟩ => OpOk.fieldAddr (Try.fld27_0) rfl) ?_
  refine AF.take 1 rfl (by kernel_rfl) (by kernel_rfl) (by kernel_rfl) ⟨hin, hb2, hb3, hb6, trivial⟩ (fun _ ⟨hin, hb2, hb3, hb6, _⟩ => OpOk.ldBx hb3 Try.one25 rfl rfl) ?_
  refine AF.take 3 rfl (by kernel_rfl) (by kernel_rfl) (by kernel_rfl) ⟨hin, hb2, hb3, hb6, trivial⟩ (fun _ ⟨hin, hb2, hb3, hb6, _⟩ => OpOk.fieldAddr (Try.fld27_1) rfl) ?_
  refine AF.take 4 rfl (by kernel_rfl) (by kernel_rfl) (by kernel_rfl) ⟨hin, hb2, hb3, hb6, trivial⟩ (fun _ ⟨hin, hb2, hb3, hb6, _⟩ => OpOk.ldBx hb3 Try.one25 rfl rfl) ?_
  refine AF.take 6 rfl (by kernel_rfl) (by kernel_rfl) (by kernel_rfl) ⟨hin, hb2, hb3, hb6, trivial⟩ (fun _ ⟨hin, hb2, hb3, hb6, _⟩ => OpOk.fieldAddr (Try.fld27_2) rfl) ?_
  refine AF.take 7 rfl (by kernel_rfl) (by kernel_rfl) (by kernel_rfl) ⟨hin, hb2, hb3, hb6, trivial⟩ (fun _ ⟨hin, hb2, hb3, hb6, _⟩ => OpOk.ldBx hb3 Try.one25 rfl rfl) ?_
  refine AF.take 9 rfl (by kernel_rfl) (by kernel_rfl) (by kernel_rfl) ⟨hin, hb2, hb3, hb6, trivial⟩ (fun _ ⟨hin, hb2, hb3, hb6, _⟩ => OpOk.fieldAddr (Try.fld27_3) rfl) ?_
  refine AF.take 10 rfl (by kernel_rfl) (by kernel_rfl) (by kernel_rfl) ⟨hin, hb2, hb3, hb6, trivial⟩ (fun _ ⟨hin, hb2, hb3, hb6, _⟩ => OpOk.ldBx hb3 Try.one3 rfl rfl) ?_
  refine AF.take 11 rfl (by kernel_rfl) (by kernel_rfl) (by kernel_rfl) ⟨hin, hb2, hb3, hb6, trivial⟩ (fun _ ⟨hin, hb2, hb3, hb6, _⟩ => OpOk.min3 rfl rfl) ?_
  refine AF.two 2 13 (by kernel_rfl) ?_ ?_
  refine AFN.call rfl (OpCall.fn Try.ent10 rfl rfl) (someF_ct hin (p1c0.up le0)) ?_
  rintro v14 H14 ⟨F14, x14, i14, k14, h14⟩
  have zk14 := k14.1
  replace hx := hx.trans x14 hkp.1
  replace hkp := hkp.trans (k14.mono hkp.1)
  have l14 := hkp.1
  replace ng2 := x14.no ng2 hb2.lt
  replace hb2 := hb2.kp k14
  replace ng3 := x14.no ng3 hb3.lt
  replace hb3 := hb3.kp k14
  replace ng6 := x14.no ng6 hb6.lt
  replace hb6 := hb6.kp k14
  replace le0 := le0.trans x14.1
  have le1 := x14.1
  have hin := i14
  have h14q := rL.len2 h14
  refine ⟨⟨(hin.down le1), hb2, hb3, hb6, trivial⟩, ?_⟩
  refine AF.two 5 13 (by kernel_rfl) ?_ ?_
  refine AFN.call rfl (OpCall.fn Try.ent10 rfl rfl) (someF_ct hin (p1c1.up le0)) ?_
  rintro v17 H17 ⟨F17, x17, i17, k17, h17⟩
  have zk17 := k17.1
  replace hx := hx.trans x17 hkp.1
  replace hkp := hkp.trans (k17.mono hkp.1)
  have l17 := hkp.1
  replace ng2 := x17.no ng2 hb2.lt
  replace hb2 := hb2.kp k17
  replace ng3 := x17.no ng3 hb3.lt
  replace hb3 := hb3.kp k17
  replace ng6 := x17.no ng6 hb6.lt
  replace hb6 := hb6.kp k17
  replace le0 := le0.trans x17.1
  replace le1 := le1.trans x17.1
  have le2 := x17.1
  have hin := i17
  have h17q := rL.len2 h17
  refine ⟨⟨(hin.down le1), hb2, hb3, hb6, trivial⟩, ?_⟩
  refine AF.two 8 13 (by kernel_rfl) ?_ ?_
  refine AFN.call rfl (OpCall.fn Try.ent10 rfl rfl) (someF_ct hin (p1c2.up le0)) ?_
  rintro v20 H20 ⟨F20, x20, i20, k20, h20⟩
  have zk20 := k20.1
  replace hx := hx.trans x20 hkp.1
  replace hkp := hkp.trans (k20.mono hkp.1)
  have l20 := hkp.1
  replace ng2 := x20.no ng2 hb2.lt
  replace hb2 := hb2.kp k20
  replace ng3 := x20.no ng3 hb3.lt
  replace hb3 := hb3.kp k20
  replace ng6 := x20.no ng6 hb6.lt
  replace hb6 := hb6.kp k20
  replace le0 := le0.trans x20.1
  replace le1 := le1.trans x20.1
  replace le2 := le2.trans x20.1
  have le3 := x20.1
  have hin := i20
  have h20q := rL.len2 h20
  refine ⟨⟨(hin.down le1), hb2, hb3, hb6, trivial⟩, ?_⟩
  refine AF.take 12 rfl (by kernel_rfl) (by kernel_rfl) (by kernel_rfl) ⟨(hin.down le1), hb2, hb3, hb6, trivial⟩ (fun _ ⟨hin, hb2, hb3, hb6, _⟩ => OpOk.build (v := .agg #[v14, v17, v20, .int .i64 (min ia.Steps 300)]) rfl (fun w => by obtain ⟨_, a09, c09, e09, _⟩ := (h14.up le2); rw [show (v14 : Value) = _ from e09]; obtain ⟨_, a19, c19, e19, _⟩ := (h17.up le3); rw [show (v17 : Value) = _ from e19]; obtain ⟨_, a29, c29, e29, _⟩ := h20; rw [show (v20 : Value) = _ from e29]; kernel_rfl)) ?_
  refine AF.one 13 (by kernel_rfl) ?_
  refine AFN.chg rfl (OpCh.allocB Try.zero27 rfl) ?_
  rintro _ H7 ⟨g7, rfl, eg7, sg7, kg7, hb7⟩
  have ng7 := hin.nope (Nat.le_of_eq eg7.symm)
  have lg7 := hkp.1
  have nb7_3 : g3 ≠ g7 := by have := hb3.lt; omega
  have zkg7 := kg7.1
  replace hin := hin.kp kg7
  replace hkp := hkp.trans (kg7.mono hkp.1)
  replace hb2 := hb2.kp kg7
  replace hb3 := hb3.kp kg7
  replace hb6 := hb6.kp kg7
  clear kg7
  refine ⟨⟨(hin.down le1), hb2, hb3, hb6, trivial⟩, ?_⟩
  refine AF.one 14 (by kernel_rfl) ?_
  refine AFN.chg0 rfl (OpCh.storeBA hb7 Try.sz27 rfl rfl rfl (allOne.mem (l := [v14, v17, v20, .int .i64 (min ia.Steps 300)]) ⟨((h14.up le2).one1), ((h17.up le3).one1), (h20.one1), rfl, trivial⟩) (by decide)) ?_
  rintro _ Hw2 ⟨tw2, bw2⟩
  have ztw2 := tw2.1
  replace hin := hin.tw tw2 ng7
  replace hkp := Tw.kp' hkp tw2 (by omega)
  replace hb2 := hb2.tw tw2 (Bx.ne hb2 hb7 (by decide))
  replace hb3 := hb3.tw tw2 (by first | omega | assumption | exact Ne.symm (by assumption))
  replace hb6 := hb6.tw tw2 (Bx.ne hb6 hb7 (by decide))
  replace hb7 : Bx _ _ _ [v14, v17, v20, .int .i64 (min ia.Steps 300)] := bw2
  clear bw2 tw2
  refine ⟨⟨(hin.down le1), hb2, hb3, hb6, trivial⟩, ?_⟩
  refine AF.done (by kernel_rfl) ?_
  refine PF.next (CF.seq (CF.region ?_))
  refine LF.step (OpOk.ldBxA hb6 Try.agg24 Try.sz24 rfl rfl rfl) ?_
  refine LF.step (OpOk.ldBxA hb7 Try.agg27 Try.sz27 rfl rfl rfl) ?_
  refine LF.call (OpCall.fn Try.ent11 rfl rfl) (runM_ct hin (h11.up le1) (rInput.mk (m := ⟨someM ia.Args, someM ia.Mem, someM ia.Answers, min ia.Steps 300⟩) (h14.up le2) (h17.up le3) h20 (IntWalk.i64_in (min ia.Steps 300) (by omega))) (by show min _ _ ≤ (1000000 : Int); omega)) ?_
  rintro v27 H27 ⟨F27, x27, i27, k27, h27⟩
  have zk27 := k27.1
  replace hx := hx.trans x27 hkp.1
  replace hkp := hkp.trans (k27.mono hkp.1)
  have l27 := hkp.1
  replace ng2 := x27.no ng2 hb2.lt
  replace hb2 := hb2.kp k27
  replace ng3 := x27.no ng3 hb3.lt
  replace hb3 := hb3.kp k27
  replace ng6 := x27.no ng6 hb6.lt
  replace hb6 := hb6.kp k27
  replace ng7 := x27.no ng7 hb7.lt
  replace hb7 := hb7.kp k27
  replace le0 := le0.trans x27.1
  replace le1 := le1.trans x27.1
  replace le2 := le2.trans x27.1
  replace le3 := le3.trans x27.1
  have le4 := x27.1
  have hin := i27
  have h27k := rOutcome.any h27
  obtain ⟨v27c2, v27c3, rfl, h27c2, h27c3⟩ := rOutcome.open h27
  have h27c2q := rL.len2 h27c2
  have h27c3q := rL.len2 h27c3
  refine LF.chg (OpCh.allocB Try.zero33 rfl) ?_
  rintro _ H8 ⟨g8, rfl, eg8, sg8, kg8, hb8⟩
  have ng8 := hin.nope (Nat.le_of_eq eg8.symm)
  have lg8 := hkp.1
  have zkg8 := kg8.1
  replace hin := hin.kp kg8
  replace hkp := hkp.trans (kg8.mono hkp.1)
  replace hb2 := hb2.kp kg8
  replace hb3 := hb3.kp kg8
  replace hb6 := hb6.kp kg8
  replace hb7 := hb7.kp kg8
  clear kg8
  refine LF.chg0 (OpCh.storeBA hb8 Try.sz33 rfl rfl rfl (allOne.mem (l := [.int .i64 ((runM (rawM m) (⟨someM ia.Args, someM ia.Mem, someM ia.Answers, min ia.Steps 300⟩)).End), .int .i32 ((runM (rawM m) (⟨someM ia.Args, someM ia.Mem, someM ia.Answers, min ia.Steps 300⟩)).Val), v27c2, v27c3, .int .i64 ((runM (rawM m) (⟨someM ia.Args, someM ia.Mem, someM ia.Answers, min ia.Steps 300⟩)).Steps)]) ⟨rfl, rfl, (h27c2.one1), (h27c3.one1), rfl, trivial⟩) (by decide)) ?_
  rintro _ Hw3 ⟨tw3, bw3⟩
  have ztw3 := tw3.1
  replace hin := hin.tw tw3 ng8
  replace hkp := Tw.kp' hkp tw3 (by omega)
  replace hb2 := hb2.tw tw3 (Bx.ne hb2 hb8 (by decide))
  replace hb3 := hb3.tw tw3 (Bx.ne hb3 hb8 (by decide))
  replace hb6 := hb6.tw tw3 (Bx.ne hb6 hb8 (by decide))
  replace hb7 := hb7.tw tw3 (Bx.ne hb7 hb8 (by decide))
  replace hb8 : Bx _ _ _ [.int .i64 ((runM (rawM m) (⟨someM ia.Args, someM ia.Mem, someM ia.Answers, min ia.Steps 300⟩)).End), .int .i32 ((runM (rawM m) (⟨someM ia.Args, someM ia.Mem, someM ia.Answers, min ia.Steps 300⟩)).Val), v27c2, v27c3, .int .i64 ((runM (rawM m) (⟨someM ia.Args, someM ia.Mem, someM ia.Answers, min ia.Steps 300⟩)).Steps)] := bw3
  clear bw3 tw3
  refine LF.nil (PF.next (CF.seq ?_))
  refine CF.any (fun H' => InH F27 H' ∧ Bx H' g2 24 [.int .i64 m.Params, a0c1] ∧ Bx H' g3 27 [a1c0, a1c1, a1c2, .int .i64 ia.Steps] ∧ Bx H' g6 24 [.int .i64 ((rawM m).Params), v11c1] ∧ Bx H' g7 27 [v14, v17, v20, .int .i64 (min ia.Steps 300)] ∧ Bx H' g8 33 [.int .i64 ((runM (rawM m) (⟨someM ia.Args, someM ia.Mem, someM ia.Answers, min ia.Steps 300⟩)).End), .int .i32 ((runM (rawM m) (⟨someM ia.Args, someM ia.Mem, someM ia.Answers, min ia.Steps 300⟩)).Val), v27c2, v27c3, .int .i64 ((runM (rawM m) (⟨someM ia.Args, someM ia.Mem, someM ia.Answers, min ia.Steps 300⟩)).Steps)] ∧ True) Try.mixed ?_
  refine AF.take 0 rfl (by kernel_rfl) (by kernel_rfl) (by kernel_rfl) ⟨hin, hb2, hb3, hb6, hb7, hb8, trivial⟩ (fun _ ⟨hin, hb2, hb3, hb6, hb7, hb8, _⟩ => OpOk.move rfl) ?_
  refine AF.take 1 rfl (by kernel_rfl) (by kernel_rfl) (by kernel_rfl) ⟨hin, hb2, hb3, hb6, hb7, hb8, trivial⟩ (fun _ ⟨hin, hb2, hb3, hb6, hb7, hb8, _⟩ => OpOk.move rfl) ?_
  refine AF.gtakeK 2 rfl (by kernel_rfl) (by kernel_rfl) (by kernel_rfl) ⟨hin, hb2, hb3, hb6, hb7, hb8, trivial⟩ rfl rfl (.t _) (fun _ ⟨hin, hb2, hb3, hb6, hb7, hb8, _⟩ => OpOk.ldBxA hb6 Try.agg24 Try.sz24 rfl rfl rfl) ?_
  refine AF.gcallK 3 rfl (by kernel_rfl) rfl rfl (.t _) (OpCall.fn Try.ent12 rfl rfl) (same_ct hin (h11.up le1)) (by rintro _ _ ⟨_, k⟩; exact ⟨(hin.kp k), (hb2.kp k), (hb3.kp k), (hb6.kp k), (hb7.kp k), (hb8.kp k), trivial⟩) ?_
  rintro _ H31 ⟨rfl, k31⟩
  have zk31 := k31.1
  replace hin := hin.kp k31
  replace hkp := hkp.trans (k31.mono hkp.1)
  replace hb2 := hb2.kp k31
  replace hb3 := hb3.kp k31
  replace hb6 := hb6.kp k31
  replace hb7 := hb7.kp k31
  replace hb8 := hb8.kp k31
  refine AF.take 4 rfl (by kernel_rfl) (by kernel_rfl) (by kernel_rfl) ⟨hin, hb2, hb3, hb6, hb7, hb8, trivial⟩ (fun _ ⟨hin, hb2, hb3, hb6, hb7, hb8, _⟩ => OpOk.pickAnd rfl rfl) ?_
  refine AF.take 5 rfl (by kernel_rfl) (by kernel_rfl) (by kernel_rfl) ⟨hin, hb2, hb3, hb6, hb7, hb8, trivial⟩ (fun _ ⟨hin, hb2, hb3, hb6, hb7, hb8, _⟩ => OpOk.move rfl) ?_
  refine AF.gtakeK 6 rfl (by kernel_rfl) (by kernel_rfl) (by kernel_rfl) ⟨hin, hb2, hb3, hb6, hb7, hb8, trivial⟩ rfl rfl (.t _) (fun _ ⟨hin, hb2, hb3, hb6, hb7, hb8, _⟩ => OpOk.ldBxA hb8 Try.agg33 Try.sz33 rfl rfl rfl) ?_
  refine AF.gtakeK 7 rfl (by kernel_rfl) (by kernel_rfl) (by kernel_rfl) ⟨hin, hb2, hb3, hb6, hb7, hb8, trivial⟩ rfl rfl (.t _) (fun _ ⟨hin, hb2, hb3, hb6, hb7, hb8, _⟩ => OpOk.ldBxA hb6 Try.agg24 Try.sz24 rfl rfl rfl) ?_
  refine AF.gtakeK 8 rfl (by kernel_rfl) (by kernel_rfl) (by kernel_rfl) ⟨hin, hb2, hb3, hb6, hb7, hb8, trivial⟩ rfl rfl (.t _) (fun _ ⟨hin, hb2, hb3, hb6, hb7, hb8, _⟩ => OpOk.ldBxA hb7 Try.agg27 Try.sz27 rfl rfl rfl) ?_
  refine AF.gcallK 9 rfl (by kernel_rfl) rfl rfl (.t _) (OpCall.fn Try.ent14 rfl rfl) (rRun_ct hin (h11.up le1) (rInput.mk (m := ⟨someM ia.Args, someM ia.Mem, someM ia.Answers, min ia.Steps 300⟩) (h14.up le2) (h17.up le3) (h20.up le4) (IntWalk.i64_in (min ia.Steps 300) (by omega))) (by show min _ _ ≤ (1000000 : Int); omega)) (by rintro _ _ ⟨_, _, _, k, _⟩; exact ⟨(hin.kp k), (hb2.kp k), (hb3.kp k), (hb6.kp k), (hb7.kp k), (hb8.kp k), trivial⟩) ?_
  rintro v37 H37 ⟨F37, x37, i37, k37, h37⟩
  have zk37 := k37.1
  replace hx := hx.trans x37 hkp.1
  replace hkp := hkp.trans (k37.mono hkp.1)
  have l37 := hkp.1
  replace ng2 := x37.no ng2 hb2.lt
  replace hb2 := hb2.kp k37
  replace ng3 := x37.no ng3 hb3.lt
  replace hb3 := hb3.kp k37
  replace ng6 := x37.no ng6 hb6.lt
  replace hb6 := hb6.kp k37
  replace ng7 := x37.no ng7 hb7.lt
  replace hb7 := hb7.kp k37
  replace ng8 := x37.no ng8 hb8.lt
  replace hb8 := hb8.kp k37
  replace le0 := le0.trans x37.1
  replace le1 := le1.trans x37.1
  replace le2 := le2.trans x37.1
  replace le3 := le3.trans x37.1
  replace le4 := le4.trans x37.1
  have le5 := x37.1
  have hin := i37
  have h37k := rOutcome.any h37
  obtain ⟨v37c2, v37c3, rfl, h37c2, h37c3⟩ := rOutcome.open h37
  have h37c2q := rL.len2 h37c2
  have h37c3q := rL.len2 h37c3
  refine AF.gcallK 10 rfl (by kernel_rfl) rfl rfl (.t _) (OpCall.fn Try.ent13 rfl rfl) (rAlike_ct hin (h27.up le5) h37) (by rintro _ _ ⟨_, k⟩; exact ⟨((hin.down le5).kp k), (hb2.kp k), (hb3.kp k), (hb6.kp k), (hb7.kp k), (hb8.kp k), trivial⟩) ?_
  rintro _ H38 ⟨rfl, k38⟩
  have zk38 := k38.1
  replace hin := hin.kp k38
  replace hkp := hkp.trans (k38.mono hkp.1)
  replace hb2 := hb2.kp k38
  replace hb3 := hb3.kp k38
  replace hb6 := hb6.kp k38
  replace hb7 := hb7.kp k38
  replace hb8 := hb8.kp k38
  refine AF.take 11 rfl (by kernel_rfl) (by kernel_rfl) (by kernel_rfl) ⟨(hin.down le5), hb2, hb3, hb6, hb7, hb8, trivial⟩ (fun _ ⟨hin, hb2, hb3, hb6, hb7, hb8, _⟩ => OpOk.pickAnd rfl rfl) ?_
  refine AF.take 12 rfl (by kernel_rfl) (by kernel_rfl) (by kernel_rfl) ⟨(hin.down le5), hb2, hb3, hb6, hb7, hb8, trivial⟩ (fun _ ⟨hin, hb2, hb3, hb6, hb7, hb8, _⟩ => OpOk.move rfl) ?_
  refine AF.gtake 13 rfl (by kernel_rfl) (by kernel_rfl) (by kernel_rfl) ⟨(hin.down le5), hb2, hb3, hb6, hb7, hb8, trivial⟩ rfl rfl (.t _) (fun hg _ ⟨hin, hb2, hb3, hb6, hb7, hb8, _⟩ => OpOk.fieldAddr (Try.fld33_0) rfl) ?_
  refine AF.gtake 14 rfl (by kernel_rfl) (by kernel_rfl) (by kernel_rfl) ⟨(hin.down le5), hb2, hb3, hb6, hb7, hb8, trivial⟩ rfl rfl (.t _) (fun hg _ ⟨hin, hb2, hb3, hb6, hb7, hb8, _⟩ => OpOk.ldBx hb8 Try.one3 (evg rfl hg) rfl) ?_
  refine AF.gtake 15 rfl (by kernel_rfl) (by kernel_rfl) (by kernel_rfl) ⟨(hin.down le5), hb2, hb3, hb6, hb7, hb8, trivial⟩ rfl rfl (.t _) (fun hg _ ⟨hin, hb2, hb3, hb6, hb7, hb8, _⟩ => OpOk.eql (evg rfl hg) rfl) ?_
  refine AF.gtake 16 rfl (by kernel_rfl) (by kernel_rfl) (by kernel_rfl) ⟨(hin.down le5), hb2, hb3, hb6, hb7, hb8, trivial⟩ rfl rfl (.t _) (fun hg _ ⟨hin, hb2, hb3, hb6, hb7, hb8, _⟩ => OpOk.ldBxA hb6 Try.agg24 Try.sz24 rfl rfl rfl) ?_
  refine AF.gcallR 17 rfl (by kernel_rfl) rfl rfl (.t _) (fun hg => OpCall.fn Try.ent15 rfl (evl1 (evg rfl hg))) (fun hg => pRight_ct hin (h11.up le1)) (fun _ _ h => h.1) (by rintro _ _ ⟨_, k⟩; exact ⟨((hin.down le5).kp k), (hb2.kp k), (hb3.kp k), (hb6.kp k), (hb7.kp k), (hb8.kp k), trivial⟩) ⟨(hin.down le5), hb2, hb3, hb6, hb7, hb8, trivial⟩ ?_
  intro Hq4 zq4
  have kq4 := gkp2 zq4
  have zkq4 := kq4.1
  replace hin := hin.kp kq4
  replace hkp := hkp.trans (kq4.mono hkp.1)
  replace hb2 := hb2.kp kq4
  replace hb3 := hb3.kp kq4
  replace hb6 := hb6.kp kq4
  replace hb7 := hb7.kp kq4
  replace hb8 := hb8.kp kq4
  clear zq4
  refine AF.gtake 18 rfl (by kernel_rfl) (by kernel_rfl) (by kernel_rfl) ⟨(hin.down le5), hb2, hb3, hb6, hb7, hb8, trivial⟩ rfl rfl (.t _) (fun hg _ ⟨hin, hb2, hb3, hb6, hb7, hb8, _⟩ => OpOk.not (evg rfl hg)) ?_
  refine AF.gtake 19 rfl (by kernel_rfl) (by kernel_rfl) (by kernel_rfl) ⟨(hin.down le5), hb2, hb3, hb6, hb7, hb8, trivial⟩ rfl rfl (.t _) (fun hg _ ⟨hin, hb2, hb3, hb6, hb7, hb8, _⟩ => OpOk.eqlB Try.underlying4 (evg rfl hg) (evg rfl hg)) ?_
  refine AF.take 20 rfl (by kernel_rfl) (by kernel_rfl) (by kernel_rfl) ⟨(hin.down le5), hb2, hb3, hb6, hb7, hb8, trivial⟩ (fun _ ⟨hin, hb2, hb3, hb6, hb7, hb8, _⟩ => OpOk.pickAnd rfl rfl) ?_
  refine AF.take 21 rfl (by kernel_rfl) (by kernel_rfl) (by kernel_rfl) ⟨(hin.down le5), hb2, hb3, hb6, hb7, hb8, trivial⟩ (fun _ ⟨hin, hb2, hb3, hb6, hb7, hb8, _⟩ => OpOk.assign rfl) ?_
  refine AF.done (by kernel_rfl) ?_
  refine PF.next (CF.ret ?_)
  have hm : (fun _ _ => true) m ia = ((alikeO (runM (rawM m) (⟨someM ia.Args, someM ia.Mem, someM ia.Answers, min ia.Steps 300⟩)) (runM (rawM m) (⟨someM ia.Args, someM ia.Mem, someM ia.Answers, min ia.Steps 300⟩))) && ((decide ((runM (rawM m) (⟨someM ia.Args, someM ia.Mem, someM ia.Answers, min ia.Steps 300⟩)).End = 4)) == (!(rightM (rawM m))))) := by
    rw [run_end4, alike_refl]; simp
  exact PF.ret1 rfl rfl ⟨by first | (rw [hm] <;> rfl) | exact (congrArg Value.bool hm).symm, hkp⟩
  refine AFN.chg rfl (OpCh.allocB Try.zero27 rfl) ?_
  rintro _ H7 ⟨g7, rfl, eg7, sg7, kg7, hb7⟩
  have ng7 := hin.nope (Nat.le_of_eq eg7.symm)
  have lg7 := hkp.1
  have nb7_3 : g3 ≠ g7 := by have := hb3.lt; omega
  have zkg7 := kg7.1
  replace hin := hin.kp kg7
  replace hkp := hkp.trans (kg7.mono hkp.1)
  replace hb2 := hb2.kp kg7
  replace hb3 := hb3.kp kg7
  replace hb6 := hb6.kp kg7
  clear kg7
  refine ⟨⟨(hin.down le1), hb2, hb3, hb6, trivial⟩, ?_⟩
  refine AF.call 8 rfl (by kernel_rfl) (OpCall.fn Try.ent10 rfl rfl) (someF_ct hin (p1c2.up le0)) (by rintro _ _ ⟨_, _, _, k, _⟩; exact ⟨((hin.down le1).kp k), (hb2.kp k), (hb3.kp k), (hb6.kp k), trivial⟩) ?_
  rintro v20 H20 ⟨F20, x20, i20, k20, h20⟩
  have zk20 := k20.1
  replace hx := hx.trans x20 hkp.1
  replace hkp := hkp.trans (k20.mono hkp.1)
  have l20 := hkp.1
  replace ng2 := x20.no ng2 hb2.lt
  replace hb2 := hb2.kp k20
  replace ng3 := x20.no ng3 hb3.lt
  replace hb3 := hb3.kp k20
  replace ng6 := x20.no ng6 hb6.lt
  replace hb6 := hb6.kp k20
  replace ng7 := x20.no ng7 hb7.lt
  replace hb7 := hb7.kp k20
  replace le0 := le0.trans x20.1
  replace le1 := le1.trans x20.1
  replace le2 := le2.trans x20.1
  have le3 := x20.1
  have hin := i20
  have h20q := rL.len2 h20
  refine AF.take 12 rfl (by kernel_rfl) (by kernel_rfl) (by kernel_rfl) ⟨(hin.down le1), hb2, hb3, hb6, trivial⟩ (fun _ ⟨hin, hb2, hb3, hb6, _⟩ => OpOk.build (v := .agg #[v14, v17, v20, .int .i64 (min ia.Steps 300)]) rfl (fun w => by obtain ⟨_, a09, c09, e09, _⟩ := (h14.up le2); rw [show (v14 : Value) = _ from e09]; obtain ⟨_, a19, c19, e19, _⟩ := (h17.up le3); rw [show (v17 : Value) = _ from e19]; obtain ⟨_, a29, c29, e29, _⟩ := h20; rw [show (v20 : Value) = _ from e29]; kernel_rfl)) ?_
  refine AF.one 14 (by kernel_rfl) ?_
  refine AFN.chg0 rfl (OpCh.storeBA hb7 Try.sz27 rfl rfl rfl (allOne.mem (l := [v14, v17, v20, .int .i64 (min ia.Steps 300)]) ⟨((h14.up le2).one1), ((h17.up le3).one1), (h20.one1), rfl, trivial⟩) (by decide)) ?_
  rintro _ Hw5 ⟨tw5, bw5⟩
  have ztw5 := tw5.1
  replace hin := hin.tw tw5 ng7
  replace hkp := Tw.kp' hkp tw5 (by omega)
  replace hb2 := hb2.tw tw5 (Bx.ne hb2 hb7 (by decide))
  replace hb3 := hb3.tw tw5 (by first | omega | assumption | exact Ne.symm (by assumption))
  replace hb6 := hb6.tw tw5 (Bx.ne hb6 hb7 (by decide))
  replace hb7 : Bx _ _ _ [v14, v17, v20, .int .i64 (min ia.Steps 300)] := bw5
  clear bw5 tw5
  refine ⟨⟨(hin.down le1), hb2, hb3, hb6, trivial⟩, ?_⟩
  refine AF.done (by kernel_rfl) ?_
  refine PF.next (CF.seq (CF.region ?_))
  refine LF.step (OpOk.ldBxA hb6 Try.agg24 Try.sz24 rfl rfl rfl) ?_
  refine LF.step (OpOk.ldBxA hb7 Try.agg27 Try.sz27 rfl rfl rfl) ?_
  refine LF.call (OpCall.fn Try.ent11 rfl rfl) (runM_ct hin (h11.up le1) (rInput.mk (m := ⟨someM ia.Args, someM ia.Mem, someM ia.Answers, min ia.Steps 300⟩) (h14.up le2) (h17.up le3) h20 (IntWalk.i64_in (min ia.Steps 300) (by omega))) (by show min _ _ ≤ (1000000 : Int); omega)) ?_
  rintro v27 H27 ⟨F27, x27, i27, k27, h27⟩
  have zk27 := k27.1
  replace hx := hx.trans x27 hkp.1
  replace hkp := hkp.trans (k27.mono hkp.1)
  have l27 := hkp.1
  replace ng2 := x27.no ng2 hb2.lt
  replace hb2 := hb2.kp k27
  replace ng3 := x27.no ng3 hb3.lt
  replace hb3 := hb3.kp k27
  replace ng6 := x27.no ng6 hb6.lt
  replace hb6 := hb6.kp k27
  replace ng7 := x27.no ng7 hb7.lt
  replace hb7 := hb7.kp k27
  replace le0 := le0.trans x27.1
  replace le1 := le1.trans x27.1
  replace le2 := le2.trans x27.1
  replace le3 := le3.trans x27.1
  have le4 := x27.1
  have hin := i27
  have h27k := rOutcome.any h27
  obtain ⟨v27c2, v27c3, rfl, h27c2, h27c3⟩ := rOutcome.open h27
  have h27c2q := rL.len2 h27c2
  have h27c3q := rL.len2 h27c3
  refine LF.chg (OpCh.allocB Try.zero33 rfl) ?_
  rintro _ H8 ⟨g8, rfl, eg8, sg8, kg8, hb8⟩
  have ng8 := hin.nope (Nat.le_of_eq eg8.symm)
  have lg8 := hkp.1
  have zkg8 := kg8.1
  replace hin := hin.kp kg8
  replace hkp := hkp.trans (kg8.mono hkp.1)
  replace hb2 := hb2.kp kg8
  replace hb3 := hb3.kp kg8
  replace hb6 := hb6.kp kg8
  replace hb7 := hb7.kp kg8
  clear kg8
  refine LF.chg0 (OpCh.storeBA hb8 Try.sz33 rfl rfl rfl (allOne.mem (l := [.int .i64 ((runM (rawM m) (⟨someM ia.Args, someM ia.Mem, someM ia.Answers, min ia.Steps 300⟩)).End), .int .i32 ((runM (rawM m) (⟨someM ia.Args, someM ia.Mem, someM ia.Answers, min ia.Steps 300⟩)).Val), v27c2, v27c3, .int .i64 ((runM (rawM m) (⟨someM ia.Args, someM ia.Mem, someM ia.Answers, min ia.Steps 300⟩)).Steps)]) ⟨rfl, rfl, (h27c2.one1), (h27c3.one1), rfl, trivial⟩) (by decide)) ?_
  rintro _ Hw6 ⟨tw6, bw6⟩
  have ztw6 := tw6.1
  replace hin := hin.tw tw6 ng8
  replace hkp := Tw.kp' hkp tw6 (by omega)
  replace hb2 := hb2.tw tw6 (Bx.ne hb2 hb8 (by decide))
  replace hb3 := hb3.tw tw6 (Bx.ne hb3 hb8 (by decide))
  replace hb6 := hb6.tw tw6 (Bx.ne hb6 hb8 (by decide))
  replace hb7 := hb7.tw tw6 (Bx.ne hb7 hb8 (by decide))
  replace hb8 : Bx _ _ _ [.int .i64 ((runM (rawM m) (⟨someM ia.Args, someM ia.Mem, someM ia.Answers, min ia.Steps 300⟩)).End), .int .i32 ((runM (rawM m) (⟨someM ia.Args, someM ia.Mem, someM ia.Answers, min ia.Steps 300⟩)).Val), v27c2, v27c3, .int .i64 ((runM (rawM m) (⟨someM ia.Args, someM ia.Mem, someM ia.Answers, min ia.Steps 300⟩)).Steps)] := bw6
  clear bw6 tw6
  refine LF.nil (PF.next (CF.seq ?_))
  refine CF.any (fun H' => InH F27 H' ∧ Bx H' g2 24 [.int .i64 m.Params, a0c1] ∧ Bx H' g3 27 [a1c0, a1c1, a1c2, .int .i64 ia.Steps] ∧ Bx H' g6 24 [.int .i64 ((rawM m).Params), v11c1] ∧ Bx H' g7 27 [v14, v17, v20, .int .i64 (min ia.Steps 300)] ∧ Bx H' g8 33 [.int .i64 ((runM (rawM m) (⟨someM ia.Args, someM ia.Mem, someM ia.Answers, min ia.Steps 300⟩)).End), .int .i32 ((runM (rawM m) (⟨someM ia.Args, someM ia.Mem, someM ia.Answers, min ia.Steps 300⟩)).Val), v27c2, v27c3, .int .i64 ((runM (rawM m) (⟨someM ia.Args, someM ia.Mem, someM ia.Answers, min ia.Steps 300⟩)).Steps)] ∧ True) Try.mixed ?_
  refine AF.take 0 rfl (by kernel_rfl) (by kernel_rfl) (by kernel_rfl) ⟨hin, hb2, hb3, hb6, hb7, hb8, trivial⟩ (fun _ ⟨hin, hb2, hb3, hb6, hb7, hb8, _⟩ => OpOk.move rfl) ?_
  refine AF.take 1 rfl (by kernel_rfl) (by kernel_rfl) (by kernel_rfl) ⟨hin, hb2, hb3, hb6, hb7, hb8, trivial⟩ (fun _ ⟨hin, hb2, hb3, hb6, hb7, hb8, _⟩ => OpOk.move rfl) ?_
  refine AF.gtakeK 2 rfl (by kernel_rfl) (by kernel_rfl) (by kernel_rfl) ⟨hin, hb2, hb3, hb6, hb7, hb8, trivial⟩ rfl rfl (.t _) (fun _ ⟨hin, hb2, hb3, hb6, hb7, hb8, _⟩ => OpOk.ldBxA hb6 Try.agg24 Try.sz24 rfl rfl rfl) ?_
  refine AF.gcallK 3 rfl (by kernel_rfl) rfl rfl (.t _) (OpCall.fn Try.ent12 rfl rfl) (same_ct hin (h11.up le1)) (by rintro _ _ ⟨_, k⟩; exact ⟨(hin.kp k), (hb2.kp k), (hb3.kp k), (hb6.kp k), (hb7.kp k), (hb8.kp k), trivial⟩) ?_
  rintro _ H31 ⟨rfl, k31⟩
  have zk31 := k31.1
  replace hin := hin.kp k31
  replace hkp := hkp.trans (k31.mono hkp.1)
  replace hb2 := hb2.kp k31
  replace hb3 := hb3.kp k31
  replace hb6 := hb6.kp k31
  replace hb7 := hb7.kp k31
  replace hb8 := hb8.kp k31
  refine AF.take 4 rfl (by kernel_rfl) (by kernel_rfl) (by kernel_rfl) ⟨hin, hb2, hb3, hb6, hb7, hb8, trivial⟩ (fun _ ⟨hin, hb2, hb3, hb6, hb7, hb8, _⟩ => OpOk.pickAnd rfl rfl) ?_
  refine AF.take 5 rfl (by kernel_rfl) (by kernel_rfl) (by kernel_rfl) ⟨hin, hb2, hb3, hb6, hb7, hb8, trivial⟩ (fun _ ⟨hin, hb2, hb3, hb6, hb7, hb8, _⟩ => OpOk.move rfl) ?_
  refine AF.gtakeK 6 rfl (by kernel_rfl) (by kernel_rfl) (by kernel_rfl) ⟨hin, hb2, hb3, hb6, hb7, hb8, trivial⟩ rfl rfl (.t _) (fun _ ⟨hin, hb2, hb3, hb6, hb7, hb8, _⟩ => OpOk.ldBxA hb8 Try.agg33 Try.sz33 rfl rfl rfl) ?_
  refine AF.gtakeK 7 rfl (by kernel_rfl) (by kernel_rfl) (by kernel_rfl) ⟨hin, hb2, hb3, hb6, hb7, hb8, trivial⟩ rfl rfl (.t _) (fun _ ⟨hin, hb2, hb3, hb6, hb7, hb8, _⟩ => OpOk.ldBxA hb6 Try.agg24 Try.sz24 rfl rfl rfl) ?_
  refine AF.gtakeK 8 rfl (by kernel_rfl) (by kernel_rfl) (by kernel_rfl) ⟨hin, hb2, hb3, hb6, hb7, hb8, trivial⟩ rfl rfl (.t _) (fun _ ⟨hin, hb2, hb3, hb6, hb7, hb8, _⟩ => OpOk.ldBxA hb7 Try.agg27 Try.sz27 rfl rfl rfl) ?_
  refine AF.gcallK 9 rfl (by kernel_rfl) rfl rfl (.t _) (OpCall.fn Try.ent14 rfl rfl) (rRun_ct hin (h11.up le1) (rInput.mk (m := ⟨someM ia.Args, someM ia.Mem, someM ia.Answers, min ia.Steps 300⟩) (h14.up le2) (h17.up le3) (h20.up le4) (IntWalk.i64_in (min ia.Steps 300) (by omega))) (by show min _ _ ≤ (1000000 : Int); omega)) (by rintro _ _ ⟨_, _, _, k, _⟩; exact ⟨(hin.kp k), (hb2.kp k), (hb3.kp k), (hb6.kp k), (hb7.kp k), (hb8.kp k), trivial⟩) ?_
  rintro v37 H37 ⟨F37, x37, i37, k37, h37⟩
  have zk37 := k37.1
  replace hx := hx.trans x37 hkp.1
  replace hkp := hkp.trans (k37.mono hkp.1)
  have l37 := hkp.1
  replace ng2 := x37.no ng2 hb2.lt
  replace hb2 := hb2.kp k37
  replace ng3 := x37.no ng3 hb3.lt
  replace hb3 := hb3.kp k37
  replace ng6 := x37.no ng6 hb6.lt
  replace hb6 := hb6.kp k37
  replace ng7 := x37.no ng7 hb7.lt
  replace hb7 := hb7.kp k37
  replace ng8 := x37.no ng8 hb8.lt
  replace hb8 := hb8.kp k37
  replace le0 := le0.trans x37.1
  replace le1 := le1.trans x37.1
  replace le2 := le2.trans x37.1
  replace le3 := le3.trans x37.1
  replace le4 := le4.trans x37.1
  have le5 := x37.1
  have hin := i37
  have h37k := rOutcome.any h37
  obtain ⟨v37c2, v37c3, rfl, h37c2, h37c3⟩ := rOutcome.open h37
  have h37c2q := rL.len2 h37c2
  have h37c3q := rL.len2 h37c3
  refine AF.gcallK 10 rfl (by kernel_rfl) rfl rfl (.t _) (OpCall.fn Try.ent13 rfl rfl) (rAlike_ct hin (h27.up le5) h37) (by rintro _ _ ⟨_, k⟩; exact ⟨((hin.down le5).kp k), (hb2.kp k), (hb3.kp k), (hb6.kp k), (hb7.kp k), (hb8.kp k), trivial⟩) ?_
  rintro _ H38 ⟨rfl, k38⟩
  have zk38 := k38.1
  replace hin := hin.kp k38
  replace hkp := hkp.trans (k38.mono hkp.1)
  replace hb2 := hb2.kp k38
  replace hb3 := hb3.kp k38
  replace hb6 := hb6.kp k38
  replace hb7 := hb7.kp k38
  replace hb8 := hb8.kp k38
  refine AF.take 11 rfl (by kernel_rfl) (by kernel_rfl) (by kernel_rfl) ⟨(hin.down le5), hb2, hb3, hb6, hb7, hb8, trivial⟩ (fun _ ⟨hin, hb2, hb3, hb6, hb7, hb8, _⟩ => OpOk.pickAnd rfl rfl) ?_
  refine AF.take 12 rfl (by kernel_rfl) (by kernel_rfl) (by kernel_rfl) ⟨(hin.down le5), hb2, hb3, hb6, hb7, hb8, trivial⟩ (fun _ ⟨hin, hb2, hb3, hb6, hb7, hb8, _⟩ => OpOk.move rfl) ?_
  refine AF.gtake 13 rfl (by kernel_rfl) (by kernel_rfl) (by kernel_rfl) ⟨(hin.down le5), hb2, hb3, hb6, hb7, hb8, trivial⟩ rfl rfl (.t _) (fun hg _ ⟨hin, hb2, hb3, hb6, hb7, hb8, _⟩ => OpOk.fieldAddr (Try.fld33_0) rfl) ?_
  refine AF.gtake 14 rfl (by kernel_rfl) (by kernel_rfl) (by kernel_rfl) ⟨(hin.down le5), hb2, hb3, hb6, hb7, hb8, trivial⟩ rfl rfl (.t _) (fun hg _ ⟨hin, hb2, hb3, hb6, hb7, hb8, _⟩ => OpOk.ldBx hb8 Try.one3 (evg rfl hg) rfl) ?_
  refine AF.gtake 15 rfl (by kernel_rfl) (by kernel_rfl) (by kernel_rfl) ⟨(hin.down le5), hb2, hb3, hb6, hb7, hb8, trivial⟩ rfl rfl (.t _) (fun hg _ ⟨hin, hb2, hb3, hb6, hb7, hb8, _⟩ => OpOk.eql (evg rfl hg) rfl) ?_
  refine AF.gtake 16 rfl (by kernel_rfl) (by kernel_rfl) (by kernel_rfl) ⟨(hin.down le5), hb2, hb3, hb6, hb7, hb8, trivial⟩ rfl rfl (.t _) (fun hg _ ⟨hin, hb2, hb3, hb6, hb7, hb8, _⟩ => OpOk.ldBxA hb6 Try.agg24 Try.sz24 rfl rfl rfl) ?_
  refine AF.gcallR 17 rfl (by kernel_rfl) rfl rfl (.t _) (fun hg => OpCall.fn Try.ent15 rfl (evl1 (evg rfl hg))) (fun hg => pRight_ct hin (h11.up le1)) (fun _ _ h => h.1) (by rintro _ _ ⟨_, k⟩; exact ⟨((hin.down le5).kp k), (hb2.kp k), (hb3.kp k), (hb6.kp k), (hb7.kp k), (hb8.kp k), trivial⟩) ⟨(hin.down le5), hb2, hb3, hb6, hb7, hb8, trivial⟩ ?_
  intro Hq7 zq7
  have kq7 := gkp2 zq7
  have zkq7 := kq7.1
  replace hin := hin.kp kq7
  replace hkp := hkp.trans (kq7.mono hkp.1)
  replace hb2 := hb2.kp kq7
  replace hb3 := hb3.kp kq7
  replace hb6 := hb6.kp kq7
  replace hb7 := hb7.kp kq7
  replace hb8 := hb8.kp kq7
  clear zq7
  refine AF.gtake 18 rfl (by kernel_rfl) (by kernel_rfl) (by kernel_rfl) ⟨(hin.down le5), hb2, hb3, hb6, hb7, hb8, trivial⟩ rfl rfl (.t _) (fun hg _ ⟨hin, hb2, hb3, hb6, hb7, hb8, _⟩ => OpOk.not (evg rfl hg)) ?_
  refine AF.gtake 19 rfl (by kernel_rfl) (by kernel_rfl) (by kernel_rfl) ⟨(hin.down le5), hb2, hb3, hb6, hb7, hb8, trivial⟩ rfl rfl (.t _) (fun hg _ ⟨hin, hb2, hb3, hb6, hb7, hb8, _⟩ => OpOk.eqlB Try.underlying4 (evg rfl hg) (evg rfl hg)) ?_
  refine AF.take 20 rfl (by kernel_rfl) (by kernel_rfl) (by kernel_rfl) ⟨(hin.down le5), hb2, hb3, hb6, hb7, hb8, trivial⟩ (fun _ ⟨hin, hb2, hb3, hb6, hb7, hb8, _⟩ => OpOk.pickAnd rfl rfl) ?_
  refine AF.take 21 rfl (by kernel_rfl) (by kernel_rfl) (by kernel_rfl) ⟨(hin.down le5), hb2, hb3, hb6, hb7, hb8, trivial⟩ (fun _ ⟨hin, hb2, hb3, hb6, hb7, hb8, _⟩ => OpOk.assign rfl) ?_
  refine AF.done (by kernel_rfl) ?_
  refine PF.next (CF.ret ?_)
  have hm : (fun _ _ => true) m ia = ((alikeO (runM (rawM m) (⟨someM ia.Args, someM ia.Mem, someM ia.Answers, min ia.Steps 300⟩)) (runM (rawM m) (⟨someM ia.Args, someM ia.Mem, someM ia.Answers, min ia.Steps 300⟩))) && ((decide ((runM (rawM m) (⟨someM ia.Args, someM ia.Mem, someM ia.Answers, min ia.Steps 300⟩)).End = 4)) == (!(rightM (rawM m))))) := by
    rw [run_end4, alike_refl]; simp
  exact PF.ret1 rfl rfl ⟨by first | (rw [hm] <;> rfl) | exact (congrArg Value.bool hm).symm, hkp⟩
  refine AFN.chg rfl (OpCh.allocB Try.zero27 rfl) ?_
  rintro _ H7 ⟨g7, rfl, eg7, sg7, kg7, hb7⟩
  have ng7 := hin.nope (Nat.le_of_eq eg7.symm)
  have lg7 := hkp.1
  have nb7_3 : g3 ≠ g7 := by have := hb3.lt; omega
  have zkg7 := kg7.1
  replace hin := hin.kp kg7
  replace hkp := hkp.trans (kg7.mono hkp.1)
  replace hb2 := hb2.kp kg7
  replace hb3 := hb3.kp kg7
  replace hb6 := hb6.kp kg7
  clear kg7
  refine ⟨⟨(hin.down le1), hb2, hb3, hb6, trivial⟩, ?_⟩
  refine AF.call 5 rfl (by kernel_rfl) (OpCall.fn Try.ent10 rfl rfl) (someF_ct hin (p1c1.up le0)) (by rintro _ _ ⟨_, _, _, k, _⟩; exact ⟨((hin.down le1).kp k), (hb2.kp k), (hb3.kp k), (hb6.kp k), trivial⟩) ?_
  rintro v17 H17 ⟨F17, x17, i17, k17, h17⟩
  have zk17 := k17.1
  replace hx := hx.trans x17 hkp.1
  replace hkp := hkp.trans (k17.mono hkp.1)
  have l17 := hkp.1
  replace ng2 := x17.no ng2 hb2.lt
  replace hb2 := hb2.kp k17
  replace ng3 := x17.no ng3 hb3.lt
  replace hb3 := hb3.kp k17
  replace ng6 := x17.no ng6 hb6.lt
  replace hb6 := hb6.kp k17
  replace ng7 := x17.no ng7 hb7.lt
  replace hb7 := hb7.kp k17
  replace le0 := le0.trans x17.1
  replace le1 := le1.trans x17.1
  have le2 := x17.1
  have hin := i17
  have h17q := rL.len2 h17
  refine AF.call 8 rfl (by kernel_rfl) (OpCall.fn Try.ent10 rfl rfl) (someF_ct hin (p1c2.up le0)) (by rintro _ _ ⟨_, _, _, k, _⟩; exact ⟨((hin.down le1).kp k), (hb2.kp k), (hb3.kp k), (hb6.kp k), trivial⟩) ?_
  rintro v20 H20 ⟨F20, x20, i20, k20, h20⟩
  have zk20 := k20.1
  replace hx := hx.trans x20 hkp.1
  replace hkp := hkp.trans (k20.mono hkp.1)
  have l20 := hkp.1
  replace ng2 := x20.no ng2 hb2.lt
  replace hb2 := hb2.kp k20
  replace ng3 := x20.no ng3 hb3.lt
  replace hb3 := hb3.kp k20
  replace ng6 := x20.no ng6 hb6.lt
  replace hb6 := hb6.kp k20
  replace ng7 := x20.no ng7 hb7.lt
  replace hb7 := hb7.kp k20
  replace le0 := le0.trans x20.1
  replace le1 := le1.trans x20.1
  replace le2 := le2.trans x20.1
  have le3 := x20.1
  have hin := i20
  have h20q := rL.len2 h20
  refine AF.take 12 rfl (by kernel_rfl) (by kernel_rfl) (by kernel_rfl) ⟨(hin.down le1), hb2, hb3, hb6, trivial⟩ (fun _ ⟨hin, hb2, hb3, hb6, _⟩ => OpOk.build (v := .agg #[v14, v17, v20, .int .i64 (min ia.Steps 300)]) rfl (fun w => by obtain ⟨_, a09, c09, e09, _⟩ := (h14.up le2); rw [show (v14 : Value) = _ from e09]; obtain ⟨_, a19, c19, e19, _⟩ := (h17.up le3); rw [show (v17 : Value) = _ from e19]; obtain ⟨_, a29, c29, e29, _⟩ := h20; rw [show (v20 : Value) = _ from e29]; kernel_rfl)) ?_
  refine AF.one 14 (by kernel_rfl) ?_
  refine AFN.chg0 rfl (OpCh.storeBA hb7 Try.sz27 rfl rfl rfl (allOne.mem (l := [v14, v17, v20, .int .i64 (min ia.Steps 300)]) ⟨((h14.up le2).one1), ((h17.up le3).one1), (h20.one1), rfl, trivial⟩) (by decide)) ?_
  rintro _ Hw8 ⟨tw8, bw8⟩
  have ztw8 := tw8.1
  replace hin := hin.tw tw8 ng7
  replace hkp := Tw.kp' hkp tw8 (by omega)
  replace hb2 := hb2.tw tw8 (Bx.ne hb2 hb7 (by decide))
  replace hb3 := hb3.tw tw8 (by first | omega | assumption | exact Ne.symm (by assumption))
  replace hb6 := hb6.tw tw8 (Bx.ne hb6 hb7 (by decide))
  replace hb7 : Bx _ _ _ [v14, v17, v20, .int .i64 (min ia.Steps 300)] := bw8
  clear bw8 tw8
  refine ⟨⟨(hin.down le1), hb2, hb3, hb6, trivial⟩, ?_⟩
  refine AF.done (by kernel_rfl) ?_
  refine PF.next (CF.seq (CF.region ?_))
  refine LF.step (OpOk.ldBxA hb6 Try.agg24 Try.sz24 rfl rfl rfl) ?_
  refine LF.step (OpOk.ldBxA hb7 Try.agg27 Try.sz27 rfl rfl rfl) ?_
  refine LF.call (OpCall.fn Try.ent11 rfl rfl) (runM_ct hin (h11.up le1) (rInput.mk (m := ⟨someM ia.Args, someM ia.Mem, someM ia.Answers, min ia.Steps 300⟩) (h14.up le2) (h17.up le3) h20 (IntWalk.i64_in (min ia.Steps 300) (by omega))) (by show min _ _ ≤ (1000000 : Int); omega)) ?_
  rintro v27 H27 ⟨F27, x27, i27, k27, h27⟩
  have zk27 := k27.1
  replace hx := hx.trans x27 hkp.1
  replace hkp := hkp.trans (k27.mono hkp.1)
  have l27 := hkp.1
  replace ng2 := x27.no ng2 hb2.lt
  replace hb2 := hb2.kp k27
  replace ng3 := x27.no ng3 hb3.lt
  replace hb3 := hb3.kp k27
  replace ng6 := x27.no ng6 hb6.lt
  replace hb6 := hb6.kp k27
  replace ng7 := x27.no ng7 hb7.lt
  replace hb7 := hb7.kp k27
  replace le0 := le0.trans x27.1
  replace le1 := le1.trans x27.1
  replace le2 := le2.trans x27.1
  replace le3 := le3.trans x27.1
  have le4 := x27.1
  have hin := i27
  have h27k := rOutcome.any h27
  obtain ⟨v27c2, v27c3, rfl, h27c2, h27c3⟩ := rOutcome.open h27
  have h27c2q := rL.len2 h27c2
  have h27c3q := rL.len2 h27c3
  refine LF.chg (OpCh.allocB Try.zero33 rfl) ?_
  rintro _ H8 ⟨g8, rfl, eg8, sg8, kg8, hb8⟩
  have ng8 := hin.nope (Nat.le_of_eq eg8.symm)
  have lg8 := hkp.1
  have zkg8 := kg8.1
  replace hin := hin.kp kg8
  replace hkp := hkp.trans (kg8.mono hkp.1)
  replace hb2 := hb2.kp kg8
  replace hb3 := hb3.kp kg8
  replace hb6 := hb6.kp kg8
  replace hb7 := hb7.kp kg8
  clear kg8
  refine LF.chg0 (OpCh.storeBA hb8 Try.sz33 rfl rfl rfl (allOne.mem (l := [.int .i64 ((runM (rawM m) (⟨someM ia.Args, someM ia.Mem, someM ia.Answers, min ia.Steps 300⟩)).End), .int .i32 ((runM (rawM m) (⟨someM ia.Args, someM ia.Mem, someM ia.Answers, min ia.Steps 300⟩)).Val), v27c2, v27c3, .int .i64 ((runM (rawM m) (⟨someM ia.Args, someM ia.Mem, someM ia.Answers, min ia.Steps 300⟩)).Steps)]) ⟨rfl, rfl, (h27c2.one1), (h27c3.one1), rfl, trivial⟩) (by decide)) ?_
  rintro _ Hw9 ⟨tw9, bw9⟩
  have ztw9 := tw9.1
  replace hin := hin.tw tw9 ng8
  replace hkp := Tw.kp' hkp tw9 (by omega)
  replace hb2 := hb2.tw tw9 (Bx.ne hb2 hb8 (by decide))
  replace hb3 := hb3.tw tw9 (Bx.ne hb3 hb8 (by decide))
  replace hb6 := hb6.tw tw9 (Bx.ne hb6 hb8 (by decide))
  replace hb7 := hb7.tw tw9 (Bx.ne hb7 hb8 (by decide))
  replace hb8 : Bx _ _ _ [.int .i64 ((runM (rawM m) (⟨someM ia.Args, someM ia.Mem, someM ia.Answers, min ia.Steps 300⟩)).End), .int .i32 ((runM (rawM m) (⟨someM ia.Args, someM ia.Mem, someM ia.Answers, min ia.Steps 300⟩)).Val), v27c2, v27c3, .int .i64 ((runM (rawM m) (⟨someM ia.Args, someM ia.Mem, someM ia.Answers, min ia.Steps 300⟩)).Steps)] := bw9
  clear bw9 tw9
  refine LF.nil (PF.next (CF.seq ?_))
  refine CF.any (fun H' => InH F27 H' ∧ Bx H' g2 24 [.int .i64 m.Params, a0c1] ∧ Bx H' g3 27 [a1c0, a1c1, a1c2, .int .i64 ia.Steps] ∧ Bx H' g6 24 [.int .i64 ((rawM m).Params), v11c1] ∧ Bx H' g7 27 [v14, v17, v20, .int .i64 (min ia.Steps 300)] ∧ Bx H' g8 33 [.int .i64 ((runM (rawM m) (⟨someM ia.Args, someM ia.Mem, someM ia.Answers, min ia.Steps 300⟩)).End), .int .i32 ((runM (rawM m) (⟨someM ia.Args, someM ia.Mem, someM ia.Answers, min ia.Steps 300⟩)).Val), v27c2, v27c3, .int .i64 ((runM (rawM m) (⟨someM ia.Args, someM ia.Mem, someM ia.Answers, min ia.Steps 300⟩)).Steps)] ∧ True) Try.mixed ?_
  refine AF.take 0 rfl (by kernel_rfl) (by kernel_rfl) (by kernel_rfl) ⟨hin, hb2, hb3, hb6, hb7, hb8, trivial⟩ (fun _ ⟨hin, hb2, hb3, hb6, hb7, hb8, _⟩ => OpOk.move rfl) ?_
  refine AF.take 1 rfl (by kernel_rfl) (by kernel_rfl) (by kernel_rfl) ⟨hin, hb2, hb3, hb6, hb7, hb8, trivial⟩ (fun _ ⟨hin, hb2, hb3, hb6, hb7, hb8, _⟩ => OpOk.move rfl) ?_
  refine AF.gtakeK 2 rfl (by kernel_rfl) (by kernel_rfl) (by kernel_rfl) ⟨hin, hb2, hb3, hb6, hb7, hb8, trivial⟩ rfl rfl (.t _) (fun _ ⟨hin, hb2, hb3, hb6, hb7, hb8, _⟩ => OpOk.ldBxA hb6 Try.agg24 Try.sz24 rfl rfl rfl) ?_
  refine AF.gcallK 3 rfl (by kernel_rfl) rfl rfl (.t _) (OpCall.fn Try.ent12 rfl rfl) (same_ct hin (h11.up le1)) (by rintro _ _ ⟨_, k⟩; exact ⟨(hin.kp k), (hb2.kp k), (hb3.kp k), (hb6.kp k), (hb7.kp k), (hb8.kp k), trivial⟩) ?_
  rintro _ H31 ⟨rfl, k31⟩
  have zk31 := k31.1
  replace hin := hin.kp k31
  replace hkp := hkp.trans (k31.mono hkp.1)
  replace hb2 := hb2.kp k31
  replace hb3 := hb3.kp k31
  replace hb6 := hb6.kp k31
  replace hb7 := hb7.kp k31
  replace hb8 := hb8.kp k31
  refine AF.take 4 rfl (by kernel_rfl) (by kernel_rfl) (by kernel_rfl) ⟨hin, hb2, hb3, hb6, hb7, hb8, trivial⟩ (fun _ ⟨hin, hb2, hb3, hb6, hb7, hb8, _⟩ => OpOk.pickAnd rfl rfl) ?_
  refine AF.take 5 rfl (by kernel_rfl) (by kernel_rfl) (by kernel_rfl) ⟨hin, hb2, hb3, hb6, hb7, hb8, trivial⟩ (fun _ ⟨hin, hb2, hb3, hb6, hb7, hb8, _⟩ => OpOk.move rfl) ?_
  refine AF.gtakeK 6 rfl (by kernel_rfl) (by kernel_rfl) (by kernel_rfl) ⟨hin, hb2, hb3, hb6, hb7, hb8, trivial⟩ rfl rfl (.t _) (fun _ ⟨hin, hb2, hb3, hb6, hb7, hb8, _⟩ => OpOk.ldBxA hb8 Try.agg33 Try.sz33 rfl rfl rfl) ?_
  refine AF.gtakeK 7 rfl (by kernel_rfl) (by kernel_rfl) (by kernel_rfl) ⟨hin, hb2, hb3, hb6, hb7, hb8, trivial⟩ rfl rfl (.t _) (fun _ ⟨hin, hb2, hb3, hb6, hb7, hb8, _⟩ => OpOk.ldBxA hb6 Try.agg24 Try.sz24 rfl rfl rfl) ?_
  refine AF.gtakeK 8 rfl (by kernel_rfl) (by kernel_rfl) (by kernel_rfl) ⟨hin, hb2, hb3, hb6, hb7, hb8, trivial⟩ rfl rfl (.t _) (fun _ ⟨hin, hb2, hb3, hb6, hb7, hb8, _⟩ => OpOk.ldBxA hb7 Try.agg27 Try.sz27 rfl rfl rfl) ?_
  refine AF.gcallK 9 rfl (by kernel_rfl) rfl rfl (.t _) (OpCall.fn Try.ent14 rfl rfl) (rRun_ct hin (h11.up le1) (rInput.mk (m := ⟨someM ia.Args, someM ia.Mem, someM ia.Answers, min ia.Steps 300⟩) (h14.up le2) (h17.up le3) (h20.up le4) (IntWalk.i64_in (min ia.Steps 300) (by omega))) (by show min _ _ ≤ (1000000 : Int); omega)) (by rintro _ _ ⟨_, _, _, k, _⟩; exact ⟨(hin.kp k), (hb2.kp k), (hb3.kp k), (hb6.kp k), (hb7.kp k), (hb8.kp k), trivial⟩) ?_
  rintro v37 H37 ⟨F37, x37, i37, k37, h37⟩
  have zk37 := k37.1
  replace hx := hx.trans x37 hkp.1
  replace hkp := hkp.trans (k37.mono hkp.1)
  have l37 := hkp.1
  replace ng2 := x37.no ng2 hb2.lt
  replace hb2 := hb2.kp k37
  replace ng3 := x37.no ng3 hb3.lt
  replace hb3 := hb3.kp k37
  replace ng6 := x37.no ng6 hb6.lt
  replace hb6 := hb6.kp k37
  replace ng7 := x37.no ng7 hb7.lt
  replace hb7 := hb7.kp k37
  replace ng8 := x37.no ng8 hb8.lt
  replace hb8 := hb8.kp k37
  replace le0 := le0.trans x37.1
  replace le1 := le1.trans x37.1
  replace le2 := le2.trans x37.1
  replace le3 := le3.trans x37.1
  replace le4 := le4.trans x37.1
  have le5 := x37.1
  have hin := i37
  have h37k := rOutcome.any h37
  obtain ⟨v37c2, v37c3, rfl, h37c2, h37c3⟩ := rOutcome.open h37
  have h37c2q := rL.len2 h37c2
  have h37c3q := rL.len2 h37c3
  refine AF.gcallK 10 rfl (by kernel_rfl) rfl rfl (.t _) (OpCall.fn Try.ent13 rfl rfl) (rAlike_ct hin (h27.up le5) h37) (by rintro _ _ ⟨_, k⟩; exact ⟨((hin.down le5).kp k), (hb2.kp k), (hb3.kp k), (hb6.kp k), (hb7.kp k), (hb8.kp k), trivial⟩) ?_
  rintro _ H38 ⟨rfl, k38⟩
  have zk38 := k38.1
  replace hin := hin.kp k38
  replace hkp := hkp.trans (k38.mono hkp.1)
  replace hb2 := hb2.kp k38
  replace hb3 := hb3.kp k38
  replace hb6 := hb6.kp k38
  replace hb7 := hb7.kp k38
  replace hb8 := hb8.kp k38
  refine AF.take 11 rfl (by kernel_rfl) (by kernel_rfl) (by kernel_rfl) ⟨(hin.down le5), hb2, hb3, hb6, hb7, hb8, trivial⟩ (fun _ ⟨hin, hb2, hb3, hb6, hb7, hb8, _⟩ => OpOk.pickAnd rfl rfl) ?_
  refine AF.take 12 rfl (by kernel_rfl) (by kernel_rfl) (by kernel_rfl) ⟨(hin.down le5), hb2, hb3, hb6, hb7, hb8, trivial⟩ (fun _ ⟨hin, hb2, hb3, hb6, hb7, hb8, _⟩ => OpOk.move rfl) ?_
  refine AF.gtake 13 rfl (by kernel_rfl) (by kernel_rfl) (by kernel_rfl) ⟨(hin.down le5), hb2, hb3, hb6, hb7, hb8, trivial⟩ rfl rfl (.t _) (fun hg _ ⟨hin, hb2, hb3, hb6, hb7, hb8, _⟩ => OpOk.fieldAddr (Try.fld33_0) rfl) ?_
  refine AF.gtake 14 rfl (by kernel_rfl) (by kernel_rfl) (by kernel_rfl) ⟨(hin.down le5), hb2, hb3, hb6, hb7, hb8, trivial⟩ rfl rfl (.t _) (fun hg _ ⟨hin, hb2, hb3, hb6, hb7, hb8, _⟩ => OpOk.ldBx hb8 Try.one3 (evg rfl hg) rfl) ?_
  refine AF.gtake 15 rfl (by kernel_rfl) (by kernel_rfl) (by kernel_rfl) ⟨(hin.down le5), hb2, hb3, hb6, hb7, hb8, trivial⟩ rfl rfl (.t _) (fun hg _ ⟨hin, hb2, hb3, hb6, hb7, hb8, _⟩ => OpOk.eql (evg rfl hg) rfl) ?_
  refine AF.gtake 16 rfl (by kernel_rfl) (by kernel_rfl) (by kernel_rfl) ⟨(hin.down le5), hb2, hb3, hb6, hb7, hb8, trivial⟩ rfl rfl (.t _) (fun hg _ ⟨hin, hb2, hb3, hb6, hb7, hb8, _⟩ => OpOk.ldBxA hb6 Try.agg24 Try.sz24 rfl rfl rfl) ?_
  refine AF.gcallR 17 rfl (by kernel_rfl) rfl rfl (.t _) (fun hg => OpCall.fn Try.ent15 rfl (evl1 (evg rfl hg))) (fun hg => pRight_ct hin (h11.up le1)) (fun _ _ h => h.1) (by rintro _ _ ⟨_, k⟩; exact ⟨((hin.down le5).kp k), (hb2.kp k), (hb3.kp k), (hb6.kp k), (hb7.kp k), (hb8.kp k), trivial⟩) ⟨(hin.down le5), hb2, hb3, hb6, hb7, hb8, trivial⟩ ?_
  intro Hq10 zq10
  have kq10 := gkp2 zq10
  have zkq10 := kq10.1
  replace hin := hin.kp kq10
  replace hkp := hkp.trans (kq10.mono hkp.1)
  replace hb2 := hb2.kp kq10
  replace hb3 := hb3.kp kq10
  replace hb6 := hb6.kp kq10
  replace hb7 := hb7.kp kq10
  replace hb8 := hb8.kp kq10
  clear zq10
  refine AF.gtake 18 rfl (by kernel_rfl) (by kernel_rfl) (by kernel_rfl) ⟨(hin.down le5), hb2, hb3, hb6, hb7, hb8, trivial⟩ rfl rfl (.t _) (fun hg _ ⟨hin, hb2, hb3, hb6, hb7, hb8, _⟩ => OpOk.not (evg rfl hg)) ?_
  refine AF.gtake 19 rfl (by kernel_rfl) (by kernel_rfl) (by kernel_rfl) ⟨(hin.down le5), hb2, hb3, hb6, hb7, hb8, trivial⟩ rfl rfl (.t _) (fun hg _ ⟨hin, hb2, hb3, hb6, hb7, hb8, _⟩ => OpOk.eqlB Try.underlying4 (evg rfl hg) (evg rfl hg)) ?_
  refine AF.take 20 rfl (by kernel_rfl) (by kernel_rfl) (by kernel_rfl) ⟨(hin.down le5), hb2, hb3, hb6, hb7, hb8, trivial⟩ (fun _ ⟨hin, hb2, hb3, hb6, hb7, hb8, _⟩ => OpOk.pickAnd rfl rfl) ?_
  refine AF.take 21 rfl (by kernel_rfl) (by kernel_rfl) (by kernel_rfl) ⟨(hin.down le5), hb2, hb3, hb6, hb7, hb8, trivial⟩ (fun _ ⟨hin, hb2, hb3, hb6, hb7, hb8, _⟩ => OpOk.assign rfl) ?_
  refine AF.done (by kernel_rfl) ?_
  refine PF.next (CF.ret ?_)
  have hm : (fun _ _ => true) m ia = ((alikeO (runM (rawM m) (⟨someM ia.Args, someM ia.Mem, someM ia.Answers, min ia.Steps 300⟩)) (runM (rawM m) (⟨someM ia.Args, someM ia.Mem, someM ia.Answers, min ia.Steps 300⟩))) && ((decide ((runM (rawM m) (⟨someM ia.Args, someM ia.Mem, someM ia.Answers, min ia.Steps 300⟩)).End = 4)) == (!(rightM (rawM m))))) := by
    rw [run_end4, alike_refl]; simp
  exact PF.ret1 rfl rfl ⟨by first | (rw [hm] <;> rfl) | exact (congrArg Value.bool hm).symm, hkp⟩
  refine AFN.chg rfl (OpCh.allocB Try.zero27 rfl) ?_
  rintro _ H7 ⟨g7, rfl, eg7, sg7, kg7, hb7⟩
  have ng7 := hin.nope (Nat.le_of_eq eg7.symm)
  have lg7 := hkp.1
  have nb7_3 : g3 ≠ g7 := by have := hb3.lt; omega
  have zkg7 := kg7.1
  replace hin := hin.kp kg7
  replace hkp := hkp.trans (kg7.mono hkp.1)
  replace hb2 := hb2.kp kg7
  replace hb3 := hb3.kp kg7
  replace hb6 := hb6.kp kg7
  clear kg7
  refine ⟨⟨hin, hb2, hb3, hb6, trivial⟩, ?_⟩
  refine AF.call 2 rfl (by kernel_rfl) (OpCall.fn Try.ent10 rfl rfl) (someF_ct hin (p1c0.up le0)) (by rintro _ _ ⟨_, _, _, k, _⟩; exact ⟨(hin.kp k), (hb2.kp k), (hb3.kp k), (hb6.kp k), trivial⟩) ?_
  rintro v14 H14 ⟨F14, x14, i14, k14, h14⟩
  have zk14 := k14.1
  replace hx := hx.trans x14 hkp.1
  replace hkp := hkp.trans (k14.mono hkp.1)
  have l14 := hkp.1
  replace ng2 := x14.no ng2 hb2.lt
  replace hb2 := hb2.kp k14
  replace ng3 := x14.no ng3 hb3.lt
  replace hb3 := hb3.kp k14
  replace ng6 := x14.no ng6 hb6.lt
  replace hb6 := hb6.kp k14
  replace ng7 := x14.no ng7 hb7.lt
  replace hb7 := hb7.kp k14
  replace le0 := le0.trans x14.1
  have le1 := x14.1
  have hin := i14
  have h14q := rL.len2 h14
  refine AF.call 5 rfl (by kernel_rfl) (OpCall.fn Try.ent10 rfl rfl) (someF_ct hin (p1c1.up le0)) (by rintro _ _ ⟨_, _, _, k, _⟩; exact ⟨((hin.down le1).kp k), (hb2.kp k), (hb3.kp k), (hb6.kp k), trivial⟩) ?_
  rintro v17 H17 ⟨F17, x17, i17, k17, h17⟩
  have zk17 := k17.1
  replace hx := hx.trans x17 hkp.1
  replace hkp := hkp.trans (k17.mono hkp.1)
  have l17 := hkp.1
  replace ng2 := x17.no ng2 hb2.lt
  replace hb2 := hb2.kp k17
  replace ng3 := x17.no ng3 hb3.lt
  replace hb3 := hb3.kp k17
  replace ng6 := x17.no ng6 hb6.lt
  replace hb6 := hb6.kp k17
  replace ng7 := x17.no ng7 hb7.lt
  replace hb7 := hb7.kp k17
  replace le0 := le0.trans x17.1
  replace le1 := le1.trans x17.1
  have le2 := x17.1
  have hin := i17
  have h17q := rL.len2 h17
  refine AF.call 8 rfl (by kernel_rfl) (OpCall.fn Try.ent10 rfl rfl) (someF_ct hin (p1c2.up le0)) (by rintro _ _ ⟨_, _, _, k, _⟩; exact ⟨((hin.down le1).kp k), (hb2.kp k), (hb3.kp k), (hb6.kp k), trivial⟩) ?_
  rintro v20 H20 ⟨F20, x20, i20, k20, h20⟩
  have zk20 := k20.1
  replace hx := hx.trans x20 hkp.1
  replace hkp := hkp.trans (k20.mono hkp.1)
  have l20 := hkp.1
  replace ng2 := x20.no ng2 hb2.lt
  replace hb2 := hb2.kp k20
  replace ng3 := x20.no ng3 hb3.lt
  replace hb3 := hb3.kp k20
  replace ng6 := x20.no ng6 hb6.lt
  replace hb6 := hb6.kp k20
  replace ng7 := x20.no ng7 hb7.lt
  replace hb7 := hb7.kp k20
  replace le0 := le0.trans x20.1
  replace le1 := le1.trans x20.1
  replace le2 := le2.trans x20.1
  have le3 := x20.1
  have hin := i20
  have h20q := rL.len2 h20
  refine AF.take 12 rfl (by kernel_rfl) (by kernel_rfl) (by kernel_rfl) ⟨(hin.down le1), hb2, hb3, hb6, trivial⟩ (fun _ ⟨hin, hb2, hb3, hb6, _⟩ => OpOk.build (v := .agg #[v14, v17, v20, .int .i64 (min ia.Steps 300)]) rfl (fun w => by obtain ⟨_, a09, c09, e09, _⟩ := (h14.up le2); rw [show (v14 : Value) = _ from e09]; obtain ⟨_, a19, c19, e19, _⟩ := (h17.up le3); rw [show (v17 : Value) = _ from e19]; obtain ⟨_, a29, c29, e29, _⟩ := h20; rw [show (v20 : Value) = _ from e29]; kernel_rfl)) ?_
  refine AF.one 14 (by kernel_rfl) ?_
  refine AFN.chg0 rfl (OpCh.storeBA hb7 Try.sz27 rfl rfl rfl (allOne.mem (l := [v14, v17, v20, .int .i64 (min ia.Steps 300)]) ⟨((h14.up le2).one1), ((h17.up le3).one1), (h20.one1), rfl, trivial⟩) (by decide)) ?_
  rintro _ Hw11 ⟨tw11, bw11⟩
  have ztw11 := tw11.1
  replace hin := hin.tw tw11 ng7
  replace hkp := Tw.kp' hkp tw11 (by omega)
  replace hb2 := hb2.tw tw11 (Bx.ne hb2 hb7 (by decide))
  replace hb3 := hb3.tw tw11 (by first | omega | assumption | exact Ne.symm (by assumption))
  replace hb6 := hb6.tw tw11 (Bx.ne hb6 hb7 (by decide))
  replace hb7 : Bx _ _ _ [v14, v17, v20, .int .i64 (min ia.Steps 300)] := bw11
  clear bw11 tw11
  refine ⟨⟨(hin.down le1), hb2, hb3, hb6, trivial⟩, ?_⟩
  refine AF.done (by kernel_rfl) ?_
  refine PF.next (CF.seq (CF.region ?_))
  refine LF.step (OpOk.ldBxA hb6 Try.agg24 Try.sz24 rfl rfl rfl) ?_
  refine LF.step (OpOk.ldBxA hb7 Try.agg27 Try.sz27 rfl rfl rfl) ?_
  refine LF.call (OpCall.fn Try.ent11 rfl rfl) (runM_ct hin (h11.up le1) (rInput.mk (m := ⟨someM ia.Args, someM ia.Mem, someM ia.Answers, min ia.Steps 300⟩) (h14.up le2) (h17.up le3) h20 (IntWalk.i64_in (min ia.Steps 300) (by omega))) (by show min _ _ ≤ (1000000 : Int); omega)) ?_
  rintro v27 H27 ⟨F27, x27, i27, k27, h27⟩
  have zk27 := k27.1
  replace hx := hx.trans x27 hkp.1
  replace hkp := hkp.trans (k27.mono hkp.1)
  have l27 := hkp.1
  replace ng2 := x27.no ng2 hb2.lt
  replace hb2 := hb2.kp k27
  replace ng3 := x27.no ng3 hb3.lt
  replace hb3 := hb3.kp k27
  replace ng6 := x27.no ng6 hb6.lt
  replace hb6 := hb6.kp k27
  replace ng7 := x27.no ng7 hb7.lt
  replace hb7 := hb7.kp k27
  replace le0 := le0.trans x27.1
  replace le1 := le1.trans x27.1
  replace le2 := le2.trans x27.1
  replace le3 := le3.trans x27.1
  have le4 := x27.1
  have hin := i27
  have h27k := rOutcome.any h27
  obtain ⟨v27c2, v27c3, rfl, h27c2, h27c3⟩ := rOutcome.open h27
  have h27c2q := rL.len2 h27c2
  have h27c3q := rL.len2 h27c3
  refine LF.chg (OpCh.allocB Try.zero33 rfl) ?_
  rintro _ H8 ⟨g8, rfl, eg8, sg8, kg8, hb8⟩
  have ng8 := hin.nope (Nat.le_of_eq eg8.symm)
  have lg8 := hkp.1
  have zkg8 := kg8.1
  replace hin := hin.kp kg8
  replace hkp := hkp.trans (kg8.mono hkp.1)
  replace hb2 := hb2.kp kg8
  replace hb3 := hb3.kp kg8
  replace hb6 := hb6.kp kg8
  replace hb7 := hb7.kp kg8
  clear kg8
  refine LF.chg0 (OpCh.storeBA hb8 Try.sz33 rfl rfl rfl (allOne.mem (l := [.int .i64 ((runM (rawM m) (⟨someM ia.Args, someM ia.Mem, someM ia.Answers, min ia.Steps 300⟩)).End), .int .i32 ((runM (rawM m) (⟨someM ia.Args, someM ia.Mem, someM ia.Answers, min ia.Steps 300⟩)).Val), v27c2, v27c3, .int .i64 ((runM (rawM m) (⟨someM ia.Args, someM ia.Mem, someM ia.Answers, min ia.Steps 300⟩)).Steps)]) ⟨rfl, rfl, (h27c2.one1), (h27c3.one1), rfl, trivial⟩) (by decide)) ?_
  rintro _ Hw12 ⟨tw12, bw12⟩
  have ztw12 := tw12.1
  replace hin := hin.tw tw12 ng8
  replace hkp := Tw.kp' hkp tw12 (by omega)
  replace hb2 := hb2.tw tw12 (Bx.ne hb2 hb8 (by decide))
  replace hb3 := hb3.tw tw12 (Bx.ne hb3 hb8 (by decide))
  replace hb6 := hb6.tw tw12 (Bx.ne hb6 hb8 (by decide))
  replace hb7 := hb7.tw tw12 (Bx.ne hb7 hb8 (by decide))
  replace hb8 : Bx _ _ _ [.int .i64 ((runM (rawM m) (⟨someM ia.Args, someM ia.Mem, someM ia.Answers, min ia.Steps 300⟩)).End), .int .i32 ((runM (rawM m) (⟨someM ia.Args, someM ia.Mem, someM ia.Answers, min ia.Steps 300⟩)).Val), v27c2, v27c3, .int .i64 ((runM (rawM m) (⟨someM ia.Args, someM ia.Mem, someM ia.Answers, min ia.Steps 300⟩)).Steps)] := bw12
  clear bw12 tw12
  refine LF.nil (PF.next (CF.seq ?_))
  refine CF.any (fun H' => InH F27 H' ∧ Bx H' g2 24 [.int .i64 m.Params, a0c1] ∧ Bx H' g3 27 [a1c0, a1c1, a1c2, .int .i64 ia.Steps] ∧ Bx H' g6 24 [.int .i64 ((rawM m).Params), v11c1] ∧ Bx H' g7 27 [v14, v17, v20, .int .i64 (min ia.Steps 300)] ∧ Bx H' g8 33 [.int .i64 ((runM (rawM m) (⟨someM ia.Args, someM ia.Mem, someM ia.Answers, min ia.Steps 300⟩)).End), .int .i32 ((runM (rawM m) (⟨someM ia.Args, someM ia.Mem, someM ia.Answers, min ia.Steps 300⟩)).Val), v27c2, v27c3, .int .i64 ((runM (rawM m) (⟨someM ia.Args, someM ia.Mem, someM ia.Answers, min ia.Steps 300⟩)).Steps)] ∧ True) Try.mixed ?_
  refine AF.take 0 rfl (by kernel_rfl) (by kernel_rfl) (by kernel_rfl) ⟨hin, hb2, hb3, hb6, hb7, hb8, trivial⟩ (fun _ ⟨hin, hb2, hb3, hb6, hb7, hb8, _⟩ => OpOk.move rfl) ?_
  refine AF.take 1 rfl (by kernel_rfl) (by kernel_rfl) (by kernel_rfl) ⟨hin, hb2, hb3, hb6, hb7, hb8, trivial⟩ (fun _ ⟨hin, hb2, hb3, hb6, hb7, hb8, _⟩ => OpOk.move rfl) ?_
  refine AF.gtakeK 2 rfl (by kernel_rfl) (by kernel_rfl) (by kernel_rfl) ⟨hin, hb2, hb3, hb6, hb7, hb8, trivial⟩ rfl rfl (.t _) (fun _ ⟨hin, hb2, hb3, hb6, hb7, hb8, _⟩ => OpOk.ldBxA hb6 Try.agg24 Try.sz24 rfl rfl rfl) ?_
  refine AF.gcallK 3 rfl (by kernel_rfl) rfl rfl (.t _) (OpCall.fn Try.ent12 rfl rfl) (same_ct hin (h11.up le1)) (by rintro _ _ ⟨_, k⟩; exact ⟨(hin.kp k), (hb2.kp k), (hb3.kp k), (hb6.kp k), (hb7.kp k), (hb8.kp k), trivial⟩) ?_
  rintro _ H31 ⟨rfl, k31⟩
  have zk31 := k31.1
  replace hin := hin.kp k31
  replace hkp := hkp.trans (k31.mono hkp.1)
  replace hb2 := hb2.kp k31
  replace hb3 := hb3.kp k31
  replace hb6 := hb6.kp k31
  replace hb7 := hb7.kp k31
  replace hb8 := hb8.kp k31
  refine AF.take 4 rfl (by kernel_rfl) (by kernel_rfl) (by kernel_rfl) ⟨hin, hb2, hb3, hb6, hb7, hb8, trivial⟩ (fun _ ⟨hin, hb2, hb3, hb6, hb7, hb8, _⟩ => OpOk.pickAnd rfl rfl) ?_
  refine AF.take 5 rfl (by kernel_rfl) (by kernel_rfl) (by kernel_rfl) ⟨hin, hb2, hb3, hb6, hb7, hb8, trivial⟩ (fun _ ⟨hin, hb2, hb3, hb6, hb7, hb8, _⟩ => OpOk.move rfl) ?_
  refine AF.gtakeK 6 rfl (by kernel_rfl) (by kernel_rfl) (by kernel_rfl) ⟨hin, hb2, hb3, hb6, hb7, hb8, trivial⟩ rfl rfl (.t _) (fun _ ⟨hin, hb2, hb3, hb6, hb7, hb8, _⟩ => OpOk.ldBxA hb8 Try.agg33 Try.sz33 rfl rfl rfl) ?_
  refine AF.gtakeK 7 rfl (by kernel_rfl) (by kernel_rfl) (by kernel_rfl) ⟨hin, hb2, hb3, hb6, hb7, hb8, trivial⟩ rfl rfl (.t _) (fun _ ⟨hin, hb2, hb3, hb6, hb7, hb8, _⟩ => OpOk.ldBxA hb6 Try.agg24 Try.sz24 rfl rfl rfl) ?_
  refine AF.gtakeK 8 rfl (by kernel_rfl) (by kernel_rfl) (by kernel_rfl) ⟨hin, hb2, hb3, hb6, hb7, hb8, trivial⟩ rfl rfl (.t _) (fun _ ⟨hin, hb2, hb3, hb6, hb7, hb8, _⟩ => OpOk.ldBxA hb7 Try.agg27 Try.sz27 rfl rfl rfl) ?_
  refine AF.gcallK 9 rfl (by kernel_rfl) rfl rfl (.t _) (OpCall.fn Try.ent14 rfl rfl) (rRun_ct hin (h11.up le1) (rInput.mk (m := ⟨someM ia.Args, someM ia.Mem, someM ia.Answers, min ia.Steps 300⟩) (h14.up le2) (h17.up le3) (h20.up le4) (IntWalk.i64_in (min ia.Steps 300) (by omega))) (by show min _ _ ≤ (1000000 : Int); omega)) (by rintro _ _ ⟨_, _, _, k, _⟩; exact ⟨(hin.kp k), (hb2.kp k), (hb3.kp k), (hb6.kp k), (hb7.kp k), (hb8.kp k), trivial⟩) ?_
  rintro v37 H37 ⟨F37, x37, i37, k37, h37⟩
  have zk37 := k37.1
  replace hx := hx.trans x37 hkp.1
  replace hkp := hkp.trans (k37.mono hkp.1)
  have l37 := hkp.1
  replace ng2 := x37.no ng2 hb2.lt
  replace hb2 := hb2.kp k37
  replace ng3 := x37.no ng3 hb3.lt
  replace hb3 := hb3.kp k37
  replace ng6 := x37.no ng6 hb6.lt
  replace hb6 := hb6.kp k37
  replace ng7 := x37.no ng7 hb7.lt
  replace hb7 := hb7.kp k37
  replace ng8 := x37.no ng8 hb8.lt
  replace hb8 := hb8.kp k37
  replace le0 := le0.trans x37.1
  replace le1 := le1.trans x37.1
  replace le2 := le2.trans x37.1
  replace le3 := le3.trans x37.1
  replace le4 := le4.trans x37.1
  have le5 := x37.1
  have hin := i37
  have h37k := rOutcome.any h37
  obtain ⟨v37c2, v37c3, rfl, h37c2, h37c3⟩ := rOutcome.open h37
  have h37c2q := rL.len2 h37c2
  have h37c3q := rL.len2 h37c3
  refine AF.gcallK 10 rfl (by kernel_rfl) rfl rfl (.t _) (OpCall.fn Try.ent13 rfl rfl) (rAlike_ct hin (h27.up le5) h37) (by rintro _ _ ⟨_, k⟩; exact ⟨((hin.down le5).kp k), (hb2.kp k), (hb3.kp k), (hb6.kp k), (hb7.kp k), (hb8.kp k), trivial⟩) ?_
  rintro _ H38 ⟨rfl, k38⟩
  have zk38 := k38.1
  replace hin := hin.kp k38
  replace hkp := hkp.trans (k38.mono hkp.1)
  replace hb2 := hb2.kp k38
  replace hb3 := hb3.kp k38
  replace hb6 := hb6.kp k38
  replace hb7 := hb7.kp k38
  replace hb8 := hb8.kp k38
  refine AF.take 11 rfl (by kernel_rfl) (by kernel_rfl) (by kernel_rfl) ⟨(hin.down le5), hb2, hb3, hb6, hb7, hb8, trivial⟩ (fun _ ⟨hin, hb2, hb3, hb6, hb7, hb8, _⟩ => OpOk.pickAnd rfl rfl) ?_
  refine AF.take 12 rfl (by kernel_rfl) (by kernel_rfl) (by kernel_rfl) ⟨(hin.down le5), hb2, hb3, hb6, hb7, hb8, trivial⟩ (fun _ ⟨hin, hb2, hb3, hb6, hb7, hb8, _⟩ => OpOk.move rfl) ?_
  refine AF.gtake 13 rfl (by kernel_rfl) (by kernel_rfl) (by kernel_rfl) ⟨(hin.down le5), hb2, hb3, hb6, hb7, hb8, trivial⟩ rfl rfl (.t _) (fun hg _ ⟨hin, hb2, hb3, hb6, hb7, hb8, _⟩ => OpOk.fieldAddr (Try.fld33_0) rfl) ?_
  refine AF.gtake 14 rfl (by kernel_rfl) (by kernel_rfl) (by kernel_rfl) ⟨(hin.down le5), hb2, hb3, hb6, hb7, hb8, trivial⟩ rfl rfl (.t _) (fun hg _ ⟨hin, hb2, hb3, hb6, hb7, hb8, _⟩ => OpOk.ldBx hb8 Try.one3 (evg rfl hg) rfl) ?_
  refine AF.gtake 15 rfl (by kernel_rfl) (by kernel_rfl) (by kernel_rfl) ⟨(hin.down le5), hb2, hb3, hb6, hb7, hb8, trivial⟩ rfl rfl (.t _) (fun hg _ ⟨hin, hb2, hb3, hb6, hb7, hb8, _⟩ => OpOk.eql (evg rfl hg) rfl) ?_
  refine AF.gtake 16 rfl (by kernel_rfl) (by kernel_rfl) (by kernel_rfl) ⟨(hin.down le5), hb2, hb3, hb6, hb7, hb8, trivial⟩ rfl rfl (.t _) (fun hg _ ⟨hin, hb2, hb3, hb6, hb7, hb8, _⟩ => OpOk.ldBxA hb6 Try.agg24 Try.sz24 rfl rfl rfl) ?_
  refine AF.gcallR 17 rfl (by kernel_rfl) rfl rfl (.t _) (fun hg => OpCall.fn Try.ent15 rfl (evl1 (evg rfl hg))) (fun hg => pRight_ct hin (h11.up le1)) (fun _ _ h => h.1) (by rintro _ _ ⟨_, k⟩; exact ⟨((hin.down le5).kp k), (hb2.kp k), (hb3.kp k), (hb6.kp k), (hb7.kp k), (hb8.kp k), trivial⟩) ⟨(hin.down le5), hb2, hb3, hb6, hb7, hb8, trivial⟩ ?_
  intro Hq13 zq13
  have kq13 := gkp2 zq13
  have zkq13 := kq13.1
  replace hin := hin.kp kq13
  replace hkp := hkp.trans (kq13.mono hkp.1)
  replace hb2 := hb2.kp kq13
  replace hb3 := hb3.kp kq13
  replace hb6 := hb6.kp kq13
  replace hb7 := hb7.kp kq13
  replace hb8 := hb8.kp kq13
  clear zq13
  refine AF.gtake 18 rfl (by kernel_rfl) (by kernel_rfl) (by kernel_rfl) ⟨(hin.down le5), hb2, hb3, hb6, hb7, hb8, trivial⟩ rfl rfl (.t _) (fun hg _ ⟨hin, hb2, hb3, hb6, hb7, hb8, _⟩ => OpOk.not (evg rfl hg)) ?_
  refine AF.gtake 19 rfl (by kernel_rfl) (by kernel_rfl) (by kernel_rfl) ⟨(hin.down le5), hb2, hb3, hb6, hb7, hb8, trivial⟩ rfl rfl (.t _) (fun hg _ ⟨hin, hb2, hb3, hb6, hb7, hb8, _⟩ => OpOk.eqlB Try.underlying4 (evg rfl hg) (evg rfl hg)) ?_
  refine AF.take 20 rfl (by kernel_rfl) (by kernel_rfl) (by kernel_rfl) ⟨(hin.down le5), hb2, hb3, hb6, hb7, hb8, trivial⟩ (fun _ ⟨hin, hb2, hb3, hb6, hb7, hb8, _⟩ => OpOk.pickAnd rfl rfl) ?_
  refine AF.take 21 rfl (by kernel_rfl) (by kernel_rfl) (by kernel_rfl) ⟨(hin.down le5), hb2, hb3, hb6, hb7, hb8, trivial⟩ (fun _ ⟨hin, hb2, hb3, hb6, hb7, hb8, _⟩ => OpOk.assign rfl) ?_
  refine AF.done (by kernel_rfl) ?_
  refine PF.next (CF.ret ?_)
  have hm : (fun _ _ => true) m ia = ((alikeO (runM (rawM m) (⟨someM ia.Args, someM ia.Mem, someM ia.Answers, min ia.Steps 300⟩)) (runM (rawM m) (⟨someM ia.Args, someM ia.Mem, someM ia.Answers, min ia.Steps 300⟩))) && ((decide ((runM (rawM m) (⟨someM ia.Args, someM ia.Mem, someM ia.Answers, min ia.Steps 300⟩)).End = 4)) == (!(rightM (rawM m))))) := by
    rw [run_end4, alike_refl]; simp
  exact PF.ret1 rfl rfl ⟨by first | (rw [hm] <;> rfl) | exact (congrArg Value.bool hm).symm, hkp⟩

end Go.Proofs.Ytehibklogdngbaa
