/- Walks. Conditions: each contract names its own. -/
import Derived.Test.YtcceglmmpbdhiaaWL
namespace Go.Proofs.Ytcceglmmpbdhiaa
set_option linter.unusedVariables false
set_option linter.unusedSimpArgs false
set_option linter.unusedSectionVars false
set_option maxRecDepth 8000
open Go.JE

theorem Try.st2_31 : St2 Try.prog 31 .i64 := ⟨⟨_, _, Try.underlying31, by decide, by decide, rfl, rfl, Try.underlying3, Try.underlying3⟩, by kernel_rfl, by kernel_rfl⟩
-- jacquard/jacquardlaw11.MovesOwn: function 10
theorem movesOwn_ct {F : PH} {H : Heap} (hin : InH F H) {a0 : Value} {s : List Int} {N0 : Nat} (p0 : (rLn N0 (rI .i64)).rv F a0 s) {a1 : Value} {places : List Int} {N1 : Nat} (p1 : (rLn N1 (rI .i32)).rv F a1 places) :
    Ct Try.prog 10 #[a0, a1] H (fun v H' => v = .bool ((fun _ _ => true) s places) ∧ Kp H.size H H') := by
  have q0 := rL.len2 p0
  have q1 := rL.len2 p1
  have hkp := Kp.refl H.size H
  have hx := PH.ext.refl (H := H) F
  refine Ct.enter (args := [a0, a1]) Try.func10 rfl rfl rfl (fun w0 hw0 => ?_)
  refine CF.seq (CF.region (LF.step (OpOk.assign rfl) (LF.nil (PF.next (CF.seq (CF.region ?_))))))
  refine LF.call (OpCall.fn Try.ent12 rfl rfl) (awake_ct hin ) ?_
  rintro _ H18 ⟨rfl, k18⟩
  have zk18 := k18.1
  replace hin := hin.kp k18
  replace hkp := hkp.trans (k18.mono hkp.1)
  refine LF.step (OpOk.assign rfl) (LF.nil (PF.next (CF.seq (CF.region (LF.step (OpOk.move rfl) ?_)))))
  refine LF.call (OpCall.fn Try.ent13 rfl rfl) (made_ct hin p0) ?_
  rintro v20 H20 ⟨F20, x20, i20, k20, h20⟩
  have zk20 := k20.1
  replace hx := hx.trans x20 hkp.1
  replace hkp := hkp.trans (k20.mono hkp.1)
  have l20 := hkp.1
  have le0 := x20.1
  have hin := i20
  have h20q := rL.len2 h20
  refine LF.step (OpOk.assign rfl) (LF.nil (PF.next (CF.seq (CF.region (LF.step (OpOk.move rfl) (LF.step (OpOk.move rfl) ?_))))))
  refine LF.step (OpOk.lenL Try.underlying44 (p1.up le0) rfl) ?_
  refine LF.step (OpOk.min3 rfl rfl) ?_
  refine LF.step (OpOk.sliceHiL (hi := (min places.length 40)) Try.underlying44 Try.sz21 (p1.up le0) hin rfl rfl (by omega) (by omega)) ?_
  have hs25 := (rL.hi (p1.up le0) (min places.length 40) (by omega) (by omega))
  refine LF.step (OpOk.assign rfl) (LF.nil (PF.next (CF.seq (CF.region ?_))))
  refine LF.chg (OpCh.litL (F := F20) (r := (rI .i32)) (l := []) (us := []) (cs := []) Try.underlying44 Try.info21 (by decide) rfl rfl rfl trivial) ?_
  rintro _ H26 ⟨g26, rfl, e26, s26, k26, x26⟩
  have l26 := hkp.1
  replace x26 := (x26 hin).base l26
  have zk26 := k26.1
  replace hin := hin.kp k26
  replace hkp := hkp.trans (k26.mono hkp.1)
  refine LF.step (OpOk.move rfl) ?_
  refine LF.chg (OpCh.appL (r := (rI .i32)) Try.underlying44 Try.info21 (by decide) rfl rfl rfl x26 hs25 hin (by first | (simp only [List.length_append, List.length_take, List.length_drop, List.length_nil, List.length_cons, List.length_set, List.length_replicate]; omega) | (simp; done) | (simp; omega) | omega) (by first | omega | exact hkp.1)) ?_
  rintro v28 H28 ⟨x28, gb28, ob28⟩
  replace hin := hin.grown gb28 x26.no
  replace hkp := gb28.kp hkp (Nat.le_refl _) (fun k0 hk0 => (x26.blk k0 hk0).1)
  rw [List.nil_append] at x28
  refine LF.step (OpOk.assign rfl) (LF.nil (PF.next (CF.seq (CF.region (LF.step (OpOk.move rfl) ?_)))))
  refine LF.call (OpCall.fn Try.ent17 rfl rfl) (pOrder_ct hin h20 15 10 (by first | omega | decide | (simp only [List.length_take]; omega) | (have := made_len s; omega) | (have := orderR_len (madeM s) 15 10 (made_len s); omega) | (simp; omega)) (by decide : IntKind.i64.wrap 15 = 15) (by decide : IntKind.i64.wrap 10 = 10)) ?_
  rintro _ H31 ⟨F31, x31, i31, k31, v310, rfl, h310⟩
  have zk31 := k31.1
  replace hx := hx.trans x31 hkp.1
  replace hkp := hkp.trans (k31.mono hkp.1)
  have l31 := hkp.1
  replace x28 := (x28.ext x31).kp k31
  replace le0 := le0.trans x31.1
  have le1 := x31.1
  have hin := i31
  have h310q := rL.len2 h310
  refine LF.step (OpOk.move rfl) ?_
  refine LF.step (OpOk.extract (v := v310) rfl rfl) ?_
  refine LF.step (OpOk.extract (v := .int .i64 ((orderR (madeM s) 15 10).2)) rfl rfl) ?_
  refine LF.step (OpOk.assign rfl) (LF.step (OpOk.assign rfl) (LF.nil (PF.next (CF.seq (CF.region (LF.step (OpOk.move rfl) (LF.step (OpOk.move rfl) ?_)))))))
  refine LF.call (OpCall.fn Try.ent21 rfl rfl) (pAfter_ct hin (h20.up le1) (hs25.up le1)) ?_
  rintro v36 H36 ⟨x36, k36⟩
  have ap28_36 := ap_new x28.lt x36.ge
  have ap36_28 := ap_sym ap28_36
  replace x36 := x36.base hkp.1
  have zk36 := k36.1
  replace hin := hin.kp k36
  replace hkp := hkp.trans (k36.mono hkp.1)
  replace x28 := x28.kp k36
  refine LF.step (OpOk.assign rfl) (LF.nil (PF.next (CF.seq (CF.region (LF.step (OpOk.move rfl) (LF.step (OpOk.move rfl) ?_))))))
  refine LF.call (OpCall.fn Try.ent23 rfl rfl) (pDo_ct hin h310 (hs25.up le1)) ?_
  rintro v39 H39 ⟨x39, k39⟩
  have ap28_39 := ap_new x28.lt x39.ge
  have ap39_28 := ap_sym ap28_39
  have ap36_39 := ap_new x36.lt x39.ge
  have ap39_36 := ap_sym ap36_39
  replace x39 := x39.base hkp.1
  have zk39 := k39.1
  replace hin := hin.kp k39
  replace hkp := hkp.trans (k39.mono hkp.1)
  replace x28 := x28.kp k39
  replace x36 := x36.kp k39
  refine LF.step (OpOk.assign rfl) (LF.nil (PF.next (CF.seq (CF.seq (CF.region (LF.step (OpOk.assign rfl) (LF.nil (PF.next (CF.block ?_)))))))))
  refine CF.loop (ι := Nat × List Int) (fun z9 H1 => z9.1 ≤ z9.2.length ∧ z9.2.length = (List.take (min places.length 40) places).length ∧ InH F31 H1 ∧ Kp H.size H H1 ∧ Gl (rI .i32) 21 F31 H1 H.size v28 (List.take (min places.length 40) places) ∧ Gl (rI .i32) 21 F31 H1 H.size v36 z9.2 ∧ Gl (rI .i32) 21 F31 H1 H.size v39 (doM ((orderR (madeM s) 15 10).1) (List.take (min places.length 40) places))) (fun z9 => [(0, a0), (4, .bool false), (5, .bool true), (6, v20), (7, (resl 1 a1 0 (min places.length 40))), (8, v28), (11, v36), (12, v39), (13, .int .i64 (↑z9.1))]) (fun z9 => z9.2.length - z9.1) (0, afterP (madeM s) (List.take (min places.length 40) places)) ⟨by dsimp only; omega, by dsimp only; unfold afterP; rw [afterM_len], hin, hkp, x28, x36, x39⟩ ⟨rfl, rfl, rfl, rfl, rfl, rfl, rfl, rfl, eqI (by omega), trivial⟩ ?_
  clear hin hkp x28 x36 x39
  rintro ⟨k1, o1⟩ H1 ⟨hk1, ho1l, hin, hkp, x28, x36, x39⟩
  dsimp only at hk1 ho1l x28 x36 x39 ⊢
  have hl40 : (List.take (min places.length 40) places).length ≤ 40 := by rw [List.length_take]; omega
  refine CF.seq (CF.seq (CF.region (LF.step (OpOk.move rfl) (LF.step (OpOk.move rfl) ?_))))
  refine LF.step (OpOk.lenG Try.underlying44 x36 rfl) ?_
  refine LF.step (OpOk.lss rfl rfl) ?_
  refine LF.nil (PF.next ?_)
  refine CF.if rfl (fun hc1 => ?_) (fun hc1 => ?_)
  refine CF.skip (PF.next (CF.seq (CF.block (CF.region (LF.step (OpOk.move rfl) (LF.step (OpOk.move rfl) ?_))))))
  refine LF.step (OpOk.idxG (i := k1) Try.underlying44 Try.sz21 x36 rfl rfl rfl (by first | omega | (simp only [List.length_replicate, List.length_set, List.length_append, List.length_cons, List.length_nil]; omega) | (simp only [List.length_append, List.length_take, List.length_replicate]; omega))) ?_
  refine LF.chg0 (OpCh.storeG x36 rfl Try.sz21 rfl rfl rfl (by first | omega | (simp only [List.length_replicate, List.length_set, List.length_append, List.length_cons, List.length_nil]; omega) | (simp only [List.length_append, List.length_take, List.length_replicate]; omega)) ⟨rfl, (by decide : IntKind.i32.wrap 7 = 7)⟩) ?_
  rintro _ Hw1 ⟨gw1, qw1, tw1, xw1⟩
  have ztw1 := tw1.1
  replace hin := hin.tw tw1 (x36.no _ qw1)
  replace hkp := Tw.kp' hkp tw1 (x36.blk _ qw1).1
  replace x28 := x28.tw tw1 (ap36_28 _ qw1)
  replace x39 := x39.tw tw1 (ap36_39 _ qw1)
  replace x36 := xw1
  refine LF.nil (PF.blockNormal (PF.next (CF.region (LF.step (OpOk.move rfl) ?_))))
  refine LF.step (OpOk.add rfl rfl (by omega)) ?_
  refine LF.step (OpOk.assign rfl) (LF.nil ?_)
  exact PF.again (k1 + 1, List.set o1 k1 7) ⟨by dsimp only; rw [List.length_set]; omega, by dsimp only; rw [List.length_set]; exact ho1l, hin, hkp, x28, x36, x39⟩ ⟨rfl, rfl, rfl, rfl, rfl, rfl, rfl, rfl, eqI (by omega), trivial⟩ (by dsimp only; rw [List.length_set]; omega)
  refine CF.exit (PF.thenExit (PF.thenExit (PF.blockHere (PF.next (CF.seq (CF.seq (CF.region (LF.step (OpOk.assign rfl) (LF.nil (PF.next (CF.block ?_)))))))))))
  refine CF.loop (ι := Nat × List Int) (fun z9 H1 => z9.1 ≤ z9.2.length ∧ z9.2.length = (List.take (min places.length 40) places).length ∧ InH F31 H1 ∧ Kp H.size H H1 ∧ Gl (rI .i32) 21 F31 H1 H.size v28 (List.take (min places.length 40) places) ∧ Gl (rI .i32) 21 F31 H1 H.size v36 o1 ∧ Gl (rI .i32) 21 F31 H1 H.size v39 z9.2) (fun z9 => [(0, a0), (4, .bool false), (5, .bool true), (6, v20), (7, (resl 1 a1 0 (min places.length 40))), (8, v28), (12, v39), (14, .int .i64 (↑z9.1))]) (fun z9 => z9.2.length - z9.1) (0, doM ((orderR (madeM s) 15 10).1) (List.take (min places.length 40) places)) ⟨by dsimp only; omega, by dsimp only; rw [doM_len], hin, hkp, x28, x36, x39⟩ ⟨rfl, rfl, rfl, rfl, rfl, rfl, rfl, eqI (by omega), trivial⟩ ?_
  clear hin hkp x28 x36 x39
  rintro ⟨k2, o2⟩ H1 ⟨hk2, ho2l, hin, hkp, x28, x36, x39⟩
  dsimp only at hk2 ho2l x28 x36 x39 ⊢
  refine CF.seq (CF.seq (CF.region (LF.step (OpOk.move rfl) (LF.step (OpOk.move rfl) ?_))))
  refine LF.step (OpOk.lenG Try.underlying44 x39 rfl) ?_
  refine LF.step (OpOk.lss rfl rfl) ?_
  refine LF.nil (PF.next ?_)
  refine CF.if rfl (fun hc2 => ?_) (fun hc2 => ?_)
  refine CF.skip (PF.next (CF.seq (CF.block (CF.region (LF.step (OpOk.move rfl) (LF.step (OpOk.move rfl) ?_))))))
  refine LF.step (OpOk.idxG (i := k2) Try.underlying44 Try.sz21 x39 rfl rfl rfl (by first | omega | (simp only [List.length_replicate, List.length_set, List.length_append, List.length_cons, List.length_nil]; omega) | (simp only [List.length_append, List.length_take, List.length_replicate]; omega))) ?_
  refine LF.chg0 (OpCh.storeG x39 rfl Try.sz21 rfl rfl rfl (by first | omega | (simp only [List.length_replicate, List.length_set, List.length_append, List.length_cons, List.length_nil]; omega) | (simp only [List.length_append, List.length_take, List.length_replicate]; omega)) ⟨rfl, (by decide : IntKind.i32.wrap 9 = 9)⟩) ?_
  rintro _ Hw2 ⟨gw2, qw2, tw2, xw2⟩
  have ztw2 := tw2.1
  replace hin := hin.tw tw2 (x39.no _ qw2)
  replace hkp := Tw.kp' hkp tw2 (x39.blk _ qw2).1
  replace x28 := x28.tw tw2 (ap39_28 _ qw2)
  replace x36 := x36.tw tw2 (ap39_36 _ qw2)
  replace x39 := xw2
  refine LF.nil (PF.blockNormal (PF.next (CF.region (LF.step (OpOk.move rfl) ?_))))
  refine LF.step (OpOk.add rfl rfl (by omega)) ?_
  refine LF.step (OpOk.assign rfl) (LF.nil ?_)
  exact PF.again (k2 + 1, List.set o2 k2 9) ⟨by dsimp only; rw [List.length_set]; omega, by dsimp only; rw [List.length_set]; exact ho2l, hin, hkp, x28, x36, x39⟩ ⟨rfl, rfl, rfl, rfl, rfl, rfl, rfl, eqI (by omega), trivial⟩ (by dsimp only; rw [List.length_set]; omega)
  refine CF.exit (PF.thenExit (PF.thenExit (PF.blockHere (PF.next (CF.seq (CF.region (LF.step (OpOk.move rfl) (LF.step (OpOk.move rfl) ?_))))))))
  refine LF.call (OpCall.fn Try.ent22 rfl rfl) (x28.temp 1073741824 hin (by first | (simp only [List.length_append, List.length_take, List.length_drop, List.length_nil, List.length_cons, List.length_set, List.length_replicate]; omega) | (simp; done) | (simp; omega) | omega) (fun G1 lg1 hin1 hr1 => words_ct hin1 ((hs25.up le1).up lg1) hr1)) ?_
  rintro _ _ ⟨rfl, rfl⟩
  refine LF.step (OpOk.assign rfl) (LF.nil (PF.next (CF.seq (CF.region (LF.step (OpOk.move rfl) ?_)))))
  refine LF.call (OpCall.fn Try.ent13 rfl rfl) (made_ct hin (p0.up le0)) ?_
  rintro v62 H62 ⟨F62, x62, i62, k62, h62⟩
  have zk62 := k62.1
  replace hx := hx.trans x62 hkp.1
  replace hkp := hkp.trans (k62.mono hkp.1)
  have l62 := hkp.1
  replace x28 := (x28.ext x62).kp k62
  replace x36 := (x36.ext x62).kp k62
  replace x39 := (x39.ext x62).kp k62
  replace le0 := le0.trans x62.1
  replace le1 := le1.trans x62.1
  have le2 := x62.1
  have hin := i62
  have h62q := rL.len2 h62
  refine LF.step (OpOk.assign rfl) (LF.nil (PF.next (CF.seq (CF.seq (CF.region (LF.step (OpOk.assign rfl) (LF.nil (PF.next (CF.block ?_)))))))))
  refine CF.loop (ι := Nat) (fun k H1 => k ≤ (madeM s).length ∧ InH F62 H1 ∧ Kp H.size H H1 ∧ Gl (rI .i32) 21 F62 H1 H.size v28 (List.take (min places.length 40) places) ∧ Gl (rI .i32) 21 F62 H1 H.size v36 o1 ∧ Gl (rI .i32) 21 F62 H1 H.size v39 o2) (fun k => [(5, .bool true), (6, v20), (15, .bool (rowsM (List.take (min places.length 40) places) (List.take (min places.length 40) places))), (16, v62), (17, .int .i64 (↑k))]) (fun k => (madeM s).length - k) 0 ⟨by omega, hin, hkp, x28, x36, x39⟩ ⟨rfl, rfl, rfl, rfl, eqI (by omega), trivial⟩ ?_
  clear hin hkp x28 x36 x39
  rintro k H1 ⟨hk, hin, hkp, x28, x36, x39⟩
  refine CF.seq (CF.seq (CF.region (LF.step (OpOk.move rfl) (LF.step (OpOk.move rfl) ?_))))
  refine LF.step (OpOk.lenL Try.underlying22 (h20.up le1) rfl) ?_
  refine LF.step (OpOk.lss rfl rfl) ?_
  refine LF.nil (PF.next ?_)
  refine CF.if rfl (fun hc3 => ?_) (fun hc3 => ?_)
  refine CF.skip (PF.next (CF.seq (CF.block (CF.seq ?_))))
  refine CF.still Try.mixed (by kernel_rfl) ?_
  refine LS.step (OpOk.move rfl) (LS.step (OpOk.move rfl) ?_)
  refine LS.step (OpOk.idxL (i := k) Try.underlying22 Try.sz31 (h20.up le1) rfl rfl rfl (by omega)) ?_
  refine LS.stepE (OpOk.ldA hin (rL.ix (h20.up le1) k (by omega)) Try.agg31 Try.sz31 rfl) ?_
  intro v72 h72
  have h72k := rMove.any h72
  obtain rfl := rMove.open h72
  refine LS.step (OpOk.move rfl) (LS.step (OpOk.move rfl) ?_)
  refine LS.step (OpOk.idxL (i := k) Try.underlying22 Try.sz31 h62 rfl rfl rfl (by omega)) ?_
  refine LS.stepE (OpOk.ldA hin (rL.ix h62 k (by omega)) Try.agg31 Try.sz31 rfl) ?_
  intro v76 h76
  have h76k := rMove.any h76
  obtain rfl := rMove.open h76
  refine LS.step (OpOk.neqSt2 Try.st2_31 rfl rfl) ?_
  refine LS.done ?_
  refine PF.next ?_
  refine CF.if rfl (fun hc4 => ?_) (fun hc4 => ?_)
  exact absurd hc4 (by simp)
  refine CF.skip (PF.blockNormal (PF.next (CF.region (LF.step (OpOk.move rfl) ?_))))
  refine LF.step (OpOk.add rfl rfl (by omega)) ?_
  refine LF.step (OpOk.assign rfl) (LF.nil ?_)
  exact PF.again (k + 1) ⟨by omega, hin, hkp, x28, x36, x39⟩ ⟨rfl, rfl, rfl, rfl, eqI (by omega), trivial⟩ (by omega)
  refine CF.exit (PF.thenExit (PF.thenExit (PF.blockHere (PF.next (CF.seq (CF.region (LF.step (OpOk.move rfl) (LF.step (OpOk.move rfl) ?_))))))))
  refine LF.gstepK rfl rfl (.t _) (OpOk.move rfl) ?_
  refine LF.step (OpOk.pickAnd rfl rfl) ?_
  refine LF.step (OpOk.assign rfl) (LF.nil (PF.next (CF.ret ?_)))
  have hm : (fun _ _ => true) s places = (rowsM (List.take (min places.length 40) places) (List.take (min places.length 40) places)) := by
    exact (show true = (true && rowsM _ _) by rw [rowsM_self]; rfl)
  exact PF.ret1 rfl rfl ⟨by first | (rw [hm] <;> rfl) | exact (congrArg Value.bool hm).symm, hkp⟩

end Go.Proofs.Ytcceglmmpbdhiaa
