/- Walks. Conditions: each contract names its own. -/
import Derived.Test.YtcceglmmpbdhiaaWN
namespace Go.Proofs.Ytcceglmmpbdhiaa
set_option linter.unusedVariables false
set_option linter.unusedSimpArgs false
set_option linter.unusedSectionVars false
set_option maxRecDepth 8000
open Go.JE


-- jacquard/jacquardlaw11.MovesAtOnce: function 7
theorem movesAtOnce_ct {F : PH} {H : Heap} (hin : InH F H) {a0 : Value} {s : List Int} {N0 : Nat} (p0 : (rLn N0 (rI .i64)).rv F a0 s) (x : Int) (ww1 : IntKind.i32.wrap x = x) :
    Ct Try.prog 7 #[a0, .int .i32 x] H (fun v H' => v = .bool ((fun _ _ => true) s x) ∧ Kp H.size H H') := by
  have q0 := rL.len2 p0
  have hkp := Kp.refl H.size H
  have hx := PH.ext.refl (H := H) F
  refine Ct.enter (args := [a0, .int .i32 x]) Try.func7 rfl rfl rfl (fun w0 hw0 => ?_)
  refine CF.seq (CF.region (LF.step (OpOk.assign rfl) (LF.nil (PF.next (CF.seq (CF.region ?_))))))
  refine LF.call (OpCall.fn Try.ent12 rfl rfl) (awake_ct hin ) ?_
  rintro _ H12 ⟨rfl, k12⟩
  have zk12 := k12.1
  replace hin := hin.kp k12
  replace hkp := hkp.trans (k12.mono hkp.1)
  refine LF.step (OpOk.assign rfl) (LF.nil (PF.next (CF.seq (CF.region (LF.step (OpOk.move rfl) ?_)))))
  refine LF.call (OpCall.fn Try.ent13 rfl rfl) (made_ct hin p0) ?_
  rintro v14 H14 ⟨F14, x14, i14, k14, h14⟩
  have zk14 := k14.1
  replace hx := hx.trans x14 hkp.1
  replace hkp := hkp.trans (k14.mono hkp.1)
  have l14 := hkp.1
  have le0 := x14.1
  have hin := i14
  have h14q := rL.len2 h14
  refine LF.step (OpOk.assign rfl) (LF.nil (PF.next (CF.seq (CF.region (LF.step (OpOk.move rfl) ?_)))))
  refine LF.call (OpCall.fn Try.ent20 rfl rfl) (start_ct hin x) ?_
  rintro v16 H16 ⟨x16, k16⟩
  replace x16 := x16.base hkp.1
  have zk16 := k16.1
  replace hin := hin.kp k16
  replace hkp := hkp.trans (k16.mono hkp.1)
  refine LF.step (OpOk.assign rfl) (LF.nil (PF.next (CF.seq (CF.region (LF.step (OpOk.move rfl) (LF.step (OpOk.move rfl) ?_))))))
  obtain ⟨Fz1, hxz1, lez1, hinz1, noz1, hrz1⟩ := x16.freezeX hin hx (Nat.le_refl _) (by rw [start_len]; decide)
  replace hin := hinz1
  replace hx := hxz1
  replace le0 := le0.trans lez1
  have le1 := lez1
  refine LF.call (OpCall.fn Try.ent21 rfl rfl) (pAfter_ct hin (h14.up le1) hrz1) ?_
  rintro v19 H19 ⟨x19, k19⟩
  replace x19 := x19.base hkp.1
  have zk19 := k19.1
  replace hin := hin.kp k19
  replace hkp := hkp.trans (k19.mono hkp.1)
  refine LF.step (OpOk.assign rfl) (LF.nil (PF.next (CF.seq (CF.seq (CF.region (LF.step (OpOk.move rfl) ?_))))))
  refine LF.step (OpOk.lenG Try.underlying44 x19 rfl) ?_
  refine LF.step (OpOk.neq rfl rfl) ?_
  refine LF.nil (PF.next ?_)
  refine CF.if rfl (fun hc1 => ?_) (fun hc1 => ?_)
  exact absurd hc1 (by rw [after_len, start_len]; simp)
  refine CF.skip (PF.next (CF.seq (CF.region ?_)))
  refine LF.chg OpCh.makeMapB ?_
  rintro _ H23 ⟨g23, rfl, eg23, sg23, kg23, hm23⟩
  have ng23 := hin.nope (Nat.le_of_eq eg23.symm)
  have lg23 := hkp.1
  have zkg23 := kg23.1
  replace hin := hin.kp kg23
  replace hkp := hkp.trans (kg23.mono hkp.1)
  replace x19 := x19.kp kg23
  clear kg23
  replace hm23 := Mf.new (z := .bool false) hm23
  refine LF.step (OpOk.assign rfl) (LF.nil (PF.next (CF.seq (CF.seq (CF.region (LF.step (OpOk.assign rfl) (LF.nil (PF.next (CF.block ?_)))))))))
  refine CF.loop (ι := Nat × (Int → Bool)) (fun z9 H1 => z9.1 ≤ (madeM s).length ∧ (∀ m ∈ (madeM s).take z9.1, z9.2 m.To = true) ∧ InH Fz1 H1 ∧ Kp H.size H H1 ∧ Gl (rI .i32) 21 Fz1 H1 H.size v19 (afterP (madeM s) (startM x)) ∧ Mf H1 g23 (.bool false) (fun j9 => .bool (z9.2 j9))) (fun z9 => [(5, .bool true), (6, v14), (7, v16), (8, v19), (9, .map (some g23)), (10, .int .i64 (↑z9.1))]) (fun z9 => (madeM s).length - z9.1) (0, (fun _ => false : Int → Bool)) ⟨by dsimp only; omega, by simp, hin, hkp, x19, hm23⟩ ⟨rfl, rfl, rfl, rfl, rfl, eqI (by omega), trivial⟩ ?_
  clear hin hkp x19 hm23
  rintro ⟨k, mo⟩ H1 ⟨hk, hmo, hin, hkp, x19, hm23⟩
  dsimp only at hk hmo x19 hm23 ⊢
  refine CF.seq (CF.seq (CF.region (LF.step (OpOk.move rfl) (LF.step (OpOk.move rfl) ?_))))
  refine LF.step (OpOk.lenL Try.underlying22 (h14.up le1) rfl) ?_
  refine LF.step (OpOk.lss rfl rfl) ?_
  refine LF.nil (PF.next ?_)
  refine CF.if rfl (fun hc2 => ?_) (fun hc2 => ?_)
  obtain ⟨hmt, hmf⟩ := made_mem (ix_mem (show k < (madeM s).length by omega))
  have hal := after_len (madeM s) (startM x)
  have hsl := start_len x
  refine CF.skip (PF.next (CF.seq (CF.block (CF.seq (CF.seq ?_)))))
  refine CF.still Try.mixed (by kernel_rfl) ?_
  refine LS.step (OpOk.move rfl) (LS.step (OpOk.move rfl) (LS.step (OpOk.move rfl) ?_))
  refine LS.step (OpOk.idxL (i := k) Try.underlying22 Try.sz31 (h14.up le1) rfl rfl rfl (by omega)) ?_
  refine LS.step (OpOk.fieldAddr (Try.fld31_0) rfl) ?_
  refine LS.step (OpOk.ldI hin (rMove.at_To (rL.ix (h14.up le1) k (by omega))) Try.one3 rfl) ?_
  refine LS.step (OpOk.idxG (i := (Int.toNat (ix (madeM s) k).To)) Try.underlying44 Try.sz21 x19 rfl rfl (by omega) (by first | omega | (simp only [List.length_replicate, List.length_set, List.length_append, List.length_cons, List.length_nil]; omega) | (simp only [List.length_append, List.length_take, List.length_replicate]; omega))) ?_
  refine LS.step (OpOk.ldGI x19 (by first | omega | (simp only [List.length_replicate, List.length_set, List.length_append, List.length_cons, List.length_nil]; omega) | (simp only [List.length_append, List.length_take, List.length_replicate]; omega)) Try.one21 rfl) ?_
  refine LS.step (OpOk.move rfl) (LS.step (OpOk.move rfl) (LS.step (OpOk.move rfl) ?_))
  refine LS.step (OpOk.idxL (i := k) Try.underlying22 Try.sz31 (h14.up le1) rfl rfl rfl (by omega)) ?_
  refine LS.step (OpOk.fieldAddr (Try.fld31_1) rfl) ?_
  refine LS.step (OpOk.ldI hin (rMove.at_From (rL.ix (h14.up le1) k (by omega))) Try.one3 rfl) ?_
  refine LS.step (OpOk.idxL (i := (Int.toNat (ix (madeM s) k).From)) Try.underlying44 Try.sz21 hrz1 rfl rfl (by omega) (by omega)) ?_
  refine LS.step (OpOk.ldI hin (rL.ix hrz1 (Int.toNat (ix (madeM s) k).From) (by omega)) Try.one21 rfl) ?_
  refine LS.step (OpOk.neq rfl rfl) ?_
  refine LS.done ?_
  refine PF.next ?_
  refine CF.if rfl (fun hc3 => ?_) (fun hc3 => ?_)
  exact absurd (ao_in (by omega)) hc3
  refine CF.skip (PF.next (CF.region (LF.step (OpOk.move rfl) (LF.step (OpOk.move rfl) (LF.step (OpOk.move rfl) ?_)))))
  refine LF.step (OpOk.idxL (i := k) Try.underlying22 Try.sz31 (h14.up le1) rfl rfl rfl (by omega)) ?_
  refine LF.step (OpOk.fieldAddr (Try.fld31_0) rfl) ?_
  refine LF.step (OpOk.ldI hin (rMove.at_To (rL.ix (h14.up le1) k (by omega))) Try.one3 rfl) ?_
  refine LF.chg0 (OpCh.mapUpdateB Try.underlying47 Try.underlying3 hm23 rfl rfl rfl) ?_
  rintro _ Hw2 ⟨mw2, tw2⟩
  have ztw2 := tw2.1
  replace hin := hin.tw tw2 ng23
  replace hkp := Tw.kp' hkp tw2 (by omega)
  replace x19 := x19.tw tw2 (hm23.neGl x19)
  replace hm23 := mw2
  clear mw2 tw2
  refine LF.nil (PF.blockNormal (PF.next (CF.region (LF.step (OpOk.move rfl) ?_))))
  refine LF.step (OpOk.add rfl rfl (by omega)) ?_
  refine LF.step (OpOk.assign rfl) (LF.nil ?_)
  exact PF.again (k + 1, upF mo ((ix (madeM s) k).To) true) ⟨by dsimp only; omega, ao_step (by omega) hmo, hin, hkp, x19, hm23⟩ ⟨rfl, rfl, rfl, rfl, rfl, eqI (by omega), trivial⟩ (by omega)
  refine CF.exit (PF.thenExit (PF.thenExit (PF.blockHere (PF.next (CF.seq (CF.seq (CF.region (LF.step (OpOk.assign rfl) (LF.nil (PF.next (CF.block ?_)))))))))))
  refine CF.loop (ι := Nat) (fun k H1 => k ≤ 40 ∧ InH Fz1 H1 ∧ Kp H.size H H1 ∧ Gl (rI .i32) 21 Fz1 H1 H.size v19 (afterP (madeM s) (startM x)) ∧ Mf H1 g23 (.bool false) (fun j9 => .bool (mo j9))) (fun k => [(5, .bool true), (7, v16), (8, v19), (9, .map (some g23)), (11, .int .i64 (↑k))]) (fun k => 40 - k) 0 ⟨by omega, hin, hkp, x19, hm23⟩ ⟨rfl, rfl, rfl, rfl, eqI (by omega), trivial⟩ ?_
  clear hin hkp x19 hm23
  rintro k H1 ⟨hk2, hin, hkp, x19, hm23⟩
  have hal := after_len (madeM s) (startM x)
  have hsl := start_len x
  refine CF.seq (CF.seq (CF.region (LF.step (OpOk.move rfl) ?_)))
  refine LF.step (OpOk.lss rfl rfl) ?_
  refine LF.nil (PF.next ?_)
  refine CF.if rfl (fun hc4 => ?_) (fun hc4 => ?_)
  refine CF.skip (PF.next (CF.seq (CF.block (CF.seq ?_))))
  refine CF.still Try.mixed (by kernel_rfl) ?_
  refine LS.step (OpOk.move rfl) (LS.step (OpOk.move rfl) ?_)
  refine LS.step (OpOk.lookupF Try.underlying47 Try.underlying3 Try.zero4 hm23 rfl rfl) ?_
  refine LS.step (OpOk.not rfl) ?_
  refine LS.step (OpOk.move rfl) ?_
  refine LS.gstep rfl rfl (.t _) (fun hg => OpOk.move rfl) ?_
  refine LS.gstep rfl rfl (.t _) (fun hg => OpOk.move rfl) ?_
  refine LS.gstep rfl rfl (.t _) (fun hg => OpOk.idxG (i := k) Try.underlying44 Try.sz21 x19 (evg rfl hg) (evg rfl hg) rfl (by first | omega | (simp only [List.length_replicate, List.length_set, List.length_append, List.length_cons, List.length_nil]; omega) | (simp only [List.length_append, List.length_take, List.length_replicate]; omega))) ?_
  refine LS.gstep rfl rfl (.t _) (fun hg => OpOk.ldGI x19 (by first | omega | (simp only [List.length_replicate, List.length_set, List.length_append, List.length_cons, List.length_nil]; omega) | (simp only [List.length_append, List.length_take, List.length_replicate]; omega)) Try.one21 (evg rfl hg)) ?_
  refine LS.gstep rfl rfl (.t _) (fun hg => OpOk.move rfl) ?_
  refine LS.gstep rfl rfl (.t _) (fun hg => OpOk.move rfl) ?_
  refine LS.gstep rfl rfl (.t _) (fun hg => OpOk.idxL (i := k) Try.underlying44 Try.sz21 hrz1 (evg rfl hg) (evg rfl hg) rfl (by omega)) ?_
  refine LS.gstep rfl rfl (.t _) (fun hg => OpOk.ldI hin (rL.ix hrz1 k (by omega)) Try.one21 (evg rfl hg)) ?_
  refine LS.gstep rfl rfl (.t _) (fun hg => OpOk.neq (evg rfl hg) (evg rfl hg)) ?_
  refine LS.step (OpOk.pickAnd rfl rfl) ?_
  refine LS.done ?_
  refine PF.next ?_
  refine CF.if rfl (fun hc5 => ?_) (fun hc5 => ?_)
  exact absurd (ao_out (by omega) (fun m hm e => by have := hmo m (by rw [List.take_of_length_le (by omega)]; exact hm); rw [e, hc5.1] at this; cases this)) hc5.2
  refine CF.skip (PF.blockNormal (PF.next (CF.region (LF.step (OpOk.move rfl) ?_))))
  refine LF.step (OpOk.add rfl rfl (by omega)) ?_
  refine LF.step (OpOk.assign rfl) (LF.nil ?_)
  exact PF.again (k + 1) ⟨by omega, hin, hkp, x19, hm23⟩ ⟨rfl, rfl, rfl, rfl, eqI (by omega), trivial⟩ (by omega)
  refine CF.exit (PF.thenExit (PF.thenExit (PF.blockHere (PF.next (CF.seq (CF.region (LF.step (OpOk.move rfl) (LF.step (OpOk.assign rfl) (LF.nil (PF.next (CF.ret ?_)))))))))))
  have hm : (fun _ _ => true) s x = true := by
    rfl
  exact PF.ret1 rfl rfl ⟨by first | (rw [hm] <;> rfl) | exact (congrArg Value.bool hm).symm, hkp⟩

end Go.Proofs.Ytcceglmmpbdhiaa
