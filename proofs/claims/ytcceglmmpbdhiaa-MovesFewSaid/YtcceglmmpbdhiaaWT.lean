/- Walks. Conditions: each contract names its own. -/
import Derived.Test.YtcceglmmpbdhiaaM9
import Derived.Test.YtcceglmmpbdhiaaWR
namespace Go.Proofs.Ytcceglmmpbdhiaa
set_option linter.unusedVariables false
set_option linter.unusedSimpArgs false
set_option linter.unusedSectionVars false
set_option maxRecDepth 8000
open Go.JE

theorem Try.ent12 : Ent Try.prog 12 := ⟨_, Try.func12, by kernel_rfl, by kernel_rfl⟩
theorem Try.ent13 : Ent Try.prog 13 := ⟨_, Try.func13, by kernel_rfl, by kernel_rfl⟩
theorem Try.ent16 : Ent Try.prog 16 := ⟨_, Try.func16, by kernel_rfl, by kernel_rfl⟩
-- jacquard/jacquardlaw11.MovesFew: function 4
set_option maxHeartbeats 1000000 in
theorem movesFew_ct {F : PH} {H : Heap} (hin : InH F H) {a0 : Value} {s : List Int} {N0 : Nat} (p0 : (rLn N0 (rI .i64)).rv F a0 s) :
    Ct Try.prog 4 #[a0] H (fun v H' => v = .bool ((fun _ => true) s) ∧ Kp H.size H H') := by
  have q0 := rL.len2 p0
  have hkp := Kp.refl H.size H
  have hx := PH.ext.refl (H := H) F
  refine Ct.enter (args := [a0]) Try.func4 rfl rfl rfl (fun w0 hw0 => ?_)
  refine CF.seq (CF.region (LF.step (OpOk.assign rfl) (LF.nil (PF.next (CF.seq (CF.region ?_))))))
  refine LF.call (OpCall.fn Try.ent12 rfl rfl) (awake_ct hin ) ?_
  rintro _ H15 ⟨rfl, k15⟩
  have zk15 := k15.1
  replace hin := hin.kp k15
  replace hkp := hkp.trans (k15.mono hkp.1)
  refine LF.step (OpOk.assign rfl) (LF.nil (PF.next (CF.seq (CF.region (LF.step (OpOk.move rfl) ?_)))))
  refine LF.call (OpCall.fn Try.ent13 rfl rfl) (made_ct hin p0) ?_
  rintro v17 H17 ⟨F17, x17, i17, k17, h17⟩
  have zk17 := k17.1
  replace hx := hx.trans x17 hkp.1
  replace hkp := hkp.trans (k17.mono hkp.1)
  have l17 := hkp.1
  have le0 := x17.1
  have hin := i17
  have h17q := rL.len2 h17
  refine LF.step (OpOk.assign rfl) (LF.nil (PF.next (CF.seq (CF.region (LF.step (OpOk.assign rfl) (LF.nil (PF.next (CF.seq (CF.region (LF.step (OpOk.assign rfl) (LF.nil ?_)))))))))))
  refine PF.next (CF.seq (CF.seq (CF.region (LF.step (OpOk.assign rfl) (LF.nil (PF.next (CF.block ?_)))))))
  have x9005 := (fun (H9 : Heap) (_ : InH F17 H9) => (Gl.nil F17 H9 H.size : Gl rMove 31 F17 H9 H.size (.slice none 0 0) [])) _ hin
  refine CF.loop (ι := Nat × Int × Value × List D.Move) (fun z9 H1 => z9.1 ≤ (madeM s).length ∧ z9.2.2.2 = lowL ((madeM s).take z9.1) ∧ z9.2.1 = ((leftM z9.2.2.2).length : Int) ∧ InH F17 H1 ∧ Kp H.size H H1 ∧ Gl rMove 31 F17 H1 H.size z9.2.2.1 z9.2.2.2) (fun z9 => [(2, .bool false), (3, .bool true), (4, v17), (5, z9.2.2.1), (6, .int .i64 z9.2.1), (7, .int .i64 (↑z9.1))]) (fun z9 => (madeM s).length - z9.1) (0, 0, .slice none 0 0, []) ⟨by dsimp only; omega, rfl, rfl, hin, hkp, x9005⟩ ⟨rfl, rfl, rfl, rfl, rfl, eqI (by omega), trivial⟩ ?_
  clear hin hkp x9005
  rintro ⟨k, n, vo, o⟩ H1 ⟨hk, hO, hn, hin, hkp, x9005⟩
  dsimp only at hk hO hn x9005 ⊢
  have hml := made_len s
  have hol : o.length ≤ k := by rw [hO]; exact Nat.le_trans (lowL_len _) (by rw [List.length_take]; omega)
  have hnl : n ≤ k ∧ 0 ≤ n := by have := leftM_len o; omega
  refine CF.seq (CF.seq (CF.region (LF.step (OpOk.move rfl) (LF.step (OpOk.move rfl) ?_))))
  refine LF.step (OpOk.lenL Try.underlying22 h17 rfl) ?_
  refine LF.step (OpOk.lss rfl rfl) ?_
  refine LF.nil (PF.next ?_)
  refine CF.if rfl (fun hc1 => ?_) (fun hc1 => ?_)
  refine CF.skip (PF.next (CF.seq (CF.block (CF.seq (CF.region (LF.step (OpOk.move rfl) (LF.step (OpOk.move rfl) ?_)))))))
  refine LF.step (OpOk.idxL (i := k) Try.underlying22 Try.sz31 h17 rfl rfl rfl (by omega)) ?_
  refine LF.step (OpOk.fieldAddr (Try.fld31_0) rfl) ?_
  refine LF.step (OpOk.ldI hin (rMove.at_To (rL.ix h17 k (by omega))) Try.one3 rfl) ?_
  refine LF.step (OpOk.lss rfl rfl) ?_
  refine LF.step (OpOk.move rfl) ?_
  refine LF.gstep rfl rfl (.t _) (fun hg => OpOk.move rfl) ?_
  refine LF.gstep rfl rfl (.t _) (fun hg => OpOk.move rfl) ?_
  refine LF.gstep rfl rfl (.t _) (fun hg => OpOk.idxL (i := k) Try.underlying22 Try.sz31 h17 (evg rfl hg) (evg rfl hg) rfl (by omega)) ?_
  refine LF.gstep rfl rfl (.t _) (fun hg => OpOk.fieldAddr (Try.fld31_1) (evg rfl hg)) ?_
  refine LF.gstep rfl rfl (.t _) (fun hg => OpOk.ldI hin (rMove.at_From (rL.ix h17 k (by omega))) Try.one3 (evg rfl hg)) ?_
  refine LF.gstep rfl rfl (.t _) (fun hg => OpOk.lss (evg rfl hg) rfl) ?_
  refine LF.step (OpOk.pickAnd rfl rfl) ?_
  refine LF.nil (PF.next ?_)
  refine CF.if rfl (fun hc2 => ?_) (fun hc2 => ?_)
  refine CF.seq (CF.region (LF.step (OpOk.move rfl) (LF.step (OpOk.move rfl) (LF.step (OpOk.move rfl) ?_))))
  refine LF.step (OpOk.idxL (i := k) Try.underlying22 Try.sz31 h17 rfl rfl rfl (by omega)) ?_
  refine LF.stepE (OpOk.ldA hin (rL.ix h17 k (by omega)) Try.agg31 Try.sz31 rfl) ?_
  intro v42 h42
  have h42k := rMove.any h42
  obtain rfl := rMove.open h42
  refine LF.appA (r := rMove) (a := ix (madeM s) k) Try.underlying22 Try.info31 (by decide) rfl rfl h42 x9005 hin (by first | (simp only [List.length_append, List.length_take, List.length_drop, List.length_nil, List.length_cons, List.length_set, List.length_replicate]; omega) | (simp; done) | (simp; omega) | omega) rfl ?_ hkp.1
  intro v44 H44 x44 gb44 nn44 ob44
  replace hin := hin.grown gb44 x9005.no
  replace hkp := gb44.kp hkp (Nat.le_refl _) (fun k0 hk0 => (x9005.blk k0 hk0).1)
  refine LF.step (OpOk.assign rfl) (LF.nil (PF.next (CF.seq ?_)))
  refine CF.still Try.mixed (by kernel_rfl) ?_
  refine LS.step (OpOk.move rfl) (LS.step (OpOk.move rfl) ?_)
  refine LS.step (OpOk.idxL (i := k) Try.underlying22 Try.sz31 h17 rfl rfl rfl (by omega)) ?_
  refine LS.step (OpOk.fieldAddr (Try.fld31_0) rfl) ?_
  refine LS.step (OpOk.ldI hin (rMove.at_To (rL.ix h17 k (by omega))) Try.one3 rfl) ?_
  refine LS.step (OpOk.move rfl) (LS.step (OpOk.move rfl) ?_)
  refine LS.step (OpOk.idxL (i := k) Try.underlying22 Try.sz31 h17 rfl rfl rfl (by omega)) ?_
  refine LS.step (OpOk.fieldAddr (Try.fld31_1) rfl) ?_
  refine LS.step (OpOk.ldI hin (rMove.at_From (rL.ix h17 k (by omega))) Try.one3 rfl) ?_
  refine LS.step (OpOk.neq rfl rfl) ?_
  refine LS.done ?_
  refine PF.next ?_
  refine CF.if rfl (fun hc3 => ?_) (fun hc3 => ?_)
  refine CF.region (LF.step (OpOk.move rfl) ?_)
  refine LF.step (OpOk.add rfl rfl (by omega)) ?_
  refine LF.step (OpOk.assign rfl) (LF.nil (PF.blockNormal (PF.next (CF.region (LF.step (OpOk.move rfl) ?_)))))
  refine LF.step (OpOk.add rfl rfl (by omega)) ?_
  refine LF.step (OpOk.assign rfl) (LF.nil ?_)
  exact PF.again (k + 1, n + 1, v44, o ++ [ix (madeM s) k]) ⟨by dsimp only; omega, by dsimp only; rw [lowL_snoc (by omega), if_pos hc2, hO], by dsimp only; rw [leftM_snoc, if_neg hc3, hn]; rfl, hin, hkp, x44⟩ ⟨rfl, rfl, rfl, rfl, rfl, eqI (by omega), trivial⟩ (by omega)
  refine CF.skip (PF.blockNormal (PF.next (CF.region (LF.step (OpOk.move rfl) ?_))))
  refine LF.step (OpOk.add rfl rfl (by omega)) ?_
  refine LF.step (OpOk.assign rfl) (LF.nil ?_)
  exact PF.again (k + 1, n, v44, o ++ [ix (madeM s) k]) ⟨by dsimp only; omega, by dsimp only; rw [lowL_snoc (by omega), if_pos hc2, hO], by dsimp only; rw [leftM_snoc, if_pos hc3, hn]; rfl, hin, hkp, x44⟩ ⟨rfl, rfl, rfl, rfl, rfl, eqI (by omega), trivial⟩ (by omega)
  refine CF.skip (PF.blockNormal (PF.next (CF.region (LF.step (OpOk.move rfl) ?_))))
  refine LF.step (OpOk.add rfl rfl (by omega)) ?_
  refine LF.step (OpOk.assign rfl) (LF.nil ?_)
  exact PF.again (k + 1, n, vo, o) ⟨by dsimp only; omega, by dsimp only; rw [lowL_snoc (by omega), if_neg (by omega), hO, List.append_nil], hn, hin, hkp, x9005⟩ ⟨rfl, rfl, rfl, rfl, rfl, eqI (by omega), trivial⟩ (by omega)
  rw [List.take_of_length_le (show (madeM s).length ≤ k by omega)] at hO
  subst hO
  subst hn
  have hll := lowL_len (madeM s)
  refine CF.exit (PF.thenExit (PF.thenExit (PF.blockHere (PF.next (CF.seq (CF.region (LF.step (OpOk.move rfl) ?_)))))))
  obtain ⟨Fz1, hxz1, lez1, hinz1, noz1, hrz1⟩ := x9005.freezeX hin hx (Nat.le_refl _) (by first | (simp only [List.length_append, List.length_take, List.length_drop, List.length_nil, List.length_cons, List.length_set, List.length_replicate]; omega) | (simp; done) | (simp; omega) | omega)
  replace hin := hinz1
  replace hx := hxz1
  replace le0 := le0.trans lez1
  have le1 := lez1
  refine LF.call (OpCall.fn Try.ent16 rfl rfl) (circles_ct hin hrz1 (by first | omega | decide | assumption | exact made_ok s | exact made_keys s | exact lowL_ok s | exact lowL_keys s | (have := made_len s; omega)) (by first | omega | decide | assumption | exact made_ok s | exact made_keys s | exact lowL_ok s | exact lowL_keys s | (have := made_len s; omega)) (by first | omega | decide | assumption | exact made_ok s | exact made_keys s | exact lowL_ok s | exact lowL_keys s | (have := made_len s; omega))) ?_
  rintro v59 H59 ⟨F59, x59, i59, k59, h59⟩
  have zk59 := k59.1
  replace hx := hx.trans x59 hkp.1
  replace hkp := hkp.trans (k59.mono hkp.1)
  have l59 := hkp.1
  replace le0 := le0.trans x59.1
  replace le1 := le1.trans x59.1
  have le2 := x59.1
  have hin := i59
  have h59q := rL.len2 h59
  have hcl := circles_len (lowL (madeM s))
  refine LF.step (OpOk.lenL Try.underlying32 h59 rfl) ?_
  refine LF.step (OpOk.assign rfl) (LF.nil (PF.next (CF.seq (CF.region (LF.step (OpOk.move rfl) ?_)))))
  refine LF.call (OpCall.fn Try.ent17 rfl rfl) (pOrder_ct hin (hrz1.up le2) 15 (-1) (by first | omega | decide | assumption | exact made_ok s | exact made_keys s | exact lowL_ok s | exact lowL_keys s | (have := made_len s; omega)) (by decide : IntKind.i64.wrap 15 = 15) (by decide : IntKind.i64.wrap (-1) = (-1))) ?_
  rintro _ H63 ⟨F63, x63, i63, k63, v630, rfl, h630⟩
  have zk63 := k63.1
  replace hx := hx.trans x63 hkp.1
  replace hkp := hkp.trans (k63.mono hkp.1)
  have l63 := hkp.1
  replace le0 := le0.trans x63.1
  replace le1 := le1.trans x63.1
  replace le2 := le2.trans x63.1
  have le3 := x63.1
  have hin := i63
  have h630q := rL.len2 h630
  refine LF.step (OpOk.move rfl) ?_
  refine LF.step (OpOk.extract (v := v630) rfl rfl) ?_
  refine LF.step (OpOk.extract (v := .int .i64 ((orderR (lowL (madeM s)) 15 (-1)).2)) rfl rfl) ?_
  refine LF.step (OpOk.assign rfl) (LF.step (OpOk.assign rfl) (LF.nil (PF.next (CF.seq (CF.region (LF.step (OpOk.move rfl) ?_))))))
  refine LF.call (OpCall.fn Try.ent17 rfl rfl) (pOrder_ct hin (hrz1.up le2) (-1) (-1) (by first | omega | decide | assumption | exact made_ok s | exact made_keys s | exact lowL_ok s | exact lowL_keys s | (have := made_len s; omega)) (by decide : IntKind.i64.wrap (-1) = (-1)) (by decide : IntKind.i64.wrap (-1) = (-1))) ?_
  rintro _ H68 ⟨F68, x68, i68, k68, v680, rfl, h680⟩
  have zk68 := k68.1
  replace hx := hx.trans x68 hkp.1
  replace hkp := hkp.trans (k68.mono hkp.1)
  have l68 := hkp.1
  replace le0 := le0.trans x68.1
  replace le1 := le1.trans x68.1
  replace le2 := le2.trans x68.1
  replace le3 := le3.trans x68.1
  have le4 := x68.1
  have hin := i68
  have h680q := rL.len2 h680
  refine LF.step (OpOk.move rfl) ?_
  refine LF.step (OpOk.extract (v := v680) rfl rfl) ?_
  refine LF.step (OpOk.extract (v := .int .i64 ((orderR (lowL (madeM s)) (-1) (-1)).2)) rfl rfl) ?_
  refine LF.step (OpOk.assign rfl) (LF.step (OpOk.assign rfl) (LF.nil (PF.next (CF.seq (CF.seq (CF.region (LF.step (OpOk.assign rfl) (LF.nil (PF.next (CF.block ?_))))))))))
  refine CF.loop (ι := Nat) (fun i H1 => i ≤ (orderR (lowL (madeM s)) 15 (-1)).1.length ∧ InH F68 H1 ∧ Kp H.size H H1) (fun i => [(3, .bool true), (6, .int .i64 (((leftM (lowL (madeM s))).length : Int))), (8, .int .i64 (↑(List.length (circlesM (lowL (madeM s)))))), (9, v630), (10, .int .i64 ((orderR (lowL (madeM s)) 15 (-1)).2)), (11, v680), (12, .int .i64 ((orderR (lowL (madeM s)) (-1) (-1)).2)), (13, .int .i64 (↑i))]) (fun i => (orderR (lowL (madeM s)) 15 (-1)).1.length - i) 0 ⟨by omega, hin, hkp⟩ ⟨rfl, rfl, rfl, rfl, rfl, rfl, rfl, eqI (by omega), trivial⟩ ?_
  clear hin hkp
  rintro i H1 ⟨hi, hin, hkp⟩
  refine CF.seq (CF.seq (CF.region (LF.step (OpOk.move rfl) (LF.step (OpOk.move rfl) ?_))))
  refine LF.step (OpOk.lenL Try.underlying34 (h630.up le4) rfl) ?_
  refine LF.step (OpOk.lss rfl rfl) ?_
  refine LF.nil (PF.next ?_)
  refine CF.if rfl (fun hc4 => ?_) (fun hc4 => ?_)
  refine CF.skip (PF.next (CF.seq (CF.block (CF.seq (CF.region (LF.step (OpOk.move rfl) (LF.step (OpOk.move rfl) ?_)))))))
  refine LF.step (OpOk.idxL (i := i) Try.underlying34 Try.sz39 (h630.up le4) rfl rfl rfl (by omega)) ?_
  refine LF.step (OpOk.fieldAddr (Try.fld39_0) rfl) ?_
  refine LF.step (OpOk.ldI hin (rMach.at_Op (rL.ix (h630.up le4) i (by omega))) Try.one3 rfl) ?_
  refine LF.step (OpOk.neq rfl rfl) ?_
  refine LF.nil (PF.next ?_)
  refine CF.if rfl (fun hc5 => ?_) (fun hc5 => ?_)
  exact absurd (((few_order s (scr := 15) (.inr rfl)).2.2 _ (ix_mem (show i < (orderR (lowL (madeM s)) 15 (-1)).1.length by omega))).resolve_right (fun h9 => absurd h9.1 (by decide))) hc5
  refine CF.skip (PF.blockNormal (PF.next (CF.region (LF.step (OpOk.move rfl) ?_))))
  refine LF.step (OpOk.add rfl rfl (by omega)) ?_
  refine LF.step (OpOk.assign rfl) (LF.nil ?_)
  exact PF.again (i + 1) ⟨by omega, hin, hkp⟩ ⟨rfl, rfl, rfl, rfl, rfl, rfl, rfl, eqI (by omega), trivial⟩ (by omega)
  refine CF.exit (PF.thenExit (PF.thenExit (PF.blockHere (PF.next (CF.seq (CF.seq (CF.region (LF.step (OpOk.assign rfl) (LF.nil (PF.next (CF.block ?_)))))))))))
  refine CF.loop (ι := Nat) (fun j H1 => j ≤ (orderR (lowL (madeM s)) (-1) (-1)).1.length ∧ InH F68 H1 ∧ Kp H.size H H1) (fun j => [(3, .bool true), (6, .int .i64 (((leftM (lowL (madeM s))).length : Int))), (8, .int .i64 (↑(List.length (circlesM (lowL (madeM s)))))), (9, v630), (10, .int .i64 ((orderR (lowL (madeM s)) 15 (-1)).2)), (11, v680), (12, .int .i64 ((orderR (lowL (madeM s)) (-1) (-1)).2)), (14, .int .i64 (↑j))]) (fun j => (orderR (lowL (madeM s)) (-1) (-1)).1.length - j) 0 ⟨by omega, hin, hkp⟩ ⟨rfl, rfl, rfl, rfl, rfl, rfl, rfl, eqI (by omega), trivial⟩ ?_
  clear hin hkp
  rintro j H1 ⟨hj, hin, hkp⟩
  refine CF.seq (CF.seq (CF.region (LF.step (OpOk.move rfl) (LF.step (OpOk.move rfl) ?_))))
  refine LF.step (OpOk.lenL Try.underlying34 h680 rfl) ?_
  refine LF.step (OpOk.lss rfl rfl) ?_
  refine LF.nil (PF.next ?_)
  refine CF.if rfl (fun hc6 => ?_) (fun hc6 => ?_)
  refine CF.skip (PF.next (CF.seq (CF.block (CF.seq (CF.region (LF.step (OpOk.move rfl) (LF.step (OpOk.move rfl) ?_)))))))
  refine LF.step (OpOk.idxL (i := j) Try.underlying34 Try.sz39 h680 rfl rfl rfl (by omega)) ?_
  refine LF.step (OpOk.fieldAddr (Try.fld39_0) rfl) ?_
  refine LF.step (OpOk.ldI hin (rMach.at_Op (rL.ix h680 j (by omega))) Try.one3 rfl) ?_
  refine LF.step (OpOk.neq rfl rfl) ?_
  refine LF.step (OpOk.move rfl) ?_
  refine LF.gstep rfl rfl (.t _) (fun hg => OpOk.move rfl) ?_
  refine LF.gstep rfl rfl (.t _) (fun hg => OpOk.move rfl) ?_
  refine LF.gstep rfl rfl (.t _) (fun hg => OpOk.idxL (i := j) Try.underlying34 Try.sz39 h680 (evg rfl hg) (evg rfl hg) rfl (by omega)) ?_
  refine LF.gstep rfl rfl (.t _) (fun hg => OpOk.fieldAddr (Try.fld39_0) (evg rfl hg)) ?_
  refine LF.gstep rfl rfl (.t _) (fun hg => OpOk.ldI hin (rMach.at_Op (rL.ix h680 j (by omega))) Try.one3 (evg rfl hg)) ?_
  refine LF.gstep rfl rfl (.t _) (fun hg => OpOk.neq (evg rfl hg) rfl) ?_
  refine LF.step (OpOk.pickAnd rfl rfl) ?_
  refine LF.nil (PF.next ?_)
  refine CF.if rfl (fun hc7 => ?_) (fun hc7 => ?_)
  exact absurd ((few_order s (scr := -1) (.inl (by decide))).2.2 _ (ix_mem (show j < (orderR (lowL (madeM s)) (-1) (-1)).1.length by omega))) (fun h9 => h9.elim hc7.1 (fun h8 => hc7.2 h8.2))
  refine CF.skip (PF.blockNormal (PF.next (CF.region (LF.step (OpOk.move rfl) ?_))))
  refine LF.step (OpOk.add rfl rfl (by omega)) ?_
  refine LF.step (OpOk.assign rfl) (LF.nil ?_)
  exact PF.again (j + 1) ⟨by omega, hin, hkp⟩ ⟨rfl, rfl, rfl, rfl, rfl, rfl, rfl, eqI (by omega), trivial⟩ (by omega)
  refine CF.exit (PF.thenExit (PF.thenExit (PF.blockHere (PF.next (CF.seq (CF.region (LF.step (OpOk.move rfl) (LF.step (OpOk.move rfl) ?_))))))))
  refine LF.gstepK rfl rfl (.t _) (OpOk.move rfl) ?_
  refine LF.gstepK rfl rfl (.t _) (OpOk.eql rfl rfl) ?_
  refine LF.step (OpOk.pickAnd rfl rfl) ?_
  refine LF.step (OpOk.move rfl) ?_
  refine LF.gstep rfl rfl (.t _) (fun hg => OpOk.move rfl) ?_
  refine LF.gstep rfl rfl (.t _) (fun hg => OpOk.eql (evg rfl hg) rfl) ?_
  refine LF.step (OpOk.pickAnd rfl rfl) ?_
  refine LF.step (OpOk.move rfl) ?_
  refine LF.gstep rfl rfl (.t _) (fun hg => OpOk.move rfl) ?_
  refine LF.gstep rfl rfl (.t _) (fun hg => OpOk.lenL Try.underlying34 (h630.up le4) (evg rfl hg)) ?_
  refine LF.gstep rfl rfl (.t _) (fun hg => OpOk.move rfl) ?_
  refine LF.gstep rfl rfl (.t _) (fun hg => OpOk.move rfl) ?_
  refine LF.gstep rfl rfl (.t _) (fun hg => OpOk.add (evg rfl hg) (evg rfl hg) (by first | omega | (simp at hg; omega))) ?_
  refine LF.gstep rfl rfl (.t _) (fun hg => OpOk.eql (evg rfl hg) (evg rfl hg)) ?_
  refine LF.step (OpOk.pickAnd rfl rfl) ?_
  refine LF.step (OpOk.move rfl) ?_
  refine LF.gstep rfl rfl (.t _) (fun hg => OpOk.move rfl) ?_
  refine LF.gstep rfl rfl (.t _) (fun hg => OpOk.lenL Try.underlying34 h680 (evg rfl hg)) ?_
  refine LF.gstep rfl rfl (.t _) (fun hg => OpOk.move rfl) ?_
  refine LF.gstep rfl rfl (.t _) (fun hg => OpOk.move rfl) ?_
  refine LF.gstep rfl rfl (.t _) (fun hg => OpOk.sub (evg rfl hg) (evg rfl hg) (by first | omega | (simp at hg; omega))) ?_
  refine LF.gstep rfl rfl (.t _) (fun hg => OpOk.eql (evg rfl hg) (evg rfl hg)) ?_
  refine LF.step (OpOk.pickAnd rfl rfl) ?_
  refine LF.step (OpOk.assign rfl) (LF.nil (PF.next (CF.ret ?_)))
  have hm : (fun _ => true) s = ((((decide ((orderR (lowL (madeM s)) 15 (-1)).2 = 0)) && (decide ((orderR (lowL (madeM s)) (-1) (-1)).2 = 0))) && (decide (((List.length ((orderR (lowL (madeM s)) 15 (-1)).1) : Nat) : Int) = ((leftM (lowL (madeM s))).length : Int) + (((List.length (circlesM (lowL (madeM s))) : Nat) : Int))))) && (decide (((List.length ((orderR (lowL (madeM s)) (-1) (-1)).1) : Nat) : Int) = ((leftM (lowL (madeM s))).length : Int) - (((List.length (circlesM (lowL (madeM s))) : Nat) : Int))))) := by
    exact (few_law s).symm
  exact PF.ret1 rfl rfl ⟨by first | (rw [hm] <;> rfl) | exact (congrArg Value.bool hm).symm, hkp⟩

end Go.Proofs.Ytcceglmmpbdhiaa
