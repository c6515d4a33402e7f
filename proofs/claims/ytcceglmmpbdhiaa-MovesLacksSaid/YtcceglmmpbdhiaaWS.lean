/- Walks. Conditions: each contract names its own. -/
import Derived.Test.YtcceglmmpbdhiaaM9
import Derived.Test.YtcceglmmpbdhiaaWR
namespace Go.Proofs.Ytcceglmmpbdhiaa
set_option linter.unusedVariables false
set_option linter.unusedSimpArgs false
set_option linter.unusedSectionVars false
set_option maxRecDepth 8000
open Go.JE

theorem Try.ent12 : Ent Try.prog 12 := ⟨_, Try.func12, by kernel_rfl, by kernel_rfl⟩
theorem Try.ent13 : Ent Try.prog 13 := ⟨_, Try.func13, by kernel_rfl, by kernel_rfl⟩
theorem Try.ent16 : Ent Try.prog 16 := ⟨_, Try.func16, by kernel_rfl, by kernel_rfl⟩
-- jacquard/jacquardlaw11.MovesLacks: function 6
set_option maxHeartbeats 1000000 in
theorem movesLacks_ct {F : PH} {H : Heap} (hin : InH F H) {a0 : Value} {s : List Int} {N0 : Nat} (p0 : (rLn N0 (rI .i64)).rv F a0 s) :
    Ct Try.prog 6 #[a0] H (fun v H' => v = .bool ((fun _ => true) s) ∧ Kp H.size H H') := by
  have q0 := rL.len2 p0
  have hkp := Kp.refl H.size H
  have hx := PH.ext.refl (H := H) F
  refine Ct.enter (args := [a0]) Try.func6 rfl rfl rfl (fun w0 hw0 => ?_)
  refine CF.seq (CF.region (LF.step (OpOk.assign rfl) (LF.nil (PF.next (CF.seq (CF.region ?_))))))
  refine LF.call (OpCall.fn Try.ent12 rfl rfl) (awake_ct hin ) ?_
  rintro _ H15 ⟨rfl, k15⟩
  have zk15 := k15.1
  replace hin := hin.kp k15
  replace hkp := hkp.trans (k15.mono hkp.1)
  refine LF.step (OpOk.assign rfl) (LF.nil (PF.next (CF.seq (CF.region (LF.step (OpOk.move rfl) ?_)))))
  refine LF.call (OpCall.fn Try.ent13 rfl rfl) (made_ct hin p0) ?_
  rintro v17 H17 ⟨F17, x17, i17, k17, h17⟩
  have zk17 := k17.1
  replace hx := hx.trans x17 hkp.1
  replace hkp := hkp.trans (k17.mono hkp.1)
  have l17 := hkp.1
  have le0 := x17.1
  have hin := i17
  have h17q := rL.len2 h17
  refine LF.step (OpOk.assign rfl) (LF.nil (PF.next (CF.seq (CF.region (LF.step (OpOk.assign rfl) (LF.nil (PF.next (CF.seq (CF.seq (CF.region (LF.step (OpOk.assign rfl) ?_)))))))))))
  refine LF.nil (PF.next (CF.block ?_))
  refine CF.loop (ι := Nat) (fun k H1 => k ≤ (madeM s).length ∧ InH F17 H1 ∧ Kp H.size H H1) (fun k => [(2, .bool false), (3, .bool true), (4, v17), (5, .bool (lacksM ((madeM s).take k))), (6, .int .i64 (↑k))]) (fun k => (madeM s).length - k) 0 ⟨by omega, hin, hkp⟩ ⟨rfl, rfl, rfl, rfl, eqI (by omega), trivial⟩ ?_
  clear hin hkp
  rintro k H1 ⟨hk, hin, hkp⟩
  refine CF.seq (CF.seq (CF.region (LF.step (OpOk.move rfl) (LF.step (OpOk.move rfl) ?_))))
  refine LF.step (OpOk.lenL Try.underlying22 h17 rfl) ?_
  refine LF.step (OpOk.lss rfl rfl) ?_
  refine LF.nil (PF.next ?_)
  refine CF.if rfl (fun hc1 => ?_) (fun hc1 => ?_)
  refine CF.skip (PF.next (CF.seq (CF.block ?_)))
  refine CF.still Try.mixed (by kernel_rfl) ?_
  refine LS.step (OpOk.move rfl) (LS.step (OpOk.move rfl) ?_)
  refine LS.gstep rfl rfl (.f _) (fun hg => OpOk.move rfl) ?_
  refine LS.gstep rfl rfl (.f _) (fun hg => OpOk.move rfl) ?_
  refine LS.gstep rfl rfl (.f _) (fun hg => OpOk.idxL (i := k) Try.underlying22 Try.sz31 h17 (evg rfl hg) (evg rfl hg) rfl (by omega)) ?_
  refine LS.gstep rfl rfl (.f _) (fun hg => OpOk.fieldAddr (Try.fld31_0) (evg rfl hg)) ?_
  refine LS.gstep rfl rfl (.f _) (fun hg => OpOk.ldI hin (rMove.at_To (rL.ix h17 k (by omega))) Try.one3 (evg rfl hg)) ?_
  refine LS.gstep rfl rfl (.f _) (fun hg => OpOk.geq (evg rfl hg) rfl) ?_
  refine LS.gstep rfl rfl (.f _) (fun hg => OpOk.move (evg rfl hg)) ?_
  refine LS.gstep rfl rfl (.gt _ _) (fun hg => OpOk.move rfl) ?_
  refine LS.gstep rfl rfl (.gt _ _) (fun hg => OpOk.move rfl) ?_
  refine LS.gstep rfl rfl (.gt _ _) (fun hg => OpOk.idxL (i := k) Try.underlying22 Try.sz31 h17 (evg rfl hg) (evg rfl hg) rfl (by omega)) ?_
  refine LS.gstep rfl rfl (.gt _ _) (fun hg => OpOk.fieldAddr (Try.fld31_1) (evg rfl hg)) ?_
  refine LS.gstep rfl rfl (.gt _ _) (fun hg => OpOk.ldI hin (rMove.at_From (rL.ix h17 k (by omega))) Try.one3 (evg rfl hg)) ?_
  refine LS.gstep rfl rfl (.gt _ _) (fun hg => OpOk.geq (evg rfl hg) rfl) ?_
  refine LS.gstep rfl rfl (.f _) (fun hg => OpOk.pickAnd2 hg rfl rfl) ?_
  refine LS.gstep rfl rfl (.f _) (fun hg => OpOk.move (evg rfl hg)) ?_
  refine LS.gstep rfl rfl (.gt _ _) (fun hg => OpOk.move rfl) ?_
  refine LS.gstep rfl rfl (.gt _ _) (fun hg => OpOk.move rfl) ?_
  refine LS.gstep rfl rfl (.gt _ _) (fun hg => OpOk.idxL (i := k) Try.underlying22 Try.sz31 h17 (evg rfl hg) (evg rfl hg) rfl (by omega)) ?_
  refine LS.gstep rfl rfl (.gt _ _) (fun hg => OpOk.fieldAddr (Try.fld31_0) (evg rfl hg)) ?_
  refine LS.gstep rfl rfl (.gt _ _) (fun hg => OpOk.ldI hin (rMove.at_To (rL.ix h17 k (by omega))) Try.one3 (evg rfl hg)) ?_
  refine LS.gstep rfl rfl (.gt _ _) (fun hg => OpOk.move rfl) ?_
  refine LS.gstep rfl rfl (.gt _ _) (fun hg => OpOk.move rfl) ?_
  refine LS.gstep rfl rfl (.gt _ _) (fun hg => OpOk.idxL (i := k) Try.underlying22 Try.sz31 h17 (evg rfl hg) (evg rfl hg) rfl (by omega)) ?_
  refine LS.gstep rfl rfl (.gt _ _) (fun hg => OpOk.fieldAddr (Try.fld31_1) (evg rfl hg)) ?_
  refine LS.gstep rfl rfl (.gt _ _) (fun hg => OpOk.ldI hin (rMove.at_From (rL.ix h17 k (by omega))) Try.one3 (evg rfl hg)) ?_
  refine LS.gstep rfl rfl (.gt _ _) (fun hg => OpOk.neq (evg rfl hg) (evg rfl hg)) ?_
  refine LS.gstep rfl rfl (.f _) (fun hg => OpOk.pickAnd2 hg rfl rfl) ?_
  refine LS.step (OpOk.pickOr rfl rfl) ?_
  refine LS.step (OpOk.assign rfl) ?_
  refine LS.done ?_
  refine PF.blockNormal (PF.next (CF.region (LF.step (OpOk.move rfl) ?_)))
  refine LF.step (OpOk.add rfl rfl (by omega)) ?_
  refine LF.step (OpOk.assign rfl) (LF.nil ?_)
  exact PF.again (k + 1) ⟨by omega, hin, hkp⟩ ⟨rfl, rfl, rfl, (by rw [lacks_snoc (by omega)]; rfl), eqI (by omega), trivial⟩ (by omega)
  rw [show List.take k (madeM s) = madeM s from List.take_of_length_le (by omega)]
  refine CF.exit (PF.thenExit (PF.thenExit (PF.blockHere (PF.next (CF.seq (CF.region (LF.step (OpOk.move rfl) ?_)))))))
  refine LF.call (OpCall.fn Try.ent16 rfl rfl) (circles_ct hin h17 (by first | omega | decide | assumption | exact made_ok s | exact made_keys s | exact lowL_ok s | exact lowL_keys s | (have := made_len s; omega)) (by first | omega | decide | assumption | exact made_ok s | exact made_keys s | exact lowL_ok s | exact lowL_keys s | (have := made_len s; omega)) (by first | omega | decide | assumption | exact made_ok s | exact made_keys s | exact lowL_ok s | exact lowL_keys s | (have := made_len s; omega))) ?_
  rintro v55 H55 ⟨F55, x55, i55, k55, h55⟩
  have zk55 := k55.1
  replace hx := hx.trans x55 hkp.1
  replace hkp := hkp.trans (k55.mono hkp.1)
  have l55 := hkp.1
  replace le0 := le0.trans x55.1
  have le1 := x55.1
  have hin := i55
  have h55q := rL.len2 h55
  refine LF.step (OpOk.assign rfl) (LF.nil (PF.next (CF.seq (CF.region (LF.step (OpOk.assign rfl) (LF.nil (PF.next (CF.seq (CF.seq (CF.region (LF.step (OpOk.assign rfl) ?_)))))))))))
  refine LF.nil (PF.next (CF.block ?_))
  refine CF.loop (ι := Nat) (fun i H1 => i ≤ (circlesM (madeM s)).length ∧ InH F55 H1 ∧ Kp H.size H H1) (fun i => [(2, .bool false), (3, .bool true), (4, v17), (5, .bool (lacksM (madeM s))), (7, v55), (8, .bool (roundM ((circlesM (madeM s)).take i))), (9, .int .i64 (↑i))]) (fun i => (circlesM (madeM s)).length - i) 0 ⟨by omega, hin, hkp⟩ ⟨rfl, rfl, rfl, rfl, rfl, rfl, eqI (by omega), trivial⟩ ?_
  clear hin hkp
  rintro i H1 ⟨hi, hin, hkp⟩
  refine CF.seq (CF.seq (CF.region (LF.step (OpOk.move rfl) (LF.step (OpOk.move rfl) ?_))))
  refine LF.step (OpOk.lenL Try.underlying32 h55 rfl) ?_
  refine LF.step (OpOk.lss rfl rfl) ?_
  refine LF.nil (PF.next ?_)
  refine CF.if rfl (fun hc2 => ?_) (fun hc2 => ?_)
  refine CF.skip (PF.next (CF.seq (CF.block (CF.seq (CF.region (LF.step (OpOk.assign rfl) (LF.nil (PF.next (CF.block ?_)))))))))
  refine CF.loop (ι := Nat) (fun j H1 => j ≤ (ix (circlesM (madeM s)) i).length ∧ InH F55 H1 ∧ Kp H.size H H1) (fun j => [(2, .bool false), (3, .bool true), (4, v17), (5, .bool (lacksM (madeM s))), (7, v55), (8, .bool (roundM ((circlesM (madeM s)).take i) || highM ((ix (circlesM (madeM s)) i).take j))), (9, .int .i64 (↑i)), (10, .int .i64 (↑j))]) (fun j => (ix (circlesM (madeM s)) i).length - j) 0 ⟨by omega, hin, hkp⟩ ⟨rfl, rfl, rfl, rfl, rfl, (by show some (Value.bool (roundM _)) = some (Value.bool (roundM _ || false)); rw [Bool.or_false]), rfl, eqI (by omega), trivial⟩ ?_
  clear hin hkp
  rintro j H1 ⟨hj, hin, hkp⟩
  refine CF.seq (CF.seq (CF.region (LF.step (OpOk.move rfl) (LF.step (OpOk.move rfl) (LF.step (OpOk.move rfl) ?_)))))
  refine LF.step (OpOk.idxL (i := i) Try.underlying32 Try.sz23 h55 rfl rfl rfl (by omega)) ?_
  refine LF.stepE (OpOk.ldV hin (rL.ix h55 i (by omega)) Try.one23 rfl rfl) ?_
  intro v66 h66
  have h66q := rL.len2 h66
  refine LF.step (OpOk.lenL Try.underlying23 h66 rfl) ?_
  refine LF.step (OpOk.lss rfl rfl) ?_
  refine LF.nil (PF.next ?_)
  refine CF.if rfl (fun hc3 => ?_) (fun hc3 => ?_)
  refine CF.skip (PF.next (CF.seq (CF.block (CF.region (LF.step (OpOk.move rfl) (LF.step (OpOk.move rfl) ?_))))))
  refine LF.gstep rfl rfl (.f _) (fun hg => OpOk.move rfl) ?_
  refine LF.gstep rfl rfl (.f _) (fun hg => OpOk.move rfl) ?_
  refine LF.gstep rfl rfl (.f _) (fun hg => OpOk.idxL (i := i) Try.underlying32 Try.sz23 h55 (evg rfl hg) (evg rfl hg) rfl (by omega)) ?_
  refine LF.gstepE rfl rfl (.f _) (fun hg => OpOk.ldV hin (rL.ix h55 i (by omega)) Try.one23 rfl (evg rfl hg)) ?_
  intro v76 h76
  refine LF.gstep rfl rfl (.f _) (fun hg => OpOk.move rfl) ?_
  refine LF.gstep rfl rfl (.f _) (fun hg => OpOk.idxL (i := j) Try.underlying23 Try.sz3 (h76 hg) (evg rfl hg) (evg rfl hg) rfl (by omega)) ?_
  refine LF.gstep rfl rfl (.f _) (fun hg => OpOk.ldI hin (rL.ix (h76 hg) j (by omega)) Try.one3 (evg rfl hg)) ?_
  refine LF.gstep rfl rfl (.f _) (fun hg => OpOk.geq (evg rfl hg) rfl) ?_
  refine LF.step (OpOk.pickOr rfl rfl) ?_
  refine LF.step (OpOk.assign rfl) (LF.nil (PF.blockNormal (PF.next (CF.region (LF.step (OpOk.move rfl) ?_)))))
  refine LF.step (OpOk.add rfl rfl (by omega)) ?_
  refine LF.step (OpOk.assign rfl) (LF.nil ?_)
  exact PF.again (j + 1) ⟨by omega, hin, hkp⟩ ⟨rfl, rfl, rfl, rfl, rfl, (by rw [high_snoc (by omega), ← Bool.or_assoc]; rfl), rfl, eqI (by omega), trivial⟩ (by omega)
  have hfull : List.take j (ix (circlesM (madeM s)) i) = ix (circlesM (madeM s)) i := List.take_of_length_le (by omega)
  refine CF.exit (PF.thenExit (PF.thenExit (PF.blockHere (PF.blockNormal (PF.next (CF.region (LF.step (OpOk.move rfl) ?_)))))))
  refine LF.step (OpOk.add rfl rfl (by omega)) ?_
  refine LF.step (OpOk.assign rfl) (LF.nil ?_)
  exact PF.again (i + 1) ⟨by omega, hin, hkp⟩ ⟨rfl, rfl, rfl, rfl, rfl, (by show some (Value.bool (roundM ((circlesM (madeM s)).take i) || highM ((ix (circlesM (madeM s)) i).take j))) = _; rw [hfull, roundM_snoc (by omega)]), eqI (by omega), trivial⟩ (by omega)
  rw [show List.take i (circlesM (madeM s)) = circlesM (madeM s) from List.take_of_length_le (by omega)]
  refine CF.exit (PF.thenExit (PF.thenExit (PF.blockHere (PF.next (CF.seq (CF.region (LF.step (OpOk.move rfl) ?_)))))))
  refine LF.call (OpCall.fn Try.ent17 rfl rfl) (pOrder_ct hin (h17.up le1) (-1) (-1) (by first | omega | decide | assumption | exact made_ok s | exact made_keys s | exact lowL_ok s | exact lowL_keys s | (have := made_len s; omega)) (by decide : IntKind.i64.wrap (-1) = (-1)) (by decide : IntKind.i64.wrap (-1) = (-1))) ?_
  rintro _ H84 ⟨F84, x84, i84, k84, v840, rfl, h840⟩
  have zk84 := k84.1
  replace hx := hx.trans x84 hkp.1
  replace hkp := hkp.trans (k84.mono hkp.1)
  have l84 := hkp.1
  replace le0 := le0.trans x84.1
  replace le1 := le1.trans x84.1
  have le2 := x84.1
  have hin := i84
  have h840q := rL.len2 h840
  refine LF.step (OpOk.move rfl) ?_
  refine LF.step (OpOk.extract (v := v840) rfl rfl) ?_
  refine LF.step (OpOk.extract (v := .int .i64 ((orderR (madeM s) (-1) (-1)).2)) rfl rfl) ?_
  refine LF.step (OpOk.assign rfl) (LF.step (OpOk.assign rfl) (LF.nil (PF.next (CF.seq (CF.region (LF.step (OpOk.move rfl) ?_))))))
  refine LF.call (OpCall.fn Try.ent17 rfl rfl) (pOrder_ct hin (h17.up le1) 15 (-1) (by first | omega | decide | assumption | exact made_ok s | exact made_keys s | exact lowL_ok s | exact lowL_keys s | (have := made_len s; omega)) (by decide : IntKind.i64.wrap 15 = 15) (by decide : IntKind.i64.wrap (-1) = (-1))) ?_
  rintro _ H89 ⟨F89, x89, i89, k89, v890, rfl, h890⟩
  have zk89 := k89.1
  replace hx := hx.trans x89 hkp.1
  replace hkp := hkp.trans (k89.mono hkp.1)
  have l89 := hkp.1
  replace le0 := le0.trans x89.1
  replace le1 := le1.trans x89.1
  replace le2 := le2.trans x89.1
  have le3 := x89.1
  have hin := i89
  have h890q := rL.len2 h890
  refine LF.step (OpOk.move rfl) ?_
  refine LF.step (OpOk.extract (v := v890) rfl rfl) ?_
  refine LF.step (OpOk.extract (v := .int .i64 ((orderR (madeM s) 15 (-1)).2)) rfl rfl) ?_
  refine LF.step (OpOk.assign rfl) (LF.step (OpOk.assign rfl) (LF.nil (PF.next (CF.seq (CF.region (LF.step (OpOk.move rfl) (LF.step (OpOk.move rfl) ?_)))))))
  refine LF.gstepK rfl rfl (.t _) (OpOk.move rfl) ?_
  refine LF.gstepK rfl rfl (.t _) (OpOk.eql rfl rfl) ?_
  refine LF.gstepK rfl rfl (.t _) (OpOk.move rfl) ?_
  refine LF.gstepK rfl rfl (.t _) (OpOk.move rfl) ?_
  refine LF.gstep rfl rfl (.f _) (fun hg => OpOk.move rfl) ?_
  refine LF.gstepK rfl rfl (.t _) (OpOk.pickOr rfl rfl) ?_
  refine LF.gstepK rfl rfl (.t _) (OpOk.eqlB Try.underlying4 rfl rfl) ?_
  refine LF.step (OpOk.pickAnd rfl rfl) ?_
  refine LF.step (OpOk.move rfl) ?_
  refine LF.gstep rfl rfl (.t _) (fun hg => OpOk.move rfl) ?_
  refine LF.gstep rfl rfl (.t _) (fun hg => OpOk.eql (evg rfl hg) rfl) ?_
  refine LF.gstep rfl rfl (.t _) (fun hg => OpOk.move rfl) ?_
  refine LF.gstep rfl rfl (.t _) (fun hg => OpOk.eqlB Try.underlying4 (evg rfl hg) (evg rfl hg)) ?_
  refine LF.step (OpOk.pickAnd rfl rfl) ?_
  refine LF.step (OpOk.move rfl) ?_
  refine LF.gstep rfl rfl (.t _) (fun hg => OpOk.move rfl) ?_
  refine LF.gstep rfl rfl (.t _) (fun hg => OpOk.eql (evg rfl hg) rfl) ?_
  refine LF.gstep rfl rfl (.t _) (fun hg => OpOk.move (evg rfl hg)) ?_
  refine LF.gstep rfl rfl (.gf _ _) (fun hg => OpOk.move rfl) ?_
  refine LF.gstep rfl rfl (.gf _ _) (fun hg => OpOk.eql (evg rfl hg) rfl) ?_
  refine LF.gstep rfl rfl (.t _) (fun hg => OpOk.pickOr2 hg rfl rfl) ?_
  refine LF.step (OpOk.pickAnd rfl rfl) ?_
  refine LF.step (OpOk.move rfl) ?_
  refine LF.gstep rfl rfl (.t _) (fun hg => OpOk.move rfl) ?_
  refine LF.gstep rfl rfl (.t _) (fun hg => OpOk.eql (evg rfl hg) rfl) ?_
  refine LF.gstep rfl rfl (.t _) (fun hg => OpOk.move (evg rfl hg)) ?_
  refine LF.gstep rfl rfl (.gf _ _) (fun hg => OpOk.move rfl) ?_
  refine LF.gstep rfl rfl (.gf _ _) (fun hg => OpOk.eql (evg rfl hg) rfl) ?_
  refine LF.gstep rfl rfl (.t _) (fun hg => OpOk.pickOr2 hg rfl rfl) ?_
  refine LF.step (OpOk.pickAnd rfl rfl) ?_
  refine LF.step (OpOk.assign rfl) (LF.nil (PF.next (CF.ret ?_)))
  have hm : (fun _ => true) s = (((((decide ((orderR (madeM s) (-1) (-1)).2 = 43)) == ((lacksM (madeM s)) || (roundM (circlesM (madeM s))))) && ((decide ((orderR (madeM s) 15 (-1)).2 = 43)) == (roundM (circlesM (madeM s))))) && ((decide ((orderR (madeM s) (-1) (-1)).2 = 0)) || (decide ((orderR (madeM s) (-1) (-1)).2 = 43)))) && ((decide ((orderR (madeM s) 15 (-1)).2 = 0)) || (decide ((orderR (madeM s) 15 (-1)).2 = 43)))) := by
    exact (lacks_law s).symm
  exact PF.ret1 rfl rfl ⟨by first | (rw [hm] <;> rfl) | exact (congrArg Value.bool hm).symm, hkp⟩

end Go.Proofs.Ytcceglmmpbdhiaa
