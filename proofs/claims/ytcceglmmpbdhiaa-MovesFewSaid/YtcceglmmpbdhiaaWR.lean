/- Walks. Conditions: each contract names its own. -/
import Derived.Test.YtcceglmmpbdhiaaWQ
namespace Go.Proofs.Ytcceglmmpbdhiaa
set_option linter.unusedVariables false
set_option linter.unusedSimpArgs false
set_option linter.unusedSectionVars false
set_option maxRecDepth 8000
open Go.JE

theorem Try.ent29 : Ent Try.prog 29 := ⟨_, Try.func29, by kernel_rfl, by kernel_rfl⟩
theorem Try.info23 : (Try.prog.info? 23).map (fun i => (i.zero, i.size, i.bytes)) = some (some (.slice none 0 0), 1, 24) := by kernel_rfl
theorem key_rng {l : List D.Move} (hok : okM l = true) {k : Nat} (hk : k < (leftL l).length) : 0 ≤ ix (leftL l) k ∧ ix (leftL l) k < 16400 := by
  obtain ⟨m, hm, e⟩ := leftL_mem.1 (ix_mem hk)
  have := okM_mem hok hm
  omega

-- jacquard/jacquardref11.Circles: function 16
theorem circles_ct {F : PH} {H : Heap} (hin : InH F H) {a0 : Value} {l : List D.Move} (p0 : (rL rMove).rv F a0 l) (hl9 : l.length ≤ 30) (hok : okM l = true) (hnd : (keysM l).Nodup) :
    Ct Try.prog 16 #[a0] H (fun v H' => ∃ F', PH.ext H F F' ∧ InH F' H' ∧ Kp H.size H H' ∧ (rL (rL (rI .i64))).rv F' v (circlesM l)) := by
  have q0 := rL.len2 p0
  have hkp := Kp.refl H.size H
  have hx := PH.ext.refl (H := H) F
  refine Ct.enter (args := [a0]) Try.func16 rfl rfl rfl (fun w0 hw0 => ?_)
  refine CF.seq (CF.region (LF.step (OpOk.assign rfl) (LF.nil (PF.next (CF.seq (CF.region (LF.step (OpOk.assign rfl) (LF.nil (PF.next (CF.seq (CF.region ?_)))))))))))
  refine LF.step (OpOk.assign rfl) (LF.nil (PF.next (CF.seq (CF.region (LF.step (OpOk.assign rfl) (LF.nil (PF.next (CF.block ?_))))))))
  have x9003 := (fun (H9 : Heap) (_ : InH F H9) => (Gl.nil F H9 H.size : Gl (rL (rI .i64)) 23 F H9 H.size (.slice none 0 0) [])) _ hin
  refine CF.loop (ι := Nat × Int × Bool × Value × List (List Int) × PH) (fun z9 H1 => AtKey l z9.1 z9.2.2.1 z9.2.1 ∧ z9.2.2.2.2.1 = ((leftL l).take z9.1).filterMap (circF l) ∧ PH.ext H F z9.2.2.2.2.2 ∧ PH.le F z9.2.2.2.2.2 ∧ InH z9.2.2.2.2.2 H1 ∧ Kp H.size H H1 ∧ Gl (rL (rI .i64)) 23 z9.2.2.2.2.2 H1 H.size z9.2.2.2.1 z9.2.2.2.2.1) (fun z9 => [(0, a0), (3, z9.2.2.2.1), (4, .int .i64 z9.2.1), (5, .bool z9.2.2.1)]) (fun z9 => (leftL l).length + 1 - z9.1) (0, 0, false, .slice none 0 0, [], F) ⟨⟨Nat.zero_le _, fun _ => rfl, fun h => (by cases h)⟩, rfl, hx, PH.le.refl _, hin, hkp, x9003⟩ ⟨rfl, rfl, rfl, rfl, trivial⟩ ?_
  clear hx hin hkp x9003
  rintro ⟨k, la, bg, vo, o, Fl⟩ H1 ⟨hA, hO, hx, le0, hin, hkp, x9003⟩
  dsimp only at hA hO hin hkp x9003 ⊢
  have hol : o.length ≤ k := by rw [hO]; exact Nat.le_trans (List.length_filterMap_le _ _) (by rw [List.length_take]; omega)
  have hll := leftL_len l
  have hAk := hA.1
  refine CF.block (CF.seq (CF.region (LF.step (OpOk.assign rfl) (LF.nil (PF.next (CF.seq (CF.region (LF.step (OpOk.assign rfl) (LF.nil (PF.next (CF.seq ?_)))))))))))
  refine CF.seq (CF.region (LF.step (OpOk.assign rfl) (LF.nil (PF.next (CF.block ?_)))))
  refine CF.loop (ι := Nat × Bool × Int) (fun z9 H1 => z9.1 ≤ l.length ∧ LeastOf (candM l bg la z9.1) z9.2.1 z9.2.2 ∧ InH Fl H1 ∧ Kp H.size H H1 ∧ Gl (rL (rI .i64)) 23 Fl H1 H.size vo o) (fun z9 => [(0, a0), (3, vo), (4, .int .i64 la), (5, .bool bg), (6, .int .i64 z9.2.2), (7, .bool z9.2.1), (8, .int .i64 (↑z9.1))]) (fun z9 => l.length - z9.1) (0, false, 0) ⟨by dsimp only; omega, ⟨fun _ => rfl, fun h => (by cases h)⟩, hin, hkp, x9003⟩ ⟨rfl, rfl, rfl, rfl, rfl, rfl, eqI (by omega), trivial⟩ ?_
  clear hin hkp x9003
  rintro ⟨j, sm, x⟩ H1 ⟨hj, hL, hin, hkp, x9003⟩
  dsimp only at hj hL x9003 ⊢
  refine CF.seq (CF.seq (CF.region (LF.step (OpOk.move rfl) (LF.step (OpOk.move rfl) ?_))))
  refine LF.step (OpOk.lenL Try.underlying22 (p0.up le0) rfl) ?_
  refine LF.step (OpOk.lss rfl rfl) ?_
  refine LF.nil (PF.next ?_)
  refine CF.if rfl (fun hc1 => ?_) (fun hc1 => ?_)
  refine CF.skip (PF.next (CF.seq (CF.block (CF.seq (CF.region (LF.step (OpOk.move rfl) ?_))))))
  refine LF.step (OpOk.not rfl) ?_
  refine LF.step (OpOk.move rfl) ?_
  refine LF.gstep rfl rfl (.f _) (fun hg => OpOk.move rfl) ?_
  refine LF.gstep rfl rfl (.f _) (fun hg => OpOk.move rfl) ?_
  refine LF.gstep rfl rfl (.f _) (fun hg => OpOk.idxL (i := j) Try.underlying22 Try.sz31 (p0.up le0) (evg rfl hg) (evg rfl hg) rfl (by omega)) ?_
  refine LF.gstep rfl rfl (.f _) (fun hg => OpOk.fieldAddr (Try.fld31_0) (evg rfl hg)) ?_
  refine LF.gstep rfl rfl (.f _) (fun hg => OpOk.ldI hin (rMove.at_To (rL.ix (p0.up le0) j (by omega))) Try.one3 (evg rfl hg)) ?_
  refine LF.gstep rfl rfl (.f _) (fun hg => OpOk.move rfl) ?_
  refine LF.gstep rfl rfl (.f _) (fun hg => OpOk.gtr (evg rfl hg) (evg rfl hg)) ?_
  refine LF.step (OpOk.pickOr rfl rfl) ?_
  refine LF.step (OpOk.move rfl) ?_
  refine LF.gstep rfl rfl (.t _) (fun hg => OpOk.move rfl) ?_
  refine LF.gstep rfl rfl (.t _) (fun hg => OpOk.not (evg rfl hg)) ?_
  refine LF.gstep rfl rfl (.t _) (fun hg => OpOk.move (evg rfl hg)) ?_
  refine LF.gstep rfl rfl (.gf _ _) (fun hg => OpOk.move rfl) ?_
  refine LF.gstep rfl rfl (.gf _ _) (fun hg => OpOk.move rfl) ?_
  refine LF.gstep rfl rfl (.gf _ _) (fun hg => OpOk.idxL (i := j) Try.underlying22 Try.sz31 (p0.up le0) (evg rfl hg) (evg rfl hg) rfl (by omega)) ?_
  refine LF.gstep rfl rfl (.gf _ _) (fun hg => OpOk.fieldAddr (Try.fld31_0) (evg rfl hg)) ?_
  refine LF.gstep rfl rfl (.gf _ _) (fun hg => OpOk.ldI hin (rMove.at_To (rL.ix (p0.up le0) j (by omega))) Try.one3 (evg rfl hg)) ?_
  refine LF.gstep rfl rfl (.gf _ _) (fun hg => OpOk.move rfl) ?_
  refine LF.gstep rfl rfl (.gf _ _) (fun hg => OpOk.lss (evg rfl hg) (evg rfl hg)) ?_
  refine LF.gstep rfl rfl (.t _) (fun hg => OpOk.pickOr2 hg rfl rfl) ?_
  refine LF.step (OpOk.pickAnd rfl rfl) ?_
  refine LF.nil (PF.next ?_)
  refine CF.if rfl (fun hc2 => ?_) (fun hc2 => ?_)
  refine CF.seq (CF.region (LF.step (OpOk.move rfl) (LF.step (OpOk.move rfl) ?_)))
  refine LF.step (OpOk.idxL (i := j) Try.underlying22 Try.sz31 (p0.up le0) rfl rfl rfl (by omega)) ?_
  refine LF.step (OpOk.fieldAddr (Try.fld31_0) rfl) ?_
  refine LF.step (OpOk.ldI hin (rMove.at_To (rL.ix (p0.up le0) j (by omega))) Try.one3 rfl) ?_
  refine LF.step (OpOk.assign rfl) (LF.nil (PF.next (CF.region (LF.step (OpOk.assign rfl) (LF.nil (PF.blockNormal (PF.next (CF.region (LF.step (OpOk.move rfl) ?_)))))))))
  refine LF.step (OpOk.add rfl rfl (by omega)) ?_
  refine LF.step (OpOk.assign rfl) (LF.nil ?_)
  exact PF.again (j + 1, true, (ix l j).To) ⟨by dsimp only; omega, least_take (by omega) hL hc2, hin, hkp, x9003⟩ ⟨rfl, rfl, rfl, rfl, rfl, rfl, eqI (by omega), trivial⟩ (by omega)
  refine CF.skip (PF.blockNormal (PF.next (CF.region (LF.step (OpOk.move rfl) ?_))))
  refine LF.step (OpOk.add rfl rfl (by omega)) ?_
  refine LF.step (OpOk.assign rfl) (LF.nil ?_)
  exact PF.again (j + 1, sm, x) ⟨by dsimp only; omega, least_skip (by omega) hL (fun h9 => hc2.elim (fun h8 => h9.1.elim (fun h7 => by rw [h8.1] at h7; cases h7) (fun h7 => h8.2 h7)) (fun h8 => h9.2.elim (fun h7 => by rw [h8.1] at h7; cases h7) (fun h7 => h8.2 h7))), hin, hkp, x9003⟩ ⟨rfl, rfl, rfl, rfl, rfl, rfl, eqI (by omega), trivial⟩ (by omega)
  obtain rfl : j = l.length := by omega
  refine CF.exit (PF.thenExit (PF.thenExit (PF.blockHere (PF.next (CF.seq (CF.seq (CF.region (LF.step (OpOk.move rfl) ?_))))))))
  refine LF.step (OpOk.not rfl) ?_
  refine LF.nil (PF.next ?_)
  refine CF.if rfl (fun hc3 => ?_) (fun hc3 => ?_)
  have hsm : sm = false := by simpa using hc3
  rw [hsm] at hL
  refine CF.seq (CF.region (LF.step (OpOk.move rfl) (LF.step (OpOk.assign rfl) (LF.nil (PF.next (CF.ret (PF.thenRet (PF.blockRet (PF.thenRet (PF.blockRet ?_))))))))))
  obtain ⟨Fz1, hxz1, lez1, hinz1, _, hrz1⟩ := x9003.freezeX hin hx (Nat.le_refl _) (by first | (simp only [List.length_append, List.length_take, List.length_drop, List.length_nil, List.length_cons, List.length_set, List.length_replicate]; omega) | (simp; done) | (simp; omega) | omega)
  replace hin := hinz1
  replace hx := hxz1
  replace le0 := le0.trans lez1
  have le1 := lez1
  have hm : circlesM l = o := by
    rw [hO, key_end hnd hA hL, List.take_length]; rfl
  exact PF.ret1 rfl rfl ⟨_, hx, hin, hkp, by rw [hm]; exact hrz1⟩
  have hsm : sm = true := by simpa using hc3
  rw [hsm] at hL
  have hkx := key_next hnd hA hL
  have hxr := key_rng hok hkx.1
  rw [← hkx.2] at hxr
  have har := around_len l x
  refine CF.skip (PF.next (CF.seq (CF.region (LF.step (OpOk.move rfl) (LF.step (OpOk.assign rfl) (LF.nil (PF.next (CF.seq (CF.region (LF.step (OpOk.assign rfl) (LF.nil ?_)))))))))))
  refine PF.next (CF.seq (CF.region (LF.step (OpOk.move rfl) (LF.step (OpOk.move rfl) ?_))))
  refine LF.call (OpCall.fn Try.ent29 rfl rfl) (around_ct hin (p0.up le0) x (by first | omega | assumption) (by first | omega | assumption) (by first | omega | assumption)) ?_
  rintro v51 H51 ⟨F51, x51, i51, k51, h51⟩
  have zk51 := k51.1
  replace hx := hx.trans x51 hkp.1
  replace hkp := hkp.trans (k51.mono hkp.1)
  have l51 := hkp.1
  replace x9003 := (x9003.ext x51).kp k51
  replace le0 := le0.trans x51.1
  have le1 := x51.1
  have hin := i51
  have h51q := rL.len2 h51
  refine LF.step (OpOk.assign rfl) (LF.nil (PF.next (CF.seq (CF.region (LF.step (OpOk.move rfl) ?_)))))
  refine LF.step (OpOk.lenL Try.underlying23 h51 rfl) ?_
  refine LF.step (OpOk.gtr rfl rfl) ?_
  refine LF.nil (PF.next ?_)
  refine CF.if rfl (fun hc4 => ?_) (fun hc4 => ?_)
  refine CF.region (LF.step (OpOk.move rfl) (LF.step (OpOk.move rfl) ?_))
  refine LF.appV (r := (rL (rI .i64))) (a := aroundM l x) Try.underlying32 Try.info23 (by decide) rfl rfl rfl h51 x9003 hin (by first | (simp only [List.length_append, List.length_take, List.length_drop, List.length_nil, List.length_cons, List.length_set, List.length_replicate]; omega) | (simp; done) | (simp; omega) | omega) rfl ?_ hkp.1
  intro v58 H58 x58 gb58 nn58 ob58
  replace hin := hin.grown gb58 x9003.no
  replace hkp := gb58.kp hkp (Nat.le_refl _) (fun k0 hk0 => (x9003.blk k0 hk0).1)
  refine LF.step (OpOk.assign rfl) (LF.nil (PF.blockNormal ?_))
  exact PF.again (k + 1, x, true, v58, o ++ [aroundM l x], F51) ⟨⟨by dsimp only; omega, fun h => (by cases h), fun _ => ⟨by dsimp only; omega, by dsimp only; rw [Nat.add_sub_cancel]; exact hkx.2⟩⟩, by dsimp only; rw [circ_snoc hkx.1, ← hkx.2, ← hO]; first | (rw [if_pos (by omega)]; done) | (rw [if_neg (by omega), List.append_nil]; done), hx, le0, hin, hkp, x58⟩ ⟨rfl, rfl, rfl, rfl, trivial⟩ (by omega)
  refine CF.skip (PF.blockNormal ?_)
  exact PF.again (k + 1, x, true, vo, o, F51) ⟨⟨by dsimp only; omega, fun h => (by cases h), fun _ => ⟨by dsimp only; omega, by dsimp only; rw [Nat.add_sub_cancel]; exact hkx.2⟩⟩, by dsimp only; rw [circ_snoc hkx.1, ← hkx.2, ← hO]; first | (rw [if_pos (by omega)]; done) | (rw [if_neg (by omega), List.append_nil]; done), hx, le0, hin, hkp, x9003⟩ ⟨rfl, rfl, rfl, rfl, trivial⟩ (by omega)

end Go.Proofs.Ytcceglmmpbdhiaa
