/- Walks. Conditions: each contract names its own. -/
import Derived.Test.YtcceglmmpbdhiaaM6
import Derived.Test.YtcceglmmpbdhiaaWJ
namespace Go.Proofs.Ytcceglmmpbdhiaa
set_option linter.unusedVariables false
set_option linter.unusedSimpArgs false
set_option linter.unusedSectionVars false
set_option maxRecDepth 8000
open Go.JE

theorem Try.ent56 : Ent Try.prog 56 := ⟨_, Try.func56, by kernel_rfl, by kernel_rfl⟩
-- jacquard/jacquardref11.takes: function 56
theorem takes_ct {F : PH} {H : Heap} (hin : InH F H) {a0 : Value} {l : List D.Move} (p0 : (rL rMove).rv F a0 l) (p : Int) (hl9 : l.length ≤ 30) (hok : okM l = true) :
    Ct Try.prog 56 #[a0, .int .i64 p] H (fun v H' => v = .tuple #[.int .i64 ((takesM l p).1), .bool ((takesM l p).2)] ∧ H' = H) := by
  have q0 := rL.len2 p0
  have hkp := Kp.refl H.size H
  have hx := PH.ext.refl (H := H) F
  refine Ct.enter (args := [a0, .int .i64 p]) Try.func56 rfl rfl rfl (fun w0 hw0 => ?_)
  refine CF.seq (CF.region (LF.step (OpOk.assign rfl) (LF.step (OpOk.assign rfl) (LF.nil (PF.next (CF.seq (CF.seq (CF.region (LF.step (OpOk.move rfl) ?_)))))))))
  refine LF.step (OpOk.lenL Try.underlying22 p0 rfl) ?_
  refine LF.step (OpOk.sub rfl rfl (by omega)) ?_
  refine LF.step (OpOk.assign rfl) (LF.nil (PF.next (CF.block ?_)))
  refine CF.loop (ι := Nat) (fun k H1 => k ≤ l.length ∧ srcM l p = srcM (l.take k) p ∧ H1 = H) (fun k => [(0, a0), (1, .int .i64 p), (6, .int .i64 ((↑k - 1)))]) (fun k => k) l.length ⟨by omega, by rw [List.take_length], rfl⟩ ⟨rfl, rfl, eqI (by omega), trivial⟩ ?_
  rintro k H1 ⟨hk, hR, rfl⟩
  refine CF.seq (CF.seq (CF.region (LF.step (OpOk.move rfl) ?_)))
  refine LF.step (OpOk.geq rfl rfl) ?_
  refine LF.nil (PF.next ?_)
  refine CF.if rfl (fun hc1 => ?_) (fun hc1 => ?_)
  obtain ⟨k1, hk1⟩ : ∃ k1, k = k1 + 1 := ⟨k - 1, by omega⟩
  refine CF.skip (PF.next (CF.seq (CF.block (CF.seq (CF.region (LF.step (OpOk.move rfl) (LF.step (OpOk.move rfl) ?_)))))))
  refine LF.step (OpOk.idxL (i := (k - 1)) Try.underlying22 Try.sz31 p0 rfl rfl (by omega) (by omega)) ?_
  refine LF.step (OpOk.fieldAddr (Try.fld31_0) rfl) ?_
  refine LF.step (OpOk.ldI hin (rMove.at_To (rL.ix p0 (k - 1) (by omega))) Try.one3 rfl) ?_
  refine LF.step (OpOk.move rfl) ?_
  refine LF.step (OpOk.eql rfl rfl) ?_
  refine LF.nil (PF.next ?_)
  refine CF.if rfl (fun hc2 => ?_) (fun hc2 => ?_)
  refine CF.seq (CF.region (LF.step (OpOk.move rfl) (LF.step (OpOk.move rfl) ?_)))
  refine LF.step (OpOk.idxL (i := (k - 1)) Try.underlying22 Try.sz31 p0 rfl rfl (by omega) (by omega)) ?_
  refine LF.step (OpOk.fieldAddr (Try.fld31_1) rfl) ?_
  refine LF.step (OpOk.ldI hin (rMove.at_From (rL.ix p0 (k - 1) (by omega))) Try.one3 rfl) ?_
  refine LF.step (OpOk.assign rfl) (LF.step (OpOk.assign rfl) (LF.nil (PF.next (CF.ret (PF.blockRet (PF.thenRet (PF.thenRet (PF.blockRet (PF.thenRet ?_)))))))))
  have hm : takesM l p = ((ix l (k - 1)).From, true) := by
    first | exact takes_none hR | (subst hk1; exact takes_hit hok (by omega) hR hc2)
  exact PF.ret2 rfl rfl rfl ⟨by rw [hm] <;> rfl, rfl⟩
  refine CF.skip (PF.blockNormal (PF.next (CF.region (LF.step (OpOk.move rfl) ?_))))
  refine LF.step (OpOk.sub rfl rfl (by omega)) ?_
  refine LF.step (OpOk.assign rfl) (LF.nil ?_)
  exact PF.again (k - 1) ⟨by omega, by rw [hR, hk1, src_snoc l p (by omega), Nat.add_sub_cancel, if_neg (by rw [hk1, Nat.add_sub_cancel] at hc2; exact hc2)], rfl⟩ ⟨rfl, rfl, eqI (by omega), trivial⟩ (by omega)
  obtain rfl : k = 0 := by omega
  refine CF.exit (PF.thenExit (PF.thenExit (PF.blockHere (PF.next (CF.seq (CF.region (LF.step (OpOk.assign rfl) (LF.step (OpOk.assign rfl) (LF.nil (PF.next (CF.ret ?_)))))))))))
  have hm : takesM l p = (0, false) := by
    first | exact takes_none hR | (subst hk1; exact takes_hit hok (by omega) hR hc2)
  exact PF.ret2 rfl rfl rfl ⟨by rw [hm] <;> rfl, rfl⟩

theorem ar_no {q x : Int} {a b : Nat} (h : ((isT q = false ∨ vaT q = x) ∨ ¬ x < vaT q) ∨ ¬ (a : Int) ≤ b) : ¬ (((isT q = true ∧ ¬ vaT q = x) ∧ x < vaT q) ∧ a ≤ b) := by
  rintro ⟨⟨⟨h1, h2⟩, h3⟩, h4⟩
  rcases h with ((h | h) | h) | h
  · rw [h1] at h; cases h
  · exact h2 h
  · exact h h3
  · omega
theorem va_id {q x : Int} (h : (isT q = true ∧ ¬ vaT q = x) ∧ x < vaT q) : vaT q = q := by
  have h0 : 0 ≤ q := by simpa [isT] using h.1.1
  unfold vaT; rw [if_neg (by omega)]

-- jacquard/jacquardref11.around: function 29
theorem around_ct {F : PH} {H : Heap} (hin : InH F H) {a0 : Value} {l : List D.Move} (p0 : (rL rMove).rv F a0 l) (x : Int) (hl9 : l.length ≤ 30) (hok : okM l = true) (hx0 : 0 ≤ x ∧ x < 16400) :
    Ct Try.prog 29 #[a0, .int .i64 x] H (fun v H' => ∃ F', PH.ext H F F' ∧ InH F' H' ∧ Kp H.size H H' ∧ (rL (rI .i64)).rv F' v (aroundM l x)) := by
  have q0 := rL.len2 p0
  have hkp := Kp.refl H.size H
  have hx := PH.ext.refl (H := H) F
  refine Ct.enter (args := [a0, .int .i64 x]) Try.func29 rfl rfl rfl (fun w0 hw0 => ?_)
  refine CF.seq (CF.region (LF.step (OpOk.assign rfl) (LF.nil (PF.next (CF.seq (CF.region (LF.step (OpOk.move rfl) ?_)))))))
  refine LF.chg (OpCh.litL (F := F) (r := (rI .i64)) (l := [x]) (us := [.int .i64 x]) (cs := [[.int .i64 x]]) Try.underlying23 Try.info3 (by decide) rfl rfl rfl ⟨rfl, rfl, ⟨rfl, (IntWalk.i64_in x (by omega))⟩, trivial⟩) ?_
  rintro _ H9 ⟨g9, rfl, e9, s9, k9, x9⟩
  have l9 := hkp.1
  replace x9 := (x9 hin).base l9
  have zk9 := k9.1
  replace hin := hin.kp k9
  replace hkp := hkp.trans (k9.mono hkp.1)
  refine LF.step (OpOk.assign rfl) (LF.nil (PF.next (CF.seq (CF.region (LF.step (OpOk.move rfl) (LF.step (OpOk.move rfl) ?_))))))
  refine LF.call (OpCall.fn Try.ent56 rfl rfl) (takes_ct hin p0 x (by first | omega | assumption) (by first | omega | assumption)) ?_
  rintro _ _ ⟨rfl, rfl⟩
  refine LF.step (OpOk.move rfl) ?_
  refine LF.step (OpOk.extract (v := .int .i64 ((takesM l x).1)) rfl rfl) ?_
  refine LF.step (OpOk.extract (v := .bool ((takesM l x).2)) rfl rfl) ?_
  refine LF.step (OpOk.assign rfl) (LF.step (OpOk.assign rfl) (LF.nil (PF.next (CF.seq (CF.block ?_)))))
  refine CF.loop (ι := Value × List Int × Int) (fun z9 H1 => (-1 ≤ z9.2.2 ∧ z9.2.2 < 16400) ∧ 1 ≤ z9.2.1.length ∧ z9.2.1.length ≤ l.length + 1 ∧ aroundM l x = arGo l x (l.length + 1 - z9.2.1.length) z9.2.1 z9.2.2 ∧ InH F H1 ∧ Kp H.size H H1 ∧ Gl (rI .i64) 3 F H1 H.size z9.1 z9.2.1) (fun z9 => [(0, a0), (1, .int .i64 x), (4, .slice none 0 0), (5, z9.1), (6, .int .i64 ((vaT z9.2.2))), (7, .bool (isT z9.2.2))]) (fun z9 => l.length + 2 - z9.2.1.length) (.slice (some ⟨g9, 0, none⟩) 1 1, [x], srcM l x) ⟨srcM_rng hok _, by dsimp only; simp, by dsimp only; simp, rfl, hin, hkp, x9⟩ ⟨rfl, rfl, rfl, rfl, rfl, rfl, trivial⟩ ?_
  clear hin hkp x9
  rintro ⟨vo, o, q⟩ H1 ⟨hq, ho1, ho2, hR, hin, hkp, x9⟩
  dsimp only at hq ho1 ho2 hR x9 ⊢
  have hvq : 0 ≤ vaT q ∧ vaT q < 16400 := by unfold vaT; split <;> omega
  refine CF.seq (CF.seq (CF.region (LF.step (OpOk.move rfl) (LF.step (OpOk.move rfl) ?_))))
  refine LF.gstep rfl rfl (.t _) (fun hg => OpOk.move rfl) ?_
  refine LF.gstep rfl rfl (.t _) (fun hg => OpOk.move rfl) ?_
  refine LF.gstep rfl rfl (.t _) (fun hg => OpOk.neq (evg rfl hg) (evg rfl hg)) ?_
  refine LF.step (OpOk.pickAnd rfl rfl) ?_
  refine LF.step (OpOk.move rfl) ?_
  refine LF.gstep rfl rfl (.t _) (fun hg => OpOk.move rfl) ?_
  refine LF.gstep rfl rfl (.t _) (fun hg => OpOk.move rfl) ?_
  refine LF.gstep rfl rfl (.t _) (fun hg => OpOk.gtr (evg rfl hg) (evg rfl hg)) ?_
  refine LF.step (OpOk.pickAnd rfl rfl) ?_
  refine LF.step (OpOk.move rfl) ?_
  refine LF.gstep rfl rfl (.t _) (fun hg => OpOk.move rfl) ?_
  refine LF.gstep rfl rfl (.t _) (fun hg => OpOk.lenG Try.underlying23 x9 (evg rfl hg)) ?_
  refine LF.gstep rfl rfl (.t _) (fun hg => OpOk.move rfl) ?_
  refine LF.gstep rfl rfl (.t _) (fun hg => OpOk.lenL Try.underlying22 p0 (evg rfl hg)) ?_
  refine LF.gstep rfl rfl (.t _) (fun hg => OpOk.leq (evg rfl hg) (evg rfl hg)) ?_
  refine LF.step (OpOk.pickAnd rfl rfl) ?_
  refine LF.nil (PF.next ?_)
  refine CF.if rfl (fun hc1 => ?_) (fun hc1 => ?_)
  refine CF.skip (PF.next (CF.block (CF.seq (CF.region (LF.step (OpOk.move rfl) (LF.step (OpOk.move rfl) ?_))))))
  refine LF.appV (r := (rI .i64)) (a := (vaT q)) Try.underlying23 Try.info3 (by decide) rfl rfl rfl ⟨rfl, (IntWalk.i64_in (vaT q) (by omega))⟩ x9 hin (by first | (simp only [List.length_append, List.length_take, List.length_drop, List.length_nil, List.length_cons, List.length_set, List.length_replicate]; omega) | (simp; done) | (simp; omega) | omega) rfl ?_ hkp.1
  intro v37 H37 x37 gb37 nn37 ob37
  replace hin := hin.grown gb37 x9.no
  replace hkp := gb37.kp hkp (Nat.le_refl _) (fun k0 hk0 => (x9.blk k0 hk0).1)
  refine LF.step (OpOk.assign rfl) (LF.nil (PF.next (CF.region (LF.step (OpOk.move rfl) (LF.step (OpOk.move rfl) ?_)))))
  refine LF.call (OpCall.fn Try.ent56 rfl rfl) (takes_ct hin p0 (vaT q) (by first | omega | assumption) (by first | omega | assumption)) ?_
  rintro _ _ ⟨rfl, rfl⟩
  refine LF.step (OpOk.move rfl) ?_
  refine LF.step (OpOk.extract (v := .int .i64 ((takesM l (vaT q)).1)) rfl rfl) ?_
  refine LF.step (OpOk.extract (v := .bool ((takesM l (vaT q)).2)) rfl rfl) ?_
  refine LF.step (OpOk.assign rfl) (LF.step (OpOk.assign rfl) (LF.nil (PF.blockNormal ?_)))
  obtain ⟨e1, e2⟩ := (show vaT q = q ∧ True from ⟨va_id hc1.1, trivial⟩)
  rw [e1] at x37
  exact PF.again (v37, o ++ [q], srcM l q) ⟨srcM_rng hok _, by dsimp only; rw [List.length_append, List.length_singleton]; omega, by dsimp only; rw [List.length_append, List.length_singleton]; omega, by dsimp only; rw [hR, arGo_step (by omega) hc1.1], hin, hkp, x37⟩ ⟨rfl, rfl, rfl, rfl, (by show some (Value.int IntKind.i64 (vaT (srcM l (vaT q)))) = _; rw [e1]), (by show some (Value.bool (isT (srcM l (vaT q)))) = _; rw [e1]), trivial⟩ (by dsimp only; rw [List.length_append, List.length_singleton]; omega)
  refine CF.exit (PF.thenExit (PF.thenExit (PF.blockHere (PF.next (CF.seq (CF.seq (CF.region (LF.step (OpOk.move rfl) ?_))))))))
  refine LF.step (OpOk.not rfl) ?_
  refine LF.step (OpOk.move rfl) ?_
  refine LF.gstep rfl rfl (.f _) (fun hg => OpOk.move rfl) ?_
  refine LF.gstep rfl rfl (.f _) (fun hg => OpOk.move rfl) ?_
  refine LF.gstep rfl rfl (.f _) (fun hg => OpOk.neq (evg rfl hg) (evg rfl hg)) ?_
  refine LF.step (OpOk.pickOr rfl rfl) ?_
  refine LF.nil (PF.next ?_)
  refine CF.if rfl (fun hc2 => ?_) (fun hc2 => ?_)
  refine CF.seq (CF.region (LF.step (OpOk.assign rfl) (LF.nil (PF.next (CF.ret (PF.thenRet ?_))))))
  have hm : aroundM l x = ([]) := by
    first | (rw [hR, arGo_end hx0.1 (ar_no hc1), if_neg ((va_eq hx0.1).1 hc2)]; done) | (rw [hR, arGo_end hx0.1 (ar_no hc1), if_pos (Decidable.of_not_not fun h9 => ((va_eq hx0.1).2 h9).elim (fun h8 => by rw [hc2.1] at h8; cases h8) (fun h8 => h8 hc2.2))]; done)
  exact PF.ret1 rfl rfl ⟨_, hx, hin, hkp, by rw [hm]; exact (rL.nil _)⟩
  refine CF.skip (PF.next (CF.seq (CF.region (LF.step (OpOk.move rfl) (LF.step (OpOk.assign rfl) (LF.nil (PF.next (CF.ret ?_))))))))
  obtain ⟨Fz1, hxz1, lez1, hinz1, _, hrz1⟩ := x9.freezeX hin hx (Nat.le_refl _) (by first | (simp only [List.length_append, List.length_take, List.length_drop, List.length_nil, List.length_cons, List.length_set, List.length_replicate]; omega) | (simp; done) | (simp; omega) | omega)
  replace hin := hinz1
  replace hx := hxz1
  have le0 := lez1
  have hm : aroundM l x = o := by
    first | (rw [hR, arGo_end hx0.1 (ar_no hc1), if_neg ((va_eq hx0.1).1 hc2)]; done) | (rw [hR, arGo_end hx0.1 (ar_no hc1), if_pos (Decidable.of_not_not fun h9 => ((va_eq hx0.1).2 h9).elim (fun h8 => by rw [hc2.1] at h8; cases h8) (fun h8 => h8 hc2.2))]; done)
  exact PF.ret1 rfl rfl ⟨_, hx, hin, hkp, by rw [hm]; exact hrz1⟩

end Go.Proofs.Ytcceglmmpbdhiaa
