/- Walks. Conditions: each contract names its own. -/
import Derived.Test.YtcceglmmpbdhiaaMA
import Derived.Test.YtcceglmmpbdhiaaWR
namespace Go.Proofs.Ytcceglmmpbdhiaa
set_option linter.unusedVariables false
set_option linter.unusedSimpArgs false
set_option linter.unusedSectionVars false
set_option maxRecDepth 8000
open Go.JE


-- jacquard/moves.Circles: function 26
set_option maxHeartbeats 4000000 in
theorem pCircles_ct {F : PH} {H : Heap} (hin : InH F H) {a0 : Value} {l : List D.Move} (p0 : (rL rMove).rv F a0 l) (hl9 : l.length ≤ 30) (hok : okM l = true) (hnd : (keysM l).Nodup) :
    Ct Try.prog 26 #[a0] H (fun v H' => ∃ F', PH.ext H F F' ∧ InH F' H' ∧ Kp H.size H H' ∧ (rL (rL (rI .i64))).rv F' v (circlesM l)) := by
  have q0 := rL.len2 p0
  have hkp := Kp.refl H.size H
  have hx := PH.ext.refl (H := H) F
  refine Ct.enter (args := [a0]) Try.func26 rfl rfl rfl (fun w0 hw0 => ?_)
  refine CF.seq (CF.region (LF.step (OpOk.assign rfl) (LF.nil (PF.next (CF.seq (CF.region ?_))))))
  refine LF.chg OpCh.makeMapB ?_
  rintro _ H14 ⟨g14, rfl, eg14, sg14, kg14, hm14⟩
  have ng14 := hin.nope (Nat.le_of_eq eg14.symm)
  have lg14 := hkp.1
  have zkg14 := kg14.1
  replace hin := hin.kp kg14
  replace hkp := hkp.trans (kg14.mono hkp.1)
  clear kg14
  refine LF.step (OpOk.assign rfl) (LF.nil (PF.next (CF.seq (CF.seq (CF.region (LF.step (OpOk.move rfl) ?_))))))
  refine LF.step (OpOk.lenL Try.underlying22 p0 rfl) ?_
  refine LF.step (OpOk.move rfl) (LF.nil (PF.next (CF.block ?_)))
  refine CF.loop (ι := Nat) (fun k H1 => k ≤ l.length ∧ InH F H1 ∧ Kp H.size H H1 ∧ Im H1 g14 (encM (l.take k))) (fun k => [(2, .slice none 0 0), (3, .map (some g14)), (15, a0), (16, .int .i64 (↑(List.length l))), (17, .int .i64 (↑k))]) (fun k => l.length - k) 0 ⟨by omega, hin, hkp, hm14⟩ ⟨rfl, rfl, rfl, rfl, eqI (by omega), trivial⟩ ?_
  clear hin hkp hm14
  rintro k H1 ⟨hk, hin, hkp, hm14⟩
  refine CF.seq (CF.region ?_)
  refine LF.step (OpOk.lss rfl rfl) ?_
  refine LF.nil (PF.next (CF.seq ?_))
  refine CF.if rfl (fun hc1 => ?_) (fun hc1 => ?_)
  refine CF.skip (PF.next (CF.seq (CF.block (CF.seq (CF.region ?_)))))
  refine LF.step (OpOk.idxL (i := k) Try.underlying22 Try.sz31 p0 rfl rfl rfl (by omega)) ?_
  refine LF.stepE (OpOk.ldA hin (rL.ix p0 k (by omega)) Try.agg31 Try.sz31 rfl) ?_
  intro v20 h20
  have h20k := rMove.any h20
  obtain rfl := rMove.open h20
  refine LF.chg (OpCh.allocB Try.zero31 rfl) ?_
  rintro _ H5 ⟨g5, rfl, eg5, sg5, kg5, hb5⟩
  have ng5 := hin.nope (Nat.le_of_eq eg5.symm)
  have lg5 := hkp.1
  have zkg5 := kg5.1
  replace hin := hin.kp kg5
  replace hkp := hkp.trans (kg5.mono hkp.1)
  replace hm14 := hm14.kp kg5 hm14.lt
  clear kg5
  refine LF.chg0 (OpCh.storeBA hb5 Try.sz31 rfl rfl rfl (allOne.mem (l := [.int .i64 ((ix l k).To), .int .i64 ((ix l k).From)]) ⟨rfl, rfl, trivial⟩) (by decide)) ?_
  rintro _ Hw1 ⟨tw1, bw1⟩
  have ztw1 := tw1.1
  replace hin := hin.tw tw1 ng5
  replace hkp := Tw.kp' hkp tw1 (by omega)
  replace hm14 := hm14.of (tw1.2 _ (hm14.neBx hb5))
  replace hb5 : Bx _ _ _ [.int .i64 ((ix l k).To), .int .i64 ((ix l k).From)] := bw1
  clear bw1 tw1
  refine LF.nil (PF.next (CF.region (LF.step (OpOk.move rfl) ?_)))
  refine LF.step (OpOk.fieldAddr (Try.fld31_0) rfl) ?_
  refine LF.step (OpOk.ldBx hb5 Try.one3 rfl rfl) ?_
  refine LF.step (OpOk.fieldAddr (Try.fld31_1) rfl) ?_
  refine LF.step (OpOk.ldBx hb5 Try.one3 rfl rfl) ?_
  refine LF.chg0 (OpCh.mapUpdate Try.underlying63 Try.underlying3 hm14 rfl rfl rfl) ?_
  rintro _ Hw2 ⟨mw2, tw2⟩
  have ztw2 := tw2.1
  replace hin := hin.tw tw2 ng14
  replace hkp := Tw.kp' hkp tw2 (by omega)
  replace hb5 := hb5.tw tw2 (hm14.neBx hb5).symm
  replace hm14 := mw2
  clear mw2 tw2
  refine LF.nil (PF.blockNormal (PF.next (CF.region ?_)))
  refine LF.step (OpOk.add rfl rfl (by omega)) ?_
  refine LF.step (OpOk.move rfl) (LF.nil ?_)
  rw [enc_all (l := l) (k := k) (by omega) hnd] at hm14
  exact PF.again (k + 1) ⟨by omega, hin, hkp, hm14⟩ ⟨rfl, rfl, rfl, rfl, eqI (by omega), trivial⟩ (by omega)
  rw [List.take_of_length_le (show l.length ≤ k by omega)] at hm14
  refine CF.exit (PF.thenExit (PF.thenExit (PF.blockHere (PF.next (CF.seq (CF.region (LF.step (OpOk.assign rfl) (LF.nil (PF.next (CF.seq (CF.seq ?_)))))))))))
  refine CF.region (LF.step (OpOk.move rfl) ?_)
  refine LF.chg (OpCh.rangeB Try.underlying63 hm14 rfl) ?_
  rintro _ H28 ⟨g28, rfl, eg28, sg28, k28, hit⟩
  have ng28 := hin.nope (Nat.le_of_eq eg28.symm)
  have lg28 := hkp.1
  have nem14 : g14 ≠ g28 := by have := hm14.lt; omega
  have zk28 := k28.1
  replace hin := hin.kp k28
  replace hkp := hkp.trans (k28.mono hkp.1)
  replace hm14 := hm14.kp k28 hm14.lt
  have hir28 := hit.ir
  refine LF.nil (PF.next (CF.block ?_))
  have x9006 := (fun (H9 : Heap) (_ : InH F H9) => (Gl.nil F H9 H.size : Gl (rI .i64) 3 F H9 H.size (.slice none 0 0) [])) _ hin
  refine CF.loop (ι := List Int × Value) (fun z9 H1 => It H1 g28 g14 (encM l) z9.1 ∧ InH F H1 ∧ Kp H.size H H1 ∧ Gl (rI .i64) 3 F H1 H.size z9.2 z9.1 ∧ Im H1 g14 (encM l) ∧ Ir H1 g28) (fun z9 => [(2, .slice none 0 0), (3, .map (some g14)), (6, z9.2), (28, .pointer (some ⟨g28, 0, none⟩))]) (fun z9 => (encM l).length - z9.1.length) ([], .slice none 0 0) ⟨hit, hin, hkp, x9006, hm14, hir28⟩ ⟨rfl, rfl, rfl, rfl, trivial⟩ ?_
  clear hin hkp x9006 hm14 hir28
  rintro ⟨vis, vl⟩ H1 ⟨hit, hin, hkp, x9006, hm14, hir28⟩
  dsimp only at hit x9006 hm14 hir28 ⊢
  have hvl := hit.len
  have hel := encM_len l
  refine CF.seq (CF.region ?_)
  refine LF.chg (OpCh.next1 (Ne.symm nem14) hit rfl) ?_
  rintro _ H29 ⟨more, vs29, rfl, hvs0, hfin, hgo⟩
  refine LF.step (OpOk.extract rfl hvs0) ?_
  refine LF.nil (PF.next (CF.seq ?_))
  refine CF.if rfl (fun hc2 => ?_) (fun hc2 => ?_)
  obtain ⟨kk, vv, hkv, hnv, hit2, htw⟩ := hgo hc2
  have zhtw := htw.1
  replace hin := hin.tw htw ng28
  replace hkp := Tw.kp' hkp htw (by omega)
  replace x9006 := x9006.tw htw (hir28.neGl x9006)
  replace hm14 := hm14.of (htw.2 _ (nem14))
  have hir28 := hit2.ir
  have tk14 : H29[g14]? = H29[g14]? := rfl
  have tk28 : H29[g28]? = H29[g28]? := rfl
  have hkr := keyOk hok hkv
  refine CF.skip (PF.next (CF.block (CF.seq (CF.region ?_))))
  refine LF.step (OpOk.entry hit2 hkv rfl) ?_
  refine LF.step (OpOk.extract (v := .int .i64 kk) rfl rfl) ?_
  refine LF.step (OpOk.assign rfl) (LF.nil (PF.next (CF.region (LF.step (OpOk.move rfl) (LF.step (OpOk.move rfl) ?_)))))
  refine LF.appV (r := (rI .i64)) (a := kk) Try.underlying23 Try.info3 (by decide) rfl rfl rfl ⟨rfl, (IntWalk.i64_in kk (by omega))⟩ x9006 hin (by first | (simp only [List.length_append, List.length_take, List.length_drop, List.length_nil, List.length_cons, List.length_set, List.length_replicate]; omega) | (simp; done) | (simp; omega) | omega) rfl ?_ hkp.1
  intro v36 H36 x36 gb36 nn36 ob36
  replace hin := hin.grown gb36 x9006.no
  replace hkp := gb36.kp hkp (Nat.le_refl _) (fun k0 hk0 => (x9006.blk k0 hk0).1)
  replace tk14 := (gb36.2 _ hm14.lt (fun e9 => hm14.neGl x9006 e9.symm)).trans tk14
  replace hm14 := hm14.of (gb36.2 _ hm14.lt (fun e9 => hm14.neGl x9006 e9.symm))
  replace tk28 := (gb36.2 _ hir28.lt (fun e9 => hir28.neGl x9006 e9.symm)).trans tk28
  replace hir28 := hir28.of (gb36.2 _ hir28.lt (fun e9 => hir28.neGl x9006 e9.symm))
  refine LF.step (OpOk.assign rfl) (LF.nil (PF.blockNormal ?_))
  exact PF.again (vis ++ [kk], v36) ⟨hit2.of tk28 tk14, hin, hkp, x36, hm14, hir28⟩ ⟨rfl, rfl, rfl, rfl, trivial⟩ (by have := hit2.len; simp only [List.length_append, List.length_singleton] at this ⊢; omega)
  obtain ⟨hall, h9⟩ := hfin hc2
  rw [h9]
  rw [encM_keys] at hall
  have hvp := vis_perm hit.nodup hnd hall (fun k hk => by have := hit.sub k hk; rw [encM_keys] at this; exact this)
  refine CF.exit (PF.thenExit (PF.thenExit (PF.blockHere (PF.next (CF.seq (CF.region (LF.step (OpOk.move rfl) ?_)))))))
  refine LF.call (OpCall.fn Try.ent31 rfl rfl) (sort_ct hin x9006 (by first | omega | assumption | (simp only [encM_len] at *; omega))) ?_
  rintro _ H38 ⟨rfl, k38, x38_0⟩
  have zk38 := k38.1
  replace hin := hin.kw k38 (by intro k0 hk0; exact x9006.no k0 hk0)
  replace hm14 := hm14.of (k38.2 _ hm14.lt (hm14.neGl x9006))
  replace hir28 := hir28.of (k38.2 _ hir28.lt (hir28.neGl x9006))
  replace hkp := hkp.kw k38 (by intro k0 hk0; exact x9006.ge k0 hk0)
  replace x9006 := x38_0
  rw [show sortM vis = leftL l from sortM_congr hvp] at x9006
  have hll := leftL_len l
  refine LF.nil (PF.next (CF.seq (CF.region (LF.step (OpOk.assign rfl) (LF.nil (PF.next (CF.seq (CF.seq (CF.region (LF.step (OpOk.move rfl) ?_))))))))))
  refine LF.step (OpOk.lenG Try.underlying23 x9006 rfl) ?_
  refine LF.step (OpOk.move rfl) (LF.nil (PF.next (CF.block ?_)))
  have x9008 := (fun (H9 : Heap) (_ : InH F H9) => (Gl.nil F H9 H.size : Gl (rL (rI .i64)) 23 F H9 H.size (.slice none 0 0) [])) _ hin
  have ap9008_9006 : ∀ k9, (Value.slice none 0 0).ownBlock = some k9 → (vl : Value).ownBlock ≠ some k9 := fun _ h9 => by cases h9
  have ap9006_9008 := ap_sym ap9008_9006
  refine CF.loop (ι := Nat × Value × List (List Int) × PH) (fun z9 H1 => z9.1 ≤ (leftL l).length ∧ z9.2.2.1 = ((leftL l).take z9.1).filterMap (circF l) ∧ PH.ext H F z9.2.2.2 ∧ PH.le F z9.2.2.2 ∧ InH z9.2.2.2 H1 ∧ Kp H.size H H1 ∧ Gl (rI .i64) 3 z9.2.2.2 H1 H.size vl (leftL l) ∧ Gl (rL (rI .i64)) 23 z9.2.2.2 H1 H.size z9.2.1 z9.2.2.1 ∧ (∀ k9, (vl : Value).ownBlock = some k9 → (z9.2.1 : Value).ownBlock ≠ some k9) ∧ Im H1 g14 (encM l) ∧ z9.2.2.2 g14 = none) (fun z9 => [(2, .slice none 0 0), (3, .map (some g14)), (8, z9.2.1), (39, vl), (40, .int .i64 (↑(List.length (leftL l)))), (41, .int .i64 (↑z9.1))]) (fun z9 => (leftL l).length - z9.1) (0, .slice none 0 0, [], F) ⟨by dsimp only; omega, rfl, hx, PH.le.refl _, hin, hkp, x9006, x9008, ap9006_9008, hm14, ng14⟩ ⟨rfl, rfl, rfl, rfl, rfl, eqI (by omega), trivial⟩ ?_
  clear hx hin hkp x9006 x9008 ap9006_9008 hm14 ng14
  rintro ⟨k, vo, o, Fl⟩ H1 ⟨hk, hO, hx, le0, hin, hkp, x9006, x9008, ap9006_9008, hm14, ng14⟩
  dsimp only at hk hO hin hkp x9006 x9008 ap9006_9008 hm14 ng14 ⊢
  have ap9008_9006 := ap_sym ap9006_9008
  have hol : o.length ≤ k := by rw [hO]; exact Nat.le_trans (List.length_filterMap_le _ _) (by rw [List.length_take]; omega)
  refine CF.seq (CF.region ?_)
  refine LF.step (OpOk.lss rfl rfl) ?_
  refine LF.nil (PF.next (CF.seq ?_))
  refine CF.if rfl (fun hc3 => ?_) (fun hc3 => ?_)
  have hxr := key_rng hok (show k < (leftL l).length by omega)
  refine CF.skip (PF.next (CF.seq (CF.block (CF.seq (CF.region ?_)))))
  refine LF.step (OpOk.idxG (i := k) Try.underlying23 Try.sz3 x9006 rfl rfl rfl (by first | omega | (simp only [List.length_replicate, List.length_set, List.length_append, List.length_cons, List.length_nil]; omega) | (simp only [List.length_append, List.length_take, List.length_replicate]; omega))) ?_
  refine LF.step (OpOk.ldGI x9006 (by first | omega | (simp only [List.length_replicate, List.length_set, List.length_append, List.length_cons, List.length_nil]; omega) | (simp only [List.length_append, List.length_take, List.length_replicate]; omega)) Try.one3 rfl) ?_
  refine LF.step (OpOk.assign rfl) (LF.nil (PF.next (CF.seq (CF.region (LF.step (OpOk.move rfl) ?_)))))
  refine LF.chg (OpCh.litL (F := Fl) (r := (rI .i64)) (l := [ix (leftL l) k]) (us := [.int .i64 (ix (leftL l) k)]) (cs := [[.int .i64 (ix (leftL l) k)]]) Try.underlying23 Try.info3 (by decide) rfl rfl rfl ⟨rfl, rfl, ⟨rfl, (Gl.wr x9006 (by omega))⟩, trivial⟩) ?_
  rintro _ H46 ⟨g46, rfl, e46, s46, k46, x46⟩
  have l46 := hkp.1
  have ap9006_46 := ap_new x9006.lt (x46 hin).ge
  have ap9008_46 := ap_new x9008.lt (x46 hin).ge
  replace x46 := (x46 hin).base l46
  have zk46 := k46.1
  replace hin := hin.kp k46
  replace hkp := hkp.trans (k46.mono hkp.1)
  replace x9006 := x9006.kp k46
  replace x9008 := x9008.kp k46
  replace hm14 := hm14.kp k46 hm14.lt
  have ap46_9006 := ap_sym ap9006_46
  have ap46_9008 := ap_sym ap9008_46
  refine LF.step (OpOk.assign rfl) (LF.nil (PF.next (CF.seq (CF.region (LF.step (OpOk.move rfl) (LF.step (OpOk.move rfl) ?_))))))
  refine LF.step (look_src Try.underlying63 Try.underlying3 Try.zero3 hm14 hok hnd rfl rfl) ?_
  refine LF.step (OpOk.move rfl) ?_
  refine LF.step (OpOk.extract (v := .int .i64 ((vaT (srcM l (ix (leftL l) k))))) rfl rfl) ?_
  refine LF.step (OpOk.extract (v := .bool (isT (srcM l (ix (leftL l) k)))) rfl rfl) ?_
  refine LF.step (OpOk.assign rfl) (LF.step (OpOk.assign rfl) (LF.nil (PF.next (CF.seq (CF.block ?_)))))
  refine CF.loop (ι := Value × List Int × Int) (fun z9 H1 => (-1 ≤ z9.2.2 ∧ z9.2.2 < 16400) ∧ 1 ≤ z9.2.1.length ∧ z9.2.1.length ≤ l.length + 1 ∧ aroundM l (ix (leftL l) k) = arGo l (ix (leftL l) k) (l.length + 1 - z9.2.1.length) z9.2.1 z9.2.2 ∧ InH Fl H1 ∧ Kp H.size H H1 ∧ Gl (rI .i64) 3 Fl H1 H.size vl (leftL l) ∧ Gl (rL (rI .i64)) 23 Fl H1 H.size vo o ∧ Gl (rI .i64) 3 Fl H1 H.size z9.1 z9.2.1 ∧ (∀ k9, (vl : Value).ownBlock = some k9 → (z9.1 : Value).ownBlock ≠ some k9) ∧ (∀ k9, (vo : Value).ownBlock = some k9 → (z9.1 : Value).ownBlock ≠ some k9) ∧ Im H1 g14 (encM l)) (fun z9 => [(2, .slice none 0 0), (3, .map (some g14)), (8, vo), (10, .int .i64 (ix (leftL l) k)), (11, z9.1), (12, .int .i64 ((vaT z9.2.2))), (13, .bool (isT z9.2.2)), (39, vl), (40, .int .i64 (↑(List.length (leftL l)))), (41, .int .i64 (↑k))]) (fun z9 => l.length + 2 - z9.2.1.length) (.slice (some ⟨g46, 0, none⟩) 1 1, [(ix (leftL l) k)], srcM l (ix (leftL l) k)) ⟨srcM_rng hok _, by dsimp only; simp, by dsimp only; simp, rfl, hin, hkp, x9006, x9008, x46, ap9006_46, ap9008_46, hm14⟩ ⟨rfl, rfl, rfl, rfl, rfl, rfl, rfl, rfl, rfl, rfl, trivial⟩ ?_
  clear hin hkp x9006 x9008 x46 ap9006_46 ap9008_46 hm14
  rintro ⟨vc, c, q⟩ H1 ⟨hq, ho1, ho2, hR, hin, hkp, x9006, x9008, x46, ap9006_46, ap9008_46, hm14⟩
  dsimp only at hq ho1 ho2 hR x9006 x9008 x46 ap9006_46 ap9008_46 hm14 ⊢
  have ap46_9006 := ap_sym ap9006_46
  have ap46_9008 := ap_sym ap9008_46
  have hvq : 0 ≤ vaT q ∧ vaT q < 16400 := by unfold vaT; split <;> omega
  have hel2 := encM_len l
  refine CF.seq (CF.seq (CF.region (LF.step (OpOk.move rfl) (LF.step (OpOk.move rfl) ?_))))
  refine LF.gstep rfl rfl (.t _) (fun hg => OpOk.move rfl) ?_
  refine LF.gstep rfl rfl (.t _) (fun hg => OpOk.move rfl) ?_
  refine LF.gstep rfl rfl (.t _) (fun hg => OpOk.gtr (evg rfl hg) (evg rfl hg)) ?_
  refine LF.step (OpOk.pickAnd rfl rfl) ?_
  refine LF.step (OpOk.move rfl) ?_
  refine LF.gstep rfl rfl (.t _) (fun hg => OpOk.move rfl) ?_
  refine LF.gstep rfl rfl (.t _) (fun hg => OpOk.lenG Try.underlying23 x46 (evg rfl hg)) ?_
  refine LF.gstep rfl rfl (.t _) (fun hg => OpOk.move rfl) ?_
  refine LF.gstep rfl rfl (.t _) (fun hg => OpOk.len_map Try.underlying63 hm14 (evg rfl hg)) ?_
  refine LF.gstep rfl rfl (.t _) (fun hg => OpOk.leq (evg rfl hg) (evg rfl hg)) ?_
  refine LF.step (OpOk.pickAnd rfl rfl) ?_
  refine LF.nil (PF.next ?_)
  refine CF.if rfl (fun hc4 => ?_) (fun hc4 => ?_)
  refine CF.skip (PF.next (CF.block (CF.seq (CF.region (LF.step (OpOk.move rfl) (LF.step (OpOk.move rfl) ?_))))))
  refine LF.appV (r := (rI .i64)) (a := (vaT q)) Try.underlying23 Try.info3 (by decide) rfl rfl rfl ⟨rfl, (IntWalk.i64_in (vaT q) (by omega))⟩ x46 hin (by first | (simp only [List.length_append, List.length_take, List.length_drop, List.length_nil, List.length_cons, List.length_set, List.length_replicate]; omega) | (simp; done) | (simp; omega) | omega) rfl ?_ hkp.1
  intro v69 H69 x69 gb69 nn69 ob69
  replace hin := hin.grown gb69 x46.no
  replace hkp := gb69.kp hkp (Nat.le_refl _) (fun k0 hk0 => (x46.blk k0 hk0).1)
  replace hm14 := hm14.of (gb69.2 _ hm14.lt (fun e9 => hm14.neGl x46 e9.symm))
  have ap69_9006 := ap_grow ap46_9006 x9006.lt ob69
  have ap9006_69 := ap_sym ap69_9006
  replace x9006 := x9006.of (fun k0 hk0 => gb69.2 k0 (x9006.blk k0 hk0).2 (fun e9 => ap46_9006 _ e9.symm hk0))
  have ap69_9008 := ap_grow ap46_9008 x9008.lt ob69
  have ap9008_69 := ap_sym ap69_9008
  replace x9008 := x9008.of (fun k0 hk0 => gb69.2 k0 (x9008.blk k0 hk0).2 (fun e9 => ap46_9008 _ e9.symm hk0))
  refine LF.step (OpOk.assign rfl) (LF.nil (PF.next (CF.region (LF.step (OpOk.move rfl) (LF.step (OpOk.move rfl) ?_)))))
  refine LF.step (look_src Try.underlying63 Try.underlying3 Try.zero3 hm14 hok hnd rfl rfl) ?_
  refine LF.step (OpOk.move rfl) ?_
  refine LF.step (OpOk.extract (v := .int .i64 ((vaT (srcM l (vaT q))))) rfl rfl) ?_
  refine LF.step (OpOk.extract (v := .bool (isT (srcM l (vaT q)))) rfl rfl) ?_
  refine LF.step (OpOk.assign rfl) (LF.step (OpOk.assign rfl) (LF.nil (PF.blockNormal ?_)))
  have e1 := va_id2 hc4.1.1
  rw [e1] at x69
  exact PF.again (v69, c ++ [q], srcM l q) ⟨srcM_rng hok _, by dsimp only; rw [List.length_append, List.length_singleton]; omega, by dsimp only; rw [List.length_append, List.length_singleton]; omega, by dsimp only; rw [hR, arGo_step2 (by omega) hc4.1], hin, hkp, x9006, x9008, x69, ap9006_69, ap9008_69, hm14⟩ ⟨rfl, rfl, rfl, rfl, rfl, (by show some (Value.int IntKind.i64 (vaT (srcM l (vaT q)))) = _; rw [e1]), (by show some (Value.bool (isT (srcM l (vaT q)))) = _; rw [e1]), rfl, rfl, rfl, trivial⟩ (by dsimp only; rw [List.length_append, List.length_singleton]; omega)
  rw [arGo_end2 hxr.1 hc4] at hR
  refine CF.exit (PF.thenExit (PF.thenExit (PF.blockHere (PF.next (CF.seq (CF.region (LF.step (OpOk.move rfl) (LF.step (OpOk.move rfl) ?_))))))))
  refine LF.gstep rfl rfl (.t _) (fun hg => OpOk.move rfl) ?_
  refine LF.gstep rfl rfl (.t _) (fun hg => OpOk.move rfl) ?_
  refine LF.gstep rfl rfl (.t _) (fun hg => OpOk.eql (evg rfl hg) (evg rfl hg)) ?_
  refine LF.step (OpOk.pickAnd rfl rfl) ?_
  refine LF.step (OpOk.move rfl) ?_
  refine LF.gstep rfl rfl (.t _) (fun hg => OpOk.move rfl) ?_
  refine LF.gstep rfl rfl (.t _) (fun hg => OpOk.lenG Try.underlying23 x46 (evg rfl hg)) ?_
  refine LF.gstep rfl rfl (.t _) (fun hg => OpOk.gtr (evg rfl hg) rfl) ?_
  refine LF.step (OpOk.pickAnd rfl rfl) ?_
  refine LF.nil (PF.next ?_)
  refine CF.if rfl (fun hc5 => ?_) (fun hc5 => ?_)
  have hcy := circ_yes hR hc5
  refine CF.region (LF.step (OpOk.move rfl) (LF.step (OpOk.move rfl) ?_))
  obtain ⟨Fz3, hxz3, lez3, hinz3, noz3, hrz3⟩ := x46.freezeX hin hx (Nat.le_refl _) (by first | (simp only [List.length_append, List.length_take, List.length_drop, List.length_nil, List.length_cons, List.length_set, List.length_replicate]; omega) | (simp; done) | (simp; omega) | omega)
  replace hin := hinz3
  replace hx := hxz3
  replace le0 := le0.trans lez3
  have le1 := lez3
  replace ng14 := (noz3 _ (hm14.neGl x46)).trans ng14
  replace x9006 := x9006.frozen lez3 noz3 ap9006_46
  replace x9008 := x9008.frozen lez3 noz3 ap9008_46
  refine LF.appV (r := (rL (rI .i64))) (a := c) Try.underlying32 Try.info23 (by decide) rfl rfl rfl hrz3 x9008 hin (by first | (simp only [List.length_append, List.length_take, List.length_drop, List.length_nil, List.length_cons, List.length_set, List.length_replicate]; omega) | (simp; done) | (simp; omega) | omega) rfl ?_ hkp.1
  intro v90 H90 x90 gb90 nn90 ob90
  replace hin := hin.grown gb90 x9008.no
  replace hkp := gb90.kp hkp (Nat.le_refl _) (fun k0 hk0 => (x9008.blk k0 hk0).1)
  replace hm14 := hm14.of (gb90.2 _ hm14.lt (fun e9 => hm14.neGl x9008 e9.symm))
  have ap90_9006 := ap_grow ap9008_9006 x9006.lt ob90
  have ap9006_90 := ap_sym ap90_9006
  replace x9006 := x9006.of (fun k0 hk0 => gb90.2 k0 (x9006.blk k0 hk0).2 (fun e9 => ap9008_9006 _ e9.symm hk0))
  refine LF.step (OpOk.assign rfl) (LF.nil (PF.blockNormal (PF.next (CF.region ?_))))
  refine LF.step (OpOk.add rfl rfl (by omega)) ?_
  refine LF.step (OpOk.move rfl) (LF.nil ?_)
  exact PF.again (k + 1, v90, o ++ [c], Fz3) ⟨by dsimp only; omega, by dsimp only; rw [circ_snoc (by omega), ← hO]; first | (rw [if_pos hcy.2, hcy.1]; done) | (rw [if_neg hcn, List.append_nil]; done), hx, le0, hin, hkp, x9006, x90, ap9006_90, hm14, ng14⟩ ⟨rfl, rfl, rfl, rfl, rfl, eqI (by omega), trivial⟩ (by omega)
  have hcn := circ_not hxr.1 hR hc5
  refine CF.skip (PF.blockNormal (PF.next (CF.region ?_)))
  refine LF.step (OpOk.add rfl rfl (by omega)) ?_
  refine LF.step (OpOk.move rfl) (LF.nil ?_)
  exact PF.again (k + 1, vo, o, Fl) ⟨by dsimp only; omega, by dsimp only; rw [circ_snoc (by omega), ← hO]; first | (rw [if_pos hcy.2, hcy.1]; done) | (rw [if_neg hcn, List.append_nil]; done), hx, le0, hin, hkp, x9006, x9008, ap9006_9008, hm14, ng14⟩ ⟨rfl, rfl, rfl, rfl, rfl, eqI (by omega), trivial⟩ (by omega)
  refine CF.exit (PF.thenExit (PF.thenExit (PF.blockHere (PF.next (CF.seq (CF.region (LF.step (OpOk.move rfl) (LF.step (OpOk.assign rfl) (LF.nil (PF.next (CF.ret ?_)))))))))))
  obtain ⟨Fz4, hxz4, lez4, hinz4, _, hrz4⟩ := x9008.freezeX hin hx (Nat.le_refl _) (by first | (simp only [List.length_append, List.length_take, List.length_drop, List.length_nil, List.length_cons, List.length_set, List.length_replicate]; omega) | (simp; done) | (simp; omega) | omega)
  replace hin := hinz4
  replace hx := hxz4
  replace le0 := le0.trans lez4
  have le1 := lez4
  have hm : circlesM l = o := by
    rw [hO, List.take_of_length_le (by omega)]; rfl
  exact PF.ret1 rfl rfl ⟨_, hx, hin, hkp, by rw [hm]; exact hrz4⟩

end Go.Proofs.Ytcceglmmpbdhiaa
