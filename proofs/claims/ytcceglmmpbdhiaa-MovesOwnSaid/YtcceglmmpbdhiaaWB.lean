/- Walks. Conditions: each contract names its own. -/
import Derived.Test.YtcceglmmpbdhiaaWA
import Derived.Test.YtcceglmmpbdhiaaJz
namespace Go.Proofs.Ytcceglmmpbdhiaa
set_option linter.unusedVariables false
set_option linter.unusedSimpArgs false
set_option linter.unusedSectionVars false
set_option maxRecDepth 8000
open Go.JE

theorem Try.ent57 : Ent Try.prog 57 := ⟨_, Try.func57, by kernel_rfl, by kernel_rfl⟩
theorem Try.zero4 : (Try.prog.info? 4).bind (·.zero) = some (.bool false) := by kernel_rfl
theorem namedM_snoc {l : List D.Move} {k : Nat} (hk : k < l.length) (p : Int) : namedM (l.take (k + 1)) p = (namedM (l.take k) p || decide ((ix l k).To = p ∨ (ix l k).From = p)) := any_snoc hk
theorem toM_snoc {l : List D.Move} {k : Nat} (hk : k < l.length) (p : Int) : (l.take (k + 1)).any (fun m => decide (m.To = p)) = ((l.take k).any (fun m => decide (m.To = p)) || decide ((ix l k).To = p)) := any_snoc hk
def twiceM (l : List D.Move) : Bool := !(decide (l.map (·.To)).Nodup)
theorem twice_snoc {l : List D.Move} {k : Nat} (hk : k < l.length) : twiceM (l.take (k + 1)) = (twiceM (l.take k) || (l.take k).any (fun m => decide (m.To = (ix l k).To))) := by
  unfold twiceM
  rw [take_ix hk, List.map_append, List.map_singleton]
  by_cases h : ((l.take k).map (·.To)).Nodup
  · by_cases h2 : (l.take k).any (fun m => decide (m.To = (ix l k).To)) = true
    · have : ¬ ((l.take k).map (·.To) ++ [(ix l k).To]).Nodup := by
        rw [List.nodup_append]
        rintro ⟨_, _, h3⟩
        obtain ⟨m, hm, he⟩ := List.any_eq_true.1 h2
        exact h3 m.To (List.mem_map_of_mem hm) (ix l k).To (by simp) (by simpa using he)
      simp [-List.map_take, this, h, h2]
    · have : ((l.take k).map (·.To) ++ [(ix l k).To]).Nodup := by
        rw [List.nodup_append]
        refine ⟨h, by simp, fun a ha b hb he => h2 ?_⟩
        simp only [List.mem_singleton] at hb
        subst hb
        obtain ⟨m, hm, rfl⟩ := List.mem_map.1 ha
        exact List.any_eq_true.2 ⟨m, hm, by simpa using he⟩
      simp only [Bool.not_eq_true] at h2
      simp [-List.map_take, this, h, h2]
  · have : ¬ ((l.take k).map (·.To) ++ [(ix l k).To]).Nodup := fun h9 => h (List.nodup_append.1 h9).1
    simp [-List.map_take, this, h]
theorem nodupM_not (l : List D.Move) : nodupM l = !twiceM l := by unfold nodupM twiceM; simp
theorem up_to (q : Int → Bool) (a p : Int) : upF q a true p = (q p || decide (a = p)) := by
  unfold upF; by_cases h : p = a
  · subst h; simp
  · rw [if_neg h, decide_eq_false (fun h9 => h h9.symm), Bool.or_false]
theorem up_named (q : Int → Bool) (a b p : Int) : upF (upF q a true) b true p = (q p || decide (a = p ∨ b = p)) := by
  rw [up_to, up_to, Bool.or_assoc, ← Bool.decide_or]
theorem pWrong_e1 {l : List D.Move} {scr sp : Int} {k : Nat} (h1 : k < l.length) (h : placeM (ix l k).To = false ∨ placeM (ix l k).From = false) : wrongM l scr sp = 41 := by
  unfold wrongM; rw [if_pos (show okM l = false from all_no h1 (by simp only [Bool.and_eq_false_iff]; exact h))]
theorem pWrong_e2 {l : List D.Move} {scr sp : Int} (hO : okM l = true) (h : twiceM l = true) : wrongM l scr sp = 12 := by
  unfold wrongM; rw [if_neg (by rw [hO]; decide), if_pos (by rw [nodupM_not, h]; rfl)]
theorem pWrong_e3 {l : List D.Move} {scr sp : Int} (hO : okM l = true) (h : twiceM l = false) (h2 : 16 ≤ scr ∨ 0 ≤ scr ∧ namedM l scr = true) : wrongM l scr sp = 31 := by
  unfold wrongM; rw [if_neg (by rw [hO]; decide), if_neg (by rw [nodupM_not, h]; decide)]
  by_cases h3 : 15 < scr
  · rw [if_pos h3]
  · rw [if_neg h3, if_pos (h2.resolve_left (by omega))]
theorem pWrong_e4 {l : List D.Move} {scr sp : Int} (hO : okM l = true) (h : twiceM l = false) (h2 : ¬ (16 ≤ scr ∨ 0 ≤ scr ∧ namedM l scr = true)) (h3 : 16383 ≤ sp ∨ 0 ≤ sp ∧ (namedM l (16 + sp) = true ∨ namedM l (16 + sp + 1) = true)) : wrongM l scr sp = 43 := by
  rw [show 16 + sp + 1 = 17 + sp by omega] at h3
  unfold wrongM; rw [if_neg (by rw [hO]; decide), if_neg (by rw [nodupM_not, h]; decide), if_neg (by omega), if_neg (fun h9 => h2 (.inr h9))]
  by_cases h4 : 16382 < sp
  · rw [if_pos h4]
  · rw [if_neg h4, if_pos (h3.resolve_left (by omega))]
theorem pWrong_e5 {l : List D.Move} {scr sp : Int} (hO : okM l = true) (h : twiceM l = false) (h2 : ¬ (16 ≤ scr ∨ 0 ≤ scr ∧ namedM l scr = true)) (h3 : ¬ (16383 ≤ sp ∨ 0 ≤ sp ∧ (namedM l (16 + sp) = true ∨ namedM l (16 + sp + 1) = true))) : wrongM l scr sp = 0 := by
  rw [show 16 + sp + 1 = 17 + sp by omega] at h3
  unfold wrongM; rw [if_neg (by rw [hO]; decide), if_neg (by rw [nodupM_not, h]; decide), if_neg (by omega), if_neg (fun h9 => h2 (.inr h9)), if_neg (by omega), if_neg (fun h9 => h3 (.inr h9))]
theorem no4 {a b : Prop} {c : Bool} (h : ¬ a ∧ (¬ b ∨ c = false)) : ¬ (a ∨ b ∧ c = true) := by
  rintro (h1 | ⟨h1, h2⟩)
  · exact h.1 h1
  · rcases h.2 with h3 | h3
    · exact h3 h1
    · rw [h2] at h3; cases h3
theorem no5 {a b : Prop} {c d : Bool} (h : ¬ a ∧ (¬ b ∨ c = false ∧ d = false)) : ¬ (a ∨ b ∧ (c = true ∨ d = true)) := by
  rintro (h1 | ⟨h1, h2⟩)
  · exact h.1 h1
  · rcases h.2 with h3 | ⟨h3, h4⟩
    · exact h3 h1
    · rw [h3, h4] at h2; simp at h2

-- jacquard/moves.wrong: function 30
set_option maxHeartbeats 1000000 in
theorem pWrong_ct {F : PH} {H : Heap} (hin : InH F H) {a0 : Value} {l : List D.Move} (p0 : (rL rMove).rv F a0 l) (scr : Int) (sp : Int) (ww2 : IntKind.i64.wrap sp = sp) :
    Ct Try.prog 30 #[a0, .int .i64 scr, .int .i64 sp] H (fun v H' => v = .int .i64 (wrongM l scr sp) ∧ Kp H.size H H') := by
  have q0 := rL.len2 p0
  have hkp := Kp.refl H.size H
  have hx := PH.ext.refl (H := H) F
  have b2 := i64_rng ww2
  refine Ct.enter (args := [a0, .int .i64 scr, .int .i64 sp]) Try.func30 rfl rfl rfl (fun w0 hw0 => ?_)
  refine CF.seq (CF.region (LF.step (OpOk.assign rfl) (LF.nil (PF.next (CF.seq (CF.region ?_))))))
  refine LF.chg OpCh.makeMapB ?_
  rintro _ H12 ⟨g12, rfl, eg12, sg12, kg12, hm12⟩
  have ng12 := hin.nope (Nat.le_of_eq eg12.symm)
  have lg12 := hkp.1
  have zkg12 := kg12.1
  replace hin := hin.kp kg12
  replace hkp := hkp.trans (kg12.mono hkp.1)
  clear kg12
  replace hm12 := Mf.new (z := .bool false) hm12
  refine LF.step (OpOk.assign rfl) (LF.nil (PF.next (CF.seq (CF.region ?_))))
  refine LF.chg OpCh.makeMapB ?_
  rintro _ H13 ⟨g13, rfl, eg13, sg13, kg13, hm13⟩
  have ng13 := hin.nope (Nat.le_of_eq eg13.symm)
  have lg13 := hkp.1
  have zkg13 := kg13.1
  replace hin := hin.kp kg13
  replace hkp := hkp.trans (kg13.mono hkp.1)
  replace hm12 := hm12.kp kg13 hm12.lt
  clear kg13
  replace hm13 := Mf.new (z := .bool false) hm13
  refine LF.step (OpOk.assign rfl) (LF.nil (PF.next (CF.seq (CF.region (LF.step (OpOk.assign rfl) (LF.nil (PF.next (CF.seq (CF.seq (CF.region (LF.step (OpOk.move rfl) ?_)))))))))))
  refine LF.step (OpOk.lenL Try.underlying22 p0 rfl) ?_
  refine LF.step (OpOk.move rfl) (LF.nil (PF.next (CF.block ?_)))
  refine CF.loop (ι := Nat × Bool × (Int → Bool) × (Int → Bool)) (fun z9 H1 => z9.1 ≤ l.length ∧ okM (l.take z9.1) = true ∧ z9.2.1 = twiceM (l.take z9.1) ∧ (∀ p, z9.2.2.1 p = namedM (l.take z9.1) p) ∧ (∀ p, z9.2.2.2 p = (l.take z9.1).any (fun m => decide (m.To = p))) ∧ InH F H1 ∧ Kp H.size H H1 ∧ Mf H1 g12 (.bool false) (fun j9 => .bool (z9.2.2.1 j9)) ∧ Mf H1 g13 (.bool false) (fun j9 => .bool (z9.2.2.2 j9))) (fun z9 => [(1, .int .i64 scr), (2, .int .i64 sp), (7, .map (some g12)), (8, .map (some g13)), (9, .bool z9.2.1), (14, a0), (15, .int .i64 (↑(List.length l))), (16, .int .i64 (↑z9.1))]) (fun z9 => l.length - z9.1) (0, false, (fun _ => false : Int → Bool), (fun _ => false : Int → Bool)) ⟨by dsimp only; omega, rfl, rfl, fun _ => rfl, fun _ => rfl, hin, hkp, hm12, hm13⟩ ⟨rfl, rfl, rfl, rfl, rfl, rfl, rfl, eqI (by omega), trivial⟩ ?_
  clear hin hkp hm12 hm13
  rintro ⟨k, tw, nm, tt⟩ H1 ⟨hk, hR, hT, hN, hTo, hin, hkp, hm12, hm13⟩
  dsimp only at hk hR hT hN hTo hm12 hm13 ⊢
  refine CF.seq (CF.region ?_)
  refine LF.step (OpOk.lss rfl rfl) ?_
  refine LF.nil (PF.next (CF.seq ?_))
  refine CF.if rfl (fun hc1 => ?_) (fun hc1 => ?_)
  refine CF.skip (PF.next (CF.seq (CF.block (CF.seq (CF.region ?_)))))
  refine LF.step (OpOk.idxL (i := k) Try.underlying22 Try.sz31 p0 rfl rfl rfl (by omega)) ?_
  refine LF.stepE (OpOk.ldA hin (rL.ix p0 k (by omega)) Try.agg31 Try.sz31 rfl) ?_
  intro v19 h19
  have h19k := rMove.any h19
  obtain rfl := rMove.open h19
  refine LF.chg (OpCh.allocB Try.zero31 rfl) ?_
  rintro _ H11 ⟨g11, rfl, eg11, sg11, kg11, hb11⟩
  have ng11 := hin.nope (Nat.le_of_eq eg11.symm)
  have lg11 := hkp.1
  have zkg11 := kg11.1
  replace hin := hin.kp kg11
  replace hkp := hkp.trans (kg11.mono hkp.1)
  replace hm12 := hm12.kp kg11 hm12.lt
  replace hm13 := hm13.kp kg11 hm13.lt
  clear kg11
  refine LF.chg0 (OpCh.storeBA hb11 Try.sz31 rfl rfl rfl (allOne.mem (l := [.int .i64 ((ix l k).To), .int .i64 ((ix l k).From)]) ⟨rfl, rfl, trivial⟩) (by decide)) ?_
  rintro _ Hw1 ⟨tw1, bw1⟩
  have ztw1 := tw1.1
  replace hin := hin.tw tw1 ng11
  replace hkp := Tw.kp' hkp tw1 (by omega)
  replace hm12 := hm12.of (tw1.2 _ (hm12.neBx hb11))
  replace hm13 := hm13.of (tw1.2 _ (hm13.neBx hb11))
  replace hb11 : Bx _ _ _ [.int .i64 ((ix l k).To), .int .i64 ((ix l k).From)] := bw1
  clear bw1 tw1
  refine LF.nil (PF.next (CF.seq (CF.seq (CF.region ?_))))
  refine LF.step (OpOk.fieldAddr (Try.fld31_0) rfl) ?_
  refine LF.step (OpOk.ldBx hb11 Try.one3 rfl rfl) ?_
  refine LF.call (OpCall.fn Try.ent57 rfl rfl) (placeM_ct hin ((ix l k).To)) ?_
  rintro _ _ ⟨rfl, rfl⟩
  refine LF.step (OpOk.not rfl) ?_
  refine LF.step (OpOk.move rfl) ?_
  refine LF.gstep rfl rfl (.f _) (fun hg => OpOk.fieldAddr (Try.fld31_1) rfl) ?_
  refine LF.gstep rfl rfl (.f _) (fun hg => OpOk.ldBx hb11 Try.one3 (evg rfl hg) rfl) ?_
  refine LF.gcall rfl rfl (.f _) (fun hg => OpCall.fn Try.ent57 rfl (evl1 (evg rfl hg))) (fun hg => placeM_ct hin ((ix l k).From)) (fun _ _ h => h) ?_
  refine LF.gstep rfl rfl (.f _) (fun hg => OpOk.not (evg rfl hg)) ?_
  refine LF.step (OpOk.pickOr rfl rfl) ?_
  refine LF.nil (PF.next ?_)
  refine CF.if rfl (fun hc2 => ?_) (fun hc2 => ?_)
  refine CF.seq (CF.region (LF.step (OpOk.assign rfl) (LF.nil (PF.next (CF.ret (PF.thenRet (PF.blockRet (PF.thenRet (PF.thenRet (PF.blockRet (PF.thenRet ?_)))))))))))
  have hm : wrongM l scr sp = 41 := by
    exact pWrong_e1 (by omega) hc2
  exact PF.ret1 rfl rfl ⟨by rw [hm] <;> rfl, hkp⟩
  refine CF.skip (PF.next (CF.seq (CF.region (LF.step (OpOk.move rfl) (LF.step (OpOk.move rfl) ?_)))))
  refine LF.gstep rfl rfl (.f _) (fun hg => OpOk.move rfl) ?_
  refine LF.gstep rfl rfl (.f _) (fun hg => OpOk.fieldAddr (Try.fld31_0) rfl) ?_
  refine LF.gstep rfl rfl (.f _) (fun hg => OpOk.ldBx hb11 Try.one3 (evg rfl hg) rfl) ?_
  refine LF.gstep rfl rfl (.f _) (fun hg => OpOk.lookupF Try.underlying47 Try.underlying3 Try.zero4 hm13 (evg rfl hg) (evg rfl hg)) ?_
  refine LF.step (OpOk.pickOr rfl rfl) ?_
  refine LF.step (OpOk.assign rfl) (LF.nil (PF.next ?_))
  refine CF.any (z := false) (fun H' => InH F H' ∧ Bx H' g11 31 [.int .i64 ((ix l k).To), .int .i64 ((ix l k).From)] ∧ True) Try.mixed ?_
  refine AF.take 0 rfl (by kernel_rfl) (by kernel_rfl) (by kernel_rfl) ⟨hin, hb11, trivial⟩ (fun _ ⟨hin, hb11, _⟩ => OpOk.move rfl) ?_
  refine AF.take 1 rfl (by kernel_rfl) (by kernel_rfl) (by kernel_rfl) ⟨hin, hb11, trivial⟩ (fun _ ⟨hin, hb11, _⟩ => OpOk.fieldAddr (Try.fld31_0) rfl) ?_
  refine AF.take 2 rfl (by kernel_rfl) (by kernel_rfl) (by kernel_rfl) ⟨hin, hb11, trivial⟩ (fun _ ⟨hin, hb11, _⟩ => OpOk.ldBx hb11 Try.one3 rfl rfl) ?_
  refine AF.take 3 rfl (by kernel_rfl) (by kernel_rfl) (by kernel_rfl) ⟨hin, hb11, trivial⟩ (fun _ ⟨hin, hb11, _⟩ => OpOk.move rfl) ?_
  refine AF.take 4 rfl (by kernel_rfl) (by kernel_rfl) (by kernel_rfl) ⟨hin, hb11, trivial⟩ (fun _ ⟨hin, hb11, _⟩ => OpOk.fieldAddr (Try.fld31_0) rfl) ?_
  refine AF.take 5 rfl (by kernel_rfl) (by kernel_rfl) (by kernel_rfl) ⟨hin, hb11, trivial⟩ (fun _ ⟨hin, hb11, _⟩ => OpOk.ldBx hb11 Try.one3 rfl rfl) ?_
  refine AF.take 6 rfl (by kernel_rfl) (by kernel_rfl) (by kernel_rfl) ⟨hin, hb11, trivial⟩ (fun _ ⟨hin, hb11, _⟩ => OpOk.move rfl) ?_
  refine AF.take 7 rfl (by kernel_rfl) (by kernel_rfl) (by kernel_rfl) ⟨hin, hb11, trivial⟩ (fun _ ⟨hin, hb11, _⟩ => OpOk.fieldAddr (Try.fld31_1) rfl) ?_
  refine AF.take 8 rfl (by kernel_rfl) (by kernel_rfl) (by kernel_rfl) ⟨hin, hb11, trivial⟩ (fun _ ⟨hin, hb11, _⟩ => OpOk.ldBx hb11 Try.one3 rfl rfl) ?_
  refine AF.one 9 (by kernel_rfl) ?_
  refine AFN.chg0 rfl (OpCh.mapUpdateB Try.underlying47 Try.underlying3 hm13 rfl rfl rfl) ?_
  rintro _ Hw2 ⟨mw2, tw2⟩
  have ztw2 := tw2.1
  replace hin := hin.tw tw2 ng13
  replace hkp := Tw.kp' hkp tw2 (by omega)
  replace hb11 := hb11.tw tw2 (hm13.neBx hb11).symm
  replace hm12 := hm12.of (tw2.2 _ (by omega))
  replace hm13 := mw2
  clear mw2 tw2
  refine ⟨⟨hin, hb11, trivial⟩, ?_⟩
  refine AF.one 10 (by kernel_rfl) ?_
  refine AFN.chg0 rfl (OpCh.mapUpdateB Try.underlying47 Try.underlying3 hm12 rfl rfl rfl) ?_
  rintro _ Hw3 ⟨mw3, tw3⟩
  have ztw3 := tw3.1
  replace hin := hin.tw tw3 ng12
  replace hkp := Tw.kp' hkp tw3 (by omega)
  replace hb11 := hb11.tw tw3 (hm12.neBx hb11).symm
  replace hm13 := hm13.of (tw3.2 _ (by omega))
  replace hm12 := mw3
  clear mw3 tw3
  refine ⟨⟨hin, hb11, trivial⟩, ?_⟩
  refine AF.one 11 (by kernel_rfl) ?_
  refine AFN.chg0 rfl (OpCh.mapUpdateB Try.underlying47 Try.underlying3 hm12 rfl rfl rfl) ?_
  rintro _ Hw4 ⟨mw4, tw4⟩
  have ztw4 := tw4.1
  replace hin := hin.tw tw4 ng12
  replace hkp := Tw.kp' hkp tw4 (by omega)
  replace hb11 := hb11.tw tw4 (hm12.neBx hb11).symm
  replace hm13 := hm13.of (tw4.2 _ (by omega))
  replace hm12 := mw4
  clear mw4 tw4
  refine ⟨⟨hin, hb11, trivial⟩, ?_⟩
  refine AF.done (by kernel_rfl) ?_
  refine PF.blockNormal (PF.next (CF.region ?_))
  refine LF.step (OpOk.add rfl rfl (by omega)) ?_
  refine LF.step (OpOk.move rfl) (LF.nil ?_)
  exact PF.again (k + 1, tw || (tt ((ix l k).To)), upF (upF nm ((ix l k).To) true) ((ix l k).From) true, upF tt ((ix l k).To) true) ⟨by dsimp only; omega, by dsimp only; unfold okM at hR ⊢; rw [all_snoc (by omega), hR, hc2.1, hc2.2]; rfl, by dsimp only; rw [twice_snoc (by omega), hT, hTo], fun p => by dsimp only; rw [namedM_snoc (by omega), ← hN, up_named], fun p => by dsimp only; rw [toM_snoc (by omega), ← hTo, up_to], hin, hkp, hm12, hm13⟩ ⟨rfl, rfl, rfl, rfl, rfl, rfl, rfl, eqI (by omega), trivial⟩ (by omega)
  rw [List.take_of_length_le (show l.length ≤ k by omega)] at hR hT hN
  refine CF.exit (PF.thenExit (PF.thenExit (PF.blockHere (PF.next (CF.seq (CF.block (CF.seq (CF.region (LF.step (OpOk.move rfl) (LF.step (OpOk.assign rfl) (LF.nil ?_)))))))))))
  refine PF.next ?_
  refine CF.if rfl (fun hc3 => ?_) (fun hc3 => ?_)
  refine CF.seq (CF.region (LF.step (OpOk.assign rfl) (LF.nil (PF.next (CF.ret (PF.blockRet (PF.thenRet ?_)))))))
  have hm : wrongM l scr sp = 12 := by
    exact pWrong_e2 hR (hT.symm.trans hc3)
  exact PF.ret1 rfl rfl ⟨by rw [hm] <;> rfl, hkp⟩
  refine CF.seq (CF.region (LF.step (OpOk.move rfl) ?_))
  refine LF.step (OpOk.geq rfl rfl) ?_
  refine LF.step (OpOk.move rfl) ?_
  refine LF.gstep rfl rfl (.f _) (fun hg => OpOk.move rfl) ?_
  refine LF.gstep rfl rfl (.f _) (fun hg => OpOk.geq (evg rfl hg) rfl) ?_
  refine LF.gstep rfl rfl (.f _) (fun hg => OpOk.move (evg rfl hg)) ?_
  refine LF.gstep rfl rfl (.gt _ _) (fun hg => OpOk.move rfl) ?_
  refine LF.gstep rfl rfl (.gt _ _) (fun hg => OpOk.move rfl) ?_
  refine LF.gstep rfl rfl (.gt _ _) (fun hg => OpOk.lookupF Try.underlying47 Try.underlying3 Try.zero4 hm12 (evg rfl hg) (evg rfl hg)) ?_
  refine LF.gstep rfl rfl (.f _) (fun hg => OpOk.pickAnd2 hg rfl rfl) ?_
  refine LF.step (OpOk.pickOr rfl rfl) ?_
  refine LF.step (OpOk.assign rfl) (LF.nil (PF.next ?_))
  refine CF.if rfl (fun hc4 => ?_) (fun hc4 => ?_)
  refine CF.seq (CF.region (LF.step (OpOk.assign rfl) (LF.nil (PF.next (CF.ret (PF.blockRet (PF.thenRet ?_)))))))
  have hm : wrongM l scr sp = 31 := by
    exact pWrong_e3 hR (hT.symm.trans hc3) (by rw [hN] at hc4; exact hc4)
  exact PF.ret1 rfl rfl ⟨by rw [hm] <;> rfl, hkp⟩
  refine CF.seq (CF.region (LF.step (OpOk.move rfl) ?_))
  refine LF.step (OpOk.geq rfl rfl) ?_
  refine LF.step (OpOk.move rfl) ?_
  refine LF.gstep rfl rfl (.f _) (fun hg => OpOk.move rfl) ?_
  refine LF.gstep rfl rfl (.f _) (fun hg => OpOk.geq (evg rfl hg) rfl) ?_
  refine LF.gstep rfl rfl (.f _) (fun hg => OpOk.move (evg rfl hg)) ?_
  refine LF.gstep rfl rfl (.gt _ _) (fun hg => OpOk.move rfl) ?_
  refine LF.gstep rfl rfl (.gt _ _) (fun hg => OpOk.move rfl) ?_
  refine LF.gstep rfl rfl (.gt _ _) (fun hg => OpOk.add rfl (evg rfl hg) (by first | omega | (simp at hg; omega))) ?_
  refine LF.gstep rfl rfl (.gt _ _) (fun hg => OpOk.lookupF Try.underlying47 Try.underlying3 Try.zero4 hm12 (evg rfl hg) (evg rfl hg)) ?_
  refine LF.gstep rfl rfl (.gt _ _) (fun hg => OpOk.move (evg rfl hg)) ?_
  refine LF.gstep rfl rfl (.gf _ _) (fun hg => OpOk.move rfl) ?_
  refine LF.gstep rfl rfl (.gf _ _) (fun hg => OpOk.move rfl) ?_
  refine LF.gstep rfl rfl (.gf _ _) (fun hg => OpOk.add rfl (evg rfl hg) (by first | omega | (simp at hg; omega))) ?_
  refine LF.gstep rfl rfl (.gf _ _) (fun hg => OpOk.add (evg rfl hg) rfl (by first | omega | (simp at hg; omega))) ?_
  refine LF.gstep rfl rfl (.gf _ _) (fun hg => OpOk.lookupF Try.underlying47 Try.underlying3 Try.zero4 hm12 (evg rfl hg) (evg rfl hg)) ?_
  refine LF.gstep rfl rfl (.gt _ _) (fun hg => OpOk.pickOr2 hg rfl rfl) ?_
  refine LF.gstep rfl rfl (.f _) (fun hg => OpOk.pickAnd2 hg rfl rfl) ?_
  refine LF.step (OpOk.pickOr rfl rfl) ?_
  refine LF.step (OpOk.assign rfl) (LF.nil (PF.next ?_))
  refine CF.if rfl (fun hc5 => ?_) (fun hc5 => ?_)
  refine CF.seq (CF.region (LF.step (OpOk.assign rfl) (LF.nil (PF.next (CF.ret (PF.blockRet (PF.thenRet ?_)))))))
  have hm : wrongM l scr sp = 43 := by
    exact pWrong_e4 hR (hT.symm.trans hc3) (by rw [hN] at hc4; exact no4 hc4) (by rw [hN, hN] at hc5; exact hc5)
  exact PF.ret1 rfl rfl ⟨by rw [hm] <;> rfl, hkp⟩
  refine CF.skip (PF.blockNormal (PF.next (CF.seq (CF.region (LF.step (OpOk.assign rfl) (LF.nil (PF.next (CF.ret ?_))))))))
  have hm : wrongM l scr sp = 0 := by
    exact pWrong_e5 hR (hT.symm.trans hc3) (by rw [hN] at hc4; exact no4 hc4) (by rw [hN, hN] at hc5; exact no5 hc5)
  exact PF.ret1 rfl rfl ⟨by rw [hm] <;> rfl, hkp⟩

end Go.Proofs.Ytcceglmmpbdhiaa
