/- Walks. Conditions: each contract names its own. -/
import Derived.Test.YtcceglmmpbdhiaaMB
import Derived.Test.YtcceglmmpbdhiaaWU
namespace Go.Proofs.Ytcceglmmpbdhiaa
set_option linter.unusedVariables false
set_option linter.unusedSimpArgs false
set_option linter.unusedSectionVars false
set_option maxRecDepth 8000
open Go.JE

theorem Try.ent12 : Ent Try.prog 12 := ⟨_, Try.func12, by kernel_rfl, by kernel_rfl⟩
theorem Try.ent13 : Ent Try.prog 13 := ⟨_, Try.func13, by kernel_rfl, by kernel_rfl⟩
theorem Try.ent20 : Ent Try.prog 20 := ⟨_, Try.func20, by kernel_rfl, by kernel_rfl⟩
theorem Try.ent23 : Ent Try.prog 23 := ⟨_, Try.func23, by kernel_rfl, by kernel_rfl⟩
theorem Try.ent26 : Ent Try.prog 26 := ⟨_, Try.func26, by kernel_rfl, by kernel_rfl⟩
-- jacquard/jacquardlaw11.MovesRound: function 11
set_option maxHeartbeats 4000000 in
theorem movesRound_ct {F : PH} {H : Heap} (hin : InH F H) {a0 : Value} {s : List Int} {N0 : Nat} (p0 : (rLn N0 (rI .i64)).rv F a0 s) (x : Int) (ww1 : IntKind.i32.wrap x = x) :
    Ct Try.prog 11 #[a0, .int .i32 x] H (fun v H' => v = .bool ((fun _ _ => true) s x) ∧ Kp H.size H H') := by
  have q0 := rL.len2 p0
  have hkp := Kp.refl H.size H
  have hx := PH.ext.refl (H := H) F
  refine Ct.enter (args := [a0, .int .i32 x]) Try.func11 rfl rfl rfl (fun w0 hw0 => ?_)
  refine CF.seq (CF.region (LF.step (OpOk.assign rfl) (LF.nil (PF.next (CF.seq (CF.region ?_))))))
  refine LF.call (OpCall.fn Try.ent12 rfl rfl) (awake_ct hin ) ?_
  rintro _ H16 ⟨rfl, k16⟩
  have zk16 := k16.1
  replace hin := hin.kp k16
  replace hkp := hkp.trans (k16.mono hkp.1)
  refine LF.step (OpOk.assign rfl) (LF.nil (PF.next (CF.seq (CF.region (LF.step (OpOk.move rfl) ?_)))))
  refine LF.call (OpCall.fn Try.ent13 rfl rfl) (made_ct hin p0) ?_
  rintro v18 H18 ⟨F18, x18, i18, k18, h18⟩
  have zk18 := k18.1
  replace hx := hx.trans x18 hkp.1
  replace hkp := hkp.trans (k18.mono hkp.1)
  have l18 := hkp.1
  have le0 := x18.1
  have hin := i18
  have h18q := rL.len2 h18
  refine LF.call (OpCall.fn Try.ent26 rfl rfl) (pCircles_ct hin h18 (by first | omega | decide | assumption | exact made_ok s | exact made_keys s | exact lowL_ok s | exact lowL_keys s | (have := made_len s; omega)) (by first | omega | decide | assumption | exact made_ok s | exact made_keys s | exact lowL_ok s | exact lowL_keys s | (have := made_len s; omega)) (by first | omega | decide | assumption | exact made_ok s | exact made_keys s | exact lowL_ok s | exact lowL_keys s | (have := made_len s; omega))) ?_
  rintro v19 H19 ⟨F19, x19, i19, k19, h19⟩
  have zk19 := k19.1
  replace hx := hx.trans x19 hkp.1
  replace hkp := hkp.trans (k19.mono hkp.1)
  have l19 := hkp.1
  replace le0 := le0.trans x19.1
  have le1 := x19.1
  have hin := i19
  have h19q := rL.len2 h19
  have hcsl := circles_len (madeM s)
  have hml := made_len s
  refine LF.step (OpOk.assign rfl) (LF.nil (PF.next (CF.seq (CF.seq (CF.region (LF.step (OpOk.assign rfl) (LF.nil (PF.next (CF.block ?_)))))))))
  refine CF.loop (ι := Nat × PH) (fun z9 H1 => z9.1 ≤ (circlesM (madeM s)).length ∧ PH.ext H F z9.2 ∧ PH.le F19 z9.2 ∧ InH z9.2 H1 ∧ Kp H.size H H1) (fun z9 => [(1, .int .i32 x), (5, .bool true), (6, v19), (7, .int .i64 (↑z9.1))]) (fun z9 => (circlesM (madeM s)).length - z9.1) (0, F19) ⟨by omega, hx, PH.le.refl _, hin, hkp⟩ ⟨rfl, rfl, rfl, eqI (by omega), trivial⟩ ?_
  clear hx hin hkp
  rintro ⟨i, Fi⟩ H1 ⟨hi, hx, le2, hin, hkp⟩
  dsimp only at hi hin hkp ⊢
  replace le0 := le0.trans le2
  replace le1 := le1.trans le2
  refine CF.seq (CF.seq (CF.region (LF.step (OpOk.move rfl) (LF.step (OpOk.move rfl) ?_))))
  refine LF.step (OpOk.lenL Try.underlying32 (h19.up le2) rfl) ?_
  refine LF.step (OpOk.lss rfl rfl) ?_
  refine LF.nil (PF.next ?_)
  refine CF.if rfl (fun hc1 => ?_) (fun hc1 => ?_)
  have hlr := circle_low (s := s) (i := i) (by omega)
  have hc2 := hlr.two
  have hc21 := hlr.len
  refine CF.skip (PF.next (CF.seq (CF.block (CF.seq (CF.region (LF.step (OpOk.assign rfl) (LF.nil (PF.next (CF.seq (CF.seq (CF.region ?_)))))))))))
  refine LF.step (OpOk.assign rfl) (LF.nil (PF.next (CF.block ?_)))
  have x9008 := (fun (H9 : Heap) (_ : InH Fi H9) => (Gl.nil Fi H9 H.size : Gl rMove 31 Fi H9 H.size (.slice none 0 0) [])) _ hin
  refine CF.loop (ι := Nat × Value × List D.Move × PH) (fun z9 H1 => z9.1 ≤ (ix (circlesM (madeM s)) i).length ∧ z9.2.2.1 = (rowC (ix (circlesM (madeM s)) i)).take z9.1 ∧ PH.ext H F z9.2.2.2 ∧ PH.le Fi z9.2.2.2 ∧ InH z9.2.2.2 H1 ∧ Kp H.size H H1 ∧ Gl rMove 31 z9.2.2.2 H1 H.size z9.2.1 z9.2.2.1) (fun z9 => [(1, .int .i32 x), (5, .bool true), (6, v19), (7, .int .i64 (↑i)), (8, z9.2.1), (9, .int .i64 (↑z9.1))]) (fun z9 => (ix (circlesM (madeM s)) i).length - z9.1) (0, .slice none 0 0, [], Fi) ⟨by dsimp only; omega, rfl, hx, PH.le.refl _, hin, hkp, x9008⟩ ⟨rfl, rfl, rfl, rfl, rfl, eqI (by omega), trivial⟩ ?_
  clear hx hin hkp x9008
  rintro ⟨k, vm, o, Fk⟩ H1 ⟨hk, hO, hx, le3, hin, hkp, x9008⟩
  dsimp only at hk hO hin hkp x9008 ⊢
  replace le0 := le0.trans le3
  replace le1 := le1.trans le3
  replace le2 := le2.trans le3
  have hol : o.length ≤ k := by rw [hO, List.length_take]; omega
  refine CF.seq (CF.seq (CF.region (LF.step (OpOk.move rfl) (LF.step (OpOk.move rfl) (LF.step (OpOk.move rfl) ?_)))))
  refine LF.step (OpOk.idxL (i := i) Try.underlying32 Try.sz23 (h19.up le2) rfl rfl rfl (by omega)) ?_
  refine LF.stepE (OpOk.ldV hin (rL.ix (h19.up le2) i (by omega)) Try.one23 rfl rfl) ?_
  intro v30 h30
  have h30q := rL.len2 h30
  refine LF.step (OpOk.lenL Try.underlying23 h30 rfl) ?_
  refine LF.step (OpOk.lss rfl rfl) ?_
  refine LF.nil (PF.next ?_)
  refine CF.if rfl (fun hc2 => ?_) (fun hc2 => ?_)
  refine CF.skip (PF.next (CF.seq (CF.block ?_)))
  have leS0 := le0
  have leS1 := le1
  have leS2 := le2
  have leS3 := le3
  refine CF.any (z := false) (fun H' => InH Fk H' ∧ True) Try.mixed ?_
  refine AF.take 0 rfl (by kernel_rfl) (by kernel_rfl) (by kernel_rfl) ⟨hin, trivial⟩ (fun _ ⟨hin, _⟩ => OpOk.move rfl) ?_
  refine AF.take 1 rfl (by kernel_rfl) (by kernel_rfl) (by kernel_rfl) ⟨hin, trivial⟩ (fun _ ⟨hin, _⟩ => OpOk.move rfl) ?_
  refine AF.take 2 rfl (by kernel_rfl) (by kernel_rfl) (by kernel_rfl) ⟨hin, trivial⟩ (fun _ ⟨hin, _⟩ => OpOk.move rfl) ?_
  refine AF.take 3 rfl (by kernel_rfl) (by kernel_rfl) (by kernel_rfl) ⟨hin, trivial⟩ (fun _ ⟨hin, _⟩ => OpOk.idxL (i := i) Try.underlying32 Try.sz23 (h19.up leS2) rfl rfl rfl (by omega)) ?_
  refine AF.takeE 4 rfl (by kernel_rfl) (by kernel_rfl) (by kernel_rfl) ⟨hin, trivial⟩ (OpOk.ldVS (rL.ix (h19.up leS2) i (by omega)) Try.one23 rfl rfl (fun _ h => h.1)) ?_
  intro v39 h39
  have h39q := rL.len2 h39
  refine AF.take 5 rfl (by kernel_rfl) (by kernel_rfl) (by kernel_rfl) ⟨hin, trivial⟩ (fun _ ⟨hin, _⟩ => OpOk.move rfl) ?_
  refine AF.take 6 rfl (by kernel_rfl) (by kernel_rfl) (by kernel_rfl) ⟨hin, trivial⟩ (fun _ ⟨hin, _⟩ => OpOk.idxL (i := k) Try.underlying23 Try.sz3 h39 rfl rfl rfl (by omega)) ?_
  refine AF.take 7 rfl (by kernel_rfl) (by kernel_rfl) (by kernel_rfl) ⟨hin, trivial⟩ (fun _ ⟨hin, _⟩ => OpOk.ldI hin (rL.ix h39 k (by omega)) Try.one3 rfl) ?_
  refine AF.take 8 rfl (by kernel_rfl) (by kernel_rfl) (by kernel_rfl) ⟨hin, trivial⟩ (fun _ ⟨hin, _⟩ => OpOk.move rfl) ?_
  refine AF.take 9 rfl (by kernel_rfl) (by kernel_rfl) (by kernel_rfl) ⟨hin, trivial⟩ (fun _ ⟨hin, _⟩ => OpOk.move rfl) ?_
  refine AF.take 10 rfl (by kernel_rfl) (by kernel_rfl) (by kernel_rfl) ⟨hin, trivial⟩ (fun _ ⟨hin, _⟩ => OpOk.idxL (i := i) Try.underlying32 Try.sz23 (h19.up leS2) rfl rfl rfl (by omega)) ?_
  refine AF.takeE 11 rfl (by kernel_rfl) (by kernel_rfl) (by kernel_rfl) ⟨hin, trivial⟩ (OpOk.ldVS (rL.ix (h19.up leS2) i (by omega)) Try.one23 rfl rfl (fun _ h => h.1)) ?_
  intro v46 h46
  have h46q := rL.len2 h46
  refine AF.take 12 rfl (by kernel_rfl) (by kernel_rfl) (by kernel_rfl) ⟨hin, trivial⟩ (fun _ ⟨hin, _⟩ => OpOk.move rfl) ?_
  refine AF.take 13 rfl (by kernel_rfl) (by kernel_rfl) (by kernel_rfl) ⟨hin, trivial⟩ (fun _ ⟨hin, _⟩ => OpOk.add rfl rfl (by omega)) ?_
  have htm := tmod_nat k (ix (circlesM (madeM s)) i).length
  have hmod : (k + 1) % (ix (circlesM (madeM s)) i).length < (ix (circlesM (madeM s)) i).length := Nat.mod_lt _ (by omega)
  refine AF.take 14 rfl (by kernel_rfl) (by kernel_rfl) (by kernel_rfl) ⟨hin, trivial⟩ (fun _ ⟨hin, _⟩ => OpOk.move rfl) ?_
  refine AF.take 15 rfl (by kernel_rfl) (by kernel_rfl) (by kernel_rfl) ⟨hin, trivial⟩ (fun _ ⟨hin, _⟩ => OpOk.move rfl) ?_
  refine AF.take 16 rfl (by kernel_rfl) (by kernel_rfl) (by kernel_rfl) ⟨hin, trivial⟩ (fun _ ⟨hin, _⟩ => OpOk.idxL (i := i) Try.underlying32 Try.sz23 (h19.up leS2) rfl rfl rfl (by omega)) ?_
  refine AF.takeE 17 rfl (by kernel_rfl) (by kernel_rfl) (by kernel_rfl) ⟨hin, trivial⟩ (OpOk.ldVS (rL.ix (h19.up leS2) i (by omega)) Try.one23 rfl rfl (fun _ h => h.1)) ?_
  intro v52 h52
  have h52q := rL.len2 h52
  refine AF.take 18 rfl (by kernel_rfl) (by kernel_rfl) (by kernel_rfl) ⟨hin, trivial⟩ (fun _ ⟨hin, _⟩ => OpOk.lenL Try.underlying23 h52 rfl) ?_
  refine AF.take 19 rfl (by kernel_rfl) (by kernel_rfl) (by kernel_rfl) ⟨hin, trivial⟩ (fun _ ⟨hin, _⟩ => OpOk.rem rfl rfl (by omega)) ?_
  refine AF.take 20 rfl (by kernel_rfl) (by kernel_rfl) (by kernel_rfl) ⟨hin, trivial⟩ (fun _ ⟨hin, _⟩ => OpOk.idxL (i := ((k + 1) % (ix (circlesM (madeM s)) i).length)) Try.underlying23 Try.sz3 h46 rfl rfl (by omega) (by omega)) ?_
  refine AF.take 21 rfl (by kernel_rfl) (by kernel_rfl) (by kernel_rfl) ⟨hin, trivial⟩ (fun _ ⟨hin, _⟩ => OpOk.ldI hin (rL.ix h46 ((k + 1) % (ix (circlesM (madeM s)) i).length) (by omega)) Try.one3 rfl) ?_
  refine AF.take 22 rfl (by kernel_rfl) (by kernel_rfl) (by kernel_rfl) ⟨hin, trivial⟩ (fun _ ⟨hin, _⟩ => OpOk.build (v := .agg #[.int .i64 (ix (ix (circlesM (madeM s)) i) k), .int .i64 (ix (ix (circlesM (madeM s)) i) ((k + 1) % (ix (circlesM (madeM s)) i).length))]) rfl (fun w => by kernel_rfl)) ?_
  refine AF.one 23 (by kernel_rfl) ?_
  refine AFN.chg rfl (OpCh.litL (F := Fk) (r := rMove) (l := [⟨ix (ix (circlesM (madeM s)) i) k, ix (ix (circlesM (madeM s)) i) ((k + 1) % (ix (circlesM (madeM s)) i).length)⟩]) (us := [.agg #[.int .i64 (ix (ix (circlesM (madeM s)) i) k), .int .i64 (ix (ix (circlesM (madeM s)) i) ((k + 1) % (ix (circlesM (madeM s)) i).length))]]) (cs := [[.int .i64 (ix (ix (circlesM (madeM s)) i) k), .int .i64 (ix (ix (circlesM (madeM s)) i) ((k + 1) % (ix (circlesM (madeM s)) i).length))]]) Try.underlying22 Try.info31 (by decide) rfl rfl rfl ⟨rfl, rfl, (ra_ok (rMove.mk (m := ⟨ix (ix (circlesM (madeM s)) i) k, ix (ix (circlesM (madeM s)) i) ((k + 1) % (ix (circlesM (madeM s)) i).length)⟩) (At.wr (rL.ix h39 k (by omega))) (At.wr (rL.ix h46 ((k + 1) % (ix (circlesM (madeM s)) i).length) (by omega))))), trivial⟩) ?_
  rintro _ H58 ⟨g58, rfl, e58, s58, k58, x58⟩
  have l58 := hkp.1
  have ap9008_58 := ap_new x9008.lt (x58 hin).ge
  replace x58 := (x58 hin).base l58
  have zk58 := k58.1
  replace hin := hin.kp k58
  replace hkp := hkp.trans (k58.mono hkp.1)
  replace x9008 := x9008.kp k58
  have ap58_9008 := ap_sym ap9008_58
  refine ⟨⟨hin, trivial⟩, ?_⟩
  refine AF.one 24 (by kernel_rfl) ?_
  obtain ⟨Fz1, hxz1, lez1, hinz1, noz1, hrz1⟩ := x58.freezeX hin hx (Nat.le_refl _) (by first | (simp only [List.length_append, List.length_take, List.length_drop, List.length_nil, List.length_cons, List.length_set, List.length_replicate]; omega) | (simp; done) | (simp; omega) | omega)
  replace hin := hinz1
  replace hx := hxz1
  replace le0 := le0.trans lez1
  replace le1 := le1.trans lez1
  replace le2 := le2.trans lez1
  replace le3 := le3.trans lez1
  have le4 := lez1
  replace x9008 := x9008.frozen lez1 noz1 ap9008_58
  refine AFN.chg rfl (OpCh.appL (r := rMove) Try.underlying22 Try.info31 (by decide) rfl rfl rfl x9008 hrz1 hin (by first | (simp only [List.length_append, List.length_take, List.length_drop, List.length_nil, List.length_cons, List.length_set, List.length_replicate]; omega) | (simp; done) | (simp; omega) | omega) (by first | omega | exact hkp.1)) ?_
  rintro v59 H59 ⟨x59, gb59, ob59⟩
  replace hin := hin.grown gb59 x9008.no
  replace hkp := gb59.kp hkp (Nat.le_refl _) (fun k0 hk0 => (x9008.blk k0 hk0).1)
  refine ⟨⟨(hin.down le4), trivial⟩, ?_⟩
  refine AF.take 25 rfl (by kernel_rfl) (by kernel_rfl) (by kernel_rfl) ⟨(hin.down le4), trivial⟩ (fun _ ⟨hin, _⟩ => OpOk.assign rfl) ?_
  refine AF.done (by kernel_rfl) ?_
  refine PF.blockNormal (PF.next (CF.region (LF.step (OpOk.move rfl) ?_)))
  refine LF.step (OpOk.add rfl rfl (by omega)) ?_
  refine LF.step (OpOk.assign rfl) (LF.nil ?_)
  exact PF.again (k + 1, v59, o ++ ([⟨ix (ix (circlesM (madeM s)) i) k, ix (ix (circlesM (madeM s)) i) ((k + 1) % (ix (circlesM (madeM s)) i).length)⟩]), Fz1) ⟨by dsimp only; omega, by dsimp only; exact rowC_snoc (by omega) hO, hx, le3, hin, hkp, x59⟩ ⟨rfl, rfl, rfl, rfl, rfl, eqI (by omega), trivial⟩ (by omega)
  rw [List.take_of_length_le (by rw [rowC_len]; omega)] at hO
  subst hO
  have hrl := rowC_len (ix (circlesM (madeM s)) i)
  refine CF.exit (PF.thenExit (PF.thenExit (PF.blockHere (PF.next (CF.seq (CF.region (LF.step (OpOk.move rfl) ?_)))))))
  refine LF.call (OpCall.fn Try.ent20 rfl rfl) (start_ct hin x) ?_
  rintro v61 H61 ⟨x61, k61⟩
  have ap9008_61 := ap_new x9008.lt x61.ge
  have ap61_9008 := ap_sym ap9008_61
  replace x61 := x61.base hkp.1
  have zk61 := k61.1
  replace hin := hin.kp k61
  replace hkp := hkp.trans (k61.mono hkp.1)
  replace x9008 := x9008.kp k61
  refine LF.step (OpOk.assign rfl) (LF.nil (PF.next (CF.seq (CF.seq (CF.region (LF.step (OpOk.assign rfl) (LF.nil (PF.next (CF.block ?_)))))))))
  obtain ⟨Fz2, hxz2, lez2, hinz2, noz2, hrz2⟩ := x9008.freezeX hin hx (Nat.le_refl _) (by rw [hrl]; omega)
  replace hin := hinz2
  replace hx := hxz2
  replace le0 := le0.trans lez2
  replace le1 := le1.trans lez2
  replace le2 := le2.trans lez2
  replace le3 := le3.trans lez2
  have le4 := lez2
  replace x61 := x61.frozen lez2 noz2 ap61_9008
  refine CF.loop (ι := Nat × Value × List Int × PH) (fun z9 H1 => z9.1 ≤ (ix (circlesM (madeM s)) i).length ∧ z9.2.2.1 = iterC (ix (circlesM (madeM s)) i) z9.1 (startM x) ∧ PH.ext H F z9.2.2.2 ∧ PH.le Fz2 z9.2.2.2 ∧ InH z9.2.2.2 H1 ∧ Kp H.size H H1 ∧ Gl (rI .i32) 21 z9.2.2.2 H1 H.size z9.2.1 z9.2.2.1) (fun z9 => [(1, .int .i32 x), (5, .bool true), (6, v19), (7, .int .i64 (↑i)), (8, vm), (10, z9.2.1), (11, .int .i64 (↑z9.1))]) (fun z9 => (ix (circlesM (madeM s)) i).length - z9.1) (0, v61, startM x, Fz2) ⟨by dsimp only; omega, rfl, hx, PH.le.refl _, hin, hkp, x61⟩ ⟨rfl, rfl, rfl, rfl, rfl, rfl, eqI (by omega), trivial⟩ ?_
  clear hx hin hkp x61
  rintro ⟨j, vp, pl, Fj⟩ H1 ⟨hj, hP, hx, le5, hin, hkp, x61⟩
  dsimp only at hj hP hin hkp x61 ⊢
  replace le0 := le0.trans le5
  replace le1 := le1.trans le5
  replace le2 := le2.trans le5
  replace le3 := le3.trans le5
  replace le4 := le4.trans le5
  have hpl : pl.length = 40 := by rw [hP, iterC_len, start_len]
  refine CF.seq (CF.seq (CF.region (LF.step (OpOk.move rfl) (LF.step (OpOk.move rfl) (LF.step (OpOk.move rfl) ?_)))))
  refine LF.step (OpOk.idxL (i := i) Try.underlying32 Try.sz23 (h19.up le2) rfl rfl rfl (by omega)) ?_
  refine LF.stepE (OpOk.ldV hin (rL.ix (h19.up le2) i (by omega)) Try.one23 rfl rfl) ?_
  intro v66 h66
  have h66q := rL.len2 h66
  refine LF.step (OpOk.lenL Try.underlying23 h66 rfl) ?_
  refine LF.step (OpOk.lss rfl rfl) ?_
  refine LF.nil (PF.next ?_)
  refine CF.if rfl (fun hc3 => ?_) (fun hc3 => ?_)
  refine CF.skip (PF.next (CF.seq (CF.block (CF.seq (CF.region (LF.step (OpOk.move rfl) ?_))))))
  refine LF.call (OpCall.fn Try.ent17 rfl rfl) (pOrder_ct hin (hrz2.up le5) (-1) 10 (by first | omega | decide | assumption | exact made_ok s | exact made_keys s | exact lowL_ok s | exact lowL_keys s | (have := made_len s; omega)) (by decide : IntKind.i64.wrap (-1) = (-1)) (by decide : IntKind.i64.wrap 10 = 10)) ?_
  rintro _ H73 ⟨F73, x73, i73, k73, v730, rfl, h730⟩
  have zk73 := k73.1
  replace hx := hx.trans x73 hkp.1
  replace hkp := hkp.trans (k73.mono hkp.1)
  have l73 := hkp.1
  replace x61 := (x61.ext x73).kp k73
  replace le0 := le0.trans x73.1
  replace le1 := le1.trans x73.1
  replace le2 := le2.trans x73.1
  replace le3 := le3.trans x73.1
  replace le4 := le4.trans x73.1
  replace le5 := le5.trans x73.1
  have le6 := x73.1
  have hin := i73
  have h730q := rL.len2 h730
  refine LF.step (OpOk.move rfl) ?_
  refine LF.step (OpOk.extract (v := v730) rfl rfl) ?_
  refine LF.step (OpOk.extract (v := .int .i64 ((orderR (rowC (ix (circlesM (madeM s)) i)) (-1) 10).2)) rfl rfl) ?_
  refine LF.step (OpOk.assign rfl) (LF.step (OpOk.assign rfl) (LF.nil (PF.next (CF.seq (CF.seq (CF.region (LF.step (OpOk.move rfl) ?_)))))))
  refine LF.step (OpOk.neq rfl rfl) ?_
  refine LF.nil (PF.next ?_)
  refine CF.if rfl (fun hc4 => ?_) (fun hc4 => ?_)
  exact absurd (rowC_ok hlr) hc4
  refine CF.skip (PF.next (CF.region (LF.step (OpOk.move rfl) (LF.step (OpOk.move rfl) ?_))))
  obtain ⟨Fz3, hxz3, lez3, hinz3, noz3, hrz3⟩ := x61.freezeX hin hx (Nat.le_refl _) (by first | omega | (rw [start_len]; decide))
  replace hin := hinz3
  replace hx := hxz3
  replace le0 := le0.trans lez3
  replace le1 := le1.trans lez3
  replace le2 := le2.trans lez3
  replace le3 := le3.trans lez3
  replace le4 := le4.trans lez3
  replace le5 := le5.trans lez3
  replace le6 := le6.trans lez3
  have le7 := lez3
  refine LF.call (OpCall.fn Try.ent23 rfl rfl) (pDo_ct hin (h730.up le7) hrz3) ?_
  rintro v80 H80 ⟨x80, k80⟩
  replace x80 := x80.base hkp.1
  have zk80 := k80.1
  replace hin := hin.kp k80
  replace hkp := hkp.trans (k80.mono hkp.1)
  refine LF.step (OpOk.assign rfl) (LF.nil (PF.blockNormal (PF.next (CF.region (LF.step (OpOk.move rfl) ?_)))))
  refine LF.step (OpOk.add rfl rfl (by omega)) ?_
  refine LF.step (OpOk.assign rfl) (LF.nil ?_)
  exact PF.again (j + 1, v80, doM ((orderR (rowC (ix (circlesM (madeM s)) i)) (-1) 10).1) pl, Fz3) ⟨by dsimp only; omega, by dsimp only; rw [hP]; rfl, hx, le5, hin, hkp, x80⟩ ⟨rfl, rfl, rfl, rfl, rfl, rfl, eqI (by omega), trivial⟩ (by omega)
  obtain rfl : j = (ix (circlesM (madeM s)) i).length := by omega
  subst hP
  have hsl := start_len x
  refine CF.exit (PF.thenExit (PF.thenExit (PF.blockHere (PF.next (CF.seq (CF.region (LF.step (OpOk.move rfl) ?_)))))))
  refine LF.call (OpCall.fn Try.ent20 rfl rfl) (start_ct hin x) ?_
  rintro v82 H82 ⟨x82, k82⟩
  have ap61_82 := ap_new x61.lt x82.ge
  have ap82_61 := ap_sym ap61_82
  replace x82 := x82.base hkp.1
  have zk82 := k82.1
  replace hin := hin.kp k82
  replace hkp := hkp.trans (k82.mono hkp.1)
  replace x61 := x61.kp k82
  refine LF.step (OpOk.assign rfl) (LF.nil (PF.next (CF.seq (CF.seq (CF.region (LF.step (OpOk.assign rfl) (LF.nil (PF.next (CF.block ?_)))))))))
  refine CF.loop (ι := Nat) (fun e H1 => e ≤ 40 ∧ InH Fj H1 ∧ Kp H.size H H1 ∧ Gl (rI .i32) 21 Fj H1 H.size vp (iterC (ix (circlesM (madeM s)) i) (ix (circlesM (madeM s)) i).length (startM x)) ∧ Gl (rI .i32) 21 Fj H1 H.size v82 (startM x)) (fun e => [(1, .int .i32 x), (5, .bool true), (6, v19), (7, .int .i64 (↑i)), (10, vp), (14, v82), (15, .int .i64 (↑e))]) (fun e => 40 - e) 0 ⟨by omega, hin, hkp, x61, x82⟩ ⟨rfl, rfl, rfl, rfl, rfl, rfl, eqI (by omega), trivial⟩ ?_
  clear hin hkp x61 x82
  rintro e H1 ⟨he, hin, hkp, x61, x82⟩
  refine CF.seq (CF.seq (CF.region (LF.step (OpOk.move rfl) ?_)))
  refine LF.step (OpOk.lss rfl rfl) ?_
  refine LF.step (OpOk.move rfl) ?_
  refine LF.gstep rfl rfl (.t _) (fun hg => OpOk.move rfl) ?_
  refine LF.gstep rfl rfl (.t _) (fun hg => OpOk.move rfl) ?_
  refine LF.gstep rfl rfl (.t _) (fun hg => OpOk.lenG Try.underlying44 x61 (evg rfl hg)) ?_
  refine LF.gstep rfl rfl (.t _) (fun hg => OpOk.lss (evg rfl hg) (evg rfl hg)) ?_
  refine LF.step (OpOk.pickAnd rfl rfl) ?_
  refine LF.nil (PF.next ?_)
  refine CF.if rfl (fun hc5 => ?_) (fun hc5 => ?_)
  refine CF.skip (PF.next (CF.seq (CF.block (CF.seq ?_))))
  refine CF.still Try.mixed (by kernel_rfl) ?_
  refine LS.step (OpOk.move rfl) (LS.step (OpOk.move rfl) ?_)
  refine LS.step (OpOk.idxG (i := e) Try.underlying44 Try.sz21 x61 rfl rfl rfl (by first | omega | (simp only [List.length_replicate, List.length_set, List.length_append, List.length_cons, List.length_nil]; omega) | (simp only [List.length_append, List.length_take, List.length_replicate]; omega))) ?_
  refine LS.step (OpOk.ldGI x61 (by first | omega | (simp only [List.length_replicate, List.length_set, List.length_append, List.length_cons, List.length_nil]; omega) | (simp only [List.length_append, List.length_take, List.length_replicate]; omega)) Try.one21 rfl) ?_
  refine LS.step (OpOk.move rfl) (LS.step (OpOk.move rfl) ?_)
  refine LS.step (OpOk.idxG (i := e) Try.underlying44 Try.sz21 x82 rfl rfl rfl (by first | omega | (simp only [List.length_replicate, List.length_set, List.length_append, List.length_cons, List.length_nil]; omega) | (simp only [List.length_append, List.length_take, List.length_replicate]; omega))) ?_
  refine LS.step (OpOk.ldGI x82 (by first | omega | (simp only [List.length_replicate, List.length_set, List.length_append, List.length_cons, List.length_nil]; omega) | (simp only [List.length_append, List.length_take, List.length_replicate]; omega)) Try.one21 rfl) ?_
  refine LS.step (OpOk.neq rfl rfl) ?_
  refine LS.step (OpOk.move rfl) ?_
  refine LS.gstep rfl rfl (.t _) (fun hg => OpOk.move rfl) ?_
  refine LS.gstep rfl rfl (.t _) (fun hg => OpOk.neq (evg rfl hg) rfl) ?_
  refine LS.step (OpOk.pickAnd rfl rfl) ?_
  refine LS.step (OpOk.move rfl) ?_
  refine LS.gstep rfl rfl (.t _) (fun hg => OpOk.move rfl) ?_
  refine LS.gstep rfl rfl (.t _) (fun hg => OpOk.neq (evg rfl hg) rfl) ?_
  refine LS.step (OpOk.pickAnd rfl rfl) ?_
  refine LS.done ?_
  refine PF.next ?_
  refine CF.if rfl (fun hc6 => ?_) (fun hc6 => ?_)
  exact absurd (round_back hlr (by omega) hc6.1.2 hc6.2) hc6.1.1
  refine CF.skip (PF.blockNormal (PF.next (CF.region (LF.step (OpOk.move rfl) ?_))))
  refine LF.step (OpOk.add rfl rfl (by omega)) ?_
  refine LF.step (OpOk.assign rfl) (LF.nil ?_)
  exact PF.again (e + 1) ⟨by omega, hin, hkp, x61, x82⟩ ⟨rfl, rfl, rfl, rfl, rfl, rfl, eqI (by omega), trivial⟩ (by omega)
  refine CF.exit (PF.thenExit (PF.thenExit (PF.blockHere (PF.next (CF.seq (CF.region (LF.step (OpOk.move rfl) ?_)))))))
  refine LF.step (OpOk.lenG Try.underlying44 x61 rfl) ?_
  refine LF.step (OpOk.neq rfl rfl) ?_
  refine LF.step (OpOk.move rfl) ?_
  refine LF.gstep rfl rfl (.f _) (fun hg => OpOk.move rfl) ?_
  refine LF.gstep rfl rfl (.f _) (fun hg => OpOk.move rfl) ?_
  refine LF.gstep rfl rfl (.f _) (fun hg => OpOk.idxL (i := i) Try.underlying32 Try.sz23 (h19.up le2) (evg rfl hg) (evg rfl hg) rfl (by omega)) ?_
  refine LF.gstepE rfl rfl (.f _) (fun hg => OpOk.ldV hin (rL.ix (h19.up le2) i (by omega)) Try.one23 rfl (evg rfl hg)) ?_
  intro v117 h117
  refine LF.gstep rfl rfl (.f _) (fun hg => OpOk.lenL Try.underlying23 (h117 hg) (evg rfl hg)) ?_
  refine LF.gstep rfl rfl (.f _) (fun hg => OpOk.lss (evg rfl hg) rfl) ?_
  refine LF.step (OpOk.pickOr rfl rfl) ?_
  refine LF.nil (PF.next ?_)
  refine CF.if rfl (fun hc7 => ?_) (fun hc7 => ?_)
  exact hc7.elim (fun h9 => absurd (show ((iterC _ _ _).length : Int) = 40 by omega) h9) (fun h9 => absurd h9 (by omega))
  refine CF.skip (PF.blockNormal (PF.next (CF.region (LF.step (OpOk.move rfl) ?_))))
  refine LF.step (OpOk.add rfl rfl (by omega)) ?_
  refine LF.step (OpOk.assign rfl) (LF.nil ?_)
  exact PF.again (i + 1, Fj) ⟨by omega, hx, le2, hin, hkp⟩ ⟨rfl, rfl, rfl, eqI (by omega), trivial⟩ (by omega)
  refine CF.exit (PF.thenExit (PF.thenExit (PF.blockHere (PF.next (CF.seq (CF.region (LF.step (OpOk.move rfl) (LF.step (OpOk.assign rfl) (LF.nil (PF.next (CF.ret ?_)))))))))))
  have hm : (fun _ _ => true) s x = true := by
    rfl
  exact PF.ret1 rfl rfl ⟨by first | (rw [hm] <;> rfl) | exact (congrArg Value.bool hm).symm, hkp⟩

end Go.Proofs.Ytcceglmmpbdhiaa
