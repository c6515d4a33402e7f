/- Walks. Conditions: each contract names its own. -/
import Derived.Test.YtcceglmmpbdhiaaM4
import Derived.Test.YtcceglmmpbdhiaaWM
namespace Go.Proofs.Ytcceglmmpbdhiaa
set_option linter.unusedVariables false
set_option linter.unusedSimpArgs false
set_option linter.unusedSectionVars false
set_option maxRecDepth 8000
open Go.JE

theorem Try.ent20 : Ent Try.prog 20 := ⟨_, Try.func20, by kernel_rfl, by kernel_rfl⟩
-- jacquard/jacquardlaw11.MovesAlike: function 9
theorem movesAlike_ct {F : PH} {H : Heap} (hin : InH F H) {a0 : Value} {s : List Int} {N0 : Nat} (p0 : (rLn N0 (rI .i64)).rv F a0 s) (b : Bool) (x : Int) (ww2 : IntKind.i32.wrap x = x) :
    Ct Try.prog 9 #[a0, .bool b, .int .i32 x] H (fun v H' => v = .bool ((fun _ _ _ => true) s b x) ∧ Kp H.size H H') := by
  have q0 := rL.len2 p0
  have hkp := Kp.refl H.size H
  have hx := PH.ext.refl (H := H) F
  refine Ct.enter (args := [a0, .bool b, .int .i32 x]) Try.func9 rfl rfl rfl (fun w0 hw0 => ?_)
  refine CF.seq (CF.region (LF.step (OpOk.assign rfl) (LF.nil (PF.next (CF.seq (CF.region ?_))))))
  refine LF.call (OpCall.fn Try.ent12 rfl rfl) (awake_ct hin ) ?_
  rintro _ H16 ⟨rfl, k16⟩
  have zk16 := k16.1
  replace hin := hin.kp k16
  replace hkp := hkp.trans (k16.mono hkp.1)
  refine LF.step (OpOk.assign rfl) (LF.nil (PF.next (CF.seq (CF.region (LF.step (OpOk.move rfl) ?_)))))
  refine LF.call (OpCall.fn Try.ent13 rfl rfl) (made_ct hin p0) ?_
  rintro v18 H18 ⟨F18, x18, i18, k18, h18⟩
  have zk18 := k18.1
  replace hx := hx.trans x18 hkp.1
  replace hkp := hkp.trans (k18.mono hkp.1)
  have l18 := hkp.1
  have le0 := x18.1
  have hin := i18
  have h18q := rL.len2 h18
  refine LF.step (OpOk.assign rfl) (LF.nil (PF.next (CF.seq (CF.region (LF.step (OpOk.assign rfl) (LF.nil (PF.next (CF.seq (CF.seq (CF.region (LF.step (OpOk.move rfl) ?_)))))))))))
  refine LF.nil (PF.next ?_)
  refine CF.if rfl (fun hc1 => ?_) (fun hc1 => ?_)
  refine CF.region (LF.step (OpOk.assign rfl) (LF.nil (PF.next (CF.seq (CF.region (LF.step (OpOk.move rfl) (LF.step (OpOk.move rfl) ?_)))))))
  refine LF.call (OpCall.fn Try.ent17 rfl rfl) (pOrder_ct hin h18 15 10 (by first | omega | decide | (have := made_len s; omega) | (have := orderR_len (madeM s) 15 10 (made_len s); omega) | (simp; omega)) (by decide : IntKind.i64.wrap 15 = 15) (by decide : IntKind.i64.wrap 10 = 10)) ?_
  rintro _ H23 ⟨F23, x23, i23, k23, v230, rfl, h230⟩
  have zk23 := k23.1
  replace hx := hx.trans x23 hkp.1
  replace hkp := hkp.trans (k23.mono hkp.1)
  have l23 := hkp.1
  replace le0 := le0.trans x23.1
  have le1 := x23.1
  have hin := i23
  have h230q := rL.len2 h230
  refine LF.step (OpOk.move rfl) ?_
  refine LF.step (OpOk.extract (v := v230) rfl rfl) ?_
  refine LF.step (OpOk.extract (v := .int .i64 ((orderR (madeM s) 15 10).2)) rfl rfl) ?_
  refine LF.step (OpOk.assign rfl) (LF.step (OpOk.assign rfl) (LF.nil (PF.next (CF.seq (CF.region (LF.step (OpOk.move rfl) ?_))))))
  refine LF.call (OpCall.fn Try.ent20 rfl rfl) (start_ct hin x) ?_
  rintro v27 H27 ⟨x27, k27⟩
  replace x27 := x27.base hkp.1
  have zk27 := k27.1
  replace hin := hin.kp k27
  replace hkp := hkp.trans (k27.mono hkp.1)
  refine LF.step (OpOk.assign rfl) (LF.nil (PF.next (CF.seq (CF.region (LF.step (OpOk.move rfl) (LF.step (OpOk.move rfl) ?_))))))
  obtain ⟨Fz1, hxz1, lez1, hinz1, noz1, hrz1⟩ := x27.freezeX hin hx (Nat.le_refl _) (by rw [start_len]; decide)
  replace hin := hinz1
  replace hx := hxz1
  replace le0 := le0.trans lez1
  replace le1 := le1.trans lez1
  have le2 := lez1
  refine LF.call (OpCall.fn Try.ent23 rfl rfl) (pDo_ct hin (h230.up le2) hrz1) ?_
  rintro v30 H30 ⟨x30, k30⟩
  replace x30 := x30.base hkp.1
  have zk30 := k30.1
  replace hin := hin.kp k30
  replace hkp := hkp.trans (k30.mono hkp.1)
  refine LF.step (OpOk.assign rfl) (LF.nil (PF.next (CF.seq (CF.region (LF.step (OpOk.move rfl) (LF.step (OpOk.move rfl) ?_))))))
  refine LF.call (OpCall.fn Try.ent21 rfl rfl) (pAfter_ct hin (h18.up le1) hrz1) ?_
  rintro v33 H33 ⟨x33, k33⟩
  have ap30_33 := ap_new x30.lt x33.ge
  have ap33_30 := ap_sym ap30_33
  replace x33 := x33.base hkp.1
  have zk33 := k33.1
  replace hin := hin.kp k33
  replace hkp := hkp.trans (k33.mono hkp.1)
  replace x30 := x30.kp k33
  refine LF.step (OpOk.assign rfl) (LF.nil (PF.next (CF.seq (CF.seq (CF.region (LF.step (OpOk.move rfl) ?_))))))
  refine LF.step (OpOk.neq rfl rfl) ?_
  refine LF.step (OpOk.move rfl) ?_
  refine LF.gstep rfl rfl (.f _) (fun hg => OpOk.move rfl) ?_
  refine LF.gstep rfl rfl (.f _) (fun hg => OpOk.lenG Try.underlying44 x30 (evg rfl hg)) ?_
  refine LF.gstep rfl rfl (.f _) (fun hg => OpOk.neq (evg rfl hg) rfl) ?_
  refine LF.step (OpOk.pickOr rfl rfl) ?_
  refine LF.step (OpOk.move rfl) ?_
  refine LF.gstep rfl rfl (.f _) (fun hg => OpOk.move rfl) ?_
  refine LF.gstep rfl rfl (.f _) (fun hg => OpOk.lenG Try.underlying44 x33 (evg rfl hg)) ?_
  refine LF.gstep rfl rfl (.f _) (fun hg => OpOk.neq (evg rfl hg) rfl) ?_
  refine LF.step (OpOk.pickOr rfl rfl) ?_
  refine LF.nil (PF.next ?_)
  refine CF.if rfl (fun hc2 => ?_) (fun hc2 => ?_)
  exact absurd hc2 (al_ok (.inr rfl))
  refine CF.skip (PF.next (CF.seq (CF.seq (CF.region (LF.step (OpOk.assign rfl) (LF.nil (PF.next (CF.block ?_))))))))
  refine CF.loop (ι := Nat) (fun k H1 => k ≤ 40 ∧ InH Fz1 H1 ∧ Kp H.size H H1 ∧ Gl (rI .i32) 21 Fz1 H1 H.size v30 (doM ((orderR (madeM s) 15 10).1) (startM x)) ∧ Gl (rI .i32) 21 Fz1 H1 H.size v33 (afterP (madeM s) (startM x))) (fun k => [(1, .bool b), (7, .bool true), (13, v30), (14, v33), (15, .int .i64 (↑k))]) (fun k => 40 - k) 0 ⟨by omega, hin, hkp, x30, x33⟩ ⟨rfl, rfl, rfl, rfl, eqI (by omega), trivial⟩ ?_
  clear hin hkp x30 x33
  rintro k H1 ⟨hk, hin, hkp, x30, x33⟩
  refine CF.seq (CF.seq (CF.region (LF.step (OpOk.move rfl) ?_)))
  refine LF.step (OpOk.lss rfl rfl) ?_
  refine LF.nil (PF.next ?_)
  refine CF.if rfl (fun hc3 => ?_) (fun hc3 => ?_)
  refine CF.skip (PF.next (CF.seq (CF.block (CF.seq ?_))))
  refine CF.still Try.mixed (by kernel_rfl) ?_
  refine LS.step (OpOk.move rfl) (LS.step (OpOk.move rfl) ?_)
  refine LS.step (OpOk.idxG (i := k) Try.underlying44 Try.sz21 x30 rfl rfl rfl (by first | omega | (simp only [List.length_replicate, List.length_set, List.length_append, List.length_cons, List.length_nil]; omega) | (simp only [List.length_append, List.length_take, List.length_replicate]; omega))) ?_
  refine LS.step (OpOk.ldGI x30 (by first | omega | (simp only [List.length_replicate, List.length_set, List.length_append, List.length_cons, List.length_nil]; omega) | (simp only [List.length_append, List.length_take, List.length_replicate]; omega)) Try.one21 rfl) ?_
  refine LS.step (OpOk.move rfl) (LS.step (OpOk.move rfl) ?_)
  refine LS.step (OpOk.idxG (i := k) Try.underlying44 Try.sz21 x33 rfl rfl rfl (by first | omega | (simp only [List.length_replicate, List.length_set, List.length_append, List.length_cons, List.length_nil]; omega) | (simp only [List.length_append, List.length_take, List.length_replicate]; omega))) ?_
  refine LS.step (OpOk.ldGI x33 (by first | omega | (simp only [List.length_replicate, List.length_set, List.length_append, List.length_cons, List.length_nil]; omega) | (simp only [List.length_append, List.length_take, List.length_replicate]; omega)) Try.one21 rfl) ?_
  refine LS.step (OpOk.neq rfl rfl) ?_
  refine LS.step (OpOk.move rfl) ?_
  refine LS.gstep rfl rfl (.t _) (fun hg => OpOk.move rfl) ?_
  refine LS.gstep rfl rfl (.t _) (fun hg => OpOk.neq (evg rfl hg) rfl) ?_
  refine LS.step (OpOk.pickAnd rfl rfl) ?_
  refine LS.step (OpOk.move rfl) ?_
  refine LS.gstep rfl rfl (.t _) (fun hg => OpOk.move rfl) ?_
  refine LS.gstep rfl rfl (.t _) (fun hg => OpOk.neq (evg rfl hg) rfl) ?_
  refine LS.step (OpOk.pickAnd rfl rfl) ?_
  refine LS.step (OpOk.move rfl) ?_
  refine LS.gstep rfl rfl (.t _) (fun hg => OpOk.move rfl) ?_
  refine LS.gstep rfl rfl (.t _) (fun hg => OpOk.neq (evg rfl hg) rfl) ?_
  refine LS.gstep rfl rfl (.t _) (fun hg => OpOk.move (evg rfl hg)) ?_
  refine LS.gstep rfl rfl (.gf _ _) (fun hg => OpOk.move rfl) ?_
  refine LS.gstep rfl rfl (.gf _ _) (fun hg => OpOk.not (evg rfl hg)) ?_
  refine LS.gstep rfl rfl (.t _) (fun hg => OpOk.pickOr2 hg rfl rfl) ?_
  refine LS.step (OpOk.pickAnd rfl rfl) ?_
  refine LS.done ?_
  refine PF.next ?_
  refine CF.if rfl (fun hc4 => ?_) (fun hc4 => ?_)
  exact absurd (al_eq (.inr rfl) (by omega) hc4.1.1.2 hc4.1.2 (.inl (hc4.2.resolve_right (by rw [hc1]; decide)))) hc4.1.1.1
  refine CF.skip (PF.blockNormal (PF.next (CF.region (LF.step (OpOk.move rfl) ?_))))
  refine LF.step (OpOk.add rfl rfl (by omega)) ?_
  refine LF.step (OpOk.assign rfl) (LF.nil ?_)
  exact PF.again (k + 1) ⟨by omega, hin, hkp, x30, x33⟩ ⟨rfl, rfl, rfl, rfl, eqI (by omega), trivial⟩ (by omega)
  refine CF.exit (PF.thenExit (PF.thenExit (PF.blockHere (PF.next (CF.seq (CF.region (LF.step (OpOk.move rfl) (LF.step (OpOk.assign rfl) (LF.nil (PF.next (CF.ret ?_)))))))))))
  have hm : (fun _ _ _ => true) s b x = true := by
    rfl
  exact PF.ret1 rfl rfl ⟨by first | (rw [hm] <;> rfl) | exact (congrArg Value.bool hm).symm, hkp⟩
  refine CF.skip (PF.next (CF.seq (CF.region (LF.step (OpOk.move rfl) (LF.step (OpOk.move rfl) ?_)))))
  refine LF.call (OpCall.fn Try.ent17 rfl rfl) (pOrder_ct hin h18 (-1) 10 (by first | omega | decide | (have := made_len s; omega) | (have := orderR_len (madeM s) 15 10 (made_len s); omega) | (simp; omega)) (by decide : IntKind.i64.wrap (-1) = (-1)) (by decide : IntKind.i64.wrap 10 = 10)) ?_
  rintro _ H23 ⟨F23, x23, i23, k23, v230, rfl, h230⟩
  have zk23 := k23.1
  replace hx := hx.trans x23 hkp.1
  replace hkp := hkp.trans (k23.mono hkp.1)
  have l23 := hkp.1
  replace le0 := le0.trans x23.1
  have le1 := x23.1
  have hin := i23
  have h230q := rL.len2 h230
  refine LF.step (OpOk.move rfl) ?_
  refine LF.step (OpOk.extract (v := v230) rfl rfl) ?_
  refine LF.step (OpOk.extract (v := .int .i64 ((orderR (madeM s) (-1) 10).2)) rfl rfl) ?_
  refine LF.step (OpOk.assign rfl) (LF.step (OpOk.assign rfl) (LF.nil (PF.next (CF.seq (CF.region (LF.step (OpOk.move rfl) ?_))))))
  refine LF.call (OpCall.fn Try.ent20 rfl rfl) (start_ct hin x) ?_
  rintro v27 H27 ⟨x27, k27⟩
  replace x27 := x27.base hkp.1
  have zk27 := k27.1
  replace hin := hin.kp k27
  replace hkp := hkp.trans (k27.mono hkp.1)
  refine LF.step (OpOk.assign rfl) (LF.nil (PF.next (CF.seq (CF.region (LF.step (OpOk.move rfl) (LF.step (OpOk.move rfl) ?_))))))
  obtain ⟨Fz2, hxz2, lez2, hinz2, noz2, hrz2⟩ := x27.freezeX hin hx (Nat.le_refl _) (by rw [start_len]; decide)
  replace hin := hinz2
  replace hx := hxz2
  replace le0 := le0.trans lez2
  replace le1 := le1.trans lez2
  have le2 := lez2
  refine LF.call (OpCall.fn Try.ent23 rfl rfl) (pDo_ct hin (h230.up le2) hrz2) ?_
  rintro v30 H30 ⟨x30, k30⟩
  replace x30 := x30.base hkp.1
  have zk30 := k30.1
  replace hin := hin.kp k30
  replace hkp := hkp.trans (k30.mono hkp.1)
  refine LF.step (OpOk.assign rfl) (LF.nil (PF.next (CF.seq (CF.region (LF.step (OpOk.move rfl) (LF.step (OpOk.move rfl) ?_))))))
  refine LF.call (OpCall.fn Try.ent21 rfl rfl) (pAfter_ct hin (h18.up le1) hrz2) ?_
  rintro v33 H33 ⟨x33, k33⟩
  have ap30_33 := ap_new x30.lt x33.ge
  have ap33_30 := ap_sym ap30_33
  replace x33 := x33.base hkp.1
  have zk33 := k33.1
  replace hin := hin.kp k33
  replace hkp := hkp.trans (k33.mono hkp.1)
  replace x30 := x30.kp k33
  refine LF.step (OpOk.assign rfl) (LF.nil (PF.next (CF.seq (CF.seq (CF.region (LF.step (OpOk.move rfl) ?_))))))
  refine LF.step (OpOk.neq rfl rfl) ?_
  refine LF.step (OpOk.move rfl) ?_
  refine LF.gstep rfl rfl (.f _) (fun hg => OpOk.move rfl) ?_
  refine LF.gstep rfl rfl (.f _) (fun hg => OpOk.lenG Try.underlying44 x30 (evg rfl hg)) ?_
  refine LF.gstep rfl rfl (.f _) (fun hg => OpOk.neq (evg rfl hg) rfl) ?_
  refine LF.step (OpOk.pickOr rfl rfl) ?_
  refine LF.step (OpOk.move rfl) ?_
  refine LF.gstep rfl rfl (.f _) (fun hg => OpOk.move rfl) ?_
  refine LF.gstep rfl rfl (.f _) (fun hg => OpOk.lenG Try.underlying44 x33 (evg rfl hg)) ?_
  refine LF.gstep rfl rfl (.f _) (fun hg => OpOk.neq (evg rfl hg) rfl) ?_
  refine LF.step (OpOk.pickOr rfl rfl) ?_
  refine LF.nil (PF.next ?_)
  refine CF.if rfl (fun hc5 => ?_) (fun hc5 => ?_)
  exact absurd hc5 (al_ok (.inl (by decide)))
  refine CF.skip (PF.next (CF.seq (CF.seq (CF.region (LF.step (OpOk.assign rfl) (LF.nil (PF.next (CF.block ?_))))))))
  refine CF.loop (ι := Nat) (fun k H1 => k ≤ 40 ∧ InH Fz2 H1 ∧ Kp H.size H H1 ∧ Gl (rI .i32) 21 Fz2 H1 H.size v30 (doM ((orderR (madeM s) (-1) 10).1) (startM x)) ∧ Gl (rI .i32) 21 Fz2 H1 H.size v33 (afterP (madeM s) (startM x))) (fun k => [(1, .bool b), (7, .bool true), (13, v30), (14, v33), (15, .int .i64 (↑k))]) (fun k => 40 - k) 0 ⟨by omega, hin, hkp, x30, x33⟩ ⟨rfl, rfl, rfl, rfl, eqI (by omega), trivial⟩ ?_
  clear hin hkp x30 x33
  rintro k H1 ⟨hk, hin, hkp, x30, x33⟩
  refine CF.seq (CF.seq (CF.region (LF.step (OpOk.move rfl) ?_)))
  refine LF.step (OpOk.lss rfl rfl) ?_
  refine LF.nil (PF.next ?_)
  refine CF.if rfl (fun hc6 => ?_) (fun hc6 => ?_)
  refine CF.skip (PF.next (CF.seq (CF.block (CF.seq ?_))))
  refine CF.still Try.mixed (by kernel_rfl) ?_
  refine LS.step (OpOk.move rfl) (LS.step (OpOk.move rfl) ?_)
  refine LS.step (OpOk.idxG (i := k) Try.underlying44 Try.sz21 x30 rfl rfl rfl (by first | omega | (simp only [List.length_replicate, List.length_set, List.length_append, List.length_cons, List.length_nil]; omega) | (simp only [List.length_append, List.length_take, List.length_replicate]; omega))) ?_
  refine LS.step (OpOk.ldGI x30 (by first | omega | (simp only [List.length_replicate, List.length_set, List.length_append, List.length_cons, List.length_nil]; omega) | (simp only [List.length_append, List.length_take, List.length_replicate]; omega)) Try.one21 rfl) ?_
  refine LS.step (OpOk.move rfl) (LS.step (OpOk.move rfl) ?_)
  refine LS.step (OpOk.idxG (i := k) Try.underlying44 Try.sz21 x33 rfl rfl rfl (by first | omega | (simp only [List.length_replicate, List.length_set, List.length_append, List.length_cons, List.length_nil]; omega) | (simp only [List.length_append, List.length_take, List.length_replicate]; omega))) ?_
  refine LS.step (OpOk.ldGI x33 (by first | omega | (simp only [List.length_replicate, List.length_set, List.length_append, List.length_cons, List.length_nil]; omega) | (simp only [List.length_append, List.length_take, List.length_replicate]; omega)) Try.one21 rfl) ?_
  refine LS.step (OpOk.neq rfl rfl) ?_
  refine LS.step (OpOk.move rfl) ?_
  refine LS.gstep rfl rfl (.t _) (fun hg => OpOk.move rfl) ?_
  refine LS.gstep rfl rfl (.t _) (fun hg => OpOk.neq (evg rfl hg) rfl) ?_
  refine LS.step (OpOk.pickAnd rfl rfl) ?_
  refine LS.step (OpOk.move rfl) ?_
  refine LS.gstep rfl rfl (.t _) (fun hg => OpOk.move rfl) ?_
  refine LS.gstep rfl rfl (.t _) (fun hg => OpOk.neq (evg rfl hg) rfl) ?_
  refine LS.step (OpOk.pickAnd rfl rfl) ?_
  refine LS.step (OpOk.move rfl) ?_
  refine LS.gstep rfl rfl (.t _) (fun hg => OpOk.move rfl) ?_
  refine LS.gstep rfl rfl (.t _) (fun hg => OpOk.neq (evg rfl hg) rfl) ?_
  refine LS.gstep rfl rfl (.t _) (fun hg => OpOk.move (evg rfl hg)) ?_
  refine LS.gstep rfl rfl (.gf _ _) (fun hg => OpOk.move rfl) ?_
  refine LS.gstep rfl rfl (.gf _ _) (fun hg => OpOk.not (evg rfl hg)) ?_
  refine LS.gstep rfl rfl (.t _) (fun hg => OpOk.pickOr2 hg rfl rfl) ?_
  refine LS.step (OpOk.pickAnd rfl rfl) ?_
  refine LS.done ?_
  refine PF.next ?_
  refine CF.if rfl (fun hc7 => ?_) (fun hc7 => ?_)
  exact absurd (al_eq (.inl (by decide)) (by omega) hc7.1.1.2 hc7.1.2 (.inr (by decide))) hc7.1.1.1
  refine CF.skip (PF.blockNormal (PF.next (CF.region (LF.step (OpOk.move rfl) ?_))))
  refine LF.step (OpOk.add rfl rfl (by omega)) ?_
  refine LF.step (OpOk.assign rfl) (LF.nil ?_)
  exact PF.again (k + 1) ⟨by omega, hin, hkp, x30, x33⟩ ⟨rfl, rfl, rfl, rfl, eqI (by omega), trivial⟩ (by omega)
  refine CF.exit (PF.thenExit (PF.thenExit (PF.blockHere (PF.next (CF.seq (CF.region (LF.step (OpOk.move rfl) (LF.step (OpOk.assign rfl) (LF.nil (PF.next (CF.ret ?_)))))))))))
  have hm : (fun _ _ _ => true) s b x = true := by
    rfl
  exact PF.ret1 rfl rfl ⟨by first | (rw [hm] <;> rfl) | exact (congrArg Value.bool hm).symm, hkp⟩

end Go.Proofs.Ytcceglmmpbdhiaa
