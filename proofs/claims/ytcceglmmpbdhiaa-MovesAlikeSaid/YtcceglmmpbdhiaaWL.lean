/- Walks. Conditions: each contract names its own. -/
import Derived.Test.YtcceglmmpbdhiaaWK
namespace Go.Proofs.Ytcceglmmpbdhiaa
set_option linter.unusedVariables false
set_option linter.unusedSimpArgs false
set_option linter.unusedSectionVars false
set_option maxRecDepth 8000
open Go.JE

theorem Try.ent21 : Ent Try.prog 21 := ⟨_, Try.func21, by kernel_rfl, by kernel_rfl⟩
theorem Try.ent22 : Ent Try.prog 22 := ⟨_, Try.func22, by kernel_rfl, by kernel_rfl⟩
theorem Try.ent23 : Ent Try.prog 23 := ⟨_, Try.func23, by kernel_rfl, by kernel_rfl⟩
theorem Try.ent24 : Ent Try.prog 24 := ⟨_, Try.func24, by kernel_rfl, by kernel_rfl⟩
theorem Try.ent25 : Ent Try.prog 25 := ⟨_, Try.func25, by kernel_rfl, by kernel_rfl⟩
-- jacquard/jacquardlaw11.MovesDo: function 8
theorem movesDo_ct {F : PH} {H : Heap} (hin : InH F H) {a0 : Value} {code : List D.Mach} {N0 : Nat} (p0 : (rLn N0 (rMachN N0)).rv F a0 code) {a1 : Value} {l : List D.Move} {N1 : Nat} (p1 : (rLn N1 rMove).rv F a1 l) {a2 : Value} {places : List Int} {N2 : Nat} (p2 : (rLn N2 (rI .i32)).rv F a2 places) :
    Ct Try.prog 8 #[a0, a1, a2] H (fun v H' => v = .bool ((fun _ _ _ => true) code l places) ∧ Kp H.size H H') := by
  have q0 := rL.len2 p0
  have q1 := rL.len2 p1
  have q2 := rL.len2 p2
  have hkp := Kp.refl H.size H
  have hx := PH.ext.refl (H := H) F
  refine Ct.enter (args := [a0, a1, a2]) Try.func8 rfl rfl rfl (fun w0 hw0 => ?_)
  refine CF.seq (CF.region (LF.step (OpOk.assign rfl) (LF.nil (PF.next (CF.seq (CF.region ?_))))))
  refine LF.call (OpCall.fn Try.ent12 rfl rfl) (awake_ct hin ) ?_
  rintro _ H12 ⟨rfl, k12⟩
  have zk12 := k12.1
  replace hin := hin.kp k12
  replace hkp := hkp.trans (k12.mono hkp.1)
  refine LF.step (OpOk.assign rfl) (LF.nil (PF.next (CF.seq (CF.region (LF.step (OpOk.move rfl) (LF.step (OpOk.move rfl) ?_))))))
  refine LF.step (OpOk.lenL Try.underlying34 p0 rfl) ?_
  refine LF.step (OpOk.min3 rfl rfl) ?_
  refine LF.step (OpOk.sliceHiL (hi := (min code.length 24)) Try.underlying34 Try.sz39 p0 hin rfl rfl (by omega) (by omega)) ?_
  refine LF.step (OpOk.assign rfl) (LF.nil (PF.next (CF.seq (CF.region (LF.step (OpOk.move rfl) (LF.step (OpOk.move rfl) ?_))))))
  refine LF.step (OpOk.lenL Try.underlying44 p2 rfl) ?_
  refine LF.step (OpOk.min3 rfl rfl) ?_
  refine LF.step (OpOk.sliceHiL (hi := (min places.length 40)) Try.underlying44 Try.sz21 p2 hin rfl rfl (by omega) (by omega)) ?_
  refine LF.step (OpOk.assign rfl) (LF.nil (PF.next (CF.seq (CF.region (LF.step (OpOk.move rfl) (LF.step (OpOk.move rfl) ?_))))))
  refine LF.call (OpCall.fn Try.ent23 rfl rfl) (pDo_ct hin (rL.ren (M := N0) (rL.hi p0 (min code.length 24) (by omega) (by omega)) (by simp only [List.length_take]; omega)) (rL.hi p2 (min places.length 40) (by omega) (by omega))) ?_
  rintro v25 H25 ⟨x25, k25⟩
  replace x25 := x25.base hkp.1
  have zk25 := k25.1
  replace hin := hin.kp k25
  replace hkp := hkp.trans (k25.mono hkp.1)
  refine LF.step (OpOk.move rfl) (LF.step (OpOk.move rfl) ?_)
  refine LF.call (OpCall.fn Try.ent24 rfl rfl) (rDo_ct hin (rL.ren (M := N0) (rL.hi p0 (min code.length 24) (by omega) (by omega)) (by simp only [List.length_take]; omega)) (rL.hi p2 (min places.length 40) (by omega) (by omega))) ?_
  rintro v28 H28 ⟨x28, k28⟩
  have ap25_28 := ap_new x25.lt x28.ge
  have ap28_25 := ap_sym ap25_28
  replace x28 := x28.base hkp.1
  have zk28 := k28.1
  replace hin := hin.kp k28
  replace hkp := hkp.trans (k28.mono hkp.1)
  replace x25 := x25.kp k28
  obtain ⟨Fz1, hxz1, lez1, hinz1, noz1, hrz1⟩ := x25.freezeX hin hx (Nat.le_refl _) (by rw [doM_len]; (try simp only [List.length_take]); omega)
  replace hin := hinz1
  replace hx := hxz1
  have le0 := lez1
  replace x28 := x28.frozen lez1 noz1 ap28_25
  refine LF.call (OpCall.fn Try.ent22 rfl rfl) (x28.temp 1073741824 hin (by rw [doM_len]; (try simp only [List.length_take]); omega) (fun G1 lg1 hin1 hr1 => words_ct hin1 (hrz1.up lg1) hr1)) ?_
  rintro _ _ ⟨rfl, rfl⟩
  refine LF.step (OpOk.assign rfl) (LF.nil (PF.next (CF.seq (CF.region (LF.step (OpOk.move rfl) ?_)))))
  refine LF.call (OpCall.fn Try.ent15 rfl rfl) (few_ct hin (p1.up le0)) ?_
  rintro v31 H31 ⟨F31, x31, i31, k31, h31⟩
  have zk31 := k31.1
  replace hx := hx.trans x31 hkp.1
  replace hkp := hkp.trans (k31.mono hkp.1)
  have l31 := hkp.1
  replace x28 := (x28.ext x31).kp k31
  replace le0 := le0.trans x31.1
  have le1 := x31.1
  have hin := i31
  have h31q := rL.len2 h31
  refine LF.step (OpOk.move rfl) ?_
  refine LF.call (OpCall.fn Try.ent21 rfl rfl) (pAfter_ct hin h31 ((rL.hi p2 (min places.length 40) (by omega) (by omega)).up le0)) ?_
  rintro v33 H33 ⟨x33, k33⟩
  have ap28_33 := ap_new x28.lt x33.ge
  have ap33_28 := ap_sym ap28_33
  replace x33 := x33.base hkp.1
  have zk33 := k33.1
  replace hin := hin.kp k33
  replace hkp := hkp.trans (k33.mono hkp.1)
  replace x28 := x28.kp k33
  refine LF.step (OpOk.move rfl) ?_
  refine LF.call (OpCall.fn Try.ent15 rfl rfl) (few_ct hin (p1.up le0)) ?_
  rintro v35 H35 ⟨F35, x35, i35, k35, h35⟩
  have zk35 := k35.1
  replace hx := hx.trans x35 hkp.1
  replace hkp := hkp.trans (k35.mono hkp.1)
  have l35 := hkp.1
  replace x28 := (x28.ext x35).kp k35
  replace x33 := (x33.ext x35).kp k35
  replace le0 := le0.trans x35.1
  replace le1 := le1.trans x35.1
  have le2 := x35.1
  have hin := i35
  have h35q := rL.len2 h35
  refine LF.step (OpOk.move rfl) ?_
  refine LF.call (OpCall.fn Try.ent25 rfl rfl) (rAfter_ct hin h35 ((rL.hi p2 (min places.length 40) (by omega) (by omega)).up le0)) ?_
  rintro v37 H37 ⟨x37, k37⟩
  have ap28_37 := ap_new x28.lt x37.ge
  have ap37_28 := ap_sym ap28_37
  have ap33_37 := ap_new x33.lt x37.ge
  have ap37_33 := ap_sym ap33_37
  replace x37 := x37.base hkp.1
  have zk37 := k37.1
  replace hin := hin.kp k37
  replace hkp := hkp.trans (k37.mono hkp.1)
  replace x28 := x28.kp k37
  replace x33 := x33.kp k37
  obtain ⟨Fz2, hxz2, lez2, hinz2, noz2, hrz2⟩ := x33.freezeX hin hx (Nat.le_refl _) (by unfold afterP; rw [afterM_len]; (try simp only [List.length_take]); omega)
  replace hin := hinz2
  replace hx := hxz2
  replace le0 := le0.trans lez2
  replace le1 := le1.trans lez2
  replace le2 := le2.trans lez2
  have le3 := lez2
  replace x28 := x28.frozen lez2 noz2 ap28_33
  replace x37 := x37.frozen lez2 noz2 ap37_33
  refine LF.call (OpCall.fn Try.ent22 rfl rfl) (x37.temp 1073741824 hin (by unfold afterP; rw [afterM_len]; (try simp only [List.length_take]); omega) (fun G1 lg1 hin1 hr1 => words_ct hin1 (hrz2.up lg1) hr1)) ?_
  rintro _ _ ⟨rfl, rfl⟩
  refine LF.step (OpOk.assign rfl) (LF.nil (PF.next (CF.seq (CF.region (LF.step (OpOk.move rfl) (LF.step (OpOk.move rfl) ?_))))))
  refine LF.gstepK rfl rfl (.t _) (OpOk.move rfl) ?_
  refine LF.step (OpOk.pickAnd rfl rfl) ?_
  refine LF.step (OpOk.move rfl) ?_
  refine LF.gstep rfl rfl (.t _) (fun hg => OpOk.move rfl) ?_
  refine LF.step (OpOk.pickAnd rfl rfl) ?_
  refine LF.step (OpOk.assign rfl) (LF.nil (PF.next (CF.ret ?_)))
  have hm : (fun _ _ _ => true) code l places = ((rowsM (doM (List.take (min code.length 24) code) (List.take (min places.length 40) places)) (doM (List.take (min code.length 24) code) (List.take (min places.length 40) places))) && (rowsM (afterP (fewM l) (List.take (min places.length 40) places)) (afterP (fewM l) (List.take (min places.length 40) places)))) := by
    exact (show true = (true && rowsM _ _ && rowsM _ _) by rw [rowsM_self, rowsM_self]; rfl)
  exact PF.ret1 rfl rfl ⟨by rw [hm] <;> rfl, hkp⟩

end Go.Proofs.Ytcceglmmpbdhiaa
