/- The statement InterpSteps, from the contract of its function. Conditions: none; it is the given statement. -/
import Derived.Test.YtmfkkodnghambaaGreatKG14
import Derived.Test.YtmfkkodnghambaaGreatKG1
set_option linter.unusedSectionVars false
set_option linter.unusedSimpArgs false
set_option linter.unusedVariables false
namespace Go.Proofs.YtmfkkodnghambaaGreat
open Go.JE Go.ChangeShapes Go.WideShapes Go.ChangeAt Go.RowKit
theorem Tryz.own : ownKnob Tryz.prog.godebug = none := by kernel_rfl
theorem Tryz.table : TableOk Tryz.prog := ⟨by kernel_rfl, by kernel_rfl, by kernel_rfl⟩
theorem Tv.said {P : Program} {f : FuncId} {args : Array Value} {D0 : List Dt} {F : PH} {H : Heap} (h : Tv P f args D0 [] (.bool true)) (hin : InH F H) (hd : AllD F D0) : Ct P f args H (fun v H' => v = .bool true ∧ Kp H.size H H') :=
  (h F H hin hd trivial).mono fun v H' ⟨i, F', h1, h2⟩ => ⟨h1, (h2 0 (Nat.zero_le _)).hw.1, fun k hk => (h2 0 (Nat.zero_le _)).hw.2 k hk id⟩
theorem ra_2u16 {F : PH} {v : Value} {l : List Int} (h : (rA 2 (rI .u16)).ra F v l) : ∃ x0 x1 : Int, v = .agg #[.int .u16 x0, .int .u16 x1] ∧ IntKind.u16.wrap x0 = x0 ∧ IntKind.u16.wrap x1 = x1 := by
  obtain ⟨vs, rfl, h1, h2, h3⟩ := h
  obtain ⟨y0, y1, rfl⟩ : ∃ y0 y1 : Int, l = [y0, y1] := by
    match l, h2 with
    | [y0, y1], _ => exact ⟨y0, y1, rfl⟩
  obtain ⟨x0, x1, rfl⟩ : ∃ x0 x1 : Value, vs = [x0, x1] := by
    match vs, h1 with
    | [x0, x1], _ => exact ⟨x0, x1, rfl⟩
  have e0 := h3 0 (by simp)
  have e1 := h3 1 (by simp)
  refine ⟨y0, y1, ?_, e0.2, e1.2⟩
  have a : ∀ i, [x0, x1].getD i undef = [x0, x1].getD i undef := fun _ => rfl
  have f0 : x0 = .int .u16 y0 := e0.1
  have f1 : x1 = .int .u16 y1 := e1.1
  rw [f0, f1]
set_option maxRecDepth 100000 in
theorem interpSteps_lifted (os : Os) (started : os.Started) (H : Type) (enc : TypeId × Value → H) :
    ReturnsInHanded {} Tryz.checked os 6 .any (Rows.interpStepsSpec.pre6 enc Tryz.prog Tryz.f6 Rows.interpStepsRow.domain false) (Rows.interpStepsSpec.post enc Tryz.prog Tryz.f6 false true false false) := by
  refine returnsInHanded_of_change (C := Tryz.checked) Tryz.own started (by kernel_rfl) Tryz.func6
    (ChangeSpec.witness6 (enc := enc) (C := Tryz.checked) false ⟨#[], #[.slice none 0 0, .slice none 0 0, .agg #[.int .u16 0, .int .u16 0]], []⟩ 8 (by kernel_rfl) (by kernel_rfl) (by kernel_rfl) (by kernel_rfl)) ?_
  intro W base args ds gs before hval0 hW hcnd _
  have hval : ∀ (j : Nat) t v, Tryz.f6.params[j]? = some t → args[j]? = some v → Value.okWide Tryz.prog W .any base t v := hval0
  have hW' := hW
  obtain ⟨p, q, hA0, hV, rfl, hfz, hnd⟩ := hW
  have hA : DataW.TrodAll enc Tryz.prog W 0 (fun _ => true) true Tryz.f6.params.toList args.toList ds p := hA0
  have hpar : Tryz.f6.params = #[22, 22, 72] := by kernel_rfl
  rw [hpar] at hA hval
  obtain ⟨v0, v1, v2, d0, d1, d2, p0, p1, p2, rfl, rfl, rfl, h0, h1, h2⟩ := trodAll_three hA
  obtain ⟨a0, l0, c0, rfl⟩ := okWide_slice (by kernel_rfl : Tryz.prog.underlying 22 = some (.slice 3)) (hval 0 22 v0 rfl rfl)
  obtain ⟨m0, o0⟩ := Opens.arg1 (Opens.slice Tryz.underlying22 (Opens.int Tryz.underlying3) (by kernel_rfl) (by decide)) rfl rfl h0
  obtain ⟨a1, l1, c1, rfl⟩ := okWide_slice (by kernel_rfl : Tryz.prog.underlying 22 = some (.slice 3)) (hval 1 22 v1 rfl rfl)
  obtain ⟨m1, o1⟩ := Opens.arg1 (Opens.slice Tryz.underlying22 (Opens.int Tryz.underlying3) (by kernel_rfl) (by decide)) rfl rfl h1
  obtain ⟨cs2, rfl⟩ := Opens.agg (by kernel_rfl : Tryz.prog.cellsOf 72 = 2) (by decide) (Opens.array Tryz.underlying72 (Opens.int Tryz.underlying71) (by kernel_rfl) (by kernel_rfl)) (by decide) h2
  obtain ⟨m2, o2⟩ := Opens.argA (Opens.array Tryz.underlying72 (Opens.int Tryz.underlying71) (by kernel_rfl) (by kernel_rfl)) h2
  obtain ⟨z20, z21, e2, w20, w21⟩ := ra_2u16 o2
  injection e2 with e2; subst e2
  clear hA0 hval0 hcnd
  exact Ct.said Tryz.table (by kernel_rfl) rfl (by kernel_rfl) rfl rfl hW' (Tv.said (interpSteps_ct z20 z21 w20 w21) (inH_heapF W) ⟨o0, o1, trivial⟩)
theorem interpSteps_proved : Rows.InterpStepsSaid :=
  OpenClaim.holds_of_wide 6 Tryz.f6 rfl rfl rfl rfl rfl rfl rfl ⟨rfl, rfl, rfl, rfl, rfl⟩ rfl rfl rfl rfl rfl (by kernel_rfl) Tryz.func6 (by kernel_rfl)
    (of_decide_eq_true (by kernel_rfl)) (by unfold Func.isWrapper; first | (rw [if_pos (by decide +kernel)]; kernel_rfl) | (rw [if_neg (by decide +kernel)]; exact ⟨rfl, rfl⟩))
    (fun os started H enc _ => interpSteps_lifted os started H enc)
#print axioms interpSteps_proved
end Go.Proofs.YtmfkkodnghambaaGreat
