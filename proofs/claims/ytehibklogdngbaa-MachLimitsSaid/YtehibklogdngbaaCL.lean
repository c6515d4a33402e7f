/- The statement MachLimits, from the contract of its function. Conditions: none; it is the given statement. -/
import Derived.Test.YtehibklogdngbaaWL
import Derived.Test.YtehibklogdngbaaJy
namespace Go.Proofs.Ytehibklogdngbaa
set_option linter.unusedVariables false
set_option linter.unusedSimpArgs false
open Go.JE Go.ChangeShapes Go.WideShapes Go.ChangeAt Go.RowKit

theorem Try.own : ownKnob Try.prog.godebug = none := by kernel_rfl
theorem Try.table : TableOk Try.prog := ⟨by kernel_rfl, by kernel_rfl, by kernel_rfl⟩

set_option maxRecDepth 100000 in
theorem machLimits_lifted (os : Os) (started : os.Started) (H : Type) (enc : TypeId × Value → H) :
    ReturnsInHanded {} Try.checked os 6 .any (Rows.machLimitsSpec.pre6 enc Try.prog Try.f6 Rows.machLimitsRow.domain false) (Rows.machLimitsSpec.post enc Try.prog Try.f6 false true false false) := by
  refine returnsInHanded_of_change (C := Try.checked) Try.own started (by kernel_rfl) Try.func6
    (ChangeSpec.witness6 (enc := enc) (C := Try.checked) false ⟨#[], #[.int .u8 0, .int .u8 0], []⟩ 8 (by kernel_rfl) (by kernel_rfl) (by kernel_rfl) (by kernel_rfl)) ?_
  intro W base args ds gs before hval0 hW hcnd _
  have hval : ∀ (j : Nat) t v, Try.f6.params[j]? = some t → args[j]? = some v → Value.okWide Try.prog W .any base t v := hval0
  have hW' := hW
  obtain ⟨p, q, hA0, hV, rfl, hfz, hnd⟩ := hW
  have hA : DataW.TrodAll enc Try.prog W 0 (fun _ => true) true Try.f6.params.toList args.toList ds p := hA0
  have hpar : Try.f6.params = #[5, 5] := by kernel_rfl
  rw [hpar] at hA hval
  obtain ⟨v0, v1, d0, d1, p0, p1, rfl, rfl, rfl, h0, h1⟩ := trodAll_two hA
  obtain ⟨z0, e0, _, _, w0⟩ := open_int (by kernel_rfl : Try.prog.underlying 5 = some (.int .u8)) (hval 0 5 v0 rfl rfl) h0
  subst e0
  obtain ⟨z1, e1, _, _, w1⟩ := open_int (by kernel_rfl : Try.prog.underlying 5 = some (.int .u8)) (hval 1 5 v1 rfl rfl) h1
  subst e1
  clear hA0 hval0 hcnd
  exact Ct.said Try.table (by kernel_rfl) rfl (by kernel_rfl) rfl rfl hW' (machLimits_ct (inH_heapF W) z0 z1 (Go.JE.wf_wrap w0) (Go.JE.wf_wrap w1))

theorem machLimits_proved : Rows.MachLimitsSaid :=
  OpenClaim.holds_of_wide 6 Try.f6 rfl rfl rfl rfl rfl rfl rfl ⟨rfl, rfl, rfl, rfl, rfl⟩ rfl rfl rfl rfl rfl (by kernel_rfl) Try.func6 (by kernel_rfl)
    (of_decide_eq_true (by kernel_rfl)) (by unfold Func.isWrapper; first | (rw [if_pos (by decide +kernel)]; kernel_rfl) | (rw [if_neg (by decide +kernel)]; exact ⟨rfl, rfl⟩))
    (fun os started H enc _ => machLimits_lifted os started H enc)
#print axioms machLimits_proved
end Go.Proofs.Ytehibklogdngbaa
