/- The statement MachRaw, from the contract of its function. Conditions: none; it is the given statement. -/
import Derived.Test.YtehibklogdngbaaWR
import Derived.Test.YtehibklogdngbaaJy
namespace Go.Proofs.Ytehibklogdngbaa
set_option linter.unusedVariables false
set_option linter.unusedSimpArgs false
open Go.JE Go.ChangeShapes Go.WideShapes Go.ChangeAt Go.RowKit

theorem Try.own : ownKnob Try.prog.godebug = none := by kernel_rfl
theorem Try.table : TableOk Try.prog := ⟨by kernel_rfl, by kernel_rfl, by kernel_rfl⟩

set_option maxRecDepth 100000 in
theorem machRaw_lifted (os : Os) (started : os.Started) (H : Type) (enc : TypeId × Value → H) :
    ReturnsInHanded {} Try.checked os 3 .any (Rows.machRawSpec.pre6 enc Try.prog Try.f3 Rows.machRawRow.domain false) (Rows.machRawSpec.post enc Try.prog Try.f3 false true false false) := by
  refine returnsInHanded_of_change (C := Try.checked) Try.own started (by kernel_rfl) Try.func3
    (ChangeSpec.witness6 (enc := enc) (C := Try.checked) false ⟨#[], #[.agg #[.int .i64 0, .slice none 0 0], .agg #[.slice none 0 0, .slice none 0 0, .slice none 0 0, .int .i64 0]], []⟩ 8 (by kernel_rfl) (by kernel_rfl) (by kernel_rfl) (by kernel_rfl)) ?_
  intro W base args ds gs before hval0 hW hcnd _
  have hval : ∀ (j : Nat) t v, Try.f3.params[j]? = some t → args[j]? = some v → Value.okWide Try.prog W .any base t v := hval0
  have hW' := hW
  obtain ⟨p, q, hA0, hV, rfl, hfz, hnd⟩ := hW
  have hA : DataW.TrodAll enc Try.prog W 0 (fun _ => true) true Try.f3.params.toList args.toList ds p := hA0
  have hpar : Try.f3.params = #[24, 27] := by kernel_rfl
  rw [hpar] at hA hval
  obtain ⟨v0, v1, d0, d1, p0, p1, rfl, rfl, rfl, h0, h1⟩ := trodAll_two hA
  obtain ⟨cs0, rfl⟩ := Opens.agg (by kernel_rfl : Try.prog.cellsOf 24 = 2) (by decide) rMFunc.opens (by decide) h0
  obtain ⟨m0, o0⟩ := Opens.argA rMFunc.opens h0
  obtain ⟨cs1, rfl⟩ := Opens.agg (by kernel_rfl : Try.prog.cellsOf 27 = 4) (by decide) rInput.opens (by decide) h1
  obtain ⟨m1, o1⟩ := Opens.argA rInput.opens h1
  clear hA0 hval0 hcnd
  exact Ct.said Try.table (by kernel_rfl) rfl (by kernel_rfl) rfl rfl hW' (machRaw_ct (inH_heapF W) o0 o1)

theorem machRaw_proved : Rows.MachRawSaid :=
  OpenClaim.holds_of_wide 3 Try.f3 rfl rfl rfl rfl rfl rfl rfl ⟨rfl, rfl, rfl, rfl, rfl⟩ rfl rfl rfl rfl rfl (by kernel_rfl) Try.func3 (by kernel_rfl)
    (of_decide_eq_true (by kernel_rfl)) (by unfold Func.isWrapper; first | (rw [if_pos (by decide +kernel)]; kernel_rfl) | (rw [if_neg (by decide +kernel)]; exact ⟨rfl, rfl⟩))
    (fun os started H enc _ => machRaw_lifted os started H enc)
#print axioms machRaw_proved
end Go.Proofs.Ytehibklogdngbaa
