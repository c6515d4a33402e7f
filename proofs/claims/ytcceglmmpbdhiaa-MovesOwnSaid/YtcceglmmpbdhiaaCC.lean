/- The statement MovesOwn, from the contract of its function. Conditions: none; it is the given statement. -/
import Derived.Test.YtcceglmmpbdhiaaWM
import Derived.Test.YtcceglmmpbdhiaaJy
namespace Go.Proofs.Ytcceglmmpbdhiaa
set_option linter.unusedVariables false
set_option linter.unusedSimpArgs false
open Go.JE Go.ChangeShapes Go.WideShapes Go.ChangeAt Go.RowKit

theorem Try.own : ownKnob Try.prog.godebug = none := by kernel_rfl
theorem Try.table : TableOk Try.prog := ⟨by kernel_rfl, by kernel_rfl, by kernel_rfl⟩

set_option maxRecDepth 100000 in
theorem movesOwn_lifted (os : Os) (started : os.Started) (H : Type) (enc : TypeId × Value → H) :
    ReturnsInHanded {} Try.checked os 10 .any (Rows.movesOwnSpec.pre6 enc Try.prog Try.f10 Rows.movesOwnRow.domain false) (Rows.movesOwnSpec.post enc Try.prog Try.f10 false true false false) := by
  refine returnsInHanded_of_change (C := Try.checked) Try.own started (by kernel_rfl) Try.func10
    (ChangeSpec.witness6 (enc := enc) (C := Try.checked) false ⟨#[], #[.slice none 0 0, .slice none 0 0], []⟩ 8 (by kernel_rfl) (by kernel_rfl) (by kernel_rfl) (by kernel_rfl)) ?_
  intro W base args ds gs before hval0 hW hcnd _
  have hval : ∀ (j : Nat) t v, Try.f10.params[j]? = some t → args[j]? = some v → Value.okWide Try.prog W .any base t v := hval0
  have hW' := hW
  obtain ⟨p, q, hA0, hV, rfl, hfz, hnd⟩ := hW
  have hA : DataW.TrodAll enc Try.prog W 0 (fun _ => true) true Try.f10.params.toList args.toList ds p := hA0
  have hpar : Try.f10.params = #[23, 44] := by kernel_rfl
  rw [hpar] at hA hval
  obtain ⟨v0, v1, d0, d1, p0, p1, rfl, rfl, rfl, h0, h1⟩ := trodAll_two hA
  obtain ⟨a0, l0, c0, rfl⟩ := okWide_slice (by kernel_rfl : Try.prog.underlying 23 = some (.slice 3)) (hval 0 23 v0 rfl rfl)
  obtain ⟨m0, o0⟩ := Opens.arg1 (Opens.slice Try.underlying23 (Opens.int Try.underlying3) (by kernel_rfl) (by decide)) rfl rfl h0
  obtain ⟨a1, l1, c1, rfl⟩ := okWide_slice (by kernel_rfl : Try.prog.underlying 44 = some (.slice 21)) (hval 1 44 v1 rfl rfl)
  obtain ⟨m1, o1⟩ := Opens.arg1 (Opens.slice Try.underlying44 (Opens.int Try.underlying21) (by kernel_rfl) (by decide)) rfl rfl h1
  clear hA0 hval0 hcnd
  exact Ct.said Try.table (by kernel_rfl) rfl (by kernel_rfl) rfl rfl hW' (movesOwn_ct (inH_heapF W) o0 o1)

theorem movesOwn_proved : Rows.MovesOwnSaid :=
  OpenClaim.holds_of_wide 10 Try.f10 rfl rfl rfl rfl rfl rfl rfl ⟨rfl, rfl, rfl, rfl, rfl⟩ rfl rfl rfl rfl rfl (by kernel_rfl) Try.func10 (by kernel_rfl)
    (of_decide_eq_true (by kernel_rfl)) (by unfold Func.isWrapper; first | (rw [if_pos (by decide +kernel)]; kernel_rfl) | (rw [if_neg (by decide +kernel)]; exact ⟨rfl, rfl⟩))
    (fun os started H enc _ => movesOwn_lifted os started H enc)
#print axioms movesOwn_proved
end Go.Proofs.Ytcceglmmpbdhiaa
