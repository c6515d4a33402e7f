/- The statement MovesDo, from the contract of its function. Conditions: none; it is the given statement. -/
import Derived.Test.YtcceglmmpbdhiaaWL
import Derived.Test.YtcceglmmpbdhiaaJy
namespace Go.Proofs.Ytcceglmmpbdhiaa
set_option linter.unusedVariables false
set_option linter.unusedSimpArgs false
open Go.JE Go.ChangeShapes Go.WideShapes Go.ChangeAt Go.RowKit

theorem Try.own : ownKnob Try.prog.godebug = none := by kernel_rfl
theorem Try.table : TableOk Try.prog := ⟨by kernel_rfl, by kernel_rfl, by kernel_rfl⟩

set_option maxRecDepth 100000 in
theorem movesDo_lifted (os : Os) (started : os.Started) (H : Type) (enc : TypeId × Value → H) :
    ReturnsInHanded {} Try.checked os 8 .any (Rows.movesDoSpec.pre6 enc Try.prog Try.f8 Rows.movesDoRow.domain false) (Rows.movesDoSpec.post enc Try.prog Try.f8 false true false false) := by
  refine returnsInHanded_of_change (C := Try.checked) Try.own started (by kernel_rfl) Try.func8
    (ChangeSpec.witness6 (enc := enc) (C := Try.checked) false ⟨#[], #[.slice none 0 0, .slice none 0 0, .slice none 0 0], []⟩ 8 (by kernel_rfl) (by kernel_rfl) (by kernel_rfl) (by kernel_rfl)) ?_
  intro W base args ds gs before hval0 hW hcnd _
  have hval : ∀ (j : Nat) t v, Try.f8.params[j]? = some t → args[j]? = some v → Value.okWide Try.prog W .any base t v := hval0
  have hW' := hW
  obtain ⟨p, q, hA0, hV, rfl, hfz, hnd⟩ := hW
  have hA : DataW.TrodAll enc Try.prog W 0 (fun _ => true) true Try.f8.params.toList args.toList ds p := hA0
  have hpar : Try.f8.params = #[34, 22, 44] := by kernel_rfl
  rw [hpar] at hA hval
  obtain ⟨v0, v1, v2, d0, d1, d2, p0, p1, p2, rfl, rfl, rfl, h0, h1, h2⟩ := trodAll_three hA
  obtain ⟨a0, l0, c0, rfl⟩ := okWide_slice (by kernel_rfl : Try.prog.underlying 34 = some (.slice 39)) (hval 0 34 v0 rfl rfl)
  obtain ⟨m0, o0⟩ := Opens.arg1 (Opens.slice Try.underlying34 rMach.opens (by kernel_rfl) (by decide)) rfl rfl h0
  obtain ⟨a1, l1, c1, rfl⟩ := okWide_slice (by kernel_rfl : Try.prog.underlying 22 = some (.slice 31)) (hval 1 22 v1 rfl rfl)
  obtain ⟨m1, o1⟩ := Opens.arg1 (Opens.slice Try.underlying22 rMove.opens (by kernel_rfl) (by decide)) rfl rfl h1
  obtain ⟨a2, l2, c2, rfl⟩ := okWide_slice (by kernel_rfl : Try.prog.underlying 44 = some (.slice 21)) (hval 2 44 v2 rfl rfl)
  obtain ⟨m2, o2⟩ := Opens.arg1 (Opens.slice Try.underlying44 (Opens.int Try.underlying21) (by kernel_rfl) (by decide)) rfl rfl h2
  clear hA0 hval0 hcnd
  exact Ct.said Try.table (by kernel_rfl) rfl (by kernel_rfl) rfl rfl hW' (movesDo_ct (inH_heapF W) o0 o1 o2)

theorem movesDo_proved : Rows.MovesDoSaid :=
  OpenClaim.holds_of_wide 8 Try.f8 rfl rfl rfl rfl rfl rfl rfl ⟨rfl, rfl, rfl, rfl, rfl⟩ rfl rfl rfl rfl rfl (by kernel_rfl) Try.func8 (by kernel_rfl)
    (of_decide_eq_true (by kernel_rfl)) (by unfold Func.isWrapper; first | (rw [if_pos (by decide +kernel)]; kernel_rfl) | (rw [if_neg (by decide +kernel)]; exact ⟨rfl, rfl⟩))
    (fun os started H enc _ => movesDo_lifted os started H enc)
#print axioms movesDo_proved
end Go.Proofs.Ytcceglmmpbdhiaa
