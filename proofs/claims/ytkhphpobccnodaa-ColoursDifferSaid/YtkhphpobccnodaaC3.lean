/- The statement that neighbours have different colours, from the law's contract. Conditions: none; it is the given statement. -/
import Derived.Test.YtkhphpobccnodaaWB
import Derived.Test.YtkhphpobccnodaaC1
namespace Go.Proofs.Ytkhphpobccnodaa
open Go.JE Go.ChangeShapes Go.WideShapes Go.ChangeAt Go.RowKit

set_option maxRecDepth 100000 in
theorem coloursDiffer_lifted (os : Os) (started : os.Started) (H : Type) (enc : TypeId × Value → H) :
    ReturnsInHanded {} Try.checked os 4 .any (Rows.coloursDifferSpec.pre6 enc Try.prog Try.f4 Rows.coloursDifferRow.domain false) (Rows.coloursDifferSpec.post enc Try.prog Try.f4 false true false false) := by
  refine returnsInHanded_of_change (C := Try.checked) Try.own started (by kernel_rfl) Try.func4
    (ChangeSpec.witness6 (enc := enc) (C := Try.checked) false ⟨#[], #[.int .i64 0, .slice none 0 0, .int .i64 0], []⟩ 8 (by kernel_rfl) (by kernel_rfl) (by kernel_rfl) (by kernel_rfl)) ?_
  intro W base args ds gs before hval0 hW hcnd _
  have hval : ∀ (j : Nat) t v, Try.f4.params[j]? = some t → args[j]? = some v → Value.okWide Try.prog W .any base t v := hval0
  have hW' := hW
  obtain ⟨p, q, hA0, hV, rfl, hfz, hnd⟩ := hW
  have hA : DataW.TrodAll enc Try.prog W 0 (fun _ => true) true Try.f4.params.toList args.toList ds p := hA0
  rw [Try.params4] at hA hval
  obtain ⟨v0, v1, v2, d0, d1, d2, p0, p1, p2, rfl, rfl, rfl, h0, h1, h2⟩ := trodAll_three hA
  obtain ⟨N, rfl, rfl, rfl, _⟩ := open_int Try.underlying3 (hval 0 3 v0 rfl rfl) h0
  obtain ⟨k, rfl, rfl, rfl, _⟩ := open_int Try.underlying3 (hval 2 3 v2 rfl rfl) h2
  obtain ⟨⟨a, len, cap, rfl⟩⟩ : Nonempty (∃ a len cap, v1 = .slice a len cap) := ⟨okWide_slice Try.underlying22 (hval 1 22 v1 rfl rfl)⟩
  obtain ⟨fuel, hf⟩ := h1
  obtain ⟨l, hl, _⟩ := open_sl (v := .slice a len cap) Try.underlying22 Try.underlying3 (by kernel_rfl) hf
  clear hA0 hval0 hcnd
  exact Ct.said Try.table (by kernel_rfl) rfl Try.underlying4 rfl rfl hW' (coloursDiffer_ct N k hl)

theorem coloursDiffer_proved : Rows.ColoursDifferSaid :=
  OpenClaim.holds_of_wide 4 Try.f4 rfl rfl rfl rfl rfl rfl rfl ⟨rfl, rfl, rfl, rfl, rfl⟩ rfl rfl rfl rfl rfl (by kernel_rfl) Try.func4 (by kernel_rfl)
    (of_decide_eq_true (by kernel_rfl)) (by unfold Func.isWrapper; first | (rw [if_pos (by decide +kernel)]; kernel_rfl) | (rw [if_neg (by decide +kernel)]; exact ⟨rfl, rfl⟩))
    (fun os started H enc _ => coloursDiffer_lifted os started H enc)
#print axioms coloursDiffer_proved
end Go.Proofs.Ytkhphpobccnodaa
