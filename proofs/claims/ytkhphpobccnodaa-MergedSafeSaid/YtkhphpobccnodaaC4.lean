/- The statement that merging makes nothing harder, from the law's contract. Conditions: none; it is the given statement. -/
import Derived.Test.YtkhphpobccnodaaWC
import Derived.Test.YtkhphpobccnodaaC2
import Derived.Test.YtkhphpobccnodaaC1
namespace Go.Proofs.Ytkhphpobccnodaa
open Go.JE Go.ChangeShapes Go.WideShapes Go.ChangeAt Go.RowKit

theorem agg2 (v : Value) (h : v.cells.toList.length = 2) : ∃ s0 s1, v = .agg #[s0, s1] := by
  cases v with
  | agg cs =>
    obtain ⟨c⟩ := cs
    have hc : c.length = 2 := h
    match c, hc with
    | [x1, x2], _ => exact ⟨x1, x2, rfl⟩
  | _ => exact absurd h (by simp [Value.cells])
set_option linter.unusedVariables false
set_option maxRecDepth 100000 in
theorem mergedSafe_lifted (os : Os) (started : os.Started) (H : Type) (enc : TypeId × Value → H) :
    ReturnsInHanded {} Try.checked os 6 .any (Rows.mergedSafeSpec.pre6 enc Try.prog Try.f6 Rows.mergedSafeRow.domain false) (Rows.mergedSafeSpec.post enc Try.prog Try.f6 false true false false) := by
  refine returnsInHanded_of_change (C := Try.checked) Try.own started (by kernel_rfl) Try.func6
    (ChangeSpec.witness6 (enc := enc) (C := Try.checked) false ⟨#[], #[.int .i64 0, .agg #[.slice none 0 0, .slice none 0 0], .int .i64 0], []⟩ 8 (by kernel_rfl) (by kernel_rfl) (by kernel_rfl) (by kernel_rfl)) ?_
  intro W base args ds gs before hval0 hW hcnd _
  have hval : ∀ (j : Nat) t v, Try.f6.params[j]? = some t → args[j]? = some v → Value.okWide Try.prog W .any base t v := hval0
  have hW' := hW
  obtain ⟨p, q, hA0, hV, rfl, hfz, hnd⟩ := hW
  have hA : DataW.TrodAll enc Try.prog W 0 (fun _ => true) true Try.f6.params.toList args.toList ds p := hA0
  rw [Try.params6] at hA hval
  obtain ⟨v0, v1, v2, d0, d1, d2, p0, p1, p2, rfl, rfl, rfl, h0, h1, h2⟩ := trodAll_three hA
  obtain ⟨N, rfl, rfl, rfl, _⟩ := open_int Try.underlying3 (hval 0 3 v0 rfl rfl) h0
  obtain ⟨k, rfl, rfl, rfl, _⟩ := open_int Try.underlying3 (hval 2 3 v2 rfl rfl) h2
  obtain ⟨fuel, hf⟩ := h1
  obtain ⟨xs9, m9, _, _, hl9, _, _⟩ := DataW.trod_array Try.underlying38 hf
  have hl2 : v1.cells.toList.length = 2 := hl9.trans (by kernel_rfl)
  obtain ⟨s0, s1, rfl⟩ := agg2 v1 hl2
  clear hl9 hl2
  obtain ⟨⟨l0, g0⟩, l1, g1⟩ := open_arr38 (x1 := s0) (x2 := s1) hf
  clear hA0 hval0 hcnd
  exact Ct.said Try.table (by kernel_rfl) rfl Try.underlying4 rfl rfl hW' (mergedSafe_ct N k g0 g1)

theorem mergedSafe_proved : Rows.MergedSafeSaid :=
  OpenClaim.holds_of_wide 6 Try.f6 rfl rfl rfl rfl rfl rfl rfl ⟨rfl, rfl, rfl, rfl, rfl⟩ rfl rfl rfl rfl rfl (by kernel_rfl) Try.func6 (by kernel_rfl)
    (of_decide_eq_true (by kernel_rfl)) (by unfold Func.isWrapper; first | (rw [if_pos (by decide +kernel)]; kernel_rfl) | (rw [if_neg (by decide +kernel)]; exact ⟨rfl, rfl⟩))
    (fun os started H enc _ => mergedSafe_lifted os started H enc)
#print axioms mergedSafe_proved
end Go.Proofs.Ytkhphpobccnodaa
