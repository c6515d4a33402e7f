/- How many instructions, and what lacks: plain mathematics. -/
import Derived.Test.YtcceglmmpbdhiaaM8
namespace Go.Proofs.Ytcceglmmpbdhiaa
set_option linter.unusedVariables false
set_option linter.unusedSimpArgs false
set_option linter.unusedSectionVars false
set_option maxRecDepth 8000
open Go.JE


theorem lacks_snoc {l : List D.Move} {k : Nat} (hk : k < l.length) : lacksM (l.take (k + 1)) = (lacksM (l.take k) || ((decide (16 ≤ (ix l k).To) && decide (16 ≤ (ix l k).From)) && !decide ((ix l k).To = (ix l k).From))) := any_snoc hk
def highM (c : List Int) : Bool := c.any fun p => decide (16 ≤ p)
theorem high_snoc {c : List Int} {k : Nat} (hk : k < c.length) : highM (c.take (k + 1)) = (highM (c.take k) || decide (16 ≤ ix c k)) := any_snoc hk
theorem roundM_snoc {cs : List (List Int)} {k : Nat} (hk : k < cs.length) : roundM (cs.take (k + 1)) = (roundM (cs.take k) || highM (ix cs k)) := any_snoc hk
theorem lowL_snoc {l : List D.Move} {k : Nat} (hk : k < l.length) : lowL (l.take (k + 1)) = lowL (l.take k) ++ (if (ix l k).To < 16 ∧ (ix l k).From < 16 then [ix l k] else []) := by
  unfold lowL
  rw [take_ix hk, List.filter_append]
  congr 1
  by_cases h : (ix l k).To < 16 ∧ (ix l k).From < 16
  · rw [if_pos h]; simp [List.filter, h.1, h.2]
  · rw [if_neg h]
    by_cases h1 : (ix l k).To < 16
    · have h2 : ¬ (ix l k).From < 16 := fun h9 => h ⟨h1, h9⟩
      simp [List.filter, h1, h2]
    · simp [List.filter, h1]
theorem leftM_snoc (o : List D.Move) (m : D.Move) : (leftM (o ++ [m])).length = (leftM o).length + (if m.To = m.From then 0 else 1) := by
  unfold leftM
  rw [List.filter_append, List.length_append]
  congr 1
  by_cases h : m.To = m.From <;> simp [List.filter, h]
theorem lowL_len (l : List D.Move) : (lowL l).length ≤ l.length := List.length_filter_le _ _
theorem lowL_ok (s : List Int) : okM (lowL (madeM s)) = true := (wrongM_ok (few_right s (scr := 15) (.inr rfl))).1
theorem lowL_keys (s : List Int) : (keysM (lowL (madeM s))).Nodup := (made_keys s).sublist (List.filter_sublist.map _)
theorem made_ok (s : List Int) : okM (madeM s) = true := (wrongM_ok (made_right s (scr := 15) (sp := -1) (.inr rfl) (.inl (by decide)))).1
theorem circles_len (l : List D.Move) : (circlesM l).length ≤ l.length := by
  unfold circlesM
  exact Nat.le_trans (List.length_filterMap_le _ _) (by rw [leftL_len]; exact Nat.le_refl _)

end Go.Proofs.Ytcceglmmpbdhiaa
