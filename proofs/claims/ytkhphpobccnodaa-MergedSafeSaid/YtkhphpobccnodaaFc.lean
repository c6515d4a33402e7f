/- Colours as the document says them. Conditions: none. -/
import Derived.Test.YtkhphpobccnodaaFa
namespace Go.Proofs.Ytkhphpobccnodaa
open Go.JE

/- ------------------------------------------------ colours, as the document says -/
/-- the first number below n that has p -/
def fstS (p : Nat → Bool) : Nat → Option Nat
  | 0 => none
  | n + 1 => match fstS p n with
    | some a => some a
    | none => if p n then some n else none
theorem fstS_none {p : Nat → Bool} : ∀ {n : Nat}, (∀ i, i < n → p i = false) → fstS p n = none
  | 0, _ => rfl
  | n + 1, h => by simp [fstS, fstS_none (n := n) (fun i hi => h i (by omega)), h n (by omega)]
theorem fstS_some {p : Nat → Bool} {a : Nat} : ∀ {n : Nat}, a < n → p a = true → (∀ i, i < a → p i = false) → fstS p n = some a
  | 0, h, _, _ => by omega
  | n + 1, h, h1, h2 => by
    by_cases e1 : a = n
    · subst e1; simp [fstS, fstS_none h2, h1]
    · simp [fstS, fstS_some (n := n) (by omega) h1 h2]
theorem fstS_spec {p : Nat → Bool} : ∀ {n : Nat}, (∃ a, fstS p n = some a ∧ a < n ∧ p a = true ∧ ∀ i, i < a → p i = false) ∨ (fstS p n = none ∧ ∀ i, i < n → p i = false)
  | 0 => .inr ⟨rfl, fun i hi => by omega⟩
  | n + 1 => by
    rcases fstS_spec (p := p) (n := n) with ⟨a, h1, h2, h3, h4⟩ | ⟨h1, h2⟩
    · exact .inl ⟨a, by simp [fstS, h1], by omega, h3, h4⟩
    · by_cases e1 : p n = true
      · exact .inl ⟨n, by simp [fstS, h1, e1], by omega, e1, h2⟩
      · refine .inr ⟨by simp [fstS, h1, e1], fun i hi => ?_⟩
        by_cases e2 : i = n
        · subst e2; simpa using e1
        · exact h2 i (by omega)
/-- of the first a nodes that are there the first with the most neighbours, and how many -/
def bestS (f : Nat → Nat → Bool) (g : Nat → Bool) (n : Nat) : Nat → Int × Int
  | 0 => (-1, -1)
  | a + 1 => if g a = true ∧ (bestS f g n a).2 < degS f g a n then ((a : Int), (degS f g a n : Int)) else bestS f g n a
theorem bestS_in (f : Nat → Nat → Bool) (g : Nat → Bool) (n : Nat) : ∀ m, ((bestS f g n m) = (-1, -1) ∧ ∀ i, i < m → g i = false) ∨ (∃ p : Nat, (bestS f g n m).1 = p ∧ p < m ∧ g p = true ∧ (bestS f g n m).2 = degS f g p n)
  | 0 => .inl ⟨rfl, fun i hi => by omega⟩
  | m + 1 => by
    by_cases e1 : g m = true ∧ (bestS f g n m).2 < degS f g m n
    · refine .inr ⟨m, ?_, by omega, e1.1, ?_⟩ <;> simp [bestS, e1]
    · rcases bestS_in f g n m with ⟨h1, h2⟩ | ⟨p, h1, h2, h3, h4⟩
      · refine .inl ⟨by rw [bestS, if_neg e1, h1], fun i hi => ?_⟩
        by_cases e2 : i = m
        · subst e2
          rw [h1] at e1
          by_cases e3 : g i = true
          · exact absurd ⟨e3, by simp only; omega⟩ e1
          · simpa using e3
        · exact h2 i (by omega)
      · exact .inr ⟨p, by rw [bestS, if_neg e1, h1], by omega, h3, by rw [bestS, if_neg e1, h4]⟩
def pickS (f : Nat → Nat → Bool) (g : Nat → Bool) (n : Nat) (k : Int) : Int :=
  match fstS (fun a => g a && decide ((degS f g a n : Int) < k)) n with
  | some a => a
  | none => (bestS f g n n).1
theorem pickS_in {f : Nat → Nat → Bool} {g : Nat → Bool} {n : Nat} {k : Int} (h : ∃ i, i < n ∧ g i = true) : ∃ p : Nat, pickS f g n k = p ∧ p < n ∧ g p = true := by
  unfold pickS
  rcases fstS_spec (p := fun a => g a && decide ((degS f g a n : Int) < k)) (n := n) with ⟨a, h1, h2, h3, h4⟩ | ⟨h1, h2⟩
  · refine ⟨a, by rw [h1], h2, ?_⟩
    simp only [Bool.and_eq_true] at h3; exact h3.1
  · rw [h1]
    rcases bestS_in f g n n with ⟨_, h3⟩ | ⟨p, h3, h4, h5, _⟩
    · obtain ⟨i, hi, hg⟩ := h; rw [h3 i hi] at hg; cases hg
    · exact ⟨p, h3, h4, h5⟩
/-- which nodes are taken away, one by one -/
def orderT (f : Nat → Nat → Bool) (k : Int) (n : Nat) : Nat → List Nat
  | 0 => []
  | j + 1 => orderT f k n j ++ [(pickS f (fun a => decide (a ∉ orderT f k n j)) n k).toNat]
def thereT (f : Nat → Nat → Bool) (k : Int) (n j : Nat) (a : Nat) : Bool := decide (a ∉ orderT f k n j)
theorem orderT_len (f : Nat → Nat → Bool) (k : Int) (n : Nat) : ∀ j, (orderT f k n j).length = j
  | 0 => rfl
  | j + 1 => by simp [orderT, orderT_len f k n j]
theorem pigeon : ∀ (n : Nat) (l : List Nat), (∀ a, a < n → a ∈ l) → n ≤ l.length
  | 0, _, _ => Nat.zero_le _
  | n + 1, l, h => by
    have h1 := pigeon n (l.erase n) (fun a ha => (List.mem_erase_of_ne (by omega)).2 (h a (by omega)))
    have h2 := List.length_erase_of_mem (h n (by omega))
    have h3 : 0 < l.length := List.length_pos_of_mem (h n (by omega))
    omega
theorem orderT_pick {f : Nat → Nat → Bool} {k : Int} {n j : Nat} (hj : j < n) : ∃ p : Nat, pickS f (thereT f k n j) n k = p ∧ p < n ∧ p ∉ orderT f k n j := by
  have hex : ∃ i, i < n ∧ thereT f k n j i = true := by
    refine Classical.byContradiction fun h => ?_
    have := pigeon n (orderT f k n j) (fun a ha => Classical.byContradiction fun h1 => h ⟨a, ha, by simp [thereT, h1]⟩)
    rw [orderT_len] at this; omega
  obtain ⟨p, h1, h2, h3⟩ := pickS_in (f := f) (k := k) hex
  exact ⟨p, h1, h2, by simpa [thereT] using h3⟩
theorem orderT_in {f : Nat → Nat → Bool} {k : Int} {n : Nat} : ∀ {j : Nat}, j ≤ n → ∀ a ∈ orderT f k n j, a < n
  | 0, _, a, h => by simp [orderT] at h
  | j + 1, hj, a, h => by
    obtain ⟨p, h1, h2, _⟩ := orderT_pick (f := f) (k := k) (show j < n by omega)
    simp only [orderT, List.mem_append, List.mem_singleton] at h
    rcases h with h | h
    · exact orderT_in (by omega) a h
    · have : a = p := by rw [h]; show (pickS f (thereT f k n j) n k).toNat = p; rw [h1]; rfl
      omega
theorem orderT_snoc {f : Nat → Nat → Bool} {k : Int} {n j p : Nat} (h : pickS f (thereT f k n j) n k = p) : orderT f k n (j + 1) = orderT f k n j ++ [p] := by
  show orderT f k n j ++ [(pickS f (thereT f k n j) n k).toNat] = _
  rw [h]; rfl
theorem thereT_snoc {f : Nat → Nat → Bool} {k : Int} {n j p : Nat} (h : pickS f (thereT f k n j) n k = p) (a : Nat) : thereT f k n (j + 1) a = if a = p then false else thereT f k n j a := by
  simp only [thereT, orderT_snoc h]
  by_cases e1 : a = p <;> simp [e1]
/-- has one of the first b neighbours of a the colour c? -/
def usedS (f : Nat → Nat → Bool) (out : Nat → Int) (a : Nat) (c : Nat) : Nat → Bool
  | 0 => false
  | b + 1 => usedS f out a c b || (f a b && decide (out b = c))
def paintS (f : Nat → Nat → Bool) (k : Int) (n : Nat) (a : Nat) (out : Nat → Int) : Nat → Int :=
  match fstS (fun c => !usedS f out a c n) k.toNat with
  | some c => fun x => if x = a then (c : Int) else out x
  | none => out
def colT (f : Nat → Nat → Bool) (k : Int) (n : Nat) (l : List Nat) : Nat → Int := l.foldr (paintS f k n) (fun _ => -1)
def coloursS (f : Nat → Nat → Bool) (n : Nat) (k : Int) : List Int := (List.range n).map (colT f k n (orderT f k n n))

end Go.Proofs.Ytkhphpobccnodaa
