/- Colours differ: the plain law. Conditions: each lemma names its own. -/
import Derived.Test.YtkhphpobccnodaaW9
namespace Go.Proofs.Ytkhphpobccnodaa
open Go.JE

theorem orderT_nodup {f : Nat → Nat → Bool} {k : Int} {n : Nat} : ∀ {j : Nat}, j ≤ n → (orderT f k n j).Nodup
  | 0, _ => by simp [orderT]
  | j + 1, hj => by
    obtain ⟨p, h1, h2, h3⟩ := orderT_pick (f := f) (k := k) (show j < n by omega)
    rw [orderT_snoc h1, List.nodup_append]
    refine ⟨orderT_nodup (by omega), by simp, ?_⟩
    intro a ha b hb e1
    simp only [List.mem_singleton] at hb
    subst hb; subst e1; exact h3 ha
theorem orderT_all {f : Nat → Nat → Bool} {k : Int} {n x : Nat} (hx : x < n) : x ∈ orderT f k n n := by
  refine Classical.byContradiction fun h => ?_
  have h1 : (x :: orderT f k n n).Nodup := List.nodup_cons.2 ⟨h, orderT_nodup (Nat.le_refl n)⟩
  have h2 : (x :: orderT f k n n) ⊆ List.range n := by
    intro y hy
    rcases List.mem_cons.1 hy with h3 | h3
    · subst h3; exact List.mem_range.2 hx
    · exact List.mem_range.2 (orderT_in (Nat.le_refl n) y h3)
  have h3 := List.Nodup.length_le_of_subset h1 h2
  simp [orderT_len] at h3
  omega
/-- what holds of the nodes of R, painted from the last on -/
structure Painted (f : Nat → Nat → Bool) (k : Int) (n : Nat) (R : List Nat) (out : Nat → Int) : Prop where
  rest : ∀ x, x ∉ R → out x = -1
  range : ∀ x, -1 ≤ out x ∧ (0 ≤ out x → out x < k)
  differ : ∀ x y, x ∈ R → y ∈ R → f x y = true → 0 ≤ out x → out x ≠ out y
  full : ∀ x, x ∈ R → out x < 0 → ∀ c : Nat, (c : Int) < k → ∃ y, y ∈ R ∧ f x y = true ∧ out y = c
theorem painted {f : Nat → Nat → Bool} {k : Int} {n : Nat} (hs : ∀ i j, f i j = f j i) (hi : ∀ i, f i i = false) : ∀ (R : List Nat), R.Nodup → (∀ x ∈ R, x < n) → Painted f k n R (colT f k n R)
  | [], _, _ => ⟨fun _ _ => rfl, fun _ => ⟨Int.le_refl _, fun h => by simp [colT] at h⟩, fun _ _ h => by simp at h, fun _ h => by simp at h⟩
  | a :: R, hn, hlt => by
    obtain ⟨haR, hnR⟩ := List.nodup_cons.1 hn
    have ih := painted (k := k) hs hi R hnR (fun x hx => hlt x (List.mem_cons_of_mem _ hx))
    rw [colT_cons]
    generalize colT f k n R = out at ih ⊢
    unfold paintS
    rcases fstS_spec (p := fun c => !usedS f out a c n) (n := k.toNat) with ⟨c, h1, h2, h3, h4⟩ | ⟨h1, h2⟩
    · rw [h1]
      have hfree : ∀ b, b < n → f a b = true → out b ≠ c := fun b hb hf e1 => by
        have : usedS f out a c n = true := usedS_iff.2 ⟨b, hb, hf, e1⟩
        simp [this] at h3
      refine ⟨fun x hx => ?_, fun x => ?_, fun x y hx hy hf h0 => ?_, fun x hx h0 c' hc' => ?_⟩
      · have hxa : x ≠ a := fun e1 => hx (by simp [e1])
        simp only [if_neg hxa]; exact ih.rest x (fun h => hx (List.mem_cons_of_mem _ h))
      · by_cases e1 : x = a
        · simp only [if_pos e1]; omega
        · simp only [if_neg e1]; exact ih.range x
      · by_cases e1 : x = a
        · by_cases e2 : y = a
          · rw [e1, e2, hi] at hf; cases hf
          · have hyR : y ∈ R := (List.mem_cons.1 hy).resolve_left e2
            simp only [if_pos e1, if_neg e2]
            rw [e1] at hf
            exact fun e3 => hfree y (hlt y hy) hf e3.symm
        · have hxR : x ∈ R := (List.mem_cons.1 hx).resolve_left e1
          by_cases e2 : y = a
          · simp only [if_neg e1, if_pos e2]
            rw [e2, hs] at hf
            exact hfree x (hlt x hx) hf
          · have hyR : y ∈ R := (List.mem_cons.1 hy).resolve_left e2
            simp only [if_neg e1, if_neg e2] at h0 ⊢
            exact ih.differ x y hxR hyR hf h0
      · by_cases e1 : x = a
        · simp only [if_pos e1] at h0; omega
        · have hxR : x ∈ R := (List.mem_cons.1 hx).resolve_left e1
          simp only [if_neg e1] at h0
          obtain ⟨y, hy, hf, ho⟩ := ih.full x hxR h0 c' hc'
          have hya : y ≠ a := fun e2 => haR (by rw [← e2]; exact hy)
          exact ⟨y, List.mem_cons_of_mem _ hy, hf, by simp only [if_neg hya]; exact ho⟩
    · rw [h1]
      show Painted f k n (a :: R) out
      have hall : ∀ c : Nat, (c : Int) < k → ∃ b, b < n ∧ f a b = true ∧ out b = c := fun c hc => by
        have := h2 c (by omega)
        simp only [Bool.not_eq_false'] at this
        exact usedS_iff.1 this
      have hin : ∀ b, 0 ≤ out b → b ∈ R := fun b hb => Classical.byContradiction fun h => by rw [ih.rest b h] at hb; omega
      refine ⟨fun x hx => ih.rest x (fun h => hx (List.mem_cons_of_mem _ h)), ih.range, fun x y hx hy hf h0 => ?_, fun x hx h0 c' hc' => ?_⟩
      · have hxR := hin x h0
        by_cases e2 : y = a
        · subst e2
          rw [ih.rest y haR]; omega
        · exact ih.differ x y hxR ((List.mem_cons.1 hy).resolve_left e2) hf h0
      · by_cases e1 : x = a
        · subst e1
          obtain ⟨b, hb, hf, ho⟩ := hall c' hc'
          exact ⟨b, List.mem_cons_of_mem _ (hin b (by omega)), hf, ho⟩
        · obtain ⟨y, hy, hf, ho⟩ := ih.full x ((List.mem_cons.1 hx).resolve_left e1) h0 c' hc'
          exact ⟨y, List.mem_cons_of_mem _ hy, hf, ho⟩
theorem painted_all (n : Nat) (es : List (Int × Int)) (k : Int) : Painted (adjS n es) k n (orderT (adjS n es) k n n) (colT (adjS n es) k n (orderT (adjS n es) k n n)) :=
  painted (fun i j => adjT_sym _ _ _ _ _) (fun i => adjT_irr _ _ _ _) _ (orderT_nodup (Nat.le_refl n)) (orderT_in (Nat.le_refl n))
/-- which colours the first b nodes beside a have -/
def seenS (f : Nat → Nat → Bool) (out : Nat → Int) (a : Nat) (b : Nat) (c : Int) : Bool := anyS (fun y => (f a y && decide (0 ≤ out y)) && decide (out y = c)) b
theorem seen_len {f : Nat → Nat → Bool} {out : Nat → Int} {a n : Nat} {k : Int} {U : List (Int × Value)} (hn : (U.map (·.1)).Nodup) (hU : ∀ c, lkM U c = if seenS f out a n c = true then some (.bool true) else none)
    (hr : ∀ x, 0 ≤ out x → out x < k) (hfull : ∀ c : Nat, (c : Int) < k → ∃ y, y < n ∧ f a y = true ∧ out y = c) (hk : 0 ≤ k) : (U.length : Int) = k := by
  have h1 : AdL U k.toNat (fun _ => true) := by
    intro c
    rw [hU c]
    by_cases h2 : 0 ≤ c ∧ c < k
    · obtain ⟨y, h3, h4, h5⟩ := hfull c.toNat (by omega)
      have h6 : seenS f out a n c = true := anyS_iff.2 ⟨y, h3, by simp only [Bool.and_eq_true, decide_eq_true_eq]; exact ⟨⟨h4, by omega⟩, by omega⟩⟩
      rw [if_pos h6, if_pos ⟨by omega, by omega, rfl⟩]
    · have h6 : ¬ seenS f out a n c = true := by
        intro h7
        obtain ⟨y, _, h8⟩ := anyS_iff.1 h7
        simp only [Bool.and_eq_true, decide_eq_true_eq] at h8
        have := hr y h8.1.2
        omega
      rw [if_neg h6, if_neg (by omega)]
  have h2 := h1.cnt hn
  have h3 : ∀ m, cntS (fun _ => true) m = m := fun m => by induction m with | zero => rfl | succ m ih => simp [cntS, ih]
  rw [h3] at h2
  omega
theorem deg_full {f : Nat → Nat → Bool} {out : Nat → Int} {a n : Nat} {k : Int} (hfull : ∀ c : Nat, (c : Int) < k → ∃ y, y < n ∧ f a y = true ∧ out y = c) (hk : 0 ≤ k) : k ≤ (cntS (fun y => f a y) n : Nat) := by
  have h1 := pigeon k.toNat (((List.range n).filter (fun y => f a y)).map (fun y => (out y).toNat)) (fun c hc => by
    obtain ⟨y, h2, h3, h4⟩ := hfull c (by omega)
    exact List.mem_map.2 ⟨y, List.mem_filter.2 ⟨List.mem_range.2 h2, h3⟩, by omega⟩)
  rw [List.length_map] at h1
  have h2 := degS_cnt f a n
  have h3 := cntS_deg (fun y => f a y) a n
  have h4 : degS (fun _ y => f a y) (fun _ => true) a n = degS f (fun _ => true) a n := by
    have : ∀ m, degS (fun _ y => f a y) (fun _ => true) a m = degS f (fun _ => true) a m := fun m => by induction m with | zero => rfl | succ m ih => simp [degS, ih]
    exact this n
  omega
end Go.Proofs.Ytkhphpobccnodaa
