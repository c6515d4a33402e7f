/- Merging: the document's count and the maps' count are one. Conditions: each lemma names its own. -/
import Derived.Test.YtkhphpobccnodaaW7
namespace Go.Proofs.Ytkhphpobccnodaa
open Go.JE

theorem nearS_sym {t : Nat → Nat → Bool} (hs : ∀ i j, t i j = t j i) (l : Nat → Nat) (n x y : Nat) : nearS t l n x y = nearS t l n y x := by
  rw [Bool.eq_iff_iff, nearS_iff, nearS_iff]
  constructor
  · rintro ⟨i, j, h1, h2, h3, h4, h5⟩; exact ⟨j, i, h2, h1, h4, h3, by rw [hs]; exact h5⟩
  · rintro ⟨i, j, h1, h2, h3, h4, h5⟩; exact ⟨j, i, h2, h1, h4, h3, by rw [hs]; exact h5⟩
theorem nearS_irr {t : Nat → Nat → Bool} {n : Nat} {l : Nat → Nat} (h : Ok t n l) (x : Nat) : nearS t l n x x = false := by
  rw [← Bool.not_eq_true, nearS_iff]
  rintro ⟨i, j, h1, h2, h3, h4, h5⟩
  exact h.sep i j h1 h2 h5 (by rw [h3, h4])
theorem nearS_rep {t : Nat → Nat → Bool} {n : Nat} {l : Nat → Nat} (h : Ok t n l) {x y : Nat} (hn : nearS t l n x y = true) : l y = y ∧ y < n := by
  obtain ⟨i, j, h1, h2, h3, h4, h5⟩ := nearS_iff.1 hn
  have := h.le j h2
  exact ⟨by rw [← h4]; exact h.idem j h2, by omega⟩

section join
variable {t : Nat → Nat → Bool} {n : Nat} {l : Nat → Nat} {a b : Nat}
theorem join_c (i : Nat) (hab : a ≠ b) : joinS l a b i = min a b ↔ (l i = a ∨ l i = b) := by
  unfold joinS
  by_cases h : l i = a ∨ l i = b
  · rw [if_pos h]; exact ⟨fun _ => h, fun _ => rfl⟩
  · rw [if_neg h]; constructor
    · intro h2; exfalso; omega
    · intro h2; exact absurd h2 h
theorem join_o (i : Nat) {x : Nat} (hx : x ≠ a ∧ x ≠ b) : joinS l a b i = x ↔ l i = x := by
  unfold joinS
  by_cases h : l i = a ∨ l i = b
  · rw [if_pos h]; constructor <;> intro h2 <;> exfalso <;> omega
  · rw [if_neg h]
theorem join_m (i : Nat) (hab : a ≠ b) : joinS l a b i ≠ max a b := by
  unfold joinS
  by_cases h : l i = a ∨ l i = b
  · rw [if_pos h]; omega
  · rw [if_neg h]; omega
/-- who is beside whom, merged -/
theorem near_oo {x y : Nat} (hx : x ≠ a ∧ x ≠ b) (hy : y ≠ a ∧ y ≠ b) : nearS t (joinS l a b) n x y = nearS t l n x y := by
  rw [Bool.eq_iff_iff, nearS_iff, nearS_iff]
  simp only [join_o _ hx, join_o _ hy]
theorem near_oc {x : Nat} (hab : a ≠ b) (hx : x ≠ a ∧ x ≠ b) : nearS t (joinS l a b) n x (min a b) = (nearS t l n x a || nearS t l n x b) := by
  rw [Bool.eq_iff_iff, Bool.or_eq_true, nearS_iff, nearS_iff, nearS_iff]
  simp only [join_o _ hx, join_c _ hab]
  constructor
  · rintro ⟨i, j, h1, h2, h3, h4 | h4, h5⟩
    · exact .inl ⟨i, j, h1, h2, h3, h4, h5⟩
    · exact .inr ⟨i, j, h1, h2, h3, h4, h5⟩
  · rintro (⟨i, j, h1, h2, h3, h4, h5⟩ | ⟨i, j, h1, h2, h3, h4, h5⟩)
    · exact ⟨i, j, h1, h2, h3, .inl h4, h5⟩
    · exact ⟨i, j, h1, h2, h3, .inr h4, h5⟩
theorem near_xm {x : Nat} (hab : a ≠ b) : nearS t (joinS l a b) n x (max a b) = false := by
  rw [← Bool.not_eq_true, nearS_iff]
  rintro ⟨i, j, h1, h2, h3, h4, h5⟩
  exact join_m j hab h4
end join

theorem cntS_rm {p : Nat → Bool} {a : Nat} : ∀ {n : Nat}, a < n → cntS p n = cntS (fun y => p y && !decide (y = a)) n + (if p a = true then 1 else 0)
  | 0, h => by omega
  | n + 1, h => by
    simp only [cntS]
    by_cases e1 : n = a
    · subst e1
      have h2 : cntS (fun y => p y && !decide (y = n)) n = cntS p n := cntS_congr (fun i hi => by rw [decide_eq_false (show ¬ i = n by omega)]; simp)
      rw [h2]; simp
    · have ih := cntS_rm (p := p) (a := a) (n := n) (by omega)
      rw [ih]; simp [e1]; omega
theorem cntS_rm2 {p : Nat → Bool} {a b n : Nat} (ha : a < n) (hb : b < n) (hab : a ≠ b) : cntS p n = cntS (fun y => p y && (!decide (y = a) && !decide (y = b))) n + (if p a = true then 1 else 0) + (if p b = true then 1 else 0) := by
  rw [cntS_rm (p := p) hb, cntS_rm (p := fun y => p y && !decide (y = b)) ha]
  have h1 : cntS (fun y => (p y && !decide (y = b)) && !decide (y = a)) n = cntS (fun y => p y && (!decide (y = a) && !decide (y = b))) n := cntS_congr (fun i _ => by cases p i <;> simp [Bool.and_comm])
  rw [h1]; simp [hab]
/-- a neighbour's degree in the merged graph -/
theorem deg_join {t : Nat → Nat → Bool} {n : Nat} {l : Nat → Nat} {a b x : Nat} (ha : a < n) (hb : b < n) (hab : a ≠ b) (hx : x ≠ a ∧ x ≠ b) (hor : (nearS t l n x a || nearS t l n x b) = true) :
    ((cntS (nearS t (joinS l a b) n x) n : Nat) : Int) = (cntS (nearS t l n x) n : Nat) - (if nearS t l n x a = true ∧ nearS t l n x b = true then 1 else 0) := by
  have h1 := cntS_rm2 (p := nearS t (joinS l a b) n x) ha hb hab
  have h2 := cntS_rm2 (p := nearS t l n x) ha hb hab
  have h3 : cntS (fun y => nearS t (joinS l a b) n x y && (!decide (y = a) && !decide (y = b))) n = cntS (fun y => nearS t l n x y && (!decide (y = a) && !decide (y = b))) n := cntS_congr (fun y _ => by
    by_cases e1 : y = a
    · simp [e1]
    · by_cases e2 : y = b
      · simp [e2]
      · rw [near_oo hx ⟨e1, e2⟩])
  have hc := near_oc (t := t) (n := n) (l := l) hab hx
  have hm := near_xm (t := t) (n := n) (l := l) (x := x) hab
  rw [hor] at hc
  rw [h1, h2, h3]
  rcases Nat.lt_or_gt_of_ne hab with h | h
  · rw [Nat.min_eq_left (by omega)] at hc
    rw [Nat.max_eq_right (by omega)] at hm
    rw [hc, hm]
    cases h4 : nearS t l n x a <;> cases h5 : nearS t l n x b <;> simp [h4, h5] at hor ⊢ <;> omega
  · rw [Nat.min_eq_right (by omega)] at hc
    rw [Nat.max_eq_left (by omega)] at hm
    rw [hc, hm]
    cases h4 : nearS t l n x a <;> cases h5 : nearS t l n x b <;> simp [h4, h5] at hor ⊢ <;> omega
theorem many_eq {t : Nat → Nat → Bool} {n : Nat} {k : Int} {l : Nat → Nat} {a b : Nat} (h : Ok t n l) (hs : ∀ i j, t i j = t j i) (ha : a < n) (hb : b < n) (la : l a = a) (lb : l b = b) (hab : a ≠ b) (hnear : nearS t l n a b = false) :
    manyR t (joinS l a b) n k (min a b) n = manyS n k (nearS t l n) a b := by
  have hok := h.join hs ha hb la lb hab hnear
  have hnear' : nearS t l n b a = false := by rw [nearS_sym hs]; exact hnear
  refine cntS_congr fun x hx => ?_
  rw [Bool.eq_iff_iff]
  simp only [Bool.and_eq_true, Bool.or_eq_true, decide_eq_true_eq, Bool.not_eq_true', decide_eq_false_iff_not]
  have hdeg : ∀ x, joinS l a b x = x → cntS (fun y => (decide (joinS l a b y = y) && !decide (y = x)) && nearS t (joinS l a b) n x y) n = cntS (nearS t (joinS l a b) n x) n := fun x _ => cntS_congr fun y _ => by
    cases h9 : nearS t (joinS l a b) n x y with
    | false => simp
    | true =>
      have h8 := (nearS_rep hok h9).1
      have h7 : y ≠ x := by rintro rfl; rw [nearS_irr hok] at h9; cases h9
      simp [h8, h7]
  constructor
  · rintro ⟨⟨⟨h1, h2⟩, h3⟩, h4⟩
    have hxo : x ≠ a ∧ x ≠ b := by
      have h5 : ¬ (l x = a ∨ l x = b) := fun h5 => h2 (by rw [← h1]; exact (join_c x hab).2 h5)
      have h6 : l x = x := by unfold joinS at h1; rw [if_neg h5] at h1; exact h1
      exact ⟨fun e => h5 (.inl (by rw [h6]; exact e)), fun e => h5 (.inr (by rw [h6]; exact e))⟩
    rw [near_oc hab hxo] at h3
    have h7 := deg_join ha hb hab hxo h3
    rw [hdeg x h1, h7] at h4
    rw [Bool.or_eq_true, nearS_sym hs l n x a, nearS_sym hs l n x b] at h3
    refine ⟨h3, ?_⟩
    simp only [bigS, decide_eq_true_eq]
    rw [nearS_sym hs l n a x, nearS_sym hs l n b x]; exact h4
  · rintro ⟨h3, h4⟩
    have hxo : x ≠ a ∧ x ≠ b := by
      refine ⟨?_, ?_⟩
      · rintro rfl; rcases h3 with h3 | h3
        · rw [nearS_irr h] at h3; cases h3
        · rw [hnear'] at h3; cases h3
      · rintro rfl; rcases h3 with h3 | h3
        · rw [hnear] at h3; cases h3
        · rw [nearS_irr h] at h3; cases h3
    have hlx : l x = x := by rcases h3 with h3 | h3 <;> exact (nearS_rep h h3).1
    have h1 : joinS l a b x = x := (join_o x hxo).2 hlx
    have h5 : (nearS t l n x a || nearS t l n x b) = true := by rw [Bool.or_eq_true, nearS_sym hs l n x a, nearS_sym hs l n x b]; exact h3
    refine ⟨⟨⟨h1, by omega⟩, by rw [near_oc hab hxo]; exact h5⟩, ?_⟩
    rw [hdeg x h1, deg_join ha hb hab hxo h5]
    simp only [bigS, decide_eq_true_eq] at h4
    rw [nearS_sym hs l n a x, nearS_sym hs l n b x] at h4; exact h4
theorem jg_eq {t : Nat → Nat → Bool} {n : Nat} {l : Nat → Nat} {a b x y : Nat} (h : Ok t n l) (hs : ∀ i j, t i j = t j i) (hab : a < b) (hnear : nearS t l n a b = false) (hx : x ≠ b) : jg (nearS t l n) a b x y = nearS t (joinS l a b) n x y := by
  have hnear' : nearS t l n b a = false := by rw [nearS_sym hs]; exact hnear
  have hmin : min a b = a := by omega
  have hmax : max a b = b := by omega
  have hne : a ≠ b := by omega
  have hxb : ∀ x, nearS t (joinS l a b) n x b = false := fun x => by have := near_xm (t := t) (n := n) (l := l) (x := x) hne; rwa [hmax] at this
  have hoa : ∀ x, x ≠ a ∧ x ≠ b → nearS t (joinS l a b) n x a = (nearS t l n x a || nearS t l n x b) := fun x hx => by have := near_oc (t := t) (n := n) (l := l) hne hx; rwa [hmin] at this
  unfold jg
  by_cases e1 : x = a
  · subst e1
    rw [if_pos rfl]
    by_cases e2 : y = x
    · subst e2
      rw [nearS_irr h, hnear']
      have h9 : nearS t (joinS l y b) n y y = false := by
        rw [← Bool.not_eq_true, nearS_iff]
        rintro ⟨i, j, h1, h2, h3, h4, h5⟩
        have h6 := (join_c (l := l) i hne).1 (by rw [hmin]; exact h3)
        have h7 := (join_c (l := l) j hne).1 (by rw [hmin]; exact h4)
        have h8 := h.sep i j h1 h2 h5
        have h10 : ¬ (l i = y ∧ l j = b) := fun h11 => by rw [nearS_iff.2 ⟨i, j, h1, h2, h11.1, h11.2, h5⟩] at hnear; cases hnear
        have h12 : ¬ (l i = b ∧ l j = y) := fun h11 => by rw [nearS_iff.2 ⟨i, j, h1, h2, h11.1, h11.2, h5⟩] at hnear'; cases hnear'
        omega
      rw [h9]; rfl
    · by_cases e3 : y = b
      · subst e3; rw [hxb, hnear, nearS_irr h]; rfl
      · rw [← nearS_sym hs (joinS l x b) n y x, hoa y ⟨e2, e3⟩, nearS_sym hs l n y x, nearS_sym hs l n y b]
  · rw [if_neg e1]
    by_cases e2 : y = a
    · subst e2
      rw [hoa x ⟨e1, hx⟩, nearS_sym hs l n x b]
      cases nearS t l n b x <;> simp
    · by_cases e3 : y = b
      · subst e3
        rw [hxb, if_neg e2, if_pos rfl, nearS_sym hs l n x y]
        cases nearS t l n y x <;> simp
      · rw [near_oo ⟨e1, hx⟩ ⟨e2, e3⟩, if_neg e2, if_neg e3]; simp
theorem joinS_comm (l : Nat → Nat) (a b : Nat) : joinS l a b = joinS l b a := by
  funext i
  unfold joinS
  by_cases h : l i = a ∨ l i = b
  · rw [if_pos h, if_pos (show l i = b ∨ l i = a by omega), Nat.min_comm]
  · rw [if_neg h, if_neg (show ¬ (l i = b ∨ l i = a) by omega)]
theorem ab_facts {t : Nat → Nat → Bool} {n : Nat} {l : Nat → Nat} {a b : Nat} (hs : ∀ i j, t i j = t j i) (ha : a < n) (hb : b < n) (la : l a = a) (lb : l b = b) (hab : a ≠ b) (hnear : nearS t l n a b = false) :
    min a b < max a b ∧ max a b < n ∧ l (min a b) = min a b ∧ l (max a b) = max a b ∧ nearS t l n (min a b) (max a b) = false ∧ joinS l a b = joinS l (min a b) (max a b) := by
  rcases Nat.lt_or_gt_of_ne hab with h | h
  · rw [Nat.min_eq_left (by omega), Nat.max_eq_right (by omega)]; exact ⟨h, hb, la, lb, hnear, rfl⟩
  · rw [Nat.min_eq_right (by omega), Nat.max_eq_left (by omega)]; exact ⟨h, ha, lb, la, by rw [nearS_sym hs]; exact hnear, joinS_comm ..⟩
/-- the state while the classes are laid: all nodes have their maps -/
def MA (H : Heap) (B : Nat) (z : Ml) (n : Nat) (k : Int) (r : Nat → Option Nat) (g : Nat → Nat → Bool) (cls : Nat → Nat) : Prop := MS H B z n k r g cls ∧ ∀ i, i < n → ∃ b, r i = some b ∧ B ≤ b ∧ Ad H b n (g i)
theorem MA.setC {H : Heap} {B : Nat} {z : Ml} {n : Nat} {k : Int} {r : Nat → Option Nat} {g : Nat → Nat → Bool} {cls : Nat → Nat} (h : MA H B z n k r g cls) {b v : Nat} : MA (setc H z.c (0 + b) (.int .i64 (v : Nat))) B z n k r g (fun x => if x = b then v else cls x) := by
  obtain ⟨h, hall⟩ := h
  obtain ⟨h1, _⟩ := h.setRow (i := 0 + b) (v := .int .i64 (v : Nat)) h.rc
  have h3 : ∀ i, i < n → ∃ b', r i = some b' ∧ B ≤ b' ∧ Ad (setc H z.c (0 + b) (.int .i64 (v : Nat))) b' n (g i) := fun i hi => by
    obtain ⟨b', h4, h5, L, h6, h7⟩ := hall i hi
    exact ⟨b', h4, h5, L, h6.of (setc_other (fun e1 => Im.notRw (e1 ▸ h6) h.rc)), h7⟩
  refine ⟨⟨h1 h.hk h.ord.1, h1 h.hg (Rw.ne h.hg h.rc (by decide)), h1 h.hc (Rw.ne h.hc h.rc (by decide)), h1 h.rg (Rw.ne h.rg h.rc (by decide)), (h.rc.set).congr (fun i _ => ?_), fun i hi hc => h3 i hi, h.apart, h.ord⟩, h3⟩
  by_cases e1 : i = b
  · subst e1; rw [if_pos (by omega), if_pos rfl]
  · rw [if_neg (by omega), if_neg e1]
theorem near_id {t : Nat → Nat → Bool} {n x y : Nat} (hx : x < n) (hy : y < n) : nearS t (fun i => i) n x y = t x y := by
  rw [Bool.eq_iff_iff, nearS_iff]
  constructor
  · rintro ⟨i, j, h1, h2, h3, h4, h5⟩; rw [← h3, ← h4]; exact h5
  · intro h; exact ⟨x, y, hx, hy, rfl, rfl, h⟩
theorem may_false {t : Nat → Nat → Bool} {n : Nat} {k : Int} {l : Nat → Nat} {a b : Nat} (h : Ok t n l) (hs : ∀ i j, t i j = t j i) (ha : a < n) (hb : b < n) (la : l a = a) (lb : l b = b) (hc : (a = b ∨ nearS t l n a b = true) ∨ k ≤ (manyS n k (nearS t l n) a b : Nat)) : ¬ mayR t l n k a b = true := by
  simp only [mayR, Bool.and_eq_true, Bool.not_eq_true', decide_eq_false_iff_not, decide_eq_true_eq]
  rintro ⟨h1, h2, h3⟩
  rw [many_eq h hs ha hb la lb h1 h2] at h3
  rcases hc with (h4 | h4) | h4
  · exact h1 h4
  · rw [h2] at h4; cases h4
  · omega
theorem may_true {t : Nat → Nat → Bool} {n : Nat} {k : Int} {l : Nat → Nat} {a b : Nat} (h : Ok t n l) (hs : ∀ i j, t i j = t j i) (ha : a < n) (hb : b < n) (la : l a = a) (lb : l b = b) (h1 : a ≠ b) (h2 : nearS t l n a b = false) (h3 : ¬ k ≤ (manyS n k (nearS t l n) a b : Nat)) : mayR t l n k a b = true := by
  simp only [mayR, Bool.and_eq_true, Bool.not_eq_true', decide_eq_false_iff_not, decide_eq_true_eq]
  exact ⟨h1, h2, by rw [many_eq h hs ha hb la lb h1 h2]; omega⟩
end Go.Proofs.Ytkhphpobccnodaa
