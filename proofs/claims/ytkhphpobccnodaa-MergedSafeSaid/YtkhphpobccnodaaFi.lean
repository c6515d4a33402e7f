/- Classes of nodes: the words. Conditions: none. -/
import Derived.Test.YtkhphpobccnodaaW4
namespace Go.Proofs.Ytkhphpobccnodaa
open Go.JE

/-- how many below n have p -/
def cntS (p : Nat → Bool) : Nat → Nat
  | 0 => 0
  | n + 1 => cntS p n + (if p n then 1 else 0)
/-- has one below n p? -/
def anyS (p : Nat → Bool) : Nat → Bool
  | 0 => false
  | n + 1 => anyS p n || p n
theorem anyS_iff {p : Nat → Bool} : ∀ {n : Nat}, anyS p n = true ↔ ∃ i, i < n ∧ p i = true
  | 0 => by simp [anyS]
  | n + 1 => by
    simp only [anyS, Bool.or_eq_true, anyS_iff (n := n)]
    constructor
    · rintro (⟨i, h1, h2⟩ | h)
      · exact ⟨i, by omega, h2⟩
      · exact ⟨n, by omega, h⟩
    · rintro ⟨i, h1, h2⟩
      by_cases e1 : i = n
      · subst e1; exact .inr h2
      · exact .inl ⟨i, by omega, h2⟩
theorem anyS_false {p : Nat → Bool} {n : Nat} : anyS p n = false ↔ ∀ i, i < n → p i = false := by
  rw [← Bool.not_eq_true, anyS_iff]
  constructor
  · intro h i hi
    cases h1 : p i with
    | false => rfl
    | true => exact absurd ⟨i, hi, h1⟩ h
  · rintro h ⟨i, hi, h1⟩
    rw [h i hi] at h1; cases h1
theorem cntS_yes {p : Nat → Bool} {n : Nat} (h : p n = true) : ((cntS p (n + 1) : Nat) : Int) = (cntS p n : Nat) + 1 := by simp [cntS, h]
theorem cntS_no {p : Nat → Bool} {n : Nat} (h : p n = false) : ((cntS p (n + 1) : Nat) : Int) = (cntS p n : Nat) := by simp [cntS, h]
theorem cntS_le (p : Nat → Bool) : ∀ n, cntS p n ≤ n
  | 0 => Nat.le_refl _
  | n + 1 => by have := cntS_le p n; simp only [cntS]; split <;> omega
theorem cntS_congr {p q : Nat → Bool} : ∀ {n : Nat}, (∀ i, i < n → p i = q i) → cntS p n = cntS q n
  | 0, _ => rfl
  | n + 1, h => by simp only [cntS, cntS_congr (n := n) (fun i hi => h i (by omega)), h n (by omega)]
theorem anyS_congr {p q : Nat → Bool} : ∀ {n : Nat}, (∀ i, i < n → p i = q i) → anyS p n = anyS q n
  | 0, _ => rfl
  | n + 1, h => by simp only [anyS, anyS_congr (n := n) (fun i hi => h i (by omega)), h n (by omega)]
/-- are the classes x and y neighbours? -/
def nearS (t : Nat → Nat → Bool) (l : Nat → Nat) (n x y : Nat) : Bool := anyS (fun i => anyS (fun j => (decide (l i = x) && decide (l j = y)) && t i j) n) n
theorem nearS_iff {t : Nat → Nat → Bool} {l : Nat → Nat} {n x y : Nat} : nearS t l n x y = true ↔ ∃ i j, i < n ∧ j < n ∧ l i = x ∧ l j = y ∧ t i j = true := by
  simp only [nearS, anyS_iff, Bool.and_eq_true, decide_eq_true_eq]
  constructor
  · rintro ⟨i, h1, j, h2, ⟨h3, h4⟩, h5⟩; exact ⟨i, j, h1, h2, h3, h4, h5⟩
  · rintro ⟨i, j, h1, h2, h3, h4, h5⟩; exact ⟨i, h1, j, h2, ⟨h3, h4⟩, h5⟩
/-- two classes one -/
def joinS (l : Nat → Nat) (a b : Nat) (i : Nat) : Nat := if l i = a ∨ l i = b then min a b else l i
/-- how many neighbours of the merged class c have k or more: as the document counts -/
def manyR (t : Nat → Nat → Bool) (m : Nat → Nat) (n : Nat) (k : Int) (c : Nat) : Nat → Nat :=
  cntS (fun x => ((decide (m x = x) && !decide (x = c)) && nearS t m n x c) && decide (k ≤ (cntS (fun y => (decide (m y = y) && !decide (y = x)) && nearS t m n x y) n : Nat)))
def mayR (t : Nat → Nat → Bool) (l : Nat → Nat) (n : Nat) (k : Int) (a b : Nat) : Bool :=
  !decide (a = b) && (!nearS t l n a b && decide ((manyR t (joinS l a b) n k (min a b) n : Int) < k))
/-- a row of nodes -/
def Nt (H : Heap) (B : Nat) (v : Value) (n : Nat) (l : Nat → Nat) : Prop := Sl H B v 1 n (fun i => .int .i64 (l i : Nat))
/-- one move -/
def stepS (t : Nat → Nat → Bool) (n : Nat) (k : Int) (s : (Nat → Nat) × Bool) (m : Int × Int) : (Nat → Nat) × Bool :=
  if (0 ≤ m.1 ∧ m.1 < n ∧ 0 ≤ m.2 ∧ m.2 < n) ∧ mayR t s.1 n k (s.1 m.1.toNat) (s.1 m.2.toNat) = true then (joinS s.1 (s.1 m.1.toNat) (s.1 m.2.toNat), true) else s
def passT (t : Nat → Nat → Bool) (n : Nat) (k : Int) (ms : List (Int × Int)) (l : Nat → Nat) (j : Nat) : (Nat → Nat) × Bool := (ms.take j).foldl (stepS t n k) (l, false)
def passS (t : Nat → Nat → Bool) (n : Nat) (k : Int) (ms : List (Int × Int)) (l : Nat → Nat) : (Nat → Nat) × Bool := passT t n k ms l ms.length
def runS (t : Nat → Nat → Bool) (n : Nat) (k : Int) (ms : List (Int × Int)) : Nat → (Nat → Nat) → (Nat → Nat)
  | 0, l => l
  | f + 1, l => bif (passS t n k ms l).2 then runS t n k ms f (passS t n k ms l).1 else (passS t n k ms l).1
def mergedF (t : Nat → Nat → Bool) (n : Nat) (k : Int) (ms : List (Int × Int)) : Nat → Nat := runS t n k ms (n + 1) (fun i => i)
def mergedS (t : Nat → Nat → Bool) (n : Nat) (k : Int) (ms : List (Int × Int)) : List Int := (List.range n).map (fun i => (mergedF t n k ms i : Int))
theorem passT_snoc (t : Nat → Nat → Bool) (n : Nat) (k : Int) (ms : List (Int × Int)) (l : Nat → Nat) (j : Nat) (hj : j < ms.length) : passT t n k ms l (j + 1) = stepS t n k (passT t n k ms l j) (ms.getD j (0, 0)) := by
  unfold passT
  rw [List.take_succ_eq_append_getElem hj, List.foldl_append]; simp [List.getD, hj]

/- what holds of classes -/
structure Ok (t : Nat → Nat → Bool) (n : Nat) (l : Nat → Nat) : Prop where
  le : ∀ i, i < n → l i ≤ i
  idem : ∀ i, i < n → l (l i) = l i
  sep : ∀ i j, i < n → j < n → t i j = true → l i ≠ l j
theorem Ok.join {t : Nat → Nat → Bool} {n : Nat} {l : Nat → Nat} (h : Ok t n l) (hs : ∀ i j, t i j = t j i) {a b : Nat} (ha : a < n) (hb : b < n) (la : l a = a) (lb : l b = b) (hab : a ≠ b) (hnear : nearS t l n a b = false) : Ok t n (joinS l a b) := by
  have hno : ∀ i j, i < n → j < n → t i j = true → ¬ (l i = a ∧ l j = b) := fun i j hi hj ht h9 => by
    have : nearS t l n a b = true := nearS_iff.2 ⟨i, j, hi, hj, h9.1, h9.2, ht⟩
    rw [hnear] at this; cases this
  have hmin : l (min a b) = min a b := by rcases Nat.le_total a b with h1 | h1 <;> simp [Nat.min_eq_left, Nat.min_eq_right, h1, la, lb]
  have hmm : min a b = a ∨ min a b = b := by omega
  refine ⟨fun i hi => ?_, fun i hi => ?_, fun i j hi hj ht => ?_⟩
  · have := h.le i hi
    unfold joinS; split <;> omega
  · unfold joinS
    by_cases h1 : l i = a ∨ l i = b
    · rw [if_pos h1, hmin, if_pos hmm]
    · rw [if_neg h1, h.idem i hi, if_neg h1]
  · have h1 := h.sep i j hi hj ht
    have h2 := hno i j hi hj ht
    have h3 := hno j i hj hi (by rw [hs]; exact ht)
    unfold joinS
    by_cases h4 : l i = a ∨ l i = b <;> by_cases h5 : l j = a ∨ l j = b
    · exfalso; omega
    · rw [if_pos h4, if_neg h5]; omega
    · rw [if_neg h4, if_pos h5]; omega
    · rw [if_neg h4, if_neg h5]; exact h1
/-- the classes' names -/
def repsS (l : Nat → Nat) (n : Nat) : Nat := cntS (fun i => decide (l i = i)) n
theorem cntS_lt {p q : Nat → Bool} {b : Nat} : ∀ {n : Nat}, b < n → (∀ i, i < n → p i = true → q i = true) → p b = false → q b = true → cntS p n < cntS q n
  | 0, hb, _, _, _ => by omega
  | n + 1, hb, h, h1, h2 => by
    have hle : ∀ m, (∀ i, i < m → p i = true → q i = true) → cntS p m ≤ cntS q m := by
      intro m
      induction m with
      | zero => intro _; exact Nat.le_refl _
      | succ m ih =>
        intro h
        have h3 := ih (fun i hi => h i (by omega))
        have h4 := h m (by omega)
        simp only [cntS]
        cases h5 : p m with
        | true => rw [h4 h5]; simp; omega
        | false => simp; omega
    by_cases e1 : b = n
    · subst e1
      have := hle b (fun i hi => h i (by omega))
      simp only [cntS, h1, h2]; simp; omega
    · have := cntS_lt (p := p) (q := q) (n := n) (b := b) (by omega) (fun i hi => h i (by omega)) h1 h2
      have h4 := h n (by omega)
      simp only [cntS]
      cases h5 : p n with
      | true => rw [h4 h5]; simp; omega
      | false => simp; omega
theorem reps_join {l : Nat → Nat} {n a b : Nat} (ha : a < n) (hb : b < n) (la : l a = a) (lb : l b = b) (hab : a ≠ b) : repsS (joinS l a b) n < repsS l n := by
  refine cntS_lt (b := max a b) (by omega) (fun i hi h => ?_) ?_ ?_
  · rw [decide_eq_true_eq] at h ⊢
    unfold joinS at h
    by_cases h1 : l i = a ∨ l i = b
    · rw [if_pos h1] at h
      have : min a b = a ∨ min a b = b := by omega
      rcases this with h2 | h2
      · rw [← h, h2, la]
      · rw [← h, h2, lb]
    · rw [if_neg h1] at h; exact h
  · rw [decide_eq_false_iff_not]
    rcases Nat.le_total a b with h1 | h1
    · rw [Nat.max_eq_right h1]; unfold joinS
      rw [if_pos (.inr lb)]; omega
    · rw [Nat.max_eq_left h1]; unfold joinS
      rw [if_pos (.inl la)]; omega
  · rw [decide_eq_true_eq]
    rcases Nat.le_total a b with h1 | h1
    · rw [Nat.max_eq_right h1]; exact lb
    · rw [Nat.max_eq_left h1]; exact la
/-- a pass keeps what holds, and names no more classes; where it merged, fewer -/
theorem stepS_ok {t : Nat → Nat → Bool} {n : Nat} {k : Int} {l : Nat → Nat} {g : Bool} (h : Ok t n l) (hs : ∀ i j, t i j = t j i) (m : Int × Int) :
    Ok t n (stepS t n k (l, g) m).1 ∧ repsS (stepS t n k (l, g) m).1 n ≤ repsS l n ∧ ((stepS t n k (l, g) m).2 = true → g = true ∨ repsS (stepS t n k (l, g) m).1 n < repsS l n) := by
  unfold stepS
  by_cases hc : (0 ≤ m.1 ∧ m.1 < n ∧ 0 ≤ m.2 ∧ m.2 < n) ∧ mayR t l n k (l m.1.toNat) (l m.2.toNat) = true
  · rw [if_pos hc]
    obtain ⟨hin, hmay⟩ := hc
    simp only [mayR, Bool.and_eq_true, Bool.not_eq_true', decide_eq_false_iff_not, decide_eq_true_eq] at hmay
    have h1 := h.le m.1.toNat (by omega)
    have h2 := h.le m.2.toNat (by omega)
    have h3 := reps_join (l := l) (n := n) (a := l m.1.toNat) (b := l m.2.toNat) (by omega) (by omega) (h.idem _ (by omega)) (h.idem _ (by omega)) hmay.1
    exact ⟨h.join (a := l m.1.toNat) (b := l m.2.toNat) hs (by omega) (by omega) (h.idem _ (by omega)) (h.idem _ (by omega)) hmay.1 hmay.2.1, Nat.le_of_lt h3, fun _ => .inr h3⟩
  · rw [if_neg hc]; exact ⟨h, Nat.le_refl _, .inl⟩
theorem passT_ok {t : Nat → Nat → Bool} {n : Nat} {k : Int} {l : Nat → Nat} {ms : List (Int × Int)} (h : Ok t n l) (hs : ∀ i j, t i j = t j i) : ∀ j, j ≤ ms.length →
    Ok t n (passT t n k ms l j).1 ∧ repsS (passT t n k ms l j).1 n ≤ repsS l n ∧ ((passT t n k ms l j).2 = true → repsS (passT t n k ms l j).1 n < repsS l n)
  | 0, _ => ⟨h, Nat.le_refl _, by simp [passT]⟩
  | j + 1, hj => by
    obtain ⟨h1, h2, h3⟩ := passT_ok (k := k) (ms := ms) h hs j (by omega)
    rw [passT_snoc _ _ _ _ _ _ (by omega)]
    obtain ⟨h4, h5, h6⟩ := stepS_ok (k := k) (g := (passT t n k ms l j).2) h1 hs (ms.getD j (0, 0))
    have e1 : ((passT t n k ms l j).1, (passT t n k ms l j).2) = passT t n k ms l j := rfl
    rw [e1] at h4 h5 h6
    refine ⟨h4, by omega, fun h7 => ?_⟩
    rcases h6 h7 with h8 | h8
    · have := h3 h8; omega
    · omega
theorem ok_id {t : Nat → Nat → Bool} {n : Nat} (h : ∀ i, t i i = false) : Ok t n (fun i => i) :=
  ⟨fun i _ => Nat.le_refl _, fun _ _ => rfl, fun i j _ _ ht e1 => by have e2 : i = j := e1; subst e2; rw [h] at ht; cases ht⟩
theorem adjT_irr (n : Nat) (es : List (Int × Int)) : ∀ j a, adjT n es j a a = false
  | 0, _ => rfl
  | j + 1, a => by
    simp only [adjT, adjT_irr n es j a]
    cases h : edgeOk n (es.getD j (0, 0)) with
    | false => rfl
    | true =>
      simp only [edgeOk, decide_eq_true_eq] at h
      simp only [cond_true]
      rw [if_neg (by omega), if_neg (by omega)]
end Go.Proofs.Ytkhphpobccnodaa
