/- Circles of moves: plain mathematics. -/
import Derived.Test.YtcceglmmpbdhiaaM5
namespace Go.Proofs.Ytcceglmmpbdhiaa
set_option linter.unusedVariables false
set_option linter.unusedSimpArgs false
set_option linter.unusedSectionVars false
set_option maxRecDepth 8000
open Go.JE


/- ---------------------------------------------- circles, as the document tells them -/
theorem source_snoc (p : Int) (m : D.Move) : ∀ (l : List D.Move) (o : Int), sourceM (l ++ [m]) p o = if m.To = p then m.From else sourceM l p o
  | [], o => rfl
  | a :: l, o => by rw [List.cons_append, sourceM, source_snoc p m l]; rfl
theorem src_snoc (l : List D.Move) (p : Int) {k : Nat} (h : k < l.length) : srcM (l.take (k + 1)) p = if (ix l k).To = p then (ix l k).From else srcM (l.take k) p := by
  unfold srcM; rw [take_ix h, source_snoc]
def takesM (l : List D.Move) (p : Int) : Int × Bool := (if srcM l p < 0 then 0 else srcM l p, decide (0 ≤ srcM l p))
theorem takes_hit {l : List D.Move} {p : Int} (hok : okM l = true) {k : Nat} (hk : k < l.length) (h : srcM l p = srcM (l.take (k + 1)) p) (he : (ix l k).To = p) : takesM l p = ((ix l k).From, true) := by
  have := okM_mem hok (ix_mem hk)
  have e : srcM l p = (ix l k).From := by rw [h, src_snoc l p hk, if_pos he]
  unfold takesM
  rw [e, if_neg (by omega), decide_eq_true (by omega)]
theorem takes_none {l : List D.Move} {p : Int} (h : srcM l p = srcM (l.take 0) p) : takesM l p = (0, false) := by
  have e : srcM l p = -1 := h
  unfold takesM
  rw [e]; rfl
def arGo (l : List D.Move) (x : Int) : Nat → List Int → Int → List Int
  | 0, out, p => if p = x then out else []
  | f + 1, out, p => if (0 ≤ p ∧ p ≠ x) ∧ x < p then arGo l x f (out ++ [p]) (srcM l p) else if p = x then out else []
def aroundM (l : List D.Move) (x : Int) : List Int := arGo l x l.length [x] (srcM l x)
def isT (p : Int) : Bool := decide (0 ≤ p)
def vaT (p : Int) : Int := if p < 0 then 0 else p
theorem arGo_step {l : List D.Move} {x p : Int} {out : List Int} (hn : out.length ≤ l.length) (h : ((isT p = true ∧ ¬ vaT p = x) ∧ x < vaT p)) : arGo l x (l.length + 1 - out.length) out p = arGo l x (l.length + 1 - (out ++ [p]).length) (out ++ [p]) (srcM l p) := by
  obtain ⟨⟨h1, h2⟩, h3⟩ := h
  have h0 : 0 ≤ p := by simpa [isT] using h1
  have e : vaT p = p := by unfold vaT; rw [if_neg (by omega)]
  rw [e] at h2 h3
  obtain ⟨g, hg⟩ : ∃ g, l.length + 1 - out.length = g + 1 := ⟨l.length - out.length, by omega⟩
  rw [hg, arGo, if_pos ⟨⟨h0, h2⟩, h3⟩, List.length_append, List.length_singleton]
  congr 1; omega
theorem arGo_end {l : List D.Move} {x p : Int} {out : List Int} (hx : 0 ≤ x) (h : ¬ (((isT p = true ∧ ¬ vaT p = x) ∧ x < vaT p) ∧ out.length ≤ l.length)) : arGo l x (l.length + 1 - out.length) out p = if p = x then out else [] := by
  cases hg : l.length + 1 - out.length with
  | zero => rfl
  | succ g =>
    rw [arGo, if_neg]
    rintro ⟨⟨h1, h2⟩, h3⟩
    have e : vaT p = p := by unfold vaT; rw [if_neg (by omega)]
    exact h ⟨⟨⟨by simpa [isT] using h1, by rw [e]; exact h2⟩, by rw [e]; exact h3⟩, by omega⟩
theorem va_eq {p x : Int} (hx : 0 ≤ x) : (isT p = false ∨ ¬ vaT p = x) ↔ ¬ p = x := by
  unfold isT vaT
  by_cases h : p < 0
  · rw [if_pos h, decide_eq_false (by omega)]
    constructor
    · intro _; omega
    · intro _; exact .inl rfl
  · rw [if_neg h, decide_eq_true (by omega)]
    simp
theorem takes_two (l : List D.Move) (p : Int) : takesM l p = (vaT (srcM l p), isT (srcM l p)) := rfl
theorem va_rng {l : List D.Move} (h : okM l = true) (p : Int) : 0 ≤ vaT (srcM l p) ∧ vaT (srcM l p) < 16400 := by
  have := srcM_rng h p
  unfold vaT; split <;> omega
def circlesM (l : List D.Move) : List (List Int) := (leftL l).filterMap fun x => if 1 < (aroundM l x).length then some (aroundM l x) else none
/-- the least key above the ones that were had -/
def candM (l : List D.Move) (bg : Bool) (last : Int) (j : Nat) : List Int := ((l.take j).map (·.To)).filter fun t => !bg || decide (last < t)
def LeastOf (c : List Int) (sm : Bool) (x : Int) : Prop := (sm = false → c = []) ∧ (sm = true → x ∈ c ∧ ∀ t ∈ c, x ≤ t)
theorem cand_snoc {l : List D.Move} {bg : Bool} {last : Int} {j : Nat} (hj : j < l.length) : candM l bg last (j + 1) = candM l bg last j ++ (if (!bg || decide (last < (ix l j).To)) = true then [(ix l j).To] else []) := by
  unfold candM
  rw [take_ix hj, List.map_append, List.filter_append]
  congr 1
  simp only [List.map_cons, List.map_nil, List.filter_cons, List.filter_nil]
theorem least_take {l : List D.Move} {bg sm : Bool} {last x : Int} {j : Nat} (hj : j < l.length) (h : LeastOf (candM l bg last j) sm x) (h1 : (bg = false ∨ last < (ix l j).To) ∧ (sm = false ∨ (ix l j).To < x)) : LeastOf (candM l bg last (j + 1)) true (ix l j).To := by
  refine ⟨fun h9 => (by cases h9), fun _ => ?_⟩
  have e : (!bg || decide (last < (ix l j).To)) = true := by
    rcases h1.1 with h9 | h9
    · rw [h9]; rfl
    · rw [decide_eq_true h9, Bool.or_true]
  rw [cand_snoc hj, if_pos e]
  refine ⟨by simp, fun t ht => ?_⟩
  rcases List.mem_append.1 ht with ht | ht
  · rcases h1.2 with h9 | h9
    · rw [h.1 h9] at ht; cases ht
    · cases hs : sm with
      | false => rw [h.1 hs] at ht; cases ht
      | true => have := (h.2 hs).2 t ht; omega
  · rw [List.mem_singleton] at ht; omega
theorem least_skip {l : List D.Move} {bg sm : Bool} {last x : Int} {j : Nat} (hj : j < l.length) (h : LeastOf (candM l bg last j) sm x) (h1 : ¬ ((bg = false ∨ last < (ix l j).To) ∧ (sm = false ∨ (ix l j).To < x))) : LeastOf (candM l bg last (j + 1)) sm x := by
  rw [cand_snoc hj]
  by_cases e : (!bg || decide (last < (ix l j).To)) = true
  · rw [if_pos e]
    have h2 : bg = false ∨ last < (ix l j).To := by
      rw [Bool.or_eq_true] at e
      rcases e with e | e
      · left; simpa using e
      · right; simpa using e
    have h3 : ¬ (sm = false ∨ (ix l j).To < x) := fun h9 => h1 ⟨h2, h9⟩
    have hs : sm = true := by
      cases sm
      · exact absurd (.inl rfl) h3
      · rfl
    refine ⟨fun h9 => (by rw [hs] at h9; cases h9), fun _ => ⟨List.mem_append_left _ (h.2 hs).1, fun t ht => ?_⟩⟩
    rcases List.mem_append.1 ht with ht | ht
    · exact (h.2 hs).2 t ht
    · rw [List.mem_singleton] at ht; omega
  · rw [if_neg e, List.append_nil]; exact h
/-- where the walk over the keys stands -/
def AtKey (l : List D.Move) (k : Nat) (bg : Bool) (last : Int) : Prop := k ≤ (leftL l).length ∧ (bg = false → k = 0) ∧ (bg = true → 0 < k ∧ last = ix (leftL l) (k - 1))
theorem sorted_lt {l : List D.Move} (hn : (keysM l).Nodup) {i j : Nat} (hij : i < j) (hj : j < (leftL l).length) : ix (leftL l) i < ix (leftL l) j := by
  have h1 := sortM_sorted (keysM l)
  have h2 : (leftL l).Nodup := (sortM_perm (keysM l)).nodup_iff.2 hn
  rw [List.pairwise_iff_getElem] at h1
  have h3 := h1 i j (show i < (sortM (keysM l)).length from Nat.lt_trans hij hj) hj hij
  rw [List.nodup_iff_pairwise_ne, List.pairwise_iff_getElem] at h2
  have h4 := h2 i j (by omega) hj hij
  rw [ix_eq (show i < (leftL l).length by omega), ix_eq hj]
  have h3' : (leftL l)[i] ≤ (leftL l)[j] := h3
  omega
theorem cand_all {l : List D.Move} (hn : (keysM l).Nodup) {k : Nat} {bg : Bool} {last : Int} (h : AtKey l k bg last) (t : Int) : t ∈ candM l bg last l.length ↔ ∃ i, k ≤ i ∧ i < (leftL l).length ∧ ix (leftL l) i = t := by
  obtain ⟨h1, h2, h3⟩ := h
  have hm : ∀ t, t ∈ (l.take l.length).map (·.To) ↔ t ∈ leftL l := by
    intro t; rw [List.take_length]; exact (sortM_perm (keysM l)).mem_iff.symm
  unfold candM
  rw [List.mem_filter, hm]
  constructor
  · rintro ⟨ht, hc⟩
    obtain ⟨i, hi, e⟩ := List.getElem_of_mem ht
    have e' : ix (leftL l) i = t := by rw [ix_eq hi]; exact e
    refine ⟨i, ?_, hi, e'⟩
    rcases Nat.lt_or_ge i k with h9 | h9
    · cases hb : bg with
      | false => have := h2 hb; omega
      | true =>
        obtain ⟨h4, h5⟩ := h3 hb
        rw [hb] at hc
        have hc' : last < t := by simpa using hc
        rcases Nat.lt_or_ge i (k - 1) with h8 | h8
        · have := sorted_lt hn h8 (by omega); omega
        · have : i = k - 1 := by omega
          rw [this] at e'; omega
    · exact h9
  · rintro ⟨i, hi, hl, e⟩
    refine ⟨by rw [← e]; exact ix_mem hl, ?_⟩
    cases hb : bg with
    | false => rfl
    | true =>
      obtain ⟨h4, h5⟩ := h3 hb
      have := sorted_lt hn (show k - 1 < i by omega) hl
      simp only [Bool.not_true, Bool.false_or, decide_eq_true_eq]; omega
theorem key_next {l : List D.Move} (hn : (keysM l).Nodup) {k : Nat} {bg : Bool} {last x : Int} (h : AtKey l k bg last) (hl : LeastOf (candM l bg last l.length) true x) : k < (leftL l).length ∧ x = ix (leftL l) k := by
  obtain ⟨h1, h2⟩ := hl.2 rfl
  obtain ⟨i, hi, hil, e⟩ := (cand_all hn h x).1 h1
  refine ⟨by omega, ?_⟩
  have h3 := h2 _ ((cand_all hn h _).2 ⟨k, Nat.le_refl _, by omega, rfl⟩)
  rcases Nat.lt_or_ge k i with h9 | h9
  · have := sorted_lt hn h9 hil; omega
  · rw [← e, show i = k by omega]
theorem key_end {l : List D.Move} (hn : (keysM l).Nodup) {k : Nat} {bg : Bool} {last x : Int} (h : AtKey l k bg last) (hl : LeastOf (candM l bg last l.length) false x) : k = (leftL l).length := by
  have h1 := hl.1 rfl
  rcases Nat.lt_or_ge k (leftL l).length with h9 | h9
  · have := (cand_all hn h (ix (leftL l) k)).2 ⟨k, Nat.le_refl _, h9, rfl⟩
    rw [h1] at this; cases this
  · have := h.1; omega
def circF (l : List D.Move) (x : Int) : Option (List Int) := if 1 < (aroundM l x).length then some (aroundM l x) else none
theorem circ_snoc {l : List D.Move} {k : Nat} (hk : k < (leftL l).length) : ((leftL l).take (k + 1)).filterMap (circF l) = ((leftL l).take k).filterMap (circF l) ++ (if 1 < (aroundM l (ix (leftL l) k)).length then [aroundM l (ix (leftL l) k)] else []) := by
  rw [take_ix hk, List.filterMap_append]
  congr 1
  unfold circF
  simp only [List.filterMap_cons, List.filterMap_nil]
  split <;> rename_i h <;> split at h <;> simp_all
theorem arGo_len (l : List D.Move) (x : Int) : ∀ (f : Nat) (out : List Int) (p : Int), (arGo l x f out p).length ≤ out.length + f
  | 0, out, p => by unfold arGo; split <;> simp
  | f + 1, out, p => by
    unfold arGo; split
    · have := arGo_len l x f (out ++ [p]) (srcM l p); rw [List.length_append, List.length_singleton] at this; omega
    · split <;> simp
theorem around_len (l : List D.Move) (x : Int) : (aroundM l x).length ≤ l.length + 1 := by have := arGo_len l x l.length [x] (srcM l x); rw [List.length_singleton] at this; unfold aroundM; omega

end Go.Proofs.Ytcceglmmpbdhiaa
