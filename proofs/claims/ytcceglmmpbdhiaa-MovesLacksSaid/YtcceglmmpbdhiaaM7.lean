/- Circles of moves: plain mathematics. -/
import Derived.Test.YtcceglmmpbdhiaaM6
namespace Go.Proofs.Ytcceglmmpbdhiaa
set_option linter.unusedVariables false
set_option linter.unusedSimpArgs false
set_option linter.unusedSectionVars false
set_option maxRecDepth 8000
open Go.JE


/- ---------------------------------------------- the circles that an order does are the document's -/
theorem ring_iter_mem {f : Int → Int} {x : Int} {c : List Int} (h : IsRing f x c) {q : Int} (hq : q ∈ c) : f q ∈ c := by
  obtain ⟨h0, hx, hs, he⟩ := h
  obtain ⟨k, hk, e⟩ := List.getElem_of_mem hq
  have e' : ix c k = q := by rw [ix_eq hk]; exact e
  rcases Nat.lt_or_ge (k + 1) c.length with h9 | h9
  · rw [← e', (hs k h9).1]; exact ix_mem h9
  · rw [← e', show k = c.length - 1 by omega, he, ← hx]; exact ix_mem h0
theorem ring_head {f : Int → Int} {x : Int} {c : List Int} (h : IsRing f x c) : x ∈ c := by rw [← h.2.1]; exact ix_mem h.1
/-- a ring from x on is one list -/
theorem ring_unique {f : Int → Int} {x : Int} {c d : List Int} (hc : IsRing f x c) (hd : IsRing f x d) : c = d := by
  have key : ∀ (c d : List Int), IsRing f x c → IsRing f x d → ∀ k, k < c.length → k < d.length ∧ ix c k = ix d k := by
    intro c d hc hd k
    induction k with
    | zero => intro _; exact ⟨hd.1, by rw [hc.2.1, hd.2.1]⟩
    | succ k ih =>
      intro hk
      obtain ⟨h1, h2⟩ := ih (by omega)
      obtain ⟨h3, h4⟩ := hc.2.2.1 k hk
      have h5 : k + 1 < d.length := by
        rcases Nat.lt_or_ge (k + 1) d.length with h9 | h9
        · exact h9
        · have := hd.2.2.2
          rw [show d.length - 1 = k by omega, ← h2] at this
          exact absurd this h4
      exact ⟨h5, by rw [← h3, h2, (hd.2.2.1 k h5).1]⟩
  have hl : c.length = d.length := by
    rcases Nat.lt_trichotomy c.length d.length with h | h | h
    · have := (key d c hd hc c.length h).1; omega
    · exact h
    · have := (key c d hc hd d.length h).1; omega
  apply List.ext_getElem hl
  intro k h1 h2
  rw [← ix_eq h1, ← ix_eq h2]; exact (key c d hc hd k h1).2
theorem ring_congr2 {f g : Int → Int} {x : Int} {c : List Int} (h : IsRing f x c) (hg : ∀ p ∈ c, g p = f p) : IsRing g x c := by
  obtain ⟨h0, hx, hs, he⟩ := h
  refine ⟨h0, hx, fun i hi => ?_, ?_⟩
  · rw [hg _ (ix_mem (by omega))]; exact hs i hi
  · rw [hg _ (ix_mem (by omega))]; exact he
/-- what the walk from x on tells, if it tells something: a ring whose other places are above x -/
theorem arGo_ring {l : List D.Move} {x : Int} (hx : 0 ≤ x) : ∀ (f : Nat) (out : List Int) (p : Int), out.head? = some x → (∀ i, i + 1 < out.length → srcM l (ix out i) = ix out (i + 1) ∧ srcM l (ix out i) ≠ x) → srcM l (ix out (out.length - 1)) = p → (∀ q ∈ out, q ≠ x → x < q) → arGo l x f out p ≠ [] →
    IsRing (srcM l) x (arGo l x f out p) ∧ ∀ q ∈ arGo l x f out p, q ≠ x → x < q
  | 0, out, p, hh, hs, hp, hg, hne => by
    unfold arGo at hne ⊢
    split at hne
    · rename_i e
      rw [if_pos e]
      have hpos : 0 < out.length := by cases out with | nil => cases hh | cons a b => simp
      have hx0 : ix out 0 = x := by cases out with | nil => cases hh | cons a b => exact Option.some.inj hh
      exact ⟨⟨hpos, hx0, hs, by rw [hp, e]⟩, hg⟩
    · exact absurd rfl hne
  | f + 1, out, p, hh, hs, hp, hg, hne => by
    have hpos : 0 < out.length := by cases out with | nil => cases hh | cons a b => simp
    have hx0 : ix out 0 = x := by cases out with | nil => cases hh | cons a b => exact Option.some.inj hh
    unfold arGo at hne ⊢
    by_cases h : (0 ≤ p ∧ p ≠ x) ∧ x < p
    · rw [if_pos h] at hne ⊢
      refine arGo_ring hx f (out ++ [p]) (srcM l p) (by cases out with | nil => cases hh | cons a b => exact hh) (fun i hi => ?_) ?_ (fun q hq hqx => ?_) hne
      · rw [List.length_append, List.length_singleton] at hi
        have hpre : ∀ j, j < out.length → ix (out ++ [p]) j = ix out j := fun j hj => by
          rw [ix_eq (by rw [List.length_append]; omega), ix_eq hj, List.getElem_append_left hj]
        rcases Nat.lt_or_ge (i + 1) out.length with h9 | h9
        · rw [hpre i (by omega), hpre (i + 1) h9]; exact hs i h9
        · have e : i = out.length - 1 := by omega
          have e2 : ix (out ++ [p]) (i + 1) = p := by
            rw [ix_eq (by rw [List.length_append, List.length_singleton]; omega), List.getElem_append_right (by omega)]; simp
          rw [hpre i (by omega), e2, e, hp]
          exact ⟨rfl, h.1.2⟩
      · have : ix (out ++ [p]) ((out ++ [p]).length - 1) = p := by
          rw [ix_eq (by rw [List.length_append, List.length_singleton]; omega), List.getElem_append_right (by simp)]; simp
        rw [this]
      · rcases List.mem_append.1 hq with hq | hq
        · exact hg q hq hqx
        · rw [List.mem_singleton] at hq; rw [hq]; exact h.2
    · rw [if_neg h] at hne ⊢
      split at hne
      · rename_i e
        rw [if_pos e]
        exact ⟨⟨hpos, hx0, hs, by rw [hp, e]⟩, hg⟩
      · exact absurd rfl hne
theorem around_ring {l : List D.Move} {x : Int} (hx : 0 ≤ x) (h : aroundM l x ≠ []) : IsRing (srcM l) x (aroundM l x) ∧ ∀ q ∈ aroundM l x, q ≠ x → x < q := by
  refine arGo_ring hx l.length [x] (srcM l x) rfl (fun i hi => by simp at hi) rfl (fun q hq hqx => ?_) h
  rw [List.mem_singleton] at hq; exact absurd hq hqx
/-- and it tells such a ring -/
theorem arGo_tells {l : List D.Move} {x : Int} {c : List Int} (hx : 0 ≤ x) (hr : IsRing (srcM l) x c) (hg : ∀ q ∈ c, q ≠ x → x < q) : ∀ (f k : Nat), k < c.length → c.length ≤ f + (k + 1) → arGo l x f (c.take (k + 1)) (srcM l (ix c k)) = c
  | f, k, hk, hf => by
    rcases Nat.lt_or_ge (k + 1) c.length with h9 | h9
    · obtain ⟨g, rfl⟩ : ∃ g, f = g + 1 := ⟨f - 1, by omega⟩
      obtain ⟨h1, h2⟩ := hr.2.2.1 k h9
      rw [h1] at h2
      have h3 := hg _ (ix_mem h9) h2
      rw [arGo, h1, if_pos ⟨⟨by omega, h2⟩, h3⟩, ← take_ix h9]
      exact arGo_tells hx hr hg g (k + 1) h9 (by omega)
    · have e : k = c.length - 1 := by omega
      have h1 := hr.2.2.2
      rw [← e] at h1
      rw [h1, List.take_of_length_le h9]
      cases f with
      | zero => rw [arGo, if_pos rfl]
      | succ f => rw [arGo, if_neg (by omega), if_pos rfl]
theorem around_tells {l : List D.Move} {x : Int} {c : List Int} (hx : 0 ≤ x) (hr : IsRing (srcM l) x c) (hg : ∀ q ∈ c, q ≠ x → x < q) (hl : c.length ≤ l.length + 1) : aroundM l x = c := by
  have h := arGo_tells hx hr hg l.length 0 hr.1 (by omega)
  unfold aroundM
  have e : c.take 1 = [x] := by
    rw [take_ix hr.1, hr.2.1]; rfl
  rw [e, hr.2.1] at h; exact h
theorem src_key {l : List D.Move} (hok : okM l = true) {p : Int} (h : 0 ≤ srcM l p) : ∃ m ∈ l, m.To = p ∧ srcM l p = m.From := by
  unfold srcM at *
  rcases sourceM_cases p l (-1) with e | ⟨m, hm, he, e⟩
  · rw [e] at h; omega
  · exact ⟨m, hm, he, e⟩
theorem ring_keys {l : List D.Move} (hok : okM l = true) {x : Int} (hx : 0 ≤ x) {c : List Int} (hr : IsRing (srcM l) x c) (hg : ∀ q ∈ c, q ≠ x → x < q) : ∀ q ∈ c, q ∈ keysM l := by
  intro q hq
  have h1 := ring_iter_mem hr hq
  have h2 : 0 ≤ srcM l q := by
    by_cases e : srcM l q = x
    · omega
    · have := hg _ h1 e; omega
  obtain ⟨m, hm, he, _⟩ := src_key hok h2
  rw [← he]; exact List.mem_map_of_mem hm
/-- rings have each place once, if no two take from one -/
theorem around_same {mv w : List D.Move} (hok : okM mv = true) (hokw : okM w = true) (hk : (keysM mv).Nodup) (hw : (keysM w).Nodup) {x : Int} (hx : 0 ≤ x)
    (h1 : ∀ c, IsRing (srcM mv) x c → (∀ q ∈ c, q ≠ x → x < q) → ∀ q ∈ c, srcM w q = srcM mv q) (h2 : ∀ c, IsRing (srcM w) x c → (∀ q ∈ c, q ≠ x → x < q) → ∀ q ∈ c, srcM mv q = srcM w q)
    (hlw : ∀ c, IsRing (srcM mv) x c → (∀ q ∈ c, q ≠ x → x < q) → c.length ≤ w.length + 1) (hlm : ∀ c, IsRing (srcM w) x c → (∀ q ∈ c, q ≠ x → x < q) → c.length ≤ mv.length + 1) : aroundM w x = aroundM mv x := by
  by_cases h : aroundM mv x = []
  · by_cases h' : aroundM w x = []
    · rw [h, h']
    · obtain ⟨r, g⟩ := around_ring hx h'
      have := around_tells hx (ring_congr2 r (h2 _ r g)) g (hlm _ r g)
      rw [h] at this; exact absurd this.symm h'
  · obtain ⟨r, g⟩ := around_ring hx h
    exact around_tells hx (ring_congr2 r (h1 _ r g)) g (hlw _ r g)
theorem ring_nodup {f : Int → Int} {x : Int} {c : List Int} (h : IsRing f x c) : c.Nodup := by
  rw [List.nodup_iff_pairwise_ne, List.pairwise_iff_getElem]
  intro i j hi hj hij e
  obtain ⟨h0, hx, hs, he⟩ := h
  have e' : ix c i = ix c j := by rw [ix_eq hi, ix_eq hj]; exact e
  -- step both to the end
  have key : ∀ d, j + d < c.length → ix c (i + d) = ix c (j + d) := by
    intro d
    induction d with
    | zero => intro _; exact e'
    | succ d ih =>
      intro hd
      have h1 := ih (by omega)
      rw [show i + (d + 1) = (i + d) + 1 by omega, show j + (d + 1) = (j + d) + 1 by omega, ← (hs (i + d) (by omega)).1, ← (hs (j + d) (by omega)).1, h1]
  have h2 := key (c.length - 1 - j) (by omega)
  rw [show j + (c.length - 1 - j) = c.length - 1 by omega] at h2
  have h3 := (hs (i + (c.length - 1 - j)) (by omega)).2
  rw [h2] at h3; exact h3 he
theorem ring_len {l : List D.Move} (hok : okM l = true) {x : Int} (hx : 0 ≤ x) {c : List Int} (hr : IsRing (srcM l) x c) (hg : ∀ q ∈ c, q ≠ x → x < q) {w : List D.Move} (hw : ∀ q ∈ c, q ∈ keysM w) : c.length ≤ w.length := by
  have := nodup_len c (keysM w) (ring_nodup hr) hw
  simpa [keysM] using this
theorem src_sub {mv w : List D.Move} (hk : (keysM mv).Nodup) (hw : (keysM w).Nodup) {q : Int} (h : ∀ m : D.Move, m.To = q → (m ∈ w ↔ m ∈ mv)) : srcM w q = srcM mv q := by
  by_cases hq : ∃ m ∈ mv, m.To = q
  · obtain ⟨m, hm, he⟩ := hq
    have h1 := (h m he).2 hm
    rw [← he, src_eq hk hm, src_eq hw h1]
  · rw [src_out (fun m hm e => hq ⟨m, hm, e⟩), src_out (fun m hm e => hq ⟨m, (h m e).1 hm, e⟩)]
/-- w has mv's moves but those to D, no place of D is on a ring of mv's from x -/
theorem around_cut {mv w : List D.Move} (hok : okM mv = true) (hk : (keysM mv).Nodup) (hw : (keysM w).Nodup) (Dl : Int → Prop) (hmem : ∀ m, m ∈ w ↔ m ∈ mv ∧ ¬ Dl m.To) {x : Int} (hx : 0 ≤ x)
    (hD : ∀ c, IsRing (srcM mv) x c → (∀ q ∈ c, q ≠ x → x < q) → ∀ q ∈ c, ¬ Dl q) (hlen : w.length ≤ mv.length) : aroundM w x = aroundM mv x := by
  have hokw : okM w = true := by
    unfold okM at *; rw [List.all_eq_true] at *
    exact fun m hm => hok m ((hmem m).1 hm).1
  have hnk : ∀ q, ¬ Dl q → srcM w q = srcM mv q := fun q hq => src_sub hk hw fun m he => ⟨fun h => ((hmem m).1 h).1, fun h => (hmem m).2 ⟨h, by rw [he]; exact hq⟩⟩
  have hkw : ∀ c, IsRing (srcM w) x c → (∀ q ∈ c, q ≠ x → x < q) → ∀ q ∈ c, ¬ Dl q := fun c hr hg q hq hd => by
    obtain ⟨m, hm, he⟩ := List.mem_map.1 (ring_keys hokw hx hr hg q hq)
    have he' : m.To = q := he
    exact ((hmem m).1 hm).2 (by rw [he']; exact hd)
  refine around_same hok hokw hk hw hx (fun c hr hg q hq => hnk q (hD c hr hg q hq)) (fun c hr hg q hq => (hnk q (hkw c hr hg q hq)).symm) (fun c hr hg => ?_) (fun c hr hg => ?_)
  · have := ring_len hok hx hr hg (w := w) (fun q hq => by
      obtain ⟨m, hm, he⟩ := List.mem_map.1 (ring_keys hok hx hr hg q hq)
      have he' : m.To = q := he
      exact List.mem_map.2 ⟨m, (hmem m).2 ⟨hm, by rw [he']; exact hD c hr hg q hq⟩, he⟩)
    omega
  · have := ring_len hokw hx hr hg (w := w) (ring_keys hokw hx hr hg)
    omega
def cycGo : Nat → List D.Move → List (List Int)
  | 0, _ => []
  | f + 1, mv => if mv.length = 0 then [] else if 0 ≤ freeM mv then cycGo f (withoutM mv (freeM mv)) else circM mv (leastM mv) :: cycGo f (withoutAll mv (circM mv (leastM mv)))
theorem leftL_key {mv : List D.Move} {p : Int} : p ∈ leftL mv ↔ p ∈ keysM mv := by
  rw [leftL_mem]; unfold keysM; rw [List.mem_map]
theorem key_pos {mv : List D.Move} (hok : okM mv = true) {p : Int} (h : p ∈ keysM mv) : 0 ≤ p := by
  obtain ⟨m, hm, he⟩ := List.mem_map.1 h
  have := okM_mem hok hm
  have he' : m.To = p := he
  omega
theorem filterMap_congr' {α β : Type} {f g : α → Option β} : ∀ {l : List α}, (∀ x ∈ l, f x = g x) → l.filterMap f = l.filterMap g
  | [], _ => rfl
  | a :: l, h => by
    have e1 := h a (List.mem_cons_self ..)
    have e2 := filterMap_congr' (l := l) (fun x hx => h x (List.mem_cons_of_mem _ hx))
    rw [List.filterMap_cons, List.filterMap_cons, e1, e2]
theorem filterMap_cut {α β : Type} {f : α → Option β} (q : α → Bool) : ∀ {l : List α}, (∀ x ∈ l, q x = false → f x = none) → l.filterMap f = (l.filter q).filterMap f
  | [], _ => rfl
  | a :: l, h => by
    have e2 := filterMap_cut q (l := l) (fun x hx => h x (List.mem_cons_of_mem _ hx))
    cases hq : q a with
    | true => rw [List.filter_cons_of_pos hq, List.filterMap_cons, List.filterMap_cons, e2]
    | false => rw [List.filter_cons_of_neg (by rw [hq]; decide), List.filterMap_cons, h a (List.mem_cons_self ..) hq, e2]
theorem circ_none {mv : List D.Move} {x : Int} (h : aroundM mv x = [] ∨ (aroundM mv x).length ≤ 1) : circF mv x = none := by
  unfold circF; rw [if_neg]; rcases h with h | h
  · rw [h]; simp
  · omega
theorem circles_free {mv : List D.Move} (hok : okM mv = true) (hk : (keysM mv).Nodup) (hf : 0 ≤ freeM mv) : circlesM (withoutM mv (freeM mv)) = circlesM mv := by
  obtain ⟨m0, hm0, e0, hu⟩ := freeM_mem hf
  have hnone : ∀ x c, 0 ≤ x → IsRing (srcM mv) x c → (∀ q ∈ c, q ≠ x → x < q) → freeM mv ∉ c := by
    intro x c hx hr hg hc
    obtain ⟨q, hq, e⟩ := ring_pred hr hc
    obtain ⟨m, hm, _, e2⟩ := src_key hok (show 0 ≤ srcM mv q by omega)
    have : usedM mv m0.To = true := List.any_eq_true.2 ⟨m, hm, by simp; omega⟩
    rw [this] at hu; cases hu
  show (leftL (withoutM mv (freeM mv))).filterMap (circF _) = (leftL mv).filterMap (circF mv)
  rw [leftL_without]
  have h1 : (leftL mv).filterMap (circF mv) = ((leftL mv).filter (fun x => !eqB (freeM mv) x)).filterMap (circF mv) := by
    refine filterMap_cut _ fun x hx hq => ?_
    have ex : x = freeM mv := by simpa [eqB] using hq
    refine circ_none (.inl ?_)
    rcases Decidable.em (aroundM mv x = []) with h9 | h9
    · exact h9
    · have hx0 := key_pos hok (leftL_key.1 hx)
      obtain ⟨r, g⟩ := around_ring hx0 h9
      exact absurd (ring_head r) (by rw [ex] at r g ⊢; exact hnone _ _ hf r g)
  rw [h1]
  refine filterMap_congr' fun x hx => ?_
  have hx1 := List.mem_filter.1 (show x ∈ (leftL mv).filter _ from hx)
  have hx0 := key_pos hok (leftL_key.1 hx1.1)
  have := around_cut (w := withoutM mv (freeM mv)) hok hk (without_nodup hk _) (fun q => q = freeM mv) (fun m => without_mem) hx0 (fun c hr hg q hq e => hnone x c hx0 hr hg (by rw [← e]; exact hq)) (withoutM_le _ _)
  unfold circF; rw [this]
theorem circles_circ {mv : List D.Move} (hok : okM mv = true) (hk : (keysM mv).Nodup) (hf : freeM mv < 0) (h0 : 0 < mv.length) (hne : ∀ m ∈ mv, m.To ≠ m.From) : circlesM mv = circM mv (leastM mv) :: circlesM (withoutAll mv (circM mv (leastM mv))) := by
  obtain ⟨hr, hnd, hck⟩ := circ_ring hok hk hf h0
  generalize hc : circM mv (leastM mv) = c at *
  have hx0 := (leastM_rng hok h0).1
  have hleast : ∀ q ∈ keysM mv, leastM mv ≤ q := by
    intro q hq
    obtain ⟨m, hm, he⟩ := List.mem_map.1 hq
    have he' : m.To = q := he
    rw [← he']; exact (minM_le mv _).2 m hm
  have hg : ∀ q ∈ c, q ≠ leastM mv → leastM mv < q := fun q hq hn => by have := hleast q (hck q hq); omega
  have hlen : c.length ≤ mv.length := ring_len hok hx0 hr hg hck
  have har := around_tells hx0 hr hg (by omega)
  have hc1 : 1 < c.length := by
    rcases Nat.lt_or_ge 1 c.length with h9 | h9
    · exact h9
    · have h8 := hr.2.2.2
      have := hr.1
      rw [show c.length - 1 = 0 by omega, hr.2.1] at h8
      obtain ⟨m, hm, he⟩ := leastM_mem h0
      rw [← he, src_eq hk hm] at h8
      exact absurd h8.symm (hne m hm)
  have hS : leftL mv = leastM mv :: (leftL mv).tail := by
    have h1 := head_least h0
    have h2 : 0 < (leftL mv).length := by rw [leftL_len]; exact h0
    cases hl : leftL mv with
    | nil => rw [hl] at h2; simp at h2
    | cons a b => rw [hl] at h1; rw [← h1]; rfl
  have hrest : ∀ x ∈ (leftL mv).tail, x ≠ leastM mv := by
    intro x hx e
    have : (leftL mv).Nodup := (sortM_perm (keysM mv)).nodup_iff.2 hk
    rw [hS] at this
    exact (List.nodup_cons.1 this).1 (by rw [← e]; exact hx)
  -- a ring from another place of c would meet the least one
  have hin : ∀ x d, x ∈ keysM mv → IsRing (srcM mv) x d → (∀ q ∈ d, q ≠ x → x < q) → x ≠ leastM mv → ∀ q ∈ d, q ∉ c := by
    intro x d hxk hrd hgd hxn q hq hqc
 
    have hall : ∀ n, n ≤ c.length → ∀ i, i < c.length → ix c i ∈ d → i + n < c.length → ix c (i + n) ∈ d := by
      intro n
      induction n with
      | zero => intro _ i _ h _; exact h
      | succ n ih =>
        intro hn i hi h hl
        have := ih (by omega) i hi h (by omega)
        have e := (hr.2.2.1 (i + n) (by omega)).1
        rw [show i + (n + 1) = i + n + 1 by omega, ← e]
        exact ring_iter_mem hrd this
    obtain ⟨k, hk2, e⟩ := List.getElem_of_mem hqc
    have e' : ix c k = q := by rw [ix_eq hk2]; exact e
    have h1 := hall (c.length - 1 - k) (by omega) k hk2 (by rw [e']; exact hq) (by omega)
    rw [show k + (c.length - 1 - k) = c.length - 1 by omega] at h1
    have h2 := ring_iter_mem hrd h1
    rw [hr.2.2.2] at h2
    have h3 := hgd _ h2 hxn.symm
    have := hleast x hxk
    omega
  show (leftL mv).filterMap (circF mv) = c :: (leftL (withoutAll mv c)).filterMap (circF (withoutAll mv c))
  have hcut : leftL (withoutAll mv c) = (leftL mv).tail.filter (fun x => !decide (x ∈ c)) := by
    have h1 : leftL (withoutAll mv c) = (leftL mv).filter (fun x => !decide (x ∈ c)) := by
      unfold leftL
      rw [← sortM_filter]
      congr 1
      have : ∀ (c : List Int) (mv : List D.Move), keysM (withoutAll mv c) = (keysM mv).filter (fun x => !decide (x ∈ c)) := by
        intro c
        induction c with
        | nil => intro mv; rw [withoutAll]; symm; rw [List.filter_eq_self]; intro a _; simp
        | cons p c ih =>
          intro mv
          rw [withoutAll, ih, keys_without, List.filter_filter]
          apply List.filter_congr
          intro a _
          by_cases e1 : a = p <;> by_cases e2 : a ∈ c <;> simp [eqB, e1, e2]
      exact this c mv
    have hlc : leastM mv ∈ c := ring_head hr
    rw [h1]
    conv => lhs; rw [hS]
    rw [List.filter_cons_of_neg (by simp [hlc])]
  rw [hcut]
  conv => lhs; rw [hS]
  have e1 : circF mv (leastM mv) = some c := by unfold circF; rw [har, if_pos hc1]
  rw [List.filterMap_cons, e1]
  show c :: _ = c :: _
  congr 1
  have htk : ∀ x ∈ (leftL mv).tail, x ∈ keysM mv := fun x hx => leftL_key.1 (by rw [hS]; exact List.mem_cons_of_mem _ hx)
  rw [filterMap_cut (f := circF mv) (fun x => !decide (x ∈ c)) (l := (leftL mv).tail) (fun x hx hq => ?_)]
  · refine filterMap_congr' fun x hx => ?_
    have hx1 := List.mem_filter.1 hx
    have hxk := htk x hx1.1
    have hx0' := key_pos hok hxk
    have := around_cut (w := withoutAll mv c) hok hk (withoutAll_nodup _ hk) (fun q => q ∈ c) (fun m => withoutAll_mem c) hx0' (fun d hrd hgd q hq => hin x d hxk hrd hgd (hrest x hx1.1) q hq) (withoutAll_le _ _)
    unfold circF; rw [this]
  · have hxc : x ∈ c := by simpa using hq
    have hxk := htk x hx
    refine circ_none (.inl ?_)
    rcases Decidable.em (aroundM mv x = []) with h9 | h9
    · exact h9
    · obtain ⟨r, g⟩ := around_ring (key_pos hok hxk) h9
      exact absurd hxc (hin x _ hxk r g (hrest x hx) x (ring_head r))
theorem circles_nil {mv : List D.Move} (h : mv.length = 0) : circlesM mv = [] := by
  have : mv = [] := List.eq_nil_of_length_eq_zero h
  subst this
  show (leftL []).filterMap _ = []
  rw [show leftL [] = [] from List.eq_nil_of_length_eq_zero (leftL_len [])]; rfl
theorem cyc_circles : ∀ (f : Nat) (mv : List D.Move), mv.length ≤ f → okM mv = true → (keysM mv).Nodup → (∀ m ∈ mv, m.To ≠ m.From) → cycGo f mv = circlesM mv
  | 0, mv, hl, _, _, _ => by rw [circles_nil (by omega)]; rfl
  | f + 1, mv, hl, hok, hk, hne => by
    unfold cycGo
    by_cases h0 : mv.length = 0
    · rw [if_pos h0, circles_nil h0]
    · rw [if_neg h0]
      by_cases hf : 0 ≤ freeM mv
      · rw [if_pos hf, cyc_circles f _ (by have := withoutM_lt (freeM_ex hf); omega) (withoutM_ok hok _) (without_nodup hk _) (fun m hm => hne m (without_mem.1 hm).1), circles_free hok hk hf]
      · rw [if_neg hf, cyc_circles f _ (by have := circ_lt (mv := mv) (by omega); omega) (withoutAll_ok _ hok) (withoutAll_nodup _ hk) (fun m hm => hne m ((withoutAll_mem _).1 hm).1), circles_circ hok hk (by omega) (by omega) hne]
/-- moves to where they come from are on no circle of two -/
theorem circles_left {l : List D.Move} (hok : okM l = true) (hk : (keysM l).Nodup) : circlesM (leftM l) = circlesM l := by
  have hself : ∀ x c m, 0 ≤ x → IsRing (srcM l) x c → 1 < c.length → m ∈ l → m.To = m.From → m.To ∉ c := by
    intro x c m hx hr h1 hm he hc
    have hs : srcM l m.To = m.To := by rw [src_eq hk hm]; exact he.symm
    obtain ⟨k, hk2, e⟩ := List.getElem_of_mem hc
    have e' : ix c k = m.To := by rw [ix_eq hk2]; exact e
    have hn := ring_nodup hr
    rcases Nat.lt_or_ge (k + 1) c.length with h9 | h9
    · have := (hr.2.2.1 k h9).1
      rw [e', hs, ← e', ix_eq hk2, ix_eq h9] at this
      rw [List.nodup_iff_pairwise_ne, List.pairwise_iff_getElem] at hn
      exact hn k (k + 1) hk2 h9 (by omega) this
    · have := hr.2.2.2
      rw [show c.length - 1 = k by omega, e', hs, ← hr.2.1, ← e', ix_eq hk2, ix_eq hr.1] at this
      rw [List.nodup_iff_pairwise_ne, List.pairwise_iff_getElem] at hn
      exact hn 0 k hr.1 hk2 (by omega) this.symm
  have hlk : (keysM (leftM l)).Nodup := hk.sublist (List.filter_sublist.map _)
  have hlm : ∀ m, m ∈ leftM l ↔ m ∈ l ∧ m.To ≠ m.From := fun m => by unfold leftM; rw [List.mem_filter]; simp
  let self : Int → Bool := fun q => !decide (∃ m ∈ l, m.To = q ∧ m.To = m.From)
  have hkey : keysM (leftM l) = (keysM l).filter self := by
    unfold keysM leftM
    rw [List.filter_map]
    congr 1
    apply List.filter_congr
    intro m hm
    show decide (m.To ≠ m.From) = !decide (∃ m' ∈ l, m'.To = m.To ∧ m'.To = m'.From)
    rw [← decide_not, decide_eq_decide]
    constructor
    · rintro h ⟨m', hm', e1, e2⟩
      have := nodup_inj (fun m : D.Move => m.To) (show (l.map (fun m : D.Move => m.To)).Nodup from hk) m' hm' m hm e1
      subst this; exact h e2
    · intro h e; exact h ⟨m, hm, rfl, e⟩
  show (leftL (leftM l)).filterMap (circF (leftM l)) = (leftL l).filterMap (circF l)
  have h1 : leftL (leftM l) = (leftL l).filter self := by unfold leftL; rw [hkey, sortM_filter]
  rw [h1, filterMap_cut (f := circF l) self (l := leftL l) (fun x hx hq => ?_)]
  · refine filterMap_congr' fun x hx => ?_
    have hx1 := List.mem_filter.1 hx
    have hx0 := key_pos hok (leftL_key.1 hx1.1)
    have hcut : ∀ c, IsRing (srcM l) x c → 1 < c.length → ∀ q ∈ c, srcM (leftM l) q = srcM l q := fun c hr hc q hq => by
      refine src_sub hk hlk fun m he => ⟨fun h => ((hlm m).1 h).1, fun h => (hlm m).2 ⟨h, fun e => hself x c m hx0 hr hc h e (by rw [he]; exact hq)⟩⟩
 
    unfold circF
    by_cases ha : 1 < (aroundM l x).length
    · obtain ⟨r, g⟩ := around_ring hx0 (show aroundM l x ≠ [] from fun e => by rw [e] at ha; simp at ha)
      have hr' := ring_congr2 r (hcut _ r ha)
      have := around_tells hx0 hr' g (by
        have := ring_len (leftM_ok hok) hx0 hr' g (ring_keys (leftM_ok hok) hx0 hr' g); omega)
      rw [this]
    · rw [if_neg ha, if_neg]
      intro hb
      obtain ⟨r, g⟩ := around_ring hx0 (show aroundM (leftM l) x ≠ [] from fun e => by rw [e] at hb; simp at hb)
      have hkk := ring_keys (leftM_ok hok) hx0 r g
      have hr' : IsRing (srcM l) x (aroundM (leftM l) x) := ring_congr2 r fun q hq => by
        obtain ⟨m, hm, he⟩ := List.mem_map.1 (hkk q hq)
        have he' : m.To = q := he
        rw [← he', src_eq hk ((hlm m).1 hm).1, src_eq hlk hm]
      have := around_tells hx0 hr' g (by
        have := ring_len (leftM_ok hok) hx0 r g hkk
        have := leftM_len l; omega)
      rw [this] at ha; exact ha hb
  · have hq' : ∃ m ∈ l, m.To = x ∧ m.To = m.From := by simpa [self] using hq
    obtain ⟨m, hm, rfl, he⟩ := hq'
    have hx0 := (okM_mem hok hm).1.1
    refine circ_none ?_
    rcases Nat.lt_or_ge 1 (aroundM l m.To).length with h9 | h9
    · obtain ⟨r, g⟩ := around_ring hx0 (show aroundM l m.To ≠ [] from fun e => by rw [e] at h9; simp at h9)
      exact absurd (ring_head r) (hself _ _ m hx0 r h9 hm he)
    · exact .inr h9
theorem circles_cyc {l : List D.Move} (hok : okM l = true) (hk : (keysM l).Nodup) : circlesM l = cycGo (leftM l).length (leftM l) := by
  rw [← circles_left hok hk, cyc_circles _ _ (Nat.le_refl _) (leftM_ok hok) (hk.sublist (List.filter_sublist.map _)) (fun m hm => by simpa using (List.mem_filter.1 hm).2)]

end Go.Proofs.Ytcceglmmpbdhiaa
