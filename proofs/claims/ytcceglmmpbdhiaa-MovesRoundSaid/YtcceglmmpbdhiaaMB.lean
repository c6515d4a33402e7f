/- Moves that go round: plain mathematics. -/
import Derived.Test.YtcceglmmpbdhiaaMA
namespace Go.Proofs.Ytcceglmmpbdhiaa
set_option linter.unusedVariables false
set_option linter.unusedSimpArgs false
set_option linter.unusedSectionVars false
set_option maxRecDepth 8000
open Go.JE


/- ---------------------------------------------- moves that go round -/
def rowC (c : List Int) : List D.Move := (List.range c.length).map fun k => ⟨ix c k, ix c ((k + 1) % c.length)⟩
theorem rowC_len (c : List Int) : (rowC c).length = c.length := by unfold rowC; simp
def stepC (c : List Int) (p : List Int) : List Int := doM (orderR (rowC c) (-1) 10).1 p
def iterC (c : List Int) : Nat → List Int → List Int
  | 0, p => p
  | j + 1, p => stepC c (iterC c j p)
theorem iterC_len (c : List Int) : ∀ (j : Nat) (p : List Int), (iterC c j p).length = p.length
  | 0, _ => rfl
  | j + 1, p => by rw [iterC, stepC, doM_len, iterC_len]
/-- a circle of low places -/
structure LowRing (c : List Int) : Prop where
  two : 2 ≤ c.length
  nodup : c.Nodup
  low : ∀ p ∈ c, 0 ≤ p ∧ p < 24 ∧ (p < 12 ∨ 16 ≤ p)
  len : c.length ≤ 21
theorem rowC_keys {c : List Int} : keysM (rowC c) = c := by
  unfold keysM rowC
  rw [List.map_map]
  apply List.ext_getElem (by simp)
  intro k h1 h2
  simp only [List.getElem_map, List.getElem_range, Function.comp]
  exact ix_eq h2
theorem rowC_mem {c : List Int} (h : LowRing c) {m : D.Move} (hm : m ∈ rowC c) : m.To ∈ c ∧ m.From ∈ c := by
  unfold rowC at hm
  obtain ⟨k, hk, rfl⟩ := List.mem_map.1 hm
  have hk' := List.mem_range.1 hk
  exact ⟨ix_mem hk', ix_mem (Nat.mod_lt _ (by omega))⟩
theorem rowC_low {c : List Int} (h : LowRing c) : lowP (rowC c) := fun m hm => ⟨h.low _ (rowC_mem h hm).1, h.low _ (rowC_mem h hm).2⟩
theorem rowC_nodup {c : List Int} (h : LowRing c) : (keysM (rowC c)).Nodup := by rw [rowC_keys]; exact h.nodup
theorem rowC_right {c : List Int} (h : LowRing c) : wrongM (rowC c) (-1) 10 = 0 := wrong_low (rowC_low h) (by unfold nodupM; exact decide_eq_true (rowC_nodup h)) (.inl (by decide)) (.inr rfl)
theorem rowC_ok {c : List Int} (h : LowRing c) : (orderR (rowC c) (-1) 10).2 = 0 := by rw [orderR_ok (rowC_right h) (orderGo_0 (by decide) _ _ _)]
theorem fr_row {c : List Int} (h : LowRing c) {k : Nat} (hk : k < c.length) : frM (rowC c) (ix c k) = ix c ((k + 1) % c.length) := by
  have : (⟨ix c k, ix c ((k + 1) % c.length)⟩ : D.Move) ∈ rowC c := by unfold rowC; exact List.mem_map.2 ⟨k, List.mem_range.2 hk, rfl⟩
  exact fr_in (rowC_nodup h) this
theorem step_at {c : List Int} (h : LowRing c) {p : List Int} (hp : p.length = 40) {i : Int} (hi : 0 ≤ i ∧ i < 40) (h26 : i ≠ 26 ∧ i ≠ 27) : atM (stepC c p) i = atM p (frM (rowC c) i) := by
  unfold stepC
  rw [order_do (n := 40) (by decide) (by decide) (by decide) (by decide) (fun _ => by decide) (rowC_right h) (rowC_nodup h) (fun m hm => ?_) (rowC_ok h) hp hi ⟨fun h0 => absurd h0 (by decide), fun _ => by omega⟩, after_fr (rowC_nodup h) (by omega)]
  obtain ⟨h1, h2⟩ := rowC_low h m hm
  exact ⟨by omega, low_nsp (.inl (by decide)) h1.2.2 h1.2.1, low_nsp (.inl (by decide)) h2.2.2 h2.2.1⟩
theorem iter_at {c : List Int} (h : LowRing c) {p : List Int} (hp : p.length = 40) : ∀ (j : Nat) (k : Nat), k < c.length → atM (iterC c j p) (ix c k) = atM p (ix c ((k + j) % c.length))
  | 0, k, hk => by rw [iterC, Nat.add_zero, Nat.mod_eq_of_lt hk]
  | j + 1, k, hk => by
    have hl := h.low _ (ix_mem hk)
    rw [iterC, step_at h (by rw [iterC_len, hp]) (by omega) (by omega), fr_row h hk, iter_at h hp j _ (Nat.mod_lt _ (by omega)), Nat.mod_add_mod, show k + 1 + j = k + (j + 1) by omega]
theorem iter_out {c : List Int} (h : LowRing c) {p : List Int} (hp : p.length = 40) {i : Int} (hi : 0 ≤ i ∧ i < 40) (h26 : i ≠ 26 ∧ i ≠ 27) (ho : i ∉ c) : ∀ (j : Nat), atM (iterC c j p) i = atM p i
  | 0 => rfl
  | j + 1 => by
    rw [iterC, step_at h (by rw [iterC_len, hp]) hi h26, fr_out (fun m hm e => ho (by rw [← e]; exact (rowC_mem h hm).1)), iter_out h hp hi h26 ho j]
theorem round_back {c : List Int} (h : LowRing c) {x : Int} {k : Nat} (hk : k < 40) (h26 : ¬ (k : Int) = 26) (h27 : ¬ (k : Int) = 27) : ix (iterC c c.length (startM x)) k = ix (startM x) k := by
  rw [← at_ix (by rw [iterC_len, start_len]; exact hk), ← at_ix (by rw [start_len]; exact hk)]
  by_cases hm : (k : Int) ∈ c
  · obtain ⟨j, hj, e⟩ := List.getElem_of_mem hm
    have e' : ix c j = (k : Int) := by rw [ix_eq hj]; exact e
    rw [← e', iter_at h (start_len x) _ _ hj, Nat.add_mod_right, Nat.mod_eq_of_lt hj]
  · exact iter_out h (start_len x) (by omega) ⟨h26, h27⟩ hm _
theorem rowC_snoc {c : List Int} {k : Nat} (hk : k < c.length) {o : List D.Move} (h : o = (rowC c).take k) : o ++ [⟨ix c k, ix c ((k + 1) % c.length)⟩] = (rowC c).take (k + 1) := by
  rw [h, take_ix (by rw [rowC_len]; exact hk)]
  have e : ix (rowC c) k = ⟨ix c k, ix c ((k + 1) % c.length)⟩ := by
    rw [ix_eq (by rw [rowC_len]; exact hk)]
    unfold rowC
    simp
  rw [e]
theorem circle_low {s : List Int} {i : Nat} (hi : i < (circlesM (madeM s)).length) : LowRing (ix (circlesM (madeM s)) i) := by
  have hm := ix_mem hi
  generalize ix (circlesM (madeM s)) i = c at hm
  have hok := made_ok s
  unfold circlesM at hm
  obtain ⟨x, hx, he⟩ := List.mem_filterMap.1 hm
  split at he
  · rename_i h1
    injection he with he
    subst he
    have hx0 := key_pos hok (leftL_key.1 hx)
    obtain ⟨r, g⟩ := around_ring hx0 (show aroundM (madeM s) x ≠ [] from fun e => by rw [e] at h1; simp at h1)
    have hk := ring_keys hok hx0 r g
    refine ⟨h1, ring_nodup r, fun p hp => ?_, ?_⟩
    · obtain ⟨m, hm2, e⟩ := List.mem_map.1 (hk p hp)
      have e' : m.To = p := e
      rw [← e']; exact (made_mem hm2).1
    · have := ring_len hok hx0 r g hk
      have := made_len s; omega
  · cases he
theorem tmod_nat (k n : Nat) : Int.tmod ((k : Int) + 1) (n : Int) = (((k + 1) % n : Nat) : Int) := rfl

end Go.Proofs.Ytcceglmmpbdhiaa
