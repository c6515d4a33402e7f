/- Moves and what they do: plain mathematics. -/
import Derived.Test.YtcceglmmpbdhiaaM3
namespace Go.Proofs.Ytcceglmmpbdhiaa
set_option linter.unusedVariables false
set_option linter.unusedSimpArgs false
set_option linter.unusedSectionVars false
set_option maxRecDepth 8000
open Go.JE


theorem made_keys (s : List Int) : (keysM (madeM s)).Nodup := keys_nodup' (made_nodup s)
theorem low_nsp {scr : Int} (hs : scr < 0 ∨ scr = 15) {i : Int} (h : i < 12 ∨ 16 ≤ i) (h2 : i < 24) : Nsp scr 10 i := by
  refine ⟨fun h0 => by omega, fun _ => by omega⟩
theorem al_eq {s : List Int} {x : Int} {scr : Int} (hs : scr < 0 ∨ scr = 15) {k : Nat} (hk : k < 40) (h26 : ¬ (k : Int) = 26) (h27 : ¬ (k : Int) = 27) (h15 : ¬ (k : Int) = 15 ∨ scr < 0) :
    ix (doM (orderR (madeM s) scr 10).1 (startM x)) k = ix (afterP (madeM s) (startM x)) k := by
  rw [← at_ix (by rw [doM_len, start_len]; exact hk), ← at_ix (by rw [after_len, start_len]; exact hk)]
  refine order_do (n := 40) (by omega) (by decide) (by decide) (by decide) (fun _ => by decide) (made_right s hs (.inr rfl)) (made_keys s) (fun m hm => ?_) (order_made s hs) (start_len x) (by omega) ⟨fun h0 => by omega, fun _ => by omega⟩
  obtain ⟨h1, h2⟩ := made_mem hm
  exact ⟨by omega, low_nsp hs h1.2.2 h1.2.1, low_nsp hs h2.2.2 h2.2.1⟩
theorem al_ok {s : List Int} {x : Int} {scr : Int} (hs : scr < 0 ∨ scr = 15) : ¬ ((¬(orderR (madeM s) scr 10).2 = 0 ∨ ¬((doM (orderR (madeM s) scr 10).1 (startM x)).length : Int) = 40) ∨ ¬((afterP (madeM s) (startM x)).length : Int) = 40) := by
  rw [order_made s hs, doM_len, after_len, start_len]; simp
theorem ao_in {s : List Int} {x : Int} {k : Nat} (hk : k < (madeM s).length) : ix (afterP (madeM s) (startM x)) (ix (madeM s) k).To.toNat = ix (startM x) (ix (madeM s) k).From.toNat := by
  have hm := ix_mem hk
  obtain ⟨h1, h2⟩ := made_mem hm
  rw [ix_at (by rw [after_len, start_len]; omega), ix_at (by rw [start_len]; omega), after_fr (made_keys s) (by rw [start_len]; omega), fr_in (made_keys s) hm]
theorem ao_out {s : List Int} {x : Int} {k : Nat} (hk : k < 40) (h : ∀ m ∈ madeM s, m.To ≠ (k : Int)) : ix (afterP (madeM s) (startM x)) k = ix (startM x) k := by
  rw [← at_ix (by rw [after_len, start_len]; exact hk), ← at_ix (by rw [start_len]; exact hk), after_fr (made_keys s) (by rw [start_len]; omega), fr_out h]
theorem ao_step {l : List D.Move} {k : Nat} {mo : Int → Bool} (hk : k < l.length) (h : ∀ m ∈ l.take k, mo m.To = true) : ∀ m ∈ l.take (k + 1), upF mo (ix l k).To true m.To = true := by
  intro m hm
  rw [up_to]
  rw [take_ix hk] at hm
  rcases List.mem_append.1 hm with hm | hm
  · rw [h m hm]; rfl
  · rw [List.mem_singleton] at hm; subst hm; simp

end Go.Proofs.Ytcceglmmpbdhiaa
