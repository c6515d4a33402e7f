/- Moves and what they do: plain mathematics. -/
import Derived.Test.YtcceglmmpbdhiaaM1
namespace Go.Proofs.Ytcceglmmpbdhiaa
set_option linter.unusedVariables false
set_option linter.unusedSimpArgs false
set_option linter.unusedSectionVars false
set_option maxRecDepth 8000
open Go.JE


/- ---------------------------------------------- what instructions do, place by place -/
theorem doM_app : ∀ (a b : List D.Mach) (s : List Int), doM (a ++ b) s = doM b (doM a s)
  | [], _, _ => rfl
  | i :: a, b, s => by rw [List.cons_append, doM, doM, doM_app]
theorem reg_id {a : Int} (h : 0 ≤ a ∧ a < 16) : regR a = a := by unfold regR; rw [if_neg (by omega)]
theorem do_mov {a b : Int} (s : List Int) (ha : 0 ≤ a ∧ a < 16) (hb : 0 ≤ b ∧ b < 16) : doM1 ⟨1, a, 0, b, 0, 0, 0, []⟩ s = putM s a (atM s b) := by
  unfold doM1; rw [if_pos rfl, reg_id ha, reg_id hb]
theorem do_swap {a b : Int} (s : List Int) (ha : 0 ≤ a ∧ a < 16) (hb : 0 ≤ b ∧ b < 16) : doM1 (swapI (a, b)) s = putM (putM s a (atM s b)) b (atM s a) := by
  unfold doM1 swapI; rw [if_neg (show ¬ (2 : Int) = 1 by decide), if_pos rfl, reg_id ha, reg_id hb]
theorem slot_id {p : Int} (h : 16 ≤ p ∧ p < 17000) : slotM (IntKind.i32.wrap (p - 16)) = p := by
  rw [IntWalk.i32_in (p - 16) (by omega)]; unfold slotM; rw [if_neg (by omega)]; omega
theorem do_ld {r p : Int} (s : List Int) (hr : 0 ≤ r ∧ r < 16) (hp : 16 ≤ p ∧ p < 17000) : doM1 (loadM r p) s = putM s r (atM s p) := by
  unfold doM1 loadM; rw [if_neg (show ¬ (30 : Int) = 1 by decide), if_neg (show ¬ (30 : Int) = 2 by decide), if_pos rfl, reg_id hr, slot_id hp]
theorem do_st {r p : Int} (s : List Int) (hr : 0 ≤ r ∧ r < 16) (hp : 16 ≤ p ∧ p < 17000) : doM1 (storeM r p) s = putM s p (atM s r) := by
  unfold doM1 storeM; rw [if_neg (show ¬ (31 : Int) = 1 by decide), if_neg (show ¬ (31 : Int) = 2 by decide), if_neg (show ¬ (31 : Int) = 30 by decide), if_pos rfl, reg_id hr, slot_id hp]
/-- code that brings b to a, and leaves all that Z says as it was -/
def Brs (n : Nat) (Z : Int → Prop) (o : List D.Mach) (a b : Int) : Prop := ∀ s : List Int, s.length = n → ∀ i, Z i → atM (doM o s) i = if i = a then atM s b else atM s i
theorem bring_low {scr sp a b : Int} {n : Nat} (h16 : 16 ≤ n) (hn : n ≤ 17000) (ha : 0 ≤ a ∧ a < n) (hb : 0 ≤ b ∧ b < n) (hl : a < 16 ∨ b < 16) : Brs n (fun i => 0 ≤ i ∧ i < n) ((bringX scr sp a b).getD []) a b := by
  intro s hs i hi
  unfold bringX
  by_cases h1 : a < 16 ∧ b < 16
  · rw [if_pos h1]
    rw [Option.getD_some, doM, doM, do_mov s (by omega) (by omega), at_put (by omega)]
  · rw [if_neg h1]
    by_cases h2 : a < 16
    · rw [if_pos h2]
      rw [Option.getD_some, doM, doM, do_ld s (by omega) (by omega), at_put (by omega)]
    · rw [if_neg h2, if_pos (by omega)]
      rw [Option.getD_some, doM, doM, do_st s (by omega) (by omega), at_put (by omega)]
theorem bring_any {scr sp a b : Int} {n : Nat} (hs : scr < 16) (h16 : 16 ≤ n) (hn : n ≤ 17000) (ha : 0 ≤ a ∧ a < n) (hb : 0 ≤ b ∧ b < n) (hsp : 0 ≤ sp → 17 + sp < n ∧ a ≠ 17 + sp ∧ b ≠ 17 + sp) (hx : 0 ≤ scr ∨ 0 ≤ sp ∨ a < 16 ∨ b < 16) :
    Brs n (fun i => 0 ≤ i ∧ i < n ∧ (0 ≤ scr → i ≠ scr) ∧ (0 ≤ sp → i ≠ 17 + sp)) ((bringX scr sp a b).getD []) a b := by
  by_cases hl : a < 16 ∨ b < 16
  · intro s hs i hi
    exact bring_low h16 hn ha hb hl s hs i ⟨hi.1, hi.2.1⟩
  intro s hsl i hi
  obtain ⟨hi1, hi2, hi3, hi4⟩ := hi
  unfold bringX
  rw [if_neg (by omega), if_neg (by omega), if_neg (by omega)]
  by_cases h0 : 0 ≤ scr
  · rw [if_pos h0]
    have hi3' := hi3 h0
    rw [Option.getD_some, doM, doM, doM, do_ld s (by omega) (by omega), do_st _ (by omega) (by omega), at_put (by rw [putM_len]; omega), at_put (by omega), if_pos rfl, at_put (by omega), if_neg hi3']
  · rw [if_neg h0, if_neg (by omega)]
    obtain ⟨h1, h2, h3⟩ := hsp (by omega)
    have hi4' := hi4 (by omega)
    rw [Option.getD_some, doM, doM, doM, doM, doM, do_st s (by omega) (by omega), do_ld _ (by omega) (by omega), do_st _ (by omega) (by omega), do_ld _ (by omega) (by omega)]
    have L : ∀ (s : List Int) (x y : Int), (putM s x y).length = s.length := fun s x y => putM_len s x y
    have q1 : atM (putM s (16 + sp + 1) (atM s 0)) b = atM s b := by rw [at_put (by omega), if_neg (by omega)]
    rw [q1]
    generalize hs2 : putM (putM s (16 + sp + 1) (atM s 0)) 0 (atM s b) = s2
    have l2 : s2.length = s.length := by rw [← hs2, L, L]
    have q2 : ∀ j : Int, 0 ≤ j ∧ j < s.length → atM s2 j = if j = 0 then atM s b else if j = 16 + sp + 1 then atM s 0 else atM s j := by
      intro j hj
      rw [← hs2, at_put (by rw [L]; omega), at_put (by omega)]
    rw [q2 0 (by omega), if_pos rfl]
    have q3 : atM (putM s2 a (atM s b)) (16 + sp + 1) = atM s 0 := by rw [at_put (by omega), if_neg (by omega), q2 _ (by omega), if_neg (by omega), if_pos rfl]
    rw [q3, at_put (by rw [L]; omega), at_put (by omega), q2 i (by omega)]
    by_cases e0 : i = 0
    · subst e0; rw [if_pos rfl, if_neg (by omega)]
    · rw [if_neg e0]
      by_cases ea : i = a
      · rw [if_pos ea, if_pos ea]
      · rw [if_neg ea, if_neg ea, if_neg e0, if_neg (by omega)]
/-- along a row of places each takes from the next one; the last one from z -/
theorem brings_along {n : Nat} {A Z : Int → Prop} {g : Int × Int → List D.Mach} (hA : ∀ a, A a → Z a) (hg : ∀ a b, A a → A b → Brs n Z (g (a, b)) a b) (z : Int) (hz : A z) : ∀ (t : List Int) (x : Int) (s : List Int), s.length = n → (∀ p ∈ x :: t, A p) → (x :: t).Nodup → z ∉ x :: t →
    ∀ i, Z i → atM (doM ((stepsM (x :: t) ++ [(ix (x :: t) t.length, z)]).flatMap g) s) i = (if i ∈ x :: t then atM s (((x :: t) ++ [z]).getD (((x :: t).idxOf i) + 1) 0) else atM s i)
  | [], x, s, hs, hZ, hn, hz', i, hi => by
    have h := hg x z (hZ x (by simp)) hz s hs i hi
    simp only [stepsM, List.tail_cons, List.zip_nil_right, List.nil_append, List.length_nil, List.flatMap_cons, List.flatMap_nil, List.append_nil]
    show atM (doM (g (x, z)) s) i = _
    rw [h]
    by_cases e : i = x
    · subst e; simp
    · rw [if_neg e, if_neg (by simpa using e)]
  | y :: t, x, s, hs, hZ, hn, hz', i, hi => by
    have h1 := hg x y (hZ x (by simp)) (hZ y (by simp)) s hs
    have hl : (doM (g (x, y)) s).length = n := by rw [doM_len, hs]
    obtain ⟨hx, hn2⟩ := List.nodup_cons.1 hn
    have ih := brings_along hA hg z hz t y (doM (g (x, y)) s) hl (fun p hp => hZ p (List.mem_cons_of_mem _ hp)) hn2 (fun h => hz' (List.mem_cons_of_mem _ h)) i hi
    have e1 : stepsM (x :: y :: t) = (x, y) :: stepsM (y :: t) := by simp [stepsM]
    have e2 : ix (x :: y :: t) (y :: t).length = ix (y :: t) t.length := rfl
    rw [e1, e2, List.cons_append, List.flatMap_cons, doM_app, ih]
    by_cases ex : i = x
    · subst ex
      rw [if_neg hx, if_pos (by simp), h1 i hi, if_pos rfl]
      simp
    · by_cases em : i ∈ y :: t
      · rw [if_pos em, if_pos (List.mem_cons_of_mem _ em)]
        have hj : List.idxOf i (x :: y :: t) = List.idxOf i (y :: t) + 1 := by rw [List.idxOf_cons, show (x == i) = false from by simp only [beq_eq_false_iff_ne, ne_eq]; exact fun e => ex e.symm]; rfl
        rw [hj]
        have hk : List.idxOf i (y :: t) < (y :: t).length := List.idxOf_lt_length_iff.2 em
        have hE : (x :: y :: t ++ [z]).getD (List.idxOf i (y :: t) + 1 + 1) 0 = (y :: t ++ [z]).getD (List.idxOf i (y :: t) + 1) 0 := by
          rw [List.cons_append, List.getD_cons_succ]
        rw [hE]
        have hmem : (y :: t ++ [z]).getD (List.idxOf i (y :: t) + 1) 0 ∈ t ++ [z] := by
          rw [List.cons_append, List.getD_cons_succ, List.getD_eq_getElem?_getD, List.getElem?_eq_getElem (by simp only [List.length_append, List.length_cons, List.length_nil] at hk ⊢; omega)]
          exact List.getElem_mem _
        have hZq : Z ((y :: t ++ [z]).getD (List.idxOf i (y :: t) + 1) 0) := by
          rcases List.mem_append.1 hmem with h9 | h9
          · exact hA _ (hZ _ (List.mem_cons_of_mem _ (List.mem_cons_of_mem _ h9)))
          · rw [List.mem_singleton] at h9; rw [h9]; exact hA _ hz
        rw [h1 _ hZq, if_neg]
        intro e9
        rw [e9] at hmem
        rcases List.mem_append.1 hmem with h9 | h9
        · exact hx (List.mem_cons_of_mem _ h9)
        · rw [List.mem_singleton] at h9; exact hz' (by rw [← h9]; simp)
      · rw [if_neg em, if_neg (fun h9 => (List.mem_cons.1 h9).elim ex em), h1 i hi, if_neg ex]
/-- registers that change places one by one -/
theorem swaps_along {n : Nat} (h16 : 16 ≤ n) : ∀ (t : List Int) (x : Int) (s : List Int), s.length = n → (∀ p ∈ x :: t, 0 ≤ p ∧ p < 16) → (x :: t).Nodup →
    ∀ i : Int, 0 ≤ i ∧ i < n → atM (doM ((stepsM (x :: t)).map swapI) s) i = (if i ∈ x :: t then atM s (((x :: t) ++ [x]).getD (((x :: t).idxOf i) + 1) 0) else atM s i)
  | [], x, s, hs, hZ, hn, i, hi => by
    show atM s i = _
    by_cases e : i = x
    · subst e; simp
    · rw [if_neg (by simpa using e)]
  | y :: t, x, s, hs, hZ, hn, i, hi => by
    have hx16 := hZ x (by simp)
    have hy16 := hZ y (by simp)
    obtain ⟨hx, hn2⟩ := List.nodup_cons.1 hn
    have hxy : x ≠ y := fun e => hx (by rw [e]; simp)
    have h1 : ∀ j : Int, 0 ≤ j ∧ j < n → atM (doM1 (swapI (x, y)) s) j = if j = y then atM s x else if j = x then atM s y else atM s j := by
      intro j hj
      rw [do_swap s hx16 hy16, at_put (by rw [putM_len]; omega), at_put (by omega)]
    have hl : (doM1 (swapI (x, y)) s).length = n := by rw [doM1_len, hs]
    have ih := swaps_along h16 t y (doM1 (swapI (x, y)) s) hl (fun p hp => hZ p (List.mem_cons_of_mem _ hp)) hn2 i hi
    have e1 : stepsM (x :: y :: t) = (x, y) :: stepsM (y :: t) := by simp [stepsM]
    rw [e1, List.map_cons, doM, ih]
    by_cases ex : i = x
    · subst ex
      rw [if_neg hx, if_pos (by simp), h1 i hi, if_neg hxy, if_pos rfl]
      simp
    · by_cases em : i ∈ y :: t
      · rw [if_pos em, if_pos (List.mem_cons_of_mem _ em)]
        have hj : List.idxOf i (x :: y :: t) = List.idxOf i (y :: t) + 1 := by rw [List.idxOf_cons, show (x == i) = false from by simp only [beq_eq_false_iff_ne, ne_eq]; exact fun e => ex e.symm]; rfl
        rw [hj]
        have hk : List.idxOf i (y :: t) < (y :: t).length := List.idxOf_lt_length_iff.2 em
        rw [List.cons_append, List.cons_append, List.getD_cons_succ, List.getD_cons_succ, List.cons_append, List.getD_cons_succ]
        by_cases hlast : List.idxOf i (y :: t) = t.length
        · rw [hlast]
          have ea : ∀ w : Int, (t ++ [w]).getD t.length 0 = w := by intro w; simp
          rw [ea, ea, h1 y ⟨hy16.1, by omega⟩, if_pos rfl]
        · have hk2 : List.idxOf i (y :: t) < t.length := by simp only [List.length_cons] at hk; omega
          have ea : ∀ w : Int, (t ++ [w]).getD (List.idxOf i (y :: t)) 0 = t[List.idxOf i (y :: t)] := by
            intro w
            rw [List.getD_eq_getElem?_getD, List.getElem?_append_left hk2, List.getElem?_eq_getElem hk2]; rfl
          rw [ea, ea]
          have hm : t[List.idxOf i (y :: t)] ∈ t := List.getElem_mem _
          have hr := hZ _ (List.mem_cons_of_mem _ (List.mem_cons_of_mem _ hm))
          rw [h1 _ ⟨hr.1, by omega⟩, if_neg, if_neg]
          · intro e9; exact hx (by rw [← e9]; exact List.mem_cons_of_mem _ hm)
          · intro e9; exact (List.nodup_cons.1 hn2).1 (by rw [← e9]; exact hm)
      · rw [if_neg em, if_neg (fun h9 => (List.mem_cons.1 h9).elim ex em), h1 i hi, if_neg (fun e => em (by rw [e]; simp)), if_neg ex]

end Go.Proofs.Ytcceglmmpbdhiaa
