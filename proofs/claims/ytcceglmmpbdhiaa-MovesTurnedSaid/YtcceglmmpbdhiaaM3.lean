/- Moves and what they do: plain mathematics. -/
import Derived.Test.YtcceglmmpbdhiaaM2
namespace Go.Proofs.Ytcceglmmpbdhiaa
set_option linter.unusedVariables false
set_option linter.unusedSimpArgs false
set_option linter.unusedSectionVars false
set_option maxRecDepth 8000
open Go.JE


/- ---------------------------------------------- an order does what its moves do -/
def Nsp (scr sp i : Int) : Prop := (0 ≤ scr → i ≠ scr) ∧ (0 ≤ sp → i ≠ 16 + sp ∧ i ≠ 17 + sp)
theorem next_ring {f : Int → Int} {x : Int} {c : List Int} (h : IsRing f x c) (z : Int) {i : Int} (hi : i ∈ c) :
    (c.idxOf i + 1 < c.length ∧ (c ++ [z]).getD (c.idxOf i + 1) 0 = f i ∧ f i ∈ c) ∨ (c.idxOf i + 1 = c.length ∧ (c ++ [z]).getD (c.idxOf i + 1) 0 = z ∧ f i = x) := by
  obtain ⟨h0, hx, hs, he⟩ := h
  have hk : c.idxOf i < c.length := List.idxOf_lt_length_iff.2 hi
  have hki : ix c (c.idxOf i) = i := by rw [ix_eq hk]; exact List.getElem_idxOf hk
  by_cases hl : c.idxOf i + 1 < c.length
  · left
    have h1 := (hs _ hl).1
    rw [hki] at h1
    refine ⟨hl, ?_, by rw [h1]; exact ix_mem hl⟩
    rw [h1, ix_eq hl, List.getD_eq_getElem?_getD, List.getElem?_append_left hl, List.getElem?_eq_getElem hl]; rfl
  · right
    have e : c.idxOf i + 1 = c.length := by omega
    refine ⟨e, by rw [e]; simp, ?_⟩
    rw [← hki, show c.idxOf i = c.length - 1 by omega]; exact he
theorem round_do {scr sp : Int} {n : Nat} (hs : scr < 16) (hsp : sp < 16383) (h16 : 16 ≤ n) (hn : n ≤ 16400) (hspn : 0 ≤ sp → 17 + sp < n) {f : Int → Int} {x : Int} {c : List Int} (hr : IsRing f x c) (hnd : c.Nodup)
    (hc : ∀ p ∈ c, (0 ≤ p ∧ p < n) ∧ Nsp scr sp p) {o : List D.Mach} (he : (roundR scr sp c o 0).2 = 0) {p : List Int} (hp : p.length = n) {i : Int} (hi : 0 ≤ i ∧ i < n) (hni : Nsp scr sp i) :
    atM (doM (roundR scr sp c o 0).1 p) i = atM (doM o p) (if i ∈ c then f i else i) := by
  have hol : (doM o p).length = n := by rw [doM_len, hp]
  obtain ⟨x', t, rfl⟩ : ∃ x' t, c = x' :: t := by
    cases c with
    | nil => exact absurd hr.1 (by simp)
    | cons a b => exact ⟨a, b, rfl⟩
  obtain rfl : x' = x := hr.2.1
  by_cases h1 : lowM (x' :: t) = true ∧ scr < 0
  · rw [roundR_sw o 0 h1]
    show atM (doM (o ++ _) p) i = _
    have hlow : ∀ p ∈ x' :: t, 0 ≤ p ∧ p < 16 := by
      intro p hp
      have := List.all_eq_true.1 h1.1 p hp
      exact ⟨(hc p hp).1.1, by simpa using this⟩
    rw [doM_app, swaps_along h16 t x' (doM o p) hol hlow hnd i hi]
    by_cases hm : i ∈ x' :: t
    · rw [if_pos hm, if_pos hm]
      rcases next_ring hr x' hm with ⟨_, e, _⟩ | ⟨_, e, e2⟩
      · rw [e]
      · rw [e, e2]
    · rw [if_neg hm, if_neg hm]
  · by_cases h2 : lowM (x' :: t) = false ∧ sp < 0
    · rw [roundR_no o 0 h2] at he; cases he
    · have hz : ∃ z : Int, ∃ A Z : Int → Prop, (if lowM (x' :: t) = true then scr else 16 + sp) = z ∧ A z ∧ z ∉ x' :: t ∧ i ≠ z ∧ (∀ q ∈ x' :: t, A q) ∧ (∀ a, A a → Z a) ∧ (∀ a b, A a → A b → Brs n Z ((bringX scr sp a b).getD []) a b) ∧ Z i ∧ (∀ a b, (bringX scr sp a b).isNone = false) := by
        cases hl : lowM (x' :: t) with
        | true =>
          have h0 : 0 ≤ scr := by
            rcases Int.lt_or_le scr 0 with h9 | h9
            · exact absurd ⟨hl, h9⟩ h1
            · exact h9
          refine ⟨scr, fun a => 0 ≤ a ∧ a < 16, fun a => 0 ≤ a ∧ a < n, by rw [if_pos rfl], ⟨h0, hs⟩, fun h9 => (hc _ h9).2.1 h0 rfl, hni.1 h0, fun q hq => ?_, fun a ha => by omega, fun a b ha hb => bring_low h16 (by omega) (by omega) (by omega) (.inl ha.2), hi, bringX_is (.inl h0)⟩
          have := List.all_eq_true.1 hl q hq
          exact ⟨(hc q hq).1.1, by simpa using this⟩
        | false =>
          have h0 : 0 ≤ sp := by
            rcases Int.lt_or_le sp 0 with h9 | h9
            · exact absurd ⟨hl, h9⟩ h2
            · exact h9
          have hspn' := hspn h0
          refine ⟨16 + sp, fun a => 0 ≤ a ∧ a < n ∧ (0 ≤ scr → a ≠ scr) ∧ (0 ≤ sp → a ≠ 17 + sp), fun a => 0 ≤ a ∧ a < n ∧ (0 ≤ scr → a ≠ scr) ∧ (0 ≤ sp → a ≠ 17 + sp), by rw [if_neg (by decide)], ⟨by omega, by omega, fun _ => by omega, fun _ => by omega⟩, fun h9 => ((hc _ h9).2.2 h0).1 rfl, (hni.2 h0).1, fun q hq => ?_, fun a ha => ha, fun a b ha hb => ?_, ⟨hi.1, hi.2, hni.1, fun h9 => (hni.2 h9).2⟩, bringX_is (.inr h0)⟩
          · obtain ⟨q1, q2, q3⟩ := hc q hq
            exact ⟨q1.1, q1.2, q2, fun h9 => (q3 h9).2⟩
          · exact bring_any hs h16 (by omega) ⟨ha.1, ha.2.1⟩ ⟨hb.1, hb.2.1⟩ (fun h9 => ⟨hspn', ha.2.2.2 h9, hb.2.2.2 h9⟩) (.inr (.inl h0))
      obtain ⟨z, A, Z, ez, hzA, hzc, hiz, hcA, hAZ, hg, hZi, hall⟩ := hz
      have hR : roundR scr sp (x' :: t) o 0 = bringsR scr sp ((z, ix (x' :: t) 0) :: stepsM (x' :: t) ++ [(ix (x' :: t) ((x' :: t).length - 1), z)]) o 0 := by
        unfold roundR; rw [if_neg h1, if_neg h2, ez]
      rw [hR, bringsR_all hall]
      show atM (doM (o ++ _) p) i = _
      rw [List.cons_append, List.flatMap_cons, doM_app, doM_app]
      have hs1 := hg z x' hzA (hcA x' (by simp)) (doM o p) hol
      have hl1 : (doM ((bringX scr sp z x').getD []) (doM o p)).length = n := by rw [doM_len, hol]
      have hal := brings_along (g := fun q => (bringX scr sp q.1 q.2).getD []) hAZ hg z hzA t x' _ hl1 hcA hnd hzc i hZi
      have hix : ix (x' :: t) 0 = x' := rfl
      have hll : (x' :: t).length - 1 = t.length := by simp
      rw [hix, hll]
      show atM (doM _ (doM ((bringX scr sp z x').getD []) (doM o p))) i = _
      rw [hal]
      by_cases hm : i ∈ x' :: t
      · rw [if_pos hm, if_pos hm]
        rcases next_ring hr z hm with ⟨_, e, e2⟩ | ⟨_, e, e2⟩
        · rw [e, hs1 _ (hAZ _ (hcA _ e2)), if_neg (fun e9 => hzc (by rw [← e9]; exact e2))]
        · rw [e, e2, hs1 _ (hAZ _ hzA), if_pos rfl]
      · rw [if_neg hm, if_neg hm, hs1 i hZi, if_neg hiz]
theorem without_mem {mv : List D.Move} {p : Int} {m : D.Move} : m ∈ withoutM mv p ↔ m ∈ mv ∧ m.To ≠ p := by unfold withoutM; rw [List.mem_filter]; simp
theorem withoutAll_mem : ∀ (c : List Int) {mv : List D.Move} {m : D.Move}, m ∈ withoutAll mv c ↔ m ∈ mv ∧ m.To ∉ c
  | [], mv, m => by simp [withoutAll]
  | p :: c, mv, m => by
    rw [withoutAll, withoutAll_mem c, without_mem, List.mem_cons, not_or]
    constructor
    · rintro ⟨⟨h1, h2⟩, h3⟩; exact ⟨h1, h2, h3⟩
    · rintro ⟨h1, h2, h3⟩; exact ⟨⟨h1, h2⟩, h3⟩
theorem without_nodup {mv : List D.Move} (h : (keysM mv).Nodup) (p : Int) : (keysM (withoutM mv p)).Nodup := by rw [keys_without]; exact h.sublist List.filter_sublist
theorem withoutAll_nodup : ∀ (c : List Int) {mv : List D.Move}, (keysM mv).Nodup → (keysM (withoutAll mv c)).Nodup
  | [], _, h => h
  | p :: c, _, h => withoutAll_nodup c (without_nodup h p)
theorem fr_sub {mv w : List D.Move} (hn : (keysM mv).Nodup) (hw : (keysM w).Nodup) {i : Int} (h : ∀ m, m ∈ w ↔ m ∈ mv ∧ m.To ≠ i ∧ True) : True := trivial
theorem fr_eq {mv w : List D.Move} (hn : (keysM mv).Nodup) (hw : (keysM w).Nodup) {i : Int} (h : ∀ m : D.Move, m.To = i → (m ∈ w ↔ m ∈ mv)) : frM w i = frM mv i := by
  rcases fr_cases hn i with ⟨m, hm, he, e⟩ | ⟨h1, e⟩
  · rw [e, ← he]; exact fr_in hw ((h m he).2 hm)
  · rw [e]; exact fr_out fun m hm he => h1 m ((h m he).1 hm) he
theorem froms_nodup {mv : List D.Move} (hok : okM mv = true) (hn : (keysM mv).Nodup) (hf : freeM mv < 0) : (mv.map (·.From)).Nodup := by
  have hfs : ∀ k ∈ keysM mv, k ∈ mv.map (·.From) := by
    intro k hk
    obtain ⟨m, hm, rfl⟩ := List.mem_map.1 hk
    obtain ⟨m2, h1, h2⟩ := List.any_eq_true.1 (free_no hok hf m hm)
    have h2' : m2.From = m.To := by simpa using h2
    rw [← h2']; exact List.mem_map_of_mem h1
  exact (perm_of_sub (keysM mv) (mv.map (·.From)) hn hfs (by simp [keysM])).nodup_iff.2 hn
theorem nodup_inj {α β : Type} (g : α → β) : ∀ {l : List α}, (l.map g).Nodup → ∀ a ∈ l, ∀ b ∈ l, g a = g b → a = b
  | [], _, _, h, _, _, _ => by cases h
  | x :: l, hn, a, ha, b, hb, e => by
    obtain ⟨h1, h2⟩ := List.nodup_cons.1 (show (g x :: l.map g).Nodup from hn)
    rcases List.mem_cons.1 ha with e1 | ha2
    · rcases List.mem_cons.1 hb with e2 | hb2
      · rw [e1, e2]
      · exact absurd (by rw [← e1, e]; exact List.mem_map_of_mem hb2) h1
    · rcases List.mem_cons.1 hb with e2 | hb2
      · exact absurd (by rw [← e2, ← e]; exact List.mem_map_of_mem ha2) h1
      · exact nodup_inj g h2 a ha2 b hb2 e
theorem ring_pred {f : Int → Int} {x : Int} {c : List Int} (h : IsRing f x c) {j : Int} (hj : j ∈ c) : ∃ q ∈ c, f q = j := by
  obtain ⟨h0, hx, hs, he⟩ := h
  obtain ⟨k, hk, e⟩ := List.getElem_of_mem hj
  cases k with
  | zero =>
    refine ⟨ix c (c.length - 1), ix_mem (by omega), ?_⟩
    rw [he, ← hx, ix_eq h0]; exact e
  | succ k =>
    refine ⟨ix c k, ix_mem (by omega), ?_⟩
    rw [(hs k hk).1, ix_eq hk]; exact e
theorem orderGo_stuck {scr sp : Int} {f : Nat} {mv : List D.Move} {o : List D.Mach} {e : Int} (h : e ≠ 0) : (orderGo scr sp f mv o e).2 ≠ 0 := by rw [orderGo_end (.inr h)]; exact h
theorem orderGo_do {scr sp : Int} {n : Nat} (hs : scr < 16) (hsp : sp < 16383) (h16 : 16 ≤ n) (hn : n ≤ 16400) (hspn : 0 ≤ sp → 17 + sp < n) : ∀ (f : Nat) (mv : List D.Move) (o : List D.Mach), mv.length ≤ f → okM mv = true → (keysM mv).Nodup →
    (∀ m ∈ mv, (m.To < n ∧ m.From < n) ∧ Nsp scr sp m.To ∧ Nsp scr sp m.From) → (orderGo scr sp f mv o 0).2 = 0 → ∀ p : List Int, p.length = n → ∀ i : Int, 0 ≤ i ∧ i < n → Nsp scr sp i → atM (doM (orderGo scr sp f mv o 0).1 p) i = atM (doM o p) (frM mv i)
  | 0, mv, o, hl, hok, hk, hm, he, p, hp, i, hi, hni => by
    have : mv = [] := List.eq_nil_of_length_eq_zero (by omega)
    subst this; rfl
  | f + 1, mv, o, hl, hok, hk, hm, he, p, hp, i, hi, hni => by
    by_cases h0 : mv.length = 0
    · have : mv = [] := List.eq_nil_of_length_eq_zero h0
      subst this; rfl
    have hfr : ∀ (w : List D.Move), (keysM w).Nodup → (∀ m ∈ w, m ∈ mv) → ∀ i : Int, 0 ≤ i ∧ i < n → Nsp scr sp i → (0 ≤ frM w i ∧ frM w i < n) ∧ Nsp scr sp (frM w i) := by
      intro w hw hsub i hi hni
      rcases fr_cases hw i with ⟨m, hmw, _, e⟩ | ⟨_, e⟩
      · rw [e]
        have h1 := okM_mem hok (hsub m hmw)
        obtain ⟨h2, h3, h4⟩ := hm m (hsub m hmw)
        exact ⟨⟨h1.2.1, h2.2⟩, h4⟩
      · rw [e]; exact ⟨hi, hni⟩
    by_cases hf : 0 ≤ freeM mv
    · rw [orderGo_free h0 hf hl] at he ⊢
      rw [Nat.add_sub_cancel] at he ⊢
      obtain ⟨m0, hm0, e0, hu⟩ := freeM_mem hf
      have hsrc : srcM mv (freeM mv) = m0.From := by rw [← e0]; exact src_eq hk hm0
      rw [hsrc, ← e0] at he ⊢
      obtain ⟨⟨a1, a2⟩, a3, a4⟩ := hm m0 hm0
      have hok0 := okM_mem hok hm0
      have hbe : bringE scr sp m0.To m0.From 0 = 0 := by
        rcases bringE_two (scr := scr) (sp := sp) (a := m0.To) (b := m0.From) (e := 0) (.inl rfl) with h9 | h9
        · exact h9
        · rw [h9] at he; exact absurd he (orderGo_stuck (by decide))
      rw [hbe] at he ⊢
      have hx : 0 ≤ scr ∨ 0 ≤ sp ∨ m0.To < 16 ∨ m0.From < 16 := by
        unfold bringE at hbe
        rw [if_neg (by decide)] at hbe
        split at hbe
        · cases hbe
        · omega
      rw [orderGo_do hs hsp h16 hn hspn f _ _ (by have := withoutM_lt ⟨m0, hm0, rfl⟩; omega) (withoutM_ok hok _) (without_nodup hk _) (fun m h => hm m (without_mem.1 h).1) he p hp i hi hni, bringL_0, doM_app]
      have hb := bring_any (scr := scr) (sp := sp) hs h16 (by omega) ⟨hok0.1.1, a1⟩ ⟨hok0.2.1, a2⟩ (fun h9 => ⟨hspn h9, (a3.2 h9).2, (a4.2 h9).2⟩) hx (doM o p) (by rw [doM_len, hp])
      obtain ⟨r1, r2⟩ := hfr (withoutM mv m0.To) (without_nodup hk _) (fun m h => (without_mem.1 h).1) i hi hni
      rw [hb _ ⟨r1.1, r1.2, r2.1, fun h9 => (r2.2 h9).2⟩]
      by_cases ei : i = m0.To
      · rw [ei, fr_out (fun m h => (without_mem.1 h).2), if_pos rfl, fr_in hk hm0]
      · have e1 : frM (withoutM mv m0.To) i = frM mv i := fr_eq hk (without_nodup hk _) fun m he => ⟨fun h => (without_mem.1 h).1, fun h => without_mem.2 ⟨h, fun e9 => ei (by rw [← he, e9])⟩⟩
        rw [e1, if_neg]
        rcases fr_cases hk i with ⟨m, hmm, _, e⟩ | ⟨_, e⟩
        · rw [e]; intro e9
          have : usedM mv m0.To = true := List.any_eq_true.2 ⟨m, hmm, by simpa using e9⟩
          rw [this] at hu; cases hu
        · rw [e]; exact ei
    · have hf' : freeM mv < 0 := by omega
      rw [orderGo_circ h0 hf hl] at he ⊢
      rw [Nat.add_sub_cancel] at he ⊢
      obtain ⟨hr, hnd, hck⟩ := circ_ring hok hk hf' (by omega)
      generalize hc : circM mv (leastM mv) = c at *
      have hre : (roundR scr sp c o 0).2 = 0 := by
        rcases Decidable.em ((roundR scr sp c o 0).2 = 0) with h9 | h9
        · exact h9
        · exact absurd he (orderGo_stuck h9)
      rw [hre] at he ⊢
      have hcm : ∀ q ∈ c, (0 ≤ q ∧ q < n) ∧ Nsp scr sp q := by
        intro q hq
        obtain ⟨m, hmm, e⟩ := List.mem_map.1 (hck q hq)
        have h1 := okM_mem hok hmm
        obtain ⟨h2, h3, h4⟩ := hm m hmm
        rw [← e]; exact ⟨⟨h1.1.1, h2.1⟩, h3⟩
      rw [orderGo_do hs hsp h16 hn hspn f _ _ (by have := circ_lt (mv := mv) (by omega); rw [hc] at this; omega) (withoutAll_ok _ hok) (withoutAll_nodup _ hk) (fun m h => hm m ((withoutAll_mem c).1 h).1) he p hp i hi hni]
      obtain ⟨r1, r2⟩ := hfr (withoutAll mv c) (withoutAll_nodup c hk) (fun m h => ((withoutAll_mem c).1 h).1) i hi hni
      rw [round_do hs hsp h16 hn hspn hr hnd hcm hre hp r1 r2]
      by_cases ei : i ∈ c
      · rw [fr_out (mv := withoutAll mv c) (i := i) (fun m h e => ((withoutAll_mem c).1 h).2 (by rw [e]; exact ei)), if_pos ei]
        obtain ⟨m, hmm, e⟩ := List.mem_map.1 (hck i ei)
        have e' : m.To = i := e
        rw [← e', fr_in hk hmm, src_eq hk hmm]
      · have e1 : frM (withoutAll mv c) i = frM mv i := fr_eq hk (withoutAll_nodup c hk) fun m he => ⟨fun h => ((withoutAll_mem c).1 h).1, fun h => (withoutAll_mem c).2 ⟨h, by rw [he]; exact ei⟩⟩
        rw [e1, if_neg]
        rcases fr_cases hk i with ⟨m, hmm, hmi, e⟩ | ⟨_, e⟩
        · rw [e]; intro e9
          obtain ⟨q, hq, e2⟩ := ring_pred hr e9
          obtain ⟨m2, hm2, e3⟩ := List.mem_map.1 (hck q hq)
          have e3' : m2.To = q := e3
          rw [← e3', src_eq hk hm2] at e2
          have := nodup_inj (·.From) (froms_nodup hok hk hf') m hmm m2 hm2 e2.symm
          subst this
          exact ei (by rw [← hmi, e3']; exact hq)
        · rw [e]; exact ei
theorem fr_left {l : List D.Move} (hk : (keysM l).Nodup) (i : Int) : frM (leftM l) i = frM l i := by
  have hl : (keysM (leftM l)).Nodup := hk.sublist (List.filter_sublist.map _)
  rcases fr_cases hk i with ⟨m, hm, he, e⟩ | ⟨h, e⟩
  · rw [e]
    by_cases h9 : m.To = m.From
    · rw [← h9, ← he]
      refine fr_out fun m2 hm2 e2 => ?_
      have h1 := List.mem_filter.1 (show m2 ∈ l.filter _ from hm2)
      have := nodup_inj (fun m : D.Move => m.To) (show (l.map (fun m : D.Move => m.To)).Nodup from hk) m2 h1.1 m hm e2
      subst this
      have := h1.2
      simp [h9] at this
    · rw [← he]; exact fr_in hl (List.mem_filter.2 ⟨hm, by simpa using h9⟩)
  · rw [e]; exact fr_out fun m hm => h m (List.mem_filter.1 hm).1
/-- P11.5: an order, one by one, is its moves, all at once -/
theorem order_do {scr sp : Int} {n : Nat} {l : List D.Move} (hs : scr < 16) (hsp : sp < 16383) (h16 : 16 ≤ n) (hn : n ≤ 16400) (hspn : 0 ≤ sp → 17 + sp < n) (hw : wrongM l scr sp = 0) (hk : (keysM l).Nodup)
    (hm : ∀ m ∈ l, (m.To < n ∧ m.From < n) ∧ Nsp scr sp m.To ∧ Nsp scr sp m.From) (he : (orderR l scr sp).2 = 0) {p : List Int} (hp : p.length = n) {i : Int} (hi : 0 ≤ i ∧ i < n) (hni : Nsp scr sp i) :
    atM (doM (orderR l scr sp).1 p) i = atM (afterP l p) i := by
  have he' : (orderGo scr sp (leftM l).length (leftM l) [] 0).2 = 0 := by
    unfold orderR at he
    rw [if_neg (by omega)] at he
    split at he
    · rename_i h9; exact absurd he h9
    · rename_i h9; omega
  rw [orderR_ok hw he', after_fr hk (by omega), ← fr_left hk]
  exact orderGo_do hs hsp h16 hn hspn _ _ [] (Nat.le_refl _) (leftM_ok (wrongM_ok hw).1) (hk.sublist (List.filter_sublist.map _)) (fun m h => hm m (List.mem_filter.1 h).1) he' p hp i hi hni

end Go.Proofs.Ytcceglmmpbdhiaa
