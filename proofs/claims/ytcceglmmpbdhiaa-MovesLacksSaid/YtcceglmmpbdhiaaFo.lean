/- Moves in order: plain mathematics. -/
import Derived.Test.YtcceglmmpbdhiaaWH
import Derived.Test.YtcceglmmpbdhiaaSx
namespace Go.Proofs.Ytcceglmmpbdhiaa
set_option linter.unusedVariables false
set_option linter.unusedSimpArgs false
set_option linter.unusedSectionVars false
set_option maxRecDepth 8000
open Go.JE


/- ---------------------------------------------- keys in order -/
theorem sortM_perm (l : List Int) : (sortM l).Perm l := List.mergeSort_perm l _
theorem sortM_sorted (l : List Int) : (sortM l).Pairwise (· ≤ ·) := by
  have h := List.pairwise_mergeSort (le := fun x y : Int => decide (x ≤ y)) (by intro a b c; simp; omega) (by intro a b; simp; omega) l
  exact h.imp (by intro a b h; simpa using h)
theorem sorted_eq {a b : List Int} (h : a.Perm b) (ha : a.Pairwise (· ≤ ·)) (hb : b.Pairwise (· ≤ ·)) : a = b :=
  List.Perm.eq_of_pairwise (le := (· ≤ ·)) (fun x y _ _ h1 h2 => Int.le_antisymm h1 h2) ha hb h
theorem sortM_congr {a b : List Int} (h : a.Perm b) : sortM a = sortM b := sorted_eq ((sortM_perm a).trans (h.trans (sortM_perm b).symm)) (sortM_sorted a) (sortM_sorted b)
theorem sortM_filter (l : List Int) (q : Int → Bool) : sortM (l.filter q) = (sortM l).filter q :=
  sorted_eq ((sortM_perm _).trans ((sortM_perm l).symm.filter q)) (sortM_sorted _) ((sortM_sorted l).filter q)
def keysM (mv : List D.Move) : List Int := mv.map (·.To)
def leftL (mv : List D.Move) : List Int := sortM (keysM mv)
theorem leftL_len (mv : List D.Move) : (leftL mv).length = mv.length := by unfold leftL; rw [(sortM_perm _).length_eq]; simp [keysM]
theorem leftL_mem {mv : List D.Move} {p : Int} : p ∈ leftL mv ↔ ∃ m ∈ mv, m.To = p := by
  unfold leftL; rw [(sortM_perm _).mem_iff]; simp [keysM]
theorem keys_without (mv : List D.Move) (p : Int) : keysM (withoutM mv p) = (keysM mv).filter (fun x => !eqB p x) := by
  unfold keysM withoutM
  rw [List.filter_map]
  congr 1
  apply List.filter_congr
  intro m _
  simp [eqB]
theorem leftL_without (mv : List D.Move) (p : Int) : leftL (withoutM mv p) = dropM (leftL mv) p := by unfold leftL dropM; rw [keys_without, sortM_filter]
def cntM (mv : List D.Move) (p : Int) : Int := ((mv.filter (fun m => decide (m.From = p))).length : Int)
theorem cnt_used (mv : List D.Move) (p : Int) : zeroAt (cntM mv) p = !usedM mv p := by
  unfold zeroAt cntM usedM
  by_cases h : mv.any (fun m => decide (m.From = p)) = true
  · rw [h]
    obtain ⟨m, hm, e⟩ := List.any_eq_true.1 h
    have : m ∈ mv.filter (fun m => decide (m.From = p)) := List.mem_filter.2 ⟨hm, e⟩
    have := List.length_pos_of_mem this
    simp only [Bool.not_true, decide_eq_false_iff_not]; omega
  · rw [Bool.not_eq_true] at h
    rw [h]
    have : mv.filter (fun m => decide (m.From = p)) = [] := by
      rw [List.filter_eq_nil_iff]
      intro m hm
      rw [List.any_eq_false] at h
      exact h m hm
    rw [this]; rfl
/- the least that no one takes from -/
theorem freeF_spec (all : List D.Move) : ∀ (r : List D.Move) (b : Int), (∀ m ∈ r, 0 ≤ m.To) → -1 ≤ b →
    (0 ≤ freeF all r b → (0 ≤ b → freeF all r b ≤ b) ∧ ∀ m ∈ r, usedM all m.To = false → freeF all r b ≤ m.To) ∧ (freeF all r b < 0 → b < 0 ∧ ∀ m ∈ r, usedM all m.To = true)
  | [], b, _, hb => by simp [freeF]
  | m :: r, b, hr, hb => by
    have hm := hr m (List.mem_cons_self ..)
    have hr' : ∀ x ∈ r, 0 ≤ x.To := fun x hx => hr x (List.mem_cons_of_mem _ hx)
    unfold freeF
    by_cases hu : usedM all m.To = false
    · by_cases hlt : b < 0 ∨ m.To < b
      · rw [if_pos ⟨hu, hlt⟩]
        obtain ⟨h1, h2⟩ := freeF_spec all r m.To hr' (by omega)
        refine ⟨fun h => ?_, fun h => ?_⟩
        · obtain ⟨h3, h4⟩ := h1 h
          have h5 := h3 hm
          refine ⟨fun hb0 => by omega, fun x hx hux => ?_⟩
          rcases List.mem_cons.1 hx with rfl | hx
          · exact h5
          · exact h4 x hx hux
        · have := (h2 h).1; omega
      · rw [if_neg (fun h => hlt h.2)]
        obtain ⟨h1, h2⟩ := freeF_spec all r b hr' hb
        refine ⟨fun h => ?_, fun h => ?_⟩
        · obtain ⟨h3, h4⟩ := h1 h
          have h5 := h3 (by omega)
          refine ⟨fun _ => h5, fun x hx hux => ?_⟩
          rcases List.mem_cons.1 hx with rfl | hx
          · omega
          · exact h4 x hx hux
        · have := (h2 h).1; omega
    · rw [if_neg (fun h => hu h.1)]
      obtain ⟨h1, h2⟩ := freeF_spec all r b hr' hb
      refine ⟨fun h => ?_, fun h => ?_⟩
      · obtain ⟨h3, h4⟩ := h1 h
        refine ⟨h3, fun x hx hux => ?_⟩
        rcases List.mem_cons.1 hx with rfl | hx
        · exact absurd hux hu
        · exact h4 x hx hux
      · obtain ⟨h3, h4⟩ := h2 h
        refine ⟨h3, fun x hx => ?_⟩
        rcases List.mem_cons.1 hx with rfl | hx
        · simpa using hu
        · exact h4 x hx
theorem free_no {mv : List D.Move} (h : okM mv = true) (hn : freeM mv < 0) : ∀ m ∈ mv, usedM mv m.To = true :=
  ((freeF_spec mv mv (-1) (fun m hm => (okM_mem h hm).1.1) (by omega)).2 hn).2
theorem free_least {mv : List D.Move} (h : okM mv = true) (hn : 0 ≤ freeM mv) : ∀ m ∈ mv, usedM mv m.To = false → freeM mv ≤ m.To :=
  ((freeF_spec mv mv (-1) (fun m hm => (okM_mem h hm).1.1) (by omega)).1 hn).2
theorem idx_free {mv : List D.Move} (h : okM mv = true) {uu : Int → Int} (hu : ∀ p, uu p = cntM mv p) :
    (0 ≤ idxM (leftL mv) (zeroAt uu) → ∃ i : Nat, idxM (leftL mv) (zeroAt uu) = i ∧ i < (leftL mv).length ∧ ix (leftL mv) i = freeM mv ∧ 0 ≤ freeM mv) ∧ (idxM (leftL mv) (zeroAt uu) < 0 → freeM mv < 0) := by
  have hz : ∀ p, zeroAt uu p = !usedM mv p := fun p => by rw [← cnt_used]; unfold zeroAt; rw [hu]
  unfold idxM
  cases e : (leftL mv).findIdx? (zeroAt uu) with
  | some i =>
    obtain ⟨hi, h1, h2⟩ := List.findIdx?_eq_some_iff_getElem.1 e
    refine ⟨fun _ => ⟨i, rfl, hi, ?_⟩, fun h => by simp at h; omega⟩
    rw [hz] at h1
    have hx : (leftL mv)[i] ∈ leftL mv := List.getElem_mem hi
    obtain ⟨m, hm, he⟩ := leftL_mem.1 hx
    have hmu : usedM mv m.To = false := by rw [he]; simpa using h1
    have hf0 : 0 ≤ freeM mv := by
      rcases Int.lt_or_le (freeM mv) 0 with h9 | h9
      · have := free_no h h9 m hm; rw [hmu] at this; cases this
      · exact h9
    refine ⟨?_, hf0⟩
    rw [ix_eq hi]
    have h3 : freeM mv ≤ (leftL mv)[i] := by rw [← he]; exact free_least h hf0 m hm hmu
    obtain ⟨m2, hm2, he2, hu2⟩ := freeM_mem hf0
    have h4 : freeM mv ∈ leftL mv := leftL_mem.2 ⟨m2, hm2, he2⟩
    obtain ⟨j, hj, hje⟩ := List.getElem_of_mem h4
    rcases Nat.lt_or_ge j i with h5 | h5
    · have := h2 j h5
      rw [hz, hje, ← he2, hu2] at this; simp at this
    · have hs := sortM_sorted (keysM mv)
      rw [List.pairwise_iff_getElem] at hs
      rcases Nat.lt_or_ge i j with h6 | h6
      · have h7 := hs i j hi hj h6
        have h8 : (leftL mv)[i] ≤ (leftL mv)[j] := h7
        rw [hje] at h8; omega
      · have h6' : i = j := by omega
        subst h6'; exact hje
  | none =>
    refine ⟨fun h => by simp at h, fun _ => ?_⟩
    rw [List.findIdx?_eq_none_iff] at e
    rcases Int.lt_or_le (freeM mv) 0 with h9 | h9
    · exact h9
    · obtain ⟨m2, hm2, he2, hu2⟩ := freeM_mem h9
      have := e m2.To (leftL_mem.2 ⟨m2, hm2, rfl⟩)
      rw [hz, hu2] at this; simp at this
theorem minM_le : ∀ (mv : List D.Move) (x : Int), minM mv x ≤ x ∧ ∀ m ∈ mv, minM mv x ≤ m.To
  | [], x => ⟨Int.le_refl _, fun m hm => by cases hm⟩
  | a :: r, x => by
    unfold minM
    obtain ⟨h1, h2⟩ := minM_le r (min x a.To)
    refine ⟨by omega, fun m hm => ?_⟩
    rcases List.mem_cons.1 hm with rfl | hm
    · omega
    · exact h2 m hm
theorem head_least {mv : List D.Move} (h : 0 < mv.length) : ix (leftL mv) 0 = leastM mv := by
  have hl : 0 < (leftL mv).length := by rw [leftL_len]; exact h
  rw [ix_eq hl]
  obtain ⟨m, hm, he⟩ := leftL_mem.1 (List.getElem_mem hl)
  obtain ⟨m2, hm2, he2⟩ := leastM_mem h
  have h1 : leastM mv ≤ (leftL mv)[0] := by rw [← he]; exact (minM_le mv _).2 m hm
  obtain ⟨j, hj, hje⟩ := List.getElem_of_mem (leftL_mem.2 ⟨m2, hm2, he2⟩)
  have hs := sortM_sorted (keysM mv)
  rw [List.pairwise_iff_getElem] at hs
  rcases Nat.eq_zero_or_pos j with h6 | h6
  · subst h6; exact hje
  · have h8 : (leftL mv)[0] ≤ (leftL mv)[j] := hs 0 j hl hj h6
    omega

/- ---------------------------------------------- circles close -/
theorem perm_of_sub : ∀ (ks fs : List Int), ks.Nodup → (∀ k ∈ ks, k ∈ fs) → fs.length ≤ ks.length → fs.Perm ks
  | [], fs, _, _, hl => by rw [List.eq_nil_of_length_eq_zero (Nat.le_zero.1 hl)]
  | k :: ks, fs, hn, hs, hl => by
    have hk := hs k (List.mem_cons_self ..)
    have h1 := List.perm_cons_erase hk
    refine h1.trans (List.Perm.cons k (perm_of_sub ks (fs.erase k) (List.nodup_cons.1 hn).2 (fun a ha => ?_) ?_))
    · have hne : a ≠ k := fun e => (List.nodup_cons.1 hn).1 (e ▸ ha)
      exact (List.mem_erase_of_ne hne).2 (hs a (List.mem_cons_of_mem _ ha))
    · have := h1.length_eq; simp only [List.length_cons] at this hl; omega
theorem nodup_len : ∀ (ks fs : List Int), ks.Nodup → (∀ k ∈ ks, k ∈ fs) → ks.length ≤ fs.length
  | [], _, _, _ => Nat.zero_le _
  | k :: ks, fs, hn, hs => by
    have hk := hs k (List.mem_cons_self ..)
    have h1 := (List.perm_cons_erase hk).length_eq
    have h2 := nodup_len ks (fs.erase k) (List.nodup_cons.1 hn).2 (fun a ha => by
      have hne : a ≠ k := fun e => (List.nodup_cons.1 hn).1 (e ▸ ha)
      exact (List.mem_erase_of_ne hne).2 (hs a (List.mem_cons_of_mem _ ha)))
    simp only [List.length_cons] at h1 ⊢; omega
theorem perm_without {mv : List D.Move} (hn : (keysM mv).Nodup) {m0 : D.Move} (h : m0 ∈ mv) : mv.Perm (m0 :: withoutM mv m0.To) := by
  induction mv with
  | nil => cases h
  | cons a r ih =>
    have hn' : (a.To :: keysM r).Nodup := hn
    obtain ⟨ha, hr⟩ := List.nodup_cons.1 hn'
    have hout : ∀ m ∈ r, m.To ≠ a.To := fun m hm e => ha (by rw [← e]; exact List.mem_map_of_mem hm)
    rcases List.mem_cons.1 h with rfl | h
    · have : withoutM (m0 :: r) m0.To = r := by
        unfold withoutM
        rw [List.filter_cons_of_neg (by simp), List.filter_eq_self]
        intro m hm; simpa using hout m hm
      rw [this]
    · have hne : a.To ≠ m0.To := (hout m0 h).symm
      have : withoutM (a :: r) m0.To = a :: withoutM r m0.To := by unfold withoutM; rw [List.filter_cons_of_pos (by simpa using hne)]
      rw [this]
      exact ((ih hr h).cons a).trans (List.Perm.swap ..)
theorem cnt_without {mv : List D.Move} (hn : (keysM mv).Nodup) {m0 : D.Move} (h : m0 ∈ mv) (q : Int) : cntM (withoutM mv m0.To) q = upF (cntM mv) m0.From (cntM mv m0.From - 1) q := by
  have hp := perm_without hn h
  have hc : ∀ q, cntM mv q = (if m0.From = q then 1 else 0) + cntM (withoutM mv m0.To) q := by
    intro q
    unfold cntM
    rw [(hp.filter _).length_eq, List.filter_cons]
    by_cases e : m0.From = q
    · simp [e]; omega
    · simp [e]
  unfold upF
  by_cases e : q = m0.From
  · subst e; rw [if_pos rfl, hc]; simp; omega
  · rw [if_neg e, hc q, if_neg (fun e9 => e e9.symm)]; omega
theorem src_eq {mv : List D.Move} (hn : (keysM mv).Nodup) {m : D.Move} (h : m ∈ mv) : srcM mv m.To = m.From := by
  unfold srcM
  have key : ∀ (l : List D.Move) (o : Int), (keysM l).Nodup → m ∈ l → sourceM l m.To o = m.From := by
    intro l
    induction l with
    | nil => intro _ _ h; cases h
    | cons a r ih =>
      intro o hn h
      have hn' : (a.To :: keysM r).Nodup := hn
      obtain ⟨ha, hr⟩ := List.nodup_cons.1 hn'
      unfold sourceM
      rcases List.mem_cons.1 h with rfl | h
      · rw [if_pos rfl]
        rcases sourceM_cases m.To r m.From with e | ⟨m', h1, h2, _⟩
        · exact e
        · exact absurd (h2 ▸ List.mem_map_of_mem (f := (·.To)) h1) ha
      · exact ih _ hr h
  exact key mv _ hn h
def ffM (mv : List D.Move) (p : Int) : Int := match mv.find? (fun m => m.To == p) with
  | some m => m.From
  | none => 0
theorem ff_eq {mv : List D.Move} (hn : (keysM mv).Nodup) {m : D.Move} (h : m ∈ mv) : ffM mv m.To = m.From := by
  unfold ffM
  cases e : mv.find? (fun x => x.To == m.To) with
  | none => rw [List.find?_eq_none] at e; exact absurd (e m h) (by simp)
  | some x =>
    have h1 := List.mem_of_find?_eq_some e
    have h2 : x.To = m.To := by simpa using List.find?_some e
    show x.From = m.From
    rw [← src_eq hn h1, h2, src_eq hn h]
theorem circ_spec (mv : List D.Move) (x : Int) : ∀ (fuel : Nat) (y : Int), (∀ i, i + 1 < (y :: circGo mv x fuel (srcM mv y)).length → srcM mv (ix (y :: circGo mv x fuel (srcM mv y)) i) = ix (y :: circGo mv x fuel (srcM mv y)) (i + 1) ∧ ix (y :: circGo mv x fuel (srcM mv y)) (i + 1) ≠ x) ∧
    ((srcM mv (ix (y :: circGo mv x fuel (srcM mv y)) ((y :: circGo mv x fuel (srcM mv y)).length - 1)) = x ∨ srcM mv (ix (y :: circGo mv x fuel (srcM mv y)) ((y :: circGo mv x fuel (srcM mv y)).length - 1)) < 0) ∨ (y :: circGo mv x fuel (srcM mv y)).length = fuel + 1)
  | 0, y => ⟨fun i h => by simp [circGo] at h, .inr rfl⟩
  | fuel + 1, y => by
    by_cases h : srcM mv y ≠ x ∧ 0 ≤ srcM mv y
    · have e : circGo mv x (fuel + 1) (srcM mv y) = srcM mv y :: circGo mv x fuel (srcM mv (srcM mv y)) := by rw [circGo, if_pos h]
      obtain ⟨h1, h2⟩ := circ_spec mv x fuel (srcM mv y)
      rw [e]
      generalize srcM mv y :: circGo mv x fuel (srcM mv (srcM mv y)) = c' at h1 h2 e
      have hc0 : ∀ i, ix (y :: c') (i + 1) = ix c' i := fun i => rfl
      have hpos : 0 < c'.length := by
        rcases Nat.eq_zero_or_pos c'.length with h9 | h9
        · have := congrArg List.length e; simp only [circGo] at this; rw [if_pos h] at this; simp at this; omega
        · exact h9
      refine ⟨fun i hi => ?_, ?_⟩
      · cases i with
        | zero =>
          rw [hc0]
          have : ix c' 0 = srcM mv y := by
            have h8 := congrArg (fun l => ix l 0) e
            simp only [circGo] at h8; rw [if_pos h] at h8
            exact h8.symm
          rw [this]; exact ⟨rfl, h.1⟩
        | succ j =>
          rw [hc0, hc0]
          exact h1 j (by simp only [List.length_cons] at hi; omega)
      · have : ix (y :: c') ((y :: c').length - 1) = ix c' (c'.length - 1) := by
          rw [List.length_cons, show c'.length + 1 - 1 = (c'.length - 1) + 1 by omega, hc0]
        rw [this, List.length_cons]
        rcases h2 with h2 | h2
        · exact .inl h2
        · exact .inr (by omega)
    · have e : circGo mv x (fuel + 1) (srcM mv y) = [] := by rw [circGo, if_neg h]
      rw [e]
      refine ⟨fun i hi => by simp at hi, .inl ?_⟩
      show srcM mv y = x ∨ srcM mv y < 0
      omega
/-- no one is free: circles -/
theorem circ_ring {mv : List D.Move} (hok : okM mv = true) (hn : (keysM mv).Nodup) (hf : freeM mv < 0) (h0 : 0 < mv.length) :
    IsRing (srcM mv) (leastM mv) (circM mv (leastM mv)) ∧ (circM mv (leastM mv)).Nodup ∧ (∀ p ∈ circM mv (leastM mv), p ∈ keysM mv) := by
  have hfs : ∀ k ∈ keysM mv, k ∈ mv.map (·.From) := by
    intro k hk
    obtain ⟨m, hm, rfl⟩ := List.mem_map.1 hk
    obtain ⟨m2, h1, h2⟩ := List.any_eq_true.1 (free_no hok hf m hm)
    have h2' : m2.From = m.To := by simpa using h2
    rw [← h2']; exact List.mem_map_of_mem h1
  have hperm := perm_of_sub (keysM mv) (mv.map (·.From)) hn hfs (by simp [keysM])
  have hfn : (mv.map (·.From)).Nodup := hperm.nodup_iff.2 hn
  have hkey : ∀ k ∈ keysM mv, srcM mv k ∈ keysM mv := by
    intro k hk
    obtain ⟨m, hm, rfl⟩ := List.mem_map.1 hk
    rw [src_eq hn hm]
    exact hperm.mem_iff.1 (List.mem_map_of_mem hm)
  have hinj : ∀ a ∈ keysM mv, ∀ b ∈ keysM mv, srcM mv a = srcM mv b → a = b := by
    intro a ha b hb he
    obtain ⟨m, hm, rfl⟩ := List.mem_map.1 ha
    obtain ⟨m2, hm2, rfl⟩ := List.mem_map.1 hb
    rw [src_eq hn hm, src_eq hn hm2] at he
    obtain ⟨i, hi, rfl⟩ := List.getElem_of_mem hm
    obtain ⟨j, hj, rfl⟩ := List.getElem_of_mem hm2
    rw [List.nodup_iff_pairwise_ne, List.pairwise_iff_getElem] at hfn
    rcases Nat.lt_trichotomy i j with h | h | h
    · have := hfn i j (by simpa using hi) (by simpa using hj) h
      simp only [List.getElem_map] at this; exact absurd he this
    · subst h; rfl
    · have := hfn j i (by simpa using hj) (by simpa using hi) h
      simp only [List.getElem_map] at this; exact absurd he.symm this
  have hpos : ∀ k ∈ keysM mv, 0 ≤ k := by
    intro k hk
    obtain ⟨m, hm, rfl⟩ := List.mem_map.1 hk
    exact (okM_mem hok hm).1.1
  have hx : leastM mv ∈ keysM mv := by obtain ⟨m, hm, e⟩ := leastM_mem h0; rw [← e]; exact List.mem_map_of_mem hm
  obtain ⟨hs1, hs2⟩ := circ_spec mv (leastM mv) mv.length (leastM mv)
  rw [show leastM mv :: circGo mv (leastM mv) mv.length (srcM mv (leastM mv)) = circM mv (leastM mv) from rfl] at hs1 hs2
  generalize hc : circM mv (leastM mv) = c at hs1 hs2
  have hc0 : ix c 0 = leastM mv := by rw [← hc]; rfl
  have hcl : 0 < c.length := by rw [← hc]; simp [circM]
  have hall : ∀ i, i < c.length → ix c i ∈ keysM mv := by
    intro i
    induction i with
    | zero => intro _; rw [hc0]; exact hx
    | succ i ih => intro hi; rw [← (hs1 i hi).1]; exact hkey _ (ih (by omega))
  have hne : ∀ i j, i < j → j < c.length → ix c i ≠ ix c j := by
    intro i
    induction i with
    | zero =>
      intro j hj hl e
      obtain ⟨k, rfl⟩ : ∃ k, j = k + 1 := ⟨j - 1, by omega⟩
      rw [hc0] at e
      exact (hs1 k hl).2 e.symm
    | succ i ih =>
      intro j hj hl e
      obtain ⟨k, rfl⟩ : ∃ k, j = k + 1 := ⟨j - 1, by omega⟩
      rw [← (hs1 i (by omega)).1, ← (hs1 k hl).1] at e
      exact ih k (by omega) (by omega) (hinj _ (hall i (by omega)) _ (hall k (by omega)) e)
  have hnd : c.Nodup := by
    rw [List.nodup_iff_pairwise_ne, List.pairwise_iff_getElem]
    intro i j hi hj hij
    rw [← ix_eq hi, ← ix_eq hj]
    exact hne i j hij hj
  have hsub : ∀ p ∈ c, p ∈ keysM mv := by
    intro p hp
    obtain ⟨i, hi, rfl⟩ := List.getElem_of_mem hp
    rw [← ix_eq hi]; exact hall i hi
  have hlen := nodup_len c (keysM mv) hnd hsub
  rw [show (keysM mv).length = mv.length by simp [keysM]] at hlen
  have hlast : srcM mv (ix c (c.length - 1)) = leastM mv := by
    rcases hs2 with (h | h) | h
    · exact h
    · have := hpos _ (hkey _ (hall (c.length - 1) (by omega))); omega
    · omega
  refine ⟨⟨hcl, hc0, fun i hi => ⟨(hs1 i hi).1, by rw [(hs1 i hi).1]; exact (hs1 i hi).2⟩, hlast⟩, hnd, hsub⟩
theorem ring_congr {f g : Int → Int} {x : Int} {c : List Int} (h : IsRing f x c) (he : ∀ p ∈ c, g p = f p) : IsRing g x c := by
  obtain ⟨h0, h1, h2, h3⟩ := h
  have hg : ∀ i, i < c.length → g (ix c i) = f (ix c i) := fun i hi => he _ (ix_mem hi)
  exact ⟨h0, h1, fun i hi => by rw [hg i (by omega)]; exact h2 i hi, by rw [hg _ (by omega)]; exact h3⟩
def toPl (p : Int) : Pl := Fin.ofNat 16400 p.toNat
theorem toPl_val {p : Int} (h : 0 ≤ p ∧ p < 16400) : ((toPl p).val : Int) = p := by
  unfold toPl
  show ((p.toNat % 16400 : Nat) : Int) = p
  omega
def ringX (f : Int → Int) (c : List Int) : List (Pl × Pl) := c.map fun p => (toPl p, toPl (f p))
theorem ringX_of {f : Int → Int} {x : Int} {c : List Int} (h : IsRing f x c) (hr : ∀ p ∈ c, (0 ≤ p ∧ p < 16400) ∧ 0 ≤ f p ∧ f p < 16400) : RingOf f x c (ringX f c) := by
  refine ⟨h, by simp [ringX], fun k hk => ?_⟩
  have hk' : k < c.length := by simpa [ringX] using hk
  obtain ⟨h1, h2⟩ := hr (ix c k) (ix_mem hk')
  have he : (ringX f c)[k] = (toPl (ix c k), toPl (f (ix c k))) := by rw [ix_eq hk']; exact List.getElem_map _
  rw [he]
  exact ⟨toPl_val h1, toPl_val h2⟩
/- what goes -/
def goneU (ff : Int → Int) (uu : Int → Int) (c : List Int) : Int → Int := c.foldl (fun u p => upF u (ff p) (u (ff p) - 1)) uu
def goneL (lf : List Int) (c : List Int) : List Int := c.foldl dropM lf
theorem keys_nodup {mv : List D.Move} (hn : (keysM mv).Nodup) (p : Int) : (keysM (withoutM mv p)).Nodup := by rw [keys_without]; exact hn.filter _
theorem gone_all {ff : Int → Int} : ∀ (c : List Int) {mv : List D.Move} {uu : Int → Int}, (keysM mv).Nodup → c.Nodup → (∀ p ∈ c, p ∈ keysM mv) → (∀ m ∈ mv, ff m.To = m.From) → (∀ p, uu p = cntM mv p) →
    (keysM (withoutAll mv c)).Nodup ∧ (∀ p, goneU ff uu c p = cntM (withoutAll mv c) p) ∧ goneL (leftL mv) c = leftL (withoutAll mv c) ∧ (∀ m ∈ withoutAll mv c, m ∈ mv)
  | [], mv, uu, hn, _, _, _, hu => ⟨hn, hu, rfl, fun _ h => h⟩
  | p :: c, mv, uu, hn, hc, hs, hff, hu => by
    obtain ⟨m0, hm0, rfl⟩ := List.mem_map.1 (hs p (List.mem_cons_self ..))
    obtain ⟨hc1, hc2⟩ := List.nodup_cons.1 hc
    have hsub : ∀ m ∈ withoutM mv m0.To, m ∈ mv := fun m hm => (List.mem_filter.1 hm).1
    obtain ⟨h1, h2, h3, h4⟩ := gone_all (ff := ff) c (mv := withoutM mv m0.To) (uu := upF uu (ff m0.To) (uu (ff m0.To) - 1)) (keys_nodup hn _) hc2
      (fun q hq => by
        rw [keys_without, List.mem_filter]
        exact ⟨hs q (List.mem_cons_of_mem _ hq), by simp only [eqB, Bool.not_eq_true', decide_eq_false_iff_not]; exact fun e => hc1 (e ▸ hq)⟩)
      (fun m hm => hff m (hsub m hm))
      (fun q => by rw [cnt_without hn hm0, hff m0 hm0]; unfold upF; rw [hu, hu])
    refine ⟨h1, h2, ?_, fun m hm => hsub m (h4 m hm)⟩
    show goneL (dropM (leftL mv) m0.To) c = leftL (withoutAll (withoutM mv m0.To) c)
    rw [← h3, leftL_without]

/- ---------------------------------------------- maps of moves -/
def encM (mv : List D.Move) : List (Int × Value) := mv.map fun m => (m.To, .int .i64 m.From)
theorem encM_keys (mv : List D.Move) : (encM mv).map (·.1) = keysM mv := by simp [encM, keysM]
theorem leftM_step {l : List D.Move} {k : Nat} (hk : k < l.length) : leftM (l.take (k + 1)) = leftM (l.take k) ++ (if (ix l k).To ≠ (ix l k).From then [ix l k] else []) := by
  unfold leftM
  rw [take_ix hk, List.filter_append]
  congr 1
  by_cases h : (ix l k).To = (ix l k).From <;> simp [List.filter, h]
theorem enc_step {l : List D.Move} {k : Nat} (hk : k < l.length) (hn : nodupM l = true) (h : ¬ (ix l k).To = (ix l k).From) : upM (encM (leftM (l.take k))) (ix l k).To (.int .i64 (ix l k).From) = encM (leftM (l.take (k + 1))) := by
  rw [upM_new, leftM_step hk, if_pos h]
  · simp [encM]
  · rw [encM_keys]
    intro hm
    obtain ⟨m, hm, he⟩ := List.mem_map.1 hm
    obtain ⟨hm, _⟩ := List.mem_filter.1 hm
    obtain ⟨j, hj, rfl⟩ := List.getElem_of_mem hm
    rw [List.length_take] at hj
    rw [List.getElem_take, ← ix_eq (show j < l.length by omega)] at he
    have := nodup_no (l := l) hk (show j < k by omega) he.symm
    rw [hn] at this; cases this
theorem enc_skip {l : List D.Move} {k : Nat} (hk : k < l.length) (h : (ix l k).To = (ix l k).From) : encM (leftM (l.take k)) = encM (leftM (l.take (k + 1))) := by
  rw [leftM_step hk, if_neg (by simpa using h), List.append_nil]
theorem cnt_app (a b : List D.Move) (p : Int) : cntM (a ++ b) p = cntM a p + cntM b p := by unfold cntM; rw [List.filter_append, List.length_append]; omega
theorem cnt_step {l : List D.Move} {k : Nat} {uu : Int → Int} (hk : k < l.length) (hu : ∀ p, uu p = cntM (leftM (l.take k)) p) (h : ¬ (ix l k).To = (ix l k).From) (p : Int) : upF uu (ix l k).From (uu (ix l k).From + 1) p = cntM (leftM (l.take (k + 1))) p := by
  rw [leftM_step hk, if_pos h, cnt_app]
  unfold upF
  by_cases e : p = (ix l k).From
  · subst e; rw [if_pos rfl, hu]; simp [cntM]
  · have e2 : decide ((ix l k).From = p) = false := by simpa using fun e9 => e (Eq.symm e9)
    rw [if_neg e, hu]
    unfold cntM
    rw [show [ix l k].filter (fun m => decide (m.From = p)) = [] from by simp [List.filter, e2]]; simp
theorem cnt_skip {l : List D.Move} {k : Nat} {uu : Int → Int} (hk : k < l.length) (hu : ∀ p, uu p = cntM (leftM (l.take k)) p) (h : (ix l k).To = (ix l k).From) (p : Int) : uu p = cntM (leftM (l.take (k + 1))) p := by
  rw [leftM_step hk, if_neg (by simpa using h), List.append_nil, hu]
theorem cntM_rng (mv : List D.Move) (p : Int) : 0 ≤ cntM mv p ∧ cntM mv p ≤ mv.length := by
  unfold cntM; have := List.length_filter_le (fun m : D.Move => decide (m.From = p)) mv; omega
theorem lk_enc (mv : List D.Move) (p : Int) : (lkM (encM mv) p).getD (.int .i64 0) = .int .i64 (ffM mv p) := by
  unfold lkM encM ffM
  rw [List.find?_map]
  have : ((fun q : Int × Value => q.1 == p) ∘ fun m : D.Move => (m.To, Value.int .i64 m.From)) = fun m => m.To == p := rfl
  rw [this]
  cases mv.find? (fun m => m.To == p) <;> rfl
theorem left_nodup {l : List D.Move} (h : nodupM l = true) : (keysM (leftM l)).Nodup := by
  have h1 : (l.map (·.To)).Nodup := by simpa [nodupM] using h
  exact h1.sublist (List.filter_sublist.map _)
theorem vis_perm {vis ks : List Int} (hv : vis.Nodup) (hk : ks.Nodup) (h1 : ∀ k ∈ ks, k ∈ vis) (h2 : ∀ k ∈ vis, k ∈ ks) : vis.Perm ks := perm_of_sub ks vis hk h1 (nodup_len vis ks hv h2)
theorem goneU_rng (ff : Int → Int) : ∀ (c : List Int) (uu : Int → Int) (q : Int), uu q - c.length ≤ goneU ff uu c q ∧ goneU ff uu c q ≤ uu q
  | [], uu, q => by simp [goneU]
  | p :: c, uu, q => by
    have h := goneU_rng ff c (upF uu (ff p) (uu (ff p) - 1)) q
    have e : goneU ff uu (p :: c) q = goneU ff (upF uu (ff p) (uu (ff p) - 1)) c q := rfl
    rw [e, List.length_cons]
    unfold upF at h ⊢
    split at h
    · rename_i h9; subst h9; omega
    · omega
theorem dropM_len (l : List Int) (p : Int) : (dropM l p).length ≤ l.length := List.length_filter_le _ _
theorem goneL_len : ∀ (c : List Int) (l : List Int), (goneL l c).length ≤ l.length
  | [], _ => Nat.le_refl _
  | p :: c, l => Nat.le_trans (goneL_len c (dropM l p)) (dropM_len l p)
theorem goneU_snoc (ff uu : Int → Int) (c : List Int) (p : Int) : goneU ff uu (c ++ [p]) = upF (goneU ff uu c) (ff p) (goneU ff uu c (ff p) - 1) := by unfold goneU; rw [List.foldl_append]; rfl
theorem goneL_snoc (l : List Int) (c : List Int) (p : Int) : goneL l (c ++ [p]) = dropM (goneL l c) p := by unfold goneL; rw [List.foldl_append]; rfl
def eOf (lk : Bool) : Int := if lk = true then 43 else 0
theorem bringE_lk (scr sp a b : Int) : bringE scr sp a b 0 = eOf (false || (bringX scr sp a b).isNone) := by
  unfold bringE bringX eOf
  (repeat' split) <;> first | rfl | (exfalso; omega) | simp_all
theorem bringL_0 (scr sp a b : Int) (l : List D.Mach) : bringL scr sp a b l 0 = l ++ (bringX scr sp a b).getD [] := by unfold bringL; rw [if_neg (by decide)]
theorem bringE_two {scr sp a b e : Int} (h : e = 0 ∨ e = 43) : bringE scr sp a b e = 0 ∨ bringE scr sp a b e = 43 := by unfold bringE; (repeat' split) <;> omega
theorem bringsR_two {scr sp : Int} : ∀ (a : List (Int × Int)) (l : List D.Mach) {e : Int} (_ : e = 0 ∨ e = 43), (bringsR scr sp a l e).2 = 0 ∨ (bringsR scr sp a l e).2 = 43
  | [], _, _, h => h
  | q :: a, l, e, h => bringsR_two a _ (bringE_two h)
theorem roundR_two (scr sp : Int) (c : List Int) (l : List D.Mach) : (roundR scr sp c l 0).2 = eOf (decide ((roundR scr sp c l 0).2 ≠ 0)) := by
  have h : (roundR scr sp c l 0).2 = 0 ∨ (roundR scr sp c l 0).2 = 43 := by
    unfold roundR; split
    · exact .inl rfl
    · split
      · exact .inr rfl
      · exact bringsR_two _ _ (.inl rfl)
  rcases h with h | h <;> rw [h] <;> rfl
theorem bringsR_args {scr sp : Int} : ∀ (a : List (Int × Int)) (l : List D.Mach) (e : Int), NoArgs l → NoArgs (bringsR scr sp a l e).1
  | [], _, _, h => h
  | q :: a, l, e, h => bringsR_args a _ _ (by
    unfold bringL; split
    · exact h
    · exact h.app (NoArgs.bringX _ _ _ _))
theorem roundR_args {scr sp : Int} (c : List Int) {l : List D.Mach} (e : Int) (h : NoArgs l) : NoArgs (roundR scr sp c l e).1 := by
  unfold roundR; split
  · refine h.app fun m hm => ?_
    obtain ⟨q, _, rfl⟩ := List.mem_map.1 hm
    rfl
  · split
    · exact h
    · exact bringsR_args _ _ _ h
theorem orderR_e {l : List D.Move} {scr sp : Int} (h : ¬ wrongM l scr sp = 0) : orderR l scr sp = ([], wrongM l scr sp) := by unfold orderR; rw [if_pos h]
theorem orderR_end {l : List D.Move} {scr sp : Int} {f : Nat} {mv : List D.Move} {o : List D.Mach} {lk : Bool} (h : wrongM l scr sp = 0) (hO : orderGo scr sp (leftM l).length (leftM l) [] 0 = orderGo scr sp f mv o (eOf lk)) (h4 : ¬ 0 < mv.length ∨ lk = true) :
    orderR l scr sp = (if lk = true then [] else o, eOf lk) := by
  rw [orderGo_end (f := f) (mv := mv) (l := o) (e := eOf lk) (by rcases h4 with h4 | h4; (· left; omega); right; rw [h4]; decide)] at hO
  unfold orderR; rw [if_neg (by omega), hO]
  cases lk <;> rfl

end Go.Proofs.Ytcceglmmpbdhiaa
