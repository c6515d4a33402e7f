/- How many instructions, and what lacks: plain mathematics. -/
import Derived.Test.YtcceglmmpbdhiaaM7
namespace Go.Proofs.Ytcceglmmpbdhiaa
set_option linter.unusedVariables false
set_option linter.unusedSimpArgs false
set_option linter.unusedSectionVars false
set_option maxRecDepth 8000
open Go.JE


/- ---------------------------------------------- how many instructions -/
def regM (mv : List D.Move) : Prop := ∀ m ∈ mv, m.To < 16 ∧ m.From < 16
theorem without_len {mv : List D.Move} (hk : (keysM mv).Nodup) {p : Int} (h : p ∈ keysM mv) : (withoutM mv p).length + 1 = mv.length := by
  obtain ⟨m, hm, e⟩ := List.mem_map.1 h
  have e' : m.To = p := e
  have := (perm_without hk hm).length_eq
  rw [e', List.length_cons] at this; omega
theorem withoutAll_len : ∀ (c : List Int) {mv : List D.Move}, (keysM mv).Nodup → c.Nodup → (∀ p ∈ c, p ∈ keysM mv) → (withoutAll mv c).length + c.length = mv.length
  | [], _, _, _, _ => rfl
  | p :: c, mv, hk, hn, hs => by
    obtain ⟨h1, h2⟩ := List.nodup_cons.1 hn
    have h3 := without_len hk (hs p (List.mem_cons_self ..))
    have h4 := withoutAll_len c (without_nodup hk p) h2 (fun q hq => by
      obtain ⟨m, hm, e⟩ := List.mem_map.1 (hs q (List.mem_cons_of_mem _ hq))
      have e' : m.To = q := e
      exact List.mem_map.2 ⟨m, without_mem.2 ⟨hm, fun e9 => h1 (by rw [← e9, e']; exact hq)⟩, e⟩)
    rw [withoutAll, List.length_cons]; omega
theorem flat_one {α β : Type} {g : α → List β} : ∀ {l : List α}, (∀ a ∈ l, (g a).length = 1) → (l.flatMap g).length = l.length
  | [], _ => rfl
  | a :: l, h => by
    rw [List.flatMap_cons, List.length_append, List.length_cons, h a (List.mem_cons_self ..), flat_one (l := l) (fun x hx => h x (List.mem_cons_of_mem _ hx))]; omega
theorem bringX_low {scr sp a b : Int} (ha : a < 16) (hb : b < 16) : bringX scr sp a b = some [⟨1, a, 0, b, 0, 0, 0, []⟩] := by unfold bringX; rw [if_pos ⟨ha, hb⟩]
theorem round_few {scr sp : Int} (hs : scr < 16) {c : List Int} (hc : 0 < c.length) (hl : ∀ p ∈ c, p < 16) (o : List D.Mach) :
    (roundR scr sp c o 0).2 = 0 ∧ ((roundR scr sp c o 0).1.length : Int) = o.length + c.length + (if scr < 0 then -1 else 1) ∧ ∀ i ∈ (roundR scr sp c o 0).1, i ∈ o ∨ i.Op = 1 ∨ (scr < 0 ∧ i.Op = 2) := by
  have hlow : lowM c = true := by unfold lowM; rw [List.all_eq_true]; intro p hp; simpa using hl p hp
  by_cases h : scr < 0
  · rw [roundR_sw o 0 ⟨hlow, h⟩, if_pos h]
    refine ⟨rfl, ?_, fun i hi => ?_⟩
    · show ((o ++ _).length : Int) = _
      rw [List.length_append, List.length_map, stepsM_len]; omega
    · rcases List.mem_append.1 hi with hi | hi
      · exact .inl hi
      · obtain ⟨q, _, rfl⟩ := List.mem_map.1 hi
        exact .inr (.inr ⟨h, rfl⟩)
  · rw [if_neg h]
    have hR : roundR scr sp c o 0 = bringsR scr sp ((scr, ix c 0) :: stepsM c ++ [(ix c (c.length - 1), scr)]) o 0 := by
      unfold roundR; rw [if_neg (fun h9 => h h9.2), if_neg (by rw [hlow]; simp), if_pos hlow]
    rw [hR, bringsR_all (bringX_is (.inl (by omega)))]
    have hpair : ∀ q ∈ (scr, ix c 0) :: stepsM c ++ [(ix c (c.length - 1), scr)], q.1 < 16 ∧ q.2 < 16 := by
      intro q hq
      rw [List.cons_append] at hq
      rcases List.mem_cons.1 hq with rfl | hq
      · exact ⟨hs, hl _ (ix_mem hc)⟩
      · rcases List.mem_append.1 hq with hq | hq
        · have h1 := List.of_mem_zip (show (q.1, q.2) ∈ c.zip c.tail from hq)
          exact ⟨hl _ h1.1, hl _ (List.mem_of_mem_tail h1.2)⟩
        · rw [List.mem_singleton] at hq; subst hq
          exact ⟨hl _ (ix_mem (by omega)), hs⟩
    refine ⟨rfl, ?_, fun i hi => ?_⟩
    · show ((o ++ _).length : Int) = _
      rw [List.length_append, flat_one (fun q hq => by rw [bringX_low (hpair q hq).1 (hpair q hq).2]; rfl)]
      simp only [List.length_cons, List.length_append, List.length_nil, stepsM_len]; omega
    · rcases List.mem_append.1 (show i ∈ o ++ _ from hi) with hi | hi
      · exact .inl hi
      · obtain ⟨q, hq, h1⟩ := List.mem_flatMap.1 hi
        rw [bringX_low (hpair q hq).1 (hpair q hq).2] at h1
        have : i = _ := List.mem_singleton.1 h1
        subst this; exact .inr (.inl rfl)
theorem few_go {scr sp : Int} (hs : scr < 16) : ∀ (f : Nat) (mv : List D.Move) (o : List D.Mach), mv.length ≤ f → okM mv = true → (keysM mv).Nodup → regM mv →
    (orderGo scr sp f mv o 0).2 = 0 ∧ ((orderGo scr sp f mv o 0).1.length : Int) = o.length + mv.length + (if scr < 0 then -((cycGo f mv).length : Int) else (cycGo f mv).length) ∧ ∀ i ∈ (orderGo scr sp f mv o 0).1, i ∈ o ∨ i.Op = 1 ∨ (scr < 0 ∧ i.Op = 2)
  | 0, mv, o, hl, hok, hk, hr => ⟨rfl, by show (o.length : Int) = _; unfold cycGo; split <;> simp <;> omega, fun i hi => .inl hi⟩
  | f + 1, mv, o, hl, hok, hk, hr => by
    unfold cycGo
    by_cases h0 : mv.length = 0
    · rw [orderGo_end (.inl h0), if_pos h0]
      refine ⟨rfl, ?_, fun i hi => .inl hi⟩
      show (o.length : Int) = _
      split <;> simp <;> omega
    rw [if_neg h0]
    by_cases hf : 0 ≤ freeM mv
    · rw [orderGo_free h0 hf hl, Nat.add_sub_cancel, if_pos hf]
      obtain ⟨m0, hm0, e0, hu⟩ := freeM_mem hf
      have hsrc : srcM mv (freeM mv) = m0.From := by rw [← e0]; exact src_eq hk hm0
      obtain ⟨a1, a2⟩ := hr m0 hm0
      rw [hsrc, ← e0, bringL_0, bringX_low a1 a2, bringE_lk, bringX_low a1 a2]
      obtain ⟨i1, i2, i3⟩ := few_go hs (scr := scr) (sp := sp) f (withoutM mv m0.To) (o ++ [⟨1, m0.To, 0, m0.From, 0, 0, 0, []⟩]) (by have := withoutM_lt ⟨m0, hm0, rfl⟩; omega) (withoutM_ok hok _) (without_nodup hk _) (fun m hm => hr m (without_mem.1 hm).1)
      have hw := without_len hk (p := m0.To) (List.mem_map_of_mem hm0)
      refine ⟨i1, ?_, fun i hi => ?_⟩
      · refine i2.trans ?_
        rw [List.length_append, List.length_singleton]; omega
      · rcases i3 i hi with h9 | h9
        · rcases List.mem_append.1 h9 with h8 | h8
          · exact .inl h8
          · have : i = _ := List.mem_singleton.1 h8
            subst this; exact .inr (.inl rfl)
        · exact .inr h9
    · rw [orderGo_circ h0 hf hl, Nat.add_sub_cancel, if_neg hf]
      obtain ⟨hrg, hnd, hck⟩ := circ_ring hok hk (by omega) (by omega)
      have hcl : ∀ p ∈ circM mv (leastM mv), p < 16 := fun p hp => by
        obtain ⟨m, hm, e⟩ := List.mem_map.1 (hck p hp)
        have e' : m.To = p := e
        have := hr m hm; omega
      obtain ⟨r1, r2, r3⟩ := round_few (scr := scr) (sp := sp) hs hrg.1 hcl o
      rw [r1]
      obtain ⟨i1, i2, i3⟩ := few_go hs (scr := scr) (sp := sp) f (withoutAll mv (circM mv (leastM mv))) (roundR scr sp (circM mv (leastM mv)) o 0).1 (by have := circ_lt (mv := mv) (by omega); omega) (withoutAll_ok _ hok) (withoutAll_nodup _ hk) (fun m hm => hr m ((withoutAll_mem _).1 hm).1)
      have hw := withoutAll_len _ hk hnd hck
      refine ⟨i1, ?_, fun i hi => ?_⟩
      · refine i2.trans ?_
        rw [List.length_cons]
        split at r2 <;> rename_i h9
        · rw [if_pos h9, if_pos h9]; omega
        · rw [if_neg h9, if_neg h9]; omega
      · rcases i3 i hi with h9 | h9
        · exact r3 i h9
        · exact .inr h9
def lowL (l : List D.Move) : List D.Move := l.filter fun m => decide (m.To < 16) && decide (m.From < 16)
theorem lowL_mem {l : List D.Move} {m : D.Move} : m ∈ lowL l ↔ m ∈ l ∧ m.To < 16 ∧ m.From < 16 := by unfold lowL; rw [List.mem_filter]; simp
theorem few_right (s : List Int) {scr : Int} (hs : scr < 0 ∨ scr = 15) : wrongM (lowL (madeM s)) scr (-1) = 0 :=
  wrong_low (fun m hm => made_mem (lowL_mem.1 hm).1) (by unfold nodupM; exact decide_eq_true ((made_keys s).sublist (List.filter_sublist.map _))) hs (.inl (by decide))
theorem few_order (s : List Int) {scr : Int} (hs : scr < 0 ∨ scr = 15) :
    (orderR (lowL (madeM s)) scr (-1)).2 = 0 ∧ ((orderR (lowL (madeM s)) scr (-1)).1.length : Int) = (leftM (lowL (madeM s))).length + (if scr < 0 then -((circlesM (lowL (madeM s))).length : Int) else (circlesM (lowL (madeM s))).length) ∧ ∀ i ∈ (orderR (lowL (madeM s)) scr (-1)).1, i.Op = 1 ∨ (scr < 0 ∧ i.Op = 2) := by
  have hw := few_right s hs
  have hok := (wrongM_ok hw).1
  have hk : (keysM (lowL (madeM s))).Nodup := (made_keys s).sublist (List.filter_sublist.map _)
  obtain ⟨i1, i2, i3⟩ := few_go (scr := scr) (sp := -1) (by omega) _ (leftM (lowL (madeM s))) [] (Nat.le_refl _) (leftM_ok hok) (hk.sublist (List.filter_sublist.map _)) (fun m hm => (lowL_mem.1 (List.mem_filter.1 hm).1).2)
  rw [orderR_ok hw i1, circles_cyc hok hk]
  refine ⟨rfl, ?_, fun i hi => ?_⟩
  · rw [show (([] : List D.Mach).length : Int) = 0 from rfl, Int.zero_add] at i2; exact i2
  · rcases i3 i hi with h | h
    · cases h
    · exact h
/- ---------------------------------------------- what lacks -/
def slotM2 (m : D.Move) : Bool := decide (16 ≤ m.To) && decide (16 ≤ m.From)
theorem round_lack {scr sp : Int} (hsp : sp < 0) {c : List Int} (hc : 0 < c.length) (hs : scr < 16) (o : List D.Mach) : (roundR scr sp c o 0).2 = if lowM c = true then 0 else 43 := by
  by_cases h : lowM c = true
  · rw [if_pos h]
    exact (round_few hs hc (fun p hp => by simpa using List.all_eq_true.1 h p hp) o).1
  · rw [if_neg h, roundR_no o 0 ⟨by simpa using h, hsp⟩]
theorem lack_go {scr sp : Int} (hs : scr < 16) (hsp : sp < 0) : ∀ (f : Nat) (mv : List D.Move) (o : List D.Mach), mv.length ≤ f → okM mv = true → (keysM mv).Nodup →
    (orderGo scr sp f mv o 0).2 = if (decide (scr < 0) && mv.any slotM2) || (cycGo f mv).any (fun c => !lowM c) then 43 else 0
  | 0, mv, o, hl, hok, hk => by
    have : mv = [] := List.eq_nil_of_length_eq_zero (by omega)
    subst this
    show (0 : Int) = _
    simp [cycGo]
  | f + 1, mv, o, hl, hok, hk => by
    unfold cycGo
    by_cases h0 : mv.length = 0
    · rw [orderGo_end (.inl h0), if_pos h0]
      have : mv = [] := List.eq_nil_of_length_eq_zero h0
      subst this; simp
    rw [if_neg h0]
    by_cases hf : 0 ≤ freeM mv
    · rw [orderGo_free h0 hf hl, Nat.add_sub_cancel, if_pos hf]
      obtain ⟨m0, hm0, e0, hu⟩ := freeM_mem hf
      have hsrc : srcM mv (freeM mv) = m0.From := by rw [← e0]; exact src_eq hk hm0
      rw [hsrc, ← e0]
      have hany : mv.any slotM2 = (slotM2 m0 || (withoutM mv m0.To).any slotM2) := by
        have hp := perm_without hk hm0
        rw [Bool.eq_iff_iff, List.any_eq_true, Bool.or_eq_true, List.any_eq_true]
        constructor
        · rintro ⟨m, hm, h⟩
          rcases List.mem_cons.1 (hp.mem_iff.1 hm) with rfl | hm
          · exact .inl h
          · exact .inr ⟨m, hm, h⟩
        · rintro (h | ⟨m, hm, h⟩)
          · exact ⟨m0, hm0, h⟩
          · exact ⟨m, (without_mem.1 hm).1, h⟩
      by_cases hb : (16 ≤ m0.To ∧ 16 ≤ m0.From) ∧ scr < 0
      · have hbe : bringE scr sp m0.To m0.From 0 = 43 := by unfold bringE; rw [if_neg (by decide), if_pos ⟨hb.1.1, hb.1.2, hb.2, hsp⟩]
        rw [hbe, orderGo_end (.inr (by decide)), hany]
        have : slotM2 m0 = true := by unfold slotM2; rw [decide_eq_true hb.1.1, decide_eq_true hb.1.2]; rfl
        rw [this, decide_eq_true hb.2]; simp
      · have hbe : bringE scr sp m0.To m0.From 0 = 0 := by unfold bringE; rw [if_neg (by decide), if_neg (fun h9 => hb ⟨⟨h9.1, h9.2.1⟩, h9.2.2.1⟩)]
        rw [hbe, lack_go hs hsp f (withoutM mv m0.To) _ (by have := withoutM_lt ⟨m0, hm0, rfl⟩; omega) (withoutM_ok hok _) (without_nodup hk _), hany]
        have : (decide (scr < 0) && (slotM2 m0 || (withoutM mv m0.To).any slotM2)) = (decide (scr < 0) && (withoutM mv m0.To).any slotM2) := by
          by_cases h9 : scr < 0
          · have : slotM2 m0 = false := by
              unfold slotM2
              rw [Bool.and_eq_false_iff, decide_eq_false_iff_not, decide_eq_false_iff_not]
              by_cases h8 : 16 ≤ m0.To
              · exact .inr fun h7 => hb ⟨⟨h8, h7⟩, h9⟩
              · exact .inl h8
            rw [this, Bool.false_or]
          · rw [decide_eq_false h9]; rfl
        rw [this]
    · rw [orderGo_circ h0 hf hl, Nat.add_sub_cancel, if_neg hf]
      obtain ⟨hrg, hnd, hck⟩ := circ_ring hok hk (by omega) (by omega)
      rw [round_lack hsp hrg.1 hs]
      generalize hc : circM mv (leastM mv) = c at *
      by_cases hlow : lowM c = true
      · rw [if_pos hlow, lack_go hs hsp f (withoutAll mv c) _ (by have := circ_lt (mv := mv) (by omega); rw [hc] at this; omega) (withoutAll_ok _ hok) (withoutAll_nodup _ hk)]
        rw [List.any_cons, hlow, Bool.not_true, Bool.false_or]
        have : mv.any slotM2 = (withoutAll mv c).any slotM2 := by
          rw [Bool.eq_iff_iff, List.any_eq_true, List.any_eq_true]
          constructor
          · rintro ⟨m, hm, h⟩
            refine ⟨m, (withoutAll_mem c).2 ⟨hm, fun h9 => ?_⟩, h⟩
            have h8 := List.all_eq_true.1 hlow _ h9
            unfold slotM2 at h
            simp at h h8
            omega
          · rintro ⟨m, hm, h⟩; exact ⟨m, ((withoutAll_mem c).1 hm).1, h⟩
        rw [this]
      · rw [if_neg hlow, orderGo_end (.inr (by decide)), List.any_cons]
        have : lowM c = false := by simpa using hlow
        rw [this]; simp
def lacksM (l : List D.Move) : Bool := l.any fun m => (decide (16 ≤ m.To) && decide (16 ≤ m.From)) && !decide (m.To = m.From)
def roundM (cs : List (List Int)) : Bool := cs.any fun c => c.any fun p => decide (16 ≤ p)
theorem round_low (cs : List (List Int)) : cs.any (fun c => !lowM c) = roundM cs := by
  unfold roundM
  congr 1; funext c
  unfold lowM
  rw [List.not_all_eq_any_not]
  congr 1; funext p
  simp only [← decide_not, Int.not_lt]
theorem lack_order (s : List Int) {scr : Int} (hs : scr < 0 ∨ scr = 15) : (orderR (madeM s) scr (-1)).2 = if (decide (scr < 0) && lacksM (madeM s)) || roundM (circlesM (madeM s)) then 43 else 0 := by
  have hw := made_right s hs (.inl (show (-1 : Int) < 0 by decide))
  have hok := (wrongM_ok hw).1
  have hk := made_keys s
  have h := lack_go (scr := scr) (sp := -1) (by omega) (by decide) _ (leftM (madeM s)) [] (Nat.le_refl _) (leftM_ok hok) (hk.sublist (List.filter_sublist.map _))
  rw [← circles_cyc hok hk, round_low] at h
  have e : (leftM (madeM s)).any slotM2 = lacksM (madeM s) := by
    unfold leftM lacksM
    rw [List.any_filter]
    congr 1; funext m
    unfold slotM2
    rw [decide_not, Bool.and_comm]
  rw [e] at h
  unfold orderR
  rw [if_neg (by omega)]
  by_cases h9 : (orderGo scr (-1) (leftM (madeM s)).length (leftM (madeM s)) [] 0).2 = 0
  · rw [if_neg (by omega), ← h, h9]
  · rw [if_pos h9, ← h]
theorem lacks_law (s : List Int) : ((((true && (decide ((orderR (madeM s) (-1) (-1)).2 = 43) == (lacksM (madeM s) || roundM (circlesM (madeM s))))) && (decide ((orderR (madeM s) 15 (-1)).2 = 43) == roundM (circlesM (madeM s)))) && (decide ((orderR (madeM s) (-1) (-1)).2 = 0) || decide ((orderR (madeM s) (-1) (-1)).2 = 43))) && (decide ((orderR (madeM s) 15 (-1)).2 = 0) || decide ((orderR (madeM s) 15 (-1)).2 = 43))) = true := by
  rw [lack_order s (.inl (by decide)), lack_order s (.inr rfl)]
  cases lacksM (madeM s) <;> cases roundM (circlesM (madeM s)) <;> rfl
theorem few_law (s : List Int) : ((((true && decide ((orderR (lowL (madeM s)) 15 (-1)).2 = 0)) && decide ((orderR (lowL (madeM s)) (-1) (-1)).2 = 0)) && decide (((orderR (lowL (madeM s)) 15 (-1)).1.length : Int) = ((leftM (lowL (madeM s))).length : Int) + ((circlesM (lowL (madeM s))).length : Int))) && decide (((orderR (lowL (madeM s)) (-1) (-1)).1.length : Int) = ((leftM (lowL (madeM s))).length : Int) - ((circlesM (lowL (madeM s))).length : Int))) = true := by
  obtain ⟨a1, a2, _⟩ := few_order s (scr := 15) (.inr rfl)
  obtain ⟨b1, b2, _⟩ := few_order s (scr := -1) (.inl (by decide))
  rw [if_neg (by decide)] at a2
  rw [if_pos (by decide)] at b2
  rw [a1, b1, a2, b2, decide_eq_true rfl, decide_eq_true rfl, decide_eq_true (by omega)]; rfl

end Go.Proofs.Ytcceglmmpbdhiaa
