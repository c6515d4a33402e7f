/- Moves and what they do: plain mathematics. -/
import Derived.Test.YtcceglmmpbdhiaaWJ
namespace Go.Proofs.Ytcceglmmpbdhiaa
set_option linter.unusedVariables false
set_option linter.unusedSimpArgs false
set_option linter.unusedSectionVars false
set_option maxRecDepth 8000
open Go.JE


/- ---------------------------------------------- moves by numbers are right -/
theorem spot_lt {a b : Int} (h : a < b) : spotM a < spotM b := by unfold spotM; (repeat' split) <;> omega
theorem spot_in {a : Int} (h : 0 ≤ a ∧ a < 20) : 0 ≤ spotM a ∧ spotM a < 24 ∧ (spotM a < 12 ∨ 16 ≤ spotM a) := by unfold spotM; split <;> omega
theorem madeFrom_spec : ∀ (l : List Int) (k : Nat), ∀ m ∈ madeFrom k l, ∃ j f : Int, k ≤ j ∧ j < 20 ∧ 0 ≤ f ∧ f < 20 ∧ m.To = spotM j ∧ m.From = spotM f
  | [], k, m, h => by simp [madeFrom] at h
  | x :: l, k, m, h => by
    unfold madeFrom at h
    split at h
    · cases h
    · rename_i hk
      split at h
      · rename_i hf
        have h24 := tm24 x
        rcases List.mem_cons.1 h with rfl | h
        · exact ⟨k, _, by omega, by omega, h24.1, hf, rfl, rfl⟩
        · obtain ⟨j, f, h1, h2, h3⟩ := madeFrom_spec l (k + 1) m h
          exact ⟨j, f, by omega, h2, h3⟩
      · obtain ⟨j, f, h1, h2, h3⟩ := madeFrom_spec l (k + 1) m h
        exact ⟨j, f, by omega, h2, h3⟩
theorem madeFrom_nodup : ∀ (l : List Int) (k : Nat), ((madeFrom k l).map (·.To)).Nodup
  | [], k => by simp [madeFrom]
  | x :: l, k => by
    unfold madeFrom
    split
    · simp
    · split
      · rw [List.map_cons, List.nodup_cons]
        refine ⟨fun h => ?_, madeFrom_nodup l (k + 1)⟩
        obtain ⟨m, hm, he⟩ := List.mem_map.1 h
        obtain ⟨j, f, h1, _, _, _, h2, _⟩ := madeFrom_spec l (k + 1) m hm
        have := spot_lt (show (k : Int) < j by omega)
        simp only at he
        omega
      · exact madeFrom_nodup l (k + 1)
theorem made_mem {s : List Int} {m : D.Move} (h : m ∈ madeM s) : (0 ≤ m.To ∧ m.To < 24 ∧ (m.To < 12 ∨ 16 ≤ m.To)) ∧ 0 ≤ m.From ∧ m.From < 24 ∧ (m.From < 12 ∨ 16 ≤ m.From) := by
  obtain ⟨j, f, h1, h2, h3, h4, h5, h6⟩ := madeFrom_spec s 0 m h
  rw [h5, h6]
  exact ⟨spot_in ⟨by omega, h2⟩, spot_in ⟨h3, h4⟩⟩
theorem made_nodup (s : List Int) : nodupM (madeM s) = true := by unfold nodupM madeM; exact decide_eq_true (madeFrom_nodup s 0)
theorem ok_of {l : List D.Move} (h : ∀ m ∈ l, (0 ≤ m.To ∧ m.To < 16400) ∧ 0 ≤ m.From ∧ m.From < 16400) : okM l = true := by
  unfold okM; rw [List.all_eq_true]
  intro m hm
  obtain ⟨h1, h2⟩ := h m hm
  simp only [placeM, Bool.and_eq_true, decide_eq_true_eq]
  exact ⟨h1, h2⟩
theorem named_no {l : List D.Move} {p : Int} (h : ∀ m ∈ l, m.To ≠ p ∧ m.From ≠ p) : namedM l p = false := by
  unfold namedM; rw [List.any_eq_false]
  intro m hm
  have := h m hm
  simp only [decide_eq_true_eq]; omega
/-- places 0 to 11, and 16 to 23: with scratch 15, or none, and spare 10, or none, nothing is wrong -/
def lowP (l : List D.Move) : Prop := ∀ m ∈ l, (0 ≤ m.To ∧ m.To < 24 ∧ (m.To < 12 ∨ 16 ≤ m.To)) ∧ 0 ≤ m.From ∧ m.From < 24 ∧ (m.From < 12 ∨ 16 ≤ m.From)
theorem wrong_low {l : List D.Move} (h : lowP l) (hn : nodupM l = true) {scr sp : Int} (hs : scr < 0 ∨ scr = 15) (hp : sp < 0 ∨ sp = 10) : wrongM l scr sp = 0 := by
  have hok : okM l = true := ok_of fun m hm => by have := h m hm; omega
  unfold wrongM
  rw [if_neg (by rw [hok]; decide), if_neg (by rw [hn]; decide), if_neg (by omega), if_neg, if_neg (by omega), if_neg]
  · rintro ⟨h1, h2⟩
    have e : sp = 10 := by omega
    subst e
    rw [named_no (fun m hm => by have := h m hm; omega), named_no (fun m hm => by have := h m hm; omega)] at h2
    simp at h2
  · rintro ⟨h1, h2⟩
    have e : scr = 15 := by omega
    subst e
    rw [named_no (fun m hm => by have := h m hm; omega)] at h2
    cases h2
theorem made_low (s : List Int) : lowP (madeM s) := fun m hm => made_mem hm
theorem made_right (s : List Int) {scr sp : Int} (hs : scr < 0 ∨ scr = 15) (hp : sp < 0 ∨ sp = 10) : wrongM (madeM s) scr sp = 0 := wrong_low (made_low s) (made_nodup s) hs hp
/- with spare slots nothing lacks -/
theorem bringE_0 {scr sp a b : Int} (h : 0 ≤ sp) : bringE scr sp a b 0 = 0 := by unfold bringE; rw [if_neg (by decide), if_neg (by omega)]
theorem bringsR_0 {scr sp : Int} (h : 0 ≤ sp) : ∀ (a : List (Int × Int)) (l : List D.Mach), (bringsR scr sp a l 0).2 = 0
  | [], _ => rfl
  | q :: a, l => by rw [bringsR, bringE_0 h]; exact bringsR_0 h a _
theorem roundR_0 {scr sp : Int} (h : 0 ≤ sp) (c : List Int) (l : List D.Mach) : (roundR scr sp c l 0).2 = 0 := by
  unfold roundR; split
  · rfl
  · split
    · omega
    · exact bringsR_0 h _ _
theorem orderGo_0 {scr sp : Int} (h : 0 ≤ sp) : ∀ (f : Nat) (mv : List D.Move) (l : List D.Mach), (orderGo scr sp f mv l 0).2 = 0
  | 0, _, _ => rfl
  | f + 1, mv, l => by
    unfold orderGo; split
    · rfl
    · split
      · rw [bringE_0 h]; exact orderGo_0 h f _ _
      · rw [roundR_0 h]; exact orderGo_0 h f _ _
theorem orderR_ok {l : List D.Move} {scr sp : Int} (hw : wrongM l scr sp = 0) (h : (orderGo scr sp (leftM l).length (leftM l) [] 0).2 = 0) : orderR l scr sp = ((orderGo scr sp (leftM l).length (leftM l) [] 0).1, 0) := by
  unfold orderR; rw [if_neg (by omega), if_neg (by omega)]
theorem order_made (s : List Int) {scr : Int} (hs : scr < 0 ∨ scr = 15) : (orderR (madeM s) scr 10).2 = 0 := by
  rw [orderR_ok (made_right s hs (.inr rfl)) (orderGo_0 (by decide) _ _ _)]
/- ---------------------------------------------- all at once, place by place -/
theorem ix_at {s : List Int} {i : Int} (h : 0 ≤ i ∧ i < s.length) : ix s i.toNat = atM s i := by unfold atM; rw [if_neg (by omega)]
theorem at_ix {s : List Int} {k : Nat} (h : k < s.length) : atM s (k : Int) = ix s k := by unfold atM; rw [if_neg (by omega)]; rfl
theorem at_put {s : List Int} {a v i : Int} (hi : 0 ≤ i ∧ i < s.length) : atM (putM s a v) i = if i = a then v else atM s i := by
  rw [← ix_at (by rw [putM_len]; exact hi), ← ix_at hi]
  unfold putM
  by_cases h : 0 ≤ a ∧ a < s.length
  · rw [if_pos h]
    by_cases e : i = a
    · subst e
      rw [if_pos rfl, ix_eq (by rw [List.length_set]; omega)]
      simp
    · rw [if_neg e, ix_eq (by rw [List.length_set]; omega), ix_eq (by omega), List.getElem_set_ne]
      omega
  · rw [if_neg h, if_neg]
    rintro rfl; exact h hi
/-- where a place takes from -/
def frM (mv : List D.Move) (i : Int) : Int := match mv.find? (fun m => m.To == i) with
  | some m => m.From
  | none => i
theorem fr_in {mv : List D.Move} (hn : (keysM mv).Nodup) {m : D.Move} (h : m ∈ mv) : frM mv m.To = m.From := by
  unfold frM
  cases e : mv.find? (fun x => x.To == m.To) with
  | none => rw [List.find?_eq_none] at e; exact absurd (e m h) (by simp)
  | some x =>
    have h1 := List.mem_of_find?_eq_some e
    have h2 : x.To = m.To := by simpa using List.find?_some e
    show x.From = m.From
    rw [← src_eq hn h1, h2, src_eq hn h]
theorem fr_out {mv : List D.Move} {i : Int} (h : ∀ m ∈ mv, m.To ≠ i) : frM mv i = i := by
  unfold frM
  rw [List.find?_eq_none.2 (fun m hm => by simpa using h m hm)]
theorem fr_cases {mv : List D.Move} (hn : (keysM mv).Nodup) (i : Int) : (∃ m ∈ mv, m.To = i ∧ frM mv i = m.From) ∨ ((∀ m ∈ mv, m.To ≠ i) ∧ frM mv i = i) := by
  by_cases h : ∃ m ∈ mv, m.To = i
  · obtain ⟨m, hm, rfl⟩ := h
    exact .inl ⟨m, hm, rfl, fr_in hn hm⟩
  · have h' : ∀ m ∈ mv, m.To ≠ i := fun m hm e => h ⟨m, hm, e⟩
    exact .inr ⟨h', fr_out h'⟩
theorem after_out {p : List Int} {i : Int} : ∀ (l : List D.Move) (out : List Int), 0 ≤ i ∧ i < out.length → (∀ m ∈ l, m.To ≠ i) → atM (afterM p l out) i = atM out i
  | [], _, _, _ => rfl
  | m :: l, out, hi, h => by
    rw [afterM, after_out l _ (by rw [putM_len]; exact hi) (fun x hx => h x (List.mem_cons_of_mem _ hx)), at_put hi, if_neg (h m (List.mem_cons_self ..)).symm]
theorem after_in {p : List Int} {m : D.Move} : ∀ (l : List D.Move) (out : List Int), 0 ≤ m.To ∧ m.To < out.length → (keysM l).Nodup → m ∈ l → atM (afterM p l out) m.To = atM p m.From
  | [], _, _, _, h => by cases h
  | a :: l, out, hi, hn, h => by
    have hn' : (a.To :: keysM l).Nodup := hn
    obtain ⟨h1, h2⟩ := List.nodup_cons.1 hn'
    rw [afterM]
    rcases List.mem_cons.1 h with rfl | h
    · rw [after_out l _ (by rw [putM_len]; exact hi) (fun x hx e => h1 (by rw [← e]; exact List.mem_map_of_mem hx)), at_put hi, if_pos rfl]
    · exact after_in l _ (by rw [putM_len]; exact hi) h2 h
theorem after_fr {p : List Int} {l : List D.Move} (hn : (keysM l).Nodup) {i : Int} (hi : 0 ≤ i ∧ i < p.length) : atM (afterP l p) i = atM p (frM l i) := by
  unfold afterP
  rcases fr_cases hn i with ⟨m, hm, rfl, e⟩ | ⟨h, e⟩
  · rw [e, after_in l p hi hn hm]
  · rw [e, after_out l p hi h]
theorem keys_nodup' {l : List D.Move} (h : nodupM l = true) : (keysM l).Nodup := by unfold nodupM at h; exact of_decide_eq_true h
theorem start_len (x : Int) : (startM x).length = 40 := by unfold startM; simp
theorem after_len (l : List D.Move) (p : List Int) : (afterP l p).length = p.length := by unfold afterP; rw [afterM_len]

end Go.Proofs.Ytcceglmmpbdhiaa
