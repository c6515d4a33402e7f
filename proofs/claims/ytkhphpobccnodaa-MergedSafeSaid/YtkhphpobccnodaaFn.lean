/- Merging makes nothing harder: plain laws. Conditions: each lemma names its own. -/
import Derived.Test.YtkhphpobccnodaaFm
namespace Go.Proofs.Ytkhphpobccnodaa
set_option linter.unusedVariables false
set_option linter.unusedSimpArgs false
open Go.JE

/- ---------------------------------------------- what can be taken away -/
/-- each set of nodes has one with fewer than k neighbours in it -/
def Dg (g : Nat → Nat → Bool) (n : Nat) (k : Int) : Prop := ∀ T : Nat → Bool, (∃ x, x < n ∧ T x = true) → ∃ x, x < n ∧ T x = true ∧ ((cntS (fun y => T y && g x y) n : Nat) : Int) < k
theorem cntS_mono {p q : Nat → Bool} : ∀ {n : Nat}, (∀ i, i < n → p i = true → q i = true) → cntS p n ≤ cntS q n
  | 0, _ => Nat.le_refl _
  | n + 1, h => by
    have h1 := cntS_mono (p := p) (q := q) (n := n) (fun i hi => h i (by omega))
    have h2 := h n (by omega)
    simp only [cntS]
    cases h3 : p n with
    | true => rw [h2 h3]; simp; omega
    | false => simp; omega
theorem cnt_none {p : Nat → Bool} : ∀ {n : Nat}, (∀ i, i < n → p i = false) → cntS p n = 0
  | 0, _ => rfl
  | n + 1, h => by simp [cntS, cnt_none (p := p) (n := n) (fun i hi => h i (by omega)), h n (by omega)]
theorem Dg.congr {g g' : Nat → Nat → Bool} {n : Nat} {k : Int} (h : Dg g n k) (he : ∀ x y, x < n → y < n → g x y = g' x y) : Dg g' n k := by
  intro T hT
  obtain ⟨x, h1, h2, h3⟩ := h T hT
  refine ⟨x, h1, h2, ?_⟩
  rw [← cntS_congr (p := fun y => T y && g x y) (fun i hi => by rw [he x i h1 hi])]; exact h3
theorem near_out {t : Nat → Nat → Bool} {n : Nat} {l : Nat → Nat} (h : Ok t n l) {x : Nat} (hx : ¬ (l x = x ∧ x < n)) (hs : ∀ i j, t i j = t j i) (y : Nat) : nearS t l n x y = false := by
  rw [← Bool.not_eq_true, nearS_sym hs]
  intro h1
  exact hx (nearS_rep h h1)
/-- MERGING MAKES NOTHING HARDER -/
theorem briggs {t : Nat → Nat → Bool} {n : Nat} {k : Int} {l : Nat → Nat} {a b : Nat} (hs : ∀ i j, t i j = t j i) (hj : Ok t n (joinS l a b)) (hk : 1 ≤ k) (hab : a ≠ b) (ha : a < n) (hb : b < n)
    (hm : ((manyR t (joinS l a b) n k (min a b) n : Nat) : Int) < k) (h : Dg (nearS t l n) n k) : Dg (nearS t (joinS l a b) n) n k := by
  intro T hT
  refine Classical.byContradiction fun hno => ?_
  have hbig : ∀ x, x < n → T x = true → k ≤ ((cntS (nearS t (joinS l a b) n x) n : Nat) : Int) := fun x hx hTx => by
    refine Classical.byContradiction fun h1 => hno ⟨x, hx, hTx, ?_⟩
    have := cntS_mono (p := fun y => T y && nearS t (joinS l a b) n x y) (q := nearS t (joinS l a b) n x) (n := n) (fun i _ h2 => by rw [Bool.and_eq_true] at h2; exact h2.2)
    omega
  have hrep : ∀ x, x < n → T x = true → joinS l a b x = x := fun x hx hTx => Classical.byContradiction fun h1 => by
    have h2 := hbig x hx hTx
    rw [cnt_none (fun i _ => near_out hj (fun h3 => h1 h3.1) hs i)] at h2
    omega
  by_cases hc : T (min a b) = true
  · refine hno ⟨min a b, by omega, hc, ?_⟩
    refine Int.lt_of_le_of_lt ?_ hm
    refine Int.ofNat_le.2 (cntS_mono fun y hy h1 => ?_)
    rw [Bool.and_eq_true] at h1
    obtain ⟨h1, h2⟩ := h1
    have h3 : y ≠ min a b := by rintro rfl; rw [nearS_irr hj] at h2; cases h2
    rw [Bool.and_eq_true, Bool.and_eq_true, Bool.and_eq_true]
    refine ⟨⟨⟨by rw [decide_eq_true_eq]; exact hrep y hy h1, by simp [h3]⟩, by rw [nearS_sym hs]; exact h2⟩, ?_⟩
    rw [decide_eq_true_eq]
    have h4 : cntS (fun z => (decide (joinS l a b z = z) && !decide (z = y)) && nearS t (joinS l a b) n y z) n = cntS (nearS t (joinS l a b) n y) n := cntS_congr fun z _ => by
      cases h9 : nearS t (joinS l a b) n y z with
      | false => simp
      | true =>
        have h8 := (nearS_rep hj h9).1
        have h7 : z ≠ y := by rintro rfl; rw [nearS_irr hj] at h9; cases h9
        simp [h8, h7]
    rw [h4]; exact hbig y hy h1
  · obtain ⟨x, hx, hTx, hlow⟩ := h T hT
    have hne : ∀ y, y < n → T y = true → y ≠ a ∧ y ≠ b := fun y hy hTy => by
      have h1 : y ≠ max a b := fun e => by
        have := hrep y hy hTy
        have h2 := join_m (l := l) y hab
        rw [this] at h2; exact h2 e
      have h2 : y ≠ min a b := fun e => hc (by rw [← e]; exact hTy)
      omega
    refine hno ⟨x, hx, hTx, ?_⟩
    rw [cntS_congr (q := fun y => T y && nearS t l n x y)]
    · exact hlow
    · intro y hy
      cases hTy : T y with
      | false => rfl
      | true => rw [near_oo (hne x hx hTx) (hne y hy hTy)]
section
variable {t : Nat → Nat → Bool} {n : Nat} {k : Int} (hs : ∀ i j, t i j = t j i) (hk : 1 ≤ k)
include hs hk
theorem stepS_dg {l : Nat → Nat} {g : Bool} (h : Ok t n l) (hd : Dg (nearS t l n) n k) (m : Int × Int) : Dg (nearS t (stepS t n k (l, g) m).1 n) n k := by
  unfold stepS
  by_cases hc : (0 ≤ m.1 ∧ m.1 < n ∧ 0 ≤ m.2 ∧ m.2 < n) ∧ mayR t l n k (l m.1.toNat) (l m.2.toNat) = true
  · rw [if_pos hc]
    obtain ⟨hin, hmay⟩ := hc
    simp only [mayR, Bool.and_eq_true, Bool.not_eq_true', decide_eq_false_iff_not, decide_eq_true_eq] at hmay
    have h1 := h.le m.1.toNat (by omega)
    have h2 := h.le m.2.toNat (by omega)
    exact briggs (a := l m.1.toNat) (b := l m.2.toNat) hs (h.join (a := l m.1.toNat) (b := l m.2.toNat) hs (by omega) (by omega) (h.idem _ (by omega)) (h.idem _ (by omega)) hmay.1 hmay.2.1) hk hmay.1 (by omega) (by omega) hmay.2.2 hd
  · rw [if_neg hc]; exact hd
theorem passT_dg {l : Nat → Nat} {ms : List (Int × Int)} (h : Ok t n l) (hd : Dg (nearS t l n) n k) : ∀ j, j ≤ ms.length → Dg (nearS t (passT t n k ms l j).1 n) n k
  | 0, _ => hd
  | j + 1, hj => by
    rw [passT_snoc _ _ _ _ _ _ (by omega)]
    exact stepS_dg hs hk (passT_ok h hs j (by omega)).1 (passT_dg h hd j (by omega)) _
theorem runS_ok {ms : List (Int × Int)} : ∀ (f : Nat) (l : Nat → Nat), Ok t n l → Ok t n (runS t n k ms f l) ∧ (Dg (nearS t l n) n k → Dg (nearS t (runS t n k ms f l) n) n k)
  | 0, l, h => ⟨h, id⟩
  | f + 1, l, h => by
    have h1 := (passT_ok (k := k) (ms := ms) h hs ms.length (Nat.le_refl _)).1
    have h2 : Dg (nearS t l n) n k → Dg (nearS t (passS t n k ms l).1 n) n k := fun hd => passT_dg hs hk h hd ms.length (Nat.le_refl _)
    rw [runS]
    cases h3 : (passS t n k ms l).2 with
    | false => exact ⟨h1, h2⟩
    | true =>
      obtain ⟨h4, h5⟩ := runS_ok f _ h1
      exact ⟨h4, fun hd => h5 (h2 hd)⟩
theorem merged_ok (ms : List (Int × Int)) (hi : ∀ i, t i i = false) : Ok t n (mergedF t n k ms) ∧ (Dg (nearS t (fun i => i) n) n k → Dg (nearS t (mergedF t n k ms) n) n k) :=
  runS_ok hs hk _ _ (ok_id hi)
end
/- ---------------------------------------------- taking away, round by round -/
def lowS (g : Nat → Nat → Bool) (n : Nat) (k : Int) (th : Nat → Bool) (a : Nat) : Bool := decide (((cntS (fun b => ((th a && th b) && !decide (a = b)) && g a b) n : Nat) : Int) < k)
def sweepT (g : Nat → Nat → Bool) (n : Nat) (k : Int) (th : Nat → Bool) : Nat → Nat → Bool
  | 0 => th
  | a + 1 => if sweepT g n k th a a = true ∧ lowS g n k (sweepT g n k th a) a = true then (fun x => if x = a then false else sweepT g n k th a x) else sweepT g n k th a
def roundT (g : Nat → Nat → Bool) (n : Nat) (k : Int) (th : Nat → Bool) : Nat → Nat → Bool
  | 0 => th
  | r + 1 => sweepT g n k (roundT g n k th r) n
def easyF (t : Nat → Nat → Bool) (n : Nat) (l : Nat → Nat) (k : Int) : Nat → Bool := roundT (nearS t l n) n k (fun i => decide (l i = i)) n
def easyS (t : Nat → Nat → Bool) (n : Nat) (l : Nat → Nat) (k : Int) : Bool := !anyS (easyF t n l k) n
section
variable {g : Nat → Nat → Bool} {n : Nat} {k : Int} {th : Nat → Bool}
theorem sweep_le : ∀ (a x : Nat), sweepT g n k th a x = true → th x = true
  | 0, _, h => h
  | a + 1, x, h => by
    rw [sweepT] at h
    split at h
    · simp only at h
      split at h
      · cases h
      · exact sweep_le a x h
    · exact sweep_le a x h
theorem sweep_set {T : Nat → Bool} (hT : ∀ x, x < n → T x = true → th x = true) (hg : ∀ x, g x x = false) (hno : ∀ x, x < n → T x = true → k ≤ ((cntS (fun y => T y && g x y) n : Nat) : Int)) : ∀ (a : Nat), a ≤ n → ∀ x, x < n → T x = true → sweepT g n k th a x = true
  | 0, _, x, hx, h => hT x hx h
  | a + 1, ha, x, hx, h => by
    have ih := sweep_set hT hg hno a (by omega)
    rw [sweepT]
    split
    · rename_i hc
      simp only
      split
      · rename_i e
        subst e
        exfalso
        have h1 := hc.2
        rw [lowS, decide_eq_true_eq] at h1
        have h2 := hno x hx h
        have h3 := cntS_mono (p := fun y => T y && g x y) (q := fun b => ((sweepT g n k th x x && sweepT g n k th x b) && !decide (x = b)) && g x b) (n := n) (fun i hi h4 => by
          rw [Bool.and_eq_true] at h4
          have h5 : ¬ x = i := by rintro rfl; rw [hg] at h4; cases h4.2
          simp [hc.1, ih i hi h4.1, h5, h4.2])
        omega
      · exact ih x hx h
    · exact ih x hx h
theorem round_set {T : Nat → Bool} (hT : ∀ x, x < n → T x = true → th x = true) (hg : ∀ x, g x x = false) (hno : ∀ x, x < n → T x = true → k ≤ ((cntS (fun y => T y && g x y) n : Nat) : Int)) : ∀ (r : Nat) (x : Nat), x < n → T x = true → roundT g n k th r x = true
  | 0, x, hx, h => hT x hx h
  | r + 1, x, hx, h => sweep_set (round_set hT hg hno r) hg hno n (Nat.le_refl n) x hx h
/-- a node with few neighbours falls in a sweep -/
theorem sweep_low {x : Nat} (hl : ((cntS (fun y => th y && g x y) n : Nat) : Int) < k) : ∀ (a : Nat), x < a → sweepT g n k th a x = false
  | 0, h => by omega
  | a + 1, h => by
    by_cases e : x = a
    · subst e
      rw [sweepT]
      split
      · simp
      · rename_i hc
        cases h1 : sweepT g n k th x x with
        | false => rfl
        | true =>
          exfalso
          refine hc ⟨h1, ?_⟩
          rw [lowS, decide_eq_true_eq]
          have h3 := cntS_mono (p := fun b => ((sweepT g n k th x x && sweepT g n k th x b) && !decide (x = b)) && g x b) (q := fun y => th y && g x y) (n := n) (fun i hi h4 => by
            simp only [Bool.and_eq_true] at h4 ⊢
            exact ⟨sweep_le _ _ h4.1.1.2, h4.2⟩)
          omega
    · have ih := sweep_low hl a (by omega)
      rw [sweepT]
      split
      · simp only; rw [if_neg e]; exact ih
      · exact ih
theorem sweep_down (hd : Dg g n k) (hex : ∃ x, x < n ∧ th x = true) : cntS (sweepT g n k th n) n < cntS th n := by
  obtain ⟨x, hx, hT, hl⟩ := hd th hex
  exact cntS_lt hx (fun i _ h => sweep_le n i h) (sweep_low hl n hx) hT
theorem round_down (hd : Dg g n k) : ∀ (r : Nat), (∃ x, x < n ∧ roundT g n k th r x = true) → cntS (roundT g n k th r) n + r ≤ n
  | 0, _ => cntS_le _ _
  | r + 1, h => by
    have h1 : ∃ x, x < n ∧ roundT g n k th r x = true := by obtain ⟨x, hx, h2⟩ := h; exact ⟨x, hx, sweep_le n x h2⟩
    have h2 := round_down hd r h1
    have h3 := sweep_down hd h1
    have h4 : cntS (roundT g n k th (r + 1)) n = cntS (sweepT g n k (roundT g n k th r) n) n := rfl
    omega
end
theorem easy_dg {t : Nat → Nat → Bool} {n : Nat} {l : Nat → Nat} {k : Int} (hs : ∀ i j, t i j = t j i) (h : Ok t n l) (hk : 1 ≤ k) : easyS t n l k = true ↔ Dg (nearS t l n) n k := by
  unfold easyS
  rw [Bool.not_eq_true', anyS_false]
  constructor
  · intro he T ⟨x, hx, hTx⟩
    refine Classical.byContradiction fun hno => ?_
    have hno2 : ∀ x, x < n → T x = true → k ≤ ((cntS (fun y => T y && nearS t l n x y) n : Nat) : Int) := fun x hx hTx => Classical.byContradiction fun h1 => hno ⟨x, hx, hTx, by omega⟩
    have hrep : ∀ x, x < n → T x = true → decide (l x = x) = true := fun x hx hTx => Classical.byContradiction fun h1 => by
      have h2 := hno2 x hx hTx
      rw [cnt_none (fun i _ => by rw [near_out h (fun h3 => h1 (by simp [h3.1])) hs i]; simp)] at h2
      omega
    have := round_set (th := fun i => decide (l i = i)) hrep (nearS_irr h) hno2 n x hx hTx
    rw [easyF] at he
    rw [he x hx] at this; cases this
  · intro hd i hi
    cases h1 : easyF t n l k i with
    | false => rfl
    | true =>
      have h2 := round_down (th := fun i => decide (l i = i)) hd n ⟨i, hi, h1⟩
      have h3 : 0 < cntS (roundT (nearS t l n) n k (fun i => decide (l i = i)) n) n := by
        have := cntS_lt (p := fun _ => false) (q := roundT (nearS t l n) n k (fun i => decide (l i = i)) n) hi (fun _ _ h => by cases h) rfl h1
        omega
      omega
/- ---------------------------------------------- all get colours -/
theorem degS_cnt2 (f : Nat → Nat → Bool) (g : Nat → Bool) (a : Nat) : ∀ m, degS f g a m = cntS (fun y => g y && f a y) m
  | 0 => rfl
  | m + 1 => by rw [degS, cntS, degS_cnt2 f g a m]
theorem pick_low {f : Nat → Nat → Bool} {g : Nat → Bool} {n : Nat} {k : Int} (hd : Dg f n k) (h : ∃ i, i < n ∧ g i = true) : ∃ p : Nat, pickS f g n k = p ∧ p < n ∧ ((cntS (fun y => g y && f p y) n : Nat) : Int) < k := by
  unfold pickS
  rcases fstS_spec (p := fun a => g a && decide ((degS f g a n : Int) < k)) (n := n) with ⟨a, h1, h2, h3, h4⟩ | ⟨h1, h2⟩
  · refine ⟨a, by rw [h1], h2, ?_⟩
    simp only [Bool.and_eq_true, decide_eq_true_eq] at h3
    rw [← degS_cnt2]; exact h3.2
  · exfalso
    obtain ⟨x, hx, hT, hl⟩ := hd g h
    have := h2 x hx
    rw [← degS_cnt2] at hl
    simp [hT, hl] at this
/-- R is painted: each node has few neighbours behind it -/
def Few (f : Nat → Nat → Bool) (n : Nat) (k : Int) : List Nat → Prop
  | [] => True
  | a :: R => ((cntS (fun y => decide (y ∈ R) && f a y) n : Nat) : Int) < k ∧ Few f n k R
theorem cnt_full {p : Nat → Bool} {out : Nat → Int} : ∀ {n m : Nat}, (∀ c : Nat, c < m → ∃ y, y < n ∧ p y = true ∧ out y = c) → m ≤ cntS p n
  | n, 0, _ => Nat.zero_le _
  | n, m + 1, h => by
    obtain ⟨y, hy, h1, h2⟩ := h m (by omega)
    have h3 := cnt_full (p := fun z => p z && !decide (z = y)) (out := out) (n := n) (m := m) (fun c hc => by
      obtain ⟨z, hz, h4, h5⟩ := h c (by omega)
      refine ⟨z, hz, ?_, h5⟩
      have : z ≠ y := by rintro rfl; omega
      simp [h4, this])
    have h4 := cntS_lt (p := fun z => p z && !decide (z = y)) (q := p) hy (fun i _ h => by rw [Bool.and_eq_true] at h; exact h.1) (by simp) h1
    omega
theorem paint_all {f : Nat → Nat → Bool} {k : Int} {n : Nat} (hs : ∀ i j, f i j = f j i) (hi : ∀ i, f i i = false) : ∀ (R : List Nat), R.Nodup → (∀ x ∈ R, x < n) → Few f n k R → ∀ x ∈ R, 0 ≤ colT f k n R x
  | [], _, _, _, x, hx => by cases hx
  | a :: R, hn, hlt, hf, x, hx => by
    obtain ⟨haR, hnR⟩ := List.nodup_cons.1 hn
    have ih := paint_all hs hi R hnR (fun x hx => hlt x (List.mem_cons_of_mem _ hx)) hf.2
    have hp := painted (k := k) hs hi R hnR (fun x hx => hlt x (List.mem_cons_of_mem _ hx))
    rw [colT_cons]
    unfold paintS
    rcases fstS_spec (p := fun c => !usedS f (colT f k n R) a c n) (n := k.toNat) with ⟨c, h1, h2, h3, h4⟩ | ⟨h1, h2⟩
    · rw [h1]
      simp only
      by_cases e : x = a
      · rw [if_pos e]; omega
      · rw [if_neg e]; exact ih x ((List.mem_cons.1 hx).resolve_left e)
    · exfalso
      have h3 := cnt_full (p := fun y => decide (y ∈ R) && f a y) (out := colT f k n R) (n := n) (m := k.toNat) (fun c hc => by
        have h4 := h2 c hc
        simp only [Bool.not_eq_false'] at h4
        obtain ⟨b, hb, h5, h6⟩ := usedS_iff.1 h4
        refine ⟨b, hb, ?_, h6⟩
        have : b ∈ R := Classical.byContradiction fun h7 => by have := hp.rest b h7; omega
        simp [this, h5])
      have := hf.1
      omega
theorem few_order {f : Nat → Nat → Bool} {k : Int} {n : Nat} (hd : Dg f n k) : ∀ (j : Nat), j ≤ n → ∀ S : List Nat, (∀ x, x < n → (x ∈ S ↔ x ∉ orderT f k n j)) → Few f n k S → (∀ x ∈ S, x < n) → Few f n k (orderT f k n j ++ S)
  | 0, _, S, _, h, _ => h
  | j + 1, hj, S, hS, h, hSn => by
    have hex : ∃ i, i < n ∧ thereT f k n j i = true := by
      obtain ⟨p, _, h2, h3⟩ := orderT_pick (f := f) (k := k) (show j < n by omega)
      exact ⟨p, h2, by simp [thereT, h3]⟩
    obtain ⟨p, h1, h2, h3⟩ := pick_low hd hex
    obtain ⟨q, hq1, hq2, hq3⟩ := orderT_pick (f := f) (k := k) (show j < n by omega)
    have e : q = p := by have : (q : Int) = p := hq1.symm.trans h1; omega
    subst e
    have hsn := orderT_snoc h1
    rw [hsn, List.append_assoc]
    refine few_order hd j (by omega) ([q] ++ S) (fun x hx => ?_) ⟨?_, h⟩ (fun x hx => ?_)
    · have := hS x hx
      rw [hsn] at this
      simp only [List.mem_append, List.mem_singleton] at this ⊢
      constructor
      · rintro (rfl | h4)
        · exact hq3
        · exact fun h5 => this.1 h4 (.inl h5)
      · intro h4
        by_cases e : x = q
        · exact .inl e
        · exact .inr (this.2 (fun h5 => h5.elim h4 e))
    · refine Int.lt_of_le_of_lt (Int.ofNat_le.2 (cntS_mono fun y hy h4 => ?_)) h3
      rw [Bool.and_eq_true, decide_eq_true_eq] at h4
      have := (hS y hy).1 h4.1
      rw [hsn] at this
      have h5 : y ∉ orderT f k n j := fun h6 => this (List.mem_append_left _ h6)
      simp [thereT, h5, h4.2]
    · rcases List.mem_append.1 hx with h4 | h4
      · simp at h4; subst h4; exact hq2
      · exact hSn x h4
theorem colours_all {f : Nat → Nat → Bool} {k : Int} {n : Nat} (hs : ∀ i j, f i j = f j i) (hi : ∀ i, f i i = false) (hd : Dg f n k) : ∀ c ∈ coloursS f n k, 0 ≤ c := by
  intro c hc
  obtain ⟨x, hx, rfl⟩ := List.mem_map.1 hc
  have h1 := few_order hd n (Nat.le_refl n) [] (fun x hx => by simp [orderT_all hx]) trivial (by simp)
  rw [List.append_nil] at h1
  exact paint_all hs hi _ (orderT_nodup (Nat.le_refl n)) (orderT_in (Nat.le_refl n)) h1 x (orderT_all (List.mem_range.1 hx))
/- ---------------------------------------------- the classes' own graph -/
theorem adjT_iff {n : Nat} {es : List (Int × Int)} {a b : Nat} : ∀ {j : Nat}, adjT n es j a b = true ↔ ∃ i, i < j ∧ edgeOk n (es.getD i (0, 0)) = true ∧ ((a = (es.getD i (0, 0)).2.toNat ∧ b = (es.getD i (0, 0)).1.toNat) ∨ (a = (es.getD i (0, 0)).1.toNat ∧ b = (es.getD i (0, 0)).2.toNat))
  | 0 => by simp [adjT]
  | j + 1 => by
    have ih := adjT_iff (n := n) (es := es) (a := a) (b := b) (j := j)
    rw [adjT]
    constructor
    · intro h
      cases he : edgeOk n (es.getD j (0, 0)) with
      | false => rw [he] at h; obtain ⟨i, h1, h2⟩ := ih.1 h; exact ⟨i, by omega, h2⟩
      | true =>
        rw [he, cond_true] at h
        by_cases h1 : a = (es.getD j (0, 0)).2.toNat ∧ b = (es.getD j (0, 0)).1.toNat
        · exact ⟨j, by omega, he, .inl h1⟩
        · rw [if_neg h1] at h
          by_cases h2 : a = (es.getD j (0, 0)).1.toNat ∧ b = (es.getD j (0, 0)).2.toNat
          · exact ⟨j, by omega, he, .inr h2⟩
          · rw [if_neg h2] at h; obtain ⟨i, h3, h4⟩ := ih.1 h; exact ⟨i, by omega, h4⟩
    · rintro ⟨i, h1, h2, h3⟩
      by_cases e : i = j
      · subst e
        rw [h2, cond_true]
        rcases h3 with h3 | h3
        · rw [if_pos h3]
        · by_cases h4 : a = (es.getD i (0, 0)).2.toNat ∧ b = (es.getD i (0, 0)).1.toNat
          · rw [if_pos h4]
          · rw [if_neg h4, if_pos h3]
      · have h4 := ih.2 ⟨i, by omega, h2, h3⟩
        rw [h4]
        cases edgeOk n (es.getD j (0, 0)) <;> simp
def mapP (l : Nat → Nat) (es : List (Int × Int)) : List (Int × Int) := es.map (fun e => (((l e.1.toNat : Nat) : Int), ((l e.2.toNat : Nat) : Int)))
theorem mapP_getD {l : Nat → Nat} {es : List (Int × Int)} {i : Nat} (h : i < es.length) : (mapP l es).getD i (0, 0) = (((l (es.getD i (0, 0)).1.toNat : Nat) : Int), ((l (es.getD i (0, 0)).2.toNat : Nat) : Int)) := by
  unfold mapP; simp [List.getD, h]
theorem mapP_snoc {l : Nat → Nat} {es : List (Int × Int)} {i : Nat} (h : i < es.length) : mapP l (es.take (i + 1)) = mapP l (es.take i) ++ [(((l (es.getD i (0, 0)).1.toNat : Nat) : Int), ((l (es.getD i (0, 0)).2.toNat : Nat) : Int))] := by
  rw [take_snocD es i (0, 0) h]; unfold mapP; rw [List.map_append]; rfl
theorem adj_map {n : Nat} {es : List (Int × Int)} {l : Nat → Nat} (h : Ok (adjS n es) n l) (hin : ∀ p ∈ es, 0 ≤ p.1 ∧ p.1 < n ∧ 0 ≤ p.2 ∧ p.2 < n) (x y : Nat) : adjS n (mapP l es) x y = nearS (adjS n es) l n x y := by
  rw [Bool.eq_iff_iff, nearS_iff]
  have hlen : (mapP l es).length = es.length := by simp [mapP]
  have hmem : ∀ i, i < es.length → es.getD i (0, 0) ∈ es := fun i hi => by simp [List.getD, hi]
  unfold adjS
  rw [adjT_iff, hlen]
  constructor
  · rintro ⟨i, hi, h1, h2⟩
    rw [mapP_getD hi] at h1 h2
    have h3 := hin _ (hmem i hi)
    have hne : (es.getD i (0, 0)).1.toNat ≠ (es.getD i (0, 0)).2.toNat := fun e => by
      unfold edgeOk at h1
      rw [decide_eq_true_eq, e] at h1
      exact h1.2.2.2.2 rfl
    have hok : edgeOk n (es.getD i (0, 0)) = true := by unfold edgeOk; rw [decide_eq_true_eq]; omega
    simp only [Int.toNat_natCast] at h2
    rcases h2 with ⟨rfl, rfl⟩ | ⟨rfl, rfl⟩
    · exact ⟨(es.getD i (0, 0)).2.toNat, (es.getD i (0, 0)).1.toNat, by omega, by omega, rfl, rfl, adjT_iff.2 ⟨i, hi, hok, .inl ⟨rfl, rfl⟩⟩⟩
    · exact ⟨(es.getD i (0, 0)).1.toNat, (es.getD i (0, 0)).2.toNat, by omega, by omega, rfl, rfl, adjT_iff.2 ⟨i, hi, hok, .inr ⟨rfl, rfl⟩⟩⟩
  · rintro ⟨i, j, hi, hj, rfl, rfl, h1⟩
    obtain ⟨q, hq, h2, h3⟩ := adjT_iff.1 h1
    have h4 := h.sep i j hi hj h1
    have hli := h.le i hi
    have hlj := h.le j hj
    refine ⟨q, hq, ?_, ?_⟩
    · rw [mapP_getD hq]
      unfold edgeOk
      rw [decide_eq_true_eq]
      rcases h3 with ⟨h5, h6⟩ | ⟨h5, h6⟩ <;> rw [← h5, ← h6] <;> simp only <;> omega
    · rw [mapP_getD hq]
      rcases h3 with ⟨h5, h6⟩ | ⟨h5, h6⟩
      · left; rw [← h5, ← h6]; simp
      · right; rw [← h5, ← h6]; simp
end Go.Proofs.Ytkhphpobccnodaa
