/- The state of the merging's loops. Conditions: none. -/
import Derived.Test.YtkhphpobccnodaaW5
namespace Go.Proofs.Ytkhphpobccnodaa
open Go.JE

theorem Try.zero3 : (Try.prog.info? 3).bind (·.zero) = some (.int .i64 0) := by kernel_rfl
structure Ml where
  bk : Nat
  bg : Nat
  bc : Nat
  gb : Nat
  c : Nat
/-- the graph's maps, of the classes' names alone; the classes' row -/
structure MS (H : Heap) (B : Nat) (z : Ml) (n : Nat) (k : Int) (r : Nat → Option Nat) (g : Nat → Nat → Bool) (cls : Nat → Nat) : Prop where
  hk : Rw H z.bk 3 1 (fun _ => .int .i64 k)
  hg : Rw H z.bg 46 1 (fun _ => .slice (some ⟨z.gb, 0, none⟩) n n)
  hc : Rw H z.bc 22 1 (fun _ => .slice (some ⟨z.c, 0, none⟩) n n)
  rg : Rw H z.gb 35 n (fun i => .map (r i))
  rc : Rw H z.c 3 n (fun i => .int .i64 (cls i : Nat))
  row : ∀ i, i < n → cls i = i → ∃ b, r i = some b ∧ B ≤ b ∧ Ad H b n (g i)
  apart : ∀ i j b, i < n → j < n → r i = some b → r j = some b → i = j
  ord : z.bk ≠ z.c ∧ B ≤ z.gb ∧ B ≤ z.c
structure MSlt (z : Ml) (n : Nat) (r : Nat → Option Nat) (cls : Nat → Nat) (X : Nat) : Prop where
  bs : z.bk < X ∧ z.bg < X ∧ z.bc < X ∧ z.gb < X ∧ z.c < X
  rs : ∀ i b, i < n → cls i = i → r i = some b → b < X
section
variable {H H' : Heap} {B : Nat} {z : Ml} {n : Nat} {k : Int} {r : Nat → Option Nat} {g g' : Nat → Nat → Bool} {cls : Nat → Nat}
theorem MS.rlt (h : MS H B z n k r g cls) {i b : Nat} (hi : i < n) (hc : cls i = i) (hr : r i = some b) : b < H.size := by
  obtain ⟨b', h1, _, L, h2, _⟩ := h.row i hi hc
  rw [hr] at h1; injection h1 with h1; subst h1; exact h2.lt
theorem MS.lt (h : MS H B z n k r g cls) : MSlt z n r cls H.size := ⟨⟨h.hk.lt, h.hg.lt, h.hc.lt, h.rg.lt, h.rc.lt⟩, fun _ _ hi hc hr => h.rlt hi hc hr⟩
theorem MS.kpB {X : Nat} (h : MS H B z n k r g cls) (hx : MSlt z n r cls X) (hk : ∀ b, b < X → H'[b]? = H[b]?) : MS H' B z n k r g cls := by
  obtain ⟨b1, b2, b3, b4, b5⟩ := hx.bs
  refine ⟨h.hk.of (hk _ b1), h.hg.of (hk _ b2), h.hc.of (hk _ b3), h.rg.of (hk _ b4), h.rc.of (hk _ b5), fun i hi hc => ?_, h.apart, h.ord⟩
  obtain ⟨b, h1, h2, h3⟩ := h.row i hi hc
  exact ⟨b, h1, h2, h3.of (hk _ (hx.rs i b hi hc h1))⟩
theorem MS.kp (h : MS H B z n k r g cls) (hk : Kp H.size H H') : MS H' B z n k r g cls := h.kpB h.lt hk.2
theorem AdL.congr {L : List (Int × Value)} {n : Nat} {p q : Nat → Bool} (h : AdL L n p) (hpq : ∀ y, y < n → p y = q y) : AdL L n q := by
  intro k
  rw [h k]
  by_cases h1 : 0 ≤ k ∧ k < n
  · rw [hpq k.toNat (by omega)]
  · rw [if_neg (fun h2 => h1 ⟨h2.1, h2.2.1⟩), if_neg (fun h2 => h1 ⟨h2.1, h2.2.1⟩)]
theorem Ad.congr {b : Nat} {p q : Nat → Bool} (h : Ad H b n p) (hpq : ∀ y, y < n → p y = q y) : Ad H b n q := by
  obtain ⟨L, h1, h2⟩ := h; exact ⟨L, h1, h2.congr hpq⟩
theorem MS.congr (h : MS H B z n k r g cls) (h1 : ∀ i y, i < n → y < n → cls i = i → g i y = g' i y) : MS H B z n k r g' cls := by
  refine ⟨h.hk, h.hg, h.hc, h.rg, h.rc, fun i hi hc => ?_, h.apart, h.ord⟩
  obtain ⟨b, h2, h3, h4⟩ := h.row i hi hc
  exact ⟨b, h2, h3, h4.congr (fun y hy => h1 i y hi hy hc)⟩
theorem MS.sg (h : MS H B z n k r g cls) (hn : n ≤ 8192) : Sl H H.size (.slice (some ⟨z.gb, 0, none⟩) n n) 1 n (fun i => .map (r i)) := Rw1 h.rg (by omega)
theorem MS.sc (h : MS H B z n k r g cls) (hn : n ≤ 8192) : Nt H H.size (.slice (some ⟨z.c, 0, none⟩) n n) n cls := Rw1 h.rc (by omega)
theorem MS.ne {b T m : Nat} {f : Nat → Value} (h : MS H B z n k r g cls) (hb : Rw H b T m f) {i b' : Nat} (hi : i < n) (hc : cls i = i) (hr : r i = some b') : b' ≠ b := by
  rintro rfl
  obtain ⟨b2, h1, _, L, h2, _⟩ := h.row i hi hc
  rw [hr] at h1; injection h1 with h1; subst h1
  exact Im.notRw h2 hb
/-- a row of numbers, or the graph's, written: all others stay -/
theorem MS.setRow (h : MS H B z n k r g cls) {b T m i : Nat} {f : Nat → Value} {v : Value} (hb : Rw H b T m f) : (∀ {b' T' m' f'}, Rw H b' T' m' f' → b' ≠ b → Rw (setc H b i v) b' T' m' f') ∧ (∀ j, j < n → cls j = j → ∃ b', r j = some b' ∧ B ≤ b' ∧ Ad (setc H b i v) b' n (g j)) := by
  refine ⟨fun h1 h2 => h1.setOther h2, fun j hj hc => ?_⟩
  obtain ⟨b', h1, h2, h3⟩ := h.row j hj hc
  exact ⟨b', h1, h2, h3.of (setc_other (h.ne hb hj hc h1))⟩
theorem MS.setC (h : MS H B z n k r g cls) {b a : Nat} (hab : a ≠ b) : MS (setc H z.c (0 + b) (.int .i64 (a : Nat))) B z n k r g (fun x => if x = b then a else cls x) := by
  obtain ⟨h1, h2⟩ := h.setRow (i := 0 + b) (v := .int .i64 (a : Nat)) h.rc
  refine ⟨h1 h.hk h.ord.1, h1 h.hg (Rw.ne h.hg h.rc (by decide)), h1 h.hc (Rw.ne h.hc h.rc (by decide)), h1 h.rg (Rw.ne h.rg h.rc (by decide)), (h.rc.set).congr (fun i _ => ?_), fun i hi hc => ?_, h.apart, h.ord⟩
  · by_cases e1 : i = b
    · subst e1; rw [if_pos (by omega), if_pos rfl]
    · rw [if_neg (by omega), if_neg e1]
  · by_cases e1 : i = b
    · subst e1; rw [if_pos rfl] at hc; exact absurd hc hab
    · rw [if_neg e1] at hc; exact h2 i hi hc
theorem MS.setN (h : MS H B z n k r g cls) {b : Nat} (hb : cls b ≠ b) : MS (setc H z.gb (0 + b) (.map none)) B z n k (fun x => if x = b then none else r x) g cls := by
  obtain ⟨h1, h2⟩ := h.setRow (i := 0 + b) (v := .map none) h.rg
  refine ⟨h1 h.hk (Rw.ne h.hk h.rg (by decide)), h1 h.hg (Rw.ne h.hg h.rg (by decide)), h1 h.hc (Rw.ne h.hc h.rg (by decide)), (h.rg.set).congr (fun i _ => ?_), h1 h.rc (Rw.ne h.rc h.rg (by decide)), fun i hi hc => ?_, fun i j b' hi hj h3 h4 => ?_, h.ord⟩
  · by_cases e1 : i = b
    · subst e1; rw [if_pos (by omega), if_pos rfl]
    · rw [if_neg (by omega), if_neg e1]
  · have e1 : i ≠ b := fun e1 => hb (by rw [← e1]; exact hc)
    obtain ⟨b', h3, h4⟩ := h2 i hi hc
    exact ⟨b', by simp only [if_neg e1]; exact h3, h4⟩
  · replace h3 : (if i = b then none else r i) = some b' := h3
    replace h4 : (if j = b then none else r j) = some b' := h4
    by_cases e1 : i = b
    · rw [if_pos e1] at h3; cases h3
    · rw [if_neg e1] at h3
      by_cases e2 : j = b
      · rw [if_pos e2] at h4; cases h4
      · rw [if_neg e2] at h4; exact h.apart i j b' hi hj h3 h4
/-- one map turned -/
theorem MS.setM (h : MS H B z n k r g cls) {a ra : Nat} {p : Nat → Bool} (ha : a < n) (hr : r a = some ra) (hra : B ≤ ra) (hca : cls a = a) (hA : Ad H' ra n p) (ht : Tw ra H H') : MS H' B z n k r (fun i y => if i = a then p y else g i y) cls := by
  have hne : ∀ {b T m f}, Rw H b T m f → Rw H' b T m f := fun h1 => h1.of (ht.2 _ (h.ne h1 ha hca hr).symm)
  refine ⟨hne h.hk, hne h.hg, hne h.hc, hne h.rg, hne h.rc, fun i hi hc => ?_, h.apart, h.ord⟩
  obtain ⟨b, h1, h2, h3⟩ := h.row i hi hc
  by_cases e1 : i = a
  · subst e1; rw [hr] at h1; injection h1 with h1; subst h1
    exact ⟨ra, hr, hra, by simpa using hA⟩
  · refine ⟨b, h1, h2, ?_⟩
    have h4 : b ≠ ra := fun e2 => e1 (h.apart i a b hi ha h1 (by rw [hr, e2]))
    simpa [e1] using h3.of (ht.2 b h4)
end
theorem AdL.look {L : List (Int × Value)} {n x : Nat} {p : Nat → Bool} (h : AdL L n p) (hx : x < n) : (lkM L (x : Nat)).getD (.bool false) = .bool (p x) := by
  rw [h x]
  by_cases h1 : p x = true
  · rw [if_pos ⟨by omega, by omega, by simpa using h1⟩, h1]; rfl
  · rw [if_neg (fun h2 => h1 (by simpa using h2.2.2))]; simp at h1; rw [h1]; rfl
theorem cntS_deg (p : Nat → Bool) (a : Nat) : ∀ n, degS (fun _ y => p y) (fun _ => true) a n = cntS p n
  | 0 => rfl
  | n + 1 => by simp [degS, cntS, cntS_deg p a n]
theorem AdL.cnt {L : List (Int × Value)} {n : Nat} {p : Nat → Bool} (h : AdL L n p) (hn : (L.map (·.1)).Nodup) : L.length = cntS p n := by
  rw [← cntS_deg p 0 n]; exact AdL.len (f := fun _ y => p y) (a := 0) h hn
theorem len_cnt {e : Env} {H : Heap} {x : Operand} {b n : Nat} {p : Nat → Bool} (h : Ad H b n p) (hx : ev e x = some (.map (some b))) : OpOk Try.prog e (.call { callee := .builtin .len, args := #[x], argTypes := #[35] }) H (.int .i64 (cntS p n : Nat)) := by
  obtain ⟨L, h1, h2⟩ := h
  rw [← h2.cnt h1.nodup]
  exact OpOk.len_map Try.underlying35 h1 hx
theorem look_ad {e : Env} {H : Heap} {x ix : Operand} {b n y : Nat} {p : Nat → Bool} (h : Ad H b n p) (hx : ev e x = some (.map (some b))) (hi : ev e ix = some (.int .i64 (y : Nat))) (hy : y < n) : OpOk Try.prog e (.lookup 35 x ix false) H (.bool (p y)) := by
  obtain ⟨L, h1, h2⟩ := h
  exact OpOk.eqv (OpOk.lookup Try.underlying35 Try.underlying3 Try.zero4 h1 hx hi) (h2.look hy)
theorem AdL.del {L L' : List (Int × Value)} {n b : Nat} {p : Nat → Bool} (h : AdL L n p) (hL : ∀ m, lkM L' m = if m = (b : Int) then none else lkM L m) : AdL L' n (fun y => if y = b then false else p y) := by
  intro k
  rw [hL k, h k]
  by_cases e1 : k = (b : Int)
  · subst e1; rw [if_pos rfl, if_neg (by simp)]
  · rw [if_neg e1]
    by_cases h1 : 0 ≤ k ∧ k < n
    · have h2 : ¬ k.toNat = b := by omega
      simp only [if_neg h2]
    · rw [if_neg (fun h2 => h1 ⟨h2.1, h2.2.1⟩), if_neg (fun h2 => h1 ⟨h2.1, h2.2.1⟩)]

/- classes by fathers -/
structure Cl (n : Nat) (cls l : Nat → Nat) : Prop where
  le : ∀ i, i < n → cls i ≤ i
  same : ∀ i, i < n → l (cls i) = l i
  top : ∀ i, i < n → (cls i = i ↔ l i = i)
theorem Cl.join {n : Nat} {cls l : Nat → Nat} (h : Cl n cls l) {a b : Nat} (la : l a = a) (lb : l b = b) (hab : a < b) (hb : b < n) : Cl n (fun x => if x = b then a else cls x) (joinS l a b) := by
  have hm : min a b = a := by omega
  refine ⟨fun i hi => ?_, fun i hi => ?_, fun i hi => ?_⟩
  · show (if i = b then a else cls i) ≤ i
    split
    · omega
    · exact h.le i hi
  · simp only [joinS]
    by_cases e1 : i = b
    · subst e1; rw [if_pos rfl, if_pos (.inl la), if_pos (.inr lb)]
    · rw [if_neg e1, h.same i hi]
  · simp only [joinS]
    by_cases e1 : i = b
    · subst e1; rw [if_pos rfl, if_pos (.inr lb), hm]
    · rw [if_neg e1, h.top i hi]
      by_cases h2 : l i = a ∨ l i = b
      · rw [if_pos h2, hm]
        rcases h2 with h2 | h2
        · rw [h2]
        · rw [h2]; constructor
          · intro h3; omega
          · intro h3; rw [← h3] at h2; omega
      · rw [if_neg h2]
/-- how many neighbours of the two have k or more: as the maps are counted -/
def bigS (n : Nat) (k : Int) (g : Nat → Nat → Bool) (a b x : Nat) : Bool := decide (k ≤ ((cntS (g x) n : Nat) : Int) - (if g a x = true ∧ g b x = true then 1 else 0))
def manyS (n : Nat) (k : Int) (g : Nat → Nat → Bool) (a b : Nat) : Nat := cntS (fun x => (g a x || g b x) && bigS n k g a b x) n
/-- how many of those that have come are big -/
def bigV (n : Nat) (k : Int) (g : Nat → Nat → Bool) (a b : Nat) (vis : List Int) : Nat := (vis.filter (fun x => bigS n k g a b x.toNat)).length
theorem bigV_snoc (n : Nat) (k : Int) (g : Nat → Nat → Bool) (a b : Nat) (vis : List Int) (x : Nat) : bigV n k g a b (vis ++ [(x : Int)]) = bigV n k g a b vis + (if bigS n k g a b x = true then 1 else 0) := by
  simp only [bigV, List.filter_append, List.length_append]
  by_cases h : bigS n k g a b x = true <;> simp [h]
/-- a list without doubles of the numbers below n with p: as many as one counts -/
theorem vis_cnt {n : Nat} {p q : Nat → Bool} {vis : List Int} (hn : vis.Nodup) (h1 : ∀ k ∈ vis, ∃ b : Nat, k = b ∧ b < n ∧ p b = true) (h2 : ∀ b : Nat, b < n → p b = true → (b : Int) ∈ vis) : (vis.filter (fun x => q x.toNat)).length = cntS (fun x => p x && q x) n := by
  have hp : (vis.filter (fun x => q x.toNat)).Perm (((List.range n).filter (fun x => p x && q x)).map (fun x : Nat => (x : Int))) := by
    refine (List.perm_ext_iff_of_nodup (List.Nodup.sublist List.filter_sublist hn) ?_).2 fun k => ?_
    · have h3 : ((List.range n).filter (fun x => p x && q x)).Nodup := List.Nodup.sublist List.filter_sublist List.nodup_range
      exact List.pairwise_map.2 (h3.imp fun hne e1 => hne (by omega))
    · simp only [List.mem_filter, List.mem_map, List.mem_range, Bool.and_eq_true]
      constructor
      · rintro ⟨h3, h4⟩
        obtain ⟨b, rfl, h5, h6⟩ := h1 k h3
        exact ⟨b, ⟨h5, h6, by simpa using h4⟩, rfl⟩
      · rintro ⟨b, ⟨h3, h4, h5⟩, rfl⟩
        exact ⟨h2 b h3 h4, by simpa using h5⟩
  have h3 := hp.length_eq
  have h4 : ∀ m, ((List.range m).filter (fun x => p x && q x)).length = cntS (fun x => p x && q x) m := by
    intro m
    induction m with
    | zero => rfl
    | succ m ih =>
      rw [List.range_succ, List.filter_append, List.length_append, ih]
      simp only [cntS]
      by_cases h5 : (p m && q m) = true <;> simp [h5]
  rw [h3, List.length_map, h4]
theorem cntS_add (p q : Nat → Bool) : ∀ n, cntS p n + cntS q n = cntS (fun x => p x || q x) n + cntS (fun x => p x && q x) n
  | 0 => rfl
  | n + 1 => by
    have := cntS_add p q n
    simp only [cntS]
    by_cases h1 : p n = true <;> by_cases h2 : q n = true <;> simp [h1, h2] <;> omega
end Go.Proofs.Ytkhphpobccnodaa
