/- The state of the colouring's loops. Conditions: none. -/
import Derived.Test.YtkhphpobccnodaaW3
import Derived.Test.YtkhphpobccnodaaW2
import Derived.Test.YtkhphpobccnodaaFe
namespace Go.Proofs.Ytkhphpobccnodaa
open Go.JE

theorem degS_cnt (f : Nat → Nat → Bool) (a : Nat) : ∀ m, degS f (fun _ => true) a m = ((List.range m).filter (fun k => f a k)).length
  | 0 => rfl
  | m + 1 => by
    rw [List.range_succ, List.filter_append, List.length_append, ← degS_cnt f a m]
    by_cases h : f a m = true <;> simp [degS, h]
theorem AdL.len {L : List (Int × Value)} {n a : Nat} {f : Nat → Nat → Bool} (h : AdL L n (f a)) (hn : (L.map (·.1)).Nodup) : L.length = degS f (fun _ => true) a n := by
  have hp : (L.map (·.1)).Perm (((List.range n).filter (fun k => f a k)).map (fun k : Nat => (k : Int))) := by
    refine (List.perm_ext_iff_of_nodup hn ?_).2 fun k => ?_
    · have h1 : ((List.range n).filter (fun k => f a k)).Nodup := List.Nodup.sublist List.filter_sublist List.nodup_range
      exact List.pairwise_map.2 (h1.imp fun hne e1 => hne (by omega))
    · have hk := h k
      have h2 : k ∈ L.map (·.1) ↔ ¬ lkM L k = none := by rw [lkM_none]; exact Classical.not_not.symm
      rw [h2, hk]
      simp only [List.mem_map, List.mem_filter, List.mem_range]
      by_cases h3 : 0 ≤ k ∧ k < n ∧ f a k.toNat = true
      · rw [if_pos h3]
        exact ⟨fun _ => ⟨k.toNat, ⟨by omega, h3.2.2⟩, by omega⟩, fun _ => by simp⟩
      · rw [if_neg h3]
        refine ⟨fun h4 => absurd rfl h4, ?_⟩
        rintro ⟨j, ⟨h4, h5⟩, rfl⟩
        exact absurd ⟨by omega, by omega, by simpa using h5⟩ h3
  have := hp.length_eq
  rw [degS_cnt]
  simpa using this
theorem AdL.mem {L : List (Int × Value)} {n : Nat} {g : Nat → Bool} (h : AdL L n g) (hn : (L.map (·.1)).Nodup) {k : Int} {v : Value} (hk : (k, v) ∈ L) : ∃ b : Nat, k = b ∧ b < n ∧ g b = true := by
  rw [lkM_mem hn, h k] at hk
  by_cases h3 : 0 ≤ k ∧ k < n ∧ g k.toNat = true
  · exact ⟨k.toNat, by omega, by omega, h3.2.2⟩
  · rw [if_neg h3] at hk; cases hk
theorem AdL.key {L : List (Int × Value)} {n : Nat} {g : Nat → Bool} (h : AdL L n g) {b : Nat} (hb : b < n) (hg : g b = true) : (b : Int) ∈ L.map (·.1) := by
  have h1 := h b
  rw [if_pos ⟨by omega, by omega, by simpa using hg⟩] at h1
  exact Classical.byContradiction fun h2 => by rw [lkM_none.2 h2] at h1; cases h1

theorem degS_drop (f : Nat → Nat → Bool) (g g' : Nat → Bool) (x p : Nat) (hp : g p = true) (hg : ∀ a, g' a = if a = p then false else g a) : ∀ m, (degS f g' x m : Int) = degS f g x m - (if p < m ∧ f x p = true then 1 else 0)
  | 0 => by simp [degS]
  | m + 1 => by
    have ih := degS_drop f g g' x p hp hg m
    by_cases e1 : m = p
    · subst e1
      have h2 : ¬ (m < m ∧ f x m = true) := by omega
      rw [if_neg h2] at ih
      have h3 : g' m = false := by rw [hg, if_pos rfl]
      by_cases e2 : f x m = true
      · simp [degS, hp, e2, h3]; omega
      · simp [degS, hp, e2, h3]; omega
    · have h3 : (p < m + 1 ∧ f x p = true) ↔ (p < m ∧ f x p = true) := by
        constructor
        · rintro ⟨h4, h5⟩; exact ⟨by omega, h5⟩
        · rintro ⟨h4, h5⟩; exact ⟨by omega, h5⟩
      have h4 : g' m = g m := by rw [hg, if_neg e1]
      simp only [degS, h3, h4]
      by_cases e2 : g m && f x m
      · simp [e2]; omega
      · simp [e2]; omega
theorem adjT_sym (n : Nat) (es : List (Int × Int)) : ∀ j a b, adjT n es j a b = adjT n es j b a
  | 0, _, _ => rfl
  | j + 1, a, b => by
    simp only [adjT, adjT_sym n es j a b]
    cases edgeOk n (es.getD j (0, 0)) with
    | false => rfl
    | true =>
      simp only [cond_true]
      by_cases h1 : a = (es.getD j (0, 0)).2.toNat ∧ b = (es.getD j (0, 0)).1.toNat <;> by_cases h2 : a = (es.getD j (0, 0)).1.toNat ∧ b = (es.getD j (0, 0)).2.toNat
      · simp [h1, h2, And.comm]
      · rw [if_pos h1, if_neg (fun h => h2 ⟨h.2, h.1⟩), if_pos ⟨h1.2, h1.1⟩]
      · rw [if_neg h1, if_pos h2, if_pos ⟨h2.2, h2.1⟩]
      · rw [if_neg h1, if_neg h2, if_neg (fun h => h2 ⟨h.2, h.1⟩), if_neg (fun h => h1 ⟨h.2, h.1⟩)]
theorem bestS_pos {f : Nat → Nat → Bool} {g : Nat → Bool} {n m : Nat} (h : ¬ (bestS f g n m).1 < 0) : (bestS f g n m).1.toNat < m ∧ (bestS f g n m).2 = degS f g (bestS f g n m).1.toNat n := by
  rcases bestS_in f g n m with ⟨h1, _⟩ | ⟨p, h1, h2, h3, h4⟩
  · rw [h1] at h; simp at h
  · rw [h1] at h ⊢
    exact ⟨by omega, by rw [h4]; simp⟩
theorem bestS_neg {f : Nat → Nat → Bool} {g : Nat → Bool} {n m : Nat} (h : (bestS f g n m).1 < 0) : (bestS f g n m).2 = -1 := by
  rcases bestS_in f g n m with ⟨h1, _⟩ | ⟨p, h1, h2, h3, h4⟩
  · rw [h1]
  · rw [h1] at h; omega

theorem Rw.ne {H : Heap} {b b' T T' n n' : Nat} {g g' : Nat → Value} (h : Rw H b T n g) (h' : Rw H b' T' n' g') (hT : T ≠ T') : b ≠ b' := by
  rintro rfl
  obtain ⟨c, h1, _⟩ := h
  obtain ⟨c', h2, _⟩ := h'
  rw [h1] at h2
  injection h2 with h2
  injection h2 with _ h2 _
  exact hT h2

/-- the blocks that the colouring holds: boxes of n, k, of the graph, of three rows; the rows -/
structure Bl where
  bn : Nat
  bk : Nat
  bg : Nat
  bd : Nat
  bo : Nat
  bq : Nat
  gb : Nat
  d : Nat
  o : Nat
  q : Nat
structure CS (H : Heap) (B : Nat) (z : Bl) (n : Nat) (k : Int) (r : Nat → Nat) (F : Nat → Nat → Bool) (deg out : Nat → Int) (gone : Nat → Bool) : Prop where
  hn : Rw H z.bn 3 1 (fun _ => .int .i64 n)
  hk : Rw H z.bk 3 1 (fun _ => .int .i64 k)
  hg : Rw H z.bg 46 1 (fun _ => .slice (some ⟨z.gb, 0, none⟩) n n)
  nw : Nw H B z.gb n r F
  hd : Rw H z.bd 22 1 (fun _ => .slice (some ⟨z.d, 0, none⟩) n n)
  ho : Rw H z.bo 22 1 (fun _ => .slice (some ⟨z.o, 0, none⟩) n n)
  hq : Rw H z.bq 36 1 (fun _ => .slice (some ⟨z.q, 0, none⟩) n n)
  rd : Rw H z.d 3 n (fun a => .int .i64 (deg a))
  ro : Rw H z.o 3 n (fun a => .int .i64 (out a))
  rq : Rw H z.q 4 n (fun a => .bool (gone a))
  ord : z.bn ≠ z.d ∧ z.bk ≠ z.d ∧ z.bn ≠ z.o ∧ z.bk ≠ z.o ∧ z.d ≠ z.o ∧ B ≤ z.d ∧ B ≤ z.o ∧ B ≤ z.q
section
variable {H H' : Heap} {B : Nat} {z : Bl} {n : Nat} {k : Int} {r : Nat → Nat} {F : Nat → Nat → Bool} {deg out deg' out' : Nat → Int} {gone gone' : Nat → Bool}
theorem CS.of (h : CS H B z n k r F deg out gone) (hb : ∀ b, b < H.size → H'[b]? = H[b]?) : CS H' B z n k r F deg out gone :=
  ⟨h.hn.of (hb _ h.hn.lt), h.hk.of (hb _ h.hk.lt), h.hg.of (hb _ h.hg.lt), h.nw.of (hb _ h.nw.out.lt) (fun i hi => hb _ (h.nw.lt hi)), h.hd.of (hb _ h.hd.lt), h.ho.of (hb _ h.ho.lt), h.hq.of (hb _ h.hq.lt), h.rd.of (hb _ h.rd.lt), h.ro.of (hb _ h.ro.lt), h.rq.of (hb _ h.rq.lt), h.ord⟩
theorem CS.kp (h : CS H B z n k r F deg out gone) (hk : Kp H.size H H') : CS H' B z n k r F deg out gone := h.of hk.2
theorem CS.congr (h : CS H B z n k r F deg out gone) (h1 : ∀ a, a < n → deg a = deg' a) (h2 : ∀ a, a < n → out a = out' a) (h3 : ∀ a, a < n → gone a = gone' a) : CS H B z n k r F deg' out' gone' :=
  ⟨h.hn, h.hk, h.hg, h.nw, h.hd, h.ho, h.hq, h.rd.congr (fun i hi => by rw [h1 i hi]), h.ro.congr (fun i hi => by rw [h2 i hi]), h.rq.congr (fun i hi => by rw [h3 i hi]), h.ord⟩
theorem CS.setQ (h : CS H B z n k r F deg out gone) {a : Nat} {v : Bool} : CS (setc H z.q a (.bool v)) B z n k r F deg out (fun x => if x = a then v else gone x) := by
  have hne : ∀ {b T m g}, Rw H b T m g → T ≠ 4 → Rw (setc H z.q a (.bool v)) b T m g := fun h1 hT => h1.setOther (Rw.ne h1 h.rq hT)
  refine ⟨hne h.hn (by decide), hne h.hk (by decide), hne h.hg (by decide), h.nw.of (setc_other (Rw.ne h.nw.out h.rq (by decide))) (fun i hi => setc_other (fun e1 => ?_)), hne h.hd (by decide), hne h.ho (by decide), hne h.hq (by decide), hne h.rd (by decide), hne h.ro (by decide), (h.rq.set).congr (fun i _ => by by_cases e1 : i = a <;> simp [e1]), h.ord⟩
  obtain ⟨_, L, h2, _⟩ := h.nw.row i hi
  rw [e1] at h2; exact Im.notRw h2 h.rq
theorem CS.set3 (h : CS H B z n k r F deg out gone) {b m a : Nat} {g : Nat → Value} {v : Value} (hb : Rw H b 3 m g) (h1 : z.bn ≠ b ∧ z.bk ≠ b) : (∀ {b' T m g}, Rw H b' T m g → T ≠ 3 → Rw (setc H b a v) b' T m g) ∧ Rw (setc H b a v) z.bn 3 1 (fun _ => .int .i64 n) ∧ Rw (setc H b a v) z.bk 3 1 (fun _ => .int .i64 k) ∧ Nw (setc H b a v) B z.gb n r F := by
  have hne : ∀ {b' T m g}, Rw H b' T m g → T ≠ 3 → Rw (setc H b a v) b' T m g := fun h2 hT => h2.setOther (Rw.ne h2 hb hT)
  refine ⟨hne, h.hn.setOther h1.1, h.hk.setOther h1.2, h.nw.of (setc_other (Rw.ne h.nw.out hb (by decide))) (fun i hi => setc_other (fun e1 => ?_))⟩
  obtain ⟨_, L, h2, _⟩ := h.nw.row i hi
  rw [e1] at h2; exact Im.notRw h2 hb
theorem CS.setD (h : CS H B z n k r F deg out gone) {a : Nat} {v : Int} : CS (setc H z.d a (.int .i64 v)) B z n k r F (fun x => if x = a then v else deg x) out gone := by
  obtain ⟨hne, h1, h2, h3⟩ := h.set3 (a := a) (v := .int .i64 v) h.rd ⟨h.ord.1, h.ord.2.1⟩
  exact ⟨h1, h2, hne h.hg (by decide), h3, hne h.hd (by decide), hne h.ho (by decide), hne h.hq (by decide), (h.rd.set).congr (fun i _ => by by_cases e1 : i = a <;> simp [e1]), h.ro.setOther h.ord.2.2.2.2.1.symm, hne h.rq (by decide), h.ord⟩
theorem CS.setO (h : CS H B z n k r F deg out gone) {a : Nat} {v : Int} : CS (setc H z.o a (.int .i64 v)) B z n k r F deg (fun x => if x = a then v else out x) gone := by
  obtain ⟨hne, h1, h2, h3⟩ := h.set3 (a := a) (v := .int .i64 v) h.ro ⟨h.ord.2.2.1, h.ord.2.2.2.1⟩
  exact ⟨h1, h2, hne h.hg (by decide), h3, hne h.hd (by decide), hne h.ho (by decide), hne h.hq (by decide), h.rd.setOther h.ord.2.2.2.2.1, (h.ro.set).congr (fun i _ => by by_cases e1 : i = a <;> simp [e1]), hne h.rq (by decide), h.ord⟩
end
end Go.Proofs.Ytkhphpobccnodaa
