/- A graph's neighbours, in maps. Conditions: none. -/
import Derived.Test.YtkhphpobccnodaaFc
import Derived.Test.YtkhphpobccnodaaW1
namespace Go.Proofs.Ytkhphpobccnodaa
open Go.JE

theorem Try.agg44 : ∃ d, Try.prog.underlying 44 = some d ∧ (match d with | .struct _ | .array _ _ => true | _ => false) = true := ⟨_, Try.underlying44, rfl⟩
theorem Ps.cells {H : Heap} {B k : Nat} {v : Value} {l : List (Int × Int)} (h : Ps H B v l) (hk : k < l.length) : ∀ j u, ([.int .i64 (l.getD k (0, 0)).1, .int .i64 (l.getD k (0, 0)).2] : List Value)[j]? = some u → hc H (vblk v) (voff v + k * 2 + j) = some u := by
  intro j u hu
  match j, hu with
  | 0, hu => simp at hu; subst hu; have := h.fst hk; simpa using this
  | 1, hu => simp at hu; subst hu; have := h.snd hk; simpa using this
  | j + 2, hu => simp at hu
theorem pairBox {H : Heap} {c : Array Value} (hc2 : c.size = 2) (x y : Value) : Rw (setl (H.push (.cells c 44)) H.size 0 [x, y]) H.size 44 2 (fun j => if j = 0 then x else y) ∧ Kp H.size H (setl (H.push (.cells c 44)) H.size 0 [x, y]) ∧ (setl (H.push (.cells c 44)) H.size 0 [x, y]).size = H.size + 1 := by
  refine ⟨?_, ⟨by rw [size_setl]; simp, fun k hk => by rw [setl_other (by omega)]; exact push_old hk⟩, by rw [size_setl]; simp⟩
  have h := Rw.setl [x, y] 0 (H.push (.cells c 44)) _ (Rw.new (H := H) (c := c) (T := 44))
  rw [hc2] at h
  refine h.congr fun i hi => ?_
  match i, hi with
  | 0, _ => simp
  | 1, _ => simp

/-- a map of the numbers k below n with g k -/
def AdL (L : List (Int × Value)) (n : Nat) (g : Nat → Bool) : Prop := ∀ k : Int, lkM L k = if 0 ≤ k ∧ k < n ∧ g k.toNat = true then some (.bool true) else none
def Ad (H : Heap) (b n : Nat) (g : Nat → Bool) : Prop := ∃ L, Im H b L ∧ AdL L n g
theorem Ad.of {H H' : Heap} {b n : Nat} {g : Nat → Bool} (h : Ad H b n g) (hb : H'[b]? = H[b]?) : Ad H' b n g := by
  obtain ⟨L, h1, h2⟩ := h; exact ⟨L, h1.of hb, h2⟩
/-- a graph's maps, each its own: the slice's row is block gb; all lie from B on -/
structure Nw (H : Heap) (B gb n : Nat) (r : Nat → Nat) (f : Nat → Nat → Bool) : Prop where
  out : Rw H gb 35 n (fun i => .map (some (r i)))
  gB : B ≤ gb
  row : ∀ i, i < n → B ≤ r i ∧ Ad H (r i) n (f i)
  apart : ∀ i j, i < n → j < n → r i = r j → i = j
theorem Im.notRw {H : Heap} {b T n : Nat} {L : List (Int × Value)} {g : Nat → Value} (h : Im H b L) (h2 : Rw H b T n g) : False := by
  obtain ⟨es, c, h1, _⟩ := h
  obtain ⟨c2, h3, _⟩ := h2
  rw [h1] at h3; cases h3
theorem Nw.ne {H : Heap} {B gb n : Nat} {r : Nat → Nat} {f : Nat → Nat → Bool} (h : Nw H B gb n r f) {i : Nat} (hi : i < n) : r i ≠ gb := by
  intro e1
  obtain ⟨_, L, h1, _⟩ := h.row i hi
  rw [e1] at h1
  exact Im.notRw h1 h.out
theorem Nw.of {H H' : Heap} {B gb n : Nat} {r : Nat → Nat} {f : Nat → Nat → Bool} (h : Nw H B gb n r f) (hg : H'[gb]? = H[gb]?) (hr : ∀ i, i < n → H'[r i]? = H[r i]?) : Nw H' B gb n r f :=
  ⟨h.out.of hg, h.gB, fun i hi => ⟨(h.row i hi).1, (h.row i hi).2.of (hr i hi)⟩, h.apart⟩
theorem Nw.lt {H : Heap} {B gb n : Nat} {r : Nat → Nat} {f : Nat → Nat → Bool} (h : Nw H B gb n r f) {i : Nat} (hi : i < n) : r i < H.size := by
  obtain ⟨_, L, h1, _⟩ := h.row i hi; exact h1.lt
theorem Nw.kp {H H' : Heap} {B gb n : Nat} {r : Nat → Nat} {f : Nat → Nat → Bool} (h : Nw H B gb n r f) (hk : Kp H.size H H') : Nw H' B gb n r f :=
  h.of (hk.2 _ h.out.lt) (fun i hi => hk.2 _ (h.lt hi))
theorem Nw.congr {H : Heap} {B gb n : Nat} {r : Nat → Nat} {f g : Nat → Nat → Bool} (h : Nw H B gb n r f) (hfg : ∀ a b, f a b = g a b) : Nw H B gb n r g := by
  have : f = g := funext fun a => funext fun b => hfg a b
  rw [← this]; exact h
theorem AdL.up {L : List (Int × Value)} {n b : Nat} {g : Nat → Bool} (h : AdL L n g) (hb : b < n) : AdL (upM L b (.bool true)) n (fun k => if k = b then true else g k) := by
  intro k
  rw [upM_lk, h k]
  by_cases e1 : k = (b : Int)
  · subst e1; rw [if_pos rfl, if_pos ⟨by omega, by omega, by simp⟩]
  · rw [if_neg e1]
    by_cases e2 : 0 ≤ k ∧ k < n
    · have e3 : ¬ k.toNat = b := by omega
      simp [e2, e3]
    · rw [if_neg (fun h => e2 ⟨h.1, h.2.1⟩), if_neg (fun h => e2 ⟨h.1, h.2.1⟩)]
theorem Nw.set {H H' : Heap} {B gb n a b : Nat} {r : Nat → Nat} {f : Nat → Nat → Bool} {L : List (Int × Value)} (h : Nw H B gb n r f) (ha : a < n) (hb : b < n) (hL : AdL L n (f a)) (hi : Im H' (r a) (upM L b (.bool true))) (ht : Tw (r a) H H') :
    Nw H' B gb n r (fun i k => if i = a ∧ k = b then true else f i k) := by
  refine ⟨h.out.of (ht.2 _ (h.ne ha).symm), h.gB, fun i hin => ⟨(h.row i hin).1, ?_⟩, h.apart⟩
  by_cases e1 : i = a
  · subst e1
    refine ⟨_, hi, ?_⟩
    have h3 := hL.up hb
    intro k; rw [h3 k]; simp
  · have h2 := (h.row i hin).2.of (ht.2 (r i) (fun e2 => e1 (h.apart i a hin ha e2)))
    simpa [e1] using h2
theorem Nw.base {H : Heap} {B B' gb n : Nat} {r : Nat → Nat} {f : Nat → Nat → Bool} (h : Nw H B gb n r f) (hB : B' ≤ B) : Nw H B' gb n r f :=
  ⟨h.out, Nat.le_trans hB h.gB, fun i hi => ⟨Nat.le_trans hB (h.row i hi).1, (h.row i hi).2⟩, h.apart⟩
theorem Rw1 {H : Heap} {b T n : Nat} {g : Nat → Value} (h : Rw H b T n g) (hn : n ≤ 9223372036854775807) : Sl H H.size (.slice (some ⟨b, 0, none⟩) n n) 1 n g := h.sl h.lt (by omega) hn (Nat.le_refl _)
end Go.Proofs.Ytkhphpobccnodaa
