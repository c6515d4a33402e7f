/- The library's sort, laid at the program; its contract on a row of one's own. Conditions: each contract names its own. -/
import Derived.Shelf.Lay
import Derived.Shelf.Sort.Plain
import Derived.Shelf.Slices.In.SortNone
import Derived.Sort.OwnSortedInts
import Derived.Test.YtcceglmmpbdhiaaJz
import Derived.Test.YtcceglmmpbdhiaaRows
namespace Go.Proofs.Ytcceglmmpbdhiaa
open Go.Shelf Go.JE
shelf_lay Lays.n189 Nm 189 at Try as Try.lays189
open Go.Sort Go.RowKit in
theorem Try.sort_int (blk off cap : Nat) (zs : List Int) (w : World) (hH : Holds (Value.int .i64) w blk off zs.toArray) (hblk : blk < w.heap.size) (hsz : zs.length < 4611686018427387904) :
    Calls Try.prog 31 #[.slice (some ⟨blk, off, none⟩) zs.length cap] w fun e w' =>
      e = .returned (.tuple #[]) ∧ ∃ n os, w' = grow (putRow (Value.int .i64) (Sort.ahead w n) blk off (zs.mergeSort fun x y => decide (x ≤ y)).toArray) os := Any.slices_Sort_int Try.lays189 blk off cap zs w hH hblk hsz
theorem Try.sort_none (p : Option Addr) (cap : Nat) (w : World) :
    Calls Try.prog 31 #[.slice p 0 cap] w fun e w' => e = .returned (.tuple #[]) ∧ w' = w := Any.slices_Sort_int_none Try.lays189 p cap w
def sortM (l : List Int) : List Int := l.mergeSort fun x y => decide (x ≤ y)
open Go.Sort Go.RowKit in
theorem sort_ct {F : PH} {H : Heap} (hin : InH F H) {B : Nat} {v : Value} {l : List Int} (p : Gl (rI .i64) 3 F H B v l) (hl : l.length < 1073741824) :
    Ct Try.prog 31 #[v] H (fun u H' => u = .tuple #[] ∧ Kw (own1 v) H H' ∧ Gl (rI .i64) 3 F H' B v (sortM l)) := by
  obtain ⟨xs, o1, o2, o3⟩ := p
  have hlen : (sortM l).length = l.length := List.length_mergeSort l
  intro w hw
  rcases o1.2 with ⟨rfl, e2⟩ | ⟨g, cap, cur, rfl, hb, hg, hc1, hc2, hc3, hc4⟩
  · refine (Try.sort_none none 0 w).mono ?_
    rintro e w' ⟨rfl, rfl⟩
    have hn : l = [] := List.eq_nil_of_length_eq_zero e2
    subst hn
    refine ⟨_, rfl, rfl, rfl, rfl, rfl, by rw [hw]; exact Kw.refl _ _, ?_⟩
    rw [show sortM [] = [] from by simp [sortM]]; exact Gl.nil _ _ _
  · have hgl : g < w.heap.size := by rw [hw]; exact (Array.getElem?_eq_some_iff.1 hg).1
    have hxl : xs.length = l.length := by have := o1.1; rw [show (rI .i64).sz = 1 from rfl, Nat.mul_one] at this; exact this
    have hxs : xs = l.map (Value.int .i64) := by
      apply List.ext_getElem (by rw [hxl, List.length_map])
      intro i h1 h2
      rw [List.getElem_map]
      have : xs.getD (i * 1 + 0) undef = Value.int .i64 l[i] := (o3 i (by omega)).1
      rw [Nat.mul_one, Nat.add_zero, List.getD_eq_getElem?_getD, List.getElem?_eq_getElem h1] at this
      exact this
    have ht : cur.toList.take l.length = l.map (Value.int .i64) := by
      rw [← hxs, ← hc4, show (rI .i64).sz = 1 from rfl, Nat.mul_one]
    have hH := holds_of_blockI (w := w) (g := g) (cur := cur) (e := 3) (ss := l) (by rw [hw]; exact hg) ht
    refine (Try.sort_int g 0 cap l w hH hgl (by omega)).mono ?_
    rintro e w' ⟨rfl, n, os, rfl⟩
    have hgb := grownBy_sortedI (w := w) (g := g) (n := n) (os := os) (sortM l).toArray
    have hro := ownsRow_sortedI (w := w) (base := B) (g := g) (cap := cap) (n := n) (e := 3) (os := os) (cur := cur) (ss := l) (ts := sortM l) hlen hb (by rw [hw]; exact hg) hc1 hc2 hc3
    refine ⟨_, rfl, hgb.os, hgb.tape, hgb.output, rfl, ⟨by rw [← hw]; exact hgb.size, fun k hk hn => ?_⟩, ?_⟩
    · rw [← hw] at hk ⊢
      exact hgb.block k hk (fun e1 => hn (show some g = some k from e1.symm))
    · refine ⟨(sortM l).map (Value.int .i64), ?_, o2, fun i hi => ?_⟩
      · rw [hlen]; exact Gr.owns.1 hro
      · have hm : (sortM l)[i] ∈ l := (List.mergeSort_perm l _).subset (List.getElem_mem hi)
        obtain ⟨j, hj, e1⟩ := List.getElem_of_mem hm
        refine ⟨?_, ?_⟩
        · show ((sortM l).map (Value.int .i64)).getD (i * 1 + 0) undef = _
          rw [Nat.mul_one, Nat.add_zero, List.getD_eq_getElem?_getD, List.getElem?_map, List.getElem?_eq_getElem hi]; rfl
        · rw [← e1]; exact (o3 j hj).2
#print axioms sort_ct
end Go.Proofs.Ytcceglmmpbdhiaa
