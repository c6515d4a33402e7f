/- Lemmas that the claim is made of. Conditions: each lemma names its own. -/
import Derived.Test.YtdlcjaefkjbonaaGreatQt1
import Derived.ArgAppend
import Derived.ReadAgain
import Derived.Handed
import Derived.Below
import Derived.OpenShut
import Derived.RowKit
import Derived.ProofKit
import Derived.JoinedCond
import Derived.Lib.SmallJoins
import Derived.Deep.Slices
namespace Go.JE
set_option linter.unusedVariables false
set_option linter.unusedSimpArgs false
set_option linter.unusedSectionVars false
variable {P : Program} {e : Env} {H : Heap}
def Wn {α : Type} (r : Rp α) (T : TypeId) (F : PH) (H : Heap) (B : Nat) (v : Value) (l : List α) : Prop :=
  ∃ g o cap cur, v = .slice (some ⟨g, o, none⟩) l.length cap ∧ B ≤ g ∧ F g = none ∧ H[g]? = some (.cells cur T (0, 0)) ∧ l.length ≤ cap ∧ cap ≤ maxLen ∧ o + cap ≤ cur.size ∧ ∀ i (hi : i < l.length), r.rv F (cur.getD (o + i) undef) l[i]
section
variable {α : Type} {r : Rp α} {T : TypeId} {F G : PH} {B : Nat} {v : Value} {l : List α}
theorem Wn.ext (h : Wn r T F H B v l) (he : PH.ext H F G) : Wn r T G H B v l := by
  obtain ⟨g, o, cap, cur, h1, h2, h3, h4, h5, h6, h7, h8⟩ := h
  exact ⟨g, o, cap, cur, h1, h2, he.no h3 (Array.getElem?_eq_some_iff.1 h4).1, h4, h5, h6, h7, fun i hi => (h8 i hi).up he.1⟩
theorem Wn.of {H' : Heap} (h : Wn r T F H B v l) (hk : ∀ k, v.ownBlock = some k → H'[k]? = H[k]?) : Wn r T F H' B v l := by
  obtain ⟨g, o, cap, cur, rfl, h2, h3, h4, h5⟩ := h
  exact ⟨g, o, cap, cur, rfl, h2, h3, (hk g rfl).trans h4, h5⟩
theorem Wn.blk (h : Wn r T F H B v l) : ∀ k, v.ownBlock = some k → B ≤ k ∧ k < H.size := by
  obtain ⟨g, o, cap, cur, rfl, h2, h3, h4, h5⟩ := h
  intro k hk; simp [Value.ownBlock] at hk; subst hk; exact ⟨h2, (Array.getElem?_eq_some_iff.1 h4).1⟩
theorem Wn.lt (h : Wn r T F H B v l) : ∀ k, v.ownBlock = some k → k < H.size := fun k hk => (h.blk k hk).2
theorem Wn.ge (h : Wn r T F H B v l) : ∀ k, v.ownBlock = some k → B ≤ k := fun k hk => (h.blk k hk).1
theorem Wn.no (h : Wn r T F H B v l) : ∀ k, v.ownBlock = some k → F k = none := by
  obtain ⟨g, o, cap, cur, rfl, h2, h3, h4, h5⟩ := h
  intro k hk; simp [Value.ownBlock] at hk; subst hk; exact h3
theorem Wn.kp {H' : Heap} (h : Wn r T F H B v l) (hk : Kp H.size H H') : Wn r T F H' B v l := h.of fun k e1 => hk.2 k (h.blk k e1).2
theorem Gl.wn (h : Gl r T F H B v l) (hs : r.sz = 1) (hn : 0 < l.length) : Wn r T F H B v l := by
  obtain ⟨xs, h1, h2, h3⟩ := h
  rcases h1.2 with ⟨rfl, h0⟩ | ⟨g, cap, cur, rfl, hb, hg, hc1, hc2, hc3, hc4⟩
  · omega
  · refine ⟨g, 0, cap, cur, rfl, hb, h2 g rfl, hg, hc1, hc2, by rw [hc3, hs]; omega, fun i hi => ?_⟩
    have h4 := h3 i hi
    rw [hs, Nat.mul_one] at h4
    have h5 : cur.getD (0 + i) undef = xs.getD i undef := by
      rw [← hc4, Nat.zero_add, hs, Nat.mul_one]
      simp [List.getD, hi]
    rw [h5]
    exact r.ext (fun j hj => by rw [show j = 0 by omega]; rfl) h4
theorem OpOk.lenW {E : TypeId} {x : Operand} (hT : P.underlying T = some (.slice E)) (hs : Wn r E F H B v l) (hx : ev e x = some v) : OpOk P e (.call { callee := .builtin .len, args := #[x], argTypes := #[T] }) H (.int .i64 (l.length : Nat)) := by
  obtain ⟨g, o, cap, cur, rfl, _⟩ := hs
  exact OpOk.lenS hT hx
theorem OpOk.idxW {E : TypeId} {x ix' : Operand} {k : IntKind} {I : Int} {i : Nat} (hT : P.underlying T = some (.slice E)) (hE : Sz P E 1) (hs : Wn r E F H B v l) (hx : ev e x = some v) (hi : ev e ix' = some (.int k I)) (hI : I = i) (h1 : i < l.length) :
    OpOk P e (.indexAddr T x ix') H (.pointer (some ⟨vblk v, voff v + i * 1, none⟩)) := by
  obtain ⟨g, o, cap, cur, rfl, _⟩ := hs
  subst hI
  have := OpOk.indexA (H := H) hT hE hx hi (by omega) (by omega)
  simpa [vblk, voff] using this
theorem Wn.hc [Inhabited α] (h : Wn r T F H B v l) {i : Nat} (hi : i < l.length) : ∃ u, hc H (vblk v) (voff v + i * 1) = some u ∧ r.rv F u (ix l i) := by
  obtain ⟨g, o, cap, cur, rfl, h2, h3, h4, h5, h6, h7, h8⟩ := h
  refine ⟨_, ?_, by rw [ix_eq hi]; exact h8 i hi⟩
  have : o + i < cur.size := by omega
  simp [vblk, voff, JE.hc, h4, Array.getD, this]
theorem OpOk.ldWI {k : IntKind} {x : Operand} {l : List Int} {E : TypeId} {i : Nat} (h : Wn (rI k) E F H B v l) (hi : i < l.length) (hT : One P T) (hx : ev e x = some (.pointer (some ⟨vblk v, voff v + i * 1, none⟩))) : OpOk P e (.load T x) H (.int k (ix l i)) := by
  obtain ⟨u, h1, h2⟩ := h.hc hi
  rw [show u = _ from h2.1] at h1
  exact OpOk.load hT hx rfl h1
theorem OpOk.sliceW {E : TypeId} {x lx : Operand} {k : IntKind} {I : Int} {lo : Nat} (hT : P.underlying T = some (.slice E)) (hE : Sz P E 1) (hs : Wn r E F H B v l) (hx : ev e x = some v) (hl : ev e lx = some (.int k I)) (hI : I = lo) (h2 : lo ≤ l.length) :
    ∃ u, OpOk P e (.slice T x (some lx) none none) H u ∧ u.ownBlock = v.ownBlock ∧ Wn r E F H B u (l.drop lo) := by
  subst hI
  obtain ⟨g, o, cap, cur, rfl, h3, h4, h5, h6, h7, h8, h9⟩ := hs
  refine ⟨.slice (some ⟨g, if cap = lo then o else o + lo, none⟩) (l.length - lo) (cap - lo), ?_, rfl, g, if cap = lo then o else o + lo, cap - lo, cur, by simp, h3, h4, h5, by simp; omega, by omega, by split <;> omega, fun i hi => ?_⟩
  · intro ρ o' w ho hev _
    have b2 := sliceBound_ok (P := P) (k := k) (i := (lo : Int)) (y := l.length) (c := .sliceB) (by omega) (by omega) w
    simp only [Int.toNat_natCast] at b2
    have ha : (if cap = lo then (some ⟨g, o, none⟩ : Option Addr) else (some ⟨g, o, none⟩ : Option Addr).map (·.add (lo * 1))) = some ⟨g, if cap = lo then o else o + lo, none⟩ := by
      split
      · rfl
      · simp [Addr.add_none]
    simp [execOp, ho, hev _ _ hx, hev _ _ hl, Instr.sliceAt, Instr.slice, Instr.sliceBounds, run_underlying hT, b2, hE.run]
    split
    · rename_i hc; simp [hc]
    · rename_i hc; simp [hc, Addr.add_none]
  · have hlt : lo < cap := by simp at hi; omega
    rw [if_neg (by omega), List.getElem_drop]
    have := h9 (lo + i) (by simp at hi; omega)
    rw [← Nat.add_assoc] at this; exact this
theorem OpCh.appW {E : TypeId} {x y : Operand} {bytes b m : Nat} {z u : Value} {a : α} (hT : P.underlying T = some (.slice E)) (hE : (P.info? E).map (fun i => (i.zero, i.size, i.bytes)) = some (some z, 1, bytes)) (hby : bytes ≤ 8192) (hz : z.cells.size = 1) (hs : r.sz = 1)
    (hx : ev e x = some v) (hy : ev e y = some (.slice (some ⟨b, 0, none⟩) 1 m)) (hu : hc H b 0 = some u) (hra : r.rv F u a) (hown : Wn r E F H B v l) (hin : InH F H) (hb : l.length < 4294967295) (hB : B ≤ H.size) :
    OpCh P e (.call { callee := .builtin .append, args := #[x, y], argTypes := #[T, T] }) H (fun v' H' => Wn r E F H' B v' (l ++ [a]) ∧ GrownBy H H' v.ownBlock ∧ (v'.ownBlock = v.ownBlock ∨ v'.ownBlock = some H.size)) := by
  have ho1 := hra.one1 (by omega)
  obtain ⟨g, o, cap, cur, rfl, h3, h4, h5, h6, h7, h8, h9⟩ := hown
  intro ρ oo w ho hev hw
  subst hw
  obtain ⟨i, hi, hz0, hz1, hz2⟩ := info_parts hE
  have hnews : ∀ j q, [u][j]? = some q → w.cell? ((⟨b, 0, none⟩ : Addr).add j) = some q := by
    intro j q hq
    have hj : j = 0 := by have := (List.getElem?_eq_some_iff.1 hq).1; simp at this; exact this
    subst hj
    simp at hq; subst hq
    rw [Addr.add_none, cell_hc]; exact hu
  have h1 : ∀ q ∈ [u], q.oneCell' = true := by intro q hq; simp at hq; subst hq; exact ho1
  by_cases hroom : l.length + 1 ≤ cap
  · have hcell : ∀ j, j < [u].length → (w.cell? ⟨g, o + l.length * i.size + j, none⟩).isSome = true := by
      intro j hj
      rw [cell_hc, hz1]
      have hj0 : j = 0 := by simpa using hj
      subst hj0
      have : o + l.length * 1 + 0 < cur.size := by omega
      simp only [hc, h5]
      rw [Array.getElem?_eq_getElem this]; rfl
    have hfr : ∀ j, j < [u].length → w.frozen? ⟨g, o + l.length * i.size + j, none⟩ = false := by intro j _; simp [World.frozen?, h5]
    have hr := run_append_room_cells (P := P) w T oo.type E i hT hi g o l.length cap ⟨b, 0, none⟩ 1 m [u] (by simp [hz1]) hnews h1 hroom hcell hfr
    have hsc : (w.setCells g (o + l.length * i.size) [u]).heap = setc w.heap g (o + l.length) u := by
      simp only [World.setCells, hz1, Nat.mul_one]
      exact setCell_setc
    refine ⟨.slice (some ⟨g, o, none⟩) (l.length + 1) cap, w.setCells g (o + l.length * i.size) [u], .inl (by simp [execOp, ho, hev _ _ hx, hev _ _ hy, resolve, invoke, builtin, hr]), rfl, rfl, rfl, ?_, ?_, .inl rfl⟩
    · refine ⟨g, o, cap, cur.setIfInBounds (o + l.length) u, by simp, h3, h4, ?_, by simp; omega, h7, by simp; omega, fun j hj => ?_⟩
      · rw [hsc]
        simp only [setc, Array.getElem?_modify, if_true, h5, Option.map_some]
      · by_cases hjl : j < l.length
        · rw [List.getElem_append_left hjl]
          have := h9 j hjl
          rw [show (cur.setIfInBounds (o + l.length) u).getD (o + j) undef = cur.getD (o + j) undef by
            simp only [Array.getD_eq_getD_getElem?]; rw [Array.getElem?_setIfInBounds_ne (by omega)]]
          exact this
        · have hj2 : j = l.length := by simp at hj; omega
          subst hj2
          rw [List.getElem_append_right (Nat.le_refl _)]
          simp only [Nat.sub_self, List.getElem_cons_zero]
          have : o + l.length < cur.size := by omega
          rw [show (cur.setIfInBounds (o + l.length) u).getD (o + l.length) undef = u by simp [Array.getD_eq_getD_getElem?, this]]
          exact hra
    · rw [hsc]
      exact ⟨by rw [size_setc]; exact Nat.le_refl _, fun k hk hne => setc_other (by rintro rfl; exact hne rfl)⟩
  · have holds : ∀ j q, ((List.range l.length).map fun j => cur.getD (o + j) undef)[j]? = some q → w.cell? ((⟨g, o, none⟩ : Addr).add j) = some q := by
      intro j q hq
      have hj : j < l.length := by have := (List.getElem?_eq_some_iff.1 hq).1; simpa using this
      have hq2 : cur.getD (o + j) undef = q := by simpa [hj] using hq
      rw [Addr.add_none, cell_hc]
      have : o + j < cur.size := by omega
      rw [← hq2]
      simp [hc, h5, Array.getD, this]
    have hmul : (l.length + 1) * bytes ≤ 4294967295 * 8192 := Nat.mul_le_mul (by omega) hby
    obtain ⟨v', w', hr, hown', hgr⟩ := run_append_arg_grows (P := P) w T oo.type E i z 1 bytes hT hi hz0 hz1 hz2 hz (by omega) ⟨g, o, none⟩ l.length cap ((List.range l.length).map fun j => cur.getD (o + j) undef) (by simp) holds
      ⟨b, 0, none⟩ 1 m [u] (by simp) hnews (by omega) (by unfold maxLen; omega) (by omega)
    refine ⟨v', w', .inl (by simp [execOp, ho, hev _ _ hx, hev _ _ hy, resolve, invoke, builtin, hr]), hgr.os, hgr.tape, hgr.output, ?_, ⟨hgr.size, fun k hk _ => hgr.block k hk (by simp)⟩, ?_⟩
    · have hl1 : l.length + 1 = (l ++ [a]).length := by simp
      have hg : Gl r E F w'.heap w.heap.size v' (l ++ [a]) := by
        refine ⟨((List.range l.length).map fun j => cur.getD (o + j) undef) ++ [u], by rw [← hl1, hs]; exact hown', fun k hk => hin.nope ?_, fun j hj => ?_⟩
        · have hg2 : Gr w'.heap w.heap.size E 1 v' (l.length + 1) _ := hown'
          exact (hg2.blk k hk).1
        · rw [hs, Nat.mul_one]
          by_cases hjl : j < l.length
          · rw [List.getElem_append_left hjl]
            refine r.ext (fun q hq => ?_) (h9 j hjl)
            rw [show q = 0 by omega]
            simp [List.getD, List.getElem?_append_left, hjl]
          · have hj2 : j = l.length := by simp at hj; omega
            subst hj2
            rw [List.getElem_append_right (Nat.le_refl _)]
            simp only [Nat.sub_self, List.getElem_cons_zero]
            refine r.ext (fun q hq => ?_) hra
            rw [show q = 0 by omega]
            simp [List.getD, List.getElem?_append_right]
      exact (hg.base hB).wn hs (by simp)
    · have hg2 : Gr w'.heap w.heap.size E 1 v' (l.length + 1) _ := hown'
      obtain ⟨g2, c2, rfl, hge, hlt⟩ := hg2.own (by omega)
      right
      rcases hown'.2 with ⟨h0, _⟩ | ⟨g3, cap3, cur3, h0, hge3, hg3, _⟩
      · cases h0
      · have hr2 := run_append_grow (P := P) w T oo.type E i z hT hi hz0 ⟨g, o, none⟩ l.length cap ((List.range l.length).map fun j => cur.getD (o + j) undef) (by simp [hz1]) holds ⟨b, 0, none⟩ 1 m [u] (by simp [hz1]) hnews (by omega) (by omega) (growslice_fits (by omega) (by rw [hz2]; omega))
        rw [hr2] at hr
        injection hr with h11 _
        rw [← h11]; rfl
end
structure Mx {α : Type} (r : Rp α) (T To : TypeId) (F : PH) (H : Heap) (B : Nat) (v : Value) (vs : List Value) (ls : List (List α)) : Prop where
  len : vs.length = ls.length
  outer : ∃ g cap cur, v = .slice (some ⟨g, 0, none⟩) ls.length cap ∧ B ≤ g ∧ F g = none ∧ H[g]? = some (.cells cur To (0, 0)) ∧ ls.length ≤ cap ∧ ls.length ≤ cur.size ∧ ls.length ≤ 1073741823 ∧ ∀ i, i < ls.length → cur[i]? = some (vs.getD i undef)
  row : ∀ i, i < ls.length → Gl r T F H B (vs.getD i undef) (ls.getD i [])
  apart : ∀ i j, i < ls.length → j < ls.length → i ≠ j → ∀ k, (vs.getD i undef).ownBlock = some k → (vs.getD j undef).ownBlock ≠ some k
instance : Inhabited Value := ⟨undef⟩
section
variable {α : Type} {r : Rp α} {T To : TypeId} {F G : PH} {B : Nat} {v : Value} {vs : List Value} {ls : List (List α)}
theorem Mx.of {H' : Heap} (h : Mx r T To F H B v vs ls) (hv : ∀ k, v.ownBlock = some k → H'[k]? = H[k]?) (hr : ∀ i, i < ls.length → ∀ k, (vs.getD i undef).ownBlock = some k → H'[k]? = H[k]?) : Mx r T To F H' B v vs ls := by
  obtain ⟨h1, ⟨g, cap, cur, rfl, h2, h3, h4, h5⟩, h6, h7⟩ := h
  exact ⟨h1, ⟨g, cap, cur, rfl, h2, h3, (hv g rfl).trans h4, h5⟩, fun i hi => (h6 i hi).of (hr i hi), h7⟩
theorem Mx.base {B' : Nat} (h : Mx r T To F H B v vs ls) (hB : B' ≤ B) : Mx r T To F H B' v vs ls := by
  obtain ⟨h1, ⟨g, cap, cur, e1, h2, h3⟩, h6, h7⟩ := h
  exact ⟨h1, ⟨g, cap, cur, e1, by omega, h3⟩, fun i hi => (h6 i hi).base hB, h7⟩
theorem Mx.blk (h : Mx r T To F H B v vs ls) : ∀ k, v.ownBlock = some k → B ≤ k ∧ k < H.size := by
  obtain ⟨h1, ⟨g, cap, cur, rfl, h2, h3, h4, h5⟩, h6, h7⟩ := h
  intro k hk; simp [Value.ownBlock] at hk; subst hk; exact ⟨h2, (Array.getElem?_eq_some_iff.1 h4).1⟩
theorem Mx.kp {H' : Heap} (h : Mx r T To F H B v vs ls) (hk : Kp H.size H H') : Mx r T To F H' B v vs ls := h.of (fun k e1 => hk.2 k (h.blk k e1).2) (fun i hi k e1 => hk.2 k ((h.row i hi).blk k e1).2)
theorem Mx.ext (h : Mx r T To F H B v vs ls) (he : PH.ext H F G) : Mx r T To G H B v vs ls := by
  obtain ⟨h1, ⟨g, cap, cur, rfl, h2, h3, h4, h5⟩, h6, h7⟩ := h
  exact ⟨h1, ⟨g, cap, cur, rfl, h2, he.no h3 (Array.getElem?_eq_some_iff.1 h4).1, h4, h5⟩, fun i hi => (h6 i hi).ext he, h7⟩
theorem Mx.freeze {H0 : Heap} {F0 : PH} (h : Mx r T To F H B v vs ls) (hTT : T ≠ To) (hin : InH F H) (hx : PH.ext H0 F0 F) (hB : H0.size ≤ B) (hM : ∀ l ∈ ls, l.length < 1073741824) : ∃ G, PH.ext H0 F0 G ∧ F.le G ∧ InH G H ∧ (∀ k, v.ownBlock ≠ some k → (∀ i, i < ls.length → (vs.getD i undef).ownBlock ≠ some k) → G k = F k) ∧ (rL (rL r)).rv G v ls := by
  have hstep : ∀ n, n ≤ ls.length → ∃ G, PH.ext H0 F0 G ∧ F.le G ∧ InH G H ∧ (∀ k, (∀ i, i < n → (vs.getD i undef).ownBlock ≠ some k) → G k = F k) ∧ ∀ i, i < n → (rL r).rv G (vs.getD i undef) (ls.getD i []) := by
    intro n
    induction n with
    | zero => exact fun _ => ⟨F, hx, PH.le.refl F, hin, fun _ _ => rfl, fun i hi => by omega⟩
    | succ n ih =>
      intro hn
      obtain ⟨G, g1, g2, g3, g4, g5⟩ := ih (by omega)
      have hrow : Gl r T G H B (vs.getD n undef) (ls.getD n []) := by
        obtain ⟨xs, k1, k2, k3⟩ := h.row n (by omega)
        refine ⟨xs, k1, fun k hk => ?_, fun i hi => r.up g2 (k3 i hi)⟩
        rw [g4 k (fun i hi e1 => h.apart i n (by omega) (by omega) (by omega) k e1 hk)]
        exact k2 k hk
      have hmem : ls.getD n [] ∈ ls := by
        have : n < ls.length := by omega
        simp [List.getD, this]
      obtain ⟨G', f1, f2, f3, f4, f5⟩ := hrow.freezeX g3 g1 hB (hM _ hmem)
      refine ⟨G', f1, g2.trans f2, f3, fun k hk => ?_, fun i hi => ?_⟩
      · rw [f4 k (hk n (by omega))]; exact g4 k (fun i hi => hk i (by omega))
      · by_cases e1 : i = n
        · subst e1; exact f5
        · exact (g5 i (by omega)).up f2
  obtain ⟨G, g1, g2, g3, g4, g5⟩ := hstep ls.length (Nat.le_refl _)
  have h' := h
  obtain ⟨h1, ⟨g, cap, cur, rfl, h2, h3, h4, h5, h6, h7, h8⟩, h9, h10⟩ := h
  have hrowne : ∀ j, j < ls.length → (vs.getD j undef).ownBlock ≠ some g := by
    intro j hj e1
    obtain ⟨xs, k1, _⟩ := h9 j hj
    rcases k1.2 with ⟨e2, _⟩ | ⟨g', cap', cur', e2, _, hg', _⟩
    · rw [e2] at e1; cases e1
    · rw [e2] at e1; simp [Value.ownBlock] at e1; subst e1
      rw [h4] at hg'; injection hg' with k3; injection k3 with _ k3 _; exact hTT k3.symm
  have hgG : G g = none := by rw [g4 g (fun i hi e1 => hrowne i hi e1)]; exact h3
  refine ⟨G.add g (.cells cur To (0, 0)), g1.add hgG (by omega), g2.trans (PH.le_add hgG), g3.add h4, fun k hk hk2 => ?_, ⟨by omega, by omega⟩, _, cap, rfl, h5, fun j hj => ⟨g, 0, rfl⟩, fun j => vs.getD j undef, fun j hj => ?_, fun j hj => ?_⟩
  · unfold PH.add; rw [if_neg (by rintro rfl; exact hk rfl)]; exact g4 k hk2
  · simp only [vblk, voff, pc, PH.add, if_true, Nat.zero_add]
    have hj1 : j < ls.length * 1 := hj
    exact h8 j (by omega)
  · have := (g5 j hj).up (PH.le_add (o := .cells cur To (0, 0)) hgG)
    simp only [List.getD, List.getElem?_eq_getElem hj, Option.getD_some] at this
    refine (rL r).ext (fun q hq => ?_) this
    have hq1 : q < 1 := hq
    have e0 : j * (rL r).sz + q = j := by show j * 1 + q = j; omega
    simp only [e0]; simp [List.getD]
end
section
variable {n : Fs} {w0 : World} {Q : Exit → Act → World → Prop} {l : List Oper} {z : Bool} {S : Heap → Prop} {fuel d : Nat} {listed : Array Bool} {op : Op} {ty : TypeId} {pos : String} {af : Array Edge} {p : Value → Prop}
end
theorem GrownBy.kw {W : Nat → Prop} {H0 H' : Heap} {row : Option Nat} (h : Kw W H0 H) (hg : GrownBy H H' row) (hr : ∀ k, row = some k → H0.size ≤ k) : Kw W H0 H' :=
  ⟨Nat.le_trans h.1 hg.1, fun k hk hw => (hg.2 k (by have := h.1; omega) (fun e1 => by have := hr k e1.symm; omega)).trans (h.2 k hk hw)⟩
section
variable {n : Fs} {w0 : World} {Q : Exit → Act → World → Prop} {l : List Oper} {z : Bool} {S : Heap → Prop} {fuel i d : Nat} {listed : Array Bool} {op : Op} {ty : TypeId} {pos : String} {af : Array Edge}
theorem AFN.chg {R : Value → Heap → Prop} (hi : l[i]? = some ⟨some d, op, ty, pos, af, none⟩) (h : OpCh P e op H R)
    (K : ∀ v H', R v H' → S H' ∧ AF P n w0 l.toArray Q z S fuel (listed.setIfInBounds i true) ((d, v) :: e) H') (hd : Nat.blt d n.sz = true := by rfl) : AF.Next P n w0 l Q z S fuel listed e H i := by
  intro a w hf hw
  obtain ⟨v, w', hrun, h1, h2, h3, hR⟩ := h a.eval ⟨some d, op, ty, pos, af, none⟩ w rfl (fun x u hx => hf.ev hx) hw.heap
  have hw' : Wd w0 w'.heap w' := ⟨rfl, h1.trans hw.os, h2.trans hw.tape, h3.trans hw.output⟩
  obtain ⟨k1, k2⟩ := K _ _ hR
  unfold wpOp
  simp only [List.getElem?_toArray, hi]
  rw [if_pos (by simp [Region.wanted])]
  refine .inl ?_
  unfold Oper.wp
  rcases hrun with hrun | ⟨hrun, rfl⟩
  · rw [hrun]; exact ⟨fun _ => k1, k2 _ _ (hf.put hd v) hw'⟩
  · rw [hrun]; exact ⟨fun _ => k1, k2 _ _ (hf.put hd undef) hw'⟩
theorem AFN.chg0 {R : Value → Heap → Prop} (hi : l[i]? = some ⟨none, op, ty, pos, af, none⟩) (h : OpCh P e op H R)
    (K : ∀ v H', R v H' → S H' ∧ AF P n w0 l.toArray Q z S fuel (listed.setIfInBounds i true) e H') : AF.Next P n w0 l Q z S fuel listed e H i := by
  intro a w hf hw
  obtain ⟨v, w', hrun, h1, h2, h3, hR⟩ := h a.eval ⟨none, op, ty, pos, af, none⟩ w rfl (fun x u hx => hf.ev hx) hw.heap
  have hw' : Wd w0 w'.heap w' := ⟨rfl, h1.trans hw.os, h2.trans hw.tape, h3.trans hw.output⟩
  obtain ⟨k1, k2⟩ := K _ _ hR
  unfold wpOp
  simp only [List.getElem?_toArray, hi]
  rw [if_pos (by simp [Region.wanted])]
  refine .inl ?_
  unfold Oper.wp
  rcases hrun with hrun | ⟨hrun, rfl⟩
  · rw [hrun]; exact ⟨fun _ => k1, k2 _ _ hf hw'⟩
  · rw [hrun]; exact ⟨fun _ => k1, k2 _ _ hf hw'⟩
theorem AFN.stepE {p : Value → Prop} (hi : l[i]? = some ⟨some d, op, ty, pos, af, none⟩) (h : ∃ v, OpOk P e op H v ∧ p v) (hS : S H)
    (K : ∀ v, p v → AF P n w0 l.toArray Q z S fuel (listed.setIfInBounds i true) ((d, v) :: e) H) (hd : Nat.blt d n.sz = true := by rfl) : AF.Next P n w0 l Q z S fuel listed e H i := by
  obtain ⟨v, h1, h2⟩ := h
  exact AFN.chg (R := fun v' H' => v' = v ∧ H' = H) hi (fun ρ o w ho hev hw => ⟨v, w, .inl (h1 ρ o w ho hev hw), rfl, rfl, rfl, rfl, hw⟩) (by rintro _ _ ⟨rfl, rfl⟩; exact ⟨hS, K _ h2⟩) hd
theorem AFN.step {v : Value} (hi : l[i]? = some ⟨some d, op, ty, pos, af, none⟩) (h : OpOk P e op H v) (hS : S H)
    (K : AF P n w0 l.toArray Q z S fuel (listed.setIfInBounds i true) ((d, v) :: e) H) (hd : Nat.blt d n.sz = true := by rfl) : AF.Next P n w0 l Q z S fuel listed e H i :=
  AFN.stepE (p := fun v' => v' = v) hi ⟨v, h, rfl⟩ hS (by rintro _ rfl; exact K) hd
end
section
variable {α : Type} {r : Rp α} {F : PH} {B : Nat} {v : Value} {l : List α} {T E : TypeId}
end
section
variable {α : Type} {r : Rp α} {F : PH} {B : Nat} {v : Value} {l : List α}
theorem OpOk.sliceHiG {T E : TypeId} {x hx' : Operand} {k : IntKind} {I : Int} {hi : Nat} (hT : P.underlying T = some (.slice E)) (hE : Sz P E r.sz) (hs : Gl r E F H B v l) (hx : ev e x = some v) (hh : ev e hx' = some (.int k I)) (hI : I = hi) (h2 : hi ≤ l.length) :
    OpOk P e (.slice T x none (some hx') none) H (JE.resl r.sz v 0 hi) := by
  obtain ⟨f, hf⟩ := hs.sl
  exact OpOk.sliceHi hT hE hf hx hh hI h2
theorem setCells_heap (b : Nat) : ∀ (cs : List Value) (o : Nat) (w : World), (w.setCells b o cs).heap = setl w.heap b o cs ∧ (w.setCells b o cs).os = w.os ∧ (w.setCells b o cs).tape = w.tape ∧ (w.setCells b o cs).output = w.output
  | [], o, w => ⟨rfl, rfl, rfl, rfl⟩
  | c :: cs, o, w => by
    obtain ⟨h1, h2, h3, h4⟩ := setCells_heap b cs (o + 1) (w.setCell ⟨b, o, none⟩ c)
    simp only [World.setCells, setl]
    rw [← setCell_setc]
    exact ⟨h1, h2, h3, h4⟩
theorem Gr.setl {E : TypeId} {n : Nat} : ∀ (cs : List Value) (o : Nat) {H : Heap} {xs : List Value}, Gr H B E r.sz v n xs → (∃ g, v.ownBlock = some g) → ∀ g, v.ownBlock = some g → Gr (JE.setl H g o cs) B E r.sz v n (setAt xs o cs)
  | [], _, _, _, h, _, _, _ => h
  | c :: cs, o, _, _, h, hg, g, hgg => Gr.setl cs (o + 1) (Gr.set h hgg) hg g hgg
theorem setAt_get : ∀ (cs xs : List Value) (o i : Nat), o + cs.length ≤ xs.length → (setAt xs o cs).getD i undef = if o ≤ i ∧ i < o + cs.length then cs.getD (i - o) undef else xs.getD i undef
  | [], xs, o, i, _ => by
    have : ¬ (o ≤ i ∧ i < o + ([] : List Value).length) := by simp only [List.length_nil]; omega
    rw [if_neg this]; rfl
  | c :: cs, xs, o, i, h => by
    simp only [List.length_cons] at h
    rw [setAt, setAt_get cs _ (o + 1) i (by simp; omega)]
    by_cases h1 : i = o
    · subst h1
      rw [if_neg (by omega), if_pos (by simp)]
      have : i < xs.length := by omega
      simp [List.getD, this]
    · by_cases h2 : o + 1 ≤ i ∧ i < o + 1 + cs.length
      · rw [if_pos h2, if_pos (by simp; omega), show i - o = (i - (o + 1)) + 1 by omega]; simp
      · rw [if_neg h2, if_neg (by simp; omega)]; simp [List.getD, List.getElem?_set_ne (Ne.symm h1)]
theorem OpCh.copyG {T E : TypeId} {x y : Operand} {T' : TypeId} {bytes hi N : Nat} {z w2 : Value} {m : List α} (hT : P.underlying T = some (.slice E)) (hE : (P.info? E).map (fun i => (i.zero, i.size, i.bytes)) = some (some z, 1, bytes)) (hs : r.sz = 1)
    (hx : ev e x = some (JE.resl 1 v 0 hi)) (hy : ev e y = some w2) (hown : Gl r E F H B v l) (h2 : hi ≤ l.length) (hm : (rLn N r).rv F w2 m) (hin : InH F H) :
    OpCh P e (.call { callee := .builtin .copy, args := #[x, y], argTypes := #[T, T'] }) H (fun u H' => u = .int .i64 (min hi m.length : Nat) ∧ Kw (own1 v) H H' ∧ Gl r E F H' B v (m.take (min hi m.length) ++ l.drop (min hi m.length))) := by
  have hsz : (P.info? E).map (·.size) = some 1 := by
    obtain ⟨i, hi', _, hz1, _⟩ := info_parts hE
    rw [hi']; simp [hz1]
  obtain ⟨_, a, cap, rfl, hc0, h3, g, h4, h5⟩ := hm
  obtain ⟨xs, o1, o2, o3⟩ := hown
  intro ρ o w ho hev hw
  by_cases hz : min hi m.length = 0
  · obtain ⟨va, vc, rfl⟩ := o1.len
    have hn : Nat.min m.length (hi - 0) = 0 := by show min m.length (hi - 0) = 0; omega
    have hr := run_copy_none (P := P) w T T' o.type E (if vc = 0 then va else va.map (·.add (0 * 1))) a (hi - 0) (vc - 0) m.length cap hT hsz hn
    refine ⟨.int .i64 0, w, .inl ?_, rfl, rfl, rfl, by rw [hz]; rfl, by rw [hw]; exact Kw.refl _ _, by rw [hw, hz]; simp; exact ⟨xs, o1, o2, o3⟩⟩
    simp only [JE.resl] at hx
    simp only [Nat.zero_mul, Nat.sub_zero] at hr hx
    simp [execOp, ho, hev _ _ hx, hev _ _ hy, resolve, invoke, builtin, hr, goInt]
  · have hlp : 0 < l.length := by omega
    rcases o1.2 with ⟨_, e2⟩ | ⟨gb, vc, cur, rfl, hbg, hg, hc1, hc2, hc3, hc4⟩
    · omega
    · obtain ⟨b, oo, rfl⟩ := h3 0 (by rw [hs]; omega)
      have hcs : ∀ j u, ((List.range (min hi m.length)).map g)[j]? = some u → w.cell? ((⟨b, oo, none⟩ : Addr).add j) = some u := by
        intro j u hj
        have hj' : j < min hi m.length := by have := (List.getElem?_eq_some_iff.1 hj).1; simpa using this
        have hu : g j = u := by simpa [hj'] using hj
        rw [Addr.add_none, cell_hc, hw, ← hu]
        exact hin.hc (h4 j (by rw [hs]; omega))
      have hcur : cur.size = vc := by rw [hc3, hs, Nat.mul_one]
      have hc1' : l.length ≤ vc := hc1
      have hdst : ∀ j, j < ((List.range (min hi m.length)).map g).length → (w.cell? ⟨gb, 0 + j, none⟩).isSome = true := by
        intro j hj
        have hj' : j < min hi m.length := by simpa using hj
        have : j < cur.size := by omega
        rw [cell_hc, hw]; simp [hc, hg, this]
      have hfr : ∀ j, j < ((List.range (min hi m.length)).map g).length → w.frozen? ⟨gb, 0 + j, none⟩ = false := by intro j _; simp [World.frozen?, hw, hg]
      have hone : ∀ u ∈ (List.range (min hi m.length)).map g, u.oneCell' = true := by
        intro u hu
        obtain ⟨j, hj, rfl⟩ := List.mem_map.1 hu
        have hj' : j < min hi m.length := by simpa using hj
        have := r.one (h5 j (by omega)) 0 (by omega)
        simpa [hs] using this
      have hadr : (if vc = 0 then some (⟨gb, 0, none⟩ : Addr) else (some (⟨gb, 0, none⟩ : Addr)).map (·.add (0 * 1))) = some ⟨gb, 0, none⟩ := by
        split
        · rfl
        · simp [Addr.add_none]
      simp only [JE.resl, hadr, Nat.sub_zero] at hx
      have hr := run_copy_cells (P := P) w T T' o.type E gb 0 hi vc ⟨b, oo, none⟩ m.length cap ((List.range (min hi m.length)).map g) hT hsz (by simp; exact Nat.min_comm _ _) hcs hdst hfr hone
      obtain ⟨s1, s2, s3, s4⟩ := setCells_heap gb ((List.range (min hi m.length)).map g) 0 w
      have hlen : (m.take (min hi m.length) ++ l.drop (min hi m.length)).length = l.length := by simp; omega
      refine ⟨.int .i64 (min hi m.length : Nat), w.setCells gb 0 ((List.range (min hi m.length)).map g), .inl ?_, s2, s3, s4, rfl, ?_, ?_⟩
      · simp [execOp, ho, hev _ _ hx, hev _ _ hy, resolve, invoke, builtin, hr, goInt]
      · rw [s1, hw]
        exact ⟨by rw [size_setl]; exact Nat.le_refl _, fun k hk hn => setl_other (by rintro rfl; exact hn rfl) _ _ _⟩
      · rw [s1, hw]
        refine ⟨setAt xs 0 ((List.range (min hi m.length)).map g), by rw [hlen]; exact Gr.setl _ 0 o1 ⟨gb, rfl⟩ gb rfl, o2, fun i hi9 => ?_⟩
        rw [hlen] at hi9
        have hxl : xs.length = l.length := by rw [o1.1, hs, Nat.mul_one]
        rw [hs, Nat.mul_one]
        by_cases h1 : i < min hi m.length
        · rw [List.getElem_append_left (by simp; omega), List.getElem_take]
          have h6 := h5 i (by omega)
          rw [hs, Nat.mul_one] at h6
          refine r.ext (fun j hj => ?_) h6
          rw [show j = 0 by omega, Nat.add_zero, setAt_get _ _ _ _ (by simp; omega), if_pos (by simp; omega)]
          simp [List.getD, h1]
        · rw [List.getElem_append_right (by simp; omega), List.getElem_drop]
          have h6 := o3 i hi9
          rw [hs, Nat.mul_one] at h6
          have e1 : (min hi m.length) + (i - (m.take (min hi m.length)).length) = i := by simp; omega
          simp only [e1]
          refine r.ext (fun j hj => ?_) h6
          rw [show j = 0 by omega, Nat.add_zero, setAt_get _ _ _ _ (by simp; omega), if_neg (by simp; omega)]
end
end Go.JE
namespace Go.JE
set_option linter.unusedVariables false
set_option linter.unusedSimpArgs false
set_option linter.unusedSectionVars false
open Go.ChangeShapes Go.RowKit
variable {P : Program} {H : Type} {enc : TypeId × Value → H} {W W' : World}
theorem Trod.carried {base : Nat} {sp : Nat → Bool} {held : Bool} {t : TypeId} {v : Value} {d : DataW H} {ps : List MemPlace} (h : DataW.Trod enc P W base sp held t v d ps) (hs : ∀ p ∈ ps, W.sameAt W' p) : DataW.Trod enc P W' base sp held t v d ps := by
  obtain ⟨n, hn⟩ := h
  exact ⟨n, DataW.trod_carry n _ _ _ hn hs⟩
theorem TrodAll.carried {base : Nat} {sp : Nat → Bool} {held : Bool} : ∀ {ts : List TypeId} {vs : List Value} {ds : List (DataW H)} {ps : List MemPlace}, DataW.TrodAll enc P W base sp held ts vs ds ps → (∀ p ∈ ps, W.sameAt W' p) → DataW.TrodAll enc P W' base sp held ts vs ds ps
  | [], [], [], _, h, _ => h
  | _ :: _, _ :: _, _ :: _, _, ⟨p, q, h1, h2, e⟩, hs => ⟨p, q, Trod.carried h1 (fun x hx => hs x (by rw [e]; exact List.mem_append_left _ hx)), TrodAll.carried h2 (fun x hx => hs x (by rw [e]; exact List.mem_append_right _ hx)), e⟩
structure TableOk (P : Program) : Prop where
  laid : laidOutB P = true
  maps : mapsRowed P = true
  full : ((List.range P.types.size).all fun t => match P.underlying t with | some (.slice e) => decide (0 < P.cellsOf e) | _ => true) = true
theorem Ct.said {f : FuncId} {fn : Func} {s : ChangeSpec} {args : Array Value} {ds gs : List (DataW H)} {before : List MemPlace} {b : TypeId} {apart fresh handsOn : Bool}
    (T : TableOk P) (hps : fn.params.toList.all (fun t => decide (t < P.types.size)) = true) (hrt : fn.resultTypes = #[b]) (hb : P.underlying b = some .bool) (hvars : s.vars = [])
    (hfn : s.fn H ds = { results := [.lit (.bool true)], args := ds, vars := [] }) (hW : DataW.Whole enc P fn.params.toList s.vars apart W args.toList ds gs before)
    (h : Ct P f args W.heap (fun v H' => v = .bool true ∧ Kp W.heap.size W.heap H')) :
    Calls P f args W fun e W' => ∃ v, e = .returned v ∧ s.post enc P fn apart fresh handsOn false W args v W' := by
  refine (h W rfl).mono fun x W' ⟨v, hx, hos, htape, hout, hv, hk⟩ => ?_
  subst hx hv
  have hB : Below W.heap.size W W' := ⟨hos, htape, hout, hk.1, hk.2⟩
  have hlt := hW.lt
  have hW' := hW
  obtain ⟨p, q, hA, hV, rfl, hfz, hnd⟩ := hW
  rw [hvars] at hV
  obtain ⟨rfl, rfl⟩ := trodVars_none hV
  have hsame : ∀ x ∈ p ++ [], W.sameAt W' x := fun x hx => hB.same (hlt x hx)
  have hargs : ∀ sp : Nat → Bool, (∀ x ∈ p, sp x.block = true) → DataW.TrodAll enc P W' 0 sp true fn.params.toList args.toList ds p := fun sp hsp =>
    TrodAll.carried (DataW.TrodAll.respare (kids_rows T.laid T.maps) (slices_full_of P T.full) (fun t ht => by have := List.all_eq_true.1 hps t ht; simpa using this) hA hsp) (fun x hx => hsame x (by simp [hx]))
  refine ⟨_, rfl, ds, [], p ++ [], [], p, [], hW', ?_, ?_, ?_, hB.frame _, fun h9 => (by cases h9)⟩
  · rw [List.append_nil, hfn, hrt]
    have hl : (Value.bool true).resultList 1 = [.bool true] := rfl
    show DataW.TrodAll enc P W' _ _ _ [b] ((Value.bool true).resultList 1) _ _
    rw [hl]
    exact trodAll_cons_mk (shut_bool hb true) trodAll_mk0
  · rw [List.append_nil, hfn]
    exact hargs _ (fun x hx => by have := hlt x (by simp [hx]); simpa using this)
  · rw [List.append_nil, hfn, hvars]; rfl
end Go.JE
namespace Go.JE
set_option linter.unusedVariables false
set_option linter.unusedSimpArgs false
set_option linter.unusedSectionVars false
open Go.ChangeShapes Go.RowKit
variable {P : Program}
def heapF (W : World) : PH := fun b => W.heap[b]?
theorem inH_heapF (W : World) : InH (heapF W) W.heap := fun _ _ h => h
theorem pc_heapF {W : World} {b o : Nat} {v : Value} (h : W.cell? ⟨b, o, none⟩ = some v) : pc (heapF W) b o = some v := by
  rw [cell_hc] at h
  unfold hc at h
  unfold pc heapF
  exact h
theorem spot_none {W : World} {a : Addr} {v : Value} (h : W.cell? (a.add 0) = some v) : a.spot = none := by
  simp only [Addr.add, if_true, World.cell?] at h
  cases ha : a.spot with
  | none => rfl
  | some y => rw [ha] at h; split at h <;> simp at h
theorem add_add (a : Addr) (i j : Nat) (h : a.spot = none) : (a.add i).add j = ⟨a.block, a.off + (i + j), none⟩ := by
  obtain ⟨b, o, s⟩ := a
  simp only at h; subst h
  rw [Addr.add_none, Addr.add_none, Nat.add_assoc]
def Opens {α : Type} (P : Program) (T : TypeId) (r : Rp α) : Prop :=
  ∀ {H : Type} {enc : TypeId × Value → H} {W : World} {held : Bool} {fuel : Nat} {cs : List Value} {x : DataW H × List MemPlace},
    DataW.trod enc P W 0 (fun _ => true) held fuel T cs = some x → cs.length = r.sz ∧ ∃ m, r.ok (heapF W) m (fun i => cs.getD i undef)
theorem wf_wrap {k : IntKind} {n : Int} (h : (Lit.int k n).wf = true) : k.wrap n = n := by
  have h1 : (decide (k.min ≤ n) && decide (n ≤ k.max)) = true := h
  rw [Bool.and_eq_true, decide_eq_true_eq, decide_eq_true_eq] at h1
  cases k <;> first
    | exact IntWalk.i64_in n h1 | exact IntWalk.i32_in n h1 | exact IntWalk.u8_in n h1 | exact IntWalk.u16_in n h1 | exact IntWalk.u32_in n h1 | exact IntWalk.u64_in n h1 | exact IntWalk.i8_in n h1 | exact IntWalk.i16_in n h1
    | (simp only [IntKind.wrap, IntKind.min, IntKind.max, IntKind.bits, IntKind.signed] at h1 ⊢; simp at h1 ⊢; omega)
theorem Opens.int {T : TypeId} {k : IntKind} (ht : P.underlying T = some (.int k)) : Opens P T (rI k) := by
  intro H enc W held fuel cs x h
  obtain ⟨n, rfl, _, hw⟩ := DataW.trod_int ht h
  exact ⟨rfl, n, rfl, wf_wrap hw⟩
theorem Opens.bool {T : TypeId} (ht : P.underlying T = some .bool) : Opens P T rB := by
  intro H enc W held fuel cs x h
  obtain ⟨n, rfl, _⟩ := DataW.trod_bool ht h
  exact ⟨rfl, n, rfl⟩
theorem Opens.slice {α : Type} {T e : TypeId} {r : Rp α} (ht : P.underlying T = some (.slice e)) (he : Opens P e r) (hs : P.cellsOf e = r.sz) (h0 : 0 < r.sz) : Opens P T (rLn 9223372036854775808 r) := by
  intro H enc W held fuel cs x h
  rcases Deep.open_slice ht h with ⟨rfl, _⟩ | ⟨a, len, cap, m, n, D, Pl, rfl, _, hl, hm, hm2, _, hcell⟩
  · exact ⟨rfl, [], rL.nil0 (by decide) _⟩
  · simp only [if_true] at hm2
    have hmax : cap ≤ 9223372036854775807 := by unfold maxLen at hm; omega
    have hex : ∀ k, k ≤ len → ∃ l : List α, l.length = k ∧ ∀ i (hi : i < l.length), ∃ c, W.cells? 0 (a.add (i * r.sz)) r.sz = some c ∧ r.ok (heapF W) l[i] (fun j => c.getD j undef) := by
      intro k
      induction k with
      | zero => exact fun _ => ⟨[], rfl, fun i hi => by simp at hi⟩
      | succ k ih =>
        intro hk
        obtain ⟨l, hll, h1⟩ := ih (by omega)
        obtain ⟨c, h2, h3⟩ := hcell k (by omega)
        obtain ⟨_, z, h4⟩ := he h3
        rw [hs] at h2
        refine ⟨l ++ [z], by simp [hll], fun i hi => ?_⟩
        by_cases h5 : i < l.length
        · rw [List.getElem_append_left h5]; exact h1 i h5
        · have h6 : i = k := by simp at hi; omega
          subst h6
          rw [List.getElem_append_right (by omega)]
          exact ⟨c, h2, by simpa [hll] using h4⟩
    obtain ⟨l, hll, hel⟩ := hex len (Nat.le_refl _)
    subst hll
    have hcells : ∀ i, i < l.length * r.sz → ∃ (h1 : i / r.sz < l.length) (c : List Value), r.ok (heapF W) l[i / r.sz] (fun j => c.getD j undef) ∧ W.cell? ((a.add (i / r.sz * r.sz)).add (i % r.sz)) = c[i % r.sz]? ∧ i % r.sz < c.length := by
      intro i hi
      have h1 : i / r.sz < l.length := Nat.div_lt_of_lt_mul (by rw [Nat.mul_comm]; exact hi)
      obtain ⟨c, h2, h3⟩ := hel _ h1
      have h4 := World.cells?_some h2
      exact ⟨h1, c, h3, h4.2.2 _ (Nat.mod_lt _ h0), by rw [h4.2.1]; exact Nat.mod_lt _ h0⟩
    have hsp : ∀ i, i < l.length * r.sz → a.spot = none := by
      intro i hi
      obtain ⟨c, h2, h3⟩ := hel 0 (by rcases Nat.eq_zero_or_pos l.length with h9 | h9; (· rw [h9] at hi; simp at hi); exact h9)
      have h4 := (World.cells?_some h2).2.2 0 h0
      have h5 : 0 < c.length := by rw [(World.cells?_some h2).2.1]; exact h0
      rw [List.getElem?_eq_getElem h5] at h4
      have h6 := spot_none h4
      simpa [Addr.add] using h6
    have hpc : ∀ i, i < l.length → ∀ j, j < r.sz → ∀ c, W.cells? 0 (a.add (i * r.sz)) r.sz = some c → pc (heapF W) a.block (a.off + (i * r.sz + j)) = some (c.getD j undef) := by
      intro i hi j hj c h2
      have hb : i * r.sz + j < l.length * r.sz := by
        have : (i + 1) * r.sz ≤ l.length * r.sz := Nat.mul_le_mul_right _ hi
        rw [Nat.add_mul] at this; omega
      have h4 := (World.cells?_some h2).2.2 j hj
      have h5 : j < c.length := by rw [(World.cells?_some h2).2.1]; exact hj
      rw [List.getElem?_eq_getElem h5, add_add _ _ _ (hsp _ hb)] at h4
      rw [pc_heapF h4]; simp [List.getD, h5]
    refine ⟨rfl, l, ⟨by omega, by omega⟩, some a, cap, rfl, hl, fun i hi => ?_, fun i => (pc (heapF W) a.block (a.off + i)).getD undef, fun i hi => ?_, fun i hi => ?_⟩
    · have := hsp i hi
      obtain ⟨b, o, s⟩ := a
      simp only at this; subst this
      exact ⟨b, o, rfl⟩
    · obtain ⟨c, h2, h3⟩ := hel (i / r.sz) (Nat.div_lt_of_lt_mul (by rw [Nat.mul_comm]; exact hi))
      have h4 := hpc (i / r.sz) (Nat.div_lt_of_lt_mul (by rw [Nat.mul_comm]; exact hi)) (i % r.sz) (Nat.mod_lt _ h0) c h2
      rw [Nat.div_add_mod'] at h4
      show pc (heapF W) a.block (a.off + i) = some ((pc (heapF W) a.block (a.off + i)).getD undef)
      rw [h4]; rfl
    · obtain ⟨c, h2, h3⟩ := hel i hi
      refine r.ext (fun j hj => ?_) h3
      show c.getD j undef = (pc (heapF W) a.block (a.off + (i * r.sz + j))).getD undef
      rw [hpc i hi j hj c h2]; rfl
theorem Opens.array {α : Type} {T e : TypeId} {n : Nat} {r : Rp α} (ht : P.underlying T = some (.array n e)) (he : Opens P e r) (hs : P.cellsOf e = r.sz) (hT : P.cellsOf T = n * r.sz) : Opens P T (rA n r) := by
  intro H enc W held fuel cs x h
  obtain ⟨xs, m, _, _, hl, hx, hel⟩ := DataW.trod_array ht h
  have hex : ∀ k, k ≤ n → ∃ l : List α, l.length = k ∧ ∀ i (hi : i < l.length), r.ok (heapF W) l[i] (fun j => cs.getD (i * r.sz + j) undef) := by
    intro k
    induction k with
    | zero => exact fun _ => ⟨[], rfl, fun i hi => by simp at hi⟩
    | succ k ih =>
      intro hk
      obtain ⟨l, hll, h1⟩ := ih (by omega)
      have h3 := hel k (by omega)
      rw [List.getElem?_eq_getElem (by omega)] at h3
      obtain ⟨_, z, h4⟩ := he h3
      refine ⟨l ++ [z], by simp [hll], fun i hi => ?_⟩
      by_cases h5 : i < l.length
      · rw [List.getElem_append_left h5]; exact h1 i h5
      · have h6 : i = k := by simp at hi; omega
        subst h6
        rw [List.getElem_append_right (by omega)]
        simp only [hll, Nat.sub_self, List.getElem_cons_zero]
        refine r.ext (fun j hj => ?_) h4
        rw [hs]; simp [List.getD, List.getElem?_take, hj]
  obtain ⟨l, hll, h1⟩ := hex n (Nat.le_refl _)
  exact ⟨hl.trans hT, l, hll, h1⟩
theorem Opens.field {α H : Type} {enc : TypeId × Value → H} {W : World} {held : Bool} {T : TypeId} {r : Rp α} (he : Opens P T r) (hs : P.cellsOf T = r.sz) {off n i : Nat} {cs : List Value} {xs : List (DataW H × List MemPlace)}
    (h : DataW.trod enc P W 0 (fun _ => true) held n T ((cs.drop off).take (P.cellsOf T)) = xs[i]?) (hi : i < xs.length) : ∃ m, r.ok (heapF W) m (fun j => cs.getD (off + j) undef) := by
  rw [List.getElem?_eq_getElem hi] at h
  obtain ⟨_, z, h4⟩ := he h
  refine ⟨z, r.ext (fun j hj => ?_) h4⟩
  rw [hs]; simp [List.getD, List.getElem?_take, hj]
theorem Opens.arg1 {α H : Type} {enc : TypeId × Value → H} {W : World} {held : Bool} {T : TypeId} {r : Rp α} {v : Value} {d : DataW H} {p : List MemPlace} (he : Opens P T r) (hc : v.cells.toList = [v]) (hr : r.sz = 1) (h : DataW.Trod enc P W 0 (fun _ => true) held T v d p) : ∃ m, r.rv (heapF W) v m := by
  obtain ⟨f, h⟩ := h
  rw [hc] at h
  obtain ⟨_, m, h1⟩ := he h
  refine ⟨m, r.ext (fun j hj => ?_) h1⟩
  rw [show j = 0 by omega]; rfl
theorem Opens.argA {α H : Type} {enc : TypeId × Value → H} {W : World} {held : Bool} {T : TypeId} {r : Rp α} {cs : Array Value} {d : DataW H} {p : List MemPlace} (he : Opens P T r) (h : DataW.Trod enc P W 0 (fun _ => true) held T (.agg cs) d p) : ∃ m, r.ra (heapF W) (.agg cs) m := by
  obtain ⟨f, h⟩ := h
  obtain ⟨h2, m, h1⟩ := he (show DataW.trod enc P W 0 (fun _ => true) held f T cs.toList = _ from h)
  exact ⟨m, cs.toList, by simp, h2, h1⟩
theorem Opens.agg {α H : Type} {enc : TypeId × Value → H} {W : World} {held : Bool} {T : TypeId} {r : Rp α} {v : Value} {d : DataW H} {p : List MemPlace} {n : Nat} (_ : P.cellsOf T = n) (hn : n ≠ 1) (he : Opens P T r) (hr : r.sz = n) (h : DataW.Trod enc P W 0 (fun _ => true) held T v d p) : ∃ cs, v = .agg cs := by
  obtain ⟨f, h⟩ := h
  obtain ⟨h2, _⟩ := he h
  cases v with
  | agg cs => exact ⟨cs, rfl⟩
  | _ => exact absurd (hr.symm.trans h2.symm) hn
section
variable {e : Env} {H : Heap} {g : Nat} {T : TypeId}
theorem OpOk.ldBxI {k : IntKind} {l : List Int} {i o : Nat} {x : Operand} {T' : TypeId} (hb : Bx H g T (l.map (Value.int k))) (hi : i < l.length) (ho : o = i) (hT : One P T') (hx : ev e x = some (.pointer (some ⟨g, o, none⟩))) : OpOk P e (.load T' x) H (.int k (ix l i)) := by
  subst ho
  refine OpOk.ldBx hb hT hx ?_
  rw [List.getElem?_map, List.getElem?_eq_getElem hi, ix_eq hi]; rfl
theorem Bx.freeze {α : Type} {r : Rp α} {a : α} {l : List Value} {F F0 : PH} {H0 : Heap} (h : Bx H g T l) (hin : InH F H) (hx : PH.ext H0 F0 F) (hg : H0.size ≤ g) (hF : F g = none) (hok : r.ok F a (fun i => l.getD i undef)) (hl : l.length = r.sz) :
    ∃ G, PH.ext H0 F0 G ∧ F.le G ∧ InH G H ∧ (∀ k, k ≠ g → G k = F k) ∧ At G r g 0 a := by
  refine ⟨F.add g (.cells l.toArray T (0, 0)), hx.add hF hg, PH.le_add hF, hin.add h, fun k hk => by unfold PH.add; rw [if_neg hk], fun i => l.getD i undef, fun i hi => ?_, r.up (PH.le_add hF) hok⟩
  unfold pc PH.add
  rw [if_pos rfl, Nat.zero_add]
  simp [List.getD, show i < l.length by omega]
theorem Gl.flatI {k : IntKind} {F G : PH} {B : Nat} {v : Value} {l : List Int} (h : Gl (rI k) T G H B v l) (hl : F.le G) : Gl (rI k) T F H B v l := by
  obtain ⟨xs, h1, h2, h3⟩ := h
  refine ⟨xs, h1, fun b hb => ?_, h3⟩
  cases hF : F b with
  | none => rfl
  | some o => have := hl b o hF; rw [h2 b hb] at this; cases this
end
section
variable {n : Fs} {w0 : World} {Q : Exit → Act → World → Prop} {l : List Oper} {ops : Array Oper} {rest : List Oper} {z : Bool} {S : Heap → Prop} {fuel d : Nat} {listed : Array Bool} {op : Op} {ty : TypeId} {pos : String} {af : Array Edge} {p : Value → Prop} {e : Env} {H : Heap} {j t : Nat} {want : Bool} {u v : Value}
theorem LF.gstepK (hj : (ops[j]?).bind (·.dst) = some t) (hu : lk e t = some u) (hB : Gd u want true) (h : OpOk P e op H v)
    (K : LF P n w0 ops Q ((d, v) :: e) rest H) (hd : Nat.blt d n.sz = true := by rfl) (ht : Nat.blt t n.sz = true := by rfl) : LF P n w0 ops Q e (⟨some d, op, ty, pos, af, some (j, want)⟩ :: rest) H :=
  LF.gstep hj hu hB (fun _ => h) K hd ht
end
theorem AFN.call {n : Fs} {w0 : World} {Q : Exit → Act → World → Prop} {l : List Oper} {z : Bool} {S : Heap → Prop} {fuel i d : Nat} {listed : Array Bool} {op : Op} {ty : TypeId} {pos : String} {af : Array Edge} {e : Env} {H : Heap} {f : FuncId} {args : Array Value} {R : Value → Heap → Prop} (hi : l[i]? = some ⟨some d, op, ty, pos, af, none⟩) (h : OpCall P e op H f args) (hc : Ct P f args H R)
    (K : ∀ v H', R v H' → S H' ∧ AF P n w0 l.toArray Q z S fuel (listed.setIfInBounds i true) ((d, v) :: e) H') (hd : Nat.blt d n.sz = true := by rfl) : AF.Next P n w0 l Q z S fuel listed e H i := by
  intro a w hf hw
  unfold wpOp
  simp only [List.getElem?_toArray, hi]
  rw [if_pos (by simp [Region.wanted])]
  refine .inl ?_
  unfold Oper.wp
  rw [h a.eval _ w rfl (fun x u hx => hf.ev hx) hw.heap, Oper.upon_enter]
  refine (hc w hw.heap).mono fun x w' ⟨v, hx, h1, h2, h3, hR⟩ => ?_
  subst hx
  obtain ⟨k1, k2⟩ := K _ _ hR
  exact ⟨fun _ => k1, k2 _ _ (hf.put hd v) ⟨rfl, h1.trans hw.os, h2.trans hw.tape, h3.trans hw.output⟩⟩
end Go.JE
namespace Go.JE
set_option linter.unusedVariables false
set_option linter.unusedSimpArgs false
set_option linter.unusedSectionVars false
universe u
theorem ζ {α : Sort u} {a : α} : a = a := rfl
structure Dt where
  sat : PH → Prop
  up : ∀ {F G : PH}, F.le G → sat F → sat G
structure Res where
  sat : PH → Heap → Prop
  own : Nat → Prop
  lt : ∀ {F : PH} {H : Heap} {k : Nat}, sat F H → own k → k < H.size
  no : ∀ {F : PH} {H : Heap} {k : Nat}, sat F H → own k → F k = none
  st : ∀ {F G : PH} {H H' : Heap}, F.le G → H.size ≤ H'.size → (∀ k, own k → G k = none) → (∀ k, own k → H'[k]? = H[k]?) → sat F H → sat G H'
def AllD (F : PH) : List Dt → Prop
  | [] => True
  | d :: D => d.sat F ∧ AllD F D
def Own : List Res → Nat → Prop
  | [], _ => False
  | R :: L, k => R.own k ∨ Own L k
def Ok (F : PH) (H : Heap) : List Res → Prop
  | [] => True
  | R :: L => R.sat F H ∧ (∀ k, R.own k → ¬ Own L k) ∧ Ok F H L
section
variable {F G : PH} {H H' : Heap} {D E : List Dt} {d : Dt} {L M Ls N : List Res} {R A : Res} {k : Nat}
theorem AllD.up : ∀ {D : List Dt}, F.le G → AllD F D → AllD G D
  | [], _, _ => trivial
  | _ :: _, h, ⟨h1, h2⟩ => ⟨Dt.up _ h h1, AllD.up h h2⟩
theorem AllD.app : ∀ {D : List Dt}, AllD F D → AllD F E → AllD F (D ++ E)
  | [], _, h => h
  | _ :: _, ⟨h1, h2⟩, h => ⟨h1, AllD.app h2 h⟩
theorem Ok.lt : ∀ {L : List Res}, Ok F H L → Own L k → k < H.size
  | _ :: _, h, .inl ho => Res.lt _ h.1 ho
  | _ :: _, h, .inr ho => Ok.lt h.2.2 ho
theorem Ok.no : ∀ {L : List Res}, Ok F H L → Own L k → F k = none
  | _ :: _, h, .inl ho => Res.no _ h.1 ho
  | _ :: _, h, .inr ho => Ok.no h.2.2 ho
theorem Ok.st : ∀ {L : List Res}, F.le G → H.size ≤ H'.size → (∀ k, Own L k → G k = none) → (∀ k, Own L k → H'[k]? = H[k]?) → Ok F H L → Ok G H' L
  | [], _, _, _, _, _ => trivial
  | _ :: _, h, h0, h1, h2, ⟨a, b, c⟩ => ⟨Res.st _ h h0 (fun k hk => h1 k (.inl hk)) (fun k hk => h2 k (.inl hk)) a, b, Ok.st h h0 (fun k hk => h1 k (.inr hk)) (fun k hk => h2 k (.inr hk)) c⟩
theorem Own.app : ∀ {L : List Res}, Own (L ++ M) k ↔ Own L k ∨ Own M k
  | [] => ⟨.inr, fun h => h.elim False.elim id⟩
  | R :: L => ⟨fun h => h.elim (fun h => .inl (.inl h)) (fun h => (Own.app.1 h).elim (fun h => .inl (.inr h)) .inr), fun h => h.elim (fun h => h.elim .inl (fun h => .inr (Own.app.2 (.inl h)))) (fun h => .inr (Own.app.2 (.inr h)))⟩
theorem Ok.app : ∀ {L : List Res}, Ok F H L → Ok F H M → (∀ k, Own L k → ¬ Own M k) → Ok F H (L ++ M)
  | [], _, h, _ => h
  | R :: L, ⟨a, b, c⟩, h, h' => ⟨a, fun k hk ho => (Own.app.1 ho).elim (b k hk) (h' k (.inl hk)), Ok.app c h fun k hk => h' k (.inr hk)⟩
structure Tk (L : List Res) (R : Res) (M : List Res) : Prop where
  ok : ∀ {F : PH} {H : Heap}, Ok F H L → Ok F H (R :: M)
  own : ∀ {k : Nat}, Own (R :: M) k → Own L k
theorem k0 : Tk (R :: M) R M := ⟨id, id⟩
theorem Tk.s (h : Tk L R M) : Tk (A :: L) R (A :: M) where
  ok := fun ⟨a, b, c⟩ => by
    obtain ⟨x, y, z⟩ := h.ok c
    exact ⟨x, fun k hk ho => ho.elim (fun h1 => b k h1 (h.own (.inl hk))) (y k hk), a, fun k hk ho => b k hk (h.own (.inr ho)), z⟩
  own := fun ho => by
    rcases ho with ho | ho | ho
    · exact .inr (h.own (.inl ho))
    · exact .inl ho
    · exact .inr (h.own (.inr ho))
theorem k1 {A0 : Res} : Tk (A0 :: R :: M) R (A0 :: M) := k0.s
theorem k2 {A0 A1 : Res} : Tk (A0 :: A1 :: R :: M) R (A0 :: A1 :: M) := k1.s
theorem k3 {A0 A1 A2 : Res} : Tk (A0 :: A1 :: A2 :: R :: M) R (A0 :: A1 :: A2 :: M) := k2.s
theorem k4 {A0 A1 A2 A3 : Res} : Tk (A0 :: A1 :: A2 :: A3 :: R :: M) R (A0 :: A1 :: A2 :: A3 :: M) := k3.s
theorem k5 {A0 A1 A2 A3 A4 : Res} : Tk (A0 :: A1 :: A2 :: A3 :: A4 :: R :: M) R (A0 :: A1 :: A2 :: A3 :: A4 :: M) := k4.s
theorem k6 {A0 A1 A2 A3 A4 A5 : Res} : Tk (A0 :: A1 :: A2 :: A3 :: A4 :: A5 :: R :: M) R (A0 :: A1 :: A2 :: A3 :: A4 :: A5 :: M) := k5.s
theorem k7 {A0 A1 A2 A3 A4 A5 A6 : Res} : Tk (A0 :: A1 :: A2 :: A3 :: A4 :: A5 :: A6 :: R :: M) R (A0 :: A1 :: A2 :: A3 :: A4 :: A5 :: A6 :: M) := k6.s
theorem k8 {A0 A1 A2 A3 A4 A5 A6 A7 : Res} : Tk (A0 :: A1 :: A2 :: A3 :: A4 :: A5 :: A6 :: A7 :: R :: M) R (A0 :: A1 :: A2 :: A3 :: A4 :: A5 :: A6 :: A7 :: M) := k7.s
theorem k9 {A0 A1 A2 A3 A4 A5 A6 A7 A8 : Res} : Tk (A0 :: A1 :: A2 :: A3 :: A4 :: A5 :: A6 :: A7 :: A8 :: R :: M) R (A0 :: A1 :: A2 :: A3 :: A4 :: A5 :: A6 :: A7 :: A8 :: M) := k8.s
theorem k10 {A0 A1 A2 A3 A4 A5 A6 A7 A8 A9 : Res} : Tk (A0 :: A1 :: A2 :: A3 :: A4 :: A5 :: A6 :: A7 :: A8 :: A9 :: R :: M) R (A0 :: A1 :: A2 :: A3 :: A4 :: A5 :: A6 :: A7 :: A8 :: A9 :: M) := k9.s
theorem k11 {A0 A1 A2 A3 A4 A5 A6 A7 A8 A9 A10 : Res} : Tk (A0 :: A1 :: A2 :: A3 :: A4 :: A5 :: A6 :: A7 :: A8 :: A9 :: A10 :: R :: M) R (A0 :: A1 :: A2 :: A3 :: A4 :: A5 :: A6 :: A7 :: A8 :: A9 :: A10 :: M) := k10.s
theorem k12 {A0 A1 A2 A3 A4 A5 A6 A7 A8 A9 A10 A11 : Res} : Tk (A0 :: A1 :: A2 :: A3 :: A4 :: A5 :: A6 :: A7 :: A8 :: A9 :: A10 :: A11 :: R :: M) R (A0 :: A1 :: A2 :: A3 :: A4 :: A5 :: A6 :: A7 :: A8 :: A9 :: A10 :: A11 :: M) := k11.s
theorem k13 {A0 A1 A2 A3 A4 A5 A6 A7 A8 A9 A10 A11 A12 : Res} : Tk (A0 :: A1 :: A2 :: A3 :: A4 :: A5 :: A6 :: A7 :: A8 :: A9 :: A10 :: A11 :: A12 :: R :: M) R (A0 :: A1 :: A2 :: A3 :: A4 :: A5 :: A6 :: A7 :: A8 :: A9 :: A10 :: A11 :: A12 :: M) := k12.s
theorem k14 {A0 A1 A2 A3 A4 A5 A6 A7 A8 A9 A10 A11 A12 A13 : Res} : Tk (A0 :: A1 :: A2 :: A3 :: A4 :: A5 :: A6 :: A7 :: A8 :: A9 :: A10 :: A11 :: A12 :: A13 :: R :: M) R (A0 :: A1 :: A2 :: A3 :: A4 :: A5 :: A6 :: A7 :: A8 :: A9 :: A10 :: A11 :: A12 :: A13 :: M) := k13.s
theorem k15 {A0 A1 A2 A3 A4 A5 A6 A7 A8 A9 A10 A11 A12 A13 A14 : Res} : Tk (A0 :: A1 :: A2 :: A3 :: A4 :: A5 :: A6 :: A7 :: A8 :: A9 :: A10 :: A11 :: A12 :: A13 :: A14 :: R :: M) R (A0 :: A1 :: A2 :: A3 :: A4 :: A5 :: A6 :: A7 :: A8 :: A9 :: A10 :: A11 :: A12 :: A13 :: A14 :: M) := k14.s
structure Tks (L Ls M : List Res) : Prop where
  ok : ∀ {F : PH} {H : Heap}, Ok F H L → Ok F H Ls ∧ Ok F H M ∧ ∀ k, Own Ls k → ¬ Own M k
  own : ∀ {k : Nat}, Own Ls k ∨ Own M k → Own L k
theorem kn : Tks L [] L := ⟨fun h => ⟨trivial, h, fun _ h => h.elim⟩, fun h => h.elim False.elim id⟩
theorem kc (h : Tk L R M) (h' : Tks M Ls N) : Tks L (R :: Ls) N where
  ok := fun o => by
    obtain ⟨a, b, c⟩ := h.ok o
    obtain ⟨x, y, z⟩ := h'.ok c
    exact ⟨⟨a, fun k hk ho => b k hk (h'.own (.inl ho)), x⟩, y, fun k hk ho => hk.elim (fun h1 => b k h1 (h'.own (.inr ho))) (fun h1 => z k h1 ho)⟩
  own := fun ho => h.own (by
    rcases ho with (ho | ho) | ho
    · exact .inl ho
    · exact .inr (h'.own (.inl ho))
    · exact .inr (h'.own (.inr ho)))
theorem Tk.tks (h : Tk L R M) : Tks L [R] M := kc h kn
def Nd (D : List Dt) (L : List Res) (d : Dt) : Prop := ∀ F H, InH F H → AllD F D → Ok F H L → d.sat F
theorem d0 : Nd (d :: D) L d := fun _ _ _ h _ => h.1
theorem Nd.s {c : Dt} (h : Nd D L d) : Nd (c :: D) L d := fun _ _ h0 h1 h2 => h _ _ h0 h1.2 h2
theorem d1 {c0 : Dt} : Nd (c0 :: d :: D) L d := d0.s
theorem d2 {c0 c1 : Dt} : Nd (c0 :: c1 :: d :: D) L d := d1.s
theorem d3 {c0 c1 c2 : Dt} : Nd (c0 :: c1 :: c2 :: d :: D) L d := d2.s
theorem d4 {c0 c1 c2 c3 : Dt} : Nd (c0 :: c1 :: c2 :: c3 :: d :: D) L d := d3.s
theorem d5 {c0 c1 c2 c3 c4 : Dt} : Nd (c0 :: c1 :: c2 :: c3 :: c4 :: d :: D) L d := d4.s
theorem d6 {c0 c1 c2 c3 c4 c5 : Dt} : Nd (c0 :: c1 :: c2 :: c3 :: c4 :: c5 :: d :: D) L d := d5.s
theorem d7 {c0 c1 c2 c3 c4 c5 c6 : Dt} : Nd (c0 :: c1 :: c2 :: c3 :: c4 :: c5 :: c6 :: d :: D) L d := d6.s
theorem d8 {c0 c1 c2 c3 c4 c5 c6 c7 : Dt} : Nd (c0 :: c1 :: c2 :: c3 :: c4 :: c5 :: c6 :: c7 :: d :: D) L d := d7.s
theorem d9 {c0 c1 c2 c3 c4 c5 c6 c7 c8 : Dt} : Nd (c0 :: c1 :: c2 :: c3 :: c4 :: c5 :: c6 :: c7 :: c8 :: d :: D) L d := d8.s
theorem d10 {c0 c1 c2 c3 c4 c5 c6 c7 c8 c9 : Dt} : Nd (c0 :: c1 :: c2 :: c3 :: c4 :: c5 :: c6 :: c7 :: c8 :: c9 :: d :: D) L d := d9.s
theorem d11 {c0 c1 c2 c3 c4 c5 c6 c7 c8 c9 c10 : Dt} : Nd (c0 :: c1 :: c2 :: c3 :: c4 :: c5 :: c6 :: c7 :: c8 :: c9 :: c10 :: d :: D) L d := d10.s
def Sd (D : List Dt) (L : List Res) (E : List Dt) : Prop := ∀ F H, InH F H → AllD F D → Ok F H L → AllD F E
theorem dn : Sd D L [] := fun _ _ _ _ _ => trivial
theorem dc (h : Nd D L d) (h' : Sd D L E) : Sd D L (d :: E) := fun _ _ a b c => ⟨h _ _ a b c, h' _ _ a b c⟩
end
structure Cx where
  W : Nat → Prop
  H : Heap
  F : PH
abbrev Cx.n (X : Cx) : Nat := X.H.size
structure Hp (X : Cx) (D : List Dt) (L : List Res) (F : PH) (H : Heap) : Prop where
  hx : PH.ext X.H X.F F
  hin : InH F H
  hw : Kw X.W X.H H
  hd : AllD F D
  ok : Ok F H L
  ge : ∀ k, Own L k → X.H.size ≤ k ∨ X.W k
section
variable {X : Cx} {F G : PH} {H H' : Heap} {D E : List Dt} {L M Ls Ls' : List Res} {R R' : Res}
theorem Hp.frame (h : Hp X D L F H) (hk : Tks L Ls M) (hx : PH.ext H F G) (hin : InH G H') (hw : Kw (Own Ls) H H') (hd : AllD G E) (ho : Ok G H' Ls') (hg : ∀ k, Own Ls' k → H.size ≤ k ∨ Own Ls k) : Hp X (E ++ D) (Ls' ++ M) G H' := by
  obtain ⟨o1, o2, o3⟩ := hk.ok h.ok
  refine ⟨h.hx.trans hx h.hw.1, hin, h.hw.kw hw fun k hk1 hk2 => (h.ge k (hk.own (.inl hk2))).resolve_left (by omega), hd.app (h.hd.up hx.1), Ok.app ho (o2.st hx.1 hw.1 (fun k hk1 => (hx.2 k (o2.lt hk1)).trans (o2.no hk1)) (fun k hk1 => hw.2 k (o2.lt hk1) (fun h9 => o3 k h9 hk1))) ?_, ?_⟩
  · intro k hk1 hk2
    rcases hg k hk1 with h9 | h9
    · have := o2.lt hk2; omega
    · exact o3 k h9 hk2
  · intro k hk1
    rcases Own.app.1 hk1 with h9 | h9
    · rcases hg k h9 with h8 | h8
      · exact .inl (Nat.le_trans h.hw.1 h8)
      · exact h.ge k (hk.own (.inl h8))
    · exact h.ge k (hk.own (.inr h9))
theorem Hp.new (h : Hp X D L F H) (hk : Kp H.size H H') (hs : R.sat F H') (ho : ∀ k, R.own k → H.size ≤ k) : Hp X D (R :: L) F H' :=
  h.frame kn (PH.ext.refl F) (h.hin.kp hk) ⟨hk.1, fun k h1 _ => hk.2 k h1⟩ (E := []) trivial (Ls' := [R]) ⟨hs, fun _ _ => id, trivial⟩ (fun k h1 => .inl (ho k (h1.resolve_right id)))
theorem Hp.set (h : Hp X D L F H) (hk : Tk L R M) (hw : Kw R.own H H') (hs : R'.sat F H') (ho : ∀ k, R'.own k → H.size ≤ k ∨ R.own k) : Hp X D (R' :: M) F H' :=
  h.frame hk.tks (PH.ext.refl F) (h.hin.kw hw fun k h1 => h.ok.no (hk.own (.inl h1))) ⟨hw.1, fun k h1 h2 => hw.2 k h1 (fun h3 => h2 (.inl h3))⟩ (E := []) trivial (Ls' := [R']) ⟨hs, fun _ _ => id, trivial⟩ (fun k h1 => (ho k (h1.resolve_right id)).imp id .inl)
theorem Hp.kp (h : Hp X D L F H) (hk : Kp H.size H H') : Hp X D L F H' :=
  h.frame kn (PH.ext.refl F) (h.hin.kp hk) ⟨hk.1, fun k h1 _ => hk.2 k h1⟩ (E := []) trivial (Ls' := []) trivial (fun k h1 => h1.elim)
theorem Hp.at (h : Hp X D L F H) (hk : Tk L R M) : R.sat F H := (hk.ok h.ok).1
theorem Hp.datum {d : Dt} (h : Hp X D L F H) (hs : d.sat F) : Hp X (d :: D) L F H := ⟨h.hx, h.hin, h.hw, ⟨hs, h.hd⟩, h.ok, h.ge⟩
theorem Hp.sub (h : Hp X D L F H) (hd : Sd D L E) (hk : Tks L Ls M) : Hp X E Ls F H := ⟨h.hx, h.hin, h.hw, hd _ _ h.hin h.hd h.ok, (hk.ok h.ok).1, fun k h1 => h.ge k (hk.own (.inl h1))⟩
theorem Hp.drop (h : Hp X D L F H) (hk : Tk L R M) : Hp X D M F H := ⟨h.hx, h.hin, h.hw, h.hd, (hk.ok h.ok).2.2, fun k h1 => h.ge k (hk.own (.inr h1))⟩
end
variable {P : Program} {n : Fs} {w0 : World} {Q : Exit → Act → World → Prop} {X : Cx} {D E : List Dt} {L M Ls : List Res} {e : Env}
def LH (P : Program) (n : Fs) (w0 : World) (ops : Array Oper) (Q : Exit → Act → World → Prop) (X : Cx) (D : List Dt) (L : List Res) (e : Env) (l : List Oper) : Prop := ∀ F H, Hp X D L F H → LF P n w0 ops Q e l H
def SH (P : Program) (n : Fs) (w0 : World) (ops : Array Oper) (K : Act → World → Prop) (X : Cx) (D : List Dt) (L : List Res) (e : Env) (l : List Oper) : Prop := ∀ F H, Hp X D L F H → LS P n w0 ops K e l H
def CH (P : Program) (n : Fs) (w0 : World) (Q : Exit → Act → World → Prop) (X : Cx) (D : List Dt) (L : List Res) (e : Env) (c : Code) : Prop := ∀ F H, Hp X D L F H → CF P n w0 Q e c H
def QH (n : Fs) (w0 : World) (Q : Exit → Act → World → Prop) (X : Cx) (D : List Dt) (L : List Res) (e : Env) (x : Exit) : Prop := ∀ F H, Hp X D L F H → PF n w0 Q e x H
def OH (P : Program) (D : List Dt) (L : List Res) (e : Env) (op : Op) (v : Value) : Prop := ∀ F H, InH F H → AllD F D → Ok F H L → OpOk P e op H v
def OE (P : Program) (D : List Dt) (L : List Res) (e : Env) (op : Op) (p : Value → PH → Prop) : Prop := ∀ F H, InH F H → AllD F D → Ok F H L → ∃ v, OpOk P e op H v ∧ p v F
section
variable {ops : Array Oper} {op : Op} {d : Nat} {ty : TypeId} {pos : String} {af : Array Edge} {rest : List Oper} {v : Value} {R : Res} {K : Act → World → Prop}
theorem jn (h : QH n w0 Q X D L e .normal) : LH P n w0 ops Q X D L e [] := fun F H hp => LF.nil (h F H hp)
theorem js (h : OH P D L e op v) (k : LH P n w0 ops Q X D L ((d, v) :: e) rest) (hd : Nat.blt d n.sz = true := by rfl) : LH P n w0 ops Q X D L e (⟨some d, op, ty, pos, af, none⟩ :: rest) :=
  fun F H hp => LF.step (h F H hp.hin hp.hd hp.ok) (k F H hp) hd
theorem jt (h : OH P D L e op v) (k : SH P n w0 ops K X D L ((d, v) :: e) rest) (hd : Nat.blt d n.sz = true := by rfl) : SH P n w0 ops K X D L e (⟨some d, op, ty, pos, af, none⟩ :: rest) :=
  fun F H hp => LS.step (h F H hp.hin hp.hd hp.ok) (k F H hp) hd
theorem jg {j t : Nat} {want B : Bool} {u : Value} (hj : (ops[j]?).bind (·.dst) = some t) (hu : lk e t = some u) (hB : Gd u want B) (h : B = true → OH P D L e op v)
    (k : LH P n w0 ops Q X D L ((d, gv B v) :: e) rest) (hd : Nat.blt d n.sz = true := by rfl) (ht : Nat.blt t n.sz = true := by rfl) : LH P n w0 ops Q X D L e (⟨some d, op, ty, pos, af, some (j, want)⟩ :: rest) :=
  fun F H hp => LF.gstep hj hu hB (fun hb => h hb F H hp.hin hp.hd hp.ok) (k F H hp) hd ht
def Dt.if (B : Bool) (d : Dt) : Dt := ⟨fun F => B = true → d.sat F, fun hl h hb => d.up hl (h hb)⟩
theorem Nd.on {B : Bool} {c : Dt} (h : Nd D L (c.if B)) (hb : B = true) : Nd D L c := fun F H a b o => h F H a b o hb
theorem jge {q : Value → Dt} {j t : Nat} {want B : Bool} {u : Value} (hj : (ops[j]?).bind (·.dst) = some t) (hu : lk e t = some u) (hB : Gd u want B) (h : B = true → OE P D L e op (fun v F => (q v).sat F))
    (k : ∀ v, LH P n w0 ops Q X ((q v).if B :: D) L ((d, gv B v) :: e) rest) (hd : Nat.blt d n.sz = true := by rfl) (ht : Nat.blt t n.sz = true := by rfl) : LH P n w0 ops Q X D L e (⟨some d, op, ty, pos, af, some (j, want)⟩ :: rest) := fun F H hp => by
  cases B with
  | true => obtain ⟨v, h1, h2⟩ := h rfl F H hp.hin hp.hd hp.ok; exact LF.gstep hj hu hB (fun _ => h1) (k v F H (hp.datum fun _ => h2)) hd ht
  | false => exact LF.gstep (v := undef) hj hu hB (fun h => by cases h) (k undef F H (hp.datum fun h => by cases h)) hd ht
theorem jk {j t : Nat} {want : Bool} {u : Value} (hj : (ops[j]?).bind (·.dst) = some t) (hu : lk e t = some u) (hB : Gd u want true) (h : OH P D L e op v)
    (k : LH P n w0 ops Q X D L ((d, v) :: e) rest) (hd : Nat.blt d n.sz = true := by rfl) (ht : Nat.blt t n.sz = true := by rfl) : LH P n w0 ops Q X D L e (⟨some d, op, ty, pos, af, some (j, want)⟩ :: rest) :=
  fun F H hp => LF.gstepK hj hu hB (h F H hp.hin hp.hd hp.ok) (k F H hp) hd ht
theorem jm {x : Operand} (hx : ev e x = some v) (k : LH P n w0 ops Q X D L ((d, v) :: e) rest) (hd : Nat.blt d n.sz = true := by rfl) : LH P n w0 ops Q X D L e (⟨some d, .move x, ty, pos, af, none⟩ :: rest) := js (fun _ _ _ _ _ => OpOk.move hx) k hd
theorem ja {x : Operand} (hx : ev e x = some v) (k : LH P n w0 ops Q X D L ((d, v) :: e) rest) (hd : Nat.blt d n.sz = true := by rfl) : LH P n w0 ops Q X D L e (⟨some d, .assign x, ty, pos, af, none⟩ :: rest) := js (fun _ _ _ _ _ => OpOk.assign hx) k hd
end
section
variable {x y : Code} {id : Nat} {l : List Oper}
theorem jr (h : LH P n w0 l.toArray Q X D L e l) : CH P n w0 Q X D L e (.region id l.toArray false) := fun F H hp => CF.region (h F H hp)
theorem jstl (hm : P.follows .mixedOrders = true) (hB : Region.lexB .any l.toArray = true) (h : SH P n w0 l.toArray (fun a w => Q .normal a w) X D L e l) : CH P n w0 Q X D L e (.region id l.toArray true) := fun F H hp => CF.still hm hB (h F H hp)
theorem jtl (m : Nat) (hm : P.follows .mixedOrders = true) (hB : Region.lexTailB .any l.toArray m = true) (h : SH P n w0 l.toArray (fun a w => wpList P l.toArray Q (l.drop m) a w) X D L e (l.take m)) : CH P n w0 Q X D L e (.region id l.toArray true) := fun F H hp => CF.tail m hm hB (h F H hp)
theorem jdn {ops : Array Oper} (h : QH n w0 Q X D L e .normal) : SH P n w0 ops (fun a w => Q .normal a w) X D L e [] := fun F H hp => LS.done (h F H hp)
theorem jtt {ops : Array Oper} {r : List Oper} (h : LH P n w0 ops Q X D L e r) : SH P n w0 ops (fun a w => wpList P ops Q r a w) X D L e [] := fun F H hp => LS.tail (h F H hp)
theorem jq (h : CH P n w0 (Exit.then (y.wp P Q) Q) X D L e x) : CH P n w0 Q X D L e (.seq x y) := fun F H hp => CF.seq (h F H hp)
theorem jx (h : CH P n w0 Q X D L e y) : QH n w0 (Exit.then (y.wp P Q) Q) X D L e .normal := fun F H hp => PF.next (h F H hp)
theorem jtx {k : Act → World → Prop} {i : Nat} (h : QH n w0 Q X D L e (.exit i)) : QH n w0 (Exit.then k Q) X D L e (.exit i) := fun F H hp => PF.thenExit (h F H hp)
theorem jtr {k : Act → World → Prop} (h : QH n w0 Q X D L e .ret) : QH n w0 (Exit.then k Q) X D L e .ret := fun F H hp => PF.thenRet (h F H hp)
theorem jb (h : CH P n w0 (Exit.inBlock id Q) X D L e x) : CH P n w0 Q X D L e (.block id x) := fun F H hp => CF.block (h F H hp)
theorem jbn (h : QH n w0 Q X D L e .normal) : QH n w0 (Exit.inBlock id Q) X D L e .normal := fun F H hp => PF.blockNormal (h F H hp)
theorem jbr (h : QH n w0 Q X D L e .ret) : QH n w0 (Exit.inBlock id Q) X D L e .ret := fun F H hp => PF.blockRet (h F H hp)
theorem jbh (h : QH n w0 Q X D L e .normal) : QH n w0 (Exit.inBlock id Q) X D L e (.exit id) := fun F H hp => PF.blockHere (h F H hp)
theorem jbo {i : Nat} (h : QH n w0 Q X D L e (.exit i)) (hne : Nat.beq i id = false := by rfl) : QH n w0 (Exit.inBlock id Q) X D L e (.exit i) := fun F H hp => PF.blockOther (h F H hp) hne
theorem jsk (h : QH n w0 Q X D L e .normal) : CH P n w0 Q X D L e .skip := fun F H hp => CF.skip (h F H hp)
theorem jex (h : QH n w0 Q X D L e (.exit id)) : CH P n w0 Q X D L e (.exit id) := fun F H hp => CF.exit (h F H hp)
theorem jrt (h : QH n w0 Q X D L e .ret) : CH P n w0 Q X D L e .ret := fun F H hp => CF.ret (h F H hp)
theorem jif {c : Operand} {b : Bool} {p q : Prop} (hc : ev e c = some (.bool b)) [hb : BoolP b p q] (ht : p → CH P n w0 Q X D L e x) (hf : q → CH P n w0 Q X D L e y) : CH P n w0 Q X D L e (.cond c x y) :=
  fun F H hp => CF.if hc (fun h => ht h F H hp) (fun h => hf h F H hp)
theorem jsc (h : CH P n w0 (Exit.noGoto Q) X D L e x) : CH P n w0 Q X D L e (.scope x) := fun F H hp => CF.scope (h F H hp)
theorem jso {z : Exit} (h : QH n w0 Q X D L e z) (hz : ∀ l, z ≠ .goto l := by simp) : QH n w0 (Exit.noGoto Q) X D L e z := fun F H hp => PF.scope (h F H hp) hz
theorem jlab {l : Nat} (h : QH n w0 Q X D L e .normal) : CH P n w0 Q X D L e (.label l) := fun F H hp => CF.label (h F H hp)
@[reducible] def u2 {α0 α1 ρ : Type} (f : α0 → α1 → ρ) (x : α0 × α1) : ρ := f x.1 x.2
@[reducible] def u3 {α0 α1 α2 ρ : Type} (f : α0 → α1 → α2 → ρ) (x : α0 × α1 × α2) : ρ := f x.1 x.2.1 x.2.2
@[reducible] def u4 {α0 α1 α2 α3 ρ : Type} (f : α0 → α1 → α2 → α3 → ρ) (x : α0 × α1 × α2 × α3) : ρ := f x.1 x.2.1 x.2.2.1 x.2.2.2
@[reducible] def u5 {α0 α1 α2 α3 α4 ρ : Type} (f : α0 → α1 → α2 → α3 → α4 → ρ) (x : α0 × α1 × α2 × α3 × α4) : ρ := f x.1 x.2.1 x.2.2.1 x.2.2.2.1 x.2.2.2.2
@[reducible] def u6 {α0 α1 α2 α3 α4 α5 ρ : Type} (f : α0 → α1 → α2 → α3 → α4 → α5 → ρ) (x : α0 × α1 × α2 × α3 × α4 × α5) : ρ := f x.1 x.2.1 x.2.2.1 x.2.2.2.1 x.2.2.2.2.1 x.2.2.2.2.2
@[reducible] def u7 {α0 α1 α2 α3 α4 α5 α6 ρ : Type} (f : α0 → α1 → α2 → α3 → α4 → α5 → α6 → ρ) (x : α0 × α1 × α2 × α3 × α4 × α5 × α6) : ρ := f x.1 x.2.1 x.2.2.1 x.2.2.2.1 x.2.2.2.2.1 x.2.2.2.2.2.1 x.2.2.2.2.2.2
@[reducible] def u8 {α0 α1 α2 α3 α4 α5 α6 α7 ρ : Type} (f : α0 → α1 → α2 → α3 → α4 → α5 → α6 → α7 → ρ) (x : α0 × α1 × α2 × α3 × α4 × α5 × α6 × α7) : ρ := f x.1 x.2.1 x.2.2.1 x.2.2.2.1 x.2.2.2.2.1 x.2.2.2.2.2.1 x.2.2.2.2.2.2.1 x.2.2.2.2.2.2.2
@[reducible] def u9 {α0 α1 α2 α3 α4 α5 α6 α7 α8 ρ : Type} (f : α0 → α1 → α2 → α3 → α4 → α5 → α6 → α7 → α8 → ρ) (x : α0 × α1 × α2 × α3 × α4 × α5 × α6 × α7 × α8) : ρ := f x.1 x.2.1 x.2.2.1 x.2.2.2.1 x.2.2.2.2.1 x.2.2.2.2.2.1 x.2.2.2.2.2.2.1 x.2.2.2.2.2.2.2.1 x.2.2.2.2.2.2.2.2
@[reducible] def u10 {α0 α1 α2 α3 α4 α5 α6 α7 α8 α9 ρ : Type} (f : α0 → α1 → α2 → α3 → α4 → α5 → α6 → α7 → α8 → α9 → ρ) (x : α0 × α1 × α2 × α3 × α4 × α5 × α6 × α7 × α8 × α9) : ρ := f x.1 x.2.1 x.2.2.1 x.2.2.2.1 x.2.2.2.2.1 x.2.2.2.2.2.1 x.2.2.2.2.2.2.1 x.2.2.2.2.2.2.2.1 x.2.2.2.2.2.2.2.2.1 x.2.2.2.2.2.2.2.2.2
@[reducible] def u11 {α0 α1 α2 α3 α4 α5 α6 α7 α8 α9 α10 ρ : Type} (f : α0 → α1 → α2 → α3 → α4 → α5 → α6 → α7 → α8 → α9 → α10 → ρ) (x : α0 × α1 × α2 × α3 × α4 × α5 × α6 × α7 × α8 × α9 × α10) : ρ := f x.1 x.2.1 x.2.2.1 x.2.2.2.1 x.2.2.2.2.1 x.2.2.2.2.2.1 x.2.2.2.2.2.2.1 x.2.2.2.2.2.2.2.1 x.2.2.2.2.2.2.2.2.1 x.2.2.2.2.2.2.2.2.2.1 x.2.2.2.2.2.2.2.2.2.2
@[reducible] def u12 {α0 α1 α2 α3 α4 α5 α6 α7 α8 α9 α10 α11 ρ : Type} (f : α0 → α1 → α2 → α3 → α4 → α5 → α6 → α7 → α8 → α9 → α10 → α11 → ρ) (x : α0 × α1 × α2 × α3 × α4 × α5 × α6 × α7 × α8 × α9 × α10 × α11) : ρ := f x.1 x.2.1 x.2.2.1 x.2.2.2.1 x.2.2.2.2.1 x.2.2.2.2.2.1 x.2.2.2.2.2.2.1 x.2.2.2.2.2.2.2.1 x.2.2.2.2.2.2.2.2.1 x.2.2.2.2.2.2.2.2.2.1 x.2.2.2.2.2.2.2.2.2.2.1 x.2.2.2.2.2.2.2.2.2.2.2
@[reducible] def u13 {α0 α1 α2 α3 α4 α5 α6 α7 α8 α9 α10 α11 α12 ρ : Type} (f : α0 → α1 → α2 → α3 → α4 → α5 → α6 → α7 → α8 → α9 → α10 → α11 → α12 → ρ) (x : α0 × α1 × α2 × α3 × α4 × α5 × α6 × α7 × α8 × α9 × α10 × α11 × α12) : ρ := f x.1 x.2.1 x.2.2.1 x.2.2.2.1 x.2.2.2.2.1 x.2.2.2.2.2.1 x.2.2.2.2.2.2.1 x.2.2.2.2.2.2.2.1 x.2.2.2.2.2.2.2.2.1 x.2.2.2.2.2.2.2.2.2.1 x.2.2.2.2.2.2.2.2.2.2.1 x.2.2.2.2.2.2.2.2.2.2.2.1 x.2.2.2.2.2.2.2.2.2.2.2.2
@[reducible] def u14 {α0 α1 α2 α3 α4 α5 α6 α7 α8 α9 α10 α11 α12 α13 ρ : Type} (f : α0 → α1 → α2 → α3 → α4 → α5 → α6 → α7 → α8 → α9 → α10 → α11 → α12 → α13 → ρ) (x : α0 × α1 × α2 × α3 × α4 × α5 × α6 × α7 × α8 × α9 × α10 × α11 × α12 × α13) : ρ := f x.1 x.2.1 x.2.2.1 x.2.2.2.1 x.2.2.2.2.1 x.2.2.2.2.2.1 x.2.2.2.2.2.2.1 x.2.2.2.2.2.2.2.1 x.2.2.2.2.2.2.2.2.1 x.2.2.2.2.2.2.2.2.2.1 x.2.2.2.2.2.2.2.2.2.2.1 x.2.2.2.2.2.2.2.2.2.2.2.1 x.2.2.2.2.2.2.2.2.2.2.2.2.1 x.2.2.2.2.2.2.2.2.2.2.2.2.2
@[reducible] def u15 {α0 α1 α2 α3 α4 α5 α6 α7 α8 α9 α10 α11 α12 α13 α14 ρ : Type} (f : α0 → α1 → α2 → α3 → α4 → α5 → α6 → α7 → α8 → α9 → α10 → α11 → α12 → α13 → α14 → ρ) (x : α0 × α1 × α2 × α3 × α4 × α5 × α6 × α7 × α8 × α9 × α10 × α11 × α12 × α13 × α14) : ρ := f x.1 x.2.1 x.2.2.1 x.2.2.2.1 x.2.2.2.2.1 x.2.2.2.2.2.1 x.2.2.2.2.2.2.1 x.2.2.2.2.2.2.2.1 x.2.2.2.2.2.2.2.2.1 x.2.2.2.2.2.2.2.2.2.1 x.2.2.2.2.2.2.2.2.2.2.1 x.2.2.2.2.2.2.2.2.2.2.2.1 x.2.2.2.2.2.2.2.2.2.2.2.2.1 x.2.2.2.2.2.2.2.2.2.2.2.2.2.1 x.2.2.2.2.2.2.2.2.2.2.2.2.2.2
@[reducible] def u16 {α0 α1 α2 α3 α4 α5 α6 α7 α8 α9 α10 α11 α12 α13 α14 α15 ρ : Type} (f : α0 → α1 → α2 → α3 → α4 → α5 → α6 → α7 → α8 → α9 → α10 → α11 → α12 → α13 → α14 → α15 → ρ) (x : α0 × α1 × α2 × α3 × α4 × α5 × α6 × α7 × α8 × α9 × α10 × α11 × α12 × α13 × α14 × α15) : ρ := f x.1 x.2.1 x.2.2.1 x.2.2.2.1 x.2.2.2.2.1 x.2.2.2.2.2.1 x.2.2.2.2.2.2.1 x.2.2.2.2.2.2.2.1 x.2.2.2.2.2.2.2.2.1 x.2.2.2.2.2.2.2.2.2.1 x.2.2.2.2.2.2.2.2.2.2.1 x.2.2.2.2.2.2.2.2.2.2.2.1 x.2.2.2.2.2.2.2.2.2.2.2.2.1 x.2.2.2.2.2.2.2.2.2.2.2.2.2.1 x.2.2.2.2.2.2.2.2.2.2.2.2.2.2.1 x.2.2.2.2.2.2.2.2.2.2.2.2.2.2.2
structure Lp where
  inv : Prop
  D : List Dt
  L : List Res
  env : Env
  mu : Nat
def Agn {ι : Type} (n : Fs) (w0 : World) (X : Cx) (S : ι → Lp) (i : ι) (a : Act) (w : World) : Prop :=
  ∃ j F, (S j).inv ∧ Hp X (S j).D (S j).L F w.heap ∧ Fr n (S j).env a ∧ Wd w0 w.heap w ∧ (S j).mu < (S i).mu
theorem jlp {ι : Type} (S : ι → Lp) (i0 : ι) (h0 : (S i0).inv) (hd : Sd D L (S i0).D) (hl : Tks L (S i0).L M) (hs : Sub e (S i0).env)
    (round : ∀ i, (S i).inv → CH P n w0 (Exit.then (Agn n w0 X S i) Q) X (S i).D (S i).L (S i).env x) : CH P n w0 Q X D L e (.loop x) := fun F H hp => by
  refine CF.loop (ι := ι) (fun i H => (S i).inv ∧ ∃ F, Hp X (S i).D (S i).L F H) (fun i => (S i).env) (fun i => (S i).mu) i0 ⟨h0, F, hp.sub hd hl⟩ hs ?_
  rintro i H' ⟨hi, F', hp'⟩ a w hf hw
  refine Code.wp_mono ?_ (round i hi F' H' hp' a w hf hw)
  intro z a' w' hq
  cases z with
  | normal => obtain ⟨j, F2, h1, h2, h3, h4, h5⟩ := hq; exact ⟨j, ⟨h1, F2, h2⟩, h3, h4, h5⟩
  | _ => exact hq
theorem jag {ι : Type} {S : ι → Lp} {i : ι} (j : ι) (hj : (S j).inv) (hd : Sd D L (S j).D) (hl : Tks L (S j).L M) (hs : Sub e (S j).env) (hm : (S j).mu < (S i).mu := by dsimp only [u2, u3, u4, u5, u6, u7, u8, u9, u10, u11, u12, u13, u14, u15, u16]; omega) :
    QH n w0 (Exit.then (Agn n w0 X S i) Q) X D L e .normal := fun F H hp a w hf hw =>
  ⟨j, F, hj, hw.heap ▸ hp.sub hd hl, hf.sub hs, ⟨rfl, hw.os, hw.tape, hw.output⟩, hm⟩
structure Jn where
  inv : Prop
  D : List Dt
  L : List Res
  env : Env
def QJn {ι : Type} (n : Fs) (w0 : World) (X : Cx) (S : ι → Jn) (Q : Exit → Act → World → Prop) (x : Exit) (a : Act) (w : World) : Prop := (x = .normal ∧ ∃ i F, (S i).inv ∧ Hp X (S i).D (S i).L F w.heap ∧ Fr n (S i).env a ∧ Wd w0 w.heap w) ∨ (x ≠ .normal ∧ Q x a w)
theorem jjo {ι : Type} (S : ι → Jn) (h : CH P n w0 (QJn n w0 X S Q) X D L e x) (k : ∀ i, (S i).inv → QH n w0 Q X (S i).D (S i).L (S i).env .normal) : CH P n w0 Q X D L e x := fun F H hp a w hf hw =>
  Code.wp_mono (fun _ _ _ h9 => h9.elim (fun ⟨h1, i, F', h2, h3, h4, h5⟩ => h1 ▸ k i h2 F' _ h3 _ _ h4 h5) (fun h => h.2)) (h F H hp a w hf hw)
theorem jje {ι : Type} {S : ι → Jn} (i : ι) (hi : (S i).inv) (hd : Sd D L (S i).D) (hl : Tks L (S i).L M) (hs : Sub e (S i).env) : QH n w0 (QJn n w0 X S Q) X D L e .normal := fun F H hp a w hf hw =>
  .inl ⟨rfl, i, F, hi, hw.heap ▸ hp.sub hd hl, hf.sub hs, ⟨rfl, hw.os, hw.tape, hw.output⟩⟩
theorem jjr {ι : Type} {S : ι → Jn} {z : Exit} (h : QH n w0 Q X D L e z) (hz : z ≠ .normal := by simp) : QH n w0 (QJn n w0 X S Q) X D L e z := fun F H hp a w hf hw => .inr ⟨hz, h F H hp a w hf hw⟩
end
def Tr (P : Program) (f : FuncId) (args : Array Value) (D0 : List Dt) (L0 : List Res) {ι : Type} (val : ι → Value) (dr : ι → List Dt) (lr : Nat → ι → List Res) : Prop :=
  ∀ F H, InH F H → AllD F D0 → Ok F H L0 → Ct P f args H (fun v H' => ∃ i F', v = val i ∧ ∀ B, B ≤ H.size → Hp ⟨Own L0, H, F⟩ (dr i) (lr B i) F' H')
section
variable {f : FuncId} {fn : Func} {c : Code} {args : List Value} {D0 : List Dt} {L0 : List Res} {ι : Type} {val : ι → Value} {dr : ι → List Dt} {lr : Nat → ι → List Res}
def RQ2 (P : Program) (fn : Func) (w0 : World) (X : Cx) {ι : Type} (val : ι → Value) (dr : ι → List Dt) (lr : Nat → ι → List Res) : Exit → Act → World → Prop := BQ P fn w0 (fun v H' => ∃ i F', v = val i ∧ ∀ B, B ≤ X.n → Hp X (dr i) (lr B i) F' H')
theorem jenter {m : Nat} (hf : P.funcs[f]? = some fn) (hb : fn.body = some c) (hn : fn.ntmps = m) (ha : Nat.ble args.length m = true)
    (h : ∀ (w0 : World) (X : Cx), CH P ⟨m, []⟩ w0 (RQ2 P fn w0 X val dr lr) X D0 L0 (number 0 args) c) : Tr P f args.toArray D0 L0 val dr lr := fun F H hin hd ho =>
  Ct.enter hf hb hn ha fun w0 hw => h w0 ⟨Own L0, H, F⟩ F H ⟨PH.ext.refl F, hin, Kw.refl _ _, hd, ho, fun k hk => .inr hk⟩
end
end Go.JE
namespace Go.JE
set_option linter.unusedVariables false
set_option linter.unusedSimpArgs false
set_option linter.unusedSectionVars false
variable {P : Program} {D : List Dt} {L M : List Res} {e : Env}
def dv {α : Type} (r : Rp α) (v : Value) (a : α) : Dt := ⟨fun F => r.rv F v a, fun hl h => Rp.rv.up h hl⟩
def da {α : Type} (r : Rp α) (v : Value) (a : α) : Dt := ⟨fun F => r.ra F v a, fun hl h => Rp.ra.up h hl⟩
def ad {α : Type} (r : Rp α) (b o : Nat) (a : α) : Dt := ⟨fun F => At F r b o a, fun hl h => At.up h hl⟩
def Sv (v : Value) : Prop := ∃ a n c, v = .slice a n c
theorem Sv.one {v : Value} (h : Sv v) : v.oneCell' = true := by obtain ⟨_, _, _, rfl⟩ := h; rfl
theorem Sv.cells {v : Value} (h : Sv v) : v.cells = [v].toArray := cells1 h.one
theorem Gl.sv {α : Type} {r : Rp α} {T : TypeId} {F : PH} {H : Heap} {B : Nat} {v : Value} {l : List α} (h : Gl r T F H B v l) : Sv v := by obtain ⟨xs, h1, _⟩ := h; obtain ⟨a, c, e⟩ := h1.len; exact ⟨a, _, c, e⟩
theorem dv1 {α : Type} {r : Rp α} {v : Value} {l : List α} {N : Nat} {F : PH} (h : (dv (rLn N r) v l).sat F) : Sv v := by obtain ⟨_, a, c, e, _⟩ := h; exact ⟨a, _, c, e⟩
def bx (g : Nat) (T : TypeId) (cs : List Value) : Res where
  sat F H := Bx H g T cs ∧ F g = none
  own k := k = g
  lt := fun h e => e ▸ h.1.lt
  no := fun h e => e ▸ h.2
  st := fun _ _ h1 h2 h => ⟨h.1.of (h2 g rfl), h1 g rfl⟩
def gl {α : Type} (B : Nat) (r : Rp α) (T : TypeId) (v : Value) (l : List α) : Res where
  sat F H := Gl r T F H B v l ∧ B ≤ H.size
  own k := v.ownBlock = some k
  lt := fun h e => h.1.lt _ e
  no := fun h e => h.1.no _ e
  st := fun hl hs h1 h2 h => by
    obtain ⟨⟨xs, a, b, c⟩, hB⟩ := h
    exact ⟨⟨xs, a.of h2, h1, fun i hi => Rp.up _ hl (c i hi)⟩, Nat.le_trans hB hs⟩
def Wr (D : List Dt) (L : List Res) (k : IntKind) (n : Int) : Prop := Nd D L ⟨fun _ => k.wrap n = n, fun _ h => h⟩
abbrev Qn (N n : Nat) : Prop := n < N ∧ n ≤ 9223372036854775807
section
variable {α β : Type} {r : Rp α} {v : Value} {a : α} {l : List α} {b o N B : Nat} {k : IntKind} {m : Int}
theorem wp (h : k.wrap m = m) : Wr D L k m := fun _ _ _ _ _ => h
theorem wl (m : Int) (h : k.wrap m = m := by decide) : Wr D L k m := wp h
theorem lrep {n : Nat} {a : α} : (List.replicate n a).length = n := List.length_replicate
theorem wad (h : Nd D L (ad (rI k) b o m)) : Wr D L k m := fun F H x y z => At.wr (h F H x y z)
theorem wgl {E : TypeId} {l : List Int} {i : Nat} (hk : Tk L (gl B (rI k) E v l) M) (hi : i < l.length) : Wr D L k (ix l i) := fun F H _ _ z => Gl.wr (hk.ok z).1.1 hi
theorem wI (h : Wr D L k m) : Nd D L (dv (rI k) (.int k m) m) := fun F H x y z => ⟨rfl, h F H x y z⟩
theorem wB {b : Bool} : Nd D L (dv rB (.bool b) b) := fun _ _ _ _ _ => rfl
theorem wN : Nd D L (dv (rL r) (.slice none 0 0) []) := fun F _ _ _ _ => rL.nil F
theorem dix [Inhabited α] {l : List α} (h : Nd D L (dv (rLn N r) v l)) (i : Nat) (hi : i < l.length) : Nd D L (ad r (vblk v) (voff v + i * r.sz) (ix l i)) := fun F H x y z => rL.ix (h F H x y z) i hi
theorem dhi (h : Nd D L (dv (rLn N r) v l)) (hi : Nat) (h2 : hi ≤ l.length) (h3 : hi < 1073741824) : Nd D L (dv (rL r) (resl r.sz v 0 hi) (l.take hi)) := fun F H x y z => rL.hi (h F H x y z) hi h2 h3
theorem dlo (h : Nd D L (dv (rLn N r) v l)) (lo : Nat) (h2 : lo ≤ l.length) (h3 : l.length - lo < 1073741824) : Nd D L (dv (rL r) (resl r.sz v lo l.length) (l.drop lo)) := fun F H x y z => rL.lo (h F H x y z) lo h2 h3
theorem dcast {a' : α} (e : a' = a) (h : Nd D L (dv r v a)) : Nd D L (dv r v a') := e ▸ h
theorem kcg {E : TypeId} {Ls M' : List Res} {l' : List α} (e : l' = l) (h : Tk L (gl B r E v l) M) (h' : Tks M Ls M') : Tks L (gl B r E v l' :: Ls) M' := e ▸ kc h h'
theorem kcb {g : Nat} {T : TypeId} {cs cs' : List Value} {Ls M' : List Res} (e : cs' = cs) (h : Tk L (bx g T cs) M) (h' : Tks M Ls M') : Tks L (bx g T cs' :: Ls) M' := e ▸ kc h h'
end
section
variable {T T' : TypeId} {x y z : Operand} {k k' : IntKind} {m n r : Int} {b b2 C : Bool} {u v w : Value}
theorem jmv (hx : ev e x = some v) : OH P D L e (.move x) v := fun _ _ _ _ _ => OpOk.move hx
theorem jas (hx : ev e x = some v) : OH P D L e (.assign x) v := fun _ _ _ _ _ => OpOk.assign hx
theorem jand (hc : ev e z = some (.bool b)) (hx : ev e x = some (gv b (.bool b2))) : OH P D L e (.pick z x (.const (.bool false))) (.bool (b && b2)) := fun _ _ _ _ _ => OpOk.pickAnd hc hx
theorem jor (hc : ev e z = some (.bool b)) (hx : ev e x = some (gv (!b) (.bool b2))) : OH P D L e (.pick z (.const (.bool true)) x) (.bool (b || b2)) := fun _ _ _ _ _ => OpOk.pickOr hc hx
theorem jand2 (hC : C = true) (hc : ev e z = some (gv C (.bool b))) (hx : ev e x = some (gv (C && b) (.bool b2))) : OH P D L e (.pick z x (.const (.bool false))) (.bool (b && b2)) := fun _ _ _ _ _ => OpOk.pickAnd2 hC hc hx
theorem jor2 (hC : C = true) (hc : ev e z = some (gv C (.bool b))) (hx : ev e x = some (gv (C && !b) (.bool b2))) : OH P D L e (.pick z (.const (.bool true)) x) (.bool (b || b2)) := fun _ _ _ _ _ => OpOk.pickOr2 hC hc hx
theorem jnot (hx : ev e x = some (.bool b)) : OH P D L e (.unOp .not T x) (.bool (!b)) := fun _ _ _ _ _ => OpOk.not hx
theorem jneg (hx : ev e x = some (.int k m)) : OH P D L e (.unOp .neg T x) (.int k (k.wrap (0 - m))) := fun _ _ _ _ _ => OpOk.neg hx rfl
theorem jex' {vs : Array Value} {i : Nat} (hx : ev e x = some (.tuple vs)) (hi : vs[i]? = some v) : OH P D L e (.extract x i) v := fun _ _ _ _ _ => OpOk.extract hx hi
theorem jnil {a : Addr} (hx : ev e x = some (.pointer (some a))) : OH P D L e (.nilCheck x) (.pointer (some a)) := fun _ _ _ _ _ => OpOk.nilCheck hx
theorem jadd (hx : ev e x = some (.int .i64 m)) (hy : ev e y = some (.int .i64 n)) (hr : -9223372036854775808 ≤ m + n ∧ m + n ≤ 9223372036854775807) : OH P D L e (.binOp .add T x y T') (.int .i64 (m + n)) := fun _ _ _ _ _ => OpOk.add hx hy hr
theorem jsub (hx : ev e x = some (.int .i64 m)) (hy : ev e y = some (.int .i64 n)) (hr : -9223372036854775808 ≤ m - n ∧ m - n ≤ 9223372036854775807) : OH P D L e (.binOp .sub T x y T') (.int .i64 (m - n)) := fun _ _ _ _ _ => OpOk.sub hx hy hr
theorem jmul (hx : ev e x = some (.int .i64 m)) (hy : ev e y = some (.int .i64 n)) (hr : -9223372036854775808 ≤ m * n ∧ m * n ≤ 9223372036854775807) : OH P D L e (.binOp .mul T x y T') (.int .i64 (m * n)) := fun _ _ _ _ _ => OpOk.mul hx hy hr
theorem jaddw (hx : ev e x = some (.int k m)) (hy : ev e y = some (.int k n)) : OH P D L e (.binOp .add T x y T') (.int k (k.wrap (m + n))) := fun _ _ _ _ _ => OpOk.addw hx hy rfl
theorem jsubw (hx : ev e x = some (.int k m)) (hy : ev e y = some (.int k n)) : OH P D L e (.binOp .sub T x y T') (.int k (k.wrap (m - n))) := fun _ _ _ _ _ => OpOk.subw hx hy rfl
theorem jmulw (hx : ev e x = some (.int k m)) (hy : ev e y = some (.int k n)) : OH P D L e (.binOp .mul T x y T') (.int k (k.wrap (m * n))) := fun _ _ _ _ _ => OpOk.mulw hx hy rfl
theorem jrem (hx : ev e x = some (.int k m)) (hy : ev e y = some (.int k n)) (h0 : n ≠ 0) : OH P D L e (.binOp .rem T x y T') (.int k (m.tmod n)) := fun _ _ _ _ _ => OpOk.rem hx hy h0
theorem jquo (hx : ev e x = some (.int k m)) (hy : ev e y = some (.int k n)) (h0 : n ≠ 0) : OH P D L e (.binOp .quo T x y T') (.int k (k.wrap (m.tdiv n))) := fun _ _ _ _ _ => OpOk.quow hx hy h0 rfl
theorem jlss (hx : ev e x = some (.int k m)) (hy : ev e y = some (.int k n)) : OH P D L e (.binOp .lss T x y T') (.bool (decide (m < n))) := fun _ _ _ _ _ => OpOk.lss hx hy
theorem jleq (hx : ev e x = some (.int k m)) (hy : ev e y = some (.int k n)) : OH P D L e (.binOp .leq T x y T') (.bool (decide (m ≤ n))) := fun _ _ _ _ _ => OpOk.leq hx hy
theorem jgtr (hx : ev e x = some (.int k m)) (hy : ev e y = some (.int k n)) : OH P D L e (.binOp .gtr T x y T') (.bool (decide (n < m))) := fun _ _ _ _ _ => OpOk.gtr hx hy
theorem jgeq (hx : ev e x = some (.int k m)) (hy : ev e y = some (.int k n)) : OH P D L e (.binOp .geq T x y T') (.bool (decide (n ≤ m))) := fun _ _ _ _ _ => OpOk.geq hx hy
theorem jeql (hx : ev e x = some (.int k m)) (hy : ev e y = some (.int k n)) : OH P D L e (.binOp .eql T x y T') (.bool (decide (m = n))) := fun _ _ _ _ _ => OpOk.eql hx hy
theorem jneq (hx : ev e x = some (.int k m)) (hy : ev e y = some (.int k n)) : OH P D L e (.binOp .neq T x y T') (.bool (!decide (m = n))) := fun _ _ _ _ _ => OpOk.neq hx hy
theorem jandw (hx : ev e x = some (.int k m)) (hy : ev e y = some (.int k n)) : OH P D L e (.binOp .and T x y T') (.int k (andI k m n)) := fun _ _ _ _ _ => OpOk.andw hx hy
theorem jorw (hx : ev e x = some (.int k m)) (hy : ev e y = some (.int k n)) : OH P D L e (.binOp .or T x y T') (.int k (orI k m n)) := fun _ _ _ _ _ => OpOk.orw hx hy
theorem jxorw (hx : ev e x = some (.int k m)) (hy : ev e y = some (.int k n)) : OH P D L e (.binOp .xor T x y T') (.int k (xorI k m n)) := fun _ _ _ _ _ => OpOk.xorw hx hy
theorem jshl (hx : ev e x = some (.int k m)) (hy : ev e y = some (.int k' n)) (h0 : 0 ≤ n) : OH P D L e (.binOp .shl T x y T') (.int k (shlI k m n)) := fun _ _ _ _ _ => OpOk.shlw hx hy h0
theorem jshr (hx : ev e x = some (.int k m)) (hy : ev e y = some (.int k' n)) (h0 : 0 ≤ n) : OH P D L e (.binOp .shr T x y T') (.int k (shrI k m n)) := fun _ _ _ _ _ => OpOk.shrw hx hy h0
theorem jeqlB (hT : P.underlying T = some .bool) (hx : ev e x = some (.bool b)) (hy : ev e y = some (.bool b2)) : OH P D L e (.binOp .eql T x y T') (.bool (b == b2)) := fun _ _ _ _ _ => OpOk.eqlB hT hx hy
theorem jeqlF {ps rs : Array TypeId} {vr : Bool} {fn : Fn} {a1 a2 : Array Value} (hT : P.underlying T = some (.func ps rs vr)) (hx : ev e x = some (.func fn a1 a2)) (hy : ev e y = some .nilFunc) : OH P D L e (.binOp .eql T x y T') (.bool false) := fun _ _ _ _ _ => OpOk.eqlF hT hx hy
theorem jeqlN {ps rs : Array TypeId} {vr : Bool} (hT : P.underlying T = some (.func ps rs vr)) (hx : ev e x = some .nilFunc) (hy : ev e y = some .nilFunc) : OH P D L e (.binOp .eql T x y T') (.bool true) := fun _ _ _ _ _ => OpOk.eqlN hT hx hy
theorem jmin {ts : Array TypeId} (hx : ev e x = some (.int k m)) (hy : ev e y = some (.int k n)) : OH P D L e (.call { callee := .builtin .min, args := #[x, y], argTypes := ts }) (.int k (Min.min m n)) := fun _ _ _ _ _ => OpOk.min3 hx hy
theorem jmax {ts : Array TypeId} (hx : ev e x = some (.int k m)) (hy : ev e y = some (.int k n)) : OH P D L e (.call { callee := .builtin .max, args := #[x, y], argTypes := ts }) (.int k (Max.max m n)) := fun _ _ _ _ _ => OpOk.max3 hx hy
theorem jco {S : TypeId} {d} (hs : P.underlying S = some d) (hd : P.underlying T = some (.int k')) (hx : ev e x = some (.int k m)) (hk : k'.wrap m = r) : OH P D L e (.convert S T x) (.int k' r) := fun _ _ _ _ _ => OpOk.convI hs hd hx hk
theorem jmf1 {fn : Fn} (hx : ev e x = some u) : OH P D L e (.makeFunc fn #[] #[x]) (.func fn #[] #[u]) := fun _ _ _ _ _ => OpOk.makeFunc1 hx
theorem jmf2 {fn : Fn} (hx : ev e x = some u) (hy : ev e y = some v) : OH P D L e (.makeFunc fn #[] #[x, y]) (.func fn #[] #[u, v]) := fun _ _ _ _ _ => OpOk.makeFunc2 hx hy
theorem jf {i off b o : Nat} (hF : Fld P T i off) (hx : ev e x = some (.pointer (some ⟨b, o, none⟩))) : OH P D L e (.fieldAddr T x i) (.pointer (some ⟨b, o + off, none⟩)) := fun _ _ _ _ _ => OpOk.fieldAddr hF hx
theorem jixa {E : TypeId} {b o len s i : Nat} {I : Int} (hT : P.underlying T = some (.array len E)) (hE : Sz P E s) (hx : ev e x = some (.pointer (some ⟨b, o, none⟩))) (hi : ev e y = some (.int k I)) (hI : I = i) (h1 : i < len) : OH P D L e (.indexAddr T x y) (.pointer (some ⟨b, o + i * s, none⟩)) := fun _ _ _ _ _ => OpOk.indexArr hT hE hx hi hI h1
theorem jfo {i off : Nat} {cs : Array Value} {t : TypeId} (hF : ∃ fs f, P.underlying T = some (.struct fs) ∧ fs[i]? = some f ∧ f.offset = off ∧ f.type = t) (ht : One P t) (hx : ev e x = some (.agg cs)) (hv : cs[off]? = some v) : OH P D L e (.field T x i) v := fun _ _ _ _ _ => OpOk.fieldOne hF ht hx hv
theorem jbu {l : List (Nat × Operand)} {r : List (Nat × Value)} (hl : evs e l = some r) (hb : ∀ w, (Instr.build T r.toArray).run P w = .ok v w) : OH P D L e (.build T l.toArray) v := fun _ _ _ _ _ => OpOk.build hl hb
theorem jci {E : TypeId} {n : Nat} {l : List Int} {I : Int} (hT : P.underlying T = some (.array n E)) (hE : Sz P E 1) (hO : One P E) (hx : ev e x = some (.agg (l.map (Value.int k)).toArray)) (hi : ev e y = some (.int k' I)) (h1 : 0 ≤ I ∧ I < n ∧ n = l.length) : OH P D L e (.index T x y) (.int k (ix l I.toNat)) := fun _ _ _ _ _ => OpOk.indexI hT hE hO hx hi h1
end
section
variable {T : TypeId} {T' : TypeId} {x : Operand} {g o m : Nat} {cs ds : List Value} {v : Value}
theorem jl (hk : Tk L (bx g T cs) M) (hT : One P T') (hx : ev e x = some (.pointer (some ⟨g, o, none⟩))) (hl : cs[o]? = some v) : OH P D L e (.load T' x) v := fun F H _ _ h => OpOk.ldBx (hk.ok h).1.1 hT hx hl
theorem jla (hk : Tk L (bx g T cs) M) (hT : ∃ d, P.underlying T' = some d ∧ (match d with | .struct _ | .array _ _ => true | _ => false) = true) (hS : Sz P T' m) (hx : ev e x = some (.pointer (some ⟨g, o, none⟩))) (hl : (cs.drop o).take m = ds) (hm : ds.length = m) : OH P D L e (.load T' x) (.agg ds.toArray) := fun F H _ _ h => OpOk.ldBxA (hk.ok h).1.1 hT hS hx hl hm
theorem jli {k : IntKind} {l : List Int} {i : Nat} (hk : Tk L (bx g T (l.map (Value.int k))) M) (hi : i < l.length) (ho : o = i) (hT : One P T') (hx : ev e x = some (.pointer (some ⟨g, o, none⟩))) : OH P D L e (.load T' x) (.int k (ix l i)) := fun F H _ _ h => OpOk.ldBxI (hk.ok h).1.1 hi ho hT hx
end
section
variable {α : Type} {r : Rp α} {v : Value} {l : List α} {B : Nat} {T E : TypeId} {x y : Operand} {k k' : IntKind} {i N b o : Nat} {I m : Int} {a : α}
theorem jln (hT : P.underlying T = some (.slice E)) (hs : Nd D L (dv (rLn N r) v l)) (hx : ev e x = some v) : OH P D L e (.call { callee := .builtin .len, args := #[x], argTypes := #[T] }) (.int .i64 (l.length : Nat)) := fun F H a b c => OpOk.lenL hT (hs F H a b c) hx
theorem jix (hT : P.underlying T = some (.slice E)) (hE : Sz P E r.sz) (hs : Nd D L (dv (rLn N r) v l)) (hx : ev e x = some v) (hi : ev e y = some (.int k I)) (hI : I = i) (h1 : i < l.length) (hsz : 0 < r.sz := by exact Nat.le_of_ble_eq_true rfl) : OH P D L e (.indexAddr T x y) (.pointer (some ⟨vblk v, voff v + i * r.sz, none⟩)) := fun F H a b c => OpOk.idxL hT hE (hs F H a b c) hx hi hI h1 hsz
theorem jlI (hat : Nd D L (ad (rI k) b o m)) (hT : One P T) (hx : ev e x = some (.pointer (some ⟨b, o, none⟩))) : OH P D L e (.load T x) (.int k m) := fun F H a b c => OpOk.ldI a (hat F H a b c) hT hx
theorem jlB {m : Bool} (hat : Nd D L (ad rB b o m)) (hT : One P T) (hx : ev e x = some (.pointer (some ⟨b, o, none⟩))) : OH P D L e (.load T x) (.bool m) := fun F H a b c => OpOk.ldB a (hat F H a b c) hT hx
theorem jlV (hat : Nd D L (ad r b o a)) (hT : One P T) (hS : r.sz = 1) (hx : ev e x = some (.pointer (some ⟨b, o, none⟩))) : OE P D L e (.load T x) (fun v F => (dv r v a).sat F) := fun F H h1 h2 h3 => OpOk.ldV h1 (hat F H h1 h2 h3) hT hS hx
theorem jlA (hat : Nd D L (ad r b o a)) (hT : ∃ d, P.underlying T = some d ∧ (match d with | .struct _ | .array _ _ => true | _ => false) = true) (hS : Sz P T r.sz) (hx : ev e x = some (.pointer (some ⟨b, o, none⟩))) : OE P D L e (.load T x) (fun v F => (da r v a).sat F) := fun F H h1 h2 h3 => OpOk.ldA h1 (hat F H h1 h2 h3) hT hS hx
theorem jshi {z : Operand} {J : Int} {hi : Nat} (hT : P.underlying T = some (.slice E)) (hE : Sz P E r.sz) (hs : Nd D L (dv (rLn N r) v l)) (hx : ev e x = some v) (hh : ev e z = some (.int k' J)) (hJ : J = hi) (h2 : hi ≤ l.length) : OH P D L e (.slice T x none (some z) none) (resl r.sz v 0 hi) := fun F H a b c => OpOk.sliceHiL hT hE (hs F H a b c) a hx hh hJ h2
theorem jslo {z : Operand} {J : Int} {lo : Nat} (hT : P.underlying T = some (.slice E)) (hE : Sz P E r.sz) (hs : Nd D L (dv (rLn N r) v l)) (hx : ev e x = some v) (hh : ev e z = some (.int k' J)) (hJ : J = lo) (h2 : lo ≤ l.length) : OH P D L e (.slice T x (some z) none none) (resl r.sz v lo l.length) := fun F H a b c => OpOk.sliceLoL hT hE (hs F H a b c) a hx hh hJ h2
end
section
variable {α : Type} [Inhabited α] {r : Rp α} {v : Value} {l : List α} {B : Nat} {T E : TypeId} {x y : Operand} {k k' : IntKind} {i N b o : Nat} {I m : Int} {a : α}
omit [Inhabited α] in
theorem jlg (hT : P.underlying T = some (.slice E)) (hk : Tk L (gl B r E v l) M) (hx : ev e x = some v) : OH P D L e (.call { callee := .builtin .len, args := #[x], argTypes := #[T] }) (.int .i64 (l.length : Nat)) := fun F H _ _ h => OpOk.lenG hT (hk.ok h).1.1 hx
omit [Inhabited α] in
theorem jig (hT : P.underlying T = some (.slice E)) (hE : Sz P E r.sz) (hk : Tk L (gl B r E v l) M) (hx : ev e x = some v) (hi : ev e y = some (.int k I)) (hI : I = i) (h1 : i < l.length) (hsz : 0 < r.sz := by exact Nat.le_of_ble_eq_true rfl) : OH P D L e (.indexAddr T x y) (.pointer (some ⟨vblk v, voff v + i * r.sz, none⟩)) := fun F H _ _ h => OpOk.idxG hT hE (hk.ok h).1.1 hx hi hI h1 hsz
theorem jgI {l : List Int} (hk : Tk L (gl B (rI k) E v l) M) (hi : i < l.length) (hT : One P T) (hx : ev e x = some (.pointer (some ⟨vblk v, voff v + i * 1, none⟩))) : OH P D L e (.load T x) (.int k (ix l i)) := fun F H _ _ h => OpOk.ldGI (hk.ok h).1.1 hi hT hx
theorem jgB {l : List Bool} (hk : Tk L (gl B rB E v l) M) (hi : i < l.length) (hT : One P T) (hx : ev e x = some (.pointer (some ⟨vblk v, voff v + i * 1, none⟩))) : OH P D L e (.load T x) (.bool (ix l i)) := fun F H _ _ h => OpOk.ldGB (hk.ok h).1.1 hi hT hx
theorem jgV (hk : Tk L (gl B r E v l) M) (hi : i < l.length) (hT : One P T) (hs : r.sz = 1) (hx : ev e x = some (.pointer (some ⟨vblk v, voff v + i * 1, none⟩))) : OE P D L e (.load T x) (fun u F => (dv r u (ix l i)).sat F) := fun F H _ _ h => OpOk.ldGV (hk.ok h).1.1 hi hT hs hx
theorem jgA (hk : Tk L (gl B r E v l) M) (hi : i < l.length) (hT : ∃ d, P.underlying T = some d ∧ (match d with | .struct _ | .array _ _ => true | _ => false) = true) (hS : Sz P T r.sz) (hx : ev e x = some (.pointer (some ⟨vblk v, voff v + i * r.sz, none⟩))) : OE P D L e (.load T x) (fun u F => (da r u (ix l i)).sat F) := fun F H _ _ h => OpOk.ldGA (hk.ok h).1.1 hi hT hS hx
omit [Inhabited α] in
theorem jshg {z : Operand} {J : Int} {hi : Nat} (hT : P.underlying T = some (.slice E)) (hE : Sz P E r.sz) (hk : Tk L (gl B r E v l) M) (hx : ev e x = some v) (hh : ev e z = some (.int k' J)) (hJ : J = hi) (h2 : hi ≤ l.length) : OH P D L e (.slice T x none (some z) none) (resl r.sz v 0 hi) := fun F H _ _ h => OpOk.sliceHiG hT hE (hk.ok h).1.1 hx hh hJ h2
end
section
variable {n : Fs} {w0 : World} {Q : Exit → Act → World → Prop} {X : Cx} {ops : Array Oper} {op : Op} {d : Nat} {ty : TypeId} {pos : String} {af : Array Edge} {rest : List Oper} {K : Act → World → Prop} {α : Type} {r : Rp α} {l : List α} {N : Nat}
theorem jev (h : OE P D L e op (fun v F => (dv (rLn N r) v l).sat F)) (k : ∀ v, Qn N l.length → Sv v → LH P n w0 ops Q X (dv (rLn N r) v l :: D) L ((d, v) :: e) rest) (hd : Nat.blt d n.sz = true := by rfl) : LH P n w0 ops Q X D L e (⟨some d, op, ty, pos, af, none⟩ :: rest) :=
  fun F H hp => by
    obtain ⟨v, h1, h2⟩ := h F H hp.hin hp.hd hp.ok
    exact LF.step h1 (k v h2.1 (dv1 h2) F H (hp.datum h2)) hd
theorem jtv (h : OE P D L e op (fun v F => (dv (rLn N r) v l).sat F)) (k : ∀ v, Qn N l.length → Sv v → SH P n w0 ops K X (dv (rLn N r) v l :: D) L ((d, v) :: e) rest) (hd : Nat.blt d n.sz = true := by rfl) : SH P n w0 ops K X D L e (⟨some d, op, ty, pos, af, none⟩ :: rest) :=
  fun F H hp => by
    obtain ⟨v, h1, h2⟩ := h F H hp.hin hp.hd hp.ok
    exact LS.step h1 (k v h2.1 (dv1 h2) F H (hp.datum h2)) hd
variable {v : Value} {c : Code} {p : Prop}
theorem jdq (h : Nd D L (dv (rLn N r) v l)) (k : Qn N l.length → Sv v → LH P n w0 ops Q X D L e rest) : LH P n w0 ops Q X D L e rest := fun F H hp => by
  have h1 := h F H hp.hin hp.hd hp.ok; exact k h1.1 (dv1 h1) F H hp
theorem cdq (h : Nd D L (dv (rLn N r) v l)) (k : Qn N l.length → Sv v → CH P n w0 Q X D L e c) : CH P n w0 Q X D L e c := fun F H hp => by
  have h1 := h F H hp.hin hp.hd hp.ok; exact k h1.1 (dv1 h1) F H hp
theorem jwr {k : IntKind} {m : Int} (h : Wr D L k m) (K : k.wrap m = m → LH P n w0 ops Q X D L e rest) : LH P n w0 ops Q X D L e rest := fun F H hp => K (h F H hp.hin hp.hd hp.ok) F H hp
theorem cwr {k : IntKind} {m : Int} (h : Wr D L k m) (K : k.wrap m = m → CH P n w0 Q X D L e c) : CH P n w0 Q X D L e c := fun F H hp => K (h F H hp.hin hp.hd hp.ok) F H hp
theorem jgo {α : Type} {r : Rp α} {B : Nat} {E : TypeId} {l : List α} (hk : Tk L (gl B r E v l) M) (K : Sv v → LH P n w0 ops Q X D L e rest) : LH P n w0 ops Q X D L e rest := fun F H hp => K (Gl.sv (hp.at hk).1) F H hp
theorem cgo {α : Type} {r : Rp α} {B : Nat} {E : TypeId} {l : List α} (hk : Tk L (gl B r E v l) M) (K : Sv v → CH P n w0 Q X D L e c) : CH P n w0 Q X D L e c := fun F H hp => K (Gl.sv (hp.at hk).1) F H hp
theorem qgo {α : Type} {r : Rp α} {B : Nat} {E : TypeId} {l : List α} {z : Exit} (hk : Tk L (gl B r E v l) M) (K : Sv v → QH n w0 Q X D L e z) : QH n w0 Q X D L e z := fun F H hp => K (Gl.sv (hp.at hk).1) F H hp
theorem tdq (h : Nd D L (dv (rLn N r) v l)) (k : Qn N l.length → Sv v → SH P n w0 ops K X D L e rest) : SH P n w0 ops K X D L e rest := fun F H hp => by
  have h1 := h F H hp.hin hp.hd hp.ok; exact k h1.1 (dv1 h1) F H hp
theorem qdq {x : Exit} (h : Nd D L (dv (rLn N r) v l)) (k : Qn N l.length → Sv v → QH n w0 Q X D L e x) : QH n w0 Q X D L e x := fun F H hp => by
  have h1 := h F H hp.hin hp.hd hp.ok; exact k h1.1 (dv1 h1) F H hp
theorem qwr {k : IntKind} {m : Int} {x : Exit} (h : Wr D L k m) (k' : k.wrap m = m → QH n w0 Q X D L e x) : QH n w0 Q X D L e x := fun F H hp => k' (h F H hp.hin hp.hd hp.ok) F H hp
end
end Go.JE
