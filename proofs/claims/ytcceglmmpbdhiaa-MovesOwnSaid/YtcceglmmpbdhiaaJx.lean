/- The walking engine: queues (a slice of one's own that is cut in front), and rows of rows. Conditions: each rule names its own; lemmas over any program. -/
import Derived.Test.YtcceglmmpbdhiaaJw
import Derived.ArgAppend
namespace Go.JE
set_option linter.unusedVariables false
set_option linter.unusedSimpArgs false
set_option linter.unusedSectionVars false
variable {P : Program} {e : Env} {H : Heap}

/- ---------------------------------------------- a window on a row of one's own -/
def Wn {α : Type} (r : Rp α) (T : TypeId) (F : PH) (H : Heap) (B : Nat) (v : Value) (l : List α) : Prop :=
  ∃ g o cap cur, v = .slice (some ⟨g, o, none⟩) l.length cap ∧ B ≤ g ∧ F g = none ∧ H[g]? = some (.cells cur T (0, 0)) ∧ l.length ≤ cap ∧ cap ≤ maxLen ∧ o + cap ≤ cur.size ∧ ∀ i (hi : i < l.length), r.rv F (cur.getD (o + i) undef) l[i]
section
variable {α : Type} {r : Rp α} {T : TypeId} {F G : PH} {B : Nat} {v : Value} {l : List α}
theorem Wn.ext (h : Wn r T F H B v l) (he : PH.ext H F G) : Wn r T G H B v l := by
  obtain ⟨g, o, cap, cur, h1, h2, h3, h4, h5, h6, h7, h8⟩ := h
  exact ⟨g, o, cap, cur, h1, h2, he.no h3 (Array.getElem?_eq_some_iff.1 h4).1, h4, h5, h6, h7, fun i hi => (h8 i hi).up he.1⟩
theorem Wn.of {H' : Heap} (h : Wn r T F H B v l) (hk : ∀ k, v.ownBlock = some k → H'[k]? = H[k]?) : Wn r T F H' B v l := by
  obtain ⟨g, o, cap, cur, rfl, h2, h3, h4, h5⟩ := h
  exact ⟨g, o, cap, cur, rfl, h2, h3, (hk g rfl).trans h4, h5⟩
theorem Wn.blk (h : Wn r T F H B v l) : ∀ k, v.ownBlock = some k → B ≤ k ∧ k < H.size := by
  obtain ⟨g, o, cap, cur, rfl, h2, h3, h4, h5⟩ := h
  intro k hk; simp [Value.ownBlock] at hk; subst hk; exact ⟨h2, (Array.getElem?_eq_some_iff.1 h4).1⟩
theorem Wn.lt (h : Wn r T F H B v l) : ∀ k, v.ownBlock = some k → k < H.size := fun k hk => (h.blk k hk).2
theorem Wn.ge (h : Wn r T F H B v l) : ∀ k, v.ownBlock = some k → B ≤ k := fun k hk => (h.blk k hk).1
theorem Wn.no (h : Wn r T F H B v l) : ∀ k, v.ownBlock = some k → F k = none := by
  obtain ⟨g, o, cap, cur, rfl, h2, h3, h4, h5⟩ := h
  intro k hk; simp [Value.ownBlock] at hk; subst hk; exact h3
theorem Wn.kp {H' : Heap} (h : Wn r T F H B v l) (hk : Kp H.size H H') : Wn r T F H' B v l := h.of fun k e1 => hk.2 k (h.blk k e1).2
theorem Wn.tw {b : Nat} {H' : Heap} (h : Wn r T F H B v l) (ht : Tw b H H') (hb : v.ownBlock ≠ some b) : Wn r T F H' B v l := h.of fun k e1 => ht.2 k (by rintro rfl; exact hb e1)
theorem Wn.neBx {g : Nat} {T' : TypeId} {xs : List Value} (h : Wn r T F H B v l) (hb : Bx H g T' xs) (hT : T ≠ T') : v.ownBlock ≠ some g := by
  obtain ⟨g', o, cap, cur, rfl, h2, h3, h4, h5⟩ := h
  intro e1; simp [Value.ownBlock] at e1; subst e1
  unfold Bx at hb; rw [h4] at hb; injection hb with h1; injection h1 with _ h1 _; exact hT h1
theorem Gl.wn (h : Gl r T F H B v l) (hs : r.sz = 1) (hn : 0 < l.length) : Wn r T F H B v l := by
  obtain ⟨xs, h1, h2, h3⟩ := h
  rcases h1.2 with ⟨rfl, h0⟩ | ⟨g, cap, cur, rfl, hb, hg, hc1, hc2, hc3, hc4⟩
  · omega
  · refine ⟨g, 0, cap, cur, rfl, hb, h2 g rfl, hg, hc1, hc2, by rw [hc3, hs]; omega, fun i hi => ?_⟩
    have h4 := h3 i hi
    rw [hs, Nat.mul_one] at h4
    have h5 : cur.getD (0 + i) undef = xs.getD i undef := by
      rw [← hc4, Nat.zero_add, hs, Nat.mul_one]
      simp [List.getD, hi]
    rw [h5]
    exact r.ext (fun j hj => by rw [show j = 0 by omega]; rfl) h4
theorem OpOk.lenW {E : TypeId} {x : Operand} (hT : P.underlying T = some (.slice E)) (hs : Wn r E F H B v l) (hx : ev e x = some v) : OpOk P e (.call { callee := .builtin .len, args := #[x], argTypes := #[T] }) H (.int .i64 (l.length : Nat)) := by
  obtain ⟨g, o, cap, cur, rfl, _⟩ := hs
  exact OpOk.lenS hT hx
theorem OpOk.idxW {E : TypeId} {x ix' : Operand} {k : IntKind} {I : Int} {i : Nat} (hT : P.underlying T = some (.slice E)) (hE : Sz P E 1) (hs : Wn r E F H B v l) (hx : ev e x = some v) (hi : ev e ix' = some (.int k I)) (hI : I = i) (h1 : i < l.length) :
    OpOk P e (.indexAddr T x ix') H (.pointer (some ⟨vblk v, voff v + i * 1, none⟩)) := by
  obtain ⟨g, o, cap, cur, rfl, _⟩ := hs
  subst hI
  have := OpOk.indexA (H := H) hT hE hx hi (by omega) (by omega)
  simpa [vblk, voff] using this
theorem Wn.hc [Inhabited α] (h : Wn r T F H B v l) {i : Nat} (hi : i < l.length) : ∃ u, hc H (vblk v) (voff v + i * 1) = some u ∧ r.rv F u (ix l i) := by
  obtain ⟨g, o, cap, cur, rfl, h2, h3, h4, h5, h6, h7, h8⟩ := h
  refine ⟨_, ?_, by rw [ix_eq hi]; exact h8 i hi⟩
  have : o + i < cur.size := by omega
  simp [vblk, voff, JE.hc, h4, Array.getD, this]
theorem OpOk.ldWI {k : IntKind} {x : Operand} {l : List Int} {E : TypeId} {i : Nat} (h : Wn (rI k) E F H B v l) (hi : i < l.length) (hT : One P T) (hx : ev e x = some (.pointer (some ⟨vblk v, voff v + i * 1, none⟩))) : OpOk P e (.load T x) H (.int k (ix l i)) := by
  obtain ⟨u, h1, h2⟩ := h.hc hi
  rw [show u = _ from h2.1] at h1
  exact OpOk.load hT hx rfl h1
/-- cut in front -/
theorem OpOk.sliceW {E : TypeId} {x lx : Operand} {k : IntKind} {I : Int} {lo : Nat} (hT : P.underlying T = some (.slice E)) (hE : Sz P E 1) (hs : Wn r E F H B v l) (hx : ev e x = some v) (hl : ev e lx = some (.int k I)) (hI : I = lo) (h2 : lo ≤ l.length) :
    ∃ u, OpOk P e (.slice T x (some lx) none none) H u ∧ u.ownBlock = v.ownBlock ∧ Wn r E F H B u (l.drop lo) := by
  subst hI
  obtain ⟨g, o, cap, cur, rfl, h3, h4, h5, h6, h7, h8, h9⟩ := hs
  refine ⟨.slice (some ⟨g, if cap = lo then o else o + lo, none⟩) (l.length - lo) (cap - lo), ?_, rfl, g, if cap = lo then o else o + lo, cap - lo, cur, by simp, h3, h4, h5, by simp; omega, by omega, by split <;> omega, fun i hi => ?_⟩
  · intro ρ o' w ho hev _
    have b2 := sliceBound_ok (P := P) (k := k) (i := (lo : Int)) (y := l.length) (c := .sliceB) (by omega) (by omega) w
    simp only [Int.toNat_natCast] at b2
    have ha : (if cap = lo then (some ⟨g, o, none⟩ : Option Addr) else (some ⟨g, o, none⟩ : Option Addr).map (·.add (lo * 1))) = some ⟨g, if cap = lo then o else o + lo, none⟩ := by
      split
      · rfl
      · simp [Addr.add_none]
    simp [execOp, ho, hev _ _ hx, hev _ _ hl, Instr.sliceAt, Instr.slice, Instr.sliceBounds, run_underlying hT, b2, hE.run]
    split
    · rename_i hc; simp [hc]
    · rename_i hc; simp [hc, Addr.add_none]
  · have hlt : lo < cap := by simp at hi; omega
    rw [if_neg (by omega), List.getElem_drop]
    have := h9 (lo + i) (by simp at hi; omega)
    rw [← Nat.add_assoc] at this; exact this
theorem OpCh.appW {E : TypeId} {x y : Operand} {bytes b m : Nat} {z u : Value} {a : α} (hT : P.underlying T = some (.slice E)) (hE : (P.info? E).map (fun i => (i.zero, i.size, i.bytes)) = some (some z, 1, bytes)) (hby : bytes ≤ 8192) (hz : z.cells.size = 1) (hs : r.sz = 1)
    (hx : ev e x = some v) (hy : ev e y = some (.slice (some ⟨b, 0, none⟩) 1 m)) (hu : hc H b 0 = some u) (hra : r.rv F u a) (hown : Wn r E F H B v l) (hin : InH F H) (hb : l.length < 4294967295) (hB : B ≤ H.size) :
    OpCh P e (.call { callee := .builtin .append, args := #[x, y], argTypes := #[T, T] }) H (fun v' H' => Wn r E F H' B v' (l ++ [a]) ∧ GrownBy H H' v.ownBlock ∧ (v'.ownBlock = v.ownBlock ∨ v'.ownBlock = some H.size)) := by
  have ho1 := hra.one1 (by omega)
  obtain ⟨g, o, cap, cur, rfl, h3, h4, h5, h6, h7, h8, h9⟩ := hown
  intro ρ oo w ho hev hw
  subst hw
  obtain ⟨i, hi, hz0, hz1, hz2⟩ := info_parts hE
  have hnews : ∀ j q, [u][j]? = some q → w.cell? ((⟨b, 0, none⟩ : Addr).add j) = some q := by
    intro j q hq
    have hj : j = 0 := by have := (List.getElem?_eq_some_iff.1 hq).1; simp at this; exact this
    subst hj
    simp at hq; subst hq
    rw [Addr.add_none, cell_hc]; exact hu
  have h1 : ∀ q ∈ [u], q.oneCell' = true := by intro q hq; simp at hq; subst hq; exact ho1
  by_cases hroom : l.length + 1 ≤ cap
  · have hcell : ∀ j, j < [u].length → (w.cell? ⟨g, o + l.length * i.size + j, none⟩).isSome = true := by
      intro j hj
      rw [cell_hc, hz1]
      have hj0 : j = 0 := by simpa using hj
      subst hj0
      have : o + l.length * 1 + 0 < cur.size := by omega
      simp only [hc, h5]
      rw [Array.getElem?_eq_getElem this]; rfl
    have hfr : ∀ j, j < [u].length → w.frozen? ⟨g, o + l.length * i.size + j, none⟩ = false := by intro j _; simp [World.frozen?, h5]
    have hr := run_append_room_cells (P := P) w T oo.type E i hT hi g o l.length cap ⟨b, 0, none⟩ 1 m [u] (by simp [hz1]) hnews h1 hroom hcell hfr
    have hsc : (w.setCells g (o + l.length * i.size) [u]).heap = setc w.heap g (o + l.length) u := by
      simp only [World.setCells, hz1, Nat.mul_one]
      exact setCell_setc
    refine ⟨.slice (some ⟨g, o, none⟩) (l.length + 1) cap, w.setCells g (o + l.length * i.size) [u], .inl (by simp [execOp, ho, hev _ _ hx, hev _ _ hy, resolve, invoke, builtin, hr]), rfl, rfl, rfl, ?_, ?_, .inl rfl⟩
    · refine ⟨g, o, cap, cur.setIfInBounds (o + l.length) u, by simp, h3, h4, ?_, by simp; omega, h7, by simp; omega, fun j hj => ?_⟩
      · rw [hsc]
        simp only [setc, Array.getElem?_modify, if_true, h5, Option.map_some]
      · by_cases hjl : j < l.length
        · rw [List.getElem_append_left hjl]
          have := h9 j hjl
          rw [show (cur.setIfInBounds (o + l.length) u).getD (o + j) undef = cur.getD (o + j) undef by
            simp only [Array.getD_eq_getD_getElem?]; rw [Array.getElem?_setIfInBounds_ne (by omega)]]
          exact this
        · have hj2 : j = l.length := by simp at hj; omega
          subst hj2
          rw [List.getElem_append_right (Nat.le_refl _)]
          simp only [Nat.sub_self, List.getElem_cons_zero]
          have : o + l.length < cur.size := by omega
          rw [show (cur.setIfInBounds (o + l.length) u).getD (o + l.length) undef = u by simp [Array.getD_eq_getD_getElem?, this]]
          exact hra
    · rw [hsc]
      exact ⟨by rw [size_setc]; exact Nat.le_refl _, fun k hk hne => setc_other (by rintro rfl; exact hne rfl)⟩
  · have holds : ∀ j q, ((List.range l.length).map fun j => cur.getD (o + j) undef)[j]? = some q → w.cell? ((⟨g, o, none⟩ : Addr).add j) = some q := by
      intro j q hq
      have hj : j < l.length := by have := (List.getElem?_eq_some_iff.1 hq).1; simpa using this
      have hq2 : cur.getD (o + j) undef = q := by simpa [hj] using hq
      rw [Addr.add_none, cell_hc]
      have : o + j < cur.size := by omega
      rw [← hq2]
      simp [hc, h5, Array.getD, this]
    have hmul : (l.length + 1) * bytes ≤ 4294967295 * 8192 := Nat.mul_le_mul (by omega) hby
    obtain ⟨v', w', hr, hown', hgr⟩ := run_append_arg_grows (P := P) w T oo.type E i z 1 bytes hT hi hz0 hz1 hz2 hz (by omega) ⟨g, o, none⟩ l.length cap ((List.range l.length).map fun j => cur.getD (o + j) undef) (by simp) holds
      ⟨b, 0, none⟩ 1 m [u] (by simp) hnews (by omega) (by unfold maxLen; omega) (by omega)
    refine ⟨v', w', .inl (by simp [execOp, ho, hev _ _ hx, hev _ _ hy, resolve, invoke, builtin, hr]), hgr.os, hgr.tape, hgr.output, ?_, ⟨hgr.size, fun k hk _ => hgr.block k hk (by simp)⟩, ?_⟩
    · have hl1 : l.length + 1 = (l ++ [a]).length := by simp
      have hg : Gl r E F w'.heap w.heap.size v' (l ++ [a]) := by
        refine ⟨((List.range l.length).map fun j => cur.getD (o + j) undef) ++ [u], by rw [← hl1, hs]; exact hown', fun k hk => hin.nope ?_, fun j hj => ?_⟩
        · have hg2 : Gr w'.heap w.heap.size E 1 v' (l.length + 1) _ := hown'
          exact (hg2.blk k hk).1
        · rw [hs, Nat.mul_one]
          by_cases hjl : j < l.length
          · rw [List.getElem_append_left hjl]
            refine r.ext (fun q hq => ?_) (h9 j hjl)
            rw [show q = 0 by omega]
            simp [List.getD, List.getElem?_append_left, hjl]
          · have hj2 : j = l.length := by simp at hj; omega
            subst hj2
            rw [List.getElem_append_right (Nat.le_refl _)]
            simp only [Nat.sub_self, List.getElem_cons_zero]
            refine r.ext (fun q hq => ?_) hra
            rw [show q = 0 by omega]
            simp [List.getD, List.getElem?_append_right]
      exact (hg.base hB).wn hs (by simp)
    · have hg2 : Gr w'.heap w.heap.size E 1 v' (l.length + 1) _ := hown'
      obtain ⟨g2, c2, rfl, hge, hlt⟩ := hg2.own (by omega)
      right
      rcases hown'.2 with ⟨h0, _⟩ | ⟨g3, cap3, cur3, h0, hge3, hg3, _⟩
      · cases h0
      · have hr2 := run_append_grow (P := P) w T oo.type E i z hT hi hz0 ⟨g, o, none⟩ l.length cap ((List.range l.length).map fun j => cur.getD (o + j) undef) (by simp [hz1]) holds ⟨b, 0, none⟩ 1 m [u] (by simp [hz1]) hnews (by omega) (by omega) (growslice_fits (by omega) (by rw [hz2]; omega))
        rw [hr2] at hr
        injection hr with h11 _
        rw [← h11]; rfl
end

/- ---------------------------------------------- rows of rows -/
structure Mx {α : Type} (r : Rp α) (T To : TypeId) (F : PH) (H : Heap) (B : Nat) (v : Value) (vs : List Value) (ls : List (List α)) : Prop where
  len : vs.length = ls.length
  outer : ∃ g cap cur, v = .slice (some ⟨g, 0, none⟩) ls.length cap ∧ B ≤ g ∧ F g = none ∧ H[g]? = some (.cells cur To (0, 0)) ∧ ls.length ≤ cap ∧ ls.length ≤ cur.size ∧ ls.length ≤ 1073741823 ∧ ∀ i, i < ls.length → cur[i]? = some (vs.getD i undef)
  row : ∀ i, i < ls.length → Gl r T F H B (vs.getD i undef) (ls.getD i [])
  apart : ∀ i j, i < ls.length → j < ls.length → i ≠ j → ∀ k, (vs.getD i undef).ownBlock = some k → (vs.getD j undef).ownBlock ≠ some k
instance : Inhabited Value := ⟨undef⟩
section
variable {α : Type} {r : Rp α} {T To : TypeId} {F G : PH} {B : Nat} {v : Value} {vs : List Value} {ls : List (List α)}
theorem Mx.of {H' : Heap} (h : Mx r T To F H B v vs ls) (hv : ∀ k, v.ownBlock = some k → H'[k]? = H[k]?) (hr : ∀ i, i < ls.length → ∀ k, (vs.getD i undef).ownBlock = some k → H'[k]? = H[k]?) : Mx r T To F H' B v vs ls := by
  obtain ⟨h1, ⟨g, cap, cur, rfl, h2, h3, h4, h5⟩, h6, h7⟩ := h
  exact ⟨h1, ⟨g, cap, cur, rfl, h2, h3, (hv g rfl).trans h4, h5⟩, fun i hi => (h6 i hi).of (hr i hi), h7⟩
theorem Mx.base {B' : Nat} (h : Mx r T To F H B v vs ls) (hB : B' ≤ B) : Mx r T To F H B' v vs ls := by
  obtain ⟨h1, ⟨g, cap, cur, e1, h2, h3⟩, h6, h7⟩ := h
  exact ⟨h1, ⟨g, cap, cur, e1, by omega, h3⟩, fun i hi => (h6 i hi).base hB, h7⟩
theorem Mx.blk (h : Mx r T To F H B v vs ls) : ∀ k, v.ownBlock = some k → B ≤ k ∧ k < H.size := by
  obtain ⟨h1, ⟨g, cap, cur, rfl, h2, h3, h4, h5⟩, h6, h7⟩ := h
  intro k hk; simp [Value.ownBlock] at hk; subst hk; exact ⟨h2, (Array.getElem?_eq_some_iff.1 h4).1⟩
theorem Mx.kp {H' : Heap} (h : Mx r T To F H B v vs ls) (hk : Kp H.size H H') : Mx r T To F H' B v vs ls := h.of (fun k e1 => hk.2 k (h.blk k e1).2) (fun i hi k e1 => hk.2 k ((h.row i hi).blk k e1).2)
theorem Mx.ext (h : Mx r T To F H B v vs ls) (he : PH.ext H F G) : Mx r T To G H B v vs ls := by
  obtain ⟨h1, ⟨g, cap, cur, rfl, h2, h3, h4, h5⟩, h6, h7⟩ := h
  exact ⟨h1, ⟨g, cap, cur, rfl, h2, he.no h3 (Array.getElem?_eq_some_iff.1 h4).1, h4, h5⟩, fun i hi => (h6 i hi).ext he, h7⟩
theorem Mx.neBx {g : Nat} {T' : TypeId} {xs : List Value} (h : Mx r T To F H B v vs ls) (hb : Bx H g T' xs) (hT : To ≠ T') : v.ownBlock ≠ some g := by
  obtain ⟨h1, ⟨g', cap, cur, rfl, h2, h3, h4, h5⟩, h6, h7⟩ := h
  intro e1; simp [Value.ownBlock] at e1; subst e1
  unfold Bx at hb; rw [h4] at hb; injection hb with h1; injection h1 with _ h1 _; exact hT h1
theorem Mx.tw {H' : Heap} {g : Nat} {T' : TypeId} {xs : List Value} (h : Mx r T To F H B v vs ls) (ht : Tw g H H') (hb : Bx H g T' xs) (h1 : To ≠ T') (h2 : T ≠ T') : Mx r T To F H' B v vs ls :=
  h.of (fun k e1 => ht.2 k (by rintro rfl; exact h.neBx hb h1 e1)) (fun i hi k e1 => ht.2 k (by rintro rfl; exact (h.row i hi).neBx hb h2 e1))
theorem Gl.neGl {β : Type} {s : Rp β} {E E' : TypeId} {B' : Nat} {v' : Value} {l : List α} {l' : List β} (h : Gl r E F H B v l) (h' : Gl s E' G H B' v' l') (hT : E ≠ E') : ∀ k, v.ownBlock = some k → v'.ownBlock ≠ some k := by
  obtain ⟨xs, h1, _⟩ := h
  obtain ⟨ys, h2, _⟩ := h'
  intro k e1 e2
  rcases h1.2 with ⟨rfl, _⟩ | ⟨g, cap, cur, rfl, _, hg, _⟩
  · cases e1
  · rcases h2.2 with ⟨rfl, _⟩ | ⟨g', cap', cur', rfl, _, hg', _⟩
    · cases e2
    · simp [Value.ownBlock] at e1 e2; subst e1; subst e2
      rw [hg] at hg'; injection hg' with h3; injection h3 with _ h3 _; exact hT h3
theorem OpOk.lenM {Ts : TypeId} {x : Operand} (hT : P.underlying Ts = some (.slice To)) (hs : Mx r T To F H B v vs ls) (hx : ev e x = some v) : OpOk P e (.call { callee := .builtin .len, args := #[x], argTypes := #[Ts] }) H (.int .i64 (ls.length : Nat)) := by
  obtain ⟨h1, ⟨g, cap, cur, rfl, _⟩, _⟩ := hs
  exact OpOk.lenS hT hx
theorem OpOk.idxMx {H' : Heap} {Ts : TypeId} {x ix' : Operand} {k : IntKind} {I : Int} {i : Nat} (hT : P.underlying Ts = some (.slice To)) (hE : Sz P To 1) (hs : Mx r T To F H' B v vs ls) (hx : ev e x = some v) (hi : ev e ix' = some (.int k I)) (hI : I = i) (h1 : i < ls.length) :
    OpOk P e (.indexAddr Ts x ix') H (.pointer (some ⟨vblk v, voff v + i * 1, none⟩)) := by
  obtain ⟨_, ⟨g, cap, cur, rfl, _⟩, _⟩ := hs
  subst hI
  have := OpOk.indexA (H := H) hT hE hx hi (by omega) (by omega)
  simpa [vblk, voff] using this
theorem OpOk.ldMx {Te : TypeId} {x : Operand} {i : Nat} (h : Mx r T To F H B v vs ls) (hi : i < ls.length) (hT : One P Te) (hx : ev e x = some (.pointer (some ⟨vblk v, voff v + i * 1, none⟩))) : OpOk P e (.load Te x) H (vs.getD i undef) := by
  obtain ⟨_, ⟨g, cap, cur, rfl, _, _, h4, _, _, _, h7⟩, _⟩ := h
  refine OpOk.load hT hx rfl ?_
  have h9 := h7 i hi
  simp [vblk, voff, hc, h4, h9]
theorem OpCh.makeMx {Ts : TypeId} {x y : Operand} {bytes n : Nat} {I J : Int} (hT : P.underlying Ts = some (.slice To)) (hE : (P.info? To).map (fun i => (i.zero, i.size, i.bytes)) = some (some (.slice none 0 0), 1, bytes))
    (hx : ev e x = some (.int .i64 I)) (hy : ev e y = some (.int .i64 J)) (hI : I = n) (hJ : J = n) (h1 : bytes * n ≤ 281474976710656) (h2 : n ≤ 1073741823) :
    OpCh P e (.makeSlice Ts x y) H (fun u H' => ∃ g, u = .slice (some ⟨g, 0, none⟩) n n ∧ g = H.size ∧ H'.size = H.size + 1 ∧ Kp H.size H H' ∧ (InH F H → Mx r T To F H' H.size (.slice (some ⟨g, 0, none⟩) n n) (List.replicate n (.slice none 0 0)) (List.replicate n []))) := by
  subst hI; subst hJ
  intro ρ o w ho hev hw
  obtain ⟨v', w', g1, g2, g3, g4, rfl, g6, g7, c, g8, g9, g10⟩ := OpCh.make (P := P) hT hE rfl hx hy h1 (by omega) ρ o w ho hev hw
  refine ⟨_, w', g1, g2, g3, g4, H.size, rfl, rfl, g6, ⟨by omega, g7⟩, fun hin => ⟨by simp, ⟨H.size, n, c, by simp, Nat.le_refl _, hin.nope (Nat.le_refl _), g8, by simp, by simp; omega, by simp; omega, fun i hi => ?_⟩, fun i hi => ?_, fun i j hi hj _ k hk => ?_⟩⟩
  · simp only [List.length_replicate] at hi
    rw [g10 i hi]; simp [List.getD, hi]
  · simp only [List.length_replicate] at hi
    simp only [List.getD, List.getElem?_replicate, hi, if_true, Option.getD_some]
    exact Gl.nil _ _ _
  · simp only [List.length_replicate] at hi
    simp [List.getD, hi, Value.ownBlock] at hk
/-- row i grew; then its place is written -/
theorem OpCh.storeMx {H0 : Heap} {Te : TypeId} {x y : Operand} {i : Nat} {v' : Value} {l' : List α} (h : Mx r T To F H0 B v vs ls) (hi : i < ls.length) (hTT : T ≠ To) (hg : Gl r T F H B v' l') (hgb : GrownBy H0 H (vs.getD i undef).ownBlock) (hob : v'.ownBlock = (vs.getD i undef).ownBlock ∨ ∃ g, v'.ownBlock = some g ∧ H0.size ≤ g)
    (hT : Sz P Te 1) (hx : ev e x = some (.pointer (some ⟨vblk v, voff v + i * 1, none⟩))) (hy : ev e y = some v') :
    OpCh P e (.store Te x y) H (fun _ H' => ∃ g cur, v.ownBlock = some g ∧ F g = none ∧ B ≤ g ∧ H[g]? = some (.cells cur To (0, 0)) ∧ Tw g H H' ∧ Mx r T To F H' B v (vs.set i v') (ls.set i l')) := by
  have hone := hg.one1
  have h' := h
  obtain ⟨h1, ⟨g, cap, cur, rfl, h2, h3, h4, h5, h6, h7, h8⟩, h9, h10⟩ := h
  have hlt : g < H0.size := (Array.getElem?_eq_some_iff.1 h4).1
  have hrowne : ∀ j, j < ls.length → (vs.getD j undef).ownBlock ≠ some g := by
    intro j hj e1
    obtain ⟨xs, k1, _⟩ := h9 j hj
    rcases k1.2 with ⟨e2, _⟩ | ⟨g', cap', cur', e2, _, hg', _⟩
    · rw [e2] at e1; cases e1
    · rw [e2] at e1; simp [Value.ownBlock] at e1; subst e1
      rw [h4] at hg'; injection hg' with k3; injection k3 with _ k3 _; exact hTT k3.symm
  have hout : H[g]? = some (.cells cur To (0, 0)) := by rw [hgb.2 g hlt (fun e1 => hrowne i hi e1.symm)]; exact h4
  have hx' : ev e x = some (.pointer (some ⟨g, i, none⟩)) := by rw [hx]; simp [vblk, voff]
  have hrow : Rw H g To cur.size (fun j => cur.getD j undef) := ⟨cur, hout, rfl, fun j hj => by simp [Array.getD, hj]⟩
  intro ρ o w ho hev hw
  obtain ⟨u, w', k1, k2, k3, k4, k5⟩ := OpCh.store (P := P) hT hx' hy hone hrow (show i < cur.size by omega) ρ o w ho hev hw
  have htw : Tw g H w'.heap := by rw [k5]; exact ⟨size_setc, fun k hk => setc_other hk⟩
  have hv'ne : v'.ownBlock ≠ some g := by
    rcases hob with e1 | ⟨g2, e1, e2⟩
    · rw [e1]; exact hrowne i hi
    · rw [e1]; intro e3; injection e3 with e3; omega
  have hvi : i < vs.length := by omega
  have hvs : ∀ j, (vs.set i v').getD j undef = if j = i then v' else vs.getD j undef := by
    intro j
    by_cases e1 : j = i
    · subst e1; rw [if_pos rfl]; simp [List.getD, hvi]
    · rw [if_neg e1]; simp [List.getD, List.getElem?_set_ne (Ne.symm e1)]
  have hls : ∀ j, (ls.set i l').getD j [] = if j = i then l' else ls.getD j [] := by
    intro j
    by_cases e1 : j = i
    · subst e1; rw [if_pos rfl]; simp [List.getD, hi]
    · rw [if_neg e1]; simp [List.getD, List.getElem?_set_ne (Ne.symm e1)]
  refine ⟨u, w', k1, k2, k3, k4, g, cur, rfl, h3, h2, hout, htw, by simp [h1], ⟨g, cap, cur.setIfInBounds i v', by simp, h2, h3, ?_, by simpa using h5, by simpa using h6, by simpa using h7, fun j hj => ?_⟩, fun j hj => ?_, fun a b ha hb hab k hk => ?_⟩
  · rw [k5]; simp only [setc, Array.getElem?_modify, if_true, hout, Option.map_some]
  · rw [hvs j]
    simp only [List.length_set] at hj
    by_cases e1 : j = i
    · subst e1; rw [if_pos rfl, Array.getElem?_setIfInBounds_self_of_lt (by omega)]
    · rw [if_neg e1, Array.getElem?_setIfInBounds_ne (Ne.symm e1)]; exact h8 j hj
  · simp only [List.length_set] at hj
    rw [hvs j, hls j]
    by_cases e1 : j = i
    · subst e1; rw [if_pos rfl, if_pos rfl]; exact hg.tw htw hv'ne
    · rw [if_neg e1, if_neg e1]
      refine (h9 j hj).of (fun k hk => ?_)
      rw [htw.2 k (by rintro rfl; exact hrowne j hj hk)]
      exact hgb.2 k ((h9 j hj).blk k hk).2 (fun e2 => h10 j i hj hi e1 k hk e2.symm)
  · simp only [List.length_set] at ha hb
    rw [hvs] at hk; rw [hvs]
    by_cases e1 : a = i
    · subst e1
      rw [if_pos rfl] at hk; rw [if_neg (Ne.symm hab)]
      rcases hob with e2 | ⟨g2, e2, e3⟩
      · exact h10 a b ha hb hab k (by rw [← e2]; exact hk)
      · rw [e2] at hk; injection hk with hk; subst hk
        intro e4; have := ((h9 b hb).blk _ e4).2; omega
    · rw [if_neg e1] at hk
      by_cases e2 : b = i
      · subst e2
        rw [if_pos rfl]
        rcases hob with e3 | ⟨g2, e3, e4⟩
        · rw [e3]; exact h10 a b ha hb hab k hk
        · rw [e3]; intro e5; injection e5 with e5; subst e5
          have := ((h9 a ha).blk _ hk).2; omega
      · rw [if_neg e2]; exact h10 a b ha hb hab k hk
theorem Bx.neCells {g g' : Nat} {T' E : TypeId} {xs : List Value} {cur : Array Value} (hb : Bx H g' T' xs) (hc : H[g]? = some (.cells cur E (0, 0))) (hT : T' ≠ E) : g' ≠ g := by
  rintro rfl; unfold Bx at hb; rw [hb] at hc; injection hc with h1; injection h1 with _ h1 _; exact hT h1
theorem Gl.neCells {g : Nat} {E E' : TypeId} {l : List α} {cur : Array Value} (h : Gl r E F H B v l) (hc : H[g]? = some (.cells cur E' (0, 0))) (hT : E ≠ E') : v.ownBlock ≠ some g := by
  obtain ⟨xs, h1, _⟩ := h
  intro e1
  rcases h1.2 with ⟨rfl, _⟩ | ⟨g', cap, cur', rfl, _, hg, _⟩
  · cases e1
  · simp [Value.ownBlock] at e1; subst e1; rw [hg] at hc; injection hc with h3; injection h3 with _ h3 _; exact hT h3
theorem Wn.neGl {β : Type} {s : Rp β} {E E' : TypeId} {B' : Nat} {v' : Value} {l : List α} {l' : List β} (h : Wn r E F H B v l) (h' : Gl s E' G H B' v' l') (hT : E ≠ E') : ∀ k, v.ownBlock = some k → v'.ownBlock ≠ some k := by
  obtain ⟨g, o, cap, cur, rfl, _, _, h4, _⟩ := h
  intro k e1
  simp [Value.ownBlock] at e1; subst e1
  exact h'.neCells h4 (Ne.symm hT)
theorem Gl.gext {E : TypeId} {l : List α} (h : Gl r E F H B v l) (hl : F.le G) (hG : ∀ k, v.ownBlock = some k → G k = F k) : Gl r E G H B v l := by
  obtain ⟨xs, h1, h2, h3⟩ := h
  exact ⟨xs, h1, fun k hk => (hG k hk).trans (h2 k hk), fun i hi => r.up hl (h3 i hi)⟩
theorem Mx.neG {β : Type} {s : Rp β} {E' : TypeId} {B' : Nat} {v' : Value} {l' : List β} (h : Mx r T To F H B v vs ls) (h' : Gl s E' G H B' v' l') (h1 : To ≠ E') (h2 : T ≠ E') : ∀ k, v'.ownBlock = some k → v.ownBlock ≠ some k ∧ ∀ i, i < ls.length → (vs.getD i undef).ownBlock ≠ some k := by
  intro k hk
  refine ⟨fun e1 => ?_, fun i hi e1 => (h.row i hi).neGl h' h2 k e1 hk⟩
  obtain ⟨_, ⟨g, cap, cur, rfl, _, _, h4, _⟩, _⟩ := h
  simp [Value.ownBlock] at e1; subst e1
  exact h'.neCells h4 (Ne.symm h1) hk
/-- all frozen -/
theorem Mx.freeze {H0 : Heap} {F0 : PH} (h : Mx r T To F H B v vs ls) (hTT : T ≠ To) (hin : InH F H) (hx : PH.ext H0 F0 F) (hB : H0.size ≤ B) (hM : ∀ l ∈ ls, l.length < 1073741824) : ∃ G, PH.ext H0 F0 G ∧ F.le G ∧ InH G H ∧ (∀ k, v.ownBlock ≠ some k → (∀ i, i < ls.length → (vs.getD i undef).ownBlock ≠ some k) → G k = F k) ∧ (rL (rL r)).rv G v ls := by
  have hstep : ∀ n, n ≤ ls.length → ∃ G, PH.ext H0 F0 G ∧ F.le G ∧ InH G H ∧ (∀ k, (∀ i, i < n → (vs.getD i undef).ownBlock ≠ some k) → G k = F k) ∧ ∀ i, i < n → (rL r).rv G (vs.getD i undef) (ls.getD i []) := by
    intro n
    induction n with
    | zero => exact fun _ => ⟨F, hx, PH.le.refl F, hin, fun _ _ => rfl, fun i hi => by omega⟩
    | succ n ih =>
      intro hn
      obtain ⟨G, g1, g2, g3, g4, g5⟩ := ih (by omega)
      have hrow : Gl r T G H B (vs.getD n undef) (ls.getD n []) := by
        obtain ⟨xs, k1, k2, k3⟩ := h.row n (by omega)
        refine ⟨xs, k1, fun k hk => ?_, fun i hi => r.up g2 (k3 i hi)⟩
        rw [g4 k (fun i hi e1 => h.apart i n (by omega) (by omega) (by omega) k e1 hk)]
        exact k2 k hk
      have hmem : ls.getD n [] ∈ ls := by
        have : n < ls.length := by omega
        simp [List.getD, this]
      obtain ⟨G', f1, f2, f3, f4, f5⟩ := hrow.freezeX g3 g1 hB (hM _ hmem)
      refine ⟨G', f1, g2.trans f2, f3, fun k hk => ?_, fun i hi => ?_⟩
      · rw [f4 k (hk n (by omega))]; exact g4 k (fun i hi => hk i (by omega))
      · by_cases e1 : i = n
        · subst e1; exact f5
        · exact (g5 i (by omega)).up f2
  obtain ⟨G, g1, g2, g3, g4, g5⟩ := hstep ls.length (Nat.le_refl _)
  have h' := h
  obtain ⟨h1, ⟨g, cap, cur, rfl, h2, h3, h4, h5, h6, h7, h8⟩, h9, h10⟩ := h
  have hrowne : ∀ j, j < ls.length → (vs.getD j undef).ownBlock ≠ some g := by
    intro j hj e1
    obtain ⟨xs, k1, _⟩ := h9 j hj
    rcases k1.2 with ⟨e2, _⟩ | ⟨g', cap', cur', e2, _, hg', _⟩
    · rw [e2] at e1; cases e1
    · rw [e2] at e1; simp [Value.ownBlock] at e1; subst e1
      rw [h4] at hg'; injection hg' with k3; injection k3 with _ k3 _; exact hTT k3.symm
  have hgG : G g = none := by rw [g4 g (fun i hi e1 => hrowne i hi e1)]; exact h3
  refine ⟨G.add g (.cells cur To (0, 0)), g1.add hgG (by omega), g2.trans (PH.le_add hgG), g3.add h4, fun k hk hk2 => ?_, ⟨by omega, by omega⟩, _, cap, rfl, h5, fun j hj => ⟨g, 0, rfl⟩, fun j => vs.getD j undef, fun j hj => ?_, fun j hj => ?_⟩
  · unfold PH.add; rw [if_neg (by rintro rfl; exact hk rfl)]; exact g4 k hk2
  · simp only [vblk, voff, pc, PH.add, if_true, Nat.zero_add]
    have hj1 : j < ls.length * 1 := hj
    exact h8 j (by omega)
  · have := (g5 j hj).up (PH.le_add (o := .cells cur To (0, 0)) hgG)
    simp only [List.getD, List.getElem?_eq_getElem hj, Option.getD_some] at this
    refine (rL r).ext (fun q hq => ?_) this
    have hq1 : q < 1 := hq
    have e0 : j * (rL r).sz + q = j := by show j * 1 + q = j; omega
    simp only [e0]; simp [List.getD]
end

/- ---------------------------------------------- guarded operations where the order is drawn -/
section
variable {n : Fs} {w0 : World} {Q : Exit → Act → World → Prop} {l : List Oper} {z : Bool} {S : Heap → Prop} {fuel d : Nat} {listed : Array Bool} {op : Op} {ty : TypeId} {pos : String} {af : Array Edge} {p : Value → Prop}
theorem AF.gtakeE (i : Nat) {j t : Nat} {want B : Bool} {u : Value} (hi : l[i]? = some ⟨some d, op, ty, pos, af, some (j, want)⟩) (hs : Region.noSelect l.toArray = true) (hfr : Region.free .any l.toArray listed i = true) (hr : (Region.ready .any l.toArray listed).contains i = true) (hS : S H)
    (hj : (l.toArray[j]?).bind (·.dst) = some t) (hu : lk e t = some u) (hB : Gd u want B) (h : B = true → ∃ v, (∀ H', S H' → OpOk P e op H' v) ∧ p v) (K : ∀ v, (B = true → p v) → AF P n w0 l.toArray Q z S fuel (listed.setIfInBounds i true) ((d, gv B v) :: e) H)
    (hd : Nat.blt d n.sz = true := by rfl) (ht : Nat.blt t n.sz = true := by rfl) (hz : z = false ∨ waits l.toArray listed i = true := by first | exact .inl rfl | exact .inr (by kernel_rfl)) : AF P n w0 l.toArray Q z S (fuel + 1) listed e H := by
  cases B with
  | true => obtain ⟨v, h1, h2⟩ := h rfl; exact AF.gtake i hi hs hfr hr hS hj hu hB (fun _ => h1) (K v fun _ => h2) hd ht hz
  | false => exact AF.gtake (v := undef) i hi hs hfr hr hS hj hu hB (fun h => by cases h) (K undef fun h => by cases h) hd ht hz
theorem AF.gcallR (i : Nat) {j t : Nat} {want B : Bool} {u v0 : Value} {f : FuncId} {args : Array Value} {R : Value → Heap → Prop} (hi : l[i]? = some ⟨some d, op, ty, pos, af, some (j, want)⟩) (hr : Region.ready .any l.toArray listed = [i])
    (hj : (l.toArray[j]?).bind (·.dst) = some t) (hu : lk e t = some u) (hB : Gd u want B) (h : B = true → OpCall P e op H f args) (hc : B = true → Ct P f args H R) (hv : ∀ v H', R v H' → v = v0) (hS : ∀ v H', R v H' → S H') (hS0 : S H)
    (K : ∀ H', (B = true ∧ R v0 H') ∨ (B = false ∧ H' = H) → AF P n w0 l.toArray Q z S fuel (listed.setIfInBounds i true) ((d, gv B v0) :: e) H') (hd : Nat.blt d n.sz = true := by rfl) (ht : Nat.blt t n.sz = true := by rfl) : AF P n w0 l.toArray Q z S (fuel + 1) listed e H := by
  intro a w hf hw
  refine wpAnyH_one hr ?_
  have hwt := wanted_gd (ops := l.toArray) (o := ⟨some d, op, ty, pos, af, some (j, want)⟩) rfl hj ht hf hu hB
  unfold wpOp
  simp only [List.getElem?_toArray, hi]
  cases B with
  | true =>
    rw [if_pos hwt]
    refine .inl ?_
    unfold Oper.wp
    rw [h rfl a.eval _ w rfl (fun x u hx => hf.ev hx) hw.heap, Oper.upon_enter]
    refine (hc rfl w hw.heap).mono fun x w' ⟨v, hx, h1, h2, h3, hR⟩ => ?_
    subst hx
    obtain rfl := hv _ _ hR
    exact ⟨fun _ => hS _ _ hR, K _ (.inl ⟨rfl, hR⟩) _ _ (hf.put hd v) ⟨rfl, h1.trans hw.os, h2.trans hw.tape, h3.trans hw.output⟩⟩
  | false =>
    rw [if_neg (by rw [hwt]; decide)]
    exact ⟨fun _ => hw.heap ▸ hS0, K _ (.inr ⟨rfl, rfl⟩) _ _ (hf.put hd undef) hw⟩
end

theorem GrownBy.kw {W : Nat → Prop} {H0 H' : Heap} {row : Option Nat} (h : Kw W H0 H) (hg : GrownBy H H' row) (hr : ∀ k, row = some k → H0.size ≤ k) : Kw W H0 H' :=
  ⟨Nat.le_trans h.1 hg.1, fun k hk hw => (hg.2 k (by have := h.1; omega) (fun e1 => by have := hr k e1.symm; omega)).trans (h.2 k hk hw)⟩
/- ---------------------------------------------- operations one by one, whichever comes up -/
section
variable {n : Fs} {w0 : World} {Q : Exit → Act → World → Prop} {l : List Oper} {z : Bool} {S : Heap → Prop} {fuel i d : Nat} {listed : Array Bool} {op : Op} {ty : TypeId} {pos : String} {af : Array Edge}
theorem AFN.chg {R : Value → Heap → Prop} (hi : l[i]? = some ⟨some d, op, ty, pos, af, none⟩) (h : OpCh P e op H R)
    (K : ∀ v H', R v H' → S H' ∧ AF P n w0 l.toArray Q z S fuel (listed.setIfInBounds i true) ((d, v) :: e) H') (hd : Nat.blt d n.sz = true := by rfl) : AF.Next P n w0 l Q z S fuel listed e H i := by
  intro a w hf hw
  obtain ⟨v, w', hrun, h1, h2, h3, hR⟩ := h a.eval ⟨some d, op, ty, pos, af, none⟩ w rfl (fun x u hx => hf.ev hx) hw.heap
  have hw' : Wd w0 w'.heap w' := ⟨rfl, h1.trans hw.os, h2.trans hw.tape, h3.trans hw.output⟩
  obtain ⟨k1, k2⟩ := K _ _ hR
  unfold wpOp
  simp only [List.getElem?_toArray, hi]
  rw [if_pos (by simp [Region.wanted])]
  refine .inl ?_
  unfold Oper.wp
  rcases hrun with hrun | ⟨hrun, rfl⟩
  · rw [hrun]; exact ⟨fun _ => k1, k2 _ _ (hf.put hd v) hw'⟩
  · rw [hrun]; exact ⟨fun _ => k1, k2 _ _ (hf.put hd undef) hw'⟩
theorem AFN.chg0 {R : Value → Heap → Prop} (hi : l[i]? = some ⟨none, op, ty, pos, af, none⟩) (h : OpCh P e op H R)
    (K : ∀ v H', R v H' → S H' ∧ AF P n w0 l.toArray Q z S fuel (listed.setIfInBounds i true) e H') : AF.Next P n w0 l Q z S fuel listed e H i := by
  intro a w hf hw
  obtain ⟨v, w', hrun, h1, h2, h3, hR⟩ := h a.eval ⟨none, op, ty, pos, af, none⟩ w rfl (fun x u hx => hf.ev hx) hw.heap
  have hw' : Wd w0 w'.heap w' := ⟨rfl, h1.trans hw.os, h2.trans hw.tape, h3.trans hw.output⟩
  obtain ⟨k1, k2⟩ := K _ _ hR
  unfold wpOp
  simp only [List.getElem?_toArray, hi]
  rw [if_pos (by simp [Region.wanted])]
  refine .inl ?_
  unfold Oper.wp
  rcases hrun with hrun | ⟨hrun, rfl⟩
  · rw [hrun]; exact ⟨fun _ => k1, k2 _ _ hf hw'⟩
  · rw [hrun]; exact ⟨fun _ => k1, k2 _ _ hf hw'⟩
theorem AFN.chg0L {R : Value → Heap → Prop} (hi : l[i]? = some ⟨none, op, ty, pos, af, none⟩) (hl : leftB (listed.setIfInBounds i true) → False) (hz : z = true) (h : OpCh P e op H R)
    (K : ∀ v H', R v H' → AF P n w0 l.toArray Q z S fuel (listed.setIfInBounds i true) e H') : AF.Next P n w0 l Q z S fuel listed e H i := by
  intro a w hf hw
  obtain ⟨v, w', hrun, h1, h2, h3, hR⟩ := h a.eval ⟨none, op, ty, pos, af, none⟩ w rfl (fun x u hx => hf.ev hx) hw.heap
  have hw' : Wd w0 w'.heap w' := ⟨rfl, h1.trans hw.os, h2.trans hw.tape, h3.trans hw.output⟩
  have k2 := K _ _ hR
  unfold wpOp
  simp only [List.getElem?_toArray, hi]
  rw [if_pos (by simp [Region.wanted])]
  refine .inl ?_
  unfold Oper.wp
  have k1 : z = false ∨ leftB (listed.setIfInBounds i true) → S w'.heap := fun h9 => (h9.elim (fun h => by rw [hz] at h; cases h) (fun h => (hl h).elim))
  rcases hrun with hrun | ⟨hrun, rfl⟩
  · rw [hrun]; exact ⟨k1, k2 _ _ hf hw'⟩
  · rw [hrun]; exact ⟨k1, k2 _ _ hf hw'⟩
theorem AFN.stepE {p : Value → Prop} (hi : l[i]? = some ⟨some d, op, ty, pos, af, none⟩) (h : ∃ v, OpOk P e op H v ∧ p v) (hS : S H)
    (K : ∀ v, p v → AF P n w0 l.toArray Q z S fuel (listed.setIfInBounds i true) ((d, v) :: e) H) (hd : Nat.blt d n.sz = true := by rfl) : AF.Next P n w0 l Q z S fuel listed e H i := by
  obtain ⟨v, h1, h2⟩ := h
  exact AFN.chg (R := fun v' H' => v' = v ∧ H' = H) hi (fun ρ o w ho hev hw => ⟨v, w, .inl (h1 ρ o w ho hev hw), rfl, rfl, rfl, rfl, hw⟩) (by rintro _ _ ⟨rfl, rfl⟩; exact ⟨hS, K _ h2⟩) hd
theorem AFN.step {v : Value} (hi : l[i]? = some ⟨some d, op, ty, pos, af, none⟩) (h : OpOk P e op H v) (hS : S H)
    (K : AF P n w0 l.toArray Q z S fuel (listed.setIfInBounds i true) ((d, v) :: e) H) (hd : Nat.blt d n.sz = true := by rfl) : AF.Next P n w0 l Q z S fuel listed e H i :=
  AFN.stepE (p := fun v' => v' = v) hi ⟨v, h, rfl⟩ hS (by rintro _ rfl; exact K) hd
end
section
variable {α : Type} {r : Rp α} {F : PH} {B : Nat} {v : Value} {l : List α} {T E : TypeId}
/-- append of one cell that lies in a literal -/
theorem OpCh.appG1 {x y : Operand} {bytes b m : Nat} {z u : Value} {a : α} (hT : P.underlying T = some (.slice E)) (hE : (P.info? E).map (fun i => (i.zero, i.size, i.bytes)) = some (some z, r.sz, bytes)) (hs : 0 < r.sz ∧ r.sz ≤ 1000 ∧ bytes ≤ 8192) (hz : z.cells.size = r.sz) (hs1 : r.sz = 1)
    (hx : ev e x = some v) (hy : ev e y = some (.slice (some ⟨b, 0, none⟩) 1 m)) (hu : hc H b 0 = some u) (hra : r.rv F u a) (hown : Gl r E F H B v l) (hin : InH F H) (hb : l.length < 4294967295) (hB : B ≤ H.size) :
    OpCh P e (.call { callee := .builtin .append, args := #[x, y], argTypes := #[T, T] }) H (fun v' H' => Gl r E F H' B v' (l ++ [a]) ∧ GrownBy H H' v.ownBlock ∧ (v'.ownBlock = v.ownBlock ∨ v'.ownBlock = some H.size)) := by
  obtain ⟨xs, h1, h2, h3⟩ := hown
  have ho := hra.one1 (by omega)
  have hb1 : (l.length + 1) * bytes ≤ 140737488355328 := by
    have : (l.length + 1) * bytes ≤ 4294967296 * 8192 := Nat.mul_le_mul (by omega) hs.2.2
    omega
  have key := OpCh.append (n := l.length) (m := 1) (c := m) (news := [u]) (o := 0) hT hE hz hs.1 hx h1 hy (by simp [hs1]) (fun j q hj => by
    have hj0 : j = 0 := by have := (List.getElem?_eq_some_iff.1 hj).1; simp at this; exact this
    subst hj0; simp at hj; subst hj; exact hu) (fun q hq => by simp only [List.mem_singleton] at hq; subst hq; exact ho) hb1 (by omega) hB
  intro ρ o w ho' hev hw
  obtain ⟨v', w', c1, c2, c3, c4, g1, g2, g3, g4⟩ := key ρ o w ho' hev hw
  refine ⟨v', w', c1, c2, c3, c4, ?_, g2, g4⟩
  refine Gl.snoc g1 h1.1 (fun k hk => ?_) h3 (by simp [hs1]) (r.ext (fun j hj => by rw [show j = 0 by omega]; rfl) hra)
  rcases g4 with g4 | g4
  · exact h2 k (by rw [← g4]; exact hk)
  · rw [g4] at hk; injection hk with hk; subst hk; exact hin.nope (Nat.le_refl _)
end
/- ---------------------------------------------- copying to the head of one's own row -/
section
variable {α : Type} {r : Rp α} {F : PH} {B : Nat} {v : Value} {l : List α}
theorem OpOk.sliceHiG {T E : TypeId} {x hx' : Operand} {k : IntKind} {I : Int} {hi : Nat} (hT : P.underlying T = some (.slice E)) (hE : Sz P E r.sz) (hs : Gl r E F H B v l) (hx : ev e x = some v) (hh : ev e hx' = some (.int k I)) (hI : I = hi) (h2 : hi ≤ l.length) :
    OpOk P e (.slice T x none (some hx') none) H (JE.resl r.sz v 0 hi) := by
  obtain ⟨f, hf⟩ := hs.sl
  exact OpOk.sliceHi hT hE hf hx hh hI h2
theorem setCells_heap (b : Nat) : ∀ (cs : List Value) (o : Nat) (w : World), (w.setCells b o cs).heap = setl w.heap b o cs ∧ (w.setCells b o cs).os = w.os ∧ (w.setCells b o cs).tape = w.tape ∧ (w.setCells b o cs).output = w.output
  | [], o, w => ⟨rfl, rfl, rfl, rfl⟩
  | c :: cs, o, w => by
    obtain ⟨h1, h2, h3, h4⟩ := setCells_heap b cs (o + 1) (w.setCell ⟨b, o, none⟩ c)
    simp only [World.setCells, setl]
    rw [← setCell_setc]
    exact ⟨h1, h2, h3, h4⟩
theorem Gr.setl {E : TypeId} {n : Nat} : ∀ (cs : List Value) (o : Nat) {H : Heap} {xs : List Value}, Gr H B E r.sz v n xs → (∃ g, v.ownBlock = some g) → ∀ g, v.ownBlock = some g → Gr (JE.setl H g o cs) B E r.sz v n (setAt xs o cs)
  | [], _, _, _, h, _, _, _ => h
  | c :: cs, o, _, _, h, hg, g, hgg => Gr.setl cs (o + 1) (Gr.set h hgg) hg g hgg
theorem setAt_len : ∀ (cs xs : List Value) (o : Nat), (setAt xs o cs).length = xs.length
  | [], _, _ => rfl
  | c :: cs, xs, o => by rw [setAt, setAt_len cs]; simp
theorem setAt_get : ∀ (cs xs : List Value) (o i : Nat), o + cs.length ≤ xs.length → (setAt xs o cs).getD i undef = if o ≤ i ∧ i < o + cs.length then cs.getD (i - o) undef else xs.getD i undef
  | [], xs, o, i, _ => by
    have : ¬ (o ≤ i ∧ i < o + ([] : List Value).length) := by simp only [List.length_nil]; omega
    rw [if_neg this]; rfl
  | c :: cs, xs, o, i, h => by
    simp only [List.length_cons] at h
    rw [setAt, setAt_get cs _ (o + 1) i (by simp; omega)]
    by_cases h1 : i = o
    · subst h1
      rw [if_neg (by omega), if_pos (by simp)]
      have : i < xs.length := by omega
      simp [List.getD, this]
    · by_cases h2 : o + 1 ≤ i ∧ i < o + 1 + cs.length
      · rw [if_pos h2, if_pos (by simp; omega), show i - o = (i - (o + 1)) + 1 by omega]; simp
      · rw [if_neg h2, if_neg (by simp; omega)]; simp [List.getD, List.getElem?_set_ne (Ne.symm h1)]
theorem OpCh.copyG {T E : TypeId} {x y : Operand} {T' : TypeId} {bytes hi N : Nat} {z w2 : Value} {m : List α} (hT : P.underlying T = some (.slice E)) (hE : (P.info? E).map (fun i => (i.zero, i.size, i.bytes)) = some (some z, 1, bytes)) (hs : r.sz = 1)
    (hx : ev e x = some (JE.resl 1 v 0 hi)) (hy : ev e y = some w2) (hown : Gl r E F H B v l) (h2 : hi ≤ l.length) (hm : (rLn N r).rv F w2 m) (hin : InH F H) :
    OpCh P e (.call { callee := .builtin .copy, args := #[x, y], argTypes := #[T, T'] }) H (fun u H' => u = .int .i64 (min hi m.length : Nat) ∧ Kw (own1 v) H H' ∧ Gl r E F H' B v (m.take (min hi m.length) ++ l.drop (min hi m.length))) := by
  have hsz : (P.info? E).map (·.size) = some 1 := by
    obtain ⟨i, hi', _, hz1, _⟩ := info_parts hE
    rw [hi']; simp [hz1]
  obtain ⟨_, a, cap, rfl, hc0, h3, g, h4, h5⟩ := hm
  obtain ⟨xs, o1, o2, o3⟩ := hown
  intro ρ o w ho hev hw
  by_cases hz : min hi m.length = 0
  · obtain ⟨va, vc, rfl⟩ := o1.len
    have hn : Nat.min m.length (hi - 0) = 0 := by show min m.length (hi - 0) = 0; omega
    have hr := run_copy_none (P := P) w T T' o.type E (if vc = 0 then va else va.map (·.add (0 * 1))) a (hi - 0) (vc - 0) m.length cap hT hsz hn
    refine ⟨.int .i64 0, w, .inl ?_, rfl, rfl, rfl, by rw [hz]; rfl, by rw [hw]; exact Kw.refl _ _, by rw [hw, hz]; simp; exact ⟨xs, o1, o2, o3⟩⟩
    simp only [JE.resl] at hx
    simp only [Nat.zero_mul, Nat.sub_zero] at hr hx
    simp [execOp, ho, hev _ _ hx, hev _ _ hy, resolve, invoke, builtin, hr, goInt]
  · have hlp : 0 < l.length := by omega
    rcases o1.2 with ⟨_, e2⟩ | ⟨gb, vc, cur, rfl, hbg, hg, hc1, hc2, hc3, hc4⟩
    · omega
    · obtain ⟨b, oo, rfl⟩ := h3 0 (by rw [hs]; omega)
      have hcs : ∀ j u, ((List.range (min hi m.length)).map g)[j]? = some u → w.cell? ((⟨b, oo, none⟩ : Addr).add j) = some u := by
        intro j u hj
        have hj' : j < min hi m.length := by have := (List.getElem?_eq_some_iff.1 hj).1; simpa using this
        have hu : g j = u := by simpa [hj'] using hj
        rw [Addr.add_none, cell_hc, hw, ← hu]
        exact hin.hc (h4 j (by rw [hs]; omega))
      have hcur : cur.size = vc := by rw [hc3, hs, Nat.mul_one]
      have hc1' : l.length ≤ vc := hc1
      have hdst : ∀ j, j < ((List.range (min hi m.length)).map g).length → (w.cell? ⟨gb, 0 + j, none⟩).isSome = true := by
        intro j hj
        have hj' : j < min hi m.length := by simpa using hj
        have : j < cur.size := by omega
        rw [cell_hc, hw]; simp [hc, hg, this]
      have hfr : ∀ j, j < ((List.range (min hi m.length)).map g).length → w.frozen? ⟨gb, 0 + j, none⟩ = false := by intro j _; simp [World.frozen?, hw, hg]
      have hone : ∀ u ∈ (List.range (min hi m.length)).map g, u.oneCell' = true := by
        intro u hu
        obtain ⟨j, hj, rfl⟩ := List.mem_map.1 hu
        have hj' : j < min hi m.length := by simpa using hj
        have := r.one (h5 j (by omega)) 0 (by omega)
        simpa [hs] using this
      have hadr : (if vc = 0 then some (⟨gb, 0, none⟩ : Addr) else (some (⟨gb, 0, none⟩ : Addr)).map (·.add (0 * 1))) = some ⟨gb, 0, none⟩ := by
        split
        · rfl
        · simp [Addr.add_none]
      simp only [JE.resl, hadr, Nat.sub_zero] at hx
      have hr := run_copy_cells (P := P) w T T' o.type E gb 0 hi vc ⟨b, oo, none⟩ m.length cap ((List.range (min hi m.length)).map g) hT hsz (by simp; exact Nat.min_comm _ _) hcs hdst hfr hone
      obtain ⟨s1, s2, s3, s4⟩ := setCells_heap gb ((List.range (min hi m.length)).map g) 0 w
      have hlen : (m.take (min hi m.length) ++ l.drop (min hi m.length)).length = l.length := by simp; omega
      refine ⟨.int .i64 (min hi m.length : Nat), w.setCells gb 0 ((List.range (min hi m.length)).map g), .inl ?_, s2, s3, s4, rfl, ?_, ?_⟩
      · simp [execOp, ho, hev _ _ hx, hev _ _ hy, resolve, invoke, builtin, hr, goInt]
      · rw [s1, hw]
        exact ⟨by rw [size_setl]; exact Nat.le_refl _, fun k hk hn => setl_other (by rintro rfl; exact hn rfl) _ _ _⟩
      · rw [s1, hw]
        refine ⟨setAt xs 0 ((List.range (min hi m.length)).map g), by rw [hlen]; exact Gr.setl _ 0 o1 ⟨gb, rfl⟩ gb rfl, o2, fun i hi9 => ?_⟩
        rw [hlen] at hi9
        have hxl : xs.length = l.length := by rw [o1.1, hs, Nat.mul_one]
        rw [hs, Nat.mul_one]
        by_cases h1 : i < min hi m.length
        · rw [List.getElem_append_left (by simp; omega), List.getElem_take]
          have h6 := h5 i (by omega)
          rw [hs, Nat.mul_one] at h6
          refine r.ext (fun j hj => ?_) h6
          rw [show j = 0 by omega, Nat.add_zero, setAt_get _ _ _ _ (by simp; omega), if_pos (by simp; omega)]
          simp [List.getD, h1]
        · rw [List.getElem_append_right (by simp; omega), List.getElem_drop]
          have h6 := o3 i hi9
          rw [hs, Nat.mul_one] at h6
          have e1 : (min hi m.length) + (i - (m.take (min hi m.length)).length) = i := by simp; omega
          simp only [e1]
          refine r.ext (fun j hj => ?_) h6
          rw [show j = 0 by omega, Nat.add_zero, setAt_get _ _ _ _ (by simp; omega), if_neg (by simp; omega)]
end
end Go.JE
