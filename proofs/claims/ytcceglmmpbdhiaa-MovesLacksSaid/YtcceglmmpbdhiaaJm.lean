/- The walking engine, operations that turn the heap. Conditions: each rule names its own; lemmas over any program. -/
import Derived.Test.YtcceglmmpbdhiaaJo
import Derived.Deep.OwnRows
namespace Go.JE
set_option linter.unusedVariables false
set_option linter.unusedSimpArgs false
set_option linter.unusedSectionVars false
variable {P : Program} {e : Env} {H : Heap}

/- ---------------------------------------------- frames of heaps -/
/-- below B nothing has turned, and no block has gone -/
def Kp (B : Nat) (H H' : Heap) : Prop := H.size ≤ H'.size ∧ ∀ k, k < B → H'[k]? = H[k]?
theorem Kp.refl (B : Nat) (H : Heap) : Kp B H H := ⟨Nat.le_refl _, fun _ _ => rfl⟩
theorem Kp.trans {B : Nat} {H H1 H2 : Heap} (h : Kp B H H1) (h' : Kp B H1 H2) : Kp B H H2 := ⟨Nat.le_trans h.1 h'.1, fun k hk => (h'.2 k hk).trans (h.2 k hk)⟩
theorem Kp.mono {B B' : Nat} {H H' : Heap} (h : Kp B H H') (hB : B' ≤ B) : Kp B' H H' := ⟨h.1, fun k hk => h.2 k (by omega)⟩
theorem push_old {H : Heap} {o : Obj} {k : Nat} (hk : k < H.size) : (H.push o)[k]? = H[k]? := by rw [Array.getElem?_push, if_neg (by omega)]
theorem push_new {H : Heap} {o : Obj} : (H.push o)[H.size]? = some o := by simp
theorem Kp.push {B : Nat} {H0 H : Heap} (h : Kp B H0 H) (hB : B ≤ H0.size) (o : Obj) : Kp B H0 (H.push o) := by
  have h1 := h.1
  exact ⟨by simp; omega, fun k hk => (push_old (by omega)).trans (h.2 k hk)⟩
/-- a cell of a block written -/
def setc (H : Heap) (b i : Nat) (v : Value) : Heap := H.modify b fun
  | .cells c elem frozen => .cells (c.setIfInBounds i v) elem frozen
  | o => o
theorem setCell_setc {w : World} {b i : Nat} {v : Value} : (w.setCell ⟨b, i, none⟩ v).heap = setc w.heap b i v := by
  simp only [World.setCell, setc, Option.isSome_none, Bool.false_eq_true, if_false]
  congr 1
theorem size_setc {b i : Nat} {v : Value} : (setc H b i v).size = H.size := by simp [setc]
theorem setc_other {b i k : Nat} {v : Value} (hk : k ≠ b) : (setc H b i v)[k]? = H[k]? := by
  simp only [setc, Array.getElem?_modify]; rw [if_neg (by omega)]
theorem Kp.setc {B b i : Nat} {v : Value} {H0 H : Heap} (h : Kp B H0 H) (hb : B ≤ b) : Kp B H0 (setc H b i v) :=
  ⟨by rw [size_setc]; exact h.1, fun k hk => (setc_other (by omega)).trans (h.2 k hk)⟩

/- ---------------------------------------------- a row of cells that one knows whole -/
def Rw (H : Heap) (b : Nat) (T : TypeId) (n : Nat) (f : Nat → Value) : Prop := ∃ c, H[b]? = some (.cells c T (0, 0)) ∧ c.size = n ∧ ∀ i, i < n → c[i]? = some (f i)
section
variable {b n : Nat} {T : TypeId} {f g : Nat → Value}
theorem Rw.lt (h : Rw H b T n f) : b < H.size := by obtain ⟨c, hc, _⟩ := h; exact (Array.getElem?_eq_some_iff.1 hc).1
theorem Rw.cell (h : Rw H b T n f) {i : Nat} (hi : i < n) : hc H b i = some (f i) := by
  obtain ⟨c, h1, _, h2⟩ := h
  simp [hc, h1, h2 i hi]
theorem Rw.of (h : Rw H b T n f) {H' : Heap} (hb : H'[b]? = H[b]?) : Rw H' b T n f := by
  obtain ⟨c, h1, h2⟩ := h
  exact ⟨c, hb.trans h1, h2⟩
theorem Rw.kp {B : Nat} {H' : Heap} (h : Rw H b T n f) (hk : Kp B H H') (hb : b < B) : Rw H' b T n f := h.of (hk.2 b hb)
theorem Rw.push (h : Rw H b T n f) (o : Obj) : Rw (H.push o) b T n f := h.of (push_old h.lt)
theorem Rw.setOther {b' i : Nat} {v : Value} (h : Rw H b T n f) (hb : b ≠ b') : Rw (setc H b' i v) b T n f := h.of (setc_other hb)
theorem Rw.set {i : Nat} {v : Value} (h : Rw H b T n f) : Rw (setc H b i v) b T n (fun j => if j = i then v else f j) := by
  obtain ⟨c, h1, h2, h3⟩ := h
  refine ⟨c.setIfInBounds i v, ?_, by simp [h2], fun j hj => ?_⟩
  · simp only [setc, Array.getElem?_modify, if_true, h1, Option.map_some]
  · by_cases e1 : j = i
    · subst e1; simp [h2, hj]
    · rw [Array.getElem?_setIfInBounds_ne (by omega)]; simp [e1, h3 j hj]
theorem Rw.congr (h : Rw H b T n f) (hfg : ∀ i, i < n → f i = g i) : Rw H b T n g := by
  obtain ⟨c, h1, h2, h3⟩ := h
  exact ⟨c, h1, h2, fun i hi => by rw [h3 i hi, hfg i hi]⟩
theorem Rw.new {c : Array Value} : Rw (H.push (.cells c T)) H.size T c.size (fun i => c.getD i undef) :=
  ⟨c, push_new, rfl, fun i hi => by simp [Array.getD, hi]⟩
theorem Rw.new1 {v : Value} : Rw (H.push (.cells #[v] T)) H.size T 1 (fun _ => v) :=
  ⟨#[v], push_new, rfl, fun i hi => by
    have : i = 0 := by omega
    subst this; rfl⟩
/-- the whole row, as a slice -/
theorem Rw.sl (h : Rw H b T n f) {B s m cap : Nat} (hb : b < B) (hm : m * s ≤ n) (hl : m ≤ 9223372036854775807) (hcap : m ≤ cap) : Sl H B (.slice (some ⟨b, 0, none⟩) m cap) s m f :=
  ⟨hl, _, _, rfl, hcap, fun i hi => ⟨b, 0, rfl, hb, by rw [Nat.zero_add]; exact h.cell (by omega)⟩⟩
end

/- ---------------------------------------------- new blocks -/
theorem OpCh.box {T : TypeId} {x : Operand} {v : Value} (hx : ev e x = some v) : OpCh P e (.box T x) H (fun u H' => u = .pointer (some ⟨H.size, 0, none⟩) ∧ H' = H.push (.cells v.cells T)) := by
  intro ρ o w ho hev hw
  refine ⟨.pointer (some ⟨w.heap.size, 0, none⟩), { w with heap := w.heap.push (.cells v.cells T) }, .inl ?_, rfl, rfl, rfl, ?_⟩
  · simp [execOp, ho, hev _ _ hx, Instr.box, newVar, newRow]
  · subst hw; exact ⟨rfl, rfl⟩
theorem OpCh.alloc {T : TypeId} {z : Value} (hz : (P.info? T).bind (·.zero) = some z) : OpCh P e (.alloc T) H (fun u H' => u = .pointer (some ⟨H.size, 0, none⟩) ∧ H' = H.push (.cells z.cells T)) := by
  intro ρ o w ho hev hw
  obtain ⟨i, hi, hiz⟩ := Option.bind_eq_some_iff.1 hz
  refine ⟨.pointer (some ⟨w.heap.size, 0, none⟩), { w with heap := w.heap.push (.cells z.cells T) }, .inl ?_, rfl, rfl, rfl, ?_⟩
  · simp [execOp, ho, Instr.alloc, newVar, newRow, zeroValue, typeInfo, hi, hiz]
  · subst hw; exact ⟨rfl, rfl⟩
theorem OpCh.makeMap0 {T : TypeId} : OpCh P e (.makeMap T none) H (fun u H' => u = .map (some H.size) ∧ H' = H.push (.map #[] 0)) := by
  intro ρ o w ho hev hw
  refine ⟨.map (some w.heap.size), { w with heap := w.heap.push (.map #[] 0) }, .inl ?_, rfl, rfl, rfl, ?_⟩
  · simp [execOp, ho, Instr.makeMap]
  · subst hw; exact ⟨rfl, rfl⟩

/-- make([]T, n): one cell an element -/
theorem OpCh.make {T E : TypeId} {x y : Operand} {n : Nat} {z : Value} {bytes : Nat} (hT : P.underlying T = some (.slice E)) (hE : (P.info? E).map (fun i => (i.zero, i.size, i.bytes)) = some (some z, 1, bytes)) (hz : z.cells = #[z])
    (hx : ev e x = some (.int .i64 n)) (hy : ev e y = some (.int .i64 n)) (h1 : bytes * n ≤ 281474976710656) (h2 : n ≤ 9223372036854775807) :
    OpCh P e (.makeSlice T x y) H (fun u H' => u = .slice (some ⟨H.size, 0, none⟩) n n ∧ H'.size = H.size + 1 ∧ (∀ k, k < H.size → H'[k]? = H[k]?) ∧ Rw H' H.size E n (fun _ => z)) := by
  intro ρ o w ho hev hw
  have hrun := run_make_row' (P := P) T E z bytes hT hE hz .i64 .i64 n h1 h2 w
  refine ⟨.slice (some ⟨w.heap.size, 0, none⟩) n n, w.alloc (.cells (madeCells #[z] n) E), .inl ?_, rfl, rfl, rfl, ?_⟩
  · simp [execOp, ho, hev _ _ hx, hev _ _ hy, hrun]
  · subst hw
    refine ⟨rfl, by show (w.heap.push _).size = _; simp, fun k hk => push_old hk, madeCells #[z] n, push_new, by simp [madeCells], fun i hi => ?_⟩
    simp [madeCells, hi, Nat.mod_one]

/-- a store of a one-cell value -/
theorem OpCh.store {T : TypeId} {x y : Operand} {b i n : Nat} {E : TypeId} {f : Nat → Value} {v : Value} (hT : Sz P T 1) (hx : ev e x = some (.pointer (some ⟨b, i, none⟩))) (hy : ev e y = some v) (h1 : v.oneCell' = true) (hr : Rw H b E n f) (hi : i < n) :
    OpCh P e (.store T x y) H (fun _ H' => H' = setc H b i v) := by
  intro ρ o w ho hev hw
  obtain ⟨c, hc1, hc2, hc3⟩ := hr
  have hcell : w.cell? ⟨b, i, none⟩ = some (f i) := by rw [cell_hc, hw]; simp [hc, hc1, hc3 i hi]
  have hfr : w.frozen? ⟨b, i, none⟩ = false := by simp [World.frozen?, hw, hc1]
  have hcs : v.cells = #[v] := by cases v <;> first | rfl | cases h1
  refine ⟨undef, w.setCell ⟨b, i, none⟩ v, .inr ⟨?_, rfl⟩, rfl, rfl, rfl, ?_⟩
  · simp [execOp, ho, hev _ _ hx, hev _ _ hy, Instr.storeAt, Instr.sureAddr, storeVar, hT.run, hcs, storeCells, run_store P w _ _ _ h1, Addr.add, hcell, hfr]
  · rw [setCell_setc, hw]
theorem setc_kp {b i B : Nat} {v : Value} (hb : B ≤ b) : Kp B H (setc H b i v) := (Kp.refl B H).setc hb

/- ---------------------------------------------- literals of slices -/
def evs (e : Env) : List (Nat × Operand) → Option (List (Nat × Value))
  | [] => some []
  | (i, x) :: r => match ev e x, evs e r with
    | some v, some l => some ((i, v) :: l)
    | _, _ => none
theorem evs_map {ρ : Operand → Value} (hev : ∀ x u, ev e x = some u → ρ x = u) : ∀ (l : List (Nat × Operand)) (r : List (Nat × Value)), evs e l = some r → l.map (fun p => (p.1, ρ p.2)) = r
  | [], r, h => by simp [evs] at h; subst h; rfl
  | (i, x) :: l, r, h => by
    simp only [evs] at h
    cases h1 : ev e x with
    | none => simp [h1] at h
    | some v =>
      cases h2 : evs e l with
      | none => simp [h1, h2] at h
      | some m =>
        simp only [h1, h2, Option.some.injEq] at h
        subst h
        simp only [List.map_cons, hev _ _ h1, evs_map hev l m h2]
theorem OpOk.build {T : TypeId} {l : List (Nat × Operand)} {r : List (Nat × Value)} {v : Value} (hl : evs e l = some r) (hb : ∀ w, (Instr.build T r.toArray).run P w = .ok v w) : OpOk P e (.build T l.toArray) H v := by
  intro ρ o w ho hev _
  have h1 : (l.toArray.map fun (i, x) => (i, ρ x)) = r.toArray := by
    rw [← evs_map hev l r hl]; simp
  simp [execOp, ho]
  rw [show (List.map (fun p => (p.1, ρ p.2)) l) = r from evs_map hev l r hl, hb]
  rfl
/-- a literal of a slice: the new row's cells by a closed fact -/
theorem OpCh.buildSlice {T E : TypeId} {m : Nat} {l : List (Nat × Operand)} {r : List (Nat × Value)} {cs : Array Value} (hl : evs e l = some r)
    (hb : ∀ w : World, (Instr.buildSlice T m r.toArray).run P w = .ok (.slice (some ⟨w.heap.size, 0, none⟩) m m) (w.alloc (.cells cs E))) :
    OpCh P e (.buildSlice T m l.toArray) H (fun u H' => u = .slice (some ⟨H.size, 0, none⟩) m m ∧ H' = H.push (.cells cs E)) := by
  intro ρ o w ho hev hw
  refine ⟨.slice (some ⟨w.heap.size, 0, none⟩) m m, w.alloc (.cells cs E), .inl ?_, rfl, rfl, rfl, ?_⟩
  · simp [execOp, ho]
    rw [show (List.map (fun p => (p.1, ρ p.2)) l) = r from evs_map hev l r hl, hb]
    rfl
  · subst hw; exact ⟨rfl, rfl⟩

/- ---------------------------------------------- a slice that grows -/
/-- the slice value v, of n elements (of type E, s cells each), owns the cells xs: nil, or at the head of a row in a block from B on -/
def Gr (H : Heap) (B : Nat) (E : TypeId) (s : Nat) (v : Value) (n : Nat) (xs : List Value) : Prop :=
  xs.length = n * s ∧
  ((v = .slice none 0 0 ∧ n = 0) ∨
   ∃ g cap cur, v = .slice (some ⟨g, 0, none⟩) n cap ∧ B ≤ g ∧ H[g]? = some (.cells cur E (0, 0)) ∧ n ≤ cap ∧ cap ≤ maxLen ∧ cur.size = cap * s ∧ cur.toList.take (n * s) = xs)
theorem Gr.owns {w : World} {B : Nat} {E : TypeId} {s : Nat} {v : Value} {n : Nat} {xs : List Value} : w.ownsRow B E s v n xs ↔ Gr w.heap B E s v n xs := Iff.rfl
theorem Gr.nil (B : Nat) (E : TypeId) (s : Nat) : Gr H B E s (.slice none 0 0) 0 [] := ⟨by simp, .inl ⟨rfl, rfl⟩⟩
section
variable {B n s : Nat} {E : TypeId} {v : Value} {xs : List Value}
theorem Gr.blk (h : Gr H B E s v n xs) : ∀ k, v.ownBlock = some k → B ≤ k ∧ k < H.size := by
  intro k hk
  rcases h.2 with ⟨rfl, _⟩ | ⟨g, cap, cur, rfl, hb, hg, _⟩
  · simp [Value.ownBlock] at hk
  · simp [Value.ownBlock] at hk; subst hk; exact ⟨hb, (Array.getElem?_eq_some_iff.1 hg).1⟩
/-- kept where its own block is -/
theorem Gr.of {H' : Heap} (h : Gr H B E s v n xs) (hk : ∀ k, v.ownBlock = some k → H'[k]? = H[k]?) : Gr H' B E s v n xs := by
  refine ⟨h.1, ?_⟩
  rcases h.2 with hn | ⟨g, cap, cur, rfl, hb, hg, r⟩
  · exact .inl hn
  · exact .inr ⟨g, cap, cur, rfl, hb, (hk g rfl).trans hg, r⟩
theorem Gr.kp {H' : Heap} (h : Gr H B E s v n xs) (hk : Kp H.size H H') : Gr H' B E s v n xs := h.of fun k e1 => hk.2 k (h.blk k e1).2
theorem Gr.push (h : Gr H B E s v n xs) (o : Obj) : Gr (H.push o) B E s v n xs := h.of fun k e1 => push_old (h.blk k e1).2
theorem Gr.setOther {b i : Nat} {u : Value} (h : Gr H B E s v n xs) (hb : v.ownBlock ≠ some b) : Gr (setc H b i u) B E s v n xs := h.of fun k e1 => setc_other (by rintro rfl; exact hb e1)
theorem Gr.lenLe (h : Gr H B E s v n xs) : n ≤ 9223372036854775807 := by
  rcases h.2 with ⟨_, rfl⟩ | ⟨g, cap, cur, _, _, _, h1, h2, _⟩
  · omega
  · unfold maxLen at h2; omega
/-- as a slice that is read -/
theorem Gr.sl (h : Gr H B E s v n xs) {f : Nat → Value} (hf : ∀ i, i < n * s → xs[i]? = some (f i)) : Sl H H.size v s n f := by
  refine ⟨h.lenLe, ?_⟩
  rcases h.2 with ⟨rfl, rfl⟩ | ⟨g, cap, cur, rfl, hb, hg, h1, h2, h3, h4⟩
  · exact ⟨none, 0, rfl, Nat.le_refl _, fun i hi => by simp at hi⟩
  · refine ⟨_, _, rfl, h1, fun i hi => ⟨g, 0, rfl, (Array.getElem?_eq_some_iff.1 hg).1, ?_⟩⟩
    have h5 := hf i hi
    rw [← h4, List.getElem?_take, if_pos hi] at h5
    simp only [hc, hg, Nat.zero_add]
    simpa using h5
theorem Gr.len (h : Gr H B E s v n xs) : ∃ a c, v = .slice a n c := by
  rcases h.2 with ⟨rfl, rfl⟩ | ⟨g, cap, cur, rfl, _⟩
  · exact ⟨_, _, rfl⟩
  · exact ⟨_, _, rfl⟩
theorem Gr.own (h : Gr H B E s v n xs) (hn : 0 < n) : ∃ g c, v = .slice (some ⟨g, 0, none⟩) n c ∧ B ≤ g ∧ g < H.size := by
  rcases h.2 with ⟨rfl, rfl⟩ | ⟨g, cap, cur, rfl, hb, hg, _⟩
  · omega
  · exact ⟨_, _, rfl, hb, (Array.getElem?_eq_some_iff.1 hg).1⟩
/-- a cell of it written -/
theorem Gr.set {b i : Nat} {u : Value} (h : Gr H B E s v n xs) (hb : v.ownBlock = some b) : Gr (setc H b i u) B E s v n (xs.set i u) := by
  refine ⟨by simp [h.1], ?_⟩
  rcases h.2 with ⟨rfl, rfl⟩ | ⟨g, cap, cur, rfl, hb', hg, h1, h2, h3, h4⟩
  · simp [Value.ownBlock] at hb
  · simp [Value.ownBlock] at hb; subst hb
    refine .inr ⟨g, cap, cur.setIfInBounds i u, rfl, hb', ?_, h1, h2, by simp [h3], ?_⟩
    · simp only [setc, Array.getElem?_modify, if_true, hg, Option.map_some]
    · rw [← h4, Array.toList_setIfInBounds, List.take_set]
end

/-- the frame of a growth: all old blocks but the slice's own are kept -/
def GrownBy (H H' : Heap) (row : Option Nat) : Prop := H.size ≤ H'.size ∧ ∀ k, k < H.size → some k ≠ row → H'[k]? = H[k]?
theorem GrownBy.kp {B : Nat} {H0 H' : Heap} {row : Option Nat} (h : Kp B H0 H) (hg : GrownBy H H' row) (hB : B ≤ H0.size) (hr : ∀ k, row = some k → B ≤ k) : Kp B H0 H' :=
  ⟨Nat.le_trans h.1 hg.1, fun k hk => (hg.2 k (by have := h.1; omega) (fun e1 => by have := hr k e1.symm; omega)).trans (h.2 k hk)⟩

theorem append_block {B n : Nat} {E : TypeId} {v : Value} {xs : List Value} {T ty : TypeId} {i : TypeInfo} {z : Value} {w w' : World} {v' : Value} {a : Addr} {m c : Nat} {news : List Value} (ht : P.underlying T = some (.slice E)) (hi : P.info? E = some i) (hz : i.zero = some z) (_ : 0 < i.size)
    (hown : Gr w.heap B E i.size v n xs) (hl : news.length = m * i.size) (hnews : ∀ j u, news[j]? = some u → w.cell? (a.add j) = some u) (h1 : ∀ u ∈ news, u.oneCell' = true) (h63 : n + m ≤ maxLen) (hbytes : (n + m) * i.bytes ≤ 140737488355328)
    (hrun : (Builtin.append_ #[T, T] ty #[v, .slice (some a) m c]).run P w = .ok v' w') : v'.ownBlock = v.ownBlock ∨ v'.ownBlock = some w.heap.size := by
  have hsmall : n + m ≤ 9223372036854775807 := by simp only [maxLen] at h63; omega
  rcases hown.2 with ⟨rfl, rfl⟩ | ⟨g, cap, cur, rfl, hbg, hg, hnc, hcm, hcs, htake⟩
  · by_cases hm : m = 0
    · subst hm
      have hn : news = [] := List.eq_nil_of_length_eq_zero (by simpa using hl)
      subst hn
      have hr : (Builtin.append_ #[T, T] ty #[.slice none 0 0, .slice (some a) 0 c]).run P w = .ok (.slice none 0 0) w := by
        simp [Builtin.append_, run_underlying ht, sizeOf, typeInfo, hi, Builtin.lenOf, Builtin.firstCells, loadCells, loadCellsFrom]
      rw [hr] at hrun
      injection hrun with h2 _
      exact .inl (by rw [← h2])
    · have hr := run_append_nil (P := P) w T ty E i z ht hi hz a m c news hl hnews (by omega) (by omega) (by have hb := hbytes; simp only [Nat.zero_add] at hb; omega)
      rw [hr] at hrun
      injection hrun with h2 _
      exact .inr (by rw [← h2]; rfl)
  · by_cases hroom : n + m ≤ cap
    · have hfit : n * i.size + news.length ≤ cur.size := by rw [hl, hcs, ← Nat.add_mul]; exact Nat.mul_le_mul_right _ hroom
      have hr := run_append_room (P := P) w T ty E i ht hi g n cap cur hg a m c news hl hnews h1 hroom hfit
      rw [hr] at hrun
      injection hrun with h2 _
      exact .inl (by rw [← h2]; rfl)
    · have holds : ∀ j u, xs[j]? = some u → w.cell? ((⟨g, 0, none⟩ : Addr).add j) = some u := World.ownsRow.cells (w := w) (base := B) (e := E) (size := i.size) (n := n) (v := .slice (some ⟨g, 0, none⟩) n cap) ⟨hown.1, .inr ⟨g, cap, cur, rfl, hbg, hg, hnc, hcm, hcs, htake⟩⟩ (g := g) rfl
      have hr := run_append_grow (P := P) w T ty E i z ht hi hz ⟨g, 0, none⟩ n cap xs hown.1 holds a m c news hl hnews (by omega) (by omega) (growslice_fits (by omega) hbytes)
      rw [hr] at hrun
      injection hrun with h2 _
      exact .inr (by rw [← h2]; rfl)

/-- append of m elements that lie in a row of the call's own -/
theorem OpCh.append {T E : TypeId} {x y : Operand} {B s bytes n m c : Nat} {z v : Value} {xs news : List Value} {b o : Nat} (hT : P.underlying T = some (.slice E))
    (hE : (P.info? E).map (fun i => (i.zero, i.size, i.bytes)) = some (some z, s, bytes)) (hz : z.cells.size = s) (hs : 0 < s) (hx : ev e x = some v) (hown : Gr H B E s v n xs)
    (hy : ev e y = some (.slice (some ⟨b, o, none⟩) m c)) (hl : news.length = m * s) (hn : ∀ j u, news[j]? = some u → hc H b (o + j) = some u) (h1 : ∀ u ∈ news, u.oneCell' = true)
    (hb : (n + m) * bytes ≤ 140737488355328) (hbn : n + m ≤ 140737488355328) (hB : B ≤ H.size) :
    OpCh P e (.call { callee := .builtin .append, args := #[x, y], argTypes := #[T, T] }) H (fun v' H' => Gr H' B E s v' (n + m) (xs ++ news) ∧ GrownBy H H' v.ownBlock ∧ (v' = .slice none 0 0 ↔ v = .slice none 0 0 ∧ m = 0) ∧ (v'.ownBlock = v.ownBlock ∨ v'.ownBlock = some H.size)) := by
  intro ρ oo w ho hev hw
  subst hw
  obtain ⟨i, hi, hz0, hz1, hz2⟩ := info_parts hE
  obtain ⟨v', w', hrun, r1, r2, r3⟩ := run_append_own (P := P) w B T oo.type E i z s bytes hT hi hz0 hz1 hz2 hz hs v n xs hown ⟨b, o, none⟩ m c news hl
    (fun j u hj => by rw [Addr.add_lit, cell_hc]; exact hn j u hj) h1 (by unfold maxLen; omega) hb hB
  subst hz1; subst hz2
  have r4 := append_block (P := P) (w := w) (a := ⟨b, o, none⟩) hT hi hz0 hs hown hl (fun j u hj => by rw [Addr.add_lit, cell_hc]; exact hn j u hj) h1 (by unfold maxLen; omega) hb hrun
  refine ⟨v', w', .inl ?_, r2.os, r2.tape, r2.output, r1, ⟨r2.size, r2.block⟩, r3, r4⟩
  simp [execOp, ho, hev _ _ hx, hev _ _ hy, resolve, invoke, builtin, hrun]

theorem Gr.type_ne {B s m b : Nat} {E T n' : Nat} {v : Value} {xs : List Value} {g : Nat → Value} (h : Gr H B E s v m xs) (hr : Rw H b T n' g) (hET : E ≠ T) : v.ownBlock ≠ some b := by
  intro e1
  rcases h.2 with ⟨rfl, _⟩ | ⟨g', cap, cur, rfl, _, hg, _⟩
  · simp [Value.ownBlock] at e1
  · simp [Value.ownBlock] at e1
    subst e1
    obtain ⟨c, hc1, _⟩ := hr
    rw [hg] at hc1
    injection hc1 with h1
    injection h1 with _ h2 _
    exact hET h2
theorem Sl.up {B s n : Nat} {v : Value} {f : Nat → Value} (h : Sl H B v s n f) : Sl H H.size v s n f := by
  obtain ⟨h1, a, cap, rfl, h2, h3⟩ := h
  refine ⟨h1, a, cap, rfl, h2, fun i hi => ?_⟩
  obtain ⟨b, o, e1, _, h4⟩ := h3 i hi
  refine ⟨b, o, e1, ?_, h4⟩
  unfold hc at h4
  cases h5 : H[b]? with
  | none => rw [h5] at h4; cases h4
  | some x => exact (Array.getElem?_eq_some_iff.1 h5).1
theorem Sl.kp {B s n : Nat} {v : Value} {f : Nat → Value} {H' : Heap} (h : Sl H B v s n f) (hk : Kp B H H') : Sl H' B v s n f := h.mono (Nat.le_refl _) hk.2
theorem Sl.kpu {B s n : Nat} {v : Value} {f : Nat → Value} {H' : Heap} (h : Sl H B v s n f) (hk : Kp H.size H H') : Sl H' H'.size v s n f := (h.up.kp hk).up
end Go.JE
