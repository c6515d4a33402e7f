/- The walking engine: maps seen as functions. Conditions: each rule names its own; lemmas over any program. -/
import Derived.Test.YtcceglmmpbdhiaaJy
import Derived.Lib.SliceRun
namespace Go.JE
set_option linter.unusedVariables false
set_option linter.unusedSimpArgs false
set_option linter.unusedSectionVars false
variable {P : Program} {e : Env} {H : Heap}

theorem OpCh.imp {op : Op} {R R' : Value → Heap → Prop} (h : OpCh P e op H R) (hR : ∀ v H', R v H' → R' v H') : OpCh P e op H R' := by
  intro ρ o w ho hev hw
  obtain ⟨v, w', h1, h2, h3, h4, h5⟩ := h ρ o w ho hev hw
  exact ⟨v, w', h1, h2, h3, h4, hR _ _ h5⟩
theorem InH.none (H : Heap) : InH (fun _ => none) H := fun _ _ h => by cases h
/-- the map at g tells f, z where there is nothing -/
def Mf (H : Heap) (g : Nat) (z : Value) (f : Int → Value) : Prop := ∃ L, Im H g L ∧ ∀ k, (lkM L k).getD z = f k
def upF {α : Type} (f : Int → α) (k : Int) (v : α) : Int → α := fun j => if j = k then v else f j
section
variable {g : Nat} {z : Value} {f : Int → Value}
theorem Mf.lt (h : Mf H g z f) : g < H.size := by obtain ⟨L, h, _⟩ := h; exact h.lt
theorem Mf.of {H' : Heap} (h : Mf H g z f) (hb : H'[g]? = H[g]?) : Mf H' g z f := by obtain ⟨L, h, h2⟩ := h; exact ⟨L, h.of hb, h2⟩
theorem Mf.kp {B : Nat} {H' : Heap} (h : Mf H g z f) (hk : Kp B H H') (hb : g < B) : Mf H' g z f := h.of (hk.2 g hb)
theorem Im.neBx {b : Nat} {L : List (Int × Value)} {T : TypeId} {l : List Value} {c : Nat} (h : Im H b L) (h' : Bx H c T l) : b ≠ c := by
  rintro rfl
  obtain ⟨es, clk, h1, _⟩ := h
  unfold Bx at h'
  rw [h1] at h'; cases h'
theorem Mf.neBx {T : TypeId} {l : List Value} {c : Nat} (h : Mf H g z f) (h' : Bx H c T l) : g ≠ c := by obtain ⟨L, h, _⟩ := h; exact h.neBx h'
theorem Im.neGl {α : Type} {r : Rp α} {E : TypeId} {F : PH} {B b : Nat} {v : Value} {l : List α} {L : List (Int × Value)} (h : Im H b L) (h' : Gl r E F H B v l) : v.ownBlock ≠ some b := by
  intro hk
  obtain ⟨es, clk, h1, _⟩ := h
  obtain ⟨xs, hr, _⟩ := h'
  rcases hr.2 with ⟨h9, _⟩ | ⟨c, cap, cur, e1, _, hb, _⟩
  · rw [h9] at hk; cases hk
  · rw [e1] at hk
    have hcb : c = b := by injection hk
    rw [hcb, h1] at hb; cases hb
theorem Mf.neGl {α : Type} {r : Rp α} {E : TypeId} {F : PH} {B : Nat} {v : Value} {l : List α} (h : Mf H g z f) (h' : Gl r E F H B v l) : v.ownBlock ≠ some g := by obtain ⟨L, h, _⟩ := h; exact h.neGl h'
theorem Mf.new (h : Im H g []) : Mf H g z (fun _ => z) := ⟨[], h, fun _ => rfl⟩
theorem OpOk.lookupF {T K E : TypeId} {x ix : Operand} {k : Int} (hT : P.underlying T = some (.map K E)) (hK : P.underlying K = some (.int .i64)) (hz : (P.info? E).bind (·.zero) = some z)
    (hm : Mf H g z f) (hx : ev e x = some (.map (some g))) (hi : ev e ix = some (.int .i64 k)) : OpOk P e (.lookup T x ix false) H (f k) := by
  obtain ⟨L, h, h2⟩ := hm
  have := OpOk.lookup hT hK hz h hx hi
  rwa [h2] at this
theorem OpCh.mapUpdateF {T K E : TypeId} {x ix y : Operand} {k : Int} {v : Value} (hT : P.underlying T = some (.map K E)) (hK : P.underlying K = some (.int .i64)) (hm : Mf H g z f)
    (hx : ev e x = some (.map (some g))) (hi : ev e ix = some (.int .i64 k)) (hy : ev e y = some v) : OpCh P e (.mapUpdate T x ix y) H (fun _ H' => Mf H' g z (upF f k v) ∧ Tw g H H') := by
  obtain ⟨L, h, h2⟩ := hm
  refine OpCh.imp (OpCh.mapUpdate hT hK h hx hi hy) ?_
  rintro _ H' ⟨h3, h4⟩
  refine ⟨⟨_, h3, fun j => ?_⟩, h4⟩
  rw [upM_lk]; unfold upF
  split
  · rfl
  · exact h2 j
theorem OpCh.mapUpdateI {T K E : TypeId} {x ix y : Operand} {k n : Int} {q : Int → Int} (hT : P.underlying T = some (.map K E)) (hK : P.underlying K = some (.int .i64)) (hm : Mf H g z (fun j => .int .i64 (q j)))
    (hx : ev e x = some (.map (some g))) (hi : ev e ix = some (.int .i64 k)) (hy : ev e y = some (.int .i64 n)) : OpCh P e (.mapUpdate T x ix y) H (fun _ H' => Mf H' g z (fun j => .int .i64 (upF q k n j)) ∧ Tw g H H') := by
  refine OpCh.imp (OpCh.mapUpdateF hT hK hm hx hi hy) ?_
  rintro _ H' ⟨h3, h4⟩
  refine ⟨?_, h4⟩
  have : (fun j => Value.int .i64 (upF q k n j)) = upF (fun j => .int .i64 (q j)) k (.int .i64 n) := by
    funext j; unfold upF; split <;> rfl
  rw [this]; exact h3
theorem OpCh.mapUpdateB {T K E : TypeId} {x ix y : Operand} {k : Int} {b : Bool} {q : Int → Bool} (hT : P.underlying T = some (.map K E)) (hK : P.underlying K = some (.int .i64)) (hm : Mf H g z (fun j => .bool (q j)))
    (hx : ev e x = some (.map (some g))) (hi : ev e ix = some (.int .i64 k)) (hy : ev e y = some (.bool b)) : OpCh P e (.mapUpdate T x ix y) H (fun _ H' => Mf H' g z (fun j => .bool (upF q k b j)) ∧ Tw g H H') := by
  refine OpCh.imp (OpCh.mapUpdateF hT hK hm hx hi hy) ?_
  rintro _ H' ⟨h3, h4⟩
  refine ⟨?_, h4⟩
  have : (fun j => Value.bool (upF q k b j)) = upF (fun j => .bool (q j)) k (.bool b) := by
    funext j; unfold upF; split <;> rfl
  rw [this]; exact h3
end
/- ---------------------------------------------- rows cut, and cleared -/
section
variable {α : Type} {r : Rp α} {F : PH} {B : Nat} {v : Value} {l : List α}
theorem OpOk.sliceLoG {T E : TypeId} {x lx : Operand} {k : IntKind} {I : Int} {lo : Nat} (hT : P.underlying T = some (.slice E)) (hE : Sz P E r.sz) (hs : Gl r E F H B v l) (hx : ev e x = some v) (hl : ev e lx = some (.int k I)) (hI : I = lo) (h2 : lo ≤ l.length) :
    OpOk P e (.slice T x (some lx) none none) H (JE.resl r.sz v lo l.length) := by
  obtain ⟨f, hf⟩ := hs.sl
  exact OpOk.sliceLo hT hE hf hx hl hI h2
theorem Gl.resl0 {E : TypeId} (h : Gl r E F H B v l) {hi : Nat} (h2 : hi ≤ l.length) : ∃ a c, JE.resl r.sz v 0 hi = .slice a hi c ∧ ((v = .slice none 0 0 ∧ hi = 0 ∧ a = none ∧ c = 0) ∨ ∃ g, a = some ⟨g, 0, none⟩ ∧ v = .slice (some ⟨g, 0, none⟩) l.length c) := by
  obtain ⟨xs, o1, _⟩ := h
  rcases o1.2 with ⟨e1, e2⟩ | ⟨g, cap, cur, e1, _⟩
  · subst e1
    obtain rfl : hi = 0 := by omega
    exact ⟨none, 0, rfl, .inl ⟨rfl, rfl, rfl, rfl⟩⟩
  · subst e1
    refine ⟨some ⟨g, 0, none⟩, cap, ?_, .inr ⟨g, rfl, rfl⟩⟩
    simp only [JE.resl, Nat.sub_zero, Nat.zero_mul]
    split
    · rfl
    · simp [Addr.add_none]
theorem Gl.cut {E : TypeId} (h : Gl r E F H B v l) {hi : Nat} (h2 : hi ≤ l.length) : Gl r E F H B (JE.resl r.sz v 0 hi) (l.take hi) ∧ (JE.resl r.sz v 0 hi).ownBlock = v.ownBlock := by
  obtain ⟨a, c, e0, hc⟩ := h.resl0 h2
  rw [e0]
  have hl : (l.take hi).length = hi := by rw [List.length_take]; omega
  rcases hc with ⟨rfl, rfl, rfl, rfl⟩ | ⟨g, rfl, e1⟩
  · refine ⟨?_, rfl⟩
    rw [List.take_zero]; exact Gl.nil F H B
  · subst e1
    refine ⟨?_, rfl⟩
    obtain ⟨xs, o1, o2, o3⟩ := h
    rcases o1.2 with ⟨e2, _⟩ | ⟨g', cap, cur, e2, hb, hg, hc1, hc2, hc3, hc4⟩
    · cases e2
    cases e2
    refine ⟨xs.take (hi * r.sz), ⟨?_, .inr ⟨g, c, cur, ?_, hb, hg, ?_, hc2, hc3, ?_⟩⟩, o2, ?_⟩
    · rw [List.length_take, o1.1, hl]; exact Nat.min_eq_left (Nat.mul_le_mul_right _ h2)
    · rw [hl]
    · rw [hl]; omega
    · rw [hl, ← hc4, List.take_take, Nat.min_eq_left (Nat.mul_le_mul_right _ h2)]
    · intro i hi9
      rw [hl] at hi9
      rw [List.getElem_take]
      refine r.ext ?_ (o3 i (by omega))
      intro j hj
      have : i * r.sz + j < hi * r.sz := by
        have h5 : (i + 1) * r.sz ≤ hi * r.sz := Nat.mul_le_mul_right _ hi9
        rw [Nat.add_mul, Nat.one_mul] at h5; omega
      simp only [List.getD_eq_getElem?_getD, List.getElem?_take_of_lt this]
theorem OpCh.clearG {T E : TypeId} {x : Operand} {bytes lo : Nat} {z : Value} {a0 : α} (hT : P.underlying T = some (.slice E)) (hE : (P.info? E).map (fun i => (i.zero, i.size, i.bytes)) = some (some z, 1, bytes)) (hs : r.sz = 1) (hz1 : z.cells = #[z]) (hz2 : z.oneCell' = true)
    (hok : r.ok F a0 (fun _ => z)) (hx : ev e x = some (JE.resl 1 v lo l.length)) (hown : Gl r E F H B v l) (h2 : lo < l.length) :
    OpCh P e (.call { callee := .builtin .clear, args := #[x], argTypes := #[T] }) H (fun u H' => u = .tuple #[] ∧ Kw (own1 v) H H' ∧ Gl r E F H' B v (l.take lo ++ List.replicate (l.length - lo) a0)) := by
  obtain ⟨inf, hi', hz0, _, _⟩ := info_parts hE
  have hzv : ∀ w, (zeroValue E).run P w = .ok z w := fun w => by simp [zeroValue, typeInfo, hi', hz0]
  obtain ⟨xs, o1, o2, o3⟩ := hown
  intro ρ o w ho hev hw
  rcases o1.2 with ⟨_, e2⟩ | ⟨gb, vc, cur, rfl, hbg, hg, hc1, hc2, hc3, hc4⟩
  · omega
  have hc1' : l.length ≤ vc := hc1
  have hcur : cur.size = vc := by rw [hc3, hs, Nat.mul_one]
  have hadr : (if vc = lo then some (⟨gb, 0, none⟩ : Addr) else (some (⟨gb, 0, none⟩ : Addr)).map (·.add (lo * 1))) = some ⟨gb, lo, none⟩ := by
    rw [if_neg (by omega)]; simp [Addr.add_none]
  simp only [JE.resl, hadr] at hx
  have hdst : ∀ j, j < l.length - lo → (w.cell? ⟨gb, lo + j, none⟩).isSome = true := by
    intro j hj
    have : lo + j < cur.size := by omega
    rw [cell_hc, hw]; simp [hc, hg, this]
  have hfr : ∀ j, j < l.length - lo → w.frozen? ⟨gb, lo + j, none⟩ = false := by intro j _; simp [World.frozen?, hw, hg]
  have hr := Go.Lib.run_clear_slice (P := P) w T E o.type z hT hzv hz1 hz2 gb lo (l.length - lo) (vc - lo) (by omega) hdst hfr
  obtain ⟨s1, s2, s3, s4⟩ := setCells_heap gb (List.replicate (l.length - lo) z) lo w
  have hlen : (l.take lo ++ List.replicate (l.length - lo) a0).length = l.length := by simp; omega
  refine ⟨.tuple #[], w.setCells gb lo (List.replicate (l.length - lo) z), .inl ?_, s2, s3, s4, rfl, ?_, ?_⟩
  · simp [execOp, ho, hev _ _ hx, resolve, invoke, builtin, hr, goInt]
  · rw [s1, hw]
    exact ⟨by rw [size_setl]; exact Nat.le_refl _, fun k hk hn => setl_other (by rintro rfl; exact hn rfl) _ _ _⟩
  · rw [s1, hw]
    refine ⟨setAt xs lo (List.replicate (l.length - lo) z), by rw [hlen]; exact Gr.setl _ lo o1 ⟨gb, rfl⟩ gb rfl, o2, fun i hi9 => ?_⟩
    rw [hlen] at hi9
    have hxl : xs.length = l.length := by rw [o1.1, hs, Nat.mul_one]
    rw [hs, Nat.mul_one]
    by_cases h1 : i < lo
    · rw [List.getElem_append_left (by rw [List.length_take]; omega), List.getElem_take]
      refine r.ext ?_ (o3 i (by omega))
      intro j hj
      obtain rfl : j = 0 := by omega
      rw [Nat.add_zero, setAt_get _ _ _ _ (by simp; omega), if_neg (by omega), hs, Nat.mul_one, Nat.add_zero]
    · rw [List.getElem_append_right (by rw [List.length_take]; omega), List.getElem_replicate]
      refine r.ext ?_ hok
      intro j hj
      obtain rfl : j = 0 := by omega
      rw [Nat.add_zero, setAt_get _ _ _ _ (by rw [List.length_replicate]; omega), if_pos ⟨by omega, by rw [List.length_replicate]; omega⟩, List.getD_eq_getElem?_getD, List.getElem?_replicate, if_pos (by omega)]
      rfl
end
end Go.JE
