/- Arguments opened: what a statement hands in, as frozen data of the whole heap. Conditions: each rule names its own; lemmas over any program. -/
import Derived.Test.YtcceglmmpbdhiaaJt
import Derived.Test.YtcceglmmpbdhiaaJx
namespace Go.JE
set_option linter.unusedVariables false
set_option linter.unusedSimpArgs false
set_option linter.unusedSectionVars false
open Go.ChangeShapes Go.RowKit
variable {P : Program}
def heapF (W : World) : PH := fun b => W.heap[b]?
theorem inH_heapF (W : World) : InH (heapF W) W.heap := fun _ _ h => h
theorem pc_heapF {W : World} {b o : Nat} {v : Value} (h : W.cell? ⟨b, o, none⟩ = some v) : pc (heapF W) b o = some v := by
  rw [cell_hc] at h
  unfold hc at h
  unfold pc heapF
  exact h
theorem spot_none {W : World} {a : Addr} {v : Value} (h : W.cell? (a.add 0) = some v) : a.spot = none := by
  simp only [Addr.add, if_true, World.cell?] at h
  cases ha : a.spot with
  | none => rfl
  | some y => rw [ha] at h; split at h <;> simp at h
theorem add_add (a : Addr) (i j : Nat) (h : a.spot = none) : (a.add i).add j = ⟨a.block, a.off + (i + j), none⟩ := by
  obtain ⟨b, o, s⟩ := a
  simp only at h; subst h
  rw [Addr.add_none, Addr.add_none, Nat.add_assoc]
/-- data of type T are read as r says -/
def Opens {α : Type} (P : Program) (T : TypeId) (r : Rp α) : Prop :=
  ∀ {H : Type} {enc : TypeId × Value → H} {W : World} {held : Bool} {fuel : Nat} {cs : List Value} {x : DataW H × List MemPlace},
    DataW.trod enc P W 0 (fun _ => true) held fuel T cs = some x → cs.length = r.sz ∧ ∃ m, r.ok (heapF W) m (fun i => cs.getD i undef)
theorem wf_wrap {k : IntKind} {n : Int} (h : (Lit.int k n).wf = true) : k.wrap n = n := by
  have h1 : (decide (k.min ≤ n) && decide (n ≤ k.max)) = true := h
  rw [Bool.and_eq_true, decide_eq_true_eq, decide_eq_true_eq] at h1
  cases k <;> first
    | exact IntWalk.i64_in n h1 | exact IntWalk.i32_in n h1 | exact IntWalk.u8_in n h1 | exact IntWalk.u16_in n h1 | exact IntWalk.u32_in n h1 | exact IntWalk.u64_in n h1 | exact IntWalk.i8_in n h1 | exact IntWalk.i16_in n h1
    | (simp only [IntKind.wrap, IntKind.min, IntKind.max, IntKind.bits, IntKind.signed] at h1 ⊢; simp at h1 ⊢; omega)
theorem Opens.int {T : TypeId} {k : IntKind} (ht : P.underlying T = some (.int k)) : Opens P T (rI k) := by
  intro H enc W held fuel cs x h
  obtain ⟨n, rfl, _, hw⟩ := DataW.trod_int ht h
  exact ⟨rfl, n, rfl, wf_wrap hw⟩
theorem Opens.bool {T : TypeId} (ht : P.underlying T = some .bool) : Opens P T rB := by
  intro H enc W held fuel cs x h
  obtain ⟨n, rfl, _⟩ := DataW.trod_bool ht h
  exact ⟨rfl, n, rfl⟩
theorem Opens.string {T : TypeId} (ht : P.underlying T = some .string) : Opens P T rS := by
  intro H enc W held fuel cs x h
  obtain ⟨n, rfl, _⟩ := DataW.trod_string ht h
  exact ⟨rfl, n, rfl⟩
theorem Opens.slice {α : Type} {T e : TypeId} {r : Rp α} (ht : P.underlying T = some (.slice e)) (he : Opens P e r) (hs : P.cellsOf e = r.sz) (h0 : 0 < r.sz) : Opens P T (rLn 9223372036854775808 r) := by
  intro H enc W held fuel cs x h
  rcases Deep.open_slice ht h with ⟨rfl, _⟩ | ⟨a, len, cap, m, n, D, Pl, rfl, _, hl, hm, hm2, _, hcell⟩
  · exact ⟨rfl, [], rL.nil0 (by decide) _⟩
  · simp only [if_true] at hm2
    have hmax : cap ≤ 9223372036854775807 := by unfold maxLen at hm; omega
    have hex : ∀ k, k ≤ len → ∃ l : List α, l.length = k ∧ ∀ i (hi : i < l.length), ∃ c, W.cells? 0 (a.add (i * r.sz)) r.sz = some c ∧ r.ok (heapF W) l[i] (fun j => c.getD j undef) := by
      intro k
      induction k with
      | zero => exact fun _ => ⟨[], rfl, fun i hi => by simp at hi⟩
      | succ k ih =>
        intro hk
        obtain ⟨l, hll, h1⟩ := ih (by omega)
        obtain ⟨c, h2, h3⟩ := hcell k (by omega)
        obtain ⟨_, z, h4⟩ := he h3
        rw [hs] at h2
        refine ⟨l ++ [z], by simp [hll], fun i hi => ?_⟩
        by_cases h5 : i < l.length
        · rw [List.getElem_append_left h5]; exact h1 i h5
        · have h6 : i = k := by simp at hi; omega
          subst h6
          rw [List.getElem_append_right (by omega)]
          exact ⟨c, h2, by simpa [hll] using h4⟩
    obtain ⟨l, hll, hel⟩ := hex len (Nat.le_refl _)
    subst hll
    have hcells : ∀ i, i < l.length * r.sz → ∃ (h1 : i / r.sz < l.length) (c : List Value), r.ok (heapF W) l[i / r.sz] (fun j => c.getD j undef) ∧ W.cell? ((a.add (i / r.sz * r.sz)).add (i % r.sz)) = c[i % r.sz]? ∧ i % r.sz < c.length := by
      intro i hi
      have h1 : i / r.sz < l.length := Nat.div_lt_of_lt_mul (by rw [Nat.mul_comm]; exact hi)
      obtain ⟨c, h2, h3⟩ := hel _ h1
      have h4 := World.cells?_some h2
      exact ⟨h1, c, h3, h4.2.2 _ (Nat.mod_lt _ h0), by rw [h4.2.1]; exact Nat.mod_lt _ h0⟩
    have hsp : ∀ i, i < l.length * r.sz → a.spot = none := by
      intro i hi
      obtain ⟨c, h2, h3⟩ := hel 0 (by rcases Nat.eq_zero_or_pos l.length with h9 | h9; (· rw [h9] at hi; simp at hi); exact h9)
      have h4 := (World.cells?_some h2).2.2 0 h0
      have h5 : 0 < c.length := by rw [(World.cells?_some h2).2.1]; exact h0
      rw [List.getElem?_eq_getElem h5] at h4
      have h6 := spot_none h4
      simpa [Addr.add] using h6
    have hpc : ∀ i, i < l.length → ∀ j, j < r.sz → ∀ c, W.cells? 0 (a.add (i * r.sz)) r.sz = some c → pc (heapF W) a.block (a.off + (i * r.sz + j)) = some (c.getD j undef) := by
      intro i hi j hj c h2
      have hb : i * r.sz + j < l.length * r.sz := by
        have : (i + 1) * r.sz ≤ l.length * r.sz := Nat.mul_le_mul_right _ hi
        rw [Nat.add_mul] at this; omega
      have h4 := (World.cells?_some h2).2.2 j hj
      have h5 : j < c.length := by rw [(World.cells?_some h2).2.1]; exact hj
      rw [List.getElem?_eq_getElem h5, add_add _ _ _ (hsp _ hb)] at h4
      rw [pc_heapF h4]; simp [List.getD, h5]
    refine ⟨rfl, l, ⟨by omega, by omega⟩, some a, cap, rfl, hl, fun i hi => ?_, fun i => (pc (heapF W) a.block (a.off + i)).getD undef, fun i hi => ?_, fun i hi => ?_⟩
    · have := hsp i hi
      obtain ⟨b, o, s⟩ := a
      simp only at this; subst this
      exact ⟨b, o, rfl⟩
    · obtain ⟨c, h2, h3⟩ := hel (i / r.sz) (Nat.div_lt_of_lt_mul (by rw [Nat.mul_comm]; exact hi))
      have h4 := hpc (i / r.sz) (Nat.div_lt_of_lt_mul (by rw [Nat.mul_comm]; exact hi)) (i % r.sz) (Nat.mod_lt _ h0) c h2
      rw [Nat.div_add_mod'] at h4
      show pc (heapF W) a.block (a.off + i) = some ((pc (heapF W) a.block (a.off + i)).getD undef)
      rw [h4]; rfl
    · obtain ⟨c, h2, h3⟩ := hel i hi
      refine r.ext (fun j hj => ?_) h3
      show c.getD j undef = (pc (heapF W) a.block (a.off + (i * r.sz + j))).getD undef
      rw [hpc i hi j hj c h2]; rfl
theorem Opens.array {α : Type} {T e : TypeId} {n : Nat} {r : Rp α} (ht : P.underlying T = some (.array n e)) (he : Opens P e r) (hs : P.cellsOf e = r.sz) (hT : P.cellsOf T = n * r.sz) : Opens P T (rA n r) := by
  intro H enc W held fuel cs x h
  obtain ⟨xs, m, _, _, hl, hx, hel⟩ := DataW.trod_array ht h
  have hex : ∀ k, k ≤ n → ∃ l : List α, l.length = k ∧ ∀ i (hi : i < l.length), r.ok (heapF W) l[i] (fun j => cs.getD (i * r.sz + j) undef) := by
    intro k
    induction k with
    | zero => exact fun _ => ⟨[], rfl, fun i hi => by simp at hi⟩
    | succ k ih =>
      intro hk
      obtain ⟨l, hll, h1⟩ := ih (by omega)
      have h3 := hel k (by omega)
      rw [List.getElem?_eq_getElem (by omega)] at h3
      obtain ⟨_, z, h4⟩ := he h3
      refine ⟨l ++ [z], by simp [hll], fun i hi => ?_⟩
      by_cases h5 : i < l.length
      · rw [List.getElem_append_left h5]; exact h1 i h5
      · have h6 : i = k := by simp at hi; omega
        subst h6
        rw [List.getElem_append_right (by omega)]
        simp only [hll, Nat.sub_self, List.getElem_cons_zero]
        refine r.ext (fun j hj => ?_) h4
        rw [hs]; simp [List.getD, List.getElem?_take, hj]
  obtain ⟨l, hll, h1⟩ := hex n (Nat.le_refl _)
  exact ⟨hl.trans hT, l, hll, h1⟩
/-- a field of a struct -/
theorem Opens.field {α H : Type} {enc : TypeId × Value → H} {W : World} {held : Bool} {T : TypeId} {r : Rp α} (he : Opens P T r) (hs : P.cellsOf T = r.sz) {off n i : Nat} {cs : List Value} {xs : List (DataW H × List MemPlace)}
    (h : DataW.trod enc P W 0 (fun _ => true) held n T ((cs.drop off).take (P.cellsOf T)) = xs[i]?) (hi : i < xs.length) : ∃ m, r.ok (heapF W) m (fun j => cs.getD (off + j) undef) := by
  rw [List.getElem?_eq_getElem hi] at h
  obtain ⟨_, z, h4⟩ := he h
  refine ⟨z, r.ext (fun j hj => ?_) h4⟩
  rw [hs]; simp [List.getD, List.getElem?_take, hj]
theorem okAt {α : Type} {r : Rp α} {F : PH} {m : α} {cs : List Value} {off : Nat} (h : r.ok F m (fun j => cs.getD (off + j) undef)) (g : Nat → Nat) (hg : ∀ j, g j = off + j) : r.ok F m (fun j => cs.getD (g j) undef) :=
  r.ext (fun j _ => by rw [hg]) h
/-- an argument of one cell -/
theorem Opens.arg1 {α H : Type} {enc : TypeId × Value → H} {W : World} {held : Bool} {T : TypeId} {r : Rp α} {v : Value} {d : DataW H} {p : List MemPlace} (he : Opens P T r) (hc : v.cells.toList = [v]) (hr : r.sz = 1) (h : DataW.Trod enc P W 0 (fun _ => true) held T v d p) : ∃ m, r.rv (heapF W) v m := by
  obtain ⟨f, h⟩ := h
  rw [hc] at h
  obtain ⟨_, m, h1⟩ := he h
  refine ⟨m, r.ext (fun j hj => ?_) h1⟩
  rw [show j = 0 by omega]; rfl
theorem Opens.argA {α H : Type} {enc : TypeId × Value → H} {W : World} {held : Bool} {T : TypeId} {r : Rp α} {cs : Array Value} {d : DataW H} {p : List MemPlace} (he : Opens P T r) (h : DataW.Trod enc P W 0 (fun _ => true) held T (.agg cs) d p) : ∃ m, r.ra (heapF W) (.agg cs) m := by
  obtain ⟨f, h⟩ := h
  obtain ⟨h2, m, h1⟩ := he (show DataW.trod enc P W 0 (fun _ => true) held f T cs.toList = _ from h)
  exact ⟨m, cs.toList, by simp, h2, h1⟩

theorem Opens.agg {α H : Type} {enc : TypeId × Value → H} {W : World} {held : Bool} {T : TypeId} {r : Rp α} {v : Value} {d : DataW H} {p : List MemPlace} {n : Nat} (_ : P.cellsOf T = n) (hn : n ≠ 1) (he : Opens P T r) (hr : r.sz = n) (h : DataW.Trod enc P W 0 (fun _ => true) held T v d p) : ∃ cs, v = .agg cs := by
  obtain ⟨f, h⟩ := h
  obtain ⟨h2, _⟩ := he h
  cases v with
  | agg cs => exact ⟨cs, rfl⟩
  | _ => exact absurd (hr.symm.trans h2.symm) hn
/- ---------------------------------------------- boxes that hold arrays -/
section
variable {e : Env} {H : Heap} {g : Nat} {T : TypeId}
theorem OpOk.ldBxI {k : IntKind} {l : List Int} {i o : Nat} {x : Operand} {T' : TypeId} (hb : Bx H g T (l.map (Value.int k))) (hi : i < l.length) (ho : o = i) (hT : One P T') (hx : ev e x = some (.pointer (some ⟨g, o, none⟩))) : OpOk P e (.load T' x) H (.int k (ix l i)) := by
  subst ho
  refine OpOk.ldBx hb hT hx ?_
  rw [List.getElem?_map, List.getElem?_eq_getElem hi, ix_eq hi]; rfl
theorem Bx.freeze {α : Type} {r : Rp α} {a : α} {l : List Value} {F F0 : PH} {H0 : Heap} (h : Bx H g T l) (hin : InH F H) (hx : PH.ext H0 F0 F) (hg : H0.size ≤ g) (hF : F g = none) (hok : r.ok F a (fun i => l.getD i undef)) (hl : l.length = r.sz) :
    ∃ G, PH.ext H0 F0 G ∧ F.le G ∧ InH G H ∧ (∀ k, k ≠ g → G k = F k) ∧ At G r g 0 a := by
  refine ⟨F.add g (.cells l.toArray T (0, 0)), hx.add hF hg, PH.le_add hF, hin.add h, fun k hk => by unfold PH.add; rw [if_neg hk], fun i => l.getD i undef, fun i hi => ?_, r.up (PH.le_add hF) hok⟩
  unfold pc PH.add
  rw [if_pos rfl, Nat.zero_add]
  simp [List.getD, show i < l.length by omega]
/-- the whole of an array, as a slice -/
theorem rL.ofArr {α : Type} {r : Rp α} {F : PH} {n b o : Nat} {l : List α} (h : At F (rA n r) b o l) (hn : n < 1073741824) : (rL r).rv F (.slice (some ⟨b, o, none⟩) n n) l := by
  obtain ⟨f, h1, h2, h3⟩ := h
  subst h2
  exact ⟨⟨hn, by omega⟩, some ⟨b, o, none⟩, l.length, rfl, Nat.le_refl _, fun i hi => ⟨b, o, rfl⟩, f, fun i hi => h1 i hi, h3⟩
theorem OpOk.sliceArr {E : TypeId} {n b o s : Nat} {x : Operand} (hT : P.underlying T = some (.array n E)) (hE : Sz P E s) (hx : ev e x = some (.pointer (some ⟨b, o, none⟩))) : OpOk P e (.slice T x none none none) H (.slice (some ⟨b, o, none⟩) n n) := by
  intro ρ o' w ho hev _
  simp [execOp, ho, hev _ _ hx, Instr.sliceAt, Instr.slice, Instr.sliceBounds, run_underlying hT, Addr.add, Instr.sureAddr, hE.run]
theorem Gl.flatI {k : IntKind} {F G : PH} {B : Nat} {v : Value} {l : List Int} (h : Gl (rI k) T G H B v l) (hl : F.le G) : Gl (rI k) T F H B v l := by
  obtain ⟨xs, h1, h2, h3⟩ := h
  refine ⟨xs, h1, fun b hb => ?_, h3⟩
  cases hF : F b with
  | none => rfl
  | some o => have := hl b o hF; rw [h2 b hb] at this; cases this
end

/- ---------------------------------------------- guards that are known -/
section
variable {n : Fs} {w0 : World} {Q : Exit → Act → World → Prop} {l : List Oper} {ops : Array Oper} {rest : List Oper} {z : Bool} {S : Heap → Prop} {fuel d : Nat} {listed : Array Bool} {op : Op} {ty : TypeId} {pos : String} {af : Array Edge} {p : Value → Prop} {e : Env} {H : Heap} {j t : Nat} {want : Bool} {u v : Value}
theorem LF.gstepK (hj : (ops[j]?).bind (·.dst) = some t) (hu : lk e t = some u) (hB : Gd u want true) (h : OpOk P e op H v)
    (K : LF P n w0 ops Q ((d, v) :: e) rest H) (hd : Nat.blt d n.sz = true := by rfl) (ht : Nat.blt t n.sz = true := by rfl) : LF P n w0 ops Q e (⟨some d, op, ty, pos, af, some (j, want)⟩ :: rest) H :=
  LF.gstep hj hu hB (fun _ => h) K hd ht
theorem LF.gstepEK (hj : (ops[j]?).bind (·.dst) = some t) (hu : lk e t = some u) (hB : Gd u want true) (h : ∃ v, OpOk P e op H v ∧ p v)
    (K : ∀ v, p v → LF P n w0 ops Q ((d, v) :: e) rest H) (hd : Nat.blt d n.sz = true := by rfl) (ht : Nat.blt t n.sz = true := by rfl) : LF P n w0 ops Q e (⟨some d, op, ty, pos, af, some (j, want)⟩ :: rest) H := by
  obtain ⟨v, h1, h2⟩ := h; exact LF.gstepK hj hu hB h1 (K v h2) hd ht
theorem LF.gcallK {f : FuncId} {args : Array Value} {R : Value → Heap → Prop} (hj : (ops[j]?).bind (·.dst) = some t) (hu : lk e t = some u) (hB : Gd u want true) (h : OpCall P e op H f args) (hc : Ct P f args H R)
    (K : ∀ v H', R v H' → LF P n w0 ops Q ((d, v) :: e) rest H') (hd : Nat.blt d n.sz = true := by rfl) (ht : Nat.blt t n.sz = true := by rfl) : LF P n w0 ops Q e (⟨some d, op, ty, pos, af, some (j, want)⟩ :: rest) H :=
  LF.gcallF hj hu hB (fun _ => h) (fun _ => hc) (fun v H' z => by rcases z with ⟨_, hR⟩ | ⟨h9, _⟩; (· exact K v H' hR); cases h9) hd ht
theorem AF.gtakeK (i : Nat) (hi : l[i]? = some ⟨some d, op, ty, pos, af, some (j, want)⟩) (hs : Region.noSelect l.toArray = true) (hfr : Region.free .any l.toArray listed i = true) (hr : (Region.ready .any l.toArray listed).contains i = true) (hS : S H)
    (hj : (l.toArray[j]?).bind (·.dst) = some t) (hu : lk e t = some u) (hB : Gd u want true) (h : ∀ H', S H' → OpOk P e op H' v) (K : AF P n w0 l.toArray Q z S fuel (listed.setIfInBounds i true) ((d, v) :: e) H)
    (hd : Nat.blt d n.sz = true := by rfl) (ht : Nat.blt t n.sz = true := by rfl) (hz : z = false ∨ waits l.toArray listed i = true := by first | exact .inl rfl | exact .inr (by kernel_rfl)) : AF P n w0 l.toArray Q z S (fuel + 1) listed e H :=
  AF.gtake i hi hs hfr hr hS hj hu hB (fun _ => h) K hd ht hz
theorem AF.gtakeEK (i : Nat) (hi : l[i]? = some ⟨some d, op, ty, pos, af, some (j, want)⟩) (hs : Region.noSelect l.toArray = true) (hfr : Region.free .any l.toArray listed i = true) (hr : (Region.ready .any l.toArray listed).contains i = true) (hS : S H)
    (hj : (l.toArray[j]?).bind (·.dst) = some t) (hu : lk e t = some u) (hB : Gd u want true) (h : ∃ v, (∀ H', S H' → OpOk P e op H' v) ∧ p v) (K : ∀ v, p v → AF P n w0 l.toArray Q z S fuel (listed.setIfInBounds i true) ((d, v) :: e) H)
    (hd : Nat.blt d n.sz = true := by rfl) (ht : Nat.blt t n.sz = true := by rfl) (hz : z = false ∨ waits l.toArray listed i = true := by first | exact .inl rfl | exact .inr (by kernel_rfl)) : AF P n w0 l.toArray Q z S (fuel + 1) listed e H := by
  obtain ⟨v, h1, h2⟩ := h; exact AF.gtakeK i hi hs hfr hr hS hj hu hB h1 (K v h2) hd ht hz
theorem AF.gcallK (i : Nat) {f : FuncId} {args : Array Value} {R : Value → Heap → Prop} (hi : l[i]? = some ⟨some d, op, ty, pos, af, some (j, want)⟩) (hr : Region.ready .any l.toArray listed = [i])
    (hj : (l.toArray[j]?).bind (·.dst) = some t) (hu : lk e t = some u) (hB : Gd u want true) (h : OpCall P e op H f args) (hc : Ct P f args H R) (hS : ∀ v H', R v H' → S H')
    (K : ∀ v H', R v H' → AF P n w0 l.toArray Q z S fuel (listed.setIfInBounds i true) ((d, v) :: e) H') (hd : Nat.blt d n.sz = true := by rfl) (ht : Nat.blt t n.sz = true := by rfl) : AF P n w0 l.toArray Q z S (fuel + 1) listed e H := by
  intro a w hf hw
  refine wpAnyH_one hr ?_
  have hwt := wanted_gd (ops := l.toArray) (o := ⟨some d, op, ty, pos, af, some (j, want)⟩) rfl hj ht hf hu hB
  unfold wpOp
  simp only [List.getElem?_toArray, hi]
  rw [if_pos hwt]
  refine .inl ?_
  unfold Oper.wp
  rw [h a.eval _ w rfl (fun x u hx => hf.ev hx) hw.heap, Oper.upon_enter]
  refine (hc w hw.heap).mono fun x w' ⟨v, hx, h1, h2, h3, hR⟩ => ?_
  subst hx
  exact ⟨fun _ => hS _ _ hR, K _ _ hR _ _ (hf.put hd v) ⟨rfl, h1.trans hw.os, h2.trans hw.tape, h3.trans hw.output⟩⟩
end
theorem gpure {H H' : Heap} {B : Bool} {p : Prop} (z : (B = true ∧ p ∧ H' = H) ∨ (B = false ∧ H' = H)) : H' = H := by
  rcases z with ⟨_, _, z⟩ | ⟨_, z⟩ <;> exact z
theorem AFN.call {n : Fs} {w0 : World} {Q : Exit → Act → World → Prop} {l : List Oper} {z : Bool} {S : Heap → Prop} {fuel i d : Nat} {listed : Array Bool} {op : Op} {ty : TypeId} {pos : String} {af : Array Edge} {e : Env} {H : Heap} {f : FuncId} {args : Array Value} {R : Value → Heap → Prop} (hi : l[i]? = some ⟨some d, op, ty, pos, af, none⟩) (h : OpCall P e op H f args) (hc : Ct P f args H R)
    (K : ∀ v H', R v H' → S H' ∧ AF P n w0 l.toArray Q z S fuel (listed.setIfInBounds i true) ((d, v) :: e) H') (hd : Nat.blt d n.sz = true := by rfl) : AF.Next P n w0 l Q z S fuel listed e H i := by
  intro a w hf hw
  unfold wpOp
  simp only [List.getElem?_toArray, hi]
  rw [if_pos (by simp [Region.wanted])]
  refine .inl ?_
  unfold Oper.wp
  rw [h a.eval _ w rfl (fun x u hx => hf.ev hx) hw.heap, Oper.upon_enter]
  refine (hc w hw.heap).mono fun x w' ⟨v, hx, h1, h2, h3, hR⟩ => ?_
  subst hx
  obtain ⟨k1, k2⟩ := K _ _ hR
  exact ⟨fun _ => k1, k2 _ _ (hf.put hd v) ⟨rfl, h1.trans hw.os, h2.trans hw.tape, h3.trans hw.output⟩⟩
theorem AFN.callL {n : Fs} {w0 : World} {Q : Exit → Act → World → Prop} {l : List Oper} {z : Bool} {S : Heap → Prop} {fuel i d : Nat} {listed : Array Bool} {op : Op} {ty : TypeId} {pos : String} {af : Array Edge} {e : Env} {H : Heap} {f : FuncId} {args : Array Value} {R : Value → Heap → Prop} (hi : l[i]? = some ⟨some d, op, ty, pos, af, none⟩) (hl : leftB (listed.setIfInBounds i true) → False) (hz : z = true) (h : OpCall P e op H f args) (hc : Ct P f args H R)
    (K : ∀ v H', R v H' → AF P n w0 l.toArray Q z S fuel (listed.setIfInBounds i true) ((d, v) :: e) H') (hd : Nat.blt d n.sz = true := by rfl) : AF.Next P n w0 l Q z S fuel listed e H i := by
  intro a w hf hw
  unfold wpOp
  simp only [List.getElem?_toArray, hi]
  rw [if_pos (by simp [Region.wanted])]
  refine .inl ?_
  unfold Oper.wp
  rw [h a.eval _ w rfl (fun x u hx => hf.ev hx) hw.heap, Oper.upon_enter]
  refine (hc w hw.heap).mono fun x w' ⟨v, hx, h1, h2, h3, hR⟩ => ?_
  subst hx
  exact ⟨fun h9 => (h9.elim (fun h => by rw [hz] at h; cases h) (fun h => (hl h).elim)), K _ _ hR _ _ (hf.put hd v) ⟨rfl, h1.trans hw.os, h2.trans hw.tape, h3.trans hw.output⟩⟩
/-- all have come up -/
theorem noleft {listed : Array Bool} (h : listed.all (fun b => b) = true) : leftB listed → False := by
  rintro ⟨k, hk⟩
  rw [Array.all_eq_true] at h
  rw [Array.getD_eq_getD_getElem?] at hk
  by_cases hl : k < listed.size
  · rw [Array.getElem?_eq_getElem hl] at hk
    have := h k hl
    simp at hk this; rw [hk] at this; cases this
  · rw [Array.getElem?_eq_none (by omega)] at hk; cases hk
end Go.JE
