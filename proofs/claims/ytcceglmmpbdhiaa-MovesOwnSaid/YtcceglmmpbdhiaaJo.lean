/- The walking engine, operations one by one. Conditions: each rule names its own; lemmas over any program. -/
import Derived.Test.YtcceglmmpbdhiaaJe
namespace Go.JE
set_option linter.unusedVariables false
set_option linter.unusedSimpArgs false
set_option linter.unusedSectionVars false
variable {P : Program} {e : Env} {H : Heap}

theorem run_bind_ok {α β : Type} {x : Sem α} {f : α → Sem β} {w w' : World} {a : α} (h : x.run P w = .ok a w') : (x >>= f).run P w = (f a).run P w' := by
  rw [Sem.run_bind, h]; rfl

/- ---------------------------------------------- copies -/
theorem OpOk.move {x : Operand} {v : Value} (hx : ev e x = some v) : OpOk P e (.move x) H v := by
  intro ρ o w ho hev _
  simp [execOp, ho, hev _ _ hx]
theorem OpOk.assign {x : Operand} {v : Value} (hx : ev e x = some v) : OpOk P e (.assign x) H v := by
  intro ρ o w ho hev _
  simp [execOp, ho, hev _ _ hx]
theorem OpOk.pick {c x y : Operand} {b : Bool} {u v : Value} (hc : ev e c = some (.bool b)) (hx : ev e x = some u) (hy : ev e y = some v) : OpOk P e (.pick c x y) H (bif b then u else v) := by
  intro ρ o w ho hev _
  cases b <;> simp [execOp, ho, hev _ _ hx, hev _ _ hy, hev _ _ hc, asBool]
/-- x && y, y reckoned where x holds -/
theorem OpOk.pickAnd {c x : Operand} {b b2 : Bool} (hc : ev e c = some (.bool b)) (hx : ev e x = some (gv b (.bool b2))) : OpOk P e (.pick c x (.const (.bool false))) H (.bool (b && b2)) := by
  intro ρ o w ho hev _
  have h3 : ρ (.const (.bool false)) = .bool false := hev _ _ rfl
  cases b <;> simp [execOp, ho, hev _ _ hx, h3, hev _ _ hc, asBool, gv]
/-- x || y -/
theorem OpOk.pickOr {c x : Operand} {b b2 : Bool} (hc : ev e c = some (.bool b)) (hx : ev e x = some (gv (!b) (.bool b2))) : OpOk P e (.pick c (.const (.bool true)) x) H (.bool (b || b2)) := by
  intro ρ o w ho hev _
  have h3 : ρ (.const (.bool true)) = .bool true := hev _ _ rfl
  cases b <;> simp [execOp, ho, hev _ _ hx, h3, hev _ _ hc, asBool, gv]
/-- the same where the whole stands under a guard C -/
theorem OpOk.pickAnd2 {c x : Operand} {C b b2 : Bool} (hC : C = true) (hc : ev e c = some (gv C (.bool b))) (hx : ev e x = some (gv (C && b) (.bool b2))) : OpOk P e (.pick c x (.const (.bool false))) H (.bool (b && b2)) := by
  subst hC; exact OpOk.pickAnd hc (by simpa using hx)
theorem OpOk.pickOr2 {c x : Operand} {C b b2 : Bool} (hC : C = true) (hc : ev e c = some (gv C (.bool b))) (hx : ev e x = some (gv (C && !b) (.bool b2))) : OpOk P e (.pick c (.const (.bool true)) x) H (.bool (b || b2)) := by
  subst hC; exact OpOk.pickOr hc (by simpa using hx)
theorem OpOk.not {T : TypeId} {x : Operand} {b : Bool} (hx : ev e x = some (.bool b)) : OpOk P e (.unOp .not T x) H (.bool (!b)) := by
  intro ρ o w ho hev _
  simp [execOp, ho, hev _ _ hx, Op.unary]
theorem OpOk.neg {T : TypeId} {x : Operand} {k : IntKind} {m r : Int} (hx : ev e x = some (.int k m)) (hr : k.wrap (0 - m) = r) : OpOk P e (.unOp .neg T x) H (.int k r) := by
  intro ρ o w ho hev _
  simp only [execOp, ho, hev _ _ hx, Op.unary, Op.intArith, hr]; rfl
theorem OpOk.extract {x : Operand} {vs : Array Value} {i : Nat} {v : Value} (hx : ev e x = some (.tuple vs)) (hi : vs[i]? = some v) : OpOk P e (.extract x i) H v := by
  intro ρ o w ho hev _
  simp [execOp, ho, hev _ _ hx, Instr.extract, hi]
theorem OpOk.nilCheck {x : Operand} {a : Addr} (hx : ev e x = some (.pointer (some a))) : OpOk P e (.nilCheck x) H (.pointer (some a)) := by
  intro ρ o w ho hev _
  simp [execOp, ho, hev _ _ hx]
theorem OpOk.makeFunc0 {fn : Fn} : OpOk P e (.makeFunc fn #[] #[]) H (.func fn #[] #[]) := by
  intro ρ o w ho _ _
  simp [execOp, ho, Instr.makeFunc]
theorem OpOk.makeFunc1 {fn : Fn} {x1 : Operand} {v1 : Value} (h1 : ev e x1 = some v1) : OpOk P e (.makeFunc fn #[] #[x1]) H (.func fn #[] #[v1]) := by
  intro ρ o w ho hev _
  simp [execOp, ho, Instr.makeFunc, hev _ _ h1]
theorem OpOk.makeFunc2 {fn : Fn} {x1 x2 : Operand} {v1 v2 : Value} (h1 : ev e x1 = some v1) (h2 : ev e x2 = some v2) : OpOk P e (.makeFunc fn #[] #[x1, x2]) H (.func fn #[] #[v1, v2]) := by
  intro ρ o w ho hev _
  simp [execOp, ho, Instr.makeFunc, hev _ _ h1, hev _ _ h2]
theorem OpOk.makeFunc3 {fn : Fn} {x1 x2 x3 : Operand} {v1 v2 v3 : Value} (h1 : ev e x1 = some v1) (h2 : ev e x2 = some v2) (h3 : ev e x3 = some v3) : OpOk P e (.makeFunc fn #[] #[x1, x2, x3]) H (.func fn #[] #[v1, v2, v3]) := by
  intro ρ o w ho hev _
  simp [execOp, ho, Instr.makeFunc, hev _ _ h1, hev _ _ h2, hev _ _ h3]
theorem OpOk.makeFunc4 {fn : Fn} {x1 x2 x3 x4 : Operand} {v1 v2 v3 v4 : Value} (h1 : ev e x1 = some v1) (h2 : ev e x2 = some v2) (h3 : ev e x3 = some v3) (h4 : ev e x4 = some v4) : OpOk P e (.makeFunc fn #[] #[x1, x2, x3, x4]) H (.func fn #[] #[v1, v2, v3, v4]) := by
  intro ρ o w ho hev _
  simp [execOp, ho, Instr.makeFunc, hev _ _ h1, hev _ _ h2, hev _ _ h3, hev _ _ h4]

theorem OpOk.makeFunc5 {fn : Fn} {x1 x2 x3 x4 x5 : Operand} {v1 v2 v3 v4 v5 : Value} (h1 : ev e x1 = some v1) (h2 : ev e x2 = some v2) (h3 : ev e x3 = some v3) (h4 : ev e x4 = some v4) (h5 : ev e x5 = some v5) : OpOk P e (.makeFunc fn #[] #[x1, x2, x3, x4, x5]) H (.func fn #[] #[v1, v2, v3, v4, v5]) := by
  intro ρ o w ho hev _
  simp [execOp, ho, Instr.makeFunc, hev _ _ h1, hev _ _ h2, hev _ _ h3, hev _ _ h4, hev _ _ h5]

/- ---------------------------------------------- integers -/
theorem wrap_i64 {m : Int} (h : -9223372036854775808 ≤ m ∧ m ≤ 9223372036854775807) : IntKind.i64.wrap m = m := IntWalk.i64_in m h
theorem wrap_i32 {m : Int} (h : -2147483648 ≤ m ∧ m ≤ 2147483647) : IntKind.i32.wrap m = m := IntWalk.i32_in m h

section
variable {T T' : TypeId} {x y : Operand} {k : IntKind} {m n r : Int}
theorem binInt {op : BinOp} {s : Sem Value} {v : Value} (hx : ev e x = some (.int k m)) (hy : ev e y = some (.int k n)) (hop : binOp op T (.int k m) (.int k n) = s) (hs : ∀ w, s.run P w = .ok v w) : OpOk P e (.binOp op T x y T') H v := by
  intro ρ o w ho hev _
  have h1 := hev _ _ hx
  have h2 := hev _ _ hy
  have hq : (eqGuard op T x y (.int k m) (.int k n)) = pure () := by
    unfold eqGuard; split <;> rfl
  simp only [execOp, ho, h1, h2, hq, hop]
  rw [run_bind_ok (a := v) (w' := w)]
  · rfl
  · rw [run_bind_ok (a := ()) (w' := w) rfl]; exact hs w
theorem OpOk.addw (hx : ev e x = some (.int k m)) (hy : ev e y = some (.int k n)) (hr : k.wrap (m + n) = r) : OpOk P e (.binOp .add T x y T') H (.int k r) :=
  binInt hx hy (by simp only [binOp, ne_eq, not_true_eq_false, if_false, Op.intArith, hr]; rfl) (fun _ => rfl)
theorem OpOk.subw (hx : ev e x = some (.int k m)) (hy : ev e y = some (.int k n)) (hr : k.wrap (m - n) = r) : OpOk P e (.binOp .sub T x y T') H (.int k r) :=
  binInt hx hy (by simp only [binOp, ne_eq, not_true_eq_false, if_false, Op.intArith, hr]; rfl) (fun _ => rfl)
theorem OpOk.mulw (hx : ev e x = some (.int k m)) (hy : ev e y = some (.int k n)) (hr : k.wrap (m * n) = r) : OpOk P e (.binOp .mul T x y T') H (.int k r) :=
  binInt hx hy (by simp only [binOp, ne_eq, not_true_eq_false, if_false, Op.intArith, hr]; rfl) (fun _ => rfl)
theorem OpOk.add (hx : ev e x = some (.int .i64 m)) (hy : ev e y = some (.int .i64 n)) (hr : -9223372036854775808 ≤ m + n ∧ m + n ≤ 9223372036854775807) : OpOk P e (.binOp .add T x y T') H (.int .i64 (m + n)) :=
  OpOk.addw hx hy (wrap_i64 hr)
theorem OpOk.sub (hx : ev e x = some (.int .i64 m)) (hy : ev e y = some (.int .i64 n)) (hr : -9223372036854775808 ≤ m - n ∧ m - n ≤ 9223372036854775807) : OpOk P e (.binOp .sub T x y T') H (.int .i64 (m - n)) :=
  OpOk.subw hx hy (wrap_i64 hr)
theorem OpOk.mul (hx : ev e x = some (.int .i64 m)) (hy : ev e y = some (.int .i64 n)) (hr : -9223372036854775808 ≤ m * n ∧ m * n ≤ 9223372036854775807) : OpOk P e (.binOp .mul T x y T') H (.int .i64 (m * n)) :=
  OpOk.mulw hx hy (wrap_i64 hr)
theorem OpOk.rem (hx : ev e x = some (.int k m)) (hy : ev e y = some (.int k n)) (h0 : n ≠ 0) : OpOk P e (.binOp .rem T x y T') H (.int k (m.tmod n)) :=
  binInt hx hy (by simp only [binOp, ne_eq, not_true_eq_false, Op.intDiv, h0, if_false]; rfl) (fun _ => rfl)
theorem OpOk.quow (hx : ev e x = some (.int k m)) (hy : ev e y = some (.int k n)) (h0 : n ≠ 0) (hr : k.wrap (m.tdiv n) = r) : OpOk P e (.binOp .quo T x y T') H (.int k r) :=
  binInt hx hy (by simp only [binOp, ne_eq, not_true_eq_false, Op.intDiv, h0, if_false, hr]; rfl) (fun _ => rfl)
theorem OpOk.lss (hx : ev e x = some (.int k m)) (hy : ev e y = some (.int k n)) : OpOk P e (.binOp .lss T x y T') H (.bool (decide (m < n))) :=
  binInt hx hy (by simp only [binOp, ne_eq, not_true_eq_false, if_false, Op.intCmp]; rfl) (fun _ => rfl)
theorem OpOk.leq (hx : ev e x = some (.int k m)) (hy : ev e y = some (.int k n)) : OpOk P e (.binOp .leq T x y T') H (.bool (decide (m ≤ n))) :=
  binInt hx hy (by simp only [binOp, ne_eq, not_true_eq_false, if_false, Op.intCmp]; rfl) (fun _ => rfl)
theorem OpOk.gtr (hx : ev e x = some (.int k m)) (hy : ev e y = some (.int k n)) : OpOk P e (.binOp .gtr T x y T') H (.bool (decide (n < m))) :=
  binInt hx hy (by simp only [binOp, ne_eq, not_true_eq_false, if_false, Op.intCmp]; rfl) (fun _ => rfl)
theorem OpOk.geq (hx : ev e x = some (.int k m)) (hy : ev e y = some (.int k n)) : OpOk P e (.binOp .geq T x y T') H (.bool (decide (n ≤ m))) :=
  binInt hx hy (by simp only [binOp, ne_eq, not_true_eq_false, if_false, Op.intCmp]; rfl) (fun _ => rfl)
theorem OpOk.eql (hx : ev e x = some (.int k m)) (hy : ev e y = some (.int k n)) : OpOk P e (.binOp .eql T x y T') H (.bool (decide (m = n))) :=
  binInt hx hy (by simp only [binOp, ne_eq, not_true_eq_false, if_false, Op.intCmp]; rfl) (fun w => by simp; rfl)
theorem OpOk.neq (hx : ev e x = some (.int k m)) (hy : ev e y = some (.int k n)) : OpOk P e (.binOp .neq T x y T') H (.bool (!decide (m = n))) :=
  binInt hx hy (by simp only [binOp, ne_eq, not_true_eq_false, if_false, Op.intCmp]; rfl) (fun w => by by_cases h : m = n <;> simp [h])
end
theorem equalIn_bool {T : TypeId} {b c : Bool} (hT : P.underlying T = some .bool) (d : Nat) (w : World) : (Op.equalIn (d + 1) T (.bool b) (.bool c)).run P w = .ok (b == c) w := by
  simp only [Op.equalIn, Sem.run_bind, run_underlying hT, Result.andThen_ok]; rfl
theorem OpOk.eqlB {T T' : TypeId} {x y : Operand} {b c : Bool} (hT : P.underlying T = some .bool) (hx : ev e x = some (.bool b)) (hy : ev e y = some (.bool c)) : OpOk P e (.binOp .eql T x y T') H (.bool (b == c)) := by
  intro ρ o w ho hev _
  have h1 : (Op.equal T (.bool b) (.bool c)).run P w = .ok (b == c) w := equalIn_bool hT 9999 w
  simp only [execOp, ho, hev _ _ hx, hev _ _ hy, eqGuard, binOp]
  simp [h1]
theorem OpOk.neqB {T T' : TypeId} {x y : Operand} {b c : Bool} (hT : P.underlying T = some .bool) (hx : ev e x = some (.bool b)) (hy : ev e y = some (.bool c)) : OpOk P e (.binOp .neq T x y T') H (.bool (!(b == c))) := by
  intro ρ o w ho hev _
  have h1 : (Op.equal T (.bool b) (.bool c)).run P w = .ok (b == c) w := equalIn_bool hT 9999 w
  simp only [execOp, ho, hev _ _ hx, hev _ _ hy, eqGuard, binOp]
  simp [h1]

/- ---------------------------------------------- memory: the heap's cells -/
def hc (H : Heap) (b o : Nat) : Option Value :=
  match H[b]? with
  | some (.cells c _ _) => c[o]?
  | _ => none
theorem cell_hc {w : World} {b o : Nat} : w.cell? ⟨b, o, none⟩ = hc w.heap b o := by
  unfold World.cell? hc
  cases w.heap[b]? with
  | none => rfl
  | some x => cases x <;> simp

def vblk : Value → Nat
  | .slice (some a) _ _ => a.block
  | _ => 0
def voff : Value → Nat
  | .slice (some a) _ _ => a.off
  | _ => 0
/-- the address of cell i of a slice -/
def elAt (v : Value) (i : Nat) : Addr := ⟨vblk v, voff v + i, none⟩

/-- a slice value of n elements of s cells: its cells read f; all lie in blocks below B -/
def Sl (H : Heap) (B : Nat) (v : Value) (s n : Nat) (f : Nat → Value) : Prop :=
  n ≤ 9223372036854775807 ∧ ∃ a cap, v = .slice a n cap ∧ n ≤ cap ∧ (∀ i, i < n * s → ∃ b o, a = some ⟨b, o, none⟩ ∧ b < B ∧ hc H b (o + i) = some (f i))

theorem Sl.len {B : Nat} {v : Value} {s n : Nat} {f : Nat → Value} (h : Sl H B v s n f) : n ≤ 9223372036854775807 := h.1
theorem Sl.at {B : Nat} {v : Value} {s n : Nat} {f : Nat → Value} (h : Sl H B v s n f) {i : Nat} (hi : i < n * s) : hc H (elAt v i).block (elAt v i).off = some (f i) := by
  obtain ⟨_, a, cap, rfl, _, h⟩ := h
  obtain ⟨b, o, rfl, _, h⟩ := h i hi
  exact h
theorem Sl.mono {B B' : Nat} {v : Value} {s n : Nat} {f : Nat → Value} {H' : Heap} (h : Sl H B v s n f) (hB : B ≤ B') (hH : ∀ k, k < B → H'[k]? = H[k]?) : Sl H' B' v s n f := by
  obtain ⟨h1, a, cap, rfl, hc', h⟩ := h
  refine ⟨h1, a, cap, rfl, hc', fun i hi => ?_⟩
  obtain ⟨b, o, e1, hb, h⟩ := h i hi
  refine ⟨b, o, e1, by omega, ?_⟩
  unfold hc at h ⊢
  rw [hH b hb]; exact h
theorem Sl.nil {s : Nat} {f : Nat → Value} (H : Heap) (B : Nat) : Sl H B (.slice none 0 0) s 0 f := ⟨by omega, none, 0, rfl, Nat.le_refl _, fun i hi => by simp at hi⟩
theorem Sl.congr {B : Nat} {v : Value} {s n : Nat} {f g : Nat → Value} (h : Sl H B v s n f) (hfg : ∀ i, i < n * s → f i = g i) : Sl H B v s n g := by
  obtain ⟨h1, a, cap, rfl, hc', h⟩ := h
  refine ⟨h1, a, cap, rfl, hc', fun i hi => ?_⟩
  obtain ⟨b, o, e1, hb, h⟩ := h i hi
  exact ⟨b, o, e1, hb, by rw [h, hfg i hi]⟩

theorem OpOk.lenS {T : TypeId} {x : Operand} {a : Option Addr} {n c : Nat} {E : TypeId} (hT : P.underlying T = some (.slice E)) (hx : ev e x = some (.slice a n c)) : OpOk P e (.call { callee := .builtin .len, args := #[x], argTypes := #[T] }) H (.int .i64 n) := by
  intro ρ o w ho hev _
  simp [execOp, ho, hev _ _ hx, resolve, invoke, builtin, Builtin.len_, run_underlying hT, goInt]
theorem OpOk.lenSl {T : TypeId} {x : Operand} {B : Nat} {v : Value} {s n : Nat} {f : Nat → Value} {E : TypeId} (hT : P.underlying T = some (.slice E)) (hs : Sl H B v s n f) (hx : ev e x = some v) : OpOk P e (.call { callee := .builtin .len, args := #[x], argTypes := #[T] }) H (.int .i64 n) := by
  obtain ⟨_, a, cap, rfl, _⟩ := hs
  exact OpOk.lenS hT hx

/-- the size in cells of a type, by one closed fact -/
def Sz (P : Program) (t : TypeId) (s : Nat) : Prop := (P.info? t).map (·.size) = some s
theorem Sz.run {t : TypeId} {s : Nat} (h : Sz P t s) (w : World) : (sizeOf t).run P w = .ok s w := by
  obtain ⟨i, hi, rfl⟩ := Option.map_eq_some_iff.1 h
  simp [sizeOf, typeInfo, hi]

theorem OpOk.indexA {T E : TypeId} {x ix : Operand} {b o len cap : Nat} {k : IntKind} {i : Int} {s : Nat} (hT : P.underlying T = some (.slice E)) (hE : Sz P E s) (hx : ev e x = some (.slice (some ⟨b, o, none⟩) len cap)) (hi : ev e ix = some (.int k i)) (h0 : 0 ≤ i) (h1 : i < len) :
    OpOk P e (.indexAddr T x ix) H (.pointer (some ⟨b, o + i.toNat * s, none⟩)) := by
  intro ρ oo w ho hev _
  have hadd : (⟨b, o, none⟩ : Addr).add (i.toNat * s) = ⟨b, o + i.toNat * s, none⟩ := by
    unfold Addr.add; split
    · rename_i h; rw [h]; rfl
    · rfl
  simp [execOp, ho, hev _ _ hx, hev _ _ hi, Instr.indexAt, asIntOf, run_underlying hT, h0, h1, hE.run, hadd]
theorem OpOk.index {T E : TypeId} {x ix : Operand} {B : Nat} {v : Value} {s n : Nat} {f : Nat → Value} {k : IntKind} {i : Int} (hT : P.underlying T = some (.slice E)) (hE : Sz P E s) (hs : Sl H B v s n f) (hx : ev e x = some v) (hi : ev e ix = some (.int k i)) (h0 : 0 ≤ i) (h1 : i < n) (hsz : 0 < s := by omega) :
    OpOk P e (.indexAddr T x ix) H (.pointer (some (elAt v (i.toNat * s)))) := by
  obtain ⟨_, a, cap, rfl, _, h⟩ := hs
  obtain ⟨b, o, rfl, _, _⟩ := h 0 (Nat.mul_pos (by omega) hsz)
  exact OpOk.indexA hT hE hx hi h0 h1

/-- an element of one cell, its index a natural number -/
theorem OpOk.idx {T E : TypeId} {x ix : Operand} {B : Nat} {v : Value} {n i : Nat} {f : Nat → Value} {k : IntKind} {I : Int} (hT : P.underlying T = some (.slice E)) (hE : Sz P E 1) (hs : Sl H B v 1 n f) (hx : ev e x = some v) (hi : ev e ix = some (.int k I)) (hI : I = i) (h1 : i < n) :
    OpOk P e (.indexAddr T x ix) H (.pointer (some (elAt v i))) := by
  have := OpOk.index hT hE hs hx hi (by omega) (by omega)
  simpa [hI] using this
theorem OpOk.idxs {T E : TypeId} {x ix : Operand} {B : Nat} {v : Value} {n i s : Nat} {f : Nat → Value} {k : IntKind} {I : Int} (hT : P.underlying T = some (.slice E)) (hE : Sz P E s) (hs : Sl H B v s n f) (hx : ev e x = some v) (hi : ev e ix = some (.int k I)) (hI : I = i) (h1 : i < n) (hsz : 0 < s := by decide) :
    OpOk P e (.indexAddr T x ix) H (.pointer (some (elAt v (i * s)))) := by
  have := OpOk.index hT hE hs hx hi (by omega) (by omega) hsz
  simpa [hI] using this

/-- a type of one cell that is neither struct nor array -/
def One (P : Program) (t : TypeId) : Prop := ∃ d, P.underlying t = some d ∧ (match d with | .struct _ | .array _ _ => false | _ => true) = true
theorem One.run {t : TypeId} (h : One P t) (w : World) : (isAgg t).run P w = .ok false w := by
  obtain ⟨d, hd, hm⟩ := h
  cases d <;> simp_all [isAgg, run_underlying hd]
theorem OpOk.load {T : TypeId} {x : Operand} {a : Addr} {v : Value} (hT : One P T) (hx : ev e x = some (.pointer (some a))) (hs : a.spot = none) (hcell : hc H a.block a.off = some v) : OpOk P e (.load T x) H v := by
  intro ρ o w ho hev hw
  have h1 : w.cell? a = some v := by
    obtain ⟨b, o, sp⟩ := a
    simp only at hs hcell
    subst hs
    rw [cell_hc, hw]; exact hcell
  simp [execOp, ho, hev _ _ hx, Instr.loadAt, Instr.sureAddr, loadVar, hT.run, h1]
/-- a cell of a slice -/
theorem OpOk.loadSl {T : TypeId} {x : Operand} {B : Nat} {v : Value} {s n i : Nat} {f : Nat → Value} (hT : One P T) (hs : Sl H B v s n f) (hx : ev e x = some (.pointer (some (elAt v i)))) (hi : i < n * s) : OpOk P e (.load T x) H (f i) :=
  OpOk.load hT hx rfl (hs.at hi)
end Go.JE
