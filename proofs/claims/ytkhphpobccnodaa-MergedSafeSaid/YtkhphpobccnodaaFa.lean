/- Closed facts of the translation, and the words in which the contracts speak. Conditions: none. -/
import Derived.Test.YtkhphpobccnodaaJr
import Derived.Test.YtkhphpobccnodaaRows
namespace Go.Proofs.Ytkhphpobccnodaa
open Go.JE

theorem Try.mixed : Try.prog.follows .mixedOrders = true := Checked.mixed Try.checked
theorem Try.sz3 : Sz Try.prog 3 1 := by unfold Sz; kernel_rfl
theorem Try.sz4 : Sz Try.prog 4 1 := by unfold Sz; kernel_rfl
theorem Try.sz22 : Sz Try.prog 22 1 := by unfold Sz; kernel_rfl
theorem Try.sz35 : Sz Try.prog 35 1 := by unfold Sz; kernel_rfl
theorem Try.sz36 : Sz Try.prog 36 1 := by unfold Sz; kernel_rfl
theorem Try.sz44 : Sz Try.prog 44 2 := by unfold Sz; kernel_rfl
theorem Try.one3 : One Try.prog 3 := ⟨_, Try.underlying3, rfl⟩
theorem Try.one4 : One Try.prog 4 := ⟨_, Try.underlying4, rfl⟩
theorem Try.one22 : One Try.prog 22 := ⟨_, Try.underlying22, rfl⟩
theorem Try.one23 : One Try.prog 23 := ⟨_, Try.underlying23, rfl⟩
theorem Try.one35 : One Try.prog 35 := ⟨_, Try.underlying35, rfl⟩
theorem Try.one36 : One Try.prog 36 := ⟨_, Try.underlying36, rfl⟩
theorem Try.one46 : One Try.prog 46 := ⟨_, Try.underlying46, rfl⟩
theorem Try.info3 : (Try.prog.info? 3).map (fun i => (i.zero, i.size, i.bytes)) = some (some (.int .i64 0), 1, 8) := by kernel_rfl
theorem Try.info4 : (Try.prog.info? 4).map (fun i => (i.zero, i.size, i.bytes)) = some (some (.bool false), 1, 1) := by kernel_rfl
theorem Try.info35 : (Try.prog.info? 35).map (fun i => (i.zero, i.size, i.bytes)) = some (some (.map none), 1, 8) := by kernel_rfl
theorem Try.info36 : (Try.prog.info? 36).map (fun i => (i.zero, i.size, i.bytes)) = some (some (.slice none 0 0), 1, 24) := by kernel_rfl
theorem Try.info44 : (Try.prog.info? 44).map (fun i => (i.zero, i.size, i.bytes)) = some (some (.agg #[.int .i64 0, .int .i64 0]), 2, 16) := by kernel_rfl

theorem Try.build44 (a b : Int) : ∀ w, (Instr.build 44 #[(0, .int .i64 a), (1, .int .i64 b)]).run Try.prog w = .ok (.agg #[.int .i64 a, .int .i64 b]) w := fun w => by kernel_rfl
theorem Try.zero4 : (Try.prog.info? 4).bind (·.zero) = some (.bool false) := by kernel_rfl
theorem Try.zero44 : (Try.prog.info? 44).bind (·.zero) = some (.agg #[.int .i64 0, .int .i64 0]) := by kernel_rfl

/-- a square of bools -/
def Mt (H : Heap) (B : Nat) (v : Value) (n : Nat) (f : Nat → Nat → Bool) : Prop := ∃ r : Nat → Value, Sl H B v 1 n r ∧ ∀ i, i < n → Sl H B (r i) 1 n (fun j => .bool (f i j))
def Bs (H : Heap) (B : Nat) (v : Value) (n : Nat) (f : Nat → Bool) : Prop := Sl H B v 1 n (fun j => .bool (f j))
/-- a list of numbers -/
def Ns (H : Heap) (B : Nat) (v : Value) (l : List Int) : Prop := Sl H B v 1 l.length (fun j => .int .i64 (l.getD j 0))
/-- a list of pairs -/
def pcell (l : List (Int × Int)) (i : Nat) : Value := .int .i64 (if i % 2 = 0 then (l.getD (i / 2) (0, 0)).1 else (l.getD (i / 2) (0, 0)).2)
def Ps (H : Heap) (B : Nat) (v : Value) (l : List (Int × Int)) : Prop := Sl H B v 2 l.length (pcell l)

theorem Ps.fst {H : Heap} {B k : Nat} {v : Value} {l : List (Int × Int)} (h : Ps H B v l) (hk : k < l.length) : hc H (vblk v) (voff v + k * 2 + 0 * 1) = some (.int .i64 (l.getD k (0, 0)).1) := by
  have := Sl.at h (i := k * 2) (by omega)
  simp only [elAt, pcell] at this
  rw [show (k * 2) % 2 = 0 by omega, show k * 2 / 2 = k by omega] at this
  simpa using this
theorem Ps.snd {H : Heap} {B k : Nat} {v : Value} {l : List (Int × Int)} (h : Ps H B v l) (hk : k < l.length) : hc H (vblk v) (voff v + k * 2 + 1 * 1) = some (.int .i64 (l.getD k (0, 0)).2) := by
  have := Sl.at h (i := k * 2 + 1) (by omega)
  simp only [elAt, pcell] at this
  rw [if_neg (by omega), show (k * 2 + 1) / 2 = k by omega, ← Nat.add_assoc] at this
  simpa using this

/-- a square of bools that the call owns: the rows lie in blocks of their own -/
structure Mo (H : Heap) (B : Nat) (v : Value) (m n : Nat) (rb : Nat → Nat) (f : Nat → Nat → Bool) : Prop where
  outer : Gr H B 36 1 v m ((List.range m).map fun i => .slice (some ⟨rb i, 0, none⟩) n n)
  row : ∀ i, i < m → B ≤ rb i ∧ Rw H (rb i) 4 n (fun j => .bool (f i j))
  apart : ∀ i j, i < m → j < m → rb i = rb j → i = j
theorem Mo.sl {H : Heap} {B m n : Nat} {v : Value} {rb : Nat → Nat} {f : Nat → Nat → Bool} (h : Mo H B v m n rb f) : Sl H H.size v 1 m (fun i => .slice (some ⟨rb i, 0, none⟩) n n) :=
  h.outer.sl (fun i hi => by simp at hi; simp [hi])
theorem Mo.mt {H : Heap} {B n : Nat} {v : Value} {rb : Nat → Nat} {f : Nat → Nat → Bool} (h : Mo H B v n n rb f) (hn : n ≤ 9223372036854775807) : Mt H H.size v n f :=
  ⟨_, h.sl, fun i hi => (h.row i hi).2.sl (h.row i hi).2.lt (by omega) hn (Nat.le_refl _)⟩
theorem Mo.set {H : Heap} {B m n : Nat} {v : Value} {rb : Nat → Nat} {f : Nat → Nat → Bool} (h : Mo H B v m n rb f) {a b : Nat} (ha : a < m) (x : Bool) :
    Mo (setc H (rb a) b (.bool x)) B v m n rb (fun i j => if i = a ∧ j = b then x else f i j) := by
  refine ⟨h.outer.setOther (h.outer.type_ne (h.row a ha).2 (by decide)), fun i hi => ⟨(h.row i hi).1, ?_⟩, h.apart⟩
  by_cases e1 : i = a
  · subst e1
    exact ((h.row i hi).2.set).congr (fun j _ => by by_cases e2 : j = b <;> simp [e2])
  · exact ((h.row i hi).2.setOther (fun e2 => e1 (h.apart i a hi ha e2))).congr (fun j _ => by simp [e1])

/-- how many of the first k nodes are there and beside a -/
def degS (f : Nat → Nat → Bool) (g : Nat → Bool) (a : Nat) : Nat → Nat
  | 0 => 0
  | k + 1 => degS f g a k + (if g k && f a k then 1 else 0)
theorem degS_le (f : Nat → Nat → Bool) (g : Nat → Bool) (a : Nat) : ∀ k, degS f g a k ≤ k
  | 0 => Nat.le_refl _
  | k + 1 => by have := degS_le f g a k; simp only [degS]; split <;> omega
theorem Try.ent9 : Ent Try.prog 9 := ⟨_, Try.func9, by kernel_rfl, by kernel_rfl⟩
theorem Try.ent10 : Ent Try.prog 10 := ⟨_, Try.func10, by kernel_rfl, by kernel_rfl⟩
theorem Try.ent12 : Ent Try.prog 12 := ⟨_, Try.func12, by kernel_rfl, by kernel_rfl⟩
theorem Try.ent13 : Ent Try.prog 13 := ⟨_, Try.func13, by kernel_rfl, by kernel_rfl⟩
theorem Try.ent14 : Ent Try.prog 14 := ⟨_, Try.func14, by kernel_rfl, by kernel_rfl⟩
theorem Try.ent15 : Ent Try.prog 15 := ⟨_, Try.func15, by kernel_rfl, by kernel_rfl⟩
theorem Try.ent16 : Ent Try.prog 16 := ⟨_, Try.func16, by kernel_rfl, by kernel_rfl⟩
theorem Try.ent17 : Ent Try.prog 17 := ⟨_, Try.func17, by kernel_rfl, by kernel_rfl⟩
theorem Try.ent18 : Ent Try.prog 18 := ⟨_, Try.func18, by kernel_rfl, by kernel_rfl⟩
theorem Try.ent11 : Ent Try.prog 11 := ⟨_, Try.func11, by kernel_rfl, by kernel_rfl⟩
theorem Try.ent21 : Ent Try.prog 21 := ⟨_, Try.func21, by kernel_rfl, by kernel_rfl⟩
theorem Try.ent26 : Ent Try.prog 26 := ⟨_, Try.func26, by kernel_rfl, by kernel_rfl⟩
theorem Try.ent27 : Ent Try.prog 27 := ⟨_, Try.func27, by kernel_rfl, by kernel_rfl⟩
theorem Try.ent28 : Ent Try.prog 28 := ⟨_, Try.func28, by kernel_rfl, by kernel_rfl⟩
theorem Try.ent7 : Ent Try.prog 7 := ⟨_, Try.func7, by kernel_rfl, by kernel_rfl⟩
theorem Try.ent8 : Ent Try.prog 8 := ⟨_, Try.func8, by kernel_rfl, by kernel_rfl⟩
theorem Try.ent19 : Ent Try.prog 19 := ⟨_, Try.func19, by kernel_rfl, by kernel_rfl⟩
theorem Try.ent22 : Ent Try.prog 22 := ⟨_, Try.func22, by kernel_rfl, by kernel_rfl⟩
theorem Try.ent23 : Ent Try.prog 23 := ⟨_, Try.func23, by kernel_rfl, by kernel_rfl⟩
theorem Try.ent24 : Ent Try.prog 24 := ⟨_, Try.func24, by kernel_rfl, by kernel_rfl⟩
theorem Try.ent25 : Ent Try.prog 25 := ⟨_, Try.func25, by kernel_rfl, by kernel_rfl⟩
theorem Try.ent29 : Ent Try.prog 29 := ⟨_, Try.func29, by kernel_rfl, by kernel_rfl⟩
theorem Try.ent30 : Ent Try.prog 30 := ⟨_, Try.func30, by kernel_rfl, by kernel_rfl⟩
theorem Try.ent20 : Ent Try.prog 20 := ⟨_, Try.func20, by kernel_rfl, by kernel_rfl⟩
end Go.Proofs.Ytkhphpobccnodaa
