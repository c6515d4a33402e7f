/- The data of the code. Conditions: none. -/
import Derived.Test.YtcceglmmpbdhiaaJy
import Derived.Test.YtcceglmmpbdhiaaRows
namespace Go.Proofs.Ytcceglmmpbdhiaa
set_option linter.unusedVariables false
set_option linter.unusedSimpArgs false
set_option linter.unusedSectionVars false
set_option maxRecDepth 8000
open Go.JE


structure D.Move where
  To : Int
  From : Int
deriving DecidableEq
instance : Inhabited D.Move := ⟨⟨0, 0⟩⟩
def rMove : Rp D.Move := rM (rP (rI .i64) (rI .i64)) (fun m => (m.To, m.From))
theorem rMove_sz : rMove.sz = 2 := rfl
theorem rMove.at_To {F : PH} {b o : Nat} {m : D.Move} (h : At F rMove b o m) : At F (rI .i64) b (o + 0) m.To := At.part 0 h (Nat.le_of_ble_eq_true rfl) (fun _ h => h.1)
theorem rMove.at_From {F : PH} {b o : Nat} {m : D.Move} (h : At F rMove b o m) : At F (rI .i64) b (o + 1) m.From := At.part 1 h (Nat.le_of_ble_eq_true rfl) (fun _ h => h.2)
theorem rMove.any {F : PH} {v : Value} {m : D.Move} (h : rMove.ra F v m) : ∃ f, rMove.ok F m f := by obtain ⟨l, _, _, h⟩ := h; exact ⟨_, h⟩
theorem rMove.w_To {F : PH} {m : D.Move} (h : ∃ f, rMove.ok F m f) : IntKind.i64.wrap m.To = m.To := by obtain ⟨_, h⟩ := h; exact (h.1).2
theorem rMove.w_From {F : PH} {m : D.Move} (h : ∃ f, rMove.ok F m f) : IntKind.i64.wrap m.From = m.From := by obtain ⟨_, h⟩ := h; exact (h.2).2
theorem rMove.open {F : PH} {v : Value} {m : D.Move} (h : rMove.ra F v m) : v = .agg #[.int .i64 m.To, .int .i64 m.From] := by
  obtain ⟨l, rfl, hl, h⟩ := h
  match l, hl with
  | [a0, a1], _ =>
    obtain ⟨⟨h0, _⟩, ⟨h1, _⟩⟩ := h
    obtain rfl : a0 = _ := h0
    obtain rfl : a1 = _ := h1
    exact rfl
theorem rMove.opens : Opens Try.prog 31 rMove := by
  intro H enc W held fuel cs x h
  obtain ⟨xs, n, _, _, hlen, hx, hel⟩ := DataW.trod_struct Try.underlying31 h
  have hx2 : xs.length = 2 := hx
  obtain ⟨m0, h0⟩ := Opens.field (Opens.int Try.underlying3) (by kernel_rfl) (hel 0 _ rfl) (by omega)
  obtain ⟨m1, h1⟩ := Opens.field (Opens.int Try.underlying3) (by kernel_rfl) (hel 1 _ rfl) (by omega)
  exact ⟨hlen.trans (by kernel_rfl), ⟨m0, m1⟩, ⟨okAt h0 _ (fun j => (Nat.zero_add _).symm), okAt h1 _ (fun j => Nat.add_comm j 1)⟩⟩
theorem rMove.mk {F : PH} {m : D.Move}   (w0 : IntKind.i64.wrap m.To = m.To) (w1 : IntKind.i64.wrap m.From = m.From) : rMove.ra F (.agg #[.int .i64 m.To, .int .i64 m.From]) m := ⟨[.int .i64 m.To, .int .i64 m.From], rfl, rfl, ⟨⟨rfl, w0⟩, ⟨rfl, w1⟩⟩⟩
structure D.Mach where
  Op : Int
  D : Int
  E : Int
  A : Int
  B : Int
  C : Int
  Imm : Int
  Args : List Int
deriving DecidableEq
instance : Inhabited D.Mach := ⟨⟨0, 0, 0, 0, 0, 0, 0, []⟩⟩
def rMachN (N : Nat) : Rp D.Mach := rM (rP (rI .i64) (rP (rI .i64) (rP (rI .i64) (rP (rI .i64) (rP (rI .i64) (rP (rI .i64) (rP (rI .i32) (rLn N (rI .i64))))))))) (fun m => (m.Op, m.D, m.E, m.A, m.B, m.C, m.Imm, m.Args))
abbrev rMach : Rp D.Mach := rMachN 1073741824
theorem rMach_sz : rMach.sz = 8 := rfl
theorem rMach.at_Op {N : Nat} {F : PH} {b o : Nat} {m : D.Mach} (h : At F (rMachN N) b o m) : At F (rI .i64) b (o + 0) m.Op := At.part 0 h (Nat.le_of_ble_eq_true rfl) (fun _ h => h.1)
theorem rMach.at_D {N : Nat} {F : PH} {b o : Nat} {m : D.Mach} (h : At F (rMachN N) b o m) : At F (rI .i64) b (o + 1) m.D := At.part 1 h (Nat.le_of_ble_eq_true rfl) (fun _ h => h.2.1)
theorem rMach.at_E {N : Nat} {F : PH} {b o : Nat} {m : D.Mach} (h : At F (rMachN N) b o m) : At F (rI .i64) b (o + 2) m.E := At.part 2 h (Nat.le_of_ble_eq_true rfl) (fun _ h => h.2.2.1)
theorem rMach.at_A {N : Nat} {F : PH} {b o : Nat} {m : D.Mach} (h : At F (rMachN N) b o m) : At F (rI .i64) b (o + 3) m.A := At.part 3 h (Nat.le_of_ble_eq_true rfl) (fun _ h => h.2.2.2.1)
theorem rMach.at_B {N : Nat} {F : PH} {b o : Nat} {m : D.Mach} (h : At F (rMachN N) b o m) : At F (rI .i64) b (o + 4) m.B := At.part 4 h (Nat.le_of_ble_eq_true rfl) (fun _ h => h.2.2.2.2.1)
theorem rMach.at_C {N : Nat} {F : PH} {b o : Nat} {m : D.Mach} (h : At F (rMachN N) b o m) : At F (rI .i64) b (o + 5) m.C := At.part 5 h (Nat.le_of_ble_eq_true rfl) (fun _ h => h.2.2.2.2.2.1)
theorem rMach.at_Imm {N : Nat} {F : PH} {b o : Nat} {m : D.Mach} (h : At F (rMachN N) b o m) : At F (rI .i32) b (o + 6) m.Imm := At.part 6 h (Nat.le_of_ble_eq_true rfl) (fun _ h => h.2.2.2.2.2.2.1)
theorem rMach.at_Args {N : Nat} {F : PH} {b o : Nat} {m : D.Mach} (h : At F (rMachN N) b o m) : At F (rLn N (rI .i64)) b (o + 7) m.Args := At.part 7 h (Nat.le_of_ble_eq_true rfl) (fun _ h => h.2.2.2.2.2.2.2)
theorem rMach.any {N : Nat} {F : PH} {v : Value} {m : D.Mach} (h : (rMachN N).ra F v m) : ∃ f, (rMachN N).ok F m f := by obtain ⟨l, _, _, h⟩ := h; exact ⟨_, h⟩
theorem rMach.w_Op {N : Nat} {F : PH} {m : D.Mach} (h : ∃ f, (rMachN N).ok F m f) : IntKind.i64.wrap m.Op = m.Op := by obtain ⟨_, h⟩ := h; exact (h.1).2
theorem rMach.w_D {N : Nat} {F : PH} {m : D.Mach} (h : ∃ f, (rMachN N).ok F m f) : IntKind.i64.wrap m.D = m.D := by obtain ⟨_, h⟩ := h; exact (h.2.1).2
theorem rMach.w_E {N : Nat} {F : PH} {m : D.Mach} (h : ∃ f, (rMachN N).ok F m f) : IntKind.i64.wrap m.E = m.E := by obtain ⟨_, h⟩ := h; exact (h.2.2.1).2
theorem rMach.w_A {N : Nat} {F : PH} {m : D.Mach} (h : ∃ f, (rMachN N).ok F m f) : IntKind.i64.wrap m.A = m.A := by obtain ⟨_, h⟩ := h; exact (h.2.2.2.1).2
theorem rMach.w_B {N : Nat} {F : PH} {m : D.Mach} (h : ∃ f, (rMachN N).ok F m f) : IntKind.i64.wrap m.B = m.B := by obtain ⟨_, h⟩ := h; exact (h.2.2.2.2.1).2
theorem rMach.w_C {N : Nat} {F : PH} {m : D.Mach} (h : ∃ f, (rMachN N).ok F m f) : IntKind.i64.wrap m.C = m.C := by obtain ⟨_, h⟩ := h; exact (h.2.2.2.2.2.1).2
theorem rMach.w_Imm {N : Nat} {F : PH} {m : D.Mach} (h : ∃ f, (rMachN N).ok F m f) : IntKind.i32.wrap m.Imm = m.Imm := by obtain ⟨_, h⟩ := h; exact (h.2.2.2.2.2.2.1).2
theorem rMach.open {N : Nat} {F : PH} {v : Value} {m : D.Mach} (h : (rMachN N).ra F v m) : ∃ c7, v = .agg #[.int .i64 m.Op, .int .i64 m.D, .int .i64 m.E, .int .i64 m.A, .int .i64 m.B, .int .i64 m.C, .int .i32 m.Imm, c7] ∧ (rLn N (rI .i64)).rv F c7 m.Args := by
  obtain ⟨l, rfl, hl, h⟩ := h
  match l, hl with
  | [a0, a1, a2, a3, a4, a5, a6, a7], _ =>
    obtain ⟨⟨h0, _⟩, ⟨h1, _⟩, ⟨h2, _⟩, ⟨h3, _⟩, ⟨h4, _⟩, ⟨h5, _⟩, ⟨h6, _⟩, h7⟩ := h
    obtain rfl : a0 = _ := h0
    obtain rfl : a1 = _ := h1
    obtain rfl : a2 = _ := h2
    obtain rfl : a3 = _ := h3
    obtain rfl : a4 = _ := h4
    obtain rfl : a5 = _ := h5
    obtain rfl : a6 = _ := h6
    exact ⟨a7, rfl, h7⟩
theorem rMach.opens : Opens Try.prog 39 (rMachN 9223372036854775808) := by
  intro H enc W held fuel cs x h
  obtain ⟨xs, n, _, _, hlen, hx, hel⟩ := DataW.trod_struct Try.underlying39 h
  have hx2 : xs.length = 8 := hx
  obtain ⟨m0, h0⟩ := Opens.field (Opens.int Try.underlying3) (by kernel_rfl) (hel 0 _ rfl) (by omega)
  obtain ⟨m1, h1⟩ := Opens.field (Opens.int Try.underlying3) (by kernel_rfl) (hel 1 _ rfl) (by omega)
  obtain ⟨m2, h2⟩ := Opens.field (Opens.int Try.underlying3) (by kernel_rfl) (hel 2 _ rfl) (by omega)
  obtain ⟨m3, h3⟩ := Opens.field (Opens.int Try.underlying3) (by kernel_rfl) (hel 3 _ rfl) (by omega)
  obtain ⟨m4, h4⟩ := Opens.field (Opens.int Try.underlying3) (by kernel_rfl) (hel 4 _ rfl) (by omega)
  obtain ⟨m5, h5⟩ := Opens.field (Opens.int Try.underlying3) (by kernel_rfl) (hel 5 _ rfl) (by omega)
  obtain ⟨m6, h6⟩ := Opens.field (Opens.int Try.underlying21) (by kernel_rfl) (hel 6 _ rfl) (by omega)
  obtain ⟨m7, h7⟩ := Opens.field (Opens.slice Try.underlying23 (Opens.int Try.underlying3) (by kernel_rfl) (by decide)) (by kernel_rfl) (hel 7 _ rfl) (by omega)
  exact ⟨hlen.trans (by kernel_rfl), ⟨m0, m1, m2, m3, m4, m5, m6, m7⟩, ⟨okAt h0 _ (fun j => (Nat.zero_add _).symm), okAt h1 _ (fun j => Nat.add_comm j 1), okAt h2 _ (fun j => Nat.add_comm j 2), okAt h3 _ (fun j => Nat.add_comm j 3), okAt h4 _ (fun j => Nat.add_comm j 4), okAt h5 _ (fun j => Nat.add_comm j 5), okAt h6 _ (fun j => Nat.add_comm j 6), okAt h7 _ (fun j => Nat.add_comm j 7)⟩⟩
theorem rMach.mk {N : Nat} {F : PH} {m : D.Mach} {c7 : Value} (h7 : (rLn N (rI .i64)).rv F c7 m.Args) (w0 : IntKind.i64.wrap m.Op = m.Op) (w1 : IntKind.i64.wrap m.D = m.D) (w2 : IntKind.i64.wrap m.E = m.E) (w3 : IntKind.i64.wrap m.A = m.A) (w4 : IntKind.i64.wrap m.B = m.B) (w5 : IntKind.i64.wrap m.C = m.C) (w6 : IntKind.i32.wrap m.Imm = m.Imm) : (rMachN N).ra F (.agg #[.int .i64 m.Op, .int .i64 m.D, .int .i64 m.E, .int .i64 m.A, .int .i64 m.B, .int .i64 m.C, .int .i32 m.Imm, c7]) m := ⟨[.int .i64 m.Op, .int .i64 m.D, .int .i64 m.E, .int .i64 m.A, .int .i64 m.B, .int .i64 m.C, .int .i32 m.Imm, c7], rfl, rfl, ⟨⟨rfl, w0⟩, ⟨rfl, w1⟩, ⟨rfl, w2⟩, ⟨rfl, w3⟩, ⟨rfl, w4⟩, ⟨rfl, w5⟩, ⟨rfl, w6⟩, h7⟩⟩
structure D.jacquardref11_Got where
  L : List D.Mach
  E : Int
deriving DecidableEq
instance : Inhabited D.jacquardref11_Got := ⟨⟨[], 0⟩⟩
def rjacquardref11_GotN (N : Nat) : Rp D.jacquardref11_Got := rM (rP (rLn N (rMachN N)) (rI .i64)) (fun m => (m.L, m.E))
abbrev rjacquardref11_Got : Rp D.jacquardref11_Got := rjacquardref11_GotN 1073741824
theorem rjacquardref11_Got_sz : rjacquardref11_Got.sz = 2 := rfl
theorem rjacquardref11_Got.at_L {N : Nat} {F : PH} {b o : Nat} {m : D.jacquardref11_Got} (h : At F (rjacquardref11_GotN N) b o m) : At F (rLn N (rMachN N)) b (o + 0) m.L := At.part 0 h (Nat.le_of_ble_eq_true rfl) (fun _ h => h.1)
theorem rjacquardref11_Got.at_E {N : Nat} {F : PH} {b o : Nat} {m : D.jacquardref11_Got} (h : At F (rjacquardref11_GotN N) b o m) : At F (rI .i64) b (o + 1) m.E := At.part 1 h (Nat.le_of_ble_eq_true rfl) (fun _ h => h.2)
theorem rjacquardref11_Got.any {N : Nat} {F : PH} {v : Value} {m : D.jacquardref11_Got} (h : (rjacquardref11_GotN N).ra F v m) : ∃ f, (rjacquardref11_GotN N).ok F m f := by obtain ⟨l, _, _, h⟩ := h; exact ⟨_, h⟩
theorem rjacquardref11_Got.w_E {N : Nat} {F : PH} {m : D.jacquardref11_Got} (h : ∃ f, (rjacquardref11_GotN N).ok F m f) : IntKind.i64.wrap m.E = m.E := by obtain ⟨_, h⟩ := h; exact (h.2).2
theorem rjacquardref11_Got.open {N : Nat} {F : PH} {v : Value} {m : D.jacquardref11_Got} (h : (rjacquardref11_GotN N).ra F v m) : ∃ c0, v = .agg #[c0, .int .i64 m.E] ∧ (rLn N (rMachN N)).rv F c0 m.L := by
  obtain ⟨l, rfl, hl, h⟩ := h
  match l, hl with
  | [a0, a1], _ =>
    obtain ⟨h0, ⟨h1, _⟩⟩ := h
    obtain rfl : a1 = _ := h1
    exact ⟨a0, rfl, h0⟩
theorem rjacquardref11_Got.opens : Opens Try.prog 56 (rjacquardref11_GotN 9223372036854775808) := by
  intro H enc W held fuel cs x h
  obtain ⟨xs, n, _, _, hlen, hx, hel⟩ := DataW.trod_struct Try.underlying56 h
  have hx2 : xs.length = 2 := hx
  obtain ⟨m0, h0⟩ := Opens.field (Opens.slice Try.underlying34 rMach.opens (by kernel_rfl) (by decide)) (by kernel_rfl) (hel 0 _ rfl) (by omega)
  obtain ⟨m1, h1⟩ := Opens.field (Opens.int Try.underlying35) (by kernel_rfl) (hel 1 _ rfl) (by omega)
  exact ⟨hlen.trans (by kernel_rfl), ⟨m0, m1⟩, ⟨okAt h0 _ (fun j => (Nat.zero_add _).symm), okAt h1 _ (fun j => Nat.add_comm j 1)⟩⟩
theorem rjacquardref11_Got.mk {N : Nat} {F : PH} {m : D.jacquardref11_Got} {c0 : Value} (h0 : (rLn N (rMachN N)).rv F c0 m.L) (w1 : IntKind.i64.wrap m.E = m.E) : (rjacquardref11_GotN N).ra F (.agg #[c0, .int .i64 m.E]) m := ⟨[c0, .int .i64 m.E], rfl, rfl, ⟨h0, ⟨rfl, w1⟩⟩⟩
end Go.Proofs.Ytcceglmmpbdhiaa
