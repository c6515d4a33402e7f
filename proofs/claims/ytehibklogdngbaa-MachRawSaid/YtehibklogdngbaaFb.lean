/- The data of the code. Conditions: none. -/
import Derived.Test.YtehibklogdngbaaJy
import Derived.Test.YtehibklogdngbaaRows
namespace Go.Proofs.Ytehibklogdngbaa
set_option linter.unusedVariables false
set_option linter.unusedSimpArgs false
set_option linter.unusedSectionVars false
open Go.JE


structure D.In where
  From : Int
  Val : Int
deriving DecidableEq
instance : Inhabited D.In := ⟨⟨0, 0⟩⟩
def rIn : Rp D.In := rM (rP (rI .i64) (rI .i64)) (fun m => (m.From, m.Val))
theorem rIn_sz : rIn.sz = 2 := rfl
theorem rIn.at_From {F : PH} {b o : Nat} {m : D.In} (h : At F rIn b o m) : At F (rI .i64) b (o + 0) m.From := At.part 0 h (Nat.le_of_ble_eq_true rfl) (fun _ h => h.1)
theorem rIn.at_Val {F : PH} {b o : Nat} {m : D.In} (h : At F rIn b o m) : At F (rI .i64) b (o + 1) m.Val := At.part 1 h (Nat.le_of_ble_eq_true rfl) (fun _ h => h.2)
theorem rIn.any {F : PH} {v : Value} {m : D.In} (h : rIn.ra F v m) : ∃ f, rIn.ok F m f := by obtain ⟨l, _, _, h⟩ := h; exact ⟨_, h⟩
theorem rIn.w_From {F : PH} {m : D.In} (h : ∃ f, rIn.ok F m f) : IntKind.i64.wrap m.From = m.From := by obtain ⟨_, h⟩ := h; exact (h.1).2
theorem rIn.w_Val {F : PH} {m : D.In} (h : ∃ f, rIn.ok F m f) : IntKind.i64.wrap m.Val = m.Val := by obtain ⟨_, h⟩ := h; exact (h.2).2
theorem rIn.open {F : PH} {v : Value} {m : D.In} (h : rIn.ra F v m) : v = .agg #[.int .i64 m.From, .int .i64 m.Val] := by
  obtain ⟨l, rfl, hl, h⟩ := h
  match l, hl with
  | [a0, a1], _ =>
    obtain ⟨⟨h0, _⟩, ⟨h1, _⟩⟩ := h
    obtain rfl : a0 = _ := h0
    obtain rfl : a1 = _ := h1
    exact rfl
theorem rIn.opens : Opens Try.prog 82 rIn := by
  intro H enc W held fuel cs x h
  obtain ⟨xs, n, _, _, hlen, hx, hel⟩ := DataW.trod_struct Try.underlying82 h
  have hx2 : xs.length = 2 := hx
  obtain ⟨m0, h0⟩ := Opens.field (Opens.int Try.underlying3) (by kernel_rfl) (hel 0 _ rfl) (by omega)
  obtain ⟨m1, h1⟩ := Opens.field (Opens.int Try.underlying3) (by kernel_rfl) (hel 1 _ rfl) (by omega)
  exact ⟨hlen.trans (by kernel_rfl), ⟨m0, m1⟩, ⟨okAt h0 _ (fun j => (Nat.zero_add _).symm), okAt h1 _ (fun j => Nat.add_comm j 1)⟩⟩
theorem rIn.mk {F : PH} {m : D.In}   (w0 : IntKind.i64.wrap m.From = m.From) (w1 : IntKind.i64.wrap m.Val = m.Val) : rIn.ra F (.agg #[.int .i64 m.From, .int .i64 m.Val]) m := ⟨[.int .i64 m.From, .int .i64 m.Val], rfl, rfl, ⟨⟨rfl, w0⟩, ⟨rfl, w1⟩⟩⟩
structure D.Phi where
  Dst : Int
  In : List D.In
deriving DecidableEq
instance : Inhabited D.Phi := ⟨⟨0, []⟩⟩
def rPhiN (N : Nat) : Rp D.Phi := rM (rP (rI .i64) (rLn N rIn)) (fun m => (m.Dst, m.In))
abbrev rPhi : Rp D.Phi := rPhiN 1073741824
theorem rPhi_sz : rPhi.sz = 2 := rfl
theorem rPhi.at_Dst {N : Nat} {F : PH} {b o : Nat} {m : D.Phi} (h : At F (rPhiN N) b o m) : At F (rI .i64) b (o + 0) m.Dst := At.part 0 h (Nat.le_of_ble_eq_true rfl) (fun _ h => h.1)
theorem rPhi.at_In {N : Nat} {F : PH} {b o : Nat} {m : D.Phi} (h : At F (rPhiN N) b o m) : At F (rLn N rIn) b (o + 1) m.In := At.part 1 h (Nat.le_of_ble_eq_true rfl) (fun _ h => h.2)
theorem rPhi.any {N : Nat} {F : PH} {v : Value} {m : D.Phi} (h : (rPhiN N).ra F v m) : ∃ f, (rPhiN N).ok F m f := by obtain ⟨l, _, _, h⟩ := h; exact ⟨_, h⟩
theorem rPhi.w_Dst {N : Nat} {F : PH} {m : D.Phi} (h : ∃ f, (rPhiN N).ok F m f) : IntKind.i64.wrap m.Dst = m.Dst := by obtain ⟨_, h⟩ := h; exact (h.1).2
theorem rPhi.open {N : Nat} {F : PH} {v : Value} {m : D.Phi} (h : (rPhiN N).ra F v m) : ∃ c1, v = .agg #[.int .i64 m.Dst, c1] ∧ (rLn N rIn).rv F c1 m.In := by
  obtain ⟨l, rfl, hl, h⟩ := h
  match l, hl with
  | [a0, a1], _ =>
    obtain ⟨⟨h0, _⟩, h1⟩ := h
    obtain rfl : a0 = _ := h0
    exact ⟨a1, rfl, h1⟩
theorem rPhi.opens : Opens Try.prog 70 (rPhiN 9223372036854775808) := by
  intro H enc W held fuel cs x h
  obtain ⟨xs, n, _, _, hlen, hx, hel⟩ := DataW.trod_struct Try.underlying70 h
  have hx2 : xs.length = 2 := hx
  obtain ⟨m0, h0⟩ := Opens.field (Opens.int Try.underlying3) (by kernel_rfl) (hel 0 _ rfl) (by omega)
  obtain ⟨m1, h1⟩ := Opens.field (Opens.slice Try.underlying68 rIn.opens (by kernel_rfl) (by decide)) (by kernel_rfl) (hel 1 _ rfl) (by omega)
  exact ⟨hlen.trans (by kernel_rfl), ⟨m0, m1⟩, ⟨okAt h0 _ (fun j => (Nat.zero_add _).symm), okAt h1 _ (fun j => Nat.add_comm j 1)⟩⟩
theorem rPhi.mk {N : Nat} {F : PH} {m : D.Phi} {c1 : Value} (h1 : (rLn N rIn).rv F c1 m.In) (w0 : IntKind.i64.wrap m.Dst = m.Dst) : (rPhiN N).ra F (.agg #[.int .i64 m.Dst, c1]) m := ⟨[.int .i64 m.Dst, c1], rfl, rfl, ⟨⟨rfl, w0⟩, h1⟩⟩
structure D.Mach where
  Op : Int
  D : Int
  E : Int
  A : Int
  B : Int
  C : Int
  Imm : Int
  Args : List Int
deriving DecidableEq
instance : Inhabited D.Mach := ⟨⟨0, 0, 0, 0, 0, 0, 0, []⟩⟩
def rMachN (N : Nat) : Rp D.Mach := rM (rP (rI .i64) (rP (rI .i64) (rP (rI .i64) (rP (rI .i64) (rP (rI .i64) (rP (rI .i64) (rP (rI .i32) (rLn N (rI .i64))))))))) (fun m => (m.Op, m.D, m.E, m.A, m.B, m.C, m.Imm, m.Args))
abbrev rMach : Rp D.Mach := rMachN 1073741824
theorem rMach_sz : rMach.sz = 8 := rfl
theorem rMach.at_Op {N : Nat} {F : PH} {b o : Nat} {m : D.Mach} (h : At F (rMachN N) b o m) : At F (rI .i64) b (o + 0) m.Op := At.part 0 h (Nat.le_of_ble_eq_true rfl) (fun _ h => h.1)
theorem rMach.at_D {N : Nat} {F : PH} {b o : Nat} {m : D.Mach} (h : At F (rMachN N) b o m) : At F (rI .i64) b (o + 1) m.D := At.part 1 h (Nat.le_of_ble_eq_true rfl) (fun _ h => h.2.1)
theorem rMach.at_E {N : Nat} {F : PH} {b o : Nat} {m : D.Mach} (h : At F (rMachN N) b o m) : At F (rI .i64) b (o + 2) m.E := At.part 2 h (Nat.le_of_ble_eq_true rfl) (fun _ h => h.2.2.1)
theorem rMach.at_A {N : Nat} {F : PH} {b o : Nat} {m : D.Mach} (h : At F (rMachN N) b o m) : At F (rI .i64) b (o + 3) m.A := At.part 3 h (Nat.le_of_ble_eq_true rfl) (fun _ h => h.2.2.2.1)
theorem rMach.at_B {N : Nat} {F : PH} {b o : Nat} {m : D.Mach} (h : At F (rMachN N) b o m) : At F (rI .i64) b (o + 4) m.B := At.part 4 h (Nat.le_of_ble_eq_true rfl) (fun _ h => h.2.2.2.2.1)
theorem rMach.at_C {N : Nat} {F : PH} {b o : Nat} {m : D.Mach} (h : At F (rMachN N) b o m) : At F (rI .i64) b (o + 5) m.C := At.part 5 h (Nat.le_of_ble_eq_true rfl) (fun _ h => h.2.2.2.2.2.1)
theorem rMach.at_Imm {N : Nat} {F : PH} {b o : Nat} {m : D.Mach} (h : At F (rMachN N) b o m) : At F (rI .i32) b (o + 6) m.Imm := At.part 6 h (Nat.le_of_ble_eq_true rfl) (fun _ h => h.2.2.2.2.2.2.1)
theorem rMach.at_Args {N : Nat} {F : PH} {b o : Nat} {m : D.Mach} (h : At F (rMachN N) b o m) : At F (rLn N (rI .i64)) b (o + 7) m.Args := At.part 7 h (Nat.le_of_ble_eq_true rfl) (fun _ h => h.2.2.2.2.2.2.2)
theorem rMach.any {N : Nat} {F : PH} {v : Value} {m : D.Mach} (h : (rMachN N).ra F v m) : ∃ f, (rMachN N).ok F m f := by obtain ⟨l, _, _, h⟩ := h; exact ⟨_, h⟩
theorem rMach.w_Op {N : Nat} {F : PH} {m : D.Mach} (h : ∃ f, (rMachN N).ok F m f) : IntKind.i64.wrap m.Op = m.Op := by obtain ⟨_, h⟩ := h; exact (h.1).2
theorem rMach.w_D {N : Nat} {F : PH} {m : D.Mach} (h : ∃ f, (rMachN N).ok F m f) : IntKind.i64.wrap m.D = m.D := by obtain ⟨_, h⟩ := h; exact (h.2.1).2
theorem rMach.w_E {N : Nat} {F : PH} {m : D.Mach} (h : ∃ f, (rMachN N).ok F m f) : IntKind.i64.wrap m.E = m.E := by obtain ⟨_, h⟩ := h; exact (h.2.2.1).2
theorem rMach.w_A {N : Nat} {F : PH} {m : D.Mach} (h : ∃ f, (rMachN N).ok F m f) : IntKind.i64.wrap m.A = m.A := by obtain ⟨_, h⟩ := h; exact (h.2.2.2.1).2
theorem rMach.w_B {N : Nat} {F : PH} {m : D.Mach} (h : ∃ f, (rMachN N).ok F m f) : IntKind.i64.wrap m.B = m.B := by obtain ⟨_, h⟩ := h; exact (h.2.2.2.2.1).2
theorem rMach.w_C {N : Nat} {F : PH} {m : D.Mach} (h : ∃ f, (rMachN N).ok F m f) : IntKind.i64.wrap m.C = m.C := by obtain ⟨_, h⟩ := h; exact (h.2.2.2.2.2.1).2
theorem rMach.w_Imm {N : Nat} {F : PH} {m : D.Mach} (h : ∃ f, (rMachN N).ok F m f) : IntKind.i32.wrap m.Imm = m.Imm := by obtain ⟨_, h⟩ := h; exact (h.2.2.2.2.2.2.1).2
theorem rMach.open {N : Nat} {F : PH} {v : Value} {m : D.Mach} (h : (rMachN N).ra F v m) : ∃ c7, v = .agg #[.int .i64 m.Op, .int .i64 m.D, .int .i64 m.E, .int .i64 m.A, .int .i64 m.B, .int .i64 m.C, .int .i32 m.Imm, c7] ∧ (rLn N (rI .i64)).rv F c7 m.Args := by
  obtain ⟨l, rfl, hl, h⟩ := h
  match l, hl with
  | [a0, a1, a2, a3, a4, a5, a6, a7], _ =>
    obtain ⟨⟨h0, _⟩, ⟨h1, _⟩, ⟨h2, _⟩, ⟨h3, _⟩, ⟨h4, _⟩, ⟨h5, _⟩, ⟨h6, _⟩, h7⟩ := h
    obtain rfl : a0 = _ := h0
    obtain rfl : a1 = _ := h1
    obtain rfl : a2 = _ := h2
    obtain rfl : a3 = _ := h3
    obtain rfl : a4 = _ := h4
    obtain rfl : a5 = _ := h5
    obtain rfl : a6 = _ := h6
    exact ⟨a7, rfl, h7⟩
theorem rMach.opens : Opens Try.prog 40 (rMachN 9223372036854775808) := by
  intro H enc W held fuel cs x h
  obtain ⟨xs, n, _, _, hlen, hx, hel⟩ := DataW.trod_struct Try.underlying40 h
  have hx2 : xs.length = 8 := hx
  obtain ⟨m0, h0⟩ := Opens.field (Opens.int Try.underlying3) (by kernel_rfl) (hel 0 _ rfl) (by omega)
  obtain ⟨m1, h1⟩ := Opens.field (Opens.int Try.underlying3) (by kernel_rfl) (hel 1 _ rfl) (by omega)
  obtain ⟨m2, h2⟩ := Opens.field (Opens.int Try.underlying3) (by kernel_rfl) (hel 2 _ rfl) (by omega)
  obtain ⟨m3, h3⟩ := Opens.field (Opens.int Try.underlying3) (by kernel_rfl) (hel 3 _ rfl) (by omega)
  obtain ⟨m4, h4⟩ := Opens.field (Opens.int Try.underlying3) (by kernel_rfl) (hel 4 _ rfl) (by omega)
  obtain ⟨m5, h5⟩ := Opens.field (Opens.int Try.underlying3) (by kernel_rfl) (hel 5 _ rfl) (by omega)
  obtain ⟨m6, h6⟩ := Opens.field (Opens.int Try.underlying21) (by kernel_rfl) (hel 6 _ rfl) (by omega)
  obtain ⟨m7, h7⟩ := Opens.field (Opens.slice Try.underlying38 (Opens.int Try.underlying3) (by kernel_rfl) (by decide)) (by kernel_rfl) (hel 7 _ rfl) (by omega)
  exact ⟨hlen.trans (by kernel_rfl), ⟨m0, m1, m2, m3, m4, m5, m6, m7⟩, ⟨okAt h0 _ (fun j => (Nat.zero_add _).symm), okAt h1 _ (fun j => Nat.add_comm j 1), okAt h2 _ (fun j => Nat.add_comm j 2), okAt h3 _ (fun j => Nat.add_comm j 3), okAt h4 _ (fun j => Nat.add_comm j 4), okAt h5 _ (fun j => Nat.add_comm j 5), okAt h6 _ (fun j => Nat.add_comm j 6), okAt h7 _ (fun j => Nat.add_comm j 7)⟩⟩
theorem rMach.mk {N : Nat} {F : PH} {m : D.Mach} {c7 : Value} (h7 : (rLn N (rI .i64)).rv F c7 m.Args) (w0 : IntKind.i64.wrap m.Op = m.Op) (w1 : IntKind.i64.wrap m.D = m.D) (w2 : IntKind.i64.wrap m.E = m.E) (w3 : IntKind.i64.wrap m.A = m.A) (w4 : IntKind.i64.wrap m.B = m.B) (w5 : IntKind.i64.wrap m.C = m.C) (w6 : IntKind.i32.wrap m.Imm = m.Imm) : (rMachN N).ra F (.agg #[.int .i64 m.Op, .int .i64 m.D, .int .i64 m.E, .int .i64 m.A, .int .i64 m.B, .int .i64 m.C, .int .i32 m.Imm, c7]) m := ⟨[.int .i64 m.Op, .int .i64 m.D, .int .i64 m.E, .int .i64 m.A, .int .i64 m.B, .int .i64 m.C, .int .i32 m.Imm, c7], rfl, rfl, ⟨⟨rfl, w0⟩, ⟨rfl, w1⟩, ⟨rfl, w2⟩, ⟨rfl, w3⟩, ⟨rfl, w4⟩, ⟨rfl, w5⟩, ⟨rfl, w6⟩, h7⟩⟩
structure D.End where
  Op : Int
  A : Int
  B : Int
  To : List Int
  Imm : Int
deriving DecidableEq
instance : Inhabited D.End := ⟨⟨0, 0, 0, [], 0⟩⟩
def rEndN (N : Nat) : Rp D.End := rM (rP (rI .i64) (rP (rI .i64) (rP (rI .i64) (rP (rLn N (rI .i64)) (rI .i32))))) (fun m => (m.Op, m.A, m.B, m.To, m.Imm))
abbrev rEnd : Rp D.End := rEndN 1073741824
theorem rEnd_sz : rEnd.sz = 5 := rfl
theorem rEnd.at_Op {N : Nat} {F : PH} {b o : Nat} {m : D.End} (h : At F (rEndN N) b o m) : At F (rI .i64) b (o + 0) m.Op := At.part 0 h (Nat.le_of_ble_eq_true rfl) (fun _ h => h.1)
theorem rEnd.at_A {N : Nat} {F : PH} {b o : Nat} {m : D.End} (h : At F (rEndN N) b o m) : At F (rI .i64) b (o + 1) m.A := At.part 1 h (Nat.le_of_ble_eq_true rfl) (fun _ h => h.2.1)
theorem rEnd.at_B {N : Nat} {F : PH} {b o : Nat} {m : D.End} (h : At F (rEndN N) b o m) : At F (rI .i64) b (o + 2) m.B := At.part 2 h (Nat.le_of_ble_eq_true rfl) (fun _ h => h.2.2.1)
theorem rEnd.at_To {N : Nat} {F : PH} {b o : Nat} {m : D.End} (h : At F (rEndN N) b o m) : At F (rLn N (rI .i64)) b (o + 3) m.To := At.part 3 h (Nat.le_of_ble_eq_true rfl) (fun _ h => h.2.2.2.1)
theorem rEnd.at_Imm {N : Nat} {F : PH} {b o : Nat} {m : D.End} (h : At F (rEndN N) b o m) : At F (rI .i32) b (o + 4) m.Imm := At.part 4 h (Nat.le_of_ble_eq_true rfl) (fun _ h => h.2.2.2.2)
theorem rEnd.any {N : Nat} {F : PH} {v : Value} {m : D.End} (h : (rEndN N).ra F v m) : ∃ f, (rEndN N).ok F m f := by obtain ⟨l, _, _, h⟩ := h; exact ⟨_, h⟩
theorem rEnd.w_Op {N : Nat} {F : PH} {m : D.End} (h : ∃ f, (rEndN N).ok F m f) : IntKind.i64.wrap m.Op = m.Op := by obtain ⟨_, h⟩ := h; exact (h.1).2
theorem rEnd.w_A {N : Nat} {F : PH} {m : D.End} (h : ∃ f, (rEndN N).ok F m f) : IntKind.i64.wrap m.A = m.A := by obtain ⟨_, h⟩ := h; exact (h.2.1).2
theorem rEnd.w_B {N : Nat} {F : PH} {m : D.End} (h : ∃ f, (rEndN N).ok F m f) : IntKind.i64.wrap m.B = m.B := by obtain ⟨_, h⟩ := h; exact (h.2.2.1).2
theorem rEnd.w_Imm {N : Nat} {F : PH} {m : D.End} (h : ∃ f, (rEndN N).ok F m f) : IntKind.i32.wrap m.Imm = m.Imm := by obtain ⟨_, h⟩ := h; exact (h.2.2.2.2).2
theorem rEnd.open {N : Nat} {F : PH} {v : Value} {m : D.End} (h : (rEndN N).ra F v m) : ∃ c3, v = .agg #[.int .i64 m.Op, .int .i64 m.A, .int .i64 m.B, c3, .int .i32 m.Imm] ∧ (rLn N (rI .i64)).rv F c3 m.To := by
  obtain ⟨l, rfl, hl, h⟩ := h
  match l, hl with
  | [a0, a1, a2, a3, a4], _ =>
    obtain ⟨⟨h0, _⟩, ⟨h1, _⟩, ⟨h2, _⟩, h3, ⟨h4, _⟩⟩ := h
    obtain rfl : a0 = _ := h0
    obtain rfl : a1 = _ := h1
    obtain rfl : a2 = _ := h2
    obtain rfl : a4 = _ := h4
    exact ⟨a3, rfl, h3⟩
theorem rEnd.opens : Opens Try.prog 55 (rEndN 9223372036854775808) := by
  intro H enc W held fuel cs x h
  obtain ⟨xs, n, _, _, hlen, hx, hel⟩ := DataW.trod_struct Try.underlying55 h
  have hx2 : xs.length = 5 := hx
  obtain ⟨m0, h0⟩ := Opens.field (Opens.int Try.underlying3) (by kernel_rfl) (hel 0 _ rfl) (by omega)
  obtain ⟨m1, h1⟩ := Opens.field (Opens.int Try.underlying3) (by kernel_rfl) (hel 1 _ rfl) (by omega)
  obtain ⟨m2, h2⟩ := Opens.field (Opens.int Try.underlying3) (by kernel_rfl) (hel 2 _ rfl) (by omega)
  obtain ⟨m3, h3⟩ := Opens.field (Opens.slice Try.underlying38 (Opens.int Try.underlying3) (by kernel_rfl) (by decide)) (by kernel_rfl) (hel 3 _ rfl) (by omega)
  obtain ⟨m4, h4⟩ := Opens.field (Opens.int Try.underlying21) (by kernel_rfl) (hel 4 _ rfl) (by omega)
  exact ⟨hlen.trans (by kernel_rfl), ⟨m0, m1, m2, m3, m4⟩, ⟨okAt h0 _ (fun j => (Nat.zero_add _).symm), okAt h1 _ (fun j => Nat.add_comm j 1), okAt h2 _ (fun j => Nat.add_comm j 2), okAt h3 _ (fun j => Nat.add_comm j 3), okAt h4 _ (fun j => Nat.add_comm j 4)⟩⟩
theorem rEnd.mk {N : Nat} {F : PH} {m : D.End} {c3 : Value} (h3 : (rLn N (rI .i64)).rv F c3 m.To) (w0 : IntKind.i64.wrap m.Op = m.Op) (w1 : IntKind.i64.wrap m.A = m.A) (w2 : IntKind.i64.wrap m.B = m.B) (w4 : IntKind.i32.wrap m.Imm = m.Imm) : (rEndN N).ra F (.agg #[.int .i64 m.Op, .int .i64 m.A, .int .i64 m.B, c3, .int .i32 m.Imm]) m := ⟨[.int .i64 m.Op, .int .i64 m.A, .int .i64 m.B, c3, .int .i32 m.Imm], rfl, rfl, ⟨⟨rfl, w0⟩, ⟨rfl, w1⟩, ⟨rfl, w2⟩, h3, ⟨rfl, w4⟩⟩⟩
structure D.MBlock where
  Phis : List D.Phi
  Ins : List D.Mach
  End : D.End
deriving DecidableEq
instance : Inhabited D.MBlock := ⟨⟨[], [], default⟩⟩
def rMBlockN (N : Nat) : Rp D.MBlock := rM (rP (rLn N (rPhiN N)) (rP (rLn N (rMachN N)) (rEndN N))) (fun m => (m.Phis, m.Ins, m.End))
abbrev rMBlock : Rp D.MBlock := rMBlockN 1073741824
theorem rMBlock_sz : rMBlock.sz = 7 := rfl
theorem rMBlock.at_Phis {N : Nat} {F : PH} {b o : Nat} {m : D.MBlock} (h : At F (rMBlockN N) b o m) : At F (rLn N (rPhiN N)) b (o + 0) m.Phis := At.part 0 h (Nat.le_of_ble_eq_true rfl) (fun _ h => h.1)
theorem rMBlock.at_Ins {N : Nat} {F : PH} {b o : Nat} {m : D.MBlock} (h : At F (rMBlockN N) b o m) : At F (rLn N (rMachN N)) b (o + 1) m.Ins := At.part 1 h (Nat.le_of_ble_eq_true rfl) (fun _ h => h.2.1)
theorem rMBlock.at_End {N : Nat} {F : PH} {b o : Nat} {m : D.MBlock} (h : At F (rMBlockN N) b o m) : At F (rEndN N) b (o + 2) m.End := At.part 2 h (Nat.le_of_ble_eq_true rfl) (fun _ h => h.2.2)
theorem rMBlock.any {N : Nat} {F : PH} {v : Value} {m : D.MBlock} (h : (rMBlockN N).ra F v m) : ∃ f, (rMBlockN N).ok F m f := by obtain ⟨l, _, _, h⟩ := h; exact ⟨_, h⟩
theorem rMBlock.k_End {N : Nat} {F : PH} {m : D.MBlock} (h : ∃ f, (rMBlockN N).ok F m f) : ∃ f, (rEndN N).ok F m.End f := by obtain ⟨_, h⟩ := h; exact ⟨_, h.2.2⟩
theorem rMBlock.open {N : Nat} {F : PH} {v : Value} {m : D.MBlock} (h : (rMBlockN N).ra F v m) : ∃ c0 c1 c5, v = .agg #[c0, c1, .int .i64 m.End.Op, .int .i64 m.End.A, .int .i64 m.End.B, c5, .int .i32 m.End.Imm] ∧ (rLn N (rPhiN N)).rv F c0 m.Phis ∧ (rLn N (rMachN N)).rv F c1 m.Ins ∧ (rLn N (rI .i64)).rv F c5 m.End.To := by
  obtain ⟨l, rfl, hl, h⟩ := h
  match l, hl with
  | [a0, a1, a2, a3, a4, a5, a6], _ =>
    obtain ⟨h0, h1, ⟨⟨h2, _⟩, ⟨h3, _⟩, ⟨h4, _⟩, h5, ⟨h6, _⟩⟩⟩ := h
    obtain rfl : a2 = _ := h2
    obtain rfl : a3 = _ := h3
    obtain rfl : a4 = _ := h4
    obtain rfl : a6 = _ := h6
    exact ⟨a0, a1, a5, rfl, h0, h1, h5⟩
theorem rMBlock.opens : Opens Try.prog 61 (rMBlockN 9223372036854775808) := by
  intro H enc W held fuel cs x h
  obtain ⟨xs, n, _, _, hlen, hx, hel⟩ := DataW.trod_struct Try.underlying61 h
  have hx2 : xs.length = 3 := hx
  obtain ⟨m0, h0⟩ := Opens.field (Opens.slice Try.underlying58 rPhi.opens (by kernel_rfl) (by decide)) (by kernel_rfl) (hel 0 _ rfl) (by omega)
  obtain ⟨m1, h1⟩ := Opens.field (Opens.slice Try.underlying59 rMach.opens (by kernel_rfl) (by decide)) (by kernel_rfl) (hel 1 _ rfl) (by omega)
  obtain ⟨m2, h2⟩ := Opens.field rEnd.opens (by kernel_rfl) (hel 2 _ rfl) (by omega)
  exact ⟨hlen.trans (by kernel_rfl), ⟨m0, m1, m2⟩, ⟨okAt h0 _ (fun j => (Nat.zero_add _).symm), okAt h1 _ (fun j => Nat.add_comm j 1), okAt h2 _ (fun j => Nat.add_comm j 2)⟩⟩
theorem rMBlock.mk {N : Nat} {F : PH} {m : D.MBlock} {c0 : Value} {c1 : Value} {c5 : Value} (h0 : (rLn N (rPhiN N)).rv F c0 m.Phis) (h1 : (rLn N (rMachN N)).rv F c1 m.Ins) (h5 : (rLn N (rI .i64)).rv F c5 m.End.To) (w2 : IntKind.i64.wrap m.End.Op = m.End.Op) (w3 : IntKind.i64.wrap m.End.A = m.End.A) (w4 : IntKind.i64.wrap m.End.B = m.End.B) (w6 : IntKind.i32.wrap m.End.Imm = m.End.Imm) : (rMBlockN N).ra F (.agg #[c0, c1, .int .i64 m.End.Op, .int .i64 m.End.A, .int .i64 m.End.B, c5, .int .i32 m.End.Imm]) m := ⟨[c0, c1, .int .i64 m.End.Op, .int .i64 m.End.A, .int .i64 m.End.B, c5, .int .i32 m.End.Imm], rfl, rfl, ⟨h0, h1, ⟨⟨rfl, w2⟩, ⟨rfl, w3⟩, ⟨rfl, w4⟩, h5, ⟨rfl, w6⟩⟩⟩⟩
structure D.MFunc where
  Params : Int
  Blocks : List D.MBlock
deriving DecidableEq
instance : Inhabited D.MFunc := ⟨⟨0, []⟩⟩
def rMFuncN (N : Nat) : Rp D.MFunc := rM (rP (rI .i64) (rLn N (rMBlockN N))) (fun m => (m.Params, m.Blocks))
abbrev rMFunc : Rp D.MFunc := rMFuncN 1073741824
theorem rMFunc_sz : rMFunc.sz = 2 := rfl
theorem rMFunc.at_Params {N : Nat} {F : PH} {b o : Nat} {m : D.MFunc} (h : At F (rMFuncN N) b o m) : At F (rI .i64) b (o + 0) m.Params := At.part 0 h (Nat.le_of_ble_eq_true rfl) (fun _ h => h.1)
theorem rMFunc.at_Blocks {N : Nat} {F : PH} {b o : Nat} {m : D.MFunc} (h : At F (rMFuncN N) b o m) : At F (rLn N (rMBlockN N)) b (o + 1) m.Blocks := At.part 1 h (Nat.le_of_ble_eq_true rfl) (fun _ h => h.2)
theorem rMFunc.any {N : Nat} {F : PH} {v : Value} {m : D.MFunc} (h : (rMFuncN N).ra F v m) : ∃ f, (rMFuncN N).ok F m f := by obtain ⟨l, _, _, h⟩ := h; exact ⟨_, h⟩
theorem rMFunc.w_Params {N : Nat} {F : PH} {m : D.MFunc} (h : ∃ f, (rMFuncN N).ok F m f) : IntKind.i64.wrap m.Params = m.Params := by obtain ⟨_, h⟩ := h; exact (h.1).2
theorem rMFunc.open {N : Nat} {F : PH} {v : Value} {m : D.MFunc} (h : (rMFuncN N).ra F v m) : ∃ c1, v = .agg #[.int .i64 m.Params, c1] ∧ (rLn N (rMBlockN N)).rv F c1 m.Blocks := by
  obtain ⟨l, rfl, hl, h⟩ := h
  match l, hl with
  | [a0, a1], _ =>
    obtain ⟨⟨h0, _⟩, h1⟩ := h
    obtain rfl : a0 = _ := h0
    exact ⟨a1, rfl, h1⟩
theorem rMFunc.opens : Opens Try.prog 24 (rMFuncN 9223372036854775808) := by
  intro H enc W held fuel cs x h
  obtain ⟨xs, n, _, _, hlen, hx, hel⟩ := DataW.trod_struct Try.underlying24 h
  have hx2 : xs.length = 2 := hx
  obtain ⟨m0, h0⟩ := Opens.field (Opens.int Try.underlying3) (by kernel_rfl) (hel 0 _ rfl) (by omega)
  obtain ⟨m1, h1⟩ := Opens.field (Opens.slice Try.underlying22 rMBlock.opens (by kernel_rfl) (by decide)) (by kernel_rfl) (hel 1 _ rfl) (by omega)
  exact ⟨hlen.trans (by kernel_rfl), ⟨m0, m1⟩, ⟨okAt h0 _ (fun j => (Nat.zero_add _).symm), okAt h1 _ (fun j => Nat.add_comm j 1)⟩⟩
theorem rMFunc.mk {N : Nat} {F : PH} {m : D.MFunc} {c1 : Value} (h1 : (rLn N (rMBlockN N)).rv F c1 m.Blocks) (w0 : IntKind.i64.wrap m.Params = m.Params) : (rMFuncN N).ra F (.agg #[.int .i64 m.Params, c1]) m := ⟨[.int .i64 m.Params, c1], rfl, rfl, ⟨⟨rfl, w0⟩, h1⟩⟩
structure D.Input where
  Args : List Int
  Mem : List Int
  Answers : List Int
  Steps : Int
deriving DecidableEq
instance : Inhabited D.Input := ⟨⟨[], [], [], 0⟩⟩
def rInputN (N : Nat) : Rp D.Input := rM (rP (rLn N (rI .i32)) (rP (rLn N (rI .i32)) (rP (rLn N (rI .i32)) (rI .i64)))) (fun m => (m.Args, m.Mem, m.Answers, m.Steps))
abbrev rInput : Rp D.Input := rInputN 1073741824
theorem rInput_sz : rInput.sz = 4 := rfl
theorem rInput.at_Args {N : Nat} {F : PH} {b o : Nat} {m : D.Input} (h : At F (rInputN N) b o m) : At F (rLn N (rI .i32)) b (o + 0) m.Args := At.part 0 h (Nat.le_of_ble_eq_true rfl) (fun _ h => h.1)
theorem rInput.at_Mem {N : Nat} {F : PH} {b o : Nat} {m : D.Input} (h : At F (rInputN N) b o m) : At F (rLn N (rI .i32)) b (o + 1) m.Mem := At.part 1 h (Nat.le_of_ble_eq_true rfl) (fun _ h => h.2.1)
theorem rInput.at_Answers {N : Nat} {F : PH} {b o : Nat} {m : D.Input} (h : At F (rInputN N) b o m) : At F (rLn N (rI .i32)) b (o + 2) m.Answers := At.part 2 h (Nat.le_of_ble_eq_true rfl) (fun _ h => h.2.2.1)
theorem rInput.at_Steps {N : Nat} {F : PH} {b o : Nat} {m : D.Input} (h : At F (rInputN N) b o m) : At F (rI .i64) b (o + 3) m.Steps := At.part 3 h (Nat.le_of_ble_eq_true rfl) (fun _ h => h.2.2.2)
theorem rInput.any {N : Nat} {F : PH} {v : Value} {m : D.Input} (h : (rInputN N).ra F v m) : ∃ f, (rInputN N).ok F m f := by obtain ⟨l, _, _, h⟩ := h; exact ⟨_, h⟩
theorem rInput.w_Steps {N : Nat} {F : PH} {m : D.Input} (h : ∃ f, (rInputN N).ok F m f) : IntKind.i64.wrap m.Steps = m.Steps := by obtain ⟨_, h⟩ := h; exact (h.2.2.2).2
theorem rInput.open {N : Nat} {F : PH} {v : Value} {m : D.Input} (h : (rInputN N).ra F v m) : ∃ c0 c1 c2, v = .agg #[c0, c1, c2, .int .i64 m.Steps] ∧ (rLn N (rI .i32)).rv F c0 m.Args ∧ (rLn N (rI .i32)).rv F c1 m.Mem ∧ (rLn N (rI .i32)).rv F c2 m.Answers := by
  obtain ⟨l, rfl, hl, h⟩ := h
  match l, hl with
  | [a0, a1, a2, a3], _ =>
    obtain ⟨h0, h1, h2, ⟨h3, _⟩⟩ := h
    obtain rfl : a3 = _ := h3
    exact ⟨a0, a1, a2, rfl, h0, h1, h2⟩
theorem rInput.opens : Opens Try.prog 27 (rInputN 9223372036854775808) := by
  intro H enc W held fuel cs x h
  obtain ⟨xs, n, _, _, hlen, hx, hel⟩ := DataW.trod_struct Try.underlying27 h
  have hx2 : xs.length = 4 := hx
  obtain ⟨m0, h0⟩ := Opens.field (Opens.slice Try.underlying25 (Opens.int Try.underlying21) (by kernel_rfl) (by decide)) (by kernel_rfl) (hel 0 _ rfl) (by omega)
  obtain ⟨m1, h1⟩ := Opens.field (Opens.slice Try.underlying25 (Opens.int Try.underlying21) (by kernel_rfl) (by decide)) (by kernel_rfl) (hel 1 _ rfl) (by omega)
  obtain ⟨m2, h2⟩ := Opens.field (Opens.slice Try.underlying25 (Opens.int Try.underlying21) (by kernel_rfl) (by decide)) (by kernel_rfl) (hel 2 _ rfl) (by omega)
  obtain ⟨m3, h3⟩ := Opens.field (Opens.int Try.underlying3) (by kernel_rfl) (hel 3 _ rfl) (by omega)
  exact ⟨hlen.trans (by kernel_rfl), ⟨m0, m1, m2, m3⟩, ⟨okAt h0 _ (fun j => (Nat.zero_add _).symm), okAt h1 _ (fun j => Nat.add_comm j 1), okAt h2 _ (fun j => Nat.add_comm j 2), okAt h3 _ (fun j => Nat.add_comm j 3)⟩⟩
theorem rInput.mk {N : Nat} {F : PH} {m : D.Input} {c0 : Value} {c1 : Value} {c2 : Value} (h0 : (rLn N (rI .i32)).rv F c0 m.Args) (h1 : (rLn N (rI .i32)).rv F c1 m.Mem) (h2 : (rLn N (rI .i32)).rv F c2 m.Answers) (w3 : IntKind.i64.wrap m.Steps = m.Steps) : (rInputN N).ra F (.agg #[c0, c1, c2, .int .i64 m.Steps]) m := ⟨[c0, c1, c2, .int .i64 m.Steps], rfl, rfl, ⟨h0, h1, h2, ⟨rfl, w3⟩⟩⟩
structure D.Event where
  Callee : Int
  Args : List Int
deriving DecidableEq
instance : Inhabited D.Event := ⟨⟨0, []⟩⟩
def rEventN (N : Nat) : Rp D.Event := rM (rP (rI .i32) (rLn N (rI .i32))) (fun m => (m.Callee, m.Args))
abbrev rEvent : Rp D.Event := rEventN 1073741824
theorem rEvent_sz : rEvent.sz = 2 := rfl
theorem rEvent.at_Callee {N : Nat} {F : PH} {b o : Nat} {m : D.Event} (h : At F (rEventN N) b o m) : At F (rI .i32) b (o + 0) m.Callee := At.part 0 h (Nat.le_of_ble_eq_true rfl) (fun _ h => h.1)
theorem rEvent.at_Args {N : Nat} {F : PH} {b o : Nat} {m : D.Event} (h : At F (rEventN N) b o m) : At F (rLn N (rI .i32)) b (o + 1) m.Args := At.part 1 h (Nat.le_of_ble_eq_true rfl) (fun _ h => h.2)
theorem rEvent.any {N : Nat} {F : PH} {v : Value} {m : D.Event} (h : (rEventN N).ra F v m) : ∃ f, (rEventN N).ok F m f := by obtain ⟨l, _, _, h⟩ := h; exact ⟨_, h⟩
theorem rEvent.w_Callee {N : Nat} {F : PH} {m : D.Event} (h : ∃ f, (rEventN N).ok F m f) : IntKind.i32.wrap m.Callee = m.Callee := by obtain ⟨_, h⟩ := h; exact (h.1).2
theorem rEvent.open {N : Nat} {F : PH} {v : Value} {m : D.Event} (h : (rEventN N).ra F v m) : ∃ c1, v = .agg #[.int .i32 m.Callee, c1] ∧ (rLn N (rI .i32)).rv F c1 m.Args := by
  obtain ⟨l, rfl, hl, h⟩ := h
  match l, hl with
  | [a0, a1], _ =>
    obtain ⟨⟨h0, _⟩, h1⟩ := h
    obtain rfl : a0 = _ := h0
    exact ⟨a1, rfl, h1⟩
theorem rEvent.opens : Opens Try.prog 75 (rEventN 9223372036854775808) := by
  intro H enc W held fuel cs x h
  obtain ⟨xs, n, _, _, hlen, hx, hel⟩ := DataW.trod_struct Try.underlying75 h
  have hx2 : xs.length = 2 := hx
  obtain ⟨m0, h0⟩ := Opens.field (Opens.int Try.underlying21) (by kernel_rfl) (hel 0 _ rfl) (by omega)
  obtain ⟨m1, h1⟩ := Opens.field (Opens.slice Try.underlying25 (Opens.int Try.underlying21) (by kernel_rfl) (by decide)) (by kernel_rfl) (hel 1 _ rfl) (by omega)
  exact ⟨hlen.trans (by kernel_rfl), ⟨m0, m1⟩, ⟨okAt h0 _ (fun j => (Nat.zero_add _).symm), okAt h1 _ (fun j => Nat.add_comm j 1)⟩⟩
theorem rEvent.mk {N : Nat} {F : PH} {m : D.Event} {c1 : Value} (h1 : (rLn N (rI .i32)).rv F c1 m.Args) (w0 : IntKind.i32.wrap m.Callee = m.Callee) : (rEventN N).ra F (.agg #[.int .i32 m.Callee, c1]) m := ⟨[.int .i32 m.Callee, c1], rfl, rfl, ⟨⟨rfl, w0⟩, h1⟩⟩
structure D.Outcome where
  End : Int
  Val : Int
  Mem : List Int
  Calls : List D.Event
  Steps : Int
deriving DecidableEq
instance : Inhabited D.Outcome := ⟨⟨0, 0, [], [], 0⟩⟩
def rOutcomeN (N : Nat) : Rp D.Outcome := rM (rP (rI .i64) (rP (rI .i32) (rP (rLn N (rI .i32)) (rP (rLn N (rEventN N)) (rI .i64))))) (fun m => (m.End, m.Val, m.Mem, m.Calls, m.Steps))
abbrev rOutcome : Rp D.Outcome := rOutcomeN 1073741824
theorem rOutcome_sz : rOutcome.sz = 5 := rfl
theorem rOutcome.at_End {N : Nat} {F : PH} {b o : Nat} {m : D.Outcome} (h : At F (rOutcomeN N) b o m) : At F (rI .i64) b (o + 0) m.End := At.part 0 h (Nat.le_of_ble_eq_true rfl) (fun _ h => h.1)
theorem rOutcome.at_Val {N : Nat} {F : PH} {b o : Nat} {m : D.Outcome} (h : At F (rOutcomeN N) b o m) : At F (rI .i32) b (o + 1) m.Val := At.part 1 h (Nat.le_of_ble_eq_true rfl) (fun _ h => h.2.1)
theorem rOutcome.at_Mem {N : Nat} {F : PH} {b o : Nat} {m : D.Outcome} (h : At F (rOutcomeN N) b o m) : At F (rLn N (rI .i32)) b (o + 2) m.Mem := At.part 2 h (Nat.le_of_ble_eq_true rfl) (fun _ h => h.2.2.1)
theorem rOutcome.at_Calls {N : Nat} {F : PH} {b o : Nat} {m : D.Outcome} (h : At F (rOutcomeN N) b o m) : At F (rLn N (rEventN N)) b (o + 3) m.Calls := At.part 3 h (Nat.le_of_ble_eq_true rfl) (fun _ h => h.2.2.2.1)
theorem rOutcome.at_Steps {N : Nat} {F : PH} {b o : Nat} {m : D.Outcome} (h : At F (rOutcomeN N) b o m) : At F (rI .i64) b (o + 4) m.Steps := At.part 4 h (Nat.le_of_ble_eq_true rfl) (fun _ h => h.2.2.2.2)
theorem rOutcome.any {N : Nat} {F : PH} {v : Value} {m : D.Outcome} (h : (rOutcomeN N).ra F v m) : ∃ f, (rOutcomeN N).ok F m f := by obtain ⟨l, _, _, h⟩ := h; exact ⟨_, h⟩
theorem rOutcome.w_End {N : Nat} {F : PH} {m : D.Outcome} (h : ∃ f, (rOutcomeN N).ok F m f) : IntKind.i64.wrap m.End = m.End := by obtain ⟨_, h⟩ := h; exact (h.1).2
theorem rOutcome.w_Val {N : Nat} {F : PH} {m : D.Outcome} (h : ∃ f, (rOutcomeN N).ok F m f) : IntKind.i32.wrap m.Val = m.Val := by obtain ⟨_, h⟩ := h; exact (h.2.1).2
theorem rOutcome.w_Steps {N : Nat} {F : PH} {m : D.Outcome} (h : ∃ f, (rOutcomeN N).ok F m f) : IntKind.i64.wrap m.Steps = m.Steps := by obtain ⟨_, h⟩ := h; exact (h.2.2.2.2).2
theorem rOutcome.open {N : Nat} {F : PH} {v : Value} {m : D.Outcome} (h : (rOutcomeN N).ra F v m) : ∃ c2 c3, v = .agg #[.int .i64 m.End, .int .i32 m.Val, c2, c3, .int .i64 m.Steps] ∧ (rLn N (rI .i32)).rv F c2 m.Mem ∧ (rLn N (rEventN N)).rv F c3 m.Calls := by
  obtain ⟨l, rfl, hl, h⟩ := h
  match l, hl with
  | [a0, a1, a2, a3, a4], _ =>
    obtain ⟨⟨h0, _⟩, ⟨h1, _⟩, h2, h3, ⟨h4, _⟩⟩ := h
    obtain rfl : a0 = _ := h0
    obtain rfl : a1 = _ := h1
    obtain rfl : a4 = _ := h4
    exact ⟨a2, a3, rfl, h2, h3⟩
theorem rOutcome.opens : Opens Try.prog 33 (rOutcomeN 9223372036854775808) := by
  intro H enc W held fuel cs x h
  obtain ⟨xs, n, _, _, hlen, hx, hel⟩ := DataW.trod_struct Try.underlying33 h
  have hx2 : xs.length = 5 := hx
  obtain ⟨m0, h0⟩ := Opens.field (Opens.int Try.underlying3) (by kernel_rfl) (hel 0 _ rfl) (by omega)
  obtain ⟨m1, h1⟩ := Opens.field (Opens.int Try.underlying21) (by kernel_rfl) (hel 1 _ rfl) (by omega)
  obtain ⟨m2, h2⟩ := Opens.field (Opens.slice Try.underlying25 (Opens.int Try.underlying21) (by kernel_rfl) (by decide)) (by kernel_rfl) (hel 2 _ rfl) (by omega)
  obtain ⟨m3, h3⟩ := Opens.field (Opens.slice Try.underlying31 rEvent.opens (by kernel_rfl) (by decide)) (by kernel_rfl) (hel 3 _ rfl) (by omega)
  obtain ⟨m4, h4⟩ := Opens.field (Opens.int Try.underlying3) (by kernel_rfl) (hel 4 _ rfl) (by omega)
  exact ⟨hlen.trans (by kernel_rfl), ⟨m0, m1, m2, m3, m4⟩, ⟨okAt h0 _ (fun j => (Nat.zero_add _).symm), okAt h1 _ (fun j => Nat.add_comm j 1), okAt h2 _ (fun j => Nat.add_comm j 2), okAt h3 _ (fun j => Nat.add_comm j 3), okAt h4 _ (fun j => Nat.add_comm j 4)⟩⟩
theorem rOutcome.mk {N : Nat} {F : PH} {m : D.Outcome} {c2 : Value} {c3 : Value} (h2 : (rLn N (rI .i32)).rv F c2 m.Mem) (h3 : (rLn N (rEventN N)).rv F c3 m.Calls) (w0 : IntKind.i64.wrap m.End = m.End) (w1 : IntKind.i32.wrap m.Val = m.Val) (w4 : IntKind.i64.wrap m.Steps = m.Steps) : (rOutcomeN N).ra F (.agg #[.int .i64 m.End, .int .i32 m.Val, c2, c3, .int .i64 m.Steps]) m := ⟨[.int .i64 m.End, .int .i32 m.Val, c2, c3, .int .i64 m.Steps], rfl, rfl, ⟨⟨rfl, w0⟩, ⟨rfl, w1⟩, h2, h3, ⟨rfl, w4⟩⟩⟩
structure D.jacquardref07_Got where
  E : Int
  Block : Int
  Place : Int
deriving DecidableEq
instance : Inhabited D.jacquardref07_Got := ⟨⟨0, 0, 0⟩⟩
def rjacquardref07_Got : Rp D.jacquardref07_Got := rM (rP (rI .i64) (rP (rI .i64) (rI .i64))) (fun m => (m.E, m.Block, m.Place))
theorem rjacquardref07_Got_sz : rjacquardref07_Got.sz = 3 := rfl
theorem rjacquardref07_Got.at_E {F : PH} {b o : Nat} {m : D.jacquardref07_Got} (h : At F rjacquardref07_Got b o m) : At F (rI .i64) b (o + 0) m.E := At.part 0 h (Nat.le_of_ble_eq_true rfl) (fun _ h => h.1)
theorem rjacquardref07_Got.at_Block {F : PH} {b o : Nat} {m : D.jacquardref07_Got} (h : At F rjacquardref07_Got b o m) : At F (rI .i64) b (o + 1) m.Block := At.part 1 h (Nat.le_of_ble_eq_true rfl) (fun _ h => h.2.1)
theorem rjacquardref07_Got.at_Place {F : PH} {b o : Nat} {m : D.jacquardref07_Got} (h : At F rjacquardref07_Got b o m) : At F (rI .i64) b (o + 2) m.Place := At.part 2 h (Nat.le_of_ble_eq_true rfl) (fun _ h => h.2.2)
theorem rjacquardref07_Got.any {F : PH} {v : Value} {m : D.jacquardref07_Got} (h : rjacquardref07_Got.ra F v m) : ∃ f, rjacquardref07_Got.ok F m f := by obtain ⟨l, _, _, h⟩ := h; exact ⟨_, h⟩
theorem rjacquardref07_Got.w_E {F : PH} {m : D.jacquardref07_Got} (h : ∃ f, rjacquardref07_Got.ok F m f) : IntKind.i64.wrap m.E = m.E := by obtain ⟨_, h⟩ := h; exact (h.1).2
theorem rjacquardref07_Got.w_Block {F : PH} {m : D.jacquardref07_Got} (h : ∃ f, rjacquardref07_Got.ok F m f) : IntKind.i64.wrap m.Block = m.Block := by obtain ⟨_, h⟩ := h; exact (h.2.1).2
theorem rjacquardref07_Got.w_Place {F : PH} {m : D.jacquardref07_Got} (h : ∃ f, rjacquardref07_Got.ok F m f) : IntKind.i64.wrap m.Place = m.Place := by obtain ⟨_, h⟩ := h; exact (h.2.2).2
theorem rjacquardref07_Got.open {F : PH} {v : Value} {m : D.jacquardref07_Got} (h : rjacquardref07_Got.ra F v m) : v = .agg #[.int .i64 m.E, .int .i64 m.Block, .int .i64 m.Place] := by
  obtain ⟨l, rfl, hl, h⟩ := h
  match l, hl with
  | [a0, a1, a2], _ =>
    obtain ⟨⟨h0, _⟩, ⟨h1, _⟩, ⟨h2, _⟩⟩ := h
    obtain rfl : a0 = _ := h0
    obtain rfl : a1 = _ := h1
    obtain rfl : a2 = _ := h2
    exact rfl
theorem rjacquardref07_Got.opens : Opens Try.prog 79 rjacquardref07_Got := by
  intro H enc W held fuel cs x h
  obtain ⟨xs, n, _, _, hlen, hx, hel⟩ := DataW.trod_struct Try.underlying79 h
  have hx2 : xs.length = 3 := hx
  obtain ⟨m0, h0⟩ := Opens.field (Opens.int Try.underlying56) (by kernel_rfl) (hel 0 _ rfl) (by omega)
  obtain ⟨m1, h1⟩ := Opens.field (Opens.int Try.underlying3) (by kernel_rfl) (hel 1 _ rfl) (by omega)
  obtain ⟨m2, h2⟩ := Opens.field (Opens.int Try.underlying3) (by kernel_rfl) (hel 2 _ rfl) (by omega)
  exact ⟨hlen.trans (by kernel_rfl), ⟨m0, m1, m2⟩, ⟨okAt h0 _ (fun j => (Nat.zero_add _).symm), okAt h1 _ (fun j => Nat.add_comm j 1), okAt h2 _ (fun j => Nat.add_comm j 2)⟩⟩
theorem rjacquardref07_Got.mk {F : PH} {m : D.jacquardref07_Got}   (w0 : IntKind.i64.wrap m.E = m.E) (w1 : IntKind.i64.wrap m.Block = m.Block) (w2 : IntKind.i64.wrap m.Place = m.Place) : rjacquardref07_Got.ra F (.agg #[.int .i64 m.E, .int .i64 m.Block, .int .i64 m.Place]) m := ⟨[.int .i64 m.E, .int .i64 m.Block, .int .i64 m.Place], rfl, rfl, ⟨⟨rfl, w0⟩, ⟨rfl, w1⟩, ⟨rfl, w2⟩⟩⟩
end Go.Proofs.Ytehibklogdngbaa
