/- Lemmas that the claim is made of. Conditions: each lemma names its own. -/
import Derived.Test.YtehhjlkmbdhckaaGreatKG2
import Derived.Test.YtehhjlkmbdhckaaGreatRows
set_option linter.unusedSectionVars false
set_option linter.unusedSimpArgs false
set_option linter.unusedVariables false
namespace Go.Proofs.YtehhjlkmbdhckaaGreat
open Go.JE
structure D.In where
 From : Int
 Val : Int
deriving DecidableEq
instance : Inhabited D.In := ⟨⟨0,0⟩⟩
def rIn : Rp D.In := rM (rP (rI .i64) (rI .i64)) (fun m => (m.From,m.Val))
theorem rIn.at_Val {F : PH} {b o : Nat} {m : D.In} (h : At F rIn b o m) : At F (rI .i64) b (o + 1) m.Val := At.part 1 h (Nat.le_of_ble_eq_true rfl) (fun _ h => h.2)
theorem rIn.any {F : PH} {v : Value} {m : D.In} (h : rIn.ra F v m) : ∃ f,rIn.ok F m f := by obtain ⟨l,_,_,h⟩ := h; exact ⟨_,h⟩
theorem rIn.w_Val {F : PH} {m : D.In} (h : ∃ f,rIn.ok F m f) : IntKind.i64.wrap m.Val = m.Val := by obtain ⟨_,h⟩ := h; exact (h.2).2
theorem rIn.open {F : PH} {v : Value} {m : D.In} (h : rIn.ra F v m) : v = .agg #[.int .i64 m.From,.int .i64 m.Val] := by
 obtain ⟨l,rfl,hl,h⟩ := h
 match l,hl with
 | [a0,a1],_ =>
   obtain ⟨⟨h0,_⟩,⟨h1,_⟩⟩ := h
   obtain rfl : a0 = _ := h0
   obtain rfl : a1 = _ := h1
   exact rfl
theorem rIn.mk {F : PH} {m : D.In}   (w0 : IntKind.i64.wrap m.From = m.From) (w1 : IntKind.i64.wrap m.Val = m.Val) : rIn.ra F (.agg #[.int .i64 m.From,.int .i64 m.Val]) m := ⟨[.int .i64 m.From,.int .i64 m.Val],rfl,rfl,⟨⟨rfl,w0⟩,⟨rfl,w1⟩⟩⟩
structure D.Phi where
 Dst : Int
 In : List D.In
deriving DecidableEq
instance : Inhabited D.Phi := ⟨⟨0,[]⟩⟩
def rPhiN (N : Nat) : Rp D.Phi := rM (rP (rI .i64) (rLn N rIn)) (fun m => (m.Dst,m.In))
abbrev rPhi : Rp D.Phi := rPhiN 1073741824
theorem rPhi.at_Dst {N : Nat} {F : PH} {b o : Nat} {m : D.Phi} (h : At F (rPhiN N) b o m) : At F (rI .i64) b (o + 0) m.Dst := At.part 0 h (Nat.le_of_ble_eq_true rfl) (fun _ h => h.1)
theorem rPhi.at_In {N : Nat} {F : PH} {b o : Nat} {m : D.Phi} (h : At F (rPhiN N) b o m) : At F (rLn N rIn) b (o + 1) m.In := At.part 1 h (Nat.le_of_ble_eq_true rfl) (fun _ h => h.2)
theorem rPhi.any {N : Nat} {F : PH} {v : Value} {m : D.Phi} (h : (rPhiN N).ra F v m) : ∃ f,(rPhiN N).ok F m f := by obtain ⟨l,_,_,h⟩ := h; exact ⟨_,h⟩
theorem rPhi.w_Dst {N : Nat} {F : PH} {m : D.Phi} (h : ∃ f,(rPhiN N).ok F m f) : IntKind.i64.wrap m.Dst = m.Dst := by obtain ⟨_,h⟩ := h; exact (h.1).2
theorem rPhi.open {N : Nat} {F : PH} {v : Value} {m : D.Phi} (h : (rPhiN N).ra F v m) : ∃ c1,v = .agg #[.int .i64 m.Dst,c1] ∧ (rLn N rIn).rv F c1 m.In := by
 obtain ⟨l,rfl,hl,h⟩ := h
 match l,hl with
 | [a0,a1],_ =>
   obtain ⟨⟨h0,_⟩,h1⟩ := h
   obtain rfl : a0 = _ := h0
   exact ⟨a1,rfl,h1⟩
theorem rPhi.mk {N : Nat} {F : PH} {m : D.Phi} {c1 : Value} (h1 : (rLn N rIn).rv F c1 m.In) (w0 : IntKind.i64.wrap m.Dst = m.Dst) : (rPhiN N).ra F (.agg #[.int .i64 m.Dst,c1]) m := ⟨[.int .i64 m.Dst,c1],rfl,rfl,⟨⟨rfl,w0⟩,h1⟩⟩
structure D.Mach where
 Op : Int
 D : Int
 E : Int
 A : Int
 B : Int
 C : Int
 Imm : Int
 Args : List Int
deriving DecidableEq
instance : Inhabited D.Mach := ⟨⟨0,0,0,0,0,0,0,[]⟩⟩
def rMachN (N : Nat) : Rp D.Mach := rM (rP (rI .i64) (rP (rI .i64) (rP (rI .i64) (rP (rI .i64) (rP (rI .i64) (rP (rI .i64) (rP (rI .i32) (rLn N (rI .i64))))))))) (fun m => (m.Op,m.D,m.E,m.A,m.B,m.C,m.Imm,m.Args))
abbrev rMach : Rp D.Mach := rMachN 1073741824
theorem rMach.any {N : Nat} {F : PH} {v : Value} {m : D.Mach} (h : (rMachN N).ra F v m) : ∃ f,(rMachN N).ok F m f := by obtain ⟨l,_,_,h⟩ := h; exact ⟨_,h⟩
theorem rMach.w_D {N : Nat} {F : PH} {m : D.Mach} (h : ∃ f,(rMachN N).ok F m f) : IntKind.i64.wrap m.D = m.D := by obtain ⟨_,h⟩ := h; exact (h.2.1).2
theorem rMach.w_E {N : Nat} {F : PH} {m : D.Mach} (h : ∃ f,(rMachN N).ok F m f) : IntKind.i64.wrap m.E = m.E := by obtain ⟨_,h⟩ := h; exact (h.2.2.1).2
theorem rMach.w_A {N : Nat} {F : PH} {m : D.Mach} (h : ∃ f,(rMachN N).ok F m f) : IntKind.i64.wrap m.A = m.A := by obtain ⟨_,h⟩ := h; exact (h.2.2.2.1).2
theorem rMach.w_B {N : Nat} {F : PH} {m : D.Mach} (h : ∃ f,(rMachN N).ok F m f) : IntKind.i64.wrap m.B = m.B := by obtain ⟨_,h⟩ := h; exact (h.2.2.2.2.1).2
theorem rMach.w_C {N : Nat} {F : PH} {m : D.Mach} (h : ∃ f,(rMachN N).ok F m f) : IntKind.i64.wrap m.C = m.C := by obtain ⟨_,h⟩ := h; exact (h.2.2.2.2.2.1).2
theorem rMach.w_Imm {N : Nat} {F : PH} {m : D.Mach} (h : ∃ f,(rMachN N).ok F m f) : IntKind.i32.wrap m.Imm = m.Imm := by obtain ⟨_,h⟩ := h; exact (h.2.2.2.2.2.2.1).2
theorem rMach.open {N : Nat} {F : PH} {v : Value} {m : D.Mach} (h : (rMachN N).ra F v m) : ∃ c7,v = .agg #[.int .i64 m.Op,.int .i64 m.D,.int .i64 m.E,.int .i64 m.A,.int .i64 m.B,.int .i64 m.C,.int .i32 m.Imm,c7] ∧ (rLn N (rI .i64)).rv F c7 m.Args := by
 obtain ⟨l,rfl,hl,h⟩ := h
 match l,hl with
 | [a0,a1,a2,a3,a4,a5,a6,a7],_ =>
   obtain ⟨⟨h0,_⟩,⟨h1,_⟩,⟨h2,_⟩,⟨h3,_⟩,⟨h4,_⟩,⟨h5,_⟩,⟨h6,_⟩,h7⟩ := h
   obtain rfl : a0 = _ := h0
   obtain rfl : a1 = _ := h1
   obtain rfl : a2 = _ := h2
   obtain rfl : a3 = _ := h3
   obtain rfl : a4 = _ := h4
   obtain rfl : a5 = _ := h5
   obtain rfl : a6 = _ := h6
   exact ⟨a7,rfl,h7⟩
theorem rMach.mk {N : Nat} {F : PH} {m : D.Mach} {c7 : Value} (h7 : (rLn N (rI .i64)).rv F c7 m.Args) (w0 : IntKind.i64.wrap m.Op = m.Op) (w1 : IntKind.i64.wrap m.D = m.D) (w2 : IntKind.i64.wrap m.E = m.E) (w3 : IntKind.i64.wrap m.A = m.A) (w4 : IntKind.i64.wrap m.B = m.B) (w5 : IntKind.i64.wrap m.C = m.C) (w6 : IntKind.i32.wrap m.Imm = m.Imm) : (rMachN N).ra F (.agg #[.int .i64 m.Op,.int .i64 m.D,.int .i64 m.E,.int .i64 m.A,.int .i64 m.B,.int .i64 m.C,.int .i32 m.Imm,c7]) m := ⟨[.int .i64 m.Op,.int .i64 m.D,.int .i64 m.E,.int .i64 m.A,.int .i64 m.B,.int .i64 m.C,.int .i32 m.Imm,c7],rfl,rfl,⟨⟨rfl,w0⟩,⟨rfl,w1⟩,⟨rfl,w2⟩,⟨rfl,w3⟩,⟨rfl,w4⟩,⟨rfl,w5⟩,⟨rfl,w6⟩,h7⟩⟩
structure D.End where
 Op : Int
 A : Int
 B : Int
 To : List Int
 Imm : Int
deriving DecidableEq
instance : Inhabited D.End := ⟨⟨0,0,0,[],0⟩⟩
def rEndN (N : Nat) : Rp D.End := rM (rP (rI .i64) (rP (rI .i64) (rP (rI .i64) (rP (rLn N (rI .i64)) (rI .i32))))) (fun m => (m.Op,m.A,m.B,m.To,m.Imm))
abbrev rEnd : Rp D.End := rEndN 1073741824
theorem rEnd.at_To {N : Nat} {F : PH} {b o : Nat} {m : D.End} (h : At F (rEndN N) b o m) : At F (rLn N (rI .i64)) b (o + 3) m.To := At.part 3 h (Nat.le_of_ble_eq_true rfl) (fun _ h => h.2.2.2.1)
theorem rEnd.any {N : Nat} {F : PH} {v : Value} {m : D.End} (h : (rEndN N).ra F v m) : ∃ f,(rEndN N).ok F m f := by obtain ⟨l,_,_,h⟩ := h; exact ⟨_,h⟩
theorem rEnd.w_Op {N : Nat} {F : PH} {m : D.End} (h : ∃ f,(rEndN N).ok F m f) : IntKind.i64.wrap m.Op = m.Op := by obtain ⟨_,h⟩ := h; exact (h.1).2
theorem rEnd.w_A {N : Nat} {F : PH} {m : D.End} (h : ∃ f,(rEndN N).ok F m f) : IntKind.i64.wrap m.A = m.A := by obtain ⟨_,h⟩ := h; exact (h.2.1).2
theorem rEnd.w_B {N : Nat} {F : PH} {m : D.End} (h : ∃ f,(rEndN N).ok F m f) : IntKind.i64.wrap m.B = m.B := by obtain ⟨_,h⟩ := h; exact (h.2.2.1).2
theorem rEnd.w_Imm {N : Nat} {F : PH} {m : D.End} (h : ∃ f,(rEndN N).ok F m f) : IntKind.i32.wrap m.Imm = m.Imm := by obtain ⟨_,h⟩ := h; exact (h.2.2.2.2).2
theorem rEnd.open {N : Nat} {F : PH} {v : Value} {m : D.End} (h : (rEndN N).ra F v m) : ∃ c3,v = .agg #[.int .i64 m.Op,.int .i64 m.A,.int .i64 m.B,c3,.int .i32 m.Imm] ∧ (rLn N (rI .i64)).rv F c3 m.To := by
 obtain ⟨l,rfl,hl,h⟩ := h
 match l,hl with
 | [a0,a1,a2,a3,a4],_ =>
   obtain ⟨⟨h0,_⟩,⟨h1,_⟩,⟨h2,_⟩,h3,⟨h4,_⟩⟩ := h
   obtain rfl : a0 = _ := h0
   obtain rfl : a1 = _ := h1
   obtain rfl : a2 = _ := h2
   obtain rfl : a4 = _ := h4
   exact ⟨a3,rfl,h3⟩
theorem rEnd.mk {N : Nat} {F : PH} {m : D.End} {c3 : Value} (h3 : (rLn N (rI .i64)).rv F c3 m.To) (w0 : IntKind.i64.wrap m.Op = m.Op) (w1 : IntKind.i64.wrap m.A = m.A) (w2 : IntKind.i64.wrap m.B = m.B) (w4 : IntKind.i32.wrap m.Imm = m.Imm) : (rEndN N).ra F (.agg #[.int .i64 m.Op,.int .i64 m.A,.int .i64 m.B,c3,.int .i32 m.Imm]) m := ⟨[.int .i64 m.Op,.int .i64 m.A,.int .i64 m.B,c3,.int .i32 m.Imm],rfl,rfl,⟨⟨rfl,w0⟩,⟨rfl,w1⟩,⟨rfl,w2⟩,h3,⟨rfl,w4⟩⟩⟩
structure D.MBlock where
 Phis : List D.Phi
 Ins : List D.Mach
 End : D.End
deriving DecidableEq
instance : Inhabited D.MBlock := ⟨⟨[],[],default⟩⟩
def rMBlockN (N : Nat) : Rp D.MBlock := rM (rP (rLn N (rPhiN N)) (rP (rLn N (rMachN N)) (rEndN N))) (fun m => (m.Phis,m.Ins,m.End))
abbrev rMBlock : Rp D.MBlock := rMBlockN 1073741824
theorem rMBlock.at_Phis {N : Nat} {F : PH} {b o : Nat} {m : D.MBlock} (h : At F (rMBlockN N) b o m) : At F (rLn N (rPhiN N)) b (o + 0) m.Phis := At.part 0 h (Nat.le_of_ble_eq_true rfl) (fun _ h => h.1)
theorem rMBlock.at_Ins {N : Nat} {F : PH} {b o : Nat} {m : D.MBlock} (h : At F (rMBlockN N) b o m) : At F (rLn N (rMachN N)) b (o + 1) m.Ins := At.part 1 h (Nat.le_of_ble_eq_true rfl) (fun _ h => h.2.1)
theorem rMBlock.at_End {N : Nat} {F : PH} {b o : Nat} {m : D.MBlock} (h : At F (rMBlockN N) b o m) : At F (rEndN N) b (o + 2) m.End := At.part 2 h (Nat.le_of_ble_eq_true rfl) (fun _ h => h.2.2)
theorem rMBlock.any {N : Nat} {F : PH} {v : Value} {m : D.MBlock} (h : (rMBlockN N).ra F v m) : ∃ f,(rMBlockN N).ok F m f := by obtain ⟨l,_,_,h⟩ := h; exact ⟨_,h⟩
theorem rMBlock.k_End {N : Nat} {F : PH} {m : D.MBlock} (h : ∃ f,(rMBlockN N).ok F m f) : ∃ f,(rEndN N).ok F m.End f := by obtain ⟨_,h⟩ := h; exact ⟨_,h.2.2⟩
theorem rMBlock.open {N : Nat} {F : PH} {v : Value} {m : D.MBlock} (h : (rMBlockN N).ra F v m) : ∃ c0 c1 c5,v = .agg #[c0,c1,.int .i64 m.End.Op,.int .i64 m.End.A,.int .i64 m.End.B,c5,.int .i32 m.End.Imm] ∧ (rLn N (rPhiN N)).rv F c0 m.Phis ∧ (rLn N (rMachN N)).rv F c1 m.Ins ∧ (rLn N (rI .i64)).rv F c5 m.End.To := by
 obtain ⟨l,rfl,hl,h⟩ := h
 match l,hl with
 | [a0,a1,a2,a3,a4,a5,a6],_ =>
   obtain ⟨h0,h1,⟨⟨h2,_⟩,⟨h3,_⟩,⟨h4,_⟩,h5,⟨h6,_⟩⟩⟩ := h
   obtain rfl : a2 = _ := h2
   obtain rfl : a3 = _ := h3
   obtain rfl : a4 = _ := h4
   obtain rfl : a6 = _ := h6
   exact ⟨a0,a1,a5,rfl,h0,h1,h5⟩
theorem rMBlock.mk {N : Nat} {F : PH} {m : D.MBlock} {c0 : Value} {c1 : Value} {c5 : Value} (h0 : (rLn N (rPhiN N)).rv F c0 m.Phis) (h1 : (rLn N (rMachN N)).rv F c1 m.Ins) (h5 : (rLn N (rI .i64)).rv F c5 m.End.To) (w2 : IntKind.i64.wrap m.End.Op = m.End.Op) (w3 : IntKind.i64.wrap m.End.A = m.End.A) (w4 : IntKind.i64.wrap m.End.B = m.End.B) (w6 : IntKind.i32.wrap m.End.Imm = m.End.Imm) : (rMBlockN N).ra F (.agg #[c0,c1,.int .i64 m.End.Op,.int .i64 m.End.A,.int .i64 m.End.B,c5,.int .i32 m.End.Imm]) m := ⟨[c0,c1,.int .i64 m.End.Op,.int .i64 m.End.A,.int .i64 m.End.B,c5,.int .i32 m.End.Imm],rfl,rfl,⟨h0,h1,⟨⟨rfl,w2⟩,⟨rfl,w3⟩,⟨rfl,w4⟩,h5,⟨rfl,w6⟩⟩⟩⟩
structure D.MFunc where
 Params : Int
 Blocks : List D.MBlock
deriving DecidableEq
instance : Inhabited D.MFunc := ⟨⟨0,[]⟩⟩
def rMFuncN (N : Nat) : Rp D.MFunc := rM (rP (rI .i64) (rLn N (rMBlockN N))) (fun m => (m.Params,m.Blocks))
abbrev rMFunc : Rp D.MFunc := rMFuncN 1073741824
theorem rMFunc.open {N : Nat} {F : PH} {v : Value} {m : D.MFunc} (h : (rMFuncN N).ra F v m) : ∃ c1,v = .agg #[.int .i64 m.Params,c1] ∧ (rLn N (rMBlockN N)).rv F c1 m.Blocks := by
 obtain ⟨l,rfl,hl,h⟩ := h
 match l,hl with
 | [a0,a1],_ =>
   obtain ⟨⟨h0,_⟩,h1⟩ := h
   obtain rfl : a0 = _ := h0
   exact ⟨a1,rfl,h1⟩
theorem rMFunc.mk {N : Nat} {F : PH} {m : D.MFunc} {c1 : Value} (h1 : (rLn N (rMBlockN N)).rv F c1 m.Blocks) (w0 : IntKind.i64.wrap m.Params = m.Params) : (rMFuncN N).ra F (.agg #[.int .i64 m.Params,c1]) m := ⟨[.int .i64 m.Params,c1],rfl,rfl,⟨⟨rfl,w0⟩,h1⟩⟩
structure D.Input where
 Args : List Int
 Mem : List Int
 Answers : List Int
 Steps : Int
deriving DecidableEq
instance : Inhabited D.Input := ⟨⟨[],[],[],0⟩⟩
structure D.Event where
 Callee : Int
 Args : List Int
deriving DecidableEq
instance : Inhabited D.Event := ⟨⟨0,[]⟩⟩
structure D.Outcome where
 End : Int
 Val : Int
 Mem : List Int
 Calls : List D.Event
 Steps : Int
deriving DecidableEq
instance : Inhabited D.Outcome := ⟨⟨0,0,[],[],0⟩⟩
structure D.Go7 where
 E : Int
 Block : Int
 Place : Int
deriving DecidableEq
instance : Inhabited D.Go7 := ⟨⟨0,0,0⟩⟩
def rGo7 : Rp D.Go7 := rM (rP (rI .i64) (rP (rI .i64) (rI .i64))) (fun m => (m.E,m.Block,m.Place))
theorem rGo7.at_Block {F : PH} {b o : Nat} {m : D.Go7} (h : At F rGo7 b o m) : At F (rI .i64) b (o + 1) m.Block := At.part 1 h (Nat.le_of_ble_eq_true rfl) (fun _ h => h.2.1)
theorem rGo7.any {F : PH} {v : Value} {m : D.Go7} (h : rGo7.ra F v m) : ∃ f,rGo7.ok F m f := by obtain ⟨l,_,_,h⟩ := h; exact ⟨_,h⟩
theorem rGo7.w_E {F : PH} {m : D.Go7} (h : ∃ f,rGo7.ok F m f) : IntKind.i64.wrap m.E = m.E := by obtain ⟨_,h⟩ := h; exact (h.1).2
theorem rGo7.open {F : PH} {v : Value} {m : D.Go7} (h : rGo7.ra F v m) : v = .agg #[.int .i64 m.E,.int .i64 m.Block,.int .i64 m.Place] := by
 obtain ⟨l,rfl,hl,h⟩ := h
 match l,hl with
 | [a0,a1,a2],_ =>
   obtain ⟨⟨h0,_⟩,⟨h1,_⟩,⟨h2,_⟩⟩ := h
   obtain rfl : a0 = _ := h0
   obtain rfl : a1 = _ := h1
   obtain rfl : a2 = _ := h2
   exact rfl
theorem rGo7.mk {F : PH} {m : D.Go7}   (w0 : IntKind.i64.wrap m.E = m.E) (w1 : IntKind.i64.wrap m.Block = m.Block) (w2 : IntKind.i64.wrap m.Place = m.Place) : rGo7.ra F (.agg #[.int .i64 m.E,.int .i64 m.Block,.int .i64 m.Place]) m := ⟨[.int .i64 m.E,.int .i64 m.Block,.int .i64 m.Place],rfl,rfl,⟨⟨rfl,w0⟩,⟨rfl,w1⟩,⟨rfl,w2⟩⟩⟩
structure D.Ins where
 Op : Int
 Dst : Int
 Two : Int
 Args : List Int
 Imm : Int
deriving DecidableEq
instance : Inhabited D.Ins := ⟨⟨0,0,0,[],0⟩⟩
def rInsN (N : Nat) : Rp D.Ins := rM (rP (rI .i64) (rP (rI .i64) (rP (rI .i64) (rP (rLn N (rI .i64)) (rI .i32))))) (fun m => (m.Op,m.Dst,m.Two,m.Args,m.Imm))
abbrev rIns : Rp D.Ins := rInsN 1073741824
theorem rIns.at_Args {N : Nat} {F : PH} {b o : Nat} {m : D.Ins} (h : At F (rInsN N) b o m) : At F (rLn N (rI .i64)) b (o + 3) m.Args := At.part 3 h (Nat.le_of_ble_eq_true rfl) (fun _ h => h.2.2.2.1)
theorem rIns.any {N : Nat} {F : PH} {v : Value} {m : D.Ins} (h : (rInsN N).ra F v m) : ∃ f,(rInsN N).ok F m f := by obtain ⟨l,_,_,h⟩ := h; exact ⟨_,h⟩
theorem rIns.w_Dst {N : Nat} {F : PH} {m : D.Ins} (h : ∃ f,(rInsN N).ok F m f) : IntKind.i64.wrap m.Dst = m.Dst := by obtain ⟨_,h⟩ := h; exact (h.2.1).2
theorem rIns.w_Two {N : Nat} {F : PH} {m : D.Ins} (h : ∃ f,(rInsN N).ok F m f) : IntKind.i64.wrap m.Two = m.Two := by obtain ⟨_,h⟩ := h; exact (h.2.2.1).2
theorem rIns.w_Imm {N : Nat} {F : PH} {m : D.Ins} (h : ∃ f,(rInsN N).ok F m f) : IntKind.i32.wrap m.Imm = m.Imm := by obtain ⟨_,h⟩ := h; exact (h.2.2.2.2).2
theorem rIns.open {N : Nat} {F : PH} {v : Value} {m : D.Ins} (h : (rInsN N).ra F v m) : ∃ c3,v = .agg #[.int .i64 m.Op,.int .i64 m.Dst,.int .i64 m.Two,c3,.int .i32 m.Imm] ∧ (rLn N (rI .i64)).rv F c3 m.Args := by
 obtain ⟨l,rfl,hl,h⟩ := h
 match l,hl with
 | [a0,a1,a2,a3,a4],_ =>
   obtain ⟨⟨h0,_⟩,⟨h1,_⟩,⟨h2,_⟩,h3,⟨h4,_⟩⟩ := h
   obtain rfl : a0 = _ := h0
   obtain rfl : a1 = _ := h1
   obtain rfl : a2 = _ := h2
   obtain rfl : a4 = _ := h4
   exact ⟨a3,rfl,h3⟩
theorem rIns.mk {N : Nat} {F : PH} {m : D.Ins} {c3 : Value} (h3 : (rLn N (rI .i64)).rv F c3 m.Args) (w0 : IntKind.i64.wrap m.Op = m.Op) (w1 : IntKind.i64.wrap m.Dst = m.Dst) (w2 : IntKind.i64.wrap m.Two = m.Two) (w4 : IntKind.i32.wrap m.Imm = m.Imm) : (rInsN N).ra F (.agg #[.int .i64 m.Op,.int .i64 m.Dst,.int .i64 m.Two,c3,.int .i32 m.Imm]) m := ⟨[.int .i64 m.Op,.int .i64 m.Dst,.int .i64 m.Two,c3,.int .i32 m.Imm],rfl,rfl,⟨⟨rfl,w0⟩,⟨rfl,w1⟩,⟨rfl,w2⟩,h3,⟨rfl,w4⟩⟩⟩
structure D.Term where
 Kind : Int
 Args : List Int
 To : List Int
 Imm : Int
deriving DecidableEq
instance : Inhabited D.Term := ⟨⟨0,[],[],0⟩⟩
def rTermN (N : Nat) : Rp D.Term := rM (rP (rI .i64) (rP (rLn N (rI .i64)) (rP (rLn N (rI .i64)) (rI .i32)))) (fun m => (m.Kind,m.Args,m.To,m.Imm))
abbrev rTerm : Rp D.Term := rTermN 1073741824
theorem rTerm.at_To {N : Nat} {F : PH} {b o : Nat} {m : D.Term} (h : At F (rTermN N) b o m) : At F (rLn N (rI .i64)) b (o + 2) m.To := At.part 2 h (Nat.le_of_ble_eq_true rfl) (fun _ h => h.2.2.1)
theorem rTerm.any {N : Nat} {F : PH} {v : Value} {m : D.Term} (h : (rTermN N).ra F v m) : ∃ f,(rTermN N).ok F m f := by obtain ⟨l,_,_,h⟩ := h; exact ⟨_,h⟩
theorem rTerm.w_Imm {N : Nat} {F : PH} {m : D.Term} (h : ∃ f,(rTermN N).ok F m f) : IntKind.i32.wrap m.Imm = m.Imm := by obtain ⟨_,h⟩ := h; exact (h.2.2.2).2
theorem rTerm.open {N : Nat} {F : PH} {v : Value} {m : D.Term} (h : (rTermN N).ra F v m) : ∃ c1 c2,v = .agg #[.int .i64 m.Kind,c1,c2,.int .i32 m.Imm] ∧ (rLn N (rI .i64)).rv F c1 m.Args ∧ (rLn N (rI .i64)).rv F c2 m.To := by
 obtain ⟨l,rfl,hl,h⟩ := h
 match l,hl with
 | [a0,a1,a2,a3],_ =>
   obtain ⟨⟨h0,_⟩,h1,h2,⟨h3,_⟩⟩ := h
   obtain rfl : a0 = _ := h0
   obtain rfl : a3 = _ := h3
   exact ⟨a1,a2,rfl,h1,h2⟩
theorem rTerm.mk {N : Nat} {F : PH} {m : D.Term} {c1 : Value} {c2 : Value} (h1 : (rLn N (rI .i64)).rv F c1 m.Args) (h2 : (rLn N (rI .i64)).rv F c2 m.To) (w0 : IntKind.i64.wrap m.Kind = m.Kind) (w3 : IntKind.i32.wrap m.Imm = m.Imm) : (rTermN N).ra F (.agg #[.int .i64 m.Kind,c1,c2,.int .i32 m.Imm]) m := ⟨[.int .i64 m.Kind,c1,c2,.int .i32 m.Imm],rfl,rfl,⟨⟨rfl,w0⟩,h1,h2,⟨rfl,w3⟩⟩⟩
structure D.Block where
 Phis : List D.Phi
 Ins : List D.Ins
 Term : D.Term
deriving DecidableEq
instance : Inhabited D.Block := ⟨⟨[],[],default⟩⟩
def rBlockN (N : Nat) : Rp D.Block := rM (rP (rLn N (rPhiN N)) (rP (rLn N (rInsN N)) (rTermN N))) (fun m => (m.Phis,m.Ins,m.Term))
abbrev rBlock : Rp D.Block := rBlockN 1073741824
theorem rBlock.at_Phis {N : Nat} {F : PH} {b o : Nat} {m : D.Block} (h : At F (rBlockN N) b o m) : At F (rLn N (rPhiN N)) b (o + 0) m.Phis := At.part 0 h (Nat.le_of_ble_eq_true rfl) (fun _ h => h.1)
theorem rBlock.at_Ins {N : Nat} {F : PH} {b o : Nat} {m : D.Block} (h : At F (rBlockN N) b o m) : At F (rLn N (rInsN N)) b (o + 1) m.Ins := At.part 1 h (Nat.le_of_ble_eq_true rfl) (fun _ h => h.2.1)
theorem rBlock.at_Term {N : Nat} {F : PH} {b o : Nat} {m : D.Block} (h : At F (rBlockN N) b o m) : At F (rTermN N) b (o + 2) m.Term := At.part 2 h (Nat.le_of_ble_eq_true rfl) (fun _ h => h.2.2)
theorem rBlock.open {N : Nat} {F : PH} {v : Value} {m : D.Block} (h : (rBlockN N).ra F v m) : ∃ c0 c1 c3 c4,v = .agg #[c0,c1,.int .i64 m.Term.Kind,c3,c4,.int .i32 m.Term.Imm] ∧ (rLn N (rPhiN N)).rv F c0 m.Phis ∧ (rLn N (rInsN N)).rv F c1 m.Ins ∧ (rLn N (rI .i64)).rv F c3 m.Term.Args ∧ (rLn N (rI .i64)).rv F c4 m.Term.To := by
 obtain ⟨l,rfl,hl,h⟩ := h
 match l,hl with
 | [a0,a1,a2,a3,a4,a5],_ =>
   obtain ⟨h0,h1,⟨⟨h2,_⟩,h3,h4,⟨h5,_⟩⟩⟩ := h
   obtain rfl : a2 = _ := h2
   obtain rfl : a5 = _ := h5
   exact ⟨a0,a1,a3,a4,rfl,h0,h1,h3,h4⟩
structure D.Func where
 Params : Int
 Blocks : List D.Block
deriving DecidableEq
instance : Inhabited D.Func := ⟨⟨0,[]⟩⟩
def rFuncN (N : Nat) : Rp D.Func := rM (rP (rI .i64) (rLn N (rBlockN N))) (fun m => (m.Params,m.Blocks))
abbrev rFunc : Rp D.Func := rFuncN 1073741824
theorem rFunc.any {N : Nat} {F : PH} {v : Value} {m : D.Func} (h : (rFuncN N).ra F v m) : ∃ f,(rFuncN N).ok F m f := by obtain ⟨l,_,_,h⟩ := h; exact ⟨_,h⟩
theorem rFunc.w_Params {N : Nat} {F : PH} {m : D.Func} (h : ∃ f,(rFuncN N).ok F m f) : IntKind.i64.wrap m.Params = m.Params := by obtain ⟨_,h⟩ := h; exact (h.1).2
theorem rFunc.open {N : Nat} {F : PH} {v : Value} {m : D.Func} (h : (rFuncN N).ra F v m) : ∃ c1,v = .agg #[.int .i64 m.Params,c1] ∧ (rLn N (rBlockN N)).rv F c1 m.Blocks := by
 obtain ⟨l,rfl,hl,h⟩ := h
 match l,hl with
 | [a0,a1],_ =>
   obtain ⟨⟨h0,_⟩,h1⟩ := h
   obtain rfl : a0 = _ := h0
   exact ⟨a1,rfl,h1⟩
theorem rFunc.mk {N : Nat} {F : PH} {m : D.Func} {c1 : Value} (h1 : (rLn N (rBlockN N)).rv F c1 m.Blocks) (w0 : IntKind.i64.wrap m.Params = m.Params) : (rFuncN N).ra F (.agg #[.int .i64 m.Params,c1]) m := ⟨[.int .i64 m.Params,c1],rfl,rfl,⟨⟨rfl,w0⟩,h1⟩⟩
structure D.Tg3 where
 Block : Int
 Place : Int
 Makes : List Int
 Takes : List Int
deriving DecidableEq
instance : Inhabited D.Tg3 := ⟨⟨0,0,[],[]⟩⟩
def rTg3N (N : Nat) : Rp D.Tg3 := rM (rP (rI .i64) (rP (rI .i64) (rP (rLn N (rI .i64)) (rLn N (rI .i64))))) (fun m => (m.Block,m.Place,m.Makes,m.Takes))
abbrev rTg3 : Rp D.Tg3 := rTg3N 1073741824
theorem rTg3.at_Block {N : Nat} {F : PH} {b o : Nat} {m : D.Tg3} (h : At F (rTg3N N) b o m) : At F (rI .i64) b (o + 0) m.Block := At.part 0 h (Nat.le_of_ble_eq_true rfl) (fun _ h => h.1)
theorem rTg3.at_Makes {N : Nat} {F : PH} {b o : Nat} {m : D.Tg3} (h : At F (rTg3N N) b o m) : At F (rLn N (rI .i64)) b (o + 2) m.Makes := At.part 2 h (Nat.le_of_ble_eq_true rfl) (fun _ h => h.2.2.1)
theorem rTg3.any {N : Nat} {F : PH} {v : Value} {m : D.Tg3} (h : (rTg3N N).ra F v m) : ∃ f,(rTg3N N).ok F m f := by obtain ⟨l,_,_,h⟩ := h; exact ⟨_,h⟩
theorem rTg3.open {N : Nat} {F : PH} {v : Value} {m : D.Tg3} (h : (rTg3N N).ra F v m) : ∃ c2 c3,v = .agg #[.int .i64 m.Block,.int .i64 m.Place,c2,c3] ∧ (rLn N (rI .i64)).rv F c2 m.Makes ∧ (rLn N (rI .i64)).rv F c3 m.Takes := by
 obtain ⟨l,rfl,hl,h⟩ := h
 match l,hl with
 | [a0,a1,a2,a3],_ =>
   obtain ⟨⟨h0,_⟩,⟨h1,_⟩,h2,h3⟩ := h
   obtain rfl : a0 = _ := h0
   obtain rfl : a1 = _ := h1
   exact ⟨a2,a3,rfl,h2,h3⟩
theorem rTg3.mk {N : Nat} {F : PH} {m : D.Tg3} {c2 : Value} {c3 : Value} (h2 : (rLn N (rI .i64)).rv F c2 m.Makes) (h3 : (rLn N (rI .i64)).rv F c3 m.Takes) (w0 : IntKind.i64.wrap m.Block = m.Block) (w1 : IntKind.i64.wrap m.Place = m.Place) : (rTg3N N).ra F (.agg #[.int .i64 m.Block,.int .i64 m.Place,c2,c3]) m := ⟨[.int .i64 m.Block,.int .i64 m.Place,c2,c3],rfl,rfl,⟨⟨rfl,w0⟩,⟨rfl,w1⟩,h2,h3⟩⟩
@[reducible] def vIn (m : D.In) (c : Unit) : Value := .agg #[.int .i64 m.From,.int .i64 m.Val]
theorem sIn : Sr rIn vIn := ⟨fun h => ⟨(),rIn.open h⟩⟩
theorem rIn.W_Val {Γ : List Dt} {L : List Res} {v : Value} {m : D.In} (h : Nd Γ L (da rIn v m)) : Wr Γ L .i64 m.Val := fun F H x y z => rIn.w_Val (m := m) (rIn.any (h F H x y z))
theorem rIn.A_Val {Γ : List Dt} {L : List Res} {b o : Nat} {m : D.In} (h : Nd Γ L (ad rIn b o m)) : Nd Γ L (ad (rI .i64) b (o + 1) m.Val) := fun F H x y z => rIn.at_Val (h F H x y z)
theorem rIn.M {Γ : List Dt} {L : List Res} {m : D.In} {c : Unit}  (w0 : Wr Γ L .i64 m.From) (w1 : Wr Γ L .i64 m.Val) : Nd Γ L (da rIn (vIn m c) m) := fun F H x y z => rIn.mk (m := m) (w0 F H x y z) (w1 F H x y z)
@[reducible] def vPhi (m : D.Phi) (c : Value) : Value := .agg #[.int .i64 m.Dst,c]
theorem sPhi {N : Nat} : Sr (rPhiN N) vPhi := ⟨fun h => by obtain ⟨c1,e,_⟩ := rPhi.open h; exact ⟨c1,e⟩⟩
theorem rPhi.c_In {N : Nat} {Γ : List Dt} {L : List Res} {m : D.Phi} {c : Value} (h : Nd Γ L (da (rPhiN N) (vPhi m c) m)) : Nd Γ L (dv (rLn N rIn) c m.In) := fun F H x y z => leaf1 rfl ((ra_ok (h F H x y z)).2) rfl
theorem rPhi.W_Dst {N : Nat} {Γ : List Dt} {L : List Res} {v : Value} {m : D.Phi} (h : Nd Γ L (da (rPhiN N) v m)) : Wr Γ L .i64 m.Dst := fun F H x y z => rPhi.w_Dst (m := m) (rPhi.any (h F H x y z))
theorem rPhi.A_Dst {N : Nat} {Γ : List Dt} {L : List Res} {b o : Nat} {m : D.Phi} (h : Nd Γ L (ad (rPhiN N) b o m)) : Nd Γ L (ad (rI .i64) b (o + 0) m.Dst) := fun F H x y z => rPhi.at_Dst (h F H x y z)
theorem rPhi.A_In {N : Nat} {Γ : List Dt} {L : List Res} {b o : Nat} {m : D.Phi} (h : Nd Γ L (ad (rPhiN N) b o m)) : Nd Γ L (ad (rLn N rIn) b (o + 1) m.In) := fun F H x y z => rPhi.at_In (h F H x y z)
theorem rPhi.M {N : Nat} {Γ : List Dt} {L : List Res} {m : D.Phi} {c : Value} (h0 : Nd Γ L (dv (rLn N rIn) c m.In)) (w0 : Wr Γ L .i64 m.Dst) : Nd Γ L (da (rPhiN N) (vPhi m c) m) := fun F H x y z => rPhi.mk (m := m) (h0 F H x y z) (w0 F H x y z)
@[reducible] def vMach (m : D.Mach) (c : Value) : Value := .agg #[.int .i64 m.Op,.int .i64 m.D,.int .i64 m.E,.int .i64 m.A,.int .i64 m.B,.int .i64 m.C,.int .i32 m.Imm,c]
theorem sMach {N : Nat} : Sr (rMachN N) vMach := ⟨fun h => by obtain ⟨c7,e,_⟩ := rMach.open h; exact ⟨c7,e⟩⟩
theorem rMach.c_Args {N : Nat} {Γ : List Dt} {L : List Res} {m : D.Mach} {c : Value} (h : Nd Γ L (da (rMachN N) (vMach m c) m)) : Nd Γ L (dv (rLn N (rI .i64)) c m.Args) := fun F H x y z => leaf1 rfl ((ra_ok (h F H x y z)).2.2.2.2.2.2.2) rfl
theorem rMach.W_D {N : Nat} {Γ : List Dt} {L : List Res} {v : Value} {m : D.Mach} (h : Nd Γ L (da (rMachN N) v m)) : Wr Γ L .i64 m.D := fun F H x y z => rMach.w_D (m := m) (rMach.any (h F H x y z))
theorem rMach.W_E {N : Nat} {Γ : List Dt} {L : List Res} {v : Value} {m : D.Mach} (h : Nd Γ L (da (rMachN N) v m)) : Wr Γ L .i64 m.E := fun F H x y z => rMach.w_E (m := m) (rMach.any (h F H x y z))
theorem rMach.W_A {N : Nat} {Γ : List Dt} {L : List Res} {v : Value} {m : D.Mach} (h : Nd Γ L (da (rMachN N) v m)) : Wr Γ L .i64 m.A := fun F H x y z => rMach.w_A (m := m) (rMach.any (h F H x y z))
theorem rMach.W_B {N : Nat} {Γ : List Dt} {L : List Res} {v : Value} {m : D.Mach} (h : Nd Γ L (da (rMachN N) v m)) : Wr Γ L .i64 m.B := fun F H x y z => rMach.w_B (m := m) (rMach.any (h F H x y z))
theorem rMach.W_C {N : Nat} {Γ : List Dt} {L : List Res} {v : Value} {m : D.Mach} (h : Nd Γ L (da (rMachN N) v m)) : Wr Γ L .i64 m.C := fun F H x y z => rMach.w_C (m := m) (rMach.any (h F H x y z))
theorem rMach.W_Imm {N : Nat} {Γ : List Dt} {L : List Res} {v : Value} {m : D.Mach} (h : Nd Γ L (da (rMachN N) v m)) : Wr Γ L .i32 m.Imm := fun F H x y z => rMach.w_Imm (m := m) (rMach.any (h F H x y z))
theorem rMach.M {N : Nat} {Γ : List Dt} {L : List Res} {m : D.Mach} {c : Value} (h0 : Nd Γ L (dv (rLn N (rI .i64)) c m.Args)) (w0 : Wr Γ L .i64 m.Op) (w1 : Wr Γ L .i64 m.D) (w2 : Wr Γ L .i64 m.E) (w3 : Wr Γ L .i64 m.A) (w4 : Wr Γ L .i64 m.B) (w5 : Wr Γ L .i64 m.C) (w6 : Wr Γ L .i32 m.Imm) : Nd Γ L (da (rMachN N) (vMach m c) m) := fun F H x y z => rMach.mk (m := m) (h0 F H x y z) (w0 F H x y z) (w1 F H x y z) (w2 F H x y z) (w3 F H x y z) (w4 F H x y z) (w5 F H x y z) (w6 F H x y z)
@[reducible] def vEnd (m : D.End) (c : Value) : Value := .agg #[.int .i64 m.Op,.int .i64 m.A,.int .i64 m.B,c,.int .i32 m.Imm]
theorem sEnd {N : Nat} : Sr (rEndN N) vEnd := ⟨fun h => by obtain ⟨c3,e,_⟩ := rEnd.open h; exact ⟨c3,e⟩⟩
theorem rEnd.c_To {N : Nat} {Γ : List Dt} {L : List Res} {m : D.End} {c : Value} (h : Nd Γ L (da (rEndN N) (vEnd m c) m)) : Nd Γ L (dv (rLn N (rI .i64)) c m.To) := fun F H x y z => leaf1 rfl ((ra_ok (h F H x y z)).2.2.2.1) rfl
theorem rEnd.W_Op {N : Nat} {Γ : List Dt} {L : List Res} {v : Value} {m : D.End} (h : Nd Γ L (da (rEndN N) v m)) : Wr Γ L .i64 m.Op := fun F H x y z => rEnd.w_Op (m := m) (rEnd.any (h F H x y z))
theorem rEnd.W_A {N : Nat} {Γ : List Dt} {L : List Res} {v : Value} {m : D.End} (h : Nd Γ L (da (rEndN N) v m)) : Wr Γ L .i64 m.A := fun F H x y z => rEnd.w_A (m := m) (rEnd.any (h F H x y z))
theorem rEnd.W_B {N : Nat} {Γ : List Dt} {L : List Res} {v : Value} {m : D.End} (h : Nd Γ L (da (rEndN N) v m)) : Wr Γ L .i64 m.B := fun F H x y z => rEnd.w_B (m := m) (rEnd.any (h F H x y z))
theorem rEnd.W_Imm {N : Nat} {Γ : List Dt} {L : List Res} {v : Value} {m : D.End} (h : Nd Γ L (da (rEndN N) v m)) : Wr Γ L .i32 m.Imm := fun F H x y z => rEnd.w_Imm (m := m) (rEnd.any (h F H x y z))
theorem rEnd.A_To {N : Nat} {Γ : List Dt} {L : List Res} {b o : Nat} {m : D.End} (h : Nd Γ L (ad (rEndN N) b o m)) : Nd Γ L (ad (rLn N (rI .i64)) b (o + 3) m.To) := fun F H x y z => rEnd.at_To (h F H x y z)
theorem rEnd.M {N : Nat} {Γ : List Dt} {L : List Res} {m : D.End} {c : Value} (h0 : Nd Γ L (dv (rLn N (rI .i64)) c m.To)) (w0 : Wr Γ L .i64 m.Op) (w1 : Wr Γ L .i64 m.A) (w2 : Wr Γ L .i64 m.B) (w3 : Wr Γ L .i32 m.Imm) : Nd Γ L (da (rEndN N) (vEnd m c) m) := fun F H x y z => rEnd.mk (m := m) (h0 F H x y z) (w0 F H x y z) (w1 F H x y z) (w2 F H x y z) (w3 F H x y z)
@[reducible] def vMBlock (m : D.MBlock) (c : Value × Value × Value) : Value := .agg #[c.1,c.2.1,.int .i64 m.End.Op,.int .i64 m.End.A,.int .i64 m.End.B,c.2.2,.int .i32 m.End.Imm]
theorem sMBlock {N : Nat} : Sr (rMBlockN N) vMBlock := ⟨fun h => by obtain ⟨c0,c1,c5,e,_,_,_⟩ := rMBlock.open h; exact ⟨(c0,c1,c5),e⟩⟩
theorem rMBlock.cP {N : Nat} {Γ : List Dt} {L : List Res} {m : D.MBlock} {c : Value × Value × Value} (h : Nd Γ L (da (rMBlockN N) (vMBlock m c) m)) : Nd Γ L (dv (rLn N (rPhiN N)) c.1 m.Phis) := fun F H x y z => leaf1 rfl ((ra_ok (h F H x y z)).1) rfl
theorem rMBlock.cI {N : Nat} {Γ : List Dt} {L : List Res} {m : D.MBlock} {c : Value × Value × Value} (h : Nd Γ L (da (rMBlockN N) (vMBlock m c) m)) : Nd Γ L (dv (rLn N (rMachN N)) c.2.1 m.Ins) := fun F H x y z => leaf1 rfl ((ra_ok (h F H x y z)).2.1) rfl
theorem rMBlock.cT {N : Nat} {Γ : List Dt} {L : List Res} {m : D.MBlock} {c : Value × Value × Value} (h : Nd Γ L (da (rMBlockN N) (vMBlock m c) m)) : Nd Γ L (dv (rLn N (rI .i64)) c.2.2 m.End.To) := fun F H x y z => leaf1 rfl ((ra_ok (h F H x y z)).2.2.2.2.2.1) rfl
theorem rMBlock.W_End_Op {N : Nat} {Γ : List Dt} {L : List Res} {v : Value} {m : D.MBlock} (h : Nd Γ L (da (rMBlockN N) v m)) : Wr Γ L .i64 m.End.Op := fun F H x y z => rEnd.w_Op (m := m.End) (rMBlock.k_End (m := m) (rMBlock.any (h F H x y z)))
theorem rMBlock.W_End_A {N : Nat} {Γ : List Dt} {L : List Res} {v : Value} {m : D.MBlock} (h : Nd Γ L (da (rMBlockN N) v m)) : Wr Γ L .i64 m.End.A := fun F H x y z => rEnd.w_A (m := m.End) (rMBlock.k_End (m := m) (rMBlock.any (h F H x y z)))
theorem rMBlock.W_End_B {N : Nat} {Γ : List Dt} {L : List Res} {v : Value} {m : D.MBlock} (h : Nd Γ L (da (rMBlockN N) v m)) : Wr Γ L .i64 m.End.B := fun F H x y z => rEnd.w_B (m := m.End) (rMBlock.k_End (m := m) (rMBlock.any (h F H x y z)))
theorem rMBlock.W_End_Imm {N : Nat} {Γ : List Dt} {L : List Res} {v : Value} {m : D.MBlock} (h : Nd Γ L (da (rMBlockN N) v m)) : Wr Γ L .i32 m.End.Imm := fun F H x y z => rEnd.w_Imm (m := m.End) (rMBlock.k_End (m := m) (rMBlock.any (h F H x y z)))
theorem rMBlock.A_Phis {N : Nat} {Γ : List Dt} {L : List Res} {b o : Nat} {m : D.MBlock} (h : Nd Γ L (ad (rMBlockN N) b o m)) : Nd Γ L (ad (rLn N (rPhiN N)) b (o + 0) m.Phis) := fun F H x y z => rMBlock.at_Phis (h F H x y z)
theorem rMBlock.A_Ins {N : Nat} {Γ : List Dt} {L : List Res} {b o : Nat} {m : D.MBlock} (h : Nd Γ L (ad (rMBlockN N) b o m)) : Nd Γ L (ad (rLn N (rMachN N)) b (o + 1) m.Ins) := fun F H x y z => rMBlock.at_Ins (h F H x y z)
theorem rMBlock.A_End {N : Nat} {Γ : List Dt} {L : List Res} {b o : Nat} {m : D.MBlock} (h : Nd Γ L (ad (rMBlockN N) b o m)) : Nd Γ L (ad (rEndN N) b (o + 2) m.End) := fun F H x y z => rMBlock.at_End (h F H x y z)
theorem rMBlock.P_End {N : Nat} {Γ : List Dt} {L : List Res} {m : D.MBlock} {c : Value × Value × Value} (h : Nd Γ L (da (rMBlockN N) (vMBlock m c) m)) : Nd Γ L (da (rEndN N) (vEnd m.End c.2.2) m.End) := rEnd.M (m := m.End) (c := c.2.2) (rMBlock.cT h) (rMBlock.W_End_Op h) (rMBlock.W_End_A h) (rMBlock.W_End_B h) (rMBlock.W_End_Imm h)
theorem rMBlock.M {N : Nat} {Γ : List Dt} {L : List Res} {m : D.MBlock} {c : Value × Value × Value} (h0 : Nd Γ L (dv (rLn N (rPhiN N)) c.1 m.Phis)) (h1 : Nd Γ L (dv (rLn N (rMachN N)) c.2.1 m.Ins)) (h2 : Nd Γ L (dv (rLn N (rI .i64)) c.2.2 m.End.To)) (w0 : Wr Γ L .i64 m.End.Op) (w1 : Wr Γ L .i64 m.End.A) (w2 : Wr Γ L .i64 m.End.B) (w3 : Wr Γ L .i32 m.End.Imm) : Nd Γ L (da (rMBlockN N) (vMBlock m c) m) := fun F H x y z => rMBlock.mk (m := m) (h0 F H x y z) (h1 F H x y z) (h2 F H x y z) (w0 F H x y z) (w1 F H x y z) (w2 F H x y z) (w3 F H x y z)
@[reducible] def vMFunc (m : D.MFunc) (c : Value) : Value := .agg #[.int .i64 m.Params,c]
theorem sMFunc {N : Nat} : Sr (rMFuncN N) vMFunc := ⟨fun h => by obtain ⟨c1,e,_⟩ := rMFunc.open h; exact ⟨c1,e⟩⟩
theorem rMFunc.cB {N : Nat} {Γ : List Dt} {L : List Res} {m : D.MFunc} {c : Value} (h : Nd Γ L (da (rMFuncN N) (vMFunc m c) m)) : Nd Γ L (dv (rLn N (rMBlockN N)) c m.Blocks) := fun F H x y z => leaf1 rfl ((ra_ok (h F H x y z)).2) rfl
theorem rMFunc.M {N : Nat} {Γ : List Dt} {L : List Res} {m : D.MFunc} {c : Value} (h0 : Nd Γ L (dv (rLn N (rMBlockN N)) c m.Blocks)) (w0 : Wr Γ L .i64 m.Params) : Nd Γ L (da (rMFuncN N) (vMFunc m c) m) := fun F H x y z => rMFunc.mk (m := m) (h0 F H x y z) (w0 F H x y z)
@[reducible] def vGo7 (m : D.Go7) (c : Unit) : Value := .agg #[.int .i64 m.E,.int .i64 m.Block,.int .i64 m.Place]
theorem sGo7 : Sr rGo7 vGo7 := ⟨fun h => ⟨(),rGo7.open h⟩⟩
theorem rGo7.W_E {Γ : List Dt} {L : List Res} {v : Value} {m : D.Go7} (h : Nd Γ L (da rGo7 v m)) : Wr Γ L .i64 m.E := fun F H x y z => rGo7.w_E (m := m) (rGo7.any (h F H x y z))
theorem rGo7.A_Block {Γ : List Dt} {L : List Res} {b o : Nat} {m : D.Go7} (h : Nd Γ L (ad rGo7 b o m)) : Nd Γ L (ad (rI .i64) b (o + 1) m.Block) := fun F H x y z => rGo7.at_Block (h F H x y z)
theorem rGo7.M {Γ : List Dt} {L : List Res} {m : D.Go7} {c : Unit}  (w0 : Wr Γ L .i64 m.E) (w1 : Wr Γ L .i64 m.Block) (w2 : Wr Γ L .i64 m.Place) : Nd Γ L (da rGo7 (vGo7 m c) m) := fun F H x y z => rGo7.mk (m := m) (w0 F H x y z) (w1 F H x y z) (w2 F H x y z)
@[reducible] def vIns (m : D.Ins) (c : Value) : Value := .agg #[.int .i64 m.Op,.int .i64 m.Dst,.int .i64 m.Two,c,.int .i32 m.Imm]
theorem sIns {N : Nat} : Sr (rInsN N) vIns := ⟨fun h => by obtain ⟨c3,e,_⟩ := rIns.open h; exact ⟨c3,e⟩⟩
theorem rIns.c_Args {N : Nat} {Γ : List Dt} {L : List Res} {m : D.Ins} {c : Value} (h : Nd Γ L (da (rInsN N) (vIns m c) m)) : Nd Γ L (dv (rLn N (rI .i64)) c m.Args) := fun F H x y z => leaf1 rfl ((ra_ok (h F H x y z)).2.2.2.1) rfl
theorem rIns.W_Dst {N : Nat} {Γ : List Dt} {L : List Res} {v : Value} {m : D.Ins} (h : Nd Γ L (da (rInsN N) v m)) : Wr Γ L .i64 m.Dst := fun F H x y z => rIns.w_Dst (m := m) (rIns.any (h F H x y z))
theorem rIns.W_Two {N : Nat} {Γ : List Dt} {L : List Res} {v : Value} {m : D.Ins} (h : Nd Γ L (da (rInsN N) v m)) : Wr Γ L .i64 m.Two := fun F H x y z => rIns.w_Two (m := m) (rIns.any (h F H x y z))
theorem rIns.W_Imm {N : Nat} {Γ : List Dt} {L : List Res} {v : Value} {m : D.Ins} (h : Nd Γ L (da (rInsN N) v m)) : Wr Γ L .i32 m.Imm := fun F H x y z => rIns.w_Imm (m := m) (rIns.any (h F H x y z))
theorem rIns.A_Args {N : Nat} {Γ : List Dt} {L : List Res} {b o : Nat} {m : D.Ins} (h : Nd Γ L (ad (rInsN N) b o m)) : Nd Γ L (ad (rLn N (rI .i64)) b (o + 3) m.Args) := fun F H x y z => rIns.at_Args (h F H x y z)
theorem rIns.M {N : Nat} {Γ : List Dt} {L : List Res} {m : D.Ins} {c : Value} (h0 : Nd Γ L (dv (rLn N (rI .i64)) c m.Args)) (w0 : Wr Γ L .i64 m.Op) (w1 : Wr Γ L .i64 m.Dst) (w2 : Wr Γ L .i64 m.Two) (w3 : Wr Γ L .i32 m.Imm) : Nd Γ L (da (rInsN N) (vIns m c) m) := fun F H x y z => rIns.mk (m := m) (h0 F H x y z) (w0 F H x y z) (w1 F H x y z) (w2 F H x y z) (w3 F H x y z)
@[reducible] def vTerm (m : D.Term) (c : Value × Value) : Value := .agg #[.int .i64 m.Kind,c.1,c.2,.int .i32 m.Imm]
theorem sTerm {N : Nat} : Sr (rTermN N) vTerm := ⟨fun h => by obtain ⟨c1,c2,e,_,_⟩ := rTerm.open h; exact ⟨(c1,c2),e⟩⟩
theorem rTerm.c_Args {N : Nat} {Γ : List Dt} {L : List Res} {m : D.Term} {c : Value × Value} (h : Nd Γ L (da (rTermN N) (vTerm m c) m)) : Nd Γ L (dv (rLn N (rI .i64)) c.1 m.Args) := fun F H x y z => leaf1 rfl ((ra_ok (h F H x y z)).2.1) rfl
theorem rTerm.c_To {N : Nat} {Γ : List Dt} {L : List Res} {m : D.Term} {c : Value × Value} (h : Nd Γ L (da (rTermN N) (vTerm m c) m)) : Nd Γ L (dv (rLn N (rI .i64)) c.2 m.To) := fun F H x y z => leaf1 rfl ((ra_ok (h F H x y z)).2.2.1) rfl
theorem rTerm.W_Imm {N : Nat} {Γ : List Dt} {L : List Res} {v : Value} {m : D.Term} (h : Nd Γ L (da (rTermN N) v m)) : Wr Γ L .i32 m.Imm := fun F H x y z => rTerm.w_Imm (m := m) (rTerm.any (h F H x y z))
theorem rTerm.A_To {N : Nat} {Γ : List Dt} {L : List Res} {b o : Nat} {m : D.Term} (h : Nd Γ L (ad (rTermN N) b o m)) : Nd Γ L (ad (rLn N (rI .i64)) b (o + 2) m.To) := fun F H x y z => rTerm.at_To (h F H x y z)
theorem rTerm.M {N : Nat} {Γ : List Dt} {L : List Res} {m : D.Term} {c : Value × Value} (h0 : Nd Γ L (dv (rLn N (rI .i64)) c.1 m.Args)) (h1 : Nd Γ L (dv (rLn N (rI .i64)) c.2 m.To)) (w0 : Wr Γ L .i64 m.Kind) (w1 : Wr Γ L .i32 m.Imm) : Nd Γ L (da (rTermN N) (vTerm m c) m) := fun F H x y z => rTerm.mk (m := m) (h0 F H x y z) (h1 F H x y z) (w0 F H x y z) (w1 F H x y z)
@[reducible] def vBlock (m : D.Block) (c : Value × Value × Value × Value) : Value := .agg #[c.1,c.2.1,.int .i64 m.Term.Kind,c.2.2.1,c.2.2.2,.int .i32 m.Term.Imm]
theorem sBlock {N : Nat} : Sr (rBlockN N) vBlock := ⟨fun h => by obtain ⟨c0,c1,c3,c4,e,_,_,_,_⟩ := rBlock.open h; exact ⟨(c0,c1,c3,c4),e⟩⟩
theorem rBlock.cP {N : Nat} {Γ : List Dt} {L : List Res} {m : D.Block} {c : Value × Value × Value × Value} (h : Nd Γ L (da (rBlockN N) (vBlock m c) m)) : Nd Γ L (dv (rLn N (rPhiN N)) c.1 m.Phis) := fun F H x y z => leaf1 rfl ((ra_ok (h F H x y z)).1) rfl
theorem rBlock.cI {N : Nat} {Γ : List Dt} {L : List Res} {m : D.Block} {c : Value × Value × Value × Value} (h : Nd Γ L (da (rBlockN N) (vBlock m c) m)) : Nd Γ L (dv (rLn N (rInsN N)) c.2.1 m.Ins) := fun F H x y z => leaf1 rfl ((ra_ok (h F H x y z)).2.1) rfl
theorem rBlock.c_Term_Args {N : Nat} {Γ : List Dt} {L : List Res} {m : D.Block} {c : Value × Value × Value × Value} (h : Nd Γ L (da (rBlockN N) (vBlock m c) m)) : Nd Γ L (dv (rLn N (rI .i64)) c.2.2.1 m.Term.Args) := fun F H x y z => leaf1 rfl ((ra_ok (h F H x y z)).2.2.2.1) rfl
theorem rBlock.c_Term_To {N : Nat} {Γ : List Dt} {L : List Res} {m : D.Block} {c : Value × Value × Value × Value} (h : Nd Γ L (da (rBlockN N) (vBlock m c) m)) : Nd Γ L (dv (rLn N (rI .i64)) c.2.2.2 m.Term.To) := fun F H x y z => leaf1 rfl ((ra_ok (h F H x y z)).2.2.2.2.1) rfl
theorem rBlock.A_Phis {N : Nat} {Γ : List Dt} {L : List Res} {b o : Nat} {m : D.Block} (h : Nd Γ L (ad (rBlockN N) b o m)) : Nd Γ L (ad (rLn N (rPhiN N)) b (o + 0) m.Phis) := fun F H x y z => rBlock.at_Phis (h F H x y z)
theorem rBlock.A_Ins {N : Nat} {Γ : List Dt} {L : List Res} {b o : Nat} {m : D.Block} (h : Nd Γ L (ad (rBlockN N) b o m)) : Nd Γ L (ad (rLn N (rInsN N)) b (o + 1) m.Ins) := fun F H x y z => rBlock.at_Ins (h F H x y z)
theorem rBlock.A_Term {N : Nat} {Γ : List Dt} {L : List Res} {b o : Nat} {m : D.Block} (h : Nd Γ L (ad (rBlockN N) b o m)) : Nd Γ L (ad (rTermN N) b (o + 2) m.Term) := fun F H x y z => rBlock.at_Term (h F H x y z)
@[reducible] def vFunc (m : D.Func) (c : Value) : Value := .agg #[.int .i64 m.Params,c]
theorem sFunc {N : Nat} : Sr (rFuncN N) vFunc := ⟨fun h => by obtain ⟨c1,e,_⟩ := rFunc.open h; exact ⟨c1,e⟩⟩
theorem rFunc.cB {N : Nat} {Γ : List Dt} {L : List Res} {m : D.Func} {c : Value} (h : Nd Γ L (da (rFuncN N) (vFunc m c) m)) : Nd Γ L (dv (rLn N (rBlockN N)) c m.Blocks) := fun F H x y z => leaf1 rfl ((ra_ok (h F H x y z)).2) rfl
theorem rFunc.W_Params {N : Nat} {Γ : List Dt} {L : List Res} {v : Value} {m : D.Func} (h : Nd Γ L (da (rFuncN N) v m)) : Wr Γ L .i64 m.Params := fun F H x y z => rFunc.w_Params (m := m) (rFunc.any (h F H x y z))
theorem rFunc.M {N : Nat} {Γ : List Dt} {L : List Res} {m : D.Func} {c : Value} (h0 : Nd Γ L (dv (rLn N (rBlockN N)) c m.Blocks)) (w0 : Wr Γ L .i64 m.Params) : Nd Γ L (da (rFuncN N) (vFunc m c) m) := fun F H x y z => rFunc.mk (m := m) (h0 F H x y z) (w0 F H x y z)
@[reducible] def vTg3 (m : D.Tg3) (c : Value × Value) : Value := .agg #[.int .i64 m.Block,.int .i64 m.Place,c.1,c.2]
theorem sTg3 {N : Nat} : Sr (rTg3N N) vTg3 := ⟨fun h => by obtain ⟨c2,c3,e,_,_⟩ := rTg3.open h; exact ⟨(c2,c3),e⟩⟩
theorem rTg3.A_Block {N : Nat} {Γ : List Dt} {L : List Res} {b o : Nat} {m : D.Tg3} (h : Nd Γ L (ad (rTg3N N) b o m)) : Nd Γ L (ad (rI .i64) b (o + 0) m.Block) := fun F H x y z => rTg3.at_Block (h F H x y z)
theorem rTg3.A_Makes {N : Nat} {Γ : List Dt} {L : List Res} {b o : Nat} {m : D.Tg3} (h : Nd Γ L (ad (rTg3N N) b o m)) : Nd Γ L (ad (rLn N (rI .i64)) b (o + 2) m.Makes) := fun F H x y z => rTg3.at_Makes (h F H x y z)
theorem rTg3.M {N : Nat} {Γ : List Dt} {L : List Res} {m : D.Tg3} {c : Value × Value} (h0 : Nd Γ L (dv (rLn N (rI .i64)) c.1 m.Makes)) (h1 : Nd Γ L (dv (rLn N (rI .i64)) c.2 m.Takes)) (w0 : Wr Γ L .i64 m.Block) (w1 : Wr Γ L .i64 m.Place) : Nd Γ L (da (rTg3N N) (vTg3 m c) m) := fun F H x y z => rTg3.mk (m := m) (h0 F H x y z) (h1 F H x y z) (w0 F H x y z) (w1 F H x y z)
def bitM (b : Bool) : Int := if b then 1 else 0
abbrev w32 (n : Int) : Int := IntKind.i32.wrap n
abbrev u32 (n : Int) : Int := IntKind.u32.wrap n
def shlM (a b : Int) : Int := w32 (a * 2 ^ (b % 32).toNat)
def shrM (a b : Int) : Int := w32 ((u32 a).fdiv (2 ^ (b % 32).toNat))
def sarM (a b : Int) : Int := a.fdiv (2 ^ (b % 32).toNat)
def divM (a b : Int) : Int := w32 (a.tdiv b)
def doM (op a b : Int) : Int × Bool :=
 if op = 2 then (w32 (a + b),true)
 else if op = 3 then (w32 (a - b),true)
 else if op = 4 then (w32 (a * b),true)
 else if op = 5 then (andI .i32 a b,true)
 else if op = 6 then (orI .i32 a b,true)
 else if op = 7 then (xorI .i32 a b,true)
 else if op = 8 then (shlM a b,true)
 else if op = 9 then (shrM a b,true)
 else if op = 10 then (sarM a b,true)
 else if op = 11 then (bitM (decide (a = b)),true)
 else if op = 12 then (bitM (decide (a < b)),true)
 else if op = 13 then (bitM (decide (u32 a < u32 b)),true)
 else if op = 14 then (if b = 0 then (0,false) else (divM a b,true))
 else (0,false)
def wideM (a b : Int) : Int × Int := (w32 (a * b),w32 ((a * b).fdiv 4294967296))
def fitsM (n bits : Int) : Bool := if bits < 1 then decide (n = 0) else if 32 < bits then true else decide (-(2 ^ (bits - 1).toNat) ≤ n ∧ n < 2 ^ (bits - 1).toNat)
theorem fits_prog {n bits : Int} (hn : IntKind.i32.wrap n = n) (h1 : ¬ bits < 1) (h2 : ¬ 32 < bits) : decide (shrI .i32 (shlI .i32 n (32 - bits)) (32 - bits) = n) = fitsM n bits := by
 unfold fitsM
 rw [if_neg h1,if_neg h2]
 have hb : bits = 32 - (32 - bits).toNat := by omega
 have hs : (32 - bits).toNat ≤ 31 := by omega
 have hr := i32_rng hn
 have h5 : (bits - 1).toNat = 31 - (32 - bits).toNat := by omega
 rw [h5]
 generalize hk : (32 - bits).toNat = k at hs ⊢
 have h6 : 32 - bits = (k : Int) := by omega
 rw [h6]
 have hmin : min k 32 = k := by omega
 have e1 : shrI .i32 (shlI .i32 n k) k = (IntKind.i32.wrap (n * 2 ^ k)).fdiv (2 ^ k) := by
   show (IntKind.i32.wrap (n * 2 ^ (min k 32))).fdiv (2 ^ (min k 32)) = _
   rw [hmin]
 simp only [e1,IntKind.wrap_i32]
 clear h6 h5 hb h1 h2 hk hmin e1
 have hk : k = 0 ∨ k = 1 ∨ k = 2 ∨ k = 3 ∨ k = 4 ∨ k = 5 ∨ k = 6 ∨ k = 7 ∨ k = 8 ∨ k = 9 ∨ k = 10 ∨ k = 11 ∨ k = 12 ∨ k = 13 ∨ k = 14 ∨ k = 15 ∨ k = 16 ∨ k = 17 ∨ k = 18 ∨ k = 19 ∨ k = 20 ∨ k = 21 ∨ k = 22 ∨ k = 23 ∨ k = 24 ∨ k = 25 ∨ k = 26 ∨ k = 27 ∨ k = 28 ∨ k = 29 ∨ k = 30 ∨ k = 31 := by omega
 rcases hk with rfl | rfl | rfl | rfl | rfl | rfl | rfl | rfl | rfl | rfl | rfl | rfl | rfl | rfl | rfl | rfl | rfl | rfl | rfl | rfl | rfl | rfl | rfl | rfl | rfl | rfl | rfl | rfl | rfl | rfl | rfl | rfl <;>
   (rw [Int.fdiv_eq_ediv_of_nonneg _ (by decide),decide_eq_decide]; simp only [Int.reducePow,Nat.reduceSub]; omega)
abbrev U21 := @Tryz.underlying21
theorem wFits_ct (n : Int) (bits : Int) (ww0 : IntKind.i32.wrap n = n) : Tv Tryz.prog 167 #[.int .i32 n,.int .i64 bits] [] [] (.bool (fitsM n bits)) := by
 refine jenter (args := [.int .i32 n,.int .i64 bits]) Tryz.func167 rfl rfl rfl fun w0 X => ?_
 refine jq (jr (ja Z (jn (jx (jq (jq (jr (jm Z (js (jlss Z Z) (jn (jx ?_)))))))))))
 refine jif Z (fun hc1 => ?_) (fun hc1 => ?_)
 refine jq (jr (jm Z (js (jeql Z Z) (ja Z (jn (jx (jrt (jtr ?_))))))))
 exact jrB Z Z (by first | (simp [fitsM, *]; done) | exact (fits_prog ww0 hc1 hc2).symm | exact (fits_prog ww0 ‹_› ‹_›).symm)
 refine jsk (jx (jq (jq (jr (jm Z (js (jgtr Z Z) (jn (jx ?_))))))))
 refine jif Z (fun hc2 => ?_) (fun hc2 => ?_)
 refine jq (jr (ja Z (jn (jx (jrt (jtr ?_))))))
 exact jrB Z Z (by first | (simp [fitsM, *]; done) | exact (fits_prog ww0 hc1 hc2).symm | exact (fits_prog ww0 ‹_› ‹_›).symm)
 refine jsk (jx (jq (jr (jm Z (js (jsub Z Z (by omega)) (ja Z (jn (jx (jq (jr (jm Z ?_)))))))))))
 refine jm Z (js (jshl Z Z (by omega)) (jm Z (js (jshr Z Z (by omega)) (jm Z (js (jeql Z Z) (ja Z (jn (jx (jrt ?_)))))))))
 exact jrB Z Z (by first | (simp [fitsM, *]; done) | exact (fits_prog ww0 hc1 hc2).symm | exact (fits_prog ww0 ‹_› ‹_›).symm)
end Go.Proofs.YtehhjlkmbdhckaaGreat
namespace Go.JE
variable {P : Program} {D D0 : List Dt} {L M Ls L0 : List Res} {e : Env} {X : Cx} {n : Fs} {w0 : World} {Q : Exit → Act → World → Prop}
def im (g : Nat) (l : List (Int × Value)) : Res where
 sat F H := Im H g l ∧ F g = none
 own k := k = g
 lt := fun h e => e ▸ h.1.lt
 no := fun h e => e ▸ h.2
 st := fun _ _ h1 h2 h => ⟨h.1.of (h2 g rfl),h1 g rfl⟩
section
variable {ops : Array Oper} {op : Op} {d : Nat} {ty : TypeId} {pos : String} {af : Array Edge} {rest : List Oper} {T T' K E : TypeId} {x y z : Operand} {g : Nat} {l : List (Int × Value)} {k : Int} {v u : Value} {b : Bool}
theorem jmm (kk : ∀ g,LH P n w0 ops Q X D (im g [] :: L) ((d,.map (some g)) :: e) rest) (hd : Nat.blt d n.sz = true := by rfl) : LH P n w0 ops Q X D L e (⟨some d,.makeMap T none,ty,pos,af,none⟩ :: rest) := fun F H hp =>
 LF.chg OpCh.makeMapB (by rintro _ H' ⟨g,rfl,eg,sg,kg,hb⟩; exact kk g F H' (hp.new (R := im g []) kg ⟨hb,hp.hin.nope (Nat.le_of_eq eg.symm)⟩ (fun k hk => by have : k = g := hk; omega))) hd
theorem Tw.kwm {H H' : Heap} (h : Tw g H H') : Kw (im g l).own H H' := ⟨Nat.le_of_eq h.1.symm,fun k _ h2 => h.2 k h2⟩
theorem jin {l' : List (Int × Value)} (hT : P.underlying T = some (.map K E)) (hK : P.underlying K = some (.int .i64)) (hm : Tk L (im g l) M) (hx : ev e x = some (.map (some g))) (hi : ev e z = some (.int .i64 k)) (hy : ev e y = some v) (hu : upM l k v = l')
   (kk : LH P n w0 ops Q X D (im g l' :: M) e rest) : LH P n w0 ops Q X D L e (⟨none,.insert T x z y,ty,pos,af,none⟩ :: rest) := fun F H hp =>
 LF.chg0 (OpCh.insert hT hK (hp.at hm).1 hx hi hy) (by rintro _ H' ⟨m,t⟩; exact kk F H' (hp.set (R' := im g l') hm t.kwm ⟨hu ▸ m,(hp.at hm).2⟩ (fun k h => .inr h)))
theorem jlko (hT : P.underlying T = some (.map K E)) (hK : P.underlying K = some (.int .i64)) (hz : (P.info? E).bind (·.zero) = some u) (hm : Tk L (im g l) M) (hx : ev e x = some (.map (some g))) (hi : ev e z = some (.int .i64 k)) : OH P D L e (.lookup T x z true) (.tuple #[(lkM l k).getD u,.bool (lkM l k).isSome]) := fun F H _ _ h => OpOk.lookupOk hT hK hz (hm.ok h).1.1 hx hi
theorem jfk {p : Value → Prop} (h : ∃ v,OH P D L e op v ∧ p v) (kk : ∀ v,p v → LH P n w0 ops Q X D L ((d,v) :: e) rest) (hd : Nat.blt d n.sz = true := by rfl) : LH P n w0 ops Q X D L e (⟨some d,op,ty,pos,af,none⟩ :: rest) := by
 obtain ⟨v,h1,h2⟩ := h; exact js h1 (kk v h2) hd
theorem jeb {r : Bool → Prop} (h : OE P D L e op (fun v _ => ∃ b,v = .bool b ∧ r b)) (kk : ∀ b,r b → LH P n w0 ops Q X D L ((d,.bool b) :: e) rest) (hd : Nat.blt d n.sz = true := by rfl) : LH P n w0 ops Q X D L e (⟨some d,op,ty,pos,af,none⟩ :: rest) := fun F H hp => by
 obtain ⟨v,h1,b,rfl,h2⟩ := h F H hp.hin hp.hd hp.ok; exact LF.step h1 (kk b h2 F H hp) hd
theorem jeqlNil {α : Type} {r : Rp α} {N : Nat} {l : List α} (hT : P.underlying T = some (.slice E)) (hs : Nd D L (dv (rLn N r) v l)) (hx : ev e x = some v) (hy : ev e y = some (.slice none 0 0)) (hr : 0 < r.sz := by exact Nat.le_of_ble_eq_true rfl) : OE P D L e (.binOp .eql T x y T') (fun v _ => ∃ b,v = .bool b ∧ (b = true → l = [])) := fun F H h1 h2 h3 => by
 obtain ⟨u,h4,b,h5,h6⟩ := OpOk.eqlNilS (T' := T') (H := H) hT (hs F H h1 h2 h3) hr hx hy
 exact ⟨u,h4,b,h5,h6⟩
end
def wn {α : Type} (B : Nat) (r : Rp α) (T : TypeId) (v : Value) (l : List α) : Res where
 sat F H := Wn r T F H B v l ∧ B ≤ H.size
 own k := v.ownBlock = some k
 lt := fun h e => h.1.lt _ e
 no := fun h e => h.1.no _ e
 st := fun hl hs h1 h2 h => by
   obtain ⟨⟨g,o,cap,cur,rfl,a1,a2,a3,a4,a5,a6,a7⟩,hB⟩ := h
   exact ⟨⟨g,o,cap,cur,rfl,a1,h1 g rfl,(h2 g rfl).trans a3,a4,a5,a6,fun i hi => (a7 i hi).up hl⟩,Nat.le_trans hB hs⟩
section
variable {ops : Array Oper} {d d2 : Nat} {ty ty2 : TypeId} {pos pos2 : String} {af af2 : Array Edge} {rest : List Oper} {v u z : Value} {x y lx : Operand} {T E : TypeId} {i bytes B lo : Nat} {α : Type} {r : Rp α} {l : List α} {a : α} {k : IntKind} {I : Int}
theorem jgw {c : Code} (hk : Tk L (gl B r E v l) M) (hs : r.sz = 1) (hn : 0 < l.length) (kk : CH P n w0 Q X D (wn B r E v l :: M) e c) : CH P n w0 Q X D L e c := fun F H hp =>
 kk F H (hp.set (R' := wn B r E v l) hk (Kw.refl _ _) ⟨(hp.at hk).1.wn hs hn,(hp.at hk).2⟩ (fun k h => .inr h))
theorem jlw (hT : P.underlying T = some (.slice E)) (hk : Tk L (wn B r E v l) M) (hx : ev e x = some v) : OH P D L e (.call { callee := .builtin .len,args := #[x],argTypes := #[T] }) (.int .i64 (l.length : Nat)) := fun F H _ _ h => OpOk.lenW hT (hk.ok h).1.1 hx
theorem jiw (hT : P.underlying T = some (.slice E)) (hE : Sz P E 1) (hk : Tk L (wn B r E v l) M) (hx : ev e x = some v) (hi : ev e y = some (.int k I)) (hI : I = i) (h1 : i < l.length) : OH P D L e (.indexAddr T x y) (.pointer (some ⟨vblk v,voff v + i * 1,none⟩)) := fun F H _ _ h => OpOk.idxW hT hE (hk.ok h).1.1 hx hi hI h1
theorem jwI {l : List Int} (hk : Tk L (wn B (rI k) E v l) M) (hi : i < l.length) (hT : One P T) (hx : ev e x = some (.pointer (some ⟨vblk v,voff v + i * 1,none⟩))) : OH P D L e (.load T x) (.int k (ix l i)) := fun F H _ _ h => OpOk.ldWI (hk.ok h).1.1 hi hT hx
theorem Wn.sv {F : PH} {H : Heap} (h : Wn r E F H B v l) : Sv v := by obtain ⟨g,o,cap,cur,h1,_⟩ := h; exact ⟨_,_,_,h1⟩
theorem jsw (hT : P.underlying T = some (.slice E)) (hE : Sz P E 1) (hk : Tk L (wn B r E v l) M) (hx : ev e x = some v) (hl : ev e lx = some (.int k I)) (hI : I = lo) (h2 : lo ≤ l.length)
   (kk : ∀ v',Sv v' → LH P n w0 ops Q X D (wn B r E v' (l.drop lo) :: M) ((d,v') :: e) rest) (hd : Nat.blt d n.sz = true := by rfl) : LH P n w0 ops Q X D L e (⟨some d,.slice T x (some lx) none none,ty,pos,af,none⟩ :: rest) := fun F H hp => by
 obtain ⟨u,h3,h4,h5⟩ := OpOk.sliceW hT hE (hp.at hk).1 hx hl hI h2
 exact LF.step h3 (kk u h5.sv F H (hp.set (R' := wn B r E u (l.drop lo)) hk (Kw.refl _ _) ⟨h5,(hp.at hk).2⟩ (fun k h => .inr (h4.symm.trans h)))) hd
theorem cgw {c : Code} (hk : Tk L (wn B r E v l) M) (kk : Sv v → CH P n w0 Q X D L e c) : CH P n w0 Q X D L e c := fun F H hp => kk (Wn.sv (hp.at hk).1) F H hp
theorem jaw {g m : Nat} (hT : P.underlying T = some (.slice E)) (hE : (P.info? E).map (fun i => (i.zero,i.size,i.bytes)) = some (some z,1,bytes)) (hby : bytes ≤ 8192) (hz : z.cells.size = 1) (hs : r.sz = 1) {B2 : Nat} {N : List Res} (hk : Tk L (wn B r E v l) M) (hk2 : Tk M (gl B2 r E (.slice (some ⟨g,0,none⟩) 1 m) [a]) N)
   (hx : ev e x = some v) (hy : ev e y = some (.slice (some ⟨g,0,none⟩) 1 m)) (hb : l.length < 4294967295)
   (kk : ∀ v',Sv v' → LH P n w0 ops Q X D (wn B r E v' (l ++ [a]) :: N) ((d,v') :: e) rest) (hd : Nat.blt d n.sz = true := by rfl) : LH P n w0 ops Q X D L e (⟨some d,.call { callee := .builtin .append,args := #[x,y],argTypes := #[T,T] },ty,pos,af,none⟩ :: rest) := fun F H hp => by
 have h1 := hp.at hk
 haveI : Inhabited α := ⟨a⟩
 have hg := ((hk2.ok (hk.ok hp.ok).2.2).1).1
 obtain ⟨u,hu,hra⟩ := hg.cell0 (i := 0) (by simp) hs
 refine LF.chg (OpCh.appW (r := r) (a := a) hT hE hby hz hs hx hy (by simpa [vblk,voff] using hu) hra h1.1 hp.hin hb h1.2) ?_ hd
 rintro v' H' ⟨h3,h4,h5⟩
 have h6 := hp.set (R' := wn B r E v' (l ++ [a])) hk ⟨h4.1,fun k h1 h2 => h4.2 k h1 (fun h3 => h2 h3.symm)⟩ ⟨h3,Nat.le_trans h1.2 h4.1⟩ (fun k hk1 => by
   rcases h5 with h5 | h5
   · exact .inr (h5.symm.trans hk1)
   · have h7 : some H.size = some k := h5.symm.trans hk1
     injection h7 with h7; exact .inl (Nat.le_of_eq h7))
 refine kk v' h3.sv F H' ⟨h6.hx,h6.hin,h6.hw,h6.hd,?_,fun k hk1 => ?_⟩
 · obtain ⟨a1,a2,a3⟩ := h6.ok
   exact ⟨a1,fun k h1 h2 => a2 k h1 (hk2.own (.inr h2)),(hk2.ok a3).2.2⟩
 · exact hk1.elim (fun h => h6.ge k (.inl h)) (fun h => h6.ge k (.inr (hk2.own (.inr h))))
end
end Go.JE
namespace Go.Proofs.YtehhjlkmbdhckaaGreat
open Go.JE
abbrev U148 := @Tryz.underlying148
abbrev U3 := @Tryz.underlying3
theorem O21 : One Tryz.prog 21 := ⟨_,Tryz.underlying21,rfl⟩
section
variable {f : FuncId} {args : Array Value} {R1 R2 R3 : Res} {x y : Int}
end
abbrev U137 := @Tryz.underlying137
abbrev U22 := @Tryz.underlying22
theorem A99 : ∃ d,Tryz.prog.underlying 99 = some d ∧ (match d with | .struct _ | .array _ _ => true | _ => false) = true := ⟨_,Tryz.underlying99,rfl⟩
theorem E80 : Ent Tryz.prog 80 := ⟨_,Tryz.func80,by kernel_rfl,by kernel_rfl⟩
theorem F35_0 : Fld Tryz.prog 35 0 0 := ⟨_,_,Tryz.underlying35,rfl,rfl,1,(by unfold Sz; kernel_rfl),by decide⟩
theorem F35_1 : Fld Tryz.prog 35 1 1 := ⟨_,_,Tryz.underlying35,rfl,rfl,1,(by unfold Sz; kernel_rfl),by decide⟩
theorem F35_2 : Fld Tryz.prog 35 2 2 := ⟨_,_,Tryz.underlying35,rfl,rfl,1,(by unfold Sz; kernel_rfl),by decide⟩
theorem F69_0 : Fld Tryz.prog 69 0 0 := ⟨_,_,Tryz.underlying69,rfl,rfl,1,(by unfold Sz; kernel_rfl),by decide⟩
theorem F69_1 : Fld Tryz.prog 69 1 1 := ⟨_,_,Tryz.underlying69,rfl,rfl,1,(by unfold Sz; kernel_rfl),by decide⟩
theorem F69_2 : Fld Tryz.prog 69 2 2 := ⟨_,_,Tryz.underlying69,rfl,rfl,1,(by unfold Sz; kernel_rfl),by decide⟩
theorem F69_3 : Fld Tryz.prog 69 3 3 := ⟨_,_,Tryz.underlying69,rfl,rfl,1,(by unfold Sz; kernel_rfl),by decide⟩
theorem F69_4 : Fld Tryz.prog 69 4 4 := ⟨_,_,Tryz.underlying69,rfl,rfl,1,(by unfold Sz; kernel_rfl),by decide⟩
theorem F69_5 : Fld Tryz.prog 69 5 5 := ⟨_,_,Tryz.underlying69,rfl,rfl,1,(by unfold Sz; kernel_rfl),by decide⟩
theorem F69_7 : Fld Tryz.prog 69 7 7 := ⟨_,_,Tryz.underlying69,rfl,rfl,1,(by unfold Sz; kernel_rfl),by decide⟩
theorem I3 : (Tryz.prog.info? 3).map (fun i => (i.zero,i.size,i.bytes)) = some (some (.int .i64 0),1,8) := by kernel_rfl
theorem O22 : One Tryz.prog 22 := ⟨_,Tryz.underlying22,rfl⟩
theorem O3 : One Tryz.prog 3 := ⟨_,Tryz.underlying3,rfl⟩
theorem Z3 : Sz Tryz.prog 3 1 := by unfold Sz; kernel_rfl
theorem Z99 : Sz Tryz.prog 99 2 := by unfold Sz; kernel_rfl
theorem J99 : (Tryz.prog.info? 99).bind (·.zero) = some (.agg #[.nilFunc,.nilFunc]) := by kernel_rfl
def takesM (i : D.Mach) : List Int :=
 if i.Op = 1 ∨ 18 ≤ i.Op ∧ i.Op ≤ 22 ∨ i.Op = 24 ∨ i.Op = 31 then [i.A]
 else if i.Op = 2 ∨ 5 ≤ i.Op ∧ i.Op ≤ 17 ∨ i.Op = 25 ∨ i.Op = 26 ∨ i.Op = 29 then [i.A,i.B]
 else if i.Op = 23 ∨ i.Op = 27 then [i.A,i.B,i.C]
 else if i.Op = 28 then i.Args
 else []
def makesM (i : D.Mach) : List Int :=
 if i.Op = 2 then [i.A,i.B]
 else if i.Op = 29 then [i.D,i.E]
 else if i.Op = 26 ∨ i.Op = 27 ∨ i.Op = 31 ∨ i.Op < 1 ∨ 31 < i.Op then []
 else [i.D]
def nM9 (e : D.End) : List Int :=
 if e.Op = 2 ∨ e.Op = 6 ∨ e.Op = 7 ∧ 0 ≤ e.A then [e.A]
 else if e.Op = 3 ∨ e.Op = 4 ∨ e.Op = 5 then [e.A,e.B]
 else []
def regM : List Int → Bool
 | [] => true
 | x :: l => if x < 0 ∨ 8192 ≤ x then false else regM l
theorem rTakes_ct {a0 : Value} {i : D.Mach} : Td Tryz.prog 44 #[vMach i a0] [da rMach (vMach i a0) i] [] (rL (rI .i64)) (takesM i) := by
 refine jenter (args := [vMach i a0]) Tryz.func44 rfl rfl rfl fun w0 X => ?_
 refine jq (jr (jbox Z Z fun g1 => ja Z (jn (jx (jq (jb (jq (jr (js (jf F69_0 Z) (js (jl k0 O3 Z Z) ?_))))))))))
 refine js (jeql Z Z) (jm Z (jg Z Z (.f _) (fun hg => jf F69_0 Z) (jg Z Z (.f _) (fun hg => jl k0 O3 (evg Z hg) Z) (jg Z Z (.f _) (fun hg => jgeq (evg Z hg) Z) (jg Z Z (.f _) (fun hg => jmv (evg Z hg)) (jg Z Z (.gt _ _) (fun hg => jf F69_0 Z) (jg Z Z (.gt _ _) (fun hg => jl k0 O3 (evg Z hg) Z) (jg Z Z (.gt _ _) (fun hg => jleq (evg Z hg) Z) (jg Z Z (.f _) (fun hg => jand2 hg Z Z) (js (jor Z Z) (jm Z ?_)))))))))))
 refine jg Z Z (.f _) (fun hg => jf F69_0 Z) (jg Z Z (.f _) (fun hg => jl k0 O3 (evg Z hg) Z) (jg Z Z (.f _) (fun hg => jeql (evg Z hg) Z) (js (jor Z Z) (jm Z (jg Z Z (.f _) (fun hg => jf F69_0 Z) (jg Z Z (.f _) (fun hg => jl k0 O3 (evg Z hg) Z) (jg Z Z (.f _) (fun hg => jeql (evg Z hg) Z) (js (jor Z Z) (ja Z (jn (jx ?_)))))))))))
 refine jif Z (fun hc1 => ?_) (fun hc1 => ?_)
 refine jq (jr (js (jf F69_3 Z) (js (jl k0 O3 Z Z) (jlit (r := (rI .i64)) (l := [i.A]) U22 I3 (by decide) Z Z Z (lV Z Z (wI (rMach.W_A d0)) ln) fun g29 => ja Z (jn (jx (jrt (jbr (jtr (qfz k0 (by (try simp) <;> omega) ?_))))))))))
 exact jrD Z Z (by first | (simp [takesM,hc1]; done) | (unfold takesM; (repeat' split) <;> first | rfl | (exfalso; omega) | (simp [takesM,hc1]; done))) d0
 refine jq (jr (js (jf F69_0 Z) (js (jl k0 O3 Z Z) (js (jeql Z Z) (jm Z (jg Z Z (.f _) (fun hg => jf F69_0 Z) (jg Z Z (.f _) (fun hg => jl k0 O3 (evg Z hg) Z) (jg Z Z (.f _) (fun hg => jgeq (evg Z hg) Z) (jg Z Z (.f _) (fun hg => jmv (evg Z hg)) (jg Z Z (.gt _ _) (fun hg => jf F69_0 Z) (jg Z Z (.gt _ _) (fun hg => jl k0 O3 (evg Z hg) Z) ?_)))))))))))
 refine jg Z Z (.gt _ _) (fun hg => jleq (evg Z hg) Z) (jg Z Z (.f _) (fun hg => jand2 hg Z Z) (js (jor Z Z) (jm Z (jg Z Z (.f _) (fun hg => jf F69_0 Z) (jg Z Z (.f _) (fun hg => jl k0 O3 (evg Z hg) Z) (jg Z Z (.f _) (fun hg => jeql (evg Z hg) Z) (js (jor Z Z) (jm Z (jg Z Z (.f _) (fun hg => jf F69_0 Z) (jg Z Z (.f _) (fun hg => jl k0 O3 (evg Z hg) Z) (jg Z Z (.f _) (fun hg => jeql (evg Z hg) Z) ?_)))))))))))
 refine js (jor Z Z) (jm Z (jg Z Z (.f _) (fun hg => jf F69_0 Z) (jg Z Z (.f _) (fun hg => jl k0 O3 (evg Z hg) Z) (jg Z Z (.f _) (fun hg => jeql (evg Z hg) Z) (js (jor Z Z) (ja Z (jn (jx ?_))))))))
 refine jif Z (fun hc2 => ?_) (fun hc2 => ?_)
 refine jq (jr (js (jf F69_3 Z) (js (jl k0 O3 Z Z) (js (jf F69_4 Z) (js (jl k0 O3 Z Z) (jlit (r := (rI .i64)) (l := [i.A,i.B]) U22 I3 (by decide) Z Z Z (lV Z Z (wI (rMach.W_A d0)) (lV Z Z (wI (rMach.W_B d0)) ln)) fun g63 => ja Z (jn (jx (jrt (jbr ?_))))))))))
 refine jtr (qfz k0 (by (try simp) <;> omega) ?_)
 exact jrD Z Z (by first | (simp [takesM,hc1,hc2]; done) | (unfold takesM; (repeat' split) <;> first | rfl | (exfalso; omega) | (simp [takesM,hc1,hc2]; done))) d0
 refine jq (jr (js (jf F69_0 Z) (js (jl k0 O3 Z Z) (js (jeql Z Z) (jm Z (jg Z Z (.f _) (fun hg => jf F69_0 Z) (jg Z Z (.f _) (fun hg => jl k0 O3 (evg Z hg) Z) (jg Z Z (.f _) (fun hg => jeql (evg Z hg) Z) (js (jor Z Z) (ja Z (jn ?_)))))))))))
 refine jx ?_
 refine jif Z (fun hc3 => ?_) (fun hc3 => ?_)
 refine jq (jr (js (jf F69_3 Z) (js (jl k0 O3 Z Z) (js (jf F69_4 Z) (js (jl k0 O3 Z Z) (js (jf F69_5 Z) (js (jl k0 O3 Z Z) (jlit (r := (rI .i64)) (l := [i.A,i.B,i.C]) U22 I3 (by decide) Z Z Z (lV Z Z (wI (rMach.W_A d0)) (lV Z Z (wI (rMach.W_B d0)) (lV Z Z (wI (rMach.W_C d0)) ln))) fun g79 => ja Z (jn (jx ?_))))))))))
 refine jrt (jbr (jtr (qfz k0 (by (try simp) <;> omega) ?_)))
 exact jrD Z Z (by first | (simp [takesM,hc1,hc2,hc3]; done) | (unfold takesM; (repeat' split) <;> first | rfl | (exfalso; omega) | (simp [takesM,hc1,hc2,hc3]; done))) d0
 refine jq (jr (js (jf F69_0 Z) (js (jl k0 O3 Z Z) (js (jeql Z Z) (ja Z (jn (jx ?_)))))))
 refine jif Z (fun hc4 => ?_) (fun hc4 => ?_)
 refine jq (jr (jlit (r := (rI .i64)) (l := []) U22 I3 (by decide) Z Z Z ln fun g84 => js (jf F69_7 Z) (js (jl k1 O22 Z Z) (jdq (rMach.c_Args d0) fun q4 w4 => japlz U22 I3 (by decide) Z k0 Z Z (rMach.c_Args d0) (by omega) fun v87 w5 => ja Z (jn (jx (jrt (jbr ?_))))))))
 refine jtr (qfz k0 (by omega) ?_)
 exact jrD Z Z (by first | (simp [takesM,hc1,hc2,hc3,hc4]; done) | (unfold takesM; (repeat' split) <;> first | rfl | (exfalso; omega) | (simp [takesM,hc1,hc2,hc3,hc4]; done))) d0
 refine jsk (jbn (jx (jq (jr (ja Z (jn (jx (jrt ?_))))))))
 exact jrD Z Z (by first | (simp [takesM,hc1,hc2,hc3,hc4]; done) | (unfold takesM; (repeat' split) <;> first | rfl | (exfalso; omega) | (simp [takesM,hc1,hc2,hc3,hc4]; done))) wN
theorem rMakes_ct {a0 : Value} {i : D.Mach} : Td Tryz.prog 45 #[vMach i a0] [da rMach (vMach i a0) i] [] (rL (rI .i64)) (makesM i) := by
 refine jenter (args := [vMach i a0]) Tryz.func45 rfl rfl rfl fun w0 X => ?_
 refine jq (jr (jbox Z Z fun g1 => ja Z (jn (jx (jq (jb (jq (jr (js (jf F69_0 Z) (js (jl k0 O3 Z Z) ?_))))))))))
 refine js (jeql Z Z) (ja Z (jn (jx ?_)))
 refine jif Z (fun hc1 => ?_) (fun hc1 => ?_)
 refine jq (jr (js (jf F69_3 Z) (js (jl k0 O3 Z Z) (js (jf F69_4 Z) (js (jl k0 O3 Z Z) (jlit (r := (rI .i64)) (l := [i.A,i.B]) U22 I3 (by decide) Z Z Z (lV Z Z (wI (rMach.W_A d0)) (lV Z Z (wI (rMach.W_B d0)) ln)) fun g11 => ja Z (jn (jx (jrt (jbr ?_))))))))))
 refine jtr (qfz k0 (by (try simp) <;> omega) ?_)
 exact jrD Z Z (by first | (simp [makesM,hc1]; done) | (unfold makesM; (repeat' split) <;> first | rfl | (exfalso; omega) | (simp [makesM,hc1]; done))) d0
 refine jq (jr (js (jf F69_0 Z) (js (jl k0 O3 Z Z) (js (jeql Z Z) (ja Z (jn (jx ?_)))))))
 refine jif Z (fun hc2 => ?_) (fun hc2 => ?_)
 refine jq (jr (js (jf F69_1 Z) (js (jl k0 O3 Z Z) (js (jf F69_2 Z) (js (jl k0 O3 Z Z) (jlit (r := (rI .i64)) (l := [i.D,i.E]) U22 I3 (by decide) Z Z Z (lV Z Z (wI (rMach.W_D d0)) (lV Z Z (wI (rMach.W_E d0)) ln)) fun g20 => ja Z (jn (jx (jrt (jbr ?_))))))))))
 refine jtr (qfz k0 (by (try simp) <;> omega) ?_)
 exact jrD Z Z (by first | (simp [makesM,hc1,hc2]; done) | (unfold makesM; (repeat' split) <;> first | rfl | (exfalso; omega) | (simp [makesM,hc1,hc2]; done))) d0
 refine jq (jr (js (jf F69_0 Z) (js (jl k0 O3 Z Z) (js (jeql Z Z) (jm Z (jg Z Z (.f _) (fun hg => jf F69_0 Z) (jg Z Z (.f _) (fun hg => jl k0 O3 (evg Z hg) Z) (jg Z Z (.f _) (fun hg => jeql (evg Z hg) Z) (js (jor Z Z) (jm Z (jg Z Z (.f _) (fun hg => jf F69_0 Z) ?_)))))))))))
 refine jg Z Z (.f _) (fun hg => jl k0 O3 (evg Z hg) Z) (jg Z Z (.f _) (fun hg => jeql (evg Z hg) Z) (js (jor Z Z) (jm Z (jg Z Z (.f _) (fun hg => jf F69_0 Z) (jg Z Z (.f _) (fun hg => jl k0 O3 (evg Z hg) Z) (jg Z Z (.f _) (fun hg => jlss (evg Z hg) Z) (js (jor Z Z) (jm Z (jg Z Z (.f _) (fun hg => jf F69_0 Z) (jg Z Z (.f _) (fun hg => jl k0 O3 (evg Z hg) Z) (jg Z Z (.f _) (fun hg => jgtr (evg Z hg) Z) ?_)))))))))))
 refine js (jor Z Z) (ja Z (jn (jx ?_)))
 refine jif Z (fun hc3 => ?_) (fun hc3 => ?_)
 refine jq (jr (ja Z (jn (jx (jrt (jbr (jtr ?_)))))))
 exact jrD Z Z (by first | (simp [makesM,hc1,hc2,hc3]; done) | (unfold makesM; (repeat' split) <;> first | rfl | (exfalso; omega) | (simp [makesM,hc1,hc2,hc3]; done))) wN
 refine jsk (jbn (jx (jq (jr (js (jf F69_1 Z) (js (jl k0 O3 Z Z) (jlit (r := (rI .i64)) (l := [i.D]) U22 I3 (by decide) Z Z Z (lV Z Z (wI (rMach.W_D d0)) ln) fun g47 => ja Z (jn (jx (jrt ?_))))))))))
 refine qfz k0 (by (try simp) <;> omega) ?_
 exact jrD Z Z (by first | (simp [makesM,hc1,hc2,hc3]; done) | (unfold makesM; (repeat' split) <;> first | rfl | (exfalso; omega) | (simp [makesM,hc1,hc2,hc3]; done))) d0
theorem pNeeds_ct {a0 : Value} {e : D.End} : Td Tryz.prog 29 #[vEnd e a0] [da rEnd (vEnd e a0) e] [] (rL (rI .i64)) (nM9 e) := by
 refine jenter (args := [vEnd e a0]) Tryz.func29 rfl rfl rfl fun w0 X => ?_
 refine jq (jr (jbox Z Z fun g1 => ja Z (jn (jx (jq (jb (jq (jr (js (jf F35_0 Z) (js (jl k0 O3 Z Z) ?_))))))))))
 refine js (jeql Z Z) (jm Z (jg Z Z (.f _) (fun hg => jf F35_0 Z) (jg Z Z (.f _) (fun hg => jl k0 O3 (evg Z hg) Z) (jg Z Z (.f _) (fun hg => jeql (evg Z hg) Z) (js (jor Z Z) (jm Z (jg Z Z (.f _) (fun hg => jf F35_0 Z) (jg Z Z (.f _) (fun hg => jl k0 O3 (evg Z hg) Z) (jg Z Z (.f _) (fun hg => jeql (evg Z hg) Z) (jg Z Z (.f _) (fun hg => jmv (evg Z hg)) (jg Z Z (.gt _ _) (fun hg => jf F35_1 Z) ?_)))))))))))
 refine jg Z Z (.gt _ _) (fun hg => jl k0 O3 (evg Z hg) Z) (jg Z Z (.gt _ _) (fun hg => jgeq (evg Z hg) Z) (jg Z Z (.f _) (fun hg => jand2 hg Z Z) (js (jor Z Z) (ja Z (jn (jx ?_))))))
 refine jif Z (fun hc1 => ?_) (fun hc1 => ?_)
 refine jq (jr (js (jf F35_1 Z) (js (jl k0 O3 Z Z) (jlit (r := (rI .i64)) (l := [e.A]) U22 I3 (by decide) Z Z Z (lV Z Z (wI (rEnd.W_A d0)) ln) fun g24 => ja Z (jn (jx (jrt (jbr (jtr (qfz k0 (by (try simp) <;> omega) ?_))))))))))
 exact jrD Z Z (by first | (simp [nM9,hc1]; done) | (unfold nM9; (repeat' split) <;> first | rfl | (exfalso; omega) | (simp [nM9,hc1]; done))) d0
 refine jq (jr (js (jf F35_0 Z) (js (jl k0 O3 Z Z) (js (jgeq Z Z) (jm Z (jg Z Z (.t _) (fun hg => jf F35_0 Z) (jg Z Z (.t _) (fun hg => jl k0 O3 (evg Z hg) Z) (jg Z Z (.t _) (fun hg => jleq (evg Z hg) Z) (js (jand Z Z) (ja Z (jn ?_)))))))))))
 refine jx ?_
 refine jif Z (fun hc2 => ?_) (fun hc2 => ?_)
 refine jq (jr (js (jf F35_1 Z) (js (jl k0 O3 Z Z) (js (jf F35_2 Z) (js (jl k0 O3 Z Z) (jlit (r := (rI .i64)) (l := [e.A,e.B]) U22 I3 (by decide) Z Z Z (lV Z Z (wI (rEnd.W_A d0)) (lV Z Z (wI (rEnd.W_B d0)) ln)) fun g38 => ja Z (jn (jx (jrt (jbr ?_))))))))))
 refine jtr (qfz k0 (by (try simp) <;> omega) ?_)
 exact jrD Z Z (by first | (simp [nM9,hc1,hc2]; done) | (unfold nM9; (repeat' split) <;> first | rfl | (exfalso; omega) | (simp [nM9,hc1,hc2]; done))) d0
 refine jsk (jbn (jx (jq (jr (ja Z (jn (jx (jrt ?_))))))))
 exact jrD Z Z (by first | (simp [nM9,hc1,hc2]; done) | (unfold nM9; (repeat' split) <;> first | rfl | (exfalso; omega) | (simp [nM9,hc1,hc2]; done))) wN
theorem clone_ct {a0 : Value} {l : List Int} : Tg Tryz.prog 80 #[a0] [dv (rL (rI .i64)) a0 l] [] (rI .i64) 3 l := by
 refine jenter (args := [a0]) Tryz.func80 rfl rfl rfl fun w0 X => ?_
 refine jq (jr (ja Z (jn (jx (jq (jq (jr (jm Z (jeb (jeqlNil U22 d0 Z Z) fun b4 hnil4 => jn (jx ?_))))))))))
 refine jif Z (fun hc1 => ?_) (fun hc1 => ?_)
 refine jq (jr (ja Z (jn (jx (jrt (jtr (qnl (r := (rI .i64)) (E := 3) ?_)))))))
 exact jrG Z Z (by first | rfl | exact hnil4 hc1) k0
 refine jsk (jx (jq (jr (jlit (r := (rI .i64)) (l := []) U22 I3 (by decide) Z Z Z ln fun g5 => jm Z (jdq d0 fun q2 w2 => japlz U22 I3 (by decide) Z k0 Z Z d0 (by omega) fun v7 w3 => ja Z (jn (jx (jrt ?_))))))))
 exact jrG Z Z (by first | rfl | exact hnil4 hc1) k0
def km1 (_ : D.Mach) : List Int := []
def km2 (i : D.Mach) : List Int := [i.D]
def km3 (i : D.Mach) : List Int := [i.A]
def km4 (i : D.Mach) : List Int := [i.A,i.B]
def km5 (i : D.Mach) : List Int := [i.A,i.B,i.C]
def km6 (i : D.Mach) : List Int := i.Args
def km7 (i : D.Mach) : List Int := [i.D,i.E]
theorem kind1_ct {a0 : Value} {i : D.Mach} : Td Tryz.prog 74 #[vMach i a0] [da rMach (vMach i a0) i] [] (rL (rI .i64)) (km1 i) := by
 refine jenter (args := [vMach i a0]) Tryz.func74 rfl rfl rfl fun w0 X => ?_
 refine jq (jr (jbox Z Z fun g1 => ja Z (jn (jx (jq (jr (ja Z (jn (jx (jrt ?_))))))))))
 exact jrD Z Z (by rfl) wN
theorem kind2_ct {a0 : Value} {i : D.Mach} : Td Tryz.prog 75 #[vMach i a0] [da rMach (vMach i a0) i] [] (rL (rI .i64)) (km2 i) := by
 refine jenter (args := [vMach i a0]) Tryz.func75 rfl rfl rfl fun w0 X => ?_
 refine jq (jr (jbox Z Z fun g1 => ja Z (jn (jx (jq (jr (js (jf F69_1 Z) (js (jl k0 O3 Z Z) (jlit (r := (rI .i64)) (l := [i.D]) U22 I3 (by decide) Z Z Z (lV Z Z (wI (rMach.W_D d0)) ln) fun g5 => ja Z ?_)))))))))
 refine jn (jx (jrt (qfz k0 (by (try simp) <;> omega) ?_)))
 exact jrD Z Z (by rfl) d0
theorem kind3_ct {a0 : Value} {i : D.Mach} : Td Tryz.prog 76 #[vMach i a0] [da rMach (vMach i a0) i] [] (rL (rI .i64)) (km3 i) := by
 refine jenter (args := [vMach i a0]) Tryz.func76 rfl rfl rfl fun w0 X => ?_
 refine jq (jr (jbox Z Z fun g1 => ja Z (jn (jx (jq (jr (js (jf F69_3 Z) (js (jl k0 O3 Z Z) (jlit (r := (rI .i64)) (l := [i.A]) U22 I3 (by decide) Z Z Z (lV Z Z (wI (rMach.W_A d0)) ln) fun g5 => ja Z ?_)))))))))
 refine jn (jx (jrt (qfz k0 (by (try simp) <;> omega) ?_)))
 exact jrD Z Z (by rfl) d0
theorem kind4_ct {a0 : Value} {i : D.Mach} : Td Tryz.prog 77 #[vMach i a0] [da rMach (vMach i a0) i] [] (rL (rI .i64)) (km4 i) := by
 refine jenter (args := [vMach i a0]) Tryz.func77 rfl rfl rfl fun w0 X => ?_
 refine jq (jr (jbox Z Z fun g1 => ja Z (jn (jx (jq (jr (js (jf F69_3 Z) (js (jl k0 O3 Z Z) (js (jf F69_4 Z) (js (jl k0 O3 Z Z) ?_))))))))))
 refine jlit (r := (rI .i64)) (l := [i.A,i.B]) U22 I3 (by decide) Z Z Z (lV Z Z (wI (rMach.W_A d0)) (lV Z Z (wI (rMach.W_B d0)) ln)) fun g7 => ja Z (jn (jx (jrt (qfz k0 (by (try simp) <;> omega) ?_))))
 exact jrD Z Z (by rfl) d0
theorem kind5_ct {a0 : Value} {i : D.Mach} : Td Tryz.prog 78 #[vMach i a0] [da rMach (vMach i a0) i] [] (rL (rI .i64)) (km5 i) := by
 refine jenter (args := [vMach i a0]) Tryz.func78 rfl rfl rfl fun w0 X => ?_
 refine jq (jr (jbox Z Z fun g1 => ja Z (jn (jx (jq (jr (js (jf F69_3 Z) (js (jl k0 O3 Z Z) (js (jf F69_4 Z) (js (jl k0 O3 Z Z) ?_))))))))))
 refine js (jf F69_5 Z) (js (jl k0 O3 Z Z) (jlit (r := (rI .i64)) (l := [i.A,i.B,i.C]) U22 I3 (by decide) Z Z Z (lV Z Z (wI (rMach.W_A d0)) (lV Z Z (wI (rMach.W_B d0)) (lV Z Z (wI (rMach.W_C d0)) ln))) fun g9 => ja Z (jn (jx (jrt (qfz k0 (by (try simp) <;> omega) ?_))))))
 exact jrD Z Z (by rfl) d0
theorem kind6_ct {a0 : Value} {i : D.Mach} : Td Tryz.prog 79 #[vMach i a0] [da rMach (vMach i a0) i] [] (rL (rI .i64)) (km6 i) := by
 refine jenter (args := [vMach i a0]) Tryz.func79 rfl rfl rfl fun w0 X => ?_
 refine jq (jr (jbox Z Z fun g1 => ja Z (jn (jx (jq (jr (js (jf F69_7 Z) (js (jl k0 O22 Z Z) (jdq (rMach.c_Args d0) fun q1 w1 => jcg E80 Z Z clone_ct (dc (rMach.c_Args d0) dn) kn fun v5 w2 => ?_)))))))))
 refine ja Z (jn (jx (jrt (qfz k0 (by omega) ?_))))
 exact jrD Z Z (by rfl) d0
theorem kind7_ct {a0 : Value} {i : D.Mach} : Td Tryz.prog 81 #[vMach i a0] [da rMach (vMach i a0) i] [] (rL (rI .i64)) (km7 i) := by
 refine jenter (args := [vMach i a0]) Tryz.func81 rfl rfl rfl fun w0 X => ?_
 refine jq (jr (jbox Z Z fun g1 => ja Z (jn (jx (jq (jr (js (jf F69_1 Z) (js (jl k0 O3 Z Z) (js (jf F69_2 Z) (js (jl k0 O3 Z Z) ?_))))))))))
 refine jlit (r := (rI .i64)) (l := [i.D,i.E]) U22 I3 (by decide) Z Z Z (lV Z Z (wI (rMach.W_D d0)) (lV Z Z (wI (rMach.W_E d0)) ln)) fun g7 => ja Z (jn (jx (jrt (qfz k0 (by (try simp) <;> omega) ?_))))
 exact jrD Z Z (by rfl) d0
def kfun (k : Nat) : Value := .func (.func k) #[] #[]
def kTab (op : Int) : Prop := (1 ≤ op ∧ op ≤ 4) ∨ (23 ≤ op ∧ op ≤ 31)
def takesF (op : Int) : Nat := if op = 1 ∨ op = 24 ∨ op = 31 ∨ (18 ≤ op ∧ op ≤ 22) then 76 else if op = 2 ∨ op = 25 ∨ op = 26 ∨ op = 29 ∨ (5 ≤ op ∧ op ≤ 17) then 77 else if op = 23 ∨ op = 27 then 78 else if op = 28 then 79 else 74
def makesF (op : Int) : Nat := if op = 2 then 77 else if op = 29 then 81 else if op = 26 ∨ op = 27 ∨ op = 31 ∨ op < 1 ∨ 31 < op then 74 else 75
def kindV (op : Int) : Value := .agg #[kfun (takesF op),kfun (makesF op)]
theorem ktab (op : Int) : ((.tuple #[(lkM [(1,.agg #[.func (.func 76) #[] #[],.func (.func 75) #[] #[]]),(2,.agg #[.func (.func 77) #[] #[],.func (.func 77) #[] #[]]),(3,.agg #[.func (.func 74) #[] #[],.func (.func 75) #[] #[]]),(4,.agg #[.func (.func 74) #[] #[],.func (.func 75) #[] #[]]),(23,.agg #[.func (.func 78) #[] #[],.func (.func 75) #[] #[]]),(24,.agg #[.func (.func 76) #[] #[],.func (.func 75) #[] #[]]),(25,.agg #[.func (.func 77) #[] #[],.func (.func 75) #[] #[]]),(26,.agg #[.func (.func 77) #[] #[],.func (.func 74) #[] #[]]),(27,.agg #[.func (.func 78) #[] #[],.func (.func 74) #[] #[]]),(28,.agg #[.func (.func 79) #[] #[],.func (.func 75) #[] #[]]),(29,.agg #[.func (.func 77) #[] #[],.func (.func 81) #[] #[]]),(30,.agg #[.func (.func 74) #[] #[],.func (.func 75) #[] #[]]),(31,.agg #[.func (.func 76) #[] #[],.func (.func 74) #[] #[]])] op).getD (.agg #[.nilFunc,.nilFunc]),.bool (lkM [(1,.agg #[.func (.func 76) #[] #[],.func (.func 75) #[] #[]]),(2,.agg #[.func (.func 77) #[] #[],.func (.func 77) #[] #[]]),(3,.agg #[.func (.func 74) #[] #[],.func (.func 75) #[] #[]]),(4,.agg #[.func (.func 74) #[] #[],.func (.func 75) #[] #[]]),(23,.agg #[.func (.func 78) #[] #[],.func (.func 75) #[] #[]]),(24,.agg #[.func (.func 76) #[] #[],.func (.func 75) #[] #[]]),(25,.agg #[.func (.func 77) #[] #[],.func (.func 75) #[] #[]]),(26,.agg #[.func (.func 77) #[] #[],.func (.func 74) #[] #[]]),(27,.agg #[.func (.func 78) #[] #[],.func (.func 74) #[] #[]]),(28,.agg #[.func (.func 79) #[] #[],.func (.func 75) #[] #[]]),(29,.agg #[.func (.func 77) #[] #[],.func (.func 81) #[] #[]]),(30,.agg #[.func (.func 74) #[] #[],.func (.func 75) #[] #[]]),(31,.agg #[.func (.func 76) #[] #[],.func (.func 74) #[] #[]])] op).isSome] : Value) = .tuple #[.agg #[kfun (takesF op),kfun (makesF op)],.bool true] ∧ kTab op) ∨ ((.tuple #[(lkM [(1,.agg #[.func (.func 76) #[] #[],.func (.func 75) #[] #[]]),(2,.agg #[.func (.func 77) #[] #[],.func (.func 77) #[] #[]]),(3,.agg #[.func (.func 74) #[] #[],.func (.func 75) #[] #[]]),(4,.agg #[.func (.func 74) #[] #[],.func (.func 75) #[] #[]]),(23,.agg #[.func (.func 78) #[] #[],.func (.func 75) #[] #[]]),(24,.agg #[.func (.func 76) #[] #[],.func (.func 75) #[] #[]]),(25,.agg #[.func (.func 77) #[] #[],.func (.func 75) #[] #[]]),(26,.agg #[.func (.func 77) #[] #[],.func (.func 74) #[] #[]]),(27,.agg #[.func (.func 78) #[] #[],.func (.func 74) #[] #[]]),(28,.agg #[.func (.func 79) #[] #[],.func (.func 75) #[] #[]]),(29,.agg #[.func (.func 77) #[] #[],.func (.func 81) #[] #[]]),(30,.agg #[.func (.func 74) #[] #[],.func (.func 75) #[] #[]]),(31,.agg #[.func (.func 76) #[] #[],.func (.func 74) #[] #[]])] op).getD (.agg #[.nilFunc,.nilFunc]),.bool (lkM [(1,.agg #[.func (.func 76) #[] #[],.func (.func 75) #[] #[]]),(2,.agg #[.func (.func 77) #[] #[],.func (.func 77) #[] #[]]),(3,.agg #[.func (.func 74) #[] #[],.func (.func 75) #[] #[]]),(4,.agg #[.func (.func 74) #[] #[],.func (.func 75) #[] #[]]),(23,.agg #[.func (.func 78) #[] #[],.func (.func 75) #[] #[]]),(24,.agg #[.func (.func 76) #[] #[],.func (.func 75) #[] #[]]),(25,.agg #[.func (.func 77) #[] #[],.func (.func 75) #[] #[]]),(26,.agg #[.func (.func 77) #[] #[],.func (.func 74) #[] #[]]),(27,.agg #[.func (.func 78) #[] #[],.func (.func 74) #[] #[]]),(28,.agg #[.func (.func 79) #[] #[],.func (.func 75) #[] #[]]),(29,.agg #[.func (.func 77) #[] #[],.func (.func 81) #[] #[]]),(30,.agg #[.func (.func 74) #[] #[],.func (.func 75) #[] #[]]),(31,.agg #[.func (.func 76) #[] #[],.func (.func 74) #[] #[]])] op).isSome] : Value) = .tuple #[.agg #[.nilFunc,.nilFunc],.bool false] ∧ ¬ kTab op) := by
 by_cases ho : kTab op
 · refine .inl ⟨?_,ho⟩
   have hc : op = 1 ∨ op = 2 ∨ op = 3 ∨ op = 4 ∨ op = 23 ∨ op = 24 ∨ op = 25 ∨ op = 26 ∨ op = 27 ∨ op = 28 ∨ op = 29 ∨ op = 30 ∨ op = 31 := by unfold kTab at ho; omega
   rcases hc with rfl | rfl | rfl | rfl | rfl | rfl | rfl | rfl | rfl | rfl | rfl | rfl | rfl <;> rfl
 · refine .inr ⟨?_,ho⟩
   have h1 : ∀ k : Int,((1 ≤ k ∧ k ≤ 4) ∨ (23 ≤ k ∧ k ≤ 31)) → (k == op) = false := fun k h2 => by rw [beq_eq_false_iff_ne]; unfold kTab at ho; omega
   simp [lkM,List.find?,h1]
theorem kindV5 {op : Int} (h : 5 ≤ op ∧ op ≤ 17) : Value.agg #[.func (.func 77) #[] #[],.func (.func 75) #[] #[]] = kindV op := by
 simp only [kindV,takesF,makesF]
 rw [if_neg (by omega),if_pos (by omega),if_neg (by omega),if_neg (by omega),if_neg (by omega)]; rfl
theorem kindV18 {op : Int} (h : 18 ≤ op ∧ op ≤ 22) : Value.agg #[.func (.func 76) #[] #[],.func (.func 75) #[] #[]] = kindV op := by
 simp only [kindV,takesF,makesF]
 rw [if_pos (by omega),if_neg (by omega),if_neg (by omega),if_neg (by omega)]; rfl
theorem kindV0 {op : Int} (h : op < 1 ∨ 31 < op) : Value.agg #[.func (.func 74) #[] #[],.func (.func 74) #[] #[]] = kindV op := by
 simp only [kindV,takesF,makesF]
 rw [if_neg (by omega),if_neg (by omega),if_neg (by omega),if_neg (by omega),if_neg (by omega),if_neg (by omega),if_pos (by omega)]; rfl
theorem kindV_ct (op : Int) : Tv Tryz.prog 52 #[.int .i64 op] [] [] (kindV op) := by
 refine jenter (args := [.int .i64 op]) Tryz.func52 rfl rfl rfl fun w0 X => ?_
 refine jq (jr (jalc J99 Z fun g2 => jn (jx (jq (jr (ja Z (jn (jx (jq (jr ?_))))))))))
 refine ja Z (jn (jx (jq (jr (ja Z (jn (jx (jq (jr (ja Z (jn ?_)))))))))))
 refine jx (jq (jr (ja Z (jn (jx (jq (jr (ja Z (jn (jx (jq ?_)))))))))))
 refine jr (ja Z (jn (jx (jq (jr (jmm fun g13 => jm Z (jm Z (js (jbu (v := .agg #[.func (.func 76) #[] #[],.func (.func 75) #[] #[]]) Z (fun _ => by kernel_rfl)) (jin U137 U3 k0 Z Z Z Z (jm Z ?_))))))))))
 refine jm Z (js (jbu (v := .agg #[.func (.func 77) #[] #[],.func (.func 77) #[] #[]]) Z (fun _ => by kernel_rfl)) (jin U137 U3 k0 Z Z Z Z (jm Z (jm Z (js (jbu (v := .agg #[.func (.func 74) #[] #[],.func (.func 75) #[] #[]]) Z (fun _ => by kernel_rfl)) (jin U137 U3 k0 Z Z Z Z (jm Z (jm Z (js (jbu (v := .agg #[.func (.func 74) #[] #[],.func (.func 75) #[] #[]]) Z (fun _ => by kernel_rfl)) (jin U137 U3 k0 Z Z Z Z (jm Z ?_)))))))))))
 refine jm Z (js (jbu (v := .agg #[.func (.func 78) #[] #[],.func (.func 75) #[] #[]]) Z (fun _ => by kernel_rfl)) (jin U137 U3 k0 Z Z Z Z (jm Z (jm Z (js (jbu (v := .agg #[.func (.func 76) #[] #[],.func (.func 75) #[] #[]]) Z (fun _ => by kernel_rfl)) (jin U137 U3 k0 Z Z Z Z (jm Z (jm Z (js (jbu (v := .agg #[.func (.func 77) #[] #[],.func (.func 75) #[] #[]]) Z (fun _ => by kernel_rfl)) (jin U137 U3 k0 Z Z Z Z (jm Z ?_)))))))))))
 refine jm Z (js (jbu (v := .agg #[.func (.func 77) #[] #[],.func (.func 74) #[] #[]]) Z (fun _ => by kernel_rfl)) (jin U137 U3 k0 Z Z Z Z (jm Z (jm Z (js (jbu (v := .agg #[.func (.func 78) #[] #[],.func (.func 74) #[] #[]]) Z (fun _ => by kernel_rfl)) (jin U137 U3 k0 Z Z Z Z (jm Z (jm Z (js (jbu (v := .agg #[.func (.func 79) #[] #[],.func (.func 75) #[] #[]]) Z (fun _ => by kernel_rfl)) (jin U137 U3 k0 Z Z Z Z (jm Z ?_)))))))))))
 refine jm Z (js (jbu (v := .agg #[.func (.func 77) #[] #[],.func (.func 81) #[] #[]]) Z (fun _ => by kernel_rfl)) (jin U137 U3 k0 Z Z Z Z (jm Z (jm Z (js (jbu (v := .agg #[.func (.func 74) #[] #[],.func (.func 75) #[] #[]]) Z (fun _ => by kernel_rfl)) (jin U137 U3 k0 Z Z Z Z (jm Z (jm Z (js (jbu (v := .agg #[.func (.func 76) #[] #[],.func (.func 74) #[] #[]]) Z (fun _ => by kernel_rfl)) (jin U137 U3 k0 Z Z Z Z (jm Z ?_)))))))))))
 refine jm Z ?_
 refine jfk (p := fun v => (v = .tuple #[.agg #[kfun (takesF op),kfun (makesF op)],.bool true] ∧ kTab op) ∨ (v = .tuple #[.agg #[.nilFunc,.nilFunc],.bool false] ∧ ¬ kTab op)) ⟨_,jlko U137 U3 J99 k0 Z Z,ktab op⟩ ?_
 rintro v55 (⟨rfl,hop⟩ | ⟨rfl,hop⟩)
 refine jm Z (js (jex' Z Z) (js (jex' Z Z) (jalc J99 Z fun g10 => jsta k0 Z99 Z Z Z ⟨Z,Z,trivial⟩ (saf Z) (ja Z (jn (jx (jq (jb (jq (jr ?_))))))))))
 refine jm Z (ja Z (jn (jx ?_)))
 refine jif Z (fun hc1 => ?_) (fun hc1 => ?_)
 refine jq (jr (js (jla k0 A99 Z99 Z Z Z) (jsta k2 Z99 Z Z Z ⟨Z,Z,trivial⟩ (saf Z) (jn (jx (jrt (jbr (jtr ?_))))))))
 exact jrc Z Z k0 A99 Z99 () (by first | rfl | exact kindV5 ‹_› | exact kindV18 ‹_› | exact kindV0 (by unfold kTab at hop; omega)) dn (fun _ _ => kn)
 exact absurd hc1 (by simp)
 refine jm Z (js (jex' Z Z) (js (jex' Z Z) (jalc J99 Z fun g10_1 => jsta k0 Z99 Z Z Z ⟨Z,Z,trivial⟩ (saf Z) (ja Z (jn (jx (jq (jb (jq (jr ?_))))))))))
 refine jm Z (ja Z (jn (jx ?_)))
 refine jif Z (fun hc2 => ?_) (fun hc2 => ?_)
 exact absurd hc2 (by simp)
 refine jq (jr (jm Z (js (jgeq Z Z) (jm Z (jg Z Z (.t _) (fun hg => jmv Z) (jg Z Z (.t _) (fun hg => jleq (evg Z hg) Z) (js (jand Z Z) (ja Z (jn (jx ?_))))))))))
 refine jif Z (fun hc3 => ?_) (fun hc3 => ?_)
 refine jq (jr (jm Z (jm Z (js (jbu (v := .agg #[.func (.func 77) #[] #[],.func (.func 75) #[] #[]]) Z (fun _ => by kernel_rfl)) (jsta k2 Z99 Z Z Z ⟨Z,Z,trivial⟩ (saf Z) (jn (jx (jrt (jbr (jtr ?_))))))))))
 exact jrc Z Z k0 A99 Z99 () (by first | rfl | exact kindV5 ‹_› | exact kindV18 ‹_› | exact kindV0 (by unfold kTab at hop; omega)) dn (fun _ _ => kn)
 refine jq (jr (jm Z (js (jgeq Z Z) (jm Z (jg Z Z (.t _) (fun hg => jmv Z) (jg Z Z (.t _) (fun hg => jleq (evg Z hg) Z) (js (jand Z Z) (ja Z (jn (jx ?_))))))))))
 refine jif Z (fun hc4 => ?_) (fun hc4 => ?_)
 refine jq (jr (jm Z (jm Z (js (jbu (v := .agg #[.func (.func 76) #[] #[],.func (.func 75) #[] #[]]) Z (fun _ => by kernel_rfl)) (jsta k2 Z99 Z Z Z ⟨Z,Z,trivial⟩ (saf Z) (jn (jx (jrt (jbr (jtr ?_))))))))))
 exact jrc Z Z k0 A99 Z99 () (by first | rfl | exact kindV5 ‹_› | exact kindV18 ‹_› | exact kindV0 (by unfold kTab at hop; omega)) dn (fun _ _ => kn)
 refine jsk (jbn (jx (jq (jr (jm Z (jm Z (js (jbu (v := .agg #[.func (.func 74) #[] #[],.func (.func 74) #[] #[]]) Z (fun _ => by kernel_rfl)) (jsta k2 Z99 Z Z Z ⟨Z,Z,trivial⟩ (saf Z) (jn (jx (jrt ?_)))))))))))
 exact jrc Z Z k0 A99 Z99 () (by first | rfl | exact kindV5 ‹_› | exact kindV18 ‹_› | exact kindV0 (by unfold kTab at hop; omega)) dn (fun _ _ => kn)
end Go.Proofs.YtehhjlkmbdhckaaGreat
namespace Go.JE
variable {P : Program} {D D0 Ds : List Dt} {L M Ls L0 : List Res} {e : Env} {X : Cx} {n : Fs} {w0 : World} {Q : Exit → Act → World → Prop}
def bxv (g : Nat) (T : TypeId) (i : Nat) (v : Value) : Res where
 sat F H := ∃ cs,(bx g T cs).sat F H ∧ cs[i]? = some v
 own k := k = g
 lt := fun ⟨_,h,_⟩ e => Res.lt _ h e
 no := fun ⟨_,h,_⟩ e => Res.no _ h e
 st := fun hl hs h1 h2 ⟨cs,h,e⟩ => ⟨cs,Res.st _ hl hs h1 h2 h,e⟩
theorem kcv {g i : Nat} {T : TypeId} {cs : List Value} {v : Value} {N : List Res} (h : Tk L (bx g T cs) M) (e : cs[i]? = some v) (h' : Tks M Ls N) : Tks L (bxv g T i v :: Ls) N where
 ok := fun o => by
   obtain ⟨⟨a,b,c⟩,x,y⟩ := (kc h h').ok o
   exact ⟨⟨⟨cs,a,e⟩,b,c⟩,x,y⟩
 own := fun o => (kc h h').own o
theorem jlv {g i : Nat} {T T' : TypeId} {v : Value} {x : Operand} (hk : Tk L (bxv g T i v) M) (hT : One P T') (hx : ev e x = some (.pointer (some ⟨g,i,none⟩))) : OH P D L e (.load T' x) v := fun F H _ _ h => by
 obtain ⟨cs,h1,h2⟩ := (hk.ok h).1
 exact OpOk.ldBx h1.1 hT hx h2
def SS (X : Cx) (FS : PH) (Ls : List Res) (H : Heap) : Prop := ∃ F,FS.le F ∧ Hp X [] Ls F H
inductive Od where
 | e
 | a (i : Nat) (o : Od)
 | o (i : Nat) (o : Od)
 | w (i j : Nat) (p q : Od)
 | w3 (i j k : Nat) (p q r : Od)
def Od.sz : Od → Nat
 | .e => 0
 | .a _ q => q.sz + 1
 | .o _ q => q.sz + 1
 | .w _ _ p _ => p.sz + 1
 | .w3 _ _ _ p _ _ => p.sz + 1
def okO (ops : Array Oper) (z : Bool) : Array Bool → Od → Bool
 | listed,.e => decide (Region.ready .any ops listed = []) && (!z || listed.all (fun b => b))
 | listed,.a i q => (Region.free .any ops listed i && ((Region.ready .any ops listed).contains i && (!z || waits ops listed i))) && okO ops z (listed.setIfInBounds i true) q
 | listed,.o i q => decide (Region.ready .any ops listed = [i]) && okO ops z (listed.setIfInBounds i true) q
 | listed,.w i j p q => decide (Region.ready .any ops listed = [i,j]) && (okO ops z (listed.setIfInBounds i true) p && (okO ops z (listed.setIfInBounds j true) q && p.sz == q.sz))
 | listed,.w3 i j k p q r => decide (Region.ready .any ops listed = [i,j,k]) && (okO ops z (listed.setIfInBounds i true) p && (okO ops z (listed.setIfInBounds j true) q && (okO ops z (listed.setIfInBounds k true) r && (p.sz == q.sz && p.sz == r.sz))))
def fsD (FS : PH) (Ds : List Dt) : Dt := ⟨fun F => FS.le F ∧ AllD FS Ds,fun hl h => ⟨h.1.trans hl,h.2⟩⟩
def AH (P : Program) (n : Fs) (w0 : World) (l : List Oper) (Q : Exit → Act → World → Prop) (z : Bool) (X : Cx) (FS : PH) (Ds : List Dt) (Ls : List Res) (is : Od) (D : List Dt) (L : List Res) (e : Env) : Prop :=
 ∀ F H,FS.le F → AllD FS Ds → Hp X D L F H → (SS X FS Ls H ∨ (z = true ∧ is = .e)) → Region.noSelect l.toArray = true → ∀ listed,okO l.toArray z listed is = true → AF P n w0 l.toArray Q z (SS X FS Ls) is.sz listed e H
def YQ (P : Program) (n : Fs) (w0 : World) (l : List Oper) (Q : Exit → Act → World → Prop) (z : Bool) (X : Cx) (FS : PH) (Ls : List Res) (is : Od) : Exit → Act → World → Prop
 | .normal,a,w => Region.noSelect l.toArray = true → ∀ listed,okO l.toArray z listed is = true → (SS X FS Ls w.heap ∨ (z = true ∧ is = .e)) ∧ AnyL P l.toArray (NoP Q) z (fun w => SS X FS Ls w.heap) is.sz listed a w
 | x,a,w => NoP Q x a w
theorem jany {id : Nat} {l : List Oper} (z : Bool) (is : Od) (hm : P.follows .mixedOrders = true) (hO : (okO l.toArray z (Array.replicate l.length false) is && (Region.noSelect l.toArray && decide (l.length = is.sz))) = true) (hk : Tks L Ls M)
   (h : ∀ FS,AH P n w0 l Q z X FS D Ls is D L e) : CH P n w0 Q X D L e (.region id l.toArray true) := fun F H hp => by
 simp only [Bool.and_eq_true,decide_eq_true_eq] at hO
 refine CF.any (z := z) (SS X F Ls) hm ?_
 have := h F F H (PH.le.refl F) hp.hd hp (.inl ⟨F,PH.le.refl F,hp.sub dn hk⟩) hO.2.1 _ hO.1
 rw [hO.2.2] at this ⊢
 exact this
section
variable {l : List Oper} {z : Bool} {is js : Od} {i d : Nat} {op : Op} {oi oj : Oper} {ty : TypeId} {pos : String} {af : Array Edge} {v : Value} {FS : PH}
theorem jyd (h : QH n w0 Q X D L e .normal) : AH P n w0 l Q z X FS Ds Ls .e D L e := fun F H h1 h2 hp hS hs listed hO => by
 simp only [okO,Bool.and_eq_true,decide_eq_true_eq] at hO
 exact AF.done hO.1 (h F H hp)
theorem SS.oh {H : Heap} (h : OH P Ds Ls e op v) (hd : AllD FS Ds) (hS : SS X FS Ls H) : OpOk P e op H v := by
 obtain ⟨F,h1,h2⟩ := hS; exact h F H h2.hin (hd.up h1) h2.ok
theorem SS.get {H : Heap} (h : SS X FS Ls H ∨ (z = true ∧ is = .e)) (hn : is ≠ .e) : SS X FS Ls H := h.resolve_right fun h1 => hn h1.2
theorem okA {ops : Array Oper} {listed : Array Bool} (hO : okO ops z listed (.a i is) = true) : Region.free .any ops listed i = true ∧ (Region.ready .any ops listed).contains i = true ∧ (z = false ∨ waits ops listed i = true) ∧ okO ops z (listed.setIfInBounds i true) is = true := by
 simp only [okO,Bool.and_eq_true,Bool.or_eq_true,Bool.not_eq_true'] at hO
 exact ⟨hO.1.1,hO.1.2.1,hO.1.2.2,hO.2⟩
theorem jy (hi : l[i]? = some ⟨some d,op,ty,pos,af,none⟩) (h : OH P Ds Ls e op v) (K : AH P n w0 l Q z X FS Ds Ls is D L ((d,v) :: e)) (hd : Nat.blt d n.sz = true := by rfl) : AH P n w0 l Q z X FS Ds Ls (.a i is) D L e := fun F H h1 h2 hp hS hs listed hO => by
 obtain ⟨hf,hr,hz,hO⟩ := okA hO
 have hS' := SS.get hS (by simp)
 exact AF.take i hi hs hf hr hS' (fun H' hS'' => hS''.oh h h2) (K F H h1 h2 hp (.inl hS') hs _ hO) hd hz
theorem jyg {j t : Nat} {want B : Bool} {u : Value} (hi : l[i]? = some ⟨some d,op,ty,pos,af,some (j,want)⟩) (hj : (l.toArray[j]?).bind (·.dst) = some t) (hu : lk e t = some u) (hB : Gd u want B) (h : B = true → OH P Ds Ls e op v) (K : AH P n w0 l Q z X FS Ds Ls is D L ((d,gv B v) :: e)) (hd : Nat.blt d n.sz = true := by rfl) (ht : Nat.blt t n.sz = true := by rfl) : AH P n w0 l Q z X FS Ds Ls (.a i is) D L e := fun F H h1 h2 hp hS hs listed hO => by
 obtain ⟨hf,hr,hz,hO⟩ := okA hO
 have hS' := SS.get hS (by simp)
 exact AF.gtake i hi hs hf hr hS' hj hu hB (fun hb H' hS'' => hS''.oh (h hb) h2) (K F H h1 h2 hp (.inl hS') hs _ hO) hd ht hz
def OX (P : Program) (Ds : List Dt) (e : Env) (op : Op) (q : Value → Dt) : Prop := ∀ FS H,InH FS H → AllD FS Ds → ∃ v,(∀ H',InH FS H' → OpOk P e op H' v) ∧ (q v).sat FS
section
variable {α : Type} {r : Rp α} {a : α} {b o : Nat} {T : TypeId} {x : Operand}
theorem xlV (hat : Nd Ds [] (ad r b o a)) (hT : One P T) (hS : r.sz = 1) (hx : ev e x = some (.pointer (some ⟨b,o,none⟩))) : OX P Ds e (.load T x) (fun v => dv r v a) := fun FS H h1 h2 => OpOk.ldVS (hat FS H h1 h2 trivial) hT hS hx (fun _ h => h)
theorem xlA (hat : Nd Ds [] (ad r b o a)) (hT : ∃ d,P.underlying T = some d ∧ (match d with | .struct _ | .array _ _ => true | _ => false) = true) (hS : Sz P T r.sz) (hx : ev e x = some (.pointer (some ⟨b,o,none⟩))) : OX P Ds e (.load T x) (fun v => da r v a) := fun FS H h1 h2 => OpOk.ldAS (hat FS H h1 h2 trivial) hT hS hx (fun _ h => h)
end
theorem SS.inh {H : Heap} (hS : SS X FS Ls H) : InH FS H := by obtain ⟨F,h1,h2⟩ := hS; exact h2.hin.down h1
theorem jye {q : Value → Dt} (hi : l[i]? = some ⟨some d,op,ty,pos,af,none⟩) (h : OX P Ds e op q) (K : ∀ v,AH P n w0 l Q z X FS (q v :: Ds) Ls is (q v :: D) L ((d,v) :: e)) (hd : Nat.blt d n.sz = true := by rfl) : AH P n w0 l Q z X FS Ds Ls (.a i is) D L e := fun F H h1 h2 hp hS hs listed hO => by
 obtain ⟨hf,hr,hz,hO⟩ := okA hO
 have hS' := SS.get hS (by simp)
 obtain ⟨v,h3,h4⟩ := h FS H hS'.inh h2
 exact AF.take i hi hs hf hr hS' (fun H' hS'' => h3 H' hS''.inh) (K v F H h1 ⟨h4,h2⟩ (hp.datum (Dt.up _ h1 h4)) (.inl hS') hs _ hO) hd hz
theorem jyge {q : Value → Dt} {j t : Nat} {want B : Bool} {u : Value} (hi : l[i]? = some ⟨some d,op,ty,pos,af,some (j,want)⟩) (hj : (l.toArray[j]?).bind (·.dst) = some t) (hu : lk e t = some u) (hB : Gd u want B) (h : B = true → OX P Ds e op q) (K : ∀ v,AH P n w0 l Q z X FS ((q v).if B :: Ds) Ls is ((q v).if B :: D) L ((d,gv B v) :: e)) (hd : Nat.blt d n.sz = true := by rfl) (ht : Nat.blt t n.sz = true := by rfl) : AH P n w0 l Q z X FS Ds Ls (.a i is) D L e := fun F H h1 h2 hp hS hs listed hO => by
 obtain ⟨hf,hr,hz,hO⟩ := okA hO
 have hS' := SS.get hS (by simp)
 cases B with
 | true =>
   obtain ⟨v,h3,h4⟩ := h rfl FS H hS'.inh h2
   have h5 : ((q v).if true).sat FS := fun _ => h4
   exact AF.gtake i hi hs hf hr hS' hj hu hB (fun _ H' hS'' => h3 H' hS''.inh) (K v F H h1 ⟨h5,h2⟩ (hp.datum (Dt.up _ h1 h5)) (.inl hS') hs _ hO) hd ht hz
 | false =>
   have h5 : ∀ F,((q undef).if false).sat F := fun _ h => by cases h
   exact AF.gtake (v := undef) i hi hs hf hr hS' hj hu hB (fun h => by cases h) (K undef F H h1 ⟨h5 _,h2⟩ (hp.datum (h5 _)) (.inl hS') hs _ hO) hd ht hz
theorem jyA {α β : Type} {r : Rp α} {val : α → β → Value} {a : α} (hs : Sr r val) (hi : l[i]? = some ⟨some d,op,ty,pos,af,none⟩) (h : OX P Ds e op (fun v => da r v a)) (K : ∀ c,AH P n w0 l Q z X FS (da r (val a c) a :: Ds) Ls is (da r (val a c) a :: D) L ((d,val a c) :: e)) (hd : Nat.blt d n.sz = true := by rfl) : AH P n w0 l Q z X FS Ds Ls (.a i is) D L e := fun F H h1 h2 hp hS hs' listed hO => by
 obtain ⟨hf,hr,hz,hO⟩ := okA hO
 have hS' := SS.get hS (by simp)
 obtain ⟨v,h3,h4⟩ := h FS H hS'.inh h2
 obtain ⟨c,rfl⟩ := hs.op h4
 exact AF.take i hi hs' hf hr hS' (fun H' hS'' => h3 H' hS''.inh) (K c F H h1 ⟨h4,h2⟩ (hp.datum (Dt.up _ h1 h4)) (.inl hS') hs' _ hO) hd hz
theorem adq {α : Type} {r : Rp α} {N : Nat} {a : List α} (h : Nd D L (dv (rLn N r) v a)) (k : Qn N a.length → Sv v → AH P n w0 l Q z X FS Ds Ls is D L e) : AH P n w0 l Q z X FS Ds Ls is D L e := fun F H h0 h1 hp => by
 have h2 := h F H hp.hin hp.hd hp.ok; exact k h2.1 (dv1 h2) F H h0 h1 hp
theorem wpl_op {ops : Array Oper} {Y Q' : Exit → Act → World → Prop} {a : Act} {w : World} (hi : ops[i]? = some oi) (hp : ∀ c a w,Y (.panic c) a w → Q' (.panic c) a w) (ho : ∀ a w,Y .outgrown a w → Q' .outgrown a w) (h : wpList P ops Y [oi] a w) : wpOp P ops Q' i (fun a w => Y .normal a w) a w := by
 unfold wpOp
 simp only [hi]
 unfold wpList at h
 have hl : LetsOut Y → LetsOut Q' := fun ⟨a,w,h⟩ => ⟨a,w,ho a w h⟩
 split at h
 · rename_i hw
   rw [if_pos hw]
   refine h.imp (fun h => ?_) (fun h => ⟨h.1,hl h.2⟩)
   unfold Oper.wp at h ⊢
   generalize (execOp a.eval oi).run P w = r at h ⊢
   cases r with
   | ok x w' =>
     cases x <;> simp only [Oper.upon] at h ⊢ <;>
     first
       | exact h
       | exact Calls.mono h (fun x w'' he => by cases x <;> first | exact he | exact hp _ _ _ he | exact hl he)
       | exact Rows.mono h (fun _ _ he => he)
   | halt x w' => cases x <;> simp only [Oper.upon] at h ⊢ <;> first | exact hp _ _ _ h | exact h
 · rename_i hw
   rw [if_neg hw]; exact h
theorem no_left {ops : Array Oper} {listed : Array Bool} (hO : okO ops true listed .e = true) : ¬ leftB listed := by
 simp only [okO,Bool.and_eq_true,Bool.not_true,Bool.false_or] at hO
 rintro ⟨k,hk⟩
 rw [Array.getD_eq_getD_getElem?] at hk
 by_cases h : k < listed.size
 · rw [Array.getElem?_eq_getElem h] at hk
   have h2 := Array.all_eq_true.1 hO.2 k h
   simp only [Option.getD_some] at hk
   rw [hk] at h2; cases h2
 · rw [Array.getElem?_eq_none (Nat.le_of_not_lt h)] at hk; cases hk
theorem YQ.next {listed : Array Bool} {a : Act} {w : World} (hs : Region.noSelect l.toArray = true) (hO : okO l.toArray z (listed.setIfInBounds i true) is = true) (hi : l[i]? = some oi) (h : wpList P l.toArray (YQ P n w0 l Q z X FS Ls is) [oi] a w) :
   wpOp P l.toArray (NoP Q) i (fun a' w' => (z = false ∨ leftB (listed.setIfInBounds i true) → SS X FS Ls w'.heap) ∧ AnyL P l.toArray (NoP Q) z (fun w => SS X FS Ls w.heap) is.sz (listed.setIfInBounds i true) a' w') a w := by
 refine wpOp_mono (fun a' w' h' => ?_) (wpl_op (Y := YQ P n w0 l Q z X FS Ls is) (Q' := NoP Q) (by simpa using hi) (fun _ _ _ h => h) (fun _ _ h => h) h)
 obtain ⟨h1,h2⟩ := h' hs _ hO
 refine ⟨fun h3 => h1.resolve_right ?_,h2⟩
 rintro ⟨rfl,rfl⟩
 exact no_left hO (h3.resolve_left (by simp))
theorem jyo (hi : l[i]? = some oi) (h : LH P n w0 l.toArray (YQ P n w0 l Q z X FS Ls is) X (fsD FS Ds :: D) L e [oi]) : AH P n w0 l Q z X FS Ds Ls (.o i is) D L e := fun F H h1 h2 hp hS hs listed hO => by
 simp only [okO,Bool.and_eq_true,decide_eq_true_eq] at hO
 intro a w hf hw
 exact wpAnyH_one hO.1 (YQ.next hs hO.2 hi (h F H (hp.datum ⟨h1,h2⟩) a w hf hw))
theorem jyw {j : Nat} (hi : l[i]? = some oi) (hj : l[j]? = some oj) (h : LH P n w0 l.toArray (YQ P n w0 l Q z X FS Ls is) X (fsD FS Ds :: D) L e [oi]) (h' : LH P n w0 l.toArray (YQ P n w0 l Q z X FS Ls js) X (fsD FS Ds :: D) L e [oj]) : AH P n w0 l Q z X FS Ds Ls (.w i j is js) D L e := fun F H h1 h2 hp hS hs listed hO => by
 simp only [okO,Bool.and_eq_true,decide_eq_true_eq,beq_iff_eq] at hO
 obtain ⟨hr,ho1,ho2,hz⟩ := hO
 intro a w hf hw
 have a1 := YQ.next hs ho1 hi (h F H (hp.datum ⟨h1,h2⟩) a w hf hw)
 have a2 := YQ.next hs ho2 hj (h' F H (hp.datum ⟨h1,h2⟩) a w hf hw)
 rw [← hz] at a2
 refine ⟨fun h0 => (by rw [hr] at h0; cases h0),fun k hk => ?_⟩
 rw [hr] at hk
 simp only [List.mem_cons,List.not_mem_nil,or_false] at hk
 rcases hk with rfl | rfl
 · exact a1
 · exact a2
theorem jyn {ops : Array Oper} (hf : Nd D L (fsD FS Ds)) (hk : Tks L Ls M) (h : AH P n w0 l Q z X FS Ds Ls is D L e) : LH P n w0 ops (YQ P n w0 l Q z X FS Ls is) X D L e [] := jn fun F H hp a w hfr hw hs listed hO => by
 obtain ⟨h1,h2⟩ := hf F H hp.hin hp.hd hp.ok
 have hS : SS X FS Ls H := ⟨F,h1,hp.sub dn hk⟩
 exact ⟨.inl (hw.heap ▸ hS),h F H h1 h2 hp (.inl hS) hs listed hO a w hfr hw⟩
theorem jyz {ops : Array Oper} (hf : Nd D L (fsD FS Ds)) (h : AH P n w0 l Q true X FS Ds Ls .e D L e) : LH P n w0 ops (YQ P n w0 l Q true X FS Ls .e) X D L e [] := jn fun F H hp a w hfr hw hs listed hO => by
 obtain ⟨h1,h2⟩ := hf F H hp.hin hp.hd hp.ok
 exact ⟨.inr ⟨rfl,rfl⟩,h F H h1 h2 hp (.inr ⟨rfl,rfl⟩) hs listed hO a w hfr hw⟩
end
end Go.JE
namespace Go.Proofs.YtehhjlkmbdhckaaGreat
open Go.JE
theorem A69 : ∃ d,Tryz.prog.underlying 69 = some d ∧ (match d with | .struct _ | .array _ _ => true | _ => false) = true := ⟨_,Tryz.underlying69,rfl⟩
theorem E52 : Ent Tryz.prog 52 := ⟨_,Tryz.func52,by kernel_rfl,by kernel_rfl⟩
theorem E74 : Ent Tryz.prog 74 := ⟨_,Tryz.func74,by kernel_rfl,by kernel_rfl⟩
theorem E75 : Ent Tryz.prog 75 := ⟨_,Tryz.func75,by kernel_rfl,by kernel_rfl⟩
theorem E76 : Ent Tryz.prog 76 := ⟨_,Tryz.func76,by kernel_rfl,by kernel_rfl⟩
theorem E77 : Ent Tryz.prog 77 := ⟨_,Tryz.func77,by kernel_rfl,by kernel_rfl⟩
theorem E78 : Ent Tryz.prog 78 := ⟨_,Tryz.func78,by kernel_rfl,by kernel_rfl⟩
theorem E79 : Ent Tryz.prog 79 := ⟨_,Tryz.func79,by kernel_rfl,by kernel_rfl⟩
theorem E81 : Ent Tryz.prog 81 := ⟨_,Tryz.func81,by kernel_rfl,by kernel_rfl⟩
theorem G99_0 : ∃ fs f,Tryz.prog.underlying 99 = some (.struct fs) ∧ fs[0]? = some f ∧ f.offset = 0 ∧ f.type = 67 := ⟨_,_,Tryz.underlying99,rfl,rfl,rfl⟩
theorem G99_1 : ∃ fs f,Tryz.prog.underlying 99 = some (.struct fs) ∧ fs[1]? = some f ∧ f.offset = 1 ∧ f.type = 67 := ⟨_,_,Tryz.underlying99,rfl,rfl,rfl⟩
theorem Mixed : Tryz.prog.follows .mixedOrders = true := Checked.mixed Tryz.checked
theorem O67 : One Tryz.prog 67 := ⟨_,Tryz.underlying67,rfl⟩
theorem Z69 : Sz Tryz.prog 69 8 := by unfold Sz; kernel_rfl
theorem takesF_ct {a0 : Value} {i : D.Mach} : Td Tryz.prog (takesF i.Op) #[vMach i a0] [da rMach (vMach i a0) i] [] (rL (rI .i64)) (takesM i) := by
 unfold takesF takesM
 (repeat' split) <;> first | (exfalso; omega) | exact kind3_ct | exact kind4_ct | exact kind5_ct | exact kind6_ct | exact kind1_ct
theorem ent_takesF (op : Int) : Ent Tryz.prog (takesF op) := by
 unfold takesF
 (repeat' split) <;> first | with_reducible exact E76 | with_reducible exact E77 | with_reducible exact E78 | with_reducible exact E79 | with_reducible exact E74
theorem makesF_ct {a0 : Value} {i : D.Mach} : Td Tryz.prog (makesF i.Op) #[vMach i a0] [da rMach (vMach i a0) i] [] (rL (rI .i64)) (makesM i) := by
 unfold makesF makesM
 (repeat' split) <;> first | (exfalso; omega) | exact kind4_ct | exact kind7_ct | exact kind1_ct | exact kind2_ct
theorem ent_makesF (op : Int) : Ent Tryz.prog (makesF op) := by
 unfold makesF
 (repeat' split) <;> first | with_reducible exact E77 | with_reducible exact E81 | with_reducible exact E74 | with_reducible exact E75
theorem pTakes_ct {a0 : Value} {i : D.Mach} : Td Tryz.prog 30 #[vMach i a0] [da rMach (vMach i a0) i] [] (rL (rI .i64)) (takesM i) := by
 refine jenter (args := [vMach i a0]) Tryz.func30 rfl rfl rfl fun w0 X => ?_
 refine jq (jr (jbox Z Z fun g1 => ja Z (jn (jx (jq (jany false (.a 0 (.a 1 (.a 4 (.o 2 (.a 3 (.o 5 (.a 6 .e))))))) Mixed (by kernel_rfl) (kc k0 kn) fun F1 => jy Z (jf F69_0 Z) (jy Z (jl k0 O3 Z Z) (jy Z (jla k0 A69 Z69 Z Z Z) (jyo Z ?_)))))))))
 refine jcv E52 Z Z (kindV_ct i.Op) dn kn (jyn d0 (kc k0 kn) (jy Z (jfo G99_0 O67 Z Z) (jyo Z (jcd (ent_takesF _) Z Z takesF_ct (dc d2 dn) kn fun v8 q8 w8 => jyn d1 (kc k0 kn) (jy Z (jas Z) (jyd (jx (jrt ?_))))))))
 exact jrD Z Z (by rfl) d0
theorem pMakes_ct {a0 : Value} {i : D.Mach} : Td Tryz.prog 31 #[vMach i a0] [da rMach (vMach i a0) i] [] (rL (rI .i64)) (makesM i) := by
 refine jenter (args := [vMach i a0]) Tryz.func31 rfl rfl rfl fun w0 X => ?_
 refine jq (jr (jbox Z Z fun g1 => ja Z (jn (jx (jq (jany false (.a 0 (.a 1 (.a 4 (.o 2 (.a 3 (.o 5 (.a 6 .e))))))) Mixed (by kernel_rfl) (kc k0 kn) fun F1 => jy Z (jf F69_0 Z) (jy Z (jl k0 O3 Z Z) (jy Z (jla k0 A69 Z69 Z Z Z) (jyo Z ?_)))))))))
 refine jcv E52 Z Z (kindV_ct i.Op) dn kn (jyn d0 (kc k0 kn) (jy Z (jfo G99_1 O67 Z Z) (jyo Z (jcd (ent_makesF _) Z Z makesF_ct (dc d2 dn) kn fun v8 q8 w8 => jyn d1 (kc k0 kn) (jy Z (jas Z) (jyd (jx (jrt ?_))))))))
 exact jrD Z Z (by rfl) d0
theorem Z21 : Sz Tryz.prog 21 1 := by unfold Sz; kernel_rfl
def getM (regs : List Int) (r : Int) : Int := if r < 0 ∨ regs.length ≤ r then 0 else ix regs r.toNat
def setM (regs : List Int) (r v : Int) : List Int := if 0 ≤ r ∧ r < regs.length then regs.set r.toNat v else regs
def loadM (mem : List Int) (at' : Int) : Int × Bool := if at' < 0 ∨ mem.length ≤ at' then (0,false) else (ix mem at'.toNat,true)
def storeM (mem : List Int) (at' v : Int) : List Int := if at' < 0 ∨ mem.length ≤ at' then mem else mem.set at'.toNat v
def storeOk (mem : List Int) (at' _x : Int) : Bool := (loadM mem at').2
def memM (i : D.Input) : List Int := i.Mem.take 4096
def goesM (e : D.End) (regs : List Int) : Int :=
 if e.Op = 1 then 0
 else if e.Op = 2 then (if getM regs e.A ≠ 0 then 0 else 1)
 else if e.Op = 3 then (if getM regs e.A = getM regs e.B then 0 else 1)
 else if e.Op = 4 then (if getM regs e.A < getM regs e.B then 0 else 1)
 else if e.Op = 5 then (if u32 (getM regs e.A) < u32 (getM regs e.B) then 0 else 1)
 else if e.Op = 6 then (if u32 (getM regs e.A) < e.To.length - 1 then u32 (getM regs e.A) else e.To.length - 1)
 else -1
def immOp (op : Int) : Int := ix [2,5,8,9,10] (op - 18).toNat
def stepM (i : D.Mach) (regs mem : List Int) : (Int × Bool) × List Int × List Int :=
 if i.Op = 1 then ((0,true),setM regs i.D (getM regs i.A),mem)
 else if i.Op = 2 then ((0,true),setM (setM regs i.A (getM regs i.B)) i.B (getM regs i.A),mem)
 else if i.Op = 3 ∨ i.Op = 4 then ((0,true),setM regs i.D i.Imm,mem)
 else if 5 ≤ i.Op ∧ i.Op ≤ 17 then
   if (doM (i.Op - 5 + 2) (getM regs i.A) (getM regs i.B)).2 = true then ((0,true),setM regs i.D (doM (i.Op - 5 + 2) (getM regs i.A) (getM regs i.B)).1,mem) else ((-1,false),regs,mem)
 else if 18 ≤ i.Op ∧ i.Op ≤ 22 then ((0,true),setM regs i.D (doM (immOp i.Op) (getM regs i.A) i.Imm).1,mem)
 else if i.Op = 23 then ((0,true),setM regs i.D (w32 (w32 (getM regs i.A * getM regs i.B) + getM regs i.C)),mem)
 else if i.Op = 24 then
   if (loadM mem (w32 (getM regs i.A + i.Imm))).2 = true then ((0,true),setM regs i.D (loadM mem (w32 (getM regs i.A + i.Imm))).1,mem) else ((-2,false),regs,mem)
 else if i.Op = 25 then
   if (loadM mem (w32 (getM regs i.A + getM regs i.B))).2 = true then ((0,true),setM regs i.D (loadM mem (w32 (getM regs i.A + getM regs i.B))).1,mem) else ((-2,false),regs,mem)
 else if i.Op = 26 then
   ((if storeOk mem (w32 (getM regs i.A + i.Imm)) (getM regs i.B) = true then (0,true) else (-2,false)),regs,storeM mem (w32 (getM regs i.A + i.Imm)) (getM regs i.B))
 else if i.Op = 27 then
   ((if storeOk mem (w32 (getM regs i.A + getM regs i.B)) (getM regs i.C) = true then (0,true) else (-2,false)),regs,storeM mem (w32 (getM regs i.A + getM regs i.B)) (getM regs i.C))
 else if i.Op = 29 then ((0,true),setM (setM regs i.D (wideM (getM regs i.A) (getM regs i.B)).1) i.E (wideM (getM regs i.A) (getM regs i.B)).2,mem)
 else ((0,true),regs,mem)
theorem take_min {α : Type} (l : List α) (n : Nat) (m : Int) (h : m = n) : l.take n = l.take (Int.toNat (min (↑l.length) m)) := by
 subst h
 rcases Nat.le_total l.length n with h | h
 · rw [List.take_of_length_le h,List.take_of_length_le (by omega)]
 · congr 1; omega
theorem F35_3 : Fld Tryz.prog 35 3 3 := ⟨_,_,Tryz.underlying35,rfl,rfl,1,(by unfold Sz; kernel_rfl),by decide⟩
theorem E31 : Ent Tryz.prog 31 := ⟨_,Tryz.func31,by kernel_rfl,by kernel_rfl⟩
theorem F69_6 : Fld Tryz.prog 69 6 6 := ⟨_,_,Tryz.underlying69,rfl,rfl,1,(by unfold Sz; kernel_rfl),by decide⟩
end Go.Proofs.YtehhjlkmbdhckaaGreat
namespace Go.JE
variable {P : Program} {D D0 D1 E : List Dt} {L M N Ls L0 : List Res} {e : Env} {X : Cx} {n : Fs} {w0 : World} {Q : Exit → Act → World → Prop}
def it (Ls : List Res) : Res where
 sat F H := Ok F H Ls
 own k := Own Ls k
 lt := Ok.lt
 no := Ok.no
 st := fun hl hs h1 h2 h => Ok.st hl hs h1 h2 h
def dl (E : List Dt) : Dt := ⟨fun F => AllD F E,fun hl h => h.up hl⟩
theorem db {d : List Dt} (h : Sd D L d) : Nd D L (dl d) := h
theorem Ok.un {F : PH} {H : Heap} : Ok F H (it Ls :: M) ↔ Ok F H (Ls ++ M) := by
 induction Ls with
 | nil => exact ⟨fun h => h.2.2,fun h => ⟨trivial,fun _ h => h.elim,h⟩⟩
 | cons R Ls ih =>
   constructor
   · rintro ⟨⟨a,b,c⟩,d,f⟩
     have := ih.1 ⟨c,fun k hk => d k (.inr hk),f⟩
     exact ⟨a,fun k hk ho => (Own.app.1 ho).elim (b k hk) (d k (.inl hk)),this⟩
   · rintro ⟨a,b,c⟩
     obtain ⟨c1,c2,c3⟩ := ih.2 c
     exact ⟨⟨a,fun k hk ho => b k hk (Own.app.2 (.inl ho)),c1⟩,fun k hk ho => hk.elim (fun h => b k h (Own.app.2 (.inr ho))) (fun h => c2 k h ho),c3⟩
theorem Own.un {k : Nat} : Own (it Ls :: M) k ↔ Own (Ls ++ M) k := ⟨fun h => Own.app.2 h,fun h => Own.app.1 h⟩
theorem Tks.it (h : Tks L Ls M) : Tks L [it Ls] M where
 ok := fun o => by
   obtain ⟨a,b,c⟩ := h.ok o
   exact ⟨⟨a,fun _ _ => id,trivial⟩,b,fun k hk => c k (hk.resolve_right id)⟩
 own := fun o => h.own (o.imp (·.resolve_right id) id)
theorem Hp.unit {F : PH} {H : Heap} (h : Hp X D (JE.it Ls :: M) F H) : Hp X D (Ls ++ M) F H := ⟨h.hx,h.hin,h.hw,h.hd,Ok.un.1 h.ok,fun k hk => h.ge k (Own.un.2 hk)⟩
section
variable {ops : Array Oper} {d : Nat} {ty : TypeId} {pos : String} {af : Array Edge} {rest : List Oper} {f : FuncId} {g : Operand} {xs : List Operand} {vs cs : List Value} {args : Array Value} {ts : Array TypeId} {ι : Type} {val : ι → Value} {dr : ι → List Dt} {lr : Nat → ι → List Res} {v : Value}
abbrev Pd (P : Program) (f : FuncId) (args : Array Value) (D0 : List Dt) (Ls : List Res) (b : Bool) : Prop := Tr P f args D0 [it Ls] (fun _ : Unit => .bool b) (fun _ => []) (fun _ _ => [it Ls])
theorem Tr.it {D2 : List Dt} (h : Tr P f args D0 Ls val dr (fun _ _ => Ls)) (hd : ∀ {F : PH},AllD F D2 → AllD F D0) : Tr P f args D2 [it Ls] val dr (fun _ _ => [JE.it Ls]) := fun F H hin hD ho =>
 (h F H hin (hd hD) ho.1).mono fun v H' ⟨i,F',h1,h2⟩ => ⟨i,F',h1,fun B hB => by
   have h3 := h2 B hB
   refine ⟨h3.hx,h3.hin,⟨h3.hw.1,fun k h1 h4 => h3.hw.2 k h1 (fun h5 => h4 (.inl h5))⟩,h3.hd,⟨h3.ok,fun _ _ => id,trivial⟩,fun k hk => (h3.ge k (hk.resolve_right id)).imp id .inl⟩⟩
theorem i1 {F : PH} {d : Dt} : AllD F [dl [d]] → AllD F [d] := fun h => h.1
theorem i0 {F : PH} {D2 : List Dt} : AllD F D2 → AllD F [] := fun _ => trivial
theorem il {F : PH} {c : Dt} {E : List Dt} : AllD F [c,dl E] → AllD F (c :: E) := fun h => ⟨h.1,h.2.1⟩
theorem ir {F : PH} {c : Dt} {E : List Dt} : AllD F [c,dl E] → AllD F [c] := fun h => ⟨h.1,trivial⟩
theorem jcp (hE : Ent P f) (hf : ev e g = some (.func (.func f) #[] cs.toArray)) (hl : evl e xs = some vs) (hT : Tr P f (vs ++ cs).toArray D0 [it Ls] (fun _ : Unit => v) (fun _ => []) (fun _ _ => [it Ls])) (hd : Sd D L D0) (hk : Tks L Ls M) (hq : Ap Ls M N)
   (k : LH P n w0 ops Q X D N ((d,v) :: e) rest) (hd1 : Nat.blt d n.sz = true := by rfl) : LH P n w0 ops Q X D L e (⟨some d,.call { callee := .value g,args := xs.toArray,argTypes := ts },ty,pos,af,none⟩ :: rest) :=
 jc hE hf hl hT hd hk.it (fun _ => rfl) (fun _ => rfl) (fun _ F H h => k F H (hq ▸ h.unit)) hd1
theorem jgcp {j t : Nat} {want B : Bool} {u : Value} (hj : (ops[j]?).bind (·.dst) = some t) (hu : lk e t = some u) (hB : Gd u want B) (hE : Ent P f) (hf : ev e g = some (.func (.func f) #[] cs.toArray)) (hl : B = true → evl e xs = some vs) (hT : B = true → Tr P f (vs ++ cs).toArray D0 [it Ls] (fun _ : Unit => v) (fun _ => []) (fun _ _ => [it Ls])) (hd : B = true → Sd D L D0) (hk : Tks L Ls M) (hq : Ap Ls M N)
   (k : LH P n w0 ops Q X D N ((d,gv B v) :: e) rest) (hd1 : Nat.blt d n.sz = true := by rfl) (ht : Nat.blt t n.sz = true := by rfl) : LH P n w0 ops Q X D L e (⟨some d,.call { callee := .value g,args := xs.toArray,argTypes := ts },ty,pos,af,some (j,want)⟩ :: rest) :=
 jgc hj hu hB hE hf hl hT hd hk.it rfl (fun F H h => k F H (hq ▸ h.unit)) hd1 ht
end
end Go.JE
