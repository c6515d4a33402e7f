/- Lemmas that the claim is made of. Conditions: each lemma names its own. -/
import Derived.Test.YtdlcjaefkjbonaaGreatQt3
namespace Go.Proofs.YtdlcjaefkjbonaaGreat
set_option linter.unusedVariables false
set_option linter.unusedSimpArgs false
set_option linter.unusedSectionVars false
open Go.JE
abbrev U127 := @Tryz.underlying127
abbrev U172 := @Tryz.underlying172
abbrev U3 := @Tryz.underlying3
theorem E119 : Ent Tryz.prog 119 := ⟨_, Tryz.func119, by kernel_rfl, by kernel_rfl⟩
theorem E120 : Ent Tryz.prog 120 := ⟨_, Tryz.func120, by kernel_rfl, by kernel_rfl⟩
theorem E121 : Ent Tryz.prog 121 := ⟨_, Tryz.func121, by kernel_rfl, by kernel_rfl⟩
theorem E122 : Ent Tryz.prog 122 := ⟨_, Tryz.func122, by kernel_rfl, by kernel_rfl⟩
theorem E123 : Ent Tryz.prog 123 := ⟨_, Tryz.func123, by kernel_rfl, by kernel_rfl⟩
theorem E124 : Ent Tryz.prog 124 := ⟨_, Tryz.func124, by kernel_rfl, by kernel_rfl⟩
theorem E125 : Ent Tryz.prog 125 := ⟨_, Tryz.func125, by kernel_rfl, by kernel_rfl⟩
theorem E126 : Ent Tryz.prog 126 := ⟨_, Tryz.func126, by kernel_rfl, by kernel_rfl⟩
theorem E127 : Ent Tryz.prog 127 := ⟨_, Tryz.func127, by kernel_rfl, by kernel_rfl⟩
theorem E128 : Ent Tryz.prog 128 := ⟨_, Tryz.func128, by kernel_rfl, by kernel_rfl⟩
theorem E129 : Ent Tryz.prog 129 := ⟨_, Tryz.func129, by kernel_rfl, by kernel_rfl⟩
theorem E130 : Ent Tryz.prog 130 := ⟨_, Tryz.func130, by kernel_rfl, by kernel_rfl⟩
theorem E131 : Ent Tryz.prog 131 := ⟨_, Tryz.func131, by kernel_rfl, by kernel_rfl⟩
theorem E132 : Ent Tryz.prog 132 := ⟨_, Tryz.func132, by kernel_rfl, by kernel_rfl⟩
theorem O139 : One Tryz.prog 139 := ⟨_, Tryz.underlying139, rfl⟩
theorem O21 : One Tryz.prog 21 := ⟨_, Tryz.underlying21, rfl⟩
theorem Z139 : Sz Tryz.prog 139 1 := by unfold Sz; kernel_rfl
theorem J127 : (Tryz.prog.info? 127).bind (·.zero) = some (.nilFunc) := by kernel_rfl
theorem J139 : (Tryz.prog.info? 139).bind (·.zero) = some (.int .u32 0) := by kernel_rfl
theorem wDo1_ct (a : Int) {g0 : Nat} (b : Int) {g1 : Nat} : Tr Tryz.prog 119 #[.pointer (some ⟨g0, 0, none⟩), .pointer (some ⟨g1, 0, none⟩)] [] [bx g0 21 [.int .i32 a], bx g1 21 [.int .i32 b]] (fun _ : Unit => .int .i32 (w32 (a + b))) (fun _ => []) (fun _ _ => [bx g0 21 [.int .i32 a], bx g1 21 [.int .i32 b]]) := by
  refine jenter (args := [.pointer (some ⟨g0, 0, none⟩), .pointer (some ⟨g1, 0, none⟩)]) Tryz.func119 rfl rfl rfl fun w0 X => ?_
  refine jq (jr (ja ζ (jn (jx (jq (jr (js (jl k0 O21 ζ ζ) (js (jl k1 O21 ζ ζ) (js (jaddw ζ ζ) (ja ζ (jn ?_)))))))))))
  refine jx (jrt ?_)
  exact jr1 ζ ζ () (congrArg (Value.int .i32) (Eq.symm (by first | rfl | (simp [shl_prog, shr_prog, sar_prog]; done)))) dn (fun _ _ => (kc k0 (kc k0 kn)))
theorem wDo2_ct (a : Int) {g0 : Nat} (b : Int) {g1 : Nat} : Tr Tryz.prog 120 #[.pointer (some ⟨g0, 0, none⟩), .pointer (some ⟨g1, 0, none⟩)] [] [bx g0 21 [.int .i32 a], bx g1 21 [.int .i32 b]] (fun _ : Unit => .int .i32 (w32 (a - b))) (fun _ => []) (fun _ _ => [bx g0 21 [.int .i32 a], bx g1 21 [.int .i32 b]]) := by
  refine jenter (args := [.pointer (some ⟨g0, 0, none⟩), .pointer (some ⟨g1, 0, none⟩)]) Tryz.func120 rfl rfl rfl fun w0 X => ?_
  refine jq (jr (ja ζ (jn (jx (jq (jr (js (jl k0 O21 ζ ζ) (js (jl k1 O21 ζ ζ) (js (jsubw ζ ζ) (ja ζ (jn ?_)))))))))))
  refine jx (jrt ?_)
  exact jr1 ζ ζ () (congrArg (Value.int .i32) (Eq.symm (by first | rfl | (simp [shl_prog, shr_prog, sar_prog]; done)))) dn (fun _ _ => (kc k0 (kc k0 kn)))
theorem wDo3_ct (a : Int) {g0 : Nat} (b : Int) {g1 : Nat} : Tr Tryz.prog 121 #[.pointer (some ⟨g0, 0, none⟩), .pointer (some ⟨g1, 0, none⟩)] [] [bx g0 21 [.int .i32 a], bx g1 21 [.int .i32 b]] (fun _ : Unit => .int .i32 (w32 (a * b))) (fun _ => []) (fun _ _ => [bx g0 21 [.int .i32 a], bx g1 21 [.int .i32 b]]) := by
  refine jenter (args := [.pointer (some ⟨g0, 0, none⟩), .pointer (some ⟨g1, 0, none⟩)]) Tryz.func121 rfl rfl rfl fun w0 X => ?_
  refine jq (jr (ja ζ (jn (jx (jq (jr (js (jl k0 O21 ζ ζ) (js (jl k1 O21 ζ ζ) (js (jmulw ζ ζ) (ja ζ (jn ?_)))))))))))
  refine jx (jrt ?_)
  exact jr1 ζ ζ () (congrArg (Value.int .i32) (Eq.symm (by first | rfl | (simp [shl_prog, shr_prog, sar_prog]; done)))) dn (fun _ _ => (kc k0 (kc k0 kn)))
theorem wDo4_ct (a : Int) {g0 : Nat} (b : Int) {g1 : Nat} : Tr Tryz.prog 122 #[.pointer (some ⟨g0, 0, none⟩), .pointer (some ⟨g1, 0, none⟩)] [] [bx g0 21 [.int .i32 a], bx g1 21 [.int .i32 b]] (fun _ : Unit => .int .i32 (andI .i32 a b)) (fun _ => []) (fun _ _ => [bx g0 21 [.int .i32 a], bx g1 21 [.int .i32 b]]) := by
  refine jenter (args := [.pointer (some ⟨g0, 0, none⟩), .pointer (some ⟨g1, 0, none⟩)]) Tryz.func122 rfl rfl rfl fun w0 X => ?_
  refine jq (jr (ja ζ (jn (jx (jq (jr (js (jl k0 O21 ζ ζ) (js (jl k1 O21 ζ ζ) (js (jandw ζ ζ) (ja ζ (jn ?_)))))))))))
  refine jx (jrt ?_)
  exact jr1 ζ ζ () (congrArg (Value.int .i32) (Eq.symm (by first | rfl | (simp [shl_prog, shr_prog, sar_prog]; done)))) dn (fun _ _ => (kc k0 (kc k0 kn)))
theorem wDo5_ct (a : Int) {g0 : Nat} (b : Int) {g1 : Nat} : Tr Tryz.prog 123 #[.pointer (some ⟨g0, 0, none⟩), .pointer (some ⟨g1, 0, none⟩)] [] [bx g0 21 [.int .i32 a], bx g1 21 [.int .i32 b]] (fun _ : Unit => .int .i32 (orI .i32 a b)) (fun _ => []) (fun _ _ => [bx g0 21 [.int .i32 a], bx g1 21 [.int .i32 b]]) := by
  refine jenter (args := [.pointer (some ⟨g0, 0, none⟩), .pointer (some ⟨g1, 0, none⟩)]) Tryz.func123 rfl rfl rfl fun w0 X => ?_
  refine jq (jr (ja ζ (jn (jx (jq (jr (js (jl k0 O21 ζ ζ) (js (jl k1 O21 ζ ζ) (js (jorw ζ ζ) (ja ζ (jn ?_)))))))))))
  refine jx (jrt ?_)
  exact jr1 ζ ζ () (congrArg (Value.int .i32) (Eq.symm (by first | rfl | (simp [shl_prog, shr_prog, sar_prog]; done)))) dn (fun _ _ => (kc k0 (kc k0 kn)))
theorem wDo6_ct (a : Int) {g0 : Nat} (b : Int) {g1 : Nat} : Tr Tryz.prog 124 #[.pointer (some ⟨g0, 0, none⟩), .pointer (some ⟨g1, 0, none⟩)] [] [bx g0 21 [.int .i32 a], bx g1 21 [.int .i32 b]] (fun _ : Unit => .int .i32 (xorI .i32 a b)) (fun _ => []) (fun _ _ => [bx g0 21 [.int .i32 a], bx g1 21 [.int .i32 b]]) := by
  refine jenter (args := [.pointer (some ⟨g0, 0, none⟩), .pointer (some ⟨g1, 0, none⟩)]) Tryz.func124 rfl rfl rfl fun w0 X => ?_
  refine jq (jr (ja ζ (jn (jx (jq (jr (js (jl k0 O21 ζ ζ) (js (jl k1 O21 ζ ζ) (js (jxorw ζ ζ) (ja ζ (jn ?_)))))))))))
  refine jx (jrt ?_)
  exact jr1 ζ ζ () (congrArg (Value.int .i32) (Eq.symm (by first | rfl | (simp [shl_prog, shr_prog, sar_prog]; done)))) dn (fun _ _ => (kc k0 (kc k0 kn)))
theorem wDo7_ct (a : Int) {g0 : Nat} (b : Int) {g1 : Nat} : Tr Tryz.prog 125 #[.pointer (some ⟨g0, 0, none⟩), .pointer (some ⟨g1, 0, none⟩)] [] [bx g0 21 [.int .i32 a], bx g1 139 [.int .u32 (Int.tmod (IntKind.u32.wrap b) 32)]] (fun _ : Unit => .int .i32 (shlM a b)) (fun _ => []) (fun _ _ => [bx g0 21 [.int .i32 a], bx g1 139 [.int .u32 (Int.tmod (IntKind.u32.wrap b) 32)]]) := by
  refine jenter (args := [.pointer (some ⟨g0, 0, none⟩), .pointer (some ⟨g1, 0, none⟩)]) Tryz.func125 rfl rfl rfl fun w0 X => ?_
  refine jq (jr (ja ζ (jn (jx (jq (jr (js (jl k0 O21 ζ ζ) (js (jl k1 O139 ζ ζ) (js (jshl ζ ζ (by rw [tmod32]; omega)) (ja ζ (jn ?_)))))))))))
  refine jx (jrt ?_)
  exact jr1 ζ ζ () (congrArg (Value.int .i32) (Eq.symm (by first | rfl | (simp [shl_prog, shr_prog, sar_prog]; done)))) dn (fun _ _ => (kc k0 (kc k0 kn)))
theorem wDo8_ct (a : Int) {g0 : Nat} (b : Int) {g1 : Nat} : Tr Tryz.prog 126 #[.pointer (some ⟨g0, 0, none⟩), .pointer (some ⟨g1, 0, none⟩)] [] [bx g0 21 [.int .i32 a], bx g1 139 [.int .u32 (Int.tmod (IntKind.u32.wrap b) 32)]] (fun _ : Unit => .int .i32 (shrM a b)) (fun _ => []) (fun _ _ => [bx g0 21 [.int .i32 a], bx g1 139 [.int .u32 (Int.tmod (IntKind.u32.wrap b) 32)]]) := by
  refine jenter (args := [.pointer (some ⟨g0, 0, none⟩), .pointer (some ⟨g1, 0, none⟩)]) Tryz.func126 rfl rfl rfl fun w0 X => ?_
  refine jq (jr (ja ζ (jn (jx (jq (jr (js (jl k0 O21 ζ ζ) (js (jco U21 U139 ζ ζ) (js (jl k1 O139 ζ ζ) (js (jshr ζ ζ (by rw [tmod32]; omega)) (js (jco U139 U21 ζ ζ) ?_)))))))))))
  refine ja ζ (jn (jx (jrt ?_)))
  exact jr1 ζ ζ () (congrArg (Value.int .i32) (Eq.symm (by first | rfl | (simp [shl_prog, shr_prog, sar_prog]; done)))) dn (fun _ _ => (kc k0 (kc k0 kn)))
theorem wDo9_ct (a : Int) {g0 : Nat} (b : Int) {g1 : Nat} : Tr Tryz.prog 127 #[.pointer (some ⟨g0, 0, none⟩), .pointer (some ⟨g1, 0, none⟩)] [] [bx g0 21 [.int .i32 a], bx g1 139 [.int .u32 (Int.tmod (IntKind.u32.wrap b) 32)]] (fun _ : Unit => .int .i32 (sarM a b)) (fun _ => []) (fun _ _ => [bx g0 21 [.int .i32 a], bx g1 139 [.int .u32 (Int.tmod (IntKind.u32.wrap b) 32)]]) := by
  refine jenter (args := [.pointer (some ⟨g0, 0, none⟩), .pointer (some ⟨g1, 0, none⟩)]) Tryz.func127 rfl rfl rfl fun w0 X => ?_
  refine jq (jr (ja ζ (jn (jx (jq (jr (js (jl k0 O21 ζ ζ) (js (jl k1 O139 ζ ζ) (js (jshr ζ ζ (by rw [tmod32]; omega)) (ja ζ (jn ?_)))))))))))
  refine jx (jrt ?_)
  exact jr1 ζ ζ () (congrArg (Value.int .i32) (Eq.symm (by first | rfl | (simp [shl_prog, shr_prog, sar_prog]; done)))) dn (fun _ _ => (kc k0 (kc k0 kn)))
theorem wDo10_ct (a : Int) {g0 : Nat} (b : Int) {g1 : Nat} : Tr Tryz.prog 128 #[.pointer (some ⟨g0, 0, none⟩), .pointer (some ⟨g1, 0, none⟩)] [] [bx g0 21 [.int .i32 a], bx g1 21 [.int .i32 b]] (fun _ : Unit => .int .i32 (bitM (decide (a = b)))) (fun _ => []) (fun _ _ => [bx g0 21 [.int .i32 a], bx g1 21 [.int .i32 b]]) := by
  refine jenter (args := [.pointer (some ⟨g0, 0, none⟩), .pointer (some ⟨g1, 0, none⟩)]) Tryz.func128 rfl rfl rfl fun w0 X => ?_
  refine jq (jr (ja ζ (jn (jx (jq (jr (js (jl k0 O21 ζ ζ) (js (jl k1 O21 ζ ζ) (js (jeql ζ ζ) (jcv E129 ζ ζ (wbit_ct (decide (a = b))) dn kn (ja ζ ?_)))))))))))
  refine jn (jx (jrt ?_))
  exact jr1 ζ ζ () (congrArg (Value.int .i32) (Eq.symm (by first | rfl | (simp [shl_prog, shr_prog, sar_prog]; done)))) dn (fun _ _ => (kc k0 (kc k0 kn)))
theorem wDo11_ct (a : Int) {g0 : Nat} (b : Int) {g1 : Nat} : Tr Tryz.prog 130 #[.pointer (some ⟨g0, 0, none⟩), .pointer (some ⟨g1, 0, none⟩)] [] [bx g0 21 [.int .i32 a], bx g1 21 [.int .i32 b]] (fun _ : Unit => .int .i32 (bitM (decide (a < b)))) (fun _ => []) (fun _ _ => [bx g0 21 [.int .i32 a], bx g1 21 [.int .i32 b]]) := by
  refine jenter (args := [.pointer (some ⟨g0, 0, none⟩), .pointer (some ⟨g1, 0, none⟩)]) Tryz.func130 rfl rfl rfl fun w0 X => ?_
  refine jq (jr (ja ζ (jn (jx (jq (jr (js (jl k0 O21 ζ ζ) (js (jl k1 O21 ζ ζ) (js (jlss ζ ζ) (jcv E129 ζ ζ (wbit_ct (decide (a < b))) dn kn (ja ζ ?_)))))))))))
  refine jn (jx (jrt ?_))
  exact jr1 ζ ζ () (congrArg (Value.int .i32) (Eq.symm (by first | rfl | (simp [shl_prog, shr_prog, sar_prog]; done)))) dn (fun _ _ => (kc k0 (kc k0 kn)))
theorem wDo12_ct (a : Int) {g0 : Nat} (b : Int) {g1 : Nat} : Tr Tryz.prog 131 #[.pointer (some ⟨g0, 0, none⟩), .pointer (some ⟨g1, 0, none⟩)] [] [bx g0 21 [.int .i32 a], bx g1 21 [.int .i32 b]] (fun _ : Unit => .int .i32 (bitM (decide (u32 a < u32 b)))) (fun _ => []) (fun _ _ => [bx g0 21 [.int .i32 a], bx g1 21 [.int .i32 b]]) := by
  refine jenter (args := [.pointer (some ⟨g0, 0, none⟩), .pointer (some ⟨g1, 0, none⟩)]) Tryz.func131 rfl rfl rfl fun w0 X => ?_
  refine jq (jr (ja ζ (jn (jx (jq (jr (js (jl k0 O21 ζ ζ) (js (jco U21 U139 ζ ζ) (js (jl k1 O21 ζ ζ) (js (jco U21 U139 ζ ζ) (js (jlss ζ ζ) ?_)))))))))))
  refine jcv E129 ζ ζ (wbit_ct (decide (IntKind.u32.wrap a < IntKind.u32.wrap b))) dn kn (ja ζ (jn (jx (jrt ?_))))
  exact jr1 ζ ζ () (congrArg (Value.int .i32) (Eq.symm (by first | rfl | (simp [shl_prog, shr_prog, sar_prog]; done)))) dn (fun _ _ => (kc k0 (kc k0 kn)))
theorem wDo13_ct (a : Int) {g0 : Nat} (b : Int) {g1 : Nat} (hb : b ≠ 0) : Tr Tryz.prog 132 #[.pointer (some ⟨g0, 0, none⟩), .pointer (some ⟨g1, 0, none⟩)] [] [bx g0 21 [.int .i32 a], bx g1 21 [.int .i32 b]] (fun _ : Unit => .int .i32 (divM a b)) (fun _ => []) (fun _ _ => [bx g0 21 [.int .i32 a], bx g1 21 [.int .i32 b]]) := by
  refine jenter (args := [.pointer (some ⟨g0, 0, none⟩), .pointer (some ⟨g1, 0, none⟩)]) Tryz.func132 rfl rfl rfl fun w0 X => ?_
  refine jq (jr (ja ζ (jn (jx (jq (jr (js (jl k0 O21 ζ ζ) (js (jl k1 O21 ζ ζ) (js (jquo ζ ζ hb) (ja ζ (jn ?_)))))))))))
  refine jx (jrt ?_)
  exact jr1 ζ ζ () (congrArg (Value.int .i32) (Eq.symm (by first | rfl | (simp [shl_prog, shr_prog, sar_prog]; done)))) dn (fun _ _ => (kc k0 (kc k0 kn)))
theorem do_snd {op a b : Int} (h : 2 ≤ op ∧ op ≤ 14) (h2 : op = 14 → ¬ b = 0) : doM op a b = ((doM op a b).1, true) := by
  have hc : op = 2 ∨ op = 3 ∨ op = 4 ∨ op = 5 ∨ op = 6 ∨ op = 7 ∨ op = 8 ∨ op = 9 ∨ op = 10 ∨ op = 11 ∨ op = 12 ∨ op = 13 ∨ op = 14 := by omega
  rcases hc with rfl | rfl | rfl | rfl | rfl | rfl | rfl | rfl | rfl | rfl | rfl | rfl | rfl <;> first | rfl | (simp [doM, h2])
theorem Tr.perm {P : Program} {f : FuncId} {args : Array Value} {D0 : List Dt} {L0 : List Res} {ι : Type} {val : ι → Value} {dr : ι → List Dt} {lr lr' : Nat → ι → List Res} {M : Nat → ι → List Res} (h : Tr P f args D0 L0 val dr lr) (hk : ∀ B i, Tks (lr B i) (lr' B i) (M B i)) : Tr P f args D0 L0 val dr lr' := fun F H a b c =>
  (h F H a b c).mono fun v H' ⟨i, F', h1, h2⟩ => ⟨i, F', h1, fun B hB => by
    have h3 := h2 B hB
    exact ⟨h3.hx, h3.hin, h3.hw, h3.hd, ((hk B i).ok h3.ok).1, fun k hk' => h3.ge k ((hk B i).own (.inl hk'))⟩⟩
section
variable {f : FuncId} {args : Array Value} {R1 R2 R3 : Res} {x y : Int}
theorem wdo_fr0 (h : Tr Tryz.prog f args [] [R1, R2] (fun _ : Unit => .int .i32 x) (fun _ => []) (fun _ _ => [R1, R2])) (e : y = x) : Tr Tryz.prog f args [] [R1, R2, R3] (fun _ : Unit => .int .i32 y) (fun _ => []) (fun _ _ => [R1, R2, R3]) := by
  subst e; exact Tr.fr h (kc k0 (kc k0 kn))
theorem wdo_fr1 (h : Tr Tryz.prog f args [] [R1, R3] (fun _ : Unit => .int .i32 x) (fun _ => []) (fun _ _ => [R1, R3])) (e : y = x) : Tr Tryz.prog f args [] [R1, R2, R3] (fun _ : Unit => .int .i32 y) (fun _ => []) (fun _ _ => [R1, R2, R3]) := by
  subst e; exact Tr.perm (Tr.fr h (kc k0 (kc k1 kn))) (fun _ _ => kc k0 (kc k1 (kc k0 kn)))
end
theorem wtable_ct (a b op : Int) {g4 g5 g8 : Nat} {L : List (Int × Value)}
    (hL : L = [(2, .func (.func 119) #[] #[.pointer (some ⟨g4, 0, none⟩), .pointer (some ⟨g5, 0, none⟩)]), (3, .func (.func 120) #[] #[.pointer (some ⟨g4, 0, none⟩), .pointer (some ⟨g5, 0, none⟩)]), (4, .func (.func 121) #[] #[.pointer (some ⟨g4, 0, none⟩), .pointer (some ⟨g5, 0, none⟩)]), (5, .func (.func 122) #[] #[.pointer (some ⟨g4, 0, none⟩), .pointer (some ⟨g5, 0, none⟩)]), (6, .func (.func 123) #[] #[.pointer (some ⟨g4, 0, none⟩), .pointer (some ⟨g5, 0, none⟩)]), (7, .func (.func 124) #[] #[.pointer (some ⟨g4, 0, none⟩), .pointer (some ⟨g5, 0, none⟩)]), (8, .func (.func 125) #[] #[.pointer (some ⟨g4, 0, none⟩), .pointer (some ⟨g8, 0, none⟩)]), (9, .func (.func 126) #[] #[.pointer (some ⟨g4, 0, none⟩), .pointer (some ⟨g8, 0, none⟩)]), (10, .func (.func 127) #[] #[.pointer (some ⟨g4, 0, none⟩), .pointer (some ⟨g8, 0, none⟩)]), (11, .func (.func 128) #[] #[.pointer (some ⟨g4, 0, none⟩), .pointer (some ⟨g5, 0, none⟩)]), (12, .func (.func 130) #[] #[.pointer (some ⟨g4, 0, none⟩), .pointer (some ⟨g5, 0, none⟩)]), (13, .func (.func 131) #[] #[.pointer (some ⟨g4, 0, none⟩), .pointer (some ⟨g5, 0, none⟩)]), (14, .func (.func 132) #[] #[.pointer (some ⟨g4, 0, none⟩), .pointer (some ⟨g5, 0, none⟩)])] := by rfl) :
    ((lkM L op).getD .nilFunc = .nilFunc ∧ (op < 2 ∨ 14 < op)) ∨ ∃ (f : Nat) (cs : List Value), (lkM L op).getD .nilFunc = .func (.func f) #[] cs.toArray ∧ Ent Tryz.prog f ∧ (2 ≤ op ∧ op ≤ 14) ∧ ((op = 14 → b ≠ 0) → Tr Tryz.prog f cs.toArray [] [bx g4 21 [.int .i32 a], bx g5 21 [.int .i32 b], bx g8 139 [.int .u32 (Int.tmod (IntKind.u32.wrap b) 32)]] (fun _ : Unit => .int .i32 (doM op a b).1) (fun _ => []) (fun _ _ => [bx g4 21 [.int .i32 a], bx g5 21 [.int .i32 b], bx g8 139 [.int .u32 (Int.tmod (IntKind.u32.wrap b) 32)]])) := by
  subst hL
  by_cases ho : 2 ≤ op ∧ op ≤ 14
  · refine .inr ?_
    have hc : op = 2 ∨ op = 3 ∨ op = 4 ∨ op = 5 ∨ op = 6 ∨ op = 7 ∨ op = 8 ∨ op = 9 ∨ op = 10 ∨ op = 11 ∨ op = 12 ∨ op = 13 ∨ op = 14 := by omega
    rcases hc with rfl | rfl | rfl | rfl | rfl | rfl | rfl | rfl | rfl | rfl | rfl | rfl | rfl
    · exact ⟨_, [.pointer (some ⟨g4, 0, none⟩), .pointer (some ⟨g5, 0, none⟩)], rfl, E119, by omega, fun h9 => wdo_fr0 (wDo1_ct a b) rfl⟩
    · exact ⟨_, [.pointer (some ⟨g4, 0, none⟩), .pointer (some ⟨g5, 0, none⟩)], rfl, E120, by omega, fun h9 => wdo_fr0 (wDo2_ct a b) rfl⟩
    · exact ⟨_, [.pointer (some ⟨g4, 0, none⟩), .pointer (some ⟨g5, 0, none⟩)], rfl, E121, by omega, fun h9 => wdo_fr0 (wDo3_ct a b) rfl⟩
    · exact ⟨_, [.pointer (some ⟨g4, 0, none⟩), .pointer (some ⟨g5, 0, none⟩)], rfl, E122, by omega, fun h9 => wdo_fr0 (wDo4_ct a b) rfl⟩
    · exact ⟨_, [.pointer (some ⟨g4, 0, none⟩), .pointer (some ⟨g5, 0, none⟩)], rfl, E123, by omega, fun h9 => wdo_fr0 (wDo5_ct a b) rfl⟩
    · exact ⟨_, [.pointer (some ⟨g4, 0, none⟩), .pointer (some ⟨g5, 0, none⟩)], rfl, E124, by omega, fun h9 => wdo_fr0 (wDo6_ct a b) rfl⟩
    · exact ⟨_, [.pointer (some ⟨g4, 0, none⟩), .pointer (some ⟨g8, 0, none⟩)], rfl, E125, by omega, fun h9 => wdo_fr1 (wDo7_ct a b) rfl⟩
    · exact ⟨_, [.pointer (some ⟨g4, 0, none⟩), .pointer (some ⟨g8, 0, none⟩)], rfl, E126, by omega, fun h9 => wdo_fr1 (wDo8_ct a b) rfl⟩
    · exact ⟨_, [.pointer (some ⟨g4, 0, none⟩), .pointer (some ⟨g8, 0, none⟩)], rfl, E127, by omega, fun h9 => wdo_fr1 (wDo9_ct a b) rfl⟩
    · exact ⟨_, [.pointer (some ⟨g4, 0, none⟩), .pointer (some ⟨g5, 0, none⟩)], rfl, E128, by omega, fun h9 => wdo_fr0 (wDo10_ct a b) rfl⟩
    · exact ⟨_, [.pointer (some ⟨g4, 0, none⟩), .pointer (some ⟨g5, 0, none⟩)], rfl, E130, by omega, fun h9 => wdo_fr0 (wDo11_ct a b) rfl⟩
    · exact ⟨_, [.pointer (some ⟨g4, 0, none⟩), .pointer (some ⟨g5, 0, none⟩)], rfl, E131, by omega, fun h9 => wdo_fr0 (wDo12_ct a b) rfl⟩
    · exact ⟨_, [.pointer (some ⟨g4, 0, none⟩), .pointer (some ⟨g5, 0, none⟩)], rfl, E132, by omega, fun h9 => wdo_fr0 (wDo13_ct a b (h9 rfl)) (by simp [doM, h9 rfl])⟩
  · refine .inl ⟨?_, by omega⟩
    have h1 : ∀ k : Int, 2 ≤ k → k ≤ 14 → (k == op) = false := fun k h2 h3 => by rw [beq_eq_false_iff_ne]; omega
    simp [lkM, List.find?, h1]
theorem wDo_ct (op : Int) (a : Int) (b : Int) : Tv Tryz.prog 71 #[.int .i64 op, .int .i32 a, .int .i32 b] [] [] (.tuple #[.int .i32 ((doM op a b).1), .bool ((doM op a b).2)]) := by
  refine jenter (args := [.int .i64 op, .int .i32 a, .int .i32 b]) Tryz.func71 rfl rfl rfl fun w0 X => ?_
  refine jq (jr (jbox ζ ζ fun g4 => jbox ζ ζ fun g5 => ja ζ (ja ζ (jn (jx (jq (jr (js (jl k0 O21 ζ ζ) (js (jco U21 U139 ζ ζ) ?_)))))))))
  refine js (jrem ζ ζ (by decide)) (jalc J139 ζ fun g8 => jst k0 Z139 ζ ζ ζ s0 (jn (jx (jq (jr (jmm fun g13 => js (jmf2 ζ ζ) (jin U172 U3 k0 ζ ζ ζ ζ (js (jmf2 ζ ζ) (jin U172 U3 k0 ζ ζ ζ ζ ?_)))))))))
  refine js (jmf2 ζ ζ) (jin U172 U3 k0 ζ ζ ζ ζ (js (jmf2 ζ ζ) (jin U172 U3 k0 ζ ζ ζ ζ (js (jmf2 ζ ζ) (jin U172 U3 k0 ζ ζ ζ ζ (js (jmf2 ζ ζ) (jin U172 U3 k0 ζ ζ ζ ζ (js (jmf2 ζ ζ) (jin U172 U3 k0 ζ ζ ζ ζ (js (jmf2 ζ ζ) (jin U172 U3 k0 ζ ζ ζ ζ ?_)))))))))))
  refine js (jmf2 ζ ζ) (jin U172 U3 k0 ζ ζ ζ ζ (js (jmf2 ζ ζ) (jin U172 U3 k0 ζ ζ ζ ζ (js (jmf2 ζ ζ) (jin U172 U3 k0 ζ ζ ζ ζ (js (jmf2 ζ ζ) (jin U172 U3 k0 ζ ζ ζ ζ (js (jmf2 ζ ζ) (jin U172 U3 k0 ζ ζ ζ ζ (jm ζ (jm ζ ?_)))))))))))
  refine jfk (p := fun v => (v = .nilFunc ∧ (op < 2 ∨ 14 < op)) ∨ ∃ (f : Nat) (cs : List Value), v = .func (.func f) #[] cs.toArray ∧ Ent Tryz.prog f ∧ (2 ≤ op ∧ op ≤ 14) ∧ ((op = 14 → b ≠ 0) → Tr Tryz.prog f cs.toArray [] [bx g4 21 [.int .i32 a], bx g5 21 [.int .i32 b], bx g8 139 [.int .u32 (Int.tmod (IntKind.u32.wrap b) 32)]] (fun _ : Unit => .int .i32 (doM op a b).1) (fun _ => []) (fun _ _ => [bx g4 21 [.int .i32 a], bx g5 21 [.int .i32 b], bx g8 139 [.int .u32 (Int.tmod (IntKind.u32.wrap b) 32)]]))) ⟨_, jlk U172 U3 J127 k0 ζ ζ, wtable_ct a b op⟩ ?_
  rintro v29 (⟨rfl, hop⟩ | ⟨f, cs, rfl, hE, hop, hct⟩)
  refine ja ζ (jn (jx (jq (jq (jr (jm ζ (js (jeqlN U127 ζ ζ) (jm ζ (jg ζ ζ (.f _) (fun hg => jmv ζ) (jg ζ ζ (.f _) (fun hg => jeql (evg ζ hg) ζ) (jg ζ ζ (.f _) (fun hg => jmv (evg ζ hg)) ?_)))))))))))
  refine jg ζ ζ (.gt _ _) (fun hg => jl k2 O21 ζ ζ) (jg ζ ζ (.gt _ _) (fun hg => jeql (evg ζ hg) ζ) (jg ζ ζ (.f _) (fun hg => jand2 hg ζ ζ) (js (jor ζ ζ) (jn (jx ?_)))))
  refine jif ζ (fun hc1 => ?_) (fun hc1 => ?_)
  refine jq (jr (ja ζ (ja ζ (jn (jx (jrt (jtr ?_)))))))
  exact jr2 ζ ζ ζ () (tIB (by first | (unfold doM; (repeat rw [if_neg (by omega)]); done) | (simp at hc2; obtain ⟨rfl, rfl⟩ := hc2; rfl) | (simp at hc2; exact do_snd hop (fun h9 => hc2.resolve_left (fun h8 => h8 h9))))) dn (fun _ _ => kn)
  exact absurd hc1 (by simp)
  refine ja ζ (jn (jx (jq (jq (jr (jm ζ (js (jeqlF U127 ζ ζ) (jm ζ (jk ζ ζ (.f _) (jmv ζ) (jk ζ ζ (.f _) (jeql ζ ζ) (jk ζ ζ (.f _) (jmv ζ) ?_)))))))))))
  refine jg ζ ζ (.t _) (fun hg => jl k2 O21 ζ ζ) (jg ζ ζ (.t _) (fun hg => jeql (evg ζ hg) ζ) (jk ζ ζ (.f _) (jand ζ ζ) (js (jor ζ ζ) (jn (jx ?_)))))
  refine jif ζ (fun hc2 => ?_) (fun hc2 => ?_)
  refine jq (jr (ja ζ (ja ζ (jn (jx (jrt (jtr ?_)))))))
  exact jr2 ζ ζ ζ () (tIB (by first | (unfold doM; (repeat rw [if_neg (by omega)]); done) | (simp at hc2; obtain ⟨rfl, rfl⟩ := hc2; rfl) | (simp at hc2; exact do_snd hop (fun h9 => hc2.resolve_left (fun h8 => h8 h9))))) dn (fun _ _ => kn)
  refine jsk (jx (jq (jr (jm ζ (jc hE ζ ζ (hct (by omega)) dn (kc k3 (kc k2 (kc k1 kn))) (fun _ => p0) (fun _ => p3) fun _ => ja ζ (ja ζ (jn (jx (jrt ?_)))))))))
  exact jr2 ζ ζ ζ () (tIB (by first | (unfold doM; (repeat rw [if_neg (by omega)]); done) | (simp at hc2; obtain ⟨rfl, rfl⟩ := hc2; rfl) | (simp at hc2; exact do_snd hop (fun h9 => hc2.resolve_left (fun h8 => h8 h9))))) dn (fun _ _ => kn)
end Go.Proofs.YtdlcjaefkjbonaaGreat
namespace Go.Proofs.YtdlcjaefkjbonaaGreat
set_option linter.unusedVariables false
set_option linter.unusedSimpArgs false
set_option linter.unusedSectionVars false
open Go.JE
abbrev U143 := @Tryz.underlying143
abbrev U22 := @Tryz.underlying22
theorem A91 : ∃ d, Tryz.prog.underlying 91 = some d ∧ (match d with | .struct _ | .array _ _ => true | _ => false) = true := ⟨_, Tryz.underlying91, rfl⟩
theorem E87 : Ent Tryz.prog 87 := ⟨_, Tryz.func87, by kernel_rfl, by kernel_rfl⟩
theorem F46_0 : Fld Tryz.prog 46 0 0 := ⟨_, _, Tryz.underlying46, rfl, rfl, 1, (by unfold Sz; kernel_rfl), by decide⟩
theorem F46_1 : Fld Tryz.prog 46 1 1 := ⟨_, _, Tryz.underlying46, rfl, rfl, 1, (by unfold Sz; kernel_rfl), by decide⟩
theorem F46_2 : Fld Tryz.prog 46 2 2 := ⟨_, _, Tryz.underlying46, rfl, rfl, 1, (by unfold Sz; kernel_rfl), by decide⟩
theorem F46_3 : Fld Tryz.prog 46 3 3 := ⟨_, _, Tryz.underlying46, rfl, rfl, 1, (by unfold Sz; kernel_rfl), by decide⟩
theorem F46_4 : Fld Tryz.prog 46 4 4 := ⟨_, _, Tryz.underlying46, rfl, rfl, 1, (by unfold Sz; kernel_rfl), by decide⟩
theorem F46_5 : Fld Tryz.prog 46 5 5 := ⟨_, _, Tryz.underlying46, rfl, rfl, 1, (by unfold Sz; kernel_rfl), by decide⟩
theorem F46_7 : Fld Tryz.prog 46 7 7 := ⟨_, _, Tryz.underlying46, rfl, rfl, 1, (by unfold Sz; kernel_rfl), by decide⟩
theorem F59_0 : Fld Tryz.prog 59 0 0 := ⟨_, _, Tryz.underlying59, rfl, rfl, 1, (by unfold Sz; kernel_rfl), by decide⟩
theorem F59_1 : Fld Tryz.prog 59 1 1 := ⟨_, _, Tryz.underlying59, rfl, rfl, 1, (by unfold Sz; kernel_rfl), by decide⟩
theorem F59_2 : Fld Tryz.prog 59 2 2 := ⟨_, _, Tryz.underlying59, rfl, rfl, 1, (by unfold Sz; kernel_rfl), by decide⟩
theorem I3 : (Tryz.prog.info? 3).map (fun i => (i.zero, i.size, i.bytes)) = some (some (.int .i64 0), 1, 8) := by kernel_rfl
theorem O22 : One Tryz.prog 22 := ⟨_, Tryz.underlying22, rfl⟩
theorem O3 : One Tryz.prog 3 := ⟨_, Tryz.underlying3, rfl⟩
theorem Z3 : Sz Tryz.prog 3 1 := by unfold Sz; kernel_rfl
theorem Z91 : Sz Tryz.prog 91 2 := by unfold Sz; kernel_rfl
theorem J91 : (Tryz.prog.info? 91).bind (·.zero) = some (.agg #[.nilFunc, .nilFunc]) := by kernel_rfl
def takesM (i : D.Mach) : List Int :=
  if i.Op = 1 ∨ 18 ≤ i.Op ∧ i.Op ≤ 22 ∨ i.Op = 24 ∨ i.Op = 31 then [i.A]
  else if i.Op = 2 ∨ 5 ≤ i.Op ∧ i.Op ≤ 17 ∨ i.Op = 25 ∨ i.Op = 26 ∨ i.Op = 29 then [i.A, i.B]
  else if i.Op = 23 ∨ i.Op = 27 then [i.A, i.B, i.C]
  else if i.Op = 28 then i.Args
  else []
def makesM (i : D.Mach) : List Int :=
  if i.Op = 2 then [i.A, i.B]
  else if i.Op = 29 then [i.D, i.E]
  else if i.Op = 26 ∨ i.Op = 27 ∨ i.Op = 31 ∨ i.Op < 1 ∨ 31 < i.Op then []
  else [i.D]
def needsM (e : D.End) : List Int :=
  if e.Op = 2 ∨ e.Op = 6 ∨ e.Op = 7 ∧ 0 ≤ e.A then [e.A]
  else if e.Op = 3 ∨ e.Op = 4 ∨ e.Op = 5 then [e.A, e.B]
  else []
def regM : List Int → Bool
  | [] => true
  | x :: l => if x < 0 ∨ 8192 ≤ x then false else regM l
theorem rReg_ct {a0 : Value} {l : List Int} {N0 : Nat} : Tv Tryz.prog 141 #[a0] [dv (rLn N0 (rI .i64)) a0 l] [] (.bool (regM l)) := by
  refine jenter (args := [a0]) Tryz.func141 rfl rfl rfl fun w0 X => ?_
  refine jq (jr (ja ζ (jn (jx (jq (jq (jr (ja ζ (jn (jx (jb ?_)))))))))))
  refine jlp (fun (k : Nat) => ⟨k ≤ l.length ∧ regM l = regM (l.drop k), [dv (rLn N0 (rI .i64)) a0 l], [], [(0, a0), (3, .int .i64 (↑k))], l.length - k⟩) 0 ⟨by omega, rfl⟩ (dc d0 dn) kn ⟨ζ, eqI (by omega), trivial⟩ ?_
  rintro k; dsimp only; rintro ⟨hk, hR⟩
  refine jq (jq (jr (jm ζ (jm ζ (jdq d0 fun q1 w1 => js (jln U22 d0 ζ) (js (jlss ζ ζ) (jn (jx ?_))))))))
  refine jif ζ (fun hc1 => ?_) (fun hc1 => ?_)
  refine jsk (jx (jq (jb (jq (jr (jm ζ (jm ζ (js (jix U22 Z3 d0 ζ ζ ζ (by omega)) (js (jlI (dix d0 k (by omega)) O3 ζ) (js (jlss ζ ζ) (jm ζ ?_)))))))))))
  refine jg ζ ζ (.f _) (fun hg => jmv ζ) (jg ζ ζ (.f _) (fun hg => jmv ζ) (jg ζ ζ (.f _) (fun hg => jix U22 Z3 d0 (evg ζ hg) (evg ζ hg) ζ (by first | omega | (simp at hg; omega) | (simp only [List.length_set]; omega))) (jg ζ ζ (.f _) (fun hg => jlI (dix d0 k (by first | omega | (simp at hg; omega) | (simp only [List.length_set]; omega))) O3 (evg ζ hg)) (jg ζ ζ (.f _) (fun hg => jgeq (evg ζ hg) ζ) (js (jor ζ ζ) (jn (jx ?_)))))))
  refine jif ζ (fun hc2 => ?_) (fun hc2 => ?_)
  refine jq (jr (ja ζ (jn (jx (jrt (jbr (jtr (jtr (jbr (jtr ?_))))))))))
  exact jrB ζ ζ (by first | (rw [hR, drop_ix (l := l) (i := k) (by omega)]; simp [regM, hc1, hc2]; done) | (rw [hR, List.drop_of_length_le (by omega)]; simp [regM, hc1, hc2]; done) | (simp [regM, hc1, hc2]; done) | (unfold regM; (repeat' split) <;> first | rfl | (exfalso; omega) | (simp [regM, hc1, hc2]; done)))
  refine jsk (jbn (jx (jr (jm ζ (js (jadd ζ ζ (by omega)) (ja ζ (jn ?_)))))))
  exact jag (k + 1) ⟨by omega, by first | (rw [hR, drop_ix (l := l) (i := k) (by omega)]; simp [regM, hc1, hc2]; done) | (rw [hR, List.drop_of_length_le (by omega)]; simp [regM, hc1, hc2]; done) | (simp [regM, hc1, hc2]; done) | (unfold regM; (repeat' split) <;> first | rfl | (exfalso; omega) | (simp [regM, hc1, hc2]; done))⟩ (dc d0 dn) kn ⟨ζ, eqI (by omega), trivial⟩
  refine jex (jtx (jtx (jbh (jx (jq (jr (ja ζ (jn (jx (jrt ?_))))))))))
  exact jrB ζ ζ (by first | (rw [hR, drop_ix (l := l) (i := k) (by omega)]; simp [regM, hc1]; done) | (rw [hR, List.drop_of_length_le (by omega)]; simp [regM, hc1]; done) | (simp [regM, hc1]; done) | (unfold regM; (repeat' split) <;> first | rfl | (exfalso; omega) | (simp [regM, hc1]; done)))
theorem rTakes_ct {a0 : Value} {i : D.Mach} : Td Tryz.prog 143 #[vMach i a0] [da rMach (vMach i a0) i] [] (rL (rI .i64)) (takesM i) := by
  refine jenter (args := [vMach i a0]) Tryz.func143 rfl rfl rfl fun w0 X => ?_
  refine jq (jr (jbox ζ ζ fun g1 => ja ζ (jn (jx (jq (jb (jq (jr (js (jf F46_0 ζ) (js (jl k0 O3 ζ ζ) ?_))))))))))
  refine js (jeql ζ ζ) (jm ζ (jg ζ ζ (.f _) (fun hg => jf F46_0 ζ) (jg ζ ζ (.f _) (fun hg => jl k0 O3 (evg ζ hg) ζ) (jg ζ ζ (.f _) (fun hg => jgeq (evg ζ hg) ζ) (jg ζ ζ (.f _) (fun hg => jmv (evg ζ hg)) (jg ζ ζ (.gt _ _) (fun hg => jf F46_0 ζ) (jg ζ ζ (.gt _ _) (fun hg => jl k0 O3 (evg ζ hg) ζ) (jg ζ ζ (.gt _ _) (fun hg => jleq (evg ζ hg) ζ) (jg ζ ζ (.f _) (fun hg => jand2 hg ζ ζ) (js (jor ζ ζ) (jm ζ ?_)))))))))))
  refine jg ζ ζ (.f _) (fun hg => jf F46_0 ζ) (jg ζ ζ (.f _) (fun hg => jl k0 O3 (evg ζ hg) ζ) (jg ζ ζ (.f _) (fun hg => jeql (evg ζ hg) ζ) (js (jor ζ ζ) (jm ζ (jg ζ ζ (.f _) (fun hg => jf F46_0 ζ) (jg ζ ζ (.f _) (fun hg => jl k0 O3 (evg ζ hg) ζ) (jg ζ ζ (.f _) (fun hg => jeql (evg ζ hg) ζ) (js (jor ζ ζ) (ja ζ (jn (jx ?_)))))))))))
  refine jif ζ (fun hc1 => ?_) (fun hc1 => ?_)
  refine jq (jr (js (jf F46_3 ζ) (js (jl k0 O3 ζ ζ) (jlit (r := (rI .i64)) (l := [i.A]) U22 I3 (by decide) ζ ζ ζ (lV ζ ζ (wI (rMach.W_A d0)) ln) fun g29 => ja ζ (jn (jx (jrt (jbr (jtr (qfz k0 (by (try simp) <;> omega) ?_))))))))))
  exact jrD ζ ζ (by first | (simp [takesM, hc1]; done) | (unfold takesM; (repeat' split) <;> first | rfl | (exfalso; omega) | (simp [takesM, hc1]; done))) d0
  refine jq (jr (js (jf F46_0 ζ) (js (jl k0 O3 ζ ζ) (js (jeql ζ ζ) (jm ζ (jg ζ ζ (.f _) (fun hg => jf F46_0 ζ) (jg ζ ζ (.f _) (fun hg => jl k0 O3 (evg ζ hg) ζ) (jg ζ ζ (.f _) (fun hg => jgeq (evg ζ hg) ζ) (jg ζ ζ (.f _) (fun hg => jmv (evg ζ hg)) (jg ζ ζ (.gt _ _) (fun hg => jf F46_0 ζ) (jg ζ ζ (.gt _ _) (fun hg => jl k0 O3 (evg ζ hg) ζ) ?_)))))))))))
  refine jg ζ ζ (.gt _ _) (fun hg => jleq (evg ζ hg) ζ) (jg ζ ζ (.f _) (fun hg => jand2 hg ζ ζ) (js (jor ζ ζ) (jm ζ (jg ζ ζ (.f _) (fun hg => jf F46_0 ζ) (jg ζ ζ (.f _) (fun hg => jl k0 O3 (evg ζ hg) ζ) (jg ζ ζ (.f _) (fun hg => jeql (evg ζ hg) ζ) (js (jor ζ ζ) (jm ζ (jg ζ ζ (.f _) (fun hg => jf F46_0 ζ) (jg ζ ζ (.f _) (fun hg => jl k0 O3 (evg ζ hg) ζ) (jg ζ ζ (.f _) (fun hg => jeql (evg ζ hg) ζ) ?_)))))))))))
  refine js (jor ζ ζ) (jm ζ (jg ζ ζ (.f _) (fun hg => jf F46_0 ζ) (jg ζ ζ (.f _) (fun hg => jl k0 O3 (evg ζ hg) ζ) (jg ζ ζ (.f _) (fun hg => jeql (evg ζ hg) ζ) (js (jor ζ ζ) (ja ζ (jn (jx ?_))))))))
  refine jif ζ (fun hc2 => ?_) (fun hc2 => ?_)
  refine jq (jr (js (jf F46_3 ζ) (js (jl k0 O3 ζ ζ) (js (jf F46_4 ζ) (js (jl k0 O3 ζ ζ) (jlit (r := (rI .i64)) (l := [i.A, i.B]) U22 I3 (by decide) ζ ζ ζ (lV ζ ζ (wI (rMach.W_A d0)) (lV ζ ζ (wI (rMach.W_B d0)) ln)) fun g63 => ja ζ (jn (jx (jrt (jbr ?_))))))))))
  refine jtr (qfz k0 (by (try simp) <;> omega) ?_)
  exact jrD ζ ζ (by first | (simp [takesM, hc1, hc2]; done) | (unfold takesM; (repeat' split) <;> first | rfl | (exfalso; omega) | (simp [takesM, hc1, hc2]; done))) d0
  refine jq (jr (js (jf F46_0 ζ) (js (jl k0 O3 ζ ζ) (js (jeql ζ ζ) (jm ζ (jg ζ ζ (.f _) (fun hg => jf F46_0 ζ) (jg ζ ζ (.f _) (fun hg => jl k0 O3 (evg ζ hg) ζ) (jg ζ ζ (.f _) (fun hg => jeql (evg ζ hg) ζ) (js (jor ζ ζ) (ja ζ (jn ?_)))))))))))
  refine jx ?_
  refine jif ζ (fun hc3 => ?_) (fun hc3 => ?_)
  refine jq (jr (js (jf F46_3 ζ) (js (jl k0 O3 ζ ζ) (js (jf F46_4 ζ) (js (jl k0 O3 ζ ζ) (js (jf F46_5 ζ) (js (jl k0 O3 ζ ζ) (jlit (r := (rI .i64)) (l := [i.A, i.B, i.C]) U22 I3 (by decide) ζ ζ ζ (lV ζ ζ (wI (rMach.W_A d0)) (lV ζ ζ (wI (rMach.W_B d0)) (lV ζ ζ (wI (rMach.W_C d0)) ln))) fun g79 => ja ζ (jn (jx ?_))))))))))
  refine jrt (jbr (jtr (qfz k0 (by (try simp) <;> omega) ?_)))
  exact jrD ζ ζ (by first | (simp [takesM, hc1, hc2, hc3]; done) | (unfold takesM; (repeat' split) <;> first | rfl | (exfalso; omega) | (simp [takesM, hc1, hc2, hc3]; done))) d0
  refine jq (jr (js (jf F46_0 ζ) (js (jl k0 O3 ζ ζ) (js (jeql ζ ζ) (ja ζ (jn (jx ?_)))))))
  refine jif ζ (fun hc4 => ?_) (fun hc4 => ?_)
  refine jq (jr (jlit (r := (rI .i64)) (l := []) U22 I3 (by decide) ζ ζ ζ ln fun g84 => js (jf F46_7 ζ) (js (jl k1 O22 ζ ζ) (jdq (rMach.c_Args d0) fun q4 w4 => japlz U22 I3 (by decide) ζ k0 ζ ζ (rMach.c_Args d0) (by omega) fun v87 w5 => ja ζ (jn (jx (jrt (jbr ?_))))))))
  refine jtr (qfz k0 (by omega) ?_)
  exact jrD ζ ζ (by first | (simp [takesM, hc1, hc2, hc3, hc4]; done) | (unfold takesM; (repeat' split) <;> first | rfl | (exfalso; omega) | (simp [takesM, hc1, hc2, hc3, hc4]; done))) d0
  refine jsk (jbn (jx (jq (jr (ja ζ (jn (jx (jrt ?_))))))))
  exact jrD ζ ζ (by first | (simp [takesM, hc1, hc2, hc3, hc4]; done) | (unfold takesM; (repeat' split) <;> first | rfl | (exfalso; omega) | (simp [takesM, hc1, hc2, hc3, hc4]; done))) wN
theorem rMakes_ct {a0 : Value} {i : D.Mach} : Td Tryz.prog 142 #[vMach i a0] [da rMach (vMach i a0) i] [] (rL (rI .i64)) (makesM i) := by
  refine jenter (args := [vMach i a0]) Tryz.func142 rfl rfl rfl fun w0 X => ?_
  refine jq (jr (jbox ζ ζ fun g1 => ja ζ (jn (jx (jq (jb (jq (jr (js (jf F46_0 ζ) (js (jl k0 O3 ζ ζ) ?_))))))))))
  refine js (jeql ζ ζ) (ja ζ (jn (jx ?_)))
  refine jif ζ (fun hc1 => ?_) (fun hc1 => ?_)
  refine jq (jr (js (jf F46_3 ζ) (js (jl k0 O3 ζ ζ) (js (jf F46_4 ζ) (js (jl k0 O3 ζ ζ) (jlit (r := (rI .i64)) (l := [i.A, i.B]) U22 I3 (by decide) ζ ζ ζ (lV ζ ζ (wI (rMach.W_A d0)) (lV ζ ζ (wI (rMach.W_B d0)) ln)) fun g11 => ja ζ (jn (jx (jrt (jbr ?_))))))))))
  refine jtr (qfz k0 (by (try simp) <;> omega) ?_)
  exact jrD ζ ζ (by first | (simp [makesM, hc1]; done) | (unfold makesM; (repeat' split) <;> first | rfl | (exfalso; omega) | (simp [makesM, hc1]; done))) d0
  refine jq (jr (js (jf F46_0 ζ) (js (jl k0 O3 ζ ζ) (js (jeql ζ ζ) (ja ζ (jn (jx ?_)))))))
  refine jif ζ (fun hc2 => ?_) (fun hc2 => ?_)
  refine jq (jr (js (jf F46_1 ζ) (js (jl k0 O3 ζ ζ) (js (jf F46_2 ζ) (js (jl k0 O3 ζ ζ) (jlit (r := (rI .i64)) (l := [i.D, i.E]) U22 I3 (by decide) ζ ζ ζ (lV ζ ζ (wI (rMach.W_D d0)) (lV ζ ζ (wI (rMach.W_E d0)) ln)) fun g20 => ja ζ (jn (jx (jrt (jbr ?_))))))))))
  refine jtr (qfz k0 (by (try simp) <;> omega) ?_)
  exact jrD ζ ζ (by first | (simp [makesM, hc1, hc2]; done) | (unfold makesM; (repeat' split) <;> first | rfl | (exfalso; omega) | (simp [makesM, hc1, hc2]; done))) d0
  refine jq (jr (js (jf F46_0 ζ) (js (jl k0 O3 ζ ζ) (js (jeql ζ ζ) (jm ζ (jg ζ ζ (.f _) (fun hg => jf F46_0 ζ) (jg ζ ζ (.f _) (fun hg => jl k0 O3 (evg ζ hg) ζ) (jg ζ ζ (.f _) (fun hg => jeql (evg ζ hg) ζ) (js (jor ζ ζ) (jm ζ (jg ζ ζ (.f _) (fun hg => jf F46_0 ζ) ?_)))))))))))
  refine jg ζ ζ (.f _) (fun hg => jl k0 O3 (evg ζ hg) ζ) (jg ζ ζ (.f _) (fun hg => jeql (evg ζ hg) ζ) (js (jor ζ ζ) (jm ζ (jg ζ ζ (.f _) (fun hg => jf F46_0 ζ) (jg ζ ζ (.f _) (fun hg => jl k0 O3 (evg ζ hg) ζ) (jg ζ ζ (.f _) (fun hg => jlss (evg ζ hg) ζ) (js (jor ζ ζ) (jm ζ (jg ζ ζ (.f _) (fun hg => jf F46_0 ζ) (jg ζ ζ (.f _) (fun hg => jl k0 O3 (evg ζ hg) ζ) (jg ζ ζ (.f _) (fun hg => jgtr (evg ζ hg) ζ) ?_)))))))))))
  refine js (jor ζ ζ) (ja ζ (jn (jx ?_)))
  refine jif ζ (fun hc3 => ?_) (fun hc3 => ?_)
  refine jq (jr (ja ζ (jn (jx (jrt (jbr (jtr ?_)))))))
  exact jrD ζ ζ (by first | (simp [makesM, hc1, hc2, hc3]; done) | (unfold makesM; (repeat' split) <;> first | rfl | (exfalso; omega) | (simp [makesM, hc1, hc2, hc3]; done))) wN
  refine jsk (jbn (jx (jq (jr (js (jf F46_1 ζ) (js (jl k0 O3 ζ ζ) (jlit (r := (rI .i64)) (l := [i.D]) U22 I3 (by decide) ζ ζ ζ (lV ζ ζ (wI (rMach.W_D d0)) ln) fun g47 => ja ζ (jn (jx (jrt ?_))))))))))
  refine qfz k0 (by (try simp) <;> omega) ?_
  exact jrD ζ ζ (by first | (simp [makesM, hc1, hc2, hc3]; done) | (unfold makesM; (repeat' split) <;> first | rfl | (exfalso; omega) | (simp [makesM, hc1, hc2, hc3]; done))) d0
theorem rNeeds_ct {a0 : Value} {e : D.End} : Td Tryz.prog 146 #[vEnd e a0] [da rEnd (vEnd e a0) e] [] (rL (rI .i64)) (needsM e) := by
  refine jenter (args := [vEnd e a0]) Tryz.func146 rfl rfl rfl fun w0 X => ?_
  refine jq (jr (jbox ζ ζ fun g1 => ja ζ (jn (jx (jq (jq (jr (js (jf F59_0 ζ) (js (jl k0 O3 ζ ζ) (jn ?_))))))))))
  refine jx (jb (jq (jq (jr (js (jeql ζ ζ) (ja ζ (jn (jx ?_))))))))
  refine jif ζ (fun hc1 => ?_) (fun hc1 => ?_)
  refine jsk (jx ?_)
  refine jif ζ (fun hc2 => ?_) (fun hc2 => ?_)
  refine jq (jr (js (jf F59_1 ζ) (js (jl k0 O3 ζ ζ) (jlit (r := (rI .i64)) (l := [e.A]) U22 I3 (by decide) ζ ζ ζ (lV ζ ζ (wI (rEnd.W_A d0)) ln) fun g10 => ja ζ (jn (jx (jrt (jbr (jtr (qfz k0 (by (try simp) <;> omega) ?_))))))))))
  exact jrD ζ ζ (by first | (simp [needsM, hc1, hc2]; done) | (unfold needsM; (repeat' split) <;> first | rfl | (exfalso; omega) | (simp [needsM, hc1, hc2]; done))) d0
  exact absurd hc2 (by simp [hc1])
  refine jr (js (jeql ζ ζ) (ja ζ (jn (jx ?_))))
  refine jif ζ (fun hc3 => ?_) (fun hc3 => ?_)
  refine jq (jr (js (jf F59_1 ζ) (js (jl k0 O3 ζ ζ) (jlit (r := (rI .i64)) (l := [e.A]) U22 I3 (by decide) ζ ζ ζ (lV ζ ζ (wI (rEnd.W_A d0)) ln) fun g10_2 => ja ζ (jn (jx (jrt (jbr (jtr (qfz k0 (by (try simp) <;> omega) ?_))))))))))
  exact jrD ζ ζ (by first | (simp [needsM, hc1, hc3]; done) | (unfold needsM; (repeat' split) <;> first | rfl | (exfalso; omega) | (simp [needsM, hc1, hc3]; done))) d0
  refine jq (jq (jr (js (jeql ζ ζ) (ja ζ (jn (jx ?_))))))
  refine jif ζ (fun hc4 => ?_) (fun hc4 => ?_)
  refine jsk (jx ?_)
  refine jif ζ (fun hc5 => ?_) (fun hc5 => ?_)
  refine jq (jr (js (jf F59_1 ζ) (js (jl k0 O3 ζ ζ) (js (jf F59_2 ζ) (js (jl k0 O3 ζ ζ) (jlit (r := (rI .i64)) (l := [e.A, e.B]) U22 I3 (by decide) ζ ζ ζ (lV ζ ζ (wI (rEnd.W_A d0)) (lV ζ ζ (wI (rEnd.W_B d0)) ln)) fun g19 => ja ζ (jn (jx (jrt (jbr ?_))))))))))
  refine jtr (qfz k0 (by (try simp) <;> omega) ?_)
  exact jrD ζ ζ (by first | (simp [needsM, hc1, hc3, hc4, hc5]; done) | (unfold needsM; (repeat' split) <;> first | rfl | (exfalso; omega) | (simp [needsM, hc1, hc3, hc4, hc5]; done))) d0
  exact absurd hc5 (by simp [hc1, hc3, hc4])
  refine jq (jr (js (jeql ζ ζ) (ja ζ (jn (jx ?_)))))
  refine jif ζ (fun hc6 => ?_) (fun hc6 => ?_)
  refine jsk (jx ?_)
  refine jif ζ (fun hc7 => ?_) (fun hc7 => ?_)
  refine jq (jr (js (jf F59_1 ζ) (js (jl k0 O3 ζ ζ) (js (jf F59_2 ζ) (js (jl k0 O3 ζ ζ) (jlit (r := (rI .i64)) (l := [e.A, e.B]) U22 I3 (by decide) ζ ζ ζ (lV ζ ζ (wI (rEnd.W_A d0)) (lV ζ ζ (wI (rEnd.W_B d0)) ln)) fun g19_5 => ja ζ (jn (jx (jrt (jbr ?_))))))))))
  refine jtr (qfz k0 (by (try simp) <;> omega) ?_)
  exact jrD ζ ζ (by first | (simp [needsM, hc1, hc3, hc4, hc6, hc7]; done) | (unfold needsM; (repeat' split) <;> first | rfl | (exfalso; omega) | (simp [needsM, hc1, hc3, hc4, hc6, hc7]; done))) d0
  exact absurd hc7 (by simp [hc1, hc3, hc4, hc6])
  refine jr (js (jeql ζ ζ) (ja ζ (jn (jx ?_))))
  refine jif ζ (fun hc8 => ?_) (fun hc8 => ?_)
  refine jq (jr (js (jf F59_1 ζ) (js (jl k0 O3 ζ ζ) (js (jf F59_2 ζ) (js (jl k0 O3 ζ ζ) (jlit (r := (rI .i64)) (l := [e.A, e.B]) U22 I3 (by decide) ζ ζ ζ (lV ζ ζ (wI (rEnd.W_A d0)) (lV ζ ζ (wI (rEnd.W_B d0)) ln)) fun g19_7 => ja ζ (jn (jx (jrt (jbr ?_))))))))))
  refine jtr (qfz k0 (by (try simp) <;> omega) ?_)
  exact jrD ζ ζ (by first | (simp [needsM, hc1, hc3, hc4, hc6, hc8]; done) | (unfold needsM; (repeat' split) <;> first | rfl | (exfalso; omega) | (simp [needsM, hc1, hc3, hc4, hc6, hc8]; done))) d0
  refine jq (jr (js (jeql ζ ζ) (ja ζ (jn (jx ?_)))))
  refine jif ζ (fun hc9 => ?_) (fun hc9 => ?_)
  refine jq (jr (js (jf F59_1 ζ) (js (jl k0 O3 ζ ζ) (js (jgeq ζ ζ) (jn (jx ?_))))))
  refine jif ζ (fun hc10 => ?_) (fun hc10 => ?_)
  refine jq (jr (js (jf F59_1 ζ) (js (jl k0 O3 ζ ζ) (jlit (r := (rI .i64)) (l := [e.A]) U22 I3 (by decide) ζ ζ ζ (lV ζ ζ (wI (rEnd.W_A d0)) ln) fun g27 => ja ζ (jn (jx (jrt (jbr (jtr (qfz k0 (by (try simp) <;> omega) ?_))))))))))
  exact jrD ζ ζ (by first | (simp [needsM, hc1, hc3, hc4, hc6, hc8, hc9, hc10]; done) | (unfold needsM; (repeat' split) <;> first | rfl | (exfalso; omega) | (simp [needsM, hc1, hc3, hc4, hc6, hc8, hc9, hc10]; done))) d0
  refine jsk (jbn (jx (jq (jr (ja ζ (jn (jx (jrt ?_))))))))
  exact jrD ζ ζ (by first | (simp [needsM, hc1, hc3, hc4, hc6, hc8, hc9, hc10]; done) | (unfold needsM; (repeat' split) <;> first | rfl | (exfalso; omega) | (simp [needsM, hc1, hc3, hc4, hc6, hc8, hc9, hc10]; done))) wN
  refine jsk (jbn (jx (jq (jr (ja ζ (jn (jx (jrt ?_))))))))
  exact jrD ζ ζ (by first | (simp [needsM, hc1, hc3, hc4, hc6, hc8, hc9]; done) | (unfold needsM; (repeat' split) <;> first | rfl | (exfalso; omega) | (simp [needsM, hc1, hc3, hc4, hc6, hc8, hc9]; done))) wN
theorem pNeeds_ct {a0 : Value} {e : D.End} : Td Tryz.prog 98 #[vEnd e a0] [da rEnd (vEnd e a0) e] [] (rL (rI .i64)) (needsM e) := by
  refine jenter (args := [vEnd e a0]) Tryz.func98 rfl rfl rfl fun w0 X => ?_
  refine jq (jr (jbox ζ ζ fun g1 => ja ζ (jn (jx (jq (jb (jq (jr (js (jf F59_0 ζ) (js (jl k0 O3 ζ ζ) ?_))))))))))
  refine js (jeql ζ ζ) (jm ζ (jg ζ ζ (.f _) (fun hg => jf F59_0 ζ) (jg ζ ζ (.f _) (fun hg => jl k0 O3 (evg ζ hg) ζ) (jg ζ ζ (.f _) (fun hg => jeql (evg ζ hg) ζ) (js (jor ζ ζ) (jm ζ (jg ζ ζ (.f _) (fun hg => jf F59_0 ζ) (jg ζ ζ (.f _) (fun hg => jl k0 O3 (evg ζ hg) ζ) (jg ζ ζ (.f _) (fun hg => jeql (evg ζ hg) ζ) (jg ζ ζ (.f _) (fun hg => jmv (evg ζ hg)) (jg ζ ζ (.gt _ _) (fun hg => jf F59_1 ζ) ?_)))))))))))
  refine jg ζ ζ (.gt _ _) (fun hg => jl k0 O3 (evg ζ hg) ζ) (jg ζ ζ (.gt _ _) (fun hg => jgeq (evg ζ hg) ζ) (jg ζ ζ (.f _) (fun hg => jand2 hg ζ ζ) (js (jor ζ ζ) (ja ζ (jn (jx ?_))))))
  refine jif ζ (fun hc1 => ?_) (fun hc1 => ?_)
  refine jq (jr (js (jf F59_1 ζ) (js (jl k0 O3 ζ ζ) (jlit (r := (rI .i64)) (l := [e.A]) U22 I3 (by decide) ζ ζ ζ (lV ζ ζ (wI (rEnd.W_A d0)) ln) fun g24 => ja ζ (jn (jx (jrt (jbr (jtr (qfz k0 (by (try simp) <;> omega) ?_))))))))))
  exact jrD ζ ζ (by first | (simp [needsM, hc1]; done) | (unfold needsM; (repeat' split) <;> first | rfl | (exfalso; omega) | (simp [needsM, hc1]; done))) d0
  refine jq (jr (js (jf F59_0 ζ) (js (jl k0 O3 ζ ζ) (js (jgeq ζ ζ) (jm ζ (jg ζ ζ (.t _) (fun hg => jf F59_0 ζ) (jg ζ ζ (.t _) (fun hg => jl k0 O3 (evg ζ hg) ζ) (jg ζ ζ (.t _) (fun hg => jleq (evg ζ hg) ζ) (js (jand ζ ζ) (ja ζ (jn ?_)))))))))))
  refine jx ?_
  refine jif ζ (fun hc2 => ?_) (fun hc2 => ?_)
  refine jq (jr (js (jf F59_1 ζ) (js (jl k0 O3 ζ ζ) (js (jf F59_2 ζ) (js (jl k0 O3 ζ ζ) (jlit (r := (rI .i64)) (l := [e.A, e.B]) U22 I3 (by decide) ζ ζ ζ (lV ζ ζ (wI (rEnd.W_A d0)) (lV ζ ζ (wI (rEnd.W_B d0)) ln)) fun g38 => ja ζ (jn (jx (jrt (jbr ?_))))))))))
  refine jtr (qfz k0 (by (try simp) <;> omega) ?_)
  exact jrD ζ ζ (by first | (simp [needsM, hc1, hc2]; done) | (unfold needsM; (repeat' split) <;> first | rfl | (exfalso; omega) | (simp [needsM, hc1, hc2]; done))) d0
  refine jsk (jbn (jx (jq (jr (ja ζ (jn (jx (jrt ?_))))))))
  exact jrD ζ ζ (by first | (simp [needsM, hc1, hc2]; done) | (unfold needsM; (repeat' split) <;> first | rfl | (exfalso; omega) | (simp [needsM, hc1, hc2]; done))) wN
theorem clone_ct {a0 : Value} {l : List Int} : Tg Tryz.prog 87 #[a0] [dv (rL (rI .i64)) a0 l] [] (rI .i64) 3 l := by
  refine jenter (args := [a0]) Tryz.func87 rfl rfl rfl fun w0 X => ?_
  refine jq (jr (ja ζ (jn (jx (jq (jq (jr (jm ζ (jeb (jeqlNil U22 d0 ζ ζ) fun b4 hnil4 => jn (jx ?_))))))))))
  refine jif ζ (fun hc1 => ?_) (fun hc1 => ?_)
  refine jq (jr (ja ζ (jn (jx (jrt (jtr (qnl (r := (rI .i64)) (E := 3) ?_)))))))
  exact jrG ζ ζ (by first | rfl | exact hnil4 hc1) k0
  refine jsk (jx (jq (jr (jlit (r := (rI .i64)) (l := []) U22 I3 (by decide) ζ ζ ζ ln fun g5 => jm ζ (jdq d0 fun q2 w2 => japlz U22 I3 (by decide) ζ k0 ζ ζ d0 (by omega) fun v7 w3 => ja ζ (jn (jx (jrt ?_))))))))
  exact jrG ζ ζ (by first | rfl | exact hnil4 hc1) k0
def km1 (_ : D.Mach) : List Int := []
def km2 (i : D.Mach) : List Int := [i.D]
def km3 (i : D.Mach) : List Int := [i.A]
def km4 (i : D.Mach) : List Int := [i.A, i.B]
def km5 (i : D.Mach) : List Int := [i.A, i.B, i.C]
def km6 (i : D.Mach) : List Int := i.Args
def km7 (i : D.Mach) : List Int := [i.D, i.E]
theorem kind1_ct {a0 : Value} {i : D.Mach} : Td Tryz.prog 81 #[vMach i a0] [da rMach (vMach i a0) i] [] (rL (rI .i64)) (km1 i) := by
  refine jenter (args := [vMach i a0]) Tryz.func81 rfl rfl rfl fun w0 X => ?_
  refine jq (jr (jbox ζ ζ fun g1 => ja ζ (jn (jx (jq (jr (ja ζ (jn (jx (jrt ?_))))))))))
  exact jrD ζ ζ (by rfl) wN
theorem kind2_ct {a0 : Value} {i : D.Mach} : Td Tryz.prog 82 #[vMach i a0] [da rMach (vMach i a0) i] [] (rL (rI .i64)) (km2 i) := by
  refine jenter (args := [vMach i a0]) Tryz.func82 rfl rfl rfl fun w0 X => ?_
  refine jq (jr (jbox ζ ζ fun g1 => ja ζ (jn (jx (jq (jr (js (jf F46_1 ζ) (js (jl k0 O3 ζ ζ) (jlit (r := (rI .i64)) (l := [i.D]) U22 I3 (by decide) ζ ζ ζ (lV ζ ζ (wI (rMach.W_D d0)) ln) fun g5 => ja ζ ?_)))))))))
  refine jn (jx (jrt (qfz k0 (by (try simp) <;> omega) ?_)))
  exact jrD ζ ζ (by rfl) d0
theorem kind3_ct {a0 : Value} {i : D.Mach} : Td Tryz.prog 83 #[vMach i a0] [da rMach (vMach i a0) i] [] (rL (rI .i64)) (km3 i) := by
  refine jenter (args := [vMach i a0]) Tryz.func83 rfl rfl rfl fun w0 X => ?_
  refine jq (jr (jbox ζ ζ fun g1 => ja ζ (jn (jx (jq (jr (js (jf F46_3 ζ) (js (jl k0 O3 ζ ζ) (jlit (r := (rI .i64)) (l := [i.A]) U22 I3 (by decide) ζ ζ ζ (lV ζ ζ (wI (rMach.W_A d0)) ln) fun g5 => ja ζ ?_)))))))))
  refine jn (jx (jrt (qfz k0 (by (try simp) <;> omega) ?_)))
  exact jrD ζ ζ (by rfl) d0
theorem kind4_ct {a0 : Value} {i : D.Mach} : Td Tryz.prog 84 #[vMach i a0] [da rMach (vMach i a0) i] [] (rL (rI .i64)) (km4 i) := by
  refine jenter (args := [vMach i a0]) Tryz.func84 rfl rfl rfl fun w0 X => ?_
  refine jq (jr (jbox ζ ζ fun g1 => ja ζ (jn (jx (jq (jr (js (jf F46_3 ζ) (js (jl k0 O3 ζ ζ) (js (jf F46_4 ζ) (js (jl k0 O3 ζ ζ) ?_))))))))))
  refine jlit (r := (rI .i64)) (l := [i.A, i.B]) U22 I3 (by decide) ζ ζ ζ (lV ζ ζ (wI (rMach.W_A d0)) (lV ζ ζ (wI (rMach.W_B d0)) ln)) fun g7 => ja ζ (jn (jx (jrt (qfz k0 (by (try simp) <;> omega) ?_))))
  exact jrD ζ ζ (by rfl) d0
theorem kind5_ct {a0 : Value} {i : D.Mach} : Td Tryz.prog 85 #[vMach i a0] [da rMach (vMach i a0) i] [] (rL (rI .i64)) (km5 i) := by
  refine jenter (args := [vMach i a0]) Tryz.func85 rfl rfl rfl fun w0 X => ?_
  refine jq (jr (jbox ζ ζ fun g1 => ja ζ (jn (jx (jq (jr (js (jf F46_3 ζ) (js (jl k0 O3 ζ ζ) (js (jf F46_4 ζ) (js (jl k0 O3 ζ ζ) ?_))))))))))
  refine js (jf F46_5 ζ) (js (jl k0 O3 ζ ζ) (jlit (r := (rI .i64)) (l := [i.A, i.B, i.C]) U22 I3 (by decide) ζ ζ ζ (lV ζ ζ (wI (rMach.W_A d0)) (lV ζ ζ (wI (rMach.W_B d0)) (lV ζ ζ (wI (rMach.W_C d0)) ln))) fun g9 => ja ζ (jn (jx (jrt (qfz k0 (by (try simp) <;> omega) ?_))))))
  exact jrD ζ ζ (by rfl) d0
theorem kind6_ct {a0 : Value} {i : D.Mach} : Td Tryz.prog 86 #[vMach i a0] [da rMach (vMach i a0) i] [] (rL (rI .i64)) (km6 i) := by
  refine jenter (args := [vMach i a0]) Tryz.func86 rfl rfl rfl fun w0 X => ?_
  refine jq (jr (jbox ζ ζ fun g1 => ja ζ (jn (jx (jq (jr (js (jf F46_7 ζ) (js (jl k0 O22 ζ ζ) (jdq (rMach.c_Args d0) fun q1 w1 => jcg E87 ζ ζ clone_ct (dc (rMach.c_Args d0) dn) kn fun v5 w2 => ?_)))))))))
  refine ja ζ (jn (jx (jrt (qfz k0 (by omega) ?_))))
  exact jrD ζ ζ (by rfl) d0
theorem kind7_ct {a0 : Value} {i : D.Mach} : Td Tryz.prog 88 #[vMach i a0] [da rMach (vMach i a0) i] [] (rL (rI .i64)) (km7 i) := by
  refine jenter (args := [vMach i a0]) Tryz.func88 rfl rfl rfl fun w0 X => ?_
  refine jq (jr (jbox ζ ζ fun g1 => ja ζ (jn (jx (jq (jr (js (jf F46_1 ζ) (js (jl k0 O3 ζ ζ) (js (jf F46_2 ζ) (js (jl k0 O3 ζ ζ) ?_))))))))))
  refine jlit (r := (rI .i64)) (l := [i.D, i.E]) U22 I3 (by decide) ζ ζ ζ (lV ζ ζ (wI (rMach.W_D d0)) (lV ζ ζ (wI (rMach.W_E d0)) ln)) fun g7 => ja ζ (jn (jx (jrt (qfz k0 (by (try simp) <;> omega) ?_))))
  exact jrD ζ ζ (by rfl) d0
def kfun (k : Nat) : Value := .func (.func k) #[] #[]
def kTab (op : Int) : Prop := (1 ≤ op ∧ op ≤ 4) ∨ (23 ≤ op ∧ op ≤ 31)
def takesF (op : Int) : Nat := if op = 1 ∨ op = 24 ∨ op = 31 ∨ (18 ≤ op ∧ op ≤ 22) then 83 else if op = 2 ∨ op = 25 ∨ op = 26 ∨ op = 29 ∨ (5 ≤ op ∧ op ≤ 17) then 84 else if op = 23 ∨ op = 27 then 85 else if op = 28 then 86 else 81
def makesF (op : Int) : Nat := if op = 2 then 84 else if op = 29 then 88 else if op = 26 ∨ op = 27 ∨ op = 31 ∨ op < 1 ∨ 31 < op then 81 else 82
def kindV (op : Int) : Value := .agg #[kfun (takesF op), kfun (makesF op)]
theorem ktab (op : Int) : ((.tuple #[(lkM [(1, .agg #[.func (.func 83) #[] #[], .func (.func 82) #[] #[]]), (2, .agg #[.func (.func 84) #[] #[], .func (.func 84) #[] #[]]), (3, .agg #[.func (.func 81) #[] #[], .func (.func 82) #[] #[]]), (4, .agg #[.func (.func 81) #[] #[], .func (.func 82) #[] #[]]), (23, .agg #[.func (.func 85) #[] #[], .func (.func 82) #[] #[]]), (24, .agg #[.func (.func 83) #[] #[], .func (.func 82) #[] #[]]), (25, .agg #[.func (.func 84) #[] #[], .func (.func 82) #[] #[]]), (26, .agg #[.func (.func 84) #[] #[], .func (.func 81) #[] #[]]), (27, .agg #[.func (.func 85) #[] #[], .func (.func 81) #[] #[]]), (28, .agg #[.func (.func 86) #[] #[], .func (.func 82) #[] #[]]), (29, .agg #[.func (.func 84) #[] #[], .func (.func 88) #[] #[]]), (30, .agg #[.func (.func 81) #[] #[], .func (.func 82) #[] #[]]), (31, .agg #[.func (.func 83) #[] #[], .func (.func 81) #[] #[]])] op).getD (.agg #[.nilFunc, .nilFunc]), .bool (lkM [(1, .agg #[.func (.func 83) #[] #[], .func (.func 82) #[] #[]]), (2, .agg #[.func (.func 84) #[] #[], .func (.func 84) #[] #[]]), (3, .agg #[.func (.func 81) #[] #[], .func (.func 82) #[] #[]]), (4, .agg #[.func (.func 81) #[] #[], .func (.func 82) #[] #[]]), (23, .agg #[.func (.func 85) #[] #[], .func (.func 82) #[] #[]]), (24, .agg #[.func (.func 83) #[] #[], .func (.func 82) #[] #[]]), (25, .agg #[.func (.func 84) #[] #[], .func (.func 82) #[] #[]]), (26, .agg #[.func (.func 84) #[] #[], .func (.func 81) #[] #[]]), (27, .agg #[.func (.func 85) #[] #[], .func (.func 81) #[] #[]]), (28, .agg #[.func (.func 86) #[] #[], .func (.func 82) #[] #[]]), (29, .agg #[.func (.func 84) #[] #[], .func (.func 88) #[] #[]]), (30, .agg #[.func (.func 81) #[] #[], .func (.func 82) #[] #[]]), (31, .agg #[.func (.func 83) #[] #[], .func (.func 81) #[] #[]])] op).isSome] : Value) = .tuple #[.agg #[kfun (takesF op), kfun (makesF op)], .bool true] ∧ kTab op) ∨ ((.tuple #[(lkM [(1, .agg #[.func (.func 83) #[] #[], .func (.func 82) #[] #[]]), (2, .agg #[.func (.func 84) #[] #[], .func (.func 84) #[] #[]]), (3, .agg #[.func (.func 81) #[] #[], .func (.func 82) #[] #[]]), (4, .agg #[.func (.func 81) #[] #[], .func (.func 82) #[] #[]]), (23, .agg #[.func (.func 85) #[] #[], .func (.func 82) #[] #[]]), (24, .agg #[.func (.func 83) #[] #[], .func (.func 82) #[] #[]]), (25, .agg #[.func (.func 84) #[] #[], .func (.func 82) #[] #[]]), (26, .agg #[.func (.func 84) #[] #[], .func (.func 81) #[] #[]]), (27, .agg #[.func (.func 85) #[] #[], .func (.func 81) #[] #[]]), (28, .agg #[.func (.func 86) #[] #[], .func (.func 82) #[] #[]]), (29, .agg #[.func (.func 84) #[] #[], .func (.func 88) #[] #[]]), (30, .agg #[.func (.func 81) #[] #[], .func (.func 82) #[] #[]]), (31, .agg #[.func (.func 83) #[] #[], .func (.func 81) #[] #[]])] op).getD (.agg #[.nilFunc, .nilFunc]), .bool (lkM [(1, .agg #[.func (.func 83) #[] #[], .func (.func 82) #[] #[]]), (2, .agg #[.func (.func 84) #[] #[], .func (.func 84) #[] #[]]), (3, .agg #[.func (.func 81) #[] #[], .func (.func 82) #[] #[]]), (4, .agg #[.func (.func 81) #[] #[], .func (.func 82) #[] #[]]), (23, .agg #[.func (.func 85) #[] #[], .func (.func 82) #[] #[]]), (24, .agg #[.func (.func 83) #[] #[], .func (.func 82) #[] #[]]), (25, .agg #[.func (.func 84) #[] #[], .func (.func 82) #[] #[]]), (26, .agg #[.func (.func 84) #[] #[], .func (.func 81) #[] #[]]), (27, .agg #[.func (.func 85) #[] #[], .func (.func 81) #[] #[]]), (28, .agg #[.func (.func 86) #[] #[], .func (.func 82) #[] #[]]), (29, .agg #[.func (.func 84) #[] #[], .func (.func 88) #[] #[]]), (30, .agg #[.func (.func 81) #[] #[], .func (.func 82) #[] #[]]), (31, .agg #[.func (.func 83) #[] #[], .func (.func 81) #[] #[]])] op).isSome] : Value) = .tuple #[.agg #[.nilFunc, .nilFunc], .bool false] ∧ ¬ kTab op) := by
  by_cases ho : kTab op
  · refine .inl ⟨?_, ho⟩
    have hc : op = 1 ∨ op = 2 ∨ op = 3 ∨ op = 4 ∨ op = 23 ∨ op = 24 ∨ op = 25 ∨ op = 26 ∨ op = 27 ∨ op = 28 ∨ op = 29 ∨ op = 30 ∨ op = 31 := by unfold kTab at ho; omega
    rcases hc with rfl | rfl | rfl | rfl | rfl | rfl | rfl | rfl | rfl | rfl | rfl | rfl | rfl <;> rfl
  · refine .inr ⟨?_, ho⟩
    have h1 : ∀ k : Int, ((1 ≤ k ∧ k ≤ 4) ∨ (23 ≤ k ∧ k ≤ 31)) → (k == op) = false := fun k h2 => by rw [beq_eq_false_iff_ne]; unfold kTab at ho; omega
    simp [lkM, List.find?, h1]
theorem kindV5 {op : Int} (h : 5 ≤ op ∧ op ≤ 17) : Value.agg #[.func (.func 84) #[] #[], .func (.func 82) #[] #[]] = kindV op := by
  simp only [kindV, takesF, makesF]
  rw [if_neg (by omega), if_pos (by omega), if_neg (by omega), if_neg (by omega), if_neg (by omega)]; rfl
theorem kindV18 {op : Int} (h : 18 ≤ op ∧ op ≤ 22) : Value.agg #[.func (.func 83) #[] #[], .func (.func 82) #[] #[]] = kindV op := by
  simp only [kindV, takesF, makesF]
  rw [if_pos (by omega), if_neg (by omega), if_neg (by omega), if_neg (by omega)]; rfl
theorem kindV0 {op : Int} (h : op < 1 ∨ 31 < op) : Value.agg #[.func (.func 81) #[] #[], .func (.func 81) #[] #[]] = kindV op := by
  simp only [kindV, takesF, makesF]
  rw [if_neg (by omega), if_neg (by omega), if_neg (by omega), if_neg (by omega), if_neg (by omega), if_neg (by omega), if_pos (by omega)]; rfl
theorem kindV_ct (op : Int) : Tv Tryz.prog 41 #[.int .i64 op] [] [] (kindV op) := by
  refine jenter (args := [.int .i64 op]) Tryz.func41 rfl rfl rfl fun w0 X => ?_
  refine jq (jr (jalc J91 ζ fun g2 => jn (jx (jq (jr (ja ζ (jn (jx (jq (jr ?_))))))))))
  refine ja ζ (jn (jx (jq (jr (ja ζ (jn (jx (jq (jr (ja ζ (jn ?_)))))))))))
  refine jx (jq (jr (ja ζ (jn (jx (jq (jr (ja ζ (jn (jx (jq ?_)))))))))))
  refine jr (ja ζ (jn (jx (jq (jr (jmm fun g13 => jm ζ (jm ζ (js (jbu (v := .agg #[.func (.func 83) #[] #[], .func (.func 82) #[] #[]]) ζ (fun _ => by kernel_rfl)) (jin U143 U3 k0 ζ ζ ζ ζ (jm ζ ?_))))))))))
  refine jm ζ (js (jbu (v := .agg #[.func (.func 84) #[] #[], .func (.func 84) #[] #[]]) ζ (fun _ => by kernel_rfl)) (jin U143 U3 k0 ζ ζ ζ ζ (jm ζ (jm ζ (js (jbu (v := .agg #[.func (.func 81) #[] #[], .func (.func 82) #[] #[]]) ζ (fun _ => by kernel_rfl)) (jin U143 U3 k0 ζ ζ ζ ζ (jm ζ (jm ζ (js (jbu (v := .agg #[.func (.func 81) #[] #[], .func (.func 82) #[] #[]]) ζ (fun _ => by kernel_rfl)) (jin U143 U3 k0 ζ ζ ζ ζ (jm ζ ?_)))))))))))
  refine jm ζ (js (jbu (v := .agg #[.func (.func 85) #[] #[], .func (.func 82) #[] #[]]) ζ (fun _ => by kernel_rfl)) (jin U143 U3 k0 ζ ζ ζ ζ (jm ζ (jm ζ (js (jbu (v := .agg #[.func (.func 83) #[] #[], .func (.func 82) #[] #[]]) ζ (fun _ => by kernel_rfl)) (jin U143 U3 k0 ζ ζ ζ ζ (jm ζ (jm ζ (js (jbu (v := .agg #[.func (.func 84) #[] #[], .func (.func 82) #[] #[]]) ζ (fun _ => by kernel_rfl)) (jin U143 U3 k0 ζ ζ ζ ζ (jm ζ ?_)))))))))))
  refine jm ζ (js (jbu (v := .agg #[.func (.func 84) #[] #[], .func (.func 81) #[] #[]]) ζ (fun _ => by kernel_rfl)) (jin U143 U3 k0 ζ ζ ζ ζ (jm ζ (jm ζ (js (jbu (v := .agg #[.func (.func 85) #[] #[], .func (.func 81) #[] #[]]) ζ (fun _ => by kernel_rfl)) (jin U143 U3 k0 ζ ζ ζ ζ (jm ζ (jm ζ (js (jbu (v := .agg #[.func (.func 86) #[] #[], .func (.func 82) #[] #[]]) ζ (fun _ => by kernel_rfl)) (jin U143 U3 k0 ζ ζ ζ ζ (jm ζ ?_)))))))))))
  refine jm ζ (js (jbu (v := .agg #[.func (.func 84) #[] #[], .func (.func 88) #[] #[]]) ζ (fun _ => by kernel_rfl)) (jin U143 U3 k0 ζ ζ ζ ζ (jm ζ (jm ζ (js (jbu (v := .agg #[.func (.func 81) #[] #[], .func (.func 82) #[] #[]]) ζ (fun _ => by kernel_rfl)) (jin U143 U3 k0 ζ ζ ζ ζ (jm ζ (jm ζ (js (jbu (v := .agg #[.func (.func 83) #[] #[], .func (.func 81) #[] #[]]) ζ (fun _ => by kernel_rfl)) (jin U143 U3 k0 ζ ζ ζ ζ (jm ζ ?_)))))))))))
  refine jm ζ ?_
  refine jfk (p := fun v => (v = .tuple #[.agg #[kfun (takesF op), kfun (makesF op)], .bool true] ∧ kTab op) ∨ (v = .tuple #[.agg #[.nilFunc, .nilFunc], .bool false] ∧ ¬ kTab op)) ⟨_, jlko U143 U3 J91 k0 ζ ζ, ktab op⟩ ?_
  rintro v55 (⟨rfl, hop⟩ | ⟨rfl, hop⟩)
  refine jm ζ (js (jex' ζ ζ) (js (jex' ζ ζ) (jalc J91 ζ fun g10 => jsta k0 Z91 ζ ζ ζ ⟨ζ, ζ, trivial⟩ (saf ζ) (ja ζ (jn (jx (jq (jb (jq (jr ?_))))))))))
  refine jm ζ (ja ζ (jn (jx ?_)))
  refine jif ζ (fun hc1 => ?_) (fun hc1 => ?_)
  refine jq (jr (js (jla k0 A91 Z91 ζ ζ ζ) (jsta k2 Z91 ζ ζ ζ ⟨ζ, ζ, trivial⟩ (saf ζ) (jn (jx (jrt (jbr (jtr ?_))))))))
  exact jrc ζ ζ k0 A91 Z91 () (by first | rfl | exact kindV5 ‹_› | exact kindV18 ‹_› | exact kindV0 (by unfold kTab at hop; omega)) dn (fun _ _ => kn)
  exact absurd hc1 (by simp)
  refine jm ζ (js (jex' ζ ζ) (js (jex' ζ ζ) (jalc J91 ζ fun g10_1 => jsta k0 Z91 ζ ζ ζ ⟨ζ, ζ, trivial⟩ (saf ζ) (ja ζ (jn (jx (jq (jb (jq (jr ?_))))))))))
  refine jm ζ (ja ζ (jn (jx ?_)))
  refine jif ζ (fun hc2 => ?_) (fun hc2 => ?_)
  exact absurd hc2 (by simp)
  refine jq (jr (jm ζ (js (jgeq ζ ζ) (jm ζ (jg ζ ζ (.t _) (fun hg => jmv ζ) (jg ζ ζ (.t _) (fun hg => jleq (evg ζ hg) ζ) (js (jand ζ ζ) (ja ζ (jn (jx ?_))))))))))
  refine jif ζ (fun hc3 => ?_) (fun hc3 => ?_)
  refine jq (jr (jm ζ (jm ζ (js (jbu (v := .agg #[.func (.func 84) #[] #[], .func (.func 82) #[] #[]]) ζ (fun _ => by kernel_rfl)) (jsta k2 Z91 ζ ζ ζ ⟨ζ, ζ, trivial⟩ (saf ζ) (jn (jx (jrt (jbr (jtr ?_))))))))))
  exact jrc ζ ζ k0 A91 Z91 () (by first | rfl | exact kindV5 ‹_› | exact kindV18 ‹_› | exact kindV0 (by unfold kTab at hop; omega)) dn (fun _ _ => kn)
  refine jq (jr (jm ζ (js (jgeq ζ ζ) (jm ζ (jg ζ ζ (.t _) (fun hg => jmv ζ) (jg ζ ζ (.t _) (fun hg => jleq (evg ζ hg) ζ) (js (jand ζ ζ) (ja ζ (jn (jx ?_))))))))))
  refine jif ζ (fun hc4 => ?_) (fun hc4 => ?_)
  refine jq (jr (jm ζ (jm ζ (js (jbu (v := .agg #[.func (.func 83) #[] #[], .func (.func 82) #[] #[]]) ζ (fun _ => by kernel_rfl)) (jsta k2 Z91 ζ ζ ζ ⟨ζ, ζ, trivial⟩ (saf ζ) (jn (jx (jrt (jbr (jtr ?_))))))))))
  exact jrc ζ ζ k0 A91 Z91 () (by first | rfl | exact kindV5 ‹_› | exact kindV18 ‹_› | exact kindV0 (by unfold kTab at hop; omega)) dn (fun _ _ => kn)
  refine jsk (jbn (jx (jq (jr (jm ζ (jm ζ (js (jbu (v := .agg #[.func (.func 81) #[] #[], .func (.func 81) #[] #[]]) ζ (fun _ => by kernel_rfl)) (jsta k2 Z91 ζ ζ ζ ⟨ζ, ζ, trivial⟩ (saf ζ) (jn (jx (jrt ?_)))))))))))
  exact jrc ζ ζ k0 A91 Z91 () (by first | rfl | exact kindV5 ‹_› | exact kindV18 ‹_› | exact kindV0 (by unfold kTab at hop; omega)) dn (fun _ _ => kn)
end Go.Proofs.YtdlcjaefkjbonaaGreat
namespace Go.JE
set_option linter.unusedVariables false
set_option linter.unusedSimpArgs false
set_option linter.unusedSectionVars false
variable {P : Program} {D D0 Ds : List Dt} {L M Ls L0 : List Res} {e : Env} {X : Cx} {n : Fs} {w0 : World} {Q : Exit → Act → World → Prop}
def bxv (g : Nat) (T : TypeId) (i : Nat) (v : Value) : Res where
  sat F H := ∃ cs, (bx g T cs).sat F H ∧ cs[i]? = some v
  own k := k = g
  lt := fun ⟨_, h, _⟩ e => Res.lt _ h e
  no := fun ⟨_, h, _⟩ e => Res.no _ h e
  st := fun hl hs h1 h2 ⟨cs, h, e⟩ => ⟨cs, Res.st _ hl hs h1 h2 h, e⟩
theorem kcv {g i : Nat} {T : TypeId} {cs : List Value} {v : Value} {N : List Res} (h : Tk L (bx g T cs) M) (e : cs[i]? = some v) (h' : Tks M Ls N) : Tks L (bxv g T i v :: Ls) N where
  ok := fun o => by
    obtain ⟨⟨a, b, c⟩, x, y⟩ := (kc h h').ok o
    exact ⟨⟨⟨cs, a, e⟩, b, c⟩, x, y⟩
  own := fun o => (kc h h').own o
theorem jlv {g i : Nat} {T T' : TypeId} {v : Value} {x : Operand} (hk : Tk L (bxv g T i v) M) (hT : One P T') (hx : ev e x = some (.pointer (some ⟨g, i, none⟩))) : OH P D L e (.load T' x) v := fun F H _ _ h => by
  obtain ⟨cs, h1, h2⟩ := (hk.ok h).1
  exact OpOk.ldBx h1.1 hT hx h2
def SS (X : Cx) (FS : PH) (Ls : List Res) (H : Heap) : Prop := ∃ F, FS.le F ∧ Hp X [] Ls F H
inductive Od where
  | e
  | a (i : Nat) (o : Od)
  | o (i : Nat) (o : Od)
  | w (i j : Nat) (p q : Od)
def Od.sz : Od → Nat
  | .e => 0
  | .a _ q => q.sz + 1
  | .o _ q => q.sz + 1
  | .w _ _ p _ => p.sz + 1
def okO (ops : Array Oper) (z : Bool) : Array Bool → Od → Bool
  | listed, .e => decide (Region.ready .any ops listed = []) && (!z || listed.all (fun b => b))
  | listed, .a i q => (Region.free .any ops listed i && ((Region.ready .any ops listed).contains i && (!z || waits ops listed i))) && okO ops z (listed.setIfInBounds i true) q
  | listed, .o i q => decide (Region.ready .any ops listed = [i]) && okO ops z (listed.setIfInBounds i true) q
  | listed, .w i j p q => decide (Region.ready .any ops listed = [i, j]) && (okO ops z (listed.setIfInBounds i true) p && (okO ops z (listed.setIfInBounds j true) q && p.sz == q.sz))
def fsD (FS : PH) (Ds : List Dt) : Dt := ⟨fun F => FS.le F ∧ AllD FS Ds, fun hl h => ⟨h.1.trans hl, h.2⟩⟩
def AH (P : Program) (n : Fs) (w0 : World) (l : List Oper) (Q : Exit → Act → World → Prop) (z : Bool) (X : Cx) (FS : PH) (Ds : List Dt) (Ls : List Res) (is : Od) (D : List Dt) (L : List Res) (e : Env) : Prop :=
  ∀ F H, FS.le F → AllD FS Ds → Hp X D L F H → (SS X FS Ls H ∨ (z = true ∧ is = .e)) → Region.noSelect l.toArray = true → ∀ listed, okO l.toArray z listed is = true → AF P n w0 l.toArray Q z (SS X FS Ls) is.sz listed e H
def YQ (P : Program) (n : Fs) (w0 : World) (l : List Oper) (Q : Exit → Act → World → Prop) (z : Bool) (X : Cx) (FS : PH) (Ls : List Res) (is : Od) : Exit → Act → World → Prop
  | .normal, a, w => Region.noSelect l.toArray = true → ∀ listed, okO l.toArray z listed is = true → (SS X FS Ls w.heap ∨ (z = true ∧ is = .e)) ∧ AnyL P l.toArray (NoP Q) z (fun w => SS X FS Ls w.heap) is.sz listed a w
  | x, a, w => NoP Q x a w
theorem jany {id : Nat} {l : List Oper} (z : Bool) (is : Od) (hm : P.follows .mixedOrders = true) (hO : (okO l.toArray z (Array.replicate l.length false) is && (Region.noSelect l.toArray && decide (l.length = is.sz))) = true) (hk : Tks L Ls M)
    (h : ∀ FS, AH P n w0 l Q z X FS D Ls is D L e) : CH P n w0 Q X D L e (.region id l.toArray true) := fun F H hp => by
  simp only [Bool.and_eq_true, decide_eq_true_eq] at hO
  refine CF.any (z := z) (SS X F Ls) hm ?_
  have := h F F H (PH.le.refl F) hp.hd hp (.inl ⟨F, PH.le.refl F, hp.sub dn hk⟩) hO.2.1 _ hO.1
  rw [hO.2.2] at this ⊢
  exact this
section
variable {l : List Oper} {z : Bool} {is js : Od} {i d : Nat} {op : Op} {oi oj : Oper} {ty : TypeId} {pos : String} {af : Array Edge} {v : Value} {FS : PH}
theorem jyd (h : QH n w0 Q X D L e .normal) : AH P n w0 l Q z X FS Ds Ls .e D L e := fun F H h1 h2 hp hS hs listed hO => by
  simp only [okO, Bool.and_eq_true, decide_eq_true_eq] at hO
  exact AF.done hO.1 (h F H hp)
theorem SS.oh {H : Heap} (h : OH P Ds Ls e op v) (hd : AllD FS Ds) (hS : SS X FS Ls H) : OpOk P e op H v := by
  obtain ⟨F, h1, h2⟩ := hS; exact h F H h2.hin (hd.up h1) h2.ok
theorem SS.get {H : Heap} (h : SS X FS Ls H ∨ (z = true ∧ is = .e)) (hn : is ≠ .e) : SS X FS Ls H := h.resolve_right fun h1 => hn h1.2
theorem okA {ops : Array Oper} {listed : Array Bool} (hO : okO ops z listed (.a i is) = true) : Region.free .any ops listed i = true ∧ (Region.ready .any ops listed).contains i = true ∧ (z = false ∨ waits ops listed i = true) ∧ okO ops z (listed.setIfInBounds i true) is = true := by
  simp only [okO, Bool.and_eq_true, Bool.or_eq_true, Bool.not_eq_true'] at hO
  exact ⟨hO.1.1, hO.1.2.1, hO.1.2.2, hO.2⟩
theorem jy (hi : l[i]? = some ⟨some d, op, ty, pos, af, none⟩) (h : OH P Ds Ls e op v) (K : AH P n w0 l Q z X FS Ds Ls is D L ((d, v) :: e)) (hd : Nat.blt d n.sz = true := by rfl) : AH P n w0 l Q z X FS Ds Ls (.a i is) D L e := fun F H h1 h2 hp hS hs listed hO => by
  obtain ⟨hf, hr, hz, hO⟩ := okA hO
  have hS' := SS.get hS (by simp)
  exact AF.take i hi hs hf hr hS' (fun H' hS'' => hS''.oh h h2) (K F H h1 h2 hp (.inl hS') hs _ hO) hd hz
theorem jyg {j t : Nat} {want B : Bool} {u : Value} (hi : l[i]? = some ⟨some d, op, ty, pos, af, some (j, want)⟩) (hj : (l.toArray[j]?).bind (·.dst) = some t) (hu : lk e t = some u) (hB : Gd u want B) (h : B = true → OH P Ds Ls e op v) (K : AH P n w0 l Q z X FS Ds Ls is D L ((d, gv B v) :: e)) (hd : Nat.blt d n.sz = true := by rfl) (ht : Nat.blt t n.sz = true := by rfl) : AH P n w0 l Q z X FS Ds Ls (.a i is) D L e := fun F H h1 h2 hp hS hs listed hO => by
  obtain ⟨hf, hr, hz, hO⟩ := okA hO
  have hS' := SS.get hS (by simp)
  exact AF.gtake i hi hs hf hr hS' hj hu hB (fun hb H' hS'' => hS''.oh (h hb) h2) (K F H h1 h2 hp (.inl hS') hs _ hO) hd ht hz
def OX (P : Program) (Ds : List Dt) (e : Env) (op : Op) (q : Value → Dt) : Prop := ∀ FS H, InH FS H → AllD FS Ds → ∃ v, (∀ H', InH FS H' → OpOk P e op H' v) ∧ (q v).sat FS
section
variable {α : Type} {r : Rp α} {a : α} {b o : Nat} {T : TypeId} {x : Operand}
theorem xlV (hat : Nd Ds [] (ad r b o a)) (hT : One P T) (hS : r.sz = 1) (hx : ev e x = some (.pointer (some ⟨b, o, none⟩))) : OX P Ds e (.load T x) (fun v => dv r v a) := fun FS H h1 h2 => OpOk.ldVS (hat FS H h1 h2 trivial) hT hS hx (fun _ h => h)
theorem xlA (hat : Nd Ds [] (ad r b o a)) (hT : ∃ d, P.underlying T = some d ∧ (match d with | .struct _ | .array _ _ => true | _ => false) = true) (hS : Sz P T r.sz) (hx : ev e x = some (.pointer (some ⟨b, o, none⟩))) : OX P Ds e (.load T x) (fun v => da r v a) := fun FS H h1 h2 => OpOk.ldAS (hat FS H h1 h2 trivial) hT hS hx (fun _ h => h)
end
theorem SS.inh {H : Heap} (hS : SS X FS Ls H) : InH FS H := by obtain ⟨F, h1, h2⟩ := hS; exact h2.hin.down h1
theorem jye {q : Value → Dt} (hi : l[i]? = some ⟨some d, op, ty, pos, af, none⟩) (h : OX P Ds e op q) (K : ∀ v, AH P n w0 l Q z X FS (q v :: Ds) Ls is (q v :: D) L ((d, v) :: e)) (hd : Nat.blt d n.sz = true := by rfl) : AH P n w0 l Q z X FS Ds Ls (.a i is) D L e := fun F H h1 h2 hp hS hs listed hO => by
  obtain ⟨hf, hr, hz, hO⟩ := okA hO
  have hS' := SS.get hS (by simp)
  obtain ⟨v, h3, h4⟩ := h FS H hS'.inh h2
  exact AF.take i hi hs hf hr hS' (fun H' hS'' => h3 H' hS''.inh) (K v F H h1 ⟨h4, h2⟩ (hp.datum (Dt.up _ h1 h4)) (.inl hS') hs _ hO) hd hz
theorem jyge {q : Value → Dt} {j t : Nat} {want B : Bool} {u : Value} (hi : l[i]? = some ⟨some d, op, ty, pos, af, some (j, want)⟩) (hj : (l.toArray[j]?).bind (·.dst) = some t) (hu : lk e t = some u) (hB : Gd u want B) (h : B = true → OX P Ds e op q) (K : ∀ v, AH P n w0 l Q z X FS ((q v).if B :: Ds) Ls is ((q v).if B :: D) L ((d, gv B v) :: e)) (hd : Nat.blt d n.sz = true := by rfl) (ht : Nat.blt t n.sz = true := by rfl) : AH P n w0 l Q z X FS Ds Ls (.a i is) D L e := fun F H h1 h2 hp hS hs listed hO => by
  obtain ⟨hf, hr, hz, hO⟩ := okA hO
  have hS' := SS.get hS (by simp)
  cases B with
  | true =>
    obtain ⟨v, h3, h4⟩ := h rfl FS H hS'.inh h2
    have h5 : ((q v).if true).sat FS := fun _ => h4
    exact AF.gtake i hi hs hf hr hS' hj hu hB (fun _ H' hS'' => h3 H' hS''.inh) (K v F H h1 ⟨h5, h2⟩ (hp.datum (Dt.up _ h1 h5)) (.inl hS') hs _ hO) hd ht hz
  | false =>
    have h5 : ∀ F, ((q undef).if false).sat F := fun _ h => by cases h
    exact AF.gtake (v := undef) i hi hs hf hr hS' hj hu hB (fun h => by cases h) (K undef F H h1 ⟨h5 _, h2⟩ (hp.datum (h5 _)) (.inl hS') hs _ hO) hd ht hz
theorem jyA {α β : Type} {r : Rp α} {val : α → β → Value} {a : α} (hs : Sr r val) (hi : l[i]? = some ⟨some d, op, ty, pos, af, none⟩) (h : OX P Ds e op (fun v => da r v a)) (K : ∀ c, AH P n w0 l Q z X FS (da r (val a c) a :: Ds) Ls is (da r (val a c) a :: D) L ((d, val a c) :: e)) (hd : Nat.blt d n.sz = true := by rfl) : AH P n w0 l Q z X FS Ds Ls (.a i is) D L e := fun F H h1 h2 hp hS hs' listed hO => by
  obtain ⟨hf, hr, hz, hO⟩ := okA hO
  have hS' := SS.get hS (by simp)
  obtain ⟨v, h3, h4⟩ := h FS H hS'.inh h2
  obtain ⟨c, rfl⟩ := hs.op h4
  exact AF.take i hi hs' hf hr hS' (fun H' hS'' => h3 H' hS''.inh) (K c F H h1 ⟨h4, h2⟩ (hp.datum (Dt.up _ h1 h4)) (.inl hS') hs' _ hO) hd hz
theorem adq {α : Type} {r : Rp α} {N : Nat} {a : List α} (h : Nd D L (dv (rLn N r) v a)) (k : Qn N a.length → Sv v → AH P n w0 l Q z X FS Ds Ls is D L e) : AH P n w0 l Q z X FS Ds Ls is D L e := fun F H h0 h1 hp => by
  have h2 := h F H hp.hin hp.hd hp.ok; exact k h2.1 (dv1 h2) F H h0 h1 hp
theorem wpl_op {ops : Array Oper} {Y Q' : Exit → Act → World → Prop} {a : Act} {w : World} (hi : ops[i]? = some oi) (hp : ∀ c a w, Y (.panic c) a w → Q' (.panic c) a w) (ho : ∀ a w, Y .outgrown a w → Q' .outgrown a w) (h : wpList P ops Y [oi] a w) : wpOp P ops Q' i (fun a w => Y .normal a w) a w := by
  unfold wpOp
  simp only [hi]
  unfold wpList at h
  have hl : LetsOut Y → LetsOut Q' := fun ⟨a, w, h⟩ => ⟨a, w, ho a w h⟩
  split at h
  · rename_i hw
    rw [if_pos hw]
    refine h.imp (fun h => ?_) (fun h => ⟨h.1, hl h.2⟩)
    unfold Oper.wp at h ⊢
    generalize (execOp a.eval oi).run P w = r at h ⊢
    cases r with
    | ok x w' =>
      cases x <;> simp only [Oper.upon] at h ⊢ <;>
      first
        | exact h
        | exact Calls.mono h (fun x w'' he => by cases x <;> first | exact he | exact hp _ _ _ he | exact hl he)
        | exact Rows.mono h (fun _ _ he => he)
    | halt x w' => cases x <;> simp only [Oper.upon] at h ⊢ <;> first | exact hp _ _ _ h | exact h
  · rename_i hw
    rw [if_neg hw]; exact h
theorem no_left {ops : Array Oper} {listed : Array Bool} (hO : okO ops true listed .e = true) : ¬ leftB listed := by
  simp only [okO, Bool.and_eq_true, Bool.not_true, Bool.false_or] at hO
  rintro ⟨k, hk⟩
  rw [Array.getD_eq_getD_getElem?] at hk
  by_cases h : k < listed.size
  · rw [Array.getElem?_eq_getElem h] at hk
    have h2 := Array.all_eq_true.1 hO.2 k h
    simp only [Option.getD_some] at hk
    rw [hk] at h2; cases h2
  · rw [Array.getElem?_eq_none (Nat.le_of_not_lt h)] at hk; cases hk
theorem YQ.next {listed : Array Bool} {a : Act} {w : World} (hs : Region.noSelect l.toArray = true) (hO : okO l.toArray z (listed.setIfInBounds i true) is = true) (hi : l[i]? = some oi) (h : wpList P l.toArray (YQ P n w0 l Q z X FS Ls is) [oi] a w) :
    wpOp P l.toArray (NoP Q) i (fun a' w' => (z = false ∨ leftB (listed.setIfInBounds i true) → SS X FS Ls w'.heap) ∧ AnyL P l.toArray (NoP Q) z (fun w => SS X FS Ls w.heap) is.sz (listed.setIfInBounds i true) a' w') a w := by
  refine wpOp_mono (fun a' w' h' => ?_) (wpl_op (Y := YQ P n w0 l Q z X FS Ls is) (Q' := NoP Q) (by simpa using hi) (fun _ _ _ h => h) (fun _ _ h => h) h)
  obtain ⟨h1, h2⟩ := h' hs _ hO
  refine ⟨fun h3 => h1.resolve_right ?_, h2⟩
  rintro ⟨rfl, rfl⟩
  exact no_left hO (h3.resolve_left (by simp))
theorem jyo (hi : l[i]? = some oi) (h : LH P n w0 l.toArray (YQ P n w0 l Q z X FS Ls is) X (fsD FS Ds :: D) L e [oi]) : AH P n w0 l Q z X FS Ds Ls (.o i is) D L e := fun F H h1 h2 hp hS hs listed hO => by
  simp only [okO, Bool.and_eq_true, decide_eq_true_eq] at hO
  intro a w hf hw
  exact wpAnyH_one hO.1 (YQ.next hs hO.2 hi (h F H (hp.datum ⟨h1, h2⟩) a w hf hw))
theorem jyw {j : Nat} (hi : l[i]? = some oi) (hj : l[j]? = some oj) (h : LH P n w0 l.toArray (YQ P n w0 l Q z X FS Ls is) X (fsD FS Ds :: D) L e [oi]) (h' : LH P n w0 l.toArray (YQ P n w0 l Q z X FS Ls js) X (fsD FS Ds :: D) L e [oj]) : AH P n w0 l Q z X FS Ds Ls (.w i j is js) D L e := fun F H h1 h2 hp hS hs listed hO => by
  simp only [okO, Bool.and_eq_true, decide_eq_true_eq, beq_iff_eq] at hO
  obtain ⟨hr, ho1, ho2, hz⟩ := hO
  intro a w hf hw
  have a1 := YQ.next hs ho1 hi (h F H (hp.datum ⟨h1, h2⟩) a w hf hw)
  have a2 := YQ.next hs ho2 hj (h' F H (hp.datum ⟨h1, h2⟩) a w hf hw)
  rw [← hz] at a2
  refine ⟨fun h0 => (by rw [hr] at h0; cases h0), fun k hk => ?_⟩
  rw [hr] at hk
  simp only [List.mem_cons, List.not_mem_nil, or_false] at hk
  rcases hk with rfl | rfl
  · exact a1
  · exact a2
theorem jyn {ops : Array Oper} (hf : Nd D L (fsD FS Ds)) (hk : Tks L Ls M) (h : AH P n w0 l Q z X FS Ds Ls is D L e) : LH P n w0 ops (YQ P n w0 l Q z X FS Ls is) X D L e [] := jn fun F H hp a w hfr hw hs listed hO => by
  obtain ⟨h1, h2⟩ := hf F H hp.hin hp.hd hp.ok
  have hS : SS X FS Ls H := ⟨F, h1, hp.sub dn hk⟩
  exact ⟨.inl (hw.heap ▸ hS), h F H h1 h2 hp (.inl hS) hs listed hO a w hfr hw⟩
theorem jyz {ops : Array Oper} (hf : Nd D L (fsD FS Ds)) (h : AH P n w0 l Q true X FS Ds Ls .e D L e) : LH P n w0 ops (YQ P n w0 l Q true X FS Ls .e) X D L e [] := jn fun F H hp a w hfr hw hs listed hO => by
  obtain ⟨h1, h2⟩ := hf F H hp.hin hp.hd hp.ok
  exact ⟨.inr ⟨rfl, rfl⟩, h F H h1 h2 hp (.inr ⟨rfl, rfl⟩) hs listed hO a w hfr hw⟩
end
end Go.JE
namespace Go.Proofs.YtdlcjaefkjbonaaGreat
set_option linter.unusedVariables false
set_option linter.unusedSimpArgs false
set_option linter.unusedSectionVars false
open Go.JE
theorem A46 : ∃ d, Tryz.prog.underlying 46 = some d ∧ (match d with | .struct _ | .array _ _ => true | _ => false) = true := ⟨_, Tryz.underlying46, rfl⟩
theorem E41 : Ent Tryz.prog 41 := ⟨_, Tryz.func41, by kernel_rfl, by kernel_rfl⟩
theorem E81 : Ent Tryz.prog 81 := ⟨_, Tryz.func81, by kernel_rfl, by kernel_rfl⟩
theorem E82 : Ent Tryz.prog 82 := ⟨_, Tryz.func82, by kernel_rfl, by kernel_rfl⟩
theorem E83 : Ent Tryz.prog 83 := ⟨_, Tryz.func83, by kernel_rfl, by kernel_rfl⟩
theorem E84 : Ent Tryz.prog 84 := ⟨_, Tryz.func84, by kernel_rfl, by kernel_rfl⟩
theorem E85 : Ent Tryz.prog 85 := ⟨_, Tryz.func85, by kernel_rfl, by kernel_rfl⟩
theorem E86 : Ent Tryz.prog 86 := ⟨_, Tryz.func86, by kernel_rfl, by kernel_rfl⟩
theorem E88 : Ent Tryz.prog 88 := ⟨_, Tryz.func88, by kernel_rfl, by kernel_rfl⟩
theorem G91_0 : ∃ fs f, Tryz.prog.underlying 91 = some (.struct fs) ∧ fs[0]? = some f ∧ f.offset = 0 ∧ f.type = 49 := ⟨_, _, Tryz.underlying91, rfl, rfl, rfl⟩
theorem G91_1 : ∃ fs f, Tryz.prog.underlying 91 = some (.struct fs) ∧ fs[1]? = some f ∧ f.offset = 1 ∧ f.type = 49 := ⟨_, _, Tryz.underlying91, rfl, rfl, rfl⟩
theorem Mixed : Tryz.prog.follows .mixedOrders = true := Checked.mixed Tryz.checked
theorem O49 : One Tryz.prog 49 := ⟨_, Tryz.underlying49, rfl⟩
theorem Z46 : Sz Tryz.prog 46 8 := by unfold Sz; kernel_rfl
theorem takesF_ct {a0 : Value} {i : D.Mach} : Td Tryz.prog (takesF i.Op) #[vMach i a0] [da rMach (vMach i a0) i] [] (rL (rI .i64)) (takesM i) := by
  unfold takesF takesM
  (repeat' split) <;> first | (exfalso; omega) | exact kind3_ct | exact kind4_ct | exact kind5_ct | exact kind6_ct | exact kind1_ct
theorem ent_takesF (op : Int) : Ent Tryz.prog (takesF op) := by
  unfold takesF
  (repeat' split) <;> first | with_reducible exact E83 | with_reducible exact E84 | with_reducible exact E85 | with_reducible exact E86 | with_reducible exact E81
theorem makesF_ct {a0 : Value} {i : D.Mach} : Td Tryz.prog (makesF i.Op) #[vMach i a0] [da rMach (vMach i a0) i] [] (rL (rI .i64)) (makesM i) := by
  unfold makesF makesM
  (repeat' split) <;> first | (exfalso; omega) | exact kind4_ct | exact kind7_ct | exact kind1_ct | exact kind2_ct
theorem ent_makesF (op : Int) : Ent Tryz.prog (makesF op) := by
  unfold makesF
  (repeat' split) <;> first | with_reducible exact E84 | with_reducible exact E88 | with_reducible exact E81 | with_reducible exact E82
theorem pTakes_ct {a0 : Value} {i : D.Mach} : Td Tryz.prog 18 #[vMach i a0] [da rMach (vMach i a0) i] [] (rL (rI .i64)) (takesM i) := by
  refine jenter (args := [vMach i a0]) Tryz.func18 rfl rfl rfl fun w0 X => ?_
  refine jq (jr (jbox ζ ζ fun g1 => ja ζ (jn (jx (jq (jany false (.a 0 (.a 1 (.a 4 (.o 2 (.a 3 (.o 5 (.a 6 .e))))))) Mixed (by kernel_rfl) (kc k0 kn) fun F1 => jy ζ (jf F46_0 ζ) (jy ζ (jl k0 O3 ζ ζ) (jy ζ (jla k0 A46 Z46 ζ ζ ζ) (jyo ζ ?_)))))))))
  refine jcv E41 ζ ζ (kindV_ct i.Op) dn kn (jyn d0 (kc k0 kn) (jy ζ (jfo G91_0 O49 ζ ζ) (jyo ζ (jcd (ent_takesF _) ζ ζ takesF_ct (dc d2 dn) kn fun v8 q8 w8 => jyn d1 (kc k0 kn) (jy ζ (jas ζ) (jyd (jx (jrt ?_))))))))
  exact jrD ζ ζ (by rfl) d0
theorem pMakes_ct {a0 : Value} {i : D.Mach} : Td Tryz.prog 75 #[vMach i a0] [da rMach (vMach i a0) i] [] (rL (rI .i64)) (makesM i) := by
  refine jenter (args := [vMach i a0]) Tryz.func75 rfl rfl rfl fun w0 X => ?_
  refine jq (jr (jbox ζ ζ fun g1 => ja ζ (jn (jx (jq (jany false (.a 0 (.a 1 (.a 4 (.o 2 (.a 3 (.o 5 (.a 6 .e))))))) Mixed (by kernel_rfl) (kc k0 kn) fun F1 => jy ζ (jf F46_0 ζ) (jy ζ (jl k0 O3 ζ ζ) (jy ζ (jla k0 A46 Z46 ζ ζ ζ) (jyo ζ ?_)))))))))
  refine jcv E41 ζ ζ (kindV_ct i.Op) dn kn (jyn d0 (kc k0 kn) (jy ζ (jfo G91_1 O49 ζ ζ) (jyo ζ (jcd (ent_makesF _) ζ ζ makesF_ct (dc d2 dn) kn fun v8 q8 w8 => jyn d1 (kc k0 kn) (jy ζ (jas ζ) (jyd (jx (jrt ?_))))))))
  exact jrD ζ ζ (by rfl) d0
end Go.Proofs.YtdlcjaefkjbonaaGreat
namespace Go.Proofs.YtdlcjaefkjbonaaGreat
set_option linter.unusedVariables false
set_option linter.unusedSimpArgs false
set_option linter.unusedSectionVars false
open Go.JE
abbrev U34 := @Tryz.underlying34
theorem E72 : Ent Tryz.prog 72 := ⟨_, Tryz.func72, by kernel_rfl, by kernel_rfl⟩
theorem Z21 : Sz Tryz.prog 21 1 := by unfold Sz; kernel_rfl
def getM (regs : List Int) (r : Int) : Int := if r < 0 ∨ regs.length ≤ r then 0 else ix regs r.toNat
def setM (regs : List Int) (r v : Int) : List Int := if 0 ≤ r ∧ r < regs.length then regs.set r.toNat v else regs
def loadM (mem : List Int) (at' : Int) : Int × Bool := if at' < 0 ∨ mem.length ≤ at' then (0, false) else (ix mem at'.toNat, true)
def storeM (mem : List Int) (at' v : Int) : List Int := if at' < 0 ∨ mem.length ≤ at' then mem else mem.set at'.toNat v
theorem loadM_ok {mem : List Int} {a : Int} (h : (loadM mem a).2 = true) : 0 ≤ a ∧ a < mem.length := by
  unfold loadM at h; split at h
  · cases h
  · omega
theorem loadM_no {mem : List Int} {a : Int} (h : (loadM mem a).2 = false) : a < 0 ∨ mem.length ≤ a := by
  unfold loadM at h; split at h
  · assumption
  · cases h
def storeOk (mem : List Int) (at' _x : Int) : Bool := (loadM mem at').2
def memM (i : D.Input) : List Int := i.Mem.take 4096
def goesM (e : D.End) (regs : List Int) : Int :=
  if e.Op = 1 then 0
  else if e.Op = 2 then (if getM regs e.A ≠ 0 then 0 else 1)
  else if e.Op = 3 then (if getM regs e.A = getM regs e.B then 0 else 1)
  else if e.Op = 4 then (if getM regs e.A < getM regs e.B then 0 else 1)
  else if e.Op = 5 then (if u32 (getM regs e.A) < u32 (getM regs e.B) then 0 else 1)
  else if e.Op = 6 then (if u32 (getM regs e.A) < e.To.length - 1 then u32 (getM regs e.A) else e.To.length - 1)
  else -1
def immOp (op : Int) : Int := ix [2, 5, 8, 9, 10] (op - 18).toNat
def stepM (i : D.Mach) (regs mem : List Int) : (Int × Bool) × List Int × List Int :=
  if i.Op = 1 then ((0, true), setM regs i.D (getM regs i.A), mem)
  else if i.Op = 2 then ((0, true), setM (setM regs i.A (getM regs i.B)) i.B (getM regs i.A), mem)
  else if i.Op = 3 ∨ i.Op = 4 then ((0, true), setM regs i.D i.Imm, mem)
  else if 5 ≤ i.Op ∧ i.Op ≤ 17 then
    if (doM (i.Op - 5 + 2) (getM regs i.A) (getM regs i.B)).2 = true then ((0, true), setM regs i.D (doM (i.Op - 5 + 2) (getM regs i.A) (getM regs i.B)).1, mem) else ((-1, false), regs, mem)
  else if 18 ≤ i.Op ∧ i.Op ≤ 22 then ((0, true), setM regs i.D (doM (immOp i.Op) (getM regs i.A) i.Imm).1, mem)
  else if i.Op = 23 then ((0, true), setM regs i.D (w32 (w32 (getM regs i.A * getM regs i.B) + getM regs i.C)), mem)
  else if i.Op = 24 then
    if (loadM mem (w32 (getM regs i.A + i.Imm))).2 = true then ((0, true), setM regs i.D (loadM mem (w32 (getM regs i.A + i.Imm))).1, mem) else ((-2, false), regs, mem)
  else if i.Op = 25 then
    if (loadM mem (w32 (getM regs i.A + getM regs i.B))).2 = true then ((0, true), setM regs i.D (loadM mem (w32 (getM regs i.A + getM regs i.B))).1, mem) else ((-2, false), regs, mem)
  else if i.Op = 26 then
    ((if storeOk mem (w32 (getM regs i.A + i.Imm)) (getM regs i.B) = true then (0, true) else (-2, false)), regs, storeM mem (w32 (getM regs i.A + i.Imm)) (getM regs i.B))
  else if i.Op = 27 then
    ((if storeOk mem (w32 (getM regs i.A + getM regs i.B)) (getM regs i.C) = true then (0, true) else (-2, false)), regs, storeM mem (w32 (getM regs i.A + getM regs i.B)) (getM regs i.C))
  else if i.Op = 29 then ((0, true), setM (setM regs i.D (wideM (getM regs i.A) (getM regs i.B)).1) i.E (wideM (getM regs i.A) (getM regs i.B)).2, mem)
  else ((0, true), regs, mem)
theorem wide_prog {a b : Int} (ha : IntKind.i32.wrap a = a) (hb : IntKind.i32.wrap b = b) :
    wideM a b = (IntKind.i32.wrap (a * b), IntKind.i32.wrap (shrI .i64 (a * b) 32)) := by
  have h1 := i32_rng ha
  have h2 := i32_rng hb
  have h3 := mul_rng h1 h2
  unfold wideM shrI
  have e1 : (2 : Int) ^ (min (32 : Int).toNat IntKind.i64.bits) = 4294967296 := by decide
  rw [e1]
def setAllM : List Int → List Int → Int → List Int
  | rs, [], _ => rs
  | rs, r :: l, v => setAllM (setM rs r v) l v
theorem setM_len (rs : List Int) (r v : Int) : (setM rs r v).length = rs.length := by unfold setM; split <;> simp
theorem storeM_len (rs : List Int) (r v : Int) : (storeM rs r v).length = rs.length := by unfold storeM; split <;> simp
theorem take_min {α : Type} (l : List α) (n : Nat) (m : Int) (h : m = n) : l.take n = l.take (Int.toNat (min (↑l.length) m)) := by
  subst h
  rcases Nat.le_total l.length n with h | h
  · rw [List.take_of_length_le h, List.take_of_length_le (by omega)]
  · congr 1; omega
theorem getM_wrG {E B : Nat} {F : PH} {H : Heap} {v : Value} {l : List Int} (h : Gl (rI .i32) E F H B v l) (r : Int) : IntKind.i32.wrap (getM l r) = getM l r := by
  unfold getM; split
  · decide
  · exact h.wr (by omega)
theorem loadM_wrG {E B : Nat} {F : PH} {H : Heap} {v : Value} {l : List Int} (h : Gl (rI .i32) E F H B v l) (r : Int) : IntKind.i32.wrap (loadM l r).1 = (loadM l r).1 := by
  unfold loadM; split
  · decide
  · exact h.wr (by omega)
theorem sar_wr {a : Int} (b : Int) (ha : IntKind.i32.wrap a = a) : IntKind.i32.wrap (sarM a b) = sarM a b := by
  have h1 := i32_rng ha
  unfold sarM
  have h2 : (0 : Int) < 2 ^ (b % 32).toNat := Int.pow_pos (by decide)
  rw [Int.fdiv_eq_ediv_of_nonneg _ (by omega)]
  refine IntWalk.i32_in _ ⟨?_, ?_⟩
  · rw [Int.le_ediv_iff_mul_le h2]
    have : (-2147483648 : Int) * 2 ^ (b % 32).toNat ≤ -2147483648 * 1 := by
      have := Int.mul_le_mul_of_nonneg_left (show (1 : Int) ≤ 2 ^ (b % 32).toNat by omega) (show (0 : Int) ≤ 2147483648 by decide)
      omega
    omega
  · have := Int.ediv_le_self (b := 2 ^ (b % 32).toNat) (a := a)
    by_cases h : 0 ≤ a
    · have := this h; omega
    · have := Int.ediv_neg_of_neg_of_pos (a := a) (b := 2 ^ (b % 32).toNat) (by omega) h2
      omega
theorem bit_wr (b : Bool) : IntKind.i32.wrap (bitM b) = bitM b := by cases b <;> decide
theorem doM_wr (op : Int) {a : Int} (b : Int) (ha : IntKind.i32.wrap a = a) : IntKind.i32.wrap (doM op a b).1 = (doM op a b).1 := by
  by_cases h : 2 ≤ op ∧ op ≤ 14
  · have hc : op = 2 ∨ op = 3 ∨ op = 4 ∨ op = 5 ∨ op = 6 ∨ op = 7 ∨ op = 8 ∨ op = 9 ∨ op = 10 ∨ op = 11 ∨ op = 12 ∨ op = 13 ∨ op = 14 := by omega
    rcases hc with rfl | rfl | rfl | rfl | rfl | rfl | rfl | rfl | rfl | rfl | rfl | rfl | rfl
    · exact wrap_wrap _ _
    · exact wrap_wrap _ _
    · exact wrap_wrap _ _
    · exact wrap_wrap _ _
    · exact wrap_wrap _ _
    · exact wrap_wrap _ _
    · exact wrap_wrap _ _
    · exact wrap_wrap _ _
    · exact sar_wr b ha
    · exact bit_wr _
    · exact bit_wr _
    · exact bit_wr _
    · have e1 : doM 14 a b = if b = 0 then (0, false) else (divM a b, true) := rfl
      rw [e1]; split
      · decide
      · exact wrap_wrap _ _
  · have e1 : doM op a b = (0, false) := by unfold doM; repeat rw [if_neg (by omega)]
    rw [e1]; decide
theorem wgt {D : List Dt} {L M : List Res} {B E : Nat} {v : Value} {l : List Int} (hk : Tk L (gl B (rI .i32) E v l) M) (r : Int) : Wr D L .i32 (getM l r) := fun _ _ _ _ z => getM_wrG (hk.ok z).1.1 r
theorem wld {D : List Dt} {L M : List Res} {B E : Nat} {v : Value} {l : List Int} (hk : Tk L (gl B (rI .i32) E v l) M) (r : Int) : Wr D L .i32 (loadM l r).1 := fun _ _ _ _ z => loadM_wrG (hk.ok z).1.1 r
theorem wdo {D : List Dt} {L : List Res} {op a b : Int} (h : Wr D L .i32 a) : Wr D L .i32 (doM op a b).1 := fun F H x y z => doM_wr _ _ (h F H x y z)
theorem wWide_ct (a : Int) (b : Int) (ww0 : IntKind.i32.wrap a = a) (ww1 : IntKind.i32.wrap b = b) : Tv Tryz.prog 74 #[.int .i32 a, .int .i32 b] [] [] (.tuple #[.int .i32 ((wideM a b).1), .int .i32 ((wideM a b).2)]) := by
  refine jenter (args := [.int .i32 a, .int .i32 b]) Tryz.func74 rfl rfl rfl fun w0 X => ?_
  have b0 := i32_rng ww0
  have b1 := i32_rng ww1
  have b2 := mul_rng b0 b1
  have c0 := IntWalk.i64_in a (by omega)
  have c1 := IntWalk.i64_in b (by omega)
  refine jq (jr (ja ζ (ja ζ (jn (jx (jq (jr (jm ζ (js (jco U21 U2 ζ (up_i32_i64 ww0)) (jm ζ (js (jco U21 U2 ζ (up_i32_i64 ww1)) ?_)))))))))))
  refine js (jmul ζ ζ (by omega)) (ja ζ (jn (jx (jq (jr (jm ζ (js (jco U2 U21 ζ ζ) (jm ζ (js (jshr ζ ζ (by decide)) (js (jco U2 U21 ζ ζ) (ja ζ ?_)))))))))))
  refine ja ζ (jn (jx (jrt ?_)))
  exact jr2 ζ ζ ζ () (tII (wide_prog ww0 ww1)) dn (fun _ _ => kn)
theorem pGet_ct {a0 : Value} {regs : List Int} (r : Int) : Tv Tryz.prog 34 #[a0, .int .i64 r] [dv (rL (rI .i32)) a0 regs] [] (.int .i32 (getM regs r)) := by
  refine jenter (args := [a0, .int .i64 r]) Tryz.func34 rfl rfl rfl fun w0 X => ?_
  refine jq (jr (ja ζ (jn (jx (jq (jq (jr (jm ζ (js (jlss ζ ζ) (jm ζ (jg ζ ζ (.f _) (fun hg => jmv ζ) ?_)))))))))))
  refine jg ζ ζ (.f _) (fun hg => jmv ζ) (jdq d0 fun q1 w1 => jg ζ ζ (.f _) (fun hg => jln U34 d0 (evg ζ hg)) (jg ζ ζ (.f _) (fun hg => jgeq (evg ζ hg) (evg ζ hg)) (js (jor ζ ζ) (jn (jx ?_)))))
  refine jif ζ (fun hc1 => ?_) (fun hc1 => ?_)
  refine jq (jr (ja ζ (jn (jx (jrt (jtr ?_))))))
  exact jrI ζ ζ (by first | (simp [getM, hc1]; done) | (unfold getM; (repeat' split) <;> first | rfl | (exfalso; omega) | (simp [getM, hc1]; done)))
  refine jsk (jx (jq (jr (jm ζ (jm ζ (js (jix (i := (Int.toNat r)) U34 Z21 d0 ζ ζ (by omega) (by omega)) (js (jlI (dix d0 (Int.toNat r) (by omega)) O21 ζ) (ja ζ (jn (jx (jrt ?_)))))))))))
  exact jrI ζ ζ (by first | (simp [getM, hc1]; done) | (unfold getM; (repeat' split) <;> first | rfl | (exfalso; omega) | (simp [getM, hc1]; done)))
theorem pLoad_ct {a0 : Value} {mem : List Int} (at' : Int) (ww1 : IntKind.i32.wrap at' = at') : Tv Tryz.prog 72 #[a0, .int .i32 at'] [dv (rL (rI .i32)) a0 mem] [] (.tuple #[.int .i32 ((loadM mem at').1), .bool ((loadM mem at').2)]) := by
  refine jenter (args := [a0, .int .i32 at']) Tryz.func72 rfl rfl rfl fun w0 X => ?_
  refine jq (jr (ja ζ (ja ζ (jn (jx (jq (jq (jr (jm ζ (js (jlss ζ ζ) (jm ζ ?_)))))))))))
  refine jg ζ ζ (.f _) (fun hg => jmv ζ) (jg ζ ζ (.f _) (fun hg => jco U21 U3 (evg ζ hg) (up_i32_i64 ww1)) (jg ζ ζ (.f _) (fun hg => jmv ζ) (jdq d0 fun q1 w1 => jg ζ ζ (.f _) (fun hg => jln U34 d0 (evg ζ hg)) (jg ζ ζ (.f _) (fun hg => jgeq (evg ζ hg) (evg ζ hg)) (js (jor ζ ζ) (jn (jx ?_)))))))
  refine jif ζ (fun hc1 => ?_) (fun hc1 => ?_)
  refine jq (jr (ja ζ (ja ζ (jn (jx (jrt (jtr ?_)))))))
  exact jr2 ζ ζ ζ () (tIB (by first | (simp [loadM, hc1]; done) | (unfold loadM; (repeat' split) <;> first | rfl | (exfalso; omega) | (simp [loadM, hc1]; done)))) dn (fun _ _ => kn)
  refine jsk (jx (jq (jr (jm ζ (jm ζ (js (jix (i := (Int.toNat (at'))) U34 Z21 d0 ζ ζ (by omega) (by omega)) (js (jlI (dix d0 (Int.toNat (at')) (by omega)) O21 ζ) (ja ζ (ja ζ (jn (jx ?_)))))))))))
  refine jrt ?_
  exact jr2 ζ ζ ζ () (tIB (by first | (simp [loadM, hc1]; done) | (unfold loadM; (repeat' split) <;> first | rfl | (exfalso; omega) | (simp [loadM, hc1]; done)))) dn (fun _ _ => kn)
theorem pStore_ct {a0 : Value} {mem : List Int} {B0 : Nat} (at' : Int) (x : Int) (hl : mem.length < 1073741824) (ww1 : IntKind.i32.wrap at' = at') (ww2 : IntKind.i32.wrap x = x) : Tr Tryz.prog 73 #[a0, .int .i32 at', .int .i32 x] [] [gl B0 (rI .i32) 21 a0 mem] (fun _ : Unit => .bool (storeOk mem at' x)) (fun _ => []) (fun _ _ => [gl B0 (rI .i32) 21 a0 (storeM mem (at') x)]) := by
  refine jenter (args := [a0, .int .i32 at', .int .i32 x]) Tryz.func73 rfl rfl rfl fun w0 X => ?_
  refine cgo k0 fun w1 => jq (jr (ja ζ (jn (jx (jq (jr (jm ζ (jm ζ (jc E72 ζ ζ (Tv.temp 1073741824 (pLoad_ct (at') ww1) (by omega)) dn (kc k0 kn) (fun _ => p0) (fun _ => p1) fun _ => jm ζ ?_)))))))))
  refine js (jex' ζ ζ) (js (jex' ζ ζ) (ja ζ (ja ζ (jn (jx (jq (jq (jr (jm ζ (jn (jx ?_)))))))))))
  refine jif ζ (fun hc1 => ?_) (fun hc1 => ?_)
  have hb := loadM_ok hc1
  refine jr (jm ζ (jm ζ (jm ζ (js (jig (i := (Int.toNat (at'))) U34 Z21 k0 ζ ζ (by omega) (by omega)) (jsg k0 ζ Z21 ζ ζ ζ (by omega) (wI (wp ww2)) (jn (jx (jq (jr (jm ζ (ja ζ ?_)))))))))))
  refine jn (jx (jrt ?_))
  exact jr1 ζ ζ () (congrArg Value.bool (Eq.symm (by first | (simp [storeOk, *]; done)))) dn (fun _ _ => (kcg (by first | (simp [storeM, *]; done) | (unfold storeM; rw [if_neg (by omega)]; done) | (unfold storeM; rw [if_pos (by omega)]; done)) k0 kn))
  have hb := loadM_no hc1
  refine jsk (jx (jq (jr (jm ζ (ja ζ (jn (jx (jrt ?_))))))))
  exact jr1 ζ ζ () (congrArg Value.bool (Eq.symm (by first | (simp [storeOk, *]; done)))) dn (fun _ _ => (kcg (by first | (simp [storeM, *]; done) | (unfold storeM; rw [if_neg (by omega)]; done) | (unfold storeM; rw [if_pos (by omega)]; done)) k0 kn))
end Go.Proofs.YtdlcjaefkjbonaaGreat
namespace Go.Proofs.YtdlcjaefkjbonaaGreat
set_option linter.unusedVariables false
set_option linter.unusedSimpArgs false
set_option linter.unusedSectionVars false
open Go.JE
theorem E34 : Ent Tryz.prog 34 := ⟨_, Tryz.func34, by kernel_rfl, by kernel_rfl⟩
theorem E67 : Ent Tryz.prog 67 := ⟨_, Tryz.func67, by kernel_rfl, by kernel_rfl⟩
theorem F36_1 : Fld Tryz.prog 36 1 1 := ⟨_, _, Tryz.underlying36, rfl, rfl, 1, (by unfold Sz; kernel_rfl), by decide⟩
theorem F59_3 : Fld Tryz.prog 59 3 3 := ⟨_, _, Tryz.underlying59, rfl, rfl, 1, (by unfold Sz; kernel_rfl), by decide⟩
theorem I21 : (Tryz.prog.info? 21).map (fun i => (i.zero, i.size, i.bytes)) = some (some (.int .i32 0), 1, 4) := by kernel_rfl
theorem O34 : One Tryz.prog 34 := ⟨_, Tryz.underlying34, rfl⟩
theorem pGoes_ct {a0 : Value} {e : D.End} {a1 : Value} {regs : List Int} : Tv Tryz.prog 35 #[vEnd e a0, a1] [da rEnd (vEnd e a0) e, dv (rL (rI .i32)) a1 regs] [] (.int .i64 (goesM e regs)) := by
  refine jenter (args := [vEnd e a0, a1]) Tryz.func35 rfl rfl rfl fun w0 X => ?_
  refine jq (jr (jbox ζ ζ fun g2 => ja ζ (jn (jx (jq (jany false (.a 0 (.a 1 (.a 2 (.a 4 (.a 5 (.a 6 (.o 3 (.o 7 (.a 8 (.a 9 .e)))))))))) Mixed (by kernel_rfl) (kc k0 kn) fun F1 => jy ζ (jmv ζ) (jy ζ (jf F59_1 ζ) (jy ζ (jl k0 O3 ζ ζ) (jy ζ (jmv ζ) ?_)))))))))
  refine jy ζ (jf F59_2 ζ) (jy ζ (jl k0 O3 ζ ζ) (jyo ζ (jdq d2 fun q3 w3 => jcv E34 ζ ζ (pGet_ct e.A) (dc d2 dn) kn (jyn d0 (kc k0 kn) (jyo ζ (jcv E34 ζ ζ (pGet_ct e.B) (dc d3 dn) kn (jyn d0 (kc k0 kn) (jy ζ (jas ζ) (jy ζ (jas ζ) (jyd ?_))))))))))
  refine jx (jq (jr (ja ζ (jn (jx (jq (jq (jr (js (jf F59_0 ζ) (js (jl k0 O3 ζ ζ) (jn ?_)))))))))))
  refine jx (jb (jq (jr (js (jeql ζ ζ) (ja ζ (jn (jx ?_)))))))
  refine jif ζ (fun hc1 => ?_) (fun hc1 => ?_)
  refine jr (ja ζ (jn (jbn (jx (jq (jq (jr (jm ζ (jn (jx ?_))))))))))
  refine jif ζ (fun hc2 => ?_) (fun hc2 => ?_)
  refine jq (jr (ja ζ (jn (jx (jrt (jtr ?_))))))
  exact jrI ζ ζ (by first | (simp [goesM, *]; done) | (unfold goesM; (repeat' split) <;> first | rfl | (exfalso; omega) | simp_all))
  exact absurd hc2 (by simp)
  refine jq (jr (js (jeql ζ ζ) (ja ζ (jn (jx ?_)))))
  refine jif ζ (fun hc3 => ?_) (fun hc3 => ?_)
  refine jr (jm ζ (js (jneq ζ ζ) (ja ζ (jn (jbn (jx (jq (jq (jr (jm ζ (jn ?_)))))))))))
  refine jx ?_
  refine jif ζ (fun hc4 => ?_) (fun hc4 => ?_)
  refine jq (jr (ja ζ (jn (jx (jrt (jtr ?_))))))
  exact jrI ζ ζ (by first | (simp [goesM, *]; done) | (unfold goesM; (repeat' split) <;> first | rfl | (exfalso; omega) | simp_all))
  refine jsk (jx (jq (jr (ja ζ (jn (jx (jrt ?_)))))))
  exact jrI ζ ζ (by first | (simp [goesM, *]; done) | (unfold goesM; (repeat' split) <;> first | rfl | (exfalso; omega) | simp_all))
  refine jq (jr (js (jeql ζ ζ) (ja ζ (jn (jx ?_)))))
  refine jif ζ (fun hc5 => ?_) (fun hc5 => ?_)
  refine jr (jm ζ (jm ζ (js (jeql ζ ζ) (ja ζ (jn (jbn (jx (jq (jq (jr (jm ζ ?_)))))))))))
  refine jn (jx ?_)
  refine jif ζ (fun hc6 => ?_) (fun hc6 => ?_)
  refine jq (jr (ja ζ (jn (jx (jrt (jtr ?_))))))
  exact jrI ζ ζ (by first | (simp [goesM, *]; done) | (unfold goesM; (repeat' split) <;> first | rfl | (exfalso; omega) | simp_all))
  refine jsk (jx (jq (jr (ja ζ (jn (jx (jrt ?_)))))))
  exact jrI ζ ζ (by first | (simp [goesM, *]; done) | (unfold goesM; (repeat' split) <;> first | rfl | (exfalso; omega) | simp_all))
  refine jq (jr (js (jeql ζ ζ) (ja ζ (jn (jx ?_)))))
  refine jif ζ (fun hc7 => ?_) (fun hc7 => ?_)
  refine jr (jm ζ (jm ζ (js (jlss ζ ζ) (ja ζ (jn (jbn (jx (jq (jq (jr (jm ζ ?_)))))))))))
  refine jn (jx ?_)
  refine jif ζ (fun hc8 => ?_) (fun hc8 => ?_)
  refine jq (jr (ja ζ (jn (jx (jrt (jtr ?_))))))
  exact jrI ζ ζ (by first | (simp [goesM, *]; done) | (unfold goesM; (repeat' split) <;> first | rfl | (exfalso; omega) | simp_all))
  refine jsk (jx (jq (jr (ja ζ (jn (jx (jrt ?_)))))))
  exact jrI ζ ζ (by first | (simp [goesM, *]; done) | (unfold goesM; (repeat' split) <;> first | rfl | (exfalso; omega) | simp_all))
  refine jq (jr (js (jeql ζ ζ) (ja ζ (jn (jx ?_)))))
  refine jif ζ (fun hc9 => ?_) (fun hc9 => ?_)
  refine jr (jm ζ (js (jco U21 U139 ζ ζ) (jm ζ (js (jco U21 U139 ζ ζ) (js (jlss ζ ζ) (ja ζ (jn (jbn (jx (jq (jq ?_)))))))))))
  refine jr (jm ζ (jn (jx ?_)))
  refine jif ζ (fun hc10 => ?_) (fun hc10 => ?_)
  refine jq (jr (ja ζ (jn (jx (jrt (jtr ?_))))))
  exact jrI ζ ζ (by first | (simp [goesM, *]; done) | (unfold goesM; (repeat' split) <;> first | rfl | (exfalso; omega) | simp_all))
  refine jsk (jx (jq (jr (ja ζ (jn (jx (jrt ?_)))))))
  exact jrI ζ ζ (by first | (simp [goesM, *]; done) | (unfold goesM; (repeat' split) <;> first | rfl | (exfalso; omega) | simp_all))
  refine jq (jr (js (jeql ζ ζ) (ja ζ (jn (jx ?_)))))
  refine jif ζ (fun hc11 => ?_) (fun hc11 => ?_)
  refine jq (jr (js (jf F59_3 ζ) (js (jl k0 O22 ζ ζ) (jdq (rEnd.c_To d2) fun q5 w5 => js (jln U22 (rEnd.c_To d2) ζ) (js (jsub ζ ζ (by omega)) (ja ζ (jn (jx (jq (jq ?_))))))))))
  refine jr (jm ζ (js (jco U21 U139 ζ ζ) (js (jco U139 U2 ζ (up_u32_i64 (wrap_wrap _ _))) (ja ζ (jn (jx (jq (jr (jm ζ (jm ζ (js (jlss ζ ζ) ?_)))))))))))
  refine jn (jx ?_)
  refine jif ζ (fun hc12 => ?_) (fun hc12 => ?_)
  refine jq (jr (jm ζ (ja ζ (jn (jx (jrt (jtr (jbr (jtr ?_)))))))))
  exact jrI ζ ζ (by first | (simp [goesM, *]; done) | (unfold goesM; (repeat' split) <;> first | rfl | (exfalso; omega) | simp_all))
  refine jsk (jx (jq (jr (jm ζ (ja ζ (jn (jx (jrt (jbr (jtr ?_))))))))))
  exact jrI ζ ζ (by first | (simp [goesM, *]; done) | (unfold goesM; (repeat' split) <;> first | rfl | (exfalso; omega) | simp_all))
  refine jq (jr (ja ζ (jn (jx (jrt (jbr (jtr ?_)))))))
  exact jrI ζ ζ (by first | (simp [goesM, *]; done) | (unfold goesM; (repeat' split) <;> first | rfl | (exfalso; omega) | simp_all))
theorem clone32_ct {a0 : Value} {l : List Int} : Tg Tryz.prog 67 #[a0] [dv (rL (rI .i32)) a0 l] [] (rI .i32) 21 l := by
  refine jenter (args := [a0]) Tryz.func67 rfl rfl rfl fun w0 X => ?_
  refine jq (jr (ja ζ (jn (jx (jq (jq (jr (jm ζ (jeb (jeqlNil U34 d0 ζ ζ) fun b4 hnil4 => jn (jx ?_))))))))))
  refine jif ζ (fun hc1 => ?_) (fun hc1 => ?_)
  refine jq (jr (ja ζ (jn (jx (jrt (jtr (qnl (r := (rI .i32)) (E := 21) ?_)))))))
  exact jrG ζ ζ (by first | rfl | exact hnil4 hc1) k0
  refine jsk (jx (jq (jr (jlit (r := (rI .i32)) (l := []) U34 I21 (by decide) ζ ζ ζ ln fun g5 => jm ζ (jdq d0 fun q2 w2 => japlz U34 I21 (by decide) ζ k0 ζ ζ d0 (by omega) fun v7 w3 => ja ζ (jn (jx (jrt ?_))))))))
  exact jrG ζ ζ (by first | rfl | exact hnil4 hc1) k0
theorem pMem_ct {a0a a0b a0c : Value} {i : D.Input} : Tg Tryz.prog 30 #[vInput i (a0a, a0b, a0c)] [da rInput (vInput i (a0a, a0b, a0c)) i] [] (rI .i32) 21 (memM i) := by
  refine jenter (args := [vInput i (a0a, a0b, a0c)]) Tryz.func30 rfl rfl rfl fun w0 X => ?_
  refine jq (jr (jbox ζ ζ fun g1 => ja ζ (jn (jx (jq (jr (js (jf F36_1 ζ) (js (jl k0 O34 ζ ζ) (js (jf F36_1 ζ) (js (jl k0 O34 ζ ζ) ?_))))))))))
  refine jdq (rInput.c_Mem d0) fun q1 w1 => js (jln U34 (rInput.c_Mem d0) ζ) (js (jmin ζ ζ) (js (jshi (hi := (Int.toNat (min (↑(List.length i.Mem)) 4096))) U34 Z21 (rInput.c_Mem d0) ζ ζ (by omega) (by omega)) (jdq (dhi (rInput.c_Mem d0) (Int.toNat (min (↑(List.length i.Mem)) 4096)) (by omega) (by omega)) fun q2 w2 => jcg E67 ζ ζ clone32_ct (dc (dhi (rInput.c_Mem d0) (Int.toNat (min (↑(List.length i.Mem)) 4096)) (by omega) (by omega)) dn) kn fun v10 w3 => ja ζ (jn (jx (jrt ?_))))))
  exact jrG ζ ζ (take_min _ 4096 _ rfl) k0
end Go.Proofs.YtdlcjaefkjbonaaGreat
