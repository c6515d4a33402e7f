/- Lemmas that the claim is made of. Conditions: each lemma names its own. -/
import Derived.Test.YtmfkkodnghambaaGreatKI3
import Derived.Test.YtmfkkodnghambaaGreatKI2
set_option linter.unusedSectionVars false
set_option linter.unusedSimpArgs false
set_option linter.unusedVariables false
namespace Go.Proofs.YtmfkkodnghambaaGreat
open Go.JE
abbrev U136 := @Tryz.underlying136
abbrev U201 := @Tryz.underlying201
abbrev U3 := @Tryz.underlying3
theorem E142 : Ent Tryz.prog 142 := ⟨_,Tryz.func142,by kernel_rfl,by kernel_rfl⟩
theorem E143 : Ent Tryz.prog 143 := ⟨_,Tryz.func143,by kernel_rfl,by kernel_rfl⟩
theorem E144 : Ent Tryz.prog 144 := ⟨_,Tryz.func144,by kernel_rfl,by kernel_rfl⟩
theorem E145 : Ent Tryz.prog 145 := ⟨_,Tryz.func145,by kernel_rfl,by kernel_rfl⟩
theorem E146 : Ent Tryz.prog 146 := ⟨_,Tryz.func146,by kernel_rfl,by kernel_rfl⟩
theorem E147 : Ent Tryz.prog 147 := ⟨_,Tryz.func147,by kernel_rfl,by kernel_rfl⟩
theorem E148 : Ent Tryz.prog 148 := ⟨_,Tryz.func148,by kernel_rfl,by kernel_rfl⟩
theorem E149 : Ent Tryz.prog 149 := ⟨_,Tryz.func149,by kernel_rfl,by kernel_rfl⟩
theorem E150 : Ent Tryz.prog 150 := ⟨_,Tryz.func150,by kernel_rfl,by kernel_rfl⟩
theorem E151 : Ent Tryz.prog 151 := ⟨_,Tryz.func151,by kernel_rfl,by kernel_rfl⟩
theorem E152 : Ent Tryz.prog 152 := ⟨_,Tryz.func152,by kernel_rfl,by kernel_rfl⟩
theorem E153 : Ent Tryz.prog 153 := ⟨_,Tryz.func153,by kernel_rfl,by kernel_rfl⟩
theorem E154 : Ent Tryz.prog 154 := ⟨_,Tryz.func154,by kernel_rfl,by kernel_rfl⟩
theorem E155 : Ent Tryz.prog 155 := ⟨_,Tryz.func155,by kernel_rfl,by kernel_rfl⟩
theorem O155 : One Tryz.prog 155 := ⟨_,Tryz.underlying155,rfl⟩
theorem O21 : One Tryz.prog 21 := ⟨_,Tryz.underlying21,rfl⟩
theorem Z155 : Sz Tryz.prog 155 1 := by unfold Sz; kernel_rfl
theorem J136 : (Tryz.prog.info? 136).bind (·.zero) = some (.nilFunc) := by kernel_rfl
theorem J155 : (Tryz.prog.info? 155).bind (·.zero) = some (.int .u32 0) := by kernel_rfl
theorem wDo1_ct (a : Int) {g0 : Nat} (b : Int) {g1 : Nat} : Tr Tryz.prog 142 #[.pointer (some ⟨g0,0,none⟩),.pointer (some ⟨g1,0,none⟩)] [] [bx g0 21 [.int .i32 a],bx g1 21 [.int .i32 b]] (fun _ : Unit => .int .i32 (w32 (a + b))) (fun _ => []) (fun _ _ => [bx g0 21 [.int .i32 a],bx g1 21 [.int .i32 b]]) := by
 refine jenter (args := [.pointer (some ⟨g0,0,none⟩),.pointer (some ⟨g1,0,none⟩)]) Tryz.func142 rfl rfl rfl fun w0 X => ?_
 refine jq (jr (ja Z (jn (jx (jq (jr (js (jl k0 O21 Z Z) (js (jl k1 O21 Z Z) (js (jaddw Z Z) (ja Z (jn ?_)))))))))))
 refine jx (jrt ?_)
 exact jr1 Z Z () (congrArg (Value.int .i32) (Eq.symm (by first | rfl | (simp [shl_prog,shr_prog,sar_prog]; done)))) dn (fun _ _ => (kd kn))
theorem wDo2_ct (a : Int) {g0 : Nat} (b : Int) {g1 : Nat} : Tr Tryz.prog 143 #[.pointer (some ⟨g0,0,none⟩),.pointer (some ⟨g1,0,none⟩)] [] [bx g0 21 [.int .i32 a],bx g1 21 [.int .i32 b]] (fun _ : Unit => .int .i32 (w32 (a - b))) (fun _ => []) (fun _ _ => [bx g0 21 [.int .i32 a],bx g1 21 [.int .i32 b]]) := by
 refine jenter (args := [.pointer (some ⟨g0,0,none⟩),.pointer (some ⟨g1,0,none⟩)]) Tryz.func143 rfl rfl rfl fun w0 X => ?_
 refine jq (jr (ja Z (jn (jx (jq (jr (js (jl k0 O21 Z Z) (js (jl k1 O21 Z Z) (js (jsubw Z Z) (ja Z (jn ?_)))))))))))
 refine jx (jrt ?_)
 exact jr1 Z Z () (congrArg (Value.int .i32) (Eq.symm (by first | rfl | (simp [shl_prog,shr_prog,sar_prog]; done)))) dn (fun _ _ => (kd kn))
theorem wDo3_ct (a : Int) {g0 : Nat} (b : Int) {g1 : Nat} : Tr Tryz.prog 144 #[.pointer (some ⟨g0,0,none⟩),.pointer (some ⟨g1,0,none⟩)] [] [bx g0 21 [.int .i32 a],bx g1 21 [.int .i32 b]] (fun _ : Unit => .int .i32 (w32 (a * b))) (fun _ => []) (fun _ _ => [bx g0 21 [.int .i32 a],bx g1 21 [.int .i32 b]]) := by
 refine jenter (args := [.pointer (some ⟨g0,0,none⟩),.pointer (some ⟨g1,0,none⟩)]) Tryz.func144 rfl rfl rfl fun w0 X => ?_
 refine jq (jr (ja Z (jn (jx (jq (jr (js (jl k0 O21 Z Z) (js (jl k1 O21 Z Z) (js (jmulw Z Z) (ja Z (jn ?_)))))))))))
 refine jx (jrt ?_)
 exact jr1 Z Z () (congrArg (Value.int .i32) (Eq.symm (by first | rfl | (simp [shl_prog,shr_prog,sar_prog]; done)))) dn (fun _ _ => (kd kn))
theorem wDo4_ct (a : Int) {g0 : Nat} (b : Int) {g1 : Nat} : Tr Tryz.prog 145 #[.pointer (some ⟨g0,0,none⟩),.pointer (some ⟨g1,0,none⟩)] [] [bx g0 21 [.int .i32 a],bx g1 21 [.int .i32 b]] (fun _ : Unit => .int .i32 (andI .i32 a b)) (fun _ => []) (fun _ _ => [bx g0 21 [.int .i32 a],bx g1 21 [.int .i32 b]]) := by
 refine jenter (args := [.pointer (some ⟨g0,0,none⟩),.pointer (some ⟨g1,0,none⟩)]) Tryz.func145 rfl rfl rfl fun w0 X => ?_
 refine jq (jr (ja Z (jn (jx (jq (jr (js (jl k0 O21 Z Z) (js (jl k1 O21 Z Z) (js (jandw Z Z) (ja Z (jn ?_)))))))))))
 refine jx (jrt ?_)
 exact jr1 Z Z () (congrArg (Value.int .i32) (Eq.symm (by first | rfl | (simp [shl_prog,shr_prog,sar_prog]; done)))) dn (fun _ _ => (kd kn))
theorem wDo5_ct (a : Int) {g0 : Nat} (b : Int) {g1 : Nat} : Tr Tryz.prog 146 #[.pointer (some ⟨g0,0,none⟩),.pointer (some ⟨g1,0,none⟩)] [] [bx g0 21 [.int .i32 a],bx g1 21 [.int .i32 b]] (fun _ : Unit => .int .i32 (orI .i32 a b)) (fun _ => []) (fun _ _ => [bx g0 21 [.int .i32 a],bx g1 21 [.int .i32 b]]) := by
 refine jenter (args := [.pointer (some ⟨g0,0,none⟩),.pointer (some ⟨g1,0,none⟩)]) Tryz.func146 rfl rfl rfl fun w0 X => ?_
 refine jq (jr (ja Z (jn (jx (jq (jr (js (jl k0 O21 Z Z) (js (jl k1 O21 Z Z) (js (jorw Z Z) (ja Z (jn ?_)))))))))))
 refine jx (jrt ?_)
 exact jr1 Z Z () (congrArg (Value.int .i32) (Eq.symm (by first | rfl | (simp [shl_prog,shr_prog,sar_prog]; done)))) dn (fun _ _ => (kd kn))
theorem wDo6_ct (a : Int) {g0 : Nat} (b : Int) {g1 : Nat} : Tr Tryz.prog 147 #[.pointer (some ⟨g0,0,none⟩),.pointer (some ⟨g1,0,none⟩)] [] [bx g0 21 [.int .i32 a],bx g1 21 [.int .i32 b]] (fun _ : Unit => .int .i32 (xorI .i32 a b)) (fun _ => []) (fun _ _ => [bx g0 21 [.int .i32 a],bx g1 21 [.int .i32 b]]) := by
 refine jenter (args := [.pointer (some ⟨g0,0,none⟩),.pointer (some ⟨g1,0,none⟩)]) Tryz.func147 rfl rfl rfl fun w0 X => ?_
 refine jq (jr (ja Z (jn (jx (jq (jr (js (jl k0 O21 Z Z) (js (jl k1 O21 Z Z) (js (jxorw Z Z) (ja Z (jn ?_)))))))))))
 refine jx (jrt ?_)
 exact jr1 Z Z () (congrArg (Value.int .i32) (Eq.symm (by first | rfl | (simp [shl_prog,shr_prog,sar_prog]; done)))) dn (fun _ _ => (kd kn))
theorem wDo7_ct (a : Int) {g0 : Nat} (b : Int) {g1 : Nat} : Tr Tryz.prog 148 #[.pointer (some ⟨g0,0,none⟩),.pointer (some ⟨g1,0,none⟩)] [] [bx g0 21 [.int .i32 a],bx g1 155 [.int .u32 (Int.tmod (IntKind.u32.wrap b) 32)]] (fun _ : Unit => .int .i32 (shlM a b)) (fun _ => []) (fun _ _ => [bx g0 21 [.int .i32 a],bx g1 155 [.int .u32 (Int.tmod (IntKind.u32.wrap b) 32)]]) := by
 refine jenter (args := [.pointer (some ⟨g0,0,none⟩),.pointer (some ⟨g1,0,none⟩)]) Tryz.func148 rfl rfl rfl fun w0 X => ?_
 refine jq (jr (ja Z (jn (jx (jq (jr (js (jl k0 O21 Z Z) (js (jl k1 O155 Z Z) (js (jshl Z Z (by rw [tmod32]; omega)) (ja Z (jn ?_)))))))))))
 refine jx (jrt ?_)
 exact jr1 Z Z () (congrArg (Value.int .i32) (Eq.symm (by first | rfl | (simp [shl_prog,shr_prog,sar_prog]; done)))) dn (fun _ _ => (kd kn))
theorem wDo8_ct (a : Int) {g0 : Nat} (b : Int) {g1 : Nat} : Tr Tryz.prog 149 #[.pointer (some ⟨g0,0,none⟩),.pointer (some ⟨g1,0,none⟩)] [] [bx g0 21 [.int .i32 a],bx g1 155 [.int .u32 (Int.tmod (IntKind.u32.wrap b) 32)]] (fun _ : Unit => .int .i32 (shrM a b)) (fun _ => []) (fun _ _ => [bx g0 21 [.int .i32 a],bx g1 155 [.int .u32 (Int.tmod (IntKind.u32.wrap b) 32)]]) := by
 refine jenter (args := [.pointer (some ⟨g0,0,none⟩),.pointer (some ⟨g1,0,none⟩)]) Tryz.func149 rfl rfl rfl fun w0 X => ?_
 refine jq (jr (ja Z (jn (jx (jq (jr (js (jl k0 O21 Z Z) (js (jco U21 U155 Z Z) (js (jl k1 O155 Z Z) (js (jshr Z Z (by rw [tmod32]; omega)) (js (jco U155 U21 Z Z) ?_)))))))))))
 refine ja Z (jn (jx (jrt ?_)))
 exact jr1 Z Z () (congrArg (Value.int .i32) (Eq.symm (by first | rfl | (simp [shl_prog,shr_prog,sar_prog]; done)))) dn (fun _ _ => (kd kn))
theorem wDo9_ct (a : Int) {g0 : Nat} (b : Int) {g1 : Nat} : Tr Tryz.prog 150 #[.pointer (some ⟨g0,0,none⟩),.pointer (some ⟨g1,0,none⟩)] [] [bx g0 21 [.int .i32 a],bx g1 155 [.int .u32 (Int.tmod (IntKind.u32.wrap b) 32)]] (fun _ : Unit => .int .i32 (sarM a b)) (fun _ => []) (fun _ _ => [bx g0 21 [.int .i32 a],bx g1 155 [.int .u32 (Int.tmod (IntKind.u32.wrap b) 32)]]) := by
 refine jenter (args := [.pointer (some ⟨g0,0,none⟩),.pointer (some ⟨g1,0,none⟩)]) Tryz.func150 rfl rfl rfl fun w0 X => ?_
 refine jq (jr (ja Z (jn (jx (jq (jr (js (jl k0 O21 Z Z) (js (jl k1 O155 Z Z) (js (jshr Z Z (by rw [tmod32]; omega)) (ja Z (jn ?_)))))))))))
 refine jx (jrt ?_)
 exact jr1 Z Z () (congrArg (Value.int .i32) (Eq.symm (by first | rfl | (simp [shl_prog,shr_prog,sar_prog]; done)))) dn (fun _ _ => (kd kn))
theorem wDo10_ct (a : Int) {g0 : Nat} (b : Int) {g1 : Nat} : Tr Tryz.prog 151 #[.pointer (some ⟨g0,0,none⟩),.pointer (some ⟨g1,0,none⟩)] [] [bx g0 21 [.int .i32 a],bx g1 21 [.int .i32 b]] (fun _ : Unit => .int .i32 (bitM (decide (a = b)))) (fun _ => []) (fun _ _ => [bx g0 21 [.int .i32 a],bx g1 21 [.int .i32 b]]) := by
 refine jenter (args := [.pointer (some ⟨g0,0,none⟩),.pointer (some ⟨g1,0,none⟩)]) Tryz.func151 rfl rfl rfl fun w0 X => ?_
 refine jq (jr (ja Z (jn (jx (jq (jr (js (jl k0 O21 Z Z) (js (jl k1 O21 Z Z) (js (jeql Z Z) (jcv E152 Z Z (wbit_ct (decide (a = b))) dn kn (ja Z ?_)))))))))))
 refine jn (jx (jrt ?_))
 exact jr1 Z Z () (congrArg (Value.int .i32) (Eq.symm (by first | rfl | (simp [shl_prog,shr_prog,sar_prog]; done)))) dn (fun _ _ => (kd kn))
theorem wDo11_ct (a : Int) {g0 : Nat} (b : Int) {g1 : Nat} : Tr Tryz.prog 153 #[.pointer (some ⟨g0,0,none⟩),.pointer (some ⟨g1,0,none⟩)] [] [bx g0 21 [.int .i32 a],bx g1 21 [.int .i32 b]] (fun _ : Unit => .int .i32 (bitM (decide (a < b)))) (fun _ => []) (fun _ _ => [bx g0 21 [.int .i32 a],bx g1 21 [.int .i32 b]]) := by
 refine jenter (args := [.pointer (some ⟨g0,0,none⟩),.pointer (some ⟨g1,0,none⟩)]) Tryz.func153 rfl rfl rfl fun w0 X => ?_
 refine jq (jr (ja Z (jn (jx (jq (jr (js (jl k0 O21 Z Z) (js (jl k1 O21 Z Z) (js (jlss Z Z) (jcv E152 Z Z (wbit_ct (decide (a < b))) dn kn (ja Z ?_)))))))))))
 refine jn (jx (jrt ?_))
 exact jr1 Z Z () (congrArg (Value.int .i32) (Eq.symm (by first | rfl | (simp [shl_prog,shr_prog,sar_prog]; done)))) dn (fun _ _ => (kd kn))
theorem wDo12_ct (a : Int) {g0 : Nat} (b : Int) {g1 : Nat} : Tr Tryz.prog 154 #[.pointer (some ⟨g0,0,none⟩),.pointer (some ⟨g1,0,none⟩)] [] [bx g0 21 [.int .i32 a],bx g1 21 [.int .i32 b]] (fun _ : Unit => .int .i32 (bitM (decide (u32 a < u32 b)))) (fun _ => []) (fun _ _ => [bx g0 21 [.int .i32 a],bx g1 21 [.int .i32 b]]) := by
 refine jenter (args := [.pointer (some ⟨g0,0,none⟩),.pointer (some ⟨g1,0,none⟩)]) Tryz.func154 rfl rfl rfl fun w0 X => ?_
 refine jq (jr (ja Z (jn (jx (jq (jr (js (jl k0 O21 Z Z) (js (jco U21 U155 Z Z) (js (jl k1 O21 Z Z) (js (jco U21 U155 Z Z) (js (jlss Z Z) ?_)))))))))))
 refine jcv E152 Z Z (wbit_ct (decide (IntKind.u32.wrap a < IntKind.u32.wrap b))) dn kn (ja Z (jn (jx (jrt ?_))))
 exact jr1 Z Z () (congrArg (Value.int .i32) (Eq.symm (by first | rfl | (simp [shl_prog,shr_prog,sar_prog]; done)))) dn (fun _ _ => (kd kn))
theorem wDo13_ct (a : Int) {g0 : Nat} (b : Int) {g1 : Nat} (hb : b ≠ 0) : Tr Tryz.prog 155 #[.pointer (some ⟨g0,0,none⟩),.pointer (some ⟨g1,0,none⟩)] [] [bx g0 21 [.int .i32 a],bx g1 21 [.int .i32 b]] (fun _ : Unit => .int .i32 (divM a b)) (fun _ => []) (fun _ _ => [bx g0 21 [.int .i32 a],bx g1 21 [.int .i32 b]]) := by
 refine jenter (args := [.pointer (some ⟨g0,0,none⟩),.pointer (some ⟨g1,0,none⟩)]) Tryz.func155 rfl rfl rfl fun w0 X => ?_
 refine jq (jr (ja Z (jn (jx (jq (jr (js (jl k0 O21 Z Z) (js (jl k1 O21 Z Z) (js (jquo Z Z hb) (ja Z (jn ?_)))))))))))
 refine jx (jrt ?_)
 exact jr1 Z Z () (congrArg (Value.int .i32) (Eq.symm (by first | rfl | (simp [shl_prog,shr_prog,sar_prog]; done)))) dn (fun _ _ => (kd kn))
theorem do_snd {op a b : Int} (h : 2 ≤ op ∧ op ≤ 14) (h2 : op = 14 → ¬ b = 0) : doM op a b = ((doM op a b).1,true) := by
 have hc : op = 2 ∨ op = 3 ∨ op = 4 ∨ op = 5 ∨ op = 6 ∨ op = 7 ∨ op = 8 ∨ op = 9 ∨ op = 10 ∨ op = 11 ∨ op = 12 ∨ op = 13 ∨ op = 14 := by omega
 rcases hc with rfl | rfl | rfl | rfl | rfl | rfl | rfl | rfl | rfl | rfl | rfl | rfl | rfl <;> first | rfl | (simp [doM,h2])
theorem Tr.perm {P : Program} {f : FuncId} {args : Array Value} {D0 : List Dt} {L0 : List Res} {ι : Type} {val : ι → Value} {dr : ι → List Dt} {lr lr' : Nat → ι → List Res} {M : Nat → ι → List Res} (h : Tr P f args D0 L0 val dr lr) (hk : ∀ B i,Tks (lr B i) (lr' B i) (M B i)) : Tr P f args D0 L0 val dr lr' := fun F H a b c =>
 (h F H a b c).mono fun v H' ⟨i,F',h1,h2⟩ => ⟨i,F',h1,fun B hB => by
   have h3 := h2 B hB
   exact ⟨h3.hx,h3.hin,h3.hw,h3.hd,((hk B i).ok h3.ok).1,fun k hk' => h3.ge k ((hk B i).own (.inl hk'))⟩⟩
section
variable {f : FuncId} {args : Array Value} {R1 R2 R3 : Res} {x y : Int}
theorem wdo_fr0 (h : Tr Tryz.prog f args [] [R1,R2] (fun _ : Unit => .int .i32 x) (fun _ => []) (fun _ _ => [R1,R2])) (e : y = x) : Tr Tryz.prog f args [] [R1,R2,R3] (fun _ : Unit => .int .i32 y) (fun _ => []) (fun _ _ => [R1,R2,R3]) := by
 subst e; exact Tr.fr h (kd kn)
theorem wdo_fr1 (h : Tr Tryz.prog f args [] [R1,R3] (fun _ : Unit => .int .i32 x) (fun _ => []) (fun _ _ => [R1,R3])) (e : y = x) : Tr Tryz.prog f args [] [R1,R2,R3] (fun _ : Unit => .int .i32 y) (fun _ => []) (fun _ _ => [R1,R2,R3]) := by
 subst e; exact Tr.perm (Tr.fr h (kc k0 (kc k1 kn))) (fun _ _ => kc k0 (kc k1 (kc k0 kn)))
end
theorem wtable_ct (a b op : Int) {g4 g5 g8 : Nat} {L : List (Int × Value)}
   (hL : L = [(2,.func (.func 142) #[] #[.pointer (some ⟨g4,0,none⟩),.pointer (some ⟨g5,0,none⟩)]),(3,.func (.func 143) #[] #[.pointer (some ⟨g4,0,none⟩),.pointer (some ⟨g5,0,none⟩)]),(4,.func (.func 144) #[] #[.pointer (some ⟨g4,0,none⟩),.pointer (some ⟨g5,0,none⟩)]),(5,.func (.func 145) #[] #[.pointer (some ⟨g4,0,none⟩),.pointer (some ⟨g5,0,none⟩)]),(6,.func (.func 146) #[] #[.pointer (some ⟨g4,0,none⟩),.pointer (some ⟨g5,0,none⟩)]),(7,.func (.func 147) #[] #[.pointer (some ⟨g4,0,none⟩),.pointer (some ⟨g5,0,none⟩)]),(8,.func (.func 148) #[] #[.pointer (some ⟨g4,0,none⟩),.pointer (some ⟨g8,0,none⟩)]),(9,.func (.func 149) #[] #[.pointer (some ⟨g4,0,none⟩),.pointer (some ⟨g8,0,none⟩)]),(10,.func (.func 150) #[] #[.pointer (some ⟨g4,0,none⟩),.pointer (some ⟨g8,0,none⟩)]),(11,.func (.func 151) #[] #[.pointer (some ⟨g4,0,none⟩),.pointer (some ⟨g5,0,none⟩)]),(12,.func (.func 153) #[] #[.pointer (some ⟨g4,0,none⟩),.pointer (some ⟨g5,0,none⟩)]),(13,.func (.func 154) #[] #[.pointer (some ⟨g4,0,none⟩),.pointer (some ⟨g5,0,none⟩)]),(14,.func (.func 155) #[] #[.pointer (some ⟨g4,0,none⟩),.pointer (some ⟨g5,0,none⟩)])] := by rfl) :
   ((lkM L op).getD .nilFunc = .nilFunc ∧ (op < 2 ∨ 14 < op)) ∨ ∃ (f : Nat) (cs : List Value),(lkM L op).getD .nilFunc = .func (.func f) #[] cs.toArray ∧ Ent Tryz.prog f ∧ (2 ≤ op ∧ op ≤ 14) ∧ ((op = 14 → b ≠ 0) → Tr Tryz.prog f cs.toArray [] [bx g4 21 [.int .i32 a],bx g5 21 [.int .i32 b],bx g8 155 [.int .u32 (Int.tmod (IntKind.u32.wrap b) 32)]] (fun _ : Unit => .int .i32 (doM op a b).1) (fun _ => []) (fun _ _ => [bx g4 21 [.int .i32 a],bx g5 21 [.int .i32 b],bx g8 155 [.int .u32 (Int.tmod (IntKind.u32.wrap b) 32)]])) := by
 subst hL
 by_cases ho : 2 ≤ op ∧ op ≤ 14
 · refine .inr ?_
   have hc : op = 2 ∨ op = 3 ∨ op = 4 ∨ op = 5 ∨ op = 6 ∨ op = 7 ∨ op = 8 ∨ op = 9 ∨ op = 10 ∨ op = 11 ∨ op = 12 ∨ op = 13 ∨ op = 14 := by omega
   rcases hc with rfl | rfl | rfl | rfl | rfl | rfl | rfl | rfl | rfl | rfl | rfl | rfl | rfl
   · exact ⟨_,[.pointer (some ⟨g4,0,none⟩),.pointer (some ⟨g5,0,none⟩)],rfl,E142,by omega,fun h9 => wdo_fr0 (wDo1_ct a b) rfl⟩
   · exact ⟨_,[.pointer (some ⟨g4,0,none⟩),.pointer (some ⟨g5,0,none⟩)],rfl,E143,by omega,fun h9 => wdo_fr0 (wDo2_ct a b) rfl⟩
   · exact ⟨_,[.pointer (some ⟨g4,0,none⟩),.pointer (some ⟨g5,0,none⟩)],rfl,E144,by omega,fun h9 => wdo_fr0 (wDo3_ct a b) rfl⟩
   · exact ⟨_,[.pointer (some ⟨g4,0,none⟩),.pointer (some ⟨g5,0,none⟩)],rfl,E145,by omega,fun h9 => wdo_fr0 (wDo4_ct a b) rfl⟩
   · exact ⟨_,[.pointer (some ⟨g4,0,none⟩),.pointer (some ⟨g5,0,none⟩)],rfl,E146,by omega,fun h9 => wdo_fr0 (wDo5_ct a b) rfl⟩
   · exact ⟨_,[.pointer (some ⟨g4,0,none⟩),.pointer (some ⟨g5,0,none⟩)],rfl,E147,by omega,fun h9 => wdo_fr0 (wDo6_ct a b) rfl⟩
   · exact ⟨_,[.pointer (some ⟨g4,0,none⟩),.pointer (some ⟨g8,0,none⟩)],rfl,E148,by omega,fun h9 => wdo_fr1 (wDo7_ct a b) rfl⟩
   · exact ⟨_,[.pointer (some ⟨g4,0,none⟩),.pointer (some ⟨g8,0,none⟩)],rfl,E149,by omega,fun h9 => wdo_fr1 (wDo8_ct a b) rfl⟩
   · exact ⟨_,[.pointer (some ⟨g4,0,none⟩),.pointer (some ⟨g8,0,none⟩)],rfl,E150,by omega,fun h9 => wdo_fr1 (wDo9_ct a b) rfl⟩
   · exact ⟨_,[.pointer (some ⟨g4,0,none⟩),.pointer (some ⟨g5,0,none⟩)],rfl,E151,by omega,fun h9 => wdo_fr0 (wDo10_ct a b) rfl⟩
   · exact ⟨_,[.pointer (some ⟨g4,0,none⟩),.pointer (some ⟨g5,0,none⟩)],rfl,E153,by omega,fun h9 => wdo_fr0 (wDo11_ct a b) rfl⟩
   · exact ⟨_,[.pointer (some ⟨g4,0,none⟩),.pointer (some ⟨g5,0,none⟩)],rfl,E154,by omega,fun h9 => wdo_fr0 (wDo12_ct a b) rfl⟩
   · exact ⟨_,[.pointer (some ⟨g4,0,none⟩),.pointer (some ⟨g5,0,none⟩)],rfl,E155,by omega,fun h9 => wdo_fr0 (wDo13_ct a b (h9 rfl)) (by simp [doM,h9 rfl])⟩
 · refine .inl ⟨?_,by omega⟩
   have h1 : ∀ k : Int,2 ≤ k → k ≤ 14 → (k == op) = false := fun k h2 h3 => by rw [beq_eq_false_iff_ne]; omega
   simp [lkM,List.find?,h1]
theorem wDo_ct (op : Int) (a : Int) (b : Int) : Tv Tryz.prog 84 #[.int .i64 op,.int .i32 a,.int .i32 b] [] [] (.tuple #[.int .i32 ((doM op a b).1),.bool ((doM op a b).2)]) := by
 refine jenter (args := [.int .i64 op,.int .i32 a,.int .i32 b]) Tryz.func84 rfl rfl rfl fun w0 X => ?_
 refine jq (jr (jbox Z Z fun g4 => jbox Z Z fun g5 => ja Z (ja Z (jn (jx (jq (jr (js (jl k0 O21 Z Z) (js (jco U21 U155 Z Z) ?_)))))))))
 refine js (jrem Z Z (by decide)) (jalc J155 Z fun g8 => jst k0 Z155 Z Z Z s0 (jn (jx (jq (jr (jmm fun g13 => js (jmf2 Z Z) (jin U201 U3 k0 Z Z Z Z (js (jmf2 Z Z) (jin U201 U3 k0 Z Z Z Z ?_)))))))))
 refine js (jmf2 Z Z) (jin U201 U3 k0 Z Z Z Z (js (jmf2 Z Z) (jin U201 U3 k0 Z Z Z Z (js (jmf2 Z Z) (jin U201 U3 k0 Z Z Z Z (js (jmf2 Z Z) (jin U201 U3 k0 Z Z Z Z (js (jmf2 Z Z) (jin U201 U3 k0 Z Z Z Z (js (jmf2 Z Z) (jin U201 U3 k0 Z Z Z Z ?_)))))))))))
 refine js (jmf2 Z Z) (jin U201 U3 k0 Z Z Z Z (js (jmf2 Z Z) (jin U201 U3 k0 Z Z Z Z (js (jmf2 Z Z) (jin U201 U3 k0 Z Z Z Z (js (jmf2 Z Z) (jin U201 U3 k0 Z Z Z Z (js (jmf2 Z Z) (jin U201 U3 k0 Z Z Z Z (jm Z (jm Z ?_)))))))))))
 refine jfk (p := fun v => (v = .nilFunc ∧ (op < 2 ∨ 14 < op)) ∨ ∃ (f : Nat) (cs : List Value),v = .func (.func f) #[] cs.toArray ∧ Ent Tryz.prog f ∧ (2 ≤ op ∧ op ≤ 14) ∧ ((op = 14 → b ≠ 0) → Tr Tryz.prog f cs.toArray [] [bx g4 21 [.int .i32 a],bx g5 21 [.int .i32 b],bx g8 155 [.int .u32 (Int.tmod (IntKind.u32.wrap b) 32)]] (fun _ : Unit => .int .i32 (doM op a b).1) (fun _ => []) (fun _ _ => [bx g4 21 [.int .i32 a],bx g5 21 [.int .i32 b],bx g8 155 [.int .u32 (Int.tmod (IntKind.u32.wrap b) 32)]]))) ⟨_,jlk U201 U3 J136 k0 Z Z,wtable_ct a b op⟩ ?_
 rintro v29 (⟨rfl,hop⟩ | ⟨f,cs,rfl,hE,hop,hct⟩)
 refine ja Z (jn (jx (jq (jq (jr (jm Z (js (jeqlN U136 Z Z) (jm Z (jg Z Z (.f _) (fun hg => jmv Z) (jg Z Z (.f _) (fun hg => jeql (evg Z hg) Z) (jg Z Z (.f _) (fun hg => jmv (evg Z hg)) ?_)))))))))))
 refine jg Z Z (.gt _ _) (fun hg => jl k2 O21 Z Z) (jg Z Z (.gt _ _) (fun hg => jeql (evg Z hg) Z) (jg Z Z (.f _) (fun hg => jand2 hg Z Z) (js (jor Z Z) (jn (jx ?_)))))
 refine jif Z (fun hc1 => ?_) (fun hc1 => ?_)
 refine jq (jr (ja Z (ja Z (jn (jx (jrt (jtr ?_)))))))
 exact jr2 Z Z Z () (tIB (by first | (unfold doM; (repeat rw [if_neg (by omega)]); done) | (simp at hc2; obtain ⟨rfl,rfl⟩ := hc2; rfl) | (simp at hc2; exact do_snd hop (fun h9 => hc2.resolve_left (fun h8 => h8 h9))))) dn (fun _ _ => kn)
 exact absurd hc1 (by simp)
 refine ja Z (jn (jx (jq (jq (jr (jm Z (js (jeqlF U136 Z Z) (jm Z (jk Z Z (.f _) (jmv Z) (jk Z Z (.f _) (jeql Z Z) (jk Z Z (.f _) (jmv Z) ?_)))))))))))
 refine jg Z Z (.t _) (fun hg => jl k2 O21 Z Z) (jg Z Z (.t _) (fun hg => jeql (evg Z hg) Z) (jk Z Z (.f _) (jand Z Z) (js (jor Z Z) (jn (jx ?_)))))
 refine jif Z (fun hc2 => ?_) (fun hc2 => ?_)
 refine jq (jr (ja Z (ja Z (jn (jx (jrt (jtr ?_)))))))
 exact jr2 Z Z Z () (tIB (by first | (unfold doM; (repeat rw [if_neg (by omega)]); done) | (simp at hc2; obtain ⟨rfl,rfl⟩ := hc2; rfl) | (simp at hc2; exact do_snd hop (fun h9 => hc2.resolve_left (fun h8 => h8 h9))))) dn (fun _ _ => kn)
 refine jsk (jx (jq (jr (jm Z (jc hE Z Z (hct (by omega)) dn (kc k3 (kc k2 (kc k1 kn))) (fun _ => p0) (fun _ => p3) fun _ => ja Z (ja Z (jn (jx (jrt ?_)))))))))
 exact jr2 Z Z Z () (tIB (by first | (unfold doM; (repeat rw [if_neg (by omega)]); done) | (simp at hc2; obtain ⟨rfl,rfl⟩ := hc2; rfl) | (simp at hc2; exact do_snd hop (fun h9 => hc2.resolve_left (fun h8 => h8 h9))))) dn (fun _ _ => kn)
abbrev U158 := @Tryz.underlying158
abbrev U22 := @Tryz.underlying22
theorem A102 : ∃ d,Tryz.prog.underlying 102 = some d ∧ (match d with | .struct _ | .array _ _ => true | _ => false) = true := ⟨_,Tryz.underlying102,rfl⟩
theorem E95 : Ent Tryz.prog 95 := ⟨_,Tryz.func95,by kernel_rfl,by kernel_rfl⟩
theorem F24_1 : Fld Tryz.prog 24 1 1 := ⟨_,_,Tryz.underlying24,rfl,rfl,1,(by unfold Sz; kernel_rfl),by decide⟩
theorem F24_2 : Fld Tryz.prog 24 2 2 := ⟨_,_,Tryz.underlying24,rfl,rfl,1,(by unfold Sz; kernel_rfl),by decide⟩
theorem F24_3 : Fld Tryz.prog 24 3 3 := ⟨_,_,Tryz.underlying24,rfl,rfl,1,(by unfold Sz; kernel_rfl),by decide⟩
theorem F24_4 : Fld Tryz.prog 24 4 4 := ⟨_,_,Tryz.underlying24,rfl,rfl,1,(by unfold Sz; kernel_rfl),by decide⟩
theorem F24_5 : Fld Tryz.prog 24 5 5 := ⟨_,_,Tryz.underlying24,rfl,rfl,1,(by unfold Sz; kernel_rfl),by decide⟩
theorem F24_7 : Fld Tryz.prog 24 7 7 := ⟨_,_,Tryz.underlying24,rfl,rfl,1,(by unfold Sz; kernel_rfl),by decide⟩
theorem F88_0 : Fld Tryz.prog 88 0 0 := ⟨_,_,Tryz.underlying88,rfl,rfl,1,(by unfold Sz; kernel_rfl),by decide⟩
theorem F88_1 : Fld Tryz.prog 88 1 1 := ⟨_,_,Tryz.underlying88,rfl,rfl,1,(by unfold Sz; kernel_rfl),by decide⟩
theorem F88_2 : Fld Tryz.prog 88 2 2 := ⟨_,_,Tryz.underlying88,rfl,rfl,1,(by unfold Sz; kernel_rfl),by decide⟩
theorem I3 : (Tryz.prog.info? 3).map (fun i => (i.zero,i.size,i.bytes)) = some (some (.int .i64 0),1,8) := by kernel_rfl
theorem O22 : One Tryz.prog 22 := ⟨_,Tryz.underlying22,rfl⟩
theorem O3 : One Tryz.prog 3 := ⟨_,Tryz.underlying3,rfl⟩
theorem Z102 : Sz Tryz.prog 102 2 := by unfold Sz; kernel_rfl
theorem J102 : (Tryz.prog.info? 102).bind (·.zero) = some (.agg #[.nilFunc,.nilFunc]) := by kernel_rfl
def takesM (i : D.Mach) : List Int :=
 if i.Op = 1 ∨ 18 ≤ i.Op ∧ i.Op ≤ 22 ∨ i.Op = 24 ∨ i.Op = 31 then [i.A]
 else if i.Op = 2 ∨ 5 ≤ i.Op ∧ i.Op ≤ 17 ∨ i.Op = 25 ∨ i.Op = 26 ∨ i.Op = 29 then [i.A,i.B]
 else if i.Op = 23 ∨ i.Op = 27 then [i.A,i.B,i.C]
 else if i.Op = 28 then i.Args
 else []
def makesM (i : D.Mach) : List Int :=
 if i.Op = 2 then [i.A,i.B]
 else if i.Op = 29 then [i.D,i.E]
 else if i.Op = 26 ∨ i.Op = 27 ∨ i.Op = 31 ∨ i.Op < 1 ∨ 31 < i.Op then []
 else [i.D]
def nM9 (e : D.End) : List Int :=
 if e.Op = 2 ∨ e.Op = 6 ∨ e.Op = 7 ∧ 0 ≤ e.A then [e.A]
 else if e.Op = 3 ∨ e.Op = 4 ∨ e.Op = 5 then [e.A,e.B]
 else []
def regM : List Int → Bool
 | [] => true
 | x :: l => if x < 0 ∨ 8192 ≤ x then false else regM l
theorem pNeeds_ct {a0 : Value} {e : D.End} : Td Tryz.prog 135 #[vEnd e a0] [da rEnd (vEnd e a0) e] [] (rL (rI .i64)) (nM9 e) := by
 refine jenter (args := [vEnd e a0]) Tryz.func135 rfl rfl rfl fun w0 X => ?_
 refine jq (jr (jbox Z Z fun g1 => ja Z (jn (jx (jq (jb (jq (jr (js (jf F88_0 Z) (js (jl k0 O3 Z Z) ?_))))))))))
 refine js (jeql Z Z) (jm Z (jg Z Z (.f _) (fun hg => jf F88_0 Z) (jg Z Z (.f _) (fun hg => jl k0 O3 (evg Z hg) Z) (jg Z Z (.f _) (fun hg => jeql (evg Z hg) Z) (js (jor Z Z) (jm Z (jg Z Z (.f _) (fun hg => jf F88_0 Z) (jg Z Z (.f _) (fun hg => jl k0 O3 (evg Z hg) Z) (jg Z Z (.f _) (fun hg => jeql (evg Z hg) Z) (jg Z Z (.f _) (fun hg => jmv (evg Z hg)) (jg Z Z (.gt _ _) (fun hg => jf F88_1 Z) ?_)))))))))))
 refine jg Z Z (.gt _ _) (fun hg => jl k0 O3 (evg Z hg) Z) (jg Z Z (.gt _ _) (fun hg => jgeq (evg Z hg) Z) (jg Z Z (.f _) (fun hg => jand2 hg Z Z) (js (jor Z Z) (ja Z (jn (jx ?_))))))
 refine jif Z (fun hc1 => ?_) (fun hc1 => ?_)
 refine jq (jr (js (jf F88_1 Z) (js (jl k0 O3 Z Z) (jlit (r := (rI .i64)) (l := [e.A]) U22 I3 (by decide) Z Z Z (lV Z Z (wI (rEnd.W_A d0)) ln) fun g24 => ja Z (jn (jx (jrt (jbr (jtr (qfz k0 (by (try simp) <;> omega) ?_))))))))))
 exact jrD Z Z (by first | (simp [nM9,hc1]; done) | (unfold nM9; (repeat' split) <;> first | rfl | (exfalso; omega) | (simp [nM9,hc1]; done))) d0
 refine jq (jr (js (jf F88_0 Z) (js (jl k0 O3 Z Z) (js (jgeq Z Z) (jm Z (jg Z Z (.t _) (fun hg => jf F88_0 Z) (jg Z Z (.t _) (fun hg => jl k0 O3 (evg Z hg) Z) (jg Z Z (.t _) (fun hg => jleq (evg Z hg) Z) (js (jand Z Z) (ja Z (jn ?_)))))))))))
 refine jx ?_
 refine jif Z (fun hc2 => ?_) (fun hc2 => ?_)
 refine jq (jr (js (jf F88_1 Z) (js (jl k0 O3 Z Z) (js (jf F88_2 Z) (js (jl k0 O3 Z Z) (jlit (r := (rI .i64)) (l := [e.A,e.B]) U22 I3 (by decide) Z Z Z (lV Z Z (wI (rEnd.W_A d0)) (lV Z Z (wI (rEnd.W_B d0)) ln)) fun g38 => ja Z (jn (jx (jrt (jbr ?_))))))))))
 refine jtr (qfz k0 (by (try simp) <;> omega) ?_)
 exact jrD Z Z (by first | (simp [nM9,hc1,hc2]; done) | (unfold nM9; (repeat' split) <;> first | rfl | (exfalso; omega) | (simp [nM9,hc1,hc2]; done))) d0
 refine jsk (jbn (jx (jq (jr (ja Z (jn (jx (jrt ?_))))))))
 exact jrD Z Z (by first | (simp [nM9,hc1,hc2]; done) | (unfold nM9; (repeat' split) <;> first | rfl | (exfalso; omega) | (simp [nM9,hc1,hc2]; done))) wN
theorem clone_ct {a0 : Value} {l : List Int} : Tg Tryz.prog 95 #[a0] [dv (rL (rI .i64)) a0 l] [] (rI .i64) 3 l := by
 refine jenter (args := [a0]) Tryz.func95 rfl rfl rfl fun w0 X => ?_
 refine jq (jr (ja Z (jn (jx (jq (jq (jr (jm Z (jeb (jeqlNil U22 d0 Z Z) fun b4 hnil4 => jn (jx ?_))))))))))
 refine jif Z (fun hc1 => ?_) (fun hc1 => ?_)
 refine jq (jr (ja Z (jn (jx (jrt (jtr (qnl (r := (rI .i64)) (E := 3) ?_)))))))
 exact jrG Z Z (by first | rfl | exact hnil4 hc1) k0
 refine jsk (jx (jq (jr (jlit (r := (rI .i64)) (l := []) U22 I3 (by decide) Z Z Z ln fun g5 => jm Z (jdq d0 fun q2 w2 => japlz U22 I3 (by decide) Z k0 Z Z d0 (by omega) fun v7 w3 => ja Z (jn (jx (jrt ?_))))))))
 exact jrG Z Z (by first | rfl | exact hnil4 hc1) k0
def km1 (_ : D.Mach) : List Int := []
def km2 (i : D.Mach) : List Int := [i.D]
def km3 (i : D.Mach) : List Int := [i.A]
def km4 (i : D.Mach) : List Int := [i.A,i.B]
def km5 (i : D.Mach) : List Int := [i.A,i.B,i.C]
def km6 (i : D.Mach) : List Int := i.Args
def km7 (i : D.Mach) : List Int := [i.D,i.E]
theorem kind1_ct {a0 : Value} {i : D.Mach} : Td Tryz.prog 89 #[vMach i a0] [da rMach (vMach i a0) i] [] (rL (rI .i64)) (km1 i) := by
 refine jenter (args := [vMach i a0]) Tryz.func89 rfl rfl rfl fun w0 X => ?_
 refine jq (jr (jbox Z Z fun g1 => ja Z (jn (jx (jq (jr (ja Z (jn (jx (jrt ?_))))))))))
 exact jrD Z Z (by rfl) wN
theorem kind2_ct {a0 : Value} {i : D.Mach} : Td Tryz.prog 90 #[vMach i a0] [da rMach (vMach i a0) i] [] (rL (rI .i64)) (km2 i) := by
 refine jenter (args := [vMach i a0]) Tryz.func90 rfl rfl rfl fun w0 X => ?_
 refine jq (jr (jbox Z Z fun g1 => ja Z (jn (jx (jq (jr (js (jf F24_1 Z) (js (jl k0 O3 Z Z) (jlit (r := (rI .i64)) (l := [i.D]) U22 I3 (by decide) Z Z Z (lV Z Z (wI (rMach.W_D d0)) ln) fun g5 => ja Z ?_)))))))))
 refine jn (jx (jrt (qfz k0 (by (try simp) <;> omega) ?_)))
 exact jrD Z Z (by rfl) d0
theorem kind3_ct {a0 : Value} {i : D.Mach} : Td Tryz.prog 91 #[vMach i a0] [da rMach (vMach i a0) i] [] (rL (rI .i64)) (km3 i) := by
 refine jenter (args := [vMach i a0]) Tryz.func91 rfl rfl rfl fun w0 X => ?_
 refine jq (jr (jbox Z Z fun g1 => ja Z (jn (jx (jq (jr (js (jf F24_3 Z) (js (jl k0 O3 Z Z) (jlit (r := (rI .i64)) (l := [i.A]) U22 I3 (by decide) Z Z Z (lV Z Z (wI (rMach.W_A d0)) ln) fun g5 => ja Z ?_)))))))))
 refine jn (jx (jrt (qfz k0 (by (try simp) <;> omega) ?_)))
 exact jrD Z Z (by rfl) d0
theorem kind4_ct {a0 : Value} {i : D.Mach} : Td Tryz.prog 92 #[vMach i a0] [da rMach (vMach i a0) i] [] (rL (rI .i64)) (km4 i) := by
 refine jenter (args := [vMach i a0]) Tryz.func92 rfl rfl rfl fun w0 X => ?_
 refine jq (jr (jbox Z Z fun g1 => ja Z (jn (jx (jq (jr (js (jf F24_3 Z) (js (jl k0 O3 Z Z) (js (jf F24_4 Z) (js (jl k0 O3 Z Z) ?_))))))))))
 refine jlit (r := (rI .i64)) (l := [i.A,i.B]) U22 I3 (by decide) Z Z Z (lV Z Z (wI (rMach.W_A d0)) (lV Z Z (wI (rMach.W_B d0)) ln)) fun g7 => ja Z (jn (jx (jrt (qfz k0 (by (try simp) <;> omega) ?_))))
 exact jrD Z Z (by rfl) d0
theorem kind5_ct {a0 : Value} {i : D.Mach} : Td Tryz.prog 93 #[vMach i a0] [da rMach (vMach i a0) i] [] (rL (rI .i64)) (km5 i) := by
 refine jenter (args := [vMach i a0]) Tryz.func93 rfl rfl rfl fun w0 X => ?_
 refine jq (jr (jbox Z Z fun g1 => ja Z (jn (jx (jq (jr (js (jf F24_3 Z) (js (jl k0 O3 Z Z) (js (jf F24_4 Z) (js (jl k0 O3 Z Z) ?_))))))))))
 refine js (jf F24_5 Z) (js (jl k0 O3 Z Z) (jlit (r := (rI .i64)) (l := [i.A,i.B,i.C]) U22 I3 (by decide) Z Z Z (lV Z Z (wI (rMach.W_A d0)) (lV Z Z (wI (rMach.W_B d0)) (lV Z Z (wI (rMach.W_C d0)) ln))) fun g9 => ja Z (jn (jx (jrt (qfz k0 (by (try simp) <;> omega) ?_))))))
 exact jrD Z Z (by rfl) d0
theorem kind6_ct {a0 : Value} {i : D.Mach} : Td Tryz.prog 94 #[vMach i a0] [da rMach (vMach i a0) i] [] (rL (rI .i64)) (km6 i) := by
 refine jenter (args := [vMach i a0]) Tryz.func94 rfl rfl rfl fun w0 X => ?_
 refine jq (jr (jbox Z Z fun g1 => ja Z (jn (jx (jq (jr (js (jf F24_7 Z) (js (jl k0 O22 Z Z) (jdq (rMach.c_Args d0) fun q1 w1 => jcg E95 Z Z clone_ct (dc (rMach.c_Args d0) dn) kn fun v5 w2 => ?_)))))))))
 refine ja Z (jn (jx (jrt (qfz k0 (by omega) ?_))))
 exact jrD Z Z (by rfl) d0
theorem kind7_ct {a0 : Value} {i : D.Mach} : Td Tryz.prog 96 #[vMach i a0] [da rMach (vMach i a0) i] [] (rL (rI .i64)) (km7 i) := by
 refine jenter (args := [vMach i a0]) Tryz.func96 rfl rfl rfl fun w0 X => ?_
 refine jq (jr (jbox Z Z fun g1 => ja Z (jn (jx (jq (jr (js (jf F24_1 Z) (js (jl k0 O3 Z Z) (js (jf F24_2 Z) (js (jl k0 O3 Z Z) ?_))))))))))
 refine jlit (r := (rI .i64)) (l := [i.D,i.E]) U22 I3 (by decide) Z Z Z (lV Z Z (wI (rMach.W_D d0)) (lV Z Z (wI (rMach.W_E d0)) ln)) fun g7 => ja Z (jn (jx (jrt (qfz k0 (by (try simp) <;> omega) ?_))))
 exact jrD Z Z (by rfl) d0
def kfun (k : Nat) : Value := .func (.func k) #[] #[]
def kTab (op : Int) : Prop := (1 ≤ op ∧ op ≤ 4) ∨ (23 ≤ op ∧ op ≤ 31)
def takesF (op : Int) : Nat := if op = 1 ∨ op = 24 ∨ op = 31 ∨ (18 ≤ op ∧ op ≤ 22) then 91 else if op = 2 ∨ op = 25 ∨ op = 26 ∨ op = 29 ∨ (5 ≤ op ∧ op ≤ 17) then 92 else if op = 23 ∨ op = 27 then 93 else if op = 28 then 94 else 89
def makesF (op : Int) : Nat := if op = 2 then 92 else if op = 29 then 96 else if op = 26 ∨ op = 27 ∨ op = 31 ∨ op < 1 ∨ 31 < op then 89 else 90
def kindV (op : Int) : Value := .agg #[kfun (takesF op),kfun (makesF op)]
theorem ktab (op : Int) : ((.tuple #[(lkM [(1,.agg #[.func (.func 91) #[] #[],.func (.func 90) #[] #[]]),(2,.agg #[.func (.func 92) #[] #[],.func (.func 92) #[] #[]]),(3,.agg #[.func (.func 89) #[] #[],.func (.func 90) #[] #[]]),(4,.agg #[.func (.func 89) #[] #[],.func (.func 90) #[] #[]]),(23,.agg #[.func (.func 93) #[] #[],.func (.func 90) #[] #[]]),(24,.agg #[.func (.func 91) #[] #[],.func (.func 90) #[] #[]]),(25,.agg #[.func (.func 92) #[] #[],.func (.func 90) #[] #[]]),(26,.agg #[.func (.func 92) #[] #[],.func (.func 89) #[] #[]]),(27,.agg #[.func (.func 93) #[] #[],.func (.func 89) #[] #[]]),(28,.agg #[.func (.func 94) #[] #[],.func (.func 90) #[] #[]]),(29,.agg #[.func (.func 92) #[] #[],.func (.func 96) #[] #[]]),(30,.agg #[.func (.func 89) #[] #[],.func (.func 90) #[] #[]]),(31,.agg #[.func (.func 91) #[] #[],.func (.func 89) #[] #[]])] op).getD (.agg #[.nilFunc,.nilFunc]),.bool (lkM [(1,.agg #[.func (.func 91) #[] #[],.func (.func 90) #[] #[]]),(2,.agg #[.func (.func 92) #[] #[],.func (.func 92) #[] #[]]),(3,.agg #[.func (.func 89) #[] #[],.func (.func 90) #[] #[]]),(4,.agg #[.func (.func 89) #[] #[],.func (.func 90) #[] #[]]),(23,.agg #[.func (.func 93) #[] #[],.func (.func 90) #[] #[]]),(24,.agg #[.func (.func 91) #[] #[],.func (.func 90) #[] #[]]),(25,.agg #[.func (.func 92) #[] #[],.func (.func 90) #[] #[]]),(26,.agg #[.func (.func 92) #[] #[],.func (.func 89) #[] #[]]),(27,.agg #[.func (.func 93) #[] #[],.func (.func 89) #[] #[]]),(28,.agg #[.func (.func 94) #[] #[],.func (.func 90) #[] #[]]),(29,.agg #[.func (.func 92) #[] #[],.func (.func 96) #[] #[]]),(30,.agg #[.func (.func 89) #[] #[],.func (.func 90) #[] #[]]),(31,.agg #[.func (.func 91) #[] #[],.func (.func 89) #[] #[]])] op).isSome] : Value) = .tuple #[.agg #[kfun (takesF op),kfun (makesF op)],.bool true] ∧ kTab op) ∨ ((.tuple #[(lkM [(1,.agg #[.func (.func 91) #[] #[],.func (.func 90) #[] #[]]),(2,.agg #[.func (.func 92) #[] #[],.func (.func 92) #[] #[]]),(3,.agg #[.func (.func 89) #[] #[],.func (.func 90) #[] #[]]),(4,.agg #[.func (.func 89) #[] #[],.func (.func 90) #[] #[]]),(23,.agg #[.func (.func 93) #[] #[],.func (.func 90) #[] #[]]),(24,.agg #[.func (.func 91) #[] #[],.func (.func 90) #[] #[]]),(25,.agg #[.func (.func 92) #[] #[],.func (.func 90) #[] #[]]),(26,.agg #[.func (.func 92) #[] #[],.func (.func 89) #[] #[]]),(27,.agg #[.func (.func 93) #[] #[],.func (.func 89) #[] #[]]),(28,.agg #[.func (.func 94) #[] #[],.func (.func 90) #[] #[]]),(29,.agg #[.func (.func 92) #[] #[],.func (.func 96) #[] #[]]),(30,.agg #[.func (.func 89) #[] #[],.func (.func 90) #[] #[]]),(31,.agg #[.func (.func 91) #[] #[],.func (.func 89) #[] #[]])] op).getD (.agg #[.nilFunc,.nilFunc]),.bool (lkM [(1,.agg #[.func (.func 91) #[] #[],.func (.func 90) #[] #[]]),(2,.agg #[.func (.func 92) #[] #[],.func (.func 92) #[] #[]]),(3,.agg #[.func (.func 89) #[] #[],.func (.func 90) #[] #[]]),(4,.agg #[.func (.func 89) #[] #[],.func (.func 90) #[] #[]]),(23,.agg #[.func (.func 93) #[] #[],.func (.func 90) #[] #[]]),(24,.agg #[.func (.func 91) #[] #[],.func (.func 90) #[] #[]]),(25,.agg #[.func (.func 92) #[] #[],.func (.func 90) #[] #[]]),(26,.agg #[.func (.func 92) #[] #[],.func (.func 89) #[] #[]]),(27,.agg #[.func (.func 93) #[] #[],.func (.func 89) #[] #[]]),(28,.agg #[.func (.func 94) #[] #[],.func (.func 90) #[] #[]]),(29,.agg #[.func (.func 92) #[] #[],.func (.func 96) #[] #[]]),(30,.agg #[.func (.func 89) #[] #[],.func (.func 90) #[] #[]]),(31,.agg #[.func (.func 91) #[] #[],.func (.func 89) #[] #[]])] op).isSome] : Value) = .tuple #[.agg #[.nilFunc,.nilFunc],.bool false] ∧ ¬ kTab op) := by
 by_cases ho : kTab op
 · refine .inl ⟨?_,ho⟩
   have hc : op = 1 ∨ op = 2 ∨ op = 3 ∨ op = 4 ∨ op = 23 ∨ op = 24 ∨ op = 25 ∨ op = 26 ∨ op = 27 ∨ op = 28 ∨ op = 29 ∨ op = 30 ∨ op = 31 := by unfold kTab at ho; omega
   rcases hc with rfl | rfl | rfl | rfl | rfl | rfl | rfl | rfl | rfl | rfl | rfl | rfl | rfl <;> rfl
 · refine .inr ⟨?_,ho⟩
   have h1 : ∀ k : Int,((1 ≤ k ∧ k ≤ 4) ∨ (23 ≤ k ∧ k ≤ 31)) → (k == op) = false := fun k h2 => by rw [beq_eq_false_iff_ne]; unfold kTab at ho; omega
   simp [lkM,List.find?,h1]
theorem kindV5 {op : Int} (h : 5 ≤ op ∧ op ≤ 17) : Value.agg #[.func (.func 92) #[] #[],.func (.func 90) #[] #[]] = kindV op := by
 simp only [kindV,takesF,makesF]
 rw [if_neg (by omega),if_pos (by omega),if_neg (by omega),if_neg (by omega),if_neg (by omega)]; rfl
theorem kindV18 {op : Int} (h : 18 ≤ op ∧ op ≤ 22) : Value.agg #[.func (.func 91) #[] #[],.func (.func 90) #[] #[]] = kindV op := by
 simp only [kindV,takesF,makesF]
 rw [if_pos (by omega),if_neg (by omega),if_neg (by omega),if_neg (by omega)]; rfl
theorem kindV0 {op : Int} (h : op < 1 ∨ 31 < op) : Value.agg #[.func (.func 89) #[] #[],.func (.func 89) #[] #[]] = kindV op := by
 simp only [kindV,takesF,makesF]
 rw [if_neg (by omega),if_neg (by omega),if_neg (by omega),if_neg (by omega),if_neg (by omega),if_neg (by omega),if_pos (by omega)]; rfl
theorem kindV_ct (op : Int) : Tv Tryz.prog 44 #[.int .i64 op] [] [] (kindV op) := by
 refine jenter (args := [.int .i64 op]) Tryz.func44 rfl rfl rfl fun w0 X => ?_
 refine jq (jr (jalc J102 Z fun g2 => jn (jx (jq (jr (ja Z (jn (jx (jq (jr ?_))))))))))
 refine ja Z (jn (jx (jq (jr (ja Z (jn (jx (jq (jr (ja Z (jn ?_)))))))))))
 refine jx (jq (jr (ja Z (jn (jx (jq (jr (ja Z (jn (jx (jq ?_)))))))))))
 refine jr (ja Z (jn (jx (jq (jr (jmm fun g13 => jm Z (jm Z (js (jbu (v := .agg #[.func (.func 91) #[] #[],.func (.func 90) #[] #[]]) Z (fun _ => by kernel_rfl)) (jin U158 U3 k0 Z Z Z Z (jm Z ?_))))))))))
 refine jm Z (js (jbu (v := .agg #[.func (.func 92) #[] #[],.func (.func 92) #[] #[]]) Z (fun _ => by kernel_rfl)) (jin U158 U3 k0 Z Z Z Z (jm Z (jm Z (js (jbu (v := .agg #[.func (.func 89) #[] #[],.func (.func 90) #[] #[]]) Z (fun _ => by kernel_rfl)) (jin U158 U3 k0 Z Z Z Z (jm Z (jm Z (js (jbu (v := .agg #[.func (.func 89) #[] #[],.func (.func 90) #[] #[]]) Z (fun _ => by kernel_rfl)) (jin U158 U3 k0 Z Z Z Z (jm Z ?_)))))))))))
 refine jm Z (js (jbu (v := .agg #[.func (.func 93) #[] #[],.func (.func 90) #[] #[]]) Z (fun _ => by kernel_rfl)) (jin U158 U3 k0 Z Z Z Z (jm Z (jm Z (js (jbu (v := .agg #[.func (.func 91) #[] #[],.func (.func 90) #[] #[]]) Z (fun _ => by kernel_rfl)) (jin U158 U3 k0 Z Z Z Z (jm Z (jm Z (js (jbu (v := .agg #[.func (.func 92) #[] #[],.func (.func 90) #[] #[]]) Z (fun _ => by kernel_rfl)) (jin U158 U3 k0 Z Z Z Z (jm Z ?_)))))))))))
 refine jm Z (js (jbu (v := .agg #[.func (.func 92) #[] #[],.func (.func 89) #[] #[]]) Z (fun _ => by kernel_rfl)) (jin U158 U3 k0 Z Z Z Z (jm Z (jm Z (js (jbu (v := .agg #[.func (.func 93) #[] #[],.func (.func 89) #[] #[]]) Z (fun _ => by kernel_rfl)) (jin U158 U3 k0 Z Z Z Z (jm Z (jm Z (js (jbu (v := .agg #[.func (.func 94) #[] #[],.func (.func 90) #[] #[]]) Z (fun _ => by kernel_rfl)) (jin U158 U3 k0 Z Z Z Z (jm Z ?_)))))))))))
 refine jm Z (js (jbu (v := .agg #[.func (.func 92) #[] #[],.func (.func 96) #[] #[]]) Z (fun _ => by kernel_rfl)) (jin U158 U3 k0 Z Z Z Z (jm Z (jm Z (js (jbu (v := .agg #[.func (.func 89) #[] #[],.func (.func 90) #[] #[]]) Z (fun _ => by kernel_rfl)) (jin U158 U3 k0 Z Z Z Z (jm Z (jm Z (js (jbu (v := .agg #[.func (.func 91) #[] #[],.func (.func 89) #[] #[]]) Z (fun _ => by kernel_rfl)) (jin U158 U3 k0 Z Z Z Z (jm Z ?_)))))))))))
 refine jm Z ?_
 refine jfk (p := fun v => (v = .tuple #[.agg #[kfun (takesF op),kfun (makesF op)],.bool true] ∧ kTab op) ∨ (v = .tuple #[.agg #[.nilFunc,.nilFunc],.bool false] ∧ ¬ kTab op)) ⟨_,jlko U158 U3 J102 k0 Z Z,ktab op⟩ ?_
 rintro v55 (⟨rfl,hop⟩ | ⟨rfl,hop⟩)
 refine jm Z (js (jex' Z Z) (js (jex' Z Z) (jalc J102 Z fun g10 => jsta k0 Z102 Z Z Z ⟨Z,Z,trivial⟩ (saf Z) (ja Z (jn (jx (jq (jb (jq (jr ?_))))))))))
 refine jm Z (ja Z (jn (jx ?_)))
 refine jif Z (fun hc1 => ?_) (fun hc1 => ?_)
 refine jq (jr (js (jla k0 A102 Z102 Z Z Z) (jsta k2 Z102 Z Z Z ⟨Z,Z,trivial⟩ (saf Z) (jn (jx (jrt (jbr (jtr ?_))))))))
 exact jrc Z Z k0 A102 Z102 () (by first | rfl | exact kindV5 ‹_› | exact kindV18 ‹_› | exact kindV0 (by unfold kTab at hop; omega)) dn (fun _ _ => kn)
 exact absurd hc1 (by simp)
 refine jm Z (js (jex' Z Z) (js (jex' Z Z) (jalc J102 Z fun g10_1 => jsta k0 Z102 Z Z Z ⟨Z,Z,trivial⟩ (saf Z) (ja Z (jn (jx (jq (jb (jq (jr ?_))))))))))
 refine jm Z (ja Z (jn (jx ?_)))
 refine jif Z (fun hc2 => ?_) (fun hc2 => ?_)
 exact absurd hc2 (by simp)
 refine jq (jr (jm Z (js (jgeq Z Z) (jm Z (jg Z Z (.t _) (fun hg => jmv Z) (jg Z Z (.t _) (fun hg => jleq (evg Z hg) Z) (js (jand Z Z) (ja Z (jn (jx ?_))))))))))
 refine jif Z (fun hc3 => ?_) (fun hc3 => ?_)
 refine jq (jr (jm Z (jm Z (js (jbu (v := .agg #[.func (.func 92) #[] #[],.func (.func 90) #[] #[]]) Z (fun _ => by kernel_rfl)) (jsta k2 Z102 Z Z Z ⟨Z,Z,trivial⟩ (saf Z) (jn (jx (jrt (jbr (jtr ?_))))))))))
 exact jrc Z Z k0 A102 Z102 () (by first | rfl | exact kindV5 ‹_› | exact kindV18 ‹_› | exact kindV0 (by unfold kTab at hop; omega)) dn (fun _ _ => kn)
 refine jq (jr (jm Z (js (jgeq Z Z) (jm Z (jg Z Z (.t _) (fun hg => jmv Z) (jg Z Z (.t _) (fun hg => jleq (evg Z hg) Z) (js (jand Z Z) (ja Z (jn (jx ?_))))))))))
 refine jif Z (fun hc4 => ?_) (fun hc4 => ?_)
 refine jq (jr (jm Z (jm Z (js (jbu (v := .agg #[.func (.func 91) #[] #[],.func (.func 90) #[] #[]]) Z (fun _ => by kernel_rfl)) (jsta k2 Z102 Z Z Z ⟨Z,Z,trivial⟩ (saf Z) (jn (jx (jrt (jbr (jtr ?_))))))))))
 exact jrc Z Z k0 A102 Z102 () (by first | rfl | exact kindV5 ‹_› | exact kindV18 ‹_› | exact kindV0 (by unfold kTab at hop; omega)) dn (fun _ _ => kn)
 refine jsk (jbn (jx (jq (jr (jm Z (jm Z (js (jbu (v := .agg #[.func (.func 89) #[] #[],.func (.func 89) #[] #[]]) Z (fun _ => by kernel_rfl)) (jsta k2 Z102 Z Z Z ⟨Z,Z,trivial⟩ (saf Z) (jn (jx (jrt ?_)))))))))))
 exact jrc Z Z k0 A102 Z102 () (by first | rfl | exact kindV5 ‹_› | exact kindV18 ‹_› | exact kindV0 (by unfold kTab at hop; omega)) dn (fun _ _ => kn)
theorem A24 : ∃ d,Tryz.prog.underlying 24 = some d ∧ (match d with | .struct _ | .array _ _ => true | _ => false) = true := ⟨_,Tryz.underlying24,rfl⟩
theorem E44 : Ent Tryz.prog 44 := ⟨_,Tryz.func44,by kernel_rfl,by kernel_rfl⟩
theorem E89 : Ent Tryz.prog 89 := ⟨_,Tryz.func89,by kernel_rfl,by kernel_rfl⟩
theorem E90 : Ent Tryz.prog 90 := ⟨_,Tryz.func90,by kernel_rfl,by kernel_rfl⟩
theorem E91 : Ent Tryz.prog 91 := ⟨_,Tryz.func91,by kernel_rfl,by kernel_rfl⟩
theorem E92 : Ent Tryz.prog 92 := ⟨_,Tryz.func92,by kernel_rfl,by kernel_rfl⟩
theorem E93 : Ent Tryz.prog 93 := ⟨_,Tryz.func93,by kernel_rfl,by kernel_rfl⟩
theorem E94 : Ent Tryz.prog 94 := ⟨_,Tryz.func94,by kernel_rfl,by kernel_rfl⟩
theorem E96 : Ent Tryz.prog 96 := ⟨_,Tryz.func96,by kernel_rfl,by kernel_rfl⟩
theorem F24_0 : Fld Tryz.prog 24 0 0 := ⟨_,_,Tryz.underlying24,rfl,rfl,1,(by unfold Sz; kernel_rfl),by decide⟩
theorem G102_0 : ∃ fs f,Tryz.prog.underlying 102 = some (.struct fs) ∧ fs[0]? = some f ∧ f.offset = 0 ∧ f.type = 40 := ⟨_,_,Tryz.underlying102,rfl,rfl,rfl⟩
theorem G102_1 : ∃ fs f,Tryz.prog.underlying 102 = some (.struct fs) ∧ fs[1]? = some f ∧ f.offset = 1 ∧ f.type = 40 := ⟨_,_,Tryz.underlying102,rfl,rfl,rfl⟩
theorem Mixed : Tryz.prog.follows .mixedOrders = true := Checked.mixed Tryz.checked
theorem O40 : One Tryz.prog 40 := ⟨_,Tryz.underlying40,rfl⟩
theorem Z24 : Sz Tryz.prog 24 8 := by unfold Sz; kernel_rfl
theorem takesF_ct {a0 : Value} {i : D.Mach} : Td Tryz.prog (takesF i.Op) #[vMach i a0] [da rMach (vMach i a0) i] [] (rL (rI .i64)) (takesM i) := by
 unfold takesF takesM
 (repeat' split) <;> first | (exfalso; omega) | exact kind3_ct | exact kind4_ct | exact kind5_ct | exact kind6_ct | exact kind1_ct
theorem ent_takesF (op : Int) : Ent Tryz.prog (takesF op) := by
 unfold takesF
 (repeat' split) <;> first | with_reducible exact E91 | with_reducible exact E92 | with_reducible exact E93 | with_reducible exact E94 | with_reducible exact E89
theorem makesF_ct {a0 : Value} {i : D.Mach} : Td Tryz.prog (makesF i.Op) #[vMach i a0] [da rMach (vMach i a0) i] [] (rL (rI .i64)) (makesM i) := by
 unfold makesF makesM
 (repeat' split) <;> first | (exfalso; omega) | exact kind4_ct | exact kind7_ct | exact kind1_ct | exact kind2_ct
theorem ent_makesF (op : Int) : Ent Tryz.prog (makesF op) := by
 unfold makesF
 (repeat' split) <;> first | with_reducible exact E92 | with_reducible exact E96 | with_reducible exact E89 | with_reducible exact E90
theorem pTakes_ct {a0 : Value} {i : D.Mach} : Td Tryz.prog 14 #[vMach i a0] [da rMach (vMach i a0) i] [] (rL (rI .i64)) (takesM i) := by
 refine jenter (args := [vMach i a0]) Tryz.func14 rfl rfl rfl fun w0 X => ?_
 refine jq (jr (jbox Z Z fun g1 => ja Z (jn (jx (jq (jany false (.a 0 (.a 1 (.a 4 (.o 2 (.a 3 (.o 5 (.a 6 .e))))))) Mixed (by kernel_rfl) (kc k0 kn) fun F1 => jy Z (jf F24_0 Z) (jy Z (jl k0 O3 Z Z) (jy Z (jla k0 A24 Z24 Z Z Z) (jyo Z ?_)))))))))
 refine jcv E44 Z Z (kindV_ct i.Op) dn kn (jyn d0 (kc k0 kn) (jy Z (jfo G102_0 O40 Z Z) (jyo Z (jcd (ent_takesF _) Z Z takesF_ct (dc d2 dn) kn fun v8 q8 w8 => jyn d1 (kc k0 kn) (jy Z (jas Z) (jyd (jx (jrt ?_))))))))
 exact jrD Z Z (by rfl) d0
theorem pMakes_ct {a0 : Value} {i : D.Mach} : Td Tryz.prog 88 #[vMach i a0] [da rMach (vMach i a0) i] [] (rL (rI .i64)) (makesM i) := by
 refine jenter (args := [vMach i a0]) Tryz.func88 rfl rfl rfl fun w0 X => ?_
 refine jq (jr (jbox Z Z fun g1 => ja Z (jn (jx (jq (jany false (.a 0 (.a 1 (.a 4 (.o 2 (.a 3 (.o 5 (.a 6 .e))))))) Mixed (by kernel_rfl) (kc k0 kn) fun F1 => jy Z (jf F24_0 Z) (jy Z (jl k0 O3 Z Z) (jy Z (jla k0 A24 Z24 Z Z Z) (jyo Z ?_)))))))))
 refine jcv E44 Z Z (kindV_ct i.Op) dn kn (jyn d0 (kc k0 kn) (jy Z (jfo G102_1 O40 Z Z) (jyo Z (jcd (ent_makesF _) Z Z makesF_ct (dc d2 dn) kn fun v8 q8 w8 => jyn d1 (kc k0 kn) (jy Z (jas Z) (jyd (jx (jrt ?_))))))))
 exact jrD Z Z (by rfl) d0
abbrev U203 := @Tryz.underlying203
abbrev U29 := @Tryz.underlying29
theorem E85 : Ent Tryz.prog 85 := ⟨_,Tryz.func85,by kernel_rfl,by kernel_rfl⟩
theorem Z21 : Sz Tryz.prog 21 1 := by unfold Sz; kernel_rfl
def getM (regs : List Int) (r : Int) : Int := if r < 0 ∨ regs.length ≤ r then 0 else ix regs r.toNat
def setM (regs : List Int) (r v : Int) : List Int := if 0 ≤ r ∧ r < regs.length then regs.set r.toNat v else regs
def loadM (mem : List Int) (at' : Int) : Int × Bool := if at' < 0 ∨ mem.length ≤ at' then (0,false) else (ix mem at'.toNat,true)
def storeM (mem : List Int) (at' v : Int) : List Int := if at' < 0 ∨ mem.length ≤ at' then mem else mem.set at'.toNat v
theorem loadM_ok {mem : List Int} {a : Int} (h : (loadM mem a).2 = true) : 0 ≤ a ∧ a < mem.length := by
 unfold loadM at h; split at h
 · cases h
 · omega
theorem loadM_no {mem : List Int} {a : Int} (h : (loadM mem a).2 = false) : a < 0 ∨ mem.length ≤ a := by
 unfold loadM at h; split at h
 · assumption
 · cases h
def storeOk (mem : List Int) (at' _x : Int) : Bool := (loadM mem at').2
def memM (i : D.Input) : List Int := i.Mem.take 4096
def goesM (e : D.End) (regs : List Int) : Int :=
 if e.Op = 1 then 0
 else if e.Op = 2 then (if getM regs e.A ≠ 0 then 0 else 1)
 else if e.Op = 3 then (if getM regs e.A = getM regs e.B then 0 else 1)
 else if e.Op = 4 then (if getM regs e.A < getM regs e.B then 0 else 1)
 else if e.Op = 5 then (if u32 (getM regs e.A) < u32 (getM regs e.B) then 0 else 1)
 else if e.Op = 6 then (if u32 (getM regs e.A) < e.To.length - 1 then u32 (getM regs e.A) else e.To.length - 1)
 else -1
def immOp (op : Int) : Int := ix [2,5,8,9,10] (op - 18).toNat
def stepM (i : D.Mach) (regs mem : List Int) : (Int × Bool) × List Int × List Int :=
 if i.Op = 1 then ((0,true),setM regs i.D (getM regs i.A),mem)
 else if i.Op = 2 then ((0,true),setM (setM regs i.A (getM regs i.B)) i.B (getM regs i.A),mem)
 else if i.Op = 3 ∨ i.Op = 4 then ((0,true),setM regs i.D i.Imm,mem)
 else if 5 ≤ i.Op ∧ i.Op ≤ 17 then
   if (doM (i.Op - 5 + 2) (getM regs i.A) (getM regs i.B)).2 = true then ((0,true),setM regs i.D (doM (i.Op - 5 + 2) (getM regs i.A) (getM regs i.B)).1,mem) else ((-1,false),regs,mem)
 else if 18 ≤ i.Op ∧ i.Op ≤ 22 then ((0,true),setM regs i.D (doM (immOp i.Op) (getM regs i.A) i.Imm).1,mem)
 else if i.Op = 23 then ((0,true),setM regs i.D (w32 (w32 (getM regs i.A * getM regs i.B) + getM regs i.C)),mem)
 else if i.Op = 24 then
   if (loadM mem (w32 (getM regs i.A + i.Imm))).2 = true then ((0,true),setM regs i.D (loadM mem (w32 (getM regs i.A + i.Imm))).1,mem) else ((-2,false),regs,mem)
 else if i.Op = 25 then
   if (loadM mem (w32 (getM regs i.A + getM regs i.B))).2 = true then ((0,true),setM regs i.D (loadM mem (w32 (getM regs i.A + getM regs i.B))).1,mem) else ((-2,false),regs,mem)
 else if i.Op = 26 then
   ((if storeOk mem (w32 (getM regs i.A + i.Imm)) (getM regs i.B) = true then (0,true) else (-2,false)),regs,storeM mem (w32 (getM regs i.A + i.Imm)) (getM regs i.B))
 else if i.Op = 27 then
   ((if storeOk mem (w32 (getM regs i.A + getM regs i.B)) (getM regs i.C) = true then (0,true) else (-2,false)),regs,storeM mem (w32 (getM regs i.A + getM regs i.B)) (getM regs i.C))
 else if i.Op = 29 then ((0,true),setM (setM regs i.D (wideM (getM regs i.A) (getM regs i.B)).1) i.E (wideM (getM regs i.A) (getM regs i.B)).2,mem)
 else ((0,true),regs,mem)
theorem wide_prog {a b : Int} (ha : IntKind.i32.wrap a = a) (hb : IntKind.i32.wrap b = b) :
   wideM a b = (IntKind.i32.wrap (a * b),IntKind.i32.wrap (shrI .i64 (a * b) 32)) := by
 have h1 := i32_rng ha
 have h2 := i32_rng hb
 have h3 := mul_rng h1 h2
 unfold wideM shrI
 have e1 : (2 : Int) ^ (min (32 : Int).toNat IntKind.i64.bits) = 4294967296 := by decide
 rw [e1]
def setAllM : List Int → List Int → Int → List Int
 | rs,[],_ => rs
 | rs,r :: l,v => setAllM (setM rs r v) l v
theorem setM_len (rs : List Int) (r v : Int) : (setM rs r v).length = rs.length := by unfold setM; split <;> simp
theorem storeM_len (rs : List Int) (r v : Int) : (storeM rs r v).length = rs.length := by unfold storeM; split <;> simp
theorem take_min {α : Type} (l : List α) (n : Nat) (m : Int) (h : m = n) : l.take n = l.take (Int.toNat (min (↑l.length) m)) := by
 subst h
 rcases Nat.le_total l.length n with h | h
 · rw [List.take_of_length_le h,List.take_of_length_le (by omega)]
 · congr 1; omega
def rowsM (a b : List Int) : Bool := decide (a = b)
theorem rowsM_len {a b : List Int} (h : ¬ a.length = b.length) : rowsM a b = false := by simp only [rowsM,decide_eq_false_iff_not]; rintro rfl; exact h rfl
theorem rowsM_at {a b : List Int} {k : Nat} (h1 : k < a.length) (h2 : a.length = b.length) (h : ¬ ix a k = ix b k) : rowsM a b = false := by simp only [rowsM,decide_eq_false_iff_not]; rintro rfl; exact h rfl
theorem rowsM_yes {a b : List Int} {k : Nat} (h1 : a.length ≤ k) (h2 : a.length = b.length) (h : a.take k = b.take k) : rowsM a b = true := by
 rw [List.take_of_length_le h1,List.take_of_length_le (by omega)] at h
 simp only [rowsM,h,decide_true]
theorem getM_wrG {E B : Nat} {F : PH} {H : Heap} {v : Value} {l : List Int} (h : Gl (rI .i32) E F H B v l) (r : Int) : IntKind.i32.wrap (getM l r) = getM l r := by
 unfold getM; split
 · decide
 · exact h.wr (by omega)
theorem loadM_wrG {E B : Nat} {F : PH} {H : Heap} {v : Value} {l : List Int} (h : Gl (rI .i32) E F H B v l) (r : Int) : IntKind.i32.wrap (loadM l r).1 = (loadM l r).1 := by
 unfold loadM; split
 · decide
 · exact h.wr (by omega)
theorem sar_wr {a : Int} (b : Int) (ha : IntKind.i32.wrap a = a) : IntKind.i32.wrap (sarM a b) = sarM a b := by
 have h1 := i32_rng ha
 unfold sarM
 have h2 : (0 : Int) < 2 ^ (b % 32).toNat := Int.pow_pos (by decide)
 rw [Int.fdiv_eq_ediv_of_nonneg _ (by omega)]
 refine IntWalk.i32_in _ ⟨?_,?_⟩
 · rw [Int.le_ediv_iff_mul_le h2]
   have : (-2147483648 : Int) * 2 ^ (b % 32).toNat ≤ -2147483648 * 1 := by
     have := Int.mul_le_mul_of_nonneg_left (show (1 : Int) ≤ 2 ^ (b % 32).toNat by omega) (show (0 : Int) ≤ 2147483648 by decide)
     omega
   omega
 · have := Int.ediv_le_self (b := 2 ^ (b % 32).toNat) (a := a)
   by_cases h : 0 ≤ a
   · have := this h; omega
   · have := Int.ediv_neg_of_neg_of_pos (a := a) (b := 2 ^ (b % 32).toNat) (by omega) h2
     omega
theorem bit_wr (b : Bool) : IntKind.i32.wrap (bitM b) = bitM b := by cases b <;> decide
theorem doM_wr (op : Int) {a : Int} (b : Int) (ha : IntKind.i32.wrap a = a) : IntKind.i32.wrap (doM op a b).1 = (doM op a b).1 := by
 by_cases h : 2 ≤ op ∧ op ≤ 14
 · have hc : op = 2 ∨ op = 3 ∨ op = 4 ∨ op = 5 ∨ op = 6 ∨ op = 7 ∨ op = 8 ∨ op = 9 ∨ op = 10 ∨ op = 11 ∨ op = 12 ∨ op = 13 ∨ op = 14 := by omega
   rcases hc with rfl | rfl | rfl | rfl | rfl | rfl | rfl | rfl | rfl | rfl | rfl | rfl | rfl
   · exact JE.wrap_wrap _ _
   · exact JE.wrap_wrap _ _
   · exact JE.wrap_wrap _ _
   · exact JE.wrap_wrap _ _
   · exact JE.wrap_wrap _ _
   · exact JE.wrap_wrap _ _
   · exact JE.wrap_wrap _ _
   · exact JE.wrap_wrap _ _
   · exact sar_wr b ha
   · exact bit_wr _
   · exact bit_wr _
   · exact bit_wr _
   · have e1 : doM 14 a b = if b = 0 then (0,false) else (divM a b,true) := rfl
     rw [e1]; split
     · decide
     · exact JE.wrap_wrap _ _
 · have e1 : doM op a b = (0,false) := by unfold doM; repeat rw [if_neg (by omega)]
   rw [e1]; decide
theorem wgt {D : List Dt} {L M : List Res} {B E : Nat} {v : Value} {l : List Int} (hk : Tk L (gl B (rI .i32) E v l) M) (r : Int) : Wr D L .i32 (getM l r) := fun _ _ _ _ z => getM_wrG (hk.ok z).1.1 r
theorem wld {D : List Dt} {L M : List Res} {B E : Nat} {v : Value} {l : List Int} (hk : Tk L (gl B (rI .i32) E v l) M) (r : Int) : Wr D L .i32 (loadM l r).1 := fun _ _ _ _ z => loadM_wrG (hk.ok z).1.1 r
theorem wdo {D : List Dt} {L : List Res} {op a b : Int} (h : Wr D L .i32 a) : Wr D L .i32 (doM op a b).1 := fun F H x y z => doM_wr _ _ (h F H x y z)
theorem wWide_ct (a : Int) (b : Int) (ww0 : IntKind.i32.wrap a = a) (ww1 : IntKind.i32.wrap b = b) : Tv Tryz.prog 87 #[.int .i32 a,.int .i32 b] [] [] (.tuple #[.int .i32 ((wideM a b).1),.int .i32 ((wideM a b).2)]) := by
 refine jenter (args := [.int .i32 a,.int .i32 b]) Tryz.func87 rfl rfl rfl fun w0 X => ?_
 have b0 := i32_rng ww0
 have b1 := i32_rng ww1
 have b2 := mul_rng b0 b1
 have c0 := IntWalk.i64_in a (by omega)
 have c1 := IntWalk.i64_in b (by omega)
 refine jq (jr (ja Z (ja Z (jn (jx (jq (jr (jm Z (js (jco U21 U2 Z (up_i32_i64 ww0)) (jm Z (js (jco U21 U2 Z (up_i32_i64 ww1)) ?_)))))))))))
 refine js (jmul Z Z (by omega)) (ja Z (jn (jx (jq (jr (jm Z (js (jco U2 U21 Z Z) (jm Z (js (jshr Z Z (by decide)) (js (jco U2 U21 Z Z) (ja Z ?_)))))))))))
 refine ja Z (jn (jx (jrt ?_)))
 exact jr2 Z Z Z () (tII (wide_prog ww0 ww1)) dn (fun _ _ => kn)
theorem pGet_ct {a0 : Value} {regs : List Int} (r : Int) : Tv Tryz.prog 42 #[a0,.int .i64 r] [dv (rL (rI .i32)) a0 regs] [] (.int .i32 (getM regs r)) := by
 refine jenter (args := [a0,.int .i64 r]) Tryz.func42 rfl rfl rfl fun w0 X => ?_
 refine jq (jr (ja Z (jn (jx (jq (jq (jr (jm Z (js (jlss Z Z) (jm Z (jg Z Z (.f _) (fun hg => jmv Z) ?_)))))))))))
 refine jg Z Z (.f _) (fun hg => jmv Z) (jdq d0 fun q1 w1 => jg Z Z (.f _) (fun hg => jln U29 d0 (evg Z hg)) (jg Z Z (.f _) (fun hg => jgeq (evg Z hg) (evg Z hg)) (js (jor Z Z) (jn (jx ?_)))))
 refine jif Z (fun hc1 => ?_) (fun hc1 => ?_)
 refine jq (jr (ja Z (jn (jx (jrt (jtr ?_))))))
 exact jrI Z Z (by first | (simp [getM,hc1]; done) | (unfold getM; (repeat' split) <;> first | rfl | (exfalso; omega) | (simp [getM,hc1]; done)))
 refine jsk (jx (jq (jr (jm Z (jm Z (js (jix (i := (Int.toNat r)) U29 Z21 d0 Z Z (by omega) (by omega)) (js (jlI (dix d0 (Int.toNat r) (by omega)) O21 Z) (ja Z (jn (jx (jrt ?_)))))))))))
 exact jrI Z Z (by first | (simp [getM,hc1]; done) | (unfold getM; (repeat' split) <;> first | rfl | (exfalso; omega) | (simp [getM,hc1]; done)))
theorem pLoad_ct {a0 : Value} {mem : List Int} (at' : Int) (ww1 : IntKind.i32.wrap at' = at') : Tv Tryz.prog 85 #[a0,.int .i32 at'] [dv (rL (rI .i32)) a0 mem] [] (.tuple #[.int .i32 ((loadM mem at').1),.bool ((loadM mem at').2)]) := by
 refine jenter (args := [a0,.int .i32 at']) Tryz.func85 rfl rfl rfl fun w0 X => ?_
 refine jq (jr (ja Z (ja Z (jn (jx (jq (jq (jr (jm Z (js (jlss Z Z) (jm Z ?_)))))))))))
 refine jg Z Z (.f _) (fun hg => jmv Z) (jg Z Z (.f _) (fun hg => jco U21 U3 (evg Z hg) (up_i32_i64 ww1)) (jg Z Z (.f _) (fun hg => jmv Z) (jdq d0 fun q1 w1 => jg Z Z (.f _) (fun hg => jln U29 d0 (evg Z hg)) (jg Z Z (.f _) (fun hg => jgeq (evg Z hg) (evg Z hg)) (js (jor Z Z) (jn (jx ?_)))))))
 refine jif Z (fun hc1 => ?_) (fun hc1 => ?_)
 refine jq (jr (ja Z (ja Z (jn (jx (jrt (jtr ?_)))))))
 exact jr2 Z Z Z () (tIB (by first | (simp [loadM,hc1]; done) | (unfold loadM; (repeat' split) <;> first | rfl | (exfalso; omega) | (simp [loadM,hc1]; done)))) dn (fun _ _ => kn)
 refine jsk (jx (jq (jr (jm Z (jm Z (js (jix (i := (Int.toNat (at'))) U29 Z21 d0 Z Z (by omega) (by omega)) (js (jlI (dix d0 (Int.toNat (at')) (by omega)) O21 Z) (ja Z (ja Z (jn (jx ?_)))))))))))
 refine jrt ?_
 exact jr2 Z Z Z () (tIB (by first | (simp [loadM,hc1]; done) | (unfold loadM; (repeat' split) <;> first | rfl | (exfalso; omega) | (simp [loadM,hc1]; done)))) dn (fun _ _ => kn)
theorem pStore_ct {a0 : Value} {mem : List Int} {B0 : Nat} (at' : Int) (x : Int) (hl : mem.length < 1073741824) (ww1 : IntKind.i32.wrap at' = at') (ww2 : IntKind.i32.wrap x = x) : Tr Tryz.prog 86 #[a0,.int .i32 at',.int .i32 x] [] [gl B0 (rI .i32) 21 a0 mem] (fun _ : Unit => .bool (storeOk mem at' x)) (fun _ => []) (fun _ _ => [gl B0 (rI .i32) 21 a0 (storeM mem (at') x)]) := by
 refine jenter (args := [a0,.int .i32 at',.int .i32 x]) Tryz.func86 rfl rfl rfl fun w0 X => ?_
 refine cgo k0 fun w1 => jq (jr (ja Z (jn (jx (jq (jr (jm Z (jm Z (jc E85 Z Z (Tv.temp 1073741824 (pLoad_ct (at') ww1) (by omega)) dn (kc k0 kn) (fun _ => p0) (fun _ => p1) fun _ => jm Z ?_)))))))))
 refine js (jex' Z Z) (js (jex' Z Z) (ja Z (ja Z (jn (jx (jq (jq (jr (jm Z (jn (jx ?_)))))))))))
 refine jif Z (fun hc1 => ?_) (fun hc1 => ?_)
 have hb := loadM_ok hc1
 refine jr (jm Z (jm Z (jm Z (js (jig (i := (Int.toNat (at'))) U29 Z21 k0 Z Z (by omega) (by omega)) (jsg k0 Z Z21 Z Z Z (by omega) (wI (wp ww2)) (jn (jx (jq (jr (jm Z (ja Z ?_)))))))))))
 refine jn (jx (jrt ?_))
 exact jr1 Z Z () (congrArg Value.bool (Eq.symm (by first | (simp [storeOk, *]; done)))) dn (fun _ _ => (kcg (by first | (simp [storeM, *]; done) | (unfold storeM; rw [if_neg (by omega)]; done) | (unfold storeM; rw [if_pos (by omega)]; done)) k0 kn))
 have hb := loadM_no hc1
 refine jsk (jx (jq (jr (jm Z (ja Z (jn (jx (jrt ?_))))))))
 exact jr1 Z Z () (congrArg Value.bool (Eq.symm (by first | (simp [storeOk, *]; done)))) dn (fun _ _ => (kcg (by first | (simp [storeM, *]; done) | (unfold storeM; rw [if_neg (by omega)]; done) | (unfold storeM; rw [if_pos (by omega)]; done)) k0 kn))
theorem E42 : Ent Tryz.prog 42 := ⟨_,Tryz.func42,by kernel_rfl,by kernel_rfl⟩
theorem E60 : Ent Tryz.prog 60 := ⟨_,Tryz.func60,by kernel_rfl,by kernel_rfl⟩
theorem F31_1 : Fld Tryz.prog 31 1 1 := ⟨_,_,Tryz.underlying31,rfl,rfl,1,(by unfold Sz; kernel_rfl),by decide⟩
theorem F88_3 : Fld Tryz.prog 88 3 3 := ⟨_,_,Tryz.underlying88,rfl,rfl,1,(by unfold Sz; kernel_rfl),by decide⟩
theorem I21 : (Tryz.prog.info? 21).map (fun i => (i.zero,i.size,i.bytes)) = some (some (.int .i32 0),1,4) := by kernel_rfl
theorem O29 : One Tryz.prog 29 := ⟨_,Tryz.underlying29,rfl⟩
theorem Z3 : Sz Tryz.prog 3 1 := by unfold Sz; kernel_rfl
theorem pGoes_ct {a0 : Value} {e : D.End} {a1 : Value} {regs : List Int} : Tv Tryz.prog 43 #[vEnd e a0,a1] [da rEnd (vEnd e a0) e,dv (rL (rI .i32)) a1 regs] [] (.int .i64 (goesM e regs)) := by
 refine jenter (args := [vEnd e a0,a1]) Tryz.func43 rfl rfl rfl fun w0 X => ?_
 refine jq (jr (jbox Z Z fun g2 => ja Z (jn (jx (jq (jany false (.a 0 (.a 1 (.a 2 (.a 4 (.a 5 (.a 6 (.o 3 (.o 7 (.a 8 (.a 9 .e)))))))))) Mixed (by kernel_rfl) (kc k0 kn) fun F1 => jy Z (jmv Z) (jy Z (jf F88_1 Z) (jy Z (jl k0 O3 Z Z) (jy Z (jmv Z) ?_)))))))))
 refine jy Z (jf F88_2 Z) (jy Z (jl k0 O3 Z Z) (jyo Z (jdq d2 fun q3 w3 => jcv E42 Z Z (pGet_ct e.A) (dc d2 dn) kn (jyn d0 (kc k0 kn) (jyo Z (jcv E42 Z Z (pGet_ct e.B) (dc d3 dn) kn (jyn d0 (kc k0 kn) (jy Z (jas Z) (jy Z (jas Z) (jyd ?_))))))))))
 refine jx (jq (jr (ja Z (jn (jx (jq (jq (jr (js (jf F88_0 Z) (js (jl k0 O3 Z Z) (jn ?_)))))))))))
 refine jx (jb (jq (jr (js (jeql Z Z) (ja Z (jn (jx ?_)))))))
 refine jif Z (fun hc1 => ?_) (fun hc1 => ?_)
 refine jr (ja Z (jn (jbn (jx (jq (jq (jr (jm Z (jn (jx ?_))))))))))
 refine jif Z (fun hc2 => ?_) (fun hc2 => ?_)
 refine jq (jr (ja Z (jn (jx (jrt (jtr ?_))))))
 exact jrI Z Z (by first | (simp [goesM, *]; done) | (unfold goesM; (repeat' split) <;> first | rfl | (exfalso; omega) | simp_all))
 exact absurd hc2 (by simp)
 refine jq (jr (js (jeql Z Z) (ja Z (jn (jx ?_)))))
 refine jif Z (fun hc3 => ?_) (fun hc3 => ?_)
 refine jr (jm Z (js (jneq Z Z) (ja Z (jn (jbn (jx (jq (jq (jr (jm Z (jn ?_)))))))))))
 refine jx ?_
 refine jif Z (fun hc4 => ?_) (fun hc4 => ?_)
 refine jq (jr (ja Z (jn (jx (jrt (jtr ?_))))))
 exact jrI Z Z (by first | (simp [goesM, *]; done) | (unfold goesM; (repeat' split) <;> first | rfl | (exfalso; omega) | simp_all))
 refine jsk (jx (jq (jr (ja Z (jn (jx (jrt ?_)))))))
 exact jrI Z Z (by first | (simp [goesM, *]; done) | (unfold goesM; (repeat' split) <;> first | rfl | (exfalso; omega) | simp_all))
 refine jq (jr (js (jeql Z Z) (ja Z (jn (jx ?_)))))
 refine jif Z (fun hc5 => ?_) (fun hc5 => ?_)
 refine jr (jm Z (jm Z (js (jeql Z Z) (ja Z (jn (jbn (jx (jq (jq (jr (jm Z ?_)))))))))))
 refine jn (jx ?_)
 refine jif Z (fun hc6 => ?_) (fun hc6 => ?_)
 refine jq (jr (ja Z (jn (jx (jrt (jtr ?_))))))
 exact jrI Z Z (by first | (simp [goesM, *]; done) | (unfold goesM; (repeat' split) <;> first | rfl | (exfalso; omega) | simp_all))
 refine jsk (jx (jq (jr (ja Z (jn (jx (jrt ?_)))))))
 exact jrI Z Z (by first | (simp [goesM, *]; done) | (unfold goesM; (repeat' split) <;> first | rfl | (exfalso; omega) | simp_all))
 refine jq (jr (js (jeql Z Z) (ja Z (jn (jx ?_)))))
 refine jif Z (fun hc7 => ?_) (fun hc7 => ?_)
 refine jr (jm Z (jm Z (js (jlss Z Z) (ja Z (jn (jbn (jx (jq (jq (jr (jm Z ?_)))))))))))
 refine jn (jx ?_)
 refine jif Z (fun hc8 => ?_) (fun hc8 => ?_)
 refine jq (jr (ja Z (jn (jx (jrt (jtr ?_))))))
 exact jrI Z Z (by first | (simp [goesM, *]; done) | (unfold goesM; (repeat' split) <;> first | rfl | (exfalso; omega) | simp_all))
 refine jsk (jx (jq (jr (ja Z (jn (jx (jrt ?_)))))))
 exact jrI Z Z (by first | (simp [goesM, *]; done) | (unfold goesM; (repeat' split) <;> first | rfl | (exfalso; omega) | simp_all))
 refine jq (jr (js (jeql Z Z) (ja Z (jn (jx ?_)))))
 refine jif Z (fun hc9 => ?_) (fun hc9 => ?_)
 refine jr (jm Z (js (jco U21 U155 Z Z) (jm Z (js (jco U21 U155 Z Z) (js (jlss Z Z) (ja Z (jn (jbn (jx (jq (jq ?_)))))))))))
 refine jr (jm Z (jn (jx ?_)))
 refine jif Z (fun hc10 => ?_) (fun hc10 => ?_)
 refine jq (jr (ja Z (jn (jx (jrt (jtr ?_))))))
 exact jrI Z Z (by first | (simp [goesM, *]; done) | (unfold goesM; (repeat' split) <;> first | rfl | (exfalso; omega) | simp_all))
 refine jsk (jx (jq (jr (ja Z (jn (jx (jrt ?_)))))))
 exact jrI Z Z (by first | (simp [goesM, *]; done) | (unfold goesM; (repeat' split) <;> first | rfl | (exfalso; omega) | simp_all))
 refine jq (jr (js (jeql Z Z) (ja Z (jn (jx ?_)))))
 refine jif Z (fun hc11 => ?_) (fun hc11 => ?_)
 refine jq (jr (js (jf F88_3 Z) (js (jl k0 O22 Z Z) (jdq (rEnd.c_To d2) fun q5 w5 => js (jln U22 (rEnd.c_To d2) Z) (js (jsub Z Z (by omega)) (ja Z (jn (jx (jq (jq ?_))))))))))
 refine jr (jm Z (js (jco U21 U155 Z Z) (js (jco U155 U2 Z (up_u32_i64 (JE.wrap_wrap _ _))) (ja Z (jn (jx (jq (jr (jm Z (jm Z (js (jlss Z Z) ?_)))))))))))
 refine jn (jx ?_)
 refine jif Z (fun hc12 => ?_) (fun hc12 => ?_)
 refine jq (jr (jm Z (ja Z (jn (jx (jrt (jtr (jbr (jtr ?_)))))))))
 exact jrI Z Z (by first | (simp [goesM, *]; done) | (unfold goesM; (repeat' split) <;> first | rfl | (exfalso; omega) | simp_all))
 refine jsk (jx (jq (jr (jm Z (ja Z (jn (jx (jrt (jbr (jtr ?_))))))))))
 exact jrI Z Z (by first | (simp [goesM, *]; done) | (unfold goesM; (repeat' split) <;> first | rfl | (exfalso; omega) | simp_all))
 refine jq (jr (ja Z (jn (jx (jrt (jbr (jtr ?_)))))))
 exact jrI Z Z (by first | (simp [goesM, *]; done) | (unfold goesM; (repeat' split) <;> first | rfl | (exfalso; omega) | simp_all))
theorem clone32_ct {a0 : Value} {l : List Int} : Tg Tryz.prog 60 #[a0] [dv (rL (rI .i32)) a0 l] [] (rI .i32) 21 l := by
 refine jenter (args := [a0]) Tryz.func60 rfl rfl rfl fun w0 X => ?_
 refine jq (jr (ja Z (jn (jx (jq (jq (jr (jm Z (jeb (jeqlNil U29 d0 Z Z) fun b4 hnil4 => jn (jx ?_))))))))))
 refine jif Z (fun hc1 => ?_) (fun hc1 => ?_)
 refine jq (jr (ja Z (jn (jx (jrt (jtr (qnl (r := (rI .i32)) (E := 21) ?_)))))))
 exact jrG Z Z (by first | rfl | exact hnil4 hc1) k0
 refine jsk (jx (jq (jr (jlit (r := (rI .i32)) (l := []) U29 I21 (by decide) Z Z Z ln fun g5 => jm Z (jdq d0 fun q2 w2 => japlz U29 I21 (by decide) Z k0 Z Z d0 (by omega) fun v7 w3 => ja Z (jn (jx (jrt ?_))))))))
 exact jrG Z Z (by first | rfl | exact hnil4 hc1) k0
theorem pMem_ct {a0a a0b a0c : Value} {i : D.Input} : Tg Tryz.prog 28 #[vInput i (a0a,a0b,a0c)] [da rInput (vInput i (a0a,a0b,a0c)) i] [] (rI .i32) 21 (memM i) := by
 refine jenter (args := [vInput i (a0a,a0b,a0c)]) Tryz.func28 rfl rfl rfl fun w0 X => ?_
 refine jq (jr (jbox Z Z fun g1 => ja Z (jn (jx (jq (jr (js (jf F31_1 Z) (js (jl k0 O29 Z Z) (js (jf F31_1 Z) (js (jl k0 O29 Z Z) ?_))))))))))
 refine jdq (rInput.c_Mem d0) fun q1 w1 => js (jln U29 (rInput.c_Mem d0) Z) (js (jmin Z Z) (js (jshi (hi := (Int.toNat (min (↑(List.length i.Mem)) 4096))) U29 Z21 (rInput.c_Mem d0) Z Z (by omega) (by omega)) (jdq (dhi (rInput.c_Mem d0) (Int.toNat (min (↑(List.length i.Mem)) 4096)) (by omega) (by omega)) fun q2 w2 => jcg E60 Z Z clone32_ct (dc (dhi (rInput.c_Mem d0) (Int.toNat (min (↑(List.length i.Mem)) 4096)) (by omega) (by omega)) dn) kn fun v10 w3 => ja Z (jn (jx (jrt ?_))))))
 exact jrG Z Z (take_min _ 4096 _ rfl) k0
theorem words_ct {a0 : Value} {a : List Int} {a1 : Value} {b : List Int} : Tv Tryz.prog 15 #[a0,a1] [dv (rL (rI .i32)) a0 a,dv (rL (rI .i32)) a1 b] [] (.bool (rowsM a b)) := by
 refine jenter (args := [a0,a1]) Tryz.func15 rfl rfl rfl fun w0 X => ?_
 refine jq (jr (ja Z (jn (jx (jq (jq (jr (jm Z (jdq d0 fun q1 w1 => js (jln U29 d0 Z) (jm Z ?_))))))))))
 refine jdq d1 fun q2 w2 => js (jln U29 d1 Z) (js (jneq Z Z) (jn (jx ?_)))
 refine jif Z (fun hc1 => ?_) (fun hc1 => ?_)
 refine jq (jr (ja Z (jn (jx (jrt (jtr ?_))))))
 exact jrB Z Z (rowsM_len (by omega))
 refine jsk (jx (jq (jq (jr (ja Z (jn (jx (jb ?_))))))))
 refine jlp (fun (k : Nat) => ⟨k ≤ a.length ∧ a.take k = b.take k,[dv (rL (rI .i32)) a0 a,dv (rL (rI .i32)) a1 b],[],[(0,a0),(1,a1),(5,.int .i64 (↑k))],a.length - k⟩) 0 ⟨by omega,rfl⟩ (dc d0 (dc d1 dn)) kn ⟨Z,Z,eqI (by omega),trivial⟩ ?_
 rintro k; dsimp only; rintro ⟨hk,hR⟩
 refine jq (jq (jr (jm Z (jm Z (js (jln U29 d0 Z) (js (jlss Z Z) (jn (jx ?_))))))))
 refine jif Z (fun hc2 => ?_) (fun hc2 => ?_)
 refine jsk (jx (jq (jb (jq (jstl Mixed (by kernel_rfl) (jt (jmv Z) (jt (jmv Z) (jt (jix U29 Z21 d0 Z Z Z (by omega)) (jt (jlI (dix d0 k (by omega)) O21 Z) (jt (jmv Z) (jt (jmv Z) ?_)))))))))))
 refine jt (jix U29 Z21 d1 Z Z Z (by omega)) (jt (jlI (dix d1 k (by omega)) O21 Z) (jt (jneq Z Z) (jdn (jx ?_))))
 refine jif Z (fun hc3 => ?_) (fun hc3 => ?_)
 refine jq (jr (ja Z (jn (jx (jrt (jbr (jtr (jtr (jbr (jtr ?_))))))))))
 exact jrB Z Z (by first | exact rowsM_at (k := k) (by omega) (by omega) hc3 | exact rowsM_yes (k := k) (by omega) (by omega) hR)
 refine jsk (jbn (jx (jr (jm Z (js (jadd Z Z (by omega)) (ja Z (jn ?_)))))))
 exact jag (k + 1) ⟨by omega,by rw [take_ix (by omega),take_ix (by omega),hR,hc3]⟩ (dc d0 (dc d1 dn)) kn ⟨Z,Z,eqI (by omega),trivial⟩
 refine jex (jtx (jtx (jbh (jx (jq (jr (ja Z (jn (jx (jrt ?_))))))))))
 exact jrB Z Z (by first | exact rowsM_at (k := k) (by omega) (by omega) hc3 | exact rowsM_yes (k := k) (by omega) (by omega) hR)
abbrev U150 := @Tryz.underlying150
theorem E83 : Ent Tryz.prog 83 := ⟨_,Tryz.func83,by kernel_rfl,by kernel_rfl⟩
theorem E84 : Ent Tryz.prog 84 := ⟨_,Tryz.func84,by kernel_rfl,by kernel_rfl⟩
theorem E86 : Ent Tryz.prog 86 := ⟨_,Tryz.func86,by kernel_rfl,by kernel_rfl⟩
theorem E87 : Ent Tryz.prog 87 := ⟨_,Tryz.func87,by kernel_rfl,by kernel_rfl⟩
theorem E88 : Ent Tryz.prog 88 := ⟨_,Tryz.func88,by kernel_rfl,by kernel_rfl⟩
theorem F24_6 : Fld Tryz.prog 24 6 6 := ⟨_,_,Tryz.underlying24,rfl,rfl,1,(by unfold Sz; kernel_rfl),by decide⟩
theorem pSet_ct (r : Int) (x : Int) {a2 : Value} {regs : List Int} {g2 : Nat} {B2 : Nat} (hl : regs.length < 1073741824) (ww1 : IntKind.i32.wrap x = x) : Tr Tryz.prog 83 #[.int .i64 r,.int .i32 x,.pointer (some ⟨g2,0,none⟩)] [] [gl B2 (rI .i32) 21 a2 regs,bx g2 29 [a2]] (fun _ : Unit => .tuple #[]) (fun _ => []) (fun _ _ => [gl B2 (rI .i32) 21 a2 (setM regs r x),bx g2 29 [a2]]) := by
 refine jenter (args := [.int .i64 r,.int .i32 x,.pointer (some ⟨g2,0,none⟩)]) Tryz.func83 rfl rfl rfl fun w0 X => ?_
 refine cgo k0 fun w1 => jq (jr (jm Z (js (jgeq Z Z) (jm Z (jg Z Z (.t _) (fun hg => jmv Z) (jg Z Z (.t _) (fun hg => jl k1 O29 Z Z) (jg Z Z (.t _) (fun hg => jlg U29 k0 (evg Z hg)) (jg Z Z (.t _) (fun hg => jlss (evg Z hg) (evg Z hg)) (js (jand Z Z) (jn ?_))))))))))
 refine jx ?_
 refine jif Z (fun hc1 => ?_) (fun hc1 => ?_)
 refine jr (js (jl k1 O29 Z Z) (jm Z (jm Z (js (jig (i := (Int.toNat r)) U29 Z21 k0 Z Z (by omega) (by omega)) (jsg k0 Z Z21 Z Z Z (by omega) (wI (wp ww1)) (jn ?_))))))
 exact jd0 Z () Z dn (fun _ _ => (kcg (by first | (simp [setM, *]; done) | (unfold setM; rw [if_neg (by omega)]; done) | (unfold setM; rw [if_pos (by omega)]; done)) k0 (kc k0 kn)))
 refine jsk ?_
 exact jd0 Z () Z dn (fun _ _ => (kcg (by first | (simp [setM, *]; done) | (unfold setM; rw [if_neg (by omega)]; done) | (unfold setM; rw [if_pos (by omega)]; done)) k0 (kc k0 kn)))
def DoJ (i : D.Mach) (regs mem : List Int) (v t : Int) (ok : Bool) (me : List Int) : Prop := (ok = true → stepM i regs mem = ((0,true),setAllM regs (makesM i) v,me)) ∧ (ok = false → stepM i regs mem = ((if t = 0 then -2 else t,false),regs,me))
theorem doJ1 {i : D.Mach} {regs mem me : List Int} {v t : Int} {ok : Bool} (e : makesM i = [i.D]) (h1 : ok = true → stepM i regs mem = ((0,true),setM regs i.D v,me)) (h2 : ok = false → stepM i regs mem = ((if t = 0 then -2 else t,false),regs,me)) : DoJ i regs mem v t ok me := ⟨fun h => by rw [h1 h,e]; rfl,h2⟩
theorem doJ0 {i : D.Mach} {regs mem me : List Int} {v t : Int} {ok : Bool} (e : makesM i = []) (h1 : ok = true → stepM i regs mem = ((0,true),regs,me)) (h2 : ok = false → stepM i regs mem = ((if t = 0 then -2 else t,false),regs,me)) : DoJ i regs mem v t ok me := ⟨fun h => by rw [h1 h,e]; rfl,h2⟩
theorem doJ_end {i : D.Mach} {regs mem me rs : List Int} {v t : Int} {k : Nat} (h : DoJ i regs mem v t true me) (hR : setAllM regs (makesM i) v = setAllM rs ((makesM i).drop k) v) (hk : (makesM i).length ≤ k) : stepM i regs mem = ((0,true),rs,me) := by
 rw [h.1 rfl,hR,List.drop_of_length_le hk]; rfl
set_option maxHeartbeats 4000000 in
theorem pDoM_ct {a0 : Value} {i : D.Mach} {a1 : Value} {regs : List Int} {B1 : Nat} {a2 : Value} {mem : List Int} {B2 : Nat} (hl : regs.length < 1073741824) (hl2 : mem.length < 1073741824) : Tr Tryz.prog 41 #[vMach i a0,a1,a2] [da rMach (vMach i a0) i] [gl B1 (rI .i32) 21 a1 regs,gl B2 (rI .i32) 21 a2 mem] (fun _ : Unit => .tuple #[.int .i32 ((stepM i regs mem).1.1),.bool ((stepM i regs mem).1.2)]) (fun _ => []) (fun _ _ => [gl B1 (rI .i32) 21 a1 ((stepM i regs mem).2.1),gl B2 (rI .i32) 21 a2 ((stepM i regs mem).2.2)]) := by
 refine jenter (args := [vMach i a0,a1,a2]) Tryz.func41 rfl rfl rfl fun w0 X => ?_
 refine cgo k0 fun w1 => cgo k1 fun w2 => jq (jr (jbox Z Z fun g3 => jbox Z w1.cells fun g4 => ja Z (ja Z (jn (jx (jq (jany false (.a 0 (.a 1 (.a 2 (.a 4 (.a 5 (.a 6 (.a 8 (.a 9 (.a 10 (.o 3 (.o 7 (.o 11 (.a 12 (.a 13 (.a 14 .e))))))))))))))) Mixed (by kernel_rfl) (kd kn) fun F3 => ?_)))))))
 refine jy Z (jl k0 O29 Z Z) (jy Z (jf F24_3 Z) (jy Z (jl k1 O3 Z Z) (jy Z (jl k0 O29 Z Z) (jy Z (jf F24_4 Z) (jy Z (jl k1 O3 Z Z) (jy Z (jl k0 O29 Z Z) (jy Z (jf F24_5 Z) (jy Z (jl k1 O3 Z Z) (jyo Z (jc E42 Z Z (Tv.temp 1073741824 (pGet_ct i.A) (by omega)) dn (kc k2 kn) (fun _ => p0) (fun _ => p1) fun _ => jwr (wgt k0 i.A) fun w5 => ?_))))))))))
 refine jyn d0 (kc k1 (kc k1 kn)) (jyo Z (jc E42 Z Z (Tv.temp 1073741824 (pGet_ct i.B) (by omega)) dn (kc k0 kn) (fun _ => p0) (fun _ => p1) fun _ => jyn d0 (kc k1 (kc k1 kn)) (jyo Z (jc E42 Z Z (Tv.temp 1073741824 (pGet_ct i.C) (by omega)) dn (kc k0 kn) (fun _ => p0) (fun _ => p1) fun _ => jyn d0 (kc k1 (kc k1 kn)) (jy Z (jas Z) (jy Z (jas Z) (jy Z (jas Z) (jyd (jx ?_)))))))))
 refine jq (jr (js (jmf1 Z) (ja Z (jn (jx (jq (jr (jm Z (ja Z (ja Z (ja Z ?_)))))))))))
 refine jn (jx (jq ?_))
 refine jjo (u4 fun (v : Int) (t : Int) (ok : Bool) (me : List Int) => ⟨IntKind.i32.wrap v = v ∧ me.length = mem.length ∧ DoJ i regs mem v t ok me,[da rMach (vMach i a0) i],[gl B1 (rI .i32) 21 a1 regs,bx g4 29 [a1],bx g3 24 [.int .i64 i.Op,.int .i64 i.D,.int .i64 i.E,.int .i64 i.A,.int .i64 i.B,.int .i64 i.C,.int .i32 i.Imm,a0],gl B2 (rI .i32) 21 a2 me],[(3,.pointer (some ⟨g3,0,none⟩)),(11,.func (.func 83) #[] #[.pointer (some ⟨g4,0,none⟩)]),(12,.int .i32 v),(13,.int .i32 t),(14,.bool ok)]⟩) ?_ ?_
 refine jb (jq (jr (js (jf F24_0 Z) (js (jl k2 O3 Z Z) (js (jeql Z Z) (ja Z (jn (jx ?_))))))))
 refine jif Z (fun hc1 => ?_) (fun hc1 => ?_)
 refine jsk (jbn ?_)
 exact jje (getM regs i.A,0,true,mem) ⟨by dsimp only; exact w5,by first | rfl | exact storeM_len _ _ _,by dsimp only; exact doJ1 (by unfold makesM; repeat rw [if_neg (by omega)]) (fun h9 => by (unfold stepM; (repeat rw [if_neg (by omega)]) <;> (try rw [if_pos (by omega)]) <;> first | rfl | (simp [*]; done) | (simp [immOp, *]; done) | simp_all)) (fun h9 => by (unfold stepM; (repeat rw [if_neg (by omega)]) <;> (try rw [if_pos (by omega)]) <;> first | rfl | (simp [*]; done) | (simp [immOp, *]; done) | simp_all))⟩ (dc d3 dn) (kd (kd kn)) ⟨Z,Z,Z,Z,Z,trivial⟩
 refine jq (jr (js (jf F24_0 Z) (js (jl k2 O3 Z Z) (js (jeql Z Z) (ja Z (jn (jx ?_)))))))
 refine jif Z (fun hc2 => ?_) (fun hc2 => ?_)
 refine jq (jr (jm Z (js (jf F24_3 Z) (js (jl k2 O3 Z Z) (jm Z (jwr (wgt k0 i.B) fun w9 => jc E83 Z Z (pSet_ct i.A (getM regs i.B) (by first | omega | (simp only [setM_len,storeM_len]; omega)) w9) dn (kd kn) (fun _ => p0) (fun _ => p2) fun _ => jn (jx (jq (jr ?_)))))))))
 refine jm Z (js (jf F24_4 Z) (js (jl k2 O3 Z Z) (jm Z (jc E83 Z Z (pSet_ct i.B (getM regs i.A) (by first | omega | (simp only [setM_len,storeM_len]; omega)) w5) dn (kd kn) (fun _ => p0) (fun _ => p2) fun _ => jn (jx (jq (jr (ja Z (ja Z (jn ?_))))))))))
 refine jx (jrt (jbr (jjr (jtr ?_))))
 have hm : stepM i regs mem = ((0,true),setM (setM regs i.A (getM regs i.B)) i.B (getM regs i.A),mem) := (by unfold stepM; (repeat rw [if_neg (by omega)]) <;> (try rw [if_pos (by omega)]) <;> first | rfl | (simp [*]; done) | (simp [immOp, *]; done) | (exfalso; (try simp at hc1); (try simp at hc2); simp_all; done))
 exact jr2 Z Z Z () (by rw [hm]) dn (fun _ _ => (kcg (by rw [hm]) k0 (kcg (by rw [hm]) k2 kn)))
 refine jq (jr (js (jf F24_0 Z) (js (jl k2 O3 Z Z) (js (jeql Z Z) (jm Z (jg Z Z (.f _) (fun hg => jf F24_0 Z) (jg Z Z (.f _) (fun hg => jl k2 O3 (evg Z hg) Z) (jg Z Z (.f _) (fun hg => jeql (evg Z hg) Z) (js (jor Z Z) (ja Z (jn ?_)))))))))))
 refine jx ?_
 refine jif Z (fun hc3 => ?_) (fun hc3 => ?_)
 refine jr (js (jf F24_6 Z) (js (jl k2 O21 Z Z) (ja Z (jn (jbn (qwr (rMach.W_Imm d3) fun w10 => ?_))))))
 exact jje (i.Imm,0,true,mem) ⟨by dsimp only; exact w10,by first | rfl | exact storeM_len _ _ _,by dsimp only; exact doJ1 (by unfold makesM; repeat rw [if_neg (by omega)]) (fun h9 => by (unfold stepM; (repeat rw [if_neg (by omega)]) <;> (try rw [if_pos (by omega)]) <;> first | rfl | (simp [*]; done) | (simp [immOp, *]; done) | simp_all)) (fun h9 => by (unfold stepM; (repeat rw [if_neg (by omega)]) <;> (try rw [if_pos (by omega)]) <;> first | rfl | (simp [*]; done) | (simp [immOp, *]; done) | simp_all))⟩ (dc d3 dn) (kd (kd kn)) ⟨Z,Z,Z,Z,Z,trivial⟩
 refine jq (jr (js (jf F24_0 Z) (js (jl k2 O3 Z Z) (js (jgeq Z Z) (jm Z (jg Z Z (.t _) (fun hg => jf F24_0 Z) (jg Z Z (.t _) (fun hg => jl k2 O3 (evg Z hg) Z) (jg Z Z (.t _) (fun hg => jleq (evg Z hg) Z) (js (jand Z Z) (ja Z (jn ?_)))))))))))
 refine jx ?_
 refine jif Z (fun hc4 => ?_) (fun hc4 => ?_)
 refine jq (jr (js (jf F24_0 Z) (js (jl k2 O3 Z Z) (js (jsub Z Z (by omega)) (js (jadd Z Z (by omega)) (jm Z (jm Z (jcv E84 Z Z (wDo_ct ((i.Op - 5) + 2) (getM regs i.A) (getM regs i.B)) dn kn (jm Z (js (jex' Z Z) (js (jex' Z Z) ?_)))))))))))
 refine ja Z (ja Z (jn (jx (jr (ja Z (jn (jbn (qwr (m := ((doM ((i.Op - 5) + 2) (getM regs i.A) (getM regs i.B)).1)) (wdo (wp w5)) fun w11 => ?_))))))))
 exact jje ((doM ((i.Op - 5) + 2) (getM regs i.A) (getM regs i.B)).1,(-1),(doM ((i.Op - 5) + 2) (getM regs i.A) (getM regs i.B)).2,mem) ⟨by dsimp only; exact w11,by first | rfl | exact storeM_len _ _ _,by dsimp only; exact doJ1 (by unfold makesM; repeat rw [if_neg (by omega)]) (fun h9 => by (unfold stepM; (repeat rw [if_neg (by omega)]) <;> (try rw [if_pos (by omega)]) <;> first | rfl | (simp [*]; done) | (simp [immOp, *]; done) | simp_all)) (fun h9 => by (unfold stepM; (repeat rw [if_neg (by omega)]) <;> (try rw [if_pos (by omega)]) <;> first | rfl | (simp [*]; done) | (simp [immOp, *]; done) | simp_all))⟩ (dc d3 dn) (kd (kd kn)) ⟨Z,Z,Z,Z,Z,trivial⟩
 refine jq (jr (js (jf F24_0 Z) (js (jl k2 O3 Z Z) (js (jgeq Z Z) (jm Z (jg Z Z (.t _) (fun hg => jf F24_0 Z) (jg Z Z (.t _) (fun hg => jl k2 O3 (evg Z hg) Z) (jg Z Z (.t _) (fun hg => jleq (evg Z hg) Z) (js (jand Z Z) (ja Z (jn ?_)))))))))))
 refine jx ?_
 refine jif Z (fun hc5 => ?_) (fun hc5 => ?_)
 refine jany false (.a 0 (.a 1 (.a 2 (.a 3 (.a 4 (.a 5 (.a 6 (.a 7 (.o 8 (.a 9 (.a 10 (.a 11 (.a 12 .e))))))))))))) Mixed (by kernel_rfl) (kc k2 kn) fun F12 => jy Z (jbu (v := .agg #[.int .i64 2,.int .i64 5,.int .i64 8,.int .i64 9,.int .i64 10]) Z (fun _ => by kernel_rfl)) (jy Z (jf F24_0 Z) (jy Z (jl k0 O3 Z Z) (jy Z (jsub Z Z (by omega)) (jy Z (jci (l := [2,5,8,9,10]) U150 Z3 O3 Z Z ⟨by omega,by omega,Z⟩) (jy Z (jmv Z) (jy Z (jf F24_6 Z) (jy Z (jl k0 O21 Z Z) (jyo Z (jcv E84 Z Z (wDo_ct (ix [2,5,8,9,10] (Int.toNat (i.Op - 18))) (getM regs i.A) i.Imm) dn kn (jyn d0 (kc k2 kn) ?_))))))))))
 refine jy Z (jmv Z) (jy Z (jex' Z Z) (jy Z (jex' Z Z) (jy Z (jas Z) (jyd (jbn (qwr (m := ((doM (ix [2,5,8,9,10] (Int.toNat (i.Op - 18))) (getM regs i.A) i.Imm).1)) (wdo (wp w5)) fun w14 => ?_))))))
 exact jje ((doM (ix [2,5,8,9,10] (Int.toNat (i.Op - 18))) (getM regs i.A) i.Imm).1,0,true,mem) ⟨by dsimp only; exact w14,by first | rfl | exact storeM_len _ _ _,by dsimp only; exact doJ1 (by unfold makesM; repeat rw [if_neg (by omega)]) (fun h9 => by (unfold stepM; (repeat rw [if_neg (by omega)]) <;> (try rw [if_pos (by omega)]) <;> first | rfl | (simp [*]; done) | (simp [immOp, *]; done) | simp_all)) (fun h9 => by (unfold stepM; (repeat rw [if_neg (by omega)]) <;> (try rw [if_pos (by omega)]) <;> first | rfl | (simp [*]; done) | (simp [immOp, *]; done) | simp_all))⟩ (dc d4 dn) (kd (kd kn)) ⟨Z,Z,Z,Z,Z,trivial⟩
 refine jq (jr (js (jf F24_0 Z) (js (jl k2 O3 Z Z) (js (jeql Z Z) (ja Z (jn (jx ?_)))))))
 refine jif Z (fun hc6 => ?_) (fun hc6 => ?_)
 refine jr (jm Z (jm Z (js (jmulw Z Z) (jm Z (js (jaddw Z Z) (ja Z (jn (jbn ?_))))))))
 exact jje (IntKind.i32.wrap ((IntKind.i32.wrap ((getM regs i.A) * (getM regs i.B))) + (getM regs i.C)),0,true,mem) ⟨by dsimp only; exact (JE.wrap_wrap _ _),by first | rfl | exact storeM_len _ _ _,by dsimp only; exact doJ1 (by unfold makesM; repeat rw [if_neg (by omega)]) (fun h9 => by (unfold stepM; (repeat rw [if_neg (by omega)]) <;> (try rw [if_pos (by omega)]) <;> first | rfl | (simp [*]; done) | (simp [immOp, *]; done) | simp_all)) (fun h9 => by (unfold stepM; (repeat rw [if_neg (by omega)]) <;> (try rw [if_pos (by omega)]) <;> first | rfl | (simp [*]; done) | (simp [immOp, *]; done) | simp_all))⟩ (dc d3 dn) (kd (kd kn)) ⟨Z,Z,Z,Z,Z,trivial⟩
 refine jq (jr (js (jf F24_0 Z) (js (jl k2 O3 Z Z) (js (jeql Z Z) (ja Z (jn (jx ?_)))))))
 refine jif Z (fun hc7 => ?_) (fun hc7 => ?_)
 refine jr (jm Z (jm Z (js (jf F24_6 Z) (js (jl k2 O21 Z Z) (js (jaddw Z Z) (jc E85 Z Z (Tv.temp 1073741824 (pLoad_ct (IntKind.i32.wrap ((getM regs i.A) + i.Imm)) (JE.wrap_wrap _ _)) (by omega)) dn (kc k3 kn) (fun _ => p0) (fun _ => p1) fun _ => jm Z (js (jex' Z Z) (js (jex' Z Z) (ja Z (ja Z ?_))))))))))
 refine jn (jbn (qwr (m := ((loadM mem (IntKind.i32.wrap ((getM regs i.A) + i.Imm))).1)) (wld k0 (IntKind.i32.wrap ((getM regs i.A) + i.Imm))) fun w15 => ?_))
 exact jje ((loadM mem (IntKind.i32.wrap ((getM regs i.A) + i.Imm))).1,0,(loadM mem (IntKind.i32.wrap ((getM regs i.A) + i.Imm))).2,mem) ⟨by dsimp only; exact w15,by first | rfl | exact storeM_len _ _ _,by dsimp only; exact doJ1 (by unfold makesM; repeat rw [if_neg (by omega)]) (fun h9 => by (unfold stepM; (repeat rw [if_neg (by omega)]) <;> (try rw [if_pos (by omega)]) <;> first | rfl | (simp [*]; done) | (simp [immOp, *]; done) | simp_all)) (fun h9 => by (unfold stepM; (repeat rw [if_neg (by omega)]) <;> (try rw [if_pos (by omega)]) <;> first | rfl | (simp [*]; done) | (simp [immOp, *]; done) | simp_all))⟩ (dc d3 dn) (kc k1 (kc k1 (kc k1 (kc k0 kn)))) ⟨Z,Z,Z,Z,Z,trivial⟩
 refine jq (jr (js (jf F24_0 Z) (js (jl k2 O3 Z Z) (js (jeql Z Z) (ja Z (jn (jx ?_)))))))
 refine jif Z (fun hc8 => ?_) (fun hc8 => ?_)
 refine jr (jm Z (jm Z (jm Z (js (jaddw Z Z) (jc E85 Z Z (Tv.temp 1073741824 (pLoad_ct (IntKind.i32.wrap ((getM regs i.A) + (getM regs i.B))) (JE.wrap_wrap _ _)) (by omega)) dn (kc k3 kn) (fun _ => p0) (fun _ => p1) fun _ => jm Z (js (jex' Z Z) (js (jex' Z Z) (ja Z (ja Z (jn ?_))))))))))
 refine jbn (qwr (m := ((loadM mem (IntKind.i32.wrap ((getM regs i.A) + (getM regs i.B)))).1)) (wld k0 (IntKind.i32.wrap ((getM regs i.A) + (getM regs i.B)))) fun w16 => ?_)
 exact jje ((loadM mem (IntKind.i32.wrap ((getM regs i.A) + (getM regs i.B)))).1,0,(loadM mem (IntKind.i32.wrap ((getM regs i.A) + (getM regs i.B)))).2,mem) ⟨by dsimp only; exact w16,by first | rfl | exact storeM_len _ _ _,by dsimp only; exact doJ1 (by unfold makesM; repeat rw [if_neg (by omega)]) (fun h9 => by (unfold stepM; (repeat rw [if_neg (by omega)]) <;> (try rw [if_pos (by omega)]) <;> first | rfl | (simp [*]; done) | (simp [immOp, *]; done) | simp_all)) (fun h9 => by (unfold stepM; (repeat rw [if_neg (by omega)]) <;> (try rw [if_pos (by omega)]) <;> first | rfl | (simp [*]; done) | (simp [immOp, *]; done) | simp_all))⟩ (dc d3 dn) (kc k1 (kc k1 (kc k1 (kc k0 kn)))) ⟨Z,Z,Z,Z,Z,trivial⟩
 refine jq (jr (js (jf F24_0 Z) (js (jl k2 O3 Z Z) (js (jeql Z Z) (ja Z (jn (jx ?_)))))))
 refine jif Z (fun hc9 => ?_) (fun hc9 => ?_)
 refine jr (jm Z (jm Z (js (jf F24_6 Z) (js (jl k2 O21 Z Z) (js (jaddw Z Z) (jm Z (jwr (wgt k0 i.B) fun w17 => jc E86 Z Z (pStore_ct (IntKind.i32.wrap ((getM regs i.A) + i.Imm)) (getM regs i.B) (by first | omega | (simp only [setM_len,storeM_len]; omega)) (JE.wrap_wrap _ _) w17) dn (kc k3 kn) (fun _ => p0) (fun _ => p1) fun _ => ja Z (jn (jbn ?_)))))))))
 exact jje (getM regs i.A,0,storeOk mem (IntKind.i32.wrap ((getM regs i.A) + i.Imm)) (getM regs i.B),storeM mem (IntKind.i32.wrap ((getM regs i.A) + i.Imm)) (getM regs i.B)) ⟨by dsimp only; exact w5,by first | rfl | exact storeM_len _ _ _,by dsimp only; exact doJ0 (by unfold makesM; (repeat rw [if_neg (by omega)]) <;> (try rw [if_pos (by omega)])) (fun h9 => by (unfold stepM; (repeat rw [if_neg (by omega)]) <;> (try rw [if_pos (by omega)]) <;> first | rfl | (simp [*]; done) | (simp [immOp, *]; done) | simp_all)) (fun h9 => by (unfold stepM; (repeat rw [if_neg (by omega)]) <;> (try rw [if_pos (by omega)]) <;> first | rfl | (simp [*]; done) | (simp [immOp, *]; done) | simp_all))⟩ (dc d3 dn) (kc k1 (kc k1 (kc k1 (kc k0 kn)))) ⟨Z,Z,Z,Z,Z,trivial⟩
 refine jq (jr (js (jf F24_0 Z) (js (jl k2 O3 Z Z) (js (jeql Z Z) (ja Z (jn (jx ?_)))))))
 refine jif Z (fun hc10 => ?_) (fun hc10 => ?_)
 refine jr (jm Z (jm Z (jm Z (js (jaddw Z Z) (jm Z (jwr (wgt k0 i.C) fun w18 => jc E86 Z Z (pStore_ct (IntKind.i32.wrap ((getM regs i.A) + (getM regs i.B))) (getM regs i.C) (by first | omega | (simp only [setM_len,storeM_len]; omega)) (JE.wrap_wrap _ _) w18) dn (kc k3 kn) (fun _ => p0) (fun _ => p1) fun _ => ja Z (jn (jbn ?_))))))))
 exact jje (getM regs i.A,0,storeOk mem (IntKind.i32.wrap ((getM regs i.A) + (getM regs i.B))) (getM regs i.C),storeM mem (IntKind.i32.wrap ((getM regs i.A) + (getM regs i.B))) (getM regs i.C)) ⟨by dsimp only; exact w5,by first | rfl | exact storeM_len _ _ _,by dsimp only; exact doJ0 (by unfold makesM; (repeat rw [if_neg (by omega)]) <;> (try rw [if_pos (by omega)])) (fun h9 => by (unfold stepM; (repeat rw [if_neg (by omega)]) <;> (try rw [if_pos (by omega)]) <;> first | rfl | (simp [*]; done) | (simp [immOp, *]; done) | simp_all)) (fun h9 => by (unfold stepM; (repeat rw [if_neg (by omega)]) <;> (try rw [if_pos (by omega)]) <;> first | rfl | (simp [*]; done) | (simp [immOp, *]; done) | simp_all))⟩ (dc d3 dn) (kc k1 (kc k1 (kc k1 (kc k0 kn)))) ⟨Z,Z,Z,Z,Z,trivial⟩
 refine jq (jr (js (jf F24_0 Z) (js (jl k2 O3 Z Z) (js (jeql Z Z) (ja Z (jn (jx ?_)))))))
 refine jif Z (fun hc11 => ?_) (fun hc11 => ?_)
 refine jq (jr (jm Z (jm Z (jwr (wgt k0 i.B) fun w19 => jcv E87 Z Z (wWide_ct (getM regs i.A) (getM regs i.B) w5 w19) dn kn (jm Z (js (jex' Z Z) (js (jex' Z Z) (ja Z (ja Z (jn ?_))))))))))
 refine jx (jq (jr (jm Z (js (jf F24_1 Z) (js (jl k2 O3 Z Z) (jm Z (jc E83 Z Z (pSet_ct i.D ((wideM (getM regs i.A) (getM regs i.B)).1) (by first | omega | (simp only [setM_len,storeM_len]; omega)) (JE.wrap_wrap _ _)) dn (kd kn) (fun _ => p0) (fun _ => p2) fun _ => jn (jx (jq (jr ?_))))))))))
 refine jm Z (js (jf F24_2 Z) (js (jl k2 O3 Z Z) (jm Z (jc E83 Z Z (pSet_ct i.E ((wideM (getM regs i.A) (getM regs i.B)).2) (by first | omega | (simp only [setM_len,storeM_len]; omega)) (JE.wrap_wrap _ _)) dn (kd kn) (fun _ => p0) (fun _ => p2) fun _ => jn (jx (jq (jr (ja Z (ja Z (jn ?_))))))))))
 refine jx (jrt (jbr (jjr (jtr ?_))))
 have hm : stepM i regs mem = ((0,true),setM (setM regs i.D ((wideM (getM regs i.A) (getM regs i.B)).1)) i.E ((wideM (getM regs i.A) (getM regs i.B)).2),mem) := (by unfold stepM; (repeat rw [if_neg (by omega)]) <;> (try rw [if_pos (by omega)]) <;> first | rfl | (simp [*]; done) | (simp [immOp, *]; done) | (exfalso; (try simp at hc9); (try simp at hc10); (try simp at hc11); simp_all; done))
 exact jr2 Z Z Z () (by rw [hm]) dn (fun _ _ => (kcg (by rw [hm]) k0 (kcg (by rw [hm]) k2 kn)))
 refine jq (jr (ja Z (ja Z (jn (jx (jrt (jbr (jjr (jtr ?_)))))))))
 have hm : stepM i regs mem = ((0,true),regs,mem) := (by unfold stepM; (repeat rw [if_neg (by omega)]) <;> (try rw [if_pos (by omega)]) <;> first | rfl | (simp [*]; done) | (simp [immOp, *]; done) | (exfalso; (try simp at hc9); (try simp at hc10); (try simp at hc11); simp_all; done))
 exact jr2 Z Z Z () (by rw [hm]) dn (fun _ _ => (kcg (by rw [hm]) k0 (kcg (by rw [hm]) k2 kn)))
 rintro ⟨v,t,ok,me⟩; dsimp only [u4]; rintro ⟨hvw,hme,hJ⟩
 refine jx (jq (jq (jr (jm Z (js (jnot Z) (jm Z (jg Z Z (.t _) (fun hg => jmv Z) (jg Z Z (.t _) (fun hg => jeql (evg Z hg) Z) (js (jand Z Z) (jn (jx ?_)))))))))))
 refine jif Z (fun hc12 => ?_) (fun hc12 => ?_)
 refine jr (ja Z (jn (jx (jq (jq (jr (jm Z (js (jnot Z) (jn (jx ?_))))))))))
 refine jif Z (fun hc13 => ?_) (fun hc13 => ?_)
 refine jq (jr (jm Z (ja Z (ja Z (jn (jx (jrt (jtr ?_))))))))
 have hm : stepM i regs mem = (((-2),false),regs,me) := (by rw [hJ.2 (by simp_all)]; simp_all)
 exact jr2 Z Z Z () (by rw [hm]) dn (fun _ _ => (kcg (by rw [hm]) k0 (kcg (by rw [hm]) k2 kn)))
 exact absurd hc13 (by simp [hc12])
 refine jsk (jx (jq (jq (jr (jm Z (js (jnot Z) (jn (jx ?_))))))))
 refine jif Z (fun hc14 => ?_) (fun hc14 => ?_)
 refine jq (jr (jm Z (ja Z (ja Z (jn (jx (jrt (jtr ?_))))))))
 have hm : stepM i regs mem = ((t,false),regs,me) := (by rw [hJ.2 (by simp_all)]; simp_all)
 exact jr2 Z Z Z () (by rw [hm]) dn (fun _ _ => (kcg (by rw [hm]) k0 (kcg (by rw [hm]) k2 kn)))
 refine jsk (jx (jq (jq (jr (js (jla k2 A24 Z24 Z Z Z) (jcd E88 Z Z pMakes_ct (dc d0 dn) kn fun v187 q20 w20 => js (jln U22 d0 Z) (jm Z (jn (jx (jb ?_))))))))))
 refine jlp (u2 fun (k : Nat) (rs : List Int) => ⟨k ≤ (makesM i).length ∧ setAllM regs (makesM i) v = setAllM rs ((makesM i).drop k) v ∧ rs.length = regs.length,[dv (rL (rI .i64)) v187 (makesM i)],[gl B1 (rI .i32) 21 a1 rs,bx g4 29 [a1],gl B2 (rI .i32) 21 a2 me],[(11,.func (.func 83) #[] #[.pointer (some ⟨g4,0,none⟩)]),(12,.int .i32 v),(187,v187),(188,.int .i64 (↑(List.length (makesM i)))),(189,.int .i64 (↑k))],(makesM i).length - k⟩) (0,regs) ⟨by omega,rfl,rfl⟩ (dc d0 dn) (kd (kc k1 kn)) ⟨Z,Z,Z,Z,eqI (by omega),trivial⟩ ?_
 rintro ⟨k,rs⟩; dsimp only [u2]; rintro ⟨hk,hR,hl9⟩
 refine jq (jr (js (jlss Z Z) (jn (jx (jq ?_)))))
 refine jif Z (fun hc15 => ?_) (fun hc15 => ?_)
 refine jsk (jx (jq (jb (jq (jr (js (jix U22 Z3 d0 Z Z Z (by omega)) (js (jlI (dix d0 k (by omega)) O3 Z) (ja Z (jn (jx (jr ?_)))))))))))
 refine jm Z (jm Z (jm Z (jc E83 Z Z (pSet_ct (ix (makesM i) k) v (by first | omega | (simp only [setM_len,storeM_len]; omega)) hvw) dn (kd kn) (fun _ => p0) (fun _ => p2) fun _ => jn (jbn (jx (jr (js (jadd Z Z (by omega)) (jm Z (jn ?_)))))))))
 exact jag (k + 1,setM rs (ix (makesM i) k) v) ⟨by dsimp only; omega,by dsimp only; rw [hR,drop_ix (by omega)]; rfl,by dsimp only; rw [setM_len]; exact hl9⟩ (dc d0 dn) (kd (kc k0 kn)) ⟨Z,Z,Z,Z,eqI (by omega),trivial⟩
 refine jex (jtx (jtx (jbh (jx (jq (jr (ja Z (ja Z (jn (jx (jrt ?_)))))))))))
 have hm : stepM i regs mem = ((0,true),rs,me) := (by first | exact doJ_end (by simp_all) hR (by omega) | (have e9 : ok = true := (by simp_all); subst e9; exact doJ_end hJ hR (by omega)))
 exact jr2 Z Z Z () (by rw [hm]) dn (fun _ _ => (kcg (by rw [hm]) k0 (kcg (by rw [hm]) k1 kn)))
abbrev U57 := @Tryz.underlying57
abbrev U63 := @Tryz.underlying63
theorem A111 : ∃ d,Tryz.prog.underlying 111 = some d ∧ (match d with | .struct _ | .array _ _ => true | _ => false) = true := ⟨_,Tryz.underlying111,rfl⟩
theorem A65 : ∃ d,Tryz.prog.underlying 65 = some d ∧ (match d with | .struct _ | .array _ _ => true | _ => false) = true := ⟨_,Tryz.underlying65,rfl⟩
theorem E173 : Ent Tryz.prog 173 := ⟨_,Tryz.func173,by kernel_rfl,by kernel_rfl⟩
theorem E175 : Ent Tryz.prog 175 := ⟨_,Tryz.func175,by kernel_rfl,by kernel_rfl⟩
theorem E81 : Ent Tryz.prog 81 := ⟨_,Tryz.func81,by kernel_rfl,by kernel_rfl⟩
theorem Z111 : Sz Tryz.prog 111 2 := by unfold Sz; kernel_rfl
theorem Z65 : Sz Tryz.prog 65 2 := by unfold Sz; kernel_rfl
def idxM {α : Type} (l : List α) (q : α → Bool) : Int := match l.findIdx? q with
 | some i => i
 | none => -1
def anyM {α : Type} (l : List α) (q : α → Bool) : Bool := l.any q
theorem idx_hit {α : Type} [Inhabited α] {l : List α} {q : α → Bool} {k : Nat} (hk : k < l.length) (h : ∀ x ∈ l.take k,q x = false) (h1 : q (ix l k) = true) : idxM l q = k := by
 have : l.findIdx? q = some k := by
   rw [List.findIdx?_eq_some_iff_getElem]
   refine ⟨hk,by rw [← ix_eq hk]; exact h1,fun j hj => ?_⟩
   have := h l[j] (by rw [List.mem_take_iff_getElem]; exact ⟨j,by omega,rfl⟩)
   simp [this]
 simp [idxM,this]
theorem idx_none {α : Type} {l : List α} {q : α → Bool} {k : Nat} (hk : l.length ≤ k) (h : ∀ x ∈ l.take k,q x = false) : idxM l q = -1 := by
 rw [List.take_of_length_le hk] at h
 have : l.findIdx? q = none := by rw [List.findIdx?_eq_none_iff]; exact h
 simp [idxM,this]
theorem idx_any {α : Type} (l : List α) (q : α → Bool) : decide (0 ≤ idxM l q) = anyM l q := by
 unfold idxM anyM
 cases h : l.findIdx? q with
 | none =>
   rw [List.findIdx?_eq_none_iff] at h
   have : l.any q = false := by rw [List.any_eq_false]; intro x hx; simp [h x hx]
   rw [this]; rfl
 | some i =>
   obtain ⟨hi,h1,_⟩ := List.findIdx?_eq_some_iff_getElem.1 h
   have : l.any q = true := List.any_eq_true.2 ⟨_,List.getElem_mem hi,h1⟩
   rw [this]; simp
theorem no_snoc {α : Type} [Inhabited α] {l : List α} {q : α → Bool} {k : Nat} (hk : k < l.length) (h : ∀ x ∈ l.take k,q x = false) (h1 : q (ix l k) = false) : ∀ x ∈ l.take (k + 1),q x = false := by
 intro x hx
 rw [take_ix hk] at hx
 rcases List.mem_append.1 hx with hx | hx
 · exact h x hx
 · simp at hx; subst hx; exact h1
theorem Ct.kp {P : Program} {f : FuncId} {args : Array Value} {H : Heap} {u : Value} (h : Ct P f args H (fun v H' => v = u ∧ H' = H)) : Ct P f args H (fun v H' => v = u ∧ Kp H.size H H') := h.mono fun _ _ ⟨a,b⟩ => ⟨a,b ▸ Kp.refl _ _⟩
theorem idxFInt_ct {a0 : Value} {l : List Int} {fp : Nat} {cp : List Value} {D1 : List Dt} {L1 : List Res} (q : Int → Bool) (hE : Ent Tryz.prog fp) (hq : ∀ x,x ∈ l → Pd Tryz.prog fp (.int .i64 x :: cp).toArray [dl D1] L1 (q x)) : Tr Tryz.prog 175 #[a0,.func (.func fp) #[] cp.toArray] [dv (rL (rI .i64)) a0 l,dl D1] [it L1] (fun _ : Unit => .int .i64 (idxM l q)) (fun _ => []) (fun _ _ => [it L1]) := by
 refine jenter (args := [a0,.func (.func fp) #[] cp.toArray]) Tryz.func175 rfl rfl rfl fun w0 X => ?_
 refine jq (jr (ja Z (jn (jx (jq (jq (jr (jm Z (jdq d0 fun q1 w1 => js (jln U22 d0 Z) (jm Z ?_))))))))))
 refine jn (jx (jb ?_))
 refine jlp (fun (k : Nat) => ⟨k ≤ l.length ∧ (∀ x ∈ l.take k,q x = false),[dv (rL (rI .i64)) a0 l,dl D1],[it L1],[(0,a0),(1,.func (.func fp) #[] cp.toArray),(7,.int .i64 (↑(List.length l))),(8,.int .i64 (↑k))],l.length - k⟩) 0 ⟨by omega,by simp⟩ (dc d0 (dc d1 dn)) (kc k0 kn) ⟨Z,Z,Z,eqI (by omega),trivial⟩ ?_
 rintro k; dsimp only; rintro ⟨hk,hR⟩
 refine jq (jr (js (jlss Z Z) (jn (jx (jq ?_)))))
 refine jif Z (fun hc1 => ?_) (fun hc1 => ?_)
 refine jsk (jx (jq (jb (jq (jr (jm Z (ja Z (jn (jx (jq (jr ?_)))))))))))
 refine jm Z (jm Z (jm Z (js (jix U22 Z3 d0 Z Z Z (by omega)) (js (jlI (dix d0 k (by omega)) O3 Z) (jc hE Z Z (hq (ix l k) (ix_mem (by omega))) (dc d1 dn) (kc k0 kn) (fun _ => p0) (fun _ => p1) fun _ => jn (jx ?_))))))
 refine jif Z (fun hc2 => ?_) (fun hc2 => ?_)
 refine jq (jr (jm Z (ja Z (jn (jx (jrt (jbr (jtr (jtr (jbr (jtr ?_)))))))))))
 exact jr1 Z Z () (congrArg (Value.int .i64) (Eq.symm (idx_hit (by omega) hR hc2))) dn (fun _ _ => (kc k0 kn))
 refine jsk (jbn (jx (jr (js (jadd Z Z (by omega)) (jm Z (jn ?_))))))
 exact jag (k + 1) ⟨by omega,no_snoc (by omega) hR hc2⟩ (dc d0 (dc d1 dn)) (kc k0 kn) ⟨Z,Z,Z,eqI (by omega),trivial⟩
 refine jex (jtx (jtx (jbh (jx (jq (jr (ja Z (jn (jx (jrt ?_))))))))))
 exact jr1 Z Z () (congrArg (Value.int .i64) (Eq.symm (idx_none (by omega) hR))) dn (fun _ _ => (kc k0 kn))
theorem anyFInt_ct {a0 : Value} {l : List Int} {fp : Nat} {cp : List Value} {D1 : List Dt} {L1 : List Res} (q : Int → Bool) (hE : Ent Tryz.prog fp) (hq : ∀ x,x ∈ l → Pd Tryz.prog fp (.int .i64 x :: cp).toArray [dl D1] L1 (q x)) : Tr Tryz.prog 136 #[a0,.func (.func fp) #[] cp.toArray] [dv (rL (rI .i64)) a0 l,dl D1] [it L1] (fun _ : Unit => .bool (anyM l q)) (fun _ => []) (fun _ _ => [it L1]) := by
 refine jenter (args := [a0,.func (.func fp) #[] cp.toArray]) Tryz.func136 rfl rfl rfl fun w0 X => ?_
 refine jq (jr (ja Z (jn (jx (jq (jr (jm Z (jm Z (jdq d0 fun q1 w1 => jc E175 Z Z (idxFInt_ct q hE hq) (dc d0 (dc d1 dn)) (kc k0 kn) (fun _ => p0) (fun _ => p1) fun _ => js (jgeq Z Z) ?_)))))))))
 refine ja Z (jn (jx (jrt ?_)))
 exact jr1 Z Z () (congrArg Value.bool (Eq.symm ((idx_any l q).symm))) dn (fun _ _ => (kc k0 kn))
theorem idxFIn_ct {a0 : Value} {l : List D.In} {fp : Nat} {cp : List Value} {D1 : List Dt} {L1 : List Res} (q : D.In → Bool) (hE : Ent Tryz.prog fp) (hq : ∀ x,x ∈ l → ∀ c : Unit,Pd Tryz.prog fp (vIn x c :: cp).toArray [da rIn (vIn x c) x,dl D1] L1 (q x)) : Tr Tryz.prog 81 #[a0,.func (.func fp) #[] cp.toArray] [dv (rL rIn) a0 l,dl D1] [it L1] (fun _ : Unit => .int .i64 (idxM l q)) (fun _ => []) (fun _ _ => [it L1]) := by
 refine jenter (args := [a0,.func (.func fp) #[] cp.toArray]) Tryz.func81 rfl rfl rfl fun w0 X => ?_
 refine jq (jr (ja Z (jn (jx (jq (jq (jr (jm Z (jdq d0 fun q1 w1 => js (jln U63 d0 Z) (jm Z ?_))))))))))
 refine jn (jx (jb ?_))
 refine jlp (fun (k : Nat) => ⟨k ≤ l.length ∧ (∀ x ∈ l.take k,q x = false),[dv (rL rIn) a0 l,dl D1],[it L1],[(0,a0),(1,.func (.func fp) #[] cp.toArray),(7,.int .i64 (↑(List.length l))),(8,.int .i64 (↑k))],l.length - k⟩) 0 ⟨by omega,by simp⟩ (dc d0 (dc d1 dn)) (kc k0 kn) ⟨Z,Z,Z,eqI (by omega),trivial⟩ ?_
 rintro k; dsimp only; rintro ⟨hk,hR⟩
 refine jq (jr (js (jlss Z Z) (jn (jx (jq ?_)))))
 refine jif Z (fun hc1 => ?_) (fun hc1 => ?_)
 refine jsk (jx (jq (jb (jq (jr (jm Z (ja Z (jn (jx (jq (jr ?_)))))))))))
 refine jm Z (jm Z (jm Z (js (jix U63 Z111 d0 Z Z Z (by omega)) (jA sIn (jlA (dix d0 k (by omega)) A111 Z111 Z) fun _ => jc hE Z Z (hq (ix l k) (ix_mem (by omega)) ()) (dc d0 (dc d2 dn)) (kc k0 kn) (fun _ => p0) (fun _ => p1) fun _ => jn (jx ?_)))))
 refine jif Z (fun hc2 => ?_) (fun hc2 => ?_)
 refine jq (jr (jm Z (ja Z (jn (jx (jrt (jbr (jtr (jtr (jbr (jtr ?_)))))))))))
 exact jr1 Z Z () (congrArg (Value.int .i64) (Eq.symm (idx_hit (by omega) hR hc2))) dn (fun _ _ => (kc k0 kn))
 refine jsk (jbn (jx (jr (js (jadd Z Z (by omega)) (jm Z (jn ?_))))))
 exact jag (k + 1) ⟨by omega,no_snoc (by omega) hR hc2⟩ (dc d1 (dc d2 dn)) (kc k0 kn) ⟨Z,Z,Z,eqI (by omega),trivial⟩
 refine jex (jtx (jtx (jbh (jx (jq (jr (ja Z (jn (jx (jrt ?_))))))))))
 exact jr1 Z Z () (congrArg (Value.int .i64) (Eq.symm (idx_none (by omega) hR))) dn (fun _ _ => (kc k0 kn))
theorem anyFIn_ct {a0 : Value} {l : List D.In} {fp : Nat} {cp : List Value} {D1 : List Dt} {L1 : List Res} (q : D.In → Bool) (hE : Ent Tryz.prog fp) (hq : ∀ x,x ∈ l → ∀ c : Unit,Pd Tryz.prog fp (vIn x c :: cp).toArray [da rIn (vIn x c) x,dl D1] L1 (q x)) : Tr Tryz.prog 130 #[a0,.func (.func fp) #[] cp.toArray] [dv (rL rIn) a0 l,dl D1] [it L1] (fun _ : Unit => .bool (anyM l q)) (fun _ => []) (fun _ _ => [it L1]) := by
 refine jenter (args := [a0,.func (.func fp) #[] cp.toArray]) Tryz.func130 rfl rfl rfl fun w0 X => ?_
 refine jq (jr (ja Z (jn (jx (jq (jr (jm Z (jm Z (jdq d0 fun q1 w1 => jc E81 Z Z (idxFIn_ct q hE hq) (dc d0 (dc d1 dn)) (kc k0 kn) (fun _ => p0) (fun _ => p1) fun _ => js (jgeq Z Z) ?_)))))))))
 refine ja Z (jn (jx (jrt ?_)))
 exact jr1 Z Z () (congrArg Value.bool (Eq.symm ((idx_any l q).symm))) dn (fun _ _ => (kc k0 kn))
theorem idxFPhi_ct {a0 : Value} {l : List D.Phi} {fp : Nat} {cp : List Value} {D1 : List Dt} {L1 : List Res} (q : D.Phi → Bool) (hE : Ent Tryz.prog fp) (hq : ∀ x,x ∈ l → ∀ c : Value,Pd Tryz.prog fp (vPhi x c :: cp).toArray [da rPhi (vPhi x c) x,dl D1] L1 (q x)) : Tr Tryz.prog 173 #[a0,.func (.func fp) #[] cp.toArray] [dv (rL rPhi) a0 l,dl D1] [it L1] (fun _ : Unit => .int .i64 (idxM l q)) (fun _ => []) (fun _ _ => [it L1]) := by
 refine jenter (args := [a0,.func (.func fp) #[] cp.toArray]) Tryz.func173 rfl rfl rfl fun w0 X => ?_
 refine jq (jr (ja Z (jn (jx (jq (jq (jr (jm Z (jdq d0 fun q1 w1 => js (jln U57 d0 Z) (jm Z ?_))))))))))
 refine jn (jx (jb ?_))
 refine jlp (fun (k : Nat) => ⟨k ≤ l.length ∧ (∀ x ∈ l.take k,q x = false),[dv (rL rPhi) a0 l,dl D1],[it L1],[(0,a0),(1,.func (.func fp) #[] cp.toArray),(7,.int .i64 (↑(List.length l))),(8,.int .i64 (↑k))],l.length - k⟩) 0 ⟨by omega,by simp⟩ (dc d0 (dc d1 dn)) (kc k0 kn) ⟨Z,Z,Z,eqI (by omega),trivial⟩ ?_
 rintro k; dsimp only; rintro ⟨hk,hR⟩
 refine jq (jr (js (jlss Z Z) (jn (jx (jq ?_)))))
 refine jif Z (fun hc1 => ?_) (fun hc1 => ?_)
 refine jsk (jx (jq (jb (jq (jr (jm Z (ja Z (jn (jx (jq (jr ?_)))))))))))
 refine jm Z (jm Z (jm Z (js (jix U57 Z65 d0 Z Z Z (by omega)) (jA sPhi (jlA (dix d0 k (by omega)) A65 Z65 Z) fun c15 => jc hE Z Z (hq (ix l k) (ix_mem (by omega)) c15) (dc d0 (dc d2 dn)) (kc k0 kn) (fun _ => p0) (fun _ => p1) fun _ => jn (jx ?_)))))
 refine jif Z (fun hc2 => ?_) (fun hc2 => ?_)
 refine jq (jr (jm Z (ja Z (jn (jx (jrt (jbr (jtr (jtr (jbr (jtr ?_)))))))))))
 exact jr1 Z Z () (congrArg (Value.int .i64) (Eq.symm (idx_hit (by omega) hR hc2))) dn (fun _ _ => (kc k0 kn))
 refine jsk (jbn (jx (jr (js (jadd Z Z (by omega)) (jm Z (jn ?_))))))
 exact jag (k + 1) ⟨by omega,no_snoc (by omega) hR hc2⟩ (dc d1 (dc d2 dn)) (kc k0 kn) ⟨Z,Z,Z,eqI (by omega),trivial⟩
 refine jex (jtx (jtx (jbh (jx (jq (jr (ja Z (jn (jx (jrt ?_))))))))))
 exact jr1 Z Z () (congrArg (Value.int .i64) (Eq.symm (idx_none (by omega) hR))) dn (fun _ _ => (kc k0 kn))
theorem anyFPhi_ct {a0 : Value} {l : List D.Phi} {fp : Nat} {cp : List Value} {D1 : List Dt} {L1 : List Res} (q : D.Phi → Bool) (hE : Ent Tryz.prog fp) (hq : ∀ x,x ∈ l → ∀ c : Value,Pd Tryz.prog fp (vPhi x c :: cp).toArray [da rPhi (vPhi x c) x,dl D1] L1 (q x)) : Tr Tryz.prog 132 #[a0,.func (.func fp) #[] cp.toArray] [dv (rL rPhi) a0 l,dl D1] [it L1] (fun _ : Unit => .bool (anyM l q)) (fun _ => []) (fun _ _ => [it L1]) := by
 refine jenter (args := [a0,.func (.func fp) #[] cp.toArray]) Tryz.func132 rfl rfl rfl fun w0 X => ?_
 refine jq (jr (ja Z (jn (jx (jq (jr (jm Z (jm Z (jdq d0 fun q1 w1 => jc E173 Z Z (idxFPhi_ct q hE hq) (dc d0 (dc d1 dn)) (kc k0 kn) (fun _ => p0) (fun _ => p1) fun _ => js (jgeq Z Z) ?_)))))))))
 refine ja Z (jn (jx (jrt ?_)))
 exact jr1 Z Z () (congrArg Value.bool (Eq.symm ((idx_any l q).symm))) dn (fun _ _ => (kc k0 kn))
end Go.Proofs.YtmfkkodnghambaaGreat
