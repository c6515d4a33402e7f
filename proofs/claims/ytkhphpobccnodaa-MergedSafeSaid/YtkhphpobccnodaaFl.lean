/- Literals, and the laws' words. Conditions: none. -/
import Derived.Test.YtkhphpobccnodaaW8
namespace Go.Proofs.Ytkhphpobccnodaa
open Go.JE

theorem Try.lit23_3 (a b c d e f : Int) : ∀ w : World, (Instr.buildSlice 23 3 #[(0, .agg #[.int .i64 a, .int .i64 b]), (1, .agg #[.int .i64 c, .int .i64 d]), (2, .agg #[.int .i64 e, .int .i64 f])]).run Try.prog w = .ok (.slice (some ⟨w.heap.size, 0, none⟩) 3 3) (w.alloc (.cells (pflat [(a, b), (c, d), (e, f)]).toArray 44)) := fun w => by kernel_rfl
theorem Try.lit23_1 (a b : Int) : ∀ w : World, (Instr.buildSlice 23 1 #[(0, .agg #[.int .i64 a, .int .i64 b])]).run Try.prog w = .ok (.slice (some ⟨w.heap.size, 0, none⟩) 1 1) (w.alloc (.cells (pflat [(a, b)]).toArray 44)) := fun w => by kernel_rfl
theorem Try.lit22_3 (a b c : Int) : ∀ w : World, (Instr.buildSlice 22 3 #[(0, .int .i64 a), (1, .int .i64 b), (2, .int .i64 c)]).run Try.prog w = .ok (.slice (some ⟨w.heap.size, 0, none⟩) 3 3) (w.alloc (.cells ([a, b, c].map (Value.int .i64)).toArray 3)) := fun w => by kernel_rfl
theorem lit_ps {H : Heap} (l : List (Int × Int)) (hl : l.length ≤ 1000) : Ps (H.push (.cells (pflat l).toArray 44)) (H.size + 1) (.slice (some ⟨H.size, 0, none⟩) l.length l.length) l := by
  refine ⟨by omega, _, _, rfl, Nat.le_refl _, fun i hi => ⟨H.size, 0, rfl, by omega, ?_⟩⟩
  have h1 := pflat_get l i hi
  simp [hc, h1]
theorem lit_ns {H : Heap} (l : List Int) (hl : l.length ≤ 1000) : Ns (H.push (.cells (l.map (Value.int .i64)).toArray 3)) (H.size + 1) (.slice (some ⟨H.size, 0, none⟩) l.length l.length) l := by
  refine ⟨by omega, _, _, rfl, Nat.le_refl _, fun i hi => ⟨H.size, 0, rfl, by omega, ?_⟩⟩
  have h1 : i < l.length := by omega
  simp [hc, h1]
theorem aw1 : coloursS (adjS 3 [(0, 1), (1, 2), (2, 0)]) 3 3 = [2, 1, 0] := by decide +kernel
theorem aw2 : coloursS (adjS 3 [(0, 1), (1, 2), (2, 0)]) 3 2 = [-1, 1, 0] := by decide +kernel
theorem aw3 : mergedS (adjS 3 [(0, 1)]) 3 2 [(0, 2)] = [0, 1, 0] := by decide +kernel
end Go.Proofs.Ytkhphpobccnodaa
