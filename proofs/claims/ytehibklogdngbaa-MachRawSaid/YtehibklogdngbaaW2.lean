/- Walks. Conditions: each contract names its own. -/
import Derived.Test.YtehibklogdngbaaW1
namespace Go.Proofs.Ytehibklogdngbaa
set_option linter.unusedVariables false
set_option linter.unusedSimpArgs false
set_option linter.unusedSectionVars false
open Go.JE

theorem Try.ent42 : Ent Try.prog 42 := ⟨_, Try.func42, by kernel_rfl, by kernel_rfl⟩
theorem Try.ent43 : Ent Try.prog 43 := ⟨_, Try.func43, by kernel_rfl, by kernel_rfl⟩
theorem Try.ent44 : Ent Try.prog 44 := ⟨_, Try.func44, by kernel_rfl, by kernel_rfl⟩
theorem Try.ent45 : Ent Try.prog 45 := ⟨_, Try.func45, by kernel_rfl, by kernel_rfl⟩
theorem Try.ent46 : Ent Try.prog 46 := ⟨_, Try.func46, by kernel_rfl, by kernel_rfl⟩
theorem Try.ent47 : Ent Try.prog 47 := ⟨_, Try.func47, by kernel_rfl, by kernel_rfl⟩
theorem Try.ent48 : Ent Try.prog 48 := ⟨_, Try.func48, by kernel_rfl, by kernel_rfl⟩
theorem Try.ent49 : Ent Try.prog 49 := ⟨_, Try.func49, by kernel_rfl, by kernel_rfl⟩
theorem Try.ent50 : Ent Try.prog 50 := ⟨_, Try.func50, by kernel_rfl, by kernel_rfl⟩
theorem Try.ent51 : Ent Try.prog 51 := ⟨_, Try.func51, by kernel_rfl, by kernel_rfl⟩
theorem Try.ent52 : Ent Try.prog 52 := ⟨_, Try.func52, by kernel_rfl, by kernel_rfl⟩
theorem Try.ent53 : Ent Try.prog 53 := ⟨_, Try.func53, by kernel_rfl, by kernel_rfl⟩
theorem Try.ent54 : Ent Try.prog 54 := ⟨_, Try.func54, by kernel_rfl, by kernel_rfl⟩
theorem Try.ent55 : Ent Try.prog 55 := ⟨_, Try.func55, by kernel_rfl, by kernel_rfl⟩
theorem Try.one21 : One Try.prog 21 := ⟨_, Try.underlying21, rfl⟩
theorem Try.one66 : One Try.prog 66 := ⟨_, Try.underlying66, rfl⟩
theorem Try.sz66 : Sz Try.prog 66 1 := by unfold Sz; kernel_rfl
theorem Try.zero66 : (Try.prog.info? 66).bind (·.zero) = some (.int .u32 0) := by kernel_rfl
theorem Try.zero89 : (Try.prog.info? 89).bind (·.zero) = some (.nilFunc) := by kernel_rfl
-- jacquard/word.Do$1: function 42
theorem wDo1_ct {F : PH} {H : Heap} (hin : InH F H) (a : Int) {g0 : Nat} (hb0 : Bx H g0 21 [.int .i32 a]) (b : Int) {g1 : Nat} (hb1 : Bx H g1 21 [.int .i32 b]) :
    Ct Try.prog 42 #[.pointer (some ⟨g0, 0, none⟩), .pointer (some ⟨g1, 0, none⟩)] H (fun v H' => v = .int .i32 (w32 (a + b) ) ∧ H' = H) := by
  have lt0 := hb0.lt
  have lt1 := hb1.lt
  have hkp := Kp.refl H.size H
  have hx := PH.ext.refl (H := H) F
  refine Ct.enter (args := [.pointer (some ⟨g0, 0, none⟩), .pointer (some ⟨g1, 0, none⟩)]) Try.func42 rfl rfl rfl (fun w0 hw0 => ?_)
  refine CF.seq (CF.region (LF.step (OpOk.assign rfl) (LF.nil (PF.next (CF.seq (CF.region ?_))))))
  refine LF.step (OpOk.ldBx hb0 Try.one21 rfl rfl) ?_
  refine LF.step (OpOk.ldBx hb1 Try.one21 rfl rfl) ?_
  refine LF.step (OpOk.addw rfl rfl rfl) ?_
  refine LF.step (OpOk.assign rfl) (LF.nil (PF.next (CF.ret ?_)))
  have hm : w32 (a + b)  = (IntKind.i32.wrap (a + b)) := by
    first | rfl | (simp [shl_prog, shr_prog, sar_prog]; done)
  exact PF.ret1 rfl rfl ⟨by rw [hm] <;> rfl, rfl⟩

-- jacquard/word.Do$2: function 43
theorem wDo2_ct {F : PH} {H : Heap} (hin : InH F H) (a : Int) {g0 : Nat} (hb0 : Bx H g0 21 [.int .i32 a]) (b : Int) {g1 : Nat} (hb1 : Bx H g1 21 [.int .i32 b]) :
    Ct Try.prog 43 #[.pointer (some ⟨g0, 0, none⟩), .pointer (some ⟨g1, 0, none⟩)] H (fun v H' => v = .int .i32 (w32 (a - b) ) ∧ H' = H) := by
  have lt0 := hb0.lt
  have lt1 := hb1.lt
  have hkp := Kp.refl H.size H
  have hx := PH.ext.refl (H := H) F
  refine Ct.enter (args := [.pointer (some ⟨g0, 0, none⟩), .pointer (some ⟨g1, 0, none⟩)]) Try.func43 rfl rfl rfl (fun w0 hw0 => ?_)
  refine CF.seq (CF.region (LF.step (OpOk.assign rfl) (LF.nil (PF.next (CF.seq (CF.region ?_))))))
  refine LF.step (OpOk.ldBx hb0 Try.one21 rfl rfl) ?_
  refine LF.step (OpOk.ldBx hb1 Try.one21 rfl rfl) ?_
  refine LF.step (OpOk.subw rfl rfl rfl) ?_
  refine LF.step (OpOk.assign rfl) (LF.nil (PF.next (CF.ret ?_)))
  have hm : w32 (a - b)  = (IntKind.i32.wrap (a - b)) := by
    first | rfl | (simp [shl_prog, shr_prog, sar_prog]; done)
  exact PF.ret1 rfl rfl ⟨by rw [hm] <;> rfl, rfl⟩

-- jacquard/word.Do$3: function 44
theorem wDo3_ct {F : PH} {H : Heap} (hin : InH F H) (a : Int) {g0 : Nat} (hb0 : Bx H g0 21 [.int .i32 a]) (b : Int) {g1 : Nat} (hb1 : Bx H g1 21 [.int .i32 b]) :
    Ct Try.prog 44 #[.pointer (some ⟨g0, 0, none⟩), .pointer (some ⟨g1, 0, none⟩)] H (fun v H' => v = .int .i32 (w32 (a * b) ) ∧ H' = H) := by
  have lt0 := hb0.lt
  have lt1 := hb1.lt
  have hkp := Kp.refl H.size H
  have hx := PH.ext.refl (H := H) F
  refine Ct.enter (args := [.pointer (some ⟨g0, 0, none⟩), .pointer (some ⟨g1, 0, none⟩)]) Try.func44 rfl rfl rfl (fun w0 hw0 => ?_)
  refine CF.seq (CF.region (LF.step (OpOk.assign rfl) (LF.nil (PF.next (CF.seq (CF.region ?_))))))
  refine LF.step (OpOk.ldBx hb0 Try.one21 rfl rfl) ?_
  refine LF.step (OpOk.ldBx hb1 Try.one21 rfl rfl) ?_
  refine LF.step (OpOk.mulw rfl rfl rfl) ?_
  refine LF.step (OpOk.assign rfl) (LF.nil (PF.next (CF.ret ?_)))
  have hm : w32 (a * b)  = (IntKind.i32.wrap (a * b)) := by
    first | rfl | (simp [shl_prog, shr_prog, sar_prog]; done)
  exact PF.ret1 rfl rfl ⟨by rw [hm] <;> rfl, rfl⟩

-- jacquard/word.Do$4: function 45
theorem wDo4_ct {F : PH} {H : Heap} (hin : InH F H) (a : Int) {g0 : Nat} (hb0 : Bx H g0 21 [.int .i32 a]) (b : Int) {g1 : Nat} (hb1 : Bx H g1 21 [.int .i32 b]) :
    Ct Try.prog 45 #[.pointer (some ⟨g0, 0, none⟩), .pointer (some ⟨g1, 0, none⟩)] H (fun v H' => v = .int .i32 (andI .i32 a b ) ∧ H' = H) := by
  have lt0 := hb0.lt
  have lt1 := hb1.lt
  have hkp := Kp.refl H.size H
  have hx := PH.ext.refl (H := H) F
  refine Ct.enter (args := [.pointer (some ⟨g0, 0, none⟩), .pointer (some ⟨g1, 0, none⟩)]) Try.func45 rfl rfl rfl (fun w0 hw0 => ?_)
  refine CF.seq (CF.region (LF.step (OpOk.assign rfl) (LF.nil (PF.next (CF.seq (CF.region ?_))))))
  refine LF.step (OpOk.ldBx hb0 Try.one21 rfl rfl) ?_
  refine LF.step (OpOk.ldBx hb1 Try.one21 rfl rfl) ?_
  refine LF.step (OpOk.andw rfl rfl) ?_
  refine LF.step (OpOk.assign rfl) (LF.nil (PF.next (CF.ret ?_)))
  have hm : andI .i32 a b  = (andI .i32 a b) := by
    first | rfl | (simp [shl_prog, shr_prog, sar_prog]; done)
  exact PF.ret1 rfl rfl ⟨by rw [hm] <;> rfl, rfl⟩

-- jacquard/word.Do$5: function 46
theorem wDo5_ct {F : PH} {H : Heap} (hin : InH F H) (a : Int) {g0 : Nat} (hb0 : Bx H g0 21 [.int .i32 a]) (b : Int) {g1 : Nat} (hb1 : Bx H g1 21 [.int .i32 b]) :
    Ct Try.prog 46 #[.pointer (some ⟨g0, 0, none⟩), .pointer (some ⟨g1, 0, none⟩)] H (fun v H' => v = .int .i32 (orI .i32 a b ) ∧ H' = H) := by
  have lt0 := hb0.lt
  have lt1 := hb1.lt
  have hkp := Kp.refl H.size H
  have hx := PH.ext.refl (H := H) F
  refine Ct.enter (args := [.pointer (some ⟨g0, 0, none⟩), .pointer (some ⟨g1, 0, none⟩)]) Try.func46 rfl rfl rfl (fun w0 hw0 => ?_)
  refine CF.seq (CF.region (LF.step (OpOk.assign rfl) (LF.nil (PF.next (CF.seq (CF.region ?_))))))
  refine LF.step (OpOk.ldBx hb0 Try.one21 rfl rfl) ?_
  refine LF.step (OpOk.ldBx hb1 Try.one21 rfl rfl) ?_
  refine LF.step (OpOk.orw rfl rfl) ?_
  refine LF.step (OpOk.assign rfl) (LF.nil (PF.next (CF.ret ?_)))
  have hm : orI .i32 a b  = (orI .i32 a b) := by
    first | rfl | (simp [shl_prog, shr_prog, sar_prog]; done)
  exact PF.ret1 rfl rfl ⟨by rw [hm] <;> rfl, rfl⟩

-- jacquard/word.Do$6: function 47
theorem wDo6_ct {F : PH} {H : Heap} (hin : InH F H) (a : Int) {g0 : Nat} (hb0 : Bx H g0 21 [.int .i32 a]) (b : Int) {g1 : Nat} (hb1 : Bx H g1 21 [.int .i32 b]) :
    Ct Try.prog 47 #[.pointer (some ⟨g0, 0, none⟩), .pointer (some ⟨g1, 0, none⟩)] H (fun v H' => v = .int .i32 (xorI .i32 a b ) ∧ H' = H) := by
  have lt0 := hb0.lt
  have lt1 := hb1.lt
  have hkp := Kp.refl H.size H
  have hx := PH.ext.refl (H := H) F
  refine Ct.enter (args := [.pointer (some ⟨g0, 0, none⟩), .pointer (some ⟨g1, 0, none⟩)]) Try.func47 rfl rfl rfl (fun w0 hw0 => ?_)
  refine CF.seq (CF.region (LF.step (OpOk.assign rfl) (LF.nil (PF.next (CF.seq (CF.region ?_))))))
  refine LF.step (OpOk.ldBx hb0 Try.one21 rfl rfl) ?_
  refine LF.step (OpOk.ldBx hb1 Try.one21 rfl rfl) ?_
  refine LF.step (OpOk.xorw rfl rfl) ?_
  refine LF.step (OpOk.assign rfl) (LF.nil (PF.next (CF.ret ?_)))
  have hm : xorI .i32 a b  = (xorI .i32 a b) := by
    first | rfl | (simp [shl_prog, shr_prog, sar_prog]; done)
  exact PF.ret1 rfl rfl ⟨by rw [hm] <;> rfl, rfl⟩

-- jacquard/word.Do$7: function 48
theorem wDo7_ct {F : PH} {H : Heap} (hin : InH F H) (a : Int) {g0 : Nat} (hb0 : Bx H g0 21 [.int .i32 a]) (b : Int) {g1 : Nat} (hb1 : Bx H g1 66 [.int .u32 (Int.tmod (IntKind.u32.wrap b) 32)]) :
    Ct Try.prog 48 #[.pointer (some ⟨g0, 0, none⟩), .pointer (some ⟨g1, 0, none⟩)] H (fun v H' => v = .int .i32 (shlM a b ) ∧ H' = H) := by
  have lt0 := hb0.lt
  have lt1 := hb1.lt
  have hkp := Kp.refl H.size H
  have hx := PH.ext.refl (H := H) F
  refine Ct.enter (args := [.pointer (some ⟨g0, 0, none⟩), .pointer (some ⟨g1, 0, none⟩)]) Try.func48 rfl rfl rfl (fun w0 hw0 => ?_)
  refine CF.seq (CF.region (LF.step (OpOk.assign rfl) (LF.nil (PF.next (CF.seq (CF.region ?_))))))
  refine LF.step (OpOk.ldBx hb0 Try.one21 rfl rfl) ?_
  refine LF.step (OpOk.ldBx hb1 Try.one66 rfl rfl) ?_
  refine LF.step (OpOk.shlw rfl rfl (by rw [tmod32]; omega)) ?_
  refine LF.step (OpOk.assign rfl) (LF.nil (PF.next (CF.ret ?_)))
  have hm : shlM a b  = (shlI .i32 a (Int.tmod (IntKind.u32.wrap b) 32)) := by
    first | rfl | (simp [shl_prog, shr_prog, sar_prog]; done)
  exact PF.ret1 rfl rfl ⟨by rw [hm] <;> rfl, rfl⟩

-- jacquard/word.Do$8: function 49
theorem wDo8_ct {F : PH} {H : Heap} (hin : InH F H) (a : Int) {g0 : Nat} (hb0 : Bx H g0 21 [.int .i32 a]) (b : Int) {g1 : Nat} (hb1 : Bx H g1 66 [.int .u32 (Int.tmod (IntKind.u32.wrap b) 32)]) :
    Ct Try.prog 49 #[.pointer (some ⟨g0, 0, none⟩), .pointer (some ⟨g1, 0, none⟩)] H (fun v H' => v = .int .i32 (shrM a b ) ∧ H' = H) := by
  have lt0 := hb0.lt
  have lt1 := hb1.lt
  have hkp := Kp.refl H.size H
  have hx := PH.ext.refl (H := H) F
  refine Ct.enter (args := [.pointer (some ⟨g0, 0, none⟩), .pointer (some ⟨g1, 0, none⟩)]) Try.func49 rfl rfl rfl (fun w0 hw0 => ?_)
  refine CF.seq (CF.region (LF.step (OpOk.assign rfl) (LF.nil (PF.next (CF.seq (CF.region ?_))))))
  refine LF.step (OpOk.ldBx hb0 Try.one21 rfl rfl) ?_
  refine LF.step (OpOk.convI Try.underlying21 Try.underlying66 rfl rfl) ?_
  refine LF.step (OpOk.ldBx hb1 Try.one66 rfl rfl) ?_
  refine LF.step (OpOk.shrw rfl rfl (by rw [tmod32]; omega)) ?_
  refine LF.step (OpOk.convI Try.underlying66 Try.underlying21 rfl rfl) ?_
  refine LF.step (OpOk.assign rfl) (LF.nil (PF.next (CF.ret ?_)))
  have hm : shrM a b  = (IntKind.i32.wrap (shrI .u32 (IntKind.u32.wrap a) (Int.tmod (IntKind.u32.wrap b) 32))) := by
    first | rfl | (simp [shl_prog, shr_prog, sar_prog]; done)
  exact PF.ret1 rfl rfl ⟨by rw [hm] <;> rfl, rfl⟩

-- jacquard/word.Do$9: function 50
theorem wDo9_ct {F : PH} {H : Heap} (hin : InH F H) (a : Int) {g0 : Nat} (hb0 : Bx H g0 21 [.int .i32 a]) (b : Int) {g1 : Nat} (hb1 : Bx H g1 66 [.int .u32 (Int.tmod (IntKind.u32.wrap b) 32)]) :
    Ct Try.prog 50 #[.pointer (some ⟨g0, 0, none⟩), .pointer (some ⟨g1, 0, none⟩)] H (fun v H' => v = .int .i32 (sarM a b ) ∧ H' = H) := by
  have lt0 := hb0.lt
  have lt1 := hb1.lt
  have hkp := Kp.refl H.size H
  have hx := PH.ext.refl (H := H) F
  refine Ct.enter (args := [.pointer (some ⟨g0, 0, none⟩), .pointer (some ⟨g1, 0, none⟩)]) Try.func50 rfl rfl rfl (fun w0 hw0 => ?_)
  refine CF.seq (CF.region (LF.step (OpOk.assign rfl) (LF.nil (PF.next (CF.seq (CF.region ?_))))))
  refine LF.step (OpOk.ldBx hb0 Try.one21 rfl rfl) ?_
  refine LF.step (OpOk.ldBx hb1 Try.one66 rfl rfl) ?_
  refine LF.step (OpOk.shrw rfl rfl (by rw [tmod32]; omega)) ?_
  refine LF.step (OpOk.assign rfl) (LF.nil (PF.next (CF.ret ?_)))
  have hm : sarM a b  = (shrI .i32 a (Int.tmod (IntKind.u32.wrap b) 32)) := by
    first | rfl | (simp [shl_prog, shr_prog, sar_prog]; done)
  exact PF.ret1 rfl rfl ⟨by rw [hm] <;> rfl, rfl⟩

-- jacquard/word.Do$10: function 51
theorem wDo10_ct {F : PH} {H : Heap} (hin : InH F H) (a : Int) {g0 : Nat} (hb0 : Bx H g0 21 [.int .i32 a]) (b : Int) {g1 : Nat} (hb1 : Bx H g1 21 [.int .i32 b]) :
    Ct Try.prog 51 #[.pointer (some ⟨g0, 0, none⟩), .pointer (some ⟨g1, 0, none⟩)] H (fun v H' => v = .int .i32 (bitM (decide (a = b)) ) ∧ H' = H) := by
  have lt0 := hb0.lt
  have lt1 := hb1.lt
  have hkp := Kp.refl H.size H
  have hx := PH.ext.refl (H := H) F
  refine Ct.enter (args := [.pointer (some ⟨g0, 0, none⟩), .pointer (some ⟨g1, 0, none⟩)]) Try.func51 rfl rfl rfl (fun w0 hw0 => ?_)
  refine CF.seq (CF.region (LF.step (OpOk.assign rfl) (LF.nil (PF.next (CF.seq (CF.region ?_))))))
  refine LF.step (OpOk.ldBx hb0 Try.one21 rfl rfl) ?_
  refine LF.step (OpOk.ldBx hb1 Try.one21 rfl rfl) ?_
  refine LF.step (OpOk.eql rfl rfl) ?_
  refine LF.call (OpCall.fn Try.ent52 rfl rfl) (wbit_ct hin (decide (a = b))) ?_
  rintro _ _ ⟨rfl, rfl⟩
  refine LF.step (OpOk.assign rfl) (LF.nil (PF.next (CF.ret ?_)))
  have hm : bitM (decide (a = b))  = (bitM (decide (a = b))) := by
    first | rfl | (simp [shl_prog, shr_prog, sar_prog]; done)
  exact PF.ret1 rfl rfl ⟨by rw [hm] <;> rfl, rfl⟩

-- jacquard/word.Do$11: function 53
theorem wDo11_ct {F : PH} {H : Heap} (hin : InH F H) (a : Int) {g0 : Nat} (hb0 : Bx H g0 21 [.int .i32 a]) (b : Int) {g1 : Nat} (hb1 : Bx H g1 21 [.int .i32 b]) :
    Ct Try.prog 53 #[.pointer (some ⟨g0, 0, none⟩), .pointer (some ⟨g1, 0, none⟩)] H (fun v H' => v = .int .i32 (bitM (decide (a < b)) ) ∧ H' = H) := by
  have lt0 := hb0.lt
  have lt1 := hb1.lt
  have hkp := Kp.refl H.size H
  have hx := PH.ext.refl (H := H) F
  refine Ct.enter (args := [.pointer (some ⟨g0, 0, none⟩), .pointer (some ⟨g1, 0, none⟩)]) Try.func53 rfl rfl rfl (fun w0 hw0 => ?_)
  refine CF.seq (CF.region (LF.step (OpOk.assign rfl) (LF.nil (PF.next (CF.seq (CF.region ?_))))))
  refine LF.step (OpOk.ldBx hb0 Try.one21 rfl rfl) ?_
  refine LF.step (OpOk.ldBx hb1 Try.one21 rfl rfl) ?_
  refine LF.step (OpOk.lss rfl rfl) ?_
  refine LF.call (OpCall.fn Try.ent52 rfl rfl) (wbit_ct hin (decide (a < b))) ?_
  rintro _ _ ⟨rfl, rfl⟩
  refine LF.step (OpOk.assign rfl) (LF.nil (PF.next (CF.ret ?_)))
  have hm : bitM (decide (a < b))  = (bitM (decide (a < b))) := by
    first | rfl | (simp [shl_prog, shr_prog, sar_prog]; done)
  exact PF.ret1 rfl rfl ⟨by rw [hm] <;> rfl, rfl⟩

-- jacquard/word.Do$12: function 54
theorem wDo12_ct {F : PH} {H : Heap} (hin : InH F H) (a : Int) {g0 : Nat} (hb0 : Bx H g0 21 [.int .i32 a]) (b : Int) {g1 : Nat} (hb1 : Bx H g1 21 [.int .i32 b]) :
    Ct Try.prog 54 #[.pointer (some ⟨g0, 0, none⟩), .pointer (some ⟨g1, 0, none⟩)] H (fun v H' => v = .int .i32 (bitM (decide (u32 a < u32 b)) ) ∧ H' = H) := by
  have lt0 := hb0.lt
  have lt1 := hb1.lt
  have hkp := Kp.refl H.size H
  have hx := PH.ext.refl (H := H) F
  refine Ct.enter (args := [.pointer (some ⟨g0, 0, none⟩), .pointer (some ⟨g1, 0, none⟩)]) Try.func54 rfl rfl rfl (fun w0 hw0 => ?_)
  refine CF.seq (CF.region (LF.step (OpOk.assign rfl) (LF.nil (PF.next (CF.seq (CF.region ?_))))))
  refine LF.step (OpOk.ldBx hb0 Try.one21 rfl rfl) ?_
  refine LF.step (OpOk.convI Try.underlying21 Try.underlying66 rfl rfl) ?_
  refine LF.step (OpOk.ldBx hb1 Try.one21 rfl rfl) ?_
  refine LF.step (OpOk.convI Try.underlying21 Try.underlying66 rfl rfl) ?_
  refine LF.step (OpOk.lss rfl rfl) ?_
  refine LF.call (OpCall.fn Try.ent52 rfl rfl) (wbit_ct hin (decide (IntKind.u32.wrap a < IntKind.u32.wrap b))) ?_
  rintro _ _ ⟨rfl, rfl⟩
  refine LF.step (OpOk.assign rfl) (LF.nil (PF.next (CF.ret ?_)))
  have hm : bitM (decide (u32 a < u32 b))  = (bitM (decide (IntKind.u32.wrap a < IntKind.u32.wrap b))) := by
    first | rfl | (simp [shl_prog, shr_prog, sar_prog]; done)
  exact PF.ret1 rfl rfl ⟨by rw [hm] <;> rfl, rfl⟩

-- jacquard/word.Do$13: function 55
theorem wDo13_ct {F : PH} {H : Heap} (hin : InH F H) (a : Int) {g0 : Nat} (hb0 : Bx H g0 21 [.int .i32 a]) (b : Int) {g1 : Nat} (hb1 : Bx H g1 21 [.int .i32 b]) (hb : b ≠ 0) :
    Ct Try.prog 55 #[.pointer (some ⟨g0, 0, none⟩), .pointer (some ⟨g1, 0, none⟩)] H (fun v H' => v = .int .i32 (divM a b ) ∧ H' = H) := by
  have lt0 := hb0.lt
  have lt1 := hb1.lt
  have hkp := Kp.refl H.size H
  have hx := PH.ext.refl (H := H) F
  refine Ct.enter (args := [.pointer (some ⟨g0, 0, none⟩), .pointer (some ⟨g1, 0, none⟩)]) Try.func55 rfl rfl rfl (fun w0 hw0 => ?_)
  refine CF.seq (CF.region (LF.step (OpOk.assign rfl) (LF.nil (PF.next (CF.seq (CF.region ?_))))))
  refine LF.step (OpOk.ldBx hb0 Try.one21 rfl rfl) ?_
  refine LF.step (OpOk.ldBx hb1 Try.one21 rfl rfl) ?_
  refine LF.step (OpOk.quow rfl rfl hb rfl) ?_
  refine LF.step (OpOk.assign rfl) (LF.nil (PF.next (CF.ret ?_)))
  have hm : divM a b  = (IntKind.i32.wrap (Int.tdiv a b)) := by
    first | rfl | (simp [shl_prog, shr_prog, sar_prog]; done)
  exact PF.ret1 rfl rfl ⟨by rw [hm] <;> rfl, rfl⟩

theorem do_snd {op a b : Int} (h : 2 ≤ op ∧ op ≤ 14) (h2 : op = 14 → ¬ b = 0) : doM op a b = ((doM op a b).1, true) := by
  have hc : op = 2 ∨ op = 3 ∨ op = 4 ∨ op = 5 ∨ op = 6 ∨ op = 7 ∨ op = 8 ∨ op = 9 ∨ op = 10 ∨ op = 11 ∨ op = 12 ∨ op = 13 ∨ op = 14 := by omega
  rcases hc with rfl | rfl | rfl | rfl | rfl | rfl | rfl | rfl | rfl | rfl | rfl | rfl | rfl <;> first | rfl | (simp [doM, h2])

theorem wtable_ct {F : PH} {H : Heap} (hin : InH F H) (a b op : Int) {g4 g5 g8 : Nat} (h4 : Bx H g4 21 [.int .i32 a]) (h5 : Bx H g5 21 [.int .i32 b]) (h8 : Bx H g8 66 [.int .u32 (Int.tmod (IntKind.u32.wrap b) 32)]) {L : List (Int × Value)} 
    (hL : L = [(2, .func (.func 42) #[] #[.pointer (some ⟨g4, 0, none⟩), .pointer (some ⟨g5, 0, none⟩)]), (3, .func (.func 43) #[] #[.pointer (some ⟨g4, 0, none⟩), .pointer (some ⟨g5, 0, none⟩)]), (4, .func (.func 44) #[] #[.pointer (some ⟨g4, 0, none⟩), .pointer (some ⟨g5, 0, none⟩)]), (5, .func (.func 45) #[] #[.pointer (some ⟨g4, 0, none⟩), .pointer (some ⟨g5, 0, none⟩)]), (6, .func (.func 46) #[] #[.pointer (some ⟨g4, 0, none⟩), .pointer (some ⟨g5, 0, none⟩)]), (7, .func (.func 47) #[] #[.pointer (some ⟨g4, 0, none⟩), .pointer (some ⟨g5, 0, none⟩)]), (8, .func (.func 48) #[] #[.pointer (some ⟨g4, 0, none⟩), .pointer (some ⟨g8, 0, none⟩)]), (9, .func (.func 49) #[] #[.pointer (some ⟨g4, 0, none⟩), .pointer (some ⟨g8, 0, none⟩)]), (10, .func (.func 50) #[] #[.pointer (some ⟨g4, 0, none⟩), .pointer (some ⟨g8, 0, none⟩)]), (11, .func (.func 51) #[] #[.pointer (some ⟨g4, 0, none⟩), .pointer (some ⟨g5, 0, none⟩)]), (12, .func (.func 53) #[] #[.pointer (some ⟨g4, 0, none⟩), .pointer (some ⟨g5, 0, none⟩)]), (13, .func (.func 54) #[] #[.pointer (some ⟨g4, 0, none⟩), .pointer (some ⟨g5, 0, none⟩)]), (14, .func (.func 55) #[] #[.pointer (some ⟨g4, 0, none⟩), .pointer (some ⟨g5, 0, none⟩)])] := by rfl) :
    ((lkM L op).getD .nilFunc = .nilFunc ∧ (op < 2 ∨ 14 < op)) ∨ ∃ (f : Nat) (cs : List Value), (lkM L op).getD .nilFunc = .func (.func f) #[] cs.toArray ∧ Ent Try.prog f ∧ (2 ≤ op ∧ op ≤ 14) ∧ ((op = 14 → b ≠ 0) → ∀ H', H' = H → Ct Try.prog f cs.toArray H' (fun v H'' => v = .int .i32 (doM op a b).1 ∧ H'' = H')) := by
  subst hL
  by_cases ho : 2 ≤ op ∧ op ≤ 14
  · refine .inr ?_
    have hc : op = 2 ∨ op = 3 ∨ op = 4 ∨ op = 5 ∨ op = 6 ∨ op = 7 ∨ op = 8 ∨ op = 9 ∨ op = 10 ∨ op = 11 ∨ op = 12 ∨ op = 13 ∨ op = 14 := by omega
    rcases hc with rfl | rfl | rfl | rfl | rfl | rfl | rfl | rfl | rfl | rfl | rfl | rfl | rfl
    · exact ⟨_, [.pointer (some ⟨g4, 0, none⟩), .pointer (some ⟨g5, 0, none⟩)], rfl, Try.ent42, by omega, fun h9 => by rintro _ rfl; exact (wDo1_ct hin a h4 b h5).mono (fun v H'' h => h)⟩
    · exact ⟨_, [.pointer (some ⟨g4, 0, none⟩), .pointer (some ⟨g5, 0, none⟩)], rfl, Try.ent43, by omega, fun h9 => by rintro _ rfl; exact (wDo2_ct hin a h4 b h5).mono (fun v H'' h => h)⟩
    · exact ⟨_, [.pointer (some ⟨g4, 0, none⟩), .pointer (some ⟨g5, 0, none⟩)], rfl, Try.ent44, by omega, fun h9 => by rintro _ rfl; exact (wDo3_ct hin a h4 b h5).mono (fun v H'' h => h)⟩
    · exact ⟨_, [.pointer (some ⟨g4, 0, none⟩), .pointer (some ⟨g5, 0, none⟩)], rfl, Try.ent45, by omega, fun h9 => by rintro _ rfl; exact (wDo4_ct hin a h4 b h5).mono (fun v H'' h => h)⟩
    · exact ⟨_, [.pointer (some ⟨g4, 0, none⟩), .pointer (some ⟨g5, 0, none⟩)], rfl, Try.ent46, by omega, fun h9 => by rintro _ rfl; exact (wDo5_ct hin a h4 b h5).mono (fun v H'' h => h)⟩
    · exact ⟨_, [.pointer (some ⟨g4, 0, none⟩), .pointer (some ⟨g5, 0, none⟩)], rfl, Try.ent47, by omega, fun h9 => by rintro _ rfl; exact (wDo6_ct hin a h4 b h5).mono (fun v H'' h => h)⟩
    · exact ⟨_, [.pointer (some ⟨g4, 0, none⟩), .pointer (some ⟨g8, 0, none⟩)], rfl, Try.ent48, by omega, fun h9 => by rintro _ rfl; exact (wDo7_ct hin a h4 b h8).mono (fun v H'' h => h)⟩
    · exact ⟨_, [.pointer (some ⟨g4, 0, none⟩), .pointer (some ⟨g8, 0, none⟩)], rfl, Try.ent49, by omega, fun h9 => by rintro _ rfl; exact (wDo8_ct hin a h4 b h8).mono (fun v H'' h => h)⟩
    · exact ⟨_, [.pointer (some ⟨g4, 0, none⟩), .pointer (some ⟨g8, 0, none⟩)], rfl, Try.ent50, by omega, fun h9 => by rintro _ rfl; exact (wDo9_ct hin a h4 b h8).mono (fun v H'' h => h)⟩
    · exact ⟨_, [.pointer (some ⟨g4, 0, none⟩), .pointer (some ⟨g5, 0, none⟩)], rfl, Try.ent51, by omega, fun h9 => by rintro _ rfl; exact (wDo10_ct hin a h4 b h5).mono (fun v H'' h => h)⟩
    · exact ⟨_, [.pointer (some ⟨g4, 0, none⟩), .pointer (some ⟨g5, 0, none⟩)], rfl, Try.ent53, by omega, fun h9 => by rintro _ rfl; exact (wDo11_ct hin a h4 b h5).mono (fun v H'' h => h)⟩
    · exact ⟨_, [.pointer (some ⟨g4, 0, none⟩), .pointer (some ⟨g5, 0, none⟩)], rfl, Try.ent54, by omega, fun h9 => by rintro _ rfl; exact (wDo12_ct hin a h4 b h5).mono (fun v H'' h => h)⟩
    · exact ⟨_, [.pointer (some ⟨g4, 0, none⟩), .pointer (some ⟨g5, 0, none⟩)], rfl, Try.ent55, by omega, fun h9 => by rintro _ rfl; exact (wDo13_ct hin a h4 b h5 (h9 rfl)).mono (fun v H'' h => by rw [show (doM 14 a b).1 = divM a b by simp [doM, h9 rfl]]; exact h)⟩
  · refine .inl ⟨?_, by omega⟩
    have h1 : ∀ k : Int, 2 ≤ k → k ≤ 14 → (k == op) = false := fun k h2 h3 => by rw [beq_eq_false_iff_ne]; omega
    simp [lkM, List.find?, h1]

-- jacquard/word.Do: function 21
theorem wDo_ct {F : PH} {H : Heap} (hin : InH F H) (op : Int) (a : Int) (b : Int) :
    Ct Try.prog 21 #[.int .i64 op, .int .i32 a, .int .i32 b] H (fun v H' => v = .tuple #[.int .i32 ((doM op a b).1), .bool ((doM op a b).2)] ∧ Kp H.size H H') := by
  have hkp := Kp.refl H.size H
  have hx := PH.ext.refl (H := H) F
  refine Ct.enter (args := [.int .i64 op, .int .i32 a, .int .i32 b]) Try.func21 rfl rfl rfl (fun w0 hw0 => ?_)
  refine CF.seq (CF.region ?_)
  refine LF.chg (OpCh.boxB rfl rfl) ?_
  rintro _ H4 ⟨g4, rfl, eg4, sg4, kg4, hb4⟩
  have ng4 := hin.nope (Nat.le_of_eq eg4.symm)
  have lg4 := hkp.1
  have zkg4 := kg4.1
  replace hin := hin.kp kg4
  replace hkp := hkp.trans (kg4.mono hkp.1)
  clear kg4
  refine LF.chg (OpCh.boxB rfl rfl) ?_
  rintro _ H5 ⟨g5, rfl, eg5, sg5, kg5, hb5⟩
  have ng5 := hin.nope (Nat.le_of_eq eg5.symm)
  have lg5 := hkp.1
  have nb5_4 : g4 ≠ g5 := by have := hb4.lt; omega
  have zkg5 := kg5.1
  replace hin := hin.kp kg5
  replace hkp := hkp.trans (kg5.mono hkp.1)
  replace hb4 := hb4.kp kg5
  clear kg5
  refine LF.step (OpOk.assign rfl) (LF.step (OpOk.assign rfl) (LF.nil (PF.next (CF.seq (CF.region ?_)))))
  refine LF.step (OpOk.ldBx hb5 Try.one21 rfl rfl) ?_
  refine LF.step (OpOk.convI Try.underlying21 Try.underlying66 rfl rfl) ?_
  refine LF.step (OpOk.rem rfl rfl (by decide)) ?_
  refine LF.chg (OpCh.allocB Try.zero66 rfl) ?_
  rintro _ H8 ⟨g8, rfl, eg8, sg8, kg8, hb8⟩
  have ng8 := hin.nope (Nat.le_of_eq eg8.symm)
  have lg8 := hkp.1
  have zkg8 := kg8.1
  replace hin := hin.kp kg8
  replace hkp := hkp.trans (kg8.mono hkp.1)
  replace hb4 := hb4.kp kg8
  replace hb5 := hb5.kp kg8
  clear kg8
  refine LF.chg0 (OpCh.storeB hb8 Try.sz66 rfl rfl rfl (by first | decide | (simp; done))) ?_
  rintro _ Hw1 ⟨tw1, bw1⟩
  have ztw1 := tw1.1
  replace hin := hin.tw tw1 ng8
  replace hkp := Tw.kp' hkp tw1 (by omega)
  replace hb4 := hb4.tw tw1 (Bx.ne hb4 hb8 (by decide))
  replace hb5 := hb5.tw tw1 (Bx.ne hb5 hb8 (by decide))
  replace hb8 : Bx _ _ _ [.int .u32 (Int.tmod (IntKind.u32.wrap b) 32)] := bw1
  clear bw1 tw1
  refine LF.nil (PF.next (CF.seq (CF.region ?_)))
  refine LF.chg OpCh.makeMapB ?_
  rintro _ H13 ⟨g13, rfl, eg13, sg13, kg13, hm13⟩
  have ng13 := hin.nope (Nat.le_of_eq eg13.symm)
  have lg13 := hkp.1
  have zkg13 := kg13.1
  replace hin := hin.kp kg13
  replace hkp := hkp.trans (kg13.mono hkp.1)
  replace hb4 := hb4.kp kg13
  replace hb5 := hb5.kp kg13
  replace hb8 := hb8.kp kg13
  clear kg13
  refine LF.step (OpOk.makeFunc2 rfl rfl) ?_
  refine LF.chg0 (OpCh.insert Try.underlying91 Try.underlying3 hm13 rfl rfl rfl) ?_
  rintro _ Hw2 ⟨mw2, tw2⟩
  have ztw2 := tw2.1
  replace hin := hin.tw tw2 ng13
  replace hkp := Tw.kp' hkp tw2 (by omega)
  replace hb4 := hb4.tw tw2 (by omega)
  replace hb5 := hb5.tw tw2 (by omega)
  replace hb8 := hb8.tw tw2 (by omega)
  replace hm13 : Im _ _ [(2, .func (.func 42) #[] #[.pointer (some ⟨g4, 0, none⟩), .pointer (some ⟨g5, 0, none⟩)])] := mw2
  clear mw2 tw2
  refine LF.step (OpOk.makeFunc2 rfl rfl) ?_
  refine LF.chg0 (OpCh.insert Try.underlying91 Try.underlying3 hm13 rfl rfl rfl) ?_
  rintro _ Hw3 ⟨mw3, tw3⟩
  have ztw3 := tw3.1
  replace hin := hin.tw tw3 ng13
  replace hkp := Tw.kp' hkp tw3 (by omega)
  replace hb4 := hb4.tw tw3 (by omega)
  replace hb5 := hb5.tw tw3 (by omega)
  replace hb8 := hb8.tw tw3 (by omega)
  replace hm13 : Im _ _ [(2, .func (.func 42) #[] #[.pointer (some ⟨g4, 0, none⟩), .pointer (some ⟨g5, 0, none⟩)]), (3, .func (.func 43) #[] #[.pointer (some ⟨g4, 0, none⟩), .pointer (some ⟨g5, 0, none⟩)])] := mw3
  clear mw3 tw3
  refine LF.step (OpOk.makeFunc2 rfl rfl) ?_
  refine LF.chg0 (OpCh.insert Try.underlying91 Try.underlying3 hm13 rfl rfl rfl) ?_
  rintro _ Hw4 ⟨mw4, tw4⟩
  have ztw4 := tw4.1
  replace hin := hin.tw tw4 ng13
  replace hkp := Tw.kp' hkp tw4 (by omega)
  replace hb4 := hb4.tw tw4 (by omega)
  replace hb5 := hb5.tw tw4 (by omega)
  replace hb8 := hb8.tw tw4 (by omega)
  replace hm13 : Im _ _ [(2, .func (.func 42) #[] #[.pointer (some ⟨g4, 0, none⟩), .pointer (some ⟨g5, 0, none⟩)]), (3, .func (.func 43) #[] #[.pointer (some ⟨g4, 0, none⟩), .pointer (some ⟨g5, 0, none⟩)]), (4, .func (.func 44) #[] #[.pointer (some ⟨g4, 0, none⟩), .pointer (some ⟨g5, 0, none⟩)])] := mw4
  clear mw4 tw4
  refine LF.step (OpOk.makeFunc2 rfl rfl) ?_
  refine LF.chg0 (OpCh.insert Try.underlying91 Try.underlying3 hm13 rfl rfl rfl) ?_
  rintro _ Hw5 ⟨mw5, tw5⟩
  have ztw5 := tw5.1
  replace hin := hin.tw tw5 ng13
  replace hkp := Tw.kp' hkp tw5 (by omega)
  replace hb4 := hb4.tw tw5 (by omega)
  replace hb5 := hb5.tw tw5 (by omega)
  replace hb8 := hb8.tw tw5 (by omega)
  replace hm13 : Im _ _ [(2, .func (.func 42) #[] #[.pointer (some ⟨g4, 0, none⟩), .pointer (some ⟨g5, 0, none⟩)]), (3, .func (.func 43) #[] #[.pointer (some ⟨g4, 0, none⟩), .pointer (some ⟨g5, 0, none⟩)]), (4, .func (.func 44) #[] #[.pointer (some ⟨g4, 0, none⟩), .pointer (some ⟨g5, 0, none⟩)]), (5, .func (.func 45) #[] #[.pointer (some ⟨g4, 0, none⟩), .pointer (some ⟨g5, 0, none⟩)])] := mw5
  clear mw5 tw5
  refine LF.step (OpOk.makeFunc2 rfl rfl) ?_
  refine LF.chg0 (OpCh.insert Try.underlying91 Try.underlying3 hm13 rfl rfl rfl) ?_
  rintro _ Hw6 ⟨mw6, tw6⟩
  have ztw6 := tw6.1
  replace hin := hin.tw tw6 ng13
  replace hkp := Tw.kp' hkp tw6 (by omega)
  replace hb4 := hb4.tw tw6 (by omega)
  replace hb5 := hb5.tw tw6 (by omega)
  replace hb8 := hb8.tw tw6 (by omega)
  replace hm13 : Im _ _ [(2, .func (.func 42) #[] #[.pointer (some ⟨g4, 0, none⟩), .pointer (some ⟨g5, 0, none⟩)]), (3, .func (.func 43) #[] #[.pointer (some ⟨g4, 0, none⟩), .pointer (some ⟨g5, 0, none⟩)]), (4, .func (.func 44) #[] #[.pointer (some ⟨g4, 0, none⟩), .pointer (some ⟨g5, 0, none⟩)]), (5, .func (.func 45) #[] #[.pointer (some ⟨g4, 0, none⟩), .pointer (some ⟨g5, 0, none⟩)]), (6, .func (.func 46) #[] #[.pointer (some ⟨g4, 0, none⟩), .pointer (some ⟨g5, 0, none⟩)])] := mw6
  clear mw6 tw6
  refine LF.step (OpOk.makeFunc2 rfl rfl) ?_
  refine LF.chg0 (OpCh.insert Try.underlying91 Try.underlying3 hm13 rfl rfl rfl) ?_
  rintro _ Hw7 ⟨mw7, tw7⟩
  have ztw7 := tw7.1
  replace hin := hin.tw tw7 ng13
  replace hkp := Tw.kp' hkp tw7 (by omega)
  replace hb4 := hb4.tw tw7 (by omega)
  replace hb5 := hb5.tw tw7 (by omega)
  replace hb8 := hb8.tw tw7 (by omega)
  replace hm13 : Im _ _ [(2, .func (.func 42) #[] #[.pointer (some ⟨g4, 0, none⟩), .pointer (some ⟨g5, 0, none⟩)]), (3, .func (.func 43) #[] #[.pointer (some ⟨g4, 0, none⟩), .pointer (some ⟨g5, 0, none⟩)]), (4, .func (.func 44) #[] #[.pointer (some ⟨g4, 0, none⟩), .pointer (some ⟨g5, 0, none⟩)]), (5, .func (.func 45) #[] #[.pointer (some ⟨g4, 0, none⟩), .pointer (some ⟨g5, 0, none⟩)]), (6, .func (.func 46) #[] #[.pointer (some ⟨g4, 0, none⟩), .pointer (some ⟨g5, 0, none⟩)]), (7, .func (.func 47) #[] #[.pointer (some ⟨g4, 0, none⟩), .pointer (some ⟨g5, 0, none⟩)])] := mw7
  clear mw7 tw7
  refine LF.step (OpOk.makeFunc2 rfl rfl) ?_
  refine LF.chg0 (OpCh.insert Try.underlying91 Try.underlying3 hm13 rfl rfl rfl) ?_
  rintro _ Hw8 ⟨mw8, tw8⟩
  have ztw8 := tw8.1
  replace hin := hin.tw tw8 ng13
  replace hkp := Tw.kp' hkp tw8 (by omega)
  replace hb4 := hb4.tw tw8 (by omega)
  replace hb5 := hb5.tw tw8 (by omega)
  replace hb8 := hb8.tw tw8 (by omega)
  replace hm13 : Im _ _ [(2, .func (.func 42) #[] #[.pointer (some ⟨g4, 0, none⟩), .pointer (some ⟨g5, 0, none⟩)]), (3, .func (.func 43) #[] #[.pointer (some ⟨g4, 0, none⟩), .pointer (some ⟨g5, 0, none⟩)]), (4, .func (.func 44) #[] #[.pointer (some ⟨g4, 0, none⟩), .pointer (some ⟨g5, 0, none⟩)]), (5, .func (.func 45) #[] #[.pointer (some ⟨g4, 0, none⟩), .pointer (some ⟨g5, 0, none⟩)]), (6, .func (.func 46) #[] #[.pointer (some ⟨g4, 0, none⟩), .pointer (some ⟨g5, 0, none⟩)]), (7, .func (.func 47) #[] #[.pointer (some ⟨g4, 0, none⟩), .pointer (some ⟨g5, 0, none⟩)]), (8, .func (.func 48) #[] #[.pointer (some ⟨g4, 0, none⟩), .pointer (some ⟨g8, 0, none⟩)])] := mw8
  clear mw8 tw8
  refine LF.step (OpOk.makeFunc2 rfl rfl) ?_
  refine LF.chg0 (OpCh.insert Try.underlying91 Try.underlying3 hm13 rfl rfl rfl) ?_
  rintro _ Hw9 ⟨mw9, tw9⟩
  have ztw9 := tw9.1
  replace hin := hin.tw tw9 ng13
  replace hkp := Tw.kp' hkp tw9 (by omega)
  replace hb4 := hb4.tw tw9 (by omega)
  replace hb5 := hb5.tw tw9 (by omega)
  replace hb8 := hb8.tw tw9 (by omega)
  replace hm13 : Im _ _ [(2, .func (.func 42) #[] #[.pointer (some ⟨g4, 0, none⟩), .pointer (some ⟨g5, 0, none⟩)]), (3, .func (.func 43) #[] #[.pointer (some ⟨g4, 0, none⟩), .pointer (some ⟨g5, 0, none⟩)]), (4, .func (.func 44) #[] #[.pointer (some ⟨g4, 0, none⟩), .pointer (some ⟨g5, 0, none⟩)]), (5, .func (.func 45) #[] #[.pointer (some ⟨g4, 0, none⟩), .pointer (some ⟨g5, 0, none⟩)]), (6, .func (.func 46) #[] #[.pointer (some ⟨g4, 0, none⟩), .pointer (some ⟨g5, 0, none⟩)]), (7, .func (.func 47) #[] #[.pointer (some ⟨g4, 0, none⟩), .pointer (some ⟨g5, 0, none⟩)]), (8, .func (.func 48) #[] #[.pointer (some ⟨g4, 0, none⟩), .pointer (some ⟨g8, 0, none⟩)]), (9, .func (.func 49) #[] #[.pointer (some ⟨g4, 0, none⟩), .pointer (some ⟨g8, 0, none⟩)])] := mw9
  clear mw9 tw9
  refine LF.step (OpOk.makeFunc2 rfl rfl) ?_
  refine LF.chg0 (OpCh.insert Try.underlying91 Try.underlying3 hm13 rfl rfl rfl) ?_
  rintro _ Hw10 ⟨mw10, tw10⟩
  have ztw10 := tw10.1
  replace hin := hin.tw tw10 ng13
  replace hkp := Tw.kp' hkp tw10 (by omega)
  replace hb4 := hb4.tw tw10 (by omega)
  replace hb5 := hb5.tw tw10 (by omega)
  replace hb8 := hb8.tw tw10 (by omega)
  replace hm13 : Im _ _ [(2, .func (.func 42) #[] #[.pointer (some ⟨g4, 0, none⟩), .pointer (some ⟨g5, 0, none⟩)]), (3, .func (.func 43) #[] #[.pointer (some ⟨g4, 0, none⟩), .pointer (some ⟨g5, 0, none⟩)]), (4, .func (.func 44) #[] #[.pointer (some ⟨g4, 0, none⟩), .pointer (some ⟨g5, 0, none⟩)]), (5, .func (.func 45) #[] #[.pointer (some ⟨g4, 0, none⟩), .pointer (some ⟨g5, 0, none⟩)]), (6, .func (.func 46) #[] #[.pointer (some ⟨g4, 0, none⟩), .pointer (some ⟨g5, 0, none⟩)]), (7, .func (.func 47) #[] #[.pointer (some ⟨g4, 0, none⟩), .pointer (some ⟨g5, 0, none⟩)]), (8, .func (.func 48) #[] #[.pointer (some ⟨g4, 0, none⟩), .pointer (some ⟨g8, 0, none⟩)]), (9, .func (.func 49) #[] #[.pointer (some ⟨g4, 0, none⟩), .pointer (some ⟨g8, 0, none⟩)]), (10, .func (.func 50) #[] #[.pointer (some ⟨g4, 0, none⟩), .pointer (some ⟨g8, 0, none⟩)])] := mw10
  clear mw10 tw10
  refine LF.step (OpOk.makeFunc2 rfl rfl) ?_
  refine LF.chg0 (OpCh.insert Try.underlying91 Try.underlying3 hm13 rfl rfl rfl) ?_
  rintro _ Hw11 ⟨mw11, tw11⟩
  have ztw11 := tw11.1
  replace hin := hin.tw tw11 ng13
  replace hkp := Tw.kp' hkp tw11 (by omega)
  replace hb4 := hb4.tw tw11 (by omega)
  replace hb5 := hb5.tw tw11 (by omega)
  replace hb8 := hb8.tw tw11 (by omega)
  replace hm13 : Im _ _ [(2, .func (.func 42) #[] #[.pointer (some ⟨g4, 0, none⟩), .pointer (some ⟨g5, 0, none⟩)]), (3, .func (.func 43) #[] #[.pointer (some ⟨g4, 0, none⟩), .pointer (some ⟨g5, 0, none⟩)]), (4, .func (.func 44) #[] #[.pointer (some ⟨g4, 0, none⟩), .pointer (some ⟨g5, 0, none⟩)]), (5, .func (.func 45) #[] #[.pointer (some ⟨g4, 0, none⟩), .pointer (some ⟨g5, 0, none⟩)]), (6, .func (.func 46) #[] #[.pointer (some ⟨g4, 0, none⟩), .pointer (some ⟨g5, 0, none⟩)]), (7, .func (.func 47) #[] #[.pointer (some ⟨g4, 0, none⟩), .pointer (some ⟨g5, 0, none⟩)]), (8, .func (.func 48) #[] #[.pointer (some ⟨g4, 0, none⟩), .pointer (some ⟨g8, 0, none⟩)]), (9, .func (.func 49) #[] #[.pointer (some ⟨g4, 0, none⟩), .pointer (some ⟨g8, 0, none⟩)]), (10, .func (.func 50) #[] #[.pointer (some ⟨g4, 0, none⟩), .pointer (some ⟨g8, 0, none⟩)]), (11, .func (.func 51) #[] #[.pointer (some ⟨g4, 0, none⟩), .pointer (some ⟨g5, 0, none⟩)])] := mw11
  clear mw11 tw11
  refine LF.step (OpOk.makeFunc2 rfl rfl) ?_
  refine LF.chg0 (OpCh.insert Try.underlying91 Try.underlying3 hm13 rfl rfl rfl) ?_
  rintro _ Hw12 ⟨mw12, tw12⟩
  have ztw12 := tw12.1
  replace hin := hin.tw tw12 ng13
  replace hkp := Tw.kp' hkp tw12 (by omega)
  replace hb4 := hb4.tw tw12 (by omega)
  replace hb5 := hb5.tw tw12 (by omega)
  replace hb8 := hb8.tw tw12 (by omega)
  replace hm13 : Im _ _ [(2, .func (.func 42) #[] #[.pointer (some ⟨g4, 0, none⟩), .pointer (some ⟨g5, 0, none⟩)]), (3, .func (.func 43) #[] #[.pointer (some ⟨g4, 0, none⟩), .pointer (some ⟨g5, 0, none⟩)]), (4, .func (.func 44) #[] #[.pointer (some ⟨g4, 0, none⟩), .pointer (some ⟨g5, 0, none⟩)]), (5, .func (.func 45) #[] #[.pointer (some ⟨g4, 0, none⟩), .pointer (some ⟨g5, 0, none⟩)]), (6, .func (.func 46) #[] #[.pointer (some ⟨g4, 0, none⟩), .pointer (some ⟨g5, 0, none⟩)]), (7, .func (.func 47) #[] #[.pointer (some ⟨g4, 0, none⟩), .pointer (some ⟨g5, 0, none⟩)]), (8, .func (.func 48) #[] #[.pointer (some ⟨g4, 0, none⟩), .pointer (some ⟨g8, 0, none⟩)]), (9, .func (.func 49) #[] #[.pointer (some ⟨g4, 0, none⟩), .pointer (some ⟨g8, 0, none⟩)]), (10, .func (.func 50) #[] #[.pointer (some ⟨g4, 0, none⟩), .pointer (some ⟨g8, 0, none⟩)]), (11, .func (.func 51) #[] #[.pointer (some ⟨g4, 0, none⟩), .pointer (some ⟨g5, 0, none⟩)]), (12, .func (.func 53) #[] #[.pointer (some ⟨g4, 0, none⟩), .pointer (some ⟨g5, 0, none⟩)])] := mw12
  clear mw12 tw12
  refine LF.step (OpOk.makeFunc2 rfl rfl) ?_
  refine LF.chg0 (OpCh.insert Try.underlying91 Try.underlying3 hm13 rfl rfl rfl) ?_
  rintro _ Hw13 ⟨mw13, tw13⟩
  have ztw13 := tw13.1
  replace hin := hin.tw tw13 ng13
  replace hkp := Tw.kp' hkp tw13 (by omega)
  replace hb4 := hb4.tw tw13 (by omega)
  replace hb5 := hb5.tw tw13 (by omega)
  replace hb8 := hb8.tw tw13 (by omega)
  replace hm13 : Im _ _ [(2, .func (.func 42) #[] #[.pointer (some ⟨g4, 0, none⟩), .pointer (some ⟨g5, 0, none⟩)]), (3, .func (.func 43) #[] #[.pointer (some ⟨g4, 0, none⟩), .pointer (some ⟨g5, 0, none⟩)]), (4, .func (.func 44) #[] #[.pointer (some ⟨g4, 0, none⟩), .pointer (some ⟨g5, 0, none⟩)]), (5, .func (.func 45) #[] #[.pointer (some ⟨g4, 0, none⟩), .pointer (some ⟨g5, 0, none⟩)]), (6, .func (.func 46) #[] #[.pointer (some ⟨g4, 0, none⟩), .pointer (some ⟨g5, 0, none⟩)]), (7, .func (.func 47) #[] #[.pointer (some ⟨g4, 0, none⟩), .pointer (some ⟨g5, 0, none⟩)]), (8, .func (.func 48) #[] #[.pointer (some ⟨g4, 0, none⟩), .pointer (some ⟨g8, 0, none⟩)]), (9, .func (.func 49) #[] #[.pointer (some ⟨g4, 0, none⟩), .pointer (some ⟨g8, 0, none⟩)]), (10, .func (.func 50) #[] #[.pointer (some ⟨g4, 0, none⟩), .pointer (some ⟨g8, 0, none⟩)]), (11, .func (.func 51) #[] #[.pointer (some ⟨g4, 0, none⟩), .pointer (some ⟨g5, 0, none⟩)]), (12, .func (.func 53) #[] #[.pointer (some ⟨g4, 0, none⟩), .pointer (some ⟨g5, 0, none⟩)]), (13, .func (.func 54) #[] #[.pointer (some ⟨g4, 0, none⟩), .pointer (some ⟨g5, 0, none⟩)])] := mw13
  clear mw13 tw13
  refine LF.step (OpOk.makeFunc2 rfl rfl) ?_
  refine LF.chg0 (OpCh.insert Try.underlying91 Try.underlying3 hm13 rfl rfl rfl) ?_
  rintro _ Hw14 ⟨mw14, tw14⟩
  have ztw14 := tw14.1
  replace hin := hin.tw tw14 ng13
  replace hkp := Tw.kp' hkp tw14 (by omega)
  replace hb4 := hb4.tw tw14 (by omega)
  replace hb5 := hb5.tw tw14 (by omega)
  replace hb8 := hb8.tw tw14 (by omega)
  replace hm13 : Im _ _ [(2, .func (.func 42) #[] #[.pointer (some ⟨g4, 0, none⟩), .pointer (some ⟨g5, 0, none⟩)]), (3, .func (.func 43) #[] #[.pointer (some ⟨g4, 0, none⟩), .pointer (some ⟨g5, 0, none⟩)]), (4, .func (.func 44) #[] #[.pointer (some ⟨g4, 0, none⟩), .pointer (some ⟨g5, 0, none⟩)]), (5, .func (.func 45) #[] #[.pointer (some ⟨g4, 0, none⟩), .pointer (some ⟨g5, 0, none⟩)]), (6, .func (.func 46) #[] #[.pointer (some ⟨g4, 0, none⟩), .pointer (some ⟨g5, 0, none⟩)]), (7, .func (.func 47) #[] #[.pointer (some ⟨g4, 0, none⟩), .pointer (some ⟨g5, 0, none⟩)]), (8, .func (.func 48) #[] #[.pointer (some ⟨g4, 0, none⟩), .pointer (some ⟨g8, 0, none⟩)]), (9, .func (.func 49) #[] #[.pointer (some ⟨g4, 0, none⟩), .pointer (some ⟨g8, 0, none⟩)]), (10, .func (.func 50) #[] #[.pointer (some ⟨g4, 0, none⟩), .pointer (some ⟨g8, 0, none⟩)]), (11, .func (.func 51) #[] #[.pointer (some ⟨g4, 0, none⟩), .pointer (some ⟨g5, 0, none⟩)]), (12, .func (.func 53) #[] #[.pointer (some ⟨g4, 0, none⟩), .pointer (some ⟨g5, 0, none⟩)]), (13, .func (.func 54) #[] #[.pointer (some ⟨g4, 0, none⟩), .pointer (some ⟨g5, 0, none⟩)]), (14, .func (.func 55) #[] #[.pointer (some ⟨g4, 0, none⟩), .pointer (some ⟨g5, 0, none⟩)])] := mw14
  clear mw14 tw14
  refine LF.step (OpOk.move rfl) (LF.step (OpOk.move rfl) ?_)
  refine LF.stepE (p := fun v => (v = .nilFunc ∧ (op < 2 ∨ 14 < op)) ∨ ∃ (f : Nat) (cs : List Value), v = .func (.func f) #[] cs.toArray ∧ Ent Try.prog f ∧ (2 ≤ op ∧ op ≤ 14) ∧ ((op = 14 → b ≠ 0) → ∀ H', H' = _ → Ct Try.prog f cs.toArray H' (fun v H'' => v = .int .i32 (doM op a b).1 ∧ H'' = H'))) ⟨_, OpOk.lookup Try.underlying91 Try.underlying3 Try.zero89 hm13 rfl rfl, wtable_ct hin a b op hb4 hb5 hb8⟩ ?_
  rintro v29 (⟨rfl, hop⟩ | ⟨f, cs, rfl, hE, hop, hct⟩)
  refine LF.step (OpOk.assign rfl) (LF.nil (PF.next (CF.seq (CF.seq (CF.region (LF.step (OpOk.move rfl) ?_))))))
  refine LF.step (OpOk.eqlN Try.underlying89 rfl rfl) ?_
  refine LF.step (OpOk.move rfl) ?_
  refine LF.gstep rfl rfl (.f _) (fun hg => OpOk.move rfl) ?_
  refine LF.gstep rfl rfl (.f _) (fun hg => OpOk.eql (evg rfl hg) rfl) ?_
  refine LF.gstep rfl rfl (.f _) (fun hg => OpOk.move (evg rfl hg)) ?_
  refine LF.gstep rfl rfl (.gt _ _) (fun hg => OpOk.ldBx hb5 Try.one21 rfl rfl) ?_
  refine LF.gstep rfl rfl (.gt _ _) (fun hg => OpOk.eql (evg rfl hg) rfl) ?_
  refine LF.gstep rfl rfl (.f _) (fun hg => OpOk.pickAnd2 hg rfl rfl) ?_
  refine LF.step (OpOk.pickOr rfl rfl) ?_
  refine LF.nil (PF.next ?_)
  refine CF.if rfl (fun hc1 => ?_) (fun hc1 => ?_)
  refine CF.seq (CF.region (LF.step (OpOk.assign rfl) (LF.step (OpOk.assign rfl) (LF.nil (PF.next (CF.ret (PF.thenRet ?_)))))))
  have hm : doM op a b = (0, false) := by
    first | (unfold doM; (repeat rw [if_neg (by omega)]); done) | (simp at hc2; obtain ⟨rfl, rfl⟩ := hc2; rfl) | (simp at hc2; exact do_snd hop (fun h9 => hc2.resolve_left (fun h8 => h8 h9)))
  exact PF.ret2 rfl rfl rfl ⟨by rw [hm] <;> rfl, hkp⟩
  exact absurd hc1 (by simp)
  refine LF.step (OpOk.assign rfl) (LF.nil (PF.next (CF.seq (CF.seq (CF.region (LF.step (OpOk.move rfl) ?_))))))
  refine LF.step (OpOk.eqlF Try.underlying89 rfl rfl) ?_
  refine LF.step (OpOk.move rfl) ?_
  refine LF.gstepK rfl rfl (.f _) (OpOk.move rfl) ?_
  refine LF.gstepK rfl rfl (.f _) (OpOk.eql rfl rfl) ?_
  refine LF.gstepK rfl rfl (.f _) (OpOk.move rfl) ?_
  refine LF.gstep rfl rfl (.t _) (fun hg => OpOk.ldBx hb5 Try.one21 rfl rfl) ?_
  refine LF.gstep rfl rfl (.t _) (fun hg => OpOk.eql (evg rfl hg) rfl) ?_
  refine LF.gstepK rfl rfl (.f _) (OpOk.pickAnd rfl rfl) ?_
  refine LF.step (OpOk.pickOr rfl rfl) ?_
  refine LF.nil (PF.next ?_)
  refine CF.if rfl (fun hc2 => ?_) (fun hc2 => ?_)
  refine CF.seq (CF.region (LF.step (OpOk.assign rfl) (LF.step (OpOk.assign rfl) (LF.nil (PF.next (CF.ret (PF.thenRet ?_)))))))
  have hm : doM op a b = (0, false) := by
    first | (unfold doM; (repeat rw [if_neg (by omega)]); done) | (simp at hc2; obtain ⟨rfl, rfl⟩ := hc2; rfl) | (simp at hc2; exact do_snd hop (fun h9 => hc2.resolve_left (fun h8 => h8 h9)))
  exact PF.ret2 rfl rfl rfl ⟨by rw [hm] <;> rfl, hkp⟩
  refine CF.skip (PF.next (CF.seq (CF.region (LF.step (OpOk.move rfl) ?_))))
  refine LF.call (OpCall.fnc hE rfl rfl) (hct (by omega) _ rfl) ?_
  rintro _ _ ⟨rfl, rfl⟩
  refine LF.step (OpOk.assign rfl) (LF.step (OpOk.assign rfl) (LF.nil (PF.next (CF.ret ?_))))
  have hm : doM op a b = ((doM op a b).1, true) := by
    first | (unfold doM; (repeat rw [if_neg (by omega)]); done) | (simp at hc2; obtain ⟨rfl, rfl⟩ := hc2; rfl) | (simp at hc2; exact do_snd hop (fun h9 => hc2.resolve_left (fun h8 => h8 h9)))
  exact PF.ret2 rfl rfl rfl ⟨by rw [hm] <;> rfl, hkp⟩

end Go.Proofs.Ytehibklogdngbaa
