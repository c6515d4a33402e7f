/- Walks. Conditions: each contract names its own. -/
import Derived.Test.YtehibklogdngbaaFw
namespace Go.Proofs.Ytehibklogdngbaa
set_option linter.unusedVariables false
set_option linter.unusedSimpArgs false
set_option linter.unusedSectionVars false
open Go.JE

theorem Try.ent95 : Ent Try.prog 95 := ⟨_, Try.func95, by kernel_rfl, by kernel_rfl⟩
-- jacquard/word.bit: function 52
theorem wbit_ct {F : PH} {H : Heap} (hin : InH F H) (b : Bool) :
    Ct Try.prog 52 #[.bool b] H (fun v H' => v = .int .i32 (bitM b) ∧ H' = H) := by
  have hkp := Kp.refl H.size H
  have hx := PH.ext.refl (H := H) F
  refine Ct.enter (args := [.bool b]) Try.func52 rfl rfl rfl (fun w0 hw0 => ?_)
  refine CF.seq (CF.region (LF.step (OpOk.assign rfl) (LF.nil (PF.next (CF.seq (CF.seq (CF.region (LF.step (OpOk.move rfl) (LF.nil (PF.next ?_))))))))))
  refine CF.if rfl (fun hc1 => ?_) (fun hc1 => ?_)
  refine CF.seq (CF.region (LF.step (OpOk.assign rfl) (LF.nil (PF.next (CF.ret (PF.thenRet ?_))))))
  have hm : bitM b = 1 := by
    first | (simp [bitM, hc1]; done) | (unfold bitM; (repeat' split) <;> first | rfl | (exfalso; omega) | (simp [bitM, hc1]; done))
  exact PF.ret1 rfl rfl ⟨by rw [hm] <;> rfl, rfl⟩
  refine CF.skip (PF.next (CF.seq (CF.region (LF.step (OpOk.assign rfl) (LF.nil (PF.next (CF.ret ?_)))))))
  have hm : bitM b = 0 := by
    first | (simp [bitM, hc1]; done) | (unfold bitM; (repeat' split) <;> first | rfl | (exfalso; omega) | (simp [bitM, hc1]; done))
  exact PF.ret1 rfl rfl ⟨by rw [hm] <;> rfl, rfl⟩

-- jacquard/jacquardref01.bit: function 95
theorem rbit_ct {F : PH} {H : Heap} (hin : InH F H) (b : Bool) :
    Ct Try.prog 95 #[.bool b] H (fun v H' => v = .int .i32 (bitM b) ∧ H' = H) := by
  have hkp := Kp.refl H.size H
  have hx := PH.ext.refl (H := H) F
  refine Ct.enter (args := [.bool b]) Try.func95 rfl rfl rfl (fun w0 hw0 => ?_)
  refine CF.seq (CF.region (LF.step (OpOk.assign rfl) (LF.nil (PF.next (CF.seq (CF.seq (CF.region (LF.step (OpOk.move rfl) (LF.nil (PF.next ?_))))))))))
  refine CF.if rfl (fun hc1 => ?_) (fun hc1 => ?_)
  refine CF.seq (CF.region (LF.step (OpOk.assign rfl) (LF.nil (PF.next (CF.ret (PF.thenRet ?_))))))
  have hm : bitM b = 1 := by
    first | (simp [bitM, hc1]; done) | (unfold bitM; (repeat' split) <;> first | rfl | (exfalso; omega) | (simp [bitM, hc1]; done))
  exact PF.ret1 rfl rfl ⟨by rw [hm] <;> rfl, rfl⟩
  refine CF.skip (PF.next (CF.seq (CF.region (LF.step (OpOk.assign rfl) (LF.nil (PF.next (CF.ret ?_)))))))
  have hm : bitM b = 0 := by
    first | (simp [bitM, hc1]; done) | (unfold bitM; (repeat' split) <;> first | rfl | (exfalso; omega) | (simp [bitM, hc1]; done))
  exact PF.ret1 rfl rfl ⟨by rw [hm] <;> rfl, rfl⟩

-- jacquard/jacquardref01.Do: function 67
theorem rDo_ct {F : PH} {H : Heap} (hin : InH F H) (op : Int) (a : Int) (b : Int) (ww1 : IntKind.i32.wrap a = a) (ww2 : IntKind.i32.wrap b = b) :
    Ct Try.prog 67 #[.int .i64 op, .int .i32 a, .int .i32 b] H (fun v H' => v = .tuple #[.int .i32 ((doM op a b).1), .bool ((doM op a b).2)] ∧ H' = H) := by
  have hkp := Kp.refl H.size H
  have hx := PH.ext.refl (H := H) F
  refine Ct.enter (args := [.int .i64 op, .int .i32 a, .int .i32 b]) Try.func67 rfl rfl rfl (fun w0 hw0 => ?_)
  refine CF.seq (CF.region (LF.step (OpOk.assign rfl) (LF.step (OpOk.assign rfl) (LF.nil (PF.next (CF.seq (CF.region (LF.step (OpOk.move rfl) ?_))))))))
  refine LF.step (OpOk.convI Try.underlying21 Try.underlying66 rfl rfl) ?_
  refine LF.step (OpOk.andw rfl rfl) ?_
  refine LF.step (OpOk.assign rfl) (LF.nil (PF.next (CF.seq (CF.seq (CF.region (LF.step (OpOk.move rfl) (LF.nil (PF.next (CF.block (CF.seq (CF.region ?_)))))))))))
  refine LF.step (OpOk.eql rfl rfl) ?_
  refine LF.step (OpOk.assign rfl) (LF.nil (PF.next ?_))
  refine CF.if rfl (fun hc1 => ?_) (fun hc1 => ?_)
  refine CF.seq (CF.region (LF.step (OpOk.move rfl) (LF.step (OpOk.move rfl) ?_)))
  refine LF.step (OpOk.addw rfl rfl rfl) ?_
  refine LF.step (OpOk.assign rfl) (LF.step (OpOk.assign rfl) (LF.nil (PF.next (CF.ret (PF.blockRet (PF.thenRet ?_))))))
  have hm : doM op a b = (IntKind.i32.wrap (a + b), true) := by
    first | (simp [doM, shl_ref, shr_ref, sar_ref, shl_prog, shr_prog, sar_prog, div_ref b ww1, hc1]; done) | (unfold doM; (repeat' split) <;> first | rfl | (exfalso; omega) | (simp [doM, shl_ref, shr_ref, sar_ref, shl_prog, shr_prog, sar_prog, div_ref b ww1, hc1]; done))
  exact PF.ret2 rfl rfl rfl ⟨by rw [hm] <;> rfl, rfl⟩
  refine CF.seq (CF.region ?_)
  refine LF.step (OpOk.eql rfl rfl) ?_
  refine LF.step (OpOk.assign rfl) (LF.nil (PF.next ?_))
  refine CF.if rfl (fun hc2 => ?_) (fun hc2 => ?_)
  refine CF.seq (CF.region (LF.step (OpOk.move rfl) (LF.step (OpOk.move rfl) ?_)))
  refine LF.step (OpOk.subw rfl rfl rfl) ?_
  refine LF.step (OpOk.assign rfl) (LF.step (OpOk.assign rfl) (LF.nil (PF.next (CF.ret (PF.blockRet (PF.thenRet ?_))))))
  have hm : doM op a b = (IntKind.i32.wrap (a - b), true) := by
    first | (simp [doM, shl_ref, shr_ref, sar_ref, shl_prog, shr_prog, sar_prog, div_ref b ww1, hc1, hc2]; done) | (unfold doM; (repeat' split) <;> first | rfl | (exfalso; omega) | (simp [doM, shl_ref, shr_ref, sar_ref, shl_prog, shr_prog, sar_prog, div_ref b ww1, hc1, hc2]; done))
  exact PF.ret2 rfl rfl rfl ⟨by rw [hm] <;> rfl, rfl⟩
  refine CF.seq (CF.region ?_)
  refine LF.step (OpOk.eql rfl rfl) ?_
  refine LF.step (OpOk.assign rfl) (LF.nil (PF.next ?_))
  refine CF.if rfl (fun hc3 => ?_) (fun hc3 => ?_)
  refine CF.seq (CF.region (LF.step (OpOk.move rfl) (LF.step (OpOk.move rfl) ?_)))
  refine LF.step (OpOk.mulw rfl rfl rfl) ?_
  refine LF.step (OpOk.assign rfl) (LF.step (OpOk.assign rfl) (LF.nil (PF.next (CF.ret (PF.blockRet (PF.thenRet ?_))))))
  have hm : doM op a b = (IntKind.i32.wrap (a * b), true) := by
    first | (simp [doM, shl_ref, shr_ref, sar_ref, shl_prog, shr_prog, sar_prog, div_ref b ww1, hc1, hc2, hc3]; done) | (unfold doM; (repeat' split) <;> first | rfl | (exfalso; omega) | (simp [doM, shl_ref, shr_ref, sar_ref, shl_prog, shr_prog, sar_prog, div_ref b ww1, hc1, hc2, hc3]; done))
  exact PF.ret2 rfl rfl rfl ⟨by rw [hm] <;> rfl, rfl⟩
  refine CF.seq (CF.region ?_)
  refine LF.step (OpOk.eql rfl rfl) ?_
  refine LF.step (OpOk.assign rfl) (LF.nil (PF.next ?_))
  refine CF.if rfl (fun hc4 => ?_) (fun hc4 => ?_)
  refine CF.seq (CF.region (LF.step (OpOk.move rfl) (LF.step (OpOk.move rfl) ?_)))
  refine LF.step (OpOk.andw rfl rfl) ?_
  refine LF.step (OpOk.assign rfl) (LF.step (OpOk.assign rfl) (LF.nil (PF.next (CF.ret (PF.blockRet (PF.thenRet ?_))))))
  have hm : doM op a b = (andI .i32 a b, true) := by
    first | (simp [doM, shl_ref, shr_ref, sar_ref, shl_prog, shr_prog, sar_prog, div_ref b ww1, hc1, hc2, hc3, hc4]; done) | (unfold doM; (repeat' split) <;> first | rfl | (exfalso; omega) | (simp [doM, shl_ref, shr_ref, sar_ref, shl_prog, shr_prog, sar_prog, div_ref b ww1, hc1, hc2, hc3, hc4]; done))
  exact PF.ret2 rfl rfl rfl ⟨by rw [hm] <;> rfl, rfl⟩
  refine CF.seq (CF.region ?_)
  refine LF.step (OpOk.eql rfl rfl) ?_
  refine LF.step (OpOk.assign rfl) (LF.nil (PF.next ?_))
  refine CF.if rfl (fun hc5 => ?_) (fun hc5 => ?_)
  refine CF.seq (CF.region (LF.step (OpOk.move rfl) (LF.step (OpOk.move rfl) ?_)))
  refine LF.step (OpOk.orw rfl rfl) ?_
  refine LF.step (OpOk.assign rfl) (LF.step (OpOk.assign rfl) (LF.nil (PF.next (CF.ret (PF.blockRet (PF.thenRet ?_))))))
  have hm : doM op a b = (orI .i32 a b, true) := by
    first | (simp [doM, shl_ref, shr_ref, sar_ref, shl_prog, shr_prog, sar_prog, div_ref b ww1, hc1, hc2, hc3, hc4, hc5]; done) | (unfold doM; (repeat' split) <;> first | rfl | (exfalso; omega) | (simp [doM, shl_ref, shr_ref, sar_ref, shl_prog, shr_prog, sar_prog, div_ref b ww1, hc1, hc2, hc3, hc4, hc5]; done))
  exact PF.ret2 rfl rfl rfl ⟨by rw [hm] <;> rfl, rfl⟩
  refine CF.seq (CF.region ?_)
  refine LF.step (OpOk.eql rfl rfl) ?_
  refine LF.step (OpOk.assign rfl) (LF.nil (PF.next ?_))
  refine CF.if rfl (fun hc6 => ?_) (fun hc6 => ?_)
  refine CF.seq (CF.region (LF.step (OpOk.move rfl) (LF.step (OpOk.move rfl) ?_)))
  refine LF.step (OpOk.xorw rfl rfl) ?_
  refine LF.step (OpOk.assign rfl) (LF.step (OpOk.assign rfl) (LF.nil (PF.next (CF.ret (PF.blockRet (PF.thenRet ?_))))))
  have hm : doM op a b = (xorI .i32 a b, true) := by
    first | (simp [doM, shl_ref, shr_ref, sar_ref, shl_prog, shr_prog, sar_prog, div_ref b ww1, hc1, hc2, hc3, hc4, hc5, hc6]; done) | (unfold doM; (repeat' split) <;> first | rfl | (exfalso; omega) | (simp [doM, shl_ref, shr_ref, sar_ref, shl_prog, shr_prog, sar_prog, div_ref b ww1, hc1, hc2, hc3, hc4, hc5, hc6]; done))
  exact PF.ret2 rfl rfl rfl ⟨by rw [hm] <;> rfl, rfl⟩
  refine CF.seq (CF.region ?_)
  refine LF.step (OpOk.eql rfl rfl) ?_
  refine LF.step (OpOk.assign rfl) (LF.nil (PF.next ?_))
  refine CF.if rfl (fun hc7 => ?_) (fun hc7 => ?_)
  refine CF.seq (CF.region (LF.step (OpOk.move rfl) ?_))
  refine LF.step (OpOk.convI Try.underlying21 Try.underlying66 rfl rfl) ?_
  refine LF.step (OpOk.move rfl) ?_
  refine LF.step (OpOk.shlw rfl rfl (by rw [and32]; omega)) ?_
  refine LF.step (OpOk.convI Try.underlying66 Try.underlying21 rfl rfl) ?_
  refine LF.step (OpOk.assign rfl) (LF.step (OpOk.assign rfl) (LF.nil (PF.next (CF.ret (PF.blockRet (PF.thenRet ?_))))))
  have hm : doM op a b = (IntKind.i32.wrap (shlI .u32 (IntKind.u32.wrap a) (andI .u32 (IntKind.u32.wrap b) 31)), true) := by
    first | (simp [doM, shl_ref, shr_ref, sar_ref, shl_prog, shr_prog, sar_prog, div_ref b ww1, hc1, hc2, hc3, hc4, hc5, hc6, hc7]; done) | (unfold doM; (repeat' split) <;> first | rfl | (exfalso; omega) | (simp [doM, shl_ref, shr_ref, sar_ref, shl_prog, shr_prog, sar_prog, div_ref b ww1, hc1, hc2, hc3, hc4, hc5, hc6, hc7]; done))
  exact PF.ret2 rfl rfl rfl ⟨by rw [hm] <;> rfl, rfl⟩
  refine CF.seq (CF.region ?_)
  refine LF.step (OpOk.eql rfl rfl) ?_
  refine LF.step (OpOk.assign rfl) (LF.nil (PF.next ?_))
  refine CF.if rfl (fun hc8 => ?_) (fun hc8 => ?_)
  refine CF.seq (CF.region (LF.step (OpOk.move rfl) ?_))
  refine LF.step (OpOk.convI Try.underlying21 Try.underlying66 rfl rfl) ?_
  refine LF.step (OpOk.move rfl) ?_
  refine LF.step (OpOk.shrw rfl rfl (by rw [and32]; omega)) ?_
  refine LF.step (OpOk.convI Try.underlying66 Try.underlying21 rfl rfl) ?_
  refine LF.step (OpOk.assign rfl) (LF.step (OpOk.assign rfl) (LF.nil (PF.next (CF.ret (PF.blockRet (PF.thenRet ?_))))))
  have hm : doM op a b = (IntKind.i32.wrap (shrI .u32 (IntKind.u32.wrap a) (andI .u32 (IntKind.u32.wrap b) 31)), true) := by
    first | (simp [doM, shl_ref, shr_ref, sar_ref, shl_prog, shr_prog, sar_prog, div_ref b ww1, hc1, hc2, hc3, hc4, hc5, hc6, hc7, hc8]; done) | (unfold doM; (repeat' split) <;> first | rfl | (exfalso; omega) | (simp [doM, shl_ref, shr_ref, sar_ref, shl_prog, shr_prog, sar_prog, div_ref b ww1, hc1, hc2, hc3, hc4, hc5, hc6, hc7, hc8]; done))
  exact PF.ret2 rfl rfl rfl ⟨by rw [hm] <;> rfl, rfl⟩
  refine CF.seq (CF.region ?_)
  refine LF.step (OpOk.eql rfl rfl) ?_
  refine LF.step (OpOk.assign rfl) (LF.nil (PF.next ?_))
  refine CF.if rfl (fun hc9 => ?_) (fun hc9 => ?_)
  refine CF.seq (CF.region (LF.step (OpOk.move rfl) (LF.step (OpOk.move rfl) ?_)))
  refine LF.step (OpOk.shrw rfl rfl (by rw [and32]; omega)) ?_
  refine LF.step (OpOk.assign rfl) (LF.step (OpOk.assign rfl) (LF.nil (PF.next (CF.ret (PF.blockRet (PF.thenRet ?_))))))
  have hm : doM op a b = (shrI .i32 a (andI .u32 (IntKind.u32.wrap b) 31), true) := by
    first | (simp [doM, shl_ref, shr_ref, sar_ref, shl_prog, shr_prog, sar_prog, div_ref b ww1, hc1, hc2, hc3, hc4, hc5, hc6, hc7, hc8, hc9]; done) | (unfold doM; (repeat' split) <;> first | rfl | (exfalso; omega) | (simp [doM, shl_ref, shr_ref, sar_ref, shl_prog, shr_prog, sar_prog, div_ref b ww1, hc1, hc2, hc3, hc4, hc5, hc6, hc7, hc8, hc9]; done))
  exact PF.ret2 rfl rfl rfl ⟨by rw [hm] <;> rfl, rfl⟩
  refine CF.seq (CF.region ?_)
  refine LF.step (OpOk.eql rfl rfl) ?_
  refine LF.step (OpOk.assign rfl) (LF.nil (PF.next ?_))
  refine CF.if rfl (fun hc10 => ?_) (fun hc10 => ?_)
  refine CF.seq (CF.region (LF.step (OpOk.move rfl) (LF.step (OpOk.move rfl) ?_)))
  refine LF.step (OpOk.eql rfl rfl) ?_
  refine LF.call (OpCall.fn Try.ent95 rfl rfl) (rbit_ct hin (decide (a = b))) ?_
  rintro _ _ ⟨rfl, rfl⟩
  refine LF.step (OpOk.assign rfl) (LF.step (OpOk.assign rfl) (LF.nil (PF.next (CF.ret (PF.blockRet (PF.thenRet ?_))))))
  have hm : doM op a b = (bitM (decide (a = b)), true) := by
    first | (simp [doM, shl_ref, shr_ref, sar_ref, shl_prog, shr_prog, sar_prog, div_ref b ww1, hc1, hc2, hc3, hc4, hc5, hc6, hc7, hc8, hc9, hc10]; done) | (unfold doM; (repeat' split) <;> first | rfl | (exfalso; omega) | (simp [doM, shl_ref, shr_ref, sar_ref, shl_prog, shr_prog, sar_prog, div_ref b ww1, hc1, hc2, hc3, hc4, hc5, hc6, hc7, hc8, hc9, hc10]; done))
  exact PF.ret2 rfl rfl rfl ⟨by rw [hm] <;> rfl, rfl⟩
  refine CF.seq (CF.region ?_)
  refine LF.step (OpOk.eql rfl rfl) ?_
  refine LF.step (OpOk.assign rfl) (LF.nil (PF.next ?_))
  refine CF.if rfl (fun hc11 => ?_) (fun hc11 => ?_)
  refine CF.seq (CF.region (LF.step (OpOk.move rfl) (LF.step (OpOk.move rfl) ?_)))
  refine LF.step (OpOk.lss rfl rfl) ?_
  refine LF.call (OpCall.fn Try.ent95 rfl rfl) (rbit_ct hin (decide (a < b))) ?_
  rintro _ _ ⟨rfl, rfl⟩
  refine LF.step (OpOk.assign rfl) (LF.step (OpOk.assign rfl) (LF.nil (PF.next (CF.ret (PF.blockRet (PF.thenRet ?_))))))
  have hm : doM op a b = (bitM (decide (a < b)), true) := by
    first | (simp [doM, shl_ref, shr_ref, sar_ref, shl_prog, shr_prog, sar_prog, div_ref b ww1, hc1, hc2, hc3, hc4, hc5, hc6, hc7, hc8, hc9, hc10, hc11]; done) | (unfold doM; (repeat' split) <;> first | rfl | (exfalso; omega) | (simp [doM, shl_ref, shr_ref, sar_ref, shl_prog, shr_prog, sar_prog, div_ref b ww1, hc1, hc2, hc3, hc4, hc5, hc6, hc7, hc8, hc9, hc10, hc11]; done))
  exact PF.ret2 rfl rfl rfl ⟨by rw [hm] <;> rfl, rfl⟩
  refine CF.seq (CF.region ?_)
  refine LF.step (OpOk.eql rfl rfl) ?_
  refine LF.step (OpOk.assign rfl) (LF.nil (PF.next ?_))
  refine CF.if rfl (fun hc12 => ?_) (fun hc12 => ?_)
  refine CF.seq (CF.region (LF.step (OpOk.move rfl) ?_))
  refine LF.step (OpOk.convI Try.underlying21 Try.underlying66 rfl rfl) ?_
  refine LF.step (OpOk.move rfl) ?_
  refine LF.step (OpOk.convI Try.underlying21 Try.underlying66 rfl rfl) ?_
  refine LF.step (OpOk.lss rfl rfl) ?_
  refine LF.call (OpCall.fn Try.ent95 rfl rfl) (rbit_ct hin (decide (IntKind.u32.wrap a < IntKind.u32.wrap b))) ?_
  rintro _ _ ⟨rfl, rfl⟩
  refine LF.step (OpOk.assign rfl) (LF.step (OpOk.assign rfl) (LF.nil (PF.next (CF.ret (PF.blockRet (PF.thenRet ?_))))))
  have hm : doM op a b = (bitM (decide (IntKind.u32.wrap a < IntKind.u32.wrap b)), true) := by
    first | (simp [doM, shl_ref, shr_ref, sar_ref, shl_prog, shr_prog, sar_prog, div_ref b ww1, hc1, hc2, hc3, hc4, hc5, hc6, hc7, hc8, hc9, hc10, hc11, hc12]; done) | (unfold doM; (repeat' split) <;> first | rfl | (exfalso; omega) | (simp [doM, shl_ref, shr_ref, sar_ref, shl_prog, shr_prog, sar_prog, div_ref b ww1, hc1, hc2, hc3, hc4, hc5, hc6, hc7, hc8, hc9, hc10, hc11, hc12]; done))
  exact PF.ret2 rfl rfl rfl ⟨by rw [hm] <;> rfl, rfl⟩
  refine CF.seq (CF.region ?_)
  refine LF.step (OpOk.eql rfl rfl) ?_
  refine LF.step (OpOk.assign rfl) (LF.nil (PF.next ?_))
  refine CF.if rfl (fun hc13 => ?_) (fun hc13 => ?_)
  refine CF.seq (CF.seq (CF.region (LF.step (OpOk.move rfl) ?_)))
  refine LF.step (OpOk.eql rfl rfl) ?_
  refine LF.nil (PF.next ?_)
  refine CF.if rfl (fun hc14 => ?_) (fun hc14 => ?_)
  refine CF.seq (CF.region (LF.step (OpOk.assign rfl) (LF.step (OpOk.assign rfl) (LF.nil (PF.next (CF.ret (PF.thenRet (PF.blockRet (PF.thenRet ?_)))))))))
  have hm : doM op a b = (0, false) := by
    first | (simp [doM, shl_ref, shr_ref, sar_ref, shl_prog, shr_prog, sar_prog, div_ref b ww1, hc1, hc2, hc3, hc4, hc5, hc6, hc7, hc8, hc9, hc10, hc11, hc12, hc13, hc14]; done) | (unfold doM; (repeat' split) <;> first | rfl | (exfalso; omega) | (simp [doM, shl_ref, shr_ref, sar_ref, shl_prog, shr_prog, sar_prog, div_ref b ww1, hc1, hc2, hc3, hc4, hc5, hc6, hc7, hc8, hc9, hc10, hc11, hc12, hc13, hc14]; done))
  exact PF.ret2 rfl rfl rfl ⟨by rw [hm] <;> rfl, rfl⟩
  refine CF.skip (PF.next (CF.seq (CF.region (LF.step (OpOk.move rfl) ?_))))
  refine LF.step (OpOk.convI Try.underlying21 Try.underlying2 rfl (up_i32_i64 ww1)) ?_
  refine LF.step (OpOk.move rfl) ?_
  refine LF.step (OpOk.convI Try.underlying21 Try.underlying2 rfl (up_i32_i64 ww2)) ?_
  refine LF.step (OpOk.quow rfl rfl (by omega) rfl) ?_
  refine LF.step (OpOk.convI Try.underlying2 Try.underlying21 rfl rfl) ?_
  refine LF.step (OpOk.assign rfl) (LF.step (OpOk.assign rfl) (LF.nil (PF.next (CF.ret (PF.blockRet (PF.thenRet ?_))))))
  have hm : doM op a b = (IntKind.i32.wrap (IntKind.i64.wrap (Int.tdiv a b)), true) := by
    first | (simp [doM, shl_ref, shr_ref, sar_ref, shl_prog, shr_prog, sar_prog, div_ref b ww1, hc1, hc2, hc3, hc4, hc5, hc6, hc7, hc8, hc9, hc10, hc11, hc12, hc13, hc14]; done) | (unfold doM; (repeat' split) <;> first | rfl | (exfalso; omega) | (simp [doM, shl_ref, shr_ref, sar_ref, shl_prog, shr_prog, sar_prog, div_ref b ww1, hc1, hc2, hc3, hc4, hc5, hc6, hc7, hc8, hc9, hc10, hc11, hc12, hc13, hc14]; done))
  exact PF.ret2 rfl rfl rfl ⟨by rw [hm] <;> rfl, rfl⟩
  refine CF.skip (PF.blockNormal (PF.next (CF.seq (CF.region (LF.step (OpOk.assign rfl) (LF.step (OpOk.assign rfl) (LF.nil (PF.next (CF.ret ?_)))))))))
  have hm : doM op a b = (0, false) := by
    first | (simp [doM, shl_ref, shr_ref, sar_ref, shl_prog, shr_prog, sar_prog, div_ref b ww1, hc1, hc2, hc3, hc4, hc5, hc6, hc7, hc8, hc9, hc10, hc11, hc12, hc13]; done) | (unfold doM; (repeat' split) <;> first | rfl | (exfalso; omega) | (simp [doM, shl_ref, shr_ref, sar_ref, shl_prog, shr_prog, sar_prog, div_ref b ww1, hc1, hc2, hc3, hc4, hc5, hc6, hc7, hc8, hc9, hc10, hc11, hc12, hc13]; done))
  exact PF.ret2 rfl rfl rfl ⟨by rw [hm] <;> rfl, rfl⟩


-- jacquard/jacquardref01.Fits: function 107
theorem rFits_ct {F : PH} {H : Heap} (hin : InH F H) (n : Int) (bits : Int) (ww0 : IntKind.i32.wrap n = n) :
    Ct Try.prog 107 #[.int .i32 n, .int .i64 bits] H (fun v H' => v = .bool (fitsM n bits) ∧ H' = H) := by
  have hkp := Kp.refl H.size H
  have hx := PH.ext.refl (H := H) F
  refine Ct.enter (args := [.int .i32 n, .int .i64 bits]) Try.func107 rfl rfl rfl (fun w0 hw0 => ?_)
  refine CF.seq (CF.region (LF.step (OpOk.assign rfl) (LF.nil (PF.next (CF.seq (CF.seq (CF.region (LF.step (OpOk.move rfl) ?_))))))))
  refine LF.step (OpOk.lss rfl rfl) ?_
  refine LF.nil (PF.next ?_)
  refine CF.if rfl (fun hc1 => ?_) (fun hc1 => ?_)
  refine CF.seq (CF.region (LF.step (OpOk.move rfl) ?_))
  refine LF.step (OpOk.eql rfl rfl) ?_
  refine LF.step (OpOk.assign rfl) (LF.nil (PF.next (CF.ret (PF.thenRet ?_))))
  have hm : fitsM n bits = (decide (n = 0)) := by
    first | (simp [fitsM, *]; done) | exact (fits_ref ww0 hc1 hc2).symm | exact (fits_ref ww0 ‹_› ‹_›).symm
  exact PF.ret1 rfl rfl ⟨by rw [hm] <;> rfl, rfl⟩
  refine CF.skip (PF.next (CF.seq (CF.seq (CF.region (LF.step (OpOk.move rfl) ?_)))))
  refine LF.step (OpOk.gtr rfl rfl) ?_
  refine LF.nil (PF.next ?_)
  refine CF.if rfl (fun hc2 => ?_) (fun hc2 => ?_)
  refine CF.seq (CF.region (LF.step (OpOk.assign rfl) (LF.nil (PF.next (CF.ret (PF.thenRet ?_))))))
  have hm : fitsM n bits = true := by
    first | (simp [fitsM, *]; done) | exact (fits_ref ww0 hc1 hc2).symm | exact (fits_ref ww0 ‹_› ‹_›).symm
  exact PF.ret1 rfl rfl ⟨by rw [hm] <;> rfl, rfl⟩
  refine CF.skip (PF.next (CF.seq (CF.region (LF.step (OpOk.move rfl) ?_))))
  refine LF.step (OpOk.sub rfl rfl (by omega)) ?_
  refine LF.step (OpOk.shlw rfl rfl (by omega)) ?_
  refine LF.step (OpOk.assign rfl) (LF.nil (PF.next (CF.seq (CF.region (LF.step (OpOk.move rfl) ?_)))))
  refine LF.step (OpOk.convI Try.underlying21 Try.underlying2 rfl (up_i32_i64 ww0)) ?_
  refine LF.step (OpOk.move rfl) ?_
  refine LF.step (OpOk.neg rfl rfl) ?_
  refine LF.step (OpOk.geq rfl rfl) ?_
  refine LF.step (OpOk.move rfl) ?_
  refine LF.gstep rfl rfl (.t _) (fun hg => OpOk.move rfl) ?_
  refine LF.gstep rfl rfl (.t _) (fun hg => OpOk.convI Try.underlying21 Try.underlying2 (evg rfl hg) (up_i32_i64 ww0)) ?_
  refine LF.gstep rfl rfl (.t _) (fun hg => OpOk.move rfl) ?_
  refine LF.gstep rfl rfl (.t _) (fun hg => OpOk.lss (evg rfl hg) (evg rfl hg)) ?_
  refine LF.step (OpOk.pickAnd rfl rfl) ?_
  refine LF.step (OpOk.assign rfl) (LF.nil (PF.next (CF.ret ?_)))
  have hm : fitsM n bits = ((decide (IntKind.i64.wrap (0 - (shlI .i64 1 (bits - 1))) ≤ n)) && (decide (n < shlI .i64 1 (bits - 1)))) := by
    first | (simp [fitsM, *]; done) | exact (fits_ref ww0 hc1 hc2).symm | exact (fits_ref ww0 ‹_› ‹_›).symm
  exact PF.ret1 rfl rfl ⟨by rw [hm] <;> rfl, rfl⟩

-- jacquard/word.Fits: function 98
theorem wFits_ct {F : PH} {H : Heap} (hin : InH F H) (n : Int) (bits : Int) (ww0 : IntKind.i32.wrap n = n) :
    Ct Try.prog 98 #[.int .i32 n, .int .i64 bits] H (fun v H' => v = .bool (fitsM n bits) ∧ H' = H) := by
  have hkp := Kp.refl H.size H
  have hx := PH.ext.refl (H := H) F
  refine Ct.enter (args := [.int .i32 n, .int .i64 bits]) Try.func98 rfl rfl rfl (fun w0 hw0 => ?_)
  refine CF.seq (CF.region (LF.step (OpOk.assign rfl) (LF.nil (PF.next (CF.seq (CF.seq (CF.region (LF.step (OpOk.move rfl) ?_))))))))
  refine LF.step (OpOk.lss rfl rfl) ?_
  refine LF.nil (PF.next ?_)
  refine CF.if rfl (fun hc1 => ?_) (fun hc1 => ?_)
  refine CF.seq (CF.region (LF.step (OpOk.move rfl) ?_))
  refine LF.step (OpOk.eql rfl rfl) ?_
  refine LF.step (OpOk.assign rfl) (LF.nil (PF.next (CF.ret (PF.thenRet ?_))))
  have hm : fitsM n bits = (decide (n = 0)) := by
    first | (simp [fitsM, *]; done) | exact (fits_prog ww0 hc1 hc2).symm | exact (fits_prog ww0 ‹_› ‹_›).symm
  exact PF.ret1 rfl rfl ⟨by rw [hm] <;> rfl, rfl⟩
  refine CF.skip (PF.next (CF.seq (CF.seq (CF.region (LF.step (OpOk.move rfl) ?_)))))
  refine LF.step (OpOk.gtr rfl rfl) ?_
  refine LF.nil (PF.next ?_)
  refine CF.if rfl (fun hc2 => ?_) (fun hc2 => ?_)
  refine CF.seq (CF.region (LF.step (OpOk.assign rfl) (LF.nil (PF.next (CF.ret (PF.thenRet ?_))))))
  have hm : fitsM n bits = true := by
    first | (simp [fitsM, *]; done) | exact (fits_prog ww0 hc1 hc2).symm | exact (fits_prog ww0 ‹_› ‹_›).symm
  exact PF.ret1 rfl rfl ⟨by rw [hm] <;> rfl, rfl⟩
  refine CF.skip (PF.next (CF.seq (CF.region (LF.step (OpOk.move rfl) ?_))))
  refine LF.step (OpOk.sub rfl rfl (by omega)) ?_
  refine LF.step (OpOk.assign rfl) (LF.nil (PF.next (CF.seq (CF.region (LF.step (OpOk.move rfl) (LF.step (OpOk.move rfl) ?_))))))
  refine LF.step (OpOk.shlw rfl rfl (by omega)) ?_
  refine LF.step (OpOk.move rfl) ?_
  refine LF.step (OpOk.shrw rfl rfl (by omega)) ?_
  refine LF.step (OpOk.move rfl) ?_
  refine LF.step (OpOk.eql rfl rfl) ?_
  refine LF.step (OpOk.assign rfl) (LF.nil (PF.next (CF.ret ?_)))
  have hm : fitsM n bits = (decide (shrI .i32 (shlI .i32 n (32 - bits)) (32 - bits) = n)) := by
    first | (simp [fitsM, *]; done) | exact (fits_prog ww0 hc1 hc2).symm | exact (fits_prog ww0 ‹_› ‹_›).symm
  exact PF.ret1 rfl rfl ⟨by rw [hm] <;> rfl, rfl⟩

end Go.Proofs.Ytehibklogdngbaa
