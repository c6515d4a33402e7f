/- Walks. Conditions: each contract names its own. -/
import Derived.Test.YtehibklogdngbaaW5
namespace Go.Proofs.Ytehibklogdngbaa
set_option linter.unusedVariables false
set_option linter.unusedSimpArgs false
set_option linter.unusedSectionVars false
open Go.JE

theorem Try.ent29 : Ent Try.prog 29 := ⟨_, Try.func29, by kernel_rfl, by kernel_rfl⟩
theorem Try.ent36 : Ent Try.prog 36 := ⟨_, Try.func36, by kernel_rfl, by kernel_rfl⟩
theorem Try.ent60 : Ent Try.prog 60 := ⟨_, Try.func60, by kernel_rfl, by kernel_rfl⟩
theorem Try.fld27_1 : Fld Try.prog 27 1 1 := ⟨_, _, Try.underlying27, rfl, rfl, 1, (by unfold Sz; kernel_rfl), by decide⟩
theorem Try.fld55_3 : Fld Try.prog 55 3 3 := ⟨_, _, Try.underlying55, rfl, rfl, 1, (by unfold Sz; kernel_rfl), by decide⟩
theorem Try.info21 : (Try.prog.info? 21).map (fun i => (i.zero, i.size, i.bytes)) = some (some (.int .i32 0), 1, 4) := by kernel_rfl
theorem Try.one25 : One Try.prog 25 := ⟨_, Try.underlying25, rfl⟩
-- jacquard/jacquardref07.set: function 66
theorem rSet_ct {F : PH} {H : Heap} (hin : InH F H) {a0 : Value} {regs : List Int} {B0 : Nat} (p0 : Gl (rI .i32) 21 F H B0 a0 regs) (r : Int) (x : Int) (hl : regs.length < 1073741824) (ww2 : IntKind.i32.wrap x = x) :
    Ct Try.prog 66 #[a0, .int .i64 r, .int .i32 x] H (fun v H' => v = .tuple #[] ∧ Kw (own1 a0) H H' ∧ Gl (rI .i32) 21 F H' B0 a0 (setM regs r x)) := by
  have hkp := Kw.refl (own1 a0) H
  have hx := PH.ext.refl (H := H) F
  refine Ct.enter (args := [a0, .int .i64 r, .int .i32 x]) Try.func66 rfl rfl rfl (fun w0 hw0 => ?_)
  refine CF.seq (CF.region (LF.step (OpOk.move rfl) ?_))
  refine LF.step (OpOk.geq rfl rfl) ?_
  refine LF.step (OpOk.move rfl) ?_
  refine LF.gstep rfl rfl (.t _) (fun hg => OpOk.move rfl) ?_
  refine LF.gstep rfl rfl (.t _) (fun hg => OpOk.move rfl) ?_
  refine LF.gstep rfl rfl (.t _) (fun hg => OpOk.lenG Try.underlying25 p0 (evg rfl hg)) ?_
  refine LF.gstep rfl rfl (.t _) (fun hg => OpOk.lss (evg rfl hg) (evg rfl hg)) ?_
  refine LF.step (OpOk.pickAnd rfl rfl) ?_
  refine LF.nil (PF.next ?_)
  refine CF.if rfl (fun hc1 => ?_) (fun hc1 => ?_)
  refine CF.region (LF.step (OpOk.move rfl) (LF.step (OpOk.move rfl) (LF.step (OpOk.move rfl) ?_)))
  refine LF.step (OpOk.idxG (i := (Int.toNat r)) Try.underlying25 Try.sz21 p0 rfl rfl (by omega) (by first | omega | (simp only [List.length_replicate, List.length_set, List.length_append, List.length_cons, List.length_nil]; omega))) ?_
  refine LF.chg0 (OpCh.storeG p0 rfl Try.sz21 rfl rfl rfl (by first | omega | (simp only [List.length_replicate, List.length_set, List.length_append, List.length_cons, List.length_nil]; omega)) ⟨rfl, ww2⟩) ?_
  rintro _ Hw1 ⟨gw1, qw1, tw1, xw1⟩
  have ztw1 := tw1.1
  replace hin := hin.tw tw1 (p0.no _ qw1)
  replace hkp := hkp.tw tw1 (.inr qw1)
  replace p0 := xw1
  refine LF.nil ?_
  have hm : () = () := by
    rfl
  have hm0 : setM regs r x = (List.set regs (Int.toNat r) x) := by
    first | (simp [setM, *]; done) | (unfold setM; rw [if_neg (by omega)]; done) | (unfold setM; rw [if_pos (by omega)]; done)
  exact PF.end0 rfl ⟨rfl, hkp, by rw [hm0]; exact p0⟩
  refine CF.skip ?_
  have hm : () = () := by
    rfl
  have hm0 : setM regs r x = regs := by
    first | (simp [setM, *]; done) | (unfold setM; rw [if_neg (by omega)]; done) | (unfold setM; rw [if_pos (by omega)]; done)
  exact PF.end0 rfl ⟨rfl, hkp, by rw [hm0]; exact p0⟩

-- jacquard/mach.Goes: function 30
theorem pGoes_ct {F : PH} {H : Heap} (hin : InH F H) {a0 : Value} {e : D.End} (p0 : rEnd.ra F a0 e) {a1 : Value} {regs : List Int} (p1 : (rL (rI .i32)).rv F a1 regs) :
    Ct Try.prog 30 #[a0, a1] H (fun v H' => v = .int .i64 (goesM e regs) ∧ Kp H.size H H') := by
  have p0k := rEnd.any p0
  obtain ⟨a0c3, rfl, p0c3⟩ := rEnd.open p0
  have p0c3q := rL.len2 p0c3
  have q1 := rL.len2 p1
  have hkp := Kp.refl H.size H
  have hx := PH.ext.refl (H := H) F
  refine Ct.enter (args := [.agg #[.int .i64 e.Op, .int .i64 e.A, .int .i64 e.B, a0c3, .int .i32 e.Imm], a1]) Try.func30 rfl rfl rfl (fun w0 hw0 => ?_)
  refine CF.seq (CF.region ?_)
  refine LF.chg (OpCh.boxB rfl rfl) ?_
  rintro _ H2 ⟨g2, rfl, eg2, sg2, kg2, hb2⟩
  have ng2 := hin.nope (Nat.le_of_eq eg2.symm)
  have lg2 := hkp.1
  have zkg2 := kg2.1
  replace hin := hin.kp kg2
  replace hkp := hkp.trans (kg2.mono hkp.1)
  clear kg2
  refine LF.step (OpOk.assign rfl) (LF.nil (PF.next (CF.seq ?_)))
  refine CF.any (fun H' => InH F H' ∧ Bx H' g2 55 [.int .i64 e.Op, .int .i64 e.A, .int .i64 e.B, a0c3, .int .i32 e.Imm] ∧ True) Try.mixed ?_
  refine AF.take 0 rfl (by kernel_rfl) (by kernel_rfl) (by kernel_rfl) ⟨hin, hb2, trivial⟩ (fun _ ⟨hin, hb2, _⟩ => OpOk.move rfl) ?_
  refine AF.take 1 rfl (by kernel_rfl) (by kernel_rfl) (by kernel_rfl) ⟨hin, hb2, trivial⟩ (fun _ ⟨hin, hb2, _⟩ => OpOk.fieldAddr (Try.fld55_1) rfl) ?_
  refine AF.take 2 rfl (by kernel_rfl) (by kernel_rfl) (by kernel_rfl) ⟨hin, hb2, trivial⟩ (fun _ ⟨hin, hb2, _⟩ => OpOk.ldBx hb2 Try.one3 rfl rfl) ?_
  refine AF.take 4 rfl (by kernel_rfl) (by kernel_rfl) (by kernel_rfl) ⟨hin, hb2, trivial⟩ (fun _ ⟨hin, hb2, _⟩ => OpOk.move rfl) ?_
  refine AF.take 5 rfl (by kernel_rfl) (by kernel_rfl) (by kernel_rfl) ⟨hin, hb2, trivial⟩ (fun _ ⟨hin, hb2, _⟩ => OpOk.fieldAddr (Try.fld55_2) rfl) ?_
  refine AF.take 6 rfl (by kernel_rfl) (by kernel_rfl) (by kernel_rfl) ⟨hin, hb2, trivial⟩ (fun _ ⟨hin, hb2, _⟩ => OpOk.ldBx hb2 Try.one3 rfl rfl) ?_
  refine AF.call 3 rfl (by kernel_rfl) (OpCall.fn Try.ent29 rfl rfl) (pGet_ct hin p1 e.A) (by rintro _ _ ⟨_, rfl⟩; exact ⟨hin, hb2, trivial⟩) ?_
  rintro _ _ ⟨rfl, rfl⟩
  refine AF.call 7 rfl (by kernel_rfl) (OpCall.fn Try.ent29 rfl rfl) (pGet_ct hin p1 e.B) (by rintro _ _ ⟨_, rfl⟩; exact ⟨hin, hb2, trivial⟩) ?_
  rintro _ _ ⟨rfl, rfl⟩
  refine AF.take 8 rfl (by kernel_rfl) (by kernel_rfl) (by kernel_rfl) ⟨hin, hb2, trivial⟩ (fun _ ⟨hin, hb2, _⟩ => OpOk.assign rfl) ?_
  refine AF.take 9 rfl (by kernel_rfl) (by kernel_rfl) (by kernel_rfl) ⟨hin, hb2, trivial⟩ (fun _ ⟨hin, hb2, _⟩ => OpOk.assign rfl) ?_
  refine AF.done (by kernel_rfl) ?_
  refine PF.next (CF.seq (CF.region (LF.step (OpOk.assign rfl) (LF.nil (PF.next (CF.seq (CF.seq (CF.region ?_))))))))
  refine LF.step (OpOk.fieldAddr (Try.fld55_0) rfl) ?_
  refine LF.step (OpOk.ldBx hb2 Try.one3 rfl rfl) ?_
  refine LF.nil (PF.next (CF.block (CF.seq (CF.region ?_))))
  refine LF.step (OpOk.eql rfl rfl) ?_
  refine LF.step (OpOk.assign rfl) (LF.nil (PF.next ?_))
  refine CF.if rfl (fun hc1 => ?_) (fun hc1 => ?_)
  refine CF.region (LF.step (OpOk.assign rfl) (LF.nil (PF.blockNormal (PF.next (CF.seq (CF.seq (CF.region (LF.step (OpOk.move rfl) (LF.nil (PF.next ?_))))))))))
  refine CF.if rfl (fun hc2 => ?_) (fun hc2 => ?_)
  refine CF.seq (CF.region (LF.step (OpOk.assign rfl) (LF.nil (PF.next (CF.ret (PF.thenRet ?_))))))
  have hm : goesM e regs = 0 := by
    first | (simp [goesM, *]; done) | (unfold goesM; (repeat' split) <;> first | rfl | (exfalso; omega) | simp_all)
  exact PF.ret1 rfl rfl ⟨by rw [hm] <;> rfl, hkp⟩
  exact absurd hc2 (by simp)
  refine CF.seq (CF.region ?_)
  refine LF.step (OpOk.eql rfl rfl) ?_
  refine LF.step (OpOk.assign rfl) (LF.nil (PF.next ?_))
  refine CF.if rfl (fun hc3 => ?_) (fun hc3 => ?_)
  refine CF.region (LF.step (OpOk.move rfl) ?_)
  refine LF.step (OpOk.neq rfl rfl) ?_
  refine LF.step (OpOk.assign rfl) (LF.nil (PF.blockNormal (PF.next (CF.seq (CF.seq (CF.region (LF.step (OpOk.move rfl) (LF.nil (PF.next ?_)))))))))
  refine CF.if rfl (fun hc4 => ?_) (fun hc4 => ?_)
  refine CF.seq (CF.region (LF.step (OpOk.assign rfl) (LF.nil (PF.next (CF.ret (PF.thenRet ?_))))))
  have hm : goesM e regs = 0 := by
    first | (simp [goesM, *]; done) | (unfold goesM; (repeat' split) <;> first | rfl | (exfalso; omega) | simp_all)
  exact PF.ret1 rfl rfl ⟨by rw [hm] <;> rfl, hkp⟩
  refine CF.skip (PF.next (CF.seq (CF.region (LF.step (OpOk.assign rfl) (LF.nil (PF.next (CF.ret ?_)))))))
  have hm : goesM e regs = 1 := by
    first | (simp [goesM, *]; done) | (unfold goesM; (repeat' split) <;> first | rfl | (exfalso; omega) | simp_all)
  exact PF.ret1 rfl rfl ⟨by rw [hm] <;> rfl, hkp⟩
  refine CF.seq (CF.region ?_)
  refine LF.step (OpOk.eql rfl rfl) ?_
  refine LF.step (OpOk.assign rfl) (LF.nil (PF.next ?_))
  refine CF.if rfl (fun hc5 => ?_) (fun hc5 => ?_)
  refine CF.region (LF.step (OpOk.move rfl) (LF.step (OpOk.move rfl) ?_))
  refine LF.step (OpOk.eql rfl rfl) ?_
  refine LF.step (OpOk.assign rfl) (LF.nil (PF.blockNormal (PF.next (CF.seq (CF.seq (CF.region (LF.step (OpOk.move rfl) (LF.nil (PF.next ?_)))))))))
  refine CF.if rfl (fun hc6 => ?_) (fun hc6 => ?_)
  refine CF.seq (CF.region (LF.step (OpOk.assign rfl) (LF.nil (PF.next (CF.ret (PF.thenRet ?_))))))
  have hm : goesM e regs = 0 := by
    first | (simp [goesM, *]; done) | (unfold goesM; (repeat' split) <;> first | rfl | (exfalso; omega) | simp_all)
  exact PF.ret1 rfl rfl ⟨by rw [hm] <;> rfl, hkp⟩
  refine CF.skip (PF.next (CF.seq (CF.region (LF.step (OpOk.assign rfl) (LF.nil (PF.next (CF.ret ?_)))))))
  have hm : goesM e regs = 1 := by
    first | (simp [goesM, *]; done) | (unfold goesM; (repeat' split) <;> first | rfl | (exfalso; omega) | simp_all)
  exact PF.ret1 rfl rfl ⟨by rw [hm] <;> rfl, hkp⟩
  refine CF.seq (CF.region ?_)
  refine LF.step (OpOk.eql rfl rfl) ?_
  refine LF.step (OpOk.assign rfl) (LF.nil (PF.next ?_))
  refine CF.if rfl (fun hc7 => ?_) (fun hc7 => ?_)
  refine CF.region (LF.step (OpOk.move rfl) (LF.step (OpOk.move rfl) ?_))
  refine LF.step (OpOk.lss rfl rfl) ?_
  refine LF.step (OpOk.assign rfl) (LF.nil (PF.blockNormal (PF.next (CF.seq (CF.seq (CF.region (LF.step (OpOk.move rfl) (LF.nil (PF.next ?_)))))))))
  refine CF.if rfl (fun hc8 => ?_) (fun hc8 => ?_)
  refine CF.seq (CF.region (LF.step (OpOk.assign rfl) (LF.nil (PF.next (CF.ret (PF.thenRet ?_))))))
  have hm : goesM e regs = 0 := by
    first | (simp [goesM, *]; done) | (unfold goesM; (repeat' split) <;> first | rfl | (exfalso; omega) | simp_all)
  exact PF.ret1 rfl rfl ⟨by rw [hm] <;> rfl, hkp⟩
  refine CF.skip (PF.next (CF.seq (CF.region (LF.step (OpOk.assign rfl) (LF.nil (PF.next (CF.ret ?_)))))))
  have hm : goesM e regs = 1 := by
    first | (simp [goesM, *]; done) | (unfold goesM; (repeat' split) <;> first | rfl | (exfalso; omega) | simp_all)
  exact PF.ret1 rfl rfl ⟨by rw [hm] <;> rfl, hkp⟩
  refine CF.seq (CF.region ?_)
  refine LF.step (OpOk.eql rfl rfl) ?_
  refine LF.step (OpOk.assign rfl) (LF.nil (PF.next ?_))
  refine CF.if rfl (fun hc9 => ?_) (fun hc9 => ?_)
  refine CF.region (LF.step (OpOk.move rfl) ?_)
  refine LF.step (OpOk.convI Try.underlying21 Try.underlying66 rfl rfl) ?_
  refine LF.step (OpOk.move rfl) ?_
  refine LF.step (OpOk.convI Try.underlying21 Try.underlying66 rfl rfl) ?_
  refine LF.step (OpOk.lss rfl rfl) ?_
  refine LF.step (OpOk.assign rfl) (LF.nil (PF.blockNormal (PF.next (CF.seq (CF.seq (CF.region (LF.step (OpOk.move rfl) (LF.nil (PF.next ?_)))))))))
  refine CF.if rfl (fun hc10 => ?_) (fun hc10 => ?_)
  refine CF.seq (CF.region (LF.step (OpOk.assign rfl) (LF.nil (PF.next (CF.ret (PF.thenRet ?_))))))
  have hm : goesM e regs = 0 := by
    first | (simp [goesM, *]; done) | (unfold goesM; (repeat' split) <;> first | rfl | (exfalso; omega) | simp_all)
  exact PF.ret1 rfl rfl ⟨by rw [hm] <;> rfl, hkp⟩
  refine CF.skip (PF.next (CF.seq (CF.region (LF.step (OpOk.assign rfl) (LF.nil (PF.next (CF.ret ?_)))))))
  have hm : goesM e regs = 1 := by
    first | (simp [goesM, *]; done) | (unfold goesM; (repeat' split) <;> first | rfl | (exfalso; omega) | simp_all)
  exact PF.ret1 rfl rfl ⟨by rw [hm] <;> rfl, hkp⟩
  refine CF.seq (CF.region ?_)
  refine LF.step (OpOk.eql rfl rfl) ?_
  refine LF.step (OpOk.assign rfl) (LF.nil (PF.next ?_))
  refine CF.if rfl (fun hc11 => ?_) (fun hc11 => ?_)
  refine CF.seq (CF.region ?_)
  refine LF.step (OpOk.fieldAddr (Try.fld55_3) rfl) ?_
  refine LF.step (OpOk.ldBx hb2 Try.one38 rfl rfl) ?_
  refine LF.step (OpOk.lenL Try.underlying38 p0c3 rfl) ?_
  refine LF.step (OpOk.sub rfl rfl (by omega)) ?_
  refine LF.step (OpOk.assign rfl) (LF.nil (PF.next (CF.seq (CF.seq (CF.region (LF.step (OpOk.move rfl) ?_))))))
  refine LF.step (OpOk.convI Try.underlying21 Try.underlying66 rfl rfl) ?_
  refine LF.step (OpOk.convI Try.underlying66 Try.underlying2 rfl (up_u32_i64 (wrap_wrap _ _))) ?_
  refine LF.step (OpOk.assign rfl) (LF.nil (PF.next (CF.seq (CF.region (LF.step (OpOk.move rfl) (LF.step (OpOk.move rfl) ?_))))))
  refine LF.step (OpOk.lss rfl rfl) ?_
  refine LF.nil (PF.next ?_)
  refine CF.if rfl (fun hc12 => ?_) (fun hc12 => ?_)
  refine CF.seq (CF.region (LF.step (OpOk.move rfl) (LF.step (OpOk.assign rfl) (LF.nil (PF.next (CF.ret (PF.thenRet (PF.blockRet (PF.thenRet ?_)))))))))
  have hm : goesM e regs = (IntKind.u32.wrap (getM regs e.A)) := by
    first | (simp [goesM, *]; done) | (unfold goesM; (repeat' split) <;> first | rfl | (exfalso; omega) | simp_all)
  exact PF.ret1 rfl rfl ⟨by rw [hm] <;> rfl, hkp⟩
  refine CF.skip (PF.next (CF.seq (CF.region (LF.step (OpOk.move rfl) (LF.step (OpOk.assign rfl) (LF.nil (PF.next (CF.ret (PF.blockRet (PF.thenRet ?_))))))))))
  have hm : goesM e regs = ((((List.length e.To : Nat) : Int)) - 1) := by
    first | (simp [goesM, *]; done) | (unfold goesM; (repeat' split) <;> first | rfl | (exfalso; omega) | simp_all)
  exact PF.ret1 rfl rfl ⟨by rw [hm] <;> rfl, hkp⟩
  refine CF.seq (CF.region (LF.step (OpOk.assign rfl) (LF.nil (PF.next (CF.ret (PF.blockRet (PF.thenRet ?_)))))))
  have hm : goesM e regs = (-1) := by
    first | (simp [goesM, *]; done) | (unfold goesM; (repeat' split) <;> first | rfl | (exfalso; omega) | simp_all)
  exact PF.ret1 rfl rfl ⟨by rw [hm] <;> rfl, hkp⟩

-- jacquard/jacquardref07.Goes: function 37
theorem rGoes_ct {F : PH} {H : Heap} (hin : InH F H) {a0 : Value} {e : D.End} (p0 : rEnd.ra F a0 e) {a1 : Value} {regs : List Int} (p1 : (rL (rI .i32)).rv F a1 regs) :
    Ct Try.prog 37 #[a0, a1] H (fun v H' => v = .int .i64 (goesM e regs) ∧ Kp H.size H H') := by
  have p0k := rEnd.any p0
  obtain ⟨a0c3, rfl, p0c3⟩ := rEnd.open p0
  have p0c3q := rL.len2 p0c3
  have q1 := rL.len2 p1
  have hkp := Kp.refl H.size H
  have hx := PH.ext.refl (H := H) F
  refine Ct.enter (args := [.agg #[.int .i64 e.Op, .int .i64 e.A, .int .i64 e.B, a0c3, .int .i32 e.Imm], a1]) Try.func37 rfl rfl rfl (fun w0 hw0 => ?_)
  refine CF.seq (CF.region ?_)
  refine LF.chg (OpCh.boxB rfl rfl) ?_
  rintro _ H2 ⟨g2, rfl, eg2, sg2, kg2, hb2⟩
  have ng2 := hin.nope (Nat.le_of_eq eg2.symm)
  have lg2 := hkp.1
  have zkg2 := kg2.1
  replace hin := hin.kp kg2
  replace hkp := hkp.trans (kg2.mono hkp.1)
  clear kg2
  refine LF.step (OpOk.assign rfl) (LF.nil (PF.next (CF.seq (CF.region (LF.step (OpOk.move rfl) ?_)))))
  refine LF.step (OpOk.fieldAddr (Try.fld55_1) rfl) ?_
  refine LF.step (OpOk.ldBx hb2 Try.one3 rfl rfl) ?_
  refine LF.call (OpCall.fn Try.ent36 rfl rfl) (rGet_ct hin p1 e.A) ?_
  rintro _ _ ⟨rfl, rfl⟩
  refine LF.step (OpOk.assign rfl) (LF.nil (PF.next (CF.seq (CF.region (LF.step (OpOk.move rfl) ?_)))))
  refine LF.step (OpOk.fieldAddr (Try.fld55_2) rfl) ?_
  refine LF.step (OpOk.ldBx hb2 Try.one3 rfl rfl) ?_
  refine LF.call (OpCall.fn Try.ent36 rfl rfl) (rGet_ct hin p1 e.B) ?_
  rintro _ _ ⟨rfl, rfl⟩
  refine LF.step (OpOk.assign rfl) (LF.nil (PF.next (CF.seq (CF.region (LF.step (OpOk.assign rfl) (LF.nil (PF.next (CF.seq (CF.seq (CF.region ?_))))))))))
  refine LF.step (OpOk.fieldAddr (Try.fld55_0) rfl) ?_
  refine LF.step (OpOk.ldBx hb2 Try.one3 rfl rfl) ?_
  refine LF.nil (PF.next (CF.block (CF.seq (CF.region ?_))))
  refine LF.step (OpOk.eql rfl rfl) ?_
  refine LF.step (OpOk.assign rfl) (LF.nil (PF.next ?_))
  refine CF.if rfl (fun hc1 => ?_) (fun hc1 => ?_)
  refine CF.seq (CF.region (LF.step (OpOk.assign rfl) (LF.nil (PF.next (CF.ret (PF.blockRet (PF.thenRet ?_)))))))
  have hm : goesM e regs = 0 := by
    first | (simp [goesM, *]; done) | (unfold goesM; (repeat' split) <;> first | rfl | (exfalso; omega) | simp_all)
  exact PF.ret1 rfl rfl ⟨by rw [hm] <;> rfl, hkp⟩
  refine CF.seq (CF.region ?_)
  refine LF.step (OpOk.eql rfl rfl) ?_
  refine LF.step (OpOk.assign rfl) (LF.nil (PF.next ?_))
  refine CF.if rfl (fun hc2 => ?_) (fun hc2 => ?_)
  refine CF.region (LF.step (OpOk.move rfl) ?_)
  refine LF.step (OpOk.neq rfl rfl) ?_
  refine LF.step (OpOk.assign rfl) (LF.nil (PF.blockNormal (PF.next (CF.seq (CF.seq (CF.region (LF.step (OpOk.move rfl) (LF.nil (PF.next ?_)))))))))
  refine CF.if rfl (fun hc3 => ?_) (fun hc3 => ?_)
  refine CF.seq (CF.region (LF.step (OpOk.assign rfl) (LF.nil (PF.next (CF.ret (PF.thenRet ?_))))))
  have hm : goesM e regs = 0 := by
    first | (simp [goesM, *]; done) | (unfold goesM; (repeat' split) <;> first | rfl | (exfalso; omega) | simp_all)
  exact PF.ret1 rfl rfl ⟨by rw [hm] <;> rfl, hkp⟩
  refine CF.skip (PF.next (CF.seq (CF.region (LF.step (OpOk.assign rfl) (LF.nil (PF.next (CF.ret ?_)))))))
  have hm : goesM e regs = 1 := by
    first | (simp [goesM, *]; done) | (unfold goesM; (repeat' split) <;> first | rfl | (exfalso; omega) | simp_all)
  exact PF.ret1 rfl rfl ⟨by rw [hm] <;> rfl, hkp⟩
  refine CF.seq (CF.region ?_)
  refine LF.step (OpOk.eql rfl rfl) ?_
  refine LF.step (OpOk.assign rfl) (LF.nil (PF.next ?_))
  refine CF.if rfl (fun hc4 => ?_) (fun hc4 => ?_)
  refine CF.region (LF.step (OpOk.move rfl) (LF.step (OpOk.move rfl) ?_))
  refine LF.step (OpOk.eql rfl rfl) ?_
  refine LF.step (OpOk.assign rfl) (LF.nil (PF.blockNormal (PF.next (CF.seq (CF.seq (CF.region (LF.step (OpOk.move rfl) (LF.nil (PF.next ?_)))))))))
  refine CF.if rfl (fun hc5 => ?_) (fun hc5 => ?_)
  refine CF.seq (CF.region (LF.step (OpOk.assign rfl) (LF.nil (PF.next (CF.ret (PF.thenRet ?_))))))
  have hm : goesM e regs = 0 := by
    first | (simp [goesM, *]; done) | (unfold goesM; (repeat' split) <;> first | rfl | (exfalso; omega) | simp_all)
  exact PF.ret1 rfl rfl ⟨by rw [hm] <;> rfl, hkp⟩
  refine CF.skip (PF.next (CF.seq (CF.region (LF.step (OpOk.assign rfl) (LF.nil (PF.next (CF.ret ?_)))))))
  have hm : goesM e regs = 1 := by
    first | (simp [goesM, *]; done) | (unfold goesM; (repeat' split) <;> first | rfl | (exfalso; omega) | simp_all)
  exact PF.ret1 rfl rfl ⟨by rw [hm] <;> rfl, hkp⟩
  refine CF.seq (CF.region ?_)
  refine LF.step (OpOk.eql rfl rfl) ?_
  refine LF.step (OpOk.assign rfl) (LF.nil (PF.next ?_))
  refine CF.if rfl (fun hc6 => ?_) (fun hc6 => ?_)
  refine CF.region (LF.step (OpOk.move rfl) (LF.step (OpOk.move rfl) ?_))
  refine LF.step (OpOk.lss rfl rfl) ?_
  refine LF.step (OpOk.assign rfl) (LF.nil (PF.blockNormal (PF.next (CF.seq (CF.seq (CF.region (LF.step (OpOk.move rfl) (LF.nil (PF.next ?_)))))))))
  refine CF.if rfl (fun hc7 => ?_) (fun hc7 => ?_)
  refine CF.seq (CF.region (LF.step (OpOk.assign rfl) (LF.nil (PF.next (CF.ret (PF.thenRet ?_))))))
  have hm : goesM e regs = 0 := by
    first | (simp [goesM, *]; done) | (unfold goesM; (repeat' split) <;> first | rfl | (exfalso; omega) | simp_all)
  exact PF.ret1 rfl rfl ⟨by rw [hm] <;> rfl, hkp⟩
  refine CF.skip (PF.next (CF.seq (CF.region (LF.step (OpOk.assign rfl) (LF.nil (PF.next (CF.ret ?_)))))))
  have hm : goesM e regs = 1 := by
    first | (simp [goesM, *]; done) | (unfold goesM; (repeat' split) <;> first | rfl | (exfalso; omega) | simp_all)
  exact PF.ret1 rfl rfl ⟨by rw [hm] <;> rfl, hkp⟩
  refine CF.seq (CF.region ?_)
  refine LF.step (OpOk.eql rfl rfl) ?_
  refine LF.step (OpOk.assign rfl) (LF.nil (PF.next ?_))
  refine CF.if rfl (fun hc8 => ?_) (fun hc8 => ?_)
  refine CF.region (LF.step (OpOk.move rfl) ?_)
  refine LF.step (OpOk.convI Try.underlying21 Try.underlying66 rfl rfl) ?_
  refine LF.step (OpOk.move rfl) ?_
  refine LF.step (OpOk.convI Try.underlying21 Try.underlying66 rfl rfl) ?_
  refine LF.step (OpOk.lss rfl rfl) ?_
  refine LF.step (OpOk.assign rfl) (LF.nil (PF.blockNormal (PF.next (CF.seq (CF.seq (CF.region (LF.step (OpOk.move rfl) (LF.nil (PF.next ?_)))))))))
  refine CF.if rfl (fun hc9 => ?_) (fun hc9 => ?_)
  refine CF.seq (CF.region (LF.step (OpOk.assign rfl) (LF.nil (PF.next (CF.ret (PF.thenRet ?_))))))
  have hm : goesM e regs = 0 := by
    first | (simp [goesM, *]; done) | (unfold goesM; (repeat' split) <;> first | rfl | (exfalso; omega) | simp_all)
  exact PF.ret1 rfl rfl ⟨by rw [hm] <;> rfl, hkp⟩
  refine CF.skip (PF.next (CF.seq (CF.region (LF.step (OpOk.assign rfl) (LF.nil (PF.next (CF.ret ?_)))))))
  have hm : goesM e regs = 1 := by
    first | (simp [goesM, *]; done) | (unfold goesM; (repeat' split) <;> first | rfl | (exfalso; omega) | simp_all)
  exact PF.ret1 rfl rfl ⟨by rw [hm] <;> rfl, hkp⟩
  refine CF.seq (CF.region ?_)
  refine LF.step (OpOk.eql rfl rfl) ?_
  refine LF.step (OpOk.assign rfl) (LF.nil (PF.next ?_))
  refine CF.if rfl (fun hc10 => ?_) (fun hc10 => ?_)
  refine CF.seq (CF.region ?_)
  refine LF.step (OpOk.fieldAddr (Try.fld55_3) rfl) ?_
  refine LF.step (OpOk.ldBx hb2 Try.one38 rfl rfl) ?_
  refine LF.step (OpOk.lenL Try.underlying38 p0c3 rfl) ?_
  refine LF.step (OpOk.sub rfl rfl (by omega)) ?_
  refine LF.step (OpOk.assign rfl) (LF.nil (PF.next (CF.seq (CF.seq (CF.region (LF.step (OpOk.move rfl) ?_))))))
  refine LF.step (OpOk.convI Try.underlying21 Try.underlying66 rfl rfl) ?_
  refine LF.step (OpOk.convI Try.underlying66 Try.underlying2 rfl (up_u32_i64 (wrap_wrap _ _))) ?_
  refine LF.step (OpOk.move rfl) ?_
  refine LF.step (OpOk.lss rfl rfl) ?_
  refine LF.nil (PF.next ?_)
  refine CF.if rfl (fun hc11 => ?_) (fun hc11 => ?_)
  refine CF.seq (CF.region (LF.step (OpOk.move rfl) ?_))
  refine LF.step (OpOk.convI Try.underlying21 Try.underlying66 rfl rfl) ?_
  refine LF.step (OpOk.convI Try.underlying66 Try.underlying3 rfl (up_u32_i64 (wrap_wrap _ _))) ?_
  refine LF.step (OpOk.assign rfl) (LF.nil (PF.next (CF.ret (PF.thenRet (PF.blockRet (PF.thenRet ?_))))))
  have hm : goesM e regs = (IntKind.u32.wrap (getM regs e.A)) := by
    first | (simp [goesM, *]; done) | (unfold goesM; (repeat' split) <;> first | rfl | (exfalso; omega) | simp_all)
  exact PF.ret1 rfl rfl ⟨by rw [hm] <;> rfl, hkp⟩
  refine CF.skip (PF.next (CF.seq (CF.region (LF.step (OpOk.move rfl) (LF.step (OpOk.assign rfl) (LF.nil (PF.next (CF.ret (PF.blockRet (PF.thenRet ?_))))))))))
  have hm : goesM e regs = ((((List.length e.To : Nat) : Int)) - 1) := by
    first | (simp [goesM, *]; done) | (unfold goesM; (repeat' split) <;> first | rfl | (exfalso; omega) | simp_all)
  exact PF.ret1 rfl rfl ⟨by rw [hm] <;> rfl, hkp⟩
  refine CF.seq (CF.region (LF.step (OpOk.assign rfl) (LF.nil (PF.next (CF.ret (PF.blockRet (PF.thenRet ?_)))))))
  have hm : goesM e regs = (-1) := by
    first | (simp [goesM, *]; done) | (unfold goesM; (repeat' split) <;> first | rfl | (exfalso; omega) | simp_all)
  exact PF.ret1 rfl rfl ⟨by rw [hm] <;> rfl, hkp⟩

-- slices.Clone[[]int32,int32]: function 60
theorem clone32_ct {F : PH} {H : Heap} (hin : InH F H) {a0 : Value} {l : List Int} (p0 : (rL (rI .i32)).rv F a0 l) :
    Ct Try.prog 60 #[a0] H (fun v H' => Gl (rI .i32) 21 F H' H.size v (id l) ∧ Kp H.size H H') := by
  have q0 := rL.len2 p0
  have hkp := Kp.refl H.size H
  have hx := PH.ext.refl (H := H) F
  refine Ct.enter (args := [a0]) Try.func60 rfl rfl rfl (fun w0 hw0 => ?_)
  refine CF.seq (CF.region (LF.step (OpOk.assign rfl) (LF.nil (PF.next (CF.seq (CF.seq (CF.region (LF.step (OpOk.move rfl) ?_))))))))
  refine LF.stepE (OpOk.eqlNilS Try.underlying25 p0 (by decide) rfl rfl) ?_
  rintro _ ⟨b4, rfl, hnil4⟩
  refine LF.nil (PF.next ?_)
  refine CF.if rfl (fun hc1 => ?_) (fun hc1 => ?_)
  refine CF.seq (CF.region (LF.step (OpOk.assign rfl) (LF.nil (PF.next (CF.ret (PF.thenRet ?_))))))
  have hm : id l = ([]) := by
    first | rfl | (rw [hnil4 hc1]; rfl) | simp
  exact PF.ret1 rfl rfl ⟨by rw [hm]; exact Gl.nil _ _ _, hkp⟩
  refine CF.skip (PF.next (CF.seq (CF.region ?_)))
  refine LF.chg (OpCh.litL (F := F) (r := (rI .i32)) (l := []) (us := []) (cs := []) Try.underlying25 Try.info21 (by decide) rfl rfl rfl trivial) ?_
  rintro _ H5 ⟨g5, rfl, e5, s5, k5, x5⟩
  have l5 := hkp.1
  replace x5 := (x5 hin).base l5
  have zk5 := k5.1
  replace hin := hin.kp k5
  replace hkp := hkp.trans (k5.mono hkp.1)
  refine LF.step (OpOk.move rfl) ?_
  refine LF.chg (OpCh.appL (r := (rI .i32)) Try.underlying25 Try.info21 (by decide) rfl rfl rfl x5 p0 hin (by first | (simp only [List.length_append, List.length_take, List.length_drop, List.length_nil, List.length_cons, List.length_set, List.length_replicate]; omega) | (simp; done) | (simp; omega) | omega) (by omega)) ?_
  rintro v7 H7 ⟨x7, gb7, ob7⟩
  replace hin := hin.grown gb7 x5.no
  replace hkp := gb7.kp hkp (Nat.le_refl _) (fun k0 hk0 => (x5.blk k0 hk0).1)
  rw [List.nil_append] at x7
  refine LF.step (OpOk.assign rfl) (LF.nil (PF.next (CF.ret ?_)))
  have hm : id l = l := by
    first | rfl | (rw [hnil4 hc1]; rfl) | simp
  exact PF.ret1 rfl rfl ⟨by rw [hm]; exact x7, hkp⟩

-- jacquard/jacquardref04.Memory: function 34
theorem rMem_ct {F : PH} {H : Heap} (hin : InH F H) {a0 : Value} {i : D.Input} (p0 : rInput.ra F a0 i) :
    Ct Try.prog 34 #[a0] H (fun v H' => Gl (rI .i32) 21 F H' H.size v (memM i) ∧ Kp H.size H H') := by
  have p0k := rInput.any p0
  obtain ⟨a0c0, a0c1, a0c2, rfl, p0c0, p0c1, p0c2⟩ := rInput.open p0
  have p0c0q := rL.len2 p0c0
  have p0c1q := rL.len2 p0c1
  have p0c2q := rL.len2 p0c2
  have hkp := Kp.refl H.size H
  have hx := PH.ext.refl (H := H) F
  refine Ct.enter (args := [.agg #[a0c0, a0c1, a0c2, .int .i64 i.Steps]]) Try.func34 rfl rfl rfl (fun w0 hw0 => ?_)
  refine CF.seq (CF.region ?_)
  refine LF.chg (OpCh.boxB rfl rfl) ?_
  rintro _ H1 ⟨g1, rfl, eg1, sg1, kg1, hb1⟩
  have ng1 := hin.nope (Nat.le_of_eq eg1.symm)
  have lg1 := hkp.1
  have zkg1 := kg1.1
  replace hin := hin.kp kg1
  replace hkp := hkp.trans (kg1.mono hkp.1)
  clear kg1
  refine LF.step (OpOk.assign rfl) (LF.nil (PF.next (CF.seq (CF.region ?_))))
  refine LF.chg (OpCh.litL (F := F) (r := (rI .i32)) (l := []) (us := []) (cs := []) Try.underlying25 Try.info21 (by decide) rfl rfl rfl trivial) ?_
  rintro _ H3 ⟨g3, rfl, e3, s3, k3, x3⟩
  have l3 := hkp.1
  replace x3 := (x3 hin).base l3
  have zk3 := k3.1
  replace hin := hin.kp k3
  replace hkp := hkp.trans (k3.mono hkp.1)
  replace hb1 := hb1.kp k3
  refine LF.step (OpOk.fieldAddr (Try.fld27_1) rfl) ?_
  refine LF.step (OpOk.ldBx hb1 Try.one25 rfl rfl) ?_
  refine LF.step (OpOk.fieldAddr (Try.fld27_1) rfl) ?_
  refine LF.step (OpOk.ldBx hb1 Try.one25 rfl rfl) ?_
  refine LF.step (OpOk.lenL Try.underlying25 p0c1 rfl) ?_
  refine LF.step (OpOk.min3 rfl rfl) ?_
  refine LF.step (OpOk.sliceHiL (hi := (Int.toNat (min (↑(List.length i.Mem)) 4096))) Try.underlying25 Try.sz21 p0c1 hin rfl rfl (by omega) (by omega)) ?_
  refine LF.chg (OpCh.appL (r := (rI .i32)) Try.underlying25 Try.info21 (by decide) rfl rfl rfl x3 (rL.hi p0c1 (Int.toNat (min (↑(List.length i.Mem)) 4096)) (by omega) (by omega)) hin (by first | (simp only [List.length_append, List.length_take, List.length_drop, List.length_nil, List.length_cons, List.length_set, List.length_replicate]; omega) | (simp; done) | (simp; omega) | omega) (by omega)) ?_
  rintro v11 H11 ⟨x11, gb11, ob11⟩
  replace hin := hin.grown gb11 x3.no
  replace hkp := gb11.kp hkp (Nat.le_refl _) (fun k0 hk0 => (x3.blk k0 hk0).1)
  replace hb1 := hb1.of (gb11.2 _ hb1.lt (Ne.symm (by first | exact x3.neBx hb1 (by decide) | exact nq3_1)))
  rw [List.nil_append] at x11
  refine LF.step (OpOk.assign rfl) (LF.nil (PF.next (CF.ret ?_)))
  have hm : memM i = (List.take (Int.toNat (min (((List.length i.Mem : Nat) : Int)) 4096)) i.Mem) := by
    exact take_min _ 4096 _ rfl
  exact PF.ret1 rfl rfl ⟨by rw [hm]; exact x11, hkp⟩

-- jacquard/interp.Memory: function 26
theorem pMem_ct {F : PH} {H : Heap} (hin : InH F H) {a0 : Value} {i : D.Input} (p0 : rInput.ra F a0 i) :
    Ct Try.prog 26 #[a0] H (fun v H' => Gl (rI .i32) 21 F H' H.size v (memM i) ∧ Kp H.size H H') := by
  have p0k := rInput.any p0
  obtain ⟨a0c0, a0c1, a0c2, rfl, p0c0, p0c1, p0c2⟩ := rInput.open p0
  have p0c0q := rL.len2 p0c0
  have p0c1q := rL.len2 p0c1
  have p0c2q := rL.len2 p0c2
  have hkp := Kp.refl H.size H
  have hx := PH.ext.refl (H := H) F
  refine Ct.enter (args := [.agg #[a0c0, a0c1, a0c2, .int .i64 i.Steps]]) Try.func26 rfl rfl rfl (fun w0 hw0 => ?_)
  refine CF.seq (CF.region ?_)
  refine LF.chg (OpCh.boxB rfl rfl) ?_
  rintro _ H1 ⟨g1, rfl, eg1, sg1, kg1, hb1⟩
  have ng1 := hin.nope (Nat.le_of_eq eg1.symm)
  have lg1 := hkp.1
  have zkg1 := kg1.1
  replace hin := hin.kp kg1
  replace hkp := hkp.trans (kg1.mono hkp.1)
  clear kg1
  refine LF.step (OpOk.assign rfl) (LF.nil (PF.next (CF.seq (CF.region ?_))))
  refine LF.step (OpOk.fieldAddr (Try.fld27_1) rfl) ?_
  refine LF.step (OpOk.ldBx hb1 Try.one25 rfl rfl) ?_
  refine LF.step (OpOk.fieldAddr (Try.fld27_1) rfl) ?_
  refine LF.step (OpOk.ldBx hb1 Try.one25 rfl rfl) ?_
  refine LF.step (OpOk.lenL Try.underlying25 p0c1 rfl) ?_
  refine LF.step (OpOk.min3 rfl rfl) ?_
  refine LF.step (OpOk.sliceHiL (hi := (Int.toNat (min (↑(List.length i.Mem)) 4096))) Try.underlying25 Try.sz21 p0c1 hin rfl rfl (by omega) (by omega)) ?_
  refine LF.call (OpCall.fn Try.ent60 rfl rfl) (clone32_ct hin (rL.hi p0c1 (Int.toNat (min (↑(List.length i.Mem)) 4096)) (by omega) (by omega))) ?_
  rintro v10 H10 ⟨x10, k10⟩
  replace x10 := x10.base hkp.1
  have zk10 := k10.1
  replace hin := hin.kp k10
  replace hkp := hkp.trans (k10.mono hkp.1)
  replace hb1 := hb1.kp k10
  refine LF.step (OpOk.assign rfl) (LF.nil (PF.next (CF.ret ?_)))
  have hm : memM i = (id (List.take (Int.toNat (min (((List.length i.Mem : Nat) : Int)) 4096)) i.Mem)) := by
    exact take_min _ 4096 _ rfl
  exact PF.ret1 rfl rfl ⟨by rw [hm]; exact x10, hkp⟩

-- jacquard/jacquardref04.Words: function 20
theorem words_ct {F : PH} {H : Heap} (hin : InH F H) {a0 : Value} {a : List Int} (p0 : (rL (rI .i32)).rv F a0 a) {a1 : Value} {b : List Int} (p1 : (rL (rI .i32)).rv F a1 b) :
    Ct Try.prog 20 #[a0, a1] H (fun v H' => v = .bool (rowsM a b) ∧ H' = H) := by
  have q0 := rL.len2 p0
  have q1 := rL.len2 p1
  have hkp := Kp.refl H.size H
  have hx := PH.ext.refl (H := H) F
  refine Ct.enter (args := [a0, a1]) Try.func20 rfl rfl rfl (fun w0 hw0 => ?_)
  refine CF.seq (CF.region (LF.step (OpOk.assign rfl) (LF.nil (PF.next (CF.seq (CF.seq (CF.region (LF.step (OpOk.move rfl) ?_))))))))
  refine LF.step (OpOk.lenL Try.underlying25 p0 rfl) ?_
  refine LF.step (OpOk.move rfl) ?_
  refine LF.step (OpOk.lenL Try.underlying25 p1 rfl) ?_
  refine LF.step (OpOk.neq rfl rfl) ?_
  refine LF.nil (PF.next ?_)
  refine CF.if rfl (fun hc1 => ?_) (fun hc1 => ?_)
  refine CF.seq (CF.region (LF.step (OpOk.assign rfl) (LF.nil (PF.next (CF.ret (PF.thenRet ?_))))))
  exact PF.ret1 rfl rfl ⟨by rw [rowsM_len (by omega)], rfl⟩
  refine CF.skip (PF.next (CF.seq (CF.seq (CF.region (LF.step (OpOk.assign rfl) (LF.nil (PF.next (CF.block ?_))))))))
  refine CF.loop (ι := Nat) (fun k H1 => k ≤ a.length ∧ a.take k = b.take k ∧ H1 = H) (fun k => [(0, a0), (1, a1), (5, .int .i64 (↑k))]) (fun k => a.length - k) 0 ⟨by omega, rfl, rfl⟩ ⟨rfl, rfl, eqI (by omega), trivial⟩ ?_
  rintro k H1 ⟨hk, hR, rfl⟩
  refine CF.seq (CF.seq (CF.region (LF.step (OpOk.move rfl) (LF.step (OpOk.move rfl) ?_))))
  refine LF.step (OpOk.lenL Try.underlying25 p0 rfl) ?_
  refine LF.step (OpOk.lss rfl rfl) ?_
  refine LF.nil (PF.next ?_)
  refine CF.if rfl (fun hc2 => ?_) (fun hc2 => ?_)
  refine CF.skip (PF.next (CF.seq (CF.block (CF.seq ?_))))
  refine CF.still Try.mixed (by kernel_rfl) ?_
  refine LS.step (OpOk.move rfl) (LS.step (OpOk.move rfl) ?_)
  refine LS.step (OpOk.idxL (i := k) Try.underlying25 Try.sz21 p0 rfl rfl rfl (by omega)) ?_
  refine LS.step (OpOk.ldI hin (rL.ix p0 k (by omega)) Try.one21 rfl) ?_
  refine LS.step (OpOk.move rfl) (LS.step (OpOk.move rfl) ?_)
  refine LS.step (OpOk.idxL (i := k) Try.underlying25 Try.sz21 p1 rfl rfl rfl (by omega)) ?_
  refine LS.step (OpOk.ldI hin (rL.ix p1 k (by omega)) Try.one21 rfl) ?_
  refine LS.step (OpOk.neq rfl rfl) ?_
  refine LS.done ?_
  refine PF.next ?_
  refine CF.if rfl (fun hc3 => ?_) (fun hc3 => ?_)
  refine CF.seq (CF.region (LF.step (OpOk.assign rfl) (LF.nil (PF.next (CF.ret (PF.blockRet (PF.thenRet (PF.thenRet (PF.blockRet (PF.thenRet ?_))))))))))
  exact PF.ret1 rfl rfl ⟨by rw [rowsM_at (k := k) (by omega) (by omega) hc3], rfl⟩
  refine CF.skip (PF.blockNormal (PF.next (CF.region (LF.step (OpOk.move rfl) ?_))))
  refine LF.step (OpOk.add rfl rfl (by omega)) ?_
  refine LF.step (OpOk.assign rfl) (LF.nil ?_)
  exact PF.again (k + 1) ⟨by omega, by rw [take_ix (by omega), take_ix (by omega), hR, hc3], rfl⟩ ⟨rfl, rfl, eqI (by omega), trivial⟩ (by omega)
  refine CF.exit (PF.thenExit (PF.thenExit (PF.blockHere (PF.next (CF.seq (CF.region (LF.step (OpOk.assign rfl) (LF.nil (PF.next (CF.ret ?_))))))))))
  exact PF.ret1 rfl rfl ⟨by rw [rowsM_yes (k := k) (by omega) (by omega) hR], rfl⟩


end Go.Proofs.Ytehibklogdngbaa
