/- Walks. Conditions: each contract names its own. -/
import Derived.Test.YtehibklogdngbaaW2
namespace Go.Proofs.Ytehibklogdngbaa
set_option linter.unusedVariables false
set_option linter.unusedSimpArgs false
set_option linter.unusedSectionVars false
open Go.JE

theorem Try.agg84 : ∃ d, Try.prog.underlying 84 = some d ∧ (match d with | .struct _ | .array _ _ => true | _ => false) = true := ⟨_, Try.underlying84, rfl⟩
theorem Try.ent77 : Ent Try.prog 77 := ⟨_, Try.func77, by kernel_rfl, by kernel_rfl⟩
theorem Try.fld40_0 : Fld Try.prog 40 0 0 := ⟨_, _, Try.underlying40, rfl, rfl, 1, (by unfold Sz; kernel_rfl), by decide⟩
theorem Try.fld40_1 : Fld Try.prog 40 1 1 := ⟨_, _, Try.underlying40, rfl, rfl, 1, (by unfold Sz; kernel_rfl), by decide⟩
theorem Try.fld40_2 : Fld Try.prog 40 2 2 := ⟨_, _, Try.underlying40, rfl, rfl, 1, (by unfold Sz; kernel_rfl), by decide⟩
theorem Try.fld40_3 : Fld Try.prog 40 3 3 := ⟨_, _, Try.underlying40, rfl, rfl, 1, (by unfold Sz; kernel_rfl), by decide⟩
theorem Try.fld40_4 : Fld Try.prog 40 4 4 := ⟨_, _, Try.underlying40, rfl, rfl, 1, (by unfold Sz; kernel_rfl), by decide⟩
theorem Try.fld40_5 : Fld Try.prog 40 5 5 := ⟨_, _, Try.underlying40, rfl, rfl, 1, (by unfold Sz; kernel_rfl), by decide⟩
theorem Try.fld40_7 : Fld Try.prog 40 7 7 := ⟨_, _, Try.underlying40, rfl, rfl, 1, (by unfold Sz; kernel_rfl), by decide⟩
theorem Try.fld55_0 : Fld Try.prog 55 0 0 := ⟨_, _, Try.underlying55, rfl, rfl, 1, (by unfold Sz; kernel_rfl), by decide⟩
theorem Try.fld55_1 : Fld Try.prog 55 1 1 := ⟨_, _, Try.underlying55, rfl, rfl, 1, (by unfold Sz; kernel_rfl), by decide⟩
theorem Try.fld55_2 : Fld Try.prog 55 2 2 := ⟨_, _, Try.underlying55, rfl, rfl, 1, (by unfold Sz; kernel_rfl), by decide⟩
theorem Try.info3 : (Try.prog.info? 3).map (fun i => (i.zero, i.size, i.bytes)) = some (some (.int .i64 0), 1, 8) := by kernel_rfl
theorem Try.one3 : One Try.prog 3 := ⟨_, Try.underlying3, rfl⟩
theorem Try.one38 : One Try.prog 38 := ⟨_, Try.underlying38, rfl⟩
theorem Try.sz3 : Sz Try.prog 3 1 := by unfold Sz; kernel_rfl
theorem Try.sz84 : Sz Try.prog 84 2 := by unfold Sz; kernel_rfl
theorem Try.zero84 : (Try.prog.info? 84).bind (·.zero) = some (.agg #[.nilFunc, .nilFunc]) := by kernel_rfl
def takesM (i : D.Mach) : List Int :=
  if i.Op = 1 ∨ 18 ≤ i.Op ∧ i.Op ≤ 22 ∨ i.Op = 24 ∨ i.Op = 31 then [i.A]
  else if i.Op = 2 ∨ 5 ≤ i.Op ∧ i.Op ≤ 17 ∨ i.Op = 25 ∨ i.Op = 26 ∨ i.Op = 29 then [i.A, i.B]
  else if i.Op = 23 ∨ i.Op = 27 then [i.A, i.B, i.C]
  else if i.Op = 28 then i.Args
  else []
def makesM (i : D.Mach) : List Int :=
  if i.Op = 2 then [i.A, i.B]
  else if i.Op = 29 then [i.D, i.E]
  else if i.Op = 26 ∨ i.Op = 27 ∨ i.Op = 31 ∨ i.Op < 1 ∨ 31 < i.Op then []
  else [i.D]
def needsM (e : D.End) : List Int :=
  if e.Op = 2 ∨ e.Op = 6 ∨ e.Op = 7 ∧ 0 ≤ e.A then [e.A]
  else if e.Op = 3 ∨ e.Op = 4 ∨ e.Op = 5 then [e.A, e.B]
  else []
def regM : List Int → Bool
  | [] => true
  | x :: l => if x < 0 ∨ 8192 ≤ x then false else regM l

-- jacquard/jacquardref07.reg: function 101
theorem rReg_ct {F : PH} {H : Heap} (hin : InH F H) {a0 : Value} {l : List Int} {N0 : Nat} (p0 : (rLn N0 (rI .i64)).rv F a0 l) :
    Ct Try.prog 101 #[a0] H (fun v H' => v = .bool (regM l) ∧ H' = H) := by
  have q0 := rL.len2 p0
  have hkp := Kp.refl H.size H
  have hx := PH.ext.refl (H := H) F
  refine Ct.enter (args := [a0]) Try.func101 rfl rfl rfl (fun w0 hw0 => ?_)
  refine CF.seq (CF.region (LF.step (OpOk.assign rfl) (LF.nil (PF.next (CF.seq (CF.seq (CF.region (LF.step (OpOk.assign rfl) (LF.nil (PF.next (CF.block ?_)))))))))))
  refine CF.loop (ι := Nat) (fun k H1 => k ≤ l.length ∧ regM l = regM (l.drop k) ∧ H1 = H) (fun k => [(0, a0), (3, .int .i64 (↑k))]) (fun k => l.length - k) 0 ⟨by omega, rfl, rfl⟩ ⟨rfl, eqI (by omega), trivial⟩ ?_
  rintro k H1 ⟨hk, hR, rfl⟩
  refine CF.seq (CF.seq (CF.region (LF.step (OpOk.move rfl) (LF.step (OpOk.move rfl) ?_))))
  refine LF.step (OpOk.lenL Try.underlying38 p0 rfl) ?_
  refine LF.step (OpOk.lss rfl rfl) ?_
  refine LF.nil (PF.next ?_)
  refine CF.if rfl (fun hc1 => ?_) (fun hc1 => ?_)
  refine CF.skip (PF.next (CF.seq (CF.block (CF.seq (CF.region (LF.step (OpOk.move rfl) (LF.step (OpOk.move rfl) ?_)))))))
  refine LF.step (OpOk.idxL (i := k) Try.underlying38 Try.sz3 p0 rfl rfl rfl (by omega)) ?_
  refine LF.step (OpOk.ldI hin (rL.ix p0 k (by omega)) Try.one3 rfl) ?_
  refine LF.step (OpOk.lss rfl rfl) ?_
  refine LF.step (OpOk.move rfl) ?_
  refine LF.gstep rfl rfl (.f _) (fun hg => OpOk.move rfl) ?_
  refine LF.gstep rfl rfl (.f _) (fun hg => OpOk.move rfl) ?_
  refine LF.gstep rfl rfl (.f _) (fun hg => OpOk.idxL (i := k) Try.underlying38 Try.sz3 p0 (evg rfl hg) (evg rfl hg) rfl (by omega)) ?_
  refine LF.gstep rfl rfl (.f _) (fun hg => OpOk.ldI hin (rL.ix p0 k (by omega)) Try.one3 (evg rfl hg)) ?_
  refine LF.gstep rfl rfl (.f _) (fun hg => OpOk.geq (evg rfl hg) rfl) ?_
  refine LF.step (OpOk.pickOr rfl rfl) ?_
  refine LF.nil (PF.next ?_)
  refine CF.if rfl (fun hc2 => ?_) (fun hc2 => ?_)
  refine CF.seq (CF.region (LF.step (OpOk.assign rfl) (LF.nil (PF.next (CF.ret (PF.blockRet (PF.thenRet (PF.thenRet (PF.blockRet (PF.thenRet ?_))))))))))
  have hm : regM l = false := by
    first | (rw [hR, drop_ix (l := l) (i := k) (by omega)]; simp [regM, hc1, hc2]; done) | (rw [hR, List.drop_of_length_le (by omega)]; simp [regM, hc1, hc2]; done) | (simp [regM, hc1, hc2]; done) | (unfold regM; (repeat' split) <;> first | rfl | (exfalso; omega) | (simp [regM, hc1, hc2]; done))
  exact PF.ret1 rfl rfl ⟨by rw [hm] <;> rfl, rfl⟩
  refine CF.skip (PF.blockNormal (PF.next (CF.region (LF.step (OpOk.move rfl) ?_))))
  refine LF.step (OpOk.add rfl rfl (by omega)) ?_
  refine LF.step (OpOk.assign rfl) (LF.nil ?_)
  exact PF.again (k + 1) ⟨by omega, by first | (rw [hR, drop_ix (l := l) (i := k) (by omega)]; simp [regM, hc1, hc2]; done) | (rw [hR, List.drop_of_length_le (by omega)]; simp [regM, hc1, hc2]; done) | (simp [regM, hc1, hc2]; done) | (unfold regM; (repeat' split) <;> first | rfl | (exfalso; omega) | (simp [regM, hc1, hc2]; done)), rfl⟩ ⟨rfl, eqI (by omega), trivial⟩ (by omega)
  refine CF.exit (PF.thenExit (PF.thenExit (PF.blockHere (PF.next (CF.seq (CF.region (LF.step (OpOk.assign rfl) (LF.nil (PF.next (CF.ret ?_))))))))))
  have hm : regM l = true := by
    first | (rw [hR, drop_ix (l := l) (i := k) (by omega)]; simp [regM, hc1]; done) | (rw [hR, List.drop_of_length_le (by omega)]; simp [regM, hc1]; done) | (simp [regM, hc1]; done) | (unfold regM; (repeat' split) <;> first | rfl | (exfalso; omega) | (simp [regM, hc1]; done))
  exact PF.ret1 rfl rfl ⟨by rw [hm] <;> rfl, rfl⟩

-- jacquard/jacquardref07.Takes: function 103
theorem rTakes_ct {F : PH} {H : Heap} (hin : InH F H) {a0 : Value} {i : D.Mach} (p0 : rMach.ra F a0 i) :
    Ct Try.prog 103 #[a0] H (fun v H' => ∃ F', PH.ext H F F' ∧ InH F' H' ∧ Kp H.size H H' ∧ (rL (rI .i64)).rv F' v (takesM i)) := by
  have p0k := rMach.any p0
  obtain ⟨a0c7, rfl, p0c7⟩ := rMach.open p0
  have p0c7q := rL.len2 p0c7
  have hkp := Kp.refl H.size H
  have hx := PH.ext.refl (H := H) F
  refine Ct.enter (args := [.agg #[.int .i64 i.Op, .int .i64 i.D, .int .i64 i.E, .int .i64 i.A, .int .i64 i.B, .int .i64 i.C, .int .i32 i.Imm, a0c7]]) Try.func103 rfl rfl rfl (fun w0 hw0 => ?_)
  refine CF.seq (CF.region ?_)
  refine LF.chg (OpCh.boxB rfl rfl) ?_
  rintro _ H1 ⟨g1, rfl, eg1, sg1, kg1, hb1⟩
  have ng1 := hin.nope (Nat.le_of_eq eg1.symm)
  have lg1 := hkp.1
  have zkg1 := kg1.1
  replace hin := hin.kp kg1
  replace hkp := hkp.trans (kg1.mono hkp.1)
  clear kg1
  refine LF.step (OpOk.assign rfl) (LF.nil (PF.next (CF.seq (CF.block (CF.seq (CF.region ?_))))))
  refine LF.step (OpOk.fieldAddr (Try.fld40_0) rfl) ?_
  refine LF.step (OpOk.ldBx hb1 Try.one3 rfl rfl) ?_
  refine LF.step (OpOk.eql rfl rfl) ?_
  refine LF.step (OpOk.move rfl) ?_
  refine LF.gstep rfl rfl (.f _) (fun hg => OpOk.fieldAddr (Try.fld40_0) rfl) ?_
  refine LF.gstep rfl rfl (.f _) (fun hg => OpOk.ldBx hb1 Try.one3 (evg rfl hg) rfl) ?_
  refine LF.gstep rfl rfl (.f _) (fun hg => OpOk.geq (evg rfl hg) rfl) ?_
  refine LF.gstep rfl rfl (.f _) (fun hg => OpOk.move (evg rfl hg)) ?_
  refine LF.gstep rfl rfl (.gt _ _) (fun hg => OpOk.fieldAddr (Try.fld40_0) rfl) ?_
  refine LF.gstep rfl rfl (.gt _ _) (fun hg => OpOk.ldBx hb1 Try.one3 (evg rfl hg) rfl) ?_
  refine LF.gstep rfl rfl (.gt _ _) (fun hg => OpOk.leq (evg rfl hg) rfl) ?_
  refine LF.gstep rfl rfl (.f _) (fun hg => OpOk.pickAnd2 hg rfl rfl) ?_
  refine LF.step (OpOk.pickOr rfl rfl) ?_
  refine LF.step (OpOk.move rfl) ?_
  refine LF.gstep rfl rfl (.f _) (fun hg => OpOk.fieldAddr (Try.fld40_0) rfl) ?_
  refine LF.gstep rfl rfl (.f _) (fun hg => OpOk.ldBx hb1 Try.one3 (evg rfl hg) rfl) ?_
  refine LF.gstep rfl rfl (.f _) (fun hg => OpOk.eql (evg rfl hg) rfl) ?_
  refine LF.step (OpOk.pickOr rfl rfl) ?_
  refine LF.step (OpOk.move rfl) ?_
  refine LF.gstep rfl rfl (.f _) (fun hg => OpOk.fieldAddr (Try.fld40_0) rfl) ?_
  refine LF.gstep rfl rfl (.f _) (fun hg => OpOk.ldBx hb1 Try.one3 (evg rfl hg) rfl) ?_
  refine LF.gstep rfl rfl (.f _) (fun hg => OpOk.eql (evg rfl hg) rfl) ?_
  refine LF.step (OpOk.pickOr rfl rfl) ?_
  refine LF.step (OpOk.assign rfl) (LF.nil (PF.next ?_))
  refine CF.if rfl (fun hc1 => ?_) (fun hc1 => ?_)
  refine CF.seq (CF.region ?_)
  refine LF.step (OpOk.fieldAddr (Try.fld40_3) rfl) ?_
  refine LF.step (OpOk.ldBx hb1 Try.one3 rfl rfl) ?_
  refine LF.chg (OpCh.litL (F := F) (r := (rI .i64)) (l := [i.A]) (us := [.int .i64 i.A]) (cs := [[.int .i64 i.A]]) Try.underlying38 Try.info3 (by decide) rfl rfl rfl ⟨rfl, rfl, ⟨rfl, (rMach.w_A (m := i) p0k)⟩, trivial⟩) ?_
  rintro _ H29 ⟨g29, rfl, e29, s29, k29, x29⟩
  have l29 := hkp.1
  replace x29 := (x29 hin).base l29
  have zk29 := k29.1
  replace hin := hin.kp k29
  replace hkp := hkp.trans (k29.mono hkp.1)
  replace hb1 := hb1.kp k29
  refine LF.step (OpOk.assign rfl) (LF.nil (PF.next (CF.ret (PF.blockRet (PF.thenRet ?_)))))
  obtain ⟨Fz1, hxz1, lez1, hinz1, _, hrz1⟩ := x29.freezeX hin hx (Nat.le_refl _) (by first | (simp only [List.length_append, List.length_take, List.length_drop, List.length_nil, List.length_cons, List.length_set, List.length_replicate]; omega) | (simp; done) | (simp; omega) | omega)
  replace hin := hinz1
  replace hx := hxz1
  have le0 := lez1
  have hm : takesM i = ([i.A]) := by
    first | (simp [takesM, hc1]; done) | (unfold takesM; (repeat' split) <;> first | rfl | (exfalso; omega) | (simp [takesM, hc1]; done))
  exact PF.ret1 rfl rfl ⟨_, hx, hin, hkp, by rw [hm]; exact hrz1⟩
  refine CF.seq (CF.region ?_)
  refine LF.step (OpOk.fieldAddr (Try.fld40_0) rfl) ?_
  refine LF.step (OpOk.ldBx hb1 Try.one3 rfl rfl) ?_
  refine LF.step (OpOk.eql rfl rfl) ?_
  refine LF.step (OpOk.move rfl) ?_
  refine LF.gstep rfl rfl (.f _) (fun hg => OpOk.fieldAddr (Try.fld40_0) rfl) ?_
  refine LF.gstep rfl rfl (.f _) (fun hg => OpOk.ldBx hb1 Try.one3 (evg rfl hg) rfl) ?_
  refine LF.gstep rfl rfl (.f _) (fun hg => OpOk.geq (evg rfl hg) rfl) ?_
  refine LF.gstep rfl rfl (.f _) (fun hg => OpOk.move (evg rfl hg)) ?_
  refine LF.gstep rfl rfl (.gt _ _) (fun hg => OpOk.fieldAddr (Try.fld40_0) rfl) ?_
  refine LF.gstep rfl rfl (.gt _ _) (fun hg => OpOk.ldBx hb1 Try.one3 (evg rfl hg) rfl) ?_
  refine LF.gstep rfl rfl (.gt _ _) (fun hg => OpOk.leq (evg rfl hg) rfl) ?_
  refine LF.gstep rfl rfl (.f _) (fun hg => OpOk.pickAnd2 hg rfl rfl) ?_
  refine LF.step (OpOk.pickOr rfl rfl) ?_
  refine LF.step (OpOk.move rfl) ?_
  refine LF.gstep rfl rfl (.f _) (fun hg => OpOk.fieldAddr (Try.fld40_0) rfl) ?_
  refine LF.gstep rfl rfl (.f _) (fun hg => OpOk.ldBx hb1 Try.one3 (evg rfl hg) rfl) ?_
  refine LF.gstep rfl rfl (.f _) (fun hg => OpOk.eql (evg rfl hg) rfl) ?_
  refine LF.step (OpOk.pickOr rfl rfl) ?_
  refine LF.step (OpOk.move rfl) ?_
  refine LF.gstep rfl rfl (.f _) (fun hg => OpOk.fieldAddr (Try.fld40_0) rfl) ?_
  refine LF.gstep rfl rfl (.f _) (fun hg => OpOk.ldBx hb1 Try.one3 (evg rfl hg) rfl) ?_
  refine LF.gstep rfl rfl (.f _) (fun hg => OpOk.eql (evg rfl hg) rfl) ?_
  refine LF.step (OpOk.pickOr rfl rfl) ?_
  refine LF.step (OpOk.move rfl) ?_
  refine LF.gstep rfl rfl (.f _) (fun hg => OpOk.fieldAddr (Try.fld40_0) rfl) ?_
  refine LF.gstep rfl rfl (.f _) (fun hg => OpOk.ldBx hb1 Try.one3 (evg rfl hg) rfl) ?_
  refine LF.gstep rfl rfl (.f _) (fun hg => OpOk.eql (evg rfl hg) rfl) ?_
  refine LF.step (OpOk.pickOr rfl rfl) ?_
  refine LF.step (OpOk.assign rfl) (LF.nil (PF.next ?_))
  refine CF.if rfl (fun hc2 => ?_) (fun hc2 => ?_)
  refine CF.seq (CF.region ?_)
  refine LF.step (OpOk.fieldAddr (Try.fld40_3) rfl) ?_
  refine LF.step (OpOk.ldBx hb1 Try.one3 rfl rfl) ?_
  refine LF.step (OpOk.fieldAddr (Try.fld40_4) rfl) ?_
  refine LF.step (OpOk.ldBx hb1 Try.one3 rfl rfl) ?_
  refine LF.chg (OpCh.litL (F := F) (r := (rI .i64)) (l := [i.A, i.B]) (us := [.int .i64 i.A, .int .i64 i.B]) (cs := [[.int .i64 i.A], [.int .i64 i.B]]) Try.underlying38 Try.info3 (by decide) rfl rfl rfl ⟨rfl, rfl, ⟨rfl, (rMach.w_A (m := i) p0k)⟩, ⟨rfl, rfl, ⟨rfl, (rMach.w_B (m := i) p0k)⟩, trivial⟩⟩) ?_
  rintro _ H63 ⟨g63, rfl, e63, s63, k63, x63⟩
  have l63 := hkp.1
  replace x63 := (x63 hin).base l63
  have zk63 := k63.1
  replace hin := hin.kp k63
  replace hkp := hkp.trans (k63.mono hkp.1)
  replace hb1 := hb1.kp k63
  refine LF.step (OpOk.assign rfl) (LF.nil (PF.next (CF.ret (PF.blockRet (PF.thenRet ?_)))))
  obtain ⟨Fz2, hxz2, lez2, hinz2, _, hrz2⟩ := x63.freezeX hin hx (Nat.le_refl _) (by first | (simp only [List.length_append, List.length_take, List.length_drop, List.length_nil, List.length_cons, List.length_set, List.length_replicate]; omega) | (simp; done) | (simp; omega) | omega)
  replace hin := hinz2
  replace hx := hxz2
  have le0 := lez2
  have hm : takesM i = ([i.A, i.B]) := by
    first | (simp [takesM, hc1, hc2]; done) | (unfold takesM; (repeat' split) <;> first | rfl | (exfalso; omega) | (simp [takesM, hc1, hc2]; done))
  exact PF.ret1 rfl rfl ⟨_, hx, hin, hkp, by rw [hm]; exact hrz2⟩
  refine CF.seq (CF.region ?_)
  refine LF.step (OpOk.fieldAddr (Try.fld40_0) rfl) ?_
  refine LF.step (OpOk.ldBx hb1 Try.one3 rfl rfl) ?_
  refine LF.step (OpOk.eql rfl rfl) ?_
  refine LF.step (OpOk.move rfl) ?_
  refine LF.gstep rfl rfl (.f _) (fun hg => OpOk.fieldAddr (Try.fld40_0) rfl) ?_
  refine LF.gstep rfl rfl (.f _) (fun hg => OpOk.ldBx hb1 Try.one3 (evg rfl hg) rfl) ?_
  refine LF.gstep rfl rfl (.f _) (fun hg => OpOk.eql (evg rfl hg) rfl) ?_
  refine LF.step (OpOk.pickOr rfl rfl) ?_
  refine LF.step (OpOk.assign rfl) (LF.nil (PF.next ?_))
  refine CF.if rfl (fun hc3 => ?_) (fun hc3 => ?_)
  refine CF.seq (CF.region ?_)
  refine LF.step (OpOk.fieldAddr (Try.fld40_3) rfl) ?_
  refine LF.step (OpOk.ldBx hb1 Try.one3 rfl rfl) ?_
  refine LF.step (OpOk.fieldAddr (Try.fld40_4) rfl) ?_
  refine LF.step (OpOk.ldBx hb1 Try.one3 rfl rfl) ?_
  refine LF.step (OpOk.fieldAddr (Try.fld40_5) rfl) ?_
  refine LF.step (OpOk.ldBx hb1 Try.one3 rfl rfl) ?_
  refine LF.chg (OpCh.litL (F := F) (r := (rI .i64)) (l := [i.A, i.B, i.C]) (us := [.int .i64 i.A, .int .i64 i.B, .int .i64 i.C]) (cs := [[.int .i64 i.A], [.int .i64 i.B], [.int .i64 i.C]]) Try.underlying38 Try.info3 (by decide) rfl rfl rfl ⟨rfl, rfl, ⟨rfl, (rMach.w_A (m := i) p0k)⟩, ⟨rfl, rfl, ⟨rfl, (rMach.w_B (m := i) p0k)⟩, ⟨rfl, rfl, ⟨rfl, (rMach.w_C (m := i) p0k)⟩, trivial⟩⟩⟩) ?_
  rintro _ H79 ⟨g79, rfl, e79, s79, k79, x79⟩
  have l79 := hkp.1
  replace x79 := (x79 hin).base l79
  have zk79 := k79.1
  replace hin := hin.kp k79
  replace hkp := hkp.trans (k79.mono hkp.1)
  replace hb1 := hb1.kp k79
  refine LF.step (OpOk.assign rfl) (LF.nil (PF.next (CF.ret (PF.blockRet (PF.thenRet ?_)))))
  obtain ⟨Fz3, hxz3, lez3, hinz3, _, hrz3⟩ := x79.freezeX hin hx (Nat.le_refl _) (by first | (simp only [List.length_append, List.length_take, List.length_drop, List.length_nil, List.length_cons, List.length_set, List.length_replicate]; omega) | (simp; done) | (simp; omega) | omega)
  replace hin := hinz3
  replace hx := hxz3
  have le0 := lez3
  have hm : takesM i = ([i.A, i.B, i.C]) := by
    first | (simp [takesM, hc1, hc2, hc3]; done) | (unfold takesM; (repeat' split) <;> first | rfl | (exfalso; omega) | (simp [takesM, hc1, hc2, hc3]; done))
  exact PF.ret1 rfl rfl ⟨_, hx, hin, hkp, by rw [hm]; exact hrz3⟩
  refine CF.seq (CF.region ?_)
  refine LF.step (OpOk.fieldAddr (Try.fld40_0) rfl) ?_
  refine LF.step (OpOk.ldBx hb1 Try.one3 rfl rfl) ?_
  refine LF.step (OpOk.eql rfl rfl) ?_
  refine LF.step (OpOk.assign rfl) (LF.nil (PF.next ?_))
  refine CF.if rfl (fun hc4 => ?_) (fun hc4 => ?_)
  refine CF.seq (CF.region ?_)
  refine LF.chg (OpCh.litL (F := F) (r := (rI .i64)) (l := []) (us := []) (cs := []) Try.underlying38 Try.info3 (by decide) rfl rfl rfl trivial) ?_
  rintro _ H84 ⟨g84, rfl, e84, s84, k84, x84⟩
  have l84 := hkp.1
  replace x84 := (x84 hin).base l84
  have zk84 := k84.1
  replace hin := hin.kp k84
  replace hkp := hkp.trans (k84.mono hkp.1)
  replace hb1 := hb1.kp k84
  refine LF.step (OpOk.fieldAddr (Try.fld40_7) rfl) ?_
  refine LF.step (OpOk.ldBx hb1 Try.one38 rfl rfl) ?_
  refine LF.chg (OpCh.appL (r := (rI .i64)) Try.underlying38 Try.info3 (by decide) rfl rfl rfl x84 p0c7 hin (by first | (simp only [List.length_append, List.length_take, List.length_drop, List.length_nil, List.length_cons, List.length_set, List.length_replicate]; omega) | (simp; done) | (simp; omega) | omega) (by omega)) ?_
  rintro v87 H87 ⟨x87, gb87, ob87⟩
  replace hin := hin.grown gb87 x84.no
  replace hkp := gb87.kp hkp (Nat.le_refl _) (fun k0 hk0 => (x84.blk k0 hk0).1)
  replace hb1 := hb1.of (gb87.2 _ hb1.lt (Ne.symm (by first | exact x84.neBx hb1 (by decide) | exact nq84_1)))
  rw [List.nil_append] at x87
  refine LF.step (OpOk.assign rfl) (LF.nil (PF.next (CF.ret (PF.blockRet (PF.thenRet ?_)))))
  obtain ⟨Fz4, hxz4, lez4, hinz4, _, hrz4⟩ := x87.freezeX hin hx (Nat.le_refl _) (by first | (simp only [List.length_append, List.length_take, List.length_drop, List.length_nil, List.length_cons, List.length_set, List.length_replicate]; omega) | (simp; done) | (simp; omega) | omega)
  replace hin := hinz4
  replace hx := hxz4
  have le0 := lez4
  have hm : takesM i = i.Args := by
    first | (simp [takesM, hc1, hc2, hc3, hc4]; done) | (unfold takesM; (repeat' split) <;> first | rfl | (exfalso; omega) | (simp [takesM, hc1, hc2, hc3, hc4]; done))
  exact PF.ret1 rfl rfl ⟨_, hx, hin, hkp, by rw [hm]; exact hrz4⟩
  refine CF.skip (PF.blockNormal (PF.next (CF.seq (CF.region (LF.step (OpOk.assign rfl) (LF.nil (PF.next (CF.ret ?_))))))))
  have hm : takesM i = ([]) := by
    first | (simp [takesM, hc1, hc2, hc3, hc4]; done) | (unfold takesM; (repeat' split) <;> first | rfl | (exfalso; omega) | (simp [takesM, hc1, hc2, hc3, hc4]; done))
  exact PF.ret1 rfl rfl ⟨_, hx, hin, hkp, by rw [hm]; exact (rL.nil _)⟩

-- jacquard/jacquardref07.Makes: function 102
theorem rMakes_ct {F : PH} {H : Heap} (hin : InH F H) {a0 : Value} {i : D.Mach} (p0 : rMach.ra F a0 i) :
    Ct Try.prog 102 #[a0] H (fun v H' => ∃ F', PH.ext H F F' ∧ InH F' H' ∧ Kp H.size H H' ∧ (rL (rI .i64)).rv F' v (makesM i)) := by
  have p0k := rMach.any p0
  obtain ⟨a0c7, rfl, p0c7⟩ := rMach.open p0
  have p0c7q := rL.len2 p0c7
  have hkp := Kp.refl H.size H
  have hx := PH.ext.refl (H := H) F
  refine Ct.enter (args := [.agg #[.int .i64 i.Op, .int .i64 i.D, .int .i64 i.E, .int .i64 i.A, .int .i64 i.B, .int .i64 i.C, .int .i32 i.Imm, a0c7]]) Try.func102 rfl rfl rfl (fun w0 hw0 => ?_)
  refine CF.seq (CF.region ?_)
  refine LF.chg (OpCh.boxB rfl rfl) ?_
  rintro _ H1 ⟨g1, rfl, eg1, sg1, kg1, hb1⟩
  have ng1 := hin.nope (Nat.le_of_eq eg1.symm)
  have lg1 := hkp.1
  have zkg1 := kg1.1
  replace hin := hin.kp kg1
  replace hkp := hkp.trans (kg1.mono hkp.1)
  clear kg1
  refine LF.step (OpOk.assign rfl) (LF.nil (PF.next (CF.seq (CF.block (CF.seq (CF.region ?_))))))
  refine LF.step (OpOk.fieldAddr (Try.fld40_0) rfl) ?_
  refine LF.step (OpOk.ldBx hb1 Try.one3 rfl rfl) ?_
  refine LF.step (OpOk.eql rfl rfl) ?_
  refine LF.step (OpOk.assign rfl) (LF.nil (PF.next ?_))
  refine CF.if rfl (fun hc1 => ?_) (fun hc1 => ?_)
  refine CF.seq (CF.region ?_)
  refine LF.step (OpOk.fieldAddr (Try.fld40_3) rfl) ?_
  refine LF.step (OpOk.ldBx hb1 Try.one3 rfl rfl) ?_
  refine LF.step (OpOk.fieldAddr (Try.fld40_4) rfl) ?_
  refine LF.step (OpOk.ldBx hb1 Try.one3 rfl rfl) ?_
  refine LF.chg (OpCh.litL (F := F) (r := (rI .i64)) (l := [i.A, i.B]) (us := [.int .i64 i.A, .int .i64 i.B]) (cs := [[.int .i64 i.A], [.int .i64 i.B]]) Try.underlying38 Try.info3 (by decide) rfl rfl rfl ⟨rfl, rfl, ⟨rfl, (rMach.w_A (m := i) p0k)⟩, ⟨rfl, rfl, ⟨rfl, (rMach.w_B (m := i) p0k)⟩, trivial⟩⟩) ?_
  rintro _ H11 ⟨g11, rfl, e11, s11, k11, x11⟩
  have l11 := hkp.1
  replace x11 := (x11 hin).base l11
  have zk11 := k11.1
  replace hin := hin.kp k11
  replace hkp := hkp.trans (k11.mono hkp.1)
  replace hb1 := hb1.kp k11
  refine LF.step (OpOk.assign rfl) (LF.nil (PF.next (CF.ret (PF.blockRet (PF.thenRet ?_)))))
  obtain ⟨Fz1, hxz1, lez1, hinz1, _, hrz1⟩ := x11.freezeX hin hx (Nat.le_refl _) (by first | (simp only [List.length_append, List.length_take, List.length_drop, List.length_nil, List.length_cons, List.length_set, List.length_replicate]; omega) | (simp; done) | (simp; omega) | omega)
  replace hin := hinz1
  replace hx := hxz1
  have le0 := lez1
  have hm : makesM i = ([i.A, i.B]) := by
    first | (simp [makesM, hc1]; done) | (unfold makesM; (repeat' split) <;> first | rfl | (exfalso; omega) | (simp [makesM, hc1]; done))
  exact PF.ret1 rfl rfl ⟨_, hx, hin, hkp, by rw [hm]; exact hrz1⟩
  refine CF.seq (CF.region ?_)
  refine LF.step (OpOk.fieldAddr (Try.fld40_0) rfl) ?_
  refine LF.step (OpOk.ldBx hb1 Try.one3 rfl rfl) ?_
  refine LF.step (OpOk.eql rfl rfl) ?_
  refine LF.step (OpOk.assign rfl) (LF.nil (PF.next ?_))
  refine CF.if rfl (fun hc2 => ?_) (fun hc2 => ?_)
  refine CF.seq (CF.region ?_)
  refine LF.step (OpOk.fieldAddr (Try.fld40_1) rfl) ?_
  refine LF.step (OpOk.ldBx hb1 Try.one3 rfl rfl) ?_
  refine LF.step (OpOk.fieldAddr (Try.fld40_2) rfl) ?_
  refine LF.step (OpOk.ldBx hb1 Try.one3 rfl rfl) ?_
  refine LF.chg (OpCh.litL (F := F) (r := (rI .i64)) (l := [i.D, i.E]) (us := [.int .i64 i.D, .int .i64 i.E]) (cs := [[.int .i64 i.D], [.int .i64 i.E]]) Try.underlying38 Try.info3 (by decide) rfl rfl rfl ⟨rfl, rfl, ⟨rfl, (rMach.w_D (m := i) p0k)⟩, ⟨rfl, rfl, ⟨rfl, (rMach.w_E (m := i) p0k)⟩, trivial⟩⟩) ?_
  rintro _ H20 ⟨g20, rfl, e20, s20, k20, x20⟩
  have l20 := hkp.1
  replace x20 := (x20 hin).base l20
  have zk20 := k20.1
  replace hin := hin.kp k20
  replace hkp := hkp.trans (k20.mono hkp.1)
  replace hb1 := hb1.kp k20
  refine LF.step (OpOk.assign rfl) (LF.nil (PF.next (CF.ret (PF.blockRet (PF.thenRet ?_)))))
  obtain ⟨Fz2, hxz2, lez2, hinz2, _, hrz2⟩ := x20.freezeX hin hx (Nat.le_refl _) (by first | (simp only [List.length_append, List.length_take, List.length_drop, List.length_nil, List.length_cons, List.length_set, List.length_replicate]; omega) | (simp; done) | (simp; omega) | omega)
  replace hin := hinz2
  replace hx := hxz2
  have le0 := lez2
  have hm : makesM i = ([i.D, i.E]) := by
    first | (simp [makesM, hc1, hc2]; done) | (unfold makesM; (repeat' split) <;> first | rfl | (exfalso; omega) | (simp [makesM, hc1, hc2]; done))
  exact PF.ret1 rfl rfl ⟨_, hx, hin, hkp, by rw [hm]; exact hrz2⟩
  refine CF.seq (CF.region ?_)
  refine LF.step (OpOk.fieldAddr (Try.fld40_0) rfl) ?_
  refine LF.step (OpOk.ldBx hb1 Try.one3 rfl rfl) ?_
  refine LF.step (OpOk.eql rfl rfl) ?_
  refine LF.step (OpOk.move rfl) ?_
  refine LF.gstep rfl rfl (.f _) (fun hg => OpOk.fieldAddr (Try.fld40_0) rfl) ?_
  refine LF.gstep rfl rfl (.f _) (fun hg => OpOk.ldBx hb1 Try.one3 (evg rfl hg) rfl) ?_
  refine LF.gstep rfl rfl (.f _) (fun hg => OpOk.eql (evg rfl hg) rfl) ?_
  refine LF.step (OpOk.pickOr rfl rfl) ?_
  refine LF.step (OpOk.move rfl) ?_
  refine LF.gstep rfl rfl (.f _) (fun hg => OpOk.fieldAddr (Try.fld40_0) rfl) ?_
  refine LF.gstep rfl rfl (.f _) (fun hg => OpOk.ldBx hb1 Try.one3 (evg rfl hg) rfl) ?_
  refine LF.gstep rfl rfl (.f _) (fun hg => OpOk.eql (evg rfl hg) rfl) ?_
  refine LF.step (OpOk.pickOr rfl rfl) ?_
  refine LF.step (OpOk.move rfl) ?_
  refine LF.gstep rfl rfl (.f _) (fun hg => OpOk.fieldAddr (Try.fld40_0) rfl) ?_
  refine LF.gstep rfl rfl (.f _) (fun hg => OpOk.ldBx hb1 Try.one3 (evg rfl hg) rfl) ?_
  refine LF.gstep rfl rfl (.f _) (fun hg => OpOk.lss (evg rfl hg) rfl) ?_
  refine LF.step (OpOk.pickOr rfl rfl) ?_
  refine LF.step (OpOk.move rfl) ?_
  refine LF.gstep rfl rfl (.f _) (fun hg => OpOk.fieldAddr (Try.fld40_0) rfl) ?_
  refine LF.gstep rfl rfl (.f _) (fun hg => OpOk.ldBx hb1 Try.one3 (evg rfl hg) rfl) ?_
  refine LF.gstep rfl rfl (.f _) (fun hg => OpOk.gtr (evg rfl hg) rfl) ?_
  refine LF.step (OpOk.pickOr rfl rfl) ?_
  refine LF.step (OpOk.assign rfl) (LF.nil (PF.next ?_))
  refine CF.if rfl (fun hc3 => ?_) (fun hc3 => ?_)
  refine CF.seq (CF.region (LF.step (OpOk.assign rfl) (LF.nil (PF.next (CF.ret (PF.blockRet (PF.thenRet ?_)))))))
  have hm : makesM i = ([]) := by
    first | (simp [makesM, hc1, hc2, hc3]; done) | (unfold makesM; (repeat' split) <;> first | rfl | (exfalso; omega) | (simp [makesM, hc1, hc2, hc3]; done))
  exact PF.ret1 rfl rfl ⟨_, hx, hin, hkp, by rw [hm]; exact (rL.nil _)⟩
  refine CF.skip (PF.blockNormal (PF.next (CF.seq (CF.region ?_))))
  refine LF.step (OpOk.fieldAddr (Try.fld40_1) rfl) ?_
  refine LF.step (OpOk.ldBx hb1 Try.one3 rfl rfl) ?_
  refine LF.chg (OpCh.litL (F := F) (r := (rI .i64)) (l := [i.D]) (us := [.int .i64 i.D]) (cs := [[.int .i64 i.D]]) Try.underlying38 Try.info3 (by decide) rfl rfl rfl ⟨rfl, rfl, ⟨rfl, (rMach.w_D (m := i) p0k)⟩, trivial⟩) ?_
  rintro _ H47 ⟨g47, rfl, e47, s47, k47, x47⟩
  have l47 := hkp.1
  replace x47 := (x47 hin).base l47
  have zk47 := k47.1
  replace hin := hin.kp k47
  replace hkp := hkp.trans (k47.mono hkp.1)
  replace hb1 := hb1.kp k47
  refine LF.step (OpOk.assign rfl) (LF.nil (PF.next (CF.ret ?_)))
  obtain ⟨Fz3, hxz3, lez3, hinz3, _, hrz3⟩ := x47.freezeX hin hx (Nat.le_refl _) (by first | (simp only [List.length_append, List.length_take, List.length_drop, List.length_nil, List.length_cons, List.length_set, List.length_replicate]; omega) | (simp; done) | (simp; omega) | omega)
  replace hin := hinz3
  replace hx := hxz3
  have le0 := lez3
  have hm : makesM i = ([i.D]) := by
    first | (simp [makesM, hc1, hc2, hc3]; done) | (unfold makesM; (repeat' split) <;> first | rfl | (exfalso; omega) | (simp [makesM, hc1, hc2, hc3]; done))
  exact PF.ret1 rfl rfl ⟨_, hx, hin, hkp, by rw [hm]; exact hrz3⟩

-- jacquard/jacquardref07.Needs: function 106
theorem rNeeds_ct {F : PH} {H : Heap} (hin : InH F H) {a0 : Value} {e : D.End} (p0 : rEnd.ra F a0 e) :
    Ct Try.prog 106 #[a0] H (fun v H' => ∃ F', PH.ext H F F' ∧ InH F' H' ∧ Kp H.size H H' ∧ (rL (rI .i64)).rv F' v (needsM e)) := by
  have p0k := rEnd.any p0
  obtain ⟨a0c3, rfl, p0c3⟩ := rEnd.open p0
  have p0c3q := rL.len2 p0c3
  have hkp := Kp.refl H.size H
  have hx := PH.ext.refl (H := H) F
  refine Ct.enter (args := [.agg #[.int .i64 e.Op, .int .i64 e.A, .int .i64 e.B, a0c3, .int .i32 e.Imm]]) Try.func106 rfl rfl rfl (fun w0 hw0 => ?_)
  refine CF.seq (CF.region ?_)
  refine LF.chg (OpCh.boxB rfl rfl) ?_
  rintro _ H1 ⟨g1, rfl, eg1, sg1, kg1, hb1⟩
  have ng1 := hin.nope (Nat.le_of_eq eg1.symm)
  have lg1 := hkp.1
  have zkg1 := kg1.1
  replace hin := hin.kp kg1
  replace hkp := hkp.trans (kg1.mono hkp.1)
  clear kg1
  refine LF.step (OpOk.assign rfl) (LF.nil (PF.next (CF.seq (CF.seq (CF.region ?_)))))
  refine LF.step (OpOk.fieldAddr (Try.fld55_0) rfl) ?_
  refine LF.step (OpOk.ldBx hb1 Try.one3 rfl rfl) ?_
  refine LF.nil (PF.next (CF.block (CF.seq (CF.seq (CF.region ?_)))))
  refine LF.step (OpOk.eql rfl rfl) ?_
  refine LF.step (OpOk.assign rfl) (LF.nil (PF.next ?_))
  refine CF.if rfl (fun hc1 => ?_) (fun hc1 => ?_)
  refine CF.skip (PF.next ?_)
  refine CF.if rfl (fun hc2 => ?_) (fun hc2 => ?_)
  refine CF.seq (CF.region ?_)
  refine LF.step (OpOk.fieldAddr (Try.fld55_1) rfl) ?_
  refine LF.step (OpOk.ldBx hb1 Try.one3 rfl rfl) ?_
  refine LF.chg (OpCh.litL (F := F) (r := (rI .i64)) (l := [e.A]) (us := [.int .i64 e.A]) (cs := [[.int .i64 e.A]]) Try.underlying38 Try.info3 (by decide) rfl rfl rfl ⟨rfl, rfl, ⟨rfl, (rEnd.w_A (m := e) p0k)⟩, trivial⟩) ?_
  rintro _ H10 ⟨g10, rfl, e10, s10, k10, x10⟩
  have l10 := hkp.1
  replace x10 := (x10 hin).base l10
  have zk10 := k10.1
  replace hin := hin.kp k10
  replace hkp := hkp.trans (k10.mono hkp.1)
  replace hb1 := hb1.kp k10
  refine LF.step (OpOk.assign rfl) (LF.nil (PF.next (CF.ret (PF.blockRet (PF.thenRet ?_)))))
  obtain ⟨Fz1, hxz1, lez1, hinz1, _, hrz1⟩ := x10.freezeX hin hx (Nat.le_refl _) (by first | (simp only [List.length_append, List.length_take, List.length_drop, List.length_nil, List.length_cons, List.length_set, List.length_replicate]; omega) | (simp; done) | (simp; omega) | omega)
  replace hin := hinz1
  replace hx := hxz1
  have le0 := lez1
  have hm : needsM e = ([e.A]) := by
    first | (simp [needsM, hc1, hc2]; done) | (unfold needsM; (repeat' split) <;> first | rfl | (exfalso; omega) | (simp [needsM, hc1, hc2]; done))
  exact PF.ret1 rfl rfl ⟨_, hx, hin, hkp, by rw [hm]; exact hrz1⟩
  exact absurd hc2 (by simp [hc1])
  refine CF.region ?_
  refine LF.step (OpOk.eql rfl rfl) ?_
  refine LF.step (OpOk.assign rfl) (LF.nil (PF.next ?_))
  refine CF.if rfl (fun hc3 => ?_) (fun hc3 => ?_)
  refine CF.seq (CF.region ?_)
  refine LF.step (OpOk.fieldAddr (Try.fld55_1) rfl) ?_
  refine LF.step (OpOk.ldBx hb1 Try.one3 rfl rfl) ?_
  refine LF.chg (OpCh.litL (F := F) (r := (rI .i64)) (l := [e.A]) (us := [.int .i64 e.A]) (cs := [[.int .i64 e.A]]) Try.underlying38 Try.info3 (by decide) rfl rfl rfl ⟨rfl, rfl, ⟨rfl, (rEnd.w_A (m := e) p0k)⟩, trivial⟩) ?_
  rintro _ H10 ⟨g10, rfl, e10, s10, k10, x10⟩
  have l10 := hkp.1
  replace x10 := (x10 hin).base l10
  have zk10 := k10.1
  replace hin := hin.kp k10
  replace hkp := hkp.trans (k10.mono hkp.1)
  replace hb1 := hb1.kp k10
  refine LF.step (OpOk.assign rfl) (LF.nil (PF.next (CF.ret (PF.blockRet (PF.thenRet ?_)))))
  obtain ⟨Fz2, hxz2, lez2, hinz2, _, hrz2⟩ := x10.freezeX hin hx (Nat.le_refl _) (by first | (simp only [List.length_append, List.length_take, List.length_drop, List.length_nil, List.length_cons, List.length_set, List.length_replicate]; omega) | (simp; done) | (simp; omega) | omega)
  replace hin := hinz2
  replace hx := hxz2
  have le0 := lez2
  have hm : needsM e = ([e.A]) := by
    first | (simp [needsM, hc1, hc3]; done) | (unfold needsM; (repeat' split) <;> first | rfl | (exfalso; omega) | (simp [needsM, hc1, hc3]; done))
  exact PF.ret1 rfl rfl ⟨_, hx, hin, hkp, by rw [hm]; exact hrz2⟩
  refine CF.seq (CF.seq (CF.region ?_))
  refine LF.step (OpOk.eql rfl rfl) ?_
  refine LF.step (OpOk.assign rfl) (LF.nil (PF.next ?_))
  refine CF.if rfl (fun hc4 => ?_) (fun hc4 => ?_)
  refine CF.skip (PF.next ?_)
  refine CF.if rfl (fun hc5 => ?_) (fun hc5 => ?_)
  refine CF.seq (CF.region ?_)
  refine LF.step (OpOk.fieldAddr (Try.fld55_1) rfl) ?_
  refine LF.step (OpOk.ldBx hb1 Try.one3 rfl rfl) ?_
  refine LF.step (OpOk.fieldAddr (Try.fld55_2) rfl) ?_
  refine LF.step (OpOk.ldBx hb1 Try.one3 rfl rfl) ?_
  refine LF.chg (OpCh.litL (F := F) (r := (rI .i64)) (l := [e.A, e.B]) (us := [.int .i64 e.A, .int .i64 e.B]) (cs := [[.int .i64 e.A], [.int .i64 e.B]]) Try.underlying38 Try.info3 (by decide) rfl rfl rfl ⟨rfl, rfl, ⟨rfl, (rEnd.w_A (m := e) p0k)⟩, ⟨rfl, rfl, ⟨rfl, (rEnd.w_B (m := e) p0k)⟩, trivial⟩⟩) ?_
  rintro _ H19 ⟨g19, rfl, e19, s19, k19, x19⟩
  have l19 := hkp.1
  replace x19 := (x19 hin).base l19
  have zk19 := k19.1
  replace hin := hin.kp k19
  replace hkp := hkp.trans (k19.mono hkp.1)
  replace hb1 := hb1.kp k19
  refine LF.step (OpOk.assign rfl) (LF.nil (PF.next (CF.ret (PF.blockRet (PF.thenRet ?_)))))
  obtain ⟨Fz3, hxz3, lez3, hinz3, _, hrz3⟩ := x19.freezeX hin hx (Nat.le_refl _) (by first | (simp only [List.length_append, List.length_take, List.length_drop, List.length_nil, List.length_cons, List.length_set, List.length_replicate]; omega) | (simp; done) | (simp; omega) | omega)
  replace hin := hinz3
  replace hx := hxz3
  have le0 := lez3
  have hm : needsM e = ([e.A, e.B]) := by
    first | (simp [needsM, hc1, hc3, hc4, hc5]; done) | (unfold needsM; (repeat' split) <;> first | rfl | (exfalso; omega) | (simp [needsM, hc1, hc3, hc4, hc5]; done))
  exact PF.ret1 rfl rfl ⟨_, hx, hin, hkp, by rw [hm]; exact hrz3⟩
  exact absurd hc5 (by simp [hc1, hc3, hc4])
  refine CF.seq (CF.region ?_)
  refine LF.step (OpOk.eql rfl rfl) ?_
  refine LF.step (OpOk.assign rfl) (LF.nil (PF.next ?_))
  refine CF.if rfl (fun hc6 => ?_) (fun hc6 => ?_)
  refine CF.skip (PF.next ?_)
  refine CF.if rfl (fun hc7 => ?_) (fun hc7 => ?_)
  refine CF.seq (CF.region ?_)
  refine LF.step (OpOk.fieldAddr (Try.fld55_1) rfl) ?_
  refine LF.step (OpOk.ldBx hb1 Try.one3 rfl rfl) ?_
  refine LF.step (OpOk.fieldAddr (Try.fld55_2) rfl) ?_
  refine LF.step (OpOk.ldBx hb1 Try.one3 rfl rfl) ?_
  refine LF.chg (OpCh.litL (F := F) (r := (rI .i64)) (l := [e.A, e.B]) (us := [.int .i64 e.A, .int .i64 e.B]) (cs := [[.int .i64 e.A], [.int .i64 e.B]]) Try.underlying38 Try.info3 (by decide) rfl rfl rfl ⟨rfl, rfl, ⟨rfl, (rEnd.w_A (m := e) p0k)⟩, ⟨rfl, rfl, ⟨rfl, (rEnd.w_B (m := e) p0k)⟩, trivial⟩⟩) ?_
  rintro _ H19 ⟨g19, rfl, e19, s19, k19, x19⟩
  have l19 := hkp.1
  replace x19 := (x19 hin).base l19
  have zk19 := k19.1
  replace hin := hin.kp k19
  replace hkp := hkp.trans (k19.mono hkp.1)
  replace hb1 := hb1.kp k19
  refine LF.step (OpOk.assign rfl) (LF.nil (PF.next (CF.ret (PF.blockRet (PF.thenRet ?_)))))
  obtain ⟨Fz4, hxz4, lez4, hinz4, _, hrz4⟩ := x19.freezeX hin hx (Nat.le_refl _) (by first | (simp only [List.length_append, List.length_take, List.length_drop, List.length_nil, List.length_cons, List.length_set, List.length_replicate]; omega) | (simp; done) | (simp; omega) | omega)
  replace hin := hinz4
  replace hx := hxz4
  have le0 := lez4
  have hm : needsM e = ([e.A, e.B]) := by
    first | (simp [needsM, hc1, hc3, hc4, hc6, hc7]; done) | (unfold needsM; (repeat' split) <;> first | rfl | (exfalso; omega) | (simp [needsM, hc1, hc3, hc4, hc6, hc7]; done))
  exact PF.ret1 rfl rfl ⟨_, hx, hin, hkp, by rw [hm]; exact hrz4⟩
  exact absurd hc7 (by simp [hc1, hc3, hc4, hc6])
  refine CF.region ?_
  refine LF.step (OpOk.eql rfl rfl) ?_
  refine LF.step (OpOk.assign rfl) (LF.nil (PF.next ?_))
  refine CF.if rfl (fun hc8 => ?_) (fun hc8 => ?_)
  refine CF.seq (CF.region ?_)
  refine LF.step (OpOk.fieldAddr (Try.fld55_1) rfl) ?_
  refine LF.step (OpOk.ldBx hb1 Try.one3 rfl rfl) ?_
  refine LF.step (OpOk.fieldAddr (Try.fld55_2) rfl) ?_
  refine LF.step (OpOk.ldBx hb1 Try.one3 rfl rfl) ?_
  refine LF.chg (OpCh.litL (F := F) (r := (rI .i64)) (l := [e.A, e.B]) (us := [.int .i64 e.A, .int .i64 e.B]) (cs := [[.int .i64 e.A], [.int .i64 e.B]]) Try.underlying38 Try.info3 (by decide) rfl rfl rfl ⟨rfl, rfl, ⟨rfl, (rEnd.w_A (m := e) p0k)⟩, ⟨rfl, rfl, ⟨rfl, (rEnd.w_B (m := e) p0k)⟩, trivial⟩⟩) ?_
  rintro _ H19 ⟨g19, rfl, e19, s19, k19, x19⟩
  have l19 := hkp.1
  replace x19 := (x19 hin).base l19
  have zk19 := k19.1
  replace hin := hin.kp k19
  replace hkp := hkp.trans (k19.mono hkp.1)
  replace hb1 := hb1.kp k19
  refine LF.step (OpOk.assign rfl) (LF.nil (PF.next (CF.ret (PF.blockRet (PF.thenRet ?_)))))
  obtain ⟨Fz5, hxz5, lez5, hinz5, _, hrz5⟩ := x19.freezeX hin hx (Nat.le_refl _) (by first | (simp only [List.length_append, List.length_take, List.length_drop, List.length_nil, List.length_cons, List.length_set, List.length_replicate]; omega) | (simp; done) | (simp; omega) | omega)
  replace hin := hinz5
  replace hx := hxz5
  have le0 := lez5
  have hm : needsM e = ([e.A, e.B]) := by
    first | (simp [needsM, hc1, hc3, hc4, hc6, hc8]; done) | (unfold needsM; (repeat' split) <;> first | rfl | (exfalso; omega) | (simp [needsM, hc1, hc3, hc4, hc6, hc8]; done))
  exact PF.ret1 rfl rfl ⟨_, hx, hin, hkp, by rw [hm]; exact hrz5⟩
  refine CF.seq (CF.region ?_)
  refine LF.step (OpOk.eql rfl rfl) ?_
  refine LF.step (OpOk.assign rfl) (LF.nil (PF.next ?_))
  refine CF.if rfl (fun hc9 => ?_) (fun hc9 => ?_)
  refine CF.seq (CF.region ?_)
  refine LF.step (OpOk.fieldAddr (Try.fld55_1) rfl) ?_
  refine LF.step (OpOk.ldBx hb1 Try.one3 rfl rfl) ?_
  refine LF.step (OpOk.geq rfl rfl) ?_
  refine LF.nil (PF.next ?_)
  refine CF.if rfl (fun hc10 => ?_) (fun hc10 => ?_)
  refine CF.seq (CF.region ?_)
  refine LF.step (OpOk.fieldAddr (Try.fld55_1) rfl) ?_
  refine LF.step (OpOk.ldBx hb1 Try.one3 rfl rfl) ?_
  refine LF.chg (OpCh.litL (F := F) (r := (rI .i64)) (l := [e.A]) (us := [.int .i64 e.A]) (cs := [[.int .i64 e.A]]) Try.underlying38 Try.info3 (by decide) rfl rfl rfl ⟨rfl, rfl, ⟨rfl, (rEnd.w_A (m := e) p0k)⟩, trivial⟩) ?_
  rintro _ H27 ⟨g27, rfl, e27, s27, k27, x27⟩
  have l27 := hkp.1
  replace x27 := (x27 hin).base l27
  have zk27 := k27.1
  replace hin := hin.kp k27
  replace hkp := hkp.trans (k27.mono hkp.1)
  replace hb1 := hb1.kp k27
  refine LF.step (OpOk.assign rfl) (LF.nil (PF.next (CF.ret (PF.blockRet (PF.thenRet ?_)))))
  obtain ⟨Fz6, hxz6, lez6, hinz6, _, hrz6⟩ := x27.freezeX hin hx (Nat.le_refl _) (by first | (simp only [List.length_append, List.length_take, List.length_drop, List.length_nil, List.length_cons, List.length_set, List.length_replicate]; omega) | (simp; done) | (simp; omega) | omega)
  replace hin := hinz6
  replace hx := hxz6
  have le0 := lez6
  have hm : needsM e = ([e.A]) := by
    first | (simp [needsM, hc1, hc3, hc4, hc6, hc8, hc9, hc10]; done) | (unfold needsM; (repeat' split) <;> first | rfl | (exfalso; omega) | (simp [needsM, hc1, hc3, hc4, hc6, hc8, hc9, hc10]; done))
  exact PF.ret1 rfl rfl ⟨_, hx, hin, hkp, by rw [hm]; exact hrz6⟩
  refine CF.skip (PF.blockNormal (PF.next (CF.seq (CF.region (LF.step (OpOk.assign rfl) (LF.nil (PF.next (CF.ret ?_))))))))
  have hm : needsM e = ([]) := by
    first | (simp [needsM, hc1, hc3, hc4, hc6, hc8, hc9, hc10]; done) | (unfold needsM; (repeat' split) <;> first | rfl | (exfalso; omega) | (simp [needsM, hc1, hc3, hc4, hc6, hc8, hc9, hc10]; done))
  exact PF.ret1 rfl rfl ⟨_, hx, hin, hkp, by rw [hm]; exact (rL.nil _)⟩
  refine CF.skip (PF.blockNormal (PF.next (CF.seq (CF.region (LF.step (OpOk.assign rfl) (LF.nil (PF.next (CF.ret ?_))))))))
  have hm : needsM e = ([]) := by
    first | (simp [needsM, hc1, hc3, hc4, hc6, hc8, hc9]; done) | (unfold needsM; (repeat' split) <;> first | rfl | (exfalso; omega) | (simp [needsM, hc1, hc3, hc4, hc6, hc8, hc9]; done))
  exact PF.ret1 rfl rfl ⟨_, hx, hin, hkp, by rw [hm]; exact (rL.nil _)⟩

-- jacquard/mach.Needs: function 85
theorem pNeeds_ct {F : PH} {H : Heap} (hin : InH F H) {a0 : Value} {e : D.End} (p0 : rEnd.ra F a0 e) :
    Ct Try.prog 85 #[a0] H (fun v H' => ∃ F', PH.ext H F F' ∧ InH F' H' ∧ Kp H.size H H' ∧ (rL (rI .i64)).rv F' v (needsM e)) := by
  have p0k := rEnd.any p0
  obtain ⟨a0c3, rfl, p0c3⟩ := rEnd.open p0
  have p0c3q := rL.len2 p0c3
  have hkp := Kp.refl H.size H
  have hx := PH.ext.refl (H := H) F
  refine Ct.enter (args := [.agg #[.int .i64 e.Op, .int .i64 e.A, .int .i64 e.B, a0c3, .int .i32 e.Imm]]) Try.func85 rfl rfl rfl (fun w0 hw0 => ?_)
  refine CF.seq (CF.region ?_)
  refine LF.chg (OpCh.boxB rfl rfl) ?_
  rintro _ H1 ⟨g1, rfl, eg1, sg1, kg1, hb1⟩
  have ng1 := hin.nope (Nat.le_of_eq eg1.symm)
  have lg1 := hkp.1
  have zkg1 := kg1.1
  replace hin := hin.kp kg1
  replace hkp := hkp.trans (kg1.mono hkp.1)
  clear kg1
  refine LF.step (OpOk.assign rfl) (LF.nil (PF.next (CF.seq (CF.block (CF.seq (CF.region ?_))))))
  refine LF.step (OpOk.fieldAddr (Try.fld55_0) rfl) ?_
  refine LF.step (OpOk.ldBx hb1 Try.one3 rfl rfl) ?_
  refine LF.step (OpOk.eql rfl rfl) ?_
  refine LF.step (OpOk.move rfl) ?_
  refine LF.gstep rfl rfl (.f _) (fun hg => OpOk.fieldAddr (Try.fld55_0) rfl) ?_
  refine LF.gstep rfl rfl (.f _) (fun hg => OpOk.ldBx hb1 Try.one3 (evg rfl hg) rfl) ?_
  refine LF.gstep rfl rfl (.f _) (fun hg => OpOk.eql (evg rfl hg) rfl) ?_
  refine LF.step (OpOk.pickOr rfl rfl) ?_
  refine LF.step (OpOk.move rfl) ?_
  refine LF.gstep rfl rfl (.f _) (fun hg => OpOk.fieldAddr (Try.fld55_0) rfl) ?_
  refine LF.gstep rfl rfl (.f _) (fun hg => OpOk.ldBx hb1 Try.one3 (evg rfl hg) rfl) ?_
  refine LF.gstep rfl rfl (.f _) (fun hg => OpOk.eql (evg rfl hg) rfl) ?_
  refine LF.gstep rfl rfl (.f _) (fun hg => OpOk.move (evg rfl hg)) ?_
  refine LF.gstep rfl rfl (.gt _ _) (fun hg => OpOk.fieldAddr (Try.fld55_1) rfl) ?_
  refine LF.gstep rfl rfl (.gt _ _) (fun hg => OpOk.ldBx hb1 Try.one3 (evg rfl hg) rfl) ?_
  refine LF.gstep rfl rfl (.gt _ _) (fun hg => OpOk.geq (evg rfl hg) rfl) ?_
  refine LF.gstep rfl rfl (.f _) (fun hg => OpOk.pickAnd2 hg rfl rfl) ?_
  refine LF.step (OpOk.pickOr rfl rfl) ?_
  refine LF.step (OpOk.assign rfl) (LF.nil (PF.next ?_))
  refine CF.if rfl (fun hc1 => ?_) (fun hc1 => ?_)
  refine CF.seq (CF.region ?_)
  refine LF.step (OpOk.fieldAddr (Try.fld55_1) rfl) ?_
  refine LF.step (OpOk.ldBx hb1 Try.one3 rfl rfl) ?_
  refine LF.chg (OpCh.litL (F := F) (r := (rI .i64)) (l := [e.A]) (us := [.int .i64 e.A]) (cs := [[.int .i64 e.A]]) Try.underlying38 Try.info3 (by decide) rfl rfl rfl ⟨rfl, rfl, ⟨rfl, (rEnd.w_A (m := e) p0k)⟩, trivial⟩) ?_
  rintro _ H24 ⟨g24, rfl, e24, s24, k24, x24⟩
  have l24 := hkp.1
  replace x24 := (x24 hin).base l24
  have zk24 := k24.1
  replace hin := hin.kp k24
  replace hkp := hkp.trans (k24.mono hkp.1)
  replace hb1 := hb1.kp k24
  refine LF.step (OpOk.assign rfl) (LF.nil (PF.next (CF.ret (PF.blockRet (PF.thenRet ?_)))))
  obtain ⟨Fz1, hxz1, lez1, hinz1, _, hrz1⟩ := x24.freezeX hin hx (Nat.le_refl _) (by first | (simp only [List.length_append, List.length_take, List.length_drop, List.length_nil, List.length_cons, List.length_set, List.length_replicate]; omega) | (simp; done) | (simp; omega) | omega)
  replace hin := hinz1
  replace hx := hxz1
  have le0 := lez1
  have hm : needsM e = ([e.A]) := by
    first | (simp [needsM, hc1]; done) | (unfold needsM; (repeat' split) <;> first | rfl | (exfalso; omega) | (simp [needsM, hc1]; done))
  exact PF.ret1 rfl rfl ⟨_, hx, hin, hkp, by rw [hm]; exact hrz1⟩
  refine CF.seq (CF.region ?_)
  refine LF.step (OpOk.fieldAddr (Try.fld55_0) rfl) ?_
  refine LF.step (OpOk.ldBx hb1 Try.one3 rfl rfl) ?_
  refine LF.step (OpOk.geq rfl rfl) ?_
  refine LF.step (OpOk.move rfl) ?_
  refine LF.gstep rfl rfl (.t _) (fun hg => OpOk.fieldAddr (Try.fld55_0) rfl) ?_
  refine LF.gstep rfl rfl (.t _) (fun hg => OpOk.ldBx hb1 Try.one3 (evg rfl hg) rfl) ?_
  refine LF.gstep rfl rfl (.t _) (fun hg => OpOk.leq (evg rfl hg) rfl) ?_
  refine LF.step (OpOk.pickAnd rfl rfl) ?_
  refine LF.step (OpOk.assign rfl) (LF.nil (PF.next ?_))
  refine CF.if rfl (fun hc2 => ?_) (fun hc2 => ?_)
  refine CF.seq (CF.region ?_)
  refine LF.step (OpOk.fieldAddr (Try.fld55_1) rfl) ?_
  refine LF.step (OpOk.ldBx hb1 Try.one3 rfl rfl) ?_
  refine LF.step (OpOk.fieldAddr (Try.fld55_2) rfl) ?_
  refine LF.step (OpOk.ldBx hb1 Try.one3 rfl rfl) ?_
  refine LF.chg (OpCh.litL (F := F) (r := (rI .i64)) (l := [e.A, e.B]) (us := [.int .i64 e.A, .int .i64 e.B]) (cs := [[.int .i64 e.A], [.int .i64 e.B]]) Try.underlying38 Try.info3 (by decide) rfl rfl rfl ⟨rfl, rfl, ⟨rfl, (rEnd.w_A (m := e) p0k)⟩, ⟨rfl, rfl, ⟨rfl, (rEnd.w_B (m := e) p0k)⟩, trivial⟩⟩) ?_
  rintro _ H38 ⟨g38, rfl, e38, s38, k38, x38⟩
  have l38 := hkp.1
  replace x38 := (x38 hin).base l38
  have zk38 := k38.1
  replace hin := hin.kp k38
  replace hkp := hkp.trans (k38.mono hkp.1)
  replace hb1 := hb1.kp k38
  refine LF.step (OpOk.assign rfl) (LF.nil (PF.next (CF.ret (PF.blockRet (PF.thenRet ?_)))))
  obtain ⟨Fz2, hxz2, lez2, hinz2, _, hrz2⟩ := x38.freezeX hin hx (Nat.le_refl _) (by first | (simp only [List.length_append, List.length_take, List.length_drop, List.length_nil, List.length_cons, List.length_set, List.length_replicate]; omega) | (simp; done) | (simp; omega) | omega)
  replace hin := hinz2
  replace hx := hxz2
  have le0 := lez2
  have hm : needsM e = ([e.A, e.B]) := by
    first | (simp [needsM, hc1, hc2]; done) | (unfold needsM; (repeat' split) <;> first | rfl | (exfalso; omega) | (simp [needsM, hc1, hc2]; done))
  exact PF.ret1 rfl rfl ⟨_, hx, hin, hkp, by rw [hm]; exact hrz2⟩
  refine CF.skip (PF.blockNormal (PF.next (CF.seq (CF.region (LF.step (OpOk.assign rfl) (LF.nil (PF.next (CF.ret ?_))))))))
  have hm : needsM e = ([]) := by
    first | (simp [needsM, hc1, hc2]; done) | (unfold needsM; (repeat' split) <;> first | rfl | (exfalso; omega) | (simp [needsM, hc1, hc2]; done))
  exact PF.ret1 rfl rfl ⟨_, hx, hin, hkp, by rw [hm]; exact (rL.nil _)⟩

-- slices.Clone[[]int,int]: function 77
theorem clone_ct {F : PH} {H : Heap} (hin : InH F H) {a0 : Value} {l : List Int} (p0 : (rL (rI .i64)).rv F a0 l) :
    Ct Try.prog 77 #[a0] H (fun v H' => Gl (rI .i64) 3 F H' H.size v (id l) ∧ Kp H.size H H') := by
  have q0 := rL.len2 p0
  have hkp := Kp.refl H.size H
  have hx := PH.ext.refl (H := H) F
  refine Ct.enter (args := [a0]) Try.func77 rfl rfl rfl (fun w0 hw0 => ?_)
  refine CF.seq (CF.region (LF.step (OpOk.assign rfl) (LF.nil (PF.next (CF.seq (CF.seq (CF.region (LF.step (OpOk.move rfl) ?_))))))))
  refine LF.stepE (OpOk.eqlNilS Try.underlying38 p0 (by decide) rfl rfl) ?_
  rintro _ ⟨b4, rfl, hnil4⟩
  refine LF.nil (PF.next ?_)
  refine CF.if rfl (fun hc1 => ?_) (fun hc1 => ?_)
  refine CF.seq (CF.region (LF.step (OpOk.assign rfl) (LF.nil (PF.next (CF.ret (PF.thenRet ?_))))))
  have hm : id l = ([]) := by
    first | rfl | (rw [hnil4 hc1]; rfl) | simp
  exact PF.ret1 rfl rfl ⟨by rw [hm]; exact Gl.nil _ _ _, hkp⟩
  refine CF.skip (PF.next (CF.seq (CF.region ?_)))
  refine LF.chg (OpCh.litL (F := F) (r := (rI .i64)) (l := []) (us := []) (cs := []) Try.underlying38 Try.info3 (by decide) rfl rfl rfl trivial) ?_
  rintro _ H5 ⟨g5, rfl, e5, s5, k5, x5⟩
  have l5 := hkp.1
  replace x5 := (x5 hin).base l5
  have zk5 := k5.1
  replace hin := hin.kp k5
  replace hkp := hkp.trans (k5.mono hkp.1)
  refine LF.step (OpOk.move rfl) ?_
  refine LF.chg (OpCh.appL (r := (rI .i64)) Try.underlying38 Try.info3 (by decide) rfl rfl rfl x5 p0 hin (by first | (simp only [List.length_append, List.length_take, List.length_drop, List.length_nil, List.length_cons, List.length_set, List.length_replicate]; omega) | (simp; done) | (simp; omega) | omega) (by omega)) ?_
  rintro v7 H7 ⟨x7, gb7, ob7⟩
  replace hin := hin.grown gb7 x5.no
  replace hkp := gb7.kp hkp (Nat.le_refl _) (fun k0 hk0 => (x5.blk k0 hk0).1)
  rw [List.nil_append] at x7
  refine LF.step (OpOk.assign rfl) (LF.nil (PF.next (CF.ret ?_)))
  have hm : id l = l := by
    first | rfl | (rw [hnil4 hc1]; rfl) | simp
  exact PF.ret1 rfl rfl ⟨by rw [hm]; exact x7, hkp⟩

def km1 (_ : D.Mach) : List Int := []
def km2 (i : D.Mach) : List Int := [i.D]
def km3 (i : D.Mach) : List Int := [i.A]
def km4 (i : D.Mach) : List Int := [i.A, i.B]
def km5 (i : D.Mach) : List Int := [i.A, i.B, i.C]
def km6 (i : D.Mach) : List Int := i.Args
def km7 (i : D.Mach) : List Int := [i.D, i.E]
-- jacquard/mach.kindOf$1: function 71
theorem kind1_ct {F : PH} {H : Heap} (hin : InH F H) {a0 : Value} {i : D.Mach} (p0 : rMach.ra F a0 i) :
    Ct Try.prog 71 #[a0] H (fun v H' => ∃ F', PH.ext H F F' ∧ InH F' H' ∧ Kp H.size H H' ∧ (rL (rI .i64)).rv F' v (km1 i)) := by
  have p0k := rMach.any p0
  obtain ⟨a0c7, rfl, p0c7⟩ := rMach.open p0
  have p0c7q := rL.len2 p0c7
  have hkp := Kp.refl H.size H
  have hx := PH.ext.refl (H := H) F
  refine Ct.enter (args := [.agg #[.int .i64 i.Op, .int .i64 i.D, .int .i64 i.E, .int .i64 i.A, .int .i64 i.B, .int .i64 i.C, .int .i32 i.Imm, a0c7]]) Try.func71 rfl rfl rfl (fun w0 hw0 => ?_)
  refine CF.seq (CF.region ?_)
  refine LF.chg (OpCh.boxB rfl rfl) ?_
  rintro _ H1 ⟨g1, rfl, eg1, sg1, kg1, hb1⟩
  have ng1 := hin.nope (Nat.le_of_eq eg1.symm)
  have lg1 := hkp.1
  have zkg1 := kg1.1
  replace hin := hin.kp kg1
  replace hkp := hkp.trans (kg1.mono hkp.1)
  clear kg1
  refine LF.step (OpOk.assign rfl) (LF.nil (PF.next (CF.seq (CF.region (LF.step (OpOk.assign rfl) (LF.nil (PF.next (CF.ret ?_))))))))
  have hm : km1 i = ([]) := by
    rfl
  exact PF.ret1 rfl rfl ⟨_, hx, hin, hkp, by rw [hm]; exact (rL.nil _)⟩

-- jacquard/mach.kindOf$2: function 72
theorem kind2_ct {F : PH} {H : Heap} (hin : InH F H) {a0 : Value} {i : D.Mach} (p0 : rMach.ra F a0 i) :
    Ct Try.prog 72 #[a0] H (fun v H' => ∃ F', PH.ext H F F' ∧ InH F' H' ∧ Kp H.size H H' ∧ (rL (rI .i64)).rv F' v (km2 i)) := by
  have p0k := rMach.any p0
  obtain ⟨a0c7, rfl, p0c7⟩ := rMach.open p0
  have p0c7q := rL.len2 p0c7
  have hkp := Kp.refl H.size H
  have hx := PH.ext.refl (H := H) F
  refine Ct.enter (args := [.agg #[.int .i64 i.Op, .int .i64 i.D, .int .i64 i.E, .int .i64 i.A, .int .i64 i.B, .int .i64 i.C, .int .i32 i.Imm, a0c7]]) Try.func72 rfl rfl rfl (fun w0 hw0 => ?_)
  refine CF.seq (CF.region ?_)
  refine LF.chg (OpCh.boxB rfl rfl) ?_
  rintro _ H1 ⟨g1, rfl, eg1, sg1, kg1, hb1⟩
  have ng1 := hin.nope (Nat.le_of_eq eg1.symm)
  have lg1 := hkp.1
  have zkg1 := kg1.1
  replace hin := hin.kp kg1
  replace hkp := hkp.trans (kg1.mono hkp.1)
  clear kg1
  refine LF.step (OpOk.assign rfl) (LF.nil (PF.next (CF.seq (CF.region ?_))))
  refine LF.step (OpOk.fieldAddr (Try.fld40_1) rfl) ?_
  refine LF.step (OpOk.ldBx hb1 Try.one3 rfl rfl) ?_
  refine LF.chg (OpCh.litL (F := F) (r := (rI .i64)) (l := [i.D]) (us := [.int .i64 i.D]) (cs := [[.int .i64 i.D]]) Try.underlying38 Try.info3 (by decide) rfl rfl rfl ⟨rfl, rfl, ⟨rfl, (rMach.w_D (m := i) p0k)⟩, trivial⟩) ?_
  rintro _ H5 ⟨g5, rfl, e5, s5, k5, x5⟩
  have l5 := hkp.1
  replace x5 := (x5 hin).base l5
  have zk5 := k5.1
  replace hin := hin.kp k5
  replace hkp := hkp.trans (k5.mono hkp.1)
  replace hb1 := hb1.kp k5
  refine LF.step (OpOk.assign rfl) (LF.nil (PF.next (CF.ret ?_)))
  obtain ⟨Fz1, hxz1, lez1, hinz1, _, hrz1⟩ := x5.freezeX hin hx (Nat.le_refl _) (by first | (simp only [List.length_append, List.length_take, List.length_drop, List.length_nil, List.length_cons, List.length_set, List.length_replicate]; omega) | (simp; done) | (simp; omega) | omega)
  replace hin := hinz1
  replace hx := hxz1
  have le0 := lez1
  have hm : km2 i = ([i.D]) := by
    rfl
  exact PF.ret1 rfl rfl ⟨_, hx, hin, hkp, by rw [hm]; exact hrz1⟩

-- jacquard/mach.kindOf$3: function 73
theorem kind3_ct {F : PH} {H : Heap} (hin : InH F H) {a0 : Value} {i : D.Mach} (p0 : rMach.ra F a0 i) :
    Ct Try.prog 73 #[a0] H (fun v H' => ∃ F', PH.ext H F F' ∧ InH F' H' ∧ Kp H.size H H' ∧ (rL (rI .i64)).rv F' v (km3 i)) := by
  have p0k := rMach.any p0
  obtain ⟨a0c7, rfl, p0c7⟩ := rMach.open p0
  have p0c7q := rL.len2 p0c7
  have hkp := Kp.refl H.size H
  have hx := PH.ext.refl (H := H) F
  refine Ct.enter (args := [.agg #[.int .i64 i.Op, .int .i64 i.D, .int .i64 i.E, .int .i64 i.A, .int .i64 i.B, .int .i64 i.C, .int .i32 i.Imm, a0c7]]) Try.func73 rfl rfl rfl (fun w0 hw0 => ?_)
  refine CF.seq (CF.region ?_)
  refine LF.chg (OpCh.boxB rfl rfl) ?_
  rintro _ H1 ⟨g1, rfl, eg1, sg1, kg1, hb1⟩
  have ng1 := hin.nope (Nat.le_of_eq eg1.symm)
  have lg1 := hkp.1
  have zkg1 := kg1.1
  replace hin := hin.kp kg1
  replace hkp := hkp.trans (kg1.mono hkp.1)
  clear kg1
  refine LF.step (OpOk.assign rfl) (LF.nil (PF.next (CF.seq (CF.region ?_))))
  refine LF.step (OpOk.fieldAddr (Try.fld40_3) rfl) ?_
  refine LF.step (OpOk.ldBx hb1 Try.one3 rfl rfl) ?_
  refine LF.chg (OpCh.litL (F := F) (r := (rI .i64)) (l := [i.A]) (us := [.int .i64 i.A]) (cs := [[.int .i64 i.A]]) Try.underlying38 Try.info3 (by decide) rfl rfl rfl ⟨rfl, rfl, ⟨rfl, (rMach.w_A (m := i) p0k)⟩, trivial⟩) ?_
  rintro _ H5 ⟨g5, rfl, e5, s5, k5, x5⟩
  have l5 := hkp.1
  replace x5 := (x5 hin).base l5
  have zk5 := k5.1
  replace hin := hin.kp k5
  replace hkp := hkp.trans (k5.mono hkp.1)
  replace hb1 := hb1.kp k5
  refine LF.step (OpOk.assign rfl) (LF.nil (PF.next (CF.ret ?_)))
  obtain ⟨Fz1, hxz1, lez1, hinz1, _, hrz1⟩ := x5.freezeX hin hx (Nat.le_refl _) (by first | (simp only [List.length_append, List.length_take, List.length_drop, List.length_nil, List.length_cons, List.length_set, List.length_replicate]; omega) | (simp; done) | (simp; omega) | omega)
  replace hin := hinz1
  replace hx := hxz1
  have le0 := lez1
  have hm : km3 i = ([i.A]) := by
    rfl
  exact PF.ret1 rfl rfl ⟨_, hx, hin, hkp, by rw [hm]; exact hrz1⟩

-- jacquard/mach.kindOf$4: function 74
theorem kind4_ct {F : PH} {H : Heap} (hin : InH F H) {a0 : Value} {i : D.Mach} (p0 : rMach.ra F a0 i) :
    Ct Try.prog 74 #[a0] H (fun v H' => ∃ F', PH.ext H F F' ∧ InH F' H' ∧ Kp H.size H H' ∧ (rL (rI .i64)).rv F' v (km4 i)) := by
  have p0k := rMach.any p0
  obtain ⟨a0c7, rfl, p0c7⟩ := rMach.open p0
  have p0c7q := rL.len2 p0c7
  have hkp := Kp.refl H.size H
  have hx := PH.ext.refl (H := H) F
  refine Ct.enter (args := [.agg #[.int .i64 i.Op, .int .i64 i.D, .int .i64 i.E, .int .i64 i.A, .int .i64 i.B, .int .i64 i.C, .int .i32 i.Imm, a0c7]]) Try.func74 rfl rfl rfl (fun w0 hw0 => ?_)
  refine CF.seq (CF.region ?_)
  refine LF.chg (OpCh.boxB rfl rfl) ?_
  rintro _ H1 ⟨g1, rfl, eg1, sg1, kg1, hb1⟩
  have ng1 := hin.nope (Nat.le_of_eq eg1.symm)
  have lg1 := hkp.1
  have zkg1 := kg1.1
  replace hin := hin.kp kg1
  replace hkp := hkp.trans (kg1.mono hkp.1)
  clear kg1
  refine LF.step (OpOk.assign rfl) (LF.nil (PF.next (CF.seq (CF.region ?_))))
  refine LF.step (OpOk.fieldAddr (Try.fld40_3) rfl) ?_
  refine LF.step (OpOk.ldBx hb1 Try.one3 rfl rfl) ?_
  refine LF.step (OpOk.fieldAddr (Try.fld40_4) rfl) ?_
  refine LF.step (OpOk.ldBx hb1 Try.one3 rfl rfl) ?_
  refine LF.chg (OpCh.litL (F := F) (r := (rI .i64)) (l := [i.A, i.B]) (us := [.int .i64 i.A, .int .i64 i.B]) (cs := [[.int .i64 i.A], [.int .i64 i.B]]) Try.underlying38 Try.info3 (by decide) rfl rfl rfl ⟨rfl, rfl, ⟨rfl, (rMach.w_A (m := i) p0k)⟩, ⟨rfl, rfl, ⟨rfl, (rMach.w_B (m := i) p0k)⟩, trivial⟩⟩) ?_
  rintro _ H7 ⟨g7, rfl, e7, s7, k7, x7⟩
  have l7 := hkp.1
  replace x7 := (x7 hin).base l7
  have zk7 := k7.1
  replace hin := hin.kp k7
  replace hkp := hkp.trans (k7.mono hkp.1)
  replace hb1 := hb1.kp k7
  refine LF.step (OpOk.assign rfl) (LF.nil (PF.next (CF.ret ?_)))
  obtain ⟨Fz1, hxz1, lez1, hinz1, _, hrz1⟩ := x7.freezeX hin hx (Nat.le_refl _) (by first | (simp only [List.length_append, List.length_take, List.length_drop, List.length_nil, List.length_cons, List.length_set, List.length_replicate]; omega) | (simp; done) | (simp; omega) | omega)
  replace hin := hinz1
  replace hx := hxz1
  have le0 := lez1
  have hm : km4 i = ([i.A, i.B]) := by
    rfl
  exact PF.ret1 rfl rfl ⟨_, hx, hin, hkp, by rw [hm]; exact hrz1⟩

-- jacquard/mach.kindOf$5: function 75
theorem kind5_ct {F : PH} {H : Heap} (hin : InH F H) {a0 : Value} {i : D.Mach} (p0 : rMach.ra F a0 i) :
    Ct Try.prog 75 #[a0] H (fun v H' => ∃ F', PH.ext H F F' ∧ InH F' H' ∧ Kp H.size H H' ∧ (rL (rI .i64)).rv F' v (km5 i)) := by
  have p0k := rMach.any p0
  obtain ⟨a0c7, rfl, p0c7⟩ := rMach.open p0
  have p0c7q := rL.len2 p0c7
  have hkp := Kp.refl H.size H
  have hx := PH.ext.refl (H := H) F
  refine Ct.enter (args := [.agg #[.int .i64 i.Op, .int .i64 i.D, .int .i64 i.E, .int .i64 i.A, .int .i64 i.B, .int .i64 i.C, .int .i32 i.Imm, a0c7]]) Try.func75 rfl rfl rfl (fun w0 hw0 => ?_)
  refine CF.seq (CF.region ?_)
  refine LF.chg (OpCh.boxB rfl rfl) ?_
  rintro _ H1 ⟨g1, rfl, eg1, sg1, kg1, hb1⟩
  have ng1 := hin.nope (Nat.le_of_eq eg1.symm)
  have lg1 := hkp.1
  have zkg1 := kg1.1
  replace hin := hin.kp kg1
  replace hkp := hkp.trans (kg1.mono hkp.1)
  clear kg1
  refine LF.step (OpOk.assign rfl) (LF.nil (PF.next (CF.seq (CF.region ?_))))
  refine LF.step (OpOk.fieldAddr (Try.fld40_3) rfl) ?_
  refine LF.step (OpOk.ldBx hb1 Try.one3 rfl rfl) ?_
  refine LF.step (OpOk.fieldAddr (Try.fld40_4) rfl) ?_
  refine LF.step (OpOk.ldBx hb1 Try.one3 rfl rfl) ?_
  refine LF.step (OpOk.fieldAddr (Try.fld40_5) rfl) ?_
  refine LF.step (OpOk.ldBx hb1 Try.one3 rfl rfl) ?_
  refine LF.chg (OpCh.litL (F := F) (r := (rI .i64)) (l := [i.A, i.B, i.C]) (us := [.int .i64 i.A, .int .i64 i.B, .int .i64 i.C]) (cs := [[.int .i64 i.A], [.int .i64 i.B], [.int .i64 i.C]]) Try.underlying38 Try.info3 (by decide) rfl rfl rfl ⟨rfl, rfl, ⟨rfl, (rMach.w_A (m := i) p0k)⟩, ⟨rfl, rfl, ⟨rfl, (rMach.w_B (m := i) p0k)⟩, ⟨rfl, rfl, ⟨rfl, (rMach.w_C (m := i) p0k)⟩, trivial⟩⟩⟩) ?_
  rintro _ H9 ⟨g9, rfl, e9, s9, k9, x9⟩
  have l9 := hkp.1
  replace x9 := (x9 hin).base l9
  have zk9 := k9.1
  replace hin := hin.kp k9
  replace hkp := hkp.trans (k9.mono hkp.1)
  replace hb1 := hb1.kp k9
  refine LF.step (OpOk.assign rfl) (LF.nil (PF.next (CF.ret ?_)))
  obtain ⟨Fz1, hxz1, lez1, hinz1, _, hrz1⟩ := x9.freezeX hin hx (Nat.le_refl _) (by first | (simp only [List.length_append, List.length_take, List.length_drop, List.length_nil, List.length_cons, List.length_set, List.length_replicate]; omega) | (simp; done) | (simp; omega) | omega)
  replace hin := hinz1
  replace hx := hxz1
  have le0 := lez1
  have hm : km5 i = ([i.A, i.B, i.C]) := by
    rfl
  exact PF.ret1 rfl rfl ⟨_, hx, hin, hkp, by rw [hm]; exact hrz1⟩

-- jacquard/mach.kindOf$6: function 76
theorem kind6_ct {F : PH} {H : Heap} (hin : InH F H) {a0 : Value} {i : D.Mach} (p0 : rMach.ra F a0 i) :
    Ct Try.prog 76 #[a0] H (fun v H' => ∃ F', PH.ext H F F' ∧ InH F' H' ∧ Kp H.size H H' ∧ (rL (rI .i64)).rv F' v (km6 i)) := by
  have p0k := rMach.any p0
  obtain ⟨a0c7, rfl, p0c7⟩ := rMach.open p0
  have p0c7q := rL.len2 p0c7
  have hkp := Kp.refl H.size H
  have hx := PH.ext.refl (H := H) F
  refine Ct.enter (args := [.agg #[.int .i64 i.Op, .int .i64 i.D, .int .i64 i.E, .int .i64 i.A, .int .i64 i.B, .int .i64 i.C, .int .i32 i.Imm, a0c7]]) Try.func76 rfl rfl rfl (fun w0 hw0 => ?_)
  refine CF.seq (CF.region ?_)
  refine LF.chg (OpCh.boxB rfl rfl) ?_
  rintro _ H1 ⟨g1, rfl, eg1, sg1, kg1, hb1⟩
  have ng1 := hin.nope (Nat.le_of_eq eg1.symm)
  have lg1 := hkp.1
  have zkg1 := kg1.1
  replace hin := hin.kp kg1
  replace hkp := hkp.trans (kg1.mono hkp.1)
  clear kg1
  refine LF.step (OpOk.assign rfl) (LF.nil (PF.next (CF.seq (CF.region ?_))))
  refine LF.step (OpOk.fieldAddr (Try.fld40_7) rfl) ?_
  refine LF.step (OpOk.ldBx hb1 Try.one38 rfl rfl) ?_
  refine LF.call (OpCall.fn Try.ent77 rfl rfl) (clone_ct hin p0c7) ?_
  rintro v5 H5 ⟨x5, k5⟩
  replace x5 := x5.base hkp.1
  have zk5 := k5.1
  replace hin := hin.kp k5
  replace hkp := hkp.trans (k5.mono hkp.1)
  replace hb1 := hb1.kp k5
  refine LF.step (OpOk.assign rfl) (LF.nil (PF.next (CF.ret ?_)))
  obtain ⟨Fz1, hxz1, lez1, hinz1, _, hrz1⟩ := x5.freezeX hin hx (Nat.le_refl _) (by first | (simp only [List.length_append, List.length_take, List.length_drop, List.length_nil, List.length_cons, List.length_set, List.length_replicate]; omega) | (simp; done) | (simp; omega) | omega)
  replace hin := hinz1
  replace hx := hxz1
  have le0 := lez1
  have hm : km6 i = (id i.Args) := by
    rfl
  exact PF.ret1 rfl rfl ⟨_, hx, hin, hkp, by rw [hm]; exact hrz1⟩

-- jacquard/mach.kindOf$7: function 78
theorem kind7_ct {F : PH} {H : Heap} (hin : InH F H) {a0 : Value} {i : D.Mach} (p0 : rMach.ra F a0 i) :
    Ct Try.prog 78 #[a0] H (fun v H' => ∃ F', PH.ext H F F' ∧ InH F' H' ∧ Kp H.size H H' ∧ (rL (rI .i64)).rv F' v (km7 i)) := by
  have p0k := rMach.any p0
  obtain ⟨a0c7, rfl, p0c7⟩ := rMach.open p0
  have p0c7q := rL.len2 p0c7
  have hkp := Kp.refl H.size H
  have hx := PH.ext.refl (H := H) F
  refine Ct.enter (args := [.agg #[.int .i64 i.Op, .int .i64 i.D, .int .i64 i.E, .int .i64 i.A, .int .i64 i.B, .int .i64 i.C, .int .i32 i.Imm, a0c7]]) Try.func78 rfl rfl rfl (fun w0 hw0 => ?_)
  refine CF.seq (CF.region ?_)
  refine LF.chg (OpCh.boxB rfl rfl) ?_
  rintro _ H1 ⟨g1, rfl, eg1, sg1, kg1, hb1⟩
  have ng1 := hin.nope (Nat.le_of_eq eg1.symm)
  have lg1 := hkp.1
  have zkg1 := kg1.1
  replace hin := hin.kp kg1
  replace hkp := hkp.trans (kg1.mono hkp.1)
  clear kg1
  refine LF.step (OpOk.assign rfl) (LF.nil (PF.next (CF.seq (CF.region ?_))))
  refine LF.step (OpOk.fieldAddr (Try.fld40_1) rfl) ?_
  refine LF.step (OpOk.ldBx hb1 Try.one3 rfl rfl) ?_
  refine LF.step (OpOk.fieldAddr (Try.fld40_2) rfl) ?_
  refine LF.step (OpOk.ldBx hb1 Try.one3 rfl rfl) ?_
  refine LF.chg (OpCh.litL (F := F) (r := (rI .i64)) (l := [i.D, i.E]) (us := [.int .i64 i.D, .int .i64 i.E]) (cs := [[.int .i64 i.D], [.int .i64 i.E]]) Try.underlying38 Try.info3 (by decide) rfl rfl rfl ⟨rfl, rfl, ⟨rfl, (rMach.w_D (m := i) p0k)⟩, ⟨rfl, rfl, ⟨rfl, (rMach.w_E (m := i) p0k)⟩, trivial⟩⟩) ?_
  rintro _ H7 ⟨g7, rfl, e7, s7, k7, x7⟩
  have l7 := hkp.1
  replace x7 := (x7 hin).base l7
  have zk7 := k7.1
  replace hin := hin.kp k7
  replace hkp := hkp.trans (k7.mono hkp.1)
  replace hb1 := hb1.kp k7
  refine LF.step (OpOk.assign rfl) (LF.nil (PF.next (CF.ret ?_)))
  obtain ⟨Fz1, hxz1, lez1, hinz1, _, hrz1⟩ := x7.freezeX hin hx (Nat.le_refl _) (by first | (simp only [List.length_append, List.length_take, List.length_drop, List.length_nil, List.length_cons, List.length_set, List.length_replicate]; omega) | (simp; done) | (simp; omega) | omega)
  replace hin := hinz1
  replace hx := hxz1
  have le0 := lez1
  have hm : km7 i = ([i.D, i.E]) := by
    rfl
  exact PF.ret1 rfl rfl ⟨_, hx, hin, hkp, by rw [hm]; exact hrz1⟩

def kfun (k : Nat) : Value := .func (.func k) #[] #[]
def kTab (op : Int) : Prop := (1 ≤ op ∧ op ≤ 4) ∨ (23 ≤ op ∧ op ≤ 31)
def takesF (op : Int) : Nat := if op = 1 ∨ op = 24 ∨ op = 31 ∨ (18 ≤ op ∧ op ≤ 22) then 73 else if op = 2 ∨ op = 25 ∨ op = 26 ∨ op = 29 ∨ (5 ≤ op ∧ op ≤ 17) then 74 else if op = 23 ∨ op = 27 then 75 else if op = 28 then 76 else 71
def makesF (op : Int) : Nat := if op = 2 then 74 else if op = 29 then 78 else if op = 26 ∨ op = 27 ∨ op = 31 ∨ op < 1 ∨ 31 < op then 71 else 72
def kindV (op : Int) : Value := .agg #[kfun (takesF op), kfun (makesF op)]

theorem ktab (op : Int) : ((.tuple #[(lkM [(1, .agg #[.func (.func 73) #[] #[], .func (.func 72) #[] #[]]), (2, .agg #[.func (.func 74) #[] #[], .func (.func 74) #[] #[]]), (3, .agg #[.func (.func 71) #[] #[], .func (.func 72) #[] #[]]), (4, .agg #[.func (.func 71) #[] #[], .func (.func 72) #[] #[]]), (23, .agg #[.func (.func 75) #[] #[], .func (.func 72) #[] #[]]), (24, .agg #[.func (.func 73) #[] #[], .func (.func 72) #[] #[]]), (25, .agg #[.func (.func 74) #[] #[], .func (.func 72) #[] #[]]), (26, .agg #[.func (.func 74) #[] #[], .func (.func 71) #[] #[]]), (27, .agg #[.func (.func 75) #[] #[], .func (.func 71) #[] #[]]), (28, .agg #[.func (.func 76) #[] #[], .func (.func 72) #[] #[]]), (29, .agg #[.func (.func 74) #[] #[], .func (.func 78) #[] #[]]), (30, .agg #[.func (.func 71) #[] #[], .func (.func 72) #[] #[]]), (31, .agg #[.func (.func 73) #[] #[], .func (.func 71) #[] #[]])] op).getD (.agg #[.nilFunc, .nilFunc]), .bool (lkM [(1, .agg #[.func (.func 73) #[] #[], .func (.func 72) #[] #[]]), (2, .agg #[.func (.func 74) #[] #[], .func (.func 74) #[] #[]]), (3, .agg #[.func (.func 71) #[] #[], .func (.func 72) #[] #[]]), (4, .agg #[.func (.func 71) #[] #[], .func (.func 72) #[] #[]]), (23, .agg #[.func (.func 75) #[] #[], .func (.func 72) #[] #[]]), (24, .agg #[.func (.func 73) #[] #[], .func (.func 72) #[] #[]]), (25, .agg #[.func (.func 74) #[] #[], .func (.func 72) #[] #[]]), (26, .agg #[.func (.func 74) #[] #[], .func (.func 71) #[] #[]]), (27, .agg #[.func (.func 75) #[] #[], .func (.func 71) #[] #[]]), (28, .agg #[.func (.func 76) #[] #[], .func (.func 72) #[] #[]]), (29, .agg #[.func (.func 74) #[] #[], .func (.func 78) #[] #[]]), (30, .agg #[.func (.func 71) #[] #[], .func (.func 72) #[] #[]]), (31, .agg #[.func (.func 73) #[] #[], .func (.func 71) #[] #[]])] op).isSome] : Value) = .tuple #[.agg #[kfun (takesF op), kfun (makesF op)], .bool true] ∧ kTab op) ∨ ((.tuple #[(lkM [(1, .agg #[.func (.func 73) #[] #[], .func (.func 72) #[] #[]]), (2, .agg #[.func (.func 74) #[] #[], .func (.func 74) #[] #[]]), (3, .agg #[.func (.func 71) #[] #[], .func (.func 72) #[] #[]]), (4, .agg #[.func (.func 71) #[] #[], .func (.func 72) #[] #[]]), (23, .agg #[.func (.func 75) #[] #[], .func (.func 72) #[] #[]]), (24, .agg #[.func (.func 73) #[] #[], .func (.func 72) #[] #[]]), (25, .agg #[.func (.func 74) #[] #[], .func (.func 72) #[] #[]]), (26, .agg #[.func (.func 74) #[] #[], .func (.func 71) #[] #[]]), (27, .agg #[.func (.func 75) #[] #[], .func (.func 71) #[] #[]]), (28, .agg #[.func (.func 76) #[] #[], .func (.func 72) #[] #[]]), (29, .agg #[.func (.func 74) #[] #[], .func (.func 78) #[] #[]]), (30, .agg #[.func (.func 71) #[] #[], .func (.func 72) #[] #[]]), (31, .agg #[.func (.func 73) #[] #[], .func (.func 71) #[] #[]])] op).getD (.agg #[.nilFunc, .nilFunc]), .bool (lkM [(1, .agg #[.func (.func 73) #[] #[], .func (.func 72) #[] #[]]), (2, .agg #[.func (.func 74) #[] #[], .func (.func 74) #[] #[]]), (3, .agg #[.func (.func 71) #[] #[], .func (.func 72) #[] #[]]), (4, .agg #[.func (.func 71) #[] #[], .func (.func 72) #[] #[]]), (23, .agg #[.func (.func 75) #[] #[], .func (.func 72) #[] #[]]), (24, .agg #[.func (.func 73) #[] #[], .func (.func 72) #[] #[]]), (25, .agg #[.func (.func 74) #[] #[], .func (.func 72) #[] #[]]), (26, .agg #[.func (.func 74) #[] #[], .func (.func 71) #[] #[]]), (27, .agg #[.func (.func 75) #[] #[], .func (.func 71) #[] #[]]), (28, .agg #[.func (.func 76) #[] #[], .func (.func 72) #[] #[]]), (29, .agg #[.func (.func 74) #[] #[], .func (.func 78) #[] #[]]), (30, .agg #[.func (.func 71) #[] #[], .func (.func 72) #[] #[]]), (31, .agg #[.func (.func 73) #[] #[], .func (.func 71) #[] #[]])] op).isSome] : Value) = .tuple #[.agg #[.nilFunc, .nilFunc], .bool false] ∧ ¬ kTab op) := by
  by_cases ho : kTab op
  · refine .inl ⟨?_, ho⟩
    have hc : op = 1 ∨ op = 2 ∨ op = 3 ∨ op = 4 ∨ op = 23 ∨ op = 24 ∨ op = 25 ∨ op = 26 ∨ op = 27 ∨ op = 28 ∨ op = 29 ∨ op = 30 ∨ op = 31 := by unfold kTab at ho; omega
    rcases hc with rfl | rfl | rfl | rfl | rfl | rfl | rfl | rfl | rfl | rfl | rfl | rfl | rfl <;> rfl
  · refine .inr ⟨?_, ho⟩
    have h1 : ∀ k : Int, ((1 ≤ k ∧ k ≤ 4) ∨ (23 ≤ k ∧ k ≤ 31)) → (k == op) = false := fun k h2 => by rw [beq_eq_false_iff_ne]; unfold kTab at ho; omega
    simp [lkM, List.find?, h1]

theorem kindV5 {op : Int} (h : 5 ≤ op ∧ op ≤ 17) : Value.agg #[.func (.func 74) #[] #[], .func (.func 72) #[] #[]] = kindV op := by
  simp only [kindV, takesF, makesF]
  rw [if_neg (by omega), if_pos (by omega), if_neg (by omega), if_neg (by omega), if_neg (by omega)]; rfl
theorem kindV18 {op : Int} (h : 18 ≤ op ∧ op ≤ 22) : Value.agg #[.func (.func 73) #[] #[], .func (.func 72) #[] #[]] = kindV op := by
  simp only [kindV, takesF, makesF]
  rw [if_pos (by omega), if_neg (by omega), if_neg (by omega), if_neg (by omega)]; rfl
theorem kindV0 {op : Int} (h : op < 1 ∨ 31 < op) : Value.agg #[.func (.func 71) #[] #[], .func (.func 71) #[] #[]] = kindV op := by
  simp only [kindV, takesF, makesF]
  rw [if_neg (by omega), if_neg (by omega), if_neg (by omega), if_neg (by omega), if_neg (by omega), if_neg (by omega), if_pos (by omega)]; rfl

-- jacquard/mach.kindOf: function 38
theorem kindV_ct {F : PH} {H : Heap} (hin : InH F H) (op : Int) :
    Ct Try.prog 38 #[.int .i64 op] H (fun v H' => v = kindV op ∧ Kp H.size H H') := by
  have hkp := Kp.refl H.size H
  have hx := PH.ext.refl (H := H) F
  refine Ct.enter (args := [.int .i64 op]) Try.func38 rfl rfl rfl (fun w0 hw0 => ?_)
  refine CF.seq (CF.region ?_)
  refine LF.chg (OpCh.allocB Try.zero84 rfl) ?_
  rintro _ H2 ⟨g2, rfl, eg2, sg2, kg2, hb2⟩
  have ng2 := hin.nope (Nat.le_of_eq eg2.symm)
  have lg2 := hkp.1
  have zkg2 := kg2.1
  replace hin := hin.kp kg2
  replace hkp := hkp.trans (kg2.mono hkp.1)
  clear kg2
  refine LF.nil (PF.next (CF.seq (CF.region (LF.step (OpOk.assign rfl) (LF.nil (PF.next (CF.seq (CF.region (LF.step (OpOk.assign rfl) (LF.nil (PF.next ?_)))))))))))
  refine CF.seq (CF.region (LF.step (OpOk.assign rfl) (LF.nil (PF.next (CF.seq (CF.region (LF.step (OpOk.assign rfl) (LF.nil (PF.next (CF.seq (CF.region ?_)))))))))))
  refine LF.step (OpOk.assign rfl) (LF.nil (PF.next (CF.seq (CF.region (LF.step (OpOk.assign rfl) (LF.nil (PF.next (CF.seq (CF.region (LF.step (OpOk.assign rfl) (LF.nil ?_)))))))))))
  refine PF.next (CF.seq (CF.region ?_))
  refine LF.chg OpCh.makeMapB ?_
  rintro _ H13 ⟨g13, rfl, eg13, sg13, kg13, hm13⟩
  have ng13 := hin.nope (Nat.le_of_eq eg13.symm)
  have lg13 := hkp.1
  have zkg13 := kg13.1
  replace hin := hin.kp kg13
  replace hkp := hkp.trans (kg13.mono hkp.1)
  replace hb2 := hb2.kp kg13
  clear kg13
  refine LF.step (OpOk.move rfl) (LF.step (OpOk.move rfl) ?_)
  refine LF.step (OpOk.build (v := .agg #[.func (.func 73) #[] #[], .func (.func 72) #[] #[]]) rfl (fun w => by kernel_rfl)) ?_
  refine LF.chg0 (OpCh.insert Try.underlying104 Try.underlying3 hm13 rfl rfl rfl) ?_
  rintro _ Hw1 ⟨mw1, tw1⟩
  have ztw1 := tw1.1
  replace hin := hin.tw tw1 ng13
  replace hkp := Tw.kp' hkp tw1 (by omega)
  replace hb2 := hb2.tw tw1 (by omega)
  replace hm13 : Im _ _ [(1, .agg #[.func (.func 73) #[] #[], .func (.func 72) #[] #[]])] := mw1
  clear mw1 tw1
  refine LF.step (OpOk.move rfl) (LF.step (OpOk.move rfl) ?_)
  refine LF.step (OpOk.build (v := .agg #[.func (.func 74) #[] #[], .func (.func 74) #[] #[]]) rfl (fun w => by kernel_rfl)) ?_
  refine LF.chg0 (OpCh.insert Try.underlying104 Try.underlying3 hm13 rfl rfl rfl) ?_
  rintro _ Hw2 ⟨mw2, tw2⟩
  have ztw2 := tw2.1
  replace hin := hin.tw tw2 ng13
  replace hkp := Tw.kp' hkp tw2 (by omega)
  replace hb2 := hb2.tw tw2 (by omega)
  replace hm13 : Im _ _ [(1, .agg #[.func (.func 73) #[] #[], .func (.func 72) #[] #[]]), (2, .agg #[.func (.func 74) #[] #[], .func (.func 74) #[] #[]])] := mw2
  clear mw2 tw2
  refine LF.step (OpOk.move rfl) (LF.step (OpOk.move rfl) ?_)
  refine LF.step (OpOk.build (v := .agg #[.func (.func 71) #[] #[], .func (.func 72) #[] #[]]) rfl (fun w => by kernel_rfl)) ?_
  refine LF.chg0 (OpCh.insert Try.underlying104 Try.underlying3 hm13 rfl rfl rfl) ?_
  rintro _ Hw3 ⟨mw3, tw3⟩
  have ztw3 := tw3.1
  replace hin := hin.tw tw3 ng13
  replace hkp := Tw.kp' hkp tw3 (by omega)
  replace hb2 := hb2.tw tw3 (by omega)
  replace hm13 : Im _ _ [(1, .agg #[.func (.func 73) #[] #[], .func (.func 72) #[] #[]]), (2, .agg #[.func (.func 74) #[] #[], .func (.func 74) #[] #[]]), (3, .agg #[.func (.func 71) #[] #[], .func (.func 72) #[] #[]])] := mw3
  clear mw3 tw3
  refine LF.step (OpOk.move rfl) (LF.step (OpOk.move rfl) ?_)
  refine LF.step (OpOk.build (v := .agg #[.func (.func 71) #[] #[], .func (.func 72) #[] #[]]) rfl (fun w => by kernel_rfl)) ?_
  refine LF.chg0 (OpCh.insert Try.underlying104 Try.underlying3 hm13 rfl rfl rfl) ?_
  rintro _ Hw4 ⟨mw4, tw4⟩
  have ztw4 := tw4.1
  replace hin := hin.tw tw4 ng13
  replace hkp := Tw.kp' hkp tw4 (by omega)
  replace hb2 := hb2.tw tw4 (by omega)
  replace hm13 : Im _ _ [(1, .agg #[.func (.func 73) #[] #[], .func (.func 72) #[] #[]]), (2, .agg #[.func (.func 74) #[] #[], .func (.func 74) #[] #[]]), (3, .agg #[.func (.func 71) #[] #[], .func (.func 72) #[] #[]]), (4, .agg #[.func (.func 71) #[] #[], .func (.func 72) #[] #[]])] := mw4
  clear mw4 tw4
  refine LF.step (OpOk.move rfl) (LF.step (OpOk.move rfl) ?_)
  refine LF.step (OpOk.build (v := .agg #[.func (.func 75) #[] #[], .func (.func 72) #[] #[]]) rfl (fun w => by kernel_rfl)) ?_
  refine LF.chg0 (OpCh.insert Try.underlying104 Try.underlying3 hm13 rfl rfl rfl) ?_
  rintro _ Hw5 ⟨mw5, tw5⟩
  have ztw5 := tw5.1
  replace hin := hin.tw tw5 ng13
  replace hkp := Tw.kp' hkp tw5 (by omega)
  replace hb2 := hb2.tw tw5 (by omega)
  replace hm13 : Im _ _ [(1, .agg #[.func (.func 73) #[] #[], .func (.func 72) #[] #[]]), (2, .agg #[.func (.func 74) #[] #[], .func (.func 74) #[] #[]]), (3, .agg #[.func (.func 71) #[] #[], .func (.func 72) #[] #[]]), (4, .agg #[.func (.func 71) #[] #[], .func (.func 72) #[] #[]]), (23, .agg #[.func (.func 75) #[] #[], .func (.func 72) #[] #[]])] := mw5
  clear mw5 tw5
  refine LF.step (OpOk.move rfl) (LF.step (OpOk.move rfl) ?_)
  refine LF.step (OpOk.build (v := .agg #[.func (.func 73) #[] #[], .func (.func 72) #[] #[]]) rfl (fun w => by kernel_rfl)) ?_
  refine LF.chg0 (OpCh.insert Try.underlying104 Try.underlying3 hm13 rfl rfl rfl) ?_
  rintro _ Hw6 ⟨mw6, tw6⟩
  have ztw6 := tw6.1
  replace hin := hin.tw tw6 ng13
  replace hkp := Tw.kp' hkp tw6 (by omega)
  replace hb2 := hb2.tw tw6 (by omega)
  replace hm13 : Im _ _ [(1, .agg #[.func (.func 73) #[] #[], .func (.func 72) #[] #[]]), (2, .agg #[.func (.func 74) #[] #[], .func (.func 74) #[] #[]]), (3, .agg #[.func (.func 71) #[] #[], .func (.func 72) #[] #[]]), (4, .agg #[.func (.func 71) #[] #[], .func (.func 72) #[] #[]]), (23, .agg #[.func (.func 75) #[] #[], .func (.func 72) #[] #[]]), (24, .agg #[.func (.func 73) #[] #[], .func (.func 72) #[] #[]])] := mw6
  clear mw6 tw6
  refine LF.step (OpOk.move rfl) (LF.step (OpOk.move rfl) ?_)
  refine LF.step (OpOk.build (v := .agg #[.func (.func 74) #[] #[], .func (.func 72) #[] #[]]) rfl (fun w => by kernel_rfl)) ?_
  refine LF.chg0 (OpCh.insert Try.underlying104 Try.underlying3 hm13 rfl rfl rfl) ?_
  rintro _ Hw7 ⟨mw7, tw7⟩
  have ztw7 := tw7.1
  replace hin := hin.tw tw7 ng13
  replace hkp := Tw.kp' hkp tw7 (by omega)
  replace hb2 := hb2.tw tw7 (by omega)
  replace hm13 : Im _ _ [(1, .agg #[.func (.func 73) #[] #[], .func (.func 72) #[] #[]]), (2, .agg #[.func (.func 74) #[] #[], .func (.func 74) #[] #[]]), (3, .agg #[.func (.func 71) #[] #[], .func (.func 72) #[] #[]]), (4, .agg #[.func (.func 71) #[] #[], .func (.func 72) #[] #[]]), (23, .agg #[.func (.func 75) #[] #[], .func (.func 72) #[] #[]]), (24, .agg #[.func (.func 73) #[] #[], .func (.func 72) #[] #[]]), (25, .agg #[.func (.func 74) #[] #[], .func (.func 72) #[] #[]])] := mw7
  clear mw7 tw7
  refine LF.step (OpOk.move rfl) (LF.step (OpOk.move rfl) ?_)
  refine LF.step (OpOk.build (v := .agg #[.func (.func 74) #[] #[], .func (.func 71) #[] #[]]) rfl (fun w => by kernel_rfl)) ?_
  refine LF.chg0 (OpCh.insert Try.underlying104 Try.underlying3 hm13 rfl rfl rfl) ?_
  rintro _ Hw8 ⟨mw8, tw8⟩
  have ztw8 := tw8.1
  replace hin := hin.tw tw8 ng13
  replace hkp := Tw.kp' hkp tw8 (by omega)
  replace hb2 := hb2.tw tw8 (by omega)
  replace hm13 : Im _ _ [(1, .agg #[.func (.func 73) #[] #[], .func (.func 72) #[] #[]]), (2, .agg #[.func (.func 74) #[] #[], .func (.func 74) #[] #[]]), (3, .agg #[.func (.func 71) #[] #[], .func (.func 72) #[] #[]]), (4, .agg #[.func (.func 71) #[] #[], .func (.func 72) #[] #[]]), (23, .agg #[.func (.func 75) #[] #[], .func (.func 72) #[] #[]]), (24, .agg #[.func (.func 73) #[] #[], .func (.func 72) #[] #[]]), (25, .agg #[.func (.func 74) #[] #[], .func (.func 72) #[] #[]]), (26, .agg #[.func (.func 74) #[] #[], .func (.func 71) #[] #[]])] := mw8
  clear mw8 tw8
  refine LF.step (OpOk.move rfl) (LF.step (OpOk.move rfl) ?_)
  refine LF.step (OpOk.build (v := .agg #[.func (.func 75) #[] #[], .func (.func 71) #[] #[]]) rfl (fun w => by kernel_rfl)) ?_
  refine LF.chg0 (OpCh.insert Try.underlying104 Try.underlying3 hm13 rfl rfl rfl) ?_
  rintro _ Hw9 ⟨mw9, tw9⟩
  have ztw9 := tw9.1
  replace hin := hin.tw tw9 ng13
  replace hkp := Tw.kp' hkp tw9 (by omega)
  replace hb2 := hb2.tw tw9 (by omega)
  replace hm13 : Im _ _ [(1, .agg #[.func (.func 73) #[] #[], .func (.func 72) #[] #[]]), (2, .agg #[.func (.func 74) #[] #[], .func (.func 74) #[] #[]]), (3, .agg #[.func (.func 71) #[] #[], .func (.func 72) #[] #[]]), (4, .agg #[.func (.func 71) #[] #[], .func (.func 72) #[] #[]]), (23, .agg #[.func (.func 75) #[] #[], .func (.func 72) #[] #[]]), (24, .agg #[.func (.func 73) #[] #[], .func (.func 72) #[] #[]]), (25, .agg #[.func (.func 74) #[] #[], .func (.func 72) #[] #[]]), (26, .agg #[.func (.func 74) #[] #[], .func (.func 71) #[] #[]]), (27, .agg #[.func (.func 75) #[] #[], .func (.func 71) #[] #[]])] := mw9
  clear mw9 tw9
  refine LF.step (OpOk.move rfl) (LF.step (OpOk.move rfl) ?_)
  refine LF.step (OpOk.build (v := .agg #[.func (.func 76) #[] #[], .func (.func 72) #[] #[]]) rfl (fun w => by kernel_rfl)) ?_
  refine LF.chg0 (OpCh.insert Try.underlying104 Try.underlying3 hm13 rfl rfl rfl) ?_
  rintro _ Hw10 ⟨mw10, tw10⟩
  have ztw10 := tw10.1
  replace hin := hin.tw tw10 ng13
  replace hkp := Tw.kp' hkp tw10 (by omega)
  replace hb2 := hb2.tw tw10 (by omega)
  replace hm13 : Im _ _ [(1, .agg #[.func (.func 73) #[] #[], .func (.func 72) #[] #[]]), (2, .agg #[.func (.func 74) #[] #[], .func (.func 74) #[] #[]]), (3, .agg #[.func (.func 71) #[] #[], .func (.func 72) #[] #[]]), (4, .agg #[.func (.func 71) #[] #[], .func (.func 72) #[] #[]]), (23, .agg #[.func (.func 75) #[] #[], .func (.func 72) #[] #[]]), (24, .agg #[.func (.func 73) #[] #[], .func (.func 72) #[] #[]]), (25, .agg #[.func (.func 74) #[] #[], .func (.func 72) #[] #[]]), (26, .agg #[.func (.func 74) #[] #[], .func (.func 71) #[] #[]]), (27, .agg #[.func (.func 75) #[] #[], .func (.func 71) #[] #[]]), (28, .agg #[.func (.func 76) #[] #[], .func (.func 72) #[] #[]])] := mw10
  clear mw10 tw10
  refine LF.step (OpOk.move rfl) (LF.step (OpOk.move rfl) ?_)
  refine LF.step (OpOk.build (v := .agg #[.func (.func 74) #[] #[], .func (.func 78) #[] #[]]) rfl (fun w => by kernel_rfl)) ?_
  refine LF.chg0 (OpCh.insert Try.underlying104 Try.underlying3 hm13 rfl rfl rfl) ?_
  rintro _ Hw11 ⟨mw11, tw11⟩
  have ztw11 := tw11.1
  replace hin := hin.tw tw11 ng13
  replace hkp := Tw.kp' hkp tw11 (by omega)
  replace hb2 := hb2.tw tw11 (by omega)
  replace hm13 : Im _ _ [(1, .agg #[.func (.func 73) #[] #[], .func (.func 72) #[] #[]]), (2, .agg #[.func (.func 74) #[] #[], .func (.func 74) #[] #[]]), (3, .agg #[.func (.func 71) #[] #[], .func (.func 72) #[] #[]]), (4, .agg #[.func (.func 71) #[] #[], .func (.func 72) #[] #[]]), (23, .agg #[.func (.func 75) #[] #[], .func (.func 72) #[] #[]]), (24, .agg #[.func (.func 73) #[] #[], .func (.func 72) #[] #[]]), (25, .agg #[.func (.func 74) #[] #[], .func (.func 72) #[] #[]]), (26, .agg #[.func (.func 74) #[] #[], .func (.func 71) #[] #[]]), (27, .agg #[.func (.func 75) #[] #[], .func (.func 71) #[] #[]]), (28, .agg #[.func (.func 76) #[] #[], .func (.func 72) #[] #[]]), (29, .agg #[.func (.func 74) #[] #[], .func (.func 78) #[] #[]])] := mw11
  clear mw11 tw11
  refine LF.step (OpOk.move rfl) (LF.step (OpOk.move rfl) ?_)
  refine LF.step (OpOk.build (v := .agg #[.func (.func 71) #[] #[], .func (.func 72) #[] #[]]) rfl (fun w => by kernel_rfl)) ?_
  refine LF.chg0 (OpCh.insert Try.underlying104 Try.underlying3 hm13 rfl rfl rfl) ?_
  rintro _ Hw12 ⟨mw12, tw12⟩
  have ztw12 := tw12.1
  replace hin := hin.tw tw12 ng13
  replace hkp := Tw.kp' hkp tw12 (by omega)
  replace hb2 := hb2.tw tw12 (by omega)
  replace hm13 : Im _ _ [(1, .agg #[.func (.func 73) #[] #[], .func (.func 72) #[] #[]]), (2, .agg #[.func (.func 74) #[] #[], .func (.func 74) #[] #[]]), (3, .agg #[.func (.func 71) #[] #[], .func (.func 72) #[] #[]]), (4, .agg #[.func (.func 71) #[] #[], .func (.func 72) #[] #[]]), (23, .agg #[.func (.func 75) #[] #[], .func (.func 72) #[] #[]]), (24, .agg #[.func (.func 73) #[] #[], .func (.func 72) #[] #[]]), (25, .agg #[.func (.func 74) #[] #[], .func (.func 72) #[] #[]]), (26, .agg #[.func (.func 74) #[] #[], .func (.func 71) #[] #[]]), (27, .agg #[.func (.func 75) #[] #[], .func (.func 71) #[] #[]]), (28, .agg #[.func (.func 76) #[] #[], .func (.func 72) #[] #[]]), (29, .agg #[.func (.func 74) #[] #[], .func (.func 78) #[] #[]]), (30, .agg #[.func (.func 71) #[] #[], .func (.func 72) #[] #[]])] := mw12
  clear mw12 tw12
  refine LF.step (OpOk.move rfl) (LF.step (OpOk.move rfl) ?_)
  refine LF.step (OpOk.build (v := .agg #[.func (.func 73) #[] #[], .func (.func 71) #[] #[]]) rfl (fun w => by kernel_rfl)) ?_
  refine LF.chg0 (OpCh.insert Try.underlying104 Try.underlying3 hm13 rfl rfl rfl) ?_
  rintro _ Hw13 ⟨mw13, tw13⟩
  have ztw13 := tw13.1
  replace hin := hin.tw tw13 ng13
  replace hkp := Tw.kp' hkp tw13 (by omega)
  replace hb2 := hb2.tw tw13 (by omega)
  replace hm13 : Im _ _ [(1, .agg #[.func (.func 73) #[] #[], .func (.func 72) #[] #[]]), (2, .agg #[.func (.func 74) #[] #[], .func (.func 74) #[] #[]]), (3, .agg #[.func (.func 71) #[] #[], .func (.func 72) #[] #[]]), (4, .agg #[.func (.func 71) #[] #[], .func (.func 72) #[] #[]]), (23, .agg #[.func (.func 75) #[] #[], .func (.func 72) #[] #[]]), (24, .agg #[.func (.func 73) #[] #[], .func (.func 72) #[] #[]]), (25, .agg #[.func (.func 74) #[] #[], .func (.func 72) #[] #[]]), (26, .agg #[.func (.func 74) #[] #[], .func (.func 71) #[] #[]]), (27, .agg #[.func (.func 75) #[] #[], .func (.func 71) #[] #[]]), (28, .agg #[.func (.func 76) #[] #[], .func (.func 72) #[] #[]]), (29, .agg #[.func (.func 74) #[] #[], .func (.func 78) #[] #[]]), (30, .agg #[.func (.func 71) #[] #[], .func (.func 72) #[] #[]]), (31, .agg #[.func (.func 73) #[] #[], .func (.func 71) #[] #[]])] := mw13
  clear mw13 tw13
  refine LF.step (OpOk.move rfl) (LF.step (OpOk.move rfl) ?_)
  refine LF.stepE (p := fun v => (v = .tuple #[.agg #[kfun (takesF op), kfun (makesF op)], .bool true] ∧ kTab op) ∨ (v = .tuple #[.agg #[.nilFunc, .nilFunc], .bool false] ∧ ¬ kTab op)) ⟨_, OpOk.lookupOk Try.underlying104 Try.underlying3 Try.zero84 hm13 rfl rfl, ktab op⟩ ?_
  rintro v55 (⟨rfl, hop⟩ | ⟨rfl, hop⟩)
  refine LF.step (OpOk.move rfl) ?_
  refine LF.step (OpOk.extract (v := .agg #[kfun (takesF op), kfun (makesF op)]) rfl rfl) ?_
  refine LF.step (OpOk.extract (v := .bool true) rfl rfl) ?_
  refine LF.chg (OpCh.allocB Try.zero84 rfl) ?_
  rintro _ H10 ⟨g10, rfl, eg10, sg10, kg10, hb10⟩
  have ng10 := hin.nope (Nat.le_of_eq eg10.symm)
  have lg10 := hkp.1
  have nb10_2 : g2 ≠ g10 := by have := hb2.lt; omega
  have zkg10 := kg10.1
  replace hin := hin.kp kg10
  replace hkp := hkp.trans (kg10.mono hkp.1)
  replace hb2 := hb2.kp kg10
  replace hm13 := hm13.kp kg10 hm13.lt
  clear kg10
  refine LF.chg0 (OpCh.storeBA hb10 Try.sz84 rfl rfl rfl (allOne.mem (l := [kfun (takesF op), kfun (makesF op)]) ⟨rfl, rfl, trivial⟩) (by decide)) ?_
  rintro _ Hw14 ⟨tw14, bw14⟩
  have ztw14 := tw14.1
  replace hin := hin.tw tw14 ng10
  replace hkp := Tw.kp' hkp tw14 (by omega)
  replace hb2 := hb2.tw tw14 (by first | omega | assumption | exact Ne.symm (by assumption))
  replace hm13 := hm13.of (tw14.2 _ (by omega))
  replace hb10 : Bx _ _ _ [kfun (takesF op), kfun (makesF op)] := bw14
  clear bw14 tw14
  refine LF.step (OpOk.assign rfl) (LF.nil (PF.next (CF.seq (CF.block (CF.seq (CF.region (LF.step (OpOk.move rfl) (LF.step (OpOk.assign rfl) (LF.nil (PF.next ?_))))))))))
  refine CF.if rfl (fun hc1 => ?_) (fun hc1 => ?_)
  refine CF.seq (CF.region ?_)
  refine LF.step (OpOk.ldBxA hb10 Try.agg84 Try.sz84 rfl rfl rfl) ?_
  refine LF.chg0 (OpCh.storeBA hb2 Try.sz84 rfl rfl rfl (allOne.mem (l := [kfun (takesF op), kfun (makesF op)]) ⟨rfl, rfl, trivial⟩) (by decide)) ?_
  rintro _ Hw15 ⟨tw15, bw15⟩
  have ztw15 := tw15.1
  replace hin := hin.tw tw15 ng2
  replace hkp := Tw.kp' hkp tw15 (by omega)
  replace hb10 := hb10.tw tw15 (by first | omega | assumption | exact Ne.symm (by assumption))
  replace hm13 := hm13.of (tw15.2 _ (by omega))
  replace hb2 : Bx _ _ _ [kfun (takesF op), kfun (makesF op)] := bw15
  clear bw15 tw15
  refine LF.nil (PF.next (CF.ret (PF.blockRet (PF.thenRet ?_))))
  exact PF.retC rfl rfl hb2 Try.agg84 Try.sz84 ⟨by first | rfl | exact kindV5 ‹_› | exact kindV18 ‹_› | exact kindV0 (by unfold kTab at hop; omega), hkp⟩
  exact absurd hc1 (by simp)
  refine LF.step (OpOk.move rfl) ?_
  refine LF.step (OpOk.extract (v := .agg #[.nilFunc, .nilFunc]) rfl rfl) ?_
  refine LF.step (OpOk.extract (v := .bool false) rfl rfl) ?_
  refine LF.chg (OpCh.allocB Try.zero84 rfl) ?_
  rintro _ H10 ⟨g10, rfl, eg10, sg10, kg10, hb10⟩
  have ng10 := hin.nope (Nat.le_of_eq eg10.symm)
  have lg10 := hkp.1
  have nb10_2 : g2 ≠ g10 := by have := hb2.lt; omega
  have zkg10 := kg10.1
  replace hin := hin.kp kg10
  replace hkp := hkp.trans (kg10.mono hkp.1)
  replace hb2 := hb2.kp kg10
  replace hm13 := hm13.kp kg10 hm13.lt
  clear kg10
  refine LF.chg0 (OpCh.storeBA hb10 Try.sz84 rfl rfl rfl (allOne.mem (l := [.nilFunc, .nilFunc]) ⟨rfl, rfl, trivial⟩) (by decide)) ?_
  rintro _ Hw16 ⟨tw16, bw16⟩
  have ztw16 := tw16.1
  replace hin := hin.tw tw16 ng10
  replace hkp := Tw.kp' hkp tw16 (by omega)
  replace hb2 := hb2.tw tw16 (by first | omega | assumption | exact Ne.symm (by assumption))
  replace hm13 := hm13.of (tw16.2 _ (by omega))
  replace hb10 : Bx _ _ _ [.nilFunc, .nilFunc] := bw16
  clear bw16 tw16
  refine LF.step (OpOk.assign rfl) (LF.nil (PF.next (CF.seq (CF.block (CF.seq (CF.region (LF.step (OpOk.move rfl) (LF.step (OpOk.assign rfl) (LF.nil (PF.next ?_))))))))))
  refine CF.if rfl (fun hc2 => ?_) (fun hc2 => ?_)
  exact absurd hc2 (by simp)
  refine CF.seq (CF.region (LF.step (OpOk.move rfl) ?_))
  refine LF.step (OpOk.geq rfl rfl) ?_
  refine LF.step (OpOk.move rfl) ?_
  refine LF.gstep rfl rfl (.t _) (fun hg => OpOk.move rfl) ?_
  refine LF.gstep rfl rfl (.t _) (fun hg => OpOk.leq (evg rfl hg) rfl) ?_
  refine LF.step (OpOk.pickAnd rfl rfl) ?_
  refine LF.step (OpOk.assign rfl) (LF.nil (PF.next ?_))
  refine CF.if rfl (fun hc3 => ?_) (fun hc3 => ?_)
  refine CF.seq (CF.region (LF.step (OpOk.move rfl) (LF.step (OpOk.move rfl) ?_)))
  refine LF.step (OpOk.build (v := .agg #[.func (.func 74) #[] #[], .func (.func 72) #[] #[]]) rfl (fun w => by kernel_rfl)) ?_
  refine LF.chg0 (OpCh.storeBA hb2 Try.sz84 rfl rfl rfl (allOne.mem (l := [.func (.func 74) #[] #[], .func (.func 72) #[] #[]]) ⟨rfl, rfl, trivial⟩) (by decide)) ?_
  rintro _ Hw17 ⟨tw17, bw17⟩
  have ztw17 := tw17.1
  replace hin := hin.tw tw17 ng2
  replace hkp := Tw.kp' hkp tw17 (by omega)
  replace hb10 := hb10.tw tw17 (by first | omega | assumption | exact Ne.symm (by assumption))
  replace hm13 := hm13.of (tw17.2 _ (by omega))
  replace hb2 : Bx _ _ _ [.func (.func 74) #[] #[], .func (.func 72) #[] #[]] := bw17
  clear bw17 tw17
  refine LF.nil (PF.next (CF.ret (PF.blockRet (PF.thenRet ?_))))
  exact PF.retC rfl rfl hb2 Try.agg84 Try.sz84 ⟨by first | rfl | exact kindV5 ‹_› | exact kindV18 ‹_› | exact kindV0 (by unfold kTab at hop; omega), hkp⟩
  refine CF.seq (CF.region (LF.step (OpOk.move rfl) ?_))
  refine LF.step (OpOk.geq rfl rfl) ?_
  refine LF.step (OpOk.move rfl) ?_
  refine LF.gstep rfl rfl (.t _) (fun hg => OpOk.move rfl) ?_
  refine LF.gstep rfl rfl (.t _) (fun hg => OpOk.leq (evg rfl hg) rfl) ?_
  refine LF.step (OpOk.pickAnd rfl rfl) ?_
  refine LF.step (OpOk.assign rfl) (LF.nil (PF.next ?_))
  refine CF.if rfl (fun hc4 => ?_) (fun hc4 => ?_)
  refine CF.seq (CF.region (LF.step (OpOk.move rfl) (LF.step (OpOk.move rfl) ?_)))
  refine LF.step (OpOk.build (v := .agg #[.func (.func 73) #[] #[], .func (.func 72) #[] #[]]) rfl (fun w => by kernel_rfl)) ?_
  refine LF.chg0 (OpCh.storeBA hb2 Try.sz84 rfl rfl rfl (allOne.mem (l := [.func (.func 73) #[] #[], .func (.func 72) #[] #[]]) ⟨rfl, rfl, trivial⟩) (by decide)) ?_
  rintro _ Hw18 ⟨tw18, bw18⟩
  have ztw18 := tw18.1
  replace hin := hin.tw tw18 ng2
  replace hkp := Tw.kp' hkp tw18 (by omega)
  replace hb10 := hb10.tw tw18 (by first | omega | assumption | exact Ne.symm (by assumption))
  replace hm13 := hm13.of (tw18.2 _ (by omega))
  replace hb2 : Bx _ _ _ [.func (.func 73) #[] #[], .func (.func 72) #[] #[]] := bw18
  clear bw18 tw18
  refine LF.nil (PF.next (CF.ret (PF.blockRet (PF.thenRet ?_))))
  exact PF.retC rfl rfl hb2 Try.agg84 Try.sz84 ⟨by first | rfl | exact kindV5 ‹_› | exact kindV18 ‹_› | exact kindV0 (by unfold kTab at hop; omega), hkp⟩
  refine CF.skip (PF.blockNormal (PF.next (CF.seq (CF.region (LF.step (OpOk.move rfl) (LF.step (OpOk.move rfl) ?_))))))
  refine LF.step (OpOk.build (v := .agg #[.func (.func 71) #[] #[], .func (.func 71) #[] #[]]) rfl (fun w => by kernel_rfl)) ?_
  refine LF.chg0 (OpCh.storeBA hb2 Try.sz84 rfl rfl rfl (allOne.mem (l := [.func (.func 71) #[] #[], .func (.func 71) #[] #[]]) ⟨rfl, rfl, trivial⟩) (by decide)) ?_
  rintro _ Hw19 ⟨tw19, bw19⟩
  have ztw19 := tw19.1
  replace hin := hin.tw tw19 ng2
  replace hkp := Tw.kp' hkp tw19 (by omega)
  replace hb10 := hb10.tw tw19 (by first | omega | assumption | exact Ne.symm (by assumption))
  replace hm13 := hm13.of (tw19.2 _ (by omega))
  replace hb2 : Bx _ _ _ [.func (.func 71) #[] #[], .func (.func 71) #[] #[]] := bw19
  clear bw19 tw19
  refine LF.nil (PF.next (CF.ret ?_))
  exact PF.retC rfl rfl hb2 Try.agg84 Try.sz84 ⟨by first | rfl | exact kindV5 ‹_› | exact kindV18 ‹_› | exact kindV0 (by unfold kTab at hop; omega), hkp⟩

end Go.Proofs.Ytehibklogdngbaa
