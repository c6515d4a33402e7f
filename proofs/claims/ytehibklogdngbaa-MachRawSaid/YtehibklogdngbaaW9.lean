/- Walks. Conditions: each contract names its own. -/
import Derived.Test.YtehibklogdngbaaW8
namespace Go.Proofs.Ytehibklogdngbaa
set_option linter.unusedVariables false
set_option linter.unusedSimpArgs false
set_option linter.unusedSectionVars false
open Go.JE

theorem Try.agg55 : ∃ d, Try.prog.underlying 55 = some d ∧ (match d with | .struct _ | .array _ _ => true | _ => false) = true := ⟨_, Try.underlying55, rfl⟩
theorem Try.ent101 : Ent Try.prog 101 := ⟨_, Try.func101, by kernel_rfl, by kernel_rfl⟩
theorem Try.ent102 : Ent Try.prog 102 := ⟨_, Try.func102, by kernel_rfl, by kernel_rfl⟩
theorem Try.ent103 : Ent Try.prog 103 := ⟨_, Try.func103, by kernel_rfl, by kernel_rfl⟩
theorem Try.ent104 : Ent Try.prog 104 := ⟨_, Try.func104, by kernel_rfl, by kernel_rfl⟩
theorem Try.ent107 : Ent Try.prog 107 := ⟨_, Try.func107, by kernel_rfl, by kernel_rfl⟩
theorem Try.ent17 : Ent Try.prog 17 := ⟨_, Try.func17, by kernel_rfl, by kernel_rfl⟩
theorem Try.ent79 : Ent Try.prog 79 := ⟨_, Try.func79, by kernel_rfl, by kernel_rfl⟩
theorem Try.ent84 : Ent Try.prog 84 := ⟨_, Try.func84, by kernel_rfl, by kernel_rfl⟩
theorem Try.ent85 : Ent Try.prog 85 := ⟨_, Try.func85, by kernel_rfl, by kernel_rfl⟩
theorem Try.ent86 : Ent Try.prog 86 := ⟨_, Try.func86, by kernel_rfl, by kernel_rfl⟩
theorem Try.ent87 : Ent Try.prog 87 := ⟨_, Try.func87, by kernel_rfl, by kernel_rfl⟩
theorem Try.ent96 : Ent Try.prog 96 := ⟨_, Try.func96, by kernel_rfl, by kernel_rfl⟩
theorem Try.ent98 : Ent Try.prog 98 := ⟨_, Try.func98, by kernel_rfl, by kernel_rfl⟩
theorem Try.sz110 : Sz Try.prog 110 2 := by unfold Sz; kernel_rfl
theorem Try.sz55 : Sz Try.prog 55 5 := by unfold Sz; kernel_rfl
theorem Try.zero110 : (Try.prog.info? 110).bind (·.zero) = some (.agg #[.int .i64 0, .int .i64 0]) := by kernel_rfl
/- ---------------------------------------------- which code may be -/
def badR (r : Int) : Bool := decide (r < 0) || decide (8192 ≤ r)
theorem any_reg : ∀ l : List Int, (!anyM l badR) = regM l
  | [] => rfl
  | x :: l => by
    have ih := any_reg l
    unfold anyM at ih ⊢
    rw [List.any_cons, regM, Bool.not_or, ih]
    by_cases h : x < 0 ∨ 8192 ≤ x
    · rw [if_pos h]; have : badR x = true := by unfold badR; simp; exact h
      rw [this]; rfl
    · rw [if_neg h]; have : badR x = false := by unfold badR; simp; omega
      rw [this]; rfl
theorem u32_dec {n : Int} (h : IntKind.i32.wrap n = n) (m : Int) (hm : 0 < m ∧ m ≤ 1000) : decide (IntKind.u32.wrap n < m) = decide (0 ≤ n ∧ n ≤ m - 1) := by
  have h1 := i32_rng h
  rw [decide_eq_decide, IntKind.wrap_u32]; omega
def immM (i : D.Mach) : Bool :=
  if i.Op = 3 then fitsM i.Imm 16
  else if i.Op = 18 ∨ i.Op = 19 then fitsM i.Imm 8
  else if i.Op = 20 ∨ i.Op = 21 ∨ i.Op = 22 then decide (0 ≤ i.Imm ∧ i.Imm ≤ 31)
  else if i.Op = 24 ∨ i.Op = 26 then decide (0 ≤ i.Imm ∧ i.Imm ≤ 255)
  else true
def insE (i : D.Mach) : Int :=
  if i.Op < 1 ∨ 29 < i.Op ∨ i.Op = 2 ∨ (i.Op = 28 ∧ 4 < i.Args.length) then 30
  else if regM (makesM i) = false ∨ regM (takesM i) = false then 31
  else if i.Op = 29 ∧ i.D = i.E then 12
  else if immM i = false then 32
  else 0
def limLo (op : Int) : Int := if op = 1 then 1 else if op = 7 ∨ op = 8 then 0 else 2
def limHi (op : Int) : Int := if op = 1 then 1 else if op = 7 ∨ op = 8 then 0 else if op = 6 then 65 else 2
def toM (e : D.End) : Bool := decide (1 ≤ e.Op ∧ e.Op ≤ 8 ∧ limLo e.Op ≤ e.To.length ∧ e.To.length ≤ limHi e.Op)
def badB (n b : Int) : Bool := decide (b < 1) || decide (n ≤ b)
def endE (e : D.End) (n : Int) : Int := if toM e = false then 30 else if regM (needsM e) = false then 31 else if anyM e.To (badB n) = true then 14 else 0
def phiE (p : D.Phi) (ahead : List D.Phi) : Int :=
  if regM [p.Dst] = false ∨ anyM p.In (fun x => !regM [x.Val]) = true then 31
  else if anyM ahead (fun x => decide (x.Dst = p.Dst)) = true then 12
  else 0
theorem ltab (op : Int) : ((.tuple #[(lkM [(1, .agg #[.int .i64 1, .int .i64 1]), (2, .agg #[.int .i64 2, .int .i64 2]), (3, .agg #[.int .i64 2, .int .i64 2]), (4, .agg #[.int .i64 2, .int .i64 2]), (5, .agg #[.int .i64 2, .int .i64 2]), (6, .agg #[.int .i64 2, .int .i64 65]), (7, .agg #[.int .i64 0, .int .i64 0]), (8, .agg #[.int .i64 0, .int .i64 0])] op).getD (.agg #[.int .i64 0, .int .i64 0]), .bool (lkM [(1, .agg #[.int .i64 1, .int .i64 1]), (2, .agg #[.int .i64 2, .int .i64 2]), (3, .agg #[.int .i64 2, .int .i64 2]), (4, .agg #[.int .i64 2, .int .i64 2]), (5, .agg #[.int .i64 2, .int .i64 2]), (6, .agg #[.int .i64 2, .int .i64 65]), (7, .agg #[.int .i64 0, .int .i64 0]), (8, .agg #[.int .i64 0, .int .i64 0])] op).isSome] : Value) = .tuple #[.agg #[.int .i64 (limLo op), .int .i64 (limHi op)], .bool true] ∧ 1 ≤ op ∧ op ≤ 8) ∨
    ((.tuple #[(lkM [(1, .agg #[.int .i64 1, .int .i64 1]), (2, .agg #[.int .i64 2, .int .i64 2]), (3, .agg #[.int .i64 2, .int .i64 2]), (4, .agg #[.int .i64 2, .int .i64 2]), (5, .agg #[.int .i64 2, .int .i64 2]), (6, .agg #[.int .i64 2, .int .i64 65]), (7, .agg #[.int .i64 0, .int .i64 0]), (8, .agg #[.int .i64 0, .int .i64 0])] op).getD (.agg #[.int .i64 0, .int .i64 0]), .bool (lkM [(1, .agg #[.int .i64 1, .int .i64 1]), (2, .agg #[.int .i64 2, .int .i64 2]), (3, .agg #[.int .i64 2, .int .i64 2]), (4, .agg #[.int .i64 2, .int .i64 2]), (5, .agg #[.int .i64 2, .int .i64 2]), (6, .agg #[.int .i64 2, .int .i64 65]), (7, .agg #[.int .i64 0, .int .i64 0]), (8, .agg #[.int .i64 0, .int .i64 0])] op).isSome] : Value) = .tuple #[.agg #[.int .i64 0, .int .i64 0], .bool false] ∧ ¬ (1 ≤ op ∧ op ≤ 8)) := by
  by_cases ho : 1 ≤ op ∧ op ≤ 8
  · refine .inl ⟨?_, ho⟩
    have hc : op = 1 ∨ op = 2 ∨ op = 3 ∨ op = 4 ∨ op = 5 ∨ op = 6 ∨ op = 7 ∨ op = 8 := by omega
    rcases hc with rfl | rfl | rfl | rfl | rfl | rfl | rfl | rfl <;> rfl
  · refine .inr ⟨?_, ho⟩
    have h1 : ∀ k : Int, 1 ≤ k → k ≤ 8 → (k == op) = false := fun k h2 h3 => by rw [beq_eq_false_iff_ne]; omega
    simp [lkM, List.find?, h1]

-- jacquard/mach.regs$1: function 96
theorem pRegs1_ct {F : PH} {H : Heap} (hin : InH F H) (r : Int) :
    Ct Try.prog 96 #[.int .i64 r] H (fun v H' => v = .bool (badR r) ∧ H' = H) := by
  have hkp := Kp.refl H.size H
  have hx := PH.ext.refl (H := H) F
  refine Ct.enter (args := [.int .i64 r]) Try.func96 rfl rfl rfl (fun w0 hw0 => ?_)
  refine CF.seq (CF.region (LF.step (OpOk.assign rfl) (LF.nil (PF.next (CF.seq (CF.region (LF.step (OpOk.move rfl) ?_)))))))
  refine LF.step (OpOk.lss rfl rfl) ?_
  refine LF.step (OpOk.move rfl) ?_
  refine LF.gstep rfl rfl (.f _) (fun hg => OpOk.move rfl) ?_
  refine LF.gstep rfl rfl (.f _) (fun hg => OpOk.geq (evg rfl hg) rfl) ?_
  refine LF.step (OpOk.pickOr rfl rfl) ?_
  refine LF.step (OpOk.assign rfl) (LF.nil (PF.next (CF.ret ?_)))
  have hm : badR r = ((decide (r < 0)) || (decide (8192 ≤ r))) := by
    rfl
  exact PF.ret1 rfl rfl ⟨by rw [hm] <;> rfl, rfl⟩

-- jacquard/mach.regs: function 79
theorem pRegs_ct {F : PH} {H : Heap} (hin : InH F H) {a0 : Value} {l : List Int} (p0 : (rL (rI .i64)).rv F a0 l) :
    Ct Try.prog 79 #[a0] H (fun v H' => v = .bool (regM l) ∧ Kp H.size H H') := by
  have q0 := rL.len2 p0
  have hkp := Kp.refl H.size H
  have hx := PH.ext.refl (H := H) F
  refine Ct.enter (args := [a0]) Try.func79 rfl rfl rfl (fun w0 hw0 => ?_)
  refine CF.seq (CF.region (LF.step (OpOk.assign rfl) (LF.nil (PF.next (CF.seq (CF.region (LF.step (OpOk.move rfl) ?_)))))))
  refine LF.call (OpCall.fn Try.ent86 rfl rfl) (anyFInt_ct hin p0 96 [] Try.ent96 badR (fun H' hin' _ x _ => Ct.kp (pRegs1_ct hin' x))) ?_
  rintro _ H4 ⟨rfl, k4⟩
  have zk4 := k4.1
  replace hin := hin.kp k4
  replace hkp := hkp.trans (k4.mono hkp.1)
  refine LF.step (OpOk.not rfl) ?_
  refine LF.step (OpOk.assign rfl) (LF.nil (PF.next (CF.ret ?_)))
  have hm : regM l = (!(anyM l badR)) := by
    exact (any_reg l).symm
  exact PF.ret1 rfl rfl ⟨by rw [hm] <;> rfl, hkp⟩

-- jacquard/mach.imm: function 84
theorem pImm_ct {F : PH} {H : Heap} (hin : InH F H) {a0 : Value} {i : D.Mach} (p0 : rMach.ra F a0 i) :
    Ct Try.prog 84 #[a0] H (fun v H' => v = .bool (immM i) ∧ Kp H.size H H') := by
  have p0k := rMach.any p0
  obtain ⟨a0c7, rfl, p0c7⟩ := rMach.open p0
  have p0c7q := rL.len2 p0c7
  have hkp := Kp.refl H.size H
  have hx := PH.ext.refl (H := H) F
  refine Ct.enter (args := [.agg #[.int .i64 i.Op, .int .i64 i.D, .int .i64 i.E, .int .i64 i.A, .int .i64 i.B, .int .i64 i.C, .int .i32 i.Imm, a0c7]]) Try.func84 rfl rfl rfl (fun w0 hw0 => ?_)
  refine CF.seq (CF.region ?_)
  refine LF.chg (OpCh.boxB rfl rfl) ?_
  rintro _ H1 ⟨g1, rfl, eg1, sg1, kg1, hb1⟩
  have ng1 := hin.nope (Nat.le_of_eq eg1.symm)
  have lg1 := hkp.1
  have zkg1 := kg1.1
  replace hin := hin.kp kg1
  replace hkp := hkp.trans (kg1.mono hkp.1)
  clear kg1
  refine LF.step (OpOk.assign rfl) (LF.nil (PF.next (CF.seq (CF.seq (CF.region ?_)))))
  refine LF.step (OpOk.fieldAddr (Try.fld40_0) rfl) ?_
  refine LF.step (OpOk.ldBx hb1 Try.one3 rfl rfl) ?_
  refine LF.nil (PF.next (CF.block (CF.seq (CF.region ?_))))
  refine LF.step (OpOk.eql rfl rfl) ?_
  refine LF.step (OpOk.assign rfl) (LF.nil (PF.next ?_))
  refine CF.if rfl (fun hc1 => ?_) (fun hc1 => ?_)
  refine CF.seq (CF.region ?_)
  refine LF.step (OpOk.fieldAddr (Try.fld40_6) rfl) ?_
  refine LF.step (OpOk.ldBx hb1 Try.one21 rfl rfl) ?_
  refine LF.call (OpCall.fn Try.ent98 rfl rfl) (wFits_ct hin i.Imm 16 (rMach.w_Imm (m := i) p0k)) ?_
  rintro _ _ ⟨rfl, rfl⟩
  refine LF.step (OpOk.assign rfl) (LF.nil (PF.next (CF.ret (PF.blockRet (PF.thenRet ?_)))))
  have hm : immM i = (fitsM i.Imm 16) := by
    (unfold immM; (repeat rw [if_neg (by omega)]) <;> (try rw [if_pos (by omega)]) <;> first | rfl | exact (u32_dec (rMach.w_Imm p0k) 32 (by decide)).symm | exact (u32_dec (rMach.w_Imm p0k) 256 (by decide)).symm | (simp [*]; done) | (simp; done) | (rw [Bool.decide_and]; done))
  exact PF.ret1 rfl rfl ⟨by rw [hm] <;> rfl, hkp⟩
  refine CF.seq (CF.seq (CF.region ?_))
  refine LF.step (OpOk.eql rfl rfl) ?_
  refine LF.step (OpOk.assign rfl) (LF.nil (PF.next ?_))
  refine CF.if rfl (fun hc2 => ?_) (fun hc2 => ?_)
  refine CF.skip (PF.next ?_)
  refine CF.if rfl (fun hc3 => ?_) (fun hc3 => ?_)
  refine CF.seq (CF.region ?_)
  refine LF.step (OpOk.fieldAddr (Try.fld40_6) rfl) ?_
  refine LF.step (OpOk.ldBx hb1 Try.one21 rfl rfl) ?_
  refine LF.call (OpCall.fn Try.ent98 rfl rfl) (wFits_ct hin i.Imm 8 (rMach.w_Imm (m := i) p0k)) ?_
  rintro _ _ ⟨rfl, rfl⟩
  refine LF.step (OpOk.assign rfl) (LF.nil (PF.next (CF.ret (PF.blockRet (PF.thenRet ?_)))))
  have hm : immM i = (fitsM i.Imm 8) := by
    (unfold immM; (repeat rw [if_neg (by omega)]) <;> (try rw [if_pos (by omega)]) <;> first | rfl | exact (u32_dec (rMach.w_Imm p0k) 32 (by decide)).symm | exact (u32_dec (rMach.w_Imm p0k) 256 (by decide)).symm | (simp [*]; done) | (simp; done) | (rw [Bool.decide_and]; done))
  exact PF.ret1 rfl rfl ⟨by rw [hm] <;> rfl, hkp⟩
  exact absurd hc3 (by simp [hc1, hc2])
  refine CF.region ?_
  refine LF.step (OpOk.eql rfl rfl) ?_
  refine LF.step (OpOk.assign rfl) (LF.nil (PF.next ?_))
  refine CF.if rfl (fun hc4 => ?_) (fun hc4 => ?_)
  refine CF.seq (CF.region ?_)
  refine LF.step (OpOk.fieldAddr (Try.fld40_6) rfl) ?_
  refine LF.step (OpOk.ldBx hb1 Try.one21 rfl rfl) ?_
  refine LF.call (OpCall.fn Try.ent98 rfl rfl) (wFits_ct hin i.Imm 8 (rMach.w_Imm (m := i) p0k)) ?_
  rintro _ _ ⟨rfl, rfl⟩
  refine LF.step (OpOk.assign rfl) (LF.nil (PF.next (CF.ret (PF.blockRet (PF.thenRet ?_)))))
  have hm : immM i = (fitsM i.Imm 8) := by
    (unfold immM; (repeat rw [if_neg (by omega)]) <;> (try rw [if_pos (by omega)]) <;> first | rfl | exact (u32_dec (rMach.w_Imm p0k) 32 (by decide)).symm | exact (u32_dec (rMach.w_Imm p0k) 256 (by decide)).symm | (simp [*]; done) | (simp; done) | (rw [Bool.decide_and]; done))
  exact PF.ret1 rfl rfl ⟨by rw [hm] <;> rfl, hkp⟩
  refine CF.seq (CF.seq (CF.region ?_))
  refine LF.step (OpOk.eql rfl rfl) ?_
  refine LF.step (OpOk.assign rfl) (LF.nil (PF.next ?_))
  refine CF.if rfl (fun hc5 => ?_) (fun hc5 => ?_)
  refine CF.skip (PF.next ?_)
  refine CF.if rfl (fun hc6 => ?_) (fun hc6 => ?_)
  refine CF.seq (CF.region ?_)
  refine LF.step (OpOk.fieldAddr (Try.fld40_6) rfl) ?_
  refine LF.step (OpOk.ldBx hb1 Try.one21 rfl rfl) ?_
  refine LF.step (OpOk.convI Try.underlying21 Try.underlying66 rfl rfl) ?_
  refine LF.step (OpOk.lss rfl rfl) ?_
  refine LF.step (OpOk.assign rfl) (LF.nil (PF.next (CF.ret (PF.blockRet (PF.thenRet ?_)))))
  have hm : immM i = (decide (IntKind.u32.wrap i.Imm < 32)) := by
    (unfold immM; (repeat rw [if_neg (by omega)]) <;> (try rw [if_pos (by omega)]) <;> first | rfl | exact (u32_dec (rMach.w_Imm p0k) 32 (by decide)).symm | exact (u32_dec (rMach.w_Imm p0k) 256 (by decide)).symm | (simp [*]; done) | (simp; done) | (rw [Bool.decide_and]; done))
  exact PF.ret1 rfl rfl ⟨by rw [hm] <;> rfl, hkp⟩
  exact absurd hc6 (by simp [hc1, hc2, hc4, hc5])
  refine CF.seq (CF.region ?_)
  refine LF.step (OpOk.eql rfl rfl) ?_
  refine LF.step (OpOk.assign rfl) (LF.nil (PF.next ?_))
  refine CF.if rfl (fun hc7 => ?_) (fun hc7 => ?_)
  refine CF.skip (PF.next ?_)
  refine CF.if rfl (fun hc8 => ?_) (fun hc8 => ?_)
  refine CF.seq (CF.region ?_)
  refine LF.step (OpOk.fieldAddr (Try.fld40_6) rfl) ?_
  refine LF.step (OpOk.ldBx hb1 Try.one21 rfl rfl) ?_
  refine LF.step (OpOk.convI Try.underlying21 Try.underlying66 rfl rfl) ?_
  refine LF.step (OpOk.lss rfl rfl) ?_
  refine LF.step (OpOk.assign rfl) (LF.nil (PF.next (CF.ret (PF.blockRet (PF.thenRet ?_)))))
  have hm : immM i = (decide (IntKind.u32.wrap i.Imm < 32)) := by
    (unfold immM; (repeat rw [if_neg (by omega)]) <;> (try rw [if_pos (by omega)]) <;> first | rfl | exact (u32_dec (rMach.w_Imm p0k) 32 (by decide)).symm | exact (u32_dec (rMach.w_Imm p0k) 256 (by decide)).symm | (simp [*]; done) | (simp; done) | (rw [Bool.decide_and]; done))
  exact PF.ret1 rfl rfl ⟨by rw [hm] <;> rfl, hkp⟩
  exact absurd hc8 (by simp [hc1, hc2, hc4, hc5, hc7])
  refine CF.region ?_
  refine LF.step (OpOk.eql rfl rfl) ?_
  refine LF.step (OpOk.assign rfl) (LF.nil (PF.next ?_))
  refine CF.if rfl (fun hc9 => ?_) (fun hc9 => ?_)
  refine CF.seq (CF.region ?_)
  refine LF.step (OpOk.fieldAddr (Try.fld40_6) rfl) ?_
  refine LF.step (OpOk.ldBx hb1 Try.one21 rfl rfl) ?_
  refine LF.step (OpOk.convI Try.underlying21 Try.underlying66 rfl rfl) ?_
  refine LF.step (OpOk.lss rfl rfl) ?_
  refine LF.step (OpOk.assign rfl) (LF.nil (PF.next (CF.ret (PF.blockRet (PF.thenRet ?_)))))
  have hm : immM i = (decide (IntKind.u32.wrap i.Imm < 32)) := by
    (unfold immM; (repeat rw [if_neg (by omega)]) <;> (try rw [if_pos (by omega)]) <;> first | rfl | exact (u32_dec (rMach.w_Imm p0k) 32 (by decide)).symm | exact (u32_dec (rMach.w_Imm p0k) 256 (by decide)).symm | (simp [*]; done) | (simp; done) | (rw [Bool.decide_and]; done))
  exact PF.ret1 rfl rfl ⟨by rw [hm] <;> rfl, hkp⟩
  refine CF.seq (CF.seq (CF.region ?_))
  refine LF.step (OpOk.eql rfl rfl) ?_
  refine LF.step (OpOk.assign rfl) (LF.nil (PF.next ?_))
  refine CF.if rfl (fun hc10 => ?_) (fun hc10 => ?_)
  refine CF.skip (PF.next ?_)
  refine CF.if rfl (fun hc11 => ?_) (fun hc11 => ?_)
  refine CF.seq (CF.region ?_)
  refine LF.step (OpOk.fieldAddr (Try.fld40_6) rfl) ?_
  refine LF.step (OpOk.ldBx hb1 Try.one21 rfl rfl) ?_
  refine LF.step (OpOk.convI Try.underlying21 Try.underlying66 rfl rfl) ?_
  refine LF.step (OpOk.lss rfl rfl) ?_
  refine LF.step (OpOk.assign rfl) (LF.nil (PF.next (CF.ret (PF.blockRet (PF.thenRet ?_)))))
  have hm : immM i = (decide (IntKind.u32.wrap i.Imm < 256)) := by
    (unfold immM; (repeat rw [if_neg (by omega)]) <;> (try rw [if_pos (by omega)]) <;> first | rfl | exact (u32_dec (rMach.w_Imm p0k) 32 (by decide)).symm | exact (u32_dec (rMach.w_Imm p0k) 256 (by decide)).symm | (simp [*]; done) | (simp; done) | (rw [Bool.decide_and]; done))
  exact PF.ret1 rfl rfl ⟨by rw [hm] <;> rfl, hkp⟩
  exact absurd hc11 (by simp [hc1, hc2, hc4, hc5, hc7, hc9, hc10])
  refine CF.region ?_
  refine LF.step (OpOk.eql rfl rfl) ?_
  refine LF.step (OpOk.assign rfl) (LF.nil (PF.next ?_))
  refine CF.if rfl (fun hc12 => ?_) (fun hc12 => ?_)
  refine CF.seq (CF.region ?_)
  refine LF.step (OpOk.fieldAddr (Try.fld40_6) rfl) ?_
  refine LF.step (OpOk.ldBx hb1 Try.one21 rfl rfl) ?_
  refine LF.step (OpOk.convI Try.underlying21 Try.underlying66 rfl rfl) ?_
  refine LF.step (OpOk.lss rfl rfl) ?_
  refine LF.step (OpOk.assign rfl) (LF.nil (PF.next (CF.ret (PF.blockRet (PF.thenRet ?_)))))
  have hm : immM i = (decide (IntKind.u32.wrap i.Imm < 256)) := by
    (unfold immM; (repeat rw [if_neg (by omega)]) <;> (try rw [if_pos (by omega)]) <;> first | rfl | exact (u32_dec (rMach.w_Imm p0k) 32 (by decide)).symm | exact (u32_dec (rMach.w_Imm p0k) 256 (by decide)).symm | (simp [*]; done) | (simp; done) | (rw [Bool.decide_and]; done))
  exact PF.ret1 rfl rfl ⟨by rw [hm] <;> rfl, hkp⟩
  refine CF.skip (PF.blockNormal (PF.next (CF.seq (CF.region (LF.step (OpOk.assign rfl) (LF.nil (PF.next (CF.ret ?_))))))))
  have hm : immM i = true := by
    (unfold immM; (repeat rw [if_neg (by omega)]) <;> (try rw [if_pos (by omega)]) <;> first | rfl | exact (u32_dec (rMach.w_Imm p0k) 32 (by decide)).symm | exact (u32_dec (rMach.w_Imm p0k) 256 (by decide)).symm | (simp [*]; done) | (simp; done) | (rw [Bool.decide_and]; done))
  exact PF.ret1 rfl rfl ⟨by rw [hm] <;> rfl, hkp⟩

-- jacquard/jacquardref07.Imm: function 104
theorem rImm_ct {F : PH} {H : Heap} (hin : InH F H) {a0 : Value} {i : D.Mach} (p0 : rMach.ra F a0 i) :
    Ct Try.prog 104 #[a0] H (fun v H' => v = .bool (immM i) ∧ Kp H.size H H') := by
  have p0k := rMach.any p0
  obtain ⟨a0c7, rfl, p0c7⟩ := rMach.open p0
  have p0c7q := rL.len2 p0c7
  have hkp := Kp.refl H.size H
  have hx := PH.ext.refl (H := H) F
  refine Ct.enter (args := [.agg #[.int .i64 i.Op, .int .i64 i.D, .int .i64 i.E, .int .i64 i.A, .int .i64 i.B, .int .i64 i.C, .int .i32 i.Imm, a0c7]]) Try.func104 rfl rfl rfl (fun w0 hw0 => ?_)
  refine CF.seq (CF.region ?_)
  refine LF.chg (OpCh.boxB rfl rfl) ?_
  rintro _ H1 ⟨g1, rfl, eg1, sg1, kg1, hb1⟩
  have ng1 := hin.nope (Nat.le_of_eq eg1.symm)
  have lg1 := hkp.1
  have zkg1 := kg1.1
  replace hin := hin.kp kg1
  replace hkp := hkp.trans (kg1.mono hkp.1)
  clear kg1
  refine LF.step (OpOk.assign rfl) (LF.nil (PF.next (CF.seq (CF.seq (CF.region ?_)))))
  refine LF.step (OpOk.fieldAddr (Try.fld40_0) rfl) ?_
  refine LF.step (OpOk.ldBx hb1 Try.one3 rfl rfl) ?_
  refine LF.nil (PF.next (CF.block (CF.seq (CF.region ?_))))
  refine LF.step (OpOk.eql rfl rfl) ?_
  refine LF.step (OpOk.assign rfl) (LF.nil (PF.next ?_))
  refine CF.if rfl (fun hc1 => ?_) (fun hc1 => ?_)
  refine CF.seq (CF.region ?_)
  refine LF.step (OpOk.fieldAddr (Try.fld40_6) rfl) ?_
  refine LF.step (OpOk.ldBx hb1 Try.one21 rfl rfl) ?_
  refine LF.call (OpCall.fn Try.ent107 rfl rfl) (rFits_ct hin i.Imm 16 (rMach.w_Imm (m := i) p0k)) ?_
  rintro _ _ ⟨rfl, rfl⟩
  refine LF.step (OpOk.assign rfl) (LF.nil (PF.next (CF.ret (PF.blockRet (PF.thenRet ?_)))))
  have hm : immM i = (fitsM i.Imm 16) := by
    (unfold immM; (repeat rw [if_neg (by omega)]) <;> (try rw [if_pos (by omega)]) <;> first | rfl | exact (u32_dec (rMach.w_Imm p0k) 32 (by decide)).symm | exact (u32_dec (rMach.w_Imm p0k) 256 (by decide)).symm | (simp [*]; done) | (simp; done) | (rw [Bool.decide_and]; done))
  exact PF.ret1 rfl rfl ⟨by rw [hm] <;> rfl, hkp⟩
  refine CF.seq (CF.seq (CF.region ?_))
  refine LF.step (OpOk.eql rfl rfl) ?_
  refine LF.step (OpOk.assign rfl) (LF.nil (PF.next ?_))
  refine CF.if rfl (fun hc2 => ?_) (fun hc2 => ?_)
  refine CF.skip (PF.next ?_)
  refine CF.if rfl (fun hc3 => ?_) (fun hc3 => ?_)
  refine CF.seq (CF.region ?_)
  refine LF.step (OpOk.fieldAddr (Try.fld40_6) rfl) ?_
  refine LF.step (OpOk.ldBx hb1 Try.one21 rfl rfl) ?_
  refine LF.call (OpCall.fn Try.ent107 rfl rfl) (rFits_ct hin i.Imm 8 (rMach.w_Imm (m := i) p0k)) ?_
  rintro _ _ ⟨rfl, rfl⟩
  refine LF.step (OpOk.assign rfl) (LF.nil (PF.next (CF.ret (PF.blockRet (PF.thenRet ?_)))))
  have hm : immM i = (fitsM i.Imm 8) := by
    (unfold immM; (repeat rw [if_neg (by omega)]) <;> (try rw [if_pos (by omega)]) <;> first | rfl | exact (u32_dec (rMach.w_Imm p0k) 32 (by decide)).symm | exact (u32_dec (rMach.w_Imm p0k) 256 (by decide)).symm | (simp [*]; done) | (simp; done) | (rw [Bool.decide_and]; done))
  exact PF.ret1 rfl rfl ⟨by rw [hm] <;> rfl, hkp⟩
  exact absurd hc3 (by simp [hc1, hc2])
  refine CF.region ?_
  refine LF.step (OpOk.eql rfl rfl) ?_
  refine LF.step (OpOk.assign rfl) (LF.nil (PF.next ?_))
  refine CF.if rfl (fun hc4 => ?_) (fun hc4 => ?_)
  refine CF.seq (CF.region ?_)
  refine LF.step (OpOk.fieldAddr (Try.fld40_6) rfl) ?_
  refine LF.step (OpOk.ldBx hb1 Try.one21 rfl rfl) ?_
  refine LF.call (OpCall.fn Try.ent107 rfl rfl) (rFits_ct hin i.Imm 8 (rMach.w_Imm (m := i) p0k)) ?_
  rintro _ _ ⟨rfl, rfl⟩
  refine LF.step (OpOk.assign rfl) (LF.nil (PF.next (CF.ret (PF.blockRet (PF.thenRet ?_)))))
  have hm : immM i = (fitsM i.Imm 8) := by
    (unfold immM; (repeat rw [if_neg (by omega)]) <;> (try rw [if_pos (by omega)]) <;> first | rfl | exact (u32_dec (rMach.w_Imm p0k) 32 (by decide)).symm | exact (u32_dec (rMach.w_Imm p0k) 256 (by decide)).symm | (simp [*]; done) | (simp; done) | (rw [Bool.decide_and]; done))
  exact PF.ret1 rfl rfl ⟨by rw [hm] <;> rfl, hkp⟩
  refine CF.seq (CF.seq (CF.region ?_))
  refine LF.step (OpOk.eql rfl rfl) ?_
  refine LF.step (OpOk.assign rfl) (LF.nil (PF.next ?_))
  refine CF.if rfl (fun hc5 => ?_) (fun hc5 => ?_)
  refine CF.skip (PF.next ?_)
  refine CF.if rfl (fun hc6 => ?_) (fun hc6 => ?_)
  refine CF.seq (CF.region ?_)
  refine LF.step (OpOk.fieldAddr (Try.fld40_6) rfl) ?_
  refine LF.step (OpOk.ldBx hb1 Try.one21 rfl rfl) ?_
  refine LF.step (OpOk.geq rfl rfl) ?_
  refine LF.step (OpOk.move rfl) ?_
  refine LF.gstep rfl rfl (.t _) (fun hg => OpOk.fieldAddr (Try.fld40_6) rfl) ?_
  refine LF.gstep rfl rfl (.t _) (fun hg => OpOk.ldBx hb1 Try.one21 (evg rfl hg) rfl) ?_
  refine LF.gstep rfl rfl (.t _) (fun hg => OpOk.leq (evg rfl hg) rfl) ?_
  refine LF.step (OpOk.pickAnd rfl rfl) ?_
  refine LF.step (OpOk.assign rfl) (LF.nil (PF.next (CF.ret (PF.blockRet (PF.thenRet ?_)))))
  have hm : immM i = ((decide (0 ≤ i.Imm)) && (decide (i.Imm ≤ 31))) := by
    (unfold immM; (repeat rw [if_neg (by omega)]) <;> (try rw [if_pos (by omega)]) <;> first | rfl | exact (u32_dec (rMach.w_Imm p0k) 32 (by decide)).symm | exact (u32_dec (rMach.w_Imm p0k) 256 (by decide)).symm | (simp [*]; done) | (simp; done) | (rw [Bool.decide_and]; done))
  exact PF.ret1 rfl rfl ⟨by rw [hm] <;> rfl, hkp⟩
  exact absurd hc6 (by simp [hc1, hc2, hc4, hc5])
  refine CF.seq (CF.region ?_)
  refine LF.step (OpOk.eql rfl rfl) ?_
  refine LF.step (OpOk.assign rfl) (LF.nil (PF.next ?_))
  refine CF.if rfl (fun hc7 => ?_) (fun hc7 => ?_)
  refine CF.skip (PF.next ?_)
  refine CF.if rfl (fun hc8 => ?_) (fun hc8 => ?_)
  refine CF.seq (CF.region ?_)
  refine LF.step (OpOk.fieldAddr (Try.fld40_6) rfl) ?_
  refine LF.step (OpOk.ldBx hb1 Try.one21 rfl rfl) ?_
  refine LF.step (OpOk.geq rfl rfl) ?_
  refine LF.step (OpOk.move rfl) ?_
  refine LF.gstep rfl rfl (.t _) (fun hg => OpOk.fieldAddr (Try.fld40_6) rfl) ?_
  refine LF.gstep rfl rfl (.t _) (fun hg => OpOk.ldBx hb1 Try.one21 (evg rfl hg) rfl) ?_
  refine LF.gstep rfl rfl (.t _) (fun hg => OpOk.leq (evg rfl hg) rfl) ?_
  refine LF.step (OpOk.pickAnd rfl rfl) ?_
  refine LF.step (OpOk.assign rfl) (LF.nil (PF.next (CF.ret (PF.blockRet (PF.thenRet ?_)))))
  have hm : immM i = ((decide (0 ≤ i.Imm)) && (decide (i.Imm ≤ 31))) := by
    (unfold immM; (repeat rw [if_neg (by omega)]) <;> (try rw [if_pos (by omega)]) <;> first | rfl | exact (u32_dec (rMach.w_Imm p0k) 32 (by decide)).symm | exact (u32_dec (rMach.w_Imm p0k) 256 (by decide)).symm | (simp [*]; done) | (simp; done) | (rw [Bool.decide_and]; done))
  exact PF.ret1 rfl rfl ⟨by rw [hm] <;> rfl, hkp⟩
  exact absurd hc8 (by simp [hc1, hc2, hc4, hc5, hc7])
  refine CF.region ?_
  refine LF.step (OpOk.eql rfl rfl) ?_
  refine LF.step (OpOk.assign rfl) (LF.nil (PF.next ?_))
  refine CF.if rfl (fun hc9 => ?_) (fun hc9 => ?_)
  refine CF.seq (CF.region ?_)
  refine LF.step (OpOk.fieldAddr (Try.fld40_6) rfl) ?_
  refine LF.step (OpOk.ldBx hb1 Try.one21 rfl rfl) ?_
  refine LF.step (OpOk.geq rfl rfl) ?_
  refine LF.step (OpOk.move rfl) ?_
  refine LF.gstep rfl rfl (.t _) (fun hg => OpOk.fieldAddr (Try.fld40_6) rfl) ?_
  refine LF.gstep rfl rfl (.t _) (fun hg => OpOk.ldBx hb1 Try.one21 (evg rfl hg) rfl) ?_
  refine LF.gstep rfl rfl (.t _) (fun hg => OpOk.leq (evg rfl hg) rfl) ?_
  refine LF.step (OpOk.pickAnd rfl rfl) ?_
  refine LF.step (OpOk.assign rfl) (LF.nil (PF.next (CF.ret (PF.blockRet (PF.thenRet ?_)))))
  have hm : immM i = ((decide (0 ≤ i.Imm)) && (decide (i.Imm ≤ 31))) := by
    (unfold immM; (repeat rw [if_neg (by omega)]) <;> (try rw [if_pos (by omega)]) <;> first | rfl | exact (u32_dec (rMach.w_Imm p0k) 32 (by decide)).symm | exact (u32_dec (rMach.w_Imm p0k) 256 (by decide)).symm | (simp [*]; done) | (simp; done) | (rw [Bool.decide_and]; done))
  exact PF.ret1 rfl rfl ⟨by rw [hm] <;> rfl, hkp⟩
  refine CF.seq (CF.seq (CF.region ?_))
  refine LF.step (OpOk.eql rfl rfl) ?_
  refine LF.step (OpOk.assign rfl) (LF.nil (PF.next ?_))
  refine CF.if rfl (fun hc10 => ?_) (fun hc10 => ?_)
  refine CF.skip (PF.next ?_)
  refine CF.if rfl (fun hc11 => ?_) (fun hc11 => ?_)
  refine CF.seq (CF.region ?_)
  refine LF.step (OpOk.fieldAddr (Try.fld40_6) rfl) ?_
  refine LF.step (OpOk.ldBx hb1 Try.one21 rfl rfl) ?_
  refine LF.step (OpOk.geq rfl rfl) ?_
  refine LF.step (OpOk.move rfl) ?_
  refine LF.gstep rfl rfl (.t _) (fun hg => OpOk.fieldAddr (Try.fld40_6) rfl) ?_
  refine LF.gstep rfl rfl (.t _) (fun hg => OpOk.ldBx hb1 Try.one21 (evg rfl hg) rfl) ?_
  refine LF.gstep rfl rfl (.t _) (fun hg => OpOk.leq (evg rfl hg) rfl) ?_
  refine LF.step (OpOk.pickAnd rfl rfl) ?_
  refine LF.step (OpOk.assign rfl) (LF.nil (PF.next (CF.ret (PF.blockRet (PF.thenRet ?_)))))
  have hm : immM i = ((decide (0 ≤ i.Imm)) && (decide (i.Imm ≤ 255))) := by
    (unfold immM; (repeat rw [if_neg (by omega)]) <;> (try rw [if_pos (by omega)]) <;> first | rfl | exact (u32_dec (rMach.w_Imm p0k) 32 (by decide)).symm | exact (u32_dec (rMach.w_Imm p0k) 256 (by decide)).symm | (simp [*]; done) | (simp; done) | (rw [Bool.decide_and]; done))
  exact PF.ret1 rfl rfl ⟨by rw [hm] <;> rfl, hkp⟩
  exact absurd hc11 (by simp [hc1, hc2, hc4, hc5, hc7, hc9, hc10])
  refine CF.region ?_
  refine LF.step (OpOk.eql rfl rfl) ?_
  refine LF.step (OpOk.assign rfl) (LF.nil (PF.next ?_))
  refine CF.if rfl (fun hc12 => ?_) (fun hc12 => ?_)
  refine CF.seq (CF.region ?_)
  refine LF.step (OpOk.fieldAddr (Try.fld40_6) rfl) ?_
  refine LF.step (OpOk.ldBx hb1 Try.one21 rfl rfl) ?_
  refine LF.step (OpOk.geq rfl rfl) ?_
  refine LF.step (OpOk.move rfl) ?_
  refine LF.gstep rfl rfl (.t _) (fun hg => OpOk.fieldAddr (Try.fld40_6) rfl) ?_
  refine LF.gstep rfl rfl (.t _) (fun hg => OpOk.ldBx hb1 Try.one21 (evg rfl hg) rfl) ?_
  refine LF.gstep rfl rfl (.t _) (fun hg => OpOk.leq (evg rfl hg) rfl) ?_
  refine LF.step (OpOk.pickAnd rfl rfl) ?_
  refine LF.step (OpOk.assign rfl) (LF.nil (PF.next (CF.ret (PF.blockRet (PF.thenRet ?_)))))
  have hm : immM i = ((decide (0 ≤ i.Imm)) && (decide (i.Imm ≤ 255))) := by
    (unfold immM; (repeat rw [if_neg (by omega)]) <;> (try rw [if_pos (by omega)]) <;> first | rfl | exact (u32_dec (rMach.w_Imm p0k) 32 (by decide)).symm | exact (u32_dec (rMach.w_Imm p0k) 256 (by decide)).symm | (simp [*]; done) | (simp; done) | (rw [Bool.decide_and]; done))
  exact PF.ret1 rfl rfl ⟨by rw [hm] <;> rfl, hkp⟩
  refine CF.skip (PF.blockNormal (PF.next (CF.seq (CF.region (LF.step (OpOk.assign rfl) (LF.nil (PF.next (CF.ret ?_))))))))
  have hm : immM i = true := by
    (unfold immM; (repeat rw [if_neg (by omega)]) <;> (try rw [if_pos (by omega)]) <;> first | rfl | exact (u32_dec (rMach.w_Imm p0k) 32 (by decide)).symm | exact (u32_dec (rMach.w_Imm p0k) 256 (by decide)).symm | (simp [*]; done) | (simp; done) | (rw [Bool.decide_and]; done))
  exact PF.ret1 rfl rfl ⟨by rw [hm] <;> rfl, hkp⟩

-- jacquard/mach.ins: function 57
theorem pIns_ct {F : PH} {H : Heap} (hin : InH F H) {a0 : Value} {i : D.Mach} (p0 : rMach.ra F a0 i) :
    Ct Try.prog 57 #[a0] H (fun v H' => v = .int .i64 (insE i) ∧ Kp H.size H H') := by
  have p0k := rMach.any p0
  obtain ⟨a0c7, rfl, p0c7⟩ := rMach.open p0
  have p0c7q := rL.len2 p0c7
  have hkp := Kp.refl H.size H
  have hx := PH.ext.refl (H := H) F
  refine Ct.enter (args := [.agg #[.int .i64 i.Op, .int .i64 i.D, .int .i64 i.E, .int .i64 i.A, .int .i64 i.B, .int .i64 i.C, .int .i32 i.Imm, a0c7]]) Try.func57 rfl rfl rfl (fun w0 hw0 => ?_)
  refine CF.seq (CF.region ?_)
  refine LF.chg (OpCh.boxB rfl rfl) ?_
  rintro _ H1 ⟨g1, rfl, eg1, sg1, kg1, hb1⟩
  have ng1 := hin.nope (Nat.le_of_eq eg1.symm)
  have lg1 := hkp.1
  have zkg1 := kg1.1
  replace hin := hin.kp kg1
  replace hkp := hkp.trans (kg1.mono hkp.1)
  clear kg1
  refine LF.step (OpOk.assign rfl) (LF.nil (PF.next (CF.seq (CF.block (CF.seq (CF.region ?_))))))
  refine LF.step (OpOk.fieldAddr (Try.fld40_0) rfl) ?_
  refine LF.step (OpOk.ldBx hb1 Try.one3 rfl rfl) ?_
  refine LF.step (OpOk.lss rfl rfl) ?_
  refine LF.step (OpOk.move rfl) ?_
  refine LF.gstep rfl rfl (.f _) (fun hg => OpOk.fieldAddr (Try.fld40_0) rfl) ?_
  refine LF.gstep rfl rfl (.f _) (fun hg => OpOk.ldBx hb1 Try.one3 (evg rfl hg) rfl) ?_
  refine LF.gstep rfl rfl (.f _) (fun hg => OpOk.gtr (evg rfl hg) rfl) ?_
  refine LF.step (OpOk.pickOr rfl rfl) ?_
  refine LF.step (OpOk.move rfl) ?_
  refine LF.gstep rfl rfl (.f _) (fun hg => OpOk.fieldAddr (Try.fld40_0) rfl) ?_
  refine LF.gstep rfl rfl (.f _) (fun hg => OpOk.ldBx hb1 Try.one3 (evg rfl hg) rfl) ?_
  refine LF.gstep rfl rfl (.f _) (fun hg => OpOk.eql (evg rfl hg) rfl) ?_
  refine LF.step (OpOk.pickOr rfl rfl) ?_
  refine LF.step (OpOk.move rfl) ?_
  refine LF.gstep rfl rfl (.f _) (fun hg => OpOk.fieldAddr (Try.fld40_0) rfl) ?_
  refine LF.gstep rfl rfl (.f _) (fun hg => OpOk.ldBx hb1 Try.one3 (evg rfl hg) rfl) ?_
  refine LF.gstep rfl rfl (.f _) (fun hg => OpOk.eql (evg rfl hg) rfl) ?_
  refine LF.gstep rfl rfl (.f _) (fun hg => OpOk.move (evg rfl hg)) ?_
  refine LF.gstep rfl rfl (.gt _ _) (fun hg => OpOk.fieldAddr (Try.fld40_7) rfl) ?_
  refine LF.gstep rfl rfl (.gt _ _) (fun hg => OpOk.ldBx hb1 Try.one38 (evg rfl hg) rfl) ?_
  refine LF.gstep rfl rfl (.gt _ _) (fun hg => OpOk.lenL Try.underlying38 p0c7 (evg rfl hg)) ?_
  refine LF.gstep rfl rfl (.gt _ _) (fun hg => OpOk.gtr (evg rfl hg) rfl) ?_
  refine LF.gstep rfl rfl (.f _) (fun hg => OpOk.pickAnd2 hg rfl rfl) ?_
  refine LF.step (OpOk.pickOr rfl rfl) ?_
  refine LF.step (OpOk.assign rfl) (LF.nil (PF.next ?_))
  refine CF.if rfl (fun hc1 => ?_) (fun hc1 => ?_)
  refine CF.seq (CF.region (LF.step (OpOk.assign rfl) (LF.nil (PF.next (CF.ret (PF.blockRet (PF.thenRet ?_)))))))
  have hm : insE i = 30 := by
    first | (unfold insE; rw [if_pos (by omega)]; done) | (unfold insE; rw [if_neg (by omega)]; simp [*]; done) | (unfold insE; rw [if_neg (by omega)]; simp [*]; omega)
  exact PF.ret1 rfl rfl ⟨by rw [hm] <;> rfl, hkp⟩
  refine CF.seq (CF.region ?_)
  refine LF.step (OpOk.ldBxA hb1 Try.agg40 Try.sz40 rfl rfl rfl) ?_
  refine LF.call (OpCall.fn Try.ent18 rfl rfl) (pMakes_ct hin p0) ?_
  rintro v30 H30 ⟨F30, x30, i30, k30, h30⟩
  have zk30 := k30.1
  replace hx := hx.trans x30 hkp.1
  replace hkp := hkp.trans (k30.mono hkp.1)
  have l30 := hkp.1
  replace ng1 := x30.no ng1 hb1.lt
  replace hb1 := hb1.kp k30
  have le0 := x30.1
  have hin := i30
  have h30q := rL.len2 h30
  refine LF.call (OpCall.fn Try.ent79 rfl rfl) (pRegs_ct hin h30) ?_
  rintro _ H31 ⟨rfl, k31⟩
  have zk31 := k31.1
  replace hin := hin.kp k31
  replace hkp := hkp.trans (k31.mono hkp.1)
  replace hb1 := hb1.kp k31
  refine LF.step (OpOk.not rfl) ?_
  refine LF.step (OpOk.move rfl) ?_
  refine LF.gstep rfl rfl (.f _) (fun hg => OpOk.ldBxA hb1 Try.agg40 Try.sz40 rfl rfl rfl) ?_
  refine LF.gcallF rfl rfl (.f _) (fun hg => OpCall.fn Try.ent17 rfl (evl1 (evg rfl hg))) (fun hg => pTakes_ct hin (p0.up le0)) ?_
  intro v35 H35 z35
  obtain ⟨F35, x35, i35, k35, h35⟩ := gfresh (v := v35) (p := fun G u => (rL (rI .i64)).rv G u (takesM i)) hin z35
  clear z35
  have zk35 := k35.1
  replace hx := hx.trans x35 hkp.1
  replace hkp := hkp.trans (k35.mono hkp.1)
  have l35 := hkp.1
  replace ng1 := x35.no ng1 hb1.lt
  replace hb1 := hb1.kp k35
  replace le0 := le0.trans x35.1
  have le1 := x35.1
  have hin := i35
  refine LF.gcallR rfl rfl (.f _) (fun hg => OpCall.fn Try.ent79 rfl (evl1 (evg rfl hg))) (fun hg => pRegs_ct hin (h35 hg)) (fun _ _ h => h.1) ?_
  intro Hq1 zq1
  have kq1 := gkp2 zq1
  have zkq1 := kq1.1
  replace hin := hin.kp kq1
  replace hkp := hkp.trans (kq1.mono hkp.1)
  replace hb1 := hb1.kp kq1
  clear zq1
  refine LF.gstep rfl rfl (.f _) (fun hg => OpOk.not (evg rfl hg)) ?_
  refine LF.step (OpOk.pickOr rfl rfl) ?_
  refine LF.step (OpOk.assign rfl) (LF.nil (PF.next ?_))
  refine CF.if rfl (fun hc2 => ?_) (fun hc2 => ?_)
  refine CF.seq (CF.region (LF.step (OpOk.assign rfl) (LF.nil (PF.next (CF.ret (PF.blockRet (PF.thenRet ?_)))))))
  have hm : insE i = 31 := by
    first | (unfold insE; rw [if_pos (by omega)]; done) | (unfold insE; rw [if_neg (by omega)]; simp [*]; done) | (unfold insE; rw [if_neg (by omega)]; simp [*]; omega)
  exact PF.ret1 rfl rfl ⟨by rw [hm] <;> rfl, hkp⟩
  refine CF.seq (CF.region ?_)
  refine LF.step (OpOk.fieldAddr (Try.fld40_0) rfl) ?_
  refine LF.step (OpOk.ldBx hb1 Try.one3 rfl rfl) ?_
  refine LF.step (OpOk.eql rfl rfl) ?_
  refine LF.step (OpOk.move rfl) ?_
  refine LF.gstep rfl rfl (.t _) (fun hg => OpOk.fieldAddr (Try.fld40_1) rfl) ?_
  refine LF.gstep rfl rfl (.t _) (fun hg => OpOk.ldBx hb1 Try.one3 (evg rfl hg) rfl) ?_
  refine LF.gstep rfl rfl (.t _) (fun hg => OpOk.fieldAddr (Try.fld40_2) rfl) ?_
  refine LF.gstep rfl rfl (.t _) (fun hg => OpOk.ldBx hb1 Try.one3 (evg rfl hg) rfl) ?_
  refine LF.gstep rfl rfl (.t _) (fun hg => OpOk.eql (evg rfl hg) (evg rfl hg)) ?_
  refine LF.step (OpOk.pickAnd rfl rfl) ?_
  refine LF.step (OpOk.assign rfl) (LF.nil (PF.next ?_))
  refine CF.if rfl (fun hc3 => ?_) (fun hc3 => ?_)
  refine CF.seq (CF.region (LF.step (OpOk.assign rfl) (LF.nil (PF.next (CF.ret (PF.blockRet (PF.thenRet ?_)))))))
  have hm : insE i = 12 := by
    first | (unfold insE; rw [if_pos (by omega)]; done) | (unfold insE; rw [if_neg (by omega)]; simp [*]; done) | (unfold insE; rw [if_neg (by omega)]; simp [*]; omega)
  exact PF.ret1 rfl rfl ⟨by rw [hm] <;> rfl, hkp⟩
  refine CF.seq (CF.region ?_)
  refine LF.step (OpOk.ldBxA hb1 Try.agg40 Try.sz40 rfl rfl rfl) ?_
  refine LF.call (OpCall.fn Try.ent84 rfl rfl) (pImm_ct hin (p0.up le0)) ?_
  rintro _ H52 ⟨rfl, k52⟩
  have zk52 := k52.1
  replace hin := hin.kp k52
  replace hkp := hkp.trans (k52.mono hkp.1)
  replace hb1 := hb1.kp k52
  refine LF.step (OpOk.not rfl) ?_
  refine LF.step (OpOk.assign rfl) (LF.nil (PF.next ?_))
  refine CF.if rfl (fun hc4 => ?_) (fun hc4 => ?_)
  refine CF.seq (CF.region (LF.step (OpOk.assign rfl) (LF.nil (PF.next (CF.ret (PF.blockRet (PF.thenRet ?_)))))))
  have hm : insE i = 32 := by
    first | (unfold insE; rw [if_pos (by omega)]; done) | (unfold insE; rw [if_neg (by omega)]; simp [*]; done) | (unfold insE; rw [if_neg (by omega)]; simp [*]; omega)
  exact PF.ret1 rfl rfl ⟨by rw [hm] <;> rfl, hkp⟩
  refine CF.skip (PF.blockNormal (PF.next (CF.seq (CF.region (LF.step (OpOk.assign rfl) (LF.nil (PF.next (CF.ret ?_))))))))
  have hm : insE i = 0 := by
    first | (unfold insE; rw [if_pos (by omega)]; done) | (unfold insE; rw [if_neg (by omega)]; simp [*]; done) | (unfold insE; rw [if_neg (by omega)]; simp [*]; omega)
  exact PF.ret1 rfl rfl ⟨by rw [hm] <;> rfl, hkp⟩

-- jacquard/jacquardref07.Ins: function 93
theorem rIns_ct {F : PH} {H : Heap} (hin : InH F H) {a0 : Value} {i : D.Mach} (p0 : rMach.ra F a0 i) :
    Ct Try.prog 93 #[a0] H (fun v H' => v = .int .i64 (insE i) ∧ Kp H.size H H') := by
  have p0k := rMach.any p0
  obtain ⟨a0c7, rfl, p0c7⟩ := rMach.open p0
  have p0c7q := rL.len2 p0c7
  have hkp := Kp.refl H.size H
  have hx := PH.ext.refl (H := H) F
  refine Ct.enter (args := [.agg #[.int .i64 i.Op, .int .i64 i.D, .int .i64 i.E, .int .i64 i.A, .int .i64 i.B, .int .i64 i.C, .int .i32 i.Imm, a0c7]]) Try.func93 rfl rfl rfl (fun w0 hw0 => ?_)
  refine CF.seq (CF.region ?_)
  refine LF.chg (OpCh.boxB rfl rfl) ?_
  rintro _ H1 ⟨g1, rfl, eg1, sg1, kg1, hb1⟩
  have ng1 := hin.nope (Nat.le_of_eq eg1.symm)
  have lg1 := hkp.1
  have zkg1 := kg1.1
  replace hin := hin.kp kg1
  replace hkp := hkp.trans (kg1.mono hkp.1)
  clear kg1
  refine LF.step (OpOk.assign rfl) (LF.nil (PF.next (CF.seq (CF.seq (CF.region ?_)))))
  refine LF.step (OpOk.fieldAddr (Try.fld40_0) rfl) ?_
  refine LF.step (OpOk.ldBx hb1 Try.one3 rfl rfl) ?_
  refine LF.step (OpOk.lss rfl rfl) ?_
  refine LF.step (OpOk.move rfl) ?_
  refine LF.gstep rfl rfl (.f _) (fun hg => OpOk.fieldAddr (Try.fld40_0) rfl) ?_
  refine LF.gstep rfl rfl (.f _) (fun hg => OpOk.ldBx hb1 Try.one3 (evg rfl hg) rfl) ?_
  refine LF.gstep rfl rfl (.f _) (fun hg => OpOk.gtr (evg rfl hg) rfl) ?_
  refine LF.step (OpOk.pickOr rfl rfl) ?_
  refine LF.step (OpOk.move rfl) ?_
  refine LF.gstep rfl rfl (.f _) (fun hg => OpOk.fieldAddr (Try.fld40_0) rfl) ?_
  refine LF.gstep rfl rfl (.f _) (fun hg => OpOk.ldBx hb1 Try.one3 (evg rfl hg) rfl) ?_
  refine LF.gstep rfl rfl (.f _) (fun hg => OpOk.eql (evg rfl hg) rfl) ?_
  refine LF.step (OpOk.pickOr rfl rfl) ?_
  refine LF.step (OpOk.move rfl) ?_
  refine LF.gstep rfl rfl (.f _) (fun hg => OpOk.fieldAddr (Try.fld40_0) rfl) ?_
  refine LF.gstep rfl rfl (.f _) (fun hg => OpOk.ldBx hb1 Try.one3 (evg rfl hg) rfl) ?_
  refine LF.gstep rfl rfl (.f _) (fun hg => OpOk.eql (evg rfl hg) rfl) ?_
  refine LF.gstep rfl rfl (.f _) (fun hg => OpOk.move (evg rfl hg)) ?_
  refine LF.gstep rfl rfl (.gt _ _) (fun hg => OpOk.fieldAddr (Try.fld40_7) rfl) ?_
  refine LF.gstep rfl rfl (.gt _ _) (fun hg => OpOk.ldBx hb1 Try.one38 (evg rfl hg) rfl) ?_
  refine LF.gstep rfl rfl (.gt _ _) (fun hg => OpOk.lenL Try.underlying38 p0c7 (evg rfl hg)) ?_
  refine LF.gstep rfl rfl (.gt _ _) (fun hg => OpOk.gtr (evg rfl hg) rfl) ?_
  refine LF.gstep rfl rfl (.f _) (fun hg => OpOk.pickAnd2 hg rfl rfl) ?_
  refine LF.step (OpOk.pickOr rfl rfl) ?_
  refine LF.nil (PF.next ?_)
  refine CF.if rfl (fun hc1 => ?_) (fun hc1 => ?_)
  refine CF.seq (CF.region (LF.step (OpOk.assign rfl) (LF.nil (PF.next (CF.ret (PF.thenRet ?_))))))
  have hm : insE i = 30 := by
    first | (unfold insE; rw [if_pos (by omega)]; done) | (unfold insE; rw [if_neg (by omega)]; simp [*]; done) | (unfold insE; rw [if_neg (by omega)]; simp [*]; omega)
  exact PF.ret1 rfl rfl ⟨by rw [hm] <;> rfl, hkp⟩
  refine CF.skip (PF.next (CF.seq (CF.seq (CF.region ?_))))
  refine LF.step (OpOk.ldBxA hb1 Try.agg40 Try.sz40 rfl rfl rfl) ?_
  refine LF.call (OpCall.fn Try.ent102 rfl rfl) (rMakes_ct hin p0) ?_
  rintro v28 H28 ⟨F28, x28, i28, k28, h28⟩
  have zk28 := k28.1
  replace hx := hx.trans x28 hkp.1
  replace hkp := hkp.trans (k28.mono hkp.1)
  have l28 := hkp.1
  replace ng1 := x28.no ng1 hb1.lt
  replace hb1 := hb1.kp k28
  have le0 := x28.1
  have hin := i28
  have h28q := rL.len2 h28
  refine LF.call (OpCall.fn Try.ent101 rfl rfl) (rReg_ct hin h28) ?_
  rintro _ _ ⟨rfl, rfl⟩
  refine LF.step (OpOk.not rfl) ?_
  refine LF.step (OpOk.move rfl) ?_
  refine LF.gstep rfl rfl (.f _) (fun hg => OpOk.ldBxA hb1 Try.agg40 Try.sz40 rfl rfl rfl) ?_
  refine LF.gcallF rfl rfl (.f _) (fun hg => OpCall.fn Try.ent103 rfl (evl1 (evg rfl hg))) (fun hg => rTakes_ct hin (p0.up le0)) ?_
  intro v33 H33 z33
  obtain ⟨F33, x33, i33, k33, h33⟩ := gfresh (v := v33) (p := fun G u => (rL (rI .i64)).rv G u (takesM i)) hin z33
  clear z33
  have zk33 := k33.1
  replace hx := hx.trans x33 hkp.1
  replace hkp := hkp.trans (k33.mono hkp.1)
  have l33 := hkp.1
  replace ng1 := x33.no ng1 hb1.lt
  replace hb1 := hb1.kp k33
  replace le0 := le0.trans x33.1
  have le1 := x33.1
  have hin := i33
  refine LF.gcall rfl rfl (.f _) (fun hg => OpCall.fn Try.ent101 rfl (evl1 (evg rfl hg))) (fun hg => rReg_ct hin (h33 hg)) (fun _ _ h => h) ?_
  refine LF.gstep rfl rfl (.f _) (fun hg => OpOk.not (evg rfl hg)) ?_
  refine LF.step (OpOk.pickOr rfl rfl) ?_
  refine LF.nil (PF.next ?_)
  refine CF.if rfl (fun hc2 => ?_) (fun hc2 => ?_)
  refine CF.seq (CF.region (LF.step (OpOk.assign rfl) (LF.nil (PF.next (CF.ret (PF.thenRet ?_))))))
  have hm : insE i = 31 := by
    first | (unfold insE; rw [if_pos (by omega)]; done) | (unfold insE; rw [if_neg (by omega)]; simp [*]; done) | (unfold insE; rw [if_neg (by omega)]; simp [*]; omega)
  exact PF.ret1 rfl rfl ⟨by rw [hm] <;> rfl, hkp⟩
  refine CF.skip (PF.next (CF.seq (CF.seq (CF.region ?_))))
  refine LF.step (OpOk.fieldAddr (Try.fld40_0) rfl) ?_
  refine LF.step (OpOk.ldBx hb1 Try.one3 rfl rfl) ?_
  refine LF.step (OpOk.eql rfl rfl) ?_
  refine LF.step (OpOk.move rfl) ?_
  refine LF.gstep rfl rfl (.t _) (fun hg => OpOk.fieldAddr (Try.fld40_1) rfl) ?_
  refine LF.gstep rfl rfl (.t _) (fun hg => OpOk.ldBx hb1 Try.one3 (evg rfl hg) rfl) ?_
  refine LF.gstep rfl rfl (.t _) (fun hg => OpOk.fieldAddr (Try.fld40_2) rfl) ?_
  refine LF.gstep rfl rfl (.t _) (fun hg => OpOk.ldBx hb1 Try.one3 (evg rfl hg) rfl) ?_
  refine LF.gstep rfl rfl (.t _) (fun hg => OpOk.eql (evg rfl hg) (evg rfl hg)) ?_
  refine LF.step (OpOk.pickAnd rfl rfl) ?_
  refine LF.nil (PF.next ?_)
  refine CF.if rfl (fun hc3 => ?_) (fun hc3 => ?_)
  refine CF.seq (CF.region (LF.step (OpOk.assign rfl) (LF.nil (PF.next (CF.ret (PF.thenRet ?_))))))
  have hm : insE i = 12 := by
    first | (unfold insE; rw [if_pos (by omega)]; done) | (unfold insE; rw [if_neg (by omega)]; simp [*]; done) | (unfold insE; rw [if_neg (by omega)]; simp [*]; omega)
  exact PF.ret1 rfl rfl ⟨by rw [hm] <;> rfl, hkp⟩
  refine CF.skip (PF.next (CF.seq (CF.seq (CF.region ?_))))
  refine LF.step (OpOk.ldBxA hb1 Try.agg40 Try.sz40 rfl rfl rfl) ?_
  refine LF.call (OpCall.fn Try.ent104 rfl rfl) (rImm_ct hin (p0.up le0)) ?_
  rintro _ H48 ⟨rfl, k48⟩
  have zk48 := k48.1
  replace hin := hin.kp k48
  replace hkp := hkp.trans (k48.mono hkp.1)
  replace hb1 := hb1.kp k48
  refine LF.step (OpOk.not rfl) ?_
  refine LF.nil (PF.next ?_)
  refine CF.if rfl (fun hc4 => ?_) (fun hc4 => ?_)
  refine CF.seq (CF.region (LF.step (OpOk.assign rfl) (LF.nil (PF.next (CF.ret (PF.thenRet ?_))))))
  have hm : insE i = 32 := by
    first | (unfold insE; rw [if_pos (by omega)]; done) | (unfold insE; rw [if_neg (by omega)]; simp [*]; done) | (unfold insE; rw [if_neg (by omega)]; simp [*]; omega)
  exact PF.ret1 rfl rfl ⟨by rw [hm] <;> rfl, hkp⟩
  refine CF.skip (PF.next (CF.seq (CF.region (LF.step (OpOk.assign rfl) (LF.nil (PF.next (CF.ret ?_)))))))
  have hm : insE i = 0 := by
    first | (unfold insE; rw [if_pos (by omega)]; done) | (unfold insE; rw [if_neg (by omega)]; simp [*]; done) | (unfold insE; rw [if_neg (by omega)]; simp [*]; omega)
  exact PF.ret1 rfl rfl ⟨by rw [hm] <;> rfl, hkp⟩

-- jacquard/mach.end$1: function 87
theorem pEnd1_ct {F : PH} {H : Heap} (hin : InH F H) (b : Int) (n : Int) {g1 : Nat} (hb1 : Bx H g1 3 [.int .i64 n]) :
    Ct Try.prog 87 #[.int .i64 b, .pointer (some ⟨g1, 0, none⟩)] H (fun v H' => v = .bool ((badB n) b) ∧ H' = H) := by
  have lt1 := hb1.lt
  have hkp := Kp.refl H.size H
  have hx := PH.ext.refl (H := H) F
  refine Ct.enter (args := [.int .i64 b, .pointer (some ⟨g1, 0, none⟩)]) Try.func87 rfl rfl rfl (fun w0 hw0 => ?_)
  refine CF.seq (CF.region (LF.step (OpOk.assign rfl) (LF.nil (PF.next (CF.seq (CF.region (LF.step (OpOk.move rfl) ?_)))))))
  refine LF.step (OpOk.lss rfl rfl) ?_
  refine LF.step (OpOk.move rfl) ?_
  refine LF.gstep rfl rfl (.f _) (fun hg => OpOk.move rfl) ?_
  refine LF.gstep rfl rfl (.f _) (fun hg => OpOk.ldBx hb1 Try.one3 rfl rfl) ?_
  refine LF.gstep rfl rfl (.f _) (fun hg => OpOk.geq (evg rfl hg) (evg rfl hg)) ?_
  refine LF.step (OpOk.pickOr rfl rfl) ?_
  refine LF.step (OpOk.assign rfl) (LF.nil (PF.next (CF.ret ?_)))
  have hm : (badB n) b = ((decide (b < 1)) || (decide (n ≤ b))) := by
    rfl
  exact PF.ret1 rfl rfl ⟨by rw [hm] <;> rfl, rfl⟩

-- jacquard/mach.end: function 58
theorem pEnd_ct {F : PH} {H : Heap} (hin : InH F H) {a0 : Value} {e : D.End} (p0 : rEnd.ra F a0 e) (n : Int) :
    Ct Try.prog 58 #[a0, .int .i64 n] H (fun v H' => v = .int .i64 (endE e n) ∧ Kp H.size H H') := by
  have p0k := rEnd.any p0
  obtain ⟨a0c3, rfl, p0c3⟩ := rEnd.open p0
  have p0c3q := rL.len2 p0c3
  have hkp := Kp.refl H.size H
  have hx := PH.ext.refl (H := H) F
  refine Ct.enter (args := [.agg #[.int .i64 e.Op, .int .i64 e.A, .int .i64 e.B, a0c3, .int .i32 e.Imm], .int .i64 n]) Try.func58 rfl rfl rfl (fun w0 hw0 => ?_)
  refine CF.seq (CF.region ?_)
  refine LF.chg (OpCh.boxB rfl rfl) ?_
  rintro _ H2 ⟨g2, rfl, eg2, sg2, kg2, hb2⟩
  have ng2 := hin.nope (Nat.le_of_eq eg2.symm)
  have lg2 := hkp.1
  have zkg2 := kg2.1
  replace hin := hin.kp kg2
  replace hkp := hkp.trans (kg2.mono hkp.1)
  clear kg2
  refine LF.chg (OpCh.boxB rfl rfl) ?_
  rintro _ H3 ⟨g3, rfl, eg3, sg3, kg3, hb3⟩
  have ng3 := hin.nope (Nat.le_of_eq eg3.symm)
  have lg3 := hkp.1
  have zkg3 := kg3.1
  replace hin := hin.kp kg3
  replace hkp := hkp.trans (kg3.mono hkp.1)
  replace hb2 := hb2.kp kg3
  clear kg3
  refine LF.step (OpOk.assign rfl) (LF.nil (PF.next (CF.seq (CF.region ?_))))
  refine LF.chg OpCh.makeMapB ?_
  rintro _ H8 ⟨g8, rfl, eg8, sg8, kg8, hm8⟩
  have ng8 := hin.nope (Nat.le_of_eq eg8.symm)
  have lg8 := hkp.1
  have zkg8 := kg8.1
  replace hin := hin.kp kg8
  replace hkp := hkp.trans (kg8.mono hkp.1)
  replace hb2 := hb2.kp kg8
  replace hb3 := hb3.kp kg8
  clear kg8
  refine LF.step (OpOk.build (v := .agg #[.int .i64 1, .int .i64 1]) rfl (fun w => by kernel_rfl)) ?_
  refine LF.chg0 (OpCh.insert Try.underlying111 Try.underlying3 hm8 rfl rfl rfl) ?_
  rintro _ Hw1 ⟨mw1, tw1⟩
  have ztw1 := tw1.1
  replace hin := hin.tw tw1 ng8
  replace hkp := Tw.kp' hkp tw1 (by omega)
  replace hb2 := hb2.tw tw1 (by omega)
  replace hb3 := hb3.tw tw1 (by omega)
  replace hm8 : Im _ _ [(1, .agg #[.int .i64 1, .int .i64 1])] := mw1
  clear mw1 tw1
  refine LF.step (OpOk.build (v := .agg #[.int .i64 2, .int .i64 2]) rfl (fun w => by kernel_rfl)) ?_
  refine LF.chg0 (OpCh.insert Try.underlying111 Try.underlying3 hm8 rfl rfl rfl) ?_
  rintro _ Hw2 ⟨mw2, tw2⟩
  have ztw2 := tw2.1
  replace hin := hin.tw tw2 ng8
  replace hkp := Tw.kp' hkp tw2 (by omega)
  replace hb2 := hb2.tw tw2 (by omega)
  replace hb3 := hb3.tw tw2 (by omega)
  replace hm8 : Im _ _ [(1, .agg #[.int .i64 1, .int .i64 1]), (2, .agg #[.int .i64 2, .int .i64 2])] := mw2
  clear mw2 tw2
  refine LF.step (OpOk.build (v := .agg #[.int .i64 2, .int .i64 2]) rfl (fun w => by kernel_rfl)) ?_
  refine LF.chg0 (OpCh.insert Try.underlying111 Try.underlying3 hm8 rfl rfl rfl) ?_
  rintro _ Hw3 ⟨mw3, tw3⟩
  have ztw3 := tw3.1
  replace hin := hin.tw tw3 ng8
  replace hkp := Tw.kp' hkp tw3 (by omega)
  replace hb2 := hb2.tw tw3 (by omega)
  replace hb3 := hb3.tw tw3 (by omega)
  replace hm8 : Im _ _ [(1, .agg #[.int .i64 1, .int .i64 1]), (2, .agg #[.int .i64 2, .int .i64 2]), (3, .agg #[.int .i64 2, .int .i64 2])] := mw3
  clear mw3 tw3
  refine LF.step (OpOk.build (v := .agg #[.int .i64 2, .int .i64 2]) rfl (fun w => by kernel_rfl)) ?_
  refine LF.chg0 (OpCh.insert Try.underlying111 Try.underlying3 hm8 rfl rfl rfl) ?_
  rintro _ Hw4 ⟨mw4, tw4⟩
  have ztw4 := tw4.1
  replace hin := hin.tw tw4 ng8
  replace hkp := Tw.kp' hkp tw4 (by omega)
  replace hb2 := hb2.tw tw4 (by omega)
  replace hb3 := hb3.tw tw4 (by omega)
  replace hm8 : Im _ _ [(1, .agg #[.int .i64 1, .int .i64 1]), (2, .agg #[.int .i64 2, .int .i64 2]), (3, .agg #[.int .i64 2, .int .i64 2]), (4, .agg #[.int .i64 2, .int .i64 2])] := mw4
  clear mw4 tw4
  refine LF.step (OpOk.build (v := .agg #[.int .i64 2, .int .i64 2]) rfl (fun w => by kernel_rfl)) ?_
  refine LF.chg0 (OpCh.insert Try.underlying111 Try.underlying3 hm8 rfl rfl rfl) ?_
  rintro _ Hw5 ⟨mw5, tw5⟩
  have ztw5 := tw5.1
  replace hin := hin.tw tw5 ng8
  replace hkp := Tw.kp' hkp tw5 (by omega)
  replace hb2 := hb2.tw tw5 (by omega)
  replace hb3 := hb3.tw tw5 (by omega)
  replace hm8 : Im _ _ [(1, .agg #[.int .i64 1, .int .i64 1]), (2, .agg #[.int .i64 2, .int .i64 2]), (3, .agg #[.int .i64 2, .int .i64 2]), (4, .agg #[.int .i64 2, .int .i64 2]), (5, .agg #[.int .i64 2, .int .i64 2])] := mw5
  clear mw5 tw5
  refine LF.step (OpOk.build (v := .agg #[.int .i64 2, .int .i64 65]) rfl (fun w => by kernel_rfl)) ?_
  refine LF.chg0 (OpCh.insert Try.underlying111 Try.underlying3 hm8 rfl rfl rfl) ?_
  rintro _ Hw6 ⟨mw6, tw6⟩
  have ztw6 := tw6.1
  replace hin := hin.tw tw6 ng8
  replace hkp := Tw.kp' hkp tw6 (by omega)
  replace hb2 := hb2.tw tw6 (by omega)
  replace hb3 := hb3.tw tw6 (by omega)
  replace hm8 : Im _ _ [(1, .agg #[.int .i64 1, .int .i64 1]), (2, .agg #[.int .i64 2, .int .i64 2]), (3, .agg #[.int .i64 2, .int .i64 2]), (4, .agg #[.int .i64 2, .int .i64 2]), (5, .agg #[.int .i64 2, .int .i64 2]), (6, .agg #[.int .i64 2, .int .i64 65])] := mw6
  clear mw6 tw6
  refine LF.step (OpOk.build (v := .agg #[.int .i64 0, .int .i64 0]) rfl (fun w => by kernel_rfl)) ?_
  refine LF.chg0 (OpCh.insert Try.underlying111 Try.underlying3 hm8 rfl rfl rfl) ?_
  rintro _ Hw7 ⟨mw7, tw7⟩
  have ztw7 := tw7.1
  replace hin := hin.tw tw7 ng8
  replace hkp := Tw.kp' hkp tw7 (by omega)
  replace hb2 := hb2.tw tw7 (by omega)
  replace hb3 := hb3.tw tw7 (by omega)
  replace hm8 : Im _ _ [(1, .agg #[.int .i64 1, .int .i64 1]), (2, .agg #[.int .i64 2, .int .i64 2]), (3, .agg #[.int .i64 2, .int .i64 2]), (4, .agg #[.int .i64 2, .int .i64 2]), (5, .agg #[.int .i64 2, .int .i64 2]), (6, .agg #[.int .i64 2, .int .i64 65]), (7, .agg #[.int .i64 0, .int .i64 0])] := mw7
  clear mw7 tw7
  refine LF.step (OpOk.build (v := .agg #[.int .i64 0, .int .i64 0]) rfl (fun w => by kernel_rfl)) ?_
  refine LF.chg0 (OpCh.insert Try.underlying111 Try.underlying3 hm8 rfl rfl rfl) ?_
  rintro _ Hw8 ⟨mw8, tw8⟩
  have ztw8 := tw8.1
  replace hin := hin.tw tw8 ng8
  replace hkp := Tw.kp' hkp tw8 (by omega)
  replace hb2 := hb2.tw tw8 (by omega)
  replace hb3 := hb3.tw tw8 (by omega)
  replace hm8 : Im _ _ [(1, .agg #[.int .i64 1, .int .i64 1]), (2, .agg #[.int .i64 2, .int .i64 2]), (3, .agg #[.int .i64 2, .int .i64 2]), (4, .agg #[.int .i64 2, .int .i64 2]), (5, .agg #[.int .i64 2, .int .i64 2]), (6, .agg #[.int .i64 2, .int .i64 65]), (7, .agg #[.int .i64 0, .int .i64 0]), (8, .agg #[.int .i64 0, .int .i64 0])] := mw8
  clear mw8 tw8
  refine LF.step (OpOk.move rfl) (LF.step (OpOk.assign rfl) (LF.nil (PF.next (CF.seq (CF.region (LF.step (OpOk.move rfl) ?_))))))
  refine LF.step (OpOk.fieldAddr (Try.fld55_0) rfl) ?_
  refine LF.step (OpOk.ldBx hb2 Try.one3 rfl rfl) ?_
  refine LF.stepE (p := fun v => (v = .tuple #[.agg #[.int .i64 (limLo e.Op), .int .i64 (limHi e.Op)], .bool true] ∧ 1 ≤ e.Op ∧ e.Op ≤ 8) ∨ (v = .tuple #[.agg #[.int .i64 0, .int .i64 0], .bool false] ∧ ¬ (1 ≤ e.Op ∧ e.Op ≤ 8))) ⟨_, OpOk.lookupOk Try.underlying111 Try.underlying3 Try.zero110 hm8 rfl rfl, ltab e.Op⟩ ?_
  rintro v22 (⟨rfl, hop⟩ | ⟨rfl, hop⟩)
  refine LF.step (OpOk.move rfl) ?_
  refine LF.step (OpOk.extract (v := .agg #[.int .i64 (limLo e.Op), .int .i64 (limHi e.Op)]) rfl rfl) ?_
  refine LF.step (OpOk.extract (v := .bool true) rfl rfl) ?_
  refine LF.chg (OpCh.allocB Try.zero110 rfl) ?_
  rintro _ H6 ⟨g6, rfl, eg6, sg6, kg6, hb6⟩
  have ng6 := hin.nope (Nat.le_of_eq eg6.symm)
  have lg6 := hkp.1
  have zkg6 := kg6.1
  replace hin := hin.kp kg6
  replace hkp := hkp.trans (kg6.mono hkp.1)
  replace hb2 := hb2.kp kg6
  replace hb3 := hb3.kp kg6
  replace hm8 := hm8.kp kg6 hm8.lt
  clear kg6
  refine LF.chg0 (OpCh.storeBA hb6 Try.sz110 rfl rfl rfl (allOne.mem (l := [.int .i64 (limLo e.Op), .int .i64 (limHi e.Op)]) ⟨rfl, rfl, trivial⟩) (by decide)) ?_
  rintro _ Hw9 ⟨tw9, bw9⟩
  have ztw9 := tw9.1
  replace hin := hin.tw tw9 ng6
  replace hkp := Tw.kp' hkp tw9 (by omega)
  replace hb2 := hb2.tw tw9 (Bx.ne hb2 hb6 (by decide))
  replace hb3 := hb3.tw tw9 (Bx.ne hb3 hb6 (by decide))
  replace hm8 := hm8.of (tw9.2 _ (by omega))
  replace hb6 : Bx _ _ _ [.int .i64 (limLo e.Op), .int .i64 (limHi e.Op)] := bw9
  clear bw9 tw9
  refine LF.step (OpOk.assign rfl) (LF.nil (PF.next (CF.seq (CF.block (CF.seq (CF.region (LF.step (OpOk.move rfl) ?_)))))))
  refine LF.step (OpOk.not rfl) ?_
  refine LF.step (OpOk.move rfl) ?_
  refine LF.gstep rfl rfl (.f _) (fun hg => OpOk.fieldAddr (Try.fld55_3) rfl) ?_
  refine LF.gstep rfl rfl (.f _) (fun hg => OpOk.ldBx hb2 Try.one38 (evg rfl hg) rfl) ?_
  refine LF.gstep rfl rfl (.f _) (fun hg => OpOk.lenL Try.underlying38 p0c3 (evg rfl hg)) ?_
  refine LF.gstep rfl rfl (.f _) (fun hg => OpOk.indexArr (i := 0) Try.underlying110 Try.sz3 rfl rfl rfl (by omega)) ?_
  refine LF.gstep rfl rfl (.f _) (fun hg => OpOk.ldBx hb6 Try.one3 (evg rfl hg) rfl) ?_
  refine LF.gstep rfl rfl (.f _) (fun hg => OpOk.lss (evg rfl hg) (evg rfl hg)) ?_
  refine LF.step (OpOk.pickOr rfl rfl) ?_
  refine LF.step (OpOk.move rfl) ?_
  refine LF.gstep rfl rfl (.f _) (fun hg => OpOk.fieldAddr (Try.fld55_3) rfl) ?_
  refine LF.gstep rfl rfl (.f _) (fun hg => OpOk.ldBx hb2 Try.one38 (evg rfl hg) rfl) ?_
  refine LF.gstep rfl rfl (.f _) (fun hg => OpOk.lenL Try.underlying38 p0c3 (evg rfl hg)) ?_
  refine LF.gstep rfl rfl (.f _) (fun hg => OpOk.indexArr (i := 1) Try.underlying110 Try.sz3 rfl rfl rfl (by omega)) ?_
  refine LF.gstep rfl rfl (.f _) (fun hg => OpOk.ldBx hb6 Try.one3 (evg rfl hg) rfl) ?_
  refine LF.gstep rfl rfl (.f _) (fun hg => OpOk.gtr (evg rfl hg) (evg rfl hg)) ?_
  refine LF.step (OpOk.pickOr rfl rfl) ?_
  refine LF.step (OpOk.assign rfl) (LF.nil (PF.next ?_))
  refine CF.if rfl (fun hc1 => ?_) (fun hc1 => ?_)
  try simp only [false_or, true_and] at hc1
  refine CF.seq (CF.region (LF.step (OpOk.assign rfl) (LF.nil (PF.next (CF.ret (PF.blockRet (PF.thenRet ?_)))))))
  have hm : endE e n = 30 := by
    skip
    first | (have ht : toM e = false := (by unfold toM; simp only [decide_eq_false_iff_not]; omega); unfold endE; rw [if_pos ht]; done) | (have ht : toM e = true := (by unfold toM; simp only [decide_eq_true_eq]; omega); unfold endE; rw [if_neg (by rw [ht]; decide)]; simp [*]; done)
  exact PF.ret1 rfl rfl ⟨by rw [hm] <;> rfl, hkp⟩
  try simp only [false_or, true_and] at hc1
  refine CF.seq (CF.region ?_)
  refine LF.step (OpOk.ldBxA hb2 Try.agg55 Try.sz55 rfl rfl rfl) ?_
  refine LF.call (OpCall.fn Try.ent85 rfl rfl) (pNeeds_ct hin p0) ?_
  rintro v46 H46 ⟨F46, x46, i46, k46, h46⟩
  have zk46 := k46.1
  replace hx := hx.trans x46 hkp.1
  replace hkp := hkp.trans (k46.mono hkp.1)
  have l46 := hkp.1
  replace ng2 := x46.no ng2 hb2.lt
  replace hb2 := hb2.kp k46
  replace ng3 := x46.no ng3 hb3.lt
  replace hb3 := hb3.kp k46
  replace ng6 := x46.no ng6 hb6.lt
  replace hb6 := hb6.kp k46
  replace hm8 := hm8.kp k46 hm8.lt
  have le0 := x46.1
  have hin := i46
  have h46q := rL.len2 h46
  refine LF.call (OpCall.fn Try.ent79 rfl rfl) (pRegs_ct hin h46) ?_
  rintro _ H47 ⟨rfl, k47⟩
  have zk47 := k47.1
  replace hin := hin.kp k47
  replace hkp := hkp.trans (k47.mono hkp.1)
  replace hb2 := hb2.kp k47
  replace hb3 := hb3.kp k47
  replace hb6 := hb6.kp k47
  replace hm8 := hm8.kp k47 hm8.lt
  refine LF.step (OpOk.not rfl) ?_
  refine LF.step (OpOk.assign rfl) (LF.nil (PF.next ?_))
  refine CF.if rfl (fun hc2 => ?_) (fun hc2 => ?_)
  refine CF.seq (CF.region (LF.step (OpOk.assign rfl) (LF.nil (PF.next (CF.ret (PF.blockRet (PF.thenRet ?_)))))))
  have hm : endE e n = 31 := by
    skip
    first | (have ht : toM e = false := (by unfold toM; simp only [decide_eq_false_iff_not]; omega); unfold endE; rw [if_pos ht]; done) | (have ht : toM e = true := (by unfold toM; simp only [decide_eq_true_eq]; omega); unfold endE; rw [if_neg (by rw [ht]; decide)]; simp [*]; done)
  exact PF.ret1 rfl rfl ⟨by rw [hm] <;> rfl, hkp⟩
  refine CF.seq (CF.region ?_)
  refine LF.step (OpOk.fieldAddr (Try.fld55_3) rfl) ?_
  refine LF.step (OpOk.ldBx hb2 Try.one38 rfl rfl) ?_
  refine LF.step (OpOk.makeFunc1 rfl) ?_
  refine LF.call (OpCall.fn Try.ent86 rfl rfl) (anyFInt_ct hin (p0c3.up le0) 87 [.pointer (some ⟨g3, 0, none⟩)] Try.ent87 (badB n) (fun H' hin' k9 x _ => Ct.kp (pEnd1_ct hin' x n (hb3.kp k9)))) ?_
  rintro _ H53 ⟨rfl, k53⟩
  have zk53 := k53.1
  replace hin := hin.kp k53
  replace hkp := hkp.trans (k53.mono hkp.1)
  replace hb2 := hb2.kp k53
  replace hb3 := hb3.kp k53
  replace hb6 := hb6.kp k53
  replace hm8 := hm8.kp k53 hm8.lt
  refine LF.step (OpOk.assign rfl) (LF.nil (PF.next ?_))
  refine CF.if rfl (fun hc3 => ?_) (fun hc3 => ?_)
  refine CF.seq (CF.region (LF.step (OpOk.assign rfl) (LF.nil (PF.next (CF.ret (PF.blockRet (PF.thenRet ?_)))))))
  have hm : endE e n = 14 := by
    skip
    first | (have ht : toM e = false := (by unfold toM; simp only [decide_eq_false_iff_not]; omega); unfold endE; rw [if_pos ht]; done) | (have ht : toM e = true := (by unfold toM; simp only [decide_eq_true_eq]; omega); unfold endE; rw [if_neg (by rw [ht]; decide)]; simp [*]; done)
  exact PF.ret1 rfl rfl ⟨by rw [hm] <;> rfl, hkp⟩
  refine CF.skip (PF.blockNormal (PF.next (CF.seq (CF.region (LF.step (OpOk.assign rfl) (LF.nil (PF.next (CF.ret ?_))))))))
  have hm : endE e n = 0 := by
    skip
    first | (have ht : toM e = false := (by unfold toM; simp only [decide_eq_false_iff_not]; omega); unfold endE; rw [if_pos ht]; done) | (have ht : toM e = true := (by unfold toM; simp only [decide_eq_true_eq]; omega); unfold endE; rw [if_neg (by rw [ht]; decide)]; simp [*]; done)
  exact PF.ret1 rfl rfl ⟨by rw [hm] <;> rfl, hkp⟩
  refine LF.step (OpOk.move rfl) ?_
  refine LF.step (OpOk.extract (v := .agg #[.int .i64 0, .int .i64 0]) rfl rfl) ?_
  refine LF.step (OpOk.extract (v := .bool false) rfl rfl) ?_
  refine LF.chg (OpCh.allocB Try.zero110 rfl) ?_
  rintro _ H6 ⟨g6, rfl, eg6, sg6, kg6, hb6⟩
  have ng6 := hin.nope (Nat.le_of_eq eg6.symm)
  have lg6 := hkp.1
  have zkg6 := kg6.1
  replace hin := hin.kp kg6
  replace hkp := hkp.trans (kg6.mono hkp.1)
  replace hb2 := hb2.kp kg6
  replace hb3 := hb3.kp kg6
  replace hm8 := hm8.kp kg6 hm8.lt
  clear kg6
  refine LF.chg0 (OpCh.storeBA hb6 Try.sz110 rfl rfl rfl (allOne.mem (l := [.int .i64 0, .int .i64 0]) ⟨rfl, rfl, trivial⟩) (by decide)) ?_
  rintro _ Hw10 ⟨tw10, bw10⟩
  have ztw10 := tw10.1
  replace hin := hin.tw tw10 ng6
  replace hkp := Tw.kp' hkp tw10 (by omega)
  replace hb2 := hb2.tw tw10 (Bx.ne hb2 hb6 (by decide))
  replace hb3 := hb3.tw tw10 (Bx.ne hb3 hb6 (by decide))
  replace hm8 := hm8.of (tw10.2 _ (by omega))
  replace hb6 : Bx _ _ _ [.int .i64 0, .int .i64 0] := bw10
  clear bw10 tw10
  refine LF.step (OpOk.assign rfl) (LF.nil (PF.next (CF.seq (CF.block (CF.seq (CF.region (LF.step (OpOk.move rfl) ?_)))))))
  refine LF.step (OpOk.not rfl) ?_
  refine LF.step (OpOk.move rfl) ?_
  refine LF.gstep rfl rfl (.f _) (fun hg => OpOk.fieldAddr (Try.fld55_3) rfl) ?_
  refine LF.gstep rfl rfl (.f _) (fun hg => OpOk.ldBx hb2 Try.one38 (evg rfl hg) rfl) ?_
  refine LF.gstep rfl rfl (.f _) (fun hg => OpOk.lenL Try.underlying38 p0c3 (evg rfl hg)) ?_
  refine LF.gstep rfl rfl (.f _) (fun hg => OpOk.indexArr (i := 0) Try.underlying110 Try.sz3 rfl rfl rfl (by omega)) ?_
  refine LF.gstep rfl rfl (.f _) (fun hg => OpOk.ldBx hb6 Try.one3 (evg rfl hg) rfl) ?_
  refine LF.gstep rfl rfl (.f _) (fun hg => OpOk.lss (evg rfl hg) (evg rfl hg)) ?_
  refine LF.step (OpOk.pickOr rfl rfl) ?_
  refine LF.step (OpOk.move rfl) ?_
  refine LF.gstep rfl rfl (.f _) (fun hg => OpOk.fieldAddr (Try.fld55_3) rfl) ?_
  refine LF.gstep rfl rfl (.f _) (fun hg => OpOk.ldBx hb2 Try.one38 (evg rfl hg) rfl) ?_
  refine LF.gstep rfl rfl (.f _) (fun hg => OpOk.lenL Try.underlying38 p0c3 (evg rfl hg)) ?_
  refine LF.gstep rfl rfl (.f _) (fun hg => OpOk.indexArr (i := 1) Try.underlying110 Try.sz3 rfl rfl rfl (by omega)) ?_
  refine LF.gstep rfl rfl (.f _) (fun hg => OpOk.ldBx hb6 Try.one3 (evg rfl hg) rfl) ?_
  refine LF.gstep rfl rfl (.f _) (fun hg => OpOk.gtr (evg rfl hg) (evg rfl hg)) ?_
  refine LF.step (OpOk.pickOr rfl rfl) ?_
  refine LF.step (OpOk.assign rfl) (LF.nil (PF.next ?_))
  refine CF.if rfl (fun hc4 => ?_) (fun hc4 => ?_)
  refine CF.seq (CF.region (LF.step (OpOk.assign rfl) (LF.nil (PF.next (CF.ret (PF.blockRet (PF.thenRet ?_)))))))
  have hm : endE e n = 30 := by
    skip
    first | (have ht : toM e = false := (by unfold toM; simp only [decide_eq_false_iff_not]; omega); unfold endE; rw [if_pos ht]; done) | (have ht : toM e = true := (by unfold toM; simp only [decide_eq_true_eq]; omega); unfold endE; rw [if_neg (by rw [ht]; decide)]; simp [*]; done)
  exact PF.ret1 rfl rfl ⟨by rw [hm] <;> rfl, hkp⟩
  exact absurd hc4 (by simp)

-- jacquard/jacquardref07.to: function 105
theorem rTo_ct {F : PH} {H : Heap} (hin : InH F H) {a0 : Value} {e : D.End} (p0 : rEnd.ra F a0 e) :
    Ct Try.prog 105 #[a0] H (fun v H' => v = .bool (toM e) ∧ Kp H.size H H') := by
  have p0k := rEnd.any p0
  obtain ⟨a0c3, rfl, p0c3⟩ := rEnd.open p0
  have p0c3q := rL.len2 p0c3
  have hkp := Kp.refl H.size H
  have hx := PH.ext.refl (H := H) F
  refine Ct.enter (args := [.agg #[.int .i64 e.Op, .int .i64 e.A, .int .i64 e.B, a0c3, .int .i32 e.Imm]]) Try.func105 rfl rfl rfl (fun w0 hw0 => ?_)
  refine CF.seq (CF.region ?_)
  refine LF.chg (OpCh.boxB rfl rfl) ?_
  rintro _ H1 ⟨g1, rfl, eg1, sg1, kg1, hb1⟩
  have ng1 := hin.nope (Nat.le_of_eq eg1.symm)
  have lg1 := hkp.1
  have zkg1 := kg1.1
  replace hin := hin.kp kg1
  replace hkp := hkp.trans (kg1.mono hkp.1)
  clear kg1
  refine LF.step (OpOk.assign rfl) (LF.nil (PF.next (CF.seq (CF.region ?_))))
  refine LF.step (OpOk.fieldAddr (Try.fld55_3) rfl) ?_
  refine LF.step (OpOk.ldBx hb1 Try.one38 rfl rfl) ?_
  refine LF.step (OpOk.lenL Try.underlying38 p0c3 rfl) ?_
  refine LF.step (OpOk.assign rfl) (LF.nil (PF.next (CF.seq (CF.seq (CF.region ?_)))))
  refine LF.step (OpOk.fieldAddr (Try.fld55_0) rfl) ?_
  refine LF.step (OpOk.ldBx hb1 Try.one3 rfl rfl) ?_
  refine LF.nil (PF.next (CF.block (CF.seq (CF.region ?_))))
  refine LF.step (OpOk.eql rfl rfl) ?_
  refine LF.step (OpOk.assign rfl) (LF.nil (PF.next ?_))
  refine CF.if rfl (fun hc1 => ?_) (fun hc1 => ?_)
  refine CF.seq (CF.region (LF.step (OpOk.move rfl) ?_))
  refine LF.step (OpOk.eql rfl rfl) ?_
  refine LF.step (OpOk.assign rfl) (LF.nil (PF.next (CF.ret (PF.blockRet (PF.thenRet ?_)))))
  have hm : toM e = (decide (((List.length e.To : Nat) : Int) = 1)) := by
    unfold toM limLo limHi; rw [Bool.eq_iff_iff]; simp only [decide_eq_true_eq, Bool.and_eq_true, Bool.false_eq_true, iff_false]; (repeat' split) <;> omega
  exact PF.ret1 rfl rfl ⟨by rw [hm] <;> rfl, hkp⟩
  refine CF.seq (CF.seq (CF.region ?_))
  refine LF.step (OpOk.eql rfl rfl) ?_
  refine LF.step (OpOk.assign rfl) (LF.nil (PF.next ?_))
  refine CF.if rfl (fun hc2 => ?_) (fun hc2 => ?_)
  refine CF.skip (PF.next ?_)
  refine CF.if rfl (fun hc3 => ?_) (fun hc3 => ?_)
  refine CF.seq (CF.region (LF.step (OpOk.move rfl) ?_))
  refine LF.step (OpOk.eql rfl rfl) ?_
  refine LF.step (OpOk.assign rfl) (LF.nil (PF.next (CF.ret (PF.blockRet (PF.thenRet ?_)))))
  have hm : toM e = (decide (((List.length e.To : Nat) : Int) = 2)) := by
    unfold toM limLo limHi; rw [Bool.eq_iff_iff]; simp only [decide_eq_true_eq, Bool.and_eq_true, Bool.false_eq_true, iff_false]; (repeat' split) <;> omega
  exact PF.ret1 rfl rfl ⟨by rw [hm] <;> rfl, hkp⟩
  exact absurd hc3 (by simp [hc1, hc2])
  refine CF.seq (CF.region ?_)
  refine LF.step (OpOk.eql rfl rfl) ?_
  refine LF.step (OpOk.assign rfl) (LF.nil (PF.next ?_))
  refine CF.if rfl (fun hc4 => ?_) (fun hc4 => ?_)
  refine CF.skip (PF.next ?_)
  refine CF.if rfl (fun hc5 => ?_) (fun hc5 => ?_)
  refine CF.seq (CF.region (LF.step (OpOk.move rfl) ?_))
  refine LF.step (OpOk.eql rfl rfl) ?_
  refine LF.step (OpOk.assign rfl) (LF.nil (PF.next (CF.ret (PF.blockRet (PF.thenRet ?_)))))
  have hm : toM e = (decide (((List.length e.To : Nat) : Int) = 2)) := by
    unfold toM limLo limHi; rw [Bool.eq_iff_iff]; simp only [decide_eq_true_eq, Bool.and_eq_true, Bool.false_eq_true, iff_false]; (repeat' split) <;> omega
  exact PF.ret1 rfl rfl ⟨by rw [hm] <;> rfl, hkp⟩
  exact absurd hc5 (by simp [hc1, hc2, hc4])
  refine CF.seq (CF.region ?_)
  refine LF.step (OpOk.eql rfl rfl) ?_
  refine LF.step (OpOk.assign rfl) (LF.nil (PF.next ?_))
  refine CF.if rfl (fun hc6 => ?_) (fun hc6 => ?_)
  refine CF.skip (PF.next ?_)
  refine CF.if rfl (fun hc7 => ?_) (fun hc7 => ?_)
  refine CF.seq (CF.region (LF.step (OpOk.move rfl) ?_))
  refine LF.step (OpOk.eql rfl rfl) ?_
  refine LF.step (OpOk.assign rfl) (LF.nil (PF.next (CF.ret (PF.blockRet (PF.thenRet ?_)))))
  have hm : toM e = (decide (((List.length e.To : Nat) : Int) = 2)) := by
    unfold toM limLo limHi; rw [Bool.eq_iff_iff]; simp only [decide_eq_true_eq, Bool.and_eq_true, Bool.false_eq_true, iff_false]; (repeat' split) <;> omega
  exact PF.ret1 rfl rfl ⟨by rw [hm] <;> rfl, hkp⟩
  exact absurd hc7 (by simp [hc1, hc2, hc4, hc6])
  refine CF.region ?_
  refine LF.step (OpOk.eql rfl rfl) ?_
  refine LF.step (OpOk.assign rfl) (LF.nil (PF.next ?_))
  refine CF.if rfl (fun hc8 => ?_) (fun hc8 => ?_)
  refine CF.seq (CF.region (LF.step (OpOk.move rfl) ?_))
  refine LF.step (OpOk.eql rfl rfl) ?_
  refine LF.step (OpOk.assign rfl) (LF.nil (PF.next (CF.ret (PF.blockRet (PF.thenRet ?_)))))
  have hm : toM e = (decide (((List.length e.To : Nat) : Int) = 2)) := by
    unfold toM limLo limHi; rw [Bool.eq_iff_iff]; simp only [decide_eq_true_eq, Bool.and_eq_true, Bool.false_eq_true, iff_false]; (repeat' split) <;> omega
  exact PF.ret1 rfl rfl ⟨by rw [hm] <;> rfl, hkp⟩
  refine CF.seq (CF.region ?_)
  refine LF.step (OpOk.eql rfl rfl) ?_
  refine LF.step (OpOk.assign rfl) (LF.nil (PF.next ?_))
  refine CF.if rfl (fun hc9 => ?_) (fun hc9 => ?_)
  refine CF.seq (CF.region (LF.step (OpOk.move rfl) ?_))
  refine LF.step (OpOk.geq rfl rfl) ?_
  refine LF.step (OpOk.move rfl) ?_
  refine LF.gstep rfl rfl (.t _) (fun hg => OpOk.move rfl) ?_
  refine LF.gstep rfl rfl (.t _) (fun hg => OpOk.leq (evg rfl hg) rfl) ?_
  refine LF.step (OpOk.pickAnd rfl rfl) ?_
  refine LF.step (OpOk.assign rfl) (LF.nil (PF.next (CF.ret (PF.blockRet (PF.thenRet ?_)))))
  have hm : toM e = ((decide (2 ≤ ((List.length e.To : Nat) : Int))) && (decide (((List.length e.To : Nat) : Int) ≤ 65))) := by
    unfold toM limLo limHi; rw [Bool.eq_iff_iff]; simp only [decide_eq_true_eq, Bool.and_eq_true, Bool.false_eq_true, iff_false]; (repeat' split) <;> omega
  exact PF.ret1 rfl rfl ⟨by rw [hm] <;> rfl, hkp⟩
  refine CF.seq (CF.seq (CF.region ?_))
  refine LF.step (OpOk.eql rfl rfl) ?_
  refine LF.step (OpOk.assign rfl) (LF.nil (PF.next ?_))
  refine CF.if rfl (fun hc10 => ?_) (fun hc10 => ?_)
  refine CF.skip (PF.next ?_)
  refine CF.if rfl (fun hc11 => ?_) (fun hc11 => ?_)
  refine CF.seq (CF.region (LF.step (OpOk.move rfl) ?_))
  refine LF.step (OpOk.eql rfl rfl) ?_
  refine LF.step (OpOk.assign rfl) (LF.nil (PF.next (CF.ret (PF.blockRet (PF.thenRet ?_)))))
  have hm : toM e = (decide (((List.length e.To : Nat) : Int) = 0)) := by
    unfold toM limLo limHi; rw [Bool.eq_iff_iff]; simp only [decide_eq_true_eq, Bool.and_eq_true, Bool.false_eq_true, iff_false]; (repeat' split) <;> omega
  exact PF.ret1 rfl rfl ⟨by rw [hm] <;> rfl, hkp⟩
  exact absurd hc11 (by simp [hc1, hc2, hc4, hc6, hc8, hc9, hc10])
  refine CF.region ?_
  refine LF.step (OpOk.eql rfl rfl) ?_
  refine LF.step (OpOk.assign rfl) (LF.nil (PF.next ?_))
  refine CF.if rfl (fun hc12 => ?_) (fun hc12 => ?_)
  refine CF.seq (CF.region (LF.step (OpOk.move rfl) ?_))
  refine LF.step (OpOk.eql rfl rfl) ?_
  refine LF.step (OpOk.assign rfl) (LF.nil (PF.next (CF.ret (PF.blockRet (PF.thenRet ?_)))))
  have hm : toM e = (decide (((List.length e.To : Nat) : Int) = 0)) := by
    unfold toM limLo limHi; rw [Bool.eq_iff_iff]; simp only [decide_eq_true_eq, Bool.and_eq_true, Bool.false_eq_true, iff_false]; (repeat' split) <;> omega
  exact PF.ret1 rfl rfl ⟨by rw [hm] <;> rfl, hkp⟩
  refine CF.skip (PF.blockNormal (PF.next (CF.seq (CF.region (LF.step (OpOk.assign rfl) (LF.nil (PF.next (CF.ret ?_))))))))
  have hm : toM e = false := by
    unfold toM limLo limHi; rw [Bool.eq_iff_iff]; simp only [decide_eq_true_eq, Bool.and_eq_true, Bool.false_eq_true, iff_false]; (repeat' split) <;> omega
  exact PF.ret1 rfl rfl ⟨by rw [hm] <;> rfl, hkp⟩

end Go.Proofs.Ytehibklogdngbaa
