/- Walks. Conditions: each contract names its own. -/
import Derived.Test.YtehibklogdngbaaW6
namespace Go.Proofs.Ytehibklogdngbaa
set_option linter.unusedVariables false
set_option linter.unusedSimpArgs false
set_option linter.unusedSectionVars false
open Go.JE

theorem Try.ent18 : Ent Try.prog 18 := ⟨_, Try.func18, by kernel_rfl, by kernel_rfl⟩
theorem Try.ent21 : Ent Try.prog 21 := ⟨_, Try.func21, by kernel_rfl, by kernel_rfl⟩
theorem Try.ent22 : Ent Try.prog 22 := ⟨_, Try.func22, by kernel_rfl, by kernel_rfl⟩
theorem Try.ent39 : Ent Try.prog 39 := ⟨_, Try.func39, by kernel_rfl, by kernel_rfl⟩
theorem Try.ent41 : Ent Try.prog 41 := ⟨_, Try.func41, by kernel_rfl, by kernel_rfl⟩
theorem Try.ent66 : Ent Try.prog 66 := ⟨_, Try.func66, by kernel_rfl, by kernel_rfl⟩
theorem Try.ent67 : Ent Try.prog 67 := ⟨_, Try.func67, by kernel_rfl, by kernel_rfl⟩
theorem Try.ent68 : Ent Try.prog 68 := ⟨_, Try.func68, by kernel_rfl, by kernel_rfl⟩
theorem Try.ent69 : Ent Try.prog 69 := ⟨_, Try.func69, by kernel_rfl, by kernel_rfl⟩
theorem Try.ent70 : Ent Try.prog 70 := ⟨_, Try.func70, by kernel_rfl, by kernel_rfl⟩
theorem Try.fld40_6 : Fld Try.prog 40 6 6 := ⟨_, _, Try.underlying40, rfl, rfl, 1, (by unfold Sz; kernel_rfl), by decide⟩
-- jacquard/mach.Do$1: function 39
theorem pSet_ct {F : PH} {H : Heap} (hin : InH F H) (r : Int) (x : Int) {a2 : Value} {regs : List Int} {B2 : Nat} (p2 : Gl (rI .i32) 21 F H B2 a2 regs) {g2 : Nat} (hb2 : Bx H g2 25 [a2]) (hl : regs.length < 1073741824) (ww1 : IntKind.i32.wrap x = x) :
    Ct Try.prog 39 #[.int .i64 r, .int .i32 x, .pointer (some ⟨g2, 0, none⟩)] H (fun v H' => v = .tuple #[] ∧ Kw (own1 a2) H H' ∧ Gl (rI .i32) 21 F H' B2 a2 (setM regs r x)) := by
  have lt2 := hb2.lt
  have hkp := Kw.refl (own1 a2) H
  have hx := PH.ext.refl (H := H) F
  refine Ct.enter (args := [.int .i64 r, .int .i32 x, .pointer (some ⟨g2, 0, none⟩)]) Try.func39 rfl rfl rfl (fun w0 hw0 => ?_)
  refine CF.seq (CF.region (LF.step (OpOk.move rfl) ?_))
  refine LF.step (OpOk.geq rfl rfl) ?_
  refine LF.step (OpOk.move rfl) ?_
  refine LF.gstep rfl rfl (.t _) (fun hg => OpOk.move rfl) ?_
  refine LF.gstep rfl rfl (.t _) (fun hg => OpOk.ldBx hb2 Try.one25 rfl rfl) ?_
  refine LF.gstep rfl rfl (.t _) (fun hg => OpOk.lenG Try.underlying25 p2 (evg rfl hg)) ?_
  refine LF.gstep rfl rfl (.t _) (fun hg => OpOk.lss (evg rfl hg) (evg rfl hg)) ?_
  refine LF.step (OpOk.pickAnd rfl rfl) ?_
  refine LF.nil (PF.next ?_)
  refine CF.if rfl (fun hc1 => ?_) (fun hc1 => ?_)
  refine CF.region ?_
  refine LF.step (OpOk.ldBx hb2 Try.one25 rfl rfl) ?_
  refine LF.step (OpOk.move rfl) (LF.step (OpOk.move rfl) ?_)
  refine LF.step (OpOk.idxG (i := (Int.toNat r)) Try.underlying25 Try.sz21 p2 rfl rfl (by omega) (by first | omega | (simp only [List.length_replicate, List.length_set, List.length_append, List.length_cons, List.length_nil]; omega))) ?_
  refine LF.chg0 (OpCh.storeG p2 rfl Try.sz21 rfl rfl rfl (by first | omega | (simp only [List.length_replicate, List.length_set, List.length_append, List.length_cons, List.length_nil]; omega)) ⟨rfl, ww1⟩) ?_
  rintro _ Hw1 ⟨gw1, qw1, tw1, xw1⟩
  have ztw1 := tw1.1
  replace hin := hin.tw tw1 (p2.no _ qw1)
  replace hkp := hkp.tw tw1 (.inr qw1)
  replace hb2 := hb2.tw tw1 (ne_of_own qw1 (p2.neBx hb2 (by decide)))
  replace p2 := xw1
  refine LF.nil ?_
  have hm : () = () := by
    rfl
  have hm2 : setM regs r x = (List.set regs (Int.toNat r) x) := by
    first | (simp [setM, *]; done) | (unfold setM; rw [if_neg (by omega)]; done) | (unfold setM; rw [if_pos (by omega)]; done)
  exact PF.end0 rfl ⟨rfl, hkp, by rw [hm2]; exact p2⟩
  refine CF.skip ?_
  have hm : () = () := by
    rfl
  have hm2 : setM regs r x = regs := by
    first | (simp [setM, *]; done) | (unfold setM; rw [if_neg (by omega)]; done) | (unfold setM; rw [if_pos (by omega)]; done)
  exact PF.end0 rfl ⟨rfl, hkp, by rw [hm2]; exact p2⟩

theorem setAllM_nil (rs : List Int) (v : Int) : setAllM rs [] v = rs := rfl
theorem setAllM_cons (rs : List Int) (r : Int) (l : List Int) (v : Int) : setAllM rs (r :: l) v = setAllM (setM rs r v) l v := rfl

-- jacquard/jacquardref07.Do: function 35
theorem rDoM_ct {F : PH} {H : Heap} (hin : InH F H) {a0 : Value} {i : D.Mach} (p0 : rMach.ra F a0 i) {a1 : Value} {regs : List Int} {B1 : Nat} (p1 : Gl (rI .i32) 21 F H B1 a1 regs) {a2 : Value} {mem : List Int} {B2 : Nat} (p2 : Gl (rI .i32) 21 F H B2 a2 mem) (hl : regs.length < 1073741824) (hl2 : mem.length < 1073741824) (app1_p2 : ∀ k, a1.ownBlock = some k → a2.ownBlock ≠ some k) :
    Ct Try.prog 35 #[a0, a1, a2] H (fun v H' => v = .tuple #[.int .i32 ((stepM i regs mem).1.1), .bool ((stepM i regs mem).1.2)] ∧ Kw (own2 a1 a2) H H' ∧ Gl (rI .i32) 21 F H' B1 a1 ((stepM i regs mem).2.1) ∧ Gl (rI .i32) 21 F H' B2 a2 ((stepM i regs mem).2.2)) := by
  have p0k := rMach.any p0
  obtain ⟨a0c7, rfl, p0c7⟩ := rMach.open p0
  have p0c7q := rL.len2 p0c7
  have app2_p1 := ap_sym app1_p2
  have hkp := Kw.refl (own2 a1 a2) H
  have hx := PH.ext.refl (H := H) F
  refine Ct.enter (args := [.agg #[.int .i64 i.Op, .int .i64 i.D, .int .i64 i.E, .int .i64 i.A, .int .i64 i.B, .int .i64 i.C, .int .i32 i.Imm, a0c7], a1, a2]) Try.func35 rfl rfl rfl (fun w0 hw0 => ?_)
  refine CF.seq (CF.region ?_)
  refine LF.chg (OpCh.boxB rfl rfl) ?_
  rintro _ H3 ⟨g3, rfl, eg3, sg3, kg3, hb3⟩
  have ng3 := hin.nope (Nat.le_of_eq eg3.symm)
  have lg3 := hkp.1
  have zkg3 := kg3.1
  replace hin := hin.kp kg3
  replace hkp := hkp.trans (kg3.mono hkp.1)
  replace p1 := p1.kp kg3
  replace p2 := p2.kp kg3
  clear kg3
  refine LF.step (OpOk.assign rfl) (LF.step (OpOk.assign rfl) (LF.nil (PF.next (CF.seq (CF.region (LF.step (OpOk.move rfl) ?_))))))
  refine LF.step (OpOk.fieldAddr (Try.fld40_3) rfl) ?_
  refine LF.step (OpOk.ldBx hb3 Try.one3 rfl rfl) ?_
  refine LF.call (OpCall.fn Try.ent36 rfl rfl) (p1.temp 1073741824 hin (by first | (simp only [List.length_append, List.length_take, List.length_drop, List.length_nil, List.length_cons, List.length_set, List.length_replicate]; omega) | (simp; done) | (simp; omega) | omega) (fun G1 lg1 hin1 hr1 => rGet_ct hin1 hr1 i.A)) ?_
  rintro _ _ ⟨rfl, rfl⟩
  have w27_0 : IntKind.i32.wrap (getM regs i.A) = getM regs i.A := getM_wrG p1 _
  refine LF.step (OpOk.assign rfl) (LF.nil (PF.next (CF.seq (CF.region (LF.step (OpOk.move rfl) ?_)))))
  refine LF.step (OpOk.fieldAddr (Try.fld40_4) rfl) ?_
  refine LF.step (OpOk.ldBx hb3 Try.one3 rfl rfl) ?_
  refine LF.call (OpCall.fn Try.ent36 rfl rfl) (p1.temp 1073741824 hin (by first | (simp only [List.length_append, List.length_take, List.length_drop, List.length_nil, List.length_cons, List.length_set, List.length_replicate]; omega) | (simp; done) | (simp; omega) | omega) (fun G1 lg1 hin1 hr1 => rGet_ct hin1 hr1 i.B)) ?_
  rintro _ _ ⟨rfl, rfl⟩
  have w31_0 : IntKind.i32.wrap (getM regs i.B) = getM regs i.B := getM_wrG p1 _
  refine LF.step (OpOk.assign rfl) (LF.nil (PF.next (CF.seq (CF.region (LF.step (OpOk.move rfl) ?_)))))
  refine LF.step (OpOk.fieldAddr (Try.fld40_5) rfl) ?_
  refine LF.step (OpOk.ldBx hb3 Try.one3 rfl rfl) ?_
  refine LF.call (OpCall.fn Try.ent36 rfl rfl) (p1.temp 1073741824 hin (by first | (simp only [List.length_append, List.length_take, List.length_drop, List.length_nil, List.length_cons, List.length_set, List.length_replicate]; omega) | (simp; done) | (simp; omega) | omega) (fun G1 lg1 hin1 hr1 => rGet_ct hin1 hr1 i.C)) ?_
  rintro _ _ ⟨rfl, rfl⟩
  have w35_0 : IntKind.i32.wrap (getM regs i.C) = getM regs i.C := getM_wrG p1 _
  refine LF.step (OpOk.assign rfl) (LF.nil (PF.next (CF.seq (CF.block (CF.seq (CF.region ?_))))))
  refine LF.step (OpOk.fieldAddr (Try.fld40_0) rfl) ?_
  refine LF.step (OpOk.ldBx hb3 Try.one3 rfl rfl) ?_
  refine LF.step (OpOk.eql rfl rfl) ?_
  refine LF.step (OpOk.assign rfl) (LF.nil (PF.next ?_))
  refine CF.if rfl (fun hc1 => ?_) (fun hc1 => ?_)
  refine CF.region (LF.step (OpOk.move rfl) ?_)
  refine LF.step (OpOk.fieldAddr (Try.fld40_1) rfl) ?_
  refine LF.step (OpOk.ldBx hb3 Try.one3 rfl rfl) ?_
  refine LF.step (OpOk.move rfl) ?_
  refine LF.call (OpCall.fn Try.ent66 rfl rfl) (rSet_ct hin p1 i.D (getM regs i.A) (by first | omega | (simp only [setM_len, storeM_len]; omega)) w27_0) ?_
  rintro _ H44 ⟨rfl, k44, x44_0⟩
  have zk44 := k44.1
  replace hin := hin.kw k44 (by intro k0 hk0; exact p1.no k0 hk0)
  replace hb3 := hb3.kw k44 (p1.neBx hb3 (by decide))
  replace p2 := p2.kw k44 (app2_p1)
  replace hkp := hkp.kw k44 (by intro k0 hl; intro hk0; exact (.inl hk0))
  replace p1 := x44_0
  refine LF.nil (PF.blockNormal (PF.next (CF.seq (CF.region (LF.step (OpOk.assign rfl) (LF.step (OpOk.assign rfl) (LF.nil (PF.next (CF.ret ?_)))))))))
  have hm : stepM i regs mem = ((0, true), setM regs i.D (getM regs i.A), mem) := by
    unfold stepM; (repeat rw [if_neg (by omega)]) <;> (try rw [if_pos (by omega)]) <;> first | rfl | (simp [*]; done) | (simp [immOp, *]; done)
  exact PF.ret2 rfl rfl rfl ⟨by rw [hm], hkp, by rw [hm]; exact p1, by rw [hm]; exact p2⟩
  refine CF.seq (CF.region ?_)
  refine LF.step (OpOk.fieldAddr (Try.fld40_0) rfl) ?_
  refine LF.step (OpOk.ldBx hb3 Try.one3 rfl rfl) ?_
  refine LF.step (OpOk.eql rfl rfl) ?_
  refine LF.step (OpOk.assign rfl) (LF.nil (PF.next ?_))
  refine CF.if rfl (fun hc2 => ?_) (fun hc2 => ?_)
  refine CF.seq (CF.region (LF.step (OpOk.move rfl) ?_))
  refine LF.step (OpOk.fieldAddr (Try.fld40_3) rfl) ?_
  refine LF.step (OpOk.ldBx hb3 Try.one3 rfl rfl) ?_
  refine LF.step (OpOk.move rfl) ?_
  refine LF.call (OpCall.fn Try.ent66 rfl rfl) (rSet_ct hin p1 i.A (getM regs i.B) (by first | omega | (simp only [setM_len, storeM_len]; omega)) w31_0) ?_
  rintro _ H53 ⟨rfl, k53, x53_0⟩
  have zk53 := k53.1
  replace hin := hin.kw k53 (by intro k0 hk0; exact p1.no k0 hk0)
  replace hb3 := hb3.kw k53 (p1.neBx hb3 (by decide))
  replace p2 := p2.kw k53 (app2_p1)
  replace hkp := hkp.kw k53 (by intro k0 hl; intro hk0; exact (.inl hk0))
  replace p1 := x53_0
  refine LF.nil (PF.next (CF.region (LF.step (OpOk.move rfl) ?_)))
  refine LF.step (OpOk.fieldAddr (Try.fld40_4) rfl) ?_
  refine LF.step (OpOk.ldBx hb3 Try.one3 rfl rfl) ?_
  refine LF.step (OpOk.move rfl) ?_
  refine LF.call (OpCall.fn Try.ent66 rfl rfl) (rSet_ct hin p1 i.B (getM regs i.A) (by first | omega | (simp only [setM_len, storeM_len]; omega)) w27_0) ?_
  rintro _ H58 ⟨rfl, k58, x58_0⟩
  have zk58 := k58.1
  replace hin := hin.kw k58 (by intro k0 hk0; exact p1.no k0 hk0)
  replace hb3 := hb3.kw k58 (p1.neBx hb3 (by decide))
  replace p2 := p2.kw k58 (app2_p1)
  replace hkp := hkp.kw k58 (by intro k0 hl; intro hk0; exact (.inl hk0))
  replace p1 := x58_0
  refine LF.nil (PF.blockNormal (PF.next (CF.seq (CF.region (LF.step (OpOk.assign rfl) (LF.step (OpOk.assign rfl) (LF.nil (PF.next (CF.ret ?_)))))))))
  have hm : stepM i regs mem = ((0, true), setM (setM regs i.A (getM regs i.B)) i.B (getM regs i.A), mem) := by
    unfold stepM; (repeat rw [if_neg (by omega)]) <;> (try rw [if_pos (by omega)]) <;> first | rfl | (simp [*]; done) | (simp [immOp, *]; done)
  exact PF.ret2 rfl rfl rfl ⟨by rw [hm], hkp, by rw [hm]; exact p1, by rw [hm]; exact p2⟩
  refine CF.seq (CF.region ?_)
  refine LF.step (OpOk.fieldAddr (Try.fld40_0) rfl) ?_
  refine LF.step (OpOk.ldBx hb3 Try.one3 rfl rfl) ?_
  refine LF.step (OpOk.eql rfl rfl) ?_
  refine LF.step (OpOk.move rfl) ?_
  refine LF.gstep rfl rfl (.f _) (fun hg => OpOk.fieldAddr (Try.fld40_0) rfl) ?_
  refine LF.gstep rfl rfl (.f _) (fun hg => OpOk.ldBx hb3 Try.one3 (evg rfl hg) rfl) ?_
  refine LF.gstep rfl rfl (.f _) (fun hg => OpOk.eql (evg rfl hg) rfl) ?_
  refine LF.step (OpOk.pickOr rfl rfl) ?_
  refine LF.step (OpOk.assign rfl) (LF.nil (PF.next ?_))
  refine CF.if rfl (fun hc3 => ?_) (fun hc3 => ?_)
  refine CF.region (LF.step (OpOk.move rfl) ?_)
  refine LF.step (OpOk.fieldAddr (Try.fld40_1) rfl) ?_
  refine LF.step (OpOk.ldBx hb3 Try.one3 rfl rfl) ?_
  refine LF.step (OpOk.fieldAddr (Try.fld40_6) rfl) ?_
  refine LF.step (OpOk.ldBx hb3 Try.one21 rfl rfl) ?_
  refine LF.call (OpCall.fn Try.ent66 rfl rfl) (rSet_ct hin p1 i.D i.Imm (by first | omega | (simp only [setM_len, storeM_len]; omega)) (rMach.w_Imm (m := i) p0k)) ?_
  rintro _ H73 ⟨rfl, k73, x73_0⟩
  have zk73 := k73.1
  replace hin := hin.kw k73 (by intro k0 hk0; exact p1.no k0 hk0)
  replace hb3 := hb3.kw k73 (p1.neBx hb3 (by decide))
  replace p2 := p2.kw k73 (app2_p1)
  replace hkp := hkp.kw k73 (by intro k0 hl; intro hk0; exact (.inl hk0))
  replace p1 := x73_0
  refine LF.nil (PF.blockNormal (PF.next (CF.seq (CF.region (LF.step (OpOk.assign rfl) (LF.step (OpOk.assign rfl) (LF.nil (PF.next (CF.ret ?_)))))))))
  have hm : stepM i regs mem = ((0, true), setM regs i.D i.Imm, mem) := by
    unfold stepM; (repeat rw [if_neg (by omega)]) <;> (try rw [if_pos (by omega)]) <;> first | rfl | (simp [*]; done) | (simp [immOp, *]; done)
  exact PF.ret2 rfl rfl rfl ⟨by rw [hm], hkp, by rw [hm]; exact p1, by rw [hm]; exact p2⟩
  refine CF.seq (CF.region ?_)
  refine LF.step (OpOk.fieldAddr (Try.fld40_0) rfl) ?_
  refine LF.step (OpOk.ldBx hb3 Try.one3 rfl rfl) ?_
  refine LF.step (OpOk.geq rfl rfl) ?_
  refine LF.step (OpOk.move rfl) ?_
  refine LF.gstep rfl rfl (.t _) (fun hg => OpOk.fieldAddr (Try.fld40_0) rfl) ?_
  refine LF.gstep rfl rfl (.t _) (fun hg => OpOk.ldBx hb3 Try.one3 (evg rfl hg) rfl) ?_
  refine LF.gstep rfl rfl (.t _) (fun hg => OpOk.leq (evg rfl hg) rfl) ?_
  refine LF.step (OpOk.pickAnd rfl rfl) ?_
  refine LF.step (OpOk.assign rfl) (LF.nil (PF.next ?_))
  refine CF.if rfl (fun hc4 => ?_) (fun hc4 => ?_)
  refine CF.seq (CF.region ?_)
  refine LF.step (OpOk.fieldAddr (Try.fld40_0) rfl) ?_
  refine LF.step (OpOk.ldBx hb3 Try.one3 rfl rfl) ?_
  refine LF.step (OpOk.sub rfl rfl (by omega)) ?_
  refine LF.step (OpOk.add rfl rfl (by omega)) ?_
  refine LF.step (OpOk.move rfl) (LF.step (OpOk.move rfl) ?_)
  refine LF.call (OpCall.fn Try.ent67 rfl rfl) (rDo_ct hin ((i.Op - 5) + 2) (getM regs i.A) (getM regs i.B) w27_0 w31_0) ?_
  rintro _ _ ⟨rfl, rfl⟩
  have w90_0 : IntKind.i32.wrap ((doM ((i.Op - 5) + 2) (getM regs i.A) (getM regs i.B)).1) = (doM ((i.Op - 5) + 2) (getM regs i.A) (getM regs i.B)).1 := doM_wr _ _ w27_0
  refine LF.step (OpOk.move rfl) ?_
  refine LF.step (OpOk.extract (v := .int .i32 ((doM ((i.Op - 5) + 2) (getM regs i.A) (getM regs i.B)).1)) rfl rfl) ?_
  refine LF.step (OpOk.extract (v := .bool ((doM ((i.Op - 5) + 2) (getM regs i.A) (getM regs i.B)).2)) rfl rfl) ?_
  refine LF.step (OpOk.assign rfl) (LF.step (OpOk.assign rfl) (LF.nil (PF.next (CF.seq (CF.seq (CF.region (LF.step (OpOk.move rfl) ?_)))))))
  refine LF.step (OpOk.not rfl) ?_
  refine LF.nil (PF.next ?_)
  refine CF.if rfl (fun hc5 => ?_) (fun hc5 => ?_)
  refine CF.seq (CF.region (LF.step (OpOk.assign rfl) (LF.step (OpOk.assign rfl) (LF.nil (PF.next (CF.ret (PF.thenRet (PF.blockRet (PF.thenRet ?_)))))))))
  have hm : stepM i regs mem = (((-1), false), regs, mem) := by
    unfold stepM; (repeat rw [if_neg (by omega)]) <;> (try rw [if_pos (by omega)]) <;> first | rfl | (simp [*]; done) | (simp [immOp, *]; done)
  exact PF.ret2 rfl rfl rfl ⟨by rw [hm], hkp, by rw [hm]; exact p1, by rw [hm]; exact p2⟩
  refine CF.skip (PF.next (CF.region (LF.step (OpOk.move rfl) ?_)))
  refine LF.step (OpOk.fieldAddr (Try.fld40_1) rfl) ?_
  refine LF.step (OpOk.ldBx hb3 Try.one3 rfl rfl) ?_
  refine LF.step (OpOk.move rfl) ?_
  refine LF.call (OpCall.fn Try.ent66 rfl rfl) (rSet_ct hin p1 i.D ((doM ((i.Op - 5) + 2) (getM regs i.A) (getM regs i.B)).1) (by first | omega | (simp only [setM_len, storeM_len]; omega)) w90_0) ?_
  rintro _ H99 ⟨rfl, k99, x99_0⟩
  have zk99 := k99.1
  replace hin := hin.kw k99 (by intro k0 hk0; exact p1.no k0 hk0)
  replace hb3 := hb3.kw k99 (p1.neBx hb3 (by decide))
  replace p2 := p2.kw k99 (app2_p1)
  replace hkp := hkp.kw k99 (by intro k0 hl; intro hk0; exact (.inl hk0))
  replace p1 := x99_0
  refine LF.nil (PF.blockNormal (PF.next (CF.seq (CF.region (LF.step (OpOk.assign rfl) (LF.step (OpOk.assign rfl) (LF.nil (PF.next (CF.ret ?_)))))))))
  have hm : stepM i regs mem = ((0, true), setM regs i.D ((doM ((i.Op - 5) + 2) (getM regs i.A) (getM regs i.B)).1), mem) := by
    unfold stepM; (repeat rw [if_neg (by omega)]) <;> (try rw [if_pos (by omega)]) <;> first | rfl | (simp [*]; done) | (simp [immOp, *]; done)
  exact PF.ret2 rfl rfl rfl ⟨by rw [hm], hkp, by rw [hm]; exact p1, by rw [hm]; exact p2⟩
  refine CF.seq (CF.region ?_)
  refine LF.step (OpOk.fieldAddr (Try.fld40_0) rfl) ?_
  refine LF.step (OpOk.ldBx hb3 Try.one3 rfl rfl) ?_
  refine LF.step (OpOk.geq rfl rfl) ?_
  refine LF.step (OpOk.move rfl) ?_
  refine LF.gstep rfl rfl (.t _) (fun hg => OpOk.fieldAddr (Try.fld40_0) rfl) ?_
  refine LF.gstep rfl rfl (.t _) (fun hg => OpOk.ldBx hb3 Try.one3 (evg rfl hg) rfl) ?_
  refine LF.gstep rfl rfl (.t _) (fun hg => OpOk.leq (evg rfl hg) rfl) ?_
  refine LF.step (OpOk.pickAnd rfl rfl) ?_
  refine LF.step (OpOk.assign rfl) (LF.nil (PF.next ?_))
  refine CF.if rfl (fun hc6 => ?_) (fun hc6 => ?_)
  refine CF.seq (CF.region ?_)
  refine LF.step (OpOk.build (v := .agg #[.int .i64 2, .int .i64 5, .int .i64 8, .int .i64 9, .int .i64 10]) rfl (fun w => by kernel_rfl)) ?_
  refine LF.step (OpOk.fieldAddr (Try.fld40_0) rfl) ?_
  refine LF.step (OpOk.ldBx hb3 Try.one3 rfl rfl) ?_
  refine LF.step (OpOk.sub rfl rfl (by omega)) ?_
  refine LF.step (OpOk.indexI (l := [2, 5, 8, 9, 10]) Try.underlying50 Try.sz3 Try.one3 rfl rfl ⟨by omega, by omega, rfl⟩) ?_
  refine LF.step (OpOk.assign rfl) (LF.nil (PF.next (CF.seq (CF.region (LF.step (OpOk.move rfl) (LF.step (OpOk.move rfl) ?_))))))
  refine LF.step (OpOk.fieldAddr (Try.fld40_6) rfl) ?_
  refine LF.step (OpOk.ldBx hb3 Try.one21 rfl rfl) ?_
  refine LF.call (OpCall.fn Try.ent67 rfl rfl) (rDo_ct hin (ix [2, 5, 8, 9, 10] (Int.toNat (i.Op - 18))) (getM regs i.A) i.Imm w27_0 (rMach.w_Imm (m := i) p0k)) ?_
  rintro _ _ ⟨rfl, rfl⟩
  have w119_0 : IntKind.i32.wrap ((doM (ix [2, 5, 8, 9, 10] (Int.toNat (i.Op - 18))) (getM regs i.A) i.Imm).1) = (doM (ix [2, 5, 8, 9, 10] (Int.toNat (i.Op - 18))) (getM regs i.A) i.Imm).1 := doM_wr _ _ w27_0
  refine LF.step (OpOk.move rfl) ?_
  refine LF.step (OpOk.extract (v := .int .i32 ((doM (ix [2, 5, 8, 9, 10] (Int.toNat (i.Op - 18))) (getM regs i.A) i.Imm).1)) rfl rfl) ?_
  refine LF.step (OpOk.extract (v := .bool ((doM (ix [2, 5, 8, 9, 10] (Int.toNat (i.Op - 18))) (getM regs i.A) i.Imm).2)) rfl rfl) ?_
  refine LF.step (OpOk.assign rfl) (LF.step (OpOk.assign rfl) (LF.nil (PF.next (CF.region (LF.step (OpOk.move rfl) ?_)))))
  refine LF.step (OpOk.fieldAddr (Try.fld40_1) rfl) ?_
  refine LF.step (OpOk.ldBx hb3 Try.one3 rfl rfl) ?_
  refine LF.step (OpOk.move rfl) ?_
  refine LF.call (OpCall.fn Try.ent66 rfl rfl) (rSet_ct hin p1 i.D ((doM (ix [2, 5, 8, 9, 10] (Int.toNat (i.Op - 18))) (getM regs i.A) i.Imm).1) (by first | omega | (simp only [setM_len, storeM_len]; omega)) w119_0) ?_
  rintro _ H126 ⟨rfl, k126, x126_0⟩
  have zk126 := k126.1
  replace hin := hin.kw k126 (by intro k0 hk0; exact p1.no k0 hk0)
  replace hb3 := hb3.kw k126 (p1.neBx hb3 (by decide))
  replace p2 := p2.kw k126 (app2_p1)
  replace hkp := hkp.kw k126 (by intro k0 hl; intro hk0; exact (.inl hk0))
  replace p1 := x126_0
  refine LF.nil (PF.blockNormal (PF.next (CF.seq (CF.region (LF.step (OpOk.assign rfl) (LF.step (OpOk.assign rfl) (LF.nil (PF.next (CF.ret ?_)))))))))
  have hm : stepM i regs mem = ((0, true), setM regs i.D ((doM (ix [2, 5, 8, 9, 10] (Int.toNat (i.Op - 18))) (getM regs i.A) i.Imm).1), mem) := by
    unfold stepM; (repeat rw [if_neg (by omega)]) <;> (try rw [if_pos (by omega)]) <;> first | rfl | (simp [*]; done) | (simp [immOp, *]; done)
  exact PF.ret2 rfl rfl rfl ⟨by rw [hm], hkp, by rw [hm]; exact p1, by rw [hm]; exact p2⟩
  refine CF.seq (CF.region ?_)
  refine LF.step (OpOk.fieldAddr (Try.fld40_0) rfl) ?_
  refine LF.step (OpOk.ldBx hb3 Try.one3 rfl rfl) ?_
  refine LF.step (OpOk.eql rfl rfl) ?_
  refine LF.step (OpOk.assign rfl) (LF.nil (PF.next ?_))
  refine CF.if rfl (fun hc7 => ?_) (fun hc7 => ?_)
  refine CF.region (LF.step (OpOk.move rfl) ?_)
  refine LF.step (OpOk.fieldAddr (Try.fld40_1) rfl) ?_
  refine LF.step (OpOk.ldBx hb3 Try.one3 rfl rfl) ?_
  refine LF.step (OpOk.move rfl) (LF.step (OpOk.move rfl) ?_)
  refine LF.step (OpOk.mulw rfl rfl rfl) ?_
  refine LF.step (OpOk.move rfl) ?_
  refine LF.step (OpOk.addw rfl rfl rfl) ?_
  refine LF.call (OpCall.fn Try.ent66 rfl rfl) (rSet_ct hin p1 i.D (IntKind.i32.wrap ((IntKind.i32.wrap ((getM regs i.A) * (getM regs i.B))) + (getM regs i.C))) (by first | omega | (simp only [setM_len, storeM_len]; omega)) (wrap_wrap _ _)) ?_
  rintro _ H139 ⟨rfl, k139, x139_0⟩
  have zk139 := k139.1
  replace hin := hin.kw k139 (by intro k0 hk0; exact p1.no k0 hk0)
  replace hb3 := hb3.kw k139 (p1.neBx hb3 (by decide))
  replace p2 := p2.kw k139 (app2_p1)
  replace hkp := hkp.kw k139 (by intro k0 hl; intro hk0; exact (.inl hk0))
  replace p1 := x139_0
  refine LF.nil (PF.blockNormal (PF.next (CF.seq (CF.region (LF.step (OpOk.assign rfl) (LF.step (OpOk.assign rfl) (LF.nil (PF.next (CF.ret ?_)))))))))
  have hm : stepM i regs mem = ((0, true), setM regs i.D (IntKind.i32.wrap ((IntKind.i32.wrap ((getM regs i.A) * (getM regs i.B))) + (getM regs i.C))), mem) := by
    unfold stepM; (repeat rw [if_neg (by omega)]) <;> (try rw [if_pos (by omega)]) <;> first | rfl | (simp [*]; done) | (simp [immOp, *]; done)
  exact PF.ret2 rfl rfl rfl ⟨by rw [hm], hkp, by rw [hm]; exact p1, by rw [hm]; exact p2⟩
  refine CF.seq (CF.region ?_)
  refine LF.step (OpOk.fieldAddr (Try.fld40_0) rfl) ?_
  refine LF.step (OpOk.ldBx hb3 Try.one3 rfl rfl) ?_
  refine LF.step (OpOk.eql rfl rfl) ?_
  refine LF.step (OpOk.move rfl) ?_
  refine LF.gstep rfl rfl (.f _) (fun hg => OpOk.fieldAddr (Try.fld40_0) rfl) ?_
  refine LF.gstep rfl rfl (.f _) (fun hg => OpOk.ldBx hb3 Try.one3 (evg rfl hg) rfl) ?_
  refine LF.gstep rfl rfl (.f _) (fun hg => OpOk.eql (evg rfl hg) rfl) ?_
  refine LF.step (OpOk.pickOr rfl rfl) ?_
  refine LF.step (OpOk.assign rfl) (LF.nil (PF.next ?_))
  refine CF.if rfl (fun hc8 => ?_) (fun hc8 => ?_)
  refine CF.seq (CF.region (LF.step (OpOk.move rfl) ?_))
  refine LF.step (OpOk.fieldAddr (Try.fld40_6) rfl) ?_
  refine LF.step (OpOk.ldBx hb3 Try.one21 rfl rfl) ?_
  refine LF.step (OpOk.addw rfl rfl rfl) ?_
  refine LF.step (OpOk.assign rfl) (LF.nil (PF.next (CF.seq (CF.seq (CF.region ?_)))))
  refine LF.step (OpOk.fieldAddr (Try.fld40_0) rfl) ?_
  refine LF.step (OpOk.ldBx hb3 Try.one3 rfl rfl) ?_
  refine LF.step (OpOk.eql rfl rfl) ?_
  refine LF.nil (PF.next ?_)
  refine CF.if rfl (fun hc9 => ?_) (fun hc9 => ?_)
  refine CF.region (LF.step (OpOk.move rfl) (LF.step (OpOk.move rfl) ?_))
  refine LF.step (OpOk.addw rfl rfl rfl) ?_
  refine LF.step (OpOk.assign rfl) (LF.nil (PF.next (CF.seq (CF.region (LF.step (OpOk.move rfl) (LF.step (OpOk.move rfl) ?_))))))
  refine LF.call (OpCall.fn Try.ent68 rfl rfl) (p2.temp 1073741824 hin (by first | (simp only [List.length_append, List.length_take, List.length_drop, List.length_nil, List.length_cons, List.length_set, List.length_replicate]; omega) | (simp; done) | (simp; omega) | omega) (fun G1 lg1 hin1 hr1 => rLoad_ct hin1 hr1 (IntKind.i32.wrap ((getM regs i.A) + (getM regs i.B))) (wrap_wrap _ _))) ?_
  rintro _ _ ⟨rfl, rfl⟩
  have w162_0 : IntKind.i32.wrap ((loadM mem (IntKind.i32.wrap ((getM regs i.A) + (getM regs i.B)))).1) = (loadM mem (IntKind.i32.wrap ((getM regs i.A) + (getM regs i.B)))).1 := loadM_wrG p2 _
  refine LF.step (OpOk.move rfl) ?_
  refine LF.step (OpOk.extract (v := .int .i32 ((loadM mem (IntKind.i32.wrap ((getM regs i.A) + (getM regs i.B)))).1)) rfl rfl) ?_
  refine LF.step (OpOk.extract (v := .bool ((loadM mem (IntKind.i32.wrap ((getM regs i.A) + (getM regs i.B)))).2)) rfl rfl) ?_
  refine LF.step (OpOk.assign rfl) (LF.step (OpOk.assign rfl) (LF.nil (PF.next (CF.seq (CF.seq (CF.region (LF.step (OpOk.move rfl) ?_)))))))
  refine LF.step (OpOk.not rfl) ?_
  refine LF.nil (PF.next ?_)
  refine CF.if rfl (fun hc10 => ?_) (fun hc10 => ?_)
  refine CF.seq (CF.region (LF.step (OpOk.assign rfl) (LF.step (OpOk.assign rfl) (LF.nil (PF.next (CF.ret (PF.thenRet (PF.blockRet (PF.thenRet ?_)))))))))
  have hm : stepM i regs mem = (((-2), false), regs, mem) := by
    unfold stepM; (repeat rw [if_neg (by omega)]) <;> (try rw [if_pos (by omega)]) <;> first | rfl | (simp [*]; done) | (simp [immOp, *]; done)
  exact PF.ret2 rfl rfl rfl ⟨by rw [hm], hkp, by rw [hm]; exact p1, by rw [hm]; exact p2⟩
  refine CF.skip (PF.next (CF.region (LF.step (OpOk.move rfl) ?_)))
  refine LF.step (OpOk.fieldAddr (Try.fld40_1) rfl) ?_
  refine LF.step (OpOk.ldBx hb3 Try.one3 rfl rfl) ?_
  refine LF.step (OpOk.move rfl) ?_
  refine LF.call (OpCall.fn Try.ent66 rfl rfl) (rSet_ct hin p1 i.D ((loadM mem (IntKind.i32.wrap ((getM regs i.A) + (getM regs i.B)))).1) (by first | omega | (simp only [setM_len, storeM_len]; omega)) w162_0) ?_
  rintro _ H171 ⟨rfl, k171, x171_0⟩
  have zk171 := k171.1
  replace hin := hin.kw k171 (by intro k0 hk0; exact p1.no k0 hk0)
  replace hb3 := hb3.kw k171 (p1.neBx hb3 (by decide))
  replace p2 := p2.kw k171 (app2_p1)
  replace hkp := hkp.kw k171 (by intro k0 hl; intro hk0; exact (.inl hk0))
  replace p1 := x171_0
  refine LF.nil (PF.blockNormal (PF.next (CF.seq (CF.region (LF.step (OpOk.assign rfl) (LF.step (OpOk.assign rfl) (LF.nil (PF.next (CF.ret ?_)))))))))
  have hm : stepM i regs mem = ((0, true), setM regs i.D ((loadM mem (IntKind.i32.wrap ((getM regs i.A) + (getM regs i.B)))).1), mem) := by
    unfold stepM; (repeat rw [if_neg (by omega)]) <;> (try rw [if_pos (by omega)]) <;> first | rfl | (simp [*]; done) | (simp [immOp, *]; done)
  exact PF.ret2 rfl rfl rfl ⟨by rw [hm], hkp, by rw [hm]; exact p1, by rw [hm]; exact p2⟩
  refine CF.skip (PF.next (CF.seq (CF.region (LF.step (OpOk.move rfl) (LF.step (OpOk.move rfl) ?_)))))
  refine LF.call (OpCall.fn Try.ent68 rfl rfl) (p2.temp 1073741824 hin (by first | (simp only [List.length_append, List.length_take, List.length_drop, List.length_nil, List.length_cons, List.length_set, List.length_replicate]; omega) | (simp; done) | (simp; omega) | omega) (fun G1 lg1 hin1 hr1 => rLoad_ct hin1 hr1 (IntKind.i32.wrap ((getM regs i.A) + i.Imm)) (wrap_wrap _ _))) ?_
  rintro _ _ ⟨rfl, rfl⟩
  have w162_0 : IntKind.i32.wrap ((loadM mem (IntKind.i32.wrap ((getM regs i.A) + i.Imm))).1) = (loadM mem (IntKind.i32.wrap ((getM regs i.A) + i.Imm))).1 := loadM_wrG p2 _
  refine LF.step (OpOk.move rfl) ?_
  refine LF.step (OpOk.extract (v := .int .i32 ((loadM mem (IntKind.i32.wrap ((getM regs i.A) + i.Imm))).1)) rfl rfl) ?_
  refine LF.step (OpOk.extract (v := .bool ((loadM mem (IntKind.i32.wrap ((getM regs i.A) + i.Imm))).2)) rfl rfl) ?_
  refine LF.step (OpOk.assign rfl) (LF.step (OpOk.assign rfl) (LF.nil (PF.next (CF.seq (CF.seq (CF.region (LF.step (OpOk.move rfl) ?_)))))))
  refine LF.step (OpOk.not rfl) ?_
  refine LF.nil (PF.next ?_)
  refine CF.if rfl (fun hc11 => ?_) (fun hc11 => ?_)
  refine CF.seq (CF.region (LF.step (OpOk.assign rfl) (LF.step (OpOk.assign rfl) (LF.nil (PF.next (CF.ret (PF.thenRet (PF.blockRet (PF.thenRet ?_)))))))))
  have hm : stepM i regs mem = (((-2), false), regs, mem) := by
    unfold stepM; (repeat rw [if_neg (by omega)]) <;> (try rw [if_pos (by omega)]) <;> first | rfl | (simp [*]; done) | (simp [immOp, *]; done)
  exact PF.ret2 rfl rfl rfl ⟨by rw [hm], hkp, by rw [hm]; exact p1, by rw [hm]; exact p2⟩
  refine CF.skip (PF.next (CF.region (LF.step (OpOk.move rfl) ?_)))
  refine LF.step (OpOk.fieldAddr (Try.fld40_1) rfl) ?_
  refine LF.step (OpOk.ldBx hb3 Try.one3 rfl rfl) ?_
  refine LF.step (OpOk.move rfl) ?_
  refine LF.call (OpCall.fn Try.ent66 rfl rfl) (rSet_ct hin p1 i.D ((loadM mem (IntKind.i32.wrap ((getM regs i.A) + i.Imm))).1) (by first | omega | (simp only [setM_len, storeM_len]; omega)) w162_0) ?_
  rintro _ H171 ⟨rfl, k171, x171_0⟩
  have zk171 := k171.1
  replace hin := hin.kw k171 (by intro k0 hk0; exact p1.no k0 hk0)
  replace hb3 := hb3.kw k171 (p1.neBx hb3 (by decide))
  replace p2 := p2.kw k171 (app2_p1)
  replace hkp := hkp.kw k171 (by intro k0 hl; intro hk0; exact (.inl hk0))
  replace p1 := x171_0
  refine LF.nil (PF.blockNormal (PF.next (CF.seq (CF.region (LF.step (OpOk.assign rfl) (LF.step (OpOk.assign rfl) (LF.nil (PF.next (CF.ret ?_)))))))))
  have hm : stepM i regs mem = ((0, true), setM regs i.D ((loadM mem (IntKind.i32.wrap ((getM regs i.A) + i.Imm))).1), mem) := by
    unfold stepM; (repeat rw [if_neg (by omega)]) <;> (try rw [if_pos (by omega)]) <;> first | rfl | (simp [*]; done) | (simp [immOp, *]; done)
  exact PF.ret2 rfl rfl rfl ⟨by rw [hm], hkp, by rw [hm]; exact p1, by rw [hm]; exact p2⟩
  refine CF.seq (CF.region ?_)
  refine LF.step (OpOk.fieldAddr (Try.fld40_0) rfl) ?_
  refine LF.step (OpOk.ldBx hb3 Try.one3 rfl rfl) ?_
  refine LF.step (OpOk.eql rfl rfl) ?_
  refine LF.step (OpOk.move rfl) ?_
  refine LF.gstep rfl rfl (.f _) (fun hg => OpOk.fieldAddr (Try.fld40_0) rfl) ?_
  refine LF.gstep rfl rfl (.f _) (fun hg => OpOk.ldBx hb3 Try.one3 (evg rfl hg) rfl) ?_
  refine LF.gstep rfl rfl (.f _) (fun hg => OpOk.eql (evg rfl hg) rfl) ?_
  refine LF.step (OpOk.pickOr rfl rfl) ?_
  refine LF.step (OpOk.assign rfl) (LF.nil (PF.next ?_))
  refine CF.if rfl (fun hc12 => ?_) (fun hc12 => ?_)
  refine CF.seq (CF.region (LF.step (OpOk.move rfl) ?_))
  refine LF.step (OpOk.fieldAddr (Try.fld40_6) rfl) ?_
  refine LF.step (OpOk.ldBx hb3 Try.one21 rfl rfl) ?_
  refine LF.step (OpOk.addw rfl rfl rfl) ?_
  refine LF.step (OpOk.assign rfl) (LF.nil (PF.next (CF.seq (CF.region (LF.step (OpOk.move rfl) (LF.step (OpOk.assign rfl) (LF.nil (PF.next (CF.seq (CF.seq (CF.region ?_)))))))))))
  refine LF.step (OpOk.fieldAddr (Try.fld40_0) rfl) ?_
  refine LF.step (OpOk.ldBx hb3 Try.one3 rfl rfl) ?_
  refine LF.step (OpOk.eql rfl rfl) ?_
  refine LF.nil (PF.next ?_)
  refine CF.if rfl (fun hc13 => ?_) (fun hc13 => ?_)
  refine CF.seq (CF.region (LF.step (OpOk.move rfl) (LF.step (OpOk.move rfl) ?_)))
  refine LF.step (OpOk.addw rfl rfl rfl) ?_
  refine LF.step (OpOk.assign rfl) (LF.nil (PF.next (CF.region (LF.step (OpOk.move rfl) (LF.step (OpOk.assign rfl) (LF.nil (PF.next (CF.seq (CF.region (LF.step (OpOk.move rfl) (LF.step (OpOk.move rfl) ?_)))))))))))
  refine LF.step (OpOk.move rfl) ?_
  refine LF.call (OpCall.fn Try.ent69 rfl rfl) (rStore_ct hin p2 (IntKind.i32.wrap ((getM regs i.A) + (getM regs i.B))) (getM regs i.C) (by first | omega | (simp only [setM_len, storeM_len]; omega)) (wrap_wrap _ _) w35_0) ?_
  rintro _ H196 ⟨rfl, k196, x196_0⟩
  have zk196 := k196.1
  replace hin := hin.kw k196 (by intro k0 hk0; exact p2.no k0 hk0)
  replace hb3 := hb3.kw k196 (p2.neBx hb3 (by decide))
  replace p1 := p1.kw k196 (app1_p2)
  replace hkp := hkp.kw k196 (by intro k0 hl; intro hk0; exact (.inr hk0))
  replace p2 := x196_0
  refine LF.step (OpOk.assign rfl) (LF.nil (PF.next (CF.seq (CF.region (LF.step (OpOk.move rfl) ?_)))))
  refine LF.step (OpOk.not rfl) ?_
  refine LF.nil (PF.next ?_)
  refine CF.if rfl (fun hc14 => ?_) (fun hc14 => ?_)
  refine CF.seq (CF.region (LF.step (OpOk.assign rfl) (LF.step (OpOk.assign rfl) (LF.nil (PF.next (CF.ret (PF.blockRet (PF.thenRet ?_))))))))
  have hm : stepM i regs mem = (((-2), false), regs, storeM mem (IntKind.i32.wrap ((getM regs i.A) + (getM regs i.B))) (getM regs i.C)) := by
    unfold stepM; (repeat rw [if_neg (by omega)]) <;> (try rw [if_pos (by omega)]) <;> first | rfl | (simp [*]; done) | (simp [immOp, *]; done)
  exact PF.ret2 rfl rfl rfl ⟨by rw [hm], hkp, by rw [hm]; exact p1, by rw [hm]; exact p2⟩
  refine CF.skip (PF.blockNormal (PF.next (CF.seq (CF.region (LF.step (OpOk.assign rfl) (LF.step (OpOk.assign rfl) (LF.nil (PF.next (CF.ret ?_)))))))))
  have hm : stepM i regs mem = ((0, true), regs, storeM mem (IntKind.i32.wrap ((getM regs i.A) + (getM regs i.B))) (getM regs i.C)) := by
    unfold stepM; (repeat rw [if_neg (by omega)]) <;> (try rw [if_pos (by omega)]) <;> first | rfl | (simp [*]; done) | (simp [immOp, *]; done)
  exact PF.ret2 rfl rfl rfl ⟨by rw [hm], hkp, by rw [hm]; exact p1, by rw [hm]; exact p2⟩
  refine CF.skip (PF.next (CF.seq (CF.region (LF.step (OpOk.move rfl) (LF.step (OpOk.move rfl) (LF.step (OpOk.move rfl) ?_))))))
  refine LF.call (OpCall.fn Try.ent69 rfl rfl) (rStore_ct hin p2 (IntKind.i32.wrap ((getM regs i.A) + i.Imm)) (getM regs i.B) (by first | omega | (simp only [setM_len, storeM_len]; omega)) (wrap_wrap _ _) w31_0) ?_
  rintro _ H196 ⟨rfl, k196, x196_0⟩
  have zk196 := k196.1
  replace hin := hin.kw k196 (by intro k0 hk0; exact p2.no k0 hk0)
  replace hb3 := hb3.kw k196 (p2.neBx hb3 (by decide))
  replace p1 := p1.kw k196 (app1_p2)
  replace hkp := hkp.kw k196 (by intro k0 hl; intro hk0; exact (.inr hk0))
  replace p2 := x196_0
  refine LF.step (OpOk.assign rfl) (LF.nil (PF.next (CF.seq (CF.region (LF.step (OpOk.move rfl) ?_)))))
  refine LF.step (OpOk.not rfl) ?_
  refine LF.nil (PF.next ?_)
  refine CF.if rfl (fun hc15 => ?_) (fun hc15 => ?_)
  refine CF.seq (CF.region (LF.step (OpOk.assign rfl) (LF.step (OpOk.assign rfl) (LF.nil (PF.next (CF.ret (PF.blockRet (PF.thenRet ?_))))))))
  have hm : stepM i regs mem = (((-2), false), regs, storeM mem (IntKind.i32.wrap ((getM regs i.A) + i.Imm)) (getM regs i.B)) := by
    unfold stepM; (repeat rw [if_neg (by omega)]) <;> (try rw [if_pos (by omega)]) <;> first | rfl | (simp [*]; done) | (simp [immOp, *]; done)
  exact PF.ret2 rfl rfl rfl ⟨by rw [hm], hkp, by rw [hm]; exact p1, by rw [hm]; exact p2⟩
  refine CF.skip (PF.blockNormal (PF.next (CF.seq (CF.region (LF.step (OpOk.assign rfl) (LF.step (OpOk.assign rfl) (LF.nil (PF.next (CF.ret ?_)))))))))
  have hm : stepM i regs mem = ((0, true), regs, storeM mem (IntKind.i32.wrap ((getM regs i.A) + i.Imm)) (getM regs i.B)) := by
    unfold stepM; (repeat rw [if_neg (by omega)]) <;> (try rw [if_pos (by omega)]) <;> first | rfl | (simp [*]; done) | (simp [immOp, *]; done)
  exact PF.ret2 rfl rfl rfl ⟨by rw [hm], hkp, by rw [hm]; exact p1, by rw [hm]; exact p2⟩
  refine CF.seq (CF.region ?_)
  refine LF.step (OpOk.fieldAddr (Try.fld40_0) rfl) ?_
  refine LF.step (OpOk.ldBx hb3 Try.one3 rfl rfl) ?_
  refine LF.step (OpOk.eql rfl rfl) ?_
  refine LF.step (OpOk.assign rfl) (LF.nil (PF.next ?_))
  refine CF.if rfl (fun hc16 => ?_) (fun hc16 => ?_)
  refine CF.seq (CF.region (LF.step (OpOk.move rfl) (LF.step (OpOk.move rfl) ?_)))
  refine LF.call (OpCall.fn Try.ent70 rfl rfl) (rWide_ct hin (getM regs i.A) (getM regs i.B) w27_0 w31_0) ?_
  rintro _ _ ⟨rfl, rfl⟩
  have w206_0 : IntKind.i32.wrap ((wideM (getM regs i.A) (getM regs i.B)).1) = (wideM (getM regs i.A) (getM regs i.B)).1 := wrap_wrap _ _
  have w206_1 : IntKind.i32.wrap ((wideM (getM regs i.A) (getM regs i.B)).2) = (wideM (getM regs i.A) (getM regs i.B)).2 := wrap_wrap _ _
  refine LF.step (OpOk.move rfl) ?_
  refine LF.step (OpOk.extract (v := .int .i32 ((wideM (getM regs i.A) (getM regs i.B)).1)) rfl rfl) ?_
  refine LF.step (OpOk.extract (v := .int .i32 ((wideM (getM regs i.A) (getM regs i.B)).2)) rfl rfl) ?_
  refine LF.step (OpOk.assign rfl) (LF.step (OpOk.assign rfl) (LF.nil (PF.next (CF.seq (CF.region (LF.step (OpOk.move rfl) ?_))))))
  refine LF.step (OpOk.fieldAddr (Try.fld40_1) rfl) ?_
  refine LF.step (OpOk.ldBx hb3 Try.one3 rfl rfl) ?_
  refine LF.step (OpOk.move rfl) ?_
  refine LF.call (OpCall.fn Try.ent66 rfl rfl) (rSet_ct hin p1 i.D ((wideM (getM regs i.A) (getM regs i.B)).1) (by first | omega | (simp only [setM_len, storeM_len]; omega)) w206_0) ?_
  rintro _ H213 ⟨rfl, k213, x213_0⟩
  have zk213 := k213.1
  replace hin := hin.kw k213 (by intro k0 hk0; exact p1.no k0 hk0)
  replace hb3 := hb3.kw k213 (p1.neBx hb3 (by decide))
  replace p2 := p2.kw k213 (app2_p1)
  replace hkp := hkp.kw k213 (by intro k0 hl; intro hk0; exact (.inl hk0))
  replace p1 := x213_0
  refine LF.nil (PF.next (CF.region (LF.step (OpOk.move rfl) ?_)))
  refine LF.step (OpOk.fieldAddr (Try.fld40_2) rfl) ?_
  refine LF.step (OpOk.ldBx hb3 Try.one3 rfl rfl) ?_
  refine LF.step (OpOk.move rfl) ?_
  refine LF.call (OpCall.fn Try.ent66 rfl rfl) (rSet_ct hin p1 i.E ((wideM (getM regs i.A) (getM regs i.B)).2) (by first | omega | (simp only [setM_len, storeM_len]; omega)) w206_1) ?_
  rintro _ H218 ⟨rfl, k218, x218_0⟩
  have zk218 := k218.1
  replace hin := hin.kw k218 (by intro k0 hk0; exact p1.no k0 hk0)
  replace hb3 := hb3.kw k218 (p1.neBx hb3 (by decide))
  replace p2 := p2.kw k218 (app2_p1)
  replace hkp := hkp.kw k218 (by intro k0 hl; intro hk0; exact (.inl hk0))
  replace p1 := x218_0
  refine LF.nil (PF.blockNormal (PF.next (CF.seq (CF.region (LF.step (OpOk.assign rfl) (LF.step (OpOk.assign rfl) (LF.nil (PF.next (CF.ret ?_)))))))))
  have hm : stepM i regs mem = ((0, true), setM (setM regs i.D ((wideM (getM regs i.A) (getM regs i.B)).1)) i.E ((wideM (getM regs i.A) (getM regs i.B)).2), mem) := by
    unfold stepM; (repeat rw [if_neg (by omega)]) <;> (try rw [if_pos (by omega)]) <;> first | rfl | (simp [*]; done) | (simp [immOp, *]; done)
  exact PF.ret2 rfl rfl rfl ⟨by rw [hm], hkp, by rw [hm]; exact p1, by rw [hm]; exact p2⟩
  refine CF.skip (PF.blockNormal (PF.next (CF.seq (CF.region (LF.step (OpOk.assign rfl) (LF.step (OpOk.assign rfl) (LF.nil (PF.next (CF.ret ?_)))))))))
  have hm : stepM i regs mem = ((0, true), regs, mem) := by
    unfold stepM; (repeat rw [if_neg (by omega)]) <;> (try rw [if_pos (by omega)]) <;> first | rfl | (simp [*]; done) | (simp [immOp, *]; done)
  exact PF.ret2 rfl rfl rfl ⟨by rw [hm], hkp, by rw [hm]; exact p1, by rw [hm]; exact p2⟩

-- jacquard/mach.Do: function 19
theorem pDoM_ct {F : PH} {H : Heap} (hin : InH F H) {a0 : Value} {i : D.Mach} (p0 : rMach.ra F a0 i) {a1 : Value} {regs : List Int} {B1 : Nat} (p1 : Gl (rI .i32) 21 F H B1 a1 regs) {a2 : Value} {mem : List Int} {B2 : Nat} (p2 : Gl (rI .i32) 21 F H B2 a2 mem) (hl : regs.length < 1073741824) (hl2 : mem.length < 1073741824) (app1_p2 : ∀ k, a1.ownBlock = some k → a2.ownBlock ≠ some k) :
    Ct Try.prog 19 #[a0, a1, a2] H (fun v H' => v = .tuple #[.int .i32 ((stepM i regs mem).1.1), .bool ((stepM i regs mem).1.2)] ∧ Kw (own2 a1 a2) H H' ∧ Gl (rI .i32) 21 F H' B1 a1 ((stepM i regs mem).2.1) ∧ Gl (rI .i32) 21 F H' B2 a2 ((stepM i regs mem).2.2)) := by
  have p0k := rMach.any p0
  obtain ⟨a0c7, rfl, p0c7⟩ := rMach.open p0
  have p0c7q := rL.len2 p0c7
  have app2_p1 := ap_sym app1_p2
  have hkp := Kw.refl (own2 a1 a2) H
  have hx := PH.ext.refl (H := H) F
  refine Ct.enter (args := [.agg #[.int .i64 i.Op, .int .i64 i.D, .int .i64 i.E, .int .i64 i.A, .int .i64 i.B, .int .i64 i.C, .int .i32 i.Imm, a0c7], a1, a2]) Try.func19 rfl rfl rfl (fun w0 hw0 => ?_)
  refine CF.seq (CF.region ?_)
  refine LF.chg (OpCh.boxB rfl rfl) ?_
  rintro _ H3 ⟨g3, rfl, eg3, sg3, kg3, hb3⟩
  have ng3 := hin.nope (Nat.le_of_eq eg3.symm)
  have lg3 := hkp.1
  have zkg3 := kg3.1
  replace hin := hin.kp kg3
  replace hkp := hkp.trans (kg3.mono hkp.1)
  replace p1 := p1.kp kg3
  replace p2 := p2.kp kg3
  clear kg3
  refine LF.chg (OpCh.boxB rfl (cells1 p1.one1)) ?_
  rintro _ H4 ⟨g4, rfl, eg4, sg4, kg4, hb4⟩
  have ng4 := hin.nope (Nat.le_of_eq eg4.symm)
  have lg4 := hkp.1
  have zkg4 := kg4.1
  replace hin := hin.kp kg4
  replace hkp := hkp.trans (kg4.mono hkp.1)
  replace hb3 := hb3.kp kg4
  replace p1 := p1.kp kg4
  replace p2 := p2.kp kg4
  clear kg4
  refine LF.step (OpOk.assign rfl) (LF.step (OpOk.assign rfl) (LF.nil (PF.next (CF.seq ?_))))
  refine CF.any (fun H' => InH F H' ∧ Bx H' g3 40 [.int .i64 i.Op, .int .i64 i.D, .int .i64 i.E, .int .i64 i.A, .int .i64 i.B, .int .i64 i.C, .int .i32 i.Imm, a0c7] ∧ Bx H' g4 25 [a1] ∧ True) Try.mixed ?_
  refine AF.take 0 rfl (by kernel_rfl) (by kernel_rfl) (by kernel_rfl) ⟨hin, hb3, hb4, trivial⟩ (fun _ ⟨hin, hb3, hb4, _⟩ => OpOk.ldBx hb4 Try.one25 rfl rfl) ?_
  refine AF.take 1 rfl (by kernel_rfl) (by kernel_rfl) (by kernel_rfl) ⟨hin, hb3, hb4, trivial⟩ (fun _ ⟨hin, hb3, hb4, _⟩ => OpOk.fieldAddr (Try.fld40_3) rfl) ?_
  refine AF.take 2 rfl (by kernel_rfl) (by kernel_rfl) (by kernel_rfl) ⟨hin, hb3, hb4, trivial⟩ (fun _ ⟨hin, hb3, hb4, _⟩ => OpOk.ldBx hb3 Try.one3 rfl rfl) ?_
  refine AF.take 4 rfl (by kernel_rfl) (by kernel_rfl) (by kernel_rfl) ⟨hin, hb3, hb4, trivial⟩ (fun _ ⟨hin, hb3, hb4, _⟩ => OpOk.ldBx hb4 Try.one25 rfl rfl) ?_
  refine AF.take 5 rfl (by kernel_rfl) (by kernel_rfl) (by kernel_rfl) ⟨hin, hb3, hb4, trivial⟩ (fun _ ⟨hin, hb3, hb4, _⟩ => OpOk.fieldAddr (Try.fld40_4) rfl) ?_
  refine AF.take 6 rfl (by kernel_rfl) (by kernel_rfl) (by kernel_rfl) ⟨hin, hb3, hb4, trivial⟩ (fun _ ⟨hin, hb3, hb4, _⟩ => OpOk.ldBx hb3 Try.one3 rfl rfl) ?_
  refine AF.take 8 rfl (by kernel_rfl) (by kernel_rfl) (by kernel_rfl) ⟨hin, hb3, hb4, trivial⟩ (fun _ ⟨hin, hb3, hb4, _⟩ => OpOk.ldBx hb4 Try.one25 rfl rfl) ?_
  refine AF.take 9 rfl (by kernel_rfl) (by kernel_rfl) (by kernel_rfl) ⟨hin, hb3, hb4, trivial⟩ (fun _ ⟨hin, hb3, hb4, _⟩ => OpOk.fieldAddr (Try.fld40_5) rfl) ?_
  refine AF.take 10 rfl (by kernel_rfl) (by kernel_rfl) (by kernel_rfl) ⟨hin, hb3, hb4, trivial⟩ (fun _ ⟨hin, hb3, hb4, _⟩ => OpOk.ldBx hb3 Try.one3 rfl rfl) ?_
  refine AF.call 3 rfl (by kernel_rfl) (OpCall.fn Try.ent29 rfl rfl) (p1.temp 1073741824 hin (by first | (simp only [List.length_append, List.length_take, List.length_drop, List.length_nil, List.length_cons, List.length_set, List.length_replicate]; omega) | (simp; done) | (simp; omega) | omega) (fun G1 lg1 hin1 hr1 => pGet_ct hin1 hr1 i.A)) (by rintro _ _ ⟨_, rfl⟩; exact ⟨hin, hb3, hb4, trivial⟩) ?_
  rintro _ _ ⟨rfl, rfl⟩
  have w22_0 : IntKind.i32.wrap (getM regs i.A) = getM regs i.A := getM_wrG p1 _
  refine AF.call 7 rfl (by kernel_rfl) (OpCall.fn Try.ent29 rfl rfl) (p1.temp 1073741824 hin (by first | (simp only [List.length_append, List.length_take, List.length_drop, List.length_nil, List.length_cons, List.length_set, List.length_replicate]; omega) | (simp; done) | (simp; omega) | omega) (fun G1 lg1 hin1 hr1 => pGet_ct hin1 hr1 i.B)) (by rintro _ _ ⟨_, rfl⟩; exact ⟨hin, hb3, hb4, trivial⟩) ?_
  rintro _ _ ⟨rfl, rfl⟩
  have w26_0 : IntKind.i32.wrap (getM regs i.B) = getM regs i.B := getM_wrG p1 _
  refine AF.call 11 rfl (by kernel_rfl) (OpCall.fn Try.ent29 rfl rfl) (p1.temp 1073741824 hin (by first | (simp only [List.length_append, List.length_take, List.length_drop, List.length_nil, List.length_cons, List.length_set, List.length_replicate]; omega) | (simp; done) | (simp; omega) | omega) (fun G1 lg1 hin1 hr1 => pGet_ct hin1 hr1 i.C)) (by rintro _ _ ⟨_, rfl⟩; exact ⟨hin, hb3, hb4, trivial⟩) ?_
  rintro _ _ ⟨rfl, rfl⟩
  have w30_0 : IntKind.i32.wrap (getM regs i.C) = getM regs i.C := getM_wrG p1 _
  refine AF.take 12 rfl (by kernel_rfl) (by kernel_rfl) (by kernel_rfl) ⟨hin, hb3, hb4, trivial⟩ (fun _ ⟨hin, hb3, hb4, _⟩ => OpOk.assign rfl) ?_
  refine AF.take 13 rfl (by kernel_rfl) (by kernel_rfl) (by kernel_rfl) ⟨hin, hb3, hb4, trivial⟩ (fun _ ⟨hin, hb3, hb4, _⟩ => OpOk.assign rfl) ?_
  refine AF.take 14 rfl (by kernel_rfl) (by kernel_rfl) (by kernel_rfl) ⟨hin, hb3, hb4, trivial⟩ (fun _ ⟨hin, hb3, hb4, _⟩ => OpOk.assign rfl) ?_
  refine AF.done (by kernel_rfl) ?_
  refine PF.next (CF.seq (CF.region ?_))
  refine LF.step (OpOk.makeFunc1 rfl) ?_
  refine LF.step (OpOk.assign rfl) (LF.nil (PF.next (CF.seq (CF.region (LF.step (OpOk.move rfl) (LF.step (OpOk.assign rfl) (LF.step (OpOk.assign rfl) (LF.step (OpOk.assign rfl) (LF.nil (PF.next (CF.seq ?_)))))))))))
  refine CF.block (CF.seq (CF.region ?_))
  refine LF.step (OpOk.fieldAddr (Try.fld40_0) rfl) ?_
  refine LF.step (OpOk.ldBx hb3 Try.one3 rfl rfl) ?_
  refine LF.step (OpOk.eql rfl rfl) ?_
  refine LF.step (OpOk.assign rfl) (LF.nil (PF.next ?_))
  refine CF.if rfl (fun hc1 => ?_) (fun hc1 => ?_)
  refine CF.skip (PF.blockNormal (PF.next (CF.seq (CF.seq (CF.region (LF.step (OpOk.move rfl) ?_))))))
  refine LF.step (OpOk.not rfl) ?_
  refine LF.step (OpOk.move rfl) ?_
  refine LF.gstep rfl rfl (.t _) (fun hg => OpOk.move rfl) ?_
  refine LF.gstep rfl rfl (.t _) (fun hg => OpOk.eql (evg rfl hg) rfl) ?_
  refine LF.step (OpOk.pickAnd rfl rfl) ?_
  refine LF.nil (PF.next ?_)
  refine CF.if rfl (fun hc2 => ?_) (fun hc2 => ?_)
  exact absurd hc2 (by simp)
  refine CF.skip (PF.next (CF.seq (CF.seq (CF.region (LF.step (OpOk.move rfl) ?_)))))
  refine LF.step (OpOk.not rfl) ?_
  refine LF.nil (PF.next ?_)
  refine CF.if rfl (fun hc3 => ?_) (fun hc3 => ?_)
  exact absurd hc3 (by simp)
  refine CF.skip (PF.next (CF.seq (CF.seq (CF.region ?_))))
  refine LF.step (OpOk.ldBxA hb3 Try.agg40 Try.sz40 rfl rfl rfl) ?_
  refine LF.call (OpCall.fn Try.ent18 rfl rfl) (pMakes_ct hin p0) ?_
  rintro v187 H187 ⟨F187, x187, i187, k187, h187⟩
  have zk187 := k187.1
  replace hx := hx.trans x187 hkp.1
  replace hkp := hkp.trans (k187.mono hkp.1)
  have l187 := hkp.1
  replace ng3 := x187.no ng3 hb3.lt
  replace hb3 := hb3.kp k187
  replace ng4 := x187.no ng4 hb4.lt
  replace hb4 := hb4.kp k187
  replace p1 := (p1.ext x187).kp k187
  replace p2 := (p2.ext x187).kp k187
  have le0 := x187.1
  have hin := i187
  have h187q := rL.len2 h187
  refine LF.step (OpOk.lenL Try.underlying38 h187 rfl) ?_
  refine LF.step (OpOk.move rfl) (LF.nil (PF.next (CF.block ?_)))
  refine CF.loop (ι := Nat × List Int) (fun z9 H1 => z9.1 ≤ (makesM i).length ∧ setAllM regs (makesM i) (getM regs i.A) = setAllM z9.2 ((makesM i).drop z9.1) (getM regs i.A) ∧ z9.2.length = regs.length ∧ InH F187 H1 ∧ Kw (own2 a1 a2) H H1 ∧ Bx H1 g3 40 [.int .i64 i.Op, .int .i64 i.D, .int .i64 i.E, .int .i64 i.A, .int .i64 i.B, .int .i64 i.C, .int .i32 i.Imm, a0c7] ∧ Bx H1 g4 25 [a1] ∧ Gl (rI .i32) 21 F187 H1 B1 a1 z9.2 ∧ Gl (rI .i32) 21 F187 H1 B2 a2 mem) (fun z9 => [(6, .int .i32 0), (7, .bool false), (11, .func (.func 39) #[] #[.pointer (some ⟨g4, 0, none⟩)]), (12, .int .i32 (getM regs i.A)), (187, v187), (188, .int .i64 (↑(List.length (makesM i)))), (189, .int .i64 (↑z9.1))]) (fun z9 => (makesM i).length - z9.1) (0, regs) ⟨by omega, rfl, rfl, hin, hkp, hb3, hb4, p1, p2⟩ ⟨rfl, rfl, rfl, rfl, rfl, rfl, eqI (by omega), trivial⟩ ?_
  clear hin hkp hb3 hb4 p1 p2
  rintro ⟨k, rs⟩ H1 ⟨hk, hR, hl9, hin, hkp, hb3, hb4, p1, p2⟩
  dsimp only at hk hR hl9 hb3 hb4 p1 p2 ⊢
  refine CF.seq (CF.region ?_)
  refine LF.step (OpOk.lss rfl rfl) ?_
  refine LF.nil (PF.next (CF.seq ?_))
  refine CF.if rfl (fun hc4 => ?_) (fun hc4 => ?_)
  refine CF.skip (PF.next (CF.seq (CF.block (CF.seq (CF.region ?_)))))
  refine LF.step (OpOk.idxL (i := k) Try.underlying38 Try.sz3 h187 rfl rfl rfl (by omega)) ?_
  refine LF.step (OpOk.ldI hin (rL.ix h187 k (by omega)) Try.one3 rfl) ?_
  refine LF.step (OpOk.assign rfl) (LF.nil (PF.next (CF.region (LF.step (OpOk.move rfl) (LF.step (OpOk.move rfl) (LF.step (OpOk.move rfl) ?_))))))
  refine LF.call (OpCall.fnc Try.ent39 rfl rfl) (pSet_ct hin (ix (makesM i) k) (getM regs i.A) p1 hb4 (by first | omega | (simp only [setM_len, storeM_len]; omega)) w22_0) ?_
  rintro _ H196 ⟨rfl, k196, x196_2⟩
  have zk196 := k196.1
  replace hin := hin.kw k196 (by intro k0 hk0; exact p1.no k0 hk0)
  replace hb3 := hb3.kw k196 (p1.neBx hb3 (by decide))
  replace hb4 := hb4.kw k196 (p1.neBx hb4 (by decide))
  replace p2 := p2.kw k196 (app2_p1)
  replace hkp := hkp.kw k196 (by intro k0 hl; intro hk0; exact (.inl hk0))
  replace p1 := x196_2
  refine LF.nil (PF.blockNormal (PF.next (CF.region ?_)))
  refine LF.step (OpOk.add rfl rfl (by omega)) ?_
  refine LF.step (OpOk.move rfl) (LF.nil ?_)
  exact PF.again (k + 1, setM rs (ix (makesM i) k) (getM regs i.A)) ⟨by dsimp only; omega, by dsimp only; rw [hR, drop_ix (by omega)]; rfl, by dsimp only; rw [setM_len]; exact hl9, hin, hkp, hb3, hb4, p1, p2⟩ ⟨rfl, rfl, rfl, rfl, rfl, rfl, eqI (by omega), trivial⟩ (by omega)
  refine CF.exit (PF.thenExit (PF.thenExit (PF.blockHere (PF.next (CF.seq (CF.region (LF.step (OpOk.assign rfl) (LF.step (OpOk.assign rfl) (LF.nil (PF.next (CF.ret ?_)))))))))))
  have hm : stepM i regs mem = ((0, true), rs, mem) := by
    have e1 := hR.symm
    rw [List.drop_of_length_le (by omega), setAllM_nil] at e1
    first | (have e2 : makesM i = [i.D] := (by unfold makesM; (repeat rw [if_neg (by omega)])); rw [e2] at e1; subst e1; unfold stepM; (repeat rw [if_neg (by omega)]) <;> (try rw [if_pos (by omega)]) <;> first | rfl | (simp [setAllM, *]; done) | (simp [setAllM, immOp, *]; done)) | (have e2 : makesM i = [] := (by unfold makesM; (repeat rw [if_neg (by omega)]) <;> (try rw [if_pos (by omega)])); rw [e2] at e1; subst e1; unfold stepM; (repeat rw [if_neg (by omega)]) <;> (try rw [if_pos (by omega)]) <;> first | rfl | (simp [setAllM, *]; done))
  exact PF.ret2 rfl rfl rfl ⟨by rw [hm], hkp, by rw [hm]; exact (p1.down (fun _ _ _ _ h => h) hx.1), by rw [hm]; exact (p2.down (fun _ _ _ _ h => h) hx.1)⟩
  refine CF.seq (CF.region ?_)
  refine LF.step (OpOk.fieldAddr (Try.fld40_0) rfl) ?_
  refine LF.step (OpOk.ldBx hb3 Try.one3 rfl rfl) ?_
  refine LF.step (OpOk.eql rfl rfl) ?_
  refine LF.step (OpOk.assign rfl) (LF.nil (PF.next ?_))
  refine CF.if rfl (fun hc5 => ?_) (fun hc5 => ?_)
  refine CF.seq (CF.region (LF.step (OpOk.move rfl) ?_))
  refine LF.step (OpOk.fieldAddr (Try.fld40_3) rfl) ?_
  refine LF.step (OpOk.ldBx hb3 Try.one3 rfl rfl) ?_
  refine LF.step (OpOk.move rfl) ?_
  refine LF.call (OpCall.fnc Try.ent39 rfl rfl) (pSet_ct hin i.A (getM regs i.B) p1 hb4 (by first | omega | (simp only [setM_len, storeM_len]; omega)) w26_0) ?_
  rintro _ H45 ⟨rfl, k45, x45_2⟩
  have zk45 := k45.1
  replace hin := hin.kw k45 (by intro k0 hk0; exact p1.no k0 hk0)
  replace hb3 := hb3.kw k45 (p1.neBx hb3 (by decide))
  replace hb4 := hb4.kw k45 (p1.neBx hb4 (by decide))
  replace p2 := p2.kw k45 (app2_p1)
  replace hkp := hkp.kw k45 (by intro k0 hl; intro hk0; exact (.inl hk0))
  replace p1 := x45_2
  refine LF.nil (PF.next (CF.seq (CF.region (LF.step (OpOk.move rfl) ?_))))
  refine LF.step (OpOk.fieldAddr (Try.fld40_4) rfl) ?_
  refine LF.step (OpOk.ldBx hb3 Try.one3 rfl rfl) ?_
  refine LF.step (OpOk.move rfl) ?_
  refine LF.call (OpCall.fnc Try.ent39 rfl rfl) (pSet_ct hin i.B (getM regs i.A) p1 hb4 (by first | omega | (simp only [setM_len, storeM_len]; omega)) w22_0) ?_
  rintro _ H50 ⟨rfl, k50, x50_2⟩
  have zk50 := k50.1
  replace hin := hin.kw k50 (by intro k0 hk0; exact p1.no k0 hk0)
  replace hb3 := hb3.kw k50 (p1.neBx hb3 (by decide))
  replace hb4 := hb4.kw k50 (p1.neBx hb4 (by decide))
  replace p2 := p2.kw k50 (app2_p1)
  replace hkp := hkp.kw k50 (by intro k0 hl; intro hk0; exact (.inl hk0))
  replace p1 := x50_2
  refine LF.nil (PF.next (CF.seq (CF.region (LF.step (OpOk.assign rfl) (LF.step (OpOk.assign rfl) (LF.nil (PF.next (CF.ret (PF.blockRet (PF.thenRet ?_))))))))))
  have hm : stepM i regs mem = ((0, true), setM (setM regs i.A (getM regs i.B)) i.B (getM regs i.A), mem) := by
    unfold stepM; (repeat rw [if_neg (by omega)]) <;> (try rw [if_pos (by omega)]) <;> first | rfl | (simp [*]; done) | (simp [immOp, *]; done) | (exfalso; (try simp at hc1); (try simp at hc5); simp_all; done)
  exact PF.ret2 rfl rfl rfl ⟨by rw [hm], hkp, by rw [hm]; exact p1, by rw [hm]; exact p2⟩
  refine CF.seq (CF.region ?_)
  refine LF.step (OpOk.fieldAddr (Try.fld40_0) rfl) ?_
  refine LF.step (OpOk.ldBx hb3 Try.one3 rfl rfl) ?_
  refine LF.step (OpOk.eql rfl rfl) ?_
  refine LF.step (OpOk.move rfl) ?_
  refine LF.gstep rfl rfl (.f _) (fun hg => OpOk.fieldAddr (Try.fld40_0) rfl) ?_
  refine LF.gstep rfl rfl (.f _) (fun hg => OpOk.ldBx hb3 Try.one3 (evg rfl hg) rfl) ?_
  refine LF.gstep rfl rfl (.f _) (fun hg => OpOk.eql (evg rfl hg) rfl) ?_
  refine LF.step (OpOk.pickOr rfl rfl) ?_
  refine LF.step (OpOk.assign rfl) (LF.nil (PF.next ?_))
  refine CF.if rfl (fun hc6 => ?_) (fun hc6 => ?_)
  refine CF.region ?_
  refine LF.step (OpOk.fieldAddr (Try.fld40_6) rfl) ?_
  refine LF.step (OpOk.ldBx hb3 Try.one21 rfl rfl) ?_
  refine LF.step (OpOk.assign rfl) (LF.nil (PF.blockNormal (PF.next (CF.seq (CF.seq (CF.region (LF.step (OpOk.move rfl) ?_)))))))
  refine LF.step (OpOk.not rfl) ?_
  refine LF.step (OpOk.move rfl) ?_
  refine LF.gstep rfl rfl (.t _) (fun hg => OpOk.move rfl) ?_
  refine LF.gstep rfl rfl (.t _) (fun hg => OpOk.eql (evg rfl hg) rfl) ?_
  refine LF.step (OpOk.pickAnd rfl rfl) ?_
  refine LF.nil (PF.next ?_)
  refine CF.if rfl (fun hc7 => ?_) (fun hc7 => ?_)
  exact absurd hc7 (by simp)
  refine CF.skip (PF.next (CF.seq (CF.seq (CF.region (LF.step (OpOk.move rfl) ?_)))))
  refine LF.step (OpOk.not rfl) ?_
  refine LF.nil (PF.next ?_)
  refine CF.if rfl (fun hc8 => ?_) (fun hc8 => ?_)
  exact absurd hc8 (by simp)
  refine CF.skip (PF.next (CF.seq (CF.seq (CF.region ?_))))
  refine LF.step (OpOk.ldBxA hb3 Try.agg40 Try.sz40 rfl rfl rfl) ?_
  refine LF.call (OpCall.fn Try.ent18 rfl rfl) (pMakes_ct hin p0) ?_
  rintro v187 H187 ⟨F187, x187, i187, k187, h187⟩
  have zk187 := k187.1
  replace hx := hx.trans x187 hkp.1
  replace hkp := hkp.trans (k187.mono hkp.1)
  have l187 := hkp.1
  replace ng3 := x187.no ng3 hb3.lt
  replace hb3 := hb3.kp k187
  replace ng4 := x187.no ng4 hb4.lt
  replace hb4 := hb4.kp k187
  replace p1 := (p1.ext x187).kp k187
  replace p2 := (p2.ext x187).kp k187
  have le0 := x187.1
  have hin := i187
  have h187q := rL.len2 h187
  refine LF.step (OpOk.lenL Try.underlying38 h187 rfl) ?_
  refine LF.step (OpOk.move rfl) (LF.nil (PF.next (CF.block ?_)))
  refine CF.loop (ι := Nat × List Int) (fun z9 H1 => z9.1 ≤ (makesM i).length ∧ setAllM regs (makesM i) i.Imm = setAllM z9.2 ((makesM i).drop z9.1) i.Imm ∧ z9.2.length = regs.length ∧ InH F187 H1 ∧ Kw (own2 a1 a2) H H1 ∧ Bx H1 g3 40 [.int .i64 i.Op, .int .i64 i.D, .int .i64 i.E, .int .i64 i.A, .int .i64 i.B, .int .i64 i.C, .int .i32 i.Imm, a0c7] ∧ Bx H1 g4 25 [a1] ∧ Gl (rI .i32) 21 F187 H1 B1 a1 z9.2 ∧ Gl (rI .i32) 21 F187 H1 B2 a2 mem) (fun z9 => [(6, .int .i32 0), (7, .bool false), (11, .func (.func 39) #[] #[.pointer (some ⟨g4, 0, none⟩)]), (12, .int .i32 i.Imm), (187, v187), (188, .int .i64 (↑(List.length (makesM i)))), (189, .int .i64 (↑z9.1))]) (fun z9 => (makesM i).length - z9.1) (0, regs) ⟨by omega, rfl, rfl, hin, hkp, hb3, hb4, p1, p2⟩ ⟨rfl, rfl, rfl, rfl, rfl, rfl, eqI (by omega), trivial⟩ ?_
  clear hin hkp hb3 hb4 p1 p2
  rintro ⟨k, rs⟩ H1 ⟨hk, hR, hl9, hin, hkp, hb3, hb4, p1, p2⟩
  dsimp only at hk hR hl9 hb3 hb4 p1 p2 ⊢
  refine CF.seq (CF.region ?_)
  refine LF.step (OpOk.lss rfl rfl) ?_
  refine LF.nil (PF.next (CF.seq ?_))
  refine CF.if rfl (fun hc9 => ?_) (fun hc9 => ?_)
  refine CF.skip (PF.next (CF.seq (CF.block (CF.seq (CF.region ?_)))))
  refine LF.step (OpOk.idxL (i := k) Try.underlying38 Try.sz3 h187 rfl rfl rfl (by omega)) ?_
  refine LF.step (OpOk.ldI hin (rL.ix h187 k (by omega)) Try.one3 rfl) ?_
  refine LF.step (OpOk.assign rfl) (LF.nil (PF.next (CF.region (LF.step (OpOk.move rfl) (LF.step (OpOk.move rfl) (LF.step (OpOk.move rfl) ?_))))))
  refine LF.call (OpCall.fnc Try.ent39 rfl rfl) (pSet_ct hin (ix (makesM i) k) i.Imm p1 hb4 (by first | omega | (simp only [setM_len, storeM_len]; omega)) (rMach.w_Imm (m := i) p0k)) ?_
  rintro _ H196 ⟨rfl, k196, x196_2⟩
  have zk196 := k196.1
  replace hin := hin.kw k196 (by intro k0 hk0; exact p1.no k0 hk0)
  replace hb3 := hb3.kw k196 (p1.neBx hb3 (by decide))
  replace hb4 := hb4.kw k196 (p1.neBx hb4 (by decide))
  replace p2 := p2.kw k196 (app2_p1)
  replace hkp := hkp.kw k196 (by intro k0 hl; intro hk0; exact (.inl hk0))
  replace p1 := x196_2
  refine LF.nil (PF.blockNormal (PF.next (CF.region ?_)))
  refine LF.step (OpOk.add rfl rfl (by omega)) ?_
  refine LF.step (OpOk.move rfl) (LF.nil ?_)
  exact PF.again (k + 1, setM rs (ix (makesM i) k) i.Imm) ⟨by dsimp only; omega, by dsimp only; rw [hR, drop_ix (by omega)]; rfl, by dsimp only; rw [setM_len]; exact hl9, hin, hkp, hb3, hb4, p1, p2⟩ ⟨rfl, rfl, rfl, rfl, rfl, rfl, eqI (by omega), trivial⟩ (by omega)
  refine CF.exit (PF.thenExit (PF.thenExit (PF.blockHere (PF.next (CF.seq (CF.region (LF.step (OpOk.assign rfl) (LF.step (OpOk.assign rfl) (LF.nil (PF.next (CF.ret ?_)))))))))))
  have hm : stepM i regs mem = ((0, true), rs, mem) := by
    have e1 := hR.symm
    rw [List.drop_of_length_le (by omega), setAllM_nil] at e1
    first | (have e2 : makesM i = [i.D] := (by unfold makesM; (repeat rw [if_neg (by omega)])); rw [e2] at e1; subst e1; unfold stepM; (repeat rw [if_neg (by omega)]) <;> (try rw [if_pos (by omega)]) <;> first | rfl | (simp [setAllM, *]; done) | (simp [setAllM, immOp, *]; done)) | (have e2 : makesM i = [] := (by unfold makesM; (repeat rw [if_neg (by omega)]) <;> (try rw [if_pos (by omega)])); rw [e2] at e1; subst e1; unfold stepM; (repeat rw [if_neg (by omega)]) <;> (try rw [if_pos (by omega)]) <;> first | rfl | (simp [setAllM, *]; done))
  exact PF.ret2 rfl rfl rfl ⟨by rw [hm], hkp, by rw [hm]; exact (p1.down (fun _ _ _ _ h => h) hx.1), by rw [hm]; exact (p2.down (fun _ _ _ _ h => h) hx.1)⟩
  refine CF.seq (CF.region ?_)
  refine LF.step (OpOk.fieldAddr (Try.fld40_0) rfl) ?_
  refine LF.step (OpOk.ldBx hb3 Try.one3 rfl rfl) ?_
  refine LF.step (OpOk.geq rfl rfl) ?_
  refine LF.step (OpOk.move rfl) ?_
  refine LF.gstep rfl rfl (.t _) (fun hg => OpOk.fieldAddr (Try.fld40_0) rfl) ?_
  refine LF.gstep rfl rfl (.t _) (fun hg => OpOk.ldBx hb3 Try.one3 (evg rfl hg) rfl) ?_
  refine LF.gstep rfl rfl (.t _) (fun hg => OpOk.leq (evg rfl hg) rfl) ?_
  refine LF.step (OpOk.pickAnd rfl rfl) ?_
  refine LF.step (OpOk.assign rfl) (LF.nil (PF.next ?_))
  refine CF.if rfl (fun hc10 => ?_) (fun hc10 => ?_)
  refine CF.seq (CF.region ?_)
  refine LF.step (OpOk.fieldAddr (Try.fld40_0) rfl) ?_
  refine LF.step (OpOk.ldBx hb3 Try.one3 rfl rfl) ?_
  refine LF.step (OpOk.sub rfl rfl (by omega)) ?_
  refine LF.step (OpOk.add rfl rfl (by omega)) ?_
  refine LF.step (OpOk.move rfl) (LF.step (OpOk.move rfl) ?_)
  refine LF.call (OpCall.fn Try.ent21 rfl rfl) (wDo_ct hin ((i.Op - 5) + 2) (getM regs i.A) (getM regs i.B)) ?_
  rintro _ H78 ⟨rfl, k78⟩
  have zk78 := k78.1
  replace hin := hin.kp k78
  replace hkp := hkp.trans (k78.mono hkp.1)
  replace hb3 := hb3.kp k78
  replace hb4 := hb4.kp k78
  replace p1 := p1.kp k78
  replace p2 := p2.kp k78
  have w78_0 : IntKind.i32.wrap ((doM ((i.Op - 5) + 2) (getM regs i.A) (getM regs i.B)).1) = (doM ((i.Op - 5) + 2) (getM regs i.A) (getM regs i.B)).1 := doM_wr _ _ w22_0
  refine LF.step (OpOk.move rfl) ?_
  refine LF.step (OpOk.extract (v := .int .i32 ((doM ((i.Op - 5) + 2) (getM regs i.A) (getM regs i.B)).1)) rfl rfl) ?_
  refine LF.step (OpOk.extract (v := .bool ((doM ((i.Op - 5) + 2) (getM regs i.A) (getM regs i.B)).2)) rfl rfl) ?_
  refine LF.step (OpOk.assign rfl) (LF.step (OpOk.assign rfl) (LF.nil (PF.next (CF.region (LF.step (OpOk.assign rfl) (LF.nil (PF.blockNormal (PF.next (CF.seq (CF.seq (CF.region ?_)))))))))))
  refine LF.step (OpOk.move rfl) ?_
  refine LF.step (OpOk.not rfl) ?_
  refine LF.step (OpOk.move rfl) ?_
  refine LF.gstep rfl rfl (.t _) (fun hg => OpOk.move rfl) ?_
  refine LF.gstep rfl rfl (.t _) (fun hg => OpOk.eql (evg rfl hg) rfl) ?_
  refine LF.step (OpOk.pickAnd rfl rfl) ?_
  refine LF.nil (PF.next ?_)
  refine CF.if rfl (fun hc11 => ?_) (fun hc11 => ?_)
  exact absurd hc11 (by simp)
  refine CF.skip (PF.next (CF.seq (CF.seq (CF.region (LF.step (OpOk.move rfl) ?_)))))
  refine LF.step (OpOk.not rfl) ?_
  refine LF.nil (PF.next ?_)
  refine CF.if rfl (fun hc12 => ?_) (fun hc12 => ?_)
  refine CF.seq (CF.region (LF.step (OpOk.move rfl) (LF.step (OpOk.assign rfl) (LF.step (OpOk.assign rfl) (LF.nil (PF.next (CF.ret (PF.thenRet ?_))))))))
  have hm : stepM i regs mem = (((-1), false), regs, mem) := by
    unfold stepM; (repeat rw [if_neg (by omega)]) <;> (try rw [if_pos (by omega)]) <;> first | rfl | (simp [*]; done) | (simp [immOp, *]; done) | (exfalso; (try simp at hc10); (try simp at hc11); (try simp at hc12); simp_all; done)
  exact PF.ret2 rfl rfl rfl ⟨by rw [hm], hkp, by rw [hm]; exact p1, by rw [hm]; exact p2⟩
  refine CF.skip (PF.next (CF.seq (CF.seq (CF.region ?_))))
  refine LF.step (OpOk.ldBxA hb3 Try.agg40 Try.sz40 rfl rfl rfl) ?_
  refine LF.call (OpCall.fn Try.ent18 rfl rfl) (pMakes_ct hin p0) ?_
  rintro v187 H187 ⟨F187, x187, i187, k187, h187⟩
  have zk187 := k187.1
  replace hx := hx.trans x187 hkp.1
  replace hkp := hkp.trans (k187.mono hkp.1)
  have l187 := hkp.1
  replace ng3 := x187.no ng3 hb3.lt
  replace hb3 := hb3.kp k187
  replace ng4 := x187.no ng4 hb4.lt
  replace hb4 := hb4.kp k187
  replace p1 := (p1.ext x187).kp k187
  replace p2 := (p2.ext x187).kp k187
  have le0 := x187.1
  have hin := i187
  have h187q := rL.len2 h187
  refine LF.step (OpOk.lenL Try.underlying38 h187 rfl) ?_
  refine LF.step (OpOk.move rfl) (LF.nil (PF.next (CF.block ?_)))
  refine CF.loop (ι := Nat × List Int) (fun z9 H1 => z9.1 ≤ (makesM i).length ∧ setAllM regs (makesM i) ((doM ((i.Op - 5) + 2) (getM regs i.A) (getM regs i.B)).1) = setAllM z9.2 ((makesM i).drop z9.1) ((doM ((i.Op - 5) + 2) (getM regs i.A) (getM regs i.B)).1) ∧ z9.2.length = regs.length ∧ InH F187 H1 ∧ Kw (own2 a1 a2) H H1 ∧ Bx H1 g3 40 [.int .i64 i.Op, .int .i64 i.D, .int .i64 i.E, .int .i64 i.A, .int .i64 i.B, .int .i64 i.C, .int .i32 i.Imm, a0c7] ∧ Bx H1 g4 25 [a1] ∧ Gl (rI .i32) 21 F187 H1 B1 a1 z9.2 ∧ Gl (rI .i32) 21 F187 H1 B2 a2 mem) (fun z9 => [(6, .int .i32 0), (7, .bool false), (11, .func (.func 39) #[] #[.pointer (some ⟨g4, 0, none⟩)]), (12, .int .i32 ((doM ((i.Op - 5) + 2) (getM regs i.A) (getM regs i.B)).1)), (187, v187), (188, .int .i64 (↑(List.length (makesM i)))), (189, .int .i64 (↑z9.1))]) (fun z9 => (makesM i).length - z9.1) (0, regs) ⟨by omega, rfl, rfl, hin, hkp, hb3, hb4, p1, p2⟩ ⟨rfl, rfl, rfl, rfl, rfl, rfl, eqI (by omega), trivial⟩ ?_
  clear hin hkp hb3 hb4 p1 p2
  rintro ⟨k, rs⟩ H1 ⟨hk, hR, hl9, hin, hkp, hb3, hb4, p1, p2⟩
  dsimp only at hk hR hl9 hb3 hb4 p1 p2 ⊢
  refine CF.seq (CF.region ?_)
  refine LF.step (OpOk.lss rfl rfl) ?_
  refine LF.nil (PF.next (CF.seq ?_))
  refine CF.if rfl (fun hc13 => ?_) (fun hc13 => ?_)
  refine CF.skip (PF.next (CF.seq (CF.block (CF.seq (CF.region ?_)))))
  refine LF.step (OpOk.idxL (i := k) Try.underlying38 Try.sz3 h187 rfl rfl rfl (by omega)) ?_
  refine LF.step (OpOk.ldI hin (rL.ix h187 k (by omega)) Try.one3 rfl) ?_
  refine LF.step (OpOk.assign rfl) (LF.nil (PF.next (CF.region (LF.step (OpOk.move rfl) (LF.step (OpOk.move rfl) (LF.step (OpOk.move rfl) ?_))))))
  refine LF.call (OpCall.fnc Try.ent39 rfl rfl) (pSet_ct hin (ix (makesM i) k) ((doM ((i.Op - 5) + 2) (getM regs i.A) (getM regs i.B)).1) p1 hb4 (by first | omega | (simp only [setM_len, storeM_len]; omega)) w78_0) ?_
  rintro _ H196 ⟨rfl, k196, x196_2⟩
  have zk196 := k196.1
  replace hin := hin.kw k196 (by intro k0 hk0; exact p1.no k0 hk0)
  replace hb3 := hb3.kw k196 (p1.neBx hb3 (by decide))
  replace hb4 := hb4.kw k196 (p1.neBx hb4 (by decide))
  replace p2 := p2.kw k196 (app2_p1)
  replace hkp := hkp.kw k196 (by intro k0 hl; intro hk0; exact (.inl hk0))
  replace p1 := x196_2
  refine LF.nil (PF.blockNormal (PF.next (CF.region ?_)))
  refine LF.step (OpOk.add rfl rfl (by omega)) ?_
  refine LF.step (OpOk.move rfl) (LF.nil ?_)
  exact PF.again (k + 1, setM rs (ix (makesM i) k) ((doM ((i.Op - 5) + 2) (getM regs i.A) (getM regs i.B)).1)) ⟨by dsimp only; omega, by dsimp only; rw [hR, drop_ix (by omega)]; rfl, by dsimp only; rw [setM_len]; exact hl9, hin, hkp, hb3, hb4, p1, p2⟩ ⟨rfl, rfl, rfl, rfl, rfl, rfl, eqI (by omega), trivial⟩ (by omega)
  refine CF.exit (PF.thenExit (PF.thenExit (PF.blockHere (PF.next (CF.seq (CF.region (LF.step (OpOk.assign rfl) (LF.step (OpOk.assign rfl) (LF.nil (PF.next (CF.ret ?_)))))))))))
  have hm : stepM i regs mem = ((0, true), rs, mem) := by
    have e1 := hR.symm
    rw [List.drop_of_length_le (by omega), setAllM_nil] at e1
    first | (have e2 : makesM i = [i.D] := (by unfold makesM; (repeat rw [if_neg (by omega)])); rw [e2] at e1; subst e1; unfold stepM; (repeat rw [if_neg (by omega)]) <;> (try rw [if_pos (by omega)]) <;> first | rfl | (simp [setAllM, *]; done) | (simp [setAllM, immOp, *]; done)) | (have e2 : makesM i = [] := (by unfold makesM; (repeat rw [if_neg (by omega)]) <;> (try rw [if_pos (by omega)])); rw [e2] at e1; subst e1; unfold stepM; (repeat rw [if_neg (by omega)]) <;> (try rw [if_pos (by omega)]) <;> first | rfl | (simp [setAllM, *]; done))
  exact PF.ret2 rfl rfl rfl ⟨by rw [hm], hkp, by rw [hm]; exact (p1.down (fun _ _ _ _ h => h) hx.1), by rw [hm]; exact (p2.down (fun _ _ _ _ h => h) hx.1)⟩
  refine CF.seq (CF.region ?_)
  refine LF.step (OpOk.fieldAddr (Try.fld40_0) rfl) ?_
  refine LF.step (OpOk.ldBx hb3 Try.one3 rfl rfl) ?_
  refine LF.step (OpOk.geq rfl rfl) ?_
  refine LF.step (OpOk.move rfl) ?_
  refine LF.gstep rfl rfl (.t _) (fun hg => OpOk.fieldAddr (Try.fld40_0) rfl) ?_
  refine LF.gstep rfl rfl (.t _) (fun hg => OpOk.ldBx hb3 Try.one3 (evg rfl hg) rfl) ?_
  refine LF.gstep rfl rfl (.t _) (fun hg => OpOk.leq (evg rfl hg) rfl) ?_
  refine LF.step (OpOk.pickAnd rfl rfl) ?_
  refine LF.step (OpOk.assign rfl) (LF.nil (PF.next ?_))
  refine CF.if rfl (fun hc14 => ?_) (fun hc14 => ?_)
  refine CF.any (fun H' => InH F H' ∧ Bx H' g3 40 [.int .i64 i.Op, .int .i64 i.D, .int .i64 i.E, .int .i64 i.A, .int .i64 i.B, .int .i64 i.C, .int .i32 i.Imm, a0c7] ∧ Bx H' g4 25 [a1] ∧ True) Try.mixed ?_
  refine AF.take 0 rfl (by kernel_rfl) (by kernel_rfl) (by kernel_rfl) ⟨hin, hb3, hb4, trivial⟩ (fun _ ⟨hin, hb3, hb4, _⟩ => OpOk.build (v := .agg #[.int .i64 2, .int .i64 5, .int .i64 8, .int .i64 9, .int .i64 10]) rfl (fun w => by kernel_rfl)) ?_
  refine AF.take 1 rfl (by kernel_rfl) (by kernel_rfl) (by kernel_rfl) ⟨hin, hb3, hb4, trivial⟩ (fun _ ⟨hin, hb3, hb4, _⟩ => OpOk.fieldAddr (Try.fld40_0) rfl) ?_
  refine AF.take 2 rfl (by kernel_rfl) (by kernel_rfl) (by kernel_rfl) ⟨hin, hb3, hb4, trivial⟩ (fun _ ⟨hin, hb3, hb4, _⟩ => OpOk.ldBx hb3 Try.one3 rfl rfl) ?_
  refine AF.take 3 rfl (by kernel_rfl) (by kernel_rfl) (by kernel_rfl) ⟨hin, hb3, hb4, trivial⟩ (fun _ ⟨hin, hb3, hb4, _⟩ => OpOk.sub rfl rfl (by omega)) ?_
  refine AF.take 4 rfl (by kernel_rfl) (by kernel_rfl) (by kernel_rfl) ⟨hin, hb3, hb4, trivial⟩ (fun _ ⟨hin, hb3, hb4, _⟩ => OpOk.indexI (l := [2, 5, 8, 9, 10]) Try.underlying50 Try.sz3 Try.one3 rfl rfl ⟨by omega, by omega, rfl⟩) ?_
  refine AF.take 5 rfl (by kernel_rfl) (by kernel_rfl) (by kernel_rfl) ⟨hin, hb3, hb4, trivial⟩ (fun _ ⟨hin, hb3, hb4, _⟩ => OpOk.move rfl) ?_
  refine AF.take 6 rfl (by kernel_rfl) (by kernel_rfl) (by kernel_rfl) ⟨hin, hb3, hb4, trivial⟩ (fun _ ⟨hin, hb3, hb4, _⟩ => OpOk.fieldAddr (Try.fld40_6) rfl) ?_
  refine AF.take 7 rfl (by kernel_rfl) (by kernel_rfl) (by kernel_rfl) ⟨hin, hb3, hb4, trivial⟩ (fun _ ⟨hin, hb3, hb4, _⟩ => OpOk.ldBx hb3 Try.one21 rfl rfl) ?_
  refine AF.call 8 rfl (by kernel_rfl) (OpCall.fn Try.ent21 rfl rfl) (wDo_ct hin (ix [2, 5, 8, 9, 10] (Int.toNat (i.Op - 18))) (getM regs i.A) i.Imm) (by rintro _ _ ⟨_, k⟩; exact ⟨(hin.kp k), (hb3.kp k), (hb4.kp k), trivial⟩) ?_
  rintro _ H99 ⟨rfl, k99⟩
  have zk99 := k99.1
  replace hin := hin.kp k99
  replace hkp := hkp.trans (k99.mono hkp.1)
  replace hb3 := hb3.kp k99
  replace hb4 := hb4.kp k99
  replace p1 := p1.kp k99
  replace p2 := p2.kp k99
  have w99_0 : IntKind.i32.wrap ((doM (ix [2, 5, 8, 9, 10] (Int.toNat (i.Op - 18))) (getM regs i.A) i.Imm).1) = (doM (ix [2, 5, 8, 9, 10] (Int.toNat (i.Op - 18))) (getM regs i.A) i.Imm).1 := doM_wr _ _ w22_0
  refine AF.take 9 rfl (by kernel_rfl) (by kernel_rfl) (by kernel_rfl) ⟨hin, hb3, hb4, trivial⟩ (fun _ ⟨hin, hb3, hb4, _⟩ => OpOk.move rfl) ?_
  refine AF.take 10 rfl (by kernel_rfl) (by kernel_rfl) (by kernel_rfl) ⟨hin, hb3, hb4, trivial⟩ (fun _ ⟨hin, hb3, hb4, _⟩ => OpOk.extract (v := .int .i32 ((doM (ix [2, 5, 8, 9, 10] (Int.toNat (i.Op - 18))) (getM regs i.A) i.Imm).1)) rfl rfl) ?_
  refine AF.take 11 rfl (by kernel_rfl) (by kernel_rfl) (by kernel_rfl) ⟨hin, hb3, hb4, trivial⟩ (fun _ ⟨hin, hb3, hb4, _⟩ => OpOk.extract (v := .bool ((doM (ix [2, 5, 8, 9, 10] (Int.toNat (i.Op - 18))) (getM regs i.A) i.Imm).2)) rfl rfl) ?_
  refine AF.take 12 rfl (by kernel_rfl) (by kernel_rfl) (by kernel_rfl) ⟨hin, hb3, hb4, trivial⟩ (fun _ ⟨hin, hb3, hb4, _⟩ => OpOk.assign rfl) ?_
  refine AF.done (by kernel_rfl) ?_
  refine PF.blockNormal (PF.next (CF.seq (CF.seq (CF.region (LF.step (OpOk.move rfl) ?_)))))
  refine LF.step (OpOk.not rfl) ?_
  refine LF.step (OpOk.move rfl) ?_
  refine LF.gstep rfl rfl (.t _) (fun hg => OpOk.move rfl) ?_
  refine LF.gstep rfl rfl (.t _) (fun hg => OpOk.eql (evg rfl hg) rfl) ?_
  refine LF.step (OpOk.pickAnd rfl rfl) ?_
  refine LF.nil (PF.next ?_)
  refine CF.if rfl (fun hc15 => ?_) (fun hc15 => ?_)
  exact absurd hc15 (by simp)
  refine CF.skip (PF.next (CF.seq (CF.seq (CF.region (LF.step (OpOk.move rfl) ?_)))))
  refine LF.step (OpOk.not rfl) ?_
  refine LF.nil (PF.next ?_)
  refine CF.if rfl (fun hc16 => ?_) (fun hc16 => ?_)
  exact absurd hc16 (by simp)
  refine CF.skip (PF.next (CF.seq (CF.seq (CF.region ?_))))
  refine LF.step (OpOk.ldBxA hb3 Try.agg40 Try.sz40 rfl rfl rfl) ?_
  refine LF.call (OpCall.fn Try.ent18 rfl rfl) (pMakes_ct hin p0) ?_
  rintro v187 H187 ⟨F187, x187, i187, k187, h187⟩
  have zk187 := k187.1
  replace hx := hx.trans x187 hkp.1
  replace hkp := hkp.trans (k187.mono hkp.1)
  have l187 := hkp.1
  replace ng3 := x187.no ng3 hb3.lt
  replace hb3 := hb3.kp k187
  replace ng4 := x187.no ng4 hb4.lt
  replace hb4 := hb4.kp k187
  replace p1 := (p1.ext x187).kp k187
  replace p2 := (p2.ext x187).kp k187
  have le0 := x187.1
  have hin := i187
  have h187q := rL.len2 h187
  refine LF.step (OpOk.lenL Try.underlying38 h187 rfl) ?_
  refine LF.step (OpOk.move rfl) (LF.nil (PF.next (CF.block ?_)))
  refine CF.loop (ι := Nat × List Int) (fun z9 H1 => z9.1 ≤ (makesM i).length ∧ setAllM regs (makesM i) ((doM (ix [2, 5, 8, 9, 10] (Int.toNat (i.Op - 18))) (getM regs i.A) i.Imm).1) = setAllM z9.2 ((makesM i).drop z9.1) ((doM (ix [2, 5, 8, 9, 10] (Int.toNat (i.Op - 18))) (getM regs i.A) i.Imm).1) ∧ z9.2.length = regs.length ∧ InH F187 H1 ∧ Kw (own2 a1 a2) H H1 ∧ Bx H1 g3 40 [.int .i64 i.Op, .int .i64 i.D, .int .i64 i.E, .int .i64 i.A, .int .i64 i.B, .int .i64 i.C, .int .i32 i.Imm, a0c7] ∧ Bx H1 g4 25 [a1] ∧ Gl (rI .i32) 21 F187 H1 B1 a1 z9.2 ∧ Gl (rI .i32) 21 F187 H1 B2 a2 mem) (fun z9 => [(6, .int .i32 0), (7, .bool false), (11, .func (.func 39) #[] #[.pointer (some ⟨g4, 0, none⟩)]), (12, .int .i32 ((doM (ix [2, 5, 8, 9, 10] (Int.toNat (i.Op - 18))) (getM regs i.A) i.Imm).1)), (187, v187), (188, .int .i64 (↑(List.length (makesM i)))), (189, .int .i64 (↑z9.1))]) (fun z9 => (makesM i).length - z9.1) (0, regs) ⟨by omega, rfl, rfl, hin, hkp, hb3, hb4, p1, p2⟩ ⟨rfl, rfl, rfl, rfl, rfl, rfl, eqI (by omega), trivial⟩ ?_
  clear hin hkp hb3 hb4 p1 p2
  rintro ⟨k, rs⟩ H1 ⟨hk, hR, hl9, hin, hkp, hb3, hb4, p1, p2⟩
  dsimp only at hk hR hl9 hb3 hb4 p1 p2 ⊢
  refine CF.seq (CF.region ?_)
  refine LF.step (OpOk.lss rfl rfl) ?_
  refine LF.nil (PF.next (CF.seq ?_))
  refine CF.if rfl (fun hc17 => ?_) (fun hc17 => ?_)
  refine CF.skip (PF.next (CF.seq (CF.block (CF.seq (CF.region ?_)))))
  refine LF.step (OpOk.idxL (i := k) Try.underlying38 Try.sz3 h187 rfl rfl rfl (by omega)) ?_
  refine LF.step (OpOk.ldI hin (rL.ix h187 k (by omega)) Try.one3 rfl) ?_
  refine LF.step (OpOk.assign rfl) (LF.nil (PF.next (CF.region (LF.step (OpOk.move rfl) (LF.step (OpOk.move rfl) (LF.step (OpOk.move rfl) ?_))))))
  refine LF.call (OpCall.fnc Try.ent39 rfl rfl) (pSet_ct hin (ix (makesM i) k) ((doM (ix [2, 5, 8, 9, 10] (Int.toNat (i.Op - 18))) (getM regs i.A) i.Imm).1) p1 hb4 (by first | omega | (simp only [setM_len, storeM_len]; omega)) w99_0) ?_
  rintro _ H196 ⟨rfl, k196, x196_2⟩
  have zk196 := k196.1
  replace hin := hin.kw k196 (by intro k0 hk0; exact p1.no k0 hk0)
  replace hb3 := hb3.kw k196 (p1.neBx hb3 (by decide))
  replace hb4 := hb4.kw k196 (p1.neBx hb4 (by decide))
  replace p2 := p2.kw k196 (app2_p1)
  replace hkp := hkp.kw k196 (by intro k0 hl; intro hk0; exact (.inl hk0))
  replace p1 := x196_2
  refine LF.nil (PF.blockNormal (PF.next (CF.region ?_)))
  refine LF.step (OpOk.add rfl rfl (by omega)) ?_
  refine LF.step (OpOk.move rfl) (LF.nil ?_)
  exact PF.again (k + 1, setM rs (ix (makesM i) k) ((doM (ix [2, 5, 8, 9, 10] (Int.toNat (i.Op - 18))) (getM regs i.A) i.Imm).1)) ⟨by dsimp only; omega, by dsimp only; rw [hR, drop_ix (by omega)]; rfl, by dsimp only; rw [setM_len]; exact hl9, hin, hkp, hb3, hb4, p1, p2⟩ ⟨rfl, rfl, rfl, rfl, rfl, rfl, eqI (by omega), trivial⟩ (by omega)
  refine CF.exit (PF.thenExit (PF.thenExit (PF.blockHere (PF.next (CF.seq (CF.region (LF.step (OpOk.assign rfl) (LF.step (OpOk.assign rfl) (LF.nil (PF.next (CF.ret ?_)))))))))))
  have hm : stepM i regs mem = ((0, true), rs, mem) := by
    have e1 := hR.symm
    rw [List.drop_of_length_le (by omega), setAllM_nil] at e1
    first | (have e2 : makesM i = [i.D] := (by unfold makesM; (repeat rw [if_neg (by omega)])); rw [e2] at e1; subst e1; unfold stepM; (repeat rw [if_neg (by omega)]) <;> (try rw [if_pos (by omega)]) <;> first | rfl | (simp [setAllM, *]; done) | (simp [setAllM, immOp, *]; done)) | (have e2 : makesM i = [] := (by unfold makesM; (repeat rw [if_neg (by omega)]) <;> (try rw [if_pos (by omega)])); rw [e2] at e1; subst e1; unfold stepM; (repeat rw [if_neg (by omega)]) <;> (try rw [if_pos (by omega)]) <;> first | rfl | (simp [setAllM, *]; done))
  exact PF.ret2 rfl rfl rfl ⟨by rw [hm], hkp, by rw [hm]; exact (p1.down (fun _ _ _ _ h => h) hx.1), by rw [hm]; exact (p2.down (fun _ _ _ _ h => h) hx.1)⟩
  refine CF.seq (CF.region ?_)
  refine LF.step (OpOk.fieldAddr (Try.fld40_0) rfl) ?_
  refine LF.step (OpOk.ldBx hb3 Try.one3 rfl rfl) ?_
  refine LF.step (OpOk.eql rfl rfl) ?_
  refine LF.step (OpOk.assign rfl) (LF.nil (PF.next ?_))
  refine CF.if rfl (fun hc18 => ?_) (fun hc18 => ?_)
  refine CF.region (LF.step (OpOk.move rfl) (LF.step (OpOk.move rfl) ?_))
  refine LF.step (OpOk.mulw rfl rfl rfl) ?_
  refine LF.step (OpOk.move rfl) ?_
  refine LF.step (OpOk.addw rfl rfl rfl) ?_
  refine LF.step (OpOk.assign rfl) (LF.nil (PF.blockNormal (PF.next (CF.seq (CF.seq (CF.region (LF.step (OpOk.move rfl) ?_)))))))
  refine LF.step (OpOk.not rfl) ?_
  refine LF.step (OpOk.move rfl) ?_
  refine LF.gstep rfl rfl (.t _) (fun hg => OpOk.move rfl) ?_
  refine LF.gstep rfl rfl (.t _) (fun hg => OpOk.eql (evg rfl hg) rfl) ?_
  refine LF.step (OpOk.pickAnd rfl rfl) ?_
  refine LF.nil (PF.next ?_)
  refine CF.if rfl (fun hc19 => ?_) (fun hc19 => ?_)
  exact absurd hc19 (by simp)
  refine CF.skip (PF.next (CF.seq (CF.seq (CF.region (LF.step (OpOk.move rfl) ?_)))))
  refine LF.step (OpOk.not rfl) ?_
  refine LF.nil (PF.next ?_)
  refine CF.if rfl (fun hc20 => ?_) (fun hc20 => ?_)
  exact absurd hc20 (by simp)
  refine CF.skip (PF.next (CF.seq (CF.seq (CF.region ?_))))
  refine LF.step (OpOk.ldBxA hb3 Try.agg40 Try.sz40 rfl rfl rfl) ?_
  refine LF.call (OpCall.fn Try.ent18 rfl rfl) (pMakes_ct hin p0) ?_
  rintro v187 H187 ⟨F187, x187, i187, k187, h187⟩
  have zk187 := k187.1
  replace hx := hx.trans x187 hkp.1
  replace hkp := hkp.trans (k187.mono hkp.1)
  have l187 := hkp.1
  replace ng3 := x187.no ng3 hb3.lt
  replace hb3 := hb3.kp k187
  replace ng4 := x187.no ng4 hb4.lt
  replace hb4 := hb4.kp k187
  replace p1 := (p1.ext x187).kp k187
  replace p2 := (p2.ext x187).kp k187
  have le0 := x187.1
  have hin := i187
  have h187q := rL.len2 h187
  refine LF.step (OpOk.lenL Try.underlying38 h187 rfl) ?_
  refine LF.step (OpOk.move rfl) (LF.nil (PF.next (CF.block ?_)))
  refine CF.loop (ι := Nat × List Int) (fun z9 H1 => z9.1 ≤ (makesM i).length ∧ setAllM regs (makesM i) (IntKind.i32.wrap ((IntKind.i32.wrap ((getM regs i.A) * (getM regs i.B))) + (getM regs i.C))) = setAllM z9.2 ((makesM i).drop z9.1) (IntKind.i32.wrap ((IntKind.i32.wrap ((getM regs i.A) * (getM regs i.B))) + (getM regs i.C))) ∧ z9.2.length = regs.length ∧ InH F187 H1 ∧ Kw (own2 a1 a2) H H1 ∧ Bx H1 g3 40 [.int .i64 i.Op, .int .i64 i.D, .int .i64 i.E, .int .i64 i.A, .int .i64 i.B, .int .i64 i.C, .int .i32 i.Imm, a0c7] ∧ Bx H1 g4 25 [a1] ∧ Gl (rI .i32) 21 F187 H1 B1 a1 z9.2 ∧ Gl (rI .i32) 21 F187 H1 B2 a2 mem) (fun z9 => [(6, .int .i32 0), (7, .bool false), (11, .func (.func 39) #[] #[.pointer (some ⟨g4, 0, none⟩)]), (12, .int .i32 (IntKind.i32.wrap ((IntKind.i32.wrap ((getM regs i.A) * (getM regs i.B))) + (getM regs i.C)))), (187, v187), (188, .int .i64 (↑(List.length (makesM i)))), (189, .int .i64 (↑z9.1))]) (fun z9 => (makesM i).length - z9.1) (0, regs) ⟨by omega, rfl, rfl, hin, hkp, hb3, hb4, p1, p2⟩ ⟨rfl, rfl, rfl, rfl, rfl, rfl, eqI (by omega), trivial⟩ ?_
  clear hin hkp hb3 hb4 p1 p2
  rintro ⟨k, rs⟩ H1 ⟨hk, hR, hl9, hin, hkp, hb3, hb4, p1, p2⟩
  dsimp only at hk hR hl9 hb3 hb4 p1 p2 ⊢
  refine CF.seq (CF.region ?_)
  refine LF.step (OpOk.lss rfl rfl) ?_
  refine LF.nil (PF.next (CF.seq ?_))
  refine CF.if rfl (fun hc21 => ?_) (fun hc21 => ?_)
  refine CF.skip (PF.next (CF.seq (CF.block (CF.seq (CF.region ?_)))))
  refine LF.step (OpOk.idxL (i := k) Try.underlying38 Try.sz3 h187 rfl rfl rfl (by omega)) ?_
  refine LF.step (OpOk.ldI hin (rL.ix h187 k (by omega)) Try.one3 rfl) ?_
  refine LF.step (OpOk.assign rfl) (LF.nil (PF.next (CF.region (LF.step (OpOk.move rfl) (LF.step (OpOk.move rfl) (LF.step (OpOk.move rfl) ?_))))))
  refine LF.call (OpCall.fnc Try.ent39 rfl rfl) (pSet_ct hin (ix (makesM i) k) (IntKind.i32.wrap ((IntKind.i32.wrap ((getM regs i.A) * (getM regs i.B))) + (getM regs i.C))) p1 hb4 (by first | omega | (simp only [setM_len, storeM_len]; omega)) (wrap_wrap _ _)) ?_
  rintro _ H196 ⟨rfl, k196, x196_2⟩
  have zk196 := k196.1
  replace hin := hin.kw k196 (by intro k0 hk0; exact p1.no k0 hk0)
  replace hb3 := hb3.kw k196 (p1.neBx hb3 (by decide))
  replace hb4 := hb4.kw k196 (p1.neBx hb4 (by decide))
  replace p2 := p2.kw k196 (app2_p1)
  replace hkp := hkp.kw k196 (by intro k0 hl; intro hk0; exact (.inl hk0))
  replace p1 := x196_2
  refine LF.nil (PF.blockNormal (PF.next (CF.region ?_)))
  refine LF.step (OpOk.add rfl rfl (by omega)) ?_
  refine LF.step (OpOk.move rfl) (LF.nil ?_)
  exact PF.again (k + 1, setM rs (ix (makesM i) k) (IntKind.i32.wrap ((IntKind.i32.wrap ((getM regs i.A) * (getM regs i.B))) + (getM regs i.C)))) ⟨by dsimp only; omega, by dsimp only; rw [hR, drop_ix (by omega)]; rfl, by dsimp only; rw [setM_len]; exact hl9, hin, hkp, hb3, hb4, p1, p2⟩ ⟨rfl, rfl, rfl, rfl, rfl, rfl, eqI (by omega), trivial⟩ (by omega)
  refine CF.exit (PF.thenExit (PF.thenExit (PF.blockHere (PF.next (CF.seq (CF.region (LF.step (OpOk.assign rfl) (LF.step (OpOk.assign rfl) (LF.nil (PF.next (CF.ret ?_)))))))))))
  have hm : stepM i regs mem = ((0, true), rs, mem) := by
    have e1 := hR.symm
    rw [List.drop_of_length_le (by omega), setAllM_nil] at e1
    first | (have e2 : makesM i = [i.D] := (by unfold makesM; (repeat rw [if_neg (by omega)])); rw [e2] at e1; subst e1; unfold stepM; (repeat rw [if_neg (by omega)]) <;> (try rw [if_pos (by omega)]) <;> first | rfl | (simp [setAllM, *]; done) | (simp [setAllM, immOp, *]; done)) | (have e2 : makesM i = [] := (by unfold makesM; (repeat rw [if_neg (by omega)]) <;> (try rw [if_pos (by omega)])); rw [e2] at e1; subst e1; unfold stepM; (repeat rw [if_neg (by omega)]) <;> (try rw [if_pos (by omega)]) <;> first | rfl | (simp [setAllM, *]; done))
  exact PF.ret2 rfl rfl rfl ⟨by rw [hm], hkp, by rw [hm]; exact (p1.down (fun _ _ _ _ h => h) hx.1), by rw [hm]; exact (p2.down (fun _ _ _ _ h => h) hx.1)⟩
  refine CF.seq (CF.region ?_)
  refine LF.step (OpOk.fieldAddr (Try.fld40_0) rfl) ?_
  refine LF.step (OpOk.ldBx hb3 Try.one3 rfl rfl) ?_
  refine LF.step (OpOk.eql rfl rfl) ?_
  refine LF.step (OpOk.assign rfl) (LF.nil (PF.next ?_))
  refine CF.if rfl (fun hc22 => ?_) (fun hc22 => ?_)
  refine CF.region (LF.step (OpOk.move rfl) (LF.step (OpOk.move rfl) ?_))
  refine LF.step (OpOk.fieldAddr (Try.fld40_6) rfl) ?_
  refine LF.step (OpOk.ldBx hb3 Try.one21 rfl rfl) ?_
  refine LF.step (OpOk.addw rfl rfl rfl) ?_
  refine LF.call (OpCall.fn Try.ent40 rfl rfl) (p2.temp 1073741824 hin (by first | (simp only [List.length_append, List.length_take, List.length_drop, List.length_nil, List.length_cons, List.length_set, List.length_replicate]; omega) | (simp; done) | (simp; omega) | omega) (fun G1 lg1 hin1 hr1 => pLoad_ct hin1 hr1 (IntKind.i32.wrap ((getM regs i.A) + i.Imm)) (wrap_wrap _ _))) ?_
  rintro _ _ ⟨rfl, rfl⟩
  have w121_0 : IntKind.i32.wrap ((loadM mem (IntKind.i32.wrap ((getM regs i.A) + i.Imm))).1) = (loadM mem (IntKind.i32.wrap ((getM regs i.A) + i.Imm))).1 := loadM_wrG p2 _
  refine LF.step (OpOk.move rfl) ?_
  refine LF.step (OpOk.extract (v := .int .i32 ((loadM mem (IntKind.i32.wrap ((getM regs i.A) + i.Imm))).1)) rfl rfl) ?_
  refine LF.step (OpOk.extract (v := .bool ((loadM mem (IntKind.i32.wrap ((getM regs i.A) + i.Imm))).2)) rfl rfl) ?_
  refine LF.step (OpOk.assign rfl) (LF.step (OpOk.assign rfl) (LF.nil (PF.blockNormal (PF.next (CF.seq (CF.seq (CF.region (LF.step (OpOk.move rfl) ?_))))))))
  refine LF.step (OpOk.not rfl) ?_
  refine LF.step (OpOk.move rfl) ?_
  refine LF.gstep rfl rfl (.t _) (fun hg => OpOk.move rfl) ?_
  refine LF.gstep rfl rfl (.t _) (fun hg => OpOk.eql (evg rfl hg) rfl) ?_
  refine LF.step (OpOk.pickAnd rfl rfl) ?_
  refine LF.nil (PF.next ?_)
  refine CF.if rfl (fun hc23 => ?_) (fun hc23 => ?_)
  refine CF.region (LF.step (OpOk.assign rfl) (LF.nil (PF.next (CF.seq (CF.seq (CF.region (LF.step (OpOk.move rfl) ?_)))))))
  refine LF.step (OpOk.not rfl) ?_
  refine LF.nil (PF.next ?_)
  refine CF.if rfl (fun hc24 => ?_) (fun hc24 => ?_)
  refine CF.seq (CF.region (LF.step (OpOk.move rfl) (LF.step (OpOk.assign rfl) (LF.step (OpOk.assign rfl) (LF.nil (PF.next (CF.ret (PF.thenRet ?_))))))))
  have hm : stepM i regs mem = (((-2), false), regs, mem) := by
    unfold stepM; (repeat rw [if_neg (by omega)]) <;> (try rw [if_pos (by omega)]) <;> first | rfl | (simp [*]; done) | (simp [immOp, *]; done) | (exfalso; (try simp at hc22); (try simp at hc23); (try simp at hc24); simp_all; done)
  exact PF.ret2 rfl rfl rfl ⟨by rw [hm], hkp, by rw [hm]; exact p1, by rw [hm]; exact p2⟩
  exact absurd hc24 (by simp [hc1, hc5, hc6, hc10, hc14, hc18, hc22, hc23])
  refine CF.skip (PF.next (CF.seq (CF.seq (CF.region (LF.step (OpOk.move rfl) ?_)))))
  refine LF.step (OpOk.not rfl) ?_
  refine LF.nil (PF.next ?_)
  refine CF.if rfl (fun hc25 => ?_) (fun hc25 => ?_)
  refine CF.seq (CF.region (LF.step (OpOk.move rfl) (LF.step (OpOk.assign rfl) (LF.step (OpOk.assign rfl) (LF.nil (PF.next (CF.ret (PF.thenRet ?_))))))))
  have hm : stepM i regs mem = ((0, false), regs, mem) := by
    unfold stepM; (repeat rw [if_neg (by omega)]) <;> (try rw [if_pos (by omega)]) <;> first | rfl | (simp [*]; done) | (simp [immOp, *]; done) | (exfalso; (try simp at hc22); (try simp at hc23); (try simp at hc25); simp_all; done)
  exact PF.ret2 rfl rfl rfl ⟨by rw [hm], hkp, by rw [hm]; exact p1, by rw [hm]; exact p2⟩
  refine CF.skip (PF.next (CF.seq (CF.seq (CF.region ?_))))
  refine LF.step (OpOk.ldBxA hb3 Try.agg40 Try.sz40 rfl rfl rfl) ?_
  refine LF.call (OpCall.fn Try.ent18 rfl rfl) (pMakes_ct hin p0) ?_
  rintro v187 H187 ⟨F187, x187, i187, k187, h187⟩
  have zk187 := k187.1
  replace hx := hx.trans x187 hkp.1
  replace hkp := hkp.trans (k187.mono hkp.1)
  have l187 := hkp.1
  replace ng3 := x187.no ng3 hb3.lt
  replace hb3 := hb3.kp k187
  replace ng4 := x187.no ng4 hb4.lt
  replace hb4 := hb4.kp k187
  replace p1 := (p1.ext x187).kp k187
  replace p2 := (p2.ext x187).kp k187
  have le0 := x187.1
  have hin := i187
  have h187q := rL.len2 h187
  refine LF.step (OpOk.lenL Try.underlying38 h187 rfl) ?_
  refine LF.step (OpOk.move rfl) (LF.nil (PF.next (CF.block ?_)))
  refine CF.loop (ι := Nat × List Int) (fun z9 H1 => z9.1 ≤ (makesM i).length ∧ setAllM regs (makesM i) ((loadM mem (IntKind.i32.wrap ((getM regs i.A) + i.Imm))).1) = setAllM z9.2 ((makesM i).drop z9.1) ((loadM mem (IntKind.i32.wrap ((getM regs i.A) + i.Imm))).1) ∧ z9.2.length = regs.length ∧ InH F187 H1 ∧ Kw (own2 a1 a2) H H1 ∧ Bx H1 g3 40 [.int .i64 i.Op, .int .i64 i.D, .int .i64 i.E, .int .i64 i.A, .int .i64 i.B, .int .i64 i.C, .int .i32 i.Imm, a0c7] ∧ Bx H1 g4 25 [a1] ∧ Gl (rI .i32) 21 F187 H1 B1 a1 z9.2 ∧ Gl (rI .i32) 21 F187 H1 B2 a2 mem) (fun z9 => [(6, .int .i32 0), (7, .bool false), (11, .func (.func 39) #[] #[.pointer (some ⟨g4, 0, none⟩)]), (12, .int .i32 ((loadM mem (IntKind.i32.wrap ((getM regs i.A) + i.Imm))).1)), (187, v187), (188, .int .i64 (↑(List.length (makesM i)))), (189, .int .i64 (↑z9.1))]) (fun z9 => (makesM i).length - z9.1) (0, regs) ⟨by omega, rfl, rfl, hin, hkp, hb3, hb4, p1, p2⟩ ⟨rfl, rfl, rfl, rfl, rfl, rfl, eqI (by omega), trivial⟩ ?_
  clear hin hkp hb3 hb4 p1 p2
  rintro ⟨k, rs⟩ H1 ⟨hk, hR, hl9, hin, hkp, hb3, hb4, p1, p2⟩
  dsimp only at hk hR hl9 hb3 hb4 p1 p2 ⊢
  refine CF.seq (CF.region ?_)
  refine LF.step (OpOk.lss rfl rfl) ?_
  refine LF.nil (PF.next (CF.seq ?_))
  refine CF.if rfl (fun hc26 => ?_) (fun hc26 => ?_)
  refine CF.skip (PF.next (CF.seq (CF.block (CF.seq (CF.region ?_)))))
  refine LF.step (OpOk.idxL (i := k) Try.underlying38 Try.sz3 h187 rfl rfl rfl (by omega)) ?_
  refine LF.step (OpOk.ldI hin (rL.ix h187 k (by omega)) Try.one3 rfl) ?_
  refine LF.step (OpOk.assign rfl) (LF.nil (PF.next (CF.region (LF.step (OpOk.move rfl) (LF.step (OpOk.move rfl) (LF.step (OpOk.move rfl) ?_))))))
  refine LF.call (OpCall.fnc Try.ent39 rfl rfl) (pSet_ct hin (ix (makesM i) k) ((loadM mem (IntKind.i32.wrap ((getM regs i.A) + i.Imm))).1) p1 hb4 (by first | omega | (simp only [setM_len, storeM_len]; omega)) w121_0) ?_
  rintro _ H196 ⟨rfl, k196, x196_2⟩
  have zk196 := k196.1
  replace hin := hin.kw k196 (by intro k0 hk0; exact p1.no k0 hk0)
  replace hb3 := hb3.kw k196 (p1.neBx hb3 (by decide))
  replace hb4 := hb4.kw k196 (p1.neBx hb4 (by decide))
  replace p2 := p2.kw k196 (app2_p1)
  replace hkp := hkp.kw k196 (by intro k0 hl; intro hk0; exact (.inl hk0))
  replace p1 := x196_2
  refine LF.nil (PF.blockNormal (PF.next (CF.region ?_)))
  refine LF.step (OpOk.add rfl rfl (by omega)) ?_
  refine LF.step (OpOk.move rfl) (LF.nil ?_)
  exact PF.again (k + 1, setM rs (ix (makesM i) k) ((loadM mem (IntKind.i32.wrap ((getM regs i.A) + i.Imm))).1)) ⟨by dsimp only; omega, by dsimp only; rw [hR, drop_ix (by omega)]; rfl, by dsimp only; rw [setM_len]; exact hl9, hin, hkp, hb3, hb4, p1, p2⟩ ⟨rfl, rfl, rfl, rfl, rfl, rfl, eqI (by omega), trivial⟩ (by omega)
  refine CF.exit (PF.thenExit (PF.thenExit (PF.blockHere (PF.next (CF.seq (CF.region (LF.step (OpOk.assign rfl) (LF.step (OpOk.assign rfl) (LF.nil (PF.next (CF.ret ?_)))))))))))
  have hm : stepM i regs mem = ((0, true), rs, mem) := by
    have e1 := hR.symm
    rw [List.drop_of_length_le (by omega), setAllM_nil] at e1
    first | (have e2 : makesM i = [i.D] := (by unfold makesM; (repeat rw [if_neg (by omega)])); rw [e2] at e1; subst e1; unfold stepM; (repeat rw [if_neg (by omega)]) <;> (try rw [if_pos (by omega)]) <;> first | rfl | (simp [setAllM, *]; done) | (simp [setAllM, immOp, *]; done)) | (have e2 : makesM i = [] := (by unfold makesM; (repeat rw [if_neg (by omega)]) <;> (try rw [if_pos (by omega)])); rw [e2] at e1; subst e1; unfold stepM; (repeat rw [if_neg (by omega)]) <;> (try rw [if_pos (by omega)]) <;> first | rfl | (simp [setAllM, *]; done))
  exact PF.ret2 rfl rfl rfl ⟨by rw [hm], hkp, by rw [hm]; exact (p1.down (fun _ _ _ _ h => h) hx.1), by rw [hm]; exact (p2.down (fun _ _ _ _ h => h) hx.1)⟩
  refine CF.seq (CF.region ?_)
  refine LF.step (OpOk.fieldAddr (Try.fld40_0) rfl) ?_
  refine LF.step (OpOk.ldBx hb3 Try.one3 rfl rfl) ?_
  refine LF.step (OpOk.eql rfl rfl) ?_
  refine LF.step (OpOk.assign rfl) (LF.nil (PF.next ?_))
  refine CF.if rfl (fun hc27 => ?_) (fun hc27 => ?_)
  refine CF.region (LF.step (OpOk.move rfl) (LF.step (OpOk.move rfl) (LF.step (OpOk.move rfl) ?_)))
  refine LF.step (OpOk.addw rfl rfl rfl) ?_
  refine LF.call (OpCall.fn Try.ent40 rfl rfl) (p2.temp 1073741824 hin (by first | (simp only [List.length_append, List.length_take, List.length_drop, List.length_nil, List.length_cons, List.length_set, List.length_replicate]; omega) | (simp; done) | (simp; omega) | omega) (fun G1 lg1 hin1 hr1 => pLoad_ct hin1 hr1 (IntKind.i32.wrap ((getM regs i.A) + (getM regs i.B))) (wrap_wrap _ _))) ?_
  rintro _ _ ⟨rfl, rfl⟩
  have w133_0 : IntKind.i32.wrap ((loadM mem (IntKind.i32.wrap ((getM regs i.A) + (getM regs i.B)))).1) = (loadM mem (IntKind.i32.wrap ((getM regs i.A) + (getM regs i.B)))).1 := loadM_wrG p2 _
  refine LF.step (OpOk.move rfl) ?_
  refine LF.step (OpOk.extract (v := .int .i32 ((loadM mem (IntKind.i32.wrap ((getM regs i.A) + (getM regs i.B)))).1)) rfl rfl) ?_
  refine LF.step (OpOk.extract (v := .bool ((loadM mem (IntKind.i32.wrap ((getM regs i.A) + (getM regs i.B)))).2)) rfl rfl) ?_
  refine LF.step (OpOk.assign rfl) (LF.step (OpOk.assign rfl) (LF.nil (PF.blockNormal (PF.next (CF.seq (CF.seq (CF.region (LF.step (OpOk.move rfl) ?_))))))))
  refine LF.step (OpOk.not rfl) ?_
  refine LF.step (OpOk.move rfl) ?_
  refine LF.gstep rfl rfl (.t _) (fun hg => OpOk.move rfl) ?_
  refine LF.gstep rfl rfl (.t _) (fun hg => OpOk.eql (evg rfl hg) rfl) ?_
  refine LF.step (OpOk.pickAnd rfl rfl) ?_
  refine LF.nil (PF.next ?_)
  refine CF.if rfl (fun hc28 => ?_) (fun hc28 => ?_)
  refine CF.region (LF.step (OpOk.assign rfl) (LF.nil (PF.next (CF.seq (CF.seq (CF.region (LF.step (OpOk.move rfl) ?_)))))))
  refine LF.step (OpOk.not rfl) ?_
  refine LF.nil (PF.next ?_)
  refine CF.if rfl (fun hc29 => ?_) (fun hc29 => ?_)
  refine CF.seq (CF.region (LF.step (OpOk.move rfl) (LF.step (OpOk.assign rfl) (LF.step (OpOk.assign rfl) (LF.nil (PF.next (CF.ret (PF.thenRet ?_))))))))
  have hm : stepM i regs mem = (((-2), false), regs, mem) := by
    unfold stepM; (repeat rw [if_neg (by omega)]) <;> (try rw [if_pos (by omega)]) <;> first | rfl | (simp [*]; done) | (simp [immOp, *]; done) | (exfalso; (try simp at hc27); (try simp at hc28); (try simp at hc29); simp_all; done)
  exact PF.ret2 rfl rfl rfl ⟨by rw [hm], hkp, by rw [hm]; exact p1, by rw [hm]; exact p2⟩
  exact absurd hc29 (by simp [hc1, hc5, hc6, hc10, hc14, hc18, hc22, hc27, hc28])
  refine CF.skip (PF.next (CF.seq (CF.seq (CF.region (LF.step (OpOk.move rfl) ?_)))))
  refine LF.step (OpOk.not rfl) ?_
  refine LF.nil (PF.next ?_)
  refine CF.if rfl (fun hc30 => ?_) (fun hc30 => ?_)
  refine CF.seq (CF.region (LF.step (OpOk.move rfl) (LF.step (OpOk.assign rfl) (LF.step (OpOk.assign rfl) (LF.nil (PF.next (CF.ret (PF.thenRet ?_))))))))
  have hm : stepM i regs mem = ((0, false), regs, mem) := by
    unfold stepM; (repeat rw [if_neg (by omega)]) <;> (try rw [if_pos (by omega)]) <;> first | rfl | (simp [*]; done) | (simp [immOp, *]; done) | (exfalso; (try simp at hc27); (try simp at hc28); (try simp at hc30); simp_all; done)
  exact PF.ret2 rfl rfl rfl ⟨by rw [hm], hkp, by rw [hm]; exact p1, by rw [hm]; exact p2⟩
  refine CF.skip (PF.next (CF.seq (CF.seq (CF.region ?_))))
  refine LF.step (OpOk.ldBxA hb3 Try.agg40 Try.sz40 rfl rfl rfl) ?_
  refine LF.call (OpCall.fn Try.ent18 rfl rfl) (pMakes_ct hin p0) ?_
  rintro v187 H187 ⟨F187, x187, i187, k187, h187⟩
  have zk187 := k187.1
  replace hx := hx.trans x187 hkp.1
  replace hkp := hkp.trans (k187.mono hkp.1)
  have l187 := hkp.1
  replace ng3 := x187.no ng3 hb3.lt
  replace hb3 := hb3.kp k187
  replace ng4 := x187.no ng4 hb4.lt
  replace hb4 := hb4.kp k187
  replace p1 := (p1.ext x187).kp k187
  replace p2 := (p2.ext x187).kp k187
  have le0 := x187.1
  have hin := i187
  have h187q := rL.len2 h187
  refine LF.step (OpOk.lenL Try.underlying38 h187 rfl) ?_
  refine LF.step (OpOk.move rfl) (LF.nil (PF.next (CF.block ?_)))
  refine CF.loop (ι := Nat × List Int) (fun z9 H1 => z9.1 ≤ (makesM i).length ∧ setAllM regs (makesM i) ((loadM mem (IntKind.i32.wrap ((getM regs i.A) + (getM regs i.B)))).1) = setAllM z9.2 ((makesM i).drop z9.1) ((loadM mem (IntKind.i32.wrap ((getM regs i.A) + (getM regs i.B)))).1) ∧ z9.2.length = regs.length ∧ InH F187 H1 ∧ Kw (own2 a1 a2) H H1 ∧ Bx H1 g3 40 [.int .i64 i.Op, .int .i64 i.D, .int .i64 i.E, .int .i64 i.A, .int .i64 i.B, .int .i64 i.C, .int .i32 i.Imm, a0c7] ∧ Bx H1 g4 25 [a1] ∧ Gl (rI .i32) 21 F187 H1 B1 a1 z9.2 ∧ Gl (rI .i32) 21 F187 H1 B2 a2 mem) (fun z9 => [(6, .int .i32 0), (7, .bool false), (11, .func (.func 39) #[] #[.pointer (some ⟨g4, 0, none⟩)]), (12, .int .i32 ((loadM mem (IntKind.i32.wrap ((getM regs i.A) + (getM regs i.B)))).1)), (187, v187), (188, .int .i64 (↑(List.length (makesM i)))), (189, .int .i64 (↑z9.1))]) (fun z9 => (makesM i).length - z9.1) (0, regs) ⟨by omega, rfl, rfl, hin, hkp, hb3, hb4, p1, p2⟩ ⟨rfl, rfl, rfl, rfl, rfl, rfl, eqI (by omega), trivial⟩ ?_
  clear hin hkp hb3 hb4 p1 p2
  rintro ⟨k, rs⟩ H1 ⟨hk, hR, hl9, hin, hkp, hb3, hb4, p1, p2⟩
  dsimp only at hk hR hl9 hb3 hb4 p1 p2 ⊢
  refine CF.seq (CF.region ?_)
  refine LF.step (OpOk.lss rfl rfl) ?_
  refine LF.nil (PF.next (CF.seq ?_))
  refine CF.if rfl (fun hc31 => ?_) (fun hc31 => ?_)
  refine CF.skip (PF.next (CF.seq (CF.block (CF.seq (CF.region ?_)))))
  refine LF.step (OpOk.idxL (i := k) Try.underlying38 Try.sz3 h187 rfl rfl rfl (by omega)) ?_
  refine LF.step (OpOk.ldI hin (rL.ix h187 k (by omega)) Try.one3 rfl) ?_
  refine LF.step (OpOk.assign rfl) (LF.nil (PF.next (CF.region (LF.step (OpOk.move rfl) (LF.step (OpOk.move rfl) (LF.step (OpOk.move rfl) ?_))))))
  refine LF.call (OpCall.fnc Try.ent39 rfl rfl) (pSet_ct hin (ix (makesM i) k) ((loadM mem (IntKind.i32.wrap ((getM regs i.A) + (getM regs i.B)))).1) p1 hb4 (by first | omega | (simp only [setM_len, storeM_len]; omega)) w133_0) ?_
  rintro _ H196 ⟨rfl, k196, x196_2⟩
  have zk196 := k196.1
  replace hin := hin.kw k196 (by intro k0 hk0; exact p1.no k0 hk0)
  replace hb3 := hb3.kw k196 (p1.neBx hb3 (by decide))
  replace hb4 := hb4.kw k196 (p1.neBx hb4 (by decide))
  replace p2 := p2.kw k196 (app2_p1)
  replace hkp := hkp.kw k196 (by intro k0 hl; intro hk0; exact (.inl hk0))
  replace p1 := x196_2
  refine LF.nil (PF.blockNormal (PF.next (CF.region ?_)))
  refine LF.step (OpOk.add rfl rfl (by omega)) ?_
  refine LF.step (OpOk.move rfl) (LF.nil ?_)
  exact PF.again (k + 1, setM rs (ix (makesM i) k) ((loadM mem (IntKind.i32.wrap ((getM regs i.A) + (getM regs i.B)))).1)) ⟨by dsimp only; omega, by dsimp only; rw [hR, drop_ix (by omega)]; rfl, by dsimp only; rw [setM_len]; exact hl9, hin, hkp, hb3, hb4, p1, p2⟩ ⟨rfl, rfl, rfl, rfl, rfl, rfl, eqI (by omega), trivial⟩ (by omega)
  refine CF.exit (PF.thenExit (PF.thenExit (PF.blockHere (PF.next (CF.seq (CF.region (LF.step (OpOk.assign rfl) (LF.step (OpOk.assign rfl) (LF.nil (PF.next (CF.ret ?_)))))))))))
  have hm : stepM i regs mem = ((0, true), rs, mem) := by
    have e1 := hR.symm
    rw [List.drop_of_length_le (by omega), setAllM_nil] at e1
    first | (have e2 : makesM i = [i.D] := (by unfold makesM; (repeat rw [if_neg (by omega)])); rw [e2] at e1; subst e1; unfold stepM; (repeat rw [if_neg (by omega)]) <;> (try rw [if_pos (by omega)]) <;> first | rfl | (simp [setAllM, *]; done) | (simp [setAllM, immOp, *]; done)) | (have e2 : makesM i = [] := (by unfold makesM; (repeat rw [if_neg (by omega)]) <;> (try rw [if_pos (by omega)])); rw [e2] at e1; subst e1; unfold stepM; (repeat rw [if_neg (by omega)]) <;> (try rw [if_pos (by omega)]) <;> first | rfl | (simp [setAllM, *]; done))
  exact PF.ret2 rfl rfl rfl ⟨by rw [hm], hkp, by rw [hm]; exact (p1.down (fun _ _ _ _ h => h) hx.1), by rw [hm]; exact (p2.down (fun _ _ _ _ h => h) hx.1)⟩
  refine CF.seq (CF.region ?_)
  refine LF.step (OpOk.fieldAddr (Try.fld40_0) rfl) ?_
  refine LF.step (OpOk.ldBx hb3 Try.one3 rfl rfl) ?_
  refine LF.step (OpOk.eql rfl rfl) ?_
  refine LF.step (OpOk.assign rfl) (LF.nil (PF.next ?_))
  refine CF.if rfl (fun hc32 => ?_) (fun hc32 => ?_)
  refine CF.region (LF.step (OpOk.move rfl) (LF.step (OpOk.move rfl) ?_))
  refine LF.step (OpOk.fieldAddr (Try.fld40_6) rfl) ?_
  refine LF.step (OpOk.ldBx hb3 Try.one21 rfl rfl) ?_
  refine LF.step (OpOk.addw rfl rfl rfl) ?_
  refine LF.step (OpOk.move rfl) ?_
  refine LF.call (OpCall.fn Try.ent41 rfl rfl) (pStore_ct hin p2 (IntKind.i32.wrap ((getM regs i.A) + i.Imm)) (getM regs i.B) (by first | omega | (simp only [setM_len, storeM_len]; omega)) (wrap_wrap _ _) w26_0) ?_
  rintro _ H146 ⟨rfl, k146, x146_0⟩
  have zk146 := k146.1
  replace hin := hin.kw k146 (by intro k0 hk0; exact p2.no k0 hk0)
  replace hb3 := hb3.kw k146 (p2.neBx hb3 (by decide))
  replace hb4 := hb4.kw k146 (p2.neBx hb4 (by decide))
  replace p1 := p1.kw k146 (app1_p2)
  replace hkp := hkp.kw k146 (by intro k0 hl; intro hk0; exact (.inr hk0))
  replace p2 := x146_0
  refine LF.step (OpOk.assign rfl) (LF.nil (PF.blockNormal (PF.next (CF.seq (CF.seq (CF.region (LF.step (OpOk.move rfl) ?_)))))))
  refine LF.step (OpOk.not rfl) ?_
  refine LF.step (OpOk.move rfl) ?_
  refine LF.gstep rfl rfl (.t _) (fun hg => OpOk.move rfl) ?_
  refine LF.gstep rfl rfl (.t _) (fun hg => OpOk.eql (evg rfl hg) rfl) ?_
  refine LF.step (OpOk.pickAnd rfl rfl) ?_
  refine LF.nil (PF.next ?_)
  refine CF.if rfl (fun hc33 => ?_) (fun hc33 => ?_)
  refine CF.region (LF.step (OpOk.assign rfl) (LF.nil (PF.next (CF.seq (CF.seq (CF.region (LF.step (OpOk.move rfl) ?_)))))))
  refine LF.step (OpOk.not rfl) ?_
  refine LF.nil (PF.next ?_)
  refine CF.if rfl (fun hc34 => ?_) (fun hc34 => ?_)
  refine CF.seq (CF.region (LF.step (OpOk.move rfl) (LF.step (OpOk.assign rfl) (LF.step (OpOk.assign rfl) (LF.nil (PF.next (CF.ret (PF.thenRet ?_))))))))
  have hm : stepM i regs mem = (((-2), false), regs, storeM mem (IntKind.i32.wrap ((getM regs i.A) + i.Imm)) (getM regs i.B)) := by
    unfold stepM; (repeat rw [if_neg (by omega)]) <;> (try rw [if_pos (by omega)]) <;> first | rfl | (simp [*]; done) | (simp [immOp, *]; done) | (exfalso; (try simp at hc32); (try simp at hc33); (try simp at hc34); simp_all; done)
  exact PF.ret2 rfl rfl rfl ⟨by rw [hm], hkp, by rw [hm]; exact p1, by rw [hm]; exact p2⟩
  exact absurd hc34 (by simp [hc1, hc5, hc6, hc10, hc14, hc18, hc22, hc27, hc32, hc33])
  refine CF.skip (PF.next (CF.seq (CF.seq (CF.region (LF.step (OpOk.move rfl) ?_)))))
  refine LF.step (OpOk.not rfl) ?_
  refine LF.nil (PF.next ?_)
  refine CF.if rfl (fun hc35 => ?_) (fun hc35 => ?_)
  refine CF.seq (CF.region (LF.step (OpOk.move rfl) (LF.step (OpOk.assign rfl) (LF.step (OpOk.assign rfl) (LF.nil (PF.next (CF.ret (PF.thenRet ?_))))))))
  have hm : stepM i regs mem = ((0, false), regs, storeM mem (IntKind.i32.wrap ((getM regs i.A) + i.Imm)) (getM regs i.B)) := by
    unfold stepM; (repeat rw [if_neg (by omega)]) <;> (try rw [if_pos (by omega)]) <;> first | rfl | (simp [*]; done) | (simp [immOp, *]; done) | (exfalso; (try simp at hc32); (try simp at hc33); (try simp at hc35); simp_all; done)
  exact PF.ret2 rfl rfl rfl ⟨by rw [hm], hkp, by rw [hm]; exact p1, by rw [hm]; exact p2⟩
  refine CF.skip (PF.next (CF.seq (CF.seq (CF.region ?_))))
  refine LF.step (OpOk.ldBxA hb3 Try.agg40 Try.sz40 rfl rfl rfl) ?_
  refine LF.call (OpCall.fn Try.ent18 rfl rfl) (pMakes_ct hin p0) ?_
  rintro v187 H187 ⟨F187, x187, i187, k187, h187⟩
  have zk187 := k187.1
  replace hx := hx.trans x187 hkp.1
  replace hkp := hkp.trans (k187.mono hkp.1)
  have l187 := hkp.1
  replace ng3 := x187.no ng3 hb3.lt
  replace hb3 := hb3.kp k187
  replace ng4 := x187.no ng4 hb4.lt
  replace hb4 := hb4.kp k187
  replace p1 := (p1.ext x187).kp k187
  replace p2 := (p2.ext x187).kp k187
  have le0 := x187.1
  have hin := i187
  have h187q := rL.len2 h187
  refine LF.step (OpOk.lenL Try.underlying38 h187 rfl) ?_
  refine LF.step (OpOk.move rfl) (LF.nil (PF.next (CF.block ?_)))
  refine CF.loop (ι := Nat × List Int) (fun z9 H1 => z9.1 ≤ (makesM i).length ∧ setAllM regs (makesM i) (getM regs i.A) = setAllM z9.2 ((makesM i).drop z9.1) (getM regs i.A) ∧ z9.2.length = regs.length ∧ InH F187 H1 ∧ Kw (own2 a1 a2) H H1 ∧ Bx H1 g3 40 [.int .i64 i.Op, .int .i64 i.D, .int .i64 i.E, .int .i64 i.A, .int .i64 i.B, .int .i64 i.C, .int .i32 i.Imm, a0c7] ∧ Bx H1 g4 25 [a1] ∧ Gl (rI .i32) 21 F187 H1 B1 a1 z9.2 ∧ Gl (rI .i32) 21 F187 H1 B2 a2 (storeM mem (IntKind.i32.wrap ((getM regs i.A) + i.Imm)) (getM regs i.B))) (fun z9 => [(6, .int .i32 0), (7, .bool false), (11, .func (.func 39) #[] #[.pointer (some ⟨g4, 0, none⟩)]), (12, .int .i32 (getM regs i.A)), (187, v187), (188, .int .i64 (↑(List.length (makesM i)))), (189, .int .i64 (↑z9.1))]) (fun z9 => (makesM i).length - z9.1) (0, regs) ⟨by omega, rfl, rfl, hin, hkp, hb3, hb4, p1, p2⟩ ⟨rfl, rfl, rfl, rfl, rfl, rfl, eqI (by omega), trivial⟩ ?_
  clear hin hkp hb3 hb4 p1 p2
  rintro ⟨k, rs⟩ H1 ⟨hk, hR, hl9, hin, hkp, hb3, hb4, p1, p2⟩
  dsimp only at hk hR hl9 hb3 hb4 p1 p2 ⊢
  refine CF.seq (CF.region ?_)
  refine LF.step (OpOk.lss rfl rfl) ?_
  refine LF.nil (PF.next (CF.seq ?_))
  refine CF.if rfl (fun hc36 => ?_) (fun hc36 => ?_)
  refine CF.skip (PF.next (CF.seq (CF.block (CF.seq (CF.region ?_)))))
  refine LF.step (OpOk.idxL (i := k) Try.underlying38 Try.sz3 h187 rfl rfl rfl (by omega)) ?_
  refine LF.step (OpOk.ldI hin (rL.ix h187 k (by omega)) Try.one3 rfl) ?_
  refine LF.step (OpOk.assign rfl) (LF.nil (PF.next (CF.region (LF.step (OpOk.move rfl) (LF.step (OpOk.move rfl) (LF.step (OpOk.move rfl) ?_))))))
  refine LF.call (OpCall.fnc Try.ent39 rfl rfl) (pSet_ct hin (ix (makesM i) k) (getM regs i.A) p1 hb4 (by first | omega | (simp only [setM_len, storeM_len]; omega)) w22_0) ?_
  rintro _ H196 ⟨rfl, k196, x196_2⟩
  have zk196 := k196.1
  replace hin := hin.kw k196 (by intro k0 hk0; exact p1.no k0 hk0)
  replace hb3 := hb3.kw k196 (p1.neBx hb3 (by decide))
  replace hb4 := hb4.kw k196 (p1.neBx hb4 (by decide))
  replace p2 := p2.kw k196 (app2_p1)
  replace hkp := hkp.kw k196 (by intro k0 hl; intro hk0; exact (.inl hk0))
  replace p1 := x196_2
  refine LF.nil (PF.blockNormal (PF.next (CF.region ?_)))
  refine LF.step (OpOk.add rfl rfl (by omega)) ?_
  refine LF.step (OpOk.move rfl) (LF.nil ?_)
  exact PF.again (k + 1, setM rs (ix (makesM i) k) (getM regs i.A)) ⟨by dsimp only; omega, by dsimp only; rw [hR, drop_ix (by omega)]; rfl, by dsimp only; rw [setM_len]; exact hl9, hin, hkp, hb3, hb4, p1, p2⟩ ⟨rfl, rfl, rfl, rfl, rfl, rfl, eqI (by omega), trivial⟩ (by omega)
  refine CF.exit (PF.thenExit (PF.thenExit (PF.blockHere (PF.next (CF.seq (CF.region (LF.step (OpOk.assign rfl) (LF.step (OpOk.assign rfl) (LF.nil (PF.next (CF.ret ?_)))))))))))
  have hm : stepM i regs mem = ((0, true), rs, storeM mem (IntKind.i32.wrap ((getM regs i.A) + i.Imm)) (getM regs i.B)) := by
    have e1 := hR.symm
    rw [List.drop_of_length_le (by omega), setAllM_nil] at e1
    first | (have e2 : makesM i = [i.D] := (by unfold makesM; (repeat rw [if_neg (by omega)])); rw [e2] at e1; subst e1; unfold stepM; (repeat rw [if_neg (by omega)]) <;> (try rw [if_pos (by omega)]) <;> first | rfl | (simp [setAllM, *]; done) | (simp [setAllM, immOp, *]; done)) | (have e2 : makesM i = [] := (by unfold makesM; (repeat rw [if_neg (by omega)]) <;> (try rw [if_pos (by omega)])); rw [e2] at e1; subst e1; unfold stepM; (repeat rw [if_neg (by omega)]) <;> (try rw [if_pos (by omega)]) <;> first | rfl | (simp [setAllM, *]; done))
  exact PF.ret2 rfl rfl rfl ⟨by rw [hm], hkp, by rw [hm]; exact (p1.down (fun _ _ _ _ h => h) hx.1), by rw [hm]; exact (p2.down (fun _ _ _ _ h => h) hx.1)⟩
  refine CF.seq (CF.region ?_)
  refine LF.step (OpOk.fieldAddr (Try.fld40_0) rfl) ?_
  refine LF.step (OpOk.ldBx hb3 Try.one3 rfl rfl) ?_
  refine LF.step (OpOk.eql rfl rfl) ?_
  refine LF.step (OpOk.assign rfl) (LF.nil (PF.next ?_))
  refine CF.if rfl (fun hc37 => ?_) (fun hc37 => ?_)
  refine CF.region (LF.step (OpOk.move rfl) (LF.step (OpOk.move rfl) (LF.step (OpOk.move rfl) ?_)))
  refine LF.step (OpOk.addw rfl rfl rfl) ?_
  refine LF.step (OpOk.move rfl) ?_
  refine LF.call (OpCall.fn Try.ent41 rfl rfl) (pStore_ct hin p2 (IntKind.i32.wrap ((getM regs i.A) + (getM regs i.B))) (getM regs i.C) (by first | omega | (simp only [setM_len, storeM_len]; omega)) (wrap_wrap _ _) w30_0) ?_
  rintro _ H156 ⟨rfl, k156, x156_0⟩
  have zk156 := k156.1
  replace hin := hin.kw k156 (by intro k0 hk0; exact p2.no k0 hk0)
  replace hb3 := hb3.kw k156 (p2.neBx hb3 (by decide))
  replace hb4 := hb4.kw k156 (p2.neBx hb4 (by decide))
  replace p1 := p1.kw k156 (app1_p2)
  replace hkp := hkp.kw k156 (by intro k0 hl; intro hk0; exact (.inr hk0))
  replace p2 := x156_0
  refine LF.step (OpOk.assign rfl) (LF.nil (PF.blockNormal (PF.next (CF.seq (CF.seq (CF.region (LF.step (OpOk.move rfl) ?_)))))))
  refine LF.step (OpOk.not rfl) ?_
  refine LF.step (OpOk.move rfl) ?_
  refine LF.gstep rfl rfl (.t _) (fun hg => OpOk.move rfl) ?_
  refine LF.gstep rfl rfl (.t _) (fun hg => OpOk.eql (evg rfl hg) rfl) ?_
  refine LF.step (OpOk.pickAnd rfl rfl) ?_
  refine LF.nil (PF.next ?_)
  refine CF.if rfl (fun hc38 => ?_) (fun hc38 => ?_)
  refine CF.region (LF.step (OpOk.assign rfl) (LF.nil (PF.next (CF.seq (CF.seq (CF.region (LF.step (OpOk.move rfl) ?_)))))))
  refine LF.step (OpOk.not rfl) ?_
  refine LF.nil (PF.next ?_)
  refine CF.if rfl (fun hc39 => ?_) (fun hc39 => ?_)
  refine CF.seq (CF.region (LF.step (OpOk.move rfl) (LF.step (OpOk.assign rfl) (LF.step (OpOk.assign rfl) (LF.nil (PF.next (CF.ret (PF.thenRet ?_))))))))
  have hm : stepM i regs mem = (((-2), false), regs, storeM mem (IntKind.i32.wrap ((getM regs i.A) + (getM regs i.B))) (getM regs i.C)) := by
    unfold stepM; (repeat rw [if_neg (by omega)]) <;> (try rw [if_pos (by omega)]) <;> first | rfl | (simp [*]; done) | (simp [immOp, *]; done) | (exfalso; (try simp at hc37); (try simp at hc38); (try simp at hc39); simp_all; done)
  exact PF.ret2 rfl rfl rfl ⟨by rw [hm], hkp, by rw [hm]; exact p1, by rw [hm]; exact p2⟩
  exact absurd hc39 (by simp [hc1, hc5, hc6, hc10, hc14, hc18, hc22, hc27, hc32, hc37, hc38])
  refine CF.skip (PF.next (CF.seq (CF.seq (CF.region (LF.step (OpOk.move rfl) ?_)))))
  refine LF.step (OpOk.not rfl) ?_
  refine LF.nil (PF.next ?_)
  refine CF.if rfl (fun hc40 => ?_) (fun hc40 => ?_)
  refine CF.seq (CF.region (LF.step (OpOk.move rfl) (LF.step (OpOk.assign rfl) (LF.step (OpOk.assign rfl) (LF.nil (PF.next (CF.ret (PF.thenRet ?_))))))))
  have hm : stepM i regs mem = ((0, false), regs, storeM mem (IntKind.i32.wrap ((getM regs i.A) + (getM regs i.B))) (getM regs i.C)) := by
    unfold stepM; (repeat rw [if_neg (by omega)]) <;> (try rw [if_pos (by omega)]) <;> first | rfl | (simp [*]; done) | (simp [immOp, *]; done) | (exfalso; (try simp at hc37); (try simp at hc38); (try simp at hc40); simp_all; done)
  exact PF.ret2 rfl rfl rfl ⟨by rw [hm], hkp, by rw [hm]; exact p1, by rw [hm]; exact p2⟩
  refine CF.skip (PF.next (CF.seq (CF.seq (CF.region ?_))))
  refine LF.step (OpOk.ldBxA hb3 Try.agg40 Try.sz40 rfl rfl rfl) ?_
  refine LF.call (OpCall.fn Try.ent18 rfl rfl) (pMakes_ct hin p0) ?_
  rintro v187 H187 ⟨F187, x187, i187, k187, h187⟩
  have zk187 := k187.1
  replace hx := hx.trans x187 hkp.1
  replace hkp := hkp.trans (k187.mono hkp.1)
  have l187 := hkp.1
  replace ng3 := x187.no ng3 hb3.lt
  replace hb3 := hb3.kp k187
  replace ng4 := x187.no ng4 hb4.lt
  replace hb4 := hb4.kp k187
  replace p1 := (p1.ext x187).kp k187
  replace p2 := (p2.ext x187).kp k187
  have le0 := x187.1
  have hin := i187
  have h187q := rL.len2 h187
  refine LF.step (OpOk.lenL Try.underlying38 h187 rfl) ?_
  refine LF.step (OpOk.move rfl) (LF.nil (PF.next (CF.block ?_)))
  refine CF.loop (ι := Nat × List Int) (fun z9 H1 => z9.1 ≤ (makesM i).length ∧ setAllM regs (makesM i) (getM regs i.A) = setAllM z9.2 ((makesM i).drop z9.1) (getM regs i.A) ∧ z9.2.length = regs.length ∧ InH F187 H1 ∧ Kw (own2 a1 a2) H H1 ∧ Bx H1 g3 40 [.int .i64 i.Op, .int .i64 i.D, .int .i64 i.E, .int .i64 i.A, .int .i64 i.B, .int .i64 i.C, .int .i32 i.Imm, a0c7] ∧ Bx H1 g4 25 [a1] ∧ Gl (rI .i32) 21 F187 H1 B1 a1 z9.2 ∧ Gl (rI .i32) 21 F187 H1 B2 a2 (storeM mem (IntKind.i32.wrap ((getM regs i.A) + (getM regs i.B))) (getM regs i.C))) (fun z9 => [(6, .int .i32 0), (7, .bool false), (11, .func (.func 39) #[] #[.pointer (some ⟨g4, 0, none⟩)]), (12, .int .i32 (getM regs i.A)), (187, v187), (188, .int .i64 (↑(List.length (makesM i)))), (189, .int .i64 (↑z9.1))]) (fun z9 => (makesM i).length - z9.1) (0, regs) ⟨by omega, rfl, rfl, hin, hkp, hb3, hb4, p1, p2⟩ ⟨rfl, rfl, rfl, rfl, rfl, rfl, eqI (by omega), trivial⟩ ?_
  clear hin hkp hb3 hb4 p1 p2
  rintro ⟨k, rs⟩ H1 ⟨hk, hR, hl9, hin, hkp, hb3, hb4, p1, p2⟩
  dsimp only at hk hR hl9 hb3 hb4 p1 p2 ⊢
  refine CF.seq (CF.region ?_)
  refine LF.step (OpOk.lss rfl rfl) ?_
  refine LF.nil (PF.next (CF.seq ?_))
  refine CF.if rfl (fun hc41 => ?_) (fun hc41 => ?_)
  refine CF.skip (PF.next (CF.seq (CF.block (CF.seq (CF.region ?_)))))
  refine LF.step (OpOk.idxL (i := k) Try.underlying38 Try.sz3 h187 rfl rfl rfl (by omega)) ?_
  refine LF.step (OpOk.ldI hin (rL.ix h187 k (by omega)) Try.one3 rfl) ?_
  refine LF.step (OpOk.assign rfl) (LF.nil (PF.next (CF.region (LF.step (OpOk.move rfl) (LF.step (OpOk.move rfl) (LF.step (OpOk.move rfl) ?_))))))
  refine LF.call (OpCall.fnc Try.ent39 rfl rfl) (pSet_ct hin (ix (makesM i) k) (getM regs i.A) p1 hb4 (by first | omega | (simp only [setM_len, storeM_len]; omega)) w22_0) ?_
  rintro _ H196 ⟨rfl, k196, x196_2⟩
  have zk196 := k196.1
  replace hin := hin.kw k196 (by intro k0 hk0; exact p1.no k0 hk0)
  replace hb3 := hb3.kw k196 (p1.neBx hb3 (by decide))
  replace hb4 := hb4.kw k196 (p1.neBx hb4 (by decide))
  replace p2 := p2.kw k196 (app2_p1)
  replace hkp := hkp.kw k196 (by intro k0 hl; intro hk0; exact (.inl hk0))
  replace p1 := x196_2
  refine LF.nil (PF.blockNormal (PF.next (CF.region ?_)))
  refine LF.step (OpOk.add rfl rfl (by omega)) ?_
  refine LF.step (OpOk.move rfl) (LF.nil ?_)
  exact PF.again (k + 1, setM rs (ix (makesM i) k) (getM regs i.A)) ⟨by dsimp only; omega, by dsimp only; rw [hR, drop_ix (by omega)]; rfl, by dsimp only; rw [setM_len]; exact hl9, hin, hkp, hb3, hb4, p1, p2⟩ ⟨rfl, rfl, rfl, rfl, rfl, rfl, eqI (by omega), trivial⟩ (by omega)
  refine CF.exit (PF.thenExit (PF.thenExit (PF.blockHere (PF.next (CF.seq (CF.region (LF.step (OpOk.assign rfl) (LF.step (OpOk.assign rfl) (LF.nil (PF.next (CF.ret ?_)))))))))))
  have hm : stepM i regs mem = ((0, true), rs, storeM mem (IntKind.i32.wrap ((getM regs i.A) + (getM regs i.B))) (getM regs i.C)) := by
    have e1 := hR.symm
    rw [List.drop_of_length_le (by omega), setAllM_nil] at e1
    first | (have e2 : makesM i = [i.D] := (by unfold makesM; (repeat rw [if_neg (by omega)])); rw [e2] at e1; subst e1; unfold stepM; (repeat rw [if_neg (by omega)]) <;> (try rw [if_pos (by omega)]) <;> first | rfl | (simp [setAllM, *]; done) | (simp [setAllM, immOp, *]; done)) | (have e2 : makesM i = [] := (by unfold makesM; (repeat rw [if_neg (by omega)]) <;> (try rw [if_pos (by omega)])); rw [e2] at e1; subst e1; unfold stepM; (repeat rw [if_neg (by omega)]) <;> (try rw [if_pos (by omega)]) <;> first | rfl | (simp [setAllM, *]; done))
  exact PF.ret2 rfl rfl rfl ⟨by rw [hm], hkp, by rw [hm]; exact (p1.down (fun _ _ _ _ h => h) hx.1), by rw [hm]; exact (p2.down (fun _ _ _ _ h => h) hx.1)⟩
  refine CF.seq (CF.region ?_)
  refine LF.step (OpOk.fieldAddr (Try.fld40_0) rfl) ?_
  refine LF.step (OpOk.ldBx hb3 Try.one3 rfl rfl) ?_
  refine LF.step (OpOk.eql rfl rfl) ?_
  refine LF.step (OpOk.assign rfl) (LF.nil (PF.next ?_))
  refine CF.if rfl (fun hc42 => ?_) (fun hc42 => ?_)
  refine CF.seq (CF.region (LF.step (OpOk.move rfl) (LF.step (OpOk.move rfl) ?_)))
  refine LF.call (OpCall.fn Try.ent22 rfl rfl) (wWide_ct hin (getM regs i.A) (getM regs i.B) w22_0 w26_0) ?_
  rintro _ _ ⟨rfl, rfl⟩
  have w164_0 : IntKind.i32.wrap ((wideM (getM regs i.A) (getM regs i.B)).1) = (wideM (getM regs i.A) (getM regs i.B)).1 := wrap_wrap _ _
  have w164_1 : IntKind.i32.wrap ((wideM (getM regs i.A) (getM regs i.B)).2) = (wideM (getM regs i.A) (getM regs i.B)).2 := wrap_wrap _ _
  refine LF.step (OpOk.move rfl) ?_
  refine LF.step (OpOk.extract (v := .int .i32 ((wideM (getM regs i.A) (getM regs i.B)).1)) rfl rfl) ?_
  refine LF.step (OpOk.extract (v := .int .i32 ((wideM (getM regs i.A) (getM regs i.B)).2)) rfl rfl) ?_
  refine LF.step (OpOk.assign rfl) (LF.step (OpOk.assign rfl) (LF.nil (PF.next (CF.seq (CF.region (LF.step (OpOk.move rfl) ?_))))))
  refine LF.step (OpOk.fieldAddr (Try.fld40_1) rfl) ?_
  refine LF.step (OpOk.ldBx hb3 Try.one3 rfl rfl) ?_
  refine LF.step (OpOk.move rfl) ?_
  refine LF.call (OpCall.fnc Try.ent39 rfl rfl) (pSet_ct hin i.D ((wideM (getM regs i.A) (getM regs i.B)).1) p1 hb4 (by first | omega | (simp only [setM_len, storeM_len]; omega)) w164_0) ?_
  rintro _ H171 ⟨rfl, k171, x171_2⟩
  have zk171 := k171.1
  replace hin := hin.kw k171 (by intro k0 hk0; exact p1.no k0 hk0)
  replace hb3 := hb3.kw k171 (p1.neBx hb3 (by decide))
  replace hb4 := hb4.kw k171 (p1.neBx hb4 (by decide))
  replace p2 := p2.kw k171 (app2_p1)
  replace hkp := hkp.kw k171 (by intro k0 hl; intro hk0; exact (.inl hk0))
  replace p1 := x171_2
  refine LF.nil (PF.next (CF.seq (CF.region (LF.step (OpOk.move rfl) ?_))))
  refine LF.step (OpOk.fieldAddr (Try.fld40_2) rfl) ?_
  refine LF.step (OpOk.ldBx hb3 Try.one3 rfl rfl) ?_
  refine LF.step (OpOk.move rfl) ?_
  refine LF.call (OpCall.fnc Try.ent39 rfl rfl) (pSet_ct hin i.E ((wideM (getM regs i.A) (getM regs i.B)).2) p1 hb4 (by first | omega | (simp only [setM_len, storeM_len]; omega)) w164_1) ?_
  rintro _ H176 ⟨rfl, k176, x176_2⟩
  have zk176 := k176.1
  replace hin := hin.kw k176 (by intro k0 hk0; exact p1.no k0 hk0)
  replace hb3 := hb3.kw k176 (p1.neBx hb3 (by decide))
  replace hb4 := hb4.kw k176 (p1.neBx hb4 (by decide))
  replace p2 := p2.kw k176 (app2_p1)
  replace hkp := hkp.kw k176 (by intro k0 hl; intro hk0; exact (.inl hk0))
  replace p1 := x176_2
  refine LF.nil (PF.next (CF.seq (CF.region (LF.step (OpOk.assign rfl) (LF.step (OpOk.assign rfl) (LF.nil (PF.next (CF.ret (PF.blockRet (PF.thenRet ?_))))))))))
  have hm : stepM i regs mem = ((0, true), setM (setM regs i.D ((wideM (getM regs i.A) (getM regs i.B)).1)) i.E ((wideM (getM regs i.A) (getM regs i.B)).2), mem) := by
    unfold stepM; (repeat rw [if_neg (by omega)]) <;> (try rw [if_pos (by omega)]) <;> first | rfl | (simp [*]; done) | (simp [immOp, *]; done) | (exfalso; (try simp at hc32); (try simp at hc37); (try simp at hc42); simp_all; done)
  exact PF.ret2 rfl rfl rfl ⟨by rw [hm], hkp, by rw [hm]; exact p1, by rw [hm]; exact p2⟩
  refine CF.seq (CF.region (LF.step (OpOk.assign rfl) (LF.step (OpOk.assign rfl) (LF.nil (PF.next (CF.ret (PF.blockRet (PF.thenRet ?_))))))))
  have hm : stepM i regs mem = ((0, true), regs, mem) := by
    unfold stepM; (repeat rw [if_neg (by omega)]) <;> (try rw [if_pos (by omega)]) <;> first | rfl | (simp [*]; done) | (simp [immOp, *]; done) | (exfalso; (try simp at hc32); (try simp at hc37); (try simp at hc42); simp_all; done)
  exact PF.ret2 rfl rfl rfl ⟨by rw [hm], hkp, by rw [hm]; exact p1, by rw [hm]; exact p2⟩

end Go.Proofs.Ytehibklogdngbaa
