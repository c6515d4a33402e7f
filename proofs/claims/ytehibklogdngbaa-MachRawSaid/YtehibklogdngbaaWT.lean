/- Walks. Conditions: each contract names its own. -/
import Derived.Test.YtehibklogdngbaaWI
namespace Go.Proofs.Ytehibklogdngbaa
set_option linter.unusedVariables false
set_option linter.unusedSimpArgs false
set_option linter.unusedSectionVars false
open Go.JE


/- ---------------------------------------------- what is handed in, cut -/
def fewM (i : D.Mach) : D.Mach := ⟨i.Op, i.D, i.E, i.A, i.B, i.C, i.Imm, i.Args.take 7⟩
def someM (l : List Int) : List Int := l.take 20
theorem someM_len (l : List Int) : (someM l).length ≤ 20 := by unfold someM; rw [List.length_take]; omega
theorem any_snoc {α : Type} [Inhabited α] {l : List α} {q : α → Bool} {k : Nat} (hk : k < l.length) : (l.take (k + 1)).any q = ((l.take k).any q || q (ix l k)) := by rw [take_ix hk, List.any_append]; simp

-- jacquard/jacquardlaw07.few: function 16
theorem few_ct {F : PH} {H : Heap} (hin : InH F H) {a0 : Value} {i : D.Mach} {N0 : Nat} (p0 : (rMachN N0).ra F a0 i) :
    Ct Try.prog 16 #[a0] H (fun v H' => ∃ F', PH.ext H F F' ∧ InH F' H' ∧ Kp H.size H H' ∧ rMach.ra F' v (fewM i)) := by
  have p0k := rMach.any p0
  obtain ⟨a0c7, rfl, p0c7⟩ := rMach.open p0
  have p0c7q := rL.len2 p0c7
  have hkp := Kp.refl H.size H
  have hx := PH.ext.refl (H := H) F
  refine Ct.enter (args := [.agg #[.int .i64 i.Op, .int .i64 i.D, .int .i64 i.E, .int .i64 i.A, .int .i64 i.B, .int .i64 i.C, .int .i32 i.Imm, a0c7]]) Try.func16 rfl rfl rfl (fun w0 hw0 => ?_)
  refine CF.seq (CF.region ?_)
  refine LF.chg (OpCh.boxB rfl rfl) ?_
  rintro _ H1 ⟨g1, rfl, eg1, sg1, kg1, hb1⟩
  have ng1 := hin.nope (Nat.le_of_eq eg1.symm)
  have lg1 := hkp.1
  have zkg1 := kg1.1
  replace hin := hin.kp kg1
  replace hkp := hkp.trans (kg1.mono hkp.1)
  clear kg1
  refine LF.chg (OpCh.allocB Try.zero40 rfl) ?_
  rintro _ H2 ⟨g2, rfl, eg2, sg2, kg2, hb2⟩
  have ng2 := hin.nope (Nat.le_of_eq eg2.symm)
  have lg2 := hkp.1
  have nb2_1 : g1 ≠ g2 := by have := hb1.lt; omega
  have zkg2 := kg2.1
  replace hin := hin.kp kg2
  replace hkp := hkp.trans (kg2.mono hkp.1)
  replace hb1 := hb1.kp kg2
  clear kg2
  refine LF.nil (PF.next (CF.seq (CF.region ?_)))
  refine LF.chg (OpCh.litL (F := F) (r := (rI .i64)) (l := []) (us := []) (cs := []) Try.underlying38 Try.info3 (by decide) rfl rfl rfl trivial) ?_
  rintro _ H3 ⟨g3, rfl, e3, s3, k3, x3⟩
  have l3 := hkp.1
  replace x3 := (x3 hin).base l3
  have zk3 := k3.1
  replace hin := hin.kp k3
  replace hkp := hkp.trans (k3.mono hkp.1)
  replace hb1 := hb1.kp k3
  replace hb2 := hb2.kp k3
  refine LF.step (OpOk.fieldAddr (Try.fld40_7) rfl) ?_
  refine LF.step (OpOk.ldBx hb1 Try.one38 rfl rfl) ?_
  refine LF.step (OpOk.fieldAddr (Try.fld40_7) rfl) ?_
  refine LF.step (OpOk.ldBx hb1 Try.one38 rfl rfl) ?_
  refine LF.step (OpOk.lenL Try.underlying38 p0c7 rfl) ?_
  refine LF.step (OpOk.min3 rfl rfl) ?_
  refine LF.step (OpOk.sliceHiL (hi := (Int.toNat (min (↑(List.length i.Args)) 7))) Try.underlying38 Try.sz3 p0c7 hin rfl rfl (by omega) (by omega)) ?_
  refine LF.chg (OpCh.appL (r := (rI .i64)) Try.underlying38 Try.info3 (by decide) rfl rfl rfl x3 (rL.hi p0c7 (Int.toNat (min (↑(List.length i.Args)) 7)) (by omega) (by omega)) hin (by first | (simp only [List.length_append, List.length_take, List.length_drop, List.length_nil, List.length_cons, List.length_set, List.length_replicate]; omega) | (simp; done) | (simp; omega) | omega) (by omega)) ?_
  rintro v11 H11 ⟨x11, gb11, ob11⟩
  replace hin := hin.grown gb11 x3.no
  replace hkp := gb11.kp hkp (Nat.le_refl _) (fun k0 hk0 => (x3.blk k0 hk0).1)
  replace hb1 := hb1.of (gb11.2 _ hb1.lt (Ne.symm (by first | exact x3.neBx hb1 (by decide) | exact nq3_1)))
  replace hb2 := hb2.of (gb11.2 _ hb2.lt (Ne.symm (by first | exact x3.neBx hb2 (by decide) | exact nq3_2)))
  rw [List.nil_append] at x11
  refine LF.step (OpOk.fieldAddr (Try.fld40_7) rfl) ?_
  refine LF.chg0 (OpCh.storeB hb1 Try.sz38 rfl rfl x11.one1 (by first | decide | (simp; done))) ?_
  rintro _ Hw1 ⟨tw1, bw1⟩
  have ztw1 := tw1.1
  replace hin := hin.tw tw1 ng1
  replace hkp := Tw.kp' hkp tw1 (by omega)
  replace hb2 := hb2.tw tw1 (by first | omega | assumption | exact Ne.symm (by assumption))
  replace x11 := x11.tw tw1 (x11.neBx hb1 (by decide))
  replace hb1 : Bx _ _ _ [.int .i64 i.Op, .int .i64 i.D, .int .i64 i.E, .int .i64 i.A, .int .i64 i.B, .int .i64 i.C, .int .i32 i.Imm, v11] := bw1
  clear bw1 tw1
  refine LF.nil (PF.next (CF.seq (CF.region ?_)))
  refine LF.step (OpOk.ldBxA hb1 Try.agg40 Try.sz40 rfl rfl rfl) ?_
  refine LF.chg0 (OpCh.storeBA hb2 Try.sz40 rfl rfl rfl (allOne.mem (l := [.int .i64 i.Op, .int .i64 i.D, .int .i64 i.E, .int .i64 i.A, .int .i64 i.B, .int .i64 i.C, .int .i32 i.Imm, v11]) ⟨rfl, rfl, rfl, rfl, rfl, rfl, rfl, x11.one1, trivial⟩) (by decide)) ?_
  rintro _ Hw2 ⟨tw2, bw2⟩
  have ztw2 := tw2.1
  replace hin := hin.tw tw2 ng2
  replace hkp := Tw.kp' hkp tw2 (by omega)
  replace hb1 := hb1.tw tw2 (by first | omega | assumption | exact Ne.symm (by assumption))
  replace x11 := x11.tw tw2 (x11.neBx hb2 (by decide))
  replace hb2 : Bx _ _ _ [.int .i64 i.Op, .int .i64 i.D, .int .i64 i.E, .int .i64 i.A, .int .i64 i.B, .int .i64 i.C, .int .i32 i.Imm, v11] := bw2
  clear bw2 tw2
  refine LF.nil (PF.next (CF.ret ?_))
  obtain ⟨Fz3, hxz3, lez3, hinz3, noz3, hrz3⟩ := x11.freezeX hin hx (Nat.le_refl _) (by first | (simp only [List.length_append, List.length_take, List.length_drop, List.length_nil, List.length_cons, List.length_set, List.length_replicate]; omega) | (simp; done) | (simp; omega) | omega)
  replace hin := hinz3
  replace hx := hxz3
  have le0 := lez3
  replace ng1 := (noz3 _ (x11.neBx hb1 (by decide))).trans ng1
  replace ng2 := (noz3 _ (x11.neBx hb2 (by decide))).trans ng2
  have hm : fewM i = (⟨i.Op, i.D, i.E, i.A, i.B, i.C, i.Imm, List.take (Int.toNat (min (((List.length i.Args : Nat) : Int)) 7)) i.Args⟩) := by
    unfold fewM; congr 1; exact take_min _ 7 _ rfl
  exact PF.retC rfl rfl hb2 Try.agg40 Try.sz40 ⟨_, hx, hin, hkp, by rw [hm]; exact (rMach.mk (m := ⟨i.Op, i.D, i.E, i.A, i.B, i.C, i.Imm, List.take (Int.toNat (min (↑(List.length i.Args)) 7)) i.Args⟩) hrz3 (rMach.w_Op (m := i) p0k) (rMach.w_D (m := i) p0k) (rMach.w_E (m := i) p0k) (rMach.w_A (m := i) p0k) (rMach.w_B (m := i) p0k) (rMach.w_C (m := i) p0k) (rMach.w_Imm (m := i) p0k))⟩

-- jacquard/jacquardlaw07.some: function 10
theorem someF_ct {F : PH} {H : Heap} (hin : InH F H) {a0 : Value} {l : List Int} {N0 : Nat} (p0 : (rLn N0 (rI .i32)).rv F a0 l) :
    Ct Try.prog 10 #[a0] H (fun v H' => ∃ F', PH.ext H F F' ∧ InH F' H' ∧ Kp H.size H H' ∧ (rL (rI .i32)).rv F' v (someM l)) := by
  have q0 := rL.len2 p0
  have hkp := Kp.refl H.size H
  have hx := PH.ext.refl (H := H) F
  refine Ct.enter (args := [a0]) Try.func10 rfl rfl rfl (fun w0 hw0 => ?_)
  refine CF.seq (CF.region (LF.step (OpOk.assign rfl) (LF.nil (PF.next (CF.seq (CF.region ?_))))))
  refine LF.chg (OpCh.litL (F := F) (r := (rI .i32)) (l := []) (us := []) (cs := []) Try.underlying25 Try.info21 (by decide) rfl rfl rfl trivial) ?_
  rintro _ H3 ⟨g3, rfl, e3, s3, k3, x3⟩
  have l3 := hkp.1
  replace x3 := (x3 hin).base l3
  have zk3 := k3.1
  replace hin := hin.kp k3
  replace hkp := hkp.trans (k3.mono hkp.1)
  refine LF.step (OpOk.move rfl) (LF.step (OpOk.move rfl) ?_)
  refine LF.step (OpOk.lenL Try.underlying25 p0 rfl) ?_
  refine LF.step (OpOk.min3 rfl rfl) ?_
  refine LF.step (OpOk.sliceHiL (hi := (Int.toNat (min (↑(List.length l)) 20))) Try.underlying25 Try.sz21 p0 hin rfl rfl (by omega) (by omega)) ?_
  refine LF.chg (OpCh.appL (r := (rI .i32)) Try.underlying25 Try.info21 (by decide) rfl rfl rfl x3 (rL.hi p0 (Int.toNat (min (↑(List.length l)) 20)) (by omega) (by omega)) hin (by first | (simp only [List.length_append, List.length_take, List.length_drop, List.length_nil, List.length_cons, List.length_set, List.length_replicate]; omega) | (simp; done) | (simp; omega) | omega) (by omega)) ?_
  rintro v9 H9 ⟨x9, gb9, ob9⟩
  replace hin := hin.grown gb9 x3.no
  replace hkp := gb9.kp hkp (Nat.le_refl _) (fun k0 hk0 => (x3.blk k0 hk0).1)
  rw [List.nil_append] at x9
  refine LF.step (OpOk.assign rfl) (LF.nil (PF.next (CF.ret ?_)))
  obtain ⟨Fz1, hxz1, lez1, hinz1, _, hrz1⟩ := x9.freezeX hin hx (Nat.le_refl _) (by first | (simp only [List.length_append, List.length_take, List.length_drop, List.length_nil, List.length_cons, List.length_set, List.length_replicate]; omega) | (simp; done) | (simp; omega) | omega)
  replace hin := hinz1
  replace hx := hxz1
  have le0 := lez1
  have hm : someM l = (List.take (Int.toNat (min (((List.length l : Nat) : Int)) 20)) l) := by
    exact take_min _ 20 _ rfl
  exact PF.ret1 rfl rfl ⟨_, hx, hin, hkp, by rw [hm]; exact hrz1⟩

-- jacquard/jacquardlaw07.some: function 10
theorem some_ct {F : PH} {H : Heap} (hin : InH F H) {a0 : Value} {l : List Int} {N0 : Nat} (p0 : (rLn N0 (rI .i32)).rv F a0 l) :
    Ct Try.prog 10 #[a0] H (fun v H' => Gl (rI .i32) 21 F H' H.size v (someM l) ∧ Kp H.size H H') := by
  have q0 := rL.len2 p0
  have hkp := Kp.refl H.size H
  have hx := PH.ext.refl (H := H) F
  refine Ct.enter (args := [a0]) Try.func10 rfl rfl rfl (fun w0 hw0 => ?_)
  refine CF.seq (CF.region (LF.step (OpOk.assign rfl) (LF.nil (PF.next (CF.seq (CF.region ?_))))))
  refine LF.chg (OpCh.litL (F := F) (r := (rI .i32)) (l := []) (us := []) (cs := []) Try.underlying25 Try.info21 (by decide) rfl rfl rfl trivial) ?_
  rintro _ H3 ⟨g3, rfl, e3, s3, k3, x3⟩
  have l3 := hkp.1
  replace x3 := (x3 hin).base l3
  have zk3 := k3.1
  replace hin := hin.kp k3
  replace hkp := hkp.trans (k3.mono hkp.1)
  refine LF.step (OpOk.move rfl) (LF.step (OpOk.move rfl) ?_)
  refine LF.step (OpOk.lenL Try.underlying25 p0 rfl) ?_
  refine LF.step (OpOk.min3 rfl rfl) ?_
  refine LF.step (OpOk.sliceHiL (hi := (Int.toNat (min (↑(List.length l)) 20))) Try.underlying25 Try.sz21 p0 hin rfl rfl (by omega) (by omega)) ?_
  refine LF.chg (OpCh.appL (r := (rI .i32)) Try.underlying25 Try.info21 (by decide) rfl rfl rfl x3 (rL.hi p0 (Int.toNat (min (↑(List.length l)) 20)) (by omega) (by omega)) hin (by first | (simp only [List.length_append, List.length_take, List.length_drop, List.length_nil, List.length_cons, List.length_set, List.length_replicate]; omega) | (simp; done) | (simp; omega) | omega) (by omega)) ?_
  rintro v9 H9 ⟨x9, gb9, ob9⟩
  replace hin := hin.grown gb9 x3.no
  replace hkp := gb9.kp hkp (Nat.le_refl _) (fun k0 hk0 => (x3.blk k0 hk0).1)
  rw [List.nil_append] at x9
  refine LF.step (OpOk.assign rfl) (LF.nil (PF.next (CF.ret ?_)))
  have hm : someM l = (List.take (Int.toNat (min (((List.length l : Nat) : Int)) 20)) l) := by
    exact take_min _ 20 _ rfl
  exact PF.ret1 rfl rfl ⟨by rw [hm]; exact x9, hkp⟩

end Go.Proofs.Ytehibklogdngbaa
