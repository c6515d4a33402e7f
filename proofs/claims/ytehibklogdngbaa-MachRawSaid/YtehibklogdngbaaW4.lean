/- Walks. Conditions: each contract names its own. -/
import Derived.Test.YtehibklogdngbaaW3
namespace Go.Proofs.Ytehibklogdngbaa
set_option linter.unusedVariables false
set_option linter.unusedSimpArgs false
set_option linter.unusedSectionVars false
open Go.JE

theorem Try.agg40 : ∃ d, Try.prog.underlying 40 = some d ∧ (match d with | .struct _ | .array _ _ => true | _ => false) = true := ⟨_, Try.underlying40, rfl⟩
theorem Try.ent38 : Ent Try.prog 38 := ⟨_, Try.func38, by kernel_rfl, by kernel_rfl⟩
theorem Try.ent71 : Ent Try.prog 71 := ⟨_, Try.func71, by kernel_rfl, by kernel_rfl⟩
theorem Try.ent72 : Ent Try.prog 72 := ⟨_, Try.func72, by kernel_rfl, by kernel_rfl⟩
theorem Try.ent73 : Ent Try.prog 73 := ⟨_, Try.func73, by kernel_rfl, by kernel_rfl⟩
theorem Try.ent74 : Ent Try.prog 74 := ⟨_, Try.func74, by kernel_rfl, by kernel_rfl⟩
theorem Try.ent75 : Ent Try.prog 75 := ⟨_, Try.func75, by kernel_rfl, by kernel_rfl⟩
theorem Try.ent76 : Ent Try.prog 76 := ⟨_, Try.func76, by kernel_rfl, by kernel_rfl⟩
theorem Try.ent78 : Ent Try.prog 78 := ⟨_, Try.func78, by kernel_rfl, by kernel_rfl⟩
theorem Try.fone84_0 : ∃ fs f, Try.prog.underlying 84 = some (.struct fs) ∧ fs[0]? = some f ∧ f.offset = 0 ∧ f.type = 44 := ⟨_, _, Try.underlying84, rfl, rfl, rfl⟩
theorem Try.fone84_1 : ∃ fs f, Try.prog.underlying 84 = some (.struct fs) ∧ fs[1]? = some f ∧ f.offset = 1 ∧ f.type = 44 := ⟨_, _, Try.underlying84, rfl, rfl, rfl⟩
theorem Try.mixed : Try.prog.follows .mixedOrders = true := Checked.mixed Try.checked
theorem Try.one44 : One Try.prog 44 := ⟨_, Try.underlying44, rfl⟩
theorem Try.sz40 : Sz Try.prog 40 8 := by unfold Sz; kernel_rfl
theorem takesF_ct {F : PH} {H : Heap} (hin : InH F H) {v : Value} {m : D.Mach} (p : rMach.ra F v m) :
    Ct Try.prog (takesF m.Op) #[v] H (fun v H' => ∃ F', PH.ext H F F' ∧ InH F' H' ∧ Kp H.size H H' ∧ (rL (rI .i64)).rv F' v (takesM m)) := by
  have hk : ∀ (e : takesM m = km1 m ∨ takesM m = km2 m ∨ takesM m = km3 m ∨ takesM m = km4 m ∨ takesM m = km5 m ∨ takesM m = km6 m ∨ takesM m = km7 m), True := fun _ => trivial
  unfold takesF
  split
  · have e : takesM m = km3 m := by unfold takesM; rw [if_pos (by omega)]; rfl
    rw [e]; exact kind3_ct hin p
  · split
    · have e : takesM m = km4 m := by unfold takesM; rw [if_neg (by omega), if_pos (by omega)]; rfl
      rw [e]; exact kind4_ct hin p
    · split
      · have e : takesM m = km5 m := by unfold takesM; rw [if_neg (by omega), if_neg (by omega), if_pos (by omega)]; rfl
        rw [e]; exact kind5_ct hin p
      · split
        · have e : takesM m = km6 m := by unfold takesM; rw [if_neg (by omega), if_neg (by omega), if_neg (by omega), if_pos (by omega)]; rfl
          rw [e]; exact kind6_ct hin p
        · have e : takesM m = km1 m := by unfold takesM; rw [if_neg (by omega), if_neg (by omega), if_neg (by omega), if_neg (by omega)]; rfl
          rw [e]; exact kind1_ct hin p

theorem makesF_ct {F : PH} {H : Heap} (hin : InH F H) {v : Value} {m : D.Mach} (p : rMach.ra F v m) :
    Ct Try.prog (makesF m.Op) #[v] H (fun v H' => ∃ F', PH.ext H F F' ∧ InH F' H' ∧ Kp H.size H H' ∧ (rL (rI .i64)).rv F' v (makesM m)) := by
  have hk : ∀ (e : makesM m = km1 m ∨ makesM m = km2 m ∨ makesM m = km3 m ∨ makesM m = km4 m ∨ makesM m = km5 m ∨ makesM m = km6 m ∨ makesM m = km7 m), True := fun _ => trivial
  unfold makesF
  split
  · have e : makesM m = km4 m := by unfold makesM; rw [if_pos (by omega)]; rfl
    rw [e]; exact kind4_ct hin p
  · split
    · have e : makesM m = km7 m := by unfold makesM; rw [if_neg (by omega), if_pos (by omega)]; rfl
      rw [e]; exact kind7_ct hin p
    · split
      · have e : makesM m = km1 m := by unfold makesM; rw [if_neg (by omega), if_neg (by omega), if_pos (by omega)]; rfl
        rw [e]; exact kind1_ct hin p
      · have e : makesM m = km2 m := by unfold makesM; rw [if_neg (by omega), if_neg (by omega), if_neg (by omega)]; rfl
        rw [e]; exact kind2_ct hin p

theorem ent_takesF (op : Int) : Ent Try.prog (takesF op) := by
  unfold takesF
  split
  · exact Try.ent73
  · split
    · exact Try.ent74
    · split
      · exact Try.ent75
      · split
        · exact Try.ent76
        · exact Try.ent71
theorem ent_makesF (op : Int) : Ent Try.prog (makesF op) := by
  unfold makesF
  split
  · exact Try.ent74
  · split
    · exact Try.ent78
    · split
      · exact Try.ent71
      · exact Try.ent72
-- jacquard/mach.Takes: function 17
theorem pTakes_ct {F : PH} {H : Heap} (hin : InH F H) {a0 : Value} {i : D.Mach} (p0 : rMach.ra F a0 i) :
    Ct Try.prog 17 #[a0] H (fun v H' => ∃ F', PH.ext H F F' ∧ InH F' H' ∧ Kp H.size H H' ∧ (rL (rI .i64)).rv F' v (takesM i)) := by
  have p0k := rMach.any p0
  obtain ⟨a0c7, rfl, p0c7⟩ := rMach.open p0
  have p0c7q := rL.len2 p0c7
  have hkp := Kp.refl H.size H
  have hx := PH.ext.refl (H := H) F
  refine Ct.enter (args := [.agg #[.int .i64 i.Op, .int .i64 i.D, .int .i64 i.E, .int .i64 i.A, .int .i64 i.B, .int .i64 i.C, .int .i32 i.Imm, a0c7]]) Try.func17 rfl rfl rfl (fun w0 hw0 => ?_)
  refine CF.seq (CF.region ?_)
  refine LF.chg (OpCh.boxB rfl rfl) ?_
  rintro _ H1 ⟨g1, rfl, eg1, sg1, kg1, hb1⟩
  have ng1 := hin.nope (Nat.le_of_eq eg1.symm)
  have lg1 := hkp.1
  have zkg1 := kg1.1
  replace hin := hin.kp kg1
  replace hkp := hkp.trans (kg1.mono hkp.1)
  clear kg1
  refine LF.step (OpOk.assign rfl) (LF.nil (PF.next (CF.seq ?_)))
  refine CF.any (fun H' => InH F H' ∧ Bx H' g1 40 [.int .i64 i.Op, .int .i64 i.D, .int .i64 i.E, .int .i64 i.A, .int .i64 i.B, .int .i64 i.C, .int .i32 i.Imm, a0c7] ∧ True) Try.mixed ?_
  refine AF.take 0 rfl (by kernel_rfl) (by kernel_rfl) (by kernel_rfl) ⟨hin, hb1, trivial⟩ (fun _ ⟨hin, hb1, _⟩ => OpOk.fieldAddr (Try.fld40_0) rfl) ?_
  refine AF.take 1 rfl (by kernel_rfl) (by kernel_rfl) (by kernel_rfl) ⟨hin, hb1, trivial⟩ (fun _ ⟨hin, hb1, _⟩ => OpOk.ldBx hb1 Try.one3 rfl rfl) ?_
  refine AF.take 4 rfl (by kernel_rfl) (by kernel_rfl) (by kernel_rfl) ⟨hin, hb1, trivial⟩ (fun _ ⟨hin, hb1, _⟩ => OpOk.ldBxA hb1 Try.agg40 Try.sz40 rfl rfl rfl) ?_
  refine AF.call 2 rfl (by kernel_rfl) (OpCall.fn Try.ent38 rfl rfl) (kindV_ct hin i.Op) (by rintro _ _ ⟨_, k⟩; exact ⟨(hin.kp k), (hb1.kp k), trivial⟩) ?_
  rintro _ H5 ⟨rfl, k5⟩
  have zk5 := k5.1
  replace hin := hin.kp k5
  replace hkp := hkp.trans (k5.mono hkp.1)
  replace hb1 := hb1.kp k5
  refine AF.take 3 rfl (by kernel_rfl) (by kernel_rfl) (by kernel_rfl) ⟨hin, hb1, trivial⟩ (fun _ ⟨hin, hb1, _⟩ => OpOk.fieldOne (Try.fone84_0) Try.one44 rfl rfl) ?_
  refine AF.call 5 rfl (by kernel_rfl) (OpCall.fnc (ent_takesF _) rfl rfl) (takesF_ct hin p0) (by rintro _ _ ⟨_, _, _, k, _⟩; exact ⟨(hin.kp k), (hb1.kp k), trivial⟩) ?_
  rintro v8 H8 ⟨F8, x8, i8, k8, h8⟩
  have zk8 := k8.1
  replace hx := hx.trans x8 hkp.1
  replace hkp := hkp.trans (k8.mono hkp.1)
  have l8 := hkp.1
  replace ng1 := x8.no ng1 hb1.lt
  replace hb1 := hb1.kp k8
  have le0 := x8.1
  have hin := i8
  have h8q := rL.len2 h8
  refine AF.take 6 rfl (by kernel_rfl) (by kernel_rfl) (by kernel_rfl) ⟨(hin.down le0), hb1, trivial⟩ (fun _ ⟨hin, hb1, _⟩ => OpOk.assign rfl) ?_
  refine AF.done (by kernel_rfl) ?_
  refine PF.next (CF.ret ?_)
  have hm : takesM i = (takesM i) := by
    rfl
  exact PF.ret1 rfl rfl ⟨_, hx, hin, hkp, by rw [hm]; exact h8⟩

-- jacquard/mach.Makes: function 18
theorem pMakes_ct {F : PH} {H : Heap} (hin : InH F H) {a0 : Value} {i : D.Mach} (p0 : rMach.ra F a0 i) :
    Ct Try.prog 18 #[a0] H (fun v H' => ∃ F', PH.ext H F F' ∧ InH F' H' ∧ Kp H.size H H' ∧ (rL (rI .i64)).rv F' v (makesM i)) := by
  have p0k := rMach.any p0
  obtain ⟨a0c7, rfl, p0c7⟩ := rMach.open p0
  have p0c7q := rL.len2 p0c7
  have hkp := Kp.refl H.size H
  have hx := PH.ext.refl (H := H) F
  refine Ct.enter (args := [.agg #[.int .i64 i.Op, .int .i64 i.D, .int .i64 i.E, .int .i64 i.A, .int .i64 i.B, .int .i64 i.C, .int .i32 i.Imm, a0c7]]) Try.func18 rfl rfl rfl (fun w0 hw0 => ?_)
  refine CF.seq (CF.region ?_)
  refine LF.chg (OpCh.boxB rfl rfl) ?_
  rintro _ H1 ⟨g1, rfl, eg1, sg1, kg1, hb1⟩
  have ng1 := hin.nope (Nat.le_of_eq eg1.symm)
  have lg1 := hkp.1
  have zkg1 := kg1.1
  replace hin := hin.kp kg1
  replace hkp := hkp.trans (kg1.mono hkp.1)
  clear kg1
  refine LF.step (OpOk.assign rfl) (LF.nil (PF.next (CF.seq ?_)))
  refine CF.any (fun H' => InH F H' ∧ Bx H' g1 40 [.int .i64 i.Op, .int .i64 i.D, .int .i64 i.E, .int .i64 i.A, .int .i64 i.B, .int .i64 i.C, .int .i32 i.Imm, a0c7] ∧ True) Try.mixed ?_
  refine AF.take 0 rfl (by kernel_rfl) (by kernel_rfl) (by kernel_rfl) ⟨hin, hb1, trivial⟩ (fun _ ⟨hin, hb1, _⟩ => OpOk.fieldAddr (Try.fld40_0) rfl) ?_
  refine AF.take 1 rfl (by kernel_rfl) (by kernel_rfl) (by kernel_rfl) ⟨hin, hb1, trivial⟩ (fun _ ⟨hin, hb1, _⟩ => OpOk.ldBx hb1 Try.one3 rfl rfl) ?_
  refine AF.take 4 rfl (by kernel_rfl) (by kernel_rfl) (by kernel_rfl) ⟨hin, hb1, trivial⟩ (fun _ ⟨hin, hb1, _⟩ => OpOk.ldBxA hb1 Try.agg40 Try.sz40 rfl rfl rfl) ?_
  refine AF.call 2 rfl (by kernel_rfl) (OpCall.fn Try.ent38 rfl rfl) (kindV_ct hin i.Op) (by rintro _ _ ⟨_, k⟩; exact ⟨(hin.kp k), (hb1.kp k), trivial⟩) ?_
  rintro _ H5 ⟨rfl, k5⟩
  have zk5 := k5.1
  replace hin := hin.kp k5
  replace hkp := hkp.trans (k5.mono hkp.1)
  replace hb1 := hb1.kp k5
  refine AF.take 3 rfl (by kernel_rfl) (by kernel_rfl) (by kernel_rfl) ⟨hin, hb1, trivial⟩ (fun _ ⟨hin, hb1, _⟩ => OpOk.fieldOne (Try.fone84_1) Try.one44 rfl rfl) ?_
  refine AF.call 5 rfl (by kernel_rfl) (OpCall.fnc (ent_makesF _) rfl rfl) (makesF_ct hin p0) (by rintro _ _ ⟨_, _, _, k, _⟩; exact ⟨(hin.kp k), (hb1.kp k), trivial⟩) ?_
  rintro v8 H8 ⟨F8, x8, i8, k8, h8⟩
  have zk8 := k8.1
  replace hx := hx.trans x8 hkp.1
  replace hkp := hkp.trans (k8.mono hkp.1)
  have l8 := hkp.1
  replace ng1 := x8.no ng1 hb1.lt
  replace hb1 := hb1.kp k8
  have le0 := x8.1
  have hin := i8
  have h8q := rL.len2 h8
  refine AF.take 6 rfl (by kernel_rfl) (by kernel_rfl) (by kernel_rfl) ⟨(hin.down le0), hb1, trivial⟩ (fun _ ⟨hin, hb1, _⟩ => OpOk.assign rfl) ?_
  refine AF.done (by kernel_rfl) ?_
  refine PF.next (CF.ret ?_)
  have hm : makesM i = (makesM i) := by
    rfl
  exact PF.ret1 rfl rfl ⟨_, hx, hin, hkp, by rw [hm]; exact h8⟩

end Go.Proofs.Ytehibklogdngbaa
