/- Walks. Conditions: each contract names its own. -/
import Derived.Test.YtehibklogdngbaaWG
namespace Go.Proofs.Ytehibklogdngbaa
set_option linter.unusedVariables false
set_option linter.unusedSimpArgs false
set_option linter.unusedSectionVars false
open Go.JE

theorem Try.info61 : (Try.prog.info? 61).map (fun i => (i.zero, i.size, i.bytes)) = some (some (.agg #[.slice none 0 0, .slice none 0 0, .int .i64 0, .int .i64 0, .int .i64 0, .slice none 0 0, .int .i32 0]), 7, 104) := by kernel_rfl
theorem Try.zero24 : (Try.prog.info? 24).bind (·.zero) = some (.agg #[.int .i64 0, .slice none 0 0]) := by kernel_rfl
/- ---------------------------------------------- the head of the laws -/
def oneM (p : Int) (e : D.End) (l : List D.Mach) : D.MFunc := ⟨p, [⟨[], l, e⟩]⟩
def goesP (op many : Int) (regs : List Int) : Int := goesM ⟨op, 0, 1, List.replicate (Int.toNat (many + 1)) 0, 0⟩ regs

-- jacquard/jacquardlaw07.one: function 23
theorem one_ct {F : PH} {H : Heap} (hin : InH F H) (p : Int) {a1 : Value} {e : D.End} (p1 : rEnd.ra F a1 e) {a2 : Value} {l : List D.Mach} (p2 : (rL rMach).rv F a2 l) (ww0 : IntKind.i64.wrap p = p) :
    Ct Try.prog 23 #[.int .i64 p, a1, a2] H (fun v H' => ∃ F', PH.ext H F F' ∧ InH F' H' ∧ Kp H.size H H' ∧ rMFunc.ra F' v (oneM p e l)) := by
  have p1k := rEnd.any p1
  obtain ⟨a1c3, rfl, p1c3⟩ := rEnd.open p1
  have p1c3q := rL.len2 p1c3
  have q2 := rL.len2 p2
  have hkp := Kp.refl H.size H
  have hx := PH.ext.refl (H := H) F
  refine Ct.enter (args := [.int .i64 p, .agg #[.int .i64 e.Op, .int .i64 e.A, .int .i64 e.B, a1c3, .int .i32 e.Imm], a2]) Try.func23 rfl rfl rfl (fun w0 hw0 => ?_)
  refine CF.seq (CF.region ?_)
  refine LF.chg (OpCh.boxB rfl rfl) ?_
  rintro _ H4 ⟨g4, rfl, eg4, sg4, kg4, hb4⟩
  have ng4 := hin.nope (Nat.le_of_eq eg4.symm)
  have lg4 := hkp.1
  have zkg4 := kg4.1
  replace hin := hin.kp kg4
  replace hkp := hkp.trans (kg4.mono hkp.1)
  clear kg4
  refine LF.chg (OpCh.allocB Try.zero24 rfl) ?_
  rintro _ H6 ⟨g6, rfl, eg6, sg6, kg6, hb6⟩
  have ng6 := hin.nope (Nat.le_of_eq eg6.symm)
  have lg6 := hkp.1
  have zkg6 := kg6.1
  replace hin := hin.kp kg6
  replace hkp := hkp.trans (kg6.mono hkp.1)
  replace hb4 := hb4.kp kg6
  clear kg6
  refine LF.nil (PF.next (CF.seq (CF.region (LF.step (OpOk.move rfl) (LF.step (OpOk.move rfl) ?_)))))
  refine LF.step (OpOk.ldBxA hb4 Try.agg55 Try.sz55 rfl rfl rfl) ?_
  refine LF.step (OpOk.build (v := .agg #[.slice none 0 0, a2, .int .i64 e.Op, .int .i64 e.A, .int .i64 e.B, a1c3, .int .i32 e.Imm]) rfl (fun w => by obtain ⟨_, a19, c19, e19, _⟩ := p2; rw [show (a2 : Value) = _ from e19]; obtain ⟨_, a59, c59, e59, _⟩ := p1c3; rw [show (a1c3 : Value) = _ from e59]; kernel_rfl)) ?_
  refine LF.chg (OpCh.litL (F := F) (r := rMBlock) (l := [⟨[], l, e⟩]) (us := [.agg #[.slice none 0 0, a2, .int .i64 e.Op, .int .i64 e.A, .int .i64 e.B, a1c3, .int .i32 e.Imm]]) (cs := [[.slice none 0 0, a2, .int .i64 e.Op, .int .i64 e.A, .int .i64 e.B, a1c3, .int .i32 e.Imm]]) Try.underlying22 Try.info61 (by decide) rfl rfl rfl ⟨rfl, rfl, (ra_ok (rMBlock.mk (m := ⟨[], l, e⟩) (rL.nil _) p2 p1c3 (rEnd.w_Op (m := e) p1k) (rEnd.w_A (m := e) p1k) (rEnd.w_B (m := e) p1k) (rEnd.w_Imm (m := e) p1k))), trivial⟩) ?_
  rintro _ H11 ⟨g11, rfl, e11, s11, k11, x11⟩
  have l11 := hkp.1
  replace x11 := (x11 hin).base l11
  have zk11 := k11.1
  replace hin := hin.kp k11
  replace hkp := hkp.trans (k11.mono hkp.1)
  replace hb4 := hb4.kp k11
  replace hb6 := hb6.kp k11
  refine LF.step (OpOk.build (v := .agg #[.int .i64 p, .slice (some ⟨g11, 0, none⟩) 1 1]) rfl (fun w => by kernel_rfl)) ?_
  refine LF.chg0 (OpCh.storeBA hb6 Try.sz24 rfl rfl rfl (allOne.mem (l := [.int .i64 p, .slice (some ⟨g11, 0, none⟩) 1 1]) ⟨rfl, x11.one1, trivial⟩) (by decide)) ?_
  rintro _ Hw1 ⟨tw1, bw1⟩
  have ztw1 := tw1.1
  replace hin := hin.tw tw1 ng6
  replace hkp := Tw.kp' hkp tw1 (by omega)
  replace hb4 := hb4.tw tw1 (Bx.ne hb4 hb6 (by decide))
  replace x11 := x11.tw tw1 (x11.neBx hb6 (by decide))
  replace hb6 : Bx _ _ _ [.int .i64 p, .slice (some ⟨g11, 0, none⟩) 1 1] := bw1
  clear bw1 tw1
  refine LF.nil (PF.next (CF.ret ?_))
  obtain ⟨Fz2, hxz2, lez2, hinz2, noz2, hrz2⟩ := x11.freezeX hin hx (Nat.le_refl _) (by first | (simp only [List.length_append, List.length_take, List.length_drop, List.length_nil, List.length_cons, List.length_set, List.length_replicate]; omega) | (simp; done) | (simp; omega) | omega)
  replace hin := hinz2
  replace hx := hxz2
  have le0 := lez2
  replace ng4 := (noz2 _ (x11.neBx hb4 (by decide))).trans ng4
  replace ng6 := (noz2 _ (x11.neBx hb6 (by decide))).trans ng6
  have hm : oneM p e l = (⟨p, [⟨[], l, e⟩]⟩) := by
    rfl
  exact PF.retC rfl rfl hb6 Try.agg24 Try.sz24 ⟨_, hx, hin, hkp, by rw [hm]; exact (rMFunc.mk (m := ⟨p, [⟨[], l, e⟩]⟩) hrz2 ww0)⟩

-- jacquard/jacquardlaw07.goes: function 25
theorem goes_ct {F : PH} {H : Heap} (hin : InH F H) (op : Int) (many : Int) {a2 : Value} {regs : List Int} (p2 : (rL (rI .i32)).rv F a2 regs) (hm0 : 0 ≤ many ∧ many ≤ 1000) (ww0 : IntKind.i64.wrap op = op) :
    Ct Try.prog 25 #[.int .i64 op, .int .i64 many, a2] H (fun v H' => v = .int .i64 (goesP op many regs) ∧ Kp H.size H H') := by
  have q2 := rL.len2 p2
  have hkp := Kp.refl H.size H
  have hx := PH.ext.refl (H := H) F
  refine Ct.enter (args := [.int .i64 op, .int .i64 many, a2]) Try.func25 rfl rfl rfl (fun w0 hw0 => ?_)
  refine CF.seq (CF.region (LF.step (OpOk.assign rfl) (LF.nil (PF.next (CF.seq (CF.region (LF.step (OpOk.move rfl) (LF.step (OpOk.move rfl) ?_))))))))
  refine LF.step (OpOk.add rfl rfl (by omega)) ?_
  refine LF.chg (OpCh.makeL (F := F) (r := (rI .i64)) (n := (Int.toNat (many + 1))) (a := 0) Try.underlying38 Try.info3 rfl rfl rfl (by omega) (by omega) (by omega) (by omega) ⟨rfl, (by decide : IntKind.i64.wrap 0 = 0)⟩) ?_
  rintro _ H10 ⟨g10, rfl, e10, s10, k10, x10⟩
  have l10 := hkp.1
  replace x10 := (x10 hin).base l10
  have zk10 := k10.1
  replace hin := hin.kp k10
  replace hkp := hkp.trans (k10.mono hkp.1)
  refine LF.step (OpOk.build (v := .agg #[.int .i64 op, .int .i64 0, .int .i64 1, .slice (some ⟨g10, 0, none⟩) (Int.toNat (many + 1)) (Int.toNat (many + 1)), .int .i32 0]) rfl (fun w => by kernel_rfl)) ?_
  refine LF.step (OpOk.move rfl) ?_
  obtain ⟨Fz1, hxz1, lez1, hinz1, noz1, hrz1⟩ := x10.freezeX hin hx (Nat.le_refl _) (by first | (simp only [List.length_append, List.length_take, List.length_drop, List.length_nil, List.length_cons, List.length_set, List.length_replicate]; omega) | (simp; done) | (simp; omega) | omega)
  replace hin := hinz1
  replace hx := hxz1
  have le0 := lez1
  refine LF.call (OpCall.fn Try.ent30 rfl rfl) (pGoes_ct hin (rEnd.mk (m := ⟨op, 0, 1, List.replicate (Int.toNat (many + 1)) 0, 0⟩) hrz1 ww0 (by decide : IntKind.i64.wrap 0 = 0) (by decide : IntKind.i64.wrap 1 = 1) (by decide : IntKind.i32.wrap 0 = 0)) (p2.up le0)) ?_
  rintro _ H13 ⟨rfl, k13⟩
  have zk13 := k13.1
  replace hin := hin.kp k13
  replace hkp := hkp.trans (k13.mono hkp.1)
  refine LF.step (OpOk.assign rfl) (LF.nil (PF.next (CF.ret ?_)))
  have hm : goesP op many regs = (goesM (⟨op, 0, 1, List.replicate (Int.toNat (many + 1)) 0, 0⟩) regs) := by
    rfl
  exact PF.ret1 rfl rfl ⟨by rw [hm] <;> rfl, hkp⟩

end Go.Proofs.Ytehibklogdngbaa
