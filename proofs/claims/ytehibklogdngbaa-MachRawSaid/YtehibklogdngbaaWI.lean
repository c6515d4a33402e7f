/- Walks. Conditions: each contract names its own. -/
import Derived.Test.YtehibklogdngbaaWH
namespace Go.Proofs.Ytehibklogdngbaa
set_option linter.unusedVariables false
set_option linter.unusedSimpArgs false
set_option linter.unusedSectionVars false
open Go.JE

theorem Try.ent11 : Ent Try.prog 11 := ⟨_, Try.func11, by kernel_rfl, by kernel_rfl⟩
theorem Try.ent23 : Ent Try.prog 23 := ⟨_, Try.func23, by kernel_rfl, by kernel_rfl⟩
theorem Try.info40 : (Try.prog.info? 40).map (fun i => (i.zero, i.size, i.bytes)) = some (some (.agg #[.int .i64 0, .int .i64 0, .int .i64 0, .int .i64 0, .int .i64 0, .int .i64 0, .int .i32 0, .slice none 0 0]), 8, 80) := by kernel_rfl
def shF : D.MFunc := oneM 1 ⟨7, 1, 0, [], 0⟩ [⟨18, 1, 0, 0, 0, 0, (-3), []⟩]
theorem sh_right : rightM shF = true := by decide
theorem sh_start : startR shF ⟨[5], [], [], 9⟩ = 5 :: List.replicate 8191 0 := by
  unfold startR
  show List.take 1 [5] ++ List.drop 1 (List.replicate 8192 0) = _
  rw [List.drop_replicate]; rfl
theorem sh_get : getM (5 :: List.replicate 8191 0) 0 = 5 := by
  unfold getM; rw [if_neg (by simp only [List.length_cons, List.length_replicate]; omega)]; rfl
theorem sh_set : setM (5 :: List.replicate 8191 0) 1 2 = 5 :: 2 :: List.replicate 8190 0 := by
  unfold setM; rw [if_pos (by simp only [List.length_cons, List.length_replicate]; omega)]
  show 5 :: List.set (List.replicate 8191 0) 0 2 = _
  rw [show (8191 : Nat) = 8190 + 1 from rfl, List.replicate_succ]; rfl
theorem sh_get1 : getM (5 :: 2 :: List.replicate 8190 0) 1 = 2 := by
  unfold getM; rw [if_neg (by simp only [List.length_cons, List.length_replicate]; omega)]; rfl
theorem sh_run : runM shF ⟨[5], [], [], 9⟩ = ⟨1, 2, [], [], 2⟩ := by
  rw [run_right sh_right, sh_start, blockRun_pos (by decide), show memM ⟨[5], [], [], 9⟩ = [] from rfl]
  have e1 : phisM (ix shF.Blocks (Int.toNat 0)).Phis (-1) (5 :: List.replicate 8191 0) = 5 :: List.replicate 8191 0 := rfl
  have e2 : (ix shF.Blocks (Int.toNat 0)).Ins = [⟨18, 1, 0, 0, 0, 0, (-3), []⟩] := rfl
  have e3 : (ix shF.Blocks (Int.toNat 0)).End = ⟨7, 1, 0, [], 0⟩ := rfl
  have e4 : stepM ⟨18, 1, 0, 0, 0, 0, (-3), []⟩ (5 :: List.replicate 8191 0) [] = ((0, true), 5 :: 2 :: List.replicate 8190 0, []) := by
    have : stepM ⟨18, 1, 0, 0, 0, 0, (-3), []⟩ (5 :: List.replicate 8191 0) [] = ((0, true), setM (5 :: List.replicate 8191 0) 1 (doM 2 (getM (5 :: List.replicate 8191 0) 0) (-3)).1, []) := rfl
    rw [this, sh_get, show (doM 2 5 (-3)).1 = 2 by decide, sh_set]
  rw [e1, e2, e3, insRun, if_neg (by decide), if_neg (by decide), e4, if_neg (by decide), insRun, endRun, if_neg (by decide), if_pos (by rfl), sh_get1]
  rfl
theorem sh_law : ((((decide ((runM shF ⟨[5], [], [], 9⟩).End = 1)) && (decide ((runM shF ⟨[5], [], [], 9⟩).Val = 2))) && (decide ((runM shF ⟨[5], [], [], 9⟩).Steps = 2))) && (decide ((funcM (oneM 1 ⟨7, 1, 0, [], 0⟩ [⟨18, 1, 0, 0, 0, 0, 128, []⟩])).1 = 32))) = true := by
  rw [sh_run, show (funcM (oneM 1 ⟨7, 1, 0, [], 0⟩ [⟨18, 1, 0, 0, 0, 0, 128, []⟩])).1 = 32 by decide]; rfl
theorem u8_rng {n : Int} (h : IntKind.u8.wrap n = n) : 0 ≤ n ∧ n ≤ 255 := by rw [IntKind.wrap_u8] at h; omega

-- jacquard/jacquardlaw07.shown: function 8
theorem shown_ct {F : PH} {H : Heap} (hin : InH F H)  :
    Ct Try.prog 8 #[] H (fun v H' => v = .bool (true ) ∧ Kp H.size H H') := by
  have hkp := Kp.refl H.size H
  have hx := PH.ext.refl (H := H) F
  refine Ct.enter (args := []) Try.func8 rfl rfl rfl (fun w0 hw0 => ?_)
  refine CF.seq (CF.region (LF.step (OpOk.assign rfl) (LF.nil (PF.next (CF.seq (CF.region ?_))))))
  refine LF.step (OpOk.build (v := .agg #[.int .i64 7, .int .i64 1, .int .i64 0, .slice none 0 0, .int .i32 0]) rfl (fun w => by kernel_rfl)) ?_
  refine LF.step (OpOk.build (v := .agg #[.int .i64 18, .int .i64 1, .int .i64 0, .int .i64 0, .int .i64 0, .int .i64 0, .int .i32 ((-3)), .slice none 0 0]) rfl (fun w => by kernel_rfl)) ?_
  refine LF.chg (OpCh.litL (F := F) (r := rMach) (l := [⟨18, 1, 0, 0, 0, 0, (-3), []⟩]) (us := [.agg #[.int .i64 18, .int .i64 1, .int .i64 0, .int .i64 0, .int .i64 0, .int .i64 0, .int .i32 ((-3)), .slice none 0 0]]) (cs := [[.int .i64 18, .int .i64 1, .int .i64 0, .int .i64 0, .int .i64 0, .int .i64 0, .int .i32 ((-3)), .slice none 0 0]]) Try.underlying59 Try.info40 (by decide) rfl rfl rfl ⟨rfl, rfl, (ra_ok (rMach.mk (m := ⟨18, 1, 0, 0, 0, 0, (-3), []⟩) (rL.nil _) (by decide : IntKind.i64.wrap 18 = 18) (by decide : IntKind.i64.wrap 1 = 1) (by decide : IntKind.i64.wrap 0 = 0) (by decide : IntKind.i64.wrap 0 = 0) (by decide : IntKind.i64.wrap 0 = 0) (by decide : IntKind.i64.wrap 0 = 0) (by decide : IntKind.i32.wrap (-3) = (-3)))), trivial⟩) ?_
  rintro _ H7 ⟨g7, rfl, e7, s7, k7, x7⟩
  have l7 := hkp.1
  replace x7 := (x7 hin).base l7
  have zk7 := k7.1
  replace hin := hin.kp k7
  replace hkp := hkp.trans (k7.mono hkp.1)
  obtain ⟨Fz1, hxz1, lez1, hinz1, noz1, hrz1⟩ := x7.freezeX hin hx (Nat.le_refl _) (by first | (simp only [List.length_append, List.length_take, List.length_drop, List.length_nil, List.length_cons, List.length_set, List.length_replicate]; omega) | (simp; done) | (simp; omega) | omega)
  replace hin := hinz1
  replace hx := hxz1
  have le0 := lez1
  refine LF.call (OpCall.fn Try.ent23 rfl rfl) (one_ct hin 1 (rEnd.mk (m := ⟨7, 1, 0, [], 0⟩) (rL.nil _) (by decide : IntKind.i64.wrap 7 = 7) (by decide : IntKind.i64.wrap 1 = 1) (by decide : IntKind.i64.wrap 0 = 0) (by decide : IntKind.i32.wrap 0 = 0)) hrz1 (by decide : IntKind.i64.wrap 1 = 1)) ?_
  rintro v8 H8 ⟨F8, x8, i8, k8, h8⟩
  have zk8 := k8.1
  replace hx := hx.trans x8 hkp.1
  replace hkp := hkp.trans (k8.mono hkp.1)
  have l8 := hkp.1
  replace le0 := le0.trans x8.1
  have le1 := x8.1
  have hin := i8
  have h8k := rMFunc.any h8
  obtain ⟨v8c1, rfl, h8c1⟩ := rMFunc.open h8
  have h8c1q := rL.len2 h8c1
  refine LF.chg (OpCh.litL (F := F8) (r := (rI .i32)) (l := [5]) (us := [.int .i32 5]) (cs := [[.int .i32 5]]) Try.underlying25 Try.info21 (by decide) rfl rfl rfl ⟨rfl, rfl, ⟨rfl, (by decide : IntKind.i32.wrap 5 = 5)⟩, trivial⟩) ?_
  rintro _ H9 ⟨g9, rfl, e9, s9, k9, x9⟩
  have l9 := hkp.1
  replace x9 := (x9 hin).base l9
  have zk9 := k9.1
  replace hin := hin.kp k9
  replace hkp := hkp.trans (k9.mono hkp.1)
  refine LF.step (OpOk.build (v := .agg #[.slice (some ⟨g9, 0, none⟩) 1 1, .slice none 0 0, .slice none 0 0, .int .i64 9]) rfl (fun w => by kernel_rfl)) ?_
  obtain ⟨Fz2, hxz2, lez2, hinz2, noz2, hrz2⟩ := x9.freezeX hin hx (Nat.le_refl _) (by first | (simp only [List.length_append, List.length_take, List.length_drop, List.length_nil, List.length_cons, List.length_set, List.length_replicate]; omega) | (simp; done) | (simp; omega) | omega)
  replace hin := hinz2
  replace hx := hxz2
  replace le0 := le0.trans lez2
  replace le1 := le1.trans lez2
  have le2 := lez2
  refine LF.call (OpCall.fn Try.ent11 rfl rfl) (runM_ct hin (h8.up le2) (rInput.mk (m := ⟨[5], [], [], 9⟩) hrz2 (rL.nil _) (rL.nil _) (by decide : IntKind.i64.wrap 9 = 9)) (by decide)) ?_
  rintro v11 H11 ⟨F11, x11, i11, k11, h11⟩
  have zk11 := k11.1
  replace hx := hx.trans x11 hkp.1
  replace hkp := hkp.trans (k11.mono hkp.1)
  have l11 := hkp.1
  replace le0 := le0.trans x11.1
  replace le1 := le1.trans x11.1
  replace le2 := le2.trans x11.1
  have le3 := x11.1
  have hin := i11
  have h11k := rOutcome.any h11
  obtain ⟨v11c2, v11c3, rfl, h11c2, h11c3⟩ := rOutcome.open h11
  have h11c2q := rL.len2 h11c2
  have h11c3q := rL.len2 h11c3
  refine LF.chg (OpCh.allocB Try.zero33 rfl) ?_
  rintro _ H1 ⟨g1, rfl, eg1, sg1, kg1, hb1⟩
  have ng1 := hin.nope (Nat.le_of_eq eg1.symm)
  have lg1 := hkp.1
  have zkg1 := kg1.1
  replace hin := hin.kp kg1
  replace hkp := hkp.trans (kg1.mono hkp.1)
  clear kg1
  refine LF.chg0 (OpCh.storeBA hb1 Try.sz33 rfl rfl rfl (allOne.mem (l := [.int .i64 ((runM (oneM 1 (⟨7, 1, 0, [], 0⟩) ([⟨18, 1, 0, 0, 0, 0, (-3), []⟩])) (⟨[5], [], [], 9⟩)).End), .int .i32 ((runM (oneM 1 (⟨7, 1, 0, [], 0⟩) ([⟨18, 1, 0, 0, 0, 0, (-3), []⟩])) (⟨[5], [], [], 9⟩)).Val), v11c2, v11c3, .int .i64 ((runM (oneM 1 (⟨7, 1, 0, [], 0⟩) ([⟨18, 1, 0, 0, 0, 0, (-3), []⟩])) (⟨[5], [], [], 9⟩)).Steps)]) ⟨rfl, rfl, (h11c2.one1), (h11c3.one1), rfl, trivial⟩) (by decide)) ?_
  rintro _ Hw3 ⟨tw3, bw3⟩
  have ztw3 := tw3.1
  replace hin := hin.tw tw3 ng1
  replace hkp := Tw.kp' hkp tw3 (by omega)
  replace hb1 : Bx _ _ _ [.int .i64 ((runM (oneM 1 (⟨7, 1, 0, [], 0⟩) ([⟨18, 1, 0, 0, 0, 0, (-3), []⟩])) (⟨[5], [], [], 9⟩)).End), .int .i32 ((runM (oneM 1 (⟨7, 1, 0, [], 0⟩) ([⟨18, 1, 0, 0, 0, 0, (-3), []⟩])) (⟨[5], [], [], 9⟩)).Val), v11c2, v11c3, .int .i64 ((runM (oneM 1 (⟨7, 1, 0, [], 0⟩) ([⟨18, 1, 0, 0, 0, 0, (-3), []⟩])) (⟨[5], [], [], 9⟩)).Steps)] := bw3
  clear bw3 tw3
  refine LF.nil (PF.next (CF.seq (CF.region ?_)))
  refine LF.step (OpOk.build (v := .agg #[.int .i64 7, .int .i64 1, .int .i64 0, .slice none 0 0, .int .i32 0]) rfl (fun w => by kernel_rfl)) ?_
  refine LF.step (OpOk.build (v := .agg #[.int .i64 18, .int .i64 1, .int .i64 0, .int .i64 0, .int .i64 0, .int .i64 0, .int .i32 128, .slice none 0 0]) rfl (fun w => by kernel_rfl)) ?_
  refine LF.chg (OpCh.litL (F := F11) (r := rMach) (l := [⟨18, 1, 0, 0, 0, 0, 128, []⟩]) (us := [.agg #[.int .i64 18, .int .i64 1, .int .i64 0, .int .i64 0, .int .i64 0, .int .i64 0, .int .i32 128, .slice none 0 0]]) (cs := [[.int .i64 18, .int .i64 1, .int .i64 0, .int .i64 0, .int .i64 0, .int .i64 0, .int .i32 128, .slice none 0 0]]) Try.underlying59 Try.info40 (by decide) rfl rfl rfl ⟨rfl, rfl, (ra_ok (rMach.mk (m := ⟨18, 1, 0, 0, 0, 0, 128, []⟩) (rL.nil _) (by decide : IntKind.i64.wrap 18 = 18) (by decide : IntKind.i64.wrap 1 = 1) (by decide : IntKind.i64.wrap 0 = 0) (by decide : IntKind.i64.wrap 0 = 0) (by decide : IntKind.i64.wrap 0 = 0) (by decide : IntKind.i64.wrap 0 = 0) (by decide : IntKind.i32.wrap 128 = 128))), trivial⟩) ?_
  rintro _ H15 ⟨g15, rfl, e15, s15, k15, x15⟩
  have l15 := hkp.1
  replace x15 := (x15 hin).base l15
  have zk15 := k15.1
  replace hin := hin.kp k15
  replace hkp := hkp.trans (k15.mono hkp.1)
  replace hb1 := hb1.kp k15
  obtain ⟨Fz4, hxz4, lez4, hinz4, noz4, hrz4⟩ := x15.freezeX hin hx (Nat.le_refl _) (by first | (simp only [List.length_append, List.length_take, List.length_drop, List.length_nil, List.length_cons, List.length_set, List.length_replicate]; omega) | (simp; done) | (simp; omega) | omega)
  replace hin := hinz4
  replace hx := hxz4
  replace le0 := le0.trans lez4
  replace le1 := le1.trans lez4
  replace le2 := le2.trans lez4
  replace le3 := le3.trans lez4
  have le4 := lez4
  replace ng1 := (noz4 _ (x15.neBx hb1 (by decide))).trans ng1
  refine LF.call (OpCall.fn Try.ent23 rfl rfl) (one_ct hin 1 (rEnd.mk (m := ⟨7, 1, 0, [], 0⟩) (rL.nil _) (by decide : IntKind.i64.wrap 7 = 7) (by decide : IntKind.i64.wrap 1 = 1) (by decide : IntKind.i64.wrap 0 = 0) (by decide : IntKind.i32.wrap 0 = 0)) hrz4 (by decide : IntKind.i64.wrap 1 = 1)) ?_
  rintro v16 H16 ⟨F16, x16, i16, k16, h16⟩
  have zk16 := k16.1
  replace hx := hx.trans x16 hkp.1
  replace hkp := hkp.trans (k16.mono hkp.1)
  have l16 := hkp.1
  replace ng1 := x16.no ng1 hb1.lt
  replace hb1 := hb1.kp k16
  replace le0 := le0.trans x16.1
  replace le1 := le1.trans x16.1
  replace le2 := le2.trans x16.1
  replace le3 := le3.trans x16.1
  replace le4 := le4.trans x16.1
  have le5 := x16.1
  have hin := i16
  have h16k := rMFunc.any h16
  obtain ⟨v16c1, rfl, h16c1⟩ := rMFunc.open h16
  have h16c1q := rL.len2 h16c1
  refine LF.call (OpCall.fn Try.ent24 rfl rfl) (pFunc_ct hin h16) ?_
  rintro _ H17 ⟨rfl, k17⟩
  have zk17 := k17.1
  replace hin := hin.kp k17
  replace hkp := hkp.trans (k17.mono hkp.1)
  replace hb1 := hb1.kp k17
  refine LF.step (OpOk.move rfl) ?_
  refine LF.step (OpOk.extract (v := .int .i64 ((funcM (oneM 1 (⟨7, 1, 0, [], 0⟩) ([⟨18, 1, 0, 0, 0, 0, 128, []⟩]))).1)) rfl rfl) ?_
  refine LF.step (OpOk.extract (v := .int .i64 ((funcM (oneM 1 (⟨7, 1, 0, [], 0⟩) ([⟨18, 1, 0, 0, 0, 0, 128, []⟩]))).2.1)) rfl rfl) ?_
  refine LF.step (OpOk.extract (v := .int .i64 ((funcM (oneM 1 (⟨7, 1, 0, [], 0⟩) ([⟨18, 1, 0, 0, 0, 0, 128, []⟩]))).2.2)) rfl rfl) ?_
  refine LF.step (OpOk.assign rfl) (LF.step (OpOk.assign rfl) (LF.step (OpOk.assign rfl) (LF.nil (PF.next (CF.seq (CF.region ?_))))))
  refine LF.step (OpOk.fieldAddr (Try.fld33_0) rfl) ?_
  refine LF.step (OpOk.ldBx hb1 Try.one3 rfl rfl) ?_
  refine LF.step (OpOk.eql rfl rfl) ?_
  refine LF.step (OpOk.move rfl) ?_
  refine LF.gstep rfl rfl (.t _) (fun hg => OpOk.fieldAddr (Try.fld33_1) rfl) ?_
  refine LF.gstep rfl rfl (.t _) (fun hg => OpOk.ldBx hb1 Try.one21 (evg rfl hg) rfl) ?_
  refine LF.gstep rfl rfl (.t _) (fun hg => OpOk.eql (evg rfl hg) rfl) ?_
  refine LF.step (OpOk.pickAnd rfl rfl) ?_
  refine LF.step (OpOk.move rfl) ?_
  refine LF.gstep rfl rfl (.t _) (fun hg => OpOk.fieldAddr (Try.fld33_4) rfl) ?_
  refine LF.gstep rfl rfl (.t _) (fun hg => OpOk.ldBx hb1 Try.one3 (evg rfl hg) rfl) ?_
  refine LF.gstep rfl rfl (.t _) (fun hg => OpOk.eql (evg rfl hg) rfl) ?_
  refine LF.step (OpOk.pickAnd rfl rfl) ?_
  refine LF.step (OpOk.move rfl) ?_
  refine LF.gstep rfl rfl (.t _) (fun hg => OpOk.move rfl) ?_
  refine LF.gstep rfl rfl (.t _) (fun hg => OpOk.eql (evg rfl hg) rfl) ?_
  refine LF.step (OpOk.pickAnd rfl rfl) ?_
  refine LF.step (OpOk.assign rfl) (LF.nil (PF.next (CF.ret ?_)))
  have hm : true  = ((((decide ((runM (oneM 1 (⟨7, 1, 0, [], 0⟩) ([⟨18, 1, 0, 0, 0, 0, (-3), []⟩])) (⟨[5], [], [], 9⟩)).End = 1)) && (decide ((runM (oneM 1 (⟨7, 1, 0, [], 0⟩) ([⟨18, 1, 0, 0, 0, 0, (-3), []⟩])) (⟨[5], [], [], 9⟩)).Val = 2))) && (decide ((runM (oneM 1 (⟨7, 1, 0, [], 0⟩) ([⟨18, 1, 0, 0, 0, 0, (-3), []⟩])) (⟨[5], [], [], 9⟩)).Steps = 2))) && (decide ((funcM (oneM 1 (⟨7, 1, 0, [], 0⟩) ([⟨18, 1, 0, 0, 0, 0, 128, []⟩]))).1 = 32))) := by
    exact sh_law.symm
  exact PF.ret1 rfl rfl ⟨by rw [hm] <;> rfl, hkp⟩

end Go.Proofs.Ytehibklogdngbaa
