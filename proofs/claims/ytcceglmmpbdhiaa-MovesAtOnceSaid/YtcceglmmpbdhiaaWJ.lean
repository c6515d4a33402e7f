/- Walks. Conditions: each contract names its own. -/
import Derived.Test.YtcceglmmpbdhiaaWI
namespace Go.Proofs.Ytcceglmmpbdhiaa
set_option linter.unusedVariables false
set_option linter.unusedSimpArgs false
set_option linter.unusedSectionVars false
set_option maxRecDepth 8000
open Go.JE

theorem Try.ent17 : Ent Try.prog 17 := ⟨_, Try.func17, by kernel_rfl, by kernel_rfl⟩
theorem Try.ent19 : Ent Try.prog 19 := ⟨_, Try.func19, by kernel_rfl, by kernel_rfl⟩
theorem Try.ent28 : Ent Try.prog 28 := ⟨_, Try.func28, by kernel_rfl, by kernel_rfl⟩
theorem Try.fld56_0 : Fld Try.prog 56 0 0 := ⟨_, _, Try.underlying56, rfl, rfl, 1, (by unfold Sz; kernel_rfl), by decide⟩
theorem Try.fld56_1 : Fld Try.prog 56 1 1 := ⟨_, _, Try.underlying56, rfl, rfl, 1, (by unfold Sz; kernel_rfl), by decide⟩
/- ---------------------------------------------- the laws: the first ones -/
theorem orderGo_args {scr sp : Int} : ∀ (f : Nat) (mv : List D.Move) (o : List D.Mach) (e : Int), NoArgs o → NoArgs (orderGo scr sp f mv o e).1
  | 0, _, _, _, h => h
  | f + 1, mv, o, e, h => by
    unfold orderGo
    split
    · exact h
    · split
      · refine orderGo_args f _ _ _ ?_
        unfold bringL; split
        · exact h
        · exact h.app (NoArgs.bringX _ _ _ _)
      · exact orderGo_args f _ _ _ (roundR_args _ _ h)
theorem orderR_args (l : List D.Move) (scr sp : Int) : NoArgs (orderR l scr sp).1 := by
  have hn : NoArgs [] := fun _ h => by cases h
  unfold orderR
  split
  · exact hn
  · split
    · exact hn
    · exact orderGo_args _ _ _ _ hn
theorem sameM_self {a : List D.Mach} (h : NoArgs a) : sameM a a = true := by
  unfold sameM
  rw [decide_eq_true rfl, Bool.true_and, List.all_eq_true]
  intro i hi; simpa using h i hi
theorem tells_law (l : List D.Move) (scr sp : Int) : (decide ((orderR l scr sp).2 = (orderG l scr sp).E) && sameM (orderR l scr sp).1 (orderG l scr sp).L) = true := by
  show (decide ((orderR l scr sp).2 = (orderR l scr sp).2) && sameM (orderR l scr sp).1 (orderR l scr sp).1) = true
  rw [sameM_self (orderR_args l scr sp)]; simp
theorem few_len (l : List D.Move) : (fewM l).length ≤ 24 := by unfold fewM; rw [List.length_take]; omega
theorem made_len (s : List Int) : (madeM s).length ≤ 20 := madeFrom_len s 0
theorem rowsM_self (a : List Int) : rowsM a a = true := by simp [rowsM]

-- jacquard/jacquardlaw11.awake: function 12
theorem awake_ct {F : PH} {H : Heap} (hin : InH F H)  :
    Ct Try.prog 12 #[] H (fun v H' => v = .bool (true ) ∧ Kp H.size H H') := by
  have hkp := Kp.refl H.size H
  have hx := PH.ext.refl (H := H) F
  refine Ct.enter (args := []) Try.func12 rfl rfl rfl (fun w0 hw0 => ?_)
  refine CF.seq (CF.region (LF.step (OpOk.assign rfl) (LF.nil (PF.next (CF.seq (CF.region ?_))))))
  refine LF.step (OpOk.build (v := .agg #[.int .i64 2, .int .i64 1]) rfl (fun w => by kernel_rfl)) ?_
  refine LF.step (OpOk.build (v := .agg #[.int .i64 1, .int .i64 0]) rfl (fun w => by kernel_rfl)) ?_
  refine LF.chg (OpCh.litL (F := F) (r := rMove) (l := [⟨2, 1⟩, ⟨1, 0⟩]) (us := [.agg #[.int .i64 2, .int .i64 1], .agg #[.int .i64 1, .int .i64 0]]) (cs := [[.int .i64 2, .int .i64 1], [.int .i64 1, .int .i64 0]]) Try.underlying22 Try.info31 (by decide) rfl rfl rfl ⟨rfl, rfl, (ra_ok (rMove.mk (m := ⟨2, 1⟩) (by decide : IntKind.i64.wrap 2 = 2) (by decide : IntKind.i64.wrap 1 = 1))), ⟨rfl, rfl, (ra_ok (rMove.mk (m := ⟨1, 0⟩) (by decide : IntKind.i64.wrap 1 = 1) (by decide : IntKind.i64.wrap 0 = 0))), trivial⟩⟩) ?_
  rintro _ H15 ⟨g15, rfl, e15, s15, k15, x15⟩
  have l15 := hkp.1
  replace x15 := (x15 hin).base l15
  have zk15 := k15.1
  replace hin := hin.kp k15
  replace hkp := hkp.trans (k15.mono hkp.1)
  obtain ⟨Fz1, hxz1, lez1, hinz1, noz1, hrz1⟩ := x15.freezeX hin hx (Nat.le_refl _) (by first | (simp only [List.length_append, List.length_take, List.length_drop, List.length_nil, List.length_cons, List.length_set, List.length_replicate]; omega) | (simp; done) | (simp; omega) | omega)
  replace hin := hinz1
  replace hx := hxz1
  have le0 := lez1
  refine LF.call (OpCall.fn Try.ent17 rfl rfl) (pOrder_ct hin hrz1 (-1) (-1) (by first | omega | decide | (simp; done) | (have := few_len l; omega) | (have := made_len s; omega)) (by decide : IntKind.i64.wrap (-1) = (-1)) (by decide : IntKind.i64.wrap (-1) = (-1))) ?_
  rintro _ H16 ⟨F16, x16, i16, k16, v160, rfl, h160⟩
  have zk16 := k16.1
  replace hx := hx.trans x16 hkp.1
  replace hkp := hkp.trans (k16.mono hkp.1)
  have l16 := hkp.1
  replace le0 := le0.trans x16.1
  have le1 := x16.1
  have hin := i16
  have h160q := rL.len2 h160
  refine LF.step (OpOk.move rfl) ?_
  refine LF.step (OpOk.extract (v := v160) rfl rfl) ?_
  refine LF.step (OpOk.extract (v := .int .i64 ((orderR ([⟨2, 1⟩, ⟨1, 0⟩]) (-1) (-1)).2)) rfl rfl) ?_
  refine LF.step (OpOk.assign rfl) (LF.step (OpOk.assign rfl) (LF.nil (PF.next (CF.seq (CF.region ?_)))))
  refine LF.step (OpOk.build (v := .agg #[.int .i64 0, .int .i64 1]) rfl (fun w => by kernel_rfl)) ?_
  refine LF.step (OpOk.build (v := .agg #[.int .i64 1, .int .i64 0]) rfl (fun w => by kernel_rfl)) ?_
  refine LF.chg (OpCh.litL (F := F16) (r := rMove) (l := [⟨0, 1⟩, ⟨1, 0⟩]) (us := [.agg #[.int .i64 0, .int .i64 1], .agg #[.int .i64 1, .int .i64 0]]) (cs := [[.int .i64 0, .int .i64 1], [.int .i64 1, .int .i64 0]]) Try.underlying22 Try.info31 (by decide) rfl rfl rfl ⟨rfl, rfl, (ra_ok (rMove.mk (m := ⟨0, 1⟩) (by decide : IntKind.i64.wrap 0 = 0) (by decide : IntKind.i64.wrap 1 = 1))), ⟨rfl, rfl, (ra_ok (rMove.mk (m := ⟨1, 0⟩) (by decide : IntKind.i64.wrap 1 = 1) (by decide : IntKind.i64.wrap 0 = 0))), trivial⟩⟩) ?_
  rintro _ H22 ⟨g22, rfl, e22, s22, k22, x22⟩
  have l22 := hkp.1
  replace x22 := (x22 hin).base l22
  have zk22 := k22.1
  replace hin := hin.kp k22
  replace hkp := hkp.trans (k22.mono hkp.1)
  obtain ⟨Fz2, hxz2, lez2, hinz2, noz2, hrz2⟩ := x22.freezeX hin hx (Nat.le_refl _) (by first | (simp only [List.length_append, List.length_take, List.length_drop, List.length_nil, List.length_cons, List.length_set, List.length_replicate]; omega) | (simp; done) | (simp; omega) | omega)
  replace hin := hinz2
  replace hx := hxz2
  replace le0 := le0.trans lez2
  replace le1 := le1.trans lez2
  have le2 := lez2
  refine LF.call (OpCall.fn Try.ent17 rfl rfl) (pOrder_ct hin hrz2 5 (-1) (by first | omega | decide | (simp; done) | (have := few_len l; omega) | (have := made_len s; omega)) (by decide : IntKind.i64.wrap 5 = 5) (by decide : IntKind.i64.wrap (-1) = (-1))) ?_
  rintro _ H23 ⟨F23, x23, i23, k23, v230, rfl, h230⟩
  have zk23 := k23.1
  replace hx := hx.trans x23 hkp.1
  replace hkp := hkp.trans (k23.mono hkp.1)
  have l23 := hkp.1
  replace le0 := le0.trans x23.1
  replace le1 := le1.trans x23.1
  replace le2 := le2.trans x23.1
  have le3 := x23.1
  have hin := i23
  have h230q := rL.len2 h230
  refine LF.step (OpOk.move rfl) ?_
  refine LF.step (OpOk.extract (v := v230) rfl rfl) ?_
  refine LF.step (OpOk.extract (v := .int .i64 ((orderR ([⟨0, 1⟩, ⟨1, 0⟩]) 5 (-1)).2)) rfl rfl) ?_
  refine LF.step (OpOk.assign rfl) (LF.step (OpOk.assign rfl) (LF.nil (PF.next (CF.seq (CF.region ?_)))))
  refine LF.step (OpOk.build (v := .agg #[.int .i64 16, .int .i64 17]) rfl (fun w => by kernel_rfl)) ?_
  refine LF.chg (OpCh.litL (F := F23) (r := rMove) (l := [⟨16, 17⟩]) (us := [.agg #[.int .i64 16, .int .i64 17]]) (cs := [[.int .i64 16, .int .i64 17]]) Try.underlying22 Try.info31 (by decide) rfl rfl rfl ⟨rfl, rfl, (ra_ok (rMove.mk (m := ⟨16, 17⟩) (by decide : IntKind.i64.wrap 16 = 16) (by decide : IntKind.i64.wrap 17 = 17))), trivial⟩) ?_
  rintro _ H28 ⟨g28, rfl, e28, s28, k28, x28⟩
  have l28 := hkp.1
  replace x28 := (x28 hin).base l28
  have zk28 := k28.1
  replace hin := hin.kp k28
  replace hkp := hkp.trans (k28.mono hkp.1)
  obtain ⟨Fz3, hxz3, lez3, hinz3, noz3, hrz3⟩ := x28.freezeX hin hx (Nat.le_refl _) (by first | (simp only [List.length_append, List.length_take, List.length_drop, List.length_nil, List.length_cons, List.length_set, List.length_replicate]; omega) | (simp; done) | (simp; omega) | omega)
  replace hin := hinz3
  replace hx := hxz3
  replace le0 := le0.trans lez3
  replace le1 := le1.trans lez3
  replace le2 := le2.trans lez3
  replace le3 := le3.trans lez3
  have le4 := lez3
  refine LF.call (OpCall.fn Try.ent17 rfl rfl) (pOrder_ct hin hrz3 (-1) 7 (by first | omega | decide | (simp; done) | (have := few_len l; omega) | (have := made_len s; omega)) (by decide : IntKind.i64.wrap (-1) = (-1)) (by decide : IntKind.i64.wrap 7 = 7)) ?_
  rintro _ H29 ⟨F29, x29, i29, k29, v290, rfl, h290⟩
  have zk29 := k29.1
  replace hx := hx.trans x29 hkp.1
  replace hkp := hkp.trans (k29.mono hkp.1)
  have l29 := hkp.1
  replace le0 := le0.trans x29.1
  replace le1 := le1.trans x29.1
  replace le2 := le2.trans x29.1
  replace le3 := le3.trans x29.1
  replace le4 := le4.trans x29.1
  have le5 := x29.1
  have hin := i29
  have h290q := rL.len2 h290
  refine LF.step (OpOk.move rfl) ?_
  refine LF.step (OpOk.extract (v := v290) rfl rfl) ?_
  refine LF.step (OpOk.extract (v := .int .i64 ((orderR ([⟨16, 17⟩]) (-1) 7).2)) rfl rfl) ?_
  refine LF.step (OpOk.assign rfl) (LF.step (OpOk.assign rfl) (LF.nil (PF.next (CF.seq (CF.region ?_)))))
  refine LF.step (OpOk.build (v := .agg #[.int .i64 16, .int .i64 17]) rfl (fun w => by kernel_rfl)) ?_
  refine LF.chg (OpCh.litL (F := F29) (r := rMove) (l := [⟨16, 17⟩]) (us := [.agg #[.int .i64 16, .int .i64 17]]) (cs := [[.int .i64 16, .int .i64 17]]) Try.underlying22 Try.info31 (by decide) rfl rfl rfl ⟨rfl, rfl, (ra_ok (rMove.mk (m := ⟨16, 17⟩) (by decide : IntKind.i64.wrap 16 = 16) (by decide : IntKind.i64.wrap 17 = 17))), trivial⟩) ?_
  rintro _ H34 ⟨g34, rfl, e34, s34, k34, x34⟩
  have l34 := hkp.1
  replace x34 := (x34 hin).base l34
  have zk34 := k34.1
  replace hin := hin.kp k34
  replace hkp := hkp.trans (k34.mono hkp.1)
  obtain ⟨Fz4, hxz4, lez4, hinz4, noz4, hrz4⟩ := x34.freezeX hin hx (Nat.le_refl _) (by first | (simp only [List.length_append, List.length_take, List.length_drop, List.length_nil, List.length_cons, List.length_set, List.length_replicate]; omega) | (simp; done) | (simp; omega) | omega)
  replace hin := hinz4
  replace hx := hxz4
  replace le0 := le0.trans lez4
  replace le1 := le1.trans lez4
  replace le2 := le2.trans lez4
  replace le3 := le3.trans lez4
  replace le4 := le4.trans lez4
  replace le5 := le5.trans lez4
  have le6 := lez4
  refine LF.call (OpCall.fn Try.ent17 rfl rfl) (pOrder_ct hin hrz4 (-1) (-1) (by first | omega | decide | (simp; done) | (have := few_len l; omega) | (have := made_len s; omega)) (by decide : IntKind.i64.wrap (-1) = (-1)) (by decide : IntKind.i64.wrap (-1) = (-1))) ?_
  rintro _ H35 ⟨F35, x35, i35, k35, v350, rfl, h350⟩
  have zk35 := k35.1
  replace hx := hx.trans x35 hkp.1
  replace hkp := hkp.trans (k35.mono hkp.1)
  have l35 := hkp.1
  replace le0 := le0.trans x35.1
  replace le1 := le1.trans x35.1
  replace le2 := le2.trans x35.1
  replace le3 := le3.trans x35.1
  replace le4 := le4.trans x35.1
  replace le5 := le5.trans x35.1
  replace le6 := le6.trans x35.1
  have le7 := x35.1
  have hin := i35
  have h350q := rL.len2 h350
  refine LF.step (OpOk.move rfl) ?_
  refine LF.step (OpOk.extract (v := v350) rfl rfl) ?_
  refine LF.step (OpOk.extract (v := .int .i64 ((orderR ([⟨16, 17⟩]) (-1) (-1)).2)) rfl rfl) ?_
  refine LF.step (OpOk.assign rfl) (LF.step (OpOk.assign rfl) (LF.nil (PF.next (CF.seq (CF.region (LF.step (OpOk.move rfl) ?_))))))
  refine LF.step (OpOk.build (v := .agg #[.int .i64 1, .int .i64 2, .int .i64 0, .int .i64 1, .int .i64 0, .int .i64 0, .int .i32 0, .slice none 0 0]) rfl (fun w => by kernel_rfl)) ?_
  refine LF.step (OpOk.build (v := .agg #[.int .i64 1, .int .i64 1, .int .i64 0, .int .i64 0, .int .i64 0, .int .i64 0, .int .i32 0, .slice none 0 0]) rfl (fun w => by kernel_rfl)) ?_
  refine LF.chg (OpCh.litL (F := F35) (r := rMach) (l := [⟨1, 2, 0, 1, 0, 0, 0, []⟩, ⟨1, 1, 0, 0, 0, 0, 0, []⟩]) (us := [.agg #[.int .i64 1, .int .i64 2, .int .i64 0, .int .i64 1, .int .i64 0, .int .i64 0, .int .i32 0, .slice none 0 0], .agg #[.int .i64 1, .int .i64 1, .int .i64 0, .int .i64 0, .int .i64 0, .int .i64 0, .int .i32 0, .slice none 0 0]]) (cs := [[.int .i64 1, .int .i64 2, .int .i64 0, .int .i64 1, .int .i64 0, .int .i64 0, .int .i32 0, .slice none 0 0], [.int .i64 1, .int .i64 1, .int .i64 0, .int .i64 0, .int .i64 0, .int .i64 0, .int .i32 0, .slice none 0 0]]) Try.underlying34 Try.info39 (by decide) rfl rfl rfl ⟨rfl, rfl, (ra_ok (rMach.mk (m := ⟨1, 2, 0, 1, 0, 0, 0, []⟩) (rL.nil _) (by decide : IntKind.i64.wrap 1 = 1) (by decide : IntKind.i64.wrap 2 = 2) (by decide : IntKind.i64.wrap 0 = 0) (by decide : IntKind.i64.wrap 1 = 1) (by decide : IntKind.i64.wrap 0 = 0) (by decide : IntKind.i64.wrap 0 = 0) (by decide : IntKind.i32.wrap 0 = 0))), ⟨rfl, rfl, (ra_ok (rMach.mk (m := ⟨1, 1, 0, 0, 0, 0, 0, []⟩) (rL.nil _) (by decide : IntKind.i64.wrap 1 = 1) (by decide : IntKind.i64.wrap 1 = 1) (by decide : IntKind.i64.wrap 0 = 0) (by decide : IntKind.i64.wrap 0 = 0) (by decide : IntKind.i64.wrap 0 = 0) (by decide : IntKind.i64.wrap 0 = 0) (by decide : IntKind.i32.wrap 0 = 0))), trivial⟩⟩) ?_
  rintro _ H41 ⟨g41, rfl, e41, s41, k41, x41⟩
  have l41 := hkp.1
  replace x41 := (x41 hin).base l41
  have zk41 := k41.1
  replace hin := hin.kp k41
  replace hkp := hkp.trans (k41.mono hkp.1)
  refine LF.call (OpCall.fn Try.ent19 rfl rfl) (x41.temp 1073741824 hin (by first | (simp only [List.length_append, List.length_take, List.length_drop, List.length_nil, List.length_cons, List.length_set, List.length_replicate]; omega) | (simp; done) | (simp; omega) | omega) (fun G1 lg1 hin1 hr1 => same_ct hin1 ((h160.up le2).up lg1) hr1)) ?_
  rintro _ H42 ⟨rfl, k42⟩
  have zk42 := k42.1
  replace hin := hin.kp k42
  replace hkp := hkp.trans (k42.mono hkp.1)
  replace x41 := x41.kp k42
  refine LF.step (OpOk.assign rfl) (LF.nil (PF.next (CF.seq (CF.region (LF.step (OpOk.move rfl) ?_)))))
  refine LF.step (OpOk.build (v := .agg #[.int .i64 1, .int .i64 5, .int .i64 0, .int .i64 0, .int .i64 0, .int .i64 0, .int .i32 0, .slice none 0 0]) rfl (fun w => by kernel_rfl)) ?_
  refine LF.step (OpOk.build (v := .agg #[.int .i64 1, .int .i64 0, .int .i64 0, .int .i64 1, .int .i64 0, .int .i64 0, .int .i32 0, .slice none 0 0]) rfl (fun w => by kernel_rfl)) ?_
  refine LF.step (OpOk.build (v := .agg #[.int .i64 1, .int .i64 1, .int .i64 0, .int .i64 5, .int .i64 0, .int .i64 0, .int .i32 0, .slice none 0 0]) rfl (fun w => by kernel_rfl)) ?_
  refine LF.chg (OpCh.litL (F := F35) (r := rMach) (l := [⟨1, 5, 0, 0, 0, 0, 0, []⟩, ⟨1, 0, 0, 1, 0, 0, 0, []⟩, ⟨1, 1, 0, 5, 0, 0, 0, []⟩]) (us := [.agg #[.int .i64 1, .int .i64 5, .int .i64 0, .int .i64 0, .int .i64 0, .int .i64 0, .int .i32 0, .slice none 0 0], .agg #[.int .i64 1, .int .i64 0, .int .i64 0, .int .i64 1, .int .i64 0, .int .i64 0, .int .i32 0, .slice none 0 0], .agg #[.int .i64 1, .int .i64 1, .int .i64 0, .int .i64 5, .int .i64 0, .int .i64 0, .int .i32 0, .slice none 0 0]]) (cs := [[.int .i64 1, .int .i64 5, .int .i64 0, .int .i64 0, .int .i64 0, .int .i64 0, .int .i32 0, .slice none 0 0], [.int .i64 1, .int .i64 0, .int .i64 0, .int .i64 1, .int .i64 0, .int .i64 0, .int .i32 0, .slice none 0 0], [.int .i64 1, .int .i64 1, .int .i64 0, .int .i64 5, .int .i64 0, .int .i64 0, .int .i32 0, .slice none 0 0]]) Try.underlying34 Try.info39 (by decide) rfl rfl rfl ⟨rfl, rfl, (ra_ok (rMach.mk (m := ⟨1, 5, 0, 0, 0, 0, 0, []⟩) (rL.nil _) (by decide : IntKind.i64.wrap 1 = 1) (by decide : IntKind.i64.wrap 5 = 5) (by decide : IntKind.i64.wrap 0 = 0) (by decide : IntKind.i64.wrap 0 = 0) (by decide : IntKind.i64.wrap 0 = 0) (by decide : IntKind.i64.wrap 0 = 0) (by decide : IntKind.i32.wrap 0 = 0))), ⟨rfl, rfl, (ra_ok (rMach.mk (m := ⟨1, 0, 0, 1, 0, 0, 0, []⟩) (rL.nil _) (by decide : IntKind.i64.wrap 1 = 1) (by decide : IntKind.i64.wrap 0 = 0) (by decide : IntKind.i64.wrap 0 = 0) (by decide : IntKind.i64.wrap 1 = 1) (by decide : IntKind.i64.wrap 0 = 0) (by decide : IntKind.i64.wrap 0 = 0) (by decide : IntKind.i32.wrap 0 = 0))), ⟨rfl, rfl, (ra_ok (rMach.mk (m := ⟨1, 1, 0, 5, 0, 0, 0, []⟩) (rL.nil _) (by decide : IntKind.i64.wrap 1 = 1) (by decide : IntKind.i64.wrap 1 = 1) (by decide : IntKind.i64.wrap 0 = 0) (by decide : IntKind.i64.wrap 5 = 5) (by decide : IntKind.i64.wrap 0 = 0) (by decide : IntKind.i64.wrap 0 = 0) (by decide : IntKind.i32.wrap 0 = 0))), trivial⟩⟩⟩) ?_
  rintro _ H47 ⟨g47, rfl, e47, s47, k47, x47⟩
  have l47 := hkp.1
  have ap41_47 := ap_new x41.lt (x47 hin).ge
  replace x47 := (x47 hin).base l47
  have zk47 := k47.1
  replace hin := hin.kp k47
  replace hkp := hkp.trans (k47.mono hkp.1)
  replace x41 := x41.kp k47
  have ap47_41 := ap_sym ap41_47
  refine LF.call (OpCall.fn Try.ent19 rfl rfl) (x47.temp 1073741824 hin (by first | (simp only [List.length_append, List.length_take, List.length_drop, List.length_nil, List.length_cons, List.length_set, List.length_replicate]; omega) | (simp; done) | (simp; omega) | omega) (fun G1 lg1 hin1 hr1 => same_ct hin1 ((h230.up le4).up lg1) hr1)) ?_
  rintro _ H48 ⟨rfl, k48⟩
  have zk48 := k48.1
  replace hin := hin.kp k48
  replace hkp := hkp.trans (k48.mono hkp.1)
  replace x41 := x41.kp k48
  replace x47 := x47.kp k48
  refine LF.step (OpOk.assign rfl) (LF.nil (PF.next (CF.seq (CF.region (LF.step (OpOk.move rfl) ?_)))))
  refine LF.step (OpOk.build (v := .agg #[.int .i64 31, .int .i64 0, .int .i64 0, .int .i64 0, .int .i64 0, .int .i64 0, .int .i32 8, .slice none 0 0]) rfl (fun w => by kernel_rfl)) ?_
  refine LF.step (OpOk.build (v := .agg #[.int .i64 30, .int .i64 0, .int .i64 0, .int .i64 0, .int .i64 0, .int .i64 0, .int .i32 1, .slice none 0 0]) rfl (fun w => by kernel_rfl)) ?_
  refine LF.step (OpOk.build (v := .agg #[.int .i64 31, .int .i64 0, .int .i64 0, .int .i64 0, .int .i64 0, .int .i64 0, .int .i32 0, .slice none 0 0]) rfl (fun w => by kernel_rfl)) ?_
  refine LF.step (OpOk.build (v := .agg #[.int .i64 30, .int .i64 0, .int .i64 0, .int .i64 0, .int .i64 0, .int .i64 0, .int .i32 8, .slice none 0 0]) rfl (fun w => by kernel_rfl)) ?_
  refine LF.chg (OpCh.litL (F := F35) (r := rMach) (l := [⟨31, 0, 0, 0, 0, 0, 8, []⟩, ⟨30, 0, 0, 0, 0, 0, 1, []⟩, ⟨31, 0, 0, 0, 0, 0, 0, []⟩, ⟨30, 0, 0, 0, 0, 0, 8, []⟩]) (us := [.agg #[.int .i64 31, .int .i64 0, .int .i64 0, .int .i64 0, .int .i64 0, .int .i64 0, .int .i32 8, .slice none 0 0], .agg #[.int .i64 30, .int .i64 0, .int .i64 0, .int .i64 0, .int .i64 0, .int .i64 0, .int .i32 1, .slice none 0 0], .agg #[.int .i64 31, .int .i64 0, .int .i64 0, .int .i64 0, .int .i64 0, .int .i64 0, .int .i32 0, .slice none 0 0], .agg #[.int .i64 30, .int .i64 0, .int .i64 0, .int .i64 0, .int .i64 0, .int .i64 0, .int .i32 8, .slice none 0 0]]) (cs := [[.int .i64 31, .int .i64 0, .int .i64 0, .int .i64 0, .int .i64 0, .int .i64 0, .int .i32 8, .slice none 0 0], [.int .i64 30, .int .i64 0, .int .i64 0, .int .i64 0, .int .i64 0, .int .i64 0, .int .i32 1, .slice none 0 0], [.int .i64 31, .int .i64 0, .int .i64 0, .int .i64 0, .int .i64 0, .int .i64 0, .int .i32 0, .slice none 0 0], [.int .i64 30, .int .i64 0, .int .i64 0, .int .i64 0, .int .i64 0, .int .i64 0, .int .i32 8, .slice none 0 0]]) Try.underlying34 Try.info39 (by decide) rfl rfl rfl ⟨rfl, rfl, (ra_ok (rMach.mk (m := ⟨31, 0, 0, 0, 0, 0, 8, []⟩) (rL.nil _) (by decide : IntKind.i64.wrap 31 = 31) (by decide : IntKind.i64.wrap 0 = 0) (by decide : IntKind.i64.wrap 0 = 0) (by decide : IntKind.i64.wrap 0 = 0) (by decide : IntKind.i64.wrap 0 = 0) (by decide : IntKind.i64.wrap 0 = 0) (by decide : IntKind.i32.wrap 8 = 8))), ⟨rfl, rfl, (ra_ok (rMach.mk (m := ⟨30, 0, 0, 0, 0, 0, 1, []⟩) (rL.nil _) (by decide : IntKind.i64.wrap 30 = 30) (by decide : IntKind.i64.wrap 0 = 0) (by decide : IntKind.i64.wrap 0 = 0) (by decide : IntKind.i64.wrap 0 = 0) (by decide : IntKind.i64.wrap 0 = 0) (by decide : IntKind.i64.wrap 0 = 0) (by decide : IntKind.i32.wrap 1 = 1))), ⟨rfl, rfl, (ra_ok (rMach.mk (m := ⟨31, 0, 0, 0, 0, 0, 0, []⟩) (rL.nil _) (by decide : IntKind.i64.wrap 31 = 31) (by decide : IntKind.i64.wrap 0 = 0) (by decide : IntKind.i64.wrap 0 = 0) (by decide : IntKind.i64.wrap 0 = 0) (by decide : IntKind.i64.wrap 0 = 0) (by decide : IntKind.i64.wrap 0 = 0) (by decide : IntKind.i32.wrap 0 = 0))), ⟨rfl, rfl, (ra_ok (rMach.mk (m := ⟨30, 0, 0, 0, 0, 0, 8, []⟩) (rL.nil _) (by decide : IntKind.i64.wrap 30 = 30) (by decide : IntKind.i64.wrap 0 = 0) (by decide : IntKind.i64.wrap 0 = 0) (by decide : IntKind.i64.wrap 0 = 0) (by decide : IntKind.i64.wrap 0 = 0) (by decide : IntKind.i64.wrap 0 = 0) (by decide : IntKind.i32.wrap 8 = 8))), trivial⟩⟩⟩⟩) ?_
  rintro _ H54 ⟨g54, rfl, e54, s54, k54, x54⟩
  have l54 := hkp.1
  have ap41_54 := ap_new x41.lt (x54 hin).ge
  have ap47_54 := ap_new x47.lt (x54 hin).ge
  replace x54 := (x54 hin).base l54
  have zk54 := k54.1
  replace hin := hin.kp k54
  replace hkp := hkp.trans (k54.mono hkp.1)
  replace x41 := x41.kp k54
  replace x47 := x47.kp k54
  have ap54_41 := ap_sym ap41_54
  have ap54_47 := ap_sym ap47_54
  refine LF.call (OpCall.fn Try.ent19 rfl rfl) (x54.temp 1073741824 hin (by first | (simp only [List.length_append, List.length_take, List.length_drop, List.length_nil, List.length_cons, List.length_set, List.length_replicate]; omega) | (simp; done) | (simp; omega) | omega) (fun G1 lg1 hin1 hr1 => same_ct hin1 ((h290.up le6).up lg1) hr1)) ?_
  rintro _ H55 ⟨rfl, k55⟩
  have zk55 := k55.1
  replace hin := hin.kp k55
  replace hkp := hkp.trans (k55.mono hkp.1)
  replace x41 := x41.kp k55
  replace x47 := x47.kp k55
  replace x54 := x54.kp k55
  refine LF.step (OpOk.assign rfl) (LF.nil (PF.next (CF.seq (CF.region (LF.step (OpOk.move rfl) (LF.step (OpOk.move rfl) ?_))))))
  refine LF.gstep rfl rfl (.t _) (fun hg => OpOk.move rfl) ?_
  refine LF.step (OpOk.pickAnd rfl rfl) ?_
  refine LF.step (OpOk.move rfl) ?_
  refine LF.gstep rfl rfl (.t _) (fun hg => OpOk.move rfl) ?_
  refine LF.step (OpOk.pickAnd rfl rfl) ?_
  refine LF.step (OpOk.move rfl) ?_
  refine LF.gstep rfl rfl (.t _) (fun hg => OpOk.move rfl) ?_
  refine LF.gstep rfl rfl (.t _) (fun hg => OpOk.eql (evg rfl hg) rfl) ?_
  refine LF.step (OpOk.pickAnd rfl rfl) ?_
  refine LF.step (OpOk.move rfl) ?_
  refine LF.gstep rfl rfl (.t _) (fun hg => OpOk.move rfl) ?_
  refine LF.gstep rfl rfl (.t _) (fun hg => OpOk.eql (evg rfl hg) rfl) ?_
  refine LF.step (OpOk.pickAnd rfl rfl) ?_
  refine LF.step (OpOk.move rfl) ?_
  refine LF.gstep rfl rfl (.t _) (fun hg => OpOk.move rfl) ?_
  refine LF.gstep rfl rfl (.t _) (fun hg => OpOk.eql (evg rfl hg) rfl) ?_
  refine LF.step (OpOk.pickAnd rfl rfl) ?_
  refine LF.step (OpOk.move rfl) ?_
  refine LF.gstep rfl rfl (.t _) (fun hg => OpOk.move rfl) ?_
  refine LF.gstep rfl rfl (.t _) (fun hg => OpOk.eql (evg rfl hg) rfl) ?_
  refine LF.step (OpOk.pickAnd rfl rfl) ?_
  refine LF.step (OpOk.assign rfl) (LF.nil (PF.next (CF.ret ?_)))
  have hm : true  = (((((((sameM ((orderR ([⟨2, 1⟩, ⟨1, 0⟩]) (-1) (-1)).1) ([⟨1, 2, 0, 1, 0, 0, 0, []⟩, ⟨1, 1, 0, 0, 0, 0, 0, []⟩])) && (sameM ((orderR ([⟨0, 1⟩, ⟨1, 0⟩]) 5 (-1)).1) ([⟨1, 5, 0, 0, 0, 0, 0, []⟩, ⟨1, 0, 0, 1, 0, 0, 0, []⟩, ⟨1, 1, 0, 5, 0, 0, 0, []⟩]))) && (sameM ((orderR ([⟨16, 17⟩]) (-1) 7).1) ([⟨31, 0, 0, 0, 0, 0, 8, []⟩, ⟨30, 0, 0, 0, 0, 0, 1, []⟩, ⟨31, 0, 0, 0, 0, 0, 0, []⟩, ⟨30, 0, 0, 0, 0, 0, 8, []⟩]))) && (decide ((orderR ([⟨2, 1⟩, ⟨1, 0⟩]) (-1) (-1)).2 = 0))) && (decide ((orderR ([⟨0, 1⟩, ⟨1, 0⟩]) 5 (-1)).2 = 0))) && (decide ((orderR ([⟨16, 17⟩]) (-1) 7).2 = 0))) && (decide ((orderR ([⟨16, 17⟩]) (-1) (-1)).2 = 43))) := by
    kernel_rfl
  exact PF.ret1 rfl rfl ⟨by rw [hm] <;> rfl, hkp⟩

-- jacquard/jacquardlaw11.tells: function 14
theorem tells_ct {F : PH} {H : Heap} (hin : InH F H) {a0 : Value} {l : List D.Move} (p0 : (rL rMove).rv F a0 l) (scr : Int) (sp : Int) (hl9 : l.length ≤ 30) (ww1 : IntKind.i64.wrap scr = scr) (ww2 : IntKind.i64.wrap sp = sp) :
    Ct Try.prog 14 #[a0, .int .i64 scr, .int .i64 sp] H (fun v H' => v = .bool ((fun _ _ _ => true) l scr sp) ∧ Kp H.size H H') := by
  have q0 := rL.len2 p0
  have hkp := Kp.refl H.size H
  have hx := PH.ext.refl (H := H) F
  refine Ct.enter (args := [a0, .int .i64 scr, .int .i64 sp]) Try.func14 rfl rfl rfl (fun w0 hw0 => ?_)
  refine CF.seq (CF.region (LF.step (OpOk.assign rfl) (LF.nil (PF.next (CF.seq (CF.region (LF.step (OpOk.move rfl) (LF.step (OpOk.move rfl) (LF.step (OpOk.move rfl) ?_)))))))))
  refine LF.call (OpCall.fn Try.ent17 rfl rfl) (pOrder_ct hin p0 scr sp (by omega) ww1 ww2) ?_
  rintro _ H14 ⟨F14, x14, i14, k14, v140, rfl, h140⟩
  have zk14 := k14.1
  replace hx := hx.trans x14 hkp.1
  replace hkp := hkp.trans (k14.mono hkp.1)
  have l14 := hkp.1
  have le0 := x14.1
  have hin := i14
  have h140q := rL.len2 h140
  refine LF.step (OpOk.move rfl) ?_
  refine LF.step (OpOk.extract (v := v140) rfl rfl) ?_
  refine LF.step (OpOk.extract (v := .int .i64 ((orderR l scr sp).2)) rfl rfl) ?_
  refine LF.step (OpOk.assign rfl) (LF.step (OpOk.assign rfl) (LF.nil (PF.next (CF.seq (CF.region (LF.step (OpOk.move rfl) (LF.step (OpOk.move rfl) (LF.step (OpOk.move rfl) ?_))))))))
  refine LF.call (OpCall.fn Try.ent28 rfl rfl) (rOrder_ct hin (p0.up le0) scr sp (by omega) ww1 ww2) ?_
  rintro v20 H20 ⟨F20, x20, i20, k20, h20⟩
  have zk20 := k20.1
  replace hx := hx.trans x20 hkp.1
  replace hkp := hkp.trans (k20.mono hkp.1)
  have l20 := hkp.1
  replace le0 := le0.trans x20.1
  have le1 := x20.1
  have hin := i20
  have h20k := rjacquardref11_Got.any h20
  obtain ⟨v20c0, rfl, h20c0⟩ := rjacquardref11_Got.open h20
  have h20c0q := rL.len2 h20c0
  refine LF.chg (OpCh.allocB Try.zero56 rfl) ?_
  rintro _ H9 ⟨g9, rfl, eg9, sg9, kg9, hb9⟩
  have ng9 := hin.nope (Nat.le_of_eq eg9.symm)
  have lg9 := hkp.1
  have zkg9 := kg9.1
  replace hin := hin.kp kg9
  replace hkp := hkp.trans (kg9.mono hkp.1)
  clear kg9
  refine LF.chg0 (OpCh.storeBA hb9 Try.sz56 rfl rfl rfl (allOne.mem (l := [v20c0, .int .i64 ((orderG l scr sp).E)]) ⟨(h20c0.one1), rfl, trivial⟩) (by decide)) ?_
  rintro _ Hw1 ⟨tw1, bw1⟩
  have ztw1 := tw1.1
  replace hin := hin.tw tw1 ng9
  replace hkp := Tw.kp' hkp tw1 (by omega)
  replace hb9 : Bx _ _ _ [v20c0, .int .i64 ((orderG l scr sp).E)] := bw1
  clear bw1 tw1
  refine LF.nil (PF.next (CF.seq (CF.region (LF.step (OpOk.move rfl) ?_))))
  refine LF.step (OpOk.fieldAddr (Try.fld56_1) rfl) ?_
  refine LF.step (OpOk.ldBx hb9 Try.one35 rfl rfl) ?_
  refine LF.step (OpOk.eql rfl rfl) ?_
  refine LF.step (OpOk.move rfl) ?_
  refine LF.gstep rfl rfl (.t _) (fun hg => OpOk.move rfl) ?_
  refine LF.gstep rfl rfl (.t _) (fun hg => OpOk.fieldAddr (Try.fld56_0) rfl) ?_
  refine LF.gstep rfl rfl (.t _) (fun hg => OpOk.ldBx hb9 Try.one34 (evg rfl hg) rfl) ?_
  refine LF.gcallR rfl rfl (.t _) (fun hg => OpCall.fn Try.ent19 rfl (evl2 (evg rfl hg) (evg rfl hg))) (fun hg => same_ct hin (h140.up le1) h20c0) (fun _ _ h => h.1) ?_
  intro Hq2 zq2
  have kq2 := gkp2 zq2
  have zkq2 := kq2.1
  replace hin := hin.kp kq2
  replace hkp := hkp.trans (kq2.mono hkp.1)
  replace hb9 := hb9.kp kq2
  clear zq2
  refine LF.step (OpOk.pickAnd rfl rfl) ?_
  refine LF.step (OpOk.assign rfl) (LF.nil (PF.next (CF.ret ?_)))
  have hm : (fun _ _ _ => true) l scr sp = ((decide ((orderR l scr sp).2 = (orderG l scr sp).E)) && (sameM ((orderR l scr sp).1) ((orderG l scr sp).L))) := by
    exact (tells_law l scr sp).symm
  exact PF.ret1 rfl rfl ⟨by rw [hm] <;> rfl, hkp⟩

end Go.Proofs.Ytcceglmmpbdhiaa
