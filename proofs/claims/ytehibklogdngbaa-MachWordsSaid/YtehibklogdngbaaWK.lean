/- Walks. Conditions: each contract names its own. -/
import Derived.Test.YtehibklogdngbaaWI
namespace Go.Proofs.Ytehibklogdngbaa
set_option linter.unusedVariables false
set_option linter.unusedSimpArgs false
set_option linter.unusedSectionVars false
open Go.JE

theorem Try.ent8 : Ent Try.prog 8 := ⟨_, Try.func8, by kernel_rfl, by kernel_rfl⟩
theorem Try.sz50 : Sz Try.prog 50 5 := by unfold Sz; kernel_rfl
theorem Try.zero50 : (Try.prog.info? 50).bind (·.zero) = some (.agg #[.int .i64 0, .int .i64 0, .int .i64 0, .int .i64 0, .int .i64 0]) := by kernel_rfl
/- ---------------------------------------------- operations of two registers are the words' -/
theorem w_step {op : Int} (a b c : Int) (h : 5 ≤ op ∧ op ≤ 17) : stepM ⟨op, 3, 0, 0, 1, 0, 0, []⟩ [a, b, c, 7] [] = if (doM (op - 5 + 2) a b).2 = true then ((0, true), [a, b, c, (doM (op - 5 + 2) a b).1], []) else ((-1, false), [a, b, c, 7], []) := by
  have hc : op = 5 ∨ op = 6 ∨ op = 7 ∨ op = 8 ∨ op = 9 ∨ op = 10 ∨ op = 11 ∨ op = 12 ∨ op = 13 ∨ op = 14 ∨ op = 15 ∨ op = 16 ∨ op = 17 := by omega
  rcases hc with rfl | rfl | rfl | rfl | rfl | rfl | rfl | rfl | rfl | rfl | rfl | rfl | rfl <;> rfl
theorem w_imm {k : Int} (a b : Int) (h : 0 ≤ k ∧ k < 5) : stepM ⟨18 + k, 1, 0, 0, 0, 0, b, []⟩ [a, 7] [] = ((0, true), [a, (doM (ix [2, 5, 8, 9, 10] (Int.toNat k)) a b).1], []) := by
  have hc : k = 0 ∨ k = 1 ∨ k = 2 ∨ k = 3 ∨ k = 4 := by omega
  rcases hc with rfl | rfl | rfl | rfl | rfl <;> rfl
theorem w_madd (a b c : Int) : stepM ⟨23, 3, 0, 0, 1, 2, 0, []⟩ [a, b, c, 7, 8] [] = ((0, true), [a, b, c, w32 (w32 (a * b) + c), 8], []) := rfl
theorem w_mulw (a b c d e : Int) : stepM ⟨29, 3, 4, 0, 1, 0, 0, []⟩ [a, b, c, d, e] [] = ((0, true), [a, b, c, (wideM a b).1, (wideM a b).2], []) := rfl
theorem w_bad1 {op a b c : Int} (h : 5 ≤ op ∧ op ≤ 17) (hc : (((stepM ⟨op, 3, 0, 0, 1, 0, 0, []⟩ [a, b, c, 7] []).1.2 == (doM (op - 5 + 2) a b).2) = false ∨
      (stepM ⟨op, 3, 0, 0, 1, 0, 0, []⟩ [a, b, c, 7] []).1.2 = true ∧ (¬ ix (stepM ⟨op, 3, 0, 0, 1, 0, 0, []⟩ [a, b, c, 7] []).2.1 3 = (doM (op - 5 + 2) a b).1 ∨ ¬ (stepM ⟨op, 3, 0, 0, 1, 0, 0, []⟩ [a, b, c, 7] []).1.1 = 0)) ∨
      (stepM ⟨op, 3, 0, 0, 1, 0, 0, []⟩ [a, b, c, 7] []).1.2 = false ∧ (¬ ix (stepM ⟨op, 3, 0, 0, 1, 0, 0, []⟩ [a, b, c, 7] []).2.1 3 = 7 ∨ ¬ (stepM ⟨op, 3, 0, 0, 1, 0, 0, []⟩ [a, b, c, 7] []).1.1 = -1)) : False := by
  rw [w_step a b c h] at hc
  by_cases h9 : (doM (op - 5 + 2) a b).2 = true
  · rw [if_pos h9, h9] at hc
    rcases hc with (hc | ⟨_, hc | hc⟩) | ⟨hc, _⟩
    · cases hc
    · exact hc rfl
    · exact hc rfl
    · cases hc
  · rw [if_neg h9, (by simpa using h9 : (doM (op - 5 + 2) a b).2 = false)] at hc
    rcases hc with (hc | ⟨hc, _⟩) | ⟨_, hc | hc⟩
    · cases hc
    · cases hc
    · exact hc rfl
    · exact hc rfl
theorem w_bad2 {k : Nat} {a b : Int} (h : (k : Int) < 5) (hc : ¬ ix (stepM ⟨18 + (k : Int), 1, 0, 0, 0, 0, b, []⟩ [a, 7] []).2.1 1 = (doM (ix [2, 5, 8, 9, 10] k) a b).1) : False := by
  rw [w_imm a b (by omega)] at hc
  exact hc rfl
theorem w_end (a b c : Int) : ((decide (ix (stepM ⟨23, 3, 0, 0, 1, 2, 0, []⟩ [a, b, c, 7, 8] []).2.1 3 = IntKind.i32.wrap (IntKind.i32.wrap (a * b) + c)) &&
    decide (ix (stepM ⟨29, 3, 4, 0, 1, 0, 0, []⟩ (stepM ⟨23, 3, 0, 0, 1, 2, 0, []⟩ [a, b, c, 7, 8] []).2.1 []).2.1 3 = (wideM a b).1)) &&
    decide (ix (stepM ⟨29, 3, 4, 0, 1, 0, 0, []⟩ (stepM ⟨23, 3, 0, 0, 1, 2, 0, []⟩ [a, b, c, 7, 8] []).2.1 []).2.1 4 = (wideM a b).2)) = true := by
  rw [w_madd]
  show ((decide _ && decide (ix (stepM ⟨29, 3, 4, 0, 1, 0, 0, []⟩ [a, b, c, w32 (w32 (a * b) + c), 8] []).2.1 3 = _)) && decide (ix (stepM ⟨29, 3, 4, 0, 1, 0, 0, []⟩ [a, b, c, w32 (w32 (a * b) + c), 8] []).2.1 4 = _)) = true
  rw [w_mulw]
  rw [decide_eq_true (show ix [a, b, c, w32 (w32 (a * b) + c), 8] 3 = IntKind.i32.wrap (IntKind.i32.wrap (a * b) + c) from rfl), decide_eq_true (show ix [a, b, c, (wideM a b).1, (wideM a b).2] 3 = (wideM a b).1 from rfl), decide_eq_true (show ix [a, b, c, (wideM a b).1, (wideM a b).2] 4 = (wideM a b).2 from rfl)]
  rfl

-- jacquard/jacquardlaw07.MachWords: function 5
theorem machWords_ct {F : PH} {H : Heap} (hin : InH F H) (a : Int) (b : Int) (c : Int) (ww0 : IntKind.i32.wrap a = a) (ww1 : IntKind.i32.wrap b = b) (ww2 : IntKind.i32.wrap c = c) :
    Ct Try.prog 5 #[.int .i32 a, .int .i32 b, .int .i32 c] H (fun v H' => v = .bool ((fun _ _ _ => true) a b c) ∧ Kp H.size H H') := by
  have hkp := Kp.refl H.size H
  have hx := PH.ext.refl (H := H) F
  refine Ct.enter (args := [.int .i32 a, .int .i32 b, .int .i32 c]) Try.func5 rfl rfl rfl (fun w0 hw0 => ?_)
  refine CF.seq ?_
  refine CF.region ?_
  refine LF.step (OpOk.assign rfl) ?_
  refine LF.nil ?_
  refine PF.next ?_
  refine CF.seq ?_
  refine CF.region ?_
  refine LF.call (OpCall.fn Try.ent8 rfl rfl) (shown_ct hin ) ?_
  rintro _ H23 ⟨rfl, k23⟩
  have zk23 := k23.1
  replace hin := hin.kp k23
  replace hkp := hkp.trans (k23.mono hkp.1)
  refine LF.step (OpOk.assign rfl) ?_
  refine LF.nil ?_
  refine PF.next ?_
  refine CF.seq ?_
  refine CF.seq ?_
  refine CF.region ?_
  refine LF.step (OpOk.assign rfl) ?_
  refine LF.nil ?_
  refine PF.next ?_
  refine CF.block ?_
  refine CF.loop (ι := Int) (fun op H1 => 5 ≤ op ∧ op ≤ 18 ∧ InH F H1 ∧ Kp H.size H H1) (fun op => [(0, .int .i32 a), (1, .int .i32 b), (2, .int .i32 c), (7, .bool true), (8, .int .i64 op)]) (fun op => Int.toNat (18 - op)) 5 ⟨by omega, by omega, hin, hkp⟩ ⟨rfl, rfl, rfl, rfl, eqI (by omega), trivial⟩ ?_
  clear hin hkp
  rintro op H1 ⟨ho1, ho2, hin, hkp⟩
  refine CF.seq ?_
  refine CF.seq ?_
  refine CF.region ?_
  refine LF.step (OpOk.move rfl) ?_
  refine LF.step (OpOk.leq rfl rfl) ?_
  refine LF.nil ?_
  refine PF.next ?_
  refine CF.if rfl (fun hc1 => ?_) (fun hc1 => ?_)
  · refine CF.skip ?_
    refine PF.next ?_
    refine CF.seq ?_
    refine CF.block ?_
    refine CF.seq ?_
    refine CF.region ?_
    refine LF.step (OpOk.move rfl) ?_
    refine LF.step (OpOk.move rfl) ?_
    refine LF.step (OpOk.move rfl) ?_
    refine LF.chg (OpCh.litL (F := F) (r := (rI .i32)) (l := [a, b, c, 7]) (us := [.int .i32 a, .int .i32 b, .int .i32 c, .int .i32 7]) (cs := [[.int .i32 a], [.int .i32 b], [.int .i32 c], [.int .i32 7]]) Try.underlying25 Try.info21 (by decide) rfl rfl rfl ⟨rfl, rfl, ⟨rfl, ww0⟩, ⟨rfl, rfl, ⟨rfl, ww1⟩, ⟨rfl, rfl, ⟨rfl, ww2⟩, ⟨rfl, rfl, ⟨rfl, (by decide : IntKind.i32.wrap 7 = 7)⟩, trivial⟩⟩⟩⟩) ?_
    rintro _ H31 ⟨g31, rfl, e31, s31, k31, x31⟩
    have l31 := hkp.1
    replace x31 := (x31 hin).base l31
    have zk31 := k31.1
    replace hin := hin.kp k31
    replace hkp := hkp.trans (k31.mono hkp.1)
    refine LF.step (OpOk.assign rfl) ?_
    refine LF.nil ?_
    refine PF.next ?_
    refine CF.seq ?_
    refine CF.region ?_
    refine LF.step (OpOk.move rfl) ?_
    refine LF.step (OpOk.build (v := .agg #[.int .i64 op, .int .i64 3, .int .i64 0, .int .i64 0, .int .i64 1, .int .i64 0, .int .i32 0, .slice none 0 0]) rfl (fun w => by kernel_rfl)) ?_
    refine LF.step (OpOk.move rfl) ?_
    have x9101 := (fun (H9 : Heap) (_ : InH F H9) => (Gl.nil F H9 H.size : Gl (rI .i32) 21 F H9 H.size (.slice none 0 0) [])) _ hin
    have ap9101_31 : ∀ k9, (Value.slice none 0 0).ownBlock = some k9 → (.slice (some ⟨g31, 0, none⟩) 4 4 : Value).ownBlock ≠ some k9 := fun _ h9 => by cases h9
    have ap31_9101 := ap_sym ap9101_31
    refine LF.call (OpCall.fn Try.ent19 rfl rfl) (pDoM_ct hin (rMach.mk (m := ⟨op, 3, 0, 0, 1, 0, 0, []⟩) (rL.nil _) (IntWalk.i64_in op (by omega)) (by decide : IntKind.i64.wrap 3 = 3) (by decide : IntKind.i64.wrap 0 = 0) (by decide : IntKind.i64.wrap 0 = 0) (by decide : IntKind.i64.wrap 1 = 1) (by decide : IntKind.i64.wrap 0 = 0) (by decide : IntKind.i32.wrap 0 = 0)) x31 x9101 (by first | omega | (simp only [List.length_cons, List.length_nil]; omega)) (by first | omega | (simp only [List.length_cons, List.length_nil]; omega)) ap31_9101) ?_
    rintro _ H36 ⟨rfl, k36, x36_1, x36_2⟩
    have zk36 := k36.1
    replace hin := hin.kw k36 (by intro k0 hk0; rcases hk0 with hk0 | hk0; exact x31.no k0 hk0; exact x9101.no k0 hk0)
    replace hkp := hkp.kw k36 (by rintro k0 (hk0 | hk0); exact x31.ge k0 hk0; exact x9101.ge k0 hk0)
    replace x31 := x36_1
    replace x9101 := x36_2
    have w36_0 : IntKind.i32.wrap ((stepM (⟨op, 3, 0, 0, 1, 0, 0, []⟩) ([a, b, c, 7]) ([])).1.1) = (stepM (⟨op, 3, 0, 0, 1, 0, 0, []⟩) ([a, b, c, 7]) ([])).1.1 := stepM_wr _ _ _
    have hl36 := (stepM_len ⟨op, 3, 0, 0, 1, 0, 0, []⟩ [a, b, c, 7] []).1
    simp only [List.length_cons, List.length_nil] at hl36
    refine LF.step (OpOk.move rfl) ?_
    refine LF.step (OpOk.extract (v := .int .i32 ((stepM (⟨op, 3, 0, 0, 1, 0, 0, []⟩) ([a, b, c, 7]) ([])).1.1)) rfl rfl) ?_
    refine LF.step (OpOk.extract (v := .bool ((stepM (⟨op, 3, 0, 0, 1, 0, 0, []⟩) ([a, b, c, 7]) ([])).1.2)) rfl rfl) ?_
    refine LF.step (OpOk.assign rfl) ?_
    refine LF.step (OpOk.assign rfl) ?_
    refine LF.nil ?_
    refine PF.next ?_
    refine CF.seq ?_
    refine CF.region ?_
    refine LF.step (OpOk.move rfl) ?_
    refine LF.step (OpOk.sub rfl rfl (by omega)) ?_
    refine LF.step (OpOk.add rfl rfl (by omega)) ?_
    refine LF.step (OpOk.move rfl) ?_
    refine LF.step (OpOk.move rfl) ?_
    refine LF.call (OpCall.fn Try.ent21 rfl rfl) (wDo_ct hin ((op - 5) + 2) a b) ?_
    rintro _ H45 ⟨rfl, k45⟩
    have zk45 := k45.1
    replace hin := hin.kp k45
    replace hkp := hkp.trans (k45.mono hkp.1)
    replace x31 := x31.kp k45
    have w45_0 : IntKind.i32.wrap ((doM ((op - 5) + 2) a b).1) = (doM ((op - 5) + 2) a b).1 := doM_wr _ _ ww0
    refine LF.step (OpOk.move rfl) ?_
    refine LF.step (OpOk.extract (v := .int .i32 ((doM ((op - 5) + 2) a b).1)) rfl rfl) ?_
    refine LF.step (OpOk.extract (v := .bool ((doM ((op - 5) + 2) a b).2)) rfl rfl) ?_
    refine LF.step (OpOk.assign rfl) ?_
    refine LF.step (OpOk.assign rfl) ?_
    refine LF.nil ?_
    refine PF.next ?_
    refine CF.seq ?_
    refine CF.region ?_
    refine LF.step (OpOk.move rfl) ?_
    refine LF.step (OpOk.move rfl) ?_
    refine LF.step (OpOk.neqB Try.underlying4 rfl rfl) ?_
    refine LF.step (OpOk.move rfl) ?_
    refine LF.gstep rfl rfl (.f _) (fun hg => OpOk.move rfl) ?_
    refine LF.gstep rfl rfl (.f _) (fun hg => OpOk.move (evg rfl hg)) ?_
    refine LF.gstep rfl rfl (.gt _ _) (fun hg => OpOk.move rfl) ?_
    refine LF.gstep rfl rfl (.gt _ _) (fun hg => OpOk.idxG (i := 3) Try.underlying25 Try.sz21 x31 (evg rfl hg) rfl (by omega) (by first | omega | (simp only [List.length_replicate, List.length_set, List.length_append, List.length_cons, List.length_nil]; omega))) ?_
    refine LF.gstep rfl rfl (.gt _ _) (fun hg => OpOk.ldGI x31 (by first | omega | (simp only [List.length_replicate, List.length_set, List.length_append, List.length_cons, List.length_nil]; omega)) Try.one21 (evg rfl hg)) ?_
    refine LF.gstep rfl rfl (.gt _ _) (fun hg => OpOk.move rfl) ?_
    refine LF.gstep rfl rfl (.gt _ _) (fun hg => OpOk.neq (evg rfl hg) (evg rfl hg)) ?_
    refine LF.gstep rfl rfl (.gt _ _) (fun hg => OpOk.move (evg rfl hg)) ?_
    refine LF.gstep rfl rfl (.gf _ _) (fun hg => OpOk.move rfl) ?_
    refine LF.gstep rfl rfl (.gf _ _) (fun hg => OpOk.neq (evg rfl hg) rfl) ?_
    refine LF.gstep rfl rfl (.gt _ _) (fun hg => OpOk.pickOr2 hg rfl rfl) ?_
    refine LF.gstep rfl rfl (.f _) (fun hg => OpOk.pickAnd2 hg rfl rfl) ?_
    refine LF.step (OpOk.pickOr rfl rfl) ?_
    refine LF.step (OpOk.move rfl) ?_
    refine LF.gstep rfl rfl (.f _) (fun hg => OpOk.move rfl) ?_
    refine LF.gstep rfl rfl (.f _) (fun hg => OpOk.not (evg rfl hg)) ?_
    refine LF.gstep rfl rfl (.f _) (fun hg => OpOk.move (evg rfl hg)) ?_
    refine LF.gstep rfl rfl (.gt _ _) (fun hg => OpOk.move rfl) ?_
    refine LF.gstep rfl rfl (.gt _ _) (fun hg => OpOk.idxG (i := 3) Try.underlying25 Try.sz21 x31 (evg rfl hg) rfl (by omega) (by first | omega | (simp only [List.length_replicate, List.length_set, List.length_append, List.length_cons, List.length_nil]; omega))) ?_
    refine LF.gstep rfl rfl (.gt _ _) (fun hg => OpOk.ldGI x31 (by first | omega | (simp only [List.length_replicate, List.length_set, List.length_append, List.length_cons, List.length_nil]; omega)) Try.one21 (evg rfl hg)) ?_
    refine LF.gstep rfl rfl (.gt _ _) (fun hg => OpOk.neq (evg rfl hg) rfl) ?_
    refine LF.gstep rfl rfl (.gt _ _) (fun hg => OpOk.move (evg rfl hg)) ?_
    refine LF.gstep rfl rfl (.gf _ _) (fun hg => OpOk.move rfl) ?_
    refine LF.gstep rfl rfl (.gf _ _) (fun hg => OpOk.neq (evg rfl hg) rfl) ?_
    refine LF.gstep rfl rfl (.gt _ _) (fun hg => OpOk.pickOr2 hg rfl rfl) ?_
    refine LF.gstep rfl rfl (.f _) (fun hg => OpOk.pickAnd2 hg rfl rfl) ?_
    refine LF.step (OpOk.pickOr rfl rfl) ?_
    refine LF.nil ?_
    refine PF.next ?_
    refine CF.if rfl (fun hc2 => ?_) (fun hc2 => ?_)
    · exact (w_bad1 (by omega) hc2).elim
    refine CF.skip ?_
    refine PF.blockNormal ?_
    refine PF.next ?_
    refine CF.region ?_
    refine LF.step (OpOk.move rfl) ?_
    refine LF.step (OpOk.add rfl rfl (by omega)) ?_
    refine LF.step (OpOk.assign rfl) ?_
    refine LF.nil ?_
    exact PF.again (op + 1) ⟨by omega, by omega, hin, hkp⟩ ⟨rfl, rfl, rfl, rfl, eqI (by omega), trivial⟩ (by omega)
  refine CF.exit ?_
  refine PF.thenExit ?_
  refine PF.thenExit ?_
  refine PF.blockHere ?_
  refine PF.next ?_
  refine CF.seq ?_
  refine CF.region ?_
  refine LF.step (OpOk.build (v := .agg #[.int .i64 2, .int .i64 5, .int .i64 8, .int .i64 9, .int .i64 10]) rfl (fun w => by kernel_rfl)) ?_
  refine LF.chg (OpCh.allocB Try.zero50 rfl) ?_
  rintro _ H14 ⟨g14, rfl, eg14, sg14, kg14, hb14⟩
  have ng14 := hin.nope (Nat.le_of_eq eg14.symm)
  have lg14 := hkp.1
  have zkg14 := kg14.1
  replace hin := hin.kp kg14
  replace hkp := hkp.trans (kg14.mono hkp.1)
  clear kg14
  refine LF.chg0 (OpCh.storeBA hb14 Try.sz50 rfl rfl rfl (allOne.mem (l := [.int .i64 2, .int .i64 5, .int .i64 8, .int .i64 9, .int .i64 10]) ⟨rfl, rfl, rfl, rfl, rfl, trivial⟩) (by decide)) ?_
  rintro _ Hw2 ⟨tw2, bw2⟩
  have ztw2 := tw2.1
  replace hin := hin.tw tw2 ng14
  replace hkp := Tw.kp' hkp tw2 (by omega)
  replace hb14 : Bx _ _ _ [.int .i64 2, .int .i64 5, .int .i64 8, .int .i64 9, .int .i64 10] := bw2
  clear bw2 tw2
  refine LF.nil ?_
  refine PF.next ?_
  refine CF.seq ?_
  refine CF.seq ?_
  refine CF.region ?_
  refine LF.step (OpOk.assign rfl) ?_
  refine LF.nil ?_
  refine PF.next ?_
  refine CF.block ?_
  refine CF.loop (ι := Nat) (fun k H1 => k ≤ 5 ∧ InH F H1 ∧ Kp H.size H H1 ∧ Bx H1 g14 50 [.int .i64 2, .int .i64 5, .int .i64 8, .int .i64 9, .int .i64 10]) (fun k => [(0, .int .i32 a), (1, .int .i32 b), (2, .int .i32 c), (7, .bool true), (14, .pointer (some ⟨g14, 0, none⟩)), (15, .int .i64 (↑k))]) (fun k => 5 - k) 0 ⟨by omega, hin, hkp, hb14⟩ ⟨rfl, rfl, rfl, rfl, rfl, eqI (by omega), trivial⟩ ?_
  clear hin hkp hb14
  rintro k H1 ⟨hk, hin, hkp, hb14⟩
  refine CF.seq ?_
  refine CF.seq ?_
  refine CF.region ?_
  refine LF.step (OpOk.move rfl) ?_
  refine LF.step (OpOk.lss rfl rfl) ?_
  refine LF.nil ?_
  refine PF.next ?_
  refine CF.if rfl (fun hc3 => ?_) (fun hc3 => ?_)
  · refine CF.skip ?_
    refine PF.next ?_
    refine CF.seq ?_
    refine CF.block ?_
    refine CF.seq ?_
    refine CF.region ?_
    refine LF.step (OpOk.move rfl) ?_
    refine LF.chg (OpCh.litL (F := F) (r := (rI .i32)) (l := [a, 7]) (us := [.int .i32 a, .int .i32 7]) (cs := [[.int .i32 a], [.int .i32 7]]) Try.underlying25 Try.info21 (by decide) rfl rfl rfl ⟨rfl, rfl, ⟨rfl, ww0⟩, ⟨rfl, rfl, ⟨rfl, (by decide : IntKind.i32.wrap 7 = 7)⟩, trivial⟩⟩) ?_
    rintro _ H85 ⟨g85, rfl, e85, s85, k85, x85⟩
    have l85 := hkp.1
    replace x85 := (x85 hin).base l85
    have zk85 := k85.1
    replace hin := hin.kp k85
    replace hkp := hkp.trans (k85.mono hkp.1)
    replace hb14 := hb14.kp k85
    refine LF.step (OpOk.assign rfl) ?_
    refine LF.nil ?_
    refine PF.next ?_
    refine CF.seq ?_
    refine CF.region ?_
    refine LF.step (OpOk.move rfl) ?_
    refine LF.step (OpOk.add rfl rfl (by omega)) ?_
    refine LF.step (OpOk.move rfl) ?_
    refine LF.step (OpOk.build (v := .agg #[.int .i64 (18 + ↑k), .int .i64 1, .int .i64 0, .int .i64 0, .int .i64 0, .int .i64 0, .int .i32 b, .slice none 0 0]) rfl (fun w => by kernel_rfl)) ?_
    refine LF.step (OpOk.move rfl) ?_
    have x9103 := (fun (H9 : Heap) (_ : InH F H9) => (Gl.nil F H9 H.size : Gl (rI .i32) 21 F H9 H.size (.slice none 0 0) [])) _ hin
    have ap9103_85 : ∀ k9, (Value.slice none 0 0).ownBlock = some k9 → (.slice (some ⟨g85, 0, none⟩) 2 2 : Value).ownBlock ≠ some k9 := fun _ h9 => by cases h9
    have ap85_9103 := ap_sym ap9103_85
    refine LF.call (OpCall.fn Try.ent19 rfl rfl) (pDoM_ct hin (rMach.mk (m := ⟨18 + ↑k, 1, 0, 0, 0, 0, b, []⟩) (rL.nil _) (IntWalk.i64_in (18 + ↑k) (by omega)) (by decide : IntKind.i64.wrap 1 = 1) (by decide : IntKind.i64.wrap 0 = 0) (by decide : IntKind.i64.wrap 0 = 0) (by decide : IntKind.i64.wrap 0 = 0) (by decide : IntKind.i64.wrap 0 = 0) ww1) x85 x9103 (by first | omega | (simp only [List.length_cons, List.length_nil]; omega)) (by first | omega | (simp only [List.length_cons, List.length_nil]; omega)) ap85_9103) ?_
    rintro _ H91 ⟨rfl, k91, x91_1, x91_2⟩
    have zk91 := k91.1
    replace hin := hin.kw k91 (by intro k0 hk0; rcases hk0 with hk0 | hk0; exact x85.no k0 hk0; exact x9103.no k0 hk0)
    replace hb14 := hb14.kw k91 (by rintro (hk0 | hk0); exact x85.neBx hb14 (by decide) hk0; exact x9103.neBx hb14 (by decide) hk0)
    replace hkp := hkp.kw k91 (by rintro k0 (hk0 | hk0); exact x85.ge k0 hk0; exact x9103.ge k0 hk0)
    replace x85 := x91_1
    replace x9103 := x91_2
    have w91_0 : IntKind.i32.wrap ((stepM (⟨18 + ↑k, 1, 0, 0, 0, 0, b, []⟩) ([a, 7]) ([])).1.1) = (stepM (⟨18 + ↑k, 1, 0, 0, 0, 0, b, []⟩) ([a, 7]) ([])).1.1 := stepM_wr _ _ _
    have hl91 := (stepM_len ⟨18 + (k : Int), 1, 0, 0, 0, 0, b, []⟩ [a, 7] []).1
    simp only [List.length_cons, List.length_nil] at hl91
    refine LF.nil ?_
    refine PF.next ?_
    refine CF.seq ?_
    refine CF.region ?_
    refine LF.step (OpOk.move rfl) ?_
    refine LF.step (OpOk.indexArr (i := k) Try.underlying50 Try.sz3 rfl rfl rfl (by omega)) ?_
    refine LF.step (OpOk.ldBxI (i := k) (l := [2, 5, 8, 9, 10]) hb14 (by show _ < 5; omega) (by omega) Try.one3 rfl) ?_
    refine LF.step (OpOk.move rfl) ?_
    refine LF.step (OpOk.move rfl) ?_
    refine LF.call (OpCall.fn Try.ent21 rfl rfl) (wDo_ct hin (ix [2, 5, 8, 9, 10] k) a b) ?_
    rintro _ H98 ⟨rfl, k98⟩
    have zk98 := k98.1
    replace hin := hin.kp k98
    replace hkp := hkp.trans (k98.mono hkp.1)
    replace hb14 := hb14.kp k98
    replace x85 := x85.kp k98
    have w98_0 : IntKind.i32.wrap ((doM (ix [2, 5, 8, 9, 10] k) a b).1) = (doM (ix [2, 5, 8, 9, 10] k) a b).1 := doM_wr _ _ ww0
    refine LF.step (OpOk.move rfl) ?_
    refine LF.step (OpOk.extract (v := .int .i32 ((doM (ix [2, 5, 8, 9, 10] k) a b).1)) rfl rfl) ?_
    refine LF.step (OpOk.extract (v := .bool ((doM (ix [2, 5, 8, 9, 10] k) a b).2)) rfl rfl) ?_
    refine LF.step (OpOk.assign rfl) ?_
    refine LF.step (OpOk.assign rfl) ?_
    refine LF.nil ?_
    refine PF.next ?_
    refine CF.seq ?_
    refine CF.region ?_
    refine LF.step (OpOk.move rfl) ?_
    refine LF.step (OpOk.idxG (i := 1) Try.underlying25 Try.sz21 x85 rfl rfl (by omega) (by first | omega | (simp only [List.length_replicate, List.length_set, List.length_append, List.length_cons, List.length_nil]; omega))) ?_
    refine LF.step (OpOk.ldGI x85 (by first | omega | (simp only [List.length_replicate, List.length_set, List.length_append, List.length_cons, List.length_nil]; omega)) Try.one21 rfl) ?_
    refine LF.step (OpOk.move rfl) ?_
    refine LF.step (OpOk.neq rfl rfl) ?_
    refine LF.nil ?_
    refine PF.next ?_
    refine CF.if rfl (fun hc4 => ?_) (fun hc4 => ?_)
    · exact (w_bad2 hc3 hc4).elim
    refine CF.skip ?_
    refine PF.blockNormal ?_
    refine PF.next ?_
    refine CF.region ?_
    refine LF.step (OpOk.move rfl) ?_
    refine LF.step (OpOk.add rfl rfl (by omega)) ?_
    refine LF.step (OpOk.assign rfl) ?_
    refine LF.nil ?_
    exact PF.again (k + 1) ⟨by omega, hin, hkp, hb14⟩ ⟨rfl, rfl, rfl, rfl, rfl, eqI (by omega), trivial⟩ (by omega)
  refine CF.exit ?_
  refine PF.thenExit ?_
  refine PF.thenExit ?_
  refine PF.blockHere ?_
  refine PF.next ?_
  refine CF.seq ?_
  refine CF.region ?_
  refine LF.step (OpOk.move rfl) ?_
  refine LF.step (OpOk.move rfl) ?_
  refine LF.step (OpOk.move rfl) ?_
  refine LF.chg (OpCh.litL (F := F) (r := (rI .i32)) (l := [a, b, c, 7, 8]) (us := [.int .i32 a, .int .i32 b, .int .i32 c, .int .i32 7, .int .i32 8]) (cs := [[.int .i32 a], [.int .i32 b], [.int .i32 c], [.int .i32 7], [.int .i32 8]]) Try.underlying25 Try.info21 (by decide) rfl rfl rfl ⟨rfl, rfl, ⟨rfl, ww0⟩, ⟨rfl, rfl, ⟨rfl, ww1⟩, ⟨rfl, rfl, ⟨rfl, ww2⟩, ⟨rfl, rfl, ⟨rfl, (by decide : IntKind.i32.wrap 7 = 7)⟩, ⟨rfl, rfl, ⟨rfl, (by decide : IntKind.i32.wrap 8 = 8)⟩, trivial⟩⟩⟩⟩⟩) ?_
  rintro _ H109 ⟨g109, rfl, e109, s109, k109, x109⟩
  have l109 := hkp.1
  replace x109 := (x109 hin).base l109
  have zk109 := k109.1
  replace hin := hin.kp k109
  replace hkp := hkp.trans (k109.mono hkp.1)
  replace hb14 := hb14.kp k109
  refine LF.step (OpOk.assign rfl) ?_
  refine LF.nil ?_
  refine PF.next ?_
  refine CF.seq ?_
  refine CF.region ?_
  refine LF.step (OpOk.build (v := .agg #[.int .i64 23, .int .i64 3, .int .i64 0, .int .i64 0, .int .i64 1, .int .i64 2, .int .i32 0, .slice none 0 0]) rfl (fun w => by kernel_rfl)) ?_
  refine LF.step (OpOk.move rfl) ?_
  have x9104 := (fun (H9 : Heap) (_ : InH F H9) => (Gl.nil F H9 H.size : Gl (rI .i32) 21 F H9 H.size (.slice none 0 0) [])) _ hin
  have ap9104_109 : ∀ k9, (Value.slice none 0 0).ownBlock = some k9 → (.slice (some ⟨g109, 0, none⟩) 5 5 : Value).ownBlock ≠ some k9 := fun _ h9 => by cases h9
  have ap109_9104 := ap_sym ap9104_109
  refine LF.call (OpCall.fn Try.ent19 rfl rfl) (pDoM_ct hin (rMach.mk (m := ⟨23, 3, 0, 0, 1, 2, 0, []⟩) (rL.nil _) (by decide : IntKind.i64.wrap 23 = 23) (by decide : IntKind.i64.wrap 3 = 3) (by decide : IntKind.i64.wrap 0 = 0) (by decide : IntKind.i64.wrap 0 = 0) (by decide : IntKind.i64.wrap 1 = 1) (by decide : IntKind.i64.wrap 2 = 2) (by decide : IntKind.i32.wrap 0 = 0)) x109 x9104 (by first | omega | (simp only [List.length_cons, List.length_nil]; omega)) (by first | omega | (simp only [List.length_cons, List.length_nil]; omega)) ap109_9104) ?_
  rintro _ H112 ⟨rfl, k112, x112_1, x112_2⟩
  have zk112 := k112.1
  replace hin := hin.kw k112 (by intro k0 hk0; rcases hk0 with hk0 | hk0; exact x109.no k0 hk0; exact x9104.no k0 hk0)
  replace hb14 := hb14.kw k112 (by rintro (hk0 | hk0); exact x109.neBx hb14 (by decide) hk0; exact x9104.neBx hb14 (by decide) hk0)
  replace hkp := hkp.kw k112 (by rintro k0 (hk0 | hk0); exact x109.ge k0 hk0; exact x9104.ge k0 hk0)
  replace x109 := x112_1
  replace x9104 := x112_2
  have w112_0 : IntKind.i32.wrap ((stepM (⟨23, 3, 0, 0, 1, 2, 0, []⟩) ([a, b, c, 7, 8]) ([])).1.1) = (stepM (⟨23, 3, 0, 0, 1, 2, 0, []⟩) ([a, b, c, 7, 8]) ([])).1.1 := stepM_wr _ _ _
  have hl112 := (stepM_len ⟨23, 3, 0, 0, 1, 2, 0, []⟩ [a, b, c, 7, 8] []).1
  simp only [List.length_cons, List.length_nil] at hl112
  refine LF.nil ?_
  refine PF.next ?_
  refine CF.seq ?_
  refine CF.region ?_
  refine LF.step (OpOk.move rfl) ?_
  refine LF.step (OpOk.idxG (i := 3) Try.underlying25 Try.sz21 x109 rfl rfl (by omega) (by first | omega | (simp only [List.length_replicate, List.length_set, List.length_append, List.length_cons, List.length_nil]; omega))) ?_
  refine LF.step (OpOk.ldGI x109 (by first | omega | (simp only [List.length_replicate, List.length_set, List.length_append, List.length_cons, List.length_nil]; omega)) Try.one21 rfl) ?_
  refine LF.step (OpOk.move rfl) ?_
  refine LF.step (OpOk.move rfl) ?_
  refine LF.step (OpOk.mulw rfl rfl rfl) ?_
  refine LF.step (OpOk.move rfl) ?_
  refine LF.step (OpOk.addw rfl rfl rfl) ?_
  refine LF.step (OpOk.eql rfl rfl) ?_
  refine LF.step (OpOk.assign rfl) ?_
  refine LF.nil ?_
  refine PF.next ?_
  refine CF.seq ?_
  refine CF.region ?_
  refine LF.step (OpOk.build (v := .agg #[.int .i64 29, .int .i64 3, .int .i64 4, .int .i64 0, .int .i64 1, .int .i64 0, .int .i32 0, .slice none 0 0]) rfl (fun w => by kernel_rfl)) ?_
  refine LF.step (OpOk.move rfl) ?_
  have x9105 := (fun (H9 : Heap) (_ : InH F H9) => (Gl.nil F H9 H.size : Gl (rI .i32) 21 F H9 H.size (.slice none 0 0) [])) _ hin
  have ap9105_109 : ∀ k9, (Value.slice none 0 0).ownBlock = some k9 → (.slice (some ⟨g109, 0, none⟩) 5 5 : Value).ownBlock ≠ some k9 := fun _ h9 => by cases h9
  have ap109_9105 := ap_sym ap9105_109
  refine LF.call (OpCall.fn Try.ent19 rfl rfl) (pDoM_ct hin (rMach.mk (m := ⟨29, 3, 4, 0, 1, 0, 0, []⟩) (rL.nil _) (by decide : IntKind.i64.wrap 29 = 29) (by decide : IntKind.i64.wrap 3 = 3) (by decide : IntKind.i64.wrap 4 = 4) (by decide : IntKind.i64.wrap 0 = 0) (by decide : IntKind.i64.wrap 1 = 1) (by decide : IntKind.i64.wrap 0 = 0) (by decide : IntKind.i32.wrap 0 = 0)) x109 x9105 (by first | omega | (simp only [List.length_cons, List.length_nil]; omega)) (by first | omega | (simp only [List.length_cons, List.length_nil]; omega)) ap109_9105) ?_
  rintro _ H124 ⟨rfl, k124, x124_1, x124_2⟩
  have zk124 := k124.1
  replace hin := hin.kw k124 (by intro k0 hk0; rcases hk0 with hk0 | hk0; exact x109.no k0 hk0; exact x9105.no k0 hk0)
  replace hb14 := hb14.kw k124 (by rintro (hk0 | hk0); exact x109.neBx hb14 (by decide) hk0; exact x9105.neBx hb14 (by decide) hk0)
  replace hkp := hkp.kw k124 (by rintro k0 (hk0 | hk0); exact x109.ge k0 hk0; exact x9105.ge k0 hk0)
  replace x109 := x124_1
  replace x9105 := x124_2
  have w124_0 : IntKind.i32.wrap ((stepM (⟨29, 3, 4, 0, 1, 0, 0, []⟩) ((stepM (⟨23, 3, 0, 0, 1, 2, 0, []⟩) ([a, b, c, 7, 8]) ([])).2.1) ([])).1.1) = (stepM (⟨29, 3, 4, 0, 1, 0, 0, []⟩) ((stepM (⟨23, 3, 0, 0, 1, 2, 0, []⟩) ([a, b, c, 7, 8]) ([])).2.1) ([])).1.1 := stepM_wr _ _ _
  have hl124 := (stepM_len ⟨29, 3, 4, 0, 1, 0, 0, []⟩ (stepM ⟨23, 3, 0, 0, 1, 2, 0, []⟩ [a, b, c, 7, 8] []).2.1 []).1
  refine LF.nil ?_
  refine PF.next ?_
  refine CF.seq ?_
  refine CF.region ?_
  refine LF.step (OpOk.move rfl) ?_
  refine LF.step (OpOk.move rfl) ?_
  refine LF.call (OpCall.fn Try.ent22 rfl rfl) (wWide_ct hin a b ww0 ww1) ?_
  rintro _ _ ⟨rfl, rfl⟩
  have w128_0 : IntKind.i32.wrap ((wideM a b).1) = (wideM a b).1 := wrap_wrap _ _
  have w128_1 : IntKind.i32.wrap ((wideM a b).2) = (wideM a b).2 := wrap_wrap _ _
  refine LF.step (OpOk.move rfl) ?_
  refine LF.step (OpOk.extract (v := .int .i32 ((wideM a b).1)) rfl rfl) ?_
  refine LF.step (OpOk.extract (v := .int .i32 ((wideM a b).2)) rfl rfl) ?_
  refine LF.step (OpOk.assign rfl) ?_
  refine LF.step (OpOk.assign rfl) ?_
  refine LF.nil ?_
  refine PF.next ?_
  refine CF.seq ?_
  refine CF.region ?_
  refine LF.step (OpOk.move rfl) ?_
  refine LF.step (OpOk.move rfl) ?_
  refine LF.gstepK rfl rfl (.t _) (OpOk.move rfl) ?_
  refine LF.step (OpOk.pickAnd rfl rfl) ?_
  refine LF.step (OpOk.move rfl) ?_
  refine LF.gstep rfl rfl (.t _) (fun hg => OpOk.move rfl) ?_
  refine LF.gstep rfl rfl (.t _) (fun hg => OpOk.idxG (i := 3) Try.underlying25 Try.sz21 x109 (evg rfl hg) rfl (by omega) (by first | omega | (simp only [List.length_replicate, List.length_set, List.length_append, List.length_cons, List.length_nil]; omega))) ?_
  refine LF.gstep rfl rfl (.t _) (fun hg => OpOk.ldGI x109 (by first | omega | (simp only [List.length_replicate, List.length_set, List.length_append, List.length_cons, List.length_nil]; omega)) Try.one21 (evg rfl hg)) ?_
  refine LF.gstep rfl rfl (.t _) (fun hg => OpOk.move rfl) ?_
  refine LF.gstep rfl rfl (.t _) (fun hg => OpOk.eql (evg rfl hg) (evg rfl hg)) ?_
  refine LF.step (OpOk.pickAnd rfl rfl) ?_
  refine LF.step (OpOk.move rfl) ?_
  refine LF.gstep rfl rfl (.t _) (fun hg => OpOk.move rfl) ?_
  refine LF.gstep rfl rfl (.t _) (fun hg => OpOk.idxG (i := 4) Try.underlying25 Try.sz21 x109 (evg rfl hg) rfl (by omega) (by first | omega | (simp only [List.length_replicate, List.length_set, List.length_append, List.length_cons, List.length_nil]; omega))) ?_
  refine LF.gstep rfl rfl (.t _) (fun hg => OpOk.ldGI x109 (by first | omega | (simp only [List.length_replicate, List.length_set, List.length_append, List.length_cons, List.length_nil]; omega)) Try.one21 (evg rfl hg)) ?_
  refine LF.gstep rfl rfl (.t _) (fun hg => OpOk.move rfl) ?_
  refine LF.gstep rfl rfl (.t _) (fun hg => OpOk.eql (evg rfl hg) (evg rfl hg)) ?_
  refine LF.step (OpOk.pickAnd rfl rfl) ?_
  refine LF.step (OpOk.assign rfl) ?_
  refine LF.nil ?_
  refine PF.next ?_
  refine CF.ret ?_
  have hm : (fun _ _ _ => true) a b c = (((decide (ix ((stepM (⟨23, 3, 0, 0, 1, 2, 0, []⟩) ([a, b, c, 7, 8]) ([])).2.1) 3 = IntKind.i32.wrap ((IntKind.i32.wrap (a * b)) + c))) && (decide (ix ((stepM (⟨29, 3, 4, 0, 1, 0, 0, []⟩) ((stepM (⟨23, 3, 0, 0, 1, 2, 0, []⟩) ([a, b, c, 7, 8]) ([])).2.1) ([])).2.1) 3 = (wideM a b).1))) && (decide (ix ((stepM (⟨29, 3, 4, 0, 1, 0, 0, []⟩) ((stepM (⟨23, 3, 0, 0, 1, 2, 0, []⟩) ([a, b, c, 7, 8]) ([])).2.1) ([])).2.1) 4 = (wideM a b).2))) := by
    exact (w_end a b c).symm
  exact PF.ret1 rfl rfl ⟨by rw [hm] <;> rfl, hkp⟩

end Go.Proofs.Ytehibklogdngbaa
