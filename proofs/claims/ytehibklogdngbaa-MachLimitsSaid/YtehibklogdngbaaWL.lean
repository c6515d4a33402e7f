/- Walks. Conditions: each contract names its own. -/
import Derived.Test.YtehibklogdngbaaWI
namespace Go.Proofs.Ytehibklogdngbaa
set_option linter.unusedVariables false
set_option linter.unusedSimpArgs false
set_option linter.unusedSectionVars false
open Go.JE

theorem Try.ent8 : Ent Try.prog 8 := ⟨_, Try.func8, by kernel_rfl, by kernel_rfl⟩
theorem Try.sz22 : Sz Try.prog 22 1 := by unfold Sz; kernel_rfl
theorem Try.zero55 : (Try.prog.info? 55).bind (·.zero) = some (.agg #[.int .i64 0, .int .i64 0, .int .i64 0, .slice none 0 0, .int .i32 0]) := by kernel_rfl
/- ---------------------------------------------- the last numbers that may be -/
theorem u8_rem5 {n : Int} (h : IntKind.u8.wrap n = n) : 0 ≤ Int.tmod n 5 ∧ Int.tmod n 5 < 5 := by
  have := u8_rng h
  rw [Int.tmod_eq_emod_of_nonneg this.1]; omega
theorem u8_rem9 {n : Int} (h : IntKind.u8.wrap n = n) : 0 ≤ Int.tmod n 9 ∧ Int.tmod n 9 < 9 := by
  have := u8_rng h
  rw [Int.tmod_eq_emod_of_nonneg this.1]; omega
abbrev endR : D.End := ⟨7, -1, 0, [], 0⟩
def tells (m : D.MFunc) (want : Int) : Bool := decide ((funcM m).1 = want) && decide ((funcM m).2.1 = 0)
section
variable {d : Int} (h : -2 ≤ d ∧ d ≤ 2)
include h
theorem lim_cases : d = -2 ∨ d = -1 ∨ d = 0 ∨ d = 1 ∨ d = 2 := by omega
theorem lim0 : tells ⟨0, [⟨[], [⟨3, 0, 0, 0, 0, 0, IntKind.i32.wrap (32767 + d), []⟩], endR⟩]⟩ (if d ≤ 0 then 0 else 32) = true := by
  rcases lim_cases h with rfl | rfl | rfl | rfl | rfl <;> decide +kernel
theorem lim1 : tells ⟨0, [⟨[], [⟨3, 0, 0, 0, 0, 0, IntKind.i32.wrap ((-32768) - d), []⟩], endR⟩]⟩ (if d ≤ 0 then 0 else 32) = true := by
  rcases lim_cases h with rfl | rfl | rfl | rfl | rfl <;> decide +kernel
theorem lim2 : tells ⟨0, [⟨[], [⟨19, 0, 0, 0, 0, 0, IntKind.i32.wrap ((-128) - d), []⟩], endR⟩]⟩ (if d ≤ 0 then 0 else 32) = true := by
  rcases lim_cases h with rfl | rfl | rfl | rfl | rfl <;> decide +kernel
theorem lim3 : tells ⟨0, [⟨[], [⟨22, 0, 0, 0, 0, 0, IntKind.i32.wrap (31 + d), []⟩], endR⟩]⟩ (if d ≤ 0 then 0 else 32) = true := by
  rcases lim_cases h with rfl | rfl | rfl | rfl | rfl <;> decide +kernel
theorem lim4 : tells ⟨0, [⟨[], [⟨26, 0, 0, 0, 0, 0, IntKind.i32.wrap (255 + d), []⟩], endR⟩]⟩ (if d ≤ 0 then 0 else 32) = true := by
  rcases lim_cases h with rfl | rfl | rfl | rfl | rfl <;> decide +kernel
theorem lim5 : tells ⟨0, [⟨[], [⟨24, 0, 0, 0, 0, 0, IntKind.i32.wrap (IntKind.i64.wrap (0 - d)), []⟩], endR⟩]⟩ (if d ≤ 0 then 0 else 32) = true := by
  rcases lim_cases h with rfl | rfl | rfl | rfl | rfl <;> decide +kernel
theorem lim6 : tells ⟨0, [⟨[], [⟨1, 0, 0, 8191 + d, 0, 0, 0, []⟩], endR⟩]⟩ (if d ≤ 0 then 0 else 31) = true := by
  rcases lim_cases h with rfl | rfl | rfl | rfl | rfl <;> decide +kernel
theorem lim7 : tells ⟨0, [⟨[], [⟨28, 0, 0, 0, 0, 0, 0, List.replicate (Int.toNat (4 + d)) 0⟩], endR⟩]⟩ (if d ≤ 0 then 0 else 30) = true := by
  rcases lim_cases h with rfl | rfl | rfl | rfl | rfl <;> decide +kernel
theorem lim8 : tells ⟨0, [⟨[], [⟨1, 0, 0, 0, 0, 0, 0, []⟩], ⟨6, 0, 0, List.replicate (Int.toNat (65 + d)) 1, 0⟩⟩, ⟨[], [], ⟨8, 0, 0, [], 0⟩⟩]⟩ (if d ≤ 0 then 0 else 30) = true := by
  rcases lim_cases h with rfl | rfl | rfl | rfl | rfl <;> decide +kernel
end
theorem rep_snoc (k : Nat) : List.replicate k (1 : Int) ++ [1] = List.replicate (k + 1) 1 := by rw [List.replicate_succ']
theorem lim_t {m : D.MFunc} {w d : Int} (h : tells m (if d ≤ 0 then 0 else w) = true) (hd : d ≤ 0) : (decide ((funcM m).1 = 0) && decide ((funcM m).2.1 = 0)) = true := by rw [if_pos hd] at h; exact h
theorem lim_f {m : D.MFunc} {w d : Int} (h : tells m (if d ≤ 0 then 0 else w) = true) (hd : ¬ d ≤ 0) : (decide ((funcM m).1 = w) && decide ((funcM m).2.1 = 0)) = true := by rw [if_neg hd] at h; exact h

-- jacquard/jacquardlaw07.one: function 23
theorem one2_ct {F : PH} {H : Heap} (hin : InH F H) (p : Int) {a1 : Value} {e : D.End} (p1 : rEnd.ra F a1 e) {a2 : Value} {l : List D.Mach} (p2 : (rL rMach).rv F a2 l) :
    Ct Try.prog 23 #[.int .i64 p, a1, a2] H (fun v H' => ∃ (F' : PH) (vb : Value), v = .agg #[.int .i64 p, vb] ∧ PH.ext H F F' ∧ InH F' H' ∧ Kp H.size H H' ∧ Gl rMBlock 61 F' H' H.size vb [⟨[], l, e⟩]) := by
  have p1k := rEnd.any p1
  obtain ⟨a1c3, rfl, p1c3⟩ := rEnd.open p1
  have p1c3q := rL.len2 p1c3
  have q2 := rL.len2 p2
  have hkp := Kp.refl H.size H
  have hx := PH.ext.refl (H := H) F
  refine Ct.enter (args := [.int .i64 p, .agg #[.int .i64 e.Op, .int .i64 e.A, .int .i64 e.B, a1c3, .int .i32 e.Imm], a2]) Try.func23 rfl rfl rfl (fun w0 hw0 => ?_)
  refine CF.seq ?_
  refine CF.region ?_
  refine LF.chg (OpCh.boxB rfl rfl) ?_
  rintro _ H4 ⟨g4, rfl, eg4, sg4, kg4, hb4⟩
  have ng4 := hin.nope (Nat.le_of_eq eg4.symm)
  have lg4 := hkp.1
  have zkg4 := kg4.1
  replace hin := hin.kp kg4
  replace hkp := hkp.trans (kg4.mono hkp.1)
  clear kg4
  refine LF.chg (OpCh.allocB Try.zero24 rfl) ?_
  rintro _ H6 ⟨g6, rfl, eg6, sg6, kg6, hb6⟩
  have ng6 := hin.nope (Nat.le_of_eq eg6.symm)
  have lg6 := hkp.1
  have zkg6 := kg6.1
  replace hin := hin.kp kg6
  replace hkp := hkp.trans (kg6.mono hkp.1)
  replace hb4 := hb4.kp kg6
  clear kg6
  refine LF.nil ?_
  refine PF.next ?_
  refine CF.seq ?_
  refine CF.region ?_
  refine LF.step (OpOk.move rfl) ?_
  refine LF.step (OpOk.move rfl) ?_
  refine LF.step (OpOk.ldBxA hb4 Try.agg55 Try.sz55 rfl rfl rfl) ?_
  refine LF.step (OpOk.build (v := .agg #[.slice none 0 0, a2, .int .i64 e.Op, .int .i64 e.A, .int .i64 e.B, a1c3, .int .i32 e.Imm]) rfl (fun w => by obtain ⟨_, a19, c19, e19, _⟩ := p2; rw [show (a2 : Value) = _ from e19]; obtain ⟨_, a59, c59, e59, _⟩ := p1c3; rw [show (a1c3 : Value) = _ from e59]; kernel_rfl)) ?_
  refine LF.chg (OpCh.litL (F := F) (r := rMBlock) (l := [⟨[], l, e⟩]) (us := [.agg #[.slice none 0 0, a2, .int .i64 e.Op, .int .i64 e.A, .int .i64 e.B, a1c3, .int .i32 e.Imm]]) (cs := [[.slice none 0 0, a2, .int .i64 e.Op, .int .i64 e.A, .int .i64 e.B, a1c3, .int .i32 e.Imm]]) Try.underlying22 Try.info61 (by decide) rfl rfl rfl ⟨rfl, rfl, (ra_ok (rMBlock.mk (m := ⟨[], l, e⟩) (rL.nil _) p2 p1c3 (rEnd.w_Op (m := e) p1k) (rEnd.w_A (m := e) p1k) (rEnd.w_B (m := e) p1k) (rEnd.w_Imm (m := e) p1k))), trivial⟩) ?_
  rintro _ H11 ⟨g11, rfl, e11, s11, k11, x11⟩
  have l11 := hkp.1
  replace x11 := (x11 hin).base l11
  have zk11 := k11.1
  replace hin := hin.kp k11
  replace hkp := hkp.trans (k11.mono hkp.1)
  replace hb4 := hb4.kp k11
  replace hb6 := hb6.kp k11
  refine LF.step (OpOk.build (v := .agg #[.int .i64 p, .slice (some ⟨g11, 0, none⟩) 1 1]) rfl (fun w => by kernel_rfl)) ?_
  refine LF.chg0 (OpCh.storeBA hb6 Try.sz24 rfl rfl rfl (allOne.mem (l := [.int .i64 p, .slice (some ⟨g11, 0, none⟩) 1 1]) ⟨rfl, x11.one1, trivial⟩) (by decide)) ?_
  rintro _ Hw1 ⟨tw1, bw1⟩
  have ztw1 := tw1.1
  replace hin := hin.tw tw1 ng6
  replace hkp := Tw.kp' hkp tw1 (by omega)
  replace hb4 := hb4.tw tw1 (by first | omega | exact Bx.ne hb4 hb6 (by decide) | assumption | exact Ne.symm (by assumption))
  replace x11 := x11.tw tw1 (by first | exact x11.neBx hb6 (by decide) | exact x11.neLt (by omega) | exact nq11_6)
  replace hb6 : Bx _ _ _ [.int .i64 p, .slice (some ⟨g11, 0, none⟩) 1 1] := bw1
  clear bw1 tw1
  refine LF.nil ?_
  refine PF.next ?_
  refine CF.ret ?_
  exact PF.retC rfl rfl hb6 Try.agg24 Try.sz24 ⟨_, _, rfl, hx, hin, hkp, x11⟩

-- jacquard/jacquardlaw07.MachLimits: function 6
set_option maxHeartbeats 4000000 in
theorem machLimits_ct {F : PH} {H : Heap} (hin : InH F H) (which : Int) (more : Int) (ww0 : IntKind.u8.wrap which = which) (ww1 : IntKind.u8.wrap more = more) :
    Ct Try.prog 6 #[.int .u8 which, .int .u8 more] H (fun v H' => v = .bool ((fun _ _ => true) which more) ∧ Kp H.size H H') := by
  have hkp := Kp.refl H.size H
  have hx := PH.ext.refl (H := H) F
  have b0 := u8_rem5 ww1
  have b1 := u8_rem9 ww0
  have hd : -2 ≤ Int.tmod more 5 - 2 ∧ Int.tmod more 5 - 2 ≤ 2 := by omega
  refine Ct.enter (args := [.int .u8 which, .int .u8 more]) Try.func6 rfl rfl rfl (fun w0 hw0 => ?_)
  refine CF.seq ?_
  refine CF.region ?_
  refine LF.step (OpOk.assign rfl) ?_
  refine LF.nil ?_
  refine PF.next ?_
  refine CF.seq ?_
  refine CF.region ?_
  refine LF.call (OpCall.fn Try.ent8 rfl rfl) (shown_ct hin ) ?_
  rintro _ H16 ⟨rfl, k16⟩
  have zk16 := k16.1
  replace hin := hin.kp k16
  replace hkp := hkp.trans (k16.mono hkp.1)
  refine LF.step (OpOk.assign rfl) ?_
  refine LF.nil ?_
  refine PF.next ?_
  refine CF.seq ?_
  refine CF.region ?_
  refine LF.step (OpOk.move rfl) ?_
  refine LF.step (OpOk.rem rfl rfl (by decide)) ?_
  refine LF.step (OpOk.convI Try.underlying5 Try.underlying3 rfl (IntWalk.i64_in _ (by omega))) ?_
  refine LF.step (OpOk.sub rfl rfl (by omega)) ?_
  refine LF.step (OpOk.assign rfl) ?_
  refine LF.nil ?_
  refine PF.next ?_
  refine CF.seq ?_
  refine CF.region ?_
  refine LF.step (OpOk.move rfl) ?_
  refine LF.step (OpOk.leq rfl rfl) ?_
  refine LF.step (OpOk.assign rfl) ?_
  refine LF.nil ?_
  refine PF.next ?_
  refine CF.seq ?_
  refine CF.region ?_
  refine LF.step (OpOk.build (v := .agg #[.int .i64 1, .int .i64 0, .int .i64 0, .int .i64 0, .int .i64 0, .int .i64 0, .int .i32 0, .slice none 0 0]) rfl (fun w => by kernel_rfl)) ?_
  refine LF.chg (OpCh.allocB Try.zero40 rfl) ?_
  rintro _ H8 ⟨g8, rfl, eg8, sg8, kg8, hb8⟩
  have ng8 := hin.nope (Nat.le_of_eq eg8.symm)
  have lg8 := hkp.1
  have zkg8 := kg8.1
  replace hin := hin.kp kg8
  replace hkp := hkp.trans (kg8.mono hkp.1)
  clear kg8
  refine LF.chg0 (OpCh.storeBA hb8 Try.sz40 rfl rfl rfl (allOne.mem (l := [.int .i64 1, .int .i64 0, .int .i64 0, .int .i64 0, .int .i64 0, .int .i64 0, .int .i32 0, .slice none 0 0]) ⟨rfl, rfl, rfl, rfl, rfl, rfl, rfl, rfl, trivial⟩) (by decide)) ?_
  rintro _ Hw1 ⟨tw1, bw1⟩
  have ztw1 := tw1.1
  replace hin := hin.tw tw1 ng8
  replace hkp := Tw.kp' hkp tw1 (by omega)
  replace hb8 : Bx _ _ _ [.int .i64 1, .int .i64 0, .int .i64 0, .int .i64 0, .int .i64 0, .int .i64 0, .int .i32 0, .slice none 0 0] := bw1
  clear bw1 tw1
  refine LF.nil ?_
  refine PF.next ?_
  refine CF.seq ?_
  refine CF.region ?_
  refine LF.step (OpOk.build (v := .agg #[.int .i64 7, .int .i64 ((-1)), .int .i64 0, .slice none 0 0, .int .i32 0]) rfl (fun w => by kernel_rfl)) ?_
  refine LF.chg (OpCh.allocB Try.zero55 rfl) ?_
  rintro _ H9 ⟨g9, rfl, eg9, sg9, kg9, hb9⟩
  have ng9 := hin.nope (Nat.le_of_eq eg9.symm)
  have lg9 := hkp.1
  have zkg9 := kg9.1
  replace hin := hin.kp kg9
  replace hkp := hkp.trans (kg9.mono hkp.1)
  replace hb8 := hb8.kp kg9
  clear kg9
  refine LF.chg0 (OpCh.storeBA hb9 Try.sz55 rfl rfl rfl (allOne.mem (l := [.int .i64 7, .int .i64 ((-1)), .int .i64 0, .slice none 0 0, .int .i32 0]) ⟨rfl, rfl, rfl, rfl, rfl, trivial⟩) (by decide)) ?_
  rintro _ Hw2 ⟨tw2, bw2⟩
  have ztw2 := tw2.1
  replace hin := hin.tw tw2 ng9
  replace hkp := Tw.kp' hkp tw2 (by omega)
  replace hb8 := hb8.tw tw2 (by first | omega | exact Bx.ne hb8 hb9 (by decide) | assumption | exact Ne.symm (by assumption))
  replace hb9 : Bx _ _ _ [.int .i64 7, .int .i64 ((-1)), .int .i64 0, .slice none 0 0, .int .i32 0] := bw2
  clear bw2 tw2
  refine LF.nil ?_
  refine PF.next ?_
  refine CF.seq ?_
  refine CF.region ?_
  refine LF.step (OpOk.assign rfl) ?_
  refine LF.nil ?_
  refine PF.next ?_
  refine CF.seq ?_
  refine CF.seq ?_
  refine CF.region ?_
  refine LF.step (OpOk.move rfl) ?_
  refine LF.step (OpOk.rem rfl rfl (by decide)) ?_
  refine LF.nil ?_
  refine PF.next ?_
  refine CF.block ?_
  refine CF.seq ?_
  refine CF.region ?_
  refine LF.step (OpOk.eql rfl rfl) ?_
  refine LF.step (OpOk.assign rfl) ?_
  refine LF.nil ?_
  refine PF.next ?_
  refine CF.if rfl (fun hc1 => ?_) (fun hc1 => ?_)
  · refine CF.region ?_
    refine LF.step (OpOk.move rfl) ?_
    refine LF.step (OpOk.add rfl rfl (by omega)) ?_
    refine LF.step (OpOk.convI Try.underlying3 Try.underlying21 rfl rfl) ?_
    refine LF.step (OpOk.build (v := .agg #[.int .i64 3, .int .i64 0, .int .i64 0, .int .i64 0, .int .i64 0, .int .i64 0, .int .i32 (IntKind.i32.wrap (32767 + ((Int.tmod more 5) - 2))), .slice none 0 0]) rfl (fun w => by kernel_rfl)) ?_
    refine LF.chg0 (OpCh.storeBA hb8 Try.sz40 rfl rfl rfl (allOne.mem (l := [.int .i64 3, .int .i64 0, .int .i64 0, .int .i64 0, .int .i64 0, .int .i64 0, .int .i32 (IntKind.i32.wrap (32767 + ((Int.tmod more 5) - 2))), .slice none 0 0]) ⟨rfl, rfl, rfl, rfl, rfl, rfl, rfl, rfl, trivial⟩) (by decide)) ?_
    rintro _ Hw3 ⟨tw3, bw3⟩
    have ztw3 := tw3.1
    replace hin := hin.tw tw3 ng8
    replace hkp := Tw.kp' hkp tw3 (by omega)
    replace hb9 := hb9.tw tw3 (by first | omega | exact Bx.ne hb9 hb8 (by decide) | assumption | exact Ne.symm (by assumption))
    replace hb8 : Bx _ _ _ [.int .i64 3, .int .i64 0, .int .i64 0, .int .i64 0, .int .i64 0, .int .i64 0, .int .i32 (IntKind.i32.wrap (32767 + ((Int.tmod more 5) - 2))), .slice none 0 0] := bw3
    clear bw3 tw3
    refine LF.nil ?_
    refine PF.blockNormal ?_
    refine PF.next ?_
    refine CF.seq ?_
    refine CF.region ?_
    refine LF.step (OpOk.ldBxA hb9 Try.agg55 Try.sz55 rfl rfl rfl) ?_
    refine LF.step (OpOk.ldBxA hb8 Try.agg40 Try.sz40 rfl rfl rfl) ?_
    refine LF.chg (OpCh.litL (F := F) (r := rMach) (l := [⟨3, 0, 0, 0, 0, 0, IntKind.i32.wrap (32767 + ((Int.tmod more 5) - 2)), []⟩]) (us := [.agg #[.int .i64 3, .int .i64 0, .int .i64 0, .int .i64 0, .int .i64 0, .int .i64 0, .int .i32 (IntKind.i32.wrap (32767 + ((Int.tmod more 5) - 2))), .slice none 0 0]]) (cs := [[.int .i64 3, .int .i64 0, .int .i64 0, .int .i64 0, .int .i64 0, .int .i64 0, .int .i32 (IntKind.i32.wrap (32767 + ((Int.tmod more 5) - 2))), .slice none 0 0]]) Try.underlying59 Try.info40 (by decide) rfl rfl rfl ⟨rfl, rfl, (ra_ok (rMach.mk (m := ⟨3, 0, 0, 0, 0, 0, IntKind.i32.wrap (32767 + ((Int.tmod more 5) - 2)), []⟩) (rL.nil _) (by decide : IntKind.i64.wrap 3 = 3) (by decide : IntKind.i64.wrap 0 = 0) (by decide : IntKind.i64.wrap 0 = 0) (by decide : IntKind.i64.wrap 0 = 0) (by decide : IntKind.i64.wrap 0 = 0) (by decide : IntKind.i64.wrap 0 = 0) (wrap_wrap _ _))), trivial⟩) ?_
    rintro _ H88 ⟨g88, rfl, e88, s88, k88, x88⟩
    have l88 := hkp.1
    have nq88_8 := (x88 hin).neLt (.inl hb8.lt)
    replace x88 := (x88 hin).base l88
    have zk88 := k88.1
    replace hin := hin.kp k88
    replace hkp := hkp.trans (k88.mono hkp.1)
    replace hb8 := hb8.kp k88
    replace hb9 := hb9.kp k88
    obtain ⟨Fz4, hxz4, lez4, hinz4, noz4, hrz4⟩ := x88.freezeX hin hx (Nat.le_refl _) (by first | (simp only [List.length_append, List.length_take, List.length_drop, List.length_nil, List.length_cons, List.length_set, List.length_replicate]; omega) | (simp; done) | (simp; omega) | omega)
    replace hin := hinz4
    replace hx := hxz4
    have le0 := lez4
    replace ng8 := (noz4 _ nq88_8).trans ng8
    replace ng9 := (noz4 _ (x88.neBx hb9 (by decide))).trans ng9
    refine LF.call (OpCall.fn Try.ent23 rfl rfl) (one2_ct hin 0 (rEnd.mk (m := ⟨7, (-1), 0, [], 0⟩) (rL.nil _) (by decide : IntKind.i64.wrap 7 = 7) (by decide : IntKind.i64.wrap (-1) = (-1)) (by decide : IntKind.i64.wrap 0 = 0) (by decide : IntKind.i32.wrap 0 = 0)) hrz4) ?_
    rintro _ H89 ⟨F89, vb89, rfl, x89, i89, k89, xb89⟩
    replace xb89 := xb89.base hkp.1
    have zk89 := k89.1
    replace hx := hx.trans x89 hkp.1
    replace hkp := hkp.trans (k89.mono hkp.1)
    have l89 := hkp.1
    replace ng8 := x89.no ng8 hb8.lt
    replace hb8 := hb8.kp k89
    replace ng9 := x89.no ng9 hb9.lt
    replace hb9 := hb9.kp k89
    replace le0 := le0.trans x89.1
    have le1 := x89.1
    have hin := i89
    refine LF.chg (OpCh.allocB Try.zero24 rfl) ?_
    rintro _ H12 ⟨g12, rfl, eg12, sg12, kg12, hb12⟩
    have ng12 := hin.nope (Nat.le_of_eq eg12.symm)
    have lg12 := hkp.1
    have zkg12 := kg12.1
    replace hin := hin.kp kg12
    replace hkp := hkp.trans (kg12.mono hkp.1)
    replace hb8 := hb8.kp kg12
    replace hb9 := hb9.kp kg12
    replace xb89 := xb89.kp kg12
    clear kg12
    refine LF.chg0 (OpCh.storeBA hb12 Try.sz24 rfl rfl rfl (allOne.mem (l := [.int .i64 0, vb89]) ⟨rfl, xb89.one1, trivial⟩) (by decide)) ?_
    rintro _ Hw5 ⟨tw5, bw5⟩
    have ztw5 := tw5.1
    replace hin := hin.tw tw5 ng12
    replace hkp := Tw.kp' hkp tw5 (by omega)
    replace hb8 := hb8.tw tw5 (by first | omega | exact Bx.ne hb8 hb12 (by decide) | assumption | exact Ne.symm (by assumption))
    replace hb9 := hb9.tw tw5 (by first | omega | exact Bx.ne hb9 hb12 (by decide) | assumption | exact Ne.symm (by assumption))
    replace xb89 := xb89.tw tw5 (by first | exact xb89.neBx hb12 (by decide) | exact xb89.neLt (by omega) | exact nq89_12)
    replace hb12 : Bx _ _ _ [.int .i64 0, vb89] := bw5
    clear bw5 tw5
    refine LF.nil ?_
    refine PF.next ?_
    refine CF.seq ?_
    refine CF.seq ?_
    refine CF.region ?_
    refine LF.step (OpOk.move rfl) ?_
    refine LF.step (OpOk.rem rfl rfl (by decide)) ?_
    refine LF.step (OpOk.eql rfl rfl) ?_
    refine LF.nil ?_
    refine PF.next ?_
    refine CF.if rfl (fun hc2 => ?_) (fun hc2 => ?_)
    · refine CF.region ?_
      refine LF.step (OpOk.fieldAddr (Try.fld24_1) rfl) ?_
      refine LF.step (OpOk.ldBx hb12 Try.one22 rfl rfl) ?_
      refine LF.step (OpOk.build (v := .agg #[.int .i64 8, .int .i64 0, .int .i64 0, .slice none 0 0, .int .i32 0]) rfl (fun w => by kernel_rfl)) ?_
      refine LF.step (OpOk.build (v := .agg #[.slice none 0 0, .slice none 0 0, .int .i64 8, .int .i64 0, .int .i64 0, .slice none 0 0, .int .i32 0]) rfl (fun w => by kernel_rfl)) ?_
      refine LF.appA (r := rMBlock) (a := ⟨[], [], ⟨8, 0, 0, [], 0⟩⟩) Try.underlying22 Try.info61 (by decide) rfl rfl (rMBlock.mk (m := ⟨[], [], ⟨8, 0, 0, [], 0⟩⟩) (rL.nil _) (rL.nil _) (rL.nil _) (by decide : IntKind.i64.wrap 8 = 8) (by decide : IntKind.i64.wrap 0 = 0) (by decide : IntKind.i64.wrap 0 = 0) (by decide : IntKind.i32.wrap 0 = 0)) xb89 hin (by first | (simp only [List.length_append, List.length_take, List.length_drop, List.length_nil, List.length_cons, List.length_set, List.length_replicate]; omega) | (simp; done) | (simp; omega) | omega) rfl ?_ hkp.1
      intro v98 H98 x98 gb98 nn98 ob98
      replace hin := hin.grown gb98 xb89.no
      replace hkp := gb98.kp hkp (Nat.le_refl _) (fun k0 hk0 => (xb89.blk k0 hk0).1)
      replace hb8 := hb8.of (gb98.2 _ hb8.lt (Ne.symm (by first | exact xb89.neBx hb8 (by decide) | exact nq89_8)))
      replace hb9 := hb9.of (gb98.2 _ hb9.lt (Ne.symm (by first | exact xb89.neBx hb9 (by decide) | exact nq89_9)))
      replace hb12 := hb12.of (gb98.2 _ hb12.lt (Ne.symm (by first | exact xb89.neBx hb12 (by decide) | exact nq89_12)))
      refine LF.step (OpOk.fieldAddr (Try.fld24_1) rfl) ?_
      refine LF.chg0 (OpCh.storeB hb12 Try.sz22 rfl rfl x98.one1 (by first | decide | (simp; done))) ?_
      rintro _ Hw6 ⟨tw6, bw6⟩
      have ztw6 := tw6.1
      replace hin := hin.tw tw6 ng12
      replace hkp := Tw.kp' hkp tw6 (by omega)
      replace hb8 := hb8.tw tw6 (by first | omega | exact Bx.ne hb8 hb12 (by decide) | assumption | exact Ne.symm (by assumption))
      replace hb9 := hb9.tw tw6 (by first | omega | exact Bx.ne hb9 hb12 (by decide) | assumption | exact Ne.symm (by assumption))
      replace x98 := x98.tw tw6 (by first | exact x98.neBx hb12 (by decide) | exact x98.neLt (by omega) | exact nq98_12)
      replace hb12 : Bx _ _ _ [.int .i64 0, v98] := bw6
      clear bw6 tw6
      refine LF.nil ?_
      refine PF.next ?_
      refine CF.seq ?_
      refine CF.region ?_
      refine LF.step (OpOk.ldBxA hb12 Try.agg24 Try.sz24 rfl rfl rfl) ?_
      obtain ⟨Fz7, hxz7, lez7, hinz7, noz7, hrz7⟩ := x98.freezeX hin hx (Nat.le_refl _) (by first | (simp only [List.length_append, List.length_take, List.length_drop, List.length_nil, List.length_cons, List.length_set, List.length_replicate]; omega) | (simp; done) | (simp; omega) | omega)
      replace hin := hinz7
      replace hx := hxz7
      replace le0 := le0.trans lez7
      replace le1 := le1.trans lez7
      have le2 := lez7
      replace ng8 := (noz7 _ (x98.neBx hb8 (by decide))).trans ng8
      replace ng9 := (noz7 _ (x98.neBx hb9 (by decide))).trans ng9
      replace ng12 := (noz7 _ (x98.neBx hb12 (by decide))).trans ng12
      refine LF.call (OpCall.fn Try.ent24 rfl rfl) (pFunc_ct hin (rMFunc.mk (m := ⟨0, ([⟨[], [⟨3, 0, 0, 0, 0, 0, IntKind.i32.wrap (32767 + ((Int.tmod more 5) - 2)), []⟩], ⟨7, (-1), 0, [], 0⟩⟩]) ++ [⟨[], [], ⟨8, 0, 0, [], 0⟩⟩]⟩) hrz7 (by decide : IntKind.i64.wrap 0 = 0))) ?_
      rintro _ H102 ⟨rfl, k102⟩
      have zk102 := k102.1
      replace hin := hin.kp k102
      replace hkp := hkp.trans (k102.mono hkp.1)
      replace hb8 := hb8.kp k102
      replace hb9 := hb9.kp k102
      replace hb12 := hb12.kp k102
      refine LF.step (OpOk.move rfl) ?_
      refine LF.step (OpOk.extract (v := .int .i64 ((funcM (⟨0, ([⟨[], [⟨3, 0, 0, 0, 0, 0, IntKind.i32.wrap (32767 + ((Int.tmod more 5) - 2)), []⟩], ⟨7, (-1), 0, [], 0⟩⟩]) ++ [⟨[], [], ⟨8, 0, 0, [], 0⟩⟩]⟩)).1)) rfl rfl) ?_
      refine LF.step (OpOk.extract (v := .int .i64 ((funcM (⟨0, ([⟨[], [⟨3, 0, 0, 0, 0, 0, IntKind.i32.wrap (32767 + ((Int.tmod more 5) - 2)), []⟩], ⟨7, (-1), 0, [], 0⟩⟩]) ++ [⟨[], [], ⟨8, 0, 0, [], 0⟩⟩]⟩)).2.1)) rfl rfl) ?_
      refine LF.step (OpOk.extract (v := .int .i64 ((funcM (⟨0, ([⟨[], [⟨3, 0, 0, 0, 0, 0, IntKind.i32.wrap (32767 + ((Int.tmod more 5) - 2)), []⟩], ⟨7, (-1), 0, [], 0⟩⟩]) ++ [⟨[], [], ⟨8, 0, 0, [], 0⟩⟩]⟩)).2.2)) rfl rfl) ?_
      refine LF.step (OpOk.assign rfl) ?_
      refine LF.step (OpOk.assign rfl) ?_
      refine LF.step (OpOk.assign rfl) ?_
      refine LF.nil ?_
      refine PF.next ?_
      refine CF.seq ?_
      refine CF.seq ?_
      refine CF.region ?_
      refine LF.step (OpOk.move rfl) ?_
      refine LF.nil ?_
      refine PF.next ?_
      refine CF.if rfl (fun hc3 => ?_) (fun hc3 => ?_)
      · refine CF.region ?_
        refine LF.step (OpOk.assign rfl) ?_
        refine LF.nil ?_
        refine PF.next ?_
        refine CF.seq ?_
        refine CF.region ?_
        refine LF.step (OpOk.move rfl) ?_
        refine LF.step (OpOk.move rfl) ?_
        refine LF.gstepK rfl rfl (.t _) (OpOk.move rfl) ?_
        refine LF.gstepK rfl rfl (.t _) (OpOk.move rfl) ?_
        refine LF.gstepK rfl rfl (.t _) (OpOk.eql rfl rfl) ?_
        refine LF.step (OpOk.pickAnd rfl rfl) ?_
        refine LF.step (OpOk.move rfl) ?_
        refine LF.gstep rfl rfl (.t _) (fun hg => OpOk.move rfl) ?_
        refine LF.gstep rfl rfl (.t _) (fun hg => OpOk.eql (evg rfl hg) rfl) ?_
        refine LF.step (OpOk.pickAnd rfl rfl) ?_
        refine LF.step (OpOk.assign rfl) ?_
        refine LF.nil ?_
        refine PF.next ?_
        refine CF.ret ?_
        have hm : (fun _ _ => true) which more = ((decide ((funcM (⟨0, ([⟨[], [⟨3, 0, 0, 0, 0, 0, IntKind.i32.wrap (32767 + ((Int.tmod more 5) - 2)), []⟩], ⟨7, (-1), 0, [], 0⟩⟩]) ++ [⟨[], [], ⟨8, 0, 0, [], 0⟩⟩]⟩)).1 = 0)) && (decide ((funcM (⟨0, ([⟨[], [⟨3, 0, 0, 0, 0, 0, IntKind.i32.wrap (32767 + ((Int.tmod more 5) - 2)), []⟩], ⟨7, (-1), 0, [], 0⟩⟩]) ++ [⟨[], [], ⟨8, 0, 0, [], 0⟩⟩]⟩)).2.1 = 0))) := by
          first | (exfalso; omega) | exact (lim_t (lim0 hd) (by omega)).symm | exact (lim_f (lim0 hd) (by omega)).symm
        exact PF.ret1 rfl rfl ⟨by first | (rw [hm] <;> rfl) | exact (congrArg Value.bool hm).symm, hkp⟩
      refine CF.skip ?_
      refine PF.next ?_
      refine CF.seq ?_
      refine CF.region ?_
      refine LF.step (OpOk.move rfl) ?_
      refine LF.step (OpOk.move rfl) ?_
      refine LF.gstepK rfl rfl (.t _) (OpOk.move rfl) ?_
      refine LF.gstepK rfl rfl (.t _) (OpOk.move rfl) ?_
      refine LF.gstepK rfl rfl (.t _) (OpOk.eql rfl rfl) ?_
      refine LF.step (OpOk.pickAnd rfl rfl) ?_
      refine LF.step (OpOk.move rfl) ?_
      refine LF.gstep rfl rfl (.t _) (fun hg => OpOk.move rfl) ?_
      refine LF.gstep rfl rfl (.t _) (fun hg => OpOk.eql (evg rfl hg) rfl) ?_
      refine LF.step (OpOk.pickAnd rfl rfl) ?_
      refine LF.step (OpOk.assign rfl) ?_
      refine LF.nil ?_
      refine PF.next ?_
      refine CF.ret ?_
      have hm : (fun _ _ => true) which more = ((decide ((funcM (⟨0, ([⟨[], [⟨3, 0, 0, 0, 0, 0, IntKind.i32.wrap (32767 + ((Int.tmod more 5) - 2)), []⟩], ⟨7, (-1), 0, [], 0⟩⟩]) ++ [⟨[], [], ⟨8, 0, 0, [], 0⟩⟩]⟩)).1 = 32)) && (decide ((funcM (⟨0, ([⟨[], [⟨3, 0, 0, 0, 0, 0, IntKind.i32.wrap (32767 + ((Int.tmod more 5) - 2)), []⟩], ⟨7, (-1), 0, [], 0⟩⟩]) ++ [⟨[], [], ⟨8, 0, 0, [], 0⟩⟩]⟩)).2.1 = 0))) := by
        first | (exfalso; omega) | exact (lim_t (lim0 hd) (by omega)).symm | exact (lim_f (lim0 hd) (by omega)).symm
      exact PF.ret1 rfl rfl ⟨by first | (rw [hm] <;> rfl) | exact (congrArg Value.bool hm).symm, hkp⟩
    refine CF.skip ?_
    refine PF.next ?_
    refine CF.seq ?_
    refine CF.region ?_
    refine LF.step (OpOk.ldBxA hb12 Try.agg24 Try.sz24 rfl rfl rfl) ?_
    obtain ⟨Fz8, hxz8, lez8, hinz8, noz8, hrz8⟩ := xb89.freezeX hin hx (Nat.le_refl _) (by first | (simp only [List.length_append, List.length_take, List.length_drop, List.length_nil, List.length_cons, List.length_set, List.length_replicate]; omega) | (simp; done) | (simp; omega) | omega)
    replace hin := hinz8
    replace hx := hxz8
    replace le0 := le0.trans lez8
    replace le1 := le1.trans lez8
    have le2 := lez8
    replace ng8 := (noz8 _ (xb89.neBx hb8 (by decide))).trans ng8
    replace ng9 := (noz8 _ (xb89.neBx hb9 (by decide))).trans ng9
    replace ng12 := (noz8 _ (xb89.neBx hb12 (by decide))).trans ng12
    refine LF.call (OpCall.fn Try.ent24 rfl rfl) (pFunc_ct hin (rMFunc.mk (m := ⟨0, [⟨[], [⟨3, 0, 0, 0, 0, 0, IntKind.i32.wrap (32767 + ((Int.tmod more 5) - 2)), []⟩], ⟨7, (-1), 0, [], 0⟩⟩]⟩) hrz8 (by decide : IntKind.i64.wrap 0 = 0))) ?_
    rintro _ H102 ⟨rfl, k102⟩
    have zk102 := k102.1
    replace hin := hin.kp k102
    replace hkp := hkp.trans (k102.mono hkp.1)
    replace hb8 := hb8.kp k102
    replace hb9 := hb9.kp k102
    replace hb12 := hb12.kp k102
    refine LF.step (OpOk.move rfl) ?_
    refine LF.step (OpOk.extract (v := .int .i64 ((funcM (⟨0, [⟨[], [⟨3, 0, 0, 0, 0, 0, IntKind.i32.wrap (32767 + ((Int.tmod more 5) - 2)), []⟩], ⟨7, (-1), 0, [], 0⟩⟩]⟩)).1)) rfl rfl) ?_
    refine LF.step (OpOk.extract (v := .int .i64 ((funcM (⟨0, [⟨[], [⟨3, 0, 0, 0, 0, 0, IntKind.i32.wrap (32767 + ((Int.tmod more 5) - 2)), []⟩], ⟨7, (-1), 0, [], 0⟩⟩]⟩)).2.1)) rfl rfl) ?_
    refine LF.step (OpOk.extract (v := .int .i64 ((funcM (⟨0, [⟨[], [⟨3, 0, 0, 0, 0, 0, IntKind.i32.wrap (32767 + ((Int.tmod more 5) - 2)), []⟩], ⟨7, (-1), 0, [], 0⟩⟩]⟩)).2.2)) rfl rfl) ?_
    refine LF.step (OpOk.assign rfl) ?_
    refine LF.step (OpOk.assign rfl) ?_
    refine LF.step (OpOk.assign rfl) ?_
    refine LF.nil ?_
    refine PF.next ?_
    refine CF.seq ?_
    refine CF.seq ?_
    refine CF.region ?_
    refine LF.step (OpOk.move rfl) ?_
    refine LF.nil ?_
    refine PF.next ?_
    refine CF.if rfl (fun hc4 => ?_) (fun hc4 => ?_)
    · refine CF.region ?_
      refine LF.step (OpOk.assign rfl) ?_
      refine LF.nil ?_
      refine PF.next ?_
      refine CF.seq ?_
      refine CF.region ?_
      refine LF.step (OpOk.move rfl) ?_
      refine LF.step (OpOk.move rfl) ?_
      refine LF.gstepK rfl rfl (.t _) (OpOk.move rfl) ?_
      refine LF.gstepK rfl rfl (.t _) (OpOk.move rfl) ?_
      refine LF.gstepK rfl rfl (.t _) (OpOk.eql rfl rfl) ?_
      refine LF.step (OpOk.pickAnd rfl rfl) ?_
      refine LF.step (OpOk.move rfl) ?_
      refine LF.gstep rfl rfl (.t _) (fun hg => OpOk.move rfl) ?_
      refine LF.gstep rfl rfl (.t _) (fun hg => OpOk.eql (evg rfl hg) rfl) ?_
      refine LF.step (OpOk.pickAnd rfl rfl) ?_
      refine LF.step (OpOk.assign rfl) ?_
      refine LF.nil ?_
      refine PF.next ?_
      refine CF.ret ?_
      have hm : (fun _ _ => true) which more = ((decide ((funcM (⟨0, [⟨[], [⟨3, 0, 0, 0, 0, 0, IntKind.i32.wrap (32767 + ((Int.tmod more 5) - 2)), []⟩], ⟨7, (-1), 0, [], 0⟩⟩]⟩)).1 = 0)) && (decide ((funcM (⟨0, [⟨[], [⟨3, 0, 0, 0, 0, 0, IntKind.i32.wrap (32767 + ((Int.tmod more 5) - 2)), []⟩], ⟨7, (-1), 0, [], 0⟩⟩]⟩)).2.1 = 0))) := by
        first | (exfalso; omega) | exact (lim_t (lim0 hd) (by omega)).symm | exact (lim_f (lim0 hd) (by omega)).symm
      exact PF.ret1 rfl rfl ⟨by first | (rw [hm] <;> rfl) | exact (congrArg Value.bool hm).symm, hkp⟩
    refine CF.skip ?_
    refine PF.next ?_
    refine CF.seq ?_
    refine CF.region ?_
    refine LF.step (OpOk.move rfl) ?_
    refine LF.step (OpOk.move rfl) ?_
    refine LF.gstepK rfl rfl (.t _) (OpOk.move rfl) ?_
    refine LF.gstepK rfl rfl (.t _) (OpOk.move rfl) ?_
    refine LF.gstepK rfl rfl (.t _) (OpOk.eql rfl rfl) ?_
    refine LF.step (OpOk.pickAnd rfl rfl) ?_
    refine LF.step (OpOk.move rfl) ?_
    refine LF.gstep rfl rfl (.t _) (fun hg => OpOk.move rfl) ?_
    refine LF.gstep rfl rfl (.t _) (fun hg => OpOk.eql (evg rfl hg) rfl) ?_
    refine LF.step (OpOk.pickAnd rfl rfl) ?_
    refine LF.step (OpOk.assign rfl) ?_
    refine LF.nil ?_
    refine PF.next ?_
    refine CF.ret ?_
    have hm : (fun _ _ => true) which more = ((decide ((funcM (⟨0, [⟨[], [⟨3, 0, 0, 0, 0, 0, IntKind.i32.wrap (32767 + ((Int.tmod more 5) - 2)), []⟩], ⟨7, (-1), 0, [], 0⟩⟩]⟩)).1 = 32)) && (decide ((funcM (⟨0, [⟨[], [⟨3, 0, 0, 0, 0, 0, IntKind.i32.wrap (32767 + ((Int.tmod more 5) - 2)), []⟩], ⟨7, (-1), 0, [], 0⟩⟩]⟩)).2.1 = 0))) := by
      first | (exfalso; omega) | exact (lim_t (lim0 hd) (by omega)).symm | exact (lim_f (lim0 hd) (by omega)).symm
    exact PF.ret1 rfl rfl ⟨by first | (rw [hm] <;> rfl) | exact (congrArg Value.bool hm).symm, hkp⟩
  refine CF.seq ?_
  refine CF.region ?_
  refine LF.step (OpOk.eql rfl rfl) ?_
  refine LF.step (OpOk.assign rfl) ?_
  refine LF.nil ?_
  refine PF.next ?_
  refine CF.if rfl (fun hc5 => ?_) (fun hc5 => ?_)
  · refine CF.region ?_
    refine LF.step (OpOk.move rfl) ?_
    refine LF.step (OpOk.sub rfl rfl (by omega)) ?_
    refine LF.step (OpOk.convI Try.underlying3 Try.underlying21 rfl rfl) ?_
    refine LF.step (OpOk.build (v := .agg #[.int .i64 3, .int .i64 0, .int .i64 0, .int .i64 0, .int .i64 0, .int .i64 0, .int .i32 (IntKind.i32.wrap ((-32768) - ((Int.tmod more 5) - 2))), .slice none 0 0]) rfl (fun w => by kernel_rfl)) ?_
    refine LF.chg0 (OpCh.storeBA hb8 Try.sz40 rfl rfl rfl (allOne.mem (l := [.int .i64 3, .int .i64 0, .int .i64 0, .int .i64 0, .int .i64 0, .int .i64 0, .int .i32 (IntKind.i32.wrap ((-32768) - ((Int.tmod more 5) - 2))), .slice none 0 0]) ⟨rfl, rfl, rfl, rfl, rfl, rfl, rfl, rfl, trivial⟩) (by decide)) ?_
    rintro _ Hw9 ⟨tw9, bw9⟩
    have ztw9 := tw9.1
    replace hin := hin.tw tw9 ng8
    replace hkp := Tw.kp' hkp tw9 (by omega)
    replace hb9 := hb9.tw tw9 (by first | omega | exact Bx.ne hb9 hb8 (by decide) | assumption | exact Ne.symm (by assumption))
    replace hb8 : Bx _ _ _ [.int .i64 3, .int .i64 0, .int .i64 0, .int .i64 0, .int .i64 0, .int .i64 0, .int .i32 (IntKind.i32.wrap ((-32768) - ((Int.tmod more 5) - 2))), .slice none 0 0] := bw9
    clear bw9 tw9
    refine LF.nil ?_
    refine PF.blockNormal ?_
    refine PF.next ?_
    refine CF.seq ?_
    refine CF.region ?_
    refine LF.step (OpOk.ldBxA hb9 Try.agg55 Try.sz55 rfl rfl rfl) ?_
    refine LF.step (OpOk.ldBxA hb8 Try.agg40 Try.sz40 rfl rfl rfl) ?_
    refine LF.chg (OpCh.litL (F := F) (r := rMach) (l := [⟨3, 0, 0, 0, 0, 0, IntKind.i32.wrap ((-32768) - ((Int.tmod more 5) - 2)), []⟩]) (us := [.agg #[.int .i64 3, .int .i64 0, .int .i64 0, .int .i64 0, .int .i64 0, .int .i64 0, .int .i32 (IntKind.i32.wrap ((-32768) - ((Int.tmod more 5) - 2))), .slice none 0 0]]) (cs := [[.int .i64 3, .int .i64 0, .int .i64 0, .int .i64 0, .int .i64 0, .int .i64 0, .int .i32 (IntKind.i32.wrap ((-32768) - ((Int.tmod more 5) - 2))), .slice none 0 0]]) Try.underlying59 Try.info40 (by decide) rfl rfl rfl ⟨rfl, rfl, (ra_ok (rMach.mk (m := ⟨3, 0, 0, 0, 0, 0, IntKind.i32.wrap ((-32768) - ((Int.tmod more 5) - 2)), []⟩) (rL.nil _) (by decide : IntKind.i64.wrap 3 = 3) (by decide : IntKind.i64.wrap 0 = 0) (by decide : IntKind.i64.wrap 0 = 0) (by decide : IntKind.i64.wrap 0 = 0) (by decide : IntKind.i64.wrap 0 = 0) (by decide : IntKind.i64.wrap 0 = 0) (wrap_wrap _ _))), trivial⟩) ?_
    rintro _ H88 ⟨g88, rfl, e88, s88, k88, x88⟩
    have l88 := hkp.1
    have nq88_8 := (x88 hin).neLt (.inl hb8.lt)
    replace x88 := (x88 hin).base l88
    have zk88 := k88.1
    replace hin := hin.kp k88
    replace hkp := hkp.trans (k88.mono hkp.1)
    replace hb8 := hb8.kp k88
    replace hb9 := hb9.kp k88
    obtain ⟨Fz10, hxz10, lez10, hinz10, noz10, hrz10⟩ := x88.freezeX hin hx (Nat.le_refl _) (by first | (simp only [List.length_append, List.length_take, List.length_drop, List.length_nil, List.length_cons, List.length_set, List.length_replicate]; omega) | (simp; done) | (simp; omega) | omega)
    replace hin := hinz10
    replace hx := hxz10
    have le0 := lez10
    replace ng8 := (noz10 _ nq88_8).trans ng8
    replace ng9 := (noz10 _ (x88.neBx hb9 (by decide))).trans ng9
    refine LF.call (OpCall.fn Try.ent23 rfl rfl) (one2_ct hin 0 (rEnd.mk (m := ⟨7, (-1), 0, [], 0⟩) (rL.nil _) (by decide : IntKind.i64.wrap 7 = 7) (by decide : IntKind.i64.wrap (-1) = (-1)) (by decide : IntKind.i64.wrap 0 = 0) (by decide : IntKind.i32.wrap 0 = 0)) hrz10) ?_
    rintro _ H89 ⟨F89, vb89, rfl, x89, i89, k89, xb89⟩
    replace xb89 := xb89.base hkp.1
    have zk89 := k89.1
    replace hx := hx.trans x89 hkp.1
    replace hkp := hkp.trans (k89.mono hkp.1)
    have l89 := hkp.1
    replace ng8 := x89.no ng8 hb8.lt
    replace hb8 := hb8.kp k89
    replace ng9 := x89.no ng9 hb9.lt
    replace hb9 := hb9.kp k89
    replace le0 := le0.trans x89.1
    have le1 := x89.1
    have hin := i89
    refine LF.chg (OpCh.allocB Try.zero24 rfl) ?_
    rintro _ H12 ⟨g12, rfl, eg12, sg12, kg12, hb12⟩
    have ng12 := hin.nope (Nat.le_of_eq eg12.symm)
    have lg12 := hkp.1
    have zkg12 := kg12.1
    replace hin := hin.kp kg12
    replace hkp := hkp.trans (kg12.mono hkp.1)
    replace hb8 := hb8.kp kg12
    replace hb9 := hb9.kp kg12
    replace xb89 := xb89.kp kg12
    clear kg12
    refine LF.chg0 (OpCh.storeBA hb12 Try.sz24 rfl rfl rfl (allOne.mem (l := [.int .i64 0, vb89]) ⟨rfl, xb89.one1, trivial⟩) (by decide)) ?_
    rintro _ Hw11 ⟨tw11, bw11⟩
    have ztw11 := tw11.1
    replace hin := hin.tw tw11 ng12
    replace hkp := Tw.kp' hkp tw11 (by omega)
    replace hb8 := hb8.tw tw11 (by first | omega | exact Bx.ne hb8 hb12 (by decide) | assumption | exact Ne.symm (by assumption))
    replace hb9 := hb9.tw tw11 (by first | omega | exact Bx.ne hb9 hb12 (by decide) | assumption | exact Ne.symm (by assumption))
    replace xb89 := xb89.tw tw11 (by first | exact xb89.neBx hb12 (by decide) | exact xb89.neLt (by omega) | exact nq89_12)
    replace hb12 : Bx _ _ _ [.int .i64 0, vb89] := bw11
    clear bw11 tw11
    refine LF.nil ?_
    refine PF.next ?_
    refine CF.seq ?_
    refine CF.seq ?_
    refine CF.region ?_
    refine LF.step (OpOk.move rfl) ?_
    refine LF.step (OpOk.rem rfl rfl (by decide)) ?_
    refine LF.step (OpOk.eql rfl rfl) ?_
    refine LF.nil ?_
    refine PF.next ?_
    refine CF.if rfl (fun hc6 => ?_) (fun hc6 => ?_)
    · refine CF.region ?_
      refine LF.step (OpOk.fieldAddr (Try.fld24_1) rfl) ?_
      refine LF.step (OpOk.ldBx hb12 Try.one22 rfl rfl) ?_
      refine LF.step (OpOk.build (v := .agg #[.int .i64 8, .int .i64 0, .int .i64 0, .slice none 0 0, .int .i32 0]) rfl (fun w => by kernel_rfl)) ?_
      refine LF.step (OpOk.build (v := .agg #[.slice none 0 0, .slice none 0 0, .int .i64 8, .int .i64 0, .int .i64 0, .slice none 0 0, .int .i32 0]) rfl (fun w => by kernel_rfl)) ?_
      refine LF.appA (r := rMBlock) (a := ⟨[], [], ⟨8, 0, 0, [], 0⟩⟩) Try.underlying22 Try.info61 (by decide) rfl rfl (rMBlock.mk (m := ⟨[], [], ⟨8, 0, 0, [], 0⟩⟩) (rL.nil _) (rL.nil _) (rL.nil _) (by decide : IntKind.i64.wrap 8 = 8) (by decide : IntKind.i64.wrap 0 = 0) (by decide : IntKind.i64.wrap 0 = 0) (by decide : IntKind.i32.wrap 0 = 0)) xb89 hin (by first | (simp only [List.length_append, List.length_take, List.length_drop, List.length_nil, List.length_cons, List.length_set, List.length_replicate]; omega) | (simp; done) | (simp; omega) | omega) rfl ?_ hkp.1
      intro v98 H98 x98 gb98 nn98 ob98
      replace hin := hin.grown gb98 xb89.no
      replace hkp := gb98.kp hkp (Nat.le_refl _) (fun k0 hk0 => (xb89.blk k0 hk0).1)
      replace hb8 := hb8.of (gb98.2 _ hb8.lt (Ne.symm (by first | exact xb89.neBx hb8 (by decide) | exact nq89_8)))
      replace hb9 := hb9.of (gb98.2 _ hb9.lt (Ne.symm (by first | exact xb89.neBx hb9 (by decide) | exact nq89_9)))
      replace hb12 := hb12.of (gb98.2 _ hb12.lt (Ne.symm (by first | exact xb89.neBx hb12 (by decide) | exact nq89_12)))
      refine LF.step (OpOk.fieldAddr (Try.fld24_1) rfl) ?_
      refine LF.chg0 (OpCh.storeB hb12 Try.sz22 rfl rfl x98.one1 (by first | decide | (simp; done))) ?_
      rintro _ Hw12 ⟨tw12, bw12⟩
      have ztw12 := tw12.1
      replace hin := hin.tw tw12 ng12
      replace hkp := Tw.kp' hkp tw12 (by omega)
      replace hb8 := hb8.tw tw12 (by first | omega | exact Bx.ne hb8 hb12 (by decide) | assumption | exact Ne.symm (by assumption))
      replace hb9 := hb9.tw tw12 (by first | omega | exact Bx.ne hb9 hb12 (by decide) | assumption | exact Ne.symm (by assumption))
      replace x98 := x98.tw tw12 (by first | exact x98.neBx hb12 (by decide) | exact x98.neLt (by omega) | exact nq98_12)
      replace hb12 : Bx _ _ _ [.int .i64 0, v98] := bw12
      clear bw12 tw12
      refine LF.nil ?_
      refine PF.next ?_
      refine CF.seq ?_
      refine CF.region ?_
      refine LF.step (OpOk.ldBxA hb12 Try.agg24 Try.sz24 rfl rfl rfl) ?_
      obtain ⟨Fz13, hxz13, lez13, hinz13, noz13, hrz13⟩ := x98.freezeX hin hx (Nat.le_refl _) (by first | (simp only [List.length_append, List.length_take, List.length_drop, List.length_nil, List.length_cons, List.length_set, List.length_replicate]; omega) | (simp; done) | (simp; omega) | omega)
      replace hin := hinz13
      replace hx := hxz13
      replace le0 := le0.trans lez13
      replace le1 := le1.trans lez13
      have le2 := lez13
      replace ng8 := (noz13 _ (x98.neBx hb8 (by decide))).trans ng8
      replace ng9 := (noz13 _ (x98.neBx hb9 (by decide))).trans ng9
      replace ng12 := (noz13 _ (x98.neBx hb12 (by decide))).trans ng12
      refine LF.call (OpCall.fn Try.ent24 rfl rfl) (pFunc_ct hin (rMFunc.mk (m := ⟨0, ([⟨[], [⟨3, 0, 0, 0, 0, 0, IntKind.i32.wrap ((-32768) - ((Int.tmod more 5) - 2)), []⟩], ⟨7, (-1), 0, [], 0⟩⟩]) ++ [⟨[], [], ⟨8, 0, 0, [], 0⟩⟩]⟩) hrz13 (by decide : IntKind.i64.wrap 0 = 0))) ?_
      rintro _ H102 ⟨rfl, k102⟩
      have zk102 := k102.1
      replace hin := hin.kp k102
      replace hkp := hkp.trans (k102.mono hkp.1)
      replace hb8 := hb8.kp k102
      replace hb9 := hb9.kp k102
      replace hb12 := hb12.kp k102
      refine LF.step (OpOk.move rfl) ?_
      refine LF.step (OpOk.extract (v := .int .i64 ((funcM (⟨0, ([⟨[], [⟨3, 0, 0, 0, 0, 0, IntKind.i32.wrap ((-32768) - ((Int.tmod more 5) - 2)), []⟩], ⟨7, (-1), 0, [], 0⟩⟩]) ++ [⟨[], [], ⟨8, 0, 0, [], 0⟩⟩]⟩)).1)) rfl rfl) ?_
      refine LF.step (OpOk.extract (v := .int .i64 ((funcM (⟨0, ([⟨[], [⟨3, 0, 0, 0, 0, 0, IntKind.i32.wrap ((-32768) - ((Int.tmod more 5) - 2)), []⟩], ⟨7, (-1), 0, [], 0⟩⟩]) ++ [⟨[], [], ⟨8, 0, 0, [], 0⟩⟩]⟩)).2.1)) rfl rfl) ?_
      refine LF.step (OpOk.extract (v := .int .i64 ((funcM (⟨0, ([⟨[], [⟨3, 0, 0, 0, 0, 0, IntKind.i32.wrap ((-32768) - ((Int.tmod more 5) - 2)), []⟩], ⟨7, (-1), 0, [], 0⟩⟩]) ++ [⟨[], [], ⟨8, 0, 0, [], 0⟩⟩]⟩)).2.2)) rfl rfl) ?_
      refine LF.step (OpOk.assign rfl) ?_
      refine LF.step (OpOk.assign rfl) ?_
      refine LF.step (OpOk.assign rfl) ?_
      refine LF.nil ?_
      refine PF.next ?_
      refine CF.seq ?_
      refine CF.seq ?_
      refine CF.region ?_
      refine LF.step (OpOk.move rfl) ?_
      refine LF.nil ?_
      refine PF.next ?_
      refine CF.if rfl (fun hc7 => ?_) (fun hc7 => ?_)
      · refine CF.region ?_
        refine LF.step (OpOk.assign rfl) ?_
        refine LF.nil ?_
        refine PF.next ?_
        refine CF.seq ?_
        refine CF.region ?_
        refine LF.step (OpOk.move rfl) ?_
        refine LF.step (OpOk.move rfl) ?_
        refine LF.gstepK rfl rfl (.t _) (OpOk.move rfl) ?_
        refine LF.gstepK rfl rfl (.t _) (OpOk.move rfl) ?_
        refine LF.gstepK rfl rfl (.t _) (OpOk.eql rfl rfl) ?_
        refine LF.step (OpOk.pickAnd rfl rfl) ?_
        refine LF.step (OpOk.move rfl) ?_
        refine LF.gstep rfl rfl (.t _) (fun hg => OpOk.move rfl) ?_
        refine LF.gstep rfl rfl (.t _) (fun hg => OpOk.eql (evg rfl hg) rfl) ?_
        refine LF.step (OpOk.pickAnd rfl rfl) ?_
        refine LF.step (OpOk.assign rfl) ?_
        refine LF.nil ?_
        refine PF.next ?_
        refine CF.ret ?_
        have hm : (fun _ _ => true) which more = ((decide ((funcM (⟨0, ([⟨[], [⟨3, 0, 0, 0, 0, 0, IntKind.i32.wrap ((-32768) - ((Int.tmod more 5) - 2)), []⟩], ⟨7, (-1), 0, [], 0⟩⟩]) ++ [⟨[], [], ⟨8, 0, 0, [], 0⟩⟩]⟩)).1 = 0)) && (decide ((funcM (⟨0, ([⟨[], [⟨3, 0, 0, 0, 0, 0, IntKind.i32.wrap ((-32768) - ((Int.tmod more 5) - 2)), []⟩], ⟨7, (-1), 0, [], 0⟩⟩]) ++ [⟨[], [], ⟨8, 0, 0, [], 0⟩⟩]⟩)).2.1 = 0))) := by
          first | (exfalso; omega) | exact (lim_t (lim1 hd) (by omega)).symm | exact (lim_f (lim1 hd) (by omega)).symm
        exact PF.ret1 rfl rfl ⟨by first | (rw [hm] <;> rfl) | exact (congrArg Value.bool hm).symm, hkp⟩
      refine CF.skip ?_
      refine PF.next ?_
      refine CF.seq ?_
      refine CF.region ?_
      refine LF.step (OpOk.move rfl) ?_
      refine LF.step (OpOk.move rfl) ?_
      refine LF.gstepK rfl rfl (.t _) (OpOk.move rfl) ?_
      refine LF.gstepK rfl rfl (.t _) (OpOk.move rfl) ?_
      refine LF.gstepK rfl rfl (.t _) (OpOk.eql rfl rfl) ?_
      refine LF.step (OpOk.pickAnd rfl rfl) ?_
      refine LF.step (OpOk.move rfl) ?_
      refine LF.gstep rfl rfl (.t _) (fun hg => OpOk.move rfl) ?_
      refine LF.gstep rfl rfl (.t _) (fun hg => OpOk.eql (evg rfl hg) rfl) ?_
      refine LF.step (OpOk.pickAnd rfl rfl) ?_
      refine LF.step (OpOk.assign rfl) ?_
      refine LF.nil ?_
      refine PF.next ?_
      refine CF.ret ?_
      have hm : (fun _ _ => true) which more = ((decide ((funcM (⟨0, ([⟨[], [⟨3, 0, 0, 0, 0, 0, IntKind.i32.wrap ((-32768) - ((Int.tmod more 5) - 2)), []⟩], ⟨7, (-1), 0, [], 0⟩⟩]) ++ [⟨[], [], ⟨8, 0, 0, [], 0⟩⟩]⟩)).1 = 32)) && (decide ((funcM (⟨0, ([⟨[], [⟨3, 0, 0, 0, 0, 0, IntKind.i32.wrap ((-32768) - ((Int.tmod more 5) - 2)), []⟩], ⟨7, (-1), 0, [], 0⟩⟩]) ++ [⟨[], [], ⟨8, 0, 0, [], 0⟩⟩]⟩)).2.1 = 0))) := by
        first | (exfalso; omega) | exact (lim_t (lim1 hd) (by omega)).symm | exact (lim_f (lim1 hd) (by omega)).symm
      exact PF.ret1 rfl rfl ⟨by first | (rw [hm] <;> rfl) | exact (congrArg Value.bool hm).symm, hkp⟩
    refine CF.skip ?_
    refine PF.next ?_
    refine CF.seq ?_
    refine CF.region ?_
    refine LF.step (OpOk.ldBxA hb12 Try.agg24 Try.sz24 rfl rfl rfl) ?_
    obtain ⟨Fz14, hxz14, lez14, hinz14, noz14, hrz14⟩ := xb89.freezeX hin hx (Nat.le_refl _) (by first | (simp only [List.length_append, List.length_take, List.length_drop, List.length_nil, List.length_cons, List.length_set, List.length_replicate]; omega) | (simp; done) | (simp; omega) | omega)
    replace hin := hinz14
    replace hx := hxz14
    replace le0 := le0.trans lez14
    replace le1 := le1.trans lez14
    have le2 := lez14
    replace ng8 := (noz14 _ (xb89.neBx hb8 (by decide))).trans ng8
    replace ng9 := (noz14 _ (xb89.neBx hb9 (by decide))).trans ng9
    replace ng12 := (noz14 _ (xb89.neBx hb12 (by decide))).trans ng12
    refine LF.call (OpCall.fn Try.ent24 rfl rfl) (pFunc_ct hin (rMFunc.mk (m := ⟨0, [⟨[], [⟨3, 0, 0, 0, 0, 0, IntKind.i32.wrap ((-32768) - ((Int.tmod more 5) - 2)), []⟩], ⟨7, (-1), 0, [], 0⟩⟩]⟩) hrz14 (by decide : IntKind.i64.wrap 0 = 0))) ?_
    rintro _ H102 ⟨rfl, k102⟩
    have zk102 := k102.1
    replace hin := hin.kp k102
    replace hkp := hkp.trans (k102.mono hkp.1)
    replace hb8 := hb8.kp k102
    replace hb9 := hb9.kp k102
    replace hb12 := hb12.kp k102
    refine LF.step (OpOk.move rfl) ?_
    refine LF.step (OpOk.extract (v := .int .i64 ((funcM (⟨0, [⟨[], [⟨3, 0, 0, 0, 0, 0, IntKind.i32.wrap ((-32768) - ((Int.tmod more 5) - 2)), []⟩], ⟨7, (-1), 0, [], 0⟩⟩]⟩)).1)) rfl rfl) ?_
    refine LF.step (OpOk.extract (v := .int .i64 ((funcM (⟨0, [⟨[], [⟨3, 0, 0, 0, 0, 0, IntKind.i32.wrap ((-32768) - ((Int.tmod more 5) - 2)), []⟩], ⟨7, (-1), 0, [], 0⟩⟩]⟩)).2.1)) rfl rfl) ?_
    refine LF.step (OpOk.extract (v := .int .i64 ((funcM (⟨0, [⟨[], [⟨3, 0, 0, 0, 0, 0, IntKind.i32.wrap ((-32768) - ((Int.tmod more 5) - 2)), []⟩], ⟨7, (-1), 0, [], 0⟩⟩]⟩)).2.2)) rfl rfl) ?_
    refine LF.step (OpOk.assign rfl) ?_
    refine LF.step (OpOk.assign rfl) ?_
    refine LF.step (OpOk.assign rfl) ?_
    refine LF.nil ?_
    refine PF.next ?_
    refine CF.seq ?_
    refine CF.seq ?_
    refine CF.region ?_
    refine LF.step (OpOk.move rfl) ?_
    refine LF.nil ?_
    refine PF.next ?_
    refine CF.if rfl (fun hc8 => ?_) (fun hc8 => ?_)
    · refine CF.region ?_
      refine LF.step (OpOk.assign rfl) ?_
      refine LF.nil ?_
      refine PF.next ?_
      refine CF.seq ?_
      refine CF.region ?_
      refine LF.step (OpOk.move rfl) ?_
      refine LF.step (OpOk.move rfl) ?_
      refine LF.gstepK rfl rfl (.t _) (OpOk.move rfl) ?_
      refine LF.gstepK rfl rfl (.t _) (OpOk.move rfl) ?_
      refine LF.gstepK rfl rfl (.t _) (OpOk.eql rfl rfl) ?_
      refine LF.step (OpOk.pickAnd rfl rfl) ?_
      refine LF.step (OpOk.move rfl) ?_
      refine LF.gstep rfl rfl (.t _) (fun hg => OpOk.move rfl) ?_
      refine LF.gstep rfl rfl (.t _) (fun hg => OpOk.eql (evg rfl hg) rfl) ?_
      refine LF.step (OpOk.pickAnd rfl rfl) ?_
      refine LF.step (OpOk.assign rfl) ?_
      refine LF.nil ?_
      refine PF.next ?_
      refine CF.ret ?_
      have hm : (fun _ _ => true) which more = ((decide ((funcM (⟨0, [⟨[], [⟨3, 0, 0, 0, 0, 0, IntKind.i32.wrap ((-32768) - ((Int.tmod more 5) - 2)), []⟩], ⟨7, (-1), 0, [], 0⟩⟩]⟩)).1 = 0)) && (decide ((funcM (⟨0, [⟨[], [⟨3, 0, 0, 0, 0, 0, IntKind.i32.wrap ((-32768) - ((Int.tmod more 5) - 2)), []⟩], ⟨7, (-1), 0, [], 0⟩⟩]⟩)).2.1 = 0))) := by
        first | (exfalso; omega) | exact (lim_t (lim1 hd) (by omega)).symm | exact (lim_f (lim1 hd) (by omega)).symm
      exact PF.ret1 rfl rfl ⟨by first | (rw [hm] <;> rfl) | exact (congrArg Value.bool hm).symm, hkp⟩
    refine CF.skip ?_
    refine PF.next ?_
    refine CF.seq ?_
    refine CF.region ?_
    refine LF.step (OpOk.move rfl) ?_
    refine LF.step (OpOk.move rfl) ?_
    refine LF.gstepK rfl rfl (.t _) (OpOk.move rfl) ?_
    refine LF.gstepK rfl rfl (.t _) (OpOk.move rfl) ?_
    refine LF.gstepK rfl rfl (.t _) (OpOk.eql rfl rfl) ?_
    refine LF.step (OpOk.pickAnd rfl rfl) ?_
    refine LF.step (OpOk.move rfl) ?_
    refine LF.gstep rfl rfl (.t _) (fun hg => OpOk.move rfl) ?_
    refine LF.gstep rfl rfl (.t _) (fun hg => OpOk.eql (evg rfl hg) rfl) ?_
    refine LF.step (OpOk.pickAnd rfl rfl) ?_
    refine LF.step (OpOk.assign rfl) ?_
    refine LF.nil ?_
    refine PF.next ?_
    refine CF.ret ?_
    have hm : (fun _ _ => true) which more = ((decide ((funcM (⟨0, [⟨[], [⟨3, 0, 0, 0, 0, 0, IntKind.i32.wrap ((-32768) - ((Int.tmod more 5) - 2)), []⟩], ⟨7, (-1), 0, [], 0⟩⟩]⟩)).1 = 32)) && (decide ((funcM (⟨0, [⟨[], [⟨3, 0, 0, 0, 0, 0, IntKind.i32.wrap ((-32768) - ((Int.tmod more 5) - 2)), []⟩], ⟨7, (-1), 0, [], 0⟩⟩]⟩)).2.1 = 0))) := by
      first | (exfalso; omega) | exact (lim_t (lim1 hd) (by omega)).symm | exact (lim_f (lim1 hd) (by omega)).symm
    exact PF.ret1 rfl rfl ⟨by first | (rw [hm] <;> rfl) | exact (congrArg Value.bool hm).symm, hkp⟩
  refine CF.seq ?_
  refine CF.region ?_
  refine LF.step (OpOk.eql rfl rfl) ?_
  refine LF.step (OpOk.assign rfl) ?_
  refine LF.nil ?_
  refine PF.next ?_
  refine CF.if rfl (fun hc9 => ?_) (fun hc9 => ?_)
  · refine CF.region ?_
    refine LF.step (OpOk.move rfl) ?_
    refine LF.step (OpOk.sub rfl rfl (by omega)) ?_
    refine LF.step (OpOk.convI Try.underlying3 Try.underlying21 rfl rfl) ?_
    refine LF.step (OpOk.build (v := .agg #[.int .i64 19, .int .i64 0, .int .i64 0, .int .i64 0, .int .i64 0, .int .i64 0, .int .i32 (IntKind.i32.wrap ((-128) - ((Int.tmod more 5) - 2))), .slice none 0 0]) rfl (fun w => by kernel_rfl)) ?_
    refine LF.chg0 (OpCh.storeBA hb8 Try.sz40 rfl rfl rfl (allOne.mem (l := [.int .i64 19, .int .i64 0, .int .i64 0, .int .i64 0, .int .i64 0, .int .i64 0, .int .i32 (IntKind.i32.wrap ((-128) - ((Int.tmod more 5) - 2))), .slice none 0 0]) ⟨rfl, rfl, rfl, rfl, rfl, rfl, rfl, rfl, trivial⟩) (by decide)) ?_
    rintro _ Hw15 ⟨tw15, bw15⟩
    have ztw15 := tw15.1
    replace hin := hin.tw tw15 ng8
    replace hkp := Tw.kp' hkp tw15 (by omega)
    replace hb9 := hb9.tw tw15 (by first | omega | exact Bx.ne hb9 hb8 (by decide) | assumption | exact Ne.symm (by assumption))
    replace hb8 : Bx _ _ _ [.int .i64 19, .int .i64 0, .int .i64 0, .int .i64 0, .int .i64 0, .int .i64 0, .int .i32 (IntKind.i32.wrap ((-128) - ((Int.tmod more 5) - 2))), .slice none 0 0] := bw15
    clear bw15 tw15
    refine LF.nil ?_
    refine PF.blockNormal ?_
    refine PF.next ?_
    refine CF.seq ?_
    refine CF.region ?_
    refine LF.step (OpOk.ldBxA hb9 Try.agg55 Try.sz55 rfl rfl rfl) ?_
    refine LF.step (OpOk.ldBxA hb8 Try.agg40 Try.sz40 rfl rfl rfl) ?_
    refine LF.chg (OpCh.litL (F := F) (r := rMach) (l := [⟨19, 0, 0, 0, 0, 0, IntKind.i32.wrap ((-128) - ((Int.tmod more 5) - 2)), []⟩]) (us := [.agg #[.int .i64 19, .int .i64 0, .int .i64 0, .int .i64 0, .int .i64 0, .int .i64 0, .int .i32 (IntKind.i32.wrap ((-128) - ((Int.tmod more 5) - 2))), .slice none 0 0]]) (cs := [[.int .i64 19, .int .i64 0, .int .i64 0, .int .i64 0, .int .i64 0, .int .i64 0, .int .i32 (IntKind.i32.wrap ((-128) - ((Int.tmod more 5) - 2))), .slice none 0 0]]) Try.underlying59 Try.info40 (by decide) rfl rfl rfl ⟨rfl, rfl, (ra_ok (rMach.mk (m := ⟨19, 0, 0, 0, 0, 0, IntKind.i32.wrap ((-128) - ((Int.tmod more 5) - 2)), []⟩) (rL.nil _) (by decide : IntKind.i64.wrap 19 = 19) (by decide : IntKind.i64.wrap 0 = 0) (by decide : IntKind.i64.wrap 0 = 0) (by decide : IntKind.i64.wrap 0 = 0) (by decide : IntKind.i64.wrap 0 = 0) (by decide : IntKind.i64.wrap 0 = 0) (wrap_wrap _ _))), trivial⟩) ?_
    rintro _ H88 ⟨g88, rfl, e88, s88, k88, x88⟩
    have l88 := hkp.1
    have nq88_8 := (x88 hin).neLt (.inl hb8.lt)
    replace x88 := (x88 hin).base l88
    have zk88 := k88.1
    replace hin := hin.kp k88
    replace hkp := hkp.trans (k88.mono hkp.1)
    replace hb8 := hb8.kp k88
    replace hb9 := hb9.kp k88
    obtain ⟨Fz16, hxz16, lez16, hinz16, noz16, hrz16⟩ := x88.freezeX hin hx (Nat.le_refl _) (by first | (simp only [List.length_append, List.length_take, List.length_drop, List.length_nil, List.length_cons, List.length_set, List.length_replicate]; omega) | (simp; done) | (simp; omega) | omega)
    replace hin := hinz16
    replace hx := hxz16
    have le0 := lez16
    replace ng8 := (noz16 _ nq88_8).trans ng8
    replace ng9 := (noz16 _ (x88.neBx hb9 (by decide))).trans ng9
    refine LF.call (OpCall.fn Try.ent23 rfl rfl) (one2_ct hin 0 (rEnd.mk (m := ⟨7, (-1), 0, [], 0⟩) (rL.nil _) (by decide : IntKind.i64.wrap 7 = 7) (by decide : IntKind.i64.wrap (-1) = (-1)) (by decide : IntKind.i64.wrap 0 = 0) (by decide : IntKind.i32.wrap 0 = 0)) hrz16) ?_
    rintro _ H89 ⟨F89, vb89, rfl, x89, i89, k89, xb89⟩
    replace xb89 := xb89.base hkp.1
    have zk89 := k89.1
    replace hx := hx.trans x89 hkp.1
    replace hkp := hkp.trans (k89.mono hkp.1)
    have l89 := hkp.1
    replace ng8 := x89.no ng8 hb8.lt
    replace hb8 := hb8.kp k89
    replace ng9 := x89.no ng9 hb9.lt
    replace hb9 := hb9.kp k89
    replace le0 := le0.trans x89.1
    have le1 := x89.1
    have hin := i89
    refine LF.chg (OpCh.allocB Try.zero24 rfl) ?_
    rintro _ H12 ⟨g12, rfl, eg12, sg12, kg12, hb12⟩
    have ng12 := hin.nope (Nat.le_of_eq eg12.symm)
    have lg12 := hkp.1
    have zkg12 := kg12.1
    replace hin := hin.kp kg12
    replace hkp := hkp.trans (kg12.mono hkp.1)
    replace hb8 := hb8.kp kg12
    replace hb9 := hb9.kp kg12
    replace xb89 := xb89.kp kg12
    clear kg12
    refine LF.chg0 (OpCh.storeBA hb12 Try.sz24 rfl rfl rfl (allOne.mem (l := [.int .i64 0, vb89]) ⟨rfl, xb89.one1, trivial⟩) (by decide)) ?_
    rintro _ Hw17 ⟨tw17, bw17⟩
    have ztw17 := tw17.1
    replace hin := hin.tw tw17 ng12
    replace hkp := Tw.kp' hkp tw17 (by omega)
    replace hb8 := hb8.tw tw17 (by first | omega | exact Bx.ne hb8 hb12 (by decide) | assumption | exact Ne.symm (by assumption))
    replace hb9 := hb9.tw tw17 (by first | omega | exact Bx.ne hb9 hb12 (by decide) | assumption | exact Ne.symm (by assumption))
    replace xb89 := xb89.tw tw17 (by first | exact xb89.neBx hb12 (by decide) | exact xb89.neLt (by omega) | exact nq89_12)
    replace hb12 : Bx _ _ _ [.int .i64 0, vb89] := bw17
    clear bw17 tw17
    refine LF.nil ?_
    refine PF.next ?_
    refine CF.seq ?_
    refine CF.seq ?_
    refine CF.region ?_
    refine LF.step (OpOk.move rfl) ?_
    refine LF.step (OpOk.rem rfl rfl (by decide)) ?_
    refine LF.step (OpOk.eql rfl rfl) ?_
    refine LF.nil ?_
    refine PF.next ?_
    refine CF.if rfl (fun hc10 => ?_) (fun hc10 => ?_)
    · refine CF.region ?_
      refine LF.step (OpOk.fieldAddr (Try.fld24_1) rfl) ?_
      refine LF.step (OpOk.ldBx hb12 Try.one22 rfl rfl) ?_
      refine LF.step (OpOk.build (v := .agg #[.int .i64 8, .int .i64 0, .int .i64 0, .slice none 0 0, .int .i32 0]) rfl (fun w => by kernel_rfl)) ?_
      refine LF.step (OpOk.build (v := .agg #[.slice none 0 0, .slice none 0 0, .int .i64 8, .int .i64 0, .int .i64 0, .slice none 0 0, .int .i32 0]) rfl (fun w => by kernel_rfl)) ?_
      refine LF.appA (r := rMBlock) (a := ⟨[], [], ⟨8, 0, 0, [], 0⟩⟩) Try.underlying22 Try.info61 (by decide) rfl rfl (rMBlock.mk (m := ⟨[], [], ⟨8, 0, 0, [], 0⟩⟩) (rL.nil _) (rL.nil _) (rL.nil _) (by decide : IntKind.i64.wrap 8 = 8) (by decide : IntKind.i64.wrap 0 = 0) (by decide : IntKind.i64.wrap 0 = 0) (by decide : IntKind.i32.wrap 0 = 0)) xb89 hin (by first | (simp only [List.length_append, List.length_take, List.length_drop, List.length_nil, List.length_cons, List.length_set, List.length_replicate]; omega) | (simp; done) | (simp; omega) | omega) rfl ?_ hkp.1
      intro v98 H98 x98 gb98 nn98 ob98
      replace hin := hin.grown gb98 xb89.no
      replace hkp := gb98.kp hkp (Nat.le_refl _) (fun k0 hk0 => (xb89.blk k0 hk0).1)
      replace hb8 := hb8.of (gb98.2 _ hb8.lt (Ne.symm (by first | exact xb89.neBx hb8 (by decide) | exact nq89_8)))
      replace hb9 := hb9.of (gb98.2 _ hb9.lt (Ne.symm (by first | exact xb89.neBx hb9 (by decide) | exact nq89_9)))
      replace hb12 := hb12.of (gb98.2 _ hb12.lt (Ne.symm (by first | exact xb89.neBx hb12 (by decide) | exact nq89_12)))
      refine LF.step (OpOk.fieldAddr (Try.fld24_1) rfl) ?_
      refine LF.chg0 (OpCh.storeB hb12 Try.sz22 rfl rfl x98.one1 (by first | decide | (simp; done))) ?_
      rintro _ Hw18 ⟨tw18, bw18⟩
      have ztw18 := tw18.1
      replace hin := hin.tw tw18 ng12
      replace hkp := Tw.kp' hkp tw18 (by omega)
      replace hb8 := hb8.tw tw18 (by first | omega | exact Bx.ne hb8 hb12 (by decide) | assumption | exact Ne.symm (by assumption))
      replace hb9 := hb9.tw tw18 (by first | omega | exact Bx.ne hb9 hb12 (by decide) | assumption | exact Ne.symm (by assumption))
      replace x98 := x98.tw tw18 (by first | exact x98.neBx hb12 (by decide) | exact x98.neLt (by omega) | exact nq98_12)
      replace hb12 : Bx _ _ _ [.int .i64 0, v98] := bw18
      clear bw18 tw18
      refine LF.nil ?_
      refine PF.next ?_
      refine CF.seq ?_
      refine CF.region ?_
      refine LF.step (OpOk.ldBxA hb12 Try.agg24 Try.sz24 rfl rfl rfl) ?_
      obtain ⟨Fz19, hxz19, lez19, hinz19, noz19, hrz19⟩ := x98.freezeX hin hx (Nat.le_refl _) (by first | (simp only [List.length_append, List.length_take, List.length_drop, List.length_nil, List.length_cons, List.length_set, List.length_replicate]; omega) | (simp; done) | (simp; omega) | omega)
      replace hin := hinz19
      replace hx := hxz19
      replace le0 := le0.trans lez19
      replace le1 := le1.trans lez19
      have le2 := lez19
      replace ng8 := (noz19 _ (x98.neBx hb8 (by decide))).trans ng8
      replace ng9 := (noz19 _ (x98.neBx hb9 (by decide))).trans ng9
      replace ng12 := (noz19 _ (x98.neBx hb12 (by decide))).trans ng12
      refine LF.call (OpCall.fn Try.ent24 rfl rfl) (pFunc_ct hin (rMFunc.mk (m := ⟨0, ([⟨[], [⟨19, 0, 0, 0, 0, 0, IntKind.i32.wrap ((-128) - ((Int.tmod more 5) - 2)), []⟩], ⟨7, (-1), 0, [], 0⟩⟩]) ++ [⟨[], [], ⟨8, 0, 0, [], 0⟩⟩]⟩) hrz19 (by decide : IntKind.i64.wrap 0 = 0))) ?_
      rintro _ H102 ⟨rfl, k102⟩
      have zk102 := k102.1
      replace hin := hin.kp k102
      replace hkp := hkp.trans (k102.mono hkp.1)
      replace hb8 := hb8.kp k102
      replace hb9 := hb9.kp k102
      replace hb12 := hb12.kp k102
      refine LF.step (OpOk.move rfl) ?_
      refine LF.step (OpOk.extract (v := .int .i64 ((funcM (⟨0, ([⟨[], [⟨19, 0, 0, 0, 0, 0, IntKind.i32.wrap ((-128) - ((Int.tmod more 5) - 2)), []⟩], ⟨7, (-1), 0, [], 0⟩⟩]) ++ [⟨[], [], ⟨8, 0, 0, [], 0⟩⟩]⟩)).1)) rfl rfl) ?_
      refine LF.step (OpOk.extract (v := .int .i64 ((funcM (⟨0, ([⟨[], [⟨19, 0, 0, 0, 0, 0, IntKind.i32.wrap ((-128) - ((Int.tmod more 5) - 2)), []⟩], ⟨7, (-1), 0, [], 0⟩⟩]) ++ [⟨[], [], ⟨8, 0, 0, [], 0⟩⟩]⟩)).2.1)) rfl rfl) ?_
      refine LF.step (OpOk.extract (v := .int .i64 ((funcM (⟨0, ([⟨[], [⟨19, 0, 0, 0, 0, 0, IntKind.i32.wrap ((-128) - ((Int.tmod more 5) - 2)), []⟩], ⟨7, (-1), 0, [], 0⟩⟩]) ++ [⟨[], [], ⟨8, 0, 0, [], 0⟩⟩]⟩)).2.2)) rfl rfl) ?_
      refine LF.step (OpOk.assign rfl) ?_
      refine LF.step (OpOk.assign rfl) ?_
      refine LF.step (OpOk.assign rfl) ?_
      refine LF.nil ?_
      refine PF.next ?_
      refine CF.seq ?_
      refine CF.seq ?_
      refine CF.region ?_
      refine LF.step (OpOk.move rfl) ?_
      refine LF.nil ?_
      refine PF.next ?_
      refine CF.if rfl (fun hc11 => ?_) (fun hc11 => ?_)
      · refine CF.region ?_
        refine LF.step (OpOk.assign rfl) ?_
        refine LF.nil ?_
        refine PF.next ?_
        refine CF.seq ?_
        refine CF.region ?_
        refine LF.step (OpOk.move rfl) ?_
        refine LF.step (OpOk.move rfl) ?_
        refine LF.gstepK rfl rfl (.t _) (OpOk.move rfl) ?_
        refine LF.gstepK rfl rfl (.t _) (OpOk.move rfl) ?_
        refine LF.gstepK rfl rfl (.t _) (OpOk.eql rfl rfl) ?_
        refine LF.step (OpOk.pickAnd rfl rfl) ?_
        refine LF.step (OpOk.move rfl) ?_
        refine LF.gstep rfl rfl (.t _) (fun hg => OpOk.move rfl) ?_
        refine LF.gstep rfl rfl (.t _) (fun hg => OpOk.eql (evg rfl hg) rfl) ?_
        refine LF.step (OpOk.pickAnd rfl rfl) ?_
        refine LF.step (OpOk.assign rfl) ?_
        refine LF.nil ?_
        refine PF.next ?_
        refine CF.ret ?_
        have hm : (fun _ _ => true) which more = ((decide ((funcM (⟨0, ([⟨[], [⟨19, 0, 0, 0, 0, 0, IntKind.i32.wrap ((-128) - ((Int.tmod more 5) - 2)), []⟩], ⟨7, (-1), 0, [], 0⟩⟩]) ++ [⟨[], [], ⟨8, 0, 0, [], 0⟩⟩]⟩)).1 = 0)) && (decide ((funcM (⟨0, ([⟨[], [⟨19, 0, 0, 0, 0, 0, IntKind.i32.wrap ((-128) - ((Int.tmod more 5) - 2)), []⟩], ⟨7, (-1), 0, [], 0⟩⟩]) ++ [⟨[], [], ⟨8, 0, 0, [], 0⟩⟩]⟩)).2.1 = 0))) := by
          first | (exfalso; omega) | exact (lim_t (lim2 hd) (by omega)).symm | exact (lim_f (lim2 hd) (by omega)).symm
        exact PF.ret1 rfl rfl ⟨by first | (rw [hm] <;> rfl) | exact (congrArg Value.bool hm).symm, hkp⟩
      refine CF.skip ?_
      refine PF.next ?_
      refine CF.seq ?_
      refine CF.region ?_
      refine LF.step (OpOk.move rfl) ?_
      refine LF.step (OpOk.move rfl) ?_
      refine LF.gstepK rfl rfl (.t _) (OpOk.move rfl) ?_
      refine LF.gstepK rfl rfl (.t _) (OpOk.move rfl) ?_
      refine LF.gstepK rfl rfl (.t _) (OpOk.eql rfl rfl) ?_
      refine LF.step (OpOk.pickAnd rfl rfl) ?_
      refine LF.step (OpOk.move rfl) ?_
      refine LF.gstep rfl rfl (.t _) (fun hg => OpOk.move rfl) ?_
      refine LF.gstep rfl rfl (.t _) (fun hg => OpOk.eql (evg rfl hg) rfl) ?_
      refine LF.step (OpOk.pickAnd rfl rfl) ?_
      refine LF.step (OpOk.assign rfl) ?_
      refine LF.nil ?_
      refine PF.next ?_
      refine CF.ret ?_
      have hm : (fun _ _ => true) which more = ((decide ((funcM (⟨0, ([⟨[], [⟨19, 0, 0, 0, 0, 0, IntKind.i32.wrap ((-128) - ((Int.tmod more 5) - 2)), []⟩], ⟨7, (-1), 0, [], 0⟩⟩]) ++ [⟨[], [], ⟨8, 0, 0, [], 0⟩⟩]⟩)).1 = 32)) && (decide ((funcM (⟨0, ([⟨[], [⟨19, 0, 0, 0, 0, 0, IntKind.i32.wrap ((-128) - ((Int.tmod more 5) - 2)), []⟩], ⟨7, (-1), 0, [], 0⟩⟩]) ++ [⟨[], [], ⟨8, 0, 0, [], 0⟩⟩]⟩)).2.1 = 0))) := by
        first | (exfalso; omega) | exact (lim_t (lim2 hd) (by omega)).symm | exact (lim_f (lim2 hd) (by omega)).symm
      exact PF.ret1 rfl rfl ⟨by first | (rw [hm] <;> rfl) | exact (congrArg Value.bool hm).symm, hkp⟩
    refine CF.skip ?_
    refine PF.next ?_
    refine CF.seq ?_
    refine CF.region ?_
    refine LF.step (OpOk.ldBxA hb12 Try.agg24 Try.sz24 rfl rfl rfl) ?_
    obtain ⟨Fz20, hxz20, lez20, hinz20, noz20, hrz20⟩ := xb89.freezeX hin hx (Nat.le_refl _) (by first | (simp only [List.length_append, List.length_take, List.length_drop, List.length_nil, List.length_cons, List.length_set, List.length_replicate]; omega) | (simp; done) | (simp; omega) | omega)
    replace hin := hinz20
    replace hx := hxz20
    replace le0 := le0.trans lez20
    replace le1 := le1.trans lez20
    have le2 := lez20
    replace ng8 := (noz20 _ (xb89.neBx hb8 (by decide))).trans ng8
    replace ng9 := (noz20 _ (xb89.neBx hb9 (by decide))).trans ng9
    replace ng12 := (noz20 _ (xb89.neBx hb12 (by decide))).trans ng12
    refine LF.call (OpCall.fn Try.ent24 rfl rfl) (pFunc_ct hin (rMFunc.mk (m := ⟨0, [⟨[], [⟨19, 0, 0, 0, 0, 0, IntKind.i32.wrap ((-128) - ((Int.tmod more 5) - 2)), []⟩], ⟨7, (-1), 0, [], 0⟩⟩]⟩) hrz20 (by decide : IntKind.i64.wrap 0 = 0))) ?_
    rintro _ H102 ⟨rfl, k102⟩
    have zk102 := k102.1
    replace hin := hin.kp k102
    replace hkp := hkp.trans (k102.mono hkp.1)
    replace hb8 := hb8.kp k102
    replace hb9 := hb9.kp k102
    replace hb12 := hb12.kp k102
    refine LF.step (OpOk.move rfl) ?_
    refine LF.step (OpOk.extract (v := .int .i64 ((funcM (⟨0, [⟨[], [⟨19, 0, 0, 0, 0, 0, IntKind.i32.wrap ((-128) - ((Int.tmod more 5) - 2)), []⟩], ⟨7, (-1), 0, [], 0⟩⟩]⟩)).1)) rfl rfl) ?_
    refine LF.step (OpOk.extract (v := .int .i64 ((funcM (⟨0, [⟨[], [⟨19, 0, 0, 0, 0, 0, IntKind.i32.wrap ((-128) - ((Int.tmod more 5) - 2)), []⟩], ⟨7, (-1), 0, [], 0⟩⟩]⟩)).2.1)) rfl rfl) ?_
    refine LF.step (OpOk.extract (v := .int .i64 ((funcM (⟨0, [⟨[], [⟨19, 0, 0, 0, 0, 0, IntKind.i32.wrap ((-128) - ((Int.tmod more 5) - 2)), []⟩], ⟨7, (-1), 0, [], 0⟩⟩]⟩)).2.2)) rfl rfl) ?_
    refine LF.step (OpOk.assign rfl) ?_
    refine LF.step (OpOk.assign rfl) ?_
    refine LF.step (OpOk.assign rfl) ?_
    refine LF.nil ?_
    refine PF.next ?_
    refine CF.seq ?_
    refine CF.seq ?_
    refine CF.region ?_
    refine LF.step (OpOk.move rfl) ?_
    refine LF.nil ?_
    refine PF.next ?_
    refine CF.if rfl (fun hc12 => ?_) (fun hc12 => ?_)
    · refine CF.region ?_
      refine LF.step (OpOk.assign rfl) ?_
      refine LF.nil ?_
      refine PF.next ?_
      refine CF.seq ?_
      refine CF.region ?_
      refine LF.step (OpOk.move rfl) ?_
      refine LF.step (OpOk.move rfl) ?_
      refine LF.gstepK rfl rfl (.t _) (OpOk.move rfl) ?_
      refine LF.gstepK rfl rfl (.t _) (OpOk.move rfl) ?_
      refine LF.gstepK rfl rfl (.t _) (OpOk.eql rfl rfl) ?_
      refine LF.step (OpOk.pickAnd rfl rfl) ?_
      refine LF.step (OpOk.move rfl) ?_
      refine LF.gstep rfl rfl (.t _) (fun hg => OpOk.move rfl) ?_
      refine LF.gstep rfl rfl (.t _) (fun hg => OpOk.eql (evg rfl hg) rfl) ?_
      refine LF.step (OpOk.pickAnd rfl rfl) ?_
      refine LF.step (OpOk.assign rfl) ?_
      refine LF.nil ?_
      refine PF.next ?_
      refine CF.ret ?_
      have hm : (fun _ _ => true) which more = ((decide ((funcM (⟨0, [⟨[], [⟨19, 0, 0, 0, 0, 0, IntKind.i32.wrap ((-128) - ((Int.tmod more 5) - 2)), []⟩], ⟨7, (-1), 0, [], 0⟩⟩]⟩)).1 = 0)) && (decide ((funcM (⟨0, [⟨[], [⟨19, 0, 0, 0, 0, 0, IntKind.i32.wrap ((-128) - ((Int.tmod more 5) - 2)), []⟩], ⟨7, (-1), 0, [], 0⟩⟩]⟩)).2.1 = 0))) := by
        first | (exfalso; omega) | exact (lim_t (lim2 hd) (by omega)).symm | exact (lim_f (lim2 hd) (by omega)).symm
      exact PF.ret1 rfl rfl ⟨by first | (rw [hm] <;> rfl) | exact (congrArg Value.bool hm).symm, hkp⟩
    refine CF.skip ?_
    refine PF.next ?_
    refine CF.seq ?_
    refine CF.region ?_
    refine LF.step (OpOk.move rfl) ?_
    refine LF.step (OpOk.move rfl) ?_
    refine LF.gstepK rfl rfl (.t _) (OpOk.move rfl) ?_
    refine LF.gstepK rfl rfl (.t _) (OpOk.move rfl) ?_
    refine LF.gstepK rfl rfl (.t _) (OpOk.eql rfl rfl) ?_
    refine LF.step (OpOk.pickAnd rfl rfl) ?_
    refine LF.step (OpOk.move rfl) ?_
    refine LF.gstep rfl rfl (.t _) (fun hg => OpOk.move rfl) ?_
    refine LF.gstep rfl rfl (.t _) (fun hg => OpOk.eql (evg rfl hg) rfl) ?_
    refine LF.step (OpOk.pickAnd rfl rfl) ?_
    refine LF.step (OpOk.assign rfl) ?_
    refine LF.nil ?_
    refine PF.next ?_
    refine CF.ret ?_
    have hm : (fun _ _ => true) which more = ((decide ((funcM (⟨0, [⟨[], [⟨19, 0, 0, 0, 0, 0, IntKind.i32.wrap ((-128) - ((Int.tmod more 5) - 2)), []⟩], ⟨7, (-1), 0, [], 0⟩⟩]⟩)).1 = 32)) && (decide ((funcM (⟨0, [⟨[], [⟨19, 0, 0, 0, 0, 0, IntKind.i32.wrap ((-128) - ((Int.tmod more 5) - 2)), []⟩], ⟨7, (-1), 0, [], 0⟩⟩]⟩)).2.1 = 0))) := by
      first | (exfalso; omega) | exact (lim_t (lim2 hd) (by omega)).symm | exact (lim_f (lim2 hd) (by omega)).symm
    exact PF.ret1 rfl rfl ⟨by first | (rw [hm] <;> rfl) | exact (congrArg Value.bool hm).symm, hkp⟩
  refine CF.seq ?_
  refine CF.region ?_
  refine LF.step (OpOk.eql rfl rfl) ?_
  refine LF.step (OpOk.assign rfl) ?_
  refine LF.nil ?_
  refine PF.next ?_
  refine CF.if rfl (fun hc13 => ?_) (fun hc13 => ?_)
  · refine CF.region ?_
    refine LF.step (OpOk.move rfl) ?_
    refine LF.step (OpOk.add rfl rfl (by omega)) ?_
    refine LF.step (OpOk.convI Try.underlying3 Try.underlying21 rfl rfl) ?_
    refine LF.step (OpOk.build (v := .agg #[.int .i64 22, .int .i64 0, .int .i64 0, .int .i64 0, .int .i64 0, .int .i64 0, .int .i32 (IntKind.i32.wrap (31 + ((Int.tmod more 5) - 2))), .slice none 0 0]) rfl (fun w => by kernel_rfl)) ?_
    refine LF.chg0 (OpCh.storeBA hb8 Try.sz40 rfl rfl rfl (allOne.mem (l := [.int .i64 22, .int .i64 0, .int .i64 0, .int .i64 0, .int .i64 0, .int .i64 0, .int .i32 (IntKind.i32.wrap (31 + ((Int.tmod more 5) - 2))), .slice none 0 0]) ⟨rfl, rfl, rfl, rfl, rfl, rfl, rfl, rfl, trivial⟩) (by decide)) ?_
    rintro _ Hw21 ⟨tw21, bw21⟩
    have ztw21 := tw21.1
    replace hin := hin.tw tw21 ng8
    replace hkp := Tw.kp' hkp tw21 (by omega)
    replace hb9 := hb9.tw tw21 (by first | omega | exact Bx.ne hb9 hb8 (by decide) | assumption | exact Ne.symm (by assumption))
    replace hb8 : Bx _ _ _ [.int .i64 22, .int .i64 0, .int .i64 0, .int .i64 0, .int .i64 0, .int .i64 0, .int .i32 (IntKind.i32.wrap (31 + ((Int.tmod more 5) - 2))), .slice none 0 0] := bw21
    clear bw21 tw21
    refine LF.nil ?_
    refine PF.blockNormal ?_
    refine PF.next ?_
    refine CF.seq ?_
    refine CF.region ?_
    refine LF.step (OpOk.ldBxA hb9 Try.agg55 Try.sz55 rfl rfl rfl) ?_
    refine LF.step (OpOk.ldBxA hb8 Try.agg40 Try.sz40 rfl rfl rfl) ?_
    refine LF.chg (OpCh.litL (F := F) (r := rMach) (l := [⟨22, 0, 0, 0, 0, 0, IntKind.i32.wrap (31 + ((Int.tmod more 5) - 2)), []⟩]) (us := [.agg #[.int .i64 22, .int .i64 0, .int .i64 0, .int .i64 0, .int .i64 0, .int .i64 0, .int .i32 (IntKind.i32.wrap (31 + ((Int.tmod more 5) - 2))), .slice none 0 0]]) (cs := [[.int .i64 22, .int .i64 0, .int .i64 0, .int .i64 0, .int .i64 0, .int .i64 0, .int .i32 (IntKind.i32.wrap (31 + ((Int.tmod more 5) - 2))), .slice none 0 0]]) Try.underlying59 Try.info40 (by decide) rfl rfl rfl ⟨rfl, rfl, (ra_ok (rMach.mk (m := ⟨22, 0, 0, 0, 0, 0, IntKind.i32.wrap (31 + ((Int.tmod more 5) - 2)), []⟩) (rL.nil _) (by decide : IntKind.i64.wrap 22 = 22) (by decide : IntKind.i64.wrap 0 = 0) (by decide : IntKind.i64.wrap 0 = 0) (by decide : IntKind.i64.wrap 0 = 0) (by decide : IntKind.i64.wrap 0 = 0) (by decide : IntKind.i64.wrap 0 = 0) (wrap_wrap _ _))), trivial⟩) ?_
    rintro _ H88 ⟨g88, rfl, e88, s88, k88, x88⟩
    have l88 := hkp.1
    have nq88_8 := (x88 hin).neLt (.inl hb8.lt)
    replace x88 := (x88 hin).base l88
    have zk88 := k88.1
    replace hin := hin.kp k88
    replace hkp := hkp.trans (k88.mono hkp.1)
    replace hb8 := hb8.kp k88
    replace hb9 := hb9.kp k88
    obtain ⟨Fz22, hxz22, lez22, hinz22, noz22, hrz22⟩ := x88.freezeX hin hx (Nat.le_refl _) (by first | (simp only [List.length_append, List.length_take, List.length_drop, List.length_nil, List.length_cons, List.length_set, List.length_replicate]; omega) | (simp; done) | (simp; omega) | omega)
    replace hin := hinz22
    replace hx := hxz22
    have le0 := lez22
    replace ng8 := (noz22 _ nq88_8).trans ng8
    replace ng9 := (noz22 _ (x88.neBx hb9 (by decide))).trans ng9
    refine LF.call (OpCall.fn Try.ent23 rfl rfl) (one2_ct hin 0 (rEnd.mk (m := ⟨7, (-1), 0, [], 0⟩) (rL.nil _) (by decide : IntKind.i64.wrap 7 = 7) (by decide : IntKind.i64.wrap (-1) = (-1)) (by decide : IntKind.i64.wrap 0 = 0) (by decide : IntKind.i32.wrap 0 = 0)) hrz22) ?_
    rintro _ H89 ⟨F89, vb89, rfl, x89, i89, k89, xb89⟩
    replace xb89 := xb89.base hkp.1
    have zk89 := k89.1
    replace hx := hx.trans x89 hkp.1
    replace hkp := hkp.trans (k89.mono hkp.1)
    have l89 := hkp.1
    replace ng8 := x89.no ng8 hb8.lt
    replace hb8 := hb8.kp k89
    replace ng9 := x89.no ng9 hb9.lt
    replace hb9 := hb9.kp k89
    replace le0 := le0.trans x89.1
    have le1 := x89.1
    have hin := i89
    refine LF.chg (OpCh.allocB Try.zero24 rfl) ?_
    rintro _ H12 ⟨g12, rfl, eg12, sg12, kg12, hb12⟩
    have ng12 := hin.nope (Nat.le_of_eq eg12.symm)
    have lg12 := hkp.1
    have zkg12 := kg12.1
    replace hin := hin.kp kg12
    replace hkp := hkp.trans (kg12.mono hkp.1)
    replace hb8 := hb8.kp kg12
    replace hb9 := hb9.kp kg12
    replace xb89 := xb89.kp kg12
    clear kg12
    refine LF.chg0 (OpCh.storeBA hb12 Try.sz24 rfl rfl rfl (allOne.mem (l := [.int .i64 0, vb89]) ⟨rfl, xb89.one1, trivial⟩) (by decide)) ?_
    rintro _ Hw23 ⟨tw23, bw23⟩
    have ztw23 := tw23.1
    replace hin := hin.tw tw23 ng12
    replace hkp := Tw.kp' hkp tw23 (by omega)
    replace hb8 := hb8.tw tw23 (by first | omega | exact Bx.ne hb8 hb12 (by decide) | assumption | exact Ne.symm (by assumption))
    replace hb9 := hb9.tw tw23 (by first | omega | exact Bx.ne hb9 hb12 (by decide) | assumption | exact Ne.symm (by assumption))
    replace xb89 := xb89.tw tw23 (by first | exact xb89.neBx hb12 (by decide) | exact xb89.neLt (by omega) | exact nq89_12)
    replace hb12 : Bx _ _ _ [.int .i64 0, vb89] := bw23
    clear bw23 tw23
    refine LF.nil ?_
    refine PF.next ?_
    refine CF.seq ?_
    refine CF.seq ?_
    refine CF.region ?_
    refine LF.step (OpOk.move rfl) ?_
    refine LF.step (OpOk.rem rfl rfl (by decide)) ?_
    refine LF.step (OpOk.eql rfl rfl) ?_
    refine LF.nil ?_
    refine PF.next ?_
    refine CF.if rfl (fun hc14 => ?_) (fun hc14 => ?_)
    · refine CF.region ?_
      refine LF.step (OpOk.fieldAddr (Try.fld24_1) rfl) ?_
      refine LF.step (OpOk.ldBx hb12 Try.one22 rfl rfl) ?_
      refine LF.step (OpOk.build (v := .agg #[.int .i64 8, .int .i64 0, .int .i64 0, .slice none 0 0, .int .i32 0]) rfl (fun w => by kernel_rfl)) ?_
      refine LF.step (OpOk.build (v := .agg #[.slice none 0 0, .slice none 0 0, .int .i64 8, .int .i64 0, .int .i64 0, .slice none 0 0, .int .i32 0]) rfl (fun w => by kernel_rfl)) ?_
      refine LF.appA (r := rMBlock) (a := ⟨[], [], ⟨8, 0, 0, [], 0⟩⟩) Try.underlying22 Try.info61 (by decide) rfl rfl (rMBlock.mk (m := ⟨[], [], ⟨8, 0, 0, [], 0⟩⟩) (rL.nil _) (rL.nil _) (rL.nil _) (by decide : IntKind.i64.wrap 8 = 8) (by decide : IntKind.i64.wrap 0 = 0) (by decide : IntKind.i64.wrap 0 = 0) (by decide : IntKind.i32.wrap 0 = 0)) xb89 hin (by first | (simp only [List.length_append, List.length_take, List.length_drop, List.length_nil, List.length_cons, List.length_set, List.length_replicate]; omega) | (simp; done) | (simp; omega) | omega) rfl ?_ hkp.1
      intro v98 H98 x98 gb98 nn98 ob98
      replace hin := hin.grown gb98 xb89.no
      replace hkp := gb98.kp hkp (Nat.le_refl _) (fun k0 hk0 => (xb89.blk k0 hk0).1)
      replace hb8 := hb8.of (gb98.2 _ hb8.lt (Ne.symm (by first | exact xb89.neBx hb8 (by decide) | exact nq89_8)))
      replace hb9 := hb9.of (gb98.2 _ hb9.lt (Ne.symm (by first | exact xb89.neBx hb9 (by decide) | exact nq89_9)))
      replace hb12 := hb12.of (gb98.2 _ hb12.lt (Ne.symm (by first | exact xb89.neBx hb12 (by decide) | exact nq89_12)))
      refine LF.step (OpOk.fieldAddr (Try.fld24_1) rfl) ?_
      refine LF.chg0 (OpCh.storeB hb12 Try.sz22 rfl rfl x98.one1 (by first | decide | (simp; done))) ?_
      rintro _ Hw24 ⟨tw24, bw24⟩
      have ztw24 := tw24.1
      replace hin := hin.tw tw24 ng12
      replace hkp := Tw.kp' hkp tw24 (by omega)
      replace hb8 := hb8.tw tw24 (by first | omega | exact Bx.ne hb8 hb12 (by decide) | assumption | exact Ne.symm (by assumption))
      replace hb9 := hb9.tw tw24 (by first | omega | exact Bx.ne hb9 hb12 (by decide) | assumption | exact Ne.symm (by assumption))
      replace x98 := x98.tw tw24 (by first | exact x98.neBx hb12 (by decide) | exact x98.neLt (by omega) | exact nq98_12)
      replace hb12 : Bx _ _ _ [.int .i64 0, v98] := bw24
      clear bw24 tw24
      refine LF.nil ?_
      refine PF.next ?_
      refine CF.seq ?_
      refine CF.region ?_
      refine LF.step (OpOk.ldBxA hb12 Try.agg24 Try.sz24 rfl rfl rfl) ?_
      obtain ⟨Fz25, hxz25, lez25, hinz25, noz25, hrz25⟩ := x98.freezeX hin hx (Nat.le_refl _) (by first | (simp only [List.length_append, List.length_take, List.length_drop, List.length_nil, List.length_cons, List.length_set, List.length_replicate]; omega) | (simp; done) | (simp; omega) | omega)
      replace hin := hinz25
      replace hx := hxz25
      replace le0 := le0.trans lez25
      replace le1 := le1.trans lez25
      have le2 := lez25
      replace ng8 := (noz25 _ (x98.neBx hb8 (by decide))).trans ng8
      replace ng9 := (noz25 _ (x98.neBx hb9 (by decide))).trans ng9
      replace ng12 := (noz25 _ (x98.neBx hb12 (by decide))).trans ng12
      refine LF.call (OpCall.fn Try.ent24 rfl rfl) (pFunc_ct hin (rMFunc.mk (m := ⟨0, ([⟨[], [⟨22, 0, 0, 0, 0, 0, IntKind.i32.wrap (31 + ((Int.tmod more 5) - 2)), []⟩], ⟨7, (-1), 0, [], 0⟩⟩]) ++ [⟨[], [], ⟨8, 0, 0, [], 0⟩⟩]⟩) hrz25 (by decide : IntKind.i64.wrap 0 = 0))) ?_
      rintro _ H102 ⟨rfl, k102⟩
      have zk102 := k102.1
      replace hin := hin.kp k102
      replace hkp := hkp.trans (k102.mono hkp.1)
      replace hb8 := hb8.kp k102
      replace hb9 := hb9.kp k102
      replace hb12 := hb12.kp k102
      refine LF.step (OpOk.move rfl) ?_
      refine LF.step (OpOk.extract (v := .int .i64 ((funcM (⟨0, ([⟨[], [⟨22, 0, 0, 0, 0, 0, IntKind.i32.wrap (31 + ((Int.tmod more 5) - 2)), []⟩], ⟨7, (-1), 0, [], 0⟩⟩]) ++ [⟨[], [], ⟨8, 0, 0, [], 0⟩⟩]⟩)).1)) rfl rfl) ?_
      refine LF.step (OpOk.extract (v := .int .i64 ((funcM (⟨0, ([⟨[], [⟨22, 0, 0, 0, 0, 0, IntKind.i32.wrap (31 + ((Int.tmod more 5) - 2)), []⟩], ⟨7, (-1), 0, [], 0⟩⟩]) ++ [⟨[], [], ⟨8, 0, 0, [], 0⟩⟩]⟩)).2.1)) rfl rfl) ?_
      refine LF.step (OpOk.extract (v := .int .i64 ((funcM (⟨0, ([⟨[], [⟨22, 0, 0, 0, 0, 0, IntKind.i32.wrap (31 + ((Int.tmod more 5) - 2)), []⟩], ⟨7, (-1), 0, [], 0⟩⟩]) ++ [⟨[], [], ⟨8, 0, 0, [], 0⟩⟩]⟩)).2.2)) rfl rfl) ?_
      refine LF.step (OpOk.assign rfl) ?_
      refine LF.step (OpOk.assign rfl) ?_
      refine LF.step (OpOk.assign rfl) ?_
      refine LF.nil ?_
      refine PF.next ?_
      refine CF.seq ?_
      refine CF.seq ?_
      refine CF.region ?_
      refine LF.step (OpOk.move rfl) ?_
      refine LF.nil ?_
      refine PF.next ?_
      refine CF.if rfl (fun hc15 => ?_) (fun hc15 => ?_)
      · refine CF.region ?_
        refine LF.step (OpOk.assign rfl) ?_
        refine LF.nil ?_
        refine PF.next ?_
        refine CF.seq ?_
        refine CF.region ?_
        refine LF.step (OpOk.move rfl) ?_
        refine LF.step (OpOk.move rfl) ?_
        refine LF.gstepK rfl rfl (.t _) (OpOk.move rfl) ?_
        refine LF.gstepK rfl rfl (.t _) (OpOk.move rfl) ?_
        refine LF.gstepK rfl rfl (.t _) (OpOk.eql rfl rfl) ?_
        refine LF.step (OpOk.pickAnd rfl rfl) ?_
        refine LF.step (OpOk.move rfl) ?_
        refine LF.gstep rfl rfl (.t _) (fun hg => OpOk.move rfl) ?_
        refine LF.gstep rfl rfl (.t _) (fun hg => OpOk.eql (evg rfl hg) rfl) ?_
        refine LF.step (OpOk.pickAnd rfl rfl) ?_
        refine LF.step (OpOk.assign rfl) ?_
        refine LF.nil ?_
        refine PF.next ?_
        refine CF.ret ?_
        have hm : (fun _ _ => true) which more = ((decide ((funcM (⟨0, ([⟨[], [⟨22, 0, 0, 0, 0, 0, IntKind.i32.wrap (31 + ((Int.tmod more 5) - 2)), []⟩], ⟨7, (-1), 0, [], 0⟩⟩]) ++ [⟨[], [], ⟨8, 0, 0, [], 0⟩⟩]⟩)).1 = 0)) && (decide ((funcM (⟨0, ([⟨[], [⟨22, 0, 0, 0, 0, 0, IntKind.i32.wrap (31 + ((Int.tmod more 5) - 2)), []⟩], ⟨7, (-1), 0, [], 0⟩⟩]) ++ [⟨[], [], ⟨8, 0, 0, [], 0⟩⟩]⟩)).2.1 = 0))) := by
          first | (exfalso; omega) | exact (lim_t (lim3 hd) (by omega)).symm | exact (lim_f (lim3 hd) (by omega)).symm
        exact PF.ret1 rfl rfl ⟨by first | (rw [hm] <;> rfl) | exact (congrArg Value.bool hm).symm, hkp⟩
      refine CF.skip ?_
      refine PF.next ?_
      refine CF.seq ?_
      refine CF.region ?_
      refine LF.step (OpOk.move rfl) ?_
      refine LF.step (OpOk.move rfl) ?_
      refine LF.gstepK rfl rfl (.t _) (OpOk.move rfl) ?_
      refine LF.gstepK rfl rfl (.t _) (OpOk.move rfl) ?_
      refine LF.gstepK rfl rfl (.t _) (OpOk.eql rfl rfl) ?_
      refine LF.step (OpOk.pickAnd rfl rfl) ?_
      refine LF.step (OpOk.move rfl) ?_
      refine LF.gstep rfl rfl (.t _) (fun hg => OpOk.move rfl) ?_
      refine LF.gstep rfl rfl (.t _) (fun hg => OpOk.eql (evg rfl hg) rfl) ?_
      refine LF.step (OpOk.pickAnd rfl rfl) ?_
      refine LF.step (OpOk.assign rfl) ?_
      refine LF.nil ?_
      refine PF.next ?_
      refine CF.ret ?_
      have hm : (fun _ _ => true) which more = ((decide ((funcM (⟨0, ([⟨[], [⟨22, 0, 0, 0, 0, 0, IntKind.i32.wrap (31 + ((Int.tmod more 5) - 2)), []⟩], ⟨7, (-1), 0, [], 0⟩⟩]) ++ [⟨[], [], ⟨8, 0, 0, [], 0⟩⟩]⟩)).1 = 32)) && (decide ((funcM (⟨0, ([⟨[], [⟨22, 0, 0, 0, 0, 0, IntKind.i32.wrap (31 + ((Int.tmod more 5) - 2)), []⟩], ⟨7, (-1), 0, [], 0⟩⟩]) ++ [⟨[], [], ⟨8, 0, 0, [], 0⟩⟩]⟩)).2.1 = 0))) := by
        first | (exfalso; omega) | exact (lim_t (lim3 hd) (by omega)).symm | exact (lim_f (lim3 hd) (by omega)).symm
      exact PF.ret1 rfl rfl ⟨by first | (rw [hm] <;> rfl) | exact (congrArg Value.bool hm).symm, hkp⟩
    refine CF.skip ?_
    refine PF.next ?_
    refine CF.seq ?_
    refine CF.region ?_
    refine LF.step (OpOk.ldBxA hb12 Try.agg24 Try.sz24 rfl rfl rfl) ?_
    obtain ⟨Fz26, hxz26, lez26, hinz26, noz26, hrz26⟩ := xb89.freezeX hin hx (Nat.le_refl _) (by first | (simp only [List.length_append, List.length_take, List.length_drop, List.length_nil, List.length_cons, List.length_set, List.length_replicate]; omega) | (simp; done) | (simp; omega) | omega)
    replace hin := hinz26
    replace hx := hxz26
    replace le0 := le0.trans lez26
    replace le1 := le1.trans lez26
    have le2 := lez26
    replace ng8 := (noz26 _ (xb89.neBx hb8 (by decide))).trans ng8
    replace ng9 := (noz26 _ (xb89.neBx hb9 (by decide))).trans ng9
    replace ng12 := (noz26 _ (xb89.neBx hb12 (by decide))).trans ng12
    refine LF.call (OpCall.fn Try.ent24 rfl rfl) (pFunc_ct hin (rMFunc.mk (m := ⟨0, [⟨[], [⟨22, 0, 0, 0, 0, 0, IntKind.i32.wrap (31 + ((Int.tmod more 5) - 2)), []⟩], ⟨7, (-1), 0, [], 0⟩⟩]⟩) hrz26 (by decide : IntKind.i64.wrap 0 = 0))) ?_
    rintro _ H102 ⟨rfl, k102⟩
    have zk102 := k102.1
    replace hin := hin.kp k102
    replace hkp := hkp.trans (k102.mono hkp.1)
    replace hb8 := hb8.kp k102
    replace hb9 := hb9.kp k102
    replace hb12 := hb12.kp k102
    refine LF.step (OpOk.move rfl) ?_
    refine LF.step (OpOk.extract (v := .int .i64 ((funcM (⟨0, [⟨[], [⟨22, 0, 0, 0, 0, 0, IntKind.i32.wrap (31 + ((Int.tmod more 5) - 2)), []⟩], ⟨7, (-1), 0, [], 0⟩⟩]⟩)).1)) rfl rfl) ?_
    refine LF.step (OpOk.extract (v := .int .i64 ((funcM (⟨0, [⟨[], [⟨22, 0, 0, 0, 0, 0, IntKind.i32.wrap (31 + ((Int.tmod more 5) - 2)), []⟩], ⟨7, (-1), 0, [], 0⟩⟩]⟩)).2.1)) rfl rfl) ?_
    refine LF.step (OpOk.extract (v := .int .i64 ((funcM (⟨0, [⟨[], [⟨22, 0, 0, 0, 0, 0, IntKind.i32.wrap (31 + ((Int.tmod more 5) - 2)), []⟩], ⟨7, (-1), 0, [], 0⟩⟩]⟩)).2.2)) rfl rfl) ?_
    refine LF.step (OpOk.assign rfl) ?_
    refine LF.step (OpOk.assign rfl) ?_
    refine LF.step (OpOk.assign rfl) ?_
    refine LF.nil ?_
    refine PF.next ?_
    refine CF.seq ?_
    refine CF.seq ?_
    refine CF.region ?_
    refine LF.step (OpOk.move rfl) ?_
    refine LF.nil ?_
    refine PF.next ?_
    refine CF.if rfl (fun hc16 => ?_) (fun hc16 => ?_)
    · refine CF.region ?_
      refine LF.step (OpOk.assign rfl) ?_
      refine LF.nil ?_
      refine PF.next ?_
      refine CF.seq ?_
      refine CF.region ?_
      refine LF.step (OpOk.move rfl) ?_
      refine LF.step (OpOk.move rfl) ?_
      refine LF.gstepK rfl rfl (.t _) (OpOk.move rfl) ?_
      refine LF.gstepK rfl rfl (.t _) (OpOk.move rfl) ?_
      refine LF.gstepK rfl rfl (.t _) (OpOk.eql rfl rfl) ?_
      refine LF.step (OpOk.pickAnd rfl rfl) ?_
      refine LF.step (OpOk.move rfl) ?_
      refine LF.gstep rfl rfl (.t _) (fun hg => OpOk.move rfl) ?_
      refine LF.gstep rfl rfl (.t _) (fun hg => OpOk.eql (evg rfl hg) rfl) ?_
      refine LF.step (OpOk.pickAnd rfl rfl) ?_
      refine LF.step (OpOk.assign rfl) ?_
      refine LF.nil ?_
      refine PF.next ?_
      refine CF.ret ?_
      have hm : (fun _ _ => true) which more = ((decide ((funcM (⟨0, [⟨[], [⟨22, 0, 0, 0, 0, 0, IntKind.i32.wrap (31 + ((Int.tmod more 5) - 2)), []⟩], ⟨7, (-1), 0, [], 0⟩⟩]⟩)).1 = 0)) && (decide ((funcM (⟨0, [⟨[], [⟨22, 0, 0, 0, 0, 0, IntKind.i32.wrap (31 + ((Int.tmod more 5) - 2)), []⟩], ⟨7, (-1), 0, [], 0⟩⟩]⟩)).2.1 = 0))) := by
        first | (exfalso; omega) | exact (lim_t (lim3 hd) (by omega)).symm | exact (lim_f (lim3 hd) (by omega)).symm
      exact PF.ret1 rfl rfl ⟨by first | (rw [hm] <;> rfl) | exact (congrArg Value.bool hm).symm, hkp⟩
    refine CF.skip ?_
    refine PF.next ?_
    refine CF.seq ?_
    refine CF.region ?_
    refine LF.step (OpOk.move rfl) ?_
    refine LF.step (OpOk.move rfl) ?_
    refine LF.gstepK rfl rfl (.t _) (OpOk.move rfl) ?_
    refine LF.gstepK rfl rfl (.t _) (OpOk.move rfl) ?_
    refine LF.gstepK rfl rfl (.t _) (OpOk.eql rfl rfl) ?_
    refine LF.step (OpOk.pickAnd rfl rfl) ?_
    refine LF.step (OpOk.move rfl) ?_
    refine LF.gstep rfl rfl (.t _) (fun hg => OpOk.move rfl) ?_
    refine LF.gstep rfl rfl (.t _) (fun hg => OpOk.eql (evg rfl hg) rfl) ?_
    refine LF.step (OpOk.pickAnd rfl rfl) ?_
    refine LF.step (OpOk.assign rfl) ?_
    refine LF.nil ?_
    refine PF.next ?_
    refine CF.ret ?_
    have hm : (fun _ _ => true) which more = ((decide ((funcM (⟨0, [⟨[], [⟨22, 0, 0, 0, 0, 0, IntKind.i32.wrap (31 + ((Int.tmod more 5) - 2)), []⟩], ⟨7, (-1), 0, [], 0⟩⟩]⟩)).1 = 32)) && (decide ((funcM (⟨0, [⟨[], [⟨22, 0, 0, 0, 0, 0, IntKind.i32.wrap (31 + ((Int.tmod more 5) - 2)), []⟩], ⟨7, (-1), 0, [], 0⟩⟩]⟩)).2.1 = 0))) := by
      first | (exfalso; omega) | exact (lim_t (lim3 hd) (by omega)).symm | exact (lim_f (lim3 hd) (by omega)).symm
    exact PF.ret1 rfl rfl ⟨by first | (rw [hm] <;> rfl) | exact (congrArg Value.bool hm).symm, hkp⟩
  refine CF.seq ?_
  refine CF.region ?_
  refine LF.step (OpOk.eql rfl rfl) ?_
  refine LF.step (OpOk.assign rfl) ?_
  refine LF.nil ?_
  refine PF.next ?_
  refine CF.if rfl (fun hc17 => ?_) (fun hc17 => ?_)
  · refine CF.region ?_
    refine LF.step (OpOk.move rfl) ?_
    refine LF.step (OpOk.add rfl rfl (by omega)) ?_
    refine LF.step (OpOk.convI Try.underlying3 Try.underlying21 rfl rfl) ?_
    refine LF.step (OpOk.build (v := .agg #[.int .i64 26, .int .i64 0, .int .i64 0, .int .i64 0, .int .i64 0, .int .i64 0, .int .i32 (IntKind.i32.wrap (255 + ((Int.tmod more 5) - 2))), .slice none 0 0]) rfl (fun w => by kernel_rfl)) ?_
    refine LF.chg0 (OpCh.storeBA hb8 Try.sz40 rfl rfl rfl (allOne.mem (l := [.int .i64 26, .int .i64 0, .int .i64 0, .int .i64 0, .int .i64 0, .int .i64 0, .int .i32 (IntKind.i32.wrap (255 + ((Int.tmod more 5) - 2))), .slice none 0 0]) ⟨rfl, rfl, rfl, rfl, rfl, rfl, rfl, rfl, trivial⟩) (by decide)) ?_
    rintro _ Hw27 ⟨tw27, bw27⟩
    have ztw27 := tw27.1
    replace hin := hin.tw tw27 ng8
    replace hkp := Tw.kp' hkp tw27 (by omega)
    replace hb9 := hb9.tw tw27 (by first | omega | exact Bx.ne hb9 hb8 (by decide) | assumption | exact Ne.symm (by assumption))
    replace hb8 : Bx _ _ _ [.int .i64 26, .int .i64 0, .int .i64 0, .int .i64 0, .int .i64 0, .int .i64 0, .int .i32 (IntKind.i32.wrap (255 + ((Int.tmod more 5) - 2))), .slice none 0 0] := bw27
    clear bw27 tw27
    refine LF.nil ?_
    refine PF.blockNormal ?_
    refine PF.next ?_
    refine CF.seq ?_
    refine CF.region ?_
    refine LF.step (OpOk.ldBxA hb9 Try.agg55 Try.sz55 rfl rfl rfl) ?_
    refine LF.step (OpOk.ldBxA hb8 Try.agg40 Try.sz40 rfl rfl rfl) ?_
    refine LF.chg (OpCh.litL (F := F) (r := rMach) (l := [⟨26, 0, 0, 0, 0, 0, IntKind.i32.wrap (255 + ((Int.tmod more 5) - 2)), []⟩]) (us := [.agg #[.int .i64 26, .int .i64 0, .int .i64 0, .int .i64 0, .int .i64 0, .int .i64 0, .int .i32 (IntKind.i32.wrap (255 + ((Int.tmod more 5) - 2))), .slice none 0 0]]) (cs := [[.int .i64 26, .int .i64 0, .int .i64 0, .int .i64 0, .int .i64 0, .int .i64 0, .int .i32 (IntKind.i32.wrap (255 + ((Int.tmod more 5) - 2))), .slice none 0 0]]) Try.underlying59 Try.info40 (by decide) rfl rfl rfl ⟨rfl, rfl, (ra_ok (rMach.mk (m := ⟨26, 0, 0, 0, 0, 0, IntKind.i32.wrap (255 + ((Int.tmod more 5) - 2)), []⟩) (rL.nil _) (by decide : IntKind.i64.wrap 26 = 26) (by decide : IntKind.i64.wrap 0 = 0) (by decide : IntKind.i64.wrap 0 = 0) (by decide : IntKind.i64.wrap 0 = 0) (by decide : IntKind.i64.wrap 0 = 0) (by decide : IntKind.i64.wrap 0 = 0) (wrap_wrap _ _))), trivial⟩) ?_
    rintro _ H88 ⟨g88, rfl, e88, s88, k88, x88⟩
    have l88 := hkp.1
    have nq88_8 := (x88 hin).neLt (.inl hb8.lt)
    replace x88 := (x88 hin).base l88
    have zk88 := k88.1
    replace hin := hin.kp k88
    replace hkp := hkp.trans (k88.mono hkp.1)
    replace hb8 := hb8.kp k88
    replace hb9 := hb9.kp k88
    obtain ⟨Fz28, hxz28, lez28, hinz28, noz28, hrz28⟩ := x88.freezeX hin hx (Nat.le_refl _) (by first | (simp only [List.length_append, List.length_take, List.length_drop, List.length_nil, List.length_cons, List.length_set, List.length_replicate]; omega) | (simp; done) | (simp; omega) | omega)
    replace hin := hinz28
    replace hx := hxz28
    have le0 := lez28
    replace ng8 := (noz28 _ nq88_8).trans ng8
    replace ng9 := (noz28 _ (x88.neBx hb9 (by decide))).trans ng9
    refine LF.call (OpCall.fn Try.ent23 rfl rfl) (one2_ct hin 0 (rEnd.mk (m := ⟨7, (-1), 0, [], 0⟩) (rL.nil _) (by decide : IntKind.i64.wrap 7 = 7) (by decide : IntKind.i64.wrap (-1) = (-1)) (by decide : IntKind.i64.wrap 0 = 0) (by decide : IntKind.i32.wrap 0 = 0)) hrz28) ?_
    rintro _ H89 ⟨F89, vb89, rfl, x89, i89, k89, xb89⟩
    replace xb89 := xb89.base hkp.1
    have zk89 := k89.1
    replace hx := hx.trans x89 hkp.1
    replace hkp := hkp.trans (k89.mono hkp.1)
    have l89 := hkp.1
    replace ng8 := x89.no ng8 hb8.lt
    replace hb8 := hb8.kp k89
    replace ng9 := x89.no ng9 hb9.lt
    replace hb9 := hb9.kp k89
    replace le0 := le0.trans x89.1
    have le1 := x89.1
    have hin := i89
    refine LF.chg (OpCh.allocB Try.zero24 rfl) ?_
    rintro _ H12 ⟨g12, rfl, eg12, sg12, kg12, hb12⟩
    have ng12 := hin.nope (Nat.le_of_eq eg12.symm)
    have lg12 := hkp.1
    have zkg12 := kg12.1
    replace hin := hin.kp kg12
    replace hkp := hkp.trans (kg12.mono hkp.1)
    replace hb8 := hb8.kp kg12
    replace hb9 := hb9.kp kg12
    replace xb89 := xb89.kp kg12
    clear kg12
    refine LF.chg0 (OpCh.storeBA hb12 Try.sz24 rfl rfl rfl (allOne.mem (l := [.int .i64 0, vb89]) ⟨rfl, xb89.one1, trivial⟩) (by decide)) ?_
    rintro _ Hw29 ⟨tw29, bw29⟩
    have ztw29 := tw29.1
    replace hin := hin.tw tw29 ng12
    replace hkp := Tw.kp' hkp tw29 (by omega)
    replace hb8 := hb8.tw tw29 (by first | omega | exact Bx.ne hb8 hb12 (by decide) | assumption | exact Ne.symm (by assumption))
    replace hb9 := hb9.tw tw29 (by first | omega | exact Bx.ne hb9 hb12 (by decide) | assumption | exact Ne.symm (by assumption))
    replace xb89 := xb89.tw tw29 (by first | exact xb89.neBx hb12 (by decide) | exact xb89.neLt (by omega) | exact nq89_12)
    replace hb12 : Bx _ _ _ [.int .i64 0, vb89] := bw29
    clear bw29 tw29
    refine LF.nil ?_
    refine PF.next ?_
    refine CF.seq ?_
    refine CF.seq ?_
    refine CF.region ?_
    refine LF.step (OpOk.move rfl) ?_
    refine LF.step (OpOk.rem rfl rfl (by decide)) ?_
    refine LF.step (OpOk.eql rfl rfl) ?_
    refine LF.nil ?_
    refine PF.next ?_
    refine CF.if rfl (fun hc18 => ?_) (fun hc18 => ?_)
    · refine CF.region ?_
      refine LF.step (OpOk.fieldAddr (Try.fld24_1) rfl) ?_
      refine LF.step (OpOk.ldBx hb12 Try.one22 rfl rfl) ?_
      refine LF.step (OpOk.build (v := .agg #[.int .i64 8, .int .i64 0, .int .i64 0, .slice none 0 0, .int .i32 0]) rfl (fun w => by kernel_rfl)) ?_
      refine LF.step (OpOk.build (v := .agg #[.slice none 0 0, .slice none 0 0, .int .i64 8, .int .i64 0, .int .i64 0, .slice none 0 0, .int .i32 0]) rfl (fun w => by kernel_rfl)) ?_
      refine LF.appA (r := rMBlock) (a := ⟨[], [], ⟨8, 0, 0, [], 0⟩⟩) Try.underlying22 Try.info61 (by decide) rfl rfl (rMBlock.mk (m := ⟨[], [], ⟨8, 0, 0, [], 0⟩⟩) (rL.nil _) (rL.nil _) (rL.nil _) (by decide : IntKind.i64.wrap 8 = 8) (by decide : IntKind.i64.wrap 0 = 0) (by decide : IntKind.i64.wrap 0 = 0) (by decide : IntKind.i32.wrap 0 = 0)) xb89 hin (by first | (simp only [List.length_append, List.length_take, List.length_drop, List.length_nil, List.length_cons, List.length_set, List.length_replicate]; omega) | (simp; done) | (simp; omega) | omega) rfl ?_ hkp.1
      intro v98 H98 x98 gb98 nn98 ob98
      replace hin := hin.grown gb98 xb89.no
      replace hkp := gb98.kp hkp (Nat.le_refl _) (fun k0 hk0 => (xb89.blk k0 hk0).1)
      replace hb8 := hb8.of (gb98.2 _ hb8.lt (Ne.symm (by first | exact xb89.neBx hb8 (by decide) | exact nq89_8)))
      replace hb9 := hb9.of (gb98.2 _ hb9.lt (Ne.symm (by first | exact xb89.neBx hb9 (by decide) | exact nq89_9)))
      replace hb12 := hb12.of (gb98.2 _ hb12.lt (Ne.symm (by first | exact xb89.neBx hb12 (by decide) | exact nq89_12)))
      refine LF.step (OpOk.fieldAddr (Try.fld24_1) rfl) ?_
      refine LF.chg0 (OpCh.storeB hb12 Try.sz22 rfl rfl x98.one1 (by first | decide | (simp; done))) ?_
      rintro _ Hw30 ⟨tw30, bw30⟩
      have ztw30 := tw30.1
      replace hin := hin.tw tw30 ng12
      replace hkp := Tw.kp' hkp tw30 (by omega)
      replace hb8 := hb8.tw tw30 (by first | omega | exact Bx.ne hb8 hb12 (by decide) | assumption | exact Ne.symm (by assumption))
      replace hb9 := hb9.tw tw30 (by first | omega | exact Bx.ne hb9 hb12 (by decide) | assumption | exact Ne.symm (by assumption))
      replace x98 := x98.tw tw30 (by first | exact x98.neBx hb12 (by decide) | exact x98.neLt (by omega) | exact nq98_12)
      replace hb12 : Bx _ _ _ [.int .i64 0, v98] := bw30
      clear bw30 tw30
      refine LF.nil ?_
      refine PF.next ?_
      refine CF.seq ?_
      refine CF.region ?_
      refine LF.step (OpOk.ldBxA hb12 Try.agg24 Try.sz24 rfl rfl rfl) ?_
      obtain ⟨Fz31, hxz31, lez31, hinz31, noz31, hrz31⟩ := x98.freezeX hin hx (Nat.le_refl _) (by first | (simp only [List.length_append, List.length_take, List.length_drop, List.length_nil, List.length_cons, List.length_set, List.length_replicate]; omega) | (simp; done) | (simp; omega) | omega)
      replace hin := hinz31
      replace hx := hxz31
      replace le0 := le0.trans lez31
      replace le1 := le1.trans lez31
      have le2 := lez31
      replace ng8 := (noz31 _ (x98.neBx hb8 (by decide))).trans ng8
      replace ng9 := (noz31 _ (x98.neBx hb9 (by decide))).trans ng9
      replace ng12 := (noz31 _ (x98.neBx hb12 (by decide))).trans ng12
      refine LF.call (OpCall.fn Try.ent24 rfl rfl) (pFunc_ct hin (rMFunc.mk (m := ⟨0, ([⟨[], [⟨26, 0, 0, 0, 0, 0, IntKind.i32.wrap (255 + ((Int.tmod more 5) - 2)), []⟩], ⟨7, (-1), 0, [], 0⟩⟩]) ++ [⟨[], [], ⟨8, 0, 0, [], 0⟩⟩]⟩) hrz31 (by decide : IntKind.i64.wrap 0 = 0))) ?_
      rintro _ H102 ⟨rfl, k102⟩
      have zk102 := k102.1
      replace hin := hin.kp k102
      replace hkp := hkp.trans (k102.mono hkp.1)
      replace hb8 := hb8.kp k102
      replace hb9 := hb9.kp k102
      replace hb12 := hb12.kp k102
      refine LF.step (OpOk.move rfl) ?_
      refine LF.step (OpOk.extract (v := .int .i64 ((funcM (⟨0, ([⟨[], [⟨26, 0, 0, 0, 0, 0, IntKind.i32.wrap (255 + ((Int.tmod more 5) - 2)), []⟩], ⟨7, (-1), 0, [], 0⟩⟩]) ++ [⟨[], [], ⟨8, 0, 0, [], 0⟩⟩]⟩)).1)) rfl rfl) ?_
      refine LF.step (OpOk.extract (v := .int .i64 ((funcM (⟨0, ([⟨[], [⟨26, 0, 0, 0, 0, 0, IntKind.i32.wrap (255 + ((Int.tmod more 5) - 2)), []⟩], ⟨7, (-1), 0, [], 0⟩⟩]) ++ [⟨[], [], ⟨8, 0, 0, [], 0⟩⟩]⟩)).2.1)) rfl rfl) ?_
      refine LF.step (OpOk.extract (v := .int .i64 ((funcM (⟨0, ([⟨[], [⟨26, 0, 0, 0, 0, 0, IntKind.i32.wrap (255 + ((Int.tmod more 5) - 2)), []⟩], ⟨7, (-1), 0, [], 0⟩⟩]) ++ [⟨[], [], ⟨8, 0, 0, [], 0⟩⟩]⟩)).2.2)) rfl rfl) ?_
      refine LF.step (OpOk.assign rfl) ?_
      refine LF.step (OpOk.assign rfl) ?_
      refine LF.step (OpOk.assign rfl) ?_
      refine LF.nil ?_
      refine PF.next ?_
      refine CF.seq ?_
      refine CF.seq ?_
      refine CF.region ?_
      refine LF.step (OpOk.move rfl) ?_
      refine LF.nil ?_
      refine PF.next ?_
      refine CF.if rfl (fun hc19 => ?_) (fun hc19 => ?_)
      · refine CF.region ?_
        refine LF.step (OpOk.assign rfl) ?_
        refine LF.nil ?_
        refine PF.next ?_
        refine CF.seq ?_
        refine CF.region ?_
        refine LF.step (OpOk.move rfl) ?_
        refine LF.step (OpOk.move rfl) ?_
        refine LF.gstepK rfl rfl (.t _) (OpOk.move rfl) ?_
        refine LF.gstepK rfl rfl (.t _) (OpOk.move rfl) ?_
        refine LF.gstepK rfl rfl (.t _) (OpOk.eql rfl rfl) ?_
        refine LF.step (OpOk.pickAnd rfl rfl) ?_
        refine LF.step (OpOk.move rfl) ?_
        refine LF.gstep rfl rfl (.t _) (fun hg => OpOk.move rfl) ?_
        refine LF.gstep rfl rfl (.t _) (fun hg => OpOk.eql (evg rfl hg) rfl) ?_
        refine LF.step (OpOk.pickAnd rfl rfl) ?_
        refine LF.step (OpOk.assign rfl) ?_
        refine LF.nil ?_
        refine PF.next ?_
        refine CF.ret ?_
        have hm : (fun _ _ => true) which more = ((decide ((funcM (⟨0, ([⟨[], [⟨26, 0, 0, 0, 0, 0, IntKind.i32.wrap (255 + ((Int.tmod more 5) - 2)), []⟩], ⟨7, (-1), 0, [], 0⟩⟩]) ++ [⟨[], [], ⟨8, 0, 0, [], 0⟩⟩]⟩)).1 = 0)) && (decide ((funcM (⟨0, ([⟨[], [⟨26, 0, 0, 0, 0, 0, IntKind.i32.wrap (255 + ((Int.tmod more 5) - 2)), []⟩], ⟨7, (-1), 0, [], 0⟩⟩]) ++ [⟨[], [], ⟨8, 0, 0, [], 0⟩⟩]⟩)).2.1 = 0))) := by
          first | (exfalso; omega) | exact (lim_t (lim4 hd) (by omega)).symm | exact (lim_f (lim4 hd) (by omega)).symm
        exact PF.ret1 rfl rfl ⟨by first | (rw [hm] <;> rfl) | exact (congrArg Value.bool hm).symm, hkp⟩
      refine CF.skip ?_
      refine PF.next ?_
      refine CF.seq ?_
      refine CF.region ?_
      refine LF.step (OpOk.move rfl) ?_
      refine LF.step (OpOk.move rfl) ?_
      refine LF.gstepK rfl rfl (.t _) (OpOk.move rfl) ?_
      refine LF.gstepK rfl rfl (.t _) (OpOk.move rfl) ?_
      refine LF.gstepK rfl rfl (.t _) (OpOk.eql rfl rfl) ?_
      refine LF.step (OpOk.pickAnd rfl rfl) ?_
      refine LF.step (OpOk.move rfl) ?_
      refine LF.gstep rfl rfl (.t _) (fun hg => OpOk.move rfl) ?_
      refine LF.gstep rfl rfl (.t _) (fun hg => OpOk.eql (evg rfl hg) rfl) ?_
      refine LF.step (OpOk.pickAnd rfl rfl) ?_
      refine LF.step (OpOk.assign rfl) ?_
      refine LF.nil ?_
      refine PF.next ?_
      refine CF.ret ?_
      have hm : (fun _ _ => true) which more = ((decide ((funcM (⟨0, ([⟨[], [⟨26, 0, 0, 0, 0, 0, IntKind.i32.wrap (255 + ((Int.tmod more 5) - 2)), []⟩], ⟨7, (-1), 0, [], 0⟩⟩]) ++ [⟨[], [], ⟨8, 0, 0, [], 0⟩⟩]⟩)).1 = 32)) && (decide ((funcM (⟨0, ([⟨[], [⟨26, 0, 0, 0, 0, 0, IntKind.i32.wrap (255 + ((Int.tmod more 5) - 2)), []⟩], ⟨7, (-1), 0, [], 0⟩⟩]) ++ [⟨[], [], ⟨8, 0, 0, [], 0⟩⟩]⟩)).2.1 = 0))) := by
        first | (exfalso; omega) | exact (lim_t (lim4 hd) (by omega)).symm | exact (lim_f (lim4 hd) (by omega)).symm
      exact PF.ret1 rfl rfl ⟨by first | (rw [hm] <;> rfl) | exact (congrArg Value.bool hm).symm, hkp⟩
    refine CF.skip ?_
    refine PF.next ?_
    refine CF.seq ?_
    refine CF.region ?_
    refine LF.step (OpOk.ldBxA hb12 Try.agg24 Try.sz24 rfl rfl rfl) ?_
    obtain ⟨Fz32, hxz32, lez32, hinz32, noz32, hrz32⟩ := xb89.freezeX hin hx (Nat.le_refl _) (by first | (simp only [List.length_append, List.length_take, List.length_drop, List.length_nil, List.length_cons, List.length_set, List.length_replicate]; omega) | (simp; done) | (simp; omega) | omega)
    replace hin := hinz32
    replace hx := hxz32
    replace le0 := le0.trans lez32
    replace le1 := le1.trans lez32
    have le2 := lez32
    replace ng8 := (noz32 _ (xb89.neBx hb8 (by decide))).trans ng8
    replace ng9 := (noz32 _ (xb89.neBx hb9 (by decide))).trans ng9
    replace ng12 := (noz32 _ (xb89.neBx hb12 (by decide))).trans ng12
    refine LF.call (OpCall.fn Try.ent24 rfl rfl) (pFunc_ct hin (rMFunc.mk (m := ⟨0, [⟨[], [⟨26, 0, 0, 0, 0, 0, IntKind.i32.wrap (255 + ((Int.tmod more 5) - 2)), []⟩], ⟨7, (-1), 0, [], 0⟩⟩]⟩) hrz32 (by decide : IntKind.i64.wrap 0 = 0))) ?_
    rintro _ H102 ⟨rfl, k102⟩
    have zk102 := k102.1
    replace hin := hin.kp k102
    replace hkp := hkp.trans (k102.mono hkp.1)
    replace hb8 := hb8.kp k102
    replace hb9 := hb9.kp k102
    replace hb12 := hb12.kp k102
    refine LF.step (OpOk.move rfl) ?_
    refine LF.step (OpOk.extract (v := .int .i64 ((funcM (⟨0, [⟨[], [⟨26, 0, 0, 0, 0, 0, IntKind.i32.wrap (255 + ((Int.tmod more 5) - 2)), []⟩], ⟨7, (-1), 0, [], 0⟩⟩]⟩)).1)) rfl rfl) ?_
    refine LF.step (OpOk.extract (v := .int .i64 ((funcM (⟨0, [⟨[], [⟨26, 0, 0, 0, 0, 0, IntKind.i32.wrap (255 + ((Int.tmod more 5) - 2)), []⟩], ⟨7, (-1), 0, [], 0⟩⟩]⟩)).2.1)) rfl rfl) ?_
    refine LF.step (OpOk.extract (v := .int .i64 ((funcM (⟨0, [⟨[], [⟨26, 0, 0, 0, 0, 0, IntKind.i32.wrap (255 + ((Int.tmod more 5) - 2)), []⟩], ⟨7, (-1), 0, [], 0⟩⟩]⟩)).2.2)) rfl rfl) ?_
    refine LF.step (OpOk.assign rfl) ?_
    refine LF.step (OpOk.assign rfl) ?_
    refine LF.step (OpOk.assign rfl) ?_
    refine LF.nil ?_
    refine PF.next ?_
    refine CF.seq ?_
    refine CF.seq ?_
    refine CF.region ?_
    refine LF.step (OpOk.move rfl) ?_
    refine LF.nil ?_
    refine PF.next ?_
    refine CF.if rfl (fun hc20 => ?_) (fun hc20 => ?_)
    · refine CF.region ?_
      refine LF.step (OpOk.assign rfl) ?_
      refine LF.nil ?_
      refine PF.next ?_
      refine CF.seq ?_
      refine CF.region ?_
      refine LF.step (OpOk.move rfl) ?_
      refine LF.step (OpOk.move rfl) ?_
      refine LF.gstepK rfl rfl (.t _) (OpOk.move rfl) ?_
      refine LF.gstepK rfl rfl (.t _) (OpOk.move rfl) ?_
      refine LF.gstepK rfl rfl (.t _) (OpOk.eql rfl rfl) ?_
      refine LF.step (OpOk.pickAnd rfl rfl) ?_
      refine LF.step (OpOk.move rfl) ?_
      refine LF.gstep rfl rfl (.t _) (fun hg => OpOk.move rfl) ?_
      refine LF.gstep rfl rfl (.t _) (fun hg => OpOk.eql (evg rfl hg) rfl) ?_
      refine LF.step (OpOk.pickAnd rfl rfl) ?_
      refine LF.step (OpOk.assign rfl) ?_
      refine LF.nil ?_
      refine PF.next ?_
      refine CF.ret ?_
      have hm : (fun _ _ => true) which more = ((decide ((funcM (⟨0, [⟨[], [⟨26, 0, 0, 0, 0, 0, IntKind.i32.wrap (255 + ((Int.tmod more 5) - 2)), []⟩], ⟨7, (-1), 0, [], 0⟩⟩]⟩)).1 = 0)) && (decide ((funcM (⟨0, [⟨[], [⟨26, 0, 0, 0, 0, 0, IntKind.i32.wrap (255 + ((Int.tmod more 5) - 2)), []⟩], ⟨7, (-1), 0, [], 0⟩⟩]⟩)).2.1 = 0))) := by
        first | (exfalso; omega) | exact (lim_t (lim4 hd) (by omega)).symm | exact (lim_f (lim4 hd) (by omega)).symm
      exact PF.ret1 rfl rfl ⟨by first | (rw [hm] <;> rfl) | exact (congrArg Value.bool hm).symm, hkp⟩
    refine CF.skip ?_
    refine PF.next ?_
    refine CF.seq ?_
    refine CF.region ?_
    refine LF.step (OpOk.move rfl) ?_
    refine LF.step (OpOk.move rfl) ?_
    refine LF.gstepK rfl rfl (.t _) (OpOk.move rfl) ?_
    refine LF.gstepK rfl rfl (.t _) (OpOk.move rfl) ?_
    refine LF.gstepK rfl rfl (.t _) (OpOk.eql rfl rfl) ?_
    refine LF.step (OpOk.pickAnd rfl rfl) ?_
    refine LF.step (OpOk.move rfl) ?_
    refine LF.gstep rfl rfl (.t _) (fun hg => OpOk.move rfl) ?_
    refine LF.gstep rfl rfl (.t _) (fun hg => OpOk.eql (evg rfl hg) rfl) ?_
    refine LF.step (OpOk.pickAnd rfl rfl) ?_
    refine LF.step (OpOk.assign rfl) ?_
    refine LF.nil ?_
    refine PF.next ?_
    refine CF.ret ?_
    have hm : (fun _ _ => true) which more = ((decide ((funcM (⟨0, [⟨[], [⟨26, 0, 0, 0, 0, 0, IntKind.i32.wrap (255 + ((Int.tmod more 5) - 2)), []⟩], ⟨7, (-1), 0, [], 0⟩⟩]⟩)).1 = 32)) && (decide ((funcM (⟨0, [⟨[], [⟨26, 0, 0, 0, 0, 0, IntKind.i32.wrap (255 + ((Int.tmod more 5) - 2)), []⟩], ⟨7, (-1), 0, [], 0⟩⟩]⟩)).2.1 = 0))) := by
      first | (exfalso; omega) | exact (lim_t (lim4 hd) (by omega)).symm | exact (lim_f (lim4 hd) (by omega)).symm
    exact PF.ret1 rfl rfl ⟨by first | (rw [hm] <;> rfl) | exact (congrArg Value.bool hm).symm, hkp⟩
  refine CF.seq ?_
  refine CF.region ?_
  refine LF.step (OpOk.eql rfl rfl) ?_
  refine LF.step (OpOk.assign rfl) ?_
  refine LF.nil ?_
  refine PF.next ?_
  refine CF.if rfl (fun hc21 => ?_) (fun hc21 => ?_)
  · refine CF.region ?_
    refine LF.step (OpOk.move rfl) ?_
    refine LF.step (OpOk.neg rfl rfl) ?_
    refine LF.step (OpOk.convI Try.underlying3 Try.underlying21 rfl rfl) ?_
    refine LF.step (OpOk.build (v := .agg #[.int .i64 24, .int .i64 0, .int .i64 0, .int .i64 0, .int .i64 0, .int .i64 0, .int .i32 (IntKind.i32.wrap (IntKind.i64.wrap (0 - ((Int.tmod more 5) - 2)))), .slice none 0 0]) rfl (fun w => by kernel_rfl)) ?_
    refine LF.chg0 (OpCh.storeBA hb8 Try.sz40 rfl rfl rfl (allOne.mem (l := [.int .i64 24, .int .i64 0, .int .i64 0, .int .i64 0, .int .i64 0, .int .i64 0, .int .i32 (IntKind.i32.wrap (IntKind.i64.wrap (0 - ((Int.tmod more 5) - 2)))), .slice none 0 0]) ⟨rfl, rfl, rfl, rfl, rfl, rfl, rfl, rfl, trivial⟩) (by decide)) ?_
    rintro _ Hw33 ⟨tw33, bw33⟩
    have ztw33 := tw33.1
    replace hin := hin.tw tw33 ng8
    replace hkp := Tw.kp' hkp tw33 (by omega)
    replace hb9 := hb9.tw tw33 (by first | omega | exact Bx.ne hb9 hb8 (by decide) | assumption | exact Ne.symm (by assumption))
    replace hb8 : Bx _ _ _ [.int .i64 24, .int .i64 0, .int .i64 0, .int .i64 0, .int .i64 0, .int .i64 0, .int .i32 (IntKind.i32.wrap (IntKind.i64.wrap (0 - ((Int.tmod more 5) - 2)))), .slice none 0 0] := bw33
    clear bw33 tw33
    refine LF.nil ?_
    refine PF.blockNormal ?_
    refine PF.next ?_
    refine CF.seq ?_
    refine CF.region ?_
    refine LF.step (OpOk.ldBxA hb9 Try.agg55 Try.sz55 rfl rfl rfl) ?_
    refine LF.step (OpOk.ldBxA hb8 Try.agg40 Try.sz40 rfl rfl rfl) ?_
    refine LF.chg (OpCh.litL (F := F) (r := rMach) (l := [⟨24, 0, 0, 0, 0, 0, IntKind.i32.wrap (IntKind.i64.wrap (0 - ((Int.tmod more 5) - 2))), []⟩]) (us := [.agg #[.int .i64 24, .int .i64 0, .int .i64 0, .int .i64 0, .int .i64 0, .int .i64 0, .int .i32 (IntKind.i32.wrap (IntKind.i64.wrap (0 - ((Int.tmod more 5) - 2)))), .slice none 0 0]]) (cs := [[.int .i64 24, .int .i64 0, .int .i64 0, .int .i64 0, .int .i64 0, .int .i64 0, .int .i32 (IntKind.i32.wrap (IntKind.i64.wrap (0 - ((Int.tmod more 5) - 2)))), .slice none 0 0]]) Try.underlying59 Try.info40 (by decide) rfl rfl rfl ⟨rfl, rfl, (ra_ok (rMach.mk (m := ⟨24, 0, 0, 0, 0, 0, IntKind.i32.wrap (IntKind.i64.wrap (0 - ((Int.tmod more 5) - 2))), []⟩) (rL.nil _) (by decide : IntKind.i64.wrap 24 = 24) (by decide : IntKind.i64.wrap 0 = 0) (by decide : IntKind.i64.wrap 0 = 0) (by decide : IntKind.i64.wrap 0 = 0) (by decide : IntKind.i64.wrap 0 = 0) (by decide : IntKind.i64.wrap 0 = 0) (wrap_wrap _ _))), trivial⟩) ?_
    rintro _ H88 ⟨g88, rfl, e88, s88, k88, x88⟩
    have l88 := hkp.1
    have nq88_8 := (x88 hin).neLt (.inl hb8.lt)
    replace x88 := (x88 hin).base l88
    have zk88 := k88.1
    replace hin := hin.kp k88
    replace hkp := hkp.trans (k88.mono hkp.1)
    replace hb8 := hb8.kp k88
    replace hb9 := hb9.kp k88
    obtain ⟨Fz34, hxz34, lez34, hinz34, noz34, hrz34⟩ := x88.freezeX hin hx (Nat.le_refl _) (by first | (simp only [List.length_append, List.length_take, List.length_drop, List.length_nil, List.length_cons, List.length_set, List.length_replicate]; omega) | (simp; done) | (simp; omega) | omega)
    replace hin := hinz34
    replace hx := hxz34
    have le0 := lez34
    replace ng8 := (noz34 _ nq88_8).trans ng8
    replace ng9 := (noz34 _ (x88.neBx hb9 (by decide))).trans ng9
    refine LF.call (OpCall.fn Try.ent23 rfl rfl) (one2_ct hin 0 (rEnd.mk (m := ⟨7, (-1), 0, [], 0⟩) (rL.nil _) (by decide : IntKind.i64.wrap 7 = 7) (by decide : IntKind.i64.wrap (-1) = (-1)) (by decide : IntKind.i64.wrap 0 = 0) (by decide : IntKind.i32.wrap 0 = 0)) hrz34) ?_
    rintro _ H89 ⟨F89, vb89, rfl, x89, i89, k89, xb89⟩
    replace xb89 := xb89.base hkp.1
    have zk89 := k89.1
    replace hx := hx.trans x89 hkp.1
    replace hkp := hkp.trans (k89.mono hkp.1)
    have l89 := hkp.1
    replace ng8 := x89.no ng8 hb8.lt
    replace hb8 := hb8.kp k89
    replace ng9 := x89.no ng9 hb9.lt
    replace hb9 := hb9.kp k89
    replace le0 := le0.trans x89.1
    have le1 := x89.1
    have hin := i89
    refine LF.chg (OpCh.allocB Try.zero24 rfl) ?_
    rintro _ H12 ⟨g12, rfl, eg12, sg12, kg12, hb12⟩
    have ng12 := hin.nope (Nat.le_of_eq eg12.symm)
    have lg12 := hkp.1
    have zkg12 := kg12.1
    replace hin := hin.kp kg12
    replace hkp := hkp.trans (kg12.mono hkp.1)
    replace hb8 := hb8.kp kg12
    replace hb9 := hb9.kp kg12
    replace xb89 := xb89.kp kg12
    clear kg12
    refine LF.chg0 (OpCh.storeBA hb12 Try.sz24 rfl rfl rfl (allOne.mem (l := [.int .i64 0, vb89]) ⟨rfl, xb89.one1, trivial⟩) (by decide)) ?_
    rintro _ Hw35 ⟨tw35, bw35⟩
    have ztw35 := tw35.1
    replace hin := hin.tw tw35 ng12
    replace hkp := Tw.kp' hkp tw35 (by omega)
    replace hb8 := hb8.tw tw35 (by first | omega | exact Bx.ne hb8 hb12 (by decide) | assumption | exact Ne.symm (by assumption))
    replace hb9 := hb9.tw tw35 (by first | omega | exact Bx.ne hb9 hb12 (by decide) | assumption | exact Ne.symm (by assumption))
    replace xb89 := xb89.tw tw35 (by first | exact xb89.neBx hb12 (by decide) | exact xb89.neLt (by omega) | exact nq89_12)
    replace hb12 : Bx _ _ _ [.int .i64 0, vb89] := bw35
    clear bw35 tw35
    refine LF.nil ?_
    refine PF.next ?_
    refine CF.seq ?_
    refine CF.seq ?_
    refine CF.region ?_
    refine LF.step (OpOk.move rfl) ?_
    refine LF.step (OpOk.rem rfl rfl (by decide)) ?_
    refine LF.step (OpOk.eql rfl rfl) ?_
    refine LF.nil ?_
    refine PF.next ?_
    refine CF.if rfl (fun hc22 => ?_) (fun hc22 => ?_)
    · refine CF.region ?_
      refine LF.step (OpOk.fieldAddr (Try.fld24_1) rfl) ?_
      refine LF.step (OpOk.ldBx hb12 Try.one22 rfl rfl) ?_
      refine LF.step (OpOk.build (v := .agg #[.int .i64 8, .int .i64 0, .int .i64 0, .slice none 0 0, .int .i32 0]) rfl (fun w => by kernel_rfl)) ?_
      refine LF.step (OpOk.build (v := .agg #[.slice none 0 0, .slice none 0 0, .int .i64 8, .int .i64 0, .int .i64 0, .slice none 0 0, .int .i32 0]) rfl (fun w => by kernel_rfl)) ?_
      refine LF.appA (r := rMBlock) (a := ⟨[], [], ⟨8, 0, 0, [], 0⟩⟩) Try.underlying22 Try.info61 (by decide) rfl rfl (rMBlock.mk (m := ⟨[], [], ⟨8, 0, 0, [], 0⟩⟩) (rL.nil _) (rL.nil _) (rL.nil _) (by decide : IntKind.i64.wrap 8 = 8) (by decide : IntKind.i64.wrap 0 = 0) (by decide : IntKind.i64.wrap 0 = 0) (by decide : IntKind.i32.wrap 0 = 0)) xb89 hin (by first | (simp only [List.length_append, List.length_take, List.length_drop, List.length_nil, List.length_cons, List.length_set, List.length_replicate]; omega) | (simp; done) | (simp; omega) | omega) rfl ?_ hkp.1
      intro v98 H98 x98 gb98 nn98 ob98
      replace hin := hin.grown gb98 xb89.no
      replace hkp := gb98.kp hkp (Nat.le_refl _) (fun k0 hk0 => (xb89.blk k0 hk0).1)
      replace hb8 := hb8.of (gb98.2 _ hb8.lt (Ne.symm (by first | exact xb89.neBx hb8 (by decide) | exact nq89_8)))
      replace hb9 := hb9.of (gb98.2 _ hb9.lt (Ne.symm (by first | exact xb89.neBx hb9 (by decide) | exact nq89_9)))
      replace hb12 := hb12.of (gb98.2 _ hb12.lt (Ne.symm (by first | exact xb89.neBx hb12 (by decide) | exact nq89_12)))
      refine LF.step (OpOk.fieldAddr (Try.fld24_1) rfl) ?_
      refine LF.chg0 (OpCh.storeB hb12 Try.sz22 rfl rfl x98.one1 (by first | decide | (simp; done))) ?_
      rintro _ Hw36 ⟨tw36, bw36⟩
      have ztw36 := tw36.1
      replace hin := hin.tw tw36 ng12
      replace hkp := Tw.kp' hkp tw36 (by omega)
      replace hb8 := hb8.tw tw36 (by first | omega | exact Bx.ne hb8 hb12 (by decide) | assumption | exact Ne.symm (by assumption))
      replace hb9 := hb9.tw tw36 (by first | omega | exact Bx.ne hb9 hb12 (by decide) | assumption | exact Ne.symm (by assumption))
      replace x98 := x98.tw tw36 (by first | exact x98.neBx hb12 (by decide) | exact x98.neLt (by omega) | exact nq98_12)
      replace hb12 : Bx _ _ _ [.int .i64 0, v98] := bw36
      clear bw36 tw36
      refine LF.nil ?_
      refine PF.next ?_
      refine CF.seq ?_
      refine CF.region ?_
      refine LF.step (OpOk.ldBxA hb12 Try.agg24 Try.sz24 rfl rfl rfl) ?_
      obtain ⟨Fz37, hxz37, lez37, hinz37, noz37, hrz37⟩ := x98.freezeX hin hx (Nat.le_refl _) (by first | (simp only [List.length_append, List.length_take, List.length_drop, List.length_nil, List.length_cons, List.length_set, List.length_replicate]; omega) | (simp; done) | (simp; omega) | omega)
      replace hin := hinz37
      replace hx := hxz37
      replace le0 := le0.trans lez37
      replace le1 := le1.trans lez37
      have le2 := lez37
      replace ng8 := (noz37 _ (x98.neBx hb8 (by decide))).trans ng8
      replace ng9 := (noz37 _ (x98.neBx hb9 (by decide))).trans ng9
      replace ng12 := (noz37 _ (x98.neBx hb12 (by decide))).trans ng12
      refine LF.call (OpCall.fn Try.ent24 rfl rfl) (pFunc_ct hin (rMFunc.mk (m := ⟨0, ([⟨[], [⟨24, 0, 0, 0, 0, 0, IntKind.i32.wrap (IntKind.i64.wrap (0 - ((Int.tmod more 5) - 2))), []⟩], ⟨7, (-1), 0, [], 0⟩⟩]) ++ [⟨[], [], ⟨8, 0, 0, [], 0⟩⟩]⟩) hrz37 (by decide : IntKind.i64.wrap 0 = 0))) ?_
      rintro _ H102 ⟨rfl, k102⟩
      have zk102 := k102.1
      replace hin := hin.kp k102
      replace hkp := hkp.trans (k102.mono hkp.1)
      replace hb8 := hb8.kp k102
      replace hb9 := hb9.kp k102
      replace hb12 := hb12.kp k102
      refine LF.step (OpOk.move rfl) ?_
      refine LF.step (OpOk.extract (v := .int .i64 ((funcM (⟨0, ([⟨[], [⟨24, 0, 0, 0, 0, 0, IntKind.i32.wrap (IntKind.i64.wrap (0 - ((Int.tmod more 5) - 2))), []⟩], ⟨7, (-1), 0, [], 0⟩⟩]) ++ [⟨[], [], ⟨8, 0, 0, [], 0⟩⟩]⟩)).1)) rfl rfl) ?_
      refine LF.step (OpOk.extract (v := .int .i64 ((funcM (⟨0, ([⟨[], [⟨24, 0, 0, 0, 0, 0, IntKind.i32.wrap (IntKind.i64.wrap (0 - ((Int.tmod more 5) - 2))), []⟩], ⟨7, (-1), 0, [], 0⟩⟩]) ++ [⟨[], [], ⟨8, 0, 0, [], 0⟩⟩]⟩)).2.1)) rfl rfl) ?_
      refine LF.step (OpOk.extract (v := .int .i64 ((funcM (⟨0, ([⟨[], [⟨24, 0, 0, 0, 0, 0, IntKind.i32.wrap (IntKind.i64.wrap (0 - ((Int.tmod more 5) - 2))), []⟩], ⟨7, (-1), 0, [], 0⟩⟩]) ++ [⟨[], [], ⟨8, 0, 0, [], 0⟩⟩]⟩)).2.2)) rfl rfl) ?_
      refine LF.step (OpOk.assign rfl) ?_
      refine LF.step (OpOk.assign rfl) ?_
      refine LF.step (OpOk.assign rfl) ?_
      refine LF.nil ?_
      refine PF.next ?_
      refine CF.seq ?_
      refine CF.seq ?_
      refine CF.region ?_
      refine LF.step (OpOk.move rfl) ?_
      refine LF.nil ?_
      refine PF.next ?_
      refine CF.if rfl (fun hc23 => ?_) (fun hc23 => ?_)
      · refine CF.region ?_
        refine LF.step (OpOk.assign rfl) ?_
        refine LF.nil ?_
        refine PF.next ?_
        refine CF.seq ?_
        refine CF.region ?_
        refine LF.step (OpOk.move rfl) ?_
        refine LF.step (OpOk.move rfl) ?_
        refine LF.gstepK rfl rfl (.t _) (OpOk.move rfl) ?_
        refine LF.gstepK rfl rfl (.t _) (OpOk.move rfl) ?_
        refine LF.gstepK rfl rfl (.t _) (OpOk.eql rfl rfl) ?_
        refine LF.step (OpOk.pickAnd rfl rfl) ?_
        refine LF.step (OpOk.move rfl) ?_
        refine LF.gstep rfl rfl (.t _) (fun hg => OpOk.move rfl) ?_
        refine LF.gstep rfl rfl (.t _) (fun hg => OpOk.eql (evg rfl hg) rfl) ?_
        refine LF.step (OpOk.pickAnd rfl rfl) ?_
        refine LF.step (OpOk.assign rfl) ?_
        refine LF.nil ?_
        refine PF.next ?_
        refine CF.ret ?_
        have hm : (fun _ _ => true) which more = ((decide ((funcM (⟨0, ([⟨[], [⟨24, 0, 0, 0, 0, 0, IntKind.i32.wrap (IntKind.i64.wrap (0 - ((Int.tmod more 5) - 2))), []⟩], ⟨7, (-1), 0, [], 0⟩⟩]) ++ [⟨[], [], ⟨8, 0, 0, [], 0⟩⟩]⟩)).1 = 0)) && (decide ((funcM (⟨0, ([⟨[], [⟨24, 0, 0, 0, 0, 0, IntKind.i32.wrap (IntKind.i64.wrap (0 - ((Int.tmod more 5) - 2))), []⟩], ⟨7, (-1), 0, [], 0⟩⟩]) ++ [⟨[], [], ⟨8, 0, 0, [], 0⟩⟩]⟩)).2.1 = 0))) := by
          first | (exfalso; omega) | exact (lim_t (lim5 hd) (by omega)).symm | exact (lim_f (lim5 hd) (by omega)).symm
        exact PF.ret1 rfl rfl ⟨by first | (rw [hm] <;> rfl) | exact (congrArg Value.bool hm).symm, hkp⟩
      refine CF.skip ?_
      refine PF.next ?_
      refine CF.seq ?_
      refine CF.region ?_
      refine LF.step (OpOk.move rfl) ?_
      refine LF.step (OpOk.move rfl) ?_
      refine LF.gstepK rfl rfl (.t _) (OpOk.move rfl) ?_
      refine LF.gstepK rfl rfl (.t _) (OpOk.move rfl) ?_
      refine LF.gstepK rfl rfl (.t _) (OpOk.eql rfl rfl) ?_
      refine LF.step (OpOk.pickAnd rfl rfl) ?_
      refine LF.step (OpOk.move rfl) ?_
      refine LF.gstep rfl rfl (.t _) (fun hg => OpOk.move rfl) ?_
      refine LF.gstep rfl rfl (.t _) (fun hg => OpOk.eql (evg rfl hg) rfl) ?_
      refine LF.step (OpOk.pickAnd rfl rfl) ?_
      refine LF.step (OpOk.assign rfl) ?_
      refine LF.nil ?_
      refine PF.next ?_
      refine CF.ret ?_
      have hm : (fun _ _ => true) which more = ((decide ((funcM (⟨0, ([⟨[], [⟨24, 0, 0, 0, 0, 0, IntKind.i32.wrap (IntKind.i64.wrap (0 - ((Int.tmod more 5) - 2))), []⟩], ⟨7, (-1), 0, [], 0⟩⟩]) ++ [⟨[], [], ⟨8, 0, 0, [], 0⟩⟩]⟩)).1 = 32)) && (decide ((funcM (⟨0, ([⟨[], [⟨24, 0, 0, 0, 0, 0, IntKind.i32.wrap (IntKind.i64.wrap (0 - ((Int.tmod more 5) - 2))), []⟩], ⟨7, (-1), 0, [], 0⟩⟩]) ++ [⟨[], [], ⟨8, 0, 0, [], 0⟩⟩]⟩)).2.1 = 0))) := by
        first | (exfalso; omega) | exact (lim_t (lim5 hd) (by omega)).symm | exact (lim_f (lim5 hd) (by omega)).symm
      exact PF.ret1 rfl rfl ⟨by first | (rw [hm] <;> rfl) | exact (congrArg Value.bool hm).symm, hkp⟩
    refine CF.skip ?_
    refine PF.next ?_
    refine CF.seq ?_
    refine CF.region ?_
    refine LF.step (OpOk.ldBxA hb12 Try.agg24 Try.sz24 rfl rfl rfl) ?_
    obtain ⟨Fz38, hxz38, lez38, hinz38, noz38, hrz38⟩ := xb89.freezeX hin hx (Nat.le_refl _) (by first | (simp only [List.length_append, List.length_take, List.length_drop, List.length_nil, List.length_cons, List.length_set, List.length_replicate]; omega) | (simp; done) | (simp; omega) | omega)
    replace hin := hinz38
    replace hx := hxz38
    replace le0 := le0.trans lez38
    replace le1 := le1.trans lez38
    have le2 := lez38
    replace ng8 := (noz38 _ (xb89.neBx hb8 (by decide))).trans ng8
    replace ng9 := (noz38 _ (xb89.neBx hb9 (by decide))).trans ng9
    replace ng12 := (noz38 _ (xb89.neBx hb12 (by decide))).trans ng12
    refine LF.call (OpCall.fn Try.ent24 rfl rfl) (pFunc_ct hin (rMFunc.mk (m := ⟨0, [⟨[], [⟨24, 0, 0, 0, 0, 0, IntKind.i32.wrap (IntKind.i64.wrap (0 - ((Int.tmod more 5) - 2))), []⟩], ⟨7, (-1), 0, [], 0⟩⟩]⟩) hrz38 (by decide : IntKind.i64.wrap 0 = 0))) ?_
    rintro _ H102 ⟨rfl, k102⟩
    have zk102 := k102.1
    replace hin := hin.kp k102
    replace hkp := hkp.trans (k102.mono hkp.1)
    replace hb8 := hb8.kp k102
    replace hb9 := hb9.kp k102
    replace hb12 := hb12.kp k102
    refine LF.step (OpOk.move rfl) ?_
    refine LF.step (OpOk.extract (v := .int .i64 ((funcM (⟨0, [⟨[], [⟨24, 0, 0, 0, 0, 0, IntKind.i32.wrap (IntKind.i64.wrap (0 - ((Int.tmod more 5) - 2))), []⟩], ⟨7, (-1), 0, [], 0⟩⟩]⟩)).1)) rfl rfl) ?_
    refine LF.step (OpOk.extract (v := .int .i64 ((funcM (⟨0, [⟨[], [⟨24, 0, 0, 0, 0, 0, IntKind.i32.wrap (IntKind.i64.wrap (0 - ((Int.tmod more 5) - 2))), []⟩], ⟨7, (-1), 0, [], 0⟩⟩]⟩)).2.1)) rfl rfl) ?_
    refine LF.step (OpOk.extract (v := .int .i64 ((funcM (⟨0, [⟨[], [⟨24, 0, 0, 0, 0, 0, IntKind.i32.wrap (IntKind.i64.wrap (0 - ((Int.tmod more 5) - 2))), []⟩], ⟨7, (-1), 0, [], 0⟩⟩]⟩)).2.2)) rfl rfl) ?_
    refine LF.step (OpOk.assign rfl) ?_
    refine LF.step (OpOk.assign rfl) ?_
    refine LF.step (OpOk.assign rfl) ?_
    refine LF.nil ?_
    refine PF.next ?_
    refine CF.seq ?_
    refine CF.seq ?_
    refine CF.region ?_
    refine LF.step (OpOk.move rfl) ?_
    refine LF.nil ?_
    refine PF.next ?_
    refine CF.if rfl (fun hc24 => ?_) (fun hc24 => ?_)
    · refine CF.region ?_
      refine LF.step (OpOk.assign rfl) ?_
      refine LF.nil ?_
      refine PF.next ?_
      refine CF.seq ?_
      refine CF.region ?_
      refine LF.step (OpOk.move rfl) ?_
      refine LF.step (OpOk.move rfl) ?_
      refine LF.gstepK rfl rfl (.t _) (OpOk.move rfl) ?_
      refine LF.gstepK rfl rfl (.t _) (OpOk.move rfl) ?_
      refine LF.gstepK rfl rfl (.t _) (OpOk.eql rfl rfl) ?_
      refine LF.step (OpOk.pickAnd rfl rfl) ?_
      refine LF.step (OpOk.move rfl) ?_
      refine LF.gstep rfl rfl (.t _) (fun hg => OpOk.move rfl) ?_
      refine LF.gstep rfl rfl (.t _) (fun hg => OpOk.eql (evg rfl hg) rfl) ?_
      refine LF.step (OpOk.pickAnd rfl rfl) ?_
      refine LF.step (OpOk.assign rfl) ?_
      refine LF.nil ?_
      refine PF.next ?_
      refine CF.ret ?_
      have hm : (fun _ _ => true) which more = ((decide ((funcM (⟨0, [⟨[], [⟨24, 0, 0, 0, 0, 0, IntKind.i32.wrap (IntKind.i64.wrap (0 - ((Int.tmod more 5) - 2))), []⟩], ⟨7, (-1), 0, [], 0⟩⟩]⟩)).1 = 0)) && (decide ((funcM (⟨0, [⟨[], [⟨24, 0, 0, 0, 0, 0, IntKind.i32.wrap (IntKind.i64.wrap (0 - ((Int.tmod more 5) - 2))), []⟩], ⟨7, (-1), 0, [], 0⟩⟩]⟩)).2.1 = 0))) := by
        first | (exfalso; omega) | exact (lim_t (lim5 hd) (by omega)).symm | exact (lim_f (lim5 hd) (by omega)).symm
      exact PF.ret1 rfl rfl ⟨by first | (rw [hm] <;> rfl) | exact (congrArg Value.bool hm).symm, hkp⟩
    refine CF.skip ?_
    refine PF.next ?_
    refine CF.seq ?_
    refine CF.region ?_
    refine LF.step (OpOk.move rfl) ?_
    refine LF.step (OpOk.move rfl) ?_
    refine LF.gstepK rfl rfl (.t _) (OpOk.move rfl) ?_
    refine LF.gstepK rfl rfl (.t _) (OpOk.move rfl) ?_
    refine LF.gstepK rfl rfl (.t _) (OpOk.eql rfl rfl) ?_
    refine LF.step (OpOk.pickAnd rfl rfl) ?_
    refine LF.step (OpOk.move rfl) ?_
    refine LF.gstep rfl rfl (.t _) (fun hg => OpOk.move rfl) ?_
    refine LF.gstep rfl rfl (.t _) (fun hg => OpOk.eql (evg rfl hg) rfl) ?_
    refine LF.step (OpOk.pickAnd rfl rfl) ?_
    refine LF.step (OpOk.assign rfl) ?_
    refine LF.nil ?_
    refine PF.next ?_
    refine CF.ret ?_
    have hm : (fun _ _ => true) which more = ((decide ((funcM (⟨0, [⟨[], [⟨24, 0, 0, 0, 0, 0, IntKind.i32.wrap (IntKind.i64.wrap (0 - ((Int.tmod more 5) - 2))), []⟩], ⟨7, (-1), 0, [], 0⟩⟩]⟩)).1 = 32)) && (decide ((funcM (⟨0, [⟨[], [⟨24, 0, 0, 0, 0, 0, IntKind.i32.wrap (IntKind.i64.wrap (0 - ((Int.tmod more 5) - 2))), []⟩], ⟨7, (-1), 0, [], 0⟩⟩]⟩)).2.1 = 0))) := by
      first | (exfalso; omega) | exact (lim_t (lim5 hd) (by omega)).symm | exact (lim_f (lim5 hd) (by omega)).symm
    exact PF.ret1 rfl rfl ⟨by first | (rw [hm] <;> rfl) | exact (congrArg Value.bool hm).symm, hkp⟩
  refine CF.seq ?_
  refine CF.region ?_
  refine LF.step (OpOk.eql rfl rfl) ?_
  refine LF.step (OpOk.assign rfl) ?_
  refine LF.nil ?_
  refine PF.next ?_
  refine CF.if rfl (fun hc25 => ?_) (fun hc25 => ?_)
  · refine CF.seq ?_
    refine CF.region ?_
    refine LF.step (OpOk.move rfl) ?_
    refine LF.step (OpOk.add rfl rfl (by omega)) ?_
    refine LF.step (OpOk.fieldAddr (Try.fld40_3) rfl) ?_
    refine LF.chg0 (OpCh.storeB hb8 Try.sz3 rfl rfl rfl (by first | decide | (simp; done))) ?_
    rintro _ Hw39 ⟨tw39, bw39⟩
    have ztw39 := tw39.1
    replace hin := hin.tw tw39 ng8
    replace hkp := Tw.kp' hkp tw39 (by omega)
    replace hb9 := hb9.tw tw39 (by first | omega | exact Bx.ne hb9 hb8 (by decide) | assumption | exact Ne.symm (by assumption))
    replace hb8 : Bx _ _ _ [.int .i64 1, .int .i64 0, .int .i64 0, .int .i64 (8191 + ((Int.tmod more 5) - 2)), .int .i64 0, .int .i64 0, .int .i32 0, .slice none 0 0] := bw39
    clear bw39 tw39
    refine LF.nil ?_
    refine PF.next ?_
    refine CF.region ?_
    refine LF.step (OpOk.assign rfl) ?_
    refine LF.nil ?_
    refine PF.blockNormal ?_
    refine PF.next ?_
    refine CF.seq ?_
    refine CF.region ?_
    refine LF.step (OpOk.ldBxA hb9 Try.agg55 Try.sz55 rfl rfl rfl) ?_
    refine LF.step (OpOk.ldBxA hb8 Try.agg40 Try.sz40 rfl rfl rfl) ?_
    refine LF.chg (OpCh.litL (F := F) (r := rMach) (l := [⟨1, 0, 0, 8191 + ((Int.tmod more 5) - 2), 0, 0, 0, []⟩]) (us := [.agg #[.int .i64 1, .int .i64 0, .int .i64 0, .int .i64 (8191 + ((Int.tmod more 5) - 2)), .int .i64 0, .int .i64 0, .int .i32 0, .slice none 0 0]]) (cs := [[.int .i64 1, .int .i64 0, .int .i64 0, .int .i64 (8191 + ((Int.tmod more 5) - 2)), .int .i64 0, .int .i64 0, .int .i32 0, .slice none 0 0]]) Try.underlying59 Try.info40 (by decide) rfl rfl rfl ⟨rfl, rfl, (ra_ok (rMach.mk (m := ⟨1, 0, 0, 8191 + ((Int.tmod more 5) - 2), 0, 0, 0, []⟩) (rL.nil _) (by decide : IntKind.i64.wrap 1 = 1) (by decide : IntKind.i64.wrap 0 = 0) (by decide : IntKind.i64.wrap 0 = 0) (IntWalk.i64_in (8191 + ((Int.tmod more 5) - 2)) (by omega)) (by decide : IntKind.i64.wrap 0 = 0) (by decide : IntKind.i64.wrap 0 = 0) (by decide : IntKind.i32.wrap 0 = 0))), trivial⟩) ?_
    rintro _ H88 ⟨g88, rfl, e88, s88, k88, x88⟩
    have l88 := hkp.1
    have nq88_8 := (x88 hin).neLt (.inl hb8.lt)
    replace x88 := (x88 hin).base l88
    have zk88 := k88.1
    replace hin := hin.kp k88
    replace hkp := hkp.trans (k88.mono hkp.1)
    replace hb8 := hb8.kp k88
    replace hb9 := hb9.kp k88
    obtain ⟨Fz40, hxz40, lez40, hinz40, noz40, hrz40⟩ := x88.freezeX hin hx (Nat.le_refl _) (by first | (simp only [List.length_append, List.length_take, List.length_drop, List.length_nil, List.length_cons, List.length_set, List.length_replicate]; omega) | (simp; done) | (simp; omega) | omega)
    replace hin := hinz40
    replace hx := hxz40
    have le0 := lez40
    replace ng8 := (noz40 _ nq88_8).trans ng8
    replace ng9 := (noz40 _ (x88.neBx hb9 (by decide))).trans ng9
    refine LF.call (OpCall.fn Try.ent23 rfl rfl) (one2_ct hin 0 (rEnd.mk (m := ⟨7, (-1), 0, [], 0⟩) (rL.nil _) (by decide : IntKind.i64.wrap 7 = 7) (by decide : IntKind.i64.wrap (-1) = (-1)) (by decide : IntKind.i64.wrap 0 = 0) (by decide : IntKind.i32.wrap 0 = 0)) hrz40) ?_
    rintro _ H89 ⟨F89, vb89, rfl, x89, i89, k89, xb89⟩
    replace xb89 := xb89.base hkp.1
    have zk89 := k89.1
    replace hx := hx.trans x89 hkp.1
    replace hkp := hkp.trans (k89.mono hkp.1)
    have l89 := hkp.1
    replace ng8 := x89.no ng8 hb8.lt
    replace hb8 := hb8.kp k89
    replace ng9 := x89.no ng9 hb9.lt
    replace hb9 := hb9.kp k89
    replace le0 := le0.trans x89.1
    have le1 := x89.1
    have hin := i89
    refine LF.chg (OpCh.allocB Try.zero24 rfl) ?_
    rintro _ H12 ⟨g12, rfl, eg12, sg12, kg12, hb12⟩
    have ng12 := hin.nope (Nat.le_of_eq eg12.symm)
    have lg12 := hkp.1
    have zkg12 := kg12.1
    replace hin := hin.kp kg12
    replace hkp := hkp.trans (kg12.mono hkp.1)
    replace hb8 := hb8.kp kg12
    replace hb9 := hb9.kp kg12
    replace xb89 := xb89.kp kg12
    clear kg12
    refine LF.chg0 (OpCh.storeBA hb12 Try.sz24 rfl rfl rfl (allOne.mem (l := [.int .i64 0, vb89]) ⟨rfl, xb89.one1, trivial⟩) (by decide)) ?_
    rintro _ Hw41 ⟨tw41, bw41⟩
    have ztw41 := tw41.1
    replace hin := hin.tw tw41 ng12
    replace hkp := Tw.kp' hkp tw41 (by omega)
    replace hb8 := hb8.tw tw41 (by first | omega | exact Bx.ne hb8 hb12 (by decide) | assumption | exact Ne.symm (by assumption))
    replace hb9 := hb9.tw tw41 (by first | omega | exact Bx.ne hb9 hb12 (by decide) | assumption | exact Ne.symm (by assumption))
    replace xb89 := xb89.tw tw41 (by first | exact xb89.neBx hb12 (by decide) | exact xb89.neLt (by omega) | exact nq89_12)
    replace hb12 : Bx _ _ _ [.int .i64 0, vb89] := bw41
    clear bw41 tw41
    refine LF.nil ?_
    refine PF.next ?_
    refine CF.seq ?_
    refine CF.seq ?_
    refine CF.region ?_
    refine LF.step (OpOk.move rfl) ?_
    refine LF.step (OpOk.rem rfl rfl (by decide)) ?_
    refine LF.step (OpOk.eql rfl rfl) ?_
    refine LF.nil ?_
    refine PF.next ?_
    refine CF.if rfl (fun hc26 => ?_) (fun hc26 => ?_)
    · refine CF.region ?_
      refine LF.step (OpOk.fieldAddr (Try.fld24_1) rfl) ?_
      refine LF.step (OpOk.ldBx hb12 Try.one22 rfl rfl) ?_
      refine LF.step (OpOk.build (v := .agg #[.int .i64 8, .int .i64 0, .int .i64 0, .slice none 0 0, .int .i32 0]) rfl (fun w => by kernel_rfl)) ?_
      refine LF.step (OpOk.build (v := .agg #[.slice none 0 0, .slice none 0 0, .int .i64 8, .int .i64 0, .int .i64 0, .slice none 0 0, .int .i32 0]) rfl (fun w => by kernel_rfl)) ?_
      refine LF.appA (r := rMBlock) (a := ⟨[], [], ⟨8, 0, 0, [], 0⟩⟩) Try.underlying22 Try.info61 (by decide) rfl rfl (rMBlock.mk (m := ⟨[], [], ⟨8, 0, 0, [], 0⟩⟩) (rL.nil _) (rL.nil _) (rL.nil _) (by decide : IntKind.i64.wrap 8 = 8) (by decide : IntKind.i64.wrap 0 = 0) (by decide : IntKind.i64.wrap 0 = 0) (by decide : IntKind.i32.wrap 0 = 0)) xb89 hin (by first | (simp only [List.length_append, List.length_take, List.length_drop, List.length_nil, List.length_cons, List.length_set, List.length_replicate]; omega) | (simp; done) | (simp; omega) | omega) rfl ?_ hkp.1
      intro v98 H98 x98 gb98 nn98 ob98
      replace hin := hin.grown gb98 xb89.no
      replace hkp := gb98.kp hkp (Nat.le_refl _) (fun k0 hk0 => (xb89.blk k0 hk0).1)
      replace hb8 := hb8.of (gb98.2 _ hb8.lt (Ne.symm (by first | exact xb89.neBx hb8 (by decide) | exact nq89_8)))
      replace hb9 := hb9.of (gb98.2 _ hb9.lt (Ne.symm (by first | exact xb89.neBx hb9 (by decide) | exact nq89_9)))
      replace hb12 := hb12.of (gb98.2 _ hb12.lt (Ne.symm (by first | exact xb89.neBx hb12 (by decide) | exact nq89_12)))
      refine LF.step (OpOk.fieldAddr (Try.fld24_1) rfl) ?_
      refine LF.chg0 (OpCh.storeB hb12 Try.sz22 rfl rfl x98.one1 (by first | decide | (simp; done))) ?_
      rintro _ Hw42 ⟨tw42, bw42⟩
      have ztw42 := tw42.1
      replace hin := hin.tw tw42 ng12
      replace hkp := Tw.kp' hkp tw42 (by omega)
      replace hb8 := hb8.tw tw42 (by first | omega | exact Bx.ne hb8 hb12 (by decide) | assumption | exact Ne.symm (by assumption))
      replace hb9 := hb9.tw tw42 (by first | omega | exact Bx.ne hb9 hb12 (by decide) | assumption | exact Ne.symm (by assumption))
      replace x98 := x98.tw tw42 (by first | exact x98.neBx hb12 (by decide) | exact x98.neLt (by omega) | exact nq98_12)
      replace hb12 : Bx _ _ _ [.int .i64 0, v98] := bw42
      clear bw42 tw42
      refine LF.nil ?_
      refine PF.next ?_
      refine CF.seq ?_
      refine CF.region ?_
      refine LF.step (OpOk.ldBxA hb12 Try.agg24 Try.sz24 rfl rfl rfl) ?_
      obtain ⟨Fz43, hxz43, lez43, hinz43, noz43, hrz43⟩ := x98.freezeX hin hx (Nat.le_refl _) (by first | (simp only [List.length_append, List.length_take, List.length_drop, List.length_nil, List.length_cons, List.length_set, List.length_replicate]; omega) | (simp; done) | (simp; omega) | omega)
      replace hin := hinz43
      replace hx := hxz43
      replace le0 := le0.trans lez43
      replace le1 := le1.trans lez43
      have le2 := lez43
      replace ng8 := (noz43 _ (x98.neBx hb8 (by decide))).trans ng8
      replace ng9 := (noz43 _ (x98.neBx hb9 (by decide))).trans ng9
      replace ng12 := (noz43 _ (x98.neBx hb12 (by decide))).trans ng12
      refine LF.call (OpCall.fn Try.ent24 rfl rfl) (pFunc_ct hin (rMFunc.mk (m := ⟨0, ([⟨[], [⟨1, 0, 0, 8191 + ((Int.tmod more 5) - 2), 0, 0, 0, []⟩], ⟨7, (-1), 0, [], 0⟩⟩]) ++ [⟨[], [], ⟨8, 0, 0, [], 0⟩⟩]⟩) hrz43 (by decide : IntKind.i64.wrap 0 = 0))) ?_
      rintro _ H102 ⟨rfl, k102⟩
      have zk102 := k102.1
      replace hin := hin.kp k102
      replace hkp := hkp.trans (k102.mono hkp.1)
      replace hb8 := hb8.kp k102
      replace hb9 := hb9.kp k102
      replace hb12 := hb12.kp k102
      refine LF.step (OpOk.move rfl) ?_
      refine LF.step (OpOk.extract (v := .int .i64 ((funcM (⟨0, ([⟨[], [⟨1, 0, 0, 8191 + ((Int.tmod more 5) - 2), 0, 0, 0, []⟩], ⟨7, (-1), 0, [], 0⟩⟩]) ++ [⟨[], [], ⟨8, 0, 0, [], 0⟩⟩]⟩)).1)) rfl rfl) ?_
      refine LF.step (OpOk.extract (v := .int .i64 ((funcM (⟨0, ([⟨[], [⟨1, 0, 0, 8191 + ((Int.tmod more 5) - 2), 0, 0, 0, []⟩], ⟨7, (-1), 0, [], 0⟩⟩]) ++ [⟨[], [], ⟨8, 0, 0, [], 0⟩⟩]⟩)).2.1)) rfl rfl) ?_
      refine LF.step (OpOk.extract (v := .int .i64 ((funcM (⟨0, ([⟨[], [⟨1, 0, 0, 8191 + ((Int.tmod more 5) - 2), 0, 0, 0, []⟩], ⟨7, (-1), 0, [], 0⟩⟩]) ++ [⟨[], [], ⟨8, 0, 0, [], 0⟩⟩]⟩)).2.2)) rfl rfl) ?_
      refine LF.step (OpOk.assign rfl) ?_
      refine LF.step (OpOk.assign rfl) ?_
      refine LF.step (OpOk.assign rfl) ?_
      refine LF.nil ?_
      refine PF.next ?_
      refine CF.seq ?_
      refine CF.seq ?_
      refine CF.region ?_
      refine LF.step (OpOk.move rfl) ?_
      refine LF.nil ?_
      refine PF.next ?_
      refine CF.if rfl (fun hc27 => ?_) (fun hc27 => ?_)
      · refine CF.region ?_
        refine LF.step (OpOk.assign rfl) ?_
        refine LF.nil ?_
        refine PF.next ?_
        refine CF.seq ?_
        refine CF.region ?_
        refine LF.step (OpOk.move rfl) ?_
        refine LF.step (OpOk.move rfl) ?_
        refine LF.gstepK rfl rfl (.t _) (OpOk.move rfl) ?_
        refine LF.gstepK rfl rfl (.t _) (OpOk.move rfl) ?_
        refine LF.gstepK rfl rfl (.t _) (OpOk.eql rfl rfl) ?_
        refine LF.step (OpOk.pickAnd rfl rfl) ?_
        refine LF.step (OpOk.move rfl) ?_
        refine LF.gstep rfl rfl (.t _) (fun hg => OpOk.move rfl) ?_
        refine LF.gstep rfl rfl (.t _) (fun hg => OpOk.eql (evg rfl hg) rfl) ?_
        refine LF.step (OpOk.pickAnd rfl rfl) ?_
        refine LF.step (OpOk.assign rfl) ?_
        refine LF.nil ?_
        refine PF.next ?_
        refine CF.ret ?_
        have hm : (fun _ _ => true) which more = ((decide ((funcM (⟨0, ([⟨[], [⟨1, 0, 0, 8191 + ((Int.tmod more 5) - 2), 0, 0, 0, []⟩], ⟨7, (-1), 0, [], 0⟩⟩]) ++ [⟨[], [], ⟨8, 0, 0, [], 0⟩⟩]⟩)).1 = 0)) && (decide ((funcM (⟨0, ([⟨[], [⟨1, 0, 0, 8191 + ((Int.tmod more 5) - 2), 0, 0, 0, []⟩], ⟨7, (-1), 0, [], 0⟩⟩]) ++ [⟨[], [], ⟨8, 0, 0, [], 0⟩⟩]⟩)).2.1 = 0))) := by
          first | (exfalso; omega) | exact (lim_t (lim6 hd) (by omega)).symm | exact (lim_f (lim6 hd) (by omega)).symm
        exact PF.ret1 rfl rfl ⟨by first | (rw [hm] <;> rfl) | exact (congrArg Value.bool hm).symm, hkp⟩
      refine CF.skip ?_
      refine PF.next ?_
      refine CF.seq ?_
      refine CF.region ?_
      refine LF.step (OpOk.move rfl) ?_
      refine LF.step (OpOk.move rfl) ?_
      refine LF.gstepK rfl rfl (.t _) (OpOk.move rfl) ?_
      refine LF.gstepK rfl rfl (.t _) (OpOk.move rfl) ?_
      refine LF.gstepK rfl rfl (.t _) (OpOk.eql rfl rfl) ?_
      refine LF.step (OpOk.pickAnd rfl rfl) ?_
      refine LF.step (OpOk.move rfl) ?_
      refine LF.gstep rfl rfl (.t _) (fun hg => OpOk.move rfl) ?_
      refine LF.gstep rfl rfl (.t _) (fun hg => OpOk.eql (evg rfl hg) rfl) ?_
      refine LF.step (OpOk.pickAnd rfl rfl) ?_
      refine LF.step (OpOk.assign rfl) ?_
      refine LF.nil ?_
      refine PF.next ?_
      refine CF.ret ?_
      have hm : (fun _ _ => true) which more = ((decide ((funcM (⟨0, ([⟨[], [⟨1, 0, 0, 8191 + ((Int.tmod more 5) - 2), 0, 0, 0, []⟩], ⟨7, (-1), 0, [], 0⟩⟩]) ++ [⟨[], [], ⟨8, 0, 0, [], 0⟩⟩]⟩)).1 = 31)) && (decide ((funcM (⟨0, ([⟨[], [⟨1, 0, 0, 8191 + ((Int.tmod more 5) - 2), 0, 0, 0, []⟩], ⟨7, (-1), 0, [], 0⟩⟩]) ++ [⟨[], [], ⟨8, 0, 0, [], 0⟩⟩]⟩)).2.1 = 0))) := by
        first | (exfalso; omega) | exact (lim_t (lim6 hd) (by omega)).symm | exact (lim_f (lim6 hd) (by omega)).symm
      exact PF.ret1 rfl rfl ⟨by first | (rw [hm] <;> rfl) | exact (congrArg Value.bool hm).symm, hkp⟩
    refine CF.skip ?_
    refine PF.next ?_
    refine CF.seq ?_
    refine CF.region ?_
    refine LF.step (OpOk.ldBxA hb12 Try.agg24 Try.sz24 rfl rfl rfl) ?_
    obtain ⟨Fz44, hxz44, lez44, hinz44, noz44, hrz44⟩ := xb89.freezeX hin hx (Nat.le_refl _) (by first | (simp only [List.length_append, List.length_take, List.length_drop, List.length_nil, List.length_cons, List.length_set, List.length_replicate]; omega) | (simp; done) | (simp; omega) | omega)
    replace hin := hinz44
    replace hx := hxz44
    replace le0 := le0.trans lez44
    replace le1 := le1.trans lez44
    have le2 := lez44
    replace ng8 := (noz44 _ (xb89.neBx hb8 (by decide))).trans ng8
    replace ng9 := (noz44 _ (xb89.neBx hb9 (by decide))).trans ng9
    replace ng12 := (noz44 _ (xb89.neBx hb12 (by decide))).trans ng12
    refine LF.call (OpCall.fn Try.ent24 rfl rfl) (pFunc_ct hin (rMFunc.mk (m := ⟨0, [⟨[], [⟨1, 0, 0, 8191 + ((Int.tmod more 5) - 2), 0, 0, 0, []⟩], ⟨7, (-1), 0, [], 0⟩⟩]⟩) hrz44 (by decide : IntKind.i64.wrap 0 = 0))) ?_
    rintro _ H102 ⟨rfl, k102⟩
    have zk102 := k102.1
    replace hin := hin.kp k102
    replace hkp := hkp.trans (k102.mono hkp.1)
    replace hb8 := hb8.kp k102
    replace hb9 := hb9.kp k102
    replace hb12 := hb12.kp k102
    refine LF.step (OpOk.move rfl) ?_
    refine LF.step (OpOk.extract (v := .int .i64 ((funcM (⟨0, [⟨[], [⟨1, 0, 0, 8191 + ((Int.tmod more 5) - 2), 0, 0, 0, []⟩], ⟨7, (-1), 0, [], 0⟩⟩]⟩)).1)) rfl rfl) ?_
    refine LF.step (OpOk.extract (v := .int .i64 ((funcM (⟨0, [⟨[], [⟨1, 0, 0, 8191 + ((Int.tmod more 5) - 2), 0, 0, 0, []⟩], ⟨7, (-1), 0, [], 0⟩⟩]⟩)).2.1)) rfl rfl) ?_
    refine LF.step (OpOk.extract (v := .int .i64 ((funcM (⟨0, [⟨[], [⟨1, 0, 0, 8191 + ((Int.tmod more 5) - 2), 0, 0, 0, []⟩], ⟨7, (-1), 0, [], 0⟩⟩]⟩)).2.2)) rfl rfl) ?_
    refine LF.step (OpOk.assign rfl) ?_
    refine LF.step (OpOk.assign rfl) ?_
    refine LF.step (OpOk.assign rfl) ?_
    refine LF.nil ?_
    refine PF.next ?_
    refine CF.seq ?_
    refine CF.seq ?_
    refine CF.region ?_
    refine LF.step (OpOk.move rfl) ?_
    refine LF.nil ?_
    refine PF.next ?_
    refine CF.if rfl (fun hc28 => ?_) (fun hc28 => ?_)
    · refine CF.region ?_
      refine LF.step (OpOk.assign rfl) ?_
      refine LF.nil ?_
      refine PF.next ?_
      refine CF.seq ?_
      refine CF.region ?_
      refine LF.step (OpOk.move rfl) ?_
      refine LF.step (OpOk.move rfl) ?_
      refine LF.gstepK rfl rfl (.t _) (OpOk.move rfl) ?_
      refine LF.gstepK rfl rfl (.t _) (OpOk.move rfl) ?_
      refine LF.gstepK rfl rfl (.t _) (OpOk.eql rfl rfl) ?_
      refine LF.step (OpOk.pickAnd rfl rfl) ?_
      refine LF.step (OpOk.move rfl) ?_
      refine LF.gstep rfl rfl (.t _) (fun hg => OpOk.move rfl) ?_
      refine LF.gstep rfl rfl (.t _) (fun hg => OpOk.eql (evg rfl hg) rfl) ?_
      refine LF.step (OpOk.pickAnd rfl rfl) ?_
      refine LF.step (OpOk.assign rfl) ?_
      refine LF.nil ?_
      refine PF.next ?_
      refine CF.ret ?_
      have hm : (fun _ _ => true) which more = ((decide ((funcM (⟨0, [⟨[], [⟨1, 0, 0, 8191 + ((Int.tmod more 5) - 2), 0, 0, 0, []⟩], ⟨7, (-1), 0, [], 0⟩⟩]⟩)).1 = 0)) && (decide ((funcM (⟨0, [⟨[], [⟨1, 0, 0, 8191 + ((Int.tmod more 5) - 2), 0, 0, 0, []⟩], ⟨7, (-1), 0, [], 0⟩⟩]⟩)).2.1 = 0))) := by
        first | (exfalso; omega) | exact (lim_t (lim6 hd) (by omega)).symm | exact (lim_f (lim6 hd) (by omega)).symm
      exact PF.ret1 rfl rfl ⟨by first | (rw [hm] <;> rfl) | exact (congrArg Value.bool hm).symm, hkp⟩
    refine CF.skip ?_
    refine PF.next ?_
    refine CF.seq ?_
    refine CF.region ?_
    refine LF.step (OpOk.move rfl) ?_
    refine LF.step (OpOk.move rfl) ?_
    refine LF.gstepK rfl rfl (.t _) (OpOk.move rfl) ?_
    refine LF.gstepK rfl rfl (.t _) (OpOk.move rfl) ?_
    refine LF.gstepK rfl rfl (.t _) (OpOk.eql rfl rfl) ?_
    refine LF.step (OpOk.pickAnd rfl rfl) ?_
    refine LF.step (OpOk.move rfl) ?_
    refine LF.gstep rfl rfl (.t _) (fun hg => OpOk.move rfl) ?_
    refine LF.gstep rfl rfl (.t _) (fun hg => OpOk.eql (evg rfl hg) rfl) ?_
    refine LF.step (OpOk.pickAnd rfl rfl) ?_
    refine LF.step (OpOk.assign rfl) ?_
    refine LF.nil ?_
    refine PF.next ?_
    refine CF.ret ?_
    have hm : (fun _ _ => true) which more = ((decide ((funcM (⟨0, [⟨[], [⟨1, 0, 0, 8191 + ((Int.tmod more 5) - 2), 0, 0, 0, []⟩], ⟨7, (-1), 0, [], 0⟩⟩]⟩)).1 = 31)) && (decide ((funcM (⟨0, [⟨[], [⟨1, 0, 0, 8191 + ((Int.tmod more 5) - 2), 0, 0, 0, []⟩], ⟨7, (-1), 0, [], 0⟩⟩]⟩)).2.1 = 0))) := by
      first | (exfalso; omega) | exact (lim_t (lim6 hd) (by omega)).symm | exact (lim_f (lim6 hd) (by omega)).symm
    exact PF.ret1 rfl rfl ⟨by first | (rw [hm] <;> rfl) | exact (congrArg Value.bool hm).symm, hkp⟩
  refine CF.seq ?_
  refine CF.region ?_
  refine LF.step (OpOk.eql rfl rfl) ?_
  refine LF.step (OpOk.assign rfl) ?_
  refine LF.nil ?_
  refine PF.next ?_
  refine CF.if rfl (fun hc29 => ?_) (fun hc29 => ?_)
  · refine CF.seq ?_
    refine CF.region ?_
    refine LF.step (OpOk.move rfl) ?_
    refine LF.step (OpOk.add rfl rfl (by omega)) ?_
    refine LF.chg (OpCh.makeL (F := F) (r := (rI .i64)) (n := (Int.toNat (4 + ((Int.tmod more 5) - 2)))) (a := 0) Try.underlying38 Try.info3 rfl rfl rfl (by omega) (by omega) (by omega) (by omega) ⟨rfl, (by decide : IntKind.i64.wrap 0 = 0)⟩) ?_
    rintro _ H84 ⟨g84, rfl, e84, s84, k84, x84⟩
    have l84 := hkp.1
    replace x84 := (x84 hin).base l84
    have zk84 := k84.1
    replace hin := hin.kp k84
    replace hkp := hkp.trans (k84.mono hkp.1)
    replace hb8 := hb8.kp k84
    replace hb9 := hb9.kp k84
    refine LF.step (OpOk.build (v := .agg #[.int .i64 28, .int .i64 0, .int .i64 0, .int .i64 0, .int .i64 0, .int .i64 0, .int .i32 0, .slice (some ⟨g84, 0, none⟩) (Int.toNat (4 + ((Int.tmod more 5) - 2))) (Int.toNat (4 + ((Int.tmod more 5) - 2)))]) rfl (fun w => by kernel_rfl)) ?_
    refine LF.chg0 (OpCh.storeBA hb8 Try.sz40 rfl rfl rfl (allOne.mem (l := [.int .i64 28, .int .i64 0, .int .i64 0, .int .i64 0, .int .i64 0, .int .i64 0, .int .i32 0, .slice (some ⟨g84, 0, none⟩) (Int.toNat (4 + ((Int.tmod more 5) - 2))) (Int.toNat (4 + ((Int.tmod more 5) - 2)))]) ⟨rfl, rfl, rfl, rfl, rfl, rfl, rfl, x84.one1, trivial⟩) (by decide)) ?_
    rintro _ Hw45 ⟨tw45, bw45⟩
    have ztw45 := tw45.1
    replace hin := hin.tw tw45 ng8
    replace hkp := Tw.kp' hkp tw45 (by omega)
    replace hb9 := hb9.tw tw45 (by first | omega | exact Bx.ne hb9 hb8 (by decide) | assumption | exact Ne.symm (by assumption))
    replace x84 := x84.tw tw45 (by first | exact x84.neBx hb8 (by decide) | exact x84.neLt (by omega) | exact nq84_8)
    replace hb8 : Bx _ _ _ [.int .i64 28, .int .i64 0, .int .i64 0, .int .i64 0, .int .i64 0, .int .i64 0, .int .i32 0, .slice (some ⟨g84, 0, none⟩) (Int.toNat (4 + ((Int.tmod more 5) - 2))) (Int.toNat (4 + ((Int.tmod more 5) - 2)))] := bw45
    clear bw45 tw45
    refine LF.nil ?_
    refine PF.next ?_
    refine CF.region ?_
    refine LF.step (OpOk.assign rfl) ?_
    refine LF.nil ?_
    refine PF.blockNormal ?_
    refine PF.next ?_
    refine CF.seq ?_
    refine CF.region ?_
    refine LF.step (OpOk.ldBxA hb9 Try.agg55 Try.sz55 rfl rfl rfl) ?_
    refine LF.step (OpOk.ldBxA hb8 Try.agg40 Try.sz40 rfl rfl rfl) ?_
    obtain ⟨Fz46, hxz46, lez46, hinz46, noz46, hrz46⟩ := x84.freezeX hin hx (Nat.le_refl _) (by first | (simp only [List.length_append, List.length_take, List.length_drop, List.length_nil, List.length_cons, List.length_set, List.length_replicate]; omega) | (simp; done) | (simp; omega) | omega)
    replace hin := hinz46
    replace hx := hxz46
    have le0 := lez46
    replace ng8 := (noz46 _ (x84.neBx hb8 (by decide))).trans ng8
    replace ng9 := (noz46 _ (x84.neBx hb9 (by decide))).trans ng9
    refine LF.chg (OpCh.litL (F := Fz46) (r := rMach) (l := [⟨28, 0, 0, 0, 0, 0, 0, List.replicate (Int.toNat (4 + ((Int.tmod more 5) - 2))) 0⟩]) (us := [.agg #[.int .i64 28, .int .i64 0, .int .i64 0, .int .i64 0, .int .i64 0, .int .i64 0, .int .i32 0, .slice (some ⟨g84, 0, none⟩) (Int.toNat (4 + ((Int.tmod more 5) - 2))) (Int.toNat (4 + ((Int.tmod more 5) - 2)))]]) (cs := [[.int .i64 28, .int .i64 0, .int .i64 0, .int .i64 0, .int .i64 0, .int .i64 0, .int .i32 0, .slice (some ⟨g84, 0, none⟩) (Int.toNat (4 + ((Int.tmod more 5) - 2))) (Int.toNat (4 + ((Int.tmod more 5) - 2)))]]) Try.underlying59 Try.info40 (by decide) rfl rfl rfl ⟨rfl, rfl, (ra_ok (rMach.mk (m := ⟨28, 0, 0, 0, 0, 0, 0, List.replicate (Int.toNat (4 + ((Int.tmod more 5) - 2))) 0⟩) hrz46 (by decide : IntKind.i64.wrap 28 = 28) (by decide : IntKind.i64.wrap 0 = 0) (by decide : IntKind.i64.wrap 0 = 0) (by decide : IntKind.i64.wrap 0 = 0) (by decide : IntKind.i64.wrap 0 = 0) (by decide : IntKind.i64.wrap 0 = 0) (by decide : IntKind.i32.wrap 0 = 0))), trivial⟩) ?_
    rintro _ H88 ⟨g88, rfl, e88, s88, k88, x88⟩
    have l88 := hkp.1
    have nq88_8 := (x88 hin).neLt (.inl hb8.lt)
    replace x88 := (x88 hin).base l88
    have zk88 := k88.1
    replace hin := hin.kp k88
    replace hkp := hkp.trans (k88.mono hkp.1)
    replace hb8 := hb8.kp k88
    replace hb9 := hb9.kp k88
    obtain ⟨Fz47, hxz47, lez47, hinz47, noz47, hrz47⟩ := x88.freezeX hin hx (Nat.le_refl _) (by first | (simp only [List.length_append, List.length_take, List.length_drop, List.length_nil, List.length_cons, List.length_set, List.length_replicate]; omega) | (simp; done) | (simp; omega) | omega)
    replace hin := hinz47
    replace hx := hxz47
    replace le0 := le0.trans lez47
    have le1 := lez47
    replace ng8 := (noz47 _ nq88_8).trans ng8
    replace ng9 := (noz47 _ (x88.neBx hb9 (by decide))).trans ng9
    refine LF.call (OpCall.fn Try.ent23 rfl rfl) (one2_ct hin 0 (rEnd.mk (m := ⟨7, (-1), 0, [], 0⟩) (rL.nil _) (by decide : IntKind.i64.wrap 7 = 7) (by decide : IntKind.i64.wrap (-1) = (-1)) (by decide : IntKind.i64.wrap 0 = 0) (by decide : IntKind.i32.wrap 0 = 0)) hrz47) ?_
    rintro _ H89 ⟨F89, vb89, rfl, x89, i89, k89, xb89⟩
    replace xb89 := xb89.base hkp.1
    have zk89 := k89.1
    replace hx := hx.trans x89 hkp.1
    replace hkp := hkp.trans (k89.mono hkp.1)
    have l89 := hkp.1
    replace ng8 := x89.no ng8 hb8.lt
    replace hb8 := hb8.kp k89
    replace ng9 := x89.no ng9 hb9.lt
    replace hb9 := hb9.kp k89
    replace le0 := le0.trans x89.1
    replace le1 := le1.trans x89.1
    have le2 := x89.1
    have hin := i89
    refine LF.chg (OpCh.allocB Try.zero24 rfl) ?_
    rintro _ H12 ⟨g12, rfl, eg12, sg12, kg12, hb12⟩
    have ng12 := hin.nope (Nat.le_of_eq eg12.symm)
    have lg12 := hkp.1
    have zkg12 := kg12.1
    replace hin := hin.kp kg12
    replace hkp := hkp.trans (kg12.mono hkp.1)
    replace hb8 := hb8.kp kg12
    replace hb9 := hb9.kp kg12
    replace xb89 := xb89.kp kg12
    clear kg12
    refine LF.chg0 (OpCh.storeBA hb12 Try.sz24 rfl rfl rfl (allOne.mem (l := [.int .i64 0, vb89]) ⟨rfl, xb89.one1, trivial⟩) (by decide)) ?_
    rintro _ Hw48 ⟨tw48, bw48⟩
    have ztw48 := tw48.1
    replace hin := hin.tw tw48 ng12
    replace hkp := Tw.kp' hkp tw48 (by omega)
    replace hb8 := hb8.tw tw48 (by first | omega | exact Bx.ne hb8 hb12 (by decide) | assumption | exact Ne.symm (by assumption))
    replace hb9 := hb9.tw tw48 (by first | omega | exact Bx.ne hb9 hb12 (by decide) | assumption | exact Ne.symm (by assumption))
    replace xb89 := xb89.tw tw48 (by first | exact xb89.neBx hb12 (by decide) | exact xb89.neLt (by omega) | exact nq89_12)
    replace hb12 : Bx _ _ _ [.int .i64 0, vb89] := bw48
    clear bw48 tw48
    refine LF.nil ?_
    refine PF.next ?_
    refine CF.seq ?_
    refine CF.seq ?_
    refine CF.region ?_
    refine LF.step (OpOk.move rfl) ?_
    refine LF.step (OpOk.rem rfl rfl (by decide)) ?_
    refine LF.step (OpOk.eql rfl rfl) ?_
    refine LF.nil ?_
    refine PF.next ?_
    refine CF.if rfl (fun hc30 => ?_) (fun hc30 => ?_)
    · refine CF.region ?_
      refine LF.step (OpOk.fieldAddr (Try.fld24_1) rfl) ?_
      refine LF.step (OpOk.ldBx hb12 Try.one22 rfl rfl) ?_
      refine LF.step (OpOk.build (v := .agg #[.int .i64 8, .int .i64 0, .int .i64 0, .slice none 0 0, .int .i32 0]) rfl (fun w => by kernel_rfl)) ?_
      refine LF.step (OpOk.build (v := .agg #[.slice none 0 0, .slice none 0 0, .int .i64 8, .int .i64 0, .int .i64 0, .slice none 0 0, .int .i32 0]) rfl (fun w => by kernel_rfl)) ?_
      refine LF.appA (r := rMBlock) (a := ⟨[], [], ⟨8, 0, 0, [], 0⟩⟩) Try.underlying22 Try.info61 (by decide) rfl rfl (rMBlock.mk (m := ⟨[], [], ⟨8, 0, 0, [], 0⟩⟩) (rL.nil _) (rL.nil _) (rL.nil _) (by decide : IntKind.i64.wrap 8 = 8) (by decide : IntKind.i64.wrap 0 = 0) (by decide : IntKind.i64.wrap 0 = 0) (by decide : IntKind.i32.wrap 0 = 0)) xb89 hin (by first | (simp only [List.length_append, List.length_take, List.length_drop, List.length_nil, List.length_cons, List.length_set, List.length_replicate]; omega) | (simp; done) | (simp; omega) | omega) rfl ?_ hkp.1
      intro v98 H98 x98 gb98 nn98 ob98
      replace hin := hin.grown gb98 xb89.no
      replace hkp := gb98.kp hkp (Nat.le_refl _) (fun k0 hk0 => (xb89.blk k0 hk0).1)
      replace hb8 := hb8.of (gb98.2 _ hb8.lt (Ne.symm (by first | exact xb89.neBx hb8 (by decide) | exact nq89_8)))
      replace hb9 := hb9.of (gb98.2 _ hb9.lt (Ne.symm (by first | exact xb89.neBx hb9 (by decide) | exact nq89_9)))
      replace hb12 := hb12.of (gb98.2 _ hb12.lt (Ne.symm (by first | exact xb89.neBx hb12 (by decide) | exact nq89_12)))
      refine LF.step (OpOk.fieldAddr (Try.fld24_1) rfl) ?_
      refine LF.chg0 (OpCh.storeB hb12 Try.sz22 rfl rfl x98.one1 (by first | decide | (simp; done))) ?_
      rintro _ Hw49 ⟨tw49, bw49⟩
      have ztw49 := tw49.1
      replace hin := hin.tw tw49 ng12
      replace hkp := Tw.kp' hkp tw49 (by omega)
      replace hb8 := hb8.tw tw49 (by first | omega | exact Bx.ne hb8 hb12 (by decide) | assumption | exact Ne.symm (by assumption))
      replace hb9 := hb9.tw tw49 (by first | omega | exact Bx.ne hb9 hb12 (by decide) | assumption | exact Ne.symm (by assumption))
      replace x98 := x98.tw tw49 (by first | exact x98.neBx hb12 (by decide) | exact x98.neLt (by omega) | exact nq98_12)
      replace hb12 : Bx _ _ _ [.int .i64 0, v98] := bw49
      clear bw49 tw49
      refine LF.nil ?_
      refine PF.next ?_
      refine CF.seq ?_
      refine CF.region ?_
      refine LF.step (OpOk.ldBxA hb12 Try.agg24 Try.sz24 rfl rfl rfl) ?_
      obtain ⟨Fz50, hxz50, lez50, hinz50, noz50, hrz50⟩ := x98.freezeX hin hx (Nat.le_refl _) (by first | (simp only [List.length_append, List.length_take, List.length_drop, List.length_nil, List.length_cons, List.length_set, List.length_replicate]; omega) | (simp; done) | (simp; omega) | omega)
      replace hin := hinz50
      replace hx := hxz50
      replace le0 := le0.trans lez50
      replace le1 := le1.trans lez50
      replace le2 := le2.trans lez50
      have le3 := lez50
      replace ng8 := (noz50 _ (x98.neBx hb8 (by decide))).trans ng8
      replace ng9 := (noz50 _ (x98.neBx hb9 (by decide))).trans ng9
      replace ng12 := (noz50 _ (x98.neBx hb12 (by decide))).trans ng12
      refine LF.call (OpCall.fn Try.ent24 rfl rfl) (pFunc_ct hin (rMFunc.mk (m := ⟨0, ([⟨[], [⟨28, 0, 0, 0, 0, 0, 0, List.replicate (Int.toNat (4 + ((Int.tmod more 5) - 2))) 0⟩], ⟨7, (-1), 0, [], 0⟩⟩]) ++ [⟨[], [], ⟨8, 0, 0, [], 0⟩⟩]⟩) hrz50 (by decide : IntKind.i64.wrap 0 = 0))) ?_
      rintro _ H102 ⟨rfl, k102⟩
      have zk102 := k102.1
      replace hin := hin.kp k102
      replace hkp := hkp.trans (k102.mono hkp.1)
      replace hb8 := hb8.kp k102
      replace hb9 := hb9.kp k102
      replace hb12 := hb12.kp k102
      refine LF.step (OpOk.move rfl) ?_
      refine LF.step (OpOk.extract (v := .int .i64 ((funcM (⟨0, ([⟨[], [⟨28, 0, 0, 0, 0, 0, 0, List.replicate (Int.toNat (4 + ((Int.tmod more 5) - 2))) 0⟩], ⟨7, (-1), 0, [], 0⟩⟩]) ++ [⟨[], [], ⟨8, 0, 0, [], 0⟩⟩]⟩)).1)) rfl rfl) ?_
      refine LF.step (OpOk.extract (v := .int .i64 ((funcM (⟨0, ([⟨[], [⟨28, 0, 0, 0, 0, 0, 0, List.replicate (Int.toNat (4 + ((Int.tmod more 5) - 2))) 0⟩], ⟨7, (-1), 0, [], 0⟩⟩]) ++ [⟨[], [], ⟨8, 0, 0, [], 0⟩⟩]⟩)).2.1)) rfl rfl) ?_
      refine LF.step (OpOk.extract (v := .int .i64 ((funcM (⟨0, ([⟨[], [⟨28, 0, 0, 0, 0, 0, 0, List.replicate (Int.toNat (4 + ((Int.tmod more 5) - 2))) 0⟩], ⟨7, (-1), 0, [], 0⟩⟩]) ++ [⟨[], [], ⟨8, 0, 0, [], 0⟩⟩]⟩)).2.2)) rfl rfl) ?_
      refine LF.step (OpOk.assign rfl) ?_
      refine LF.step (OpOk.assign rfl) ?_
      refine LF.step (OpOk.assign rfl) ?_
      refine LF.nil ?_
      refine PF.next ?_
      refine CF.seq ?_
      refine CF.seq ?_
      refine CF.region ?_
      refine LF.step (OpOk.move rfl) ?_
      refine LF.nil ?_
      refine PF.next ?_
      refine CF.if rfl (fun hc31 => ?_) (fun hc31 => ?_)
      · refine CF.region ?_
        refine LF.step (OpOk.assign rfl) ?_
        refine LF.nil ?_
        refine PF.next ?_
        refine CF.seq ?_
        refine CF.region ?_
        refine LF.step (OpOk.move rfl) ?_
        refine LF.step (OpOk.move rfl) ?_
        refine LF.gstepK rfl rfl (.t _) (OpOk.move rfl) ?_
        refine LF.gstepK rfl rfl (.t _) (OpOk.move rfl) ?_
        refine LF.gstepK rfl rfl (.t _) (OpOk.eql rfl rfl) ?_
        refine LF.step (OpOk.pickAnd rfl rfl) ?_
        refine LF.step (OpOk.move rfl) ?_
        refine LF.gstep rfl rfl (.t _) (fun hg => OpOk.move rfl) ?_
        refine LF.gstep rfl rfl (.t _) (fun hg => OpOk.eql (evg rfl hg) rfl) ?_
        refine LF.step (OpOk.pickAnd rfl rfl) ?_
        refine LF.step (OpOk.assign rfl) ?_
        refine LF.nil ?_
        refine PF.next ?_
        refine CF.ret ?_
        have hm : (fun _ _ => true) which more = ((decide ((funcM (⟨0, ([⟨[], [⟨28, 0, 0, 0, 0, 0, 0, List.replicate (Int.toNat (4 + ((Int.tmod more 5) - 2))) 0⟩], ⟨7, (-1), 0, [], 0⟩⟩]) ++ [⟨[], [], ⟨8, 0, 0, [], 0⟩⟩]⟩)).1 = 0)) && (decide ((funcM (⟨0, ([⟨[], [⟨28, 0, 0, 0, 0, 0, 0, List.replicate (Int.toNat (4 + ((Int.tmod more 5) - 2))) 0⟩], ⟨7, (-1), 0, [], 0⟩⟩]) ++ [⟨[], [], ⟨8, 0, 0, [], 0⟩⟩]⟩)).2.1 = 0))) := by
          first | (exfalso; omega) | exact (lim_t (lim7 hd) (by omega)).symm | exact (lim_f (lim7 hd) (by omega)).symm
        exact PF.ret1 rfl rfl ⟨by first | (rw [hm] <;> rfl) | exact (congrArg Value.bool hm).symm, hkp⟩
      refine CF.skip ?_
      refine PF.next ?_
      refine CF.seq ?_
      refine CF.region ?_
      refine LF.step (OpOk.move rfl) ?_
      refine LF.step (OpOk.move rfl) ?_
      refine LF.gstepK rfl rfl (.t _) (OpOk.move rfl) ?_
      refine LF.gstepK rfl rfl (.t _) (OpOk.move rfl) ?_
      refine LF.gstepK rfl rfl (.t _) (OpOk.eql rfl rfl) ?_
      refine LF.step (OpOk.pickAnd rfl rfl) ?_
      refine LF.step (OpOk.move rfl) ?_
      refine LF.gstep rfl rfl (.t _) (fun hg => OpOk.move rfl) ?_
      refine LF.gstep rfl rfl (.t _) (fun hg => OpOk.eql (evg rfl hg) rfl) ?_
      refine LF.step (OpOk.pickAnd rfl rfl) ?_
      refine LF.step (OpOk.assign rfl) ?_
      refine LF.nil ?_
      refine PF.next ?_
      refine CF.ret ?_
      have hm : (fun _ _ => true) which more = ((decide ((funcM (⟨0, ([⟨[], [⟨28, 0, 0, 0, 0, 0, 0, List.replicate (Int.toNat (4 + ((Int.tmod more 5) - 2))) 0⟩], ⟨7, (-1), 0, [], 0⟩⟩]) ++ [⟨[], [], ⟨8, 0, 0, [], 0⟩⟩]⟩)).1 = 30)) && (decide ((funcM (⟨0, ([⟨[], [⟨28, 0, 0, 0, 0, 0, 0, List.replicate (Int.toNat (4 + ((Int.tmod more 5) - 2))) 0⟩], ⟨7, (-1), 0, [], 0⟩⟩]) ++ [⟨[], [], ⟨8, 0, 0, [], 0⟩⟩]⟩)).2.1 = 0))) := by
        first | (exfalso; omega) | exact (lim_t (lim7 hd) (by omega)).symm | exact (lim_f (lim7 hd) (by omega)).symm
      exact PF.ret1 rfl rfl ⟨by first | (rw [hm] <;> rfl) | exact (congrArg Value.bool hm).symm, hkp⟩
    refine CF.skip ?_
    refine PF.next ?_
    refine CF.seq ?_
    refine CF.region ?_
    refine LF.step (OpOk.ldBxA hb12 Try.agg24 Try.sz24 rfl rfl rfl) ?_
    obtain ⟨Fz51, hxz51, lez51, hinz51, noz51, hrz51⟩ := xb89.freezeX hin hx (Nat.le_refl _) (by first | (simp only [List.length_append, List.length_take, List.length_drop, List.length_nil, List.length_cons, List.length_set, List.length_replicate]; omega) | (simp; done) | (simp; omega) | omega)
    replace hin := hinz51
    replace hx := hxz51
    replace le0 := le0.trans lez51
    replace le1 := le1.trans lez51
    replace le2 := le2.trans lez51
    have le3 := lez51
    replace ng8 := (noz51 _ (xb89.neBx hb8 (by decide))).trans ng8
    replace ng9 := (noz51 _ (xb89.neBx hb9 (by decide))).trans ng9
    replace ng12 := (noz51 _ (xb89.neBx hb12 (by decide))).trans ng12
    refine LF.call (OpCall.fn Try.ent24 rfl rfl) (pFunc_ct hin (rMFunc.mk (m := ⟨0, [⟨[], [⟨28, 0, 0, 0, 0, 0, 0, List.replicate (Int.toNat (4 + ((Int.tmod more 5) - 2))) 0⟩], ⟨7, (-1), 0, [], 0⟩⟩]⟩) hrz51 (by decide : IntKind.i64.wrap 0 = 0))) ?_
    rintro _ H102 ⟨rfl, k102⟩
    have zk102 := k102.1
    replace hin := hin.kp k102
    replace hkp := hkp.trans (k102.mono hkp.1)
    replace hb8 := hb8.kp k102
    replace hb9 := hb9.kp k102
    replace hb12 := hb12.kp k102
    refine LF.step (OpOk.move rfl) ?_
    refine LF.step (OpOk.extract (v := .int .i64 ((funcM (⟨0, [⟨[], [⟨28, 0, 0, 0, 0, 0, 0, List.replicate (Int.toNat (4 + ((Int.tmod more 5) - 2))) 0⟩], ⟨7, (-1), 0, [], 0⟩⟩]⟩)).1)) rfl rfl) ?_
    refine LF.step (OpOk.extract (v := .int .i64 ((funcM (⟨0, [⟨[], [⟨28, 0, 0, 0, 0, 0, 0, List.replicate (Int.toNat (4 + ((Int.tmod more 5) - 2))) 0⟩], ⟨7, (-1), 0, [], 0⟩⟩]⟩)).2.1)) rfl rfl) ?_
    refine LF.step (OpOk.extract (v := .int .i64 ((funcM (⟨0, [⟨[], [⟨28, 0, 0, 0, 0, 0, 0, List.replicate (Int.toNat (4 + ((Int.tmod more 5) - 2))) 0⟩], ⟨7, (-1), 0, [], 0⟩⟩]⟩)).2.2)) rfl rfl) ?_
    refine LF.step (OpOk.assign rfl) ?_
    refine LF.step (OpOk.assign rfl) ?_
    refine LF.step (OpOk.assign rfl) ?_
    refine LF.nil ?_
    refine PF.next ?_
    refine CF.seq ?_
    refine CF.seq ?_
    refine CF.region ?_
    refine LF.step (OpOk.move rfl) ?_
    refine LF.nil ?_
    refine PF.next ?_
    refine CF.if rfl (fun hc32 => ?_) (fun hc32 => ?_)
    · refine CF.region ?_
      refine LF.step (OpOk.assign rfl) ?_
      refine LF.nil ?_
      refine PF.next ?_
      refine CF.seq ?_
      refine CF.region ?_
      refine LF.step (OpOk.move rfl) ?_
      refine LF.step (OpOk.move rfl) ?_
      refine LF.gstepK rfl rfl (.t _) (OpOk.move rfl) ?_
      refine LF.gstepK rfl rfl (.t _) (OpOk.move rfl) ?_
      refine LF.gstepK rfl rfl (.t _) (OpOk.eql rfl rfl) ?_
      refine LF.step (OpOk.pickAnd rfl rfl) ?_
      refine LF.step (OpOk.move rfl) ?_
      refine LF.gstep rfl rfl (.t _) (fun hg => OpOk.move rfl) ?_
      refine LF.gstep rfl rfl (.t _) (fun hg => OpOk.eql (evg rfl hg) rfl) ?_
      refine LF.step (OpOk.pickAnd rfl rfl) ?_
      refine LF.step (OpOk.assign rfl) ?_
      refine LF.nil ?_
      refine PF.next ?_
      refine CF.ret ?_
      have hm : (fun _ _ => true) which more = ((decide ((funcM (⟨0, [⟨[], [⟨28, 0, 0, 0, 0, 0, 0, List.replicate (Int.toNat (4 + ((Int.tmod more 5) - 2))) 0⟩], ⟨7, (-1), 0, [], 0⟩⟩]⟩)).1 = 0)) && (decide ((funcM (⟨0, [⟨[], [⟨28, 0, 0, 0, 0, 0, 0, List.replicate (Int.toNat (4 + ((Int.tmod more 5) - 2))) 0⟩], ⟨7, (-1), 0, [], 0⟩⟩]⟩)).2.1 = 0))) := by
        first | (exfalso; omega) | exact (lim_t (lim7 hd) (by omega)).symm | exact (lim_f (lim7 hd) (by omega)).symm
      exact PF.ret1 rfl rfl ⟨by first | (rw [hm] <;> rfl) | exact (congrArg Value.bool hm).symm, hkp⟩
    refine CF.skip ?_
    refine PF.next ?_
    refine CF.seq ?_
    refine CF.region ?_
    refine LF.step (OpOk.move rfl) ?_
    refine LF.step (OpOk.move rfl) ?_
    refine LF.gstepK rfl rfl (.t _) (OpOk.move rfl) ?_
    refine LF.gstepK rfl rfl (.t _) (OpOk.move rfl) ?_
    refine LF.gstepK rfl rfl (.t _) (OpOk.eql rfl rfl) ?_
    refine LF.step (OpOk.pickAnd rfl rfl) ?_
    refine LF.step (OpOk.move rfl) ?_
    refine LF.gstep rfl rfl (.t _) (fun hg => OpOk.move rfl) ?_
    refine LF.gstep rfl rfl (.t _) (fun hg => OpOk.eql (evg rfl hg) rfl) ?_
    refine LF.step (OpOk.pickAnd rfl rfl) ?_
    refine LF.step (OpOk.assign rfl) ?_
    refine LF.nil ?_
    refine PF.next ?_
    refine CF.ret ?_
    have hm : (fun _ _ => true) which more = ((decide ((funcM (⟨0, [⟨[], [⟨28, 0, 0, 0, 0, 0, 0, List.replicate (Int.toNat (4 + ((Int.tmod more 5) - 2))) 0⟩], ⟨7, (-1), 0, [], 0⟩⟩]⟩)).1 = 30)) && (decide ((funcM (⟨0, [⟨[], [⟨28, 0, 0, 0, 0, 0, 0, List.replicate (Int.toNat (4 + ((Int.tmod more 5) - 2))) 0⟩], ⟨7, (-1), 0, [], 0⟩⟩]⟩)).2.1 = 0))) := by
      first | (exfalso; omega) | exact (lim_t (lim7 hd) (by omega)).symm | exact (lim_f (lim7 hd) (by omega)).symm
    exact PF.ret1 rfl rfl ⟨by first | (rw [hm] <;> rfl) | exact (congrArg Value.bool hm).symm, hkp⟩
  refine CF.seq ?_
  refine CF.region ?_
  refine LF.step (OpOk.build (v := .agg #[.int .i64 6, .int .i64 0, .int .i64 0, .slice none 0 0, .int .i32 0]) rfl (fun w => by kernel_rfl)) ?_
  refine LF.chg0 (OpCh.storeBA hb9 Try.sz55 rfl rfl rfl (allOne.mem (l := [.int .i64 6, .int .i64 0, .int .i64 0, .slice none 0 0, .int .i32 0]) ⟨rfl, rfl, rfl, rfl, rfl, trivial⟩) (by decide)) ?_
  rintro _ Hw52 ⟨tw52, bw52⟩
  have ztw52 := tw52.1
  replace hin := hin.tw tw52 ng9
  replace hkp := Tw.kp' hkp tw52 (by omega)
  replace hb8 := hb8.tw tw52 (by first | omega | exact Bx.ne hb8 hb9 (by decide) | assumption | exact Ne.symm (by assumption))
  replace hb9 : Bx _ _ _ [.int .i64 6, .int .i64 0, .int .i64 0, .slice none 0 0, .int .i32 0] := bw52
  clear bw52 tw52
  refine LF.nil ?_
  refine PF.next ?_
  refine CF.seq ?_
  refine CF.seq ?_
  refine CF.region ?_
  refine LF.step (OpOk.assign rfl) ?_
  refine LF.nil ?_
  refine PF.next ?_
  refine CF.block ?_
  have x9009 := (fun (H9 : Heap) (_ : InH F H9) => (Gl.nil F H9 H.size : Gl (rI .i64) 3 F H9 H.size (.slice none 0 0) [])) _ hin
  refine CF.loop (ι := Nat × List Int × Value) (fun z9 H1 => z9.1 ≤ 67 ∧ z9.2.1 = List.replicate z9.1 1 ∧ z9.1 ≤ Int.toNat (65 + (Int.tmod more 5 - 2)) ∧ InH F H1 ∧ Kp H.size H H1 ∧ Bx H1 g8 40 [.int .i64 1, .int .i64 0, .int .i64 0, .int .i64 0, .int .i64 0, .int .i64 0, .int .i32 0, .slice none 0 0] ∧ Bx H1 g9 55 [.int .i64 6, .int .i64 0, .int .i64 0, z9.2.2, .int .i32 0] ∧ Gl (rI .i64) 3 F H1 H.size z9.2.2 z9.2.1) (fun z9 => [(0, .int .u8 which), (4, .bool false), (5, .bool true), (6, .int .i64 ((Int.tmod more 5) - 2)), (7, .bool (decide ((Int.tmod more 5) - 2 ≤ 0))), (8, .pointer (some ⟨g8, 0, none⟩)), (9, .pointer (some ⟨g9, 0, none⟩)), (10, .int .i64 32), (11, .int .i64 (↑z9.1))]) (fun z9 => 67 - z9.1) (0, [], .slice none 0 0) ⟨by dsimp only; omega, rfl, by dsimp only; omega, hin, hkp, hb8, hb9, x9009⟩ ⟨rfl, rfl, rfl, rfl, rfl, rfl, rfl, rfl, eqI (by omega), trivial⟩ ?_
  clear hin hkp hb8 hb9 x9009
  rintro ⟨k, to, vt⟩ H1 ⟨hk, hto, hk2, hin, hkp, hb8, hb9, x9009⟩
  dsimp only at hk hto hk2 hb8 hb9 x9009 ⊢
  have htl : to.length = k := by rw [hto]; simp
  refine CF.seq ?_
  refine CF.seq ?_
  refine CF.region ?_
  refine LF.step (OpOk.move rfl) ?_
  refine LF.step (OpOk.move rfl) ?_
  refine LF.step (OpOk.add rfl rfl (by omega)) ?_
  refine LF.step (OpOk.lss rfl rfl) ?_
  refine LF.nil ?_
  refine PF.next ?_
  refine CF.if rfl (fun hc33 => ?_) (fun hc33 => ?_)
  · refine CF.skip ?_
    refine PF.next ?_
    refine CF.seq ?_
    refine CF.block ?_
    refine CF.region ?_
    refine LF.step (OpOk.fieldAddr (Try.fld55_3) rfl) ?_
    refine LF.step (OpOk.ldBx hb9 Try.one38 rfl rfl) ?_
    refine LF.appV (r := (rI .i64)) (a := 1) Try.underlying38 Try.info3 (by decide) rfl rfl rfl ⟨rfl, (by decide : IntKind.i64.wrap 1 = 1)⟩ x9009 hin (by first | (simp only [List.length_append, List.length_take, List.length_drop, List.length_nil, List.length_cons, List.length_set, List.length_replicate]; omega) | (simp; done) | (simp; omega) | omega) rfl ?_ hkp.1
    intro v37 H37 x37 gb37 nn37 ob37
    replace hin := hin.grown gb37 x9009.no
    replace hkp := gb37.kp hkp (Nat.le_refl _) (fun k0 hk0 => (x9009.blk k0 hk0).1)
    replace hb8 := hb8.of (gb37.2 _ hb8.lt (Ne.symm (by first | exact x9009.neBx hb8 (by decide) | exact nq9009_8)))
    replace hb9 := hb9.of (gb37.2 _ hb9.lt (Ne.symm (by first | exact x9009.neBx hb9 (by decide) | exact nq9009_9)))
    refine LF.step (OpOk.fieldAddr (Try.fld55_3) rfl) ?_
    refine LF.chg0 (OpCh.storeB hb9 Try.sz38 rfl rfl x37.one1 (by first | decide | (simp; done))) ?_
    rintro _ Hw53 ⟨tw53, bw53⟩
    have ztw53 := tw53.1
    replace hin := hin.tw tw53 ng9
    replace hkp := Tw.kp' hkp tw53 (by omega)
    replace hb8 := hb8.tw tw53 (by first | omega | exact Bx.ne hb8 hb9 (by decide) | assumption | exact Ne.symm (by assumption))
    replace x37 := x37.tw tw53 (by first | exact x37.neBx hb9 (by decide) | exact x37.neLt (by omega) | exact nq37_9)
    replace hb9 : Bx _ _ _ [.int .i64 6, .int .i64 0, .int .i64 0, v37, .int .i32 0] := bw53
    clear bw53 tw53
    refine LF.nil ?_
    refine PF.blockNormal ?_
    refine PF.next ?_
    refine CF.region ?_
    refine LF.step (OpOk.move rfl) ?_
    refine LF.step (OpOk.add rfl rfl (by omega)) ?_
    refine LF.step (OpOk.assign rfl) ?_
    refine LF.nil ?_
    exact PF.again (k + 1, to ++ [1], v37) ⟨by dsimp only; omega, by dsimp only; rw [hto, rep_snoc], by dsimp only; omega, hin, hkp, hb8, hb9, x37⟩ ⟨rfl, rfl, rfl, rfl, rfl, rfl, rfl, rfl, eqI (by omega), trivial⟩ (by omega)
  refine CF.exit ?_
  refine PF.thenExit ?_
  refine PF.thenExit ?_
  refine PF.blockHere ?_
  refine PF.next ?_
  refine CF.region ?_
  refine LF.step (OpOk.assign rfl) ?_
  refine LF.nil ?_
  refine PF.blockNormal ?_
  refine PF.next ?_
  refine CF.seq ?_
  refine CF.region ?_
  refine LF.step (OpOk.ldBxA hb9 Try.agg55 Try.sz55 rfl rfl rfl) ?_
  refine LF.step (OpOk.ldBxA hb8 Try.agg40 Try.sz40 rfl rfl rfl) ?_
  refine LF.chg (OpCh.litL (F := F) (r := rMach) (l := [⟨1, 0, 0, 0, 0, 0, 0, []⟩]) (us := [.agg #[.int .i64 1, .int .i64 0, .int .i64 0, .int .i64 0, .int .i64 0, .int .i64 0, .int .i32 0, .slice none 0 0]]) (cs := [[.int .i64 1, .int .i64 0, .int .i64 0, .int .i64 0, .int .i64 0, .int .i64 0, .int .i32 0, .slice none 0 0]]) Try.underlying59 Try.info40 (by decide) rfl rfl rfl ⟨rfl, rfl, (ra_ok (rMach.mk (m := ⟨1, 0, 0, 0, 0, 0, 0, []⟩) (rL.nil _) (by decide : IntKind.i64.wrap 1 = 1) (by decide : IntKind.i64.wrap 0 = 0) (by decide : IntKind.i64.wrap 0 = 0) (by decide : IntKind.i64.wrap 0 = 0) (by decide : IntKind.i64.wrap 0 = 0) (by decide : IntKind.i64.wrap 0 = 0) (by decide : IntKind.i32.wrap 0 = 0))), trivial⟩) ?_
  rintro _ H88 ⟨g88, rfl, e88, s88, k88, x88⟩
  have l88 := hkp.1
  have ap9009_88 := ap_new x9009.lt (x88 hin).ge
  have nq88_8 := (x88 hin).neLt (.inl hb8.lt)
  replace x88 := (x88 hin).base l88
  have zk88 := k88.1
  replace hin := hin.kp k88
  replace hkp := hkp.trans (k88.mono hkp.1)
  replace hb8 := hb8.kp k88
  replace hb9 := hb9.kp k88
  replace x9009 := x9009.kp k88
  have ap88_9009 := ap_sym ap9009_88
  obtain ⟨Fz54, hxz54, lez54, hinz54, noz54, hrz54⟩ := x9009.freezeX hin hx (Nat.le_refl _) (by first | (simp only [List.length_append, List.length_take, List.length_drop, List.length_nil, List.length_cons, List.length_set, List.length_replicate]; omega) | (simp; done) | (simp; omega) | omega)
  replace hin := hinz54
  replace hx := hxz54
  have le0 := lez54
  replace ng8 := (noz54 _ (x9009.neBx hb8 (by decide))).trans ng8
  replace ng9 := (noz54 _ (x9009.neBx hb9 (by decide))).trans ng9
  replace x88 := x88.frozen lez54 noz54 ap88_9009
  obtain ⟨Fz55, hxz55, lez55, hinz55, noz55, hrz55⟩ := x88.freezeX hin hx (Nat.le_refl _) (by first | (simp only [List.length_append, List.length_take, List.length_drop, List.length_nil, List.length_cons, List.length_set, List.length_replicate]; omega) | (simp; done) | (simp; omega) | omega)
  replace hin := hinz55
  replace hx := hxz55
  replace le0 := le0.trans lez55
  have le1 := lez55
  replace ng8 := (noz55 _ nq88_8).trans ng8
  replace ng9 := (noz55 _ (x88.neBx hb9 (by decide))).trans ng9
  refine LF.call (OpCall.fn Try.ent23 rfl rfl) (one2_ct hin 0 (rEnd.mk (m := ⟨6, 0, 0, to, 0⟩) (hrz54.up le1) (by decide : IntKind.i64.wrap 6 = 6) (by decide : IntKind.i64.wrap 0 = 0) (by decide : IntKind.i64.wrap 0 = 0) (by decide : IntKind.i32.wrap 0 = 0)) hrz55) ?_
  rintro _ H89 ⟨F89, vb89, rfl, x89, i89, k89, xb89⟩
  replace xb89 := xb89.base hkp.1
  have zk89 := k89.1
  replace hx := hx.trans x89 hkp.1
  replace hkp := hkp.trans (k89.mono hkp.1)
  have l89 := hkp.1
  replace ng8 := x89.no ng8 hb8.lt
  replace hb8 := hb8.kp k89
  replace ng9 := x89.no ng9 hb9.lt
  replace hb9 := hb9.kp k89
  replace le0 := le0.trans x89.1
  replace le1 := le1.trans x89.1
  have le2 := x89.1
  have hin := i89
  refine LF.chg (OpCh.allocB Try.zero24 rfl) ?_
  rintro _ H12 ⟨g12, rfl, eg12, sg12, kg12, hb12⟩
  have ng12 := hin.nope (Nat.le_of_eq eg12.symm)
  have lg12 := hkp.1
  have zkg12 := kg12.1
  replace hin := hin.kp kg12
  replace hkp := hkp.trans (kg12.mono hkp.1)
  replace hb8 := hb8.kp kg12
  replace hb9 := hb9.kp kg12
  replace xb89 := xb89.kp kg12
  clear kg12
  refine LF.chg0 (OpCh.storeBA hb12 Try.sz24 rfl rfl rfl (allOne.mem (l := [.int .i64 0, vb89]) ⟨rfl, xb89.one1, trivial⟩) (by decide)) ?_
  rintro _ Hw56 ⟨tw56, bw56⟩
  have ztw56 := tw56.1
  replace hin := hin.tw tw56 ng12
  replace hkp := Tw.kp' hkp tw56 (by omega)
  replace hb8 := hb8.tw tw56 (by first | omega | exact Bx.ne hb8 hb12 (by decide) | assumption | exact Ne.symm (by assumption))
  replace hb9 := hb9.tw tw56 (by first | omega | exact Bx.ne hb9 hb12 (by decide) | assumption | exact Ne.symm (by assumption))
  replace xb89 := xb89.tw tw56 (by first | exact xb89.neBx hb12 (by decide) | exact xb89.neLt (by omega) | exact nq89_12)
  replace hb12 : Bx _ _ _ [.int .i64 0, vb89] := bw56
  clear bw56 tw56
  refine LF.nil ?_
  refine PF.next ?_
  refine CF.seq ?_
  refine CF.seq ?_
  refine CF.region ?_
  refine LF.step (OpOk.move rfl) ?_
  refine LF.step (OpOk.rem rfl rfl (by decide)) ?_
  refine LF.step (OpOk.eql rfl rfl) ?_
  refine LF.nil ?_
  refine PF.next ?_
  refine CF.if rfl (fun hc34 => ?_) (fun hc34 => ?_)
  · refine CF.region ?_
    refine LF.step (OpOk.fieldAddr (Try.fld24_1) rfl) ?_
    refine LF.step (OpOk.ldBx hb12 Try.one22 rfl rfl) ?_
    refine LF.step (OpOk.build (v := .agg #[.int .i64 8, .int .i64 0, .int .i64 0, .slice none 0 0, .int .i32 0]) rfl (fun w => by kernel_rfl)) ?_
    refine LF.step (OpOk.build (v := .agg #[.slice none 0 0, .slice none 0 0, .int .i64 8, .int .i64 0, .int .i64 0, .slice none 0 0, .int .i32 0]) rfl (fun w => by kernel_rfl)) ?_
    refine LF.appA (r := rMBlock) (a := ⟨[], [], ⟨8, 0, 0, [], 0⟩⟩) Try.underlying22 Try.info61 (by decide) rfl rfl (rMBlock.mk (m := ⟨[], [], ⟨8, 0, 0, [], 0⟩⟩) (rL.nil _) (rL.nil _) (rL.nil _) (by decide : IntKind.i64.wrap 8 = 8) (by decide : IntKind.i64.wrap 0 = 0) (by decide : IntKind.i64.wrap 0 = 0) (by decide : IntKind.i32.wrap 0 = 0)) xb89 hin (by first | (simp only [List.length_append, List.length_take, List.length_drop, List.length_nil, List.length_cons, List.length_set, List.length_replicate]; omega) | (simp; done) | (simp; omega) | omega) rfl ?_ hkp.1
    intro v98 H98 x98 gb98 nn98 ob98
    replace hin := hin.grown gb98 xb89.no
    replace hkp := gb98.kp hkp (Nat.le_refl _) (fun k0 hk0 => (xb89.blk k0 hk0).1)
    replace hb8 := hb8.of (gb98.2 _ hb8.lt (Ne.symm (by first | exact xb89.neBx hb8 (by decide) | exact nq89_8)))
    replace hb9 := hb9.of (gb98.2 _ hb9.lt (Ne.symm (by first | exact xb89.neBx hb9 (by decide) | exact nq89_9)))
    replace hb12 := hb12.of (gb98.2 _ hb12.lt (Ne.symm (by first | exact xb89.neBx hb12 (by decide) | exact nq89_12)))
    refine LF.step (OpOk.fieldAddr (Try.fld24_1) rfl) ?_
    refine LF.chg0 (OpCh.storeB hb12 Try.sz22 rfl rfl x98.one1 (by first | decide | (simp; done))) ?_
    rintro _ Hw57 ⟨tw57, bw57⟩
    have ztw57 := tw57.1
    replace hin := hin.tw tw57 ng12
    replace hkp := Tw.kp' hkp tw57 (by omega)
    replace hb8 := hb8.tw tw57 (by first | omega | exact Bx.ne hb8 hb12 (by decide) | assumption | exact Ne.symm (by assumption))
    replace hb9 := hb9.tw tw57 (by first | omega | exact Bx.ne hb9 hb12 (by decide) | assumption | exact Ne.symm (by assumption))
    replace x98 := x98.tw tw57 (by first | exact x98.neBx hb12 (by decide) | exact x98.neLt (by omega) | exact nq98_12)
    replace hb12 : Bx _ _ _ [.int .i64 0, v98] := bw57
    clear bw57 tw57
    refine LF.nil ?_
    refine PF.next ?_
    refine CF.seq ?_
    refine CF.region ?_
    refine LF.step (OpOk.ldBxA hb12 Try.agg24 Try.sz24 rfl rfl rfl) ?_
    obtain ⟨Fz58, hxz58, lez58, hinz58, noz58, hrz58⟩ := x98.freezeX hin hx (Nat.le_refl _) (by first | (simp only [List.length_append, List.length_take, List.length_drop, List.length_nil, List.length_cons, List.length_set, List.length_replicate]; omega) | (simp; done) | (simp; omega) | omega)
    replace hin := hinz58
    replace hx := hxz58
    replace le0 := le0.trans lez58
    replace le1 := le1.trans lez58
    replace le2 := le2.trans lez58
    have le3 := lez58
    replace ng8 := (noz58 _ (x98.neBx hb8 (by decide))).trans ng8
    replace ng9 := (noz58 _ (x98.neBx hb9 (by decide))).trans ng9
    replace ng12 := (noz58 _ (x98.neBx hb12 (by decide))).trans ng12
    refine LF.call (OpCall.fn Try.ent24 rfl rfl) (pFunc_ct hin (rMFunc.mk (m := ⟨0, ([⟨[], [⟨1, 0, 0, 0, 0, 0, 0, []⟩], ⟨6, 0, 0, to, 0⟩⟩]) ++ [⟨[], [], ⟨8, 0, 0, [], 0⟩⟩]⟩) hrz58 (by decide : IntKind.i64.wrap 0 = 0))) ?_
    rintro _ H102 ⟨rfl, k102⟩
    have zk102 := k102.1
    replace hin := hin.kp k102
    replace hkp := hkp.trans (k102.mono hkp.1)
    replace hb8 := hb8.kp k102
    replace hb9 := hb9.kp k102
    replace hb12 := hb12.kp k102
    refine LF.step (OpOk.move rfl) ?_
    refine LF.step (OpOk.extract (v := .int .i64 ((funcM (⟨0, ([⟨[], [⟨1, 0, 0, 0, 0, 0, 0, []⟩], ⟨6, 0, 0, to, 0⟩⟩]) ++ [⟨[], [], ⟨8, 0, 0, [], 0⟩⟩]⟩)).1)) rfl rfl) ?_
    refine LF.step (OpOk.extract (v := .int .i64 ((funcM (⟨0, ([⟨[], [⟨1, 0, 0, 0, 0, 0, 0, []⟩], ⟨6, 0, 0, to, 0⟩⟩]) ++ [⟨[], [], ⟨8, 0, 0, [], 0⟩⟩]⟩)).2.1)) rfl rfl) ?_
    refine LF.step (OpOk.extract (v := .int .i64 ((funcM (⟨0, ([⟨[], [⟨1, 0, 0, 0, 0, 0, 0, []⟩], ⟨6, 0, 0, to, 0⟩⟩]) ++ [⟨[], [], ⟨8, 0, 0, [], 0⟩⟩]⟩)).2.2)) rfl rfl) ?_
    refine LF.step (OpOk.assign rfl) ?_
    refine LF.step (OpOk.assign rfl) ?_
    refine LF.step (OpOk.assign rfl) ?_
    refine LF.nil ?_
    refine PF.next ?_
    refine CF.seq ?_
    refine CF.seq ?_
    refine CF.region ?_
    refine LF.step (OpOk.move rfl) ?_
    refine LF.nil ?_
    refine PF.next ?_
    refine CF.if rfl (fun hc35 => ?_) (fun hc35 => ?_)
    · refine CF.region ?_
      refine LF.step (OpOk.assign rfl) ?_
      refine LF.nil ?_
      refine PF.next ?_
      refine CF.seq ?_
      refine CF.region ?_
      refine LF.step (OpOk.move rfl) ?_
      refine LF.step (OpOk.move rfl) ?_
      refine LF.gstepK rfl rfl (.t _) (OpOk.move rfl) ?_
      refine LF.gstepK rfl rfl (.t _) (OpOk.move rfl) ?_
      refine LF.gstepK rfl rfl (.t _) (OpOk.eql rfl rfl) ?_
      refine LF.step (OpOk.pickAnd rfl rfl) ?_
      refine LF.step (OpOk.move rfl) ?_
      refine LF.gstep rfl rfl (.t _) (fun hg => OpOk.move rfl) ?_
      refine LF.gstep rfl rfl (.t _) (fun hg => OpOk.eql (evg rfl hg) rfl) ?_
      refine LF.step (OpOk.pickAnd rfl rfl) ?_
      refine LF.step (OpOk.assign rfl) ?_
      refine LF.nil ?_
      refine PF.next ?_
      refine CF.ret ?_
      have hm : (fun _ _ => true) which more = ((decide ((funcM (⟨0, ([⟨[], [⟨1, 0, 0, 0, 0, 0, 0, []⟩], ⟨6, 0, 0, to, 0⟩⟩]) ++ [⟨[], [], ⟨8, 0, 0, [], 0⟩⟩]⟩)).1 = 0)) && (decide ((funcM (⟨0, ([⟨[], [⟨1, 0, 0, 0, 0, 0, 0, []⟩], ⟨6, 0, 0, to, 0⟩⟩]) ++ [⟨[], [], ⟨8, 0, 0, [], 0⟩⟩]⟩)).2.1 = 0))) := by
        first | (exfalso; omega) | (rw [show to = List.replicate (Int.toNat (65 + (Int.tmod more 5 - 2))) 1 by rw [hto]; congr 1; omega]; first | exact (lim_t (lim8 hd) (by omega)).symm | exact (lim_f (lim8 hd) (by omega)).symm)
      exact PF.ret1 rfl rfl ⟨by first | (rw [hm] <;> rfl) | exact (congrArg Value.bool hm).symm, hkp⟩
    refine CF.skip ?_
    refine PF.next ?_
    refine CF.seq ?_
    refine CF.region ?_
    refine LF.step (OpOk.move rfl) ?_
    refine LF.step (OpOk.move rfl) ?_
    refine LF.gstepK rfl rfl (.t _) (OpOk.move rfl) ?_
    refine LF.gstepK rfl rfl (.t _) (OpOk.move rfl) ?_
    refine LF.gstepK rfl rfl (.t _) (OpOk.eql rfl rfl) ?_
    refine LF.step (OpOk.pickAnd rfl rfl) ?_
    refine LF.step (OpOk.move rfl) ?_
    refine LF.gstep rfl rfl (.t _) (fun hg => OpOk.move rfl) ?_
    refine LF.gstep rfl rfl (.t _) (fun hg => OpOk.eql (evg rfl hg) rfl) ?_
    refine LF.step (OpOk.pickAnd rfl rfl) ?_
    refine LF.step (OpOk.assign rfl) ?_
    refine LF.nil ?_
    refine PF.next ?_
    refine CF.ret ?_
    have hm : (fun _ _ => true) which more = ((decide ((funcM (⟨0, ([⟨[], [⟨1, 0, 0, 0, 0, 0, 0, []⟩], ⟨6, 0, 0, to, 0⟩⟩]) ++ [⟨[], [], ⟨8, 0, 0, [], 0⟩⟩]⟩)).1 = 30)) && (decide ((funcM (⟨0, ([⟨[], [⟨1, 0, 0, 0, 0, 0, 0, []⟩], ⟨6, 0, 0, to, 0⟩⟩]) ++ [⟨[], [], ⟨8, 0, 0, [], 0⟩⟩]⟩)).2.1 = 0))) := by
      first | (exfalso; omega) | (rw [show to = List.replicate (Int.toNat (65 + (Int.tmod more 5 - 2))) 1 by rw [hto]; congr 1; omega]; first | exact (lim_t (lim8 hd) (by omega)).symm | exact (lim_f (lim8 hd) (by omega)).symm)
    exact PF.ret1 rfl rfl ⟨by first | (rw [hm] <;> rfl) | exact (congrArg Value.bool hm).symm, hkp⟩
  refine CF.skip ?_
  refine PF.next ?_
  refine CF.seq ?_
  refine CF.region ?_
  refine LF.step (OpOk.ldBxA hb12 Try.agg24 Try.sz24 rfl rfl rfl) ?_
  obtain ⟨Fz59, hxz59, lez59, hinz59, noz59, hrz59⟩ := xb89.freezeX hin hx (Nat.le_refl _) (by first | (simp only [List.length_append, List.length_take, List.length_drop, List.length_nil, List.length_cons, List.length_set, List.length_replicate]; omega) | (simp; done) | (simp; omega) | omega)
  replace hin := hinz59
  replace hx := hxz59
  replace le0 := le0.trans lez59
  replace le1 := le1.trans lez59
  replace le2 := le2.trans lez59
  have le3 := lez59
  replace ng8 := (noz59 _ (xb89.neBx hb8 (by decide))).trans ng8
  replace ng9 := (noz59 _ (xb89.neBx hb9 (by decide))).trans ng9
  replace ng12 := (noz59 _ (xb89.neBx hb12 (by decide))).trans ng12
  refine LF.call (OpCall.fn Try.ent24 rfl rfl) (pFunc_ct hin (rMFunc.mk (m := ⟨0, [⟨[], [⟨1, 0, 0, 0, 0, 0, 0, []⟩], ⟨6, 0, 0, to, 0⟩⟩]⟩) hrz59 (by decide : IntKind.i64.wrap 0 = 0))) ?_
  rintro _ H102 ⟨rfl, k102⟩
  have zk102 := k102.1
  replace hin := hin.kp k102
  replace hkp := hkp.trans (k102.mono hkp.1)
  replace hb8 := hb8.kp k102
  replace hb9 := hb9.kp k102
  replace hb12 := hb12.kp k102
  refine LF.step (OpOk.move rfl) ?_
  refine LF.step (OpOk.extract (v := .int .i64 ((funcM (⟨0, [⟨[], [⟨1, 0, 0, 0, 0, 0, 0, []⟩], ⟨6, 0, 0, to, 0⟩⟩]⟩)).1)) rfl rfl) ?_
  refine LF.step (OpOk.extract (v := .int .i64 ((funcM (⟨0, [⟨[], [⟨1, 0, 0, 0, 0, 0, 0, []⟩], ⟨6, 0, 0, to, 0⟩⟩]⟩)).2.1)) rfl rfl) ?_
  refine LF.step (OpOk.extract (v := .int .i64 ((funcM (⟨0, [⟨[], [⟨1, 0, 0, 0, 0, 0, 0, []⟩], ⟨6, 0, 0, to, 0⟩⟩]⟩)).2.2)) rfl rfl) ?_
  refine LF.step (OpOk.assign rfl) ?_
  refine LF.step (OpOk.assign rfl) ?_
  refine LF.step (OpOk.assign rfl) ?_
  refine LF.nil ?_
  refine PF.next ?_
  refine CF.seq ?_
  refine CF.seq ?_
  refine CF.region ?_
  refine LF.step (OpOk.move rfl) ?_
  refine LF.nil ?_
  refine PF.next ?_
  refine CF.if rfl (fun hc36 => ?_) (fun hc36 => ?_)
  · refine CF.region ?_
    refine LF.step (OpOk.assign rfl) ?_
    refine LF.nil ?_
    refine PF.next ?_
    refine CF.seq ?_
    refine CF.region ?_
    refine LF.step (OpOk.move rfl) ?_
    refine LF.step (OpOk.move rfl) ?_
    refine LF.gstepK rfl rfl (.t _) (OpOk.move rfl) ?_
    refine LF.gstepK rfl rfl (.t _) (OpOk.move rfl) ?_
    refine LF.gstepK rfl rfl (.t _) (OpOk.eql rfl rfl) ?_
    refine LF.step (OpOk.pickAnd rfl rfl) ?_
    refine LF.step (OpOk.move rfl) ?_
    refine LF.gstep rfl rfl (.t _) (fun hg => OpOk.move rfl) ?_
    refine LF.gstep rfl rfl (.t _) (fun hg => OpOk.eql (evg rfl hg) rfl) ?_
    refine LF.step (OpOk.pickAnd rfl rfl) ?_
    refine LF.step (OpOk.assign rfl) ?_
    refine LF.nil ?_
    refine PF.next ?_
    refine CF.ret ?_
    have hm : (fun _ _ => true) which more = ((decide ((funcM (⟨0, [⟨[], [⟨1, 0, 0, 0, 0, 0, 0, []⟩], ⟨6, 0, 0, to, 0⟩⟩]⟩)).1 = 0)) && (decide ((funcM (⟨0, [⟨[], [⟨1, 0, 0, 0, 0, 0, 0, []⟩], ⟨6, 0, 0, to, 0⟩⟩]⟩)).2.1 = 0))) := by
      first | (exfalso; omega) | (rw [show to = List.replicate (Int.toNat (65 + (Int.tmod more 5 - 2))) 1 by rw [hto]; congr 1; omega]; first | exact (lim_t (lim8 hd) (by omega)).symm | exact (lim_f (lim8 hd) (by omega)).symm)
    exact PF.ret1 rfl rfl ⟨by first | (rw [hm] <;> rfl) | exact (congrArg Value.bool hm).symm, hkp⟩
  refine CF.skip ?_
  refine PF.next ?_
  refine CF.seq ?_
  refine CF.region ?_
  refine LF.step (OpOk.move rfl) ?_
  refine LF.step (OpOk.move rfl) ?_
  refine LF.gstepK rfl rfl (.t _) (OpOk.move rfl) ?_
  refine LF.gstepK rfl rfl (.t _) (OpOk.move rfl) ?_
  refine LF.gstepK rfl rfl (.t _) (OpOk.eql rfl rfl) ?_
  refine LF.step (OpOk.pickAnd rfl rfl) ?_
  refine LF.step (OpOk.move rfl) ?_
  refine LF.gstep rfl rfl (.t _) (fun hg => OpOk.move rfl) ?_
  refine LF.gstep rfl rfl (.t _) (fun hg => OpOk.eql (evg rfl hg) rfl) ?_
  refine LF.step (OpOk.pickAnd rfl rfl) ?_
  refine LF.step (OpOk.assign rfl) ?_
  refine LF.nil ?_
  refine PF.next ?_
  refine CF.ret ?_
  have hm : (fun _ _ => true) which more = ((decide ((funcM (⟨0, [⟨[], [⟨1, 0, 0, 0, 0, 0, 0, []⟩], ⟨6, 0, 0, to, 0⟩⟩]⟩)).1 = 30)) && (decide ((funcM (⟨0, [⟨[], [⟨1, 0, 0, 0, 0, 0, 0, []⟩], ⟨6, 0, 0, to, 0⟩⟩]⟩)).2.1 = 0))) := by
    first | (exfalso; omega) | (rw [show to = List.replicate (Int.toNat (65 + (Int.tmod more 5 - 2))) 1 by rw [hto]; congr 1; omega]; first | exact (lim_t (lim8 hd) (by omega)).symm | exact (lim_f (lim8 hd) (by omega)).symm)
  exact PF.ret1 rfl rfl ⟨by first | (rw [hm] <;> rfl) | exact (congrArg Value.bool hm).symm, hkp⟩

end Go.Proofs.Ytehibklogdngbaa
