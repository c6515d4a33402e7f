/- Walks. Conditions: each contract names its own. -/
import Derived.Test.YtehibklogdngbaaWI
namespace Go.Proofs.Ytehibklogdngbaa
set_option linter.unusedVariables false
set_option linter.unusedSimpArgs false
set_option linter.unusedSectionVars false
open Go.JE

theorem Try.ent25 : Ent Try.prog 25 := ⟨_, Try.func25, by kernel_rfl, by kernel_rfl⟩
theorem Try.ent8 : Ent Try.prog 8 := ⟨_, Try.func8, by kernel_rfl, by kernel_rfl⟩
section
variable (a b M : Int)
theorem gp_get0 : getM [a, b] 0 = a := rfl
theorem gp_get1 : getM [a, b] 1 = b := rfl
theorem gp1 : goesP 1 M [a, b] = 0 := rfl
theorem gp2 : goesP 2 M [a, b] = if a ≠ 0 then 0 else 1 := rfl
theorem gp3 : goesP 3 M [a, b] = if a = b then 0 else 1 := rfl
theorem gp4 : goesP 4 M [a, b] = if a < b then 0 else 1 := rfl
theorem gp5 : goesP 5 M [a, b] = if u32 a < u32 b then 0 else 1 := rfl
theorem gp7 : goesP 7 M [a, b] = -1 := rfl
theorem gp8 : goesP 8 M [a, b] = -1 := rfl
theorem gp0 : goesP 0 M [a, b] = -1 := rfl
theorem gp9 : goesP 9 M [a, b] = -1 := rfl
theorem gp6 (hM : 0 ≤ M) : goesP 6 M [a, b] = if u32 a < M then u32 a else M := by
  have h : goesP 6 M [a, b] = if u32 a < ((List.replicate (Int.toNat (M + 1)) (0 : Int)).length : Int) - 1 then u32 a else ((List.replicate (Int.toNat (M + 1)) (0 : Int)).length : Int) - 1 := rfl
  rw [h, List.length_replicate, show ((Int.toNat (M + 1) : Nat) : Int) - 1 = M by omega]
theorem or01 {x y : Int} (hx : x = 0 ∨ x = 1) (hy : y = 0 ∨ y = 1) : orI .i64 x y = 0 ∨ orI .i64 x y = 1 := by
  rcases hx with rfl | rfl <;> rcases hy with rfl | rfl <;> decide
theorem if01 (c : Prop) [Decidable c] : (if c then (0 : Int) else 1) = 0 ∨ (if c then (0 : Int) else 1) = 1 := by split <;> simp
theorem if0 (c : Prop) [Decidable c] : decide ((if c then (0 : Int) else 1) = 0) = decide c := by by_cases h : c <;> simp [h]
theorem ends_law (t : Int) (hM : 1 ≤ M ∧ M ≤ 64) (ha : -2147483648 ≤ a ∧ a ≤ 2147483647) (ht : ((0 ≤ a ∧ a < M) ∧ t = a) ∨ (¬ (0 ≤ a ∧ a < M) ∧ t = M)) :
    (((((((((((((decide (goesP 2 M [a, b] = 0)) == (!decide (a = 0))) && ((decide (goesP 3 M [a, b] = 0)) == (decide (a = b)))) && ((decide (goesP 4 M [a, b] = 0)) == (decide (a < b)))) && ((decide (goesP 5 M [a, b] = 0)) == (decide (IntKind.u32.wrap a < IntKind.u32.wrap b))))) && (decide (orI .i64 (orI .i64 (orI .i64 (goesP 2 M [a, b]) (goesP 3 M [a, b])) (goesP 4 M [a, b])) (goesP 5 M [a, b]) ≤ 1))) && (decide (goesP 1 M [a, b] = 0))) && (decide (goesP 6 M [a, b] = t))) && (decide (goesP 7 M [a, b] = -1))) && (decide (goesP 8 M [a, b] = -1))) && (decide (goesP 0 M [a, b] = -1))) && (decide (goesP 9 M [a, b] = -1))) = true := by
  have h6 : goesP 6 M [a, b] = t := by
    rw [gp6 _ _ _ (by omega)]
    unfold u32; rw [IntKind.wrap_u32]
    rcases ht with ⟨h, rfl⟩ | ⟨h, rfl⟩ <;> split <;> omega
  have ho : orI .i64 (orI .i64 (orI .i64 (goesP 2 M [a, b]) (goesP 3 M [a, b])) (goesP 4 M [a, b])) (goesP 5 M [a, b]) ≤ 1 := by
    have := or01 (or01 (or01 (if01 (a ≠ 0)) (if01 (a = b))) (if01 (a < b))) (if01 (u32 a < u32 b))
    rw [gp2, gp3, gp4, gp5]
    rcases this with h | h <;> rw [h] <;> decide
  rw [decide_eq_true ho, h6, gp1, gp7, gp8, gp0, gp9, gp2, gp3, gp4, gp5, if0, if0, if0, if0]
  simp [u32]
end

-- jacquard/jacquardlaw07.MachEnds: function 7
theorem machEnds_ct {F : PH} {H : Heap} (hin : InH F H) (a : Int) (b : Int) (n : Int) (ww0 : IntKind.i32.wrap a = a) (ww1 : IntKind.i32.wrap b = b) (ww2 : IntKind.u8.wrap n = n) :
    Ct Try.prog 7 #[.int .i32 a, .int .i32 b, .int .u8 n] H (fun v H' => v = .bool ((fun _ _ _ => true) a b n) ∧ Kp H.size H H') := by
  have hkp := Kp.refl H.size H
  have hx := PH.ext.refl (H := H) F
  have b0 := i32_rng ww0
  have b1 := i32_rng ww1
  have b2 := u8_rng ww2
  have b3 : 0 ≤ Int.tmod n 64 ∧ Int.tmod n 64 < 64 := by rw [Int.tmod_eq_emod_of_nonneg b2.1]; omega
  refine Ct.enter (args := [.int .i32 a, .int .i32 b, .int .u8 n]) Try.func7 rfl rfl rfl (fun w0 hw0 => ?_)
  refine CF.seq ?_
  refine CF.region ?_
  refine LF.step (OpOk.assign rfl) ?_
  refine LF.nil ?_
  refine PF.next ?_
  refine CF.seq ?_
  refine CF.region ?_
  refine LF.call (OpCall.fn Try.ent8 rfl rfl) (shown_ct hin ) ?_
  rintro _ H13 ⟨rfl, k13⟩
  have zk13 := k13.1
  replace hin := hin.kp k13
  replace hkp := hkp.trans (k13.mono hkp.1)
  refine LF.step (OpOk.assign rfl) ?_
  refine LF.nil ?_
  refine PF.next ?_
  refine CF.seq ?_
  refine CF.region ?_
  refine LF.step (OpOk.move rfl) ?_
  refine LF.step (OpOk.convI Try.underlying5 Try.underlying3 rfl (up_u8_i64 ww2)) ?_
  refine LF.step (OpOk.rem rfl rfl (by decide)) ?_
  refine LF.step (OpOk.add rfl rfl (by omega)) ?_
  refine LF.step (OpOk.assign rfl) ?_
  refine LF.nil ?_
  refine PF.next ?_
  refine CF.seq ?_
  refine CF.region ?_
  refine LF.step (OpOk.move rfl) ?_
  refine LF.step (OpOk.move rfl) ?_
  refine LF.chg (OpCh.litL (F := F) (r := (rI .i32)) (l := [a, b]) (us := [.int .i32 a, .int .i32 b]) (cs := [[.int .i32 a], [.int .i32 b]]) Try.underlying25 Try.info21 (by decide) rfl rfl rfl ⟨rfl, rfl, ⟨rfl, ww0⟩, ⟨rfl, rfl, ⟨rfl, ww1⟩, trivial⟩⟩) ?_
  rintro _ H20 ⟨g20, rfl, e20, s20, k20, x20⟩
  have l20 := hkp.1
  replace x20 := (x20 hin).base l20
  have zk20 := k20.1
  replace hin := hin.kp k20
  replace hkp := hkp.trans (k20.mono hkp.1)
  refine LF.step (OpOk.assign rfl) ?_
  refine LF.nil ?_
  refine PF.next ?_
  refine CF.seq ?_
  obtain ⟨Fz1, hxz1, lez1, hinz1, noz1, hrz1⟩ := x20.freezeX hin hx (Nat.le_refl _) (by first | (simp only [List.length_append, List.length_take, List.length_drop, List.length_nil, List.length_cons, List.length_set, List.length_replicate]; omega) | (simp; done) | (simp; omega) | omega)
  replace hin := hinz1
  replace hx := hxz1
  have le0 := lez1
  refine CF.region ?_
  refine LF.step (OpOk.move rfl) ?_
  refine LF.step (OpOk.assign rfl) ?_
  refine LF.nil ?_
  refine PF.next ?_
  refine CF.seq ?_
  refine CF.seq ?_
  refine CF.region ?_
  refine LF.step (OpOk.move rfl) ?_
  refine LF.step (OpOk.geq rfl rfl) ?_
  refine LF.step (OpOk.move rfl) ?_
  refine LF.gstep rfl rfl (.t _) (fun hg => OpOk.move rfl) ?_
  refine LF.gstep rfl rfl (.t _) (fun hg => OpOk.convI Try.underlying21 Try.underlying3 (evg rfl hg) (up_i32_i64 ww0)) ?_
  refine LF.gstep rfl rfl (.t _) (fun hg => OpOk.move rfl) ?_
  refine LF.gstep rfl rfl (.t _) (fun hg => OpOk.lss (evg rfl hg) (evg rfl hg)) ?_
  refine LF.step (OpOk.pickAnd rfl rfl) ?_
  refine LF.nil ?_
  refine PF.next ?_
  refine CF.if rfl (fun hc1 => ?_) (fun hc1 => ?_)
  · refine CF.region ?_
    refine LF.step (OpOk.move rfl) ?_
    refine LF.step (OpOk.convI Try.underlying21 Try.underlying3 rfl (up_i32_i64 ww0)) ?_
    refine LF.step (OpOk.assign rfl) ?_
    refine LF.nil ?_
    refine PF.next ?_
    refine CF.seq ?_
    refine CF.region ?_
    refine LF.step (OpOk.move rfl) ?_
    refine LF.step (OpOk.move rfl) ?_
    refine LF.call (OpCall.fn Try.ent25 rfl rfl) (goes_ct hin 2 (1 + (Int.tmod n 64)) hrz1 (by omega) (by decide : IntKind.i64.wrap 2 = 2)) ?_
    rintro _ H34 ⟨rfl, k34⟩
    have zk34 := k34.1
    replace hin := hin.kp k34
    replace hkp := hkp.trans (k34.mono hkp.1)
    refine LF.step (OpOk.eql rfl rfl) ?_
    refine LF.step (OpOk.move rfl) ?_
    refine LF.step (OpOk.neq rfl rfl) ?_
    refine LF.step (OpOk.eqlB Try.underlying4 rfl rfl) ?_
    refine LF.step (OpOk.move rfl) ?_
    refine LF.gstep rfl rfl (.t _) (fun hg => OpOk.move rfl) ?_
    refine LF.gstep rfl rfl (.t _) (fun hg => OpOk.move rfl) ?_
    refine LF.gcallR rfl rfl (.t _) (fun hg => OpCall.fn Try.ent25 rfl (evl3 rfl (evg rfl hg) (evg rfl hg))) (fun hg => goes_ct hin 3 (1 + (Int.tmod n 64)) hrz1 (by omega) (by decide : IntKind.i64.wrap 3 = 3)) (fun _ _ h => h.1) ?_
    intro Hq2 zq2
    have kq2 := gkp2 zq2
    have zkq2 := kq2.1
    replace hin := hin.kp kq2
    replace hkp := hkp.trans (kq2.mono hkp.1)
    clear zq2
    refine LF.gstep rfl rfl (.t _) (fun hg => OpOk.eql (evg rfl hg) rfl) ?_
    refine LF.gstep rfl rfl (.t _) (fun hg => OpOk.move rfl) ?_
    refine LF.gstep rfl rfl (.t _) (fun hg => OpOk.move rfl) ?_
    refine LF.gstep rfl rfl (.t _) (fun hg => OpOk.eql (evg rfl hg) (evg rfl hg)) ?_
    refine LF.gstep rfl rfl (.t _) (fun hg => OpOk.eqlB Try.underlying4 (evg rfl hg) (evg rfl hg)) ?_
    refine LF.step (OpOk.pickAnd rfl rfl) ?_
    refine LF.step (OpOk.move rfl) ?_
    refine LF.gstep rfl rfl (.t _) (fun hg => OpOk.move rfl) ?_
    refine LF.gstep rfl rfl (.t _) (fun hg => OpOk.move rfl) ?_
    refine LF.gcallR rfl rfl (.t _) (fun hg => OpCall.fn Try.ent25 rfl (evl3 rfl (evg rfl hg) (evg rfl hg))) (fun hg => goes_ct hin 4 (1 + (Int.tmod n 64)) hrz1 (by omega) (by decide : IntKind.i64.wrap 4 = 4)) (fun _ _ h => h.1) ?_
    intro Hq3 zq3
    have kq3 := gkp2 zq3
    have zkq3 := kq3.1
    replace hin := hin.kp kq3
    replace hkp := hkp.trans (kq3.mono hkp.1)
    clear zq3
    refine LF.gstep rfl rfl (.t _) (fun hg => OpOk.eql (evg rfl hg) rfl) ?_
    refine LF.gstep rfl rfl (.t _) (fun hg => OpOk.move rfl) ?_
    refine LF.gstep rfl rfl (.t _) (fun hg => OpOk.move rfl) ?_
    refine LF.gstep rfl rfl (.t _) (fun hg => OpOk.lss (evg rfl hg) (evg rfl hg)) ?_
    refine LF.gstep rfl rfl (.t _) (fun hg => OpOk.eqlB Try.underlying4 (evg rfl hg) (evg rfl hg)) ?_
    refine LF.step (OpOk.pickAnd rfl rfl) ?_
    refine LF.step (OpOk.move rfl) ?_
    refine LF.gstep rfl rfl (.t _) (fun hg => OpOk.move rfl) ?_
    refine LF.gstep rfl rfl (.t _) (fun hg => OpOk.move rfl) ?_
    refine LF.gcallR rfl rfl (.t _) (fun hg => OpCall.fn Try.ent25 rfl (evl3 rfl (evg rfl hg) (evg rfl hg))) (fun hg => goes_ct hin 5 (1 + (Int.tmod n 64)) hrz1 (by omega) (by decide : IntKind.i64.wrap 5 = 5)) (fun _ _ h => h.1) ?_
    intro Hq4 zq4
    have kq4 := gkp2 zq4
    have zkq4 := kq4.1
    replace hin := hin.kp kq4
    replace hkp := hkp.trans (kq4.mono hkp.1)
    clear zq4
    refine LF.gstep rfl rfl (.t _) (fun hg => OpOk.eql (evg rfl hg) rfl) ?_
    refine LF.gstep rfl rfl (.t _) (fun hg => OpOk.move rfl) ?_
    refine LF.gstep rfl rfl (.t _) (fun hg => OpOk.convI Try.underlying21 Try.underlying66 (evg rfl hg) rfl) ?_
    refine LF.gstep rfl rfl (.t _) (fun hg => OpOk.move rfl) ?_
    refine LF.gstep rfl rfl (.t _) (fun hg => OpOk.convI Try.underlying21 Try.underlying66 (evg rfl hg) rfl) ?_
    refine LF.gstep rfl rfl (.t _) (fun hg => OpOk.lss (evg rfl hg) (evg rfl hg)) ?_
    refine LF.gstep rfl rfl (.t _) (fun hg => OpOk.eqlB Try.underlying4 (evg rfl hg) (evg rfl hg)) ?_
    refine LF.step (OpOk.pickAnd rfl rfl) ?_
    refine LF.step (OpOk.assign rfl) ?_
    refine LF.nil ?_
    refine PF.next ?_
    refine CF.seq ?_
    refine CF.region ?_
    refine LF.step (OpOk.move rfl) ?_
    refine LF.step (OpOk.move rfl) ?_
    refine LF.call (OpCall.fn Try.ent25 rfl rfl) (goes_ct hin 2 (1 + (Int.tmod n 64)) hrz1 (by omega) (by decide : IntKind.i64.wrap 2 = 2)) ?_
    rintro _ H73 ⟨rfl, k73⟩
    have zk73 := k73.1
    replace hin := hin.kp k73
    replace hkp := hkp.trans (k73.mono hkp.1)
    refine LF.step (OpOk.move rfl) ?_
    refine LF.step (OpOk.move rfl) ?_
    refine LF.call (OpCall.fn Try.ent25 rfl rfl) (goes_ct hin 3 (1 + (Int.tmod n 64)) hrz1 (by omega) (by decide : IntKind.i64.wrap 3 = 3)) ?_
    rintro _ H76 ⟨rfl, k76⟩
    have zk76 := k76.1
    replace hin := hin.kp k76
    replace hkp := hkp.trans (k76.mono hkp.1)
    refine LF.step (OpOk.orw rfl rfl) ?_
    refine LF.step (OpOk.move rfl) ?_
    refine LF.step (OpOk.move rfl) ?_
    refine LF.call (OpCall.fn Try.ent25 rfl rfl) (goes_ct hin 4 (1 + (Int.tmod n 64)) hrz1 (by omega) (by decide : IntKind.i64.wrap 4 = 4)) ?_
    rintro _ H80 ⟨rfl, k80⟩
    have zk80 := k80.1
    replace hin := hin.kp k80
    replace hkp := hkp.trans (k80.mono hkp.1)
    refine LF.step (OpOk.orw rfl rfl) ?_
    refine LF.step (OpOk.move rfl) ?_
    refine LF.step (OpOk.move rfl) ?_
    refine LF.call (OpCall.fn Try.ent25 rfl rfl) (goes_ct hin 5 (1 + (Int.tmod n 64)) hrz1 (by omega) (by decide : IntKind.i64.wrap 5 = 5)) ?_
    rintro _ H84 ⟨rfl, k84⟩
    have zk84 := k84.1
    replace hin := hin.kp k84
    replace hkp := hkp.trans (k84.mono hkp.1)
    refine LF.step (OpOk.orw rfl rfl) ?_
    refine LF.step (OpOk.leq rfl rfl) ?_
    refine LF.step (OpOk.assign rfl) ?_
    refine LF.nil ?_
    refine PF.next ?_
    refine CF.seq ?_
    refine CF.region ?_
    refine LF.step (OpOk.move rfl) ?_
    refine LF.step (OpOk.move rfl) ?_
    refine LF.gstepK rfl rfl (.t _) (OpOk.move rfl) ?_
    refine LF.step (OpOk.pickAnd rfl rfl) ?_
    refine LF.step (OpOk.move rfl) ?_
    refine LF.gstep rfl rfl (.t _) (fun hg => OpOk.move rfl) ?_
    refine LF.step (OpOk.pickAnd rfl rfl) ?_
    refine LF.step (OpOk.move rfl) ?_
    refine LF.gstep rfl rfl (.t _) (fun hg => OpOk.move rfl) ?_
    refine LF.gstep rfl rfl (.t _) (fun hg => OpOk.move rfl) ?_
    refine LF.gcallR rfl rfl (.t _) (fun hg => OpCall.fn Try.ent25 rfl (evl3 rfl (evg rfl hg) (evg rfl hg))) (fun hg => goes_ct hin 1 (1 + (Int.tmod n 64)) hrz1 (by omega) (by decide : IntKind.i64.wrap 1 = 1)) (fun _ _ h => h.1) ?_
    intro Hq5 zq5
    have kq5 := gkp2 zq5
    have zkq5 := kq5.1
    replace hin := hin.kp kq5
    replace hkp := hkp.trans (kq5.mono hkp.1)
    clear zq5
    refine LF.gstep rfl rfl (.t _) (fun hg => OpOk.eql (evg rfl hg) rfl) ?_
    refine LF.step (OpOk.pickAnd rfl rfl) ?_
    refine LF.step (OpOk.move rfl) ?_
    refine LF.gstep rfl rfl (.t _) (fun hg => OpOk.move rfl) ?_
    refine LF.gstep rfl rfl (.t _) (fun hg => OpOk.move rfl) ?_
    refine LF.gcallR rfl rfl (.t _) (fun hg => OpCall.fn Try.ent25 rfl (evl3 rfl (evg rfl hg) (evg rfl hg))) (fun hg => goes_ct hin 6 (1 + (Int.tmod n 64)) hrz1 (by omega) (by decide : IntKind.i64.wrap 6 = 6)) (fun _ _ h => h.1) ?_
    intro Hq6 zq6
    have kq6 := gkp2 zq6
    have zkq6 := kq6.1
    replace hin := hin.kp kq6
    replace hkp := hkp.trans (kq6.mono hkp.1)
    clear zq6
    refine LF.gstep rfl rfl (.t _) (fun hg => OpOk.move rfl) ?_
    refine LF.gstep rfl rfl (.t _) (fun hg => OpOk.eql (evg rfl hg) (evg rfl hg)) ?_
    refine LF.step (OpOk.pickAnd rfl rfl) ?_
    refine LF.step (OpOk.move rfl) ?_
    refine LF.gstep rfl rfl (.t _) (fun hg => OpOk.move rfl) ?_
    refine LF.gstep rfl rfl (.t _) (fun hg => OpOk.move rfl) ?_
    refine LF.gcallR rfl rfl (.t _) (fun hg => OpCall.fn Try.ent25 rfl (evl3 rfl (evg rfl hg) (evg rfl hg))) (fun hg => goes_ct hin 7 (1 + (Int.tmod n 64)) hrz1 (by omega) (by decide : IntKind.i64.wrap 7 = 7)) (fun _ _ h => h.1) ?_
    intro Hq7 zq7
    have kq7 := gkp2 zq7
    have zkq7 := kq7.1
    replace hin := hin.kp kq7
    replace hkp := hkp.trans (kq7.mono hkp.1)
    clear zq7
    refine LF.gstep rfl rfl (.t _) (fun hg => OpOk.eql (evg rfl hg) rfl) ?_
    refine LF.step (OpOk.pickAnd rfl rfl) ?_
    refine LF.step (OpOk.move rfl) ?_
    refine LF.gstep rfl rfl (.t _) (fun hg => OpOk.move rfl) ?_
    refine LF.gstep rfl rfl (.t _) (fun hg => OpOk.move rfl) ?_
    refine LF.gcallR rfl rfl (.t _) (fun hg => OpCall.fn Try.ent25 rfl (evl3 rfl (evg rfl hg) (evg rfl hg))) (fun hg => goes_ct hin 8 (1 + (Int.tmod n 64)) hrz1 (by omega) (by decide : IntKind.i64.wrap 8 = 8)) (fun _ _ h => h.1) ?_
    intro Hq8 zq8
    have kq8 := gkp2 zq8
    have zkq8 := kq8.1
    replace hin := hin.kp kq8
    replace hkp := hkp.trans (kq8.mono hkp.1)
    clear zq8
    refine LF.gstep rfl rfl (.t _) (fun hg => OpOk.eql (evg rfl hg) rfl) ?_
    refine LF.step (OpOk.pickAnd rfl rfl) ?_
    refine LF.step (OpOk.move rfl) ?_
    refine LF.gstep rfl rfl (.t _) (fun hg => OpOk.move rfl) ?_
    refine LF.gstep rfl rfl (.t _) (fun hg => OpOk.move rfl) ?_
    refine LF.gcallR rfl rfl (.t _) (fun hg => OpCall.fn Try.ent25 rfl (evl3 rfl (evg rfl hg) (evg rfl hg))) (fun hg => goes_ct hin 0 (1 + (Int.tmod n 64)) hrz1 (by omega) (by decide : IntKind.i64.wrap 0 = 0)) (fun _ _ h => h.1) ?_
    intro Hq9 zq9
    have kq9 := gkp2 zq9
    have zkq9 := kq9.1
    replace hin := hin.kp kq9
    replace hkp := hkp.trans (kq9.mono hkp.1)
    clear zq9
    refine LF.gstep rfl rfl (.t _) (fun hg => OpOk.eql (evg rfl hg) rfl) ?_
    refine LF.step (OpOk.pickAnd rfl rfl) ?_
    refine LF.step (OpOk.move rfl) ?_
    refine LF.gstep rfl rfl (.t _) (fun hg => OpOk.move rfl) ?_
    refine LF.gstep rfl rfl (.t _) (fun hg => OpOk.move rfl) ?_
    refine LF.gcallR rfl rfl (.t _) (fun hg => OpCall.fn Try.ent25 rfl (evl3 rfl (evg rfl hg) (evg rfl hg))) (fun hg => goes_ct hin 9 (1 + (Int.tmod n 64)) hrz1 (by omega) (by decide : IntKind.i64.wrap 9 = 9)) (fun _ _ h => h.1) ?_
    intro Hq10 zq10
    have kq10 := gkp2 zq10
    have zkq10 := kq10.1
    replace hin := hin.kp kq10
    replace hkp := hkp.trans (kq10.mono hkp.1)
    clear zq10
    refine LF.gstep rfl rfl (.t _) (fun hg => OpOk.eql (evg rfl hg) rfl) ?_
    refine LF.step (OpOk.pickAnd rfl rfl) ?_
    refine LF.step (OpOk.assign rfl) ?_
    refine LF.nil ?_
    refine PF.next ?_
    refine CF.ret ?_
    have hm : (fun _ _ _ => true) a b n = ((((((((((((decide (goesP 2 (1 + (Int.tmod n 64)) ([a, b]) = 0)) == (!decide (a = 0))) && ((decide (goesP 3 (1 + (Int.tmod n 64)) ([a, b]) = 0)) == (decide (a = b)))) && ((decide (goesP 4 (1 + (Int.tmod n 64)) ([a, b]) = 0)) == (decide (a < b)))) && ((decide (goesP 5 (1 + (Int.tmod n 64)) ([a, b]) = 0)) == (decide (IntKind.u32.wrap a < IntKind.u32.wrap b)))) && (decide (orI .i64 (orI .i64 (orI .i64 (goesP 2 (1 + (Int.tmod n 64)) ([a, b])) (goesP 3 (1 + (Int.tmod n 64)) ([a, b]))) (goesP 4 (1 + (Int.tmod n 64)) ([a, b]))) (goesP 5 (1 + (Int.tmod n 64)) ([a, b])) ≤ 1))) && (decide (goesP 1 (1 + (Int.tmod n 64)) ([a, b]) = 0))) && (decide (goesP 6 (1 + (Int.tmod n 64)) ([a, b]) = a))) && (decide (goesP 7 (1 + (Int.tmod n 64)) ([a, b]) = (-1)))) && (decide (goesP 8 (1 + (Int.tmod n 64)) ([a, b]) = (-1)))) && (decide (goesP 0 (1 + (Int.tmod n 64)) ([a, b]) = (-1)))) && (decide (goesP 9 (1 + (Int.tmod n 64)) ([a, b]) = (-1)))) := by
      exact (ends_law a b _ _ (by omega) b0 (by omega)).symm
    exact PF.ret1 rfl rfl ⟨by rw [hm] <;> rfl, hkp⟩
  refine CF.skip ?_
  refine PF.next ?_
  refine CF.seq ?_
  refine CF.region ?_
  refine LF.step (OpOk.move rfl) ?_
  refine LF.step (OpOk.move rfl) ?_
  refine LF.call (OpCall.fn Try.ent25 rfl rfl) (goes_ct hin 2 (1 + (Int.tmod n 64)) hrz1 (by omega) (by decide : IntKind.i64.wrap 2 = 2)) ?_
  rintro _ H34 ⟨rfl, k34⟩
  have zk34 := k34.1
  replace hin := hin.kp k34
  replace hkp := hkp.trans (k34.mono hkp.1)
  refine LF.step (OpOk.eql rfl rfl) ?_
  refine LF.step (OpOk.move rfl) ?_
  refine LF.step (OpOk.neq rfl rfl) ?_
  refine LF.step (OpOk.eqlB Try.underlying4 rfl rfl) ?_
  refine LF.step (OpOk.move rfl) ?_
  refine LF.gstep rfl rfl (.t _) (fun hg => OpOk.move rfl) ?_
  refine LF.gstep rfl rfl (.t _) (fun hg => OpOk.move rfl) ?_
  refine LF.gcallR rfl rfl (.t _) (fun hg => OpCall.fn Try.ent25 rfl (evl3 rfl (evg rfl hg) (evg rfl hg))) (fun hg => goes_ct hin 3 (1 + (Int.tmod n 64)) hrz1 (by omega) (by decide : IntKind.i64.wrap 3 = 3)) (fun _ _ h => h.1) ?_
  intro Hq11 zq11
  have kq11 := gkp2 zq11
  have zkq11 := kq11.1
  replace hin := hin.kp kq11
  replace hkp := hkp.trans (kq11.mono hkp.1)
  clear zq11
  refine LF.gstep rfl rfl (.t _) (fun hg => OpOk.eql (evg rfl hg) rfl) ?_
  refine LF.gstep rfl rfl (.t _) (fun hg => OpOk.move rfl) ?_
  refine LF.gstep rfl rfl (.t _) (fun hg => OpOk.move rfl) ?_
  refine LF.gstep rfl rfl (.t _) (fun hg => OpOk.eql (evg rfl hg) (evg rfl hg)) ?_
  refine LF.gstep rfl rfl (.t _) (fun hg => OpOk.eqlB Try.underlying4 (evg rfl hg) (evg rfl hg)) ?_
  refine LF.step (OpOk.pickAnd rfl rfl) ?_
  refine LF.step (OpOk.move rfl) ?_
  refine LF.gstep rfl rfl (.t _) (fun hg => OpOk.move rfl) ?_
  refine LF.gstep rfl rfl (.t _) (fun hg => OpOk.move rfl) ?_
  refine LF.gcallR rfl rfl (.t _) (fun hg => OpCall.fn Try.ent25 rfl (evl3 rfl (evg rfl hg) (evg rfl hg))) (fun hg => goes_ct hin 4 (1 + (Int.tmod n 64)) hrz1 (by omega) (by decide : IntKind.i64.wrap 4 = 4)) (fun _ _ h => h.1) ?_
  intro Hq12 zq12
  have kq12 := gkp2 zq12
  have zkq12 := kq12.1
  replace hin := hin.kp kq12
  replace hkp := hkp.trans (kq12.mono hkp.1)
  clear zq12
  refine LF.gstep rfl rfl (.t _) (fun hg => OpOk.eql (evg rfl hg) rfl) ?_
  refine LF.gstep rfl rfl (.t _) (fun hg => OpOk.move rfl) ?_
  refine LF.gstep rfl rfl (.t _) (fun hg => OpOk.move rfl) ?_
  refine LF.gstep rfl rfl (.t _) (fun hg => OpOk.lss (evg rfl hg) (evg rfl hg)) ?_
  refine LF.gstep rfl rfl (.t _) (fun hg => OpOk.eqlB Try.underlying4 (evg rfl hg) (evg rfl hg)) ?_
  refine LF.step (OpOk.pickAnd rfl rfl) ?_
  refine LF.step (OpOk.move rfl) ?_
  refine LF.gstep rfl rfl (.t _) (fun hg => OpOk.move rfl) ?_
  refine LF.gstep rfl rfl (.t _) (fun hg => OpOk.move rfl) ?_
  refine LF.gcallR rfl rfl (.t _) (fun hg => OpCall.fn Try.ent25 rfl (evl3 rfl (evg rfl hg) (evg rfl hg))) (fun hg => goes_ct hin 5 (1 + (Int.tmod n 64)) hrz1 (by omega) (by decide : IntKind.i64.wrap 5 = 5)) (fun _ _ h => h.1) ?_
  intro Hq13 zq13
  have kq13 := gkp2 zq13
  have zkq13 := kq13.1
  replace hin := hin.kp kq13
  replace hkp := hkp.trans (kq13.mono hkp.1)
  clear zq13
  refine LF.gstep rfl rfl (.t _) (fun hg => OpOk.eql (evg rfl hg) rfl) ?_
  refine LF.gstep rfl rfl (.t _) (fun hg => OpOk.move rfl) ?_
  refine LF.gstep rfl rfl (.t _) (fun hg => OpOk.convI Try.underlying21 Try.underlying66 (evg rfl hg) rfl) ?_
  refine LF.gstep rfl rfl (.t _) (fun hg => OpOk.move rfl) ?_
  refine LF.gstep rfl rfl (.t _) (fun hg => OpOk.convI Try.underlying21 Try.underlying66 (evg rfl hg) rfl) ?_
  refine LF.gstep rfl rfl (.t _) (fun hg => OpOk.lss (evg rfl hg) (evg rfl hg)) ?_
  refine LF.gstep rfl rfl (.t _) (fun hg => OpOk.eqlB Try.underlying4 (evg rfl hg) (evg rfl hg)) ?_
  refine LF.step (OpOk.pickAnd rfl rfl) ?_
  refine LF.step (OpOk.assign rfl) ?_
  refine LF.nil ?_
  refine PF.next ?_
  refine CF.seq ?_
  refine CF.region ?_
  refine LF.step (OpOk.move rfl) ?_
  refine LF.step (OpOk.move rfl) ?_
  refine LF.call (OpCall.fn Try.ent25 rfl rfl) (goes_ct hin 2 (1 + (Int.tmod n 64)) hrz1 (by omega) (by decide : IntKind.i64.wrap 2 = 2)) ?_
  rintro _ H73 ⟨rfl, k73⟩
  have zk73 := k73.1
  replace hin := hin.kp k73
  replace hkp := hkp.trans (k73.mono hkp.1)
  refine LF.step (OpOk.move rfl) ?_
  refine LF.step (OpOk.move rfl) ?_
  refine LF.call (OpCall.fn Try.ent25 rfl rfl) (goes_ct hin 3 (1 + (Int.tmod n 64)) hrz1 (by omega) (by decide : IntKind.i64.wrap 3 = 3)) ?_
  rintro _ H76 ⟨rfl, k76⟩
  have zk76 := k76.1
  replace hin := hin.kp k76
  replace hkp := hkp.trans (k76.mono hkp.1)
  refine LF.step (OpOk.orw rfl rfl) ?_
  refine LF.step (OpOk.move rfl) ?_
  refine LF.step (OpOk.move rfl) ?_
  refine LF.call (OpCall.fn Try.ent25 rfl rfl) (goes_ct hin 4 (1 + (Int.tmod n 64)) hrz1 (by omega) (by decide : IntKind.i64.wrap 4 = 4)) ?_
  rintro _ H80 ⟨rfl, k80⟩
  have zk80 := k80.1
  replace hin := hin.kp k80
  replace hkp := hkp.trans (k80.mono hkp.1)
  refine LF.step (OpOk.orw rfl rfl) ?_
  refine LF.step (OpOk.move rfl) ?_
  refine LF.step (OpOk.move rfl) ?_
  refine LF.call (OpCall.fn Try.ent25 rfl rfl) (goes_ct hin 5 (1 + (Int.tmod n 64)) hrz1 (by omega) (by decide : IntKind.i64.wrap 5 = 5)) ?_
  rintro _ H84 ⟨rfl, k84⟩
  have zk84 := k84.1
  replace hin := hin.kp k84
  replace hkp := hkp.trans (k84.mono hkp.1)
  refine LF.step (OpOk.orw rfl rfl) ?_
  refine LF.step (OpOk.leq rfl rfl) ?_
  refine LF.step (OpOk.assign rfl) ?_
  refine LF.nil ?_
  refine PF.next ?_
  refine CF.seq ?_
  refine CF.region ?_
  refine LF.step (OpOk.move rfl) ?_
  refine LF.step (OpOk.move rfl) ?_
  refine LF.gstepK rfl rfl (.t _) (OpOk.move rfl) ?_
  refine LF.step (OpOk.pickAnd rfl rfl) ?_
  refine LF.step (OpOk.move rfl) ?_
  refine LF.gstep rfl rfl (.t _) (fun hg => OpOk.move rfl) ?_
  refine LF.step (OpOk.pickAnd rfl rfl) ?_
  refine LF.step (OpOk.move rfl) ?_
  refine LF.gstep rfl rfl (.t _) (fun hg => OpOk.move rfl) ?_
  refine LF.gstep rfl rfl (.t _) (fun hg => OpOk.move rfl) ?_
  refine LF.gcallR rfl rfl (.t _) (fun hg => OpCall.fn Try.ent25 rfl (evl3 rfl (evg rfl hg) (evg rfl hg))) (fun hg => goes_ct hin 1 (1 + (Int.tmod n 64)) hrz1 (by omega) (by decide : IntKind.i64.wrap 1 = 1)) (fun _ _ h => h.1) ?_
  intro Hq14 zq14
  have kq14 := gkp2 zq14
  have zkq14 := kq14.1
  replace hin := hin.kp kq14
  replace hkp := hkp.trans (kq14.mono hkp.1)
  clear zq14
  refine LF.gstep rfl rfl (.t _) (fun hg => OpOk.eql (evg rfl hg) rfl) ?_
  refine LF.step (OpOk.pickAnd rfl rfl) ?_
  refine LF.step (OpOk.move rfl) ?_
  refine LF.gstep rfl rfl (.t _) (fun hg => OpOk.move rfl) ?_
  refine LF.gstep rfl rfl (.t _) (fun hg => OpOk.move rfl) ?_
  refine LF.gcallR rfl rfl (.t _) (fun hg => OpCall.fn Try.ent25 rfl (evl3 rfl (evg rfl hg) (evg rfl hg))) (fun hg => goes_ct hin 6 (1 + (Int.tmod n 64)) hrz1 (by omega) (by decide : IntKind.i64.wrap 6 = 6)) (fun _ _ h => h.1) ?_
  intro Hq15 zq15
  have kq15 := gkp2 zq15
  have zkq15 := kq15.1
  replace hin := hin.kp kq15
  replace hkp := hkp.trans (kq15.mono hkp.1)
  clear zq15
  refine LF.gstep rfl rfl (.t _) (fun hg => OpOk.move rfl) ?_
  refine LF.gstep rfl rfl (.t _) (fun hg => OpOk.eql (evg rfl hg) (evg rfl hg)) ?_
  refine LF.step (OpOk.pickAnd rfl rfl) ?_
  refine LF.step (OpOk.move rfl) ?_
  refine LF.gstep rfl rfl (.t _) (fun hg => OpOk.move rfl) ?_
  refine LF.gstep rfl rfl (.t _) (fun hg => OpOk.move rfl) ?_
  refine LF.gcallR rfl rfl (.t _) (fun hg => OpCall.fn Try.ent25 rfl (evl3 rfl (evg rfl hg) (evg rfl hg))) (fun hg => goes_ct hin 7 (1 + (Int.tmod n 64)) hrz1 (by omega) (by decide : IntKind.i64.wrap 7 = 7)) (fun _ _ h => h.1) ?_
  intro Hq16 zq16
  have kq16 := gkp2 zq16
  have zkq16 := kq16.1
  replace hin := hin.kp kq16
  replace hkp := hkp.trans (kq16.mono hkp.1)
  clear zq16
  refine LF.gstep rfl rfl (.t _) (fun hg => OpOk.eql (evg rfl hg) rfl) ?_
  refine LF.step (OpOk.pickAnd rfl rfl) ?_
  refine LF.step (OpOk.move rfl) ?_
  refine LF.gstep rfl rfl (.t _) (fun hg => OpOk.move rfl) ?_
  refine LF.gstep rfl rfl (.t _) (fun hg => OpOk.move rfl) ?_
  refine LF.gcallR rfl rfl (.t _) (fun hg => OpCall.fn Try.ent25 rfl (evl3 rfl (evg rfl hg) (evg rfl hg))) (fun hg => goes_ct hin 8 (1 + (Int.tmod n 64)) hrz1 (by omega) (by decide : IntKind.i64.wrap 8 = 8)) (fun _ _ h => h.1) ?_
  intro Hq17 zq17
  have kq17 := gkp2 zq17
  have zkq17 := kq17.1
  replace hin := hin.kp kq17
  replace hkp := hkp.trans (kq17.mono hkp.1)
  clear zq17
  refine LF.gstep rfl rfl (.t _) (fun hg => OpOk.eql (evg rfl hg) rfl) ?_
  refine LF.step (OpOk.pickAnd rfl rfl) ?_
  refine LF.step (OpOk.move rfl) ?_
  refine LF.gstep rfl rfl (.t _) (fun hg => OpOk.move rfl) ?_
  refine LF.gstep rfl rfl (.t _) (fun hg => OpOk.move rfl) ?_
  refine LF.gcallR rfl rfl (.t _) (fun hg => OpCall.fn Try.ent25 rfl (evl3 rfl (evg rfl hg) (evg rfl hg))) (fun hg => goes_ct hin 0 (1 + (Int.tmod n 64)) hrz1 (by omega) (by decide : IntKind.i64.wrap 0 = 0)) (fun _ _ h => h.1) ?_
  intro Hq18 zq18
  have kq18 := gkp2 zq18
  have zkq18 := kq18.1
  replace hin := hin.kp kq18
  replace hkp := hkp.trans (kq18.mono hkp.1)
  clear zq18
  refine LF.gstep rfl rfl (.t _) (fun hg => OpOk.eql (evg rfl hg) rfl) ?_
  refine LF.step (OpOk.pickAnd rfl rfl) ?_
  refine LF.step (OpOk.move rfl) ?_
  refine LF.gstep rfl rfl (.t _) (fun hg => OpOk.move rfl) ?_
  refine LF.gstep rfl rfl (.t _) (fun hg => OpOk.move rfl) ?_
  refine LF.gcallR rfl rfl (.t _) (fun hg => OpCall.fn Try.ent25 rfl (evl3 rfl (evg rfl hg) (evg rfl hg))) (fun hg => goes_ct hin 9 (1 + (Int.tmod n 64)) hrz1 (by omega) (by decide : IntKind.i64.wrap 9 = 9)) (fun _ _ h => h.1) ?_
  intro Hq19 zq19
  have kq19 := gkp2 zq19
  have zkq19 := kq19.1
  replace hin := hin.kp kq19
  replace hkp := hkp.trans (kq19.mono hkp.1)
  clear zq19
  refine LF.gstep rfl rfl (.t _) (fun hg => OpOk.eql (evg rfl hg) rfl) ?_
  refine LF.step (OpOk.pickAnd rfl rfl) ?_
  refine LF.step (OpOk.assign rfl) ?_
  refine LF.nil ?_
  refine PF.next ?_
  refine CF.ret ?_
  have hm : (fun _ _ _ => true) a b n = ((((((((((((decide (goesP 2 (1 + (Int.tmod n 64)) ([a, b]) = 0)) == (!decide (a = 0))) && ((decide (goesP 3 (1 + (Int.tmod n 64)) ([a, b]) = 0)) == (decide (a = b)))) && ((decide (goesP 4 (1 + (Int.tmod n 64)) ([a, b]) = 0)) == (decide (a < b)))) && ((decide (goesP 5 (1 + (Int.tmod n 64)) ([a, b]) = 0)) == (decide (IntKind.u32.wrap a < IntKind.u32.wrap b)))) && (decide (orI .i64 (orI .i64 (orI .i64 (goesP 2 (1 + (Int.tmod n 64)) ([a, b])) (goesP 3 (1 + (Int.tmod n 64)) ([a, b]))) (goesP 4 (1 + (Int.tmod n 64)) ([a, b]))) (goesP 5 (1 + (Int.tmod n 64)) ([a, b])) ≤ 1))) && (decide (goesP 1 (1 + (Int.tmod n 64)) ([a, b]) = 0))) && (decide (goesP 6 (1 + (Int.tmod n 64)) ([a, b]) = 1 + (Int.tmod n 64)))) && (decide (goesP 7 (1 + (Int.tmod n 64)) ([a, b]) = (-1)))) && (decide (goesP 8 (1 + (Int.tmod n 64)) ([a, b]) = (-1)))) && (decide (goesP 0 (1 + (Int.tmod n 64)) ([a, b]) = (-1)))) && (decide (goesP 9 (1 + (Int.tmod n 64)) ([a, b]) = (-1)))) := by
    exact (ends_law a b _ _ (by omega) b0 (by omega)).symm
  exact PF.ret1 rfl rfl ⟨by rw [hm] <;> rfl, hkp⟩

end Go.Proofs.Ytehibklogdngbaa
