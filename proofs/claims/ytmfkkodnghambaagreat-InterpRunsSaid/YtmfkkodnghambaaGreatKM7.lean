/- The statement InterpRuns, from the contract of its function. Conditions: none; it is the given statement. -/
import Derived.Test.YtmfkkodnghambaaGreatKM6
import Derived.Test.YtmfkkodnghambaaGreatKM0
set_option maxRecDepth 20000
set_option maxHeartbeats 4000000
set_option linter.unusedSectionVars false
set_option linter.unusedSimpArgs false
set_option linter.unusedVariables false
namespace Go.Proofs.YtmfkkodnghambaaGreat
open Go.JE Go.ChangeShapes Go.WideShapes Go.ChangeAt Go.RowKit
theorem Tryz.own : ownKnob Tryz.prog.godebug = none := by kernel_rfl
theorem Tryz.table : TableOk Tryz.prog := ⟨by kernel_rfl, by kernel_rfl, by kernel_rfl⟩
theorem Tv.said {P : Program} {f : FuncId} {args : Array Value} {D0 : List Dt} {F : PH} {H : Heap} (h : Tv P f args D0 [] (.bool true)) (hin : InH F H) (hd : AllD F D0) : Ct P f args H (fun v H' => v = .bool true ∧ Kp H.size H H') :=
  (h F H hin hd trivial).mono fun v H' ⟨i, F', h1, h2⟩ => ⟨h1, (h2 0 (Nat.zero_le _)).hw.1, fun k hk => (h2 0 (Nat.zero_le _)).hw.2 k hk id⟩
theorem ra_4i64 {F : PH} {v : Value} {l : List Int} (h : (rA 4 (rI .i64)).ra F v l) : ∃ x0 x1 x2 x3 : Int, v = .agg #[.int .i64 x0, .int .i64 x1, .int .i64 x2, .int .i64 x3] ∧ IntKind.i64.wrap x0 = x0 ∧ IntKind.i64.wrap x1 = x1 ∧ IntKind.i64.wrap x2 = x2 ∧ IntKind.i64.wrap x3 = x3 := by
  obtain ⟨vs, rfl, h1, h2, h3⟩ := h
  obtain ⟨y0, y1, y2, y3, rfl⟩ : ∃ y0 y1 y2 y3 : Int, l = [y0, y1, y2, y3] := by
    match l, h2 with
    | [y0, y1, y2, y3], _ => exact ⟨y0, y1, y2, y3, rfl⟩
  obtain ⟨x0, x1, x2, x3, rfl⟩ : ∃ x0 x1 x2 x3 : Value, vs = [x0, x1, x2, x3] := by
    match vs, h1 with
    | [x0, x1, x2, x3], _ => exact ⟨x0, x1, x2, x3, rfl⟩
  have e0 := h3 0 (by simp)
  have e1 := h3 1 (by simp)
  have e2 := h3 2 (by simp)
  have e3 := h3 3 (by simp)
  refine ⟨y0, y1, y2, y3, ?_, e0.2, e1.2, e2.2, e3.2⟩
  have a : ∀ i, [x0, x1, x2, x3].getD i undef = [x0, x1, x2, x3].getD i undef := fun _ => rfl
  have f0 : x0 = .int .i64 y0 := e0.1
  have f1 : x1 = .int .i64 y1 := e1.1
  have f2 : x2 = .int .i64 y2 := e2.1
  have f3 : x3 = .int .i64 y3 := e3.1
  rw [f0, f1, f2, f3]
theorem interpRuns_lifted (os : Os) (started : os.Started) (H : Type) (enc : TypeId × Value → H) :
    ReturnsInHanded {} Tryz.checked os 4 .any (Rows.interpRunsSpec.pre6 enc Tryz.prog Tryz.f4 Rows.interpRunsRow.domain false) (Rows.interpRunsSpec.post enc Tryz.prog Tryz.f4 false true false false) := by
  refine returnsInHanded_of_change (C := Tryz.checked) Tryz.own started (by kernel_rfl) Tryz.func4
    (ChangeSpec.witness6 (enc := enc) (C := Tryz.checked) false ⟨#[], #[.slice none 0 0, .slice none 0 0, .agg #[.int .i64 0, .int .i64 0, .int .i64 0, .int .i64 0]], []⟩ 8 (by kernel_rfl) (by kernel_rfl) (by kernel_rfl) (by kernel_rfl)) ?_
  intro W base args ds gs before hval0 hW hcnd _
  have hval : ∀ (j : Nat) t v, Tryz.f4.params[j]? = some t → args[j]? = some v → Value.okWide Tryz.prog W .any base t v := hval0
  have hW' := hW
  obtain ⟨p, q, hA0, hV, rfl, hfz, hnd⟩ := hW
  have hA : DataW.TrodAll enc Tryz.prog W 0 (fun _ => true) true Tryz.f4.params.toList args.toList ds p := hA0
  have hpar : Tryz.f4.params = #[22, 22, 46] := by kernel_rfl
  rw [hpar] at hA hval
  obtain ⟨v0, v1, v2, d0, d1, d2, p0, p1, p2, rfl, rfl, rfl, h0, h1, h2⟩ := trodAll_three hA
  obtain ⟨a0, l0, c0, rfl⟩ := okWide_slice (by kernel_rfl : Tryz.prog.underlying 22 = some (.slice 3)) (hval 0 22 v0 rfl rfl)
  obtain ⟨m0, o0⟩ := Opens.arg1 (Opens.slice Tryz.underlying22 (Opens.int Tryz.underlying3) (by kernel_rfl) (by decide)) rfl rfl h0
  obtain ⟨a1, l1, c1, rfl⟩ := okWide_slice (by kernel_rfl : Tryz.prog.underlying 22 = some (.slice 3)) (hval 1 22 v1 rfl rfl)
  obtain ⟨m1, o1⟩ := Opens.arg1 (Opens.slice Tryz.underlying22 (Opens.int Tryz.underlying3) (by kernel_rfl) (by decide)) rfl rfl h1
  obtain ⟨cs2, rfl⟩ := Opens.agg (by kernel_rfl : Tryz.prog.cellsOf 46 = 4) (by decide) (Opens.array Tryz.underlying46 (Opens.int Tryz.underlying3) (by kernel_rfl) (by kernel_rfl)) (by decide) h2
  obtain ⟨m2, o2⟩ := Opens.argA (Opens.array Tryz.underlying46 (Opens.int Tryz.underlying3) (by kernel_rfl) (by kernel_rfl)) h2
  obtain ⟨z20, z21, z22, z23, e2, w20, w21, w22, w23⟩ := ra_4i64 o2
  injection e2 with e2; subst e2
  clear hA0 hval0 hcnd
  exact Ct.said Tryz.table (by kernel_rfl) rfl (by kernel_rfl) rfl rfl hW' (Tv.said (interpRuns_ct z20 z21 z22 z23 w20 w21 w22 w23) (inH_heapF W) ⟨o0, o1, trivial⟩)
theorem interpRuns_proved : Rows.InterpRunsSaid :=
  OpenClaim.holds_of_wide 4 Tryz.f4 rfl rfl rfl rfl rfl rfl rfl ⟨rfl, rfl, rfl, rfl, rfl⟩ rfl rfl rfl rfl rfl (by kernel_rfl) Tryz.func4 (by kernel_rfl)
    (of_decide_eq_true (by kernel_rfl)) (by unfold Func.isWrapper; first | (rw [if_pos (by decide +kernel)]; kernel_rfl) | (rw [if_neg (by decide +kernel)]; exact ⟨rfl, rfl⟩))
    (fun os started H enc _ => interpRuns_lifted os started H enc)
#print axioms interpRuns_proved
end Go.Proofs.YtmfkkodnghambaaGreat
