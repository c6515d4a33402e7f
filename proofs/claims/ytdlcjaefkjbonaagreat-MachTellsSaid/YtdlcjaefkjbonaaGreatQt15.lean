/- The statement MachTells, from the contract of its function. Conditions: none; it is the given statement. -/
import Derived.Test.YtdlcjaefkjbonaaGreatQt14
import Derived.Test.YtdlcjaefkjbonaaGreatQt2
namespace Go.Proofs.YtdlcjaefkjbonaaGreat
set_option linter.unusedVariables false
set_option linter.unusedSimpArgs false
open Go.JE Go.ChangeShapes Go.WideShapes Go.ChangeAt Go.RowKit
theorem Tryz.own : ownKnob Tryz.prog.godebug = none := by kernel_rfl
theorem Tryz.table : TableOk Tryz.prog := ⟨by kernel_rfl, by kernel_rfl, by kernel_rfl⟩
theorem Tv.said {P : Program} {f : FuncId} {args : Array Value} {D0 : List Dt} {F : PH} {H : Heap} (h : Tv P f args D0 [] (.bool true)) (hin : InH F H) (hd : AllD F D0) : Ct P f args H (fun v H' => v = .bool true ∧ Kp H.size H H') :=
  (h F H hin hd trivial).mono fun v H' ⟨i, F', h1, h2⟩ => ⟨h1, (h2 0 (Nat.zero_le _)).hw.1, fun k hk => (h2 0 (Nat.zero_le _)).hw.2 k hk id⟩
theorem ra_2_3i64 {F : PH} {v : Value} {l : List (List Int)} (h : (rA 2 (rA 3 (rI .i64))).ra F v l) : ∃ x00 x01 x02 x10 x11 x12 : Int, v = .agg #[.int .i64 x00, .int .i64 x01, .int .i64 x02, .int .i64 x10, .int .i64 x11, .int .i64 x12] ∧ IntKind.i64.wrap x00 = x00 ∧ IntKind.i64.wrap x01 = x01 ∧ IntKind.i64.wrap x02 = x02 ∧ IntKind.i64.wrap x10 = x10 ∧ IntKind.i64.wrap x11 = x11 ∧ IntKind.i64.wrap x12 = x12 := by
  obtain ⟨vs, rfl, h1, h2, h3⟩ := h
  obtain ⟨r0, r1, rfl⟩ : ∃ r0 r1 : List Int, l = [r0, r1] := by
    match l, h2 with
    | [r0, r1], _ => exact ⟨r0, r1, rfl⟩
  obtain ⟨x00, x01, x02, x10, x11, x12, rfl⟩ : ∃ x00 x01 x02 x10 x11 x12 : Value, vs = [x00, x01, x02, x10, x11, x12] := by
    match vs, h1 with
    | [x00, x01, x02, x10, x11, x12], _ => exact ⟨x00, x01, x02, x10, x11, x12, rfl⟩
  obtain ⟨g0, e0⟩ := h3 0 (by simp)
  obtain ⟨y00, y01, y02, q0⟩ : ∃ y00 y01 y02 : Int, r0 = [y00, y01, y02] := by
    have g9 : r0.length = 3 := g0
    match r0, g9 with
    | [y00, y01, y02], _ => exact ⟨y00, y01, y02, rfl⟩
  subst q0
  obtain ⟨g1, e1⟩ := h3 1 (by simp)
  obtain ⟨y10, y11, y12, q1⟩ : ∃ y10 y11 y12 : Int, r1 = [y10, y11, y12] := by
    have g9 : r1.length = 3 := g1
    match r1, g9 with
    | [y10, y11, y12], _ => exact ⟨y10, y11, y12, rfl⟩
  subst q1
  have f00 := e0 0 (by show 0 < 3; omega)
  have f01 := e0 1 (by show 1 < 3; omega)
  have f02 := e0 2 (by show 2 < 3; omega)
  have f10 := e1 0 (by show 0 < 3; omega)
  have f11 := e1 1 (by show 1 < 3; omega)
  have f12 := e1 2 (by show 2 < 3; omega)
  refine ⟨y00, y01, y02, y10, y11, y12, ?_, f00.2, f01.2, f02.2, f10.2, f11.2, f12.2⟩
  have k00 : x00 = .int .i64 y00 := f00.1
  have k01 : x01 = .int .i64 y01 := f01.1
  have k02 : x02 = .int .i64 y02 := f02.1
  have k10 : x10 = .int .i64 y10 := f10.1
  have k11 : x11 = .int .i64 y11 := f11.1
  have k12 : x12 = .int .i64 y12 := f12.1
  rw [k00, k01, k02, k10, k11, k12]
set_option maxRecDepth 100000 in
theorem machTells_lifted (os : Os) (started : os.Started) (H : Type) (enc : TypeId × Value → H) :
    ReturnsInHanded {} Tryz.checked os 3 .any (Rows.machTellsSpec.pre6 enc Tryz.prog Tryz.f3 Rows.machTellsRow.domain false) (Rows.machTellsSpec.post enc Tryz.prog Tryz.f3 false true false false) := by
  refine returnsInHanded_of_change (C := Tryz.checked) Tryz.own started (by kernel_rfl) Tryz.func3
    (ChangeSpec.witness6 (enc := enc) (C := Tryz.checked) false ⟨#[], #[.slice none 0 0, .agg #[.int .i64 0, .int .i64 0, .int .i64 0, .int .i64 0, .int .i64 0, .int .i64 0]], []⟩ 8 (by kernel_rfl) (by kernel_rfl) (by kernel_rfl) (by kernel_rfl)) ?_
  intro W base args ds gs before hval0 hW hcnd _
  have hval : ∀ (j : Nat) t v, Tryz.f3.params[j]? = some t → args[j]? = some v → Value.okWide Tryz.prog W .any base t v := hval0
  have hW' := hW
  obtain ⟨p, q, hA0, hV, rfl, hfz, hnd⟩ := hW
  have hA : DataW.TrodAll enc Tryz.prog W 0 (fun _ => true) true Tryz.f3.params.toList args.toList ds p := hA0
  have hpar : Tryz.f3.params = #[22, 24] := by kernel_rfl
  rw [hpar] at hA hval
  obtain ⟨v0, v1, d0, d1, p0, p1, rfl, rfl, rfl, h0, h1⟩ := trodAll_two hA
  obtain ⟨a0, l0, c0, rfl⟩ := okWide_slice (by kernel_rfl : Tryz.prog.underlying 22 = some (.slice 3)) (hval 0 22 v0 rfl rfl)
  obtain ⟨m0, o0⟩ := Opens.arg1 (Opens.slice Tryz.underlying22 (Opens.int Tryz.underlying3) (by kernel_rfl) (by decide)) rfl rfl h0
  obtain ⟨cs1, rfl⟩ := Opens.agg (by kernel_rfl : Tryz.prog.cellsOf 24 = 6) (by decide) (Opens.array Tryz.underlying24 (Opens.array Tryz.underlying23 (Opens.int Tryz.underlying3) (by kernel_rfl) (by kernel_rfl)) (by kernel_rfl) (by kernel_rfl)) (by decide) h1
  obtain ⟨m1, o1⟩ := Opens.argA (Opens.array Tryz.underlying24 (Opens.array Tryz.underlying23 (Opens.int Tryz.underlying3) (by kernel_rfl) (by kernel_rfl)) (by kernel_rfl) (by kernel_rfl)) h1
  obtain ⟨z100, z101, z102, z110, z111, z112, e1, w100, w101, w102, w110, w111, w112⟩ := ra_2_3i64 o1
  injection e1 with e1; subst e1
  clear hA0 hval0 hcnd
  exact Ct.said Tryz.table (by kernel_rfl) rfl (by kernel_rfl) rfl rfl hW' (Tv.said (machTells_ct z100 z101 z102 z110 z111 z112 w100 w101 w102 w110 w111 w112) (inH_heapF W) ⟨o0, trivial⟩)
theorem machTells_proved : Rows.MachTellsSaid :=
  OpenClaim.holds_of_wide 3 Tryz.f3 rfl rfl rfl rfl rfl rfl rfl ⟨rfl, rfl, rfl, rfl, rfl⟩ rfl rfl rfl rfl rfl (by kernel_rfl) Tryz.func3 (by kernel_rfl)
    (of_decide_eq_true (by kernel_rfl)) (by unfold Func.isWrapper; first | (rw [if_pos (by decide +kernel)]; kernel_rfl) | (rw [if_neg (by decide +kernel)]; exact ⟨rfl, rfl⟩))
    (fun os started H enc _ => machTells_lifted os started H enc)
#print axioms machTells_proved
end Go.Proofs.YtdlcjaefkjbonaaGreat
