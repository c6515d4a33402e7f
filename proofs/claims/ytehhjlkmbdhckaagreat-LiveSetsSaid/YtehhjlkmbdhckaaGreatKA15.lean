/- The statement LiveSets, from the contract of its function. Conditions: none; it is the given statement. -/
import Derived.Test.YtehhjlkmbdhckaaGreatKA14
import Derived.Test.YtehhjlkmbdhckaaGreatKA1
set_option linter.unusedSectionVars false
set_option linter.unusedSimpArgs false
set_option linter.unusedVariables false
namespace Go.Proofs.YtehhjlkmbdhckaaGreat
open Go.JE Go.ChangeShapes Go.WideShapes Go.ChangeAt Go.RowKit
theorem Tryz.own : ownKnob Tryz.prog.godebug = none := by kernel_rfl
theorem Tryz.table : TableOk Tryz.prog := ⟨by kernel_rfl, by kernel_rfl, by kernel_rfl⟩
theorem Tv.said {P : Program} {f : FuncId} {args : Array Value} {D0 : List Dt} {F : PH} {H : Heap} (h : Tv P f args D0 [] (.bool true)) (hin : InH F H) (hd : AllD F D0) : Ct P f args H (fun v H' => v = .bool true ∧ Kp H.size H H') :=
  (h F H hin hd trivial).mono fun v H' ⟨i, F', h1, h2⟩ => ⟨h1, (h2 0 (Nat.zero_le _)).hw.1, fun k hk => (h2 0 (Nat.zero_le _)).hw.2 k hk id⟩
theorem ra_3i64 {F : PH} {v : Value} {l : List Int} (h : (rA 3 (rI .i64)).ra F v l) : ∃ x0 x1 x2 : Int, v = .agg #[.int .i64 x0, .int .i64 x1, .int .i64 x2] ∧ IntKind.i64.wrap x0 = x0 ∧ IntKind.i64.wrap x1 = x1 ∧ IntKind.i64.wrap x2 = x2 := by
  obtain ⟨vs, rfl, h1, h2, h3⟩ := h
  obtain ⟨y0, y1, y2, rfl⟩ : ∃ y0 y1 y2 : Int, l = [y0, y1, y2] := by
    match l, h2 with
    | [y0, y1, y2], _ => exact ⟨y0, y1, y2, rfl⟩
  obtain ⟨x0, x1, x2, rfl⟩ : ∃ x0 x1 x2 : Value, vs = [x0, x1, x2] := by
    match vs, h1 with
    | [x0, x1, x2], _ => exact ⟨x0, x1, x2, rfl⟩
  have e0 := h3 0 (by simp)
  have e1 := h3 1 (by simp)
  have e2 := h3 2 (by simp)
  refine ⟨y0, y1, y2, ?_, e0.2, e1.2, e2.2⟩
  have a : ∀ i, [x0, x1, x2].getD i undef = [x0, x1, x2].getD i undef := fun _ => rfl
  have f0 : x0 = .int .i64 y0 := e0.1
  have f1 : x1 = .int .i64 y1 := e1.1
  have f2 : x2 = .int .i64 y2 := e2.1
  rw [f0, f1, f2]
set_option maxRecDepth 100000 in
theorem liveSets_lifted (os : Os) (started : os.Started) (H : Type) (enc : TypeId × Value → H) :
    ReturnsInHanded {} Tryz.checked os 7 .any (Rows.liveSetsSpec.pre6 enc Tryz.prog Tryz.f7 Rows.liveSetsRow.domain false) (Rows.liveSetsSpec.post enc Tryz.prog Tryz.f7 false true false false) := by
  refine returnsInHanded_of_change (C := Tryz.checked) Tryz.own started (by kernel_rfl) Tryz.func7
    (ChangeSpec.witness6 (enc := enc) (C := Tryz.checked) false ⟨#[], #[.slice none 0 0, .agg #[.int .i64 0, .int .i64 0, .int .i64 0]], []⟩ 8 (by kernel_rfl) (by kernel_rfl) (by kernel_rfl) (by kernel_rfl)) ?_
  intro W base args ds gs before hval0 hW hcnd _
  have hval : ∀ (j : Nat) t v, Tryz.f7.params[j]? = some t → args[j]? = some v → Value.okWide Tryz.prog W .any base t v := hval0
  have hW' := hW
  obtain ⟨p, q, hA0, hV, rfl, hfz, hnd⟩ := hW
  have hA : DataW.TrodAll enc Tryz.prog W 0 (fun _ => true) true Tryz.f7.params.toList args.toList ds p := hA0
  have hpar : Tryz.f7.params = #[22, 23] := by kernel_rfl
  rw [hpar] at hA hval
  obtain ⟨v0, v1, d0, d1, p0, p1, rfl, rfl, rfl, h0, h1⟩ := trodAll_two hA
  obtain ⟨a0, l0, c0, rfl⟩ := okWide_slice (by kernel_rfl : Tryz.prog.underlying 22 = some (.slice 3)) (hval 0 22 v0 rfl rfl)
  obtain ⟨m0, o0⟩ := Opens.arg1 (Opens.slice Tryz.underlying22 (Opens.int Tryz.underlying3) (by kernel_rfl) (by decide)) rfl rfl h0
  obtain ⟨cs1, rfl⟩ := Opens.agg (by kernel_rfl : Tryz.prog.cellsOf 23 = 3) (by decide) (Opens.array Tryz.underlying23 (Opens.int Tryz.underlying3) (by kernel_rfl) (by kernel_rfl)) (by decide) h1
  obtain ⟨m1, o1⟩ := Opens.argA (Opens.array Tryz.underlying23 (Opens.int Tryz.underlying3) (by kernel_rfl) (by kernel_rfl)) h1
  obtain ⟨z10, z11, z12, e1, w10, w11, w12⟩ := ra_3i64 o1
  injection e1 with e1; subst e1
  clear hA0 hval0 hcnd
  exact Ct.said Tryz.table (by kernel_rfl) rfl (by kernel_rfl) rfl rfl hW' (Tv.said (liveSets_ct z10 z11 z12 w10 w11 w12) (inH_heapF W) ⟨o0, trivial⟩)
theorem liveSets_proved : Rows.LiveSetsSaid :=
  OpenClaim.holds_of_wide 7 Tryz.f7 rfl rfl rfl rfl rfl rfl rfl ⟨rfl, rfl, rfl, rfl, rfl⟩ rfl rfl rfl rfl rfl (by kernel_rfl) Tryz.func7 (by kernel_rfl)
    (of_decide_eq_true (by kernel_rfl)) (by unfold Func.isWrapper; first | (rw [if_pos (by decide +kernel)]; kernel_rfl) | (rw [if_neg (by decide +kernel)]; exact ⟨rfl, rfl⟩))
    (fun os started H enc _ => liveSets_lifted os started H enc)
#print axioms liveSets_proved
end Go.Proofs.YtehhjlkmbdhckaaGreat
