/- The statement InterpSame, from the contract of its function. Conditions: none; it is the given statement. -/
import Derived.Test.YtmfkkodnghambaaKF10
import Derived.Test.YtmfkkodnghambaaKF1
set_option linter.unusedSectionVars false
set_option linter.unusedSimpArgs false
set_option linter.unusedVariables false
namespace Go.Proofs.Ytmfkkodnghambaa
open Go.JE Go.ChangeShapes Go.WideShapes Go.ChangeAt Go.RowKit
theorem Try.own : ownKnob Try.prog.godebug = none := by kernel_rfl
theorem Try.table : TableOk Try.prog := ⟨by kernel_rfl, by kernel_rfl, by kernel_rfl⟩
theorem Tv.said {P : Program} {f : FuncId} {args : Array Value} {D0 : List Dt} {F : PH} {H : Heap} (h : Tv P f args D0 [] (.bool true)) (hin : InH F H) (hd : AllD F D0) : Ct P f args H (fun v H' => v = .bool true ∧ Kp H.size H H') :=
  (h F H hin hd trivial).mono fun v H' ⟨i, F', h1, h2⟩ => ⟨h1, (h2 0 (Nat.zero_le _)).hw.1, fun k hk => (h2 0 (Nat.zero_le _)).hw.2 k hk id⟩
set_option maxRecDepth 100000 in
theorem interpSame_lifted (os : Os) (started : os.Started) (H : Type) (enc : TypeId × Value → H) :
    ReturnsInHanded {} Try.checked os 9 .any (Rows.interpSameSpec.pre6 enc Try.prog Try.f9 Rows.interpSameRow.domain false) (Rows.interpSameSpec.post enc Try.prog Try.f9 false true false false) := by
  refine returnsInHanded_of_change (C := Try.checked) Try.own started (by kernel_rfl) Try.func9
    (ChangeSpec.witness6 (enc := enc) (C := Try.checked) false ⟨#[], #[.agg #[.int .i64 0, .int .i32 0, .slice none 0 0, .slice none 0 0, .int .i64 0], .agg #[.int .i64 0, .int .i32 0, .slice none 0 0, .slice none 0 0, .int .i64 0], .int .u8 0], []⟩ 8 (by kernel_rfl) (by kernel_rfl) (by kernel_rfl) (by kernel_rfl)) ?_
  intro W base args ds gs before hval0 hW hcnd _
  have hval : ∀ (j : Nat) t v, Try.f9.params[j]? = some t → args[j]? = some v → Value.okWide Try.prog W .any base t v := hval0
  have hW' := hW
  obtain ⟨p, q, hA0, hV, rfl, hfz, hnd⟩ := hW
  have hA : DataW.TrodAll enc Try.prog W 0 (fun _ => true) true Try.f9.params.toList args.toList ds p := hA0
  have hpar : Try.f9.params = #[26, 26, 5] := by kernel_rfl
  rw [hpar] at hA hval
  obtain ⟨v0, v1, v2, d0, d1, d2, p0, p1, p2, rfl, rfl, rfl, h0, h1, h2⟩ := trodAll_three hA
  obtain ⟨cs0, rfl⟩ := Opens.agg (by kernel_rfl : Try.prog.cellsOf 26 = 5) (by decide) rOutcome.opens (by decide) h0
  obtain ⟨m0, o0⟩ := Opens.argA rOutcome.opens h0
  obtain ⟨⟨c00, c01⟩, e0⟩ := sOutcome.op o0
  injection e0 with e0; subst e0
  obtain ⟨cs1, rfl⟩ := Opens.agg (by kernel_rfl : Try.prog.cellsOf 26 = 5) (by decide) rOutcome.opens (by decide) h1
  obtain ⟨m1, o1⟩ := Opens.argA rOutcome.opens h1
  obtain ⟨⟨c10, c11⟩, e1⟩ := sOutcome.op o1
  injection e1 with e1; subst e1
  obtain ⟨z2, e2, _, _, w2⟩ := open_int (by kernel_rfl : Try.prog.underlying 5 = some (.int .u8)) (hval 2 5 v2 rfl rfl) h2
  subst e2
  clear hA0 hval0 hcnd
  exact Ct.said Try.table (by kernel_rfl) rfl (by kernel_rfl) rfl rfl hW' (Tv.said (same_ct4 z2 (ww2 := Go.JE.wf_wrap w2)) (inH_heapF W) ⟨o0, o1, trivial⟩)
theorem interpSame_proved : Rows.InterpSameSaid :=
  OpenClaim.holds_of_wide 9 Try.f9 rfl rfl rfl rfl rfl rfl rfl ⟨rfl, rfl, rfl, rfl, rfl⟩ rfl rfl rfl rfl rfl (by kernel_rfl) Try.func9 (by kernel_rfl)
    (of_decide_eq_true (by kernel_rfl)) (by unfold Func.isWrapper; first | (rw [if_pos (by decide +kernel)]; kernel_rfl) | (rw [if_neg (by decide +kernel)]; exact ⟨rfl, rfl⟩))
    (fun os started H enc _ => interpSame_lifted os started H enc)
#print axioms interpSame_proved
end Go.Proofs.Ytmfkkodnghambaa
