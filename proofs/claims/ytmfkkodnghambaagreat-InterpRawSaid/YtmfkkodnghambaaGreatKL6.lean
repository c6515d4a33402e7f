/- The statement InterpRaw, from the contract of its function. Conditions: none; it is the given statement. -/
import Derived.Test.YtmfkkodnghambaaGreatKL5
import Derived.Test.YtmfkkodnghambaaGreatKL0
set_option linter.unusedSectionVars false
set_option linter.unusedSimpArgs false
set_option linter.unusedVariables false
namespace Go.Proofs.YtmfkkodnghambaaGreat
open Go.JE Go.ChangeShapes Go.WideShapes Go.ChangeAt Go.RowKit
theorem Tryz.own : ownKnob Tryz.prog.godebug = none := by kernel_rfl
theorem Tryz.table : TableOk Tryz.prog := ⟨by kernel_rfl, by kernel_rfl, by kernel_rfl⟩
theorem Tv.said {P : Program} {f : FuncId} {args : Array Value} {D0 : List Dt} {F : PH} {H : Heap} (h : Tv P f args D0 [] (.bool true)) (hin : InH F H) (hd : AllD F D0) : Ct P f args H (fun v H' => v = .bool true ∧ Kp H.size H H') :=
  (h F H hin hd trivial).mono fun v H' ⟨i, F', h1, h2⟩ => ⟨h1, (h2 0 (Nat.zero_le _)).hw.1, fun k hk => (h2 0 (Nat.zero_le _)).hw.2 k hk id⟩
set_option maxRecDepth 100000 in
theorem interpRaw_lifted (os : Os) (started : os.Started) (H : Type) (enc : TypeId × Value → H) :
    ReturnsInHanded {} Tryz.checked os 5 .any (Rows.interpRawSpec.pre6 enc Tryz.prog Tryz.f5 Rows.interpRawRow.domain false) (Rows.interpRawSpec.post enc Tryz.prog Tryz.f5 false true false false) := by
  refine returnsInHanded_of_change (C := Tryz.checked) Tryz.own started (by kernel_rfl) Tryz.func5
    (ChangeSpec.witness6 (enc := enc) (C := Tryz.checked) false ⟨#[], #[.agg #[.int .i64 0, .slice none 0 0], .agg #[.slice none 0 0, .slice none 0 0, .slice none 0 0, .int .i64 0]], []⟩ 8 (by kernel_rfl) (by kernel_rfl) (by kernel_rfl) (by kernel_rfl)) ?_
  intro W base args ds gs before hval0 hW hcnd _
  have hval : ∀ (j : Nat) t v, Tryz.f5.params[j]? = some t → args[j]? = some v → Value.okWide Tryz.prog W .any base t v := hval0
  have hW' := hW
  obtain ⟨p, q, hA0, hV, rfl, hfz, hnd⟩ := hW
  have hA : DataW.TrodAll enc Tryz.prog W 0 (fun _ => true) true Tryz.f5.params.toList args.toList ds p := hA0
  have hpar : Tryz.f5.params = #[49, 31] := by kernel_rfl
  rw [hpar] at hA hval
  obtain ⟨v0, v1, d0, d1, p0, p1, rfl, rfl, rfl, h0, h1⟩ := trodAll_two hA
  obtain ⟨cs0, rfl⟩ := Opens.agg (by kernel_rfl : Tryz.prog.cellsOf 49 = 2) (by decide) rFunc.opens (by decide) h0
  obtain ⟨m0, o0⟩ := Opens.argA rFunc.opens h0
  obtain ⟨c0, e0⟩ := sFunc.op o0
  injection e0 with e0; subst e0
  obtain ⟨cs1, rfl⟩ := Opens.agg (by kernel_rfl : Tryz.prog.cellsOf 31 = 4) (by decide) rInput.opens (by decide) h1
  obtain ⟨m1, o1⟩ := Opens.argA rInput.opens h1
  obtain ⟨⟨c10, c11, c12⟩, e1⟩ := sInput.op o1
  injection e1 with e1; subst e1
  clear hA0 hval0 hcnd
  exact Ct.said Tryz.table (by kernel_rfl) rfl (by kernel_rfl) rfl rfl hW' (Tv.said (interpRaw_ct ) (inH_heapF W) ⟨o0, o1, trivial⟩)
theorem interpRaw_proved : Rows.InterpRawSaid :=
  OpenClaim.holds_of_wide 5 Tryz.f5 rfl rfl rfl rfl rfl rfl rfl ⟨rfl, rfl, rfl, rfl, rfl⟩ rfl rfl rfl rfl rfl (by kernel_rfl) Tryz.func5 (by kernel_rfl)
    (of_decide_eq_true (by kernel_rfl)) (by unfold Func.isWrapper; first | (rw [if_pos (by decide +kernel)]; kernel_rfl) | (rw [if_neg (by decide +kernel)]; exact ⟨rfl, rfl⟩))
    (fun os started H enc _ => interpRaw_lifted os started H enc)
#print axioms interpRaw_proved
end Go.Proofs.YtmfkkodnghambaaGreat
