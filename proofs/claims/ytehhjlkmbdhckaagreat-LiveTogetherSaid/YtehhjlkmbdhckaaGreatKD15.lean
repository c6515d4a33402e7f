/- The statement LiveTogether, from the contract of its function. Conditions: none; it is the given statement. -/
import Derived.Test.YtehhjlkmbdhckaaGreatKD14
import Derived.Test.YtehhjlkmbdhckaaGreatKD1
set_option linter.unusedSectionVars false
set_option linter.unusedSimpArgs false
set_option linter.unusedVariables false
namespace Go.Proofs.YtehhjlkmbdhckaaGreat
open Go.JE Go.ChangeShapes Go.WideShapes Go.ChangeAt Go.RowKit
theorem Tryz.own : ownKnob Tryz.prog.godebug = none := by kernel_rfl
theorem Tryz.table : TableOk Tryz.prog := ⟨by kernel_rfl, by kernel_rfl, by kernel_rfl⟩
theorem Tv.said {P : Program} {f : FuncId} {args : Array Value} {D0 : List Dt} {F : PH} {H : Heap} (h : Tv P f args D0 [] (.bool true)) (hin : InH F H) (hd : AllD F D0) : Ct P f args H (fun v H' => v = .bool true ∧ Kp H.size H H') :=
  (h F H hin hd trivial).mono fun v H' ⟨i, F', h1, h2⟩ => ⟨h1, (h2 0 (Nat.zero_le _)).hw.1, fun k hk => (h2 0 (Nat.zero_le _)).hw.2 k hk id⟩
set_option maxRecDepth 100000 in
theorem liveTogether_lifted (os : Os) (started : os.Started) (H : Type) (enc : TypeId × Value → H) :
    ReturnsInHanded {} Tryz.checked os 4 .any (Rows.liveTogetherSpec.pre6 enc Tryz.prog Tryz.f4 Rows.liveTogetherRow.domain false) (Rows.liveTogetherSpec.post enc Tryz.prog Tryz.f4 false true false false) := by
  refine returnsInHanded_of_change (C := Tryz.checked) Tryz.own started (by kernel_rfl) Tryz.func4
    (ChangeSpec.witness6 (enc := enc) (C := Tryz.checked) false ⟨#[], #[.slice none 0 0, .int .i64 0, .int .i64 0], []⟩ 8 (by kernel_rfl) (by kernel_rfl) (by kernel_rfl) (by kernel_rfl)) ?_
  intro W base args ds gs before hval0 hW hcnd _
  have hval : ∀ (j : Nat) t v, Tryz.f4.params[j]? = some t → args[j]? = some v → Value.okWide Tryz.prog W .any base t v := hval0
  have hW' := hW
  obtain ⟨p, q, hA0, hV, rfl, hfz, hnd⟩ := hW
  have hA : DataW.TrodAll enc Tryz.prog W 0 (fun _ => true) true Tryz.f4.params.toList args.toList ds p := hA0
  have hpar : Tryz.f4.params = #[22, 3, 3] := by kernel_rfl
  rw [hpar] at hA hval
  obtain ⟨v0, v1, v2, d0, d1, d2, p0, p1, p2, rfl, rfl, rfl, h0, h1, h2⟩ := trodAll_three hA
  obtain ⟨a0, l0, c0, rfl⟩ := okWide_slice (by kernel_rfl : Tryz.prog.underlying 22 = some (.slice 3)) (hval 0 22 v0 rfl rfl)
  obtain ⟨m0, o0⟩ := Opens.arg1 (Opens.slice Tryz.underlying22 (Opens.int Tryz.underlying3) (by kernel_rfl) (by decide)) rfl rfl h0
  obtain ⟨z1, e1, _, _, w1⟩ := open_int (by kernel_rfl : Tryz.prog.underlying 3 = some (.int .i64)) (hval 1 3 v1 rfl rfl) h1
  subst e1
  obtain ⟨z2, e2, _, _, w2⟩ := open_int (by kernel_rfl : Tryz.prog.underlying 3 = some (.int .i64)) (hval 2 3 v2 rfl rfl) h2
  subst e2
  clear hA0 hval0 hcnd
  exact Ct.said Tryz.table (by kernel_rfl) rfl (by kernel_rfl) rfl rfl hW' (Tv.said (liveTogether_ct z1 z2) (inH_heapF W) ⟨o0, trivial⟩)
theorem liveTogether_proved : Rows.LiveTogetherSaid :=
  OpenClaim.holds_of_wide 4 Tryz.f4 rfl rfl rfl rfl rfl rfl rfl ⟨rfl, rfl, rfl, rfl, rfl⟩ rfl rfl rfl rfl rfl (by kernel_rfl) Tryz.func4 (by kernel_rfl)
    (of_decide_eq_true (by kernel_rfl)) (by unfold Func.isWrapper; first | (rw [if_pos (by decide +kernel)]; kernel_rfl) | (rw [if_neg (by decide +kernel)]; exact ⟨rfl, rfl⟩))
    (fun os started H enc _ => liveTogether_lifted os started H enc)
#print axioms liveTogether_proved
end Go.Proofs.YtehhjlkmbdhckaaGreat
