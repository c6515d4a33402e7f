/- The statement MachInterp, from the contract of its function. Conditions: none; it is the given statement. -/
import Derived.Test.YtmfkkodnghambaaGreatKK7
import Derived.Test.YtmfkkodnghambaaGreatKK0
set_option linter.unusedSectionVars false
set_option linter.unusedSimpArgs false
set_option linter.unusedVariables false
namespace Go.Proofs.YtmfkkodnghambaaGreat
open Go.JE Go.ChangeShapes Go.WideShapes Go.ChangeAt Go.RowKit
theorem Tryz.own : ownKnob Tryz.prog.godebug = none := by kernel_rfl
theorem Tryz.table : TableOk Tryz.prog := ⟨by kernel_rfl, by kernel_rfl, by kernel_rfl⟩
theorem Tv.said {P : Program} {f : FuncId} {args : Array Value} {D0 : List Dt} {F : PH} {H : Heap} (h : Tv P f args D0 [] (.bool true)) (hin : InH F H) (hd : AllD F D0) : Ct P f args H (fun v H' => v = .bool true ∧ Kp H.size H H') :=
  (h F H hin hd trivial).mono fun v H' ⟨i, F', h1, h2⟩ => ⟨h1, (h2 0 (Nat.zero_le _)).hw.1, fun k hk => (h2 0 (Nat.zero_le _)).hw.2 k hk id⟩
set_option maxRecDepth 100000 in
theorem machInterp_lifted (os : Os) (started : os.Started) (H : Type) (enc : TypeId × Value → H) :
    ReturnsInHanded {} Tryz.checked os 8 .any (Rows.machInterpSpec.pre6 enc Tryz.prog Tryz.f8 Rows.machInterpRow.domain false) (Rows.machInterpSpec.post enc Tryz.prog Tryz.f8 false true false false) := by
  refine returnsInHanded_of_change (C := Tryz.checked) Tryz.own started (by kernel_rfl) Tryz.func8
    (ChangeSpec.witness6 (enc := enc) (C := Tryz.checked) false ⟨#[], #[.slice none 0 0, .slice none 0 0, .slice none 0 0], []⟩ 8 (by kernel_rfl) (by kernel_rfl) (by kernel_rfl) (by kernel_rfl)) ?_
  intro W base args ds gs before hval0 hW hcnd _
  have hval : ∀ (j : Nat) t v, Tryz.f8.params[j]? = some t → args[j]? = some v → Value.okWide Tryz.prog W .any base t v := hval0
  have hW' := hW
  obtain ⟨p, q, hA0, hV, rfl, hfz, hnd⟩ := hW
  have hA : DataW.TrodAll enc Tryz.prog W 0 (fun _ => true) true Tryz.f8.params.toList args.toList ds p := hA0
  have hpar : Tryz.f8.params = #[22, 22, 22] := by kernel_rfl
  rw [hpar] at hA hval
  obtain ⟨v0, v1, v2, d0, d1, d2, p0, p1, p2, rfl, rfl, rfl, h0, h1, h2⟩ := trodAll_three hA
  obtain ⟨a0, l0, c0, rfl⟩ := okWide_slice (by kernel_rfl : Tryz.prog.underlying 22 = some (.slice 3)) (hval 0 22 v0 rfl rfl)
  obtain ⟨m0, o0⟩ := Opens.arg1 (Opens.slice Tryz.underlying22 (Opens.int Tryz.underlying3) (by kernel_rfl) (by decide)) rfl rfl h0
  obtain ⟨a1, l1, c1, rfl⟩ := okWide_slice (by kernel_rfl : Tryz.prog.underlying 22 = some (.slice 3)) (hval 1 22 v1 rfl rfl)
  obtain ⟨m1, o1⟩ := Opens.arg1 (Opens.slice Tryz.underlying22 (Opens.int Tryz.underlying3) (by kernel_rfl) (by decide)) rfl rfl h1
  obtain ⟨a2, l2, c2, rfl⟩ := okWide_slice (by kernel_rfl : Tryz.prog.underlying 22 = some (.slice 3)) (hval 2 22 v2 rfl rfl)
  obtain ⟨m2, o2⟩ := Opens.arg1 (Opens.slice Tryz.underlying22 (Opens.int Tryz.underlying3) (by kernel_rfl) (by decide)) rfl rfl h2
  clear hA0 hval0 hcnd
  exact Ct.said Tryz.table (by kernel_rfl) rfl (by kernel_rfl) rfl rfl hW' (Tv.said (machInterp_ct ) (inH_heapF W) ⟨o0, o1, o2, trivial⟩)
theorem machInterp_proved : Rows.MachInterpSaid :=
  OpenClaim.holds_of_wide 8 Tryz.f8 rfl rfl rfl rfl rfl rfl rfl ⟨rfl, rfl, rfl, rfl, rfl⟩ rfl rfl rfl rfl rfl (by kernel_rfl) Tryz.func8 (by kernel_rfl)
    (of_decide_eq_true (by kernel_rfl)) (by unfold Func.isWrapper; first | (rw [if_pos (by decide +kernel)]; kernel_rfl) | (rw [if_neg (by decide +kernel)]; exact ⟨rfl, rfl⟩))
    (fun os started H enc _ => machInterp_lifted os started H enc)
#print axioms machInterp_proved
end Go.Proofs.YtmfkkodnghambaaGreat
