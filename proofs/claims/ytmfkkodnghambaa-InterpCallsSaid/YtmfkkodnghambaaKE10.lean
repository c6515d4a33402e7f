/- The statement InterpCalls, from the contract of its function. Conditions: none; it is the given statement. -/
import Derived.Test.YtmfkkodnghambaaKE9
import Derived.Test.YtmfkkodnghambaaKE1
set_option linter.unusedSectionVars false
set_option linter.unusedSimpArgs false
set_option linter.unusedVariables false
namespace Go.Proofs.Ytmfkkodnghambaa
open Go.JE Go.ChangeShapes Go.WideShapes Go.ChangeAt Go.RowKit
theorem Try.own : ownKnob Try.prog.godebug = none := by kernel_rfl
theorem Try.table : TableOk Try.prog := ⟨by kernel_rfl, by kernel_rfl, by kernel_rfl⟩
theorem Tv.said {P : Program} {f : FuncId} {args : Array Value} {D0 : List Dt} {F : PH} {H : Heap} (h : Tv P f args D0 [] (.bool true)) (hin : InH F H) (hd : AllD F D0) : Ct P f args H (fun v H' => v = .bool true ∧ Kp H.size H H') :=
  (h F H hin hd trivial).mono fun v H' ⟨i, F', h1, h2⟩ => ⟨h1, (h2 0 (Nat.zero_le _)).hw.1, fun k hk => (h2 0 (Nat.zero_le _)).hw.2 k hk id⟩
set_option maxRecDepth 100000 in
theorem interpCalls_lifted (os : Os) (started : os.Started) (H : Type) (enc : TypeId × Value → H) :
    ReturnsInHanded {} Try.checked os 8 .any (Rows.interpCallsSpec.pre6 enc Try.prog Try.f8 Rows.interpCallsRow.domain false) (Rows.interpCallsSpec.post enc Try.prog Try.f8 false true false false) := by
  refine returnsInHanded_of_change (C := Try.checked) Try.own started (by kernel_rfl) Try.func8
    (ChangeSpec.witness6 (enc := enc) (C := Try.checked) false ⟨#[], #[.int .u8 0, .slice none 0 0, .int .i32 0], []⟩ 8 (by kernel_rfl) (by kernel_rfl) (by kernel_rfl) (by kernel_rfl)) ?_
  intro W base args ds gs before hval0 hW hcnd _
  have hval : ∀ (j : Nat) t v, Try.f8.params[j]? = some t → args[j]? = some v → Value.okWide Try.prog W .any base t v := hval0
  have hW' := hW
  obtain ⟨p, q, hA0, hV, rfl, hfz, hnd⟩ := hW
  have hA : DataW.TrodAll enc Try.prog W 0 (fun _ => true) true Try.f8.params.toList args.toList ds p := hA0
  have hpar : Try.f8.params = #[5, 23, 21] := by kernel_rfl
  rw [hpar] at hA hval
  obtain ⟨v0, v1, v2, d0, d1, d2, p0, p1, p2, rfl, rfl, rfl, h0, h1, h2⟩ := trodAll_three hA
  obtain ⟨z0, e0, _, _, w0⟩ := open_int (by kernel_rfl : Try.prog.underlying 5 = some (.int .u8)) (hval 0 5 v0 rfl rfl) h0
  subst e0
  obtain ⟨a1, l1, c1, rfl⟩ := okWide_slice (by kernel_rfl : Try.prog.underlying 23 = some (.slice 21)) (hval 1 23 v1 rfl rfl)
  obtain ⟨m1, o1⟩ := Opens.arg1 (Opens.slice Try.underlying23 (Opens.int Try.underlying21) (by kernel_rfl) (by decide)) rfl rfl h1
  obtain ⟨z2, e2, _, _, w2⟩ := open_int (by kernel_rfl : Try.prog.underlying 21 = some (.int .i32)) (hval 2 21 v2 rfl rfl) h2
  subst e2
  clear hA0 hval0 hcnd
  exact Ct.said Try.table (by kernel_rfl) rfl (by kernel_rfl) rfl rfl hW' (Tv.said (calls_ct4 z0 (ww0 := Go.JE.wf_wrap w0) z2 (ww2 := Go.JE.wf_wrap w2)) (inH_heapF W) ⟨o1, trivial⟩)
theorem interpCalls_proved : Rows.InterpCallsSaid :=
  OpenClaim.holds_of_wide 8 Try.f8 rfl rfl rfl rfl rfl rfl rfl ⟨rfl, rfl, rfl, rfl, rfl⟩ rfl rfl rfl rfl rfl (by kernel_rfl) Try.func8 (by kernel_rfl)
    (of_decide_eq_true (by kernel_rfl)) (by unfold Func.isWrapper; first | (rw [if_pos (by decide +kernel)]; kernel_rfl) | (rw [if_neg (by decide +kernel)]; exact ⟨rfl, rfl⟩))
    (fun os started H enc _ => interpCalls_lifted os started H enc)
#print axioms interpCalls_proved
end Go.Proofs.Ytmfkkodnghambaa
