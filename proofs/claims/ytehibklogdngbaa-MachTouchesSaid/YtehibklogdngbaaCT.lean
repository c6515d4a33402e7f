/- The statement MachTouches, from the contract of its function. Conditions: none; it is the given statement. -/
import Derived.Test.YtehibklogdngbaaWM
import Derived.Test.YtehibklogdngbaaJy
namespace Go.Proofs.Ytehibklogdngbaa
set_option linter.unusedVariables false
set_option linter.unusedSimpArgs false
open Go.JE Go.ChangeShapes Go.WideShapes Go.ChangeAt Go.RowKit

theorem Try.own : ownKnob Try.prog.godebug = none := by kernel_rfl
theorem Try.table : TableOk Try.prog := ⟨by kernel_rfl, by kernel_rfl, by kernel_rfl⟩

set_option maxRecDepth 100000 in
theorem machTouches_lifted (os : Os) (started : os.Started) (H : Type) (enc : TypeId × Value → H) :
    ReturnsInHanded {} Try.checked os 4 .any (Rows.machTouchesSpec.pre6 enc Try.prog Try.f4 Rows.machTouchesRow.domain false) (Rows.machTouchesSpec.post enc Try.prog Try.f4 false true false false) := by
  refine returnsInHanded_of_change (C := Try.checked) Try.own started (by kernel_rfl) Try.func4
    (ChangeSpec.witness6 (enc := enc) (C := Try.checked) false ⟨#[], #[.agg #[.int .i64 0, .int .i64 0, .int .i64 0, .int .i64 0, .int .i64 0, .int .i64 0, .int .i32 0, .slice none 0 0], .agg #[.int .i32 0, .int .i32 0, .int .i32 0, .int .i32 0, .int .i32 0, .int .i32 0, .int .i32 0, .int .i32 0, .int .i32 0, .int .i32 0, .int .i32 0, .int .i32 0, .int .i32 0, .int .i32 0, .int .i32 0, .int .i32 0, .int .i32 0, .int .i32 0, .int .i32 0, .int .i32 0, .int .i32 0, .int .i32 0, .int .i32 0, .int .i32 0, .int .i32 0, .int .i32 0, .int .i32 0, .int .i32 0, .int .i32 0, .int .i32 0, .int .i32 0, .int .i32 0], .slice none 0 0], []⟩ 8 (by kernel_rfl) (by kernel_rfl) (by kernel_rfl) (by kernel_rfl)) ?_
  intro W base args ds gs before hval0 hW hcnd _
  have hval : ∀ (j : Nat) t v, Try.f4.params[j]? = some t → args[j]? = some v → Value.okWide Try.prog W .any base t v := hval0
  have hW' := hW
  obtain ⟨p, q, hA0, hV, rfl, hfz, hnd⟩ := hW
  have hA : DataW.TrodAll enc Try.prog W 0 (fun _ => true) true Try.f4.params.toList args.toList ds p := hA0
  have hpar : Try.f4.params = #[40, 42, 25] := by kernel_rfl
  rw [hpar] at hA hval
  obtain ⟨v0, v1, v2, d0, d1, d2, p0, p1, p2, rfl, rfl, rfl, h0, h1, h2⟩ := trodAll_three hA
  obtain ⟨cs0, rfl⟩ := Opens.agg (by kernel_rfl : Try.prog.cellsOf 40 = 8) (by decide) rMach.opens (by decide) h0
  obtain ⟨m0, o0⟩ := Opens.argA rMach.opens h0
  obtain ⟨cs1, rfl⟩ := Opens.agg (by kernel_rfl : Try.prog.cellsOf 42 = 32) (by decide) (Opens.array Try.underlying42 (Opens.array Try.underlying41 (Opens.int Try.underlying21) (by kernel_rfl) (by kernel_rfl)) (by kernel_rfl) (by kernel_rfl)) (by decide) h1
  obtain ⟨m1, o1⟩ := Opens.argA (Opens.array Try.underlying42 (Opens.array Try.underlying41 (Opens.int Try.underlying21) (by kernel_rfl) (by kernel_rfl)) (by kernel_rfl) (by kernel_rfl)) h1
  obtain ⟨a2, l2, c2, rfl⟩ := okWide_slice (by kernel_rfl : Try.prog.underlying 25 = some (.slice 21)) (hval 2 25 v2 rfl rfl)
  obtain ⟨m2, o2⟩ := Opens.arg1 (Opens.slice Try.underlying25 (Opens.int Try.underlying21) (by kernel_rfl) (by decide)) rfl rfl h2
  clear hA0 hval0 hcnd
  exact Ct.said Try.table (by kernel_rfl) rfl (by kernel_rfl) rfl rfl hW' (machTouches_ct (inH_heapF W) o0 o1 o2)

theorem machTouches_proved : Rows.MachTouchesSaid :=
  OpenClaim.holds_of_wide 4 Try.f4 rfl rfl rfl rfl rfl rfl rfl ⟨rfl, rfl, rfl, rfl, rfl⟩ rfl rfl rfl rfl rfl (by kernel_rfl) Try.func4 (by kernel_rfl)
    (of_decide_eq_true (by kernel_rfl)) (by unfold Func.isWrapper; first | (rw [if_pos (by decide +kernel)]; kernel_rfl) | (rw [if_neg (by decide +kernel)]; exact ⟨rfl, rfl⟩))
    (fun os started H enc _ => machTouches_lifted os started H enc)
#print axioms machTouches_proved
end Go.Proofs.Ytehibklogdngbaa
