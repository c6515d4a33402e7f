/- The statement on colours told, from the law's contract. Conditions: none; it is the given statement. -/
import Derived.Test.YtkhphpobccnodaaW9
import Derived.Test.YtkhphpobccnodaaJt
import Derived.Test.YtkhphpobccnodaaRows
namespace Go.Proofs.Ytkhphpobccnodaa
open Go.JE Go.ChangeShapes Go.WideShapes Go.ChangeAt Go.RowKit

theorem Try.own : ownKnob Try.prog.godebug = none := by kernel_rfl
theorem Try.table : TableOk Try.prog := ⟨by kernel_rfl, by kernel_rfl, by kernel_rfl⟩
theorem open_pair44 {H : Type} {enc : TypeId × Value → H} {W : World} {held : Bool} (n : Nat) (cs : List Value) (y : DataW H × List MemPlace) (h : DataW.trod enc Try.prog W 0 (fun _ => true) held n 44 cs = some y) : ∃ zs : List Int, cs = zs.map (Value.int .i64) ∧ zs.length = 2 := by
  have hc3 : Try.prog.cellsOf 3 = 1 := by kernel_rfl
  obtain ⟨xs, m, _, _, hl, hx, hel⟩ := DataW.trod_array Try.underlying44 h
  rw [hc3] at hel
  have hl2 : cs.length = 2 := hl.trans (by kernel_rfl)
  match cs, hl2 with
  | [c0, c1], _ =>
    have h0 := hel 0 (by omega)
    have h1 := hel 1 (by omega)
    rw [List.getElem?_eq_getElem (by omega)] at h0 h1
    obtain ⟨n0, e0, _⟩ := DataW.trod_int Try.underlying3 h0
    obtain ⟨n1, e1, _⟩ := DataW.trod_int Try.underlying3 h1
    simp at e0 e1
    exact ⟨[n0, n1], by simp [e0, e1], rfl⟩
theorem open_ps {H : Type} {enc : TypeId × Value → H} {W : World} {held : Bool} {fuel : Nat} {v : Value} {x : DataW H × List MemPlace} (h : DataW.trod enc Try.prog W 0 (fun _ => true) held fuel 23 [v] = some x) : ∃ l, Ps W.heap W.heap.size v l := by
  obtain ⟨n, f, h1⟩ := open_slA (s := 2) Try.underlying23 (by kernel_rfl) (by omega) open_pair44 h
  refine ⟨(List.range n).map (fun i => (f (2 * i), f (2 * i + 1))), ?_⟩
  unfold Ps
  rw [show ((List.range n).map (fun i => (f (2 * i), f (2 * i + 1)))).length = n by simp]
  refine h1.congr (fun i hi => ?_)
  have h2 : i / 2 < n := by omega
  simp only [pcell, List.getD, List.getElem?_map, List.getElem?_range h2, Option.map_some, Option.getD_some]
  by_cases e1 : i % 2 = 0
  · rw [if_pos e1, show 2 * (i / 2) = i by omega]
  · rw [if_neg e1, show 2 * (i / 2) + 1 = i by omega]

set_option maxRecDepth 100000 in
theorem coloursTell_lifted (os : Os) (started : os.Started) (H : Type) (enc : TypeId × Value → H) :
    ReturnsInHanded {} Try.checked os 3 .any (Rows.coloursTellSpec.pre6 enc Try.prog Try.f3 Rows.coloursTellRow.domain false) (Rows.coloursTellSpec.post enc Try.prog Try.f3 false true false false) := by
  refine returnsInHanded_of_change (C := Try.checked) Try.own started (by kernel_rfl) Try.func3
    (ChangeSpec.witness6 (enc := enc) (C := Try.checked) false ⟨#[], #[.agg #[.int .i64 0, .slice none 0 0, .slice none 0 0, .int .i64 0]], []⟩ 8 (by kernel_rfl) (by kernel_rfl) (by kernel_rfl) (by kernel_rfl)) ?_
  intro W base args ds gs before hval0 hW hcnd _
  have hval : ∀ (j : Nat) t v, Try.f3.params[j]? = some t → args[j]? = some v → Value.okWide Try.prog W .any base t v := hval0
  have hW' := hW
  obtain ⟨p, q, hA0, hV, rfl, hfz, hnd⟩ := hW
  have hA : DataW.TrodAll enc Try.prog W 0 (fun _ => true) true Try.f3.params.toList args.toList ds p := hA0
  rw [Try.params3] at hA hval
  obtain ⟨v0, d0, rfl, rfl, h0⟩ := trodAll_one hA
  obtain ⟨x0, x1, x2, x3, y0, y1, y2, y3, n, rfl, _, _, t0, t1, t2, t3⟩ := Go.Joins.open_agg4 Try.underlying25 (by kernel_rfl) (by kernel_rfl) (hval 0 25 v0 rfl rfl) h0
  obtain ⟨N, e0, _⟩ := DataW.trod_int Try.underlying3 t0
  obtain ⟨k, e3, _⟩ := DataW.trod_int Try.underlying3 t3
  obtain ⟨l, hl, _⟩ := open_sl Try.underlying22 Try.underlying3 (by kernel_rfl) t1
  obtain ⟨es, hes⟩ := open_ps t2
  injection e0 with e0 _
  injection e3 with e3 _
  subst e0 e3
  clear hA0 hval0 hcnd
  exact Ct.said Try.table (by kernel_rfl) rfl Try.underlying4 rfl rfl hW' (coloursTell_ct N k hl hes)

theorem coloursTell_proved : Rows.ColoursTellSaid :=
  OpenClaim.holds_of_wide 3 Try.f3 rfl rfl rfl rfl rfl rfl rfl ⟨rfl, rfl, rfl, rfl, rfl⟩ rfl rfl rfl rfl rfl (by kernel_rfl) Try.func3 (by kernel_rfl)
    (of_decide_eq_true (by kernel_rfl)) (by unfold Func.isWrapper; first | (rw [if_pos (by decide +kernel)]; kernel_rfl) | (rw [if_neg (by decide +kernel)]; exact ⟨rfl, rfl⟩))
    (fun os started H enc _ => coloursTell_lifted os started H enc)
#print axioms coloursTell_proved
end Go.Proofs.Ytkhphpobccnodaa
