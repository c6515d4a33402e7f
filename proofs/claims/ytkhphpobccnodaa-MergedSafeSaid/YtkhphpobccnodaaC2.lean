/- The statement on classes told, from the law's contract. Conditions: none; it is the given statement. -/
import Derived.Test.YtkhphpobccnodaaWA
import Derived.Test.YtkhphpobccnodaaC1
namespace Go.Proofs.Ytkhphpobccnodaa
open Go.JE Go.ChangeShapes Go.WideShapes Go.ChangeAt Go.RowKit

theorem open_arr38 {H : Type} {enc : TypeId × Value → H} {W : World} {held : Bool} {n : Nat} {x1 x2 : Value} {y : DataW H × List MemPlace} (h : DataW.trod enc Try.prog W 0 (fun _ => true) held n 38 [x1, x2] = some y) :
    (∃ l, Ns W.heap W.heap.size x1 l) ∧ ∃ l, Ns W.heap W.heap.size x2 l := by
  have hc : Try.prog.cellsOf 22 = 1 := by kernel_rfl
  obtain ⟨xs, m, _, _, hl, hx, hel⟩ := DataW.trod_array Try.underlying38 h
  rw [hc] at hel
  have h0 := hel 0 (by omega)
  have h1 := hel 1 (by omega)
  rw [List.getElem?_eq_getElem (by omega)] at h0 h1
  simp at h0 h1
  obtain ⟨l0, g0, _⟩ := open_sl Try.underlying22 Try.underlying3 (by kernel_rfl) h0
  obtain ⟨l1, g1, _⟩ := open_sl Try.underlying22 Try.underlying3 (by kernel_rfl) h1
  exact ⟨⟨l0, g0⟩, ⟨l1, g1⟩⟩
theorem open_asked {H : Type} {enc : TypeId × Value → H} {W : World} {base : Nat} {v : Value} {d : DataW H} {p : List MemPlace} (hv : Value.okWide Try.prog W .any base 40 v) (h : DataW.Trod enc Try.prog W 0 (fun _ => true) true 40 v d p) :
    ∃ (N k : Int) (s0 s1 vq : Value) (l0 l1 : List Int) (es : List (Int × Int)), v = .agg #[.int .i64 N, s0, s1, vq, .int .i64 k] ∧ Ns W.heap W.heap.size s0 l0 ∧ Ns W.heap W.heap.size s1 l1 ∧ Ps W.heap W.heap.size vq es := by
  obtain ⟨cs, rfl, hsz⟩ := okWide_struct Try.underlying40 hv
  have hsz2 : cs.size = 5 := hsz.trans (by kernel_rfl)
  obtain ⟨c⟩ := cs
  match c, hsz2 with
  | [x0, x1, x2, x3, x4], _ =>
    obtain ⟨fuel, hf⟩ := h
    obtain ⟨xs, n, _, _, _, hx, hel⟩ := DataW.trod_struct Try.underlying40 hf
    have hc3 : Try.prog.cellsOf 3 = 1 := by kernel_rfl
    have hc38 : Try.prog.cellsOf 38 = 2 := by kernel_rfl
    have hc23 : Try.prog.cellsOf 23 = 1 := by kernel_rfl
    have hx4 : xs.length = 4 := hx
    have h0 : DataW.trod enc Try.prog W 0 (fun _ => true) true n 3 (([x0, x1, x2, x3, x4].drop 0).take (Try.prog.cellsOf 3)) = _ := hel 0 _ rfl
    rw [List.getElem?_eq_getElem (by omega), hc3] at h0
    simp only [List.drop, List.take] at h0
    have h1 : DataW.trod enc Try.prog W 0 (fun _ => true) true n 38 (([x0, x1, x2, x3, x4].drop 1).take (Try.prog.cellsOf 38)) = _ := hel 1 _ rfl
    rw [List.getElem?_eq_getElem (by omega), hc38] at h1
    simp only [List.drop, List.take] at h1
    have h2 : DataW.trod enc Try.prog W 0 (fun _ => true) true n 23 (([x0, x1, x2, x3, x4].drop 3).take (Try.prog.cellsOf 23)) = _ := hel 2 _ rfl
    rw [List.getElem?_eq_getElem (by omega), hc23] at h2
    simp only [List.drop, List.take] at h2
    have h3 : DataW.trod enc Try.prog W 0 (fun _ => true) true n 3 (([x0, x1, x2, x3, x4].drop 4).take (Try.prog.cellsOf 3)) = _ := hel 3 _ rfl
    rw [List.getElem?_eq_getElem (by omega), hc3] at h3
    simp only [List.drop, List.take] at h3
    obtain ⟨N, e0, _⟩ := DataW.trod_int Try.underlying3 h0
    obtain ⟨k, e3, _⟩ := DataW.trod_int Try.underlying3 h3
    simp at e0 e3
    subst e0 e3
    obtain ⟨⟨l0, g0⟩, l1, g1⟩ := open_arr38 (x1 := x1) (x2 := x2) h1
    obtain ⟨es, g2⟩ := open_ps (v := x3) h2
    exact ⟨N, k, x1, x2, x3, l0, l1, es, rfl, g0, g1, g2⟩

set_option maxRecDepth 100000 in
theorem mergedTell_lifted (os : Os) (started : os.Started) (H : Type) (enc : TypeId × Value → H) :
    ReturnsInHanded {} Try.checked os 5 .any (Rows.mergedTellSpec.pre6 enc Try.prog Try.f5 Rows.mergedTellRow.domain false) (Rows.mergedTellSpec.post enc Try.prog Try.f5 false true false false) := by
  refine returnsInHanded_of_change (C := Try.checked) Try.own started (by kernel_rfl) Try.func5
    (ChangeSpec.witness6 (enc := enc) (C := Try.checked) false ⟨#[], #[.agg #[.int .i64 0, .slice none 0 0, .slice none 0 0, .slice none 0 0, .int .i64 0]], []⟩ 8 (by kernel_rfl) (by kernel_rfl) (by kernel_rfl) (by kernel_rfl)) ?_
  intro W base args ds gs before hval0 hW hcnd _
  have hval : ∀ (j : Nat) t v, Try.f5.params[j]? = some t → args[j]? = some v → Value.okWide Try.prog W .any base t v := hval0
  have hW' := hW
  obtain ⟨p, q, hA0, hV, rfl, hfz, hnd⟩ := hW
  have hA : DataW.TrodAll enc Try.prog W 0 (fun _ => true) true Try.f5.params.toList args.toList ds p := hA0
  rw [Try.params5] at hA hval
  obtain ⟨v0, d0, rfl, rfl, h0⟩ := trodAll_one hA
  obtain ⟨N, k, s0, s1, vq, l0, l1, es, rfl, g0, g1, g2⟩ := open_asked (hval 0 40 v0 rfl rfl) h0
  clear hA0 hval0 hcnd
  exact Ct.said Try.table (by kernel_rfl) rfl Try.underlying4 rfl rfl hW' (mergedTell_ct N k g0 g1 g2)

theorem mergedTell_proved : Rows.MergedTellSaid :=
  OpenClaim.holds_of_wide 5 Try.f5 rfl rfl rfl rfl rfl rfl rfl ⟨rfl, rfl, rfl, rfl, rfl⟩ rfl rfl rfl rfl rfl (by kernel_rfl) Try.func5 (by kernel_rfl)
    (of_decide_eq_true (by kernel_rfl)) (by unfold Func.isWrapper; first | (rw [if_pos (by decide +kernel)]; kernel_rfl) | (rw [if_neg (by decide +kernel)]; exact ⟨rfl, rfl⟩))
    (fun os started H enc _ => mergedTell_lifted os started H enc)
#print axioms mergedTell_proved
end Go.Proofs.Ytkhphpobccnodaa
