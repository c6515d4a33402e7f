/- Circles of moves, by a map. -/
import Derived.Test.YtcceglmmpbdhiaaM9
namespace Go.Proofs.Ytcceglmmpbdhiaa
set_option linter.unusedVariables false
set_option linter.unusedSimpArgs false
set_option linter.unusedSectionVars false
set_option maxRecDepth 8000
open Go.JE


theorem enc_all {l : List D.Move} {k : Nat} (hk : k < l.length) (hn : (keysM l).Nodup) : upM (encM (l.take k)) (ix l k).To (.int .i64 (ix l k).From) = encM (l.take (k + 1)) := by
  rw [upM_new]
  · rw [take_ix hk]; simp [encM]
  · rw [encM_keys]
    intro h
    obtain ⟨m, hm, e⟩ := List.mem_map.1 h
    have e' : m.To = (ix l k).To := e
    have hn' : (keysM (l.take (k + 1))).Nodup := hn.sublist ((List.take_sublist _ _).map _)
    rw [take_ix hk] at hn'
    unfold keysM at hn'
    rw [List.map_append, List.nodup_append] at hn'
    exact hn'.2.2 m.To (List.mem_map_of_mem hm) (ix l k).To (by simp) e'
theorem lk_src {l : List D.Move} (hok : okM l = true) (hn : (keysM l).Nodup) (p : Int) : (lkM (encM l) p).getD (.int .i64 0) = .int .i64 (vaT (srcM l p)) ∧ (lkM (encM l) p).isSome = isT (srcM l p) := by
  have e : lkM (encM l) p = (l.find? (fun m => m.To == p)).map fun m => Value.int .i64 m.From := by
    unfold lkM encM
    rw [List.find?_map]
    have : ((fun q : Int × Value => q.1 == p) ∘ fun m : D.Move => (m.To, Value.int .i64 m.From)) = fun m => m.To == p := rfl
    rw [this]
    cases l.find? (fun m => m.To == p) <;> rfl
  rw [e]
  cases h : l.find? (fun m => m.To == p) with
  | none =>
    rw [List.find?_eq_none] at h
    have : srcM l p = -1 := src_out fun m hm e9 => h m hm (by simpa using e9)
    rw [this]; exact ⟨rfl, rfl⟩
  | some m =>
    have hm := List.mem_of_find?_eq_some h
    have he : m.To = p := by simpa using List.find?_some h
    have := (okM_mem hok hm).2
    have e2 : srcM l p = m.From := by rw [← he]; exact src_eq hn hm
    rw [e2]
    unfold vaT isT
    rw [if_neg (by omega), decide_eq_true (by omega)]; exact ⟨rfl, rfl⟩
theorem look_src {P : Program} {e : Env} {H : Heap} {T K E : TypeId} {x ix : Operand} {b : Nat} {l : List D.Move} {k : Int} (hT : P.underlying T = some (.map K E)) (hK : P.underlying K = some (.int .i64)) (hz : (P.info? E).bind (·.zero) = some (.int .i64 0))
    (hm : Im H b (encM l)) (hok : okM l = true) (hn : (keysM l).Nodup) (hx : ev e x = some (.map (some b))) (hi : ev e ix = some (.int .i64 k)) : OpOk P e (.lookup T x ix true) H (.tuple #[.int .i64 (vaT (srcM l k)), .bool (isT (srcM l k))]) := by
  have h := OpOk.lookupOk hT hK hz hm hx hi
  rw [(lk_src hok hn k).1, (lk_src hok hn k).2] at h
  exact h
theorem encM_len (l : List D.Move) : (encM l).length = l.length := by unfold encM; simp
theorem keyOk {mv : List D.Move} (h : okM mv = true) {k : Int} {v : Value} (hkv : (k, v) ∈ encM mv) : 0 ≤ k ∧ k < 16400 := by
  obtain ⟨m, hm, he⟩ := List.mem_map.1 hkv
  have := okM_mem h hm
  have e1 : m.To = k := congrArg Prod.fst he
  omega
theorem arGo_step2 {l : List D.Move} {x p : Int} {out : List Int} (hn : out.length ≤ l.length) (h : isT p = true ∧ x < vaT p) : arGo l x (l.length + 1 - out.length) out p = arGo l x (l.length + 1 - (out ++ [p]).length) (out ++ [p]) (srcM l p) :=
  arGo_step hn ⟨⟨h.1, by omega⟩, h.2⟩
theorem va_id2 {p : Int} (h : isT p = true) : vaT p = p := by
  have h0 : 0 ≤ p := by simpa [isT] using h
  unfold vaT; rw [if_neg (by omega)]
theorem arGo_end2 {l : List D.Move} {x p : Int} {out : List Int} (hx : 0 ≤ x) (h : (isT p = false ∨ ¬ x < vaT p) ∨ ¬ (out.length : Int) ≤ (encM l).length) : arGo l x (l.length + 1 - out.length) out p = if p = x then out else [] := by
  rw [encM_len] at h
  refine arGo_end hx ?_
  rintro ⟨⟨⟨h1, h2⟩, h3⟩, h4⟩
  rcases h with (h | h) | h
  · rw [h1] at h; cases h
  · exact h h3
  · omega
theorem circ_yes {l : List D.Move} {x p : Int} {out : List Int} (hR : aroundM l x = if p = x then out else []) (h : (isT p = true ∧ vaT p = x) ∧ 1 < (out.length : Int)) : aroundM l x = out ∧ 1 < (aroundM l x).length := by
  have e : p = x := by rw [← va_id2 h.1.1]; exact h.1.2
  rw [hR, if_pos e]; exact ⟨rfl, by omega⟩
theorem circ_not {l : List D.Move} {x p : Int} {out : List Int} (hx : 0 ≤ x) (hR : aroundM l x = if p = x then out else []) (h : (isT p = false ∨ ¬ vaT p = x) ∨ ¬ 1 < (out.length : Int)) : ¬ 1 < (aroundM l x).length := by
  rw [hR]
  split
  · rename_i e
    rcases h with h | h
    · exact absurd e ((va_eq hx).1 h)
    · omega
  · simp

end Go.Proofs.Ytcceglmmpbdhiaa
