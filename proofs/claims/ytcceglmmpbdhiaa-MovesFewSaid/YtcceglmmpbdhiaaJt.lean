/- From a contract of the heap alone to a statement that the law returns true and its arguments read as before; arguments opened. Conditions: each rule names its own; lemmas over any program. -/
import Derived.Test.YtcceglmmpbdhiaaJr
import Derived.ReadAgain
import Derived.Handed
import Derived.Below
import Derived.OpenShut
import Derived.RowKit
import Derived.ProofKit
import Derived.JoinedCond
import Derived.Lib.SmallJoins
import Derived.Deep.Slices
namespace Go.JE
set_option linter.unusedVariables false
set_option linter.unusedSimpArgs false
set_option linter.unusedSectionVars false
open Go.ChangeShapes Go.RowKit
variable {P : Program} {H : Type} {enc : TypeId × Value → H} {W W' : World}

theorem Trod.carried {base : Nat} {sp : Nat → Bool} {held : Bool} {t : TypeId} {v : Value} {d : DataW H} {ps : List MemPlace} (h : DataW.Trod enc P W base sp held t v d ps) (hs : ∀ p ∈ ps, W.sameAt W' p) : DataW.Trod enc P W' base sp held t v d ps := by
  obtain ⟨n, hn⟩ := h
  exact ⟨n, DataW.trod_carry n _ _ _ hn hs⟩
theorem TrodAll.carried {base : Nat} {sp : Nat → Bool} {held : Bool} : ∀ {ts : List TypeId} {vs : List Value} {ds : List (DataW H)} {ps : List MemPlace}, DataW.TrodAll enc P W base sp held ts vs ds ps → (∀ p ∈ ps, W.sameAt W' p) → DataW.TrodAll enc P W' base sp held ts vs ds ps
  | [], [], [], _, h, _ => h
  | _ :: _, _ :: _, _ :: _, _, ⟨p, q, h1, h2, e⟩, hs => ⟨p, q, Trod.carried h1 (fun x hx => hs x (by rw [e]; exact List.mem_append_left _ hx)), TrodAll.carried h2 (fun x hx => hs x (by rw [e]; exact List.mem_append_right _ hx)), e⟩

/-- what a program's table of types must be like, to be read again -/
structure TableOk (P : Program) : Prop where
  laid : laidOutB P = true
  maps : mapsRowed P = true
  full : ((List.range P.types.size).all fun t => match P.underlying t with | some (.slice e) => decide (0 < P.cellsOf e) | _ => true) = true

/-- THE STATEMENT's post, from a contract -/
theorem Ct.said {f : FuncId} {fn : Func} {s : ChangeSpec} {args : Array Value} {ds gs : List (DataW H)} {before : List MemPlace} {b : TypeId} {apart fresh handsOn : Bool}
    (T : TableOk P) (hps : fn.params.toList.all (fun t => decide (t < P.types.size)) = true) (hrt : fn.resultTypes = #[b]) (hb : P.underlying b = some .bool) (hvars : s.vars = [])
    (hfn : s.fn H ds = { results := [.lit (.bool true)], args := ds, vars := [] }) (hW : DataW.Whole enc P fn.params.toList s.vars apart W args.toList ds gs before)
    (h : Ct P f args W.heap (fun v H' => v = .bool true ∧ Kp W.heap.size W.heap H')) :
    Calls P f args W fun e W' => ∃ v, e = .returned v ∧ s.post enc P fn apart fresh handsOn false W args v W' := by
  refine (h W rfl).mono fun x W' ⟨v, hx, hos, htape, hout, hv, hk⟩ => ?_
  subst hx hv
  have hB : Below W.heap.size W W' := ⟨hos, htape, hout, hk.1, hk.2⟩
  have hlt := hW.lt
  have hW' := hW
  obtain ⟨p, q, hA, hV, rfl, hfz, hnd⟩ := hW
  rw [hvars] at hV
  obtain ⟨rfl, rfl⟩ := trodVars_none hV
  have hsame : ∀ x ∈ p ++ [], W.sameAt W' x := fun x hx => hB.same (hlt x hx)
  have hargs : ∀ sp : Nat → Bool, (∀ x ∈ p, sp x.block = true) → DataW.TrodAll enc P W' 0 sp true fn.params.toList args.toList ds p := fun sp hsp =>
    TrodAll.carried (DataW.TrodAll.respare (kids_rows T.laid T.maps) (slices_full_of P T.full) (fun t ht => by have := List.all_eq_true.1 hps t ht; simpa using this) hA hsp) (fun x hx => hsame x (by simp [hx]))
  refine ⟨_, rfl, ds, [], p ++ [], [], p, [], hW', ?_, ?_, ?_, hB.frame _, fun h9 => (by cases h9)⟩
  · rw [List.append_nil, hfn, hrt]
    have hl : (Value.bool true).resultList 1 = [.bool true] := rfl
    show DataW.TrodAll enc P W' _ _ _ [b] ((Value.bool true).resultList 1) _ _
    rw [hl]
    exact trodAll_cons_mk (shut_bool hb true) trodAll_mk0
  · rw [List.append_nil, hfn]
    exact hargs _ (fun x hx => by have := hlt x (by simp [hx]); simpa using this)
  · rw [List.append_nil, hfn, hvars]; rfl

/- ---------------------------------------------- arguments opened -/
/-- a slice of ints -/
theorem open_sl {t e : TypeId} {k : IntKind} {fuel : Nat} {v : Value} {x : DataW H × List MemPlace} {held : Bool} (ht : P.underlying t = some (.slice e)) (he : P.underlying e = some (.int k)) (hce : P.cellsOf e = 1)
    (h : DataW.trod enc P W 0 (fun _ => true) held fuel t [v] = some x) : ∃ l : List Int, Sl W.heap W.heap.size v 1 l.length (fun i => .int k (l.getD i 0)) ∧ ∀ n ∈ l, (Lit.int k n).wf = true := by
  rcases open_ints ht he hce h with ⟨hcs, _⟩ | ⟨a, len, cap, zs, hcs, _, hl, hm, hz, _, hcell, hw⟩
  · injection hcs with hcs _
    subst hcs
    exact ⟨[], Sl.nil _ _, by simp⟩
  · injection hcs with hcs _
    subst hcs
    simp only [if_true] at hz
    have hlen : (zs.take len).length = len := by simp; omega
    have hmax : cap ≤ 9223372036854775807 := by unfold maxLen at hm; omega
    refine ⟨zs.take len, ?_, fun n hn => hw n (List.mem_of_mem_take hn)⟩
    rw [hlen]
    refine ⟨by omega, some a, cap, rfl, hl, fun i hi => ?_⟩
    have hsp : a.spot = none := by
      have := hcell 0 (by omega)
      simp only [Addr.add, if_true, World.cell?] at this
      cases ha : a.spot with
      | none => rfl
      | some y => rw [ha] at this; split at this <;> simp at this
    obtain ⟨ab, ao, asp⟩ := a
    simp only at hsp; subst hsp
    have hci := hcell i (by omega)
    rw [Addr.add_none, cell_hc] at hci
    refine ⟨ab, ao, rfl, ?_, ?_⟩
    · unfold hc at hci
      cases h5 : W.heap[ab]? with
      | none => rw [h5] at hci; cases hci
      | some y => exact (Array.getElem?_eq_some_iff.1 h5).1
    · rw [hci]; simp [List.getD, show i < len by omega]
/-- a slice of arrays of ints, of s each: whatever is read of an element's cells -/
theorem open_slA {t e : TypeId} {s : Nat} {fuel : Nat} {v : Value} {x : DataW H × List MemPlace} {held : Bool} (ht : P.underlying t = some (.slice e)) (hce : P.cellsOf e = s) (hs : 0 < s)
    (hel : ∀ (n : Nat) (cs : List Value) (y : DataW H × List MemPlace), DataW.trod enc P W 0 (fun _ => true) held n e cs = some y → ∃ zs : List Int, cs = zs.map (Value.int .i64) ∧ zs.length = s)
    (h : DataW.trod enc P W 0 (fun _ => true) held fuel t [v] = some x) : ∃ (n : Nat) (f : Nat → Int), Sl W.heap W.heap.size v s n (fun i => .int .i64 (f i)) := by
  rcases Deep.open_slice ht h with ⟨hcs, _⟩ | ⟨a, len, cap, m, n, D, Pl, hcs, _, hl, hm, hm2, _, hcell⟩
  · injection hcs with hcs _
    subst hcs
    exact ⟨0, fun _ => 0, Sl.nil _ _⟩
  · injection hcs with hcs _
    subst hcs
    simp only [if_true] at hm2
    have hmax : cap ≤ 9223372036854775807 := by unfold maxLen at hm; omega
    have hcells : ∀ i, i < len * s → ∃ z : Int, W.cell? (a.add i) = some (.int .i64 z) := by
      intro i hi
      have hj : i / s < len := Nat.div_lt_of_lt_mul (by rw [Nat.mul_comm]; exact hi)
      obtain ⟨cs', h1, h2⟩ := hcell (i / s) (by omega)
      obtain ⟨zs, rfl, hzl⟩ := hel _ _ _ h2
      rw [hce] at h1
      have h3 : W.cell? ((a.add (i / s * s)).add (i % s)) = some (.int .i64 (zs.getD (i % s) 0)) := by
        have hlt : i % s < s := Nat.mod_lt _ hs
        have h5 : W.cell? ((a.add (i / s * s)).add (i % s)) = (zs.map (Value.int .i64))[i % s]? := (World.cells?_some h1).2.2 (i % s) hlt
        rw [h5]; simp [List.getD, hzl, hlt]
      refine ⟨zs.getD (i % s) 0, ?_⟩
      rw [← h3]
      congr 1
      have h7 : i / s * s + i % s = i := Nat.div_add_mod' i s
      unfold Addr.add
      by_cases e1 : i % s = 0
      · rw [if_pos e1]
        have e2 : i / s * s = i := by omega
        rw [e2]
      · rw [if_neg e1]
        have e2 : ¬ i = 0 := by intro e3; rw [e3] at e1; simp at e1
        rw [if_neg e2]
        split
        · rename_i e3; rw [e3] at h7; rw [show i % s = i by omega]
        · simp; omega
    have hex : ∃ f : Nat → Int, ∀ i, i < len * s → W.cell? (a.add i) = some (.int .i64 (f i)) := by
      refine ⟨fun i => if h9 : i < len * s then Classical.choose (hcells i h9) else 0, fun i hi => ?_⟩
      simp only [dif_pos hi]
      exact Classical.choose_spec (hcells i hi)
    obtain ⟨f, hf⟩ := hex
    refine ⟨len, f, by omega, some a, cap, rfl, hl, fun i hi => ?_⟩
    have hsp : a.spot = none := by
      have := hf 0 (by omega)
      simp only [Addr.add, if_true, World.cell?] at this
      cases ha : a.spot with
      | none => rfl
      | some y => rw [ha] at this; split at this <;> simp at this
    obtain ⟨ab, ao, asp⟩ := a
    simp only at hsp; subst hsp
    have hci := hf i hi
    rw [Addr.add_none, cell_hc] at hci
    refine ⟨ab, ao, rfl, ?_, hci⟩
    unfold hc at hci
    cases h5 : W.heap[ab]? with
    | none => rw [h5] at hci; cases hci
    | some y => exact (Array.getElem?_eq_some_iff.1 h5).1
end Go.JE
