/- The walking engine, maps whose keys are ints. Conditions: each rule names its own; lemmas over any program. -/
import Derived.Test.YtcceglmmpbdhiaaJm
namespace Go.JE
set_option linter.unusedVariables false
set_option linter.unusedSimpArgs false
set_option linter.unusedSectionVars false
variable {P : Program} {e : Env} {H : Heap}

theorem nodup_inj {α : Type} {l : List α} (h : l.Nodup) {i j : Nat} {a : α} (h1 : l[i]? = some a) (h2 : l[j]? = some a) : i = j := by
  have hp := List.pairwise_iff_getElem.1 h
  obtain ⟨hi, hi'⟩ := List.getElem?_eq_some_iff.1 h1
  obtain ⟨hj, hj'⟩ := List.getElem?_eq_some_iff.1 h2
  rcases Nat.lt_trichotomy i j with h3 | h3 | h3
  · exact absurd (hi'.trans hj'.symm) (hp i j hi hj h3)
  · exact h3
  · exact absurd (hj'.trans hi'.symm) (hp j i hj hi h3)
/- ---------------------------------------------- what a map's block holds -/
structure ImAt (es : Array MapEntry) (clock : Nat) (L : List (Int × Value)) : Prop where
  ents : es.toList.map (fun x => (x.key, x.val)) = L.map (fun p => (Value.int .i64 p.1, p.2))
  nodup : (L.map (·.1)).Nodup
  born : ∀ x ∈ es.toList, x.born < clock
  stamps : (es.toList.map (·.born)).Nodup
def Im (H : Heap) (b : Nat) (L : List (Int × Value)) : Prop := ∃ es clock, H[b]? = some (.map es clock) ∧ ImAt es clock L

theorem Im.lt {b : Nat} {L : List (Int × Value)} (h : Im H b L) : b < H.size := by obtain ⟨es, c, h, _⟩ := h; exact (Array.getElem?_eq_some_iff.1 h).1
theorem Im.of {H' : Heap} {b : Nat} {L : List (Int × Value)} (h : Im H b L) (hb : H'[b]? = H[b]?) : Im H' b L := by
  obtain ⟨es, c, h1, h2⟩ := h; exact ⟨es, c, hb.trans h1, h2⟩
theorem Im.kp {B b : Nat} {H' : Heap} {L : List (Int × Value)} (h : Im H b L) (hk : Kp B H H') (hb : b < B) : Im H' b L := h.of (hk.2 b hb)
theorem Im.push {b : Nat} {L : List (Int × Value)} (h : Im H b L) (o : Obj) : Im (H.push o) b L := h.of (push_old h.lt)
theorem Im.new : Im (H.push (.map #[] 0)) H.size [] := ⟨#[], 0, push_new, rfl, by simp, by simp, by simp⟩

def lkM (L : List (Int × Value)) (k : Int) : Option Value := (L.find? (fun p => p.1 == k)).map (·.2)
/-- the map with k set to v -/
def upM : List (Int × Value) → Int → Value → List (Int × Value)
  | [], k, v => [(k, v)]
  | p :: r, k, v => if p.1 == k then (k, v) :: r else p :: upM r k v
theorem upM_keys (L : List (Int × Value)) (k : Int) (v : Value) : (upM L k v).map (·.1) = if k ∈ L.map (·.1) then L.map (·.1) else L.map (·.1) ++ [k] := by
  induction L with
  | nil => simp [upM]
  | cons p r ih =>
    simp only [upM]
    by_cases h : p.1 = k
    · simp [h]
    · rw [if_neg (by simpa using h)]
      simp only [List.map_cons, ih, List.mem_cons]
      by_cases h2 : k ∈ r.map (·.1)
      · simp [h2]
      · simp [h2, Ne.symm h]
theorem upM_lk (L : List (Int × Value)) (k j : Int) (v : Value) : lkM (upM L k v) j = if j = k then some v else lkM L j := by
  induction L with
  | nil =>
    by_cases h : j = k
    · simp [upM, lkM, h]
    · have h' : ¬ k = j := fun e1 => h e1.symm
      simp [upM, lkM, h, h']
  | cons p r ih =>
    simp only [upM]
    by_cases h : p.1 = k
    · simp only [h, beq_self_eq_true, if_true]
      by_cases h2 : j = k
      · simp [lkM, h2]
      · simp [lkM, h, h2, Ne.symm h2]
    · rw [if_neg (by simpa using h)]
      by_cases h2 : p.1 = j
      · have : j ≠ k := fun e1 => h (h2.trans e1)
        simp [lkM, h2, this]
      · have h3 : lkM (p :: upM r k v) j = lkM (upM r k v) j := by simp [lkM, h2]
        have h4 : lkM (p :: r) j = lkM r j := by simp [lkM, h2]
        rw [h3, h4, ih]
theorem lkM_none {L : List (Int × Value)} {k : Int} : lkM L k = none ↔ k ∉ L.map (·.1) := by
  simp only [lkM, Option.map_eq_none_iff, List.find?_eq_none, beq_iff_eq, List.mem_map, not_exists, not_and]

/- the keys' search -/
theorem findNow_int (k : Int) : ∀ (l : List MapEntry) (L : List (Int × Value)) (i : Nat), l.map (fun x => (x.key, x.val)) = L.map (fun p => (Value.int .i64 p.1, p.2)) →
    Instr.findNow (.int .i64) (.int .i64 k) l i = some ((L.zipIdx i).find? (fun q => q.1.1 == k) |>.map fun q => (q.2, q.1.2))
  | [], [], i, _ => by simp [Instr.findNow]
  | [], _ :: _, i, h => by simp at h
  | _ :: _, [], i, h => by simp at h
  | x :: l, p :: L, i, h => by
    simp only [List.map_cons, List.cons.injEq, Prod.mk.injEq] at h
    obtain ⟨⟨h1, h2⟩, h3⟩ := h
    simp only [Instr.findNow, h1, Instr.sameNow, if_true, List.zipIdx_cons, List.find?_cons]
    by_cases hk : k = p.1
    · subst hk; simp [h2]
    · rw [findNow_int k l L (i + 1) h3]
      have : (k == p.1) = false := by simpa using hk
      have h' : (p.1 == k) = false := by simpa using Ne.symm hk
      simp [this, h']
theorem run_findKey {K : TypeId} (hK : P.underlying K = some (.int .i64)) {es : Array MapEntry} {c : Nat} {L : List (Int × Value)} (h : ImAt es c L) (k : Int) (w : World) :
    (Instr.findKey K (.int .i64 k) es.toList).run P w = .ok ((L.zipIdx.find? (fun q => q.1.1 == k)).map fun q => (q.2, q.1.2)) w := by
  unfold Instr.findKey
  rw [run_bind_ok (run_underlying hK w), findNow_int k es.toList L 0 h.ents]
  rfl
theorem find_zipIdx (L : List (Int × Value)) (k : Int) (i : Nat) : ((L.zipIdx i).find? (fun q => q.1.1 == k)).map (fun q => q.1.2) = lkM L k := by
  induction L generalizing i with
  | nil => simp [lkM]
  | cons p r ih =>
    simp only [List.zipIdx_cons, List.find?_cons, lkM]
    by_cases h : p.1 = k
    · simp [h]
    · have : (p.1 == k) = false := by simpa using h
      simp only [this]; exact ih (i + 1)
theorem run_checkKey {K : TypeId} (hK : P.underlying K = some (.int .i64)) (em : Bool) (d : Nat) (k : Int) (w : World) : (Instr.checkKey em (d + 1) K (.int .i64 k)).run P w = .ok () w := by
  simp only [Instr.checkKey]
  rw [run_bind_ok (run_underlying hK w)]
  rfl

/- ---------------------------------------------- reading -/
theorem OpOk.lookup {T K E : TypeId} {x ix : Operand} {b : Nat} {L : List (Int × Value)} {k : Int} {z : Value} (hT : P.underlying T = some (.map K E)) (hK : P.underlying K = some (.int .i64)) (hz : (P.info? E).bind (·.zero) = some z)
    (hm : Im H b L) (hx : ev e x = some (.map (some b))) (hi : ev e ix = some (.int .i64 k)) : OpOk P e (.lookup T x ix false) H ((lkM L k).getD z) := by
  intro ρ o w ho hev hw
  obtain ⟨es, c, h1, h2⟩ := hm
  obtain ⟨i, hi1, hiz⟩ := Option.bind_eq_some_iff.1 hz
  have hget : (getObj b).run P w = .ok (.map es c) w := by simp [getObj, Sem.run, hw, h1]
  have hck : (Instr.checkKey es.isEmpty 10000 K (.int .i64 k)).run P w = .ok () w := run_checkKey hK _ 9999 k w
  have hfind := run_findKey hK h2 k w
  have hval := find_zipIdx L k 0
  simp only [execOp, ho, hev _ _ hx, hev _ _ hi, Instr.lookup]
  simp only [Sem.run_bind, run_underlying hT, Result.andThen_ok, hget, hck, hfind, Sem.run_pure]
  cases hf : L.zipIdx.find? (fun q => q.1.1 == k) with
  | none =>
    rw [hf] at hval
    simp only [Option.map_none] at hval
    simp [← hval, zeroValue, typeInfo, hi1, hiz]
  | some q =>
    rw [hf] at hval
    simp only [Option.map_some] at hval
    simp [← hval]
theorem OpOk.lookupOk {T K E : TypeId} {x ix : Operand} {b : Nat} {L : List (Int × Value)} {k : Int} {z : Value} (hT : P.underlying T = some (.map K E)) (hK : P.underlying K = some (.int .i64)) (hz : (P.info? E).bind (·.zero) = some z)
    (hm : Im H b L) (hx : ev e x = some (.map (some b))) (hi : ev e ix = some (.int .i64 k)) : OpOk P e (.lookup T x ix true) H (.tuple #[(lkM L k).getD z, .bool (lkM L k).isSome]) := by
  intro ρ o w ho hev hw
  obtain ⟨es, c, h1, h2⟩ := hm
  obtain ⟨i, hi1, hiz⟩ := Option.bind_eq_some_iff.1 hz
  have hget : (getObj b).run P w = .ok (.map es c) w := by simp [getObj, Sem.run, hw, h1]
  have hck : (Instr.checkKey es.isEmpty 10000 K (.int .i64 k)).run P w = .ok () w := run_checkKey hK _ 9999 k w
  have hfind := run_findKey hK h2 k w
  have hval := find_zipIdx L k 0
  simp only [execOp, ho, hev _ _ hx, hev _ _ hi, Instr.lookup]
  simp only [Sem.run_bind, run_underlying hT, Result.andThen_ok, hget, hck, hfind, Sem.run_pure]
  cases hf : L.zipIdx.find? (fun q => q.1.1 == k) with
  | none =>
    rw [hf] at hval
    simp only [Option.map_none] at hval
    simp [← hval, zeroValue, typeInfo, hi1, hiz]
  | some q =>
    rw [hf] at hval
    simp only [Option.map_some] at hval
    simp [← hval]
theorem OpOk.len_map {T K E : TypeId} {x : Operand} {b : Nat} {L : List (Int × Value)} (hT : P.underlying T = some (.map K E)) (hm : Im H b L) (hx : ev e x = some (.map (some b))) : OpOk P e (.call { callee := .builtin .len, args := #[x], argTypes := #[T] }) H (.int .i64 L.length) := by
  intro ρ o w ho hev hw
  obtain ⟨es, c, h1, h2⟩ := hm
  have hget : (getObj b).run P w = .ok (.map es c) w := by simp [getObj, Sem.run, hw, h1]
  have hl : es.size = L.length := by have := congrArg List.length h2.ents; simpa using this
  simp [execOp, ho, hev _ _ hx, resolve, invoke, builtin, Builtin.len_, run_underlying hT, goInt, hget, hl]

/- ---------------------------------------------- writing -/
/-- only block b has turned, and no block has come or gone -/
def Tw (b : Nat) (H H' : Heap) : Prop := H'.size = H.size ∧ ∀ k, k ≠ b → H'[k]? = H[k]?
theorem Tw.kp {B b : Nat} {H0 H H' : Heap} (h : Kp B H0 H) (ht : Tw b H H') (hb : B ≤ b) : Kp B H0 H' := ⟨by rw [ht.1]; exact h.1, fun k hk => (ht.2 k (by omega)).trans (h.2 k hk)⟩
theorem tw_set {b : Nat} {o : Obj} : Tw b H (H.setIfInBounds b o) := ⟨by simp, fun k hk => by rw [Array.getElem?_setIfInBounds_ne (Ne.symm hk)]⟩
theorem Tw.other {b b' : Nat} {H' : Heap} {L : List (Int × Value)} (h : Im H b' L) (ht : Tw b H H') (hb : b' ≠ b) : Im H' b' L := h.of (ht.2 b' hb)

theorem find_some {L : List (Int × Value)} {k : Int} {i0 : Nat} {q : (Int × Value) × Nat} (h : (L.zipIdx i0).find? (fun q => q.1.1 == k) = some q) : ∃ j, q.2 = i0 + j ∧ L[j]? = some q.1 ∧ q.1.1 = k ∧ (∀ v, upM L k v = L.set j (k, v)) := by
  induction L generalizing i0 with
  | nil => simp at h
  | cons p r ih =>
    simp only [List.zipIdx_cons, List.find?_cons] at h
    by_cases hp : p.1 = k
    · have : (p.1 == k) = true := by simpa using hp
      simp only [this, Option.some.injEq] at h
      subst h
      exact ⟨0, by simp, by simp, hp, fun v => by simp [upM, hp]⟩
    · have : (p.1 == k) = false := by simpa using hp
      simp only [this] at h
      obtain ⟨j, h1, h2, h3, h4⟩ := ih h
      exact ⟨j + 1, by omega, by simpa using h2, h3, fun v => by simp [upM, hp, h4]⟩
theorem find_none {L : List (Int × Value)} {k : Int} {i0 : Nat} (h : (L.zipIdx i0).find? (fun q => q.1.1 == k) = none) : k ∉ L.map (·.1) ∧ ∀ v, upM L k v = L ++ [(k, v)] := by
  induction L generalizing i0 with
  | nil => simp [upM]
  | cons p r ih =>
    simp only [List.zipIdx_cons, List.find?_cons] at h
    by_cases hp : p.1 = k
    · have : (p.1 == k) = true := by simpa using hp
      simp [this] at h
    · have : (p.1 == k) = false := by simpa using hp
      simp only [this] at h
      obtain ⟨h1, h2⟩ := ih h
      refine ⟨by simp only [List.map_cons, List.mem_cons, not_or]; exact ⟨Ne.symm hp, h1⟩, fun v => by simp [upM, hp, h2]⟩

theorem ImAt.setVal {es : Array MapEntry} {c j : Nat} {L : List (Int × Value)} {k : Int} {v w : Value} (h : ImAt es c L) (hj : L[j]? = some (k, w)) (kk : Value) (hkk : kk = .int .i64 k) : ImAt (es.modify j fun x => { x with key := kk, val := v }) c (L.set j (k, v)) := by
  subst hkk
  have hlen : es.size = L.length := by have := congrArg List.length h.ents; simpa using this
  have hjl : j < L.length := (List.getElem?_eq_some_iff.1 hj).1
  have hje : j < es.size := by omega
  have hme : (es.modify j fun x => { x with key := .int .i64 k, val := v }).toList = es.toList.set j { es[j] with key := .int .i64 k, val := v } := by
    apply List.ext_getElem?
    intro i
    rw [Array.getElem?_toList, Array.getElem?_modify, List.getElem?_set]
    by_cases hij : j = i
    · subst hij; simp [hje]
    · simp [hij]
  refine ⟨?_, ?_, ?_, ?_⟩
  · rw [hme]
    simp only [List.map_set, h.ents]
  · have : (L.set j (k, v)).map (·.1) = L.map (·.1) := by
      rw [List.map_set]
      apply List.ext_getElem?
      intro i
      rw [List.getElem?_set]
      by_cases hij : j = i
      · subst hij; simp only [if_true, hjl, List.length_map, List.getElem?_map, hj, Option.map_some]
      · simp [hij]
    rw [this]; exact h.nodup
  · intro x hx
    rw [hme] at hx
    rcases List.mem_or_eq_of_mem_set hx with hx | hx
    · exact h.born x hx
    · subst hx; exact h.born es[j] (by simp)
  · have : (es.toList.set j { es[j] with key := .int .i64 k, val := v }).map (·.born) = es.toList.map (·.born) := by
      rw [List.map_set]
      apply List.ext_getElem?
      intro i
      rw [List.getElem?_set]
      by_cases hij : j = i
      · subst hij; simp [hje]
      · simp [hij]
    rw [hme, this]; exact h.stamps
theorem ImAt.snoc {es : Array MapEntry} {c : Nat} {L : List (Int × Value)} {k : Int} {v : Value} (h : ImAt es c L) (hk : k ∉ L.map (·.1)) : ImAt (es.push { key := .int .i64 k, val := v, born := c }) (c + 1) (L ++ [(k, v)]) := by
  refine ⟨by simp [h.ents], ?_, ?_, ?_⟩
  · rw [List.map_append, List.nodup_append]
    refine ⟨h.nodup, by simp, ?_⟩
    intro a ha b hb
    simp only [List.map_cons, List.map_nil, List.mem_singleton] at hb
    subst hb
    intro e1; subst e1; exact hk ha
  · intro x hx
    simp only [Array.toList_push, List.mem_append, List.mem_singleton] at hx
    rcases hx with hx | rfl
    · have := h.born x hx; omega
    · simp
  · simp only [Array.toList_push, List.map_append, List.map_cons, List.map_nil]
    rw [List.nodup_append]
    refine ⟨h.stamps, by simp, ?_⟩
    intro a ha b hb
    simp only [List.mem_singleton] at hb
    subst hb
    obtain ⟨x, hx, rfl⟩ := List.mem_map.1 ha
    have := h.born x hx; omega

theorem keyStays (k : Int) (w : World) : (Instr.keyThatStays (.int .i64 k) (.int .i64 k)).run P w = .ok (.int .i64 k) w := by
  unfold Instr.keyThatStays
  have : Instr.sameBits 10000 (.int .i64 k) (.int .i64 k) = true := by unfold Instr.sameBits; simp
  rw [if_pos this]; rfl

theorem OpCh.mapUpdate {T K E : TypeId} {x ix y : Operand} {b : Nat} {L : List (Int × Value)} {k : Int} {v : Value} (hT : P.underlying T = some (.map K E)) (hK : P.underlying K = some (.int .i64)) (hm : Im H b L)
    (hx : ev e x = some (.map (some b))) (hi : ev e ix = some (.int .i64 k)) (hy : ev e y = some v) : OpCh P e (.mapUpdate T x ix y) H (fun _ H' => Im H' b (upM L k v) ∧ Tw b H H') := by
  intro ρ o w ho hev hw
  obtain ⟨es, c, h1, h2⟩ := hm
  have hlen : es.size = L.length := by have := congrArg List.length h2.ents; simpa using this
  have hget : (getObj b).run P w = .ok (.map es c) w := by simp [getObj, Sem.run, hw, h1]
  have hck : (Instr.checkKey false 10000 K (.int .i64 k)).run P w = .ok () w := run_checkKey hK _ 9999 k w
  have hfind := run_findKey hK h2 k w
  have hb : b < w.heap.size := by rw [hw]; exact (Array.getElem?_eq_some_iff.1 h1).1
  have hset : ∀ o' : Obj, (setObj b o').run P w = .ok () { w with heap := w.heap.setIfInBounds b o' } := by
    intro o'; simp [setObj, Sem.run, hw, h1]
  have hnew : ∀ o' : Obj, (w.heap.setIfInBounds b o')[b]? = some o' := by intro o'; simp [hb]
  cases hf : L.zipIdx.find? (fun q => q.1.1 == k) with
  | none =>
    obtain ⟨hk, hu⟩ := find_none hf
    rw [hf] at hfind
    simp only [Option.map_none] at hfind
    refine ⟨undef, { w with heap := w.heap.setIfInBounds b (.map (es.push { key := .int .i64 k, val := v, born := c }) (c + 1)) }, .inr ⟨?_, rfl⟩, rfl, rfl, rfl, ?_⟩
    · simp only [execOp, ho, hev _ _ hx, hev _ _ hi, hev _ _ hy, Instr.mapUpdate]
      simp only [Sem.run_bind, run_underlying hT, Result.andThen_ok, hget, hck, hfind, hset]
      rfl
    · subst hw
      exact ⟨⟨_, _, hnew _, by rw [hu]; exact h2.snoc hk⟩, tw_set⟩
  | some q =>
    obtain ⟨j, hj1, hj2, hj3, hj4⟩ := find_some hf
    rw [hf] at hfind
    simp only [Option.map_some] at hfind
    have hj5 : q.2 = j := by omega
    have hjl : j < L.length := (List.getElem?_eq_some_iff.1 hj2).1
    have hkey : ((es[j]?).map (·.key)).getD (.int .i64 k) = .int .i64 k := by
      have h3 := congrArg (fun l => l[j]?) h2.ents
      simp only [List.getElem?_map, hj2, Array.getElem?_toList, Option.map_some] at h3
      cases he : es[j]? with
      | none => rfl
      | some x => rw [he] at h3; simp at h3; simp [h3.1, hj3]
    refine ⟨undef, { w with heap := w.heap.setIfInBounds b (.map (es.modify j fun x => { x with key := .int .i64 k, val := v }) c) }, .inr ⟨?_, rfl⟩, rfl, rfl, rfl, ?_⟩
    · simp only [execOp, ho, hev _ _ hx, hev _ _ hi, hev _ _ hy, Instr.mapUpdate]
      simp only [Sem.run_bind, run_underlying hT, Result.andThen_ok, hget, hck, hfind, hj5, hkey, keyStays, hset]
      rfl
    · subst hw
      refine ⟨⟨_, _, hnew _, by rw [hj4]; exact h2.setVal (w := q.1.2) (by rw [hj2, ← hj3]) _ rfl⟩, tw_set⟩

/- ---------------------------------------------- m[k] = v in two steps -/
def insM (L : List (Int × Value)) (k : Int) (z : Value) : List (Int × Value) := if k ∈ L.map (·.1) then L else L ++ [(k, z)]
theorem upM_ins (L : List (Int × Value)) (k : Int) (z v : Value) : upM (insM L k z) k v = upM L k v := by
  unfold insM
  split
  · rfl
  · rename_i h
    induction L with
    | nil => simp [upM]
    | cons p r ih =>
      simp only [List.map_cons, List.mem_cons, not_or] at h
      have hp : ¬ p.1 = k := fun e1 => h.1 e1.symm
      simp [upM, hp, ih h.2]
/-- a map's block, and the stamp of the entry of key k -/
def ImS (H : Heap) (b : Nat) (L : List (Int × Value)) (k : Int) (st : Nat) : Prop := ∃ es clock, H[b]? = some (.map es clock) ∧ ImAt es clock L ∧ ∃ x ∈ es.toList, x.key = .int .i64 k ∧ x.born = st
theorem ImS.im {b st : Nat} {L : List (Int × Value)} {k : Int} (h : ImS H b L k st) : Im H b L := by obtain ⟨es, c, h1, h2, _⟩ := h; exact ⟨es, c, h1, h2⟩
theorem ImS.of {H' : Heap} {b st : Nat} {L : List (Int × Value)} {k : Int} (h : ImS H b L k st) (hb : H'[b]? = H[b]?) : ImS H' b L k st := by
  obtain ⟨es, c, h1, h2, h3⟩ := h; exact ⟨es, c, hb.trans h1, h2, h3⟩

theorem OpCh.mapEntry {T K E : TypeId} {x ix : Operand} {b : Nat} {L : List (Int × Value)} {k : Int} {z : Value} (hT : P.underlying T = some (.map K E)) (hK : P.underlying K = some (.int .i64)) (hz : (P.info? E).bind (·.zero) = some z) (hm : Im H b L)
    (hx : ev e x = some (.map (some b))) (hi : ev e ix = some (.int .i64 k)) : OpCh P e (.mapEntry T x ix) H (fun u H' => ∃ st : Nat, u = .tuple #[(lkM L k).getD z, .int .i64 st] ∧ ImS H' b (insM L k z) k st ∧ Tw b H H') := by
  intro ρ o w ho hev hw
  obtain ⟨es, c, h1, h2⟩ := hm
  obtain ⟨i, hi1, hiz⟩ := Option.bind_eq_some_iff.1 hz
  have hzv : (zeroValue E).run P w = .ok z w := by simp [zeroValue, typeInfo, hi1, hiz]
  have hget : (getObj b).run P w = .ok (.map es c) w := by simp [getObj, Sem.run, hw, h1]
  have hck : (Instr.checkKey false 10000 K (.int .i64 k)).run P w = .ok () w := run_checkKey hK _ 9999 k w
  have hfind := run_findKey hK h2 k w
  have hval := find_zipIdx L k 0
  have hb : b < w.heap.size := by rw [hw]; exact (Array.getElem?_eq_some_iff.1 h1).1
  have hset : ∀ o' : Obj, (setObj b o').run P w = .ok () { w with heap := w.heap.setIfInBounds b o' } := by
    intro o'; simp [setObj, Sem.run, hw, h1]
  have hnew : ∀ o' : Obj, (w.heap.setIfInBounds b o')[b]? = some o' := by intro o'; simp [hb]
  cases hf : L.zipIdx.find? (fun q => q.1.1 == k) with
  | none =>
    obtain ⟨hk, hu⟩ := find_none hf
    rw [hf] at hfind hval
    simp only [Option.map_none] at hfind hval
    refine ⟨.tuple #[z, goInt c], { w with heap := w.heap.setIfInBounds b (.map (es.push { key := .int .i64 k, val := z, born := c }) (c + 1)) }, .inl ?_, rfl, rfl, rfl, ?_⟩
    · simp only [execOp, ho, hev _ _ hx, hev _ _ hi, Instr.mapEntry]
      simp only [Sem.run_bind, run_underlying hT, Result.andThen_ok, hget, hck, hfind, hzv, hset]
      rfl
    · subst hw
      refine ⟨c, by rw [← hval]; rfl, ⟨_, _, hnew _, ?_, ⟨{ key := .int .i64 k, val := z, born := c }, by simp, rfl, rfl⟩⟩, tw_set⟩
      unfold insM; rw [if_neg hk]; exact h2.snoc hk
  | some q =>
    obtain ⟨j, hj1, hj2, hj3, hj4⟩ := find_some hf
    rw [hf] at hfind hval
    simp only [Option.map_some] at hfind hval
    have hj5 : q.2 = j := by omega
    have hlen : es.size = L.length := by have := congrArg List.length h2.ents; simpa using this
    have hjl : j < L.length := (List.getElem?_eq_some_iff.1 hj2).1
    have hje : j < es.size := by omega
    have h3 := congrArg (fun l => l[j]?) h2.ents
    simp only [List.getElem?_map, hj2, Array.getElem?_toList, Option.map_some, Array.getElem?_eq_getElem hje, Option.some.injEq, Prod.mk.injEq] at h3
    have hkey : ((es[j]?).map (·.key)).getD (.int .i64 k) = .int .i64 k := by simp [hje, h3.1, hj3]
    have hmem : k ∈ L.map (·.1) := by rw [← hj3]; exact List.mem_map.2 ⟨q.1, List.mem_of_getElem? hj2, rfl⟩
    refine ⟨.tuple #[q.1.2, goInt (((es[j]?).map (·.born)).getD 0)], { w with heap := w.heap.setIfInBounds b (.map (es.modify j fun x => { x with key := .int .i64 k }) c) }, .inl ?_, rfl, rfl, rfl, ?_⟩
    · simp only [execOp, ho, hev _ _ hx, hev _ _ hi, Instr.mapEntry]
      simp only [Sem.run_bind, run_underlying hT, Result.andThen_ok, hget, hck, hfind, hj5, hkey, keyStays, hset]
      rfl
    · subst hw
      have hsame : es.modify j (fun x => { x with key := .int .i64 k }) = es := by
        apply Array.ext_getElem?
        intro i
        rw [Array.getElem?_modify]
        by_cases hij : j = i
        · subst hij
          have : es[j] = { es[j] with key := .int .i64 k } := by
            have h4 := h3.1
            rw [hj3] at h4
            rw [← h4]
          simp only [if_true, Array.getElem?_eq_getElem hje, Option.map_some]
          exact congrArg some this.symm
        · simp [hij]
      refine ⟨es[j].born, by rw [← hval]; simp [hje, goInt], ⟨_, _, hnew _, ?_, ⟨es[j], ?_, by rw [h3.1, hj3], rfl⟩⟩, tw_set⟩
      · unfold insM; rw [if_pos hmem, hsame]; exact h2
      · rw [hsame]; simp

theorem OpCh.entryStore {T : TypeId} {x s y : Operand} {b st : Nat} {L : List (Int × Value)} {k : Int} {v : Value} (hm : ImS H b L k st) (hx : ev e x = some (.map (some b))) (hs : ev e s = some (.int .i64 st)) (hy : ev e y = some v) :
    OpCh P e (.entryStore T x s y) H (fun _ H' => Im H' b (upM L k v) ∧ Tw b H H') := by
  intro ρ o w ho hev hw
  obtain ⟨es, c, h1, h2, x0, hx0, hk0, hb0⟩ := hm
  have hget : (getObj b).run P w = .ok (.map es c) w := by simp [getObj, Sem.run, hw, h1]
  have hb : b < w.heap.size := by rw [hw]; exact (Array.getElem?_eq_some_iff.1 h1).1
  have hset : ∀ o' : Obj, (setObj b o').run P w = .ok () { w with heap := w.heap.setIfInBounds b o' } := by
    intro o'; simp [setObj, Sem.run, hw, h1]
  have hnew : ∀ o' : Obj, (w.heap.setIfInBounds b o')[b]? = some o' := by intro o'; simp [hb]
  have hlen : es.size = L.length := by have := congrArg List.length h2.ents; simpa using this
  obtain ⟨j, hj, hjx⟩ := List.getElem_of_mem hx0
  have hje : j < es.size := by simpa using hj
  have hjl : j < L.length := by omega
  have hejx : es[j] = x0 := by simpa using hjx
  have hfi : es.findIdx? (fun e => (e.born : Int) == (st : Int)) = some j := by
    rw [Array.findIdx?_eq_some_iff_getElem]
    refine ⟨hje, by simp [hejx, hb0], fun i hij => ?_⟩
    have hne : es[i].born ≠ st := by
      intro e1
      have hi' : i < es.size := by omega
      have := nodup_inj h2.stamps (i := i) (j := j) (a := st) (by simp [hi', e1]) (by simp [hje, hejx, hb0])
      omega
    have h4 : ¬ ((es[i].born : Int) = (st : Int)) := fun e1 => hne (Int.ofNat.inj e1)
    simpa using h4
  have h3 := congrArg (fun l => l[j]?) h2.ents
  simp only [List.getElem?_map, Array.getElem?_toList, Array.getElem?_eq_getElem hje, List.getElem?_eq_getElem hjl, Option.map_some, Option.some.injEq, Prod.mk.injEq] at h3
  have hLk : L[j].1 = k := by
    have h4 := h3.1
    rw [hejx, hk0] at h4
    injection h4 with _ h5
    exact h5.symm
  have hu : upM L k v = L.set j (k, v) := by
    have hfind : ∃ q, L.zipIdx.find? (fun q => q.1.1 == k) = some q := by
      cases hf : L.zipIdx.find? (fun q => q.1.1 == k) with
      | none => exact absurd (by rw [← hLk]; exact List.mem_map.2 ⟨L[j], by simp, rfl⟩) (find_none hf).1
      | some q => exact ⟨q, rfl⟩
    obtain ⟨q, hq⟩ := hfind
    obtain ⟨j', _, hj2, hj3, hj4⟩ := find_some hq
    have : j' = j := by
      exact nodup_inj h2.nodup (a := k) (by simp [hj2, hj3]) (by simp [hjl, hLk])
    rw [hj4, this]
  refine ⟨undef, { w with heap := w.heap.setIfInBounds b (.map (es.modify j fun x => { x with val := v }) c) }, .inr ⟨?_, rfl⟩, rfl, rfl, rfl, ?_⟩
  · simp only [execOp, ho, hev _ _ hx, hev _ _ hs, hev _ _ hy, Instr.entryStore]
    simp only [Sem.run_bind, Result.andThen_ok, hget, asInt, asIntOf, Sem.run_pure, hfi, hset]
  · subst hw
    refine ⟨⟨_, _, hnew _, ?_⟩, tw_set⟩
    rw [hu]
    have hsame : es.modify j (fun x => { x with val := v }) = es.modify j (fun x => { x with key := .int .i64 k, val := v }) := by
      apply Array.ext_getElem?
      intro i
      rw [Array.getElem?_modify, Array.getElem?_modify]
      by_cases hij : j = i
      · subst hij
        simp [hje, hejx, hk0]
      · simp [hij]
    rw [hsame]
    exact h2.setVal (w := L[j].2) (by rw [List.getElem?_eq_getElem hjl, ← hLk]) _ rfl

/- ---------------------------------------------- ranging -/
/-- block r walks over the map of block b, which holds L; the keys vis have been met -/
def It (H : Heap) (r b : Nat) (L : List (Int × Value)) (vis : List Int) : Prop :=
  ∃ es c seen, H[b]? = some (.map es c) ∧ ImAt es c L ∧ H[r]? = some (.mapIter (some b) c seen c) ∧ vis.Nodup ∧ (∀ k ∈ vis, k ∈ L.map (·.1)) ∧
    (∀ x ∈ es.toList, (x.born ∈ seen.toList ↔ ∃ k ∈ vis, x.key = .int .i64 k)) ∧ (∀ k, vis.getLast? = some k → ∃ x ∈ es.toList, x.key = .int .i64 k ∧ seen.back? = some x.born)
theorem It.of {H' : Heap} {r b : Nat} {L : List (Int × Value)} {vis : List Int} (h : It H r b L vis) (hr : H'[r]? = H[r]?) (hb : H'[b]? = H[b]?) : It H' r b L vis := by
  obtain ⟨es, c, seen, h1, h2, h3, h4⟩ := h; exact ⟨es, c, seen, hb.trans h1, h2, hr.trans h3, h4⟩
theorem It.im {r b : Nat} {L : List (Int × Value)} {vis : List Int} (h : It H r b L vis) : Im H b L := by obtain ⟨es, c, seen, h1, h2, _⟩ := h; exact ⟨es, c, h1, h2⟩

theorem OpCh.range {T K E : TypeId} {x : Operand} {b : Nat} {L : List (Int × Value)} (hT : P.underlying T = some (.map K E)) (hm : Im H b L) (hx : ev e x = some (.map (some b))) :
    OpCh P e (.range T x) H (fun u H' => u = .pointer (some ⟨H.size, 0, none⟩) ∧ It H' H.size b L [] ∧ H'.size = H.size + 1 ∧ (∀ k, k < H.size → H'[k]? = H[k]?)) := by
  intro ρ o w ho hev hw
  have hlt := hm.lt
  obtain ⟨es, c, h1, h2⟩ := hm
  have hget : (getObj b).run P w = .ok (.map es c) w := by simp [getObj, Sem.run, hw, h1]
  refine ⟨.pointer (some ⟨w.heap.size, 0, none⟩), { w with heap := w.heap.push (.mapIter (some b) c #[] c) }, .inl ?_, rfl, rfl, rfl, ?_⟩
  · simp only [execOp, ho, hev _ _ hx, Instr.range]
    simp only [Sem.run_bind, run_underlying hT, Result.andThen_ok, hget]
    simp
  · subst hw
    exact ⟨rfl, ⟨es, c, #[], (push_old hlt).trans h1, h2, push_new, by simp, by simp, by simp, by simp⟩, by simp, fun k hk => push_old hk⟩

theorem mem_filter_arr {es : Array MapEntry} {p : MapEntry → Bool} {x : MapEntry} : x ∈ (es.filter p).toList ↔ x ∈ es.toList ∧ p x = true := by simp

theorem run_mapNext {m : Nat} (hm : 0 < m) (w : World) : ∃ t w', (choose (.mapNext m)).run P w = .ok t w' ∧ w'.heap = w.heap ∧ w'.os = w.os ∧ w'.tape = w.tape ∧ w'.output = w.output ∧ t < m := by
  rw [run_choose]
  split
  · exact ⟨0, w, rfl, rfl, rfl, rfl, rfl, hm⟩
  · exact ⟨_, _, rfl, rfl, rfl, rfl, rfl, by simp only [Question.cut]; exact Nat.mod_lt _ hm⟩

theorem OpCh.next {x : Operand} {r b : Nat} {L : List (Int × Value)} {vis : List Int} (hrb : r ≠ b) (hit : It H r b L vis) (hx : ev e x = some (.pointer (some ⟨r, 0, none⟩))) :
    OpCh P e (.next x false) H (fun u H' => (u = .tuple #[.bool false] ∧ (∀ k ∈ L.map (·.1), k ∈ vis) ∧ H' = H) ∨
      (∃ k v, u = .tuple #[.bool true, .int .i64 k, v] ∧ (k, v) ∈ L ∧ k ∉ vis ∧ It H' r b L (vis ++ [k]) ∧ Tw r H H')) := by
  intro ρ o w ho hev hw
  obtain ⟨es, c, seen, h1, h2, h3, h4, h5, h6, h7⟩ := hit
  have hgb : (getObj b).run P w = .ok (.map es c) w := by simp [getObj, Sem.run, hw, h1]
  have hgr : (getObj r).run P w = .ok (.mapIter (some b) c seen c) w := by simp [getObj, Sem.run, hw, h3]
  have hrl : r < w.heap.size := by rw [hw]; exact (Array.getElem?_eq_some_iff.1 h3).1
  have hold : (es.filter fun x => !seen.contains x.born).filter (·.born < c) = es.filter fun x => !seen.contains x.born := by
    rw [Array.filter_eq_self]
    intro x hx'
    have := h2.born x (by have := (mem_filter_arr.1 (Array.mem_toList_iff.2 hx')).1; exact this)
    simpa using this
  have hnew : (es.filter fun x => !seen.contains x.born).filter (·.born ≥ c) = #[] := by
    rw [Array.filter_eq_empty_iff]
    intro x hx'
    have := h2.born x (by have := (mem_filter_arr.1 (Array.mem_toList_iff.2 hx')).1; exact this)
    simp; omega
  have hgone : (!seen.isEmpty && !es.isEmpty && es.all (·.born ≥ c)) = false := by
    cases hes : es.toList with
    | nil =>
      have : es = #[] := by simpa using hes
      subst this; simp
    | cons x l =>
      have hx' : x ∈ es.toList := by rw [hes]; simp
      have hlt := h2.born x hx'
      have : es.all (·.born ≥ c) = false := by
        rw [Bool.eq_false_iff]
        intro hall
        rw [Array.all_eq_true'] at hall
        have := hall x (Array.mem_toList_iff.1 hx')
        simp at this; omega
      simp [this]
  generalize hleft : (es.filter fun x => !seen.contains x.born) = left at hold hnew
  have hmem : ∀ x, x ∈ left.toList ↔ x ∈ es.toList ∧ ¬ ∃ k ∈ vis, x.key = .int .i64 k := by
    intro x
    rw [← hleft, mem_filter_arr]
    constructor
    · rintro ⟨ha, hb⟩
      exact ⟨ha, fun hk => by have := (h6 x ha).2 hk; simp at hb; exact hb (Array.mem_toList_iff.1 this)⟩
    · rintro ⟨ha, hb⟩
      refine ⟨ha, ?_⟩
      simp only [Bool.not_eq_true', Array.contains_eq_mem, decide_eq_false_iff_not]
      intro hc
      exact hb ((h6 x ha).1 (Array.mem_toList_iff.2 hc))
  -- the choice
  obtain ⟨cand, hcd⟩ : ∃ cand : Array (Option MapEntry), (if left.isEmpty then #[none] else #[]) ++ (left ++ #[]).map some = cand := ⟨_, rfl⟩
  have hpos : 0 < cand.size := by
    rw [← hcd]
    cases hl : left.isEmpty with
    | true => simp; omega
    | false => simp at hl ⊢; exact Nat.pos_of_ne_zero (by simpa using hl)
  obtain ⟨t, w', hch, hwh, hwo, hwt, hwp, ht⟩ := run_mapNext (P := P) hpos w
  have hrun : (execOp ρ o).run P w = match cand[t]? with
      | some (some e) => .ok (.value (.tuple #[.bool true, e.key, e.val])) { w' with heap := w'.heap.setIfInBounds r (.mapIter (some b) c (seen.push e.born) c) }
      | some none => .ok (.value (.tuple #[.bool false])) w'
      | none => .halt (.stuck "Next: no such candidate") w' := by
    simp only [execOp, ho, hev _ _ hx, Instr.next]
    simp only [Sem.run_bind, Result.andThen_ok, hgr, hgb, hgone, hleft, hold, hnew, Bool.false_eq_true, if_false, Sem.run_pure, hcd, hch]
    cases hc2 : cand[t]? with
    | none => simp
    | some y =>
      cases y with
      | none => simp
      | some z =>
        have : (setObj r (.mapIter (some b) c (seen.push z.born) c)).run P w' = .ok () { w' with heap := w'.heap.setIfInBounds r (.mapIter (some b) c (seen.push z.born) c) } := by
          simp [setObj, Sem.run, hwh, hw, h3]
        simp [this]
  rw [hrun, Array.getElem?_eq_getElem ht]
  cases hl : left.isEmpty with
  | true =>
    have hle : left = #[] := by simpa using hl
    have hcn : cand = #[none] := by rw [← hcd, hle]; simp
    have hz : cand[t] = none := by
      subst hcn
      have : t = 0 := by simp at ht; exact ht
      subst this; rfl
    rw [hz]
    refine ⟨_, _, .inl rfl, hwo, hwt, hwp, .inl ⟨rfl, ?_, hwh.trans hw⟩⟩
    intro k hk
    by_cases hv : k ∈ vis
    · exact hv
    · exfalso
      obtain ⟨p, hp, rfl⟩ := List.mem_map.1 hk
      have h8 : (Value.int .i64 p.1, p.2) ∈ es.toList.map (fun x => (x.key, x.val)) := by rw [h2.ents]; exact List.mem_map.2 ⟨p, hp, rfl⟩
      obtain ⟨x, hx1, hx2⟩ := List.mem_map.1 h8
      have h9 : x ∈ left.toList := (hmem x).2 ⟨hx1, fun ⟨k', hk', he⟩ => by
        have h10 : x.key = .int .i64 p.1 := congrArg Prod.fst hx2
        rw [h10] at he
        injection he with _ h11
        exact hv (h11 ▸ hk')⟩
      rw [hle] at h9; simp at h9
  | false =>
    have hsz : cand = left.map some := by rw [← hcd]; simp [hl]
    have htl : t < left.size := by rw [hsz] at ht; simpa using ht
    have hz : cand[t] = some left[t] := by
      subst hsz; simp
    rw [hz]
    have hxm : left[t] ∈ left.toList := by simp
    obtain ⟨hx1, hx2⟩ := (hmem _).1 hxm
    have h8 : (left[t].key, left[t].val) ∈ L.map (fun p => (Value.int .i64 p.1, p.2)) := by rw [← h2.ents]; exact List.mem_map.2 ⟨_, hx1, rfl⟩
    obtain ⟨p, hp1, hp2⟩ := List.mem_map.1 h8
    have hk : left[t].key = .int .i64 p.1 := (congrArg Prod.fst hp2).symm
    have hv : left[t].val = p.2 := (congrArg Prod.snd hp2).symm
    have hnot : p.1 ∉ vis := fun hm => hx2 ⟨p.1, hm, hk⟩
    refine ⟨_, _, .inl rfl, hwo, hwt, hwp, .inr ⟨p.1, p.2, by rw [hk, hv], hp1, hnot, ?_, ?_⟩⟩
    · have hkeys : (es.toList.map (·.key)) = L.map (fun p => Value.int .i64 p.1) := by
        have := congrArg (List.map Prod.fst) h2.ents
        simpa [List.map_map, Function.comp_def] using this
      refine ⟨es, c, seen.push left[t].born, ?_, h2, ?_, ?_, ?_, ?_, ?_⟩
      · simp only [hwh]; rw [Array.getElem?_setIfInBounds_ne hrb, hw]; exact h1
      · simp only [hwh]; simp [hrl]
      · rw [List.nodup_append]; exact ⟨h4, by simp, by intro a ha b' hb'; simp only [List.mem_singleton] at hb'; subst hb'; intro e1; subst e1; exact hnot ha⟩
      · intro k hk'
        rcases List.mem_append.1 hk' with h9 | h9
        · exact h5 k h9
        · simp only [List.mem_singleton] at h9; subst h9; exact List.mem_map.2 ⟨p, hp1, rfl⟩
      · intro x hx'
        simp only [Array.toList_push, List.mem_append, List.mem_singleton]
        constructor
        · rintro (h9 | h9)
          · obtain ⟨k, hk1, hk2⟩ := (h6 x hx').1 h9; exact ⟨k, .inl hk1, hk2⟩
          · refine ⟨p.1, .inr rfl, ?_⟩
            -- the same stamp: the same entry
            have h10 : x = left[t] := by
              obtain ⟨i, hi, hie⟩ := List.getElem_of_mem hx'
              obtain ⟨j, hj, hje⟩ := List.getElem_of_mem hx1
              have hij : i = j := by
                have e1 : (es.toList.map (·.born))[i]? = some x.born := by rw [List.getElem?_map, List.getElem?_eq_getElem hi, hie]; rfl
                have e2 : (es.toList.map (·.born))[j]? = some left[t].born := by rw [List.getElem?_map, List.getElem?_eq_getElem hj, hje]; rfl
                rw [← h9] at e2
                exact nodup_inj h2.stamps e1 e2
              subst hij
              rw [← hie, ← hje]
            rw [h10, hk]
        · rintro ⟨k, hk1 | hk1, hk2⟩
          · exact .inl ((h6 x hx').2 ⟨k, hk1, hk2⟩)
          · subst hk1
            right
            -- the same key: the same entry
            obtain ⟨i, hi, hie⟩ := List.getElem_of_mem hx'
            obtain ⟨j, hj, hje⟩ := List.getElem_of_mem hx1
            have e1 : (es.toList.map (·.key))[i]? = some (.int .i64 p.1) := by rw [List.getElem?_map, List.getElem?_eq_getElem hi, hie]; simp [hk2]
            have e2 : (es.toList.map (·.key))[j]? = some (.int .i64 p.1) := by rw [List.getElem?_map, List.getElem?_eq_getElem hj, hje]; simp [hk]
            rw [hkeys, List.getElem?_map] at e1 e2
            have f1 : ∃ q, L[i]? = some q ∧ q.1 = p.1 := by
              cases hq : L[i]? with
              | none => rw [hq] at e1; simp at e1
              | some q => rw [hq] at e1; simp at e1; exact ⟨q, rfl, e1⟩
            have f2 : ∃ q, L[j]? = some q ∧ q.1 = p.1 := by
              cases hq : L[j]? with
              | none => rw [hq] at e2; simp at e2
              | some q => rw [hq] at e2; simp at e2; exact ⟨q, rfl, e2⟩
            obtain ⟨q1, f1, f1'⟩ := f1
            obtain ⟨q2, f2, f2'⟩ := f2
            have g1 : (L.map (·.1))[i]? = some p.1 := by rw [List.getElem?_map, f1]; simp [f1']
            have g2 : (L.map (·.1))[j]? = some p.1 := by rw [List.getElem?_map, f2]; simp [f2']
            have hij : i = j := nodup_inj h2.nodup g1 g2
            subst hij
            rw [← hie, ← hje]
      · intro k hk'
        simp only [List.getLast?_append, List.getLast?_singleton, Option.some_or, Option.some.injEq] at hk'
        subst hk'
        exact ⟨left[t], hx1, hk, by simp⟩
    · subst hw; rw [← hwh]; exact tw_set

theorem OpOk.entry {x : Operand} {r b : Nat} {L : List (Int × Value)} {vis : List Int} {k : Int} {v : Value} (hit : It H r b L (vis ++ [k])) (hkv : (k, v) ∈ L) (hx : ev e x = some (.pointer (some ⟨r, 0, none⟩))) :
    OpOk P e (.entry x) H (.tuple #[.int .i64 k, v]) := by
  intro ρ o w ho hev hw
  obtain ⟨es, c, seen, h1, h2, h3, h4, h5, h6, h7⟩ := hit
  have hgb : (getObj b).run P w = .ok (.map es c) w := by simp [getObj, Sem.run, hw, h1]
  have hgr : (getObj r).run P w = .ok (.mapIter (some b) c seen c) w := by simp [getObj, Sem.run, hw, h3]
  obtain ⟨x0, hx0, hk0, hs0⟩ := h7 k (by simp)
  have hfind : es.find? (fun y => y.born == x0.born) = some x0 := by
    obtain ⟨j, hj, hje⟩ := List.getElem_of_mem hx0
    have hj' : j < es.size := by simpa using hj
    have hje' : es[j] = x0 := by simpa using hje
    rw [Array.find?_eq_some_iff_getElem]
    refine ⟨by simp, j, hj', hje', fun i hij => ?_⟩
    have hi' : i < es.size := by omega
    simp only [Bool.not_eq_true', beq_eq_false_iff_ne, ne_eq]
    intro e1
    have := nodup_inj h2.stamps (i := i) (j := j) (a := x0.born) (by simp [hi', e1]) (by simp [hj', hje'])
    omega
  have hval : x0.val = v := by
    have h8 : (x0.key, x0.val) ∈ L.map (fun p => (Value.int .i64 p.1, p.2)) := by rw [← h2.ents]; exact List.mem_map.2 ⟨_, hx0, rfl⟩
    obtain ⟨p, hp1, hp2⟩ := List.mem_map.1 h8
    rw [hk0] at hp2
    simp only [Prod.mk.injEq, Value.int.injEq, true_and] at hp2
    obtain ⟨i, hi, hie⟩ := List.getElem_of_mem hp1
    obtain ⟨j, hj, hje⟩ := List.getElem_of_mem hkv
    have g1 : (L.map (·.1))[i]? = some k := by rw [List.getElem?_map, List.getElem?_eq_getElem hi, hie]; simp [hp2.1]
    have g2 : (L.map (·.1))[j]? = some k := by rw [List.getElem?_map, List.getElem?_eq_getElem hj, hje]; simp
    have hij : i = j := nodup_inj h2.nodup g1 g2
    subst hij
    rw [hie] at hje
    rw [← hp2.2, hje]
  simp only [execOp, ho, hev _ _ hx, Instr.entry]
  simp only [Sem.run_bind, Result.andThen_ok, hgr, hgb, hs0, hfind]
  simp [hk0, hval]

/- ---------------------------------------------- more of maps -/
theorem Im.nodup {b : Nat} {L : List (Int × Value)} (h : Im H b L) : (L.map (·.1)).Nodup := by obtain ⟨_, _, _, h⟩ := h; exact h.nodup
theorem lkM_mem {L : List (Int × Value)} (hn : (L.map (·.1)).Nodup) {k : Int} {v : Value} : (k, v) ∈ L ↔ lkM L k = some v := by
  induction L with
  | nil => simp [lkM]
  | cons p r ih =>
    simp only [List.map_cons, List.nodup_cons] at hn
    by_cases h : p.1 = k
    · have h1 : lkM (p :: r) k = some p.2 := by simp [lkM, h]
      rw [h1]
      constructor
      · intro hm
        rcases List.mem_cons.1 hm with h2 | h2
        · rw [← h2]
        · exact absurd (h ▸ List.mem_map.2 ⟨_, h2, rfl⟩) hn.1
      · intro h2
        injection h2 with h2
        exact List.mem_cons.2 (.inl (by rw [← h, ← h2]))
    · have h1 : lkM (p :: r) k = lkM r k := by simp [lkM, h]
      rw [h1, ← ih hn.2]
      simp only [List.mem_cons]
      constructor
      · rintro (h2 | h2)
        · exact absurd (by rw [← h2]) h
        · exact h2
      · exact .inr
theorem It.len {r b : Nat} {L : List (Int × Value)} {vis : List Int} (h : It H r b L vis) : vis.length ≤ L.length := by
  obtain ⟨es, c, seen, h1, h2, h3, h4, h5, _⟩ := h
  have := List.Nodup.length_le_of_subset h4 (fun k hk => h5 k hk)
  simpa using this
theorem It.sub {r b : Nat} {L : List (Int × Value)} {vis : List Int} (h : It H r b L vis) : ∀ k ∈ vis, k ∈ L.map (·.1) := by
  obtain ⟨es, c, seen, h1, h2, h3, h4, h5, _⟩ := h; exact h5
theorem It.nodup {r b : Nat} {L : List (Int × Value)} {vis : List Int} (h : It H r b L vis) : vis.Nodup := by
  obtain ⟨es, c, seen, h1, h2, h3, h4, h5, _⟩ := h; exact h4
theorem It.kp {B r b : Nat} {H' : Heap} {L : List (Int × Value)} {vis : List Int} (h : It H r b L vis) (hk : Kp B H H') (hr : r < B) (hb : b < B) : It H' r b L vis := h.of (hk.2 r hr) (hk.2 b hb)
/-- the next step, both ways in one -/
theorem OpCh.next1 {x : Operand} {r b : Nat} {L : List (Int × Value)} {vis : List Int} (hrb : r ≠ b) (hit : It H r b L vis) (hx : ev e x = some (.pointer (some ⟨r, 0, none⟩))) :
    OpCh P e (.next x false) H (fun u H' => ∃ more vs, u = .tuple vs ∧ vs[0]? = some (.bool more) ∧ (more = false → (∀ k ∈ L.map (·.1), k ∈ vis) ∧ H' = H) ∧
      (more = true → ∃ k v, (k, v) ∈ L ∧ k ∉ vis ∧ It H' r b L (vis ++ [k]) ∧ Tw r H H')) := by
  intro ρ o w ho hev hw
  obtain ⟨u, w', h1, h2, h3, h4, h5⟩ := OpCh.next (P := P) (e := e) hrb hit hx ρ o w ho hev hw
  refine ⟨u, w', h1, h2, h3, h4, ?_⟩
  rcases h5 with ⟨rfl, h6, h7⟩ | ⟨k, v, rfl, h6⟩
  · exact ⟨false, _, rfl, rfl, fun _ => ⟨h6, h7⟩, fun h => (by cases h)⟩
  · exact ⟨true, _, rfl, rfl, fun h => (by cases h), fun _ => ⟨k, v, h6⟩⟩

/- ---------------------------------------------- delete -/
theorem erase_map {α β : Type} (f : α → β) : ∀ (l : List α) (j : Nat), (l.eraseIdx j).map f = (l.map f).eraseIdx j
  | [], _ => rfl
  | _ :: _, 0 => rfl
  | a :: l, j + 1 => by simp [erase_map f l j]
theorem ImAt.erase {es : Array MapEntry} {c j : Nat} {L : List (Int × Value)} (h : ImAt es c L) : ImAt (es.eraseIdxIfInBounds j) c (L.eraseIdx j) := by
  have ht : (es.eraseIdxIfInBounds j).toList = es.toList.eraseIdx j := by
    unfold Array.eraseIdxIfInBounds
    split
    · simp
    · rw [List.eraseIdx_of_length_le (by simp; omega)]
  refine ⟨?_, ?_, ?_, ?_⟩
  · rw [ht, erase_map, h.ents, erase_map]
  · rw [erase_map]; exact List.Nodup.sublist (List.eraseIdx_sublist ..) h.nodup
  · intro x hx; rw [ht] at hx; exact h.born x (List.mem_of_mem_eraseIdx hx)
  · rw [ht, erase_map]; exact List.Nodup.sublist (List.eraseIdx_sublist ..) h.stamps
theorem lkM_erase {L : List (Int × Value)} (hn : (L.map (·.1)).Nodup) {j : Nat} {k : Int} {u : Value} (hj : L[j]? = some (k, u)) (m : Int) : lkM (L.eraseIdx j) m = if m = k then none else lkM L m := by
  have hn' : ((L.eraseIdx j).map (·.1)).Nodup := by rw [erase_map]; exact List.Nodup.sublist (List.eraseIdx_sublist ..) hn
  have hmem : ∀ v, lkM (L.eraseIdx j) m = some v ↔ m ≠ k ∧ lkM L m = some v := by
    intro v
    rw [← lkM_mem hn', ← lkM_mem hn, List.mem_eraseIdx_iff_getElem?]
    constructor
    · rintro ⟨i, hi, he⟩
      refine ⟨fun e1 => hi ?_, List.mem_of_getElem? he⟩
      subst e1
      refine nodup_inj hn (a := m) ?_ ?_
      · rw [List.getElem?_map, he]; rfl
      · rw [List.getElem?_map, hj]; rfl
    · rintro ⟨h1, h2⟩
      obtain ⟨i, hi⟩ := List.getElem?_of_mem h2
      refine ⟨i, fun e1 => h1 ?_, hi⟩
      subst e1; rw [hi] at hj; injection hj with h3; exact congrArg (·.1) h3
  by_cases e1 : m = k
  · rw [if_pos e1]
    cases h : lkM (L.eraseIdx j) m with
    | none => rfl
    | some v => exact absurd e1 ((hmem v).1 h).1
  · rw [if_neg e1]
    cases h : lkM (L.eraseIdx j) m with
    | some v => exact ((hmem v).1 h).2.symm
    | none =>
      cases h2 : lkM L m with
      | none => rfl
      | some v => rw [(hmem v).2 ⟨e1, h2⟩] at h; cases h
theorem OpCh.delete {T K E : TypeId} {x ix : Operand} {t2 : TypeId} {b : Nat} {L : List (Int × Value)} {k : Int} (hT : P.underlying T = some (.map K E)) (hK : P.underlying K = some (.int .i64)) (hm : Im H b L)
    (hx : ev e x = some (.map (some b))) (hi : ev e ix = some (.int .i64 k)) : OpCh P e (.call { callee := .builtin .delete, args := #[x, ix], argTypes := #[T, t2] }) H (fun _ H' => ∃ L', Im H' b L' ∧ (∀ m, lkM L' m = if m = k then none else lkM L m) ∧ Tw b H H') := by
  intro ρ o w ho hev hw
  obtain ⟨es, c, h1, h2⟩ := hm
  have hget : (getObj b).run P w = .ok (.map es c) w := by simp [getObj, Sem.run, hw, h1]
  have hck : (Instr.checkKey es.isEmpty 10000 K (.int .i64 k)).run P w = .ok () w := run_checkKey hK _ 9999 k w
  have hfind := run_findKey hK h2 k w
  have hb : b < w.heap.size := by rw [hw]; exact (Array.getElem?_eq_some_iff.1 h1).1
  have hset : ∀ o' : Obj, (setObj b o').run P w = .ok () { w with heap := w.heap.setIfInBounds b o' } := by
    intro o'; simp [setObj, Sem.run, hw, h1]
  have hnew : ∀ o' : Obj, (w.heap.setIfInBounds b o')[b]? = some o' := by intro o'; simp [hb]
  cases hf : L.zipIdx.find? (fun q => q.1.1 == k) with
  | none =>
    obtain ⟨hk, hu⟩ := find_none hf
    rw [hf] at hfind
    simp only [Option.map_none] at hfind
    refine ⟨.tuple #[], { w with heap := w.heap.setIfInBounds b (.map es c) }, .inl ?_, rfl, rfl, rfl, ?_⟩
    · simp only [execOp, ho, resolve, List.map_toArray, List.map_cons, List.map_nil, hev _ _ hx, hev _ _ hi]
      simp only [Sem.run_bind, Sem.run_pure, Result.andThen_ok, invoke, builtin, Builtin.delete_]
      simp [run_underlying hT, hget, hck, hfind, hset]
    · subst hw
      refine ⟨L, ⟨_, _, hnew _, h2⟩, fun m => ?_, tw_set⟩
      by_cases e1 : m = k
      · subst e1; rw [if_pos rfl]; exact lkM_none.2 hk
      · rw [if_neg e1]
  | some q =>
    obtain ⟨j, hj1, hj2, hj3, hj4⟩ := find_some hf
    rw [hf] at hfind
    simp only [Option.map_some] at hfind
    have hj5 : q.2 = j := by omega
    rw [hj5] at hfind
    refine ⟨.tuple #[], { w with heap := w.heap.setIfInBounds b (.map (es.eraseIdxIfInBounds j) c) }, .inl ?_, rfl, rfl, rfl, ?_⟩
    · simp only [execOp, ho, resolve, List.map_toArray, List.map_cons, List.map_nil, hev _ _ hx, hev _ _ hi]
      simp only [Sem.run_bind, Sem.run_pure, Result.andThen_ok, invoke, builtin, Builtin.delete_]
      simp [run_underlying hT, hget, hck, hfind, hset]
    · subst hw
      exact ⟨_, ⟨_, _, hnew _, h2.erase⟩, lkM_erase h2.nodup (u := q.1.2) (by rw [hj2, ← hj3]), tw_set⟩
end Go.JE
