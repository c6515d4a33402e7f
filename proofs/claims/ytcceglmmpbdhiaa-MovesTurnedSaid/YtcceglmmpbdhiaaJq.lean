/- The walking engine: calls, fields, arrays, slices of slices. Conditions: each rule names its own; lemmas over any program. -/
import Derived.Test.YtcceglmmpbdhiaaJp
namespace Go.JE
set_option linter.unusedVariables false
set_option linter.unusedSimpArgs false
set_option linter.unusedSectionVars false
variable {P : Program} {e : Env} {H : Heap}

/- ---------------------------------------------- calls of Go functions -/
def Ent (P : Program) (f : FuncId) : Prop := ∃ fn, P.funcs[f]? = some fn ∧ (fn.name == "runtime.NumGoroutine") = false ∧ fn.body.isNone = false
theorem Ent.run {f : FuncId} (h : Ent P f) (args : Array Value) (w : World) : (callFunc f args).run P w = .ok (.enter f args) w := by
  obtain ⟨fn, h1, h2, h3⟩ := h
  simp only [callFunc, Sem.run_bind, run_program, Result.andThen_ok, h1, h2, h3, Bool.false_eq_true, if_false]
  rfl
def evl (e : Env) : List Operand → Option (List Value)
  | [] => some []
  | x :: r => match ev e x, evl e r with
    | some v, some l => some (v :: l)
    | _, _ => none
theorem evl_map {ρ : Operand → Value} (hev : ∀ x u, ev e x = some u → ρ x = u) : ∀ (l : List Operand) (r : List Value), evl e l = some r → l.map ρ = r
  | [], r, h => by simp [evl] at h; subst h; rfl
  | x :: l, r, h => by
    simp only [evl] at h
    cases h1 : ev e x with
    | none => simp [h1] at h
    | some v =>
      cases h2 : evl e l with
      | none => simp [h1, h2] at h
      | some m =>
        simp only [h1, h2, Option.some.injEq] at h
        subst h
        simp only [List.map_cons, hev _ _ h1, evl_map hev l m h2]
theorem OpCall.fnc {f : FuncId} {g : Operand} {l : List Operand} {vs cs : List Value} {ts : Array TypeId} (hE : Ent P f) (hf : ev e g = some (.func (.func f) #[] cs.toArray)) (hl : evl e l = some vs) :
    OpCall P e (.call { callee := .value g, args := l.toArray, argTypes := ts }) H f (vs ++ cs).toArray := by
  intro ρ o w ho hev _
  have h1 : l.toArray.map ρ = vs.toArray := by rw [← evl_map hev l vs hl]; simp
  have h2 := hE.run (vs ++ cs).toArray w
  simp only [execOp, ho, resolve, h1, hev _ _ hf, Deferred.ofValue]
  simp only [Sem.run_bind, Sem.run_pure, Result.andThen_ok, invoke]
  rw [show (#[] ++ vs.toArray ++ cs.toArray : Array Value) = (vs ++ cs).toArray by simp]
  exact h2
theorem OpCall.fn {f : FuncId} {g : Operand} {l : List Operand} {vs : List Value} {ts : Array TypeId} (hE : Ent P f) (hf : ev e g = some (.func (.func f) #[] #[])) (hl : evl e l = some vs) :
    OpCall P e (.call { callee := .value g, args := l.toArray, argTypes := ts }) H f vs.toArray := by
  have := OpCall.fnc (ts := ts) (H := H) (cs := []) hE hf hl
  simpa using this

/- ---------------------------------------------- fields, arrays -/
def Fld (P : Program) (T : TypeId) (i off : Nat) : Prop := ∃ fs f, P.underlying T = some (.struct fs) ∧ fs[i]? = some f ∧ f.offset = off ∧ ∃ s, Sz P f.type s ∧ s ≠ 0
theorem Addr.add_none (b o n : Nat) : (⟨b, o, none⟩ : Addr).add n = ⟨b, o + n, none⟩ := by
  unfold Addr.add; split
  · rename_i h; rw [h]; rfl
  · rfl
theorem OpOk.fieldAddr {T : TypeId} {x : Operand} {i off b o : Nat} (hF : Fld P T i off) (hx : ev e x = some (.pointer (some ⟨b, o, none⟩))) : OpOk P e (.fieldAddr T x i) H (.pointer (some ⟨b, o + off, none⟩)) := by
  intro ρ oo w ho hev _
  obtain ⟨fs, f, h1, h2, rfl, s, h3, h4⟩ := hF
  simp [execOp, ho, hev _ _ hx, Instr.fieldAt, run_underlying h1, h2, Instr.sureAddr, fieldPlace, h3.run, h4, Addr.add_none]
theorem OpOk.indexArr {T E : TypeId} {x ix : Operand} {b o len s i : Nat} {k : IntKind} {I : Int} (hT : P.underlying T = some (.array len E)) (hE : Sz P E s) (hx : ev e x = some (.pointer (some ⟨b, o, none⟩))) (hi : ev e ix = some (.int k I)) (hI : I = i) (h1 : i < len) :
    OpOk P e (.indexAddr T x ix) H (.pointer (some ⟨b, o + i * s, none⟩)) := by
  intro ρ oo w ho hev _
  subst hI
  simp [execOp, ho, hev _ _ hx, hev _ _ hi, Instr.indexAt, asIntOf, run_underlying hT, Instr.sureAddr, h1, hE.run, Addr.add_none]
theorem OpOk.loadAgg {T : TypeId} {x : Operand} {b o m : Nat} {l : List Value} (hT : ∃ d, P.underlying T = some d ∧ (match d with | .struct _ | .array _ _ => true | _ => false) = true) (hS : Sz P T m) (hx : ev e x = some (.pointer (some ⟨b, o, none⟩))) (hl : l.length = m)
    (hcell : ∀ j u, l[j]? = some u → hc H b (o + j) = some u) : OpOk P e (.load T x) H (.agg l.toArray) := by
  intro ρ oo w ho hev hw
  obtain ⟨d, hd, hm⟩ := hT
  have hag : (isAgg T).run P w = .ok true w := by cases d <;> simp_all [isAgg, run_underlying hd]
  have hload := run_loadCells_list (P := P) w ⟨b, o, none⟩ l (fun j v hj => by rw [Addr.add_none, cell_hc, hw]; exact hcell j v hj)
  subst hl
  simp [execOp, ho, hev _ _ hx, Instr.loadAt, Instr.sureAddr, loadVar, hag, hS.run, hload]
/-- a field of a struct that is a value -/
theorem OpOk.fieldOne {T : TypeId} {x : Operand} {i off : Nat} {cs : Array Value} {v : Value} {t : TypeId} (hF : ∃ fs f, P.underlying T = some (.struct fs) ∧ fs[i]? = some f ∧ f.offset = off ∧ f.type = t) (ht : One P t) (hx : ev e x = some (.agg cs)) (hv : cs[off]? = some v) :
    OpOk P e (.field T x i) H v := by
  intro ρ o w ho hev _
  obtain ⟨fs, f, h1, h2, rfl, rfl⟩ := hF
  simp [execOp, ho, hev _ _ hx, Instr.field, run_underlying h1, h2, asAgg, part, ht.run, hv]
theorem OpOk.fieldAgg {T : TypeId} {x : Operand} {i off s : Nat} {cs ds : Array Value} {t : TypeId} (hF : ∃ fs f, P.underlying T = some (.struct fs) ∧ fs[i]? = some f ∧ f.offset = off ∧ f.type = t) (ht : ∃ d, P.underlying t = some d ∧ (match d with | .struct _ | .array _ _ => true | _ => false) = true) (hS : Sz P t s)
    (hx : ev e x = some (.agg cs)) (hv : cs.extract off (off + s) = ds) : OpOk P e (.field T x i) H (.agg ds) := by
  intro ρ o w ho hev _
  obtain ⟨fs, f, h1, h2, rfl, rfl⟩ := hF
  obtain ⟨d, hd, hm⟩ := ht
  have hag : (isAgg f.type).run P w = .ok true w := by cases d <;> simp_all [isAgg, run_underlying hd]
  simp [execOp, ho, hev _ _ hx, Instr.field, run_underlying h1, h2, asAgg, part, hag, hS.run, hv]

/- ---------------------------------------------- a slice of a slice -/
def resl (s : Nat) (v : Value) (lo hi : Nat) : Value := match v with
  | .slice a _ c => .slice (if c = lo then a else a.map (·.add (lo * s))) (hi - lo) (c - lo)
  | v => v
theorem Sl.resl {B : Nat} {v : Value} {s n lo hi : Nat} {f : Nat → Value} (h : Sl H B v s n f) (h1 : lo ≤ hi) (h2 : hi ≤ n) : Sl H B (resl s v lo hi) s (hi - lo) (fun i => f (lo * s + i)) := by
  obtain ⟨h0, a, cap, rfl, hcap, h⟩ := h
  refine ⟨by omega, _, _, rfl, by omega, fun i hi' => ?_⟩
  have hb : lo * s + i < n * s := by
    have : (hi - lo) * s + lo * s ≤ n * s := by rw [← Nat.add_mul]; exact Nat.mul_le_mul_right s (by omega)
    omega
  obtain ⟨b, o, rfl, h3, h4⟩ := h _ hb
  have hc' : ¬ cap = lo := by
    intro e1
    have : n * s ≤ lo * s := Nat.mul_le_mul_right s (by omega)
    omega
  refine ⟨b, o + lo * s, ?_, h3, ?_⟩
  · rw [if_neg hc']; simp [Addr.add_none]
  · rw [Nat.add_assoc]; exact h4
theorem sliceBound_ok {k : IntKind} {i : Int} {y : Nat} {c : BoundsCode} (h0 : 0 ≤ i) (h1 : i ≤ y) (w : World) : (Instr.sliceBound (.int k i) y c).run P w = .ok i.toNat w := run_sliceBound w k i y c h0 h1
section
variable {T E : TypeId} {x lx hx' : Operand} {B : Nat} {v : Value} {s n lo hi : Nat} {f : Nat → Value} {k k' : IntKind} {I J : Int}
theorem OpOk.sliceBoth (hT : P.underlying T = some (.slice E)) (hE : Sz P E s) (hs : Sl H B v s n f) (hx : ev e x = some v) (hl : ev e lx = some (.int k I)) (hh : ev e hx' = some (.int k' J)) (hI : I = lo) (hJ : J = hi) (h1 : lo ≤ hi) (h2 : hi ≤ n) :
    OpOk P e (.slice T x (some lx) (some hx') none) H (resl s v lo hi) := by
  intro ρ o w ho hev _
  subst hI; subst hJ
  obtain ⟨_, a, cap, rfl, hcap, _⟩ := hs
  have b1 := sliceBound_ok (P := P) (k := k') (i := (hi : Int)) (y := cap) (c := .sliceAcap) (by omega) (by omega) w
  have b2 := sliceBound_ok (P := P) (k := k) (i := (lo : Int)) (y := hi) (c := .sliceB) (by omega) (by omega) w
  simp only [Int.toNat_natCast] at b1 b2
  simp [execOp, ho, hev _ _ hx, hev _ _ hl, hev _ _ hh, Instr.sliceAt, Instr.slice, Instr.sliceBounds, run_underlying hT, b1, b2, hE.run, JE.resl]
theorem OpOk.sliceHi (hT : P.underlying T = some (.slice E)) (hE : Sz P E s) (hs : Sl H B v s n f) (hx : ev e x = some v) (hh : ev e hx' = some (.int k' J)) (hJ : J = hi) (h2 : hi ≤ n) :
    OpOk P e (.slice T x none (some hx') none) H (resl s v 0 hi) := by
  intro ρ o w ho hev _
  subst hJ
  obtain ⟨_, a, cap, rfl, hcap, _⟩ := hs
  have b1 := sliceBound_ok (P := P) (k := k') (i := (hi : Int)) (y := cap) (c := .sliceAcap) (by omega) (by omega) w
  simp only [Int.toNat_natCast] at b1
  simp [execOp, ho, hev _ _ hx, hev _ _ hh, Instr.sliceAt, Instr.slice, Instr.sliceBounds, run_underlying hT, b1, hE.run, JE.resl]
theorem OpOk.sliceLo (hT : P.underlying T = some (.slice E)) (hE : Sz P E s) (hs : Sl H B v s n f) (hx : ev e x = some v) (hl : ev e lx = some (.int k I)) (hI : I = lo) (h2 : lo ≤ n) :
    OpOk P e (.slice T x (some lx) none none) H (resl s v lo n) := by
  intro ρ o w ho hev _
  subst hI
  obtain ⟨_, a, cap, rfl, hcap, _⟩ := hs
  have b2 := sliceBound_ok (P := P) (k := k) (i := (lo : Int)) (y := n) (c := .sliceB) (by omega) (by omega) w
  simp only [Int.toNat_natCast] at b2
  simp [execOp, ho, hev _ _ hx, hev _ _ hl, Instr.sliceAt, Instr.slice, Instr.sliceBounds, run_underlying hT, b2, hE.run, JE.resl]
end

/- ---------------------------------------------- min, max of two -/
theorem OpOk.min {x y : Operand} {k : IntKind} {m n : Int} {ts : Array TypeId} (hx : ev e x = some (.int k m)) (hy : ev e y = some (.int k n)) : OpOk P e (.call { callee := .builtin .min, args := #[x, y], argTypes := ts }) H (.int k (if n < m then n else m)) := by
  intro ρ o w ho hev _
  simp [execOp, ho, hev _ _ hx, hev _ _ hy, resolve, invoke, builtin, Builtin.min_, Builtin.min2]
theorem OpOk.max {x y : Operand} {k : IntKind} {m n : Int} {ts : Array TypeId} (hx : ev e x = some (.int k m)) (hy : ev e y = some (.int k n)) : OpOk P e (.call { callee := .builtin .max, args := #[x, y], argTypes := ts }) H (.int k (if n > m then n else m)) := by
  intro ρ o w ho hev _
  simp [execOp, ho, hev _ _ hx, hev _ _ hy, resolve, invoke, builtin, Builtin.max_, Builtin.max2]

/- ---------------------------------------------- a value of several cells stored -/
def setl (H : Heap) (b o : Nat) : List Value → Heap
  | [] => H
  | v :: r => setl (setc H b o v) b (o + 1) r
theorem size_setl (b : Nat) : ∀ (l : List Value) (o : Nat) (H : Heap), (setl H b o l).size = H.size
  | [], _, _ => rfl
  | v :: r, o, H => by rw [setl, size_setl b r, size_setc]
theorem setl_other {b k : Nat} (hk : k ≠ b) : ∀ (l : List Value) (o : Nat) (H : Heap), (setl H b o l)[k]? = H[k]?
  | [], _, _ => rfl
  | v :: r, o, H => by rw [setl, setl_other hk r, setc_other hk]
theorem Rw.setl {b n : Nat} {T : TypeId} : ∀ (l : List Value) (o : Nat) (H : Heap) (f : Nat → Value), Rw H b T n f → Rw (setl H b o l) b T n (fun j => if o ≤ j ∧ j < o + l.length then l.getD (j - o) undef else f j)
  | [], o, H, f, h => h.congr (fun i _ => by rw [if_neg (by simp only [List.length_nil]; omega)])
  | v :: r, o, H, f, h => by
    refine (Rw.setl r (o + 1) _ _ (h.set (i := o) (v := v))).congr (fun j _ => ?_)
    by_cases h1 : j = o
    · subst h1; rw [if_neg (by omega), if_pos rfl, if_pos (by simp only [List.length_cons]; omega)]; simp
    · by_cases h2 : o ≤ j ∧ j < o + (r.length + 1)
      · rw [if_pos (by omega), if_pos (by simp; omega)]
        rw [show j - o = (j - (o + 1)) + 1 by omega]; simp
      · rw [if_neg (by omega), if_neg h1, if_neg (by simp; omega)]
theorem run_storeCells {P : Program} {b n : Nat} {E : TypeId} : ∀ (l : List Value) (o i : Nat) (w : World) (f : Nat → Value), (∀ u ∈ l, u.oneCell' = true) → Rw w.heap b E n f → o + i + l.length ≤ n →
    ∃ w', (storeCells ⟨b, o, none⟩ l i).run P w = .ok () w' ∧ w'.heap = setl w.heap b (o + i) l ∧ w'.os = w.os ∧ w'.tape = w.tape ∧ w'.output = w.output
  | [], o, i, w, f, _, _, _ => ⟨w, rfl, rfl, rfl, rfl, rfl⟩
  | v :: r, o, i, w, f, h1, hr, hn => by
    have hv := h1 v (by simp)
    simp only [List.length_cons] at hn
    have hcell : w.cell? ⟨b, o + i, none⟩ = some (f (o + i)) := by rw [cell_hc]; exact hr.cell (by omega)
    have hfr : w.frozen? ⟨b, o + i, none⟩ = false := by obtain ⟨c, hc1, _⟩ := hr; simp [World.frozen?, hc1]
    obtain ⟨w', e1, e2, e3, e4, e5⟩ := run_storeCells (P := P) r o (i + 1) (w.setCell ⟨b, o + i, none⟩ v) _ (fun u hu => h1 u (by simp [hu])) (by rw [setCell_setc]; exact hr.set (i := o + i) (v := v)) (by omega)
    refine ⟨w', ?_, ?_, e3, e4, e5⟩
    · simp only [storeCells]
      rw [run_bind_ok (a := ()) (w' := w.setCell ⟨b, o + i, none⟩ v)]
      · exact e1
      · rw [Addr.add_none, run_store P w _ _ _ hv, hcell, hfr]; rfl
    · rw [e2, setCell_setc, ← Nat.add_assoc]; rfl
theorem OpCh.storeAgg {T : TypeId} {x y : Operand} {b o n m : Nat} {E : TypeId} {f : Nat → Value} {l : List Value} (hT : Sz P T m) (hx : ev e x = some (.pointer (some ⟨b, o, none⟩))) (hy : ev e y = some (.agg l.toArray)) (hl : l.length = m) (h1 : ∀ u ∈ l, u.oneCell' = true) (hr : Rw H b E n f) (hn : o + m ≤ n) :
    OpCh P e (.store T x y) H (fun _ H' => H' = setl H b o l) := by
  intro ρ oo w ho hev hw
  subst hw
  obtain ⟨w', e1, e2, e3, e4, e5⟩ := run_storeCells (P := P) l o 0 w f h1 hr (by omega)
  refine ⟨undef, w', .inr ⟨?_, rfl⟩, e3, e4, e5, by simpa using e2⟩
  have hcs : (Value.agg l.toArray).cells = l.toArray := rfl
  simp [execOp, ho, hev _ _ hx, hev _ _ hy, Instr.storeAt, Instr.sureAddr, storeVar, hT.run, hcs, hl, e1]

/- ---------------------------------------------- one element appended: 'append(x, y)' -/
theorem foldl_set : ∀ (l : List Value) (k : Nat) (cs : Array Value), k + l.length = cs.size → (l.zipIdx k).foldl (fun cs p => cs.setIfInBounds (0 + p.2) p.1) cs = (cs.toList.take k ++ l).toArray
  | [], k, cs, h => by
    simp only [List.zipIdx_nil, List.foldl_nil, List.append_nil]
    rw [List.take_of_length_le (by simp at h ⊢; omega)]
  | v :: r, k, cs, h => by
    simp only [List.length_cons] at h
    rw [List.zipIdx_cons, List.foldl_cons, foldl_set r (k + 1) _ (by simp; omega)]
    congr 1
    simp only [Nat.zero_add, Array.toList_setIfInBounds]
    rw [List.take_succ_eq_append_getElem (by simp; omega), List.take_set_of_le (Nat.le_refl k)]
    simp
theorem OpCh.lit {T E : TypeId} {y : Operand} {s bytes : Nat} {z u : Value} {l : List Value} (hT : P.underlying T = some (.slice E)) (hE : (P.info? E).map (fun i => (i.zero, i.size, i.bytes)) = some (some z, s, bytes)) (hs : 0 < s) (hs' : s ≤ 1000)
    (hy : ev e y = some u) (hu : u.cells = l.toArray) (hl : l.length = s) : OpCh P e (.buildSlice T 1 #[(0, y)]) H (fun v H' => v = .slice (some ⟨H.size, 0, none⟩) 1 1 ∧ H' = H.push (.cells l.toArray E)) := by
  intro ρ o w ho hev hw
  obtain ⟨i, hi, hz0, hz1, hz2⟩ := info_parts hE
  refine ⟨.slice (some ⟨w.heap.size, 0, none⟩) 1 1, { w with heap := w.heap.push (.cells l.toArray E) }, .inl ?_, rfl, rfl, rfl, by subst hw; exact ⟨rfl, rfl⟩⟩
  have hsz : (sizeOf E).run P w = .ok s w := by simp [sizeOf, typeInfo, hi, hz1]
  have hzv : (zeroValue E).run P w = .ok z w := by simp [zeroValue, typeInfo, hi, hz0]
  have hfill : ∀ cs : Array Value, cs.size = s → Instr.fill (fun i => some (i * s, s)) cs [(0, u)] = some l.toArray := by
    intro cs hcs
    have h1 : ¬ (u.cells.size ≠ s || 0 * s + u.cells.size > cs.size) = true := by rw [hu]; simp [hl, hcs]
    simp only [Instr.fill]
    rw [if_neg h1, hu]
    have := foldl_set l 0 cs (by omega)
    simp only [List.take_zero, List.nil_append] at this
    rw [← Array.foldl_toList]
    simpa using this
  simp only [execOp, ho, List.map_toArray, List.map_cons, List.map_nil, hev _ _ hy, Instr.buildSlice]
  simp only [Sem.run_bind, run_underlying hT, Result.andThen_ok, hsz, Nat.one_mul]
  rw [if_neg (by omega : ¬ s > 2 ^ 24)]
  have hs0 : ¬ s = 0 := by omega
  simp only [hs0, if_false, Sem.run_bind, Sem.run_pure, Result.andThen_ok, hzv]
  rw [hfill _ (by simp)]
  simp [newRow]
theorem hn_new {E : TypeId} (l : List Value) : ∀ j u, l[j]? = some u → hc (H.push (.cells l.toArray E)) H.size (0 + j) = some u := by
  intro j u h
  simp [hc, h]

section
variable {n' : Fs} {w0 : World} {Q : Exit → Act → World → Prop} {ops : Array Oper} {d1 d2 : Nat} {ty ty2 : TypeId} {pos pos2 : String} {af af2 : Array Edge} {rest : List Oper}
theorem LF.app {T E : TypeId} {x y : Operand} {B s bytes n : Nat} {z v u : Value} {xs l : List Value} (hT : P.underlying T = some (.slice E)) (hE : (P.info? E).map (fun i => (i.zero, i.size, i.bytes)) = some (some z, s, bytes)) (hz : z.cells.size = s) (hs : 0 < s) (hs' : s ≤ 1000)
    (hy : ev e y = some u) (hu : u.cells = l.toArray) (hl : l.length = s) (h1 : ∀ u ∈ l, u.oneCell' = true) (hx : ev ((d1, .slice (some ⟨H.size, 0, none⟩) 1 1) :: e) x = some v) (hown : Gr H B E s v n xs)
    (hb : (n + 1) * bytes ≤ 140737488355328) (hbn : n + 1 ≤ 140737488355328) (hB : B ≤ H.size)
    (K : ∀ v' H', Gr H' B E s v' (n + 1) (xs ++ l) → GrownBy H H' v.ownBlock → v' ≠ .slice none 0 0 → (v'.ownBlock = v.ownBlock ∨ ∃ g, v'.ownBlock = some g ∧ H.size ≤ g) → LF P n' w0 ops Q ((d2, v') :: (d1, .slice (some ⟨H.size, 0, none⟩) 1 1) :: e) rest H')
    (hd1 : Nat.blt d1 n'.sz = true := by rfl) (hd2 : Nat.blt d2 n'.sz = true := by rfl) :
    LF P n' w0 ops Q e (⟨some d1, .buildSlice T 1 #[(0, y)], ty, pos, af, none⟩ :: ⟨some d2, .call { callee := .builtin .append, args := #[x, .tmp d1], argTypes := #[T, T] }, ty2, pos2, af2, none⟩ :: rest) H := by
  refine LF.chg (OpCh.lit hT hE hs hs' hy hu hl) ?_ hd1
  rintro _ _ ⟨rfl, rfl⟩
  refine LF.chg (OpCh.append (n := n) (m := 1) (xs := xs) (news := l) hT hE hz hs hx (hown.push _) (b := H.size) (o := 0) (c := 1) (by simp [ev, lk]) (by omega) (hn_new l) h1 hb hbn (by simp; omega)) ?_ hd2
  rintro v' H' ⟨g1, ⟨g2, g2'⟩, g3, g4⟩
  refine K v' H' g1 ⟨by simp at g2; omega, fun k hk hne => (g2' k (by simp; omega) hne).trans (push_old hk)⟩ ?_ ?_
  · intro e1; have := (g3.1 e1).2; omega
  · rcases g4 with g4 | g4
    · exact .inl g4
    · exact .inr ⟨_, g4, by simp⟩
/-- a guarded call of a function that leaves the heap alone -/
theorem LF.gcall {op : Op} {ty : TypeId} {pos : String} {af : Array Edge} {d f : Nat} {args : Array Value} {R : Value → Heap → Prop} {v0 : Value} {e : Env} {H : Heap} {j t : Nat} {want B : Bool} {u : Value} (hj : (ops[j]?).bind (·.dst) = some t) (hu : lk e t = some u) (hB : Gd u want B)
    (h : B = true → OpCall P e op H f args) (hc : B = true → Ct P f args H R) (hr : ∀ v H', R v H' → v = v0 ∧ H' = H)
    (K : LF P n' w0 ops Q ((d, gv B v0) :: e) rest H) (hd : Nat.blt d n'.sz = true := by rfl) (ht : Nat.blt t n'.sz = true := by rfl) : LF P n' w0 ops Q e (⟨some d, op, ty, pos, af, some (j, want)⟩ :: rest) H := by
  intro a w hf hw
  have hwt := wanted_gd (o := ⟨some d, op, ty, pos, af, some (j, want)⟩) rfl hj ht hf hu hB
  refine wpList_step fun K' hK' => ?_
  rw [hwt]
  cases B with
  | true =>
    simp only [if_true]
    unfold Oper.wp
    rw [h rfl a.eval _ w rfl (fun x u hx => hf.ev hx) hw.heap, Oper.upon_enter]
    refine (hc rfl w hw.heap).mono fun x w' ⟨v, hx, h1, h2, h3, hR⟩ => ?_
    subst hx
    obtain ⟨rfl, e1⟩ := hr _ _ hR
    exact hK' _ _ (K _ _ (hf.put hd v) ⟨e1, h1.trans hw.os, h2.trans hw.tape, h3.trans hw.output⟩)
  | false => exact hK' _ _ (K _ _ (hf.put hd undef) hw)
/-- a guarded call of a function that turns the heap -/
theorem LF.gcallR {op : Op} {ty : TypeId} {pos : String} {af : Array Edge} {d f : Nat} {args : Array Value} {R : Value → Heap → Prop} {v0 : Value} {e : Env} {H : Heap} {j t : Nat} {want B : Bool} {u : Value} (hj : (ops[j]?).bind (·.dst) = some t) (hu : lk e t = some u) (hB : Gd u want B)
    (h : B = true → OpCall P e op H f args) (hc : B = true → Ct P f args H R) (hr : ∀ v H', R v H' → v = v0)
    (K : ∀ H', (B = true ∧ R v0 H') ∨ (B = false ∧ H' = H) → LF P n' w0 ops Q ((d, gv B v0) :: e) rest H') (hd : Nat.blt d n'.sz = true := by rfl) (ht : Nat.blt t n'.sz = true := by rfl) : LF P n' w0 ops Q e (⟨some d, op, ty, pos, af, some (j, want)⟩ :: rest) H := by
  intro a w hf hw
  have hwt := wanted_gd (o := ⟨some d, op, ty, pos, af, some (j, want)⟩) rfl hj ht hf hu hB
  refine wpList_step fun K' hK' => ?_
  rw [hwt]
  cases B with
  | true =>
    simp only [if_true]
    unfold Oper.wp
    rw [h rfl a.eval _ w rfl (fun x u hx => hf.ev hx) hw.heap, Oper.upon_enter]
    refine (hc rfl w hw.heap).mono fun x w' ⟨v, hx, h1, h2, h3, hR⟩ => ?_
    subst hx
    obtain rfl := hr _ _ hR
    exact hK' _ _ (K _ (.inl ⟨rfl, hR⟩) _ _ (hf.put hd v) ⟨rfl, h1.trans hw.os, h2.trans hw.tape, h3.trans hw.output⟩)
  | false => exact hK' _ _ (K _ (.inr ⟨rfl, rfl⟩) _ _ (hf.put hd undef) hw)
theorem evl1 {e : Env} {x : Operand} {v : Value} (h : ev e x = some v) : evl e [x] = some [v] := by simp [evl, h]
theorem evl2 {e : Env} {x y : Operand} {v u : Value} (h : ev e x = some v) (h' : ev e y = some u) : evl e [x, y] = some [v, u] := by simp [evl, h, h']
theorem hc_of {H H' : Heap} {b o : Nat} (h : H'[b]? = H[b]?) : hc H' b o = hc H b o := by unfold hc; rw [h]
end
end Go.JE
