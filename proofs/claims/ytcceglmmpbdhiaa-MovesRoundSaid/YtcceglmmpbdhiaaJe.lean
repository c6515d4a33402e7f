/- The walking engine: a sparse frame, a heap alone, rules one operation each. Conditions: none; lemmas over any program. -/
import Derived.WalkKit
import Derived.StillTail
import Derived.Deep.LoopGhost
namespace Go.JE
set_option linter.unusedVariables false
set_option linter.unusedSimpArgs false
set_option linter.unusedSectionVars false

/- ------------------------------------------------------------------ the sparse frame -/
abbrev Env := List (Nat × Value)
abbrev Heap := Array Obj

def lk : Env → Nat → Option Value
  | [], _ => none
  | (k, v) :: r, t => bif Nat.beq k t then some v else lk r t

def ev (e : Env) : Operand → Option Value
  | .tmp t => lk e t
  | .const v => some v
  | .global g => some (.pointer (some ⟨g, 0, none⟩))
  | .func f => some (.func (.func f) #[] #[])

theorem beq_no {a b : Nat} (h : ¬ a = b) : Nat.beq a b = false := by
  cases h1 : Nat.beq a b with
  | false => rfl
  | true => exact absurd (Nat.eq_of_beq_eq_true h1) h

/-- how many slots a frame has, and what is deferred in it -/
structure Fs where
  sz : Nat
  ds : List Deferred
structure Fr (n : Fs) (e : Env) (a : Act) : Prop where
  size : a.tmps.size = n.sz
  defers : a.defers = n.ds
  get : ∀ t v, lk e t = some v → a.tmps.getD t undef = v

theorem Fr.ev {n : Fs} {e : Env} {a : Act} (h : Fr n e a) {x : Operand} {v : Value} (hx : ev e x = some v) : a.eval x = v := by
  cases x with
  | tmp t => exact h.get t v hx
  | const u => simpa [JE.ev, Act.eval] using hx
  | global g => simpa [JE.ev, Act.eval] using hx
  | func f => simpa [JE.ev, Act.eval] using hx

theorem Fr.put {n : Fs} {e : Env} {a : Act} (h : Fr n e a) {d : Nat} (hd : Nat.blt d n.sz = true) (v : Value) : Fr n ((d, v) :: e) (a.put (some d) v) := by
  have hd' : d < n.sz := by simpa [Nat.blt_eq] using hd
  refine ⟨by simp [Act.put, h.size], by simp [Act.put, h.defers], fun t u hu => ?_⟩
  simp only [lk] at hu
  by_cases e1 : d = t
  · subst e1
    have : Nat.beq d d = true := by simp
    rw [this] at hu
    simp only [cond_true, Option.some.injEq] at hu
    subst hu
    simp [Act.put, h.size, hd']
  · have : Nat.beq d t = false := beq_no e1
    rw [this] at hu
    simp only [cond_false] at hu
    have := h.get t u hu
    simp only [Act.put, Array.getD_eq_getD_getElem?] at this ⊢
    rw [Array.getElem?_setIfInBounds_ne e1]
    exact this

theorem Fr.drop {n : Fs} {e : Env} {a : Act} (h : Fr n e a) (v : Value) : Fr n e (a.put none v) := h

/-- the entries of l stand in e -/
def Sub (e : Env) : Env → Prop
  | [] => True
  | (t, v) :: r => lk e t = some v ∧ Sub e r

theorem Sub.get {e : Env} : ∀ {l : Env}, Sub e l → ∀ t v, lk l t = some v → lk e t = some v
  | [], _, t, v, h => by simp [lk] at h
  | (k, u) :: r, hs, t, v, h => by
    simp only [lk] at h
    by_cases e1 : k = t
    · subst e1
      have : Nat.beq k k = true := by simp
      rw [this] at h
      simp only [cond_true, Option.some.injEq] at h
      subst h
      exact hs.1
    · have : Nat.beq k t = false := beq_no e1
      rw [this] at h
      exact Sub.get hs.2 t v h

theorem Fr.sub {n : Fs} {e l : Env} {a : Act} (h : Fr n e a) (hs : Sub e l) : Fr n l a := ⟨h.size, h.defers, fun t v hv => h.get t v (hs.get t v hv)⟩

/-- the world has heap H, and is else as w0 -/
structure Wd (w0 : World) (H : Heap) (w : World) : Prop where
  heap : w.heap = H
  os : w.os = w0.os
  tape : w.tape = w0.tape
  output : w.output = w0.output

theorem Wd.drew {w0 w : World} {H : Heap} (h : Wd w0 H w) : Wd w0 H { w with drawn := w.drawn + 1 } := ⟨h.heap, h.os, h.tape, h.output⟩

theorem eqI {k : IntKind} {a b : Int} (h : a = b) : some (Value.int k a) = some (Value.int k b) := by rw [h]
theorem eqB {a b : Bool} (h : a = b) : some (Value.bool a) = some (Value.bool b) := by rw [h]
theorem and_l {a b : Bool} (h : (a && b) = true) : a = true := by cases a <;> simp_all
theorem and_r {a b : Bool} (h : (a && b) = true) : b = true := by cases a <;> simp_all
/- ------------------------------------------------------------------ goals -/
variable {P : Program} {n : Fs} {w0 : World} {Q : Exit → Act → World → Prop} {e : Env} {H : Heap}

def LF (P : Program) (n : Fs) (w0 : World) (ops : Array Oper) (Q : Exit → Act → World → Prop) (e : Env) (l : List Oper) (H : Heap) : Prop :=
  ∀ a w, Fr n e a → Wd w0 H w → wpList P ops Q l a w
def LS (P : Program) (n : Fs) (w0 : World) (ops : Array Oper) (K : Act → World → Prop) (e : Env) (l : List Oper) (H : Heap) : Prop :=
  ∀ a w, Fr n e a → Wd w0 H w → wpStill P ops w (fun a => K a w) l a
def CF (P : Program) (n : Fs) (w0 : World) (Q : Exit → Act → World → Prop) (e : Env) (c : Code) (H : Heap) : Prop :=
  ∀ a w, Fr n e a → Wd w0 H w → c.wp P Q a w
def PF (n : Fs) (w0 : World) (Q : Exit → Act → World → Prop) (e : Env) (x : Exit) (H : Heap) : Prop :=
  ∀ a w, Fr n e a → Wd w0 H w → Q x a w

/-- an operation that leaves the world alone -/
def OpOk (P : Program) (e : Env) (op : Op) (H : Heap) (v : Value) : Prop :=
  ∀ (ρ : Operand → Value) (o : Oper) (w : World), o.op = op → (∀ x u, ev e x = some u → ρ x = u) → w.heap = H → (execOp ρ o).run P w = .ok (.value v) w

/-- an operation that turns the world: 'skip' where there is no value -/
def OpCh (P : Program) (e : Env) (op : Op) (H : Heap) (R : Value → Heap → Prop) : Prop :=
  ∀ (ρ : Operand → Value) (o : Oper) (w : World), o.op = op → (∀ x u, ev e x = some u → ρ x = u) → w.heap = H →
    ∃ v w', ((execOp ρ o).run P w = .ok (.value v) w' ∨ ((execOp ρ o).run P w = .ok .skip w' ∧ v = undef)) ∧ w'.os = w.os ∧ w'.tape = w.tape ∧ w'.output = w.output ∧ R v w'.heap

/-- a contract: of the heap alone -/
def Ct (P : Program) (f : FuncId) (args : Array Value) (H : Heap) (R : Value → Heap → Prop) : Prop :=
  ∀ w, w.heap = H → Calls P f args w fun x w' => ∃ v, x = .returned v ∧ w'.os = w.os ∧ w'.tape = w.tape ∧ w'.output = w.output ∧ R v w'.heap

theorem Ct.mono {f : FuncId} {args : Array Value} {R R' : Value → Heap → Prop} (h : Ct P f args H R) (hr : ∀ v H', R v H' → R' v H') : Ct P f args H R' :=
  fun w hw => (h w hw).mono fun _ _ ⟨v, a, b, c, d, r⟩ => ⟨v, a, b, c, d, hr _ _ r⟩

/- ------------------------------------------------------------------ one operation -/
section ops
variable {ops : Array Oper} {op : Op} {d : Nat} {ty : TypeId} {pos : String} {af : Array Edge} {rest : List Oper} {v : Value}

theorem LF.nil (h : PF n w0 Q e .normal H) : LF P n w0 ops Q e [] H := fun a w hf hw => wpList_nil (h a w hf hw)

theorem LF.step (h : OpOk P e op H v) (K : LF P n w0 ops Q ((d, v) :: e) rest H) (hd : Nat.blt d n.sz = true := by rfl) : LF P n w0 ops Q e (⟨some d, op, ty, pos, af, none⟩ :: rest) H := by
  intro a w hf hw
  refine wpList_plain rfl fun K' hK' => ?_
  unfold Oper.wp
  rw [h a.eval _ w rfl (fun x u hx => hf.ev hx) hw.heap]
  exact hK' _ _ (K _ _ (hf.put hd v) hw)

theorem LF.chg {R : Value → Heap → Prop} (h : OpCh P e op H R) (K : ∀ v H', R v H' → LF P n w0 ops Q ((d, v) :: e) rest H') (hd : Nat.blt d n.sz = true := by rfl) :
    LF P n w0 ops Q e (⟨some d, op, ty, pos, af, none⟩ :: rest) H := by
  intro a w hf hw
  obtain ⟨v, w', hr, h1, h2, h3, hR⟩ := h a.eval ⟨some d, op, ty, pos, af, none⟩ w rfl (fun x u hx => hf.ev hx) hw.heap
  refine wpList_plain rfl fun K' hK' => ?_
  unfold Oper.wp
  have hw' : Wd w0 w'.heap w' := ⟨rfl, h1.trans hw.os, h2.trans hw.tape, h3.trans hw.output⟩
  rcases hr with hr | ⟨hr, rfl⟩
  · rw [hr]; exact hK' _ _ (K _ _ hR _ _ (hf.put hd v) hw')
  · rw [hr]; exact hK' _ _ (K _ _ hR _ _ (hf.put hd undef) hw')

theorem LF.chg0 {R : Value → Heap → Prop} (h : OpCh P e op H R) (K : ∀ v H', R v H' → LF P n w0 ops Q e rest H') :
    LF P n w0 ops Q e (⟨none, op, ty, pos, af, none⟩ :: rest) H := by
  intro a w hf hw
  obtain ⟨v, w', hr, h1, h2, h3, hR⟩ := h a.eval ⟨none, op, ty, pos, af, none⟩ w rfl (fun x u hx => hf.ev hx) hw.heap
  refine wpList_plain rfl fun K' hK' => ?_
  unfold Oper.wp
  have hw' : Wd w0 w'.heap w' := ⟨rfl, h1.trans hw.os, h2.trans hw.tape, h3.trans hw.output⟩
  rcases hr with hr | ⟨hr, rfl⟩
  · rw [hr]; exact hK' _ _ (K _ _ hR _ _ hf hw')
  · rw [hr]; exact hK' _ _ (K _ _ hR _ _ hf hw')

/-- a call of a Go function, as the operation sees it -/
def OpCall (P : Program) (e : Env) (op : Op) (H : Heap) (f : FuncId) (args : Array Value) : Prop :=
  ∀ (ρ : Operand → Value) (o : Oper) (w : World), o.op = op → (∀ x u, ev e x = some u → ρ x = u) → w.heap = H → (execOp ρ o).run P w = .ok (.enter f args) w

theorem LF.call {f : FuncId} {args : Array Value} {R : Value → Heap → Prop} (h : OpCall P e op H f args) (hc : Ct P f args H R) (K : ∀ v H', R v H' → LF P n w0 ops Q ((d, v) :: e) rest H') (hd : Nat.blt d n.sz = true := by rfl) :
    LF P n w0 ops Q e (⟨some d, op, ty, pos, af, none⟩ :: rest) H := by
  intro a w hf hw
  refine wpList_plain rfl fun K' hK' => ?_
  unfold Oper.wp
  rw [h a.eval _ w rfl (fun x u hx => hf.ev hx) hw.heap, Oper.upon_enter]
  refine (hc w hw.heap).mono fun x w' ⟨v, hx, h1, h2, h3, hR⟩ => ?_
  subst hx
  exact hK' _ _ (K _ _ hR _ _ (hf.put hd v) ⟨rfl, h1.trans hw.os, h2.trans hw.tape, h3.trans hw.output⟩)

theorem LF.call0 {f : FuncId} {args : Array Value} {R : Value → Heap → Prop} (h : OpCall P e op H f args) (hc : Ct P f args H R) (K : ∀ v H', R v H' → LF P n w0 ops Q e rest H') :
    LF P n w0 ops Q e (⟨none, op, ty, pos, af, none⟩ :: rest) H := by
  intro a w hf hw
  refine wpList_plain rfl fun K' hK' => ?_
  unfold Oper.wp
  rw [h a.eval _ w rfl (fun x u hx => hf.ev hx) hw.heap, Oper.upon_enter]
  refine (hc w hw.heap).mono fun x w' ⟨v, hx, h1, h2, h3, hR⟩ => ?_
  subst hx
  exact hK' _ _ (K _ _ hR _ _ hf ⟨rfl, h1.trans hw.os, h2.trans hw.tape, h3.trans hw.output⟩)

/- guards: a value that stands only where its guard says so -/
def gv (b : Bool) (v : Value) : Value := bif b then v else undef

theorem evg {x : Operand} {c : Bool} {u : Value} (h : ev e x = some (gv c u)) (hc : c = true) : ev e x = some u := by subst hc; exact h

/-- what the guard's slot holds, and whether the operation is wanted -/
inductive Gd : Value → Bool → Bool → Prop
  | t (b : Bool) : Gd (.bool b) true b
  | f (b : Bool) : Gd (.bool b) false (!b)
  | gt (c b : Bool) : Gd (gv c (.bool b)) true (c && b)
  | gf (c b : Bool) : Gd (gv c (.bool b)) false (c && !b)

theorem wanted_gd {a : Act} {j t : Nat} {want B : Bool} {u : Value} {o : Oper} (hg : o.guard = some (j, want)) (hj : (ops[j]?).bind (·.dst) = some t) (ht : Nat.blt t n.sz = true) (hf : Fr n e a) (hu : lk e t = some u) (hB : Gd u want B) :
    Region.wanted o (yielded ops a.tmps) = B := by
  have ht' : t < a.tmps.size := by rw [hf.size]; simpa [Nat.blt_eq] using ht
  have h1 := hf.get t u hu
  have h2 : a.tmps[t]? = some u := by
    rw [Array.getD_eq_getD_getElem?, Array.getElem?_eq_getElem ht'] at h1
    rw [Array.getElem?_eq_getElem ht']
    simpa using h1
  simp only [Region.wanted, hg, yielded, hj, Option.bind_some, h2]
  cases hB with
  | t => cases B <;> rfl
  | f b => cases b <;> rfl
  | gt c b => cases c <;> cases b <;> rfl
  | gf c b => cases c <;> cases b <;> rfl

theorem LF.gstep {j t : Nat} {want B : Bool} {u : Value} (hj : (ops[j]?).bind (·.dst) = some t) (hu : lk e t = some u) (hB : Gd u want B) (h : B = true → OpOk P e op H v)
    (K : LF P n w0 ops Q ((d, gv B v) :: e) rest H) (hd : Nat.blt d n.sz = true := by rfl) (ht : Nat.blt t n.sz = true := by rfl) : LF P n w0 ops Q e (⟨some d, op, ty, pos, af, some (j, want)⟩ :: rest) H := by
  intro a w hf hw
  have hwt := wanted_gd (o := ⟨some d, op, ty, pos, af, some (j, want)⟩) rfl hj ht hf hu hB
  refine wpList_step fun K' hK' => ?_
  rw [hwt]
  cases B with
  | true =>
    simp only [if_true]
    unfold Oper.wp
    rw [h rfl a.eval _ w rfl (fun x u hx => hf.ev hx) hw.heap]
    exact hK' _ _ (K _ _ (hf.put hd v) hw)
  | false => exact hK' _ _ (K _ _ (hf.put hd undef) hw)

/- the still walk: a region that draws its order and only reads -/
theorem LS.nil {K : Act → World → Prop} (h : ∀ a w, Fr n e a → Wd w0 H w → K a w) : LS P n w0 ops K e [] H := fun _ _ hf hw => wpStill_nil (h _ _ hf hw)

theorem LS.step {K : Act → World → Prop} (h : OpOk P e op H v) (k : LS P n w0 ops K ((d, v) :: e) rest H) (hd : Nat.blt d n.sz = true := by rfl) : LS P n w0 ops K e (⟨some d, op, ty, pos, af, none⟩ :: rest) H := by
  intro a w hf hw
  refine wpStill_step fun K' hK' => ?_
  rw [if_pos (by simp [Region.wanted])]
  unfold Oper.still
  rw [h a.eval _ w rfl (fun x u hx => hf.ev hx) hw.heap, Oper.stillUpon_value]
  exact hK' _ (k _ _ (hf.put hd v) hw)

theorem LS.gstep {K : Act → World → Prop} {j t : Nat} {want B : Bool} {u : Value} (hj : (ops[j]?).bind (·.dst) = some t) (hu : lk e t = some u) (hB : Gd u want B) (h : B = true → OpOk P e op H v)
    (k : LS P n w0 ops K ((d, gv B v) :: e) rest H) (hd : Nat.blt d n.sz = true := by rfl) (ht : Nat.blt t n.sz = true := by rfl) : LS P n w0 ops K e (⟨some d, op, ty, pos, af, some (j, want)⟩ :: rest) H := by
  intro a w hf hw
  have hwt := wanted_gd (o := ⟨some d, op, ty, pos, af, some (j, want)⟩) rfl hj ht hf hu hB
  refine wpStill_step fun K' hK' => ?_
  rw [hwt]
  cases B with
  | true =>
    simp only [if_true]
    unfold Oper.still
    rw [h rfl a.eval _ w rfl (fun x u hx => hf.ev hx) hw.heap, Oper.stillUpon_value]
    exact hK' _ (k _ _ (hf.put hd v) hw)
  | false => exact hK' _ (k _ _ (hf.put hd undef) hw)

end ops

/- ------------------------------------------------------------------ code -/
section code
variable {x y : Code} {id : Nat} {l : List Oper}

theorem CF.region (h : LF P n w0 l.toArray Q e l H) : CF P n w0 Q e (.region id l.toArray false) H := fun a w hf hw => wp_region_lit (h a w hf hw)

theorem CF.still (hm : P.follows .mixedOrders = true) (hB : Region.lexB .any l.toArray = true) (h : LS P n w0 l.toArray (fun a w => Q .normal a w) e l H) : CF P n w0 Q e (.region id l.toArray true) H :=
  fun _ _ hf hw => wp_region_still_lit hm hB (h _ _ hf hw.drew)

theorem CF.tail (m : Nat) (hm : P.follows .mixedOrders = true) (hB : Region.lexTailB .any l.toArray m = true) (h : LS P n w0 l.toArray (fun a w => wpList P l.toArray Q (l.drop m) a w) e (l.take m) H) : CF P n w0 Q e (.region id l.toArray true) H :=
  fun _ _ hf hw => wp_region_still_tail m hm hB (h _ _ hf hw.drew)

theorem LS.done (h : PF n w0 Q e .normal H) {ops : Array Oper} : LS P n w0 ops (fun a w => Q .normal a w) e [] H := LS.nil h
theorem LS.tail {ops : Array Oper} {r : List Oper} (h : LF P n w0 ops Q e r H) : LS P n w0 ops (fun a w => wpList P ops Q r a w) e [] H := LS.nil h

theorem CF.seq (h : CF P n w0 (Exit.then (y.wp P Q) Q) e x H) : CF P n w0 Q e (.seq x y) H := fun a w hf hw => wp_seq (h a w hf hw)
theorem PF.next (h : CF P n w0 Q e y H) : PF n w0 (Exit.then (y.wp P Q) Q) e .normal H := h
theorem PF.thenExit {k : Act → World → Prop} {i : Nat} (h : PF n w0 Q e (.exit i) H) : PF n w0 (Exit.then k Q) e (.exit i) H := h
theorem PF.thenRet {k : Act → World → Prop} (h : PF n w0 Q e .ret H) : PF n w0 (Exit.then k Q) e .ret H := h

theorem CF.block (h : CF P n w0 (Exit.inBlock id Q) e x H) : CF P n w0 Q e (.block id x) H := fun a w hf hw => wp_block (h a w hf hw)
theorem PF.blockNormal (h : PF n w0 Q e .normal H) : PF n w0 (Exit.inBlock id Q) e .normal H := h
theorem PF.blockRet (h : PF n w0 Q e .ret H) : PF n w0 (Exit.inBlock id Q) e .ret H := h
theorem PF.blockHere (h : PF n w0 Q e .normal H) : PF n w0 (Exit.inBlock id Q) e (.exit id) H := by
  intro a w hf hw
  simp only [Exit.inBlock, if_true]
  exact h a w hf hw
theorem PF.blockOther {i : Nat} (h : PF n w0 Q e (.exit i) H) (hne : Nat.beq i id = false := by rfl) : PF n w0 (Exit.inBlock id Q) e (.exit i) H := by
  intro a w hf hw
  have : i ≠ id := by intro e1; subst e1; simp at hne
  simp only [Exit.inBlock, if_neg this]
  exact h a w hf hw

theorem CF.skip (h : PF n w0 Q e .normal H) : CF P n w0 Q e .skip H := fun a w hf hw => wp_skip (h a w hf hw)
theorem CF.exit (h : PF n w0 Q e (.exit id) H) : CF P n w0 Q e (.exit id) H := fun a w hf hw => wp_exit (h a w hf hw)
theorem CF.ret (h : PF n w0 Q e .ret H) : CF P n w0 Q e .ret H := fun a w hf hw => wp_ret (h a w hf hw)

theorem CF.cond {c : Operand} {b : Bool} (hc : ev e c = some (.bool b)) (ht : b = true → CF P n w0 Q e x H) (hf : b = false → CF P n w0 Q e y H) : CF P n w0 Q e (.cond c x y) H := by
  intro a w hfr hw
  exact wp_cond_split (hfr.ev hc) (fun h => ht h a w hfr hw) (fun h => hf h a w hfr hw)

/-- what a Bool says: where it is true, where it is false -/
class BoolP (b : Bool) (p q : outParam Prop) : Prop where
  pos : b = true → p
  neg : b = false → q
instance (priority := low) boolP_any (b : Bool) : BoolP b (b = true) (b = false) := ⟨fun h => h, fun h => h⟩
instance boolP_dec (p : Prop) [Decidable p] : BoolP (decide p) p (¬ p) := ⟨of_decide_eq_true, of_decide_eq_false⟩
instance boolP_and (a b : Bool) (p p' q q' : Prop) [h1 : BoolP a p p'] [h2 : BoolP b q q'] : BoolP (a && b) (p ∧ q) (p' ∨ q') where
  pos h := ⟨h1.pos (and_l h), h2.pos (and_r h)⟩
  neg h := by
    cases a with
    | false => exact .inl (h1.neg rfl)
    | true => exact .inr (h2.neg h)
instance boolP_or (a b : Bool) (p p' q q' : Prop) [h1 : BoolP a p p'] [h2 : BoolP b q q'] : BoolP (a || b) (p ∨ q) (p' ∧ q') where
  pos h := by
    cases a with
    | true => exact .inl (h1.pos rfl)
    | false => exact .inr (h2.pos h)
  neg h := by
    cases a with
    | true => cases h
    | false => exact ⟨h1.neg rfl, h2.neg h⟩
instance boolP_not (a : Bool) (p p' : Prop) [h1 : BoolP a p p'] : BoolP (!a) p' p := ⟨fun h => h1.neg (by cases a <;> simp_all), fun h => h1.pos (by cases a <;> simp_all)⟩
instance boolP_t : BoolP true True False := ⟨fun _ => trivial, fun h => by cases h⟩
instance boolP_f : BoolP false False True := ⟨fun h => (by cases h), fun _ => trivial⟩
theorem CF.if {c : Operand} {b : Bool} {p q : Prop} (hc : ev e c = some (.bool b)) [hb : BoolP b p q] (ht : p → CF P n w0 Q e x H) (hf : q → CF P n w0 Q e y H) : CF P n w0 Q e (.cond c x y) H :=
  CF.cond hc (fun h => ht (hb.pos h)) (fun h => hf (hb.neg h))

theorem CF.sub {l : Env} (hs : Sub e l) (h : CF P n w0 Q l x H) : CF P n w0 Q e x H := fun a w hf hw => h a w (hf.sub hs) hw
theorem PF.sub {l : Env} {z : Exit} (hs : Sub e l) (h : PF n w0 Q l z H) : PF n w0 Q e z H := fun a w hf hw => h a w (hf.sub hs) hw

/-- what a round's end asks -/
def Again {ι : Type} (n : Fs) (w0 : World) (inv : ι → Heap → Prop) (env : ι → Env) (μ : ι → Nat) (i : ι) (a : Act) (w : World) : Prop :=
  ∃ j, inv j w.heap ∧ Fr n (env j) a ∧ Wd w0 w.heap w ∧ μ j < μ i

theorem CF.loop {ι : Type} (inv : ι → Heap → Prop) (env : ι → Env) (μ : ι → Nat) (i0 : ι) (h0 : inv i0 H) (hs : Sub e (env i0))
    (round : ∀ i H', inv i H' → CF P n w0 (Exit.then (Again n w0 inv env μ i) Q) (env i) x H') : CF P n w0 Q e (.loop x) H := by
  intro a w hf hw
  refine wp_loop_ghost (fun m a w => ∃ i, μ i = m ∧ inv i w.heap ∧ Fr n (env i) a ∧ Wd w0 w.heap w) (μ i0) ⟨i0, rfl, hw.heap ▸ h0, hf.sub hs, ⟨rfl, hw.os, hw.tape, hw.output⟩⟩ ?_
  rintro m a w ⟨i, hm, hi, hfi, hwi⟩
  refine wp_mono (round i w.heap hi a w hfi hwi) ?_
  intro x a' w' hq
  cases x with
  | normal => obtain ⟨j, h1, h2, h3, h4⟩ := hq; exact ⟨μ j, hm ▸ h4, j, rfl, h1, h2, h3⟩
  | _ => exact hq

theorem PF.again {ι : Type} {inv : ι → Heap → Prop} {env : ι → Env} {μ : ι → Nat} {i : ι} (j : ι) (hj : inv j H) (hs : Sub e (env j)) (hm : μ j < μ i) :
    PF n w0 (Exit.then (Again n w0 inv env μ i) Q) e .normal H := by
  intro a w hf hw
  exact ⟨j, hw.heap ▸ hj, hf.sub hs, ⟨rfl, hw.os, hw.tape, hw.output⟩, hm⟩

theorem CF.scope (h : CF P n w0 (Exit.noGoto Q) e x H) : CF P n w0 Q e (.scope x) H := fun a w hf hw => wp_scope_straight (h a w hf hw)
theorem PF.scope {z : Exit} (h : PF n w0 Q e z H) (hz : ∀ l, z ≠ .goto l) : PF n w0 (Exit.noGoto Q) e z H := by
  intro a w hf hw
  cases z with
  | goto l => exact absurd rfl (hz l)
  | _ => exact h a w hf hw
theorem CF.label {l : Nat} (h : PF n w0 Q e .normal H) : CF P n w0 Q e (.label l) H := fun a w hf hw => wp_label (h a w hf hw)

end code

/- ------------------------------------------------------------------ a function -/
section func
variable {f : FuncId} {fn : Func} {c : Code} {R : Value → Heap → Prop}

/-- what stands behind a body -/
def BQ (P : Program) (fn : Func) (w0 : World) (R : Value → Heap → Prop) : Exit → Act → World → Prop :=
  bodyPost P fn fun x w' => ∃ v, x = .returned v ∧ w'.os = w0.os ∧ w'.tape = w0.tape ∧ w'.output = w0.output ∧ R v w'.heap

def number : Nat → List Value → Env
  | _, [] => []
  | k, v :: r => (k, v) :: number (k + 1) r

theorem lk_number : ∀ (l : List Value) (k t : Nat) (v : Value), lk (number k l) t = some v → ∃ i, t = k + i ∧ l[i]? = some v
  | [], _, _, _, h => by simp [number, lk] at h
  | u :: r, k, t, v, h => by
    simp only [number, lk] at h
    by_cases e1 : k = t
    · subst e1
      rw [show Nat.beq k k = true by simp] at h
      simp only [cond_true, Option.some.injEq] at h
      exact ⟨0, rfl, by simp [h]⟩
    · rw [beq_no e1] at h
      obtain ⟨i, h1, h2⟩ := lk_number r (k + 1) t v h
      exact ⟨i + 1, by omega, by simpa using h2⟩

theorem Ct.enter {args : List Value} {n : Nat} (hf : P.funcs[f]? = some fn) (hb : fn.body = some c) (hn : fn.ntmps = n) (ha : Nat.ble args.length n = true)
    (h : ∀ w0 : World, w0.heap = H → CF P ⟨n, []⟩ w0 (BQ P fn w0 R) (number 0 args) c H) : Ct P f args.toArray H R := by
  intro w hw
  refine calls_of_wp hf hb ?_
  have ha' : args.length ≤ n := by simpa [Nat.ble_eq] using ha
  refine h w hw _ w ⟨?_, rfl, ?_⟩ ⟨hw, rfl, rfl, rfl⟩
  · simp [hn]; omega
  · intro t v hv
    obtain ⟨i, h1, h2⟩ := lk_number args 0 t v hv
    have hi : i < args.length := (List.getElem?_eq_some_iff.1 h2).1
    have e1 : t = i := by omega
    subst e1
    simp only [Array.getD_eq_getD_getElem?]
    rw [Array.getElem?_append_left (by simpa using hi)]
    simp [h2]

theorem PF.ret1 {m : Nat} {t : Nat} {v : Value} (hr : fn.results = #[.tmp t]) (hv : lk e t = some v) (hR : R v H) : PF ⟨m, []⟩ w0 (BQ P fn w0 R) e .ret H := by
  intro a w hf hw
  refine bodyPost_ret (results_tmp hr _ _ _) hf.defers ⟨v, ?_, hw.os, hw.tape, hw.output, hw.heap ▸ hR⟩
  rw [hf.get t v hv]
theorem PF.end1 {m : Nat} {t : Nat} {v : Value} (hr : fn.results = #[.tmp t]) (hv : lk e t = some v) (hR : R v H) : PF ⟨m, []⟩ w0 (BQ P fn w0 R) e .normal H := by
  intro a w hf hw
  refine bodyPost_end (results_tmp hr _ _ _) hf.defers ⟨v, ?_, hw.os, hw.tape, hw.output, hw.heap ▸ hR⟩
  rw [hf.get t v hv]
theorem PF.ret0 {m : Nat} (hr : fn.results = #[]) (hR : R (.tuple #[]) H) : PF ⟨m, []⟩ w0 (BQ P fn w0 R) e .ret H := by
  intro a w hf hw
  exact bodyPost_ret (results_none hr _ _ _) hf.defers ⟨_, rfl, hw.os, hw.tape, hw.output, hw.heap ▸ hR⟩
theorem PF.end0 {m : Nat} (hr : fn.results = #[]) (hR : R (.tuple #[]) H) : PF ⟨m, []⟩ w0 (BQ P fn w0 R) e .normal H := by
  intro a w hf hw
  exact bodyPost_end (results_none hr _ _ _) hf.defers ⟨_, rfl, hw.os, hw.tape, hw.output, hw.heap ▸ hR⟩
theorem PF.ret2 {m : Nat} {t u : Nat} {v v' : Value} (hr : fn.results = #[.tmp t, .tmp u]) (hv : lk e t = some v) (hv' : lk e u = some v') (hR : R (.tuple #[v, v']) H) : PF ⟨m, []⟩ w0 (BQ P fn w0 R) e .ret H := by
  intro a w hf hw
  refine bodyPost_ret (results_tmp2 hr _ _ _) hf.defers ⟨_, ?_, hw.os, hw.tape, hw.output, hw.heap ▸ hR⟩
  rw [hf.get t v hv, hf.get u v' hv']
theorem results_tmp3' {t u z : Tmp} (h : fn.results = #[.tmp t, .tmp u, .tmp z]) (tmps : Array Value) (w : World) :
    (results fn tmps).run P w = .ok (.tuple #[tmps.getD t undef, tmps.getD u undef, tmps.getD z undef]) w := by
  simp [results, h]
theorem PF.ret3 {m : Nat} {t u z : Nat} {v v' v'' : Value} (hr : fn.results = #[.tmp t, .tmp u, .tmp z]) (hv : lk e t = some v) (hv' : lk e u = some v') (hv'' : lk e z = some v'') (hR : R (.tuple #[v, v', v'']) H) : PF ⟨m, []⟩ w0 (BQ P fn w0 R) e .ret H := by
  intro a w hf hw
  refine bodyPost_ret (results_tmp3' hr _ _) hf.defers ⟨_, ?_, hw.os, hw.tape, hw.output, hw.heap ▸ hR⟩
  rw [hf.get t v hv, hf.get u v' hv', hf.get z v'' hv'']
end func
end Go.JE
