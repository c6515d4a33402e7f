/- Lemmas that the claim is made of. Conditions: each lemma names its own. -/
import Derived.WalkKit
import Derived.StillTail
import Derived.Deep.LoopGhost
import Derived.Deep.OwnRows
set_option linter.unusedSectionVars false
set_option linter.unusedSimpArgs false
set_option linter.unusedVariables false
namespace Go.JE
abbrev Env := List (Nat × Value)
abbrev Heap := Array Obj
def lk : Env → Nat → Option Value
 | [],_ => none
 | (k,v) :: r,t => bif Nat.beq k t then some v else lk r t
def ev (e : Env) : Operand → Option Value
 | .tmp t => lk e t
 | .const v => some v
 | .global g => some (.pointer (some ⟨g,0,none⟩))
 | .func f => some (.func (.func f) #[] #[])
theorem beq_no {a b : Nat} (h : ¬ a = b) : Nat.beq a b = false := by
 cases h1 : Nat.beq a b with
 | false => rfl
 | true => exact absurd (Nat.eq_of_beq_eq_true h1) h
structure Fs where
 sz : Nat
 ds : List Deferred
structure Fr (n : Fs) (e : Env) (a : Act) : Prop where
 size : a.tmps.size = n.sz
 defers : a.defers = n.ds
 get : ∀ t v,lk e t = some v → a.tmps.getD t undef = v
theorem Fr.ev {n : Fs} {e : Env} {a : Act} (h : Fr n e a) {x : Operand} {v : Value} (hx : ev e x = some v) : a.eval x = v := by
 cases x with
 | tmp t => exact h.get t v hx
 | const u => simpa [JE.ev,Act.eval] using hx
 | global g => simpa [JE.ev,Act.eval] using hx
 | func f => simpa [JE.ev,Act.eval] using hx
theorem Fr.put {n : Fs} {e : Env} {a : Act} (h : Fr n e a) {d : Nat} (hd : Nat.blt d n.sz = true) (v : Value) : Fr n ((d,v) :: e) (a.put (some d) v) := by
 have hd' : d < n.sz := by simpa [Nat.blt_eq] using hd
 refine ⟨by simp [Act.put,h.size],by simp [Act.put,h.defers],fun t u hu => ?_⟩
 simp only [lk] at hu
 by_cases e1 : d = t
 · subst e1
   have : Nat.beq d d = true := by simp
   rw [this] at hu
   simp only [cond_true,Option.some.injEq] at hu
   subst hu
   simp [Act.put,h.size,hd']
 · have : Nat.beq d t = false := beq_no e1
   rw [this] at hu
   simp only [cond_false] at hu
   have := h.get t u hu
   simp only [Act.put,Array.getD_eq_getD_getElem?] at this ⊢
   rw [Array.getElem?_setIfInBounds_ne e1]
   exact this
theorem Fr.drop {n : Fs} {e : Env} {a : Act} (h : Fr n e a) (v : Value) : Fr n e (a.put none v) := h
def Sub (e : Env) : Env → Prop
 | [] => True
 | (t,v) :: r => lk e t = some v ∧ Sub e r
theorem Sub.get {e : Env} : ∀ {l : Env},Sub e l → ∀ t v,lk l t = some v → lk e t = some v
 | [],_,t,v,h => by simp [lk] at h
 | (k,u) :: r,hs,t,v,h => by
   simp only [lk] at h
   by_cases e1 : k = t
   · subst e1
     have : Nat.beq k k = true := by simp
     rw [this] at h
     simp only [cond_true,Option.some.injEq] at h
     subst h
     exact hs.1
   · have : Nat.beq k t = false := beq_no e1
     rw [this] at h
     exact Sub.get hs.2 t v h
theorem Fr.sub {n : Fs} {e l : Env} {a : Act} (h : Fr n e a) (hs : Sub e l) : Fr n l a := ⟨h.size,h.defers,fun t v hv => h.get t v (hs.get t v hv)⟩
structure Wd (w0 : World) (H : Heap) (w : World) : Prop where
 heap : w.heap = H
 os : w.os = w0.os
 tape : w.tape = w0.tape
 output : w.output = w0.output
theorem Wd.drew {w0 w : World} {H : Heap} (h : Wd w0 H w) : Wd w0 H { w with drawn := w.drawn + 1 } := ⟨h.heap,h.os,h.tape,h.output⟩
theorem eqI {k : IntKind} {a b : Int} (h : a = b) : some (Value.int k a) = some (Value.int k b) := by rw [h]
theorem and_l {a b : Bool} (h : (a && b) = true) : a = true := by cases a <;> simp_all
theorem and_r {a b : Bool} (h : (a && b) = true) : b = true := by cases a <;> simp_all
variable {P : Program} {n : Fs} {w0 : World} {Q : Exit → Act → World → Prop} {e : Env} {H : Heap}
def LF (P : Program) (n : Fs) (w0 : World) (ops : Array Oper) (Q : Exit → Act → World → Prop) (e : Env) (l : List Oper) (H : Heap) : Prop :=
 ∀ a w,Fr n e a → Wd w0 H w → wpList P ops Q l a w
def LS (P : Program) (n : Fs) (w0 : World) (ops : Array Oper) (K : Act → World → Prop) (e : Env) (l : List Oper) (H : Heap) : Prop :=
 ∀ a w,Fr n e a → Wd w0 H w → wpStill P ops w (fun a => K a w) l a
def CF (P : Program) (n : Fs) (w0 : World) (Q : Exit → Act → World → Prop) (e : Env) (c : Code) (H : Heap) : Prop :=
 ∀ a w,Fr n e a → Wd w0 H w → c.wp P Q a w
def PF (n : Fs) (w0 : World) (Q : Exit → Act → World → Prop) (e : Env) (x : Exit) (H : Heap) : Prop :=
 ∀ a w,Fr n e a → Wd w0 H w → Q x a w
def OpOk (P : Program) (e : Env) (op : Op) (H : Heap) (v : Value) : Prop :=
 ∀ (ρ : Operand → Value) (o : Oper) (w : World),o.op = op → (∀ x u,ev e x = some u → ρ x = u) → w.heap = H → (execOp ρ o).run P w = .ok (.value v) w
def OpCh (P : Program) (e : Env) (op : Op) (H : Heap) (R : Value → Heap → Prop) : Prop :=
 ∀ (ρ : Operand → Value) (o : Oper) (w : World),o.op = op → (∀ x u,ev e x = some u → ρ x = u) → w.heap = H →
   ∃ v w',((execOp ρ o).run P w = .ok (.value v) w' ∨ ((execOp ρ o).run P w = .ok .skip w' ∧ v = undef)) ∧ w'.os = w.os ∧ w'.tape = w.tape ∧ w'.output = w.output ∧ R v w'.heap
def Ct (P : Program) (f : FuncId) (args : Array Value) (H : Heap) (R : Value → Heap → Prop) : Prop :=
 ∀ w,w.heap = H → Calls P f args w fun x w' => ∃ v,x = .returned v ∧ w'.os = w.os ∧ w'.tape = w.tape ∧ w'.output = w.output ∧ R v w'.heap
theorem Ct.mono {f : FuncId} {args : Array Value} {R R' : Value → Heap → Prop} (h : Ct P f args H R) (hr : ∀ v H',R v H' → R' v H') : Ct P f args H R' :=
 fun w hw => (h w hw).mono fun _ _ ⟨v,a,b,c,d,r⟩ => ⟨v,a,b,c,d,hr _ _ r⟩
section ops
variable {ops : Array Oper} {op : Op} {d : Nat} {ty : TypeId} {pos : String} {af : Array Edge} {rest : List Oper} {v : Value}
theorem LF.nil (h : PF n w0 Q e .normal H) : LF P n w0 ops Q e [] H := fun a w hf hw => wpList_nil (h a w hf hw)
theorem LF.step (h : OpOk P e op H v) (K : LF P n w0 ops Q ((d,v) :: e) rest H) (hd : Nat.blt d n.sz = true := by rfl) : LF P n w0 ops Q e (⟨some d,op,ty,pos,af,none⟩ :: rest) H := by
 intro a w hf hw
 refine wpList_plain rfl fun K' hK' => ?_
 unfold Oper.wp
 rw [h a.eval _ w rfl (fun x u hx => hf.ev hx) hw.heap]
 exact hK' _ _ (K _ _ (hf.put hd v) hw)
theorem LF.chg {R : Value → Heap → Prop} (h : OpCh P e op H R) (K : ∀ v H',R v H' → LF P n w0 ops Q ((d,v) :: e) rest H') (hd : Nat.blt d n.sz = true := by rfl) :
   LF P n w0 ops Q e (⟨some d,op,ty,pos,af,none⟩ :: rest) H := by
 intro a w hf hw
 obtain ⟨v,w',hr,h1,h2,h3,hR⟩ := h a.eval ⟨some d,op,ty,pos,af,none⟩ w rfl (fun x u hx => hf.ev hx) hw.heap
 refine wpList_plain rfl fun K' hK' => ?_
 unfold Oper.wp
 have hw' : Wd w0 w'.heap w' := ⟨rfl,h1.trans hw.os,h2.trans hw.tape,h3.trans hw.output⟩
 rcases hr with hr | ⟨hr,rfl⟩
 · rw [hr]; exact hK' _ _ (K _ _ hR _ _ (hf.put hd v) hw')
 · rw [hr]; exact hK' _ _ (K _ _ hR _ _ (hf.put hd undef) hw')
theorem LF.chg0 {R : Value → Heap → Prop} (h : OpCh P e op H R) (K : ∀ v H',R v H' → LF P n w0 ops Q e rest H') :
   LF P n w0 ops Q e (⟨none,op,ty,pos,af,none⟩ :: rest) H := by
 intro a w hf hw
 obtain ⟨v,w',hr,h1,h2,h3,hR⟩ := h a.eval ⟨none,op,ty,pos,af,none⟩ w rfl (fun x u hx => hf.ev hx) hw.heap
 refine wpList_plain rfl fun K' hK' => ?_
 unfold Oper.wp
 have hw' : Wd w0 w'.heap w' := ⟨rfl,h1.trans hw.os,h2.trans hw.tape,h3.trans hw.output⟩
 rcases hr with hr | ⟨hr,rfl⟩
 · rw [hr]; exact hK' _ _ (K _ _ hR _ _ hf hw')
 · rw [hr]; exact hK' _ _ (K _ _ hR _ _ hf hw')
def OpCall (P : Program) (e : Env) (op : Op) (H : Heap) (f : FuncId) (args : Array Value) : Prop :=
 ∀ (ρ : Operand → Value) (o : Oper) (w : World),o.op = op → (∀ x u,ev e x = some u → ρ x = u) → w.heap = H → (execOp ρ o).run P w = .ok (.enter f args) w
theorem LF.call {f : FuncId} {args : Array Value} {R : Value → Heap → Prop} (h : OpCall P e op H f args) (hc : Ct P f args H R) (K : ∀ v H',R v H' → LF P n w0 ops Q ((d,v) :: e) rest H') (hd : Nat.blt d n.sz = true := by rfl) :
   LF P n w0 ops Q e (⟨some d,op,ty,pos,af,none⟩ :: rest) H := by
 intro a w hf hw
 refine wpList_plain rfl fun K' hK' => ?_
 unfold Oper.wp
 rw [h a.eval _ w rfl (fun x u hx => hf.ev hx) hw.heap,Oper.upon_enter]
 refine (hc w hw.heap).mono fun x w' ⟨v,hx,h1,h2,h3,hR⟩ => ?_
 subst hx
 exact hK' _ _ (K _ _ hR _ _ (hf.put hd v) ⟨rfl,h1.trans hw.os,h2.trans hw.tape,h3.trans hw.output⟩)
def gv (b : Bool) (v : Value) : Value := bif b then v else undef
theorem evg {x : Operand} {c : Bool} {u : Value} (h : ev e x = some (gv c u)) (hc : c = true) : ev e x = some u := by subst hc; exact h
inductive Gd : Value → Bool → Bool → Prop
 | t (b : Bool) : Gd (.bool b) true b
 | f (b : Bool) : Gd (.bool b) false (!b)
 | gt (c b : Bool) : Gd (gv c (.bool b)) true (c && b)
 | gf (c b : Bool) : Gd (gv c (.bool b)) false (c && !b)
theorem wanted_gd {a : Act} {j t : Nat} {want B : Bool} {u : Value} {o : Oper} (hg : o.guard = some (j,want)) (hj : (ops[j]?).bind (·.dst) = some t) (ht : Nat.blt t n.sz = true) (hf : Fr n e a) (hu : lk e t = some u) (hB : Gd u want B) :
   Region.wanted o (yielded ops a.tmps) = B := by
 have ht' : t < a.tmps.size := by rw [hf.size]; simpa [Nat.blt_eq] using ht
 have h1 := hf.get t u hu
 have h2 : a.tmps[t]? = some u := by
   rw [Array.getD_eq_getD_getElem?,Array.getElem?_eq_getElem ht'] at h1
   rw [Array.getElem?_eq_getElem ht']
   simpa using h1
 simp only [Region.wanted,hg,yielded,hj,Option.bind_some,h2]
 cases hB with
 | t => cases B <;> rfl
 | f b => cases b <;> rfl
 | gt c b => cases c <;> cases b <;> rfl
 | gf c b => cases c <;> cases b <;> rfl
theorem LF.gstep {j t : Nat} {want B : Bool} {u : Value} (hj : (ops[j]?).bind (·.dst) = some t) (hu : lk e t = some u) (hB : Gd u want B) (h : B = true → OpOk P e op H v)
   (K : LF P n w0 ops Q ((d,gv B v) :: e) rest H) (hd : Nat.blt d n.sz = true := by rfl) (ht : Nat.blt t n.sz = true := by rfl) : LF P n w0 ops Q e (⟨some d,op,ty,pos,af,some (j,want)⟩ :: rest) H := by
 intro a w hf hw
 have hwt := wanted_gd (o := ⟨some d,op,ty,pos,af,some (j,want)⟩) rfl hj ht hf hu hB
 refine wpList_step fun K' hK' => ?_
 rw [hwt]
 cases B with
 | true =>
   simp only [if_true]
   unfold Oper.wp
   rw [h rfl a.eval _ w rfl (fun x u hx => hf.ev hx) hw.heap]
   exact hK' _ _ (K _ _ (hf.put hd v) hw)
 | false => exact hK' _ _ (K _ _ (hf.put hd undef) hw)
theorem LS.nil {K : Act → World → Prop} (h : ∀ a w,Fr n e a → Wd w0 H w → K a w) : LS P n w0 ops K e [] H := fun _ _ hf hw => wpStill_nil (h _ _ hf hw)
theorem LS.step {K : Act → World → Prop} (h : OpOk P e op H v) (k : LS P n w0 ops K ((d,v) :: e) rest H) (hd : Nat.blt d n.sz = true := by rfl) : LS P n w0 ops K e (⟨some d,op,ty,pos,af,none⟩ :: rest) H := by
 intro a w hf hw
 refine wpStill_step fun K' hK' => ?_
 rw [if_pos (by simp [Region.wanted])]
 unfold Oper.still
 rw [h a.eval _ w rfl (fun x u hx => hf.ev hx) hw.heap,Oper.stillUpon_value]
 exact hK' _ (k _ _ (hf.put hd v) hw)
theorem LS.gstep {K : Act → World → Prop} {j t : Nat} {want B : Bool} {u : Value} (hj : (ops[j]?).bind (·.dst) = some t) (hu : lk e t = some u) (hB : Gd u want B) (h : B = true → OpOk P e op H v)
   (k : LS P n w0 ops K ((d,gv B v) :: e) rest H) (hd : Nat.blt d n.sz = true := by rfl) (ht : Nat.blt t n.sz = true := by rfl) : LS P n w0 ops K e (⟨some d,op,ty,pos,af,some (j,want)⟩ :: rest) H := by
 intro a w hf hw
 have hwt := wanted_gd (o := ⟨some d,op,ty,pos,af,some (j,want)⟩) rfl hj ht hf hu hB
 refine wpStill_step fun K' hK' => ?_
 rw [hwt]
 cases B with
 | true =>
   simp only [if_true]
   unfold Oper.still
   rw [h rfl a.eval _ w rfl (fun x u hx => hf.ev hx) hw.heap,Oper.stillUpon_value]
   exact hK' _ (k _ _ (hf.put hd v) hw)
 | false => exact hK' _ (k _ _ (hf.put hd undef) hw)
end ops
section code
variable {x y : Code} {id : Nat} {l : List Oper}
theorem CF.region (h : LF P n w0 l.toArray Q e l H) : CF P n w0 Q e (.region id l.toArray false) H := fun a w hf hw => wp_region_lit (h a w hf hw)
theorem CF.still (hm : P.follows .mixedOrders = true) (hB : Region.lexB .any l.toArray = true) (h : LS P n w0 l.toArray (fun a w => Q .normal a w) e l H) : CF P n w0 Q e (.region id l.toArray true) H :=
 fun _ _ hf hw => wp_region_still_lit hm hB (h _ _ hf hw.drew)
theorem CF.tail (m : Nat) (hm : P.follows .mixedOrders = true) (hB : Region.lexTailB .any l.toArray m = true) (h : LS P n w0 l.toArray (fun a w => wpList P l.toArray Q (l.drop m) a w) e (l.take m) H) : CF P n w0 Q e (.region id l.toArray true) H :=
 fun _ _ hf hw => wp_region_still_tail m hm hB (h _ _ hf hw.drew)
theorem LS.done (h : PF n w0 Q e .normal H) {ops : Array Oper} : LS P n w0 ops (fun a w => Q .normal a w) e [] H := LS.nil h
theorem LS.tail {ops : Array Oper} {r : List Oper} (h : LF P n w0 ops Q e r H) : LS P n w0 ops (fun a w => wpList P ops Q r a w) e [] H := LS.nil h
theorem CF.seq (h : CF P n w0 (Exit.then (y.wp P Q) Q) e x H) : CF P n w0 Q e (.seq x y) H := fun a w hf hw => wp_seq (h a w hf hw)
theorem PF.next (h : CF P n w0 Q e y H) : PF n w0 (Exit.then (y.wp P Q) Q) e .normal H := h
theorem PF.thenExit {k : Act → World → Prop} {i : Nat} (h : PF n w0 Q e (.exit i) H) : PF n w0 (Exit.then k Q) e (.exit i) H := h
theorem PF.thenRet {k : Act → World → Prop} (h : PF n w0 Q e .ret H) : PF n w0 (Exit.then k Q) e .ret H := h
theorem CF.block (h : CF P n w0 (Exit.inBlock id Q) e x H) : CF P n w0 Q e (.block id x) H := fun a w hf hw => wp_block (h a w hf hw)
theorem PF.blockNormal (h : PF n w0 Q e .normal H) : PF n w0 (Exit.inBlock id Q) e .normal H := h
theorem PF.blockRet (h : PF n w0 Q e .ret H) : PF n w0 (Exit.inBlock id Q) e .ret H := h
theorem PF.blockHere (h : PF n w0 Q e .normal H) : PF n w0 (Exit.inBlock id Q) e (.exit id) H := by
 intro a w hf hw
 simp only [Exit.inBlock,if_true]
 exact h a w hf hw
theorem PF.blockOther {i : Nat} (h : PF n w0 Q e (.exit i) H) (hne : Nat.beq i id = false := by rfl) : PF n w0 (Exit.inBlock id Q) e (.exit i) H := by
 intro a w hf hw
 have : i ≠ id := by intro e1; subst e1; simp at hne
 simp only [Exit.inBlock,if_neg this]
 exact h a w hf hw
theorem CF.skip (h : PF n w0 Q e .normal H) : CF P n w0 Q e .skip H := fun a w hf hw => wp_skip (h a w hf hw)
theorem CF.exit (h : PF n w0 Q e (.exit id) H) : CF P n w0 Q e (.exit id) H := fun a w hf hw => wp_exit (h a w hf hw)
theorem CF.ret (h : PF n w0 Q e .ret H) : CF P n w0 Q e .ret H := fun a w hf hw => wp_ret (h a w hf hw)
theorem CF.cond {c : Operand} {b : Bool} (hc : ev e c = some (.bool b)) (ht : b = true → CF P n w0 Q e x H) (hf : b = false → CF P n w0 Q e y H) : CF P n w0 Q e (.cond c x y) H := by
 intro a w hfr hw
 exact wp_cond_split (hfr.ev hc) (fun h => ht h a w hfr hw) (fun h => hf h a w hfr hw)
class BoolP (b : Bool) (p q : outParam Prop) : Prop where
 pos : b = true → p
 neg : b = false → q
instance (priority := low) boolP_any (b : Bool) : BoolP b (b = true) (b = false) := ⟨fun h => h,fun h => h⟩
instance boolP_dec (p : Prop) [Decidable p] : BoolP (decide p) p (¬ p) := ⟨of_decide_eq_true,of_decide_eq_false⟩
instance boolP_and (a b : Bool) (p p' q q' : Prop) [h1 : BoolP a p p'] [h2 : BoolP b q q'] : BoolP (a && b) (p ∧ q) (p' ∨ q') where
 pos h := ⟨h1.pos (and_l h),h2.pos (and_r h)⟩
 neg h := by
   cases a with
   | false => exact .inl (h1.neg rfl)
   | true => exact .inr (h2.neg h)
instance boolP_or (a b : Bool) (p p' q q' : Prop) [h1 : BoolP a p p'] [h2 : BoolP b q q'] : BoolP (a || b) (p ∨ q) (p' ∧ q') where
 pos h := by
   cases a with
   | true => exact .inl (h1.pos rfl)
   | false => exact .inr (h2.pos h)
 neg h := by
   cases a with
   | true => cases h
   | false => exact ⟨h1.neg rfl,h2.neg h⟩
instance boolP_not (a : Bool) (p p' : Prop) [h1 : BoolP a p p'] : BoolP (!a) p' p := ⟨fun h => h1.neg (by cases a <;> simp_all),fun h => h1.pos (by cases a <;> simp_all)⟩
instance boolP_t : BoolP true True False := ⟨fun _ => trivial,fun h => by cases h⟩
instance boolP_f : BoolP false False True := ⟨fun h => (by cases h),fun _ => trivial⟩
theorem CF.if {c : Operand} {b : Bool} {p q : Prop} (hc : ev e c = some (.bool b)) [hb : BoolP b p q] (ht : p → CF P n w0 Q e x H) (hf : q → CF P n w0 Q e y H) : CF P n w0 Q e (.cond c x y) H :=
 CF.cond hc (fun h => ht (hb.pos h)) (fun h => hf (hb.neg h))
theorem CF.sub {l : Env} (hs : Sub e l) (h : CF P n w0 Q l x H) : CF P n w0 Q e x H := fun a w hf hw => h a w (hf.sub hs) hw
theorem PF.sub {l : Env} {z : Exit} (hs : Sub e l) (h : PF n w0 Q l z H) : PF n w0 Q e z H := fun a w hf hw => h a w (hf.sub hs) hw
def Again {ι : Type} (n : Fs) (w0 : World) (inv : ι → Heap → Prop) (env : ι → Env) (μ : ι → Nat) (i : ι) (a : Act) (w : World) : Prop :=
 ∃ j,inv j w.heap ∧ Fr n (env j) a ∧ Wd w0 w.heap w ∧ μ j < μ i
theorem CF.loop {ι : Type} (inv : ι → Heap → Prop) (env : ι → Env) (μ : ι → Nat) (i0 : ι) (h0 : inv i0 H) (hs : Sub e (env i0))
   (round : ∀ i H',inv i H' → CF P n w0 (Exit.then (Again n w0 inv env μ i) Q) (env i) x H') : CF P n w0 Q e (.loop x) H := by
 intro a w hf hw
 refine wp_loop_ghost (fun m a w => ∃ i,μ i = m ∧ inv i w.heap ∧ Fr n (env i) a ∧ Wd w0 w.heap w) (μ i0) ⟨i0,rfl,hw.heap ▸ h0,hf.sub hs,⟨rfl,hw.os,hw.tape,hw.output⟩⟩ ?_
 rintro m a w ⟨i,hm,hi,hfi,hwi⟩
 refine wp_mono (round i w.heap hi a w hfi hwi) ?_
 intro x a' w' hq
 cases x with
 | normal => obtain ⟨j,h1,h2,h3,h4⟩ := hq; exact ⟨μ j,hm ▸ h4,j,rfl,h1,h2,h3⟩
 | _ => exact hq
theorem PF.again {ι : Type} {inv : ι → Heap → Prop} {env : ι → Env} {μ : ι → Nat} {i : ι} (j : ι) (hj : inv j H) (hs : Sub e (env j)) (hm : μ j < μ i) :
   PF n w0 (Exit.then (Again n w0 inv env μ i) Q) e .normal H := by
 intro a w hf hw
 exact ⟨j,hw.heap ▸ hj,hf.sub hs,⟨rfl,hw.os,hw.tape,hw.output⟩,hm⟩
theorem CF.scope (h : CF P n w0 (Exit.noGoto Q) e x H) : CF P n w0 Q e (.scope x) H := fun a w hf hw => wp_scope_straight (h a w hf hw)
theorem PF.scope {z : Exit} (h : PF n w0 Q e z H) (hz : ∀ l,z ≠ .goto l) : PF n w0 (Exit.noGoto Q) e z H := by
 intro a w hf hw
 cases z with
 | goto l => exact absurd rfl (hz l)
 | _ => exact h a w hf hw
theorem CF.label {l : Nat} (h : PF n w0 Q e .normal H) : CF P n w0 Q e (.label l) H := fun a w hf hw => wp_label (h a w hf hw)
end code
section func
variable {f : FuncId} {fn : Func} {c : Code} {R : Value → Heap → Prop}
def BQ (P : Program) (fn : Func) (w0 : World) (R : Value → Heap → Prop) : Exit → Act → World → Prop :=
 bodyPost P fn fun x w' => ∃ v,x = .returned v ∧ w'.os = w0.os ∧ w'.tape = w0.tape ∧ w'.output = w0.output ∧ R v w'.heap
def number : Nat → List Value → Env
 | _,[] => []
 | k,v :: r => (k,v) :: number (k + 1) r
theorem lk_number : ∀ (l : List Value) (k t : Nat) (v : Value),lk (number k l) t = some v → ∃ i,t = k + i ∧ l[i]? = some v
 | [],_,_,_,h => by simp [number,lk] at h
 | u :: r,k,t,v,h => by
   simp only [number,lk] at h
   by_cases e1 : k = t
   · subst e1
     rw [show Nat.beq k k = true by simp] at h
     simp only [cond_true,Option.some.injEq] at h
     exact ⟨0,rfl,by simp [h]⟩
   · rw [beq_no e1] at h
     obtain ⟨i,h1,h2⟩ := lk_number r (k + 1) t v h
     exact ⟨i + 1,by omega,by simpa using h2⟩
theorem Ct.enter {args : List Value} {n : Nat} (hf : P.funcs[f]? = some fn) (hb : fn.body = some c) (hn : fn.ntmps = n) (ha : Nat.ble args.length n = true)
   (h : ∀ w0 : World,w0.heap = H → CF P ⟨n,[]⟩ w0 (BQ P fn w0 R) (number 0 args) c H) : Ct P f args.toArray H R := by
 intro w hw
 refine calls_of_wp hf hb ?_
 have ha' : args.length ≤ n := by simpa [Nat.ble_eq] using ha
 refine h w hw _ w ⟨?_,rfl,?_⟩ ⟨hw,rfl,rfl,rfl⟩
 · simp [hn]; omega
 · intro t v hv
   obtain ⟨i,h1,h2⟩ := lk_number args 0 t v hv
   have hi : i < args.length := (List.getElem?_eq_some_iff.1 h2).1
   have e1 : t = i := by omega
   subst e1
   simp only [Array.getD_eq_getD_getElem?]
   rw [Array.getElem?_append_left (by simpa using hi)]
   simp [h2]
theorem PF.ret1 {m : Nat} {t : Nat} {v : Value} (hr : fn.results = #[.tmp t]) (hv : lk e t = some v) (hR : R v H) : PF ⟨m,[]⟩ w0 (BQ P fn w0 R) e .ret H := by
 intro a w hf hw
 refine bodyPost_ret (results_tmp hr _ _ _) hf.defers ⟨v,?_,hw.os,hw.tape,hw.output,hw.heap ▸ hR⟩
 rw [hf.get t v hv]
theorem PF.ret0 {m : Nat} (hr : fn.results = #[]) (hR : R (.tuple #[]) H) : PF ⟨m,[]⟩ w0 (BQ P fn w0 R) e .ret H := by
 intro a w hf hw
 exact bodyPost_ret (results_none hr _ _ _) hf.defers ⟨_,rfl,hw.os,hw.tape,hw.output,hw.heap ▸ hR⟩
theorem PF.end0 {m : Nat} (hr : fn.results = #[]) (hR : R (.tuple #[]) H) : PF ⟨m,[]⟩ w0 (BQ P fn w0 R) e .normal H := by
 intro a w hf hw
 exact bodyPost_end (results_none hr _ _ _) hf.defers ⟨_,rfl,hw.os,hw.tape,hw.output,hw.heap ▸ hR⟩
theorem PF.ret2 {m : Nat} {t u : Nat} {v v' : Value} (hr : fn.results = #[.tmp t,.tmp u]) (hv : lk e t = some v) (hv' : lk e u = some v') (hR : R (.tuple #[v,v']) H) : PF ⟨m,[]⟩ w0 (BQ P fn w0 R) e .ret H := by
 intro a w hf hw
 refine bodyPost_ret (results_tmp2 hr _ _ _) hf.defers ⟨_,?_,hw.os,hw.tape,hw.output,hw.heap ▸ hR⟩
 rw [hf.get t v hv,hf.get u v' hv']
theorem results_tmp3' {t u z : Tmp} (h : fn.results = #[.tmp t,.tmp u,.tmp z]) (tmps : Array Value) (w : World) :
   (results fn tmps).run P w = .ok (.tuple #[tmps.getD t undef,tmps.getD u undef,tmps.getD z undef]) w := by
 simp [results,h]
theorem PF.ret3 {m : Nat} {t u z : Nat} {v v' v'' : Value} (hr : fn.results = #[.tmp t,.tmp u,.tmp z]) (hv : lk e t = some v) (hv' : lk e u = some v') (hv'' : lk e z = some v'') (hR : R (.tuple #[v,v',v'']) H) : PF ⟨m,[]⟩ w0 (BQ P fn w0 R) e .ret H := by
 intro a w hf hw
 refine bodyPost_ret (results_tmp3' hr _ _) hf.defers ⟨_,?_,hw.os,hw.tape,hw.output,hw.heap ▸ hR⟩
 rw [hf.get t v hv,hf.get u v' hv',hf.get z v'' hv'']
end func
end Go.JE
namespace Go.JE
variable {P : Program} {e : Env} {H : Heap}
theorem run_bind_ok {α β : Type} {x : Sem α} {f : α → Sem β} {w w' : World} {a : α} (h : x.run P w = .ok a w') : (x >>= f).run P w = (f a).run P w' := by
 rw [Sem.run_bind,h]; rfl
theorem OpOk.move {x : Operand} {v : Value} (hx : ev e x = some v) : OpOk P e (.move x) H v := by
 intro ρ o w ho hev _
 simp [execOp,ho,hev _ _ hx]
theorem OpOk.assign {x : Operand} {v : Value} (hx : ev e x = some v) : OpOk P e (.assign x) H v := by
 intro ρ o w ho hev _
 simp [execOp,ho,hev _ _ hx]
theorem OpOk.pick {c x y : Operand} {b : Bool} {u v : Value} (hc : ev e c = some (.bool b)) (hx : ev e x = some u) (hy : ev e y = some v) : OpOk P e (.pick c x y) H (bif b then u else v) := by
 intro ρ o w ho hev _
 cases b <;> simp [execOp,ho,hev _ _ hx,hev _ _ hy,hev _ _ hc,asBool]
theorem OpOk.pickAnd {c x : Operand} {b b2 : Bool} (hc : ev e c = some (.bool b)) (hx : ev e x = some (gv b (.bool b2))) : OpOk P e (.pick c x (.const (.bool false))) H (.bool (b && b2)) := by
 intro ρ o w ho hev _
 have h3 : ρ (.const (.bool false)) = .bool false := hev _ _ rfl
 cases b <;> simp [execOp,ho,hev _ _ hx,h3,hev _ _ hc,asBool,gv]
theorem OpOk.pickOr {c x : Operand} {b b2 : Bool} (hc : ev e c = some (.bool b)) (hx : ev e x = some (gv (!b) (.bool b2))) : OpOk P e (.pick c (.const (.bool true)) x) H (.bool (b || b2)) := by
 intro ρ o w ho hev _
 have h3 : ρ (.const (.bool true)) = .bool true := hev _ _ rfl
 cases b <;> simp [execOp,ho,hev _ _ hx,h3,hev _ _ hc,asBool,gv]
theorem OpOk.pickAnd2 {c x : Operand} {C b b2 : Bool} (hC : C = true) (hc : ev e c = some (gv C (.bool b))) (hx : ev e x = some (gv (C && b) (.bool b2))) : OpOk P e (.pick c x (.const (.bool false))) H (.bool (b && b2)) := by
 subst hC; exact OpOk.pickAnd hc (by simpa using hx)
theorem OpOk.pickOr2 {c x : Operand} {C b b2 : Bool} (hC : C = true) (hc : ev e c = some (gv C (.bool b))) (hx : ev e x = some (gv (C && !b) (.bool b2))) : OpOk P e (.pick c (.const (.bool true)) x) H (.bool (b || b2)) := by
 subst hC; exact OpOk.pickOr hc (by simpa using hx)
theorem OpOk.not {T : TypeId} {x : Operand} {b : Bool} (hx : ev e x = some (.bool b)) : OpOk P e (.unOp .not T x) H (.bool (!b)) := by
 intro ρ o w ho hev _
 simp [execOp,ho,hev _ _ hx,Op.unary]
theorem OpOk.neg {T : TypeId} {x : Operand} {k : IntKind} {m r : Int} (hx : ev e x = some (.int k m)) (hr : k.wrap (0 - m) = r) : OpOk P e (.unOp .neg T x) H (.int k r) := by
 intro ρ o w ho hev _
 simp only [execOp,ho,hev _ _ hx,Op.unary,Op.intArith,hr]; rfl
theorem OpOk.extract {x : Operand} {vs : Array Value} {i : Nat} {v : Value} (hx : ev e x = some (.tuple vs)) (hi : vs[i]? = some v) : OpOk P e (.extract x i) H v := by
 intro ρ o w ho hev _
 simp [execOp,ho,hev _ _ hx,Instr.extract,hi]
theorem OpOk.nilCheck {x : Operand} {a : Addr} (hx : ev e x = some (.pointer (some a))) : OpOk P e (.nilCheck x) H (.pointer (some a)) := by
 intro ρ o w ho hev _
 simp [execOp,ho,hev _ _ hx]
theorem OpOk.makeFunc1 {fn : Fn} {x1 : Operand} {v1 : Value} (h1 : ev e x1 = some v1) : OpOk P e (.makeFunc fn #[] #[x1]) H (.func fn #[] #[v1]) := by
 intro ρ o w ho hev _
 simp [execOp,ho,Instr.makeFunc,hev _ _ h1]
theorem OpOk.makeFunc2 {fn : Fn} {x1 x2 : Operand} {v1 v2 : Value} (h1 : ev e x1 = some v1) (h2 : ev e x2 = some v2) : OpOk P e (.makeFunc fn #[] #[x1,x2]) H (.func fn #[] #[v1,v2]) := by
 intro ρ o w ho hev _
 simp [execOp,ho,Instr.makeFunc,hev _ _ h1,hev _ _ h2]
theorem OpOk.makeFunc3 {fn : Fn} {x1 x2 x3 : Operand} {v1 v2 v3 : Value} (h1 : ev e x1 = some v1) (h2 : ev e x2 = some v2) (h3 : ev e x3 = some v3) : OpOk P e (.makeFunc fn #[] #[x1,x2,x3]) H (.func fn #[] #[v1,v2,v3]) := by
 intro ρ o w ho hev _
 simp [execOp,ho,Instr.makeFunc,hev _ _ h1,hev _ _ h2,hev _ _ h3]
theorem OpOk.makeFunc4 {fn : Fn} {x1 x2 x3 x4 : Operand} {v1 v2 v3 v4 : Value} (h1 : ev e x1 = some v1) (h2 : ev e x2 = some v2) (h3 : ev e x3 = some v3) (h4 : ev e x4 = some v4) : OpOk P e (.makeFunc fn #[] #[x1,x2,x3,x4]) H (.func fn #[] #[v1,v2,v3,v4]) := by
 intro ρ o w ho hev _
 simp [execOp,ho,Instr.makeFunc,hev _ _ h1,hev _ _ h2,hev _ _ h3,hev _ _ h4]
theorem wrap_i64 {m : Int} (h : -9223372036854775808 ≤ m ∧ m ≤ 9223372036854775807) : IntKind.i64.wrap m = m := IntWalk.i64_in m h
theorem wrap_i32 {m : Int} (h : -2147483648 ≤ m ∧ m ≤ 2147483647) : IntKind.i32.wrap m = m := IntWalk.i32_in m h
section
variable {T T' : TypeId} {x y : Operand} {k : IntKind} {m n r : Int}
theorem binInt {op : BinOp} {s : Sem Value} {v : Value} (hx : ev e x = some (.int k m)) (hy : ev e y = some (.int k n)) (hop : binOp op T (.int k m) (.int k n) = s) (hs : ∀ w,s.run P w = .ok v w) : OpOk P e (.binOp op T x y T') H v := by
 intro ρ o w ho hev _
 have h1 := hev _ _ hx
 have h2 := hev _ _ hy
 have hq : (eqGuard op T x y (.int k m) (.int k n)) = pure () := by
   unfold eqGuard; split <;> rfl
 simp only [execOp,ho,h1,h2,hq,hop]
 rw [run_bind_ok (a := v) (w' := w)]
 · rfl
 · rw [run_bind_ok (a := ()) (w' := w) rfl]; exact hs w
theorem OpOk.addw (hx : ev e x = some (.int k m)) (hy : ev e y = some (.int k n)) (hr : k.wrap (m + n) = r) : OpOk P e (.binOp .add T x y T') H (.int k r) :=
 binInt hx hy (by simp only [binOp,ne_eq,not_true_eq_false,if_false,Op.intArith,hr]; rfl) (fun _ => rfl)
theorem OpOk.subw (hx : ev e x = some (.int k m)) (hy : ev e y = some (.int k n)) (hr : k.wrap (m - n) = r) : OpOk P e (.binOp .sub T x y T') H (.int k r) :=
 binInt hx hy (by simp only [binOp,ne_eq,not_true_eq_false,if_false,Op.intArith,hr]; rfl) (fun _ => rfl)
theorem OpOk.mulw (hx : ev e x = some (.int k m)) (hy : ev e y = some (.int k n)) (hr : k.wrap (m * n) = r) : OpOk P e (.binOp .mul T x y T') H (.int k r) :=
 binInt hx hy (by simp only [binOp,ne_eq,not_true_eq_false,if_false,Op.intArith,hr]; rfl) (fun _ => rfl)
theorem OpOk.add (hx : ev e x = some (.int .i64 m)) (hy : ev e y = some (.int .i64 n)) (hr : -9223372036854775808 ≤ m + n ∧ m + n ≤ 9223372036854775807) : OpOk P e (.binOp .add T x y T') H (.int .i64 (m + n)) :=
 OpOk.addw hx hy (wrap_i64 hr)
theorem OpOk.sub (hx : ev e x = some (.int .i64 m)) (hy : ev e y = some (.int .i64 n)) (hr : -9223372036854775808 ≤ m - n ∧ m - n ≤ 9223372036854775807) : OpOk P e (.binOp .sub T x y T') H (.int .i64 (m - n)) :=
 OpOk.subw hx hy (wrap_i64 hr)
theorem OpOk.mul (hx : ev e x = some (.int .i64 m)) (hy : ev e y = some (.int .i64 n)) (hr : -9223372036854775808 ≤ m * n ∧ m * n ≤ 9223372036854775807) : OpOk P e (.binOp .mul T x y T') H (.int .i64 (m * n)) :=
 OpOk.mulw hx hy (wrap_i64 hr)
theorem OpOk.rem (hx : ev e x = some (.int k m)) (hy : ev e y = some (.int k n)) (h0 : n ≠ 0) : OpOk P e (.binOp .rem T x y T') H (.int k (m.tmod n)) :=
 binInt hx hy (by simp only [binOp,ne_eq,not_true_eq_false,Op.intDiv,h0,if_false]; rfl) (fun _ => rfl)
theorem OpOk.quow (hx : ev e x = some (.int k m)) (hy : ev e y = some (.int k n)) (h0 : n ≠ 0) (hr : k.wrap (m.tdiv n) = r) : OpOk P e (.binOp .quo T x y T') H (.int k r) :=
 binInt hx hy (by simp only [binOp,ne_eq,not_true_eq_false,Op.intDiv,h0,if_false,hr]; rfl) (fun _ => rfl)
theorem OpOk.lss (hx : ev e x = some (.int k m)) (hy : ev e y = some (.int k n)) : OpOk P e (.binOp .lss T x y T') H (.bool (decide (m < n))) :=
 binInt hx hy (by simp only [binOp,ne_eq,not_true_eq_false,if_false,Op.intCmp]; rfl) (fun _ => rfl)
theorem OpOk.leq (hx : ev e x = some (.int k m)) (hy : ev e y = some (.int k n)) : OpOk P e (.binOp .leq T x y T') H (.bool (decide (m ≤ n))) :=
 binInt hx hy (by simp only [binOp,ne_eq,not_true_eq_false,if_false,Op.intCmp]; rfl) (fun _ => rfl)
theorem OpOk.gtr (hx : ev e x = some (.int k m)) (hy : ev e y = some (.int k n)) : OpOk P e (.binOp .gtr T x y T') H (.bool (decide (n < m))) :=
 binInt hx hy (by simp only [binOp,ne_eq,not_true_eq_false,if_false,Op.intCmp]; rfl) (fun _ => rfl)
theorem OpOk.geq (hx : ev e x = some (.int k m)) (hy : ev e y = some (.int k n)) : OpOk P e (.binOp .geq T x y T') H (.bool (decide (n ≤ m))) :=
 binInt hx hy (by simp only [binOp,ne_eq,not_true_eq_false,if_false,Op.intCmp]; rfl) (fun _ => rfl)
theorem OpOk.eql (hx : ev e x = some (.int k m)) (hy : ev e y = some (.int k n)) : OpOk P e (.binOp .eql T x y T') H (.bool (decide (m = n))) :=
 binInt hx hy (by simp only [binOp,ne_eq,not_true_eq_false,if_false,Op.intCmp]; rfl) (fun w => by simp; rfl)
theorem OpOk.neq (hx : ev e x = some (.int k m)) (hy : ev e y = some (.int k n)) : OpOk P e (.binOp .neq T x y T') H (.bool (!decide (m = n))) :=
 binInt hx hy (by simp only [binOp,ne_eq,not_true_eq_false,if_false,Op.intCmp]; rfl) (fun w => by by_cases h : m = n <;> simp [h])
end
def hc (H : Heap) (b o : Nat) : Option Value :=
 match H[b]? with
 | some (.cells c _ _) => c[o]?
 | _ => none
theorem cell_hc {w : World} {b o : Nat} : w.cell? ⟨b,o,none⟩ = hc w.heap b o := by
 unfold World.cell? hc
 cases w.heap[b]? with
 | none => rfl
 | some x => cases x <;> simp
def vblk : Value → Nat
 | .slice (some a) _ _ => a.block
 | _ => 0
def voff : Value → Nat
 | .slice (some a) _ _ => a.off
 | _ => 0
def elAt (v : Value) (i : Nat) : Addr := ⟨vblk v,voff v + i,none⟩
def Sl (H : Heap) (B : Nat) (v : Value) (s n : Nat) (f : Nat → Value) : Prop :=
 n ≤ 9223372036854775807 ∧ ∃ a cap,v = .slice a n cap ∧ n ≤ cap ∧ (∀ i,i < n * s → ∃ b o,a = some ⟨b,o,none⟩ ∧ b < B ∧ hc H b (o + i) = some (f i))
theorem Sl.len {B : Nat} {v : Value} {s n : Nat} {f : Nat → Value} (h : Sl H B v s n f) : n ≤ 9223372036854775807 := h.1
theorem Sl.at {B : Nat} {v : Value} {s n : Nat} {f : Nat → Value} (h : Sl H B v s n f) {i : Nat} (hi : i < n * s) : hc H (elAt v i).block (elAt v i).off = some (f i) := by
 obtain ⟨_,a,cap,rfl,_,h⟩ := h
 obtain ⟨b,o,rfl,_,h⟩ := h i hi
 exact h
theorem Sl.mono {B B' : Nat} {v : Value} {s n : Nat} {f : Nat → Value} {H' : Heap} (h : Sl H B v s n f) (hB : B ≤ B') (hH : ∀ k,k < B → H'[k]? = H[k]?) : Sl H' B' v s n f := by
 obtain ⟨h1,a,cap,rfl,hc',h⟩ := h
 refine ⟨h1,a,cap,rfl,hc',fun i hi => ?_⟩
 obtain ⟨b,o,e1,hb,h⟩ := h i hi
 refine ⟨b,o,e1,by omega,?_⟩
 unfold hc at h ⊢
 rw [hH b hb]; exact h
theorem Sl.nil {s : Nat} {f : Nat → Value} (H : Heap) (B : Nat) : Sl H B (.slice none 0 0) s 0 f := ⟨by omega,none,0,rfl,Nat.le_refl _,fun i hi => by simp at hi⟩
theorem Sl.congr {B : Nat} {v : Value} {s n : Nat} {f g : Nat → Value} (h : Sl H B v s n f) (hfg : ∀ i,i < n * s → f i = g i) : Sl H B v s n g := by
 obtain ⟨h1,a,cap,rfl,hc',h⟩ := h
 refine ⟨h1,a,cap,rfl,hc',fun i hi => ?_⟩
 obtain ⟨b,o,e1,hb,h⟩ := h i hi
 exact ⟨b,o,e1,hb,by rw [h,hfg i hi]⟩
theorem OpOk.lenS {T : TypeId} {x : Operand} {a : Option Addr} {n c : Nat} {E : TypeId} (hT : P.underlying T = some (.slice E)) (hx : ev e x = some (.slice a n c)) : OpOk P e (.call { callee := .builtin .len,args := #[x],argTypes := #[T] }) H (.int .i64 n) := by
 intro ρ o w ho hev _
 simp [execOp,ho,hev _ _ hx,resolve,invoke,builtin,Builtin.len_,run_underlying hT,goInt]
def Sz (P : Program) (t : TypeId) (s : Nat) : Prop := (P.info? t).map (·.size) = some s
theorem Sz.run {t : TypeId} {s : Nat} (h : Sz P t s) (w : World) : (sizeOf t).run P w = .ok s w := by
 obtain ⟨i,hi,rfl⟩ := Option.map_eq_some_iff.1 h
 simp [sizeOf,typeInfo,hi]
theorem OpOk.indexA {T E : TypeId} {x ix : Operand} {b o len cap : Nat} {k : IntKind} {i : Int} {s : Nat} (hT : P.underlying T = some (.slice E)) (hE : Sz P E s) (hx : ev e x = some (.slice (some ⟨b,o,none⟩) len cap)) (hi : ev e ix = some (.int k i)) (h0 : 0 ≤ i) (h1 : i < len) :
   OpOk P e (.indexAddr T x ix) H (.pointer (some ⟨b,o + i.toNat * s,none⟩)) := by
 intro ρ oo w ho hev _
 have hadd : (⟨b,o,none⟩ : Addr).add (i.toNat * s) = ⟨b,o + i.toNat * s,none⟩ := by
   unfold Addr.add; split
   · rename_i h; rw [h]; rfl
   · rfl
 simp [execOp,ho,hev _ _ hx,hev _ _ hi,Instr.indexAt,asIntOf,run_underlying hT,h0,h1,hE.run,hadd]
theorem OpOk.index {T E : TypeId} {x ix : Operand} {B : Nat} {v : Value} {s n : Nat} {f : Nat → Value} {k : IntKind} {i : Int} (hT : P.underlying T = some (.slice E)) (hE : Sz P E s) (hs : Sl H B v s n f) (hx : ev e x = some v) (hi : ev e ix = some (.int k i)) (h0 : 0 ≤ i) (h1 : i < n) (hsz : 0 < s := by omega) :
   OpOk P e (.indexAddr T x ix) H (.pointer (some (elAt v (i.toNat * s)))) := by
 obtain ⟨_,a,cap,rfl,_,h⟩ := hs
 obtain ⟨b,o,rfl,_,_⟩ := h 0 (Nat.mul_pos (by omega) hsz)
 exact OpOk.indexA hT hE hx hi h0 h1
def One (P : Program) (t : TypeId) : Prop := ∃ d,P.underlying t = some d ∧ (match d with | .struct _ | .array _ _ => false | _ => true) = true
theorem One.run {t : TypeId} (h : One P t) (w : World) : (isAgg t).run P w = .ok false w := by
 obtain ⟨d,hd,hm⟩ := h
 cases d <;> simp_all [isAgg,run_underlying hd]
theorem OpOk.load {T : TypeId} {x : Operand} {a : Addr} {v : Value} (hT : One P T) (hx : ev e x = some (.pointer (some a))) (hs : a.spot = none) (hcell : hc H a.block a.off = some v) : OpOk P e (.load T x) H v := by
 intro ρ o w ho hev hw
 have h1 : w.cell? a = some v := by
   obtain ⟨b,o,sp⟩ := a
   simp only at hs hcell
   subst hs
   rw [cell_hc,hw]; exact hcell
 simp [execOp,ho,hev _ _ hx,Instr.loadAt,Instr.sureAddr,loadVar,hT.run,h1]
end Go.JE
namespace Go.JE
variable {P : Program} {e : Env} {H : Heap}
def Kp (B : Nat) (H H' : Heap) : Prop := H.size ≤ H'.size ∧ ∀ k,k < B → H'[k]? = H[k]?
theorem Kp.refl (B : Nat) (H : Heap) : Kp B H H := ⟨Nat.le_refl _,fun _ _ => rfl⟩
theorem Kp.trans {B : Nat} {H H1 H2 : Heap} (h : Kp B H H1) (h' : Kp B H1 H2) : Kp B H H2 := ⟨Nat.le_trans h.1 h'.1,fun k hk => (h'.2 k hk).trans (h.2 k hk)⟩
theorem Kp.mono {B B' : Nat} {H H' : Heap} (h : Kp B H H') (hB : B' ≤ B) : Kp B' H H' := ⟨h.1,fun k hk => h.2 k (by omega)⟩
theorem push_old {H : Heap} {o : Obj} {k : Nat} (hk : k < H.size) : (H.push o)[k]? = H[k]? := by rw [Array.getElem?_push,if_neg (by omega)]
theorem push_new {H : Heap} {o : Obj} : (H.push o)[H.size]? = some o := by simp
theorem Kp.push {B : Nat} {H0 H : Heap} (h : Kp B H0 H) (hB : B ≤ H0.size) (o : Obj) : Kp B H0 (H.push o) := by
 have h1 := h.1
 exact ⟨by simp; omega,fun k hk => (push_old (by omega)).trans (h.2 k hk)⟩
def setc (H : Heap) (b i : Nat) (v : Value) : Heap := H.modify b fun
 | .cells c elem frozen => .cells (c.setIfInBounds i v) elem frozen
 | o => o
theorem setCell_setc {w : World} {b i : Nat} {v : Value} : (w.setCell ⟨b,i,none⟩ v).heap = setc w.heap b i v := by
 simp only [World.setCell,setc,Option.isSome_none,Bool.false_eq_true,if_false]
 congr 1
theorem size_setc {b i : Nat} {v : Value} : (setc H b i v).size = H.size := by simp [setc]
theorem setc_other {b i k : Nat} {v : Value} (hk : k ≠ b) : (setc H b i v)[k]? = H[k]? := by
 simp only [setc,Array.getElem?_modify]; rw [if_neg (by omega)]
theorem Kp.setc {B b i : Nat} {v : Value} {H0 H : Heap} (h : Kp B H0 H) (hb : B ≤ b) : Kp B H0 (setc H b i v) :=
 ⟨by rw [size_setc]; exact h.1,fun k hk => (setc_other (by omega)).trans (h.2 k hk)⟩
def Rw (H : Heap) (b : Nat) (T : TypeId) (n : Nat) (f : Nat → Value) : Prop := ∃ c,H[b]? = some (.cells c T (0,0)) ∧ c.size = n ∧ ∀ i,i < n → c[i]? = some (f i)
section
variable {b n : Nat} {T : TypeId} {f g : Nat → Value}
theorem Rw.lt (h : Rw H b T n f) : b < H.size := by obtain ⟨c,hc,_⟩ := h; exact (Array.getElem?_eq_some_iff.1 hc).1
theorem Rw.cell (h : Rw H b T n f) {i : Nat} (hi : i < n) : hc H b i = some (f i) := by
 obtain ⟨c,h1,_,h2⟩ := h
 simp [hc,h1,h2 i hi]
theorem Rw.of (h : Rw H b T n f) {H' : Heap} (hb : H'[b]? = H[b]?) : Rw H' b T n f := by
 obtain ⟨c,h1,h2⟩ := h
 exact ⟨c,hb.trans h1,h2⟩
theorem Rw.kp {B : Nat} {H' : Heap} (h : Rw H b T n f) (hk : Kp B H H') (hb : b < B) : Rw H' b T n f := h.of (hk.2 b hb)
theorem Rw.push (h : Rw H b T n f) (o : Obj) : Rw (H.push o) b T n f := h.of (push_old h.lt)
theorem Rw.set {i : Nat} {v : Value} (h : Rw H b T n f) : Rw (setc H b i v) b T n (fun j => if j = i then v else f j) := by
 obtain ⟨c,h1,h2,h3⟩ := h
 refine ⟨c.setIfInBounds i v,?_,by simp [h2],fun j hj => ?_⟩
 · simp only [setc,Array.getElem?_modify,if_true,h1,Option.map_some]
 · by_cases e1 : j = i
   · subst e1; simp [h2,hj]
   · rw [Array.getElem?_setIfInBounds_ne (by omega)]; simp [e1,h3 j hj]
theorem Rw.congr (h : Rw H b T n f) (hfg : ∀ i,i < n → f i = g i) : Rw H b T n g := by
 obtain ⟨c,h1,h2,h3⟩ := h
 exact ⟨c,h1,h2,fun i hi => by rw [h3 i hi,hfg i hi]⟩
theorem Rw.new {c : Array Value} : Rw (H.push (.cells c T)) H.size T c.size (fun i => c.getD i undef) :=
 ⟨c,push_new,rfl,fun i hi => by simp [Array.getD,hi]⟩
theorem Rw.sl (h : Rw H b T n f) {B s m cap : Nat} (hb : b < B) (hm : m * s ≤ n) (hl : m ≤ 9223372036854775807) (hcap : m ≤ cap) : Sl H B (.slice (some ⟨b,0,none⟩) m cap) s m f :=
 ⟨hl,_,_,rfl,hcap,fun i hi => ⟨b,0,rfl,hb,by rw [Nat.zero_add]; exact h.cell (by omega)⟩⟩
end
theorem OpCh.box {T : TypeId} {x : Operand} {v : Value} (hx : ev e x = some v) : OpCh P e (.box T x) H (fun u H' => u = .pointer (some ⟨H.size,0,none⟩) ∧ H' = H.push (.cells v.cells T)) := by
 intro ρ o w ho hev hw
 refine ⟨.pointer (some ⟨w.heap.size,0,none⟩),{ w with heap := w.heap.push (.cells v.cells T) },.inl ?_,rfl,rfl,rfl,?_⟩
 · simp [execOp,ho,hev _ _ hx,Instr.box,newVar,newRow]
 · subst hw; exact ⟨rfl,rfl⟩
theorem OpCh.alloc {T : TypeId} {z : Value} (hz : (P.info? T).bind (·.zero) = some z) : OpCh P e (.alloc T) H (fun u H' => u = .pointer (some ⟨H.size,0,none⟩) ∧ H' = H.push (.cells z.cells T)) := by
 intro ρ o w ho hev hw
 obtain ⟨i,hi,hiz⟩ := Option.bind_eq_some_iff.1 hz
 refine ⟨.pointer (some ⟨w.heap.size,0,none⟩),{ w with heap := w.heap.push (.cells z.cells T) },.inl ?_,rfl,rfl,rfl,?_⟩
 · simp [execOp,ho,Instr.alloc,newVar,newRow,zeroValue,typeInfo,hi,hiz]
 · subst hw; exact ⟨rfl,rfl⟩
theorem OpCh.makeMap0 {T : TypeId} : OpCh P e (.makeMap T none) H (fun u H' => u = .map (some H.size) ∧ H' = H.push (.map #[] 0)) := by
 intro ρ o w ho hev hw
 refine ⟨.map (some w.heap.size),{ w with heap := w.heap.push (.map #[] 0) },.inl ?_,rfl,rfl,rfl,?_⟩
 · simp [execOp,ho,Instr.makeMap]
 · subst hw; exact ⟨rfl,rfl⟩
theorem OpCh.make {T E : TypeId} {x y : Operand} {n : Nat} {z : Value} {bytes : Nat} (hT : P.underlying T = some (.slice E)) (hE : (P.info? E).map (fun i => (i.zero,i.size,i.bytes)) = some (some z,1,bytes)) (hz : z.cells = #[z])
   (hx : ev e x = some (.int .i64 n)) (hy : ev e y = some (.int .i64 n)) (h1 : bytes * n ≤ 281474976710656) (h2 : n ≤ 9223372036854775807) :
   OpCh P e (.makeSlice T x y) H (fun u H' => u = .slice (some ⟨H.size,0,none⟩) n n ∧ H'.size = H.size + 1 ∧ (∀ k,k < H.size → H'[k]? = H[k]?) ∧ Rw H' H.size E n (fun _ => z)) := by
 intro ρ o w ho hev hw
 have hrun := run_make_row' (P := P) T E z bytes hT hE hz .i64 .i64 n h1 h2 w
 refine ⟨.slice (some ⟨w.heap.size,0,none⟩) n n,w.alloc (.cells (madeCells #[z] n) E),.inl ?_,rfl,rfl,rfl,?_⟩
 · simp [execOp,ho,hev _ _ hx,hev _ _ hy,hrun]
 · subst hw
   refine ⟨rfl,by show (w.heap.push _).size = _; simp,fun k hk => push_old hk,madeCells #[z] n,push_new,by simp [madeCells],fun i hi => ?_⟩
   simp [madeCells,hi,Nat.mod_one]
theorem OpCh.store {T : TypeId} {x y : Operand} {b i n : Nat} {E : TypeId} {f : Nat → Value} {v : Value} (hT : Sz P T 1) (hx : ev e x = some (.pointer (some ⟨b,i,none⟩))) (hy : ev e y = some v) (h1 : v.oneCell' = true) (hr : Rw H b E n f) (hi : i < n) :
   OpCh P e (.store T x y) H (fun _ H' => H' = setc H b i v) := by
 intro ρ o w ho hev hw
 obtain ⟨c,hc1,hc2,hc3⟩ := hr
 have hcell : w.cell? ⟨b,i,none⟩ = some (f i) := by rw [cell_hc,hw]; simp [hc,hc1,hc3 i hi]
 have hfr : w.frozen? ⟨b,i,none⟩ = false := by simp [World.frozen?,hw,hc1]
 have hcs : v.cells = #[v] := by cases v <;> first | rfl | cases h1
 refine ⟨undef,w.setCell ⟨b,i,none⟩ v,.inr ⟨?_,rfl⟩,rfl,rfl,rfl,?_⟩
 · simp [execOp,ho,hev _ _ hx,hev _ _ hy,Instr.storeAt,Instr.sureAddr,storeVar,hT.run,hcs,storeCells,run_store P w _ _ _ h1,Addr.add,hcell,hfr]
 · rw [setCell_setc,hw]
def evs (e : Env) : List (Nat × Operand) → Option (List (Nat × Value))
 | [] => some []
 | (i,x) :: r => match ev e x,evs e r with
   | some v,some l => some ((i,v) :: l)
   | _,_ => none
theorem evs_map {ρ : Operand → Value} (hev : ∀ x u,ev e x = some u → ρ x = u) : ∀ (l : List (Nat × Operand)) (r : List (Nat × Value)),evs e l = some r → l.map (fun p => (p.1,ρ p.2)) = r
 | [],r,h => by simp [evs] at h; subst h; rfl
 | (i,x) :: l,r,h => by
   simp only [evs] at h
   cases h1 : ev e x with
   | none => simp [h1] at h
   | some v =>
     cases h2 : evs e l with
     | none => simp [h1,h2] at h
     | some m =>
       simp only [h1,h2,Option.some.injEq] at h
       subst h
       simp only [List.map_cons,hev _ _ h1,evs_map hev l m h2]
theorem OpOk.build {T : TypeId} {l : List (Nat × Operand)} {r : List (Nat × Value)} {v : Value} (hl : evs e l = some r) (hb : ∀ w,(Instr.build T r.toArray).run P w = .ok v w) : OpOk P e (.build T l.toArray) H v := by
 intro ρ o w ho hev _
 have h1 : (l.toArray.map fun (i,x) => (i,ρ x)) = r.toArray := by
   rw [← evs_map hev l r hl]; simp
 simp [execOp,ho]
 rw [show (List.map (fun p => (p.1,ρ p.2)) l) = r from evs_map hev l r hl,hb]
 rfl
theorem OpCh.buildSlice {T E : TypeId} {m : Nat} {l : List (Nat × Operand)} {r : List (Nat × Value)} {cs : Array Value} (hl : evs e l = some r)
   (hb : ∀ w : World,(Instr.buildSlice T m r.toArray).run P w = .ok (.slice (some ⟨w.heap.size,0,none⟩) m m) (w.alloc (.cells cs E))) :
   OpCh P e (.buildSlice T m l.toArray) H (fun u H' => u = .slice (some ⟨H.size,0,none⟩) m m ∧ H' = H.push (.cells cs E)) := by
 intro ρ o w ho hev hw
 refine ⟨.slice (some ⟨w.heap.size,0,none⟩) m m,w.alloc (.cells cs E),.inl ?_,rfl,rfl,rfl,?_⟩
 · simp [execOp,ho]
   rw [show (List.map (fun p => (p.1,ρ p.2)) l) = r from evs_map hev l r hl,hb]
   rfl
 · subst hw; exact ⟨rfl,rfl⟩
def Gr (H : Heap) (B : Nat) (E : TypeId) (s : Nat) (v : Value) (n : Nat) (xs : List Value) : Prop :=
 xs.length = n * s ∧
 ((v = .slice none 0 0 ∧ n = 0) ∨
  ∃ g cap cur,v = .slice (some ⟨g,0,none⟩) n cap ∧ B ≤ g ∧ H[g]? = some (.cells cur E (0,0)) ∧ n ≤ cap ∧ cap ≤ maxLen ∧ cur.size = cap * s ∧ cur.toList.take (n * s) = xs)
theorem Gr.owns {w : World} {B : Nat} {E : TypeId} {s : Nat} {v : Value} {n : Nat} {xs : List Value} : w.ownsRow B E s v n xs ↔ Gr w.heap B E s v n xs := Iff.rfl
theorem Gr.nil (B : Nat) (E : TypeId) (s : Nat) : Gr H B E s (.slice none 0 0) 0 [] := ⟨by simp,.inl ⟨rfl,rfl⟩⟩
section
variable {B n s : Nat} {E : TypeId} {v : Value} {xs : List Value}
theorem Gr.blk (h : Gr H B E s v n xs) : ∀ k,v.ownBlock = some k → B ≤ k ∧ k < H.size := by
 intro k hk
 rcases h.2 with ⟨rfl,_⟩ | ⟨g,cap,cur,rfl,hb,hg,_⟩
 · simp [Value.ownBlock] at hk
 · simp [Value.ownBlock] at hk; subst hk; exact ⟨hb,(Array.getElem?_eq_some_iff.1 hg).1⟩
theorem Gr.of {H' : Heap} (h : Gr H B E s v n xs) (hk : ∀ k,v.ownBlock = some k → H'[k]? = H[k]?) : Gr H' B E s v n xs := by
 refine ⟨h.1,?_⟩
 rcases h.2 with hn | ⟨g,cap,cur,rfl,hb,hg,r⟩
 · exact .inl hn
 · exact .inr ⟨g,cap,cur,rfl,hb,(hk g rfl).trans hg,r⟩
theorem Gr.kp {H' : Heap} (h : Gr H B E s v n xs) (hk : Kp H.size H H') : Gr H' B E s v n xs := h.of fun k e1 => hk.2 k (h.blk k e1).2
theorem Gr.push (h : Gr H B E s v n xs) (o : Obj) : Gr (H.push o) B E s v n xs := h.of fun k e1 => push_old (h.blk k e1).2
theorem Gr.lenLe (h : Gr H B E s v n xs) : n ≤ 9223372036854775807 := by
 rcases h.2 with ⟨_,rfl⟩ | ⟨g,cap,cur,_,_,_,h1,h2,_⟩
 · omega
 · unfold maxLen at h2; omega
theorem Gr.sl (h : Gr H B E s v n xs) {f : Nat → Value} (hf : ∀ i,i < n * s → xs[i]? = some (f i)) : Sl H H.size v s n f := by
 refine ⟨h.lenLe,?_⟩
 rcases h.2 with ⟨rfl,rfl⟩ | ⟨g,cap,cur,rfl,hb,hg,h1,h2,h3,h4⟩
 · exact ⟨none,0,rfl,Nat.le_refl _,fun i hi => by simp at hi⟩
 · refine ⟨_,_,rfl,h1,fun i hi => ⟨g,0,rfl,(Array.getElem?_eq_some_iff.1 hg).1,?_⟩⟩
   have h5 := hf i hi
   rw [← h4,List.getElem?_take,if_pos hi] at h5
   simp only [hc,hg,Nat.zero_add]
   simpa using h5
theorem Gr.len (h : Gr H B E s v n xs) : ∃ a c,v = .slice a n c := by
 rcases h.2 with ⟨rfl,rfl⟩ | ⟨g,cap,cur,rfl,_⟩
 · exact ⟨_,_,rfl⟩
 · exact ⟨_,_,rfl⟩
theorem Gr.own (h : Gr H B E s v n xs) (hn : 0 < n) : ∃ g c,v = .slice (some ⟨g,0,none⟩) n c ∧ B ≤ g ∧ g < H.size := by
 rcases h.2 with ⟨rfl,rfl⟩ | ⟨g,cap,cur,rfl,hb,hg,_⟩
 · omega
 · exact ⟨_,_,rfl,hb,(Array.getElem?_eq_some_iff.1 hg).1⟩
theorem Gr.set {b i : Nat} {u : Value} (h : Gr H B E s v n xs) (hb : v.ownBlock = some b) : Gr (setc H b i u) B E s v n (xs.set i u) := by
 refine ⟨by simp [h.1],?_⟩
 rcases h.2 with ⟨rfl,rfl⟩ | ⟨g,cap,cur,rfl,hb',hg,h1,h2,h3,h4⟩
 · simp [Value.ownBlock] at hb
 · simp [Value.ownBlock] at hb; subst hb
   refine .inr ⟨g,cap,cur.setIfInBounds i u,rfl,hb',?_,h1,h2,by simp [h3],?_⟩
   · simp only [setc,Array.getElem?_modify,if_true,hg,Option.map_some]
   · rw [← h4,Array.toList_setIfInBounds,List.take_set]
end
def GrownBy (H H' : Heap) (row : Option Nat) : Prop := H.size ≤ H'.size ∧ ∀ k,k < H.size → some k ≠ row → H'[k]? = H[k]?
theorem GrownBy.kp {B : Nat} {H0 H' : Heap} {row : Option Nat} (h : Kp B H0 H) (hg : GrownBy H H' row) (hB : B ≤ H0.size) (hr : ∀ k,row = some k → B ≤ k) : Kp B H0 H' :=
 ⟨Nat.le_trans h.1 hg.1,fun k hk => (hg.2 k (by have := h.1; omega) (fun e1 => by have := hr k e1.symm; omega)).trans (h.2 k hk)⟩
theorem append_block {B n : Nat} {E : TypeId} {v : Value} {xs : List Value} {T ty : TypeId} {i : TypeInfo} {z : Value} {w w' : World} {v' : Value} {a : Addr} {m c : Nat} {news : List Value} (ht : P.underlying T = some (.slice E)) (hi : P.info? E = some i) (hz : i.zero = some z) (_ : 0 < i.size)
   (hown : Gr w.heap B E i.size v n xs) (hl : news.length = m * i.size) (hnews : ∀ j u,news[j]? = some u → w.cell? (a.add j) = some u) (h1 : ∀ u ∈ news,u.oneCell' = true) (h63 : n + m ≤ maxLen) (hbytes : (n + m) * i.bytes ≤ 140737488355328)
   (hrun : (Builtin.append_ #[T,T] ty #[v,.slice (some a) m c]).run P w = .ok v' w') : v'.ownBlock = v.ownBlock ∨ v'.ownBlock = some w.heap.size := by
 have hsmall : n + m ≤ 9223372036854775807 := by simp only [maxLen] at h63; omega
 rcases hown.2 with ⟨rfl,rfl⟩ | ⟨g,cap,cur,rfl,hbg,hg,hnc,hcm,hcs,htake⟩
 · by_cases hm : m = 0
   · subst hm
     have hn : news = [] := List.eq_nil_of_length_eq_zero (by simpa using hl)
     subst hn
     have hr : (Builtin.append_ #[T,T] ty #[.slice none 0 0,.slice (some a) 0 c]).run P w = .ok (.slice none 0 0) w := by
       simp [Builtin.append_,run_underlying ht,sizeOf,typeInfo,hi,Builtin.lenOf,Builtin.firstCells,loadCells,loadCellsFrom]
     rw [hr] at hrun
     injection hrun with h2 _
     exact .inl (by rw [← h2])
   · have hr := run_append_nil (P := P) w T ty E i z ht hi hz a m c news hl hnews (by omega) (by omega) (by have hb := hbytes; simp only [Nat.zero_add] at hb; omega)
     rw [hr] at hrun
     injection hrun with h2 _
     exact .inr (by rw [← h2]; rfl)
 · by_cases hroom : n + m ≤ cap
   · have hfit : n * i.size + news.length ≤ cur.size := by rw [hl,hcs,← Nat.add_mul]; exact Nat.mul_le_mul_right _ hroom
     have hr := run_append_room (P := P) w T ty E i ht hi g n cap cur hg a m c news hl hnews h1 hroom hfit
     rw [hr] at hrun
     injection hrun with h2 _
     exact .inl (by rw [← h2]; rfl)
   · have holds : ∀ j u,xs[j]? = some u → w.cell? ((⟨g,0,none⟩ : Addr).add j) = some u := World.ownsRow.cells (w := w) (base := B) (e := E) (size := i.size) (n := n) (v := .slice (some ⟨g,0,none⟩) n cap) ⟨hown.1,.inr ⟨g,cap,cur,rfl,hbg,hg,hnc,hcm,hcs,htake⟩⟩ (g := g) rfl
     have hr := run_append_grow (P := P) w T ty E i z ht hi hz ⟨g,0,none⟩ n cap xs hown.1 holds a m c news hl hnews (by omega) (by omega) (growslice_fits (by omega) hbytes)
     rw [hr] at hrun
     injection hrun with h2 _
     exact .inr (by rw [← h2]; rfl)
theorem OpCh.append {T E : TypeId} {x y : Operand} {B s bytes n m c : Nat} {z v : Value} {xs news : List Value} {b o : Nat} (hT : P.underlying T = some (.slice E))
   (hE : (P.info? E).map (fun i => (i.zero,i.size,i.bytes)) = some (some z,s,bytes)) (hz : z.cells.size = s) (hs : 0 < s) (hx : ev e x = some v) (hown : Gr H B E s v n xs)
   (hy : ev e y = some (.slice (some ⟨b,o,none⟩) m c)) (hl : news.length = m * s) (hn : ∀ j u,news[j]? = some u → hc H b (o + j) = some u) (h1 : ∀ u ∈ news,u.oneCell' = true)
   (hb : (n + m) * bytes ≤ 140737488355328) (hbn : n + m ≤ 140737488355328) (hB : B ≤ H.size) :
   OpCh P e (.call { callee := .builtin .append,args := #[x,y],argTypes := #[T,T] }) H (fun v' H' => Gr H' B E s v' (n + m) (xs ++ news) ∧ GrownBy H H' v.ownBlock ∧ (v' = .slice none 0 0 ↔ v = .slice none 0 0 ∧ m = 0) ∧ (v'.ownBlock = v.ownBlock ∨ v'.ownBlock = some H.size)) := by
 intro ρ oo w ho hev hw
 subst hw
 obtain ⟨i,hi,hz0,hz1,hz2⟩ := info_parts hE
 obtain ⟨v',w',hrun,r1,r2,r3⟩ := run_append_own (P := P) w B T oo.type E i z s bytes hT hi hz0 hz1 hz2 hz hs v n xs hown ⟨b,o,none⟩ m c news hl
   (fun j u hj => by rw [Addr.add_lit,cell_hc]; exact hn j u hj) h1 (by unfold maxLen; omega) hb hB
 subst hz1; subst hz2
 have r4 := append_block (P := P) (w := w) (a := ⟨b,o,none⟩) hT hi hz0 hs hown hl (fun j u hj => by rw [Addr.add_lit,cell_hc]; exact hn j u hj) h1 (by unfold maxLen; omega) hb hrun
 refine ⟨v',w',.inl ?_,r2.os,r2.tape,r2.output,r1,⟨r2.size,r2.block⟩,r3,r4⟩
 simp [execOp,ho,hev _ _ hx,hev _ _ hy,resolve,invoke,builtin,hrun]
theorem Sl.up {B s n : Nat} {v : Value} {f : Nat → Value} (h : Sl H B v s n f) : Sl H H.size v s n f := by
 obtain ⟨h1,a,cap,rfl,h2,h3⟩ := h
 refine ⟨h1,a,cap,rfl,h2,fun i hi => ?_⟩
 obtain ⟨b,o,e1,_,h4⟩ := h3 i hi
 refine ⟨b,o,e1,?_,h4⟩
 unfold hc at h4
 cases h5 : H[b]? with
 | none => rw [h5] at h4; cases h4
 | some x => exact (Array.getElem?_eq_some_iff.1 h5).1
theorem Sl.kp {B s n : Nat} {v : Value} {f : Nat → Value} {H' : Heap} (h : Sl H B v s n f) (hk : Kp B H H') : Sl H' B v s n f := h.mono (Nat.le_refl _) hk.2
end Go.JE
namespace Go.JE
variable {P : Program} {e : Env} {H : Heap}
theorem nodup_inj {α : Type} {l : List α} (h : l.Nodup) {i j : Nat} {a : α} (h1 : l[i]? = some a) (h2 : l[j]? = some a) : i = j := by
 have hp := List.pairwise_iff_getElem.1 h
 obtain ⟨hi,hi'⟩ := List.getElem?_eq_some_iff.1 h1
 obtain ⟨hj,hj'⟩ := List.getElem?_eq_some_iff.1 h2
 rcases Nat.lt_trichotomy i j with h3 | h3 | h3
 · exact absurd (hi'.trans hj'.symm) (hp i j hi hj h3)
 · exact h3
 · exact absurd (hj'.trans hi'.symm) (hp j i hj hi h3)
structure ImAt (es : Array MapEntry) (clock : Nat) (L : List (Int × Value)) : Prop where
 ents : es.toList.map (fun x => (x.key,x.val)) = L.map (fun p => (Value.int .i64 p.1,p.2))
 nodup : (L.map (·.1)).Nodup
 born : ∀ x ∈ es.toList,x.born < clock
 stamps : (es.toList.map (·.born)).Nodup
def Im (H : Heap) (b : Nat) (L : List (Int × Value)) : Prop := ∃ es clock,H[b]? = some (.map es clock) ∧ ImAt es clock L
theorem Im.lt {b : Nat} {L : List (Int × Value)} (h : Im H b L) : b < H.size := by obtain ⟨es,c,h,_⟩ := h; exact (Array.getElem?_eq_some_iff.1 h).1
theorem Im.of {H' : Heap} {b : Nat} {L : List (Int × Value)} (h : Im H b L) (hb : H'[b]? = H[b]?) : Im H' b L := by
 obtain ⟨es,c,h1,h2⟩ := h; exact ⟨es,c,hb.trans h1,h2⟩
theorem Im.kp {B b : Nat} {H' : Heap} {L : List (Int × Value)} (h : Im H b L) (hk : Kp B H H') (hb : b < B) : Im H' b L := h.of (hk.2 b hb)
theorem Im.push {b : Nat} {L : List (Int × Value)} (h : Im H b L) (o : Obj) : Im (H.push o) b L := h.of (push_old h.lt)
theorem Im.new : Im (H.push (.map #[] 0)) H.size [] := ⟨#[],0,push_new,rfl,by simp,by simp,by simp⟩
def lkM (L : List (Int × Value)) (k : Int) : Option Value := (L.find? (fun p => p.1 == k)).map (·.2)
def upM : List (Int × Value) → Int → Value → List (Int × Value)
 | [],k,v => [(k,v)]
 | p :: r,k,v => if p.1 == k then (k,v) :: r else p :: upM r k v
theorem upM_keys (L : List (Int × Value)) (k : Int) (v : Value) : (upM L k v).map (·.1) = if k ∈ L.map (·.1) then L.map (·.1) else L.map (·.1) ++ [k] := by
 induction L with
 | nil => simp [upM]
 | cons p r ih =>
   simp only [upM]
   by_cases h : p.1 = k
   · simp [h]
   · rw [if_neg (by simpa using h)]
     simp only [List.map_cons,ih,List.mem_cons]
     by_cases h2 : k ∈ r.map (·.1)
     · simp [h2]
     · simp [h2,Ne.symm h]
theorem upM_lk (L : List (Int × Value)) (k j : Int) (v : Value) : lkM (upM L k v) j = if j = k then some v else lkM L j := by
 induction L with
 | nil =>
   by_cases h : j = k
   · simp [upM,lkM,h]
   · have h' : ¬ k = j := fun e1 => h e1.symm
     simp [upM,lkM,h,h']
 | cons p r ih =>
   simp only [upM]
   by_cases h : p.1 = k
   · simp only [h,beq_self_eq_true,if_true]
     by_cases h2 : j = k
     · simp [lkM,h2]
     · simp [lkM,h,h2,Ne.symm h2]
   · rw [if_neg (by simpa using h)]
     by_cases h2 : p.1 = j
     · have : j ≠ k := fun e1 => h (h2.trans e1)
       simp [lkM,h2,this]
     · have h3 : lkM (p :: upM r k v) j = lkM (upM r k v) j := by simp [lkM,h2]
       have h4 : lkM (p :: r) j = lkM r j := by simp [lkM,h2]
       rw [h3,h4,ih]
theorem lkM_none {L : List (Int × Value)} {k : Int} : lkM L k = none ↔ k ∉ L.map (·.1) := by
 simp only [lkM,Option.map_eq_none_iff,List.find?_eq_none,beq_iff_eq,List.mem_map,not_exists,not_and]
theorem findNow_int (k : Int) : ∀ (l : List MapEntry) (L : List (Int × Value)) (i : Nat),l.map (fun x => (x.key,x.val)) = L.map (fun p => (Value.int .i64 p.1,p.2)) →
   Instr.findNow (.int .i64) (.int .i64 k) l i = some ((L.zipIdx i).find? (fun q => q.1.1 == k) |>.map fun q => (q.2,q.1.2))
 | [],[],i,_ => by simp [Instr.findNow]
 | [],_ :: _,i,h => by simp at h
 | _ :: _,[],i,h => by simp at h
 | x :: l,p :: L,i,h => by
   simp only [List.map_cons,List.cons.injEq,Prod.mk.injEq] at h
   obtain ⟨⟨h1,h2⟩,h3⟩ := h
   simp only [Instr.findNow,h1,Instr.sameNow,if_true,List.zipIdx_cons,List.find?_cons]
   by_cases hk : k = p.1
   · subst hk; simp [h2]
   · rw [findNow_int k l L (i + 1) h3]
     have : (k == p.1) = false := by simpa using hk
     have h' : (p.1 == k) = false := by simpa using Ne.symm hk
     simp [this,h']
theorem run_findKey {K : TypeId} (hK : P.underlying K = some (.int .i64)) {es : Array MapEntry} {c : Nat} {L : List (Int × Value)} (h : ImAt es c L) (k : Int) (w : World) :
   (Instr.findKey K (.int .i64 k) es.toList).run P w = .ok ((L.zipIdx.find? (fun q => q.1.1 == k)).map fun q => (q.2,q.1.2)) w := by
 unfold Instr.findKey
 rw [run_bind_ok (run_underlying hK w),findNow_int k es.toList L 0 h.ents]
 rfl
theorem find_zipIdx (L : List (Int × Value)) (k : Int) (i : Nat) : ((L.zipIdx i).find? (fun q => q.1.1 == k)).map (fun q => q.1.2) = lkM L k := by
 induction L generalizing i with
 | nil => simp [lkM]
 | cons p r ih =>
   simp only [List.zipIdx_cons,List.find?_cons,lkM]
   by_cases h : p.1 = k
   · simp [h]
   · have : (p.1 == k) = false := by simpa using h
     simp only [this]; exact ih (i + 1)
theorem run_checkKey {K : TypeId} (hK : P.underlying K = some (.int .i64)) (em : Bool) (d : Nat) (k : Int) (w : World) : (Instr.checkKey em (d + 1) K (.int .i64 k)).run P w = .ok () w := by
 simp only [Instr.checkKey]
 rw [run_bind_ok (run_underlying hK w)]
 rfl
theorem OpOk.lookup {T K E : TypeId} {x ix : Operand} {b : Nat} {L : List (Int × Value)} {k : Int} {z : Value} (hT : P.underlying T = some (.map K E)) (hK : P.underlying K = some (.int .i64)) (hz : (P.info? E).bind (·.zero) = some z)
   (hm : Im H b L) (hx : ev e x = some (.map (some b))) (hi : ev e ix = some (.int .i64 k)) : OpOk P e (.lookup T x ix false) H ((lkM L k).getD z) := by
 intro ρ o w ho hev hw
 obtain ⟨es,c,h1,h2⟩ := hm
 obtain ⟨i,hi1,hiz⟩ := Option.bind_eq_some_iff.1 hz
 have hget : (getObj b).run P w = .ok (.map es c) w := by simp [getObj,Sem.run,hw,h1]
 have hck : (Instr.checkKey es.isEmpty 10000 K (.int .i64 k)).run P w = .ok () w := run_checkKey hK _ 9999 k w
 have hfind := run_findKey hK h2 k w
 have hval := find_zipIdx L k 0
 simp only [execOp,ho,hev _ _ hx,hev _ _ hi,Instr.lookup]
 simp only [Sem.run_bind,run_underlying hT,Result.andThen_ok,hget,hck,hfind,Sem.run_pure]
 cases hf : L.zipIdx.find? (fun q => q.1.1 == k) with
 | none =>
   rw [hf] at hval
   simp only [Option.map_none] at hval
   simp [← hval,zeroValue,typeInfo,hi1,hiz]
 | some q =>
   rw [hf] at hval
   simp only [Option.map_some] at hval
   simp [← hval]
theorem OpOk.lookupOk {T K E : TypeId} {x ix : Operand} {b : Nat} {L : List (Int × Value)} {k : Int} {z : Value} (hT : P.underlying T = some (.map K E)) (hK : P.underlying K = some (.int .i64)) (hz : (P.info? E).bind (·.zero) = some z)
   (hm : Im H b L) (hx : ev e x = some (.map (some b))) (hi : ev e ix = some (.int .i64 k)) : OpOk P e (.lookup T x ix true) H (.tuple #[(lkM L k).getD z,.bool (lkM L k).isSome]) := by
 intro ρ o w ho hev hw
 obtain ⟨es,c,h1,h2⟩ := hm
 obtain ⟨i,hi1,hiz⟩ := Option.bind_eq_some_iff.1 hz
 have hget : (getObj b).run P w = .ok (.map es c) w := by simp [getObj,Sem.run,hw,h1]
 have hck : (Instr.checkKey es.isEmpty 10000 K (.int .i64 k)).run P w = .ok () w := run_checkKey hK _ 9999 k w
 have hfind := run_findKey hK h2 k w
 have hval := find_zipIdx L k 0
 simp only [execOp,ho,hev _ _ hx,hev _ _ hi,Instr.lookup]
 simp only [Sem.run_bind,run_underlying hT,Result.andThen_ok,hget,hck,hfind,Sem.run_pure]
 cases hf : L.zipIdx.find? (fun q => q.1.1 == k) with
 | none =>
   rw [hf] at hval
   simp only [Option.map_none] at hval
   simp [← hval,zeroValue,typeInfo,hi1,hiz]
 | some q =>
   rw [hf] at hval
   simp only [Option.map_some] at hval
   simp [← hval]
def Tw (b : Nat) (H H' : Heap) : Prop := H'.size = H.size ∧ ∀ k,k ≠ b → H'[k]? = H[k]?
theorem Tw.kp {B b : Nat} {H0 H H' : Heap} (h : Kp B H0 H) (ht : Tw b H H') (hb : B ≤ b) : Kp B H0 H' := ⟨by rw [ht.1]; exact h.1,fun k hk => (ht.2 k (by omega)).trans (h.2 k hk)⟩
theorem tw_set {b : Nat} {o : Obj} : Tw b H (H.setIfInBounds b o) := ⟨by simp,fun k hk => by rw [Array.getElem?_setIfInBounds_ne (Ne.symm hk)]⟩
theorem Tw.other {b b' : Nat} {H' : Heap} {L : List (Int × Value)} (h : Im H b' L) (ht : Tw b H H') (hb : b' ≠ b) : Im H' b' L := h.of (ht.2 b' hb)
theorem find_some {L : List (Int × Value)} {k : Int} {i0 : Nat} {q : (Int × Value) × Nat} (h : (L.zipIdx i0).find? (fun q => q.1.1 == k) = some q) : ∃ j,q.2 = i0 + j ∧ L[j]? = some q.1 ∧ q.1.1 = k ∧ (∀ v,upM L k v = L.set j (k,v)) := by
 induction L generalizing i0 with
 | nil => simp at h
 | cons p r ih =>
   simp only [List.zipIdx_cons,List.find?_cons] at h
   by_cases hp : p.1 = k
   · have : (p.1 == k) = true := by simpa using hp
     simp only [this,Option.some.injEq] at h
     subst h
     exact ⟨0,by simp,by simp,hp,fun v => by simp [upM,hp]⟩
   · have : (p.1 == k) = false := by simpa using hp
     simp only [this] at h
     obtain ⟨j,h1,h2,h3,h4⟩ := ih h
     exact ⟨j + 1,by omega,by simpa using h2,h3,fun v => by simp [upM,hp,h4]⟩
theorem find_none {L : List (Int × Value)} {k : Int} {i0 : Nat} (h : (L.zipIdx i0).find? (fun q => q.1.1 == k) = none) : k ∉ L.map (·.1) ∧ ∀ v,upM L k v = L ++ [(k,v)] := by
 induction L generalizing i0 with
 | nil => simp [upM]
 | cons p r ih =>
   simp only [List.zipIdx_cons,List.find?_cons] at h
   by_cases hp : p.1 = k
   · have : (p.1 == k) = true := by simpa using hp
     simp [this] at h
   · have : (p.1 == k) = false := by simpa using hp
     simp only [this] at h
     obtain ⟨h1,h2⟩ := ih h
     refine ⟨by simp only [List.map_cons,List.mem_cons,not_or]; exact ⟨Ne.symm hp,h1⟩,fun v => by simp [upM,hp,h2]⟩
theorem ImAt.setVal {es : Array MapEntry} {c j : Nat} {L : List (Int × Value)} {k : Int} {v w : Value} (h : ImAt es c L) (hj : L[j]? = some (k,w)) (kk : Value) (hkk : kk = .int .i64 k) : ImAt (es.modify j fun x => { x with key := kk,val := v }) c (L.set j (k,v)) := by
 subst hkk
 have hlen : es.size = L.length := by have := congrArg List.length h.ents; simpa using this
 have hjl : j < L.length := (List.getElem?_eq_some_iff.1 hj).1
 have hje : j < es.size := by omega
 have hme : (es.modify j fun x => { x with key := .int .i64 k,val := v }).toList = es.toList.set j { es[j] with key := .int .i64 k,val := v } := by
   apply List.ext_getElem?
   intro i
   rw [Array.getElem?_toList,Array.getElem?_modify,List.getElem?_set]
   by_cases hij : j = i
   · subst hij; simp [hje]
   · simp [hij]
 refine ⟨?_,?_,?_,?_⟩
 · rw [hme]
   simp only [List.map_set,h.ents]
 · have : (L.set j (k,v)).map (·.1) = L.map (·.1) := by
     rw [List.map_set]
     apply List.ext_getElem?
     intro i
     rw [List.getElem?_set]
     by_cases hij : j = i
     · subst hij; simp only [if_true,hjl,List.length_map,List.getElem?_map,hj,Option.map_some]
     · simp [hij]
   rw [this]; exact h.nodup
 · intro x hx
   rw [hme] at hx
   rcases List.mem_or_eq_of_mem_set hx with hx | hx
   · exact h.born x hx
   · subst hx; exact h.born es[j] (by simp)
 · have : (es.toList.set j { es[j] with key := .int .i64 k,val := v }).map (·.born) = es.toList.map (·.born) := by
     rw [List.map_set]
     apply List.ext_getElem?
     intro i
     rw [List.getElem?_set]
     by_cases hij : j = i
     · subst hij; simp [hje]
     · simp [hij]
   rw [hme,this]; exact h.stamps
theorem ImAt.snoc {es : Array MapEntry} {c : Nat} {L : List (Int × Value)} {k : Int} {v : Value} (h : ImAt es c L) (hk : k ∉ L.map (·.1)) : ImAt (es.push { key := .int .i64 k,val := v,born := c }) (c + 1) (L ++ [(k,v)]) := by
 refine ⟨by simp [h.ents],?_,?_,?_⟩
 · rw [List.map_append,List.nodup_append]
   refine ⟨h.nodup,by simp,?_⟩
   intro a ha b hb
   simp only [List.map_cons,List.map_nil,List.mem_singleton] at hb
   subst hb
   intro e1; subst e1; exact hk ha
 · intro x hx
   simp only [Array.toList_push,List.mem_append,List.mem_singleton] at hx
   rcases hx with hx | rfl
   · have := h.born x hx; omega
   · simp
 · simp only [Array.toList_push,List.map_append,List.map_cons,List.map_nil]
   rw [List.nodup_append]
   refine ⟨h.stamps,by simp,?_⟩
   intro a ha b hb
   simp only [List.mem_singleton] at hb
   subst hb
   obtain ⟨x,hx,rfl⟩ := List.mem_map.1 ha
   have := h.born x hx; omega
theorem keyStays (k : Int) (w : World) : (Instr.keyThatStays (.int .i64 k) (.int .i64 k)).run P w = .ok (.int .i64 k) w := by
 unfold Instr.keyThatStays
 have : Instr.sameBits 10000 (.int .i64 k) (.int .i64 k) = true := by unfold Instr.sameBits; simp
 rw [if_pos this]; rfl
theorem OpCh.mapUpdate {T K E : TypeId} {x ix y : Operand} {b : Nat} {L : List (Int × Value)} {k : Int} {v : Value} (hT : P.underlying T = some (.map K E)) (hK : P.underlying K = some (.int .i64)) (hm : Im H b L)
   (hx : ev e x = some (.map (some b))) (hi : ev e ix = some (.int .i64 k)) (hy : ev e y = some v) : OpCh P e (.mapUpdate T x ix y) H (fun _ H' => Im H' b (upM L k v) ∧ Tw b H H') := by
 intro ρ o w ho hev hw
 obtain ⟨es,c,h1,h2⟩ := hm
 have hlen : es.size = L.length := by have := congrArg List.length h2.ents; simpa using this
 have hget : (getObj b).run P w = .ok (.map es c) w := by simp [getObj,Sem.run,hw,h1]
 have hck : (Instr.checkKey false 10000 K (.int .i64 k)).run P w = .ok () w := run_checkKey hK _ 9999 k w
 have hfind := run_findKey hK h2 k w
 have hb : b < w.heap.size := by rw [hw]; exact (Array.getElem?_eq_some_iff.1 h1).1
 have hset : ∀ o' : Obj,(setObj b o').run P w = .ok () { w with heap := w.heap.setIfInBounds b o' } := by
   intro o'; simp [setObj,Sem.run,hw,h1]
 have hnew : ∀ o' : Obj,(w.heap.setIfInBounds b o')[b]? = some o' := by intro o'; simp [hb]
 cases hf : L.zipIdx.find? (fun q => q.1.1 == k) with
 | none =>
   obtain ⟨hk,hu⟩ := find_none hf
   rw [hf] at hfind
   simp only [Option.map_none] at hfind
   refine ⟨undef,{ w with heap := w.heap.setIfInBounds b (.map (es.push { key := .int .i64 k,val := v,born := c }) (c + 1)) },.inr ⟨?_,rfl⟩,rfl,rfl,rfl,?_⟩
   · simp only [execOp,ho,hev _ _ hx,hev _ _ hi,hev _ _ hy,Instr.mapUpdate]
     simp only [Sem.run_bind,run_underlying hT,Result.andThen_ok,hget,hck,hfind,hset]
     rfl
   · subst hw
     exact ⟨⟨_,_,hnew _,by rw [hu]; exact h2.snoc hk⟩,tw_set⟩
 | some q =>
   obtain ⟨j,hj1,hj2,hj3,hj4⟩ := find_some hf
   rw [hf] at hfind
   simp only [Option.map_some] at hfind
   have hj5 : q.2 = j := by omega
   have hjl : j < L.length := (List.getElem?_eq_some_iff.1 hj2).1
   have hkey : ((es[j]?).map (·.key)).getD (.int .i64 k) = .int .i64 k := by
     have h3 := congrArg (fun l => l[j]?) h2.ents
     simp only [List.getElem?_map,hj2,Array.getElem?_toList,Option.map_some] at h3
     cases he : es[j]? with
     | none => rfl
     | some x => rw [he] at h3; simp at h3; simp [h3.1,hj3]
   refine ⟨undef,{ w with heap := w.heap.setIfInBounds b (.map (es.modify j fun x => { x with key := .int .i64 k,val := v }) c) },.inr ⟨?_,rfl⟩,rfl,rfl,rfl,?_⟩
   · simp only [execOp,ho,hev _ _ hx,hev _ _ hi,hev _ _ hy,Instr.mapUpdate]
     simp only [Sem.run_bind,run_underlying hT,Result.andThen_ok,hget,hck,hfind,hj5,hkey,keyStays,hset]
     rfl
   · subst hw
     refine ⟨⟨_,_,hnew _,by rw [hj4]; exact h2.setVal (w := q.1.2) (by rw [hj2,← hj3]) _ rfl⟩,tw_set⟩
def insM (L : List (Int × Value)) (k : Int) (z : Value) : List (Int × Value) := if k ∈ L.map (·.1) then L else L ++ [(k,z)]
def ImS (H : Heap) (b : Nat) (L : List (Int × Value)) (k : Int) (st : Nat) : Prop := ∃ es clock,H[b]? = some (.map es clock) ∧ ImAt es clock L ∧ ∃ x ∈ es.toList,x.key = .int .i64 k ∧ x.born = st
theorem ImS.im {b st : Nat} {L : List (Int × Value)} {k : Int} (h : ImS H b L k st) : Im H b L := by obtain ⟨es,c,h1,h2,_⟩ := h; exact ⟨es,c,h1,h2⟩
theorem ImS.of {H' : Heap} {b st : Nat} {L : List (Int × Value)} {k : Int} (h : ImS H b L k st) (hb : H'[b]? = H[b]?) : ImS H' b L k st := by
 obtain ⟨es,c,h1,h2,h3⟩ := h; exact ⟨es,c,hb.trans h1,h2,h3⟩
theorem OpCh.mapEntry {T K E : TypeId} {x ix : Operand} {b : Nat} {L : List (Int × Value)} {k : Int} {z : Value} (hT : P.underlying T = some (.map K E)) (hK : P.underlying K = some (.int .i64)) (hz : (P.info? E).bind (·.zero) = some z) (hm : Im H b L)
   (hx : ev e x = some (.map (some b))) (hi : ev e ix = some (.int .i64 k)) : OpCh P e (.mapEntry T x ix) H (fun u H' => ∃ st : Nat,u = .tuple #[(lkM L k).getD z,.int .i64 st] ∧ ImS H' b (insM L k z) k st ∧ Tw b H H') := by
 intro ρ o w ho hev hw
 obtain ⟨es,c,h1,h2⟩ := hm
 obtain ⟨i,hi1,hiz⟩ := Option.bind_eq_some_iff.1 hz
 have hzv : (zeroValue E).run P w = .ok z w := by simp [zeroValue,typeInfo,hi1,hiz]
 have hget : (getObj b).run P w = .ok (.map es c) w := by simp [getObj,Sem.run,hw,h1]
 have hck : (Instr.checkKey false 10000 K (.int .i64 k)).run P w = .ok () w := run_checkKey hK _ 9999 k w
 have hfind := run_findKey hK h2 k w
 have hval := find_zipIdx L k 0
 have hb : b < w.heap.size := by rw [hw]; exact (Array.getElem?_eq_some_iff.1 h1).1
 have hset : ∀ o' : Obj,(setObj b o').run P w = .ok () { w with heap := w.heap.setIfInBounds b o' } := by
   intro o'; simp [setObj,Sem.run,hw,h1]
 have hnew : ∀ o' : Obj,(w.heap.setIfInBounds b o')[b]? = some o' := by intro o'; simp [hb]
 cases hf : L.zipIdx.find? (fun q => q.1.1 == k) with
 | none =>
   obtain ⟨hk,hu⟩ := find_none hf
   rw [hf] at hfind hval
   simp only [Option.map_none] at hfind hval
   refine ⟨.tuple #[z,goInt c],{ w with heap := w.heap.setIfInBounds b (.map (es.push { key := .int .i64 k,val := z,born := c }) (c + 1)) },.inl ?_,rfl,rfl,rfl,?_⟩
   · simp only [execOp,ho,hev _ _ hx,hev _ _ hi,Instr.mapEntry]
     simp only [Sem.run_bind,run_underlying hT,Result.andThen_ok,hget,hck,hfind,hzv,hset]
     rfl
   · subst hw
     refine ⟨c,by rw [← hval]; rfl,⟨_,_,hnew _,?_,⟨{ key := .int .i64 k,val := z,born := c },by simp,rfl,rfl⟩⟩,tw_set⟩
     unfold insM; rw [if_neg hk]; exact h2.snoc hk
 | some q =>
   obtain ⟨j,hj1,hj2,hj3,hj4⟩ := find_some hf
   rw [hf] at hfind hval
   simp only [Option.map_some] at hfind hval
   have hj5 : q.2 = j := by omega
   have hlen : es.size = L.length := by have := congrArg List.length h2.ents; simpa using this
   have hjl : j < L.length := (List.getElem?_eq_some_iff.1 hj2).1
   have hje : j < es.size := by omega
   have h3 := congrArg (fun l => l[j]?) h2.ents
   simp only [List.getElem?_map,hj2,Array.getElem?_toList,Option.map_some,Array.getElem?_eq_getElem hje,Option.some.injEq,Prod.mk.injEq] at h3
   have hkey : ((es[j]?).map (·.key)).getD (.int .i64 k) = .int .i64 k := by simp [hje,h3.1,hj3]
   have hmem : k ∈ L.map (·.1) := by rw [← hj3]; exact List.mem_map.2 ⟨q.1,List.mem_of_getElem? hj2,rfl⟩
   refine ⟨.tuple #[q.1.2,goInt (((es[j]?).map (·.born)).getD 0)],{ w with heap := w.heap.setIfInBounds b (.map (es.modify j fun x => { x with key := .int .i64 k }) c) },.inl ?_,rfl,rfl,rfl,?_⟩
   · simp only [execOp,ho,hev _ _ hx,hev _ _ hi,Instr.mapEntry]
     simp only [Sem.run_bind,run_underlying hT,Result.andThen_ok,hget,hck,hfind,hj5,hkey,keyStays,hset]
     rfl
   · subst hw
     have hsame : es.modify j (fun x => { x with key := .int .i64 k }) = es := by
       apply Array.ext_getElem?
       intro i
       rw [Array.getElem?_modify]
       by_cases hij : j = i
       · subst hij
         have : es[j] = { es[j] with key := .int .i64 k } := by
           have h4 := h3.1
           rw [hj3] at h4
           rw [← h4]
         simp only [if_true,Array.getElem?_eq_getElem hje,Option.map_some]
         exact congrArg some this.symm
       · simp [hij]
     refine ⟨es[j].born,by rw [← hval]; simp [hje,goInt],⟨_,_,hnew _,?_,⟨es[j],?_,by rw [h3.1,hj3],rfl⟩⟩,tw_set⟩
     · unfold insM; rw [if_pos hmem,hsame]; exact h2
     · rw [hsame]; simp
theorem OpCh.entryStore {T : TypeId} {x s y : Operand} {b st : Nat} {L : List (Int × Value)} {k : Int} {v : Value} (hm : ImS H b L k st) (hx : ev e x = some (.map (some b))) (hs : ev e s = some (.int .i64 st)) (hy : ev e y = some v) :
   OpCh P e (.entryStore T x s y) H (fun _ H' => Im H' b (upM L k v) ∧ Tw b H H') := by
 intro ρ o w ho hev hw
 obtain ⟨es,c,h1,h2,x0,hx0,hk0,hb0⟩ := hm
 have hget : (getObj b).run P w = .ok (.map es c) w := by simp [getObj,Sem.run,hw,h1]
 have hb : b < w.heap.size := by rw [hw]; exact (Array.getElem?_eq_some_iff.1 h1).1
 have hset : ∀ o' : Obj,(setObj b o').run P w = .ok () { w with heap := w.heap.setIfInBounds b o' } := by
   intro o'; simp [setObj,Sem.run,hw,h1]
 have hnew : ∀ o' : Obj,(w.heap.setIfInBounds b o')[b]? = some o' := by intro o'; simp [hb]
 have hlen : es.size = L.length := by have := congrArg List.length h2.ents; simpa using this
 obtain ⟨j,hj,hjx⟩ := List.getElem_of_mem hx0
 have hje : j < es.size := by simpa using hj
 have hjl : j < L.length := by omega
 have hejx : es[j] = x0 := by simpa using hjx
 have hfi : es.findIdx? (fun e => (e.born : Int) == (st : Int)) = some j := by
   rw [Array.findIdx?_eq_some_iff_getElem]
   refine ⟨hje,by simp [hejx,hb0],fun i hij => ?_⟩
   have hne : es[i].born ≠ st := by
     intro e1
     have hi' : i < es.size := by omega
     have := nodup_inj h2.stamps (i := i) (j := j) (a := st) (by simp [hi',e1]) (by simp [hje,hejx,hb0])
     omega
   have h4 : ¬ ((es[i].born : Int) = (st : Int)) := fun e1 => hne (Int.ofNat.inj e1)
   simpa using h4
 have h3 := congrArg (fun l => l[j]?) h2.ents
 simp only [List.getElem?_map,Array.getElem?_toList,Array.getElem?_eq_getElem hje,List.getElem?_eq_getElem hjl,Option.map_some,Option.some.injEq,Prod.mk.injEq] at h3
 have hLk : L[j].1 = k := by
   have h4 := h3.1
   rw [hejx,hk0] at h4
   injection h4 with _ h5
   exact h5.symm
 have hu : upM L k v = L.set j (k,v) := by
   have hfind : ∃ q,L.zipIdx.find? (fun q => q.1.1 == k) = some q := by
     cases hf : L.zipIdx.find? (fun q => q.1.1 == k) with
     | none => exact absurd (by rw [← hLk]; exact List.mem_map.2 ⟨L[j],by simp,rfl⟩) (find_none hf).1
     | some q => exact ⟨q,rfl⟩
   obtain ⟨q,hq⟩ := hfind
   obtain ⟨j',_,hj2,hj3,hj4⟩ := find_some hq
   have : j' = j := by
     exact nodup_inj h2.nodup (a := k) (by simp [hj2,hj3]) (by simp [hjl,hLk])
   rw [hj4,this]
 refine ⟨undef,{ w with heap := w.heap.setIfInBounds b (.map (es.modify j fun x => { x with val := v }) c) },.inr ⟨?_,rfl⟩,rfl,rfl,rfl,?_⟩
 · simp only [execOp,ho,hev _ _ hx,hev _ _ hs,hev _ _ hy,Instr.entryStore]
   simp only [Sem.run_bind,Result.andThen_ok,hget,asInt,asIntOf,Sem.run_pure,hfi,hset]
 · subst hw
   refine ⟨⟨_,_,hnew _,?_⟩,tw_set⟩
   rw [hu]
   have hsame : es.modify j (fun x => { x with val := v }) = es.modify j (fun x => { x with key := .int .i64 k,val := v }) := by
     apply Array.ext_getElem?
     intro i
     rw [Array.getElem?_modify,Array.getElem?_modify]
     by_cases hij : j = i
     · subst hij
       simp [hje,hejx,hk0]
     · simp [hij]
   rw [hsame]
   exact h2.setVal (w := L[j].2) (by rw [List.getElem?_eq_getElem hjl,← hLk]) _ rfl
def It (H : Heap) (r b : Nat) (L : List (Int × Value)) (vis : List Int) : Prop :=
 ∃ es c seen,H[b]? = some (.map es c) ∧ ImAt es c L ∧ H[r]? = some (.mapIter (some b) c seen c) ∧ vis.Nodup ∧ (∀ k ∈ vis,k ∈ L.map (·.1)) ∧
   (∀ x ∈ es.toList,(x.born ∈ seen.toList ↔ ∃ k ∈ vis,x.key = .int .i64 k)) ∧ (∀ k,vis.getLast? = some k → ∃ x ∈ es.toList,x.key = .int .i64 k ∧ seen.back? = some x.born)
theorem It.of {H' : Heap} {r b : Nat} {L : List (Int × Value)} {vis : List Int} (h : It H r b L vis) (hr : H'[r]? = H[r]?) (hb : H'[b]? = H[b]?) : It H' r b L vis := by
 obtain ⟨es,c,seen,h1,h2,h3,h4⟩ := h; exact ⟨es,c,seen,hb.trans h1,h2,hr.trans h3,h4⟩
theorem It.im {r b : Nat} {L : List (Int × Value)} {vis : List Int} (h : It H r b L vis) : Im H b L := by obtain ⟨es,c,seen,h1,h2,_⟩ := h; exact ⟨es,c,h1,h2⟩
theorem OpCh.range {T K E : TypeId} {x : Operand} {b : Nat} {L : List (Int × Value)} (hT : P.underlying T = some (.map K E)) (hm : Im H b L) (hx : ev e x = some (.map (some b))) :
   OpCh P e (.range T x) H (fun u H' => u = .pointer (some ⟨H.size,0,none⟩) ∧ It H' H.size b L [] ∧ H'.size = H.size + 1 ∧ (∀ k,k < H.size → H'[k]? = H[k]?)) := by
 intro ρ o w ho hev hw
 have hlt := hm.lt
 obtain ⟨es,c,h1,h2⟩ := hm
 have hget : (getObj b).run P w = .ok (.map es c) w := by simp [getObj,Sem.run,hw,h1]
 refine ⟨.pointer (some ⟨w.heap.size,0,none⟩),{ w with heap := w.heap.push (.mapIter (some b) c #[] c) },.inl ?_,rfl,rfl,rfl,?_⟩
 · simp only [execOp,ho,hev _ _ hx,Instr.range]
   simp only [Sem.run_bind,run_underlying hT,Result.andThen_ok,hget]
   simp
 · subst hw
   exact ⟨rfl,⟨es,c,#[],(push_old hlt).trans h1,h2,push_new,by simp,by simp,by simp,by simp⟩,by simp,fun k hk => push_old hk⟩
theorem mem_filter_arr {es : Array MapEntry} {p : MapEntry → Bool} {x : MapEntry} : x ∈ (es.filter p).toList ↔ x ∈ es.toList ∧ p x = true := by simp
theorem run_mapNext {m : Nat} (hm : 0 < m) (w : World) : ∃ t w',(choose (.mapNext m)).run P w = .ok t w' ∧ w'.heap = w.heap ∧ w'.os = w.os ∧ w'.tape = w.tape ∧ w'.output = w.output ∧ t < m := by
 rw [run_choose]
 split
 · exact ⟨0,w,rfl,rfl,rfl,rfl,rfl,hm⟩
 · exact ⟨_,_,rfl,rfl,rfl,rfl,rfl,by simp only [Question.cut]; exact Nat.mod_lt _ hm⟩
theorem OpCh.next {x : Operand} {r b : Nat} {L : List (Int × Value)} {vis : List Int} (hrb : r ≠ b) (hit : It H r b L vis) (hx : ev e x = some (.pointer (some ⟨r,0,none⟩))) :
    OpCh P e (.next x false) H (fun u H' => (u = .tuple #[.bool false] ∧ (∀ k ∈ L.map (·.1),k ∈ vis) ∧ H' = H) ∨
      (∃ k v,u = .tuple #[.bool true,.int .i64 k,v] ∧ (k,v) ∈ L ∧ k ∉ vis ∧ It H' r b L (vis ++ [k]) ∧ Tw r H H')) := by
  intro ρ o w ho hev hw
  obtain ⟨es,c,seen,h1,h2,h3,h4,h5,h6,h7⟩ := hit
  have hgb : (getObj b).run P w = .ok (.map es c) w := by simp [getObj,Sem.run,hw,h1]
  have hgr : (getObj r).run P w = .ok (.mapIter (some b) c seen c) w := by simp [getObj,Sem.run,hw,h3]
  have hrl : r < w.heap.size := by rw [hw]; exact (Array.getElem?_eq_some_iff.1 h3).1
  have hold : (es.filter fun x => !seen.contains x.born).filter (·.born < c) = es.filter fun x => !seen.contains x.born := by
    rw [Array.filter_eq_self]
    intro x hx'
    have := h2.born x (by have := (mem_filter_arr.1 (Array.mem_toList_iff.2 hx')).1; exact this)
    simpa using this
  have hnew : (es.filter fun x => !seen.contains x.born).filter (·.born ≥ c) = #[] := by
    rw [Array.filter_eq_empty_iff]
    intro x hx'
    have := h2.born x (by have := (mem_filter_arr.1 (Array.mem_toList_iff.2 hx')).1; exact this)
    simp; omega
  have hgone : (!seen.isEmpty && !es.isEmpty && es.all (·.born ≥ c)) = false := by
    cases hes : es.toList with
    | nil =>
      have : es = #[] := by simpa using hes
      subst this; simp
    | cons x l =>
      have hx' : x ∈ es.toList := by rw [hes]; simp
      have hlt := h2.born x hx'
      have : es.all (·.born ≥ c) = false := by
        rw [Bool.eq_false_iff]
        intro hall
        rw [Array.all_eq_true'] at hall
        have := hall x (Array.mem_toList_iff.1 hx')
        simp at this; omega
      simp [this]
  generalize hleft : (es.filter fun x => !seen.contains x.born) = left at hold hnew
  have hmem : ∀ x,x ∈ left.toList ↔ x ∈ es.toList ∧ ¬ ∃ k ∈ vis,x.key = .int .i64 k := by
    intro x
    rw [← hleft,mem_filter_arr]
    constructor
    · rintro ⟨ha,hb⟩
      exact ⟨ha,fun hk => by have := (h6 x ha).2 hk; simp at hb; exact hb (Array.mem_toList_iff.1 this)⟩
    · rintro ⟨ha,hb⟩
      refine ⟨ha,?_⟩
      simp only [Bool.not_eq_true',Array.contains_eq_mem,decide_eq_false_iff_not]
      intro hc
      exact hb ((h6 x ha).1 (Array.mem_toList_iff.2 hc))
  obtain ⟨cand,hcd⟩ : ∃ cand : Array (Option MapEntry),(if left.isEmpty then #[none] else #[]) ++ (left ++ #[]).map some = cand := ⟨_,rfl⟩
  have hpos : 0 < cand.size := by
    rw [← hcd]
    cases hl : left.isEmpty with
    | true => simp; omega
    | false => simp at hl ⊢; exact Nat.pos_of_ne_zero (by simpa using hl)
  obtain ⟨t,w',hch,hwh,hwo,hwt,hwp,ht⟩ := run_mapNext (P := P) hpos w
  have hrun : (execOp ρ o).run P w = match cand[t]? with
      | some (some e) => .ok (.value (.tuple #[.bool true,e.key,e.val])) { w' with heap := w'.heap.setIfInBounds r (.mapIter (some b) c (seen.push e.born) c) }
      | some none => .ok (.value (.tuple #[.bool false])) w'
      | none => .halt (.stuck "Next: no such candidate") w' := by
    simp only [execOp,ho,hev _ _ hx,Instr.next]
    simp only [Sem.run_bind,Result.andThen_ok,hgr,hgb,hgone,hleft,hold,hnew,Bool.false_eq_true,if_false,Sem.run_pure,hcd,hch]
    cases hc2 : cand[t]? with
    | none => simp
    | some y =>
      cases y with
      | none => simp
      | some z =>
        have : (setObj r (.mapIter (some b) c (seen.push z.born) c)).run P w' = .ok () { w' with heap := w'.heap.setIfInBounds r (.mapIter (some b) c (seen.push z.born) c) } := by
          simp [setObj,Sem.run,hwh,hw,h3]
        simp [this]
  rw [hrun,Array.getElem?_eq_getElem ht]
  cases hl : left.isEmpty with
  | true =>
    have hle : left = #[] := by simpa using hl
    have hcn : cand = #[none] := by rw [← hcd,hle]; simp
    have hz : cand[t] = none := by
      subst hcn
      have : t = 0 := by simp at ht; exact ht
      subst this; rfl
    rw [hz]
    refine ⟨_,_,.inl rfl,hwo,hwt,hwp,.inl ⟨rfl,?_,hwh.trans hw⟩⟩
    intro k hk
    by_cases hv : k ∈ vis
    · exact hv
    · exfalso
      obtain ⟨p,hp,rfl⟩ := List.mem_map.1 hk
      have h8 : (Value.int .i64 p.1,p.2) ∈ es.toList.map (fun x => (x.key,x.val)) := by rw [h2.ents]; exact List.mem_map.2 ⟨p,hp,rfl⟩
      obtain ⟨x,hx1,hx2⟩ := List.mem_map.1 h8
      have h9 : x ∈ left.toList := (hmem x).2 ⟨hx1,fun ⟨k',hk',he⟩ => by
        have h10 : x.key = .int .i64 p.1 := congrArg Prod.fst hx2
        rw [h10] at he
        injection he with _ h11
        exact hv (h11 ▸ hk')⟩
      rw [hle] at h9; simp at h9
  | false =>
    have hsz : cand = left.map some := by rw [← hcd]; simp [hl]
    have htl : t < left.size := by rw [hsz] at ht; simpa using ht
    have hz : cand[t] = some left[t] := by
      subst hsz; simp
    rw [hz]
    have hxm : left[t] ∈ left.toList := by simp
    obtain ⟨hx1,hx2⟩ := (hmem _).1 hxm
    have h8 : (left[t].key,left[t].val) ∈ L.map (fun p => (Value.int .i64 p.1,p.2)) := by rw [← h2.ents]; exact List.mem_map.2 ⟨_,hx1,rfl⟩
    obtain ⟨p,hp1,hp2⟩ := List.mem_map.1 h8
    have hk : left[t].key = .int .i64 p.1 := (congrArg Prod.fst hp2).symm
    have hv : left[t].val = p.2 := (congrArg Prod.snd hp2).symm
    have hnot : p.1 ∉ vis := fun hm => hx2 ⟨p.1,hm,hk⟩
    refine ⟨_,_,.inl rfl,hwo,hwt,hwp,.inr ⟨p.1,p.2,by rw [hk,hv],hp1,hnot,?_,?_⟩⟩
    · have hkeys : (es.toList.map (·.key)) = L.map (fun p => Value.int .i64 p.1) := by
        have := congrArg (List.map Prod.fst) h2.ents
        simpa [List.map_map,Function.comp_def] using this
      refine ⟨es,c,seen.push left[t].born,?_,h2,?_,?_,?_,?_,?_⟩
      · simp only [hwh]; rw [Array.getElem?_setIfInBounds_ne hrb,hw]; exact h1
      · simp only [hwh]; simp [hrl]
      · rw [List.nodup_append]; exact ⟨h4,by simp,by intro a ha b' hb'; simp only [List.mem_singleton] at hb'; subst hb'; intro e1; subst e1; exact hnot ha⟩
      · intro k hk'
        rcases List.mem_append.1 hk' with h9 | h9
        · exact h5 k h9
        · simp only [List.mem_singleton] at h9; subst h9; exact List.mem_map.2 ⟨p,hp1,rfl⟩
      · intro x hx'
        simp only [Array.toList_push,List.mem_append,List.mem_singleton]
        constructor
        · rintro (h9 | h9)
          · obtain ⟨k,hk1,hk2⟩ := (h6 x hx').1 h9; exact ⟨k,.inl hk1,hk2⟩
          · refine ⟨p.1,.inr rfl,?_⟩
            have h10 : x = left[t] := by
              obtain ⟨i,hi,hie⟩ := List.getElem_of_mem hx'
              obtain ⟨j,hj,hje⟩ := List.getElem_of_mem hx1
              have hij : i = j := by
                have e1 : (es.toList.map (·.born))[i]? = some x.born := by rw [List.getElem?_map,List.getElem?_eq_getElem hi,hie]; rfl
                have e2 : (es.toList.map (·.born))[j]? = some left[t].born := by rw [List.getElem?_map,List.getElem?_eq_getElem hj,hje]; rfl
                rw [← h9] at e2
                exact nodup_inj h2.stamps e1 e2
              subst hij
              rw [← hie,← hje]
            rw [h10,hk]
        · rintro ⟨k,hk1 | hk1,hk2⟩
          · exact .inl ((h6 x hx').2 ⟨k,hk1,hk2⟩)
          · subst hk1
            right
            obtain ⟨i,hi,hie⟩ := List.getElem_of_mem hx'
            obtain ⟨j,hj,hje⟩ := List.getElem_of_mem hx1
            have e1 : (es.toList.map (·.key))[i]? = some (.int .i64 p.1) := by rw [List.getElem?_map,List.getElem?_eq_getElem hi,hie]; simp [hk2]
            have e2 : (es.toList.map (·.key))[j]? = some (.int .i64 p.1) := by rw [List.getElem?_map,List.getElem?_eq_getElem hj,hje]; simp [hk]
            rw [hkeys,List.getElem?_map] at e1 e2
            have f1 : ∃ q,L[i]? = some q ∧ q.1 = p.1 := by
              cases hq : L[i]? with
              | none => rw [hq] at e1; simp at e1
              | some q => rw [hq] at e1; simp at e1; exact ⟨q,rfl,e1⟩
            have f2 : ∃ q,L[j]? = some q ∧ q.1 = p.1 := by
              cases hq : L[j]? with
              | none => rw [hq] at e2; simp at e2
              | some q => rw [hq] at e2; simp at e2; exact ⟨q,rfl,e2⟩
            obtain ⟨q1,f1,f1'⟩ := f1
            obtain ⟨q2,f2,f2'⟩ := f2
            have g1 : (L.map (·.1))[i]? = some p.1 := by rw [List.getElem?_map,f1]; simp [f1']
            have g2 : (L.map (·.1))[j]? = some p.1 := by rw [List.getElem?_map,f2]; simp [f2']
            have hij : i = j := nodup_inj h2.nodup g1 g2
            subst hij
            rw [← hie,← hje]
      · intro k hk'
        simp only [List.getLast?_append,List.getLast?_singleton,Option.some_or,Option.some.injEq] at hk'
        subst hk'
        exact ⟨left[t],hx1,hk,by simp⟩
    · subst hw; rw [← hwh]; exact tw_set
theorem OpOk.entry {x : Operand} {r b : Nat} {L : List (Int × Value)} {vis : List Int} {k : Int} {v : Value} (hit : It H r b L (vis ++ [k])) (hkv : (k,v) ∈ L) (hx : ev e x = some (.pointer (some ⟨r,0,none⟩))) :
   OpOk P e (.entry x) H (.tuple #[.int .i64 k,v]) := by
 intro ρ o w ho hev hw
 obtain ⟨es,c,seen,h1,h2,h3,h4,h5,h6,h7⟩ := hit
 have hgb : (getObj b).run P w = .ok (.map es c) w := by simp [getObj,Sem.run,hw,h1]
 have hgr : (getObj r).run P w = .ok (.mapIter (some b) c seen c) w := by simp [getObj,Sem.run,hw,h3]
 obtain ⟨x0,hx0,hk0,hs0⟩ := h7 k (by simp)
 have hfind : es.find? (fun y => y.born == x0.born) = some x0 := by
   obtain ⟨j,hj,hje⟩ := List.getElem_of_mem hx0
   have hj' : j < es.size := by simpa using hj
   have hje' : es[j] = x0 := by simpa using hje
   rw [Array.find?_eq_some_iff_getElem]
   refine ⟨by simp,j,hj',hje',fun i hij => ?_⟩
   have hi' : i < es.size := by omega
   simp only [Bool.not_eq_true',beq_eq_false_iff_ne,ne_eq]
   intro e1
   have := nodup_inj h2.stamps (i := i) (j := j) (a := x0.born) (by simp [hi',e1]) (by simp [hj',hje'])
   omega
 have hval : x0.val = v := by
   have h8 : (x0.key,x0.val) ∈ L.map (fun p => (Value.int .i64 p.1,p.2)) := by rw [← h2.ents]; exact List.mem_map.2 ⟨_,hx0,rfl⟩
   obtain ⟨p,hp1,hp2⟩ := List.mem_map.1 h8
   rw [hk0] at hp2
   simp only [Prod.mk.injEq,Value.int.injEq,true_and] at hp2
   obtain ⟨i,hi,hie⟩ := List.getElem_of_mem hp1
   obtain ⟨j,hj,hje⟩ := List.getElem_of_mem hkv
   have g1 : (L.map (·.1))[i]? = some k := by rw [List.getElem?_map,List.getElem?_eq_getElem hi,hie]; simp [hp2.1]
   have g2 : (L.map (·.1))[j]? = some k := by rw [List.getElem?_map,List.getElem?_eq_getElem hj,hje]; simp
   have hij : i = j := nodup_inj h2.nodup g1 g2
   subst hij
   rw [hie] at hje
   rw [← hp2.2,hje]
 simp only [execOp,ho,hev _ _ hx,Instr.entry]
 simp only [Sem.run_bind,Result.andThen_ok,hgr,hgb,hs0,hfind]
 simp [hk0,hval]
theorem Im.nodup {b : Nat} {L : List (Int × Value)} (h : Im H b L) : (L.map (·.1)).Nodup := by obtain ⟨_,_,_,h⟩ := h; exact h.nodup
theorem It.len {r b : Nat} {L : List (Int × Value)} {vis : List Int} (h : It H r b L vis) : vis.length ≤ L.length := by
 obtain ⟨es,c,seen,h1,h2,h3,h4,h5,_⟩ := h
 have := List.Nodup.length_le_of_subset h4 (fun k hk => h5 k hk)
 simpa using this
theorem It.sub {r b : Nat} {L : List (Int × Value)} {vis : List Int} (h : It H r b L vis) : ∀ k ∈ vis,k ∈ L.map (·.1) := by
 obtain ⟨es,c,seen,h1,h2,h3,h4,h5,_⟩ := h; exact h5
theorem It.nodup {r b : Nat} {L : List (Int × Value)} {vis : List Int} (h : It H r b L vis) : vis.Nodup := by
 obtain ⟨es,c,seen,h1,h2,h3,h4,h5,_⟩ := h; exact h4
theorem It.kp {B r b : Nat} {H' : Heap} {L : List (Int × Value)} {vis : List Int} (h : It H r b L vis) (hk : Kp B H H') (hr : r < B) (hb : b < B) : It H' r b L vis := h.of (hk.2 r hr) (hk.2 b hb)
theorem erase_map {α β : Type} (f : α → β) : ∀ (l : List α) (j : Nat),(l.eraseIdx j).map f = (l.map f).eraseIdx j
 | [],_ => rfl
 | _ :: _,0 => rfl
 | a :: l,j + 1 => by simp [erase_map f l j]
theorem ImAt.erase {es : Array MapEntry} {c j : Nat} {L : List (Int × Value)} (h : ImAt es c L) : ImAt (es.eraseIdxIfInBounds j) c (L.eraseIdx j) := by
 have ht : (es.eraseIdxIfInBounds j).toList = es.toList.eraseIdx j := by
   unfold Array.eraseIdxIfInBounds
   split
   · simp
   · rw [List.eraseIdx_of_length_le (by simp; omega)]
 refine ⟨?_,?_,?_,?_⟩
 · rw [ht,erase_map,h.ents,erase_map]
 · rw [erase_map]; exact List.Nodup.sublist (List.eraseIdx_sublist ..) h.nodup
 · intro x hx; rw [ht] at hx; exact h.born x (List.mem_of_mem_eraseIdx hx)
 · rw [ht,erase_map]; exact List.Nodup.sublist (List.eraseIdx_sublist ..) h.stamps
end Go.JE
namespace Go.JE
variable {P : Program} {e : Env} {H : Heap}
def Ent (P : Program) (f : FuncId) : Prop := ∃ fn, P.funcs[f]? = some fn ∧ (fn.name == "runtime.NumGoroutine") = false ∧ fn.body.isNone = false
theorem Ent.run {f : FuncId} (h : Ent P f) (args : Array Value) (w : World) : (callFunc f args).run P w = .ok (.enter f args) w := by
 obtain ⟨fn,h1,h2,h3⟩ := h
 simp only [callFunc,Sem.run_bind,run_program,Result.andThen_ok,h1,h2,h3,Bool.false_eq_true,if_false]
 rfl
def evl (e : Env) : List Operand → Option (List Value)
 | [] => some []
 | x :: r => match ev e x,evl e r with
   | some v,some l => some (v :: l)
   | _,_ => none
theorem evl_map {ρ : Operand → Value} (hev : ∀ x u,ev e x = some u → ρ x = u) : ∀ (l : List Operand) (r : List Value),evl e l = some r → l.map ρ = r
 | [],r,h => by simp [evl] at h; subst h; rfl
 | x :: l,r,h => by
   simp only [evl] at h
   cases h1 : ev e x with
   | none => simp [h1] at h
   | some v =>
     cases h2 : evl e l with
     | none => simp [h1,h2] at h
     | some m =>
       simp only [h1,h2,Option.some.injEq] at h
       subst h
       simp only [List.map_cons,hev _ _ h1,evl_map hev l m h2]
theorem OpCall.fnc {f : FuncId} {g : Operand} {l : List Operand} {vs cs : List Value} {ts : Array TypeId} (hE : Ent P f) (hf : ev e g = some (.func (.func f) #[] cs.toArray)) (hl : evl e l = some vs) :
   OpCall P e (.call { callee := .value g,args := l.toArray,argTypes := ts }) H f (vs ++ cs).toArray := by
 intro ρ o w ho hev _
 have h1 : l.toArray.map ρ = vs.toArray := by rw [← evl_map hev l vs hl]; simp
 have h2 := hE.run (vs ++ cs).toArray w
 simp only [execOp,ho,resolve,h1,hev _ _ hf,Deferred.ofValue]
 simp only [Sem.run_bind,Sem.run_pure,Result.andThen_ok,invoke]
 rw [show (#[] ++ vs.toArray ++ cs.toArray : Array Value) = (vs ++ cs).toArray by simp]
 exact h2
theorem OpCall.fn {f : FuncId} {g : Operand} {l : List Operand} {vs : List Value} {ts : Array TypeId} (hE : Ent P f) (hf : ev e g = some (.func (.func f) #[] #[])) (hl : evl e l = some vs) :
   OpCall P e (.call { callee := .value g,args := l.toArray,argTypes := ts }) H f vs.toArray := by
 have := OpCall.fnc (ts := ts) (H := H) (cs := []) hE hf hl
 simpa using this
def Fld (P : Program) (T : TypeId) (i off : Nat) : Prop := ∃ fs f,P.underlying T = some (.struct fs) ∧ fs[i]? = some f ∧ f.offset = off ∧ ∃ s,Sz P f.type s ∧ s ≠ 0
theorem Addr.add_none (b o n : Nat) : (⟨b,o,none⟩ : Addr).add n = ⟨b,o + n,none⟩ := by
 unfold Addr.add; split
 · rename_i h; rw [h]; rfl
 · rfl
theorem OpOk.fieldAddr {T : TypeId} {x : Operand} {i off b o : Nat} (hF : Fld P T i off) (hx : ev e x = some (.pointer (some ⟨b,o,none⟩))) : OpOk P e (.fieldAddr T x i) H (.pointer (some ⟨b,o + off,none⟩)) := by
 intro ρ oo w ho hev _
 obtain ⟨fs,f,h1,h2,rfl,s,h3,h4⟩ := hF
 simp [execOp,ho,hev _ _ hx,Instr.fieldAt,run_underlying h1,h2,Instr.sureAddr,fieldPlace,h3.run,h4,Addr.add_none]
theorem OpOk.indexArr {T E : TypeId} {x ix : Operand} {b o len s i : Nat} {k : IntKind} {I : Int} (hT : P.underlying T = some (.array len E)) (hE : Sz P E s) (hx : ev e x = some (.pointer (some ⟨b,o,none⟩))) (hi : ev e ix = some (.int k I)) (hI : I = i) (h1 : i < len) :
   OpOk P e (.indexAddr T x ix) H (.pointer (some ⟨b,o + i * s,none⟩)) := by
 intro ρ oo w ho hev _
 subst hI
 simp [execOp,ho,hev _ _ hx,hev _ _ hi,Instr.indexAt,asIntOf,run_underlying hT,Instr.sureAddr,h1,hE.run,Addr.add_none]
theorem OpOk.loadAgg {T : TypeId} {x : Operand} {b o m : Nat} {l : List Value} (hT : ∃ d,P.underlying T = some d ∧ (match d with | .struct _ | .array _ _ => true | _ => false) = true) (hS : Sz P T m) (hx : ev e x = some (.pointer (some ⟨b,o,none⟩))) (hl : l.length = m)
   (hcell : ∀ j u,l[j]? = some u → hc H b (o + j) = some u) : OpOk P e (.load T x) H (.agg l.toArray) := by
 intro ρ oo w ho hev hw
 obtain ⟨d,hd,hm⟩ := hT
 have hag : (isAgg T).run P w = .ok true w := by cases d <;> simp_all [isAgg,run_underlying hd]
 have hload := run_loadCells_list (P := P) w ⟨b,o,none⟩ l (fun j v hj => by rw [Addr.add_none,cell_hc,hw]; exact hcell j v hj)
 subst hl
 simp [execOp,ho,hev _ _ hx,Instr.loadAt,Instr.sureAddr,loadVar,hag,hS.run,hload]
def resl (s : Nat) (v : Value) (lo hi : Nat) : Value := match v with
 | .slice a _ c => .slice (if c = lo then a else a.map (·.add (lo * s))) (hi - lo) (c - lo)
 | v => v
theorem Sl.resl {B : Nat} {v : Value} {s n lo hi : Nat} {f : Nat → Value} (h : Sl H B v s n f) (h1 : lo ≤ hi) (h2 : hi ≤ n) : Sl H B (resl s v lo hi) s (hi - lo) (fun i => f (lo * s + i)) := by
 obtain ⟨h0,a,cap,rfl,hcap,h⟩ := h
 refine ⟨by omega,_,_,rfl,by omega,fun i hi' => ?_⟩
 have hb : lo * s + i < n * s := by
   have : (hi - lo) * s + lo * s ≤ n * s := by rw [← Nat.add_mul]; exact Nat.mul_le_mul_right s (by omega)
   omega
 obtain ⟨b,o,rfl,h3,h4⟩ := h _ hb
 have hc' : ¬ cap = lo := by
   intro e1
   have : n * s ≤ lo * s := Nat.mul_le_mul_right s (by omega)
   omega
 refine ⟨b,o + lo * s,?_,h3,?_⟩
 · rw [if_neg hc']; simp [Addr.add_none]
 · rw [Nat.add_assoc]; exact h4
theorem sliceBound_ok {k : IntKind} {i : Int} {y : Nat} {c : BoundsCode} (h0 : 0 ≤ i) (h1 : i ≤ y) (w : World) : (Instr.sliceBound (.int k i) y c).run P w = .ok i.toNat w := run_sliceBound w k i y c h0 h1
section
variable {T E : TypeId} {x lx hx' : Operand} {B : Nat} {v : Value} {s n lo hi : Nat} {f : Nat → Value} {k k' : IntKind} {I J : Int}
theorem OpOk.sliceHi (hT : P.underlying T = some (.slice E)) (hE : Sz P E s) (hs : Sl H B v s n f) (hx : ev e x = some v) (hh : ev e hx' = some (.int k' J)) (hJ : J = hi) (h2 : hi ≤ n) :
   OpOk P e (.slice T x none (some hx') none) H (resl s v 0 hi) := by
 intro ρ o w ho hev _
 subst hJ
 obtain ⟨_,a,cap,rfl,hcap,_⟩ := hs
 have b1 := sliceBound_ok (P := P) (k := k') (i := (hi : Int)) (y := cap) (c := .sliceAcap) (by omega) (by omega) w
 simp only [Int.toNat_natCast] at b1
 simp [execOp,ho,hev _ _ hx,hev _ _ hh,Instr.sliceAt,Instr.slice,Instr.sliceBounds,run_underlying hT,b1,hE.run,JE.resl]
theorem OpOk.sliceLo (hT : P.underlying T = some (.slice E)) (hE : Sz P E s) (hs : Sl H B v s n f) (hx : ev e x = some v) (hl : ev e lx = some (.int k I)) (hI : I = lo) (h2 : lo ≤ n) :
   OpOk P e (.slice T x (some lx) none none) H (resl s v lo n) := by
 intro ρ o w ho hev _
 subst hI
 obtain ⟨_,a,cap,rfl,hcap,_⟩ := hs
 have b2 := sliceBound_ok (P := P) (k := k) (i := (lo : Int)) (y := n) (c := .sliceB) (by omega) (by omega) w
 simp only [Int.toNat_natCast] at b2
 simp [execOp,ho,hev _ _ hx,hev _ _ hl,Instr.sliceAt,Instr.slice,Instr.sliceBounds,run_underlying hT,b2,hE.run,JE.resl]
end
theorem OpOk.min {x y : Operand} {k : IntKind} {m n : Int} {ts : Array TypeId} (hx : ev e x = some (.int k m)) (hy : ev e y = some (.int k n)) : OpOk P e (.call { callee := .builtin .min,args := #[x,y],argTypes := ts }) H (.int k (if n < m then n else m)) := by
 intro ρ o w ho hev _
 simp [execOp,ho,hev _ _ hx,hev _ _ hy,resolve,invoke,builtin,Builtin.min_,Builtin.min2]
theorem OpOk.max {x y : Operand} {k : IntKind} {m n : Int} {ts : Array TypeId} (hx : ev e x = some (.int k m)) (hy : ev e y = some (.int k n)) : OpOk P e (.call { callee := .builtin .max,args := #[x,y],argTypes := ts }) H (.int k (if n > m then n else m)) := by
 intro ρ o w ho hev _
 simp [execOp,ho,hev _ _ hx,hev _ _ hy,resolve,invoke,builtin,Builtin.max_,Builtin.max2]
def setl (H : Heap) (b o : Nat) : List Value → Heap
 | [] => H
 | v :: r => setl (setc H b o v) b (o + 1) r
theorem size_setl (b : Nat) : ∀ (l : List Value) (o : Nat) (H : Heap),(setl H b o l).size = H.size
 | [],_,_ => rfl
 | v :: r,o,H => by rw [setl,size_setl b r,size_setc]
theorem setl_other {b k : Nat} (hk : k ≠ b) : ∀ (l : List Value) (o : Nat) (H : Heap),(setl H b o l)[k]? = H[k]?
 | [],_,_ => rfl
 | v :: r,o,H => by rw [setl,setl_other hk r,setc_other hk]
theorem Rw.setl {b n : Nat} {T : TypeId} : ∀ (l : List Value) (o : Nat) (H : Heap) (f : Nat → Value),Rw H b T n f → Rw (setl H b o l) b T n (fun j => if o ≤ j ∧ j < o + l.length then l.getD (j - o) undef else f j)
 | [],o,H,f,h => h.congr (fun i _ => by rw [if_neg (by simp only [List.length_nil]; omega)])
 | v :: r,o,H,f,h => by
   refine (Rw.setl r (o + 1) _ _ (h.set (i := o) (v := v))).congr (fun j _ => ?_)
   by_cases h1 : j = o
   · subst h1; rw [if_neg (by omega),if_pos rfl,if_pos (by simp only [List.length_cons]; omega)]; simp
   · by_cases h2 : o ≤ j ∧ j < o + (r.length + 1)
     · rw [if_pos (by omega),if_pos (by simp; omega)]
       rw [show j - o = (j - (o + 1)) + 1 by omega]; simp
     · rw [if_neg (by omega),if_neg h1,if_neg (by simp; omega)]
theorem run_storeCells {P : Program} {b n : Nat} {E : TypeId} : ∀ (l : List Value) (o i : Nat) (w : World) (f : Nat → Value),(∀ u ∈ l,u.oneCell' = true) → Rw w.heap b E n f → o + i + l.length ≤ n →
   ∃ w',(storeCells ⟨b,o,none⟩ l i).run P w = .ok () w' ∧ w'.heap = setl w.heap b (o + i) l ∧ w'.os = w.os ∧ w'.tape = w.tape ∧ w'.output = w.output
 | [],o,i,w,f,_,_,_ => ⟨w,rfl,rfl,rfl,rfl,rfl⟩
 | v :: r,o,i,w,f,h1,hr,hn => by
   have hv := h1 v (by simp)
   simp only [List.length_cons] at hn
   have hcell : w.cell? ⟨b,o + i,none⟩ = some (f (o + i)) := by rw [cell_hc]; exact hr.cell (by omega)
   have hfr : w.frozen? ⟨b,o + i,none⟩ = false := by obtain ⟨c,hc1,_⟩ := hr; simp [World.frozen?,hc1]
   obtain ⟨w',e1,e2,e3,e4,e5⟩ := run_storeCells (P := P) r o (i + 1) (w.setCell ⟨b,o + i,none⟩ v) _ (fun u hu => h1 u (by simp [hu])) (by rw [setCell_setc]; exact hr.set (i := o + i) (v := v)) (by omega)
   refine ⟨w',?_,?_,e3,e4,e5⟩
   · simp only [storeCells]
     rw [run_bind_ok (a := ()) (w' := w.setCell ⟨b,o + i,none⟩ v)]
     · exact e1
     · rw [Addr.add_none,run_store P w _ _ _ hv,hcell,hfr]; rfl
   · rw [e2,setCell_setc,← Nat.add_assoc]; rfl
theorem OpCh.storeAgg {T : TypeId} {x y : Operand} {b o n m : Nat} {E : TypeId} {f : Nat → Value} {l : List Value} (hT : Sz P T m) (hx : ev e x = some (.pointer (some ⟨b,o,none⟩))) (hy : ev e y = some (.agg l.toArray)) (hl : l.length = m) (h1 : ∀ u ∈ l,u.oneCell' = true) (hr : Rw H b E n f) (hn : o + m ≤ n) :
   OpCh P e (.store T x y) H (fun _ H' => H' = setl H b o l) := by
 intro ρ oo w ho hev hw
 subst hw
 obtain ⟨w',e1,e2,e3,e4,e5⟩ := run_storeCells (P := P) l o 0 w f h1 hr (by omega)
 refine ⟨undef,w',.inr ⟨?_,rfl⟩,e3,e4,e5,by simpa using e2⟩
 have hcs : (Value.agg l.toArray).cells = l.toArray := rfl
 simp [execOp,ho,hev _ _ hx,hev _ _ hy,Instr.storeAt,Instr.sureAddr,storeVar,hT.run,hcs,hl,e1]
theorem foldl_set : ∀ (l : List Value) (k : Nat) (cs : Array Value),k + l.length = cs.size → (l.zipIdx k).foldl (fun cs p => cs.setIfInBounds (0 + p.2) p.1) cs = (cs.toList.take k ++ l).toArray
 | [],k,cs,h => by
   simp only [List.zipIdx_nil,List.foldl_nil,List.append_nil]
   rw [List.take_of_length_le (by simp at h ⊢; omega)]
 | v :: r,k,cs,h => by
   simp only [List.length_cons] at h
   rw [List.zipIdx_cons,List.foldl_cons,foldl_set r (k + 1) _ (by simp; omega)]
   congr 1
   simp only [Nat.zero_add,Array.toList_setIfInBounds]
   rw [List.take_succ_eq_append_getElem (by simp; omega),List.take_set_of_le (Nat.le_refl k)]
   simp
theorem OpCh.lit {T E : TypeId} {y : Operand} {s bytes : Nat} {z u : Value} {l : List Value} (hT : P.underlying T = some (.slice E)) (hE : (P.info? E).map (fun i => (i.zero,i.size,i.bytes)) = some (some z,s,bytes)) (hs : 0 < s) (hs' : s ≤ 1000)
   (hy : ev e y = some u) (hu : u.cells = l.toArray) (hl : l.length = s) : OpCh P e (.buildSlice T 1 #[(0,y)]) H (fun v H' => v = .slice (some ⟨H.size,0,none⟩) 1 1 ∧ H' = H.push (.cells l.toArray E)) := by
 intro ρ o w ho hev hw
 obtain ⟨i,hi,hz0,hz1,hz2⟩ := info_parts hE
 refine ⟨.slice (some ⟨w.heap.size,0,none⟩) 1 1,{ w with heap := w.heap.push (.cells l.toArray E) },.inl ?_,rfl,rfl,rfl,by subst hw; exact ⟨rfl,rfl⟩⟩
 have hsz : (sizeOf E).run P w = .ok s w := by simp [sizeOf,typeInfo,hi,hz1]
 have hzv : (zeroValue E).run P w = .ok z w := by simp [zeroValue,typeInfo,hi,hz0]
 have hfill : ∀ cs : Array Value,cs.size = s → Instr.fill (fun i => some (i * s,s)) cs [(0,u)] = some l.toArray := by
   intro cs hcs
   have h1 : ¬ (u.cells.size ≠ s || 0 * s + u.cells.size > cs.size) = true := by rw [hu]; simp [hl,hcs]
   simp only [Instr.fill]
   rw [if_neg h1,hu]
   have := foldl_set l 0 cs (by omega)
   simp only [List.take_zero,List.nil_append] at this
   rw [← Array.foldl_toList]
   simpa using this
 simp only [execOp,ho,List.map_toArray,List.map_cons,List.map_nil,hev _ _ hy,Instr.buildSlice]
 simp only [Sem.run_bind,run_underlying hT,Result.andThen_ok,hsz,Nat.one_mul]
 rw [if_neg (by omega : ¬ s > 2 ^ 24)]
 have hs0 : ¬ s = 0 := by omega
 simp only [hs0,if_false,Sem.run_bind,Sem.run_pure,Result.andThen_ok,hzv]
 rw [hfill _ (by simp)]
 simp [newRow]
theorem hn_new {E : TypeId} (l : List Value) : ∀ j u,l[j]? = some u → hc (H.push (.cells l.toArray E)) H.size (0 + j) = some u := by
 intro j u h
 simp [hc,h]
section
variable {n' : Fs} {w0 : World} {Q : Exit → Act → World → Prop} {ops : Array Oper} {d1 d2 : Nat} {ty ty2 : TypeId} {pos pos2 : String} {af af2 : Array Edge} {rest : List Oper}
theorem LF.app {T E : TypeId} {x y : Operand} {B s bytes n : Nat} {z v u : Value} {xs l : List Value} (hT : P.underlying T = some (.slice E)) (hE : (P.info? E).map (fun i => (i.zero,i.size,i.bytes)) = some (some z,s,bytes)) (hz : z.cells.size = s) (hs : 0 < s) (hs' : s ≤ 1000)
   (hy : ev e y = some u) (hu : u.cells = l.toArray) (hl : l.length = s) (h1 : ∀ u ∈ l,u.oneCell' = true) (hx : ev ((d1,.slice (some ⟨H.size,0,none⟩) 1 1) :: e) x = some v) (hown : Gr H B E s v n xs)
   (hb : (n + 1) * bytes ≤ 140737488355328) (hbn : n + 1 ≤ 140737488355328) (hB : B ≤ H.size)
   (K : ∀ v' H',Gr H' B E s v' (n + 1) (xs ++ l) → GrownBy H H' v.ownBlock → v' ≠ .slice none 0 0 → (v'.ownBlock = v.ownBlock ∨ ∃ g,v'.ownBlock = some g ∧ H.size ≤ g) → LF P n' w0 ops Q ((d2,v') :: (d1,.slice (some ⟨H.size,0,none⟩) 1 1) :: e) rest H')
   (hd1 : Nat.blt d1 n'.sz = true := by rfl) (hd2 : Nat.blt d2 n'.sz = true := by rfl) :
   LF P n' w0 ops Q e (⟨some d1,.buildSlice T 1 #[(0,y)],ty,pos,af,none⟩ :: ⟨some d2,.call { callee := .builtin .append,args := #[x,.tmp d1],argTypes := #[T,T] },ty2,pos2,af2,none⟩ :: rest) H := by
 refine LF.chg (OpCh.lit hT hE hs hs' hy hu hl) ?_ hd1
 rintro _ _ ⟨rfl,rfl⟩
 refine LF.chg (OpCh.append (n := n) (m := 1) (xs := xs) (news := l) hT hE hz hs hx (hown.push _) (b := H.size) (o := 0) (c := 1) (by simp [ev,lk]) (by omega) (hn_new l) h1 hb hbn (by simp; omega)) ?_ hd2
 rintro v' H' ⟨g1,⟨g2,g2'⟩,g3,g4⟩
 refine K v' H' g1 ⟨by simp at g2; omega,fun k hk hne => (g2' k (by simp; omega) hne).trans (push_old hk)⟩ ?_ ?_
 · intro e1; have := (g3.1 e1).2; omega
 · rcases g4 with g4 | g4
   · exact .inl g4
   · exact .inr ⟨_,g4,by simp⟩
theorem evl1 {e : Env} {x : Operand} {v : Value} (h : ev e x = some v) : evl e [x] = some [v] := by simp [evl,h]
theorem evl2 {e : Env} {x y : Operand} {v u : Value} (h : ev e x = some v) (h' : ev e y = some u) : evl e [x,y] = some [v,u] := by simp [evl,h,h']
end
end Go.JE
