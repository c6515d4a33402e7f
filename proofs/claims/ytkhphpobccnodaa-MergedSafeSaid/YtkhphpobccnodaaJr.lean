/- The walking engine: a region that draws its order and writes. Conditions: each rule names its own; lemmas over any program. -/
import Derived.Test.YtkhphpobccnodaaJq
import Derived.OrdersHeld
namespace Go.JE
set_option linter.unusedVariables false
set_option linter.unusedSimpArgs false
set_option linter.unusedSectionVars false
variable {P : Program} {n : Fs} {w0 : World} {Q : Exit → Act → World → Prop} {e : Env} {H : Heap}

/-- Q, but False at a panic -/
def NoP (Q : Exit → Act → World → Prop) : Exit → Act → World → Prop
  | .panic _, _, _ => False
  | x, a, w => Q x a w
theorem NoP.imp {Q : Exit → Act → World → Prop} : ∀ (x : Exit) (a : Act) (w : World), NoP Q x a w → Q x a w := fun x a w h => by
  cases x <;> first | exact h | exact (h : False).elim
theorem NoP.pan {Q : Exit → Act → World → Prop} {o : Oper} {v : Value} : ∀ c a w, NoP Q (.panic c) (a.put o.dst v) w → NoP Q (.panic c) a w := fun _ _ _ h => (h : False).elim

/-- whatever order is picked from here on; S holds of every heap on the way -/
def AF (P : Program) (n : Fs) (w0 : World) (ops : Array Oper) (Q : Exit → Act → World → Prop) (S : Heap → Prop) (fuel : Nat) (listed : Array Bool) (e : Env) (H : Heap) : Prop :=
  ∀ a w, Fr n e a → Wd w0 H w → wpAnyH P .any ops (NoP Q) (fun w => S w.heap) fuel listed a w

theorem CF.any {id : Nat} {l : List Oper} (S : Heap → Prop) (hm : P.follows .mixedOrders = true) (h : AF P n w0 l.toArray Q S l.length (Array.replicate l.length false) e H) : CF P n w0 Q e (.region id l.toArray true) H := by
  intro a w hf hw
  refine Code.wp_mono NoP.imp (wp_region_held (S := fun w => S w.heap) hm ?_)
  have := h a _ hf hw.drew
  simpa using this

section
variable {l : List Oper} {S : Heap → Prop} {fuel i d : Nat} {listed : Array Bool} {op : Op} {ty : TypeId} {pos : String} {af : Array Edge} {v : Value}

theorem AF.take (i : Nat) (hi : l[i]? = some ⟨some d, op, ty, pos, af, none⟩) (hs : Region.noSelect l.toArray = true) (hfr : Region.free .any l.toArray listed i = true) (hr : (Region.ready .any l.toArray listed).contains i = true) (hS : S H)
    (h : ∀ H', S H' → OpOk P e op H' v) (K : AF P n w0 l.toArray Q S fuel (listed.setIfInBounds i true) ((d, v) :: e) H) (hd : Nat.blt d n.sz = true := by rfl) : AF P n w0 l.toArray Q S (fuel + 1) listed e H := by
  intro a w hf hw
  refine wpAnyH_first (i := i) (oi := ⟨some d, op, ty, pos, af, none⟩) (v := v) (by simpa using hi) (Region.noSelect_spec hs) NoP.pan fuel listed a w (Region.free_spec (by simpa using hi) hfr) (by simpa using hr) ?_ (hw.heap ▸ hS) (K _ _ (hf.put hd v) hw)
  exact .inl ⟨by simp [Region.wanted], fun w' hS' => h w'.heap hS' a.eval _ w' rfl (fun x u hx => hf.ev hx) rfl⟩

theorem AF.gtake (i : Nat) {j t : Nat} {want B : Bool} {u : Value} (hi : l[i]? = some ⟨some d, op, ty, pos, af, some (j, want)⟩) (hs : Region.noSelect l.toArray = true) (hfr : Region.free .any l.toArray listed i = true) (hr : (Region.ready .any l.toArray listed).contains i = true) (hS : S H)
    (hj : (l.toArray[j]?).bind (·.dst) = some t) (hu : lk e t = some u) (hB : Gd u want B) (h : B = true → ∀ H', S H' → OpOk P e op H' v) (K : AF P n w0 l.toArray Q S fuel (listed.setIfInBounds i true) ((d, gv B v) :: e) H)
    (hd : Nat.blt d n.sz = true := by rfl) (ht : Nat.blt t n.sz = true := by rfl) : AF P n w0 l.toArray Q S (fuel + 1) listed e H := by
  intro a w hf hw
  have hwt := wanted_gd (ops := l.toArray) (o := ⟨some d, op, ty, pos, af, some (j, want)⟩) rfl hj ht hf hu hB
  refine wpAnyH_first (i := i) (oi := ⟨some d, op, ty, pos, af, some (j, want)⟩) (v := gv B v) (by simpa using hi) (Region.noSelect_spec hs) NoP.pan fuel listed a w (Region.free_spec (by simpa using hi) hfr) (by simpa using hr) ?_ (hw.heap ▸ hS) (K _ _ (hf.put hd _) hw)
  cases B with
  | true => exact .inl ⟨hwt, fun w' hS' => h rfl w'.heap hS' a.eval _ w' rfl (fun x u hx => hf.ev hx) rfl⟩
  | false => exact .inr ⟨hwt, rfl⟩

theorem wpAnyH_one {ops : Array Oper} {Q : Exit → Act → World → Prop} {S : World → Prop} {a : Act} {w : World} (hr : Region.ready .any ops listed = [i]) (h : wpOp P ops Q i (fun a' w' => S w' ∧ wpAnyH P .any ops Q S fuel (listed.setIfInBounds i true) a' w') a w) :
    wpAnyH P .any ops Q S (fuel + 1) listed a w :=
  ⟨fun h0 => (by rw [hr] at h0; cases h0), fun j hj => (by rw [hr] at hj; simp only [List.mem_singleton] at hj; subst hj; exact h)⟩

theorem AF.chg (i : Nat) {R : Value → Heap → Prop} (hi : l[i]? = some ⟨some d, op, ty, pos, af, none⟩) (hr : Region.ready .any l.toArray listed = [i]) (h : OpCh P e op H R) (hS : ∀ v H', R v H' → S H')
    (K : ∀ v H', R v H' → AF P n w0 l.toArray Q S fuel (listed.setIfInBounds i true) ((d, v) :: e) H') (hd : Nat.blt d n.sz = true := by rfl) : AF P n w0 l.toArray Q S (fuel + 1) listed e H := by
  intro a w hf hw
  refine wpAnyH_one hr ?_
  obtain ⟨v, w', hrun, h1, h2, h3, hR⟩ := h a.eval ⟨some d, op, ty, pos, af, none⟩ w rfl (fun x u hx => hf.ev hx) hw.heap
  have hw' : Wd w0 w'.heap w' := ⟨rfl, h1.trans hw.os, h2.trans hw.tape, h3.trans hw.output⟩
  unfold wpOp
  simp only [List.getElem?_toArray, hi]
  rw [if_pos (by simp [Region.wanted])]
  refine .inl ?_
  unfold Oper.wp
  rcases hrun with hrun | ⟨hrun, rfl⟩
  · rw [hrun]; exact ⟨hS _ _ hR, K _ _ hR _ _ (hf.put hd v) hw'⟩
  · rw [hrun]; exact ⟨hS _ _ hR, K _ _ hR _ _ (hf.put hd undef) hw'⟩

/-- a call of a function, the one operation that may come next -/
theorem AF.call (i : Nat) {f : FuncId} {args : Array Value} {R : Value → Heap → Prop} (hi : l[i]? = some ⟨some d, op, ty, pos, af, none⟩) (hr : Region.ready .any l.toArray listed = [i]) (h : OpCall P e op H f args) (hc : Ct P f args H R) (hS : ∀ v H', R v H' → S H')
    (K : ∀ v H', R v H' → AF P n w0 l.toArray Q S fuel (listed.setIfInBounds i true) ((d, v) :: e) H') (hd : Nat.blt d n.sz = true := by rfl) : AF P n w0 l.toArray Q S (fuel + 1) listed e H := by
  intro a w hf hw
  refine wpAnyH_one hr ?_
  unfold wpOp
  simp only [List.getElem?_toArray, hi]
  rw [if_pos (by simp [Region.wanted])]
  refine .inl ?_
  unfold Oper.wp
  rw [h a.eval _ w rfl (fun x u hx => hf.ev hx) hw.heap, Oper.upon_enter]
  refine (hc w hw.heap).mono fun x w' ⟨v, hx, h1, h2, h3, hR⟩ => ?_
  subst hx
  exact ⟨hS _ _ hR, K _ _ hR _ _ (hf.put hd v) ⟨rfl, h1.trans hw.os, h2.trans hw.tape, h3.trans hw.output⟩⟩

/-- an operation without a result, as one of those that may come up next -/
def AF.Next (P : Program) (n : Fs) (w0 : World) (l : List Oper) (Q : Exit → Act → World → Prop) (S : Heap → Prop) (fuel : Nat) (listed : Array Bool) (e : Env) (H : Heap) (i : Nat) : Prop :=
  ∀ a w, Fr n e a → Wd w0 H w → wpOp P l.toArray (NoP Q) i (fun a' w' => S w'.heap ∧ wpAnyH P .any l.toArray (NoP Q) (fun w => S w.heap) fuel (listed.setIfInBounds i true) a' w') a w
theorem AF.next0 (i : Nat) {R : Value → Heap → Prop} (hi : l[i]? = some ⟨none, op, ty, pos, af, none⟩) (h : OpCh P e op H R) (hS : ∀ v H', R v H' → S H')
    (K : ∀ v H', R v H' → AF P n w0 l.toArray Q S fuel (listed.setIfInBounds i true) e H') : AF.Next P n w0 l Q S fuel listed e H i := by
  intro a w hf hw
  obtain ⟨v, w', hrun, h1, h2, h3, hR⟩ := h a.eval ⟨none, op, ty, pos, af, none⟩ w rfl (fun x u hx => hf.ev hx) hw.heap
  have hw' : Wd w0 w'.heap w' := ⟨rfl, h1.trans hw.os, h2.trans hw.tape, h3.trans hw.output⟩
  unfold wpOp
  simp only [List.getElem?_toArray, hi]
  rw [if_pos (by simp [Region.wanted])]
  refine .inl ?_
  unfold Oper.wp
  rcases hrun with hrun | ⟨hrun, rfl⟩
  · rw [hrun]; exact ⟨hS _ _ hR, K _ _ hR _ _ hf hw'⟩
  · rw [hrun]; exact ⟨hS _ _ hR, K _ _ hR _ _ hf hw'⟩
theorem AF.one (i : Nat) (hr : Region.ready .any l.toArray listed = [i]) (h : AF.Next P n w0 l Q S fuel listed e H i) : AF P n w0 l.toArray Q S (fuel + 1) listed e H :=
  fun a w hf hw => wpAnyH_one hr (h a w hf hw)
theorem AF.two (i j : Nat) (hr : Region.ready .any l.toArray listed = [i, j]) (h1 : AF.Next P n w0 l Q S fuel listed e H i) (h2 : AF.Next P n w0 l Q S fuel listed e H j) : AF P n w0 l.toArray Q S (fuel + 1) listed e H :=
  fun a w hf hw => ⟨fun h0 => (by rw [hr] at h0; cases h0), fun k hk => (by
    rw [hr] at hk
    simp only [List.mem_cons, List.not_mem_nil, or_false] at hk
    rcases hk with rfl | rfl
    · exact h1 a w hf hw
    · exact h2 a w hf hw)⟩
theorem AF.done (hr : Region.ready .any l.toArray listed = []) (h : PF n w0 Q e .normal H) : AF P n w0 l.toArray Q S fuel listed e H :=
  fun a w hf hw => wpAnyH_done (Q := NoP Q) (S := fun w => S w.heap) hr (show NoP Q .normal a w from h a w hf hw) fuel
end
end Go.JE
