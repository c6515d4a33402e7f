/- The walking engine: a region that draws its order and writes. Conditions: each rule names its own; lemmas over any program. -/
import Derived.Test.YtcceglmmpbdhiaaJq
import Derived.OrdersHeld
namespace Go.JE
set_option linter.unusedVariables false
set_option linter.unusedSimpArgs false
set_option linter.unusedSectionVars false
variable {P : Program} {n : Fs} {w0 : World} {Q : Exit → Act → World → Prop} {e : Env} {H : Heap}

/-- Q, but False at a panic -/
def NoP (Q : Exit → Act → World → Prop) : Exit → Act → World → Prop
  | .panic _, _, _ => False
  | x, a, w => Q x a w
theorem NoP.imp {Q : Exit → Act → World → Prop} : ∀ (x : Exit) (a : Act) (w : World), NoP Q x a w → Q x a w := fun x a w h => by
  cases x <;> first | exact h | exact (h : False).elim
theorem NoP.pan {Q : Exit → Act → World → Prop} {o : Oper} {v : Value} : ∀ c a w, NoP Q (.panic c) (a.put o.dst v) w → NoP Q (.panic c) a w := fun _ _ _ h => (h : False).elim

/-- is one left? -/
def leftB (listed : Array Bool) : Prop := ∃ k, listed.getD k true = false
/-- the walk of a drawn region: S on the way, but (where z is true) not behind the last one -/
def AnyL (P : Program) (ops : Array Oper) (Q : Exit → Act → World → Prop) (z : Bool) (S : World → Prop) : Nat → Array Bool → Act → World → Prop
  | 0, listed, a, w => Region.ready .any ops listed = [] ∧ Q .normal a w
  | fuel + 1, listed, a, w => (Region.ready .any ops listed = [] → Q .normal a w) ∧
    ∀ i ∈ Region.ready .any ops listed, wpOp P ops Q i (fun a' w' => (z = false ∨ leftB (listed.setIfInBounds i true) → S w') ∧ AnyL P ops Q z S fuel (listed.setIfInBounds i true) a' w') a w
theorem AnyL.any {ops : Array Oper} {z : Bool} {S : World → Prop} : ∀ (fuel : Nat) (listed : Array Bool) (a : Act) (w : World), AnyL P ops Q z S fuel listed a w → wpAny P .any ops Q fuel listed a w
  | 0, _, _, _, h => h
  | fuel + 1, _, _, _, h => ⟨h.1, fun i hi => wpOp_mono (fun a' w' h' => AnyL.any fuel _ a' w' h'.2) (h.2 i hi)⟩
/-- someone that has not come up waits for it -/
def waits (ops : Array Oper) (listed : Array Bool) (i : Nat) : Bool :=
  (List.range ops.size).any fun k => !(listed.getD k true) && (match ops[k]? with | some o => o.after.any (fun e => Region.binds .any e && e.on == i) | none => false)
theorem AnyL.first {ops : Array Oper} {z : Bool} {S : World → Prop} {i : Nat} {oi : Oper} {v : Value} (hi : ops[i]? = some oi) (hsel : ∀ (j : Nat) (o : Oper) cs b, ops[j]? = some o → o.op ≠ .select cs b)
    (hQ : ∀ c a w, Q (.panic c) (a.put oi.dst v) w → Q (.panic c) a w) : ∀ (fuel : Nat) (listed : Array Bool) (a : Act) (w : World),
      (∀ j oj, ops[j]? = some oj → j ≠ i → listed.getD j true = false → (∀ e ∈ oj.after, Region.binds .any e = true → e.on ≠ i) → oi.apart ops oj = true) →
      i ∈ Region.ready .any ops listed → YieldsIf P ops S oi v a → S w →
      (z = false ∨ ∃ k ok, listed.getD k true = false ∧ ops[k]? = some ok ∧ ∃ e ∈ ok.after, Region.binds .any e = true ∧ e.on = i) →
      AnyL P ops Q z S fuel (listed.setIfInBounds i true) (a.put oi.dst v) w → AnyL P ops Q z S (fuel + 1) listed a w := by
  intro fuel
  induction fuel with
  | zero =>
    intro listed a w _ hr hy hS _ H
    refine ⟨fun h => absurd hr (by rw [h]; exact List.not_mem_nil), fun j hj => ?_⟩
    rcases Decidable.em (j = i) with hji | hji
    · subst hji; exact hy.wpOp hi hS ⟨fun _ => hS, H⟩
    · exact absurd (H.1 ▸ ready_mono hj hji) List.not_mem_nil
  | succ fuel ih =>
    intro listed a w hfree hr hy hS hz H
    refine ⟨fun h => absurd hr (by rw [h]; exact List.not_mem_nil), fun j hj => ?_⟩
    rcases Decidable.em (j = i) with hji | hji
    · subst hji; exact hy.wpOp hi hS ⟨fun _ => hS, H⟩
    have h1 := H.2 j (ready_mono hj hji)
    obtain ⟨hjun, oj, hoj, hall⟩ := mem_ready.1 hj
    have hun := (mem_ready.1 hr).1
    have hnot : ∀ e ∈ oj.after, Region.binds .any e = true → e.on ≠ i := by
      rintro e he hb rfl
      have h2 := hall e he hb
      by_cases h' : e.on < listed.size
      · simp [h'] at h2 hun; rw [hun] at h2; cases h2
      · simp [Array.getElem?_eq_none (Nat.le_of_not_lt h')] at h2
    have h2 := wpOp_putIf hoj (hfree j oj hoj hji hjun hnot) (fun cs b => hsel i oi cs b hi) (fun cs b => hsel j oj cs b hoj) hQ hy h1
    have hr' := ready_mono hr (Ne.symm hji)
    have hz' : z = false ∨ ∃ k ok, (listed.setIfInBounds j true).getD k true = false ∧ ops[k]? = some ok ∧ k ≠ i ∧ ∃ e ∈ ok.after, Region.binds .any e = true ∧ e.on = i := by
      rcases hz with hz | ⟨k, ok, hk, hok, e, he, hb, hei⟩
      · exact .inl hz
      · refine .inr ⟨k, ok, ?_, hok, ?_, e, he, hb, hei⟩
        · have hjk : j ≠ k := by
            rintro rfl
            rw [hok] at hoj; cases hoj
            exact hnot e he hb hei
          rw [getD_set_ne true hjk]; exact hk
        · rintro rfl
          obtain ⟨_, o2, ho2, hall2⟩ := mem_ready.1 hr
          rw [hok] at ho2; cases ho2
          have h9 := hall2 e he hb
          rw [hei] at h9
          by_cases h' : k < listed.size
          · simp [h'] at h9 hun; rw [hun] at h9; cases h9
          · simp [Array.getElem?_eq_none (Nat.le_of_not_lt h')] at h9
    refine wpOp_mono (fun a' w' h3 => ?_) h2
    obtain ⟨hy', hS', hA⟩ := h3
    have hS2 : S w' := hS' (by
      rcases hz' with hz | ⟨k, ok, hk, hok, hki, _⟩
      · exact .inl hz
      · refine .inr ⟨k, ?_⟩
        rw [Array.setIfInBounds_comm _ _ (Ne.symm hji), getD_set_ne true (Ne.symm hki)]; exact hk)
    refine ⟨fun _ => hS2, ih (listed.setIfInBounds j true) a' w' ?_ hr' hy' hS2 ?_ ?_⟩
    · intro k ok hk hki hun2 hno
      refine hfree k ok hk hki ?_ hno
      rcases Decidable.em (j = k) with e | e
      · subst e; exact hjun
      · rwa [getD_set_ne true e] at hun2
    · rcases hz' with hz | ⟨k, ok, hk, hok, hki, h9⟩
      · exact .inl hz
      · exact .inr ⟨k, ok, hk, hok, h9⟩
    · rw [Array.setIfInBounds_comm _ _ hji]; exact hA
theorem waits_spec {ops : Array Oper} {listed : Array Bool} {i : Nat} (h : waits ops listed i = true) : ∃ k ok, listed.getD k true = false ∧ ops[k]? = some ok ∧ ∃ e ∈ ok.after, Region.binds .any e = true ∧ e.on = i := by
  unfold waits at h
  rw [List.any_eq_true] at h
  obtain ⟨k, _, hk⟩ := h
  simp only [Bool.and_eq_true, Bool.not_eq_true'] at hk
  obtain ⟨h1, h2⟩ := hk
  split at h2
  · rename_i o ho
    rw [Array.any_eq_true] at h2
    obtain ⟨m, hm, h3⟩ := h2
    simp only [Bool.and_eq_true, beq_iff_eq] at h3
    exact ⟨k, o, h1, ho, o.after[m], Array.getElem_mem hm, h3.1, h3.2⟩
  · cases h2
theorem AnyL.done {ops : Array Oper} {z : Bool} {S : World → Prop} {listed : Array Bool} {a : Act} {w : World} (hr : Region.ready .any ops listed = []) (h : Q .normal a w) : ∀ fuel, AnyL P ops Q z S fuel listed a w
  | 0 => ⟨hr, h⟩
  | _ + 1 => ⟨fun _ => h, by rw [hr]; simp⟩

/-- whatever order is picked from here on; S holds of every heap on the way -/
def AF (P : Program) (n : Fs) (w0 : World) (ops : Array Oper) (Q : Exit → Act → World → Prop) (z : Bool) (S : Heap → Prop) (fuel : Nat) (listed : Array Bool) (e : Env) (H : Heap) : Prop :=
  ∀ a w, Fr n e a → Wd w0 H w → AnyL P ops (NoP Q) z (fun w => S w.heap) fuel listed a w

theorem CF.any {id : Nat} {l : List Oper} {z : Bool} (S : Heap → Prop) (hm : P.follows .mixedOrders = true) (h : AF P n w0 l.toArray Q z S l.length (Array.replicate l.length false) e H) : CF P n w0 Q e (.region id l.toArray true) H := by
  intro a w hf hw
  refine Code.wp_mono NoP.imp (wp_region_any hm (AnyL.any (z := z) (S := fun w => S w.heap) _ _ _ _ ?_))
  have := h a _ hf hw.drew
  simpa using this

section
variable {l : List Oper} {z : Bool} {S : Heap → Prop} {fuel i d : Nat} {listed : Array Bool} {op : Op} {ty : TypeId} {pos : String} {af : Array Edge} {v : Value}

theorem AF.take (i : Nat) (hi : l[i]? = some ⟨some d, op, ty, pos, af, none⟩) (hs : Region.noSelect l.toArray = true) (hfr : Region.free .any l.toArray listed i = true) (hr : (Region.ready .any l.toArray listed).contains i = true) (hS : S H)
    (h : ∀ H', S H' → OpOk P e op H' v) (K : AF P n w0 l.toArray Q z S fuel (listed.setIfInBounds i true) ((d, v) :: e) H) (hd : Nat.blt d n.sz = true := by rfl) (hz : z = false ∨ waits l.toArray listed i = true := by first | exact .inl rfl | exact .inr (by kernel_rfl)) : AF P n w0 l.toArray Q z S (fuel + 1) listed e H := by
  intro a w hf hw
  refine AnyL.first (i := i) (oi := ⟨some d, op, ty, pos, af, none⟩) (v := v) (by simpa using hi) (Region.noSelect_spec hs) NoP.pan fuel listed a w (Region.free_spec (by simpa using hi) hfr) (by simpa using hr) ?_ (hw.heap ▸ hS) (hz.imp id waits_spec) (K _ _ (hf.put hd v) hw)
  exact .inl ⟨by simp [Region.wanted], fun w' hS' => h w'.heap hS' a.eval _ w' rfl (fun x u hx => hf.ev hx) rfl⟩

theorem AF.gtake (i : Nat) {j t : Nat} {want B : Bool} {u : Value} (hi : l[i]? = some ⟨some d, op, ty, pos, af, some (j, want)⟩) (hs : Region.noSelect l.toArray = true) (hfr : Region.free .any l.toArray listed i = true) (hr : (Region.ready .any l.toArray listed).contains i = true) (hS : S H)
    (hj : (l.toArray[j]?).bind (·.dst) = some t) (hu : lk e t = some u) (hB : Gd u want B) (h : B = true → ∀ H', S H' → OpOk P e op H' v) (K : AF P n w0 l.toArray Q z S fuel (listed.setIfInBounds i true) ((d, gv B v) :: e) H)
    (hd : Nat.blt d n.sz = true := by rfl) (ht : Nat.blt t n.sz = true := by rfl) (hz : z = false ∨ waits l.toArray listed i = true := by first | exact .inl rfl | exact .inr (by kernel_rfl)) : AF P n w0 l.toArray Q z S (fuel + 1) listed e H := by
  intro a w hf hw
  have hwt := wanted_gd (ops := l.toArray) (o := ⟨some d, op, ty, pos, af, some (j, want)⟩) rfl hj ht hf hu hB
  refine AnyL.first (i := i) (oi := ⟨some d, op, ty, pos, af, some (j, want)⟩) (v := gv B v) (by simpa using hi) (Region.noSelect_spec hs) NoP.pan fuel listed a w (Region.free_spec (by simpa using hi) hfr) (by simpa using hr) ?_ (hw.heap ▸ hS) (hz.imp id waits_spec) (K _ _ (hf.put hd _) hw)
  cases B with
  | true => exact .inl ⟨hwt, fun w' hS' => h rfl w'.heap hS' a.eval _ w' rfl (fun x u hx => hf.ev hx) rfl⟩
  | false => exact .inr ⟨hwt, rfl⟩

theorem wpAnyH_one {ops : Array Oper} {Q : Exit → Act → World → Prop} {z : Bool} {S : World → Prop} {a : Act} {w : World} (hr : Region.ready .any ops listed = [i]) (h : wpOp P ops Q i (fun a' w' => (z = false ∨ leftB (listed.setIfInBounds i true) → S w') ∧ AnyL P ops Q z S fuel (listed.setIfInBounds i true) a' w') a w) :
    AnyL P ops Q z S (fuel + 1) listed a w :=
  ⟨fun h0 => (by rw [hr] at h0; cases h0), fun j hj => (by rw [hr] at hj; simp only [List.mem_singleton] at hj; subst hj; exact h)⟩

theorem AF.chg (i : Nat) {R : Value → Heap → Prop} (hi : l[i]? = some ⟨some d, op, ty, pos, af, none⟩) (hr : Region.ready .any l.toArray listed = [i]) (h : OpCh P e op H R) (hS : ∀ v H', R v H' → S H')
    (K : ∀ v H', R v H' → AF P n w0 l.toArray Q z S fuel (listed.setIfInBounds i true) ((d, v) :: e) H') (hd : Nat.blt d n.sz = true := by rfl) : AF P n w0 l.toArray Q z S (fuel + 1) listed e H := by
  intro a w hf hw
  refine wpAnyH_one hr ?_
  obtain ⟨v, w', hrun, h1, h2, h3, hR⟩ := h a.eval ⟨some d, op, ty, pos, af, none⟩ w rfl (fun x u hx => hf.ev hx) hw.heap
  have hw' : Wd w0 w'.heap w' := ⟨rfl, h1.trans hw.os, h2.trans hw.tape, h3.trans hw.output⟩
  unfold wpOp
  simp only [List.getElem?_toArray, hi]
  rw [if_pos (by simp [Region.wanted])]
  refine .inl ?_
  unfold Oper.wp
  rcases hrun with hrun | ⟨hrun, rfl⟩
  · rw [hrun]; exact ⟨fun _ => hS _ _ hR, K _ _ hR _ _ (hf.put hd v) hw'⟩
  · rw [hrun]; exact ⟨fun _ => hS _ _ hR, K _ _ hR _ _ (hf.put hd undef) hw'⟩

/-- a call of a function, the one operation that may come next -/
theorem AF.call (i : Nat) {f : FuncId} {args : Array Value} {R : Value → Heap → Prop} (hi : l[i]? = some ⟨some d, op, ty, pos, af, none⟩) (hr : Region.ready .any l.toArray listed = [i]) (h : OpCall P e op H f args) (hc : Ct P f args H R) (hS : ∀ v H', R v H' → S H')
    (K : ∀ v H', R v H' → AF P n w0 l.toArray Q z S fuel (listed.setIfInBounds i true) ((d, v) :: e) H') (hd : Nat.blt d n.sz = true := by rfl) : AF P n w0 l.toArray Q z S (fuel + 1) listed e H := by
  intro a w hf hw
  refine wpAnyH_one hr ?_
  unfold wpOp
  simp only [List.getElem?_toArray, hi]
  rw [if_pos (by simp [Region.wanted])]
  refine .inl ?_
  unfold Oper.wp
  rw [h a.eval _ w rfl (fun x u hx => hf.ev hx) hw.heap, Oper.upon_enter]
  refine (hc w hw.heap).mono fun x w' ⟨v, hx, h1, h2, h3, hR⟩ => ?_
  subst hx
  exact ⟨fun _ => hS _ _ hR, K _ _ hR _ _ (hf.put hd v) ⟨rfl, h1.trans hw.os, h2.trans hw.tape, h3.trans hw.output⟩⟩

/-- an operation without a result, as one of those that may come up next -/
def AF.Next (P : Program) (n : Fs) (w0 : World) (l : List Oper) (Q : Exit → Act → World → Prop) (z : Bool) (S : Heap → Prop) (fuel : Nat) (listed : Array Bool) (e : Env) (H : Heap) (i : Nat) : Prop :=
  ∀ a w, Fr n e a → Wd w0 H w → wpOp P l.toArray (NoP Q) i (fun a' w' => (z = false ∨ leftB (listed.setIfInBounds i true) → S w'.heap) ∧ AnyL P l.toArray (NoP Q) z (fun w => S w.heap) fuel (listed.setIfInBounds i true) a' w') a w
theorem AF.next0 (i : Nat) {R : Value → Heap → Prop} (hi : l[i]? = some ⟨none, op, ty, pos, af, none⟩) (h : OpCh P e op H R) (hS : ∀ v H', R v H' → S H')
    (K : ∀ v H', R v H' → AF P n w0 l.toArray Q z S fuel (listed.setIfInBounds i true) e H') : AF.Next P n w0 l Q z S fuel listed e H i := by
  intro a w hf hw
  obtain ⟨v, w', hrun, h1, h2, h3, hR⟩ := h a.eval ⟨none, op, ty, pos, af, none⟩ w rfl (fun x u hx => hf.ev hx) hw.heap
  have hw' : Wd w0 w'.heap w' := ⟨rfl, h1.trans hw.os, h2.trans hw.tape, h3.trans hw.output⟩
  unfold wpOp
  simp only [List.getElem?_toArray, hi]
  rw [if_pos (by simp [Region.wanted])]
  refine .inl ?_
  unfold Oper.wp
  rcases hrun with hrun | ⟨hrun, rfl⟩
  · rw [hrun]; exact ⟨fun _ => hS _ _ hR, K _ _ hR _ _ hf hw'⟩
  · rw [hrun]; exact ⟨fun _ => hS _ _ hR, K _ _ hR _ _ hf hw'⟩
theorem AF.one (i : Nat) (hr : Region.ready .any l.toArray listed = [i]) (h : AF.Next P n w0 l Q z S fuel listed e H i) : AF P n w0 l.toArray Q z S (fuel + 1) listed e H :=
  fun a w hf hw => wpAnyH_one hr (h a w hf hw)
theorem AF.two (i j : Nat) (hr : Region.ready .any l.toArray listed = [i, j]) (h1 : AF.Next P n w0 l Q z S fuel listed e H i) (h2 : AF.Next P n w0 l Q z S fuel listed e H j) : AF P n w0 l.toArray Q z S (fuel + 1) listed e H :=
  fun a w hf hw => ⟨fun h0 => (by rw [hr] at h0; cases h0), fun k hk => (by
    rw [hr] at hk
    simp only [List.mem_cons, List.not_mem_nil, or_false] at hk
    rcases hk with rfl | rfl
    · exact h1 a w hf hw
    · exact h2 a w hf hw)⟩
theorem AF.done (hr : Region.ready .any l.toArray listed = []) (h : PF n w0 Q e .normal H) : AF P n w0 l.toArray Q z S fuel listed e H :=
  fun a w hf hw => AnyL.done (Q := NoP Q) (z := z) (S := fun w => S w.heap) hr (show NoP Q .normal a w from h a w hf hw) fuel
end
end Go.JE
