/- Lemmas that the claim is made of. Conditions: each lemma names its own. -/
import Derived.Test.YtmfkkodnghambaaGreatKJ0
import Derived.OrdersHeld
import Derived.Laws.Rows
import Derived.ArgAppend
import Derived.ReadAgain
import Derived.Handed
import Derived.Below
import Derived.OpenShut
import Derived.RowKit
import Derived.ProofKit
import Derived.JoinedCond
import Derived.Lib.SmallJoins
import Derived.Deep.Slices
set_option linter.unusedSectionVars false
set_option linter.unusedSimpArgs false
set_option linter.unusedVariables false
namespace Go.JE
variable {P : Program} {n : Fs} {w0 : World} {Q : Exit → Act → World → Prop} {e : Env} {H : Heap}
def NoP (Q : Exit → Act → World → Prop) : Exit → Act → World → Prop
 | .panic _,_,_ => False
 | x,a,w => Q x a w
theorem NoP.imp {Q : Exit → Act → World → Prop} : ∀ (x : Exit) (a : Act) (w : World),NoP Q x a w → Q x a w := fun x a w h => by
 cases x <;> first | exact h | exact (h : False).elim
theorem NoP.pan {Q : Exit → Act → World → Prop} {o : Oper} {v : Value} : ∀ c a w,NoP Q (.panic c) (a.put o.dst v) w → NoP Q (.panic c) a w := fun _ _ _ h => (h : False).elim
def leftB (listed : Array Bool) : Prop := ∃ k,listed.getD k true = false
def AnyL (P : Program) (ops : Array Oper) (Q : Exit → Act → World → Prop) (z : Bool) (S : World → Prop) : Nat → Array Bool → Act → World → Prop
 | 0,listed,a,w => Region.ready .any ops listed = [] ∧ Q .normal a w
 | fuel + 1,listed,a,w => (Region.ready .any ops listed = [] → Q .normal a w) ∧
   ∀ i ∈ Region.ready .any ops listed,wpOp P ops Q i (fun a' w' => (z = false ∨ leftB (listed.setIfInBounds i true) → S w') ∧ AnyL P ops Q z S fuel (listed.setIfInBounds i true) a' w') a w
theorem AnyL.any {ops : Array Oper} {z : Bool} {S : World → Prop} : ∀ (fuel : Nat) (listed : Array Bool) (a : Act) (w : World),AnyL P ops Q z S fuel listed a w → wpAny P .any ops Q fuel listed a w
 | 0,_,_,_,h => h
 | fuel + 1,_,_,_,h => ⟨h.1,fun i hi => wpOp_mono (fun a' w' h' => AnyL.any fuel _ a' w' h'.2) (h.2 i hi)⟩
def waits (ops : Array Oper) (listed : Array Bool) (i : Nat) : Bool :=
 (List.range ops.size).any fun k => !(listed.getD k true) && (match ops[k]? with | some o => o.after.any (fun e => Region.binds .any e && e.on == i) | none => false)
theorem AnyL.first {ops : Array Oper} {z : Bool} {S : World → Prop} {i : Nat} {oi : Oper} {v : Value} (hi : ops[i]? = some oi) (hsel : ∀ (j : Nat) (o : Oper) cs b,ops[j]? = some o → o.op ≠ .select cs b)
   (hQ : ∀ c a w,Q (.panic c) (a.put oi.dst v) w → Q (.panic c) a w) : ∀ (fuel : Nat) (listed : Array Bool) (a : Act) (w : World),
     (∀ j oj,ops[j]? = some oj → j ≠ i → listed.getD j true = false → (∀ e ∈ oj.after,Region.binds .any e = true → e.on ≠ i) → oi.apart ops oj = true) →
     i ∈ Region.ready .any ops listed → YieldsIf P ops S oi v a → S w →
     (z = false ∨ ∃ k ok,listed.getD k true = false ∧ ops[k]? = some ok ∧ ∃ e ∈ ok.after,Region.binds .any e = true ∧ e.on = i) →
     AnyL P ops Q z S fuel (listed.setIfInBounds i true) (a.put oi.dst v) w → AnyL P ops Q z S (fuel + 1) listed a w := by
 intro fuel
 induction fuel with
 | zero =>
   intro listed a w _ hr hy hS _ H
   refine ⟨fun h => absurd hr (by rw [h]; exact List.not_mem_nil),fun j hj => ?_⟩
   rcases Decidable.em (j = i) with hji | hji
   · subst hji; exact hy.wpOp hi hS ⟨fun _ => hS,H⟩
   · exact absurd (H.1 ▸ ready_mono hj hji) List.not_mem_nil
 | succ fuel ih =>
   intro listed a w hfree hr hy hS hz H
   refine ⟨fun h => absurd hr (by rw [h]; exact List.not_mem_nil),fun j hj => ?_⟩
   rcases Decidable.em (j = i) with hji | hji
   · subst hji; exact hy.wpOp hi hS ⟨fun _ => hS,H⟩
   have h1 := H.2 j (ready_mono hj hji)
   obtain ⟨hjun,oj,hoj,hall⟩ := mem_ready.1 hj
   have hun := (mem_ready.1 hr).1
   have hnot : ∀ e ∈ oj.after,Region.binds .any e = true → e.on ≠ i := by
     rintro e he hb rfl
     have h2 := hall e he hb
     by_cases h' : e.on < listed.size
     · simp [h'] at h2 hun; rw [hun] at h2; cases h2
     · simp [Array.getElem?_eq_none (Nat.le_of_not_lt h')] at h2
   have h2 := wpOp_putIf hoj (hfree j oj hoj hji hjun hnot) (fun cs b => hsel i oi cs b hi) (fun cs b => hsel j oj cs b hoj) hQ hy h1
   have hr' := ready_mono hr (Ne.symm hji)
   have hz' : z = false ∨ ∃ k ok,(listed.setIfInBounds j true).getD k true = false ∧ ops[k]? = some ok ∧ k ≠ i ∧ ∃ e ∈ ok.after,Region.binds .any e = true ∧ e.on = i := by
     rcases hz with hz | ⟨k,ok,hk,hok,e,he,hb,hei⟩
     · exact .inl hz
     · refine .inr ⟨k,ok,?_,hok,?_,e,he,hb,hei⟩
       · have hjk : j ≠ k := by
           rintro rfl
           rw [hok] at hoj; cases hoj
           exact hnot e he hb hei
         rw [getD_set_ne true hjk]; exact hk
       · rintro rfl
         obtain ⟨_,o2,ho2,hall2⟩ := mem_ready.1 hr
         rw [hok] at ho2; cases ho2
         have h9 := hall2 e he hb
         rw [hei] at h9
         by_cases h' : k < listed.size
         · simp [h'] at h9 hun; rw [hun] at h9; cases h9
         · simp [Array.getElem?_eq_none (Nat.le_of_not_lt h')] at h9
   refine wpOp_mono (fun a' w' h3 => ?_) h2
   obtain ⟨hy',hS',hA⟩ := h3
   have hS2 : S w' := hS' (by
     rcases hz' with hz | ⟨k,ok,hk,hok,hki,_⟩
     · exact .inl hz
     · refine .inr ⟨k,?_⟩
       rw [Array.setIfInBounds_comm _ _ (Ne.symm hji),getD_set_ne true (Ne.symm hki)]; exact hk)
   refine ⟨fun _ => hS2,ih (listed.setIfInBounds j true) a' w' ?_ hr' hy' hS2 ?_ ?_⟩
   · intro k ok hk hki hun2 hno
     refine hfree k ok hk hki ?_ hno
     rcases Decidable.em (j = k) with e | e
     · subst e; exact hjun
     · rwa [getD_set_ne true e] at hun2
   · rcases hz' with hz | ⟨k,ok,hk,hok,hki,h9⟩
     · exact .inl hz
     · exact .inr ⟨k,ok,hk,hok,h9⟩
   · rw [Array.setIfInBounds_comm _ _ hji]; exact hA
theorem waits_spec {ops : Array Oper} {listed : Array Bool} {i : Nat} (h : waits ops listed i = true) : ∃ k ok,listed.getD k true = false ∧ ops[k]? = some ok ∧ ∃ e ∈ ok.after,Region.binds .any e = true ∧ e.on = i := by
 unfold waits at h
 rw [List.any_eq_true] at h
 obtain ⟨k,_,hk⟩ := h
 simp only [Bool.and_eq_true,Bool.not_eq_true'] at hk
 obtain ⟨h1,h2⟩ := hk
 split at h2
 · rename_i o ho
   rw [Array.any_eq_true] at h2
   obtain ⟨m,hm,h3⟩ := h2
   simp only [Bool.and_eq_true,beq_iff_eq] at h3
   exact ⟨k,o,h1,ho,o.after[m],Array.getElem_mem hm,h3.1,h3.2⟩
 · cases h2
theorem AnyL.done {ops : Array Oper} {z : Bool} {S : World → Prop} {listed : Array Bool} {a : Act} {w : World} (hr : Region.ready .any ops listed = []) (h : Q .normal a w) : ∀ fuel,AnyL P ops Q z S fuel listed a w
 | 0 => ⟨hr,h⟩
 | _ + 1 => ⟨fun _ => h,by rw [hr]; simp⟩
def AF (P : Program) (n : Fs) (w0 : World) (ops : Array Oper) (Q : Exit → Act → World → Prop) (z : Bool) (S : Heap → Prop) (fuel : Nat) (listed : Array Bool) (e : Env) (H : Heap) : Prop :=
 ∀ a w,Fr n e a → Wd w0 H w → AnyL P ops (NoP Q) z (fun w => S w.heap) fuel listed a w
theorem CF.any {id : Nat} {l : List Oper} {z : Bool} (S : Heap → Prop) (hm : P.follows .mixedOrders = true) (h : AF P n w0 l.toArray Q z S l.length (Array.replicate l.length false) e H) : CF P n w0 Q e (.region id l.toArray true) H := by
 intro a w hf hw
 refine Code.wp_mono NoP.imp (wp_region_any hm (AnyL.any (z := z) (S := fun w => S w.heap) _ _ _ _ ?_))
 have := h a _ hf hw.drew
 simpa using this
section
variable {l : List Oper} {z : Bool} {S : Heap → Prop} {fuel i d : Nat} {listed : Array Bool} {op : Op} {ty : TypeId} {pos : String} {af : Array Edge} {v : Value}
theorem AF.take (i : Nat) (hi : l[i]? = some ⟨some d,op,ty,pos,af,none⟩) (hs : Region.noSelect l.toArray = true) (hfr : Region.free .any l.toArray listed i = true) (hr : (Region.ready .any l.toArray listed).contains i = true) (hS : S H)
   (h : ∀ H',S H' → OpOk P e op H' v) (K : AF P n w0 l.toArray Q z S fuel (listed.setIfInBounds i true) ((d,v) :: e) H) (hd : Nat.blt d n.sz = true := by rfl) (hz : z = false ∨ waits l.toArray listed i = true := by first | exact .inl rfl | exact .inr (by kernel_rfl)) : AF P n w0 l.toArray Q z S (fuel + 1) listed e H := by
 intro a w hf hw
 refine AnyL.first (i := i) (oi := ⟨some d,op,ty,pos,af,none⟩) (v := v) (by simpa using hi) (Region.noSelect_spec hs) NoP.pan fuel listed a w (Region.free_spec (by simpa using hi) hfr) (by simpa using hr) ?_ (hw.heap ▸ hS) (hz.imp id waits_spec) (K _ _ (hf.put hd v) hw)
 exact .inl ⟨by simp [Region.wanted],fun w' hS' => h w'.heap hS' a.eval _ w' rfl (fun x u hx => hf.ev hx) rfl⟩
theorem AF.gtake (i : Nat) {j t : Nat} {want B : Bool} {u : Value} (hi : l[i]? = some ⟨some d,op,ty,pos,af,some (j,want)⟩) (hs : Region.noSelect l.toArray = true) (hfr : Region.free .any l.toArray listed i = true) (hr : (Region.ready .any l.toArray listed).contains i = true) (hS : S H)
   (hj : (l.toArray[j]?).bind (·.dst) = some t) (hu : lk e t = some u) (hB : Gd u want B) (h : B = true → ∀ H',S H' → OpOk P e op H' v) (K : AF P n w0 l.toArray Q z S fuel (listed.setIfInBounds i true) ((d,gv B v) :: e) H)
   (hd : Nat.blt d n.sz = true := by rfl) (ht : Nat.blt t n.sz = true := by rfl) (hz : z = false ∨ waits l.toArray listed i = true := by first | exact .inl rfl | exact .inr (by kernel_rfl)) : AF P n w0 l.toArray Q z S (fuel + 1) listed e H := by
 intro a w hf hw
 have hwt := wanted_gd (ops := l.toArray) (o := ⟨some d,op,ty,pos,af,some (j,want)⟩) rfl hj ht hf hu hB
 refine AnyL.first (i := i) (oi := ⟨some d,op,ty,pos,af,some (j,want)⟩) (v := gv B v) (by simpa using hi) (Region.noSelect_spec hs) NoP.pan fuel listed a w (Region.free_spec (by simpa using hi) hfr) (by simpa using hr) ?_ (hw.heap ▸ hS) (hz.imp id waits_spec) (K _ _ (hf.put hd _) hw)
 cases B with
 | true => exact .inl ⟨hwt,fun w' hS' => h rfl w'.heap hS' a.eval _ w' rfl (fun x u hx => hf.ev hx) rfl⟩
 | false => exact .inr ⟨hwt,rfl⟩
theorem wpAnyH_one {ops : Array Oper} {Q : Exit → Act → World → Prop} {z : Bool} {S : World → Prop} {a : Act} {w : World} (hr : Region.ready .any ops listed = [i]) (h : wpOp P ops Q i (fun a' w' => (z = false ∨ leftB (listed.setIfInBounds i true) → S w') ∧ AnyL P ops Q z S fuel (listed.setIfInBounds i true) a' w') a w) :
   AnyL P ops Q z S (fuel + 1) listed a w :=
 ⟨fun h0 => (by rw [hr] at h0; cases h0),fun j hj => (by rw [hr] at hj; simp only [List.mem_singleton] at hj; subst hj; exact h)⟩
theorem AF.chg (i : Nat) {R : Value → Heap → Prop} (hi : l[i]? = some ⟨some d,op,ty,pos,af,none⟩) (hr : Region.ready .any l.toArray listed = [i]) (h : OpCh P e op H R) (hS : ∀ v H',R v H' → S H')
   (K : ∀ v H',R v H' → AF P n w0 l.toArray Q z S fuel (listed.setIfInBounds i true) ((d,v) :: e) H') (hd : Nat.blt d n.sz = true := by rfl) : AF P n w0 l.toArray Q z S (fuel + 1) listed e H := by
 intro a w hf hw
 refine wpAnyH_one hr ?_
 obtain ⟨v,w',hrun,h1,h2,h3,hR⟩ := h a.eval ⟨some d,op,ty,pos,af,none⟩ w rfl (fun x u hx => hf.ev hx) hw.heap
 have hw' : Wd w0 w'.heap w' := ⟨rfl,h1.trans hw.os,h2.trans hw.tape,h3.trans hw.output⟩
 unfold wpOp
 simp only [List.getElem?_toArray,hi]
 rw [if_pos (by simp [Region.wanted])]
 refine .inl ?_
 unfold Oper.wp
 rcases hrun with hrun | ⟨hrun,rfl⟩
 · rw [hrun]; exact ⟨fun _ => hS _ _ hR,K _ _ hR _ _ (hf.put hd v) hw'⟩
 · rw [hrun]; exact ⟨fun _ => hS _ _ hR,K _ _ hR _ _ (hf.put hd undef) hw'⟩
theorem AF.call (i : Nat) {f : FuncId} {args : Array Value} {R : Value → Heap → Prop} (hi : l[i]? = some ⟨some d,op,ty,pos,af,none⟩) (hr : Region.ready .any l.toArray listed = [i]) (h : OpCall P e op H f args) (hc : Ct P f args H R) (hS : ∀ v H',R v H' → S H')
   (K : ∀ v H',R v H' → AF P n w0 l.toArray Q z S fuel (listed.setIfInBounds i true) ((d,v) :: e) H') (hd : Nat.blt d n.sz = true := by rfl) : AF P n w0 l.toArray Q z S (fuel + 1) listed e H := by
 intro a w hf hw
 refine wpAnyH_one hr ?_
 unfold wpOp
 simp only [List.getElem?_toArray,hi]
 rw [if_pos (by simp [Region.wanted])]
 refine .inl ?_
 unfold Oper.wp
 rw [h a.eval _ w rfl (fun x u hx => hf.ev hx) hw.heap,Oper.upon_enter]
 refine (hc w hw.heap).mono fun x w' ⟨v,hx,h1,h2,h3,hR⟩ => ?_
 subst hx
 exact ⟨fun _ => hS _ _ hR,K _ _ hR _ _ (hf.put hd v) ⟨rfl,h1.trans hw.os,h2.trans hw.tape,h3.trans hw.output⟩⟩
def AF.Next (P : Program) (n : Fs) (w0 : World) (l : List Oper) (Q : Exit → Act → World → Prop) (z : Bool) (S : Heap → Prop) (fuel : Nat) (listed : Array Bool) (e : Env) (H : Heap) (i : Nat) : Prop :=
 ∀ a w,Fr n e a → Wd w0 H w → wpOp P l.toArray (NoP Q) i (fun a' w' => (z = false ∨ leftB (listed.setIfInBounds i true) → S w'.heap) ∧ AnyL P l.toArray (NoP Q) z (fun w => S w.heap) fuel (listed.setIfInBounds i true) a' w') a w
theorem AF.one (i : Nat) (hr : Region.ready .any l.toArray listed = [i]) (h : AF.Next P n w0 l Q z S fuel listed e H i) : AF P n w0 l.toArray Q z S (fuel + 1) listed e H :=
 fun a w hf hw => wpAnyH_one hr (h a w hf hw)
theorem AF.two (i j : Nat) (hr : Region.ready .any l.toArray listed = [i,j]) (h1 : AF.Next P n w0 l Q z S fuel listed e H i) (h2 : AF.Next P n w0 l Q z S fuel listed e H j) : AF P n w0 l.toArray Q z S (fuel + 1) listed e H :=
 fun a w hf hw => ⟨fun h0 => (by rw [hr] at h0; cases h0),fun k hk => (by
   rw [hr] at hk
   simp only [List.mem_cons,List.not_mem_nil,or_false] at hk
   rcases hk with rfl | rfl
   · exact h1 a w hf hw
   · exact h2 a w hf hw)⟩
theorem AF.done (hr : Region.ready .any l.toArray listed = []) (h : PF n w0 Q e .normal H) : AF P n w0 l.toArray Q z S fuel listed e H :=
 fun a w hf hw => AnyL.done (Q := NoP Q) (z := z) (S := fun w => S w.heap) hr (show NoP Q .normal a w from h a w hf hw) fuel
end
end Go.JE
namespace Go.JE
variable {P : Program} {e : Env} {H : Heap}
abbrev PH := Nat → Option Obj
def PH.le (F G : PH) : Prop := ∀ k o,F k = some o → G k = some o
theorem PH.le.refl (F : PH) : F.le F := fun _ _ h => h
theorem PH.le.trans {F G K : PH} (h : F.le G) (h' : G.le K) : F.le K := fun k o hk => h' k o (h k o hk)
def InH (F : PH) (H : Heap) : Prop := ∀ k o,F k = some o → H[k]? = some o
theorem InH.down {F G : PH} (h : InH G H) (hl : F.le G) : InH F H := fun k o hk => h k o (hl k o hk)
theorem InH.lt {F : PH} (h : InH F H) {k : Nat} {o : Obj} (hk : F k = some o) : k < H.size := (Array.getElem?_eq_some_iff.1 (h k o hk)).1
theorem InH.nope {F : PH} (h : InH F H) {k : Nat} (hk : H.size ≤ k) : F k = none := by
 cases h1 : F k with
 | none => rfl
 | some o => have := h.lt h1; omega
theorem InH.of {F : PH} {H' : Heap} (h : InH F H) (hk : ∀ k o,F k = some o → H'[k]? = H[k]?) : InH F H' := fun k o h1 => (hk k o h1).trans (h k o h1)
theorem InH.kp {F : PH} {H' : Heap} (h : InH F H) (hk : Kp H.size H H') : InH F H' := h.of fun k _ h1 => hk.2 k (h.lt h1)
theorem InH.push {F : PH} (h : InH F H) (o : Obj) : InH F (H.push o) := h.of fun _ _ h1 => push_old (h.lt h1)
theorem InH.setc {F : PH} {b i : Nat} {v : Value} (h : InH F H) (hb : F b = none) : InH F (setc H b i v) := h.of fun k o h1 => setc_other (by rintro rfl; rw [hb] at h1; cases h1)
theorem InH.setl {F : PH} {b i : Nat} {l : List Value} (h : InH F H) (hb : F b = none) : InH F (setl H b i l) := h.of fun k o h1 => setl_other (by rintro rfl; rw [hb] at h1; cases h1) _ _ _
theorem InH.grown {F : PH} {H' : Heap} {row : Option Nat} (h : InH F H) (hg : GrownBy H H' row) (hr : ∀ k,row = some k → F k = none) : InH F H' := h.of fun k o h1 => hg.2 k (h.lt h1) (fun e1 => by rw [hr k e1.symm] at h1; cases h1)
def pc (F : PH) (b o : Nat) : Option Value := match F b with
 | some (.cells c _ _) => c[o]?
 | _ => none
theorem InH.hc {F : PH} (h : InH F H) {b o : Nat} {v : Value} (e1 : pc F b o = some v) : hc H b o = some v := by
 unfold pc at e1
 split at e1
 · rename_i c _ _ h1; simp [JE.hc,h _ _ h1,e1]
 · cases e1
theorem pc_le {F G : PH} (h : F.le G) {b o : Nat} {v : Value} (e1 : pc F b o = some v) : pc G b o = some v := by
 unfold pc at e1 ⊢
 split at e1
 · rename_i c _ _ h1; rw [h _ _ h1]; exact e1
 · cases e1
def PH.add (F : PH) (g : Nat) (o : Obj) : PH := fun k => if k = g then some o else F k
theorem PH.le_add {F : PH} {g : Nat} {o : Obj} (h : F g = none) : F.le (F.add g o) := fun k o' hk => by
 unfold PH.add; rw [if_neg (by rintro rfl; rw [h] at hk; cases hk)]; exact hk
theorem InH.add {F : PH} (h : InH F H) {g : Nat} {o : Obj} (hg : H[g]? = some o) : InH (F.add g o) H := fun k o' hk => by
 unfold PH.add at hk
 split at hk
 · rename_i e1; subst e1; rw [hg]; exact hk
 · exact h k o' hk
def PH.ext (H : Heap) (F G : PH) : Prop := F.le G ∧ ∀ k,k < H.size → G k = F k
theorem PH.ext.refl (F : PH) : PH.ext H F F := ⟨PH.le.refl F,fun _ _ => rfl⟩
theorem PH.ext.trans {H' : Heap} {F G K : PH} (h : PH.ext H F G) (h' : PH.ext H' G K) (hs : H.size ≤ H'.size) : PH.ext H F K := ⟨h.1.trans h'.1,fun k hk => (h'.2 k (by omega)).trans (h.2 k hk)⟩
theorem PH.ext.add {F G : PH} {g : Nat} {o : Obj} (h : PH.ext H F G) (hg : G g = none) (hs : H.size ≤ g) : PH.ext H F (G.add g o) :=
 ⟨h.1.trans (PH.le_add hg),fun k hk => by unfold PH.add; rw [if_neg (by omega)]; exact h.2 k hk⟩
theorem PH.ext.no {F G : PH} (h : PH.ext H F G) {b : Nat} (hb : F b = none) (hl : b < H.size) : G b = none := (h.2 b hl).trans hb
structure Rp (α : Type) where
 sz : Nat
 agg : Bool
 ok : PH → α → (Nat → Value) → Prop
 up : ∀ {F G : PH} {a : α} {f : Nat → Value},F.le G → ok F a f → ok G a f
 ext : ∀ {F : PH} {a : α} {f g : Nat → Value},(∀ i,i < sz → f i = g i) → ok F a f → ok F a g
 one : ∀ {F : PH} {a : α} {f : Nat → Value},ok F a f → ∀ i,i < sz → (f i).oneCell' = true
def Rp.rv {α : Type} (r : Rp α) (F : PH) (v : Value) (a : α) : Prop := r.ok F a (fun _ => v)
def Rp.ra {α : Type} (r : Rp α) (F : PH) (v : Value) (a : α) : Prop := ∃ l : List Value,v = .agg l.toArray ∧ l.length = r.sz ∧ r.ok F a (fun i => l.getD i undef)
def At {α : Type} (F : PH) (r : Rp α) (b o : Nat) (a : α) : Prop := ∃ f,(∀ i,i < r.sz → pc F b (o + i) = some (f i)) ∧ r.ok F a f
section
variable {α β : Type} {r : Rp α} {F G : PH} {a : α} {v : Value} {b o : Nat}
theorem Rp.rv.up (h : r.rv F v a) (hl : F.le G) : r.rv G v a := Rp.up r hl h
theorem Rp.ra.up (h : r.ra F v a) (hl : F.le G) : r.ra G v a := by obtain ⟨l,h1,h2,h3⟩ := h; exact ⟨l,h1,h2,Rp.up r hl h3⟩
theorem At.up (h : At F r b o a) (hl : F.le G) : At G r b o a := by obtain ⟨f,h1,h2⟩ := h; exact ⟨f,fun i hi => pc_le hl (h1 i hi),Rp.up r hl h2⟩
theorem At.part {s : Rp β} {c : β} (off : Nat) (h : At F r b o a) (hs : off + s.sz ≤ r.sz) (hp : ∀ f,r.ok F a f → s.ok F c (fun i => f (i + off))) : At F s b (o + off) c := by
 obtain ⟨f,h1,h2⟩ := h
 exact ⟨fun i => f (i + off),fun i hi => by rw [Nat.add_assoc,Nat.add_comm off i]; exact h1 _ (by omega),hp f h2⟩
theorem Rp.ra.mk {l : List Value} (hl : l.length = r.sz) (h : r.ok F a (fun i => l.getD i undef)) : r.ra F (.agg l.toArray) a := ⟨l,rfl,hl,h⟩
theorem OpOk.ldA {T : TypeId} {x : Operand} (hin : InH F H) (hat : At F r b o a) (hT : ∃ d,P.underlying T = some d ∧ (match d with | .struct _ | .array _ _ => true | _ => false) = true) (hS : Sz P T r.sz) (hx : ev e x = some (.pointer (some ⟨b,o,none⟩))) :
   ∃ v,OpOk P e (.load T x) H v ∧ r.ra F v a := by
 obtain ⟨f,h1,h2⟩ := hat
 refine ⟨.agg ((List.range r.sz).map f).toArray,OpOk.loadAgg hT hS hx (by simp) (fun j u hj => ?_),(List.range r.sz).map f,rfl,by simp,Rp.ext r (fun i hi => by simp [hi]) h2⟩
 have hj' : j < r.sz := by have := (List.getElem?_eq_some_iff.1 hj).1; simpa using this
 have hu : f j = u := by simpa [hj'] using hj
 rw [← hu]; exact hin.hc (h1 j hj')
theorem OpOk.ldV {T : TypeId} {x : Operand} (hin : InH F H) (hat : At F r b o a) (hT : One P T) (hS : r.sz = 1) (hx : ev e x = some (.pointer (some ⟨b,o,none⟩))) :
   ∃ v,OpOk P e (.load T x) H v ∧ r.rv F v a := by
 obtain ⟨f,h1,h2⟩ := hat
 refine ⟨f 0,OpOk.load hT hx rfl (hin.hc (h1 0 (by omega))),Rp.ext r (fun i hi => ?_) h2⟩
 rw [show i = 0 by omega]
end
def rI (k : IntKind) : Rp Int where
 sz := 1
 agg := false
 ok _ n f := f 0 = .int k n ∧ k.wrap n = n
 up _ h := h
 ext he h := by rw [← he 0 (by omega)]; exact h
 one h i hi := by rw [show i = 0 by omega,h.1]; rfl
def rB : Rp Bool where
 sz := 1
 agg := false
 ok _ n f := f 0 = .bool n
 up _ h := h
 ext he h := by rw [← he 0 (by omega)]; exact h
 one h i hi := by rw [show i = 0 by omega,h]; rfl
def rS : Rp ByteArray where
 sz := 1
 agg := false
 ok _ n f := f 0 = .string n
 up _ h := h
 ext he h := by rw [← he 0 (by omega)]; exact h
 one h i hi := by rw [show i = 0 by omega,h]; rfl
def rLn {α : Type} (N : Nat) (r : Rp α) : Rp (List α) where
 sz := 1
 agg := false
 ok F l f := (l.length < N ∧ l.length ≤ 9223372036854775807) ∧ ∃ a cap,f 0 = .slice a l.length cap ∧ l.length ≤ cap ∧ (∀ i,i < l.length * r.sz → ∃ b o,a = some ⟨b,o,none⟩) ∧
   ∃ g : Nat → Value,(∀ i,i < l.length * r.sz → pc F (vblk (f 0)) (voff (f 0) + i) = some (g i)) ∧ ∀ i (hi : i < l.length),r.ok F l[i] (fun j => g (i * r.sz + j))
 up hl h := by
   obtain ⟨h0,a,cap,h1,h2,h3,g,h4,h5⟩ := h
   exact ⟨h0,a,cap,h1,h2,h3,g,fun i hi => pc_le hl (h4 i hi),fun i hi => r.up hl (h5 i hi)⟩
 ext he h := by rw [← he 0 (by omega)]; exact h
 one h i hi := by obtain ⟨h0,a,cap,h1,_⟩ := h; rw [show i = 0 by omega,h1]; rfl
abbrev rL {α : Type} (r : Rp α) : Rp (List α) := rLn 1073741824 r
section
variable {α : Type} {r : Rp α} {F : PH} {v : Value} {l : List α} {N : Nat}
theorem rng64 {n : Int} {f : Nat → Value} {F : PH} (h : (rI .i64).ok F n f) : -9223372036854775808 ≤ n ∧ n ≤ 9223372036854775807 := by
 have h1 := h.2
 rw [IntKind.wrap_i64] at h1
 omega
theorem rL.len (h : (rLn N r).rv F v l) : l.length < N := h.1.1
theorem rL.sl (h : (rLn N r).rv F v l) : ∃ a cap,v = .slice a l.length cap ∧ l.length ≤ cap := by obtain ⟨_,a,cap,h1,h2,_⟩ := h; exact ⟨a,cap,h1,h2⟩
theorem rL.at (h : (rLn N r).rv F v l) (i : Nat) (hi : i < l.length) : At F r (vblk v) (voff v + i * r.sz) l[i] := by
 obtain ⟨_,a,cap,h1,h2,h3,g,h4,h5⟩ := h
 refine ⟨fun j => g (i * r.sz + j),fun j hj => ?_,h5 i hi⟩
 rw [Nat.add_assoc]
 refine h4 _ ?_
 have : (i + 1) * r.sz ≤ l.length * r.sz := Nat.mul_le_mul_right _ hi
 rw [Nat.add_mul] at this; omega
theorem rL.nil0 {N : Nat} (hN : 0 < N) (F : PH) : (rLn N r).rv F (.slice none 0 0) [] := ⟨by simp; exact hN,none,0,rfl,by simp,fun i hi => by simp at hi,fun _ => undef,fun i hi => by simp at hi,fun i hi => by simp at hi⟩
theorem rL.nil (F : PH) : (rL r).rv F (.slice none 0 0) [] := ⟨by simp,none,0,rfl,by simp,fun i hi => by simp at hi,fun _ => undef,fun i hi => by simp at hi,fun i hi => by simp at hi⟩
theorem rL.slH (h : (rLn N r).rv F v l) (hin : InH F H) : ∃ f,Sl H H.size v r.sz l.length f := by
 obtain ⟨h0,a,cap,h1,h2,h3,g,h4,h5⟩ := h
 refine ⟨g,h0.2,a,cap,h1,h2,fun i hi => ?_⟩
 obtain ⟨b,o,e1⟩ := h3 i hi
 have h6 := hin.hc (h4 i hi)
 rw [h1,e1] at h6
 simp only [vblk,voff] at h6
 refine ⟨b,o,e1,?_,h6⟩
 unfold hc at h6
 cases h7 : H[b]? with
 | none => rw [h7] at h6; cases h6
 | some x => exact (Array.getElem?_eq_some_iff.1 h7).1
theorem OpOk.lenL {T : TypeId} {x : Operand} {E : TypeId} (hT : P.underlying T = some (.slice E)) (hs : (rLn N r).rv F v l) (hx : ev e x = some v) : OpOk P e (.call { callee := .builtin .len,args := #[x],argTypes := #[T] }) H (.int .i64 (l.length : Nat)) := by
 obtain ⟨a,cap,rfl,_⟩ := rL.sl hs
 exact OpOk.lenS hT hx
theorem OpOk.idxL {T E : TypeId} {x ix : Operand} {k : IntKind} {I : Int} {i : Nat} (hT : P.underlying T = some (.slice E)) (hE : Sz P E r.sz) (hs : (rLn N r).rv F v l) (hx : ev e x = some v) (hi : ev e ix = some (.int k I)) (hI : I = i) (h1 : i < l.length) (hsz : 0 < r.sz := by exact Nat.le_of_ble_eq_true rfl) :
   OpOk P e (.indexAddr T x ix) H (.pointer (some ⟨vblk v,voff v + i * r.sz,none⟩)) := by
 obtain ⟨_,a,cap,rfl,h2,h3,_⟩ := hs
 obtain ⟨b,o,rfl⟩ := h3 0 (Nat.mul_pos (by omega) hsz)
 have := OpOk.indexA (H := H) hT hE hx hi (by omega) (by omega)
 subst hI
 simpa [vblk,voff] using this
theorem rL.resl {M : Nat} (h : (rLn N r).rv F v l) {lo hi : Nat} (h1 : lo ≤ hi) (h2 : hi ≤ l.length) (hM : hi - lo < M) : (rLn M r).rv F (JE.resl r.sz v lo hi) ((l.take hi).drop lo) := by
 obtain ⟨h0,a,cap,e1,hcap,h3,g,h4,h5⟩ := h
 subst e1
 have hlen : ((l.take hi).drop lo).length = hi - lo := by simp; omega
 refine ⟨⟨by rw [hlen]; omega,by rw [hlen]; omega⟩,if cap = lo then a else a.map (·.add (lo * r.sz)),cap - lo,by rw [hlen]; rfl,by rw [hlen]; omega,fun i hi' => ?_,fun i => g (lo * r.sz + i),fun i hi' => ?_,fun i hi' => ?_⟩
 · rw [hlen] at hi'
   have hb0 : i < l.length * r.sz := by
     have : (hi - lo) * r.sz ≤ l.length * r.sz := Nat.mul_le_mul_right _ (by omega)
     omega
   obtain ⟨b,o,rfl⟩ := h3 i hb0
   split
   · exact ⟨b,o,rfl⟩
   · exact ⟨b,o + lo * r.sz,by simp [Addr.add_none]⟩
 · rw [hlen] at hi'
   have hb : lo * r.sz + i < l.length * r.sz := by
     have : (hi - lo) * r.sz + lo * r.sz ≤ l.length * r.sz := by rw [← Nat.add_mul]; exact Nat.mul_le_mul_right _ (by omega)
     omega
   have h6 := h4 _ hb
   obtain ⟨b,o,rfl⟩ := h3 _ hb
   have hc' : ¬ cap = lo := by
     intro e1
     have : l.length * r.sz ≤ lo * r.sz := Nat.mul_le_mul_right _ (by omega)
     omega
   simp only [vblk,voff] at h6
   simp only [JE.resl,if_neg hc',Option.map_some,Addr.add_none,vblk,voff]
   rw [Nat.add_assoc]; exact h6
 · have h6 := h5 (lo + i) (by omega)
   have e1 : ((l.take hi).drop lo)[i] = l[lo + i]'(by omega) := by simp
   rw [e1]
   have h7 : (fun j => g (lo * r.sz + (i * r.sz + j))) = fun j => g ((lo + i) * r.sz + j) := by funext j; rw [Nat.add_mul,Nat.add_assoc]
   rw [h7]; exact h6
section
variable {T E : TypeId} {x lx hx' : Operand} {lo hi : Nat} {k k' : IntKind} {I J : Int}
theorem OpOk.sliceHiL (hT : P.underlying T = some (.slice E)) (hE : Sz P E r.sz) (hs : (rLn N r).rv F v l) (hin : InH F H) (hx : ev e x = some v) (hh : ev e hx' = some (.int k' J)) (hJ : J = hi) (h2 : hi ≤ l.length) :
   OpOk P e (.slice T x none (some hx') none) H (JE.resl r.sz v 0 hi) := by
 obtain ⟨f,hf⟩ := rL.slH hs hin
 exact OpOk.sliceHi hT hE hf hx hh hJ h2
theorem OpOk.sliceLoL (hT : P.underlying T = some (.slice E)) (hE : Sz P E r.sz) (hs : (rLn N r).rv F v l) (hin : InH F H) (hx : ev e x = some v) (hl : ev e lx = some (.int k I)) (hI : I = lo) (h2 : lo ≤ l.length) :
   OpOk P e (.slice T x (some lx) none none) H (JE.resl r.sz v lo l.length) := by
 obtain ⟨f,hf⟩ := rL.slH hs hin
 exact OpOk.sliceLo hT hE hf hx hl hI h2
end
end
theorem OpOk.ldI {T : TypeId} {x : Operand} {k : IntKind} {F : PH} {n : Int} {b o : Nat} (hin : InH F H) (hat : At F (rI k) b o n) (hT : One P T) (hx : ev e x = some (.pointer (some ⟨b,o,none⟩))) : OpOk P e (.load T x) H (.int k n) := by
 obtain ⟨f,h1,h2,_⟩ := hat
 have h3 := hin.hc (h1 0 (show 0 < (rI k).sz from Nat.one_pos))
 rw [h2] at h3
 exact OpOk.load hT hx rfl h3
theorem OpOk.ldB {T : TypeId} {x : Operand} {F : PH} {n : Bool} {b o : Nat} (hin : InH F H) (hat : At F rB b o n) (hT : One P T) (hx : ev e x = some (.pointer (some ⟨b,o,none⟩))) : OpOk P e (.load T x) H (.bool n) := by
 obtain ⟨f,h1,h2⟩ := hat
 have h3 := hin.hc (h1 0 (by decide))
 rw [show f 0 = _ from h2] at h3
 exact OpOk.load hT hx rfl h3
theorem At.rng {F : PH} {n : Int} {b o : Nat} (h : At F (rI .i64) b o n) : -9223372036854775808 ≤ n ∧ n ≤ 9223372036854775807 := by
 obtain ⟨f,_,h2⟩ := h
 exact rng64 h2
def Gl {α : Type} (r : Rp α) (T : TypeId) (F : PH) (H : Heap) (B : Nat) (v : Value) (l : List α) : Prop :=
 ∃ xs,Gr H B T r.sz v l.length xs ∧ (∀ k,v.ownBlock = some k → F k = none) ∧ ∀ i (hi : i < l.length),r.ok F l[i] (fun j => xs.getD (i * r.sz + j) undef)
section
variable {α : Type} {r : Rp α} {T : TypeId} {F G : PH} {B : Nat} {v : Value} {l : List α}
theorem Gl.nil (F : PH) (H : Heap) (B : Nat) : Gl r T F H B (.slice none 0 0) [] := ⟨[],Gr.nil _ _ _,fun k hk => by simp [Value.ownBlock] at hk,fun i hi => by simp at hi⟩
theorem Gl.ext (h : Gl r T F H B v l) (he : PH.ext H F G) : Gl r T G H B v l := by
 obtain ⟨xs,h1,h2,h3⟩ := h
 exact ⟨xs,h1,fun k hk => he.no (h2 k hk) (h1.blk k hk).2,fun i hi => r.up he.1 (h3 i hi)⟩
theorem Gl.of {H' : Heap} (h : Gl r T F H B v l) (hk : ∀ k,v.ownBlock = some k → H'[k]? = H[k]?) : Gl r T F H' B v l := by
 obtain ⟨xs,h1,h2,h3⟩ := h
 exact ⟨xs,h1.of hk,h2,h3⟩
theorem Gl.blk (h : Gl r T F H B v l) : ∀ k,v.ownBlock = some k → B ≤ k ∧ k < H.size := by obtain ⟨xs,h1,_⟩ := h; exact h1.blk
theorem Gl.no (h : Gl r T F H B v l) : ∀ k,v.ownBlock = some k → F k = none := by obtain ⟨xs,_,h1,_⟩ := h; exact h1
theorem Gl.kp {H' : Heap} (h : Gl r T F H B v l) (hk : Kp H.size H H') : Gl r T F H' B v l := h.of fun k e1 => hk.2 k (h.blk k e1).2
theorem Gl.push (h : Gl r T F H B v l) (o : Obj) : Gl r T F (H.push o) B v l := h.of fun k e1 => push_old (h.blk k e1).2
theorem Gl.other {b i : Nat} {u : Value} (h : Gl r T F H B v l) (hb : v.ownBlock ≠ some b) : Gl r T F (setc H b i u) B v l := h.of fun k e1 => setc_other (by rintro rfl; exact hb e1)
theorem Gl.base {B' : Nat} (h : Gl r T F H B v l) (hB : B' ≤ B) : Gl r T F H B' v l := by
 obtain ⟨xs,h1,h2,h3⟩ := h
 refine ⟨xs,⟨h1.1,?_⟩,h2,h3⟩
 rcases h1.2 with h9 | ⟨g,cap,cur,e1,hb,r'⟩
 · exact .inl h9
 · exact .inr ⟨g,cap,cur,e1,by omega,r'⟩
theorem Gl.lenLe (h : Gl r T F H B v l) : l.length ≤ 9223372036854775807 := by obtain ⟨xs,h1,_⟩ := h; exact h1.lenLe
theorem Gl.freeze {N : Nat} (h : Gl r T F H B v l) (hin : InH F H) (hM : l.length < N) : ∃ G,F.le G ∧ InH G H ∧ (∀ k,k < B → G k = F k) ∧ (∀ k,v.ownBlock ≠ some k → G k = F k) ∧ (rLn N r).rv G v l := by
 obtain ⟨xs,h1,h2,h3⟩ := h
 have hlen := h1.lenLe
 rcases h1.2 with ⟨rfl,h0⟩ | ⟨g,cap,cur,rfl,hb,hg,hc1,hc2,hc3,hc4⟩
 · have hl : l = [] := List.eq_nil_of_length_eq_zero h0
   subst hl
   exact ⟨F,PH.le.refl F,hin,fun _ _ => rfl,fun _ _ => rfl,rL.nil0 (by simpa using hM) F⟩
 · have hno := h2 g rfl
   refine ⟨F.add g (.cells cur T (0,0)),PH.le_add hno,hin.add hg,fun k hk => by unfold PH.add; rw [if_neg (by omega)],fun k hk => ?_,⟨hM,hlen⟩,_,_,rfl,hc1,fun i hi => ⟨g,0,rfl⟩,fun i => xs.getD i undef,fun i hi => ?_,fun i hi => r.up (PH.le_add hno) (h3 i hi)⟩
   · unfold PH.add; rw [if_neg]; rintro rfl; exact hk rfl
   · simp only [vblk,voff,pc,PH.add,if_true,Nat.zero_add]
     have h5 : xs[i]? = cur[i]? := by rw [← hc4,List.getElem?_take,if_pos hi]; simp
     have h6 : i < xs.length := by rw [h1.1]; exact hi
     rw [← h5]; simp [List.getD,h6]
theorem Gl.freezeX {H0 : Heap} {F0 : PH} (h : Gl r T F H B v l) (hin : InH F H) (hx : PH.ext H0 F0 F) (hB : H0.size ≤ B) (hM : l.length < 1073741824) : ∃ G,PH.ext H0 F0 G ∧ F.le G ∧ InH G H ∧ (∀ k,v.ownBlock ≠ some k → G k = F k) ∧ (rL r).rv G v l := by
 obtain ⟨G,h1,h2,h3,h4,h5⟩ := h.freeze hin hM
 exact ⟨G,⟨hx.1.trans h1,fun k hk => (h3 k (by omega)).trans (hx.2 k hk)⟩,h1,h2,h4,h5⟩
theorem Gl.cell (h : Gl r T F H B v l) {i j : Nat} (hi : i < l.length) (hj : j < r.sz) : ∃ f,r.ok F l[i] f ∧ hc H (vblk v) (voff v + (i * r.sz + j)) = some (f j) := by
 obtain ⟨xs,h1,h2,h3⟩ := h
 refine ⟨_,h3 i hi,?_⟩
 have hb : i * r.sz + j < l.length * r.sz := by
   have : (i + 1) * r.sz ≤ l.length * r.sz := Nat.mul_le_mul_right _ hi
   rw [Nat.add_mul] at this; omega
 have h4 := (h1.sl (f := fun i => xs.getD i undef) (fun i hi => by simp [List.getD,show i < xs.length by rw [h1.1]; exact hi])).at hb
 simpa [elAt] using h4
theorem Gl.sl (h : Gl r T F H B v l) : ∃ f,Sl H H.size v r.sz l.length f := by
 obtain ⟨xs,h1,h2,h3⟩ := h
 exact ⟨fun i => xs.getD i undef,h1.sl (fun i hi => by simp [List.getD,show i < xs.length by rw [h1.1]; exact hi])⟩
theorem Gl.own (h : Gl r T F H B v l) (hn : 0 < l.length) : ∃ g c,v = .slice (some ⟨g,0,none⟩) l.length c ∧ B ≤ g ∧ g < H.size ∧ F g = none := by
 obtain ⟨xs,h1,h2,h3⟩ := h
 obtain ⟨g,c,rfl,h4,h5⟩ := h1.own hn
 exact ⟨g,c,rfl,h4,h5,h2 g rfl⟩
end
def rP {α β : Type} (r : Rp α) (s : Rp β) : Rp (α × β) where
 sz := s.sz + r.sz
 agg := true
 ok F p f := r.ok F p.1 f ∧ s.ok F p.2 (fun i => f (i + r.sz))
 up hl h := ⟨r.up hl h.1,s.up hl h.2⟩
 ext he h := ⟨r.ext (fun i hi => he i (by omega)) h.1,s.ext (fun i hi => he (i + r.sz) (by omega)) h.2⟩
 one h i hi := by
   by_cases h1 : i < r.sz
   · exact r.one h.1 i h1
   · have := s.one h.2 (i - r.sz) (by omega)
     rwa [Nat.sub_add_cancel (by omega)] at this
def rM {α β : Type} (r : Rp α) (g : β → α) : Rp β where
 sz := r.sz
 agg := true
 ok F b f := r.ok F (g b) f
 up hl h := r.up hl h
 ext he h := r.ext he h
 one h i hi := r.one h i hi
def rA {α : Type} (n : Nat) (r : Rp α) : Rp (List α) where
 sz := n * r.sz
 agg := true
 ok F l f := l.length = n ∧ ∀ i (hi : i < l.length),r.ok F l[i] (fun j => f (i * r.sz + j))
 up hl h := ⟨h.1,fun i hi => r.up hl (h.2 i hi)⟩
 ext {F l f g} he h := ⟨h.1,fun i hi => r.ext (fun j hj => he _ (by
   have h1 := h.1
   have : (i + 1) * r.sz ≤ n * r.sz := Nat.mul_le_mul_right _ (by omega)
   rw [Nat.add_mul] at this; omega)) (h.2 i hi)⟩
 one {F l f} h i hi := by
   have h0 : 0 < r.sz := by rcases Nat.eq_zero_or_pos r.sz with h9 | h9; (· rw [h9] at hi; simp at hi); exact h9
   have h1 : i / r.sz < l.length := by rw [h.1]; exact Nat.div_lt_of_lt_mul (by rw [Nat.mul_comm]; exact hi)
   have := r.one (h.2 _ h1) (i % r.sz) (Nat.mod_lt _ h0)
   rwa [Nat.div_add_mod'] at this
def ix {α : Type} [Inhabited α] (l : List α) (i : Nat) : α := l.getD i default
section
variable {α : Type} [Inhabited α] {r : Rp α} {F : PH} {l : List α} {v : Value}
theorem ix_eq {i : Nat} (h : i < l.length) : ix l i = l[i] := by simp [ix,h]
theorem drop_ix {i : Nat} (h : i < l.length) : l.drop i = ix l i :: l.drop (i + 1) := by rw [ix_eq h]; exact List.drop_eq_getElem_cons h
theorem take_ix {i : Nat} (h : i < l.length) : l.take (i + 1) = l.take i ++ [ix l i] := by rw [ix_eq h]; exact List.take_succ_eq_append_getElem h
theorem ix_cons {i : Nat} (a : α) : ix (a :: l) (i + 1) = ix l i := by simp [ix]
theorem ix_zero (a : α) : ix (a :: l) 0 = a := by simp [ix]
theorem ix_app {i : Nat} (h : i < l.length) (m : List α) : ix (l ++ m) i = ix l i := by
 rw [ix_eq h,ix_eq (by simp; omega)]; exact List.getElem_append_left _
theorem ix_mem {i : Nat} (h : i < l.length) : ix l i ∈ l := by rw [ix_eq h]; exact List.getElem_mem _
theorem rL.ix {N : Nat} (h : (rLn N r).rv F v l) (i : Nat) (hi : i < l.length) : At F r (vblk v) (voff v + i * r.sz) (ix l i) := by rw [ix_eq hi]; exact rL.at h i hi
end
def Bx (H : Heap) (g : Nat) (T : TypeId) (l : List Value) : Prop := H[g]? = some (.cells l.toArray T (0,0))
section
variable {g : Nat} {T : TypeId} {l : List Value}
theorem Bx.lt (h : Bx H g T l) : g < H.size := (Array.getElem?_eq_some_iff.1 h).1
theorem Bx.of {H' : Heap} (h : Bx H g T l) (hk : H'[g]? = H[g]?) : Bx H' g T l := hk.trans h
theorem Bx.kp {H' : Heap} (h : Bx H g T l) (hk : Kp H.size H H') : Bx H' g T l := h.of (hk.2 g h.lt)
theorem Bx.hc (h : Bx H g T l) {i : Nat} {v : Value} (hi : l[i]? = some v) : hc H g i = some v := by
 unfold Bx at h; simp [JE.hc,h,hi]
theorem Bx.rw (h : Bx H g T l) : Rw H g T l.length (fun i => l.getD i undef) := ⟨l.toArray,h,by simp,fun i hi => by simp [hi]⟩
theorem Bx.set (h : Bx H g T l) (i : Nat) (v : Value) : Bx (setc H g i v) g T (l.set i v) := by
 unfold Bx at h ⊢
 simp [setc,Array.getElem?_modify,h]
def setAt (l : List Value) : Nat → List Value → List Value
 | _,[] => l
 | o,v :: r => setAt (l.set o v) (o + 1) r
theorem Bx.setl : ∀ (m : List Value) {H : Heap} {l : List Value} (_ : Bx H g T l) (o : Nat),Bx (setl H g o m) g T (setAt l o m)
 | [],_,_,h,_ => h
 | v :: r,_,_,h,o => Bx.setl r (h.set o v) (o + 1)
theorem OpOk.ldBx {x : Operand} {T' : TypeId} {o : Nat} {v : Value} (hb : Bx H g T l) (hT : One P T') (hx : ev e x = some (.pointer (some ⟨g,o,none⟩))) (hl : l[o]? = some v) : OpOk P e (.load T' x) H v :=
 OpOk.load hT hx rfl (hb.hc hl)
theorem OpOk.ldBxA {x : Operand} {T' : TypeId} {o m : Nat} {cs : List Value} (hb : Bx H g T l) (hT : ∃ d,P.underlying T' = some d ∧ (match d with | .struct _ | .array _ _ => true | _ => false) = true) (hS : Sz P T' m) (hx : ev e x = some (.pointer (some ⟨g,o,none⟩)))
   (hl : (l.drop o).take m = cs) (hm : cs.length = m) : OpOk P e (.load T' x) H (.agg cs.toArray) :=
 OpOk.loadAgg hT hS hx hm (fun j u hj => hb.hc (by
   rw [← hl,List.getElem?_take] at hj
   split at hj
   · rwa [List.getElem?_drop] at hj
   · cases hj))
theorem OpCh.boxB {x : Operand} {v : Value} {cs : List Value} (hx : ev e x = some v) (hv : v.cells = cs.toArray) : OpCh P e (.box T x) H (fun u H' => ∃ g,u = .pointer (some ⟨g,0,none⟩) ∧ g = H.size ∧ H'.size = H.size + 1 ∧ Kp H.size H H' ∧ Bx H' g T cs) := by
 intro ρ o w ho hev hw
 obtain ⟨v',w',h1,h2,h3,h4,rfl,h6⟩ := OpCh.box (P := P) (T := T) hx ρ o w ho hev hw
 exact ⟨_,w',h1,h2,h3,h4,H.size,rfl,rfl,by rw [h6]; simp,by rw [h6]; exact (Kp.refl _ _).push (Nat.le_refl _) _,by rw [h6,hv]; exact push_new⟩
theorem OpCh.allocB {z : Value} {cs : List Value} (hz : (P.info? T).bind (·.zero) = some z) (hv : z.cells = cs.toArray) : OpCh P e (.alloc T) H (fun u H' => ∃ g,u = .pointer (some ⟨g,0,none⟩) ∧ g = H.size ∧ H'.size = H.size + 1 ∧ Kp H.size H H' ∧ Bx H' g T cs) := by
 intro ρ o w ho hev hw
 obtain ⟨v',w',h1,h2,h3,h4,rfl,h6⟩ := OpCh.alloc (P := P) (T := T) (e := e) hz ρ o w ho hev hw
 exact ⟨_,w',h1,h2,h3,h4,H.size,rfl,rfl,by rw [h6]; simp,by rw [h6]; exact (Kp.refl _ _).push (Nat.le_refl _) _,by rw [h6,hv]; exact push_new⟩
theorem OpCh.storeB {x y : Operand} {T' : TypeId} {o : Nat} {v : Value} (hb : Bx H g T l) (hT : Sz P T' 1) (hx : ev e x = some (.pointer (some ⟨g,o,none⟩))) (hy : ev e y = some v) (h1 : v.oneCell' = true) (ho : o < l.length) :
   OpCh P e (.store T' x y) H (fun _ H' => Tw g H H' ∧ Bx H' g T (l.set o v)) := by
 intro ρ oo w hoo hev hw
 obtain ⟨v',w',h2,h3,h4,h5,h6⟩ := OpCh.store (P := P) hT hx hy h1 hb.rw ho ρ oo w hoo hev hw
 exact ⟨v',w',h2,h3,h4,h5,by rw [h6]; exact ⟨size_setc,fun k hk => setc_other hk⟩,by rw [h6]; exact hb.set o v⟩
theorem OpCh.storeBA {x y : Operand} {T' : TypeId} {o m : Nat} {cs : List Value} (hb : Bx H g T l) (hT : Sz P T' m) (hx : ev e x = some (.pointer (some ⟨g,o,none⟩))) (hy : ev e y = some (.agg cs.toArray)) (hl : cs.length = m) (h1 : ∀ u ∈ cs,u.oneCell' = true) (ho : o + m ≤ l.length) :
   OpCh P e (.store T' x y) H (fun _ H' => Tw g H H' ∧ Bx H' g T (setAt l o cs)) := by
 intro ρ oo w hoo hev hw
 obtain ⟨v',w',h2,h3,h4,h5,h6⟩ := OpCh.storeAgg (P := P) hT hx hy hl h1 hb.rw ho ρ oo w hoo hev hw
 exact ⟨v',w',h2,h3,h4,h5,by rw [h6]; exact ⟨size_setl _ _ _ _,fun k hk => setl_other hk _ _ _⟩,by rw [h6]; exact Bx.setl cs hb o⟩
end
section
variable {n : Fs} {w0 : World} {Q : Exit → Act → World → Prop} {ops : Array Oper} {op : Op} {d : Nat} {ty : TypeId} {pos : String} {af : Array Edge} {rest : List Oper} {p : Value → Prop}
theorem LF.stepE (h : ∃ v,OpOk P e op H v ∧ p v) (K : ∀ v,p v → LF P n w0 ops Q ((d,v) :: e) rest H) (hd : Nat.blt d n.sz = true := by rfl) : LF P n w0 ops Q e (⟨some d,op,ty,pos,af,none⟩ :: rest) H := by
 obtain ⟨v,h1,h2⟩ := h; exact LF.step h1 (K v h2) hd
theorem LS.stepE {K : Act → World → Prop} (h : ∃ v,OpOk P e op H v ∧ p v) (k : ∀ v,p v → LS P n w0 ops K ((d,v) :: e) rest H) (hd : Nat.blt d n.sz = true := by rfl) : LS P n w0 ops K e (⟨some d,op,ty,pos,af,none⟩ :: rest) H := by
 obtain ⟨v,h1,h2⟩ := h; exact LS.step h1 (k v h2) hd
end
section
variable {n : Fs} {w0 : World} {Q : Exit → Act → World → Prop} {l : List Oper} {z : Bool} {S : Heap → Prop} {fuel d : Nat} {listed : Array Bool} {op : Op} {ty : TypeId} {pos : String} {af : Array Edge} {p : Value → Prop}
theorem OpOk.ldVS {α : Type} {r : Rp α} {F : PH} {a : α} {b o : Nat} {T : TypeId} {x : Operand} (hat : At F r b o a) (hT : One P T) (hS : r.sz = 1) (hx : ev e x = some (.pointer (some ⟨b,o,none⟩))) (hSF : ∀ H',S H' → InH F H') :
   ∃ v,(∀ H',S H' → OpOk P e (.load T x) H' v) ∧ r.rv F v a := by
 obtain ⟨f,h1,h2⟩ := hat
 refine ⟨f 0,fun H' h' => OpOk.load hT hx rfl ((hSF H' h').hc (h1 0 (by omega))),Rp.ext r (fun i hi => ?_) h2⟩
 rw [show i = 0 by omega]
theorem OpOk.ldAS {α : Type} {r : Rp α} {F : PH} {a : α} {b o : Nat} {T : TypeId} {x : Operand} (hat : At F r b o a) (hT : ∃ d,P.underlying T = some d ∧ (match d with | .struct _ | .array _ _ => true | _ => false) = true) (hS : Sz P T r.sz) (hx : ev e x = some (.pointer (some ⟨b,o,none⟩))) (hSF : ∀ H',S H' → InH F H') :
   ∃ v,(∀ H',S H' → OpOk P e (.load T x) H' v) ∧ r.ra F v a := by
 obtain ⟨f,h1,h2⟩ := hat
 refine ⟨.agg ((List.range r.sz).map f).toArray,fun H' h' => OpOk.loadAgg hT hS hx (by simp) (fun j u hj => ?_),(List.range r.sz).map f,rfl,by simp,Rp.ext r (fun i hi => by simp [hi]) h2⟩
 have hj' : j < r.sz := by have := (List.getElem?_eq_some_iff.1 hj).1; simpa using this
 have hu : f j = u := by simpa [hj'] using hj
 rw [← hu]; exact (hSF H' h').hc (h1 j hj')
end
theorem wrap_wrap (k : IntKind) (n : Int) : k.wrap (k.wrap n) = k.wrap n := by
 cases k <;> simp only [IntKind.wrap,IntKind.bits,IntKind.signed] <;> simp <;> omega
theorem At.wr {k : IntKind} {F : PH} {b o : Nat} {n : Int} (h : At F (rI k) b o n) : k.wrap n = n := by obtain ⟨f,_,h2⟩ := h; exact h2.2
theorem Rp.rv.one1 {α : Type} {r : Rp α} {F : PH} {v : Value} {a : α} (h : r.rv F v a) (hs : 0 < r.sz := by exact Nat.le_of_ble_eq_true rfl) : v.oneCell' = true := r.one h 0 hs
section
variable {α : Type} {r : Rp α} {F : PH} {v : Value} {l : List α}
theorem rL.hi {N : Nat} (h : (rLn N r).rv F v l) (hi : Nat) (h2 : hi ≤ l.length) (h3 : hi < 1073741824) : (rL r).rv F (JE.resl r.sz v 0 hi) (l.take hi) := by
 have := rL.resl (M := 1073741824) h (Nat.zero_le hi) h2 (by omega)
 simpa using this
theorem rL.lo {N : Nat} (h : (rLn N r).rv F v l) (lo : Nat) (h2 : lo ≤ l.length) (h3 : l.length - lo < 1073741824) : (rL r).rv F (JE.resl r.sz v lo l.length) (l.drop lo) := by
 have := rL.resl (M := 1073741824) h h2 (Nat.le_refl _) h3
 simpa using this
variable {T E : TypeId} {B : Nat} {x y ix' : Operand} {k : IntKind} {I : Int} {i : Nat}
theorem Gl.one1 (h : Gl r E F H B v l) : v.oneCell' = true := by
 obtain ⟨xs,h1,_⟩ := h
 obtain ⟨a,c,rfl⟩ := h1.len
 rfl
theorem OpOk.lenG (hT : P.underlying T = some (.slice E)) (hs : Gl r E F H B v l) (hx : ev e x = some v) : OpOk P e (.call { callee := .builtin .len,args := #[x],argTypes := #[T] }) H (.int .i64 (l.length : Nat)) := by
 obtain ⟨xs,h1,_⟩ := hs
 obtain ⟨a,c,rfl⟩ := h1.len
 exact OpOk.lenS hT hx
theorem OpOk.idxG (hT : P.underlying T = some (.slice E)) (hE : Sz P E r.sz) (hs : Gl r E F H B v l) (hx : ev e x = some v) (hi : ev e ix' = some (.int k I)) (hI : I = i) (h1 : i < l.length) (hsz : 0 < r.sz := by exact Nat.le_of_ble_eq_true rfl) :
   OpOk P e (.indexAddr T x ix') H (.pointer (some ⟨vblk v,voff v + i * r.sz,none⟩)) := by
 obtain ⟨f,hf⟩ := hs.sl
 subst hI
 have := OpOk.index hT hE hf hx hi (by omega) (by omega) hsz
 simpa [elAt] using this
theorem OpOk.min3 {m n : Int} {ts : Array TypeId} (hx : ev e x = some (.int k m)) (hy : ev e y = some (.int k n)) : OpOk P e (.call { callee := .builtin .min,args := #[x,y],argTypes := ts }) H (.int k (Min.min m n)) := by
 have := OpOk.min (P := P) (H := H) (ts := ts) hx hy
 have e1 : (if n < m then n else m) = Min.min m n := by omega
 rwa [e1] at this
theorem OpOk.max3 {m n : Int} {ts : Array TypeId} (hx : ev e x = some (.int k m)) (hy : ev e y = some (.int k n)) : OpOk P e (.call { callee := .builtin .max,args := #[x,y],argTypes := ts }) H (.int k (Max.max m n)) := by
 have := OpOk.max (P := P) (H := H) (ts := ts) hx hy
 have e1 : (if n > m then n else m) = Max.max m n := by omega
 rwa [e1] at this
end
section
variable {α : Type} [Inhabited α] {r : Rp α} {F : PH} {v : Value} {l : List α} {T E : TypeId} {B : Nat} {x y : Operand} {k : IntKind} {i : Nat}
theorem Gl.cell0 (h : Gl r E F H B v l) (hi : i < l.length) (hs : r.sz = 1) : ∃ u,hc H (vblk v) (voff v + i * 1) = some u ∧ r.rv F u (ix l i) := by
 obtain ⟨f,h1,h2⟩ := h.cell hi (j := 0) (by omega)
 rw [hs] at h2
 refine ⟨f 0,h2,?_⟩
 rw [ix_eq hi]
 exact r.ext (fun j hj => by rw [show j = 0 by omega]) h1
theorem OpOk.ldGV (h : Gl r E F H B v l) (hi : i < l.length) (hT : One P T) (hs : r.sz = 1) (hx : ev e x = some (.pointer (some ⟨vblk v,voff v + i * 1,none⟩))) : ∃ u,OpOk P e (.load T x) H u ∧ r.rv F u (ix l i) := by
 obtain ⟨u,h1,h2⟩ := h.cell0 hi hs
 exact ⟨u,OpOk.load hT hx rfl h1,h2⟩
theorem OpOk.ldGA (h : Gl r E F H B v l) (hi : i < l.length) (hT : ∃ d,P.underlying T = some d ∧ (match d with | .struct _ | .array _ _ => true | _ => false) = true) (hS : Sz P T r.sz) (hx : ev e x = some (.pointer (some ⟨vblk v,voff v + i * r.sz,none⟩))) :
   ∃ u,OpOk P e (.load T x) H u ∧ r.ra F u (ix l i) := by
 have hex : ∃ f,r.ok F l[i] f ∧ ∀ j,j < r.sz → hc H (vblk v) (voff v + (i * r.sz + j)) = some (f j) := by
   obtain ⟨xs,h1,h2,h3⟩ := h
   refine ⟨_,h3 i hi,fun j hj => ?_⟩
   have hb : i * r.sz + j < l.length * r.sz := by
     have : (i + 1) * r.sz ≤ l.length * r.sz := Nat.mul_le_mul_right _ hi
     rw [Nat.add_mul] at this; omega
   have h4 := (h1.sl (f := fun i => xs.getD i undef) (fun i hi => by simp [List.getD,show i < xs.length by rw [h1.1]; exact hi])).at hb
   simpa [elAt] using h4
 obtain ⟨f,h1,h2⟩ := hex
 refine ⟨.agg ((List.range r.sz).map f).toArray,OpOk.loadAgg hT hS hx (by simp) (fun j u hj => ?_),(List.range r.sz).map f,rfl,by simp,by rw [ix_eq hi]; exact Rp.ext r (fun i hi => by simp [hi]) h1⟩
 have hj' : j < r.sz := by have := (List.getElem?_eq_some_iff.1 hj).1; simpa using this
 have hu : f j = u := by simpa [hj'] using hj
 rw [← hu,Nat.add_assoc]; exact h2 j hj'
end
section
variable {F : PH} {v : Value} {T E : TypeId} {B : Nat} {x : Operand} {k : IntKind} {i : Nat}
theorem OpOk.ldGI {l : List Int} (h : Gl (rI k) E F H B v l) (hi : i < l.length) (hT : One P T) (hx : ev e x = some (.pointer (some ⟨vblk v,voff v + i * 1,none⟩))) : OpOk P e (.load T x) H (.int k (ix l i)) := by
 obtain ⟨u,h1,h2⟩ := h.cell0 hi rfl
 rw [show u = _ from h2.1] at h1
 exact OpOk.load hT hx rfl h1
theorem Gl.wr {l : List Int} (h : Gl (rI k) E F H B v l) (hi : i < l.length) : k.wrap (ix l i) = ix l i := by
 obtain ⟨u,h1,h2⟩ := h.cell0 hi rfl
 exact h2.2
theorem OpOk.ldGB {l : List Bool} (h : Gl rB E F H B v l) (hi : i < l.length) (hT : One P T) (hx : ev e x = some (.pointer (some ⟨vblk v,voff v + i * 1,none⟩))) : OpOk P e (.load T x) H (.bool (ix l i)) := by
 obtain ⟨u,h1,h2⟩ := h.cell0 hi rfl
 rw [show u = _ from h2] at h1
 exact OpOk.load hT hx rfl h1
end
section
variable {α : Type} {r : Rp α} {F : PH} {v : Value} {l : List α} {T E : TypeId} {B : Nat} {x y : Operand} {k : IntKind} {i n bytes : Nat} {z u : Value} {a : α}
theorem Gl.ofRow {g m : Nat} {cs : List Value} (hg : H[g]? = some (.cells cs.toArray E (0,0))) (hF : F g = none) (hB : B ≤ g) (hl : cs.length = l.length * r.sz) (hm : l.length = m) (hmax : m ≤ maxLen) (hok : ∀ i (hi : i < l.length),r.ok F l[i] (fun j => cs.getD (i * r.sz + j) undef)) :
   Gl r E F H B (.slice (some ⟨g,0,none⟩) m m) l := by
 subst hm
 exact ⟨cs,⟨hl,.inr ⟨g,_,cs.toArray,rfl,hB,hg,Nat.le_refl _,hmax,by simp [hl],by simp [← hl]⟩⟩,fun k hk => by simp [Value.ownBlock] at hk; subst hk; exact hF,hok⟩
def okAll (r : Rp α) (F : PH) : List α → List Value → Prop
 | [],[] => True
 | a :: l,v :: vs => r.rv F v a ∧ okAll r F l vs
 | _,_ => False
theorem okAll.len : ∀ {l : List α} {vs : List Value},okAll r F l vs → vs.length = l.length
 | [],[],_ => rfl
 | _ :: _,_ :: _,h => by simp [okAll.len h.2]
 | [],_ :: _,h => h.elim
 | _ :: _,[],h => h.elim
theorem okAll.get : ∀ {l : List α} {vs : List Value},okAll r F l vs → ∀ i (hi : i < l.length),r.rv F (vs.getD i undef) l[i]
 | a :: l,v :: vs,h,0,_ => h.1
 | a :: l,v :: vs,h,i + 1,hi => by simpa using okAll.get h.2 i (by simpa using hi)
 | [],_,_,_,hi => by simp at hi
theorem cells1 {u : Value} (h : u.oneCell' = true) : u.cells = [u].toArray := by cases u <;> first | rfl | cases h
theorem foldl_setAt : ∀ (c : List Value) (j off : Nat) (A : List Value),off + j + c.length ≤ A.length → (c.zipIdx j).foldl (fun cs p => cs.setIfInBounds (off + p.2) p.1) A.toArray = (A.take (off + j) ++ c ++ A.drop (off + j + c.length)).toArray
 | [],j,off,A,h => by simp
 | v :: c,j,off,A,h => by
   simp only [List.length_cons] at h
   rw [List.zipIdx_cons,List.foldl_cons]
   have e1 : A.toArray.setIfInBounds (off + j) v = (A.set (off + j) v).toArray := by simp
   rw [e1,foldl_setAt c (j + 1) off _ (by simp; omega)]
   congr 1
   rw [← Nat.add_assoc off j 1,List.take_succ_eq_append_getElem (by simp; omega),List.take_set_of_le (Nat.le_refl _),List.getElem_set_self,List.drop_set_of_lt (by omega)]
   simp only [List.length_cons]
   rw [show off + j + (c.length + 1) = off + j + 1 + c.length by omega]
   simp
def litOk (r : Rp α) (F : PH) : List α → List Value → List (List Value) → Prop
 | [],[],[] => True
 | a :: l,u :: us,c :: cs => u.cells = c.toArray ∧ c.length = r.sz ∧ r.ok F a (fun j => c.getD j undef) ∧ litOk r F l us cs
 | _,_,_ => False
theorem litOk.len : ∀ {l : List α} {us : List Value} {cs : List (List Value)},litOk r F l us cs → us.length = l.length ∧ cs.flatten.length = l.length * r.sz
 | [],[],[],_ => by simp
 | _ :: _,_ :: _,_ :: _,h => by
   have h1 := litOk.len h.2.2.2
   simp only [List.length_cons,List.flatten_cons,List.length_append,h.2.1,h1,Nat.add_mul]
   exact ⟨trivial,by omega⟩
 | [],_ :: _,_,h => h.elim
 | [],[],_ :: _,h => h.elim
 | _ :: _,[],_,h => h.elim
 | _ :: _,_ :: _,[],h => h.elim
theorem litOk.get : ∀ {l : List α} {us : List Value} {cs : List (List Value)},litOk r F l us cs → ∀ i (hi : i < l.length),r.ok F l[i] (fun j => cs.flatten.getD (i * r.sz + j) undef)
 | a :: l,u :: us,c :: cs,h,0,_ => by
   refine r.ext (fun j hj => ?_) h.2.2.1
   simp only [Nat.zero_mul,Nat.zero_add,List.flatten_cons,List.getD]
   rw [List.getElem?_append_left (by rw [h.2.1]; exact hj)]
 | a :: l,u :: us,c :: cs,h,i + 1,hi => by
   have h1 := litOk.get h.2.2.2 i (by simpa using hi)
   simp only [List.getElem_cons_succ]
   refine r.ext (fun j hj => ?_) h1
   simp only [List.flatten_cons,List.getD]
   rw [List.getElem?_append_right (by rw [h.2.1,Nat.add_mul]; omega),h.2.1,show (i + 1) * r.sz + j - r.sz = i * r.sz + j by rw [Nat.add_mul]; omega]
 | [],[],[],_,_,hi => by simp at hi
theorem fill_lit : ∀ {l : List α} {us : List Value} {cs : List (List Value)},litOk r F l us cs → ∀ (k : Nat) (A : List Value),A.length = (k + l.length) * r.sz →
   Instr.fill (fun i => some (i * r.sz,r.sz)) A.toArray ((us.zipIdx k).map fun p => (p.2,p.1)) = some (A.take (k * r.sz) ++ cs.flatten).toArray
 | [],[],[],_,k,A,hA => by
   simp only [List.length_nil,Nat.add_zero] at hA
   simp only [List.zipIdx_nil,List.map_nil,Instr.fill,List.flatten_nil,List.append_nil]
   rw [List.take_of_length_le (by omega)]
 | a :: l,u :: us,c :: cs,h,k,A,hA => by
   obtain ⟨h1,h2,h3,h4⟩ := h
   simp only [List.length_cons] at hA
   have hA2 : A.length = k * r.sz + r.sz + l.length * r.sz := by rw [hA,Nat.add_mul,Nat.add_mul]; omega
   simp only [List.zipIdx_cons,List.map_cons,Instr.fill]
   rw [if_neg (by rw [h1]; simp [h2]; omega),h1]
   have h5 : c.toArray.zipIdx = (c.zipIdx 0).toArray := by simp
   rw [h5,← Array.foldl_toList]
   have h6 := foldl_setAt c 0 (k * r.sz) A (by omega)
   simp only [Nat.add_zero] at h6
   rw [h6,fill_lit h4 (k + 1) _ (by simp only [List.length_append,List.length_take,List.length_drop,h2]; rw [Nat.add_mul,Nat.add_mul]; omega)]
   congr 2
   have h7 : (k + 1) * r.sz = k * r.sz + r.sz := by rw [Nat.add_mul]; omega
   have h8 : (A.take (k * r.sz)).length = k * r.sz := by simp; omega
   rw [h7,List.append_assoc,List.take_append,h8,List.take_take,List.take_append,h2]
   simp only [Nat.add_sub_cancel_left,List.flatten_cons]
   rw [Nat.min_eq_right (by omega),Nat.sub_self]
   simp [← h2]
 | [],_ :: _,_,h,_,_,_ => h.elim
 | [],[],_ :: _,h,_,_,_ => h.elim
 | _ :: _,[],_,h,_,_,_ => h.elim
 | _ :: _,_ :: _,[],h,_,_,_ => h.elim
theorem OpCh.litL {m : Nat} {ys : List (Nat × Operand)} {us : List Value} {cs : List (List Value)} (hT : P.underlying T = some (.slice E)) (hE : (P.info? E).map (fun i => (i.zero,i.size,i.bytes)) = some (some z,r.sz,bytes)) (hm : m ≤ 1000 ∧ 0 < r.sz ∧ r.sz ≤ 1000) (_ : z.cells.size = r.sz) (hr : evs e ys = some ((us.zipIdx 0).map fun p => (p.2,p.1)))
   (hlm : l.length = m) (hok : litOk r F l us cs) :
   OpCh P e (.buildSlice T m ys.toArray) H (fun u H' => ∃ g,u = .slice (some ⟨g,0,none⟩) m m ∧ g = H.size ∧ H'.size = H.size + 1 ∧ Kp H.size H H' ∧ (InH F H → Gl r E F H' H.size (.slice (some ⟨g,0,none⟩) m m) l)) := by
 subst hlm
 obtain ⟨i,hi,hz0,hz1,hz2⟩ := info_parts hE
 have hb : ∀ w : World,(Instr.buildSlice T l.length ((us.zipIdx 0).map fun p => (p.2,p.1)).toArray).run P w = .ok (.slice (some ⟨w.heap.size,0,none⟩) l.length l.length) (w.alloc (.cells cs.flatten.toArray E)) := by
   intro w
   have hsz : (sizeOf E).run P w = .ok r.sz w := by simp [sizeOf,typeInfo,hi,hz1]
   have hzv : (zeroValue E).run P w = .ok z w := by simp [zeroValue,typeInfo,hi,hz0]
   have hle : l.length * r.sz ≤ 1000 * 1000 := Nat.mul_le_mul hm.1 hm.2.2
   simp only [Instr.buildSlice,Sem.run_bind,run_underlying hT,Result.andThen_ok,hsz]
   rw [if_neg (by omega)]
   have hfill : ∀ A : Array Value,A.size = l.length * r.sz → Instr.fill (fun i => some (i * r.sz,r.sz)) A ((us.zipIdx 0).map fun p => (p.2,p.1)) = some cs.flatten.toArray := by
     intro A hA
     have := fill_lit hok 0 A.toList (by simpa using hA)
     simpa using this
   by_cases h0 : l.length * r.sz = 0
   · rw [if_pos h0]
     simp only [Sem.run_bind,Sem.run_pure,Result.andThen_ok]
     rw [hfill _ (by simp)]
     simp [newRow]
   · rw [if_neg h0]
     simp only [Sem.run_bind,hzv,Result.andThen_ok,Sem.run_pure]
     rw [hfill _ (by simp)]
     simp [newRow]
 intro ρ o w ho hev hw
 obtain ⟨v',w',h1,h2,h3,h4,rfl,h6⟩ := OpCh.buildSlice (P := P) (E := E) hr hb ρ o w ho hev hw
 refine ⟨_,w',h1,h2,h3,h4,H.size,rfl,rfl,by rw [h6]; simp,by rw [h6]; exact (Kp.refl _ _).push (Nat.le_refl _) _,fun hin => ?_⟩
 exact Gl.ofRow (cs := cs.flatten) (by rw [h6]; exact push_new) (hin.nope (Nat.le_refl _)) (Nat.le_refl _) hok.len.2 rfl (by unfold maxLen; omega) hok.get
theorem OpCh.appL {w2 : Value} {m : List α} (hT : P.underlying T = some (.slice E)) (hE : (P.info? E).map (fun i => (i.zero,i.size,i.bytes)) = some (some z,r.sz,bytes)) (hs : 0 < r.sz ∧ r.sz ≤ 1000 ∧ bytes ≤ 8192) (hz : z.cells.size = r.sz)
   (hx : ev e x = some v) (hy : ev e y = some w2) (hown : Gl r E F H B v l) {N : Nat} (hm : (rLn N r).rv F w2 m) (hin : InH F H) (hb : l.length + m.length < 4294967296) (hB : B ≤ H.size) :
   OpCh P e (.call { callee := .builtin .append,args := #[x,y],argTypes := #[T,T] }) H (fun v' H' => Gl r E F H' B v' (l ++ m) ∧ GrownBy H H' v.ownBlock ∧ (v'.ownBlock = v.ownBlock ∨ v'.ownBlock = some H.size)) := by
 obtain ⟨xs,o1,o2,o3⟩ := hown
 have hbytes : (l.length + m.length) * bytes ≤ 140737488355328 := by
   have : (l.length + m.length) * bytes ≤ 4294967296 * 8192 := Nat.mul_le_mul (by omega) hs.2.2
   omega
 obtain ⟨h0,a,cap,rfl,h2,h3,g,h4,h5⟩ := hm
 by_cases hm0 : m = []
 · subst hm0
   intro ρ o w ho hev hw
   obtain ⟨i,hi,hz0,hz1,hz2⟩ := info_parts hE
   obtain ⟨va,vc,rfl⟩ := o1.len
   have hlc : l.length ≤ vc := by
     rcases o1.2 with ⟨e1,e2⟩ | ⟨_,_,_,e1,_,_,e2,_⟩
     · injection e1; omega
     · injection e1 with _ _ e3; omega
   have hsz : (sizeOf E).run P w = .ok r.sz w := by simp [sizeOf,typeInfo,hi,hz1]
   have hrun : (Builtin.append_ #[T,T] o.type #[.slice va l.length vc,.slice a 0 cap]).run P w = .ok (.slice va l.length vc) w := by
     cases a <;> cases va <;> simp [Builtin.append_,run_underlying hT,hsz,Builtin.lenOf,Builtin.firstCells,loadCells,loadCellsFrom,storeCells,hlc]
   refine ⟨.slice va l.length vc,w,.inl ?_,rfl,rfl,rfl,by rw [hw,List.append_nil]; exact ⟨xs,o1,o2,o3⟩,by rw [hw]; exact ⟨Nat.le_refl _,fun _ _ _ => rfl⟩,.inl rfl⟩
   simp only [List.length_nil] at hy
   simp [execOp,ho,hev _ _ hx,hev _ _ hy,resolve,invoke,builtin,hrun]
 · have hpos : 0 < m.length := List.length_pos_iff.2 hm0
   obtain ⟨b,oo,rfl⟩ := h3 0 (Nat.mul_pos hpos hs.1)
   have hn : ∀ j u,((List.range (m.length * r.sz)).map g)[j]? = some u → hc H b (oo + j) = some u := by
     intro j u hj
     have hj' : j < m.length * r.sz := by have := (List.getElem?_eq_some_iff.1 hj).1; simpa using this
     have hu : g j = u := by simpa [hj'] using hj
     have h6 := hin.hc (h4 j hj')
     rw [← hu]; exact h6
   have h1c : ∀ u ∈ (List.range (m.length * r.sz)).map g,u.oneCell' = true := by
     intro u hu
     obtain ⟨j,hj,rfl⟩ := List.mem_map.1 hu
     have hj' : j < m.length * r.sz := by simpa using hj
     have hq : j / r.sz < m.length := Nat.div_lt_of_lt_mul (by rw [Nat.mul_comm]; exact hj')
     have := r.one (h5 _ hq) (j % r.sz) (Nat.mod_lt _ hs.1)
     rwa [Nat.div_add_mod'] at this
   intro ρ o w ho hev hw
   obtain ⟨v',w',g1,g2,g3,g4,k1,k2,k3,k4⟩ := OpCh.append (P := P) (n := l.length) (m := m.length) (c := cap) (xs := xs) (news := (List.range (m.length * r.sz)).map g) hT hE hz hs.1 hx o1 hy (by simp) hn h1c hbytes (by omega) hB ρ o w ho hev hw
   refine ⟨v',w',g1,g2,g3,g4,⟨xs ++ (List.range (m.length * r.sz)).map g,by rw [List.length_append]; exact k1,fun k hk => ?_,fun i hi => ?_⟩,k2,k4⟩
   · rcases k4 with k4 | k4
     · exact o2 k (by rw [← k4]; exact hk)
     · rw [k4] at hk; injection hk with hk; subst hk; exact hin.nope (Nat.le_refl _)
   · by_cases hl : i < l.length
     · rw [List.getElem_append_left hl]
       refine r.ext (fun j hj => ?_) (o3 i hl)
       have hb : i * r.sz + j < xs.length := by
         have : (i + 1) * r.sz ≤ l.length * r.sz := Nat.mul_le_mul_right _ hl
         rw [Nat.add_mul] at this; rw [o1.1]; omega
       simp [List.getD,List.getElem?_append_left hb]
     · rw [List.getElem_append_right (by omega)]
       have hi2 : i - l.length < m.length := by simp at hi; omega
       refine r.ext (fun j hj => ?_) (h5 _ hi2)
       have hb : (i - l.length) * r.sz + j < m.length * r.sz := by
         have : (i - l.length + 1) * r.sz ≤ m.length * r.sz := Nat.mul_le_mul_right _ hi2
         rw [Nat.add_mul] at this; omega
       have he : i * r.sz + j = xs.length + ((i - l.length) * r.sz + j) := by
         rw [o1.1,← Nat.add_assoc,← Nat.add_mul]; congr 2; omega
       rw [he]
       simp [List.getD,hb]
theorem OpCh.makeL {a : α} (hT : P.underlying T = some (.slice E)) (hE : (P.info? E).map (fun i => (i.zero,i.size,i.bytes)) = some (some z,1,bytes)) (hz : z.cells = #[z]) {I J : Int}
   (hx : ev e x = some (.int .i64 I)) (hy : ev e y = some (.int .i64 J)) (hI : I = n) (hJ : J = n) (h1 : bytes * n ≤ 281474976710656) (h2 : n ≤ 140737488355328) (hok : r.rv F z a) (hs : r.sz = 1 := by rfl) :
   OpCh P e (.makeSlice T x y) H (fun u H' => ∃ g,u = .slice (some ⟨g,0,none⟩) n n ∧ g = H.size ∧ H'.size = H.size + 1 ∧ Kp H.size H H' ∧ (InH F H → Gl r E F H' H.size (.slice (some ⟨g,0,none⟩) n n) (List.replicate n a))) := by
 subst hI; subst hJ
 intro ρ o w ho hev hw
 obtain ⟨v',w',g1,g2,g3,g4,rfl,g6,g7,c,g8,g9,g10⟩ := OpCh.make (P := P) hT hE hz hx hy h1 (by omega) ρ o w ho hev hw
 refine ⟨_,w',g1,g2,g3,g4,H.size,rfl,rfl,g6,⟨by omega,g7⟩,fun hin => ?_⟩
 have hc9 : c = (List.replicate n z).toArray := by
   apply Array.ext
   · simp [g9]
   · intro i h3 h4
     have h5 := g10 i (by omega)
     rw [Array.getElem?_eq_getElem h3] at h5
     simpa using h5
 subst hc9
 refine Gl.ofRow (cs := List.replicate n z) g8 (hin.nope (Nat.le_refl _)) (Nat.le_refl _) (by rw [hs]; simp) (by simp) (by unfold maxLen; omega) (fun i hi => ?_)
 rw [hs,Nat.mul_one]
 simp only [List.length_replicate] at hi
 simp only [List.getElem_replicate]
 exact r.ext (fun j hj => by rw [show j = 0 by omega]; simp [List.getD,hi]) hok
theorem OpCh.storeG (h : Gl r E F H B v l) (hs : r.sz = 1) (hT : Sz P T 1) (hx : ev e x = some (.pointer (some ⟨vblk v,voff v + i * 1,none⟩))) (hy : ev e y = some u) (h1 : u.oneCell' = true) (hi : i < l.length) (hok : r.rv F u a) :
   OpCh P e (.store T x y) H (fun _ H' => ∃ g,v.ownBlock = some g ∧ Tw g H H' ∧ Gl r E F H' B v (l.set i a)) := by
 obtain ⟨g,c,rfl,hBg,hlt,hF⟩ := h.own (by omega)
 obtain ⟨xs,g1,g2,g3⟩ := h
 rcases g1.2 with ⟨h9,_⟩ | ⟨g',cap,cur,h9,hb,hg,hc1,hc2,hc3,hc4⟩
 · cases h9
 · injection h9 with e1 e2 e3
   injection e1 with e1
   injection e1 with e1 _ _
   subst e1
   intro ρ o w ho hev hw
   have hrow : Rw H g E cur.size (fun j => cur.getD j undef) := ⟨cur,hg,rfl,fun j hj => by simp [Array.getD,hj]⟩
   have hi' : i < cur.size := by
     rw [hc3,hs,Nat.mul_one]; omega
   have hx' : ev e x = some (.pointer (some ⟨g,i,none⟩)) := by rw [hx]; simp [vblk,voff]
   obtain ⟨v',w',k1,k2,k3,k4,k5⟩ := OpCh.store (P := P) hT hx' hy h1 hrow hi' ρ o w ho hev hw
   refine ⟨v',w',k1,k2,k3,k4,g,rfl,by rw [k5]; exact ⟨size_setc,fun k hk => setc_other hk⟩,xs.set i u,?_,g2,fun j hj => ?_⟩
   · rw [k5,List.length_set]
     exact Gr.set g1 (i := i) (u := u) rfl
   · rw [List.length_set] at hj
     rw [hs,Nat.mul_one]
     have h3 := g3 j hj
     rw [hs,Nat.mul_one] at h3
     have hxl : xs.length = l.length := by rw [g1.1,hs,Nat.mul_one]
     by_cases e4 : j = i
     · subst e4
       rw [List.getElem_set_self]
       exact r.ext (fun q hq => by rw [show q = 0 by omega]; simp [List.getD,List.getElem?_set_self (show j < xs.length by rw [hxl]; exact hi)]) hok
     · rw [List.getElem_set_ne (Ne.symm e4)]
       exact r.ext (fun q hq => by rw [show q = 0 by omega]; simp [List.getD,Ne.symm e4]) h3
section
variable {n' : Fs} {w0 : World} {Q : Exit → Act → World → Prop} {ops : Array Oper} {d1 d2 : Nat} {ty ty2 : TypeId} {pos pos2 : String} {af af2 : Array Edge} {rest : List Oper}
theorem Gl.snoc {H' : Heap} {v' : Value} {cs : List Value} {xs : List Value} (hg : Gr H' B E r.sz v' (l.length + 1) (xs ++ cs)) (hxl : xs.length = l.length * r.sz) (hF : ∀ k,v'.ownBlock = some k → F k = none) (h3 : ∀ i (hi : i < l.length),r.ok F l[i] (fun j => xs.getD (i * r.sz + j) undef))
   (_ : cs.length = r.sz) (hok : r.ok F a (fun j => cs.getD j undef)) : Gl r E F H' B v' (l ++ [a]) := by
 refine ⟨xs ++ cs,by rw [List.length_append]; exact hg,hF,fun i hi => ?_⟩
 by_cases h1 : i < l.length
 · rw [List.getElem_append_left h1]
   refine r.ext (fun j hj => ?_) (h3 i h1)
   have hb : i * r.sz + j < xs.length := by
     have : (i + 1) * r.sz ≤ l.length * r.sz := Nat.mul_le_mul_right _ h1
     rw [Nat.add_mul] at this; omega
   simp [List.getD,List.getElem?_append_left hb]
 · have h2 : i = l.length := by simp at hi; omega
   subst h2
   rw [List.getElem_append_right (Nat.le_refl _)]
   simp only [Nat.sub_self,List.getElem_cons_zero]
   refine r.ext (fun j hj => ?_) hok
   rw [← hxl]
   simp [List.getD,List.getElem?_append_right (Nat.le_add_right _ _)]
theorem LF.appA {lc : List Value} (hT : P.underlying T = some (.slice E)) (hE : (P.info? E).map (fun i => (i.zero,i.size,i.bytes)) = some (some z,r.sz,bytes)) (hs : 0 < r.sz ∧ r.sz ≤ 1000 ∧ bytes ≤ 8192) (hz : z.cells.size = r.sz)
   (hy : ev e y = some (.agg lc.toArray)) (hra : r.ra F (.agg lc.toArray) a) (hown : Gl r E F H B v l) (hin : InH F H) (hb : l.length < 4294967295) (hx : ev ((d1,.slice (some ⟨H.size,0,none⟩) 1 1) :: e) x = some v)
   (K : ∀ v' H',Gl r E F H' B v' (l ++ [a]) → GrownBy H H' v.ownBlock → v' ≠ .slice none 0 0 → (v'.ownBlock = v.ownBlock ∨ ∃ g,v'.ownBlock = some g ∧ H.size ≤ g) → LF P n' w0 ops Q ((d2,v') :: (d1,.slice (some ⟨H.size,0,none⟩) 1 1) :: e) rest H')
   (hB : B ≤ H.size) (hd1 : Nat.blt d1 n'.sz = true := by rfl) (hd2 : Nat.blt d2 n'.sz = true := by rfl) :
   LF P n' w0 ops Q e (⟨some d1,.buildSlice T 1 #[(0,y)],ty,pos,af,none⟩ :: ⟨some d2,.call { callee := .builtin .append,args := #[x,.tmp d1],argTypes := #[T,T] },ty2,pos2,af2,none⟩ :: rest) H := by
 obtain ⟨xs,h1,h2,h3⟩ := hown
 obtain ⟨lc',e1,e2,e3⟩ := hra
 injection e1 with e1
 have e1' : lc = lc' := by simpa using e1
 subst e1'
 refine LF.app (n := l.length) (xs := xs) (l := lc) hT hE hz hs.1 hs.2.1 hy rfl e2 (fun u hu => ?_) hx h1 ?_ (by omega) hB (fun v' H' g1 g2 g3 g4 => K v' H' ?_ g2 g3 g4) hd1 hd2
 · obtain ⟨j,hj,rfl⟩ := List.mem_iff_getElem.1 hu
   have := r.one e3 j (by omega)
   simpa [List.getD,hj] using this
 · have : (l.length + 1) * bytes ≤ 4294967296 * 8192 := Nat.mul_le_mul (by omega) hs.2.2
   omega
 · refine Gl.snoc g1 h1.1 (fun k hk => ?_) h3 e2 e3
   rcases g4 with g4 | ⟨g,g4,g5⟩
   · exact h2 k (by rw [← g4]; exact hk)
   · rw [g4] at hk; injection hk with hk; subst hk; exact hin.nope g5
theorem LF.appV (hT : P.underlying T = some (.slice E)) (hE : (P.info? E).map (fun i => (i.zero,i.size,i.bytes)) = some (some z,r.sz,bytes)) (hs : 0 < r.sz ∧ r.sz ≤ 1000 ∧ bytes ≤ 8192) (hz : z.cells.size = r.sz) (hs1 : r.sz = 1)
   (hy : ev e y = some u) (hra : r.rv F u a) (hown : Gl r E F H B v l) (hin : InH F H) (hb : l.length < 4294967295) (hx : ev ((d1,.slice (some ⟨H.size,0,none⟩) 1 1) :: e) x = some v)
   (K : ∀ v' H',Gl r E F H' B v' (l ++ [a]) → GrownBy H H' v.ownBlock → v' ≠ .slice none 0 0 → (v'.ownBlock = v.ownBlock ∨ ∃ g,v'.ownBlock = some g ∧ H.size ≤ g) → LF P n' w0 ops Q ((d2,v') :: (d1,.slice (some ⟨H.size,0,none⟩) 1 1) :: e) rest H')
   (hB : B ≤ H.size) (hd1 : Nat.blt d1 n'.sz = true := by rfl) (hd2 : Nat.blt d2 n'.sz = true := by rfl) :
   LF P n' w0 ops Q e (⟨some d1,.buildSlice T 1 #[(0,y)],ty,pos,af,none⟩ :: ⟨some d2,.call { callee := .builtin .append,args := #[x,.tmp d1],argTypes := #[T,T] },ty2,pos2,af2,none⟩ :: rest) H := by
 obtain ⟨xs,h1,h2,h3⟩ := hown
 have ho := hra.one1 (by omega)
 refine LF.app (n := l.length) (xs := xs) (l := [u]) hT hE hz hs.1 hs.2.1 hy ?_ (by simp [hs1]) (fun w hw => ?_) hx h1 ?_ (by omega) hB (fun v' H' g1 g2 g3 g4 => K v' H' ?_ g2 g3 g4) hd1 hd2
 · cases u <;> first | rfl | cases ho
 · simp only [List.mem_singleton] at hw; subst hw; exact ho
 · have : (l.length + 1) * bytes ≤ 4294967296 * 8192 := Nat.mul_le_mul (by omega) hs.2.2
   omega
 · refine Gl.snoc g1 h1.1 (fun k hk => ?_) h3 (by simp [hs1]) (r.ext (fun j hj => by rw [show j = 0 by omega]; rfl) hra)
   rcases g4 with g4 | ⟨g,g4,g5⟩
   · exact h2 k (by rw [← g4]; exact hk)
   · rw [g4] at hk; injection hk with hk; subst hk; exact hin.nope g5
end
end
def allOne : List Value → Prop
 | [] => True
 | v :: r => v.oneCell' = true ∧ allOne r
theorem allOne.mem : ∀ {l : List Value},allOne l → ∀ u ∈ l,u.oneCell' = true
 | [],_,u,hu => by cases hu
 | v :: r,h,u,hu => by
   rcases List.mem_cons.1 hu with rfl | hu
   · exact h.1
   · exact allOne.mem h.2 u hu
theorem ra_ok {α : Type} {r : Rp α} {F : PH} {l : List Value} {a : α} (h : r.ra F (.agg l.toArray) a) : r.ok F a (fun j => l.getD j undef) := by
 obtain ⟨m,h1,_,h3⟩ := h
 injection h1 with h1
 have e1 : l = m := by simpa using h1
 subst e1; exact h3
theorem Gl.frozen {α : Type} {r : Rp α} {E : TypeId} {F G : PH} {H : Heap} {B : Nat} {v v' : Value} {l : List α} (h : Gl r E F H B v l) (hl : F.le G) (hG : ∀ k,v'.ownBlock ≠ some k → G k = F k) (hne : ∀ k,v.ownBlock = some k → v'.ownBlock ≠ some k) : Gl r E G H B v l := by
 obtain ⟨xs,h1,h2,h3⟩ := h
 exact ⟨xs,h1,fun k hk => (hG k (hne k hk)).trans (h2 k hk),fun i hi => r.up hl (h3 i hi)⟩
def Kw (W : Nat → Prop) (H H' : Heap) : Prop := H.size ≤ H'.size ∧ ∀ k,k < H.size → ¬ W k → H'[k]? = H[k]?
theorem Kw.refl (W : Nat → Prop) (H : Heap) : Kw W H H := ⟨Nat.le_refl _,fun _ _ _ => rfl⟩
theorem Kw.trans {W : Nat → Prop} {H H1 H2 : Heap} (h : Kw W H H1) (h' : Kp H.size H1 H2) : Kw W H H2 := ⟨Nat.le_trans h.1 h'.1,fun k hk hw => (h'.2 k hk).trans (h.2 k hk hw)⟩
theorem Kw.kw {W W' : Nat → Prop} {H H1 H2 : Heap} (h : Kw W H H1) (h' : Kw W' H1 H2) (hw : ∀ k,k < H.size → W' k → W k) : Kw W H H2 :=
 ⟨Nat.le_trans h.1 h'.1,fun k hk hn => (h'.2 k (by have := h.1; omega) (fun h9 => hn (hw k hk h9))).trans (h.2 k hk hn)⟩
theorem Kp.kw {W' : Nat → Prop} {H H1 H2 : Heap} (h : Kp H.size H H1) (h' : Kw W' H1 H2) (hw : ∀ k,W' k → H.size ≤ k) : Kp H.size H H2 :=
 ⟨Nat.le_trans h.1 h'.1,fun k hk => (h'.2 k (by have := h.1; omega) (fun h9 => by have := hw k h9; omega)).trans (h.2 k hk)⟩
def own1 (v : Value) (k : Nat) : Prop := v.ownBlock = some k
theorem InH.kw {W : Nat → Prop} {F : PH} {H H' : Heap} (h : InH F H) (hk : Kw W H H') (hw : ∀ k,W k → F k = none) : InH F H' := h.of fun k o h1 => hk.2 k (h.lt h1) (fun h9 => by rw [hw k h9] at h1; cases h1)
theorem Bx.kw {W : Nat → Prop} {g : Nat} {T : TypeId} {l : List Value} {H H' : Heap} (h : Bx H g T l) (hk : Kw W H H') (hw : ¬ W g) : Bx H' g T l := h.of (hk.2 g h.lt hw)
theorem Gl.kw {α : Type} {r : Rp α} {E : TypeId} {F : PH} {B : Nat} {v : Value} {xs : List α} {W : Nat → Prop} {H H' : Heap} (h : Gl r E F H B v xs) (hk : Kw W H H') (hw : ∀ k,v.ownBlock = some k → ¬ W k) : Gl r E F H' B v xs := h.of fun k e1 => hk.2 k (h.blk k e1).2 (hw k e1)
theorem Gl.temp {P : Program} {α : Type} {r : Rp α} {E : TypeId} {F : PH} {H : Heap} {B : Nat} {v : Value} {l : List α} {f : FuncId} {args : Array Value} {R : Value → Heap → Prop} (N : Nat) (h : Gl r E F H B v l) (hin : InH F H) (hM : l.length < N)
   (k : ∀ G,F.le G → InH G H → (rLn N r).rv G v l → Ct P f args H R) : Ct P f args H R := by
 obtain ⟨G,h1,h2,_,_,h3⟩ := h.freeze (N := N) hin hM
 exact k G h1 h2 h3
theorem ob_some {v v' : Value} {n : Nat} (h : v'.ownBlock = v.ownBlock ∨ v'.ownBlock = some n) : v'.ownBlock = v.ownBlock ∨ ∃ g,v'.ownBlock = some g ∧ n ≤ g := by
 rcases h with h | h
 · exact .inl h
 · exact .inr ⟨n,h,Nat.le_refl _⟩
theorem Gl.lt {α : Type} {r : Rp α} {E : TypeId} {F : PH} {H : Heap} {B : Nat} {v : Value} {l : List α} (h : Gl r E F H B v l) : ∀ k,v.ownBlock = some k → k < H.size := fun k hk => (h.blk k hk).2
theorem Gl.ge {α : Type} {r : Rp α} {E : TypeId} {F : PH} {H : Heap} {B : Nat} {v : Value} {l : List α} (h : Gl r E F H B v l) : ∀ k,v.ownBlock = some k → B ≤ k := fun k hk => (h.blk k hk).1
theorem Gl.down {α : Type} {r : Rp α} {E : TypeId} {F G : PH} {H : Heap} {B : Nat} {v : Value} {l : List α} (h : Gl r E G H B v l) (hf : ∀ (F G : PH) a f,r.ok F a f → r.ok G a f) (hl : F.le G) : Gl r E F H B v l := by
 obtain ⟨xs,h1,h2,h3⟩ := h
 refine ⟨xs,h1,fun k hk => ?_,fun i hi => hf _ _ _ _ (h3 i hi)⟩
 cases h4 : F k with
 | none => rfl
 | some o => have := hl k o h4; rw [h2 k hk] at this; cases this
def Lnk (n : Nat) (v v' : Value) : Prop := ∀ k,v'.ownBlock = some k → v.ownBlock = some k ∨ n ≤ k
theorem Lnk.ge {v v' : Value} {n m : Nat} {W : Nat → Prop} (h : Lnk m v v') (hv : ∀ k,v.ownBlock = some k → n ≤ k ∨ W k) (hm : n ≤ m) : ∀ k,v'.ownBlock = some k → n ≤ k ∨ W k := by
 intro k hk
 rcases h k hk with h1 | h1
 · exact hv k h1
 · exact .inl (by omega)
theorem Lnk.ap {v v' u : Value} {n : Nat} (l : Lnk n v v') (h : ∀ k,v.ownBlock = some k → u.ownBlock ≠ some k) (hu : ∀ k,u.ownBlock = some k → k < n) : ∀ k,v'.ownBlock = some k → u.ownBlock ≠ some k := by
 intro k hk he
 rcases l k hk with h1 | h1
 · exact h k h1 he
 · have := hu k he; omega
end Go.JE
namespace Go.JE
variable {P : Program} {e : Env} {H : Heap}
def shlI (k : IntKind) (x n : Int) : Int := k.wrap (x * 2 ^ (min n.toNat k.bits))
def shrI (k : IntKind) (x n : Int) : Int := x.fdiv (2 ^ (min n.toNat k.bits))
def andI (k : IntKind) (x y : Int) : Int := k.wrap ((BitVec.ofInt k.bits x &&& BitVec.ofInt k.bits y).toNat : Nat)
def orI (k : IntKind) (x y : Int) : Int := k.wrap ((BitVec.ofInt k.bits x ||| BitVec.ofInt k.bits y).toNat : Nat)
def xorI (k : IntKind) (x y : Int) : Int := k.wrap ((BitVec.ofInt k.bits x ^^^ BitVec.ofInt k.bits y).toNat : Nat)
section
variable {T T' : TypeId} {x y : Operand} {k k' : IntKind} {m n r : Int}
theorem OpOk.andw (hx : ev e x = some (.int k m)) (hy : ev e y = some (.int k n)) : OpOk P e (.binOp .and T x y T') H (.int k (andI k m n)) :=
 binInt hx hy (by simp only [binOp,ne_eq,not_true_eq_false,if_false,Op.intBits]; rfl) (fun _ => rfl)
theorem OpOk.orw (hx : ev e x = some (.int k m)) (hy : ev e y = some (.int k n)) : OpOk P e (.binOp .or T x y T') H (.int k (orI k m n)) :=
 binInt hx hy (by simp only [binOp,ne_eq,not_true_eq_false,if_false,Op.intBits]; rfl) (fun _ => rfl)
theorem OpOk.xorw (hx : ev e x = some (.int k m)) (hy : ev e y = some (.int k n)) : OpOk P e (.binOp .xor T x y T') H (.int k (xorI k m n)) :=
 binInt hx hy (by simp only [binOp,ne_eq,not_true_eq_false,if_false,Op.intBits]; rfl) (fun _ => rfl)
theorem OpOk.shlw (hx : ev e x = some (.int k m)) (hy : ev e y = some (.int k' n)) (h0 : 0 ≤ n) : OpOk P e (.binOp .shl T x y T') H (.int k (shlI k m n)) := by
 intro ρ o w ho hev _
 have hn : ¬ n < 0 := by omega
 have hq : (eqGuard .shl T x y (.int k m) (.int k' n)) = pure () := by unfold eqGuard; split <;> rfl
 have hs : (binOp .shl T (.int k m) (.int k' n)).run P w = .ok (.int k (shlI k m n)) w := by simp only [binOp,Op.shift,if_neg hn]; rfl
 simp only [execOp,ho,hev _ _ hx,hev _ _ hy,hq]
 rw [run_bind_ok (a := .int k (shlI k m n)) (w' := w)]
 · rfl
 · rw [run_bind_ok (a := ()) (w' := w) rfl]; exact hs
theorem OpOk.shrw (hx : ev e x = some (.int k m)) (hy : ev e y = some (.int k' n)) (h0 : 0 ≤ n) : OpOk P e (.binOp .shr T x y T') H (.int k (shrI k m n)) := by
 intro ρ o w ho hev _
 have hn : ¬ n < 0 := by omega
 have hq : (eqGuard .shr T x y (.int k m) (.int k' n)) = pure () := by unfold eqGuard; split <;> rfl
 have hs : (binOp .shr T (.int k m) (.int k' n)).run P w = .ok (.int k (shrI k m n)) w := by simp only [binOp,Op.shift,if_neg hn]; rfl
 simp only [execOp,ho,hev _ _ hx,hev _ _ hy,hq]
 rw [run_bind_ok (a := .int k (shrI k m n)) (w' := w)]
 · rfl
 · rw [run_bind_ok (a := ()) (w' := w) rfl]; exact hs
theorem OpOk.convI {S D : TypeId} {d} (hs : P.underlying S = some d) (hd : P.underlying D = some (.int k')) (hx : ev e x = some (.int k m)) (hk : k'.wrap m = r) : OpOk P e (.convert S D x) H (.int k' r) := by
 intro ρ o w ho hev _
 have h1 : (convert S D (.int k m)).run P w = .ok (.int k' r) w := by
   simp only [convert,Sem.run_bind,run_underlying hs,run_underlying hd,Result.andThen_ok,← hk]
   cases d <;> rfl
 simp only [execOp,ho,hev _ _ hx]
 rw [run_bind_ok h1]; rfl
theorem equalIn_fn {ps rs : Array TypeId} {vr : Bool} {fn : Fn} {a1 a2 : Array Value} (hT : P.underlying T = some (.func ps rs vr)) (d : Nat) (w : World) : (Op.equalIn (d + 1) T (.func fn a1 a2) .nilFunc).run P w = .ok false w := by
 simp only [Op.equalIn,Sem.run_bind,run_underlying hT,Result.andThen_ok]; rfl
theorem equalIn_fnN {ps rs : Array TypeId} {vr : Bool} (hT : P.underlying T = some (.func ps rs vr)) (d : Nat) (w : World) : (Op.equalIn (d + 1) T .nilFunc .nilFunc).run P w = .ok true w := by
 simp only [Op.equalIn,Sem.run_bind,run_underlying hT,Result.andThen_ok]; rfl
theorem OpOk.eqlF {ps rs : Array TypeId} {vr : Bool} {fn : Fn} {a1 a2 : Array Value} (hT : P.underlying T = some (.func ps rs vr)) (hx : ev e x = some (.func fn a1 a2)) (hy : ev e y = some .nilFunc) : OpOk P e (.binOp .eql T x y T') H (.bool false) := by
 intro ρ o w ho hev _
 have h1 : (Op.equal T (.func fn a1 a2) .nilFunc).run P w = .ok false w := equalIn_fn hT 9999 w
 simp only [execOp,ho,hev _ _ hx,hev _ _ hy,eqGuard,binOp]
 simp [h1]
theorem OpOk.eqlN {ps rs : Array TypeId} {vr : Bool} (hT : P.underlying T = some (.func ps rs vr)) (hx : ev e x = some .nilFunc) (hy : ev e y = some .nilFunc) : OpOk P e (.binOp .eql T x y T') H (.bool true) := by
 intro ρ o w ho hev _
 have h1 : (Op.equal T .nilFunc .nilFunc).run P w = .ok true w := equalIn_fnN hT 9999 w
 simp only [execOp,ho,hev _ _ hx,hev _ _ hy,eqGuard,binOp]
 simp [h1]
theorem OpCh.insert {K E : TypeId} {ix : Operand} {b : Nat} {L : List (Int × Value)} {k : Int} {v : Value} (hT : P.underlying T = some (.map K E)) (hK : P.underlying K = some (.int .i64)) (hm : Im H b L)
   (hx : ev e x = some (.map (some b))) (hi : ev e ix = some (.int .i64 k)) (hy : ev e y = some v) : OpCh P e (.insert T x ix y) H (fun _ H' => Im H' b (upM L k v) ∧ Tw b H H') := by
 intro ρ o w ho hev hw
 have h1 := OpCh.mapUpdate (P := P) hT hK hm hx hi hy ρ { o with op := .mapUpdate T x ix y } w rfl hev hw
 have h2 : (execOp ρ { o with op := .mapUpdate T x ix y }).run P w = (execOp ρ o).run P w := by simp only [execOp,ho]
 rw [h2] at h1
 exact h1
theorem OpCh.makeMapB : OpCh P e (.makeMap T none) H (fun u H' => ∃ g,u = .map (some g) ∧ g = H.size ∧ H'.size = H.size + 1 ∧ Kp H.size H H' ∧ Im H' g []) := by
 intro ρ o w ho hev hw
 obtain ⟨v',w',h1,h2,h3,h4,rfl,h6⟩ := OpCh.makeMap0 (P := P) (T := T) (e := e) ρ o w ho hev hw
 exact ⟨_,w',h1,h2,h3,h4,H.size,rfl,rfl,by rw [h6]; simp,by rw [h6]; exact (Kp.refl _ _).push (Nat.le_refl _) _,by rw [h6]; exact Im.new⟩
end
theorem OpOk.eqlNilS {T T' E : TypeId} {x y : Operand} {α : Type} {r : Rp α} {F : PH} {v : Value} {l : List α} {N : Nat} (hT : P.underlying T = some (.slice E)) (hs : (rLn N r).rv F v l) (hr : 0 < r.sz) (hx : ev e x = some v) (hy : ev e y = some (.slice none 0 0)) :
   ∃ u,OpOk P e (.binOp .eql T x y T') H u ∧ ∃ b : Bool,u = .bool b ∧ (b = true → l = []) := by
 obtain ⟨_,a,cap,rfl,_,h3,_⟩ := hs
 refine ⟨.bool a.isNone,?_,_,rfl,fun h => ?_⟩
 · intro ρ o w ho hev _
   have h1 : ∀ d,(Op.equalIn (d + 1) T (.slice a l.length cap) (.slice none 0 0)).run P w = .ok a.isNone w := by
     intro d
     cases a <;> (simp only [Op.equalIn,Sem.run_bind,run_underlying hT,Result.andThen_ok]; rfl)
   have h2 : (Op.equal T (.slice a l.length cap) (.slice none 0 0)).run P w = .ok a.isNone w := h1 9999
   simp only [execOp,ho,hev _ _ hx,hev _ _ hy,eqGuard,binOp]
   simp [h2]
 · by_cases h5 : l = []
   · exact h5
   · obtain ⟨b,o,rfl⟩ := h3 0 (Nat.mul_pos (List.length_pos_iff.2 h5) hr)
     cases h
theorem PF.retC {n : Nat} {w0 : World} {fn : Func} {R : Value → Heap → Prop} {p g : Nat} {ty T : TypeId} {l : List Value} (hr : fn.results = #[.cell p ty]) (hv : lk e p = some (.pointer (some ⟨g,0,none⟩))) (hb : Bx H g T l)
   (hd : ∃ d,P.underlying ty = some d ∧ (match d with | .struct _ | .array _ _ => true | _ => false) = true) (hS : Sz P ty l.length) (hR : R (.agg l.toArray) H) : PF ⟨n,[]⟩ w0 (BQ P fn w0 R) e .ret H := by
 intro a w hf hw
 obtain ⟨d,hd1,hd2⟩ := hd
 refine bodyPost_ret (results_cell_row hr _ w g T l.toArray (0,0) d (hf.get p _ hv) (by rw [hw.heap]; exact hb) hd1 (by cases d <;> first | rfl | cases hd2) (by unfold Sz at hS; simpa using hS)) hf.defers ⟨_,rfl,hw.os,hw.tape,hw.output,hw.heap ▸ hR⟩
section
variable {n' : Fs} {w0 : World} {Q : Exit → Act → World → Prop} {ops : Array Oper} {rest : List Oper}
theorem LF.gcallF {op : Op} {ty : TypeId} {pos : String} {af : Array Edge} {d f : Nat} {args : Array Value} {R : Value → Heap → Prop} {e : Env} {H : Heap} {j t : Nat} {want B : Bool} {u : Value} (hj : (ops[j]?).bind (·.dst) = some t) (hu : lk e t = some u) (hB : Gd u want B)
   (h : B = true → OpCall P e op H f args) (hc : B = true → Ct P f args H R)
   (K : ∀ v H',(B = true ∧ R v H') ∨ (B = false ∧ H' = H) → LF P n' w0 ops Q ((d,gv B v) :: e) rest H') (hd : Nat.blt d n'.sz = true := by rfl) (ht : Nat.blt t n'.sz = true := by rfl) : LF P n' w0 ops Q e (⟨some d,op,ty,pos,af,some (j,want)⟩ :: rest) H := by
 intro a w hf hw
 have hwt := wanted_gd (o := ⟨some d,op,ty,pos,af,some (j,want)⟩) rfl hj ht hf hu hB
 refine wpList_step fun K' hK' => ?_
 rw [hwt]
 cases B with
 | true =>
   simp only [if_true]
   unfold Oper.wp
   rw [h rfl a.eval _ w rfl (fun x u hx => hf.ev hx) hw.heap,Oper.upon_enter]
   refine (hc rfl w hw.heap).mono fun x w' ⟨v,hx,h1,h2,h3,hR⟩ => ?_
   subst hx
   exact hK' _ _ (K _ _ (.inl ⟨rfl,hR⟩) _ _ (hf.put hd v) ⟨rfl,h1.trans hw.os,h2.trans hw.tape,h3.trans hw.output⟩)
 | false => exact hK' _ _ (K undef _ (.inr ⟨rfl,rfl⟩) _ _ (hf.put hd undef) hw)
end
theorem evl3 {e : Env} {x y z : Operand} {v u t : Value} (h : ev e x = some v) (h' : ev e y = some u) (h2 : ev e z = some t) : evl e [x,y,z] = some [v,u,t] := by simp [evl,h,h',h2]
theorem u32_nn (n : Int) : 0 ≤ IntKind.u32.wrap n := by rw [IntKind.wrap_u32]; omega
theorem up_i32_i64 {n : Int} (h : IntKind.i32.wrap n = n) : IntKind.i64.wrap n = n := by rw [IntKind.wrap_i32] at h; rw [IntKind.wrap_i64]; omega
theorem i32_rng {n : Int} (h : IntKind.i32.wrap n = n) : -2147483648 ≤ n ∧ n ≤ 2147483647 := by rw [IntKind.wrap_i32] at h; omega
end Go.JE
namespace Go.JE
variable {P : Program} {e : Env} {H : Heap}
def Wn {α : Type} (r : Rp α) (T : TypeId) (F : PH) (H : Heap) (B : Nat) (v : Value) (l : List α) : Prop :=
 ∃ g o cap cur,v = .slice (some ⟨g,o,none⟩) l.length cap ∧ B ≤ g ∧ F g = none ∧ H[g]? = some (.cells cur T (0,0)) ∧ l.length ≤ cap ∧ cap ≤ maxLen ∧ o + cap ≤ cur.size ∧ ∀ i (hi : i < l.length),r.rv F (cur.getD (o + i) undef) l[i]
section
variable {α : Type} {r : Rp α} {T : TypeId} {F G : PH} {B : Nat} {v : Value} {l : List α}
theorem Wn.ext (h : Wn r T F H B v l) (he : PH.ext H F G) : Wn r T G H B v l := by
 obtain ⟨g,o,cap,cur,h1,h2,h3,h4,h5,h6,h7,h8⟩ := h
 exact ⟨g,o,cap,cur,h1,h2,he.no h3 (Array.getElem?_eq_some_iff.1 h4).1,h4,h5,h6,h7,fun i hi => (h8 i hi).up he.1⟩
theorem Wn.of {H' : Heap} (h : Wn r T F H B v l) (hk : ∀ k,v.ownBlock = some k → H'[k]? = H[k]?) : Wn r T F H' B v l := by
 obtain ⟨g,o,cap,cur,rfl,h2,h3,h4,h5⟩ := h
 exact ⟨g,o,cap,cur,rfl,h2,h3,(hk g rfl).trans h4,h5⟩
theorem Wn.blk (h : Wn r T F H B v l) : ∀ k,v.ownBlock = some k → B ≤ k ∧ k < H.size := by
 obtain ⟨g,o,cap,cur,rfl,h2,h3,h4,h5⟩ := h
 intro k hk; simp [Value.ownBlock] at hk; subst hk; exact ⟨h2,(Array.getElem?_eq_some_iff.1 h4).1⟩
theorem Wn.lt (h : Wn r T F H B v l) : ∀ k,v.ownBlock = some k → k < H.size := fun k hk => (h.blk k hk).2
theorem Wn.ge (h : Wn r T F H B v l) : ∀ k,v.ownBlock = some k → B ≤ k := fun k hk => (h.blk k hk).1
theorem Wn.no (h : Wn r T F H B v l) : ∀ k,v.ownBlock = some k → F k = none := by
 obtain ⟨g,o,cap,cur,rfl,h2,h3,h4,h5⟩ := h
 intro k hk; simp [Value.ownBlock] at hk; subst hk; exact h3
theorem Wn.kp {H' : Heap} (h : Wn r T F H B v l) (hk : Kp H.size H H') : Wn r T F H' B v l := h.of fun k e1 => hk.2 k (h.blk k e1).2
theorem Wn.hc [Inhabited α] (h : Wn r T F H B v l) {i : Nat} (hi : i < l.length) : ∃ u,hc H (vblk v) (voff v + i * 1) = some u ∧ r.rv F u (ix l i) := by
 obtain ⟨g,o,cap,cur,rfl,h2,h3,h4,h5,h6,h7,h8⟩ := h
 refine ⟨_,?_,by rw [ix_eq hi]; exact h8 i hi⟩
 have : o + i < cur.size := by omega
 simp [vblk,voff,JE.hc,h4,Array.getD,this]
end
structure Mx {α : Type} (r : Rp α) (T To : TypeId) (F : PH) (H : Heap) (B : Nat) (v : Value) (vs : List Value) (ls : List (List α)) : Prop where
 len : vs.length = ls.length
 outer : ∃ g cap cur,v = .slice (some ⟨g,0,none⟩) ls.length cap ∧ B ≤ g ∧ F g = none ∧ H[g]? = some (.cells cur To (0,0)) ∧ ls.length ≤ cap ∧ ls.length ≤ cur.size ∧ ls.length ≤ 1073741823 ∧ ∀ i,i < ls.length → cur[i]? = some (vs.getD i undef)
 row : ∀ i,i < ls.length → Gl r T F H B (vs.getD i undef) (ls.getD i [])
 apart : ∀ i j,i < ls.length → j < ls.length → i ≠ j → ∀ k,(vs.getD i undef).ownBlock = some k → (vs.getD j undef).ownBlock ≠ some k
instance : Inhabited Value := ⟨undef⟩
section
variable {α : Type} {r : Rp α} {T To : TypeId} {F G : PH} {B : Nat} {v : Value} {vs : List Value} {ls : List (List α)}
theorem Mx.of {H' : Heap} (h : Mx r T To F H B v vs ls) (hv : ∀ k,v.ownBlock = some k → H'[k]? = H[k]?) (hr : ∀ i,i < ls.length → ∀ k,(vs.getD i undef).ownBlock = some k → H'[k]? = H[k]?) : Mx r T To F H' B v vs ls := by
 obtain ⟨h1,⟨g,cap,cur,rfl,h2,h3,h4,h5⟩,h6,h7⟩ := h
 exact ⟨h1,⟨g,cap,cur,rfl,h2,h3,(hv g rfl).trans h4,h5⟩,fun i hi => (h6 i hi).of (hr i hi),h7⟩
theorem Mx.base {B' : Nat} (h : Mx r T To F H B v vs ls) (hB : B' ≤ B) : Mx r T To F H B' v vs ls := by
 obtain ⟨h1,⟨g,cap,cur,e1,h2,h3⟩,h6,h7⟩ := h
 exact ⟨h1,⟨g,cap,cur,e1,by omega,h3⟩,fun i hi => (h6 i hi).base hB,h7⟩
theorem Mx.blk (h : Mx r T To F H B v vs ls) : ∀ k,v.ownBlock = some k → B ≤ k ∧ k < H.size := by
 obtain ⟨h1,⟨g,cap,cur,rfl,h2,h3,h4,h5⟩,h6,h7⟩ := h
 intro k hk; simp [Value.ownBlock] at hk; subst hk; exact ⟨h2,(Array.getElem?_eq_some_iff.1 h4).1⟩
theorem Mx.kp {H' : Heap} (h : Mx r T To F H B v vs ls) (hk : Kp H.size H H') : Mx r T To F H' B v vs ls := h.of (fun k e1 => hk.2 k (h.blk k e1).2) (fun i hi k e1 => hk.2 k ((h.row i hi).blk k e1).2)
theorem Mx.ext (h : Mx r T To F H B v vs ls) (he : PH.ext H F G) : Mx r T To G H B v vs ls := by
 obtain ⟨h1,⟨g,cap,cur,rfl,h2,h3,h4,h5⟩,h6,h7⟩ := h
 exact ⟨h1,⟨g,cap,cur,rfl,h2,he.no h3 (Array.getElem?_eq_some_iff.1 h4).1,h4,h5⟩,fun i hi => (h6 i hi).ext he,h7⟩
theorem Mx.freeze {H0 : Heap} {F0 : PH} (h : Mx r T To F H B v vs ls) (hTT : T ≠ To) (hin : InH F H) (hx : PH.ext H0 F0 F) (hB : H0.size ≤ B) (hM : ∀ l ∈ ls,l.length < 1073741824) : ∃ G,PH.ext H0 F0 G ∧ F.le G ∧ InH G H ∧ (∀ k,v.ownBlock ≠ some k → (∀ i,i < ls.length → (vs.getD i undef).ownBlock ≠ some k) → G k = F k) ∧ (rL (rL r)).rv G v ls := by
 have hstep : ∀ n,n ≤ ls.length → ∃ G,PH.ext H0 F0 G ∧ F.le G ∧ InH G H ∧ (∀ k,(∀ i,i < n → (vs.getD i undef).ownBlock ≠ some k) → G k = F k) ∧ ∀ i,i < n → (rL r).rv G (vs.getD i undef) (ls.getD i []) := by
   intro n
   induction n with
   | zero => exact fun _ => ⟨F,hx,PH.le.refl F,hin,fun _ _ => rfl,fun i hi => by omega⟩
   | succ n ih =>
     intro hn
     obtain ⟨G,g1,g2,g3,g4,g5⟩ := ih (by omega)
     have hrow : Gl r T G H B (vs.getD n undef) (ls.getD n []) := by
       obtain ⟨xs,k1,k2,k3⟩ := h.row n (by omega)
       refine ⟨xs,k1,fun k hk => ?_,fun i hi => r.up g2 (k3 i hi)⟩
       rw [g4 k (fun i hi e1 => h.apart i n (by omega) (by omega) (by omega) k e1 hk)]
       exact k2 k hk
     have hmem : ls.getD n [] ∈ ls := by
       have : n < ls.length := by omega
       simp [List.getD,this]
     obtain ⟨G',f1,f2,f3,f4,f5⟩ := hrow.freezeX g3 g1 hB (hM _ hmem)
     refine ⟨G',f1,g2.trans f2,f3,fun k hk => ?_,fun i hi => ?_⟩
     · rw [f4 k (hk n (by omega))]; exact g4 k (fun i hi => hk i (by omega))
     · by_cases e1 : i = n
       · subst e1; exact f5
       · exact (g5 i (by omega)).up f2
 obtain ⟨G,g1,g2,g3,g4,g5⟩ := hstep ls.length (Nat.le_refl _)
 have h' := h
 obtain ⟨h1,⟨g,cap,cur,rfl,h2,h3,h4,h5,h6,h7,h8⟩,h9,h10⟩ := h
 have hrowne : ∀ j,j < ls.length → (vs.getD j undef).ownBlock ≠ some g := by
   intro j hj e1
   obtain ⟨xs,k1,_⟩ := h9 j hj
   rcases k1.2 with ⟨e2,_⟩ | ⟨g',cap',cur',e2,_,hg',_⟩
   · rw [e2] at e1; cases e1
   · rw [e2] at e1; simp [Value.ownBlock] at e1; subst e1
     rw [h4] at hg'; injection hg' with k3; injection k3 with _ k3 _; exact hTT k3.symm
 have hgG : G g = none := by rw [g4 g (fun i hi e1 => hrowne i hi e1)]; exact h3
 refine ⟨G.add g (.cells cur To (0,0)),g1.add hgG (by omega),g2.trans (PH.le_add hgG),g3.add h4,fun k hk hk2 => ?_,⟨by omega,by omega⟩,_,cap,rfl,h5,fun j hj => ⟨g,0,rfl⟩,fun j => vs.getD j undef,fun j hj => ?_,fun j hj => ?_⟩
 · unfold PH.add; rw [if_neg (by rintro rfl; exact hk rfl)]; exact g4 k hk2
 · simp only [vblk,voff,pc,PH.add,if_true,Nat.zero_add]
   have hj1 : j < ls.length * 1 := hj
   exact h8 j (by omega)
 · have := (g5 j hj).up (PH.le_add (o := .cells cur To (0,0)) hgG)
   simp only [List.getD,List.getElem?_eq_getElem hj,Option.getD_some] at this
   refine (rL r).ext (fun q hq => ?_) this
   have hq1 : q < 1 := hq
   have e0 : j * (rL r).sz + q = j := by show j * 1 + q = j; omega
   simp only [e0]; simp [List.getD]
end
section
variable {n : Fs} {w0 : World} {Q : Exit → Act → World → Prop} {l : List Oper} {z : Bool} {S : Heap → Prop} {fuel d : Nat} {listed : Array Bool} {op : Op} {ty : TypeId} {pos : String} {af : Array Edge} {p : Value → Prop}
end
theorem GrownBy.kw {W : Nat → Prop} {H0 H' : Heap} {row : Option Nat} (h : Kw W H0 H) (hg : GrownBy H H' row) (hr : ∀ k,row = some k → H0.size ≤ k) : Kw W H0 H' :=
 ⟨Nat.le_trans h.1 hg.1,fun k hk hw => (hg.2 k (by have := h.1; omega) (fun e1 => by have := hr k e1.symm; omega)).trans (h.2 k hk hw)⟩
section
variable {n : Fs} {w0 : World} {Q : Exit → Act → World → Prop} {l : List Oper} {z : Bool} {S : Heap → Prop} {fuel i d : Nat} {listed : Array Bool} {op : Op} {ty : TypeId} {pos : String} {af : Array Edge}
theorem AFN.chg {R : Value → Heap → Prop} (hi : l[i]? = some ⟨some d,op,ty,pos,af,none⟩) (h : OpCh P e op H R)
   (K : ∀ v H',R v H' → S H' ∧ AF P n w0 l.toArray Q z S fuel (listed.setIfInBounds i true) ((d,v) :: e) H') (hd : Nat.blt d n.sz = true := by rfl) : AF.Next P n w0 l Q z S fuel listed e H i := by
 intro a w hf hw
 obtain ⟨v,w',hrun,h1,h2,h3,hR⟩ := h a.eval ⟨some d,op,ty,pos,af,none⟩ w rfl (fun x u hx => hf.ev hx) hw.heap
 have hw' : Wd w0 w'.heap w' := ⟨rfl,h1.trans hw.os,h2.trans hw.tape,h3.trans hw.output⟩
 obtain ⟨k1,k2⟩ := K _ _ hR
 unfold wpOp
 simp only [List.getElem?_toArray,hi]
 rw [if_pos (by simp [Region.wanted])]
 refine .inl ?_
 unfold Oper.wp
 rcases hrun with hrun | ⟨hrun,rfl⟩
 · rw [hrun]; exact ⟨fun _ => k1,k2 _ _ (hf.put hd v) hw'⟩
 · rw [hrun]; exact ⟨fun _ => k1,k2 _ _ (hf.put hd undef) hw'⟩
theorem AFN.chg0 {R : Value → Heap → Prop} (hi : l[i]? = some ⟨none,op,ty,pos,af,none⟩) (h : OpCh P e op H R)
   (K : ∀ v H',R v H' → S H' ∧ AF P n w0 l.toArray Q z S fuel (listed.setIfInBounds i true) e H') : AF.Next P n w0 l Q z S fuel listed e H i := by
 intro a w hf hw
 obtain ⟨v,w',hrun,h1,h2,h3,hR⟩ := h a.eval ⟨none,op,ty,pos,af,none⟩ w rfl (fun x u hx => hf.ev hx) hw.heap
 have hw' : Wd w0 w'.heap w' := ⟨rfl,h1.trans hw.os,h2.trans hw.tape,h3.trans hw.output⟩
 obtain ⟨k1,k2⟩ := K _ _ hR
 unfold wpOp
 simp only [List.getElem?_toArray,hi]
 rw [if_pos (by simp [Region.wanted])]
 refine .inl ?_
 unfold Oper.wp
 rcases hrun with hrun | ⟨hrun,rfl⟩
 · rw [hrun]; exact ⟨fun _ => k1,k2 _ _ hf hw'⟩
 · rw [hrun]; exact ⟨fun _ => k1,k2 _ _ hf hw'⟩
theorem AFN.stepE {p : Value → Prop} (hi : l[i]? = some ⟨some d,op,ty,pos,af,none⟩) (h : ∃ v,OpOk P e op H v ∧ p v) (hS : S H)
   (K : ∀ v,p v → AF P n w0 l.toArray Q z S fuel (listed.setIfInBounds i true) ((d,v) :: e) H) (hd : Nat.blt d n.sz = true := by rfl) : AF.Next P n w0 l Q z S fuel listed e H i := by
 obtain ⟨v,h1,h2⟩ := h
 exact AFN.chg (R := fun v' H' => v' = v ∧ H' = H) hi (fun ρ o w ho hev hw => ⟨v,w,.inl (h1 ρ o w ho hev hw),rfl,rfl,rfl,rfl,hw⟩) (by rintro _ _ ⟨rfl,rfl⟩; exact ⟨hS,K _ h2⟩) hd
theorem AFN.step {v : Value} (hi : l[i]? = some ⟨some d,op,ty,pos,af,none⟩) (h : OpOk P e op H v) (hS : S H)
   (K : AF P n w0 l.toArray Q z S fuel (listed.setIfInBounds i true) ((d,v) :: e) H) (hd : Nat.blt d n.sz = true := by rfl) : AF.Next P n w0 l Q z S fuel listed e H i :=
 AFN.stepE (p := fun v' => v' = v) hi ⟨v,h,rfl⟩ hS (by rintro _ rfl; exact K) hd
end
section
variable {α : Type} {r : Rp α} {F : PH} {B : Nat} {v : Value} {l : List α} {T E : TypeId}
end
section
variable {α : Type} {r : Rp α} {F : PH} {B : Nat} {v : Value} {l : List α}
theorem Gr.setl {E : TypeId} {n : Nat} : ∀ (cs : List Value) (o : Nat) {H : Heap} {xs : List Value},Gr H B E r.sz v n xs → (∃ g,v.ownBlock = some g) → ∀ g,v.ownBlock = some g → Gr (JE.setl H g o cs) B E r.sz v n (setAt xs o cs)
 | [],_,_,_,h,_,_,_ => h
 | c :: cs,o,_,_,h,hg,g,hgg => Gr.setl cs (o + 1) (Gr.set h hgg) hg g hgg
theorem setAt_get : ∀ (cs xs : List Value) (o i : Nat),o + cs.length ≤ xs.length → (setAt xs o cs).getD i undef = if o ≤ i ∧ i < o + cs.length then cs.getD (i - o) undef else xs.getD i undef
 | [],xs,o,i,_ => by
   have : ¬ (o ≤ i ∧ i < o + ([] : List Value).length) := by simp only [List.length_nil]; omega
   rw [if_neg this]; rfl
 | c :: cs,xs,o,i,h => by
   simp only [List.length_cons] at h
   rw [setAt,setAt_get cs _ (o + 1) i (by simp; omega)]
   by_cases h1 : i = o
   · subst h1
     rw [if_neg (by omega),if_pos (by simp)]
     have : i < xs.length := by omega
     simp [List.getD,this]
   · by_cases h2 : o + 1 ≤ i ∧ i < o + 1 + cs.length
     · rw [if_pos h2,if_pos (by simp; omega),show i - o = (i - (o + 1)) + 1 by omega]; simp
     · rw [if_neg h2,if_neg (by simp; omega)]; simp [List.getD,List.getElem?_set_ne (Ne.symm h1)]
end
end Go.JE
namespace Go.JE
open Go.ChangeShapes Go.RowKit
variable {P : Program} {H : Type} {enc : TypeId × Value → H} {W W' : World}
theorem Trod.carried {base : Nat} {sp : Nat → Bool} {held : Bool} {t : TypeId} {v : Value} {d : DataW H} {ps : List MemPlace} (h : DataW.Trod enc P W base sp held t v d ps) (hs : ∀ p ∈ ps,W.sameAt W' p) : DataW.Trod enc P W' base sp held t v d ps := by
 obtain ⟨n,hn⟩ := h
 exact ⟨n,DataW.trod_carry n _ _ _ hn hs⟩
theorem TrodAll.carried {base : Nat} {sp : Nat → Bool} {held : Bool} : ∀ {ts : List TypeId} {vs : List Value} {ds : List (DataW H)} {ps : List MemPlace},DataW.TrodAll enc P W base sp held ts vs ds ps → (∀ p ∈ ps,W.sameAt W' p) → DataW.TrodAll enc P W' base sp held ts vs ds ps
 | [],[],[],_,h,_ => h
 | _ :: _,_ :: _,_ :: _,_,⟨p,q,h1,h2,e⟩,hs => ⟨p,q,Trod.carried h1 (fun x hx => hs x (by rw [e]; exact List.mem_append_left _ hx)),TrodAll.carried h2 (fun x hx => hs x (by rw [e]; exact List.mem_append_right _ hx)),e⟩
structure TableOk (P : Program) : Prop where
 laid : laidOutB P = true
 maps : mapsRowed P = true
 full : ((List.range P.types.size).all fun t => match P.underlying t with | some (.slice e) => decide (0 < P.cellsOf e) | _ => true) = true
theorem Ct.said {f : FuncId} {fn : Func} {s : ChangeSpec} {args : Array Value} {ds gs : List (DataW H)} {before : List MemPlace} {b : TypeId} {apart fresh handsOn : Bool}
   (T : TableOk P) (hps : fn.params.toList.all (fun t => decide (t < P.types.size)) = true) (hrt : fn.resultTypes = #[b]) (hb : P.underlying b = some .bool) (hvars : s.vars = [])
   (hfn : s.fn H ds = { results := [.lit (.bool true)],args := ds,vars := [] }) (hW : DataW.Whole enc P fn.params.toList s.vars apart W args.toList ds gs before)
   (h : Ct P f args W.heap (fun v H' => v = .bool true ∧ Kp W.heap.size W.heap H')) :
   Calls P f args W fun e W' => ∃ v,e = .returned v ∧ s.post enc P fn apart fresh handsOn false W args v W' := by
 refine (h W rfl).mono fun x W' ⟨v,hx,hos,htape,hout,hv,hk⟩ => ?_
 subst hx hv
 have hB : Below W.heap.size W W' := ⟨hos,htape,hout,hk.1,hk.2⟩
 have hlt := hW.lt
 have hW' := hW
 obtain ⟨p,q,hA,hV,rfl,hfz,hnd⟩ := hW
 rw [hvars] at hV
 obtain ⟨rfl,rfl⟩ := trodVars_none hV
 have hsame : ∀ x ∈ p ++ [],W.sameAt W' x := fun x hx => hB.same (hlt x hx)
 have hargs : ∀ sp : Nat → Bool,(∀ x ∈ p,sp x.block = true) → DataW.TrodAll enc P W' 0 sp true fn.params.toList args.toList ds p := fun sp hsp =>
   TrodAll.carried (DataW.TrodAll.respare (kids_rows T.laid T.maps) (slices_full_of P T.full) (fun t ht => by have := List.all_eq_true.1 hps t ht; simpa using this) hA hsp) (fun x hx => hsame x (by simp [hx]))
 refine ⟨_,rfl,ds,[],p ++ [],[],p,[],hW',?_,?_,?_,hB.frame _,fun h9 => (by cases h9)⟩
 · rw [List.append_nil,hfn,hrt]
   have hl : (Value.bool true).resultList 1 = [.bool true] := rfl
   show DataW.TrodAll enc P W' _ _ _ [b] ((Value.bool true).resultList 1) _ _
   rw [hl]
   exact trodAll_cons_mk (shut_bool hb true) trodAll_mk0
 · rw [List.append_nil,hfn]
   exact hargs _ (fun x hx => by have := hlt x (by simp [hx]); simpa using this)
 · rw [List.append_nil,hfn,hvars]; rfl
end Go.JE
namespace Go.JE
open Go.ChangeShapes Go.RowKit
variable {P : Program}
def heapF (W : World) : PH := fun b => W.heap[b]?
theorem inH_heapF (W : World) : InH (heapF W) W.heap := fun _ _ h => h
theorem pc_heapF {W : World} {b o : Nat} {v : Value} (h : W.cell? ⟨b,o,none⟩ = some v) : pc (heapF W) b o = some v := by
 rw [cell_hc] at h
 unfold hc at h
 unfold pc heapF
 exact h
theorem spot_none {W : World} {a : Addr} {v : Value} (h : W.cell? (a.add 0) = some v) : a.spot = none := by
 simp only [Addr.add,if_true,World.cell?] at h
 cases ha : a.spot with
 | none => rfl
 | some y => rw [ha] at h; split at h <;> simp at h
theorem add_add (a : Addr) (i j : Nat) (h : a.spot = none) : (a.add i).add j = ⟨a.block,a.off + (i + j),none⟩ := by
 obtain ⟨b,o,s⟩ := a
 simp only at h; subst h
 rw [Addr.add_none,Addr.add_none,Nat.add_assoc]
def Opens {α : Type} (P : Program) (T : TypeId) (r : Rp α) : Prop :=
 ∀ {H : Type} {enc : TypeId × Value → H} {W : World} {held : Bool} {fuel : Nat} {cs : List Value} {x : DataW H × List MemPlace},
   DataW.trod enc P W 0 (fun _ => true) held fuel T cs = some x → cs.length = r.sz ∧ ∃ m,r.ok (heapF W) m (fun i => cs.getD i undef)
theorem wf_wrap {k : IntKind} {n : Int} (h : (Lit.int k n).wf = true) : k.wrap n = n := by
 have h1 : (decide (k.min ≤ n) && decide (n ≤ k.max)) = true := h
 rw [Bool.and_eq_true,decide_eq_true_eq,decide_eq_true_eq] at h1
 cases k <;> first
   | exact IntWalk.i64_in n h1 | exact IntWalk.i32_in n h1 | exact IntWalk.u8_in n h1 | exact IntWalk.u16_in n h1 | exact IntWalk.u32_in n h1 | exact IntWalk.u64_in n h1 | exact IntWalk.i8_in n h1 | exact IntWalk.i16_in n h1
   | (simp only [IntKind.wrap,IntKind.min,IntKind.max,IntKind.bits,IntKind.signed] at h1 ⊢; simp at h1 ⊢; omega)
theorem Opens.int {T : TypeId} {k : IntKind} (ht : P.underlying T = some (.int k)) : Opens P T (rI k) := by
 intro H enc W held fuel cs x h
 obtain ⟨n,rfl,_,hw⟩ := DataW.trod_int ht h
 exact ⟨rfl,n,rfl,wf_wrap hw⟩
theorem Opens.bool {T : TypeId} (ht : P.underlying T = some .bool) : Opens P T rB := by
 intro H enc W held fuel cs x h
 obtain ⟨n,rfl,_⟩ := DataW.trod_bool ht h
 exact ⟨rfl,n,rfl⟩
theorem Opens.string {T : TypeId} (ht : P.underlying T = some .string) : Opens P T rS := by
 intro H enc W held fuel cs x h
 obtain ⟨n,rfl,_⟩ := DataW.trod_string ht h
 exact ⟨rfl,n,rfl⟩
theorem Opens.slice {α : Type} {T e : TypeId} {r : Rp α} (ht : P.underlying T = some (.slice e)) (he : Opens P e r) (hs : P.cellsOf e = r.sz) (h0 : 0 < r.sz) : Opens P T (rLn 9223372036854775808 r) := by
 intro H enc W held fuel cs x h
 rcases Deep.open_slice ht h with ⟨rfl,_⟩ | ⟨a,len,cap,m,n,D,Pl,rfl,_,hl,hm,hm2,_,hcell⟩
 · exact ⟨rfl,[],rL.nil0 (by decide) _⟩
 · simp only [if_true] at hm2
   have hmax : cap ≤ 9223372036854775807 := by unfold maxLen at hm; omega
   have hex : ∀ k,k ≤ len → ∃ l : List α,l.length = k ∧ ∀ i (hi : i < l.length),∃ c,W.cells? 0 (a.add (i * r.sz)) r.sz = some c ∧ r.ok (heapF W) l[i] (fun j => c.getD j undef) := by
     intro k
     induction k with
     | zero => exact fun _ => ⟨[],rfl,fun i hi => by simp at hi⟩
     | succ k ih =>
       intro hk
       obtain ⟨l,hll,h1⟩ := ih (by omega)
       obtain ⟨c,h2,h3⟩ := hcell k (by omega)
       obtain ⟨_,z,h4⟩ := he h3
       rw [hs] at h2
       refine ⟨l ++ [z],by simp [hll],fun i hi => ?_⟩
       by_cases h5 : i < l.length
       · rw [List.getElem_append_left h5]; exact h1 i h5
       · have h6 : i = k := by simp at hi; omega
         subst h6
         rw [List.getElem_append_right (by omega)]
         exact ⟨c,h2,by simpa [hll] using h4⟩
   obtain ⟨l,hll,hel⟩ := hex len (Nat.le_refl _)
   subst hll
   have hcells : ∀ i,i < l.length * r.sz → ∃ (h1 : i / r.sz < l.length) (c : List Value),r.ok (heapF W) l[i / r.sz] (fun j => c.getD j undef) ∧ W.cell? ((a.add (i / r.sz * r.sz)).add (i % r.sz)) = c[i % r.sz]? ∧ i % r.sz < c.length := by
     intro i hi
     have h1 : i / r.sz < l.length := Nat.div_lt_of_lt_mul (by rw [Nat.mul_comm]; exact hi)
     obtain ⟨c,h2,h3⟩ := hel _ h1
     have h4 := World.cells?_some h2
     exact ⟨h1,c,h3,h4.2.2 _ (Nat.mod_lt _ h0),by rw [h4.2.1]; exact Nat.mod_lt _ h0⟩
   have hsp : ∀ i,i < l.length * r.sz → a.spot = none := by
     intro i hi
     obtain ⟨c,h2,h3⟩ := hel 0 (by rcases Nat.eq_zero_or_pos l.length with h9 | h9; (· rw [h9] at hi; simp at hi); exact h9)
     have h4 := (World.cells?_some h2).2.2 0 h0
     have h5 : 0 < c.length := by rw [(World.cells?_some h2).2.1]; exact h0
     rw [List.getElem?_eq_getElem h5] at h4
     have h6 := spot_none h4
     simpa [Addr.add] using h6
   have hpc : ∀ i,i < l.length → ∀ j,j < r.sz → ∀ c,W.cells? 0 (a.add (i * r.sz)) r.sz = some c → pc (heapF W) a.block (a.off + (i * r.sz + j)) = some (c.getD j undef) := by
     intro i hi j hj c h2
     have hb : i * r.sz + j < l.length * r.sz := by
       have : (i + 1) * r.sz ≤ l.length * r.sz := Nat.mul_le_mul_right _ hi
       rw [Nat.add_mul] at this; omega
     have h4 := (World.cells?_some h2).2.2 j hj
     have h5 : j < c.length := by rw [(World.cells?_some h2).2.1]; exact hj
     rw [List.getElem?_eq_getElem h5,add_add _ _ _ (hsp _ hb)] at h4
     rw [pc_heapF h4]; simp [List.getD,h5]
   refine ⟨rfl,l,⟨by omega,by omega⟩,some a,cap,rfl,hl,fun i hi => ?_,fun i => (pc (heapF W) a.block (a.off + i)).getD undef,fun i hi => ?_,fun i hi => ?_⟩
   · have := hsp i hi
     obtain ⟨b,o,s⟩ := a
     simp only at this; subst this
     exact ⟨b,o,rfl⟩
   · obtain ⟨c,h2,h3⟩ := hel (i / r.sz) (Nat.div_lt_of_lt_mul (by rw [Nat.mul_comm]; exact hi))
     have h4 := hpc (i / r.sz) (Nat.div_lt_of_lt_mul (by rw [Nat.mul_comm]; exact hi)) (i % r.sz) (Nat.mod_lt _ h0) c h2
     rw [Nat.div_add_mod'] at h4
     show pc (heapF W) a.block (a.off + i) = some ((pc (heapF W) a.block (a.off + i)).getD undef)
     rw [h4]; rfl
   · obtain ⟨c,h2,h3⟩ := hel i hi
     refine r.ext (fun j hj => ?_) h3
     show c.getD j undef = (pc (heapF W) a.block (a.off + (i * r.sz + j))).getD undef
     rw [hpc i hi j hj c h2]; rfl
theorem Opens.array {α : Type} {T e : TypeId} {n : Nat} {r : Rp α} (ht : P.underlying T = some (.array n e)) (he : Opens P e r) (hs : P.cellsOf e = r.sz) (hT : P.cellsOf T = n * r.sz) : Opens P T (rA n r) := by
 intro H enc W held fuel cs x h
 obtain ⟨xs,m,_,_,hl,hx,hel⟩ := DataW.trod_array ht h
 have hex : ∀ k,k ≤ n → ∃ l : List α,l.length = k ∧ ∀ i (hi : i < l.length),r.ok (heapF W) l[i] (fun j => cs.getD (i * r.sz + j) undef) := by
   intro k
   induction k with
   | zero => exact fun _ => ⟨[],rfl,fun i hi => by simp at hi⟩
   | succ k ih =>
     intro hk
     obtain ⟨l,hll,h1⟩ := ih (by omega)
     have h3 := hel k (by omega)
     rw [List.getElem?_eq_getElem (by omega)] at h3
     obtain ⟨_,z,h4⟩ := he h3
     refine ⟨l ++ [z],by simp [hll],fun i hi => ?_⟩
     by_cases h5 : i < l.length
     · rw [List.getElem_append_left h5]; exact h1 i h5
     · have h6 : i = k := by simp at hi; omega
       subst h6
       rw [List.getElem_append_right (by omega)]
       simp only [hll,Nat.sub_self,List.getElem_cons_zero]
       refine r.ext (fun j hj => ?_) h4
       rw [hs]; simp [List.getD,List.getElem?_take,hj]
 obtain ⟨l,hll,h1⟩ := hex n (Nat.le_refl _)
 exact ⟨hl.trans hT,l,hll,h1⟩
theorem Opens.field {α H : Type} {enc : TypeId × Value → H} {W : World} {held : Bool} {T : TypeId} {r : Rp α} (he : Opens P T r) (hs : P.cellsOf T = r.sz) {off n i : Nat} {cs : List Value} {xs : List (DataW H × List MemPlace)}
   (h : DataW.trod enc P W 0 (fun _ => true) held n T ((cs.drop off).take (P.cellsOf T)) = xs[i]?) (hi : i < xs.length) : ∃ m,r.ok (heapF W) m (fun j => cs.getD (off + j) undef) := by
 rw [List.getElem?_eq_getElem hi] at h
 obtain ⟨_,z,h4⟩ := he h
 refine ⟨z,r.ext (fun j hj => ?_) h4⟩
 rw [hs]; simp [List.getD,List.getElem?_take,hj]
theorem Opens.arg1 {α H : Type} {enc : TypeId × Value → H} {W : World} {held : Bool} {T : TypeId} {r : Rp α} {v : Value} {d : DataW H} {p : List MemPlace} (he : Opens P T r) (hc : v.cells.toList = [v]) (hr : r.sz = 1) (h : DataW.Trod enc P W 0 (fun _ => true) held T v d p) : ∃ m,r.rv (heapF W) v m := by
 obtain ⟨f,h⟩ := h
 rw [hc] at h
 obtain ⟨_,m,h1⟩ := he h
 refine ⟨m,r.ext (fun j hj => ?_) h1⟩
 rw [show j = 0 by omega]; rfl
theorem Opens.agg {α H : Type} {enc : TypeId × Value → H} {W : World} {held : Bool} {T : TypeId} {r : Rp α} {v : Value} {d : DataW H} {p : List MemPlace} {n : Nat} (_ : P.cellsOf T = n) (hn : n ≠ 1) (he : Opens P T r) (hr : r.sz = n) (h : DataW.Trod enc P W 0 (fun _ => true) held T v d p) : ∃ cs,v = .agg cs := by
 obtain ⟨f,h⟩ := h
 obtain ⟨h2,_⟩ := he h
 cases v with
 | agg cs => exact ⟨cs,rfl⟩
 | _ => exact absurd (hr.symm.trans h2.symm) hn
section
variable {e : Env} {H : Heap} {g : Nat} {T : TypeId}
theorem OpOk.ldBxI {k : IntKind} {l : List Int} {i o : Nat} {x : Operand} {T' : TypeId} (hb : Bx H g T (l.map (Value.int k))) (hi : i < l.length) (ho : o = i) (hT : One P T') (hx : ev e x = some (.pointer (some ⟨g,o,none⟩))) : OpOk P e (.load T' x) H (.int k (ix l i)) := by
 subst ho
 refine OpOk.ldBx hb hT hx ?_
 rw [List.getElem?_map,List.getElem?_eq_getElem hi,ix_eq hi]; rfl
theorem Bx.freeze {α : Type} {r : Rp α} {a : α} {l : List Value} {F F0 : PH} {H0 : Heap} (h : Bx H g T l) (hin : InH F H) (hx : PH.ext H0 F0 F) (hg : H0.size ≤ g) (hF : F g = none) (hok : r.ok F a (fun i => l.getD i undef)) (hl : l.length = r.sz) :
   ∃ G,PH.ext H0 F0 G ∧ F.le G ∧ InH G H ∧ (∀ k,k ≠ g → G k = F k) ∧ At G r g 0 a := by
 refine ⟨F.add g (.cells l.toArray T (0,0)),hx.add hF hg,PH.le_add hF,hin.add h,fun k hk => by unfold PH.add; rw [if_neg hk],fun i => l.getD i undef,fun i hi => ?_,r.up (PH.le_add hF) hok⟩
 unfold pc PH.add
 rw [if_pos rfl,Nat.zero_add]
 simp [List.getD,show i < l.length by omega]
theorem Gl.flatI {k : IntKind} {F G : PH} {B : Nat} {v : Value} {l : List Int} (h : Gl (rI k) T G H B v l) (hl : F.le G) : Gl (rI k) T F H B v l := by
 obtain ⟨xs,h1,h2,h3⟩ := h
 refine ⟨xs,h1,fun b hb => ?_,h3⟩
 cases hF : F b with
 | none => rfl
 | some o => have := hl b o hF; rw [h2 b hb] at this; cases this
end
section
variable {n : Fs} {w0 : World} {Q : Exit → Act → World → Prop} {l : List Oper} {ops : Array Oper} {rest : List Oper} {z : Bool} {S : Heap → Prop} {fuel d : Nat} {listed : Array Bool} {op : Op} {ty : TypeId} {pos : String} {af : Array Edge} {p : Value → Prop} {e : Env} {H : Heap} {j t : Nat} {want : Bool} {u v : Value}
theorem LF.gstepK (hj : (ops[j]?).bind (·.dst) = some t) (hu : lk e t = some u) (hB : Gd u want true) (h : OpOk P e op H v)
   (K : LF P n w0 ops Q ((d,v) :: e) rest H) (hd : Nat.blt d n.sz = true := by rfl) (ht : Nat.blt t n.sz = true := by rfl) : LF P n w0 ops Q e (⟨some d,op,ty,pos,af,some (j,want)⟩ :: rest) H :=
 LF.gstep hj hu hB (fun _ => h) K hd ht
end
theorem AFN.call {n : Fs} {w0 : World} {Q : Exit → Act → World → Prop} {l : List Oper} {z : Bool} {S : Heap → Prop} {fuel i d : Nat} {listed : Array Bool} {op : Op} {ty : TypeId} {pos : String} {af : Array Edge} {e : Env} {H : Heap} {f : FuncId} {args : Array Value} {R : Value → Heap → Prop} (hi : l[i]? = some ⟨some d,op,ty,pos,af,none⟩) (h : OpCall P e op H f args) (hc : Ct P f args H R)
   (K : ∀ v H',R v H' → S H' ∧ AF P n w0 l.toArray Q z S fuel (listed.setIfInBounds i true) ((d,v) :: e) H') (hd : Nat.blt d n.sz = true := by rfl) : AF.Next P n w0 l Q z S fuel listed e H i := by
 intro a w hf hw
 unfold wpOp
 simp only [List.getElem?_toArray,hi]
 rw [if_pos (by simp [Region.wanted])]
 refine .inl ?_
 unfold Oper.wp
 rw [h a.eval _ w rfl (fun x u hx => hf.ev hx) hw.heap,Oper.upon_enter]
 refine (hc w hw.heap).mono fun x w' ⟨v,hx,h1,h2,h3,hR⟩ => ?_
 subst hx
 obtain ⟨k1,k2⟩ := K _ _ hR
 exact ⟨fun _ => k1,k2 _ _ (hf.put hd v) ⟨rfl,h1.trans hw.os,h2.trans hw.tape,h3.trans hw.output⟩⟩
end Go.JE
