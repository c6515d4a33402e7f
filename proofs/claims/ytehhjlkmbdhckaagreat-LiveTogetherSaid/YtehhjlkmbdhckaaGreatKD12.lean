/- Lemmas that the claim is made of. Conditions: each lemma names its own. -/
import Derived.Test.YtehhjlkmbdhckaaGreatKD11
import Derived.Shelf.Lay
import Derived.Shelf.Sort.Plain
import Derived.Shelf.Slices.In.SortNone
import Derived.Sort.OwnSortedInts
import Derived.Test.YtehhjlkmbdhckaaGreatRows
import Derived.Test.YtehhjlkmbdhckaaGreatKD5
set_option linter.unusedSectionVars false
set_option linter.unusedSimpArgs false
set_option linter.unusedVariables false
namespace Go.Proofs.YtehhjlkmbdhckaaGreat
open Go.JE
def uniS (l xs : List Int) : List Int := xs.foldl (fun l x => zIn x l) l
def delS (l xs : List Int) : List Int := xs.foldl (fun l x => zOut x l) l
theorem uniS_mem {y : Int} : ∀ {xs l : List Int},y ∈ uniS l xs ↔ y ∈ l ∨ y ∈ xs
 | [],l => by simp [uniS]
 | x :: xs,l => by
   show y ∈ uniS (zIn x l) xs ↔ _
   rw [uniS_mem,zIn_mem,List.mem_cons]
   constructor
   · rintro ((h | h) | h) <;> simp [h]
   · rintro (h | h | h) <;> simp [h]
theorem uniS_ris : ∀ {xs l : List Int},Ris l → Ris (uniS l xs)
 | [],_,h => h
 | _ :: xs,_,h => uniS_ris (xs := xs) (zIn_ris h)
theorem delS_mem {y : Int} : ∀ {xs l : List Int},y ∈ delS l xs ↔ y ∈ l ∧ y ∉ xs
 | [],l => by simp [delS]
 | x :: xs,l => by
   show y ∈ delS (zOut x l) xs ↔ _
   rw [delS_mem,zOut_mem,List.mem_cons,not_or]
   exact ⟨fun ⟨⟨a,b⟩,c⟩ => ⟨a,b,c⟩,fun ⟨a,b,c⟩ => ⟨⟨a,b⟩,c⟩⟩
theorem delS_ris : ∀ {xs l : List Int},Ris l → Ris (delS l xs)
 | [],_,h => h
 | _ :: xs,_,h => delS_ris (xs := xs) (zOut_ris h)
def sAt : List D.Mach → List Int → List Int
 | [],now => now
 | i :: l,now => uniS (delS (sAt l now) (makesM i)) (takesM i)
def bkB (r : Int) : List D.Mach → Bool → Bool
 | [],o => o
 | i :: l,o => if r ∈ takesM i then true else if r ∈ makesM i then false else bkB r l o
theorem sAt_mem {r : Int} {now : List Int} : ∀ {l : List D.Mach},r ∈ sAt l now ↔ bkB r l (decide (r ∈ now)) = true
 | [] => by simp [sAt,bkB]
 | i :: l => by
   rw [sAt,bkB,uniS_mem,delS_mem,sAt_mem]
   by_cases h1 : r ∈ takesM i
   · simp [h1]
   · by_cases h2 : r ∈ makesM i
     · simp [h1,h2]
     · simp [h1,h2]
theorem sAt_ris {now : List Int} (h : Ris now) : ∀ {l : List D.Mach},Ris (sAt l now)
 | [] => h
 | i :: l => uniS_ris (delS_ris (sAt_ris h))
theorem bkB_up {r : Int} : ∀ {l : List D.Mach} {o o' : Bool},(o = true → o' = true) → bkB r l o = true → bkB r l o' = true
 | [],_,_,h,h1 => h h1
 | i :: l,o,o',h,h1 => by
   rw [bkB] at h1 ⊢
   split
   · rfl
   · rename_i h2
     rw [if_neg h2] at h1
     split
     · rename_i h3; rw [if_pos h3] at h1; exact h1
     · rename_i h3; rw [if_neg h3] at h1; exact bkB_up h h1
theorem bkB_or {r : Int} : ∀ {l : List D.Mach} {o : Bool},bkB r l o = true → bkB r l false = true ∨ (o = true ∧ bkB r l true = true)
 | [],o,h => .inr ⟨h,rfl⟩
 | i :: l,o,h => by
   rw [bkB] at h ⊢
   split at h
   · rename_i h2; left; exact if_pos h2
   · rename_i h2
     rw [if_neg h2]
     split at h
     · cases h
     · rename_i h3
       rw [if_neg h3,bkB,if_neg h2,if_neg h3]; exact bkB_or h
def backB (x : D.MBlock) (p : Nat) (r : Int) (o : Bool) : Bool := bkB r (x.Ins.drop p) (o || decide (r ∈ nM9 x.End))
theorem backB_up {x : D.MBlock} {p : Nat} {r : Int} {o o' : Bool} (h : o = true → o' = true) (h1 : backB x p r o = true) : backB x p r o' = true :=
 bkB_up (fun h2 => by rw [Bool.or_eq_true] at h2 ⊢; exact h2.imp h id) h1
theorem backB_or {x : D.MBlock} {p : Nat} {r : Int} {o : Bool} (h : backB x p r o = true) : backB x p r false = true ∨ (o = true ∧ backB x p r true = true) := by
 cases o with
 | false => exact .inl h
 | true => exact .inr ⟨rfl,h⟩
theorem sAt_back {x : D.MBlock} {p : Nat} {r : Int} {E : List Int} : r ∈ sAt (x.Ins.drop p) (uniS E (nM9 x.End)) ↔ backB x p r (decide (r ∈ E)) = true := by
 rw [sAt_mem]; unfold backB
 have : decide (r ∈ uniS E (nM9 x.End)) = (decide (r ∈ E) || decide (r ∈ nM9 x.End)) := by rw [← Bool.decide_or,decide_eq_decide]; exact uniS_mem
 rw [this]
def dsts (x : D.MBlock) : List Int := x.Phis.map (fun p => p.Dst)
def phiT (x : D.MBlock) (n : Int) : List Int := x.Phis.flatMap (fun p => (p.In.filter (fun y => decide (y.From = n))).map (fun y => y.Val))
inductive LO (bs : List D.MBlock) : Nat → Int → Prop
 | phi {b : Nat} {to r : Int} : to ∈ (ix bs b).End.To → r ∈ phiT (ix bs to.toNat) b → LO bs b r
 | gen {b : Nat} {to r : Int} : to ∈ (ix bs b).End.To → r ∉ dsts (ix bs to.toNat) → backB (ix bs to.toNat) 0 r false = true → LO bs b r
 | thru {b : Nat} {to r : Int} : to ∈ (ix bs b).End.To → r ∉ dsts (ix bs to.toNat) → backB (ix bs to.toNat) 0 r true = true → LO bs to.toNat r → LO bs b r
def LI (bs : List D.MBlock) (b : Nat) (r : Int) : Prop := backB (ix bs b) 0 r false = true ∨ (backB (ix bs b) 0 r true = true ∧ LO bs b r)
theorem LI.lo {bs : List D.MBlock} {b : Nat} {to r : Int} (ht : to ∈ (ix bs b).End.To) (hd : r ∉ dsts (ix bs to.toNat)) (h : LI bs to.toNat r) : LO bs b r := h.elim (fun h => .gen ht hd h) (fun h => .thru ht hd h.1 h.2)
def endOne (bs : List D.MBlock) (I : List (List Int)) (n : Nat) (e : List Int) (to : Int) : List Int := uniS (uniS e (delS (ix I to.toNat) (dsts (ix bs to.toNat)))) (phiT (ix bs to.toNat) n)
def enS (bs : List D.MBlock) (I : List (List Int)) (n : Nat) : List Int := (ix bs n).End.To.foldl (endOne bs I n) []
theorem endF_mem {bs : List D.MBlock} {I : List (List Int)} {n : Nat} {r : Int} : ∀ {ts e : List Int},r ∈ ts.foldl (endOne bs I n) e ↔ r ∈ e ∨ ∃ to ∈ ts,(r ∈ ix I to.toNat ∧ r ∉ dsts (ix bs to.toNat)) ∨ r ∈ phiT (ix bs to.toNat) n
 | [],e => by simp
 | t :: ts,e => by
   rw [List.foldl_cons,endF_mem]
   unfold endOne
   rw [uniS_mem,uniS_mem,delS_mem]
   constructor
   · rintro (((h | h) | h) | ⟨to,h1,h2⟩)
     · exact .inl h
     · exact .inr ⟨t,by simp,.inl h⟩
     · exact .inr ⟨t,by simp,.inr h⟩
     · exact .inr ⟨to,by simp [h1],h2⟩
   · rintro (h | ⟨to,h1,h2⟩)
     · exact .inl (.inl (.inl h))
     · rcases List.mem_cons.1 h1 with rfl | h1
       · exact .inl (h2.elim (fun h => .inl (.inr h)) .inr)
       · exact .inr ⟨to,h1,h2⟩
theorem enS_mem {bs : List D.MBlock} {I : List (List Int)} {n : Nat} {r : Int} : r ∈ enS bs I n ↔ ∃ to ∈ (ix bs n).End.To,(r ∈ ix I to.toNat ∧ r ∉ dsts (ix bs to.toNat)) ∨ r ∈ phiT (ix bs to.toNat) n := by
 unfold enS; rw [endF_mem]; simp
theorem endF_ris {bs : List D.MBlock} {I : List (List Int)} {n : Nat} : ∀ {ts e : List Int},Ris e → Ris (ts.foldl (endOne bs I n) e)
 | [],_,h => h
 | _ :: ts,_,h => endF_ris (ts := ts) (uniS_ris (uniS_ris h))
theorem enS_ris {bs : List D.MBlock} {I : List (List Int)} {n : Nat} : Ris (enS bs I n) := endF_ris (by simp [Ris])
def begS (bs : List D.MBlock) (b : Nat) (e : List Int) : List Int := sAt (ix bs b).Ins (uniS e (nM9 (ix bs b).End))
theorem begS_mem {bs : List D.MBlock} {b : Nat} {e : List Int} {r : Int} : r ∈ begS bs b e ↔ backB (ix bs b) 0 r (decide (r ∈ e)) = true := by
 have := sAt_back (x := ix bs b) (p := 0) (r := r) (E := e)
 rwa [List.drop_zero] at this
structure FS (bs : List D.MBlock) (E I : List (List Int)) : Prop where
 le : E.length = bs.length
 li : I.length = bs.length
 re : ∀ b,b < bs.length → Ris (ix E b)
 ri : ∀ b,b < bs.length → Ris (ix I b)
 so : ∀ b,b < bs.length → ∀ r ∈ ix E b,LO bs b r
 si : ∀ b,b < bs.length → ∀ r ∈ ix I b,LI bs b r
 up : ∀ b,b < bs.length → ∀ r ∈ ix E b,r ∈ enS bs I b
 ui : ∀ b,b < bs.length → ∀ r ∈ ix I b,r ∈ begS bs b (ix E b)
def Fix (bs : List D.MBlock) (E I : List (List Int)) (b : Nat) : Prop := ix E b = enS bs I b ∧ ix I b = begS bs b (ix E b)
theorem ixN {n b : Nat} : ix (List.replicate n ([] : List Int)) b = [] := by
 by_cases hj : b < n
 · simp [ix,hj]
 · simp [ix,hj]; rfl
section
variable {bs : List D.MBlock} {E I : List (List Int)} {b : Nat}
theorem FS.start : FS bs (List.replicate bs.length []) (List.replicate bs.length []) where
 le := by simp
 li := by simp
 re := fun b _ => by rw [ixN]; simp [Ris]
 ri := fun b _ => by rw [ixN]; simp [Ris]
 so := fun b _ r h => by rw [ixN] at h; cases h
 si := fun b _ r h => by rw [ixN] at h; cases h
 up := fun b _ r h => by rw [ixN] at h; cases h
 ui := fun b _ r h => by rw [ixN] at h; cases h
theorem ixS {l : List (List Int)} {n b j : Nat} {x : List Int} (hl : l.length = n) (hb : b < n) : ix (l.set b x) j = if j = b then x else ix l j := by rw [ix_set (by omega)]
theorem begS_mono {e e' : List Int} (h : ∀ r ∈ e,r ∈ e') : ∀ r ∈ begS bs b e,r ∈ begS bs b e' := fun r hr => by
 rw [begS_mem] at hr ⊢
 exact backB_up (fun h1 => by simp at h1 ⊢; exact h r h1) hr
theorem enS_mono {I' : List (List Int)} {n : Nat} (h : ∀ j,∀ r ∈ ix I j,r ∈ ix I' j) : ∀ r ∈ enS bs I n,r ∈ enS bs I' n := fun r hr => by
 rw [enS_mem] at hr ⊢
 obtain ⟨to,h1,h2⟩ := hr
 exact ⟨to,h1,h2.imp (fun h3 => ⟨h _ r h3.1,h3.2⟩) id⟩
theorem FS.step (h : FS bs E I) (hb : b < bs.length) (hT : ∀ to ∈ (ix bs b).End.To,to.toNat < bs.length) :
   FS bs (E.set b (enS bs I b)) (I.set b (begS bs b (enS bs I b))) ∧ (∀ r ∈ ix E b,r ∈ enS bs I b) ∧ ∀ r ∈ ix I b,r ∈ begS bs b (enS bs I b) := by
 have h1 := h.up b hb
 have h2 : ∀ r ∈ ix I b,r ∈ begS bs b (enS bs I b) := fun r hr => begS_mono h1 r (h.ui b hb r hr)
 have hI : ∀ j,∀ r ∈ ix I j,r ∈ ix (I.set b (begS bs b (enS bs I b))) j := fun j r hr => by
   rw [ixS h.li hb]; split
   · rename_i e; subst e; exact h2 r hr
   · exact hr
 have hE : ∀ j,∀ r ∈ ix E j,r ∈ ix (E.set b (enS bs I b)) j := fun j r hr => by
   rw [ixS h.le hb]; split
   · rename_i e; subst e; exact h1 r hr
   · exact hr
 have hso : ∀ r ∈ enS bs I b,LO bs b r := fun r hr => by
   obtain ⟨to,h3,h4⟩ := enS_mem.1 hr
   rcases h4 with h4 | h4
   · exact LI.lo h3 h4.2 (h.si _ (hT to h3) r h4.1)
   · exact .phi h3 h4
 refine ⟨⟨by simp [h.le],by simp [h.li],fun j hj => ?_,fun j hj => ?_,fun j hj r hr => ?_,fun j hj r hr => ?_,fun j hj r hr => ?_,fun j hj r hr => ?_⟩,h1,h2⟩
 · rw [ixS h.le hb]; split; exact enS_ris; exact h.re j hj
 · rw [ixS h.li hb]; split; exact sAt_ris (uniS_ris enS_ris); exact h.ri j hj
 · rw [ixS h.le hb] at hr; split at hr
   · rename_i e; subst e; exact hso r hr
   · exact h.so j hj r hr
 · rw [ixS h.li hb] at hr; split at hr
   · rename_i e; subst e
     rw [begS_mem] at hr
     rcases backB_or hr with h3 | h3
     · exact .inl h3
     · exact .inr ⟨h3.2,hso r (by simpa using h3.1)⟩
   · exact h.si j hj r hr
 · refine enS_mono hI r ?_
   rw [ixS h.le hb] at hr; split at hr
   · rename_i e; subst e; exact hr
   · exact h.up j hj r hr
 · rw [ixS h.li hb] at hr; split at hr
   · rename_i e; subst e; rw [ixS h.le hb,if_pos rfl]; exact hr
   · rename_i e; rw [ixS h.le hb,if_neg e]; exact h.ui j hj r hr
theorem FS.done (h : FS bs E I) (hT : ∀ b,b < bs.length → ∀ to ∈ (ix bs b).End.To,to.toNat < bs.length) (hF : ∀ b,b < bs.length → Fix bs E I b) {b : Nat} {r : Int} (hL : LO bs b r) : b < bs.length → r ∈ ix E b := by
 induction hL with
 | phi h1 h2 => intro hb; rw [(hF _ hb).1,enS_mem]; exact ⟨_,h1,.inr h2⟩
 | gen h1 h2 h3 =>
   intro hb
   have ht := hT _ hb _ h1
   rw [(hF _ hb).1,enS_mem]
   refine ⟨_,h1,.inl ⟨?_,h2⟩⟩
   rw [(hF _ ht).2,begS_mem]
   exact backB_up (fun h => by cases h) h3
 | thru h1 h2 h3 h4 ih =>
   intro hb
   have ht := hT _ hb _ h1
   rw [(hF _ hb).1,enS_mem]
   refine ⟨_,h1,.inl ⟨?_,h2⟩⟩
   rw [(hF _ ht).2,begS_mem]
   have := ih ht
   simpa [this] using h3
end
def tot : List (List Int) → Nat
 | [] => 0
 | x :: l => x.length + tot l
theorem tot_set : ∀ {l : List (List Int)} {b : Nat} {x : List Int},b < l.length → tot (l.set b x) + (ix l b).length = tot l + x.length
 | y :: l,0,x,_ => by rw [List.set_cons_zero,tot,tot,ix_zero]; omega
 | y :: l,b + 1,x,h => by rw [List.set_cons_succ,tot,tot,ix_cons]; have := tot_set (l := l) (b := b) (x := x) (by simpa using h); omega
theorem ris_len : ∀ {l : List Int} {lo hi : Int},Ris l → lo ≤ hi → (∀ x ∈ l,lo ≤ x ∧ x < hi) → (l.length : Int) ≤ hi - lo
 | [],_,_,_,h,_ => by simp; omega
 | x :: l,lo,hi,hr,hlo,h => by
   rw [Ris,List.pairwise_cons] at hr
   have hx := h x (by simp)
   have := ris_len (l := l) (lo := x + 1) (hi := hi) hr.2 (by omega) (fun y hy => by have := hr.1 y hy; have := h y (by simp [hy]); omega)
   simp; omega
theorem tot_le {N : Nat} : ∀ {l : List (List Int)},(∀ x ∈ l,x.length ≤ N) → tot l ≤ N * l.length
 | [],_ => by simp [tot]
 | x :: l,h => by
   have h1 := h x (by simp)
   have h2 := tot_le (l := l) (fun y hy => h y (by simp [hy]))
   rw [tot,List.length_cons,Nat.mul_add]; omega
theorem ris_sub : ∀ {a b : List Int},Ris a → Ris b → (∀ x ∈ a,x ∈ b) → a.length ≤ b.length ∧ (a.length = b.length → a = b)
 | [],b,_,_,_ => ⟨Nat.zero_le _,fun h => (List.eq_nil_of_length_eq_zero h.symm).symm⟩
 | x :: a,[],_,_,h => absurd (h x (by simp)) (by simp)
 | x :: a,y :: b,ha,hb,h => by
   have ha' := List.pairwise_cons.1 ha
   have hb' := List.pairwise_cons.1 hb
   by_cases e : x = y
   · subst e
     have := ris_sub ha'.2 hb'.2 (fun z hz => by
       rcases List.mem_cons.1 (h z (by simp [hz])) with e | e
       · subst e; have := ha'.1 z hz; omega
       · exact e)
     refine ⟨by simp; omega,fun e => ?_⟩
     rw [this.2 (by simpa using e)]
   · have hx : x ∈ b := (List.mem_cons.1 (h x (by simp))).resolve_left e
     have hxy := hb'.1 x hx
     have := ris_sub ha hb'.2 (fun z hz => by
       have hzy : y < z := by
         rcases List.mem_cons.1 hz with rfl | hz
         · exact hxy
         · have := ha'.1 z hz; omega
       exact (List.mem_cons.1 (h z hz)).resolve_left (by omega))
     exact ⟨by have := this.1; simp at this ⊢; omega,fun e => by have := this.1; simp at this e; omega⟩
def rnd (bs : List D.MBlock) : Nat → List (List Int) × List (List Int) → List (List Int) × List (List Int)
 | 0,s => s
 | b + 1,s => rnd bs b (s.1.set b (enS bs s.2 b),s.2.set b (begS bs b (enS bs s.2 b)))
def itR (bs : List D.MBlock) : Nat → List (List Int) × List (List Int) → List (List Int) × List (List Int)
 | 0,s => s
 | k + 1,s => itR bs k (rnd bs bs.length s)
def loE (bs : List D.MBlock) : List (List Int) := (itR bs (16384 * bs.length + 1) (List.replicate bs.length [],List.replicate bs.length [])).1
structure WL (bs : List D.MBlock) : Prop where
 to : ∀ b,b < bs.length → ∀ t ∈ (ix bs b).End.To,1 ≤ t ∧ t < bs.length
 rg : ∀ b,b < bs.length → (∀ i ∈ (ix bs b).Ins,(∀ r ∈ takesM i,Rg r) ∧ ∀ r ∈ makesM i,Rg r) ∧ (∀ r ∈ nM9 (ix bs b).End,Rg r) ∧ ∀ p ∈ (ix bs b).Phis,Rg p.Dst ∧ ∀ x ∈ p.In,Rg x.Val
section
variable {bs : List D.MBlock} {E I : List (List Int)}
theorem WL.t (h : WL bs) {b : Nat} (hb : b < bs.length) : ∀ to ∈ (ix bs b).End.To,to.toNat < bs.length := fun t ht => by have := h.to b hb t ht; omega
theorem bkB_rg {r : Int} : ∀ {l : List D.Mach} {o : Bool},(∀ i ∈ l,∀ r ∈ takesM i,Rg r) → bkB r l o = true → Rg r ∨ o = true
 | [],_,_,h => .inr h
 | i :: l,o,hl,h => by
   rw [bkB] at h; split at h
   · rename_i h1; exact .inl (hl i (by simp) r h1)
   · split at h
     · cases h
     · exact bkB_rg (fun j hj => hl j (by simp [hj])) h
theorem WL.lo (h : WL bs) {b : Nat} {r : Int} (hL : LO bs b r) : b < bs.length → Rg r := by
 induction hL with
 | phi h1 h2 =>
   intro hb
   obtain ⟨p,h3,h4⟩ := List.mem_flatMap.1 h2
   obtain ⟨y,h5,rfl⟩ := List.mem_map.1 h4
   exact ((h.rg _ (h.t hb _ h1)).2.2 p h3).2 y (List.mem_filter.1 h5).1
 | gen h1 h2 h3 =>
   intro hb
   have hr := h.rg _ (h.t hb _ h1)
   unfold backB at h3
   rw [List.drop_zero] at h3
   rcases bkB_rg (fun i hi => (hr.1 i hi).1) h3 with h4 | h4
   · exact h4
   · exact hr.2.1 _ (by simpa using h4)
 | thru h1 h2 h3 h4 ih => intro hb; exact ih (h.t hb _ h1)
theorem WL.li (h : WL bs) {b : Nat} {r : Int} (hb : b < bs.length) (hL : LI bs b r) : Rg r := by
 rcases hL with h3 | h3
 · have hr := h.rg _ hb
   unfold backB at h3
   rw [List.drop_zero] at h3
   rcases bkB_rg (fun i hi => (hr.1 i hi).1) h3 with h4 | h4
   · exact h4
   · exact hr.2.1 _ (by simpa using h4)
 · exact h.lo h3.2 hb
theorem FS.small (h : FS bs E I) (hw : WL bs) : tot E + tot I ≤ 16384 * bs.length := by
 have h1 : tot E ≤ 8192 * E.length := tot_le fun x hx => by
   obtain ⟨b,hb,e⟩ := List.getElem_of_mem hx
   have hb' : b < bs.length := by rw [← h.le]; exact hb
   have e2 : ix E b = x := by rw [ix_eq hb]; exact e
   have := ris_len (l := x) (lo := 0) (hi := 8192) (by rw [← e2]; exact h.re b hb') (by omega) (fun r hr => by rw [← e2] at hr; exact hw.lo (h.so b hb' r hr) hb')
   omega
 have h2 : tot I ≤ 8192 * I.length := tot_le fun x hx => by
   obtain ⟨b,hb,e⟩ := List.getElem_of_mem hx
   have hb' : b < bs.length := by rw [← h.li]; exact hb
   have e2 : ix I b = x := by rw [ix_eq hb]; exact e
   have := ris_len (l := x) (lo := 0) (hi := 8192) (by rw [← e2]; exact h.ri b hb') (by omega) (fun r hr => by rw [← e2] at hr; exact hw.li hb' (h.si b hb' r hr))
   omega
 rw [h.le] at h1; rw [h.li] at h2; omega
theorem FS.grow (h : FS bs E I) {b : Nat} (hb : b < bs.length) (hT : ∀ to ∈ (ix bs b).End.To,to.toNat < bs.length) :
   tot E + tot I ≤ tot (E.set b (enS bs I b)) + tot (I.set b (begS bs b (enS bs I b))) ∧
   ((enS bs I b).length + (begS bs b (enS bs I b)).length = (ix E b).length + (ix I b).length → Fix bs E I b ∧ E.set b (enS bs I b) = E ∧ I.set b (begS bs b (enS bs I b)) = I) ∧
   ((enS bs I b).length + (begS bs b (enS bs I b)).length ≠ (ix E b).length + (ix I b).length → tot E + tot I < tot (E.set b (enS bs I b)) + tot (I.set b (begS bs b (enS bs I b)))) := by
 obtain ⟨_,h1,h2⟩ := h.step hb hT
 have s1 := ris_sub (h.re b hb) (enS_ris (bs := bs) (I := I) (n := b)) h1
 have s2 : (ix I b).length ≤ (begS bs b (enS bs I b)).length ∧ ((ix I b).length = (begS bs b (enS bs I b)).length → ix I b = begS bs b (enS bs I b)) := ris_sub (h.ri b hb) (sAt_ris (uniS_ris enS_ris)) h2
 have t1 := tot_set (l := E) (b := b) (x := enS bs I b) (by rw [h.le]; exact hb)
 have t2 := tot_set (l := I) (b := b) (x := begS bs b (enS bs I b)) (by rw [h.li]; exact hb)
 refine ⟨by omega,fun e => ?_,fun e => by omega⟩
 have e1 := s1.2 (by omega)
 have e2 := s2.2 (by omega)
 refine ⟨⟨e1,by rw [e1]; exact e2⟩,?_,?_⟩
 · have hb' : b < E.length := by rw [h.le]; exact hb
   rw [← e1,ix_eq hb']; exact List.set_getElem_self _
 · have hb' : b < I.length := by rw [h.li]; exact hb
   rw [← e2,ix_eq hb']; exact List.set_getElem_self _
theorem rnd_fs (hw : WL bs) : ∀ (b : Nat) (s : List (List Int) × List (List Int)),b ≤ bs.length → FS bs s.1 s.2 → FS bs (rnd bs b s).1 (rnd bs b s).2 ∧ tot s.1 + tot s.2 ≤ tot (rnd bs b s).1 + tot (rnd bs b s).2 ∧
   (tot s.1 + tot s.2 = tot (rnd bs b s).1 + tot (rnd bs b s).2 → rnd bs b s = s ∧ ∀ j,j < b → Fix bs s.1 s.2 j)
 | 0,s,_,h => ⟨h,Nat.le_refl _,fun _ => ⟨rfl,fun j hj => by omega⟩⟩
 | b + 1,s,hb,h => by
   have hs := h.step (b := b) (by omega) (hw.t (by omega))
   obtain ⟨g1,g2,g3⟩ := h.grow (b := b) (by omega) (hw.t (by omega))
   obtain ⟨a1,a2,a3⟩ := rnd_fs hw b (s.1.set b (enS bs s.2 b),s.2.set b (begS bs b (enS bs s.2 b))) (by omega) hs.1
   rw [rnd]
   dsimp only at a1 a2 a3
   refine ⟨a1,by omega,fun e => ?_⟩
   have e1 : (enS bs s.2 b).length + (begS bs b (enS bs s.2 b)).length = (ix s.1 b).length + (ix s.2 b).length := Classical.byContradiction fun hne => by have := g3 hne; omega
   obtain ⟨f1,f2,f3⟩ := g2 e1
   obtain ⟨c1,c2⟩ := a3 (by omega)
   rw [f2,f3] at c1 c2
   refine ⟨by rw [f2,f3]; exact c1,fun j hj => ?_⟩
   by_cases e2 : j = b
   · subst e2; exact f1
   · exact c2 j (by omega)
theorem itR_fix (hw : WL bs) : ∀ (k : Nat) (s : List (List Int) × List (List Int)),FS bs s.1 s.2 → FS bs (itR bs k s).1 (itR bs k s).2 ∧ ((∀ j,j < bs.length → Fix bs (itR bs k s).1 (itR bs k s).2 j) ∨ tot s.1 + tot s.2 + k ≤ tot (itR bs k s).1 + tot (itR bs k s).2)
 | 0,s,h => ⟨h,.inr (Nat.le_refl _)⟩
 | k + 1,s,h => by
   obtain ⟨a1,a2,a3⟩ := rnd_fs hw bs.length s (Nat.le_refl _) h
   rw [itR]
   obtain ⟨b1,b2⟩ := itR_fix hw k (rnd bs bs.length s) a1
   refine ⟨b1,?_⟩
   rcases b2 with b2 | b2
   · exact .inl b2
   · by_cases e : tot s.1 + tot s.2 = tot (rnd bs bs.length s).1 + tot (rnd bs bs.length s).2
     · obtain ⟨c1,c2⟩ := a3 e
       left
       rw [c1]
       have : ∀ k,itR bs k s = s := fun k => by
         induction k with
         | zero => rfl
         | succ k ih => rw [itR,c1]; exact ih
       rw [this]; exact c2
     · right; omega
theorem loE_fs (hw : WL bs) : ∃ I,FS bs (loE bs) I ∧ ∀ j,j < bs.length → Fix bs (loE bs) I j := by
 obtain ⟨a,b⟩ := itR_fix hw (16384 * bs.length + 1) (List.replicate bs.length [],List.replicate bs.length []) FS.start
 refine ⟨_,a,?_⟩
 rcases b with b | b
 · exact b
 · have := a.small hw; omega
theorem loE_len (hw : WL bs) : (loE bs).length = bs.length := by obtain ⟨I,h,_⟩ := loE_fs hw; exact h.le
theorem loE_ris (hw : WL bs) {b : Nat} (hb : b < bs.length) : Ris (ix (loE bs) b) := by obtain ⟨I,h,_⟩ := loE_fs hw; exact h.re b hb
theorem loE_mem (hw : WL bs) {b : Nat} (hb : b < bs.length) {r : Int} : r ∈ ix (loE bs) b ↔ LO bs b r := by
 obtain ⟨I,h,hF⟩ := loE_fs hw
 exact ⟨h.so b hb r,fun hL => h.done (fun b hb => hw.t hb) hF hL hb⟩
theorem FS.eq (h : FS bs E I) (hw : WL bs) (hF : ∀ j,j < bs.length → Fix bs E I j) : E = loE bs := by
 refine List.ext_getElem (by rw [h.le,loE_len hw]) fun j h1 h2 => ?_
 have hj : j < bs.length := by rw [← h.le]; exact h1
 have e1 : ix E j = E[j] := ix_eq h1
 have e2 : ix (loE bs) j = (loE bs)[j] := ix_eq h2
 rw [← e1,← e2]
 exact ris_ext (h.re j hj) (loE_ris hw hj) fun r => by rw [loE_mem hw hj]; exact ⟨h.so j hj r,fun hL => h.done (fun b hb => hw.t hb) hF hL hj⟩
end
abbrev U86 := @Tryz.underlying86
theorem foldl_take {α β : Type} [Inhabited β] (f : α → β → α) (a : α) {l : List β} {k : Nat} (h : k < l.length) : (l.take (k + 1)).foldl f a = f ((l.take k).foldl f a) (ix l k) := by rw [take_ix h,List.foldl_append]; rfl
theorem without_ct {g0 B0 : Nat} {S0 : List Int} {a1 : Value} {l : List Int} {N1 : Nat} : Tr Tryz.prog 109 #[.map (some g0),a1] [dv (rLn N1 (rI .i64)) a1 l] [sm B0 g0 S0] (fun _ : Unit => .tuple #[]) (fun _ => []) (fun _ _ => [sm B0 g0 (delS S0 l)]) := by
 refine jenter (args := [.map (some g0),a1]) Tryz.func109 rfl rfl rfl fun w0 X => ?_
 refine jq (jr (jm Z (jdq d0 fun q1 w1 => js (jln U22 d0 Z) (jm Z (jn (jx (jb ?_)))))))
 refine jlp (u2 fun (k : Nat) (Sk : List Int) => ⟨k ≤ l.length ∧ Sk = delS S0 (l.take k),[dv (rLn N1 (rI .i64)) a1 l],[sm B0 g0 Sk],[(0,(.map (some g0))),(6,a1),(7,.int .i64 (↑(List.length l))),(8,.int .i64 (↑k))],l.length - k⟩) (0,S0) ⟨by dsimp only; omega,rfl⟩ (dc d0 dn) (kc k0 kn) ⟨Z,Z,Z,eqI (by omega),trivial⟩ ?_
 rintro ⟨k,Sk⟩; dsimp only [u2]; rintro ⟨hk,hS⟩
 refine jq (jr (js (jlss Z Z) (jn (jx (jq ?_)))))
 refine jif Z (fun hc1 => ?_) (fun hc1 => ?_)
 refine jsk (jx (jq (jb (jq (jr (js (jix U22 Z3 d0 Z Z Z (by omega)) (js (jlI (dix d0 k (by omega)) O3 Z) (ja Z (jn (jx (jr ?_)))))))))))
 refine jm Z (jm Z (jsd U86 U3 k0 Z Z (jn (jbn (jx (jr (js (jadd Z Z (by omega)) (jm Z (jn ?_)))))))))
 exact jag (k + 1,zOut (ix l k) Sk) ⟨by dsimp only; omega,by dsimp only; unfold delS; rw [foldl_take _ _ (by omega)]; exact congrArg (zOut (ix l k)) hS⟩ (dc d0 dn) (kc k0 kn) ⟨Z,Z,Z,eqI (by omega),trivial⟩
 refine jex (jtx (jtx (jbh ?_)))
 exact jd0 Z () Z dn (fun _ _ => kcs (by rw [hS,List.take_of_length_le (by omega)]) k0 kn)
theorem with_ct {g0 B0 : Nat} {S0 : List Int} {a1 : Value} {l : List Int} {N1 : Nat} : Tr Tryz.prog 110 #[.map (some g0),a1] [dv (rLn N1 (rI .i64)) a1 l] [sm B0 g0 S0] (fun _ : Unit => .tuple #[]) (fun _ => []) (fun _ _ => [sm B0 g0 (uniS S0 l)]) := by
 refine jenter (args := [.map (some g0),a1]) Tryz.func110 rfl rfl rfl fun w0 X => ?_
 refine jq (jr (jm Z (jdq d0 fun q1 w1 => js (jln U22 d0 Z) (jm Z (jn (jx (jb ?_)))))))
 refine jlp (u2 fun (k : Nat) (Sk : List Int) => ⟨k ≤ l.length ∧ Sk = uniS S0 (l.take k),[dv (rLn N1 (rI .i64)) a1 l],[sm B0 g0 Sk],[(0,(.map (some g0))),(6,a1),(7,.int .i64 (↑(List.length l))),(8,.int .i64 (↑k))],l.length - k⟩) (0,S0) ⟨by dsimp only; omega,rfl⟩ (dc d0 dn) (kc k0 kn) ⟨Z,Z,Z,eqI (by omega),trivial⟩ ?_
 rintro ⟨k,Sk⟩; dsimp only [u2]; rintro ⟨hk,hS⟩
 refine jq (jr (js (jlss Z Z) (jn (jx (jq ?_)))))
 refine jif Z (fun hc1 => ?_) (fun hc1 => ?_)
 refine jsk (jx (jq (jb (jq (jr (js (jix U22 Z3 d0 Z Z Z (by omega)) (js (jlI (dix d0 k (by omega)) O3 Z) (ja Z (jn (jx (jr ?_)))))))))))
 refine jm Z (jm Z (jsu U86 U3 k0 Z Z Z (jn (jbn (jx (jr (js (jadd Z Z (by omega)) (jm Z (jn ?_)))))))))
 exact jag (k + 1,zIn (ix l k) Sk) ⟨by dsimp only; omega,by dsimp only; unfold uniS; rw [foldl_take _ _ (by omega)]; exact congrArg (zIn (ix l k)) hS⟩ (dc d0 dn) (kc k0 kn) ⟨Z,Z,Z,eqI (by omega),trivial⟩
 refine jex (jtx (jtx (jbh ?_)))
 exact jd0 Z () Z dn (fun _ _ => kcs (by rw [hS,List.take_of_length_le (by omega)]) k0 kn)
theorem vis_nd {vis : List Int} {y : Int} (h : vis.Nodup) (hn : y ∉ vis) : (vis ++ [y]).Nodup := by
 rw [List.nodup_append]; exact ⟨h,by simp,fun a ha b hb => by simp at hb; subst hb; rintro rfl; exact hn ha⟩
theorem vis_in {vis S : List Int} {y : Int} (h : ∀ z ∈ vis,z ∈ S) (hy : y ∈ S) : ∀ z ∈ vis ++ [y],z ∈ S := fun z hz => by
 rcases List.mem_append.1 hz with hz | hz
 · exact h z hz
 · simp at hz; subst hz; exact hy
theorem vis_zin {vis So : List Int} {x : Int} (h : ∀ y,y ∈ So ↔ y ∈ vis) (y : Int) : y ∈ zIn x So ↔ y ∈ vis ++ [x] := by
 rw [zIn_mem,h]; simp [or_comm]
theorem vis_lt {vis S : List Int} {y : Int} (h : vis.Nodup) (hs : ∀ z ∈ vis,z ∈ S) (hy : y ∈ S) (hn : y ∉ vis) : vis.length < S.length := by
 have h1 := (vis_nd h hn).length_le_of_subset (l₂ := S) (fun z hz => vis_in hs hy z hz)
 simp at h1; omega
theorem vis_len {vis S : List Int} (h : vis.Nodup) (hs : ∀ z ∈ vis,z ∈ S) : vis.length ≤ S.length := h.length_le_of_subset hs
theorem vis_all {vis S : List Int} (hs : ∀ z ∈ vis,z ∈ S) (h : ∀ y ∈ S,y ∈ vis) (y : Int) : y ∈ vis ↔ y ∈ S := ⟨hs y,h y⟩
theorem setClone_ct {a0 : Value} {S0 : List Int} : Tr Tryz.prog 108 #[a0] [dv rSet a0 (some S0)] [] (fun g : Nat => .map (some g)) (fun _ => []) (fun B g => [sm B g S0]) := by
 refine jenter (args := [a0]) Tryz.func108 rfl rfl rfl fun w0 X => ?_
 refine csR d0 fun hris => jq (jr (ja Z (jn (jx (jq (jr (jsm fun g5 => ja Z (jn (jx ?_)))))))))
 refine jq (jq (jr (jm Z (jrs U86 d0 Z fun g7 => jn (jx (jb ?_))))))
 refine jlp (u2 fun (vis : List Int) (So : List Int) => ⟨vis.Nodup ∧ (∀ y ∈ vis,y ∈ S0) ∧ Ris So ∧ (∀ y,y ∈ So ↔ y ∈ vis),[dv rSet a0 (some S0)],[sit g7 a0 S0 vis,sm X.n g5 So],[(2,.map none),(3,(.map (some g5))),(7,(.pointer (some ⟨g7,0,none⟩)))],S0.length - vis.length⟩) ([],[]) ⟨by simp,by simp,by simp [Ris],by simp⟩ (dc d0 dn) (kd kn) ⟨Z,Z,Z,trivial⟩ ?_
 rintro ⟨vis,So⟩; dsimp only [u2]; rintro ⟨hvn,hvs,hro,hso⟩
 refine jq (jr ?_)
 refine jns k0 Z (fun hd1 => ?_) (fun y1 hy1 hn1 => ?_)
 refine js (jex' Z Z) (jn (jx (jq ?_)))
 refine jif Z (fun hc1 => ?_) (fun hc1 => ?_)
 exact absurd hc1 (by simp)
 refine jex (jtx (jtx (jbh (jx (jq (jr (jm Z (ja Z (jn (jx (jrt ?_)))))))))))
 exact jr1 Z Z g5 Z dn (fun _ hB => klS (ris_ext hris hro (fun y => by rw [hso,vis_all hvs hd1])) hB k1 kn)
 have hlt1 := vis_lt hvn hvs hy1 hn1
 refine js (jex' Z Z) (jn (jx (jq ?_)))
 refine jif Z (fun hc2 => ?_) (fun hc2 => ?_)
 refine jsk (jx (jb (jq (jr (js (jes k0 hy1 Z) (js (jex' Z Z) (ja Z (jn (jx (jr (jm Z ?_)))))))))))
 refine jm Z (jsu U86 U3 k1 Z Z Z (jn (jbn ?_)))
 exact jag (vis ++ [y1],zIn y1 So) ⟨vis_nd hvn hn1,vis_in hvs hy1,zIn_ris hro,fun y => vis_zin hso y⟩ (dc d0 dn) (kc k1 (kc k0 kn)) ⟨Z,Z,Z,trivial⟩ (by dsimp only [u2]; rw [List.length_append]; simp; omega)
 exact absurd hc2 (by simp)
open Go.Shelf Go.JE
shelf_lay Lays.n189 Nm 189 at Tryz as Tryz.lays189
open Go.Sort Go.RowKit in
theorem Tryz.sort_int (blk off cap : Nat) (zs : List Int) (w : World) (hH : Holds (Value.int .i64) w blk off zs.toArray) (hblk : blk < w.heap.size) (hsz : zs.length < 4611686018427387904) :
   Calls Tryz.prog 67 #[.slice (some ⟨blk,off,none⟩) zs.length cap] w fun e w' =>
     e = .returned (.tuple #[]) ∧ ∃ n os,w' = grow (putRow (Value.int .i64) (Sort.ahead w n) blk off (zs.mergeSort fun x y => decide (x ≤ y)).toArray) os := Any.slices_Sort_int Tryz.lays189 blk off cap zs w hH hblk hsz
theorem Tryz.sort_none (p : Option Addr) (cap : Nat) (w : World) :
   Calls Tryz.prog 67 #[.slice p 0 cap] w fun e w' => e = .returned (.tuple #[]) ∧ w' = w := Any.slices_Sort_int_none Tryz.lays189 p cap w
def sortM (l : List Int) : List Int := l.mergeSort fun x y => decide (x ≤ y)
open Go.Sort Go.RowKit in
theorem sort_ct {F : PH} {H : Heap} (hin : InH F H) {B : Nat} {v : Value} {l : List Int} (p : Gl (rI .i64) 3 F H B v l) (hl : l.length < 1073741824) :
   Ct Tryz.prog 67 #[v] H (fun u H' => u = .tuple #[] ∧ Kw (own1 v) H H' ∧ Gl (rI .i64) 3 F H' B v (sortM l)) := by
 obtain ⟨xs,o1,o2,o3⟩ := p
 have hlen : (sortM l).length = l.length := List.length_mergeSort l
 intro w hw
 rcases o1.2 with ⟨rfl,e2⟩ | ⟨g,cap,cur,rfl,hb,hg,hc1,hc2,hc3,hc4⟩
 · refine (Tryz.sort_none none 0 w).mono ?_
   rintro e w' ⟨rfl,rfl⟩
   have hn : l = [] := List.eq_nil_of_length_eq_zero e2
   subst hn
   refine ⟨_,rfl,rfl,rfl,rfl,rfl,by rw [hw]; exact Kw.refl _ _,?_⟩
   rw [show sortM [] = [] from by simp [sortM]]; exact Gl.nil _ _ _
 · have hgl : g < w.heap.size := by rw [hw]; exact (Array.getElem?_eq_some_iff.1 hg).1
   have hxl : xs.length = l.length := by have := o1.1; rw [show (rI .i64).sz = 1 from rfl,Nat.mul_one] at this; exact this
   have hxs : xs = l.map (Value.int .i64) := by
     apply List.ext_getElem (by rw [hxl,List.length_map])
     intro i h1 h2
     rw [List.getElem_map]
     have : xs.getD (i * 1 + 0) undef = Value.int .i64 l[i] := (o3 i (by omega)).1
     rw [Nat.mul_one,Nat.add_zero,List.getD_eq_getElem?_getD,List.getElem?_eq_getElem h1] at this
     exact this
   have ht : cur.toList.take l.length = l.map (Value.int .i64) := by
     rw [← hxs,← hc4,show (rI .i64).sz = 1 from rfl,Nat.mul_one]
   have hH := holds_of_blockI (w := w) (g := g) (cur := cur) (e := 3) (ss := l) (by rw [hw]; exact hg) ht
   refine (Tryz.sort_int g 0 cap l w hH hgl (by omega)).mono ?_
   rintro e w' ⟨rfl,n,os,rfl⟩
   have hgb := grownBy_sortedI (w := w) (g := g) (n := n) (os := os) (sortM l).toArray
   have hro := ownsRow_sortedI (w := w) (base := B) (g := g) (cap := cap) (n := n) (e := 3) (os := os) (cur := cur) (ss := l) (ts := sortM l) hlen hb (by rw [hw]; exact hg) hc1 hc2 hc3
   refine ⟨_,rfl,hgb.os,hgb.tape,hgb.output,rfl,⟨by rw [← hw]; exact hgb.size,fun k hk hn => ?_⟩,?_⟩
   · rw [← hw] at hk ⊢
     exact hgb.block k hk (fun e1 => hn (show some g = some k from e1.symm))
   · refine ⟨(sortM l).map (Value.int .i64),?_,o2,fun i hi => ?_⟩
     · rw [hlen]; exact Gr.owns.1 hro
     · have hm : (sortM l)[i] ∈ l := (List.mergeSort_perm l _).subset (List.getElem_mem hi)
       obtain ⟨j,hj,e1⟩ := List.getElem_of_mem hm
       refine ⟨?_,?_⟩
       · show ((sortM l).map (Value.int .i64)).getD (i * 1 + 0) undef = _
         rw [Nat.mul_one,Nat.add_zero,List.getD_eq_getElem?_getD,List.getElem?_map,List.getElem?_eq_getElem hi]; rfl
       · rw [← e1]; exact (o3 j hj).2
open Go.JE in
theorem sortT {B : Nat} {v : Value} {l : List Int} (hl : l.length < 1073741824) : Tr Tryz.prog 67 #[v] [] [gl B (rI .i64) 3 v l] (fun _ : Unit => .tuple #[]) (fun _ => []) (fun _ _ => [gl B (rI .i64) 3 v (sortM l)]) := fun F H hin _ ho =>
 (sort_ct hin ho.1.1 hl).mono fun u H' ⟨h1,h2,h3⟩ => ⟨(),F,h1,fun B' _ => ⟨PH.ext.refl F,hin.kw h2 (fun k hk => ho.1.1.no k hk),⟨h2.1,fun k hk hn => h2.2 k hk (fun h => hn (.inl h))⟩,trivial,⟨⟨h3,Nat.le_trans ho.1.2 h2.1⟩,fun _ _ => id,trivial⟩,fun k hk => .inr hk⟩⟩
theorem sortM_mem {l : List Int} {x : Int} : x ∈ sortM l ↔ x ∈ l := (List.mergeSort_perm l _).mem_iff
theorem sortM_le (l : List Int) : (sortM l).Pairwise (· ≤ ·) := by
 have h := List.pairwise_mergeSort (le := fun x y : Int => decide (x ≤ y)) (fun a b c h1 h2 => by simp at *; omega) (fun a b => by simp; omega) l
 exact h.imp (fun h => by simpa using h)
theorem sortM_nodup {l : List Int} (h : l.Nodup) : (sortM l).Nodup := (List.mergeSort_perm l _).nodup_iff.2 h
theorem E67 : Ent Tryz.prog 67 := ⟨_,Tryz.func67,by kernel_rfl,by kernel_rfl⟩
theorem sort_ris {vis S : List Int} (hn : vis.Nodup) (hr : Ris S) (h : ∀ y,y ∈ vis ↔ y ∈ S) : sortM vis = S := by
 refine ris_ext ?_ hr (fun y => by rw [sortM_mem,h])
 have h1 := sortM_le vis
 have h2 := sortM_nodup hn
 exact (h1.and h2).imp (fun ⟨a,b⟩ => by omega)
theorem sorted_ct {a0 : Value} {S0 : List Int} (hw : ∀ y ∈ S0,IntKind.i64.wrap y = y) (hsz : S0.length < 1000000) : Tg Tryz.prog 39 #[a0] [dv rSet a0 (some S0)] [] (rI .i64) 3 S0 := by
 refine jenter (args := [a0]) Tryz.func39 rfl rfl rfl fun w0 X => ?_
 refine csR d0 fun hris => jq (jr (ja Z (jn (jx (jq (jr (ja Z (jn (jx (jq ?_))))))))))
 refine jq (jr (jm Z (jrs U86 d0 Z fun g6 => jn (jx (jb (cnl (r := (rI .i64)) (E := 3) ?_))))))
 refine jlp (u2 fun (vis : List Int) (vo : Value) => ⟨vis.Nodup ∧ (∀ y ∈ vis,y ∈ S0),[dv rSet a0 (some S0)],[gl X.n (rI .i64) 3 vo vis,sit g6 a0 S0 vis],[(2,.slice none 0 0),(3,vo),(6,(.pointer (some ⟨g6,0,none⟩)))],S0.length - vis.length⟩) ([],.slice none 0 0) ⟨by simp,by simp⟩ (dc d0 dn) (kd kn) ⟨Z,Z,Z,trivial⟩ ?_
 rintro ⟨vis,vo⟩; dsimp only [u2]; rintro ⟨hvn,hvs⟩
 refine cgo k0 fun w1 => jq (jr ?_)
 refine jns k1 Z (fun hd1 => ?_) (fun y1 hy1 hn1 => ?_)
 refine js (jex' Z Z) (jn (jx (jq ?_)))
 refine jif Z (fun hc1 => ?_) (fun hc1 => ?_)
 exact absurd hc1 (by simp)
 refine jex (jtx (jtx (jbh (jx (jq (jr (jm Z (jc E67 Z Z (sortT (by have := vis_len hvn hvs; omega)) dn (kc k1 kn) (fun _ => p0) (fun _ => p1) fun _ => jn (jx (jq ?_))))))))))
 refine jr (jm Z (ja Z (jn (jx (jrt ?_)))))
 exact jrG Z Z (sort_ris hvn hris (vis_all hvs hd1)).symm k0
 have hlt1 := vis_lt hvn hvs hy1 hn1
 have wy1 := hw y1 hy1
 refine js (jex' Z Z) (jn (jx (jq ?_)))
 refine jif Z (fun hc2 => ?_) (fun hc2 => ?_)
 refine jsk (jx (jb (jq (jr (js (jes k0 hy1 Z) (js (jex' Z Z) (ja Z (jn (jx (jr (jm Z ?_)))))))))))
 refine jm Z (japv U22 I3 (by decide) Z Z k1 Z (wI (wp wy1)) (by omega) (fun _ => Z) fun v14 _ w2 => ja Z (jn (jbn ?_)))
 exact jag (vis ++ [y1],v14) ⟨vis_nd hvn hn1,vis_in hvs hy1⟩ (dc d0 dn) (kd kn) ⟨Z,Z,Z,trivial⟩ (by dsimp only [u2]; rw [List.length_append]; simp; omega)
 exact absurd hc2 (by simp)
structure D.live_flow where
 m : D.MFunc
 ends : List (Option (List Int))
 places : List (List (Option (List Int)))
deriving DecidableEq
instance : Inhabited D.live_flow := ⟨⟨default,[],[]⟩⟩
def rlive_flowN (N : Nat) : Rp D.live_flow := rM (rP (rMFuncN N) (rP (rLn N rSet) (rLn N (rLn N rSet)))) (fun m => (m.m,m.ends,m.places))
abbrev rlive_flow : Rp D.live_flow := rlive_flowN 1073741824
theorem rlive_flow.any {N : Nat} {F : PH} {v : Value} {m : D.live_flow} (h : (rlive_flowN N).ra F v m) : ∃ f,(rlive_flowN N).ok F m f := by obtain ⟨l,_,_,h⟩ := h; exact ⟨_,h⟩
theorem rlive_flow.open {N : Nat} {F : PH} {v : Value} {m : D.live_flow} (h : (rlive_flowN N).ra F v m) : ∃ c1 c2 c3,v = .agg #[.int .i64 m.m.Params,c1,c2,c3] ∧ (rLn N (rMBlockN N)).rv F c1 m.m.Blocks ∧ (rLn N rSet).rv F c2 m.ends ∧ (rLn N (rLn N rSet)).rv F c3 m.places := by
 obtain ⟨l,rfl,hl,h⟩ := h
 match l,hl with
 | [a0,a1,a2,a3],_ =>
   obtain ⟨⟨⟨h0,_⟩,h1⟩,h2,h3⟩ := h
   obtain rfl : a0 = _ := h0
   exact ⟨a1,a2,a3,rfl,h1,h2,h3⟩
theorem rlive_flow.mk {N : Nat} {F : PH} {m : D.live_flow} {c1 : Value} {c2 : Value} {c3 : Value} (h1 : (rLn N (rMBlockN N)).rv F c1 m.m.Blocks) (h2 : (rLn N rSet).rv F c2 m.ends) (h3 : (rLn N (rLn N rSet)).rv F c3 m.places) (w0 : IntKind.i64.wrap m.m.Params = m.m.Params) : (rlive_flowN N).ra F (.agg #[.int .i64 m.m.Params,c1,c2,c3]) m := ⟨[.int .i64 m.m.Params,c1,c2,c3],rfl,rfl,⟨⟨⟨rfl,w0⟩,h1⟩,h2,h3⟩⟩
@[reducible] def vlive_flow (m : D.live_flow) (c : Value × Value × Value) : Value := .agg #[.int .i64 m.m.Params,c.1,c.2.1,c.2.2]
theorem slive_flow {N : Nat} : Sr (rlive_flowN N) vlive_flow := ⟨fun h => by obtain ⟨c1,c2,c3,e,_,_,_⟩ := rlive_flow.open h; exact ⟨(c1,c2,c3),e⟩⟩
theorem rlive_flow.M {N : Nat} {Γ : List Dt} {L : List Res} {m : D.live_flow} {c : Value × Value × Value} (h0 : Nd Γ L (dv (rLn N (rMBlockN N)) c.1 m.m.Blocks)) (h1 : Nd Γ L (dv (rLn N rSet) c.2.1 m.ends)) (h2 : Nd Γ L (dv (rLn N (rLn N rSet)) c.2.2 m.places)) (w0 : Wr Γ L .i64 m.m.Params) : Nd Γ L (da (rlive_flowN N) (vlive_flow m c) m) := fun F H x y z => rlive_flow.mk (m := m) (h0 F H x y z) (h1 F H x y z) (h2 F H x y z) (w0 F H x y z)
abbrev OS := Option (List Int)
def blkP (x : D.MBlock) (e : List Int) : List OS := (List.range (x.Ins.length + 1)).map (fun p => some (sAt (x.Ins.drop p) (uniS e (nM9 x.End))))
theorem blkP_len {x : D.MBlock} {e : List Int} : (blkP x e).length = x.Ins.length + 1 := by simp [blkP]
theorem blkP_ix {x : D.MBlock} {e : List Int} {p : Nat} (h : p ≤ x.Ins.length) : ix (blkP x e) p = some (sAt (x.Ins.drop p) (uniS e (nM9 x.End))) := by
 rw [ix_eq (by rw [blkP_len]; omega)]; simp [blkP]
theorem blkP_eq {x : D.MBlock} {e : List Int} {R : List OS} (hl : R.length = x.Ins.length + 1) (h : ∀ j,j ≤ x.Ins.length → ix R j = some (sAt (x.Ins.drop j) (uniS e (nM9 x.End)))) : R = blkP x e := by
 refine List.ext_getElem (by rw [hl,blkP_len]) fun j h1 h2 => ?_
 have e1 := h j (by omega)
 have e2 := blkP_ix (x := x) (e := e) (p := j) (by omega)
 rw [ix_eq h1] at e1; rw [ix_eq h2] at e2; rw [e1,e2]
structure FP (bs : List D.MBlock) (E I : List (List Int)) (Es : List OS) (vs : List Value) (Ps : List (List OS)) : Prop where
 fs : FS bs E I
 es : Es = E.map some
 vl : vs.length = bs.length
 pl : Ps.length = bs.length
 pr : ∀ b,b < bs.length → (ix Ps b).length = (ix bs b).Ins.length + 1 ∧ ix (ix Ps b) 0 = some (ix I b)
section
variable {bs : List D.MBlock} {E I : List (List Int)} {Es : List OS} {vs : List Value} {Ps : List (List OS)}
theorem FP.el (h : FP bs E I Es vs Ps) : Es.length = bs.length := by rw [h.es,List.length_map]; exact h.fs.le
theorem FP.ee (h : FP bs E I Es vs Ps) {b : Nat} (hb : b < bs.length) : some (ix E b) = ix Es b := by
 have h1 : b < E.length := by rw [h.fs.le]; exact hb
 rw [h.es,ix_eq (l := E.map some) (by rw [List.length_map]; exact h1),ix_eq (l := E) h1]; simp
theorem FP.pg (h : FP bs E I Es vs Ps) {b : Nat} (hb : b < bs.length) : Ps.getD b [] = ix Ps b ∧ (Ps.getD b []).length = (ix bs b).Ins.length + 1 ∧ some (ix I b) = ix (Ps.getD b []) 0 := ⟨rfl,(h.pr b hb).1,(h.pr b hb).2.symm⟩
theorem FP.step (h : FP bs E I Es vs Ps) (hw : WL bs) {b : Nat} (hb : b < bs.length) : FP bs (E.set b (enS bs I b)) (I.set b (begS bs b (enS bs I b))) (Es.set b (some (enS bs I b))) vs (Ps.set b (blkP (ix bs b) (enS bs I b))) where
 fs := (h.fs.step hb (hw.t hb)).1
 es := by rw [h.es,List.map_set]
 vl := h.vl
 pl := by rw [List.length_set]; exact h.pl
 pr := fun j hj => by
   rw [ix_set (by rw [h.pl]; exact hb),ixS h.fs.li hb]
   split
   · rename_i e; subst e
     refine ⟨blkP_len,?_⟩
     rw [blkP_ix (Nat.zero_le _),List.drop_zero]; rfl
   · exact h.pr j hj
theorem FS.lenE (h : FS bs E I) (hw : WL bs) {b : Nat} (hb : b < bs.length) : (ix E b).length ≤ 8192 ∧ (ix I b).length ≤ 8192 := by
 have h1 := ris_len (l := ix E b) (lo := 0) (hi := 8192) (h.re b hb) (by omega) (fun r hr => hw.lo (h.so b hb r hr) hb)
 have h2 := ris_len (l := ix I b) (lo := 0) (hi := 8192) (h.ri b hb) (by omega) (fun r hr => hw.li hb (h.si b hb r hr))
 omega
theorem FS.lenN (h : FS bs E I) (hw : WL bs) {b : Nat} (hb : b < bs.length) : (enS bs I b).length ≤ 8192 ∧ (begS bs b (enS bs I b)).length ≤ 8192 := by
 have h1 := (h.step hb (hw.t hb)).1.lenE hw hb
 rw [ix_set (by rw [h.le]; exact hb),if_pos rfl,ix_set (by rw [h.li]; exact hb),if_pos rfl] at h1
 exact h1
end
theorem Rg.w {y : Int} (h : Rg y) : IntKind.i64.wrap y = y := IntWalk.i64_in _ (by unfold Rg at h; omega)
theorem en_phi {bs : List D.MBlock} {n : Int} {x : D.MBlock} {S : List Int} {k : Nat} (hk : k < x.Phis.length) {T : List Int} (hT : T = uniS S ((x.Phis.take k).flatMap (fun p => (p.In.filter (fun y => decide (y.From = n))).map (fun y => y.Val)))) {T' : List Int} (hT' : T' = uniS T (((ix x.Phis k).In.filter (fun y => decide (y.From = n))).map (fun y => y.Val))) :
   T' = uniS S ((x.Phis.take (k + 1)).flatMap (fun p => (p.In.filter (fun y => decide (y.From = n))).map (fun y => y.Val))) := by
 rw [hT',hT,take_ix hk,List.flatMap_append]
 unfold uniS
 rw [List.foldl_append]; simp
theorem en_in {n : Int} {l : List D.In} {T U : List Int} {k : Nat} (hk : k < l.length) (hU : U = uniS T (((l.take k).filter (fun y => decide (y.From = n))).map (fun y => y.Val))) (h : (ix l k).From = n) : uniS U [(ix l k).Val] = uniS T (((l.take (k + 1)).filter (fun y => decide (y.From = n))).map (fun y => y.Val)) := by
 rw [hU,take_ix hk,List.filter_append]
 simp only [List.filter_cons,h,decide_true,if_true,List.filter_nil,List.map_append,List.map_cons,List.map_nil]
 unfold uniS; rw [List.foldl_append]
theorem en_no {n : Int} {l : List D.In} {T U : List Int} {k : Nat} (hk : k < l.length) (hU : U = uniS T (((l.take k).filter (fun y => decide (y.From = n))).map (fun y => y.Val))) (h : ¬ (ix l k).From = n) : U = uniS T (((l.take (k + 1)).filter (fun y => decide (y.From = n))).map (fun y => y.Val)) := by
 rw [hU,take_ix hk,List.filter_append]
 simp [h]
theorem del_one {S : List Int} {l : List D.Phi} {k : Nat} (hk : k < l.length) {T : List Int} (hT : T = delS S ((l.take k).map (fun p => p.Dst))) : delS T [(ix l k).Dst] = delS S ((l.take (k + 1)).map (fun p => p.Dst)) := by
 rw [hT,take_ix hk,List.map_append]; unfold delS; rw [List.foldl_append]; rfl
theorem uni_vis {e A vis : List Int} {x : Int} {T : List Int} (hT : Ris T ∧ ∀ y,y ∈ T ↔ y ∈ e ∨ y ∈ vis) : Ris (uniS T [x]) ∧ ∀ y,y ∈ uniS T [x] ↔ y ∈ e ∨ y ∈ vis ++ [x] := by
 refine ⟨uniS_ris hT.1,fun y => ?_⟩
 rw [uniS_mem,hT.2,List.mem_append]
 constructor
 · rintro ((h | h) | h)
   · exact .inl h
   · exact .inr (.inl h)
   · exact .inr (.inr h)
 · rintro (h | h | h)
   · exact .inl (.inl h)
   · exact .inl (.inr h)
   · exact .inr h
theorem uni_all {e A vis T : List Int} (he : Ris e) (hT : Ris T ∧ ∀ y,y ∈ T ↔ y ∈ e ∨ y ∈ vis) (h : ∀ y,y ∈ vis ↔ y ∈ A) : T = uniS e A := ris_ext hT.1 (uniS_ris he) (fun y => by rw [hT.2,uniS_mem,h])
theorem things_code : ∀ (bs : List D.MBlock) (b : Nat) (n : Int) (t : Int × Int × Int),thingsW n b bs = some t → t.1 ≠ 0 := by
 intro bs
 induction bs with
 | nil => intro b n t h; cases h
 | cons x l ih =>
   intro b n t h
   rw [thingsW] at h
   cases hb : blockW n x with
   | none => rw [hb] at h; exact ih _ _ _ h
   | some u =>
     rw [hb] at h
     cases h
     show u.1 ≠ 0
     unfold blockW at hb
     have hp : ∀ (P l : List D.Phi) (k : Nat) (u : Int × Int),phiW P k l = some u → u.1 ≠ 0 := by
       intro P l
       induction l with
       | nil => intro k u h; cases h
       | cons p l ih2 => intro k u h; rw [phiW] at h; split at h; (· exact ih2 _ _ h); cases h; assumption
     have hi : ∀ (l : List D.Mach) (k : Nat) (u : Int × Int),insW k l = some u → u.1 ≠ 0 := by
       intro l
       induction l with
       | nil => intro k u h; cases h
       | cons p l ih2 => intro k u h; rw [insW] at h; split at h; (· exact ih2 _ _ h); cases h; assumption
     cases h1 : phiW x.Phis 0 x.Phis with
     | some t => rw [h1] at hb; cases hb; exact hp _ _ _ _ h1
     | none =>
       rw [h1] at hb
       cases h2 : insW 0 x.Ins with
       | some t => rw [h2] at hb; cases hb; exact hi _ _ _ h2
       | none =>
         rw [h2] at hb
         by_cases h3 : endE x.End n = 0
         · simp only [if_pos h3] at hb; cases hb
         · simp only [if_neg h3] at hb; cases hb; exact h3
theorem cntB_mem : ∀ {l : List D.MBlock} {x : D.MBlock},x ∈ l → (x.Ins.length : Int) ≤ cntB l ∧ 0 ≤ cntB l
 | y :: l,x,h => by
   have h0 : 0 ≤ cntB l := by cases l with | nil => exact Int.le_refl _ | cons z l => exact (cntB_mem (x := z) (by simp)).2
   rw [cntB]
   rcases List.mem_cons.1 h with rfl | h
   · omega
   · have := cntB_mem h; omega
theorem right_none {m : D.MFunc} (h : rightM m = true) : thingsW m.Blocks.length 0 m.Blocks = none ∧ cntB m.Blocks ≤ 16384 := by
 unfold rightM at h
 rw [decide_eq_true_eq] at h
 unfold funcM at h
 split at h
 · cases h
 split at h
 · cases h
 split at h
 · cases h
 rename_i h1 h2 h3
 cases ht : thingsW m.Blocks.length 0 m.Blocks with
 | some t => rw [ht] at h; exact absurd h (things_code _ _ _ _ ht)
 | none => exact ⟨rfl,by omega⟩
theorem right_wl {m : D.MFunc} (h : rightM m = true) : WL m.Blocks where
 to := fun b hb => ((right_wf h).to _ (ix_mem hb)).2
 rg := fun b hb => by
   obtain ⟨h1,h2,h3⟩ := things_none _ _ (right_none h).1 (ix m.Blocks b) (ix_mem hb)
   refine ⟨fun i hi => ?_,?_,fun p hp => ?_⟩
   · have h9 := insW_none h2 i hi
     unfold insE at h9
     split at h9
     · cases h9
     split at h9
     · cases h9
     rename_i ha hb
     simp only [not_or,Bool.not_eq_false] at hb
     exact ⟨regM_all hb.2,regM_all hb.1⟩
   · unfold endE at h3
     split at h3
     · cases h3
     split at h3
     · cases h3
     rename_i hb
     exact regM_all (by simpa using hb)
   · obtain ⟨j,hj⟩ := phiW_none h1 p hp
     unfold phiE at hj
     split at hj
     · cases hj
     rename_i h5
     simp only [not_or,Bool.not_eq_false,Bool.not_eq_true] at h5
     refine ⟨regM_all h5.1 p.Dst (by simp),fun x hx => ?_⟩
     have h6 := h5.2
     unfold anyM at h6
     rw [List.any_eq_false] at h6
     have h7 := h6 x hx
     simp only [Bool.not_eq_true,Bool.not_eq_false'] at h7
     exact regM_all h7 x.Val (by simp)
theorem right_ins {m : D.MFunc} (h : rightM m = true) : ∀ b,b < m.Blocks.length → (ix m.Blocks b).Ins.length < 1000000 := fun b hb => by
 have h1 := (cntB_mem (ix_mem (l := m.Blocks) hb)).1
 have h2 := (right_none h).2
 omega
def plM (bs : List D.MBlock) : List (List OS) := (List.range bs.length).map (fun b => blkP (ix bs b) (ix (loE bs) b))
def blkC (bs : List D.MBlock) (E I : List (List Int)) (n : Nat) : Bool := !decide (((enS bs I n).length : Int) + ((begS bs n (enS bs I n)).length : Int) = ((ix E n).length : Int) + ((ix I n).length : Int))
structure OL (bs : List D.MBlock) (p : Nat) (c : Bool) (t0 : Nat) (E I : List (List Int)) (Es : List OS) (vs : List Value) (Ps : List (List OS)) : Prop where
 fp : FP bs E I Es vs Ps
 le : t0 ≤ tot E + tot I
 lt : c = true → t0 < tot E + tot I
 fx : c = false → ∀ j,p ≤ j → j < bs.length → Fix bs E I j ∧ ix Ps j = blkP (ix bs j) (ix E j)
section
variable {bs : List D.MBlock} {E I : List (List Int)} {Es : List OS} {vs : List Value} {Ps : List (List OS)} {t0 p : Nat} {c : Bool}
theorem OL.step (h : OL bs p c t0 E I Es vs Ps) (hw : WL bs) (hp : 0 < p) (hp2 : p ≤ bs.length) {c' : Bool} (hc : c' = (blkC bs E I (p - 1) || c)) :
   OL bs (p - 1) c' t0 (E.set (p - 1) (enS bs I (p - 1))) (I.set (p - 1) (begS bs (p - 1) (enS bs I (p - 1)))) (Es.set (p - 1) (some (enS bs I (p - 1)))) vs (Ps.set (p - 1) (blkP (ix bs (p - 1)) (enS bs I (p - 1)))) := by
 have hb : p - 1 < bs.length := by omega
 obtain ⟨g1,g2,g3⟩ := h.fp.fs.grow hb (hw.t hb)
 have hl := h.le
 refine ⟨h.fp.step hw hb,by omega,fun hc' => ?_,fun hc' => ?_⟩
 · rw [hc',eq_comm,Bool.or_eq_true] at hc
   rcases hc with hc | hc
   · unfold blkC at hc
     simp only [Bool.not_eq_true',decide_eq_false_iff_not] at hc
     have := g3 (by omega); omega
   · have := h.lt hc; omega
 · rw [hc',eq_comm,Bool.or_eq_false_iff] at hc
   obtain ⟨hc,hc2⟩ := hc
   unfold blkC at hc
   simp only [Bool.not_eq_false',decide_eq_true_eq] at hc
   obtain ⟨f1,f2,f3⟩ := g2 (by omega)
   rw [f2,f3]
   intro j hj hj2
   rw [ix_set (by rw [h.fp.pl]; exact hb)]
   split
   · rename_i e; subst e
     refine ⟨f1,?_⟩
     have e2 : enS bs I (p - 1) = ix E (p - 1) := by
       have e3 : ix (E.set (p - 1) (enS bs I (p - 1))) (p - 1) = enS bs I (p - 1) := by rw [ix_set (by rw [h.fp.fs.le]; exact hb),if_pos rfl]
       rw [f2] at e3; exact e3.symm
     rw [e2]
   · exact h.fx hc2 j (by omega) hj2
theorem OL.beg (h : FP bs E I Es vs Ps) : OL bs bs.length false (tot E + tot I) E I Es vs Ps := ⟨h,Nat.le_refl _,fun h => (by cases h),fun _ j h1 h2 => by omega⟩
theorem FP.done (h : FP bs E I Es vs Ps) (hw : WL bs) (hx : ∀ j,j < bs.length → Fix bs E I j ∧ ix Ps j = blkP (ix bs j) (ix E j)) : E = loE bs ∧ Es = (loE bs).map some ∧ Ps = plM bs := by
 have e : E = loE bs := h.fs.eq hw (fun j hj => (hx j hj).1)
 refine ⟨e,by rw [h.es,e],?_⟩
 refine List.ext_getElem (by rw [h.pl]; simp [plM]) fun j h1 h2 => ?_
 have h3 := (hx j (by rw [← h.pl]; exact h1)).2
 rw [ix_eq h1] at h3
 rw [h3,e]; simp [plM]
theorem FP.beg (hv : vs.length = bs.length) (hp : Ps.length = bs.length) (hE : Es = List.replicate bs.length (some [])) (hr : ∀ b,b < bs.length → (ix Ps b).length = (ix bs b).Ins.length + 1 ∧ ix (ix Ps b) 0 = some []) :
   FP bs (List.replicate bs.length []) (List.replicate bs.length []) Es vs Ps where
 fs := FS.start
 es := by rw [hE]; simp
 vl := hv
 pl := hp
 pr := fun b hb => ⟨(hr b hb).1,by rw [(hr b hb).2,ixN]⟩
theorem FP.small (h : FP bs E I Es vs Ps) (hw : WL bs) : tot E + tot I ≤ 16384 * bs.length := h.fs.small hw
end
theorem plM_len {bs : List D.MBlock} : (plM bs).length = bs.length := by simp [plM]
theorem plM_ix {bs : List D.MBlock} {b : Nat} (h : b < bs.length) : ix (plM bs) b = blkP (ix bs b) (ix (loE bs) b) := by
 rw [ix_eq (by rw [plM_len]; exact h)]; simp [plM]
theorem plM_mem {bs : List D.MBlock} (hi : ∀ b,b < bs.length → (ix bs b).Ins.length < 1000000) : ∀ l ∈ plM bs,l.length < 1073741824 := fun l hl => by
 obtain ⟨b,hb,e⟩ := List.mem_map.1 hl
 rw [← e,blkP_len]; have := hi b (by simpa using hb); omega
theorem getD_last {α : Type} {l : List α} {x d : α} {k : Nat} (h : l.length = k) : (l ++ [x]).getD k d = x := by
 subst h; simp
theorem row_more {bs : List D.MBlock} {Ps : List (List OS)} {k q : Nat} (hl : Ps.length = k) (hk : k < bs.length) (hq : q = (ix bs k).Ins.length + 1) (h : ∀ b,b < k → (ix Ps b).length = (ix bs b).Ins.length + 1 ∧ ix (ix Ps b) 0 = some []) :
   ∀ b,b < k + 1 → (ix ((Ps ++ [List.replicate q none]).set k (((Ps ++ [List.replicate q none]).getD k []).set 0 (some []))) b).length = (ix bs b).Ins.length + 1 ∧
     ix (ix ((Ps ++ [List.replicate q none]).set k (((Ps ++ [List.replicate q none]).getD k []).set 0 (some []))) b) 0 = some [] := fun b hb => by
 rw [getD_last hl,ix_set (by simp; omega)]
 split
 · rename_i e; subst e
   refine ⟨by simp [hq],?_⟩
   rw [ix_set (by simp; omega),if_pos rfl]
 · have e : ix (Ps ++ [List.replicate q none]) b = ix Ps b := by
     rw [ix_eq (by simp; omega),ix_eq (l := Ps) (by omega),List.getElem_append_left]
   rw [e]; exact h b (by omega)
abbrev U87 := @Tryz.underlying87
abbrev U88 := @Tryz.underlying88
theorem E108 : Ent Tryz.prog 108 := ⟨_,Tryz.func108,by kernel_rfl,by kernel_rfl⟩
theorem E109 : Ent Tryz.prog 109 := ⟨_,Tryz.func109,by kernel_rfl,by kernel_rfl⟩
theorem E110 : Ent Tryz.prog 110 := ⟨_,Tryz.func110,by kernel_rfl,by kernel_rfl⟩
theorem F90_0 : Fld Tryz.prog 90 0 0 := ⟨_,_,Tryz.underlying90,rfl,rfl,2,(by unfold Sz; kernel_rfl),by decide⟩
theorem F90_1 : Fld Tryz.prog 90 1 2 := ⟨_,_,Tryz.underlying90,rfl,rfl,1,(by unfold Sz; kernel_rfl),by decide⟩
theorem F90_2 : Fld Tryz.prog 90 2 3 := ⟨_,_,Tryz.underlying90,rfl,rfl,1,(by unfold Sz; kernel_rfl),by decide⟩
theorem O86 : One Tryz.prog 86 := ⟨_,Tryz.underlying86,rfl⟩
theorem O87 : One Tryz.prog 87 := ⟨_,Tryz.underlying87,rfl⟩
theorem O88 : One Tryz.prog 88 := ⟨_,Tryz.underlying88,rfl⟩
theorem Z86 : Sz Tryz.prog 86 1 := by unfold Sz; kernel_rfl
theorem Z87 : Sz Tryz.prog 87 1 := by unfold Sz; kernel_rfl
theorem row_nil {x : D.MBlock} {B : List Int} : some (sAt (x.Ins.drop x.Ins.length) B) = some B := by rw [List.drop_length]; rfl
theorem row_one {x : D.MBlock} {B : List Int} {p : Nat} (hp : 0 < p ∧ p ≤ x.Ins.length) : some (sAt (x.Ins.drop (p - 1)) B) = some (uniS (delS (sAt (x.Ins.drop p) B) (makesM (ix x.Ins (p - 1)))) (takesM (ix x.Ins (p - 1)))) := by
 rw [drop_ix (l := x.Ins) (i := p - 1) (by omega),sAt,show p - 1 + 1 = p by omega]
theorem row_beg {x : D.MBlock} {B : List Int} {R : List OS} (hl : R.length = x.Ins.length + 1) : ∀ j,x.Ins.length ≤ j → j ≤ x.Ins.length → ix (R.set x.Ins.length (some B)) j = some (sAt (x.Ins.drop j) B) := fun j h1 h2 => by
 have e : j = x.Ins.length := by omega
 subst e
 rw [ix_set (by omega),if_pos rfl,List.drop_length]; rfl
theorem row_step {x : D.MBlock} {B : List Int} {R : List OS} {p : Nat} (hl : R.length = x.Ins.length + 1) (hp : 0 < p ∧ p ≤ x.Ins.length) (h : ∀ j,p ≤ j → j ≤ x.Ins.length → ix R j = some (sAt (x.Ins.drop j) B)) :
   ∀ j,p - 1 ≤ j → j ≤ x.Ins.length → ix (R.set (p - 1) (some (uniS (delS (sAt (x.Ins.drop p) B) (makesM (ix x.Ins (p - 1)))) (takesM (ix x.Ins (p - 1)))))) j = some (sAt (x.Ins.drop j) B) := fun j h1 h2 => by
 rw [ix_set (by omega)]; split
 · rename_i e; subst e
   rw [drop_ix (l := x.Ins) (i := p - 1) (by omega),sAt,show p - 1 + 1 = p by omega]
 · exact h j (by omega) h2
set_option maxRecDepth 4000
theorem block_ct {g0 B1 B2 B3 : Nat} {bv ev pv : Value} {m : D.MFunc} {Es : List OS} {vs : List Value} {Ps : List (List OS)} {n : Nat} {z : Int} {E I : List (List Int)} (hz : z = ((n : Nat) : Int)) (hn : n < m.Blocks.length) (hw : WL m.Blocks) (hF : FP m.Blocks E I Es vs Ps) (hq : ∀ b,b < m.Blocks.length → (ix m.Blocks b).Ins.length < 1000000) : Tr Tryz.prog 68 #[.pointer (some ⟨g0,0,none⟩),.int .i64 z] [dv (rL rMBlock) bv m.Blocks] [bx g0 90 [.int .i64 m.Params,bv,ev,pv],gl B1 rSet 86 ev Es,gl B2 rV 87 pv vs,rw' B3 rSet 86 vs Ps] (fun _ : Unit => .bool (blkC m.Blocks E I n)) (fun _ => []) (fun _ _ => [bx g0 90 [.int .i64 m.Params,bv,ev,pv],gl B1 rSet 86 ev (Es.set n (some (enS m.Blocks I n))),gl B2 rV 87 pv vs,rw' B3 rSet 86 vs (Ps.set n (blkP (ix m.Blocks n) (enS m.Blocks I n)))]) := by
 refine jenter (args := [.pointer (some ⟨g0,0,none⟩),.int .i64 z]) Tryz.func68 rfl rfl rfl fun w0 X => ?_
 refine cgo k1 fun w1 => cgo k2 fun w2 => ?_
 subst hz
 have hvl := hF.vl
 have hpl := hF.pl
 have hel := hF.el
 have hPn := hF.pg hn
 have hnt := hw.t hn
 have hq0 := hq n hn
 have hl1 := hF.fs.lenE hw hn
 have hl2 := hF.fs.lenN hw hn
 refine jq (jr (ja Z (jn (jx (jq (jr (jm Z (js (jnil Z) (js (jf F90_0 Z) (js (jf F28_1 Z) (js (jl k0 O26 Z Z) ?_)))))))))))
 refine jm Z (jdq d0 fun q3 w3 => js (jix U26 Z37 d0 Z Z Z (by omega)) (jA3 sMBlock (jlA (dix d0 n (by omega)) A37 Z37 Z) fun c27a c27b c27c => jalc J37 Z fun g5 => jdq (rMBlock.cP d0) fun q5 w5 => jdq (rMBlock.cI d0) fun q6 w6 => jdq (rMBlock.cT d0) fun q7 w7 => jsta k0 Z37 Z Z Z ⟨w5.one,w6.one,Z,Z,Z,w7.one,Z,trivial⟩ (saf Z) (jn (jx (jq ?_)))))
 refine jr (jsm fun g28 => ja Z (jn (jx (jq (jq (jr (js (jf F37_2 Z) (js (jf F35_3 Z) (js (jl k1 O22 Z Z) (js (jln U22 (rMBlock.cT d0) Z) ?_))))))))))
 refine jm Z (jn (jx (jb ?_)))
 refine jlp (u2 fun (k : Nat) (Se : List Int) => ⟨k ≤ (ix m.Blocks n).End.To.length ∧ Se = ((ix m.Blocks n).End.To.take k).foldl (endOne m.Blocks I n) [],[da rMBlock (vMBlock (ix m.Blocks n) (c27a,c27b,c27c)) (ix m.Blocks n),dv (rL rMBlock) bv m.Blocks],[sm X.n g28 Se,bx g5 37 [c27a,c27b,.int .i64 (((ix m.Blocks n).End).Op),.int .i64 (((ix m.Blocks n).End).A),.int .i64 (((ix m.Blocks n).End).B),c27c,.int .i32 (((ix m.Blocks n).End).Imm)],bx g0 90 [.int .i64 m.Params,bv,ev,pv],gl B1 rSet 86 ev Es,gl B2 rV 87 pv vs,rw' B3 rSet 86 vs Ps],[(0,.pointer (some ⟨g0,0,none⟩)),(1,.int .i64 (↑n)),(4,.bool false),(5,.pointer (some ⟨g5,0,none⟩)),(6,(.map (some g28))),(31,c27c),(32,.int .i64 (↑(List.length (((ix m.Blocks n).End).To)))),(33,.int .i64 (↑k))],(ix m.Blocks n).End.To.length - k⟩) (0,[]) ⟨by dsimp only; omega,rfl⟩ (dc d0 (dc d1 dn)) (kd (kd (kd kn))) ⟨Z,Z,Z,Z,Z,Z,Z,eqI (by omega),trivial⟩ ?_
 rintro ⟨k,Se⟩; dsimp only [u2]; rintro ⟨hk,hSe⟩
 have hSr : Ris Se := by rw [hSe]; exact endF_ris (by simp [Ris])
 refine jq (jr (js (jlss Z Z) (jn (jx (jq ?_)))))
 refine jif Z (fun hc1 => ?_) (fun hc1 => ?_)
 have htk := hnt _ (ix_mem (l := (ix m.Blocks n).End.To) (i := k) (by omega))
 have ht0 := (hw.to n hn _ (ix_mem (l := (ix m.Blocks n).End.To) (i := k) (by omega))).1
 have hPk := hF.pg htk
 refine jsk (jx (jq (jb (jq (jr (js (jix U22 Z3 (rMBlock.cT d0) Z Z Z (by omega)) (js (jlI (dix (rMBlock.cT d0) k (by omega)) O3 Z) (ja Z (jn (jx (jq ?_)))))))))))
 refine jr (jm Z (js (jnil Z) (js (jf F90_2 Z) (js (jl k2 O88 Z Z) (jm Z (js (jig (i := (Int.toNat (ix (((ix m.Blocks n).End).To) k))) U88 Z87 k4 Z Z (by omega) (by omega)) (js (jgW k4 (by omega) O87 Z) (jro (Int.toNat (ix (((ix m.Blocks n).End).To) k)) k5 (by omega) (by omega) (jgo k0 fun w9 => js (jig (i := 0) U87 Z86 k0 Z Z Z (by first | omega | (simp <;> omega))) (je (q := fun v => dv rSet v (ix (List.getD Ps (Int.toNat (ix (((ix m.Blocks n).End).To) k)) []) 0)) (jgV k0 (by first | omega | (simp <;> omega)) O86 Z Z) fun v45 => ?_))))))))))
 refine jc E108 Z Z setClone_ct (dc (dcast (a := ix (List.getD Ps (Int.toNat (ix (((ix m.Blocks n).End).To) k)) []) 0) (a' := some (ix I (Int.toNat (ix (ix m.Blocks n).End.To k)))) (hF.pg htk).2.2 d0) dn) kn (fun _ => p0) (fun _ => p1) fun g46 => jrx k1 k1 (by omega) (by omega) (ja Z (jn (jx (jq (jq (jr (jm Z (js (jnil Z) (js (jf F90_0 Z) (js (jf F28_1 Z) ?_))))))))))
 refine js (jl k4 O26 Z Z) (jm Z (js (jix (i := (Int.toNat (ix (((ix m.Blocks n).End).To) k))) U26 Z37 d2 Z Z (by omega) (by omega)) (js (jf F37_0 Z) (jev (jlV (rMBlock.A_Phis (dix d2 (Int.toNat (ix (((ix m.Blocks n).End).To) k)) (by omega))) O32 Z Z) fun v55 q11 w11 => js (jln U32 d0 Z) (jm Z (jn (jx (jb ?_))))))))
 refine jlp (u2 fun (i2 : Nat) (Sa : List Int) => ⟨i2 ≤ (ix m.Blocks (Int.toNat (ix (ix m.Blocks n).End.To k))).Phis.length ∧ Sa = delS (ix I (Int.toNat (ix (ix m.Blocks n).End.To k))) (((ix m.Blocks (Int.toNat (ix (ix m.Blocks n).End.To k))).Phis.take i2).map (fun p => p.Dst)),[dv (rL rPhi) v55 ((ix m.Blocks (Int.toNat (ix (((ix m.Blocks n).End).To) k))).Phis),da rMBlock (vMBlock (ix m.Blocks n) (c27a,c27b,c27c)) (ix m.Blocks n),dv (rL rMBlock) bv m.Blocks],[rw' B3 rSet 86 vs Ps,sm X.n g46 Sa,sm X.n g28 Se,bx g5 37 [c27a,c27b,.int .i64 (((ix m.Blocks n).End).Op),.int .i64 (((ix m.Blocks n).End).A),.int .i64 (((ix m.Blocks n).End).B),c27c,.int .i32 (((ix m.Blocks n).End).Imm)],bx g0 90 [.int .i64 m.Params,bv,ev,pv],gl B1 rSet 86 ev Es,gl B2 rV 87 pv vs],[(0,.pointer (some ⟨g0,0,none⟩)),(1,.int .i64 (↑n)),(4,.bool false),(5,.pointer (some ⟨g5,0,none⟩)),(6,(.map (some g28))),(8,.int .i64 (ix (((ix m.Blocks n).End).To) k)),(9,(.map (some g46))),(31,c27c),(32,.int .i64 (↑(List.length (((ix m.Blocks n).End).To)))),(33,.int .i64 (↑k)),(55,v55),(56,.int .i64 (↑(List.length ((ix m.Blocks (Int.toNat (ix (((ix m.Blocks n).End).To) k))).Phis)))),(57,.int .i64 (↑i2))],(ix m.Blocks (Int.toNat (ix (ix m.Blocks n).End.To k))).Phis.length - i2⟩) (0,(ix I (Int.toNat (ix (ix m.Blocks n).End.To k)))) ⟨by dsimp only; omega,rfl⟩ (dc d0 (dc d2 (dc d3 dn))) (kd (kd (kd (kc k0 kn)))) ⟨Z,Z,Z,Z,Z,Z,Z,Z,Z,Z,Z,Z,eqI (by omega),trivial⟩ ?_
 rintro ⟨i2,Sa⟩; dsimp only [u2]; rintro ⟨hk2,hSa⟩
 refine jq (jr (js (jlss Z Z) (jn (jx (jq ?_)))))
 refine jif Z (fun hc2 => ?_) (fun hc2 => ?_)
 refine jsk (jx (jq (jb (jq (jr (js (jix U32 Z62 d0 Z Z Z (by omega)) (jA sPhi (jlA (dix d0 i2 (by omega)) A62 Z62 Z) fun c60 => jalc J62 Z fun g11 => jdq (rPhi.c_In d0) fun q14 w14 => jsta k0 Z62 Z Z Z ⟨Z,w14.one,trivial⟩ (saf Z) (jn ?_))))))))
 refine jx (jr (jm Z (js (jf F62_0 Z) (js (jl k0 O3 Z Z) (jlit (r := (rI .i64)) (l := [(ix ((ix m.Blocks (Int.toNat (ix (((ix m.Blocks n).End).To) k))).Phis) i2).Dst]) U22 I3 (by decide) Z Z Z (lV Z Z (wI (rPhi.W_Dst d0)) ln) fun g64 => jfz k0 (by (try simp) <;> omega) (jc E109 Z Z without_ct (dc d0 dn) (kc k2 kn) (fun _ => p0) (fun _ => p1) fun _ => jn (jbn (jx (jr ?_)))))))))
 refine js (jadd Z Z (by omega)) (jm Z (jn ?_))
 exact jag (i2 + 1,delS Sa ([(ix ((ix m.Blocks (Int.toNat (ix (((ix m.Blocks n).End).To) k))).Phis) i2).Dst])) ⟨by dsimp only; omega,by dsimp only; exact del_one (by omega) hSa⟩ (dc d2 (dc d3 (dc d4 dn))) (kc k2 (kc k0 (kc k1 (kc k1 (kc k1 (kc k1 (kc k1 kn))))))) ⟨Z,Z,Z,Z,Z,Z,Z,Z,Z,Z,Z,Z,eqI (by omega),trivial⟩
 have hA2 : Sa = delS (ix I (Int.toNat (ix (ix m.Blocks n).End.To k))) (dsts (ix m.Blocks (Int.toNat (ix (ix m.Blocks n).End.To k)))) := by rw [hSa,List.take_of_length_le (by omega)]; rfl
 refine jex (jtx (jtx (jbh (jx (jq (jq (jr (jm Z (jfs k1 (jrs U86 d0 Z fun g68 => jn ?_))))))))))
 refine jx (jb ?_)
 refine jlp (u2 fun (vis : List Int) (Su : List Int) => ⟨(vis.Nodup ∧ ∀ y ∈ vis,y ∈ Sa) ∧ Ris Su ∧ ∀ y,y ∈ Su ↔ y ∈ Se ∨ y ∈ vis,[dv rSet (.map (some g46)) (some Sa),da rMBlock (vMBlock (ix m.Blocks n) (c27a,c27b,c27c)) (ix m.Blocks n),dv (rL rMBlock) bv m.Blocks],[sit g68 (.map (some g46)) Sa vis,rw' B3 rSet 86 vs Ps,sm X.n g28 Su,bx g5 37 [c27a,c27b,.int .i64 (((ix m.Blocks n).End).Op),.int .i64 (((ix m.Blocks n).End).A),.int .i64 (((ix m.Blocks n).End).B),c27c,.int .i32 (((ix m.Blocks n).End).Imm)],bx g0 90 [.int .i64 m.Params,bv,ev,pv],gl B1 rSet 86 ev Es,gl B2 rV 87 pv vs],[(0,.pointer (some ⟨g0,0,none⟩)),(1,.int .i64 (↑n)),(4,.bool false),(5,.pointer (some ⟨g5,0,none⟩)),(6,(.map (some g28))),(8,.int .i64 (ix (((ix m.Blocks n).End).To) k)),(31,c27c),(32,.int .i64 (↑(List.length (((ix m.Blocks n).End).To)))),(33,.int .i64 (↑k)),(68,(.pointer (some ⟨g68,0,none⟩)))],Sa.length - vis.length⟩) ([],Se) ⟨⟨by simp,by simp⟩,hSr,by simp⟩ (dc d0 (dc d2 (dc d3 dn))) (kd (kd (kd (kc k0 kn)))) ⟨Z,Z,Z,Z,Z,Z,Z,Z,Z,Z,trivial⟩ ?_
 rintro ⟨vis,Su⟩; dsimp only [u2]; rintro ⟨hv,hSu1⟩
 refine jq (jr ?_)
 refine jns k0 Z (fun hd1 => ?_) (fun y1 hy1 hn1 => ?_)
 refine js (jex' Z Z) (jn (jx (jq ?_)))
 refine jif Z (fun hc3 => ?_) (fun hc3 => ?_)
 exact absurd hc3 (by simp)
 have hSu : Su = uniS Se Sa := uni_all hSr hSu1 (vis_all hv.2 hd1)
 refine jex (jtx (jtx (jbh (jx (jq (jr (jm Z (js (jnil Z) (js (jf F90_0 Z) (js (jf F28_1 Z) (js (jl k4 O26 Z Z) ?_)))))))))))
 refine jm Z (js (jix (i := (Int.toNat (ix (((ix m.Blocks n).End).To) k))) U26 Z37 d2 Z Z (by omega) (by omega)) (js (jf F37_0 Z) (jev (jlV (rMBlock.A_Phis (dix d2 (Int.toNat (ix (((ix m.Blocks n).End).To) k)) (by omega))) O32 Z Z) fun v85 q17 w17 => js (jln U32 d0 Z) (jm Z (jn (jx (jb ?_)))))))
 refine jlp (u2 fun (i4 : Nat) (S4 : List Int) => ⟨i4 ≤ (ix m.Blocks (Int.toNat (ix (ix m.Blocks n).End.To k))).Phis.length ∧ S4 = uniS Su (((ix m.Blocks (Int.toNat (ix (ix m.Blocks n).End.To k))).Phis.take i4).flatMap (fun p => (p.In.filter (fun y => decide (y.From = (n : Int)))).map (fun y => y.Val))),[dv (rL rPhi) v85 ((ix m.Blocks (Int.toNat (ix (((ix m.Blocks n).End).To) k))).Phis),da rMBlock (vMBlock (ix m.Blocks n) (c27a,c27b,c27c)) (ix m.Blocks n),dv (rL rMBlock) bv m.Blocks],[rw' B3 rSet 86 vs Ps,sm X.n g28 S4,bx g5 37 [c27a,c27b,.int .i64 (((ix m.Blocks n).End).Op),.int .i64 (((ix m.Blocks n).End).A),.int .i64 (((ix m.Blocks n).End).B),c27c,.int .i32 (((ix m.Blocks n).End).Imm)],bx g0 90 [.int .i64 m.Params,bv,ev,pv],gl B1 rSet 86 ev Es,gl B2 rV 87 pv vs],[(0,.pointer (some ⟨g0,0,none⟩)),(1,.int .i64 (↑n)),(4,.bool false),(5,.pointer (some ⟨g5,0,none⟩)),(6,(.map (some g28))),(31,c27c),(32,.int .i64 (↑(List.length (((ix m.Blocks n).End).To)))),(33,.int .i64 (↑k)),(85,v85),(86,.int .i64 (↑(List.length ((ix m.Blocks (Int.toNat (ix (((ix m.Blocks n).End).To) k))).Phis)))),(87,.int .i64 (↑i4))],(ix m.Blocks (Int.toNat (ix (ix m.Blocks n).End.To k))).Phis.length - i4⟩) (0,Su) ⟨by dsimp only; omega,rfl⟩ (dc d0 (dc d2 (dc d3 dn))) (kc k1 (kc k1 (kc k1 (kc k1 (kc k1 (kc k1 kn)))))) ⟨Z,Z,Z,Z,Z,Z,Z,Z,Z,Z,eqI (by omega),trivial⟩ ?_
 rintro ⟨i4,S4⟩; dsimp only [u2]; rintro ⟨hk4,hT4⟩
 refine jq (jr (js (jlss Z Z) (jn (jx (jq ?_)))))
 refine jif Z (fun hc4 => ?_) (fun hc4 => ?_)
 refine jsk (jx (jq (jb (jq (jr (js (jix U32 Z62 d0 Z Z Z (by omega)) (jA sPhi (jlA (dix d0 i4 (by omega)) A62 Z62 Z) fun c90 => jalc J62 Z fun g14 => jdq (rPhi.c_In d0) fun q20 w20 => jsta k0 Z62 Z Z Z ⟨Z,w20.one,trivial⟩ (saf Z) (jn ?_))))))))
 refine jx (jq (jr (js (jf F62_1 Z) (js (jl k0 O60 Z Z) (js (jln U60 (rPhi.c_In d0) Z) (jm Z (jn (jx (jb ?_)))))))))
 refine jlp (u2 fun (i5 : Nat) (S5 : List Int) => ⟨i5 ≤ (ix (ix m.Blocks (Int.toNat (ix (ix m.Blocks n).End.To k))).Phis i4).In.length ∧ S5 = uniS S4 ((((ix (ix m.Blocks (Int.toNat (ix (ix m.Blocks n).End.To k))).Phis i4).In.take i5).filter (fun y => decide (y.From = (n : Int)))).map (fun y => y.Val)),[da rPhi (vPhi (ix ((ix m.Blocks (Int.toNat (ix (((ix m.Blocks n).End).To) k))).Phis) i4) c90) (ix ((ix m.Blocks (Int.toNat (ix (((ix m.Blocks n).End).To) k))).Phis) i4),dv (rL rPhi) v85 ((ix m.Blocks (Int.toNat (ix (((ix m.Blocks n).End).To) k))).Phis),da rMBlock (vMBlock (ix m.Blocks n) (c27a,c27b,c27c)) (ix m.Blocks n),dv (rL rMBlock) bv m.Blocks],[rw' B3 rSet 86 vs Ps,sm X.n g28 S5,bx g5 37 [c27a,c27b,.int .i64 (((ix m.Blocks n).End).Op),.int .i64 (((ix m.Blocks n).End).A),.int .i64 (((ix m.Blocks n).End).B),c27c,.int .i32 (((ix m.Blocks n).End).Imm)],bx g0 90 [.int .i64 m.Params,bv,ev,pv],gl B1 rSet 86 ev Es,gl B2 rV 87 pv vs],[(0,.pointer (some ⟨g0,0,none⟩)),(1,.int .i64 (↑n)),(4,.bool false),(5,.pointer (some ⟨g5,0,none⟩)),(6,(.map (some g28))),(31,c27c),(32,.int .i64 (↑(List.length (((ix m.Blocks n).End).To)))),(33,.int .i64 (↑k)),(85,v85),(86,.int .i64 (↑(List.length ((ix m.Blocks (Int.toNat (ix (((ix m.Blocks n).End).To) k))).Phis)))),(87,.int .i64 (↑i4)),(92,c90),(93,.int .i64 (↑(List.length ((ix ((ix m.Blocks (Int.toNat (ix (((ix m.Blocks n).End).To) k))).Phis) i4).In)))),(94,.int .i64 (↑i5))],(ix (ix m.Blocks (Int.toNat (ix (ix m.Blocks n).End.To k))).Phis i4).In.length - i5⟩) (0,S4) ⟨by dsimp only; omega,rfl⟩ (dc d0 (dc d1 (dc d2 (dc d3 dn)))) (kc k1 (kc k1 (kc k1 (kc k1 (kc k1 (kc k1 kn)))))) ⟨Z,Z,Z,Z,Z,Z,Z,Z,Z,Z,Z,Z,Z,eqI (by omega),trivial⟩ ?_
 rintro ⟨i5,S5⟩; dsimp only [u2]; rintro ⟨hk5,hS5⟩
 refine jq (jr (js (jlss Z Z) (jn (jx (jq ?_)))))
 refine jif Z (fun hc5 => ?_) (fun hc5 => ?_)
 refine jsk (jx (jq (jb (jq (jr (js (jix U60 Z64 (rPhi.c_In d0) Z Z Z (by omega)) (jA sIn (jlA (dix (rPhi.c_In d0) i5 (by omega)) A64 Z64 Z) fun _ => jalc J64 Z fun g16 => jsta k0 Z64 Z Z Z ⟨Z,Z,trivial⟩ (saf Z) (jn (jx ?_)))))))))
 refine jq (jr (js (jf F64_0 Z) (js (jl k0 O3 Z Z) (jm Z (js (jeql Z Z) (jn (jx ?_)))))))
 refine jif Z (fun hc6 => ?_) (fun hc6 => ?_)
 have hcf := hc6
 refine jr (jm Z (js (jf F64_1 Z) (js (jl k0 O3 Z Z) (jlit (r := (rI .i64)) (l := [(ix ((ix ((ix m.Blocks (Int.toNat (ix (((ix m.Blocks n).End).To) k))).Phis) i4).In) i5).Val]) U22 I3 (by decide) Z Z Z (lV Z Z (wI (rIn.W_Val d0)) ln) fun g105 => jfz k0 (by (try simp) <;> omega) (jc E110 Z Z with_ct (dc d0 dn) (kc k2 kn) (fun _ => p0) (fun _ => p1) fun _ => jn (jbn (jx (jr (js (jadd Z Z (by omega)) ?_)))))))))
 refine jm Z (jn ?_)
 exact jag (i5 + 1,uniS S5 ([(ix ((ix ((ix m.Blocks (Int.toNat (ix (((ix m.Blocks n).End).To) k))).Phis) i4).In) i5).Val])) ⟨by dsimp only; omega,by dsimp only; exact en_in (by omega) hS5 hcf⟩ (dc d2 (dc d3 (dc d4 (dc d5 dn)))) (kc k2 (kc k0 (kc k1 (kc k1 (kc k1 (kc k1 kn)))))) ⟨Z,Z,Z,Z,Z,Z,Z,Z,Z,Z,Z,Z,Z,eqI (by omega),trivial⟩
 have hcf := hc6
 refine jsk (jbn (jx (jr (js (jadd Z Z (by omega)) (jm Z (jn ?_))))))
 exact jag (i5 + 1,S5) ⟨by dsimp only; omega,by dsimp only; exact en_no (by omega) hS5 hcf⟩ (dc d1 (dc d2 (dc d3 (dc d4 dn)))) (kc k1 (kc k1 (kc k1 (kc k1 (kc k1 (kc k1 kn)))))) ⟨Z,Z,Z,Z,Z,Z,Z,Z,Z,Z,Z,Z,Z,eqI (by omega),trivial⟩
 refine jex (jtx (jtx (jbh (jbn (jx (jr (js (jadd Z Z (by omega)) (jm Z (jn ?_)))))))))
 exact jag (i4 + 1,S5) ⟨by dsimp only; omega,by dsimp only; exact en_phi (bs := m.Blocks) (by omega) hT4 (by rw [hS5,List.take_of_length_le (by omega)])⟩ (dc d1 (dc d2 (dc d3 dn))) (kd (kd (kd kn))) ⟨Z,Z,Z,Z,Z,Z,Z,Z,Z,Z,eqI (by omega),trivial⟩
 refine jex (jtx (jtx (jbh (jbn (jx (jr (js (jadd Z Z (by omega)) (jm Z (jn ?_)))))))))
 exact jag (k + 1,S4) ⟨by dsimp only; omega,by dsimp only; rw [foldl_take _ _ (by omega),← hSe]; unfold endOne; rw [hT4]; unfold phiT; rw [hSu,hA2,List.take_of_length_le (by omega)]⟩ (dc d1 (dc d2 dn)) (kc k1 (kc k1 (kc k1 (kc k1 (kc k1 (kc k0 kn)))))) ⟨Z,Z,Z,Z,Z,Z,Z,eqI (by omega),trivial⟩
 have hlt1 := vis_lt hv.1 hv.2 hy1 hn1
 have wy1 := (hw.li htk (hF.fs.si _ htk _ (by rw [hA2] at hy1; exact (delS_mem.1 hy1).1)) : Rg y1).w
 refine js (jex' Z Z) (jn (jx (jq ?_)))
 refine jif Z (fun hc7 => ?_) (fun hc7 => ?_)
 refine jsk (jx (jb (jq (jr (js (jes k0 hy1 Z) (js (jex' Z Z) (ja Z (jn (jx (jr (jm Z ?_)))))))))))
 refine jm Z (jlit (r := (rI .i64)) (l := [y1]) U22 I3 (by decide) Z Z Z (lV Z Z (wI (wp wy1)) ln) fun g75 => jfz k0 (by (try simp) <;> omega) (jc E110 Z Z with_ct (dc d0 dn) (kc k2 kn) (fun _ => p0) (fun _ => p1) fun _ => jn (jbn ?_)))
 exact jag (vis ++ [y1],uniS Su ([y1])) ⟨⟨vis_nd hv.1 hn1,vis_in hv.2 hy1⟩,by dsimp only; exact uni_vis (A := []) hSu1⟩ (dc d1 (dc d2 (dc d3 dn))) (kc k1 (kc k1 (kd (kd (kc k0 kn))))) ⟨Z,Z,Z,Z,Z,Z,Z,Z,Z,Z,trivial⟩ (by dsimp only [u2]; rw [List.length_append]; simp; omega)
 exact absurd hc7 (by simp)
 have hSe9 : Se = enS m.Blocks I n := by rw [hSe,List.take_of_length_le (by omega)]; rfl
 subst hSe9
 refine jex (jtx (jtx (jbh (jx (jq (cro n k5 (by omega) (by omega) (cgo k0 fun w25 => jstl Mixed (by kernel_rfl) (jt (jmv Z) (jt (jnil Z) (jt (jf F90_1 Z) ?_))))))))))
 refine jt (jl k4 O87 Z Z) (jt (jmv Z) (jt (jig U87 Z86 k5 Z Z Z (by omega)) (jte (q := fun v => dv rSet v (ix Es n)) (jgV k5 (by omega) O86 Z Z) fun v116 => jt (jsfl U86 (dcast (a := ix Es n) (a' := some (ix E n)) (hF.ee hn) d0) Z) (jt (jmv Z) (jt (jnil Z) (jt (jf F90_2 Z) (jt (jl k4 O88 Z Z) (jt (jmv Z) (jt (jig U88 Z87 k6 Z Z Z (by omega)) (jt (jgW k6 (by omega) O87 Z) ?_))))))))))
 refine jt (jig (i := 0) U87 Z86 k0 Z Z Z (by first | omega | (simp <;> omega))) (jte (q := fun v => dv rSet v (ix (List.getD Ps n []) 0)) (jgV k0 (by first | omega | (simp <;> omega)) O86 Z Z) fun v126 => jt (jsfl U86 (dcast (a := ix (List.getD Ps n []) 0) (a' := some (ix I n)) hPn.2.2 d0) Z) (jt (jadd Z Z (by omega)) (jt (jas Z) (jdn (jx (jq (jr (jm Z (js (jnil Z) (js (jf F90_1 Z) ?_))))))))))
 refine js (jl k4 O87 Z Z) (jm Z (jm Z (js (jig U87 Z86 k5 Z Z Z (by omega)) (jfs k2 (jsg k4 Z Z86 Z Z Z (by omega) d0 (jn (jx (jq (jr (jm Z (jc E108 Z Z setClone_ct (dc d0 dn) kn (fun _ => p0) (fun _ => p1) fun g137 => ?_)))))))))))
 refine ja Z (jn (jx (jq (jr (jm Z (js (jf F37_2 Z) (js (jla k4 A35 Z35 Z Z Z) (jcd E29 Z Z pNeeds_ct (dc (rMBlock.P_End d3) dn) kn fun v141 q29 w29 => jc E110 Z Z with_ct (dc d0 dn) (kc k0 kn) (fun _ => p0) (fun _ => p1) fun _ => jn (jx ?_)))))))))
 refine jq (jany false (.a 0 (.a 1 (.a 2 (.a 3 (.a 4 (.a 5 (.a 6 (.a 7 (.a 8 (.a 9 (.a 10 (.o 11 (.o 12 .e))))))))))))) Mixed (by kernel_rfl) (kc k4 (kc k4 (kc k4 kn))) fun F31 => jy Z (jmv Z) (jy Z (jnil Z) (jy Z (jf F90_2 Z) (jy Z (jl k1 O88 Z Z) (jy Z (jmv Z) (jy Z (jig U88 Z87 k2 Z Z Z (by omega)) (jy Z (jgW k2 (by omega) O87 Z) (jy Z (jf F37_1 Z) (jy Z (jl k0 O33 Z Z) (jy Z (jln U33 (rMBlock.cI d4) Z) ?_))))))))))
 refine jy Z (jmv Z) (jyo Z (js (jig U87 Z86 k2 Z Z Z (by first | omega | (simp <;> omega))) (jyn d0 (kc k4 (kc k4 (kc k4 kn))) (jyo Z (jfs k0 (jsg k1 Z Z86 Z Z Z (by first | omega | (simp <;> omega)) d0 (jyn d1 (kc k3 (kc k3 (kc k3 kn))) (jyd (jx (jq (jq ?_)))))))))))
 refine jr (js (jf F37_1 Z) (js (jl k3 O33 Z Z) (js (jln U33 (rMBlock.cI d7) Z) (js (jsub Z Z (by omega)) (ja Z (jn (jx (jb ?_))))))))
 refine jlp (u3 fun (p : Nat) (nv : Value) (Rw : List OS) => ⟨p ≤ (ix m.Blocks n).Ins.length ∧ Rw.length = (ix m.Blocks n).Ins.length + 1 ∧ ∀ j,p ≤ j → j ≤ (ix m.Blocks n).Ins.length → ix Rw j = some (sAt ((ix m.Blocks n).Ins.drop j) (uniS (enS m.Blocks I n) (nM9 (ix m.Blocks n).End))),[dv rSet (.map (some g28)) (some (enS m.Blocks I n)),da rMBlock (vMBlock (ix m.Blocks n) (c27a,c27b,c27c)) (ix m.Blocks n),dv (rL rMBlock) bv m.Blocks,dv rSet nv (some (sAt ((ix m.Blocks n).Ins.drop p) (uniS (enS m.Blocks I n) (nM9 (ix m.Blocks n).End))))],[gl B3 rSet 86 (List.getD vs n undef) Rw,gl B1 rSet 86 ev (List.set Es n (some (enS m.Blocks I n))),hole n B3 rSet 86 vs Ps,bx g5 37 [c27a,c27b,.int .i64 (((ix m.Blocks n).End).Op),.int .i64 (((ix m.Blocks n).End).A),.int .i64 (((ix m.Blocks n).End).B),c27c,.int .i32 (((ix m.Blocks n).End).Imm)],bx g0 90 [.int .i64 m.Params,bv,ev,pv],gl B2 rV 87 pv vs],[(0,.pointer (some ⟨g0,0,none⟩)),(1,.int .i64 (↑n)),(4,.bool false),(5,.pointer (some ⟨g5,0,none⟩)),(6,(.map (some g28))),(17,.int .i64 ((↑(List.length (ix E n))) + (↑(List.length (ix I n))))),(18,nv),(19,.int .i64 ((p : Int) - 1))],p⟩) ((ix m.Blocks n).Ins.length,(.map (some g137)),List.set (List.getD Ps n []) (List.length ((ix m.Blocks n).Ins)) (some (uniS (enS m.Blocks I n) (nM9 ((ix m.Blocks n).End))))) ⟨by dsimp only; omega,by dsimp only; rw [List.length_set]; exact hPn.2.1,row_beg hPn.2.1⟩ (dc d4 (dc d7 (dc d8 (dc (dcast (a := some (uniS (enS m.Blocks I n) (nM9 ((ix m.Blocks n).End)))) (a' := some (sAt ((ix m.Blocks n).Ins.drop (ix m.Blocks n).Ins.length) (uniS (enS m.Blocks I n) (nM9 (ix m.Blocks n).End)))) (row_nil (x := ix m.Blocks n)) d0) dn)))) (kd (kd (kd kn))) ⟨Z,Z,Z,Z,Z,Z,Z,eqI (by omega),trivial⟩ ?_
 rintro ⟨p,nv,Rw⟩; dsimp only [u3]; rintro ⟨hp,hRl,hRw⟩
 refine jq (jq (jr (jm Z (js (jgeq Z Z) (jn (jx ?_))))))
 refine jif Z (fun hc8 => ?_) (fun hc8 => ?_)
 have hp1 : 0 < p ∧ p ≤ (ix m.Blocks n).Ins.length := by omega
 refine jsk (jx (jq (jb (jq (jr (jm Z (jc E108 Z Z setClone_ct (dc d3 dn) kn (fun _ => p0) (fun _ => p1) fun g164 => ja Z (jn (jx (jq ?_))))))))))
 refine jr (jm Z (js (jf F37_1 Z) (js (jl k4 O33 Z Z) (jm Z (js (jix (i := (p - 1)) U33 Z69 (rMBlock.cI d1) Z Z (by omega) (by omega)) (jA sMach (jlA (dix (rMBlock.cI d1) (p - 1) (by omega)) A69 Z69 Z) fun c170 => jcd E31 Z Z pMakes_ct (dc d0 dn) kn fun v171 q37 w37 => jc E109 Z Z without_ct (dc d0 dn) (kc k0 kn) (fun _ => p0) (fun _ => p1) fun _ => jn (jx (jq ?_))))))))
 refine jr (jm Z (js (jf F37_1 Z) (js (jl k4 O33 Z Z) (jm Z (js (jix (i := (p - 1)) U33 Z69 (rMBlock.cI d3) Z Z (by omega) (by omega)) (jA sMach (jlA (dix (rMBlock.cI d3) (p - 1) (by omega)) A69 Z69 Z) fun c178 => jcd E30 Z Z pTakes_ct (dc d0 dn) kn fun v179 q40 w40 => jc E110 Z Z with_ct (dc d0 dn) (kc k0 kn) (fun _ => p0) (fun _ => p1) fun _ => jn (jx (jr ?_))))))))
 refine jm Z (js (jnil Z) (js (jf F90_2 Z) (js (jl k5 O88 Z Z) (jm Z (js (jig U88 Z87 k6 Z Z Z (by omega)) (js (jgW k6 (by omega) O87 Z) (jm Z (jm Z (js (jig (i := (p - 1)) U87 Z86 k1 Z Z (by omega) (by omega)) (jfs k0 (jsg k0 Z Z86 Z Z Z (by omega) d0 ?_)))))))))))
 refine jn (jbn (jx (jr (jm Z (js (jsub Z Z (by omega)) (ja Z (jn ?_)))))))
 exact jag (p - 1,(.map (some g164)),List.set Rw (p - 1) (some (uniS (delS (sAt ((ix m.Blocks n).Ins.drop p) (uniS (enS m.Blocks I n) (nM9 (ix m.Blocks n).End))) (makesM (ix ((ix m.Blocks n).Ins) (p - 1)))) (takesM (ix ((ix m.Blocks n).Ins) (p - 1)))))) ⟨by dsimp only; omega,by dsimp only; rw [List.length_set]; exact hRl,row_step hRl hp1 hRw⟩ (dc d5 (dc d6 (dc d7 (dc (dcast (a := some (uniS (delS (sAt ((ix m.Blocks n).Ins.drop p) (uniS (enS m.Blocks I n) (nM9 (ix m.Blocks n).End))) (makesM (ix ((ix m.Blocks n).Ins) (p - 1)))) (takesM (ix ((ix m.Blocks n).Ins) (p - 1))))) (a' := some (sAt ((ix m.Blocks n).Ins.drop (p - 1)) (uniS (enS m.Blocks I n) (nM9 (ix m.Blocks n).End)))) (row_one hp1) d0) dn)))) (kd (kd (kd kn))) ⟨Z,Z,Z,Z,Z,Z,Z,eqI (by omega),trivial⟩
 refine jex (jtx (jtx (jbh (jx (jq (jstl Mixed (by kernel_rfl) (jt (jmv Z) (jt (jsfl U86 d0 Z) (jt (jmv Z) (jt (jnil Z) (jt (jf F90_2 Z) ?_)))))))))))
 refine jt (jl k4 O88 Z Z) (jt (jmv Z) (jt (jig U88 Z87 k5 Z Z Z (by omega)) (jt (jgW k5 (by omega) O87 Z) (jt (jig (i := 0) U87 Z86 k0 Z Z Z (by omega)) (jte (q := fun v => dv rSet v (ix Rw 0)) (jgV k0 (by omega) O86 Z Z) fun v201 => jt (jsfl U86 (dcast (a := ix Rw 0) (a' := some (begS m.Blocks n (enS m.Blocks I n))) (hRw 0 (by omega) (Nat.zero_le _)).symm d0) Z) (jt (jadd Z Z (by omega)) (jt (jmv Z) (jt (jneq Z Z) (jt (jas Z) (jdn ?_))))))))))
 refine jx (jrt (qruv k0 k1 (by omega) (by omega) ?_))
 have hRe : Rw = blkP (ix m.Blocks n) (enS m.Blocks I n) := blkP_eq hRl (fun j hj => hRw j (by omega) hj)
 subst hRe
 exact jr1 Z Z () Z dn (fun _ _ => (kc k3 (kc k1 (kc k2 (kc k0 kn)))))
end Go.Proofs.YtehhjlkmbdhckaaGreat
namespace Go.Proofs.YtehhjlkmbdhckaaGreat
open Go.JE
theorem E68 : Ent Tryz.prog 68 := ⟨_,Tryz.func68,by kernel_rfl,by kernel_rfl⟩
theorem I86 : (Tryz.prog.info? 86).map (fun i => (i.zero,i.size,i.bytes)) = some (some (.map none),1,8) := by kernel_rfl
theorem I87 : (Tryz.prog.info? 87).map (fun i => (i.zero,i.size,i.bytes)) = some (some (.slice none 0 0),1,24) := by kernel_rfl
theorem Z88 : Sz Tryz.prog 88 1 := by unfold Sz; kernel_rfl
theorem mu_dec {bs : List D.MBlock} {c c2 : Bool} {E I E2 I2 : List (List Int)} {Gs : List OS} {vs : List Value} {Rs : List (List OS)} {p : Nat} (h1 : c = true) (h : OL bs p c2 (tot E + tot I) E2 I2 Gs vs Rs) (h2 : tot E + tot I ≤ 16384 * bs.length) (h3 : tot E2 + tot I2 ≤ 16384 * bs.length) :
   (if c2 = true then 16384 * bs.length + 1 - (tot E2 + tot I2) else 0) < (if c = true then 16384 * bs.length + 1 - (tot E + tot I) else 0) := by
 rw [if_pos h1]; split
 · rename_i h4; have := h.lt h4; omega
 · omega
set_option maxRecDepth 4000
theorem of_ct {a0 : Value} {m : D.MFunc} (hr : rightM m = true) : Tr Tryz.prog 40 #[vMFunc m a0] [da rMFunc (vMFunc m a0) m] [] (fun c : Nat × Value × Value => .pointer (some ⟨c.1,0,none⟩)) (fun c => [dv (rL rSet) c.2.1 ((loE m.Blocks).map some),dv (rL (rL rSet)) c.2.2 (plM m.Blocks)]) (fun _ c => [bx c.1 90 [.int .i64 m.Params,a0,c.2.1,c.2.2]]) := by
 refine jenter (args := [vMFunc m a0]) Tryz.func40 rfl rfl rfl fun w0 X => ?_
 have hw := right_wl hr
 have hq := right_ins hr
 have hn0 := (right_wf hr).n0
 refine jq (jr (jbox Z Z fun g1 => ja Z (jn (jx (jq (jq (jr (js (jla k0 A28 Z28 Z Z Z) (jcv E34 Z Z pRight_ct (dc d0 dn) kn (js (jnot Z) ?_))))))))))
 refine jn (jx ?_)
 refine jif Z (fun hc1 => ?_) (fun hc1 => ?_)
 exact absurd hc1 (by simp [hr])
 refine jsk (jx (jq (jr (js (jla k0 A28 Z28 Z Z Z) (jdq (rMFunc.cB d0) fun q1 w1 => js (jbu (v := .agg #[.int .i64 m.Params,a0,.slice none 0 0,.slice none 0 0]) Z (fun _ => by obtain ⟨_,_,_,rfl⟩ := w1; kernel_rfl)) (jbox Z Z fun g13 => ja Z (jn (jx (jq ?_)))))))))
 refine jq (jr (js (jf F28_1 Z) (js (jl k1 O26 Z Z) (jnl (r := rSet) (E := 86) (jnl (r := rV) (E := 87) (jrn (r := rSet) (T := 86) 0 (js (jln U26 (rMFunc.cB d0) Z) (jm Z (jn (jx (jb ?_)))))))))))
 refine jlp (u6 fun (k : Nat) (ev : Value) (pv : Value) (Es : List OS) (vs : List Value) (Ps : List (List OS)) => ⟨k ≤ m.Blocks.length ∧ vs.length = k ∧ Ps.length = k ∧ Es = List.replicate k (some []) ∧ ∀ b,b < k → (ix Ps b).length = (ix m.Blocks b).Ins.length + 1 ∧ ix (ix Ps b) 0 = some [],[da rMFunc (vMFunc m a0) m],[rw' X.n rSet 86 vs Ps,gl X.n rV 87 pv vs,gl X.n rSet 86 ev Es,bx g13 90 [.int .i64 m.Params,a0,ev,pv],bx g1 28 [.int .i64 m.Params,a0]],[(1,.pointer (some ⟨g1,0,none⟩)),(2,.pointer none),(3,.pointer (some ⟨g13,0,none⟩)),(15,a0),(16,.int .i64 (↑(List.length m.Blocks))),(17,.int .i64 (↑k))],m.Blocks.length - k⟩) (0,.slice none 0 0,.slice none 0 0,[],[],[]) ⟨by dsimp only; omega,rfl,rfl,rfl,fun b hb => absurd hb (Nat.not_lt_zero b)⟩ (dc d0 dn) (kd (kd (kc k0 kn))) ⟨Z,Z,Z,Z,Z,eqI (by omega),trivial⟩ ?_
 rintro ⟨k,ev,pv,Es,vs,Ps⟩; dsimp only [u6]; rintro ⟨hk,hvk,hpk,hEk,hrk⟩
 refine cgo k2 fun w2 => cgo k1 fun w3 => ?_
 have hek : Es.length = k := by rw [hEk]; simp
 refine jq (jr (js (jlss Z Z) (jn (jx (jq ?_)))))
 refine jif Z (fun hc2 => ?_) (fun hc2 => ?_)
 have hkb : k < m.Blocks.length := by omega
 refine jsk (jx (jq (jb (jq (jr (js (jix U26 Z37 (rMFunc.cB d0) Z Z Z (by omega)) (jA3 sMBlock (jlA (dix (rMFunc.cB d0) k (by omega)) A37 Z37 Z) fun c20a c20b c20c => jalc J37 Z fun g5 => jdq (rMBlock.cP d0) fun q5 w5 => jdq (rMBlock.cI d0) fun q6 w6 => jdq (rMBlock.cT d0) fun q7 w7 => ?_)))))))
 refine jsta k0 Z37 Z Z Z ⟨w5.one,w6.one,Z,Z,Z,w7.one,Z,trivial⟩ (saf Z) (jn (jx (jq (jr (jm Z (jm Z (js (jnil Z) (js (jf F90_1 Z) (js (jl k4 O87 Z Z) (jsm fun g26 => jfs k0 ?_))))))))))
 refine japv U87 I86 (by decide) Z Z k3 Z d0 (by omega) (fun _ => Z) fun v28 _ w9 => js (jnil Z) (js (jf F90_1 Z) (jst k4 Z87 Z Z w9.one s2 (jn (jx (jq (jany true (.a 0 (.a 1 (.a 2 (.a 3 (.a 4 (.a 5 (.a 6 (.a 7 (.a 8 (.o 9 (.o 10 (.o 11 (.a 12 (.a 13 (.o 14 .e))))))))))))))) Mixed (by kernel_rfl) (kc k0 (kc k1 kn)) fun F10 => jy Z (jmv Z) (jy Z (jmv Z) (jy Z (jnil Z) (jy Z (jf F90_2 Z) ?_)))))))))
 refine jy Z (jl k0 O88 Z Z) (jy Z (jf F37_1 Z) (jy Z (jl k1 O33 Z Z) (jy Z (jln U33 (rMBlock.cI d1) Z) (jy Z (jadd Z Z (by omega)) (jyo Z (jmk (m := ((ix m.Blocks k).Ins.length + 1)) (r := rSet) U87 I86 Z Z Z (by omega) (by omega) (by omega) wSn Z fun g40 => jyn d0 (kc k1 (kc k2 kn)) (jyo Z (jlit (r := rV) (l := [(.slice (some ⟨g40,0,none⟩) ((ix m.Blocks k).Ins.length + 1) ((ix m.Blocks k).Ins.length + 1))]) U88 I87 (by decide) Z Z Z (lV Z Z (wV Z) ln) fun g41 => jyn d0 (kc k2 (kc k3 kn)) (jyo Z ?_)))))))))
 refine jfz k0 (by simp) (japl U88 I87 (by decide) Z k5 Z Z d0 (by simp <;> omega) fun v42 q15 => jrm k5 k1 (by omega) (jyn d1 (kc k2 (kc k3 kn)) (jy Z (jnil Z) (jy Z (jf F90_2 Z) (jyo Z (jst k2 Z88 Z Z q15.one s3 (jyz d0 (jyd (jx (cro k k1 (by first | omega | (simp <;> omega)) (by first | omega | (simp <;> omega)) ?_))))))))))
 refine cgo k0 fun w17 => ?_
 have hgl : 0 < (List.getD (Ps ++ [List.replicate ((ix m.Blocks k).Ins.length + 1) none]) k []).length := by rw [getD_last hpk]; simp
 have hvl : List.length (vs ++ [(.slice (some ⟨g40,0,none⟩) ((ix m.Blocks k).Ins.length + 1) ((ix m.Blocks k).Ins.length + 1))]) = k + 1 := by simp [hvk]
 refine jany false (.a 0 (.a 1 (.a 2 (.a 3 (.a 4 (.a 5 (.a 6 (.a 7 (.a 8 (.a 9 (.a 10 (.a 11 (.o 12 (.o 13 (.o 14 .e))))))))))))))) Mixed (by kernel_rfl) (kc k2 (kc k2 kn)) fun F18 => jy Z (jmv Z) (jy Z (jnil Z) (jy Z (jf F90_2 Z) (jy Z (jl k0 O88 Z Z) (jy Z (jmv Z) (jy Z (jnil Z) (jy Z (jf F90_2 Z) (jy Z (jl k0 O88 Z Z) (jy Z (jlg U88 k1 Z) (jy Z (jsub Z Z (by omega)) (jy Z (jig (i := k) U88 Z87 k1 Z Z (by omega) (by first | omega | (simp <;> omega))) ?_))))))))))
 refine jy Z (jgW k1 (by first | omega | (simp <;> omega)) O87 Z) (jyo Z (jsm fun g57 => jyn d0 (kc k3 (kc k3 kn)) (jyo Z (js (jig (i := 0) U87 Z86 k1 Z Z Z (by first | omega | (simp <;> omega))) (jyn d0 (kc k3 (kc k3 kn)) (jyo Z (jfs k0 (jsg k0 Z Z86 Z Z Z (by first | omega | (simp <;> omega)) d0 (jyn d1 (kc k2 (kc k2 kn)) (jyd ?_))))))))))
 refine jbn (jx (jr (jruv k0 k0 (by first | omega | (simp <;> omega)) (by first | omega | (simp <;> omega)) (js (jadd Z Z (by omega)) (jm Z (jn ?_))))))
 exact jag (k + 1,v28,v42,Es ++ [some ([])],vs ++ [(.slice (some ⟨g40,0,none⟩) ((ix m.Blocks k).Ins.length + 1) ((ix m.Blocks k).Ins.length + 1))],List.set (Ps ++ [List.replicate ((ix m.Blocks k).Ins.length + 1) none]) k (List.set (List.getD (Ps ++ [List.replicate ((ix m.Blocks k).Ins.length + 1) none]) k []) 0 (some ([])))) ⟨by dsimp only; omega,by simp; omega,by simp; omega,by dsimp only; rw [hEk,List.replicate_succ'],row_more hpk hkb rfl hrk⟩ (dc d11 dn) (kc k0 (kc k1 (kc k1 (kc k0 (kc k1 kn))))) ⟨Z,Z,Z,Z,Z,eqI (by omega),trivial⟩
 refine jex (jtx (jtx (jbh (jx (jq (jq (jr (ja Z (jn (jx (jb ?_)))))))))))
 have hkN : k = m.Blocks.length := by omega
 have hFP0 := FP.beg (bs := m.Blocks) (Es := Es) (vs := vs) (Ps := Ps) (hvk.trans hkN) (hpk.trans hkN) (by rw [hEk,hkN]) (fun b hb => hrk b (by omega))
 refine jlp (u5 fun (c : Bool) (E : List (List Int)) (I : List (List Int)) (Fs : List OS) (Qs : List (List OS)) => ⟨FP m.Blocks E I Fs vs Qs ∧ (c = false → ∀ j,j < m.Blocks.length → Fix m.Blocks E I j ∧ ix Qs j = blkP (ix m.Blocks j) (ix E j)),[da rMFunc (vMFunc m a0) m],[rw' X.n rSet 86 vs Qs,gl X.n rV 87 pv vs,gl X.n rSet 86 ev Fs,bx g13 90 [.int .i64 m.Params,a0,ev,pv],bx g1 28 [.int .i64 m.Params,a0]],[(1,.pointer (some ⟨g1,0,none⟩)),(2,.pointer none),(3,.pointer (some ⟨g13,0,none⟩)),(6,.bool c)],if c = true then 16384 * m.Blocks.length + 1 - (tot E + tot I) else 0⟩) (true,List.replicate m.Blocks.length [],List.replicate m.Blocks.length [],Es,Ps) ⟨hFP0,fun h => by cases h⟩ (dc d0 dn) (kd (kd (kc k0 kn))) ⟨Z,Z,Z,Z,trivial⟩ ?_
 rintro ⟨c,E,I,Fs,Qs⟩; dsimp only [u5]; rintro ⟨hF,hcF⟩
 refine jq (jq (jr (jm Z (jn (jx ?_)))))
 refine jif Z (fun hc3 => ?_) (fun hc3 => ?_)
 have hc2 : c = true := by simpa using hc3
 refine jsk (jx (jb (jq (jr (ja Z (jn (jx (jq (jr (js (jf F28_1 Z) (js (jl k4 O26 Z Z) ?_)))))))))))
 refine js (jln U26 (rMFunc.cB d0) Z) (js (jsub Z Z (by omega)) (ja Z (jn (jx (jb ?_)))))
 refine jlp (u6 fun (p : Nat) (c2 : Bool) (E2 : List (List Int)) (I2 : List (List Int)) (Gs : List OS) (Rs : List (List OS)) => ⟨p ≤ m.Blocks.length ∧ OL m.Blocks p c2 (tot E + tot I) E2 I2 Gs vs Rs,[da rMFunc (vMFunc m a0) m],[rw' X.n rSet 86 vs Rs,gl X.n rV 87 pv vs,gl X.n rSet 86 ev Gs,bx g13 90 [.int .i64 m.Params,a0,ev,pv],bx g1 28 [.int .i64 m.Params,a0]],[(1,.pointer (some ⟨g1,0,none⟩)),(2,.pointer none),(3,.pointer (some ⟨g13,0,none⟩)),(6,.bool c2),(7,.int .i64 ((p : Int) - 1))],p⟩) (m.Blocks.length,false,E,I,Fs,Qs) ⟨by dsimp only; omega,OL.beg hF⟩ (dc d0 dn) (kd (kd (kc k0 kn))) ⟨Z,Z,Z,Z,eqI (by omega),trivial⟩ ?_
 rintro ⟨p,c2,E2,I2,Gs,Rs⟩; dsimp only [u6]; rintro ⟨hp,hO⟩
 refine jq (jq (jr (jm Z (js (jgeq Z Z) (jn (jx ?_))))))
 refine jif Z (fun hc4 => ?_) (fun hc4 => ?_)
 refine jsk (jx (jq (jb (jr (jm Z (jm Z (jc E68 Z Z (block_ct (n := (p - 1)) (m := m) (by omega) (by omega) hw hO.fp hq) (dc (rMFunc.cB d0) dn) (kc k3 (kc k2 (kc k1 (kc k0 (kn))))) (fun _ => p0) (fun _ => p4) fun _ => jm Z (jg Z Z (.f _) (fun hg => jmv Z) (js (jor Z Z) (ja Z ?_))))))))))
 refine jn (jbn (jx (jr (jm Z (js (jsub Z Z (by omega)) (ja Z (jn ?_)))))))
 exact jag (p - 1,(blkC m.Blocks E2 I2 (p - 1)) || c2,E2.set (p - 1) (enS m.Blocks I2 (p - 1)),I2.set (p - 1) (begS m.Blocks (p - 1) (enS m.Blocks I2 (p - 1))),Gs.set (p - 1) (some (enS m.Blocks I2 (p - 1))),Rs.set (p - 1) (blkP (ix m.Blocks (p - 1)) (enS m.Blocks I2 (p - 1)))) ⟨by dsimp only; omega,hO.step hw (by omega) hp rfl⟩ (dc d0 dn) (kc k3 (kc k2 (kc k1 (kd kn)))) ⟨Z,Z,Z,Z,eqI (by omega),trivial⟩
 refine jex (jtx (jtx (jbh (jbn ?_))))
 exact jag (c2,E2,I2,Gs,Rs) ⟨hO.fp,fun h j hj => hO.fx h j (by omega) hj⟩ (dc d0 dn) (kd (kd (kc k0 kn))) ⟨Z,Z,Z,Z,trivial⟩ (by dsimp only [u5]; exact mu_dec hc2 hO (hF.small hw) (hO.fp.small hw))
 refine jex (jtx (jtx (jbh (jx (jq (jr ?_))))))
 obtain ⟨hE9,hF9,hQ9⟩ := hF.done hw (hcF (by simpa using hc3))
 subst hF9
 subst hQ9
 refine jfz k2 (by have := loE_len hw; simp; omega) (jfr k1 k0 (hF.vl.trans plM_len.symm) (by rw [plM_len]; omega) (plM_mem hq) (jm Z (ja Z (jn (jx (jrt ?_))))))
 exact jr1 Z Z ((g13,ev,pv) : Nat × Value × Value) Z (dc d1 (dc d0 dn)) (fun _ _ => kc k0 kn)
end Go.Proofs.YtehhjlkmbdhckaaGreat
namespace Go.JE
variable {P : Program} {D : List Dt} {L M : List Res} {e : Env} {H : Heap} {T T' E : TypeId} {x y : Operand} {p : Option Addr}
theorem equalIn_pN (hT : P.underlying T = some (.pointer E)) (d : Nat) (w : World) : (Op.equalIn (d + 1) T (.pointer p) (.pointer none)).run P w = .ok p.isNone w := by
 cases p <;> (simp only [Op.equalIn,Sem.run_bind,run_underlying hT,Result.andThen_ok]; rfl)
theorem OpOk.eqlP (hT : P.underlying T = some (.pointer E)) (hx : ev e x = some (.pointer p)) (hy : ev e y = some (.pointer none)) : OpOk P e (.binOp .eql T x y T') H (.bool p.isNone) := by
 intro ρ o w ho hev _
 have h1 : (Op.equal T (.pointer p) (.pointer none)).run P w = .ok p.isNone w := equalIn_pN hT 9999 w
 simp only [execOp,ho,hev _ _ hx,hev _ _ hy,eqGuard,binOp]
 simp [h1]
theorem OpOk.neqP (hT : P.underlying T = some (.pointer E)) (hx : ev e x = some (.pointer p)) (hy : ev e y = some (.pointer none)) : OpOk P e (.binOp .neq T x y T') H (.bool (!p.isNone)) := by
 intro ρ o w ho hev _
 have h1 : (Op.equal T (.pointer p) (.pointer none)).run P w = .ok p.isNone w := equalIn_pN hT 9999 w
 simp only [execOp,ho,hev _ _ hx,hev _ _ hy,eqGuard,binOp]
 simp [h1]
theorem jeqlP (hT : P.underlying T = some (.pointer E)) (hx : ev e x = some (.pointer p)) (hy : ev e y = some (.pointer none)) : OH P D L e (.binOp .eql T x y T') (.bool p.isNone) := fun _ _ _ _ _ => OpOk.eqlP hT hx hy
theorem jneqP (hT : P.underlying T = some (.pointer E)) (hx : ev e x = some (.pointer p)) (hy : ev e y = some (.pointer none)) : OH P D L e (.binOp .neq T x y T') (.bool (!p.isNone)) := fun _ _ _ _ _ => OpOk.neqP hT hx hy
section
variable {α : Type} [Inhabited α] {r : Rp α} {F : PH} {v : Value} {l : List α} {B i off : Nat} {k : IntKind} {n : Int}
theorem OpOk.ldGF (h : Gl r E F H B v l) (hi : i < l.length) (ho : off < r.sz) (hok : ∀ f,r.ok F (ix l i) f → f off = .int k n) (hT : One P T) (hx : ev e x = some (.pointer (some ⟨vblk v,voff v + i * r.sz + off,none⟩))) : OpOk P e (.load T x) H (.int k n) := by
 obtain ⟨f,h1,h2⟩ := h.cell hi (j := off) ho
 have h3 := hok f (by rw [ix_eq hi]; exact h1)
 rw [h3] at h2
 refine OpOk.load hT hx rfl ?_
 first | exact h2 | (rw [Nat.add_assoc]; exact h2)
theorem jgF (hk : Tk L (gl B r E v l) M) (hi : i < l.length) (hok : ∀ F f,r.ok F (ix l i) f → f off = .int k n) (hT : One P T) (hx : ev e x = some (.pointer (some ⟨vblk v,voff v + i * r.sz + off,none⟩))) (ho : off < r.sz := by exact Nat.le_of_ble_eq_true rfl) : OH P D L e (.load T x) (.int k n) := fun F H _ _ h => OpOk.ldGF (hk.ok h).1.1 hi ho (fun f => hok F f) hT hx
end
theorem results_cell1 {fn : Func} {p g : Nat} {ty : TypeId} {v : Value} (h : fn.results = #[.cell p ty]) (tmps : Array Value) (w : World) (hp : tmps.getD p undef = .pointer (some ⟨g,0,none⟩)) (hO : One P ty) (hc1 : w.cell? ⟨g,0,none⟩ = some v) :
   (results fn tmps).run P w = .ok v w := by
 have hp' : tmps[p]?.getD undef = .pointer (some ⟨g,0,none⟩) := by simpa using hp
 simp [results,h,hp',asAddr,loadVar,hO.run,hc1]
theorem PF.retV {n : Nat} {w0 : World} {fn : Func} {R : Value → Heap → Prop} {p g : Nat} {ty T : TypeId} {v : Value} (hr : fn.results = #[.cell p ty]) (hv : lk e p = some (.pointer (some ⟨g,0,none⟩))) (hb : Bx H g T [v])
   (hO : One P ty) (hR : R v H) : PF ⟨n,[]⟩ w0 (BQ P fn w0 R) e .ret H := by
 intro a w hf hw
 exact bodyPost_ret (results_cell1 hr _ w (hf.get p _ hv) hO (by rw [cell_hc,hw.heap]; exact hb.hc rfl)) hf.defers ⟨_,rfl,hw.os,hw.tape,hw.output,hw.heap ▸ hR⟩
section
variable {Q : Exit → Act → World → Prop} {X : Cx} {w0 : World} {fn : Func} {m : Nat} {ι : Type} {val : ι → Value} {dr : ι → List Dt} {lr : Nat → ι → List Res} {N : List Res}
theorem jrcV {p g : Nat} {ty T : TypeId} {v : Value} (hr : fn.results = #[.cell p ty]) (hv : lk e p = some (.pointer (some ⟨g,0,none⟩))) (hb : Tk L (bx g T [v]) N) (hO : One P ty)
   (i : ι) (hm : v = val i) (hd : Sd D L (dr i)) (hk : ∀ B,B ≤ X.n → Tks L (lr B i) M) : QH ⟨m,[]⟩ w0 (RQ2 P fn w0 X val dr lr) X D L e .ret := fun F H hp => PF.retV hr hv (hp.at hb).1 hO ⟨i,F,hm,fun B hB => hp.sub hd (hk B hB)⟩
theorem jrcD {α : Type} {r : Rp α} {a b : α} {p g : Nat} {ty T : TypeId} {v : Value} (hr : fn.results = #[.cell p ty]) (hv : lk e p = some (.pointer (some ⟨g,0,none⟩))) (hb : Tk L (bx g T [v]) N) (hO : One P ty) (hm : a = b) (hd : Nd D L (dv r v b)) :
   QH ⟨m,[]⟩ w0 (RQ2 P fn w0 X (fun v : Value => v) (fun v => [dv r v a]) (fun _ _ => [])) X D L e .ret := jrcV hr hv hb hO v rfl (dc (dcast hm hd) dn) (fun _ _ => kn)
end
structure St2 (P : Program) (T : TypeId) (k : IntKind) : Prop where
 und : ∃ f0 f1, P.underlying T = some (.struct #[f0, f1]) ∧ f0.name ≠ "_" ∧ f1.name ≠ "_" ∧ f0.offset = 0 ∧ f1.offset = 1 ∧ P.underlying f0.type = some (.int k) ∧ P.underlying f1.type = some (.int k)
 stood : P.stoodInHeld T = false
 guard : P.eqGuardType P.depth T = false
theorem equalIn_int {T : TypeId} {k : IntKind} {a b : Int} (hT : P.underlying T = some (.int k)) (d : Nat) (w : World) : (Op.equalIn (d + 1) T (.int k a) (.int k b)).run P w = .ok (a == b) w := by
 simp only [Op.equalIn,Sem.run_bind,run_underlying hT,Result.andThen_ok]; simp
theorem equalIn_st2 {T : TypeId} {k : IntKind} {a b c d : Int} (h : St2 P T k) (n : Nat) (w : World) : (Op.equalIn (n + 2) T (.agg #[.int k a,.int k b]) (.agg #[.int k c,.int k d])).run P w = .ok (decide (a = c ∧ b = d)) w := by
 obtain ⟨⟨f0,f1,hu,n0,n1,o0,o1,u0,u1⟩,hs,_⟩ := h
 have q0 : (isAgg f0.type).run P w = .ok false w := by simp [isAgg,run_underlying u0]
 have q1 : (isAgg f1.type).run P w = .ok false w := by simp [isAgg,run_underlying u1]
 have e0 : ∀ x y,(Op.equalIn (n + 1) f0.type (.int k x) (.int k y)).run P w = .ok (x == y) w := fun x y => equalIn_int u0 n w
 have e1 : ∀ x y,(Op.equalIn (n + 1) f1.type (.int k x) (.int k y)).run P w = .ok (x == y) w := fun x y => equalIn_int u1 n w
 rw [Op.equalIn]
 simp only [Sem.run_bind,run_underlying hu,Result.andThen_ok]
 by_cases h1 : a = c
 · subst h1
   by_cases h2 : b = d
   · subst h2; simp [hs,n0,n1,part,o0,o1,q0,q1,e0,e1]
   · simp [hs,n0,n1,part,o0,o1,q0,q1,e0,e1,h2]
 · simp [hs,n0,n1,part,o0,o1,q0,q1,e0,e1,h1]
theorem OpOk.neqSt2 {T T' : TypeId} {k : IntKind} {x y : Operand} {a b c d : Int} (h : St2 P T k) (hx : ev e x = some (.agg #[.int k a,.int k b])) (hy : ev e y = some (.agg #[.int k c,.int k d])) : OpOk P e (.binOp .neq T x y T') H (.bool (!decide (a = c ∧ b = d))) := by
 intro ρ o w ho hev _
 have h1 : (Op.equal T (.agg #[.int k a,.int k b]) (.agg #[.int k c,.int k d])).run P w = .ok (decide (a = c ∧ b = d)) w := equalIn_st2 h 9998 w
 simp only [execOp,ho,hev _ _ hx,hev _ _ hy,eqGuard,binOp]
 simp [h1,h.guard]
theorem jneqSt {k : IntKind} {a b c d : Int} (h : St2 P T k) (hx : ev e x = some (.agg #[.int k a,.int k b])) (hy : ev e y = some (.agg #[.int k c,.int k d])) : OH P D L e (.binOp .neq T x y T') (.bool (!decide (a = c ∧ b = d))) := fun _ _ _ _ _ => OpOk.neqSt2 h hx hy
end Go.JE
namespace Go.Proofs.YtehhjlkmbdhckaaGreat
open Go.JE
def thereM (m : D.MFunc) (b p : Int) : Bool := rightM m && decide (0 ≤ b) && decide (b < m.Blocks.length) && decide (0 ≤ p) && decide (p ≤ (ix m.Blocks (Int.toNat b)).Ins.length)
def sumB : List D.MBlock → Int
 | [] => 0
 | x :: l => x.Ins.length + 1 + sumB l
theorem sumB_append : ∀ (l k : List D.MBlock),sumB (l ++ k) = sumB l + sumB k
 | [],k => by simp [sumB]
 | x :: l,k => by rw [List.cons_append,sumB,sumB_append l k,sumB]; omega
theorem sumB_next {l : List D.MBlock} {k : Nat} (h : k < l.length) : sumB (l.take (k + 1)) = sumB (l.take k) + ((ix l k).Ins.length + 1) := by
 rw [take_ix h,sumB_append,sumB,sumB]; omega
theorem sumB_bd {l : List D.MBlock} (h : ∀ b,b < l.length → (ix l b).Ins.length < 1000000) : ∀ k,k ≤ l.length → 0 ≤ sumB (l.take k) ∧ sumB (l.take k) ≤ 1000000 * k
 | 0,_ => by simp [sumB]
 | k + 1,hk => by
   have h1 := sumB_bd h k (by omega)
   have h2 := h k (by omega)
   rw [sumB_next (by omega)]; omega
def numM (m : D.MFunc) (b p : Int) : Int := if thereM m b p = true then p + sumB (m.Blocks.take (Int.toNat b)) else -1
theorem there_yes {m : D.MFunc} {b p : Int} (h : thereM m b p = true) : rightM m = true ∧ 0 ≤ b ∧ b < m.Blocks.length ∧ 0 ≤ p ∧ p ≤ (ix m.Blocks (Int.toNat b)).Ins.length := by
 unfold thereM at h
 simp only [Bool.and_eq_true,decide_eq_true_eq] at h
 exact ⟨h.1.1.1.1,h.1.1.1.2,h.1.1.2,h.1.2,h.2⟩
theorem there_mk {m : D.MFunc} {b p : Int} (h : rightM m = true ∧ 0 ≤ b ∧ b < m.Blocks.length ∧ 0 ≤ p ∧ p ≤ (ix m.Blocks (Int.toNat b)).Ins.length) : thereM m b p = true := by
 unfold thereM
 simp only [Bool.and_eq_true,decide_eq_true_eq]
 exact ⟨⟨⟨⟨h.1,h.2.1⟩,h.2.2.1⟩,h.2.2.2.1⟩,h.2.2.2.2⟩
def rowQ (a b : List Int) : Bool := decide (a = b)
theorem row_ix {a b : List Int} (hl : a.length = b.length) (h : ∀ j,j < a.length → ix a j = ix b j) : a = b := List.ext_getElem hl fun j h1 h2 => by
 have := h j h1; rw [ix_eq h1,ix_eq h2] at this; exact this
theorem tmod_in {n k : Int} (h : 0 < k) : -k < Int.tmod n k ∧ Int.tmod n k < k := by
 have h1 := Int.tmod_lt_of_pos n h
 have h2 := Int.tmod_lt_of_pos (-n) h
 rw [Int.neg_tmod] at h2
 omega
theorem E17 : Ent Tryz.prog 17 := ⟨_,Tryz.func17,by kernel_rfl,by kernel_rfl⟩
theorem E51 : Ent Tryz.prog 51 := ⟨_,Tryz.func51,by kernel_rfl,by kernel_rfl⟩
theorem of_no {a0 : Value} {m : D.MFunc} (hr : rightM m = false) : Tr Tryz.prog 40 #[vMFunc m a0] [da rMFunc (vMFunc m a0) m] [] (fun _ : Unit => .pointer none) (fun _ => []) (fun _ _ => []) := by
 refine jenter (args := [vMFunc m a0]) Tryz.func40 rfl rfl rfl fun w0 X => ?_
 refine jq (jr (jbox Z Z fun g1 => ja Z (jn (jx (jq (jq (jr (js (jla k0 A28 Z28 Z Z Z) (jcv E34 Z Z pRight_ct (dc d0 dn) kn (js (jnot Z) ?_))))))))))
 refine jn (jx ?_)
 refine jif Z (fun hc1 => ?_) (fun hc1 => ?_)
 refine jq (jr (ja Z (jn (jx (jrt (jtr ?_))))))
 exact jr1 Z Z () Z dn (fun _ _ => kn)
 exact absurd hc1 (by simp [hr])
theorem number_ct {a0 : Value} {m : D.MFunc} (b : Int) (p : Int) : Tv Tryz.prog 15 #[vMFunc m a0,.int .i64 b,.int .i64 p] [da rMFunc (vMFunc m a0) m] [] (.int .i64 (numM m b p)) := by
 refine jenter (args := [vMFunc m a0,.int .i64 b,.int .i64 p]) Tryz.func15 rfl rfl rfl fun w0 X => ?_
 refine jq (jr (jbox Z Z fun g3 => ja Z (jn (jx (jq (jq (jr (jm Z (js (jlss Z Z) (jm Z ?_))))))))))
 refine jg Z Z (.f _) (fun hg => jmv Z) (jg Z Z (.f _) (fun hg => jf F28_1 Z) (jg Z Z (.f _) (fun hg => jl k0 O26 (evg Z hg) Z) (jdq (rMFunc.cB d0) fun q1 w1 => jg Z Z (.f _) (fun hg => jln U26 (rMFunc.cB d0) (evg Z hg)) (jg Z Z (.f _) (fun hg => jgeq (evg Z hg) (evg Z hg)) (js (jor Z Z) (jm Z (jg Z Z (.f _) (fun hg => jmv Z) (jg Z Z (.f _) (fun hg => jlss (evg Z hg) Z) (js (jor Z Z) (jm Z ?_))))))))))
 refine jg Z Z (.f _) (fun hg => jmv Z) (jg Z Z (.f _) (fun hg => jf F28_1 Z) (jg Z Z (.f _) (fun hg => jl k0 O26 (evg Z hg) Z) (jg Z Z (.f _) (fun hg => jmv Z) (jg Z Z (.f _) (fun hg => jix (i := (Int.toNat b)) U26 Z37 (rMFunc.cB d0) (evg Z hg) (evg Z hg) (by first | omega | (simp at hg; omega)) (by first | omega | (simp at hg; omega) | (simp only [List.length_set]; omega))) (jg Z Z (.f _) (fun hg => jf F37_1 (evg Z hg)) (jge (q := fun v => dv (rL rMach) v ((ix m.Blocks (Int.toNat b)).Ins)) Z Z (.f _) (fun hg => jlV (rMBlock.A_Ins (dix (rMFunc.cB d0) (Int.toNat b) (by first | omega | (simp at hg; omega) | (simp only [List.length_set]; omega)))) O33 Z (evg Z hg)) fun v30 => jg Z Z (.f _) (fun hg => jln U33 (d0.on hg) (evg Z hg)) (jg Z Z (.f _) (fun hg => jgtr (evg Z hg) (evg Z hg)) (js (jor Z Z) (jm Z (jg Z Z (.f _) (fun hg => jla k0 A28 Z28 Z Z Z) ?_))))))))))
 refine jgc Z Z (.f _) E34 Z (fun hg => evl1 (evg Z hg)) (fun hg => pRight_ct) (fun hg => (dc d1 dn)) kn p0 (jg Z Z (.f _) (fun hg => jnot (evg Z hg)) (js (jor Z Z) (jn (jx ?_))))
 refine jif Z (fun hc1 => ?_) (fun hc1 => ?_)
 refine jq (jr (ja Z (jn (jx (jrt (jtr ?_))))))
 exact jrI Z Z (by first | (rw [numM,if_pos hth,hs,show k = Int.toNat b by omega]; done) | (rw [numM,if_neg (fun h9 => by have h8 := there_yes h9; rcases hc1 with h7 | h7; (omega); (first | (rw [h8.1] at h7; cases h7) | (simp [h8.1] at h7)))]; done))
 have hrt := hc1.2
 have hq := right_ins hrt
 have hn0 := (right_wf hrt).n0
 have hib := hq (Int.toNat b) (by omega)
 have hth : thereM m b p = true := there_mk ⟨hrt,by omega,by omega,by omega,by omega⟩
 have htl : (m.Blocks.take (Int.toNat b)).length = Int.toNat b := by rw [List.length_take]; omega
 refine jsk (jx (jq (jr (jm Z (ja Z (jn (jx (jq (jq (jr (js (jf F28_1 Z) ?_)))))))))))
 refine js (jl k0 O26 Z Z) (jm Z (js (jshi (hi := (Int.toNat b)) U26 Z37 (rMFunc.cB d1) Z Z (by omega) (by omega)) (jdq (dhi (rMFunc.cB d1) (Int.toNat b) (by omega) (by omega)) fun q3 w3 => js (jln U26 (dhi (rMFunc.cB d1) (Int.toNat b) (by omega) (by omega)) Z) (jm Z (jn (jx (jb ?_)))))))
 refine jlp (u2 fun (k : Nat) (s : Int) => ⟨k ≤ Int.toNat b ∧ s = p + sumB (m.Blocks.take k),[da rMFunc (vMFunc m a0) m],[],[(6,.int .i64 0),(7,.int .i64 s),(43,(resl 7 a0 0 (Int.toNat b))),(44,.int .i64 (↑(List.length (List.take (Int.toNat b) m.Blocks)))),(45,.int .i64 (↑k))],Int.toNat b - k⟩) (0,p) ⟨by omega,by simp [sumB]⟩ (dc d1 dn) kn ⟨Z,eqI (by omega),Z,Z,eqI (by omega),trivial⟩ ?_
 rintro ⟨k,s⟩; dsimp only [u2]; rintro ⟨hk,hs⟩
 have hsb := sumB_bd hq k (by omega)
 refine jq (jr (js (jlss Z Z) (jn (jx (jq ?_)))))
 refine jif Z (fun hc2 => ?_) (fun hc2 => ?_)
 have hit := ix_take (l := m.Blocks) (i := k) (n := Int.toNat b) (by omega)
 have hil : (ix (m.Blocks.take (Int.toNat b)) k).Ins.length = (ix m.Blocks k).Ins.length := by rw [hit]
 have hik := hq k (by omega)
 refine jsk (jx (jq (jb (jq (jr (js (jix U26 Z37 (dhi (rMFunc.cB d0) (Int.toNat b) (by omega) (by omega)) Z Z Z (by omega)) (jA3 sMBlock (jlA (dix (dhi (rMFunc.cB d0) (Int.toNat b) (by omega) (by omega)) k (by omega)) A37 Z37 Z) fun c48a c48b c48c => jalc J37 Z fun g9 => jdq (rMBlock.cP d0) fun q5 w5 => jdq (rMBlock.cI d0) fun q6 w6 => jdq (rMBlock.cT d0) fun q7 w7 => ?_)))))))
 refine jsta k0 Z37 Z Z Z ⟨w5.one,w6.one,Z,Z,Z,w7.one,Z,trivial⟩ (saf Z) (jn (jx (jr (jm Z (js (jf F37_1 Z) (js (jl k0 O33 Z Z) (js (jln U33 (rMBlock.cI d0) Z) (js (jadd Z Z (by omega)) (js (jadd Z Z (by omega)) (ja Z (jn ?_)))))))))))
 refine jbn (jx (jr (js (jadd Z Z (by omega)) (jm Z (jn ?_)))))
 exact jag (k + 1,s + ((((List.length ((ix (List.take (Int.toNat b) m.Blocks) k).Ins) : Nat) : Int)) + 1)) ⟨by dsimp only; omega,by dsimp only; rw [hs,sumB_next (by omega),hil]; omega⟩ (dc d1 dn) kn ⟨Z,eqI (by omega),Z,Z,eqI (by omega),trivial⟩
 refine jex (jtx (jtx (jbh (jx (jq (jr (jm Z (ja Z (jn (jx (jrt ?_)))))))))))
 exact jrI Z Z (by first | (rw [numM,if_pos hth,hs,show k = Int.toNat b by omega]; done) | (rw [numM,if_neg (fun h9 => by have h8 := there_yes h9; rcases hc1 with h7 | h7; (omega); (first | (rw [h8.1] at h7; cases h7) | (simp [h8.1] at h7)))]; done))
theorem row_ct {a0 : Value} {a : List Int} {a1 : Value} {b : List Int} : Tv Tryz.prog 17 #[a0,a1] [dv (rL (rI .i64)) a0 a,dv (rL (rI .i64)) a1 b] [] (.bool (rowQ a b)) := by
 refine jenter (args := [a0,a1]) Tryz.func17 rfl rfl rfl fun w0 X => ?_
 refine jq (jr (ja Z (jn (jx (jq (jq (jr (jm Z (jdq d0 fun q1 w1 => js (jln U22 d0 Z) (jm Z ?_))))))))))
 refine jdq d1 fun q2 w2 => js (jln U22 d1 Z) (js (jneq Z Z) (jn (jx ?_)))
 refine jif Z (fun hc1 => ?_) (fun hc1 => ?_)
 refine jq (jr (ja Z (jn (jx (jrt (jtr ?_))))))
 exact jrB Z Z (by first | (exact decide_eq_true (row_ix (by omega) (fun j hj => hall j (by omega)))) | (exact decide_eq_false (fun h9 => by subst h9; exact hc3 rfl)) | (exact decide_eq_false (fun h9 => by subst h9; exact hc1 rfl)))
 refine jsk (jx (jq (jq (jr (ja Z (jn (jx (jb ?_))))))))
 refine jlp (fun (k : Nat) => ⟨k ≤ a.length ∧ ∀ j,j < k → ix a j = ix b j,[dv (rL (rI .i64)) a0 a,dv (rL (rI .i64)) a1 b],[],[(0,a0),(1,a1),(5,.int .i64 (↑k))],a.length - k⟩) 0 ⟨by omega,fun j hj => by omega⟩ (dc d0 (dc d1 dn)) kn ⟨Z,Z,eqI (by omega),trivial⟩ ?_
 rintro k; dsimp only; rintro ⟨hk,hall⟩
 refine jq (jq (jr (jm Z (jm Z (js (jln U22 d0 Z) (js (jlss Z Z) (jn (jx ?_))))))))
 refine jif Z (fun hc2 => ?_) (fun hc2 => ?_)
 refine jsk (jx (jq (jb (jq (jstl Mixed (by kernel_rfl) (jt (jmv Z) (jt (jmv Z) (jt (jix U22 Z3 d0 Z Z Z (by omega)) (jt (jlI (dix d0 k (by omega)) O3 Z) (jt (jmv Z) (jt (jmv Z) ?_)))))))))))
 refine jt (jix U22 Z3 d1 Z Z Z (by omega)) (jt (jlI (dix d1 k (by omega)) O3 Z) (jt (jneq Z Z) (jdn (jx ?_))))
 refine jif Z (fun hc3 => ?_) (fun hc3 => ?_)
 refine jq (jr (ja Z (jn (jx (jrt (jbr (jtr (jtr (jbr (jtr ?_))))))))))
 exact jrB Z Z (by first | (exact decide_eq_true (row_ix (by omega) (fun j hj => hall j (by omega)))) | (exact decide_eq_false (fun h9 => by subst h9; exact hc3 rfl)) | (exact decide_eq_false (fun h9 => by subst h9; exact hc1 rfl)))
 refine jsk (jbn (jx (jr (jm Z (js (jadd Z Z (by omega)) (ja Z (jn ?_)))))))
 exact jag (k + 1) ⟨by omega,fun j hj => by rcases Nat.lt_or_ge j k with h7 | h7; (exact hall j h7); (rw [show j = k by omega]; exact hc3)⟩ (dc d0 (dc d1 dn)) kn ⟨Z,Z,eqI (by omega),trivial⟩
 refine jex (jtx (jtx (jbh (jx (jq (jr (ja Z (jn (jx (jrt ?_))))))))))
 exact jrB Z Z (by first | (exact decide_eq_true (row_ix (by omega) (fun j hj => hall j (by omega)))) | (exact decide_eq_false (fun h9 => by subst h9; exact hc3 rfl)) | (exact decide_eq_false (fun h9 => by subst h9; exact hc1 rfl)))
def restM (n k : Int) : Int := Int.tmod (Int.tmod n k + k) k
theorem rest_ct (n : Int) (k : Int) (hk1 : 0 < k) (hk2 : k ≤ 1073741824) : Tv Tryz.prog 14 #[.int .i64 n,.int .i64 k] [] [] (.int .i64 (restM n k)) := by
 refine jenter (args := [.int .i64 n,.int .i64 k]) Tryz.func14 rfl rfl rfl fun w0 X => ?_
 have ht1 := tmod_in (n := n) hk1
 refine jq (jr (ja Z (jn (jx (jq (jr (jm Z (jm Z (js (jrem Z Z (by omega)) (jm Z (js (jadd Z Z (by omega)) ?_)))))))))))
 refine jm Z (js (jrem Z Z (by omega)) (ja Z (jn (jx (jrt ?_)))))
 exact jrI Z Z (by rfl)
theorem sAt_rg {now : List Int} (hn : ∀ y ∈ now,Rg y) : ∀ {l : List D.Mach},(∀ i ∈ l,∀ r ∈ takesM i,Rg r) → ∀ y ∈ sAt l now,Rg y
 | [],_,y,hy => hn y hy
 | i :: l,h,y,hy => by
   rw [sAt,uniS_mem,delS_mem] at hy
   rcases hy with hy | hy
   · exact sAt_rg hn (fun j hj => h j (by simp [hj])) y hy.1
   · exact h i (by simp) y hy
def atE (bs : List D.MBlock) (b p : Nat) : List Int := sAt ((ix bs b).Ins.drop p) (uniS (ix (loE bs) b) (nM9 (ix bs b).End))
structure SOk (S : List Int) : Prop where
 w : ∀ y ∈ S,IntKind.i64.wrap y = y
 n : S.length < 1000000
 r : Ris S
 g : ∀ y ∈ S,Rg y
theorem SOk.mk' {S : List Int} (h1 : Ris S) (h2 : ∀ y ∈ S,Rg y) : SOk S := ⟨fun y hy => (h2 y hy).w,by
 have := ris_len (l := S) (lo := 0) (hi := 8192) h1 (by omega) h2; omega,h1,h2⟩
section
variable {bs : List D.MBlock}
theorem loE_ok (hw : WL bs) {b : Nat} (hb : b < bs.length) : SOk (ix (loE bs) b) := .mk' (loE_ris hw hb) fun y hy => hw.lo ((loE_mem hw hb).1 hy) hb
theorem at_ok (hw : WL bs) {b p : Nat} (hb : b < bs.length) : SOk (atE bs b p) := .mk' (sAt_ris (uniS_ris (loE_ris hw hb))) (sAt_rg (fun y hy => by
   rw [uniS_mem] at hy
   rcases hy with hy | hy
   · exact (loE_ok hw hb).g y hy
   · exact (hw.rg b hb).2.1 y hy) (fun i hi => ((hw.rg b hb).1 i (List.mem_of_mem_drop hi)).1))
theorem at_some {b : Nat} (hb : b < bs.length) {p : Nat} (hp : p ≤ (ix bs b).Ins.length) : some (atE bs b p) = ix (ix (plM bs) b) p := by
 rw [plM_ix hb,blkP_ix hp]; rfl
theorem pl_len {b : Nat} (hb : b < bs.length) : (ix (plM bs) b).length = (ix bs b).Ins.length + 1 := by rw [plM_ix hb,blkP_len]
end
def atM (m : D.MFunc) (b p : Int) : List Int := if thereM m b p = true then atE m.Blocks (Int.toNat b) (Int.toNat p) else []
theorem numM_neg {m : D.MFunc} {b p : Int} : (numM m b p < 0 → thereM m b p = false) ∧ (¬ numM m b p < 0 → thereM m b p = true) := by
 unfold numM
 by_cases h : thereM m b p = true
 · rw [if_pos h]
   obtain ⟨h1,h2,h3,h4,h5⟩ := there_yes h
   have := sumB_bd (l := m.Blocks) (right_ins h1) (Int.toNat b) (by omega)
   exact ⟨fun h9 => by omega,fun _ => h⟩
 · rw [if_neg h]; exact ⟨fun _ => by simpa using h,fun h9 => by omega⟩
def hasE (m : D.MFunc) (b p : Nat) : List Int :=
 if 0 < p then uniS (atE m.Blocks b p) (makesM (ix (ix m.Blocks b).Ins (p - 1)))
 else if b = 0 then uniS (uniS (atE m.Blocks b p) (dsts (ix m.Blocks b))) ((List.range (Int.toNat m.Params)).map (fun r : Nat => (r : Int)))
 else uniS (atE m.Blocks b p) (dsts (ix m.Blocks b))
theorem uniS_one {S : List Int} {xs : List Int} {x : Int} : uniS (uniS S xs) [x] = uniS S (xs ++ [x]) := by unfold uniS; rw [List.foldl_append]
end Go.Proofs.YtehhjlkmbdhckaaGreat
