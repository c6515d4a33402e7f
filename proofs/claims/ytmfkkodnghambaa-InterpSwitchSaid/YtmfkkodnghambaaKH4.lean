/- Lemmas that the claim is made of. Conditions: each lemma names its own. -/
import Derived.Test.YtmfkkodnghambaaKH3
set_option linter.unusedSectionVars false
set_option linter.unusedSimpArgs false
set_option linter.unusedVariables false
namespace Go.Proofs.Ytmfkkodnghambaa
open Go.JE
def mem1 (b : Int) (m : Mk) : Int × Mk :=
 let m1 := constS b (IntKind.i32.wrap (tVV 9 m)) (tSS m)
 let m2 := tSS m1
 if tVV 3 m1 = 0 then
   let m3 := sS9 b m2
   let m4 := constS b 7 m3
   let m6 := addS b ⟨5,m4.nx,0,[sV9 m2,m3.nx],0⟩ (freshS m4)
   (m6.nx,addS b ⟨2,m6.nx,0,[(tSS m).nx,m4.nx],0⟩ (freshS m6))
 else ((tSS m).nx,m2)
def mem2 (m : Mk) : Int × Mk :=
 let m2 := tSS (tSS m)
 if tVV 12 (tSS m) = 0 then (wordV m2,wordS m2) else (IntKind.i32.wrap (tVV 4 m),m2)
def memS (b : Int) (st : Bool) (m : Mk) : Mk :=
 let a := mem1 b m
 let i := mem2 a.2
 if st then addS b ⟨16,0,0,[a.1,sV9 i.2],i.1⟩ (sS9 b i.2) else addS b ⟨15,i.2.nx,0,[a.1],i.1⟩ (freshS i.2)
def argsL (b : Int) : Nat → List Int → Mk → List Int × Mk
 | 0,l,m => (l,m)
 | n + 1,l,m => argsL b n (l ++ [sV9 m]) (sS9 b m)
def insS (b : Int) (m : Mk) : Mk :=
 let k := tVV 20 m
 let m1 := tSS m
 let m2 := sS9 b m1
 let m3 := sS9 b m2
 if k < 12 then
   if tVV 3 m3 = 0 then
     let m4 := constS b (IntKind.i32.wrap (tVV 40 (tSS m3) - 8)) (tSS (tSS m3))
     addS b ⟨ix [2,2,3,4,5,6,7,8,9,10,12,11] k.toNat,m4.nx,0,[sV9 m1,(tSS (tSS m3)).nx],0⟩ (freshS m4)
   else addS b ⟨ix [2,2,3,4,5,6,7,8,9,10,12,11] k.toNat,(tSS m3).nx,0,[sV9 m1,sV9 m2],0⟩ (freshS (tSS m3))
 else if k = 12 then addS b ⟨13,m3.nx,0,[sV9 m1,sV9 m2],0⟩ (freshS m3)
 else if k = 13 then
   let m4 := constS b (IntKind.i32.wrap (tVV 12 m2)) (tSS m2)
   if 0 < tVV 3 m4 then
     let m5 := constS b (IntKind.i32.wrap (1 + IntKind.i32.wrap (tVV 12 (tSS m4)))) (tSS (tSS m4))
     addS b ⟨14,m5.nx,0,[sV9 m1,(tSS (tSS m4)).nx],0⟩ (freshS m5)
   else addS b ⟨14,(tSS m4).nx,0,[sV9 m1,(tSS m2).nx],0⟩ (freshS (tSS m4))
 else if k < 16 then memS b (decide (k = 15)) m1
 else if k = 16 then
   let r := argsL b (tVV 5 m1).toNat [] (tSS m1)
   addS b ⟨17,r.2.nx,0,r.1,IntKind.i32.wrap (tVV 5 (freshS r.2))⟩ (tSS (freshS r.2))
 else if k = 17 then addS b ⟨18,m3.nx,(freshS m3).nx,[sV9 m1,sV9 m2],0⟩ (freshS (freshS m3))
 else constS b (wordV m1) (wordS m1)
def setT (b : Int) (t : D.Term) (m : Mk) : Mk := { m with bs := m.bs.set b.toNat { (ix m.bs b.toNat) with Term := t } }
def endS (b : Int) (l : List Int) (m : Mk) : Mk :=
 if l.length = 0 then
   if tVV 8 m = 0 then setT b ⟨5,[],[],IntKind.i32.wrap (tVV 200 (tSS m))⟩ (tSS (tSS m))
   else if tVV 8 m > 1 then setT b ⟨4,[sV9 (tSS m)],[],0⟩ (sS9 b (tSS m))
   else setT b ⟨4,[],[],0⟩ (tSS m)
 else if l.length = 1 then setT b ⟨1,[],l,0⟩ m
 else if l.length = 2 then
   let m1 := sS9 b m
   let m2 := tSS m1
   if tVV 2 m1 = 0 then
     let m3 := sS9 b m2
     let m4 := freshS m3
     setT b ⟨2,[m3.nx],l,0⟩ (addS b ⟨ix [11,12,13] (tVV 3 m4).toNat,m3.nx,0,[sV9 m,sV9 m2],0⟩ (tSS m4))
   else setT b ⟨2,[sV9 m],l,0⟩ m2
 else
   let m1 := sS9 b m
   let m2 := constS b 7 m1
   setT b ⟨3,[m2.nx],l,0⟩ (addS b ⟨5,m2.nx,0,[sV9 m,m1.nx],0⟩ (freshS m2))
section
variable {nb c : Nat} {m : Mk} {b : Int}
theorem args_len : ∀ (n : Nat) (l : List Int) (m : Mk),(argsL b n l m).1.length = l.length + n
 | 0,_,_ => rfl
 | n + 1,l,m => by rw [argsL,args_len n]; simp; omega
end
def predsT3 (bs : List D.Block) : Nat → Int → List Int
 | 0,_ => []
 | k + 1,b => predsT3 bs k b ++ (if (ix bs k).Term.To.any (fun y => decide (y = b)) then [(k : Int)] else [])
def pd3 (f : D.Func) (b : Int) : List Int := predsT3 f.Blocks f.Blocks.length b
def cnt3 (l : List Bool) : Nat := l.countP (fun x => !x)
theorem cnt3_set {l : List Bool} {i : Nat} (hi : i < l.length) (h : ix l i = false) : cnt3 (l.set i true) + 1 = cnt3 l := by
 unfold cnt3
 have h2 : l[i] = false := by rw [← ix_eq hi]; exact h
 rw [List.countP_set hi]
 have : 0 < l.countP (fun x => !x) := List.countP_pos_iff.2 ⟨_,List.getElem_mem hi,by simp [h2]⟩
 simp [h2]; omega
theorem cnt3_rep (n : Nat) : cnt3 (List.replicate n false) = n := by simp [cnt3,List.countP_replicate]
theorem ix_rep (n i : Nat) : ix (List.replicate n false) i = false := by by_cases h : i < n <;> simp [ix,h]
def b3In (w : Int) : List Bool → List Int → List Int → List Bool × List Int
 | se,q,[] => (se,q)
 | se,q,t :: ts => if (0 ≤ t ∧ t < se.length) ∧ ix se t.toNat = false ∧ t ≠ w then b3In w (se.set t.toNat true) (q ++ [t]) ts else b3In w se q ts
def b3 (bs : List D.Block) (w : Int) : Nat → List Bool → List Int → Nat → List Bool
 | 0,se,_,_ => se
 | f + 1,se,q,i => if i < q.length then b3 bs w f (b3In w se q (ix bs (ix q i).toNat).Term.To).1 (b3In w se q (ix bs (ix q i).toNat).Term.To).2 (i + 1) else se
def reach3 (f : D.Func) (w : Int) : List Bool :=
 if w ≠ 0 ∧ 0 < f.Blocks.length then b3 f.Blocks w f.Blocks.length ((List.replicate f.Blocks.length false).set 0 true) [0] 0
 else List.replicate f.Blocks.length false
theorem b3In_len {w : Int} : ∀ (T : List Int) (se : List Bool) (q : List Int),(b3In w se q T).1.length = se.length
 | [],_,_ => rfl
 | t :: ts,se,q => by rw [b3In]; split; (· rw [b3In_len ts]; simp); exact b3In_len ts se q
def numsL (n : Nat) : List Int := (List.range n).map (fun (i : Nat) => (i : Int))
theorem ix_set {α : Type} [Inhabited α] {l : List α} {i j : Nat} {a : α} (hj : j < l.length) : ix (l.set j a) i = if i = j then a else ix l i := by
 by_cases h : i = j
 · subst h; rw [if_pos rfl]; simp [ix,hj]
 · rw [if_neg h]; simp [ix,List.getElem?_set_ne (Ne.symm h)]
def fnM (m : Mk) : D.Func := ⟨m.par,m.bs⟩
def addP (b : Nat) (m : Mk) : Mk := { (freshS m) with bs := (freshS m).bs.set b { (ix (freshS m).bs b) with Phis := (ix (freshS m).bs b).Phis ++ [⟨m.nx,[]⟩] } }
def phiN (b : Nat) : Nat → Mk → Mk
 | 0,m => m
 | k + 1,m => phiN b k (addP b m)
def phiR (b : Nat) (ph : List Int) (m : Mk) : List Int :=
 if 1 < (pd3 (fnM m) b).length then ph.set b (tVV 4 m) else if tVV 6 m = 0 then ph.set b 1 else ph
def phiS : Nat → Nat → List Int → Mk → List Int × Mk
 | 0,_,ph,m => (ph,m)
 | k + 1,b,ph,m => phiS k (b + 1) (phiR b ph m) (phiN b (ix (phiR b ph m) b).toNat (tSS m))
def okA (f : D.Func) (dn : List Bool) (b a : Nat) : Bool := decide (a = b) || (ix dn a || ix (reach3 f (a : Int)) b)
def readyF (f : D.Func) (dn : List Bool) (b a : Nat) : Bool := !(ix dn b) && (List.range a).all (fun i => okA f dn b i)
def skipA (f : D.Func) (dn : List Bool) (b a : Nat) : Bool := !(decide (a = b)) && (!(ix dn a) || ix (reach3 f (a : Int)) b)
def lvB (f : D.Func) (dn : List Bool) (b a : Nat) : List Int := if skipA f dn b a then [] else (ix f.Blocks a).Phis.map (·.Dst) ++ (ix f.Blocks a).Ins.flatMap makes3
def lvF (f : D.Func) (dn : List Bool) (b a : Nat) : List Int := numsL f.Params.toNat ++ (List.range a).flatMap (fun i => lvB f dn b i)
def insN (b : Nat) : Nat → Mk → Mk
 | 0,m => m
 | k + 1,m => insN b k (insS b m)
def lvM (n b : Nat) (dn : List Bool) (m : Mk) : Mk := { m with lv := lvF (fnM m) dn b n }
def blkM (n : Nat) (to : List (List Int)) (b : Nat) (dn : List Bool) (m : Mk) : Mk := endS b (ix to b) (insN b (tVV 7 (lvM n b dn m)).toNat (tSS (lvM n b dn m)))
def rowS (n : Nat) (to : List (List Int)) : Nat → Nat → List Bool → Mk → List Bool × Mk
 | 0,_,dn,m => (dn,m)
 | k + 1,b,dn,m => if readyF (fnM m) dn b n then rowS n to k (b + 1) (dn.set b true) (blkM n to b (dn.set b true) m) else rowS n to k (b + 1) dn m
theorem rng_set {ph : List Int} {b : Nat} {x : Int} (h : ∀ j,0 ≤ ix ph j ∧ ix ph j ≤ 3) (hx : 0 ≤ x ∧ x ≤ 3) : ∀ j,0 ≤ ix (ph.set b x) j ∧ ix (ph.set b x) j ≤ 3 := by
 intro j
 by_cases e : b < ph.length
 · rw [ix_set e]; split
   · exact hx
   · exact h j
 · rw [List.set_eq_of_length_le (by omega)]; exact h j
def phiOK (b : Nat) (ph : List Int) (m : Mk) : Prop := (∀ j,(ix m.bs j).Phis.length = if j < b then (ix ph j).toNat else 0) ∧ ∀ j,b ≤ j → ix ph j = 0
theorem addP_len {b : Nat} {m : Mk} (hb : b < m.bs.length) (j : Nat) : (ix (addP b m).bs j).Phis.length = (ix m.bs j).Phis.length + if j = b then 1 else 0 := by
 show (ix (m.bs.set b _) j).Phis.length = _
 rw [ix_set hb]
 split
 · rename_i e; subst e; simp [freshS]
 · rfl
theorem phiN_len {b : Nat} : ∀ (k : Nat) (m : Mk),b < m.bs.length → ∀ j,(ix (phiN b k m).bs j).Phis.length = (ix m.bs j).Phis.length + if j = b then k else 0
 | 0,m,_,j => by simp [phiN]
 | k + 1,m,hb,j => by
   rw [phiN,phiN_len k (addP b m) (by simpa [addP,freshS] using hb) j,addP_len hb]
   split <;> omega
theorem phi_step {b : Nat} {ph ph' : List Int} {m : Mk} (h : phiOK b ph m) (hb : b < m.bs.length) (hl : b < ph.length) (hp : ph' = phiR b ph m) : phiOK (b + 1) ph' (phiN b (ix ph' b).toNat (tSS m)) := by
 have hne : ∀ j,j ≠ b → ix ph' j = ix ph j := fun j hj => by
   rw [hp]; unfold phiR; (repeat' split) <;> first | rfl | (rw [ix_set hl,if_neg hj])
 refine ⟨fun j => ?_,fun j hj => by rw [hne j (by omega)]; exact h.2 j (by omega)⟩
 rw [phiN_len _ _ (by exact hb) j]
 show (ix m.bs j).Phis.length + _ = _
 rw [h.1 j]
 by_cases e : j = b
 · subst e; rw [if_neg (by omega),if_pos rfl,if_pos (by omega)]; omega
 · rw [if_neg e,hne j e]
   by_cases e2 : j < b
   · rw [if_pos e2,if_pos (by omega)]; rfl
   · rw [if_neg e2,if_neg (by omega)]
theorem phiR_rng {b : Nat} {ph : List Int} {m : Mk} (h : ∀ j,0 ≤ ix ph j ∧ ix ph j ≤ 3) : ∀ j,0 ≤ ix (phiR b ph m) j ∧ ix (phiR b ph m) j ≤ 3 := by
 have h4 := tV9 (n := 4) (by omega) m
 unfold phiR; split
 · exact rng_set h (by omega)
 split
 · exact rng_set h (by omega)
 · exact h
theorem phiR_len {b : Nat} {ph : List Int} {m : Mk} : (phiR b ph m).length = ph.length := by unfold phiR; (repeat' split) <;> simp
def goodI (i : D.Ins) : Prop := (0 ≤ i.Op ∧ i.Op ≤ 1000) ∧ (i.Op = 1 ∨ i.Op = 17 ∨ (i.Op = 15 ∧ 1 ≤ i.Args.length) ∨ 2 ≤ i.Args.length)
def goodT (t : D.Term) : Prop := (t.Kind ≠ 2 ∨ (1 ≤ t.Args.length ∧ 2 ≤ t.To.length)) ∧ (t.Kind ≠ 3 ∨ 1 ≤ t.Args.length)
def goodB (b : D.Block) : Prop := (∀ i ∈ b.Ins,goodI i) ∧ goodT b.Term
def goodF (f : D.Func) : Prop := ∀ b ∈ f.Blocks,goodB b
theorem goodF.ins {f : D.Func} (h : goodF f) {b j : Nat} (hb : b < f.Blocks.length) (hj : j < (ix f.Blocks b).Ins.length) : (0 ≤ (ix (ix f.Blocks b).Ins j).Op ∧ (ix (ix f.Blocks b).Ins j).Op ≤ 1000) ∧ ((ix (ix f.Blocks b).Ins j).Op = 1 ∨ (ix (ix f.Blocks b).Ins j).Op = 17 ∨ ((ix (ix f.Blocks b).Ins j).Op = 15 ∧ 1 ≤ (ix (ix f.Blocks b).Ins j).Args.length) ∨ 2 ≤ (ix (ix f.Blocks b).Ins j).Args.length) :=
 (h _ (ix_mem hb)).1 _ (ix_mem hj)
def goodM (m : Mk) : Prop := ∀ b ∈ m.bs,goodB b
theorem goodB0 : goodB default := ⟨fun _ h => (List.not_mem_nil h).elim,⟨.inl (by decide),.inl (by decide)⟩⟩
theorem goodM.ix {m : Mk} (h : goodM m) (j : Nat) : goodB (ix m.bs j) := by
 by_cases hj : j < m.bs.length
 · exact h _ (ix_mem hj)
 · have : JE.ix m.bs j = default := by simp [JE.ix,hj]
   rw [this]; exact goodB0
theorem goodM.set {m : Mk} (h : goodM m) {j : Nat} {x : D.Block} (hx : goodB x) : goodM { m with bs := m.bs.set j x } := fun b hb => by
 rcases List.mem_or_eq_of_mem_set hb with h1 | h1
 · exact h b h1
 · exact h1 ▸ hx
def fgM (nb c : Nat) (m : Mk) : Prop := okM nb c m ∧ goodM m
theorem fgM.mono {nb c c' : Nat} {m : Mk} (h : fgM nb c m) (hc : c ≤ c') : fgM nb c' m := ⟨h.1.mono hc,h.2⟩
theorem ixd_set {l : List Bool} {i j : Nat} : ix (l.set j true) i = true → i = j ∨ ix l i = true := by
 intro h
 by_cases hj : j < l.length
 · rw [ix_set hj] at h; split at h; (· left; assumption); right; exact h
 · rw [List.set_eq_of_length_le (by omega)] at h; exact .inr h
theorem ix_up {l : List Bool} {i j : Nat} (h : ix l i = true) : ix (l.set j true) i = true := by
 by_cases hj : j < l.length
 · rw [ix_set hj]; split; rfl; exact h
 · rw [List.set_eq_of_length_le (by omega)]; exact h
theorem ix_len {l : List Bool} {i : Nat} (h : ix l i = true) : i < l.length := by
 rcases Nat.lt_or_ge i l.length with h1 | h1
 · exact h1
 · simp [ix,List.getD,List.getElem?_eq_none h1] at h
section
variable {w : Int}
theorem b3In_mono : ∀ (ts : List Int) (se : List Bool) (q : List Int) (j : Nat),ix se j = true → ix (b3In w se q ts).1 j = true
 | [],_,_,_,h => h
 | t :: ts,se,q,j,h => by rw [b3In]; split; exact b3In_mono ts _ _ j (ix_up h); exact b3In_mono ts _ _ j h
theorem b3In_app : ∀ (ts : List Int) (se : List Bool) (q : List Int),∃ u,(b3In w se q ts).2 = q ++ u
 | [],_,q => ⟨[],by simp [b3In]⟩
 | t :: ts,se,q => by
   rw [b3In]; split
   · obtain ⟨u,h⟩ := b3In_app ts (se.set t.toNat true) (q ++ [t]); exact ⟨t :: u,by rw [h]; simp⟩
   · exact b3In_app ts se q
theorem b3In_cl : ∀ (ts : List Int) (se : List Bool) (q : List Int),∀ t ∈ ts,0 ≤ t → t < se.length → t ≠ w → ix (b3In w se q ts).1 t.toNat = true
 | [],_,_,t,h,_,_,_ => by cases h
 | y :: ts,se,q,t,h,h0,h1,h2 => by
   rw [b3In]
   rcases List.mem_cons.1 h with rfl | h
   · split
     · exact b3In_mono ts _ _ _ (by rw [ix_set (by omega),if_pos rfl])
     · rename_i h9
       refine b3In_mono ts _ _ _ ?_
       cases h8 : ix se t.toNat with
       | true => rfl
       | false => exact absurd ⟨⟨h0,h1⟩,h8,h2⟩ h9
   · split
     · exact b3In_cl ts _ _ t h h0 (by simpa using h1) h2
     · exact b3In_cl ts _ _ t h h0 h1 h2
theorem b3In_q : ∀ (ts : List Int) (se : List Bool) (q : List Int),(∀ j : Nat,ix se j = true → (j : Int) ∈ q) → ∀ j : Nat,ix (b3In w se q ts).1 j = true → (j : Int) ∈ (b3In w se q ts).2
 | [],_,_,h,j,hj => h j hj
 | t :: ts,se,q,h,j,hj => by
   rw [b3In] at hj ⊢
   split at hj
   · rename_i h9
     rw [if_pos h9]
     refine b3In_q ts _ _ (fun i hi => ?_) j hj
     rcases ixd_set hi with e | e
     · rw [e]; simp; right; omega
     · simp [h i e]
   · rename_i h9
     rw [if_neg h9]; exact b3In_q ts _ _ h j hj
theorem b3In_cnt : ∀ (ts : List Int) (se : List Bool) (q : List Int),(b3In w se q ts).2.length + cnt3 (b3In w se q ts).1 = q.length + cnt3 se
 | [],_,_ => rfl
 | t :: ts,se,q => by
   rw [b3In]; split
   · rename_i h9
     rw [b3In_cnt ts]
     have := cnt3_set (l := se) (i := t.toNat) (by omega) h9.2.1
     rw [List.length_append]; simp; omega
   · exact b3In_cnt ts _ _
end
theorem b3_cl {bs : List D.Block} {w : Int} : ∀ (f : Nat) (se : List Bool) (q : List Int) (i : Nat),bs.length ≤ f + i → se.length = bs.length → q.length + cnt3 se ≤ bs.length →
   (∀ j : Nat,ix se j = true → (j : Int) ∈ q) → (∀ j,j < i → j < q.length → ∀ t ∈ (ix bs (ix q j).toNat).Term.To,0 ≤ t → t < bs.length → t ≠ w → ix se t.toNat = true) →
   (∀ j,ix se j = true → ix (b3 bs w f se q i) j = true) ∧ ∀ x : Nat,ix (b3 bs w f se q i) x = true → ∀ t ∈ (ix bs x).Term.To,0 ≤ t → t < bs.length → t ≠ w → ix (b3 bs w f se q i) t.toNat = true
 | 0,se,q,i,hf,hl,hc,hq,hp => by
   refine ⟨fun j h => h,fun x hx t ht h0 h1 h2 => ?_⟩
   obtain ⟨j,hj,e⟩ := List.getElem_of_mem (hq x hx)
   have e2 : ix q j = x := by rw [ix_eq hj]; exact e
   exact hp j (by omega) hj t (by rw [e2]; simpa using ht) h0 h1 h2
 | f + 1,se,q,i,hf,hl,hc,hq,hp => by
   rw [b3]
   by_cases hi : i < q.length
   · rw [if_pos hi]
     obtain ⟨u,hu⟩ := b3In_app (w := w) (ix bs (ix q i).toNat).Term.To se q
     have hcn := b3In_cnt (w := w) (ix bs (ix q i).toNat).Term.To se q
     obtain ⟨a,b⟩ := b3_cl (bs := bs) (w := w) f (b3In w se q (ix bs (ix q i).toNat).Term.To).1 (b3In w se q (ix bs (ix q i).toNat).Term.To).2 (i + 1) (by omega) (by rw [b3In_len]; exact hl) (by omega)
       (b3In_q _ _ _ hq) (fun j hj hj2 t ht h0 h1 h2 => by
         rw [hu] at ht
         rcases Nat.lt_or_ge j i with h | h
         · rw [ix_app (l := q) (i := j) (by omega)] at ht
           exact b3In_mono _ _ _ _ (hp j h (by omega) t ht h0 h1 h2)
         · rw [show j = i by omega,ix_app hi] at ht
           exact b3In_cl _ _ _ t ht h0 (by omega) h2)
     exact ⟨fun j hj => a j (b3In_mono _ _ _ _ hj),b⟩
   · rw [if_neg hi]
     refine ⟨fun j h => h,fun x hx t ht h0 h1 h2 => ?_⟩
     obtain ⟨j,hj,e⟩ := List.getElem_of_mem (hq x hx)
     have e2 : ix q j = x := by rw [ix_eq hj]; exact e
     exact hp j (by omega) hj t (by rw [e2]; simpa using ht) h0 h1 h2
theorem reach3_cl {f : D.Func} {w : Int} (hw : w ≠ 0) (hn : 0 < f.Blocks.length) : ix (reach3 f w) 0 = true ∧ ∀ x : Nat,ix (reach3 f w) x = true → ∀ t ∈ (ix f.Blocks x).Term.To,0 ≤ t → t < f.Blocks.length → t ≠ w → ix (reach3 f w) t.toNat = true := by
 unfold reach3
 rw [if_pos ⟨hw,hn⟩]
 have h0 : ix ((List.replicate f.Blocks.length false).set 0 true) 0 = true := by rw [ix_set (by simpa using hn),if_pos rfl]
 obtain ⟨a,b⟩ := b3_cl (bs := f.Blocks) (w := w) f.Blocks.length ((List.replicate f.Blocks.length false).set 0 true) [0] 0 (by omega) (by simp)
   (by have := cnt3_set (l := List.replicate f.Blocks.length false) (i := 0) (by simpa using hn) (ix_rep _ _); rw [cnt3_rep] at this; simp; omega)
   (fun j hj => by rcases ixd_set hj with e | e; (· subst e; simp); rw [ix_rep] at e; cases e) (fun j hj => by omega)
 exact ⟨a 0 h0,b⟩
def Parent (n : Nat) (to : Nat → List Int) : Prop := ∀ b : Nat,1 ≤ b → b < n → ∃ p,p < b ∧ (b : Int) ∈ to p
def TR (n : Nat) (L : Nat) (to : List (List Int)) : Prop := to.length = n ∧ (∀ j,(ix to j).length ≤ L) ∧ ∀ j,∀ t ∈ ix to j,1 ≤ t ∧ t < n
def PB (b : Int) (to : List (List Int)) : Prop := ∀ c : Nat,1 ≤ c → (c : Int) < b → ∃ p,p < c ∧ (c : Int) ∈ ix to p
theorem TR.mono {n L M : Nat} {to : List (List Int)} (h : TR n L to) (hl : L ≤ M) : TR n M to := ⟨h.1,fun j => Nat.le_trans (h.2.1 j) hl,h.2.2⟩
theorem ix_put {to : List (List Int)} {p : Nat} {x : Int} (hp : p < to.length) (j : Nat) : ix (to.set p (to.getD p [] ++ [x])) j = if j = p then ix to p ++ [x] else ix to j := by
 rw [ix_set hp]; rfl
theorem TR.put {n L p : Nat} {to : List (List Int)} {x : Int} (h : TR n L to) (hp : p < n) (hx : 1 ≤ x ∧ x < n) : TR n (L + 1) (to.set p (to.getD p [] ++ [x])) := by
 have hp' : p < to.length := by rw [h.1]; exact hp
 refine ⟨by rw [List.length_set]; exact h.1,fun j => ?_,fun j t ht => ?_⟩
 · rw [ix_put hp']; split
   · rw [List.length_append]; have := h.2.1 p; simp; omega
   · have := h.2.1 j; omega
 · rw [ix_put hp'] at ht; split at ht
   · rcases List.mem_append.1 ht with h1 | h1
     · exact h.2.2 p t h1
     · simp at h1; subst h1; exact hx
   · exact h.2.2 j t ht
theorem mem_put {to : List (List Int)} {p j : Nat} {x y : Int} (hp : p < to.length) (h : y ∈ ix to j) : y ∈ ix (to.set p (to.getD p [] ++ [x])) j := by
 rw [ix_put hp]; split
 · rename_i e; subst e; simp [h]
 · exact h
theorem PB.put {to : List (List Int)} {b : Int} {p : Nat} {x : Int} (h : PB b to) (hp : p < to.length) : PB b (to.set p (to.getD p [] ++ [x])) := fun c h1 h2 => by
 obtain ⟨q,h3,h4⟩ := h c h1 h2
 exact ⟨q,h3,mem_put hp h4⟩
theorem PB.next {to : List (List Int)} {b : Int} {p : Nat} (h : PB b to) (hp : p < to.length) (hb : (p : Int) < b) : PB (b + 1) (to.set p (to.getD p [] ++ [b])) := fun c h1 h2 => by
 by_cases e : (c : Int) = b
 · refine ⟨p,by omega,?_⟩
   rw [ix_put hp,if_pos rfl,e]; simp
 · exact h.put hp c h1 (by omega)
def gI (n : Int) (i : D.Ins) : Prop := (1 ≤ i.Op ∧ i.Op ≤ 18) ∧ (i.Op = 1 ∨ i.Op = 17 ∨ (i.Op = 15 ∧ 1 ≤ i.Args.length) ∨ 2 ≤ i.Args.length) ∧ i.Args.length ≤ 4 ∧ (∀ a ∈ i.Args,0 ≤ a ∧ a < n) ∧ (∀ d ∈ makes3 i,0 ≤ d ∧ d < n) ∧ (i.Op = 18 → i.Dst ≠ i.Two)
def gT (n : Int) (t : D.Term) : Prop := (1 ≤ t.Kind ∧ t.Kind ≤ 5) ∧ (∀ a ∈ t.Args,0 ≤ a ∧ a < n) ∧ (t.Kind = 1 → t.To.length = 1) ∧ (t.Kind = 2 → t.To.length = 2 ∧ 1 ≤ t.Args.length) ∧ (t.Kind = 3 → 2 ≤ t.To.length ∧ t.To.length ≤ 65 ∧ 1 ≤ t.Args.length) ∧ (4 ≤ t.Kind → t.To = [])
def gP (n : Int) (p : D.Phi) : Prop := (0 ≤ p.Dst ∧ p.Dst < n) ∧ ∀ x ∈ p.In,0 ≤ x.Val ∧ x.Val < n
def gB (n : Int) (x : D.Block) : Prop := (∀ i ∈ x.Ins,gI n i) ∧ (∀ p ∈ x.Phis,gP n p) ∧ (x.Term.Kind = 0 ∨ gT n x.Term) ∧ (x.Phis.map (·.Dst)).Nodup
def cI : List D.Block → Nat
 | [] => 0
 | x :: l => x.Ins.length + cI l
theorem cI_set : ∀ {l : List D.Block} {j d : Nat} {b : D.Block},b.Ins.length ≤ (ix l j).Ins.length + d → cI (l.set j b) ≤ cI l + d
 | [],_,_,_,_ => by simp [cI]
 | x :: l,0,_,b,h => by rw [ix_zero] at h; rw [List.set_cons_zero,cI,cI]; omega
 | x :: l,j + 1,d,b,h => by rw [ix_cons] at h; rw [List.set_cons_succ,cI,cI]; have := cI_set (l := l) h; omega
section
variable {n n' : Int}
theorem gI.mono {i : D.Ins} (h : gI n i) (hn : n ≤ n') : gI n' i := ⟨h.1,h.2.1,h.2.2.1,fun a ha => by have := h.2.2.2.1 a ha; omega,fun a ha => by have := h.2.2.2.2.1 a ha; omega,h.2.2.2.2.2⟩
theorem gT.mono {t : D.Term} (h : gT n t) (hn : n ≤ n') : gT n' t := ⟨h.1,fun a ha => by have := h.2.1 a ha; omega,h.2.2⟩
theorem gP.mono {p : D.Phi} (h : gP n p) (hn : n ≤ n') : gP n' p := ⟨by have := h.1; omega,fun x hx => by have := h.2 x hx; omega⟩
theorem gB.mono {x : D.Block} (h : gB n x) (hn : n ≤ n') : gB n' x := ⟨fun i hi => (h.1 i hi).mono hn,fun i hi => (h.2.1 i hi).mono hn,h.2.2.1.imp id (fun h => h.mono hn),h.2.2.2⟩
end
structure RI (n b c : Nat) (to : List (List Int)) (m : Mk) : Prop where
 len : m.bs.length = n
 par : 0 ≤ m.par ∧ m.par ≤ 4
 nx : m.par ≤ m.nx ∧ m.nx ≤ c
 cnt : cI m.bs ≤ c
 lv : ∀ x ∈ m.lv,0 ≤ x ∧ x < m.nx
 blk : ∀ j,j < n → gB m.nx (ix m.bs j)
 tos : ∀ j,j < n → (ix m.bs j).Term.To = ix to j
 kd : ∀ j,j < b → j < n → (ix m.bs j).Term.Kind ≠ 0
section
variable {n b c d : Nat} {to : List (List Int)} {m : Mk}
theorem RI.mono (h : RI n b c to m) (hc : c ≤ d) : RI n b d to m := ⟨h.len,h.par,by have := h.nx; omega,by have := h.cnt; omega,h.lv,h.blk,h.tos,h.kd⟩
theorem RI.take (h : RI n b c to m) : RI n b c to (tSS m) := ⟨h.len,h.par,h.nx,h.cnt,h.lv,h.blk,h.tos,h.kd⟩
theorem RI.fresh (h : RI n b c to m) : RI n b (c + 1) to (freshS m) where
 len := h.len
 par := h.par
 nx := by have := h.nx; show m.par ≤ m.nx + 1 ∧ m.nx + 1 ≤ _; omega
 cnt := by have := h.cnt; show cI m.bs ≤ _; omega
 lv := fun x hx => by have := h.lv x hx; show 0 ≤ x ∧ x < m.nx + 1; omega
 blk := fun j hj => (h.blk j hj).mono (by show m.nx ≤ m.nx + 1; omega)
 tos := h.tos
 kd := h.kd
theorem RI.add {i : D.Ins} {j : Int} (h : RI n b c to m) (hj : 0 ≤ j ∧ j < n) (hi : gI m.nx i) : RI n b (c + 1) to (addS j i m) where
 len := by show (m.bs.set _ _).length = n; rw [List.length_set]; exact h.len
 par := h.par
 nx := by have := h.nx; show m.par ≤ m.nx ∧ m.nx ≤ _; omega
 cnt := by
   have h1 := cI_set (l := m.bs) (j := j.toNat) (d := 1) (b := { (ix m.bs j.toNat) with Ins := (ix m.bs j.toNat).Ins ++ [i] }) (by dsimp only; rw [List.length_append]; exact Nat.le_refl _)
   have h2 := h.cnt
   show cI (m.bs.set _ _) ≤ _; omega
 lv := fun x hx => by
   rcases List.mem_append.1 (show x ∈ m.lv ++ makes3 i from hx) with h1 | h1
   · exact h.lv x h1
   · exact hi.2.2.2.2.1 x h1
 blk := fun q hq => by
   show gB m.nx (ix (m.bs.set _ _) q)
   rw [ix_set (by rw [h.len]; omega)]; split
   · have h1 := h.blk j.toNat (by omega)
     refine ⟨fun y hy => ?_,h1.2⟩
     rcases List.mem_append.1 hy with h2 | h2
     · exact h1.1 y h2
     · simp at h2; subst h2; exact hi
   · exact h.blk q hq
 tos := fun q hq => by
   show (ix (m.bs.set _ _) q).Term.To = _
   rw [ix_set (by rw [h.len]; omega)]; split
   · rename_i e; subst e; exact h.tos _ hq
   · exact h.tos q hq
 kd := fun q hb hq => by
   show (ix (m.bs.set _ _) q).Term.Kind ≠ 0
   rw [ix_set (by rw [h.len]; omega)]; split
   · rename_i e; subst e; exact h.kd _ hb hq
   · exact h.kd q hb hq
theorem gI_const {n v : Int} {x : Int} (h : 0 ≤ x ∧ x < n) : gI n ⟨1,x,0,[],v⟩ := ⟨(by dsimp only; omega),.inl rfl,Nat.zero_le _,fun a ha => (by cases ha),fun a ha => (by simp [makes3] at ha; subst ha; exact h),fun h => (by simp at h)⟩
theorem gI_two {n op x a b v : Int} (hop : 2 ≤ op ∧ op ≤ 14) (h : 0 ≤ x ∧ x < n) (ha : 0 ≤ a ∧ a < n) (hb : 0 ≤ b ∧ b < n) : gI n ⟨op,x,0,[a,b],v⟩ :=
 ⟨(by dsimp only; omega),.inr (.inr (.inr (Nat.le_refl _))),(by show 2 ≤ 4; omega),fun y hy => (by simp at hy; rcases hy with rfl | rfl <;> assumption),fun y hy => (by
   have : makes3 ⟨op,x,0,[a,b],v⟩ = [x] := by unfold makes3; rw [if_neg (by dsimp only; omega),if_neg (by dsimp only; omega)]
   rw [this] at hy; simp at hy; subst hy; exact h),fun h => (by dsimp only at h; omega)⟩
theorem RI.const {j v : Int} (h : RI n b c to m) (hj : 0 ≤ j ∧ j < n) : RI n b (c + 2) to (constS j v m) := h.fresh.add hj (gI_const (by have := h.nx; have := h.par; show 0 ≤ m.nx ∧ m.nx < m.nx + 1; omega))
theorem nx_const {j v : Int} : (constS j v m).nx = m.nx + 1 := rfl
theorem RI.word (h : RI n b c to m) : RI n b c to (wordS m) := h.take.take
theorem RI.value (h : RI n b c to m) : RI n b c to (valueS m) ∧ (valueS m).nx = m.nx := by unfold valueS; split; exact ⟨h,rfl⟩; exact ⟨h.take.take,rfl⟩
theorem RI.some0 (h : RI n b c to m) : RI n b c to (someM0 m) ∧ (someM0 m).nx = m.nx := by
 unfold someM0; split
 · exact ⟨h.value.1.take,h.value.2⟩
 · exact h.value
theorem RI.nn (h : RI n b c to m) : 0 ≤ m.nx := by have := h.nx; have := h.par; omega
theorem RI.some {j : Int} (h : RI n b c to m) (hj : 0 ≤ j ∧ j < n) : RI n b (c + 2) to (sS9 j m) ∧ m.nx ≤ (sS9 j m).nx ∧ 0 ≤ sV9 m ∧ sV9 m < (sS9 j m).nx := by
 have h0 := h.some0
 have hn := h.nn
 unfold sS9 sV9
 by_cases hc : someC m = true
 · rw [if_pos hc,if_pos hc,nx_const]
   have : (wordS (someM0 m)).nx = m.nx := h0.2
   exact ⟨h0.1.word.const hj,by omega,by omega,by omega⟩
 · rw [if_neg hc,if_neg hc]
   refine ⟨h0.1.mono (by omega),by omega,?_⟩
   rw [h0.2]
   have hv : valueB m = true := by
     cases h9 : valueB m with
     | true => rfl
     | false => exact absurd (by unfold someC; rw [h9]; rfl) hc
   have hl : m.lv.length ≠ 0 := by unfold valueB at hv; simpa using hv
   unfold valueV
   rw [if_neg hl]
   have hr : 0 ≤ valueI m ∧ valueI m < m.lv.length := by
     unfold valueI; split
     · omega
     · exact tV9 (by omega) m
   have := h.lv _ (ix_mem (l := m.lv) (i := (valueI m).toNat) (by omega))
   exact this
theorem RI.me1 {j : Int} (h : RI n b c to m) (hj : 0 ≤ j ∧ j < n) : RI n b (c + 12) to (mem1 j m).2 ∧ m.nx ≤ (mem1 j m).2.nx ∧ 0 ≤ (mem1 j m).1 ∧ (mem1 j m).1 < (mem1 j m).2.nx := by
 have h1 : RI n b (c + 2) to (constS j (IntKind.i32.wrap (tVV 9 m)) (tSS m)) := h.take.const hj
 have hn := h.nn
 unfold mem1
 dsimp only
 split
 · have h2 := h1.take.some hj
   have e2 : (tSS (constS j (IntKind.i32.wrap (tVV 9 m)) (tSS m))).nx = m.nx + 1 := rfl
   generalize tSS (constS j (IntKind.i32.wrap (tVV 9 m)) (tSS m)) = m2 at h2 e2 ⊢
   have h3 := h2.1
   generalize sS9 j m2 = m3 at h2 h3 ⊢
   have h4 : RI n b (c + 6) to (constS j 7 m3) := h3.const hj
   have e4 : (constS j 7 m3).nx = m3.nx + 1 := rfl
   generalize constS j 7 m3 = m4 at h4 e4 ⊢
   have h6 : RI n b (c + 8) to (addS j ⟨5,m4.nx,0,[sV9 m2,m3.nx],0⟩ (freshS m4)) := h4.fresh.add hj (gI_two (by omega) (by show _ ∧ _ < m4.nx + 1; omega) (by show _ ∧ _ < m4.nx + 1; omega) (by show _ ∧ _ < m4.nx + 1; omega))
   have e6 : (addS j ⟨5,m4.nx,0,[sV9 m2,m3.nx],0⟩ (freshS m4)).nx = m4.nx + 1 := rfl
   generalize addS j ⟨5,m4.nx,0,[sV9 m2,m3.nx],0⟩ (freshS m4) = m6 at h6 e6 ⊢
   have et : (tSS m).nx = m.nx := rfl
   refine ⟨(h6.fresh.add hj (gI_two (by omega) (by show _ ∧ _ < m6.nx + 1; omega) (by show _ ∧ _ < m6.nx + 1; omega) (by show _ ∧ _ < m6.nx + 1; omega))).mono (by omega),?_,?_,?_⟩
   · show m.nx ≤ m6.nx + 1; omega
   · show 0 ≤ m6.nx; omega
   · show m6.nx < m6.nx + 1; omega
 · refine ⟨h1.take.mono (by omega),?_,?_,?_⟩
   · show m.nx ≤ m.nx + 1; omega
   · show 0 ≤ m.nx; omega
   · show m.nx < m.nx + 1; omega
theorem RI.me2 (h : RI n b c to m) : RI n b c to (mem2 m).2 ∧ (mem2 m).2.nx = m.nx := by
 unfold mem2; dsimp only; split
 · exact ⟨h.take.take.word,rfl⟩
 · exact ⟨h.take.take,rfl⟩
theorem RI.mem {j : Int} {st : Bool} (h : RI n b c to m) (hj : 0 ≤ j ∧ j < n) : RI n b (c + 15) to (memS j st m) := by
 have h1 := h.me1 hj
 have h2 := h1.1.me2
 unfold memS
 dsimp only
 have hn := h2.1.nn
 split
 · have h3 := h2.1.some hj
   exact h3.1.add hj ⟨(by dsimp only; omega),.inr (.inr (.inr (Nat.le_refl _))),(by show 2 ≤ 4; omega),fun y hy => (by simp at hy; rcases hy with rfl | rfl <;> omega),fun y hy => (by simp [makes3] at hy),fun h => (by simp at h)⟩
 · refine (h2.1.fresh.add hj ⟨(by dsimp only; omega),.inr (.inr (.inl ⟨rfl,Nat.le_refl _⟩)),(by show 1 ≤ 4; omega),fun y hy => (by simp at hy; subst hy; show _ ∧ _ < _ + 1; omega),fun y hy => (by simp [makes3] at hy; subst hy; show _ ∧ _ < _ + 1; omega),fun h => (by simp at h)⟩).mono (by omega)
theorem RI.args {j : Int} (hj : 0 ≤ j ∧ j < n) : ∀ (k : Nat) {c : Nat} (l : List Int) (m : Mk),RI n b c to m → (∀ x ∈ l,0 ≤ x ∧ x < m.nx) → RI n b (c + 2 * k) to (argsL j k l m).2 ∧ m.nx ≤ (argsL j k l m).2.nx ∧ ∀ x ∈ (argsL j k l m).1,0 ≤ x ∧ x < (argsL j k l m).2.nx
 | 0,_,l,m,h,hl => ⟨h,Int.le_refl _,hl⟩
 | k + 1,c,l,m,h,hl => by
   have h1 := h.some hj
   rw [argsL]
   obtain ⟨a,d,e⟩ := RI.args hj k (l ++ [sV9 m]) (sS9 j m) h1.1 (fun x hx => by
     rcases List.mem_append.1 hx with h2 | h2
     · have := hl x h2; omega
     · simp at h2; subst h2; omega)
   exact ⟨a.mono (by omega),by omega,e⟩
theorem op_rng2 {k : Int} (h : 0 ≤ k ∧ k < 12) : 2 ≤ ix [(2 : Int),2,3,4,5,6,7,8,9,10,12,11] k.toNat ∧ ix [(2 : Int),2,3,4,5,6,7,8,9,10,12,11] k.toNat ≤ 14 := by
 have : ∀ i : Nat,i < 12 → 2 ≤ ix [(2 : Int),2,3,4,5,6,7,8,9,10,12,11] i ∧ ix [(2 : Int),2,3,4,5,6,7,8,9,10,12,11] i ≤ 14 := by decide
 exact this _ (by omega)
theorem op3_rng2 {k : Int} (h : 0 ≤ k ∧ k < 3) : 2 ≤ ix [(11 : Int),12,13] k.toNat ∧ ix [(11 : Int),12,13] k.toNat ≤ 14 := by
 have : ∀ i : Nat,i < 3 → 2 ≤ ix [(11 : Int),12,13] i ∧ ix [(11 : Int),12,13] i ≤ 14 := by decide
 exact this _ (by omega)
theorem RI.ins {j : Int} (h : RI n b c to m) (hj : 0 ≤ j ∧ j < n) : RI n b (c + 16) to (insS j m) := by
 have hn := h.nn
 have hk := tV9 (n := 20) (by omega) m
 have h1 : RI n b c to (tSS m) := h.take
 have e1 : (tSS m).nx = m.nx := rfl
 have h2 := h1.some hj
 have h3 := h2.1.some hj
 unfold insS
 dsimp only
 generalize tVV 20 m = k at hk ⊢
 generalize tSS m = m1 at h1 e1 h2 h3 ⊢
 split
 · split
   · have h4 : RI n b (c + 6) to (constS j (IntKind.i32.wrap (tVV 40 (tSS (sS9 j (sS9 j m1))) - 8)) (tSS (tSS (sS9 j (sS9 j m1))))) := h3.1.take.take.const hj
     have e4 : (constS j (IntKind.i32.wrap (tVV 40 (tSS (sS9 j (sS9 j m1))) - 8)) (tSS (tSS (sS9 j (sS9 j m1))))).nx = (sS9 j (sS9 j m1)).nx + 1 := rfl
     have e5 : (tSS (tSS (sS9 j (sS9 j m1)))).nx = (sS9 j (sS9 j m1)).nx := rfl
     generalize constS j (IntKind.i32.wrap (tVV 40 (tSS (sS9 j (sS9 j m1))) - 8)) (tSS (tSS (sS9 j (sS9 j m1)))) = m4 at h4 e4 ⊢
     exact (h4.fresh.add hj (gI_two (op_rng2 (by omega)) (by show _ ∧ _ < m4.nx + 1; omega) (by show _ ∧ _ < m4.nx + 1; omega) (by show _ ∧ _ < m4.nx + 1; omega))).mono (by omega)
   · have e5 : (tSS (sS9 j (sS9 j m1))).nx = (sS9 j (sS9 j m1)).nx := rfl
     exact (h3.1.take.fresh.add hj (gI_two (op_rng2 (by omega)) (by show _ ∧ _ < (sS9 j (sS9 j m1)).nx + 1; omega) (by show _ ∧ _ < (sS9 j (sS9 j m1)).nx + 1; omega) (by show _ ∧ _ < (sS9 j (sS9 j m1)).nx + 1; omega))).mono (by omega)
 split
 · exact (h3.1.fresh.add hj (gI_two (by omega) (by show _ ∧ _ < (sS9 j (sS9 j m1)).nx + 1; omega) (by show _ ∧ _ < (sS9 j (sS9 j m1)).nx + 1; omega) (by show _ ∧ _ < (sS9 j (sS9 j m1)).nx + 1; omega))).mono (by omega)
 split
 · have h4 : RI n b (c + 4) to (constS j (IntKind.i32.wrap (tVV 12 (sS9 j m1))) (tSS (sS9 j m1))) := h2.1.take.const hj
   have e4 : (constS j (IntKind.i32.wrap (tVV 12 (sS9 j m1))) (tSS (sS9 j m1))).nx = (sS9 j m1).nx + 1 := rfl
   have e9 : (tSS (sS9 j m1)).nx = (sS9 j m1).nx := rfl
   generalize constS j (IntKind.i32.wrap (tVV 12 (sS9 j m1))) (tSS (sS9 j m1)) = m4 at h4 e4 ⊢
   split
   · have h5 : RI n b (c + 6) to (constS j (IntKind.i32.wrap (1 + IntKind.i32.wrap (tVV 12 (tSS m4)))) (tSS (tSS m4))) := h4.take.take.const hj
     have e5 : (constS j (IntKind.i32.wrap (1 + IntKind.i32.wrap (tVV 12 (tSS m4)))) (tSS (tSS m4))).nx = m4.nx + 1 := rfl
     have e6 : (tSS (tSS m4)).nx = m4.nx := rfl
     generalize constS j (IntKind.i32.wrap (1 + IntKind.i32.wrap (tVV 12 (tSS m4)))) (tSS (tSS m4)) = m5 at h5 e5 ⊢
     exact (h5.fresh.add hj (gI_two (by omega) (by show _ ∧ _ < m5.nx + 1; omega) (by show _ ∧ _ < m5.nx + 1; omega) (by show _ ∧ _ < m5.nx + 1; omega))).mono (by omega)
   · have e6 : (tSS m4).nx = m4.nx := rfl
     exact (h4.take.fresh.add hj (gI_two (by omega) (by show _ ∧ _ < m4.nx + 1; omega) (by show _ ∧ _ < m4.nx + 1; omega) (by show _ ∧ _ < m4.nx + 1; omega))).mono (by omega)
 split
 · exact (h1.mem hj).mono (by omega)
 split
 · have h5 := tV9 (n := 5) (by omega) m1
   obtain ⟨a,d,e⟩ := RI.args hj (tVV 5 m1).toNat [] (tSS m1) h1.take (fun x hx => by cases hx)
   have hl := args_len (b := j) (tVV 5 m1).toNat [] (tSS m1)
   have hn2 := a.nn
   generalize argsL j (tVV 5 m1).toNat [] (tSS m1) = r at a d e hl hn2 ⊢
   refine ((a.fresh.take).add hj ⟨(by dsimp only; omega),.inr (.inl rfl),(by dsimp only; rw [hl]; simp; omega),fun y hy => ?_,fun y hy => ?_,fun h => (by simp at h)⟩).mono (by omega)
   · have := e y hy; show _ ∧ _ < r.2.nx + 1; omega
   · simp [makes3] at hy; subst hy; show 0 ≤ r.2.nx ∧ r.2.nx < r.2.nx + 1; omega
 split
 · refine (h3.1.fresh.fresh.add hj ⟨(by dsimp only; omega),.inr (.inr (.inr (Nat.le_refl _))),(by show 2 ≤ 4; omega),fun y hy => ?_,fun y hy => ?_,fun _ => ?_⟩).mono (by omega)
   · simp at hy; show _ ∧ _ < (sS9 j (sS9 j m1)).nx + 1 + 1
     rcases hy with rfl | rfl <;> omega
   · simp [makes3] at hy; show _ ∧ _ < (sS9 j (sS9 j m1)).nx + 1 + 1
     have e : (freshS (sS9 j (sS9 j m1))).nx = (sS9 j (sS9 j m1)).nx + 1 := rfl
     rcases hy with rfl | rfl <;> omega
   · show (sS9 j (sS9 j m1)).nx ≠ (sS9 j (sS9 j m1)).nx + 1; omega
 · exact (h1.word.const hj).mono (by omega)
theorem RI.setT {t : D.Term} (h : RI n b c to m) (hb : b < n) (ht : gT m.nx t) (hto : t.To = ix to b) : RI n (b + 1) c to (setT (b : Int) t m) where
 len := by show (m.bs.set _ _).length = n; rw [List.length_set]; exact h.len
 par := h.par
 nx := h.nx
 cnt := by
   have h1 := cI_set (l := m.bs) (j := (b : Int).toNat) (d := 0) (b := { (ix m.bs (b : Int).toNat) with Term := t }) (by dsimp only; omega)
   have h2 := h.cnt
   show cI (m.bs.set _ _) ≤ _; omega
 lv := h.lv
 blk := fun q hq => by
   show gB m.nx (ix (m.bs.set _ _) q)
   rw [ix_set (by rw [h.len]; omega)]; split
   · have h1 := h.blk b hb
     exact ⟨h1.1,h1.2.1,.inr ht,h1.2.2.2⟩
   · exact h.blk q hq
 tos := fun q hq => by
   show (ix (m.bs.set _ _) q).Term.To = _
   rw [ix_set (by rw [h.len]; omega)]; split
   · rename_i e; rw [e]; exact hto
   · exact h.tos q hq
 kd := fun q hb' hq => by
   show (ix (m.bs.set _ _) q).Term.Kind ≠ 0
   rw [ix_set (by rw [h.len]; omega)]; split
   · have := ht.1; show t.Kind ≠ 0; omega
   · rename_i e; exact h.kd q (by simp at e; omega) hq
theorem RI.en (h : RI n b c to m) (hb : b < n) (hL : (ix to b).length ≤ 65) : RI n (b + 1) (c + 8) to (endS (b : Int) (ix to b) m) := by
 have hj : 0 ≤ (b : Int) ∧ (b : Int) < n := by omega
 have hn := h.nn
 unfold endS
 split
 · rename_i h0
   have e0 : ix to b = [] := List.eq_nil_of_length_eq_zero h0
   split
   · exact (h.take.take.setT hb ⟨(by dsimp only; omega),fun a ha => (by cases ha),fun h => (by simp at h),fun h => (by simp at h),fun h => (by simp at h),fun _ => rfl⟩ e0.symm).mono (by omega)
   split
   · have h1 := h.take.some hj
     exact (h1.1.setT hb ⟨(by dsimp only; omega),fun a ha => (by simp at ha; subst ha; omega),fun h => (by simp at h),fun h => (by simp at h),fun h => (by simp at h),fun _ => rfl⟩ e0.symm).mono (by omega)
   · exact (h.take.setT hb ⟨(by dsimp only; omega),fun a ha => (by cases ha),fun h => (by simp at h),fun h => (by simp at h),fun h => (by simp at h),fun _ => rfl⟩ e0.symm).mono (by omega)
 split
 · rename_i h1
   exact (h.setT hb ⟨(by dsimp only; omega),fun a ha => (by cases ha),fun _ => h1,fun h => (by simp at h),fun h => (by simp at h),fun h => (by dsimp only at h; omega)⟩ rfl).mono (by omega)
 split
 · rename_i h2
   have h3 := h.some hj
   dsimp only
   split
   · have h4 := h3.1.take.some hj
     have e4 : (tSS (sS9 (b : Int) m)).nx = (sS9 (b : Int) m).nx := rfl
     have ht := tV9 (n := 3) (by omega) (freshS (sS9 (b : Int) (tSS (sS9 (b : Int) m))))
     have h5 : RI n b (c + 6) to (addS (b : Int) ⟨ix [11,12,13] (tVV 3 (freshS (sS9 (b : Int) (tSS (sS9 (b : Int) m))))).toNat,(sS9 (b : Int) (tSS (sS9 (b : Int) m))).nx,0,[sV9 m,sV9 (tSS (sS9 (b : Int) m))],0⟩ (tSS (freshS (sS9 (b : Int) (tSS (sS9 (b : Int) m)))))) :=
       h4.1.fresh.take.add hj (gI_two (op3_rng2 ht) (by show _ ∧ _ < (sS9 (b : Int) (tSS (sS9 (b : Int) m))).nx + 1; omega) (by show _ ∧ _ < (sS9 (b : Int) (tSS (sS9 (b : Int) m))).nx + 1; omega) (by show _ ∧ _ < (sS9 (b : Int) (tSS (sS9 (b : Int) m))).nx + 1; omega))
     refine (h5.setT hb ⟨(by dsimp only; omega),fun a ha => ?_,fun h => (by simp at h),fun _ => ⟨h2,Nat.le_refl _⟩,fun h => (by simp at h),fun h => (by dsimp only at h; omega)⟩ rfl).mono (by omega)
     simp at ha; subst ha
     show 0 ≤ _ ∧ _ < (sS9 (b : Int) (tSS (sS9 (b : Int) m))).nx + 1; omega
   · refine (h3.1.take.setT hb ⟨(by dsimp only; omega),fun a ha => ?_,fun h => (by simp at h),fun _ => ⟨h2,Nat.le_refl _⟩,fun h => (by simp at h),fun h => (by dsimp only at h; omega)⟩ rfl).mono (by omega)
     simp at ha; subst ha
     show 0 ≤ _ ∧ _ < (sS9 (b : Int) m).nx; omega
 · rename_i h0 h1 h2
   have h3 := h.some hj
   dsimp only
   have h4 : RI n b (c + 4) to (constS (b : Int) 7 (sS9 (b : Int) m)) := h3.1.const hj
   have e4 : (constS (b : Int) 7 (sS9 (b : Int) m)).nx = (sS9 (b : Int) m).nx + 1 := rfl
   generalize constS (b : Int) 7 (sS9 (b : Int) m) = m4 at h4 e4 ⊢
   have h5 : RI n b (c + 6) to (addS (b : Int) ⟨5,m4.nx,0,[sV9 m,(sS9 (b : Int) m).nx],0⟩ (freshS m4)) := h4.fresh.add hj (gI_two (by omega) (by show _ ∧ _ < m4.nx + 1; omega) (by show _ ∧ _ < m4.nx + 1; omega) (by show _ ∧ _ < m4.nx + 1; omega))
   refine (h5.setT hb ⟨(by dsimp only; omega),fun a ha => ?_,fun h => (by simp at h),fun h => (by simp at h),fun _ => ⟨(by dsimp only; omega),hL,Nat.le_refl _⟩,fun h => (by dsimp only at h; omega)⟩ rfl).mono (by omega)
   simp at ha; subst ha
   show 0 ≤ m4.nx ∧ m4.nx < m4.nx + 1; omega
end
section
variable {n b c d : Nat} {to : List (List Int)} {m : Mk}
theorem RI.is (hb : b < n) : ∀ (k : Nat) {c : Nat} {m : Mk},RI n b c to m → RI n b (c + 16 * k) to (insN b k m)
 | 0,_,_,h => h
 | k + 1,_,_,h => (RI.is hb k (h.ins (by omega))).mono (by omega)
theorem numsL_mem {k : Nat} {x : Int} (h : x ∈ numsL k) : 0 ≤ x ∧ x < k := by
 unfold numsL at h
 obtain ⟨i,h1,rfl⟩ := List.mem_map.1 h
 have := List.mem_range.1 h1; omega
theorem RI.lm {dn : List Bool} (h : RI n b c to m) : RI n b c to (lvM n b dn m) where
 len := h.len
 par := h.par
 nx := h.nx
 cnt := h.cnt
 lv := fun x hx => by
   show 0 ≤ x ∧ x < m.nx
   rcases List.mem_append.1 (show x ∈ numsL m.par.toNat ++ (List.range n).flatMap (fun i => lvB (fnM m) dn b i) from hx) with h1 | h1
   · have := numsL_mem h1; have := h.nx; have := h.par; omega
   · obtain ⟨a,h2,h3⟩ := List.mem_flatMap.1 h1
     have ha := List.mem_range.1 h2
     have hg := h.blk a ha
     unfold lvB at h3
     split at h3
     · cases h3
     · rcases List.mem_append.1 h3 with h4 | h4
       · obtain ⟨p,h5,rfl⟩ := List.mem_map.1 h4
         exact (hg.2.1 p h5).1
       · obtain ⟨i,h5,h6⟩ := List.mem_flatMap.1 h4
         exact (hg.1 i h5).2.2.2.2.1 x h6
 blk := h.blk
 tos := h.tos
 kd := h.kd
theorem RI.bl {dn : List Bool} (h : RI n b c to m) (hb : b < n) (hL : ∀ j,(ix to j).length ≤ 65) : RI n (b + 1) (c + 120) to (blkM n to b dn m) := by
 unfold blkM
 have h7 := tV9 (n := 7) (by omega) (lvM n b dn m)
 exact (((h.lm (dn := dn)).take.is hb _).en hb (hL b)).mono (by omega)
theorem RI.parent (h : RI n b c to m) (hP : PB n to) : Parent (fnM m).Blocks.length (fun j => (ix (fnM m).Blocks j).Term.To) := fun q h1 h2 => by
 have h2' : q < n := by have := h.len; have e : (fnM m).Blocks = m.bs := rfl; rw [e] at h2; omega
 obtain ⟨p,h3,h4⟩ := hP q h1 (by omega)
 refine ⟨p,h3,?_⟩
 show (q : Int) ∈ (ix m.bs p).Term.To
 rw [h.tos p (by omega)]; exact h4
theorem RI.ap {j : Nat} (h : RI n b c to m) (hj : j < n) : RI n b (c + 1) to (addP j m) where
 len := by show (m.bs.set _ _).length = n; rw [List.length_set]; exact h.len
 par := h.par
 nx := by have := h.nx; show m.par ≤ m.nx + 1 ∧ m.nx + 1 ≤ _; omega
 cnt := by
   have h1 : cI (addP j m).bs ≤ cI m.bs + 0 := cI_set (l := m.bs) (j := j) (d := 0) (by exact Nat.le_refl _)
   have h2 := h.cnt
   omega
 lv := fun x hx => by have := h.lv x hx; show 0 ≤ x ∧ x < m.nx + 1; omega
 blk := fun q hq => by
   have hn := h.nn
   show gB (m.nx + 1) (ix (m.bs.set _ _) q)
   rw [ix_set (by rw [h.len]; omega)]; split
   · have h0 := h.blk j hj
     have h1 := h0.mono (show m.nx ≤ m.nx + 1 by omega)
     refine ⟨h1.1,fun p hp => ?_,h1.2.2.1,?_⟩
     · rcases List.mem_append.1 (show p ∈ (ix m.bs j).Phis ++ [⟨m.nx,[]⟩] from hp) with h2 | h2
       · exact h1.2.1 p h2
       · simp at h2; subst h2; exact ⟨by dsimp only; omega,fun x hx => by cases hx⟩
     · show (((ix m.bs j).Phis ++ [(⟨m.nx,[]⟩ : D.Phi)]).map (fun p => p.Dst)).Nodup
       rw [List.map_append,List.nodup_append]
       refine ⟨h0.2.2.2,by simp,fun a ha x hx => ?_⟩
       simp at hx; subst hx
       obtain ⟨p,h3,rfl⟩ := List.mem_map.1 ha
       have := (h0.2.1 p h3).1; omega
   · exact (h.blk q hq).mono (by omega)
 tos := fun q hq => by
   show (ix (m.bs.set _ _) q).Term.To = _
   rw [ix_set (by rw [h.len]; omega)]; split
   · rename_i e; subst e; exact h.tos _ hq
   · exact h.tos q hq
 kd := fun q hb hq => by
   show (ix (m.bs.set _ _) q).Term.Kind ≠ 0
   rw [ix_set (by rw [h.len]; omega)]; split
   · rename_i e; subst e; exact h.kd _ hb hq
   · exact h.kd q hb hq
theorem RI.pn {j : Nat} (hj : j < n) : ∀ (k : Nat) {c : Nat} {m : Mk},RI n b c to m → RI n b (c + k) to (phiN j k m)
 | 0,_,_,h => h
 | k + 1,_,_,h => (RI.pn hj k (h.ap hj)).mono (by omega)
theorem RI.ps : ∀ (k j c : Nat) (ph : List Int) (m : Mk),j + k = n → ph.length = n → (∀ j,0 ≤ ix ph j ∧ ix ph j ≤ 3) → phiOK j ph m → RI n b c to m →
   RI n b (c + 3 * k) to (phiS k j ph m).2 ∧ phiOK n (phiS k j ph m).1 (phiS k j ph m).2 ∧ ∀ i,0 ≤ ix (phiS k j ph m).1 i ∧ ix (phiS k j ph m).1 i ≤ 3
 | 0,j,c,ph,m,hj,hl,hr,ho,h => by
   have e : j = n := by omega
   subst e; exact ⟨h,ho,hr⟩
 | k + 1,j,c,ph,m,hj,hl,hr,ho,h => by
   have hr' := phiR_rng (b := j) (m := m) hr
   have h1 : RI n b (c + 3) to (phiN j (ix (phiR j ph m) j).toNat (tSS m)) := (h.take.pn (j := j) (by omega) _).mono (by have := hr' j; omega)
   have h2 := phi_step ho (by rw [h.len]; omega) (by omega) (rfl : phiR j ph m = phiR j ph m)
   obtain ⟨a,d,e⟩ := RI.ps k (j + 1) (c + 3) (phiR j ph m) _ (by omega) (by rw [phiR_len]; exact hl) hr' h2 h1
   rw [phiS]
   exact ⟨a.mono (by omega),d,e⟩
end
def pT (to : List (List Int)) : Nat → Int → List Int
 | 0,_ => []
 | k + 1,b => pT to k b ++ (if (ix to k).any (fun y => decide (y = b)) then [(k : Int)] else [])
def fr (m : Mk) (j : Nat) : List (List Int) := (ix m.bs j).Phis.map (fun p => p.In.map (fun x => x.From))
section
variable {n b c d : Nat} {to : List (List Int)} {m : Mk}
theorem RI.all (h : RI n b c to m) : ∀ x ∈ m.bs,gB m.nx x := fun x hx => by
 obtain ⟨j,hj,e⟩ := List.getElem_of_mem hx
 have := h.blk j (by rw [← h.len]; exact hj)
 rw [ix_eq hj,e] at this; exact this
end
structure Right3 (n : Nat) (to : List (List Int)) (f : D.Func) (nx : Int) : Prop where
 n1 : 1 ≤ n ∧ n ≤ 9
 len : f.Blocks.length = n
 par : 0 ≤ f.Params ∧ f.Params ≤ 4
 nxb : f.Params ≤ nx ∧ nx ≤ 1560
 cnt : cI f.Blocks ≤ 1560
 blk : ∀ j,j < n → gB nx (ix f.Blocks j)
 tos : ∀ j,j < n → (ix f.Blocks j).Term.To = ix to j
 kd : ∀ j,j < n → (ix f.Blocks j).Term.Kind ≠ 0
 tr : TR n 30 to
 pb : PB n to
 ph0 : (ix f.Blocks 0).Phis = []
 ph3 : ∀ j,j < n → (ix f.Blocks j).Phis.length ≤ 3
 fr : ∀ j,j < n → ∀ p ∈ (ix f.Blocks j).Phis,p.In.map (fun x => x.From) = pT to n j
inductive An (out : List Int) : Nat → Nat → Prop
 | self (v : Nat) : An out v v
 | up {x v : Nat} : 0 ≤ ix out v → An out x (ix out v).toNat → An out x v
inductive RB (pr : Nat → Nat → Prop) (w : Nat) : Nat → Prop
 | zero : w ≠ 0 → RB pr w 0
 | step {x t : Nat} : RB pr w x → pr x t → t ≠ w → RB pr w t
inductive Pt (pr : Nat → Nat → Prop) (num : List Int) (m : Int) : Nat → Nat → Prop
 | nil (v : Nat) : Pt pr num m v v
 | step {u x t : Nat} : Pt pr num m u x → pr x t → m < ix num t → Pt pr num m u t
structure GN (n : Nat) (num : List Int) (pr : Nat → Nat → Prop) : Prop where
 n0 : 0 < n
 rng : ∀ v,v < n → 0 ≤ ix num v ∧ ix num v < n
 inj : ∀ u v,u < n → v < n → ix num u = ix num v → u = v
 zero : ix num 0 = 0
 prn : ∀ q b,pr q b → q < n ∧ b < n
 fwd : ∀ b,b < n → b ≠ 0 → ∃ q,pr q b ∧ ix num q < ix num b
def pdn (out : List Int) (v : Nat) : Prop := v = 0 ∨ 0 ≤ ix out v
structure TV (n : Nat) (num out : List Int) : Prop where
 len : out.length = n
 root : ix out 0 < 0
 up : ∀ v,v < n → 0 ≤ ix out v → ix out v < n ∧ ix num (ix out v).toNat < ix num v ∧ pdn out (ix out v).toNat
section
variable {n : Nat} {num out : List Int} {pr : Nat → Nat → Prop}
theorem An.trans {x y z : Nat} (h1 : An out x y) (h2 : An out y z) : An out x z := by
 induction h2 with
 | self => exact h1
 | up h _ ih => exact .up h ih
theorem An.lt (hv : TV n num out) {x v : Nat} (h : An out x v) : v < n → x < n := by
 induction h with
 | self => exact id
 | @up v h _ ih => intro hv'; exact ih (by have := (hv.up v hv' h).1; omega)
theorem An.nu (hv : TV n num out) {x v : Nat} (h : An out x v) : v < n → ix num x ≤ ix num v ∧ (x ≠ v → ix num x < ix num v) := by
 induction h with
 | self => exact fun _ => ⟨Int.le_refl _,fun h => absurd rfl h⟩
 | @up v h _ ih =>
   intro hv'
   have h1 := hv.up v hv' h
   have h2 := ih (by omega)
   exact ⟨by omega,fun _ => by omega⟩
theorem An.pd (hv : TV n num out) {x v : Nat} (h : An out x v) : v < n → pdn out v → pdn out x := by
 induction h with
 | self => exact fun _ h => h
 | @up v h _ ih => intro hv' _; have h1 := hv.up v hv' h; exact ih (by omega) h1.2.2
theorem An.tot {x y v : Nat} (h1 : An out x v) (h2 : An out y v) : An out x y ∨ An out y x := by
 induction h1 with
 | self => exact .inr h2
 | @up v h h3 ih =>
   cases h2 with
   | self => exact .inl (.up h h3)
   | up _ h4 => exact ih h4
theorem Pt.tr {m : Int} {u v w : Nat} (h1 : Pt pr num m u v) (h2 : Pt pr num m v w) : Pt pr num m u w := by
 induction h2 with
 | nil => exact h1
 | step _ h3 h4 ih => exact .step ih h3 h4
theorem Pt.mono {m m' : Int} {u v : Nat} (h : Pt pr num m u v) (hm : m' ≤ m) : Pt pr num m' u v := by
 induction h with
 | nil => exact .nil _
 | step _ h3 h4 ih => exact .step ih h3 (by omega)
theorem Pt.rb {m : Int} {u v w : Nat} (h : Pt pr num m u v) (hr : RB pr w u) (hm : ix num w ≤ m) : RB pr w v := by
 induction h with
 | nil => exact hr
 | step _ h3 h4 ih => exact .step ih h3 (fun e => by subst e; omega)
end
structure IS (n : Nat) (num : List Int) (pr : Nat → Nat → Prop) (out : List Int) (i : Int) : Prop where
 tv : TV n num out
 fp : ∀ v,v < n → ix num v < i → pdn out v
 dm : ∀ b a,b < n → pdn out b → (a = b ∨ ¬ RB pr a b) → An out a b
 pa : ∀ b,b < n → 0 ≤ ix out b → Pt pr num (ix num (ix out b).toNat) (ix out b).toNat b
 hh : ∀ b,b < n → 0 ≤ ix out b → ∀ y,(∀ p,pr p b → pdn out p → An out y p) → An out y (ix out b).toNat
 kk : ∀ b,b < n → 0 ≤ ix out b → ∀ q,pr q b → ix num q < ix num b → (ix num b < i ∨ i ≤ ix num (ix out b).toNat) → An out (ix out b).toNat q
structure BS (out : List Int) (P : Nat → Prop) (best : Int) : Prop where
 no : best < 0 → ∀ p,P p → ¬ pdn out p
 an : 0 ≤ best → ∀ p,P p → pdn out p → An out best.toNat p
 nc : 0 ≤ best → ∀ y,(∀ p,P p → pdn out p → An out y p) → An out y best.toNat
 pd : 0 ≤ best → pdn out best.toNat
section
variable {n : Nat} {num out : List Int} {pr : Nat → Nat → Prop} {i : Int}
theorem an_pt (hs : IS n num pr out i) {b c : Nat} (h : An out b c) : c < n → Pt pr num (ix num b) b c := by
 induction h with
 | self => exact fun _ => .nil _
 | @up v h h2 ih =>
   intro hv
   have h1 := hs.tv.up v hv h
   exact (ih (by omega)).tr ((hs.pa v hv h).mono ((h2.nu hs.tv (by omega)).1))
theorem IS.step (hg : GN n num pr) (hs : IS n num pr out i) {b : Nat} {best : Int} (hb : b < n) (hb0 : b ≠ 0) (hi : ix num b = i) (hB : BS out (fun p => pr p b) best) :
   0 ≤ best ∧ best < n ∧ IS n num pr (out.set b best) (i + 1) ∧ (0 ≤ ix out b → ix out b ≠ best → ix num best.toNat < ix num (ix out b).toNat) := by
 have hv := hs.tv
 obtain ⟨q0,hq,hqn⟩ := hg.fwd b hb hb0
 have hq0 : q0 < n := (hg.prn _ _ hq).1
 have hqd := hs.fp q0 hq0 (by omega)
 have h0 : 0 ≤ best := by
   rcases Int.lt_or_le best 0 with h | h
   · exact absurd hqd (hB.no h q0 hq)
   · exact h
 have hbq := hB.an h0 q0 hq hqd
 have hbn := hbq.lt hv hq0
 have hnb : ix num best.toNat < i := by have := (hbq.nu hv hq0).1; omega
 have hnc : ∀ y,(∀ p,pr p b → pdn out p → An out y p) → An out y best.toNat := hB.nc h0
 generalize hx : best.toNat = x at *
 have hbe : best = (x : Int) := by omega
 have hup : 0 ≤ ix out b → An out x (ix out b).toNat := fun h => by
   exact hs.hh b hb h x (fun p hp hpd => by rw [← hx]; exact hB.an h0 p hp hpd)
 have hbl : b < out.length := by rw [hv.len]; exact hb
 have hset : ∀ v,ix (out.set b best) v = if v = b then best else ix out v := fun v => ix_set hbl
 have nx : ¬ An out b x := fun h => by have := (h.nu hv hbn).1; omega
 have la : ∀ {y v},An out y v → v < n → (An out b y ∨ ¬ An out b v) → An (out.set b best) y v := by
   intro y v h
   induction h with
   | self => exact fun _ _ => .self _
   | @up v h h2 ih =>
     intro hv' hc
     have h1 := hv.up v hv' h
     have hvb : v ≠ b := by
       rintro rfl
       rcases hc with hc | hc
       · have e1 := (hc.nu hv (h2.lt hv (by omega))).1
         have e2 := (h2.nu hv (by omega)).1
         omega
       · exact hc (.self _)
     refine .up (by rw [hset,if_neg hvb]; exact h) ?_
     rw [hset,if_neg hvb]
     exact ih (by omega) (hc.imp id (fun h3 h4 => h3 (.up h h4)))
 have lb : ∀ {y v},An (out.set b best) y v → v < n → (¬ An out b v ∧ An out y v) ∨ (An out b v ∧ ((An out b y ∧ An out y v) ∨ An out y x)) := by
   intro y v h
   induction h with
   | self =>
     intro _
     by_cases h1 : An out b y
     · exact .inr ⟨h1,.inl ⟨h1,.self _⟩⟩
     · exact .inl ⟨h1,.self _⟩
   | @up v h h2 ih =>
     intro hv'
     rw [hset] at h h2 ih
     by_cases e : v = b
     · subst e
       rw [if_pos rfl,hx] at ih
       rcases ih hbn with h3 | h3
       · exact .inr ⟨.self _,.inr h3.2⟩
       · exact absurd h3.1 nx
     · rw [if_neg e] at h h2 ih
       have h1 := hv.up v hv' h
       rcases ih (by omega) with h3 | h3
       · refine .inl ⟨fun h4 => h3.1 ?_,.up h h3.2⟩
         cases h4 with
         | self => exact absurd rfl e
         | up _ h5 => exact h5
       · refine .inr ⟨.up h h3.1,h3.2.imp (fun h4 => ⟨h4.1,.up h h4.2⟩) id⟩
 have lc : ∀ {y},An out y x → An (out.set b best) y b := fun {y} h => by
   refine .up (by rw [hset,if_pos rfl]; exact h0) ?_
   rw [hset,if_pos rfl,hx]
   exact la h hbn (.inr nx)
 have ld : ∀ {y v},An out y x → An out b v → v < n → An (out.set b best) y v := fun {y v} h h2 hv' => (lc h).trans (la h2 hv' (.inl (.self _)))
 have sub : 0 ≤ ix out b → ∀ {y v},An (out.set b best) y v → v < n → An out y v := fun h9 {y v} h hv' => by
   rcases lb h hv' with h1 | ⟨h1,h2⟩
   · exact h1.2
   · rcases h2 with h2 | h2
     · exact h2.2
     · exact (h2.trans (hup h9)).trans (.trans (.up h9 (.self _)) h1)
 have fresh : ¬ 0 ≤ ix out b → ∀ v,An out b v → v < n → v = b := fun h9 v h hv' => by
   cases h with
   | self => rfl
   | up h3 h4 =>
     have h5 := hv.up v hv' h3
     exact absurd (h4.pd hv (by omega) h5.2.2) (fun h => h.elim hb0 h9)
 have pds : ∀ v,pdn (out.set b best) v ↔ (v = b ∨ pdn out v) := fun v => by
   unfold pdn; rw [hset]
   by_cases e : v = b
   · rw [if_pos e]; exact ⟨fun _ => .inl e,fun _ => .inr h0⟩
   · rw [if_neg e]; exact ⟨.inr,fun h => h.resolve_left e⟩
 refine ⟨h0,by omega,?_,fun h9 h8 => ?_⟩
 · refine ⟨⟨by rw [List.length_set]; exact hv.len,by rw [hset,if_neg (fun h => hb0 h.symm)]; exact hv.root,fun v hv' h => ?_⟩,fun v hv' h => ?_,fun c a hc hpc h => ?_,fun v hv' h => ?_,fun v hv' h y hy => ?_,fun v hv' h q hq' hqn' hc => ?_⟩
   · rw [hset] at h ⊢
     split at h
     · rename_i e; subst e
       rw [if_pos rfl,hx]
       exact ⟨by omega,by omega,(pds _).2 (.inr (by have := hB.pd h0; rw [hx] at this; exact this))⟩
     · rename_i e
       rw [if_neg e]
       have := hv.up v hv' h
       exact ⟨this.1,this.2.1,(pds _).2 (.inr this.2.2)⟩
   · rw [pds]
     by_cases e : v = b
     · exact .inl e
     · exact .inr (hs.fp v hv' (by have := hg.inj v b hv' hb; have : ix num v ≠ ix num b := fun h => e (this h); omega))
   ·
     by_cases hcb : c = b
     · subst hcb
       by_cases hac : a = c
       · subst hac; exact .self _
       · refine lc (hnc a fun p hp hpd => hs.dm p a (hg.prn _ _ hp).1 hpd (.inr fun h6 => ?_))
         exact (h.resolve_left hac) (.step h6 hp (fun e => hac e.symm))
     · have hpc' : pdn out c := ((pds c).1 hpc).resolve_left hcb
       have hac := hs.dm c a hc hpc' h
       by_cases h1 : An out b c
       · by_cases h2 : An out b a
         · exact la hac hc (.inl h2)
         ·
           have h3 : An out a b := (hac.tot h1).resolve_right h2
           have hab : a ≠ b := fun e => h2 (by subst e; exact .self _)
           have hn := (h3.nu hv hb).2 hab
           have hdom : ¬ RB pr a b := fun h4 => by
             have h5 := (an_pt hs h1 hc).rb h4 (by omega)
             rcases h with h | h
             · subst h; exact h2 h1
             · exact h h5
           have h6 : An out a x := hnc a fun p hp hpd => hs.dm p a (hg.prn _ _ hp).1 hpd (.inr fun h7 => hdom (.step h7 hp (fun e => hab e.symm)))
           exact ld h6 h1 hc
       · exact la hac hc (.inr h1)
   · rw [hset] at h ⊢
     split at h
     · rename_i e; subst e
       rw [if_pos rfl,hx]
       exact .step (an_pt hs hbq hq0) hq (by omega)
     · rename_i e; rw [if_neg e]; exact hs.pa v hv' h
   · rw [hset] at h ⊢
     split at h
     · rename_i e; subst e
       rw [if_pos rfl,hx]
       refine la (hnc y fun p hp hpd => ?_) hbn (.inr nx)
       have h1 := hy p hp ((pds p).2 (.inr hpd))
       have hpn := (hg.prn _ _ hp).1
       by_cases h9 : 0 ≤ ix out v
       · exact sub h9 h1 hpn
       · rcases lb h1 hpn with h2 | ⟨h2,_⟩
         · exact h2.2
         · have e := fresh h9 p h2 hpn
           subst e
           exact absurd hpd (fun h => h.elim hb0 h9)
     · rename_i e
       rw [if_neg e]
       have h1 := hv.up v hv' h
       by_cases hz : An out b (ix out v).toNat
       ·
         have hzn := (hz.nu hv (by omega)).1
         have h9 : 0 ≤ ix out b := by
           rcases Int.lt_or_le (ix out b) 0 with h2 | h2
           · have h3 := fresh (by omega) _ hz (by omega)
             rw [h3] at h1
             exact absurd h1.2.2 (fun h => h.elim hb0 (fun h => by omega))
           · exact h2
         have hyz : An out y (ix out v).toNat := hs.hh v hv' h y fun p hp hpd => sub h9 (hy p hp ((pds p).2 (.inr hpd))) (hg.prn _ _ hp).1
         by_cases hby : An out b y
         · exact la hyz (by omega) (.inl hby)
         · have hv0 : v ≠ 0 := by rintro rfl; have := hv.root; omega
           obtain ⟨q,hq1,hq2⟩ := hg.fwd v hv' hv0
           have hqn1 := (hg.prn _ _ hq1).1
           have hzq := hs.kk v hv' h q hq1 hq2 (.inr (by omega))
           have hqb : An out b q := hz.trans hzq
           have hpq : pdn out q := by
             cases hqb with
             | self => exact .inr h9
             | up h _ => exact .inr h
           rcases lb (hy q hq1 ((pds q).2 (.inr hpq))) hqn1 with h2 | ⟨_,h2⟩
           · exact absurd hqb h2.1
           · rcases h2 with h2 | h2
             · exact absurd h2.1 hby
             · exact ld h2 hz (by omega)
       · refine la (hs.hh v hv' h y fun p hp hpd => ?_) (by omega) (.inr hz)
         have h2 := hy p hp ((pds p).2 (.inr hpd))
         have hpn := (hg.prn _ _ hp).1
         by_cases h9 : 0 ≤ ix out b
         · exact sub h9 h2 hpn
         · rcases lb h2 hpn with h3 | ⟨h3,_⟩
           · exact h3.2
           · have e := fresh h9 p h3 hpn
             subst e
             exact absurd hpd (fun h => h.elim hb0 h9)
   · have hqn1 := (hg.prn _ _ hq').1
     rw [hset] at h hc ⊢
     by_cases e : v = b
     · subst e
       rw [if_pos rfl,hx]
       have hqd' := hs.fp q hqn1 (by omega)
       have h2 := hB.an h0 q hq' hqd'
       rw [hx] at h2
       exact la h2 hqn1 (.inr fun h3 => by have := (h3.nu hv hqn1).1; omega)
     · rw [if_neg e] at h hc ⊢
       have h1 := hv.up v hv' h
       have hne : ix num v ≠ ix num b := fun h => e (hg.inj v b hv' hb h)
       rcases hc with hc | hc
       · have h2 := hs.kk v hv' h q hq' hqn' (.inl (by omega))
         exact la h2 hqn1 (.inr fun h3 => by have := (h3.nu hv hqn1).1; omega)
       · have h2 := hs.kk v hv' h q hq' hqn' (.inr (by omega))
         by_cases h3 : An out b q
         · have h4 := (h2.tot h3)
           rcases h4 with h4 | h4
           · have := (h4.nu hv hb).1; omega
           · exact la h2 hqn1 (.inl h4)
         · exact la h2 hqn1 (.inr h3)
 · have h7 := hup h9
   have h6 := (h7.nu hv (by have := (hv.up b hb h9).1; omega)).2 (fun e => h8 (by omega))
   exact h6
end
structure CO (n : Nat) (num out : List Int) (a b a' b' : Int) : Prop where
 ra : 0 ≤ a' ∧ a' < n
 rb : 0 ≤ b' ∧ b' < n
 pa : pdn out a'.toNat
 pb : pdn out b'.toNat
 an : ∀ x,(An out x a.toNat ∧ An out x b.toNat) ↔ (An out x a'.toNat ∧ An out x b'.toNat)
section
variable {n : Nat} {num out : List Int} {pr : Nat → Nat → Prop} {a b a' b' : Int}
theorem CO.beg (ha : 0 ≤ a ∧ a < n) (hb : 0 ≤ b ∧ b < n) (h1 : pdn out a.toNat) (h2 : pdn out b.toNat) : CO n num out a b a b := ⟨ha,hb,h1,h2,fun _ => Iff.rfl⟩
theorem CO.left (hg : GN n num pr) (hv : TV n num out) (h : CO n num out a b a' b') (hn : ix num b'.toNat < ix num a'.toNat) : CO n num out a b (ix out a'.toNat) b' ∧ ix num (ix out a'.toNat).toNat < ix num a'.toNat := by
 obtain ⟨h1,h2,h3,h4,h5⟩ := h
 have hb := (hg.rng b'.toNat (by omega)).1
 have h0 : 0 ≤ ix out a'.toNat := h3.resolve_left fun e => by rw [e,hg.zero] at hn; omega
 have h6 := hv.up a'.toNat (by omega) h0
 refine ⟨⟨⟨h0,h6.1⟩,h2,h6.2.2,h4,fun x => (h5 x).trans ⟨fun ⟨p,q⟩ => ⟨?_,q⟩,fun ⟨p,q⟩ => ⟨.up h0 p,q⟩⟩⟩,h6.2.1⟩
 have hq := (q.nu hv (by omega)).1
 generalize a'.toNat = v at *
 cases p with
 | self => omega
 | up _ p => exact p
theorem CO.right (hg : GN n num pr) (hv : TV n num out) (h : CO n num out a b a' b') (hn : ix num a'.toNat < ix num b'.toNat) : CO n num out a b a' (ix out b'.toNat) ∧ ix num (ix out b'.toNat).toNat < ix num b'.toNat := by
 have h1 := CO.left (a := b) (b := a) (a' := b') (b' := a') hg hv ⟨h.rb,h.ra,h.pb,h.pa,fun x => and_comm.trans ((h.an x).trans and_comm)⟩ hn
 exact ⟨⟨h.ra,h1.1.ra,h.pa,h1.1.pa,fun x => and_comm.trans ((h1.1.an x).trans and_comm)⟩,h1.2⟩
theorem CO.done (hg : GN n num pr) (h : CO n num out a b a' b') (hn : ix num a'.toNat = ix num b'.toNat) : An out a'.toNat a.toNat ∧ An out a'.toNat b.toNat ∧ ∀ x,An out x a.toNat → An out x b.toNat → An out x a'.toNat := by
 have h1 := h.ra
 have h2 := h.rb
 have e := hg.inj a'.toNat b'.toNat (by omega) (by omega) hn
 have h3 := (h.an a'.toNat).2 ⟨.self _,by rw [← e]; exact .self _⟩
 exact ⟨h3.1,h3.2,fun x p q => ((h.an x).1 ⟨p,q⟩).1⟩
def Pk (l : List Int) (k : Nat) (p : Nat) : Prop := (p : Int) ∈ l.take k
theorem Pk.nx {l : List Int} {k p : Nat} (hk : k < l.length) : Pk l (k + 1) p ↔ Pk l k p ∨ (p : Int) = ix l k := by
 unfold Pk; rw [take_ix hk,List.mem_append]; simp
theorem BS.beg {l : List Int} : BS out (Pk l 0) (-1) := ⟨fun _ p h => by simp [Pk] at h,fun h => by omega,fun h => by omega,fun h => by omega⟩
theorem BS.skip {l : List Int} {k : Nat} {best : Int} (h : BS out (Pk l k) best) (hk : k < l.length) (hr : 0 ≤ ix l k) (hp : ¬ pdn out (ix l k).toNat) : BS out (Pk l (k + 1)) best := by
 have e : ∀ p : Nat,(p : Int) = ix l k → ¬ pdn out p := fun p e h9 => hp (by rw [← e,Int.toNat_natCast]; exact h9)
 exact ⟨fun h0 p h1 => ((Pk.nx hk).1 h1).elim (h.no h0 p) (e p),fun h0 p h1 h2 => ((Pk.nx hk).1 h1).elim (fun h3 => h.an h0 p h3 h2) (fun h3 => absurd h2 (e p h3)),fun h0 y h1 => h.nc h0 y fun p h2 => h1 p ((Pk.nx hk).2 (.inl h2)),h.pd⟩
theorem BS.first {l : List Int} {k : Nat} {best : Int} (h : BS out (Pk l k) best) (hb : best < 0) (hk : k < l.length) (hr : 0 ≤ ix l k) (hp : pdn out (ix l k).toNat) : BS out (Pk l (k + 1)) (ix l k) := by
 refine ⟨fun h0 => by omega,fun h0 p h1 h2 => ?_,fun h0 y h1 => ?_,fun _ => hp⟩
 · rcases (Pk.nx hk).1 h1 with h3 | h3
   · exact absurd h2 (h.no hb p h3)
   · rw [← h3,Int.toNat_natCast]; exact .self _
 · exact h1 _ ((Pk.nx hk).2 (.inr (by omega))) hp
theorem BS.com {l : List Int} {k : Nat} {best c : Int} (h : BS out (Pk l k) best) (hb : 0 ≤ best) (hk : k < l.length) (hr : 0 ≤ ix l k) (hp : pdn out (ix l k).toNat) (hc : 0 ≤ c) (hpc : pdn out c.toNat) (h1 : An out c.toNat best.toNat ∧ An out c.toNat (ix l k).toNat ∧ ∀ x,An out x best.toNat → An out x (ix l k).toNat → An out x c.toNat) : BS out (Pk l (k + 1)) c := by
 obtain ⟨a1,a2,a3⟩ := h1
 refine ⟨fun h0 => by omega,fun _ p h2 h3 => ?_,fun _ y h2 => ?_,fun _ => hpc⟩
 · rcases (Pk.nx hk).1 h2 with h4 | h4
   · exact a1.trans (h.an hb p h4 h3)
   · rw [show p = (ix l k).toNat by omega]; exact a2
 · exact a3 y (h.nc hb y fun p h4 => h2 p ((Pk.nx hk).2 (.inl h4))) (h2 _ ((Pk.nx hk).2 (.inr (by omega))) hp)
theorem BS.all {l : List Int} {best : Int} {b : Nat} (h : BS out (Pk l l.length) best) (hl : ∀ p : Nat,(p : Int) ∈ l ↔ pr p b) : BS out (fun p => pr p b) best := by
 have e : ∀ p,Pk l l.length p ↔ pr p b := fun p => by unfold Pk; rw [List.take_length]; exact hl p
 exact ⟨fun h0 p h1 => h.no h0 p ((e p).2 h1),fun h0 p h1 => h.an h0 p ((e p).2 h1),fun h0 y h1 => h.nc h0 y fun p h2 => h1 p ((e p).1 h2),h.pd⟩
theorem IS.beg (hg : GN n num pr) : IS n num pr (List.replicate n (-1)) 1 := by
 have hr : ∀ v,v < n → ix (List.replicate n (-1 : Int)) v = -1 := fun v hv => by rw [ix_eq (by simpa using hv)]; simp
 have h0 := hg.n0
 refine ⟨⟨by simp,by rw [hr 0 h0]; omega,fun v hv h => by rw [hr v hv] at h; omega⟩,fun v hv h => .inl (hg.inj v 0 hv h0 (by have := hg.rng v hv; rw [hg.zero]; omega)),fun b a hb hp h => ?_,fun b hb h => by rw [hr b hb] at h; omega,fun b hb h => by rw [hr b hb] at h; omega,fun b hb h => by rw [hr b hb] at h; omega⟩
 rcases hp with e | h1
 · subst e
   rcases h with h | h
   · subst h; exact .self _
   · have : a = 0 := by
       rcases Nat.eq_zero_or_pos a with h2 | h2
       · exact h2
       · exact absurd (RB.zero (by omega)) h
     subst this; exact .self _
 · rw [hr b hb] at h1; omega
theorem IS.round (hg : GN n num pr) (h : IS n num pr out n) : IS n num pr out 1 :=
 ⟨h.tv,fun v hv _ => h.fp v hv (by have := hg.rng v hv; omega),h.dm,h.pa,h.hh,fun b hb h1 q hq h2 _ => h.kk b hb h1 q hq h2 (.inl (by have := hg.rng b hb; omega))⟩
def wtI (n : Nat) (num out : List Int) (v : Nat) : Nat := if ix out v < 0 then n else (ix num (ix out v).toNat).toNat
def smI (n : Nat) (num out : List Int) : Nat → Nat
 | 0 => 0
 | k + 1 => smI n num out k + wtI n num out k
theorem smI_lt {out' : List Int} {v : Nat} (h1 : ∀ u,u ≠ v → wtI n num out' u = wtI n num out u) (h2 : wtI n num out' v < wtI n num out v) : ∀ k,(k ≤ v → smI n num out' k = smI n num out k) ∧ (v < k → smI n num out' k < smI n num out k)
 | 0 => ⟨fun _ => rfl,fun h => by omega⟩
 | k + 1 => by
   obtain ⟨a,b⟩ := smI_lt h1 h2 k
   rw [smI,smI]
   refine ⟨fun h => by rw [a (by omega),h1 k (by omega)],fun h => ?_⟩
   rcases Nat.lt_or_ge v k with h3 | h3
   · have := b h3; rw [h1 k (by omega)]; omega
   · have e : v = k := by omega
     subst e
     have := a (Nat.le_refl _); omega
theorem IS.less (hg : GN n num pr) {i : Int} (hs : IS n num pr out i) {b : Nat} {best : Int} (hb : b < n) (h0 : 0 ≤ best ∧ best < n) (hne : ix out b ≠ best) (h : 0 ≤ ix out b → ix out b ≠ best → ix num best.toNat < ix num (ix out b).toNat) : smI n num (out.set b best) n < smI n num out n := by
 have hl : b < out.length := by rw [hs.tv.len]; exact hb
 refine (smI_lt (v := b) (fun u hu => ?_) ?_ n).2 hb
 · unfold wtI; rw [ix_set hl,if_neg hu]
 · unfold wtI
   rw [ix_set hl,if_pos rfl,if_neg (by omega)]
   have h1 := hg.rng best.toNat (by omega)
   split
   · omega
   · rename_i h2
     have h3 := h (by omega) hne
     omega
theorem IS.same {i : Int} (hs : IS n num pr out (i + 1)) {b : Nat} {best : Int} (h : ix out b = best) : IS n num pr (out.set b best) (i + 1) := by
 by_cases hb : b < out.length
 · rw [show out.set b best = out from by rw [← h,ix_eq hb]; exact List.set_getElem_self _]; exact hs
 · rw [List.set_eq_of_length_le (by omega)]; exact hs
theorem dom_asked (hv : TV n num out) : ∀ (k : Nat) {x v : Nat},An out x v → v < n → x ≠ v → 0 ≤ ix out v ∧ ix out v < n ∧ An out x (ix out v).toNat
 | _,x,v,h,hv',hne => by
   cases h with
   | self => exact absurd rfl hne
   | up h1 h2 => exact ⟨h1,(hv.up v hv' h1).1,h2⟩
end
def Aft (rows : List (List Int)) (l : List Int) (v : Int) : Prop := ∃ l2 l3,l = l2 ++ v :: l3 ∧ ∃ q ∈ l3,v ∈ ix rows q.toNat
theorem Aft.right {rows : List (List Int)} {l m : List Int} {v : Int} : Aft rows l v → Aft rows (l ++ m) v
 | ⟨l2,l3,e,q,h1,h2⟩ => ⟨l2,l3 ++ m,by rw [e]; simp,q,by simp [h1],h2⟩
theorem Aft.left {rows : List (List Int)} {l m : List Int} {v : Int} : Aft rows l v → Aft rows (m ++ l) v
 | ⟨l2,l3,e,q,h1,h2⟩ => ⟨m ++ l2,l3,by rw [e]; simp,q,h1,h2⟩
structure OV (n : Nat) (rows : List (List Int)) (se : List Bool) (l : List Int) (se' : List Bool) (R : Int → Prop) : Prop where
 len : se'.length = n
 mem : ∀ v : Nat,v < n → (ix se' v = true ↔ ix se v = true ∨ (v : Int) ∈ l)
 nd : l.Nodup
 new : ∀ v ∈ l,(0 ≤ v ∧ v < n) ∧ ix se v.toNat = false
 cl : ∀ v ∈ l,∀ t ∈ ix rows v.toNat,ix se' t.toNat = true
 af : ∀ v ∈ l,R v ∨ Aft rows l v
section
variable {n : Nat} {rows : List (List Int)} {se se' se2 : List Bool} {l l2 : List Int} {R : Int → Prop} {a : Int}
theorem OV.beg (h : se.length = n) : OV n rows se [] se R := ⟨h,fun v _ => (by simp),List.nodup_nil,fun v h => (by cases h),fun v h => (by cases h),fun v h => (by cases h)⟩
theorem OV.up (h : OV n rows se l se' R) {v : Nat} (hv : v < n) (h1 : ix se v = true) : ix se' v = true := (h.mem v hv).2 (.inl h1)
theorem OV.tr (hr : ∀ v t,t ∈ ix rows v → 0 ≤ t ∧ t < n) (h : OV n rows se l se' R) (h2 : OV n rows se' l2 se2 R) : OV n rows se (l ++ l2) se2 R := by
 refine ⟨h2.len,fun v hv => ?_,List.nodup_append.2 ⟨h.nd,h2.nd,fun x hx y hy e => ?_⟩,fun v hv => ?_,fun v hv t ht => ?_,fun v hv => ?_⟩
 · rw [h2.mem v hv,h.mem v hv,List.mem_append,or_assoc]
 · subst e
   have h3 := h.new x hx
   have h4 := (h2.new x hy).2
   rw [(h.mem x.toNat (by omega)).2 (.inr (by rw [Int.toNat_of_nonneg h3.1.1]; exact hx))] at h4; cases h4
 · rcases List.mem_append.1 hv with h3 | h3
   · exact h.new v h3
   · have h4 := h2.new v h3
     refine ⟨h4.1,?_⟩
     cases h5 : ix se v.toNat with
     | false => rfl
     | true => rw [h.up (by omega) h5] at h4; cases h4.2
 · rcases List.mem_append.1 hv with h3 | h3
   · have := hr _ t ht; exact h2.up (by omega) (h.cl v h3 t ht)
   · exact h2.cl v h3 t ht
 · rcases List.mem_append.1 hv with h3 | h3
   · exact (h.af v h3).imp id Aft.right
   · exact (h2.af v h3).imp id Aft.left
theorem OV.weak {R' : Int → Prop} (h : OV n rows se l se' R) (hR : ∀ v,R v → R' v) : OV n rows se l se' R' := ⟨h.len,h.mem,h.nd,h.new,h.cl,fun v hv => (h.af v hv).imp (hR v) id⟩
theorem OV.done (hl : se.length = n) (ha : 0 ≤ a ∧ a < n) (h0 : ix se a.toNat = false) (h : OV n rows (se.set a.toNat true) l se' (fun v => v ∈ ix rows a.toNat)) (hc : ∀ t ∈ ix rows a.toNat,ix se' t.toNat = true) : OV n rows se (l ++ [a]) se' (fun v => v = a) := by
 have hs : ∀ v,ix (se.set a.toNat true) v = if v = a.toNat then true else ix se v := fun v => ix_set (by omega)
 have hna : a ∉ l := fun h9 => by have := (h.new a h9).2; rw [hs,if_pos rfl] at this; cases this
 refine ⟨h.len,fun v hv => ?_,List.nodup_append.2 ⟨h.nd,by simp,fun x hx y hy e => ?_⟩,fun v hv => ?_,fun v hv t ht => ?_,fun v hv => ?_⟩
 · rw [h.mem v hv,hs,List.mem_append,List.mem_singleton]
   by_cases e : v = a.toNat
   · rw [if_pos e]; exact ⟨fun _ => .inr (.inr (by omega)),fun _ => .inl rfl⟩
   · rw [if_neg e]; exact ⟨fun h => h.imp id .inl,fun h => h.imp id (fun h => h.resolve_right (by omega))⟩
 · simp at hy; subst hy; subst e; exact hna hx
 · rcases List.mem_append.1 hv with h3 | h3
   · have h4 := h.new v h3
     refine ⟨h4.1,?_⟩
     rw [hs] at h4
     split at h4
     · cases h4.2
     · exact h4.2
   · simp at h3; subst h3; exact ⟨ha,h0⟩
 · rcases List.mem_append.1 hv with h3 | h3
   · exact h.cl v h3 t ht
   · simp at h3; subst h3; exact hc t ht
 · rcases List.mem_append.1 hv with h3 | h3
   · right
     rcases h.af v h3 with h4 | h4
     · obtain ⟨l2,l3,e⟩ := List.append_of_mem h3
       exact ⟨l2,l3 ++ [a],by rw [e]; simp,a,by simp,h4⟩
     · exact h4.right
   · exact .inl (by simpa using h3)
end
structure OD (n : Nat) (rows : List (List Int)) (ord : List Int) : Prop where
 nd : ord.Nodup
 all : ∀ v : Int,v ∈ ord ↔ 0 ≤ v ∧ v < n
 hd : ord.head? = some 0
 fw : ∀ v : Int,v ∈ ord → v ≠ 0 → ∃ l2 l3,ord = l2 ++ v :: l3 ∧ ∃ q ∈ l2,v ∈ ix rows q.toNat
theorem od_of {n : Nat} {rows : List (List Int)} {l : List Int} {se' : List Bool} (hn : 0 < n) (hr : ∀ v t,t ∈ ix rows v → 0 ≤ t ∧ t < n) (h : OV n rows (List.replicate n false) (l ++ [0]) se' (fun v => v = 0)) (hw : ∀ b,b < n → ∃ w,RB (fun q t => (t : Int) ∈ ix rows q) w b) : OD n rows (l ++ [0]).reverse := by
 have key : ∀ {w b},RB (fun q t => (t : Int) ∈ ix rows q) w b → (b : Int) ∈ l ++ [0] := fun {w b} h9 => by
   induction h9 with
   | zero => simp
   | @step x t h1 h2 _ ih =>
     have h3 := h.cl x ih t (by rw [Int.toNat_natCast]; exact h2)
     rw [Int.toNat_natCast] at h3
     have h4 := hr x t h2
     have h5 := (h.mem t (by omega)).1 h3
     rw [ix_rep] at h5
     exact h5.resolve_left (by simp)
 refine ⟨(List.reverse_perm _).nodup_iff.2 h.nd,fun v => ?_,by simp,fun v hv hv0 => ?_⟩
 · rw [List.mem_reverse]
   refine ⟨fun h1 => (h.new v h1).1,fun h1 => ?_⟩
   obtain ⟨w,h2⟩ := hw v.toNat (by omega)
   have := key h2
   rwa [Int.toNat_of_nonneg h1.1] at this
 · rw [List.mem_reverse] at hv
   obtain ⟨l2,l3,e,q,h1,h2⟩ := (h.af v hv).resolve_left hv0
   exact ⟨l3.reverse,l2.reverse,by rw [e]; simp,q,by simpa using h1,h2⟩
structure NU (n : Nat) (ord num : List Int) : Prop where
 len : num.length = n
 pos : ∀ k,k < ord.length → ix num (ix ord k).toNat = k
theorem nodup_len : ∀ (n : Nat) (l : List Int),l.Nodup → (∀ v ∈ l,0 ≤ v ∧ v < n) → l.length ≤ n
 | 0,[],_,_ => Nat.le_refl _
 | 0,x :: l,_,h => by have := h x (by simp); omega
 | n + 1,l,hn,h => by
   have h1 := nodup_len n (l.erase n) (hn.erase _) (fun v hv => by
     have h2 := h v (List.mem_of_mem_erase hv)
     have h3 := ((hn.mem_erase_iff).1 hv).1
     omega)
   rw [List.length_erase] at h1
   split at h1 <;> omega
theorem od_at {n : Nat} {rows : List (List Int)} {ord : List Int} (ho : OD n rows ord) {v : Nat} (hv : v < n) : ∃ k,k < ord.length ∧ ix ord k = v := by
 obtain ⟨k,hk,e⟩ := List.getElem_of_mem ((ho.all v).2 ⟨by omega,by omega⟩)
 exact ⟨k,hk,by rw [ix_eq hk]; exact e⟩
theorem od_gn {n : Nat} {rows : List (List Int)} {ord num : List Int} (hn : 0 < n) (hr : ∀ v t,t ∈ ix rows v → (0 ≤ t ∧ t < n) ∧ v < n) (ho : OD n rows ord) (hu : NU n ord num) : GN n num (fun q t => (t : Int) ∈ ix rows q) ∧ ord.length ≤ n := by
 have hlen := nodup_len n ord ho.nd (fun v hv => (ho.all v).1 hv)
 refine ⟨⟨hn,fun v hv => ?_,fun u v hu' hv h => ?_,?_,fun q b h => ?_,fun b hb h0 => ?_⟩,hlen⟩
 · obtain ⟨k,hk,e⟩ := od_at ho hv
   have := hu.pos k hk
   rw [e,Int.toNat_natCast] at this; omega
 · obtain ⟨k,hk,e⟩ := od_at ho hu'
   obtain ⟨k2,hk2,e2⟩ := od_at ho hv
   have h1 := hu.pos k hk
   have h2 := hu.pos k2 hk2
   rw [e,Int.toNat_natCast] at h1
   rw [e2,Int.toNat_natCast] at h2
   have : k = k2 := by omega
   subst this; omega
 · have h1 := ho.hd
   obtain ⟨x,l,e⟩ : ∃ x l,ord = x :: l := by
     cases ord with
     | nil => cases h1
     | cons x l => exact ⟨x,l,rfl⟩
   subst e
   simp at h1; subst h1
   have := hu.pos 0 (by simp)
   simpa [ix] using this
 · have := hr q b h; omega
 · obtain ⟨l2,l3,e,q,h1,h2⟩ := ho.fw b ((ho.all b).2 ⟨by omega,by omega⟩) (by omega)
   have hq := (ho.all q).1 (by rw [e]; simp [h1])
   refine ⟨q.toNat,h2,?_⟩
   obtain ⟨k,hk,e1⟩ := List.getElem_of_mem h1
   have p1 := hu.pos k (by rw [e]; simp; omega)
   have p2 := hu.pos l2.length (by rw [e]; simp)
   rw [show ix ord k = q from by rw [ix_eq (by rw [e]; simp; omega)]; subst e; rw [List.getElem_append_left hk]; exact e1] at p1
   rw [show ix ord l2.length = (b : Int) from by rw [ix_eq (by rw [e]; simp)]; subst e; simp,Int.toNat_natCast] at p2
   omega
def keptM (row : List Int) (n : Int) : List Int := Lib.compact (sortM (row.filter (fun b => decide (0 ≤ b) && decide (b < n))))
theorem kept_mem {row : List Int} {n x : Int} : x ∈ keptM row n ↔ x ∈ row ∧ 0 ≤ x ∧ x < n := by
 unfold keptM
 rw [comp_mem,sortM_mem,List.mem_filter]
 simp
theorem kept_ris (row : List Int) (n : Int) : (keptM row n).Pairwise (· < ·) := comp_ris (sortM_le _)
theorem kept_ext {a b : List Int} (h1 : a.Pairwise (· < ·)) (h2 : b.Pairwise (· < ·)) (h : ∀ x,x ∈ a ↔ x ∈ b) : a = b := ris_ext h1 h2 h
theorem kept_kept (row : List Int) (n : Int) : keptM (keptM row n) n = keptM row n := kept_ext (kept_ris _ _) (kept_ris _ _) (fun x => by rw [kept_mem,kept_mem]; exact ⟨fun h => h.1,fun h => ⟨h,h.2⟩⟩)
theorem kept_len (row : List Int) (n : Int) : (keptM row n).length ≤ row.length := by
 unfold keptM
 refine Nat.le_trans (comp_len _) ?_
 unfold sortM
 rw [List.length_mergeSort]; exact List.length_filter_le _ _
def cleanM (g : List (List Int)) : List (List Int) := g.map (fun row => keptM row g.length)
def graphF (f : D.Func) : List (List Int) := f.Blocks.map (fun b => keptM b.Term.To f.Blocks.length)
theorem filt_nx {α : Type} [Inhabited α] {l : List α} {q : α → Bool} {k : Nat} (h : k < l.length) : (l.take (k + 1)).filter q = (l.take k).filter q ++ if q (ix l k) = true then [ix l k] else [] := by
 rw [take_ix h,List.filter_append]
 congr 1
 by_cases h9 : q (ix l k) = true
 · simp [h9]
 · simp [h9]
def comF (idom num : List Int) : Nat → Int → Int → Int
 | 0,a,_ => a
 | k + 1,a,b => if ix num b.toNat < ix num a.toNat then comF idom num k (ix idom a.toNat) b else if ix num a.toNat < ix num b.toNat then comF idom num k a (ix idom b.toNat) else a
def comM (idom num : List Int) (a b : Int) : Int := comF idom num ((ix num a.toNat).toNat + (ix num b.toNat).toNat + 1) a b
def ComOK (idom num : List Int) (a b : Int) : Prop := ∃ n pr,GN n num pr ∧ num.length = n ∧ TV n num idom ∧ CO n num idom a b a b
def domF (idom : List Int) (a : Int) : Nat → Int → Bool
 | 0,_ => false
 | k + 1,b => if a = b then true else if 0 ≤ b ∧ b < idom.length then domF idom a k (ix idom b.toNat) else false
def inR (l : List Int) (n : Int) : Bool := decide (0 ≤ n) && decide (n < l.length)
def dominM (idom : List Int) (a b : Int) : Bool := if inR idom a = true ∧ inR idom b = true then domF idom a (idom.length + 1) b else false
theorem domF_yes {n : Nat} {num out : List Int} (hv : TV n num out) {x : Nat} : ∀ (k : Nat) {v : Nat},An out x v → v < n → ix num v < ix num x + k → domF out x k v = true
 | 0,v,h,hv',hk => by have := (h.nu hv hv').1; omega
 | k + 1,v,h,hv',hk => by
   rw [domF]
   by_cases e : (x : Int) = v
   · rw [if_pos e]
   · rw [if_neg e,if_pos ⟨by omega,by rw [hv.len]; omega⟩,Int.toNat_natCast]
     obtain ⟨h1,h2,h3⟩ := dom_asked hv 0 h hv' (by omega)
     have h4 := (hv.up v hv' h1).2.1
     have := domF_yes hv k (v := (ix out v).toNat) h3 (by omega) (by omega)
     rwa [Int.toNat_of_nonneg h1] at this
def withinM (n a b : Int) : Bool := decide (a ≤ n) && decide (n ≤ b)
def operM (op : Int) : Int × Int := if op = 1 then (0,0) else if op = 15 then (1,1) else if op = 17 then (0,4) else (2,2)
section
variable {idom num : List Int} {k : Nat} {a b : Int}
theorem comF_l (h : 0 < k) (h1 : ix num b.toNat < ix num a.toNat) : comF idom num k a b = comF idom num (k - 1) (ix idom a.toNat) b := by
 obtain ⟨j,rfl⟩ : ∃ j,k = j + 1 := ⟨k - 1,by omega⟩
 rw [comF,if_pos h1]; rfl
theorem comF_r (h : 0 < k) (h1 : ix num a.toNat < ix num b.toNat) : comF idom num k a b = comF idom num (k - 1) a (ix idom b.toNat) := by
 obtain ⟨j,rfl⟩ : ∃ j,k = j + 1 := ⟨k - 1,by omega⟩
 rw [comF,if_neg (by omega),if_pos h1]; rfl
theorem comF_e (h : 0 < k) (h1 : ix num a.toNat = ix num b.toNat) : comF idom num k a b = a := by
 obtain ⟨j,rfl⟩ : ∃ j,k = j + 1 := ⟨k - 1,by omega⟩
 rw [comF,if_neg (by omega),if_neg (by omega)]
end
theorem ix_mapG {α β : Type} [Inhabited α] [Inhabited β] {l : List α} {f : α → β} {k : Nat} (h : k < l.length) : ix (l.map f) k = f (ix l k) := by
 rw [ix_eq (by simpa using h),ix_eq h]; simp
theorem row_put {F : List (List Int)} {n k : Nat} {x : List Int} (hk : k < n) (hn : F.length = n) (hx : x = ix F k) : (F.take k ++ List.replicate (n - k) []).set k x = F.take (k + 1) ++ List.replicate (n - (k + 1)) [] := by
 have hl : (F.take k).length = k := by rw [List.length_take]; omega
 rw [List.set_append_right _ _ (by omega),hl,Nat.sub_self,take_ix (by omega),List.append_assoc]
 congr 1
 obtain ⟨j,hj⟩ : ∃ j,n - k = j + 1 := ⟨n - k - 1,by omega⟩
 rw [hj,List.replicate_succ,List.set_cons_zero,show n - (k + 1) = j by omega,hx]; rfl
def inRn (n : Int) (l : List Int) : Bool := inR l n
theorem inRn_yes {n : Int} {l : List Int} (h : inRn n l = true) : 0 ≤ n ∧ n < l.length := by unfold inRn inR at h; simpa using h
theorem inRn_no {n : Int} {l : List Int} (h : inRn n l = false) : ¬ (0 ≤ n ∧ n < l.length) := by unfold inRn inR at h; simp at h; omega
theorem domN {idom : List Int} {a b : Int} (h : (!inRn a idom || !inRn b idom) = true) : dominM idom a b = false := by
 unfold dominM; rw [if_neg]; intro h9; unfold inRn at h; rw [h9.1,h9.2] at h; cases h
structure OP (n : Nat) (rows : List (List Int)) (se : List Bool) (out : List Int) (a : Int) : Prop where
 len : se.length = n
 n512 : n ≤ 512
 a0 : 0 ≤ a ∧ a < n
 no : ix se a.toNat = false
 rl : rows.length = n
 rows : ∀ v t,t ∈ ix rows v → 0 ≤ t ∧ t < n
 nd : out.Nodup
 vis : ∀ v ∈ out,(0 ≤ v ∧ v < n) ∧ ix se v.toNat = true
section
variable {n : Nat} {rows : List (List Int)} {se se2 se3 : List Bool} {out l l2 l3 : List Int} {a t : Int} {R : Int → Prop} {k : Nat}
theorem OP.all (h : OP n rows se out a) (ho : OV n rows (se.set a.toNat true) l se2 R) : (out ++ l).Nodup ∧ ∀ v ∈ out ++ l,(0 ≤ v ∧ v < n) ∧ ix se2 v.toNat = true := by
 have ha := h.a0
 have hs : ∀ v,ix (se.set a.toNat true) v = if v = a.toNat then true else ix se v := fun v => ix_set (by rw [h.len]; omega)
 refine ⟨List.nodup_append.2 ⟨h.nd,ho.nd,fun x hx y hy e => ?_⟩,fun v hv => ?_⟩
 · subst e
   have h1 := (h.vis x hx).2
   have h2 := (ho.new x hy).2
   rw [hs] at h2
   split at h2
   · cases h2
   · rw [h1] at h2; cases h2
 · rcases List.mem_append.1 hv with h1 | h1
   · have h2 := h.vis v h1
     refine ⟨h2.1,(ho.mem v.toNat (by omega)).2 (.inl ?_)⟩
     rw [hs]; split
     · rfl
     · exact h2.2
   · have h2 := (ho.new v h1).1
     exact ⟨h2,(ho.mem v.toNat (by omega)).2 (.inr (by rw [Int.toNat_of_nonneg h2.1]; exact h1))⟩
theorem OP.olen (h : OP n rows se out a) (ho : OV n rows (se.set a.toNat true) l se2 R) : (out ++ l).length ≤ 512 := by
 have h1 := h.all ho
 have := nodup_len n _ h1.1 (fun v hv => (h1.2 v hv).1)
 have := h.n512
 omega
theorem OP.next (h : OP n rows se out a) (ho : OV n rows (se.set a.toNat true) l se2 R) (ht : t ∈ ix rows a.toNat) (hn : ix se2 t.toNat = false) : OP n rows se2 (out ++ l) t :=
 ⟨ho.len,h.n512,h.rows _ t ht,hn,h.rl,h.rows,(h.all ho).1,(h.all ho).2⟩
theorem cnt3_mono : ∀ {a b : List Bool},a.length = b.length → (∀ i,ix a i = true → ix b i = true) → cnt3 b ≤ cnt3 a
 | [],[],_,_ => Nat.le_refl _
 | x :: a,y :: b,h,h2 => by
   have h3 := cnt3_mono (a := a) (b := b) (by simpa using h) (fun i hi => by have := h2 (i + 1) (by rw [ix_cons]; exact hi); rwa [ix_cons] at this)
   have h0 := h2 0
   rw [ix_zero,ix_zero] at h0
   unfold cnt3 at h3 ⊢
   rw [List.countP_cons,List.countP_cons]
   cases x <;> cases y <;> simp_all <;> omega
theorem OP.less (h : OP n rows se out a) (ho : OV n rows (se.set a.toNat true) l se2 R) : cnt3 se2 < cnt3 se := by
 have ha := h.a0
 have h1 := cnt3_set (l := se) (i := a.toNat) (by rw [h.len]; omega) h.no
 have h2 := cnt3_mono (a := se.set a.toNat true) (b := se2) (by rw [List.length_set,h.len,ho.len]) (fun i hi => (ho.mem i (by have := ix_len hi; rw [List.length_set,h.len] at this; exact this)).2 (.inl hi))
 omega
theorem ov_seen {T : List Int} (hk : k < T.length) (hd : ∀ t ∈ T.take k,ix se2 t.toNat = true) (h : ix se2 (ix T k).toNat = true) : ∀ t ∈ T.take (k + 1),ix se2 t.toNat = true := fun t ht => by
 rw [take_ix hk,List.mem_append] at ht
 rcases ht with ht | ht
 · exact hd t ht
 · simp at ht; subst ht; exact h
theorem ov_next {T : List Int} (hk : k < T.length) (hd : ∀ t ∈ T.take k,ix se2 t.toNat = true) (hr : ∀ t ∈ T,0 ≤ t ∧ t < n) (ho : OV n rows se2 l se3 (fun v => v = ix T k)) (hl : ix T k ∈ l) : ∀ t ∈ T.take (k + 1),ix se3 t.toNat = true := by
 refine ov_seen hk (fun t ht => ?_) ?_
 · have := hr t (List.mem_of_mem_take ht)
   exact ho.up (by omega) (hd t ht)
 · have h1 := hr _ (ix_mem hk)
   exact (ho.mem _ (by omega)).2 (.inr (by rw [Int.toNat_of_nonneg h1.1]; exact hl))
end
structure PO (n : Nat) (rows : List (List Int)) (se : List Bool) (l : List Int) (se' : List Bool) (a : Int) : Prop where
 ends : ∃ l0,l = l0 ++ [a]
 ov : OV n rows se l se' (fun v => v = a)
theorem PO.mem {n : Nat} {rows : List (List Int)} {se se' : List Bool} {l : List Int} {a : Int} (h : PO n rows se l se' a) : a ∈ l := by obtain ⟨l0,e⟩ := h.ends; rw [e]; simp
theorem ix_out {α : Type} [Inhabited α] {l : List α} {i : Nat} (h : l.length ≤ i) : ix l i = default := by
 simp [ix,List.getD,List.getElem?_eq_none h]
theorem clean_len (g : List (List Int)) : (cleanM g).length = g.length := by simp [cleanM]
theorem clean_rng (g : List (List Int)) : ∀ v t,t ∈ ix (cleanM g) v → 0 ≤ t ∧ t < g.length := fun v t h => by
 by_cases hv : v < g.length
 · unfold cleanM at h
   rw [ix_mapG hv] at h
   exact (kept_mem.1 h).2
 · rw [ix_out (by rw [clean_len]; omega)] at h; cases h
theorem op_beg {n : Nat} {rows : List (List Int)} (hn : 0 < n ∧ n ≤ 512) (hl : rows.length = n) (hr : ∀ v t,t ∈ ix rows v → 0 ≤ t ∧ t < n) : OP n rows (List.replicate n false) [] 0 :=
 ⟨by simp,hn.2,⟨Int.le_refl _,by omega⟩,ix_rep _ _,hl,hr,List.nodup_nil,fun v h => by cases h⟩
theorem PO.len {n : Nat} {rows : List (List Int)} {se se' : List Bool} {l : List Int} {a : Int} (h : PO n rows se l se' a) (hn : n ≤ 512) : ([] ++ l).length < 1073741824 := by
 have h1 := nodup_len n l h.ov.nd (fun v hv => (h.ov.new v hv).1)
 rw [List.nil_append]; omega
theorem PO.od {n : Nat} {rows : List (List Int)} {se' : List Bool} {l : List Int} (h : PO n rows (List.replicate n false) l se' 0) (hn : 0 < n) (hr : ∀ v t,t ∈ ix rows v → 0 ≤ t ∧ t < n) (hw : ∀ b,b < n → ∃ w,RB (fun q t => (t : Int) ∈ ix rows q) w b) : OD n rows (revM ([] ++ l)) := by
 obtain ⟨l0,e⟩ := h.ends
 have h1 := h.ov
 rw [List.nil_append,e] at *
 exact od_of hn hr h1 hw
def edgesT (rows : List (List Int)) : Nat → List (Int × Int)
 | 0 => []
 | k + 1 => edgesT rows k ++ (ix rows k).map (fun b => ((k : Int),b))
theorem edges_pre {rows : List (List Int)} : ∀ {n k : Nat},k ≤ n → ∃ m,edgesT rows n = edgesT rows k ++ m
 | 0,k,h => ⟨[],by rw [show k = 0 by omega]; simp⟩
 | n + 1,k,h => by
   rcases Nat.lt_or_ge n k with h1 | h1
   · rw [show k = n + 1 by omega]; exact ⟨[],by simp⟩
   · obtain ⟨m,e⟩ := edges_pre (rows := rows) h1
     exact ⟨m ++ (ix rows n).map (fun b => ((n : Int),b)),by rw [edgesT,e,List.append_assoc]⟩
theorem edge_at {rows : List (List Int)} {n k j : Nat} (hk : k < n) (hj : j < (ix rows k).length) : (edgesT rows k).length + j < (edgesT rows n).length ∧ ∀ h,(edgesT rows n)[(edgesT rows k).length + j]'h = ((k : Int),ix (ix rows k) j) := by
 obtain ⟨m,e⟩ := edges_pre (rows := rows) (show k + 1 ≤ n from hk)
 rw [edgesT] at e
 refine ⟨by rw [e]; simp; omega,fun h => ?_⟩
 have h2 : (edgesT rows n)[(edgesT rows k).length + j]? = some ((k : Int),ix (ix rows k) j) := by
   rw [e,List.append_assoc,List.getElem?_append_right (by omega),Nat.add_sub_cancel_left,List.getElem?_append_left (by simpa using hj),List.getElem?_map,ix_eq hj,List.getElem?_eq_getElem hj]; rfl
 rw [List.getElem?_eq_getElem h] at h2
 injection h2
theorem edges_next {rows : List (List Int)} {k : Nat} : (edgesT rows (k + 1)).length = (edgesT rows k).length + (ix rows k).length := by rw [edgesT]; simp
abbrev Ed (n : Nat) := { p : Int × Int // (0 ≤ p.1 ∧ p.1 < n) ∧ 0 ≤ p.2 ∧ p.2 < n }
def edEnc {n : Nat} (x : Ed n) : List Value := [.int .i64 x.val.1,.int .i64 x.val.2]
theorem edges_rng {g : List (List Int)} : ∀ {k : Nat},k ≤ g.length → ∀ p ∈ edgesT (cleanM g) k,(0 ≤ p.1 ∧ p.1 < g.length) ∧ 0 ≤ p.2 ∧ p.2 < g.length
 | 0,_,_,h => by cases h
 | k + 1,hk,p,h => by
   rw [edgesT] at h
   rcases List.mem_append.1 h with h1 | h1
   · exact edges_rng (by omega) p h1
   · obtain ⟨b,h2,rfl⟩ := List.mem_map.1 h1
     exact ⟨⟨by dsimp only; omega,by dsimp only; omega⟩,clean_rng g k b h2⟩
def edgesX (g : List (List Int)) : List (Ed g.length) := (edgesT (cleanM g) g.length).attachWith _ (fun p hp => edges_rng (Nat.le_refl _) p hp)
theorem edgesX_len {g : List (List Int)} : (edgesX g).length = (edgesT (cleanM g) g.length).length := by simp [edgesX]
theorem edgesX_at {g : List (List Int)} {i : Nat} (h : i < (edgesX g).length) : (edgesX g)[i].val = (edgesT (cleanM g) g.length)[i]'(by rw [← edgesX_len]; exact h) := by simp [edgesX]
def pushE (rs : List (List Int)) (p : Int × Int) : List (List Int) := rs.set p.2.toNat (ix rs p.2.toNat ++ [p.1])
def predsE (n : Nat) (l : List (Int × Int)) : List (List Int) := l.foldl pushE (List.replicate n [])
def predsG (g : List (List Int)) : List (List Int) := predsE g.length (edgesT (cleanM g) g.length)
theorem predsE_len {n : Nat} (l : List (Int × Int)) : (predsE n l).length = n := by
 unfold predsE
 have : ∀ (l : List (Int × Int)) (rs : List (List Int)),(l.foldl pushE rs).length = rs.length := by
   intro l
   induction l with
   | nil => intro rs; rfl
   | cons p l ih => intro rs; rw [List.foldl_cons,ih]; simp [pushE]
 rw [this]; simp
theorem predsE_snoc {n : Nat} {l : List (Int × Int)} {p : Int × Int} : predsE n (l ++ [p]) = pushE (predsE n l) p := by unfold predsE; rw [List.foldl_append]; rfl
theorem edgesX_val (g : List (List Int)) : (edgesX g).map Subtype.val = edgesT (cleanM g) g.length := List.ext_getElem (by simp [edgesX]) fun i h1 h2 => by rw [List.getElem_map]; exact edgesX_at _
theorem edges_few {g : List (List Int)} (hg : g.length ≤ 512) : ∀ k,k ≤ g.length → (edgesT (cleanM g) k).length ≤ 512 * k
 | 0,_ => Nat.le_refl _
 | k + 1,h => by
   have h1 := edges_few hg k (by omega)
   have h2 := nodup_len g.length (ix (cleanM g) k) (by unfold cleanM; rw [ix_mapG (by omega)]; exact (kept_ris _ _).imp (fun h => by omega)) (fun v hv => clean_rng g k v hv)
   rw [edges_next]; omega
theorem predsE_each {n : Nat} : ∀ (l : List (Int × Int)) (rs : List (List Int)) (c : Nat),(∀ r ∈ rs,r.length ≤ c) → ∀ r ∈ l.foldl pushE rs,r.length ≤ c + l.length
 | [],rs,c,h,r,hr => by have := h r hr; simpa using this
 | p :: l,rs,c,h,r,hr => by
   rw [List.foldl_cons] at hr
   have := predsE_each (n := n) l (pushE rs p) (c + 1) (fun r hr => by
     unfold pushE at hr
     rcases List.mem_or_eq_of_mem_set hr with h1 | h1
     · have := h r h1; omega
     · subst h1
       rw [List.length_append]
       by_cases hj : p.2.toNat < rs.length
       · have := h _ (ix_mem hj); simp; omega
       · rw [ix_out (by omega)]; simp [default]; ) r hr
   rw [List.length_cons]; omega
theorem predsE_small {g : List (List Int)} (hg : g.length ≤ 512) : ∀ l ∈ predsE g.length (edgesT (cleanM g) g.length),l.length < 1073741824 := fun l hl => by
 have h1 := predsE_each (n := g.length) (edgesT (cleanM g) g.length) (List.replicate g.length []) 0 (fun r hr => by rw [List.eq_of_mem_replicate hr]; simp) l hl
 have h2 := edges_few hg g.length (Nat.le_refl _)
 have h3 : 512 * g.length ≤ 512 * 512 := Nat.mul_le_mul_left _ hg
 omega
theorem predsE_le {n j : Nat} (l : List (Int × Int)) : ((predsE n l)[j]?.getD []).length ≤ l.length := by
 cases h : (predsE n l)[j]? with
 | none => simp
 | some x =>
   obtain ⟨hj,e⟩ := List.getElem?_eq_some_iff.1 h
   have := predsE_each (n := n) l (List.replicate n []) 0 (fun r hr => by rw [List.eq_of_mem_replicate hr]; simp) x (by rw [← e]; exact List.getElem_mem hj)
   simpa using this
theorem edgesX_few {g : List (List Int)} (hg : g.length ≤ 512) : (edgesX g).length ≤ 262144 := by
 rw [edgesX_len]
 have h2 := edges_few hg g.length (Nat.le_refl _)
 have h3 : 512 * g.length ≤ 512 * 512 := Nat.mul_le_mul_left _ hg
 omega
theorem push_row {n : Nat} {q : Int} : ∀ (row : List Int) (rs : List (List Int)),rs.length = n → row.Nodup → (∀ v ∈ row,0 ≤ v ∧ v < n) → ∀ v : Nat,ix ((row.map (fun b => (q,b))).foldl pushE rs) v = ix rs v ++ if (v : Int) ∈ row then [q] else []
 | [],rs,_,_,_,v => by simp
 | b :: row,rs,hl,hn,hr,v => by
   have h1 := hr b (by simp)
   have h2 := List.nodup_cons.1 hn
   have h3 := push_row (q := q) row (pushE rs (q,b)) (by simp [pushE,hl]) h2.2 (fun v hv => hr v (by simp [hv])) v
   rw [List.map_cons,List.foldl_cons,h3]
   unfold pushE
   dsimp only
   rw [ix_set (by omega)]
   by_cases e : v = b.toNat
   · have e2 : (v : Int) = b := by omega
     rw [if_pos e,← e,e2,if_neg h2.1,if_pos (by simp),List.append_nil]
   · have e2 : ¬ (v : Int) = b := by omega
     rw [if_neg e]
     congr 1
     by_cases h4 : (v : Int) ∈ row
     · rw [if_pos h4,if_pos (by simp [h4])]
     · rw [if_neg h4,if_neg (by simp [h4,e2])]
def predK (rows : List (List Int)) : Nat → Nat → List Int
 | 0,_ => []
 | k + 1,v => predK rows k v ++ if (v : Int) ∈ ix rows k then [(k : Int)] else []
theorem preds_K {n : Nat} {rows : List (List Int)} (hn : ∀ k,(ix rows k).Nodup) (hr : ∀ v t,t ∈ ix rows v → 0 ≤ t ∧ t < n) (v : Nat) : ∀ k,ix (predsE n (edgesT rows k)) v = predK rows k v
 | 0 => by unfold predsE; rw [edgesT,predK,List.foldl_nil]; by_cases h : v < n <;> simp [ix,h] <;> rfl
 | k + 1 => by
   have h1 := preds_K hn hr v k
   rw [edgesT,predK,← h1]
   unfold predsE
   rw [List.foldl_append]
   exact push_row _ _ (predsE_len (n := n) _) (hn k) (hr k) v
theorem clean_nd (g : List (List Int)) (k : Nat) : (ix (cleanM g) k).Nodup := by
 by_cases hk : k < g.length
 · unfold cleanM; rw [ix_mapG hk]; exact (kept_ris _ _).imp (fun h => by omega)
 · rw [ix_out (by rw [clean_len]; omega)]; exact List.nodup_nil
theorem predsG_at (g : List (List Int)) (v : Nat) : ix (predsG g) v = predK (cleanM g) g.length v := preds_K (clean_nd g) (clean_rng g) v _
theorem predK_mem {rows : List (List Int)} {v : Nat} : ∀ {n : Nat} {x : Int},x ∈ predK rows n v ↔ ∃ k : Nat,k < n ∧ x = k ∧ (v : Int) ∈ ix rows k
 | 0,x => by simp [predK]
 | n + 1,x => by
   rw [predK,List.mem_append,predK_mem (n := n)]
   constructor
   · rintro (⟨k,h1,h2,h3⟩ | h)
     · exact ⟨k,by omega,h2,h3⟩
     · split at h
       · rename_i h2; simp at h; exact ⟨n,by omega,h,h2⟩
       · cases h
   · rintro ⟨k,h1,h2,h3⟩
     rcases Nat.lt_or_ge k n with h4 | h4
     · exact .inl ⟨k,h4,h2,h3⟩
     · have e : k = n := by omega
       subst e
       exact .inr (by rw [if_pos h3]; simpa using h2)
theorem preds_len (g : List (List Int)) : (predsG g).length = g.length := predsE_len _
def prG (g : List (List Int)) (q t : Nat) : Prop := (t : Int) ∈ ix (cleanM g) q
theorem prG_rng {g : List (List Int)} {q t : Nat} (h : prG g q t) : q < g.length ∧ t < g.length := by
 refine ⟨?_,by have := clean_rng g q t h; omega⟩
 rcases Nat.lt_or_ge q g.length with h1 | h1
 · exact h1
 · unfold prG at h; rw [ix_out (by rw [clean_len]; omega)] at h; cases h
theorem preds_pr {g : List (List Int)} {p b : Nat} : (p : Int) ∈ ix (predsG g) b ↔ prG g p b := by
 rw [predsG_at,predK_mem]
 constructor
 · rintro ⟨k,h1,h2,h3⟩
   have : p = k := by omega
   subst this; exact h3
 · exact fun h => ⟨p,(prG_rng h).1,rfl,h⟩
theorem preds_rng {g : List (List Int)} {b : Nat} {x : Int} (h : x ∈ ix (predsG g) b) : 0 ≤ x ∧ x < g.length := by
 rw [predsG_at,predK_mem] at h
 obtain ⟨k,h1,h2,_⟩ := h
 omega
theorem OD.gn {g : List (List Int)} {ord num : List Int} (hn : 0 < g.length) (ho : OD g.length (cleanM g) ord) (hu : NU g.length ord num) : GN g.length num (prG g) ∧ ord.length ≤ g.length :=
 od_gn hn (fun v t h => ⟨clean_rng g v t h,by
   rcases Nat.lt_or_ge v g.length with h1 | h1
   · exact h1
   · rw [ix_out (by rw [clean_len]; omega)] at h; cases h⟩) ho hu
theorem od_len {n : Nat} {rows : List (List Int)} {ord : List Int} (ho : OD n rows ord) : ord.length ≤ n := nodup_len n ord ho.nd (fun v hv => (ho.all v).1 hv)
theorem od_rng {n : Nat} {rows : List (List Int)} {ord : List Int} (ho : OD n rows ord) {k : Nat} (hk : k < ord.length) : 0 ≤ ix ord k ∧ ix ord k < n := (ho.all _).1 (ix_mem hk)
theorem sub_len : ∀ (l m : List Int),l.Nodup → (∀ x ∈ l,x ∈ m) → l.length ≤ m.length
 | [],m,_,_ => Nat.zero_le _
 | x :: l,m,h,h2 => by
   have h3 := List.nodup_cons.1 h
   have h4 := sub_len l (m.erase x) h3.2 (fun y hy => (List.mem_erase_of_ne (fun e => h3.1 (by rw [← e]; exact hy))).2 (h2 y (by simp [hy])))
   have h5 := h2 x (by simp)
   rw [List.length_erase_of_mem h5] at h4
   have := List.length_pos_of_mem h5
   rw [List.length_cons]; omega
theorem od_full {n : Nat} {rows : List (List Int)} {ord : List Int} (ho : OD n rows ord) : n ≤ ord.length := by
 have h : ∀ k,k ≤ n → ∃ l : List Int,l.length = k ∧ l.Nodup ∧ ∀ x ∈ l,0 ≤ x ∧ x < k := by
   intro k
   induction k with
   | zero => exact fun _ => ⟨[],rfl,List.nodup_nil,fun x h => by cases h⟩
   | succ k ih =>
     intro hk
     obtain ⟨l,h1,h2,h3⟩ := ih (by omega)
     refine ⟨(k : Int) :: l,by simp [h1],List.nodup_cons.2 ⟨fun h4 => by have := h3 _ h4; omega,h2⟩,fun x hx => ?_⟩
     rcases List.mem_cons.1 hx with h4 | h4
     · omega
     · have := h3 x h4; omega
 obtain ⟨l,h1,h2,h3⟩ := h n (Nat.le_refl _)
 have := sub_len l ord h2 (fun x hx => (ho.all _).2 (h3 x hx))
 omega
theorem nodup_inj {α : Type} : ∀ {l : List α},l.Nodup → ∀ {i j : Nat} (hi : i < l.length) (hj : j < l.length),l[i] = l[j] → i = j
 | [],_,i,_,hi,_,_ => by cases hi
 | x :: l,h,0,0,_,_,_ => rfl
 | x :: l,h,0,j + 1,_,hj,e => by
   rw [List.getElem_cons_zero,List.getElem_cons_succ] at e
   exact absurd (by rw [e]; exact List.getElem_mem _) (List.nodup_cons.1 h).1
 | x :: l,h,i + 1,0,hi,_,e => by
   rw [List.getElem_cons_zero,List.getElem_cons_succ] at e
   exact absurd (by rw [← e]; exact List.getElem_mem _) (List.nodup_cons.1 h).1
 | x :: l,h,i + 1,j + 1,hi,hj,e => by
   rw [List.getElem_cons_succ,List.getElem_cons_succ] at e
   rw [nodup_inj (List.nodup_cons.1 h).2 _ _ e]
def NK (n : Nat) (ord nm : List Int) (k : Nat) : Prop := nm.length = n ∧ ∀ j,j < k → ix nm (ix ord j).toNat = j
theorem NK.nx {n : Nat} {rows : List (List Int)} {ord nm : List Int} {k : Nat} (ho : OD n rows ord) (h : NK n ord nm k) (hk : k < ord.length) : NK n ord (nm.set (ix ord k).toNat k) (k + 1) := by
 refine ⟨by rw [List.length_set]; exact h.1,fun j hj => ?_⟩
 have h1 := od_rng ho hk
 have h2 := od_rng ho (k := j) (by omega)
 rw [ix_set (by rw [h.1]; omega)]
 split
 · rename_i e
   have e2 : ix ord j = ix ord k := by omega
   have : j = k := by
     rw [ix_eq (show j < ord.length by omega),ix_eq hk] at e2
     exact nodup_inj ho.nd _ _ e2
   omega
 · rename_i e
   rcases Nat.lt_or_ge j k with h3 | h3
   · exact h.2 j h3
   · exact absurd (show (ix ord j).toNat = (ix ord k).toNat by rw [show j = k by omega]) e
theorem NK.nu {n : Nat} {ord nm : List Int} (h : NK n ord nm ord.length) : NU n ord nm := ⟨h.1,h.2⟩
structure IR (n : Nat) (num : List Int) (pr : Nat → Nat → Prop) (ou0 ou : List Int) (ch : Bool) (k : Nat) : Prop where
 is : IS n num pr ou ((k + 1 : Nat) : Int)
 le : smI n num ou n ≤ smI n num ou0 n
 lt : ch = true → smI n num ou n < smI n num ou0 n
section
variable {n : Nat} {num ou0 ou : List Int} {pr : Nat → Nat → Prop} {ch : Bool} {k : Nat} {best : Int} {b : Nat}
theorem IR.set (hg : GN n num pr) (h : IR n num pr ou0 ou ch k) (hb : b < n) (hb0 : b ≠ 0) (hi : ix num b = ((k + 1 : Nat) : Int)) (hB : BS ou (fun p => pr p b) best) (hne : ix ou b ≠ best) : IR n num pr ou0 (ou.set b best) true (k + 1) := by
 obtain ⟨h1,h2,h3,h4⟩ := h.is.step hg hb hb0 hi hB
 have h5 := h.is.less hg hb ⟨h1,h2⟩ hne h4
 have h6 := h.le
 exact ⟨by rw [show ((k + 1 + 1 : Nat) : Int) = ((k + 1 : Nat) : Int) + 1 by omega]; exact h3,by omega,fun _ => by omega⟩
theorem IR.keep (hg : GN n num pr) (h : IR n num pr ou0 ou ch k) (hb : b < n) (hb0 : b ≠ 0) (hi : ix num b = ((k + 1 : Nat) : Int)) (hB : BS ou (fun p => pr p b) best) (he : ix ou b = best) : IR n num pr ou0 ou ch (k + 1) := by
 obtain ⟨h1,h2,h3,h4⟩ := h.is.step hg hb hb0 hi hB
 have hl : b < ou.length := by rw [h.is.tv.len]; exact hb
 have e : ou.set b best = ou := by rw [← he,ix_eq hl]; exact List.set_getElem_self _
 rw [e] at h3
 exact ⟨by rw [show ((k + 1 + 1 : Nat) : Int) = ((k + 1 : Nat) : Int) + 1 by omega]; exact h3,h.le,h.lt⟩
end
def DomG (g : List (List Int)) (out : List Int) : Prop := out.length = g.length ∧ ∀ a b : Nat,a < g.length → b < g.length → (a = b ∨ ¬ RB (prG g) a b) → dominM out a b = true
theorem IS.dg {g : List (List Int)} {num out : List Int} (hg : GN g.length num (prG g)) (h : IS g.length num (prG g) out (g.length : Int)) : DomG g out := by
 refine ⟨h.tv.len,fun a b ha hb hd => ?_⟩
 have h1 := h.dm b a hb (h.fp b hb (hg.rng b hb).2) hd
 have hl := h.tv.len
 unfold dominM inR
 rw [if_pos ⟨by simp; omega,by simp; omega⟩]
 refine domF_yes h.tv _ h1 hb ?_
 have := hg.rng b hb
 have := hg.rng a ha
 omega
theorem IS.pd {n : Nat} {num out : List Int} {pr : Nat → Nat → Prop} {i : Int} (h : IS n num pr out i) {x : Int} (hx : 0 ≤ x) : pdn out x.toNat ↔ ¬ (x ≠ 0 ∧ ix out x.toNat < 0) := by
 unfold pdn
 constructor
 · rintro (h1 | h1) ⟨h2,h3⟩ <;> omega
 · intro h1
   by_cases e : x = 0
   · exact .inl (by omega)
   · exact .inr (by rcases Int.lt_or_le (ix out x.toNat) 0 with h2 | h2; exact absurd ⟨e,h2⟩ h1; exact h2)
theorem com_done {n : Nat} {num out : List Int} {pr : Nat → Nat → Prop} (hg : GN n num pr) (hv : TV n num out) {a b : Int} : ∀ (k : Nat) {a' b' : Int},CO n num out a b a' b' → (ix num a'.toNat).toNat + (ix num b'.toNat).toNat < k → ∃ c,comF out num k a' b' = c ∧ (0 ≤ c ∧ c < n) ∧ pdn out c.toNat ∧ An out c.toNat a.toNat ∧ An out c.toNat b.toNat ∧ ∀ x,An out x a.toNat → An out x b.toNat → An out x c.toNat
 | 0,a',b',_,h => absurd h (Nat.not_lt_zero _)
 | k + 1,a',b',h,hk => by
   rw [comF]
   have ra := h.ra
   have rb := h.rb
   have na := hg.rng a'.toNat (by omega)
   have nb := hg.rng b'.toNat (by omega)
   split
   · rename_i h1
     obtain ⟨h2,h3⟩ := h.left hg hv h1
     have := hg.rng (ix out a'.toNat).toNat (by have := h2.ra; omega)
     exact com_done hg hv k h2 (by omega)
   · split
     · rename_i h1
       obtain ⟨h2,h3⟩ := h.right hg hv h1
       have := hg.rng (ix out b'.toNat).toNat (by have := h2.rb; omega)
       exact com_done hg hv k h2 (by omega)
     · exact ⟨_,rfl,ra,h.pa,h.done hg (by omega)⟩
theorem comM_done {n : Nat} {num out : List Int} {pr : Nat → Nat → Prop} (hg : GN n num pr) (hv : TV n num out) {a b : Int} (ha : 0 ≤ a ∧ a < n) (hb : 0 ≤ b ∧ b < n) (h1 : pdn out a.toNat) (h2 : pdn out b.toNat) : (0 ≤ comM out num a b ∧ comM out num a b < n) ∧ pdn out (comM out num a b).toNat ∧ An out (comM out num a b).toNat a.toNat ∧ An out (comM out num a b).toNat b.toNat ∧ ∀ x,An out x a.toNat → An out x b.toNat → An out x (comM out num a b).toNat := by
 obtain ⟨c,h3,h4⟩ := com_done hg hv _ (CO.beg ha hb h1 h2) (Nat.lt_succ_self _)
 unfold comM
 rw [h3]; exact h4
theorem fill_put {n k : Nat} {a b : Int} (hk : k < n) : (List.replicate k a ++ List.replicate (n - k) b).set k a = List.replicate (k + 1) a ++ List.replicate (n - (k + 1)) b := by
 obtain ⟨j,hj⟩ : ∃ j,n - k = j + 1 := ⟨n - k - 1,by omega⟩
 rw [hj,show n - (k + 1) = j by omega,List.replicate_succ (n := j),List.set_append_right _ _ (by simp),List.length_replicate,Nat.sub_self,List.set_cons_zero,List.replicate_succ' (n := k),List.append_assoc]; rfl
section
variable {n : Nat} {num ou l : List Int} {pr : Nat → Nat → Prop} {i a best : Int} {j : Nat}
def S9 (n : Nat) (ou l : List Int) (j : Nat) (best : Int) : Prop := j ≤ l.length ∧ BS ou (Pk l j) best ∧ -1 ≤ best ∧ best < (n : Int)
theorem s9_skip (hg : GN n num pr) (hs : IS n num pr ou i) (h : S9 n ou l j best) (ha : ix l j = a) (hr : 0 ≤ a ∧ a < n) (hj : j < l.length) (hc : ix num a.toNat < 0 ∨ ¬ a = 0 ∧ ix ou a.toNat < 0) : S9 n ou l (j + 1) best := by
 refine ⟨by omega,h.2.1.skip hj (by omega) ?_,h.2.2⟩
 rw [ha]
 intro h1
 have h2 := (hs.pd hr.1).1 h1
 have h3 := (hg.rng a.toNat (by omega)).1
 rcases hc with h4 | h4
 · omega
 · exact h2 h4
theorem s9_pd (hs : IS n num pr ou i) (hr : 0 ≤ a ∧ a < n) (hc : ¬ a = 0 → 0 ≤ ix ou a.toNat) : pdn ou a.toNat := (hs.pd hr.1).2 fun h => by have := hc h.1; omega
theorem s9_first (hs : IS n num pr ou i) (h : S9 n ou l j best) (ha : ix l j = a) (hr : 0 ≤ a ∧ a < n) (hj : j < l.length) (hc : ¬ a = 0 → 0 ≤ ix ou a.toNat) (hb : best < 0) : S9 n ou l (j + 1) a := by
 have h1 := h.2.1.first hb hj (by omega) (by rw [ha]; exact s9_pd hs hr hc)
 rw [ha] at h1
 exact ⟨by omega,h1,by omega,hr.2⟩
theorem s9_ok (hg : GN n num pr) (hl : num.length = n) (hs : IS n num pr ou i) (h : S9 n ou l j best) (hr : 0 ≤ a ∧ a < n) (hc : ¬ a = 0 → 0 ≤ ix ou a.toNat) (hb : 0 ≤ best) : ComOK ou num best a :=
 ⟨n,pr,hg,hl,hs.tv,CO.beg ⟨hb,h.2.2.2⟩ hr (h.2.1.pd hb) (s9_pd hs hr hc)⟩
theorem s9_com (hg : GN n num pr) (hs : IS n num pr ou i) (h : S9 n ou l j best) (ha : ix l j = a) (hr : 0 ≤ a ∧ a < n) (hj : j < l.length) (hc : ¬ a = 0 → 0 ≤ ix ou a.toNat) (hb : 0 ≤ best) : S9 n ou l (j + 1) (comM ou num best a) := by
 have hp := s9_pd hs hr hc
 obtain ⟨h1,h2,h3⟩ := comM_done hg hs.tv ⟨hb,h.2.2.2⟩ hr (h.2.1.pd hb) hp
 exact ⟨by omega,h.2.1.com hb hj (by omega) (by rw [ha]; exact hp) h1.1 h2 (by rw [ha]; exact h3),by omega,h1.2⟩
end
theorem S9.all {g : List (List Int)} {ou : List Int} {j b : Nat} {best : Int} (h : S9 g.length ou (ix (predsG g) b) j best) (hj : j = (ix (predsG g) b).length) : BS ou (fun p => prG g p b) best := by
 subst hj; exact h.2.1.all (fun p => preds_pr)
theorem ix_drop9 {l : List Int} {m k : Nat} : ix (l.drop m) k = ix l (m + k) := by simp [ix,List.getD]
theorem IS.end9 {n : Nat} {num out : List Int} {pr : Nat → Nat → Prop} {k : Nat} (h : IS n num pr out ((k + 1 : Nat) : Int)) (e : k + 1 = n) : IS n num pr out (n : Int) := by rw [← e] at h ⊢; exact h
end Go.Proofs.Ytmfkkodnghambaa
