/- Lemmas that the claim is made of. Conditions: each lemma names its own. -/
import Derived.Test.YtmfkkodnghambaaGreatKJ7
set_option linter.unusedSectionVars false
set_option linter.unusedSimpArgs false
set_option linter.unusedVariables false
namespace Go.Proofs.YtmfkkodnghambaaGreat
open Go.JE
theorem ixd_set {l : List Bool} {i j : Nat} : ix (l.set j true) i = true → i = j ∨ ix l i = true := by
 intro h
 by_cases hj : j < l.length
 · rw [ix_set hj] at h; split at h; (· left; assumption); right; exact h
 · rw [List.set_eq_of_length_le (by omega)] at h; exact .inr h
theorem ix_up {l : List Bool} {i j : Nat} (h : ix l i = true) : ix (l.set j true) i = true := by
 by_cases hj : j < l.length
 · rw [ix_set hj]; split; rfl; exact h
 · rw [List.set_eq_of_length_le (by omega)]; exact h
theorem ix_len {l : List Bool} {i : Nat} (h : ix l i = true) : i < l.length := by
 rcases Nat.lt_or_ge i l.length with h1 | h1
 · exact h1
 · simp [ix,List.getD,List.getElem?_eq_none h1] at h
section
variable {w : Int}
theorem b3In_mono : ∀ (ts : List Int) (se : List Bool) (q : List Int) (j : Nat),ix se j = true → ix (b3In w se q ts).1 j = true
 | [],_,_,_,h => h
 | t :: ts,se,q,j,h => by rw [b3In]; split; exact b3In_mono ts _ _ j (ix_up h); exact b3In_mono ts _ _ j h
theorem b3In_app : ∀ (ts : List Int) (se : List Bool) (q : List Int),∃ u,(b3In w se q ts).2 = q ++ u
 | [],_,q => ⟨[],by simp [b3In]⟩
 | t :: ts,se,q => by
   rw [b3In]; split
   · obtain ⟨u,h⟩ := b3In_app ts (se.set t.toNat true) (q ++ [t]); exact ⟨t :: u,by rw [h]; simp⟩
   · exact b3In_app ts se q
theorem b3In_cl : ∀ (ts : List Int) (se : List Bool) (q : List Int),∀ t ∈ ts,0 ≤ t → t < se.length → t ≠ w → ix (b3In w se q ts).1 t.toNat = true
 | [],_,_,t,h,_,_,_ => by cases h
 | y :: ts,se,q,t,h,h0,h1,h2 => by
   rw [b3In]
   rcases List.mem_cons.1 h with rfl | h
   · split
     · exact b3In_mono ts _ _ _ (by rw [ix_set (by omega),if_pos rfl])
     · rename_i h9
       refine b3In_mono ts _ _ _ ?_
       cases h8 : ix se t.toNat with
       | true => rfl
       | false => exact absurd ⟨⟨h0,h1⟩,h8,h2⟩ h9
   · split
     · exact b3In_cl ts _ _ t h h0 (by simpa using h1) h2
     · exact b3In_cl ts _ _ t h h0 h1 h2
theorem b3In_q : ∀ (ts : List Int) (se : List Bool) (q : List Int),(∀ j : Nat,ix se j = true → (j : Int) ∈ q) → ∀ j : Nat,ix (b3In w se q ts).1 j = true → (j : Int) ∈ (b3In w se q ts).2
 | [],_,_,h,j,hj => h j hj
 | t :: ts,se,q,h,j,hj => by
   rw [b3In] at hj ⊢
   split at hj
   · rename_i h9
     rw [if_pos h9]
     refine b3In_q ts _ _ (fun i hi => ?_) j hj
     rcases ixd_set hi with e | e
     · rw [e]; simp; right; omega
     · simp [h i e]
   · rename_i h9
     rw [if_neg h9]; exact b3In_q ts _ _ h j hj
theorem b3In_cnt : ∀ (ts : List Int) (se : List Bool) (q : List Int),(b3In w se q ts).2.length + cnt3 (b3In w se q ts).1 = q.length + cnt3 se
 | [],_,_ => rfl
 | t :: ts,se,q => by
   rw [b3In]; split
   · rename_i h9
     rw [b3In_cnt ts]
     have := cnt3_set (l := se) (i := t.toNat) (by omega) h9.2.1
     rw [List.length_append]; simp; omega
   · exact b3In_cnt ts _ _
end
theorem b3_cl {bs : List D.Block} {w : Int} : ∀ (f : Nat) (se : List Bool) (q : List Int) (i : Nat),bs.length ≤ f + i → se.length = bs.length → q.length + cnt3 se ≤ bs.length →
   (∀ j : Nat,ix se j = true → (j : Int) ∈ q) → (∀ j,j < i → j < q.length → ∀ t ∈ (ix bs (ix q j).toNat).Term.To,0 ≤ t → t < bs.length → t ≠ w → ix se t.toNat = true) →
   (∀ j,ix se j = true → ix (b3 bs w f se q i) j = true) ∧ ∀ x : Nat,ix (b3 bs w f se q i) x = true → ∀ t ∈ (ix bs x).Term.To,0 ≤ t → t < bs.length → t ≠ w → ix (b3 bs w f se q i) t.toNat = true
 | 0,se,q,i,hf,hl,hc,hq,hp => by
   refine ⟨fun j h => h,fun x hx t ht h0 h1 h2 => ?_⟩
   obtain ⟨j,hj,e⟩ := List.getElem_of_mem (hq x hx)
   have e2 : ix q j = x := by rw [ix_eq hj]; exact e
   exact hp j (by omega) hj t (by rw [e2]; simpa using ht) h0 h1 h2
 | f + 1,se,q,i,hf,hl,hc,hq,hp => by
   rw [b3]
   by_cases hi : i < q.length
   · rw [if_pos hi]
     obtain ⟨u,hu⟩ := b3In_app (w := w) (ix bs (ix q i).toNat).Term.To se q
     have hcn := b3In_cnt (w := w) (ix bs (ix q i).toNat).Term.To se q
     obtain ⟨a,b⟩ := b3_cl (bs := bs) (w := w) f (b3In w se q (ix bs (ix q i).toNat).Term.To).1 (b3In w se q (ix bs (ix q i).toNat).Term.To).2 (i + 1) (by omega) (by rw [b3In_len]; exact hl) (by omega)
       (b3In_q _ _ _ hq) (fun j hj hj2 t ht h0 h1 h2 => by
         rw [hu] at ht
         rcases Nat.lt_or_ge j i with h | h
         · rw [ix_app (l := q) (i := j) (by omega)] at ht
           exact b3In_mono _ _ _ _ (hp j h (by omega) t ht h0 h1 h2)
         · rw [show j = i by omega,ix_app hi] at ht
           exact b3In_cl _ _ _ t ht h0 (by omega) h2)
     exact ⟨fun j hj => a j (b3In_mono _ _ _ _ hj),b⟩
   · rw [if_neg hi]
     refine ⟨fun j h => h,fun x hx t ht h0 h1 h2 => ?_⟩
     obtain ⟨j,hj,e⟩ := List.getElem_of_mem (hq x hx)
     have e2 : ix q j = x := by rw [ix_eq hj]; exact e
     exact hp j (by omega) hj t (by rw [e2]; simpa using ht) h0 h1 h2
theorem reach3_cl {f : D.Func} {w : Int} (hw : w ≠ 0) (hn : 0 < f.Blocks.length) : ix (reach3 f w) 0 = true ∧ ∀ x : Nat,ix (reach3 f w) x = true → ∀ t ∈ (ix f.Blocks x).Term.To,0 ≤ t → t < f.Blocks.length → t ≠ w → ix (reach3 f w) t.toNat = true := by
 unfold reach3
 rw [if_pos ⟨hw,hn⟩]
 have h0 : ix ((List.replicate f.Blocks.length false).set 0 true) 0 = true := by rw [ix_set (by simpa using hn),if_pos rfl]
 obtain ⟨a,b⟩ := b3_cl (bs := f.Blocks) (w := w) f.Blocks.length ((List.replicate f.Blocks.length false).set 0 true) [0] 0 (by omega) (by simp)
   (by have := cnt3_set (l := List.replicate f.Blocks.length false) (i := 0) (by simpa using hn) (ix_rep _ _); rw [cnt3_rep] at this; simp; omega)
   (fun j hj => by rcases ixd_set hj with e | e; (· subst e; simp); rw [ix_rep] at e; cases e) (fun j hj => by omega)
 exact ⟨a 0 h0,b⟩
def Parent (n : Nat) (to : Nat → List Int) : Prop := ∀ b : Nat,1 ≤ b → b < n → ∃ p,p < b ∧ (b : Int) ∈ to p
theorem reach3_low {f : D.Func} (hP : Parent f.Blocks.length (fun j => (ix f.Blocks j).Term.To)) {a : Nat} : ∀ b : Nat,b < a → b < f.Blocks.length → ix (reach3 f (a : Int)) b = true := by
 intro b
 induction b using Nat.strongRecOn with
 | ind b ih =>
   intro hb hn
   obtain ⟨h0,hc⟩ := reach3_cl (f := f) (w := (a : Int)) (by omega) (by omega)
   rcases Nat.eq_zero_or_pos b with e | e
   · subst e; exact h0
   · obtain ⟨p,hp,hm⟩ := hP b e hn
     have := hc p (ih p hp (by omega) (by omega)) (b : Int) hm (by omega) (by omega) (by omega)
     simpa [reachedM] using this
def TR (n : Nat) (L : Nat) (to : List (List Int)) : Prop := to.length = n ∧ (∀ j,(ix to j).length ≤ L) ∧ ∀ j,∀ t ∈ ix to j,1 ≤ t ∧ t < n
def PB (b : Int) (to : List (List Int)) : Prop := ∀ c : Nat,1 ≤ c → (c : Int) < b → ∃ p,p < c ∧ (c : Int) ∈ ix to p
theorem TR.mono {n L M : Nat} {to : List (List Int)} (h : TR n L to) (hl : L ≤ M) : TR n M to := ⟨h.1,fun j => Nat.le_trans (h.2.1 j) hl,h.2.2⟩
theorem ix_put {to : List (List Int)} {p : Nat} {x : Int} (hp : p < to.length) (j : Nat) : ix (to.set p (to.getD p [] ++ [x])) j = if j = p then ix to p ++ [x] else ix to j := by
 rw [ix_set hp]; rfl
theorem TR.put {n L p : Nat} {to : List (List Int)} {x : Int} (h : TR n L to) (hp : p < n) (hx : 1 ≤ x ∧ x < n) : TR n (L + 1) (to.set p (to.getD p [] ++ [x])) := by
 have hp' : p < to.length := by rw [h.1]; exact hp
 refine ⟨by rw [List.length_set]; exact h.1,fun j => ?_,fun j t ht => ?_⟩
 · rw [ix_put hp']; split
   · rw [List.length_append]; have := h.2.1 p; simp; omega
   · have := h.2.1 j; omega
 · rw [ix_put hp'] at ht; split at ht
   · rcases List.mem_append.1 ht with h1 | h1
     · exact h.2.2 p t h1
     · simp at h1; subst h1; exact hx
   · exact h.2.2 j t ht
theorem mem_put {to : List (List Int)} {p j : Nat} {x y : Int} (hp : p < to.length) (h : y ∈ ix to j) : y ∈ ix (to.set p (to.getD p [] ++ [x])) j := by
 rw [ix_put hp]; split
 · rename_i e; subst e; simp [h]
 · exact h
theorem PB.put {to : List (List Int)} {b : Int} {p : Nat} {x : Int} (h : PB b to) (hp : p < to.length) : PB b (to.set p (to.getD p [] ++ [x])) := fun c h1 h2 => by
 obtain ⟨q,h3,h4⟩ := h c h1 h2
 exact ⟨q,h3,mem_put hp h4⟩
theorem PB.next {to : List (List Int)} {b : Int} {p : Nat} (h : PB b to) (hp : p < to.length) (hb : (p : Int) < b) : PB (b + 1) (to.set p (to.getD p [] ++ [b])) := fun c h1 h2 => by
 by_cases e : (c : Int) = b
 · refine ⟨p,by omega,?_⟩
   rw [ix_put hp,if_pos rfl,e]; simp
 · exact h.put hp c h1 (by omega)
theorem tgA_tr {n : Nat} : ∀ (k L : Nat) (b : Int) (to : List (List Int)) (m : Mk),1 ≤ b → b + k = n → TR n L to → PB b to → TR n (L + k) (tgA k b to m).1 ∧ PB n (tgA k b to m).1
 | 0,L,b,to,m,_,hb,h,hp => ⟨h,by rw [tgA,← hb]; simpa using hp⟩
 | k + 1,L,b,to,m,h1,hb,h,hp => by
   have hr := tV9 (n := b) (by omega) (tSS m)
   rw [tgA]
   split
   · have hq : (tVV b (tSS m)).toNat < to.length := by rw [h.1]; omega
     obtain ⟨a,c⟩ := tgA_tr k (L + 1) (b + 1) _ (tSS (tSS m)) (by omega) (by omega) (h.put (p := (tVV b (tSS m)).toNat) (x := b) (by omega) (by omega)) (hp.next hq (by omega))
     exact ⟨a.mono (by omega),c⟩
   · have hq : (b - 1).toNat < to.length := by rw [h.1]; omega
     obtain ⟨a,c⟩ := tgA_tr k (L + 1) (b + 1) _ (tSS m) (by omega) (by omega) (h.put (p := (b - 1).toNat) (x := b) (by omega) (by omega)) (hp.next hq (by omega))
     exact ⟨a.mono (by omega),c⟩
theorem tgX_rng {n : Nat} {b : Int} (m : Mk) (hn : 1 < n) (hb : 0 ≤ b) : 1 ≤ (tgX n b m).1 ∧ (tgX n b m).1 < n := by
 have hr := tV9 (n := (n : Int) - 1) (by omega) m
 unfold tgX
 repeat' split
 all_goals (dsimp only; omega)
theorem tgI_tr {n : Nat} {b : Int} (hn : 1 < n) (hb : 0 ≤ b ∧ b < n) : ∀ (k L : Nat) (to : List (List Int)) (m : Mk),TR n L to → PB n to → TR n (L + k) (tgI n b k to m).1 ∧ PB n (tgI n b k to m).1
 | 0,L,to,m,h,hp => ⟨h,hp⟩
 | k + 1,L,to,m,h,hp => by
   rw [tgI]
   obtain ⟨a,c⟩ := tgI_tr hn hb k (L + 1) _ (tgX n b m).2 (h.put (p := b.toNat) (x := (tgX n b m).1) (by omega) (tgX_rng m hn hb.1)) (hp.put (by rw [h.1]; omega))
   exact ⟨a.mono (by omega),c⟩
theorem tgB_tr {n : Nat} : ∀ (k L : Nat) (b : Int) (to : List (List Int)) (m : Mk),0 ≤ b → b + k = n → TR n L to → PB n to → TR n (L + 2 * k) (tgB n k b to m).1 ∧ PB n (tgB n k b to m).1
 | 0,L,b,to,m,_,_,h,hp => ⟨h,hp⟩
 | k + 1,L,b,to,m,h0,hb,h,hp => by
   rw [tgB]
   have hr := tV9 (n := 6) (by omega) m
   have h1 : TR n (L + 2) (tgI n b (if 1 < (n : Int) then (tVV 6 m - 3).toNat else 0) to (tSS m)).1 ∧ PB n (tgI n b (if 1 < (n : Int) then (tVV 6 m - 3).toNat else 0) to (tSS m)).1 := by
     by_cases hn : 1 < (n : Int)
     · rw [if_pos hn]
       obtain ⟨a,c⟩ := tgI_tr (n := n) (b := b) (by omega) (by omega) (tVV 6 m - 3).toNat L to (tSS m) h hp
       exact ⟨a.mono (by omega),c⟩
     · rw [if_neg hn]; exact ⟨h.mono (by omega),hp⟩
   obtain ⟨a,c⟩ := tgB_tr k (L + 2) (b + 1) _ (tgI n b (if 1 < (n : Int) then (tVV 6 m - 3).toNat else 0) to (tSS m)).2 (by omega) (by omega) h1.1 h1.2
   exact ⟨a.mono (by omega),c⟩
theorem targM_tr {n : Nat} (hn : 1 ≤ n ∧ n ≤ 9) (m : Mk) : TR n 30 (targM n m).1 ∧ PB n (targM n m).1 := by
 have h0 : TR n 0 (List.replicate n []) := ⟨by simp,fun j => by have := rows_rep (n := n) (B := 0) j; exact this,fun j t ht => by
   have h9 := rows_rep (n := n) (B := 0) j
   have h8 : ix (List.replicate n ([] : List Int)) j = [] := List.eq_nil_of_length_eq_zero (by have : (ix (List.replicate n ([] : List Int)) j).length ≤ 0 := h9; omega)
   rw [h8] at ht; cases ht⟩
 have h1 := tgA_tr (n := n) (n - 1) 0 1 (List.replicate n []) m (by omega) (by omega) h0 (fun c h1 h2 => by omega)
 unfold targM targA
 simp only [Int.toNat_natCast]
 obtain ⟨a,c⟩ := tgB_tr (n := n) n (0 + (n - 1)) 0 _ (tgA (n - 1) 1 (List.replicate n []) m).2 (by omega) (by omega) h1.1 h1.2
 exact ⟨a.mono (by omega),c⟩
def gI (n : Int) (i : D.Ins) : Prop := (1 ≤ i.Op ∧ i.Op ≤ 18) ∧ (i.Op = 1 ∨ i.Op = 17 ∨ (i.Op = 15 ∧ 1 ≤ i.Args.length) ∨ 2 ≤ i.Args.length) ∧ i.Args.length ≤ 4 ∧ (∀ a ∈ i.Args,0 ≤ a ∧ a < n) ∧ (∀ d ∈ makes3 i,0 ≤ d ∧ d < n) ∧ (i.Op = 18 → i.Dst ≠ i.Two)
def gT (n : Int) (t : D.Term) : Prop := (1 ≤ t.Kind ∧ t.Kind ≤ 5) ∧ (∀ a ∈ t.Args,0 ≤ a ∧ a < n) ∧ (t.Kind = 1 → t.To.length = 1) ∧ (t.Kind = 2 → t.To.length = 2 ∧ 1 ≤ t.Args.length) ∧ (t.Kind = 3 → 2 ≤ t.To.length ∧ t.To.length ≤ 65 ∧ 1 ≤ t.Args.length) ∧ (4 ≤ t.Kind → t.To = [])
def gP (n : Int) (p : D.Phi) : Prop := (0 ≤ p.Dst ∧ p.Dst < n) ∧ ∀ x ∈ p.In,0 ≤ x.Val ∧ x.Val < n
def gB (n : Int) (x : D.Block) : Prop := (∀ i ∈ x.Ins,gI n i) ∧ (∀ p ∈ x.Phis,gP n p) ∧ (x.Term.Kind = 0 ∨ gT n x.Term) ∧ (x.Phis.map (·.Dst)).Nodup
def cI : List D.Block → Nat
 | [] => 0
 | x :: l => x.Ins.length + cI l
theorem cI_set : ∀ {l : List D.Block} {j d : Nat} {b : D.Block},b.Ins.length ≤ (ix l j).Ins.length + d → cI (l.set j b) ≤ cI l + d
 | [],_,_,_,_ => by simp [cI]
 | x :: l,0,_,b,h => by rw [ix_zero] at h; rw [List.set_cons_zero,cI,cI]; omega
 | x :: l,j + 1,d,b,h => by rw [ix_cons] at h; rw [List.set_cons_succ,cI,cI]; have := cI_set (l := l) h; omega
section
variable {n n' : Int}
theorem gI.mono {i : D.Ins} (h : gI n i) (hn : n ≤ n') : gI n' i := ⟨h.1,h.2.1,h.2.2.1,fun a ha => by have := h.2.2.2.1 a ha; omega,fun a ha => by have := h.2.2.2.2.1 a ha; omega,h.2.2.2.2.2⟩
theorem gT.mono {t : D.Term} (h : gT n t) (hn : n ≤ n') : gT n' t := ⟨h.1,fun a ha => by have := h.2.1 a ha; omega,h.2.2⟩
theorem gP.mono {p : D.Phi} (h : gP n p) (hn : n ≤ n') : gP n' p := ⟨by have := h.1; omega,fun x hx => by have := h.2 x hx; omega⟩
theorem gB.mono {x : D.Block} (h : gB n x) (hn : n ≤ n') : gB n' x := ⟨fun i hi => (h.1 i hi).mono hn,fun i hi => (h.2.1 i hi).mono hn,h.2.2.1.imp id (fun h => h.mono hn),h.2.2.2⟩
end
structure RI (n b c : Nat) (to : List (List Int)) (m : Mk) : Prop where
 len : m.bs.length = n
 par : 0 ≤ m.par ∧ m.par ≤ 4
 nx : m.par ≤ m.nx ∧ m.nx ≤ c
 cnt : cI m.bs ≤ c
 lv : ∀ x ∈ m.lv,0 ≤ x ∧ x < m.nx
 blk : ∀ j,j < n → gB m.nx (ix m.bs j)
 tos : ∀ j,j < n → (ix m.bs j).Term.To = ix to j
 kd : ∀ j,j < b → j < n → (ix m.bs j).Term.Kind ≠ 0
section
variable {n b c d : Nat} {to : List (List Int)} {m : Mk}
theorem RI.mono (h : RI n b c to m) (hc : c ≤ d) : RI n b d to m := ⟨h.len,h.par,by have := h.nx; omega,by have := h.cnt; omega,h.lv,h.blk,h.tos,h.kd⟩
theorem RI.take (h : RI n b c to m) : RI n b c to (tSS m) := ⟨h.len,h.par,h.nx,h.cnt,h.lv,h.blk,h.tos,h.kd⟩
theorem RI.fresh (h : RI n b c to m) : RI n b (c + 1) to (freshS m) where
 len := h.len
 par := h.par
 nx := by have := h.nx; show m.par ≤ m.nx + 1 ∧ m.nx + 1 ≤ _; omega
 cnt := by have := h.cnt; show cI m.bs ≤ _; omega
 lv := fun x hx => by have := h.lv x hx; show 0 ≤ x ∧ x < m.nx + 1; omega
 blk := fun j hj => (h.blk j hj).mono (by show m.nx ≤ m.nx + 1; omega)
 tos := h.tos
 kd := h.kd
theorem RI.add {i : D.Ins} {j : Int} (h : RI n b c to m) (hj : 0 ≤ j ∧ j < n) (hi : gI m.nx i) : RI n b (c + 1) to (addS j i m) where
 len := by show (m.bs.set _ _).length = n; rw [List.length_set]; exact h.len
 par := h.par
 nx := by have := h.nx; show m.par ≤ m.nx ∧ m.nx ≤ _; omega
 cnt := by
   have h1 := cI_set (l := m.bs) (j := j.toNat) (d := 1) (b := { (ix m.bs j.toNat) with Ins := (ix m.bs j.toNat).Ins ++ [i] }) (by dsimp only; rw [List.length_append]; exact Nat.le_refl _)
   have h2 := h.cnt
   show cI (m.bs.set _ _) ≤ _; omega
 lv := fun x hx => by
   rcases List.mem_append.1 (show x ∈ m.lv ++ makes3 i from hx) with h1 | h1
   · exact h.lv x h1
   · exact hi.2.2.2.2.1 x h1
 blk := fun q hq => by
   show gB m.nx (ix (m.bs.set _ _) q)
   rw [ix_set (by rw [h.len]; omega)]; split
   · have h1 := h.blk j.toNat (by omega)
     refine ⟨fun y hy => ?_,h1.2⟩
     rcases List.mem_append.1 hy with h2 | h2
     · exact h1.1 y h2
     · simp at h2; subst h2; exact hi
   · exact h.blk q hq
 tos := fun q hq => by
   show (ix (m.bs.set _ _) q).Term.To = _
   rw [ix_set (by rw [h.len]; omega)]; split
   · rename_i e; subst e; exact h.tos _ hq
   · exact h.tos q hq
 kd := fun q hb hq => by
   show (ix (m.bs.set _ _) q).Term.Kind ≠ 0
   rw [ix_set (by rw [h.len]; omega)]; split
   · rename_i e; subst e; exact h.kd _ hb hq
   · exact h.kd q hb hq
theorem gI_const {n v : Int} {x : Int} (h : 0 ≤ x ∧ x < n) : gI n ⟨1,x,0,[],v⟩ := ⟨(by dsimp only; omega),.inl rfl,Nat.zero_le _,fun a ha => (by cases ha),fun a ha => (by simp [makes3] at ha; subst ha; exact h),fun h => (by simp at h)⟩
theorem gI_two {n op x a b v : Int} (hop : 2 ≤ op ∧ op ≤ 14) (h : 0 ≤ x ∧ x < n) (ha : 0 ≤ a ∧ a < n) (hb : 0 ≤ b ∧ b < n) : gI n ⟨op,x,0,[a,b],v⟩ :=
 ⟨(by dsimp only; omega),.inr (.inr (.inr (Nat.le_refl _))),(by show 2 ≤ 4; omega),fun y hy => (by simp at hy; rcases hy with rfl | rfl <;> assumption),fun y hy => (by
   have : makes3 ⟨op,x,0,[a,b],v⟩ = [x] := by unfold makes3; rw [if_neg (by dsimp only; omega),if_neg (by dsimp only; omega)]
   rw [this] at hy; simp at hy; subst hy; exact h),fun h => (by dsimp only at h; omega)⟩
theorem RI.const {j v : Int} (h : RI n b c to m) (hj : 0 ≤ j ∧ j < n) : RI n b (c + 2) to (constS j v m) := h.fresh.add hj (gI_const (by have := h.nx; have := h.par; show 0 ≤ m.nx ∧ m.nx < m.nx + 1; omega))
theorem nx_const {j v : Int} : (constS j v m).nx = m.nx + 1 := rfl
theorem RI.word (h : RI n b c to m) : RI n b c to (wordS m) := h.take.take
theorem RI.value (h : RI n b c to m) : RI n b c to (valueS m) ∧ (valueS m).nx = m.nx := by unfold valueS; split; exact ⟨h,rfl⟩; exact ⟨h.take.take,rfl⟩
theorem RI.some0 (h : RI n b c to m) : RI n b c to (someM0 m) ∧ (someM0 m).nx = m.nx := by
 unfold someM0; split
 · exact ⟨h.value.1.take,h.value.2⟩
 · exact h.value
theorem RI.nn (h : RI n b c to m) : 0 ≤ m.nx := by have := h.nx; have := h.par; omega
theorem RI.some {j : Int} (h : RI n b c to m) (hj : 0 ≤ j ∧ j < n) : RI n b (c + 2) to (sS9 j m) ∧ m.nx ≤ (sS9 j m).nx ∧ 0 ≤ sV9 m ∧ sV9 m < (sS9 j m).nx := by
 have h0 := h.some0
 have hn := h.nn
 unfold sS9 sV9
 by_cases hc : someC m = true
 · rw [if_pos hc,if_pos hc,nx_const]
   have : (wordS (someM0 m)).nx = m.nx := h0.2
   exact ⟨h0.1.word.const hj,by omega,by omega,by omega⟩
 · rw [if_neg hc,if_neg hc]
   refine ⟨h0.1.mono (by omega),by omega,?_⟩
   rw [h0.2]
   have hv : valueB m = true := by
     cases h9 : valueB m with
     | true => rfl
     | false => exact absurd (by unfold someC; rw [h9]; rfl) hc
   have hl : m.lv.length ≠ 0 := by unfold valueB at hv; simpa using hv
   unfold valueV
   rw [if_neg hl]
   have hr : 0 ≤ valueI m ∧ valueI m < m.lv.length := by
     unfold valueI; split
     · omega
     · exact tV9 (by omega) m
   have := h.lv _ (ix_mem (l := m.lv) (i := (valueI m).toNat) (by omega))
   exact this
theorem RI.me1 {j : Int} (h : RI n b c to m) (hj : 0 ≤ j ∧ j < n) : RI n b (c + 12) to (mem1 j m).2 ∧ m.nx ≤ (mem1 j m).2.nx ∧ 0 ≤ (mem1 j m).1 ∧ (mem1 j m).1 < (mem1 j m).2.nx := by
 have h1 : RI n b (c + 2) to (constS j (IntKind.i32.wrap (tVV 9 m)) (tSS m)) := h.take.const hj
 have hn := h.nn
 unfold mem1
 dsimp only
 split
 · have h2 := h1.take.some hj
   have e2 : (tSS (constS j (IntKind.i32.wrap (tVV 9 m)) (tSS m))).nx = m.nx + 1 := rfl
   generalize tSS (constS j (IntKind.i32.wrap (tVV 9 m)) (tSS m)) = m2 at h2 e2 ⊢
   have h3 := h2.1
   generalize sS9 j m2 = m3 at h2 h3 ⊢
   have h4 : RI n b (c + 6) to (constS j 7 m3) := h3.const hj
   have e4 : (constS j 7 m3).nx = m3.nx + 1 := rfl
   generalize constS j 7 m3 = m4 at h4 e4 ⊢
   have h6 : RI n b (c + 8) to (addS j ⟨5,m4.nx,0,[sV9 m2,m3.nx],0⟩ (freshS m4)) := h4.fresh.add hj (gI_two (by omega) (by show _ ∧ _ < m4.nx + 1; omega) (by show _ ∧ _ < m4.nx + 1; omega) (by show _ ∧ _ < m4.nx + 1; omega))
   have e6 : (addS j ⟨5,m4.nx,0,[sV9 m2,m3.nx],0⟩ (freshS m4)).nx = m4.nx + 1 := rfl
   generalize addS j ⟨5,m4.nx,0,[sV9 m2,m3.nx],0⟩ (freshS m4) = m6 at h6 e6 ⊢
   have et : (tSS m).nx = m.nx := rfl
   refine ⟨(h6.fresh.add hj (gI_two (by omega) (by show _ ∧ _ < m6.nx + 1; omega) (by show _ ∧ _ < m6.nx + 1; omega) (by show _ ∧ _ < m6.nx + 1; omega))).mono (by omega),?_,?_,?_⟩
   · show m.nx ≤ m6.nx + 1; omega
   · show 0 ≤ m6.nx; omega
   · show m6.nx < m6.nx + 1; omega
 · refine ⟨h1.take.mono (by omega),?_,?_,?_⟩
   · show m.nx ≤ m.nx + 1; omega
   · show 0 ≤ m.nx; omega
   · show m.nx < m.nx + 1; omega
theorem RI.me2 (h : RI n b c to m) : RI n b c to (mem2 m).2 ∧ (mem2 m).2.nx = m.nx := by
 unfold mem2; dsimp only; split
 · exact ⟨h.take.take.word,rfl⟩
 · exact ⟨h.take.take,rfl⟩
theorem RI.mem {j : Int} {st : Bool} (h : RI n b c to m) (hj : 0 ≤ j ∧ j < n) : RI n b (c + 15) to (memS j st m) := by
 have h1 := h.me1 hj
 have h2 := h1.1.me2
 unfold memS
 dsimp only
 have hn := h2.1.nn
 split
 · have h3 := h2.1.some hj
   exact h3.1.add hj ⟨(by dsimp only; omega),.inr (.inr (.inr (Nat.le_refl _))),(by show 2 ≤ 4; omega),fun y hy => (by simp at hy; rcases hy with rfl | rfl <;> omega),fun y hy => (by simp [makes3] at hy),fun h => (by simp at h)⟩
 · refine (h2.1.fresh.add hj ⟨(by dsimp only; omega),.inr (.inr (.inl ⟨rfl,Nat.le_refl _⟩)),(by show 1 ≤ 4; omega),fun y hy => (by simp at hy; subst hy; show _ ∧ _ < _ + 1; omega),fun y hy => (by simp [makes3] at hy; subst hy; show _ ∧ _ < _ + 1; omega),fun h => (by simp at h)⟩).mono (by omega)
theorem RI.args {j : Int} (hj : 0 ≤ j ∧ j < n) : ∀ (k : Nat) {c : Nat} (l : List Int) (m : Mk),RI n b c to m → (∀ x ∈ l,0 ≤ x ∧ x < m.nx) → RI n b (c + 2 * k) to (argsL j k l m).2 ∧ m.nx ≤ (argsL j k l m).2.nx ∧ ∀ x ∈ (argsL j k l m).1,0 ≤ x ∧ x < (argsL j k l m).2.nx
 | 0,_,l,m,h,hl => ⟨h,Int.le_refl _,hl⟩
 | k + 1,c,l,m,h,hl => by
   have h1 := h.some hj
   rw [argsL]
   obtain ⟨a,d,e⟩ := RI.args hj k (l ++ [sV9 m]) (sS9 j m) h1.1 (fun x hx => by
     rcases List.mem_append.1 hx with h2 | h2
     · have := hl x h2; omega
     · simp at h2; subst h2; omega)
   exact ⟨a.mono (by omega),by omega,e⟩
theorem op_rng2 {k : Int} (h : 0 ≤ k ∧ k < 12) : 2 ≤ ix [(2 : Int),2,3,4,5,6,7,8,9,10,12,11] k.toNat ∧ ix [(2 : Int),2,3,4,5,6,7,8,9,10,12,11] k.toNat ≤ 14 := by
 have : ∀ i : Nat,i < 12 → 2 ≤ ix [(2 : Int),2,3,4,5,6,7,8,9,10,12,11] i ∧ ix [(2 : Int),2,3,4,5,6,7,8,9,10,12,11] i ≤ 14 := by decide
 exact this _ (by omega)
theorem op3_rng2 {k : Int} (h : 0 ≤ k ∧ k < 3) : 2 ≤ ix [(11 : Int),12,13] k.toNat ∧ ix [(11 : Int),12,13] k.toNat ≤ 14 := by
 have : ∀ i : Nat,i < 3 → 2 ≤ ix [(11 : Int),12,13] i ∧ ix [(11 : Int),12,13] i ≤ 14 := by decide
 exact this _ (by omega)
theorem RI.ins {j : Int} (h : RI n b c to m) (hj : 0 ≤ j ∧ j < n) : RI n b (c + 16) to (insS j m) := by
 have hn := h.nn
 have hk := tV9 (n := 20) (by omega) m
 have h1 : RI n b c to (tSS m) := h.take
 have e1 : (tSS m).nx = m.nx := rfl
 have h2 := h1.some hj
 have h3 := h2.1.some hj
 unfold insS
 dsimp only
 generalize tVV 20 m = k at hk ⊢
 generalize tSS m = m1 at h1 e1 h2 h3 ⊢
 split
 · split
   · have h4 : RI n b (c + 6) to (constS j (IntKind.i32.wrap (tVV 40 (tSS (sS9 j (sS9 j m1))) - 8)) (tSS (tSS (sS9 j (sS9 j m1))))) := h3.1.take.take.const hj
     have e4 : (constS j (IntKind.i32.wrap (tVV 40 (tSS (sS9 j (sS9 j m1))) - 8)) (tSS (tSS (sS9 j (sS9 j m1))))).nx = (sS9 j (sS9 j m1)).nx + 1 := rfl
     have e5 : (tSS (tSS (sS9 j (sS9 j m1)))).nx = (sS9 j (sS9 j m1)).nx := rfl
     generalize constS j (IntKind.i32.wrap (tVV 40 (tSS (sS9 j (sS9 j m1))) - 8)) (tSS (tSS (sS9 j (sS9 j m1)))) = m4 at h4 e4 ⊢
     exact (h4.fresh.add hj (gI_two (op_rng2 (by omega)) (by show _ ∧ _ < m4.nx + 1; omega) (by show _ ∧ _ < m4.nx + 1; omega) (by show _ ∧ _ < m4.nx + 1; omega))).mono (by omega)
   · have e5 : (tSS (sS9 j (sS9 j m1))).nx = (sS9 j (sS9 j m1)).nx := rfl
     exact (h3.1.take.fresh.add hj (gI_two (op_rng2 (by omega)) (by show _ ∧ _ < (sS9 j (sS9 j m1)).nx + 1; omega) (by show _ ∧ _ < (sS9 j (sS9 j m1)).nx + 1; omega) (by show _ ∧ _ < (sS9 j (sS9 j m1)).nx + 1; omega))).mono (by omega)
 split
 · exact (h3.1.fresh.add hj (gI_two (by omega) (by show _ ∧ _ < (sS9 j (sS9 j m1)).nx + 1; omega) (by show _ ∧ _ < (sS9 j (sS9 j m1)).nx + 1; omega) (by show _ ∧ _ < (sS9 j (sS9 j m1)).nx + 1; omega))).mono (by omega)
 split
 · have h4 : RI n b (c + 4) to (constS j (IntKind.i32.wrap (tVV 12 (sS9 j m1))) (tSS (sS9 j m1))) := h2.1.take.const hj
   have e4 : (constS j (IntKind.i32.wrap (tVV 12 (sS9 j m1))) (tSS (sS9 j m1))).nx = (sS9 j m1).nx + 1 := rfl
   have e9 : (tSS (sS9 j m1)).nx = (sS9 j m1).nx := rfl
   generalize constS j (IntKind.i32.wrap (tVV 12 (sS9 j m1))) (tSS (sS9 j m1)) = m4 at h4 e4 ⊢
   split
   · have h5 : RI n b (c + 6) to (constS j (IntKind.i32.wrap (1 + IntKind.i32.wrap (tVV 12 (tSS m4)))) (tSS (tSS m4))) := h4.take.take.const hj
     have e5 : (constS j (IntKind.i32.wrap (1 + IntKind.i32.wrap (tVV 12 (tSS m4)))) (tSS (tSS m4))).nx = m4.nx + 1 := rfl
     have e6 : (tSS (tSS m4)).nx = m4.nx := rfl
     generalize constS j (IntKind.i32.wrap (1 + IntKind.i32.wrap (tVV 12 (tSS m4)))) (tSS (tSS m4)) = m5 at h5 e5 ⊢
     exact (h5.fresh.add hj (gI_two (by omega) (by show _ ∧ _ < m5.nx + 1; omega) (by show _ ∧ _ < m5.nx + 1; omega) (by show _ ∧ _ < m5.nx + 1; omega))).mono (by omega)
   · have e6 : (tSS m4).nx = m4.nx := rfl
     exact (h4.take.fresh.add hj (gI_two (by omega) (by show _ ∧ _ < m4.nx + 1; omega) (by show _ ∧ _ < m4.nx + 1; omega) (by show _ ∧ _ < m4.nx + 1; omega))).mono (by omega)
 split
 · exact (h1.mem hj).mono (by omega)
 split
 · have h5 := tV9 (n := 5) (by omega) m1
   obtain ⟨a,d,e⟩ := RI.args hj (tVV 5 m1).toNat [] (tSS m1) h1.take (fun x hx => by cases hx)
   have hl := args_len (b := j) (tVV 5 m1).toNat [] (tSS m1)
   have hn2 := a.nn
   generalize argsL j (tVV 5 m1).toNat [] (tSS m1) = r at a d e hl hn2 ⊢
   refine ((a.fresh.take).add hj ⟨(by dsimp only; omega),.inr (.inl rfl),(by dsimp only; rw [hl]; simp; omega),fun y hy => ?_,fun y hy => ?_,fun h => (by simp at h)⟩).mono (by omega)
   · have := e y hy; show _ ∧ _ < r.2.nx + 1; omega
   · simp [makes3] at hy; subst hy; show 0 ≤ r.2.nx ∧ r.2.nx < r.2.nx + 1; omega
 split
 · refine (h3.1.fresh.fresh.add hj ⟨(by dsimp only; omega),.inr (.inr (.inr (Nat.le_refl _))),(by show 2 ≤ 4; omega),fun y hy => ?_,fun y hy => ?_,fun _ => ?_⟩).mono (by omega)
   · simp at hy; show _ ∧ _ < (sS9 j (sS9 j m1)).nx + 1 + 1
     rcases hy with rfl | rfl <;> omega
   · simp [makes3] at hy; show _ ∧ _ < (sS9 j (sS9 j m1)).nx + 1 + 1
     have e : (freshS (sS9 j (sS9 j m1))).nx = (sS9 j (sS9 j m1)).nx + 1 := rfl
     rcases hy with rfl | rfl <;> omega
   · show (sS9 j (sS9 j m1)).nx ≠ (sS9 j (sS9 j m1)).nx + 1; omega
 · exact (h1.word.const hj).mono (by omega)
theorem RI.setT {t : D.Term} (h : RI n b c to m) (hb : b < n) (ht : gT m.nx t) (hto : t.To = ix to b) : RI n (b + 1) c to (setT (b : Int) t m) where
 len := by show (m.bs.set _ _).length = n; rw [List.length_set]; exact h.len
 par := h.par
 nx := h.nx
 cnt := by
   have h1 := cI_set (l := m.bs) (j := (b : Int).toNat) (d := 0) (b := { (ix m.bs (b : Int).toNat) with Term := t }) (by dsimp only; omega)
   have h2 := h.cnt
   show cI (m.bs.set _ _) ≤ _; omega
 lv := h.lv
 blk := fun q hq => by
   show gB m.nx (ix (m.bs.set _ _) q)
   rw [ix_set (by rw [h.len]; omega)]; split
   · have h1 := h.blk b hb
     exact ⟨h1.1,h1.2.1,.inr ht,h1.2.2.2⟩
   · exact h.blk q hq
 tos := fun q hq => by
   show (ix (m.bs.set _ _) q).Term.To = _
   rw [ix_set (by rw [h.len]; omega)]; split
   · rename_i e; rw [e]; exact hto
   · exact h.tos q hq
 kd := fun q hb' hq => by
   show (ix (m.bs.set _ _) q).Term.Kind ≠ 0
   rw [ix_set (by rw [h.len]; omega)]; split
   · have := ht.1; show t.Kind ≠ 0; omega
   · rename_i e; exact h.kd q (by simp at e; omega) hq
theorem RI.en (h : RI n b c to m) (hb : b < n) (hL : (ix to b).length ≤ 65) : RI n (b + 1) (c + 8) to (endS (b : Int) (ix to b) m) := by
 have hj : 0 ≤ (b : Int) ∧ (b : Int) < n := by omega
 have hn := h.nn
 unfold endS
 split
 · rename_i h0
   have e0 : ix to b = [] := List.eq_nil_of_length_eq_zero h0
   split
   · exact (h.take.take.setT hb ⟨(by dsimp only; omega),fun a ha => (by cases ha),fun h => (by simp at h),fun h => (by simp at h),fun h => (by simp at h),fun _ => rfl⟩ e0.symm).mono (by omega)
   split
   · have h1 := h.take.some hj
     exact (h1.1.setT hb ⟨(by dsimp only; omega),fun a ha => (by simp at ha; subst ha; omega),fun h => (by simp at h),fun h => (by simp at h),fun h => (by simp at h),fun _ => rfl⟩ e0.symm).mono (by omega)
   · exact (h.take.setT hb ⟨(by dsimp only; omega),fun a ha => (by cases ha),fun h => (by simp at h),fun h => (by simp at h),fun h => (by simp at h),fun _ => rfl⟩ e0.symm).mono (by omega)
 split
 · rename_i h1
   exact (h.setT hb ⟨(by dsimp only; omega),fun a ha => (by cases ha),fun _ => h1,fun h => (by simp at h),fun h => (by simp at h),fun h => (by dsimp only at h; omega)⟩ rfl).mono (by omega)
 split
 · rename_i h2
   have h3 := h.some hj
   dsimp only
   split
   · have h4 := h3.1.take.some hj
     have e4 : (tSS (sS9 (b : Int) m)).nx = (sS9 (b : Int) m).nx := rfl
     have ht := tV9 (n := 3) (by omega) (freshS (sS9 (b : Int) (tSS (sS9 (b : Int) m))))
     have h5 : RI n b (c + 6) to (addS (b : Int) ⟨ix [11,12,13] (tVV 3 (freshS (sS9 (b : Int) (tSS (sS9 (b : Int) m))))).toNat,(sS9 (b : Int) (tSS (sS9 (b : Int) m))).nx,0,[sV9 m,sV9 (tSS (sS9 (b : Int) m))],0⟩ (tSS (freshS (sS9 (b : Int) (tSS (sS9 (b : Int) m)))))) :=
       h4.1.fresh.take.add hj (gI_two (op3_rng2 ht) (by show _ ∧ _ < (sS9 (b : Int) (tSS (sS9 (b : Int) m))).nx + 1; omega) (by show _ ∧ _ < (sS9 (b : Int) (tSS (sS9 (b : Int) m))).nx + 1; omega) (by show _ ∧ _ < (sS9 (b : Int) (tSS (sS9 (b : Int) m))).nx + 1; omega))
     refine (h5.setT hb ⟨(by dsimp only; omega),fun a ha => ?_,fun h => (by simp at h),fun _ => ⟨h2,Nat.le_refl _⟩,fun h => (by simp at h),fun h => (by dsimp only at h; omega)⟩ rfl).mono (by omega)
     simp at ha; subst ha
     show 0 ≤ _ ∧ _ < (sS9 (b : Int) (tSS (sS9 (b : Int) m))).nx + 1; omega
   · refine (h3.1.take.setT hb ⟨(by dsimp only; omega),fun a ha => ?_,fun h => (by simp at h),fun _ => ⟨h2,Nat.le_refl _⟩,fun h => (by simp at h),fun h => (by dsimp only at h; omega)⟩ rfl).mono (by omega)
     simp at ha; subst ha
     show 0 ≤ _ ∧ _ < (sS9 (b : Int) m).nx; omega
 · rename_i h0 h1 h2
   have h3 := h.some hj
   dsimp only
   have h4 : RI n b (c + 4) to (constS (b : Int) 7 (sS9 (b : Int) m)) := h3.1.const hj
   have e4 : (constS (b : Int) 7 (sS9 (b : Int) m)).nx = (sS9 (b : Int) m).nx + 1 := rfl
   generalize constS (b : Int) 7 (sS9 (b : Int) m) = m4 at h4 e4 ⊢
   have h5 : RI n b (c + 6) to (addS (b : Int) ⟨5,m4.nx,0,[sV9 m,(sS9 (b : Int) m).nx],0⟩ (freshS m4)) := h4.fresh.add hj (gI_two (by omega) (by show _ ∧ _ < m4.nx + 1; omega) (by show _ ∧ _ < m4.nx + 1; omega) (by show _ ∧ _ < m4.nx + 1; omega))
   refine (h5.setT hb ⟨(by dsimp only; omega),fun a ha => ?_,fun h => (by simp at h),fun h => (by simp at h),fun _ => ⟨(by dsimp only; omega),hL,Nat.le_refl _⟩,fun h => (by dsimp only at h; omega)⟩ rfl).mono (by omega)
   simp at ha; subst ha
   show 0 ≤ m4.nx ∧ m4.nx < m4.nx + 1; omega
end
section
variable {n b c d : Nat} {to : List (List Int)} {m : Mk}
theorem RI.is (hb : b < n) : ∀ (k : Nat) {c : Nat} {m : Mk},RI n b c to m → RI n b (c + 16 * k) to (insN b k m)
 | 0,_,_,h => h
 | k + 1,_,_,h => (RI.is hb k (h.ins (by omega))).mono (by omega)
theorem numsL_mem {k : Nat} {x : Int} (h : x ∈ numsL k) : 0 ≤ x ∧ x < k := by
 unfold numsL at h
 obtain ⟨i,h1,rfl⟩ := List.mem_map.1 h
 have := List.mem_range.1 h1; omega
theorem RI.lm {dn : List Bool} (h : RI n b c to m) : RI n b c to (lvM n b dn m) where
 len := h.len
 par := h.par
 nx := h.nx
 cnt := h.cnt
 lv := fun x hx => by
   show 0 ≤ x ∧ x < m.nx
   rcases List.mem_append.1 (show x ∈ numsL m.par.toNat ++ (List.range n).flatMap (fun i => lvB (fnM m) dn b i) from hx) with h1 | h1
   · have := numsL_mem h1; have := h.nx; have := h.par; omega
   · obtain ⟨a,h2,h3⟩ := List.mem_flatMap.1 h1
     have ha := List.mem_range.1 h2
     have hg := h.blk a ha
     unfold lvB at h3
     split at h3
     · cases h3
     · rcases List.mem_append.1 h3 with h4 | h4
       · obtain ⟨p,h5,rfl⟩ := List.mem_map.1 h4
         exact (hg.2.1 p h5).1
       · obtain ⟨i,h5,h6⟩ := List.mem_flatMap.1 h4
         exact (hg.1 i h5).2.2.2.2.1 x h6
 blk := h.blk
 tos := h.tos
 kd := h.kd
theorem RI.bl {dn : List Bool} (h : RI n b c to m) (hb : b < n) (hL : ∀ j,(ix to j).length ≤ 65) : RI n (b + 1) (c + 120) to (blkM n to b dn m) := by
 unfold blkM
 have h7 := tV9 (n := 7) (by omega) (lvM n b dn m)
 exact (((h.lm (dn := dn)).take.is hb _).en hb (hL b)).mono (by omega)
theorem RI.parent (h : RI n b c to m) (hP : PB n to) : Parent (fnM m).Blocks.length (fun j => (ix (fnM m).Blocks j).Term.To) := fun q h1 h2 => by
 have h2' : q < n := by have := h.len; have e : (fnM m).Blocks = m.bs := rfl; rw [e] at h2; omega
 obtain ⟨p,h3,h4⟩ := hP q h1 (by omega)
 refine ⟨p,h3,?_⟩
 show (q : Int) ∈ (ix m.bs p).Term.To
 rw [h.tos p (by omega)]; exact h4
theorem RI.ready {dn : List Bool} (h : RI n b c to m) (hP : PB n to) (hb : b < n) (hd : ∀ j,j < n → ix dn j = decide (j < b)) : readyF (fnM m) dn b n = true := by
 unfold readyF
 rw [hd b hb,Bool.and_eq_true]
 refine ⟨by simp,List.all_eq_true.2 fun a ha => ?_⟩
 have ha' := List.mem_range.1 ha
 unfold okA
 rcases Nat.lt_trichotomy a b with h1 | h1 | h1
 · rw [hd a ha']; simp [h1]
 · simp [h1]
 · rw [reach3_low (h.parent hP) b h1 (by show b < m.bs.length; rw [h.len]; exact hb)]; simp
theorem RI.row (hP : PB n to) (hL : ∀ j,(ix to j).length ≤ 65) : ∀ (k b c : Nat) (dn : List Bool) (m : Mk),b + k = n → dn.length = n → (∀ j,j < n → ix dn j = decide (j < b)) → RI n b c to m →
   RI n n (c + 120 * k) to (rowS n to k b dn m).2 ∧ ∀ j,j < n → ix (rowS n to k b dn m).1 j = true
 | 0,b,c,dn,m,hb,hl,hd,h => by
   have e : b = n := by omega
   subst e
   exact ⟨h,fun j hj => by show ix dn j = true; rw [hd j hj]; simpa using hj⟩
 | k + 1,b,c,dn,m,hb,hl,hd,h => by
   rw [rowS,if_pos (h.ready hP (by omega) hd)]
   obtain ⟨x,y⟩ := RI.row hP hL k (b + 1) (c + 120) (dn.set b true) (blkM n to b (dn.set b true) m) (by omega) (by rw [List.length_set]; exact hl) (fun j hj => by
     rw [ix_set (by omega)]; split
     · rename_i e; subst e; simp
     · rename_i e; rw [hd j hj,decide_eq_decide]; omega) (h.bl (by omega) hL)
   exact ⟨x.mono (by omega),y⟩
theorem row_idle : ∀ (k b : Nat) (dn : List Bool) (m : Mk),b + k = n → (∀ j,j < n → ix dn j = true) → rowS n to k b dn m = (dn,m)
 | 0,_,_,_,_,_ => rfl
 | k + 1,b,dn,m,hb,h => by
   rw [rowS,if_neg (by unfold readyF; rw [h b (by omega)]; simp)]
   exact row_idle k (b + 1) dn m (by omega) h
theorem turn_idle : ∀ (k : Nat) (dn : List Bool) (m : Mk),(∀ j,j < n → ix dn j = true) → turnS n to k dn m = (dn,m)
 | 0,_,_,_ => rfl
 | k + 1,dn,m,h => by rw [turnS,row_idle n 0 dn m (by omega) h]; exact turn_idle k dn m h
theorem RI.turn (hP : PB n to) (hL : ∀ j,(ix to j).length ≤ 65) (hn : 0 < n) (h : RI n 0 c to m) : RI n n (c + 120 * n) to (turnS n to n (List.replicate n false) m).2 := by
 obtain ⟨k,rfl⟩ : ∃ k,n = k + 1 := ⟨n - 1,by omega⟩
 rw [turnS]
 obtain ⟨x,y⟩ := RI.row hP hL (k + 1) 0 c (List.replicate (k + 1) false) m (by omega) (by simp) (fun j hj => by rw [ix_rep]; simp) h
 rw [turn_idle k _ _ y]
 exact x
theorem RI.ap {j : Nat} (h : RI n b c to m) (hj : j < n) : RI n b (c + 1) to (addP j m) where
 len := by show (m.bs.set _ _).length = n; rw [List.length_set]; exact h.len
 par := h.par
 nx := by have := h.nx; show m.par ≤ m.nx + 1 ∧ m.nx + 1 ≤ _; omega
 cnt := by
   have h1 : cI (addP j m).bs ≤ cI m.bs + 0 := cI_set (l := m.bs) (j := j) (d := 0) (by exact Nat.le_refl _)
   have h2 := h.cnt
   omega
 lv := fun x hx => by have := h.lv x hx; show 0 ≤ x ∧ x < m.nx + 1; omega
 blk := fun q hq => by
   have hn := h.nn
   show gB (m.nx + 1) (ix (m.bs.set _ _) q)
   rw [ix_set (by rw [h.len]; omega)]; split
   · have h0 := h.blk j hj
     have h1 := h0.mono (show m.nx ≤ m.nx + 1 by omega)
     refine ⟨h1.1,fun p hp => ?_,h1.2.2.1,?_⟩
     · rcases List.mem_append.1 (show p ∈ (ix m.bs j).Phis ++ [⟨m.nx,[]⟩] from hp) with h2 | h2
       · exact h1.2.1 p h2
       · simp at h2; subst h2; exact ⟨by dsimp only; omega,fun x hx => by cases hx⟩
     · show (((ix m.bs j).Phis ++ [(⟨m.nx,[]⟩ : D.Phi)]).map (fun p => p.Dst)).Nodup
       rw [List.map_append,List.nodup_append]
       refine ⟨h0.2.2.2,by simp,fun a ha x hx => ?_⟩
       simp at hx; subst hx
       obtain ⟨p,h3,rfl⟩ := List.mem_map.1 ha
       have := (h0.2.1 p h3).1; omega
   · exact (h.blk q hq).mono (by omega)
 tos := fun q hq => by
   show (ix (m.bs.set _ _) q).Term.To = _
   rw [ix_set (by rw [h.len]; omega)]; split
   · rename_i e; subst e; exact h.tos _ hq
   · exact h.tos q hq
 kd := fun q hb hq => by
   show (ix (m.bs.set _ _) q).Term.Kind ≠ 0
   rw [ix_set (by rw [h.len]; omega)]; split
   · rename_i e; subst e; exact h.kd _ hb hq
   · exact h.kd q hb hq
theorem RI.pn {j : Nat} (hj : j < n) : ∀ (k : Nat) {c : Nat} {m : Mk},RI n b c to m → RI n b (c + k) to (phiN j k m)
 | 0,_,_,h => h
 | k + 1,_,_,h => (RI.pn hj k (h.ap hj)).mono (by omega)
theorem RI.ps : ∀ (k j c : Nat) (ph : List Int) (m : Mk),j + k = n → ph.length = n → (∀ j,0 ≤ ix ph j ∧ ix ph j ≤ 3) → phiOK j ph m → RI n b c to m →
   RI n b (c + 3 * k) to (phiS k j ph m).2 ∧ phiOK n (phiS k j ph m).1 (phiS k j ph m).2 ∧ ∀ i,0 ≤ ix (phiS k j ph m).1 i ∧ ix (phiS k j ph m).1 i ≤ 3
 | 0,j,c,ph,m,hj,hl,hr,ho,h => by
   have e : j = n := by omega
   subst e; exact ⟨h,ho,hr⟩
 | k + 1,j,c,ph,m,hj,hl,hr,ho,h => by
   have hr' := phiR_rng (b := j) (m := m) hr
   have h1 : RI n b (c + 3) to (phiN j (ix (phiR j ph m) j).toNat (tSS m)) := (h.take.pn (j := j) (by omega) _).mono (by have := hr' j; omega)
   have h2 := phi_step ho (by rw [h.len]; omega) (by omega) (rfl : phiR j ph m = phiR j ph m)
   obtain ⟨a,d,e⟩ := RI.ps k (j + 1) (c + 3) (phiR j ph m) _ (by omega) (by rw [phiR_len]; exact hl) hr' h2 h1
   rw [phiS]
   exact ⟨a.mono (by omega),d,e⟩
theorem pl_toS (to : List (List Int)) : ∀ (k b : Nat) (m : Mk),pl (toS to k b m) = pl m
 | 0,_,_ => rfl
 | k + 1,b,m => (pl_toS to k (b + 1) _).trans pl_setTo
theorem toS_bs (to : List (List Int)) : ∀ (k b : Nat) (m : Mk),(toS to k b m).bs.length = m.bs.length ∧ (toS to k b m).nx = m.nx ∧ (toS to k b m).par = m.par ∧ (toS to k b m).lv = m.lv ∧
   ∀ j,j < m.bs.length → ix (toS to k b m).bs j = if b ≤ j ∧ j < b + k then { (ix m.bs j) with Term := { (ix m.bs j).Term with To := ix to j } } else ix m.bs j
 | 0,b,m => ⟨rfl,rfl,rfl,rfl,fun j hj => by rw [if_neg (by omega)]; rfl⟩
 | k + 1,b,m => by
   obtain ⟨a1,a2,a3,a4,a5⟩ := toS_bs to k (b + 1) (setTo b (ix to b) m)
   have e : (setTo b (ix to b) m).bs.length = m.bs.length := by show (m.bs.set _ _).length = _; simp
   rw [toS]
   refine ⟨a1.trans e,a2,a3,a4,fun j hj => ?_⟩
   rw [a5 j (by rw [e]; exact hj)]
   have e2 : ∀ j,ix (setTo b (ix to b) m).bs j = if j = b then (if b < m.bs.length then { (ix m.bs b) with Term := { (ix m.bs b).Term with To := ix to b } } else ix m.bs b) else ix m.bs j := by
     intro j
     show ix (m.bs.set _ _) j = _
     by_cases hb : b < m.bs.length
     · rw [ix_set hb,if_pos hb]
     · rw [List.set_eq_of_length_le (by omega),if_neg hb]; split; (· rename_i e9; rw [e9]); rfl
   rw [e2 j]
   by_cases h1 : j = b
   · subst h1
     rw [if_neg (by omega),if_pos rfl,if_pos hj,if_pos (by omega)]
   · rw [if_neg h1]
     by_cases h2 : b ≤ j ∧ j < b + (k + 1)
     · rw [if_pos (by omega),if_pos h2]
     · rw [if_neg (by omega),if_neg h2]
theorem ix_repD (n j : Nat) : ix (List.replicate n (default : D.Block)) j = default := by by_cases hj : j < n <;> simp [ix,hj]
theorem cI_def : ∀ (l : List D.Block),(∀ j,j < l.length → (ix l j).Ins = []) → cI l = 0
 | [],_ => rfl
 | x :: l,h => by
   have h0 := h 0 (by simp)
   rw [ix_zero] at h0
   rw [cI,h0,cI_def l (fun j hj => by have := h (j + 1) (by simpa using hj); rwa [ix_cons] at this)]; rfl
theorem mdB_RI (s : List Int) : RI (mdN s).toNat 0 4 (mdT s).1 (mdB s) ∧ TR (mdN s).toNat 30 (mdT s).1 ∧ PB (mdN s).toNat (mdT s).1 ∧ (1 ≤ (mdN s).toNat ∧ (mdN s).toNat ≤ 9) ∧ phiOK 1 (List.replicate (mdN s).toNat 0) (mdB s) := by
 have h9 := tV9 (n := 9) (by omega) (md0 s)
 have hN : 1 ≤ mdN s ∧ mdN s ≤ 9 := by unfold mdN; omega
 have h5 := tV9 (n := 5) (by omega) ⟨s,0,0,[],0,[]⟩
 obtain ⟨t1,t2⟩ := targM_tr (n := (mdN s).toNat) (by omega) (tSS (md0 s))
 rw [show (((mdN s).toNat : Nat) : Int) = mdN s by omega] at t1 t2
 have hsame : (mdT s).2.nx = tVV 5 ⟨s,0,0,[],0,[]⟩ ∧ (mdT s).2.par = tVV 5 ⟨s,0,0,[],0,[]⟩ ∧ (mdT s).2.lv = [] := by
   obtain ⟨q,hk⟩ := targM_k (mdN s) (tSS (md0 s))
   have e : (mdT s).2 = { (tSS (md0 s)) with k := q } := hk
   rw [e]; exact ⟨rfl,rfl,rfl⟩
 obtain ⟨a1,a2,a3,a4,a5⟩ := toS_bs (mdT s).1 (mdN s).toNat 0 { (mdT s).2 with bs := List.replicate (mdN s).toNat default }
 have hlen : (List.replicate (mdN s).toNat (default : D.Block)).length = (mdN s).toNat := by simp
 have hb : ∀ j,j < (mdN s).toNat → ix (mdB s).bs j = { (default : D.Block) with Term := { (default : D.Block).Term with To := ix (mdT s).1 j } } := fun j hj => by
   have := a5 j (by show j < (List.replicate _ _).length; rw [hlen]; exact hj)
   rw [if_pos (by omega)] at this
   dsimp only at this
   rw [ix_repD] at this
   exact this
 have hpar : (mdB s).par = tVV 5 ⟨s,0,0,[],0,[]⟩ := a3.trans hsame.2.1
 have hnx : (mdB s).nx = tVV 5 ⟨s,0,0,[],0,[]⟩ := a2.trans hsame.1
 refine ⟨⟨a1.trans hlen,by rw [hpar]; omega,by rw [hpar,hnx]; omega,?_,fun x hx => ?_,fun j hj => ?_,fun j hj => by rw [hb j hj],fun j hj => by omega⟩,t1,by rw [show (((mdN s).toNat : Nat) : Int) = mdN s by omega]; exact t2,by omega,?_⟩
 · rw [cI_def _ (fun j hj => by rw [hb j (by rw [← hlen,← a1]; exact hj)]; rfl)]; omega
 · have e : (mdB s).lv = [] := a4.trans hsame.2.2
   rw [e] at hx; cases hx
 · rw [hb j hj]; exact ⟨fun i hi => (by cases hi),fun p hp => (by cases hp),.inl rfl,by show ([] : List Int).Nodup; simp⟩
 · refine phi_start (m' := { (mdT s).2 with bs := List.replicate (mdN s).toNat default }) ?_ rfl
   exact pl_toS _ _ _ _
end
def pT (to : List (List Int)) : Nat → Int → List Int
 | 0,_ => []
 | k + 1,b => pT to k b ++ (if (ix to k).any (fun y => decide (y = b)) then [(k : Int)] else [])
theorem preds_pT {bs : List D.Block} {to : List (List Int)} : ∀ (k : Nat) (b : Int),(∀ j,j < k → (ix bs j).Term.To = ix to j) → predsT3 bs k b = pT to k b
 | 0,_,_ => rfl
 | k + 1,b,h => by rw [predsT3,pT,preds_pT k b (fun j hj => h j (by omega)),h k (by omega)]
theorem pT_rng {to : List (List Int)} : ∀ (k : Nat) (b : Int),∀ x ∈ pT to k b,0 ≤ x ∧ x < k
 | 0,_,x,h => by cases h
 | k + 1,b,x,h => by
   rw [pT] at h
   rcases List.mem_append.1 h with h1 | h1
   · have := pT_rng k b x h1; omega
   · split at h1
     · simp at h1; omega
     · cases h1
theorem pT_len {to : List (List Int)} : ∀ (k : Nat) (b : Int),(pT to k b).length ≤ k
 | 0,_ => Nat.le_refl _
 | k + 1,b => by rw [pT,List.length_append]; have := pT_len (to := to) k b; split <;> simp <;> omega
def fr (m : Mk) (j : Nat) : List (List Int) := (ix m.bs j).Phis.map (fun p => p.In.map (fun x => x.From))
theorem fr_add {j : Int} {i : D.Ins} {m : Mk} (q : Nat) : fr (addS j i m) q = fr m q := by
 show (ix (m.bs.set _ _) q).Phis.map _ = _
 by_cases hj : j.toNat < m.bs.length
 · rw [ix_set hj]; split
   · rename_i e; rw [e]; rfl
   · rfl
 · rw [List.set_eq_of_length_le (by omega)]; rfl
section
variable {n b c d : Nat} {to : List (List Int)} {m : Mk}
theorem blL_mem {nx : Int} : ∀ (l : List D.Block) (k : Nat),(∀ x ∈ l,gB nx x) → ∀ t ∈ blL k l,∀ x ∈ t.Makes,0 ≤ x ∧ x < nx
 | [],_,_,t,ht,_,_ => by cases ht
 | y :: l,k,h,t,ht,x,hx => by
   have hy := h y (by simp)
   rw [blL] at ht
   rcases List.mem_append.1 ht with h1 | h1
   · have : ∀ (ps : List D.Phi) (i : Nat),(∀ p ∈ ps,gP nx p) → t ∈ phL k i ps → 0 ≤ x ∧ x < nx := by
       intro ps
       induction ps with
       | nil => intro i _ h; cases h
       | cons p ps ih =>
         intro i hp h
         rw [phL] at h
         rcases List.mem_cons.1 h with rfl | h
         · simp [phT] at hx; subst hx; exact (hp p (by simp)).1
         · exact ih _ (fun q hq => hp q (by simp [hq])) h
     exact this _ _ hy.2.1 h1
   · rcases List.mem_append.1 h1 with h1 | h1
     · have : ∀ (ps : List D.Ins) (i : Nat),(∀ p ∈ ps,gI nx p) → t ∈ inL k i ps → 0 ≤ x ∧ x < nx := by
         intro ps
         induction ps with
         | nil => intro i _ h; cases h
         | cons p ps ih =>
           intro i hp h
           rw [inL] at h
           rcases List.mem_cons.1 h with rfl | h
           · exact (hp p (by simp)).2.2.2.2.1 x hx
           · exact ih _ (fun q hq => hp q (by simp [hq])) h
       exact this _ _ hy.1 h1
     · rcases List.mem_cons.1 h1 with rfl | h1
       · cases hx
       · exact blL_mem l (k + 1) (fun z hz => h z (by simp [hz])) t h1 x hx
theorem RI.all (h : RI n b c to m) : ∀ x ∈ m.bs,gB m.nx x := fun x hx => by
 obtain ⟨j,hj,e⟩ := List.getElem_of_mem hx
 have := h.blk j (by rw [← h.len]; exact hj)
 rw [ix_eq hj,e] at this; exact this
theorem RI.stand {p : Int} (h : RI n b c to m) : ∀ x ∈ stand3 (fnM m) p,0 ≤ x ∧ x < m.nx := fun x hx => by
 rcases List.mem_append.1 hx with h1 | h1
 · have := numsL_mem h1
   have e : (fnM m).Params = m.par := rfl
   rw [e] at this; have := h.nx; have := h.par; omega
 · obtain ⟨t,h2,h3⟩ := List.mem_flatMap.1 h1
   split at h3
   · exact blL_mem m.bs 0 h.all t h2 x h3
   · cases h3
theorem RI.ix0 {p : Int} (h : RI n b c to m) (hp : 0 ≤ p ∧ p < n) : RI n b (c + 2) to (inX p m).2 ∧ m.nx ≤ (inX p m).2.nx ∧ (inX p m).1.From = p ∧ (0 ≤ (inX p m).1.Val ∧ (inX p m).1.Val < (inX p m).2.nx) ∧ ∀ q,fr (inX p m).2 q = fr m q := by
 have hn := h.nn
 unfold inX
 split
 · have h1 := tV9 (n := 1) (by omega) (constS p (wordV m) (wordS m))
   refine ⟨(h.word.const hp).take,?_,rfl,?_,fun q => (fr_add (m := freshS (wordS m)) q)⟩
   · show m.nx ≤ m.nx + 1; omega
   · dsimp only
     rw [show tVV 1 (constS p (wordV m) (wordS m)) = 0 by omega]
     show 0 ≤ m.nx ∧ m.nx < m.nx + 1; omega
 · rename_i h0
   have h1 := tV9 (n := (stand3 (fnM m) p).length) (by omega) m
   refine ⟨h.take.mono (by omega),Int.le_refl _,rfl,?_,fun q => rfl⟩
   exact h.stand (p := p) _ (ix_mem (by omega))
theorem RI.is0 {p : List Int} (hp : ∀ x ∈ p,0 ≤ x ∧ x < n) : ∀ (k i : Nat) {c : Nat} (l : List D.In) (m : Mk),i + k = p.length → RI n b c to m → (∀ x ∈ l,0 ≤ x.Val ∧ x.Val < m.nx) → l.map (fun x => x.From) = p.take i →
   RI n b (c + 2 * k) to (inS p k i l m).2 ∧ m.nx ≤ (inS p k i l m).2.nx ∧ (∀ x ∈ (inS p k i l m).1,0 ≤ x.Val ∧ x.Val < (inS p k i l m).2.nx) ∧ (inS p k i l m).1.map (fun x => x.From) = p ∧ ∀ q,fr (inS p k i l m).2 q = fr m q
 | 0,i,_,l,m,hi,h,hl,hf => ⟨h,Int.le_refl _,hl,by rw [inS,hf,List.take_of_length_le (by omega)],fun q => rfl⟩
 | k + 1,i,c,l,m,hi,h,hl,hf => by
   obtain ⟨a1,a2,a3,a4,a5⟩ := h.ix0 (p := ix p i) (hp _ (ix_mem (by omega)))
   obtain ⟨b1,b2,b3,b4,b5⟩ := RI.is0 hp k (i + 1) (l ++ [(inX (ix p i) m).1]) (inX (ix p i) m).2 (by omega) a1 (fun x hx => by
     rcases List.mem_append.1 hx with h1 | h1
     · have := hl x h1; omega
     · simp at h1; subst h1; exact a4) (by rw [List.map_append,hf,take_ix (by omega)]; simp [a3])
   rw [inS]
   exact ⟨b1.mono (by omega),by omega,b3,b4,fun q => (b5 q).trans (a5 q)⟩
theorem nodup_put {ps : List D.Phi} {i : Nat} {l : List D.In} : (ps.set i { (ix ps i) with In := l }).map (fun p => p.Dst) = ps.map (fun p => p.Dst) := by
 by_cases hi : i < ps.length
 · rw [List.map_set]
   have : (ps.map (fun p => p.Dst))[i]'(by simpa using hi) = (ix ps i).Dst := by rw [ix_eq hi]; simp
   rw [show ({ (ix ps i) with In := l } : D.Phi).Dst = (ps.map (fun p => p.Dst))[i]'(by simpa using hi) from this.symm]
   exact List.set_getElem_self _
 · rw [List.set_eq_of_length_le (by omega)]
theorem RI.pi0 {j i : Nat} {l : List D.In} (h : RI n b c to m) (hj : j < n) (hl : ∀ x ∈ l,0 ≤ x.Val ∧ x.Val < m.nx) : RI n b c to (putIn j i l m) where
 len := by show (m.bs.set _ _).length = n; rw [List.length_set]; exact h.len
 par := h.par
 nx := h.nx
 cnt := by
   have h1 : cI (putIn j i l m).bs ≤ cI m.bs + 0 := cI_set (l := m.bs) (j := j) (d := 0) (by exact Nat.le_refl _)
   have h2 := h.cnt
   omega
 lv := h.lv
 blk := fun q hq => by
   show gB m.nx (ix (m.bs.set _ _) q)
   rw [ix_set (by rw [h.len]; omega)]; split
   · have h0 := h.blk j hj
     refine ⟨h0.1,fun p hp => ?_,h0.2.2.1,?_⟩
     · rcases List.mem_or_eq_of_mem_set hp with h2 | h2
       · exact h0.2.1 p h2
       · by_cases hi : i < (ix m.bs j).Phis.length
         · subst h2; exact ⟨(h0.2.1 _ (ix_mem hi)).1,hl⟩
         · rw [List.set_eq_of_length_le (by omega)] at hp; exact h0.2.1 p hp
     · show (((ix m.bs j).Phis.set i _).map (fun p => p.Dst)).Nodup
       rw [nodup_put]; exact h0.2.2.2
   · exact h.blk q hq
 tos := fun q hq => by
   show (ix (m.bs.set _ _) q).Term.To = _
   rw [ix_set (by rw [h.len]; omega)]; split
   · rename_i e; subst e; exact h.tos _ hq
   · exact h.tos q hq
 kd := fun q hb hq => by
   show (ix (m.bs.set _ _) q).Term.Kind ≠ 0
   rw [ix_set (by rw [h.len]; omega)]; split
   · rename_i e; subst e; exact h.kd _ hb hq
   · exact h.kd q hb hq
theorem fr_put {j i : Nat} {l : List D.In} (hj : j < m.bs.length) (q : Nat) : fr (putIn j i l m) q = if q = j then (fr m j).set i (l.map (fun x => x.From)) else fr m q := by
 show (ix (m.bs.set _ _) q).Phis.map _ = _
 rw [ix_set hj]; split
 · show ((ix m.bs j).Phis.set i _).map _ = _
   rw [List.map_set]; rfl
 · rfl
theorem RI.ip0 {p : List Int} {j : Nat} (hp : ∀ x ∈ p,0 ≤ x ∧ x < n) (h9 : p.length ≤ 9) (hj : j < n) : ∀ (k i : Nat) {c : Nat} (m : Mk),RI n b c to m →
   RI n b (c + 18 * k) to (inP p j k i m) ∧ (∀ q,q ≠ j → fr (inP p j k i m) q = fr m q) ∧ (fr (inP p j k i m) j).length = (fr m j).length ∧
   ∀ i',i' < (fr m j).length → ix (fr (inP p j k i m) j) i' = if i ≤ i' ∧ i' < i + k then p else ix (fr m j) i'
 | 0,i,_,m,h => ⟨h,fun _ _ => rfl,rfl,fun i' _ => by rw [if_neg (by omega)]; rfl⟩
 | k + 1,i,c,m,h => by
   obtain ⟨a1,a2,a3,a4,a5⟩ := RI.is0 hp p.length 0 [] m (by omega) h (fun x hx => by cases hx) rfl
   have h2 := a1.pi0 (i := i) hj a3
   obtain ⟨b1,b2,b3,b4⟩ := RI.ip0 hp h9 hj k (i + 1) _ h2
   have e := fr_put (m := (inS p p.length 0 [] m).2) (i := i) (l := (inS p p.length 0 [] m).1) (by rw [a1.len]; exact hj)
   rw [inP]
   have ej := e j
   rw [if_pos rfl,a5 j,a4] at ej
   refine ⟨b1.mono (by omega),fun q hq => by rw [b2 q hq,e q,if_neg hq]; exact a5 q,by rw [b3,ej,List.length_set],fun i' hi' => ?_⟩
   rw [b4 i' (by rw [ej,List.length_set]; exact hi'),ej]
   by_cases h1 : i + 1 ≤ i' ∧ i' < i + 1 + k
   · rw [if_pos h1,if_pos (by omega)]
   · rw [if_neg h1]
     by_cases h3 : i' = i
     · subst h3; rw [ix_set hi',if_pos rfl,if_pos (by omega)]
     · by_cases h4 : i < (fr m j).length
       · rw [ix_set h4,if_neg h3,if_neg (by omega)]
       · rw [List.set_eq_of_length_le (by omega),if_neg (by omega)]
theorem RI.fi0 {ph : List Int} (hn9 : n ≤ 9) (hr : ∀ i,0 ≤ ix ph i ∧ ix ph i ≤ 3) : ∀ (k j : Nat) {c : Nat} (m : Mk),j + k = n → RI n b c to m → (∀ q,q < n → (fr m q).length = (ix ph q).toNat) → (∀ q,q < j → ∀ x ∈ fr m q,x = pT to n q) →
   RI n b (c + 54 * k) to (finS ph k j m) ∧ ∀ q,q < n → ∀ x ∈ fr (finS ph k j m) q,x = pT to n q
 | 0,j,_,m,hj,h,hl,hd => ⟨h,fun q hq x hx => hd q (by omega) x hx⟩
 | k + 1,j,c,m,hj,h,hl,hd => by
   have hpe : pd3 (fnM m) (j : Int) = pT to n (j : Int) := by
     show predsT3 m.bs m.bs.length _ = _
     rw [h.len]; exact preds_pT n _ (fun q hq => h.tos q hq)
   obtain ⟨b1,b2,b3,b4⟩ := RI.ip0 (p := pT to n (j : Int)) (j := j) (fun x hx => pT_rng n _ x hx) (Nat.le_trans (pT_len n _) hn9) (by omega) (ix ph j).toNat 0 m h
   rw [finS,hpe]
   obtain ⟨d1,d2⟩ := RI.fi0 hn9 hr k (j + 1) (c := c + 54) (inP (pT to n (j : Int)) j (ix ph j).toNat 0 m) (by omega) (b1.mono (by have := hr j; omega)) (fun q hq => by
     by_cases e : q = j
     · subst e; rw [b3]; exact hl q hq
     · rw [b2 q e]; exact hl q hq) (fun q hq x hx => by
     by_cases e : q = j
     · subst e
       obtain ⟨i,hi,e2⟩ := List.getElem_of_mem hx
       rw [b3] at hi
       have := b4 i hi
       have hlq := hl q (by omega)
       rw [if_pos (by omega),ix_eq (by rw [b3]; exact hi),e2] at this
       exact this
     · rw [b2 q e] at hx; exact hd q (by omega) x hx)
   exact ⟨d1.mono (by omega),d2⟩
end
theorem pl_row {n : Nat} {to : List (List Int)} : ∀ (k b : Nat) (dn : List Bool) (m : Mk),pl (rowS n to k b dn m).2 = pl m
 | 0,_,_,_ => rfl
 | k + 1,b,dn,m => by
   rw [rowS]; split
   · refine (pl_row k _ _ _).trans ?_
     unfold blkM
     exact pl_end.trans (pl_insN _ _)
   · exact pl_row k _ _ _
theorem pl_turn {n : Nat} {to : List (List Int)} : ∀ (k : Nat) (dn : List Bool) (m : Mk),pl (turnS n to k dn m).2 = pl m
 | 0,_,_ => rfl
 | k + 1,dn,m => by rw [turnS]; exact (pl_turn k _ _).trans (pl_row _ _ _ _)
theorem pl_inX {p : Int} {m : Mk} : pl (inX p m).2 = pl m := by unfold inX; split; exact pl_const (m := wordS m); rfl
theorem pl_inS {p : List Int} : ∀ (k i : Nat) (l : List D.In) (m : Mk),pl (inS p k i l m).2 = pl m
 | 0,_,_,_ => rfl
 | k + 1,i,l,m => by rw [inS]; exact (pl_inS k _ _ _).trans pl_inX
theorem pl_inP {p : List Int} {j : Nat} : ∀ (k i : Nat) (m : Mk),pl (inP p j k i m) = pl m
 | 0,_,_ => rfl
 | k + 1,i,m => by rw [inP]; exact (pl_inP k _ _).trans (pl_putIn.trans (pl_inS _ _ _ _))
theorem pl_fin {ph : List Int} : ∀ (k j : Nat) (m : Mk),pl (finS ph k j m) = pl m
 | 0,_,_ => rfl
 | k + 1,j,m => by rw [finS]; exact (pl_fin k _ _).trans (pl_inP _ _ _)
theorem ix_rep0 {n j : Nat} : ix (List.replicate n (0 : Int)) j = 0 := by by_cases hj : j < n <;> simp [ix,hj]
theorem phiR_ne {b j : Nat} {ph : List Int} {m : Mk} (h : j ≠ b) : ix (phiR b ph m) j = ix ph j := by
 have : ∀ x : Int,ix (ph.set b x) j = ix ph j := fun x => by
   by_cases hb : b < ph.length
   · rw [ix_set hb,if_neg h]
   · rw [List.set_eq_of_length_le (by omega)]
 unfold phiR; (repeat' split) <;> first | rfl | exact this _
theorem phiS_zero : ∀ (k j : Nat) (ph : List Int) (m : Mk),1 ≤ j → ix ph 0 = 0 → ix (phiS k j ph m).1 0 = 0
 | 0,_,_,_,_,h => h
 | k + 1,j,ph,m,hj,h => by rw [phiS]; exact phiS_zero k (j + 1) _ _ (by omega) (by rw [phiR_ne (by omega)]; exact h)
structure Right3 (n : Nat) (to : List (List Int)) (f : D.Func) (nx : Int) : Prop where
 n1 : 1 ≤ n ∧ n ≤ 9
 len : f.Blocks.length = n
 par : 0 ≤ f.Params ∧ f.Params ≤ 4
 nxb : f.Params ≤ nx ∧ nx ≤ 1560
 cnt : cI f.Blocks ≤ 1560
 blk : ∀ j,j < n → gB nx (ix f.Blocks j)
 tos : ∀ j,j < n → (ix f.Blocks j).Term.To = ix to j
 kd : ∀ j,j < n → (ix f.Blocks j).Term.Kind ≠ 0
 tr : TR n 30 to
 pb : PB n to
 ph0 : (ix f.Blocks 0).Phis = []
 ph3 : ∀ j,j < n → (ix f.Blocks j).Phis.length ≤ 3
 fr : ∀ j,j < n → ∀ p ∈ (ix f.Blocks j).Phis,p.In.map (fun x => x.From) = pT to n j
theorem made3_right (s : List Int) : ∃ nx,Right3 (mdN s).toNat (mdT s).1 (made3 s) nx := by
 obtain ⟨h0,t1,t2,hn,hp0⟩ := mdB_RI s
 obtain ⟨p1,p2,p3⟩ := RI.ps ((mdN s).toNat - 1) 1 4 (List.replicate (mdN s).toNat 0) (mdB s) (by omega) (by simp) (fun j => rng_rep j) hp0 h0
 have p3 : ∀ i,0 ≤ ix (mdH s).1 i ∧ ix (mdH s).1 i ≤ 3 := p3
 have p2 : phiOK (mdN s).toNat (mdH s).1 (mdH s).2 := p2
 have h1 : RI (mdN s).toNat 0 31 (mdT s).1 (mdH s).2 := p1.mono (by omega)
 have h2 : RI (mdN s).toNat (mdN s).toNat 1111 (mdT s).1 (mdD s).2 := (h1.turn t2 (fun j => Nat.le_trans (t1.2.1 j) (by omega)) (by omega)).mono (by omega)
 have hpl : pl (mdD s).2 = pl (mdH s).2 := pl_turn _ _ _
 have hfl : ∀ q,(fr (mdD s).2 q).length = (ix (mdD s).2.bs q).Phis.length := fun q => by unfold fr; rw [List.length_map]
 have hlen : ∀ q,q < (mdN s).toNat → (fr (mdD s).2 q).length = (ix (mdH s).1 q).toNat := fun q hq => by
   rw [hfl,pl_get hpl,p2.1 q]; exact if_pos hq
 have hz : ix (mdH s).1 0 = 0 := phiS_zero _ _ _ _ (by omega) (by rw [ix_rep0])
 obtain ⟨f1,f2⟩ := RI.fi0 (ph := (mdH s).1) hn.2 p3 ((mdN s).toNat - 1) 1 (mdD s).2 (by omega) h2 hlen (fun q hq x hx => by
   have : (fr (mdD s).2 q).length = 0 := by rw [hlen q (by omega),show q = 0 by omega,hz]; rfl
   rw [List.eq_nil_of_length_eq_zero this] at hx; cases hx)
 have f1 : RI (mdN s).toNat (mdN s).toNat 1543 (mdT s).1 (mdF s) := f1.mono (by omega)
 have hl3 : ∀ q,q < (mdN s).toNat → (ix (mdF s).bs q).Phis.length = (ix (mdH s).1 q).toNat := fun q hq => by
   have e9 : pl (mdF s) = pl (mdD s).2 := pl_fin _ _ _
   rw [pl_get e9,pl_get hpl,p2.1 q]; exact if_pos hq
 exact ⟨(mdF s).nx,hn,f1.len,f1.par,by have := f1.nx; exact ⟨this.1,by omega⟩,by have := f1.cnt; exact Nat.le_trans this (by omega),f1.blk,f1.tos,fun j hj => f1.kd j hj hj,t1,t2,
   List.eq_nil_of_length_eq_zero ((hl3 0 (by omega)).trans (by rw [hz]; rfl)),fun j hj => by have := hl3 j hj; have := p3 j; show (ix (mdF s).bs j).Phis.length ≤ 3; omega,fun j hj p hp => f2 j hj _ (List.mem_map.2 ⟨p,hp,rfl⟩)⟩
def Rg (r : Int) : Prop := 0 ≤ r ∧ r < 8192
theorem regM_of : ∀ {l : List Int},(∀ r ∈ l,Rg r) → regM l = true
 | [],_ => rfl
 | x :: l,h => by
   have := h x (by simp)
   unfold Rg at this
   rw [regM,if_neg (by omega)]; exact regM_of (fun r hr => h r (by simp [hr]))
theorem insE0 {i : D.Mach} (h1 : ¬ (i.Op < 1 ∨ 29 < i.Op ∨ i.Op = 2 ∨ (i.Op = 28 ∧ 4 < i.Args.length))) (hm : ∀ r ∈ makesM i,Rg r) (ht : ∀ r ∈ takesM i,Rg r) (h29 : ¬ (i.Op = 29 ∧ i.D = i.E)) (hi : immM i = true) : insE i = 0 := by
 unfold insE
 rw [if_neg h1,regM_of hm,regM_of ht,if_neg (by simp),if_neg h29,hi,if_neg (by simp)]
section
variable {d e a b c x op : Int} {l : List Int}
theorem e_mov (hd : Rg d) (ha : Rg a) : insE ⟨1,d,0,a,0,0,0,[]⟩ = 0 :=
 insE0 (by dsimp only; omega) (fun r hr => by simp [makesM] at hr; subst hr; exact hd) (fun r hr => by simp [takesM] at hr; subst hr; exact ha) (by dsimp only; omega) rfl
theorem e_li (hd : Rg d) (hx : smallQ x = true) : insE ⟨3,d,0,0,0,0,x,[]⟩ = 0 :=
 insE0 (by dsimp only; omega) (fun r hr => by simp [makesM] at hr; subst hr; exact hd) (fun r hr => by simp [takesM] at hr) (by dsimp only; omega) (by
   unfold smallQ at hx; simp at hx
   unfold immM; rw [if_pos rfl]; unfold fitsM; rw [if_neg (by omega),if_neg (by omega)]
   rw [show (2 : Int) ^ ((16 : Int) - 1).toNat = 32768 by decide,decide_eq_true_eq]; dsimp only; omega)
theorem e_liw (hd : Rg d) : insE ⟨4,d,0,0,0,0,x,[]⟩ = 0 :=
 insE0 (by dsimp only; omega) (fun r hr => by simp [makesM] at hr; subst hr; exact hd) (fun r hr => by simp [takesM] at hr) (by dsimp only; omega) rfl
theorem e_two (ho : 5 ≤ op ∧ op ≤ 17) (hd : Rg d) (ha : Rg a) (hb : Rg b) : insE ⟨op,d,0,a,b,0,0,[]⟩ = 0 :=
 insE0 (by dsimp only; omega) (fun r hr => by
   unfold makesM at hr
   rw [if_neg (by dsimp only; omega),if_neg (by dsimp only; omega),if_neg (by dsimp only; omega)] at hr
   simp at hr; subst hr; exact hd) (fun r hr => by
   unfold takesM at hr
   rw [if_neg (by dsimp only; omega),if_pos (by dsimp only; omega)] at hr
   simp at hr; rcases hr with rfl | rfl <;> assumption) (by dsimp only; omega) (by
   unfold immM; rw [if_neg (by dsimp only; omega),if_neg (by dsimp only; omega),if_neg (by dsimp only; omega),if_neg (by dsimp only; omega)])
theorem e_addi (hd : Rg d) (ha : Rg a) (hx : x = 100 ∨ x = -100) : insE ⟨18,d,0,a,0,0,x,[]⟩ = 0 :=
 insE0 (by dsimp only; omega) (fun r hr => by simp [makesM] at hr; subst hr; exact hd) (fun r hr => by simp [takesM] at hr; subst hr; exact ha) (by dsimp only; omega) (by rcases hx with rfl | rfl; (show fitsM 100 8 = true; decide); (show fitsM (-100) 8 = true; decide))
theorem e_shli (hd : Rg d) (ha : Rg a) : insE ⟨20,d,0,a,0,0,0,[]⟩ = 0 :=
 insE0 (by dsimp only; omega) (fun r hr => by simp [makesM] at hr; subst hr; exact hd) (fun r hr => by simp [takesM] at hr; subst hr; exact ha) (by dsimp only; omega) rfl
theorem e_madd (hd : Rg d) (ha : Rg a) (hb : Rg b) (hc : Rg c) : insE ⟨23,d,0,a,b,c,0,[]⟩ = 0 :=
 insE0 (by dsimp only; omega) (fun r hr => by simp [makesM] at hr; subst hr; exact hd) (fun r hr => by simp [takesM] at hr; rcases hr with rfl | rfl | rfl <;> assumption) (by dsimp only; omega) rfl
theorem immB (hx : byteQ x = true) : decide (0 ≤ x ∧ x ≤ 255) = true := by unfold byteQ at hx; simpa using hx
theorem e_ld (hd : Rg d) (ha : Rg a) (hx : byteQ x = true) : insE ⟨24,d,0,a,0,0,x,[]⟩ = 0 :=
 insE0 (by dsimp only; omega) (fun r hr => by simp [makesM] at hr; subst hr; exact hd) (fun r hr => by simp [takesM] at hr; subst hr; exact ha) (by dsimp only; omega) (immB hx)
theorem e_st (ha : Rg a) (hb : Rg b) (hx : byteQ x = true) : insE ⟨26,0,0,a,b,0,x,[]⟩ = 0 :=
 insE0 (by dsimp only; omega) (fun r hr => by simp [makesM] at hr) (fun r hr => by simp [takesM] at hr; rcases hr with rfl | rfl <;> assumption) (by dsimp only; omega) (immB hx)
theorem e_ldx (hd : Rg d) (ha : Rg a) (hb : Rg b) : insE ⟨25,d,0,a,b,0,0,[]⟩ = 0 :=
 insE0 (by dsimp only; omega) (fun r hr => by simp [makesM] at hr; subst hr; exact hd) (fun r hr => by simp [takesM] at hr; rcases hr with rfl | rfl <;> assumption) (by dsimp only; omega) rfl
theorem e_stx (ha : Rg a) (hb : Rg b) (hc : Rg c) : insE ⟨27,0,0,a,b,c,0,[]⟩ = 0 :=
 insE0 (by dsimp only; omega) (fun r hr => by simp [makesM] at hr) (fun r hr => by simp [takesM] at hr; rcases hr with rfl | rfl | rfl <;> assumption) (by dsimp only; omega) rfl
theorem e_call (hd : Rg d) (hl : l.length ≤ 4) (ha : ∀ r ∈ l,Rg r) : insE ⟨28,d,0,0,0,0,x,l⟩ = 0 :=
 insE0 (by dsimp only; omega) (fun r hr => by simp [makesM] at hr; subst hr; exact hd) (fun r hr => by simp [takesM] at hr; exact ha r hr) (by dsimp only; omega) rfl
theorem e_mulw (hd : Rg d) (he : Rg e) (hn : d ≠ e) (ha : Rg a) (hb : Rg b) : insE ⟨29,d,e,a,b,0,0,[]⟩ = 0 :=
 insE0 (by dsimp only; omega) (fun r hr => by simp [makesM] at hr; rcases hr with rfl | rfl <;> assumption) (fun r hr => by simp [takesM] at hr; rcases hr with rfl | rfl <;> assumption) (by dsimp only; omega) rfl
end
def QI (a d : Nat) (m : Mq) : Prop := (0 ≤ m.nx ∧ m.nx ≤ a) ∧ m.l.length ≤ d ∧ ∀ i ∈ m.l,insE i = 0
section
variable {a d : Nat} {m : Mq} {r : Int}
theorem QI.mono {a' d' : Nat} (h : QI a d m) (h1 : a ≤ a') (h2 : d ≤ d') : QI a' d' m := ⟨by have := h.1; omega,by have := h.2.1; omega,h.2.2⟩
theorem QI.take (h : QI a d m) : QI a d (takeQ m) := h
theorem QI.temp (h : QI a d m) : QI (a + 1) d (tempQ m) := ⟨by have := h.1; show 0 ≤ m.nx + 1 ∧ m.nx + 1 ≤ _; omega,h.2⟩
theorem QI.put {i : D.Mach} (h : QI a d m) (hi : insE i = 0) : QI a (d + 1) (putQ i m) := ⟨h.1,by show (m.l ++ [i]).length ≤ _; rw [List.length_append]; have := h.2.1; simp; omega,fun y hy => by
 rcases List.mem_append.1 (show y ∈ m.l ++ [i] from hy) with h1 | h1
 · exact h.2.2 y h1
 · simp at h1; subst h1; exact hi⟩
theorem QI.rg (h : QI a d m) (ha : a < 8192) : Rg m.nx := by have := h.1; unfold Rg; omega
theorem QI.cop (h : QI a d m) (ha : a < 8000) (hr : Rg r) : QI (a + 1) (d + 1) (copQ r m) ∧ Rg (copV r m) := by
 unfold copQ copV; split
 · exact ⟨h.take.mono (by omega) (by omega),hr⟩
 · exact ⟨h.take.temp.put (e_mov (h.rg (by omega)) hr),h.rg (by omega)⟩
theorem QI.word {x : Int} (h : QI a d m) (hr : Rg r) : QI a (d + 1) (wordQ r x m) := by
 have h0 : QI a d (wordQ0 x m) := by unfold wordQ0; split <;> exact h
 unfold wordQ; split
 · rename_i hc; exact h0.put (e_li hr hc.1)
 · exact h0.put (e_liw hr)
theorem QI.tw3 {x : D.Ins} {p q : Int} (h : QI a d m) (ha : a < 8000) (ho : 2 ≤ x.Op ∧ x.Op ≤ 14) (hx : Rg x.Dst) (hp : Rg p) (hq : Rg q) : QI (a + 2) (d + 3) (two3 x p q m) := by
 have hn := h.rg (by omega)
 have hn1 : Rg (m.nx + 1) := by have := h.1; unfold Rg; omega
 unfold two3 opQ
 repeat' split
 · exact ((h.take.temp.temp.put (e_two (by omega) hn hp hq)).put (e_addi hn1 hn (.inl rfl))).put (e_addi hx hn1 (.inr rfl))
 · exact ((h.take.temp.put (e_two (by omega) hn hp hq)).put (e_shli hx hn)).mono (by omega) (by omega)
 · exact ((h.take.temp.word hn).put (e_madd hx hp hq hn)).mono (by omega) (by omega)
 · exact (h.take.put (e_two (by omega) hx hp hq)).mono (by omega) (by omega)
theorem QI.two {x : D.Ins} (h : QI a d m) (ha : a < 7990) (ho : 2 ≤ x.Op ∧ x.Op ≤ 14) (hx : Rg x.Dst) (hp : Rg (ix x.Args 0)) (hq : Rg (ix x.Args 1)) : QI (a + 4) (d + 5) (twoQ x m) := by
 have h1 := h.cop (by omega) hp
 have h2 := h1.1.cop (by omega) hq
 exact (h2.1.tw3 (by omega) ho hx h1.2 h2.2).mono (by omega) (by omega)
theorem QI.mem2 {x : D.Ins} {p : Int} (h : QI a d m) (ha : a < 7990) (ho : x.Op = 15 ∧ Rg x.Dst ∨ x.Op = 16 ∧ Rg (ix x.Args 1)) (hp : Rg p) : QI (a + 1) (d + 2) (mem2Q x p m) := by
 have hn := h.rg (by omega)
 have h0 : QI a d (memQ0 x.Imm m) := by unfold memQ0; split <;> exact h
 have e0 : (memQ0 x.Imm m).nx = m.nx := by unfold memQ0; split <;> rfl
 unfold mem2Q
 split
 · rename_i hc
   split
   · rename_i h15
     exact (h.take.put (e_ld (ho.elim (fun h => h.2) (fun h => by omega)) hp hc.1)).mono (by omega) (by omega)
   · rename_i h15
     exact (h.take.put (e_st hp (ho.elim (fun h => by omega) (fun h => h.2)) hc.1)).mono (by omega) (by omega)
 split
 · exact (h0.temp.word hn).put (e_ldx (ho.elim (fun h => h.2) (fun h => by omega)) hp hn)
 · exact (h0.temp.word hn).put (e_stx hp hn (ho.elim (fun h => by omega) (fun h => h.2)))
theorem QI.ins {x : D.Ins} {n : Int} (h : QI a d m) (ha : a < 7980) (hg : gI n x) (hn : n ≤ 8192) : QI (a + 4) (d + 5) (insQ x m) := by
 obtain ⟨g1,g2,g3,g4,g5,g6⟩ := hg
 have hA : ∀ r ∈ x.Args,Rg r := fun r hr => by have := g4 r hr; unfold Rg; omega
 have hM : ∀ r ∈ makes3 x,Rg r := fun r hr => by have := g5 r hr; unfold Rg; omega
 have hD : x.Op ≠ 16 → Rg x.Dst := fun h => hM _ (by unfold makes3; rw [if_neg h]; split <;> simp)
 unfold insQ
 split
 · exact (h.word (hD (by omega))).mono (by omega) (by omega)
 split
 · rename_i h1
   have hl : 1 ≤ x.Args.length := by omega
   have h2 := h.cop (r := ix x.Args 0) (by omega) (hA _ (ix_mem (by omega)))
   refine (h2.1.mem2 (by omega) ?_ h2.2).mono (by omega) (by omega)
   rcases h1 with h1 | h1
   · exact .inl ⟨h1,hD (by omega)⟩
   · exact .inr ⟨h1,hA _ (ix_mem (by omega))⟩
 split
 · exact (h.put (e_call (hD (by omega)) g3 hA)).mono (by omega) (by omega)
 split
 · rename_i h18
   have hl : 2 ≤ x.Args.length := by omega
   exact (h.put (e_mulw (hD (by omega)) (hM _ (by unfold makes3; rw [if_neg (by omega),if_pos h18]; simp)) (g6 h18) (hA _ (ix_mem (by omega))) (hA _ (ix_mem (by omega))))).mono (by omega) (by omega)
 · have hl : 2 ≤ x.Args.length := by omega
   exact h.two (by omega) (by omega) (hD (by omega)) (hA _ (ix_mem (by omega))) (hA _ (ix_mem (by omega)))
theorem QI.en {t : D.Term} {n : Int} (h : QI a d m) (ha : a < 7980) (hg : gT n t) (hn : n ≤ 8192) : QI (a + 1) (d + 1) (endQ t m) := by
 have hA : ∀ r ∈ t.Args,Rg r := fun r hr => by have := hg.2.1 r hr; unfold Rg; omega
 unfold endQ
 repeat' split
 · exact h.take.mono (by omega) (by omega)
 · exact (h.take.temp.word (h.rg (by omega)))
 · rename_i h4; exact (h.cop (by omega) (hA _ (ix_mem (by omega)))).1
 · exact h.mono (by omega) (by omega)
end
structure MB (k : Nat) (x : D.Block) (y : D.MBlock) : Prop where
 ph : y.Phis = x.Phis
 il : y.Ins.length ≤ 5 * x.Ins.length + 1
 ins : ∀ i ∈ y.Ins,insE i = 0
 en : endE y.End k = 0
 to : ∀ z,z ∈ y.End.To ↔ z ∈ x.Term.To
 tl : y.End.To.length = x.Term.To.length
end Go.Proofs.YtmfkkodnghambaaGreat
