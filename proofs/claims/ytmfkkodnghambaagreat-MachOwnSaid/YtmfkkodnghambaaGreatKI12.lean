/- Lemmas that the claim is made of. Conditions: each lemma names its own. -/
import Derived.Test.YtmfkkodnghambaaGreatKI3
import Derived.Test.YtmfkkodnghambaaGreatKI11
import Derived.Test.YtmfkkodnghambaaGreatKI2
import Derived.Lib.SliceRun
import Derived.Test.YtmfkkodnghambaaGreatKI1
import Derived.RangeFuncNested
import Derived.RangeFuncCalls
import Derived.RangeFuncLeaves
import Derived.Below
set_option linter.unusedSectionVars false
set_option linter.unusedSimpArgs false
set_option linter.unusedVariables false
namespace Go.Proofs.YtmfkkodnghambaaGreat
open Go.JE
inductive An (out : List Int) : Nat → Nat → Prop
 | self (v : Nat) : An out v v
 | up {x v : Nat} : 0 ≤ ix out v → An out x (ix out v).toNat → An out x v
inductive RB (pr : Nat → Nat → Prop) (w : Nat) : Nat → Prop
 | zero : w ≠ 0 → RB pr w 0
 | step {x t : Nat} : RB pr w x → pr x t → t ≠ w → RB pr w t
inductive Pt (pr : Nat → Nat → Prop) (num : List Int) (m : Int) : Nat → Nat → Prop
 | nil (v : Nat) : Pt pr num m v v
 | step {u x t : Nat} : Pt pr num m u x → pr x t → m < ix num t → Pt pr num m u t
structure GN (n : Nat) (num : List Int) (pr : Nat → Nat → Prop) : Prop where
 n0 : 0 < n
 rng : ∀ v,v < n → 0 ≤ ix num v ∧ ix num v < n
 inj : ∀ u v,u < n → v < n → ix num u = ix num v → u = v
 zero : ix num 0 = 0
 prn : ∀ q b,pr q b → q < n ∧ b < n
 fwd : ∀ b,b < n → b ≠ 0 → ∃ q,pr q b ∧ ix num q < ix num b
def pdn (out : List Int) (v : Nat) : Prop := v = 0 ∨ 0 ≤ ix out v
structure TV (n : Nat) (num out : List Int) : Prop where
 len : out.length = n
 root : ix out 0 < 0
 up : ∀ v,v < n → 0 ≤ ix out v → ix out v < n ∧ ix num (ix out v).toNat < ix num v ∧ pdn out (ix out v).toNat
section
variable {n : Nat} {num out : List Int} {pr : Nat → Nat → Prop}
theorem An.trans {x y z : Nat} (h1 : An out x y) (h2 : An out y z) : An out x z := by
 induction h2 with
 | self => exact h1
 | up h _ ih => exact .up h ih
theorem An.lt (hv : TV n num out) {x v : Nat} (h : An out x v) : v < n → x < n := by
 induction h with
 | self => exact id
 | @up v h _ ih => intro hv'; exact ih (by have := (hv.up v hv' h).1; omega)
theorem An.nu (hv : TV n num out) {x v : Nat} (h : An out x v) : v < n → ix num x ≤ ix num v ∧ (x ≠ v → ix num x < ix num v) := by
 induction h with
 | self => exact fun _ => ⟨Int.le_refl _,fun h => absurd rfl h⟩
 | @up v h _ ih =>
   intro hv'
   have h1 := hv.up v hv' h
   have h2 := ih (by omega)
   exact ⟨by omega,fun _ => by omega⟩
theorem An.pd (hv : TV n num out) {x v : Nat} (h : An out x v) : v < n → pdn out v → pdn out x := by
 induction h with
 | self => exact fun _ h => h
 | @up v h _ ih => intro hv' _; have h1 := hv.up v hv' h; exact ih (by omega) h1.2.2
theorem An.tot {x y v : Nat} (h1 : An out x v) (h2 : An out y v) : An out x y ∨ An out y x := by
 induction h1 with
 | self => exact .inr h2
 | @up v h h3 ih =>
   cases h2 with
   | self => exact .inl (.up h h3)
   | up _ h4 => exact ih h4
theorem Pt.tr {m : Int} {u v w : Nat} (h1 : Pt pr num m u v) (h2 : Pt pr num m v w) : Pt pr num m u w := by
 induction h2 with
 | nil => exact h1
 | step _ h3 h4 ih => exact .step ih h3 h4
theorem Pt.mono {m m' : Int} {u v : Nat} (h : Pt pr num m u v) (hm : m' ≤ m) : Pt pr num m' u v := by
 induction h with
 | nil => exact .nil _
 | step _ h3 h4 ih => exact .step ih h3 (by omega)
theorem Pt.rb {m : Int} {u v w : Nat} (h : Pt pr num m u v) (hr : RB pr w u) (hm : ix num w ≤ m) : RB pr w v := by
 induction h with
 | nil => exact hr
 | step _ h3 h4 ih => exact .step ih h3 (fun e => by subst e; omega)
end
structure IS (n : Nat) (num : List Int) (pr : Nat → Nat → Prop) (out : List Int) (i : Int) : Prop where
 tv : TV n num out
 fp : ∀ v,v < n → ix num v < i → pdn out v
 dm : ∀ b a,b < n → pdn out b → (a = b ∨ ¬ RB pr a b) → An out a b
 pa : ∀ b,b < n → 0 ≤ ix out b → Pt pr num (ix num (ix out b).toNat) (ix out b).toNat b
 hh : ∀ b,b < n → 0 ≤ ix out b → ∀ y,(∀ p,pr p b → pdn out p → An out y p) → An out y (ix out b).toNat
 kk : ∀ b,b < n → 0 ≤ ix out b → ∀ q,pr q b → ix num q < ix num b → (ix num b < i ∨ i ≤ ix num (ix out b).toNat) → An out (ix out b).toNat q
structure BS (out : List Int) (P : Nat → Prop) (best : Int) : Prop where
 no : best < 0 → ∀ p,P p → ¬ pdn out p
 an : 0 ≤ best → ∀ p,P p → pdn out p → An out best.toNat p
 nc : 0 ≤ best → ∀ y,(∀ p,P p → pdn out p → An out y p) → An out y best.toNat
 pd : 0 ≤ best → pdn out best.toNat
section
variable {n : Nat} {num out : List Int} {pr : Nat → Nat → Prop} {i : Int}
theorem an_pt (hs : IS n num pr out i) {b c : Nat} (h : An out b c) : c < n → Pt pr num (ix num b) b c := by
 induction h with
 | self => exact fun _ => .nil _
 | @up v h h2 ih =>
   intro hv
   have h1 := hs.tv.up v hv h
   exact (ih (by omega)).tr ((hs.pa v hv h).mono ((h2.nu hs.tv (by omega)).1))
theorem IS.step (hg : GN n num pr) (hs : IS n num pr out i) {b : Nat} {best : Int} (hb : b < n) (hb0 : b ≠ 0) (hi : ix num b = i) (hB : BS out (fun p => pr p b) best) :
   0 ≤ best ∧ best < n ∧ IS n num pr (out.set b best) (i + 1) ∧ (0 ≤ ix out b → ix out b ≠ best → ix num best.toNat < ix num (ix out b).toNat) := by
 have hv := hs.tv
 obtain ⟨q0,hq,hqn⟩ := hg.fwd b hb hb0
 have hq0 : q0 < n := (hg.prn _ _ hq).1
 have hqd := hs.fp q0 hq0 (by omega)
 have h0 : 0 ≤ best := by
   rcases Int.lt_or_le best 0 with h | h
   · exact absurd hqd (hB.no h q0 hq)
   · exact h
 have hbq := hB.an h0 q0 hq hqd
 have hbn := hbq.lt hv hq0
 have hnb : ix num best.toNat < i := by have := (hbq.nu hv hq0).1; omega
 have hnc : ∀ y,(∀ p,pr p b → pdn out p → An out y p) → An out y best.toNat := hB.nc h0
 generalize hx : best.toNat = x at *
 have hbe : best = (x : Int) := by omega
 have hup : 0 ≤ ix out b → An out x (ix out b).toNat := fun h => by
   exact hs.hh b hb h x (fun p hp hpd => by rw [← hx]; exact hB.an h0 p hp hpd)
 have hbl : b < out.length := by rw [hv.len]; exact hb
 have hset : ∀ v,ix (out.set b best) v = if v = b then best else ix out v := fun v => ix_set hbl
 have nx : ¬ An out b x := fun h => by have := (h.nu hv hbn).1; omega
 have la : ∀ {y v},An out y v → v < n → (An out b y ∨ ¬ An out b v) → An (out.set b best) y v := by
   intro y v h
   induction h with
   | self => exact fun _ _ => .self _
   | @up v h h2 ih =>
     intro hv' hc
     have h1 := hv.up v hv' h
     have hvb : v ≠ b := by
       rintro rfl
       rcases hc with hc | hc
       · have e1 := (hc.nu hv (h2.lt hv (by omega))).1
         have e2 := (h2.nu hv (by omega)).1
         omega
       · exact hc (.self _)
     refine .up (by rw [hset,if_neg hvb]; exact h) ?_
     rw [hset,if_neg hvb]
     exact ih (by omega) (hc.imp id (fun h3 h4 => h3 (.up h h4)))
 have lb : ∀ {y v},An (out.set b best) y v → v < n → (¬ An out b v ∧ An out y v) ∨ (An out b v ∧ ((An out b y ∧ An out y v) ∨ An out y x)) := by
   intro y v h
   induction h with
   | self =>
     intro _
     by_cases h1 : An out b y
     · exact .inr ⟨h1,.inl ⟨h1,.self _⟩⟩
     · exact .inl ⟨h1,.self _⟩
   | @up v h h2 ih =>
     intro hv'
     rw [hset] at h h2 ih
     by_cases e : v = b
     · subst e
       rw [if_pos rfl,hx] at ih
       rcases ih hbn with h3 | h3
       · exact .inr ⟨.self _,.inr h3.2⟩
       · exact absurd h3.1 nx
     · rw [if_neg e] at h h2 ih
       have h1 := hv.up v hv' h
       rcases ih (by omega) with h3 | h3
       · refine .inl ⟨fun h4 => h3.1 ?_,.up h h3.2⟩
         cases h4 with
         | self => exact absurd rfl e
         | up _ h5 => exact h5
       · refine .inr ⟨.up h h3.1,h3.2.imp (fun h4 => ⟨h4.1,.up h h4.2⟩) id⟩
 have lc : ∀ {y},An out y x → An (out.set b best) y b := fun {y} h => by
   refine .up (by rw [hset,if_pos rfl]; exact h0) ?_
   rw [hset,if_pos rfl,hx]
   exact la h hbn (.inr nx)
 have ld : ∀ {y v},An out y x → An out b v → v < n → An (out.set b best) y v := fun {y v} h h2 hv' => (lc h).trans (la h2 hv' (.inl (.self _)))
 have sub : 0 ≤ ix out b → ∀ {y v},An (out.set b best) y v → v < n → An out y v := fun h9 {y v} h hv' => by
   rcases lb h hv' with h1 | ⟨h1,h2⟩
   · exact h1.2
   · rcases h2 with h2 | h2
     · exact h2.2
     · exact (h2.trans (hup h9)).trans (.trans (.up h9 (.self _)) h1)
 have fresh : ¬ 0 ≤ ix out b → ∀ v,An out b v → v < n → v = b := fun h9 v h hv' => by
   cases h with
   | self => rfl
   | up h3 h4 =>
     have h5 := hv.up v hv' h3
     exact absurd (h4.pd hv (by omega) h5.2.2) (fun h => h.elim hb0 h9)
 have pds : ∀ v,pdn (out.set b best) v ↔ (v = b ∨ pdn out v) := fun v => by
   unfold pdn; rw [hset]
   by_cases e : v = b
   · rw [if_pos e]; exact ⟨fun _ => .inl e,fun _ => .inr h0⟩
   · rw [if_neg e]; exact ⟨.inr,fun h => h.resolve_left e⟩
 refine ⟨h0,by omega,?_,fun h9 h8 => ?_⟩
 · refine ⟨⟨by rw [List.length_set]; exact hv.len,by rw [hset,if_neg (fun h => hb0 h.symm)]; exact hv.root,fun v hv' h => ?_⟩,fun v hv' h => ?_,fun c a hc hpc h => ?_,fun v hv' h => ?_,fun v hv' h y hy => ?_,fun v hv' h q hq' hqn' hc => ?_⟩
   · rw [hset] at h ⊢
     split at h
     · rename_i e; subst e
       rw [if_pos rfl,hx]
       exact ⟨by omega,by omega,(pds _).2 (.inr (by have := hB.pd h0; rw [hx] at this; exact this))⟩
     · rename_i e
       rw [if_neg e]
       have := hv.up v hv' h
       exact ⟨this.1,this.2.1,(pds _).2 (.inr this.2.2)⟩
   · rw [pds]
     by_cases e : v = b
     · exact .inl e
     · exact .inr (hs.fp v hv' (by have := hg.inj v b hv' hb; have : ix num v ≠ ix num b := fun h => e (this h); omega))
   ·
     by_cases hcb : c = b
     · subst hcb
       by_cases hac : a = c
       · subst hac; exact .self _
       · refine lc (hnc a fun p hp hpd => hs.dm p a (hg.prn _ _ hp).1 hpd (.inr fun h6 => ?_))
         exact (h.resolve_left hac) (.step h6 hp (fun e => hac e.symm))
     · have hpc' : pdn out c := ((pds c).1 hpc).resolve_left hcb
       have hac := hs.dm c a hc hpc' h
       by_cases h1 : An out b c
       · by_cases h2 : An out b a
         · exact la hac hc (.inl h2)
         ·
           have h3 : An out a b := (hac.tot h1).resolve_right h2
           have hab : a ≠ b := fun e => h2 (by subst e; exact .self _)
           have hn := (h3.nu hv hb).2 hab
           have hdom : ¬ RB pr a b := fun h4 => by
             have h5 := (an_pt hs h1 hc).rb h4 (by omega)
             rcases h with h | h
             · subst h; exact h2 h1
             · exact h h5
           have h6 : An out a x := hnc a fun p hp hpd => hs.dm p a (hg.prn _ _ hp).1 hpd (.inr fun h7 => hdom (.step h7 hp (fun e => hab e.symm)))
           exact ld h6 h1 hc
       · exact la hac hc (.inr h1)
   · rw [hset] at h ⊢
     split at h
     · rename_i e; subst e
       rw [if_pos rfl,hx]
       exact .step (an_pt hs hbq hq0) hq (by omega)
     · rename_i e; rw [if_neg e]; exact hs.pa v hv' h
   · rw [hset] at h ⊢
     split at h
     · rename_i e; subst e
       rw [if_pos rfl,hx]
       refine la (hnc y fun p hp hpd => ?_) hbn (.inr nx)
       have h1 := hy p hp ((pds p).2 (.inr hpd))
       have hpn := (hg.prn _ _ hp).1
       by_cases h9 : 0 ≤ ix out v
       · exact sub h9 h1 hpn
       · rcases lb h1 hpn with h2 | ⟨h2,_⟩
         · exact h2.2
         · have e := fresh h9 p h2 hpn
           subst e
           exact absurd hpd (fun h => h.elim hb0 h9)
     · rename_i e
       rw [if_neg e]
       have h1 := hv.up v hv' h
       by_cases hz : An out b (ix out v).toNat
       ·
         have hzn := (hz.nu hv (by omega)).1
         have h9 : 0 ≤ ix out b := by
           rcases Int.lt_or_le (ix out b) 0 with h2 | h2
           · have h3 := fresh (by omega) _ hz (by omega)
             rw [h3] at h1
             exact absurd h1.2.2 (fun h => h.elim hb0 (fun h => by omega))
           · exact h2
         have hyz : An out y (ix out v).toNat := hs.hh v hv' h y fun p hp hpd => sub h9 (hy p hp ((pds p).2 (.inr hpd))) (hg.prn _ _ hp).1
         by_cases hby : An out b y
         · exact la hyz (by omega) (.inl hby)
         · have hv0 : v ≠ 0 := by rintro rfl; have := hv.root; omega
           obtain ⟨q,hq1,hq2⟩ := hg.fwd v hv' hv0
           have hqn1 := (hg.prn _ _ hq1).1
           have hzq := hs.kk v hv' h q hq1 hq2 (.inr (by omega))
           have hqb : An out b q := hz.trans hzq
           have hpq : pdn out q := by
             cases hqb with
             | self => exact .inr h9
             | up h _ => exact .inr h
           rcases lb (hy q hq1 ((pds q).2 (.inr hpq))) hqn1 with h2 | ⟨_,h2⟩
           · exact absurd hqb h2.1
           · rcases h2 with h2 | h2
             · exact absurd h2.1 hby
             · exact ld h2 hz (by omega)
       · refine la (hs.hh v hv' h y fun p hp hpd => ?_) (by omega) (.inr hz)
         have h2 := hy p hp ((pds p).2 (.inr hpd))
         have hpn := (hg.prn _ _ hp).1
         by_cases h9 : 0 ≤ ix out b
         · exact sub h9 h2 hpn
         · rcases lb h2 hpn with h3 | ⟨h3,_⟩
           · exact h3.2
           · have e := fresh h9 p h3 hpn
             subst e
             exact absurd hpd (fun h => h.elim hb0 h9)
   · have hqn1 := (hg.prn _ _ hq').1
     rw [hset] at h hc ⊢
     by_cases e : v = b
     · subst e
       rw [if_pos rfl,hx]
       have hqd' := hs.fp q hqn1 (by omega)
       have h2 := hB.an h0 q hq' hqd'
       rw [hx] at h2
       exact la h2 hqn1 (.inr fun h3 => by have := (h3.nu hv hqn1).1; omega)
     · rw [if_neg e] at h hc ⊢
       have h1 := hv.up v hv' h
       have hne : ix num v ≠ ix num b := fun h => e (hg.inj v b hv' hb h)
       rcases hc with hc | hc
       · have h2 := hs.kk v hv' h q hq' hqn' (.inl (by omega))
         exact la h2 hqn1 (.inr fun h3 => by have := (h3.nu hv hqn1).1; omega)
       · have h2 := hs.kk v hv' h q hq' hqn' (.inr (by omega))
         by_cases h3 : An out b q
         · have h4 := (h2.tot h3)
           rcases h4 with h4 | h4
           · have := (h4.nu hv hb).1; omega
           · exact la h2 hqn1 (.inl h4)
         · exact la h2 hqn1 (.inr h3)
 · have h7 := hup h9
   have h6 := (h7.nu hv (by have := (hv.up b hb h9).1; omega)).2 (fun e => h8 (by omega))
   exact h6
end
structure CO (n : Nat) (num out : List Int) (a b a' b' : Int) : Prop where
 ra : 0 ≤ a' ∧ a' < n
 rb : 0 ≤ b' ∧ b' < n
 pa : pdn out a'.toNat
 pb : pdn out b'.toNat
 an : ∀ x,(An out x a.toNat ∧ An out x b.toNat) ↔ (An out x a'.toNat ∧ An out x b'.toNat)
section
variable {n : Nat} {num out : List Int} {pr : Nat → Nat → Prop} {a b a' b' : Int}
theorem CO.left (hg : GN n num pr) (hv : TV n num out) (h : CO n num out a b a' b') (hn : ix num b'.toNat < ix num a'.toNat) : CO n num out a b (ix out a'.toNat) b' ∧ ix num (ix out a'.toNat).toNat < ix num a'.toNat := by
 obtain ⟨h1,h2,h3,h4,h5⟩ := h
 have hb := (hg.rng b'.toNat (by omega)).1
 have h0 : 0 ≤ ix out a'.toNat := h3.resolve_left fun e => by rw [e,hg.zero] at hn; omega
 have h6 := hv.up a'.toNat (by omega) h0
 refine ⟨⟨⟨h0,h6.1⟩,h2,h6.2.2,h4,fun x => (h5 x).trans ⟨fun ⟨p,q⟩ => ⟨?_,q⟩,fun ⟨p,q⟩ => ⟨.up h0 p,q⟩⟩⟩,h6.2.1⟩
 have hq := (q.nu hv (by omega)).1
 generalize a'.toNat = v at *
 cases p with
 | self => omega
 | up _ p => exact p
theorem CO.right (hg : GN n num pr) (hv : TV n num out) (h : CO n num out a b a' b') (hn : ix num a'.toNat < ix num b'.toNat) : CO n num out a b a' (ix out b'.toNat) ∧ ix num (ix out b'.toNat).toNat < ix num b'.toNat := by
 have h1 := CO.left (a := b) (b := a) (a' := b') (b' := a') hg hv ⟨h.rb,h.ra,h.pb,h.pa,fun x => and_comm.trans ((h.an x).trans and_comm)⟩ hn
 exact ⟨⟨h.ra,h1.1.ra,h.pa,h1.1.pa,fun x => and_comm.trans ((h1.1.an x).trans and_comm)⟩,h1.2⟩
theorem CO.done (hg : GN n num pr) (h : CO n num out a b a' b') (hn : ix num a'.toNat = ix num b'.toNat) : An out a'.toNat a.toNat ∧ An out a'.toNat b.toNat ∧ ∀ x,An out x a.toNat → An out x b.toNat → An out x a'.toNat := by
 have h1 := h.ra
 have h2 := h.rb
 have e := hg.inj a'.toNat b'.toNat (by omega) (by omega) hn
 have h3 := (h.an a'.toNat).2 ⟨.self _,by rw [← e]; exact .self _⟩
 exact ⟨h3.1,h3.2,fun x p q => ((h.an x).1 ⟨p,q⟩).1⟩
def Pk (l : List Int) (k : Nat) (p : Nat) : Prop := (p : Int) ∈ l.take k
theorem Pk.nx {l : List Int} {k p : Nat} (hk : k < l.length) : Pk l (k + 1) p ↔ Pk l k p ∨ (p : Int) = ix l k := by
 unfold Pk; rw [take_ix hk,List.mem_append]; simp
theorem BS.skip {l : List Int} {k : Nat} {best : Int} (h : BS out (Pk l k) best) (hk : k < l.length) (hr : 0 ≤ ix l k) (hp : ¬ pdn out (ix l k).toNat) : BS out (Pk l (k + 1)) best := by
 have e : ∀ p : Nat,(p : Int) = ix l k → ¬ pdn out p := fun p e h9 => hp (by rw [← e,Int.toNat_natCast]; exact h9)
 exact ⟨fun h0 p h1 => ((Pk.nx hk).1 h1).elim (h.no h0 p) (e p),fun h0 p h1 h2 => ((Pk.nx hk).1 h1).elim (fun h3 => h.an h0 p h3 h2) (fun h3 => absurd h2 (e p h3)),fun h0 y h1 => h.nc h0 y fun p h2 => h1 p ((Pk.nx hk).2 (.inl h2)),h.pd⟩
theorem BS.first {l : List Int} {k : Nat} {best : Int} (h : BS out (Pk l k) best) (hb : best < 0) (hk : k < l.length) (hr : 0 ≤ ix l k) (hp : pdn out (ix l k).toNat) : BS out (Pk l (k + 1)) (ix l k) := by
 refine ⟨fun h0 => by omega,fun h0 p h1 h2 => ?_,fun h0 y h1 => ?_,fun _ => hp⟩
 · rcases (Pk.nx hk).1 h1 with h3 | h3
   · exact absurd h2 (h.no hb p h3)
   · rw [← h3,Int.toNat_natCast]; exact .self _
 · exact h1 _ ((Pk.nx hk).2 (.inr (by omega))) hp
theorem BS.all {l : List Int} {best : Int} {b : Nat} (h : BS out (Pk l l.length) best) (hl : ∀ p : Nat,(p : Int) ∈ l ↔ pr p b) : BS out (fun p => pr p b) best := by
 have e : ∀ p,Pk l l.length p ↔ pr p b := fun p => by unfold Pk; rw [List.take_length]; exact hl p
 exact ⟨fun h0 p h1 => h.no h0 p ((e p).2 h1),fun h0 p h1 => h.an h0 p ((e p).2 h1),fun h0 y h1 => h.nc h0 y fun p h2 => h1 p ((e p).1 h2),h.pd⟩
theorem IS.round (hg : GN n num pr) (h : IS n num pr out n) : IS n num pr out 1 :=
 ⟨h.tv,fun v hv _ => h.fp v hv (by have := hg.rng v hv; omega),h.dm,h.pa,h.hh,fun b hb h1 q hq h2 _ => h.kk b hb h1 q hq h2 (.inl (by have := hg.rng b hb; omega))⟩
def wtI (n : Nat) (num out : List Int) (v : Nat) : Nat := if ix out v < 0 then n else (ix num (ix out v).toNat).toNat
def smI (n : Nat) (num out : List Int) : Nat → Nat
 | 0 => 0
 | k + 1 => smI n num out k + wtI n num out k
theorem smI_lt {out' : List Int} {v : Nat} (h1 : ∀ u,u ≠ v → wtI n num out' u = wtI n num out u) (h2 : wtI n num out' v < wtI n num out v) : ∀ k,(k ≤ v → smI n num out' k = smI n num out k) ∧ (v < k → smI n num out' k < smI n num out k)
 | 0 => ⟨fun _ => rfl,fun h => by omega⟩
 | k + 1 => by
   obtain ⟨a,b⟩ := smI_lt h1 h2 k
   rw [smI,smI]
   refine ⟨fun h => by rw [a (by omega),h1 k (by omega)],fun h => ?_⟩
   rcases Nat.lt_or_ge v k with h3 | h3
   · have := b h3; rw [h1 k (by omega)]; omega
   · have e : v = k := by omega
     subst e
     have := a (Nat.le_refl _); omega
theorem IS.less (hg : GN n num pr) {i : Int} (hs : IS n num pr out i) {b : Nat} {best : Int} (hb : b < n) (h0 : 0 ≤ best ∧ best < n) (hne : ix out b ≠ best) (h : 0 ≤ ix out b → ix out b ≠ best → ix num best.toNat < ix num (ix out b).toNat) : smI n num (out.set b best) n < smI n num out n := by
 have hl : b < out.length := by rw [hs.tv.len]; exact hb
 refine (smI_lt (v := b) (fun u hu => ?_) ?_ n).2 hb
 · unfold wtI; rw [ix_set hl,if_neg hu]
 · unfold wtI
   rw [ix_set hl,if_pos rfl,if_neg (by omega)]
   have h1 := hg.rng best.toNat (by omega)
   split
   · omega
   · rename_i h2
     have h3 := h (by omega) hne
     omega
theorem IS.same {i : Int} (hs : IS n num pr out (i + 1)) {b : Nat} {best : Int} (h : ix out b = best) : IS n num pr (out.set b best) (i + 1) := by
 by_cases hb : b < out.length
 · rw [show out.set b best = out from by rw [← h,ix_eq hb]; exact List.set_getElem_self _]; exact hs
 · rw [List.set_eq_of_length_le (by omega)]; exact hs
end
def Aft (rows : List (List Int)) (l : List Int) (v : Int) : Prop := ∃ l2 l3,l = l2 ++ v :: l3 ∧ ∃ q ∈ l3,v ∈ ix rows q.toNat
theorem Aft.right {rows : List (List Int)} {l m : List Int} {v : Int} : Aft rows l v → Aft rows (l ++ m) v
 | ⟨l2,l3,e,q,h1,h2⟩ => ⟨l2,l3 ++ m,by rw [e]; simp,q,by simp [h1],h2⟩
theorem Aft.left {rows : List (List Int)} {l m : List Int} {v : Int} : Aft rows l v → Aft rows (m ++ l) v
 | ⟨l2,l3,e,q,h1,h2⟩ => ⟨m ++ l2,l3,by rw [e]; simp,q,h1,h2⟩
structure OV (n : Nat) (rows : List (List Int)) (se : List Bool) (l : List Int) (se' : List Bool) (R : Int → Prop) : Prop where
 len : se'.length = n
 mem : ∀ v : Nat,v < n → (ix se' v = true ↔ ix se v = true ∨ (v : Int) ∈ l)
 nd : l.Nodup
 new : ∀ v ∈ l,(0 ≤ v ∧ v < n) ∧ ix se v.toNat = false
 cl : ∀ v ∈ l,∀ t ∈ ix rows v.toNat,ix se' t.toNat = true
 af : ∀ v ∈ l,R v ∨ Aft rows l v
section
variable {n : Nat} {rows : List (List Int)} {se se' se2 : List Bool} {l l2 : List Int} {R : Int → Prop} {a : Int}
theorem OV.up (h : OV n rows se l se' R) {v : Nat} (hv : v < n) (h1 : ix se v = true) : ix se' v = true := (h.mem v hv).2 (.inl h1)
theorem OV.tr (hr : ∀ v t,t ∈ ix rows v → 0 ≤ t ∧ t < n) (h : OV n rows se l se' R) (h2 : OV n rows se' l2 se2 R) : OV n rows se (l ++ l2) se2 R := by
 refine ⟨h2.len,fun v hv => ?_,List.nodup_append.2 ⟨h.nd,h2.nd,fun x hx y hy e => ?_⟩,fun v hv => ?_,fun v hv t ht => ?_,fun v hv => ?_⟩
 · rw [h2.mem v hv,h.mem v hv,List.mem_append,or_assoc]
 · subst e
   have h3 := h.new x hx
   have h4 := (h2.new x hy).2
   rw [(h.mem x.toNat (by omega)).2 (.inr (by rw [Int.toNat_of_nonneg h3.1.1]; exact hx))] at h4; cases h4
 · rcases List.mem_append.1 hv with h3 | h3
   · exact h.new v h3
   · have h4 := h2.new v h3
     refine ⟨h4.1,?_⟩
     cases h5 : ix se v.toNat with
     | false => rfl
     | true => rw [h.up (by omega) h5] at h4; cases h4.2
 · rcases List.mem_append.1 hv with h3 | h3
   · have := hr _ t ht; exact h2.up (by omega) (h.cl v h3 t ht)
   · exact h2.cl v h3 t ht
 · rcases List.mem_append.1 hv with h3 | h3
   · exact (h.af v h3).imp id Aft.right
   · exact (h2.af v h3).imp id Aft.left
theorem OV.done (hl : se.length = n) (ha : 0 ≤ a ∧ a < n) (h0 : ix se a.toNat = false) (h : OV n rows (se.set a.toNat true) l se' (fun v => v ∈ ix rows a.toNat)) (hc : ∀ t ∈ ix rows a.toNat,ix se' t.toNat = true) : OV n rows se (l ++ [a]) se' (fun v => v = a) := by
 have hs : ∀ v,ix (se.set a.toNat true) v = if v = a.toNat then true else ix se v := fun v => ix_set (by omega)
 have hna : a ∉ l := fun h9 => by have := (h.new a h9).2; rw [hs,if_pos rfl] at this; cases this
 refine ⟨h.len,fun v hv => ?_,List.nodup_append.2 ⟨h.nd,by simp,fun x hx y hy e => ?_⟩,fun v hv => ?_,fun v hv t ht => ?_,fun v hv => ?_⟩
 · rw [h.mem v hv,hs,List.mem_append,List.mem_singleton]
   by_cases e : v = a.toNat
   · rw [if_pos e]; exact ⟨fun _ => .inr (.inr (by omega)),fun _ => .inl rfl⟩
   · rw [if_neg e]; exact ⟨fun h => h.imp id .inl,fun h => h.imp id (fun h => h.resolve_right (by omega))⟩
 · simp at hy; subst hy; subst e; exact hna hx
 · rcases List.mem_append.1 hv with h3 | h3
   · have h4 := h.new v h3
     refine ⟨h4.1,?_⟩
     rw [hs] at h4
     split at h4
     · cases h4.2
     · exact h4.2
   · simp at h3; subst h3; exact ⟨ha,h0⟩
 · rcases List.mem_append.1 hv with h3 | h3
   · exact h.cl v h3 t ht
   · simp at h3; subst h3; exact hc t ht
 · rcases List.mem_append.1 hv with h3 | h3
   · right
     rcases h.af v h3 with h4 | h4
     · obtain ⟨l2,l3,e⟩ := List.append_of_mem h3
       exact ⟨l2,l3 ++ [a],by rw [e]; simp,a,by simp,h4⟩
     · exact h4.right
   · exact .inl (by simpa using h3)
end
structure OD (n : Nat) (rows : List (List Int)) (ord : List Int) : Prop where
 nd : ord.Nodup
 all : ∀ v : Int,v ∈ ord ↔ 0 ≤ v ∧ v < n
 hd : ord.head? = some 0
 fw : ∀ v : Int,v ∈ ord → v ≠ 0 → ∃ l2 l3,ord = l2 ++ v :: l3 ∧ ∃ q ∈ l2,v ∈ ix rows q.toNat
structure NU (n : Nat) (ord num : List Int) : Prop where
 len : num.length = n
 pos : ∀ k,k < ord.length → ix num (ix ord k).toNat = k
theorem nodup_len : ∀ (n : Nat) (l : List Int),l.Nodup → (∀ v ∈ l,0 ≤ v ∧ v < n) → l.length ≤ n
 | 0,[],_,_ => Nat.le_refl _
 | 0,x :: l,_,h => by have := h x (by simp); omega
 | n + 1,l,hn,h => by
   have h1 := nodup_len n (l.erase n) (hn.erase _) (fun v hv => by
     have h2 := h v (List.mem_of_mem_erase hv)
     have h3 := ((hn.mem_erase_iff).1 hv).1
     omega)
   rw [List.length_erase] at h1
   split at h1 <;> omega
def keptM (row : List Int) (n : Int) : List Int := Lib.compact (sortM (row.filter (fun b => decide (0 ≤ b) && decide (b < n))))
theorem kept_mem {row : List Int} {n x : Int} : x ∈ keptM row n ↔ x ∈ row ∧ 0 ≤ x ∧ x < n := by
 unfold keptM
 rw [comp_mem,sortM_mem,List.mem_filter]
 simp
theorem kept_ris (row : List Int) (n : Int) : (keptM row n).Pairwise (· < ·) := comp_ris (sortM_le _)
theorem kept_ext {a b : List Int} (h1 : a.Pairwise (· < ·)) (h2 : b.Pairwise (· < ·)) (h : ∀ x,x ∈ a ↔ x ∈ b) : a = b := ris_ext h1 h2 h
theorem kept_kept (row : List Int) (n : Int) : keptM (keptM row n) n = keptM row n := kept_ext (kept_ris _ _) (kept_ris _ _) (fun x => by rw [kept_mem,kept_mem]; exact ⟨fun h => h.1,fun h => ⟨h,h.2⟩⟩)
def cleanM (g : List (List Int)) : List (List Int) := g.map (fun row => keptM row g.length)
def graphF (f : D.Func) : List (List Int) := f.Blocks.map (fun b => keptM b.Term.To f.Blocks.length)
def operM (op : Int) : Int × Int := if op = 1 then (0,0) else if op = 15 then (1,1) else if op = 17 then (0,4) else (2,2)
section
variable {idom num : List Int} {k : Nat} {a b : Int}
end
theorem ix_mapG {α β : Type} [Inhabited α] [Inhabited β] {l : List α} {f : α → β} {k : Nat} (h : k < l.length) : ix (l.map f) k = f (ix l k) := by
 rw [ix_eq (by simpa using h),ix_eq h]; simp
structure OP (n : Nat) (rows : List (List Int)) (se : List Bool) (out : List Int) (a : Int) : Prop where
 len : se.length = n
 n512 : n ≤ 512
 a0 : 0 ≤ a ∧ a < n
 no : ix se a.toNat = false
 rl : rows.length = n
 rows : ∀ v t,t ∈ ix rows v → 0 ≤ t ∧ t < n
 nd : out.Nodup
 vis : ∀ v ∈ out,(0 ≤ v ∧ v < n) ∧ ix se v.toNat = true
section
variable {n : Nat} {rows : List (List Int)} {se se2 se3 : List Bool} {out l l2 l3 : List Int} {a t : Int} {R : Int → Prop} {k : Nat}
theorem OP.all (h : OP n rows se out a) (ho : OV n rows (se.set a.toNat true) l se2 R) : (out ++ l).Nodup ∧ ∀ v ∈ out ++ l,(0 ≤ v ∧ v < n) ∧ ix se2 v.toNat = true := by
 have ha := h.a0
 have hs : ∀ v,ix (se.set a.toNat true) v = if v = a.toNat then true else ix se v := fun v => ix_set (by rw [h.len]; omega)
 refine ⟨List.nodup_append.2 ⟨h.nd,ho.nd,fun x hx y hy e => ?_⟩,fun v hv => ?_⟩
 · subst e
   have h1 := (h.vis x hx).2
   have h2 := (ho.new x hy).2
   rw [hs] at h2
   split at h2
   · cases h2
   · rw [h1] at h2; cases h2
 · rcases List.mem_append.1 hv with h1 | h1
   · have h2 := h.vis v h1
     refine ⟨h2.1,(ho.mem v.toNat (by omega)).2 (.inl ?_)⟩
     rw [hs]; split
     · rfl
     · exact h2.2
   · have h2 := (ho.new v h1).1
     exact ⟨h2,(ho.mem v.toNat (by omega)).2 (.inr (by rw [Int.toNat_of_nonneg h2.1]; exact h1))⟩
theorem OP.next (h : OP n rows se out a) (ho : OV n rows (se.set a.toNat true) l se2 R) (ht : t ∈ ix rows a.toNat) (hn : ix se2 t.toNat = false) : OP n rows se2 (out ++ l) t :=
 ⟨ho.len,h.n512,h.rows _ t ht,hn,h.rl,h.rows,(h.all ho).1,(h.all ho).2⟩
theorem cnt3_mono : ∀ {a b : List Bool},a.length = b.length → (∀ i,ix a i = true → ix b i = true) → cnt3 b ≤ cnt3 a
 | [],[],_,_ => Nat.le_refl _
 | x :: a,y :: b,h,h2 => by
   have h3 := cnt3_mono (a := a) (b := b) (by simpa using h) (fun i hi => by have := h2 (i + 1) (by rw [ix_cons]; exact hi); rwa [ix_cons] at this)
   have h0 := h2 0
   rw [ix_zero,ix_zero] at h0
   unfold cnt3 at h3 ⊢
   rw [List.countP_cons,List.countP_cons]
   cases x <;> cases y <;> simp_all <;> omega
theorem OP.less (h : OP n rows se out a) (ho : OV n rows (se.set a.toNat true) l se2 R) : cnt3 se2 < cnt3 se := by
 have ha := h.a0
 have h1 := cnt3_set (l := se) (i := a.toNat) (by rw [h.len]; omega) h.no
 have h2 := cnt3_mono (a := se.set a.toNat true) (b := se2) (by rw [List.length_set,h.len,ho.len]) (fun i hi => (ho.mem i (by have := ix_len hi; rw [List.length_set,h.len] at this; exact this)).2 (.inl hi))
 omega
end
structure PO (n : Nat) (rows : List (List Int)) (se : List Bool) (l : List Int) (se' : List Bool) (a : Int) : Prop where
 ends : ∃ l0,l = l0 ++ [a]
 ov : OV n rows se l se' (fun v => v = a)
theorem PO.mem {n : Nat} {rows : List (List Int)} {se se' : List Bool} {l : List Int} {a : Int} (h : PO n rows se l se' a) : a ∈ l := by obtain ⟨l0,e⟩ := h.ends; rw [e]; simp
theorem ix_out {α : Type} [Inhabited α] {l : List α} {i : Nat} (h : l.length ≤ i) : ix l i = default := by
 simp [ix,List.getD,List.getElem?_eq_none h]
theorem clean_len (g : List (List Int)) : (cleanM g).length = g.length := by simp [cleanM]
theorem clean_rng (g : List (List Int)) : ∀ v t,t ∈ ix (cleanM g) v → 0 ≤ t ∧ t < g.length := fun v t h => by
 by_cases hv : v < g.length
 · unfold cleanM at h
   rw [ix_mapG hv] at h
   exact (kept_mem.1 h).2
 · rw [ix_out (by rw [clean_len]; omega)] at h; cases h
theorem PO.len {n : Nat} {rows : List (List Int)} {se se' : List Bool} {l : List Int} {a : Int} (h : PO n rows se l se' a) (hn : n ≤ 512) : ([] ++ l).length < 1073741824 := by
 have h1 := nodup_len n l h.ov.nd (fun v hv => (h.ov.new v hv).1)
 rw [List.nil_append]; omega
def edgesT (rows : List (List Int)) : Nat → List (Int × Int)
 | 0 => []
 | k + 1 => edgesT rows k ++ (ix rows k).map (fun b => ((k : Int),b))
def pushE (rs : List (List Int)) (p : Int × Int) : List (List Int) := rs.set p.2.toNat (ix rs p.2.toNat ++ [p.1])
def predsE (n : Nat) (l : List (Int × Int)) : List (List Int) := l.foldl pushE (List.replicate n [])
def predsG (g : List (List Int)) : List (List Int) := predsE g.length (edgesT (cleanM g) g.length)
theorem predsE_len {n : Nat} (l : List (Int × Int)) : (predsE n l).length = n := by
 unfold predsE
 have : ∀ (l : List (Int × Int)) (rs : List (List Int)),(l.foldl pushE rs).length = rs.length := by
   intro l
   induction l with
   | nil => intro rs; rfl
   | cons p l ih => intro rs; rw [List.foldl_cons,ih]; simp [pushE]
 rw [this]; simp
theorem push_row {n : Nat} {q : Int} : ∀ (row : List Int) (rs : List (List Int)),rs.length = n → row.Nodup → (∀ v ∈ row,0 ≤ v ∧ v < n) → ∀ v : Nat,ix ((row.map (fun b => (q,b))).foldl pushE rs) v = ix rs v ++ if (v : Int) ∈ row then [q] else []
 | [],rs,_,_,_,v => by simp
 | b :: row,rs,hl,hn,hr,v => by
   have h1 := hr b (by simp)
   have h2 := List.nodup_cons.1 hn
   have h3 := push_row (q := q) row (pushE rs (q,b)) (by simp [pushE,hl]) h2.2 (fun v hv => hr v (by simp [hv])) v
   rw [List.map_cons,List.foldl_cons,h3]
   unfold pushE
   dsimp only
   rw [ix_set (by omega)]
   by_cases e : v = b.toNat
   · have e2 : (v : Int) = b := by omega
     rw [if_pos e,← e,e2,if_neg h2.1,if_pos (by simp),List.append_nil]
   · have e2 : ¬ (v : Int) = b := by omega
     rw [if_neg e]
     congr 1
     by_cases h4 : (v : Int) ∈ row
     · rw [if_pos h4,if_pos (by simp [h4])]
     · rw [if_neg h4,if_neg (by simp [h4,e2])]
def predK (rows : List (List Int)) : Nat → Nat → List Int
 | 0,_ => []
 | k + 1,v => predK rows k v ++ if (v : Int) ∈ ix rows k then [(k : Int)] else []
theorem preds_K {n : Nat} {rows : List (List Int)} (hn : ∀ k,(ix rows k).Nodup) (hr : ∀ v t,t ∈ ix rows v → 0 ≤ t ∧ t < n) (v : Nat) : ∀ k,ix (predsE n (edgesT rows k)) v = predK rows k v
 | 0 => by unfold predsE; rw [edgesT,predK,List.foldl_nil]; by_cases h : v < n <;> simp [ix,h] <;> rfl
 | k + 1 => by
   have h1 := preds_K hn hr v k
   rw [edgesT,predK,← h1]
   unfold predsE
   rw [List.foldl_append]
   exact push_row _ _ (predsE_len (n := n) _) (hn k) (hr k) v
theorem clean_nd (g : List (List Int)) (k : Nat) : (ix (cleanM g) k).Nodup := by
 by_cases hk : k < g.length
 · unfold cleanM; rw [ix_mapG hk]; exact (kept_ris _ _).imp (fun h => by omega)
 · rw [ix_out (by rw [clean_len]; omega)]; exact List.nodup_nil
theorem predsG_at (g : List (List Int)) (v : Nat) : ix (predsG g) v = predK (cleanM g) g.length v := preds_K (clean_nd g) (clean_rng g) v _
theorem predK_mem {rows : List (List Int)} {v : Nat} : ∀ {n : Nat} {x : Int},x ∈ predK rows n v ↔ ∃ k : Nat,k < n ∧ x = k ∧ (v : Int) ∈ ix rows k
 | 0,x => by simp [predK]
 | n + 1,x => by
   rw [predK,List.mem_append,predK_mem (n := n)]
   constructor
   · rintro (⟨k,h1,h2,h3⟩ | h)
     · exact ⟨k,by omega,h2,h3⟩
     · split at h
       · rename_i h2; simp at h; exact ⟨n,by omega,h,h2⟩
       · cases h
   · rintro ⟨k,h1,h2,h3⟩
     rcases Nat.lt_or_ge k n with h4 | h4
     · exact .inl ⟨k,h4,h2,h3⟩
     · have e : k = n := by omega
       subst e
       exact .inr (by rw [if_pos h3]; simpa using h2)
def prG (g : List (List Int)) (q t : Nat) : Prop := (t : Int) ∈ ix (cleanM g) q
theorem prG_rng {g : List (List Int)} {q t : Nat} (h : prG g q t) : q < g.length ∧ t < g.length := by
 refine ⟨?_,by have := clean_rng g q t h; omega⟩
 rcases Nat.lt_or_ge q g.length with h1 | h1
 · exact h1
 · unfold prG at h; rw [ix_out (by rw [clean_len]; omega)] at h; cases h
theorem preds_pr {g : List (List Int)} {p b : Nat} : (p : Int) ∈ ix (predsG g) b ↔ prG g p b := by
 rw [predsG_at,predK_mem]
 constructor
 · rintro ⟨k,h1,h2,h3⟩
   have : p = k := by omega
   subst this; exact h3
 · exact fun h => ⟨p,(prG_rng h).1,rfl,h⟩
theorem od_rng {n : Nat} {rows : List (List Int)} {ord : List Int} (ho : OD n rows ord) {k : Nat} (hk : k < ord.length) : 0 ≤ ix ord k ∧ ix ord k < n := (ho.all _).1 (ix_mem hk)
theorem nodup_inj {α : Type} : ∀ {l : List α},l.Nodup → ∀ {i j : Nat} (hi : i < l.length) (hj : j < l.length),l[i] = l[j] → i = j
 | [],_,i,_,hi,_,_ => by cases hi
 | x :: l,h,0,0,_,_,_ => rfl
 | x :: l,h,0,j + 1,_,hj,e => by
   rw [List.getElem_cons_zero,List.getElem_cons_succ] at e
   exact absurd (by rw [e]; exact List.getElem_mem _) (List.nodup_cons.1 h).1
 | x :: l,h,i + 1,0,hi,_,e => by
   rw [List.getElem_cons_zero,List.getElem_cons_succ] at e
   exact absurd (by rw [← e]; exact List.getElem_mem _) (List.nodup_cons.1 h).1
 | x :: l,h,i + 1,j + 1,hi,hj,e => by
   rw [List.getElem_cons_succ,List.getElem_cons_succ] at e
   rw [nodup_inj (List.nodup_cons.1 h).2 _ _ e]
def NK (n : Nat) (ord nm : List Int) (k : Nat) : Prop := nm.length = n ∧ ∀ j,j < k → ix nm (ix ord j).toNat = j
theorem NK.nx {n : Nat} {rows : List (List Int)} {ord nm : List Int} {k : Nat} (ho : OD n rows ord) (h : NK n ord nm k) (hk : k < ord.length) : NK n ord (nm.set (ix ord k).toNat k) (k + 1) := by
 refine ⟨by rw [List.length_set]; exact h.1,fun j hj => ?_⟩
 have h1 := od_rng ho hk
 have h2 := od_rng ho (k := j) (by omega)
 rw [ix_set (by rw [h.1]; omega)]
 split
 · rename_i e
   have e2 : ix ord j = ix ord k := by omega
   have : j = k := by
     rw [ix_eq (show j < ord.length by omega),ix_eq hk] at e2
     exact nodup_inj ho.nd _ _ e2
   omega
 · rename_i e
   rcases Nat.lt_or_ge j k with h3 | h3
   · exact h.2 j h3
   · exact absurd (show (ix ord j).toNat = (ix ord k).toNat by rw [show j = k by omega]) e
theorem NK.nu {n : Nat} {ord nm : List Int} (h : NK n ord nm ord.length) : NU n ord nm := ⟨h.1,h.2⟩
structure IR (n : Nat) (num : List Int) (pr : Nat → Nat → Prop) (ou0 ou : List Int) (ch : Bool) (k : Nat) : Prop where
 is : IS n num pr ou ((k + 1 : Nat) : Int)
 le : smI n num ou n ≤ smI n num ou0 n
 lt : ch = true → smI n num ou n < smI n num ou0 n
section
variable {n : Nat} {num ou0 ou : List Int} {pr : Nat → Nat → Prop} {ch : Bool} {k : Nat} {best : Int} {b : Nat}
theorem IR.set (hg : GN n num pr) (h : IR n num pr ou0 ou ch k) (hb : b < n) (hb0 : b ≠ 0) (hi : ix num b = ((k + 1 : Nat) : Int)) (hB : BS ou (fun p => pr p b) best) (hne : ix ou b ≠ best) : IR n num pr ou0 (ou.set b best) true (k + 1) := by
 obtain ⟨h1,h2,h3,h4⟩ := h.is.step hg hb hb0 hi hB
 have h5 := h.is.less hg hb ⟨h1,h2⟩ hne h4
 have h6 := h.le
 exact ⟨by rw [show ((k + 1 + 1 : Nat) : Int) = ((k + 1 : Nat) : Int) + 1 by omega]; exact h3,by omega,fun _ => by omega⟩
end
theorem IS.pd {n : Nat} {num out : List Int} {pr : Nat → Nat → Prop} {i : Int} (h : IS n num pr out i) {x : Int} (hx : 0 ≤ x) : pdn out x.toNat ↔ ¬ (x ≠ 0 ∧ ix out x.toNat < 0) := by
 unfold pdn
 constructor
 · rintro (h1 | h1) ⟨h2,h3⟩ <;> omega
 · intro h1
   by_cases e : x = 0
   · exact .inl (by omega)
   · exact .inr (by rcases Int.lt_or_le (ix out x.toNat) 0 with h2 | h2; exact absurd ⟨e,h2⟩ h1; exact h2)
section
variable {n : Nat} {num ou l : List Int} {pr : Nat → Nat → Prop} {i a best : Int} {j : Nat}
def S9 (n : Nat) (ou l : List Int) (j : Nat) (best : Int) : Prop := j ≤ l.length ∧ BS ou (Pk l j) best ∧ -1 ≤ best ∧ best < (n : Int)
end
theorem S9.all {g : List (List Int)} {ou : List Int} {j b : Nat} {best : Int} (h : S9 g.length ou (ix (predsG g) b) j best) (hj : j = (ix (predsG g) b).length) : BS ou (fun p => prG g p b) best := by
 subst hj; exact h.2.1.all (fun p => preds_pr)
inductive RA (to : List (List Int)) (n w : Nat) : Nat → Prop
 | zero : w ≠ 0 → RA to n w 0
 | step {x : Nat} {t : Int} : RA to n w x → t ∈ ix to x → 1 ≤ t → t < n → t ≠ w → RA to n w t.toNat
theorem RA.nz {to : List (List Int)} {n w x : Nat} (h : RA to n w x) : w ≠ 0 := by
 induction h with
 | zero h => exact h
 | step _ _ _ _ _ ih => exact ih
theorem ra_lt {to : List (List Int)} {n w x : Nat} (hn : 0 < n) (h : RA to n w x) : x < n := by
 induction h with
 | zero h => exact hn
 | step _ _ _ _ _ _ => omega
theorem ra_reach {to : List (List Int)} {f : D.Func} {n w x : Nat} (hl : f.Blocks.length = n) (hn : 0 < n) (ht : ∀ j,j < n → (ix f.Blocks j).Term.To = ix to j) (h : RA to n w x) : ix (reach3 f (w : Int)) x = true := by
 have hw := h.nz
 obtain ⟨h0,hc⟩ := reach3_cl (f := f) (w := (w : Int)) (by omega) (by omega)
 induction h with
 | zero h => exact h0
 | @step y t h1 h2 h3 h4 h5 ih => exact hc _ ih t (by rw [ht _ (ra_lt hn h1)]; exact h2) (by omega) (by omega) h5
def mkB (x : D.Block) : List Int := x.Phis.map (fun p => p.Dst) ++ x.Ins.flatMap makes3
def Vs (n : Nat) (to : List (List Int)) (par : Int) (bs : List D.Block) (b : Nat) (r : Int) : Prop := (0 ≤ r ∧ r < par) ∨ ∃ a,a < n ∧ (a = b ∨ ¬ RA to n a b) ∧ r ∈ mkB (ix bs a)
def Vo (n : Nat) (to : List (List Int)) (par : Int) (bs : List D.Block) (b : Nat) (r : Int) : Prop := (0 ≤ r ∧ r < par) ∨ ∃ a,a < n ∧ (a ≠ b ∧ ¬ RA to n a b) ∧ r ∈ mkB (ix bs a)
def gIn (S : Int → Prop) (l : List D.Ins) : Prop := ∀ k,k < l.length → ∀ r ∈ (ix l k).Args,S r ∨ r ∈ (l.take k).flatMap makes3
theorem gIn.add {S : Int → Prop} {l : List D.Ins} {i : D.Ins} (h : gIn S l) (hi : ∀ r ∈ i.Args,S r ∨ r ∈ l.flatMap makes3) : gIn S (l ++ [i]) := fun k hk r hr => by
 rw [List.length_append,List.length_singleton] at hk
 rcases Nat.lt_or_ge k l.length with h1 | h1
 · rw [ix_app h1] at hr
   rw [List.take_append_of_le_length (by omega)]; exact h k h1 r hr
 · have e : k = l.length := by omega
   subst e
   have e2 : ix (l ++ [i]) l.length = i := by rw [ix_eq (by simp)]; simp
   rw [e2] at hr
   rw [List.take_left' rfl]; exact hi r hr
theorem gIn.mono {S S' : Int → Prop} {l : List D.Ins} (h : gIn S l) (hs : ∀ r,S r → S' r) : gIn S' l := fun k hk r hr => (h k hk r hr).imp (hs r) id
structure VI (n : Nat) (to : List (List Int)) (par : Int) (bs : List D.Block) : Prop where
 len : bs.length = n
 gd : ∀ j,j < n → gIn (fun r => Vo n to par bs j r ∨ r ∈ (ix bs j).Phis.map (fun p => p.Dst)) (ix bs j).Ins
 tm : ∀ j,j < n → ∀ r ∈ (ix bs j).Term.Args,Vs n to par bs j r
 ph : ∀ j,j < n → ∀ p ∈ (ix bs j).Phis,∀ x ∈ p.In,(0 ≤ x.From ∧ x.From < n) ∧ Vs n to par bs x.From.toNat x.Val
def upB (bs bs' : List D.Block) : Prop := ∀ j,∀ r ∈ mkB (ix bs j),r ∈ mkB (ix bs' j)
section
variable {n : Nat} {to : List (List Int)} {par : Int} {bs bs' : List D.Block} {b : Nat} {r : Int}
theorem Vs.up (h : Vs n to par bs b r) (hu : upB bs bs') : Vs n to par bs' b r := h.imp id fun ⟨a,h1,h2,h3⟩ => ⟨a,h1,h2,hu a r h3⟩
theorem Vo.up (h : Vo n to par bs b r) (hu : upB bs bs') : Vo n to par bs' b r := h.imp id fun ⟨a,h1,h2,h3⟩ => ⟨a,h1,h2,hu a r h3⟩
theorem Vs.here (hb : b < n) (h : r ∈ mkB (ix bs b)) : Vs n to par bs b r := .inr ⟨b,hb,.inl rfl,h⟩
theorem Vs.split (h : Vs n to par bs b r) : (Vo n to par bs b r ∨ r ∈ (ix bs b).Phis.map (fun p => p.Dst)) ∨ r ∈ (ix bs b).Ins.flatMap makes3 := by
 rcases h with h | ⟨a,h1,h2,h3⟩
 · exact .inl (.inl (.inl h))
 · by_cases e : a = b
   · subst e
     rcases List.mem_append.1 h3 with h4 | h4
     · exact .inl (.inr h4)
     · exact .inr h4
   · exact .inl (.inl (.inr ⟨a,h1,⟨e,h2.resolve_left e⟩,h3⟩))
theorem VI.put {x : D.Block} (h : VI n to par bs) (hb : b < n) (hm : ∀ r ∈ mkB (ix bs b),r ∈ mkB x) (hp : x.Phis.map (fun p => p.Dst) = (ix bs b).Phis.map (fun p => p.Dst) ∨ ∀ r ∈ (ix bs b).Phis.map (fun p => p.Dst),r ∈ x.Phis.map (fun p => p.Dst))
   (hi : gIn (fun r => Vo n to par bs b r ∨ r ∈ (ix bs b).Phis.map (fun p => p.Dst)) x.Ins) (ht : ∀ r ∈ x.Term.Args,Vs n to par bs b r)
   (hq : ∀ p ∈ x.Phis,∀ y ∈ p.In,(0 ≤ y.From ∧ y.From < n) ∧ Vs n to par bs y.From.toNat y.Val) : VI n to par (bs.set b x) ∧ upB bs (bs.set b x) := by
 have hl := h.len
 have hu : upB bs (bs.set b x) := fun j r hr => by
   rw [ix_set (by omega)]; split
   · rename_i e; subst e; exact hm r hr
   · exact hr
 have hp' : ∀ r ∈ (ix bs b).Phis.map (fun p => p.Dst),r ∈ x.Phis.map (fun p => p.Dst) := fun r hr => hp.elim (fun e => by rw [e]; exact hr) (fun h => h r hr)
 refine ⟨⟨by rw [List.length_set]; exact hl,fun j hj => ?_,fun j hj r hr => ?_,fun j hj p hm9 y hy => ?_⟩,hu⟩
 · rw [ix_set (by omega)]; split
   · rename_i e; subst e
     exact hi.mono fun r hr => hr.imp (fun h => h.up hu) (hp' r)
   · exact (h.gd j hj).mono fun r hr => hr.imp (fun h => h.up hu) id
 · rw [ix_set (by omega)] at hr; split at hr
   · rename_i e; subst e; exact (ht r hr).up hu
   · exact (h.tm j hj r hr).up hu
 · rw [ix_set (by omega)] at hm9; split at hm9
   · rename_i e; subst e; have := hq p hm9 y hy; exact ⟨this.1,this.2.up hu⟩
   · have := h.ph j hj p hm9 y hy; exact ⟨this.1,this.2.up hu⟩
theorem VI.addI {i : D.Ins} (h : VI n to par bs) (hb : b < n) (hi : ∀ r ∈ i.Args,Vs n to par bs b r) : VI n to par (bs.set b { (ix bs b) with Ins := (ix bs b).Ins ++ [i] }) ∧ upB bs (bs.set b { (ix bs b) with Ins := (ix bs b).Ins ++ [i] }) ∧ ∀ r ∈ makes3 i,r ∈ mkB (ix (bs.set b { (ix bs b) with Ins := (ix bs b).Ins ++ [i] }) b) := by
 have h1 := h.put (x := { (ix bs b) with Ins := (ix bs b).Ins ++ [i] }) hb (fun r hr => by
   unfold mkB at hr ⊢
   dsimp only
   rw [List.flatMap_append]
   rcases List.mem_append.1 hr with h2 | h2
   · exact List.mem_append.2 (.inl h2)
   · exact List.mem_append.2 (.inr (List.mem_append.2 (.inl h2)))) (.inl rfl) ((h.gd b hb).add fun r hr => (hi r hr).split) (h.tm b hb) (h.ph b hb)
 refine ⟨h1.1,h1.2,fun r hr => ?_⟩
 rw [ix_set (by rw [h.len]; exact hb),if_pos rfl]
 unfold mkB
 dsimp only
 rw [List.flatMap_append]
 exact List.mem_append.2 (.inr (List.mem_append.2 (.inr (by simpa using hr))))
end
structure VB (n : Nat) (to : List (List Int)) (b : Nat) (par : Int) (bs : List D.Block) (lv : List Int) : Prop where
 vi : VI n to par bs
 vl : ∀ x ∈ lv,Vs n to par bs b x
abbrev VM (n : Nat) (to : List (List Int)) (b : Nat) (m : Mk) : Prop := VB n to b m.par m.bs m.lv
structure VG (n : Nat) (to : List (List Int)) (b : Nat) (m m' : Mk) : Prop where
 vm : VM n to b m'
 par : m'.par = m.par
 up : upB m.bs m'.bs
abbrev Wv (n : Nat) (to : List (List Int)) (b : Nat) (m : Mk) (x : Int) : Prop := Vs n to m.par m.bs b x
section
variable {n : Nat} {to : List (List Int)} {b : Nat} {m m' m2 : Mk} {x : Int}
theorem VG.on (g : VG n to b m m') (h : Wv n to b m x) : Wv n to b m' x := by unfold Wv; rw [g.par]; exact h.up g.up
theorem VG.tr (g : VG n to b m m') (h : VG n to b m' m2) : VG n to b m m2 := ⟨h.vm,h.par.trans g.par,fun j r hr => h.up j r (g.up j r hr)⟩
theorem VM.rf (h : VM n to b m) : VG n to b m m := ⟨h,rfl,fun _ _ h => h⟩
theorem VM.same (h : VM n to b m) (h1 : m'.par = m.par) (h2 : m'.bs = m.bs) (h3 : m'.lv = m.lv) : VG n to b m m' := ⟨by unfold VM; rw [h1,h2,h3]; exact h,h1,by rw [h2]; exact fun _ _ h => h⟩
theorem VM.add {i : D.Ins} (h : VM n to b m) (hb : b < n) (hi : ∀ r ∈ i.Args,Wv n to b m r) : VG n to b m (addS (b : Int) i m) ∧ ∀ r ∈ makes3 i,Wv n to b (addS (b : Int) i m) r := by
 obtain ⟨h1,h2,h3⟩ := h.vi.addI hb hi
 have e : (addS (b : Int) i m).bs = m.bs.set b { (ix m.bs b) with Ins := (ix m.bs b).Ins ++ [i] } := rfl
 have hn : ∀ r ∈ makes3 i,Wv n to b (addS (b : Int) i m) r := fun r hr => Vs.here hb (h3 r hr)
 refine ⟨⟨⟨h1,fun y hy => ?_⟩,rfl,h2⟩,hn⟩
 rcases List.mem_append.1 (show y ∈ m.lv ++ makes3 i from hy) with h4 | h4
 · exact (h.vl y h4).up h2
 · exact hn y h4
theorem VM.con {v : Int} (h : VM n to b m) (hb : b < n) : VG n to b m (constS (b : Int) v m) ∧ Wv n to b (constS (b : Int) v m) m.nx := by
 have h1 := VM.add (m := freshS m) (i := ⟨1,m.nx,0,[],v⟩) h hb (fun r hr => by cases hr)
 exact ⟨⟨h1.1.vm,rfl,h1.1.up⟩,h1.2 m.nx (by simp [makes3])⟩
theorem same_value : (valueS m).par = m.par ∧ (valueS m).bs = m.bs ∧ (valueS m).lv = m.lv := by unfold valueS; split <;> exact ⟨rfl,rfl,rfl⟩
theorem same_some0 : (someM0 m).par = m.par ∧ (someM0 m).bs = m.bs ∧ (someM0 m).lv = m.lv := by
 unfold someM0; split
 · exact same_value (m := m)
 · exact same_value
theorem VM.some (h : VM n to b m) (hb : b < n) : VG n to b m (sS9 (b : Int) m) ∧ Wv n to b (sS9 (b : Int) m) (sV9 m) := by
 obtain ⟨e1,e2,e3⟩ := same_some0 (m := m)
 have h0 : VG n to b m (someM0 m) := h.same e1 e2 e3
 unfold sS9 sV9
 by_cases hc : someC m = true
 · rw [if_pos hc,if_pos hc]
   have h1 := VM.con (m := wordS (someM0 m)) (v := wordV (someM0 m)) h0.vm hb
   exact ⟨⟨h1.1.vm,e1,fun j r hr => h1.1.up j r (h0.up j r hr)⟩,h1.2⟩
 · rw [if_neg hc,if_neg hc]
   refine ⟨h0,h0.on ?_⟩
   have hv : valueB m = true := by
     cases h9 : valueB m with
     | true => rfl
     | false => exact absurd (by unfold someC; rw [h9]; rfl) hc
   have hl : m.lv.length ≠ 0 := by unfold valueB at hv; simpa using hv
   unfold valueV
   rw [if_neg hl]
   have hr : 0 ≤ valueI m ∧ valueI m < m.lv.length := by
     unfold valueI; split
     · omega
     · exact tV9 (by omega) m
   exact h.vl _ (ix_mem (l := m.lv) (i := (valueI m).toNat) (by omega))
end
section
variable {n : Nat} {to : List (List Int)} {b : Nat} {m m' m2 : Mk} {x : Int}
theorem VG.wv (g : VG n to b m m') (h : ∀ x ∈ ([] : List Int),Wv n to b m x) : True := trivial
theorem w2 {y z : Int} (h1 : Wv n to b m y) (h2 : Wv n to b m z) : ∀ r ∈ [y,z],Wv n to b m r := fun r hr => by
 simp at hr; rcases hr with rfl | rfl <;> assumption
theorem w1 {y : Int} (h1 : Wv n to b m y) : ∀ r ∈ [y],Wv n to b m r := fun r hr => by simp at hr; subst hr; exact h1
theorem VM.me1 (h : VM n to b m) (hb : b < n) : VG n to b m (mem1 (b : Int) m).2 ∧ Wv n to b (mem1 (b : Int) m).2 (mem1 (b : Int) m).1 := by
 have h1 := VM.con (m := tSS m) (v := IntKind.i32.wrap (tVV 9 m)) h hb
 have g1 : VG n to b m (constS (b : Int) (IntKind.i32.wrap (tVV 9 m)) (tSS m)) := ⟨h1.1.vm,rfl,h1.1.up⟩
 have w0 := h1.2
 unfold mem1
 dsimp only
 generalize constS (b : Int) (IntKind.i32.wrap (tVV 9 m)) (tSS m) = m1 at g1 w0 ⊢
 split
 · have g2 : VG n to b m1 (tSS m1) := g1.vm.same rfl rfl rfl
   have h3 := VM.some (m := tSS m1) g2.vm hb
   have h4 := VM.con (m := sS9 (b : Int) (tSS m1)) (v := 7) h3.1.vm hb
   have h6 := VM.add (m := freshS (constS (b : Int) 7 (sS9 (b : Int) (tSS m1)))) (i := ⟨5,(constS (b : Int) 7 (sS9 (b : Int) (tSS m1))).nx,0,[sV9 (tSS m1),(sS9 (b : Int) (tSS m1)).nx],0⟩) h4.1.vm hb (w2 (h4.1.on h3.2) h4.2)
   have g14 := g2.tr (h3.1.tr h4.1)
   generalize constS (b : Int) 7 (sS9 (b : Int) (tSS m1)) = m4 at h4 h6 g14 ⊢
   have g6 : VG n to b m4 (addS (b : Int) ⟨5,m4.nx,0,[sV9 (tSS m1),(sS9 (b : Int) (tSS m1)).nx],0⟩ (freshS m4)) := ⟨h6.1.vm,rfl,h6.1.up⟩
   have w6 := h6.2 m4.nx (by simp [makes3])
   generalize addS (b : Int) ⟨5,m4.nx,0,[sV9 (tSS m1),(sS9 (b : Int) (tSS m1)).nx],0⟩ (freshS m4) = m6 at g6 w6 ⊢
   have h7 := VM.add (m := freshS m6) (i := ⟨2,m6.nx,0,[(tSS m).nx,m4.nx],0⟩) g6.vm hb (w2 (g6.on (g14.on w0)) w6)
   exact ⟨g1.tr (g14.tr (g6.tr ⟨h7.1.vm,rfl,h7.1.up⟩)),h7.2 _ (by simp [makes3])⟩
 · exact ⟨g1.tr (g1.vm.same rfl rfl rfl),w0⟩
theorem VM.me2 (h : VM n to b m) : VG n to b m (mem2 m).2 := by
 unfold mem2; dsimp only; split <;> exact h.same rfl rfl rfl
theorem VM.mem {st : Bool} (h : VM n to b m) (hb : b < n) : VG n to b m (memS (b : Int) st m) := by
 have h1 := h.me1 hb
 have h2 := h1.1.vm.me2
 unfold memS
 dsimp only
 split
 · have h3 := h2.vm.some hb
   have h4 := h3.1.vm.add (i := ⟨16,0,0,[(mem1 (b : Int) m).1,sV9 (mem2 (mem1 (b : Int) m).2).2],(mem2 (mem1 (b : Int) m).2).1⟩) hb (w2 (h3.1.on (h2.on h1.2)) h3.2)
   exact h1.1.tr (h2.tr (h3.1.tr h4.1))
 · have h4 := VM.add (m := freshS (mem2 (mem1 (b : Int) m).2).2) (i := ⟨15,(mem2 (mem1 (b : Int) m).2).2.nx,0,[(mem1 (b : Int) m).1],(mem2 (mem1 (b : Int) m).2).1⟩) h2.vm hb (w1 (h2.on h1.2))
   exact h1.1.tr (h2.tr ⟨h4.1.vm,rfl,h4.1.up⟩)
theorem VM.args (hb : b < n) : ∀ (k : Nat) (l : List Int) (m : Mk),VM n to b m → (∀ x ∈ l,Wv n to b m x) → VG n to b m (argsL (b : Int) k l m).2 ∧ ∀ x ∈ (argsL (b : Int) k l m).1,Wv n to b (argsL (b : Int) k l m).2 x
 | 0,l,m,h,hl => ⟨h.rf,hl⟩
 | k + 1,l,m,h,hl => by
   have h1 := h.some hb
   rw [argsL]
   obtain ⟨a,d⟩ := VM.args hb k (l ++ [sV9 m]) (sS9 (b : Int) m) h1.1.vm (fun x hx => by
     rcases List.mem_append.1 hx with h2 | h2
     · exact h1.1.on (hl x h2)
     · simp at h2; subst h2; exact h1.2)
   exact ⟨h1.1.tr a,d⟩
theorem VM.ad (h : VM n to b m) (hb : b < n) {i : D.Ins} (hs : m'.par = m.par) (hs2 : m'.bs = m.bs) (hs3 : m'.lv = m.lv) (hi : ∀ r ∈ i.Args,Wv n to b m r) : VG n to b m (addS (b : Int) i m') := by
 have g := h.same hs hs2 hs3
 have h1 := g.vm.add (i := i) hb (fun r hr => g.on (hi r hr))
 exact g.tr h1.1
theorem VM.co (h : VM n to b m) (hb : b < n) {v : Int} (hs : m'.par = m.par) (hs2 : m'.bs = m.bs) (hs3 : m'.lv = m.lv) : VG n to b m (constS (b : Int) v m') ∧ Wv n to b (constS (b : Int) v m') m'.nx := by
 have g := h.same hs hs2 hs3
 have h1 := g.vm.con (v := v) hb
 exact ⟨g.tr h1.1,h1.2⟩
theorem VM.ins (h : VM n to b m) (hb : b < n) : VG n to b m (insS (b : Int) m) := by
 have g1 : VG n to b m (tSS m) := h.same rfl rfl rfl
 have h2 := g1.vm.some hb
 have h3 := h2.1.vm.some hb
 have w1' := h3.1.on h2.2
 have g3 := g1.tr (h2.1.tr h3.1)
 unfold insS
 dsimp only
 generalize tVV 20 m = k
 generalize tSS m = m1 at g1 h2 h3 w1' g3 ⊢
 split
 · split
   · have h4 := VM.co h3.1.vm hb (m' := tSS (tSS (sS9 (b : Int) (sS9 (b : Int) m1)))) (v := IntKind.i32.wrap (tVV 40 (tSS (sS9 (b : Int) (sS9 (b : Int) m1))) - 8)) rfl rfl rfl
     exact g3.tr (h4.1.tr (h4.1.vm.ad hb rfl rfl rfl (w2 (h4.1.on w1') h4.2)))
   · exact g3.tr (h3.1.vm.ad hb rfl rfl rfl (w2 w1' h3.2))
 split
 · exact g3.tr (h3.1.vm.ad hb rfl rfl rfl (w2 w1' h3.2))
 split
 · have h4 := VM.co h2.1.vm hb (m' := tSS (sS9 (b : Int) m1)) (v := IntKind.i32.wrap (tVV 12 (sS9 (b : Int) m1))) rfl rfl rfl
   have g4 := g1.tr (h2.1.tr h4.1)
   split
   · have h5 := VM.co h4.1.vm hb (m' := tSS (tSS (constS (b : Int) (IntKind.i32.wrap (tVV 12 (sS9 (b : Int) m1))) (tSS (sS9 (b : Int) m1))))) (v := IntKind.i32.wrap (1 + IntKind.i32.wrap (tVV 12 (tSS (constS (b : Int) (IntKind.i32.wrap (tVV 12 (sS9 (b : Int) m1))) (tSS (sS9 (b : Int) m1))))))) rfl rfl rfl
     exact g4.tr (h5.1.tr (h5.1.vm.ad hb rfl rfl rfl (w2 (h5.1.on (h4.1.on h2.2)) h5.2)))
   · exact g4.tr (h4.1.vm.ad hb rfl rfl rfl (w2 (h4.1.on h2.2) h4.2))
 split
 · exact g1.tr (g1.vm.mem hb)
 split
 · obtain ⟨a,d⟩ := VM.args hb (tVV 5 m1).toNat [] (tSS m1) g1.vm (fun x hx => by cases hx)
   have a' : VG n to b m1 (argsL (b : Int) (tVV 5 m1).toNat [] (tSS m1)).2 := ⟨a.vm,a.par,a.up⟩
   exact g1.tr (a'.tr (a.vm.ad hb rfl rfl rfl d))
 split
 · exact g3.tr (h3.1.vm.ad hb rfl rfl rfl (w2 w1' h3.2))
 · exact g1.tr (VM.co g1.vm hb (m' := wordS m1) (v := wordV m1) rfl rfl rfl).1
theorem VM.is (hb : b < n) : ∀ (k : Nat) {m : Mk},VM n to b m → VG n to b m (insN b k m)
 | 0,_,h => h.rf
 | k + 1,_,h => (h.ins hb).tr (VM.is hb k (h.ins hb).vm)
theorem VM.sT {t : D.Term} (h : VM n to b m) (hb : b < n) (hs : m'.par = m.par) (hs2 : m'.bs = m.bs) (hs3 : m'.lv = m.lv) (ht : ∀ r ∈ t.Args,Wv n to b m r) : VG n to b m (setT (b : Int) t m') := by
 have h1 := h.vi.put (x := { (ix m.bs b) with Term := t }) hb (fun r hr => hr) (.inl rfl) (h.vi.gd b hb) ht (h.vi.ph b hb)
 have e : (setT (b : Int) t m').bs = m.bs.set b { (ix m.bs b) with Term := t } := by show m'.bs.set _ _ = _; rw [hs2]; rfl
 exact ⟨⟨by rw [e]; show VI n to m'.par _; rw [hs]; exact h1.1,fun y hy => by
   rw [e]; show Vs n to m'.par _ b y; rw [hs]; exact (h.vl y (by rw [← hs3]; exact hy)).up h1.2⟩,hs,by rw [e]; exact h1.2⟩
theorem VM.en {l : List Int} (h : VM n to b m) (hb : b < n) : VG n to b m (endS (b : Int) l m) := by
 unfold endS
 split
 · split
   · exact h.sT hb rfl rfl rfl (fun r hr => by cases hr)
   split
   · have g1 : VG n to b m (tSS m) := h.same rfl rfl rfl
     have h1 := g1.vm.some hb
     exact g1.tr (h1.1.tr (h1.1.vm.sT hb rfl rfl rfl (w1 h1.2)))
   · exact h.sT hb rfl rfl rfl (fun r hr => by cases hr)
 split
 · exact h.sT hb rfl rfl rfl (fun r hr => by cases hr)
 split
 · have h3 := h.some hb
   have g2 : VG n to b (sS9 (b : Int) m) (tSS (sS9 (b : Int) m)) := h3.1.vm.same rfl rfl rfl
   dsimp only
   split
   · have h4 := g2.vm.some hb
     have g5 := VM.same (m' := tSS (freshS (sS9 (b : Int) (tSS (sS9 (b : Int) m))))) h4.1.vm rfl rfl rfl
     have h5 := g5.vm.add (i := ⟨ix [11,12,13] (tVV 3 (freshS (sS9 (b : Int) (tSS (sS9 (b : Int) m))))).toNat,(sS9 (b : Int) (tSS (sS9 (b : Int) m))).nx,0,[sV9 m,sV9 (tSS (sS9 (b : Int) m))],0⟩) hb (w2 (g5.on (h4.1.on (g2.on h3.2))) (g5.on h4.2))
     refine h3.1.tr (g2.tr (h4.1.tr (g5.tr (h5.1.tr (h5.1.vm.sT hb rfl rfl rfl (w1 (h5.2 _ ?_)))))))
     have hop : ∀ i : Nat,i < 3 → ¬ ix [(11 : Int),12,13] i = 16 ∧ ¬ ix [(11 : Int),12,13] i = 18 := by decide
     have ho := hop (tVV 3 (freshS (sS9 (b : Int) (tSS (sS9 (b : Int) m))))).toNat (by have := tV9 (n := 3) (by omega) (freshS (sS9 (b : Int) (tSS (sS9 (b : Int) m)))); omega)
     unfold makes3
     rw [if_neg ho.1,if_neg ho.2]; simp
   · exact h3.1.tr (h3.1.vm.sT hb rfl rfl rfl (w1 h3.2))
 · have h3 := h.some hb
   have h4 := h3.1.vm.con (v := 7) hb
   have h5 := VM.add (m := freshS (constS (b : Int) 7 (sS9 (b : Int) m))) (i := ⟨5,(constS (b : Int) 7 (sS9 (b : Int) m)).nx,0,[sV9 m,(sS9 (b : Int) m).nx],0⟩) h4.1.vm hb (w2 (h4.1.on h3.2) h4.2)
   dsimp only
   have g5 : VG n to b (constS (b : Int) 7 (sS9 (b : Int) m)) (addS (b : Int) ⟨5,(constS (b : Int) 7 (sS9 (b : Int) m)).nx,0,[sV9 m,(sS9 (b : Int) m).nx],0⟩ (freshS (constS (b : Int) 7 (sS9 (b : Int) m)))) := ⟨h5.1.vm,rfl,h5.1.up⟩
   exact h3.1.tr (h4.1.tr (g5.tr (g5.vm.sT hb rfl rfl rfl (w1 (h5.2 _ (by simp [makes3]))))))
end
abbrev VN (n : Nat) (to : List (List Int)) (m : Mk) : Prop := VI n to m.par m.bs
section
variable {n b c : Nat} {to : List (List Int)} {m m' : Mk}
theorem RI.ra (h : RI n b c to m) (hn : 0 < n) {w x : Nat} (hr : ix (reach3 (fnM m) (w : Int)) x = false) : ¬ RA to n w x := fun h9 => by
 have := ra_reach (f := fnM m) h.len hn h.tos h9
 rw [hr] at this; cases this
theorem VN.lm {dn : List Bool} {q : Nat} (v : VN n to m) (h : RI n b c to m) (hn : 0 < n) : VM n to q (lvM n q dn m) := ⟨v,fun x hx => by
 show Vs n to m.par m.bs q x
 rcases List.mem_append.1 (show x ∈ numsL m.par.toNat ++ (List.range n).flatMap (fun i => lvB (fnM m) dn q i) from hx) with h1 | h1
 · have := numsL_mem h1; exact .inl (by omega)
 · obtain ⟨a,h2,h3⟩ := List.mem_flatMap.1 h1
   have ha := List.mem_range.1 h2
   unfold lvB at h3
   split at h3
   · cases h3
   · rename_i hs
     refine .inr ⟨a,ha,?_,h3⟩
     by_cases e : a = q
     · exact .inl e
     · refine .inr (h.ra hn ?_)
       unfold skipA at hs
       simp [e] at hs
       exact hs.2⟩
theorem VN.bl {dn : List Bool} {q : Nat} (v : VN n to m) (h : RI n b c to m) (hq : q < n) : VN n to (blkM n to q dn m) ∧ (blkM n to q dn m).par = m.par := by
 have h0 := v.lm (dn := dn) (q := q) h (by omega)
 have g1 : VG n to q (lvM n q dn m) (tSS (lvM n q dn m)) := h0.same rfl rfl rfl
 have g2 := VM.is hq (tVV 7 (lvM n q dn m)).toNat g1.vm
 have g3 := VM.en (l := ix to q) g2.vm hq
 unfold blkM
 exact ⟨g3.vm.vi,g3.par.trans g2.par⟩
theorem VN.row (hP : PB n to) (hL : ∀ j,(ix to j).length ≤ 65) : ∀ (k b c : Nat) (dn : List Bool) (m : Mk),b + k = n → dn.length = n → (∀ j,j < n → ix dn j = decide (j < b)) → RI n b c to m → VN n to m → VN n to (rowS n to k b dn m).2
 | 0,b,c,dn,m,hb,hl,hd,h,v => v
 | k + 1,b,c,dn,m,hb,hl,hd,h,v => by
   rw [rowS,if_pos (h.ready hP (by omega) hd)]
   exact VN.row hP hL k (b + 1) (c + 120) (dn.set b true) (blkM n to b (dn.set b true) m) (by omega) (by rw [List.length_set]; exact hl) (fun j hj => by
     rw [ix_set (by omega)]; split
     · rename_i e; subst e; simp
     · rename_i e; rw [hd j hj,decide_eq_decide]; omega) (h.bl (by omega) hL) (v.bl h (by omega)).1
theorem VN.turn (hP : PB n to) (hL : ∀ j,(ix to j).length ≤ 65) (hn : 0 < n) (h : RI n 0 c to m) (v : VN n to m) : VN n to (turnS n to n (List.replicate n false) m).2 := by
 obtain ⟨k,rfl⟩ : ∃ k,n = k + 1 := ⟨n - 1,by omega⟩
 rw [turnS]
 obtain ⟨x,y⟩ := RI.row hP hL (k + 1) 0 c (List.replicate (k + 1) false) m (by omega) (by simp) (fun j hj => by rw [ix_rep]; simp) h
 rw [turn_idle k _ _ y]
 exact VN.row hP hL (k + 1) 0 c (List.replicate (k + 1) false) m (by omega) (by simp) (fun j hj => by rw [ix_rep]; simp) h v
theorem VN.ap {j : Nat} (v : VN n to m) (hj : j < n) : VN n to (addP j m) := by
 refine (VI.put (x := { (ix m.bs j) with Phis := (ix m.bs j).Phis ++ [⟨m.nx,[]⟩] }) v hj (fun r hr => ?_) (.inr fun r hr => ?_) (v.gd j hj) (v.tm j hj) (fun p hp x hx => ?_)).1
 · unfold mkB at hr ⊢
   dsimp only
   rw [List.map_append]
   rcases List.mem_append.1 hr with h2 | h2
   · exact List.mem_append.2 (.inl (List.mem_append.2 (.inl h2)))
   · exact List.mem_append.2 (.inr h2)
 · rw [List.map_append]; exact List.mem_append.2 (.inl hr)
 · rcases List.mem_append.1 hp with h2 | h2
   · exact v.ph j hj p h2 x hx
   · simp at h2; subst h2; cases hx
theorem VN.pn {j : Nat} (hj : j < n) : ∀ (k : Nat) {m : Mk},VN n to m → VN n to (phiN j k m)
 | 0,_,h => h
 | k + 1,_,h => VN.pn hj k (h.ap hj)
theorem VN.ps : ∀ (k j : Nat) (ph : List Int) (m : Mk),j + k = n → VN n to m → VN n to (phiS k j ph m).2
 | 0,j,ph,m,hj,h => h
 | k + 1,j,ph,m,hj,h => by
   rw [phiS]
   exact VN.ps k (j + 1) _ _ (by omega) (VN.pn (m := tSS m) (by omega) _ h)
theorem phL_in {t : D.Tg3} {x : Int} {b : Int} : ∀ (l : List D.Phi) (i : Nat),t ∈ phL b i l → x ∈ t.Makes → t.Block = b ∧ x ∈ l.map (fun p => p.Dst)
 | [],_,h,_ => by cases h
 | p :: l,i,h,hx => by
   rw [phL] at h
   rcases List.mem_cons.1 h with rfl | h
   · simp [phT] at hx; subst hx; exact ⟨rfl,by simp⟩
   · have := phL_in l _ h hx; exact ⟨this.1,by simp only [List.map_cons,List.mem_cons]; exact .inr this.2⟩
theorem inL_in {t : D.Tg3} {x : Int} {b : Int} : ∀ (l : List D.Ins) (i : Nat),t ∈ inL b i l → x ∈ t.Makes → t.Block = b ∧ x ∈ l.flatMap makes3
 | [],_,h,_ => by cases h
 | p :: l,i,h,hx => by
   rw [inL] at h
   rcases List.mem_cons.1 h with rfl | h
   · exact ⟨rfl,List.mem_flatMap.2 ⟨p,by simp,hx⟩⟩
   · have := inL_in l _ h hx
     obtain ⟨q,h1,h2⟩ := List.mem_flatMap.1 this.2
     exact ⟨this.1,List.mem_flatMap.2 ⟨q,by simp [h1],h2⟩⟩
theorem blL_in {t : D.Tg3} {x : Int} : ∀ (l : List D.Block) (k : Nat),t ∈ blL k l → x ∈ t.Makes → ∃ a : Nat,a < l.length ∧ t.Block = ((k + a : Nat) : Int) ∧ x ∈ mkB (ix l a)
 | [],_,h,_ => by cases h
 | y :: l,k,h,hx => by
   rw [blL] at h
   rcases List.mem_append.1 h with h1 | h1
   · have := phL_in _ _ h1 hx
     exact ⟨0,by simp,by rw [this.1]; simp,List.mem_append.2 (.inl this.2)⟩
   · rcases List.mem_append.1 h1 with h1 | h1
     · have := inL_in _ _ h1 hx
       exact ⟨0,by simp,by rw [this.1]; simp,List.mem_append.2 (.inr this.2)⟩
     · rcases List.mem_cons.1 h1 with rfl | h1
       · cases hx
       · obtain ⟨a,h2,h3,h4⟩ := blL_in l (k + 1) h1 hx
         exact ⟨a + 1,by simp; omega,by rw [h3]; congr 1; omega,by rw [ix_cons]; exact h4⟩
theorem VN.stand {p : Int} (v : VN n to m) (h : RI n b c to m) (hp : 0 ≤ p ∧ p < n) : ∀ x ∈ stand3 (fnM m) p,Wv n to p.toNat m x := fun x hx => by
 rcases List.mem_append.1 hx with h1 | h1
 · have := numsL_mem h1
   have e : (fnM m).Params = m.par := rfl
   rw [e] at this; exact .inl (by omega)
 · obtain ⟨t,h2,h3⟩ := List.mem_flatMap.1 h1
   split at h3
   · rename_i hs
     obtain ⟨a,h4,h5,h6⟩ := blL_in m.bs 0 h2 h3
     rw [h.len] at h4
     refine .inr ⟨a,h4,?_,h6⟩
     unfold stands3 at hs
     rw [Bool.or_eq_true,decide_eq_true_eq,h5,Nat.zero_add] at hs
     rcases hs with hs | hs
     · exact .inl (by omega)
     · exact .inr (h.ra (by omega) (by simpa using hs))
   · cases h3
theorem VN.ix0 {p : Int} (v : VN n to m) (h : RI n b c to m) (hp : 0 ≤ p ∧ p < n) : VN n to (inX p m).2 ∧ (inX p m).2.par = m.par ∧ upB m.bs (inX p m).2.bs ∧ Wv n to p.toNat (inX p m).2 (inX p m).1.Val := by
 unfold inX
 split
 · have h1 := VI.addI (i := ⟨1,m.nx,0,[],wordV m⟩) v (b := p.toNat) (by omega) (fun r hr => by cases hr)
   have h2 := tV9 (n := 1) (by omega) (constS p (wordV m) (wordS m))
   refine ⟨h1.1,rfl,h1.2.1,?_⟩
   dsimp only
   rw [show tVV 1 (constS p (wordV m) (wordS m)) = 0 by omega]
   exact Vs.here (by omega) (h1.2.2 m.nx (by simp [makes3]))
 · rename_i h0
   have h1 := tV9 (n := (stand3 (fnM m) p).length) (by omega) m
   exact ⟨v,rfl,fun _ _ h => h,v.stand h hp _ (ix_mem (by omega))⟩
theorem VN.is0 {p : List Int} (hp : ∀ x ∈ p,0 ≤ x ∧ x < n) : ∀ (k i : Nat) {c : Nat} (l : List D.In) (m : Mk),i + k = p.length → RI n b c to m → VN n to m → (∀ x ∈ l,(0 ≤ x.From ∧ x.From < n) ∧ Wv n to x.From.toNat m x.Val) →
   VN n to (inS p k i l m).2 ∧ (inS p k i l m).2.par = m.par ∧ upB m.bs (inS p k i l m).2.bs ∧ ∀ x ∈ (inS p k i l m).1,(0 ≤ x.From ∧ x.From < n) ∧ Wv n to x.From.toNat (inS p k i l m).2 x.Val
 | 0,i,_,l,m,hi,h,v,hl => ⟨v,rfl,fun _ _ h => h,hl⟩
 | k + 1,i,c,l,m,hi,h,v,hl => by
   have hpi := hp _ (ix_mem (l := p) (i := i) (by omega))
   obtain ⟨a1,a2,a3,a4,a5⟩ := h.ix0 (p := ix p i) hpi
   obtain ⟨d1,d2,d3,d4⟩ := v.ix0 h hpi
   obtain ⟨b1,b2,b3,b4⟩ := VN.is0 hp k (i + 1) (l ++ [(inX (ix p i) m).1]) (inX (ix p i) m).2 (by omega) a1 d1 (fun x hx => by
     rcases List.mem_append.1 hx with h1 | h1
     · have := hl x h1
       exact ⟨this.1,by unfold Wv; rw [d2]; exact this.2.up d3⟩
     · simp at h1; subst h1; rw [a3]; exact ⟨hpi,d4⟩)
   rw [inS]
   exact ⟨b1,b2.trans d2,fun j r hr => b3 j r (d3 j r hr),b4⟩
theorem VN.pi0 {j i : Nat} {l : List D.In} (v : VN n to m) (hj : j < n) (hl : ∀ x ∈ l,(0 ≤ x.From ∧ x.From < n) ∧ Wv n to x.From.toNat m x.Val) : VN n to (putIn j i l m) := by
 have e : ((ix m.bs j).Phis.set i { (ix (ix m.bs j).Phis i) with In := l }).map (fun p => p.Dst) = (ix m.bs j).Phis.map (fun p => p.Dst) := nodup_put
 refine (VI.put (x := { (ix m.bs j) with Phis := (ix m.bs j).Phis.set i { (ix (ix m.bs j).Phis i) with In := l } }) v hj (fun r hr => ?_) (.inl e) (v.gd j hj) (v.tm j hj) (fun p hp x hx => ?_)).1
 · unfold mkB at hr ⊢
   dsimp only
   rw [e]; exact hr
 · rcases List.mem_or_eq_of_mem_set hp with h2 | h2
   · exact v.ph j hj p h2 x hx
   · subst h2; exact hl x hx
theorem VN.ip0 {p : List Int} {j : Nat} (hp : ∀ x ∈ p,0 ≤ x ∧ x < n) (h9 : p.length ≤ 9) (hj : j < n) : ∀ (k i : Nat) {c : Nat} (m : Mk),RI n b c to m → VN n to m → VN n to (inP p j k i m)
 | 0,i,_,m,h,v => v
 | k + 1,i,c,m,h,v => by
   obtain ⟨a1,a2,a3,a4,a5⟩ := RI.is0 hp p.length 0 [] m (by omega) h (fun x hx => by cases hx) rfl
   obtain ⟨d1,d2,d3,d4⟩ := VN.is0 hp p.length 0 [] m (by omega) h v (fun x hx => by cases hx)
   rw [inP]
   exact VN.ip0 hp h9 hj k (i + 1) _ (a1.pi0 (i := i) hj a3) (d1.pi0 (i := i) hj d4)
theorem VN.fi0 {ph : List Int} (hn9 : n ≤ 9) : ∀ (k j : Nat) {c : Nat} (m : Mk),j + k = n → RI n b c to m → VN n to m → VN n to (finS ph k j m)
 | 0,j,_,m,hj,h,v => v
 | k + 1,j,c,m,hj,h,v => by
   have hpe : pd3 (fnM m) (j : Int) = pT to n (j : Int) := by
     show predsT3 m.bs m.bs.length _ = _
     rw [h.len]; exact preds_pT n _ (fun q hq => h.tos q hq)
   have b1 := (RI.ip0 (p := pT to n (j : Int)) (j := j) (fun x hx => pT_rng n _ x hx) (Nat.le_trans (pT_len n _) hn9) (by omega) (ix ph j).toNat 0 m h).1
   rw [finS,hpe]
   exact VN.fi0 hn9 k (j + 1) (inP (pT to n (j : Int)) j (ix ph j).toNat 0 m) (by omega) b1 (VN.ip0 (fun x hx => pT_rng n _ x hx) (Nat.le_trans (pT_len n _) hn9) (by omega) (ix ph j).toNat 0 m h v)
end
structure UI (par nx : Int) (bs : List D.Block) : Prop where
 pn : par ≤ nx
 rg : ∀ j,∀ r ∈ mkB (ix bs j),par ≤ r ∧ r < nx
 nd : ∀ j,(mkB (ix bs j)).Nodup
 dj : ∀ i j,i ≠ j → ∀ r ∈ mkB (ix bs i),r ∉ mkB (ix bs j)
theorem UI.put {par nx nx' : Int} {bs : List D.Block} {b : Nat} {x : D.Block} {ms : List Int} (h : UI par nx bs) (hn : nx ≤ nx') (hp : (mkB x).Perm (mkB (ix bs b) ++ ms)) (hm : ∀ r ∈ ms,nx ≤ r ∧ r < nx') (hd : ms.Nodup) : UI par nx' (bs.set b x) := by
 by_cases hb : b < bs.length
 · have hs : ∀ j,ix (bs.set b x) j = if j = b then x else ix bs j := fun j => ix_set hb
   have hx : ∀ r ∈ mkB x,r ∈ mkB (ix bs b) ∨ r ∈ ms := fun r hr => List.mem_append.1 (hp.mem_iff.1 hr)
   have hpn := h.pn
   refine ⟨by omega,fun j r hr => ?_,fun j => ?_,fun i j hij r hr hr2 => ?_⟩
   · rw [hs] at hr; split at hr
     · rcases hx r hr with h1 | h1
       · have := h.rg b r h1; omega
       · have := hm r h1; omega
     · have := h.rg j r hr; omega
   · rw [hs]; split
     · exact hp.nodup_iff.2 (List.nodup_append.2 ⟨h.nd b,hd,fun y hy z hz e => by have := h.rg b y hy; have := hm z hz; omega⟩)
     · exact h.nd j
   · rw [hs] at hr hr2
     split at hr
     · rename_i e; subst e
       rw [if_neg (fun e => hij e.symm)] at hr2
       rcases hx r hr with h1 | h1
       · exact h.dj _ _ hij r h1 hr2
       · have := h.rg j r hr2; have := hm r h1; omega
     · split at hr2
       · rename_i e; subst e
         rcases hx r hr2 with h1 | h1
         · exact h.dj _ _ hij r hr h1
         · have := h.rg i r hr; have := hm r h1; omega
       · exact h.dj _ _ hij r hr hr2
 · rw [List.set_eq_of_length_le (by omega)]
   exact ⟨by have := h.pn; omega,fun j r hr => by have := h.rg j r hr; omega,h.nd,h.dj⟩
def UG (m m' : Mk) : Prop := m'.par = m.par ∧ (UI m.par m.nx m.bs → UI m'.par m'.nx m'.bs)
section
variable {m m' m2 : Mk} {j : Int} {b : Nat}
theorem UG.rf : UG m m := ⟨rfl,id⟩
theorem UG.tr (h : UG m m') (h2 : UG m' m2) : UG m m2 := ⟨h2.1.trans h.1,fun h3 => h2.2 (h.2 h3)⟩
theorem UG.same (h1 : m'.par = m.par) (h2 : m'.bs = m.bs) (h3 : m'.nx = m.nx) : UG m m' := ⟨h1,by rw [h1,h2,h3]; exact id⟩
theorem mk_ins {x : D.Block} {i : D.Ins} : mkB { x with Ins := x.Ins ++ [i] } = mkB x ++ makes3 i := by unfold mkB; rw [List.flatMap_append]; simp
theorem UG.ad {i : D.Ins} (h1 : m'.par = m.par) (h2 : m'.bs = m.bs) (h3 : m.nx ≤ m'.nx) (hm : ∀ r ∈ makes3 i,m.nx ≤ r ∧ r < m'.nx) (hd : (makes3 i).Nodup) : UG m (addS j i m') := ⟨h1,fun h => by
 show UI m'.par m'.nx (m'.bs.set _ _)
 rw [h1,h2]
 exact h.put h3 (by rw [mk_ins]) hm hd⟩
theorem UG.one {op v x : Int} {a : List Int} (h1 : m'.par = m.par) (h2 : m'.bs = m.bs) (h3 : m'.nx = m.nx + 1) (hx : x = m.nx) (ho : op ≠ 16 ∧ op ≠ 18) : UG m (addS j ⟨op,x,0,a,v⟩ m') := by
 have e : makes3 ⟨op,x,0,a,v⟩ = [x] := by unfold makes3; rw [if_neg ho.1,if_neg ho.2]
 refine UG.ad h1 h2 (by omega) (fun r hr => ?_) (by rw [e]; simp)
 rw [e] at hr; simp at hr; omega
theorem UG.con {v : Int} (h : UG m m') : UG m (constS j v m') := h.tr (UG.one (m' := freshS m') rfl rfl rfl rfl (by omega))
theorem UG.tk (h : UG m m') : UG m (tSS m') := h.tr (.same rfl rfl rfl)
theorem UG.wd (h : UG m m') : UG m (wordS m') := h.tr (.same rfl rfl rfl)
theorem UG.aF {op v : Int} {a : List Int} (h : UG m m') (ho : op ≠ 16 ∧ op ≠ 18) : UG m (addS j ⟨op,m'.nx,0,a,v⟩ (freshS m')) := h.tr (UG.one rfl rfl rfl rfl ho)
theorem UG.aT {op v : Int} {a : List Int} (h : UG m m') (ho : op ≠ 16 ∧ op ≠ 18) : UG m (addS j ⟨op,m'.nx,0,a,v⟩ (tSS (freshS m'))) := h.tr (UG.one rfl rfl rfl rfl ho)
theorem UG.val (h : UG m m') : UG m (valueS m') := by unfold valueS; split; exact h; exact .tk (.tk h)
theorem UG.som0 (h : UG m m') : UG m (someM0 m') := by
 unfold someM0; split
 · exact .tk (.val h)
 · exact .val h
theorem UG.som (h : UG m m') : UG m (sS9 j m') := by
 unfold sS9; split
 · exact .con (.wd (.som0 h))
 · exact .som0 h
theorem UG.me1 (h : UG m m') : UG m (mem1 j m').2 := by
 unfold mem1; dsimp only; split
 · exact .aF (.aF (.con (.som (.tk (.con (.tk h))))) (by omega)) (by omega)
 · exact .tk (.con (.tk h))
theorem UG.me2 (h : UG m m') : UG m (mem2 m').2 := by unfold mem2; dsimp only; split <;> exact h.tr (.same rfl rfl rfl)
theorem UG.mem {st : Bool} (h : UG m m') : UG m (memS j st m') := by
 unfold memS; dsimp only; split
 · exact UG.tr (m' := sS9 j (mem2 (mem1 j m').2).2) (.som (.me2 (.me1 h))) (UG.ad rfl rfl (Int.le_refl _) (fun r hr => by simp [makes3] at hr) (by simp [makes3]))
 · exact .aF (.me2 (.me1 h)) (by omega)
theorem UG.args : ∀ (k : Nat) (l : List Int) (m' : Mk),UG m m' → UG m (argsL j k l m').2
 | 0,_,_,h => h
 | k + 1,l,m',h => by rw [argsL]; exact UG.args k _ _ (.som h)
theorem op_no {i : Nat} (h : i < 12) : ix [(2 : Int),2,3,4,5,6,7,8,9,10,12,11] i ≠ 16 ∧ ix [(2 : Int),2,3,4,5,6,7,8,9,10,12,11] i ≠ 18 := by
 have : ∀ i : Nat,i < 12 → ix [(2 : Int),2,3,4,5,6,7,8,9,10,12,11] i ≠ 16 ∧ ix [(2 : Int),2,3,4,5,6,7,8,9,10,12,11] i ≠ 18 := by decide
 exact this i h
theorem UG.mw {a : List Int} (h : UG m m') : UG m (addS j ⟨18,m'.nx,(freshS m').nx,a,0⟩ (freshS (freshS m'))) := by
 refine h.tr (UG.ad rfl rfl (by show _ ≤ _ + 1 + 1; omega) (fun r hr => ?_) (by simp [makes3,freshS]; omega))
 have hr' : r = m'.nx ∨ r = m'.nx + 1 := by simpa [makes3,freshS] using hr
 show _ ∧ _ < _ + 1 + 1
 omega
theorem UG.ins (h : UG m m') : UG m (insS j m') := by
 have hk := tV9 (n := 20) (by omega) m'
 unfold insS; dsimp only
 generalize tVV 20 m' = k at hk
 have h3 : UG m (sS9 j (sS9 j (tSS m'))) := .som (.som (.tk h))
 split
 · split
   · exact .aF (.con (.tk (.tk h3))) (op_no (by omega))
   · exact .aF (.tk h3) (op_no (by omega))
 split
 · exact .aF h3 (by omega)
 split
 · split
   · exact .aF (.con (.tk (.tk (.con (.tk (.som (.tk h))))))) (by omega)
   · exact .aF (.tk (.con (.tk (.som (.tk h))))) (by omega)
 split
 · exact .mem (.tk h)
 split
 · exact .aT (UG.args _ _ _ (.tk (.tk h))) (by omega)
 split
 · exact .mw h3
 · exact .con (.wd (.tk h))
theorem UG.is : ∀ (k : Nat) (m' : Mk),UG m m' → UG m (insN b k m')
 | 0,_,h => h
 | k + 1,m',h => by rw [insN]; exact UG.is k _ (.ins h)
theorem UG.sT {t : D.Term} (h : UG m m') : UG m (setT j t m') := h.tr ⟨rfl,fun h => by
 show UI m'.par m'.nx (m'.bs.set _ _)
 exact h.put (ms := []) (Int.le_refl _) (by rw [List.append_nil]; exact List.Perm.refl _) (fun r hr => by cases hr) List.nodup_nil⟩
theorem UG.en {l : List Int} (h : UG m m') : UG m (endS j l m') := by
 unfold endS
 split
 · split
   · exact .sT (.tk (.tk h))
   split
   · exact .sT (.som (.tk h))
   · exact .sT (.tk h)
 split
 · exact .sT h
 split
 · dsimp only
   split
   · have ho : ∀ i : Nat,i < 3 → ix [(11 : Int),12,13] i ≠ 16 ∧ ix [(11 : Int),12,13] i ≠ 18 := by decide
     have hr := tV9 (n := 3) (by omega) (freshS (sS9 j (tSS (sS9 j m'))))
     exact .sT (.aT (.som (.tk (.som h))) (ho _ (by omega)))
   · exact .sT (.tk (.som h))
 · dsimp only
   exact .sT (.aF (.con (.som h)) (by omega))
theorem UG.bl {n : Nat} {to : List (List Int)} {dn : List Bool} : UG m (blkM n to b dn m) := by
 unfold blkM
 exact UG.en (UG.is _ _ (.tk (.same rfl rfl rfl)))
theorem UG.row {n : Nat} {to : List (List Int)} : ∀ (k b : Nat) (dn : List Bool) (m : Mk),UG m (rowS n to k b dn m).2
 | 0,_,_,_ => .rf
 | k + 1,b,dn,m => by
   rw [rowS]; split
   · exact UG.bl.tr (UG.row k _ _ _)
   · exact UG.row k _ _ _
theorem UG.turn {n : Nat} {to : List (List Int)} : ∀ (k : Nat) (dn : List Bool) (m : Mk),UG m (turnS n to k dn m).2
 | 0,_,_ => .rf
 | k + 1,dn,m => by rw [turnS]; exact (UG.row _ _ _ _).tr (UG.turn k _ _)
theorem UG.ap : UG m (addP b m) := ⟨rfl,fun h => by
 show UI m.par (m.nx + 1) (m.bs.set _ _)
 refine h.put (ms := [m.nx]) (by omega) ?_ (fun r hr => by simp at hr; omega) (by simp)
 show (mkB { (ix m.bs b) with Phis := (ix m.bs b).Phis ++ [⟨m.nx,[]⟩] }).Perm _
 unfold mkB
 dsimp only
 rw [List.map_append,List.append_assoc,List.append_assoc]
 exact List.Perm.append_left _ List.perm_append_comm⟩
theorem UG.pn : ∀ (k : Nat) (m : Mk),UG m (phiN b k m)
 | 0,_ => .rf
 | k + 1,m => by rw [phiN]; exact UG.ap.tr (UG.pn k _)
theorem UG.ps : ∀ (k j : Nat) (ph : List Int) (m : Mk),UG m (phiS k j ph m).2
 | 0,_,_,_ => .rf
 | k + 1,j,ph,m => by rw [phiS]; exact UG.tr (m' := tSS m) (.tk .rf) ((UG.pn _ _).tr (UG.ps k _ _ _))
end
def wv (b p : Int) : Value := .agg #[.int .i64 b,.int .i64 p]
def insA (b p : Int) (l : List Int) (L : List (Int × Value)) : List (Int × Value) := l.foldl (fun m n => upM m n (wv b p)) L
theorem lk_insA {b p : Int} : ∀ (l : List Int) (L : List (Int × Value)) (n : Int),lkM (insA b p l L) n = if n ∈ l then some (wv b p) else lkM L n
 | [],L,n => by simp [insA]
 | x :: l,L,n => by
   have h := lk_insA (b := b) (p := p) l (upM L x (wv b p)) n
   unfold insA at h ⊢
   rw [List.foldl_cons,h,upM_lk]
   by_cases h1 : n ∈ l
   · rw [if_pos h1,if_pos (by simp [h1])]
   · rw [if_neg h1]
     by_cases h2 : n = x
     · rw [if_pos h2,if_pos (by simp [h2])]
     · rw [if_neg h2,if_neg (by simp [h1,h2])]
def phA (b : Int) (ps : List D.Phi) (L : List (Int × Value)) : Nat → List (Int × Value)
 | 0 => L
 | k + 1 => insA b (-1 - k) [(ix ps k).Dst] (phA b ps L k)
def inA (b : Int) (is : List D.Ins) (L : List (Int × Value)) : Nat → List (Int × Value)
 | 0 => L
 | k + 1 => insA b k (makes3 (ix is k)) (inA b is L k)
def bkA (bs : List D.Block) : Nat → List (Int × Value)
 | 0 => []
 | k + 1 => inA k (ix bs k).Ins (phA k (ix bs k).Phis (bkA bs k) (ix bs k).Phis.length) (ix bs k).Ins.length
theorem phA_no {b : Int} {ps : List D.Phi} {L : List (Int × Value)} {n : Int} : ∀ {k : Nat},lkM (phA b ps L k) n = none ↔ lkM L n = none ∧ ∀ i,i < k → n ≠ (ix ps i).Dst
 | 0 => by simp [phA]
 | k + 1 => by
   have ih := phA_no (b := b) (ps := ps) (L := L) (n := n) (k := k)
   rw [phA,lk_insA]
   constructor
   · intro h
     split at h
     · cases h
     · rename_i h1
       have h2 := ih.1 h
       refine ⟨h2.1,fun i hi e => ?_⟩
       rcases Nat.lt_or_ge i k with h3 | h3
       · exact h2.2 i h3 e
       · rw [show i = k by omega] at e; exact h1 (by simp [e])
   · rintro ⟨h1,h2⟩
     rw [if_neg (by simpa using h2 k (by omega))]
     exact ih.2 ⟨h1,fun i hi => h2 i (by omega)⟩
theorem inA_no {b : Int} {is : List D.Ins} {L : List (Int × Value)} {n : Int} : ∀ {k : Nat},lkM (inA b is L k) n = none ↔ lkM L n = none ∧ ∀ i,i < k → n ∉ makes3 (ix is i)
 | 0 => by simp [inA]
 | k + 1 => by
   have ih := inA_no (b := b) (is := is) (L := L) (n := n) (k := k)
   rw [inA,lk_insA]
   constructor
   · intro h
     split at h
     · cases h
     · rename_i h1
       have h2 := ih.1 h
       refine ⟨h2.1,fun i hi e => ?_⟩
       rcases Nat.lt_or_ge i k with h3 | h3
       · exact h2.2 i h3 e
       · rw [show i = k by omega] at e; exact h1 e
   · rintro ⟨h1,h2⟩
     rw [if_neg (h2 k (by omega))]
     exact ih.2 ⟨h1,fun i hi => h2 i (by omega)⟩
theorem mkB_ix {x : D.Block} {n : Int} : n ∈ mkB x ↔ (∃ i,i < x.Phis.length ∧ n = (ix x.Phis i).Dst) ∨ ∃ i,i < x.Ins.length ∧ n ∈ makes3 (ix x.Ins i) := by
 unfold mkB
 rw [List.mem_append]
 refine or_congr ⟨fun h => ?_,fun ⟨i,h1,h2⟩ => ?_⟩ ⟨fun h => ?_,fun ⟨i,h1,h2⟩ => ?_⟩
 · obtain ⟨p,h1,rfl⟩ := List.mem_map.1 h
   obtain ⟨i,hi,e⟩ := List.getElem_of_mem h1
   exact ⟨i,hi,by rw [ix_eq hi,e]⟩
 · rw [h2]; exact List.mem_map.2 ⟨_,ix_mem h1,rfl⟩
 · obtain ⟨p,h1,h2⟩ := List.mem_flatMap.1 h
   obtain ⟨i,hi,e⟩ := List.getElem_of_mem h1
   exact ⟨i,hi,by rw [ix_eq hi,e]; exact h2⟩
 · exact List.mem_flatMap.2 ⟨_,ix_mem h1,h2⟩
theorem bkA_no {bs : List D.Block} {n : Int} : ∀ {k : Nat},lkM (bkA bs k) n = none ↔ ∀ b,b < k → n ∉ mkB (ix bs b)
 | 0 => by simp [bkA,lkM]
 | k + 1 => by
   have ih := bkA_no (bs := bs) (n := n) (k := k)
   rw [bkA,inA_no,phA_no,ih]
   constructor
   · rintro ⟨⟨h1,h2⟩,h3⟩ b hb h4
     rcases Nat.lt_or_ge b k with h5 | h5
     · exact h1 b h5 h4
     · rw [show b = k by omega] at h4
       rcases mkB_ix.1 h4 with ⟨i,h6,h7⟩ | ⟨i,h6,h7⟩
       · exact h2 i h6 h7
       · exact h3 i h6 h7
   · intro h
     refine ⟨⟨fun b hb => h b (by omega),fun i hi e => h k (by omega) (mkB_ix.2 (.inl ⟨i,hi,e⟩))⟩,fun i hi e => h k (by omega) (mkB_ix.2 (.inr ⟨i,hi,e⟩))⟩
def PosAt (bs : List D.Block) (v : Int) (wb : Nat) (wp : Int) : Prop := wb < bs.length ∧ ((∃ i,i < (ix bs wb).Phis.length ∧ v = (ix (ix bs wb).Phis i).Dst ∧ wp = -1 - (i : Int)) ∨ ∃ i,i < (ix bs wb).Ins.length ∧ v ∈ makes3 (ix (ix bs wb).Ins i) ∧ wp = (i : Int))
structure Once (bs : List D.Block) : Prop where
 nd : ∀ j,(mkB (ix bs j)).Nodup
 dj : ∀ i j,i ≠ j → ∀ r ∈ mkB (ix bs i),r ∉ mkB (ix bs j)
theorem nodup_flat {α β : Type} [Inhabited α] {f : α → List β} : ∀ {l : List α},(l.flatMap f).Nodup → ∀ {i j : Nat},i < l.length → j < l.length → i ≠ j → ∀ x ∈ f (ix l i),x ∉ f (ix l j)
 | [],_,i,_,hi,_,_ => by cases hi
 | a :: l,h,i,j,hi,hj,hij => by
   rw [List.flatMap_cons,List.nodup_append] at h
   obtain ⟨h1,h2,h3⟩ := h
   intro x hx hx2
   have fl : ∀ {k : Nat},k < l.length → x ∈ f (ix l k) → x ∈ l.flatMap f := fun hk hx => List.mem_flatMap.2 ⟨_,ix_mem hk,hx⟩
   cases i with
   | zero =>
     cases j with
     | zero => exact hij rfl
     | succ j =>
       rw [ix_zero] at hx; rw [ix_cons] at hx2
       exact h3 x hx x (fl (by simpa using hj) hx2) rfl
   | succ i =>
     rw [ix_cons] at hx
     cases j with
     | zero => rw [ix_zero] at hx2; exact h3 x hx2 x (fl (by simpa using hi) hx) rfl
     | succ j => rw [ix_cons] at hx2; exact nodup_flat h2 (by simpa using hi) (by simpa using hj) (by omega) x hx hx2
theorem Once.phi {bs : List D.Block} (h : Once bs) {b i : Nat} (hi : i < (ix bs b).Phis.length) : lkM (phA b (ix bs b).Phis (bkA bs b) i) (ix (ix bs b).Phis i).Dst = none := by
 have hm : (ix (ix bs b).Phis i).Dst ∈ mkB (ix bs b) := mkB_ix.2 (.inl ⟨i,hi,rfl⟩)
 have hn := (List.nodup_append.1 (h.nd b)).1
 refine phA_no.2 ⟨bkA_no.2 fun c hc h1 => h.dj b c (by omega) _ hm h1,fun j hj e => ?_⟩
 have := nodup_inj hn (i := i) (j := j) (by simpa using hi) (by simp; omega) (by rw [List.getElem_map,List.getElem_map,← ix_eq hi,← ix_eq (show j < _ by omega)]; exact e)
 omega
theorem Once.ins {bs : List D.Block} (h : Once bs) {b i : Nat} (hi : i < (ix bs b).Ins.length) {n : Int} (hn : n ∈ makes3 (ix (ix bs b).Ins i)) : lkM (inA b (ix bs b).Ins (phA b (ix bs b).Phis (bkA bs b) (ix bs b).Phis.length) i) n = none := by
 have hm : n ∈ mkB (ix bs b) := mkB_ix.2 (.inr ⟨i,hi,hn⟩)
 obtain ⟨h1,h2,h3⟩ := List.nodup_append.1 (h.nd b)
 refine inA_no.2 ⟨phA_no.2 ⟨bkA_no.2 fun c hc h4 => h.dj b c (by omega) _ hm h4,fun j hj e => ?_⟩,fun j hj e => ?_⟩
 · exact h3 n (by rw [e]; exact List.mem_map.2 ⟨_,ix_mem hj,rfl⟩) n (List.mem_flatMap.2 ⟨_,ix_mem hi,hn⟩) rfl
 · exact nodup_flat h2 hi (by omega) (show i ≠ j by omega) n hn e
theorem Once.at {bs : List D.Block} (h : Once bs) {v : Int} {wb : Nat} {wp : Int} (hp : PosAt bs v wb wp) : ∀ k,wb < k → lkM (bkA bs k) v = some (wv wb wp)
 | 0,hk => absurd hk (Nat.not_lt_zero _)
 | k + 1,hk => by
   obtain ⟨h1,h2⟩ := hp
   have hm : v ∈ mkB (ix bs wb) := by
     rcases h2 with ⟨i,h3,h4,_⟩ | ⟨i,h3,h4,_⟩
     · exact mkB_ix.2 (.inl ⟨i,h3,h4⟩)
     · exact mkB_ix.2 (.inr ⟨i,h3,h4⟩)
   have up : ∀ (l : List D.Ins) (b : Int) (L : List (Int × Value)) (m : Nat),(∀ i,i < m → v ∉ makes3 (ix l i)) → lkM (inA b l L m) v = lkM L v := by
     intro l b L m
     induction m with
     | zero => exact fun _ => rfl
     | succ m ih => exact fun h9 => by rw [inA,lk_insA,if_neg (h9 m (by omega)),ih (fun i hi => h9 i (by omega))]
   have upP : ∀ (l : List D.Phi) (b : Int) (L : List (Int × Value)) (m : Nat),(∀ i,i < m → v ≠ (ix l i).Dst) → lkM (phA b l L m) v = lkM L v := by
     intro l b L m
     induction m with
     | zero => exact fun _ => rfl
     | succ m ih => exact fun h9 => by rw [phA,lk_insA,if_neg (by simpa using h9 m (by omega)),ih (fun i hi => h9 i (by omega))]
   rcases Nat.lt_or_ge wb k with h3 | h3
   · have hno : v ∉ mkB (ix bs k) := h.dj wb k (by omega) v hm
     rw [bkA,up _ _ _ _ (fun i hi e => hno (mkB_ix.2 (.inr ⟨i,hi,e⟩))),upP _ _ _ _ (fun i hi e => hno (mkB_ix.2 (.inl ⟨i,hi,e⟩)))]
     exact h.at ⟨h1,h2⟩ k h3
   · have e : wb = k := by omega
     subst e
     obtain ⟨n1,n2,n3⟩ := List.nodup_append.1 (h.nd wb)
     rw [bkA]
     rcases h2 with ⟨i,h3,h4,h5⟩ | ⟨i,h3,h4,h5⟩
     · rw [up _ _ _ _ (fun j hj e => n3 v (by rw [h4]; exact List.mem_map.2 ⟨_,ix_mem h3,rfl⟩) v (List.mem_flatMap.2 ⟨_,ix_mem hj,e⟩) rfl)]
       have : ∀ m,i < m → m ≤ (ix bs wb).Phis.length → lkM (phA wb (ix bs wb).Phis (bkA bs wb) m) v = some (wv wb wp) := by
         intro m
         induction m with
         | zero => intro hm; cases hm
         | succ m ih =>
           intro hm hl
           rw [phA,lk_insA]
           rcases Nat.lt_or_ge i m with h6 | h6
           · rw [if_neg,ih h6 (by omega)]
             intro h7
             simp at h7
             have := nodup_inj n1 (i := i) (j := m) (by simpa using h3) (by simp; omega) (by rw [List.getElem_map,List.getElem_map,← ix_eq h3,← ix_eq (show m < _ by omega)]; exact h4.symm.trans h7)
             omega
           · have e : m = i := by omega
             subst e
             rw [if_pos (by simp [h4]),h5]
       exact this _ h3 (Nat.le_refl _)
     · have : ∀ m,i < m → m ≤ (ix bs wb).Ins.length → lkM (inA wb (ix bs wb).Ins (phA wb (ix bs wb).Phis (bkA bs wb) (ix bs wb).Phis.length) m) v = some (wv wb wp) := by
         intro m
         induction m with
         | zero => intro hm; cases hm
         | succ m ih =>
           intro hm hl
           rw [inA,lk_insA]
           rcases Nat.lt_or_ge i m with h6 | h6
           · rw [if_neg (fun h7 => nodup_flat n2 h3 (show m < _ by omega) (show i ≠ m by omega) v h4 h7),ih h6 (by omega)]
           · have e : m = i := by omega
             subst e
             rw [if_pos h4,h5]
       exact this _ h3 (Nat.le_refl _)
def shM (k : Int) : Option (Int × Int × Int × Int) := if k = 1 then some (0,0,1,1) else if k = 2 then some (1,1,2,2) else if k = 3 then some (1,1,2,65) else if k = 4 then some (0,1,0,0) else if k = 5 then some (0,0,0,0) else none
def US (f : D.Func) (v : Int) (b : Nat) (at' : Int) : Prop := (0 ≤ v ∧ v < f.Params) ∨ ∃ wb wp,PosAt f.Blocks v wb wp ∧ ((wb = b ∧ (wp < at' ∨ wp < 0)) ∨ (wb ≠ b ∧ ¬ RB (prG (graphF f)) wb b))
def cntF3 (bs : List D.Block) : Nat := (bs.map (fun b => b.Phis.length + b.Ins.length)).sum
structure GoodF (f : D.Func) : Prop where
 par : 0 ≤ f.Params ∧ f.Params ≤ 4
 len : 0 < f.Blocks.length ∧ f.Blocks.length ≤ 512
 cnt : f.Blocks.length + cntF3 f.Blocks ≤ 4096
 once : Once f.Blocks
 rng : ∀ b,b < f.Blocks.length → ∀ r ∈ mkB (ix f.Blocks b),f.Params ≤ r ∧ r ≤ 8191
 op : ∀ b,b < f.Blocks.length → ∀ i ∈ (ix f.Blocks b).Ins,(1 ≤ i.Op ∧ i.Op ≤ 18) ∧ (operM i.Op).1 ≤ (i.Args.length : Int) ∧ (i.Args.length : Int) ≤ (operM i.Op).2
 tm : ∀ b,b < f.Blocks.length → ∃ s,shM (ix f.Blocks b).Term.Kind = some s ∧ (s.1 ≤ ((ix f.Blocks b).Term.Args.length : Int) ∧ ((ix f.Blocks b).Term.Args.length : Int) ≤ s.2.1) ∧ (s.2.2.1 ≤ ((ix f.Blocks b).Term.To.length : Int) ∧ ((ix f.Blocks b).Term.To.length : Int) ≤ s.2.2.2)
 to : ∀ b,b < f.Blocks.length → ∀ t ∈ (ix f.Blocks b).Term.To,1 ≤ t ∧ t < f.Blocks.length
 reach : ∀ b,b < f.Blocks.length → ∃ w,RB (prG (graphF f)) w b
 fr : ∀ b,b < f.Blocks.length → ∀ p ∈ (ix f.Blocks b).Phis,0 < b ∧ p.In.map (fun x => x.From) = ix (predsG (graphF f)) b
 ui : ∀ b,b < f.Blocks.length → ∀ i,i < (ix f.Blocks b).Ins.length → ∀ v ∈ (ix (ix f.Blocks b).Ins i).Args,US f v b i
 ut : ∀ b,b < f.Blocks.length → ∀ v ∈ (ix f.Blocks b).Term.Args,US f v b (ix f.Blocks b).Ins.length
 up : ∀ b,b < f.Blocks.length → ∀ p ∈ (ix f.Blocks b).Phis,∀ x ∈ p.In,US f x.Val x.From.toNat (ix f.Blocks x.From.toNat).Ins.length
section
variable {f : D.Func} {b i : Nat}
end
section
variable {f : D.Func} {b i j : Nat}
theorem graph_len (f : D.Func) : (graphF f).length = f.Blocks.length := by simp [graphF]
end
end Go.Proofs.YtmfkkodnghambaaGreat
namespace Go.JE
variable {P : Program} {D : List Dt} {L M : List Res} {e : Env} {H : Heap} {T T' E : TypeId} {x y : Operand} {p : Option Addr}
section
variable {α : Type} [Inhabited α] {r : Rp α} {F : PH} {v : Value} {l : List α} {B i off : Nat} {k : IntKind} {n : Int}
end
section
variable {Q : Exit → Act → World → Prop} {X : Cx} {w0 : World} {fn : Func} {m : Nat} {ι : Type} {val : ι → Value} {dr : ι → List Dt} {lr : Nat → ι → List Res} {N : List Res}
end
structure St2q (P : Program) (T : TypeId) (k : IntKind) : Prop where
 und : ∃ f0 f1, P.underlying T = some (.struct #[f0, f1]) ∧ f0.name ≠ "_" ∧ f1.name ≠ "_" ∧ f0.offset = 0 ∧ f1.offset = 1 ∧ P.underlying f0.type = some (.int k) ∧ P.underlying f1.type = some (.int k)
 stood : P.stoodInHeld T = false
 guard : P.eqGuardType P.depth T = false
end Go.JE
namespace Go.JE
variable {P : Program} {D Ds : List Dt} {L M Ls : List Res} {e : Env} {X : Cx} {n : Fs} {w0 : World} {Q : Exit → Act → World → Prop} {FS : PH}
variable {ops : Array Oper} {op : Op} {d : Nat} {ty : TypeId} {pos : String} {af : Array Edge} {rest l : List Oper} {z : Bool} {is : Od} {i : Nat}
end Go.JE
namespace Go.Proofs.YtmfkkodnghambaaGreat
open Go.JE
end Go.Proofs.YtmfkkodnghambaaGreat
namespace Go.JE
variable {P : Program} {D : List Dt} {L M : List Res} {e : Env} {X : Cx} {n : Fs} {w0 : World} {Q : Exit → Act → World → Prop} {ops : Array Oper} {rest : List Oper} {p : Prop}
end Go.JE
namespace Go.Proofs.YtmfkkodnghambaaGreat
open Go.JE
end Go.Proofs.YtmfkkodnghambaaGreat
namespace Go.JE
variable {P : Program} {e : Env} {H : Heap}
theorem OpCh.imp {op : Op} {R R' : Value → Heap → Prop} (h : OpCh P e op H R) (hR : ∀ v H',R v H' → R' v H') : OpCh P e op H R' := by
 intro ρ o w ho hev hw
 obtain ⟨v,w',h1,h2,h3,h4,h5⟩ := h ρ o w ho hev hw
 exact ⟨v,w',h1,h2,h3,h4,hR _ _ h5⟩
theorem InH.none (H : Heap) : InH (fun _ => none) H := fun _ _ h => by cases h
def Mf (H : Heap) (g : Nat) (z : Value) (f : Int → Value) : Prop := ∃ L,Im H g L ∧ ∀ k,(lkM L k).getD z = f k
section
variable {g : Nat} {z : Value} {f : Int → Value}
theorem Mf.lt (h : Mf H g z f) : g < H.size := by obtain ⟨L,h,_⟩ := h; exact h.lt
theorem Mf.of {H' : Heap} (h : Mf H g z f) (hb : H'[g]? = H[g]?) : Mf H' g z f := by obtain ⟨L,h,h2⟩ := h; exact ⟨L,h.of hb,h2⟩
theorem Mf.kp {B : Nat} {H' : Heap} (h : Mf H g z f) (hk : Kp B H H') (hb : g < B) : Mf H' g z f := h.of (hk.2 g hb)
theorem Mf.new (h : Im H g []) : Mf H g z (fun _ => z) := ⟨[],h,fun _ => rfl⟩
end
section
variable {α : Type} {r : Rp α} {F : PH} {B : Nat} {v : Value} {l : List α}
theorem Gl.resl0 {E : TypeId} (h : Gl r E F H B v l) {hi : Nat} (h2 : hi ≤ l.length) : ∃ a c,JE.resl r.sz v 0 hi = .slice a hi c ∧ ((v = .slice none 0 0 ∧ hi = 0 ∧ a = none ∧ c = 0) ∨ ∃ g,a = some ⟨g,0,none⟩ ∧ v = .slice (some ⟨g,0,none⟩) l.length c) := by
 obtain ⟨xs,o1,_⟩ := h
 rcases o1.2 with ⟨e1,e2⟩ | ⟨g,cap,cur,e1,_⟩
 · subst e1
   obtain rfl : hi = 0 := by omega
   exact ⟨none,0,rfl,.inl ⟨rfl,rfl,rfl,rfl⟩⟩
 · subst e1
   refine ⟨some ⟨g,0,none⟩,cap,?_,.inr ⟨g,rfl,rfl⟩⟩
   simp only [JE.resl,Nat.sub_zero,Nat.zero_mul]
   split
   · rfl
   · simp [Addr.add_none]
theorem Gl.cut {E : TypeId} (h : Gl r E F H B v l) {hi : Nat} (h2 : hi ≤ l.length) : Gl r E F H B (JE.resl r.sz v 0 hi) (l.take hi) ∧ (JE.resl r.sz v 0 hi).ownBlock = v.ownBlock := by
 obtain ⟨a,c,e0,hc⟩ := h.resl0 h2
 rw [e0]
 have hl : (l.take hi).length = hi := by rw [List.length_take]; omega
 rcases hc with ⟨rfl,rfl,rfl,rfl⟩ | ⟨g,rfl,e1⟩
 · refine ⟨?_,rfl⟩
   rw [List.take_zero]; exact Gl.nil F H B
 · subst e1
   refine ⟨?_,rfl⟩
   obtain ⟨xs,o1,o2,o3⟩ := h
   rcases o1.2 with ⟨e2,_⟩ | ⟨g',cap,cur,e2,hb,hg,hc1,hc2,hc3,hc4⟩
   · cases e2
   cases e2
   refine ⟨xs.take (hi * r.sz),⟨?_,.inr ⟨g,c,cur,?_,hb,hg,?_,hc2,hc3,?_⟩⟩,o2,?_⟩
   · rw [List.length_take,o1.1,hl]; exact Nat.min_eq_left (Nat.mul_le_mul_right _ h2)
   · rw [hl]
   · rw [hl]; omega
   · rw [hl,← hc4,List.take_take,Nat.min_eq_left (Nat.mul_le_mul_right _ h2)]
   · intro i hi9
     rw [hl] at hi9
     rw [List.getElem_take]
     refine r.ext ?_ (o3 i (by omega))
     intro j hj
     have : i * r.sz + j < hi * r.sz := by
       have h5 : (i + 1) * r.sz ≤ hi * r.sz := Nat.mul_le_mul_right _ hi9
       rw [Nat.add_mul,Nat.one_mul] at h5; omega
     simp only [List.getD_eq_getElem?_getD,List.getElem?_take_of_lt this]
end
end Go.JE
namespace Go.JE
variable {P : Program} {n : Fs} {w0 : World} {Q : Exit → Act → World → Prop} {e : Env} {H : Heap}
abbrev RW (ro : Option Nat) : Fence := { Fence.wide with round := ro }
def NO (Q : Exit → Act → World → Prop) : Exit → Act → World → Prop
 | .outgrown,_,_ => False
 | x,a,w => Q x a w
theorem NO.imp {Q : Exit → Act → World → Prop} : ∀ (x : Exit) (a : Act) (w : World),NO Q x a w → Q x a w := fun x a w h => by
 cases x <;> first | exact h | exact (h : False).elim
theorem NO.lets {Q : Exit → Act → World → Prop} (h : LetsOut (NO Q)) : False := by obtain ⟨_,_,h⟩ := h; exact h
def noDefer (o : Oper) : Bool := match o.op with | .defer _ => false | _ => true
theorem callsRW {ro : Option Nat} {m : Nat} {f : FuncId} {args : Array Value} {w : World} {R : Ending → World → Prop} (h : Calls P f args w R) : CallsIn (RW ro) m P f args w R :=
 show CallsIn Fence.wide m P f args w R from callsIn_wide.2 h
theorem rowsRW {ro : Option Nat} {m : Nat} {row : String} {args : Array Value} {w : World} {R : Value → World → Prop} (h : Rows P row args w R) : RowsIn (RW ro) m P row args w R :=
 fun c cs _ => let ⟨v,w',r,s⟩ := h c cs; ⟨v,w',r,stepsIn_wide.2 s⟩
theorem uponRW {Q : Exit → Act → World → Prop} {ro : Option Nat} {m : Nat} {o : Oper} {a : Act} {next next' : Act → World → Prop} (hk : ∀ a w,next a w → next' a w) : ∀ r,o.upon P a next (NO Q) r → o.uponIn (RW ro) m P a next' (NO Q) r := by
 intro r h
 unfold Oper.upon at h
 unfold Oper.uponIn
 split at h
 · exact hk _ _ h
 · exact hk _ _ h
 · exact hk _ _ h
 · refine ⟨fun h0 => (by simp [Fence.wide] at h0),(callsRW h).mono fun x w' hx => ?_⟩
   cases x with
   | returned v => exact hk _ _ hx
   | panicked c => exact hx
   | outgrown => exact hx
 · exact ⟨fun h0 => (by simp [Fence.wide] at h0),(rowsRW h).mono fun v w' hx => hk _ _ hx⟩
 · exact h
 · exact h.elim
theorem listRW {Q : Exit → Act → World → Prop} {ro : Option Nat} {m : Nat} {ops : Array Oper} : ∀ (l : List Oper),l.all noDefer = true → ∀ a w,wpList P ops (NO Q) l a w → wpListIn (RW ro) m P ops (NO Q) l a w
 | [],_,_,_,h => h
 | o :: l,hd,a,w,h => by
   simp only [List.all_cons,Bool.and_eq_true] at hd
   have ih : ∀ a w,wpList P ops (NO Q) l a w → wpListIn (RW ro) m P ops (NO Q) l a w := listRW l hd.2
   simp only [wpList] at h
   simp only [wpListIn]
   split at h
   · rename_i hw
     rw [if_pos hw]
     rcases h with h | ⟨_,h⟩
     · refine ⟨fun _ _ => trivial,?_⟩
       rw [Oper.semAt_eq _ _ _ (fun c hc => by have := hd.1; simp [noDefer,hc] at this)]
       exact uponRW (fun a w h => ih a w h) _ h
     · exact (NO.lets h).elim
   · rename_i hw
     rw [if_neg hw]
     exact ⟨fun _ _ => trivial,ih _ _ h⟩
def RCF (P : Program) (n : Fs) (w0 : World) (ro : Option Nat) (m : Nat) (Q : Exit → Act → World → Prop) (e : Env) (c : Code) (H : Heap) : Prop :=
 ∀ a w,Fr n e a → Wd w0 H w → c.wpIn (RW ro) m P Q a w
section code
variable {x y : Code} {id : Nat} {l : List Oper} {ro : Option Nat} {m : Nat}
theorem RCF.region (h : LF P n w0 l.toArray (NO Q) e l H) (hd : l.all noDefer = true := by kernel_rfl) : RCF P n w0 ro m Q e (.region id l.toArray false) H :=
 fun a w hf hw => wpIn_mono (wpIn_region_lit (listRW l hd a w (h a w hf hw))) NO.imp
theorem RLF.nil {ops : Array Oper} (h : PF n w0 Q e .normal H) : LF P n w0 ops (NO Q) e [] H := fun a w hf hw => wpList_nil (h a w hf hw)
theorem RCF.seq (h : RCF P n w0 ro m (Exit.then (y.wpIn (RW ro) m P Q) Q) e x H) : RCF P n w0 ro m Q e (.seq x y) H := fun a w hf hw => wpIn_seq (h a w hf hw)
theorem RPF.next (h : RCF P n w0 ro m Q e y H) : PF n w0 (Exit.then (y.wpIn (RW ro) m P Q) Q) e .normal H := h
theorem RCF.block (h : RCF P n w0 ro m (Exit.inBlock id Q) e x H) : RCF P n w0 ro m Q e (.block id x) H := fun a w hf hw => wpIn_block (h a w hf hw)
theorem RCF.skip (h : PF n w0 Q e .normal H) : RCF P n w0 ro m Q e .skip H := fun a w hf hw => wpIn_skip (h a w hf hw)
theorem RCF.exit (h : PF n w0 Q e (.exit id) H) : RCF P n w0 ro m Q e (.exit id) H := fun a w hf hw => wpIn_exit (h a w hf hw)
theorem RCF.ret (h : PF n w0 Q e .ret H) : RCF P n w0 ro m Q e .ret H := fun a w hf hw => wpIn_ret (h a w hf hw)
theorem RCF.if {c : Operand} {b : Bool} {p q : Prop} (hc : ev e c = some (.bool b)) [hb : BoolP b p q] (ht : p → RCF P n w0 ro m Q e x H) (hf : q → RCF P n w0 ro m Q e y H) : RCF P n w0 ro m Q e (.cond c x y) H := by
 intro a w hfr hw
 exact wpIn_cond_split (hfr.ev hc) (fun h => ht (hb.pos h) a w hfr hw) (fun h => hf (hb.neg h) a w hfr hw)
theorem RCF.of (h : CF P n w0 Q e x H) : RCF P n w0 none m Q e x H := fun a w hf hw => show x.wpIn Fence.wide m P Q a w from wpIn_wide.2 (h a w hf hw)
theorem RCF.out (h : RCF P n w0 none m Q e x H) : CF P n w0 Q e x H := fun a w hf hw => (wpIn_wide (n := m)).1 (show x.wpIn Fence.wide m P Q a w from h a w hf hw)
theorem RCF.loop {ι : Type} (inv : ι → Heap → Prop) (env : ι → Env) (μ : ι → Nat) (i0 : ι) (h0 : inv i0 H) (hs : Sub e (env i0))
   (round : ∀ i H',inv i H' → RCF P n w0 ro m (Exit.then (Again n w0 inv env μ i) Q) (env i) x H') : RCF P n w0 ro m Q e (.loop x) H := by
 intro a w hf hw
 let I : Nat → Act → World → Prop := fun k a w => ∃ i,μ i = k ∧ inv i w.heap ∧ Fr n (env i) a ∧ Wd w0 w.heap w
 refine wpIn_loop (fun a w => ∃ k,I k a w) (fun a w => leastOf (fun k => I k a w)) ⟨μ i0,i0,rfl,hw.heap ▸ h0,hf.sub hs,⟨rfl,hw.os,hw.tape,hw.output⟩⟩ ?_
 intro a w hI
 obtain ⟨i,hm,hi,hfi,hwi⟩ := (leastOf_spec hI).1
 refine wpIn_mono (round i w.heap hi a w hfi hwi) ?_
 intro z a' w' hq
 cases z with
 | normal =>
   obtain ⟨j,h1,h2,h3,h4⟩ := hq
   have hJ : ∃ k,I k a' w' := ⟨μ j,j,rfl,h1,h2,h3⟩
   exact ⟨hJ,Nat.lt_of_le_of_lt ((leastOf_spec hJ).2 (μ j) ⟨j,rfl,h1,h2,h3⟩) (hm ▸ h4)⟩
 | exit id => exact hq
 | goto l => exact hq
 | ret => exact hq
 | panic ch => exact hq
 | outgrown => exact hq
end code
def OpYield (P : Program) (e : Env) (op : Op) (H : Heap) (l : Nat) (args : Array Value) : Prop :=
 ∀ (ρ : Operand → Value) (o : Oper) (w : World),o.op = op → (∀ x u,ev e x = some u → ρ x = u) → w.heap = H → (execOp ρ o).run P w = (Instr.yield l args).run P w
theorem OpYield.call {g : Operand} {l : Nat} {xs : List Operand} {vs : List Value} {ts : Array TypeId} (hf : ev e g = some (.func (.yield l) #[] #[])) (hl : evl e xs = some vs) :
   OpYield P e (.call { callee := .value g,args := xs.toArray,argTypes := ts }) H l vs.toArray := by
 intro ρ o w ho hev _
 have h1 : xs.toArray.map ρ = vs.toArray := by rw [← evl_map hev xs vs hl]; simp
 simp only [execOp,ho,resolve,h1,hev _ _ hf,Deferred.ofValue]
 simp only [Sem.run_bind,Sem.run_pure,Result.andThen_ok,invoke]
 simp
section yield
variable {ops : Array Oper} {op : Op} {d : Nat} {ty : TypeId} {pos : String} {af : Array Edge} {rest : List Oper} {m : Nat}
theorem yield_step {l : Nat} {args : Array Value} {R : Ending → World → Prop} {a : Act} {w : World} (hf : Fr n e a) (hw : w.heap = H) (h : OpYield P e op H l args) (hy : YieldAt (RW none) (m - 1) P l args w R)
   (hR : ∀ x w',R x w' → ∃ v,x = .returned v ∧ wpListIn (RW none) m P ops Q rest (a.put (some d) v) w') :
   wpListIn (RW none) m P ops Q (⟨some d,op,ty,pos,af,none⟩ :: rest) a w := by
 obtain ⟨fn,tmps,assign,body,h1,h2⟩ := hy
 refine wpListIn_plain rfl fun K hK => ?_
 refine ⟨fun _ _ => trivial,?_⟩
 have hs : (Oper.semAt (RW none).round a.eval ⟨some d,op,ty,pos,af,none⟩).run P w = .ok (.round l fn tmps assign body) w := by
   show (execOp a.eval ⟨some d,op,ty,pos,af,none⟩).run P w = _
   rw [h a.eval _ w rfl (fun x u hx => hf.ev hx) hw,h1]
 rw [hs]
 refine ⟨fun h0 => (by simp [Fence.wide] at h0),h2.mono fun x w' hx => ?_⟩
 obtain ⟨v,rfl,h3⟩ := hR x w' hx
 exact hK _ _ h3
end yield
def RQ {α : Type} (w0 : World) (H : Heap) (bl : List Nat) (inv : List α → Heap → Prop) (ys : List α) (Hs : Heap) : Exit → Act → World → Prop
 | .normal,_,w => Wd w0 w.heap w ∧ Hs.size ≤ w.heap.size ∧ (∀ k,H.size ≤ k → k < Hs.size → w.heap[k]? = Hs[k]?) ∧ (∀ k ∈ bl,w.heap[k]? = Hs[k]?) ∧ inv ys w.heap
 | _,_,_ => False
theorem PF.round {α : Type} {bl : List Nat} {inv : List α → Heap → Prop} {ys : List α} {Hs H' : Heap} (h1 : Hs.size ≤ H'.size) (h2 : ∀ k,H.size ≤ k → k < Hs.size → H'[k]? = Hs[k]?) (h3 : ∀ k ∈ bl,H'[k]? = Hs[k]?) (h4 : inv ys H') :
   PF n w0 (RQ w0 H bl inv ys Hs) e .normal H' := by
 intro a w hf hw
 rw [← hw.heap] at h1 h2 h3 h4
 exact ⟨⟨rfl,hw.os,hw.tape,hw.output⟩,h1,h2,h3,h4⟩
def laid (e : Env) : List Nat → List Value → Env
 | p :: ps,v :: vs => laid ((p,v) :: e) ps vs
 | _,_ => e
abbrev Fs.mark (n : Fs) (D : Nat) : Fs := ⟨n.sz,{ target := .collected D,args := #[] } :: n.ds⟩
section func
variable {f : FuncId} {fn : Func} {c : Code} {R : Value → Heap → Prop}
end func
end Go.JE
namespace Go.JE
variable {P : Program} {n : Fs} {Q : Exit → Act → World → Prop} {e : Env} {w : World} {m : Nat}
def YL (P : Program) (n : Fs) (ops : Array Oper) (Q : Exit → Act → World → Prop) (m : Nat) (e : Env) (l : List Oper) (w : World) : Prop := ∀ a,Fr n e a → wpListIn (RW none) m P ops Q l a w
def YC (P : Program) (n : Fs) (Q : Exit → Act → World → Prop) (m : Nat) (e : Env) (c : Code) (w : World) : Prop := ∀ a,Fr n e a → c.wpIn (RW none) m P Q a w
def YP (n : Fs) (Q : Exit → Act → World → Prop) (e : Env) (x : Exit) (w : World) : Prop := ∀ a,Fr n e a → Q x a w
section ops
variable {ops : Array Oper} {op : Op} {d : Nat} {ty : TypeId} {pos : String} {af : Array Edge} {rest : List Oper} {v : Value}
theorem YL.nil (h : YP n Q e .normal w) : YL P n ops Q m e [] w := fun a hf => wpListIn_nil (h a hf)
theorem YL.step (h : OpOk P e op w.heap v) (K : YL P n ops Q m ((d,v) :: e) rest w) (hd : Nat.blt d n.sz = true := by rfl) (hn : noDefer ⟨some d,op,ty,pos,af,none⟩ = true := by rfl) :
   YL P n ops Q m e (⟨some d,op,ty,pos,af,none⟩ :: rest) w := by
 intro a hf
 refine wpListIn_plain rfl fun K' hK' => ⟨fun _ _ => trivial,?_⟩
 rw [Oper.semAt_eq _ _ _ (fun c hc => by simp only at hc; subst hc; cases hn),h a.eval _ w rfl (fun x u hx => hf.ev hx) rfl]
 exact hK' _ _ (K _ (hf.put hd v))
theorem YL.gstep {j t : Nat} {want B : Bool} {u : Value} (hj : (ops[j]?).bind (·.dst) = some t) (hu : lk e t = some u) (hB : Gd u want B) (h : B = true → OpOk P e op w.heap v) (K : YL P n ops Q m ((d,gv B v) :: e) rest w)
   (hd : Nat.blt d n.sz = true := by rfl) (ht : Nat.blt t n.sz = true := by rfl) (hn : noDefer ⟨some d,op,ty,pos,af,some (j,want)⟩ = true := by rfl) :
   YL P n ops Q m e (⟨some d,op,ty,pos,af,some (j,want)⟩ :: rest) w := by
 intro a hf
 have hwt := wanted_gd (o := ⟨some d,op,ty,pos,af,some (j,want)⟩) rfl hj ht hf hu hB
 simp only [wpListIn]
 rw [hwt]
 cases B with
 | true =>
   rw [if_pos rfl]
   refine ⟨fun _ _ => trivial,?_⟩
   rw [Oper.semAt_eq _ _ _ (fun c hc => by simp only at hc; subst hc; cases hn),h rfl a.eval _ w rfl (fun x u hx => hf.ev hx) rfl]
   exact K _ (hf.put hd v)
 | false =>
   rw [if_neg (by decide)]
   exact ⟨fun _ _ => trivial,K _ (hf.put hd undef)⟩
theorem YL.yield {l : Nat} {args : Array Value} {R : Ending → World → Prop} (h : OpYield P e op w.heap l args) (hy : YieldAt (RW none) (m - 1) P l args w R)
   (K : ∀ x w',R x w' → ∃ v,x = .returned v ∧ YL P n ops Q m ((d,v) :: e) rest w') (hd : Nat.blt d n.sz = true := by rfl) :
   YL P n ops Q m e (⟨some d,op,ty,pos,af,none⟩ :: rest) w := by
 intro a hf
 refine yield_step hf rfl h hy fun x w' hx => ?_
 obtain ⟨v,rfl,h2⟩ := K x w' hx
 exact ⟨v,rfl,h2 _ (hf.put hd v)⟩
end ops
section code
variable {x y : Code} {id : Nat} {l : List Oper}
theorem YC.region (h : YL P n l.toArray Q m e l w) : YC P n Q m e (.region id l.toArray false) w := fun a hf => wpIn_region_lit (h a hf)
theorem YC.seq (h : YC P n (Exit.then (y.wpIn (RW none) m P Q) Q) m e x w) : YC P n Q m e (.seq x y) w := fun a hf => wpIn_seq (h a hf)
theorem YP.next (h : YC P n Q m e y w) : YP n (Exit.then (y.wpIn (RW none) m P Q) Q) e .normal w := h
theorem YC.block (h : YC P n (Exit.inBlock id Q) m e x w) : YC P n Q m e (.block id x) w := fun a hf => wpIn_block (h a hf)
theorem YC.skip (h : YP n Q e .normal w) : YC P n Q m e .skip w := fun a hf => wpIn_skip (h a hf)
theorem YC.exit (h : YP n Q e (.exit id) w) : YC P n Q m e (.exit id) w := fun a hf => wpIn_exit (h a hf)
theorem YC.ret (h : YP n Q e .ret w) : YC P n Q m e .ret w := fun a hf => wpIn_ret (h a hf)
theorem YC.if {c : Operand} {b : Bool} {p q : Prop} (hc : ev e c = some (.bool b)) [hb : BoolP b p q] (ht : p → YC P n Q m e x w) (hf : q → YC P n Q m e y w) : YC P n Q m e (.cond c x y) w := by
 intro a hfr
 exact wpIn_cond_split (hfr.ev hc) (fun h => ht (hb.pos h) a hfr) (fun h => hf (hb.neg h) a hfr)
theorem YP.thenExit {K : Act → World → Prop} (h : YP n Q e (.exit id) w) : YP n (Exit.then K Q) e (.exit id) w := h
theorem YP.thenRet {K : Act → World → Prop} (h : YP n Q e .ret w) : YP n (Exit.then K Q) e .ret w := h
theorem YP.blockNormal (h : YP n Q e .normal w) : YP n (Exit.inBlock id Q) e .normal w := h
theorem YP.blockRet (h : YP n Q e .ret w) : YP n (Exit.inBlock id Q) e .ret w := h
theorem YP.blockHere (h : YP n Q e .normal w) : YP n (Exit.inBlock id Q) e (.exit id) w := fun a hf => by
 show (if id = id then _ else _); rw [if_pos rfl]; exact h a hf
def YAgain {ι : Type} (n : Fs) (inv : ι → World → Prop) (env : ι → Env) (μ : ι → Nat) (i : ι) (a : Act) (w : World) : Prop := ∃ j,inv j w ∧ Fr n (env j) a ∧ μ j < μ i
theorem YC.loop {ι : Type} (inv : ι → World → Prop) (env : ι → Env) (μ : ι → Nat) (i0 : ι) (h0 : inv i0 w) (hs : Sub e (env i0))
   (round : ∀ i w',inv i w' → YC P n (Exit.then (YAgain n inv env μ i) Q) m (env i) x w') : YC P n Q m e (.loop x) w := by
 intro a hf
 let I : Nat → Act → World → Prop := fun k a w => ∃ i,μ i = k ∧ inv i w ∧ Fr n (env i) a
 refine wpIn_loop (fun a w => ∃ k,I k a w) (fun a w => leastOf (fun k => I k a w)) ⟨μ i0,i0,rfl,h0,hf.sub hs⟩ ?_
 intro a w hI
 obtain ⟨i,hm,hi,hfi⟩ := (leastOf_spec hI).1
 refine wpIn_mono (round i w hi a hfi) ?_
 intro z a' w' hq
 cases z with
 | normal =>
   obtain ⟨j,h1,h2,h3⟩ := hq
   have hJ : ∃ k,I k a' w' := ⟨μ j,j,rfl,h1,h2⟩
   exact ⟨hJ,Nat.lt_of_le_of_lt ((leastOf_spec hJ).2 (μ j) ⟨j,rfl,h1,h2⟩) (hm ▸ h3)⟩
 | exit id => exact hq
 | goto l => exact hq
 | ret => exact hq
 | panic ch => exact hq
 | outgrown => exact hq
theorem YP.again {ι : Type} {inv : ι → World → Prop} {env : ι → Env} {μ : ι → Nat} {i : ι} (j : ι) (hj : inv j w) (hs : Sub e (env j)) (hm : μ j < μ i) :
   YP n (Exit.then (YAgain n inv env μ i) Q) e .normal w := fun _ hf => ⟨j,hj,hf.sub hs,hm⟩
end code
section func
variable {f : FuncId} {fn : Func} {c : Code} {R : Ending → World → Prop}
theorem YC.enter {args : List Value} {k : Nat} (hf : P.funcs[f]? = some fn) (hb : fn.body = some c) (hn : fn.ntmps = k) (ha : Nat.ble args.length k = true)
   (h : YC P ⟨k,[]⟩ (bodyPost P fn R) m (number 0 args) c w) : CallsIn (RW none) m P f args.toArray w R := by
 refine callsIn_of_wp hf hb trivial ?_ rfl
 have ha' : args.length ≤ k := by simpa [Nat.ble_eq] using ha
 refine h _ ⟨?_,rfl,?_⟩
 · simp [hn]; omega
 · intro t v hv
   obtain ⟨i,h1,h2⟩ := lk_number args 0 t v hv
   have hi : i < args.length := (List.getElem?_eq_some_iff.1 h2).1
   have e1 : t = i := by omega
   subst e1
   simp only [Array.getD_eq_getD_getElem?]
   rw [Array.getElem?_append_left (by simpa using hi)]
   simp [h2]
theorem YP.ret0 {k : Nat} (hr : fn.results = #[]) (hR : R (.returned (.tuple #[])) w) : YP ⟨k,[]⟩ (bodyPost P fn R) e .ret w := fun _ hf => bodyPost_ret (results_none hr _ _ _) hf.defers hR
theorem YP.end0 {k : Nat} (hr : fn.results = #[]) (hR : R (.returned (.tuple #[])) w) : YP ⟨k,[]⟩ (bodyPost P fn R) e .normal w := fun _ hf => bodyPost_end (results_none hr _ _ _) hf.defers hR
end func
end Go.JE
