/- Lemmas that the claim is made of. Conditions: each lemma names its own. -/
import Derived.Test.YtmfkkodnghambaaKF3
import Derived.Test.YtmfkkodnghambaaKF4
set_option linter.unusedSectionVars false
set_option linter.unusedSimpArgs false
set_option linter.unusedVariables false
namespace Go.Proofs.Ytmfkkodnghambaa
open Go.JE
inductive An (out : List Int) : Nat → Nat → Prop
 | self (v : Nat) : An out v v
 | up {x v : Nat} : 0 ≤ ix out v → An out x (ix out v).toNat → An out x v
inductive RB (pr : Nat → Nat → Prop) (w : Nat) : Nat → Prop
 | zero : w ≠ 0 → RB pr w 0
 | step {x t : Nat} : RB pr w x → pr x t → t ≠ w → RB pr w t
inductive Pt (pr : Nat → Nat → Prop) (num : List Int) (m : Int) : Nat → Nat → Prop
 | nil (v : Nat) : Pt pr num m v v
 | step {u x t : Nat} : Pt pr num m u x → pr x t → m < ix num t → Pt pr num m u t
structure GN (n : Nat) (num : List Int) (pr : Nat → Nat → Prop) : Prop where
 n0 : 0 < n
 rng : ∀ v,v < n → 0 ≤ ix num v ∧ ix num v < n
 inj : ∀ u v,u < n → v < n → ix num u = ix num v → u = v
 zero : ix num 0 = 0
 prn : ∀ q b,pr q b → q < n ∧ b < n
 fwd : ∀ b,b < n → b ≠ 0 → ∃ q,pr q b ∧ ix num q < ix num b
def pdn (out : List Int) (v : Nat) : Prop := v = 0 ∨ 0 ≤ ix out v
structure TV (n : Nat) (num out : List Int) : Prop where
 len : out.length = n
 root : ix out 0 < 0
 up : ∀ v,v < n → 0 ≤ ix out v → ix out v < n ∧ ix num (ix out v).toNat < ix num v ∧ pdn out (ix out v).toNat
section
variable {n : Nat} {num out : List Int} {pr : Nat → Nat → Prop}
theorem An.trans {x y z : Nat} (h1 : An out x y) (h2 : An out y z) : An out x z := by
 induction h2 with
 | self => exact h1
 | up h _ ih => exact .up h ih
theorem An.lt (hv : TV n num out) {x v : Nat} (h : An out x v) : v < n → x < n := by
 induction h with
 | self => exact id
 | @up v h _ ih => intro hv'; exact ih (by have := (hv.up v hv' h).1; omega)
theorem An.nu (hv : TV n num out) {x v : Nat} (h : An out x v) : v < n → ix num x ≤ ix num v ∧ (x ≠ v → ix num x < ix num v) := by
 induction h with
 | self => exact fun _ => ⟨Int.le_refl _,fun h => absurd rfl h⟩
 | @up v h _ ih =>
   intro hv'
   have h1 := hv.up v hv' h
   have h2 := ih (by omega)
   exact ⟨by omega,fun _ => by omega⟩
theorem An.pd (hv : TV n num out) {x v : Nat} (h : An out x v) : v < n → pdn out v → pdn out x := by
 induction h with
 | self => exact fun _ h => h
 | @up v h _ ih => intro hv' _; have h1 := hv.up v hv' h; exact ih (by omega) h1.2.2
theorem An.tot {x y v : Nat} (h1 : An out x v) (h2 : An out y v) : An out x y ∨ An out y x := by
 induction h1 with
 | self => exact .inr h2
 | @up v h h3 ih =>
   cases h2 with
   | self => exact .inl (.up h h3)
   | up _ h4 => exact ih h4
theorem Pt.tr {m : Int} {u v w : Nat} (h1 : Pt pr num m u v) (h2 : Pt pr num m v w) : Pt pr num m u w := by
 induction h2 with
 | nil => exact h1
 | step _ h3 h4 ih => exact .step ih h3 h4
theorem Pt.mono {m m' : Int} {u v : Nat} (h : Pt pr num m u v) (hm : m' ≤ m) : Pt pr num m' u v := by
 induction h with
 | nil => exact .nil _
 | step _ h3 h4 ih => exact .step ih h3 (by omega)
theorem Pt.rb {m : Int} {u v w : Nat} (h : Pt pr num m u v) (hr : RB pr w u) (hm : ix num w ≤ m) : RB pr w v := by
 induction h with
 | nil => exact hr
 | step _ h3 h4 ih => exact .step ih h3 (fun e => by subst e; omega)
end
structure IS (n : Nat) (num : List Int) (pr : Nat → Nat → Prop) (out : List Int) (i : Int) : Prop where
 tv : TV n num out
 fp : ∀ v,v < n → ix num v < i → pdn out v
 dm : ∀ b a,b < n → pdn out b → (a = b ∨ ¬ RB pr a b) → An out a b
 pa : ∀ b,b < n → 0 ≤ ix out b → Pt pr num (ix num (ix out b).toNat) (ix out b).toNat b
 hh : ∀ b,b < n → 0 ≤ ix out b → ∀ y,(∀ p,pr p b → pdn out p → An out y p) → An out y (ix out b).toNat
 kk : ∀ b,b < n → 0 ≤ ix out b → ∀ q,pr q b → ix num q < ix num b → (ix num b < i ∨ i ≤ ix num (ix out b).toNat) → An out (ix out b).toNat q
structure BS (out : List Int) (P : Nat → Prop) (best : Int) : Prop where
 no : best < 0 → ∀ p,P p → ¬ pdn out p
 an : 0 ≤ best → ∀ p,P p → pdn out p → An out best.toNat p
 nc : 0 ≤ best → ∀ y,(∀ p,P p → pdn out p → An out y p) → An out y best.toNat
 pd : 0 ≤ best → pdn out best.toNat
section
variable {n : Nat} {num out : List Int} {pr : Nat → Nat → Prop} {i : Int}
theorem an_pt (hs : IS n num pr out i) {b c : Nat} (h : An out b c) : c < n → Pt pr num (ix num b) b c := by
 induction h with
 | self => exact fun _ => .nil _
 | @up v h h2 ih =>
   intro hv
   have h1 := hs.tv.up v hv h
   exact (ih (by omega)).tr ((hs.pa v hv h).mono ((h2.nu hs.tv (by omega)).1))
theorem IS.step (hg : GN n num pr) (hs : IS n num pr out i) {b : Nat} {best : Int} (hb : b < n) (hb0 : b ≠ 0) (hi : ix num b = i) (hB : BS out (fun p => pr p b) best) :
   0 ≤ best ∧ best < n ∧ IS n num pr (out.set b best) (i + 1) ∧ (0 ≤ ix out b → ix out b ≠ best → ix num best.toNat < ix num (ix out b).toNat) := by
 have hv := hs.tv
 obtain ⟨q0,hq,hqn⟩ := hg.fwd b hb hb0
 have hq0 : q0 < n := (hg.prn _ _ hq).1
 have hqd := hs.fp q0 hq0 (by omega)
 have h0 : 0 ≤ best := by
   rcases Int.lt_or_le best 0 with h | h
   · exact absurd hqd (hB.no h q0 hq)
   · exact h
 have hbq := hB.an h0 q0 hq hqd
 have hbn := hbq.lt hv hq0
 have hnb : ix num best.toNat < i := by have := (hbq.nu hv hq0).1; omega
 have hnc : ∀ y,(∀ p,pr p b → pdn out p → An out y p) → An out y best.toNat := hB.nc h0
 generalize hx : best.toNat = x at *
 have hbe : best = (x : Int) := by omega
 have hup : 0 ≤ ix out b → An out x (ix out b).toNat := fun h => by
   exact hs.hh b hb h x (fun p hp hpd => by rw [← hx]; exact hB.an h0 p hp hpd)
 have hbl : b < out.length := by rw [hv.len]; exact hb
 have hset : ∀ v,ix (out.set b best) v = if v = b then best else ix out v := fun v => ix_set hbl
 have nx : ¬ An out b x := fun h => by have := (h.nu hv hbn).1; omega
 have la : ∀ {y v},An out y v → v < n → (An out b y ∨ ¬ An out b v) → An (out.set b best) y v := by
   intro y v h
   induction h with
   | self => exact fun _ _ => .self _
   | @up v h h2 ih =>
     intro hv' hc
     have h1 := hv.up v hv' h
     have hvb : v ≠ b := by
       rintro rfl
       rcases hc with hc | hc
       · have e1 := (hc.nu hv (h2.lt hv (by omega))).1
         have e2 := (h2.nu hv (by omega)).1
         omega
       · exact hc (.self _)
     refine .up (by rw [hset,if_neg hvb]; exact h) ?_
     rw [hset,if_neg hvb]
     exact ih (by omega) (hc.imp id (fun h3 h4 => h3 (.up h h4)))
 have lb : ∀ {y v},An (out.set b best) y v → v < n → (¬ An out b v ∧ An out y v) ∨ (An out b v ∧ ((An out b y ∧ An out y v) ∨ An out y x)) := by
   intro y v h
   induction h with
   | self =>
     intro _
     by_cases h1 : An out b y
     · exact .inr ⟨h1,.inl ⟨h1,.self _⟩⟩
     · exact .inl ⟨h1,.self _⟩
   | @up v h h2 ih =>
     intro hv'
     rw [hset] at h h2 ih
     by_cases e : v = b
     · subst e
       rw [if_pos rfl,hx] at ih
       rcases ih hbn with h3 | h3
       · exact .inr ⟨.self _,.inr h3.2⟩
       · exact absurd h3.1 nx
     · rw [if_neg e] at h h2 ih
       have h1 := hv.up v hv' h
       rcases ih (by omega) with h3 | h3
       · refine .inl ⟨fun h4 => h3.1 ?_,.up h h3.2⟩
         cases h4 with
         | self => exact absurd rfl e
         | up _ h5 => exact h5
       · refine .inr ⟨.up h h3.1,h3.2.imp (fun h4 => ⟨h4.1,.up h h4.2⟩) id⟩
 have lc : ∀ {y},An out y x → An (out.set b best) y b := fun {y} h => by
   refine .up (by rw [hset,if_pos rfl]; exact h0) ?_
   rw [hset,if_pos rfl,hx]
   exact la h hbn (.inr nx)
 have ld : ∀ {y v},An out y x → An out b v → v < n → An (out.set b best) y v := fun {y v} h h2 hv' => (lc h).trans (la h2 hv' (.inl (.self _)))
 have sub : 0 ≤ ix out b → ∀ {y v},An (out.set b best) y v → v < n → An out y v := fun h9 {y v} h hv' => by
   rcases lb h hv' with h1 | ⟨h1,h2⟩
   · exact h1.2
   · rcases h2 with h2 | h2
     · exact h2.2
     · exact (h2.trans (hup h9)).trans (.trans (.up h9 (.self _)) h1)
 have fresh : ¬ 0 ≤ ix out b → ∀ v,An out b v → v < n → v = b := fun h9 v h hv' => by
   cases h with
   | self => rfl
   | up h3 h4 =>
     have h5 := hv.up v hv' h3
     exact absurd (h4.pd hv (by omega) h5.2.2) (fun h => h.elim hb0 h9)
 have pds : ∀ v,pdn (out.set b best) v ↔ (v = b ∨ pdn out v) := fun v => by
   unfold pdn; rw [hset]
   by_cases e : v = b
   · rw [if_pos e]; exact ⟨fun _ => .inl e,fun _ => .inr h0⟩
   · rw [if_neg e]; exact ⟨.inr,fun h => h.resolve_left e⟩
 refine ⟨h0,by omega,?_,fun h9 h8 => ?_⟩
 · refine ⟨⟨by rw [List.length_set]; exact hv.len,by rw [hset,if_neg (fun h => hb0 h.symm)]; exact hv.root,fun v hv' h => ?_⟩,fun v hv' h => ?_,fun c a hc hpc h => ?_,fun v hv' h => ?_,fun v hv' h y hy => ?_,fun v hv' h q hq' hqn' hc => ?_⟩
   · rw [hset] at h ⊢
     split at h
     · rename_i e; subst e
       rw [if_pos rfl,hx]
       exact ⟨by omega,by omega,(pds _).2 (.inr (by have := hB.pd h0; rw [hx] at this; exact this))⟩
     · rename_i e
       rw [if_neg e]
       have := hv.up v hv' h
       exact ⟨this.1,this.2.1,(pds _).2 (.inr this.2.2)⟩
   · rw [pds]
     by_cases e : v = b
     · exact .inl e
     · exact .inr (hs.fp v hv' (by have := hg.inj v b hv' hb; have : ix num v ≠ ix num b := fun h => e (this h); omega))
   ·
     by_cases hcb : c = b
     · subst hcb
       by_cases hac : a = c
       · subst hac; exact .self _
       · refine lc (hnc a fun p hp hpd => hs.dm p a (hg.prn _ _ hp).1 hpd (.inr fun h6 => ?_))
         exact (h.resolve_left hac) (.step h6 hp (fun e => hac e.symm))
     · have hpc' : pdn out c := ((pds c).1 hpc).resolve_left hcb
       have hac := hs.dm c a hc hpc' h
       by_cases h1 : An out b c
       · by_cases h2 : An out b a
         · exact la hac hc (.inl h2)
         ·
           have h3 : An out a b := (hac.tot h1).resolve_right h2
           have hab : a ≠ b := fun e => h2 (by subst e; exact .self _)
           have hn := (h3.nu hv hb).2 hab
           have hdom : ¬ RB pr a b := fun h4 => by
             have h5 := (an_pt hs h1 hc).rb h4 (by omega)
             rcases h with h | h
             · subst h; exact h2 h1
             · exact h h5
           have h6 : An out a x := hnc a fun p hp hpd => hs.dm p a (hg.prn _ _ hp).1 hpd (.inr fun h7 => hdom (.step h7 hp (fun e => hab e.symm)))
           exact ld h6 h1 hc
       · exact la hac hc (.inr h1)
   · rw [hset] at h ⊢
     split at h
     · rename_i e; subst e
       rw [if_pos rfl,hx]
       exact .step (an_pt hs hbq hq0) hq (by omega)
     · rename_i e; rw [if_neg e]; exact hs.pa v hv' h
   · rw [hset] at h ⊢
     split at h
     · rename_i e; subst e
       rw [if_pos rfl,hx]
       refine la (hnc y fun p hp hpd => ?_) hbn (.inr nx)
       have h1 := hy p hp ((pds p).2 (.inr hpd))
       have hpn := (hg.prn _ _ hp).1
       by_cases h9 : 0 ≤ ix out v
       · exact sub h9 h1 hpn
       · rcases lb h1 hpn with h2 | ⟨h2,_⟩
         · exact h2.2
         · have e := fresh h9 p h2 hpn
           subst e
           exact absurd hpd (fun h => h.elim hb0 h9)
     · rename_i e
       rw [if_neg e]
       have h1 := hv.up v hv' h
       by_cases hz : An out b (ix out v).toNat
       ·
         have hzn := (hz.nu hv (by omega)).1
         have h9 : 0 ≤ ix out b := by
           rcases Int.lt_or_le (ix out b) 0 with h2 | h2
           · have h3 := fresh (by omega) _ hz (by omega)
             rw [h3] at h1
             exact absurd h1.2.2 (fun h => h.elim hb0 (fun h => by omega))
           · exact h2
         have hyz : An out y (ix out v).toNat := hs.hh v hv' h y fun p hp hpd => sub h9 (hy p hp ((pds p).2 (.inr hpd))) (hg.prn _ _ hp).1
         by_cases hby : An out b y
         · exact la hyz (by omega) (.inl hby)
         · have hv0 : v ≠ 0 := by rintro rfl; have := hv.root; omega
           obtain ⟨q,hq1,hq2⟩ := hg.fwd v hv' hv0
           have hqn1 := (hg.prn _ _ hq1).1
           have hzq := hs.kk v hv' h q hq1 hq2 (.inr (by omega))
           have hqb : An out b q := hz.trans hzq
           have hpq : pdn out q := by
             cases hqb with
             | self => exact .inr h9
             | up h _ => exact .inr h
           rcases lb (hy q hq1 ((pds q).2 (.inr hpq))) hqn1 with h2 | ⟨_,h2⟩
           · exact absurd hqb h2.1
           · rcases h2 with h2 | h2
             · exact absurd h2.1 hby
             · exact ld h2 hz (by omega)
       · refine la (hs.hh v hv' h y fun p hp hpd => ?_) (by omega) (.inr hz)
         have h2 := hy p hp ((pds p).2 (.inr hpd))
         have hpn := (hg.prn _ _ hp).1
         by_cases h9 : 0 ≤ ix out b
         · exact sub h9 h2 hpn
         · rcases lb h2 hpn with h3 | ⟨h3,_⟩
           · exact h3.2
           · have e := fresh h9 p h3 hpn
             subst e
             exact absurd hpd (fun h => h.elim hb0 h9)
   · have hqn1 := (hg.prn _ _ hq').1
     rw [hset] at h hc ⊢
     by_cases e : v = b
     · subst e
       rw [if_pos rfl,hx]
       have hqd' := hs.fp q hqn1 (by omega)
       have h2 := hB.an h0 q hq' hqd'
       rw [hx] at h2
       exact la h2 hqn1 (.inr fun h3 => by have := (h3.nu hv hqn1).1; omega)
     · rw [if_neg e] at h hc ⊢
       have h1 := hv.up v hv' h
       have hne : ix num v ≠ ix num b := fun h => e (hg.inj v b hv' hb h)
       rcases hc with hc | hc
       · have h2 := hs.kk v hv' h q hq' hqn' (.inl (by omega))
         exact la h2 hqn1 (.inr fun h3 => by have := (h3.nu hv hqn1).1; omega)
       · have h2 := hs.kk v hv' h q hq' hqn' (.inr (by omega))
         by_cases h3 : An out b q
         · have h4 := (h2.tot h3)
           rcases h4 with h4 | h4
           · have := (h4.nu hv hb).1; omega
           · exact la h2 hqn1 (.inl h4)
         · exact la h2 hqn1 (.inr h3)
 · have h7 := hup h9
   have h6 := (h7.nu hv (by have := (hv.up b hb h9).1; omega)).2 (fun e => h8 (by omega))
   exact h6
end
structure CO (n : Nat) (num out : List Int) (a b a' b' : Int) : Prop where
 ra : 0 ≤ a' ∧ a' < n
 rb : 0 ≤ b' ∧ b' < n
 pa : pdn out a'.toNat
 pb : pdn out b'.toNat
 an : ∀ x,(An out x a.toNat ∧ An out x b.toNat) ↔ (An out x a'.toNat ∧ An out x b'.toNat)
section
variable {n : Nat} {num out : List Int} {pr : Nat → Nat → Prop} {a b a' b' : Int}
theorem CO.beg (ha : 0 ≤ a ∧ a < n) (hb : 0 ≤ b ∧ b < n) (h1 : pdn out a.toNat) (h2 : pdn out b.toNat) : CO n num out a b a b := ⟨ha,hb,h1,h2,fun _ => Iff.rfl⟩
theorem CO.left (hg : GN n num pr) (hv : TV n num out) (h : CO n num out a b a' b') (hn : ix num b'.toNat < ix num a'.toNat) : CO n num out a b (ix out a'.toNat) b' ∧ ix num (ix out a'.toNat).toNat < ix num a'.toNat := by
 obtain ⟨h1,h2,h3,h4,h5⟩ := h
 have hb := (hg.rng b'.toNat (by omega)).1
 have h0 : 0 ≤ ix out a'.toNat := h3.resolve_left fun e => by rw [e,hg.zero] at hn; omega
 have h6 := hv.up a'.toNat (by omega) h0
 refine ⟨⟨⟨h0,h6.1⟩,h2,h6.2.2,h4,fun x => (h5 x).trans ⟨fun ⟨p,q⟩ => ⟨?_,q⟩,fun ⟨p,q⟩ => ⟨.up h0 p,q⟩⟩⟩,h6.2.1⟩
 have hq := (q.nu hv (by omega)).1
 generalize a'.toNat = v at *
 cases p with
 | self => omega
 | up _ p => exact p
theorem CO.right (hg : GN n num pr) (hv : TV n num out) (h : CO n num out a b a' b') (hn : ix num a'.toNat < ix num b'.toNat) : CO n num out a b a' (ix out b'.toNat) ∧ ix num (ix out b'.toNat).toNat < ix num b'.toNat := by
 have h1 := CO.left (a := b) (b := a) (a' := b') (b' := a') hg hv ⟨h.rb,h.ra,h.pb,h.pa,fun x => and_comm.trans ((h.an x).trans and_comm)⟩ hn
 exact ⟨⟨h.ra,h1.1.ra,h.pa,h1.1.pa,fun x => and_comm.trans ((h1.1.an x).trans and_comm)⟩,h1.2⟩
theorem CO.done (hg : GN n num pr) (h : CO n num out a b a' b') (hn : ix num a'.toNat = ix num b'.toNat) : An out a'.toNat a.toNat ∧ An out a'.toNat b.toNat ∧ ∀ x,An out x a.toNat → An out x b.toNat → An out x a'.toNat := by
 have h1 := h.ra
 have h2 := h.rb
 have e := hg.inj a'.toNat b'.toNat (by omega) (by omega) hn
 have h3 := (h.an a'.toNat).2 ⟨.self _,by rw [← e]; exact .self _⟩
 exact ⟨h3.1,h3.2,fun x p q => ((h.an x).1 ⟨p,q⟩).1⟩
def Pk (l : List Int) (k : Nat) (p : Nat) : Prop := (p : Int) ∈ l.take k
theorem Pk.nx {l : List Int} {k p : Nat} (hk : k < l.length) : Pk l (k + 1) p ↔ Pk l k p ∨ (p : Int) = ix l k := by
 unfold Pk; rw [take_ix hk,List.mem_append]; simp
theorem BS.beg {l : List Int} : BS out (Pk l 0) (-1) := ⟨fun _ p h => by simp [Pk] at h,fun h => by omega,fun h => by omega,fun h => by omega⟩
theorem BS.skip {l : List Int} {k : Nat} {best : Int} (h : BS out (Pk l k) best) (hk : k < l.length) (hr : 0 ≤ ix l k) (hp : ¬ pdn out (ix l k).toNat) : BS out (Pk l (k + 1)) best := by
 have e : ∀ p : Nat,(p : Int) = ix l k → ¬ pdn out p := fun p e h9 => hp (by rw [← e,Int.toNat_natCast]; exact h9)
 exact ⟨fun h0 p h1 => ((Pk.nx hk).1 h1).elim (h.no h0 p) (e p),fun h0 p h1 h2 => ((Pk.nx hk).1 h1).elim (fun h3 => h.an h0 p h3 h2) (fun h3 => absurd h2 (e p h3)),fun h0 y h1 => h.nc h0 y fun p h2 => h1 p ((Pk.nx hk).2 (.inl h2)),h.pd⟩
theorem BS.first {l : List Int} {k : Nat} {best : Int} (h : BS out (Pk l k) best) (hb : best < 0) (hk : k < l.length) (hr : 0 ≤ ix l k) (hp : pdn out (ix l k).toNat) : BS out (Pk l (k + 1)) (ix l k) := by
 refine ⟨fun h0 => by omega,fun h0 p h1 h2 => ?_,fun h0 y h1 => ?_,fun _ => hp⟩
 · rcases (Pk.nx hk).1 h1 with h3 | h3
   · exact absurd h2 (h.no hb p h3)
   · rw [← h3,Int.toNat_natCast]; exact .self _
 · exact h1 _ ((Pk.nx hk).2 (.inr (by omega))) hp
theorem BS.com {l : List Int} {k : Nat} {best c : Int} (h : BS out (Pk l k) best) (hb : 0 ≤ best) (hk : k < l.length) (hr : 0 ≤ ix l k) (hp : pdn out (ix l k).toNat) (hc : 0 ≤ c) (hpc : pdn out c.toNat) (h1 : An out c.toNat best.toNat ∧ An out c.toNat (ix l k).toNat ∧ ∀ x,An out x best.toNat → An out x (ix l k).toNat → An out x c.toNat) : BS out (Pk l (k + 1)) c := by
 obtain ⟨a1,a2,a3⟩ := h1
 refine ⟨fun h0 => by omega,fun _ p h2 h3 => ?_,fun _ y h2 => ?_,fun _ => hpc⟩
 · rcases (Pk.nx hk).1 h2 with h4 | h4
   · exact a1.trans (h.an hb p h4 h3)
   · rw [show p = (ix l k).toNat by omega]; exact a2
 · exact a3 y (h.nc hb y fun p h4 => h2 p ((Pk.nx hk).2 (.inl h4))) (h2 _ ((Pk.nx hk).2 (.inr (by omega))) hp)
theorem BS.all {l : List Int} {best : Int} {b : Nat} (h : BS out (Pk l l.length) best) (hl : ∀ p : Nat,(p : Int) ∈ l ↔ pr p b) : BS out (fun p => pr p b) best := by
 have e : ∀ p,Pk l l.length p ↔ pr p b := fun p => by unfold Pk; rw [List.take_length]; exact hl p
 exact ⟨fun h0 p h1 => h.no h0 p ((e p).2 h1),fun h0 p h1 => h.an h0 p ((e p).2 h1),fun h0 y h1 => h.nc h0 y fun p h2 => h1 p ((e p).1 h2),h.pd⟩
theorem IS.beg (hg : GN n num pr) : IS n num pr (List.replicate n (-1)) 1 := by
 have hr : ∀ v,v < n → ix (List.replicate n (-1 : Int)) v = -1 := fun v hv => by rw [ix_eq (by simpa using hv)]; simp
 have h0 := hg.n0
 refine ⟨⟨by simp,by rw [hr 0 h0]; omega,fun v hv h => by rw [hr v hv] at h; omega⟩,fun v hv h => .inl (hg.inj v 0 hv h0 (by have := hg.rng v hv; rw [hg.zero]; omega)),fun b a hb hp h => ?_,fun b hb h => by rw [hr b hb] at h; omega,fun b hb h => by rw [hr b hb] at h; omega,fun b hb h => by rw [hr b hb] at h; omega⟩
 rcases hp with e | h1
 · subst e
   rcases h with h | h
   · subst h; exact .self _
   · have : a = 0 := by
       rcases Nat.eq_zero_or_pos a with h2 | h2
       · exact h2
       · exact absurd (RB.zero (by omega)) h
     subst this; exact .self _
 · rw [hr b hb] at h1; omega
theorem IS.round (hg : GN n num pr) (h : IS n num pr out n) : IS n num pr out 1 :=
 ⟨h.tv,fun v hv _ => h.fp v hv (by have := hg.rng v hv; omega),h.dm,h.pa,h.hh,fun b hb h1 q hq h2 _ => h.kk b hb h1 q hq h2 (.inl (by have := hg.rng b hb; omega))⟩
def wtI (n : Nat) (num out : List Int) (v : Nat) : Nat := if ix out v < 0 then n else (ix num (ix out v).toNat).toNat
def smI (n : Nat) (num out : List Int) : Nat → Nat
 | 0 => 0
 | k + 1 => smI n num out k + wtI n num out k
theorem smI_lt {out' : List Int} {v : Nat} (h1 : ∀ u,u ≠ v → wtI n num out' u = wtI n num out u) (h2 : wtI n num out' v < wtI n num out v) : ∀ k,(k ≤ v → smI n num out' k = smI n num out k) ∧ (v < k → smI n num out' k < smI n num out k)
 | 0 => ⟨fun _ => rfl,fun h => by omega⟩
 | k + 1 => by
   obtain ⟨a,b⟩ := smI_lt h1 h2 k
   rw [smI,smI]
   refine ⟨fun h => by rw [a (by omega),h1 k (by omega)],fun h => ?_⟩
   rcases Nat.lt_or_ge v k with h3 | h3
   · have := b h3; rw [h1 k (by omega)]; omega
   · have e : v = k := by omega
     subst e
     have := a (Nat.le_refl _); omega
theorem IS.less (hg : GN n num pr) {i : Int} (hs : IS n num pr out i) {b : Nat} {best : Int} (hb : b < n) (h0 : 0 ≤ best ∧ best < n) (hne : ix out b ≠ best) (h : 0 ≤ ix out b → ix out b ≠ best → ix num best.toNat < ix num (ix out b).toNat) : smI n num (out.set b best) n < smI n num out n := by
 have hl : b < out.length := by rw [hs.tv.len]; exact hb
 refine (smI_lt (v := b) (fun u hu => ?_) ?_ n).2 hb
 · unfold wtI; rw [ix_set hl,if_neg hu]
 · unfold wtI
   rw [ix_set hl,if_pos rfl,if_neg (by omega)]
   have h1 := hg.rng best.toNat (by omega)
   split
   · omega
   · rename_i h2
     have h3 := h (by omega) hne
     omega
theorem IS.same {i : Int} (hs : IS n num pr out (i + 1)) {b : Nat} {best : Int} (h : ix out b = best) : IS n num pr (out.set b best) (i + 1) := by
 by_cases hb : b < out.length
 · rw [show out.set b best = out from by rw [← h,ix_eq hb]; exact List.set_getElem_self _]; exact hs
 · rw [List.set_eq_of_length_le (by omega)]; exact hs
theorem dom_asked (hv : TV n num out) : ∀ (k : Nat) {x v : Nat},An out x v → v < n → x ≠ v → 0 ≤ ix out v ∧ ix out v < n ∧ An out x (ix out v).toNat
 | _,x,v,h,hv',hne => by
   cases h with
   | self => exact absurd rfl hne
   | up h1 h2 => exact ⟨h1,(hv.up v hv' h1).1,h2⟩
end
def Aft (rows : List (List Int)) (l : List Int) (v : Int) : Prop := ∃ l2 l3,l = l2 ++ v :: l3 ∧ ∃ q ∈ l3,v ∈ ix rows q.toNat
theorem Aft.right {rows : List (List Int)} {l m : List Int} {v : Int} : Aft rows l v → Aft rows (l ++ m) v
 | ⟨l2,l3,e,q,h1,h2⟩ => ⟨l2,l3 ++ m,by rw [e]; simp,q,by simp [h1],h2⟩
theorem Aft.left {rows : List (List Int)} {l m : List Int} {v : Int} : Aft rows l v → Aft rows (m ++ l) v
 | ⟨l2,l3,e,q,h1,h2⟩ => ⟨m ++ l2,l3,by rw [e]; simp,q,h1,h2⟩
structure OV (n : Nat) (rows : List (List Int)) (se : List Bool) (l : List Int) (se' : List Bool) (R : Int → Prop) : Prop where
 len : se'.length = n
 mem : ∀ v : Nat,v < n → (ix se' v = true ↔ ix se v = true ∨ (v : Int) ∈ l)
 nd : l.Nodup
 new : ∀ v ∈ l,(0 ≤ v ∧ v < n) ∧ ix se v.toNat = false
 cl : ∀ v ∈ l,∀ t ∈ ix rows v.toNat,ix se' t.toNat = true
 af : ∀ v ∈ l,R v ∨ Aft rows l v
section
variable {n : Nat} {rows : List (List Int)} {se se' se2 : List Bool} {l l2 : List Int} {R : Int → Prop} {a : Int}
theorem OV.beg (h : se.length = n) : OV n rows se [] se R := ⟨h,fun v _ => (by simp),List.nodup_nil,fun v h => (by cases h),fun v h => (by cases h),fun v h => (by cases h)⟩
theorem OV.up (h : OV n rows se l se' R) {v : Nat} (hv : v < n) (h1 : ix se v = true) : ix se' v = true := (h.mem v hv).2 (.inl h1)
theorem OV.tr (hr : ∀ v t,t ∈ ix rows v → 0 ≤ t ∧ t < n) (h : OV n rows se l se' R) (h2 : OV n rows se' l2 se2 R) : OV n rows se (l ++ l2) se2 R := by
 refine ⟨h2.len,fun v hv => ?_,List.nodup_append.2 ⟨h.nd,h2.nd,fun x hx y hy e => ?_⟩,fun v hv => ?_,fun v hv t ht => ?_,fun v hv => ?_⟩
 · rw [h2.mem v hv,h.mem v hv,List.mem_append,or_assoc]
 · subst e
   have h3 := h.new x hx
   have h4 := (h2.new x hy).2
   rw [(h.mem x.toNat (by omega)).2 (.inr (by rw [Int.toNat_of_nonneg h3.1.1]; exact hx))] at h4; cases h4
 · rcases List.mem_append.1 hv with h3 | h3
   · exact h.new v h3
   · have h4 := h2.new v h3
     refine ⟨h4.1,?_⟩
     cases h5 : ix se v.toNat with
     | false => rfl
     | true => rw [h.up (by omega) h5] at h4; cases h4.2
 · rcases List.mem_append.1 hv with h3 | h3
   · have := hr _ t ht; exact h2.up (by omega) (h.cl v h3 t ht)
   · exact h2.cl v h3 t ht
 · rcases List.mem_append.1 hv with h3 | h3
   · exact (h.af v h3).imp id Aft.right
   · exact (h2.af v h3).imp id Aft.left
theorem OV.weak {R' : Int → Prop} (h : OV n rows se l se' R) (hR : ∀ v,R v → R' v) : OV n rows se l se' R' := ⟨h.len,h.mem,h.nd,h.new,h.cl,fun v hv => (h.af v hv).imp (hR v) id⟩
theorem OV.done (hl : se.length = n) (ha : 0 ≤ a ∧ a < n) (h0 : ix se a.toNat = false) (h : OV n rows (se.set a.toNat true) l se' (fun v => v ∈ ix rows a.toNat)) (hc : ∀ t ∈ ix rows a.toNat,ix se' t.toNat = true) : OV n rows se (l ++ [a]) se' (fun v => v = a) := by
 have hs : ∀ v,ix (se.set a.toNat true) v = if v = a.toNat then true else ix se v := fun v => ix_set (by omega)
 have hna : a ∉ l := fun h9 => by have := (h.new a h9).2; rw [hs,if_pos rfl] at this; cases this
 refine ⟨h.len,fun v hv => ?_,List.nodup_append.2 ⟨h.nd,by simp,fun x hx y hy e => ?_⟩,fun v hv => ?_,fun v hv t ht => ?_,fun v hv => ?_⟩
 · rw [h.mem v hv,hs,List.mem_append,List.mem_singleton]
   by_cases e : v = a.toNat
   · rw [if_pos e]; exact ⟨fun _ => .inr (.inr (by omega)),fun _ => .inl rfl⟩
   · rw [if_neg e]; exact ⟨fun h => h.imp id .inl,fun h => h.imp id (fun h => h.resolve_right (by omega))⟩
 · simp at hy; subst hy; subst e; exact hna hx
 · rcases List.mem_append.1 hv with h3 | h3
   · have h4 := h.new v h3
     refine ⟨h4.1,?_⟩
     rw [hs] at h4
     split at h4
     · cases h4.2
     · exact h4.2
   · simp at h3; subst h3; exact ⟨ha,h0⟩
 · rcases List.mem_append.1 hv with h3 | h3
   · exact h.cl v h3 t ht
   · simp at h3; subst h3; exact hc t ht
 · rcases List.mem_append.1 hv with h3 | h3
   · right
     rcases h.af v h3 with h4 | h4
     · obtain ⟨l2,l3,e⟩ := List.append_of_mem h3
       exact ⟨l2,l3 ++ [a],by rw [e]; simp,a,by simp,h4⟩
     · exact h4.right
   · exact .inl (by simpa using h3)
end
structure OD (n : Nat) (rows : List (List Int)) (ord : List Int) : Prop where
 nd : ord.Nodup
 all : ∀ v : Int,v ∈ ord ↔ 0 ≤ v ∧ v < n
 hd : ord.head? = some 0
 fw : ∀ v : Int,v ∈ ord → v ≠ 0 → ∃ l2 l3,ord = l2 ++ v :: l3 ∧ ∃ q ∈ l2,v ∈ ix rows q.toNat
theorem od_of {n : Nat} {rows : List (List Int)} {l : List Int} {se' : List Bool} (hn : 0 < n) (hr : ∀ v t,t ∈ ix rows v → 0 ≤ t ∧ t < n) (h : OV n rows (List.replicate n false) (l ++ [0]) se' (fun v => v = 0)) (hw : ∀ b,b < n → ∃ w,RB (fun q t => (t : Int) ∈ ix rows q) w b) : OD n rows (l ++ [0]).reverse := by
 have key : ∀ {w b},RB (fun q t => (t : Int) ∈ ix rows q) w b → (b : Int) ∈ l ++ [0] := fun {w b} h9 => by
   induction h9 with
   | zero => simp
   | @step x t h1 h2 _ ih =>
     have h3 := h.cl x ih t (by rw [Int.toNat_natCast]; exact h2)
     rw [Int.toNat_natCast] at h3
     have h4 := hr x t h2
     have h5 := (h.mem t (by omega)).1 h3
     rw [ix_rep] at h5
     exact h5.resolve_left (by simp)
 refine ⟨(List.reverse_perm _).nodup_iff.2 h.nd,fun v => ?_,by simp,fun v hv hv0 => ?_⟩
 · rw [List.mem_reverse]
   refine ⟨fun h1 => (h.new v h1).1,fun h1 => ?_⟩
   obtain ⟨w,h2⟩ := hw v.toNat (by omega)
   have := key h2
   rwa [Int.toNat_of_nonneg h1.1] at this
 · rw [List.mem_reverse] at hv
   obtain ⟨l2,l3,e,q,h1,h2⟩ := (h.af v hv).resolve_left hv0
   exact ⟨l3.reverse,l2.reverse,by rw [e]; simp,q,by simpa using h1,h2⟩
structure NU (n : Nat) (ord num : List Int) : Prop where
 len : num.length = n
 pos : ∀ k,k < ord.length → ix num (ix ord k).toNat = k
theorem nodup_len : ∀ (n : Nat) (l : List Int),l.Nodup → (∀ v ∈ l,0 ≤ v ∧ v < n) → l.length ≤ n
 | 0,[],_,_ => Nat.le_refl _
 | 0,x :: l,_,h => by have := h x (by simp); omega
 | n + 1,l,hn,h => by
   have h1 := nodup_len n (l.erase n) (hn.erase _) (fun v hv => by
     have h2 := h v (List.mem_of_mem_erase hv)
     have h3 := ((hn.mem_erase_iff).1 hv).1
     omega)
   rw [List.length_erase] at h1
   split at h1 <;> omega
theorem od_at {n : Nat} {rows : List (List Int)} {ord : List Int} (ho : OD n rows ord) {v : Nat} (hv : v < n) : ∃ k,k < ord.length ∧ ix ord k = v := by
 obtain ⟨k,hk,e⟩ := List.getElem_of_mem ((ho.all v).2 ⟨by omega,by omega⟩)
 exact ⟨k,hk,by rw [ix_eq hk]; exact e⟩
theorem od_gn {n : Nat} {rows : List (List Int)} {ord num : List Int} (hn : 0 < n) (hr : ∀ v t,t ∈ ix rows v → (0 ≤ t ∧ t < n) ∧ v < n) (ho : OD n rows ord) (hu : NU n ord num) : GN n num (fun q t => (t : Int) ∈ ix rows q) ∧ ord.length ≤ n := by
 have hlen := nodup_len n ord ho.nd (fun v hv => (ho.all v).1 hv)
 refine ⟨⟨hn,fun v hv => ?_,fun u v hu' hv h => ?_,?_,fun q b h => ?_,fun b hb h0 => ?_⟩,hlen⟩
 · obtain ⟨k,hk,e⟩ := od_at ho hv
   have := hu.pos k hk
   rw [e,Int.toNat_natCast] at this; omega
 · obtain ⟨k,hk,e⟩ := od_at ho hu'
   obtain ⟨k2,hk2,e2⟩ := od_at ho hv
   have h1 := hu.pos k hk
   have h2 := hu.pos k2 hk2
   rw [e,Int.toNat_natCast] at h1
   rw [e2,Int.toNat_natCast] at h2
   have : k = k2 := by omega
   subst this; omega
 · have h1 := ho.hd
   obtain ⟨x,l,e⟩ : ∃ x l,ord = x :: l := by
     cases ord with
     | nil => cases h1
     | cons x l => exact ⟨x,l,rfl⟩
   subst e
   simp at h1; subst h1
   have := hu.pos 0 (by simp)
   simpa [ix] using this
 · have := hr q b h; omega
 · obtain ⟨l2,l3,e,q,h1,h2⟩ := ho.fw b ((ho.all b).2 ⟨by omega,by omega⟩) (by omega)
   have hq := (ho.all q).1 (by rw [e]; simp [h1])
   refine ⟨q.toNat,h2,?_⟩
   obtain ⟨k,hk,e1⟩ := List.getElem_of_mem h1
   have p1 := hu.pos k (by rw [e]; simp; omega)
   have p2 := hu.pos l2.length (by rw [e]; simp)
   rw [show ix ord k = q from by rw [ix_eq (by rw [e]; simp; omega)]; subst e; rw [List.getElem_append_left hk]; exact e1] at p1
   rw [show ix ord l2.length = (b : Int) from by rw [ix_eq (by rw [e]; simp)]; subst e; simp,Int.toNat_natCast] at p2
   omega
def keptM (row : List Int) (n : Int) : List Int := Lib.compact (sortM (row.filter (fun b => decide (0 ≤ b) && decide (b < n))))
theorem kept_mem {row : List Int} {n x : Int} : x ∈ keptM row n ↔ x ∈ row ∧ 0 ≤ x ∧ x < n := by
 unfold keptM
 rw [comp_mem,sortM_mem,List.mem_filter]
 simp
theorem kept_ris (row : List Int) (n : Int) : (keptM row n).Pairwise (· < ·) := comp_ris (sortM_le _)
theorem kept_ext {a b : List Int} (h1 : a.Pairwise (· < ·)) (h2 : b.Pairwise (· < ·)) (h : ∀ x,x ∈ a ↔ x ∈ b) : a = b := ris_ext h1 h2 h
theorem kept_kept (row : List Int) (n : Int) : keptM (keptM row n) n = keptM row n := kept_ext (kept_ris _ _) (kept_ris _ _) (fun x => by rw [kept_mem,kept_mem]; exact ⟨fun h => h.1,fun h => ⟨h,h.2⟩⟩)
theorem kept_len (row : List Int) (n : Int) : (keptM row n).length ≤ row.length := by
 unfold keptM
 refine Nat.le_trans (comp_len _) ?_
 unfold sortM
 rw [List.length_mergeSort]; exact List.length_filter_le _ _
def cleanM (g : List (List Int)) : List (List Int) := g.map (fun row => keptM row g.length)
def graphF (f : D.Func) : List (List Int) := f.Blocks.map (fun b => keptM b.Term.To f.Blocks.length)
theorem filt_nx {α : Type} [Inhabited α] {l : List α} {q : α → Bool} {k : Nat} (h : k < l.length) : (l.take (k + 1)).filter q = (l.take k).filter q ++ if q (ix l k) = true then [ix l k] else [] := by
 rw [take_ix h,List.filter_append]
 congr 1
 by_cases h9 : q (ix l k) = true
 · simp [h9]
 · simp [h9]
def comF (idom num : List Int) : Nat → Int → Int → Int
 | 0,a,_ => a
 | k + 1,a,b => if ix num b.toNat < ix num a.toNat then comF idom num k (ix idom a.toNat) b else if ix num a.toNat < ix num b.toNat then comF idom num k a (ix idom b.toNat) else a
def comM (idom num : List Int) (a b : Int) : Int := comF idom num ((ix num a.toNat).toNat + (ix num b.toNat).toNat + 1) a b
def ComOK (idom num : List Int) (a b : Int) : Prop := ∃ n pr,GN n num pr ∧ num.length = n ∧ TV n num idom ∧ CO n num idom a b a b
def domF (idom : List Int) (a : Int) : Nat → Int → Bool
 | 0,_ => false
 | k + 1,b => if a = b then true else if 0 ≤ b ∧ b < idom.length then domF idom a k (ix idom b.toNat) else false
def inR (l : List Int) (n : Int) : Bool := decide (0 ≤ n) && decide (n < l.length)
def dominM (idom : List Int) (a b : Int) : Bool := if inR idom a = true ∧ inR idom b = true then domF idom a (idom.length + 1) b else false
theorem domF_yes {n : Nat} {num out : List Int} (hv : TV n num out) {x : Nat} : ∀ (k : Nat) {v : Nat},An out x v → v < n → ix num v < ix num x + k → domF out x k v = true
 | 0,v,h,hv',hk => by have := (h.nu hv hv').1; omega
 | k + 1,v,h,hv',hk => by
   rw [domF]
   by_cases e : (x : Int) = v
   · rw [if_pos e]
   · rw [if_neg e,if_pos ⟨by omega,by rw [hv.len]; omega⟩,Int.toNat_natCast]
     obtain ⟨h1,h2,h3⟩ := dom_asked hv 0 h hv' (by omega)
     have h4 := (hv.up v hv' h1).2.1
     have := domF_yes hv k (v := (ix out v).toNat) h3 (by omega) (by omega)
     rwa [Int.toNat_of_nonneg h1] at this
def withinM (n a b : Int) : Bool := decide (a ≤ n) && decide (n ≤ b)
def operM (op : Int) : Int × Int := if op = 1 then (0,0) else if op = 15 then (1,1) else if op = 17 then (0,4) else (2,2)
section
variable {idom num : List Int} {k : Nat} {a b : Int}
theorem comF_l (h : 0 < k) (h1 : ix num b.toNat < ix num a.toNat) : comF idom num k a b = comF idom num (k - 1) (ix idom a.toNat) b := by
 obtain ⟨j,rfl⟩ : ∃ j,k = j + 1 := ⟨k - 1,by omega⟩
 rw [comF,if_pos h1]; rfl
theorem comF_r (h : 0 < k) (h1 : ix num a.toNat < ix num b.toNat) : comF idom num k a b = comF idom num (k - 1) a (ix idom b.toNat) := by
 obtain ⟨j,rfl⟩ : ∃ j,k = j + 1 := ⟨k - 1,by omega⟩
 rw [comF,if_neg (by omega),if_pos h1]; rfl
theorem comF_e (h : 0 < k) (h1 : ix num a.toNat = ix num b.toNat) : comF idom num k a b = a := by
 obtain ⟨j,rfl⟩ : ∃ j,k = j + 1 := ⟨k - 1,by omega⟩
 rw [comF,if_neg (by omega),if_neg (by omega)]
end
theorem ix_mapG {α β : Type} [Inhabited α] [Inhabited β] {l : List α} {f : α → β} {k : Nat} (h : k < l.length) : ix (l.map f) k = f (ix l k) := by
 rw [ix_eq (by simpa using h),ix_eq h]; simp
theorem row_put {F : List (List Int)} {n k : Nat} {x : List Int} (hk : k < n) (hn : F.length = n) (hx : x = ix F k) : (F.take k ++ List.replicate (n - k) []).set k x = F.take (k + 1) ++ List.replicate (n - (k + 1)) [] := by
 have hl : (F.take k).length = k := by rw [List.length_take]; omega
 rw [List.set_append_right _ _ (by omega),hl,Nat.sub_self,take_ix (by omega),List.append_assoc]
 congr 1
 obtain ⟨j,hj⟩ : ∃ j,n - k = j + 1 := ⟨n - k - 1,by omega⟩
 rw [hj,List.replicate_succ,List.set_cons_zero,show n - (k + 1) = j by omega,hx]; rfl
def inRn (n : Int) (l : List Int) : Bool := inR l n
theorem inRn_yes {n : Int} {l : List Int} (h : inRn n l = true) : 0 ≤ n ∧ n < l.length := by unfold inRn inR at h; simpa using h
theorem inRn_no {n : Int} {l : List Int} (h : inRn n l = false) : ¬ (0 ≤ n ∧ n < l.length) := by unfold inRn inR at h; simp at h; omega
theorem domN {idom : List Int} {a b : Int} (h : (!inRn a idom || !inRn b idom) = true) : dominM idom a b = false := by
 unfold dominM; rw [if_neg]; intro h9; unfold inRn at h; rw [h9.1,h9.2] at h; cases h
structure OP (n : Nat) (rows : List (List Int)) (se : List Bool) (out : List Int) (a : Int) : Prop where
 len : se.length = n
 n512 : n ≤ 512
 a0 : 0 ≤ a ∧ a < n
 no : ix se a.toNat = false
 rl : rows.length = n
 rows : ∀ v t,t ∈ ix rows v → 0 ≤ t ∧ t < n
 nd : out.Nodup
 vis : ∀ v ∈ out,(0 ≤ v ∧ v < n) ∧ ix se v.toNat = true
section
variable {n : Nat} {rows : List (List Int)} {se se2 se3 : List Bool} {out l l2 l3 : List Int} {a t : Int} {R : Int → Prop} {k : Nat}
theorem OP.all (h : OP n rows se out a) (ho : OV n rows (se.set a.toNat true) l se2 R) : (out ++ l).Nodup ∧ ∀ v ∈ out ++ l,(0 ≤ v ∧ v < n) ∧ ix se2 v.toNat = true := by
 have ha := h.a0
 have hs : ∀ v,ix (se.set a.toNat true) v = if v = a.toNat then true else ix se v := fun v => ix_set (by rw [h.len]; omega)
 refine ⟨List.nodup_append.2 ⟨h.nd,ho.nd,fun x hx y hy e => ?_⟩,fun v hv => ?_⟩
 · subst e
   have h1 := (h.vis x hx).2
   have h2 := (ho.new x hy).2
   rw [hs] at h2
   split at h2
   · cases h2
   · rw [h1] at h2; cases h2
 · rcases List.mem_append.1 hv with h1 | h1
   · have h2 := h.vis v h1
     refine ⟨h2.1,(ho.mem v.toNat (by omega)).2 (.inl ?_)⟩
     rw [hs]; split
     · rfl
     · exact h2.2
   · have h2 := (ho.new v h1).1
     exact ⟨h2,(ho.mem v.toNat (by omega)).2 (.inr (by rw [Int.toNat_of_nonneg h2.1]; exact h1))⟩
theorem OP.olen (h : OP n rows se out a) (ho : OV n rows (se.set a.toNat true) l se2 R) : (out ++ l).length ≤ 512 := by
 have h1 := h.all ho
 have := nodup_len n _ h1.1 (fun v hv => (h1.2 v hv).1)
 have := h.n512
 omega
theorem OP.next (h : OP n rows se out a) (ho : OV n rows (se.set a.toNat true) l se2 R) (ht : t ∈ ix rows a.toNat) (hn : ix se2 t.toNat = false) : OP n rows se2 (out ++ l) t :=
 ⟨ho.len,h.n512,h.rows _ t ht,hn,h.rl,h.rows,(h.all ho).1,(h.all ho).2⟩
theorem cnt3_mono : ∀ {a b : List Bool},a.length = b.length → (∀ i,ix a i = true → ix b i = true) → cnt3 b ≤ cnt3 a
 | [],[],_,_ => Nat.le_refl _
 | x :: a,y :: b,h,h2 => by
   have h3 := cnt3_mono (a := a) (b := b) (by simpa using h) (fun i hi => by have := h2 (i + 1) (by rw [ix_cons]; exact hi); rwa [ix_cons] at this)
   have h0 := h2 0
   rw [ix_zero,ix_zero] at h0
   unfold cnt3 at h3 ⊢
   rw [List.countP_cons,List.countP_cons]
   cases x <;> cases y <;> simp_all <;> omega
theorem OP.less (h : OP n rows se out a) (ho : OV n rows (se.set a.toNat true) l se2 R) : cnt3 se2 < cnt3 se := by
 have ha := h.a0
 have h1 := cnt3_set (l := se) (i := a.toNat) (by rw [h.len]; omega) h.no
 have h2 := cnt3_mono (a := se.set a.toNat true) (b := se2) (by rw [List.length_set,h.len,ho.len]) (fun i hi => (ho.mem i (by have := ix_len hi; rw [List.length_set,h.len] at this; exact this)).2 (.inl hi))
 omega
theorem ov_seen {T : List Int} (hk : k < T.length) (hd : ∀ t ∈ T.take k,ix se2 t.toNat = true) (h : ix se2 (ix T k).toNat = true) : ∀ t ∈ T.take (k + 1),ix se2 t.toNat = true := fun t ht => by
 rw [take_ix hk,List.mem_append] at ht
 rcases ht with ht | ht
 · exact hd t ht
 · simp at ht; subst ht; exact h
theorem ov_next {T : List Int} (hk : k < T.length) (hd : ∀ t ∈ T.take k,ix se2 t.toNat = true) (hr : ∀ t ∈ T,0 ≤ t ∧ t < n) (ho : OV n rows se2 l se3 (fun v => v = ix T k)) (hl : ix T k ∈ l) : ∀ t ∈ T.take (k + 1),ix se3 t.toNat = true := by
 refine ov_seen hk (fun t ht => ?_) ?_
 · have := hr t (List.mem_of_mem_take ht)
   exact ho.up (by omega) (hd t ht)
 · have h1 := hr _ (ix_mem hk)
   exact (ho.mem _ (by omega)).2 (.inr (by rw [Int.toNat_of_nonneg h1.1]; exact hl))
end
structure PO (n : Nat) (rows : List (List Int)) (se : List Bool) (l : List Int) (se' : List Bool) (a : Int) : Prop where
 ends : ∃ l0,l = l0 ++ [a]
 ov : OV n rows se l se' (fun v => v = a)
theorem PO.mem {n : Nat} {rows : List (List Int)} {se se' : List Bool} {l : List Int} {a : Int} (h : PO n rows se l se' a) : a ∈ l := by obtain ⟨l0,e⟩ := h.ends; rw [e]; simp
theorem ix_out {α : Type} [Inhabited α] {l : List α} {i : Nat} (h : l.length ≤ i) : ix l i = default := by
 simp [ix,List.getD,List.getElem?_eq_none h]
theorem clean_len (g : List (List Int)) : (cleanM g).length = g.length := by simp [cleanM]
theorem clean_rng (g : List (List Int)) : ∀ v t,t ∈ ix (cleanM g) v → 0 ≤ t ∧ t < g.length := fun v t h => by
 by_cases hv : v < g.length
 · unfold cleanM at h
   rw [ix_mapG hv] at h
   exact (kept_mem.1 h).2
 · rw [ix_out (by rw [clean_len]; omega)] at h; cases h
theorem op_beg {n : Nat} {rows : List (List Int)} (hn : 0 < n ∧ n ≤ 512) (hl : rows.length = n) (hr : ∀ v t,t ∈ ix rows v → 0 ≤ t ∧ t < n) : OP n rows (List.replicate n false) [] 0 :=
 ⟨by simp,hn.2,⟨Int.le_refl _,by omega⟩,ix_rep _ _,hl,hr,List.nodup_nil,fun v h => by cases h⟩
theorem PO.len {n : Nat} {rows : List (List Int)} {se se' : List Bool} {l : List Int} {a : Int} (h : PO n rows se l se' a) (hn : n ≤ 512) : ([] ++ l).length < 1073741824 := by
 have h1 := nodup_len n l h.ov.nd (fun v hv => (h.ov.new v hv).1)
 rw [List.nil_append]; omega
theorem PO.od {n : Nat} {rows : List (List Int)} {se' : List Bool} {l : List Int} (h : PO n rows (List.replicate n false) l se' 0) (hn : 0 < n) (hr : ∀ v t,t ∈ ix rows v → 0 ≤ t ∧ t < n) (hw : ∀ b,b < n → ∃ w,RB (fun q t => (t : Int) ∈ ix rows q) w b) : OD n rows (revM ([] ++ l)) := by
 obtain ⟨l0,e⟩ := h.ends
 have h1 := h.ov
 rw [List.nil_append,e] at *
 exact od_of hn hr h1 hw
def edgesT (rows : List (List Int)) : Nat → List (Int × Int)
 | 0 => []
 | k + 1 => edgesT rows k ++ (ix rows k).map (fun b => ((k : Int),b))
theorem edges_pre {rows : List (List Int)} : ∀ {n k : Nat},k ≤ n → ∃ m,edgesT rows n = edgesT rows k ++ m
 | 0,k,h => ⟨[],by rw [show k = 0 by omega]; simp⟩
 | n + 1,k,h => by
   rcases Nat.lt_or_ge n k with h1 | h1
   · rw [show k = n + 1 by omega]; exact ⟨[],by simp⟩
   · obtain ⟨m,e⟩ := edges_pre (rows := rows) h1
     exact ⟨m ++ (ix rows n).map (fun b => ((n : Int),b)),by rw [edgesT,e,List.append_assoc]⟩
theorem edge_at {rows : List (List Int)} {n k j : Nat} (hk : k < n) (hj : j < (ix rows k).length) : (edgesT rows k).length + j < (edgesT rows n).length ∧ ∀ h,(edgesT rows n)[(edgesT rows k).length + j]'h = ((k : Int),ix (ix rows k) j) := by
 obtain ⟨m,e⟩ := edges_pre (rows := rows) (show k + 1 ≤ n from hk)
 rw [edgesT] at e
 refine ⟨by rw [e]; simp; omega,fun h => ?_⟩
 have h2 : (edgesT rows n)[(edgesT rows k).length + j]? = some ((k : Int),ix (ix rows k) j) := by
   rw [e,List.append_assoc,List.getElem?_append_right (by omega),Nat.add_sub_cancel_left,List.getElem?_append_left (by simpa using hj),List.getElem?_map,ix_eq hj,List.getElem?_eq_getElem hj]; rfl
 rw [List.getElem?_eq_getElem h] at h2
 injection h2
theorem edges_next {rows : List (List Int)} {k : Nat} : (edgesT rows (k + 1)).length = (edgesT rows k).length + (ix rows k).length := by rw [edgesT]; simp
abbrev Ed (n : Nat) := { p : Int × Int // (0 ≤ p.1 ∧ p.1 < n) ∧ 0 ≤ p.2 ∧ p.2 < n }
def edEnc {n : Nat} (x : Ed n) : List Value := [.int .i64 x.val.1,.int .i64 x.val.2]
theorem edges_rng {g : List (List Int)} : ∀ {k : Nat},k ≤ g.length → ∀ p ∈ edgesT (cleanM g) k,(0 ≤ p.1 ∧ p.1 < g.length) ∧ 0 ≤ p.2 ∧ p.2 < g.length
 | 0,_,_,h => by cases h
 | k + 1,hk,p,h => by
   rw [edgesT] at h
   rcases List.mem_append.1 h with h1 | h1
   · exact edges_rng (by omega) p h1
   · obtain ⟨b,h2,rfl⟩ := List.mem_map.1 h1
     exact ⟨⟨by dsimp only; omega,by dsimp only; omega⟩,clean_rng g k b h2⟩
def edgesX (g : List (List Int)) : List (Ed g.length) := (edgesT (cleanM g) g.length).attachWith _ (fun p hp => edges_rng (Nat.le_refl _) p hp)
theorem edgesX_len {g : List (List Int)} : (edgesX g).length = (edgesT (cleanM g) g.length).length := by simp [edgesX]
theorem edgesX_at {g : List (List Int)} {i : Nat} (h : i < (edgesX g).length) : (edgesX g)[i].val = (edgesT (cleanM g) g.length)[i]'(by rw [← edgesX_len]; exact h) := by simp [edgesX]
def pushE (rs : List (List Int)) (p : Int × Int) : List (List Int) := rs.set p.2.toNat (ix rs p.2.toNat ++ [p.1])
def predsE (n : Nat) (l : List (Int × Int)) : List (List Int) := l.foldl pushE (List.replicate n [])
def predsG (g : List (List Int)) : List (List Int) := predsE g.length (edgesT (cleanM g) g.length)
theorem predsE_len {n : Nat} (l : List (Int × Int)) : (predsE n l).length = n := by
 unfold predsE
 have : ∀ (l : List (Int × Int)) (rs : List (List Int)),(l.foldl pushE rs).length = rs.length := by
   intro l
   induction l with
   | nil => intro rs; rfl
   | cons p l ih => intro rs; rw [List.foldl_cons,ih]; simp [pushE]
 rw [this]; simp
theorem predsE_snoc {n : Nat} {l : List (Int × Int)} {p : Int × Int} : predsE n (l ++ [p]) = pushE (predsE n l) p := by unfold predsE; rw [List.foldl_append]; rfl
theorem edgesX_val (g : List (List Int)) : (edgesX g).map Subtype.val = edgesT (cleanM g) g.length := List.ext_getElem (by simp [edgesX]) fun i h1 h2 => by rw [List.getElem_map]; exact edgesX_at _
theorem edges_few {g : List (List Int)} (hg : g.length ≤ 512) : ∀ k,k ≤ g.length → (edgesT (cleanM g) k).length ≤ 512 * k
 | 0,_ => Nat.le_refl _
 | k + 1,h => by
   have h1 := edges_few hg k (by omega)
   have h2 := nodup_len g.length (ix (cleanM g) k) (by unfold cleanM; rw [ix_mapG (by omega)]; exact (kept_ris _ _).imp (fun h => by omega)) (fun v hv => clean_rng g k v hv)
   rw [edges_next]; omega
theorem predsE_each {n : Nat} : ∀ (l : List (Int × Int)) (rs : List (List Int)) (c : Nat),(∀ r ∈ rs,r.length ≤ c) → ∀ r ∈ l.foldl pushE rs,r.length ≤ c + l.length
 | [],rs,c,h,r,hr => by have := h r hr; simpa using this
 | p :: l,rs,c,h,r,hr => by
   rw [List.foldl_cons] at hr
   have := predsE_each (n := n) l (pushE rs p) (c + 1) (fun r hr => by
     unfold pushE at hr
     rcases List.mem_or_eq_of_mem_set hr with h1 | h1
     · have := h r h1; omega
     · subst h1
       rw [List.length_append]
       by_cases hj : p.2.toNat < rs.length
       · have := h _ (ix_mem hj); simp; omega
       · rw [ix_out (by omega)]; simp [default]; ) r hr
   rw [List.length_cons]; omega
theorem predsE_small {g : List (List Int)} (hg : g.length ≤ 512) : ∀ l ∈ predsE g.length (edgesT (cleanM g) g.length),l.length < 1073741824 := fun l hl => by
 have h1 := predsE_each (n := g.length) (edgesT (cleanM g) g.length) (List.replicate g.length []) 0 (fun r hr => by rw [List.eq_of_mem_replicate hr]; simp) l hl
 have h2 := edges_few hg g.length (Nat.le_refl _)
 have h3 : 512 * g.length ≤ 512 * 512 := Nat.mul_le_mul_left _ hg
 omega
theorem predsE_le {n j : Nat} (l : List (Int × Int)) : ((predsE n l)[j]?.getD []).length ≤ l.length := by
 cases h : (predsE n l)[j]? with
 | none => simp
 | some x =>
   obtain ⟨hj,e⟩ := List.getElem?_eq_some_iff.1 h
   have := predsE_each (n := n) l (List.replicate n []) 0 (fun r hr => by rw [List.eq_of_mem_replicate hr]; simp) x (by rw [← e]; exact List.getElem_mem hj)
   simpa using this
theorem edgesX_few {g : List (List Int)} (hg : g.length ≤ 512) : (edgesX g).length ≤ 262144 := by
 rw [edgesX_len]
 have h2 := edges_few hg g.length (Nat.le_refl _)
 have h3 : 512 * g.length ≤ 512 * 512 := Nat.mul_le_mul_left _ hg
 omega
theorem push_row {n : Nat} {q : Int} : ∀ (row : List Int) (rs : List (List Int)),rs.length = n → row.Nodup → (∀ v ∈ row,0 ≤ v ∧ v < n) → ∀ v : Nat,ix ((row.map (fun b => (q,b))).foldl pushE rs) v = ix rs v ++ if (v : Int) ∈ row then [q] else []
 | [],rs,_,_,_,v => by simp
 | b :: row,rs,hl,hn,hr,v => by
   have h1 := hr b (by simp)
   have h2 := List.nodup_cons.1 hn
   have h3 := push_row (q := q) row (pushE rs (q,b)) (by simp [pushE,hl]) h2.2 (fun v hv => hr v (by simp [hv])) v
   rw [List.map_cons,List.foldl_cons,h3]
   unfold pushE
   dsimp only
   rw [ix_set (by omega)]
   by_cases e : v = b.toNat
   · have e2 : (v : Int) = b := by omega
     rw [if_pos e,← e,e2,if_neg h2.1,if_pos (by simp),List.append_nil]
   · have e2 : ¬ (v : Int) = b := by omega
     rw [if_neg e]
     congr 1
     by_cases h4 : (v : Int) ∈ row
     · rw [if_pos h4,if_pos (by simp [h4])]
     · rw [if_neg h4,if_neg (by simp [h4,e2])]
def predK (rows : List (List Int)) : Nat → Nat → List Int
 | 0,_ => []
 | k + 1,v => predK rows k v ++ if (v : Int) ∈ ix rows k then [(k : Int)] else []
theorem preds_K {n : Nat} {rows : List (List Int)} (hn : ∀ k,(ix rows k).Nodup) (hr : ∀ v t,t ∈ ix rows v → 0 ≤ t ∧ t < n) (v : Nat) : ∀ k,ix (predsE n (edgesT rows k)) v = predK rows k v
 | 0 => by unfold predsE; rw [edgesT,predK,List.foldl_nil]; by_cases h : v < n <;> simp [ix,h] <;> rfl
 | k + 1 => by
   have h1 := preds_K hn hr v k
   rw [edgesT,predK,← h1]
   unfold predsE
   rw [List.foldl_append]
   exact push_row _ _ (predsE_len (n := n) _) (hn k) (hr k) v
theorem clean_nd (g : List (List Int)) (k : Nat) : (ix (cleanM g) k).Nodup := by
 by_cases hk : k < g.length
 · unfold cleanM; rw [ix_mapG hk]; exact (kept_ris _ _).imp (fun h => by omega)
 · rw [ix_out (by rw [clean_len]; omega)]; exact List.nodup_nil
theorem predsG_at (g : List (List Int)) (v : Nat) : ix (predsG g) v = predK (cleanM g) g.length v := preds_K (clean_nd g) (clean_rng g) v _
theorem predK_mem {rows : List (List Int)} {v : Nat} : ∀ {n : Nat} {x : Int},x ∈ predK rows n v ↔ ∃ k : Nat,k < n ∧ x = k ∧ (v : Int) ∈ ix rows k
 | 0,x => by simp [predK]
 | n + 1,x => by
   rw [predK,List.mem_append,predK_mem (n := n)]
   constructor
   · rintro (⟨k,h1,h2,h3⟩ | h)
     · exact ⟨k,by omega,h2,h3⟩
     · split at h
       · rename_i h2; simp at h; exact ⟨n,by omega,h,h2⟩
       · cases h
   · rintro ⟨k,h1,h2,h3⟩
     rcases Nat.lt_or_ge k n with h4 | h4
     · exact .inl ⟨k,h4,h2,h3⟩
     · have e : k = n := by omega
       subst e
       exact .inr (by rw [if_pos h3]; simpa using h2)
theorem preds_len (g : List (List Int)) : (predsG g).length = g.length := predsE_len _
def prG (g : List (List Int)) (q t : Nat) : Prop := (t : Int) ∈ ix (cleanM g) q
theorem prG_rng {g : List (List Int)} {q t : Nat} (h : prG g q t) : q < g.length ∧ t < g.length := by
 refine ⟨?_,by have := clean_rng g q t h; omega⟩
 rcases Nat.lt_or_ge q g.length with h1 | h1
 · exact h1
 · unfold prG at h; rw [ix_out (by rw [clean_len]; omega)] at h; cases h
theorem preds_pr {g : List (List Int)} {p b : Nat} : (p : Int) ∈ ix (predsG g) b ↔ prG g p b := by
 rw [predsG_at,predK_mem]
 constructor
 · rintro ⟨k,h1,h2,h3⟩
   have : p = k := by omega
   subst this; exact h3
 · exact fun h => ⟨p,(prG_rng h).1,rfl,h⟩
theorem preds_rng {g : List (List Int)} {b : Nat} {x : Int} (h : x ∈ ix (predsG g) b) : 0 ≤ x ∧ x < g.length := by
 rw [predsG_at,predK_mem] at h
 obtain ⟨k,h1,h2,_⟩ := h
 omega
theorem OD.gn {g : List (List Int)} {ord num : List Int} (hn : 0 < g.length) (ho : OD g.length (cleanM g) ord) (hu : NU g.length ord num) : GN g.length num (prG g) ∧ ord.length ≤ g.length :=
 od_gn hn (fun v t h => ⟨clean_rng g v t h,by
   rcases Nat.lt_or_ge v g.length with h1 | h1
   · exact h1
   · rw [ix_out (by rw [clean_len]; omega)] at h; cases h⟩) ho hu
theorem od_len {n : Nat} {rows : List (List Int)} {ord : List Int} (ho : OD n rows ord) : ord.length ≤ n := nodup_len n ord ho.nd (fun v hv => (ho.all v).1 hv)
theorem od_rng {n : Nat} {rows : List (List Int)} {ord : List Int} (ho : OD n rows ord) {k : Nat} (hk : k < ord.length) : 0 ≤ ix ord k ∧ ix ord k < n := (ho.all _).1 (ix_mem hk)
theorem sub_len : ∀ (l m : List Int),l.Nodup → (∀ x ∈ l,x ∈ m) → l.length ≤ m.length
 | [],m,_,_ => Nat.zero_le _
 | x :: l,m,h,h2 => by
   have h3 := List.nodup_cons.1 h
   have h4 := sub_len l (m.erase x) h3.2 (fun y hy => (List.mem_erase_of_ne (fun e => h3.1 (by rw [← e]; exact hy))).2 (h2 y (by simp [hy])))
   have h5 := h2 x (by simp)
   rw [List.length_erase_of_mem h5] at h4
   have := List.length_pos_of_mem h5
   rw [List.length_cons]; omega
theorem od_full {n : Nat} {rows : List (List Int)} {ord : List Int} (ho : OD n rows ord) : n ≤ ord.length := by
 have h : ∀ k,k ≤ n → ∃ l : List Int,l.length = k ∧ l.Nodup ∧ ∀ x ∈ l,0 ≤ x ∧ x < k := by
   intro k
   induction k with
   | zero => exact fun _ => ⟨[],rfl,List.nodup_nil,fun x h => by cases h⟩
   | succ k ih =>
     intro hk
     obtain ⟨l,h1,h2,h3⟩ := ih (by omega)
     refine ⟨(k : Int) :: l,by simp [h1],List.nodup_cons.2 ⟨fun h4 => by have := h3 _ h4; omega,h2⟩,fun x hx => ?_⟩
     rcases List.mem_cons.1 hx with h4 | h4
     · omega
     · have := h3 x h4; omega
 obtain ⟨l,h1,h2,h3⟩ := h n (Nat.le_refl _)
 have := sub_len l ord h2 (fun x hx => (ho.all _).2 (h3 x hx))
 omega
theorem nodup_inj {α : Type} : ∀ {l : List α},l.Nodup → ∀ {i j : Nat} (hi : i < l.length) (hj : j < l.length),l[i] = l[j] → i = j
 | [],_,i,_,hi,_,_ => by cases hi
 | x :: l,h,0,0,_,_,_ => rfl
 | x :: l,h,0,j + 1,_,hj,e => by
   rw [List.getElem_cons_zero,List.getElem_cons_succ] at e
   exact absurd (by rw [e]; exact List.getElem_mem _) (List.nodup_cons.1 h).1
 | x :: l,h,i + 1,0,hi,_,e => by
   rw [List.getElem_cons_zero,List.getElem_cons_succ] at e
   exact absurd (by rw [← e]; exact List.getElem_mem _) (List.nodup_cons.1 h).1
 | x :: l,h,i + 1,j + 1,hi,hj,e => by
   rw [List.getElem_cons_succ,List.getElem_cons_succ] at e
   rw [nodup_inj (List.nodup_cons.1 h).2 _ _ e]
def NK (n : Nat) (ord nm : List Int) (k : Nat) : Prop := nm.length = n ∧ ∀ j,j < k → ix nm (ix ord j).toNat = j
theorem NK.nx {n : Nat} {rows : List (List Int)} {ord nm : List Int} {k : Nat} (ho : OD n rows ord) (h : NK n ord nm k) (hk : k < ord.length) : NK n ord (nm.set (ix ord k).toNat k) (k + 1) := by
 refine ⟨by rw [List.length_set]; exact h.1,fun j hj => ?_⟩
 have h1 := od_rng ho hk
 have h2 := od_rng ho (k := j) (by omega)
 rw [ix_set (by rw [h.1]; omega)]
 split
 · rename_i e
   have e2 : ix ord j = ix ord k := by omega
   have : j = k := by
     rw [ix_eq (show j < ord.length by omega),ix_eq hk] at e2
     exact nodup_inj ho.nd _ _ e2
   omega
 · rename_i e
   rcases Nat.lt_or_ge j k with h3 | h3
   · exact h.2 j h3
   · exact absurd (show (ix ord j).toNat = (ix ord k).toNat by rw [show j = k by omega]) e
theorem NK.nu {n : Nat} {ord nm : List Int} (h : NK n ord nm ord.length) : NU n ord nm := ⟨h.1,h.2⟩
structure IR (n : Nat) (num : List Int) (pr : Nat → Nat → Prop) (ou0 ou : List Int) (ch : Bool) (k : Nat) : Prop where
 is : IS n num pr ou ((k + 1 : Nat) : Int)
 le : smI n num ou n ≤ smI n num ou0 n
 lt : ch = true → smI n num ou n < smI n num ou0 n
section
variable {n : Nat} {num ou0 ou : List Int} {pr : Nat → Nat → Prop} {ch : Bool} {k : Nat} {best : Int} {b : Nat}
theorem IR.set (hg : GN n num pr) (h : IR n num pr ou0 ou ch k) (hb : b < n) (hb0 : b ≠ 0) (hi : ix num b = ((k + 1 : Nat) : Int)) (hB : BS ou (fun p => pr p b) best) (hne : ix ou b ≠ best) : IR n num pr ou0 (ou.set b best) true (k + 1) := by
 obtain ⟨h1,h2,h3,h4⟩ := h.is.step hg hb hb0 hi hB
 have h5 := h.is.less hg hb ⟨h1,h2⟩ hne h4
 have h6 := h.le
 exact ⟨by rw [show ((k + 1 + 1 : Nat) : Int) = ((k + 1 : Nat) : Int) + 1 by omega]; exact h3,by omega,fun _ => by omega⟩
theorem IR.keep (hg : GN n num pr) (h : IR n num pr ou0 ou ch k) (hb : b < n) (hb0 : b ≠ 0) (hi : ix num b = ((k + 1 : Nat) : Int)) (hB : BS ou (fun p => pr p b) best) (he : ix ou b = best) : IR n num pr ou0 ou ch (k + 1) := by
 obtain ⟨h1,h2,h3,h4⟩ := h.is.step hg hb hb0 hi hB
 have hl : b < ou.length := by rw [h.is.tv.len]; exact hb
 have e : ou.set b best = ou := by rw [← he,ix_eq hl]; exact List.set_getElem_self _
 rw [e] at h3
 exact ⟨by rw [show ((k + 1 + 1 : Nat) : Int) = ((k + 1 : Nat) : Int) + 1 by omega]; exact h3,h.le,h.lt⟩
end
def DomG (g : List (List Int)) (out : List Int) : Prop := out.length = g.length ∧ ∀ a b : Nat,a < g.length → b < g.length → (a = b ∨ ¬ RB (prG g) a b) → dominM out a b = true
theorem IS.dg {g : List (List Int)} {num out : List Int} (hg : GN g.length num (prG g)) (h : IS g.length num (prG g) out (g.length : Int)) : DomG g out := by
 refine ⟨h.tv.len,fun a b ha hb hd => ?_⟩
 have h1 := h.dm b a hb (h.fp b hb (hg.rng b hb).2) hd
 have hl := h.tv.len
 unfold dominM inR
 rw [if_pos ⟨by simp; omega,by simp; omega⟩]
 refine domF_yes h.tv _ h1 hb ?_
 have := hg.rng b hb
 have := hg.rng a ha
 omega
theorem IS.pd {n : Nat} {num out : List Int} {pr : Nat → Nat → Prop} {i : Int} (h : IS n num pr out i) {x : Int} (hx : 0 ≤ x) : pdn out x.toNat ↔ ¬ (x ≠ 0 ∧ ix out x.toNat < 0) := by
 unfold pdn
 constructor
 · rintro (h1 | h1) ⟨h2,h3⟩ <;> omega
 · intro h1
   by_cases e : x = 0
   · exact .inl (by omega)
   · exact .inr (by rcases Int.lt_or_le (ix out x.toNat) 0 with h2 | h2; exact absurd ⟨e,h2⟩ h1; exact h2)
theorem com_done {n : Nat} {num out : List Int} {pr : Nat → Nat → Prop} (hg : GN n num pr) (hv : TV n num out) {a b : Int} : ∀ (k : Nat) {a' b' : Int},CO n num out a b a' b' → (ix num a'.toNat).toNat + (ix num b'.toNat).toNat < k → ∃ c,comF out num k a' b' = c ∧ (0 ≤ c ∧ c < n) ∧ pdn out c.toNat ∧ An out c.toNat a.toNat ∧ An out c.toNat b.toNat ∧ ∀ x,An out x a.toNat → An out x b.toNat → An out x c.toNat
 | 0,a',b',_,h => absurd h (Nat.not_lt_zero _)
 | k + 1,a',b',h,hk => by
   rw [comF]
   have ra := h.ra
   have rb := h.rb
   have na := hg.rng a'.toNat (by omega)
   have nb := hg.rng b'.toNat (by omega)
   split
   · rename_i h1
     obtain ⟨h2,h3⟩ := h.left hg hv h1
     have := hg.rng (ix out a'.toNat).toNat (by have := h2.ra; omega)
     exact com_done hg hv k h2 (by omega)
   · split
     · rename_i h1
       obtain ⟨h2,h3⟩ := h.right hg hv h1
       have := hg.rng (ix out b'.toNat).toNat (by have := h2.rb; omega)
       exact com_done hg hv k h2 (by omega)
     · exact ⟨_,rfl,ra,h.pa,h.done hg (by omega)⟩
theorem comM_done {n : Nat} {num out : List Int} {pr : Nat → Nat → Prop} (hg : GN n num pr) (hv : TV n num out) {a b : Int} (ha : 0 ≤ a ∧ a < n) (hb : 0 ≤ b ∧ b < n) (h1 : pdn out a.toNat) (h2 : pdn out b.toNat) : (0 ≤ comM out num a b ∧ comM out num a b < n) ∧ pdn out (comM out num a b).toNat ∧ An out (comM out num a b).toNat a.toNat ∧ An out (comM out num a b).toNat b.toNat ∧ ∀ x,An out x a.toNat → An out x b.toNat → An out x (comM out num a b).toNat := by
 obtain ⟨c,h3,h4⟩ := com_done hg hv _ (CO.beg ha hb h1 h2) (Nat.lt_succ_self _)
 unfold comM
 rw [h3]; exact h4
theorem fill_put {n k : Nat} {a b : Int} (hk : k < n) : (List.replicate k a ++ List.replicate (n - k) b).set k a = List.replicate (k + 1) a ++ List.replicate (n - (k + 1)) b := by
 obtain ⟨j,hj⟩ : ∃ j,n - k = j + 1 := ⟨n - k - 1,by omega⟩
 rw [hj,show n - (k + 1) = j by omega,List.replicate_succ (n := j),List.set_append_right _ _ (by simp),List.length_replicate,Nat.sub_self,List.set_cons_zero,List.replicate_succ' (n := k),List.append_assoc]; rfl
section
variable {n : Nat} {num ou l : List Int} {pr : Nat → Nat → Prop} {i a best : Int} {j : Nat}
def S9 (n : Nat) (ou l : List Int) (j : Nat) (best : Int) : Prop := j ≤ l.length ∧ BS ou (Pk l j) best ∧ -1 ≤ best ∧ best < (n : Int)
theorem s9_skip (hg : GN n num pr) (hs : IS n num pr ou i) (h : S9 n ou l j best) (ha : ix l j = a) (hr : 0 ≤ a ∧ a < n) (hj : j < l.length) (hc : ix num a.toNat < 0 ∨ ¬ a = 0 ∧ ix ou a.toNat < 0) : S9 n ou l (j + 1) best := by
 refine ⟨by omega,h.2.1.skip hj (by omega) ?_,h.2.2⟩
 rw [ha]
 intro h1
 have h2 := (hs.pd hr.1).1 h1
 have h3 := (hg.rng a.toNat (by omega)).1
 rcases hc with h4 | h4
 · omega
 · exact h2 h4
theorem s9_pd (hs : IS n num pr ou i) (hr : 0 ≤ a ∧ a < n) (hc : ¬ a = 0 → 0 ≤ ix ou a.toNat) : pdn ou a.toNat := (hs.pd hr.1).2 fun h => by have := hc h.1; omega
theorem s9_first (hs : IS n num pr ou i) (h : S9 n ou l j best) (ha : ix l j = a) (hr : 0 ≤ a ∧ a < n) (hj : j < l.length) (hc : ¬ a = 0 → 0 ≤ ix ou a.toNat) (hb : best < 0) : S9 n ou l (j + 1) a := by
 have h1 := h.2.1.first hb hj (by omega) (by rw [ha]; exact s9_pd hs hr hc)
 rw [ha] at h1
 exact ⟨by omega,h1,by omega,hr.2⟩
theorem s9_ok (hg : GN n num pr) (hl : num.length = n) (hs : IS n num pr ou i) (h : S9 n ou l j best) (hr : 0 ≤ a ∧ a < n) (hc : ¬ a = 0 → 0 ≤ ix ou a.toNat) (hb : 0 ≤ best) : ComOK ou num best a :=
 ⟨n,pr,hg,hl,hs.tv,CO.beg ⟨hb,h.2.2.2⟩ hr (h.2.1.pd hb) (s9_pd hs hr hc)⟩
theorem s9_com (hg : GN n num pr) (hs : IS n num pr ou i) (h : S9 n ou l j best) (ha : ix l j = a) (hr : 0 ≤ a ∧ a < n) (hj : j < l.length) (hc : ¬ a = 0 → 0 ≤ ix ou a.toNat) (hb : 0 ≤ best) : S9 n ou l (j + 1) (comM ou num best a) := by
 have hp := s9_pd hs hr hc
 obtain ⟨h1,h2,h3⟩ := comM_done hg hs.tv ⟨hb,h.2.2.2⟩ hr (h.2.1.pd hb) hp
 exact ⟨by omega,h.2.1.com hb hj (by omega) (by rw [ha]; exact hp) h1.1 h2 (by rw [ha]; exact h3),by omega,h1.2⟩
end
theorem S9.all {g : List (List Int)} {ou : List Int} {j b : Nat} {best : Int} (h : S9 g.length ou (ix (predsG g) b) j best) (hj : j = (ix (predsG g) b).length) : BS ou (fun p => prG g p b) best := by
 subst hj; exact h.2.1.all (fun p => preds_pr)
theorem ix_drop9 {l : List Int} {m k : Nat} : ix (l.drop m) k = ix l (m + k) := by simp [ix,List.getD]
theorem IS.end9 {n : Nat} {num out : List Int} {pr : Nat → Nat → Prop} {k : Nat} (h : IS n num pr out ((k + 1 : Nat) : Int)) (e : k + 1 = n) : IS n num pr out (n : Int) := by rw [← e] at h ⊢; exact h
inductive RA (to : List (List Int)) (n w : Nat) : Nat → Prop
 | zero : w ≠ 0 → RA to n w 0
 | step {x : Nat} {t : Int} : RA to n w x → t ∈ ix to x → 1 ≤ t → t < n → t ≠ w → RA to n w t.toNat
theorem RA.nz {to : List (List Int)} {n w x : Nat} (h : RA to n w x) : w ≠ 0 := by
 induction h with
 | zero h => exact h
 | step _ _ _ _ _ ih => exact ih
theorem ra_lt {to : List (List Int)} {n w x : Nat} (hn : 0 < n) (h : RA to n w x) : x < n := by
 induction h with
 | zero h => exact hn
 | step _ _ _ _ _ _ => omega
theorem ra_reach {to : List (List Int)} {f : D.Func} {n w x : Nat} (hl : f.Blocks.length = n) (hn : 0 < n) (ht : ∀ j,j < n → (ix f.Blocks j).Term.To = ix to j) (h : RA to n w x) : ix (reach3 f (w : Int)) x = true := by
 have hw := h.nz
 obtain ⟨h0,hc⟩ := reach3_cl (f := f) (w := (w : Int)) (by omega) (by omega)
 induction h with
 | zero h => exact h0
 | @step y t h1 h2 h3 h4 h5 ih => exact hc _ ih t (by rw [ht _ (ra_lt hn h1)]; exact h2) (by omega) (by omega) h5
def mkB (x : D.Block) : List Int := x.Phis.map (fun p => p.Dst) ++ x.Ins.flatMap makes3
def Vs (n : Nat) (to : List (List Int)) (par : Int) (bs : List D.Block) (b : Nat) (r : Int) : Prop := (0 ≤ r ∧ r < par) ∨ ∃ a,a < n ∧ (a = b ∨ ¬ RA to n a b) ∧ r ∈ mkB (ix bs a)
def Vo (n : Nat) (to : List (List Int)) (par : Int) (bs : List D.Block) (b : Nat) (r : Int) : Prop := (0 ≤ r ∧ r < par) ∨ ∃ a,a < n ∧ (a ≠ b ∧ ¬ RA to n a b) ∧ r ∈ mkB (ix bs a)
def gIn (S : Int → Prop) (l : List D.Ins) : Prop := ∀ k,k < l.length → ∀ r ∈ (ix l k).Args,S r ∨ r ∈ (l.take k).flatMap makes3
theorem gIn.add {S : Int → Prop} {l : List D.Ins} {i : D.Ins} (h : gIn S l) (hi : ∀ r ∈ i.Args,S r ∨ r ∈ l.flatMap makes3) : gIn S (l ++ [i]) := fun k hk r hr => by
 rw [List.length_append,List.length_singleton] at hk
 rcases Nat.lt_or_ge k l.length with h1 | h1
 · rw [ix_app h1] at hr
   rw [List.take_append_of_le_length (by omega)]; exact h k h1 r hr
 · have e : k = l.length := by omega
   subst e
   have e2 : ix (l ++ [i]) l.length = i := by rw [ix_eq (by simp)]; simp
   rw [e2] at hr
   rw [List.take_left' rfl]; exact hi r hr
theorem gIn.mono {S S' : Int → Prop} {l : List D.Ins} (h : gIn S l) (hs : ∀ r,S r → S' r) : gIn S' l := fun k hk r hr => (h k hk r hr).imp (hs r) id
structure VI (n : Nat) (to : List (List Int)) (par : Int) (bs : List D.Block) : Prop where
 len : bs.length = n
 gd : ∀ j,j < n → gIn (fun r => Vo n to par bs j r ∨ r ∈ (ix bs j).Phis.map (fun p => p.Dst)) (ix bs j).Ins
 tm : ∀ j,j < n → ∀ r ∈ (ix bs j).Term.Args,Vs n to par bs j r
 ph : ∀ j,j < n → ∀ p ∈ (ix bs j).Phis,∀ x ∈ p.In,(0 ≤ x.From ∧ x.From < n) ∧ Vs n to par bs x.From.toNat x.Val
def upB (bs bs' : List D.Block) : Prop := ∀ j,∀ r ∈ mkB (ix bs j),r ∈ mkB (ix bs' j)
section
variable {n : Nat} {to : List (List Int)} {par : Int} {bs bs' : List D.Block} {b : Nat} {r : Int}
theorem Vs.up (h : Vs n to par bs b r) (hu : upB bs bs') : Vs n to par bs' b r := h.imp id fun ⟨a,h1,h2,h3⟩ => ⟨a,h1,h2,hu a r h3⟩
theorem Vo.up (h : Vo n to par bs b r) (hu : upB bs bs') : Vo n to par bs' b r := h.imp id fun ⟨a,h1,h2,h3⟩ => ⟨a,h1,h2,hu a r h3⟩
theorem Vs.split (h : Vs n to par bs b r) : (Vo n to par bs b r ∨ r ∈ (ix bs b).Phis.map (fun p => p.Dst)) ∨ r ∈ (ix bs b).Ins.flatMap makes3 := by
 rcases h with h | ⟨a,h1,h2,h3⟩
 · exact .inl (.inl (.inl h))
 · by_cases e : a = b
   · subst e
     rcases List.mem_append.1 h3 with h4 | h4
     · exact .inl (.inr h4)
     · exact .inr h4
   · exact .inl (.inl (.inr ⟨a,h1,⟨e,h2.resolve_left e⟩,h3⟩))
theorem VI.put {x : D.Block} (h : VI n to par bs) (hb : b < n) (hm : ∀ r ∈ mkB (ix bs b),r ∈ mkB x) (hp : x.Phis.map (fun p => p.Dst) = (ix bs b).Phis.map (fun p => p.Dst) ∨ ∀ r ∈ (ix bs b).Phis.map (fun p => p.Dst),r ∈ x.Phis.map (fun p => p.Dst))
   (hi : gIn (fun r => Vo n to par bs b r ∨ r ∈ (ix bs b).Phis.map (fun p => p.Dst)) x.Ins) (ht : ∀ r ∈ x.Term.Args,Vs n to par bs b r)
   (hq : ∀ p ∈ x.Phis,∀ y ∈ p.In,(0 ≤ y.From ∧ y.From < n) ∧ Vs n to par bs y.From.toNat y.Val) : VI n to par (bs.set b x) ∧ upB bs (bs.set b x) := by
 have hl := h.len
 have hu : upB bs (bs.set b x) := fun j r hr => by
   rw [ix_set (by omega)]; split
   · rename_i e; subst e; exact hm r hr
   · exact hr
 have hp' : ∀ r ∈ (ix bs b).Phis.map (fun p => p.Dst),r ∈ x.Phis.map (fun p => p.Dst) := fun r hr => hp.elim (fun e => by rw [e]; exact hr) (fun h => h r hr)
 refine ⟨⟨by rw [List.length_set]; exact hl,fun j hj => ?_,fun j hj r hr => ?_,fun j hj p hm9 y hy => ?_⟩,hu⟩
 · rw [ix_set (by omega)]; split
   · rename_i e; subst e
     exact hi.mono fun r hr => hr.imp (fun h => h.up hu) (hp' r)
   · exact (h.gd j hj).mono fun r hr => hr.imp (fun h => h.up hu) id
 · rw [ix_set (by omega)] at hr; split at hr
   · rename_i e; subst e; exact (ht r hr).up hu
   · exact (h.tm j hj r hr).up hu
 · rw [ix_set (by omega)] at hm9; split at hm9
   · rename_i e; subst e; have := hq p hm9 y hy; exact ⟨this.1,this.2.up hu⟩
   · have := h.ph j hj p hm9 y hy; exact ⟨this.1,this.2.up hu⟩
end
structure VB (n : Nat) (to : List (List Int)) (b : Nat) (par : Int) (bs : List D.Block) (lv : List Int) : Prop where
 vi : VI n to par bs
 vl : ∀ x ∈ lv,Vs n to par bs b x
abbrev Wv (n : Nat) (to : List (List Int)) (b : Nat) (m : Mk) (x : Int) : Prop := Vs n to m.par m.bs b x
section
variable {n : Nat} {to : List (List Int)} {b : Nat} {m m' m2 : Mk} {x : Int}
theorem w2 {y z : Int} (h1 : Wv n to b m y) (h2 : Wv n to b m z) : ∀ r ∈ [y,z],Wv n to b m r := fun r hr => by
 simp at hr; rcases hr with rfl | rfl <;> assumption
theorem w1 {y : Int} (h1 : Wv n to b m y) : ∀ r ∈ [y],Wv n to b m r := fun r hr => by simp at hr; subst hr; exact h1
end
abbrev VN (n : Nat) (to : List (List Int)) (m : Mk) : Prop := VI n to m.par m.bs
section
variable {n b c : Nat} {to : List (List Int)} {m m' : Mk}
theorem RI.ra (h : RI n b c to m) (hn : 0 < n) {w x : Nat} (hr : ix (reach3 (fnM m) (w : Int)) x = false) : ¬ RA to n w x := fun h9 => by
 have := ra_reach (f := fnM m) h.len hn h.tos h9
 rw [hr] at this; cases this
theorem VN.ap {j : Nat} (v : VN n to m) (hj : j < n) : VN n to (addP j m) := by
 refine (VI.put (x := { (ix m.bs j) with Phis := (ix m.bs j).Phis ++ [⟨m.nx,[]⟩] }) v hj (fun r hr => ?_) (.inr fun r hr => ?_) (v.gd j hj) (v.tm j hj) (fun p hp x hx => ?_)).1
 · unfold mkB at hr ⊢
   dsimp only
   rw [List.map_append]
   rcases List.mem_append.1 hr with h2 | h2
   · exact List.mem_append.2 (.inl (List.mem_append.2 (.inl h2)))
   · exact List.mem_append.2 (.inr h2)
 · rw [List.map_append]; exact List.mem_append.2 (.inl hr)
 · rcases List.mem_append.1 hp with h2 | h2
   · exact v.ph j hj p h2 x hx
   · simp at h2; subst h2; cases hx
theorem VN.pn {j : Nat} (hj : j < n) : ∀ (k : Nat) {m : Mk},VN n to m → VN n to (phiN j k m)
 | 0,_,h => h
 | k + 1,_,h => VN.pn hj k (h.ap hj)
theorem VN.ps : ∀ (k j : Nat) (ph : List Int) (m : Mk),j + k = n → VN n to m → VN n to (phiS k j ph m).2
 | 0,j,ph,m,hj,h => h
 | k + 1,j,ph,m,hj,h => by
   rw [phiS]
   exact VN.ps k (j + 1) _ _ (by omega) (VN.pn (m := tSS m) (by omega) _ h)
end
structure UI (par nx : Int) (bs : List D.Block) : Prop where
 pn : par ≤ nx
 rg : ∀ j,∀ r ∈ mkB (ix bs j),par ≤ r ∧ r < nx
 nd : ∀ j,(mkB (ix bs j)).Nodup
 dj : ∀ i j,i ≠ j → ∀ r ∈ mkB (ix bs i),r ∉ mkB (ix bs j)
theorem UI.put {par nx nx' : Int} {bs : List D.Block} {b : Nat} {x : D.Block} {ms : List Int} (h : UI par nx bs) (hn : nx ≤ nx') (hp : (mkB x).Perm (mkB (ix bs b) ++ ms)) (hm : ∀ r ∈ ms,nx ≤ r ∧ r < nx') (hd : ms.Nodup) : UI par nx' (bs.set b x) := by
 by_cases hb : b < bs.length
 · have hs : ∀ j,ix (bs.set b x) j = if j = b then x else ix bs j := fun j => ix_set hb
   have hx : ∀ r ∈ mkB x,r ∈ mkB (ix bs b) ∨ r ∈ ms := fun r hr => List.mem_append.1 (hp.mem_iff.1 hr)
   have hpn := h.pn
   refine ⟨by omega,fun j r hr => ?_,fun j => ?_,fun i j hij r hr hr2 => ?_⟩
   · rw [hs] at hr; split at hr
     · rcases hx r hr with h1 | h1
       · have := h.rg b r h1; omega
       · have := hm r h1; omega
     · have := h.rg j r hr; omega
   · rw [hs]; split
     · exact hp.nodup_iff.2 (List.nodup_append.2 ⟨h.nd b,hd,fun y hy z hz e => by have := h.rg b y hy; have := hm z hz; omega⟩)
     · exact h.nd j
   · rw [hs] at hr hr2
     split at hr
     · rename_i e; subst e
       rw [if_neg (fun e => hij e.symm)] at hr2
       rcases hx r hr with h1 | h1
       · exact h.dj _ _ hij r h1 hr2
       · have := h.rg j r hr2; have := hm r h1; omega
     · split at hr2
       · rename_i e; subst e
         rcases hx r hr2 with h1 | h1
         · exact h.dj _ _ hij r hr h1
         · have := h.rg i r hr; have := hm r h1; omega
       · exact h.dj _ _ hij r hr hr2
 · rw [List.set_eq_of_length_le (by omega)]
   exact ⟨by have := h.pn; omega,fun j r hr => by have := h.rg j r hr; omega,h.nd,h.dj⟩
def UG (m m' : Mk) : Prop := m'.par = m.par ∧ (UI m.par m.nx m.bs → UI m'.par m'.nx m'.bs)
section
variable {m m' m2 : Mk} {j : Int} {b : Nat}
theorem UG.rf : UG m m := ⟨rfl,id⟩
theorem UG.tr (h : UG m m') (h2 : UG m' m2) : UG m m2 := ⟨h2.1.trans h.1,fun h3 => h2.2 (h.2 h3)⟩
theorem UG.same (h1 : m'.par = m.par) (h2 : m'.bs = m.bs) (h3 : m'.nx = m.nx) : UG m m' := ⟨h1,by rw [h1,h2,h3]; exact id⟩
theorem mk_ins {x : D.Block} {i : D.Ins} : mkB { x with Ins := x.Ins ++ [i] } = mkB x ++ makes3 i := by unfold mkB; rw [List.flatMap_append]; simp
theorem UG.ad {i : D.Ins} (h1 : m'.par = m.par) (h2 : m'.bs = m.bs) (h3 : m.nx ≤ m'.nx) (hm : ∀ r ∈ makes3 i,m.nx ≤ r ∧ r < m'.nx) (hd : (makes3 i).Nodup) : UG m (addS j i m') := ⟨h1,fun h => by
 show UI m'.par m'.nx (m'.bs.set _ _)
 rw [h1,h2]
 exact h.put h3 (by rw [mk_ins]) hm hd⟩
theorem UG.one {op v x : Int} {a : List Int} (h1 : m'.par = m.par) (h2 : m'.bs = m.bs) (h3 : m'.nx = m.nx + 1) (hx : x = m.nx) (ho : op ≠ 16 ∧ op ≠ 18) : UG m (addS j ⟨op,x,0,a,v⟩ m') := by
 have e : makes3 ⟨op,x,0,a,v⟩ = [x] := by unfold makes3; rw [if_neg ho.1,if_neg ho.2]
 refine UG.ad h1 h2 (by omega) (fun r hr => ?_) (by rw [e]; simp)
 rw [e] at hr; simp at hr; omega
theorem UG.con {v : Int} (h : UG m m') : UG m (constS j v m') := h.tr (UG.one (m' := freshS m') rfl rfl rfl rfl (by omega))
theorem UG.tk (h : UG m m') : UG m (tSS m') := h.tr (.same rfl rfl rfl)
theorem UG.wd (h : UG m m') : UG m (wordS m') := h.tr (.same rfl rfl rfl)
theorem UG.aF {op v : Int} {a : List Int} (h : UG m m') (ho : op ≠ 16 ∧ op ≠ 18) : UG m (addS j ⟨op,m'.nx,0,a,v⟩ (freshS m')) := h.tr (UG.one rfl rfl rfl rfl ho)
theorem UG.aT {op v : Int} {a : List Int} (h : UG m m') (ho : op ≠ 16 ∧ op ≠ 18) : UG m (addS j ⟨op,m'.nx,0,a,v⟩ (tSS (freshS m'))) := h.tr (UG.one rfl rfl rfl rfl ho)
theorem UG.val (h : UG m m') : UG m (valueS m') := by unfold valueS; split; exact h; exact .tk (.tk h)
theorem UG.som0 (h : UG m m') : UG m (someM0 m') := by
 unfold someM0; split
 · exact .tk (.val h)
 · exact .val h
theorem UG.som (h : UG m m') : UG m (sS9 j m') := by
 unfold sS9; split
 · exact .con (.wd (.som0 h))
 · exact .som0 h
theorem UG.me1 (h : UG m m') : UG m (mem1 j m').2 := by
 unfold mem1; dsimp only; split
 · exact .aF (.aF (.con (.som (.tk (.con (.tk h))))) (by omega)) (by omega)
 · exact .tk (.con (.tk h))
theorem UG.me2 (h : UG m m') : UG m (mem2 m').2 := by unfold mem2; dsimp only; split <;> exact h.tr (.same rfl rfl rfl)
theorem UG.mem {st : Bool} (h : UG m m') : UG m (memS j st m') := by
 unfold memS; dsimp only; split
 · exact UG.tr (m' := sS9 j (mem2 (mem1 j m').2).2) (.som (.me2 (.me1 h))) (UG.ad rfl rfl (Int.le_refl _) (fun r hr => by simp [makes3] at hr) (by simp [makes3]))
 · exact .aF (.me2 (.me1 h)) (by omega)
theorem UG.args : ∀ (k : Nat) (l : List Int) (m' : Mk),UG m m' → UG m (argsL j k l m').2
 | 0,_,_,h => h
 | k + 1,l,m',h => by rw [argsL]; exact UG.args k _ _ (.som h)
theorem op_no {i : Nat} (h : i < 12) : ix [(2 : Int),2,3,4,5,6,7,8,9,10,12,11] i ≠ 16 ∧ ix [(2 : Int),2,3,4,5,6,7,8,9,10,12,11] i ≠ 18 := by
 have : ∀ i : Nat,i < 12 → ix [(2 : Int),2,3,4,5,6,7,8,9,10,12,11] i ≠ 16 ∧ ix [(2 : Int),2,3,4,5,6,7,8,9,10,12,11] i ≠ 18 := by decide
 exact this i h
theorem UG.mw {a : List Int} (h : UG m m') : UG m (addS j ⟨18,m'.nx,(freshS m').nx,a,0⟩ (freshS (freshS m'))) := by
 refine h.tr (UG.ad rfl rfl (by show _ ≤ _ + 1 + 1; omega) (fun r hr => ?_) (by simp [makes3,freshS]; omega))
 have hr' : r = m'.nx ∨ r = m'.nx + 1 := by simpa [makes3,freshS] using hr
 show _ ∧ _ < _ + 1 + 1
 omega
theorem UG.ins (h : UG m m') : UG m (insS j m') := by
 have hk := tV9 (n := 20) (by omega) m'
 unfold insS; dsimp only
 generalize tVV 20 m' = k at hk
 have h3 : UG m (sS9 j (sS9 j (tSS m'))) := .som (.som (.tk h))
 split
 · split
   · exact .aF (.con (.tk (.tk h3))) (op_no (by omega))
   · exact .aF (.tk h3) (op_no (by omega))
 split
 · exact .aF h3 (by omega)
 split
 · split
   · exact .aF (.con (.tk (.tk (.con (.tk (.som (.tk h))))))) (by omega)
   · exact .aF (.tk (.con (.tk (.som (.tk h))))) (by omega)
 split
 · exact .mem (.tk h)
 split
 · exact .aT (UG.args _ _ _ (.tk (.tk h))) (by omega)
 split
 · exact .mw h3
 · exact .con (.wd (.tk h))
theorem UG.is : ∀ (k : Nat) (m' : Mk),UG m m' → UG m (insN b k m')
 | 0,_,h => h
 | k + 1,m',h => by rw [insN]; exact UG.is k _ (.ins h)
theorem UG.sT {t : D.Term} (h : UG m m') : UG m (setT j t m') := h.tr ⟨rfl,fun h => by
 show UI m'.par m'.nx (m'.bs.set _ _)
 exact h.put (ms := []) (Int.le_refl _) (by rw [List.append_nil]; exact List.Perm.refl _) (fun r hr => by cases hr) List.nodup_nil⟩
theorem UG.en {l : List Int} (h : UG m m') : UG m (endS j l m') := by
 unfold endS
 split
 · split
   · exact .sT (.tk (.tk h))
   split
   · exact .sT (.som (.tk h))
   · exact .sT (.tk h)
 split
 · exact .sT h
 split
 · dsimp only
   split
   · have ho : ∀ i : Nat,i < 3 → ix [(11 : Int),12,13] i ≠ 16 ∧ ix [(11 : Int),12,13] i ≠ 18 := by decide
     have hr := tV9 (n := 3) (by omega) (freshS (sS9 j (tSS (sS9 j m'))))
     exact .sT (.aT (.som (.tk (.som h))) (ho _ (by omega)))
   · exact .sT (.tk (.som h))
 · dsimp only
   exact .sT (.aF (.con (.som h)) (by omega))
theorem UG.bl {n : Nat} {to : List (List Int)} {dn : List Bool} : UG m (blkM n to b dn m) := by
 unfold blkM
 exact UG.en (UG.is _ _ (.tk (.same rfl rfl rfl)))
theorem UG.row {n : Nat} {to : List (List Int)} : ∀ (k b : Nat) (dn : List Bool) (m : Mk),UG m (rowS n to k b dn m).2
 | 0,_,_,_ => .rf
 | k + 1,b,dn,m => by
   rw [rowS]; split
   · exact UG.bl.tr (UG.row k _ _ _)
   · exact UG.row k _ _ _
theorem UG.ap : UG m (addP b m) := ⟨rfl,fun h => by
 show UI m.par (m.nx + 1) (m.bs.set _ _)
 refine h.put (ms := [m.nx]) (by omega) ?_ (fun r hr => by simp at hr; omega) (by simp)
 show (mkB { (ix m.bs b) with Phis := (ix m.bs b).Phis ++ [⟨m.nx,[]⟩] }).Perm _
 unfold mkB
 dsimp only
 rw [List.map_append,List.append_assoc,List.append_assoc]
 exact List.Perm.append_left _ List.perm_append_comm⟩
theorem UG.pn : ∀ (k : Nat) (m : Mk),UG m (phiN b k m)
 | 0,_ => .rf
 | k + 1,m => by rw [phiN]; exact UG.ap.tr (UG.pn k _)
theorem UG.ps : ∀ (k j : Nat) (ph : List Int) (m : Mk),UG m (phiS k j ph m).2
 | 0,_,_,_ => .rf
 | k + 1,j,ph,m => by rw [phiS]; exact UG.tr (m' := tSS m) (.tk .rf) ((UG.pn _ _).tr (UG.ps k _ _ _))
end
def wv (b p : Int) : Value := .agg #[.int .i64 b,.int .i64 p]
def insA (b p : Int) (l : List Int) (L : List (Int × Value)) : List (Int × Value) := l.foldl (fun m n => upM m n (wv b p)) L
theorem lk_insA {b p : Int} : ∀ (l : List Int) (L : List (Int × Value)) (n : Int),lkM (insA b p l L) n = if n ∈ l then some (wv b p) else lkM L n
 | [],L,n => by simp [insA]
 | x :: l,L,n => by
   have h := lk_insA (b := b) (p := p) l (upM L x (wv b p)) n
   unfold insA at h ⊢
   rw [List.foldl_cons,h,upM_lk]
   by_cases h1 : n ∈ l
   · rw [if_pos h1,if_pos (by simp [h1])]
   · rw [if_neg h1]
     by_cases h2 : n = x
     · rw [if_pos h2,if_pos (by simp [h2])]
     · rw [if_neg h2,if_neg (by simp [h1,h2])]
theorem insA_app {b p : Int} {l : List Int} {n : Int} {L : List (Int × Value)} : insA b p (l ++ [n]) L = upM (insA b p l L) n (wv b p) := by unfold insA; rw [List.foldl_append]; rfl
def phA (b : Int) (ps : List D.Phi) (L : List (Int × Value)) : Nat → List (Int × Value)
 | 0 => L
 | k + 1 => insA b (-1 - k) [(ix ps k).Dst] (phA b ps L k)
def inA (b : Int) (is : List D.Ins) (L : List (Int × Value)) : Nat → List (Int × Value)
 | 0 => L
 | k + 1 => insA b k (makes3 (ix is k)) (inA b is L k)
def bkA (bs : List D.Block) : Nat → List (Int × Value)
 | 0 => []
 | k + 1 => inA k (ix bs k).Ins (phA k (ix bs k).Phis (bkA bs k) (ix bs k).Phis.length) (ix bs k).Ins.length
theorem phA_no {b : Int} {ps : List D.Phi} {L : List (Int × Value)} {n : Int} : ∀ {k : Nat},lkM (phA b ps L k) n = none ↔ lkM L n = none ∧ ∀ i,i < k → n ≠ (ix ps i).Dst
 | 0 => by simp [phA]
 | k + 1 => by
   have ih := phA_no (b := b) (ps := ps) (L := L) (n := n) (k := k)
   rw [phA,lk_insA]
   constructor
   · intro h
     split at h
     · cases h
     · rename_i h1
       have h2 := ih.1 h
       refine ⟨h2.1,fun i hi e => ?_⟩
       rcases Nat.lt_or_ge i k with h3 | h3
       · exact h2.2 i h3 e
       · rw [show i = k by omega] at e; exact h1 (by simp [e])
   · rintro ⟨h1,h2⟩
     rw [if_neg (by simpa using h2 k (by omega))]
     exact ih.2 ⟨h1,fun i hi => h2 i (by omega)⟩
theorem inA_no {b : Int} {is : List D.Ins} {L : List (Int × Value)} {n : Int} : ∀ {k : Nat},lkM (inA b is L k) n = none ↔ lkM L n = none ∧ ∀ i,i < k → n ∉ makes3 (ix is i)
 | 0 => by simp [inA]
 | k + 1 => by
   have ih := inA_no (b := b) (is := is) (L := L) (n := n) (k := k)
   rw [inA,lk_insA]
   constructor
   · intro h
     split at h
     · cases h
     · rename_i h1
       have h2 := ih.1 h
       refine ⟨h2.1,fun i hi e => ?_⟩
       rcases Nat.lt_or_ge i k with h3 | h3
       · exact h2.2 i h3 e
       · rw [show i = k by omega] at e; exact h1 e
   · rintro ⟨h1,h2⟩
     rw [if_neg (h2 k (by omega))]
     exact ih.2 ⟨h1,fun i hi => h2 i (by omega)⟩
theorem mkB_ix {x : D.Block} {n : Int} : n ∈ mkB x ↔ (∃ i,i < x.Phis.length ∧ n = (ix x.Phis i).Dst) ∨ ∃ i,i < x.Ins.length ∧ n ∈ makes3 (ix x.Ins i) := by
 unfold mkB
 rw [List.mem_append]
 refine or_congr ⟨fun h => ?_,fun ⟨i,h1,h2⟩ => ?_⟩ ⟨fun h => ?_,fun ⟨i,h1,h2⟩ => ?_⟩
 · obtain ⟨p,h1,rfl⟩ := List.mem_map.1 h
   obtain ⟨i,hi,e⟩ := List.getElem_of_mem h1
   exact ⟨i,hi,by rw [ix_eq hi,e]⟩
 · rw [h2]; exact List.mem_map.2 ⟨_,ix_mem h1,rfl⟩
 · obtain ⟨p,h1,h2⟩ := List.mem_flatMap.1 h
   obtain ⟨i,hi,e⟩ := List.getElem_of_mem h1
   exact ⟨i,hi,by rw [ix_eq hi,e]; exact h2⟩
 · exact List.mem_flatMap.2 ⟨_,ix_mem h1,h2⟩
theorem bkA_no {bs : List D.Block} {n : Int} : ∀ {k : Nat},lkM (bkA bs k) n = none ↔ ∀ b,b < k → n ∉ mkB (ix bs b)
 | 0 => by simp [bkA,lkM]
 | k + 1 => by
   have ih := bkA_no (bs := bs) (n := n) (k := k)
   rw [bkA,inA_no,phA_no,ih]
   constructor
   · rintro ⟨⟨h1,h2⟩,h3⟩ b hb h4
     rcases Nat.lt_or_ge b k with h5 | h5
     · exact h1 b h5 h4
     · rw [show b = k by omega] at h4
       rcases mkB_ix.1 h4 with ⟨i,h6,h7⟩ | ⟨i,h6,h7⟩
       · exact h2 i h6 h7
       · exact h3 i h6 h7
   · intro h
     refine ⟨⟨fun b hb => h b (by omega),fun i hi e => h k (by omega) (mkB_ix.2 (.inl ⟨i,hi,e⟩))⟩,fun i hi e => h k (by omega) (mkB_ix.2 (.inr ⟨i,hi,e⟩))⟩
def PosAt (bs : List D.Block) (v : Int) (wb : Nat) (wp : Int) : Prop := wb < bs.length ∧ ((∃ i,i < (ix bs wb).Phis.length ∧ v = (ix (ix bs wb).Phis i).Dst ∧ wp = -1 - (i : Int)) ∨ ∃ i,i < (ix bs wb).Ins.length ∧ v ∈ makes3 (ix (ix bs wb).Ins i) ∧ wp = (i : Int))
structure Once (bs : List D.Block) : Prop where
 nd : ∀ j,(mkB (ix bs j)).Nodup
 dj : ∀ i j,i ≠ j → ∀ r ∈ mkB (ix bs i),r ∉ mkB (ix bs j)
theorem nodup_flat {α β : Type} [Inhabited α] {f : α → List β} : ∀ {l : List α},(l.flatMap f).Nodup → ∀ {i j : Nat},i < l.length → j < l.length → i ≠ j → ∀ x ∈ f (ix l i),x ∉ f (ix l j)
 | [],_,i,_,hi,_,_ => by cases hi
 | a :: l,h,i,j,hi,hj,hij => by
   rw [List.flatMap_cons,List.nodup_append] at h
   obtain ⟨h1,h2,h3⟩ := h
   intro x hx hx2
   have fl : ∀ {k : Nat},k < l.length → x ∈ f (ix l k) → x ∈ l.flatMap f := fun hk hx => List.mem_flatMap.2 ⟨_,ix_mem hk,hx⟩
   cases i with
   | zero =>
     cases j with
     | zero => exact hij rfl
     | succ j =>
       rw [ix_zero] at hx; rw [ix_cons] at hx2
       exact h3 x hx x (fl (by simpa using hj) hx2) rfl
   | succ i =>
     rw [ix_cons] at hx
     cases j with
     | zero => rw [ix_zero] at hx2; exact h3 x hx2 x (fl (by simpa using hi) hx) rfl
     | succ j => rw [ix_cons] at hx2; exact nodup_flat h2 (by simpa using hi) (by simpa using hj) (by omega) x hx hx2
theorem Once.phi {bs : List D.Block} (h : Once bs) {b i : Nat} (hi : i < (ix bs b).Phis.length) : lkM (phA b (ix bs b).Phis (bkA bs b) i) (ix (ix bs b).Phis i).Dst = none := by
 have hm : (ix (ix bs b).Phis i).Dst ∈ mkB (ix bs b) := mkB_ix.2 (.inl ⟨i,hi,rfl⟩)
 have hn := (List.nodup_append.1 (h.nd b)).1
 refine phA_no.2 ⟨bkA_no.2 fun c hc h1 => h.dj b c (by omega) _ hm h1,fun j hj e => ?_⟩
 have := nodup_inj hn (i := i) (j := j) (by simpa using hi) (by simp; omega) (by rw [List.getElem_map,List.getElem_map,← ix_eq hi,← ix_eq (show j < _ by omega)]; exact e)
 omega
theorem Once.ins {bs : List D.Block} (h : Once bs) {b i : Nat} (hi : i < (ix bs b).Ins.length) {n : Int} (hn : n ∈ makes3 (ix (ix bs b).Ins i)) : lkM (inA b (ix bs b).Ins (phA b (ix bs b).Phis (bkA bs b) (ix bs b).Phis.length) i) n = none := by
 have hm : n ∈ mkB (ix bs b) := mkB_ix.2 (.inr ⟨i,hi,hn⟩)
 obtain ⟨h1,h2,h3⟩ := List.nodup_append.1 (h.nd b)
 refine inA_no.2 ⟨phA_no.2 ⟨bkA_no.2 fun c hc h4 => h.dj b c (by omega) _ hm h4,fun j hj e => ?_⟩,fun j hj e => ?_⟩
 · exact h3 n (by rw [e]; exact List.mem_map.2 ⟨_,ix_mem hj,rfl⟩) n (List.mem_flatMap.2 ⟨_,ix_mem hi,hn⟩) rfl
 · exact nodup_flat h2 hi (by omega) (show i ≠ j by omega) n hn e
theorem Once.mks {bs : List D.Block} (h : Once bs) {b i : Nat} : (makes3 (ix (ix bs b).Ins i)).Nodup := by
 rcases Nat.lt_or_ge i (ix bs b).Ins.length with hi | hi
 · have h2 := (List.nodup_append.1 (h.nd b)).2.1
   have : ∀ {l : List D.Ins},(l.flatMap makes3).Nodup → ∀ x ∈ l,(makes3 x).Nodup := by
     intro l
     induction l with
     | nil => intro _ x hx; cases hx
     | cons a l ih =>
       intro h x hx
       rw [List.flatMap_cons,List.nodup_append] at h
       rcases List.mem_cons.1 hx with e | e
       · subst e; exact h.1
       · exact ih h.2.1 x e
   exact this h2 _ (ix_mem hi)
 · rw [ix_out (l := (ix bs b).Ins) hi]; exact (by decide : (makes3 (default : D.Ins)).Nodup)
theorem Once.at {bs : List D.Block} (h : Once bs) {v : Int} {wb : Nat} {wp : Int} (hp : PosAt bs v wb wp) : ∀ k,wb < k → lkM (bkA bs k) v = some (wv wb wp)
 | 0,hk => absurd hk (Nat.not_lt_zero _)
 | k + 1,hk => by
   obtain ⟨h1,h2⟩ := hp
   have hm : v ∈ mkB (ix bs wb) := by
     rcases h2 with ⟨i,h3,h4,_⟩ | ⟨i,h3,h4,_⟩
     · exact mkB_ix.2 (.inl ⟨i,h3,h4⟩)
     · exact mkB_ix.2 (.inr ⟨i,h3,h4⟩)
   have up : ∀ (l : List D.Ins) (b : Int) (L : List (Int × Value)) (m : Nat),(∀ i,i < m → v ∉ makes3 (ix l i)) → lkM (inA b l L m) v = lkM L v := by
     intro l b L m
     induction m with
     | zero => exact fun _ => rfl
     | succ m ih => exact fun h9 => by rw [inA,lk_insA,if_neg (h9 m (by omega)),ih (fun i hi => h9 i (by omega))]
   have upP : ∀ (l : List D.Phi) (b : Int) (L : List (Int × Value)) (m : Nat),(∀ i,i < m → v ≠ (ix l i).Dst) → lkM (phA b l L m) v = lkM L v := by
     intro l b L m
     induction m with
     | zero => exact fun _ => rfl
     | succ m ih => exact fun h9 => by rw [phA,lk_insA,if_neg (by simpa using h9 m (by omega)),ih (fun i hi => h9 i (by omega))]
   rcases Nat.lt_or_ge wb k with h3 | h3
   · have hno : v ∉ mkB (ix bs k) := h.dj wb k (by omega) v hm
     rw [bkA,up _ _ _ _ (fun i hi e => hno (mkB_ix.2 (.inr ⟨i,hi,e⟩))),upP _ _ _ _ (fun i hi e => hno (mkB_ix.2 (.inl ⟨i,hi,e⟩)))]
     exact h.at ⟨h1,h2⟩ k h3
   · have e : wb = k := by omega
     subst e
     obtain ⟨n1,n2,n3⟩ := List.nodup_append.1 (h.nd wb)
     rw [bkA]
     rcases h2 with ⟨i,h3,h4,h5⟩ | ⟨i,h3,h4,h5⟩
     · rw [up _ _ _ _ (fun j hj e => n3 v (by rw [h4]; exact List.mem_map.2 ⟨_,ix_mem h3,rfl⟩) v (List.mem_flatMap.2 ⟨_,ix_mem hj,e⟩) rfl)]
       have : ∀ m,i < m → m ≤ (ix bs wb).Phis.length → lkM (phA wb (ix bs wb).Phis (bkA bs wb) m) v = some (wv wb wp) := by
         intro m
         induction m with
         | zero => intro hm; cases hm
         | succ m ih =>
           intro hm hl
           rw [phA,lk_insA]
           rcases Nat.lt_or_ge i m with h6 | h6
           · rw [if_neg,ih h6 (by omega)]
             intro h7
             simp at h7
             have := nodup_inj n1 (i := i) (j := m) (by simpa using h3) (by simp; omega) (by rw [List.getElem_map,List.getElem_map,← ix_eq h3,← ix_eq (show m < _ by omega)]; exact h4.symm.trans h7)
             omega
           · have e : m = i := by omega
             subst e
             rw [if_pos (by simp [h4]),h5]
       exact this _ h3 (Nat.le_refl _)
     · have : ∀ m,i < m → m ≤ (ix bs wb).Ins.length → lkM (inA wb (ix bs wb).Ins (phA wb (ix bs wb).Phis (bkA bs wb) (ix bs wb).Phis.length) m) v = some (wv wb wp) := by
         intro m
         induction m with
         | zero => intro hm; cases hm
         | succ m ih =>
           intro hm hl
           rw [inA,lk_insA]
           rcases Nat.lt_or_ge i m with h6 | h6
           · rw [if_neg (fun h7 => nodup_flat n2 h3 (show m < _ by omega) (show i ≠ m by omega) v h4 h7),ih h6 (by omega)]
           · have e : m = i := by omega
             subst e
             rw [if_pos h4,h5]
       exact this _ h3 (Nat.le_refl _)
def shM (k : Int) : Option (Int × Int × Int × Int) := if k = 1 then some (0,0,1,1) else if k = 2 then some (1,1,2,2) else if k = 3 then some (1,1,2,65) else if k = 4 then some (0,1,0,0) else if k = 5 then some (0,0,0,0) else none
def US (f : D.Func) (v : Int) (b : Nat) (at' : Int) : Prop := (0 ≤ v ∧ v < f.Params) ∨ ∃ wb wp,PosAt f.Blocks v wb wp ∧ ((wb = b ∧ (wp < at' ∨ wp < 0)) ∨ (wb ≠ b ∧ ¬ RB (prG (graphF f)) wb b))
def cntF3 (bs : List D.Block) : Nat := (bs.map (fun b => b.Phis.length + b.Ins.length)).sum
structure GoodF (f : D.Func) : Prop where
 par : 0 ≤ f.Params ∧ f.Params ≤ 4
 len : 0 < f.Blocks.length ∧ f.Blocks.length ≤ 512
 cnt : f.Blocks.length + cntF3 f.Blocks ≤ 4096
 once : Once f.Blocks
 rng : ∀ b,b < f.Blocks.length → ∀ r ∈ mkB (ix f.Blocks b),f.Params ≤ r ∧ r ≤ 8191
 op : ∀ b,b < f.Blocks.length → ∀ i ∈ (ix f.Blocks b).Ins,(1 ≤ i.Op ∧ i.Op ≤ 18) ∧ (operM i.Op).1 ≤ (i.Args.length : Int) ∧ (i.Args.length : Int) ≤ (operM i.Op).2
 tm : ∀ b,b < f.Blocks.length → ∃ s,shM (ix f.Blocks b).Term.Kind = some s ∧ (s.1 ≤ ((ix f.Blocks b).Term.Args.length : Int) ∧ ((ix f.Blocks b).Term.Args.length : Int) ≤ s.2.1) ∧ (s.2.2.1 ≤ ((ix f.Blocks b).Term.To.length : Int) ∧ ((ix f.Blocks b).Term.To.length : Int) ≤ s.2.2.2)
 to : ∀ b,b < f.Blocks.length → ∀ t ∈ (ix f.Blocks b).Term.To,1 ≤ t ∧ t < f.Blocks.length
 reach : ∀ b,b < f.Blocks.length → ∃ w,RB (prG (graphF f)) w b
 fr : ∀ b,b < f.Blocks.length → ∀ p ∈ (ix f.Blocks b).Phis,0 < b ∧ p.In.map (fun x => x.From) = ix (predsG (graphF f)) b
 ui : ∀ b,b < f.Blocks.length → ∀ i,i < (ix f.Blocks b).Ins.length → ∀ v ∈ (ix (ix f.Blocks b).Ins i).Args,US f v b i
 ut : ∀ b,b < f.Blocks.length → ∀ v ∈ (ix f.Blocks b).Term.Args,US f v b (ix f.Blocks b).Ins.length
 up : ∀ b,b < f.Blocks.length → ∀ p ∈ (ix f.Blocks b).Phis,∀ x ∈ p.In,US f x.Val x.From.toNat (ix f.Blocks x.From.toNat).Ins.length
theorem ins_free {b p : Int} {l : List Int} {L : List (Int × Value)} {k : Nat} (hk : k < l.length) (hn : l.Nodup) (hL : ∀ n ∈ l,lkM L n = none) : lkM (insA b p (l.take k) L) (ix l k) = none := by
 rw [lk_insA,if_neg]
 · exact hL _ (ix_mem hk)
 · intro h
   obtain ⟨j,hj,e⟩ := List.getElem_of_mem h
   rw [List.getElem_take,ix_eq hk] at e
   rw [List.length_take] at hj
   have := nodup_inj hn (show j < l.length by omega) hk e
   omega
theorem ins_nx {b p : Int} {l : List Int} {L : List (Int × Value)} {k : Nat} (hk : k < l.length) : insA b p (l.take (k + 1)) L = upM (insA b p (l.take k) L) (ix l k) (wv b p) := by rw [take_ix hk,insA_app]
section
variable {f : D.Func} {b i : Nat}
theorem within_of {n a c : Int} (h : a ≤ n ∧ n ≤ c) : withinM n a c = true := by unfold withinM; simp [h]
theorem GoodF.pha (h : GoodF f) (hb : b < f.Blocks.length) (hi : i < (ix f.Blocks b).Phis.length) : (∀ n ∈ [(ix (ix f.Blocks b).Phis i).Dst],withinM n f.Params 8191 = true) ∧ [(ix (ix f.Blocks b).Phis i).Dst].Nodup ∧ ∀ n ∈ [(ix (ix f.Blocks b).Phis i).Dst],lkM (phA b (ix f.Blocks b).Phis (bkA f.Blocks b) i) n = none :=
 ⟨fun n hn => by simp at hn; subst hn; exact within_of (h.rng b hb _ (mkB_ix.2 (.inl ⟨i,hi,rfl⟩))),by simp,fun n hn => by simp at hn; subst hn; exact h.once.phi hi⟩
theorem GoodF.ina (h : GoodF f) (hb : b < f.Blocks.length) (hi : i < (ix f.Blocks b).Ins.length) : (∀ n ∈ makes3 (ix (ix f.Blocks b).Ins i),withinM n f.Params 8191 = true) ∧ (makes3 (ix (ix f.Blocks b).Ins i)).Nodup ∧ ∀ n ∈ makes3 (ix (ix f.Blocks b).Ins i),lkM (inA b (ix f.Blocks b).Ins (phA b (ix f.Blocks b).Phis (bkA f.Blocks b) (ix f.Blocks b).Phis.length) i) n = none :=
 ⟨fun n hn => within_of (h.rng b hb _ (mkB_ix.2 (.inr ⟨i,hi,hn⟩))),h.once.mks,fun n hn => h.once.ins hi hn⟩
def shL : List (Int × Value) := [(1,.agg #[.int .i64 0,.int .i64 0,.int .i64 1,.int .i64 1]),(2,.agg #[.int .i64 1,.int .i64 1,.int .i64 2,.int .i64 2]),(3,.agg #[.int .i64 1,.int .i64 1,.int .i64 2,.int .i64 65]),(4,.agg #[.int .i64 0,.int .i64 1,.int .i64 0,.int .i64 0]),(5,.agg #[.int .i64 0,.int .i64 0,.int .i64 0,.int .i64 0])]
theorem shL_at {k : Int} {s : Int × Int × Int × Int} (h : shM k = some s) : lkM shL k = some (.agg #[.int .i64 s.1,.int .i64 s.2.1,.int .i64 s.2.2.1,.int .i64 s.2.2.2]) := by
 unfold shM at h
 split at h
 · rename_i e; subst e; injection h with h; subst h; rfl
 split at h
 · rename_i e; subst e; injection h with h; subst h; rfl
 split at h
 · rename_i e; subst e; injection h with h; subst h; rfl
 split at h
 · rename_i e; subst e; injection h with h; subst h; rfl
 split at h
 · rename_i e; subst e; injection h with h; subst h; rfl
 · cases h
end
theorem use_ok {f : D.Func} {idom : List Int} {v block at' : Int} (hb : 0 ≤ block ∧ block < f.Blocks.length) (hD : DomG (graphF f) idom) {wb : Nat} {wp : Int} (hp : PosAt f.Blocks v wb wp) (h : (wb = block.toNat ∧ (wp < at' ∨ wp < 0)) ∨ (wb ≠ block.toNat ∧ ¬ RB (prG (graphF f)) wb block.toNat)) :
   ((wb : Int) = block ∧ (wp < at' ∨ wp < 0)) ∨ (¬ (wb : Int) = block ∧ dominM idom wb block = true) := by
 rcases h with ⟨h1,h2⟩ | ⟨h1,h2⟩
 · exact .inl ⟨by omega,h2⟩
 · refine .inr ⟨by omega,?_⟩
   have hl : (graphF f).length = f.Blocks.length := by simp [graphF]
   have := hD.2 wb block.toNat (by rw [hl]; exact hp.1) (by rw [hl]; omega) (.inr h2)
   rwa [Int.toNat_of_nonneg hb.1] at this
def idxA (l : List Int) (v : Int) : Nat → Nat → Int
 | 0,_ => -1
 | n + 1,k => if v = ix l k then k else idxA l v n (k + 1)
def idzM (l : List Int) (v : Int) : Int := idxA l v l.length 0
def conM (l : List Int) (v : Int) : Bool := decide (0 ≤ idzM l v)
theorem idxA_mem {l : List Int} {v : Int} : ∀ (n k : Nat),(∃ j,k ≤ j ∧ j < k + n ∧ v = ix l j) → 0 ≤ idxA l v n k
 | 0,k,⟨j,h1,h2,_⟩ => by omega
 | n + 1,k,⟨j,h1,h2,h3⟩ => by
   rw [idxA]; split
   · omega
   · rename_i h
     exact idxA_mem n (k + 1) ⟨j,by rcases Nat.lt_or_ge k j with h4 | h4; exact h4; exact absurd (by rw [show k = j by omega]; exact h3) h,by omega,h3⟩
theorem con_mem {l : List Int} {v : Int} (h : v ∈ l) : conM l v = true := by
 obtain ⟨j,hj,e⟩ := List.getElem_of_mem h
 have := idxA_mem (l := l) (v := v) l.length 0 ⟨j,Nat.zero_le _,by omega,by rw [ix_eq hj]; exact e.symm⟩
 unfold conM idzM; simpa using this
theorem idxA_no {l : List Int} {v : Int} {n k : Nat} (hk : k < n) (h : ¬ v = ix l k) : idxA l v (n - k) k = idxA l v (n - (k + 1)) (k + 1) := by
 rw [show n - k = (n - (k + 1)) + 1 by omega,idxA,if_neg h]
theorem idxA_yes {l : List Int} {v : Int} {n k : Nat} (hk : k < n) (h : v = ix l k) : idxA l v (n - k) k = k := by
 rw [show n - k = (n - (k + 1)) + 1 by omega,idxA,if_pos h]
section
variable {f : D.Func} {b i j : Nat}
theorem graph_len (f : D.Func) : (graphF f).length = f.Blocks.length := by simp [graphF]
theorem GoodF.gn (h : GoodF f) : 0 < (graphF f).length ∧ (graphF f).length ≤ 512 := by rw [graph_len]; exact h.len
theorem GoodF.gw (h : GoodF f) : ∀ b,b < (graphF f).length → ∃ w,RB (fun q t => (t : Int) ∈ ix (cleanM (graphF f)) q) w b := fun b hb => h.reach b (by rw [graph_len] at hb; exact hb)
theorem GoodF.in1 (h : GoodF f) (hb : b < f.Blocks.length) (hi : i < (ix f.Blocks b).Phis.length) : 0 < b ∧ (ix (ix f.Blocks b).Phis i).In.length = (ix (predsG (graphF f)) b).length := by
 have h1 := h.fr b hb _ (ix_mem hi)
 exact ⟨h1.1,by have := congrArg List.length h1.2; simpa using this⟩
theorem GoodF.in2 (h : GoodF f) (hb : b < f.Blocks.length) (hi : i < (ix f.Blocks b).Phis.length) (hj : j < (ix (ix f.Blocks b).Phis i).In.length) : (ix (ix (ix f.Blocks b).Phis i).In j).From = ix (ix (predsG (graphF f)) b) j ∧ 0 ≤ (ix (ix (ix f.Blocks b).Phis i).In j).From ∧ (ix (ix (ix f.Blocks b).Phis i).In j).From < f.Blocks.length := by
 have h1 := h.fr b hb _ (ix_mem hi)
 have h2 := (h.in1 hb hi).2
 have h3 : (ix (ix (ix f.Blocks b).Phis i).In j).From = ix (ix (predsG (graphF f)) b) j := by rw [← h1.2,ix_mapG hj]
 have h4 := preds_rng (ix_mem (l := ix (predsG (graphF f)) b) (i := j) (by omega))
 rw [graph_len,← h3] at h4
 exact ⟨h3,h4⟩
end
theorem cntF3_nx {bs : List D.Block} {k : Nat} (h : k < bs.length) : cntF3 (bs.take (k + 1)) = cntF3 (bs.take k) + ((ix bs k).Phis.length + (ix bs k).Ins.length) := by
 unfold cntF3; rw [take_ix h]; simp
theorem cntF3_le (bs : List D.Block) (k : Nat) : cntF3 (bs.take k) ≤ cntF3 bs := by
 have h := List.take_append_drop k bs
 have : cntF3 bs = cntF3 (bs.take k) + cntF3 (bs.drop k) := by
   unfold cntF3; conv => lhs; rw [← h]
   rw [List.map_append,List.sum_append]
 omega
theorem E78 : Ent Try.prog 78 := ⟨_,Try.func78,by kernel_rfl,by kernel_rfl⟩
theorem E79 : Ent Try.prog 79 := ⟨_,Try.func79,by kernel_rfl,by kernel_rfl⟩
theorem F34_0 : Fld Try.prog 34 0 0 := ⟨_,_,Try.underlying34,rfl,rfl,1,(by unfold Sz; kernel_rfl),by decide⟩
theorem F34_1 : Fld Try.prog 34 1 1 := ⟨_,_,Try.underlying34,rfl,rfl,1,(by unfold Sz; kernel_rfl),by decide⟩
theorem F34_2 : Fld Try.prog 34 2 2 := ⟨_,_,Try.underlying34,rfl,rfl,1,(by unfold Sz; kernel_rfl),by decide⟩
theorem I3 : (Try.prog.info? 3).map (fun i => (i.zero,i.size,i.bytes)) = some (some (.int .i64 0),1,8) := by kernel_rfl
theorem within_ct (n : Int) (a : Int) (b : Int) : Tv Try.prog 54 #[.int .i64 n,.int .i64 a,.int .i64 b] [] [] (.bool (withinM n a b)) := by
 refine jenter (args := [.int .i64 n,.int .i64 a,.int .i64 b]) Try.func54 rfl rfl rfl fun w0 X => ?_
 refine jq (jr (ja Z (jn (jx (jq (jr (jm Z (jm Z (js (jgeq Z Z) (jm Z (jg Z Z (.t _) (fun hg => jmv Z) ?_)))))))))))
 refine jg Z Z (.t _) (fun hg => jmv Z) (jg Z Z (.t _) (fun hg => jleq (evg Z hg) (evg Z hg)) (js (jand Z Z) (ja Z (jn (jx (jrt ?_))))))
 exact jrB Z Z (by unfold withinM; rfl)
theorem oper_ct (op : Int) : Tv Try.prog 58 #[.int .i64 op] [] [] (.tuple #[.int .i64 ((operM op).1),.int .i64 ((operM op).2)]) := by
 refine jenter (args := [.int .i64 op]) Try.func58 rfl rfl rfl fun w0 X => ?_
 refine jq (jr (ja Z (ja Z (jn (jx (jq (jq (jr (jm Z (jn (jx ?_)))))))))))
 refine jb (jq (jr (js (jeql Z Z) (ja Z (jn (jx ?_))))))
 refine jif Z (fun hc1 => ?_) (fun hc1 => ?_)
 refine jq (jr (ja Z (ja Z (jn (jx (jrt (jbr (jtr ?_))))))))
 exact jr2 Z Z Z () (tII (by first | (simp [operM, *]; done) | (unfold operM; (repeat' split) <;> first | rfl | (exfalso; omega) | simp_all))) dn (fun _ _ => kn)
 refine jq (jr (js (jeql Z Z) (ja Z (jn (jx ?_)))))
 refine jif Z (fun hc2 => ?_) (fun hc2 => ?_)
 refine jq (jr (ja Z (ja Z (jn (jx (jrt (jbr (jtr ?_))))))))
 exact jr2 Z Z Z () (tII (by first | (simp [operM, *]; done) | (unfold operM; (repeat' split) <;> first | rfl | (exfalso; omega) | simp_all))) dn (fun _ _ => kn)
 refine jq (jr (js (jeql Z Z) (ja Z (jn (jx ?_)))))
 refine jif Z (fun hc3 => ?_) (fun hc3 => ?_)
 refine jq (jr (ja Z (ja Z (jn (jx (jrt (jbr (jtr ?_))))))))
 exact jr2 Z Z Z () (tII (by first | (simp [operM, *]; done) | (unfold operM; (repeat' split) <;> first | rfl | (exfalso; omega) | simp_all))) dn (fun _ _ => kn)
 refine jsk (jbn (jx (jq (jr (ja Z (ja Z (jn (jx (jrt ?_)))))))))
 exact jr2 Z Z Z () (tII (by first | (simp [operM, *]; done) | (unfold operM; (repeat' split) <;> first | rfl | (exfalso; omega) | simp_all))) dn (fun _ _ => kn)
theorem kMakes_ct {a0 : Value} {i : D.Ins} : Td Try.prog 59 #[vIns i a0] [da rIns (vIns i a0) i] [] (rL (rI .i64)) (makes3 i) := by
 refine jenter (args := [vIns i a0]) Try.func59 rfl rfl rfl fun w0 X => ?_
 refine jq (jr (jbox Z Z fun g1 => ja Z (jn (jx (jq (jq (jr (js (jf F34_0 Z) (js (jl k0 O3 Z Z) (jn ?_))))))))))
 refine jx (jb (jq (jr (js (jeql Z Z) (ja Z (jn (jx ?_)))))))
 refine jif Z (fun hc1 => ?_) (fun hc1 => ?_)
 refine jq (jr (ja Z (jn (jx (jrt (jbr (jtr ?_)))))))
 exact jrD Z Z (by first | (simp [makes3, *]; done) | (unfold makes3; (repeat' split) <;> first | rfl | (exfalso; omega) | simp_all)) wN
 refine jq (jr (js (jeql Z Z) (ja Z (jn (jx ?_)))))
 refine jif Z (fun hc2 => ?_) (fun hc2 => ?_)
 refine jq (jr (js (jf F34_1 Z) (js (jl k0 O3 Z Z) (js (jf F34_2 Z) (js (jl k0 O3 Z Z) (jlit (r := (rI .i64)) (l := [i.Dst,i.Two]) U32 I3 (by decide) Z Z Z (lV Z Z (wI (rIns.W_Dst d0)) (lV Z Z (wI (rIns.W_Two d0)) ln)) fun g13 => ja Z (jn (jx (jrt (jbr ?_))))))))))
 refine jtr (qfz k0 (by (try simp) <;> omega) ?_)
 exact jrD Z Z (by first | (simp [makes3, *]; done) | (unfold makes3; (repeat' split) <;> first | rfl | (exfalso; omega) | simp_all)) d0
 refine jsk (jbn (jx (jq (jr (js (jf F34_1 Z) (js (jl k0 O3 Z Z) (jlit (r := (rI .i64)) (l := [i.Dst]) U32 I3 (by decide) Z Z Z (lV Z Z (wI (rIns.W_Dst d0)) ln) fun g16 => ja Z (jn (jx (jrt ?_))))))))))
 refine qfz k0 (by (try simp) <;> omega) ?_
 exact jrD Z Z (by first | (simp [makes3, *]; done) | (unfold makes3; (repeat' split) <;> first | rfl | (exfalso; omega) | simp_all)) d0
theorem common_ct {a0 : Value} {idom : List Int} {a1 : Value} {num : List Int} (a : Int) (b : Int) (hok : ComOK idom num a b) : Tv Try.prog 76 #[a0,a1,.int .i64 a,.int .i64 b] [dv (rL (rI .i64)) a0 idom,dv (rL (rI .i64)) a1 num] [] (.int .i64 (comM idom num a b)) := by
 refine jenter (args := [a0,a1,.int .i64 a,.int .i64 b]) Try.func76 rfl rfl rfl fun w0 X => ?_
 obtain ⟨n,pr,hg,hnl,hv,hc0⟩ := hok
 refine jq (jr (ja Z (jn (jx (jsc (jq (jlab (jx (jq (jb ?_))))))))))
 refine jlp (u3 fun (f : Nat) (a9 : Int) (b9 : Int) => ⟨CO n num idom a b a9 b9 ∧ comM idom num a b = comF idom num f a9 b9 ∧ (ix num a9.toNat).toNat + (ix num b9.toNat).toNat < f,[dv (rL (rI .i64)) a0 idom,dv (rL (rI .i64)) a1 num],[],[(0,a0),(1,a1),(2,.int .i64 a9),(3,.int .i64 b9),(8,.int .i64 0)],f⟩) ((ix num a.toNat).toNat + (ix num b.toNat).toNat + 1,a,b) ⟨hc0,rfl,Nat.lt_succ_self _⟩ (dc d0 (dc d1 dn)) kn ⟨Z,Z,Z,Z,Z,trivial⟩ ?_
 rintro ⟨f,a9,b9⟩; dsimp only [u3]; rintro ⟨hco,hcm,hfu⟩
 have ra := hco.ra
 have rb := hco.rb
 have na := (hg.rng a9.toNat (by omega))
 have nb := (hg.rng b9.toNat (by omega))
 have hil := hv.len
 refine jb (jb (jq (jstl Mixed (by kernel_rfl) (jt (jmv Z) (jt (jmv Z) (tdq d1 fun q1 w1 => jt (jix (i := (Int.toNat a9)) U32 Z3 d1 Z Z (by omega) (by omega)) (jt (jlI (dix d1 (Int.toNat a9) (by omega)) O3 Z) (jt (jmv Z) (jt (jmv Z) (jt (jix (i := (Int.toNat b9)) U32 Z3 d1 Z Z (by omega) (by omega)) ?_))))))))))
 refine jt (jlI (dix d1 (Int.toNat b9) (by omega)) O3 Z) (jt (jgtr Z Z) (jt (jas Z) (jdn (jx ?_))))
 refine jif Z (fun hc1 => ?_) (fun hc1 => ?_)
 refine jr (jm Z (jm Z (jdq d0 fun q2 w2 => js (jix (i := (Int.toNat a9)) U32 Z3 d0 Z Z (by omega) (by omega)) (js (jlI (dix d0 (Int.toNat a9) (by omega)) O3 Z) (ja Z (jn (jbn (jbn ?_))))))))
 exact jag (f - 1,ix idom (Int.toNat a9),b9) ⟨(hco.left hg hv (by omega)).1,by rw [hcm,comF_l (by omega) (by omega)],by have := (hco.left hg hv (by omega)).2; have := (hco.left hg hv (by omega)).1.ra; have := hg.rng _ (show (ix idom a9.toNat).toNat < n by omega); dsimp only; omega⟩ (dc d0 (dc d1 dn)) kn ⟨Z,Z,Z,Z,Z,trivial⟩
 refine jq (jstl Mixed (by kernel_rfl) (jt (jmv Z) (jt (jmv Z) (jt (jix (i := (Int.toNat b9)) U32 Z3 d1 Z Z (by omega) (by omega)) (jt (jlI (dix d1 (Int.toNat b9) (by omega)) O3 Z) (jt (jmv Z) (jt (jmv Z) (jt (jix (i := (Int.toNat a9)) U32 Z3 d1 Z Z (by omega) (by omega)) (jt (jlI (dix d1 (Int.toNat a9) (by omega)) O3 Z) (jt (jgtr Z Z) (jt (jas Z) ?_)))))))))))
 refine jdn (jx ?_)
 refine jif Z (fun hc2 => ?_) (fun hc2 => ?_)
 refine jr (jm Z (jm Z (jdq d0 fun q3 w3 => js (jix (i := (Int.toNat b9)) U32 Z3 d0 Z Z (by omega) (by omega)) (js (jlI (dix d0 (Int.toNat b9) (by omega)) O3 Z) (ja Z (jn (jbn (jbn ?_))))))))
 exact jag (f - 1,a9,ix idom (Int.toNat b9)) ⟨(hco.right hg hv (by omega)).1,by rw [hcm,comF_r (by omega) (by omega)],by have := (hco.right hg hv (by omega)).2; have := (hco.right hg hv (by omega)).1.rb; have := hg.rng _ (show (ix idom b9.toNat).toNat < n by omega); dsimp only; omega⟩ (dc d0 (dc d1 dn)) kn ⟨Z,Z,Z,Z,Z,trivial⟩
 refine jex (jbo (jbo (jtx (jbh (jx (jq (jr (jm Z (ja Z (jn (jx ?_)))))))))))
 refine jrt (jso ?_)
 exact jrI Z Z (by rw [hcm,comF_e (by omega) (by omega)])
theorem kept_ct {a0 : Value} {row : List Int} (n : Int) : Tg Try.prog 70 #[a0,.int .i64 n] [dv (rL (rI .i64)) a0 row] [] (rI .i64) 3 (keptM row n) := by
 refine jenter (args := [a0,.int .i64 n]) Try.func70 rfl rfl rfl fun w0 X => ?_
 refine jq (jr (ja Z (jn (jx (jq (jr (ja Z (jn (jx (jq (jq ?_)))))))))))
 refine jr (jm Z (jdq d0 fun q1 w1 => js (jln U32 d0 Z) (jm Z (jn (jx (jb (cnl (r := (rI .i64)) (E := 3) ?_)))))))
 refine jlp (u3 fun (k : Nat) (fs : List Int) (vo : Value) => ⟨k ≤ row.length ∧ fs = (row.take k).filter (fun b => decide (0 ≤ b) && decide (b < n)),[dv (rL (rI .i64)) a0 row],[gl X.n (rI .i64) 3 vo fs],[(1,.int .i64 n),(4,.slice none 0 0),(5,vo),(8,a0),(9,.int .i64 (↑(List.length row))),(10,.int .i64 (↑k))],row.length - k⟩) (0,[],.slice none 0 0) ⟨by dsimp only; omega,rfl⟩ (dc d0 dn) (kc k0 kn) ⟨Z,Z,Z,Z,Z,eqI (by omega),trivial⟩ ?_
 rintro ⟨k,fs,vo⟩; dsimp only [u3]; rintro ⟨hk,hfs⟩
 refine cgo k0 fun w2 => ?_
 have hfl : fs.length ≤ k := by rw [hfs]; exact Nat.le_trans (List.length_filter_le _ _) (by rw [List.length_take]; omega)
 refine jq (jr (js (jlss Z Z) (jn (jx (jq ?_)))))
 refine jif Z (fun hc1 => ?_) (fun hc1 => ?_)
 refine jsk (jx (jq (jb (jq (jr (js (jix U32 Z3 d0 Z Z Z (by omega)) (js (jlI (dix d0 k (by omega)) O3 Z) (ja Z (jn (jx (jq ?_)))))))))))
 refine jr (jm Z (js (jgeq Z Z) (jm Z (jg Z Z (.t _) (fun hg => jmv Z) (jg Z Z (.t _) (fun hg => jmv Z) (jg Z Z (.t _) (fun hg => jlss (evg Z hg) (evg Z hg)) (js (jand Z Z) (jn (jx ?_)))))))))
 refine jif Z (fun hc2 => ?_) (fun hc2 => ?_)
 refine jr (jm Z (jm Z (japv U32 I3 (by decide) Z Z k0 Z (wI (wad (dix d0 k (by omega)))) (by omega) (fun _ => Z) fun v24 _ w3 => ja Z (jn (jbn (jx (jr (js (jadd Z Z (by omega)) (jm Z (jn ?_))))))))))
 exact jag (k + 1,fs ++ [ix row k],v24) ⟨by dsimp only; omega,by dsimp only; rw [filt_nx (by omega),hfs,if_pos (by simp; omega)]⟩ (dc d0 dn) (kc k0 kn) ⟨Z,Z,Z,Z,Z,eqI (by omega),trivial⟩
 refine jsk (jbn (jx (jr (js (jadd Z Z (by omega)) (jm Z (jn ?_))))))
 exact jag (k + 1,fs,vo) ⟨by dsimp only; omega,by dsimp only; rw [filt_nx (by omega),hfs,if_neg (by simp; omega),List.append_nil]⟩ (dc d0 dn) (kc k0 kn) ⟨Z,Z,Z,Z,Z,eqI (by omega),trivial⟩
 refine jex (jtx (jtx (jbh (jx (jq (jr (jm Z (jc E78 Z Z (sortT (by omega)) dn (kc k0 kn) (fun _ => p0) (fun _ => p1) fun _ => jn (jx (jq ?_))))))))))
 refine jr (jm Z (jc E79 Z Z (compT (by unfold sortM; rw [List.length_mergeSort]; omega)) dn (kc k0 kn) (fun _ => p0) (fun _ => p1) fun v29 => jgo k0 fun w4 => ja Z (jn (jx (jrt ?_)))))
 exact jrG Z Z (by rw [keptM,hfs,List.take_of_length_le (by omega)]) k0
end Go.Proofs.Ytmfkkodnghambaa
