/- Lemmas that the claim is made of. Conditions: each lemma names its own. -/
import Derived.Test.YtmfkkodnghambaaGreatKJ3
import Derived.Test.YtmfkkodnghambaaGreatKJ8
set_option linter.unusedSectionVars false
set_option linter.unusedSimpArgs false
set_option linter.unusedVariables false
namespace Go.Proofs.YtmfkkodnghambaaGreat
open Go.JE
inductive An (out : List Int) : Nat → Nat → Prop
 | self (v : Nat) : An out v v
 | up {x v : Nat} : 0 ≤ ix out v → An out x (ix out v).toNat → An out x v
inductive RB (pr : Nat → Nat → Prop) (w : Nat) : Nat → Prop
 | zero : w ≠ 0 → RB pr w 0
 | step {x t : Nat} : RB pr w x → pr x t → t ≠ w → RB pr w t
inductive Pt (pr : Nat → Nat → Prop) (num : List Int) (m : Int) : Nat → Nat → Prop
 | nil (v : Nat) : Pt pr num m v v
 | step {u x t : Nat} : Pt pr num m u x → pr x t → m < ix num t → Pt pr num m u t
structure GN (n : Nat) (num : List Int) (pr : Nat → Nat → Prop) : Prop where
 n0 : 0 < n
 rng : ∀ v,v < n → 0 ≤ ix num v ∧ ix num v < n
 inj : ∀ u v,u < n → v < n → ix num u = ix num v → u = v
 zero : ix num 0 = 0
 prn : ∀ q b,pr q b → q < n ∧ b < n
 fwd : ∀ b,b < n → b ≠ 0 → ∃ q,pr q b ∧ ix num q < ix num b
def pdn (out : List Int) (v : Nat) : Prop := v = 0 ∨ 0 ≤ ix out v
structure TV (n : Nat) (num out : List Int) : Prop where
 len : out.length = n
 root : ix out 0 < 0
 up : ∀ v,v < n → 0 ≤ ix out v → ix out v < n ∧ ix num (ix out v).toNat < ix num v ∧ pdn out (ix out v).toNat
section
variable {n : Nat} {num out : List Int} {pr : Nat → Nat → Prop}
theorem An.trans {x y z : Nat} (h1 : An out x y) (h2 : An out y z) : An out x z := by
 induction h2 with
 | self => exact h1
 | up h _ ih => exact .up h ih
theorem An.lt (hv : TV n num out) {x v : Nat} (h : An out x v) : v < n → x < n := by
 induction h with
 | self => exact id
 | @up v h _ ih => intro hv'; exact ih (by have := (hv.up v hv' h).1; omega)
theorem An.nu (hv : TV n num out) {x v : Nat} (h : An out x v) : v < n → ix num x ≤ ix num v ∧ (x ≠ v → ix num x < ix num v) := by
 induction h with
 | self => exact fun _ => ⟨Int.le_refl _,fun h => absurd rfl h⟩
 | @up v h _ ih =>
   intro hv'
   have h1 := hv.up v hv' h
   have h2 := ih (by omega)
   exact ⟨by omega,fun _ => by omega⟩
theorem An.pd (hv : TV n num out) {x v : Nat} (h : An out x v) : v < n → pdn out v → pdn out x := by
 induction h with
 | self => exact fun _ h => h
 | @up v h _ ih => intro hv' _; have h1 := hv.up v hv' h; exact ih (by omega) h1.2.2
theorem An.tot {x y v : Nat} (h1 : An out x v) (h2 : An out y v) : An out x y ∨ An out y x := by
 induction h1 with
 | self => exact .inr h2
 | @up v h h3 ih =>
   cases h2 with
   | self => exact .inl (.up h h3)
   | up _ h4 => exact ih h4
theorem Pt.tr {m : Int} {u v w : Nat} (h1 : Pt pr num m u v) (h2 : Pt pr num m v w) : Pt pr num m u w := by
 induction h2 with
 | nil => exact h1
 | step _ h3 h4 ih => exact .step ih h3 h4
theorem Pt.mono {m m' : Int} {u v : Nat} (h : Pt pr num m u v) (hm : m' ≤ m) : Pt pr num m' u v := by
 induction h with
 | nil => exact .nil _
 | step _ h3 h4 ih => exact .step ih h3 (by omega)
theorem Pt.rb {m : Int} {u v w : Nat} (h : Pt pr num m u v) (hr : RB pr w u) (hm : ix num w ≤ m) : RB pr w v := by
 induction h with
 | nil => exact hr
 | step _ h3 h4 ih => exact .step ih h3 (fun e => by subst e; omega)
end
structure IS (n : Nat) (num : List Int) (pr : Nat → Nat → Prop) (out : List Int) (i : Int) : Prop where
 tv : TV n num out
 fp : ∀ v,v < n → ix num v < i → pdn out v
 dm : ∀ b a,b < n → pdn out b → (a = b ∨ ¬ RB pr a b) → An out a b
 pa : ∀ b,b < n → 0 ≤ ix out b → Pt pr num (ix num (ix out b).toNat) (ix out b).toNat b
 hh : ∀ b,b < n → 0 ≤ ix out b → ∀ y,(∀ p,pr p b → pdn out p → An out y p) → An out y (ix out b).toNat
 kk : ∀ b,b < n → 0 ≤ ix out b → ∀ q,pr q b → ix num q < ix num b → (ix num b < i ∨ i ≤ ix num (ix out b).toNat) → An out (ix out b).toNat q
structure BS (out : List Int) (P : Nat → Prop) (best : Int) : Prop where
 no : best < 0 → ∀ p,P p → ¬ pdn out p
 an : 0 ≤ best → ∀ p,P p → pdn out p → An out best.toNat p
 nc : 0 ≤ best → ∀ y,(∀ p,P p → pdn out p → An out y p) → An out y best.toNat
 pd : 0 ≤ best → pdn out best.toNat
section
variable {n : Nat} {num out : List Int} {pr : Nat → Nat → Prop} {i : Int}
theorem an_pt (hs : IS n num pr out i) {b c : Nat} (h : An out b c) : c < n → Pt pr num (ix num b) b c := by
 induction h with
 | self => exact fun _ => .nil _
 | @up v h h2 ih =>
   intro hv
   have h1 := hs.tv.up v hv h
   exact (ih (by omega)).tr ((hs.pa v hv h).mono ((h2.nu hs.tv (by omega)).1))
theorem IS.step (hg : GN n num pr) (hs : IS n num pr out i) {b : Nat} {best : Int} (hb : b < n) (hb0 : b ≠ 0) (hi : ix num b = i) (hB : BS out (fun p => pr p b) best) :
   0 ≤ best ∧ best < n ∧ IS n num pr (out.set b best) (i + 1) ∧ (0 ≤ ix out b → ix out b ≠ best → ix num best.toNat < ix num (ix out b).toNat) := by
 have hv := hs.tv
 obtain ⟨q0,hq,hqn⟩ := hg.fwd b hb hb0
 have hq0 : q0 < n := (hg.prn _ _ hq).1
 have hqd := hs.fp q0 hq0 (by omega)
 have h0 : 0 ≤ best := by
   rcases Int.lt_or_le best 0 with h | h
   · exact absurd hqd (hB.no h q0 hq)
   · exact h
 have hbq := hB.an h0 q0 hq hqd
 have hbn := hbq.lt hv hq0
 have hnb : ix num best.toNat < i := by have := (hbq.nu hv hq0).1; omega
 have hnc : ∀ y,(∀ p,pr p b → pdn out p → An out y p) → An out y best.toNat := hB.nc h0
 generalize hx : best.toNat = x at *
 have hbe : best = (x : Int) := by omega
 have hup : 0 ≤ ix out b → An out x (ix out b).toNat := fun h => by
   exact hs.hh b hb h x (fun p hp hpd => by rw [← hx]; exact hB.an h0 p hp hpd)
 have hbl : b < out.length := by rw [hv.len]; exact hb
 have hset : ∀ v,ix (out.set b best) v = if v = b then best else ix out v := fun v => ix_set hbl
 have nx : ¬ An out b x := fun h => by have := (h.nu hv hbn).1; omega
 have la : ∀ {y v},An out y v → v < n → (An out b y ∨ ¬ An out b v) → An (out.set b best) y v := by
   intro y v h
   induction h with
   | self => exact fun _ _ => .self _
   | @up v h h2 ih =>
     intro hv' hc
     have h1 := hv.up v hv' h
     have hvb : v ≠ b := by
       rintro rfl
       rcases hc with hc | hc
       · have e1 := (hc.nu hv (h2.lt hv (by omega))).1
         have e2 := (h2.nu hv (by omega)).1
         omega
       · exact hc (.self _)
     refine .up (by rw [hset,if_neg hvb]; exact h) ?_
     rw [hset,if_neg hvb]
     exact ih (by omega) (hc.imp id (fun h3 h4 => h3 (.up h h4)))
 have lb : ∀ {y v},An (out.set b best) y v → v < n → (¬ An out b v ∧ An out y v) ∨ (An out b v ∧ ((An out b y ∧ An out y v) ∨ An out y x)) := by
   intro y v h
   induction h with
   | self =>
     intro _
     by_cases h1 : An out b y
     · exact .inr ⟨h1,.inl ⟨h1,.self _⟩⟩
     · exact .inl ⟨h1,.self _⟩
   | @up v h h2 ih =>
     intro hv'
     rw [hset] at h h2 ih
     by_cases e : v = b
     · subst e
       rw [if_pos rfl,hx] at ih
       rcases ih hbn with h3 | h3
       · exact .inr ⟨.self _,.inr h3.2⟩
       · exact absurd h3.1 nx
     · rw [if_neg e] at h h2 ih
       have h1 := hv.up v hv' h
       rcases ih (by omega) with h3 | h3
       · refine .inl ⟨fun h4 => h3.1 ?_,.up h h3.2⟩
         cases h4 with
         | self => exact absurd rfl e
         | up _ h5 => exact h5
       · refine .inr ⟨.up h h3.1,h3.2.imp (fun h4 => ⟨h4.1,.up h h4.2⟩) id⟩
 have lc : ∀ {y},An out y x → An (out.set b best) y b := fun {y} h => by
   refine .up (by rw [hset,if_pos rfl]; exact h0) ?_
   rw [hset,if_pos rfl,hx]
   exact la h hbn (.inr nx)
 have ld : ∀ {y v},An out y x → An out b v → v < n → An (out.set b best) y v := fun {y v} h h2 hv' => (lc h).trans (la h2 hv' (.inl (.self _)))
 have sub : 0 ≤ ix out b → ∀ {y v},An (out.set b best) y v → v < n → An out y v := fun h9 {y v} h hv' => by
   rcases lb h hv' with h1 | ⟨h1,h2⟩
   · exact h1.2
   · rcases h2 with h2 | h2
     · exact h2.2
     · exact (h2.trans (hup h9)).trans (.trans (.up h9 (.self _)) h1)
 have fresh : ¬ 0 ≤ ix out b → ∀ v,An out b v → v < n → v = b := fun h9 v h hv' => by
   cases h with
   | self => rfl
   | up h3 h4 =>
     have h5 := hv.up v hv' h3
     exact absurd (h4.pd hv (by omega) h5.2.2) (fun h => h.elim hb0 h9)
 have pds : ∀ v,pdn (out.set b best) v ↔ (v = b ∨ pdn out v) := fun v => by
   unfold pdn; rw [hset]
   by_cases e : v = b
   · rw [if_pos e]; exact ⟨fun _ => .inl e,fun _ => .inr h0⟩
   · rw [if_neg e]; exact ⟨.inr,fun h => h.resolve_left e⟩
 refine ⟨h0,by omega,?_,fun h9 h8 => ?_⟩
 · refine ⟨⟨by rw [List.length_set]; exact hv.len,by rw [hset,if_neg (fun h => hb0 h.symm)]; exact hv.root,fun v hv' h => ?_⟩,fun v hv' h => ?_,fun c a hc hpc h => ?_,fun v hv' h => ?_,fun v hv' h y hy => ?_,fun v hv' h q hq' hqn' hc => ?_⟩
   · rw [hset] at h ⊢
     split at h
     · rename_i e; subst e
       rw [if_pos rfl,hx]
       exact ⟨by omega,by omega,(pds _).2 (.inr (by have := hB.pd h0; rw [hx] at this; exact this))⟩
     · rename_i e
       rw [if_neg e]
       have := hv.up v hv' h
       exact ⟨this.1,this.2.1,(pds _).2 (.inr this.2.2)⟩
   · rw [pds]
     by_cases e : v = b
     · exact .inl e
     · exact .inr (hs.fp v hv' (by have := hg.inj v b hv' hb; have : ix num v ≠ ix num b := fun h => e (this h); omega))
   ·
     by_cases hcb : c = b
     · subst hcb
       by_cases hac : a = c
       · subst hac; exact .self _
       · refine lc (hnc a fun p hp hpd => hs.dm p a (hg.prn _ _ hp).1 hpd (.inr fun h6 => ?_))
         exact (h.resolve_left hac) (.step h6 hp (fun e => hac e.symm))
     · have hpc' : pdn out c := ((pds c).1 hpc).resolve_left hcb
       have hac := hs.dm c a hc hpc' h
       by_cases h1 : An out b c
       · by_cases h2 : An out b a
         · exact la hac hc (.inl h2)
         ·
           have h3 : An out a b := (hac.tot h1).resolve_right h2
           have hab : a ≠ b := fun e => h2 (by subst e; exact .self _)
           have hn := (h3.nu hv hb).2 hab
           have hdom : ¬ RB pr a b := fun h4 => by
             have h5 := (an_pt hs h1 hc).rb h4 (by omega)
             rcases h with h | h
             · subst h; exact h2 h1
             · exact h h5
           have h6 : An out a x := hnc a fun p hp hpd => hs.dm p a (hg.prn _ _ hp).1 hpd (.inr fun h7 => hdom (.step h7 hp (fun e => hab e.symm)))
           exact ld h6 h1 hc
       · exact la hac hc (.inr h1)
   · rw [hset] at h ⊢
     split at h
     · rename_i e; subst e
       rw [if_pos rfl,hx]
       exact .step (an_pt hs hbq hq0) hq (by omega)
     · rename_i e; rw [if_neg e]; exact hs.pa v hv' h
   · rw [hset] at h ⊢
     split at h
     · rename_i e; subst e
       rw [if_pos rfl,hx]
       refine la (hnc y fun p hp hpd => ?_) hbn (.inr nx)
       have h1 := hy p hp ((pds p).2 (.inr hpd))
       have hpn := (hg.prn _ _ hp).1
       by_cases h9 : 0 ≤ ix out v
       · exact sub h9 h1 hpn
       · rcases lb h1 hpn with h2 | ⟨h2,_⟩
         · exact h2.2
         · have e := fresh h9 p h2 hpn
           subst e
           exact absurd hpd (fun h => h.elim hb0 h9)
     · rename_i e
       rw [if_neg e]
       have h1 := hv.up v hv' h
       by_cases hz : An out b (ix out v).toNat
       ·
         have hzn := (hz.nu hv (by omega)).1
         have h9 : 0 ≤ ix out b := by
           rcases Int.lt_or_le (ix out b) 0 with h2 | h2
           · have h3 := fresh (by omega) _ hz (by omega)
             rw [h3] at h1
             exact absurd h1.2.2 (fun h => h.elim hb0 (fun h => by omega))
           · exact h2
         have hyz : An out y (ix out v).toNat := hs.hh v hv' h y fun p hp hpd => sub h9 (hy p hp ((pds p).2 (.inr hpd))) (hg.prn _ _ hp).1
         by_cases hby : An out b y
         · exact la hyz (by omega) (.inl hby)
         · have hv0 : v ≠ 0 := by rintro rfl; have := hv.root; omega
           obtain ⟨q,hq1,hq2⟩ := hg.fwd v hv' hv0
           have hqn1 := (hg.prn _ _ hq1).1
           have hzq := hs.kk v hv' h q hq1 hq2 (.inr (by omega))
           have hqb : An out b q := hz.trans hzq
           have hpq : pdn out q := by
             cases hqb with
             | self => exact .inr h9
             | up h _ => exact .inr h
           rcases lb (hy q hq1 ((pds q).2 (.inr hpq))) hqn1 with h2 | ⟨_,h2⟩
           · exact absurd hqb h2.1
           · rcases h2 with h2 | h2
             · exact absurd h2.1 hby
             · exact ld h2 hz (by omega)
       · refine la (hs.hh v hv' h y fun p hp hpd => ?_) (by omega) (.inr hz)
         have h2 := hy p hp ((pds p).2 (.inr hpd))
         have hpn := (hg.prn _ _ hp).1
         by_cases h9 : 0 ≤ ix out b
         · exact sub h9 h2 hpn
         · rcases lb h2 hpn with h3 | ⟨h3,_⟩
           · exact h3.2
           · have e := fresh h9 p h3 hpn
             subst e
             exact absurd hpd (fun h => h.elim hb0 h9)
   · have hqn1 := (hg.prn _ _ hq').1
     rw [hset] at h hc ⊢
     by_cases e : v = b
     · subst e
       rw [if_pos rfl,hx]
       have hqd' := hs.fp q hqn1 (by omega)
       have h2 := hB.an h0 q hq' hqd'
       rw [hx] at h2
       exact la h2 hqn1 (.inr fun h3 => by have := (h3.nu hv hqn1).1; omega)
     · rw [if_neg e] at h hc ⊢
       have h1 := hv.up v hv' h
       have hne : ix num v ≠ ix num b := fun h => e (hg.inj v b hv' hb h)
       rcases hc with hc | hc
       · have h2 := hs.kk v hv' h q hq' hqn' (.inl (by omega))
         exact la h2 hqn1 (.inr fun h3 => by have := (h3.nu hv hqn1).1; omega)
       · have h2 := hs.kk v hv' h q hq' hqn' (.inr (by omega))
         by_cases h3 : An out b q
         · have h4 := (h2.tot h3)
           rcases h4 with h4 | h4
           · have := (h4.nu hv hb).1; omega
           · exact la h2 hqn1 (.inl h4)
         · exact la h2 hqn1 (.inr h3)
 · have h7 := hup h9
   have h6 := (h7.nu hv (by have := (hv.up b hb h9).1; omega)).2 (fun e => h8 (by omega))
   exact h6
end
structure CO (n : Nat) (num out : List Int) (a b a' b' : Int) : Prop where
 ra : 0 ≤ a' ∧ a' < n
 rb : 0 ≤ b' ∧ b' < n
 pa : pdn out a'.toNat
 pb : pdn out b'.toNat
 an : ∀ x,(An out x a.toNat ∧ An out x b.toNat) ↔ (An out x a'.toNat ∧ An out x b'.toNat)
section
variable {n : Nat} {num out : List Int} {pr : Nat → Nat → Prop} {a b a' b' : Int}
theorem CO.beg (ha : 0 ≤ a ∧ a < n) (hb : 0 ≤ b ∧ b < n) (h1 : pdn out a.toNat) (h2 : pdn out b.toNat) : CO n num out a b a b := ⟨ha,hb,h1,h2,fun _ => Iff.rfl⟩
theorem CO.left (hg : GN n num pr) (hv : TV n num out) (h : CO n num out a b a' b') (hn : ix num b'.toNat < ix num a'.toNat) : CO n num out a b (ix out a'.toNat) b' ∧ ix num (ix out a'.toNat).toNat < ix num a'.toNat := by
 obtain ⟨h1,h2,h3,h4,h5⟩ := h
 have hb := (hg.rng b'.toNat (by omega)).1
 have h0 : 0 ≤ ix out a'.toNat := h3.resolve_left fun e => by rw [e,hg.zero] at hn; omega
 have h6 := hv.up a'.toNat (by omega) h0
 refine ⟨⟨⟨h0,h6.1⟩,h2,h6.2.2,h4,fun x => (h5 x).trans ⟨fun ⟨p,q⟩ => ⟨?_,q⟩,fun ⟨p,q⟩ => ⟨.up h0 p,q⟩⟩⟩,h6.2.1⟩
 have hq := (q.nu hv (by omega)).1
 generalize a'.toNat = v at *
 cases p with
 | self => omega
 | up _ p => exact p
theorem CO.right (hg : GN n num pr) (hv : TV n num out) (h : CO n num out a b a' b') (hn : ix num a'.toNat < ix num b'.toNat) : CO n num out a b a' (ix out b'.toNat) ∧ ix num (ix out b'.toNat).toNat < ix num b'.toNat := by
 have h1 := CO.left (a := b) (b := a) (a' := b') (b' := a') hg hv ⟨h.rb,h.ra,h.pb,h.pa,fun x => and_comm.trans ((h.an x).trans and_comm)⟩ hn
 exact ⟨⟨h.ra,h1.1.ra,h.pa,h1.1.pa,fun x => and_comm.trans ((h1.1.an x).trans and_comm)⟩,h1.2⟩
theorem CO.done (hg : GN n num pr) (h : CO n num out a b a' b') (hn : ix num a'.toNat = ix num b'.toNat) : An out a'.toNat a.toNat ∧ An out a'.toNat b.toNat ∧ ∀ x,An out x a.toNat → An out x b.toNat → An out x a'.toNat := by
 have h1 := h.ra
 have h2 := h.rb
 have e := hg.inj a'.toNat b'.toNat (by omega) (by omega) hn
 have h3 := (h.an a'.toNat).2 ⟨.self _,by rw [← e]; exact .self _⟩
 exact ⟨h3.1,h3.2,fun x p q => ((h.an x).1 ⟨p,q⟩).1⟩
def Pk (l : List Int) (k : Nat) (p : Nat) : Prop := (p : Int) ∈ l.take k
theorem Pk.nx {l : List Int} {k p : Nat} (hk : k < l.length) : Pk l (k + 1) p ↔ Pk l k p ∨ (p : Int) = ix l k := by
 unfold Pk; rw [take_ix hk,List.mem_append]; simp
theorem BS.beg {l : List Int} : BS out (Pk l 0) (-1) := ⟨fun _ p h => by simp [Pk] at h,fun h => by omega,fun h => by omega,fun h => by omega⟩
theorem BS.skip {l : List Int} {k : Nat} {best : Int} (h : BS out (Pk l k) best) (hk : k < l.length) (hr : 0 ≤ ix l k) (hp : ¬ pdn out (ix l k).toNat) : BS out (Pk l (k + 1)) best := by
 have e : ∀ p : Nat,(p : Int) = ix l k → ¬ pdn out p := fun p e h9 => hp (by rw [← e,Int.toNat_natCast]; exact h9)
 exact ⟨fun h0 p h1 => ((Pk.nx hk).1 h1).elim (h.no h0 p) (e p),fun h0 p h1 h2 => ((Pk.nx hk).1 h1).elim (fun h3 => h.an h0 p h3 h2) (fun h3 => absurd h2 (e p h3)),fun h0 y h1 => h.nc h0 y fun p h2 => h1 p ((Pk.nx hk).2 (.inl h2)),h.pd⟩
theorem BS.first {l : List Int} {k : Nat} {best : Int} (h : BS out (Pk l k) best) (hb : best < 0) (hk : k < l.length) (hr : 0 ≤ ix l k) (hp : pdn out (ix l k).toNat) : BS out (Pk l (k + 1)) (ix l k) := by
 refine ⟨fun h0 => by omega,fun h0 p h1 h2 => ?_,fun h0 y h1 => ?_,fun _ => hp⟩
 · rcases (Pk.nx hk).1 h1 with h3 | h3
   · exact absurd h2 (h.no hb p h3)
   · rw [← h3,Int.toNat_natCast]; exact .self _
 · exact h1 _ ((Pk.nx hk).2 (.inr (by omega))) hp
theorem BS.com {l : List Int} {k : Nat} {best c : Int} (h : BS out (Pk l k) best) (hb : 0 ≤ best) (hk : k < l.length) (hr : 0 ≤ ix l k) (hp : pdn out (ix l k).toNat) (hc : 0 ≤ c) (hpc : pdn out c.toNat) (h1 : An out c.toNat best.toNat ∧ An out c.toNat (ix l k).toNat ∧ ∀ x,An out x best.toNat → An out x (ix l k).toNat → An out x c.toNat) : BS out (Pk l (k + 1)) c := by
 obtain ⟨a1,a2,a3⟩ := h1
 refine ⟨fun h0 => by omega,fun _ p h2 h3 => ?_,fun _ y h2 => ?_,fun _ => hpc⟩
 · rcases (Pk.nx hk).1 h2 with h4 | h4
   · exact a1.trans (h.an hb p h4 h3)
   · rw [show p = (ix l k).toNat by omega]; exact a2
 · exact a3 y (h.nc hb y fun p h4 => h2 p ((Pk.nx hk).2 (.inl h4))) (h2 _ ((Pk.nx hk).2 (.inr (by omega))) hp)
theorem BS.all {l : List Int} {best : Int} {b : Nat} (h : BS out (Pk l l.length) best) (hl : ∀ p : Nat,(p : Int) ∈ l ↔ pr p b) : BS out (fun p => pr p b) best := by
 have e : ∀ p,Pk l l.length p ↔ pr p b := fun p => by unfold Pk; rw [List.take_length]; exact hl p
 exact ⟨fun h0 p h1 => h.no h0 p ((e p).2 h1),fun h0 p h1 => h.an h0 p ((e p).2 h1),fun h0 y h1 => h.nc h0 y fun p h2 => h1 p ((e p).1 h2),h.pd⟩
theorem IS.beg (hg : GN n num pr) : IS n num pr (List.replicate n (-1)) 1 := by
 have hr : ∀ v,v < n → ix (List.replicate n (-1 : Int)) v = -1 := fun v hv => by rw [ix_eq (by simpa using hv)]; simp
 have h0 := hg.n0
 refine ⟨⟨by simp,by rw [hr 0 h0]; omega,fun v hv h => by rw [hr v hv] at h; omega⟩,fun v hv h => .inl (hg.inj v 0 hv h0 (by have := hg.rng v hv; rw [hg.zero]; omega)),fun b a hb hp h => ?_,fun b hb h => by rw [hr b hb] at h; omega,fun b hb h => by rw [hr b hb] at h; omega,fun b hb h => by rw [hr b hb] at h; omega⟩
 rcases hp with e | h1
 · subst e
   rcases h with h | h
   · subst h; exact .self _
   · have : a = 0 := by
       rcases Nat.eq_zero_or_pos a with h2 | h2
       · exact h2
       · exact absurd (RB.zero (by omega)) h
     subst this; exact .self _
 · rw [hr b hb] at h1; omega
theorem IS.round (hg : GN n num pr) (h : IS n num pr out n) : IS n num pr out 1 :=
 ⟨h.tv,fun v hv _ => h.fp v hv (by have := hg.rng v hv; omega),h.dm,h.pa,h.hh,fun b hb h1 q hq h2 _ => h.kk b hb h1 q hq h2 (.inl (by have := hg.rng b hb; omega))⟩
def wtI (n : Nat) (num out : List Int) (v : Nat) : Nat := if ix out v < 0 then n else (ix num (ix out v).toNat).toNat
def smI (n : Nat) (num out : List Int) : Nat → Nat
 | 0 => 0
 | k + 1 => smI n num out k + wtI n num out k
theorem smI_lt {out' : List Int} {v : Nat} (h1 : ∀ u,u ≠ v → wtI n num out' u = wtI n num out u) (h2 : wtI n num out' v < wtI n num out v) : ∀ k,(k ≤ v → smI n num out' k = smI n num out k) ∧ (v < k → smI n num out' k < smI n num out k)
 | 0 => ⟨fun _ => rfl,fun h => by omega⟩
 | k + 1 => by
   obtain ⟨a,b⟩ := smI_lt h1 h2 k
   rw [smI,smI]
   refine ⟨fun h => by rw [a (by omega),h1 k (by omega)],fun h => ?_⟩
   rcases Nat.lt_or_ge v k with h3 | h3
   · have := b h3; rw [h1 k (by omega)]; omega
   · have e : v = k := by omega
     subst e
     have := a (Nat.le_refl _); omega
theorem IS.less (hg : GN n num pr) {i : Int} (hs : IS n num pr out i) {b : Nat} {best : Int} (hb : b < n) (h0 : 0 ≤ best ∧ best < n) (hne : ix out b ≠ best) (h : 0 ≤ ix out b → ix out b ≠ best → ix num best.toNat < ix num (ix out b).toNat) : smI n num (out.set b best) n < smI n num out n := by
 have hl : b < out.length := by rw [hs.tv.len]; exact hb
 refine (smI_lt (v := b) (fun u hu => ?_) ?_ n).2 hb
 · unfold wtI; rw [ix_set hl,if_neg hu]
 · unfold wtI
   rw [ix_set hl,if_pos rfl,if_neg (by omega)]
   have h1 := hg.rng best.toNat (by omega)
   split
   · omega
   · rename_i h2
     have h3 := h (by omega) hne
     omega
theorem IS.same {i : Int} (hs : IS n num pr out (i + 1)) {b : Nat} {best : Int} (h : ix out b = best) : IS n num pr (out.set b best) (i + 1) := by
 by_cases hb : b < out.length
 · rw [show out.set b best = out from by rw [← h,ix_eq hb]; exact List.set_getElem_self _]; exact hs
 · rw [List.set_eq_of_length_le (by omega)]; exact hs
theorem dom_asked (hv : TV n num out) : ∀ (k : Nat) {x v : Nat},An out x v → v < n → x ≠ v → 0 ≤ ix out v ∧ ix out v < n ∧ An out x (ix out v).toNat
 | _,x,v,h,hv',hne => by
   cases h with
   | self => exact absurd rfl hne
   | up h1 h2 => exact ⟨h1,(hv.up v hv' h1).1,h2⟩
end
def Aft (rows : List (List Int)) (l : List Int) (v : Int) : Prop := ∃ l2 l3,l = l2 ++ v :: l3 ∧ ∃ q ∈ l3,v ∈ ix rows q.toNat
theorem Aft.right {rows : List (List Int)} {l m : List Int} {v : Int} : Aft rows l v → Aft rows (l ++ m) v
 | ⟨l2,l3,e,q,h1,h2⟩ => ⟨l2,l3 ++ m,by rw [e]; simp,q,by simp [h1],h2⟩
theorem Aft.left {rows : List (List Int)} {l m : List Int} {v : Int} : Aft rows l v → Aft rows (m ++ l) v
 | ⟨l2,l3,e,q,h1,h2⟩ => ⟨m ++ l2,l3,by rw [e]; simp,q,h1,h2⟩
structure OV (n : Nat) (rows : List (List Int)) (se : List Bool) (l : List Int) (se' : List Bool) (R : Int → Prop) : Prop where
 len : se'.length = n
 mem : ∀ v : Nat,v < n → (ix se' v = true ↔ ix se v = true ∨ (v : Int) ∈ l)
 nd : l.Nodup
 new : ∀ v ∈ l,(0 ≤ v ∧ v < n) ∧ ix se v.toNat = false
 cl : ∀ v ∈ l,∀ t ∈ ix rows v.toNat,ix se' t.toNat = true
 af : ∀ v ∈ l,R v ∨ Aft rows l v
section
variable {n : Nat} {rows : List (List Int)} {se se' se2 : List Bool} {l l2 : List Int} {R : Int → Prop} {a : Int}
theorem OV.beg (h : se.length = n) : OV n rows se [] se R := ⟨h,fun v _ => (by simp),List.nodup_nil,fun v h => (by cases h),fun v h => (by cases h),fun v h => (by cases h)⟩
theorem OV.up (h : OV n rows se l se' R) {v : Nat} (hv : v < n) (h1 : ix se v = true) : ix se' v = true := (h.mem v hv).2 (.inl h1)
theorem OV.tr (hr : ∀ v t,t ∈ ix rows v → 0 ≤ t ∧ t < n) (h : OV n rows se l se' R) (h2 : OV n rows se' l2 se2 R) : OV n rows se (l ++ l2) se2 R := by
 refine ⟨h2.len,fun v hv => ?_,List.nodup_append.2 ⟨h.nd,h2.nd,fun x hx y hy e => ?_⟩,fun v hv => ?_,fun v hv t ht => ?_,fun v hv => ?_⟩
 · rw [h2.mem v hv,h.mem v hv,List.mem_append,or_assoc]
 · subst e
   have h3 := h.new x hx
   have h4 := (h2.new x hy).2
   rw [(h.mem x.toNat (by omega)).2 (.inr (by rw [Int.toNat_of_nonneg h3.1.1]; exact hx))] at h4; cases h4
 · rcases List.mem_append.1 hv with h3 | h3
   · exact h.new v h3
   · have h4 := h2.new v h3
     refine ⟨h4.1,?_⟩
     cases h5 : ix se v.toNat with
     | false => rfl
     | true => rw [h.up (by omega) h5] at h4; cases h4.2
 · rcases List.mem_append.1 hv with h3 | h3
   · have := hr _ t ht; exact h2.up (by omega) (h.cl v h3 t ht)
   · exact h2.cl v h3 t ht
 · rcases List.mem_append.1 hv with h3 | h3
   · exact (h.af v h3).imp id Aft.right
   · exact (h2.af v h3).imp id Aft.left
theorem OV.weak {R' : Int → Prop} (h : OV n rows se l se' R) (hR : ∀ v,R v → R' v) : OV n rows se l se' R' := ⟨h.len,h.mem,h.nd,h.new,h.cl,fun v hv => (h.af v hv).imp (hR v) id⟩
theorem OV.done (hl : se.length = n) (ha : 0 ≤ a ∧ a < n) (h0 : ix se a.toNat = false) (h : OV n rows (se.set a.toNat true) l se' (fun v => v ∈ ix rows a.toNat)) (hc : ∀ t ∈ ix rows a.toNat,ix se' t.toNat = true) : OV n rows se (l ++ [a]) se' (fun v => v = a) := by
 have hs : ∀ v,ix (se.set a.toNat true) v = if v = a.toNat then true else ix se v := fun v => ix_set (by omega)
 have hna : a ∉ l := fun h9 => by have := (h.new a h9).2; rw [hs,if_pos rfl] at this; cases this
 refine ⟨h.len,fun v hv => ?_,List.nodup_append.2 ⟨h.nd,by simp,fun x hx y hy e => ?_⟩,fun v hv => ?_,fun v hv t ht => ?_,fun v hv => ?_⟩
 · rw [h.mem v hv,hs,List.mem_append,List.mem_singleton]
   by_cases e : v = a.toNat
   · rw [if_pos e]; exact ⟨fun _ => .inr (.inr (by omega)),fun _ => .inl rfl⟩
   · rw [if_neg e]; exact ⟨fun h => h.imp id .inl,fun h => h.imp id (fun h => h.resolve_right (by omega))⟩
 · simp at hy; subst hy; subst e; exact hna hx
 · rcases List.mem_append.1 hv with h3 | h3
   · have h4 := h.new v h3
     refine ⟨h4.1,?_⟩
     rw [hs] at h4
     split at h4
     · cases h4.2
     · exact h4.2
   · simp at h3; subst h3; exact ⟨ha,h0⟩
 · rcases List.mem_append.1 hv with h3 | h3
   · exact h.cl v h3 t ht
   · simp at h3; subst h3; exact hc t ht
 · rcases List.mem_append.1 hv with h3 | h3
   · right
     rcases h.af v h3 with h4 | h4
     · obtain ⟨l2,l3,e⟩ := List.append_of_mem h3
       exact ⟨l2,l3 ++ [a],by rw [e]; simp,a,by simp,h4⟩
     · exact h4.right
   · exact .inl (by simpa using h3)
end
structure OD (n : Nat) (rows : List (List Int)) (ord : List Int) : Prop where
 nd : ord.Nodup
 all : ∀ v : Int,v ∈ ord ↔ 0 ≤ v ∧ v < n
 hd : ord.head? = some 0
 fw : ∀ v : Int,v ∈ ord → v ≠ 0 → ∃ l2 l3,ord = l2 ++ v :: l3 ∧ ∃ q ∈ l2,v ∈ ix rows q.toNat
theorem od_of {n : Nat} {rows : List (List Int)} {l : List Int} {se' : List Bool} (hn : 0 < n) (hr : ∀ v t,t ∈ ix rows v → 0 ≤ t ∧ t < n) (h : OV n rows (List.replicate n false) (l ++ [0]) se' (fun v => v = 0)) (hw : ∀ b,b < n → ∃ w,RB (fun q t => (t : Int) ∈ ix rows q) w b) : OD n rows (l ++ [0]).reverse := by
 have key : ∀ {w b},RB (fun q t => (t : Int) ∈ ix rows q) w b → (b : Int) ∈ l ++ [0] := fun {w b} h9 => by
   induction h9 with
   | zero => simp
   | @step x t h1 h2 _ ih =>
     have h3 := h.cl x ih t (by rw [Int.toNat_natCast]; exact h2)
     rw [Int.toNat_natCast] at h3
     have h4 := hr x t h2
     have h5 := (h.mem t (by omega)).1 h3
     rw [ix_rep] at h5
     exact h5.resolve_left (by simp)
 refine ⟨(List.reverse_perm _).nodup_iff.2 h.nd,fun v => ?_,by simp,fun v hv hv0 => ?_⟩
 · rw [List.mem_reverse]
   refine ⟨fun h1 => (h.new v h1).1,fun h1 => ?_⟩
   obtain ⟨w,h2⟩ := hw v.toNat (by omega)
   have := key h2
   rwa [Int.toNat_of_nonneg h1.1] at this
 · rw [List.mem_reverse] at hv
   obtain ⟨l2,l3,e,q,h1,h2⟩ := (h.af v hv).resolve_left hv0
   exact ⟨l3.reverse,l2.reverse,by rw [e]; simp,q,by simpa using h1,h2⟩
structure NU (n : Nat) (ord num : List Int) : Prop where
 len : num.length = n
 pos : ∀ k,k < ord.length → ix num (ix ord k).toNat = k
theorem nodup_len : ∀ (n : Nat) (l : List Int),l.Nodup → (∀ v ∈ l,0 ≤ v ∧ v < n) → l.length ≤ n
 | 0,[],_,_ => Nat.le_refl _
 | 0,x :: l,_,h => by have := h x (by simp); omega
 | n + 1,l,hn,h => by
   have h1 := nodup_len n (l.erase n) (hn.erase _) (fun v hv => by
     have h2 := h v (List.mem_of_mem_erase hv)
     have h3 := ((hn.mem_erase_iff).1 hv).1
     omega)
   rw [List.length_erase] at h1
   split at h1 <;> omega
theorem od_at {n : Nat} {rows : List (List Int)} {ord : List Int} (ho : OD n rows ord) {v : Nat} (hv : v < n) : ∃ k,k < ord.length ∧ ix ord k = v := by
 obtain ⟨k,hk,e⟩ := List.getElem_of_mem ((ho.all v).2 ⟨by omega,by omega⟩)
 exact ⟨k,hk,by rw [ix_eq hk]; exact e⟩
theorem od_gn {n : Nat} {rows : List (List Int)} {ord num : List Int} (hn : 0 < n) (hr : ∀ v t,t ∈ ix rows v → (0 ≤ t ∧ t < n) ∧ v < n) (ho : OD n rows ord) (hu : NU n ord num) : GN n num (fun q t => (t : Int) ∈ ix rows q) ∧ ord.length ≤ n := by
 have hlen := nodup_len n ord ho.nd (fun v hv => (ho.all v).1 hv)
 refine ⟨⟨hn,fun v hv => ?_,fun u v hu' hv h => ?_,?_,fun q b h => ?_,fun b hb h0 => ?_⟩,hlen⟩
 · obtain ⟨k,hk,e⟩ := od_at ho hv
   have := hu.pos k hk
   rw [e,Int.toNat_natCast] at this; omega
 · obtain ⟨k,hk,e⟩ := od_at ho hu'
   obtain ⟨k2,hk2,e2⟩ := od_at ho hv
   have h1 := hu.pos k hk
   have h2 := hu.pos k2 hk2
   rw [e,Int.toNat_natCast] at h1
   rw [e2,Int.toNat_natCast] at h2
   have : k = k2 := by omega
   subst this; omega
 · have h1 := ho.hd
   obtain ⟨x,l,e⟩ : ∃ x l,ord = x :: l := by
     cases ord with
     | nil => cases h1
     | cons x l => exact ⟨x,l,rfl⟩
   subst e
   simp at h1; subst h1
   have := hu.pos 0 (by simp)
   simpa [ix] using this
 · have := hr q b h; omega
 · obtain ⟨l2,l3,e,q,h1,h2⟩ := ho.fw b ((ho.all b).2 ⟨by omega,by omega⟩) (by omega)
   have hq := (ho.all q).1 (by rw [e]; simp [h1])
   refine ⟨q.toNat,h2,?_⟩
   obtain ⟨k,hk,e1⟩ := List.getElem_of_mem h1
   have p1 := hu.pos k (by rw [e]; simp; omega)
   have p2 := hu.pos l2.length (by rw [e]; simp)
   rw [show ix ord k = q from by rw [ix_eq (by rw [e]; simp; omega)]; subst e; rw [List.getElem_append_left hk]; exact e1] at p1
   rw [show ix ord l2.length = (b : Int) from by rw [ix_eq (by rw [e]; simp)]; subst e; simp,Int.toNat_natCast] at p2
   omega
def keptM (row : List Int) (n : Int) : List Int := Lib.compact (sortM (row.filter (fun b => decide (0 ≤ b) && decide (b < n))))
theorem kept_mem {row : List Int} {n x : Int} : x ∈ keptM row n ↔ x ∈ row ∧ 0 ≤ x ∧ x < n := by
 unfold keptM
 rw [comp_mem,sortM_mem,List.mem_filter]
 simp
theorem kept_ris (row : List Int) (n : Int) : (keptM row n).Pairwise (· < ·) := comp_ris (sortM_le _)
theorem kept_ext {a b : List Int} (h1 : a.Pairwise (· < ·)) (h2 : b.Pairwise (· < ·)) (h : ∀ x,x ∈ a ↔ x ∈ b) : a = b := ris_ext h1 h2 h
theorem kept_kept (row : List Int) (n : Int) : keptM (keptM row n) n = keptM row n := kept_ext (kept_ris _ _) (kept_ris _ _) (fun x => by rw [kept_mem,kept_mem]; exact ⟨fun h => h.1,fun h => ⟨h,h.2⟩⟩)
theorem kept_len (row : List Int) (n : Int) : (keptM row n).length ≤ row.length := by
 unfold keptM
 refine Nat.le_trans (comp_len _) ?_
 unfold sortM
 rw [List.length_mergeSort]; exact List.length_filter_le _ _
def cleanM (g : List (List Int)) : List (List Int) := g.map (fun row => keptM row g.length)
def graphF (f : D.Func) : List (List Int) := f.Blocks.map (fun b => keptM b.Term.To f.Blocks.length)
theorem filt_nx {α : Type} [Inhabited α] {l : List α} {q : α → Bool} {k : Nat} (h : k < l.length) : (l.take (k + 1)).filter q = (l.take k).filter q ++ if q (ix l k) = true then [ix l k] else [] := by
 rw [take_ix h,List.filter_append]
 congr 1
 by_cases h9 : q (ix l k) = true
 · simp [h9]
 · simp [h9]
def comF (idom num : List Int) : Nat → Int → Int → Int
 | 0,a,_ => a
 | k + 1,a,b => if ix num b.toNat < ix num a.toNat then comF idom num k (ix idom a.toNat) b else if ix num a.toNat < ix num b.toNat then comF idom num k a (ix idom b.toNat) else a
def comM (idom num : List Int) (a b : Int) : Int := comF idom num ((ix num a.toNat).toNat + (ix num b.toNat).toNat + 1) a b
def ComOK (idom num : List Int) (a b : Int) : Prop := ∃ n pr,GN n num pr ∧ num.length = n ∧ TV n num idom ∧ CO n num idom a b a b
def domF (idom : List Int) (a : Int) : Nat → Int → Bool
 | 0,_ => false
 | k + 1,b => if a = b then true else if 0 ≤ b ∧ b < idom.length then domF idom a k (ix idom b.toNat) else false
def inR (l : List Int) (n : Int) : Bool := decide (0 ≤ n) && decide (n < l.length)
def dominM (idom : List Int) (a b : Int) : Bool := if inR idom a = true ∧ inR idom b = true then domF idom a (idom.length + 1) b else false
theorem domF_yes {n : Nat} {num out : List Int} (hv : TV n num out) {x : Nat} : ∀ (k : Nat) {v : Nat},An out x v → v < n → ix num v < ix num x + k → domF out x k v = true
 | 0,v,h,hv',hk => by have := (h.nu hv hv').1; omega
 | k + 1,v,h,hv',hk => by
   rw [domF]
   by_cases e : (x : Int) = v
   · rw [if_pos e]
   · rw [if_neg e,if_pos ⟨by omega,by rw [hv.len]; omega⟩,Int.toNat_natCast]
     obtain ⟨h1,h2,h3⟩ := dom_asked hv 0 h hv' (by omega)
     have h4 := (hv.up v hv' h1).2.1
     have := domF_yes hv k (v := (ix out v).toNat) h3 (by omega) (by omega)
     rwa [Int.toNat_of_nonneg h1] at this
def withinM (n a b : Int) : Bool := decide (a ≤ n) && decide (n ≤ b)
def operM (op : Int) : Int × Int := if op = 1 then (0,0) else if op = 15 then (1,1) else if op = 17 then (0,4) else (2,2)
section
variable {idom num : List Int} {k : Nat} {a b : Int}
theorem comF_l (h : 0 < k) (h1 : ix num b.toNat < ix num a.toNat) : comF idom num k a b = comF idom num (k - 1) (ix idom a.toNat) b := by
 obtain ⟨j,rfl⟩ : ∃ j,k = j + 1 := ⟨k - 1,by omega⟩
 rw [comF,if_pos h1]; rfl
theorem comF_r (h : 0 < k) (h1 : ix num a.toNat < ix num b.toNat) : comF idom num k a b = comF idom num (k - 1) a (ix idom b.toNat) := by
 obtain ⟨j,rfl⟩ : ∃ j,k = j + 1 := ⟨k - 1,by omega⟩
 rw [comF,if_neg (by omega),if_pos h1]; rfl
theorem comF_e (h : 0 < k) (h1 : ix num a.toNat = ix num b.toNat) : comF idom num k a b = a := by
 obtain ⟨j,rfl⟩ : ∃ j,k = j + 1 := ⟨k - 1,by omega⟩
 rw [comF,if_neg (by omega),if_neg (by omega)]
end
theorem ix_mapG {α β : Type} [Inhabited α] [Inhabited β] {l : List α} {f : α → β} {k : Nat} (h : k < l.length) : ix (l.map f) k = f (ix l k) := by
 rw [ix_eq (by simpa using h),ix_eq h]; simp
theorem row_put {F : List (List Int)} {n k : Nat} {x : List Int} (hk : k < n) (hn : F.length = n) (hx : x = ix F k) : (F.take k ++ List.replicate (n - k) []).set k x = F.take (k + 1) ++ List.replicate (n - (k + 1)) [] := by
 have hl : (F.take k).length = k := by rw [List.length_take]; omega
 rw [List.set_append_right _ _ (by omega),hl,Nat.sub_self,take_ix (by omega),List.append_assoc]
 congr 1
 obtain ⟨j,hj⟩ : ∃ j,n - k = j + 1 := ⟨n - k - 1,by omega⟩
 rw [hj,List.replicate_succ,List.set_cons_zero,show n - (k + 1) = j by omega,hx]; rfl
def inRn (n : Int) (l : List Int) : Bool := inR l n
theorem inRn_yes {n : Int} {l : List Int} (h : inRn n l = true) : 0 ≤ n ∧ n < l.length := by unfold inRn inR at h; simpa using h
theorem inRn_no {n : Int} {l : List Int} (h : inRn n l = false) : ¬ (0 ≤ n ∧ n < l.length) := by unfold inRn inR at h; simp at h; omega
theorem domN {idom : List Int} {a b : Int} (h : (!inRn a idom || !inRn b idom) = true) : dominM idom a b = false := by
 unfold dominM; rw [if_neg]; intro h9; unfold inRn at h; rw [h9.1,h9.2] at h; cases h
structure OP (n : Nat) (rows : List (List Int)) (se : List Bool) (out : List Int) (a : Int) : Prop where
 len : se.length = n
 n512 : n ≤ 512
 a0 : 0 ≤ a ∧ a < n
 no : ix se a.toNat = false
 rl : rows.length = n
 rows : ∀ v t,t ∈ ix rows v → 0 ≤ t ∧ t < n
 nd : out.Nodup
 vis : ∀ v ∈ out,(0 ≤ v ∧ v < n) ∧ ix se v.toNat = true
section
variable {n : Nat} {rows : List (List Int)} {se se2 se3 : List Bool} {out l l2 l3 : List Int} {a t : Int} {R : Int → Prop} {k : Nat}
theorem OP.all (h : OP n rows se out a) (ho : OV n rows (se.set a.toNat true) l se2 R) : (out ++ l).Nodup ∧ ∀ v ∈ out ++ l,(0 ≤ v ∧ v < n) ∧ ix se2 v.toNat = true := by
 have ha := h.a0
 have hs : ∀ v,ix (se.set a.toNat true) v = if v = a.toNat then true else ix se v := fun v => ix_set (by rw [h.len]; omega)
 refine ⟨List.nodup_append.2 ⟨h.nd,ho.nd,fun x hx y hy e => ?_⟩,fun v hv => ?_⟩
 · subst e
   have h1 := (h.vis x hx).2
   have h2 := (ho.new x hy).2
   rw [hs] at h2
   split at h2
   · cases h2
   · rw [h1] at h2; cases h2
 · rcases List.mem_append.1 hv with h1 | h1
   · have h2 := h.vis v h1
     refine ⟨h2.1,(ho.mem v.toNat (by omega)).2 (.inl ?_)⟩
     rw [hs]; split
     · rfl
     · exact h2.2
   · have h2 := (ho.new v h1).1
     exact ⟨h2,(ho.mem v.toNat (by omega)).2 (.inr (by rw [Int.toNat_of_nonneg h2.1]; exact h1))⟩
theorem OP.olen (h : OP n rows se out a) (ho : OV n rows (se.set a.toNat true) l se2 R) : (out ++ l).length ≤ 512 := by
 have h1 := h.all ho
 have := nodup_len n _ h1.1 (fun v hv => (h1.2 v hv).1)
 have := h.n512
 omega
theorem OP.next (h : OP n rows se out a) (ho : OV n rows (se.set a.toNat true) l se2 R) (ht : t ∈ ix rows a.toNat) (hn : ix se2 t.toNat = false) : OP n rows se2 (out ++ l) t :=
 ⟨ho.len,h.n512,h.rows _ t ht,hn,h.rl,h.rows,(h.all ho).1,(h.all ho).2⟩
theorem cnt3_mono : ∀ {a b : List Bool},a.length = b.length → (∀ i,ix a i = true → ix b i = true) → cnt3 b ≤ cnt3 a
 | [],[],_,_ => Nat.le_refl _
 | x :: a,y :: b,h,h2 => by
   have h3 := cnt3_mono (a := a) (b := b) (by simpa using h) (fun i hi => by have := h2 (i + 1) (by rw [ix_cons]; exact hi); rwa [ix_cons] at this)
   have h0 := h2 0
   rw [ix_zero,ix_zero] at h0
   unfold cnt3 at h3 ⊢
   rw [List.countP_cons,List.countP_cons]
   cases x <;> cases y <;> simp_all <;> omega
theorem OP.less (h : OP n rows se out a) (ho : OV n rows (se.set a.toNat true) l se2 R) : cnt3 se2 < cnt3 se := by
 have ha := h.a0
 have h1 := cnt3_set (l := se) (i := a.toNat) (by rw [h.len]; omega) h.no
 have h2 := cnt3_mono (a := se.set a.toNat true) (b := se2) (by rw [List.length_set,h.len,ho.len]) (fun i hi => (ho.mem i (by have := ix_len hi; rw [List.length_set,h.len] at this; exact this)).2 (.inl hi))
 omega
theorem ov_seen {T : List Int} (hk : k < T.length) (hd : ∀ t ∈ T.take k,ix se2 t.toNat = true) (h : ix se2 (ix T k).toNat = true) : ∀ t ∈ T.take (k + 1),ix se2 t.toNat = true := fun t ht => by
 rw [take_ix hk,List.mem_append] at ht
 rcases ht with ht | ht
 · exact hd t ht
 · simp at ht; subst ht; exact h
theorem ov_next {T : List Int} (hk : k < T.length) (hd : ∀ t ∈ T.take k,ix se2 t.toNat = true) (hr : ∀ t ∈ T,0 ≤ t ∧ t < n) (ho : OV n rows se2 l se3 (fun v => v = ix T k)) (hl : ix T k ∈ l) : ∀ t ∈ T.take (k + 1),ix se3 t.toNat = true := by
 refine ov_seen hk (fun t ht => ?_) ?_
 · have := hr t (List.mem_of_mem_take ht)
   exact ho.up (by omega) (hd t ht)
 · have h1 := hr _ (ix_mem hk)
   exact (ho.mem _ (by omega)).2 (.inr (by rw [Int.toNat_of_nonneg h1.1]; exact hl))
end
structure PO (n : Nat) (rows : List (List Int)) (se : List Bool) (l : List Int) (se' : List Bool) (a : Int) : Prop where
 ends : ∃ l0,l = l0 ++ [a]
 ov : OV n rows se l se' (fun v => v = a)
theorem PO.mem {n : Nat} {rows : List (List Int)} {se se' : List Bool} {l : List Int} {a : Int} (h : PO n rows se l se' a) : a ∈ l := by obtain ⟨l0,e⟩ := h.ends; rw [e]; simp
theorem ix_out {α : Type} [Inhabited α] {l : List α} {i : Nat} (h : l.length ≤ i) : ix l i = default := by
 simp [ix,List.getD,List.getElem?_eq_none h]
theorem clean_len (g : List (List Int)) : (cleanM g).length = g.length := by simp [cleanM]
theorem clean_rng (g : List (List Int)) : ∀ v t,t ∈ ix (cleanM g) v → 0 ≤ t ∧ t < g.length := fun v t h => by
 by_cases hv : v < g.length
 · unfold cleanM at h
   rw [ix_mapG hv] at h
   exact (kept_mem.1 h).2
 · rw [ix_out (by rw [clean_len]; omega)] at h; cases h
theorem op_beg {n : Nat} {rows : List (List Int)} (hn : 0 < n ∧ n ≤ 512) (hl : rows.length = n) (hr : ∀ v t,t ∈ ix rows v → 0 ≤ t ∧ t < n) : OP n rows (List.replicate n false) [] 0 :=
 ⟨by simp,hn.2,⟨Int.le_refl _,by omega⟩,ix_rep _ _,hl,hr,List.nodup_nil,fun v h => by cases h⟩
theorem PO.len {n : Nat} {rows : List (List Int)} {se se' : List Bool} {l : List Int} {a : Int} (h : PO n rows se l se' a) (hn : n ≤ 512) : ([] ++ l).length < 1073741824 := by
 have h1 := nodup_len n l h.ov.nd (fun v hv => (h.ov.new v hv).1)
 rw [List.nil_append]; omega
theorem PO.od {n : Nat} {rows : List (List Int)} {se' : List Bool} {l : List Int} (h : PO n rows (List.replicate n false) l se' 0) (hn : 0 < n) (hr : ∀ v t,t ∈ ix rows v → 0 ≤ t ∧ t < n) (hw : ∀ b,b < n → ∃ w,RB (fun q t => (t : Int) ∈ ix rows q) w b) : OD n rows (revM ([] ++ l)) := by
 obtain ⟨l0,e⟩ := h.ends
 have h1 := h.ov
 rw [List.nil_append,e] at *
 exact od_of hn hr h1 hw
def edgesT (rows : List (List Int)) : Nat → List (Int × Int)
 | 0 => []
 | k + 1 => edgesT rows k ++ (ix rows k).map (fun b => ((k : Int),b))
theorem edges_pre {rows : List (List Int)} : ∀ {n k : Nat},k ≤ n → ∃ m,edgesT rows n = edgesT rows k ++ m
 | 0,k,h => ⟨[],by rw [show k = 0 by omega]; simp⟩
 | n + 1,k,h => by
   rcases Nat.lt_or_ge n k with h1 | h1
   · rw [show k = n + 1 by omega]; exact ⟨[],by simp⟩
   · obtain ⟨m,e⟩ := edges_pre (rows := rows) h1
     exact ⟨m ++ (ix rows n).map (fun b => ((n : Int),b)),by rw [edgesT,e,List.append_assoc]⟩
theorem edge_at {rows : List (List Int)} {n k j : Nat} (hk : k < n) (hj : j < (ix rows k).length) : (edgesT rows k).length + j < (edgesT rows n).length ∧ ∀ h,(edgesT rows n)[(edgesT rows k).length + j]'h = ((k : Int),ix (ix rows k) j) := by
 obtain ⟨m,e⟩ := edges_pre (rows := rows) (show k + 1 ≤ n from hk)
 rw [edgesT] at e
 refine ⟨by rw [e]; simp; omega,fun h => ?_⟩
 have h2 : (edgesT rows n)[(edgesT rows k).length + j]? = some ((k : Int),ix (ix rows k) j) := by
   rw [e,List.append_assoc,List.getElem?_append_right (by omega),Nat.add_sub_cancel_left,List.getElem?_append_left (by simpa using hj),List.getElem?_map,ix_eq hj,List.getElem?_eq_getElem hj]; rfl
 rw [List.getElem?_eq_getElem h] at h2
 injection h2
theorem edges_next {rows : List (List Int)} {k : Nat} : (edgesT rows (k + 1)).length = (edgesT rows k).length + (ix rows k).length := by rw [edgesT]; simp
abbrev Ed (n : Nat) := { p : Int × Int // (0 ≤ p.1 ∧ p.1 < n) ∧ 0 ≤ p.2 ∧ p.2 < n }
def edEnc {n : Nat} (x : Ed n) : List Value := [.int .i64 x.val.1,.int .i64 x.val.2]
theorem edges_rng {g : List (List Int)} : ∀ {k : Nat},k ≤ g.length → ∀ p ∈ edgesT (cleanM g) k,(0 ≤ p.1 ∧ p.1 < g.length) ∧ 0 ≤ p.2 ∧ p.2 < g.length
 | 0,_,_,h => by cases h
 | k + 1,hk,p,h => by
   rw [edgesT] at h
   rcases List.mem_append.1 h with h1 | h1
   · exact edges_rng (by omega) p h1
   · obtain ⟨b,h2,rfl⟩ := List.mem_map.1 h1
     exact ⟨⟨by dsimp only; omega,by dsimp only; omega⟩,clean_rng g k b h2⟩
def edgesX (g : List (List Int)) : List (Ed g.length) := (edgesT (cleanM g) g.length).attachWith _ (fun p hp => edges_rng (Nat.le_refl _) p hp)
theorem edgesX_len {g : List (List Int)} : (edgesX g).length = (edgesT (cleanM g) g.length).length := by simp [edgesX]
theorem edgesX_at {g : List (List Int)} {i : Nat} (h : i < (edgesX g).length) : (edgesX g)[i].val = (edgesT (cleanM g) g.length)[i]'(by rw [← edgesX_len]; exact h) := by simp [edgesX]
def pushE (rs : List (List Int)) (p : Int × Int) : List (List Int) := rs.set p.2.toNat (ix rs p.2.toNat ++ [p.1])
def predsE (n : Nat) (l : List (Int × Int)) : List (List Int) := l.foldl pushE (List.replicate n [])
def predsG (g : List (List Int)) : List (List Int) := predsE g.length (edgesT (cleanM g) g.length)
theorem predsE_len {n : Nat} (l : List (Int × Int)) : (predsE n l).length = n := by
 unfold predsE
 have : ∀ (l : List (Int × Int)) (rs : List (List Int)),(l.foldl pushE rs).length = rs.length := by
   intro l
   induction l with
   | nil => intro rs; rfl
   | cons p l ih => intro rs; rw [List.foldl_cons,ih]; simp [pushE]
 rw [this]; simp
theorem predsE_snoc {n : Nat} {l : List (Int × Int)} {p : Int × Int} : predsE n (l ++ [p]) = pushE (predsE n l) p := by unfold predsE; rw [List.foldl_append]; rfl
theorem edgesX_val (g : List (List Int)) : (edgesX g).map Subtype.val = edgesT (cleanM g) g.length := List.ext_getElem (by simp [edgesX]) fun i h1 h2 => by rw [List.getElem_map]; exact edgesX_at _
theorem edges_few {g : List (List Int)} (hg : g.length ≤ 512) : ∀ k,k ≤ g.length → (edgesT (cleanM g) k).length ≤ 512 * k
 | 0,_ => Nat.le_refl _
 | k + 1,h => by
   have h1 := edges_few hg k (by omega)
   have h2 := nodup_len g.length (ix (cleanM g) k) (by unfold cleanM; rw [ix_mapG (by omega)]; exact (kept_ris _ _).imp (fun h => by omega)) (fun v hv => clean_rng g k v hv)
   rw [edges_next]; omega
theorem predsE_each {n : Nat} : ∀ (l : List (Int × Int)) (rs : List (List Int)) (c : Nat),(∀ r ∈ rs,r.length ≤ c) → ∀ r ∈ l.foldl pushE rs,r.length ≤ c + l.length
 | [],rs,c,h,r,hr => by have := h r hr; simpa using this
 | p :: l,rs,c,h,r,hr => by
   rw [List.foldl_cons] at hr
   have := predsE_each (n := n) l (pushE rs p) (c + 1) (fun r hr => by
     unfold pushE at hr
     rcases List.mem_or_eq_of_mem_set hr with h1 | h1
     · have := h r h1; omega
     · subst h1
       rw [List.length_append]
       by_cases hj : p.2.toNat < rs.length
       · have := h _ (ix_mem hj); simp; omega
       · rw [ix_out (by omega)]; simp [default]; ) r hr
   rw [List.length_cons]; omega
theorem predsE_small {g : List (List Int)} (hg : g.length ≤ 512) : ∀ l ∈ predsE g.length (edgesT (cleanM g) g.length),l.length < 1073741824 := fun l hl => by
 have h1 := predsE_each (n := g.length) (edgesT (cleanM g) g.length) (List.replicate g.length []) 0 (fun r hr => by rw [List.eq_of_mem_replicate hr]; simp) l hl
 have h2 := edges_few hg g.length (Nat.le_refl _)
 have h3 : 512 * g.length ≤ 512 * 512 := Nat.mul_le_mul_left _ hg
 omega
theorem predsE_le {n j : Nat} (l : List (Int × Int)) : ((predsE n l)[j]?.getD []).length ≤ l.length := by
 cases h : (predsE n l)[j]? with
 | none => simp
 | some x =>
   obtain ⟨hj,e⟩ := List.getElem?_eq_some_iff.1 h
   have := predsE_each (n := n) l (List.replicate n []) 0 (fun r hr => by rw [List.eq_of_mem_replicate hr]; simp) x (by rw [← e]; exact List.getElem_mem hj)
   simpa using this
theorem edgesX_few {g : List (List Int)} (hg : g.length ≤ 512) : (edgesX g).length ≤ 262144 := by
 rw [edgesX_len]
 have h2 := edges_few hg g.length (Nat.le_refl _)
 have h3 : 512 * g.length ≤ 512 * 512 := Nat.mul_le_mul_left _ hg
 omega
theorem push_row {n : Nat} {q : Int} : ∀ (row : List Int) (rs : List (List Int)),rs.length = n → row.Nodup → (∀ v ∈ row,0 ≤ v ∧ v < n) → ∀ v : Nat,ix ((row.map (fun b => (q,b))).foldl pushE rs) v = ix rs v ++ if (v : Int) ∈ row then [q] else []
 | [],rs,_,_,_,v => by simp
 | b :: row,rs,hl,hn,hr,v => by
   have h1 := hr b (by simp)
   have h2 := List.nodup_cons.1 hn
   have h3 := push_row (q := q) row (pushE rs (q,b)) (by simp [pushE,hl]) h2.2 (fun v hv => hr v (by simp [hv])) v
   rw [List.map_cons,List.foldl_cons,h3]
   unfold pushE
   dsimp only
   rw [ix_set (by omega)]
   by_cases e : v = b.toNat
   · have e2 : (v : Int) = b := by omega
     rw [if_pos e,← e,e2,if_neg h2.1,if_pos (by simp),List.append_nil]
   · have e2 : ¬ (v : Int) = b := by omega
     rw [if_neg e]
     congr 1
     by_cases h4 : (v : Int) ∈ row
     · rw [if_pos h4,if_pos (by simp [h4])]
     · rw [if_neg h4,if_neg (by simp [h4,e2])]
def predK (rows : List (List Int)) : Nat → Nat → List Int
 | 0,_ => []
 | k + 1,v => predK rows k v ++ if (v : Int) ∈ ix rows k then [(k : Int)] else []
theorem preds_K {n : Nat} {rows : List (List Int)} (hn : ∀ k,(ix rows k).Nodup) (hr : ∀ v t,t ∈ ix rows v → 0 ≤ t ∧ t < n) (v : Nat) : ∀ k,ix (predsE n (edgesT rows k)) v = predK rows k v
 | 0 => by unfold predsE; rw [edgesT,predK,List.foldl_nil]; by_cases h : v < n <;> simp [ix,h] <;> rfl
 | k + 1 => by
   have h1 := preds_K hn hr v k
   rw [edgesT,predK,← h1]
   unfold predsE
   rw [List.foldl_append]
   exact push_row _ _ (predsE_len (n := n) _) (hn k) (hr k) v
theorem clean_nd (g : List (List Int)) (k : Nat) : (ix (cleanM g) k).Nodup := by
 by_cases hk : k < g.length
 · unfold cleanM; rw [ix_mapG hk]; exact (kept_ris _ _).imp (fun h => by omega)
 · rw [ix_out (by rw [clean_len]; omega)]; exact List.nodup_nil
theorem predsG_at (g : List (List Int)) (v : Nat) : ix (predsG g) v = predK (cleanM g) g.length v := preds_K (clean_nd g) (clean_rng g) v _
theorem predK_mem {rows : List (List Int)} {v : Nat} : ∀ {n : Nat} {x : Int},x ∈ predK rows n v ↔ ∃ k : Nat,k < n ∧ x = k ∧ (v : Int) ∈ ix rows k
 | 0,x => by simp [predK]
 | n + 1,x => by
   rw [predK,List.mem_append,predK_mem (n := n)]
   constructor
   · rintro (⟨k,h1,h2,h3⟩ | h)
     · exact ⟨k,by omega,h2,h3⟩
     · split at h
       · rename_i h2; simp at h; exact ⟨n,by omega,h,h2⟩
       · cases h
   · rintro ⟨k,h1,h2,h3⟩
     rcases Nat.lt_or_ge k n with h4 | h4
     · exact .inl ⟨k,h4,h2,h3⟩
     · have e : k = n := by omega
       subst e
       exact .inr (by rw [if_pos h3]; simpa using h2)
theorem preds_len (g : List (List Int)) : (predsG g).length = g.length := predsE_len _
def prG (g : List (List Int)) (q t : Nat) : Prop := (t : Int) ∈ ix (cleanM g) q
theorem prG_rng {g : List (List Int)} {q t : Nat} (h : prG g q t) : q < g.length ∧ t < g.length := by
 refine ⟨?_,by have := clean_rng g q t h; omega⟩
 rcases Nat.lt_or_ge q g.length with h1 | h1
 · exact h1
 · unfold prG at h; rw [ix_out (by rw [clean_len]; omega)] at h; cases h
theorem preds_pr {g : List (List Int)} {p b : Nat} : (p : Int) ∈ ix (predsG g) b ↔ prG g p b := by
 rw [predsG_at,predK_mem]
 constructor
 · rintro ⟨k,h1,h2,h3⟩
   have : p = k := by omega
   subst this; exact h3
 · exact fun h => ⟨p,(prG_rng h).1,rfl,h⟩
theorem preds_rng {g : List (List Int)} {b : Nat} {x : Int} (h : x ∈ ix (predsG g) b) : 0 ≤ x ∧ x < g.length := by
 rw [predsG_at,predK_mem] at h
 obtain ⟨k,h1,h2,_⟩ := h
 omega
theorem OD.gn {g : List (List Int)} {ord num : List Int} (hn : 0 < g.length) (ho : OD g.length (cleanM g) ord) (hu : NU g.length ord num) : GN g.length num (prG g) ∧ ord.length ≤ g.length :=
 od_gn hn (fun v t h => ⟨clean_rng g v t h,by
   rcases Nat.lt_or_ge v g.length with h1 | h1
   · exact h1
   · rw [ix_out (by rw [clean_len]; omega)] at h; cases h⟩) ho hu
theorem od_len {n : Nat} {rows : List (List Int)} {ord : List Int} (ho : OD n rows ord) : ord.length ≤ n := nodup_len n ord ho.nd (fun v hv => (ho.all v).1 hv)
theorem od_rng {n : Nat} {rows : List (List Int)} {ord : List Int} (ho : OD n rows ord) {k : Nat} (hk : k < ord.length) : 0 ≤ ix ord k ∧ ix ord k < n := (ho.all _).1 (ix_mem hk)
theorem sub_len : ∀ (l m : List Int),l.Nodup → (∀ x ∈ l,x ∈ m) → l.length ≤ m.length
 | [],m,_,_ => Nat.zero_le _
 | x :: l,m,h,h2 => by
   have h3 := List.nodup_cons.1 h
   have h4 := sub_len l (m.erase x) h3.2 (fun y hy => (List.mem_erase_of_ne (fun e => h3.1 (by rw [← e]; exact hy))).2 (h2 y (by simp [hy])))
   have h5 := h2 x (by simp)
   rw [List.length_erase_of_mem h5] at h4
   have := List.length_pos_of_mem h5
   rw [List.length_cons]; omega
theorem od_full {n : Nat} {rows : List (List Int)} {ord : List Int} (ho : OD n rows ord) : n ≤ ord.length := by
 have h : ∀ k,k ≤ n → ∃ l : List Int,l.length = k ∧ l.Nodup ∧ ∀ x ∈ l,0 ≤ x ∧ x < k := by
   intro k
   induction k with
   | zero => exact fun _ => ⟨[],rfl,List.nodup_nil,fun x h => by cases h⟩
   | succ k ih =>
     intro hk
     obtain ⟨l,h1,h2,h3⟩ := ih (by omega)
     refine ⟨(k : Int) :: l,by simp [h1],List.nodup_cons.2 ⟨fun h4 => by have := h3 _ h4; omega,h2⟩,fun x hx => ?_⟩
     rcases List.mem_cons.1 hx with h4 | h4
     · omega
     · have := h3 x h4; omega
 obtain ⟨l,h1,h2,h3⟩ := h n (Nat.le_refl _)
 have := sub_len l ord h2 (fun x hx => (ho.all _).2 (h3 x hx))
 omega
theorem nodup_inj {α : Type} : ∀ {l : List α},l.Nodup → ∀ {i j : Nat} (hi : i < l.length) (hj : j < l.length),l[i] = l[j] → i = j
 | [],_,i,_,hi,_,_ => by cases hi
 | x :: l,h,0,0,_,_,_ => rfl
 | x :: l,h,0,j + 1,_,hj,e => by
   rw [List.getElem_cons_zero,List.getElem_cons_succ] at e
   exact absurd (by rw [e]; exact List.getElem_mem _) (List.nodup_cons.1 h).1
 | x :: l,h,i + 1,0,hi,_,e => by
   rw [List.getElem_cons_zero,List.getElem_cons_succ] at e
   exact absurd (by rw [← e]; exact List.getElem_mem _) (List.nodup_cons.1 h).1
 | x :: l,h,i + 1,j + 1,hi,hj,e => by
   rw [List.getElem_cons_succ,List.getElem_cons_succ] at e
   rw [nodup_inj (List.nodup_cons.1 h).2 _ _ e]
def NK (n : Nat) (ord nm : List Int) (k : Nat) : Prop := nm.length = n ∧ ∀ j,j < k → ix nm (ix ord j).toNat = j
theorem NK.nx {n : Nat} {rows : List (List Int)} {ord nm : List Int} {k : Nat} (ho : OD n rows ord) (h : NK n ord nm k) (hk : k < ord.length) : NK n ord (nm.set (ix ord k).toNat k) (k + 1) := by
 refine ⟨by rw [List.length_set]; exact h.1,fun j hj => ?_⟩
 have h1 := od_rng ho hk
 have h2 := od_rng ho (k := j) (by omega)
 rw [ix_set (by rw [h.1]; omega)]
 split
 · rename_i e
   have e2 : ix ord j = ix ord k := by omega
   have : j = k := by
     rw [ix_eq (show j < ord.length by omega),ix_eq hk] at e2
     exact nodup_inj ho.nd _ _ e2
   omega
 · rename_i e
   rcases Nat.lt_or_ge j k with h3 | h3
   · exact h.2 j h3
   · exact absurd (show (ix ord j).toNat = (ix ord k).toNat by rw [show j = k by omega]) e
theorem NK.nu {n : Nat} {ord nm : List Int} (h : NK n ord nm ord.length) : NU n ord nm := ⟨h.1,h.2⟩
structure IR (n : Nat) (num : List Int) (pr : Nat → Nat → Prop) (ou0 ou : List Int) (ch : Bool) (k : Nat) : Prop where
 is : IS n num pr ou ((k + 1 : Nat) : Int)
 le : smI n num ou n ≤ smI n num ou0 n
 lt : ch = true → smI n num ou n < smI n num ou0 n
section
variable {n : Nat} {num ou0 ou : List Int} {pr : Nat → Nat → Prop} {ch : Bool} {k : Nat} {best : Int} {b : Nat}
theorem IR.set (hg : GN n num pr) (h : IR n num pr ou0 ou ch k) (hb : b < n) (hb0 : b ≠ 0) (hi : ix num b = ((k + 1 : Nat) : Int)) (hB : BS ou (fun p => pr p b) best) (hne : ix ou b ≠ best) : IR n num pr ou0 (ou.set b best) true (k + 1) := by
 obtain ⟨h1,h2,h3,h4⟩ := h.is.step hg hb hb0 hi hB
 have h5 := h.is.less hg hb ⟨h1,h2⟩ hne h4
 have h6 := h.le
 exact ⟨by rw [show ((k + 1 + 1 : Nat) : Int) = ((k + 1 : Nat) : Int) + 1 by omega]; exact h3,by omega,fun _ => by omega⟩
theorem IR.keep (hg : GN n num pr) (h : IR n num pr ou0 ou ch k) (hb : b < n) (hb0 : b ≠ 0) (hi : ix num b = ((k + 1 : Nat) : Int)) (hB : BS ou (fun p => pr p b) best) (he : ix ou b = best) : IR n num pr ou0 ou ch (k + 1) := by
 obtain ⟨h1,h2,h3,h4⟩ := h.is.step hg hb hb0 hi hB
 have hl : b < ou.length := by rw [h.is.tv.len]; exact hb
 have e : ou.set b best = ou := by rw [← he,ix_eq hl]; exact List.set_getElem_self _
 rw [e] at h3
 exact ⟨by rw [show ((k + 1 + 1 : Nat) : Int) = ((k + 1 : Nat) : Int) + 1 by omega]; exact h3,h.le,h.lt⟩
end
def DomG (g : List (List Int)) (out : List Int) : Prop := out.length = g.length ∧ ∀ a b : Nat,a < g.length → b < g.length → (a = b ∨ ¬ RB (prG g) a b) → dominM out a b = true
theorem IS.dg {g : List (List Int)} {num out : List Int} (hg : GN g.length num (prG g)) (h : IS g.length num (prG g) out (g.length : Int)) : DomG g out := by
 refine ⟨h.tv.len,fun a b ha hb hd => ?_⟩
 have h1 := h.dm b a hb (h.fp b hb (hg.rng b hb).2) hd
 have hl := h.tv.len
 unfold dominM inR
 rw [if_pos ⟨by simp; omega,by simp; omega⟩]
 refine domF_yes h.tv _ h1 hb ?_
 have := hg.rng b hb
 have := hg.rng a ha
 omega
theorem IS.pd {n : Nat} {num out : List Int} {pr : Nat → Nat → Prop} {i : Int} (h : IS n num pr out i) {x : Int} (hx : 0 ≤ x) : pdn out x.toNat ↔ ¬ (x ≠ 0 ∧ ix out x.toNat < 0) := by
 unfold pdn
 constructor
 · rintro (h1 | h1) ⟨h2,h3⟩ <;> omega
 · intro h1
   by_cases e : x = 0
   · exact .inl (by omega)
   · exact .inr (by rcases Int.lt_or_le (ix out x.toNat) 0 with h2 | h2; exact absurd ⟨e,h2⟩ h1; exact h2)
theorem com_done {n : Nat} {num out : List Int} {pr : Nat → Nat → Prop} (hg : GN n num pr) (hv : TV n num out) {a b : Int} : ∀ (k : Nat) {a' b' : Int},CO n num out a b a' b' → (ix num a'.toNat).toNat + (ix num b'.toNat).toNat < k → ∃ c,comF out num k a' b' = c ∧ (0 ≤ c ∧ c < n) ∧ pdn out c.toNat ∧ An out c.toNat a.toNat ∧ An out c.toNat b.toNat ∧ ∀ x,An out x a.toNat → An out x b.toNat → An out x c.toNat
 | 0,a',b',_,h => absurd h (Nat.not_lt_zero _)
 | k + 1,a',b',h,hk => by
   rw [comF]
   have ra := h.ra
   have rb := h.rb
   have na := hg.rng a'.toNat (by omega)
   have nb := hg.rng b'.toNat (by omega)
   split
   · rename_i h1
     obtain ⟨h2,h3⟩ := h.left hg hv h1
     have := hg.rng (ix out a'.toNat).toNat (by have := h2.ra; omega)
     exact com_done hg hv k h2 (by omega)
   · split
     · rename_i h1
       obtain ⟨h2,h3⟩ := h.right hg hv h1
       have := hg.rng (ix out b'.toNat).toNat (by have := h2.rb; omega)
       exact com_done hg hv k h2 (by omega)
     · exact ⟨_,rfl,ra,h.pa,h.done hg (by omega)⟩
theorem comM_done {n : Nat} {num out : List Int} {pr : Nat → Nat → Prop} (hg : GN n num pr) (hv : TV n num out) {a b : Int} (ha : 0 ≤ a ∧ a < n) (hb : 0 ≤ b ∧ b < n) (h1 : pdn out a.toNat) (h2 : pdn out b.toNat) : (0 ≤ comM out num a b ∧ comM out num a b < n) ∧ pdn out (comM out num a b).toNat ∧ An out (comM out num a b).toNat a.toNat ∧ An out (comM out num a b).toNat b.toNat ∧ ∀ x,An out x a.toNat → An out x b.toNat → An out x (comM out num a b).toNat := by
 obtain ⟨c,h3,h4⟩ := com_done hg hv _ (CO.beg ha hb h1 h2) (Nat.lt_succ_self _)
 unfold comM
 rw [h3]; exact h4
theorem fill_put {n k : Nat} {a b : Int} (hk : k < n) : (List.replicate k a ++ List.replicate (n - k) b).set k a = List.replicate (k + 1) a ++ List.replicate (n - (k + 1)) b := by
 obtain ⟨j,hj⟩ : ∃ j,n - k = j + 1 := ⟨n - k - 1,by omega⟩
 rw [hj,show n - (k + 1) = j by omega,List.replicate_succ (n := j),List.set_append_right _ _ (by simp),List.length_replicate,Nat.sub_self,List.set_cons_zero,List.replicate_succ' (n := k),List.append_assoc]; rfl
section
variable {n : Nat} {num ou l : List Int} {pr : Nat → Nat → Prop} {i a best : Int} {j : Nat}
def S9 (n : Nat) (ou l : List Int) (j : Nat) (best : Int) : Prop := j ≤ l.length ∧ BS ou (Pk l j) best ∧ -1 ≤ best ∧ best < (n : Int)
theorem s9_skip (hg : GN n num pr) (hs : IS n num pr ou i) (h : S9 n ou l j best) (ha : ix l j = a) (hr : 0 ≤ a ∧ a < n) (hj : j < l.length) (hc : ix num a.toNat < 0 ∨ ¬ a = 0 ∧ ix ou a.toNat < 0) : S9 n ou l (j + 1) best := by
 refine ⟨by omega,h.2.1.skip hj (by omega) ?_,h.2.2⟩
 rw [ha]
 intro h1
 have h2 := (hs.pd hr.1).1 h1
 have h3 := (hg.rng a.toNat (by omega)).1
 rcases hc with h4 | h4
 · omega
 · exact h2 h4
theorem s9_pd (hs : IS n num pr ou i) (hr : 0 ≤ a ∧ a < n) (hc : ¬ a = 0 → 0 ≤ ix ou a.toNat) : pdn ou a.toNat := (hs.pd hr.1).2 fun h => by have := hc h.1; omega
theorem s9_first (hs : IS n num pr ou i) (h : S9 n ou l j best) (ha : ix l j = a) (hr : 0 ≤ a ∧ a < n) (hj : j < l.length) (hc : ¬ a = 0 → 0 ≤ ix ou a.toNat) (hb : best < 0) : S9 n ou l (j + 1) a := by
 have h1 := h.2.1.first hb hj (by omega) (by rw [ha]; exact s9_pd hs hr hc)
 rw [ha] at h1
 exact ⟨by omega,h1,by omega,hr.2⟩
theorem s9_ok (hg : GN n num pr) (hl : num.length = n) (hs : IS n num pr ou i) (h : S9 n ou l j best) (hr : 0 ≤ a ∧ a < n) (hc : ¬ a = 0 → 0 ≤ ix ou a.toNat) (hb : 0 ≤ best) : ComOK ou num best a :=
 ⟨n,pr,hg,hl,hs.tv,CO.beg ⟨hb,h.2.2.2⟩ hr (h.2.1.pd hb) (s9_pd hs hr hc)⟩
theorem s9_com (hg : GN n num pr) (hs : IS n num pr ou i) (h : S9 n ou l j best) (ha : ix l j = a) (hr : 0 ≤ a ∧ a < n) (hj : j < l.length) (hc : ¬ a = 0 → 0 ≤ ix ou a.toNat) (hb : 0 ≤ best) : S9 n ou l (j + 1) (comM ou num best a) := by
 have hp := s9_pd hs hr hc
 obtain ⟨h1,h2,h3⟩ := comM_done hg hs.tv ⟨hb,h.2.2.2⟩ hr (h.2.1.pd hb) hp
 exact ⟨by omega,h.2.1.com hb hj (by omega) (by rw [ha]; exact hp) h1.1 h2 (by rw [ha]; exact h3),by omega,h1.2⟩
end
theorem S9.all {g : List (List Int)} {ou : List Int} {j b : Nat} {best : Int} (h : S9 g.length ou (ix (predsG g) b) j best) (hj : j = (ix (predsG g) b).length) : BS ou (fun p => prG g p b) best := by
 subst hj; exact h.2.1.all (fun p => preds_pr)
theorem ix_drop9 {l : List Int} {m k : Nat} : ix (l.drop m) k = ix l (m + k) := by simp [ix,List.getD]
theorem IS.end9 {n : Nat} {num out : List Int} {pr : Nat → Nat → Prop} {k : Nat} (h : IS n num pr out ((k + 1 : Nat) : Int)) (e : k + 1 = n) : IS n num pr out (n : Int) := by rw [← e] at h ⊢; exact h
inductive RA (to : List (List Int)) (n w : Nat) : Nat → Prop
 | zero : w ≠ 0 → RA to n w 0
 | step {x : Nat} {t : Int} : RA to n w x → t ∈ ix to x → 1 ≤ t → t < n → t ≠ w → RA to n w t.toNat
theorem RA.nz {to : List (List Int)} {n w x : Nat} (h : RA to n w x) : w ≠ 0 := by
 induction h with
 | zero h => exact h
 | step _ _ _ _ _ ih => exact ih
theorem ra_lt {to : List (List Int)} {n w x : Nat} (hn : 0 < n) (h : RA to n w x) : x < n := by
 induction h with
 | zero h => exact hn
 | step _ _ _ _ _ _ => omega
theorem ra_reach {to : List (List Int)} {f : D.Func} {n w x : Nat} (hl : f.Blocks.length = n) (hn : 0 < n) (ht : ∀ j,j < n → (ix f.Blocks j).Term.To = ix to j) (h : RA to n w x) : ix (reach3 f (w : Int)) x = true := by
 have hw := h.nz
 obtain ⟨h0,hc⟩ := reach3_cl (f := f) (w := (w : Int)) (by omega) (by omega)
 induction h with
 | zero h => exact h0
 | @step y t h1 h2 h3 h4 h5 ih => exact hc _ ih t (by rw [ht _ (ra_lt hn h1)]; exact h2) (by omega) (by omega) h5
def mkB (x : D.Block) : List Int := x.Phis.map (fun p => p.Dst) ++ x.Ins.flatMap makes3
def Vs (n : Nat) (to : List (List Int)) (par : Int) (bs : List D.Block) (b : Nat) (r : Int) : Prop := (0 ≤ r ∧ r < par) ∨ ∃ a,a < n ∧ (a = b ∨ ¬ RA to n a b) ∧ r ∈ mkB (ix bs a)
def Vo (n : Nat) (to : List (List Int)) (par : Int) (bs : List D.Block) (b : Nat) (r : Int) : Prop := (0 ≤ r ∧ r < par) ∨ ∃ a,a < n ∧ (a ≠ b ∧ ¬ RA to n a b) ∧ r ∈ mkB (ix bs a)
def gIn (S : Int → Prop) (l : List D.Ins) : Prop := ∀ k,k < l.length → ∀ r ∈ (ix l k).Args,S r ∨ r ∈ (l.take k).flatMap makes3
theorem gIn.add {S : Int → Prop} {l : List D.Ins} {i : D.Ins} (h : gIn S l) (hi : ∀ r ∈ i.Args,S r ∨ r ∈ l.flatMap makes3) : gIn S (l ++ [i]) := fun k hk r hr => by
 rw [List.length_append,List.length_singleton] at hk
 rcases Nat.lt_or_ge k l.length with h1 | h1
 · rw [ix_app h1] at hr
   rw [List.take_append_of_le_length (by omega)]; exact h k h1 r hr
 · have e : k = l.length := by omega
   subst e
   have e2 : ix (l ++ [i]) l.length = i := by rw [ix_eq (by simp)]; simp
   rw [e2] at hr
   rw [List.take_left' rfl]; exact hi r hr
theorem gIn.mono {S S' : Int → Prop} {l : List D.Ins} (h : gIn S l) (hs : ∀ r,S r → S' r) : gIn S' l := fun k hk r hr => (h k hk r hr).imp (hs r) id
structure VI (n : Nat) (to : List (List Int)) (par : Int) (bs : List D.Block) : Prop where
 len : bs.length = n
 gd : ∀ j,j < n → gIn (fun r => Vo n to par bs j r ∨ r ∈ (ix bs j).Phis.map (fun p => p.Dst)) (ix bs j).Ins
 tm : ∀ j,j < n → ∀ r ∈ (ix bs j).Term.Args,Vs n to par bs j r
 ph : ∀ j,j < n → ∀ p ∈ (ix bs j).Phis,∀ x ∈ p.In,(0 ≤ x.From ∧ x.From < n) ∧ Vs n to par bs x.From.toNat x.Val
def upB (bs bs' : List D.Block) : Prop := ∀ j,∀ r ∈ mkB (ix bs j),r ∈ mkB (ix bs' j)
section
variable {n : Nat} {to : List (List Int)} {par : Int} {bs bs' : List D.Block} {b : Nat} {r : Int}
theorem Vs.up (h : Vs n to par bs b r) (hu : upB bs bs') : Vs n to par bs' b r := h.imp id fun ⟨a,h1,h2,h3⟩ => ⟨a,h1,h2,hu a r h3⟩
theorem Vo.up (h : Vo n to par bs b r) (hu : upB bs bs') : Vo n to par bs' b r := h.imp id fun ⟨a,h1,h2,h3⟩ => ⟨a,h1,h2,hu a r h3⟩
theorem Vs.here (hb : b < n) (h : r ∈ mkB (ix bs b)) : Vs n to par bs b r := .inr ⟨b,hb,.inl rfl,h⟩
theorem Vs.split (h : Vs n to par bs b r) : (Vo n to par bs b r ∨ r ∈ (ix bs b).Phis.map (fun p => p.Dst)) ∨ r ∈ (ix bs b).Ins.flatMap makes3 := by
 rcases h with h | ⟨a,h1,h2,h3⟩
 · exact .inl (.inl (.inl h))
 · by_cases e : a = b
   · subst e
     rcases List.mem_append.1 h3 with h4 | h4
     · exact .inl (.inr h4)
     · exact .inr h4
   · exact .inl (.inl (.inr ⟨a,h1,⟨e,h2.resolve_left e⟩,h3⟩))
theorem VI.put {x : D.Block} (h : VI n to par bs) (hb : b < n) (hm : ∀ r ∈ mkB (ix bs b),r ∈ mkB x) (hp : x.Phis.map (fun p => p.Dst) = (ix bs b).Phis.map (fun p => p.Dst) ∨ ∀ r ∈ (ix bs b).Phis.map (fun p => p.Dst),r ∈ x.Phis.map (fun p => p.Dst))
   (hi : gIn (fun r => Vo n to par bs b r ∨ r ∈ (ix bs b).Phis.map (fun p => p.Dst)) x.Ins) (ht : ∀ r ∈ x.Term.Args,Vs n to par bs b r)
   (hq : ∀ p ∈ x.Phis,∀ y ∈ p.In,(0 ≤ y.From ∧ y.From < n) ∧ Vs n to par bs y.From.toNat y.Val) : VI n to par (bs.set b x) ∧ upB bs (bs.set b x) := by
 have hl := h.len
 have hu : upB bs (bs.set b x) := fun j r hr => by
   rw [ix_set (by omega)]; split
   · rename_i e; subst e; exact hm r hr
   · exact hr
 have hp' : ∀ r ∈ (ix bs b).Phis.map (fun p => p.Dst),r ∈ x.Phis.map (fun p => p.Dst) := fun r hr => hp.elim (fun e => by rw [e]; exact hr) (fun h => h r hr)
 refine ⟨⟨by rw [List.length_set]; exact hl,fun j hj => ?_,fun j hj r hr => ?_,fun j hj p hm9 y hy => ?_⟩,hu⟩
 · rw [ix_set (by omega)]; split
   · rename_i e; subst e
     exact hi.mono fun r hr => hr.imp (fun h => h.up hu) (hp' r)
   · exact (h.gd j hj).mono fun r hr => hr.imp (fun h => h.up hu) id
 · rw [ix_set (by omega)] at hr; split at hr
   · rename_i e; subst e; exact (ht r hr).up hu
   · exact (h.tm j hj r hr).up hu
 · rw [ix_set (by omega)] at hm9; split at hm9
   · rename_i e; subst e; have := hq p hm9 y hy; exact ⟨this.1,this.2.up hu⟩
   · have := h.ph j hj p hm9 y hy; exact ⟨this.1,this.2.up hu⟩
theorem VI.addI {i : D.Ins} (h : VI n to par bs) (hb : b < n) (hi : ∀ r ∈ i.Args,Vs n to par bs b r) : VI n to par (bs.set b { (ix bs b) with Ins := (ix bs b).Ins ++ [i] }) ∧ upB bs (bs.set b { (ix bs b) with Ins := (ix bs b).Ins ++ [i] }) ∧ ∀ r ∈ makes3 i,r ∈ mkB (ix (bs.set b { (ix bs b) with Ins := (ix bs b).Ins ++ [i] }) b) := by
 have h1 := h.put (x := { (ix bs b) with Ins := (ix bs b).Ins ++ [i] }) hb (fun r hr => by
   unfold mkB at hr ⊢
   dsimp only
   rw [List.flatMap_append]
   rcases List.mem_append.1 hr with h2 | h2
   · exact List.mem_append.2 (.inl h2)
   · exact List.mem_append.2 (.inr (List.mem_append.2 (.inl h2)))) (.inl rfl) ((h.gd b hb).add fun r hr => (hi r hr).split) (h.tm b hb) (h.ph b hb)
 refine ⟨h1.1,h1.2,fun r hr => ?_⟩
 rw [ix_set (by rw [h.len]; exact hb),if_pos rfl]
 unfold mkB
 dsimp only
 rw [List.flatMap_append]
 exact List.mem_append.2 (.inr (List.mem_append.2 (.inr (by simpa using hr))))
end
structure VB (n : Nat) (to : List (List Int)) (b : Nat) (par : Int) (bs : List D.Block) (lv : List Int) : Prop where
 vi : VI n to par bs
 vl : ∀ x ∈ lv,Vs n to par bs b x
abbrev VM (n : Nat) (to : List (List Int)) (b : Nat) (m : Mk) : Prop := VB n to b m.par m.bs m.lv
structure VG (n : Nat) (to : List (List Int)) (b : Nat) (m m' : Mk) : Prop where
 vm : VM n to b m'
 par : m'.par = m.par
 up : upB m.bs m'.bs
abbrev Wv (n : Nat) (to : List (List Int)) (b : Nat) (m : Mk) (x : Int) : Prop := Vs n to m.par m.bs b x
section
variable {n : Nat} {to : List (List Int)} {b : Nat} {m m' m2 : Mk} {x : Int}
theorem VG.on (g : VG n to b m m') (h : Wv n to b m x) : Wv n to b m' x := by unfold Wv; rw [g.par]; exact h.up g.up
theorem VG.tr (g : VG n to b m m') (h : VG n to b m' m2) : VG n to b m m2 := ⟨h.vm,h.par.trans g.par,fun j r hr => h.up j r (g.up j r hr)⟩
theorem VM.rf (h : VM n to b m) : VG n to b m m := ⟨h,rfl,fun _ _ h => h⟩
theorem VM.same (h : VM n to b m) (h1 : m'.par = m.par) (h2 : m'.bs = m.bs) (h3 : m'.lv = m.lv) : VG n to b m m' := ⟨by unfold VM; rw [h1,h2,h3]; exact h,h1,by rw [h2]; exact fun _ _ h => h⟩
theorem VM.add {i : D.Ins} (h : VM n to b m) (hb : b < n) (hi : ∀ r ∈ i.Args,Wv n to b m r) : VG n to b m (addS (b : Int) i m) ∧ ∀ r ∈ makes3 i,Wv n to b (addS (b : Int) i m) r := by
 obtain ⟨h1,h2,h3⟩ := h.vi.addI hb hi
 have e : (addS (b : Int) i m).bs = m.bs.set b { (ix m.bs b) with Ins := (ix m.bs b).Ins ++ [i] } := rfl
 have hn : ∀ r ∈ makes3 i,Wv n to b (addS (b : Int) i m) r := fun r hr => Vs.here hb (h3 r hr)
 refine ⟨⟨⟨h1,fun y hy => ?_⟩,rfl,h2⟩,hn⟩
 rcases List.mem_append.1 (show y ∈ m.lv ++ makes3 i from hy) with h4 | h4
 · exact (h.vl y h4).up h2
 · exact hn y h4
theorem VM.con {v : Int} (h : VM n to b m) (hb : b < n) : VG n to b m (constS (b : Int) v m) ∧ Wv n to b (constS (b : Int) v m) m.nx := by
 have h1 := VM.add (m := freshS m) (i := ⟨1,m.nx,0,[],v⟩) h hb (fun r hr => by cases hr)
 exact ⟨⟨h1.1.vm,rfl,h1.1.up⟩,h1.2 m.nx (by simp [makes3])⟩
theorem same_value : (valueS m).par = m.par ∧ (valueS m).bs = m.bs ∧ (valueS m).lv = m.lv := by unfold valueS; split <;> exact ⟨rfl,rfl,rfl⟩
theorem same_some0 : (someM0 m).par = m.par ∧ (someM0 m).bs = m.bs ∧ (someM0 m).lv = m.lv := by
 unfold someM0; split
 · exact same_value (m := m)
 · exact same_value
theorem VM.some (h : VM n to b m) (hb : b < n) : VG n to b m (sS9 (b : Int) m) ∧ Wv n to b (sS9 (b : Int) m) (sV9 m) := by
 obtain ⟨e1,e2,e3⟩ := same_some0 (m := m)
 have h0 : VG n to b m (someM0 m) := h.same e1 e2 e3
 unfold sS9 sV9
 by_cases hc : someC m = true
 · rw [if_pos hc,if_pos hc]
   have h1 := VM.con (m := wordS (someM0 m)) (v := wordV (someM0 m)) h0.vm hb
   exact ⟨⟨h1.1.vm,e1,fun j r hr => h1.1.up j r (h0.up j r hr)⟩,h1.2⟩
 · rw [if_neg hc,if_neg hc]
   refine ⟨h0,h0.on ?_⟩
   have hv : valueB m = true := by
     cases h9 : valueB m with
     | true => rfl
     | false => exact absurd (by unfold someC; rw [h9]; rfl) hc
   have hl : m.lv.length ≠ 0 := by unfold valueB at hv; simpa using hv
   unfold valueV
   rw [if_neg hl]
   have hr : 0 ≤ valueI m ∧ valueI m < m.lv.length := by
     unfold valueI; split
     · omega
     · exact tV9 (by omega) m
   exact h.vl _ (ix_mem (l := m.lv) (i := (valueI m).toNat) (by omega))
end
section
variable {n : Nat} {to : List (List Int)} {b : Nat} {m m' m2 : Mk} {x : Int}
theorem VG.wv (g : VG n to b m m') (h : ∀ x ∈ ([] : List Int),Wv n to b m x) : True := trivial
theorem w2 {y z : Int} (h1 : Wv n to b m y) (h2 : Wv n to b m z) : ∀ r ∈ [y,z],Wv n to b m r := fun r hr => by
 simp at hr; rcases hr with rfl | rfl <;> assumption
theorem w1 {y : Int} (h1 : Wv n to b m y) : ∀ r ∈ [y],Wv n to b m r := fun r hr => by simp at hr; subst hr; exact h1
theorem VM.me1 (h : VM n to b m) (hb : b < n) : VG n to b m (mem1 (b : Int) m).2 ∧ Wv n to b (mem1 (b : Int) m).2 (mem1 (b : Int) m).1 := by
 have h1 := VM.con (m := tSS m) (v := IntKind.i32.wrap (tVV 9 m)) h hb
 have g1 : VG n to b m (constS (b : Int) (IntKind.i32.wrap (tVV 9 m)) (tSS m)) := ⟨h1.1.vm,rfl,h1.1.up⟩
 have w0 := h1.2
 unfold mem1
 dsimp only
 generalize constS (b : Int) (IntKind.i32.wrap (tVV 9 m)) (tSS m) = m1 at g1 w0 ⊢
 split
 · have g2 : VG n to b m1 (tSS m1) := g1.vm.same rfl rfl rfl
   have h3 := VM.some (m := tSS m1) g2.vm hb
   have h4 := VM.con (m := sS9 (b : Int) (tSS m1)) (v := 7) h3.1.vm hb
   have h6 := VM.add (m := freshS (constS (b : Int) 7 (sS9 (b : Int) (tSS m1)))) (i := ⟨5,(constS (b : Int) 7 (sS9 (b : Int) (tSS m1))).nx,0,[sV9 (tSS m1),(sS9 (b : Int) (tSS m1)).nx],0⟩) h4.1.vm hb (w2 (h4.1.on h3.2) h4.2)
   have g14 := g2.tr (h3.1.tr h4.1)
   generalize constS (b : Int) 7 (sS9 (b : Int) (tSS m1)) = m4 at h4 h6 g14 ⊢
   have g6 : VG n to b m4 (addS (b : Int) ⟨5,m4.nx,0,[sV9 (tSS m1),(sS9 (b : Int) (tSS m1)).nx],0⟩ (freshS m4)) := ⟨h6.1.vm,rfl,h6.1.up⟩
   have w6 := h6.2 m4.nx (by simp [makes3])
   generalize addS (b : Int) ⟨5,m4.nx,0,[sV9 (tSS m1),(sS9 (b : Int) (tSS m1)).nx],0⟩ (freshS m4) = m6 at g6 w6 ⊢
   have h7 := VM.add (m := freshS m6) (i := ⟨2,m6.nx,0,[(tSS m).nx,m4.nx],0⟩) g6.vm hb (w2 (g6.on (g14.on w0)) w6)
   exact ⟨g1.tr (g14.tr (g6.tr ⟨h7.1.vm,rfl,h7.1.up⟩)),h7.2 _ (by simp [makes3])⟩
 · exact ⟨g1.tr (g1.vm.same rfl rfl rfl),w0⟩
theorem VM.me2 (h : VM n to b m) : VG n to b m (mem2 m).2 := by
 unfold mem2; dsimp only; split <;> exact h.same rfl rfl rfl
theorem VM.mem {st : Bool} (h : VM n to b m) (hb : b < n) : VG n to b m (memS (b : Int) st m) := by
 have h1 := h.me1 hb
 have h2 := h1.1.vm.me2
 unfold memS
 dsimp only
 split
 · have h3 := h2.vm.some hb
   have h4 := h3.1.vm.add (i := ⟨16,0,0,[(mem1 (b : Int) m).1,sV9 (mem2 (mem1 (b : Int) m).2).2],(mem2 (mem1 (b : Int) m).2).1⟩) hb (w2 (h3.1.on (h2.on h1.2)) h3.2)
   exact h1.1.tr (h2.tr (h3.1.tr h4.1))
 · have h4 := VM.add (m := freshS (mem2 (mem1 (b : Int) m).2).2) (i := ⟨15,(mem2 (mem1 (b : Int) m).2).2.nx,0,[(mem1 (b : Int) m).1],(mem2 (mem1 (b : Int) m).2).1⟩) h2.vm hb (w1 (h2.on h1.2))
   exact h1.1.tr (h2.tr ⟨h4.1.vm,rfl,h4.1.up⟩)
theorem VM.args (hb : b < n) : ∀ (k : Nat) (l : List Int) (m : Mk),VM n to b m → (∀ x ∈ l,Wv n to b m x) → VG n to b m (argsL (b : Int) k l m).2 ∧ ∀ x ∈ (argsL (b : Int) k l m).1,Wv n to b (argsL (b : Int) k l m).2 x
 | 0,l,m,h,hl => ⟨h.rf,hl⟩
 | k + 1,l,m,h,hl => by
   have h1 := h.some hb
   rw [argsL]
   obtain ⟨a,d⟩ := VM.args hb k (l ++ [sV9 m]) (sS9 (b : Int) m) h1.1.vm (fun x hx => by
     rcases List.mem_append.1 hx with h2 | h2
     · exact h1.1.on (hl x h2)
     · simp at h2; subst h2; exact h1.2)
   exact ⟨h1.1.tr a,d⟩
theorem VM.ad (h : VM n to b m) (hb : b < n) {i : D.Ins} (hs : m'.par = m.par) (hs2 : m'.bs = m.bs) (hs3 : m'.lv = m.lv) (hi : ∀ r ∈ i.Args,Wv n to b m r) : VG n to b m (addS (b : Int) i m') := by
 have g := h.same hs hs2 hs3
 have h1 := g.vm.add (i := i) hb (fun r hr => g.on (hi r hr))
 exact g.tr h1.1
theorem VM.co (h : VM n to b m) (hb : b < n) {v : Int} (hs : m'.par = m.par) (hs2 : m'.bs = m.bs) (hs3 : m'.lv = m.lv) : VG n to b m (constS (b : Int) v m') ∧ Wv n to b (constS (b : Int) v m') m'.nx := by
 have g := h.same hs hs2 hs3
 have h1 := g.vm.con (v := v) hb
 exact ⟨g.tr h1.1,h1.2⟩
theorem VM.ins (h : VM n to b m) (hb : b < n) : VG n to b m (insS (b : Int) m) := by
 have g1 : VG n to b m (tSS m) := h.same rfl rfl rfl
 have h2 := g1.vm.some hb
 have h3 := h2.1.vm.some hb
 have w1' := h3.1.on h2.2
 have g3 := g1.tr (h2.1.tr h3.1)
 unfold insS
 dsimp only
 generalize tVV 20 m = k
 generalize tSS m = m1 at g1 h2 h3 w1' g3 ⊢
 split
 · split
   · have h4 := VM.co h3.1.vm hb (m' := tSS (tSS (sS9 (b : Int) (sS9 (b : Int) m1)))) (v := IntKind.i32.wrap (tVV 40 (tSS (sS9 (b : Int) (sS9 (b : Int) m1))) - 8)) rfl rfl rfl
     exact g3.tr (h4.1.tr (h4.1.vm.ad hb rfl rfl rfl (w2 (h4.1.on w1') h4.2)))
   · exact g3.tr (h3.1.vm.ad hb rfl rfl rfl (w2 w1' h3.2))
 split
 · exact g3.tr (h3.1.vm.ad hb rfl rfl rfl (w2 w1' h3.2))
 split
 · have h4 := VM.co h2.1.vm hb (m' := tSS (sS9 (b : Int) m1)) (v := IntKind.i32.wrap (tVV 12 (sS9 (b : Int) m1))) rfl rfl rfl
   have g4 := g1.tr (h2.1.tr h4.1)
   split
   · have h5 := VM.co h4.1.vm hb (m' := tSS (tSS (constS (b : Int) (IntKind.i32.wrap (tVV 12 (sS9 (b : Int) m1))) (tSS (sS9 (b : Int) m1))))) (v := IntKind.i32.wrap (1 + IntKind.i32.wrap (tVV 12 (tSS (constS (b : Int) (IntKind.i32.wrap (tVV 12 (sS9 (b : Int) m1))) (tSS (sS9 (b : Int) m1))))))) rfl rfl rfl
     exact g4.tr (h5.1.tr (h5.1.vm.ad hb rfl rfl rfl (w2 (h5.1.on (h4.1.on h2.2)) h5.2)))
   · exact g4.tr (h4.1.vm.ad hb rfl rfl rfl (w2 (h4.1.on h2.2) h4.2))
 split
 · exact g1.tr (g1.vm.mem hb)
 split
 · obtain ⟨a,d⟩ := VM.args hb (tVV 5 m1).toNat [] (tSS m1) g1.vm (fun x hx => by cases hx)
   have a' : VG n to b m1 (argsL (b : Int) (tVV 5 m1).toNat [] (tSS m1)).2 := ⟨a.vm,a.par,a.up⟩
   exact g1.tr (a'.tr (a.vm.ad hb rfl rfl rfl d))
 split
 · exact g3.tr (h3.1.vm.ad hb rfl rfl rfl (w2 w1' h3.2))
 · exact g1.tr (VM.co g1.vm hb (m' := wordS m1) (v := wordV m1) rfl rfl rfl).1
theorem VM.is (hb : b < n) : ∀ (k : Nat) {m : Mk},VM n to b m → VG n to b m (insN b k m)
 | 0,_,h => h.rf
 | k + 1,_,h => (h.ins hb).tr (VM.is hb k (h.ins hb).vm)
theorem VM.sT {t : D.Term} (h : VM n to b m) (hb : b < n) (hs : m'.par = m.par) (hs2 : m'.bs = m.bs) (hs3 : m'.lv = m.lv) (ht : ∀ r ∈ t.Args,Wv n to b m r) : VG n to b m (setT (b : Int) t m') := by
 have h1 := h.vi.put (x := { (ix m.bs b) with Term := t }) hb (fun r hr => hr) (.inl rfl) (h.vi.gd b hb) ht (h.vi.ph b hb)
 have e : (setT (b : Int) t m').bs = m.bs.set b { (ix m.bs b) with Term := t } := by show m'.bs.set _ _ = _; rw [hs2]; rfl
 exact ⟨⟨by rw [e]; show VI n to m'.par _; rw [hs]; exact h1.1,fun y hy => by
   rw [e]; show Vs n to m'.par _ b y; rw [hs]; exact (h.vl y (by rw [← hs3]; exact hy)).up h1.2⟩,hs,by rw [e]; exact h1.2⟩
theorem VM.en {l : List Int} (h : VM n to b m) (hb : b < n) : VG n to b m (endS (b : Int) l m) := by
 unfold endS
 split
 · split
   · exact h.sT hb rfl rfl rfl (fun r hr => by cases hr)
   split
   · have g1 : VG n to b m (tSS m) := h.same rfl rfl rfl
     have h1 := g1.vm.some hb
     exact g1.tr (h1.1.tr (h1.1.vm.sT hb rfl rfl rfl (w1 h1.2)))
   · exact h.sT hb rfl rfl rfl (fun r hr => by cases hr)
 split
 · exact h.sT hb rfl rfl rfl (fun r hr => by cases hr)
 split
 · have h3 := h.some hb
   have g2 : VG n to b (sS9 (b : Int) m) (tSS (sS9 (b : Int) m)) := h3.1.vm.same rfl rfl rfl
   dsimp only
   split
   · have h4 := g2.vm.some hb
     have g5 := VM.same (m' := tSS (freshS (sS9 (b : Int) (tSS (sS9 (b : Int) m))))) h4.1.vm rfl rfl rfl
     have h5 := g5.vm.add (i := ⟨ix [11,12,13] (tVV 3 (freshS (sS9 (b : Int) (tSS (sS9 (b : Int) m))))).toNat,(sS9 (b : Int) (tSS (sS9 (b : Int) m))).nx,0,[sV9 m,sV9 (tSS (sS9 (b : Int) m))],0⟩) hb (w2 (g5.on (h4.1.on (g2.on h3.2))) (g5.on h4.2))
     refine h3.1.tr (g2.tr (h4.1.tr (g5.tr (h5.1.tr (h5.1.vm.sT hb rfl rfl rfl (w1 (h5.2 _ ?_)))))))
     have hop : ∀ i : Nat,i < 3 → ¬ ix [(11 : Int),12,13] i = 16 ∧ ¬ ix [(11 : Int),12,13] i = 18 := by decide
     have ho := hop (tVV 3 (freshS (sS9 (b : Int) (tSS (sS9 (b : Int) m))))).toNat (by have := tV9 (n := 3) (by omega) (freshS (sS9 (b : Int) (tSS (sS9 (b : Int) m)))); omega)
     unfold makes3
     rw [if_neg ho.1,if_neg ho.2]; simp
   · exact h3.1.tr (h3.1.vm.sT hb rfl rfl rfl (w1 h3.2))
 · have h3 := h.some hb
   have h4 := h3.1.vm.con (v := 7) hb
   have h5 := VM.add (m := freshS (constS (b : Int) 7 (sS9 (b : Int) m))) (i := ⟨5,(constS (b : Int) 7 (sS9 (b : Int) m)).nx,0,[sV9 m,(sS9 (b : Int) m).nx],0⟩) h4.1.vm hb (w2 (h4.1.on h3.2) h4.2)
   dsimp only
   have g5 : VG n to b (constS (b : Int) 7 (sS9 (b : Int) m)) (addS (b : Int) ⟨5,(constS (b : Int) 7 (sS9 (b : Int) m)).nx,0,[sV9 m,(sS9 (b : Int) m).nx],0⟩ (freshS (constS (b : Int) 7 (sS9 (b : Int) m)))) := ⟨h5.1.vm,rfl,h5.1.up⟩
   exact h3.1.tr (h4.1.tr (g5.tr (g5.vm.sT hb rfl rfl rfl (w1 (h5.2 _ (by simp [makes3]))))))
end
abbrev VN (n : Nat) (to : List (List Int)) (m : Mk) : Prop := VI n to m.par m.bs
section
variable {n b c : Nat} {to : List (List Int)} {m m' : Mk}
theorem RI.ra (h : RI n b c to m) (hn : 0 < n) {w x : Nat} (hr : ix (reach3 (fnM m) (w : Int)) x = false) : ¬ RA to n w x := fun h9 => by
 have := ra_reach (f := fnM m) h.len hn h.tos h9
 rw [hr] at this; cases this
theorem VN.lm {dn : List Bool} {q : Nat} (v : VN n to m) (h : RI n b c to m) (hn : 0 < n) : VM n to q (lvM n q dn m) := ⟨v,fun x hx => by
 show Vs n to m.par m.bs q x
 rcases List.mem_append.1 (show x ∈ numsL m.par.toNat ++ (List.range n).flatMap (fun i => lvB (fnM m) dn q i) from hx) with h1 | h1
 · have := numsL_mem h1; exact .inl (by omega)
 · obtain ⟨a,h2,h3⟩ := List.mem_flatMap.1 h1
   have ha := List.mem_range.1 h2
   unfold lvB at h3
   split at h3
   · cases h3
   · rename_i hs
     refine .inr ⟨a,ha,?_,h3⟩
     by_cases e : a = q
     · exact .inl e
     · refine .inr (h.ra hn ?_)
       unfold skipA at hs
       simp [e] at hs
       exact hs.2⟩
theorem VN.bl {dn : List Bool} {q : Nat} (v : VN n to m) (h : RI n b c to m) (hq : q < n) : VN n to (blkM n to q dn m) ∧ (blkM n to q dn m).par = m.par := by
 have h0 := v.lm (dn := dn) (q := q) h (by omega)
 have g1 : VG n to q (lvM n q dn m) (tSS (lvM n q dn m)) := h0.same rfl rfl rfl
 have g2 := VM.is hq (tVV 7 (lvM n q dn m)).toNat g1.vm
 have g3 := VM.en (l := ix to q) g2.vm hq
 unfold blkM
 exact ⟨g3.vm.vi,g3.par.trans g2.par⟩
theorem VN.row (hP : PB n to) (hL : ∀ j,(ix to j).length ≤ 65) : ∀ (k b c : Nat) (dn : List Bool) (m : Mk),b + k = n → dn.length = n → (∀ j,j < n → ix dn j = decide (j < b)) → RI n b c to m → VN n to m → VN n to (rowS n to k b dn m).2
 | 0,b,c,dn,m,hb,hl,hd,h,v => v
 | k + 1,b,c,dn,m,hb,hl,hd,h,v => by
   rw [rowS,if_pos (h.ready hP (by omega) hd)]
   exact VN.row hP hL k (b + 1) (c + 120) (dn.set b true) (blkM n to b (dn.set b true) m) (by omega) (by rw [List.length_set]; exact hl) (fun j hj => by
     rw [ix_set (by omega)]; split
     · rename_i e; subst e; simp
     · rename_i e; rw [hd j hj,decide_eq_decide]; omega) (h.bl (by omega) hL) (v.bl h (by omega)).1
theorem VN.turn (hP : PB n to) (hL : ∀ j,(ix to j).length ≤ 65) (hn : 0 < n) (h : RI n 0 c to m) (v : VN n to m) : VN n to (turnS n to n (List.replicate n false) m).2 := by
 obtain ⟨k,rfl⟩ : ∃ k,n = k + 1 := ⟨n - 1,by omega⟩
 rw [turnS]
 obtain ⟨x,y⟩ := RI.row hP hL (k + 1) 0 c (List.replicate (k + 1) false) m (by omega) (by simp) (fun j hj => by rw [ix_rep]; simp) h
 rw [turn_idle k _ _ y]
 exact VN.row hP hL (k + 1) 0 c (List.replicate (k + 1) false) m (by omega) (by simp) (fun j hj => by rw [ix_rep]; simp) h v
theorem VN.ap {j : Nat} (v : VN n to m) (hj : j < n) : VN n to (addP j m) := by
 refine (VI.put (x := { (ix m.bs j) with Phis := (ix m.bs j).Phis ++ [⟨m.nx,[]⟩] }) v hj (fun r hr => ?_) (.inr fun r hr => ?_) (v.gd j hj) (v.tm j hj) (fun p hp x hx => ?_)).1
 · unfold mkB at hr ⊢
   dsimp only
   rw [List.map_append]
   rcases List.mem_append.1 hr with h2 | h2
   · exact List.mem_append.2 (.inl (List.mem_append.2 (.inl h2)))
   · exact List.mem_append.2 (.inr h2)
 · rw [List.map_append]; exact List.mem_append.2 (.inl hr)
 · rcases List.mem_append.1 hp with h2 | h2
   · exact v.ph j hj p h2 x hx
   · simp at h2; subst h2; cases hx
theorem VN.pn {j : Nat} (hj : j < n) : ∀ (k : Nat) {m : Mk},VN n to m → VN n to (phiN j k m)
 | 0,_,h => h
 | k + 1,_,h => VN.pn hj k (h.ap hj)
theorem VN.ps : ∀ (k j : Nat) (ph : List Int) (m : Mk),j + k = n → VN n to m → VN n to (phiS k j ph m).2
 | 0,j,ph,m,hj,h => h
 | k + 1,j,ph,m,hj,h => by
   rw [phiS]
   exact VN.ps k (j + 1) _ _ (by omega) (VN.pn (m := tSS m) (by omega) _ h)
theorem phL_in {t : D.Tg3} {x : Int} {b : Int} : ∀ (l : List D.Phi) (i : Nat),t ∈ phL b i l → x ∈ t.Makes → t.Block = b ∧ x ∈ l.map (fun p => p.Dst)
 | [],_,h,_ => by cases h
 | p :: l,i,h,hx => by
   rw [phL] at h
   rcases List.mem_cons.1 h with rfl | h
   · simp [phT] at hx; subst hx; exact ⟨rfl,by simp⟩
   · have := phL_in l _ h hx; exact ⟨this.1,by simp only [List.map_cons,List.mem_cons]; exact .inr this.2⟩
theorem inL_in {t : D.Tg3} {x : Int} {b : Int} : ∀ (l : List D.Ins) (i : Nat),t ∈ inL b i l → x ∈ t.Makes → t.Block = b ∧ x ∈ l.flatMap makes3
 | [],_,h,_ => by cases h
 | p :: l,i,h,hx => by
   rw [inL] at h
   rcases List.mem_cons.1 h with rfl | h
   · exact ⟨rfl,List.mem_flatMap.2 ⟨p,by simp,hx⟩⟩
   · have := inL_in l _ h hx
     obtain ⟨q,h1,h2⟩ := List.mem_flatMap.1 this.2
     exact ⟨this.1,List.mem_flatMap.2 ⟨q,by simp [h1],h2⟩⟩
theorem blL_in {t : D.Tg3} {x : Int} : ∀ (l : List D.Block) (k : Nat),t ∈ blL k l → x ∈ t.Makes → ∃ a : Nat,a < l.length ∧ t.Block = ((k + a : Nat) : Int) ∧ x ∈ mkB (ix l a)
 | [],_,h,_ => by cases h
 | y :: l,k,h,hx => by
   rw [blL] at h
   rcases List.mem_append.1 h with h1 | h1
   · have := phL_in _ _ h1 hx
     exact ⟨0,by simp,by rw [this.1]; simp,List.mem_append.2 (.inl this.2)⟩
   · rcases List.mem_append.1 h1 with h1 | h1
     · have := inL_in _ _ h1 hx
       exact ⟨0,by simp,by rw [this.1]; simp,List.mem_append.2 (.inr this.2)⟩
     · rcases List.mem_cons.1 h1 with rfl | h1
       · cases hx
       · obtain ⟨a,h2,h3,h4⟩ := blL_in l (k + 1) h1 hx
         exact ⟨a + 1,by simp; omega,by rw [h3]; congr 1; omega,by rw [ix_cons]; exact h4⟩
theorem VN.stand {p : Int} (v : VN n to m) (h : RI n b c to m) (hp : 0 ≤ p ∧ p < n) : ∀ x ∈ stand3 (fnM m) p,Wv n to p.toNat m x := fun x hx => by
 rcases List.mem_append.1 hx with h1 | h1
 · have := numsL_mem h1
   have e : (fnM m).Params = m.par := rfl
   rw [e] at this; exact .inl (by omega)
 · obtain ⟨t,h2,h3⟩ := List.mem_flatMap.1 h1
   split at h3
   · rename_i hs
     obtain ⟨a,h4,h5,h6⟩ := blL_in m.bs 0 h2 h3
     rw [h.len] at h4
     refine .inr ⟨a,h4,?_,h6⟩
     unfold stands3 at hs
     rw [Bool.or_eq_true,decide_eq_true_eq,h5,Nat.zero_add] at hs
     rcases hs with hs | hs
     · exact .inl (by omega)
     · exact .inr (h.ra (by omega) (by simpa using hs))
   · cases h3
theorem VN.ix0 {p : Int} (v : VN n to m) (h : RI n b c to m) (hp : 0 ≤ p ∧ p < n) : VN n to (inX p m).2 ∧ (inX p m).2.par = m.par ∧ upB m.bs (inX p m).2.bs ∧ Wv n to p.toNat (inX p m).2 (inX p m).1.Val := by
 unfold inX
 split
 · have h1 := VI.addI (i := ⟨1,m.nx,0,[],wordV m⟩) v (b := p.toNat) (by omega) (fun r hr => by cases hr)
   have h2 := tV9 (n := 1) (by omega) (constS p (wordV m) (wordS m))
   refine ⟨h1.1,rfl,h1.2.1,?_⟩
   dsimp only
   rw [show tVV 1 (constS p (wordV m) (wordS m)) = 0 by omega]
   exact Vs.here (by omega) (h1.2.2 m.nx (by simp [makes3]))
 · rename_i h0
   have h1 := tV9 (n := (stand3 (fnM m) p).length) (by omega) m
   exact ⟨v,rfl,fun _ _ h => h,v.stand h hp _ (ix_mem (by omega))⟩
theorem VN.is0 {p : List Int} (hp : ∀ x ∈ p,0 ≤ x ∧ x < n) : ∀ (k i : Nat) {c : Nat} (l : List D.In) (m : Mk),i + k = p.length → RI n b c to m → VN n to m → (∀ x ∈ l,(0 ≤ x.From ∧ x.From < n) ∧ Wv n to x.From.toNat m x.Val) →
   VN n to (inS p k i l m).2 ∧ (inS p k i l m).2.par = m.par ∧ upB m.bs (inS p k i l m).2.bs ∧ ∀ x ∈ (inS p k i l m).1,(0 ≤ x.From ∧ x.From < n) ∧ Wv n to x.From.toNat (inS p k i l m).2 x.Val
 | 0,i,_,l,m,hi,h,v,hl => ⟨v,rfl,fun _ _ h => h,hl⟩
 | k + 1,i,c,l,m,hi,h,v,hl => by
   have hpi := hp _ (ix_mem (l := p) (i := i) (by omega))
   obtain ⟨a1,a2,a3,a4,a5⟩ := h.ix0 (p := ix p i) hpi
   obtain ⟨d1,d2,d3,d4⟩ := v.ix0 h hpi
   obtain ⟨b1,b2,b3,b4⟩ := VN.is0 hp k (i + 1) (l ++ [(inX (ix p i) m).1]) (inX (ix p i) m).2 (by omega) a1 d1 (fun x hx => by
     rcases List.mem_append.1 hx with h1 | h1
     · have := hl x h1
       exact ⟨this.1,by unfold Wv; rw [d2]; exact this.2.up d3⟩
     · simp at h1; subst h1; rw [a3]; exact ⟨hpi,d4⟩)
   rw [inS]
   exact ⟨b1,b2.trans d2,fun j r hr => b3 j r (d3 j r hr),b4⟩
theorem VN.pi0 {j i : Nat} {l : List D.In} (v : VN n to m) (hj : j < n) (hl : ∀ x ∈ l,(0 ≤ x.From ∧ x.From < n) ∧ Wv n to x.From.toNat m x.Val) : VN n to (putIn j i l m) := by
 have e : ((ix m.bs j).Phis.set i { (ix (ix m.bs j).Phis i) with In := l }).map (fun p => p.Dst) = (ix m.bs j).Phis.map (fun p => p.Dst) := nodup_put
 refine (VI.put (x := { (ix m.bs j) with Phis := (ix m.bs j).Phis.set i { (ix (ix m.bs j).Phis i) with In := l } }) v hj (fun r hr => ?_) (.inl e) (v.gd j hj) (v.tm j hj) (fun p hp x hx => ?_)).1
 · unfold mkB at hr ⊢
   dsimp only
   rw [e]; exact hr
 · rcases List.mem_or_eq_of_mem_set hp with h2 | h2
   · exact v.ph j hj p h2 x hx
   · subst h2; exact hl x hx
theorem VN.ip0 {p : List Int} {j : Nat} (hp : ∀ x ∈ p,0 ≤ x ∧ x < n) (h9 : p.length ≤ 9) (hj : j < n) : ∀ (k i : Nat) {c : Nat} (m : Mk),RI n b c to m → VN n to m → VN n to (inP p j k i m)
 | 0,i,_,m,h,v => v
 | k + 1,i,c,m,h,v => by
   obtain ⟨a1,a2,a3,a4,a5⟩ := RI.is0 hp p.length 0 [] m (by omega) h (fun x hx => by cases hx) rfl
   obtain ⟨d1,d2,d3,d4⟩ := VN.is0 hp p.length 0 [] m (by omega) h v (fun x hx => by cases hx)
   rw [inP]
   exact VN.ip0 hp h9 hj k (i + 1) _ (a1.pi0 (i := i) hj a3) (d1.pi0 (i := i) hj d4)
theorem VN.fi0 {ph : List Int} (hn9 : n ≤ 9) : ∀ (k j : Nat) {c : Nat} (m : Mk),j + k = n → RI n b c to m → VN n to m → VN n to (finS ph k j m)
 | 0,j,_,m,hj,h,v => v
 | k + 1,j,c,m,hj,h,v => by
   have hpe : pd3 (fnM m) (j : Int) = pT to n (j : Int) := by
     show predsT3 m.bs m.bs.length _ = _
     rw [h.len]; exact preds_pT n _ (fun q hq => h.tos q hq)
   have b1 := (RI.ip0 (p := pT to n (j : Int)) (j := j) (fun x hx => pT_rng n _ x hx) (Nat.le_trans (pT_len n _) hn9) (by omega) (ix ph j).toNat 0 m h).1
   rw [finS,hpe]
   exact VN.fi0 hn9 k (j + 1) (inP (pT to n (j : Int)) j (ix ph j).toNat 0 m) (by omega) b1 (VN.ip0 (fun x hx => pT_rng n _ x hx) (Nat.le_trans (pT_len n _) hn9) (by omega) (ix ph j).toNat 0 m h v)
end
theorem mdB_VN (s : List Int) : VN (mdN s).toNat (mdT s).1 (mdB s) := by
 obtain ⟨a1,a2,a3,a4,a5⟩ := toS_bs (mdT s).1 (mdN s).toNat 0 { (mdT s).2 with bs := List.replicate (mdN s).toNat default }
 have hlen : (List.replicate (mdN s).toNat (default : D.Block)).length = (mdN s).toNat := by simp
 have hb : ∀ j,j < (mdN s).toNat → ix (mdB s).bs j = { (default : D.Block) with Term := { (default : D.Block).Term with To := ix (mdT s).1 j } } := fun j hj => by
   have := a5 j (by show j < (List.replicate _ _).length; rw [hlen]; exact hj)
   rw [if_pos (by omega)] at this
   dsimp only at this
   rw [ix_repD] at this
   exact this
 exact ⟨a1.trans hlen,fun j hj => by rw [hb j hj]; exact fun k hk => (by cases hk),fun j hj r hr => (by rw [hb j hj] at hr; cases hr),fun j hj p hp => (by rw [hb j hj] at hp; cases hp)⟩
theorem made3_dom (s : List Int) : VI (mdN s).toNat (mdT s).1 (made3 s).Params (made3 s).Blocks := by
 obtain ⟨h0,t1,t2,hn,hp0⟩ := mdB_RI s
 obtain ⟨p1,p2,p3⟩ := RI.ps ((mdN s).toNat - 1) 1 4 (List.replicate (mdN s).toNat 0) (mdB s) (by omega) (by simp) (fun j => rng_rep j) hp0 h0
 have h1 : RI (mdN s).toNat 0 31 (mdT s).1 (mdH s).2 := p1.mono (by omega)
 have hL : ∀ j,(ix (mdT s).1 j).length ≤ 65 := fun j => Nat.le_trans (t1.2.1 j) (by omega)
 have h2 : RI (mdN s).toNat (mdN s).toNat 1111 (mdT s).1 (mdD s).2 := (h1.turn t2 hL (by omega)).mono (by omega)
 have v1 : VN (mdN s).toNat (mdT s).1 (mdH s).2 := VN.ps _ 1 _ _ (by omega) (mdB_VN s)
 have v2 : VN (mdN s).toNat (mdT s).1 (mdD s).2 := VN.turn t2 hL (by omega) h1 v1
 exact VN.fi0 hn.2 _ 1 _ (by omega) h2 v2
structure UI (par nx : Int) (bs : List D.Block) : Prop where
 pn : par ≤ nx
 rg : ∀ j,∀ r ∈ mkB (ix bs j),par ≤ r ∧ r < nx
 nd : ∀ j,(mkB (ix bs j)).Nodup
 dj : ∀ i j,i ≠ j → ∀ r ∈ mkB (ix bs i),r ∉ mkB (ix bs j)
theorem UI.put {par nx nx' : Int} {bs : List D.Block} {b : Nat} {x : D.Block} {ms : List Int} (h : UI par nx bs) (hn : nx ≤ nx') (hp : (mkB x).Perm (mkB (ix bs b) ++ ms)) (hm : ∀ r ∈ ms,nx ≤ r ∧ r < nx') (hd : ms.Nodup) : UI par nx' (bs.set b x) := by
 by_cases hb : b < bs.length
 · have hs : ∀ j,ix (bs.set b x) j = if j = b then x else ix bs j := fun j => ix_set hb
   have hx : ∀ r ∈ mkB x,r ∈ mkB (ix bs b) ∨ r ∈ ms := fun r hr => List.mem_append.1 (hp.mem_iff.1 hr)
   have hpn := h.pn
   refine ⟨by omega,fun j r hr => ?_,fun j => ?_,fun i j hij r hr hr2 => ?_⟩
   · rw [hs] at hr; split at hr
     · rcases hx r hr with h1 | h1
       · have := h.rg b r h1; omega
       · have := hm r h1; omega
     · have := h.rg j r hr; omega
   · rw [hs]; split
     · exact hp.nodup_iff.2 (List.nodup_append.2 ⟨h.nd b,hd,fun y hy z hz e => by have := h.rg b y hy; have := hm z hz; omega⟩)
     · exact h.nd j
   · rw [hs] at hr hr2
     split at hr
     · rename_i e; subst e
       rw [if_neg (fun e => hij e.symm)] at hr2
       rcases hx r hr with h1 | h1
       · exact h.dj _ _ hij r h1 hr2
       · have := h.rg j r hr2; have := hm r h1; omega
     · split at hr2
       · rename_i e; subst e
         rcases hx r hr2 with h1 | h1
         · exact h.dj _ _ hij r hr h1
         · have := h.rg i r hr; have := hm r h1; omega
       · exact h.dj _ _ hij r hr hr2
 · rw [List.set_eq_of_length_le (by omega)]
   exact ⟨by have := h.pn; omega,fun j r hr => by have := h.rg j r hr; omega,h.nd,h.dj⟩
def UG (m m' : Mk) : Prop := m'.par = m.par ∧ (UI m.par m.nx m.bs → UI m'.par m'.nx m'.bs)
section
variable {m m' m2 : Mk} {j : Int} {b : Nat}
theorem UG.rf : UG m m := ⟨rfl,id⟩
theorem UG.tr (h : UG m m') (h2 : UG m' m2) : UG m m2 := ⟨h2.1.trans h.1,fun h3 => h2.2 (h.2 h3)⟩
theorem UG.same (h1 : m'.par = m.par) (h2 : m'.bs = m.bs) (h3 : m'.nx = m.nx) : UG m m' := ⟨h1,by rw [h1,h2,h3]; exact id⟩
theorem mk_ins {x : D.Block} {i : D.Ins} : mkB { x with Ins := x.Ins ++ [i] } = mkB x ++ makes3 i := by unfold mkB; rw [List.flatMap_append]; simp
theorem UG.ad {i : D.Ins} (h1 : m'.par = m.par) (h2 : m'.bs = m.bs) (h3 : m.nx ≤ m'.nx) (hm : ∀ r ∈ makes3 i,m.nx ≤ r ∧ r < m'.nx) (hd : (makes3 i).Nodup) : UG m (addS j i m') := ⟨h1,fun h => by
 show UI m'.par m'.nx (m'.bs.set _ _)
 rw [h1,h2]
 exact h.put h3 (by rw [mk_ins]) hm hd⟩
theorem UG.one {op v x : Int} {a : List Int} (h1 : m'.par = m.par) (h2 : m'.bs = m.bs) (h3 : m'.nx = m.nx + 1) (hx : x = m.nx) (ho : op ≠ 16 ∧ op ≠ 18) : UG m (addS j ⟨op,x,0,a,v⟩ m') := by
 have e : makes3 ⟨op,x,0,a,v⟩ = [x] := by unfold makes3; rw [if_neg ho.1,if_neg ho.2]
 refine UG.ad h1 h2 (by omega) (fun r hr => ?_) (by rw [e]; simp)
 rw [e] at hr; simp at hr; omega
theorem UG.con {v : Int} (h : UG m m') : UG m (constS j v m') := h.tr (UG.one (m' := freshS m') rfl rfl rfl rfl (by omega))
theorem UG.tk (h : UG m m') : UG m (tSS m') := h.tr (.same rfl rfl rfl)
theorem UG.wd (h : UG m m') : UG m (wordS m') := h.tr (.same rfl rfl rfl)
theorem UG.aF {op v : Int} {a : List Int} (h : UG m m') (ho : op ≠ 16 ∧ op ≠ 18) : UG m (addS j ⟨op,m'.nx,0,a,v⟩ (freshS m')) := h.tr (UG.one rfl rfl rfl rfl ho)
theorem UG.aT {op v : Int} {a : List Int} (h : UG m m') (ho : op ≠ 16 ∧ op ≠ 18) : UG m (addS j ⟨op,m'.nx,0,a,v⟩ (tSS (freshS m'))) := h.tr (UG.one rfl rfl rfl rfl ho)
theorem UG.val (h : UG m m') : UG m (valueS m') := by unfold valueS; split; exact h; exact .tk (.tk h)
theorem UG.som0 (h : UG m m') : UG m (someM0 m') := by
 unfold someM0; split
 · exact .tk (.val h)
 · exact .val h
theorem UG.som (h : UG m m') : UG m (sS9 j m') := by
 unfold sS9; split
 · exact .con (.wd (.som0 h))
 · exact .som0 h
theorem UG.me1 (h : UG m m') : UG m (mem1 j m').2 := by
 unfold mem1; dsimp only; split
 · exact .aF (.aF (.con (.som (.tk (.con (.tk h))))) (by omega)) (by omega)
 · exact .tk (.con (.tk h))
theorem UG.me2 (h : UG m m') : UG m (mem2 m').2 := by unfold mem2; dsimp only; split <;> exact h.tr (.same rfl rfl rfl)
theorem UG.mem {st : Bool} (h : UG m m') : UG m (memS j st m') := by
 unfold memS; dsimp only; split
 · exact UG.tr (m' := sS9 j (mem2 (mem1 j m').2).2) (.som (.me2 (.me1 h))) (UG.ad rfl rfl (Int.le_refl _) (fun r hr => by simp [makes3] at hr) (by simp [makes3]))
 · exact .aF (.me2 (.me1 h)) (by omega)
theorem UG.args : ∀ (k : Nat) (l : List Int) (m' : Mk),UG m m' → UG m (argsL j k l m').2
 | 0,_,_,h => h
 | k + 1,l,m',h => by rw [argsL]; exact UG.args k _ _ (.som h)
theorem op_no {i : Nat} (h : i < 12) : ix [(2 : Int),2,3,4,5,6,7,8,9,10,12,11] i ≠ 16 ∧ ix [(2 : Int),2,3,4,5,6,7,8,9,10,12,11] i ≠ 18 := by
 have : ∀ i : Nat,i < 12 → ix [(2 : Int),2,3,4,5,6,7,8,9,10,12,11] i ≠ 16 ∧ ix [(2 : Int),2,3,4,5,6,7,8,9,10,12,11] i ≠ 18 := by decide
 exact this i h
theorem UG.mw {a : List Int} (h : UG m m') : UG m (addS j ⟨18,m'.nx,(freshS m').nx,a,0⟩ (freshS (freshS m'))) := by
 refine h.tr (UG.ad rfl rfl (by show _ ≤ _ + 1 + 1; omega) (fun r hr => ?_) (by simp [makes3,freshS]; omega))
 have hr' : r = m'.nx ∨ r = m'.nx + 1 := by simpa [makes3,freshS] using hr
 show _ ∧ _ < _ + 1 + 1
 omega
theorem UG.ins (h : UG m m') : UG m (insS j m') := by
 have hk := tV9 (n := 20) (by omega) m'
 unfold insS; dsimp only
 generalize tVV 20 m' = k at hk
 have h3 : UG m (sS9 j (sS9 j (tSS m'))) := .som (.som (.tk h))
 split
 · split
   · exact .aF (.con (.tk (.tk h3))) (op_no (by omega))
   · exact .aF (.tk h3) (op_no (by omega))
 split
 · exact .aF h3 (by omega)
 split
 · split
   · exact .aF (.con (.tk (.tk (.con (.tk (.som (.tk h))))))) (by omega)
   · exact .aF (.tk (.con (.tk (.som (.tk h))))) (by omega)
 split
 · exact .mem (.tk h)
 split
 · exact .aT (UG.args _ _ _ (.tk (.tk h))) (by omega)
 split
 · exact .mw h3
 · exact .con (.wd (.tk h))
theorem UG.is : ∀ (k : Nat) (m' : Mk),UG m m' → UG m (insN b k m')
 | 0,_,h => h
 | k + 1,m',h => by rw [insN]; exact UG.is k _ (.ins h)
theorem UG.sT {t : D.Term} (h : UG m m') : UG m (setT j t m') := h.tr ⟨rfl,fun h => by
 show UI m'.par m'.nx (m'.bs.set _ _)
 exact h.put (ms := []) (Int.le_refl _) (by rw [List.append_nil]; exact List.Perm.refl _) (fun r hr => by cases hr) List.nodup_nil⟩
theorem UG.en {l : List Int} (h : UG m m') : UG m (endS j l m') := by
 unfold endS
 split
 · split
   · exact .sT (.tk (.tk h))
   split
   · exact .sT (.som (.tk h))
   · exact .sT (.tk h)
 split
 · exact .sT h
 split
 · dsimp only
   split
   · have ho : ∀ i : Nat,i < 3 → ix [(11 : Int),12,13] i ≠ 16 ∧ ix [(11 : Int),12,13] i ≠ 18 := by decide
     have hr := tV9 (n := 3) (by omega) (freshS (sS9 j (tSS (sS9 j m'))))
     exact .sT (.aT (.som (.tk (.som h))) (ho _ (by omega)))
   · exact .sT (.tk (.som h))
 · dsimp only
   exact .sT (.aF (.con (.som h)) (by omega))
theorem UG.bl {n : Nat} {to : List (List Int)} {dn : List Bool} : UG m (blkM n to b dn m) := by
 unfold blkM
 exact UG.en (UG.is _ _ (.tk (.same rfl rfl rfl)))
theorem UG.row {n : Nat} {to : List (List Int)} : ∀ (k b : Nat) (dn : List Bool) (m : Mk),UG m (rowS n to k b dn m).2
 | 0,_,_,_ => .rf
 | k + 1,b,dn,m => by
   rw [rowS]; split
   · exact UG.bl.tr (UG.row k _ _ _)
   · exact UG.row k _ _ _
theorem UG.turn {n : Nat} {to : List (List Int)} : ∀ (k : Nat) (dn : List Bool) (m : Mk),UG m (turnS n to k dn m).2
 | 0,_,_ => .rf
 | k + 1,dn,m => by rw [turnS]; exact (UG.row _ _ _ _).tr (UG.turn k _ _)
theorem UG.ap : UG m (addP b m) := ⟨rfl,fun h => by
 show UI m.par (m.nx + 1) (m.bs.set _ _)
 refine h.put (ms := [m.nx]) (by omega) ?_ (fun r hr => by simp at hr; omega) (by simp)
 show (mkB { (ix m.bs b) with Phis := (ix m.bs b).Phis ++ [⟨m.nx,[]⟩] }).Perm _
 unfold mkB
 dsimp only
 rw [List.map_append,List.append_assoc,List.append_assoc]
 exact List.Perm.append_left _ List.perm_append_comm⟩
theorem UG.pn : ∀ (k : Nat) (m : Mk),UG m (phiN b k m)
 | 0,_ => .rf
 | k + 1,m => by rw [phiN]; exact UG.ap.tr (UG.pn k _)
theorem UG.ps : ∀ (k j : Nat) (ph : List Int) (m : Mk),UG m (phiS k j ph m).2
 | 0,_,_,_ => .rf
 | k + 1,j,ph,m => by rw [phiS]; exact UG.tr (m' := tSS m) (.tk .rf) ((UG.pn _ _).tr (UG.ps k _ _ _))
theorem UG.inx {p : Int} : UG m (inX p m).2 := by
 unfold inX; split
 · exact .tk (.con (.wd .rf))
 · exact .tk .rf
theorem UG.ins' {p : List Int} : ∀ (k i : Nat) (l : List D.In) (m : Mk),UG m (inS p k i l m).2
 | 0,_,_,_ => .rf
 | k + 1,i,l,m => by rw [inS]; exact UG.inx.tr (UG.ins' k _ _ _)
theorem UG.pi {i : Nat} {l : List D.In} : UG m (putIn b i l m) := ⟨rfl,fun h => by
 show UI m.par m.nx (m.bs.set _ _)
 refine h.put (ms := []) (Int.le_refl _) ?_ (fun r hr => by cases hr) List.nodup_nil
 rw [List.append_nil]
 unfold mkB
 dsimp only
 rw [nodup_put]⟩
theorem UG.ip {p : List Int} : ∀ (k i : Nat) (m : Mk),UG m (inP p b k i m)
 | 0,_,_ => .rf
 | k + 1,i,m => by rw [inP]; exact (UG.ins' _ _ _ _).tr (UG.pi.tr (UG.ip k _ _))
theorem UG.fi {ph : List Int} : ∀ (k j : Nat) (m : Mk),UG m (finS ph k j m)
 | 0,_,_ => .rf
 | k + 1,j,m => by rw [finS]; exact (UG.ip _ _ _).tr (UG.fi k _ _)
end
theorem made3_once (s : List Int) : ∃ nx,UI (made3 s).Params nx (made3 s).Blocks := by
 obtain ⟨h0,_,_,_,_⟩ := mdB_RI s
 have v := mdB_VN s
 have hempty : ∀ j,mkB (ix (mdB s).bs j) = [] := fun j => by
   obtain ⟨a1,a2,a3,a4,a5⟩ := toS_bs (mdT s).1 (mdN s).toNat 0 { (mdT s).2 with bs := List.replicate (mdN s).toNat default }
   by_cases hj : j < (mdN s).toNat
   · have := a5 j (by show j < (List.replicate _ _).length; simpa using hj)
     rw [if_pos (by omega)] at this
     dsimp only at this
     rw [ix_repD] at this
     have e : ix (mdB s).bs j = { (default : D.Block) with Term := { (default : D.Block).Term with To := ix (mdT s).1 j } } := this
     rw [e]; rfl
   · have : ix (mdB s).bs j = default := by
       have hl := h0.len
       simp [ix,List.getD,List.getElem?_eq_none (show (mdB s).bs.length ≤ j by omega)]
     rw [this]; rfl
 have hb : UI (mdB s).par (mdB s).nx (mdB s).bs := ⟨h0.nx.1,fun j r hr => (by rw [hempty] at hr; cases hr),fun j => (by rw [hempty]; exact List.nodup_nil),fun i j _ r hr => (by rw [hempty] at hr; cases hr)⟩
 exact ⟨_,((((UG.ps _ _ _ _).tr (UG.turn _ _ _)).tr (UG.fi _ _ _)).2 hb : UI (mdF s).par (mdF s).nx (mdF s).bs)⟩
end Go.Proofs.YtmfkkodnghambaaGreat
