/- Lemmas that the claim is made of. Conditions: each lemma names its own. -/
import Derived.Test.YtmfkkodnghambaaGreatKK1
import Derived.Test.YtmfkkodnghambaaGreatKK4
import Derived.Test.YtmfkkodnghambaaGreatKK0
import Derived.Lib.SliceRun
import Derived.RangeFuncNested
import Derived.RangeFuncCalls
import Derived.RangeFuncLeaves
import Derived.Below
import Derived.OrdersIn
set_option linter.unusedSectionVars false
set_option linter.unusedSimpArgs false
set_option linter.unusedVariables false
namespace Go.Proofs.YtmfkkodnghambaaGreat
open Go.JE
inductive An (out:List Int):Nat→Nat→Prop
 | self (v:Nat):An out v v
 | up {x v:Nat}:0≤ix out v→An out x (ix out v).toNat→An out x v
inductive RB (pr:Nat→Nat→Prop) (w:Nat):Nat→Prop
 | zero:w≠0→RB pr w 0
 | step {x t:Nat}:RB pr w x→pr x t→t≠w→RB pr w t
inductive Pt (pr:Nat→Nat→Prop) (num:List Int) (m:Int):Nat→Nat→Prop
 | nil (v:Nat):Pt pr num m v v
 | step {u x t:Nat}:Pt pr num m u x→pr x t→m<ix num t→Pt pr num m u t
structure GN(n:Nat)(num:List Int)(pr:Nat→Nat→Prop):Prop where
 n0:0<n
 rng:∀v,v<n→0≤ix num v∧ix num v<n
 inj:∀u v,u<n→v<n→ix num u=ix num v→u=v
 zero:ix num 0=0
 prn:∀q b,pr q b→q<n∧b<n
 fwd:∀b,b<n→b≠0→∃q,pr q b∧ix num q<ix num b
def pdn(out:List Int)(v:Nat):Prop:=v=0∨0≤ix out v
structure TV(n:Nat)(num out:List Int):Prop where
 len:out.length=n
 root:ix out 0<0
 up:∀v,v<n→0≤ix out v→ix out v<n∧ix num (ix out v).toNat<ix num v∧pdn out (ix out v).toNat
section
variable{n:Nat}{num out:List Int}{pr:Nat→Nat→Prop}
theorem An.trans{x y z:Nat}(h1:An out x y)(h2:An out y z):An out x z:=by
 induction h2 with
 | self=>exact h1
 | up h _ ih=>exact .up h ih
theorem An.lt(hv:TV n num out){x v:Nat}(h:An out x v):v<n→x<n:=by
 induction h with
 | self=>exact id
 | @up v h _ ih=>intro hv';exact ih (by have:=(hv.up v hv' h).1;omega)
theorem An.nu(hv:TV n num out){x v:Nat}(h:An out x v):v<n→ix num x≤ix num v∧(x≠v→ix num x<ix num v):=by
 induction h with
 | self=>exact fun _=>⟨Int.le_refl _,fun h=>absurd rfl h⟩
 | @up v h _ ih =>
  intro hv'
  have h1:=hv.up v hv' h
  have h2:=ih (by omega)
  exact⟨by omega,fun _=>by omega⟩
theorem An.pd(hv:TV n num out){x v:Nat}(h:An out x v):v<n→pdn out v→pdn out x:=by
 induction h with
 | self=>exact fun _ h=>h
 | @up v h _ ih=>intro hv' _;have h1:=hv.up v hv' h;exact ih (by omega) h1.2.2
theorem An.tot{x y v:Nat}(h1:An out x v)(h2:An out y v):An out x y∨An out y x:=by
 induction h1 with
 | self=>exact .inr h2
 | @up v h h3 ih =>
  cases h2 with
  | self=>exact .inl (.up h h3)
  | up _ h4=>exact ih h4
theorem Pt.tr{m:Int}{u v w:Nat}(h1:Pt pr num m u v)(h2:Pt pr num m v w):Pt pr num m u w:=by
 induction h2 with
 | nil=>exact h1
 | step _ h3 h4 ih=>exact .step ih h3 h4
theorem Pt.mono{m m':Int}{u v:Nat}(h:Pt pr num m u v)(hm:m'≤m):Pt pr num m' u v:=by
 induction h with
 | nil=>exact .nil _
 | step _ h3 h4 ih=>exact .step ih h3 (by omega)
theorem Pt.rb{m:Int}{u v w:Nat}(h:Pt pr num m u v)(hr:RB pr w u)(hm:ix num w≤m):RB pr w v:=by
 induction h with
 | nil=>exact hr
 | step _ h3 h4 ih=>exact .step ih h3 (fun e=>by subst e;omega)
end
structure IS(n:Nat)(num:List Int)(pr:Nat→Nat→Prop)(out:List Int)(i:Int):Prop where
 tv:TV n num out
 fp:∀v,v<n→ix num v<i→pdn out v
 dm:∀b a,b<n→pdn out b→(a=b∨¬RB pr a b)→An out a b
 pa:∀b,b<n→0≤ix out b→Pt pr num (ix num (ix out b).toNat) (ix out b).toNat b
 hh:∀b,b<n→0≤ix out b→∀y,(∀p,pr p b→pdn out p→An out y p)→An out y (ix out b).toNat
 kk:∀b,b<n→0≤ix out b→∀q,pr q b→ix num q<ix num b→(ix num b<i∨i≤ix num (ix out b).toNat)→An out (ix out b).toNat q
structure BS(out:List Int)(P:Nat→Prop)(best:Int):Prop where
 no:best<0→∀p,P p→¬pdn out p
 an:0≤best→∀p,P p→pdn out p→An out best.toNat p
 nc:0≤best→∀y,(∀p,P p→pdn out p→An out y p)→An out y best.toNat
 pd:0≤best→pdn out best.toNat
section
variable{n:Nat}{num out:List Int}{pr:Nat→Nat→Prop}{i:Int}
theorem ID(hs:IS n num pr out i){b c:Nat}(h:An out b c):c<n→Pt pr num (ix num b) b c:=by
 induction h with
 | self=>exact fun _ => .nil _
 | @up v h h2 ih =>
  intro hv
  have h1:=hs.tv.up v hv h
  exact(ih (by omega)).tr ((hs.pa v hv h).mono ((h2.nu hs.tv (by omega)).1))
theorem IS.step(hg:GN n num pr)(hs:IS n num pr out i){b:Nat}{best:Int}(hb:b<n)(hb0:b≠0)(hi:ix num b=i)(hB:BS out (fun p=>pr p b) best) :
  0≤best∧best<n∧IS n num pr (out.set b best) (i+1)∧(0≤ix out b→ix out b≠best→ix num best.toNat<ix num (ix out b).toNat):=by
 have hv:=hs.tv
 obtain⟨q0,hq,hqn⟩:=hg.fwd b hb hb0
 have hq0:q0<n:=(hg.prn _ _ hq).1
 have hqd:=hs.fp q0 hq0 (by omega)
 have h0:0≤best:=by
  rcases Int.lt_or_le best 0 with h|h
  ·exact absurd hqd (hB.no h q0 hq)
  ·exact h
 have hbq:=hB.an h0 q0 hq hqd
 have hbn:=hbq.lt hv hq0
 have hnb:ix num best.toNat<i:=by have:=(hbq.nu hv hq0).1;omega
 have hnc:∀y,(∀p,pr p b→pdn out p→An out y p)→An out y best.toNat:=hB.nc h0
 generalize hx:best.toNat=x at *
 have hbe:best=(x:Int):=by omega
 have hup:0≤ix out b→An out x (ix out b).toNat:=fun h=>by
  exact hs.hh b hb h x (fun p hp hpd=>by rw[←hx];exact hB.an h0 p hp hpd)
 have hbl:b<out.length:=by rw[hv.len];exact hb
 have hset:∀v,ix (out.set b best) v=if v=b then best else ix out v:=fun v=>Bz hbl
 have nx:¬An out b x:=fun h=>by have:=(h.nu hv hbn).1;omega
 have la:∀{y v},An out y v→v<n→(An out b y∨¬An out b v)→An (out.set b best) y v:=by
  intro y v h
  induction h with
  | self=>exact fun _ _ => .self _
  | @up v h h2 ih =>
   intro hv' hc
   have h1:=hv.up v hv' h
   have hvb:v≠b:=by
    rintro rfl
    rcases hc with hc|hc
    ·have e1:=(hc.nu hv (h2.lt hv (by omega))).1
     have e2:=(h2.nu hv (by omega)).1
     omega
    ·exact hc (.self _)
   refine .up (by rw[hset,if_neg hvb];exact h) ?_
   rw[hset,if_neg hvb]
   exact ih (by omega) (hc.imp id (fun h3 h4=>h3 (.up h h4)))
 have lb:∀{y v},An (out.set b best) y v→v<n→(¬An out b v∧An out y v)∨(An out b v∧((An out b y∧An out y v)∨An out y x)):=by
  intro y v h
  induction h with
  | self =>
   intro _
   by_cases h1:An out b y
   ·exact .inr ⟨h1,.inl ⟨h1,.self _⟩⟩
   ·exact .inl ⟨h1,.self _⟩
  | @up v h h2 ih =>
   intro hv'
   rw[hset] at h h2 ih
   by_cases e:v=b
   ·subst e
    rw[if_pos rfl,hx] at ih
    rcases ih hbn with h3|h3
    ·exact .inr ⟨.self _,.inr h3.2⟩
    ·exact absurd h3.1 nx
   ·rw[if_neg e] at h h2 ih
    have h1:=hv.up v hv' h
    rcases ih (by omega) with h3|h3
    ·refine .inl ⟨fun h4=>h3.1 ?_,.up h h3.2⟩
     cases h4 with
     | self=>exact absurd rfl e
     | up _ h5=>exact h5
    ·refine .inr ⟨.up h h3.1,h3.2.imp (fun h4=>⟨h4.1,.up h h4.2⟩) id⟩
 have lc:∀{y},An out y x→An (out.set b best) y b:=fun {y} h=>by
  refine .up (by rw[hset,if_pos rfl];exact h0) ?_
  rw[hset,if_pos rfl,hx]
  exact la h hbn (.inr nx)
 have ld:∀{y v},An out y x→An out b v→v<n→An (out.set b best) y v:=fun {y v} h h2 hv'=>(lc h).trans (la h2 hv' (.inl (.self _)))
 have sub:0≤ix out b→∀{y v},An (out.set b best) y v→v<n→An out y v:=fun h9 {y v} h hv'=>by
  rcases lb h hv' with h1|⟨h1,h2⟩
  ·exact h1.2
  ·rcases h2 with h2|h2
   ·exact h2.2
   ·exact(h2.trans (hup h9)).trans (.trans (.up h9 (.self _)) h1)
 have fresh:¬0≤ix out b→∀v,An out b v→v<n→v=b:=fun h9 v h hv'=>by
  cases h with
  | self=>rfl
  | up h3 h4 =>
   have h5:=hv.up v hv' h3
   exact absurd (h4.pd hv (by omega) h5.2.2) (fun h=>h.elim hb0 h9)
 have pds:∀v,pdn (out.set b best) v↔(v=b∨pdn out v):=fun v=>by
  unfold pdn;rw[hset]
  by_cases e:v=b
  ·rw[if_pos e];exact⟨fun _ => .inl e,fun _ => .inr h0⟩
  ·rw[if_neg e];exact⟨.inr,fun h=>h.resolve_left e⟩
 refine⟨h0,by omega,?_,fun h9 h8=>?_⟩
 ·refine⟨⟨by rw[List.length_set];exact hv.len,by rw[hset,if_neg (fun h=>hb0 h.symm)];exact hv.root,fun v hv' h=>?_⟩,fun v hv' h=>?_,fun c a hc hpc h=>?_,fun v hv' h=>?_,fun v hv' h y hy=>?_,fun v hv' h q hq' hqn' hc=>?_⟩
  ·rw[hset] at h ⊢
   split at h
   ·rename_i e;subst e
    rw[if_pos rfl,hx]
    exact⟨by omega,by omega,(pds _).2 (.inr (by have:=hB.pd h0;rw[hx] at this;exact this))⟩
   ·rename_i e
    rw[if_neg e]
    have:=hv.up v hv' h
    exact⟨this.1,this.2.1,(pds _).2 (.inr this.2.2)⟩
  ·rw[pds]
   by_cases e:v=b
   ·exact .inl e
   ·exact .inr (hs.fp v hv' (by have:=hg.inj v b hv' hb;have:ix num v≠ix num b:=fun h=>e (this h);omega))
  ·
   by_cases hcb:c=b
   ·subst hcb
    by_cases hac:a=c
    ·subst hac;exact .self _
    ·refine lc (hnc a fun p hp hpd=>hs.dm p a (hg.prn _ _ hp).1 hpd (.inr fun h6=>?_))
     exact(h.resolve_left hac) (.step h6 hp (fun e=>hac e.symm))
   ·have hpc':pdn out c:=((pds c).1 hpc).resolve_left hcb
    have hac:=hs.dm c a hc hpc' h
    by_cases h1:An out b c
    ·by_cases h2:An out b a
     ·exact la hac hc (.inl h2)
     ·
      have h3:An out a b:=(hac.tot h1).resolve_right h2
      have hab:a≠b:=fun e=>h2 (by subst e;exact .self _)
      have hn:=(h3.nu hv hb).2 hab
      have hdom:¬RB pr a b:=fun h4=>by
       have h5:=(ID hs h1 hc).rb h4 (by omega)
       rcases h with h|h
       ·subst h;exact h2 h1
       ·exact h h5
      have h6:An out a x:=hnc a fun p hp hpd=>hs.dm p a (hg.prn _ _ hp).1 hpd (.inr fun h7=>hdom (.step h7 hp (fun e=>hab e.symm)))
      exact ld h6 h1 hc
    ·exact la hac hc (.inr h1)
  ·rw[hset] at h ⊢
   split at h
   ·rename_i e;subst e
    rw[if_pos rfl,hx]
    exact .step (ID hs hbq hq0) hq (by omega)
   ·rename_i e;rw[if_neg e];exact hs.pa v hv' h
  ·rw[hset] at h ⊢
   split at h
   ·rename_i e;subst e
    rw[if_pos rfl,hx]
    refine la (hnc y fun p hp hpd=>?_) hbn (.inr nx)
    have h1:=hy p hp ((pds p).2 (.inr hpd))
    have hpn:=(hg.prn _ _ hp).1
    by_cases h9:0≤ix out v
    ·exact sub h9 h1 hpn
    ·rcases lb h1 hpn with h2|⟨h2,_⟩
     ·exact h2.2
     ·have e:=fresh h9 p h2 hpn
      subst e
      exact absurd hpd (fun h=>h.elim hb0 h9)
   ·rename_i e
    rw[if_neg e]
    have h1:=hv.up v hv' h
    by_cases hz:An out b (ix out v).toNat
    ·
     have hzn:=(hz.nu hv (by omega)).1
     have h9:0≤ix out b:=by
      rcases Int.lt_or_le (ix out b) 0 with h2|h2
      ·have h3:=fresh (by omega) _ hz (by omega)
       rw[h3] at h1
       exact absurd h1.2.2 (fun h=>h.elim hb0 (fun h=>by omega))
      ·exact h2
     have hyz:An out y (ix out v).toNat:=hs.hh v hv' h y fun p hp hpd=>sub h9 (hy p hp ((pds p).2 (.inr hpd))) (hg.prn _ _ hp).1
     by_cases hby:An out b y
     ·exact la hyz (by omega) (.inl hby)
     ·have hv0:v≠0:=by rintro rfl;have:=hv.root;omega
      obtain⟨q,hq1,hq2⟩:=hg.fwd v hv' hv0
      have hqn1:=(hg.prn _ _ hq1).1
      have hzq:=hs.kk v hv' h q hq1 hq2 (.inr (by omega))
      have hqb:An out b q:=hz.trans hzq
      have hpq:pdn out q:=by
       cases hqb with
       | self=>exact .inr h9
       | up h _=>exact .inr h
      rcases lb (hy q hq1 ((pds q).2 (.inr hpq))) hqn1 with h2|⟨_,h2⟩
      ·exact absurd hqb h2.1
      ·rcases h2 with h2|h2
       ·exact absurd h2.1 hby
       ·exact ld h2 hz (by omega)
    ·refine la (hs.hh v hv' h y fun p hp hpd=>?_) (by omega) (.inr hz)
     have h2:=hy p hp ((pds p).2 (.inr hpd))
     have hpn:=(hg.prn _ _ hp).1
     by_cases h9:0≤ix out b
     ·exact sub h9 h2 hpn
     ·rcases lb h2 hpn with h3|⟨h3,_⟩
      ·exact h3.2
      ·have e:=fresh h9 p h3 hpn
       subst e
       exact absurd hpd (fun h=>h.elim hb0 h9)
  ·have hqn1:=(hg.prn _ _ hq').1
   rw[hset] at h hc ⊢
   by_cases e:v=b
   ·subst e
    rw[if_pos rfl,hx]
    have hqd':=hs.fp q hqn1 (by omega)
    have h2:=hB.an h0 q hq' hqd'
    rw[hx] at h2
    exact la h2 hqn1 (.inr fun h3=>by have:=(h3.nu hv hqn1).1;omega)
   ·rw[if_neg e] at h hc ⊢
    have h1:=hv.up v hv' h
    have hne:ix num v≠ix num b:=fun h=>e (hg.inj v b hv' hb h)
    rcases hc with hc|hc
    ·have h2:=hs.kk v hv' h q hq' hqn' (.inl (by omega))
     exact la h2 hqn1 (.inr fun h3=>by have:=(h3.nu hv hqn1).1;omega)
    ·have h2:=hs.kk v hv' h q hq' hqn' (.inr (by omega))
     by_cases h3:An out b q
     ·have h4:=(h2.tot h3)
      rcases h4 with h4|h4
      ·have:=(h4.nu hv hb).1;omega
      ·exact la h2 hqn1 (.inl h4)
     ·exact la h2 hqn1 (.inr h3)
 ·have h7:=hup h9
  have h6:=(h7.nu hv (by have:=(hv.up b hb h9).1;omega)).2 (fun e=>h8 (by omega))
  exact h6
end
structure CO(n:Nat)(num out:List Int)(a b a' b':Int):Prop where
 ra:0≤a'∧a'<n
 rb:0≤b'∧b'<n
 pa:pdn out a'.toNat
 pb:pdn out b'.toNat
 an:∀x,(An out x a.toNat∧An out x b.toNat)↔(An out x a'.toNat∧An out x b'.toNat)
section
variable{n:Nat}{num out:List Int}{pr:Nat→Nat→Prop}{a b a' b':Int}
theorem CO.beg(ha:0≤a∧a<n)(hb:0≤b∧b<n)(h1:pdn out a.toNat)(h2:pdn out b.toNat):CO n num out a b a b:=⟨ha,hb,h1,h2,fun _=>Iff.rfl⟩
theorem CO.left(hg:GN n num pr)(hv:TV n num out)(h:CO n num out a b a' b')(hn:ix num b'.toNat<ix num a'.toNat):CO n num out a b (ix out a'.toNat) b'∧ix num (ix out a'.toNat).toNat<ix num a'.toNat:=by
 obtain⟨h1,h2,h3,h4,h5⟩:=h
 have hb:=(hg.rng b'.toNat (by omega)).1
 have h0:0≤ix out a'.toNat:=h3.resolve_left fun e=>by rw[e,hg.zero] at hn;omega
 have h6:=hv.up a'.toNat (by omega) h0
 refine⟨⟨⟨h0,h6.1⟩,h2,h6.2.2,h4,fun x=>(h5 x).trans ⟨fun⟨p,q⟩=>⟨?_,q⟩,fun⟨p,q⟩=>⟨.up h0 p,q⟩⟩⟩,h6.2.1⟩
 have hq:=(q.nu hv (by omega)).1
 generalize a'.toNat=v at *
 cases p with
 | self=>omega
 | up _ p=>exact p
theorem CO.right(hg:GN n num pr)(hv:TV n num out)(h:CO n num out a b a' b')(hn:ix num a'.toNat<ix num b'.toNat):CO n num out a b a' (ix out b'.toNat)∧ix num (ix out b'.toNat).toNat<ix num b'.toNat:=by
 have h1:=CO.left (a:=b) (b:=a) (a':=b') (b':=a') hg hv ⟨h.rb,h.ra,h.pb,h.pa,fun x=>and_comm.trans ((h.an x).trans and_comm)⟩ hn
 exact⟨⟨h.ra,h1.1.ra,h.pa,h1.1.pa,fun x=>and_comm.trans ((h1.1.an x).trans and_comm)⟩,h1.2⟩
theorem CO.done(hg:GN n num pr)(h:CO n num out a b a' b')(hn:ix num a'.toNat=ix num b'.toNat):An out a'.toNat a.toNat∧An out a'.toNat b.toNat∧∀x,An out x a.toNat→An out x b.toNat→An out x a'.toNat:=by
 have h1:=h.ra
 have h2:=h.rb
 have e:=hg.inj a'.toNat b'.toNat (by omega) (by omega) hn
 have h3:=(h.an a'.toNat).2 ⟨.self _,by rw[←e];exact .self _⟩
 exact⟨h3.1,h3.2,fun x p q=>((h.an x).1 ⟨p,q⟩).1⟩
def Pk(l:List Int)(k:Nat)(p:Nat):Prop:=(p:Int)∈l.take k
theorem Pk.nx{l:List Int}{k p:Nat}(hk:k<l.length):Pk l (k+1) p↔Pk l k p∨(p:Int)=ix l k:=by
 unfold Pk;rw[Ff hk,List.mem_append];simp
theorem BS.beg{l:List Int}:BS out (Pk l 0) (-1):=⟨fun _ p h=>by simp[Pk] at h,fun h=>by omega,fun h=>by omega,fun h=>by omega⟩
theorem BS.skip{l:List Int}{k:Nat}{best:Int}(h:BS out (Pk l k) best)(hk:k<l.length)(hr:0≤ix l k)(hp:¬pdn out (ix l k).toNat):BS out (Pk l (k+1)) best:=by
 have e:∀p:Nat,(p:Int)=ix l k→¬pdn out p:=fun p e h9=>hp (by rw[←e,Int.toNat_natCast];exact h9)
 exact⟨fun h0 p h1=>((Pk.nx hk).1 h1).elim (h.no h0 p) (e p),fun h0 p h1 h2=>((Pk.nx hk).1 h1).elim (fun h3=>h.an h0 p h3 h2) (fun h3=>absurd h2 (e p h3)),fun h0 y h1=>h.nc h0 y fun p h2=>h1 p ((Pk.nx hk).2 (.inl h2)),h.pd⟩
theorem BS.first{l:List Int}{k:Nat}{best:Int}(h:BS out (Pk l k) best)(hb:best<0)(hk:k<l.length)(hr:0≤ix l k)(hp:pdn out (ix l k).toNat):BS out (Pk l (k+1)) (ix l k):=by
 refine⟨fun h0=>by omega,fun h0 p h1 h2=>?_,fun h0 y h1=>?_,fun _=>hp⟩
 ·rcases(Pk.nx hk).1 h1 with h3|h3
  ·exact absurd h2 (h.no hb p h3)
  ·rw[←h3,Int.toNat_natCast];exact .self _
 ·exact h1 _ ((Pk.nx hk).2 (.inr (by omega))) hp
theorem BS.com{l:List Int}{k:Nat}{best c:Int}(h:BS out (Pk l k) best)(hb:0≤best)(hk:k<l.length)(hr:0≤ix l k)(hp:pdn out (ix l k).toNat)(hc:0≤c)(hpc:pdn out c.toNat)(h1:An out c.toNat best.toNat∧An out c.toNat (ix l k).toNat∧∀x,An out x best.toNat→An out x (ix l k).toNat→An out x c.toNat):BS out (Pk l (k+1)) c:=by
 obtain⟨a1,a2,a3⟩:=h1
 refine⟨fun h0=>by omega,fun _ p h2 h3=>?_,fun _ y h2=>?_,fun _=>hpc⟩
 ·rcases(Pk.nx hk).1 h2 with h4|h4
  ·exact a1.trans (h.an hb p h4 h3)
  ·rw[show p=(ix l k).toNat by omega];exact a2
 ·exact a3 y (h.nc hb y fun p h4=>h2 p ((Pk.nx hk).2 (.inl h4))) (h2 _ ((Pk.nx hk).2 (.inr (by omega))) hp)
theorem BS.all{l:List Int}{best:Int}{b:Nat}(h:BS out (Pk l l.length) best)(hl:∀p:Nat,(p:Int)∈l↔pr p b):BS out (fun p=>pr p b) best:=by
 have e:∀p,Pk l l.length p↔pr p b:=fun p=>by unfold Pk;rw[List.take_length];exact hl p
 exact⟨fun h0 p h1=>h.no h0 p ((e p).2 h1),fun h0 p h1=>h.an h0 p ((e p).2 h1),fun h0 y h1=>h.nc h0 y fun p h2=>h1 p ((e p).1 h2),h.pd⟩
theorem IS.beg(hg:GN n num pr):IS n num pr (List.replicate n (-1)) 1:=by
 have hr:∀v,v<n→ix (List.replicate n (-1:Int)) v=-1:=fun v hv=>by rw[Bn (by simpa using hv)];simp
 have h0:=hg.n0
 refine⟨⟨by simp,by rw[hr 0 h0];omega,fun v hv h=>by rw[hr v hv] at h;omega⟩,fun v hv h => .inl (hg.inj v 0 hv h0 (by have:=hg.rng v hv;rw[hg.zero];omega)),fun b a hb hp h=>?_,fun b hb h=>by rw[hr b hb] at h;omega,fun b hb h=>by rw[hr b hb] at h;omega,fun b hb h=>by rw[hr b hb] at h;omega⟩
 rcases hp with e|h1
 ·subst e
  rcases h with h|h
  ·subst h;exact .self _
  ·have:a=0:=by
    rcases Nat.eq_zero_or_pos a with h2|h2
    ·exact h2
    ·exact absurd (RB.zero (by omega)) h
   subst this;exact .self _
 ·rw[hr b hb] at h1;omega
theorem IS.round(hg:GN n num pr)(h:IS n num pr out n):IS n num pr out 1 :=
 ⟨h.tv,fun v hv _=>h.fp v hv (by have:=hg.rng v hv;omega),h.dm,h.pa,h.hh,fun b hb h1 q hq h2 _=>h.kk b hb h1 q hq h2 (.inl (by have:=hg.rng b hb;omega))⟩
def wtI(n:Nat)(num out:List Int)(v:Nat):Nat:=if ix out v<0 then n else (ix num (ix out v).toNat).toNat
def smI(n:Nat)(num out:List Int):Nat→Nat
 | 0=>0
 | k+1=>smI n num out k+wtI n num out k
theorem Y6{out':List Int}{v:Nat}(h1:∀u,u≠v→wtI n num out' u=wtI n num out u)(h2:wtI n num out' v<wtI n num out v):∀k,(k≤v→smI n num out' k=smI n num out k)∧(v<k→smI n num out' k<smI n num out k)
 | 0=>⟨fun _=>rfl,fun h=>by omega⟩
 | k+1=>by
  obtain⟨a,b⟩:=Y6 h1 h2 k
  rw[smI,smI]
  refine⟨fun h=>by rw[a (by omega),h1 k (by omega)],fun h=>?_⟩
  rcases Nat.lt_or_ge v k with h3|h3
  ·have:=b h3;rw[h1 k (by omega)];omega
  ·have e:v=k:=by omega
   subst e
   have:=a (Nat.le_refl _);omega
theorem IS.less(hg:GN n num pr){i:Int}(hs:IS n num pr out i){b:Nat}{best:Int}(hb:b<n)(h0:0≤best∧best<n)(hne:ix out b≠best)(h:0≤ix out b→ix out b≠best→ix num best.toNat<ix num (ix out b).toNat):smI n num (out.set b best) n<smI n num out n:=by
 have hl:b<out.length:=by rw[hs.tv.len];exact hb
 refine(Y6 (v:=b) (fun u hu=>?_) ?_ n).2 hb
 ·unfold wtI;rw[Bz hl,if_neg hu]
 ·unfold wtI
  rw[Bz hl,if_pos rfl,if_neg (by omega)]
  have h1:=hg.rng best.toNat (by omega)
  split
  ·omega
  ·rename_i h2
   have h3:=h (by omega) hne
   omega
theorem ZC(hv:TV n num out):∀(k:Nat) {x v:Nat},An out x v→v<n→x≠v→0≤ix out v∧ix out v<n∧An out x (ix out v).toNat
 | _,x,v,h,hv',hne=>by
  cases h with
  | self=>exact absurd rfl hne
  | up h1 h2=>exact⟨h1,(hv.up v hv' h1).1,h2⟩
end
def Aft(rows:List (List Int))(l:List Int)(v:Int):Prop:=∃l2 l3,l=l2++v::l3∧∃q∈l3,v∈ix rows q.toNat
theorem Aft.right{rows:List (List Int)}{l m:List Int}{v:Int}:Aft rows l v→Aft rows (l++m) v
 | ⟨l2,l3,e,q,h1,h2⟩=>⟨l2,l3++m,by rw[e];simp,q,by simp[h1],h2⟩
theorem Aft.left{rows:List (List Int)}{l m:List Int}{v:Int}:Aft rows l v→Aft rows (m++l) v
 | ⟨l2,l3,e,q,h1,h2⟩=>⟨m++l2,l3,by rw[e];simp,q,h1,h2⟩
structure OV(n:Nat)(rows:List (List Int))(se:List Bool)(l:List Int)(se':List Bool)(R:Int→Prop):Prop where
 len:se'.length=n
 mem:∀v:Nat,v<n→(ix se' v=true↔ix se v=true∨(v:Int)∈l)
 nd:l.Nodup
 new:∀v∈l,(0≤v∧v<n)∧ix se v.toNat=false
 cl:∀v∈l,∀t∈ix rows v.toNat,ix se' t.toNat=true
 af:∀v∈l,R v∨Aft rows l v
section
variable{n:Nat}{rows:List (List Int)}{se se' se2:List Bool}{l l2:List Int}{R:Int→Prop}{a:Int}
theorem OV.beg(h:se.length=n):OV n rows se [] se R:=⟨h,fun v _=>(by simp),List.nodup_nil,fun v h=>(by cases h),fun v h=>(by cases h),fun v h=>(by cases h)⟩
theorem OV.up(h:OV n rows se l se' R){v:Nat}(hv:v<n)(h1:ix se v=true):ix se' v=true:=(h.mem v hv).2 (.inl h1)
theorem OV.tr(hr:∀v t,t∈ix rows v→0≤t∧t<n)(h:OV n rows se l se' R)(h2:OV n rows se' l2 se2 R):OV n rows se (l++l2) se2 R:=by
 refine⟨h2.len,fun v hv=>?_,List.nodup_append.2 ⟨h.nd,h2.nd,fun x hx y hy e=>?_⟩,fun v hv=>?_,fun v hv t ht=>?_,fun v hv=>?_⟩
 ·rw[h2.mem v hv,h.mem v hv,List.mem_append,or_assoc]
 ·subst e
  have h3:=h.new x hx
  have h4:=(h2.new x hy).2
  rw[(h.mem x.toNat (by omega)).2 (.inr (by rw[Int.toNat_of_nonneg h3.1.1];exact hx))] at h4;cases h4
 ·rcases List.mem_append.1 hv with h3|h3
  ·exact h.new v h3
  ·have h4:=h2.new v h3
   refine⟨h4.1,?_⟩
   cases h5:ix se v.toNat with
   | false=>rfl
   | true=>rw[h.up (by omega) h5] at h4;cases h4.2
 ·rcases List.mem_append.1 hv with h3|h3
  ·have:=hr _ t ht;exact h2.up (by omega) (h.cl v h3 t ht)
  ·exact h2.cl v h3 t ht
 ·rcases List.mem_append.1 hv with h3|h3
  ·exact(h.af v h3).imp id Aft.right
  ·exact(h2.af v h3).imp id Aft.left
theorem OV.weak{R':Int→Prop}(h:OV n rows se l se' R)(hR:∀v,R v→R' v):OV n rows se l se' R':=⟨h.len,h.mem,h.nd,h.new,h.cl,fun v hv=>(h.af v hv).imp (hR v) id⟩
theorem OV.done(hl:se.length=n)(ha:0≤a∧a<n)(h0:ix se a.toNat=false)(h:OV n rows (se.set a.toNat true) l se' (fun v=>v∈ix rows a.toNat))(hc:∀t∈ix rows a.toNat,ix se' t.toNat=true):OV n rows se (l++[a]) se' (fun v=>v=a):=by
 have hs:∀v,ix (se.set a.toNat true) v=if v=a.toNat then true else ix se v:=fun v=>Bz (by omega)
 have hna:a∉l:=fun h9=>by have:=(h.new a h9).2;rw[hs,if_pos rfl] at this;cases this
 refine⟨h.len,fun v hv=>?_,List.nodup_append.2 ⟨h.nd,by simp,fun x hx y hy e=>?_⟩,fun v hv=>?_,fun v hv t ht=>?_,fun v hv=>?_⟩
 ·rw[h.mem v hv,hs,List.mem_append,List.mem_singleton]
  by_cases e:v=a.toNat
  ·rw[if_pos e];exact⟨fun _ => .inr (.inr (by omega)),fun _ => .inl rfl⟩
  ·rw[if_neg e];exact⟨fun h=>h.imp id .inl,fun h=>h.imp id (fun h=>h.resolve_right (by omega))⟩
 ·simp at hy;subst hy;subst e;exact hna hx
 ·rcases List.mem_append.1 hv with h3|h3
  ·have h4:=h.new v h3
   refine⟨h4.1,?_⟩
   rw[hs] at h4
   split at h4
   ·cases h4.2
   ·exact h4.2
  ·simp at h3;subst h3;exact⟨ha,h0⟩
 ·rcases List.mem_append.1 hv with h3|h3
  ·exact h.cl v h3 t ht
  ·simp at h3;subst h3;exact hc t ht
 ·rcases List.mem_append.1 hv with h3|h3
  ·right
   rcases h.af v h3 with h4|h4
   ·obtain⟨l2,l3,e⟩:=List.append_of_mem h3
    exact⟨l2,l3++[a],by rw[e];simp,a,by simp,h4⟩
   ·exact h4.right
  ·exact .inl (by simpa using h3)
end
structure OD(n:Nat)(rows:List (List Int))(ord:List Int):Prop where
 nd:ord.Nodup
 all:∀v:Int,v∈ord↔0≤v∧v<n
 hd:ord.head? = some 0
 fw:∀v:Int,v∈ord→v≠0→∃l2 l3,ord=l2++v::l3∧∃q∈l2,v∈ix rows q.toNat
theorem RH{n:Nat}{rows:List (List Int)}{l:List Int}{se':List Bool}(hn:0<n)(hr:∀v t,t∈ix rows v→0≤t∧t<n)(h:OV n rows (List.replicate n false) (l++[0]) se' (fun v=>v=0))(hw:∀b,b<n→∃w,RB (fun q t=>(t:Int)∈ix rows q) w b):OD n rows (l++[0]).reverse:=by
 have key:∀{w b},RB (fun q t=>(t:Int)∈ix rows q) w b→(b:Int)∈l++[0]:=fun {w b} h9=>by
  induction h9 with
  | zero=>simp
  | @step x t h1 h2 _ ih =>
   have h3:=h.cl x ih t (by rw[Int.toNat_natCast];exact h2)
   rw[Int.toNat_natCast] at h3
   have h4:=hr x t h2
   have h5:=(h.mem t (by omega)).1 h3
   rw[Mp] at h5
   exact h5.resolve_left (by simp)
 refine⟨(List.reverse_perm _).nodup_iff.2 h.nd,fun v=>?_,by simp,fun v hv hv0=>?_⟩
 ·rw[List.mem_reverse]
  refine⟨fun h1=>(h.new v h1).1,fun h1=>?_⟩
  obtain⟨w,h2⟩:=hw v.toNat (by omega)
  have:=key h2
  rwa[Int.toNat_of_nonneg h1.1] at this
 ·rw[List.mem_reverse] at hv
  obtain⟨l2,l3,e,q,h1,h2⟩:=(h.af v hv).resolve_left hv0
  exact⟨l3.reverse,l2.reverse,by rw[e];simp,q,by simpa using h1,h2⟩
structure NU(n:Nat)(ord num:List Int):Prop where
 len:num.length=n
 pos:∀k,k<ord.length→ix num (ix ord k).toNat=k
theorem Su:∀(n:Nat) (l:List Int),l.Nodup→(∀v∈l,0≤v∧v<n)→l.length≤n
 | 0,[],_,_=>Nat.le_refl _
 | 0,x::l,_,h=>by have:=h x (by simp);omega
 | n+1,l,hn,h=>by
  have h1:=Su n (l.erase n) (hn.erase _) (fun v hv=>by
   have h2:=h v (List.mem_of_mem_erase hv)
   have h3:=((hn.mem_erase_iff).1 hv).1
   omega)
  rw[List.length_erase] at h1
  split at h1<;>omega
theorem I0{n:Nat}{rows:List (List Int)}{ord:List Int}(ho:OD n rows ord){v:Nat}(hv:v<n):∃k,k<ord.length∧ix ord k=v:=by
 obtain⟨k,hk,e⟩:=List.getElem_of_mem ((ho.all v).2 ⟨by omega,by omega⟩)
 exact⟨k,hk,by rw[Bn hk];exact e⟩
theorem RK{n:Nat}{rows:List (List Int)}{ord num:List Int}(hn:0<n)(hr:∀v t,t∈ix rows v→(0≤t∧t<n)∧v<n)(ho:OD n rows ord)(hu:NU n ord num):GN n num (fun q t=>(t:Int)∈ix rows q)∧ord.length≤n:=by
 have hlen:=Su n ord ho.nd (fun v hv=>(ho.all v).1 hv)
 refine⟨⟨hn,fun v hv=>?_,fun u v hu' hv h=>?_,?_,fun q b h=>?_,fun b hb h0=>?_⟩,hlen⟩
 ·obtain⟨k,hk,e⟩:=I0 ho hv
  have:=hu.pos k hk
  rw[e,Int.toNat_natCast] at this;omega
 ·obtain⟨k,hk,e⟩:=I0 ho hu'
  obtain⟨k2,hk2,e2⟩:=I0 ho hv
  have h1:=hu.pos k hk
  have h2:=hu.pos k2 hk2
  rw[e,Int.toNat_natCast] at h1
  rw[e2,Int.toNat_natCast] at h2
  have:k=k2:=by omega
  subst this;omega
 ·have h1:=ho.hd
  obtain⟨x,l,e⟩:∃x l,ord=x::l:=by
   cases ord with
   | nil=>cases h1
   | cons x l=>exact⟨x,l,rfl⟩
  subst e
  simp at h1;subst h1
  have:=hu.pos 0 (by simp)
  simpa[ix] using this
 ·have:=hr q b h;omega
 ·obtain⟨l2,l3,e,q,h1,h2⟩:=ho.fw b ((ho.all b).2 ⟨by omega,by omega⟩) (by omega)
  have hq:=(ho.all q).1 (by rw[e];simp[h1])
  refine⟨q.toNat,h2,?_⟩
  obtain⟨k,hk,e1⟩:=List.getElem_of_mem h1
  have p1:=hu.pos k (by rw[e];simp;omega)
  have p2:=hu.pos l2.length (by rw[e];simp)
  rw[show ix ord k=q from by rw[Bn (by rw[e];simp;omega)];subst e;rw[List.getElem_append_left hk];exact e1] at p1
  rw[show ix ord l2.length=(b:Int) from by rw[Bn (by rw[e];simp)];subst e;simp,Int.toNat_natCast] at p2
  omega
def Ip(row:List Int)(n:Int):List Int:=Lib.compact (Jg (row.filter (fun b=>decide (0≤b)&&decide (b<n))))
theorem Vp{row:List Int}{n x:Int}:x∈Ip row n↔x∈row∧0≤x∧x<n:=by
 unfold Ip
 rw[ZF,LZ,List.mem_filter]
 simp
theorem Yi(row:List Int)(n:Int):(Ip row n).Pairwise (·<·):=ZE (MA _)
theorem TN{a b:List Int}(h1:a.Pairwise (·<·))(h2:b.Pairwise (·<·))(h:∀x,x∈a↔x∈b):a=b:=AN h1 h2 h
theorem EK(row:List Int)(n:Int):Ip (Ip row n) n=Ip row n:=TN (Yi _ _) (Yi _ _) (fun x=>by rw[Vp,Vp];exact⟨fun h=>h.1,fun h=>⟨h,h.2⟩⟩)
theorem EJ(row:List Int)(n:Int):(Ip row n).length≤row.length:=by
 unfold Ip
 refine Nat.le_trans (GV _) ?_
 unfold Jg
 rw[List.length_mergeSort];exact List.length_filter_le _ _
def Bl(g:List (List Int)):List (List Int):=g.map (fun row=>Ip row g.length)
def Cj(f:D.Func):List (List Int):=f.Blocks.map (fun b=>Ip b.Term.To f.Blocks.length)
theorem FX{α:Type}[Inhabited α]{l:List α}{q:α→Bool}{k:Nat}(h:k<l.length):(l.take (k+1)).filter q=(l.take k).filter q++if q (ix l k)=true then [ix l k] else []:=by
 rw[Ff h,List.filter_append]
 congr 1
 by_cases h9:q (ix l k)=true
 ·simp[h9]
 ·simp[h9]
def Kg(idom num:List Int):Nat→Int→Int→Int
 | 0,a,_=>a
 | k+1,a,b=>if ix num b.toNat<ix num a.toNat then Kg idom num k (ix idom a.toNat) b else if ix num a.toNat<ix num b.toNat then Kg idom num k a (ix idom b.toNat) else a
def Mw(idom num:List Int)(a b:Int):Int:=Kg idom num ((ix num a.toNat).toNat+(ix num b.toNat).toNat+1) a b
def JM(idom num:List Int)(a b:Int):Prop:=∃n pr,GN n num pr∧num.length=n∧TV n num idom∧CO n num idom a b a b
def Kf(idom:List Int)(a:Int):Nat→Int→Bool
 | 0,_=>false
 | k+1,b=>if a=b then true else if 0≤b∧b<idom.length then Kf idom a k (ix idom b.toNat) else false
def inR(l:List Int)(n:Int):Bool:=decide (0≤n)&&decide (n<l.length)
def Px(idom:List Int)(a b:Int):Bool:=if inR idom a=true∧inR idom b=true then Kf idom a (idom.length+1) b else false
theorem GQ{n:Nat}{num out:List Int}(hv:TV n num out){x:Nat}:∀(k:Nat) {v:Nat},An out x v→v<n→ix num v<ix num x+k→Kf out x k v=true
 | 0,v,h,hv',hk=>by have:=(h.nu hv hv').1;omega
 | k+1,v,h,hv',hk=>by
  rw[Kf]
  by_cases e:(x:Int)=v
  ·rw[if_pos e]
  ·rw[if_neg e,if_pos ⟨by omega,by rw[hv.len];omega⟩,Int.toNat_natCast]
   obtain⟨h1,h2,h3⟩:=ZC hv 0 h hv' (by omega)
   have h4:=(hv.up v hv' h1).2.1
   have:=GQ hv k (v:=(ix out v).toNat) h3 (by omega) (by omega)
   rwa[Int.toNat_of_nonneg h1] at this
def Oc(n a b:Int):Bool:=decide (a≤n)&&decide (n≤b)
def Eu(op:Int):Int×Int:=if op=1 then (0,0) else if op=15 then (1,1) else if op=17 then (0,4) else (2,2)
section
variable{idom num:List Int}{k:Nat}{a b:Int}
theorem ZL(h:0<k)(h1:ix num b.toNat<ix num a.toNat):Kg idom num k a b=Kg idom num (k-1) (ix idom a.toNat) b:=by
 obtain⟨j,rfl⟩:∃j,k=j+1:=⟨k-1,by omega⟩
 rw[Kg,if_pos h1];rfl
theorem ZK(h:0<k)(h1:ix num a.toNat<ix num b.toNat):Kg idom num k a b=Kg idom num (k-1) a (ix idom b.toNat):=by
 obtain⟨j,rfl⟩:∃j,k=j+1:=⟨k-1,by omega⟩
 rw[Kg,if_neg (by omega),if_pos h1];rfl
theorem ZM(h:0<k)(h1:ix num a.toNat=ix num b.toNat):Kg idom num k a b=a:=by
 obtain⟨j,rfl⟩:∃j,k=j+1:=⟨k-1,by omega⟩
 rw[Kg,if_neg (by omega),if_neg (by omega)]
end
theorem Nw{α β:Type}[Inhabited α][Inhabited β]{l:List α}{f:α→β}{k:Nat}(h:k<l.length):ix (l.map f) k=f (ix l k):=by
 rw[Bn (by simpa using h),Bn h];simp
theorem AK{F:List (List Int)}{n k:Nat}{x:List Int}(hk:k<n)(hn:F.length=n)(hx:x=ix F k):(F.take k++List.replicate (n-k) []).set k x=F.take (k+1)++List.replicate (n-(k+1)) []:=by
 have hl:(F.take k).length=k:=by rw[List.length_take];omega
 rw[List.set_append_right _ _ (by omega),hl,Nat.sub_self,Ff (by omega),List.append_assoc]
 congr 1
 obtain⟨j,hj⟩:∃j,n-k=j+1:=⟨n-k-1,by omega⟩
 rw[hj,List.replicate_succ,List.set_cons_zero,show n-(k+1)=j by omega,hx];rfl
def Mr(n:Int)(l:List Int):Bool:=inR l n
theorem FD{n:Int}{l:List Int}(h:Mr n l=true):0≤n∧n<l.length:=by unfold Mr inR at h;simpa using h
theorem Yx{n:Int}{l:List Int}(h:Mr n l=false):¬(0≤n∧n<l.length):=by unfold Mr inR at h;simp at h;omega
theorem Zg{idom:List Int}{a b:Int}(h:(!Mr a idom||!Mr b idom)=true):Px idom a b=false:=by
 unfold Px;rw[if_neg];intro h9;unfold Mr at h;rw[h9.1,h9.2] at h;cases h
structure OP(n:Nat)(rows:List (List Int))(se:List Bool)(out:List Int)(a:Int):Prop where
 len:se.length=n
 n512:n≤512
 a0:0≤a∧a<n
 no:ix se a.toNat=false
 rl:rows.length=n
 rows:∀v t,t∈ix rows v→0≤t∧t<n
 nd:out.Nodup
 vis:∀v∈out,(0≤v∧v<n)∧ix se v.toNat=true
section
variable{n:Nat}{rows:List (List Int)}{se se2 se3:List Bool}{out l l2 l3:List Int}{a t:Int}{R:Int→Prop}{k:Nat}
theorem OP.all(h:OP n rows se out a)(ho:OV n rows (se.set a.toNat true) l se2 R):(out++l).Nodup∧∀v∈out++l,(0≤v∧v<n)∧ix se2 v.toNat=true:=by
 have ha:=h.a0
 have hs:∀v,ix (se.set a.toNat true) v=if v=a.toNat then true else ix se v:=fun v=>Bz (by rw[h.len];omega)
 refine⟨List.nodup_append.2 ⟨h.nd,ho.nd,fun x hx y hy e=>?_⟩,fun v hv=>?_⟩
 ·subst e
  have h1:=(h.vis x hx).2
  have h2:=(ho.new x hy).2
  rw[hs] at h2
  split at h2
  ·cases h2
  ·rw[h1] at h2;cases h2
 ·rcases List.mem_append.1 hv with h1|h1
  ·have h2:=h.vis v h1
   refine⟨h2.1,(ho.mem v.toNat (by omega)).2 (.inl ?_)⟩
   rw[hs];split
   ·rfl
   ·exact h2.2
  ·have h2:=(ho.new v h1).1
   exact⟨h2,(ho.mem v.toNat (by omega)).2 (.inr (by rw[Int.toNat_of_nonneg h2.1];exact h1))⟩
theorem OP.olen(h:OP n rows se out a)(ho:OV n rows (se.set a.toNat true) l se2 R):(out++l).length≤512:=by
 have h1:=h.all ho
 have:=Su n _ h1.1 (fun v hv=>(h1.2 v hv).1)
 have:=h.n512
 omega
theorem OP.next(h:OP n rows se out a)(ho:OV n rows (se.set a.toNat true) l se2 R)(ht:t∈ix rows a.toNat)(hn:ix se2 t.toNat=false):OP n rows se2 (out++l) t :=
 ⟨ho.len,h.n512,h.rows _ t ht,hn,h.rl,h.rows,(h.all ho).1,(h.all ho).2⟩
theorem HB:∀{a b:List Bool},a.length=b.length→(∀i,ix a i=true→ix b i=true)→Gu b≤Gu a
 | [],[],_,_=>Nat.le_refl _
 | x::a,y::b,h,h2=>by
  have h3:=HB (a:=a) (b:=b) (by simpa using h) (fun i hi=>by have:=h2 (i+1) (by rw[Iq];exact hi);rwa[Iq] at this)
  have h0:=h2 0
  rw[Ia,Ia] at h0
  unfold Gu at h3 ⊢
  rw[List.countP_cons,List.countP_cons]
  cases x<;>cases y<;>simp_all<;>omega
theorem OP.less(h:OP n rows se out a)(ho:OV n rows (se.set a.toNat true) l se2 R):Gu se2<Gu se:=by
 have ha:=h.a0
 have h1:=Rj (l:=se) (i:=a.toNat) (by rw[h.len];omega) h.no
 have h2:=HB (a:=se.set a.toNat true) (b:=se2) (by rw[List.length_set,h.len,ho.len]) (fun i hi=>(ho.mem i (by have:=VR hi;rw[List.length_set,h.len] at this;exact this)).2 (.inl hi))
 omega
theorem CV{T:List Int}(hk:k<T.length)(hd:∀t∈T.take k,ix se2 t.toNat=true)(h:ix se2 (ix T k).toNat=true):∀t∈T.take (k+1),ix se2 t.toNat=true:=fun t ht=>by
 rw[Ff hk,List.mem_append] at ht
 rcases ht with ht|ht
 ·exact hd t ht
 ·simp at ht;subst ht;exact h
theorem QV{T:List Int}(hk:k<T.length)(hd:∀t∈T.take k,ix se2 t.toNat=true)(hr:∀t∈T,0≤t∧t<n)(ho:OV n rows se2 l se3 (fun v=>v=ix T k))(hl:ix T k∈l):∀t∈T.take (k+1),ix se3 t.toNat=true:=by
 refine CV hk (fun t ht=>?_) ?_
 ·have:=hr t (List.mem_of_mem_take ht)
  exact ho.up (by omega) (hd t ht)
 ·have h1:=hr _ (Ax hk)
  exact(ho.mem _ (by omega)).2 (.inr (by rw[Int.toNat_of_nonneg h1.1];exact hl))
end
structure PO(n:Nat)(rows:List (List Int))(se:List Bool)(l:List Int)(se':List Bool)(a:Int):Prop where
 ends:∃l0,l=l0++[a]
 ov:OV n rows se l se' (fun v=>v=a)
theorem PO.mem{n:Nat}{rows:List (List Int)}{se se':List Bool}{l:List Int}{a:Int}(h:PO n rows se l se' a):a∈l:=by obtain⟨l0,e⟩:=h.ends;rw[e];simp
theorem Qz{α:Type}[Inhabited α]{l:List α}{i:Nat}(h:l.length≤i):ix l i=default:=by
 simp[ix,List.getD,List.getElem?_eq_none h]
theorem Ue(g:List (List Int)):(Bl g).length=g.length:=by simp[Bl]
theorem Ud(g:List (List Int)):∀v t,t∈ix (Bl g) v→0≤t∧t<g.length:=fun v t h=>by
 by_cases hv:v<g.length
 ·unfold Bl at h
  rw[Nw hv] at h
  exact(Vp.1 h).2
 ·rw[Qz (by rw[Ue];omega)] at h;cases h
theorem QY{n:Nat}{rows:List (List Int)}(hn:0<n∧n≤512)(hl:rows.length=n)(hr:∀v t,t∈ix rows v→0≤t∧t<n):OP n rows (List.replicate n false) [] 0 :=
 ⟨by simp,hn.2,⟨Int.le_refl _,by omega⟩,Mp _ _,hl,hr,List.nodup_nil,fun v h=>by cases h⟩
theorem PO.len{n:Nat}{rows:List (List Int)}{se se':List Bool}{l:List Int}{a:Int}(h:PO n rows se l se' a)(hn:n≤512):([]++l).length<1073741824:=by
 have h1:=Su n l h.ov.nd (fun v hv=>(h.ov.new v hv).1)
 rw[List.nil_append];omega
theorem PO.od{n:Nat}{rows:List (List Int)}{se':List Bool}{l:List Int}(h:PO n rows (List.replicate n false) l se' 0)(hn:0<n)(hr:∀v t,t∈ix rows v→0≤t∧t<n)(hw:∀b,b<n→∃w,RB (fun q t=>(t:Int)∈ix rows q) w b):OD n rows (Kr ([]++l)):=by
 obtain⟨l0,e⟩:=h.ends
 have h1:=h.ov
 rw[List.nil_append,e] at *
 exact RH hn hr h1 hw
def Dl(rows:List (List Int)):Nat→List (Int×Int)
 | 0=>[]
 | k+1=>Dl rows k++(ix rows k).map (fun b=>((k:Int),b))
theorem GL{rows:List (List Int)}:∀{n k:Nat},k≤n→∃m,Dl rows n=Dl rows k++m
 | 0,k,h=>⟨[],by rw[show k=0 by omega];simp⟩
 | n+1,k,h=>by
  rcases Nat.lt_or_ge n k with h1|h1
  ·rw[show k=n+1 by omega];exact⟨[],by simp⟩
  ·obtain⟨m,e⟩:=GL (rows:=rows) h1
   exact⟨m++(ix rows n).map (fun b=>((n:Int),b)),by rw[Dl,e,List.append_assoc]⟩
theorem YN{rows:List (List Int)}{n k j:Nat}(hk:k<n)(hj:j<(ix rows k).length):(Dl rows k).length+j<(Dl rows n).length∧∀h,(Dl rows n)[(Dl rows k).length+j]'h=((k:Int),ix (ix rows k) j):=by
 obtain⟨m,e⟩:=GL (rows:=rows) (show k+1≤n from hk)
 rw[Dl] at e
 refine⟨by rw[e];simp;omega,fun h=>?_⟩
 have h2:(Dl rows n)[(Dl rows k).length+j]? = some ((k:Int),ix (ix rows k) j):=by
  rw[e,List.append_assoc,List.getElem?_append_right (by omega),Nat.add_sub_cancel_left,List.getElem?_append_left (by simpa using hj),List.getElem?_map,Bn hj,List.getElem?_eq_getElem hj];rfl
 rw[List.getElem?_eq_getElem h] at h2
 injection h2
theorem GM{rows:List (List Int)}{k:Nat}:(Dl rows (k+1)).length=(Dl rows k).length+(ix rows k).length:=by rw[Dl];simp
abbrev Ed(n:Nat):={ p:Int×Int // (0≤p.1∧p.1<n)∧0≤p.2∧p.2<n }
def Vy{n:Nat}(x:Ed n):List Value:=[.int .i64 x.val.1,.int .i64 x.val.2]
theorem GK{g:List (List Int)}:∀{k:Nat},k≤g.length→∀p∈Dl (Bl g) k,(0≤p.1∧p.1<g.length)∧0≤p.2∧p.2<g.length
 | 0,_,_,h=>by cases h
 | k+1,hk,p,h=>by
  rw[Dl] at h
  rcases List.mem_append.1 h with h1|h1
  ·exact GK (by omega) p h1
  ·obtain⟨b,h2,rfl⟩:=List.mem_map.1 h1
   exact⟨⟨by dsimp only;omega,by dsimp only;omega⟩,Ud g k b h2⟩
def Gt(g:List (List Int)):List (Ed g.length):=(Dl (Bl g) g.length).attachWith _ (fun p hp=>GK (Nat.le_refl _) p hp)
theorem N8{g:List (List Int)}:(Gt g).length=(Dl (Bl g) g.length).length:=by simp[Gt]
theorem GO{g:List (List Int)}{i:Nat}(h:i<(Gt g).length):(Gt g)[i].val=(Dl (Bl g) g.length)[i]'(by rw[←N8];exact h):=by simp[Gt]
def Mm(rs:List (List Int))(p:Int×Int):List (List Int):=rs.set p.2.toNat (ix rs p.2.toNat++[p.1])
def Kt(n:Nat)(l:List (Int×Int)):List (List Int):=l.foldl Mm (List.replicate n [])
def Ee(g:List (List Int)):List (List Int):=Kt g.length (Dl (Bl g) g.length)
theorem Xq{n:Nat}(l:List (Int×Int)):(Kt n l).length=n:=by
 unfold Kt
 have:∀(l:List (Int×Int)) (rs:List (List Int)),(l.foldl Mm rs).length=rs.length:=by
  intro l
  induction l with
  | nil=>intro rs;rfl
  | cons p l ih=>intro rs;rw[List.foldl_cons,ih];simp[Mm]
 rw[this];simp
theorem G5{n:Nat}{l:List (Int×Int)}{p:Int×Int}:Kt n (l++[p])=Mm (Kt n l) p:=by unfold Kt;rw[List.foldl_append];rfl
theorem YK(g:List (List Int)):(Gt g).map Subtype.val=Dl (Bl g) g.length:=List.ext_getElem (by simp[Gt]) fun i h1 h2=>by rw[List.getElem_map];exact GO _
theorem N7{g:List (List Int)}(hg:g.length≤512):∀k,k≤g.length→(Dl (Bl g) k).length≤512*k
 | 0,_=>Nat.le_refl _
 | k+1,h=>by
  have h1:=N7 hg k (by omega)
  have h2:=Su g.length (ix (Bl g) k) (by unfold Bl;rw[Nw (by omega)];exact(Yi _ _).imp (fun h=>by omega)) (fun v hv=>Ud g k v hv)
  rw[GM];omega
theorem G6{n:Nat}:∀(l:List (Int×Int)) (rs:List (List Int)) (c:Nat),(∀r∈rs,r.length≤c)→∀r∈l.foldl Mm rs,r.length≤c+l.length
 | [],rs,c,h,r,hr=>by have:=h r hr;simpa using this
 | p::l,rs,c,h,r,hr=>by
  rw[List.foldl_cons] at hr
  have:=G6 (n:=n) l (Mm rs p) (c+1) (fun r hr=>by
   unfold Mm at hr
   rcases List.mem_or_eq_of_mem_set hr with h1|h1
   ·have:=h r h1;omega
   ·subst h1
    rw[List.length_append]
    by_cases hj:p.2.toNat<rs.length
    ·have:=h _ (Ax hj);simp;omega
    ·rw[Qz (by omega)];simp[default];) r hr
  rw[List.length_cons];omega
theorem PI{g:List (List Int)}(hg:g.length≤512):∀l∈Kt g.length (Dl (Bl g) g.length),l.length<1073741824:=fun l hl=>by
 have h1:=G6 (n:=g.length) (Dl (Bl g) g.length) (List.replicate g.length []) 0 (fun r hr=>by rw[List.eq_of_mem_replicate hr];simp) l hl
 have h2:=N7 hg g.length (Nat.le_refl _)
 have h3:512*g.length≤512*512:=Nat.mul_le_mul_left _ hg
 omega
theorem PJ{n j:Nat}(l:List (Int×Int)):((Kt n l)[j]?.getD []).length≤l.length:=by
 cases h:(Kt n l)[j]? with
 | none=>simp
 | some x =>
  obtain⟨hj,e⟩:=List.getElem?_eq_some_iff.1 h
  have:=G6 (n:=n) l (List.replicate n []) 0 (fun r hr=>by rw[List.eq_of_mem_replicate hr];simp) x (by rw[←e];exact List.getElem_mem hj)
  simpa using this
theorem YM{g:List (List Int)}(hg:g.length≤512):(Gt g).length≤262144:=by
 rw[N8]
 have h2:=N7 hg g.length (Nat.le_refl _)
 have h3:512*g.length≤512*512:=Nat.mul_le_mul_left _ hg
 omega
theorem AW{n:Nat}{q:Int}:∀(row:List Int) (rs:List (List Int)),rs.length=n→row.Nodup→(∀v∈row,0≤v∧v<n)→∀v:Nat,ix ((row.map (fun b=>(q,b))).foldl Mm rs) v=ix rs v++if (v:Int)∈row then [q] else []
 | [],rs,_,_,_,v=>by simp
 | b::row,rs,hl,hn,hr,v=>by
  have h1:=hr b (by simp)
  have h2:=List.nodup_cons.1 hn
  have h3:=AW (q:=q) row (Mm rs (q,b)) (by simp[Mm,hl]) h2.2 (fun v hv=>hr v (by simp[hv])) v
  rw[List.map_cons,List.foldl_cons,h3]
  unfold Mm
  dsimp only
  rw[Bz (by omega)]
  by_cases e:v=b.toNat
  ·have e2:(v:Int)=b:=by omega
   rw[if_pos e,←e,e2,if_neg h2.1,if_pos (by simp),List.append_nil]
  ·have e2:¬(v:Int)=b:=by omega
   rw[if_neg e]
   congr 1
   by_cases h4:(v:Int)∈row
   ·rw[if_pos h4,if_pos (by simp[h4])]
   ·rw[if_neg h4,if_neg (by simp[h4,e2])]
def Nq(rows:List (List Int)):Nat→Nat→List Int
 | 0,_=>[]
 | k+1,v=>Nq rows k v++if (v:Int)∈ix rows k then [(k:Int)] else []
theorem BC{n:Nat}{rows:List (List Int)}(hn:∀k,(ix rows k).Nodup)(hr:∀v t,t∈ix rows v→0≤t∧t<n)(v:Nat):∀k,ix (Kt n (Dl rows k)) v=Nq rows k v
 | 0=>by unfold Kt;rw[Dl,Nq,List.foldl_nil];by_cases h:v<n<;>simp[ix,h]<;>rfl
 | k+1=>by
  have h1:=BC hn hr v k
  rw[Dl,Nq,←h1]
  unfold Kt
  rw[List.foldl_append]
  exact AW _ _ (Xq (n:=n) _) (hn k) (hr k) v
theorem ZR(g:List (List Int))(k:Nat):(ix (Bl g) k).Nodup:=by
 by_cases hk:k<g.length
 ·unfold Bl;rw[Nw hk];exact(Yi _ _).imp (fun h=>by omega)
 ·rw[Qz (by rw[Ue];omega)];exact List.nodup_nil
theorem G4(g:List (List Int))(v:Nat):ix (Ee g) v=Nq (Bl g) g.length v:=BC (ZR g) (Ud g) v _
theorem G7{rows:List (List Int)}{v:Nat}:∀{n:Nat} {x:Int},x∈Nq rows n v↔∃k:Nat,k<n∧x=k∧(v:Int)∈ix rows k
 | 0,x=>by simp[Nq]
 | n+1,x=>by
  rw[Nq,List.mem_append,G7 (n:=n)]
  constructor
  ·rintro(⟨k,h1,h2,h3⟩|h)
   ·exact⟨k,by omega,h2,h3⟩
   ·split at h
    ·rename_i h2;simp at h;exact⟨n,by omega,h,h2⟩
    ·cases h
  ·rintro⟨k,h1,h2,h3⟩
   rcases Nat.lt_or_ge k n with h4|h4
   ·exact .inl ⟨k,h4,h2,h3⟩
   ·have e:k=n:=by omega
    subst e
    exact .inr (by rw[if_pos h3];simpa using h2)
theorem BA(g:List (List Int)):(Ee g).length=g.length:=Xq _
def prG(g:List (List Int))(q t:Nat):Prop:=(t:Int)∈ix (Bl g) q
theorem PK{g:List (List Int)}{q t:Nat}(h:prG g q t):q<g.length∧t<g.length:=by
 refine⟨?_,by have:=Ud g q t h;omega⟩
 rcases Nat.lt_or_ge q g.length with h1|h1
 ·exact h1
 ·unfold prG at h;rw[Qz (by rw[Ue];omega)] at h;cases h
theorem AY{g:List (List Int)}{p b:Nat}:(p:Int)∈ix (Ee g) b↔prG g p b:=by
 rw[G4,G7]
 constructor
 ·rintro⟨k,h1,h2,h3⟩
  have:p=k:=by omega
  subst this;exact h3
 ·exact fun h=>⟨p,(PK h).1,rfl,h⟩
theorem AX{g:List (List Int)}{b:Nat}{x:Int}(h:x∈ix (Ee g) b):0≤x∧x<g.length:=by
 rw[G4,G7] at h
 obtain⟨k,h1,h2,_⟩:=h
 omega
theorem OD.gn{g:List (List Int)}{ord num:List Int}(hn:0<g.length)(ho:OD g.length (Bl g) ord)(hu:NU g.length ord num):GN g.length num (prG g)∧ord.length≤g.length :=
 RK hn (fun v t h=>⟨Ud g v t h,by
  rcases Nat.lt_or_ge v g.length with h1|h1
  ·exact h1
  ·rw[Qz (by rw[Ue];omega)] at h;cases h⟩) ho hu
theorem RJ{n:Nat}{rows:List (List Int)}{ord:List Int}(ho:OD n rows ord):ord.length≤n:=Su n ord ho.nd (fun v hv=>(ho.all v).1 hv)
theorem Xy{n:Nat}{rows:List (List Int)}{ord:List Int}(ho:OD n rows ord){k:Nat}(hk:k<ord.length):0≤ix ord k∧ix ord k<n:=(ho.all _).1 (Ax hk)
theorem E2:∀(l m:List Int),l.Nodup→(∀x∈l,x∈m)→l.length≤m.length
 | [],m,_,_=>Nat.zero_le _
 | x::l,m,h,h2=>by
  have h3:=List.nodup_cons.1 h
  have h4:=E2 l (m.erase x) h3.2 (fun y hy=>(List.mem_erase_of_ne (fun e=>h3.1 (by rw[←e];exact hy))).2 (h2 y (by simp[hy])))
  have h5:=h2 x (by simp)
  rw[List.length_erase_of_mem h5] at h4
  have:=List.length_pos_of_mem h5
  rw[List.length_cons];omega
theorem RL{n:Nat}{rows:List (List Int)}{ord:List Int}(ho:OD n rows ord):n≤ord.length:=by
 have h:∀k,k≤n→∃l:List Int,l.length=k∧l.Nodup∧∀x∈l,0≤x∧x<k:=by
  intro k
  induction k with
  | zero=>exact fun _=>⟨[],rfl,List.nodup_nil,fun x h=>by cases h⟩
  | succ k ih =>
   intro hk
   obtain⟨l,h1,h2,h3⟩:=ih (by omega)
   refine⟨(k:Int)::l,by simp[h1],List.nodup_cons.2 ⟨fun h4=>by have:=h3 _ h4;omega,h2⟩,fun x hx=>?_⟩
   rcases List.mem_cons.1 hx with h4|h4
   ·omega
   ·have:=h3 x h4;omega
 obtain⟨l,h1,h2,h3⟩:=h n (Nat.le_refl _)
 have:=E2 l ord h2 (fun x hx=>(ho.all _).2 (h3 x hx))
 omega
theorem nodup_inj{α:Type}:∀{l:List α},l.Nodup→∀{i j:Nat} (hi:i<l.length) (hj:j<l.length),l[i]=l[j]→i=j
 | [],_,i,_,hi,_,_=>by cases hi
 | x::l,h,0,0,_,_,_=>rfl
 | x::l,h,0,j+1,_,hj,e=>by
  rw[List.getElem_cons_zero,List.getElem_cons_succ] at e
  exact absurd (by rw[e];exact List.getElem_mem _) (List.nodup_cons.1 h).1
 | x::l,h,i+1,0,hi,_,e=>by
  rw[List.getElem_cons_zero,List.getElem_cons_succ] at e
  exact absurd (by rw[←e];exact List.getElem_mem _) (List.nodup_cons.1 h).1
 | x::l,h,i+1,j+1,hi,hj,e=>by
  rw[List.getElem_cons_succ,List.getElem_cons_succ] at e
  rw[nodup_inj (List.nodup_cons.1 h).2 _ _ e]
def NK(n:Nat)(ord nm:List Int)(k:Nat):Prop:=nm.length=n∧∀j,j<k→ix nm (ix ord j).toNat=j
theorem NK.nx{n:Nat}{rows:List (List Int)}{ord nm:List Int}{k:Nat}(ho:OD n rows ord)(h:NK n ord nm k)(hk:k<ord.length):NK n ord (nm.set (ix ord k).toNat k) (k+1):=by
 refine⟨by rw[List.length_set];exact h.1,fun j hj=>?_⟩
 have h1:=Xy ho hk
 have h2:=Xy ho (k:=j) (by omega)
 rw[Bz (by rw[h.1];omega)]
 split
 ·rename_i e
  have e2:ix ord j=ix ord k:=by omega
  have:j=k:=by
   rw[Bn (show j<ord.length by omega),Bn hk] at e2
   exact nodup_inj ho.nd _ _ e2
  omega
 ·rename_i e
  rcases Nat.lt_or_ge j k with h3|h3
  ·exact h.2 j h3
  ·exact absurd (show(ix ord j).toNat=(ix ord k).toNat by rw[show j=k by omega]) e
structure IR(n:Nat)(num:List Int)(pr:Nat→Nat→Prop)(ou0 ou:List Int)(ch:Bool)(k:Nat):Prop where
 is:IS n num pr ou ((k+1:Nat):Int)
 le:smI n num ou n≤smI n num ou0 n
 lt:ch=true→smI n num ou n<smI n num ou0 n
section
variable{n:Nat}{num ou0 ou:List Int}{pr:Nat→Nat→Prop}{ch:Bool}{k:Nat}{best:Int}{b:Nat}
theorem IR.set(hg:GN n num pr)(h:IR n num pr ou0 ou ch k)(hb:b<n)(hb0:b≠0)(hi:ix num b=((k+1:Nat):Int))(hB:BS ou (fun p=>pr p b) best)(hne:ix ou b≠best):IR n num pr ou0 (ou.set b best) true (k+1):=by
 obtain⟨h1,h2,h3,h4⟩:=h.is.step hg hb hb0 hi hB
 have h5:=h.is.less hg hb ⟨h1,h2⟩ hne h4
 have h6:=h.le
 exact⟨by rw[show((k+1+1:Nat):Int)=((k+1:Nat):Int)+1 by omega];exact h3,by omega,fun _=>by omega⟩
theorem IR.keep(hg:GN n num pr)(h:IR n num pr ou0 ou ch k)(hb:b<n)(hb0:b≠0)(hi:ix num b=((k+1:Nat):Int))(hB:BS ou (fun p=>pr p b) best)(he:ix ou b=best):IR n num pr ou0 ou ch (k+1):=by
 obtain⟨h1,h2,h3,h4⟩:=h.is.step hg hb hb0 hi hB
 have hl:b<ou.length:=by rw[h.is.tv.len];exact hb
 have e:ou.set b best=ou:=by rw[←he,Bn hl];exact List.set_getElem_self _
 rw[e] at h3
 exact⟨by rw[show((k+1+1:Nat):Int)=((k+1:Nat):Int)+1 by omega];exact h3,h.le,h.lt⟩
end
def B7(g:List (List Int))(out:List Int):Prop:=out.length=g.length∧∀a b:Nat,a<g.length→b<g.length→(a=b∨¬RB (prG g) a b)→Px out a b=true
theorem IS.dg{g:List (List Int)}{num out:List Int}(hg:GN g.length num (prG g))(h:IS g.length num (prG g) out (g.length:Int)):B7 g out:=by
 refine⟨h.tv.len,fun a b ha hb hd=>?_⟩
 have h1:=h.dm b a hb (h.fp b hb (hg.rng b hb).2) hd
 have hl:=h.tv.len
 unfold Px inR
 rw[if_pos ⟨by simp;omega,by simp;omega⟩]
 refine GQ h.tv _ h1 hb ?_
 have:=hg.rng b hb
 have:=hg.rng a ha
 omega
theorem IS.pd{n:Nat}{num out:List Int}{pr:Nat→Nat→Prop}{i:Int}(h:IS n num pr out i){x:Int}(hx:0≤x):pdn out x.toNat↔¬(x≠0∧ix out x.toNat<0):=by
 unfold pdn
 constructor
 ·rintro(h1|h1) ⟨h2,h3⟩<;>omega
 ·intro h1
  by_cases e:x=0
  ·exact .inl (by omega)
  ·exact .inr (by rcases Int.lt_or_le (ix out x.toNat) 0 with h2|h2;exact absurd ⟨e,h2⟩ h1;exact h2)
theorem O5{n:Nat}{num out:List Int}{pr:Nat→Nat→Prop}(hg:GN n num pr)(hv:TV n num out){a b:Int}:∀(k:Nat) {a' b':Int},CO n num out a b a' b'→(ix num a'.toNat).toNat+(ix num b'.toNat).toNat<k→∃c,Kg out num k a' b'=c∧(0≤c∧c<n)∧pdn out c.toNat∧An out c.toNat a.toNat∧An out c.toNat b.toNat∧∀x,An out x a.toNat→An out x b.toNat→An out x c.toNat
 | 0,a',b',_,h=>absurd h (Nat.not_lt_zero _)
 | k+1,a',b',h,hk=>by
  rw[Kg]
  have ra:=h.ra
  have rb:=h.rb
  have na:=hg.rng a'.toNat (by omega)
  have nb:=hg.rng b'.toNat (by omega)
  split
  ·rename_i h1
   obtain⟨h2,h3⟩:=h.left hg hv h1
   have:=hg.rng (ix out a'.toNat).toNat (by have:=h2.ra;omega)
   exact O5 hg hv k h2 (by omega)
  ·split
   ·rename_i h1
    obtain⟨h2,h3⟩:=h.right hg hv h1
    have:=hg.rng (ix out b'.toNat).toNat (by have:=h2.rb;omega)
    exact O5 hg hv k h2 (by omega)
   ·exact⟨_,rfl,ra,h.pa,h.done hg (by omega)⟩
theorem ZJ{n:Nat}{num out:List Int}{pr:Nat→Nat→Prop}(hg:GN n num pr)(hv:TV n num out){a b:Int}(ha:0≤a∧a<n)(hb:0≤b∧b<n)(h1:pdn out a.toNat)(h2:pdn out b.toNat):(0≤Mw out num a b∧Mw out num a b<n)∧pdn out (Mw out num a b).toNat∧An out (Mw out num a b).toNat a.toNat∧An out (Mw out num a b).toNat b.toNat∧∀x,An out x a.toNat→An out x b.toNat→An out x (Mw out num a b).toNat:=by
 obtain⟨c,h3,h4⟩:=O5 hg hv _ (CO.beg ha hb h1 h2) (Nat.lt_succ_self _)
 unfold Mw
 rw[h3];exact h4
theorem XH{n k:Nat}{a b:Int}(hk:k<n):(List.replicate k a++List.replicate (n-k) b).set k a=List.replicate (k+1) a++List.replicate (n-(k+1)) b:=by
 obtain⟨j,hj⟩:∃j,n-k=j+1:=⟨n-k-1,by omega⟩
 rw[hj,show n-(k+1)=j by omega,List.replicate_succ (n:=j),List.set_append_right _ _ (by simp),List.length_replicate,Nat.sub_self,List.set_cons_zero,List.replicate_succ' (n:=k),List.append_assoc];rfl
section
variable{n:Nat}{num ou l:List Int}{pr:Nat→Nat→Prop}{i a best:Int}{j:Nat}
def S9(n:Nat)(ou l:List Int)(j:Nat)(best:Int):Prop:=j≤l.length∧BS ou (Pk l j) best∧-1≤best∧best<(n:Int)
theorem MY(hg:GN n num pr)(hs:IS n num pr ou i)(h:S9 n ou l j best)(ha:ix l j=a)(hr:0≤a∧a<n)(hj:j<l.length)(hc:ix num a.toNat<0∨¬a=0∧ix ou a.toNat<0):S9 n ou l (j+1) best:=by
 refine⟨by omega,h.2.1.skip hj (by omega) ?_,h.2.2⟩
 rw[ha]
 intro h1
 have h2:=(hs.pd hr.1).1 h1
 have h3:=(hg.rng a.toNat (by omega)).1
 rcases hc with h4|h4
 ·omega
 ·exact h2 h4
theorem E8(hs:IS n num pr ou i)(hr:0≤a∧a<n)(hc:¬a=0→0≤ix ou a.toNat):pdn ou a.toNat:=(hs.pd hr.1).2 fun h=>by have:=hc h.1;omega
theorem NA(hs:IS n num pr ou i)(h:S9 n ou l j best)(ha:ix l j=a)(hr:0≤a∧a<n)(hj:j<l.length)(hc:¬a=0→0≤ix ou a.toNat)(hb:best<0):S9 n ou l (j+1) a:=by
 have h1:=h.2.1.first hb hj (by omega) (by rw[ha];exact E8 hs hr hc)
 rw[ha] at h1
 exact⟨by omega,h1,by omega,hr.2⟩
theorem MZ(hg:GN n num pr)(hl:num.length=n)(hs:IS n num pr ou i)(h:S9 n ou l j best)(hr:0≤a∧a<n)(hc:¬a=0→0≤ix ou a.toNat)(hb:0≤best):JM ou num best a :=
 ⟨n,pr,hg,hl,hs.tv,CO.beg ⟨hb,h.2.2.2⟩ hr (h.2.1.pd hb) (E8 hs hr hc)⟩
theorem NB(hg:GN n num pr)(hs:IS n num pr ou i)(h:S9 n ou l j best)(ha:ix l j=a)(hr:0≤a∧a<n)(hj:j<l.length)(hc:¬a=0→0≤ix ou a.toNat)(hb:0≤best):S9 n ou l (j+1) (Mw ou num best a):=by
 have hp:=E8 hs hr hc
 obtain⟨h1,h2,h3⟩:=ZJ hg hs.tv ⟨hb,h.2.2.2⟩ hr (h.2.1.pd hb) hp
 exact⟨by omega,h.2.1.com hb hj (by omega) (by rw[ha];exact hp) h1.1 h2 (by rw[ha];exact h3),by omega,h1.2⟩
end
theorem S9.all{g:List (List Int)}{ou:List Int}{j b:Nat}{best:Int}(h:S9 g.length ou (ix (Ee g) b) j best)(hj:j=(ix (Ee g) b).length):BS ou (fun p=>prG g p b) best:=by
 subst hj;exact h.2.1.all (fun p=>AY)
theorem VS{l:List Int}{m k:Nat}:ix (l.drop m) k=ix l (m+k):=by simp[ix,List.getD]
theorem IS.end9{n:Nat}{num out:List Int}{pr:Nat→Nat→Prop}{k:Nat}(h:IS n num pr out ((k+1:Nat):Int))(e:k+1=n):IS n num pr out (n:Int):=by rw[←e] at h ⊢;exact h
inductive RA (to:List (List Int)) (n w:Nat):Nat→Prop
 | zero:w≠0→RA to n w 0
 | step {x:Nat} {t:Int}:RA to n w x→t∈ix to x→1≤t→t<n→t≠w→RA to n w t.toNat
theorem RA.nz{to:List (List Int)}{n w x:Nat}(h:RA to n w x):w≠0:=by
 induction h with
 | zero h=>exact h
 | step _ _ _ _ _ ih=>exact ih
theorem OA{to:List (List Int)}{n w x:Nat}(hn:0<n)(h:RA to n w x):x<n:=by
 induction h with
 | zero h=>exact hn
 | step _ _ _ _ _ _=>omega
theorem NZ{to:List (List Int)}{f:D.Func}{n w x:Nat}(hl:f.Blocks.length=n)(hn:0<n)(ht:∀j,j<n→(ix f.Blocks j).Term.To=ix to j)(h:RA to n w x):ix (Fb f (w:Int)) x=true:=by
 have hw:=h.nz
 obtain⟨h0,hc⟩:=AO (f:=f) (w:=(w:Int)) (by omega) (by omega)
 induction h with
 | zero h=>exact h0
 | @step y t h1 h2 h3 h4 h5 ih=>exact hc _ ih t (by rw[ht _ (OA hn h1)];exact h2) (by omega) (by omega) h5
def mkB(x:D.Block):List Int:=x.Phis.map (fun p=>p.Dst)++x.Ins.flatMap Aw
def Vs(n:Nat)(to:List (List Int))(par:Int)(bs:List D.Block)(b:Nat)(r:Int):Prop:=(0≤r∧r<par)∨∃a,a<n∧(a=b∨¬RA to n a b)∧r∈mkB (ix bs a)
def Vo(n:Nat)(to:List (List Int))(par:Int)(bs:List D.Block)(b:Nat)(r:Int):Prop:=(0≤r∧r<par)∨∃a,a<n∧(a≠b∧¬RA to n a b)∧r∈mkB (ix bs a)
def gIn(S:Int→Prop)(l:List D.Ins):Prop:=∀k,k<l.length→∀r∈(ix l k).Args,S r∨r∈(l.take k).flatMap Aw
theorem gIn.add{S:Int→Prop}{l:List D.Ins}{i:D.Ins}(h:gIn S l)(hi:∀r∈i.Args,S r∨r∈l.flatMap Aw):gIn S (l++[i]):=fun k hk r hr=>by
 rw[List.length_append,List.length_singleton] at hk
 rcases Nat.lt_or_ge k l.length with h1|h1
 ·rw[Yu h1] at hr
  rw[List.take_append_of_le_length (by omega)];exact h k h1 r hr
 ·have e:k=l.length:=by omega
  subst e
  have e2:ix (l++[i]) l.length=i:=by rw[Bn (by simp)];simp
  rw[e2] at hr
  rw[List.take_left' rfl];exact hi r hr
theorem gIn.mono{S S':Int→Prop}{l:List D.Ins}(h:gIn S l)(hs:∀r,S r→S' r):gIn S' l:=fun k hk r hr=>(h k hk r hr).imp (hs r) id
structure VI(n:Nat)(to:List (List Int))(par:Int)(bs:List D.Block):Prop where
 len:bs.length=n
 gd:∀j,j<n→gIn (fun r=>Vo n to par bs j r∨r∈(ix bs j).Phis.map (fun p=>p.Dst)) (ix bs j).Ins
 tm:∀j,j<n→∀r∈(ix bs j).Term.Args,Vs n to par bs j r
 ph:∀j,j<n→∀p∈(ix bs j).Phis,∀x∈p.In,(0≤x.From∧x.From<n)∧Vs n to par bs x.From.toNat x.Val
def upB(bs bs':List D.Block):Prop:=∀j,∀r∈mkB (ix bs j),r∈mkB (ix bs' j)
section
variable{n:Nat}{to:List (List Int)}{par:Int}{bs bs':List D.Block}{b:Nat}{r:Int}
theorem Vs.up(h:Vs n to par bs b r)(hu:upB bs bs'):Vs n to par bs' b r:=h.imp id fun⟨a,h1,h2,h3⟩=>⟨a,h1,h2,hu a r h3⟩
theorem Vo.up(h:Vo n to par bs b r)(hu:upB bs bs'):Vo n to par bs' b r:=h.imp id fun⟨a,h1,h2,h3⟩=>⟨a,h1,h2,hu a r h3⟩
theorem Vs.here(hb:b<n)(h:r∈mkB (ix bs b)):Vs n to par bs b r := .inr ⟨b,hb,.inl rfl,h⟩
theorem Vs.split(h:Vs n to par bs b r):(Vo n to par bs b r∨r∈(ix bs b).Phis.map (fun p=>p.Dst))∨r∈(ix bs b).Ins.flatMap Aw:=by
 rcases h with h|⟨a,h1,h2,h3⟩
 ·exact .inl (.inl (.inl h))
 ·by_cases e:a=b
  ·subst e
   rcases List.mem_append.1 h3 with h4|h4
   ·exact .inl (.inr h4)
   ·exact .inr h4
  ·exact .inl (.inl (.inr ⟨a,h1,⟨e,h2.resolve_left e⟩,h3⟩))
theorem VI.put{x:D.Block}(h:VI n to par bs)(hb:b<n)(hm:∀r∈mkB (ix bs b),r∈mkB x)(hp:x.Phis.map (fun p=>p.Dst)=(ix bs b).Phis.map (fun p=>p.Dst)∨∀r∈(ix bs b).Phis.map (fun p=>p.Dst),r∈x.Phis.map (fun p=>p.Dst))
  (hi:gIn (fun r=>Vo n to par bs b r∨r∈(ix bs b).Phis.map (fun p=>p.Dst)) x.Ins) (ht:∀r∈x.Term.Args,Vs n to par bs b r)
  (hq:∀p∈x.Phis,∀y∈p.In,(0≤y.From∧y.From<n)∧Vs n to par bs y.From.toNat y.Val):VI n to par (bs.set b x)∧upB bs (bs.set b x):=by
 have hl:=h.len
 have hu:upB bs (bs.set b x):=fun j r hr=>by
  rw[Bz (by omega)];split
  ·rename_i e;subst e;exact hm r hr
  ·exact hr
 have hp':∀r∈(ix bs b).Phis.map (fun p=>p.Dst),r∈x.Phis.map (fun p=>p.Dst):=fun r hr=>hp.elim (fun e=>by rw[e];exact hr) (fun h=>h r hr)
 refine⟨⟨by rw[List.length_set];exact hl,fun j hj=>?_,fun j hj r hr=>?_,fun j hj p hm9 y hy=>?_⟩,hu⟩
 ·rw[Bz (by omega)];split
  ·rename_i e;subst e
   exact hi.mono fun r hr=>hr.imp (fun h=>h.up hu) (hp' r)
  ·exact(h.gd j hj).mono fun r hr=>hr.imp (fun h=>h.up hu) id
 ·rw[Bz (by omega)] at hr;split at hr
  ·rename_i e;subst e;exact(ht r hr).up hu
  ·exact(h.tm j hj r hr).up hu
 ·rw[Bz (by omega)] at hm9;split at hm9
  ·rename_i e;subst e;have:=hq p hm9 y hy;exact⟨this.1,this.2.up hu⟩
  ·have:=h.ph j hj p hm9 y hy;exact⟨this.1,this.2.up hu⟩
theorem VI.addI{i:D.Ins}(h:VI n to par bs)(hb:b<n)(hi:∀r∈i.Args,Vs n to par bs b r):VI n to par (bs.set b { (ix bs b) with Ins:=(ix bs b).Ins++[i] })∧upB bs (bs.set b { (ix bs b) with Ins:=(ix bs b).Ins++[i] })∧∀r∈Aw i,r∈mkB (ix (bs.set b { (ix bs b) with Ins:=(ix bs b).Ins++[i] }) b):=by
 have h1:=h.put (x:={ (ix bs b) with Ins:=(ix bs b).Ins++[i] }) hb (fun r hr=>by
  unfold mkB at hr ⊢
  dsimp only
  rw[List.flatMap_append]
  rcases List.mem_append.1 hr with h2|h2
  ·exact List.mem_append.2 (.inl h2)
  ·exact List.mem_append.2 (.inr (List.mem_append.2 (.inl h2)))) (.inl rfl) ((h.gd b hb).add fun r hr=>(hi r hr).split) (h.tm b hb) (h.ph b hb)
 refine⟨h1.1,h1.2,fun r hr=>?_⟩
 rw[Bz (by rw[h.len];exact hb),if_pos rfl]
 unfold mkB
 dsimp only
 rw[List.flatMap_append]
 exact List.mem_append.2 (.inr (List.mem_append.2 (.inr (by simpa using hr))))
end
structure VB(n:Nat)(to:List (List Int))(b:Nat)(par:Int)(bs:List D.Block)(lv:List Int):Prop where
 vi:VI n to par bs
 vl:∀x∈lv,Vs n to par bs b x
abbrev VM(n:Nat)(to:List (List Int))(b:Nat)(m:Mk):Prop:=VB n to b m.par m.bs m.lv
structure VG(n:Nat)(to:List (List Int))(b:Nat)(m m':Mk):Prop where
 vm:VM n to b m'
 par:m'.par=m.par
 up:upB m.bs m'.bs
abbrev Wv(n:Nat)(to:List (List Int))(b:Nat)(m:Mk)(x:Int):Prop:=Vs n to m.par m.bs b x
section
variable{n:Nat}{to:List (List Int)}{b:Nat}{m m' m2:Mk}{x:Int}
theorem VG.on(g:VG n to b m m')(h:Wv n to b m x):Wv n to b m' x:=by unfold Wv;rw[g.par];exact h.up g.up
theorem VG.tr(g:VG n to b m m')(h:VG n to b m' m2):VG n to b m m2:=⟨h.vm,h.par.trans g.par,fun j r hr=>h.up j r (g.up j r hr)⟩
theorem VM.rf(h:VM n to b m):VG n to b m m:=⟨h,rfl,fun _ _ h=>h⟩
theorem VM.same(h:VM n to b m)(h1:m'.par=m.par)(h2:m'.bs=m.bs)(h3:m'.lv=m.lv):VG n to b m m':=⟨by unfold VM;rw[h1,h2,h3];exact h,h1,by rw[h2];exact fun _ _ h=>h⟩
theorem VM.add{i:D.Ins}(h:VM n to b m)(hb:b<n)(hi:∀r∈i.Args,Wv n to b m r):VG n to b m (Ca (b:Int) i m)∧∀r∈Aw i,Wv n to b (Ca (b:Int) i m) r:=by
 obtain⟨h1,h2,h3⟩:=h.vi.addI hb hi
 have e:(Ca (b:Int) i m).bs=m.bs.set b { (ix m.bs b) with Ins:=(ix m.bs b).Ins++[i] }:=rfl
 have hn:∀r∈Aw i,Wv n to b (Ca (b:Int) i m) r:=fun r hr=>Vs.here hb (h3 r hr)
 refine⟨⟨⟨h1,fun y hy=>?_⟩,rfl,h2⟩,hn⟩
 rcases List.mem_append.1 (show y∈m.lv++Aw i from hy) with h4|h4
 ·exact(h.vl y h4).up h2
 ·exact hn y h4
theorem VM.con{v:Int}(h:VM n to b m)(hb:b<n):VG n to b m (Bk (b:Int) v m)∧Wv n to b (Bk (b:Int) v m) m.nx:=by
 have h1:=VM.add (m:=Aq m) (i:=⟨1,m.nx,0,[],v⟩) h hb (fun r hr=>by cases hr)
 exact⟨⟨h1.1.vm,rfl,h1.1.up⟩,h1.2 m.nx (by simp[Aw])⟩
theorem Z8:(Cr m).par=m.par∧(Cr m).bs=m.bs∧(Cr m).lv=m.lv:=by unfold Cr;split<;>exact⟨rfl,rfl,rfl⟩
theorem MU:(Dj m).par=m.par∧(Dj m).bs=m.bs∧(Dj m).lv=m.lv:=by
 unfold Dj;split
 ·exact Z8 (m:=m)
 ·exact Z8
theorem VM.some(h:VM n to b m)(hb:b<n):VG n to b m (sS9 (b:Int) m)∧Wv n to b (sS9 (b:Int) m) (sV9 m):=by
 obtain⟨e1,e2,e3⟩:=MU (m:=m)
 have h0:VG n to b m (Dj m):=h.same e1 e2 e3
 unfold sS9 sV9
 by_cases hc:Hx m=true
 ·rw[if_pos hc,if_pos hc]
  have h1:=VM.con (m:=Cb (Dj m)) (v:=Ar (Dj m)) h0.vm hb
  exact⟨⟨h1.1.vm,e1,fun j r hr=>h1.1.up j r (h0.up j r hr)⟩,h1.2⟩
 ·rw[if_neg hc,if_neg hc]
  refine⟨h0,h0.on ?_⟩
  have hv:En m=true:=by
   cases h9:En m with
   | true=>rfl
   | false=>exact absurd (by unfold Hx;rw[h9];rfl) hc
  have hl:m.lv.length≠0:=by unfold En at hv;simpa using hv
  unfold Ew
  rw[if_neg hl]
  have hr:0≤Ey m∧Ey m<m.lv.length:=by
   unfold Ey;split
   ·omega
   ·exact tV9 (by omega) m
  exact h.vl _ (Ax (l:=m.lv) (i:=(Ey m).toNat) (by omega))
end
section
variable{n:Nat}{to:List (List Int)}{b:Nat}{m m' m2:Mk}{x:Int}
theorem w2{y z:Int}(h1:Wv n to b m y)(h2:Wv n to b m z):∀r∈[y,z],Wv n to b m r:=fun r hr=>by
 simp at hr;rcases hr with rfl|rfl<;>assumption
theorem w1{y:Int}(h1:Wv n to b m y):∀r∈[y],Wv n to b m r:=fun r hr=>by simp at hr;subst hr;exact h1
theorem VM.me1(h:VM n to b m)(hb:b<n):VG n to b m (Bp (b:Int) m).2∧Wv n to b (Bp (b:Int) m).2 (Bp (b:Int) m).1:=by
 have h1:=VM.con (m:=tSS m) (v:=IntKind.i32.wrap (tVV 9 m)) h hb
 have g1:VG n to b m (Bk (b:Int) (IntKind.i32.wrap (tVV 9 m)) (tSS m)):=⟨h1.1.vm,rfl,h1.1.up⟩
 have w0:=h1.2
 unfold Bp
 dsimp only
 generalize Bk (b:Int) (IntKind.i32.wrap (tVV 9 m)) (tSS m)=m1 at g1 w0 ⊢
 split
 ·have g2:VG n to b m1 (tSS m1):=g1.vm.same rfl rfl rfl
  have h3:=VM.some (m:=tSS m1) g2.vm hb
  have h4:=VM.con (m:=sS9 (b:Int) (tSS m1)) (v:=7) h3.1.vm hb
  have h6:=VM.add (m:=Aq (Bk (b:Int) 7 (sS9 (b:Int) (tSS m1)))) (i:=⟨5,(Bk (b:Int) 7 (sS9 (b:Int) (tSS m1))).nx,0,[sV9 (tSS m1),(sS9 (b:Int) (tSS m1)).nx],0⟩) h4.1.vm hb (w2 (h4.1.on h3.2) h4.2)
  have g14:=g2.tr (h3.1.tr h4.1)
  generalize Bk (b:Int) 7 (sS9 (b:Int) (tSS m1))=m4 at h4 h6 g14 ⊢
  have g6:VG n to b m4 (Ca (b:Int) ⟨5,m4.nx,0,[sV9 (tSS m1),(sS9 (b:Int) (tSS m1)).nx],0⟩ (Aq m4)):=⟨h6.1.vm,rfl,h6.1.up⟩
  have w6:=h6.2 m4.nx (by simp[Aw])
  generalize Ca (b:Int) ⟨5,m4.nx,0,[sV9 (tSS m1),(sS9 (b:Int) (tSS m1)).nx],0⟩ (Aq m4)=m6 at g6 w6 ⊢
  have h7:=VM.add (m:=Aq m6) (i:=⟨2,m6.nx,0,[(tSS m).nx,m4.nx],0⟩) g6.vm hb (w2 (g6.on (g14.on w0)) w6)
  exact⟨g1.tr (g14.tr (g6.tr ⟨h7.1.vm,rfl,h7.1.up⟩)),h7.2 _ (by simp[Aw])⟩
 ·exact⟨g1.tr (g1.vm.same rfl rfl rfl),w0⟩
theorem VM.me2(h:VM n to b m):VG n to b m (mem2 m).2:=by
 unfold mem2;dsimp only;split<;>exact h.same rfl rfl rfl
theorem VM.mem{st:Bool}(h:VM n to b m)(hb:b<n):VG n to b m (Cd (b:Int) st m):=by
 have h1:=h.me1 hb
 have h2:=h1.1.vm.me2
 unfold Cd
 dsimp only
 split
 ·have h3:=h2.vm.some hb
  have h4:=h3.1.vm.add (i:=⟨16,0,0,[(Bp (b:Int) m).1,sV9 (mem2 (Bp (b:Int) m).2).2],(mem2 (Bp (b:Int) m).2).1⟩) hb (w2 (h3.1.on (h2.on h1.2)) h3.2)
  exact h1.1.tr (h2.tr (h3.1.tr h4.1))
 ·have h4:=VM.add (m:=Aq (mem2 (Bp (b:Int) m).2).2) (i:=⟨15,(mem2 (Bp (b:Int) m).2).2.nx,0,[(Bp (b:Int) m).1],(mem2 (Bp (b:Int) m).2).1⟩) h2.vm hb (w1 (h2.on h1.2))
  exact h1.1.tr (h2.tr ⟨h4.1.vm,rfl,h4.1.up⟩)
theorem VM.args(hb:b<n):∀(k:Nat) (l:List Int) (m:Mk),VM n to b m→(∀x∈l,Wv n to b m x)→VG n to b m (Em (b:Int) k l m).2∧∀x∈(Em (b:Int) k l m).1,Wv n to b (Em (b:Int) k l m).2 x
 | 0,l,m,h,hl=>⟨h.rf,hl⟩
 | k+1,l,m,h,hl=>by
  have h1:=h.some hb
  rw[Em]
  obtain⟨a,d⟩:=VM.args hb k (l++[sV9 m]) (sS9 (b:Int) m) h1.1.vm (fun x hx=>by
   rcases List.mem_append.1 hx with h2|h2
   ·exact h1.1.on (hl x h2)
   ·simp at h2;subst h2;exact h1.2)
  exact⟨h1.1.tr a,d⟩
theorem VM.ad(h:VM n to b m)(hb:b<n){i:D.Ins}(hs:m'.par=m.par)(hs2:m'.bs=m.bs)(hs3:m'.lv=m.lv)(hi:∀r∈i.Args,Wv n to b m r):VG n to b m (Ca (b:Int) i m'):=by
 have g:=h.same hs hs2 hs3
 have h1:=g.vm.add (i:=i) hb (fun r hr=>g.on (hi r hr))
 exact g.tr h1.1
theorem VM.co(h:VM n to b m)(hb:b<n){v:Int}(hs:m'.par=m.par)(hs2:m'.bs=m.bs)(hs3:m'.lv=m.lv):VG n to b m (Bk (b:Int) v m')∧Wv n to b (Bk (b:Int) v m') m'.nx:=by
 have g:=h.same hs hs2 hs3
 have h1:=g.vm.con (v:=v) hb
 exact⟨g.tr h1.1,h1.2⟩
theorem VM.ins(h:VM n to b m)(hb:b<n):VG n to b m (Ce (b:Int) m):=by
 have g1:VG n to b m (tSS m):=h.same rfl rfl rfl
 have h2:=g1.vm.some hb
 have h3:=h2.1.vm.some hb
 have w1':=h3.1.on h2.2
 have g3:=g1.tr (h2.1.tr h3.1)
 unfold Ce
 dsimp only
 generalize tVV 20 m=k
 generalize tSS m=m1 at g1 h2 h3 w1' g3 ⊢
 split
 ·split
  ·have h4:=VM.co h3.1.vm hb (m':=tSS (tSS (sS9 (b:Int) (sS9 (b:Int) m1)))) (v:=IntKind.i32.wrap (tVV 40 (tSS (sS9 (b:Int) (sS9 (b:Int) m1)))-8)) rfl rfl rfl
   exact g3.tr (h4.1.tr (h4.1.vm.ad hb rfl rfl rfl (w2 (h4.1.on w1') h4.2)))
  ·exact g3.tr (h3.1.vm.ad hb rfl rfl rfl (w2 w1' h3.2))
 split
 ·exact g3.tr (h3.1.vm.ad hb rfl rfl rfl (w2 w1' h3.2))
 split
 ·have h4:=VM.co h2.1.vm hb (m':=tSS (sS9 (b:Int) m1)) (v:=IntKind.i32.wrap (tVV 12 (sS9 (b:Int) m1))) rfl rfl rfl
  have g4:=g1.tr (h2.1.tr h4.1)
  split
  ·have h5:=VM.co h4.1.vm hb (m':=tSS (tSS (Bk (b:Int) (IntKind.i32.wrap (tVV 12 (sS9 (b:Int) m1))) (tSS (sS9 (b:Int) m1))))) (v:=IntKind.i32.wrap (1+IntKind.i32.wrap (tVV 12 (tSS (Bk (b:Int) (IntKind.i32.wrap (tVV 12 (sS9 (b:Int) m1))) (tSS (sS9 (b:Int) m1))))))) rfl rfl rfl
   exact g4.tr (h5.1.tr (h5.1.vm.ad hb rfl rfl rfl (w2 (h5.1.on (h4.1.on h2.2)) h5.2)))
  ·exact g4.tr (h4.1.vm.ad hb rfl rfl rfl (w2 (h4.1.on h2.2) h4.2))
 split
 ·exact g1.tr (g1.vm.mem hb)
 split
 ·obtain⟨a,d⟩:=VM.args hb (tVV 5 m1).toNat [] (tSS m1) g1.vm (fun x hx=>by cases hx)
  have a':VG n to b m1 (Em (b:Int) (tVV 5 m1).toNat [] (tSS m1)).2:=⟨a.vm,a.par,a.up⟩
  exact g1.tr (a'.tr (a.vm.ad hb rfl rfl rfl d))
 split
 ·exact g3.tr (h3.1.vm.ad hb rfl rfl rfl (w2 w1' h3.2))
 ·exact g1.tr (VM.co g1.vm hb (m':=Cb m1) (v:=Ar m1) rfl rfl rfl).1
theorem VM.is(hb:b<n):∀(k:Nat) {m:Mk},VM n to b m→VG n to b m (Kd b k m)
 | 0,_,h=>h.rf
 | k+1,_,h=>(h.ins hb).tr (VM.is hb k (h.ins hb).vm)
theorem VM.sT{t:D.Term}(h:VM n to b m)(hb:b<n)(hs:m'.par=m.par)(hs2:m'.bs=m.bs)(hs3:m'.lv=m.lv)(ht:∀r∈t.Args,Wv n to b m r):VG n to b m (setT (b:Int) t m'):=by
 have h1:=h.vi.put (x:={ (ix m.bs b) with Term:=t }) hb (fun r hr=>hr) (.inl rfl) (h.vi.gd b hb) ht (h.vi.ph b hb)
 have e:(setT (b:Int) t m').bs=m.bs.set b { (ix m.bs b) with Term:=t }:=by show m'.bs.set _ _=_;rw[hs2];rfl
 exact⟨⟨by rw[e];show VI n to m'.par _;rw[hs];exact h1.1,fun y hy=>by
  rw[e];show Vs n to m'.par _ b y;rw[hs];exact(h.vl y (by rw[←hs3];exact hy)).up h1.2⟩,hs,by rw[e];exact h1.2⟩
theorem VM.en{l:List Int}(h:VM n to b m)(hb:b<n):VG n to b m (Co (b:Int) l m):=by
 unfold Co
 split
 ·split
  ·exact h.sT hb rfl rfl rfl (fun r hr=>by cases hr)
  split
  ·have g1:VG n to b m (tSS m):=h.same rfl rfl rfl
   have h1:=g1.vm.some hb
   exact g1.tr (h1.1.tr (h1.1.vm.sT hb rfl rfl rfl (w1 h1.2)))
  ·exact h.sT hb rfl rfl rfl (fun r hr=>by cases hr)
 split
 ·exact h.sT hb rfl rfl rfl (fun r hr=>by cases hr)
 split
 ·have h3:=h.some hb
  have g2:VG n to b (sS9 (b:Int) m) (tSS (sS9 (b:Int) m)):=h3.1.vm.same rfl rfl rfl
  dsimp only
  split
  ·have h4:=g2.vm.some hb
   have g5:=VM.same (m':=tSS (Aq (sS9 (b:Int) (tSS (sS9 (b:Int) m))))) h4.1.vm rfl rfl rfl
   have h5:=g5.vm.add (i:=⟨ix [11,12,13] (tVV 3 (Aq (sS9 (b:Int) (tSS (sS9 (b:Int) m))))).toNat,(sS9 (b:Int) (tSS (sS9 (b:Int) m))).nx,0,[sV9 m,sV9 (tSS (sS9 (b:Int) m))],0⟩) hb (w2 (g5.on (h4.1.on (g2.on h3.2))) (g5.on h4.2))
   refine h3.1.tr (g2.tr (h4.1.tr (g5.tr (h5.1.tr (h5.1.vm.sT hb rfl rfl rfl (w1 (h5.2 _ ?_)))))))
   have hop:∀i:Nat,i<3→¬ix [(11:Int),12,13] i=16∧¬ix [(11:Int),12,13] i=18:=by decide
   have ho:=hop (tVV 3 (Aq (sS9 (b:Int) (tSS (sS9 (b:Int) m))))).toNat (by have:=tV9 (n:=3) (by omega) (Aq (sS9 (b:Int) (tSS (sS9 (b:Int) m))));omega)
   unfold Aw
   rw[if_neg ho.1,if_neg ho.2];simp
  ·exact h3.1.tr (h3.1.vm.sT hb rfl rfl rfl (w1 h3.2))
 ·have h3:=h.some hb
  have h4:=h3.1.vm.con (v:=7) hb
  have h5:=VM.add (m:=Aq (Bk (b:Int) 7 (sS9 (b:Int) m))) (i:=⟨5,(Bk (b:Int) 7 (sS9 (b:Int) m)).nx,0,[sV9 m,(sS9 (b:Int) m).nx],0⟩) h4.1.vm hb (w2 (h4.1.on h3.2) h4.2)
  dsimp only
  have g5:VG n to b (Bk (b:Int) 7 (sS9 (b:Int) m)) (Ca (b:Int) ⟨5,(Bk (b:Int) 7 (sS9 (b:Int) m)).nx,0,[sV9 m,(sS9 (b:Int) m).nx],0⟩ (Aq (Bk (b:Int) 7 (sS9 (b:Int) m)))):=⟨h5.1.vm,rfl,h5.1.up⟩
  exact h3.1.tr (h4.1.tr (g5.tr (g5.vm.sT hb rfl rfl rfl (w1 (h5.2 _ (by simp[Aw]))))))
end
abbrev VN(n:Nat)(to:List (List Int))(m:Mk):Prop:=VI n to m.par m.bs
section
variable{n b c:Nat}{to:List (List Int)}{m m':Mk}
theorem RI.ra(h:RI n b c to m)(hn:0<n){w x:Nat}(hr:ix (Fb (fnM m) (w:Int)) x=false):¬RA to n w x:=fun h9=>by
 have:=NZ (f:=fnM m) h.len hn h.tos h9
 rw[hr] at this;cases this
theorem VN.lm{dn:List Bool}{q:Nat}(v:VN n to m)(h:RI n b c to m)(hn:0<n):VM n to q (lvM n q dn m):=⟨v,fun x hx=>by
 show Vs n to m.par m.bs q x
 rcases List.mem_append.1 (show x∈Ka m.par.toNat++(List.range n).flatMap (fun i=>lvB (fnM m) dn q i) from hx) with h1|h1
 ·have:=Xz h1;exact .inl (by omega)
 ·obtain⟨a,h2,h3⟩:=List.mem_flatMap.1 h1
  have ha:=List.mem_range.1 h2
  unfold lvB at h3
  split at h3
  ·cases h3
  ·rename_i hs
   refine .inr ⟨a,ha,?_,h3⟩
   by_cases e:a=q
   ·exact .inl e
   ·refine .inr (h.ra hn ?_)
    unfold Sb at hs
    simp[e] at hs
    exact hs.2⟩
theorem VN.bl{dn:List Bool}{q:Nat}(v:VN n to m)(h:RI n b c to m)(hq:q<n):VN n to (Jp n to q dn m)∧(Jp n to q dn m).par=m.par:=by
 have h0:=v.lm (dn:=dn) (q:=q) h (by omega)
 have g1:VG n to q (lvM n q dn m) (tSS (lvM n q dn m)):=h0.same rfl rfl rfl
 have g2:=VM.is hq (tVV 7 (lvM n q dn m)).toNat g1.vm
 have g3:=VM.en (l:=ix to q) g2.vm hq
 unfold Jp
 exact⟨g3.vm.vi,g3.par.trans g2.par⟩
theorem VN.row(hP:PB n to)(hL:∀j,(ix to j).length≤65):∀(k b c:Nat) (dn:List Bool) (m:Mk),b+k=n→dn.length=n→(∀j,j<n→ix dn j=decide (j<b))→RI n b c to m→VN n to m→VN n to (Fl n to k b dn m).2
 | 0,b,c,dn,m,hb,hl,hd,h,v=>v
 | k+1,b,c,dn,m,hb,hl,hd,h,v=>by
  rw[Fl,if_pos (h.ready hP (by omega) hd)]
  exact VN.row hP hL k (b+1) (c+120) (dn.set b true) (Jp n to b (dn.set b true) m) (by omega) (by rw[List.length_set];exact hl) (fun j hj=>by
   rw[Bz (by omega)];split
   ·rename_i e;subst e;simp
   ·rename_i e;rw[hd j hj,decide_eq_decide];omega) (h.bl (by omega) hL) (v.bl h (by omega)).1
theorem VN.turn(hP:PB n to)(hL:∀j,(ix to j).length≤65)(hn:0<n)(h:RI n 0 c to m)(v:VN n to m):VN n to (Gv n to n (List.replicate n false) m).2:=by
 obtain⟨k,rfl⟩:∃k,n=k+1:=⟨n-1,by omega⟩
 rw[Gv]
 obtain⟨x,y⟩:=RI.row hP hL (k+1) 0 c (List.replicate (k+1) false) m (by omega) (by simp) (fun j hj=>by rw[Mp];simp) h
 rw[C8 k _ _ y]
 exact VN.row hP hL (k+1) 0 c (List.replicate (k+1) false) m (by omega) (by simp) (fun j hj=>by rw[Mp];simp) h v
theorem VN.ap{j:Nat}(v:VN n to m)(hj:j<n):VN n to (My j m):=by
 refine(VI.put (x:={ (ix m.bs j) with Phis:=(ix m.bs j).Phis++[⟨m.nx,[]⟩] }) v hj (fun r hr=>?_) (.inr fun r hr=>?_) (v.gd j hj) (v.tm j hj) (fun p hp x hx=>?_)).1
 ·unfold mkB at hr ⊢
  dsimp only
  rw[List.map_append]
  rcases List.mem_append.1 hr with h2|h2
  ·exact List.mem_append.2 (.inl (List.mem_append.2 (.inl h2)))
  ·exact List.mem_append.2 (.inr h2)
 ·rw[List.map_append];exact List.mem_append.2 (.inl hr)
 ·rcases List.mem_append.1 hp with h2|h2
  ·exact v.ph j hj p h2 x hx
  ·simp at h2;subst h2;cases hx
theorem VN.pn{j:Nat}(hj:j<n):∀(k:Nat) {m:Mk},VN n to m→VN n to (Hy j k m)
 | 0,_,h=>h
 | k+1,_,h=>VN.pn hj k (h.ap hj)
theorem VN.ps:∀(k j:Nat) (ph:List Int) (m:Mk),j+k=n→VN n to m→VN n to (Gb k j ph m).2
 | 0,j,ph,m,hj,h=>h
 | k+1,j,ph,m,hj,h=>by
  rw[Gb]
  exact VN.ps k (j+1) _ _ (by omega) (VN.pn (m:=tSS m) (by omega) _ h)
theorem CK{t:D.Tg3}{x:Int}{b:Int}:∀(l:List D.Phi) (i:Nat),t∈phL b i l→x∈t.Makes→t.Block=b∧x∈l.map (fun p=>p.Dst)
 | [],_,h,_=>by cases h
 | p::l,i,h,hx=>by
  rw[phL] at h
  rcases List.mem_cons.1 h with rfl|h
  ·simp[phT] at hx;subst hx;exact⟨rfl,by simp⟩
  ·have:=CK l _ h hx;exact⟨this.1,by simp only[List.map_cons,List.mem_cons];exact .inr this.2⟩
theorem FG{t:D.Tg3}{x:Int}{b:Int}:∀(l:List D.Ins) (i:Nat),t∈inL b i l→x∈t.Makes→t.Block=b∧x∈l.flatMap Aw
 | [],_,h,_=>by cases h
 | p::l,i,h,hx=>by
  rw[inL] at h
  rcases List.mem_cons.1 h with rfl|h
  ·exact⟨rfl,List.mem_flatMap.2 ⟨p,by simp,hx⟩⟩
  ·have:=FG l _ h hx
   obtain⟨q,h1,h2⟩:=List.mem_flatMap.1 this.2
   exact⟨this.1,List.mem_flatMap.2 ⟨q,by simp[h1],h2⟩⟩
theorem HJ{t:D.Tg3}{x:Int}:∀(l:List D.Block) (k:Nat),t∈blL k l→x∈t.Makes→∃a:Nat,a<l.length∧t.Block=((k+a:Nat):Int)∧x∈mkB (ix l a)
 | [],_,h,_=>by cases h
 | y::l,k,h,hx=>by
  rw[blL] at h
  rcases List.mem_append.1 h with h1|h1
  ·have:=CK _ _ h1 hx
   exact⟨0,by simp,by rw[this.1];simp,List.mem_append.2 (.inl this.2)⟩
  ·rcases List.mem_append.1 h1 with h1|h1
   ·have:=FG _ _ h1 hx
    exact⟨0,by simp,by rw[this.1];simp,List.mem_append.2 (.inr this.2)⟩
   ·rcases List.mem_cons.1 h1 with rfl|h1
    ·cases hx
    ·obtain⟨a,h2,h3,h4⟩:=HJ l (k+1) h1 hx
     exact⟨a+1,by simp;omega,by rw[h3];congr 1;omega,by rw[Iq];exact h4⟩
theorem VN.stand{p:Int}(v:VN n to m)(h:RI n b c to m)(hp:0≤p∧p<n):∀x∈Ch (fnM m) p,Wv n to p.toNat m x:=fun x hx=>by
 rcases List.mem_append.1 hx with h1|h1
 ·have:=Xz h1
  have e:(fnM m).Params=m.par:=rfl
  rw[e] at this;exact .inl (by omega)
 ·obtain⟨t,h2,h3⟩:=List.mem_flatMap.1 h1
  split at h3
  ·rename_i hs
   obtain⟨a,h4,h5,h6⟩:=HJ m.bs 0 h2 h3
   rw[h.len] at h4
   refine .inr ⟨a,h4,?_,h6⟩
   unfold Ry at hs
   rw[Bool.or_eq_true,decide_eq_true_eq,h5,Nat.zero_add] at hs
   rcases hs with hs|hs
   ·exact .inl (by omega)
   ·exact .inr (h.ra (by omega) (by simpa using hs))
  ·cases h3
theorem VN.ix0{p:Int}(v:VN n to m)(h:RI n b c to m)(hp:0≤p∧p<n):VN n to (inX p m).2∧(inX p m).2.par=m.par∧upB m.bs (inX p m).2.bs∧Wv n to p.toNat (inX p m).2 (inX p m).1.Val:=by
 unfold inX
 split
 ·have h1:=VI.addI (i:=⟨1,m.nx,0,[],Ar m⟩) v (b:=p.toNat) (by omega) (fun r hr=>by cases hr)
  have h2:=tV9 (n:=1) (by omega) (Bk p (Ar m) (Cb m))
  refine⟨h1.1,rfl,h1.2.1,?_⟩
  dsimp only
  rw[show tVV 1 (Bk p (Ar m) (Cb m))=0 by omega]
  exact Vs.here (by omega) (h1.2.2 m.nx (by simp[Aw]))
 ·rename_i h0
  have h1:=tV9 (n:=(Ch (fnM m) p).length) (by omega) m
  exact⟨v,rfl,fun _ _ h=>h,v.stand h hp _ (Ax (by omega))⟩
theorem VN.is0{p:List Int}(hp:∀x∈p,0≤x∧x<n):∀(k i:Nat) {c:Nat} (l:List D.In) (m:Mk),i+k=p.length→RI n b c to m→VN n to m→(∀x∈l,(0≤x.From∧x.From<n)∧Wv n to x.From.toNat m x.Val) →
  VN n to (inS p k i l m).2∧(inS p k i l m).2.par=m.par∧upB m.bs (inS p k i l m).2.bs∧∀x∈(inS p k i l m).1,(0≤x.From∧x.From<n)∧Wv n to x.From.toNat (inS p k i l m).2 x.Val
 | 0,i,_,l,m,hi,h,v,hl=>⟨v,rfl,fun _ _ h=>h,hl⟩
 | k+1,i,c,l,m,hi,h,v,hl=>by
  have hpi:=hp _ (Ax (l:=p) (i:=i) (by omega))
  obtain⟨a1,a2,a3,a4,a5⟩:=h.ix0 (p:=ix p i) hpi
  obtain⟨d1,d2,d3,d4⟩:=v.ix0 h hpi
  obtain⟨b1,b2,b3,b4⟩:=VN.is0 hp k (i+1) (l++[(inX (ix p i) m).1]) (inX (ix p i) m).2 (by omega) a1 d1 (fun x hx=>by
   rcases List.mem_append.1 hx with h1|h1
   ·have:=hl x h1
    exact⟨this.1,by unfold Wv;rw[d2];exact this.2.up d3⟩
   ·simp at h1;subst h1;rw[a3];exact⟨hpi,d4⟩)
  rw[inS]
  exact⟨b1,b2.trans d2,fun j r hr=>b3 j r (d3 j r hr),b4⟩
theorem VN.pi0{j i:Nat}{l:List D.In}(v:VN n to m)(hj:j<n)(hl:∀x∈l,(0≤x.From∧x.From<n)∧Wv n to x.From.toNat m x.Val):VN n to (Ol j i l m):=by
 have e:((ix m.bs j).Phis.set i { (ix (ix m.bs j).Phis i) with In:=l }).map (fun p=>p.Dst)=(ix m.bs j).Phis.map (fun p=>p.Dst):=I2
 refine(VI.put (x:={ (ix m.bs j) with Phis:=(ix m.bs j).Phis.set i { (ix (ix m.bs j).Phis i) with In:=l } }) v hj (fun r hr=>?_) (.inl e) (v.gd j hj) (v.tm j hj) (fun p hp x hx=>?_)).1
 ·unfold mkB at hr ⊢
  dsimp only
  rw[e];exact hr
 ·rcases List.mem_or_eq_of_mem_set hp with h2|h2
  ·exact v.ph j hj p h2 x hx
  ·subst h2;exact hl x hx
theorem VN.ip0{p:List Int}{j:Nat}(hp:∀x∈p,0≤x∧x<n)(h9:p.length≤9)(hj:j<n):∀(k i:Nat) {c:Nat} (m:Mk),RI n b c to m→VN n to m→VN n to (inP p j k i m)
 | 0,i,_,m,h,v=>v
 | k+1,i,c,m,h,v=>by
  obtain⟨a1,a2,a3,a4,a5⟩:=RI.is0 hp p.length 0 [] m (by omega) h (fun x hx=>by cases hx) rfl
  obtain⟨d1,d2,d3,d4⟩:=VN.is0 hp p.length 0 [] m (by omega) h v (fun x hx=>by cases hx)
  rw[inP]
  exact VN.ip0 hp h9 hj k (i+1) _ (a1.pi0 (i:=i) hj a3) (d1.pi0 (i:=i) hj d4)
theorem VN.fi0{ph:List Int}(hn9:n≤9):∀(k j:Nat) {c:Nat} (m:Mk),j+k=n→RI n b c to m→VN n to m→VN n to (Ho ph k j m)
 | 0,j,_,m,hj,h,v=>v
 | k+1,j,c,m,hj,h,v=>by
  have hpe:pd3 (fnM m) (j:Int)=pT to n (j:Int):=by
   show Jy m.bs m.bs.length _=_
   rw[h.len];exact G2 n _ (fun q hq=>h.tos q hq)
  have b1:=(RI.ip0 (p:=pT to n (j:Int)) (j:=j) (fun x hx=>Xv n _ x hx) (Nat.le_trans (Xw n _) hn9) (by omega) (ix ph j).toNat 0 m h).1
  rw[Ho,hpe]
  exact VN.fi0 hn9 k (j+1) (inP (pT to n (j:Int)) j (ix ph j).toNat 0 m) (by omega) b1 (VN.ip0 (fun x hx=>Xv n _ x hx) (Nat.le_trans (Xw n _) hn9) (by omega) (ix ph j).toNat 0 m h v)
end
theorem DT(s:List Int):VN (mdN s).toNat (mdT s).1 (mdB s):=by
 obtain⟨a1,a2,a3,a4,a5⟩:=Uu (mdT s).1 (mdN s).toNat 0 { (mdT s).2 with bs:=List.replicate (mdN s).toNat default }
 have hlen:(List.replicate (mdN s).toNat (default:D.Block)).length=(mdN s).toNat:=by simp
 have hb:∀j,j<(mdN s).toNat→ix (mdB s).bs j={ (default:D.Block) with Term:={ (default:D.Block).Term with To:=ix (mdT s).1 j } }:=fun j hj=>by
  have:=a5 j (by show j<(List.replicate _ _).length;rw[hlen];exact hj)
  rw[if_pos (by omega)] at this
  dsimp only at this
  rw[Ys] at this
  exact this
 exact⟨a1.trans hlen,fun j hj=>by rw[hb j hj];exact fun k hk=>(by cases hk),fun j hj r hr=>(by rw[hb j hj] at hr;cases hr),fun j hj p hp=>(by rw[hb j hj] at hp;cases hp)⟩
theorem SK(s:List Int):VI (mdN s).toNat (mdT s).1 (Am s).Params (Am s).Blocks:=by
 obtain⟨h0,t1,t2,hn,hp0⟩:=Ya s
 obtain⟨p1,p2,p3⟩:=RI.ps ((mdN s).toNat-1) 1 4 (List.replicate (mdN s).toNat 0) (mdB s) (by omega) (by simp) (fun j=>Xn j) hp0 h0
 have h1:RI (mdN s).toNat 0 31 (mdT s).1 (mdH s).2:=p1.mono (by omega)
 have hL:∀j,(ix (mdT s).1 j).length≤65:=fun j=>Nat.le_trans (t1.2.1 j) (by omega)
 have h2:RI (mdN s).toNat (mdN s).toNat 1111 (mdT s).1 (mdD s).2:=(h1.turn t2 hL (by omega)).mono (by omega)
 have v1:VN (mdN s).toNat (mdT s).1 (mdH s).2:=VN.ps _ 1 _ _ (by omega) (DT s)
 have v2:VN (mdN s).toNat (mdT s).1 (mdD s).2:=VN.turn t2 hL (by omega) h1 v1
 exact VN.fi0 hn.2 _ 1 _ (by omega) h2 v2
structure UI(par nx:Int)(bs:List D.Block):Prop where
 pn:par≤nx
 rg:∀j,∀r∈mkB (ix bs j),par≤r∧r<nx
 nd:∀j,(mkB (ix bs j)).Nodup
 dj:∀i j,i≠j→∀r∈mkB (ix bs i),r∉mkB (ix bs j)
theorem UI.put{par nx nx':Int}{bs:List D.Block}{b:Nat}{x:D.Block}{ms:List Int}(h:UI par nx bs)(hn:nx≤nx')(hp:(mkB x).Perm (mkB (ix bs b)++ms))(hm:∀r∈ms,nx≤r∧r<nx')(hd:ms.Nodup):UI par nx' (bs.set b x):=by
 by_cases hb:b<bs.length
 ·have hs:∀j,ix (bs.set b x) j=if j=b then x else ix bs j:=fun j=>Bz hb
  have hx:∀r∈mkB x,r∈mkB (ix bs b)∨r∈ms:=fun r hr=>List.mem_append.1 (hp.mem_iff.1 hr)
  have hpn:=h.pn
  refine⟨by omega,fun j r hr=>?_,fun j=>?_,fun i j hij r hr hr2=>?_⟩
  ·rw[hs] at hr;split at hr
   ·rcases hx r hr with h1|h1
    ·have:=h.rg b r h1;omega
    ·have:=hm r h1;omega
   ·have:=h.rg j r hr;omega
  ·rw[hs];split
   ·exact hp.nodup_iff.2 (List.nodup_append.2 ⟨h.nd b,hd,fun y hy z hz e=>by have:=h.rg b y hy;have:=hm z hz;omega⟩)
   ·exact h.nd j
  ·rw[hs] at hr hr2
   split at hr
   ·rename_i e;subst e
    rw[if_neg (fun e=>hij e.symm)] at hr2
    rcases hx r hr with h1|h1
    ·exact h.dj _ _ hij r h1 hr2
    ·have:=h.rg j r hr2;have:=hm r h1;omega
   ·split at hr2
    ·rename_i e;subst e
     rcases hx r hr2 with h1|h1
     ·exact h.dj _ _ hij r hr h1
     ·have:=h.rg i r hr;have:=hm r h1;omega
    ·exact h.dj _ _ hij r hr hr2
 ·rw[List.set_eq_of_length_le (by omega)]
  exact⟨by have:=h.pn;omega,fun j r hr=>by have:=h.rg j r hr;omega,h.nd,h.dj⟩
def UG(m m':Mk):Prop:=m'.par=m.par∧(UI m.par m.nx m.bs→UI m'.par m'.nx m'.bs)
section
variable{m m' m2:Mk}{j:Int}{b:Nat}
theorem UG.rf:UG m m:=⟨rfl,id⟩
theorem UG.tr(h:UG m m')(h2:UG m' m2):UG m m2:=⟨h2.1.trans h.1,fun h3=>h2.2 (h.2 h3)⟩
theorem UG.same(h1:m'.par=m.par)(h2:m'.bs=m.bs)(h3:m'.nx=m.nx):UG m m':=⟨h1,by rw[h1,h2,h3];exact id⟩
theorem RU{x:D.Block}{i:D.Ins}:mkB { x with Ins:=x.Ins++[i] }=mkB x++Aw i:=by unfold mkB;rw[List.flatMap_append];simp
theorem UG.ad{i:D.Ins}(h1:m'.par=m.par)(h2:m'.bs=m.bs)(h3:m.nx≤m'.nx)(hm:∀r∈Aw i,m.nx≤r∧r<m'.nx)(hd:(Aw i).Nodup):UG m (Ca j i m'):=⟨h1,fun h=>by
 show UI m'.par m'.nx (m'.bs.set _ _)
 rw[h1,h2]
 exact h.put h3 (by rw[RU]) hm hd⟩
theorem UG.one{op v x:Int}{a:List Int}(h1:m'.par=m.par)(h2:m'.bs=m.bs)(h3:m'.nx=m.nx+1)(hx:x=m.nx)(ho:op≠16∧op≠18):UG m (Ca j ⟨op,x,0,a,v⟩ m'):=by
 have e:Aw ⟨op,x,0,a,v⟩=[x]:=by unfold Aw;rw[if_neg ho.1,if_neg ho.2]
 refine UG.ad h1 h2 (by omega) (fun r hr=>?_) (by rw[e];simp)
 rw[e] at hr;simp at hr;omega
theorem UG.con{v:Int}(h:UG m m'):UG m (Bk j v m'):=h.tr (UG.one (m':=Aq m') rfl rfl rfl rfl (by omega))
theorem UG.tk(h:UG m m'):UG m (tSS m'):=h.tr (.same rfl rfl rfl)
theorem UG.wd(h:UG m m'):UG m (Cb m'):=h.tr (.same rfl rfl rfl)
theorem UG.aF{op v:Int}{a:List Int}(h:UG m m')(ho:op≠16∧op≠18):UG m (Ca j ⟨op,m'.nx,0,a,v⟩ (Aq m')):=h.tr (UG.one rfl rfl rfl rfl ho)
theorem UG.aT{op v:Int}{a:List Int}(h:UG m m')(ho:op≠16∧op≠18):UG m (Ca j ⟨op,m'.nx,0,a,v⟩ (tSS (Aq m'))):=h.tr (UG.one rfl rfl rfl rfl ho)
theorem UG.val(h:UG m m'):UG m (Cr m'):=by unfold Cr;split;exact h;exact .tk (.tk h)
theorem UG.som0(h:UG m m'):UG m (Dj m'):=by
 unfold Dj;split
 ·exact .tk (.val h)
 ·exact .val h
theorem UG.som(h:UG m m'):UG m (sS9 j m'):=by
 unfold sS9;split
 ·exact .con (.wd (.som0 h))
 ·exact .som0 h
theorem UG.me1(h:UG m m'):UG m (Bp j m').2:=by
 unfold Bp;dsimp only;split
 ·exact .aF (.aF (.con (.som (.tk (.con (.tk h))))) (by omega)) (by omega)
 ·exact .tk (.con (.tk h))
theorem UG.me2(h:UG m m'):UG m (mem2 m').2:=by unfold mem2;dsimp only;split<;>exact h.tr (.same rfl rfl rfl)
theorem UG.mem{st:Bool}(h:UG m m'):UG m (Cd j st m'):=by
 unfold Cd;dsimp only;split
 ·exact UG.tr (m':=sS9 j (mem2 (Bp j m').2).2) (.som (.me2 (.me1 h))) (UG.ad rfl rfl (Int.le_refl _) (fun r hr=>by simp[Aw] at hr) (by simp[Aw]))
 ·exact .aF (.me2 (.me1 h)) (by omega)
theorem UG.args:∀(k:Nat) (l:List Int) (m':Mk),UG m m'→UG m (Em j k l m').2
 | 0,_,_,h=>h
 | k+1,l,m',h=>by rw[Em];exact UG.args k _ _ (.som h)
theorem DA{i:Nat}(h:i<12):ix [(2:Int),2,3,4,5,6,7,8,9,10,12,11] i≠16∧ix [(2:Int),2,3,4,5,6,7,8,9,10,12,11] i≠18:=by
 have:∀i:Nat,i<12→ix [(2:Int),2,3,4,5,6,7,8,9,10,12,11] i≠16∧ix [(2:Int),2,3,4,5,6,7,8,9,10,12,11] i≠18:=by decide
 exact this i h
theorem UG.mw{a:List Int}(h:UG m m'):UG m (Ca j ⟨18,m'.nx,(Aq m').nx,a,0⟩ (Aq (Aq m'))):=by
 refine h.tr (UG.ad rfl rfl (by show _≤_+1+1;omega) (fun r hr=>?_) (by simp[Aw,Aq];omega))
 have hr':r=m'.nx∨r=m'.nx+1:=by simpa[Aw,Aq] using hr
 show _∧_<_+1+1
 omega
theorem UG.ins(h:UG m m'):UG m (Ce j m'):=by
 have hk:=tV9 (n:=20) (by omega) m'
 unfold Ce;dsimp only
 generalize tVV 20 m'=k at hk
 have h3:UG m (sS9 j (sS9 j (tSS m'))) := .som (.som (.tk h))
 split
 ·split
  ·exact .aF (.con (.tk (.tk h3))) (DA (by omega))
  ·exact .aF (.tk h3) (DA (by omega))
 split
 ·exact .aF h3 (by omega)
 split
 ·split
  ·exact .aF (.con (.tk (.tk (.con (.tk (.som (.tk h))))))) (by omega)
  ·exact .aF (.tk (.con (.tk (.som (.tk h))))) (by omega)
 split
 ·exact .mem (.tk h)
 split
 ·exact .aT (UG.args _ _ _ (.tk (.tk h))) (by omega)
 split
 ·exact .mw h3
 ·exact .con (.wd (.tk h))
theorem UG.is:∀(k:Nat) (m':Mk),UG m m'→UG m (Kd b k m')
 | 0,_,h=>h
 | k+1,m',h=>by rw[Kd];exact UG.is k _ (.ins h)
theorem UG.sT{t:D.Term}(h:UG m m'):UG m (setT j t m'):=h.tr ⟨rfl,fun h=>by
 show UI m'.par m'.nx (m'.bs.set _ _)
 exact h.put (ms:=[]) (Int.le_refl _) (by rw[List.append_nil];exact List.Perm.refl _) (fun r hr=>by cases hr) List.nodup_nil⟩
theorem UG.en{l:List Int}(h:UG m m'):UG m (Co j l m'):=by
 unfold Co
 split
 ·split
  ·exact .sT (.tk (.tk h))
  split
  ·exact .sT (.som (.tk h))
  ·exact .sT (.tk h)
 split
 ·exact .sT h
 split
 ·dsimp only
  split
  ·have ho:∀i:Nat,i<3→ix [(11:Int),12,13] i≠16∧ix [(11:Int),12,13] i≠18:=by decide
   have hr:=tV9 (n:=3) (by omega) (Aq (sS9 j (tSS (sS9 j m'))))
   exact .sT (.aT (.som (.tk (.som h))) (ho _ (by omega)))
  ·exact .sT (.tk (.som h))
 ·dsimp only
  exact .sT (.aF (.con (.som h)) (by omega))
theorem UG.bl{n:Nat}{to:List (List Int)}{dn:List Bool}:UG m (Jp n to b dn m):=by
 unfold Jp
 exact UG.en (UG.is _ _ (.tk (.same rfl rfl rfl)))
theorem UG.row{n:Nat}{to:List (List Int)}:∀(k b:Nat) (dn:List Bool) (m:Mk),UG m (Fl n to k b dn m).2
 | 0,_,_,_ => .rf
 | k+1,b,dn,m=>by
  rw[Fl];split
  ·exact UG.bl.tr (UG.row k _ _ _)
  ·exact UG.row k _ _ _
theorem UG.turn{n:Nat}{to:List (List Int)}:∀(k:Nat) (dn:List Bool) (m:Mk),UG m (Gv n to k dn m).2
 | 0,_,_ => .rf
 | k+1,dn,m=>by rw[Gv];exact(UG.row _ _ _ _).tr (UG.turn k _ _)
theorem UG.ap:UG m (My b m):=⟨rfl,fun h=>by
 show UI m.par (m.nx+1) (m.bs.set _ _)
 refine h.put (ms:=[m.nx]) (by omega) ?_ (fun r hr=>by simp at hr;omega) (by simp)
 show(mkB { (ix m.bs b) with Phis:=(ix m.bs b).Phis++[⟨m.nx,[]⟩] }).Perm _
 unfold mkB
 dsimp only
 rw[List.map_append,List.append_assoc,List.append_assoc]
 exact List.Perm.append_left _ List.perm_append_comm⟩
theorem UG.pn:∀(k:Nat) (m:Mk),UG m (Hy b k m)
 | 0,_ => .rf
 | k+1,m=>by rw[Hy];exact UG.ap.tr (UG.pn k _)
theorem UG.ps:∀(k j:Nat) (ph:List Int) (m:Mk),UG m (Gb k j ph m).2
 | 0,_,_,_ => .rf
 | k+1,j,ph,m=>by rw[Gb];exact UG.tr (m':=tSS m) (.tk .rf) ((UG.pn _ _).tr (UG.ps k _ _ _))
theorem UG.inx{p:Int}:UG m (inX p m).2:=by
 unfold inX;split
 ·exact .tk (.con (.wd .rf))
 ·exact .tk .rf
theorem UG.ins'{p:List Int}:∀(k i:Nat) (l:List D.In) (m:Mk),UG m (inS p k i l m).2
 | 0,_,_,_ => .rf
 | k+1,i,l,m=>by rw[inS];exact UG.inx.tr (UG.ins' k _ _ _)
theorem UG.pi{i:Nat}{l:List D.In}:UG m (Ol b i l m):=⟨rfl,fun h=>by
 show UI m.par m.nx (m.bs.set _ _)
 refine h.put (ms:=[]) (Int.le_refl _) ?_ (fun r hr=>by cases hr) List.nodup_nil
 rw[List.append_nil]
 unfold mkB
 dsimp only
 rw[I2]⟩
theorem UG.ip{p:List Int}:∀(k i:Nat) (m:Mk),UG m (inP p b k i m)
 | 0,_,_ => .rf
 | k+1,i,m=>by rw[inP];exact(UG.ins' _ _ _ _).tr (UG.pi.tr (UG.ip k _ _))
theorem UG.fi{ph:List Int}:∀(k j:Nat) (m:Mk),UG m (Ho ph k j m)
 | 0,_,_ => .rf
 | k+1,j,m=>by rw[Ho];exact(UG.ip _ _ _).tr (UG.fi k _ _)
end
theorem SJ(s:List Int):∃nx,UI (Am s).Params nx (Am s).Blocks:=by
 obtain⟨h0,_,_,_,_⟩:=Ya s
 have v:=DT s
 have hempty:∀j,mkB (ix (mdB s).bs j)=[]:=fun j=>by
  obtain⟨a1,a2,a3,a4,a5⟩:=Uu (mdT s).1 (mdN s).toNat 0 { (mdT s).2 with bs:=List.replicate (mdN s).toNat default }
  by_cases hj:j<(mdN s).toNat
  ·have:=a5 j (by show j<(List.replicate _ _).length;simpa using hj)
   rw[if_pos (by omega)] at this
   dsimp only at this
   rw[Ys] at this
   have e:ix (mdB s).bs j={ (default:D.Block) with Term:={ (default:D.Block).Term with To:=ix (mdT s).1 j } }:=this
   rw[e];rfl
  ·have:ix (mdB s).bs j=default:=by
    have hl:=h0.len
    simp[ix,List.getD,List.getElem?_eq_none (show(mdB s).bs.length≤j by omega)]
   rw[this];rfl
 have hb:UI (mdB s).par (mdB s).nx (mdB s).bs:=⟨h0.nx.1,fun j r hr=>(by rw[hempty] at hr;cases hr),fun j=>(by rw[hempty];exact List.nodup_nil),fun i j _ r hr=>(by rw[hempty] at hr;cases hr)⟩
 exact⟨_,((((UG.ps _ _ _ _).tr (UG.turn _ _ _)).tr (UG.fi _ _ _)).2 hb:UI (mdF s).par (mdF s).nx (mdF s).bs)⟩
def wv(b p:Int):Value := .agg #[.int .i64 b,.int .i64 p]
def Ja(b p:Int)(l:List Int)(L:List (Int×Value)):List (Int×Value):=l.foldl (fun m n=>upM m n (wv b p)) L
theorem Pr{b p:Int}:∀(l:List Int) (L:List (Int×Value)) (n:Int),lkM (Ja b p l L) n=if n∈l then some (wv b p) else lkM L n
 | [],L,n=>by simp[Ja]
 | x::l,L,n=>by
  have h:=Pr (b:=b) (p:=p) l (upM L x (wv b p)) n
  unfold Ja at h ⊢
  rw[List.foldl_cons,h,U6]
  by_cases h1:n∈l
  ·rw[if_pos h1,if_pos (by simp[h1])]
  ·rw[if_neg h1]
   by_cases h2:n=x
   ·rw[if_pos h2,if_pos (by simp[h2])]
   ·rw[if_neg h2,if_neg (by simp[h1,h2])]
theorem WG{b p:Int}{l:List Int}{n:Int}{L:List (Int×Value)}:Ja b p (l++[n]) L=upM (Ja b p l L) n (wv b p):=by unfold Ja;rw[List.foldl_append];rfl
def phA(b:Int)(ps:List D.Phi)(L:List (Int×Value)):Nat→List (Int×Value)
 | 0=>L
 | k+1=>Ja b (-1-k) [(ix ps k).Dst] (phA b ps L k)
def inA(b:Int)(is:List D.Ins)(L:List (Int×Value)):Nat→List (Int×Value)
 | 0=>L
 | k+1=>Ja b k (Aw (ix is k)) (inA b is L k)
def bkA(bs:List D.Block):Nat→List (Int×Value)
 | 0=>[]
 | k+1=>inA k (ix bs k).Ins (phA k (ix bs k).Phis (bkA bs k) (ix bs k).Phis.length) (ix bs k).Ins.length
theorem Xu{b:Int}{ps:List D.Phi}{L:List (Int×Value)}{n:Int}:∀{k:Nat},lkM (phA b ps L k) n=none↔lkM L n=none∧∀i,i<k→n≠(ix ps i).Dst
 | 0=>by simp[phA]
 | k+1=>by
  have ih:=Xu (b:=b) (ps:=ps) (L:=L) (n:=n) (k:=k)
  rw[phA,Pr]
  constructor
  ·intro h
   split at h
   ·cases h
   ·rename_i h1
    have h2:=ih.1 h
    refine⟨h2.1,fun i hi e=>?_⟩
    rcases Nat.lt_or_ge i k with h3|h3
    ·exact h2.2 i h3 e
    ·rw[show i=k by omega] at e;exact h1 (by simp[e])
  ·rintro⟨h1,h2⟩
   rw[if_neg (by simpa using h2 k (by omega))]
   exact ih.2 ⟨h1,fun i hi=>h2 i (by omega)⟩
theorem L5{b:Int}{is:List D.Ins}{L:List (Int×Value)}{n:Int}:∀{k:Nat},lkM (inA b is L k) n=none↔lkM L n=none∧∀i,i<k→n∉Aw (ix is i)
 | 0=>by simp[inA]
 | k+1=>by
  have ih:=L5 (b:=b) (is:=is) (L:=L) (n:=n) (k:=k)
  rw[inA,Pr]
  constructor
  ·intro h
   split at h
   ·cases h
   ·rename_i h1
    have h2:=ih.1 h
    refine⟨h2.1,fun i hi e=>?_⟩
    rcases Nat.lt_or_ge i k with h3|h3
    ·exact h2.2 i h3 e
    ·rw[show i=k by omega] at e;exact h1 e
  ·rintro⟨h1,h2⟩
   rw[if_neg (h2 k (by omega))]
   exact ih.2 ⟨h1,fun i hi=>h2 i (by omega)⟩
theorem Iz{x:D.Block}{n:Int}:n∈mkB x↔(∃i,i<x.Phis.length∧n=(ix x.Phis i).Dst)∨∃i,i<x.Ins.length∧n∈Aw (ix x.Ins i):=by
 unfold mkB
 rw[List.mem_append]
 refine or_congr ⟨fun h=>?_,fun⟨i,h1,h2⟩=>?_⟩ ⟨fun h=>?_,fun⟨i,h1,h2⟩=>?_⟩
 ·obtain⟨p,h1,rfl⟩:=List.mem_map.1 h
  obtain⟨i,hi,e⟩:=List.getElem_of_mem h1
  exact⟨i,hi,by rw[Bn hi,e]⟩
 ·rw[h2];exact List.mem_map.2 ⟨_,Ax h1,rfl⟩
 ·obtain⟨p,h1,h2⟩:=List.mem_flatMap.1 h
  obtain⟨i,hi,e⟩:=List.getElem_of_mem h1
  exact⟨i,hi,by rw[Bn hi,e];exact h2⟩
 ·exact List.mem_flatMap.2 ⟨_,Ax h1,h2⟩
theorem P0{bs:List D.Block}{n:Int}:∀{k:Nat},lkM (bkA bs k) n=none↔∀b,b<k→n∉mkB (ix bs b)
 | 0=>by simp[bkA,lkM]
 | k+1=>by
  have ih:=P0 (bs:=bs) (n:=n) (k:=k)
  rw[bkA,L5,Xu,ih]
  constructor
  ·rintro⟨⟨h1,h2⟩,h3⟩ b hb h4
   rcases Nat.lt_or_ge b k with h5|h5
   ·exact h1 b h5 h4
   ·rw[show b=k by omega] at h4
    rcases Iz.1 h4 with⟨i,h6,h7⟩|⟨i,h6,h7⟩
    ·exact h2 i h6 h7
    ·exact h3 i h6 h7
  ·intro h
   refine⟨⟨fun b hb=>h b (by omega),fun i hi e=>h k (by omega) (Iz.2 (.inl ⟨i,hi,e⟩))⟩,fun i hi e=>h k (by omega) (Iz.2 (.inr ⟨i,hi,e⟩))⟩
def Q8(bs:List D.Block)(v:Int)(wb:Nat)(wp:Int):Prop:=wb<bs.length∧((∃i,i<(ix bs wb).Phis.length∧v=(ix (ix bs wb).Phis i).Dst∧wp=-1-(i:Int))∨∃i,i<(ix bs wb).Ins.length∧v∈Aw (ix (ix bs wb).Ins i)∧wp=(i:Int))
structure Once(bs:List D.Block):Prop where
 nd:∀j,(mkB (ix bs j)).Nodup
 dj:∀i j,i≠j→∀r∈mkB (ix bs i),r∉mkB (ix bs j)
theorem I5{α β:Type}[Inhabited α]{f:α→List β}:∀{l:List α},(l.flatMap f).Nodup→∀{i j:Nat},i<l.length→j<l.length→i≠j→∀x∈f (ix l i),x∉f (ix l j)
 | [],_,i,_,hi,_,_=>by cases hi
 | a::l,h,i,j,hi,hj,hij=>by
  rw[List.flatMap_cons,List.nodup_append] at h
  obtain⟨h1,h2,h3⟩:=h
  intro x hx hx2
  have fl:∀{k:Nat},k<l.length→x∈f (ix l k)→x∈l.flatMap f:=fun hk hx=>List.mem_flatMap.2 ⟨_,Ax hk,hx⟩
  cases i with
  | zero =>
   cases j with
   | zero=>exact hij rfl
   | succ j =>
    rw[Ia] at hx;rw[Iq] at hx2
    exact h3 x hx x (fl (by simpa using hj) hx2) rfl
  | succ i =>
   rw[Iq] at hx
   cases j with
   | zero=>rw[Ia] at hx2;exact h3 x hx2 x (fl (by simpa using hi) hx) rfl
   | succ j=>rw[Iq] at hx2;exact I5 h2 (by simpa using hi) (by simpa using hj) (by omega) x hx hx2
theorem Once.phi{bs:List D.Block}(h:Once bs){b i:Nat}(hi:i<(ix bs b).Phis.length):lkM (phA b (ix bs b).Phis (bkA bs b) i) (ix (ix bs b).Phis i).Dst=none:=by
 have hm:(ix (ix bs b).Phis i).Dst∈mkB (ix bs b):=Iz.2 (.inl ⟨i,hi,rfl⟩)
 have hn:=(List.nodup_append.1 (h.nd b)).1
 refine Xu.2 ⟨P0.2 fun c hc h1=>h.dj b c (by omega) _ hm h1,fun j hj e=>?_⟩
 have:=nodup_inj hn (i:=i) (j:=j) (by simpa using hi) (by simp;omega) (by rw[List.getElem_map,List.getElem_map,←Bn hi,←Bn (show j<_ by omega)];exact e)
 omega
theorem Once.ins{bs:List D.Block}(h:Once bs){b i:Nat}(hi:i<(ix bs b).Ins.length){n:Int}(hn:n∈Aw (ix (ix bs b).Ins i)):lkM (inA b (ix bs b).Ins (phA b (ix bs b).Phis (bkA bs b) (ix bs b).Phis.length) i) n=none:=by
 have hm:n∈mkB (ix bs b):=Iz.2 (.inr ⟨i,hi,hn⟩)
 obtain⟨h1,h2,h3⟩:=List.nodup_append.1 (h.nd b)
 refine L5.2 ⟨Xu.2 ⟨P0.2 fun c hc h4=>h.dj b c (by omega) _ hm h4,fun j hj e=>?_⟩,fun j hj e=>?_⟩
 ·exact h3 n (by rw[e];exact List.mem_map.2 ⟨_,Ax hj,rfl⟩) n (List.mem_flatMap.2 ⟨_,Ax hi,hn⟩) rfl
 ·exact I5 h2 hi (by omega) (show i≠j by omega) n hn e
theorem Once.mks{bs:List D.Block}(h:Once bs){b i:Nat}:(Aw (ix (ix bs b).Ins i)).Nodup:=by
 rcases Nat.lt_or_ge i (ix bs b).Ins.length with hi|hi
 ·have h2:=(List.nodup_append.1 (h.nd b)).2.1
  have:∀{l:List D.Ins},(l.flatMap Aw).Nodup→∀x∈l,(Aw x).Nodup:=by
   intro l
   induction l with
   | nil=>intro _ x hx;cases hx
   | cons a l ih =>
    intro h x hx
    rw[List.flatMap_cons,List.nodup_append] at h
    rcases List.mem_cons.1 hx with e|e
    ·subst e;exact h.1
    ·exact ih h.2.1 x e
  exact this h2 _ (Ax hi)
 ·rw[Qz (l:=(ix bs b).Ins) hi];exact(by decide:(Aw (default:D.Ins)).Nodup)
theorem Once.at{bs:List D.Block}(h:Once bs){v:Int}{wb:Nat}{wp:Int}(hp:Q8 bs v wb wp):∀k,wb<k→lkM (bkA bs k) v=some (wv wb wp)
 | 0,hk=>absurd hk (Nat.not_lt_zero _)
 | k+1,hk=>by
  obtain⟨h1,h2⟩:=hp
  have hm:v∈mkB (ix bs wb):=by
   rcases h2 with⟨i,h3,h4,_⟩|⟨i,h3,h4,_⟩
   ·exact Iz.2 (.inl ⟨i,h3,h4⟩)
   ·exact Iz.2 (.inr ⟨i,h3,h4⟩)
  have up:∀(l:List D.Ins) (b:Int) (L:List (Int×Value)) (m:Nat),(∀i,i<m→v∉Aw (ix l i))→lkM (inA b l L m) v=lkM L v:=by
   intro l b L m
   induction m with
   | zero=>exact fun _=>rfl
   | succ m ih=>exact fun h9=>by rw[inA,Pr,if_neg (h9 m (by omega)),ih (fun i hi=>h9 i (by omega))]
  have upP:∀(l:List D.Phi) (b:Int) (L:List (Int×Value)) (m:Nat),(∀i,i<m→v≠(ix l i).Dst)→lkM (phA b l L m) v=lkM L v:=by
   intro l b L m
   induction m with
   | zero=>exact fun _=>rfl
   | succ m ih=>exact fun h9=>by rw[phA,Pr,if_neg (by simpa using h9 m (by omega)),ih (fun i hi=>h9 i (by omega))]
  rcases Nat.lt_or_ge wb k with h3|h3
  ·have hno:v∉mkB (ix bs k):=h.dj wb k (by omega) v hm
   rw[bkA,up _ _ _ _ (fun i hi e=>hno (Iz.2 (.inr ⟨i,hi,e⟩))),upP _ _ _ _ (fun i hi e=>hno (Iz.2 (.inl ⟨i,hi,e⟩)))]
   exact h.at ⟨h1,h2⟩ k h3
  ·have e:wb=k:=by omega
   subst e
   obtain⟨n1,n2,n3⟩:=List.nodup_append.1 (h.nd wb)
   rw[bkA]
   rcases h2 with⟨i,h3,h4,h5⟩|⟨i,h3,h4,h5⟩
   ·rw[up _ _ _ _ (fun j hj e=>n3 v (by rw[h4];exact List.mem_map.2 ⟨_,Ax h3,rfl⟩) v (List.mem_flatMap.2 ⟨_,Ax hj,e⟩) rfl)]
    have:∀m,i<m→m≤(ix bs wb).Phis.length→lkM (phA wb (ix bs wb).Phis (bkA bs wb) m) v=some (wv wb wp):=by
     intro m
     induction m with
     | zero=>intro hm;cases hm
     | succ m ih =>
      intro hm hl
      rw[phA,Pr]
      rcases Nat.lt_or_ge i m with h6|h6
      ·rw[if_neg,ih h6 (by omega)]
       intro h7
       simp at h7
       have:=nodup_inj n1 (i:=i) (j:=m) (by simpa using h3) (by simp;omega) (by rw[List.getElem_map,List.getElem_map,←Bn h3,←Bn (show m<_ by omega)];exact h4.symm.trans h7)
       omega
      ·have e:m=i:=by omega
       subst e
       rw[if_pos (by simp[h4]),h5]
    exact this _ h3 (Nat.le_refl _)
   ·have:∀m,i<m→m≤(ix bs wb).Ins.length→lkM (inA wb (ix bs wb).Ins (phA wb (ix bs wb).Phis (bkA bs wb) (ix bs wb).Phis.length) m) v=some (wv wb wp):=by
     intro m
     induction m with
     | zero=>intro hm;cases hm
     | succ m ih =>
      intro hm hl
      rw[inA,Pr]
      rcases Nat.lt_or_ge i m with h6|h6
      ·rw[if_neg (fun h7=>I5 n2 h3 (show m<_ by omega) (show i≠m by omega) v h4 h7),ih h6 (by omega)]
      ·have e:m=i:=by omega
       subst e
       rw[if_pos h4,h5]
    exact this _ h3 (Nat.le_refl _)
def shM(k:Int):Option (Int×Int×Int×Int):=if k=1 then some (0,0,1,1) else if k=2 then some (1,1,2,2) else if k=3 then some (1,1,2,65) else if k=4 then some (0,1,0,0) else if k=5 then some (0,0,0,0) else none
def US(f:D.Func)(v:Int)(b:Nat)(at':Int):Prop:=(0≤v∧v<f.Params)∨∃wb wp,Q8 f.Blocks v wb wp∧((wb=b∧(wp<at'∨wp<0))∨(wb≠b∧¬RB (prG (Cj f)) wb b))
def Jc(bs:List D.Block):Nat:=(bs.map (fun b=>b.Phis.length+b.Ins.length)).sum
structure GoodF(f:D.Func):Prop where
 par:0≤f.Params∧f.Params≤4
 len:0<f.Blocks.length∧f.Blocks.length≤512
 cnt:f.Blocks.length+Jc f.Blocks≤4096
 once:Once f.Blocks
 rng:∀b,b<f.Blocks.length→∀r∈mkB (ix f.Blocks b),f.Params≤r∧r≤8191
 op:∀b,b<f.Blocks.length→∀i∈(ix f.Blocks b).Ins,(1≤i.Op∧i.Op≤18)∧(Eu i.Op).1≤(i.Args.length:Int)∧(i.Args.length:Int)≤(Eu i.Op).2
 tm:∀b,b<f.Blocks.length→∃s,shM (ix f.Blocks b).Term.Kind=some s∧(s.1≤((ix f.Blocks b).Term.Args.length:Int)∧((ix f.Blocks b).Term.Args.length:Int)≤s.2.1)∧(s.2.2.1≤((ix f.Blocks b).Term.To.length:Int)∧((ix f.Blocks b).Term.To.length:Int)≤s.2.2.2)
 to:∀b,b<f.Blocks.length→∀t∈(ix f.Blocks b).Term.To,1≤t∧t<f.Blocks.length
 reach:∀b,b<f.Blocks.length→∃w,RB (prG (Cj f)) w b
 fr:∀b,b<f.Blocks.length→∀p∈(ix f.Blocks b).Phis,0<b∧p.In.map (fun x=>x.From)=ix (Ee (Cj f)) b
 ui:∀b,b<f.Blocks.length→∀i,i<(ix f.Blocks b).Ins.length→∀v∈(ix (ix f.Blocks b).Ins i).Args,US f v b i
 ut:∀b,b<f.Blocks.length→∀v∈(ix f.Blocks b).Term.Args,US f v b (ix f.Blocks b).Ins.length
 up:∀b,b<f.Blocks.length→∀p∈(ix f.Blocks b).Phis,∀x∈p.In,US f x.Val x.From.toNat (ix f.Blocks x.From.toNat).Ins.length
theorem WA{b p:Int}{l:List Int}{L:List (Int×Value)}{k:Nat}(hk:k<l.length)(hn:l.Nodup)(hL:∀n∈l,lkM L n=none):lkM (Ja b p (l.take k) L) (ix l k)=none:=by
 rw[Pr,if_neg]
 ·exact hL _ (Ax hk)
 ·intro h
  obtain⟨j,hj,e⟩:=List.getElem_of_mem h
  rw[List.getElem_take,Bn hk] at e
  rw[List.length_take] at hj
  have:=nodup_inj hn (show j<l.length by omega) hk e
  omega
theorem VY{b p:Int}{l:List Int}{L:List (Int×Value)}{k:Nat}(hk:k<l.length):Ja b p (l.take (k+1)) L=upM (Ja b p (l.take k) L) (ix l k) (wv b p):=by rw[Ff hk,WG]
section
variable{f:D.Func}{b i:Nat}
theorem Pj{n a c:Int}(h:a≤n∧n≤c):Oc n a c=true:=by unfold Oc;simp[h]
theorem GoodF.pha(h:GoodF f)(hb:b<f.Blocks.length)(hi:i<(ix f.Blocks b).Phis.length):(∀n∈[(ix (ix f.Blocks b).Phis i).Dst],Oc n f.Params 8191=true)∧[(ix (ix f.Blocks b).Phis i).Dst].Nodup∧∀n∈[(ix (ix f.Blocks b).Phis i).Dst],lkM (phA b (ix f.Blocks b).Phis (bkA f.Blocks b) i) n=none :=
 ⟨fun n hn=>by simp at hn;subst hn;exact Pj (h.rng b hb _ (Iz.2 (.inl ⟨i,hi,rfl⟩))),by simp,fun n hn=>by simp at hn;subst hn;exact h.once.phi hi⟩
theorem GoodF.ina(h:GoodF f)(hb:b<f.Blocks.length)(hi:i<(ix f.Blocks b).Ins.length):(∀n∈Aw (ix (ix f.Blocks b).Ins i),Oc n f.Params 8191=true)∧(Aw (ix (ix f.Blocks b).Ins i)).Nodup∧∀n∈Aw (ix (ix f.Blocks b).Ins i),lkM (inA b (ix f.Blocks b).Ins (phA b (ix f.Blocks b).Phis (bkA f.Blocks b) (ix f.Blocks b).Phis.length) i) n=none :=
 ⟨fun n hn=>Pj (h.rng b hb _ (Iz.2 (.inr ⟨i,hi,hn⟩))),h.once.mks,fun n hn=>h.once.ins hi hn⟩
def shL:List (Int×Value):=[(1,.agg #[.int .i64 0,.int .i64 0,.int .i64 1,.int .i64 1]),(2,.agg #[.int .i64 1,.int .i64 1,.int .i64 2,.int .i64 2]),(3,.agg #[.int .i64 1,.int .i64 1,.int .i64 2,.int .i64 65]),(4,.agg #[.int .i64 0,.int .i64 1,.int .i64 0,.int .i64 0]),(5,.agg #[.int .i64 0,.int .i64 0,.int .i64 0,.int .i64 0])]
theorem E5{k:Int}{s:Int×Int×Int×Int}(h:shM k=some s):lkM shL k=some (.agg #[.int .i64 s.1,.int .i64 s.2.1,.int .i64 s.2.2.1,.int .i64 s.2.2.2]):=by
 unfold shM at h
 split at h
 ·rename_i e;subst e;injection h with h;subst h;rfl
 split at h
 ·rename_i e;subst e;injection h with h;subst h;rfl
 split at h
 ·rename_i e;subst e;injection h with h;subst h;rfl
 split at h
 ·rename_i e;subst e;injection h with h;subst h;rfl
 split at h
 ·rename_i e;subst e;injection h with h;subst h;rfl
 ·cases h
end
theorem KS{f:D.Func}{idom:List Int}{v block at':Int}(hb:0≤block∧block<f.Blocks.length)(hD:B7 (Cj f) idom){wb:Nat}{wp:Int}(hp:Q8 f.Blocks v wb wp)(h:(wb=block.toNat∧(wp<at'∨wp<0))∨(wb≠block.toNat∧¬RB (prG (Cj f)) wb block.toNat)) :
  ((wb:Int)=block∧(wp<at'∨wp<0))∨(¬(wb:Int)=block∧Px idom wb block=true):=by
 rcases h with⟨h1,h2⟩|⟨h1,h2⟩
 ·exact .inl ⟨by omega,h2⟩
 ·refine .inr ⟨by omega,?_⟩
  have hl:(Cj f).length=f.Blocks.length:=by simp[Cj]
  have:=hD.2 wb block.toNat (by rw[hl];exact hp.1) (by rw[hl];omega) (.inr h2)
  rwa[Int.toNat_of_nonneg hb.1] at this
def Nx(l:List Int)(v:Int):Nat→Nat→Int
 | 0,_=>-1
 | n+1,k=>if v=ix l k then k else Nx l v n (k+1)
def Yy(l:List Int)(v:Int):Int:=Nx l v l.length 0
def Zh(l:List Int)(v:Int):Bool:=decide (0≤Yy l v)
theorem FK{l:List Int}{v:Int}:∀(n k:Nat),(∃j,k≤j∧j<k+n∧v=ix l j)→0≤Nx l v n k
 | 0,k,⟨j,h1,h2,_⟩=>by omega
 | n+1,k,⟨j,h1,h2,h3⟩=>by
  rw[Nx];split
  ·omega
  ·rename_i h
   exact FK n (k+1) ⟨j,by rcases Nat.lt_or_ge k j with h4|h4;exact h4;exact absurd (by rw[show k=j by omega];exact h3) h,by omega,h3⟩
theorem ZD{l:List Int}{v:Int}(h:v∈l):Zh l v=true:=by
 obtain⟨j,hj,e⟩:=List.getElem_of_mem h
 have:=FK (l:=l) (v:=v) l.length 0 ⟨j,Nat.zero_le _,by omega,by rw[Bn hj];exact e.symm⟩
 unfold Zh Yy;simpa using this
theorem WQ{l:List Int}{v:Int}{n k:Nat}(hk:k<n)(h:¬v=ix l k):Nx l v (n-k) k=Nx l v (n-(k+1)) (k+1):=by
 rw[show n-k=(n-(k+1))+1 by omega,Nx,if_neg h]
theorem FJ{l:List Int}{v:Int}{n k:Nat}(hk:k<n)(h:v=ix l k):Nx l v (n-k) k=k:=by
 rw[show n-k=(n-(k+1))+1 by omega,Nx,if_pos h]
section
variable{f:D.Func}{b i j:Nat}
theorem Ox(f:D.Func):(Cj f).length=f.Blocks.length:=by simp[Cj]
theorem GoodF.gn(h:GoodF f):0<(Cj f).length∧(Cj f).length≤512:=by rw[Ox];exact h.len
theorem GoodF.gw(h:GoodF f):∀b,b<(Cj f).length→∃w,RB (fun q t=>(t:Int)∈ix (Bl (Cj f)) q) w b:=fun b hb=>h.reach b (by rw[Ox] at hb;exact hb)
theorem GoodF.in1(h:GoodF f)(hb:b<f.Blocks.length)(hi:i<(ix f.Blocks b).Phis.length):0<b∧(ix (ix f.Blocks b).Phis i).In.length=(ix (Ee (Cj f)) b).length:=by
 have h1:=h.fr b hb _ (Ax hi)
 exact⟨h1.1,by have:=congrArg List.length h1.2;simpa using this⟩
theorem GoodF.in2(h:GoodF f)(hb:b<f.Blocks.length)(hi:i<(ix f.Blocks b).Phis.length)(hj:j<(ix (ix f.Blocks b).Phis i).In.length):(ix (ix (ix f.Blocks b).Phis i).In j).From=ix (ix (Ee (Cj f)) b) j∧0≤(ix (ix (ix f.Blocks b).Phis i).In j).From∧(ix (ix (ix f.Blocks b).Phis i).In j).From<f.Blocks.length:=by
 have h1:=h.fr b hb _ (Ax hi)
 have h2:=(h.in1 hb hi).2
 have h3:(ix (ix (ix f.Blocks b).Phis i).In j).From=ix (ix (Ee (Cj f)) b) j:=by rw[←h1.2,Nw hj]
 have h4:=AX (Ax (l:=ix (Ee (Cj f)) b) (i:=j) (by omega))
 rw[Ox,←h3] at h4
 exact⟨h3,h4⟩
end
theorem GZ{bs:List D.Block}{k:Nat}(h:k<bs.length):Jc (bs.take (k+1))=Jc (bs.take k)+((ix bs k).Phis.length+(ix bs k).Ins.length):=by
 unfold Jc;rw[Ff h];simp
theorem HA(bs:List D.Block)(k:Nat):Jc (bs.take k)≤Jc bs:=by
 have h:=List.take_append_drop k bs
 have:Jc bs=Jc (bs.take k)+Jc (bs.drop k):=by
  unfold Jc;conv=>lhs;rw[←h]
  rw[List.map_append,List.sum_append]
 omega
theorem o8:Ent Tryz.prog 188:=⟨_,Tryz.func188,by kernel_rfl,by kernel_rfl⟩
theorem o7:Ent Tryz.prog 189:=⟨_,Tryz.func189,by kernel_rfl,by kernel_rfl⟩
theorem Qf(n:Int)(a:Int)(b:Int):Tv Tryz.prog 114 #[.int .i64 n,.int .i64 a,.int .i64 b] [] [] (.bool (Oc n a b)):=by
 refine Af (args:=[.int .i64 n,.int .i64 a,.int .i64 b]) Tryz.func114 rfl rfl rfl fun w0 X=>?_
 refine jq (jr (ja Z (jn (jx (jq (jr (jm Z (jm Z (js (Eo Z Z) (jm Z (jg Z Z (.t _) (fun hg=>jmv Z) ?_)))))))))))
 refine jg Z Z (.t _) (fun hg=>jmv Z) (jg Z Z (.t _) (fun hg=>Nv (evg Z hg) (evg Z hg)) (js (Cm Z Z) (ja Z (jn (jx (jrt ?_))))))
 exact jrB Z Z (by unfold Oc;rfl)
theorem QX(op:Int):Tv Tryz.prog 162 #[.int .i64 op] [] [] (.tuple #[.int .i64 ((Eu op).1),.int .i64 ((Eu op).2)]):=by
 refine Af (args:=[.int .i64 op]) Tryz.func162 rfl rfl rfl fun w0 X=>?_
 refine jq (jr (ja Z (ja Z (jn (jx (jq (jq (jr (jm Z (jn (jx ?_)))))))))))
 refine jb (jq (jr (js (Aj Z Z) (ja Z (jn (jx ?_))))))
 refine jif Z (fun hc1=>?_) (fun hc1=>?_)
 refine jq (jr (ja Z (ja Z (jn (jx (jrt (jbr (jtr ?_))))))))
 exact jr2 Z Z Z () (tII (by first|(simp[Eu, *];done)|(unfold Eu;(repeat' split)<;>first|rfl|(exfalso;omega)|simp_all))) dn (fun _ _=>kn)
 refine jq (jr (js (Aj Z Z) (ja Z (jn (jx ?_)))))
 refine jif Z (fun hc2=>?_) (fun hc2=>?_)
 refine jq (jr (ja Z (ja Z (jn (jx (jrt (jbr (jtr ?_))))))))
 exact jr2 Z Z Z () (tII (by first|(simp[Eu, *];done)|(unfold Eu;(repeat' split)<;>first|rfl|(exfalso;omega)|simp_all))) dn (fun _ _=>kn)
 refine jq (jr (js (Aj Z Z) (ja Z (jn (jx ?_)))))
 refine jif Z (fun hc3=>?_) (fun hc3=>?_)
 refine jq (jr (ja Z (ja Z (jn (jx (jrt (jbr (jtr ?_))))))))
 exact jr2 Z Z Z () (tII (by first|(simp[Eu, *];done)|(unfold Eu;(repeat' split)<;>first|rfl|(exfalso;omega)|simp_all))) dn (fun _ _=>kn)
 refine jsk (jbn (jx (jq (jr (ja Z (ja Z (jn (jx (jrt ?_)))))))))
 exact jr2 Z Z Z () (tII (by first|(simp[Eu, *];done)|(unfold Eu;(repeat' split)<;>first|rfl|(exfalso;omega)|simp_all))) dn (fun _ _=>kn)
theorem TW{a0:Value}{i:D.Ins}:Td Tryz.prog 163 #[vIns i a0] [da Ae (vIns i a0) i] [] (rL (rI .i64)) (Aw i):=by
 refine Af (args:=[vIns i a0]) Tryz.func163 rfl rfl rfl fun w0 X=>?_
 refine jq (jr (Bj Z Z fun g1=>ja Z (jn (jx (jq (jq (jr (js (jf Nb Z) (js (jl k0 O3 Z Z) (jn ?_))))))))))
 refine jx (jb (jq (jr (js (Aj Z Z) (ja Z (jn (jx ?_)))))))
 refine jif Z (fun hc1=>?_) (fun hc1=>?_)
 refine jq (jr (ja Z (jn (jx (jrt (jbr (jtr ?_)))))))
 exact jrD Z Z (by first|(simp[Aw, *];done)|(unfold Aw;(repeat' split)<;>first|rfl|(exfalso;omega)|simp_all)) wN
 refine jq (jr (js (Aj Z Z) (ja Z (jn (jx ?_)))))
 refine jif Z (fun hc2=>?_) (fun hc2=>?_)
 refine jq (jr (js (jf Gh Z) (js (jl k0 O3 Z Z) (js (jf Zv Z) (js (jl k0 O3 Z Z) (Ba (r:=(rI .i64)) (l:=[i.Dst,i.Two]) U22 I3 (by decide) Z Z Z (lV Z Z (wI (Ae.W_Dst d0)) (lV Z Z (wI (Ae.W_Two d0)) ln)) fun g13=>ja Z (jn (jx (jrt (jbr ?_))))))))))
 refine jtr (qfz k0 (by(try simp)<;>omega) ?_)
 exact jrD Z Z (by first|(simp[Aw, *];done)|(unfold Aw;(repeat' split)<;>first|rfl|(exfalso;omega)|simp_all)) d0
 refine jsk (jbn (jx (jq (jr (js (jf Gh Z) (js (jl k0 O3 Z Z) (Ba (r:=(rI .i64)) (l:=[i.Dst]) U22 I3 (by decide) Z Z Z (lV Z Z (wI (Ae.W_Dst d0)) ln) fun g16=>ja Z (jn (jx (jrt ?_))))))))))
 refine qfz k0 (by(try simp)<;>omega) ?_
 exact jrD Z Z (by first|(simp[Aw, *];done)|(unfold Aw;(repeat' split)<;>first|rfl|(exfalso;omega)|simp_all)) d0
theorem ZI{a0:Value}{idom:List Int}{a1:Value}{num:List Int}(a:Int)(b:Int)(hok:JM idom num a b):Tv Tryz.prog 186 #[a0,a1,.int .i64 a,.int .i64 b] [dv (rL (rI .i64)) a0 idom,dv (rL (rI .i64)) a1 num] [] (.int .i64 (Mw idom num a b)):=by
 refine Af (args:=[a0,a1,.int .i64 a,.int .i64 b]) Tryz.func186 rfl rfl rfl fun w0 X=>?_
 obtain⟨n,pr,hg,hnl,hv,hc0⟩:=hok
 refine jq (jr (ja Z (jn (jx (jsc (jq (K1 (jx (jq (jb ?_))))))))))
 refine jlp (u3 fun(f:Nat) (a9:Int) (b9:Int)=>⟨CO n num idom a b a9 b9∧Mw idom num a b=Kg idom num f a9 b9∧(ix num a9.toNat).toNat+(ix num b9.toNat).toNat<f,[dv (rL (rI .i64)) a0 idom,dv (rL (rI .i64)) a1 num],[],[(0,a0),(1,a1),(2,.int .i64 a9),(3,.int .i64 b9),(8,.int .i64 0)],f⟩) ((ix num a.toNat).toNat+(ix num b.toNat).toNat+1,a,b) ⟨hc0,rfl,Nat.lt_succ_self _⟩ (dc d0 (dc d1 dn)) kn ⟨Z,Z,Z,Z,Z,trivial⟩ ?_
 rintro⟨f,a9,b9⟩;dsimp only[u3];rintro⟨hco,hcm,hfu⟩
 have ra:=hco.ra
 have rb:=hco.rb
 have na:=(hg.rng a9.toNat (by omega))
 have nb:=(hg.rng b9.toNat (by omega))
 have hil:=hv.len
 refine jb (jb (jq (Jj Bh (by kernel_rfl) (jt (jmv Z) (jt (jmv Z) (tdq d1 fun q1 w1=>jt (jix (i:=a9.toNat) U22 Z3 d1 Z Z (by omega) (by omega)) (jt (jlI (dix d1 a9.toNat (by omega)) O3 Z) (jt (jmv Z) (jt (jmv Z) (jt (jix (i:=b9.toNat) U22 Z3 d1 Z Z (by omega) (by omega)) ?_))))))))))
 refine jt (jlI (dix d1 b9.toNat (by omega)) O3 Z) (jt (Fi Z Z) (jt (jas Z) (jdn (jx ?_))))
 refine jif Z (fun hc1=>?_) (fun hc1=>?_)
 refine jr (jm Z (jm Z (jdq d0 fun q2 w2=>js (jix (i:=a9.toNat) U22 Z3 d0 Z Z (by omega) (by omega)) (js (jlI (dix d0 a9.toNat (by omega)) O3 Z) (ja Z (jn (jbn (jbn ?_))))))))
 exact jag (f-1,ix idom a9.toNat,b9) ⟨(hco.left hg hv (by omega)).1,by rw[hcm,ZL (by omega) (by omega)],by have:=(hco.left hg hv (by omega)).2;have:=(hco.left hg hv (by omega)).1.ra;have:=hg.rng _ (show(ix idom a9.toNat).toNat<n by omega);dsimp only;omega⟩ (dc d0 (dc d1 dn)) kn ⟨Z,Z,Z,Z,Z,trivial⟩
 refine jq (Jj Bh (by kernel_rfl) (jt (jmv Z) (jt (jmv Z) (jt (jix (i:=b9.toNat) U22 Z3 d1 Z Z (by omega) (by omega)) (jt (jlI (dix d1 b9.toNat (by omega)) O3 Z) (jt (jmv Z) (jt (jmv Z) (jt (jix (i:=a9.toNat) U22 Z3 d1 Z Z (by omega) (by omega)) (jt (jlI (dix d1 a9.toNat (by omega)) O3 Z) (jt (Fi Z Z) (jt (jas Z) ?_)))))))))))
 refine jdn (jx ?_)
 refine jif Z (fun hc2=>?_) (fun hc2=>?_)
 refine jr (jm Z (jm Z (jdq d0 fun q3 w3=>js (jix (i:=b9.toNat) U22 Z3 d0 Z Z (by omega) (by omega)) (js (jlI (dix d0 b9.toNat (by omega)) O3 Z) (ja Z (jn (jbn (jbn ?_))))))))
 exact jag (f-1,a9,ix idom b9.toNat) ⟨(hco.right hg hv (by omega)).1,by rw[hcm,ZK (by omega) (by omega)],by have:=(hco.right hg hv (by omega)).2;have:=(hco.right hg hv (by omega)).1.rb;have:=hg.rng _ (show(ix idom b9.toNat).toNat<n by omega);dsimp only;omega⟩ (dc d0 (dc d1 dn)) kn ⟨Z,Z,Z,Z,Z,trivial⟩
 refine jex (jbo (jbo (jtx (jbh (jx (jq (jr (jm Z (ja Z (jn (jx ?_)))))))))))
 refine jrt (jso ?_)
 exact jrI Z Z (by rw[hcm,ZM (by omega) (by omega)])
theorem EL{a0:Value}{row:List Int}(n:Int):Tg Tryz.prog 181 #[a0,.int .i64 n] [dv (rL (rI .i64)) a0 row] [] (rI .i64) 3 (Ip row n):=by
 refine Af (args:=[a0,.int .i64 n]) Tryz.func181 rfl rfl rfl fun w0 X=>?_
 refine jq (jr (ja Z (jn (jx (jq (jr (ja Z (jn (jx (jq (jq ?_)))))))))))
 refine jr (jm Z (jdq d0 fun q1 w1=>js (jln U22 d0 Z) (jm Z (jn (jx (jb (cnl (r:=(rI .i64)) (E:=3) ?_)))))))
 refine jlp (u3 fun(k:Nat) (fs:List Int) (vo:Value)=>⟨k≤row.length∧fs=(row.take k).filter (fun b=>decide (0≤b)&&decide (b<n)),[dv (rL (rI .i64)) a0 row],[gl X.n (rI .i64) 3 vo fs],[(1,.int .i64 n),(4,.slice none 0 0),(5,vo),(8,a0),(9,.int .i64 (↑row.length)),(10,.int .i64 (↑k))],row.length-k⟩) (0,[],.slice none 0 0) ⟨by dsimp only;omega,rfl⟩ (dc d0 dn) (kc k0 kn) ⟨Z,Z,Z,Z,Z,eqI (by omega),trivial⟩ ?_
 rintro⟨k,fs,vo⟩;dsimp only[u3];rintro⟨hk,hfs⟩
 refine cgo k0 fun w2=>?_
 have hfl:fs.length≤k:=by rw[hfs];exact Nat.le_trans (List.length_filter_le _ _) (by rw[List.length_take];omega)
 refine jq (jr (js (Ai Z Z) (jn (jx (jq ?_)))))
 refine jif Z (fun hc1=>?_) (fun hc1=>?_)
 refine jsk (jx (jq (jb (jq (jr (js (jix U22 Z3 d0 Z Z Z (by omega)) (js (jlI (dix d0 k (by omega)) O3 Z) (ja Z (jn (jx (jq ?_)))))))))))
 refine jr (jm Z (js (Eo Z Z) (jm Z (jg Z Z (.t _) (fun hg=>jmv Z) (jg Z Z (.t _) (fun hg=>jmv Z) (jg Z Z (.t _) (fun hg=>Ai (evg Z hg) (evg Z hg)) (js (Cm Z Z) (jn (jx ?_)))))))))
 refine jif Z (fun hc2=>?_) (fun hc2=>?_)
 refine jr (jm Z (jm Z (Hz U22 I3 (by decide) Z Z k0 Z (wI (wad (dix d0 k (by omega)))) (by omega) (fun _=>Z) fun v24 _ w3=>ja Z (jn (jbn (jx (jr (js (Ac Z Z (by omega)) (jm Z (jn ?_))))))))))
 exact jag (k+1,fs++[ix row k],v24) ⟨by dsimp only;omega,by dsimp only;rw[FX (by omega),hfs,if_pos (by simp;omega)]⟩ (dc d0 dn) (kc k0 kn) ⟨Z,Z,Z,Z,Z,eqI (by omega),trivial⟩
 refine jsk (jbn (jx (jr (js (Ac Z Z (by omega)) (jm Z (jn ?_))))))
 exact jag (k+1,fs,vo) ⟨by dsimp only;omega,by dsimp only;rw[FX (by omega),hfs,if_neg (by simp;omega),List.append_nil]⟩ (dc d0 dn) (kc k0 kn) ⟨Z,Z,Z,Z,Z,eqI (by omega),trivial⟩
 refine jex (jtx (jtx (jbh (jx (jq (jr (jm Z (jc o8 Z Z (LY (by omega)) dn (kc k0 kn) (fun _=>p0) (fun _=>p1) fun _=>jn (jx (jq ?_))))))))))
 refine jr (jm Z (jc o7 Z Z (ZH (by unfold Jg;rw[List.length_mergeSort];omega)) dn (kc k0 kn) (fun _=>p0) (fun _=>p1) fun v29=>jgo k0 fun w4=>ja Z (jn (jx (jrt ?_)))))
 exact jrG Z Z (by rw[Ip,hfs,List.take_of_length_le (by omega)]) k0
theorem JA:Ent Tryz.prog 181:=⟨_,Tryz.func181,by kernel_rfl,by kernel_rfl⟩
theorem HC{a0:Value}{g:List (List Int)}:Td Tryz.prog 182 #[a0] [dv (rL (rL (rI .i64))) a0 g] [] (rL (rL (rI .i64))) (Bl g):=by
 refine Af (args:=[a0]) Tryz.func182 rfl rfl rfl fun w0 X=>?_
 refine jq (jr (ja Z (jn (jx (jq (jr (jm Z (jdq d0 fun q1 w1=>js (jln Dd d0 Z) (jmk (m:=g.length) (r:=(rL (rI .i64))) Dd I22 Z Z Z Z Z (by omega) wN Z fun g8=>ja Z ?_)))))))))
 refine jn (jx (jq (jq (jr (jm Z (js (jln Dd d0 Z) (jm Z (jn (jx (jb ?_))))))))))
 refine jlp (u2 fun(k:Nat) (rs:List (List Int))=>⟨k≤g.length∧rs=(Bl g).take k++List.replicate (g.length-k) [],[dv (rL (rL (rI .i64))) a0 g],[gl X.n (rL (rI .i64)) 22 (.slice (some ⟨g8,0,none⟩) g.length g.length) rs],[(0,a0),(2,.slice none 0 0),(3,(.slice (some ⟨g8,0,none⟩) g.length g.length)),(9,a0),(10,.int .i64 (↑g.length)),(11,.int .i64 (↑k))],g.length-k⟩) (0,List.replicate g.length ([])) ⟨by dsimp only;omega,by simp⟩ (dc d0 dn) (kc k0 kn) ⟨Z,Z,Z,Z,Z,eqI (by omega),trivial⟩ ?_
 rintro⟨k,rs⟩;dsimp only[u2];rintro⟨hk,hrs⟩
 have hfl:(Bl g).length=g.length:=by simp[Bl,Cj]
 have hrl:rs.length=g.length:=by rw[hrs,List.length_append,List.length_take,List.length_replicate];omega
 refine jq (jr (js (Ai Z Z) (jn (jx (jq ?_)))))
 refine jif Z (fun hc1=>?_) (fun hc1=>?_)
 have hkl:=EJ (ix g k) g.length
 refine jsk (jx (jq (jb (jq (jr (jm Z (js (jix Dd Z22 d0 Z Z Z (by omega)) (jev (jlV (dix d0 k (by omega)) O22 Z Z) fun v15 q2 w2=>ja Z (ja Z (jn ?_))))))))))
 refine jx (jr (jm Z (jm Z (jm Z (jm Z (js (jln Dd d1 Z) (jcg JA Z Z (EL (↑g.length)) (dc d0 dn) kn fun v21 w4=>js (jig Dd Z22 k1 Z Z Z (by omega)) (jfz k0 (by(try simp)<;>omega) (jsg k0 Z Z22 Z Z w4.one (by omega) d0 (jn ?_))))))))))
 refine jbn (jx (jr (js (Ac Z Z (by omega)) (jm Z (jn ?_)))))
 exact jag (k+1,List.set rs k (Ip (ix g k) (((List.length g:Nat):Int)))) ⟨by dsimp only;omega,by dsimp only;rw[hrs];exact AK (by omega) (by omega) (by rw[Bl,Nw (by omega)])⟩ (dc d2 dn) (kc k0 kn) ⟨Z,Z,Z,Z,Z,eqI (by omega),trivial⟩
 refine jex (jtx (jtx (jbh (jx (jq (jr (jm Z (ja Z (jn (jx (jrt ?_)))))))))))
 refine qfz k0 (by omega) ?_
 exact jrD Z Z (by rw[hrs,List.take_of_length_le (by omega),show g.length-k=0 by omega];simp) d0
theorem WY{a0:Value}{f:D.Func}:Td Tryz.prog 165 #[vFunc f a0] [da Ak (vFunc f a0) f] [] (rL (rL (rI .i64))) (Cj f):=by
 refine Af (args:=[vFunc f a0]) Tryz.func165 rfl rfl rfl fun w0 X=>?_
 refine jq (jr (Bj Z Z fun g1=>ja Z (jn (jx (jq (jr (js (jf Cq Z) (js (jl k0 O47 Z Z) (jdq (Ak.cB d0) fun q1 w1=>js (jln U47 (Ak.cB d0) Z) ?_)))))))))
 refine jmk (m:=(List.length f.Blocks)) (r:=(rL (rI .i64))) Dd I22 Z Z Z Z Z (by omega) wN Z fun g9=>ja Z (jn (jx (jq (jq (jr (js (jf Cq Z) (js (jl k1 O47 Z Z) (js (jln U47 (Ak.cB d0) Z) (jm Z (jn ?_))))))))))
 refine jx (jb ?_)
 refine jlp (u2 fun(k:Nat) (rs:List (List Int))=>⟨k≤f.Blocks.length∧rs=(Cj f).take k++List.replicate (f.Blocks.length-k) [],[da Ak (vFunc f a0) f],[gl X.n (rL (rI .i64)) 22 (.slice (some ⟨g9,0,none⟩) (List.length f.Blocks) (List.length f.Blocks)) rs,bx g1 49 [.int .i64 f.Params,a0]],[(1,.pointer (some ⟨g1,0,none⟩)),(2,.slice none 0 0),(3,(.slice (some ⟨g9,0,none⟩) (List.length f.Blocks) (List.length f.Blocks))),(11,a0),(12,.int .i64 (↑(List.length f.Blocks))),(13,.int .i64 (↑k))],f.Blocks.length-k⟩) (0,List.replicate (List.length f.Blocks) ([])) ⟨by dsimp only;omega,by simp⟩ (dc d0 dn) (kd kn) ⟨Z,Z,Z,Z,Z,eqI (by omega),trivial⟩ ?_
 rintro⟨k,rs⟩;dsimp only[u2];rintro⟨hk,hrs⟩
 have hfl:(Cj f).length=f.Blocks.length:=by simp[Bl,Cj]
 have hrl:rs.length=f.Blocks.length:=by rw[hrs,List.length_append,List.length_take,List.length_replicate];omega
 refine jq (jr (js (Ai Z Z) (jn (jx (jq ?_)))))
 refine jif Z (fun hc1=>?_) (fun hc1=>?_)
 have hkl:=EJ (ix f.Blocks k).Term.To f.Blocks.length
 refine jsk (jx (jq (jb (jq (jr (jm Z (js (jix U47 Z62 (Ak.cB d0) Z Z Z (by omega)) (jA4 Sf (jlA (dix (Ak.cB d0) k (by omega)) A62 Z62 Z) fun c17a c17b c17c c17d=>Bg J62 Z fun g5=>ja Z (jdq (Ah.cP d0) fun q3 w3=>?_)))))))))
 refine jdq (Ah.cI d0) fun q4 w4=>jdq (Ah.c_Term_Args d0) fun q5 w5=>jdq (Ah.c_Term_To d0) fun q6 w6=>Az k0 Z62 Z Z Z ⟨w3.one,w4.one,Z,w5.one,w6.one,Z,trivial⟩ (saf Z) (jn (jx (jr (jm Z (jm Z (js (jf He Z) (js (jf Ib Z) (js (jl k0 O22 Z Z) ?_))))))))
 refine js (jf Cq Z) (js (jl k2 O47 Z Z) (js (jln U47 (Ak.cB d1) Z) (jcg JA Z Z (EL (↑(List.length f.Blocks))) (dc (Ah.c_Term_To d0) dn) kn fun v26 w7=>js (jig Dd Z22 k2 Z Z Z (by omega)) (jfz k0 (by(try simp)<;>omega) (jsg k1 Z Z22 Z Z w7.one (by omega) d0 (jn (jbn (jx (jr (js (Ac Z Z (by omega)) ?_))))))))))
 refine jm Z (jn ?_)
 exact jag (k+1,List.set rs k (Ip (((ix f.Blocks k).Term).To) (((List.length f.Blocks:Nat):Int)))) ⟨by dsimp only;omega,by dsimp only;rw[hrs];exact AK (by omega) (by omega) (by rw[Cj,Nw (by omega)])⟩ (dc d2 dn) (kc k0 (kc k1 kn)) ⟨Z,Z,Z,Z,Z,eqI (by omega),trivial⟩
 refine jex (jtx (jtx (jbh (jx (jq (jr (jm Z (ja Z (jn (jx (jrt ?_)))))))))))
 refine qfz k0 (by omega) ?_
 exact jrD Z Z (by rw[hrs,List.take_of_length_le (by omega),show f.Blocks.length-k=0 by omega];simp) d0
end Go.Proofs.YtmfkkodnghambaaGreat
namespace Go.JE
variable{P:Program}{D:List Dt}{L M:List Res}{e:Env}{H:Heap}{T T' E:TypeId}{x y:Operand}{p:Option Addr}
section
variable{α:Type} [Inhabited α]{r:Rp α}{F:PH}{v:Value}{l:List α}{B i off:Nat}{k:IntKind}{n:Int}
end
section
variable{Q:Exit→Act→World→Prop}{X:Cx}{w0:World}{fn:Func}{m:Nat}{ι:Type}{val:ι→Value}{dr:ι→List Dt}{lr:Nat→ι→List Res}{N:List Res}
end
end Go.JE
namespace Go.JE
variable{P:Program}{D Ds:List Dt}{L M Ls:List Res}{e:Env}{X:Cx}{n:Fs}{w0:World}{Q:Exit→Act→World→Prop}{FS:PH}
variable{ops:Array Oper}{op:Op}{d:Nat}{ty:TypeId}{pos:String}{af:Array Edge}{rest l:List Oper}{z:Bool}{is:Od}{i:Nat}
theorem UR{D0:List Dt}{L0 N:List Res}{f:FuncId}{g:Operand}{xs:List Operand}{vs cs:List Value}{ts:Array TypeId}{v:Value}{j t:Nat}{want B:Bool}{u:Value}(hj:(ops[j]?).bind (·.dst)=some t)(hu:lk e t=some u)(hB:Gd u want B)(hE:Ent P f)(hf:B=true→ev e g=some (.func (.func f) #[] cs.toArray))(hl:B=true→evl e xs=some vs)(hT:B=true→Tr P f (vs++cs).toArray D0 L0 (fun _:Unit=>v) (fun _=>[]) (fun _ _=>L0))(hd:B=true→Sd D L D0)(hk:Tks L L0 M)(hq:Ap L0 M N)
  (k:LH P n w0 ops Q X D N ((d,gv B v)::e) rest) (hd1:Nat.blt d n.sz=true:=by rfl) (ht:Nat.blt t n.sz=true:=by rfl):LH P n w0 ops Q X D L e (⟨some d,.call { callee := .value g,args:=xs.toArray,argTypes:=ts },ty,pos,af,some (j,want)⟩::rest):=fun F H h=>by
 refine LF.gcallF hj hu hB (fun hb=>Lc.fnc hE (hf hb) (hl hb)) (fun hb=>(hT hb).run h (hd hb) hk) (fun v' H' hz=>?_) hd1 ht
 rcases hz with⟨hb,i,F',rfl,h2⟩|⟨hb,rfl⟩
 ·exact k F' H' (hq▸h2)
 ·subst hb
  refine k F H' (hq▸⟨h.hx,h.hin,h.hw,h.hd,?_,fun k h1=>h.ge k (hk.own (Own.app.1 h1))⟩)
  obtain⟨a,b,c⟩:=hk.ok h.ok
  exact Ok.app a b c
end Go.JE
namespace Go.Proofs.YtmfkkodnghambaaGreat
open Go.JE
theorem S7:Ent Tryz.prog 187:=⟨_,Tryz.func187,by kernel_rfl,by kernel_rfl⟩
theorem L4(n:Int){av:Value}{l:List Int}{g1:Nat}:Tr Tryz.prog 187 #[.int .i64 n,.pointer (some ⟨g1,0,none⟩)] [dv (rL (rI .i64)) av l] [bx g1 22 [av]] (fun _:Unit => .bool (Mr n l)) (fun _=>[]) (fun _ _=>[bx g1 22 [av]]):=by
 refine Af (args:=[.int .i64 n,.pointer (some ⟨g1,0,none⟩)]) Tryz.func187 rfl rfl rfl fun w0 X=>?_
 refine jq (jr (ja Z (jn (jx (jq (jr (jm Z (js (Eo Z Z) (jm Z (jg Z Z (.t _) (fun hg=>jmv Z) (jg Z Z (.t _) (fun hg=>jl k0 O22 Z Z) ?_)))))))))))
 refine jdq d0 fun q1 w1=>jg Z Z (.t _) (fun hg=>jln U22 d0 (evg Z hg)) (jg Z Z (.t _) (fun hg=>Ai (evg Z hg) (evg Z hg)) (js (Cm Z Z) (ja Z (jn (jx (jrt ?_))))))
 exact jr1 Z Z () (congrArg Value.bool (Eq.symm (by unfold Mr inR;rfl))) dn (fun _ _=>(kc k0 kn))
theorem ZB{a0:Value}{idom:List Int}(a:Int)(b:Int):Tv Tryz.prog 170 #[a0,.int .i64 a,.int .i64 b] [dv (rL (rI .i64)) a0 idom] [] (.bool (Px idom a b)):=by
 refine Af (args:=[a0,.int .i64 a,.int .i64 b]) Tryz.func170 rfl rfl rfl fun w0 X=>?_
 refine jq (jr (jdq d0 fun q1 w1=>Bj Z w1.cells fun g3=>ja Z (jn (jx (jq (jr (js (Ou Z) (ja Z (jn ?_)))))))))
 refine jx (jq (jq (jr (jm Z (jm Z (jc S7 Z Z (L4 a) (dc d0 dn) (kc k0 kn) (fun _=>p0) (fun _=>p1) fun _=>js (Dv Z) (jm Z (jg Z Z (.f _) (fun hg=>jmv Z) (jg Z Z (.f _) (fun hg=>jmv Z) (UR Z Z (.f _) S7 (fun hg=>evg Z hg) (fun hg=>Zf (evg Z hg)) (fun hg=>(L4 b)) (fun hg=>(dc d0 dn)) (kc k0 kn) p1 ?_))))))))))
 refine jg Z Z (.f _) (fun hg=>Dv (evg Z hg)) (js (jor Z Z) (jn (jx ?_)))
 refine jif Z (fun hc1=>?_) (fun hc1=>?_)
 refine jq (jr (ja Z (jn (jx (jrt (jtr ?_))))))
 exact jrB Z Z (by first|(exact Zg (by simpa using hc1))|(rw[hdm,show idom.length+1-k=(idom.length-k)+1 by omega,Kf,if_pos hc3])|(rw[hdm,show idom.length+1-k=(idom.length-k)+1 by omega,Kf,if_neg hc3,if_neg (Yx (by simpa using hc4))])|(rw[hdm,show idom.length+1-k=0 by omega];rfl))
 have hia:inR idom a=true:=by simp[Mr] at hc1;exact hc1.1
 have hib:inR idom b=true:=by simp[Mr] at hc1;exact hc1.2
 refine jsk (jx (jq (jq (jr (js (jl k0 O22 Z Z) (js (jln U22 d0 Z) (js (Ac Z Z (by omega)) (jm Z (jn (jx (jb ?_)))))))))))
 refine jlp (u2 fun(k:Nat) (b9:Int)=>⟨k≤idom.length+1∧Px idom a b=Kf idom a (idom.length+1-k) b9,[dv (rL (rI .i64)) a0 idom],[bx g3 22 [a0]],[(1,.int .i64 a),(2,.int .i64 b9),(3,.pointer (some ⟨g3,0,none⟩)),(7,.func (.func 187) #[] #[.pointer (some ⟨g3,0,none⟩)]),(21,.int .i64 ((↑idom.length)+1)),(22,.int .i64 (↑k))],idom.length+1-k⟩) (0,b) ⟨by dsimp only;omega,by dsimp only;rw[Px,if_pos ⟨hia,hib⟩];rfl⟩ (dc d0 dn) (kc k0 kn) ⟨Z,Z,Z,Z,Z,eqI (by omega),trivial⟩ ?_
 rintro⟨k,b9⟩;dsimp only[u2];rintro⟨hk,hdm⟩
 refine jq (jr (js (Ai Z Z) (jn (jx (jq ?_)))))
 refine jif Z (fun hc2=>?_) (fun hc2=>?_)
 refine jsk (jx (jq (jb (jq (jq (jr (jm Z (jm Z (js (Aj Z Z) (jn (jx ?_)))))))))))
 refine jif Z (fun hc3=>?_) (fun hc3=>?_)
 refine jq (jr (ja Z (jn (jx (jrt (jtr (jbr (jtr (jtr (jbr (jtr ?_)))))))))))
 exact jrB Z Z (by first|(exact Zg (by simpa using hc1))|(rw[hdm,show idom.length+1-k=(idom.length-k)+1 by omega,Kf,if_pos hc3])|(rw[hdm,show idom.length+1-k=(idom.length-k)+1 by omega,Kf,if_neg hc3,if_neg (Yx (by simpa using hc4))])|(rw[hdm,show idom.length+1-k=0 by omega];rfl))
 refine jsk (jx (jq (jq (jr (jm Z (jm Z (jc S7 Z Z (L4 b9) (dc d0 dn) (kc k0 kn) (fun _=>p0) (fun _=>p1) fun _=>js (Dv Z) (jn (jx ?_)))))))))
 refine jif Z (fun hc4=>?_) (fun hc4=>?_)
 refine jq (jr (ja Z (jn (jx (jrt (jtr (jbr (jtr (jtr (jbr (jtr ?_)))))))))))
 exact jrB Z Z (by first|(exact Zg (by simpa using hc1))|(rw[hdm,show idom.length+1-k=(idom.length-k)+1 by omega,Kf,if_pos hc3])|(rw[hdm,show idom.length+1-k=(idom.length-k)+1 by omega,Kf,if_neg hc3,if_neg (Yx (by simpa using hc4))])|(rw[hdm,show idom.length+1-k=0 by omega];rfl))
 have hin9:=FD (by simpa using hc4)
 refine jsk (jx (jr (js (jl k0 O22 Z Z) (jm Z (js (jix (i:=b9.toNat) U22 Z3 d0 Z Z (by omega) (by omega)) (js (jlI (dix d0 b9.toNat (by omega)) O3 Z) (ja Z (jn (jbn (jx (jr ?_)))))))))))
 refine js (Ac Z Z (by omega)) (jm Z (jn ?_))
 exact jag (k+1,ix idom b9.toNat) ⟨by dsimp only;omega,by dsimp only;rw[hdm,show idom.length+1-k=(idom.length+1-(k+1))+1 by omega,Kf,if_neg (by assumption),if_pos (FD (by simpa using hc4))]⟩ (dc d0 dn) (kc k0 kn) ⟨Z,Z,Z,Z,Z,eqI (by omega),trivial⟩
 refine jex (jtx (jtx (jbh (jx (jq (jr (ja Z (jn (jx (jrt ?_))))))))))
 exact jrB Z Z (by first|(exact Zg (by simpa using hc1))|(rw[hdm,show idom.length+1-k=(idom.length-k)+1 by omega,Kf,if_pos hc3])|(rw[hdm,show idom.length+1-k=(idom.length-k)+1 by omega,Kf,if_neg hc3,if_neg (Yx (by simpa using hc4))])|(rw[hdm,show idom.length+1-k=0 by omega];rfl))
end Go.Proofs.YtmfkkodnghambaaGreat
namespace Go.JE
def pu(p:Prop):Dt:=⟨fun _=>p,fun _ h=>h⟩
variable{P:Program}{D:List Dt}{L M:List Res}{e:Env}{X:Cx}{n:Fs}{w0:World}{Q:Exit→Act→World→Prop}{ops:Array Oper}{rest:List Oper}{p:Prop}
theorem wpu(h:p):Nd D L (pu p):=fun _ _ _ _ _=>h
theorem jpu(h:Nd D L (pu p))(k:p→LH P n w0 ops Q X D L e rest):LH P n w0 ops Q X D L e rest:=fun F H hp=>k (h F H hp.hin hp.hd hp.ok) F H hp
end Go.JE
namespace Go.Proofs.YtmfkkodnghambaaGreat
open Go.JE
theorem IY:Ent Tryz.prog 183:=⟨_,Tryz.func183,by kernel_rfl,by kernel_rfl⟩
theorem We:One Tryz.prog 125:=⟨_,Tryz.underlying125,rfl⟩
theorem IL:One Tryz.prog 133:=⟨_,Tryz.underlying133,rfl⟩
theorem QU(a:Int){va:Value}{se:List Bool}{n m:Nat}{g1:Nat}{B1:Nat}{vr:Value}{rows:List (List Int)}{g2:Nat}{g3:Nat}{vo:Value}{out:List Int}{g4:Nat}{B4:Nat}(ih:∀(a:Int) {se:List Bool} {out:List Int} {vo:Value},OP n rows se out a→Gu se<m→Tr Tryz.prog 183 #[.int .i64 a,.pointer (some ⟨g1,0,none⟩),.pointer (some ⟨g2,0,none⟩),.pointer (some ⟨g3,0,none⟩),.pointer (some ⟨g4,0,none⟩)] [dv (rL (rL (rI .i64))) vr rows] [gl B1 rB 4 va se,bx g1 129 [va],bx g2 125 [vr],bx g3 133 [.func (.func 183) #[] #[.pointer (some ⟨g1,0,none⟩),.pointer (some ⟨g2,0,none⟩),.pointer (some ⟨g3,0,none⟩),.pointer (some ⟨g4,0,none⟩)]],gl B4 (rI .i64) 3 vo out,bx g4 22 [vo]] (fun _:Value×List Bool×List Int => .tuple #[]) (fun c=>[pu (PO n rows se c.2.2 c.2.1 a)]) (fun _ c=>[gl B1 rB 4 va c.2.1,bx g1 129 [va],bx g2 125 [vr],bx g3 133 [.func (.func 183) #[] #[.pointer (some ⟨g1,0,none⟩),.pointer (some ⟨g2,0,none⟩),.pointer (some ⟨g3,0,none⟩),.pointer (some ⟨g4,0,none⟩)]],gl B4 (rI .i64) 3 c.1 (out++c.2.2),bx g4 22 [c.1]]))(hP:OP n rows se out a)(hm:Gu se≤m):Tr Tryz.prog 183 #[.int .i64 a,.pointer (some ⟨g1,0,none⟩),.pointer (some ⟨g2,0,none⟩),.pointer (some ⟨g3,0,none⟩),.pointer (some ⟨g4,0,none⟩)] [dv (rL (rL (rI .i64))) vr rows] [gl B1 rB 4 va se,bx g1 129 [va],bx g2 125 [vr],bx g3 133 [.func (.func 183) #[] #[.pointer (some ⟨g1,0,none⟩),.pointer (some ⟨g2,0,none⟩),.pointer (some ⟨g3,0,none⟩),.pointer (some ⟨g4,0,none⟩)]],gl B4 (rI .i64) 3 vo out,bx g4 22 [vo]] (fun _:Value×List Bool×List Int => .tuple #[]) (fun c=>[pu (PO n rows se c.2.2 c.2.1 a)]) (fun _ c=>[gl B1 rB 4 va c.2.1,bx g1 129 [va],bx g2 125 [vr],bx g3 133 [.func (.func 183) #[] #[.pointer (some ⟨g1,0,none⟩),.pointer (some ⟨g2,0,none⟩),.pointer (some ⟨g3,0,none⟩),.pointer (some ⟨g4,0,none⟩)]],gl B4 (rI .i64) 3 c.1 (out++c.2.2),bx g4 22 [c.1]]):=by
 refine Af (args:=[.int .i64 a,.pointer (some ⟨g1,0,none⟩),.pointer (some ⟨g2,0,none⟩),.pointer (some ⟨g3,0,none⟩),.pointer (some ⟨g4,0,none⟩)]) Tryz.func183 rfl rfl rfl fun w0 X=>?_
 refine cgo k0 fun w1=>cgo k4 fun w2=>?_
 have hal:=hP.a0
 have hpl:=hP.len
 have hrl:=hP.rl
 have hn5:=hP.n512
 refine jq (jr (js (jl k1 Zr Z Z) (jm Z (js (jig (i:=a.toNat) Fj Z4 k0 Z Z (by omega) (by omega)) (jsg k0 Z Z4 Z Z Z (by omega) wB (jn (jx (jq (jq (jr (js (jl k2 We Z Z) ?_)))))))))))
 refine jm Z (jdq d0 fun q3 w3=>js (jix (i:=a.toNat) Dd Z22 d0 Z Z (by omega) (by omega)) (jev (jlV (dix d0 a.toNat (by omega)) O22 Z Z) fun v14 q4 w4=>js (jln U22 d0 Z) (jm Z (jn (jx (jb ?_))))))
 refine jlp (u5 fun(k:Nat) (se2:List Bool) (l2:List Int) (o2:List Int) (vo2:Value)=>⟨k≤(ix rows a.toNat).length∧OV n rows (se.set a.toNat true) l2 se2 (fun v=>v∈(ix rows a.toNat))∧(∀t∈(ix rows a.toNat).take k,ix se2 t.toNat=true)∧o2=out++l2,[dv (rL (rI .i64)) v14 (ix rows a.toNat),dv (rL (rL (rI .i64))) vr rows],[gl B1 rB 4 va se2,bx g1 129 [va],bx g2 125 [vr],bx g3 133 [.func (.func 183) #[] #[.pointer (some ⟨g1,0,none⟩),.pointer (some ⟨g2,0,none⟩),.pointer (some ⟨g3,0,none⟩),.pointer (some ⟨g4,0,none⟩)]],gl B4 (rI .i64) 3 vo2 o2,bx g4 22 [vo2]],[(0,.int .i64 a),(1,.pointer (some ⟨g1,0,none⟩)),(3,.pointer (some ⟨g3,0,none⟩)),(4,.pointer (some ⟨g4,0,none⟩)),(14,v14),(15,.int .i64 (↑(List.length (ix rows a.toNat)))),(16,.int .i64 (↑k))],(ix rows a.toNat).length-k⟩) (0,List.set se a.toNat true,[],out,vo) ⟨by dsimp only;omega,OV.beg (by rw[List.length_set];exact hP.len),(fun t h=>by cases h),by simp⟩ (dc d0 (dc d1 dn)) (kd (kd (kd kn))) ⟨Z,Z,Z,Z,Z,Z,eqI (by omega),trivial⟩ ?_
 rintro⟨k,se2,l2,o2,vo2⟩;dsimp only[u5];rintro⟨hk,hov,hdn,hoo⟩
 refine cgo k4 fun w6=>?_
 have hsl:=hov.len
 have hol:o2.length≤512:=by rw[hoo];exact hP.olen hov
 refine jq (jr (js (Ai Z Z) (jn (jx (jq ?_)))))
 refine jif Z (fun hc1=>?_) (fun hc1=>?_)
 have hr2:=hP.rows a.toNat (ix (ix rows a.toNat) k) (Ax (by omega))
 refine jsk (jx (jq (jb (jq (jr (js (jix U22 Z3 d0 Z Z Z (by omega)) (js (jlI (dix d0 k (by omega)) O3 Z) (ja Z (jn (jx (jq ?_)))))))))))
 refine jr (js (jl k1 Zr Z Z) (jm Z (js (jig (i:=(Int.toNat (ix (ix rows a.toNat) k))) Fj Z4 k0 Z Z (by omega) (by omega)) (js (jgB k0 (by omega) O4 Z) (js (Dv Z) (jn (jx ?_)))))))
 refine jif Z (fun hc2=>?_) (fun hc2=>?_)
 have hP2:OP n rows se2 o2 (ix (ix rows a.toNat) k):=by rw[hoo];exact hP.next hov (Ax (l:=ix rows a.toNat) (i:=k) (by omega)) (by simpa using hc2)
 have hlt2:=Nat.lt_of_lt_of_le (hP.less hov) hm
 have hr2:=hP.rows a.toNat (ix (ix rows a.toNat) k) (Ax (by omega))
 refine jr (js (jl k3 IL Z Z) (jm Z (jc IY Z Z (ih (ix (ix rows a.toNat) k) hP2 hlt2) (dc d1 dn) (kd (kd (kd kn))) (fun _=>p1) (fun _=>p6) fun c27=>jpu d0 fun ho27=>jgo k4 fun w8=>jn (jbn (jx (jr (js (Ac Z Z (by omega)) (jm Z ?_))))))))
 refine jn ?_
 exact jag (k+1,c27.2.1,l2++c27.2.2,(o2++c27.2.2),c27.1) ⟨by dsimp only;omega,hov.tr hP.rows (ho27.ov.weak (fun v h=>by subst h;exact Ax (by omega))),by dsimp only;exact QV (by omega) hdn (fun t ht=>hP.rows _ t ht) ho27.ov ho27.mem,by dsimp only;rw[hoo,List.append_assoc]⟩ (dc d1 (dc d2 dn)) (kd (kd (kd kn))) ⟨Z,Z,Z,Z,Z,Z,eqI (by omega),trivial⟩
 refine jsk (jbn (jx (jr (js (Ac Z Z (by omega)) (jm Z (jn ?_))))))
 exact jag (k+1,se2,l2,o2,vo2) ⟨by dsimp only;omega,hov,by dsimp only;exact CV (by omega) hdn (by simpa using hc2),hoo⟩ (dc d0 (dc d1 dn)) (kd (kd (kd kn))) ⟨Z,Z,Z,Z,Z,Z,eqI (by omega),trivial⟩
 refine jex (jtx (jtx (jbh (jx (jr (js (jl k5 O22 Z Z) (jm Z (Hz U22 I3 (by decide) Z Z k4 Z (wI (wp (IntWalk.i64_in _ (by omega)))) (by omega) (fun _=>Z) fun v32 _ w9=>jst k5 Z22 Z Z w9.one s0 (jn ?_)))))))))
 exact jd0 Z (v32,se2,l2++[a]) Z (dc (wpu ⟨⟨l2,rfl⟩,OV.done hP.len hP.a0 hP.no hov (fun t ht=>hdn t (by rw[List.take_of_length_le (by omega)];exact ht))⟩) dn) (fun _ _=>(kc k2 (kc k2 (kc k2 (kc k2 (kcg (by rw[hoo,List.append_assoc]) k1 (kc k0 kn)))))))
theorem IZ:Ent Tryz.prog 182:=⟨_,Tryz.func182,by kernel_rfl,by kernel_rfl⟩
theorem r0:Ent Tryz.prog 184:=⟨_,Tryz.func184,by kernel_rfl,by kernel_rfl⟩
theorem IH:Sz Tryz.prog 125 1:=by unfold Sz;kernel_rfl
theorem j4:Sz Tryz.prog 133 1:=by unfold Sz;kernel_rfl
theorem IM:(Tryz.prog.info? 125).bind (·.zero)=some (.slice none 0 0):=by kernel_rfl
theorem l6:(Tryz.prog.info? 129).bind (·.zero)=some (.slice none 0 0):=by kernel_rfl
theorem l5:(Tryz.prog.info? 133).bind (·.zero)=some (.nilFunc):=by kernel_rfl
theorem J22:(Tryz.prog.info? 22).bind (·.zero)=some (.slice none 0 0):=by kernel_rfl
theorem CU{g1 g2 g3 g4 B1 B4 n:Nat}{va vr:Value}{rows:List (List Int)}:∀(k:Nat) (a:Int) {se:List Bool} {out:List Int} {vo:Value},OP n rows se out a→Gu se<k→Tr Tryz.prog 183 #[.int .i64 a,.pointer (some ⟨g1,0,none⟩),.pointer (some ⟨g2,0,none⟩),.pointer (some ⟨g3,0,none⟩),.pointer (some ⟨g4,0,none⟩)] [dv (rL (rL (rI .i64))) vr rows] [gl B1 rB 4 va se,bx g1 129 [va],bx g2 125 [vr],bx g3 133 [.func (.func 183) #[] #[.pointer (some ⟨g1,0,none⟩),.pointer (some ⟨g2,0,none⟩),.pointer (some ⟨g3,0,none⟩),.pointer (some ⟨g4,0,none⟩)]],gl B4 (rI .i64) 3 vo out,bx g4 22 [vo]] (fun _:Value×List Bool×List Int => .tuple #[]) (fun c=>[pu (PO n rows se c.2.2 c.2.1 a)]) (fun _ c=>[gl B1 rB 4 va c.2.1,bx g1 129 [va],bx g2 125 [vr],bx g3 133 [.func (.func 183) #[] #[.pointer (some ⟨g1,0,none⟩),.pointer (some ⟨g2,0,none⟩),.pointer (some ⟨g3,0,none⟩),.pointer (some ⟨g4,0,none⟩)]],gl B4 (rI .i64) 3 c.1 (out++c.2.2),bx g4 22 [c.1]])
 | 0,_,_,_,_,_,h=>absurd h (Nat.not_lt_zero _)
 | k+1,a,_,_,_,hP,h=>QU (m:=k) a (fun a _ _ _ hP h=>CU k a hP h) hP (by omega)
theorem CX{a0:Value}{g:List (List Int)}(hn:0<g.length∧g.length≤512)(hw:∀b,b<g.length→∃w,RB (fun q t=>(t:Int)∈ix (Bl g) q) w b):Tr Tryz.prog 166 #[a0] [dv (rL (rL (rI .i64))) a0 g] [] (fun c:Value×List Int=>c.1) (fun c=>[dv (rL (rI .i64)) c.1 c.2,pu (OD g.length (Bl g) c.2)]) (fun _ _=>[]):=by
 refine Af (args:=[a0]) Tryz.func166 rfl rfl rfl fun w0 X=>?_
 have hcr:=Ud g
 have hcl:=Ue g
 have hP:=QY (n:=g.length) (rows:=Bl g) hn hcl hcr
 refine jq (jr (ja Z (jn (jx (jq (jq (jr (jm Z (jdq d0 fun q1 w1=>js (jln Dd d0 Z) (js (Aj Z Z) ?_))))))))))
 refine jn (jx ?_)
 refine jif Z (fun hc1=>?_) (fun hc1=>?_)
 exact absurd hc1 (by omega)
 refine jsk (jx (jq (jr (jm Z (jcd IZ Z Z HC (dc d0 dn) kn fun v11 q2 w2=>Bg IM Z fun g3=>jst k0 IH Z Z w2.one s0 (jn (jx (jq (jr ?_)))))))))
 refine jm Z (js (jln Dd d1 Z) (jmk (m:=g.length) (r:=rB) Fj I4 Z Z Z Z Z (by omega) wB Z fun g14=>Bg l6 Z fun g4=>jst k0 Q5 Z Z Z s0 (jn (jx (jq (jr (Bg J22 Z fun g5=>jn (jx ?_))))))))
 refine jq (jr (Bg l5 Z fun g6=>jn (jx (jq (jr (js (UL Z Z Z Z) (jst k0 j4 Z Z Z s0 (jn (jx (jq ?_))))))))))
 refine jr (js (jl k0 IL Z Z) (jnl (r:=(rI .i64)) (E:=3) (jc IY Z Z (CU (n:=g.length) (rows:=Bl g) (Gu (List.replicate g.length false)+1) 0 hP (Nat.lt_succ_self _)) (dc d0 dn) (kc k4 (kc k3 (kc k3 (kc k1 (kd kn))))) (fun _=>p1) (fun _=>p6) fun c17=>jpu d0 fun ho17=>jgo k4 fun w5=>?_)))
 have hoP:=ho17
 refine jn (jx (jq (jr (js (jl k5 O22 Z Z) (jc r0 Z Z (NN (by have:=hoP.len hn.2;simpa using this)) dn (kc k4 kn) (fun _=>p0) (fun _=>p1) fun _=>jn (jx (jq (jr (js (jl k5 O22 Z Z) (ja Z ?_))))))))))
 refine jn (jx (jrt (qfz k0 (by have:=hoP.len hn.2;simpa[Kr] using this) ?_)))
 exact jr1 Z Z (c17.1,Kr ([]++c17.2.2)) Z (dc d0 (dc (wpu (hoP.od hn.1 hcr hw)) dn)) (fun _ _=>kn)
end Go.Proofs.YtmfkkodnghambaaGreat
namespace Go.JE
variable{P:Program}{e:Env}{H:Heap}
section
variable{g:Nat}{z:Value}{f:Int→Value}
end
section
variable{α:Type}{r:Rp α}{F:PH}{B:Nat}{v:Value}{l:List α}
end
end Go.JE
namespace Go.JE
variable{P:Program}{n:Fs}{w0:World}{Q:Exit→Act→World→Prop}{e:Env}{H:Heap}
abbrev RW(ro:Option Nat):Fence:={ Fence.wide with round:=ro }
def NO(Q:Exit→Act→World→Prop):Exit→Act→World→Prop
 | .outgrown,_,_=>False
 | x,a,w=>Q x a w
theorem NO.imp{Q:Exit→Act→World→Prop}:∀(x:Exit) (a:Act) (w:World),NO Q x a w→Q x a w:=fun x a w h=>by
 cases x<;>first|exact h|exact(h:False).elim
theorem NO.lets{Q:Exit→Act→World→Prop}(h:LetsOut (NO Q)):False:=by obtain⟨_,_,h⟩:=h;exact h
def Kx(o:Oper):Bool:=match o.op with | .defer _=>false|_=>true
theorem HE{ro:Option Nat}{m:Nat}{f:FuncId}{args:Array Value}{w:World}{R:Ending→World→Prop}(h:Calls P f args w R):CallsIn (RW ro) m P f args w R :=
 show CallsIn Fence.wide m P f args w R from callsIn_wide.2 h
theorem NF{ro:Option Nat}{m:Nat}{row:String}{args:Array Value}{w:World}{R:Value→World→Prop}(h:Rows P row args w R):RowsIn (RW ro) m P row args w R :=
 fun c cs _=>let ⟨v,w',r,s⟩:=h c cs;⟨v,w',r,stepsIn_wide.2 s⟩
theorem U0{Q:Exit→Act→World→Prop}{ro:Option Nat}{m:Nat}{o:Oper}{a:Act}{next next':Act→World→Prop}(hk:∀a w,next a w→next' a w):∀r,o.upon P a next (NO Q) r→o.uponIn (RW ro) m P a next' (NO Q) r:=by
 intro r h
 unfold Oper.upon at h
 unfold Oper.uponIn
 split at h
 ·exact hk _ _ h
 ·exact hk _ _ h
 ·exact hk _ _ h
 ·refine⟨fun h0=>(by simp[Fence.wide] at h0),(HE h).mono fun x w' hx=>?_⟩
  cases x with
  | returned v=>exact hk _ _ hx
  | panicked c=>exact hx
  | outgrown=>exact hx
 ·exact⟨fun h0=>(by simp[Fence.wide] at h0),(NF h).mono fun v w' hx=>hk _ _ hx⟩
 ·exact h
 ·exact h.elim
theorem ED{Q:Exit→Act→World→Prop}{ro:Option Nat}{m:Nat}{ops:Array Oper}:∀(l:List Oper),l.all Kx=true→∀a w,wpList P ops (NO Q) l a w→wpListIn (RW ro) m P ops (NO Q) l a w
 | [],_,_,_,h=>h
 | o::l,hd,a,w,h=>by
  simp only[List.all_cons,Bool.and_eq_true] at hd
  have ih:∀a w,wpList P ops (NO Q) l a w→wpListIn (RW ro) m P ops (NO Q) l a w:=ED l hd.2
  simp only[wpList] at h
  simp only[wpListIn]
  split at h
  ·rename_i hw
   rw[if_pos hw]
   rcases h with h|⟨_,h⟩
   ·refine⟨fun _ _=>trivial,?_⟩
    rw[Oper.semAt_eq _ _ _ (fun c hc=>by have:=hd.1;simp[Kx,hc] at this)]
    exact U0 (fun a w h=>ih a w h) _ h
   ·exact(NO.lets h).elim
  ·rename_i hw
   rw[if_neg hw]
   exact⟨fun _ _=>trivial,ih _ _ h⟩
def RCF(P:Program)(n:Fs)(w0:World)(ro:Option Nat)(m:Nat)(Q:Exit→Act→World→Prop)(e:Env)(c:Code)(H:Heap):Prop :=
 ∀a w,Fr n e a→Wd w0 H w→c.wpIn (RW ro) m P Q a w
section code
variable{x y:Code}{id:Nat}{l:List Oper}{ro:Option Nat}{m:Nat}
theorem RCF.region(h:LF P n w0 l.toArray (NO Q) e l H)(hd:l.all Kx=true:=by kernel_rfl):RCF P n w0 ro m Q e (.region id l.toArray false) H :=
 fun a w hf hw=>wpIn_mono (wpIn_region_lit (ED l hd a w (h a w hf hw))) NO.imp
theorem RLF.nil{ops:Array Oper}(h:PF n w0 Q e .normal H):LF P n w0 ops (NO Q) e [] H:=fun a w hf hw=>wpList_nil (h a w hf hw)
theorem RCF.seq(h:RCF P n w0 ro m (Exit.then (y.wpIn (RW ro) m P Q) Q) e x H):RCF P n w0 ro m Q e (.seq x y) H:=fun a w hf hw=>wpIn_seq (h a w hf hw)
theorem RPF.next(h:RCF P n w0 ro m Q e y H):PF n w0 (Exit.then (y.wpIn (RW ro) m P Q) Q) e .normal H:=h
theorem RCF.block(h:RCF P n w0 ro m (Exit.inBlock id Q) e x H):RCF P n w0 ro m Q e (.block id x) H:=fun a w hf hw=>wpIn_block (h a w hf hw)
theorem RCF.out(h:RCF P n w0 none m Q e x H):CF P n w0 Q e x H:=fun a w hf hw=>(wpIn_wide (n:=m)).1 (show x.wpIn Fence.wide m P Q a w from h a w hf hw)
end code
def Wc(P:Program)(e:Env)(op:Op)(H:Heap)(l:Nat)(args:Array Value):Prop :=
 ∀(ρ:Operand→Value) (o:Oper) (w:World),o.op=op→(∀x u,ev e x=some u→ρ x=u)→w.heap=H→(execOp ρ o).run P w=(Instr.yield l args).run P w
theorem Wc.call{g:Operand}{l:Nat}{xs:List Operand}{vs:List Value}{ts:Array TypeId}(hf:ev e g=some (.func (.yield l) #[] #[]))(hl:evl e xs=some vs) :
  Wc P e (.call { callee := .value g,args:=xs.toArray,argTypes:=ts }) H l vs.toArray:=by
 intro ρ o w ho hev _
 have h1:xs.toArray.map ρ=vs.toArray:=by rw[←N5 hev xs vs hl];simp
 simp only[execOp,ho,resolve,h1,hev _ _ hf,Deferred.ofValue]
 simp only[Sem.run_bind,Sem.run_pure,Result.andThen_ok,invoke]
 simp
section yield
variable{ops:Array Oper}{op:Op}{d:Nat}{ty:TypeId}{pos:String}{af:Array Edge}{rest:List Oper}{m:Nat}
theorem JN{l:Nat}{args:Array Value}{R:Ending→World→Prop}{a:Act}{w:World}(hf:Fr n e a)(hw:w.heap=H)(h:Wc P e op H l args)(hy:YieldAt (RW none) (m-1) P l args w R)
  (hR:∀x w',R x w'→∃v,x = .returned v∧wpListIn (RW none) m P ops Q rest (a.put (some d) v) w') :
  wpListIn (RW none) m P ops Q (⟨some d,op,ty,pos,af,none⟩::rest) a w:=by
 obtain⟨fn,tmps,assign,body,h1,h2⟩:=hy
 refine wpListIn_plain rfl fun K hK=>?_
 refine⟨fun _ _=>trivial,?_⟩
 have hs:(Oper.semAt (RW none).round a.eval ⟨some d,op,ty,pos,af,none⟩).run P w = .ok (.round l fn tmps assign body) w:=by
  show(execOp a.eval ⟨some d,op,ty,pos,af,none⟩).run P w=_
  rw[h a.eval _ w rfl (fun x u hx=>hf.ev hx) hw,h1]
 rw[hs]
 refine⟨fun h0=>(by simp[Fence.wide] at h0),h2.mono fun x w' hx=>?_⟩
 obtain⟨v,rfl,h3⟩:=hR x w' hx
 exact hK _ _ h3
end yield
def RQ{α:Type}(w0:World)(H:Heap)(bl:List Nat)(inv:List α→Heap→Prop)(ys:List α)(Hs:Heap):Exit→Act→World→Prop
 | .normal,_,w=>Wd w0 w.heap w∧Hs.size≤w.heap.size∧(∀k,H.size≤k→k<Hs.size→w.heap[k]? = Hs[k]?)∧(∀k∈bl,w.heap[k]? = Hs[k]?)∧inv ys w.heap
 | _,_,_=>False
def AQ(n:Fs)(w0:World)(l:Env)(H:Heap):Exit→Act→World→Prop
 | .normal,a,w=>Fr n l a∧Wd w0 H w
 | _,_,_=>False
theorem PF.assigned{l:Env}(hs:Sub e l):PF n w0 (AQ n w0 l H) e .normal H:=fun _ _ hf hw=>⟨hf.sub hs,hw⟩
def laid(e:Env):List Nat→List Value→Env
 | p::ps,v::vs=>laid ((p,v)::e) ps vs
 | _,_=>e
theorem EE{m:Nat}:∀(ps:List Nat) (vs:List Value) (e:Env) (t:Array Value),ps.all (fun p=>Nat.blt p m)=true→Fr ⟨m,[]⟩ e { tmps:=t,defers:=[] } →
  Fr ⟨m,[]⟩ (laid e ps vs) { tmps:=(ps.zip vs).foldl (fun t p=>t.setIfInBounds p.1 p.2) t,defers:=[] }
 | [],[],_,_,_,h=>h
 | [],_::_,_,_,_,h=>h
 | _::_,[],_,_,_,h=>h
 | p::ps,v::vs,e,t,hp,h=>by
  simp only[List.all_cons,Bool.and_eq_true] at hp
  exact EE ps vs ((p,v)::e) _ hp.2 (h.put (n:=⟨m,[]⟩) hp.1 v)
abbrev Fs.mark(n:Fs)(D:Nat):Fs:=⟨n.sz,{ target := .collected D,args:=#[] }::n.ds⟩
section func
variable{f:FuncId}{fn:Func}{c:Code}{R:Value→Heap→Prop}
def BQM(P:Program)(fn:Func)(w0:World)(R:Value→Heap→Prop):Exit→Act→World→Prop :=
 bodyPostM Fence.wide 3 P fn fun x w'=>∃v,x = .returned v∧w'.os=w0.os∧w'.tape=w0.tape∧w'.output=w0.output∧R v w'.heap
theorem Ct.enterM{args:List Value}{n:Nat}(hf:P.funcs[f]? = some fn)(hb:fn.body=some c)(hn:fn.ntmps=n)(ha:Nat.ble args.length n=true)
  (h:∀w0:World,w0.heap=H→CF P ⟨n,[]⟩ w0 (BQM P fn w0 R) (Kv 0 args) c H):Ct P f args.toArray H R:=by
 intro w hw
 refine callsIn_wide.1 (callsIn_of_wp_marks (n:=3) hf hb trivial ?_ rfl)
 have ha':args.length≤n:=by simpa[Nat.ble_eq] using ha
 refine wpIn_wide.2 (h w hw _ w ⟨?_,rfl,?_⟩ ⟨hw,rfl,rfl,rfl⟩)
 ·simp[hn];omega
 ·intro t v hv
  obtain⟨i,h1,h2⟩:=Tc args 0 t v hv
  have hi:i<args.length:=(List.getElem?_eq_some_iff.1 h2).1
  have e1:t=i:=by omega
  subst e1
  simp only[Array.getD_eq_getD_getElem?]
  rw[Array.getElem?_append_left (by simpa using hi)]
  simp[h2]
def Sj(H:Heap)(D:Nat)(o:Obj):Heap:=H.setIfInBounds D o
theorem PF.ret1M{m D t:Nat}{v:Value}(hr:fn.results=#[.tmp t])(hv:lk e t=some v)(hD:H[D]? = some (.deferred (some [])))(hR:R v (Sj H D (.deferred none))):PF (Fs.mark ⟨m,[]⟩ D) w0 (BQM P fn w0 R) e .ret H:=by
 intro a w hf hw
 have hd:=hf.defers
 have hD':w.heap[D]? = some (.deferred (some [])):=by rw[hw.heap];exact hD
 show LeavesInM Fence.wide 3 P fn a.tmps _ a.defers .returning w
 rw[hd]
 refine⟨by simp,.inl ⟨_,_,rfl,run_takeDeferred hD',?_⟩⟩
 refine⟨v,?_,?_⟩
 ·rw[results_tmp hr,hf.get t v hv]
 ·exact⟨v,rfl,hw.os,hw.tape,hw.output,by show R v (w.heap.setIfInBounds D _);rw[hw.heap];exact hR⟩
end func
end Go.JE
namespace Go.JE
variable{P:Program}{n:Fs}{Q:Exit→Act→World→Prop}{e:Env}{w:World}{m:Nat}
def YL(P:Program)(n:Fs)(ops:Array Oper)(Q:Exit→Act→World→Prop)(m:Nat)(e:Env)(l:List Oper)(w:World):Prop:=∀a,Fr n e a→wpListIn (RW none) m P ops Q l a w
def YC(P:Program)(n:Fs)(Q:Exit→Act→World→Prop)(m:Nat)(e:Env)(c:Code)(w:World):Prop:=∀a,Fr n e a→c.wpIn (RW none) m P Q a w
def YP(n:Fs)(Q:Exit→Act→World→Prop)(e:Env)(x:Exit)(w:World):Prop:=∀a,Fr n e a→Q x a w
section ops
variable{ops:Array Oper}{op:Op}{d:Nat}{ty:TypeId}{pos:String}{af:Array Edge}{rest:List Oper}{v:Value}
theorem YL.nil(h:YP n Q e .normal w):YL P n ops Q m e [] w:=fun a hf=>wpListIn_nil (h a hf)
theorem YL.step(h:Aa P e op w.heap v)(K:YL P n ops Q m ((d,v)::e) rest w)(hd:Nat.blt d n.sz=true:=by rfl)(hn:Kx ⟨some d,op,ty,pos,af,none⟩=true:=by rfl) :
  YL P n ops Q m e (⟨some d,op,ty,pos,af,none⟩::rest) w:=by
 intro a hf
 refine wpListIn_plain rfl fun K' hK'=>⟨fun _ _=>trivial,?_⟩
 rw[Oper.semAt_eq _ _ _ (fun c hc=>by simp only at hc;subst hc;cases hn),h a.eval _ w rfl (fun x u hx=>hf.ev hx) rfl]
 exact hK' _ _ (K _ (hf.put hd v))
theorem YL.yield{l:Nat}{args:Array Value}{R:Ending→World→Prop}(h:Wc P e op w.heap l args)(hy:YieldAt (RW none) (m-1) P l args w R)
  (K:∀x w',R x w'→∃v,x = .returned v∧YL P n ops Q m ((d,v)::e) rest w') (hd:Nat.blt d n.sz=true:=by rfl) :
  YL P n ops Q m e (⟨some d,op,ty,pos,af,none⟩::rest) w:=by
 intro a hf
 refine JN hf rfl h hy fun x w' hx=>?_
 obtain⟨v,rfl,h2⟩:=K x w' hx
 exact⟨v,rfl,h2 _ (hf.put hd v)⟩
end ops
section code
variable{x y:Code}{id:Nat}{l:List Oper}
theorem YC.region(h:YL P n l.toArray Q m e l w):YC P n Q m e (.region id l.toArray false) w:=fun a hf=>wpIn_region_lit (h a hf)
theorem YC.seq(h:YC P n (Exit.then (y.wpIn (RW none) m P Q) Q) m e x w):YC P n Q m e (.seq x y) w:=fun a hf=>wpIn_seq (h a hf)
theorem YP.next(h:YC P n Q m e y w):YP n (Exit.then (y.wpIn (RW none) m P Q) Q) e .normal w:=h
theorem YC.block(h:YC P n (Exit.inBlock id Q) m e x w):YC P n Q m e (.block id x) w:=fun a hf=>wpIn_block (h a hf)
theorem YC.skip(h:YP n Q e .normal w):YC P n Q m e .skip w:=fun a hf=>wpIn_skip (h a hf)
theorem YC.exit(h:YP n Q e (.exit id) w):YC P n Q m e (.exit id) w:=fun a hf=>wpIn_exit (h a hf)
theorem YC.ret(h:YP n Q e .ret w):YC P n Q m e .ret w:=fun a hf=>wpIn_ret (h a hf)
theorem YC.if{c:Operand}{b:Bool}{p q:Prop}(hc:ev e c=some (.bool b))[hb:BoolP b p q](ht:p→YC P n Q m e x w)(hf:q→YC P n Q m e y w):YC P n Q m e (.cond c x y) w:=by
 intro a hfr
 exact wpIn_cond_split (hfr.ev hc) (fun h=>ht (hb.pos h) a hfr) (fun h=>hf (hb.neg h) a hfr)
theorem YP.thenExit{K:Act→World→Prop}(h:YP n Q e (.exit id) w):YP n (Exit.then K Q) e (.exit id) w:=h
theorem YP.thenRet{K:Act→World→Prop}(h:YP n Q e .ret w):YP n (Exit.then K Q) e .ret w:=h
theorem YP.blockNormal(h:YP n Q e .normal w):YP n (Exit.inBlock id Q) e .normal w:=h
theorem YP.blockRet(h:YP n Q e .ret w):YP n (Exit.inBlock id Q) e .ret w:=h
theorem YP.blockHere(h:YP n Q e .normal w):YP n (Exit.inBlock id Q) e (.exit id) w:=fun a hf=>by
 show(if id=id then _ else _);rw[if_pos rfl];exact h a hf
def II{ι:Type}(n:Fs)(inv:ι→World→Prop)(env:ι→Env)(μ:ι→Nat)(i:ι)(a:Act)(w:World):Prop:=∃j,inv j w∧Fr n (env j) a∧μ j<μ i
theorem YC.loop{ι:Type}(inv:ι→World→Prop)(env:ι→Env)(μ:ι→Nat)(i0:ι)(h0:inv i0 w)(hs:Sub e (env i0))
  (round:∀i w',inv i w'→YC P n (Exit.then (II n inv env μ i) Q) m (env i) x w'):YC P n Q m e (.loop x) w:=by
 intro a hf
 let I:Nat→Act→World→Prop:=fun k a w=>∃i,μ i=k∧inv i w∧Fr n (env i) a
 refine wpIn_loop (fun a w=>∃k,I k a w) (fun a w=>leastOf (fun k=>I k a w)) ⟨μ i0,i0,rfl,h0,hf.sub hs⟩ ?_
 intro a w hI
 obtain⟨i,hm,hi,hfi⟩:=(leastOf_spec hI).1
 refine wpIn_mono (round i w hi a hfi) ?_
 intro z a' w' hq
 cases z with
 | normal =>
  obtain⟨j,h1,h2,h3⟩:=hq
  have hJ:∃k,I k a' w':=⟨μ j,j,rfl,h1,h2⟩
  exact⟨hJ,Nat.lt_of_le_of_lt ((leastOf_spec hJ).2 (μ j) ⟨j,rfl,h1,h2⟩) (hm▸h3)⟩
 | exit id=>exact hq
 | goto l=>exact hq
 | ret=>exact hq
 | panic ch=>exact hq
 | outgrown=>exact hq
theorem YP.again{ι:Type}{inv:ι→World→Prop}{env:ι→Env}{μ:ι→Nat}{i:ι}(j:ι)(hj:inv j w)(hs:Sub e (env j))(hm:μ j<μ i) :
 YP n (Exit.then (II n inv env μ i) Q) e .normal w:=fun _ hf=>⟨j,hj,hf.sub hs,hm⟩
end code
section func
variable{f:FuncId}{fn:Func}{c:Code}{R:Ending→World→Prop}
theorem YC.enter{args:List Value}{k:Nat}(hf:P.funcs[f]? = some fn)(hb:fn.body=some c)(hn:fn.ntmps=k)(ha:Nat.ble args.length k=true)
  (h:YC P ⟨k,[]⟩ (bodyPost P fn R) m (Kv 0 args) c w):CallsIn (RW none) m P f args.toArray w R:=by
 refine callsIn_of_wp hf hb trivial ?_ rfl
 have ha':args.length≤k:=by simpa[Nat.ble_eq] using ha
 refine h _ ⟨?_,rfl,?_⟩
 ·simp[hn];omega
 ·intro t v hv
  obtain⟨i,h1,h2⟩:=Tc args 0 t v hv
  have hi:i<args.length:=(List.getElem?_eq_some_iff.1 h2).1
  have e1:t=i:=by omega
  subst e1
  simp only[Array.getD_eq_getD_getElem?]
  rw[Array.getElem?_append_left (by simpa using hi)]
  simp[h2]
theorem YP.ret0{k:Nat}(hr:fn.results=#[])(hR:R (.returned (.tuple #[])) w):YP ⟨k,[]⟩ (bodyPost P fn R) e .ret w:=fun _ hf=>bodyPost_ret (results_none hr _ _ _) hf.defers hR
theorem YP.end0{k:Nat}(hr:fn.results=#[])(hR:R (.returned (.tuple #[])) w):YP ⟨k,[]⟩ (bodyPost P fn R) e .normal w:=fun _ hf=>bodyPost_end (results_none hr _ _ _) hf.defers hR
end func
end Go.JE
namespace Go.JE
variable{P:Program}{n:Fs}{w0:World}{Q:Exit→Act→World→Prop}{e:Env}{H:Heap}
def Cg(N:Nat)(H1 H2:Heap):Prop:=H1.size≤H2.size∧∀k o,H1[k]? = some o→(k<N∨o.isCells=true)→H2[k]? = some o
section
variable{N:Nat}{H1 H2:Heap}
theorem InH.cg{F:PH}(h:InH F H1)(hF:InH F H)(c:Cg H.size H1 H2):InH F H2:=fun k o hk=>c.2 k o (h k o hk) (.inl (hF.lt hk))
theorem Kw.cg{W:Nat→Prop}{H0:Heap}(h:Kw W H0 H1)(hs:H0.size≤N)(c:Cg N H1 H2):Kw W H0 H2:=by
 refine⟨Nat.le_trans h.1 c.1,fun k hk hw=>?_⟩
 rw[←h.2 k hk hw]
 have:k<H1.size:=Nat.lt_of_lt_of_le hk h.1
 rw[c.2 k _ (Array.getElem?_eq_getElem this) (.inl (by omega)),Array.getElem?_eq_getElem this]
end
def Mk(H:Heap)(D:Nat):Prop:=H[D]? = some (.deferred (some []))
section
variable{D:Nat}{H':Heap}
theorem Mk.lt(h:Mk H D):D<H.size:=(Array.getElem?_eq_some_iff.1 h).1
theorem Mk.of(h:Mk H D)(hb:H'[D]? = H[D]?):Mk H' D:=by unfold Mk at *;rw[hb];exact h
end
section
variable{N:Nat}{H1 H2 H3:Heap}
theorem Gl.isc{α:Type}{r:Rp α}{E:TypeId}{F:PH}{B:Nat}{v:Value}{l:List α}(hg:Gl r E F H B v l){k:Nat}(hk:v.ownBlock=some k){o:Obj}(h:H[k]? = some o):o.isCells=true:=by
 obtain⟨xs,hr,_⟩:=hg
 rcases hr.2 with⟨h9,_⟩|⟨c,cap,cur,e1,_,hb,_⟩
 ·rw[h9] at hk;cases hk
 ·rw[e1] at hk
  have hcb:c=k:=by injection hk
  rw[hcb,h] at hb;injection hb with hb;subst hb;rfl
end
section
variable{fn:Func}{R:Value→Heap→Prop}
end
theorem all_cons{p:Nat→Prop}{D:Nat}{Ds:List Nat}(h:p D)(t:∀D∈Ds,p D):∀E∈D::Ds,p E:=fun E hE=>by
 rcases List.mem_cons.1 hE with rfl|hE
 ·exact h
 ·exact t E hE
section
variable{x:Code}
end
section
variable{r:Nat}{H':Heap}
end
section
variable{P:Program}{e:Env}{H:Heap}
end
end Go.JE
namespace Go.JE
variable{P:Program}{n:Fs}{w0:World}{Q:Exit→Act→World→Prop}{e:Env}{H:Heap}{X:Cx}{D Ds:List Dt}{L M Ls:List Res}
theorem RS(Q:Exit→Act→World→Prop):NoP (NO Q)=NO (NoP Q):=by
 funext x a w;cases x<;>rfl
theorem QZ{ro:Option Nat}{m:Nat}{ops:Array Oper}(hd:∀(i:Nat) (o:Oper),ops[i]? = some o→Kx o=true){K K':Act→World→Prop}(hK:∀a w,K a w→K' a w){i:Nat}{a:Act}{w:World}(h:wpOp P ops (NO Q) i K a w):wpOpIn (RW ro) m P ops (NO Q) i K' a w:=by
 unfold wpOp at h
 unfold wpOpIn
 cases ho:ops[i]? with
 | none=>rw[ho] at h;exact hK _ _ h
 | some o =>
  rw[ho] at h
  dsimp only at h ⊢
  split at h
  ·rename_i hw
   rw[if_pos hw]
   rcases h with h|⟨_,h⟩
   ·refine⟨fun _ _=>trivial,?_⟩
    rw[Oper.semAt_eq _ _ _ (fun c hc=>by have:=hd i o ho;simp[Kx,hc] at this)]
    exact U0 hK _ h
   ·exact(NO.lets h).elim
  ·rename_i hw
   rw[if_neg hw]
   exact⟨fun _ _=>trivial,hK _ _ h⟩
theorem IB{ro:Option Nat}{m:Nat}{ops:Array Oper}(hd:∀(i:Nat) (o:Oper),ops[i]? = some o→Kx o=true):∀(fuel:Nat) (listed:Array Bool) (a:Act) (w:World),wpAny P .any ops (NO Q) fuel listed a w→wpAnyIn (RW ro) m P .any ops (NO Q) fuel listed a w
 | 0,_,_,_,h=>h
 | fuel+1,_,_,_,h=>⟨h.1,fun i hi=>QZ hd (fun a w h=>IB hd fuel _ a w h) (h.2 i hi)⟩
theorem RCF.any{id:Nat}{l:List Oper}{z:Bool}{ro:Option Nat}{m:Nat}(S:Heap→Prop)(hm:P.follows .mixedOrders=true)(hd:l.all Kx=true)(h:AF P n w0 l.toArray (NO Q) z S l.length (Array.replicate l.length false) e H):RCF P n w0 ro m Q e (.region id l.toArray true) H:=by
 intro a w hf hw
 have h1:=h a _ hf hw.drew
 rw[RS] at h1
 have hd':∀(i:Nat) (o:Oper),l.toArray[i]? = some o→Kx o=true:=fun i o ho=>List.all_eq_true.1 hd o (List.mem_of_getElem? (by simpa using ho))
 refine wpIn_mono (wpIn_region_any hm (IB hd' _ _ _ _ (Hr.any (z:=z) (S:=fun w=>S w.heap) _ _ _ _ ?_))) (fun x a w h=>NoP.imp _ _ _ (NO.imp _ _ _ h))
 simpa using h1
def RCH(P:Program)(n:Fs)(w0:World)(ro:Option Nat)(m:Nat)(Q:Exit→Act→World→Prop)(X:Cx)(D:List Dt)(L:List Res)(e:Env)(c:Code):Prop:=∀F H,Hp X D L F H→RCF P n w0 ro m Q e c H
section
variable{ro:Option Nat}{m:Nat}{x y:Code}{id:Nat}{l:List Oper}
theorem NY(z:Bool)(is:Od)(hm:P.follows .mixedOrders=true)(hO:(okO l.toArray z (Array.replicate l.length false) is&&(Region.noSelect l.toArray&&decide (l.length=is.sz)))=true)(hk:Tks L Ls M)(hd:l.all Kx=true)
  (h:∀FS,AH P n w0 l (NO Q) z X FS D Ls is D L e):RCH P n w0 ro m Q X D L e (.region id l.toArray true):=fun F H hp=>by
 simp only[Bool.and_eq_true,decide_eq_true_eq] at hO
 refine RCF.any (z:=z) (SS X F Ls) hm hd ?_
 have:=h F F H (PH.le.refl F) hp.hd hp (.inl ⟨F,PH.le.refl F,hp.sub dn hk⟩) hO.2.1 _ hO.1
 rw[hO.2.2] at this ⊢
 exact this
theorem rb(h:RCH P n w0 ro m (Exit.inBlock id Q) X D L e x):RCH P n w0 ro m Q X D L e (.block id x):=fun F H hp=>RCF.block (h F H hp)
end
def Kq(Ow:Heap→Nat→Prop)(A B:Heap):Prop:=A.size≤B.size∧(∀k o,A[k]? = some o→o.isCells=true→¬Ow A k→B[k]? = some o)∧∀k,Ow B k→Ow A k∨A.size≤k
theorem Kq.trans{Ow:Heap→Nat→Prop}{A B C:Heap}(h:Kq Ow A B)(h2:Kq Ow B C):Kq Ow A C:=by
 refine⟨Nat.le_trans h.1 h2.1,fun k o hk hc ho=>?_,fun k hk=>?_⟩
 ·have hlt:=(Array.getElem?_eq_some_iff.1 hk).1
  refine h2.2.1 k o (h.2.1 k o hk hc ho) hc fun h9=>?_
  rcases h.2.2 k h9 with h8|h8
  ·exact ho h8
  ·omega
 ·rcases h2.2.2 k hk with h9|h9
  ·exact h.2.2 k h9
  ·exact .inr (Nat.le_trans h.1 h9)
def R8{α:Type}(P:Program)(g:Nat)(lb:Array Value)(encs:α→Array Value)(Ow:Heap→Nat→Prop)(xs:List α)(H:Heap):Prop :=
 ∀w0:World,w0.heap=H→SeqStopsK (RW none) 2 P g lb encs (fun W W'=>Kq Ow W.heap W'.heap) (fun ys=>ys=xs) (fun _=>True) xs.length w0
def RQ3{σ:Type}(w0:World)(X2:Cx)(J:σ→Prop)(L:σ→List Res):Exit→Act→World→Prop
 | .normal,_,w=>Wd w0 w.heap w∧∃s F,J s∧Hp X2 [] (L s) F w.heap
 | _,_,_=>False
theorem G1{σ:Type}{X2:Cx}{J:σ→Prop}{Lf:σ→List Res}(s:σ)(hJ:J s)(hk:Tks L (Lf s) []):QH n w0 (RQ3 w0 X2 J Lf) X2 D L e .normal:=fun F H hp a w hf hw=>by
 refine⟨⟨rfl,hw.os,hw.tape,hw.output⟩,s,F,hJ,?_⟩
 rw[hw.heap]
 obtain⟨o1,_,_⟩:=hk.ok hp.ok
 exact⟨hp.hx,hp.hin,hp.hw,trivial,o1,fun k h=>hp.ge k (hk.own (.inl h))⟩
theorem Hp.cg{F:PH}{H0 H1 H2:Heap}(h:Hp X D L F H1)(hF:InH F H0)(hs:X.H.size≤H0.size)(hc:∀k,Own L k→∃o,H1[k]? = some o∧o.isCells=true)(c:Cg H0.size H1 H2):Hp X D L F H2 :=
 ⟨h.hx,h.hin.cg hF c,h.hw.cg hs c,h.hd,h.ok.st (PH.le.refl F) c.1 (fun k hk=>h.ok.no hk) (fun k hk=>by obtain⟨o,h1,h2⟩:=hc k hk;rw[h1,c.2 k o h1 (.inr h2)]),h.ge⟩
theorem CH.rangeFunc{α σ:Type}{g:Operand}{ps:List Nat}{assign body:Code}{gf go:Nat}{lb:Array Value}{encs:α→List Value}{xs:List α}(envx:α→Env)
  (Lf:σ→List Res) (Ow:Heap→Nat→Prop) (inv:List α→σ→Prop) (s0:σ) (hg:ev e g=some (.func (.func gf) #[] lb)) (hE:Ent P gf) (hlen:∀x,(encs x).length=ps.length)
  (hps:ps.all (fun p=>Nat.blt p n.sz)=true)
  (hOw:∀pre s F A,inv pre s→Ok F A (Lf s)→∀k,Own (Lf s) k↔Ow A k) (hOc:∀pre s F A,inv pre s→Ok F A (Lf s)→∀k,Own (Lf s) k→∃o,A[k]? = some o∧o.isCells=true) (hOd:∀pre s F G A,inv pre s→F.le G→Ok G A (Lf s)→Ok F A (Lf s)) (hOg:∀A B:Heap,B[go]? = A[go]? → ∀k,Ow B k→Ow A k)
  (hit:∀F H,Hp X D (Lf s0) F H→R8 P gf lb (fun x=>(encs x).toArray) Ow xs H∧go<H.size) (h0:inv [] s0)
  (hassign:∀(l:Nat) (x:α) (H':Heap),RCF P ⟨n.sz,[]⟩ w0 (some l) 1 (AQ ⟨n.sz,[]⟩ w0 (envx x) H') (laid e ps (encs x)) assign H')
  (hbody:∀(l:Nat) (pre:List α) (x:α) (s:σ) (X2:Cx),inv pre s→pre.length<xs.length→RCH P ⟨n.sz,[]⟩ w0 (some l) 1 (RQ3 w0 X2 (inv (pre++[x])) Lf) X2 D (Lf s) (envx x) body)
  (hdone:∀(M9:Nat) (s:σ) (F:PH) (H H':Heap),inv xs s→InH F H→H.size≤M9→X.H.size≤M9→Hp X D (Lf s) F H'→Mk H' M9→PF (n.mark M9) w0 Q e .normal H') :
  CH P n w0 Q X D (Lf s0) e (.rangeFunc g ps.toArray assign body):=by
 intro F0 H hp
 obtain⟨hit,hgo⟩:=hit F0 H hp
 refine RCF.out (m:=3) fun a w hf hw=>?_
 have hw':=hw.heap
 have hB:w.heap.size=H.size:=by rw[hw']
 have hsX:X.H.size≤H.size:=hp.hw.1
 refine wpIn_rangeFunc_ownH (α:=α) (F:=RW none) (n:=3) (gf:=gf) (lb:=lb) (encs:=fun x=>(encs x).toArray) (Kp:=fun W W'=>Kq Ow W.heap W'.heap) (S:=fun ys=>ys=xs) (Sp:=fun _=>True) (N:=xs.length) (w0:=w)
  rfl (by decide) (hf.ev hg) trivial (fun args w=>hE.run args w) (hit w hw') (fun h1 h2=>h1.trans h2)
  (fun W l o o' hl ho hc _=>?putobj) (RowKit.Below.refl _ _) (fun x=>by simp[hlen])
  (fun pre W=>Wd w0 W.heap W∧H.size≤W.heap.size∧∃s,inv pre s∧Hp X D (Lf s) F0 W.heap) (fun _ _ _=>False) ?own (fun _ _ _ _ _ h _ _=>h) ⟨⟨rfl,hw.os,hw.tape,hw.output⟩,by omega,s0,h0,by rw[hw'];exact hp⟩
  (fun x a' _=>Fr ⟨n.sz,[]⟩ (envx x) a') (fun _ _ _ _ _ _ h _ _=>h) ?assign ?body ?done ?stop
 case putobj =>
  have hne:∀k,k≠l→(W.putObj l o').heap[k]? = W.heap[k]? := fun k hk=>World.putObj_heap_other hk
  refine⟨by simp[World.putObj],fun k o2 hk hc2 _=>?_,fun k hk => .inl (hOg _ _ (hne go (by omega)) k hk)⟩
  rw[hne k (fun e1=>by subst e1;rw[ho] at hk;injection hk with hk;subst hk;rw[hc] at hc2;cases hc2)];exact hk
 case own =>
  rintro pre W W' row ⟨h1,h2,s,h3,h4⟩ hg' hr
  refine⟨⟨rfl,hg'.os.trans h1.os,hg'.tape.trans h1.tape,hg'.output.trans h1.output⟩,Nat.le_trans h2 hg'.size,s,h3,h4.cg hp.hin hsX (hOc pre s F0 _ h3 h4.ok) ⟨hg'.size,fun k o hk hc=>?_⟩⟩
  refine(hg'.block k (Array.getElem?_eq_some_iff.1 hk).1 (fun e1=>?_)).trans hk
  obtain⟨h5,o',h6,h7⟩:=hr k e1.symm
  rcases hc with hc|hc
  ·omega
  ·rw[hk] at h6;injection h6 with h6;subst h6;rw[hc] at h7;cases h7
 case assign =>
  rintro l pre x W K ⟨h1,h2,h3⟩ hK
  have hfr:Fr ⟨n.sz,[]⟩ (laid e ps (encs x)) { tmps:=(ps.toArray.zip (encs x).toArray).foldl (fun t p=>t.setIfInBounds p.1 p.2) a.tmps,defers:=[] }:=by
   have:=EE ps (encs x) e a.tmps hps ⟨hf.size,rfl,hf.get⟩
   simpa using this
  refine wpIn_mono (hassign l x W.heap _ W hfr h1) ?_
  intro z a' W' hz
  cases z with
  | normal =>
   obtain⟨h4,h5⟩:=hz
   have h6:W'.heap=W.heap:=h5.heap
   refine hK a' W' ⟨by rw[h6];exact Nat.le_refl _,fun k o _ hk _=>by rw[h6];exact hk⟩ ?_ ⟨⟨rfl,h5.os,h5.tape,h5.output⟩,by rw[h6];exact h2,by rw[h6];exact h3⟩ h4
   show Kq Ow W.heap W'.heap
   rw[h6]
   exact⟨Nat.le_refl _,fun _ _ h _ _=>h,fun _ h => .inl h⟩
  | _=>exact hz
 case body =>
  rintro l pre x a' W _ _ ⟨h1,h2,s,h3,h4⟩ hfr hlt
  have hp2:Hp ⟨Own (Lf s),W.heap,F0⟩ D (Lf s) F0 W.heap:=⟨PH.ext.refl F0,h4.hin,Kw.refl _ _,h4.hd,h4.ok,fun k hk => .inr hk⟩
  refine wpIn_mono (hbody l pre x s ⟨Own (Lf s),W.heap,F0⟩ h3 hlt F0 W.heap hp2 a' W hfr h1) ?_
  intro z a2 W' hz
  cases z with
  | normal =>
   obtain⟨h5,s',F',h6,h7⟩:=hz
   have hle:F0.le F':=h7.hx.1
   have hkw:Kw (Own (Lf s)) W.heap W'.heap:=h7.hw
   have ho':Ok F0 W'.heap (Lf s'):=hOd _ s' F0 F' _ h6 hle h7.ok
   have hown:=hOw _ s F0 W.heap h3 h4.ok
   have hown':=hOw _ s' F0 W'.heap h6 ho'
   refine⟨⟨hkw.1,fun k o hk ho hc=>?_⟩,⟨hkw.1,fun k o hk hc hno=>?_,fun k hk=>?_⟩,h5,Nat.le_trans h2 hkw.1,s',h6,?_⟩
   ·refine(hkw.2 k (Array.getElem?_eq_some_iff.1 ho).1 fun h9=>?_).trans ho
    obtain⟨o2,h8,h10⟩:=hOc _ s F0 _ h3 h4.ok k h9
    rw[ho] at h8;injection h8 with h8;subst h8;rw[hc] at h10;cases h10
   ·exact(hkw.2 k (Array.getElem?_eq_some_iff.1 hk).1 fun h9=>hno ((hown k).1 h9)).trans hk
   ·rcases h7.ge k ((hown' k).2 hk) with h9|h9
    ·exact .inr h9
    ·exact .inl ((hown k).1 h9)
   ·refine⟨h4.hx,fun k o hk=>h7.hin k o (hle k o hk),h4.hw.kw hkw fun k hk1 hk2=>(h4.ge k hk2).resolve_left (by omega),h4.hd,ho',fun k hk=>?_⟩
    rcases h7.ge k hk with h9|h9
    ·exact .inl (Nat.le_trans h4.hw.1 h9)
    ·exact h4.ge k h9
  | _=>exact hz.elim
 case done =>
  rintro M9 ys W hD rfl ⟨h1,h2,s,h3,h4⟩ hK
  exact hdone M9 s F0 H W.heap h3 hp.hin (by omega) (by omega) h4 hK _ W ⟨hf.size,by simp[hf.defers],hf.get⟩ h1
 case stop =>
  rintro M9 c pre W _ _ h _
  exact h.elim
end Go.JE
namespace Go.JE
variable{P:Program}{n:Fs}{Q:Exit→Act→World→Prop}{e:Env}{w:World}{m:Nat}{F:PH}{D:List Dt}
section
variable{ops:Array Oper}{op:Op}{d:Nat}{ty:TypeId}{pos:String}{af:Array Edge}{rest:List Oper}{v:Value}
theorem yo(hin:InH F w.heap)(hd:AllD F D)(h:OH P D [] e op v)(K:YL P n ops Q m ((d,v)::e) rest w)(hs:Nat.blt d n.sz=true:=by rfl)(hn:Kx ⟨some d,op,ty,pos,af,none⟩=true:=by rfl):YL P n ops Q m e (⟨some d,op,ty,pos,af,none⟩::rest) w:=YL.step (h F _ hin hd trivial) K hs hn
theorem ye{q:Value→PH→Prop}(hin:InH F w.heap)(hd:AllD F D)(h:OE P D [] e op q)(K:∀v,q v F→YL P n ops Q m ((d,v)::e) rest w)(hs:Nat.blt d n.sz=true:=by rfl)(hn:Kx ⟨some d,op,ty,pos,af,none⟩=true:=by rfl):YL P n ops Q m e (⟨some d,op,ty,pos,af,none⟩::rest) w:=by
 obtain⟨v,h1,h2⟩:=h F _ hin hd trivial
 exact YL.step h1 (K v h2) hs hn
theorem YL.call{f:FuncId}{args:Array Value}{R:Value→Heap→Prop}(h:Lc P e op w.heap f args)(hc:Ct P f args w.heap R)(K:∀v (w':World),w'.os=w.os→w'.tape=w.tape→w'.output=w.output→R v w'.heap→YL P n ops Q m ((d,v)::e) rest w')(hs:Nat.blt d n.sz=true:=by rfl)(hn:Kx ⟨some d,op,ty,pos,af,none⟩=true:=by rfl) :
  YL P n ops Q m e (⟨some d,op,ty,pos,af,none⟩::rest) w:=by
 intro a hf
 refine wpListIn_plain rfl fun K' hK'=>⟨fun _ _=>trivial,?_⟩
 rw[Oper.semAt_eq _ _ _ (fun c hc=>by simp only at hc;subst hc;cases hn),h a.eval _ w rfl (fun x u hx=>hf.ev hx) rfl]
 refine⟨fun h0=>(by simp[Fence.wide] at h0),(HE (hc w rfl)).mono fun x w' hx=>?_⟩
 obtain⟨v,rfl,h1,h2,h3,h4⟩:=hx
 exact hK' _ _ (K v w' h1 h2 h3 h4 _ (hf.put hs v))
end
def PH.cl(F:PH):PH:=fun k=>match F k with
 | some o=>if o.isCells=true then some o else none
 | none=>none
theorem PH.cl_some{F:PH}{k:Nat}{o:Obj}(h:F.cl k=some o):F k=some o∧o.isCells=true:=by
 unfold PH.cl at h
 split at h
 ·rename_i o' h1
  split at h
  ·rename_i h2;injection h with h;subst h;exact⟨h1,h2⟩
  ·cases h
 ·cases h
theorem PH.cl_pc(F:PH)(b o:Nat):pc F.cl b o=pc F b o:=by
 unfold pc PH.cl
 cases h:F b with
 | none=>rfl
 | some x =>
  cases x<;>simp[Obj.isCells]
theorem InH.cl{F:PH}{H:Heap}(h:InH F H):InH F.cl H:=fun k o hk=>h k o (PH.cl_some hk).1
theorem AI{F:PH}{v:Value}{k:IntKind}{l:List (List Int)}(h:(rL (rL (rI k))).rv F v l):(rL (rL (rI k))).rv F.cl v l:=by
 obtain⟨h0,a,cap,h1,h2,h3,g,h4,h5⟩:=h
 refine⟨h0,a,cap,h1,h2,h3,g,fun i hi=>by rw[PH.cl_pc];exact h4 i hi,fun i hi=>?_⟩
 obtain⟨p0,a',cap',p1,p2,p3,g',p4,p5⟩:=h5 i hi
 exact⟨p0,a',cap',p1,p2,p3,g',fun j hj=>by rw[PH.cl_pc];exact p4 j hj,p5⟩
structure Lie(Ow:Heap→Nat→Prop)(F:PH)(H:Heap):Prop where
 hin:InH F H
 cel:∀k o,F k=some o→o.isCells=true
 no:∀k o,F k=some o→¬Ow H k
theorem Lie.kq{Ow:Heap→Nat→Prop}{F:PH}{H H':Heap}(h:Lie Ow F H)(hk:Kq Ow H H'):Lie Ow F H':=by
 refine⟨fun k o hF=>hk.2.1 k o (h.hin k o hF) (h.cel k o hF) (h.no k o hF),h.cel,fun k o hF ho=>?_⟩
 rcases hk.2.2 k ho with h9|h9
 ·exact h.no k o hF h9
 ·have:=(Array.getElem?_eq_some_iff.1 (h.hin k o hF)).1;omega
end Go.JE
namespace Go.Proofs.YtmfkkodnghambaaGreat
open Go.JE
theorem YI{F:PH}{H:Heap}{g1 go:Nat}{vg:Value}{g:List (List Int)}{Ow:Heap→Nat→Prop}(hin:InH F H)(hb:Bx H g1 125 [vg])(hd:(rL (rL (rI .i64))).rv F vg g)
  (hOg:∀A B:Heap,B[go]? = A[go]? → ∀k,Ow B k→Ow A k) (hgo:go<H.size) (hOl:∀k,Ow H k→k<H.size) (hOF:∀k,Ow H k→F k=none) :
  R8 Tryz.prog 190 #[.pointer (some ⟨g1,0,none⟩)] (fun x:Ed g.length=>(Vy x).toArray) Ow (Gt g) H:=by
 rintro w0 rfl lr J Jx W hW hJ hJx hY h0
 have hkW:∀k,k<w0.heap.size→W.heap[k]? = w0.heap[k]? := fun k hk=>hW.block k hk
 have hOW:∀k,Ow W.heap k→Ow w0.heap k:=hOg _ _ (hkW go hgo)
 have hFin:InH F.cl W.heap:=fun k o hk=>by
  have h1:=hin.cl k o hk
  rw[hkW k (Array.getElem?_eq_some_iff.1 h1).1];exact h1
 have hWsz:w0.heap.size≤W.heap.size:=hW.size
 have hbW:Bx W.heap g1 125 [vg]:=hb.of (hkW g1 hb.lt)
 have hdW:=AI hd
 refine YC.enter (args:=[.func (.yield lr) #[] #[],.pointer (some ⟨g1,0,none⟩)]) Tryz.func190 rfl rfl rfl ?_
 refine YC.seq ?_
 refine YC.region ?_
 refine YL.step (Aa.ldBx hbW We rfl rfl) ?_
 refine YL.call (Lc.fnc (cs:=[]) IZ rfl (Zf Z)) (HC F.cl W.heap hFin ⟨hdW,trivial⟩ trivial) ?_
 rintro v8 W1 e1 e2 e3 ⟨_,F1,rfl,hr1⟩
 have hp1:=hr1 _ (Nat.le_refl _)
 have hkw1:=hp1.hw
 have hgr:W.grownBy W1 none:=⟨e1,e2,e3,hkw1.1,fun k hk _=>hkw1.2 k hk id⟩
 have hJ1:J [] W1:=hJ _ _ _ _ h0 hgr (fun r hr=>by cases hr)
 have hD:AllD F1.cl [dv (rL (rL (rI .i64))) v8 (Bl g)]:=⟨AI hp1.hd.1,trivial⟩
 have hOW1:∀k,Ow W1.heap k→Ow w0.heap k:=fun k hk=>hOW k (hOg _ _ (hkw1.2 go (by show go<W.heap.size;omega) id) k hk)
 have hlie:Lie Ow F1.cl W1.heap:=by
  refine⟨hp1.hin.cl,fun k o hk=>(PH.cl_some hk).2,fun k o hk ho=>?_⟩
  have h2:=hOW1 k ho
  have h3:=hOl k h2
  have h4:=(PH.cl_some hk).1
  rw[hp1.hx.2 k (by show k<W.heap.size;omega)] at h4
  have h5:=(PH.cl_some h4).1
  rw[hOF k h2] at h5;cases h5
 clear hr1 hp1 hkw1 hgr e1 e2 e3
 have hcl:=Ue g
 have hxl:=N8 (g:=g)
 have hq:=rL.len hD.1
 rw[hcl] at hq
 refine yo hlie.hin hD (jln Dd d0 Z) ?_
 refine YL.step (Aa.move rfl) ?_
 refine YL.nil ?_
 refine YP.next ?_
 refine YC.block ?_
 refine YC.loop (ι:=Nat) (fun k W'=>k≤g.length∧J ((Gt g).take (Dl (Bl g) k).length) W'∧Lie Ow F1.cl W'.heap)
  (fun k=>[(0,.func (.yield lr) #[] #[]),(8,v8),(9,.int .i64 ((Bl g).length:Nat)),(10,.int .i64 (k:Int))]) (fun k=>g.length-k) 0 ⟨Nat.zero_le _,by simpa[Dl] using hJ1,hlie⟩ ⟨rfl,rfl,rfl,rfl,trivial⟩ ?_
 rintro k W2 ⟨hk,hJ2,hl2⟩
 refine YC.seq ?_
 refine YC.region ?_
 refine yo hl2.hin hD (Ai Z Z) ?_
 refine YL.nil ?_
 refine YP.next ?_
 refine YC.seq ?_
 refine YC.if rfl (fun hc1=>?_) (fun hc1=>?_)
 ·refine YC.skip ?_
  refine YP.next ?_
  refine YC.seq ?_
  refine YC.block ?_
  refine YC.seq ?_
  refine YC.region ?_
  refine YL.step (Aa.move rfl) ?_
  refine yo hl2.hin hD (jix (i:=k) Dd Z22 d0 Z Z Z (by omega)) ?_
  refine ye hl2.hin hD (jlV (dix d0 k (by omega)) O22 Z Z) fun v14 hv14=>?_
  have hD2:AllD F1.cl [dv (rL (rI .i64)) v14 (ix (Bl g) k)]:=⟨hv14,trivial⟩
  refine YL.step (Aa.assign rfl) ?_
  refine YL.step (Aa.assign rfl) ?_
  refine YL.nil ?_
  refine YP.next ?_
  refine YC.seq ?_
  refine YC.region ?_
  refine YL.step (Aa.move rfl) ?_
  refine yo hl2.hin hD2 (jln U22 d0 Z) ?_
  refine YL.step (Aa.move rfl) ?_
  refine YL.nil ?_
  refine YP.next ?_
  refine YC.block ?_
  refine YC.loop (ι:=Nat) (fun j W'=>j≤(ix (Bl g) k).length∧J ((Gt g).take ((Dl (Bl g) k).length+j)) W'∧Lie Ow F1.cl W'.heap)
   (fun j=>[(0,.func (.yield lr) #[] #[]),(3,.int .i64 (k:Int)),(8,v8),(9,.int .i64 ((Bl g).length:Nat)),(10,.int .i64 (k:Int)),(15,v14),(16,.int .i64 ((ix (Bl g) k).length:Nat)),(17,.int .i64 (j:Int))]) (fun j=>(ix (Bl g) k).length-j) 0 ⟨Nat.zero_le _,by simpa using hJ2,hl2⟩ ⟨rfl,rfl,rfl,rfl,rfl,rfl,rfl,rfl,trivial⟩ ?_
  rintro j W3 ⟨hj,hJ3,hl3⟩
  refine YC.seq ?_
  refine YC.region ?_
  refine yo hl3.hin hD2 (Ai Z Z) ?_
  refine YL.nil ?_
  refine YP.next ?_
  refine YC.seq ?_
  refine YC.if rfl (fun hc2=>?_) (fun hc2=>?_)
  ·have hjl:j<(ix (Bl g) k).length:=by omega
   obtain⟨hp1,hp2⟩:=YN (rows:=Bl g) (n:=g.length) (k:=k) (j:=j) (by omega) hjl
   have hpx:(Dl (Bl g) k).length+j<(Gt g).length:=by omega
   have hxv:(Gt g)[(Dl (Bl g) k).length+j].val=((k:Int),ix (ix (Bl g) k) j):=(GO hpx).trans (hp2 hp1)
   have hsn:(Gt g).take ((Dl (Bl g) k).length+j)++[(Gt g)[(Dl (Bl g) k).length+j]]=(Gt g).take ((Dl (Bl g) k).length+(j+1)):=(List.take_succ_eq_append_getElem hpx).symm
   refine YC.skip ?_
   refine YP.next ?_
   refine YC.seq ?_
   refine YC.block ?_
   refine YC.seq ?_
   refine YC.region ?_
   refine yo hl3.hin hD2 (jix (i:=j) U22 Z3 d0 Z Z Z hjl) ?_
   refine yo hl3.hin hD2 (jlI (dix d0 j hjl) O3 Z) ?_
   refine YL.step (Aa.assign rfl) ?_
   refine YL.nil ?_
   refine YP.next ?_
   refine YC.seq ?_
   refine YC.region ?_
   refine YL.step (Aa.move rfl) ?_
   refine YL.step (Aa.move rfl) ?_
   refine YL.step (Aa.move rfl) ?_
   have hy:=hY ((Gt g).take ((Dl (Bl g) k).length+j)) (Gt g)[(Dl (Bl g) k).length+j] W3 hJ3 (by rw[List.length_take];omega)
   refine YL.yield (l:=lr) (args:=(Vy (Gt g)[(Dl (Bl g) k).length+j]).toArray) (Wc.call rfl (show some [Value.int .i64 (k:Int),Value.int .i64 (ix (ix (Bl g) k) j)]=some (Vy (Gt g)[(Dl (Bl g) k).length+j]) by unfold Vy;rw[hxv])) hy ?_
   rintro z W4 (⟨rfl,hJ4,hk4⟩|⟨rfl,hJx4⟩)
   ·rw[hsn] at hJ4
    have hl4:Lie Ow F1.cl W4.heap:=hl3.kq hk4
    refine⟨_,rfl,?_⟩
    refine YL.step (Aa.not rfl) ?_
    refine YL.nil ?_
    refine YP.next ?_
    refine YC.if rfl (fun hc3=>absurd hc3 (by simp)) (fun hc3=>?_)
    refine YC.skip ?_
    refine YP.blockNormal ?_
    refine YP.next ?_
    refine YC.region ?_
    refine yo hl4.hin hD2 (Ac Z Z (by have:=rL.len hv14;omega)) ?_
    refine YL.step (Aa.move rfl) ?_
    refine YL.nil ?_
    exact YP.again (j+1) ⟨by omega,hJ4,hl4⟩ ⟨rfl,rfl,rfl,rfl,rfl,rfl,rfl,eqI (by omega),trivial⟩ (by omega)
   ·refine⟨_,rfl,?_⟩
    refine YL.step (Aa.not rfl) ?_
    refine YL.nil ?_
    refine YP.next ?_
    refine YC.if rfl (fun hc3=>?_) (fun hc3=>absurd hc3 (by simp))
    refine YC.ret ?_
    repeat' first|refine YP.blockRet ?_|refine YP.thenRet ?_
    exact YP.ret0 rfl ⟨⟨_,rfl⟩,.inr ⟨_,trivial,hJx4⟩⟩
  ·have hje:j=(ix (Bl g) k).length:=by omega
   subst hje
   refine YC.exit ?_
   refine YP.thenExit ?_
   refine YP.thenExit ?_
   refine YP.blockHere ?_
   refine YP.blockNormal ?_
   refine YP.next ?_
   refine YC.region ?_
   refine YL.step (Aa.add rfl rfl (by omega)) ?_
   refine YL.step (Aa.move rfl) ?_
   refine YL.nil ?_
   exact YP.again (k+1) ⟨by omega,by rw[GM];exact hJ3,hl3⟩ ⟨rfl,rfl,rfl,eqI (by omega),trivial⟩ (by omega)
 ·have hke:k=g.length:=by omega
  subst hke
  rw[←hxl,List.take_length] at hJ2
  refine YC.exit ?_
  refine YP.thenExit ?_
  refine YP.thenExit ?_
  refine YP.blockHere ?_
  exact YP.end0 rfl ⟨⟨_,rfl⟩,.inl ⟨_,rfl,hJ2⟩⟩
end Go.Proofs.YtmfkkodnghambaaGreat
namespace Go.JE
variable{P:Program}{n:Fs}{w0:World}{Q:Exit→Act→World→Prop}{e:Env}{H:Heap}{X:Cx}{D D0:List Dt}{L L0 M N:List Res}{M9:Nat}
def mkR(M9:Nat):Res where
 sat F H:=Mk H M9∧F M9=none
 own k:=k=M9
 lt:=fun h e=>e▸h.1.lt
 no:=fun h e=>e▸h.2
 st:=fun _ _ h1 h2 h=>⟨h.1.of (h2 M9 rfl),h1 M9 rfl⟩
theorem crf{α σ:Type}{g:Operand}{ps:List Nat}{assign body:Code}{gf go:Nat}{lb:Array Value}{encs:α→List Value}{xs:List α}(envx:α→Env)
  (Lf:σ→List Res) (Ow:Heap→Nat→Prop) (inv:List α→σ→Prop) (s0:σ) (hg:ev e g=some (.func (.func gf) #[] lb)) (hE:Ent P gf) (hlen:∀x,(encs x).length=ps.length)
  (hps:ps.all (fun p=>Nat.blt p n.sz)=true)
  (hOw:∀pre s F A,inv pre s→Ok F A (Lf s)→∀k,Own (Lf s) k↔Ow A k) (hOc:∀pre s F A,inv pre s→Ok F A (Lf s)→∀k,Own (Lf s) k→∃o,A[k]? = some o∧o.isCells=true) (hOd:∀pre s F G A,inv pre s→F.le G→Ok G A (Lf s)→Ok F A (Lf s)) (hOg:∀A B:Heap,B[go]? = A[go]? → ∀k,Ow B k→Ow A k)
  (hit:∀F H,InH F H→AllD F D→Ok F H (Lf s0)→R8 P gf lb (fun x=>(encs x).toArray) Ow xs H∧go<H.size) (h0:inv [] s0)
  (hassign:∀(l:Nat) (x:α) (H':Heap),RCF P ⟨n.sz,[]⟩ w0 (some l) 1 (AQ ⟨n.sz,[]⟩ w0 (envx x) H') (laid e ps (encs x)) assign H')
  (hbody:∀(l:Nat) (pre:List α) (x:α) (s:σ) (X2:Cx),inv pre s→pre.length<xs.length→RCH P ⟨n.sz,[]⟩ w0 (some l) 1 (RQ3 w0 X2 (inv (pre++[x])) Lf) X2 D (Lf s) (envx x) body)
  (hdone:∀(M9:Nat) (s:σ),inv xs s→X.H.size≤M9→QH (n.mark M9) w0 Q X D (mkR M9::Lf s) e .normal) :
  CH P n w0 Q X D (Lf s0) e (.rangeFunc g ps.toArray assign body):=by
 refine CH.rangeFunc envx Lf Ow inv s0 hg hE hlen hps hOw hOc hOd hOg (fun F H hp=>hit F H hp.hin hp.hd hp.ok) h0 hassign hbody (fun M9 s F H H' hi hF hM hX hp hMk=>?_)
 intro a w hf hw
 have hs:=hp.hw.1
 have hFn:F M9=none:=by
  cases h:F M9 with
  | none=>rfl
  | some o=>have:=(Array.getElem?_eq_some_iff.1 (hF M9 o h)).1;omega
 refine hdone M9 s hi hX F H' ⟨hp.hx,hp.hin,hp.hw,hp.hd,⟨⟨hMk,hFn⟩,fun k hk ho=>?_,hp.ok⟩,fun k hk=>?_⟩ a w hf hw
 ·have hk':k=M9:=hk
  subst hk'
  obtain⟨o,h1,h2⟩:=hOc _ s F H' hi hp.ok k ho
  unfold Mk at hMk
  rw[hMk] at h1;injection h1 with h1;subst h1;cases h2
 ·rcases hk with hk|hk
  ·have hk':k=M9:=hk
   subst hk';exact .inl hX
  ·exact hp.ge k hk
section
variable{f:FuncId}{fn:Func}{c:Code}{args:List Value}{ι:Type}{val:ι→Value}{dr:ι→List Dt}{lr:Nat→ι→List Res}
def RQM(P:Program)(fn:Func)(w0:World)(X:Cx){ι:Type}(val:ι→Value)(dr:ι→List Dt)(lr:Nat→ι→List Res):Exit→Act→World→Prop:=BQM P fn w0 (fun v H'=>∃i F',v=val i∧∀B,B≤X.n→Hp X (dr i) (lr B i) F' H')
theorem UW{m:Nat}(hf:P.funcs[f]? = some fn)(hb:fn.body=some c)(hn:fn.ntmps=m)(ha:Nat.ble args.length m=true)
  (h:∀(w0:World) (X:Cx),CH P ⟨m,[]⟩ w0 (RQM P fn w0 X val dr lr) X D0 L0 (Kv 0 args) c):Tr P f args.toArray D0 L0 val dr lr:=fun F H hin hd ho =>
 Ct.enterM hf hb hn ha fun w0 hw=>h w0 ⟨Own L0,H,F⟩ F H ⟨PH.ext.refl F,hin,Kw.refl _ _,hd,ho,fun k hk => .inr hk⟩
theorem Hp.unmark{F:PH}(hp:Hp X D L F H)(hk:Tk L (mkR M9) M)(hX:X.H.size≤M9):Hp X D M F (Sj H M9 (.deferred none)):=by
 obtain⟨⟨h1,h2⟩,h3,h4⟩:=hk.ok hp.ok
 have ho:∀k,k≠M9→(Sj H M9 (.deferred none))[k]? = H[k]? := fun k hk=>by
  unfold Sj;exact Array.getElem?_setIfInBounds_ne (fun e=>hk e.symm)
 have hsz:(Sj H M9 (.deferred none)).size=H.size:=by unfold Sj;simp
 refine⟨hp.hx,hp.hin.of (fun k o hF=>ho k (fun e=>by subst e;rw[h2] at hF;cases hF)),⟨by rw[hsz];exact hp.hw.1,fun k hk1 hk2=>(ho k (by omega)).trans (hp.hw.2 k hk1 hk2)⟩,hp.hd,h4.st (PH.le.refl F) (by rw[hsz];exact Nat.le_refl _) (fun k hk1=>h4.no hk1) (fun k hk1=>ho k (fun e=>by subst e;exact h3 k rfl hk1)),fun k hk1=>hp.ge k (hk.own (.inr hk1))⟩
theorem jrM{m t:Nat}{v:Value}(hr:fn.results=#[.tmp t])(hv:lk e t=some v)(hmk:Tk L (mkR M9) M)(i:ι)(hm:v=val i)(hd:Sd D M (dr i))(hk:∀B,B≤X.n→Tks M (lr B i) N)(hX:X.H.size≤M9):QH (Fs.mark ⟨m,[]⟩ M9) w0 (RQM P fn w0 X val dr lr) X D L e .ret:=fun F H hp=>by
 have hp2:=hp.unmark hmk hX
 exact PF.ret1M hr hv (hmk.ok hp.ok).1.1 ⟨i,F,hm,fun B hB=>hp2.sub hd (hk B hB)⟩
end
end Go.JE
namespace Go.JE
variable{P:Program}{n:Fs}{w0:World}{Q:Exit→Act→World→Prop}{e:Env}{H A:Heap}{X:Cx}{D D0:List Dt}{L L0 M N:List Res}{F G:PH}{k:Nat}
def OwM(a b go:Nat)(A:Heap)(k:Nat):Prop:=k=a∨k=b∨k=go∨∃cur E,A[go]? = some (.cells cur E (0,0))∧∃v∈cur.toList,v.ownBlock=some k
theorem OwM.go{a b go:Nat}{A B:Heap}(h:B[go]? = A[go]?){k:Nat}(hk:OwM a b go B k):OwM a b go A k:=by
 unfold OwM at *
 rw[h] at hk;exact hk
section
variable{α:Type}{r:Rp α}{T To Ta Tb:TypeId}{B a b go m:Nat}{va vb:Value}{vs:List Value}{ls:List (List α)}
abbrev Lm(a:Nat)(Ta:TypeId)(va:Value)(b:Nat)(Tb:TypeId)(vb:Value)(B:Nat)(r:Rp α)(T To:TypeId)(go m:Nat)(s:List Value×List (List α)):List Res :=
 [bx a Ta [va],bx b Tb [vb],rw' B r T s.1 s.2,gl B rV To (.slice (some ⟨go,0,none⟩) m m) s.1]
theorem CT:∀{vs:List Value} {ls:List (List α)},vs.length=ls.length→(Own (rws B r T vs ls) k↔∃v∈vs,v.ownBlock=some k)
 | [],[],_=>⟨fun h=>h.elim,fun⟨_,h,_⟩=>by cases h⟩
 | v::vs,l::ls,h=>by
  have ih:=CT (vs:=vs) (ls:=ls) (by simpa using h)
  have e:Own (rws B r T (v::vs) (l::ls)) k↔v.ownBlock=some k∨Own (rws B r T vs ls) k:=Iff.rfl
  rw[e,ih];simp
 | [],_::_,h=>by cases h
 | _::_,[],h=>by cases h
theorem AJ:∀{vs:List Value} {ls:List (List α)},Ok F A (rws B r T vs ls)→∀k,Own (rws B r T vs ls) k→∃o,A[k]? = some o∧o.isCells=true
 | [],_,_,_,h=>h.elim
 | _::_,[],_,_,h=>h.elim
 | v::vs,l::ls,⟨h1,_,h3⟩,k,hk=>by
  rcases hk with hk|hk
  ·have hlt:=h1.1.lt k hk
   exact⟨_,Array.getElem?_eq_getElem hlt,h1.1.isc hk (Array.getElem?_eq_getElem hlt)⟩
  ·exact AJ h3 k hk
theorem Ye{F G:PH}{k:Nat}(h:F.le G)(hk:G k=none):F k=none:=by
 cases h1:F k with
 | none=>rfl
 | some o=>rw[h k o h1] at hk;cases hk
theorem AE(hr:∀(a:α) (g:Nat→Value),r.ok G a g→r.ok F a g)(hl:F.le G):∀{vs:List Value} {ls:List (List α)},Ok G A (rws B r T vs ls)→Ok F A (rws B r T vs ls)
 | [],_,_=>trivial
 | _::_,[],_=>trivial
 | v::vs,l::ls,⟨h1,h2,h3⟩=>by
  obtain⟨⟨xs,o1,o2,o3⟩,h4⟩:=h1
  exact⟨⟨⟨xs,o1,fun k hk=>Ye hl (o2 k hk),fun i hi=>hr _ _ (o3 i hi)⟩,h4⟩,h2,AE hr hl h3⟩
theorem J4(h:(gl B rV To (.slice (some ⟨go,0,none⟩) m m) vs).sat F A):∃cur,A[go]? = some (.cells cur To (0,0))∧cur.toList=vs:=by
 obtain⟨⟨xs,o1,o2,o3⟩,_⟩:=h
 rcases o1.2 with⟨h1,_⟩|⟨g,cap,cur,e1,f1,f2,f3,f4,f5,f6⟩
 ·cases h1
 ·injection e1 with e1 e2 e3
  injection e1 with e1
  injection e1 with e1
  subst e1;subst e2;subst e3
  refine⟨cur,f2,?_⟩
  have hsz:rV.sz=1:=rfl
  rw[hsz] at f5 f6
  rw[Nat.mul_one] at f5 f6
  rw[List.take_of_length_le (by simp[f5])] at f6
  rw[f6]
  have hl:xs.length=vs.length:=by have:=o1.1;rw[hsz,Nat.mul_one] at this;exact this
  refine List.ext_getElem hl fun i h1 h2=>?_
  have h3:=(o3 i h2).1
  have h4:xs.getD (i*1+0) undef=vs[i]:=h3
  rw[Nat.mul_one,Nat.add_zero,List.getD_eq_getElem?_getD,List.getElem?_eq_getElem h1] at h4
  exact h4
theorem J2{s:List Value×List (List α)}(hs:s.1.length=s.2.length)(h:Ok F A (Lm a Ta va b Tb vb B r T To go m s))(k:Nat):Own (Lm a Ta va b Tb vb B r T To go m s) k↔OwM a b go A k:=by
 obtain⟨_,_,_,_,_,_,h4,_,_⟩:=h
 obtain⟨cur,h5,h6⟩:=J4 h4
 have e:Own (Lm a Ta va b Tb vb B r T To go m s) k↔k=a∨k=b∨Own (rws B r T s.1 s.2) k∨some go=some k∨False:=Iff.rfl
 rw[e,CT hs]
 unfold OwM
 rw[h5]
 constructor
 ·rintro(h|h|h|h|h)
  ·exact .inl h
  ·exact .inr (.inl h)
  ·obtain⟨v,h7,h8⟩:=h
   exact .inr (.inr (.inr ⟨cur,To,rfl,v,by rw[h6];exact h7,h8⟩))
  ·injection h with h;exact .inr (.inr (.inl h.symm))
  ·exact h.elim
 ·rintro(h|h|h|⟨cur',E,h7,v,h8,h9⟩)
  ·exact .inl h
  ·exact .inr (.inl h)
  ·exact .inr (.inr (.inr (.inl (by rw[h]))))
  ·injection h7 with h7
   injection h7 with h7
   subst h7
   exact .inr (.inr (.inl ⟨v,by rw[←h6];exact h8,h9⟩))
theorem SF{s:List Value×List (List α)}(h:Ok F A (Lm a Ta va b Tb vb B r T To go m s))(k:Nat)(hk:Own (Lm a Ta va b Tb vb B r T To go m s) k):∃o,A[k]? = some o∧o.isCells=true:=by
 obtain⟨h1,_,h2,_,h3,_,h4,_,_⟩:=h
 rcases hk with hk|hk|hk|hk|hk
 ·have hk':k=a:=hk
  subst hk';exact⟨_,h1.1,rfl⟩
 ·have hk':k=b:=hk
  subst hk';exact⟨_,h2.1,rfl⟩
 ·exact AJ h3 k hk
 ·obtain⟨cur,h5,_⟩:=J4 h4
  have hk':some go=some k:=hk
  injection hk' with hk'
  subst hk';exact⟨_,h5,rfl⟩
 ·exact hk.elim
theorem SE{s:List Value×List (List α)}(hr:∀(F G:PH) (a:α) (g:Nat→Value),r.ok G a g→r.ok F a g)(hl:F.le G)(h:Ok G A (Lm a Ta va b Tb vb B r T To go m s)):Ok F A (Lm a Ta va b Tb vb B r T To go m s):=by
 obtain⟨h1,p1,h2,p2,h3,p3,h4,p4,_⟩:=h
 obtain⟨⟨xs,o1,o2,o3⟩,o4⟩:=h4
 exact⟨⟨h1.1,Ye hl h1.2⟩,p1,⟨h2.1,Ye hl h2.2⟩,p2,AE (hr F G) hl h3,p3,⟨⟨xs,o1,fun k hk=>Ye hl (o2 k hk),fun i hi=>o3 i hi⟩,o4⟩,p4,trivial⟩
end
section
variable{α:Type}{r:Rp α}{T To E:TypeId}{B go a b m':Nat}{va vb v:Value}{vs:List Value}{ls:List (List α)}{l:List α}{Ta Tb:TypeId}{ro:Option Nat}{m:Nat}{c:Code}
theorem DU{s:List Value×List (List α)}(h:Ok F A (Lm a Ta va b Tb vb B r T To go m' s)):go<A.size:=by
 obtain⟨_,_,_,_,_,_,h4,_,_⟩:=h
 obtain⟨cur,h5,_⟩:=J4 h4
 exact(Array.getElem?_eq_some_iff.1 h5).1
end
theorem OJ{k:IntKind}(F G:PH)(a:Int)(g:Nat→Value)(h:(rI k).ok G a g):(rI k).ok F a g:=h
end Go.JE
namespace Go.Proofs.YtmfkkodnghambaaGreat
open Go.JE
theorem p9:Ent Tryz.prog 185:=⟨_,Tryz.func185,by kernel_rfl,by kernel_rfl⟩
theorem o6:Ent Tryz.prog 190:=⟨_,Tryz.func190,by kernel_rfl,by kernel_rfl⟩
theorem YJ{a0:Value}{g:List (List Int)}:Tr Tryz.prog 185 #[a0] [dv (rL (rL (rI .i64))) a0 g] [] (fun g1:Nat => .func (.func 190) #[] #[.pointer (some ⟨g1,0,none⟩)]) (fun _=>[]) (fun _ g1=>[bx g1 125 [a0]]):=by
 refine Af (args:=[a0]) Tryz.func185 rfl rfl rfl fun w0 X=>?_
 refine jq (jr (jdq d0 fun q1 w1=>Bj Z w1.cells fun g1=>ja Z (jn (jx (jq (jr (js (Ou Z) (ja Z (jn ?_)))))))))
 refine jx (jrt ?_)
 exact jr1 Z Z g1 Z dn (fun _ _=>(kc k0 kn))
theorem BB{a0:Value}{g:List (List Int)}(hgn:g.length≤512):Td Tryz.prog 167 #[a0] [dv (rL (rL (rI .i64))) a0 g] [] (rL (rL (rI .i64))) (Ee g):=by
 refine UW (args:=[a0]) Tryz.func167 rfl rfl rfl fun w0 X=>?_
 refine jq (jr (ja Z (jn (jx (jq (jr (jm Z (jdq d0 fun q1 w1=>js (jln Dd d0 Z) (jmk (m:=g.length) (r:=rV) Dd I22 Z Z Z Z Z (by omega) (wV Z) Z fun g8=>jrn (r:=(rI .i64)) (T:=3) g.length ?_)))))))))
 refine Bg IM Z fun g3=>jst k0 IH Z Z Z s0 (jn (jx (jq (jq (jr (jm Z (jc p9 Z Z YJ (dc d0 dn) kn (fun _=>p0) (fun _=>p1) fun g10=>jn (jx (jb ?_)))))))))
 refine crf (σ:=List Value×List (List Int)) (α:=Ed g.length) (go:=g8) (xs:=Gt g) (encs:=Vy) (fun x=>[(3,.pointer (some ⟨g3,0,none⟩)),(4,.int .i64 x.val.1),(5,.int .i64 x.val.2)]) (fun s=>Lm g10 125 a0 g3 125 (.slice (some ⟨g8,0,none⟩) g.length g.length) X.n (rI .i64) 3 22 g8 g.length s) (OwM g10 g3 g8) (fun pre s=>s.2=Kt g.length (pre.map Subtype.val)∧s.1.length=s.2.length) (List.replicate g.length (.slice none 0 0),List.replicate g.length []) rfl o6 (fun _=>rfl) rfl (fun _ s F A hi h=>J2 hi.2 h) (fun _ s F A hi h=>SF h) (fun _ s F G A hi hl h=>SE (fun F G=>OJ F G) hl h) (fun A B h k hk=>hk.go h) (fun F H hin hd ho=>⟨YI hin ho.1.1 hd.1 (fun A B h k hk=>hk.go h) (DU ho) (fun k hk=>ho.lt ((J2 (by simp) ho k).2 hk)) (fun k hk=>ho.no ((J2 (by simp) ho k).2 hk)),DU ho⟩) ⟨rfl,by simp⟩ ?_ ?_ ?_
 intro lx x H9
 refine RCF.seq ?_
 refine RCF.region ?_
 refine LF.step (Aa.assign rfl) ?_
 refine RLF.nil ?_
 refine RPF.next ?_
 refine RCF.region ?_
 refine LF.step (Aa.assign rfl) ?_
 refine RLF.nil ?_
 exact PF.assigned ⟨rfl,rfl,rfl,trivial⟩
 rintro lx pre ⟨⟨pa,pb⟩,hpa,hpb⟩ ⟨vs,ls⟩ X2 ⟨hls,hvl⟩ hlt;dsimp only[Lm] at hpa hpb hls hvl ⊢
 have hll:ls.length=g.length:=by rw[hls];exact Xq _
 have hsm:(ls[pb.toNat]?.getD []).length≤262144:=by rw[hls];refine Nat.le_trans (PJ _) ?_;rw[List.length_map];have:=YM hgn;omega
 refine rb (NY false (.a 0 (.a 1 (.a 2 (.a 3 (.a 6 (.w 4 7 (.w 5 7 (.o 7 (.o 8 (.o 9 (.o 10 .e)))) (.o 5 (.o 8 (.o 9 (.o 10 .e))))) (.o 4 (.o 5 (.o 8 (.o 9 (.o 10 .e))))))))))) Bh (by kernel_rfl) (kc k1 kn) (by kernel_rfl) fun F2=>jy Z (jl k0 We Z Z) (jy Z (jmv Z) (jy Z (jl k0 We Z Z) (jy Z (jmv Z) (jy Z (jmv Z) ?_)))))
 refine jyw Z Z ?_ ?_
 refine js (jig (i:=pb.toNat) Dd Z22 k3 Z Z (by omega) (by omega)) (jyn d0 (kc k1 kn) ?_)
 refine jyw Z Z ?_ ?_
 refine js (jgW k3 (by omega) O22 Z) (jyn d0 (kc k1 kn) (jyo Z (Ba (r:=(rI .i64)) (l:=[pa]) U22 I3 (by decide) Z Z Z (lV Z Z (wI (wp (IntWalk.i64_in _ (by omega)))) ln) fun g20=>jyn d0 (kc k2 kn) (jyo Z (jfz k0 (by(try simp)<;>omega) (jro pb.toNat k2 (by omega) (by omega) (jgo k0 fun w9=>Ev U22 I3 (by decide) Z k0 Z Z d0 (by(try simp)<;>omega) fun v21 w10=>jyn d1 (kc k3 kn) (jyo Z ?_))))))))
 refine js (jig (i:=pb.toNat) Dd Z22 k4 Z Z (by omega) (by omega)) (jyn d0 (kc k3 kn) (jyo Z (jsg k4 Z Z22 Z Z w10.one (by omega) (wV w10.one) (jru k1 k1 (by omega) (by omega) (jyn d0 (kc k3 kn) (jyd ?_))))))
 exact G1 (List.set vs pb.toNat v21,List.set ls pb.toNat ((List.getD ls pb.toNat [])++([pa]))) ⟨by dsimp only;rw[hls,List.map_append];exact(G5 (l:=pre.map Subtype.val) (p:=(pa,pb))).symm,by simp[hvl]⟩ (kc k2 (kc k2 (kd kn)))
 refine Ba (r:=(rI .i64)) (l:=[pa]) U22 I3 (by decide) Z Z Z (lV Z Z (wI (wp (IntWalk.i64_in _ (by omega)))) ln) fun g20=>jyn d0 (kc k2 kn) (jyo Z (js (jgW k4 (by omega) O22 Z) (jyn d0 (kc k2 kn) (jyo Z (jfz k0 (by(try simp)<;>omega) (jro pb.toNat k2 (by omega) (by omega) (jgo k0 fun w9=>Ev U22 I3 (by decide) Z k0 Z Z d0 (by(try simp)<;>omega) fun v21 w10=>jyn d1 (kc k3 kn) (jyo Z ?_))))))))
 refine js (jig (i:=pb.toNat) Dd Z22 k4 Z Z (by omega) (by omega)) (jyn d0 (kc k3 kn) (jyo Z (jsg k4 Z Z22 Z Z w10.one (by omega) (wV w10.one) (jru k1 k1 (by omega) (by omega) (jyn d0 (kc k3 kn) (jyd ?_))))))
 exact G1 (List.set vs pb.toNat v21,List.set ls pb.toNat ((List.getD ls pb.toNat [])++([pa]))) ⟨by dsimp only;rw[hls,List.map_append];exact(G5 (l:=pre.map Subtype.val) (p:=(pa,pb))).symm,by simp[hvl]⟩ (kc k2 (kc k2 (kd kn)))
 refine Ba (r:=(rI .i64)) (l:=[pa]) U22 I3 (by decide) Z Z Z (lV Z Z (wI (wp (IntWalk.i64_in _ (by omega)))) ln) fun g20=>jyn d0 (kc k2 kn) (jyo Z (js (jig (i:=pb.toNat) Dd Z22 k4 Z Z (by omega) (by omega)) (jyn d0 (kc k2 kn) (jyo Z (js (jgW k4 (by omega) O22 Z) (jyn d0 (kc k2 kn) (jyo Z (jfz k0 (by(try simp)<;>omega) (jro pb.toNat k2 (by omega) (by omega) (jgo k0 fun w9=>?_))))))))))
 refine Ev U22 I3 (by decide) Z k0 Z Z d0 (by(try simp)<;>omega) fun v21 w10=>jyn d1 (kc k3 kn) (jyo Z (js (jig (i:=pb.toNat) Dd Z22 k4 Z Z (by omega) (by omega)) (jyn d0 (kc k3 kn) (jyo Z (jsg k4 Z Z22 Z Z w10.one (by omega) (wV w10.one) (jru k1 k1 (by omega) (by omega) (jyn d0 (kc k3 kn) (jyd ?_))))))))
 exact G1 (List.set vs pb.toNat v21,List.set ls pb.toNat ((List.getD ls pb.toNat [])++([pa]))) ⟨by dsimp only;rw[hls,List.map_append];exact(G5 (l:=pre.map Subtype.val) (p:=(pa,pb))).symm,by simp[hvl]⟩ (kc k2 (kc k2 (kd kn)))
 rintro M9 ⟨vs,ls⟩ ⟨hls,hvl⟩ hMX;dsimp only[Lm] at hls hvl ⊢
 rw[YK] at hls;have hls0:ls=Ee g:=hls
 have hll:ls.length=g.length:=by rw[hls];exact Xq _
 refine jbn (jx (jq (jr (js (jl k2 We Z Z) (ja Z (jn (jx (jrt ?_))))))))
 refine qfr k4 k3 hvl (by omega) (fun l hl=>by rw[hls] at hl;exact PI hgn l hl) ?_
 exact jrM Z Z k0 ((.slice (some ⟨g8,0,none⟩) g.length g.length):Value) Z (by rw[←hls0];exact(dc d0 dn)) (fun _ _=>kn) hMX
theorem JD:Ent Tryz.prog 166:=⟨_,Tryz.func166,by kernel_rfl,by kernel_rfl⟩
theorem JC:Ent Tryz.prog 167:=⟨_,Tryz.func167,by kernel_rfl,by kernel_rfl⟩
theorem o9:Ent Tryz.prog 186:=⟨_,Tryz.func186,by kernel_rfl,by kernel_rfl⟩
theorem WR{a0:Value}{g:List (List Int)}(hn:0<g.length∧g.length≤512)(hw:∀b,b<g.length→∃w,RB (fun q t=>(t:Int)∈ix (Bl g) q) w b):Tr Tryz.prog 168 #[a0] [dv (rL (rL (rI .i64))) a0 g] [] (fun c:Value×List Int=>c.1) (fun c=>[dv (rL (rI .i64)) c.1 c.2,pu (B7 g c.2)]) (fun _ _=>[]):=by
 refine Af (args:=[a0]) Tryz.func168 rfl rfl rfl fun w0 X=>?_
 refine jq (jr (ja Z (jn (jx (jq (jr (jm Z (jc JD Z Z (CX hn hw) (dc d0 dn) kn (fun _=>p2) (fun _=>p0) fun c17=>jpu d1 fun hod=>ja Z (jn ?_)))))))))
 refine jx (jq (jr (jm Z (jdq d2 fun q3 w3=>js (jln Dd d2 Z) (jmk (m:=g.length) (r:=(rI .i64)) U22 I3 Z Z Z Z Z (by omega) (wI (wp (by decide))) Z fun g20=>ja Z (jn (jx (jq (jr ?_)))))))))
 refine jm Z (js (jln Dd d2 Z) (jmk (m:=g.length) (r:=(rI .i64)) U22 I3 Z Z Z Z Z (by omega) (wI (wp (by decide))) Z fun g23=>ja Z (jn (jx (jq (jq (jr (jm Z (js (jln Dd d2 Z) (jm Z ?_))))))))))
 refine jn (jx (jb ?_))
 refine jlp (u3 fun(k:Nat) (nm:List Int) (ou:List Int)=>⟨k≤g.length∧nm.length=g.length∧ou=List.replicate k (-1)++List.replicate (g.length-k) 0,[dv (rL (rI .i64)) c17.1 c17.2,dv (rL (rL (rI .i64))) a0 g],[gl X.n (rI .i64) 3 (.slice (some ⟨g23,0,none⟩) g.length g.length) ou,gl X.n (rI .i64) 3 (.slice (some ⟨g20,0,none⟩) g.length g.length) nm],[(0,a0),(2,.slice none 0 0),(3,c17.1),(4,(.slice (some ⟨g20,0,none⟩) g.length g.length)),(5,(.slice (some ⟨g23,0,none⟩) g.length g.length)),(25,.int .i64 (↑g.length)),(26,.int .i64 (↑k))],g.length-k⟩) (0,List.replicate g.length 0,List.replicate g.length 0) ⟨by dsimp only;omega,by simp,by simp⟩ (dc d0 (dc d2 dn)) (kd kn) ⟨Z,Z,Z,Z,Z,Z,eqI (by omega),trivial⟩ ?_
 rintro⟨k,nm,ou⟩;dsimp only[u3];rintro⟨hk,hnl,hou⟩
 have hol:ou.length=g.length:=by rw[hou];simp;omega
 refine jq (jr (js (Ai Z Z) (jn (jx (jq ?_)))))
 refine jif Z (fun hc1=>?_) (fun hc1=>?_)
 refine jsk (jx (jq (jb (jq (jr (jm Z (ja Z (jn (jx (jr (jm Z ?_)))))))))))
 refine jm Z (jm Z (jm Z (js (jig U22 Z3 k1 Z Z Z (by omega)) (jsg k1 Z Z3 Z Z Z (by omega) (wI (wl (-1))) (js (jig U22 Z3 k1 Z Z Z (by omega)) (jsg k1 Z Z3 Z Z Z (by omega) (wI (wl (-1))) (jn (jbn (jx (jr (js (Ac Z Z (by omega)) ?_)))))))))))
 refine jm Z (jn ?_)
 exact jag (k+1,List.set nm k (-1),List.set ou k (-1)) ⟨by dsimp only;omega,by simpa using hnl,by dsimp only;rw[hou];exact XH (by omega)⟩ (dc d0 (dc d1 dn)) (kd kn) ⟨Z,Z,Z,Z,Z,Z,eqI (by omega),trivial⟩
 refine jex (jtx (jtx (jbh (jx (jq (jq (jr (jm Z (jdq d0 fun q4 w4=>js (jln U22 d0 Z) (jm Z ?_))))))))))
 refine jn (jx (jb ?_))
 refine jlp (u2 fun(k2:Nat) (nm:List Int)=>⟨k2≤c17.2.length∧NK g.length c17.2 nm k2,[dv (rL (rI .i64)) c17.1 c17.2,dv (rL (rL (rI .i64))) a0 g],[gl X.n (rI .i64) 3 (.slice (some ⟨g23,0,none⟩) g.length g.length) ou,gl X.n (rI .i64) 3 (.slice (some ⟨g20,0,none⟩) g.length g.length) nm],[(0,a0),(2,.slice none 0 0),(3,c17.1),(4,(.slice (some ⟨g20,0,none⟩) g.length g.length)),(5,(.slice (some ⟨g23,0,none⟩) g.length g.length)),(36,c17.1),(37,.int .i64 (↑(List.length c17.2))),(38,.int .i64 (↑k2))],c17.2.length-k2⟩) (0,nm) ⟨by dsimp only;omega,⟨by dsimp only;exact hnl,fun j h=>absurd h (Nat.not_lt_zero _)⟩⟩ (dc d0 (dc d1 dn)) (kd kn) ⟨Z,Z,Z,Z,Z,Z,Z,eqI (by omega),trivial⟩ ?_
 rintro⟨k2,nm⟩;dsimp only[u2];rintro⟨hk2,hnk⟩
 have hnl2:=hnk.1
 refine jq (jr (js (Ai Z Z) (jn (jx (jq ?_)))))
 refine jif Z (fun hc2=>?_) (fun hc2=>?_)
 have hr8:=Xy hod (k:=k2) (by omega)
 refine jsk (jx (jq (jb (jq (jr (jm Z (js (jix U22 Z3 d0 Z Z Z (by omega)) (js (jlI (dix d0 k2 (by omega)) O3 Z) (ja Z (ja Z (jn ?_)))))))))))
 refine jx (jr (jm Z (jm Z (jm Z (js (jig (i:=(Int.toNat (ix c17.2 k2))) U22 Z3 k1 Z Z (by omega) (by omega)) (jsg k1 Z Z3 Z Z Z (by omega) (wI (wp (IntWalk.i64_in _ (by omega)))) (jn (jbn (jx (jr (js (Ac Z Z (by omega)) ?_)))))))))))
 refine jm Z (jn ?_)
 exact jag (k2+1,List.set nm (Int.toNat (ix c17.2 k2)) ((k2:Nat):Int)) ⟨by dsimp only;omega,hnk.nx hod (by omega)⟩ (dc d0 (dc d1 dn)) (kc k1 (kc k0 kn)) ⟨Z,Z,Z,Z,Z,Z,Z,eqI (by omega),trivial⟩
 refine jex (jtx (jtx (jbh (jx (jq (jr (jfz k1 (by omega) ?_)))))))
 have hnu:NU g.length c17.2 nm:=⟨hnk.1,fun j h=>hnk.2 j (by omega)⟩
 have hgn:=(hod.gn hn.1 hnu).1
 have hfull:=RL hod
 have hlen9:=RJ hod
 have hpl:=BA g
 refine jm Z (jcd JC Z Z (BB hn.2) (dc d2 dn) kn fun v49 q6 w6=>ja Z (jn (jx (jq (jq (jr (ja Z (jn (jx (jb ?_))))))))))
 refine jlp (u3 fun(f:Nat) (ch:Bool) (ou:List Int)=>⟨IS g.length nm (prG g) ou 1∧(ch=false→IS g.length nm (prG g) ou (g.length:Int))∧smI g.length nm ou g.length+(if ch=true then 1 else 0)≤f,[dv (rL (rL (rI .i64))) v49 (Ee g),dv (rL (rI .i64)) (.slice (some ⟨g20,0,none⟩) g.length g.length) nm,dv (rL (rI .i64)) c17.1 c17.2],[gl X.n (rI .i64) 3 (.slice (some ⟨g23,0,none⟩) g.length g.length) ou],[(2,.slice none 0 0),(3,c17.1),(4,(.slice (some ⟨g20,0,none⟩) g.length g.length)),(5,(.slice (some ⟨g23,0,none⟩) g.length g.length)),(9,v49),(10,.bool ch)],f⟩) (smI g.length nm ou g.length+1,true,ou) ⟨by dsimp only;rw[hou];exact(by have h9:=IS.beg hgn;rw[show g.length-k=0 by omega];simpa[show k=g.length by omega] using h9),(fun h=>by cases h),by dsimp only;rw[if_pos rfl];exact Nat.le_refl _⟩ (dc d0 (dc d1 (dc d2 dn))) (kc k0 kn) ⟨Z,Z,Z,Z,Z,Z,trivial⟩ ?_
 rintro⟨f,ch,ou⟩;dsimp only[u3];rintro⟨his,hid,hfu⟩
 have hol:=his.tv.len
 refine jq (jq (jr (jm Z (jn (jx ?_)))))
 refine jif Z (fun hc3=>?_) (fun hc3=>?_)
 have hf0:0<f:=by rw[hc3] at hfu;simp at hfu;omega
 refine jsk (jx (jb (jq (jr (ja Z (jn (jx (jq (jr (jm Z (jm Z ?_)))))))))))
 refine js (jln U22 d2 Z) (js (Ot Z Z) (js (Lz (lo:=(Int.toNat (min 1 (↑(List.length c17.2))))) U22 Z3 d2 Z Z (by omega) (by omega)) (jdq (dlo d2 (Int.toNat (min 1 (↑(List.length c17.2)))) (by omega) (by omega)) fun q8 w8=>js (jln U22 (dlo d2 (Int.toNat (min 1 (↑(List.length c17.2)))) (by omega) (by omega)) Z) (jm Z (jn (jx (jb ?_)))))))
 refine jlp (u3 fun(k:Nat) (ch2:Bool) (ou2:List Int)=>⟨k≤c17.2.length-1∧IR g.length nm (prG g) ou ou2 ch2 k,[dv (rL (rL (rI .i64))) v49 (Ee g),dv (rL (rI .i64)) (.slice (some ⟨g20,0,none⟩) g.length g.length) nm,dv (rL (rI .i64)) c17.1 c17.2],[gl X.n (rI .i64) 3 (.slice (some ⟨g23,0,none⟩) g.length g.length) ou2],[(2,.slice none 0 0),(3,c17.1),(4,(.slice (some ⟨g20,0,none⟩) g.length g.length)),(5,(.slice (some ⟨g23,0,none⟩) g.length g.length)),(9,v49),(10,.bool ch2),(55,(resl 1 c17.1 (Int.toNat (min 1 (↑(List.length c17.2)))) (List.length c17.2))),(56,.int .i64 (↑(List.length (List.drop (Int.toNat (min 1 (↑(List.length c17.2)))) c17.2)))),(57,.int .i64 (↑k))],c17.2.length-1-k⟩) (0,false,ou) ⟨by dsimp only;omega,⟨his,Nat.le_refl _,fun h=>by cases h⟩⟩ (dc d0 (dc d1 (dc d2 dn))) (kc k0 kn) ⟨Z,Z,Z,Z,Z,Z,Z,Z,eqI (by omega),trivial⟩ ?_
 rintro⟨k,ch2,ou2⟩;dsimp only[u3];rintro⟨hk4,hir⟩
 have hol2:=hir.is.tv.len
 have hdl:(List.drop (min 1 (c17.2.length:Int)).toNat c17.2).length=c17.2.length-1:=by rw[List.length_drop];omega
 refine jq (jr (js (Ai Z Z) (jn (jx (jq ?_)))))
 refine jif Z (fun hc4=>?_) (fun hc4=>?_)
 refine jsk (jx (jq (jb (jq (jr (js (jix U22 Z3 (dlo d2 (Int.toNat (min 1 (↑(List.length c17.2)))) (by omega) (by omega)) Z Z Z (by omega)) (js (jlI (dix (dlo d2 (Int.toNat (min 1 (↑(List.length c17.2)))) (by omega) (by omega)) k (by omega)) O3 Z) (ja Z (jn (jx (jq ?_)))))))))))
 refine jr (ja Z (jn (jx (jq (jq (jr ?_))))))
 generalize hb:ix (List.drop (Int.toNat (min 1 (↑(List.length c17.2)))) c17.2) k=b at ⊢
 have hbe:b=ix c17.2 (k+1):=by rw[←hb,VS];congr 1;omega
 have hbr:=Xy hod (k:=k+1) (by omega)
 rw[←hbe] at hbr
 have hbn:ix nm b.toNat=((k+1:Nat):Int):=by rw[hbe];exact hnu.pos (k+1) (by omega)
 have hb0:b.toNat≠0:=fun h=>by rw[h,hgn.zero] at hbn;omega
 refine jm Z (jm Z (js (jix (i:=b.toNat) Dd Z22 d0 Z Z (by omega) (by omega)) (jev (jlV (dix d0 b.toNat (by omega)) O22 Z Z) fun v64 q9 w9=>js (jln U22 d0 Z) (jm Z (jn (jx (jb ?_)))))))
 refine jlp (u2 fun(j:Nat) (best:Int)=>⟨S9 g.length ou2 (ix (Ee g) b.toNat) j best,[dv (rL (rI .i64)) v64 (ix (Ee g) b.toNat),dv (rL (rL (rI .i64))) v49 (Ee g),dv (rL (rI .i64)) (.slice (some ⟨g20,0,none⟩) g.length g.length) nm,dv (rL (rI .i64)) c17.1 c17.2],[gl X.n (rI .i64) 3 (.slice (some ⟨g23,0,none⟩) g.length g.length) ou2],[(2,.slice none 0 0),(3,c17.1),(4,(.slice (some ⟨g20,0,none⟩) g.length g.length)),(5,(.slice (some ⟨g23,0,none⟩) g.length g.length)),(9,v49),(10,.bool ch2),(12,.int .i64 b),(13,.int .i64 best),(55,(resl 1 c17.1 (Int.toNat (min 1 (↑(List.length c17.2)))) (List.length c17.2))),(56,.int .i64 (↑(List.length (List.drop (Int.toNat (min 1 (↑(List.length c17.2)))) c17.2)))),(57,.int .i64 (↑k)),(64,v64),(65,.int .i64 (↑(List.length (ix (Ee g) b.toNat)))),(66,.int .i64 (↑j))],(ix (Ee g) b.toNat).length-j⟩) (0,-1) ⟨by dsimp only;omega,BS.beg,by dsimp only;omega,by dsimp only;omega⟩ (dc d0 (dc d1 (dc d2 (dc d3 dn)))) (kc k0 kn) ⟨Z,Z,Z,Z,Z,Z,Z,eqI (by omega),Z,Z,Z,Z,Z,eqI (by omega),trivial⟩ ?_
 rintro⟨j,best⟩;dsimp only[u2];rintro⟨hj,hbs,hb1,hb2⟩
 have hs9:S9 g.length ou2 (ix (Ee g) b.toNat) j best:=⟨hj,hbs,hb1,hb2⟩
 refine jq (jr (js (Ai Z Z) (jn (jx (jq ?_)))))
 refine jif Z (fun hc5=>?_) (fun hc5=>?_)
 refine jsk (jx (jq (jb (jq (jr (js (jix U22 Z3 d0 Z Z Z (by omega)) (js (jlI (dix d0 j (by omega)) O3 Z) (ja Z (jn (jx (jq ?_)))))))))))
 refine jq (jr ?_)
 generalize ha:ix (ix (Ee g) b.toNat) j=a at ⊢
 have har:=AX (Ax (l:=ix (Ee g) b.toNat) (i:=j) (by omega))
 rw[ha] at har
 refine jm Z (jm Z (jdq d2 fun q11 w11=>js (jix (i:=a.toNat) U22 Z3 d2 Z Z (by omega) (by omega)) (js (jlI (dix d2 a.toNat (by omega)) O3 Z) (js (Ai Z Z) (jm Z (jg Z Z (.f _) (fun hg=>jmv Z) (jg Z Z (.f _) (fun hg=>Gz (evg Z hg) Z) (jg Z Z (.f _) (fun hg=>jmv (evg Z hg)) (jg Z Z (.gt _ _) (fun hg=>jmv Z) (jg Z Z (.gt _ _) (fun hg=>jmv Z) ?_))))))))))
 refine jg Z Z (.gt _ _) (fun hg=>jig (i:=a.toNat) U22 Z3 k0 (evg Z hg) (evg Z hg) (by first|omega|(simp at hg;omega)) (by first|omega|(simp at hg;omega)|(simp only[List.length_set];omega)|(simp;done))) (jg Z Z (.gt _ _) (fun hg=>jgI k0 (by first|omega|(simp at hg;omega)|(simp only[List.length_set];omega)|(simp;done)) O3 (evg Z hg)) (jg Z Z (.gt _ _) (fun hg=>Ai (evg Z hg) Z) (jg Z Z (.f _) (fun hg=>Tj hg Z Z) (js (jor Z Z) (jn (jx ?_))))))
 refine jif Z (fun hc6=>?_) (fun hc6=>?_)
 refine jex (jtx (jbh (jx (jr (js (Ac Z Z (by omega)) (jm Z (jn ?_)))))))
 exact jag (j+1,best) (MY hgn hir.is hs9 ha har (by omega) (by simpa using hc6)) (dc d0 (dc d1 (dc d2 (dc d3 dn)))) (kc k0 kn) ⟨Z,Z,Z,Z,Z,Z,Z,Z,Z,Z,Z,Z,Z,eqI (by omega),trivial⟩
 have hca:¬a=0→0≤ix ou2 a.toNat:=by simp at hc6;exact fun h=>hc6.2.resolve_left h
 refine jsk (jx (jq (jq (jr (jm Z (js (Ai Z Z) (jn (jx ?_))))))))
 refine jif Z (fun hc7=>?_) (fun hc7=>?_)
 refine jq (jr (jm Z (ja Z (jn (jx (jex (jtx (jbh (jx (jr (js (Ac Z Z (by omega)) ?_)))))))))))
 refine jm Z (jn ?_)
 exact jag (j+1,a) (NA hir.is hs9 ha har (by omega) hca hc7) (dc d0 (dc d1 (dc d2 (dc d3 dn)))) (kc k0 kn) ⟨Z,Z,Z,Z,Z,Z,Z,eqI (by omega),Z,Z,Z,Z,Z,eqI (by omega),trivial⟩
 refine jsk (jx (jr (jm Z (jm Z (jm Z (jm Z (jc o9 Z Z (Tv.temp 1073741824 (ZI best a (MZ hgn hnl2 hir.is hs9 har hca (by omega))) (by omega)) (dc d2 dn) (kc k0 kn) (fun _=>p0) (fun _=>p1) fun _=>ja Z (jn (jbn (jx ?_))))))))))
 refine jr (js (Ac Z Z (by omega)) (jm Z (jn ?_)))
 exact jag (j+1,Mw ou2 nm best a) (NB hgn hir.is hs9 ha har (by omega) hca (by omega)) (dc d0 (dc d1 (dc d2 (dc d3 dn)))) (kc k0 kn) ⟨Z,Z,Z,Z,Z,Z,Z,eqI (by omega),Z,Z,Z,Z,Z,eqI (by omega),trivial⟩
 refine jex (jtx (jtx (jbh (jx (jq (jr (jm Z (jm Z (js (jig (i:=b.toNat) U22 Z3 k0 Z Z (by omega) (by omega)) (js (jgI k0 (by omega) O3 Z) (jm Z ?_)))))))))))
 refine js (Gz Z Z) (jn (jx ?_))
 refine jif Z (fun hc8=>?_) (fun hc8=>?_)
 refine jr (jm Z (jm Z (jm Z (js (jig (i:=b.toNat) U22 Z3 k0 Z Z (by omega) (by omega)) (jsg k0 Z Z3 Z Z Z (by omega) (wI (wp (IntWalk.i64_in _ (by omega)))) (ja Z (jn (jbn (jx (jr (js (Ac Z Z (by omega)) ?_)))))))))))
 refine jm Z (jn ?_)
 exact jag (k+1,true,List.set ou2 b.toNat best) ⟨by dsimp only;omega,hir.set hgn (by omega) hb0 hbn (hs9.all (by omega)) hc8⟩ (dc d1 (dc d2 (dc d3 dn))) (kc k0 kn) ⟨Z,Z,Z,Z,Z,Z,Z,Z,eqI (by omega),trivial⟩
 refine jsk (jbn (jx (jr (js (Ac Z Z (by omega)) (jm Z (jn ?_))))))
 exact jag (k+1,ch2,ou2) ⟨by dsimp only;omega,hir.keep hgn (by omega) hb0 hbn (hs9.all (by omega)) (by omega)⟩ (dc d1 (dc d2 (dc d3 dn))) (kc k0 kn) ⟨Z,Z,Z,Z,Z,Z,Z,Z,eqI (by omega),trivial⟩
 refine jex (jtx (jtx (jbh (jbn ?_))))
 exact jag (f-1,ch2,ou2) ⟨(hir.is.end9 (by omega)).round hgn,fun _=>hir.is.end9 (by omega),by have h8:=hir.le;have h9:=hir.lt;have hf9:=hfu;rw[if_pos hc3] at hf9;dsimp only;cases ch2<;>simp at h9⊢<;> omega⟩ (dc d0 (dc d1 (dc d2 dn))) (kc k0 kn) ⟨Z,Z,Z,Z,Z,Z,trivial⟩
 refine jex (jtx (jtx (jbh (jx (jq (jr (jm Z (ja Z (jn (jx (jrt ?_)))))))))))
 refine qfz k0 (by omega) ?_
 exact jr1 Z Z ((.slice (some ⟨g23,0,none⟩) g.length g.length),ou) Z (dc d0 (dc (wpu ((hid (by simpa using hc3)).dg hgn)) dn)) (fun _ _=>kn)
end Go.Proofs.YtmfkkodnghambaaGreat
namespace Go.JE
variable{P:Program}{D D0:List Dt}{L M Ls L0:List Res}{e:Env}{X:Cx}{n:Fs}{w0:World}{Q:Exit→Act→World→Prop}
variable{ops:Array Oper}{op:Op}{d:Nat}{ty:TypeId}{pos:String}{af:Array Edge}{rest:List Oper}{T T' K E:TypeId}{x y z:Operand}{g:Nat}{l:List (Int×Value)}{k:Int}{v u:Value}{b:Bool}
theorem UN(hT:P.underlying T=some (.map K E))(hK:P.underlying K=some (.int .i64))(hz:(P.info? E).bind (·.zero)=some u)(hm:Tk L (im g l) M)(hx:ev e x=some (.map (some g)))(hi:ev e z=some (.int .i64 k))(hl:lkM l k=none):OH P D L e (.lookup T x z true) (.tuple #[u,.bool false]):=by
 have:=Ym (D:=D) hT hK hz hm hx hi
 rw[hl] at this;exact this
theorem Yl(hT:P.underlying T=some (.map K E))(hK:P.underlying K=some (.int .i64))(hz:(P.info? E).bind (·.zero)=some u)(hm:Tk L (im g l) M)(hx:ev e x=some (.map (some g)))(hi:ev e z=some (.int .i64 k))(hl:lkM l k=some v):OH P D L e (.lookup T x z true) (.tuple #[v,.bool true]):=by
 have:=Ym (D:=D) hT hK hz hm hx hi
 rw[hl] at this;exact this
end Go.JE
