/- Lemmas that the claim is made of. Conditions: each lemma names its own. -/
import Derived.Test.YtmfkkodnghambaaGreatKM1
set_option maxRecDepth 20000
set_option maxHeartbeats 4000000
set_option linter.unusedSectionVars false
set_option linter.unusedSimpArgs false
set_option linter.unusedVariables false
namespace Go.Proofs.YtmfkkodnghambaaGreat
open Go.JE
structure BV where
 P:Value
 I:Value
 T:D.Term
instance:Inhabited BV:=⟨⟨.slice none 0 0,.slice none 0 0,default⟩⟩
def rBV:Rp BV:=rM (rP rV (rP rV Bf)) (fun m=>(m.P,m.I,m.T))
abbrev bkL(B:Nat)(v:Value)(qs:List BV)(bs:List D.Block):List Res:=[gl B rBV 62 v qs,rw' B Aw 65 (qs.map BV.P) (bs.map D.Block.Phis),rw' B Am 67 (qs.map BV.I) (bs.map D.Block.Ins)]
abbrev bkF(qs:List BV)(bs:List D.Block):Prop:=qs.length=bs.length∧qs.map BV.T=bs.map D.Block.Term
def bk(B:Nat)(v:Value)(qs:List BV)(bs:List D.Block):Res where
 sat F H:=bkF qs bs∧Ok F H (bkL B v qs bs)
 own:=Own (bkL B v qs bs)
 lt:=fun h=>Ok.lt h.2
 no:=fun h=>Ok.no h.2
 st:=fun hl hs h1 h2 h=>⟨h.1,Ok.st hl hs h1 h2 h.2⟩
section
variable{P:Program}{D0 Γ:List Dt}{L M N L0:List Res}{e:Env}{X:Cx}{n:Fs}{w0:World}{Q:Exit→Act→World→Prop}{F G:PH}{H:Heap}{B j i o:Nat}{v u v':Value}{qs:List BV}{bs:List D.Block}{q':BV}{b':D.Block}
theorem Yj(h:Hp X Γ (bk B v qs bs::M) F H):bkF qs bs∧Hp X Γ (bkL B v qs bs++M) F H :=
 ⟨h.ok.1.1,⟨h.hx,h.hin,h.hw,h.hd,Ok.app h.ok.1.2 h.ok.2.2 h.ok.2.1,fun k hk=>h.ge k ((Own.app.1 hk).imp id id)⟩⟩
theorem Us(hf:bkF qs bs)(h:Hp X Γ (bkL B v qs bs++M) F H):Hp X Γ (bk B v qs bs::M) F H:=by
 obtain⟨a,b,c⟩:=Ok.un.2 h.ok
 exact⟨h.hx,h.hin,h.hw,h.hd,⟨⟨hf,a⟩,b,c⟩,fun k hk=>h.ge k (Own.app.2 (hk.imp id id))⟩
theorem Ib{α β:Type}[Inhabited α][Inhabited β](f:α→β){l:List α}{i:Nat}(h:i<l.length)(z:β):(l.map f).getD i z=f (ix l i):=by simp[ix,List.getD,h]
theorem Li{α β:Type}[Inhabited α](f:α→β){l:List α}{i:Nat}{a:α}(h:i<l.length)(e:f a=f (ix l i)):(l.set i a).map f=l.map f:=by
 rw[List.map_set,e]
 apply List.ext_getElem (by simp)
 intro k h1 h2
 by_cases h3:i=k
 ·subst h3;simp[Bp h]
 ·rw[List.getElem_set_ne h3]
theorem Pp{T:TypeId}{x:Operand}(hk:Tk L (bk B v qs bs) M)(h1:j<bs.length)(hT:One P T)(hx:ev e x=some (.pointer (some ⟨Cb v,o,none⟩)))(ho:o=Ca v+j*6+0):OH P Γ L e (.load T x) (ix qs j).P:=fun F H _ _ h=>by
 have h2:=(hk.ok h).1
 obtain⟨f,h3,h4⟩:=h2.2.1.1.cellP (off:=0) (i:=j) (by rw[h2.1.1];exact h1) (by decide)
 have h5:f 0=(ix qs j).P:=h3.1.1
 rw[h5] at h4
 exact Aa.load hT hx rfl (by rw[ho];exact h4)
theorem Uk{T:TypeId}{x:Operand}(hk:Tk L (bk B v qs bs) M)(h1:j<bs.length)(hT:One P T)(hx:ev e x=some (.pointer (some ⟨Cb v,o,none⟩)))(ho:o=Ca v+j*6+1):OH P Γ L e (.load T x) (ix qs j).I:=fun F H _ _ h=>by
 have h2:=(hk.ok h).1
 obtain⟨f,h3,h4⟩:=h2.2.1.1.cellP (off:=1) (i:=j) (by rw[h2.1.1];exact h1) (by decide)
 have h5:f 1=(ix qs j).I:=h3.2.1.1
 rw[h5] at h4
 exact Aa.load hT hx rfl (by rw[ho];exact h4)
def Yk(j B:Nat)(v:Value)(qs:List BV)(bs:List D.Block):Res where
 sat F H:=bkF qs bs∧Ok F H [gl B rBV 62 v qs,Kb j B Aw 65 (qs.map BV.P) (bs.map D.Block.Phis),rw' B Am 67 (qs.map BV.I) (bs.map D.Block.Ins)]
 own:=Own [gl B rBV 62 v qs,Kb j B Aw 65 (qs.map BV.P) (bs.map D.Block.Phis),rw' B Am 67 (qs.map BV.I) (bs.map D.Block.Ins)]
 lt:=fun h=>Ok.lt h.2
 no:=fun h=>Ok.no h.2
 st:=fun hl hs h1 h2 h=>⟨h.1,Ok.st hl hs h1 h2 h.2⟩
def AI(j B:Nat)(v:Value)(qs:List BV)(bs:List D.Block):Res where
 sat F H:=bkF qs bs∧Ok F H [gl B rBV 62 v qs,rw' B Aw 65 (qs.map BV.P) (bs.map D.Block.Phis),Kb j B Am 67 (qs.map BV.I) (bs.map D.Block.Ins)]
 own:=Own [gl B rBV 62 v qs,rw' B Aw 65 (qs.map BV.P) (bs.map D.Block.Phis),Kb j B Am 67 (qs.map BV.I) (bs.map D.Block.Ins)]
 lt:=fun h=>Ok.lt h.2
 no:=fun h=>Ok.no h.2
 st:=fun hl hs h1 h2 h=>⟨h.1,Ok.st hl hs h1 h2 h.2⟩
theorem PS{L2:List Res}(h:Hp X Γ L F H)(ho:Ok F H L→Ok F H L2)(hw:∀k,Own L2 k→Own L k):Hp X Γ L2 F H:=⟨h.hx,h.hin,h.hw,h.hd,ho h.ok,fun k hk=>h.ge k (hw k hk)⟩
theorem Jk{Ls:List Res}(h:Hp X Γ L F H)(hk:Tks L Ls M):Hp X Γ (Ls++M) F H:=PS h (fun o=>by obtain⟨a,b,c⟩:=hk.ok o;exact Ok.app a b c) (fun k hk'=>hk.own (Own.app.1 hk'))
theorem Ur{R:Res}{Ls:List Res}(h:Hp X Γ (R::(Ls++M)) F H):Hp X Γ (R::it Ls::M) F H:=by
 obtain⟨a,b,c⟩:=h.ok
 exact⟨h.hx,h.hin,h.hw,h.hd,⟨a,fun k hk ho=>b k hk (Own.app.2 ho),Ok.un.2 c⟩,fun k hk=>h.ge k (hk.imp id Own.app.2)⟩
theorem Yi{R:Res}{Ls:List Res}(h:Hp X Γ (R::it Ls::M) F H):Hp X Γ (R::(Ls++M)) F H:=by
 obtain⟨a,b,c⟩:=h.ok
 exact⟨h.hx,h.hin,h.hw,h.hd,⟨a,fun k hk ho=>b k hk (Own.app.1 ho),Ok.un.1 c⟩,fun k hk=>h.ge k (hk.imp id Own.app.1)⟩
variable{ops:Array Oper}{rest:List Oper}{ty:TypeId}{pos:String}{af:Array Edge}
theorem Ul(j:Nat)(hk:Tk L (bk B v qs bs) M)(h1:j<bs.length)(k:LH P n w0 ops Q X Γ (gl B Aw 65 (ix qs j).P (ix bs j).Phis::Yk j B v qs bs::M) e rest):LH P n w0 ops Q X Γ L e rest:=fun F H hp=>by
 obtain⟨hf,h2⟩:=Yj (hp.front hk)
 have hl:j<qs.length:=by rw[hf.1];exact h1
 have h3:=h2.row (k1:Tk _ (rw' B Aw 65 (qs.map BV.P) (bs.map D.Block.Phis)) _) (i:=j) (by simpa using hl) (by simpa using h1)
 rw[Ib BV.P hl,Ib D.Block.Phis h1] at h3
 have h4:=Jk h3 (kc k0 (kc k1 (kd kn)))
 obtain⟨a,b,x,y,z⟩:=(Ur (Ls:=[_,_,_]) h4).ok
 exact k F H ⟨h4.hx,h4.hin,h4.hw,h4.hd,⟨a,b,⟨hf,x⟩,y,z⟩,(Ur (Ls:=[_,_,_]) h4).ge⟩
theorem Y3(j:Nat)(hk:Tk L (bk B v qs bs) M)(h1:j<bs.length)(k:LH P n w0 ops Q X Γ (gl B Am 67 (ix qs j).I (ix bs j).Ins::AI j B v qs bs::M) e rest):LH P n w0 ops Q X Γ L e rest:=fun F H hp=>by
 obtain⟨hf,h2⟩:=Yj (hp.front hk)
 have hl:j<qs.length:=by rw[hf.1];exact h1
 have h3:=h2.row (k2:Tk _ (rw' B Am 67 (qs.map BV.I) (bs.map D.Block.Ins)) _) (i:=j) (by simpa using hl) (by simpa using h1)
 rw[Ib BV.I hl,Ib D.Block.Ins h1] at h3
 have h4:=Jk h3 (kc k0 (kc k1 (kc k1 (kc k0 kn))))
 obtain⟨a,b,x,y,z⟩:=(Ur (Ls:=[_,_,_]) h4).ok
 exact k F H ⟨h4.hx,h4.hin,h4.hw,h4.hd,⟨a,b,⟨hf,x⟩,y,z⟩,(Ur (Ls:=[_,_,_]) h4).ge⟩
theorem JJ{m:BV}{f:Nat→Value}(h1:u.oneCell'=true)(h:rBV.ok F m f):rBV.ok F { m with P:=u } (Fx 0 [u] f) :=
 ⟨⟨rfl,h1⟩,⟨h.2.1.1,h.2.1.2⟩,Bf.ext (fun i _=>by show _=Fx 0 [u] f (i+1+1);unfold Fx;rw[if_neg (by simp)];rfl) h.2.2⟩
theorem JK{m:BV}{f:Nat→Value}(h1:u.oneCell'=true)(h:rBV.ok F m f):rBV.ok F { m with I:=u } (Fx 1 [u] f) :=
 ⟨⟨h.1.1,h.1.2⟩,⟨rfl,h1⟩,Bf.ext (fun i _=>by show _=Fx 1 [u] f (i+1+1);unfold Fx;rw[if_neg (by simp)];rfl) h.2.2⟩
theorem JI{m:BV}{f:Nat→Value}{us:List Value}{t:D.Term}(hl:us.length=4)(ht:Bf.ok F t (fun i=>us.getD i undef))(h:rBV.ok F m f):rBV.ok F { m with T:=t } (Fx 2 us f) :=
 ⟨⟨by show Fx 2 us f 0=_;unfold Fx;rw[if_neg (by simp)];exact h.1.1,h.1.2⟩,⟨by show Fx 2 us f 1=_;unfold Fx;rw[if_neg (by simp)];exact h.2.1.1,h.2.1.2⟩,
  Bf.ext (fun i hi=>by
   have hi:i<4:=hi
   show _=Fx 2 us f (i+1+1);unfold Fx;rw[if_pos (by omega)];rfl) ht⟩
theorem JH{m:BV}{f:Nat→Value}{l:List Int}(hu:(rL (rI .i64)).rv F u l)(h:rBV.ok F m f):rBV.ok F { m with T:={ m.T with To:=l } } (Fx 4 [u] f) :=
 ⟨⟨h.1.1,h.1.2⟩,⟨h.2.1.1,h.2.1.2⟩,⟨h.2.2.1.1,h.2.2.1.2⟩,(rL (rI .i64)).ext (fun i hi=>by rw[show i=0 from Nat.lt_one_iff.1 hi];rfl) h.2.2.2.1,(rL (rI .i64)).ext (fun i hi=>by rw[show i=0 from Nat.lt_one_iff.1 hi];rfl) hu,⟨h.2.2.2.2.2.1,h.2.2.2.2.2.2⟩⟩
theorem Za(hf:bkF qs bs)(h1:j<bs.length)(e:q'.T=b'.Term):bkF (qs.set j q') (bs.set j b'):=⟨by simp[hf.1],by rw[List.map_set,List.map_set,hf.2,e]⟩
theorem Y1{T:TypeId}{x y:Operand}{l':List D.Ins}(hk:Tk L (gl B Am 67 v' l') M)(hk2:Tk M (AI j B v qs bs) N)(h1:j<bs.length)(hT:Sz P T 1)(hx:ev e x=some (.pointer (some ⟨Cb v,o,none⟩)))(ho:o=Ca v+j*6+1)(hy:ev e y=some v')(hv:v'.oneCell'=true)
  (k:LH P n w0 ops Q X Γ (bk B v (qs.set j { (ix qs j) with I:=v' }) (bs.set j { (ix bs j) with Ins:=l' })::N) e rest):LH P n w0 ops Q X Γ L e (⟨none,.store T x y,ty,pos,af,none⟩::rest):=fun F H hp=>by
 have h3:=Jk hp (kc hk (kc hk2 kn))
 have hf:bkF qs bs:=h3.ok.2.2.1.1
 have h4:Hp X Γ (gl B Am 67 v' l'::gl B rBV 62 v qs::rw' B Aw 65 (qs.map BV.P) (bs.map D.Block.Phis)::Kb j B Am 67 (qs.map BV.I) (bs.map D.Block.Ins)::N) F H :=
  Yi (Ls:=[_,_,_]) ⟨h3.hx,h3.hin,h3.hw,h3.hd,⟨h3.ok.1,h3.ok.2.1,h3.ok.2.2.1.2,h3.ok.2.2.2⟩,h3.ge⟩
 have hl:j<qs.length:=by rw[hf.1];exact h1
 refine LF.chg0 (Av.storeP (h4.at k1).1 hl hT hx ho hy hv (by decide) (fun f=>JK hv)) ?_
 rintro _ H' ⟨g,hg,t,hb⟩
 have h5:=h4.set (R':=gl B rBV 62 v (qs.set j { (ix qs j) with I:=v' })) k1 ⟨Nat.le_of_eq t.1.symm,fun k _ h2=>t.2 k (fun e1=>h2 (e1▸hg))⟩ ⟨hb,by rw[t.1];exact hp1 h4 k1⟩ (fun k h => .inr h)
 have h6:=(Jk h5 (kc k1 (kc k2 (kd kn)))).unrow (by simpa using hl) (by simpa using h1)
 rw[show(List.map BV.I qs).set j v'=List.map BV.I (qs.set j { (ix qs j) with I:=v' }) by rw[List.map_set],show(List.map D.Block.Ins bs).set j l'=List.map D.Block.Ins (bs.set j { (ix bs j) with Ins:=l' }) by rw[List.map_set],
  ←Li BV.P (a:={ (ix qs j) with I:=v' }) hl rfl,←Li D.Block.Phis (a:={ (ix bs j) with Ins:=l' }) h1 rfl] at h6
 exact k F H' (Us (Za hf h1 (by
  have:=congrArg (fun l=>l.getD j default) hf.2
  rwa[Ib BV.T hl,Ib D.Block.Term h1] at this)) (Jk h6 (kc k1 (kc k1 (kc k0 kn)))))
theorem Yc{T:TypeId}{x y:Operand}{l':List D.Phi}(hk:Tk L (gl B Aw 65 v' l') M)(hk2:Tk M (Yk j B v qs bs) N)(h1:j<bs.length)(hT:Sz P T 1)(hx:ev e x=some (.pointer (some ⟨Cb v,o,none⟩)))(ho:o=Ca v+j*6+0)(hy:ev e y=some v')(hv:v'.oneCell'=true)
  (k:LH P n w0 ops Q X Γ (bk B v (qs.set j { (ix qs j) with P:=v' }) (bs.set j { (ix bs j) with Phis:=l' })::N) e rest):LH P n w0 ops Q X Γ L e (⟨none,.store T x y,ty,pos,af,none⟩::rest):=fun F H hp=>by
 have h3:=Jk hp (kc hk (kc hk2 kn))
 have hf:bkF qs bs:=h3.ok.2.2.1.1
 have h4:Hp X Γ (gl B Aw 65 v' l'::gl B rBV 62 v qs::Kb j B Aw 65 (qs.map BV.P) (bs.map D.Block.Phis)::rw' B Am 67 (qs.map BV.I) (bs.map D.Block.Ins)::N) F H :=
  Yi (Ls:=[_,_,_]) ⟨h3.hx,h3.hin,h3.hw,h3.hd,⟨h3.ok.1,h3.ok.2.1,h3.ok.2.2.1.2,h3.ok.2.2.2⟩,h3.ge⟩
 have hl:j<qs.length:=by rw[hf.1];exact h1
 refine LF.chg0 (Av.storeP (h4.at k1).1 hl hT hx ho hy hv (by decide) (fun f=>JJ hv)) ?_
 rintro _ H' ⟨g,hg,t,hb⟩
 have h5:=h4.set (R':=gl B rBV 62 v (qs.set j { (ix qs j) with P:=v' })) k1 ⟨Nat.le_of_eq t.1.symm,fun k _ h2=>t.2 k (fun e1=>h2 (e1▸hg))⟩ ⟨hb,by rw[t.1];exact hp1 h4 k1⟩ (fun k h => .inr h)
 have h6:=(Jk h5 (kc k1 (kc k1 (kd kn)))).unrow (by simpa using hl) (by simpa using h1)
 rw[show(List.map BV.P qs).set j v'=List.map BV.P (qs.set j { (ix qs j) with P:=v' }) by rw[List.map_set],show(List.map D.Block.Phis bs).set j l'=List.map D.Block.Phis (bs.set j { (ix bs j) with Phis:=l' }) by rw[List.map_set],
  ←Li BV.I (a:={ (ix qs j) with P:=v' }) hl rfl,←Li D.Block.Ins (a:={ (ix bs j) with Phis:=l' }) h1 rfl] at h6
 exact k F H' (Us (Za hf h1 (by
  have:=congrArg (fun l=>l.getD j default) hf.2
  rwa[Ib BV.T hl,Ib D.Block.Term h1] at this)) (Jk h6 (kc k1 (kd kn))))
theorem NZ{c:LH P n w0 ops Q X Γ (bk B v qs (bs.set j b')::N) e rest}(hk:Tk L (gl B Aw 65 (ix qs j).P b'.Phis) M)(hk2:Tk M (Yk j B v qs bs) N)(h1:j<bs.length)(hI:b'.Ins=(ix bs j).Ins)(hT:b'.Term=(ix bs j).Term):LH P n w0 ops Q X Γ L e rest:=fun F H hp=>by
 have h3:=Jk hp (kc hk (kc hk2 kn))
 have hf:bkF qs bs:=h3.ok.2.2.1.1
 have h4:Hp X Γ (gl B Aw 65 (ix qs j).P b'.Phis::gl B rBV 62 v qs::Kb j B Aw 65 (qs.map BV.P) (bs.map D.Block.Phis)::rw' B Am 67 (qs.map BV.I) (bs.map D.Block.Ins)::N) F H :=
  Yi (Ls:=[_,_,_]) ⟨h3.hx,h3.hin,h3.hw,h3.hd,⟨h3.ok.1,h3.ok.2.1,h3.ok.2.2.1.2,h3.ok.2.2.2⟩,h3.ge⟩
 have hl:j<qs.length:=by rw[hf.1];exact h1
 have h6:=(Jk h4 (kc k0 (kc k1 (kd kn)))).unrow (by simpa using hl) (by simpa using h1)
 rw[←Ib BV.P hl undef,GT,show(List.map D.Block.Phis bs).set j b'.Phis=List.map D.Block.Phis (bs.set j b') by rw[List.map_set],
  ←Li D.Block.Ins (a:=b') h1 hI] at h6
 exact c F H (Us ⟨by simp[hf.1],by rw[hf.2,Li D.Block.Term h1 hT]⟩ (Jk h6 (kc k1 (kd kn))))
theorem AE{H':Heap}{t:D.Term}(hp:Hp X Γ L F H)(hk:Tk L (bk B v qs bs) M)(h1:j<bs.length)
  (hs:Gl rBV 62 F H B v qs→∃g,v.ownBlock=some g∧Tw g H H'∧Gl rBV 62 F H' B v (qs.set j { (ix qs j) with T:=t })):Hp X Γ (bk B v (qs.set j { (ix qs j) with T:=t }) (bs.set j { (ix bs j) with Term:=t })::M) F H':=by
 obtain⟨hf,h4⟩:=Yj (hp.front hk)
 have hl:j<qs.length:=by rw[hf.1];exact h1
 obtain⟨g,hg,t',hb⟩:=hs (h4.at k0).1
 have h5:=h4.set (R':=gl B rBV 62 v (qs.set j { (ix qs j) with T:=t })) k0 ⟨Nat.le_of_eq t'.1.symm,fun k _ h2=>t'.2 k (fun e1=>h2 (e1▸hg))⟩ ⟨hb,by rw[t'.1];exact hp1 h4 k0⟩ (fun k h => .inr h)
 rw[←Li BV.P (a:={ (ix qs j) with T:=t }) hl rfl,←Li BV.I (a:={ (ix qs j) with T:=t }) hl rfl,←Li D.Block.Phis (a:={ (ix bs j) with Term:=t }) h1 rfl,←Li D.Block.Ins (a:={ (ix bs j) with Term:=t }) h1 rfl] at h5
 exact Us (Za hf h1 rfl) h5
theorem jbT{T:TypeId}{x y:Operand}{us:List Value}{t:D.Term}(hk:Tk L (bk B v qs bs) M)(h1:j<bs.length)(hT:Sz P T 4)(hx:ev e x=some (.pointer (some ⟨Cb v,o,none⟩)))(ho:o=Ca v+j*6+2)(hy:ev e y=some (.agg us.toArray))(hu:us.length=4)(hv:Oa us)(ht:Nd Γ L (da Bf (.agg us.toArray) t))
  (k:LH P n w0 ops Q X Γ (bk B v (qs.set j { (ix qs j) with T:=t }) (bs.set j { (ix bs j) with Term:=t })::M) e rest):LH P n w0 ops Q X Γ L e (⟨none,.store T x y,ty,pos,af,none⟩::rest):=fun F H hp=>by
 have hq:=(hp.at hk)
 have ht':=ht F H hp.hin hp.hd hp.ok
 obtain⟨l',e1,_,h3⟩:=ht'
 injection e1 with e1;have e1:us=l':=by simpa using e1
 subst e1
 exact LF.chg0 (Av.storePA hq.2.1.1 (by rw[hq.1.1];exact h1) hT hx ho hy hu hv.mem (by decide) (by rw[hu];decide) (fun f=>JI hu h3)) (by rintro _ H' h4;exact k F H' (AE hp hk h1 fun _=>h4))
theorem OJ{T:TypeId}{x y:Operand}{l:List Int}(hk:Tk L (bk B v qs bs) M)(h1:j<bs.length)(hT:Sz P T 1)(hx:ev e x=some (.pointer (some ⟨Cb v,o,none⟩)))(ho:o=Ca v+j*6+2+2)(hy:ev e y=some u)(hv:u.oneCell'=true)(ht:Nd Γ L (dv (rL (rI .i64)) u l))
  (k:LH P n w0 ops Q X Γ (bk B v (qs.set j { (ix qs j) with T:={ (ix bs j).Term with To:=l } }) (bs.set j { (ix bs j) with Term:={ (ix bs j).Term with To:=l } })::M) e rest):LH P n w0 ops Q X Γ L e (⟨none,.store T x y,ty,pos,af,none⟩::rest):=fun F H hp=>by
 have hq:=(hp.at hk)
 have hl:j<qs.length:=by rw[hq.1.1];exact h1
 have he:(ix qs j).T=(ix bs j).Term:=by
  have:=congrArg (fun l=>l.getD j default) hq.1.2
  rwa[Ib BV.T hl,Ib D.Block.Term h1] at this
 exact LF.chg0 (Av.storeP hq.2.1.1 hl hT hx (off:=4) (by rw[ho,Nat.add_assoc];rfl) hy hv (by decide) (fun f h=>he▸JH (ht F H hp.hin hp.hd hp.ok) h)) (by rintro _ H' h4;exact k F H' (AE hp hk h1 fun _=>h4))
theorem Pf{α:Type}{r:Rp α}{T k:Nat}{B:Nat}:∀m,¬Own (rws B r T (List.replicate m (.slice none 0 0)) (List.replicate m [])) k
 | 0=>id
 | m+1=>fun h=>h.elim (fun h=>by cases h) (Pf m)
theorem Xn{α:Type}{r:Rp α}{T:Nat}{B:Nat}(hB:B≤H.size):∀m,Ok F H (rws B r T (List.replicate m (.slice none 0 0)) (List.replicate m []))
 | 0=>trivial
 | m+1=>⟨⟨Gl.nil _ _ _,hB⟩,(fun k h=>by cases h),Xn hB m⟩
theorem OF{T:TypeId}{x y:Operand}{z:Value}{bytes m d:Nat}{I J:Int}(hT:P.underlying T=some (.slice 62))(hE:(P.info? 62).map (fun i=>(i.zero,i.size,i.bytes))=some (some z,6,bytes))(hz:z.cells=#[.slice none 0 0,.slice none 0 0,.int .i64 0,.slice none 0 0,.slice none 0 0,.int .i32 0])
  (hx:ev e x=some (.int .i64 I)) (hy:ev e y=some (.int .i64 J)) (hI:I=m) (hJ:J=m) (h1:bytes*m≤281474976710656∧m≤140737488355328)
  (k:∀g,LH P n w0 ops Q X Γ (bk X.n (.slice (some ⟨g,0,none⟩) m m) (List.replicate m default) (List.replicate m default)::L) ((d,.slice (some ⟨g,0,none⟩) m m)::e) rest) (hd:Nat.blt d n.sz=true:=by rfl):LH P n w0 ops Q X Γ L e (⟨some d,.makeSlice T x y,ty,pos,af,none⟩::rest):=fun F H hp =>
 LF.chg (Av.makeN (F:=F) (r:=rBV) (n:=m) (a:=default) hT hE (by rw[hz];rfl) (by decide) hx hy hI hJ h1.1 h1.2 (by rw[hz];exact⟨⟨rfl,rfl⟩,⟨rfl,rfl⟩,⟨rfl,rfl⟩,rL.nil _,rL.nil _,rfl,rfl⟩)) (by
  rintro _ H' ⟨g,rfl,eg,sg,kg,hb⟩
  refine k g F H' (hp.new (R:=bk X.n (.slice (some ⟨g,0,none⟩) m m) (List.replicate m default) (List.replicate m default)) kg ⟨⟨by simp,by simp;exact .inr rfl⟩,?_⟩ ?_)
  ·have hB:X.n≤H'.size:=Nat.le_trans hp.hw.1 kg.1
   refine⟨⟨(hb hp.hin).base hp.hw.1,hB⟩,fun k _ ho=>?_,?_,fun k ho=>?_,?_,fun _ _ h=>h,trivial⟩
   ·simp only[List.map_replicate] at ho
    exact ho.elim (fun h=>Pf m h) (fun h=>h.elim (fun h=>Pf m h) id)
   ·rw[List.map_replicate,List.map_replicate];exact Xn hB m
   ·rw[List.map_replicate,List.map_replicate] at ho;exact(Pf m ho).elim
   ·rw[List.map_replicate,List.map_replicate];exact Xn hB m
  ·rintro k (h|h|h|h)
   ·exact((hb hp.hin).blk k h).1
   ·rw[List.map_replicate,List.map_replicate] at h;exact(Pf m h).elim
   ·rw[List.map_replicate,List.map_replicate] at h;exact(Pf m h).elim
   ·exact h.elim) hd
abbrev Pm(bs:List D.Block):Prop:=bs.length<1073741824∧∀b∈bs,b.Phis.length<1073741824∧b.Ins.length<1073741824
theorem Yz(hin:InH F H)(h:(bk B v qs bs).sat F H)(hl:Pm bs):∃G,F.le G∧InH G H∧(∀k,k<B→G k=F k)∧(∀k,¬(bk B v qs bs).own k→G k=F k)∧(rL Af).rv G v bs:=by
 obtain⟨hf,o1,o2,o3,o4,o5,_⟩:=h
 have o1':Gl rBV 62 F H B v qs:=o1.1
 obtain⟨G,f1,f2,f3,f4,f5⟩:=o1'.freeze (N:=1073741824) hin (by rw[hf.1];exact hl.1)
 have q3:Ok G H (rws B Aw 65 (qs.map BV.P) (bs.map D.Block.Phis)):=Ok.st f1 (Nat.le_refl _) (fun k hk=>(f4 k (fun e1=>o2 k e1 (.inl hk))).trans (Ok.no (L:=rws B Aw 65 (qs.map BV.P) (bs.map D.Block.Phis)) o3 hk)) (fun _ _=>rfl) o3
 obtain⟨K,g1,g2,g3,g4,g5⟩:=Sy f2 q3 (by simp[hf.1]) (fun l hl'=>by obtain⟨b,hb,rfl⟩:=List.mem_map.1 hl';exact(hl.2 b hb).1)
 have q5:Ok K H (rws B Am 67 (qs.map BV.I) (bs.map D.Block.Ins)):=Ok.st (f1.trans g1) (Nat.le_refl _) (fun k hk=>((g4 k (fun h=>o4 k h (.inl hk))).trans (f4 k (fun e1=>o2 k e1 (.inr (.inl hk))))).trans (Ok.no (L:=rws B Am 67 (qs.map BV.I) (bs.map D.Block.Ins)) o5 hk)) (fun _ _=>rfl) o5
 obtain⟨J,i1,i2,i3,i4,i5⟩:=Sy g2 q5 (by simp[hf.1]) (fun l hl'=>by obtain⟨b,hb,rfl⟩:=List.mem_map.1 hl';exact(hl.2 b hb).2)
 refine⟨J,(f1.trans g1).trans i1,i2,fun k hk=>(i3 k hk).trans ((g3 k hk).trans (f3 k hk)),fun k hk=>(i4 k (fun h=>hk (.inr (.inr (.inl h))))).trans ((g4 k (fun h=>hk (.inr (.inl h)))).trans (f4 k (fun h=>hk (.inl h)))),?_⟩
 obtain⟨a,b,c,d,f,g,g',x,y⟩:=Rp.rv.up f5 (g1.trans i1)
 refine⟨hf.1▸a,b,c,hf.1▸d,hf.1▸f,fun i hi=>g i (by rw[hf.1];exact hi),g',fun i hi=>x i (by rw[hf.1];exact hi),fun i hi=>?_⟩
 have hi':i<qs.length:=by rw[hf.1];exact hi
 have h2:=y i hi'
 have h3:=Rp.rv.up (g5 i (by simpa using hi') (by simpa using hi)) i1
 have h4:=i5 i (by simpa using hi') (by simpa using hi)
 simp only[List.getElem_map] at h3 h4
 have h5:qs[i].T=bs[i].Term:=by
  have:=congrArg (fun l=>l[i]?) hf.2
  simpa[hi,hi'] using this
 have h6:Bf.ok J qs[i].T (fun q=>g' (i*6+(q+1+1))):=h2.2.2
 rw[h5] at h6
 refine⟨(rL Aw).ext (fun j hj=>?_) h3,(rL Am).ext (fun j hj=>?_) h4,h6⟩
 ·rw[show j=0 from Nat.lt_one_iff.1 hj];exact h2.1.1.symm
 ·rw[show j=0 from Nat.lt_one_iff.1 hj];exact h2.2.1.1.symm
theorem PT(hp:Hp X Γ L F H)(hk:Tk L (bk X.n v qs bs) M)(hl:Pm bs):∃G,Hp X (dv (rL Af) v bs::Γ) M G H:=by
 obtain⟨o1,o2,o3⟩:=hk.ok hp.ok
 obtain⟨G,h1,h2,h3,h4,h5⟩:=Yz hp.hin o1 hl
 have h6:∀k,Own M k→G k=F k:=fun k hk1=>h4 k (fun e1=>o2 k e1 hk1)
 exact⟨G,⟨⟨hp.hx.1.trans h1,fun k hk1=>(h3 k hk1).trans (hp.hx.2 k hk1)⟩,h2,hp.hw,⟨h5,hp.hd.up h1⟩,o3.st h1 (Nat.le_refl _) (fun k hk1=>(h6 k hk1).trans (o3.no hk1)) (fun _ _=>rfl),fun k hk1=>hp.ge k (hk.own (.inr hk1))⟩⟩
theorem JG{x:Exit}(hk:Tk L (bk X.n v qs bs) M)(hl:Pm bs)(k:QH n w0 Q X (dv (rL Af) v bs::Γ) M e x):QH n w0 Q X Γ L e x:=fun F H hp=>by
 obtain⟨G,h⟩:=PT hp hk hl;exact k G H h
variable{f:FuncId}{args:Array Value}{x:Value}
theorem QI{T:TypeId}{F G:PH}{H:Heap}{B:Nat}{v:Value}{l:List Bool}(h:Gl rB T G H B v l)(hl:F.le G):Gl rB T F H B v l:=by
 obtain⟨xs,h1,h2,h3⟩:=h
 refine⟨xs,h1,fun b hb=>?_,h3⟩
 cases hF:F b with
 | none=>rfl
 | some o=>have:=hl b o hF;rw[h2 b hb] at this;cases this
theorem Zn{kd:IntKind}{T2:TypeId}{m:List Int}(h:Tg P f args (dv (rL Af) v bs::D0) [] (rI kd) T2 m)(hl:Pm bs):Tr P f args D0 [bk B v qs bs] (fun v:Value=>v) (fun _=>[]) (fun B' u=>[gl B' (rI kd) T2 u m,bk B v qs bs]):=fun F H hin hd ho=>by
 obtain⟨G,g1,g2,g3,g4,g5⟩:=Yz hin ho.1 hl
 refine(h G H g2 ⟨g5,hd.up g1⟩ trivial).mono ?_
 rintro u H' ⟨_,F',rfl,h2⟩
 refine⟨u,F,rfl,fun B' hB=>?_⟩
 have h3:=h2 B' hB
 obtain⟨a,b,c⟩:=h3.less hin g1
 have hu:∀k,u.ownBlock=some k→H.size≤k:=fun k hk=>(h3.ge k (.inl hk)).resolve_right id
 refine⟨a,b,⟨c.1,fun k hk hn=>c.2 k hk id⟩,trivial,⟨⟨h3.ok.1.1.flatI (g1.trans h3.hx.1),h3.ok.1.2⟩,fun k hk ho'=>?_,⟨Res.st _ (PH.le.refl F) c.1 (fun k hk=>Res.no _ ho.1 hk) (fun k hk=>c.2 k (Res.lt _ ho.1 hk) id) ho.1,fun _ _=>id,trivial⟩⟩,fun k hk=>?_⟩
 ·have h4:=Res.lt _ ho.1 (ho'.resolve_right id)
  have h5:=hu k hk
  omega
 ·rcases hk with hk|hk
  ·exact .inl (hu k hk)
  ·exact .inr hk
theorem TE{T2:TypeId}{m:List Bool}(h:Tg P f args (dv (rL Af) v bs::D0) [] rB T2 m)(hl:Pm bs):Tr P f args D0 [bk B v qs bs] (fun v:Value=>v) (fun _=>[]) (fun B' u=>[gl B' rB T2 u m,bk B v qs bs]):=fun F H hin hd ho=>by
 obtain⟨G,g1,g2,g3,g4,g5⟩:=Yz hin ho.1 hl
 refine(h G H g2 ⟨g5,hd.up g1⟩ trivial).mono ?_
 rintro u H' ⟨_,F',rfl,h2⟩
 refine⟨u,F,rfl,fun B' hB=>?_⟩
 have h3:=h2 B' hB
 obtain⟨a,b,c⟩:=h3.less hin g1
 have hu:∀k,u.ownBlock=some k→H.size≤k:=fun k hk=>(h3.ge k (.inl hk)).resolve_right id
 refine⟨a,b,⟨c.1,fun k hk hn=>c.2 k hk id⟩,trivial,⟨⟨QI h3.ok.1.1 (g1.trans h3.hx.1),h3.ok.1.2⟩,fun k hk ho'=>?_,⟨Res.st _ (PH.le.refl F) c.1 (fun k hk=>Res.no _ ho.1 hk) (fun k hk=>c.2 k (Res.lt _ ho.1 hk) id) ho.1,fun _ _=>id,trivial⟩⟩,fun k hk=>?_⟩
 ·have h4:=Res.lt _ ho.1 (ho'.resolve_right id)
  have h5:=hu k hk
  omega
 ·rcases hk with hk|hk
  ·exact .inl (hu k hk)
  ·exact .inr hk
end
section
variable{P:Program}{Γ:List Dt}{L M:List Res}{e:Env}{F:PH}{H:Heap}{B j i o:Nat}{v u:Value}{qs:List BV}{bs:List D.Block}{T:TypeId}{x y:Operand}{kd:IntKind}{I:Int}
theorem Uy(h:(bk B v qs bs).sat F H)(h1:j<bs.length):Gl Aw 65 F H B (ix qs j).P (ix bs j).Phis:=by
 have hl:j<qs.length:=by rw[h.1.1];exact h1
 obtain⟨h3,h4⟩:=Sx (B:=B) (r:=Aw) (T:=65) (vs:=qs.map BV.P) (ls:=bs.map D.Block.Phis) (i:=j) (by simpa using hl) (by simpa using h1)
 have h5:=((Ok.focus h3).1 h.2.2.2.1).1
 rw[h4,Ib BV.P hl,Ib D.Block.Phis h1] at h5;exact h5.1
theorem Yy(h:(bk B v qs bs).sat F H)(h1:j<bs.length):Gl Am 67 F H B (ix qs j).I (ix bs j).Ins:=by
 have hl:j<qs.length:=by rw[h.1.1];exact h1
 obtain⟨h3,h4⟩:=Sx (B:=B) (r:=Am) (T:=67) (vs:=qs.map BV.I) (ls:=bs.map D.Block.Ins) (i:=j) (by simpa using hl) (by simpa using h1)
 have h5:=((Ok.focus h3).1 h.2.2.2.2.2.1).1
 rw[h4,Ib BV.I hl,Ib D.Block.Ins h1] at h5;exact h5.1
theorem OC(hT:P.underlying T=some (.slice 65))(hk:Tk L (bk B v qs bs) M)(h1:j<bs.length)(hx:ev e x=some (ix qs j).P):OH P Γ L e (.call { callee := .builtin .len,args:=#[x],argTypes:=#[T] }) (.int .i64 ((ix bs j).Phis.length:Nat)):=fun F H _ _ h=>Aa.lenG hT (Uy (hk.ok h).1 h1) hx
theorem OB(hT:P.underlying T=some (.slice 67))(hk:Tk L (bk B v qs bs) M)(h1:j<bs.length)(hx:ev e x=some (ix qs j).I):OH P Γ L e (.call { callee := .builtin .len,args:=#[x],argTypes:=#[T] }) (.int .i64 ((ix bs j).Ins.length:Nat)):=fun F H _ _ h=>Aa.lenG hT (Yy (hk.ok h).1 h1) hx
theorem Y2(hT:P.underlying T=some (.slice 65))(hE:Sz P 65 2)(hk:Tk L (bk B v qs bs) M)(h1:j<bs.length)(hx:ev e x=some (ix qs j).P)(hi:ev e y=some (.int kd I))(hI:I=i)(h2:i<(ix bs j).Phis.length):OH P Γ L e (.indexAddr T x y) (.pointer (some ⟨Cb (ix qs j).P,Ca (ix qs j).P+i*2,none⟩)):=fun F H _ _ h=>Aa.idxG hT hE (Uy (hk.ok h).1 h1) hx hi hI h2 (by decide)
theorem OG(hT:P.underlying T=some (.slice 67))(hE:Sz P 67 5)(hk:Tk L (bk B v qs bs) M)(h1:j<bs.length)(hx:ev e x=some (ix qs j).I)(hi:ev e y=some (.int kd I))(hI:I=i)(h2:i<(ix bs j).Ins.length):OH P Γ L e (.indexAddr T x y) (.pointer (some ⟨Cb (ix qs j).I,Ca (ix qs j).I+i*5,none⟩)):=fun F H _ _ h=>Aa.idxG hT hE (Yy (hk.ok h).1 h1) hx hi hI h2 (by decide)
theorem OI(hk:Tk L (bk B v qs bs) M)(h1:j<bs.length)(h2:i<(ix bs j).Phis.length)(hT:One P T)(hx:ev e x=some (.pointer (some ⟨Cb (ix qs j).P,o,none⟩)))(ho:o=Ca (ix qs j).P+i*2+0):OH P Γ L e (.load T x) (.int .i64 (ix (ix bs j).Phis i).Dst):=fun F H _ _ h=>by
 obtain⟨f,h3,h4⟩:=(Uy (hk.ok h).1 h1).cellP (off:=0) h2 (by decide)
 rw[show f 0 = .int .i64 (ix (ix bs j).Phis i).Dst from h3.1.1] at h4
 exact Aa.load hT hx rfl (by rw[ho];exact h4)
theorem EH(hk:Tk L (bk B v qs bs) M)(h1:j<bs.length)(h2:i<(ix bs j).Phis.length):Wr Γ L .i64 (ix (ix bs j).Phis i).Dst:=fun F H _ _ h=>by
 obtain⟨f,h3,_⟩:=(Uy (hk.ok h).1 h1).cellP (off:=0) h2 (by decide)
 exact h3.1.2
theorem OL(hk:Tk L (bk B v qs bs) M)(h1:j<bs.length)(h2:i<(ix bs j).Ins.length)(hT:Ag9 P T)(hS:Sz P T 5)(hx:ev e x=some (.pointer (some ⟨Cb (ix qs j).I,Ca (ix qs j).I+i*5,none⟩))):OE P Γ L e (.load T x) (fun u F=>(da Am u (ix (ix bs j).Ins i)).sat F):=fun F H _ _ h=>Aa.ldGA (Yy (hk.ok h).1 h1) h2 hT hS hx
theorem bkn(hB:B≤H.size):(bk B (.slice none 0 0) [] []).sat F H:=⟨⟨rfl,rfl⟩,⟨Gl.nil _ _ _,hB⟩,(fun k h=>by cases h),trivial,(fun _ h=>h.elim),trivial,(fun _ h=>h.elim),trivial⟩
end
theorem OA{P:Program}{Γ:List Dt}{L:List Res}{e:Env}{X:Cx}{n:Fs}{w0:World}{Q:Exit→Act→World→Prop}{ops:Array Oper}{rest:List Oper}(k:LH P n w0 ops Q X Γ (bk X.n (.slice none 0 0) [] []::L) e rest):LH P n w0 ops Q X Γ L e rest:=fun F H hp=>k F H (hp.new (R:=bk X.n (.slice none 0 0) [] []) (Kp.refl _ _) (bkn hp.hw.1) (fun k h=>by rcases h with h|h|h|h;(· cases h);(· exact h.elim);(· exact h.elim);exact h.elim))
def SlB(v:Value)(m:Nat):Prop:=∃a c,v = .slice a m c∧(0<m→∃g,a=some ⟨g,0,none⟩)
section
variable{P:Program}{Γ:List Dt}{L M:List Res}{e:Env}{X:Cx}{n:Fs}{w0:World}{Q:Exit→Act→World→Prop}{B j m:Nat}{v:Value}{qs:List BV}{bs:List D.Block}{T:TypeId}{x y:Operand}{k:IntKind}{I:Int}{c:Code}{ops:Array Oper}{rest:List Oper}
theorem CI{F:PH}{H:Heap}(h:(bk B v qs bs).sat F H)(hm:bs.length=m):SlB v m:=by
 obtain⟨xs,g1,_⟩:=h.2.1.1
 rw[h.1.1,hm] at g1
 rcases g1.2 with⟨h9,h8⟩|⟨g,cap,cur,h9,_⟩
 ·subst h8;exact⟨_,_,h9,fun h=>absurd h (Nat.lt_irrefl 0)⟩
 ·exact⟨_,_,h9,fun _=>⟨g,rfl⟩⟩
theorem cbk(hk:Tk L (bk B v qs bs) M)(hm:bs.length=m)(kk:SlB v m→CH P n w0 Q X Γ L e c):CH P n w0 Q X Γ L e c:=fun F H hp=>kk (CI (hp.at hk) hm) F H hp
theorem lbk(hk:Tk L (bk B v qs bs) M)(hm:bs.length=m)(kk:SlB v m→LH P n w0 ops Q X Γ L e rest):LH P n w0 ops Q X Γ L e rest:=fun F H hp=>kk (CI (hp.at hk) hm) F H hp
theorem Gb(hT:P.underlying T=some (.slice 62))(hE:Sz P 62 6)(hv:SlB v m)(hx:ev e x=some v)(hi:ev e y=some (.int k I))(hI:I=j)(h1:j<m):OH P Γ L e (.indexAddr T x y) (.pointer (some ⟨Cb v,Ca v+j*6,none⟩)):=fun F H _ _ _=>by
 obtain⟨a,cap,rfl,hg⟩:=hv
 obtain⟨g,rfl⟩:=hg (by omega)
 subst hI
 have:=Aa.indexA (H:=H) hT hE hx hi (by omega) (by omega)
 simpa[Cb,Ca] using this
end
theorem Ri{k:IntKind}{l:List Int}(h:∀x∈l,k.wrap x=x)(h0:k.wrap 0=0)(i:Nat):k.wrap (ix l i)=ix l i:=by
 by_cases hi:i<l.length
 ·exact h _ (Ax hi)
 ·simp only[ix,List.getD,List.getElem?_eq_none (Nat.le_of_not_lt hi),Option.getD_none];exact h0
theorem Ut{F:PH}{v:Value}{m:D.Func}(hw:IntKind.i64.wrap m.Params=m.Params)(h:AllD F [dv (rL Af) v m.Blocks]):AllD F [da Aj (vFunc m v) m]:=⟨Aj.mk h.1 hw,trivial⟩
structure Mk where
 s:List Int
 k:Int
 par:Int
 bs:List D.Block
 nx:Int
 lv:List Int
def tVV(n:Int)(m:Mk):Int:=Int.tmod (Int.tmod (if m.k<m.s.length then ix m.s m.k.toNat else 0) n+n) n
def tSS(m:Mk):Mk:={ m with k:=m.k+1 }
def Ay(m:Mk):Int :=
 if tVV 8 (tSS m)=0 then IntKind.i32.wrap (tVV 1048576 m*4099)
 else if tVV 8 (tSS m)=1 then -tVV 1048576 m
 else if tVV 8 (tSS m)=2 then -2147483648
 else if tVV 8 (tSS m)=3 then Int.tmod (tVV 1048576 m) 70000
 else Int.tmod (tVV 1048576 m) 20-4
def Ck(m:Mk):Mk:=tSS (tSS m)
def Dz(m:Mk):Bool:=!decide (m.lv.length=0)
def Em(m:Mk):Int:=if tVV 3 (tSS m)=0 then (m.lv.length:Int)-1 else tVV m.lv.length m
def El(m:Mk):Int:=if m.lv.length=0 then 0 else ix m.lv (Em m).toNat
def Cw(m:Mk):Mk:=if m.lv.length=0 then m else tSS (tSS m)
def Bj(m:Mk):Mk:={ m with nx:=m.nx+1 }
def Ba(i:D.Ins):List Int:=if i.Op=16 then [] else if i.Op=18 then [i.Dst,i.Two] else [i.Dst]
def Cc(b:Int)(i:D.Ins)(m:Mk):Mk:={ m with bs:=m.bs.set b.toNat { (ix m.bs b.toNat) with Ins:=(ix m.bs b.toNat).Ins++[i] },lv:=m.lv++Ba i }
def Bq(b n:Int)(m:Mk):Mk:=Cc b ⟨1,m.nx,0,[],n⟩ (Bj m)
def Gu(m:Mk):Bool:=!Dz m||decide (tVV 9 (Cw m)=0)
def Dg(m:Mk):Mk:=if Dz m then tSS (Cw m) else Cw m
def sV9(m:Mk):Int:=if Gu m then (Ck (Dg m)).nx else El m
def sS9(b:Int)(m:Mk):Mk:=if Gu m then Bq b (Ay (Dg m)) (Ck (Dg m)) else Dg m
def Bw:List D.Block→Nat
 | []=>0
 | x::l=>x.Phis.length+x.Ins.length+1+Bw l
theorem BM:∀{l:List D.Block} {j:Nat},j<l.length→(ix l j).Phis.length+(ix l j).Ins.length≤Bw l
 | x::l,0,_=>by rw[Fq,Bw];omega
 | x::l,j+1,h=>by rw[Fi,Bw];have:=BM (l:=l) (j:=j) (by simpa using h);omega
theorem BK:∀{l:List D.Block} {j d:Nat} {b:D.Block},b.Phis.length+b.Ins.length≤(ix l j).Phis.length+(ix l j).Ins.length+d→Bw (l.set j b)≤Bw l+d
 | [],_,_,_,_=>by simp[Bw]
 | x::l,0,_,b,h=>by rw[Fq] at h;rw[List.set_cons_zero,Bw,Bw];omega
 | x::l,j+1,d,b,h=>by rw[Fi] at h;rw[List.set_cons_succ,Bw,Bw];have:=BK (l:=l) h;omega
theorem RZ(n:Nat):Bw (List.replicate n default)=n:=by
 induction n with
 | zero=>rfl
 | succ n ih=>rw[List.replicate_succ,Bw,ih];show 0+0+1+n=n+1;omega
def okM(nb c:Nat)(m:Mk):Prop:=(0≤m.k∧m.k≤c)∧(0≤m.nx∧m.nx≤c)∧(0≤m.par∧m.par≤4)∧m.lv.length≤2*c+4∧m.bs.length=nb∧Bw m.bs≤c
theorem okM.bnd{nb c:Nat}{m:Mk}(h:okM nb c m):0≤m.k∧m.k≤c∧0≤m.nx∧m.nx≤c∧0≤m.par∧m.par≤4∧m.lv.length≤2*c+4∧m.bs.length=nb∧Bw m.bs≤c:=⟨h.1.1,h.1.2,h.2.1.1,h.2.1.2,h.2.2.1.1,h.2.2.1.2,h.2.2.2.1,h.2.2.2.2.1,h.2.2.2.2.2⟩
theorem okM.row{nb c:Nat}{m:Mk}(h:okM nb c m){j:Nat}(hj:j<nb):(ix m.bs j).Phis.length≤c∧(ix m.bs j).Ins.length≤c:=by
 have h1:=BM (l:=m.bs) (j:=j) (by rw[h.2.2.2.2.1];exact hj)
 have h2:=h.2.2.2.2.2
 omega
theorem okM.mono{nb c c':Nat}{m:Mk}(h:okM nb c m)(hc:c≤c'):okM nb c' m:=⟨⟨h.1.1,by have:=h.1.2;omega⟩,⟨h.2.1.1,by have:=h.2.1.2;omega⟩,h.2.2.1,by have:=h.2.2.2.1;omega,h.2.2.2.2.1,by have:=h.2.2.2.2.2;omega⟩
theorem okM.setk{nb c c':Nat}{m:Mk}{x:Int}(h:okM nb c m)(hx:0≤x∧x≤c')(hc:c≤c'):okM nb c' { m with k:=x }:=⟨hx,(h.mono hc).2⟩
theorem okM.setnx{nb c c':Nat}{m:Mk}{x:Int}(h:okM nb c m)(hx:0≤x∧x≤c')(hc:c≤c'):okM nb c' { m with nx:=x }:=⟨(h.mono hc).1,hx,(h.mono hc).2.2⟩
theorem okM.setpar{nb c c':Nat}{m:Mk}{x:Int}(h:okM nb c m)(hx:0≤x∧x≤4)(hc:c≤c'):okM nb c' { m with par:=x }:=⟨(h.mono hc).1,(h.mono hc).2.1,hx,(h.mono hc).2.2.2⟩
theorem okM.setlv{nb c c':Nat}{m:Mk}{x:List Int}(h:okM nb c m)(hx:x.length≤2*c'+4)(hc:c≤c'):okM nb c' { m with lv:=x }:=⟨(h.mono hc).1,(h.mono hc).2.1,(h.mono hc).2.2.1,hx,(h.mono hc).2.2.2.2⟩
theorem okM.setb{nb c d:Nat}{m:Mk}{j:Nat}{b:D.Block}(h:okM nb c m)(hx:b.Phis.length+b.Ins.length≤(ix m.bs j).Phis.length+(ix m.bs j).Ins.length+d):okM nb (c+d) { m with bs:=m.bs.set j b }:=by
 have h1:Bw (m.bs.set j b)≤Bw m.bs+d:=BK (l:=m.bs) hx
 have h2:=h.2.2.2.2.2
 have h3:okM nb (c+d) m:=h.mono (Nat.le_add_right _ _)
 exact⟨h3.1,h3.2.1,h3.2.2.1,h3.2.2.2.1,by simpa using h3.2.2.2.2.1,Nat.le_trans h1 (by omega)⟩
theorem okM.setbs{nb c n:Nat}{m:Mk}(h:okM nb c m):okM n (c+n) { m with bs:=List.replicate n default }:=by
 have h3:okM nb (c+n) m:=h.mono (Nat.le_add_right _ _)
 exact⟨h3.1,h3.2.1,h3.2.2.1,h3.2.2.2.1,by simp,by show Bw (List.replicate n default)≤_;rw[RZ];omega⟩
section
variable{nb c:Nat}{m:Mk}
theorem tO9(h:okM nb c m):okM nb (c+1) (tSS m):=h.setk (by have:=h.bnd;omega) (by omega)
theorem Ki(h:okM nb c m):okM nb (c+2) (Ck m):=tO9 (tO9 h)
theorem Vz(h:okM nb c m):okM nb (c+2) (Cw m):=by unfold Cw;split;exact h.mono (by omega);exact tO9 (tO9 h)
theorem Dm(h:okM nb c m):okM nb (c+1) (Bj m):=h.setnx (by have:=h.bnd;omega) (by omega)
theorem Pi(i:D.Ins):(Ba i).length≤2:=by unfold Ba;(repeat' split)<;>simp
theorem Dj{b:Int}{i:D.Ins}(h:okM nb c m)(hb:b.toNat<nb):okM nb (c+2) (Cc b i m) :=
 okM.setlv (m:={ m with bs:=m.bs.set b.toNat { (ix m.bs b.toNat) with Ins:=(ix m.bs b.toNat).Ins++[i] } }) (c:=c+1) (h.setb (d:=1) (by dsimp only;rw[List.length_append];simp only[List.length_cons,List.length_nil];omega)) (by have:=h.bnd;have:=Pi i;simp only[List.length_append];omega) (by omega)
theorem Gm{b n:Int}(h:okM nb c m)(hb:b.toNat<nb):okM nb (c+3) (Bq b n m):=Dj (Dm h) hb
theorem G9(h:okM nb c m):okM nb (c+3) (Dg m):=by unfold Dg;split;exact tO9 (Vz h);exact(Vz h).mono (by omega)
theorem Dk{b:Int}(h:okM nb c m)(hb:b.toNat<nb):okM nb (c+8) (sS9 b m):=by
 unfold sS9;split
 ·exact(Gm (Ki (G9 h)) hb).mono (by omega)
 ·exact(G9 h).mono (by omega)
theorem tV9{n:Int}(hn:0<n)(m:Mk):0≤tVV n m∧tVV n m<n:=by
 unfold tVV
 generalize (if m.k<m.s.length then ix m.s m.k.toNat else 0)=x
 have h1:=Int.lt_tmod_of_pos x hn
 exact⟨Int.tmod_nonneg _ (by omega),Int.tmod_lt_of_pos _ hn⟩
theorem Mh(m:Mk):IntKind.i32.wrap (Ay m)=Ay m:=by
 have h:=tV9 (n:=1048576) (by omega) m
 have h2:=Int.tmod_nonneg 70000 h.1
 have h3:=Int.tmod_lt_of_pos (tVV 1048576 m) (b:=70000) (by omega)
 have h4:=Int.tmod_nonneg 20 h.1
 have h5:=Int.tmod_lt_of_pos (tVV 1048576 m) (b:=20) (by omega)
 unfold Ay
 repeat' split
 ·exact JE.wrap_wrap _ _
 all_goals exact IntWalk.i32_in _ (by omega)
theorem C1:(Cw m).s=m.s:=by unfold Cw;split<;>rfl
theorem Eu{b:Int}{i:D.Ins}:(Cc b i m).s=m.s:=rfl
theorem Kc{b n:Int}:(Bq b n m).s=m.s:=rfl
theorem Fe{b:Int}:(sS9 b m).s=m.s:=by unfold sS9 Dg;(repeat' split)<;>first|rfl|exact C1
end
theorem okM.lens{nb c:Nat}{m:Mk}(h:okM nb c m)(hc:c<1073741824):∀b∈m.bs,b.Phis.length<1073741824∧b.Ins.length<1073741824:=fun b hb=>by
 obtain⟨j,hj,rfl⟩:=List.getElem_of_mem hb
 have h1:=h.row (j:=j) (by rw[←h.2.2.2.2.1];exact hj)
 rw[Bp hj] at h1
 omega
abbrev okS(nb c:Nat)(S:List Int)(m:Mk):Prop:=okM nb c m∧m.s=S
abbrev bnd(nb c:Nat)(m:Mk):Prop:=0≤m.k∧m.k≤c∧0≤m.nx∧m.nx≤c∧0≤m.par∧m.par≤4∧m.lv.length≤2*c+4∧m.bs.length=nb∧Bw m.bs≤c
theorem okS.mono{nb c c':Nat}{S:List Int}{m:Mk}(h:okS nb c S m)(hc:c≤c'):okS nb c' S m:=⟨okM.mono h.1 hc,h.2⟩
theorem okS.lens{nb c:Nat}{S:List Int}{m:Mk}(h:okS nb c S m)(hc:c<1073741824)(hn:nb<1073741824):Pm m.bs:=⟨by rw[(okM.bnd h.1).2.2.2.2.2.2.2.1];exact hn,okM.lens h.1 hc⟩
abbrev mc(m:Mk)(vs vb al:Value):List Value:=[vs,.int .i64 m.k,.int .i64 m.par,vb,.int .i64 m.nx,al]
abbrev KA(P:Program)(f:FuncId)(args:List Value)(D0:List Dt)(g:Nat)(vs vb al:Value)(S:List Int)(m st:Mk)(val:Value):Prop :=
 Tr P f (.pointer (some ⟨g,0,none⟩)::args).toArray (dv (rL (rI .i64)) vs S::D0) [bx g 108 (mc m vs vb al)] (fun _:Unit=>val) (fun _=>[]) (fun _ _=>[bx g 108 (mc st vs vb al)])
abbrev KB(P:Program)(f:FuncId)(args:List Value)(D0:List Dt)(g:Nat)(vs vb al:Value)(S:List Int)(B B2:Nat)(qs:List BV)(E:List Dt)(m st:Mk)(val:Value):Prop :=
 Tr P f (.pointer (some ⟨g,0,none⟩)::args).toArray (dv (rL (rI .i64)) vs S::D0) [bx g 108 (mc m vs vb al),gl B (rI .i64) 3 al m.lv,bk B2 vb qs m.bs] (fun _:Value×List BV=>val) (fun _=>E) (fun _ p=>[bx g 108 (mc st vs vb p.1),gl B (rI .i64) 3 p.1 st.lv,bk B2 vb p.2 st.bs])
abbrev KD{α:Type}(P:Program)(f:FuncId)(args:List Value)(D0:List Dt)(g:Nat)(vs vb al:Value)(S:List Int)(r:Rp α)(a:α)(m st:Mk):Prop :=
 Tr P f (.pointer (some ⟨g,0,none⟩)::args).toArray (dv (rL (rI .i64)) vs S::D0) [bx g 108 (mc m vs vb al)] (fun v:Value=>v) (fun v=>[dv r v a]) (fun _ _=>[bx g 108 (mc st vs vb al)])
def wf(k:IntKind)(n:Int):Dt:=⟨fun _=>k.wrap n=n,fun _ h=>h⟩
theorem wca{Γ:List Dt}{L:List Res}{k:IntKind}{a b:Int}(e:a=b)(h:Wr Γ L k b):Nd Γ L (wf k a):=e▸h
theorem wfw{Γ:List Dt}{L:List Res}{k:IntKind}{a:Int}(h:Nd Γ L (wf k a)):Wr Γ L k a:=h
theorem kck{L M N Ls:List Res}{B:Nat}{v:Value}{qs:List BV}{bs bs':List D.Block}(e:bs'=bs)(h:Tk L (bk B v qs bs) M)(h':Tks M Ls N):Tks L (bk B v qs bs'::Ls) N:=e▸kc h h'
section
variable{P:Program}{Γ Γ' E D0:List Dt}{L M N:List Res}{e:Env}{X:Cx}{n:Fs}{w0:World}{Q:Exit→Act→World→Prop}{ops:Array Oper}{d:Nat}{ty:TypeId}{pos:String}{af:Array Edge}{rest:List Oper}{f:FuncId}{h:Operand}{xs:List Operand}{ws:List Value}{ts:Array TypeId}{g B B2 nb c:Nat}{vs vb al val:Value}{S:List Int}{m st:Mk}{qs:List BV}
theorem Uh(h:KA P f ws D0 g vs vb al S m st val):KA P f (ws++[]) D0 g vs vb al S m st val:=by rw[List.append_nil];exact h
theorem MR(h:KB P f ws D0 g vs vb al S B B2 qs E m st val):KB P f (ws++[]) D0 g vs vb al S B B2 qs E m st val:=by rw[List.append_nil];exact h
theorem jka(hE:Ent P f)(hf:ev e h=some (.func (.func f) #[] #[]))(hl:evl e xs=some (.pointer (some ⟨g,0,none⟩)::ws))(hT:KA P f ws D0 g vs vb al S m st val)(hd:Sd Γ L (dv (rL (rI .i64)) vs S::D0))(hk:Tk L (bx g 108 (mc m vs vb al)) M)(ok:okS nb c S st)
  (k:∀x,x=st→okS nb c S x→bnd nb c x→LH P n w0 ops Q X Γ (bx g 108 (mc x vs vb al)::M) ((d,val)::e) rest) (hd1:Nat.blt d n.sz=true:=by rfl):LH P n w0 ops Q X Γ L e (⟨some d,.call { callee := .value h,args:=xs.toArray,argTypes:=ts },ty,pos,af,none⟩::rest) :=
 jc (cs:=[]) hE hf hl (Uh hT) hd (kc hk kn) (fun _=>rfl) (fun _=>rfl) (fun _=>k st rfl ok (okM.bnd ok.1)) hd1
theorem We{A:Res}{Ls:List Res}(h:Tks L (A::Ls) M):Tks L [A] (Ls++M) where
 ok:=fun o=>by
  obtain⟨⟨a,b,c⟩,m,dj⟩:=h.ok o
  exact⟨⟨a,fun _ _=>id,trivial⟩,Ok.app c m (fun k hk=>dj k (.inr hk)),fun k hk ho=>(Own.app.1 ho).elim (fun h2=>b k (hk.resolve_right id) h2) (dj k (.inl (hk.resolve_right id)))⟩
 own:=fun ho=>h.own (ho.elim (fun h => .inl (.inl (h.resolve_right id))) (fun h=>(Own.app.1 h).imp .inr id))
theorem jkr(hE:Ent P f)(hf:ev e h=some (.func (.func f) #[] #[]))(hl:evl e xs=some (.pointer (some ⟨g,0,none⟩)::ws))(hT:KA P f ws D0 g vs vb al S m st val)(hd:Sd Γ L (dv (rL (rI .i64)) vs S::D0))(hk:Tks L [bx g 108 (mc m vs vb al),gl B (rI .i64) 3 al m.lv,bk B2 vb qs m.bs] M)(ok:okS nb c S st)
  (k:∀x,x=st→okS nb c S x→bnd nb c x→LH P n w0 ops Q X Γ (bx g 108 (mc x vs vb al)::gl B (rI .i64) 3 al x.lv::bk B2 vb qs x.bs::M) ((d,val)::e) rest) (h1:st.lv=m.lv:=by rfl) (h2:st.bs=m.bs:=by rfl) (hd1:Nat.blt d n.sz=true:=by rfl):LH P n w0 ops Q X Γ L e (⟨some d,.call { callee := .value h,args:=xs.toArray,argTypes:=ts },ty,pos,af,none⟩::rest) :=
 jc (cs:=[]) hE hf hl (Uh hT) hd (We hk) (fun _=>rfl) (fun _=>rfl) (fun _=>by have:=k st rfl ok (okM.bnd ok.1);rw[h1,h2] at this;exact this) hd1
theorem jkb(hE:Ent P f)(hf:ev e h=some (.func (.func f) #[] #[]))(hl:evl e xs=some (.pointer (some ⟨g,0,none⟩)::ws))(hT:KB P f ws D0 g vs vb al S B B2 qs E m st val)(hd:Sd Γ L (dv (rL (rI .i64)) vs S::D0))(hk:Tks L [bx g 108 (mc m vs vb al),gl B (rI .i64) 3 al m.lv,bk B2 vb qs m.bs] M)(ok:okS nb c S st)(hp:Ap E Γ Γ')
  (k:∀x,x=st→okS nb c S x→bnd nb c x→∀al' qs',Sv al'→LH P n w0 ops Q X Γ' (bx g 108 (mc x vs vb al')::gl B (rI .i64) 3 al' x.lv::bk B2 vb qs' x.bs::M) ((d,val)::e) rest) (hd1:Nat.blt d n.sz=true:=by rfl):LH P n w0 ops Q X Γ L e (⟨some d,.call { callee := .value h,args:=xs.toArray,argTypes:=ts },ty,pos,af,none⟩::rest) :=
 jc (cs:=[]) hE hf hl (MR hT) hd hk (fun _=>hp) (fun _=>rfl) (fun p=>jgo k1 fun h9=>k st rfl ok (okM.bnd ok.1) p.1 p.2 h9) hd1
theorem jkg{j t:Nat}{want Bb:Bool}{u:Value}(hj:(ops[j]?).bind (·.dst)=some t)(hu:lk e t=some u)(hB:Gd u want Bb)(hE:Ent P f)(hf:ev e h=some (.func (.func f) #[] #[]))(hl:Bb=true→evl e xs=some (.pointer (some ⟨g,0,none⟩)::ws))(hT:KA P f ws D0 g vs vb al S m st val)(hd:Sd Γ L (dv (rL (rI .i64)) vs S::D0))(hk:Tks L [bx g 108 (mc m vs vb al),gl B (rI .i64) 3 al m.lv,bk B2 vb qs m.bs] M)(ok:okS nb c S (if Bb then st else m))
  (k:∀x,x=(if Bb then st else m)→okS nb c S x→bnd nb c x→LH P n w0 ops Q X Γ (bx g 108 (mc x vs vb al)::gl B (rI .i64) 3 al x.lv::bk B2 vb qs x.bs::M) ((d,gv Bb val)::e) rest) (h1:st.lv=m.lv:=by rfl) (h2:st.bs=m.bs:=by rfl) (hd1:Nat.blt d n.sz=true:=by rfl) (ht:Nat.blt t n.sz=true:=by rfl):LH P n w0 ops Q X Γ L e (⟨some d,.call { callee := .value h,args:=xs.toArray,argTypes:=ts },ty,pos,af,some (j,want)⟩::rest):=fun F H hp=>by
 have hk1:=We hk
 refine LF.gcallF hj hu hB (fun hb=>Iv.fnc (cs:=[]) hE hf (hl hb)) (fun _=>(Uh hT).run hp hd hk1) (fun v' H' hz=>?_) hd1 ht
 rcases hz with⟨hb,_,F',rfl,h9⟩|⟨hb,rfl⟩
 ·subst hb
  have:=k st (by simp) (by simpa using ok) (okM.bnd (by simpa using ok.1))
  rw[h1,h2] at this
  exact this F' H' h9
 ·subst hb
  have:=k m (by simp) (by simpa using ok) (okM.bnd (by simpa using ok.1))
  exact this F _ (Jk hp hk)
theorem NN{j t:Nat}{want Bb:Bool}{u:Value}(hj:(ops[j]?).bind (·.dst)=some t)(hu:lk e t=some u)(hB:Gd u want Bb)(hE:Ent P f)(hf:ev e h=some (.func (.func f) #[] #[]))(hl:Bb=true→evl e xs=some (.pointer (some ⟨g,0,none⟩)::ws))(hT:KA P f ws D0 g vs vb al S m st val)(hd:Sd Γ L (dv (rL (rI .i64)) vs S::D0))(hk:Tk L (bx g 108 (mc m vs vb al)) M)(ok:okS nb c S (if Bb then st else m))
  (k:∀x,x=(if Bb then st else m)→okS nb c S x→bnd nb c x→LH P n w0 ops Q X Γ (bx g 108 (mc x vs vb al)::M) ((d,gv Bb val)::e) rest) (hd1:Nat.blt d n.sz=true:=by rfl) (ht:Nat.blt t n.sz=true:=by rfl):LH P n w0 ops Q X Γ L e (⟨some d,.call { callee := .value h,args:=xs.toArray,argTypes:=ts },ty,pos,af,some (j,want)⟩::rest):=fun F H hp=>by
 refine LF.gcallF hj hu hB (fun hb=>Iv.fnc (cs:=[]) hE hf (hl hb)) (fun _=>(Uh hT).run hp hd hk.tks) (fun v' H' hz=>?_) hd1 ht
 rcases hz with⟨hb,_,F',rfl,h9⟩|⟨hb,rfl⟩
 ·subst hb
  exact k st (by simp) (by simpa using ok) (okM.bnd (by simpa using ok.1)) F' H' h9
 ·subst hb
  exact k m (by simp) (by simpa using ok) (okM.bnd (by simpa using ok.1)) F _ (hp.front hk)
theorem jkd{α:Type}{r:Rp α}{N':Nat}{a:List α}(hE:Ent P f)(hf:ev e h=some (.func (.func f) #[] #[]))(hl:evl e xs=some (.pointer (some ⟨g,0,none⟩)::ws))(hT:KD P f (ws++[]) D0 g vs vb al S (rLn N' r) a m st)(hd:Sd Γ L (dv (rL (rI .i64)) vs S::D0))(hk:Tks L [bx g 108 (mc m vs vb al),gl B (rI .i64) 3 al m.lv,bk B2 vb qs m.bs] M)(ok:okS nb c S st)
  (k:∀x,x=st→okS nb c S x→bnd nb c x→∀v,Qn N' a.length→Sv v→LH P n w0 ops Q X (dv (rLn N' r) v a::Γ) (bx g 108 (mc x vs vb al)::gl B (rI .i64) 3 al x.lv::bk B2 vb qs x.bs::M) ((d,v)::e) rest) (h1:st.lv=m.lv:=by rfl) (h2:st.bs=m.bs:=by rfl) (hd1:Nat.blt d n.sz=true:=by rfl):LH P n w0 ops Q X Γ L e (⟨some d,.call { callee := .value h,args:=xs.toArray,argTypes:=ts },ty,pos,af,none⟩::rest) :=
 jc (cs:=[]) hE hf hl hT hd (We hk) (fun _=>rfl) (fun _=>rfl) (fun v=>jdq d0 fun h8 h9=>by have:=k st rfl ok (okM.bnd ok.1) v h8 h9;rw[h1,h2] at this;exact this) hd1
theorem jkn(st:Mk)(hk:Tks L [bx g 108 (mc st vs vb al),gl B (rI .i64) 3 al st.lv,bk B2 vb qs st.bs] M)(ok:okS nb c S st)
 (k:∀x,x=st→okS nb c S x→bnd nb c x→LH P n w0 ops Q X Γ (bx g 108 (mc x vs vb al)::gl B (rI .i64) 3 al x.lv::bk B2 vb qs x.bs::M) e rest):LH P n w0 ops Q X Γ L e rest:=fun F H hp=>k st rfl ok (okM.bnd ok.1) F H (Jk hp hk)
theorem Rf(st:Mk)(hk:Tk L (bx g 108 (mc st vs vb al)) M)(ok:okS nb c S st)
 (k:∀x,x=st→okS nb c S x→bnd nb c x→LH P n w0 ops Q X Γ (bx g 108 (mc x vs vb al)::M) e rest):LH P n w0 ops Q X Γ L e rest:=fun F H hp=>k st rfl ok (okM.bnd ok.1) F H (hp.front hk)
end
theorem DO:Fld Tryz.prog 108 0 0:=⟨_,_,Tryz.underlying108,rfl,rfl,1,(by unfold Sz;kernel_rfl),by decide⟩
theorem Qj:Fld Tryz.prog 108 1 1:=⟨_,_,Tryz.underlying108,rfl,rfl,1,(by unfold Sz;kernel_rfl),by decide⟩
theorem Dd{vs vb al:Value}{m:Mk}{nb c:Nat}{S:List Int}{g0:Nat}(hok:okS nb c S m)(hc:c≤1000000)(n:Int)(hn9:0<n∧n≤1000000000):KA Tryz.prog 47 [.int .i64 n] [] g0 vs vb al S m (tSS m) (.int .i64 (tVV n m)):=by
 refine Az (args:=[.pointer (some ⟨g0,0,none⟩),.int .i64 n]) Tryz.func47 rfl rfl rfl fun w0 X=>?_
 have bd0:=okM.bnd hok.1
 refine jq (jr (ja Z (jn (jx (jq (jr (ja Z (jn (jx (jq (jq ?_)))))))))))
 refine Gh Bi (by kernel_rfl) (jt (jmv Z) (jt (Ak Z) (jt (jf Qj Z) (jt (jl k0 O3 Z Z) (jt (jmv Z) (jt (Ak Z) (jt (jf DO Z) (jt (jl k0 O22 Z Z) (tdq d0 fun q1 w1=>jt (jln U22 d0 Z) (jt (Ar Z Z) ?_))))))))))
 refine jdn (jx ?_)
 refine jif Z (fun hc1=>?_) (fun hc1=>?_)
 refine Gh Bi (by kernel_rfl) (jt (jmv Z) (jt (Ak Z) (jt (jf DO Z) (jt (jl k0 O22 Z Z) (jt (jmv Z) (jt (Ak Z) (jt (jf Qj Z) (jt (jl k0 O3 Z Z) (jt (jix (i:=(Int.toNat m.k)) U22 Z3 d0 Z Z (by omega) (by omega)) (jt (jlI (dix d0 (Int.toNat m.k) (by omega)) O3 Z) (jt (jas Z) ?_)))))))))))
 refine jdn (jx (jq (jr (jm Z (jm Z (js (Ak Z) (js (jf Qj Z) (js (jl k0 O3 Z Z) (js (Al Z Z (by omega)) (js (Ak Z) (js (jf Qj Z) ?_)))))))))))
 refine jst k0 Z3 Z Z Z s1 (Rf (c:=c+1) ({ m with k:=m.k+1 }) k0 ⟨(okM.setk hok.1 (by omega) (by omega)),hok.2⟩ fun ms2 hms2 oms2 bms2=>?_)
 clear bd0
 refine jn (jx (jq (jr (jm Z (jm Z (js (Gi Z Z (by omega)) (jm Z ?_)))))))
 have hz1:=Int.tmod_lt_of_pos (ix S (Int.toNat m.k)) hn9.1
 have hz2:=Int.lt_tmod_of_pos (ix S (Int.toNat m.k)) hn9.1
 refine js (Al Z Z (by omega)) (jm Z (js (Gi Z Z (by omega)) (ja Z (jn (jx (jrt ?_))))))
 have hv0:tVV n m=(Int.tmod ((Int.tmod (ix S (Int.toNat m.k)) n)+n) n):=(by(try simp only[hms2] at hc1);(try simp only[hms2]);simp only[tVV,hok.2];simp[*])
 have hst:ms2=tSS m:=(by(try simp only[hms2] at hc1);(try simp only[hms2]);all_goals first|rfl|(simp[tVV,tSS,hc1];done)|(simp[tVV,tSS,hc1];rfl)|(unfold tVV tSS;(repeat' split)<;>first|rfl|(exfalso;omega)|(simp[hc1] at *;done)|(simp_all;done)))
 exact jr1 Z Z () (by rw[hv0]<;>rfl) dn (fun _ _=>(kcb (by rw[←hst]) k0 kn))
 refine jsk (jx (jq (jr (jm Z (jm Z (js (Ak Z) (js (jf Qj Z) (js (jl k0 O3 Z Z) (js (Al Z Z (by omega)) (js (Ak Z) (js (jf Qj Z) ?_)))))))))))
 refine jst k0 Z3 Z Z Z s1 (Rf (c:=c+1) ({ m with k:=m.k+1 }) k0 ⟨(okM.setk hok.1 (by omega) (by omega)),hok.2⟩ fun ms3 hms3 oms3 bms3=>?_)
 clear bd0
 refine jn (jx (jq (jr (jm Z (jm Z (js (Gi Z Z (by omega)) (jm Z ?_)))))))
 have hz1:=Int.tmod_lt_of_pos 0 hn9.1
 have hz2:=Int.lt_tmod_of_pos 0 hn9.1
 refine js (Al Z Z (by omega)) (jm Z (js (Gi Z Z (by omega)) (ja Z (jn (jx (jrt ?_))))))
 have hv0:tVV n m=(Int.tmod ((Int.tmod 0 n)+n) n):=(by(try simp only[hms3] at hc1);(try simp only[hms3]);simp only[tVV,hok.2];simp[*])
 have hst:ms3=tSS m:=(by(try simp only[hms3] at hc1);(try simp only[hms3]);all_goals first|rfl|(simp[tVV,tSS,hc1];done)|(simp[tVV,tSS,hc1];rfl)|(unfold tVV tSS;(repeat' split)<;>first|rfl|(exfalso;omega)|(simp[hc1] at *;done)|(simp_all;done)))
 exact jr1 Z Z () (by rw[hv0]<;>rfl) dn (fun _ _=>(kcb (by rw[←hst]) k0 kn))
theorem E47:Ent Tryz.prog 47:=⟨_,Tryz.func47,by kernel_rfl,by kernel_rfl⟩
theorem Vq:Fld Tryz.prog 108 3 4:=⟨_,_,Tryz.underlying108,rfl,rfl,1,(by unfold Sz;kernel_rfl),by decide⟩
theorem Hv:Fld Tryz.prog 108 4 5:=⟨_,_,Tryz.underlying108,rfl,rfl,1,(by unfold Sz;kernel_rfl),by decide⟩
theorem Ke:Fld Tryz.prog 67 0 0:=⟨_,_,Tryz.underlying67,rfl,rfl,1,(by unfold Sz;kernel_rfl),by decide⟩
theorem Gn:Fld Tryz.prog 67 1 1:=⟨_,_,Tryz.underlying67,rfl,rfl,1,(by unfold Sz;kernel_rfl),by decide⟩
theorem Vm:Fld Tryz.prog 67 2 2:=⟨_,_,Tryz.underlying67,rfl,rfl,1,(by unfold Sz;kernel_rfl),by decide⟩
theorem Fp{vs vb al:Value}{m:Mk}{nb c:Nat}{S:List Int}{g0:Nat}(hok:okS nb c S m)(hc:c≤1000000):KA Tryz.prog 64 [] [] g0 vs vb al S m (Bj m) (.int .i64 m.nx):=by
 refine Az (args:=[.pointer (some ⟨g0,0,none⟩)]) Tryz.func64 rfl rfl rfl fun w0 X=>?_
 have bd0:=okM.bnd hok.1
 refine jq (jr (ja Z (jn (jx (jq (jr (jm Z (jm Z (js (Ak Z) (js (jf Vq Z) (js (jl k0 O3 Z Z) ?_)))))))))))
 refine js (Al Z Z (by omega)) (js (Ak Z) (js (jf Vq Z) (jst k0 Z3 Z Z Z s4 (Rf (c:=c+1) ({ m with nx:=m.nx+1 }) k0 ⟨(okM.setnx hok.1 (by omega) (by omega)),hok.2⟩ fun ms1 hms1 oms1 bms1=>?_))))
 clear bd0
 refine jn (jx (jq (jr (jm Z (js (Ak Z) (js (jf Vq Z) (js (jl k0 O3 Z Z) (js (Gw Z Z (by omega)) (ja Z (jn (jx ?_)))))))))))
 refine jrt ?_
 have hv0:m.nx=(ms1.nx-1):=(by(try simp only[hms1]);simp)
 have hst:ms1=Bj m:=(by(try simp only[hms1]);all_goals first|rfl|(simp[Bj];done)|(simp[Bj];rfl)|(unfold Bj;(repeat' split)<;>first|rfl|(exfalso;omega)|(simp[] at *;done)|(simp_all;done)))
 exact jr1 Z Z () (by rw[hv0]<;>rfl) dn (fun _ _=>(kcb (by rw[←hst]) k0 kn))
theorem Mv{vs vb al:Value}{m:Mk}{nb c:Nat}{S:List Int}{g0:Nat}(hok:okS nb c S m)(hc:c≤990000):KA Tryz.prog 71 [] [] g0 vs vb al S m (Ck m) (.int .i32 (Ay m)):=by
 refine Az (args:=[.pointer (some ⟨g0,0,none⟩)]) Tryz.func71 rfl rfl rfl fun w0 X=>?_
 have bd0:=okM.bnd hok.1
 refine jq (jr (ja Z (jn (jx (jq (jr (jm Z (jka E47 Z Z (Dd hok (by omega) 1048576 (by omega)) (dc d0 dn) k0 ⟨tO9 hok.1,hok.2⟩ fun m5 hm5 om5 bm5=>?_))))))))
 have w5_0:IntKind.i64.wrap (tVV 1048576 m)=tVV 1048576 m:=(IntWalk.i64_in _ (by have h9:=@tV9 1048576 (by omega) m;omega))
 have tr5:=@tV9 1048576 (by omega) m
 clear bd0
 refine ja Z (jn (jx (jq (jq (jr (jm Z (jka E47 Z Z (Dd om5 (by omega) 8 (by omega)) (dc d0 dn) k0 ⟨tO9 om5.1,om5.2⟩ fun m7 hm7 om7 bm7=>?_)))))))
 have w7_0:IntKind.i64.wrap (tVV 8 m5)=tVV 8 m5:=(IntWalk.i64_in _ (by have h9:=@tV9 8 (by omega) m5;omega))
 have tr7:=@tV9 8 (by omega) m5
 clear bm5
 refine jn (jx (jb (jq (jr (js (Ao Z Z) (ja Z (jn (jx ?_))))))))
 refine jif Z (fun hc1=>?_) (fun hc1=>?_)
 refine jq (jr (jm Z (js (Ya Z Z (by omega)) (js (jco U3 U21 Z Z) (ja Z (jn (jx (jrt (jbr (jtr ?_))))))))))
 have hv0:Ay m=(IntKind.i32.wrap ((tVV 1048576 m)*4099)):=(by(try simp only[hm5,hm7] at hc1);(try simp only[hm5,hm7]);have w1:IntKind.i64.wrap (0-tVV 1048576 m)=0-tVV 1048576 m:=IntWalk.i64_in _ (by omega);have w2:IntKind.i32.wrap (0-tVV 1048576 m)=0-tVV 1048576 m:=IntWalk.i32_in _ (by omega);have a1:=Int.tmod_nonneg 70000 tr5.1;have a2:=Int.tmod_lt_of_pos (tVV 1048576 m) (b:=70000) (by omega);have a3:=Int.tmod_nonneg 20 tr5.1;have a4:=Int.tmod_lt_of_pos (tVV 1048576 m) (b:=20) (by omega);have w3:IntKind.i32.wrap (Int.tmod (tVV 1048576 m) 70000)=Int.tmod (tVV 1048576 m) 70000:=IntWalk.i32_in _ (by omega);have w4:IntKind.i32.wrap (Int.tmod (tVV 1048576 m) 20-4)=Int.tmod (tVV 1048576 m) 20-4:=IntWalk.i32_in _ (by omega);first|(rw[w1,w2];simp[Ay,hc1];done)|(rw[w3];simp[Ay,hc1];done)|(rw[w4];simp[Ay,hc1];done)|(simp[Ay,hc1];done))
 have hst:m7=Ck m:=(by(try simp only[hm5,hm7] at hc1);(try simp only[hm5,hm7]);all_goals first|rfl|(simp[Ay,Ck,hc1];done)|(simp[Ay,Ck,hc1];rfl)|(unfold Ay Ck;(repeat' split)<;>first|rfl|(exfalso;omega)|(simp[hc1] at *;done)|(simp_all;done)))
 exact jr1 Z Z () (by rw[hv0]<;>rfl) dn (fun _ _=>(kcb (by rw[←hst]) k0 kn))
 refine jq (jr (js (Ao Z Z) (ja Z (jn (jx ?_)))))
 refine jif Z (fun hc2=>?_) (fun hc2=>?_)
 refine jq (jr (jm Z (js (NG Z) (js (jco U3 U21 Z Z) (ja Z (jn (jx (jrt (jbr (jtr ?_))))))))))
 have hv0:Ay m=(IntKind.i32.wrap (IntKind.i64.wrap (0-(tVV 1048576 m)))):=(by(try simp only[hm5,hm7] at hc1 hc2);(try simp only[hm5,hm7]);have w1:IntKind.i64.wrap (0-tVV 1048576 m)=0-tVV 1048576 m:=IntWalk.i64_in _ (by omega);have w2:IntKind.i32.wrap (0-tVV 1048576 m)=0-tVV 1048576 m:=IntWalk.i32_in _ (by omega);have a1:=Int.tmod_nonneg 70000 tr5.1;have a2:=Int.tmod_lt_of_pos (tVV 1048576 m) (b:=70000) (by omega);have a3:=Int.tmod_nonneg 20 tr5.1;have a4:=Int.tmod_lt_of_pos (tVV 1048576 m) (b:=20) (by omega);have w3:IntKind.i32.wrap (Int.tmod (tVV 1048576 m) 70000)=Int.tmod (tVV 1048576 m) 70000:=IntWalk.i32_in _ (by omega);have w4:IntKind.i32.wrap (Int.tmod (tVV 1048576 m) 20-4)=Int.tmod (tVV 1048576 m) 20-4:=IntWalk.i32_in _ (by omega);first|(rw[w1,w2];simp[Ay,hc1,hc2];done)|(rw[w3];simp[Ay,hc1,hc2];done)|(rw[w4];simp[Ay,hc1,hc2];done)|(simp[Ay,hc1,hc2];done))
 have hst:m7=Ck m:=(by(try simp only[hm5,hm7] at hc1 hc2);(try simp only[hm5,hm7]);all_goals first|rfl|(simp[Ay,Ck,hc1,hc2];done)|(simp[Ay,Ck,hc1,hc2];rfl)|(unfold Ay Ck;(repeat' split)<;>first|rfl|(exfalso;omega)|(simp[hc1,hc2] at *;done)|(simp_all;done)))
 exact jr1 Z Z () (by rw[hv0]<;>rfl) dn (fun _ _=>(kcb (by rw[←hst]) k0 kn))
 refine jq (jr (js (Ao Z Z) (ja Z (jn (jx ?_)))))
 refine jif Z (fun hc3=>?_) (fun hc3=>?_)
 refine jq (jr (ja Z (jn (jx (jrt (jbr (jtr ?_)))))))
 have hv0:Ay m=(-2147483648):=(by(try simp only[hm5,hm7] at hc1 hc2 hc3);(try simp only[hm5,hm7]);have w1:IntKind.i64.wrap (0-tVV 1048576 m)=0-tVV 1048576 m:=IntWalk.i64_in _ (by omega);have w2:IntKind.i32.wrap (0-tVV 1048576 m)=0-tVV 1048576 m:=IntWalk.i32_in _ (by omega);have a1:=Int.tmod_nonneg 70000 tr5.1;have a2:=Int.tmod_lt_of_pos (tVV 1048576 m) (b:=70000) (by omega);have a3:=Int.tmod_nonneg 20 tr5.1;have a4:=Int.tmod_lt_of_pos (tVV 1048576 m) (b:=20) (by omega);have w3:IntKind.i32.wrap (Int.tmod (tVV 1048576 m) 70000)=Int.tmod (tVV 1048576 m) 70000:=IntWalk.i32_in _ (by omega);have w4:IntKind.i32.wrap (Int.tmod (tVV 1048576 m) 20-4)=Int.tmod (tVV 1048576 m) 20-4:=IntWalk.i32_in _ (by omega);first|(rw[w1,w2];simp[Ay,hc1,hc2,hc3];done)|(rw[w3];simp[Ay,hc1,hc2,hc3];done)|(rw[w4];simp[Ay,hc1,hc2,hc3];done)|(simp[Ay,hc1,hc2,hc3];done))
 have hst:m7=Ck m:=(by(try simp only[hm5,hm7] at hc1 hc2 hc3);(try simp only[hm5,hm7]);all_goals first|rfl|(simp[Ay,Ck,hc1,hc2,hc3];done)|(simp[Ay,Ck,hc1,hc2,hc3];rfl)|(unfold Ay Ck;(repeat' split)<;>first|rfl|(exfalso;omega)|(simp[hc1,hc2,hc3] at *;done)|(simp_all;done)))
 exact jr1 Z Z () (by rw[hv0]<;>rfl) dn (fun _ _=>(kcb (by rw[←hst]) k0 kn))
 refine jq (jr (js (Ao Z Z) (ja Z (jn (jx ?_)))))
 refine jif Z (fun hc4=>?_) (fun hc4=>?_)
 refine jq (jr (jm Z (js (Gi Z Z (by decide)) (js (jco U3 U21 Z Z) (ja Z (jn (jx (jrt (jbr (jtr ?_))))))))))
 have hv0:Ay m=(IntKind.i32.wrap (Int.tmod (tVV 1048576 m) 70000)):=(by(try simp only[hm5,hm7] at hc1 hc2 hc3 hc4);(try simp only[hm5,hm7]);have w1:IntKind.i64.wrap (0-tVV 1048576 m)=0-tVV 1048576 m:=IntWalk.i64_in _ (by omega);have w2:IntKind.i32.wrap (0-tVV 1048576 m)=0-tVV 1048576 m:=IntWalk.i32_in _ (by omega);have a1:=Int.tmod_nonneg 70000 tr5.1;have a2:=Int.tmod_lt_of_pos (tVV 1048576 m) (b:=70000) (by omega);have a3:=Int.tmod_nonneg 20 tr5.1;have a4:=Int.tmod_lt_of_pos (tVV 1048576 m) (b:=20) (by omega);have w3:IntKind.i32.wrap (Int.tmod (tVV 1048576 m) 70000)=Int.tmod (tVV 1048576 m) 70000:=IntWalk.i32_in _ (by omega);have w4:IntKind.i32.wrap (Int.tmod (tVV 1048576 m) 20-4)=Int.tmod (tVV 1048576 m) 20-4:=IntWalk.i32_in _ (by omega);first|(rw[w1,w2];simp[Ay,hc1,hc2,hc3,hc4];done)|(rw[w3];simp[Ay,hc1,hc2,hc3,hc4];done)|(rw[w4];simp[Ay,hc1,hc2,hc3,hc4];done)|(simp[Ay,hc1,hc2,hc3,hc4];done))
 have hst:m7=Ck m:=(by(try simp only[hm5,hm7] at hc1 hc2 hc3 hc4);(try simp only[hm5,hm7]);all_goals first|rfl|(simp[Ay,Ck,hc1,hc2,hc3,hc4];done)|(simp[Ay,Ck,hc1,hc2,hc3,hc4];rfl)|(unfold Ay Ck;(repeat' split)<;>first|rfl|(exfalso;omega)|(simp[hc1,hc2,hc3,hc4] at *;done)|(simp_all;done)))
 exact jr1 Z Z () (by rw[hv0]<;>rfl) dn (fun _ _=>(kcb (by rw[←hst]) k0 kn))
 refine jsk (jbn (jx (jq (jr (jm Z (js (Gi Z Z (by decide)) ?_))))))
 have b3:=Int.tmod_nonneg 20 tr5.1
 have b4:=Int.tmod_lt_of_pos (tVV 1048576 m) (b:=20) (by omega)
 refine js (Gw Z Z (by omega)) (js (jco U3 U21 Z Z) (ja Z (jn (jx (jrt ?_)))))
 have hv0:Ay m=(IntKind.i32.wrap ((Int.tmod (tVV 1048576 m) 20)-4)):=(by(try simp only[hm5,hm7] at hc1 hc2 hc3 hc4);(try simp only[hm5,hm7]);have w1:IntKind.i64.wrap (0-tVV 1048576 m)=0-tVV 1048576 m:=IntWalk.i64_in _ (by omega);have w2:IntKind.i32.wrap (0-tVV 1048576 m)=0-tVV 1048576 m:=IntWalk.i32_in _ (by omega);have a1:=Int.tmod_nonneg 70000 tr5.1;have a2:=Int.tmod_lt_of_pos (tVV 1048576 m) (b:=70000) (by omega);have a3:=Int.tmod_nonneg 20 tr5.1;have a4:=Int.tmod_lt_of_pos (tVV 1048576 m) (b:=20) (by omega);have w3:IntKind.i32.wrap (Int.tmod (tVV 1048576 m) 70000)=Int.tmod (tVV 1048576 m) 70000:=IntWalk.i32_in _ (by omega);have w4:IntKind.i32.wrap (Int.tmod (tVV 1048576 m) 20-4)=Int.tmod (tVV 1048576 m) 20-4:=IntWalk.i32_in _ (by omega);first|(rw[w1,w2];simp[Ay,hc1,hc2,hc3,hc4];done)|(rw[w3];simp[Ay,hc1,hc2,hc3,hc4];done)|(rw[w4];simp[Ay,hc1,hc2,hc3,hc4];done)|(simp[Ay,hc1,hc2,hc3,hc4];done))
 have hst:m7=Ck m:=(by(try simp only[hm5,hm7] at hc1 hc2 hc3 hc4);(try simp only[hm5,hm7]);all_goals first|rfl|(simp[Ay,Ck,hc1,hc2,hc3,hc4];done)|(simp[Ay,Ck,hc1,hc2,hc3,hc4];rfl)|(unfold Ay Ck;(repeat' split)<;>first|rfl|(exfalso;omega)|(simp[hc1,hc2,hc3,hc4] at *;done)|(simp_all;done)))
 exact jr1 Z Z () (by rw[hv0]<;>rfl) dn (fun _ _=>(kcb (by rw[←hst]) k0 kn))
theorem Tl{a0:Value}{i:D.Ins}:Td Tryz.prog 66 #[vIns i a0] [da Am (vIns i a0) i] [] (rL (rI .i64)) (Ba i):=by
 refine Az (args:=[vIns i a0]) Tryz.func66 rfl rfl rfl fun w0 X=>?_
 refine jq (jr (Cm Z Z fun g1=>ja Z (jn (jx (jq (jq (jr (js (jf Ke Z) (js (jl k0 O3 Z Z) (jn ?_))))))))))
 refine jx (jb (jq (jr (js (Ao Z Z) (ja Z (jn (jx ?_)))))))
 refine jif Z (fun hc1=>?_) (fun hc1=>?_)
 refine jq (jr (ja Z (jn (jx (jrt (jbr (jtr ?_)))))))
 exact jrD Z Z (by simp[Ba, *]) wN
 refine jq (jr (js (Ao Z Z) (ja Z (jn (jx ?_)))))
 refine jif Z (fun hc2=>?_) (fun hc2=>?_)
 refine jq (jr (js (jf Gn Z) (js (jl k0 O3 Z Z) (js (jf Vm Z) (js (jl k0 O3 Z Z) (Bg (r:=(rI .i64)) (l:=[i.Dst,i.Two]) U22 I3 (by decide) Z Z Z (lV Z Z (wI (Am.W_Dst d0)) (lV Z Z (wI (Am.W_Two d0)) ln)) fun g13=>ja Z (jn (jx (jrt (jbr ?_))))))))))
 refine jtr (qfz k0 (by(try simp)<;>omega) ?_)
 exact jrD Z Z (by simp[Ba, *]) d0
 refine jsk (jbn (jx (jq (jr (js (jf Gn Z) (js (jl k0 O3 Z Z) (Bg (r:=(rI .i64)) (l:=[i.Dst]) U22 I3 (by decide) Z Z Z (lV Z Z (wI (Am.W_Dst d0)) ln) fun g16=>ja Z (jn (jx (jrt ?_))))))))))
 refine qfz k0 (by(try simp)<;>omega) ?_
 exact jrD Z Z (by simp[Ba, *]) d0
theorem MA{vs vb al:Value}{m:Mk}{nb c:Nat}{S:List Int}{g0:Nat}{B0 B1:Nat}{qs:List BV}(hok:okS nb c S m)(hc:c≤990000):KB Tryz.prog 171 [] [] g0 vs vb al S B0 B1 qs [wf .i64 (El m)] m (Cw m) (.tuple #[.int .i64 (El m),.bool (Dz m)]):=by
 refine Az (args:=[.pointer (some ⟨g0,0,none⟩)]) Tryz.func171 rfl rfl rfl fun w0 X=>?_
 refine cgo k1 fun w1=>?_
 have bd0:=okM.bnd hok.1
 refine cbk k2 (okM.bnd hok.1).2.2.2.2.2.2.2.1 fun hvb=>jq (jr (ja Z (ja Z (jn (jx (jq (jq (jr (jm Z (js (Ak Z) ?_))))))))))
 refine js (jf Hv Z) (js (jl k0 O22 Z Z) (js (jlg U22 k1 Z) (js (Ao Z Z) (jn (jx ?_)))))
 refine jif Z (fun hc1=>?_) (fun hc1=>?_)
 have hz:m.lv.length=0:=by omega
 refine jq (jr (ja Z (ja Z (jn (jx (jrt (jtr ?_)))))))
 have hv0:El m=0:=(by first|(simp[El,Dz,Cw,Em,hz];done)|(simp[El,Dz,Cw,Em,hz];rfl))
 have hv1:Dz m=false:=(by first|(simp[El,Dz,Cw,Em,hz];done)|(simp[El,Dz,Cw,Em,hz];rfl))
 have hst:m=Cw m:=(by first|(simp[El,Dz,Cw,Em,hz];done)|(simp[El,Dz,Cw,Em,hz];rfl))
 exact jr2 Z Z Z (al,qs) (by rw[hv0,hv1]<;>rfl) (dc (wca hv0 (wl 0)) dn) (fun _ _=>(kcb (by rw[←hst]) k0 (kcg (by rw[←hst]) k0 (kck (by rw[←hst]) k0 kn))))
 have hz:¬m.lv.length=0:=by omega
 refine jsk (jx (jq (jr (jm Z (jm Z (js (Ak Z) (js (jf Hv Z) (js (jl k0 O22 Z Z) (js (jlg U22 k1 Z) (jkr E47 Z Z (Dd hok (by omega) (↑(List.length m.lv)) (by omega)) (dc d0 dn) (kd (kc k0 kn)) ⟨tO9 hok.1,hok.2⟩ fun m17 hm17 om17 bm17=>?_))))))))))
 have w17_0:IntKind.i64.wrap (tVV (↑(List.length m.lv)) m)=tVV (↑(List.length m.lv)) m:=(IntWalk.i64_in _ (by have h9:=@tV9 (↑(List.length m.lv)) (by omega) m;omega))
 have tr17:=@tV9 (↑(List.length m.lv)) (by omega) m
 have llm17:List.length m17.lv=List.length m.lv:=by rw[hm17]<;>rfl
 clear bd0
 refine ja Z (jn (jx (jq (jq (jr (jm Z (jkr E47 Z Z (Dd om17 (by omega) 3 (by omega)) (dc d0 dn) (kd (kc k0 kn)) ⟨tO9 om17.1,om17.2⟩ fun m19 hm19 om19 bm19=>?_)))))))
 have w19_0:IntKind.i64.wrap (tVV 3 m17)=tVV 3 m17:=(IntWalk.i64_in _ (by have h9:=@tV9 3 (by omega) m17;omega))
 have tr19:=@tV9 3 (by omega) m17
 have llm19:List.length m19.lv=List.length m17.lv:=by rw[hm19]<;>rfl
 clear bm17
 refine js (Ao Z Z) (jn (jx ?_))
 refine jif Z (fun hc2=>?_) (fun hc2=>?_)
 refine jr (jm Z (js (Ak Z) (js (jf Hv Z) (js (jl k0 O22 Z Z) (js (jlg U22 k1 Z) (js (Gw Z Z (by omega)) (ja Z (jn (jx (jq (jr ?_)))))))))))
 refine jm Z (js (Ak Z) (js (jf Hv Z) (js (jl k0 O22 Z Z) (jm Z (js (jig (i:=(Int.toNat ((↑(List.length m19.lv))-1))) U22 Z3 k1 Z Z (by omega) (by omega)) (js (jgI k1 (by omega) O3 Z) (ja Z (ja Z (jn (jx (jrt ?_)))))))))))
 have hv0:El m=(ix m19.lv (Int.toNat ((((List.length m19.lv:Nat):Int))-1))):=(by(try simp only[hm17,hm19] at hc1 hc2);(try simp only[hm17,hm19]);first|(simp[El,Dz,Cw,Em,hz,hc2];done)|(simp[El,Dz,Cw,Em,hz,hc2];rfl))
 have hv1:Dz m=true:=(by(try simp only[hm17,hm19] at hc1 hc2);(try simp only[hm17,hm19]);first|(simp[El,Dz,Cw,Em,hz,hc2];done)|(simp[El,Dz,Cw,Em,hz,hc2];rfl))
 have hst:m19=Cw m:=(by(try simp only[hm17,hm19] at hc1 hc2);(try simp only[hm17,hm19]);first|(simp[El,Dz,Cw,Em,hz,hc2];done)|(simp[El,Dz,Cw,Em,hz,hc2];rfl))
 exact jr2 Z Z Z (al,qs) (by rw[hv0,hv1]<;>rfl) (dc (wca hv0 (wgl k1 (by omega))) dn) (fun _ _=>(kcb (by rw[←hst]) k0 (kcg (by rw[←hst]) k0 (kck (by rw[←hst]) k0 kn))))
 refine jsk (jx (jq (jr (jm Z (js (Ak Z) (js (jf Hv Z) (js (jl k0 O22 Z Z) (jm Z (js (jig (i:=(Int.toNat (tVV (↑(List.length m.lv)) m))) U22 Z3 k1 Z Z (by omega) (by omega)) (js (jgI k1 (by omega) O3 Z) (ja Z ?_)))))))))))
 refine ja Z (jn (jx (jrt ?_)))
 have hv0:El m=(ix m19.lv (Int.toNat (tVV (((List.length m.lv:Nat):Int)) m))):=(by(try simp only[hm17,hm19] at hc1 hc2);(try simp only[hm17,hm19]);first|(simp[El,Dz,Cw,Em,hz,hc2];done)|(simp[El,Dz,Cw,Em,hz,hc2];rfl))
 have hv1:Dz m=true:=(by(try simp only[hm17,hm19] at hc1 hc2);(try simp only[hm17,hm19]);first|(simp[El,Dz,Cw,Em,hz,hc2];done)|(simp[El,Dz,Cw,Em,hz,hc2];rfl))
 have hst:m19=Cw m:=(by(try simp only[hm17,hm19] at hc1 hc2);(try simp only[hm17,hm19]);first|(simp[El,Dz,Cw,Em,hz,hc2];done)|(simp[El,Dz,Cw,Em,hz,hc2];rfl))
 exact jr2 Z Z Z (al,qs) (by rw[hv0,hv1]<;>rfl) (dc (wca hv0 (wgl k1 (by omega))) dn) (fun _ _=>(kcb (by rw[←hst]) k0 (kcg (by rw[←hst]) k0 (kck (by rw[←hst]) k0 kn))))
abbrev U47:=@Tryz.underlying47
abbrev U58:=@Tryz.underlying58
theorem A67:Ag9 Tryz.prog 67:=⟨_,Tryz.underlying67,rfl⟩
theorem E66:Ent Tryz.prog 66:=⟨_,Tryz.func66,by kernel_rfl,by kernel_rfl⟩
theorem Ev:Fld Tryz.prog 108 2 2:=⟨_,_,Tryz.underlying108,rfl,rfl,2,(by unfold Sz;kernel_rfl),by decide⟩
theorem Bu:Fld Tryz.prog 49 1 1:=⟨_,_,Tryz.underlying49,rfl,rfl,1,(by unfold Sz;kernel_rfl),by decide⟩
theorem Cn:Fld Tryz.prog 62 1 1:=⟨_,_,Tryz.underlying62,rfl,rfl,1,(by unfold Sz;kernel_rfl),by decide⟩
theorem I67:(Tryz.prog.info? 67).map (fun i=>(i.zero,i.size,i.bytes))=some (some (.agg #[.int .i64 0,.int .i64 0,.int .i64 0,.slice none 0 0,.int .i32 0]),5,56):=by kernel_rfl
theorem O47:One Tryz.prog 47:=⟨_,Tryz.underlying47,rfl⟩
theorem O58:One Tryz.prog 58:=⟨_,Tryz.underlying58,rfl⟩
theorem Z58:Sz Tryz.prog 58 1:=by unfold Sz;kernel_rfl
theorem Z62:Sz Tryz.prog 62 6:=by unfold Sz;kernel_rfl
theorem Z67:Sz Tryz.prog 67 5:=by unfold Sz;kernel_rfl
theorem Fh{vs vb al:Value}{m:Mk}{nb c:Nat}{S:List Int}{g0:Nat}{B0 B1:Nat}{qs:List BV}(hok:okS nb c S m)(hc:c≤990000)(b:Int){a2:Value}{i:D.Ins}(hb9:0≤b∧b<nb):KB Tryz.prog 120 [.int .i64 b,vIns i a2] [da Am (vIns i a2) i] g0 vs vb al S B0 B1 qs [] m (Cc b i m) (.tuple #[]):=by
 refine Az (args:=[.pointer (some ⟨g0,0,none⟩),.int .i64 b,vIns i a2]) Tryz.func120 rfl rfl rfl fun w0 X=>?_
 refine cgo k1 fun w1=>?_
 have bd0:=okM.bnd hok.1
 refine cbk k2 (okM.bnd hok.1).2.2.2.2.2.2.2.1 fun hvb=>jq (jr (Cm Z Z fun g5=>jn (jx (jq (Bz true (.a 0 (.a 1 (.a 2 (.a 3 (.a 4 (.a 5 (.a 6 (.a 7 (.a 8 (.a 9 (.a 10 (.a 11 (.a 12 (.a 13 (.a 15 (.w 14 16 (.o 16 (.o 17 (.a 18 (.a 19 (.o 20 .e))))) (.o 14 (.o 17 (.a 18 (.a 19 (.o 20 .e))))))))))))))))))))) Bi (by kernel_rfl) (kd kn) fun F2=>jy Z (jmv Z) (jy Z (Ak Z) (jy Z (jf Ev Z) (jy Z (jf Bu Z) ?_))))))))
 refine jy Z (jl k1 O47 Z Z) (jy Z (jmv Z) (jy Z (jmv Z) (jy Z (Ak Z) (jy Z (jf Ev Z) (jy Z (jf Bu Z) (jy Z (jl k1 O47 Z Z) (jy Z (jmv Z) (jy Z (Gb (j:=b.toNat) U47 Z62 hvb Z Z (by omega) (by omega)) (jy Z (jf Cn Z) (jy Z (jla k0 A67 Z67 Z Z Z) ?_))))))))))
 refine jyw Z Z ?_ ?_
 refine js (Uk k3 (by omega) O58 Z Z) (jyn d0 (kd kn) (jyo Z (Bg (r:=Am) (l:=[i]) U58 I67 (by decide) Z Z Z (lA d3 ln) fun g23=>jyn d0 (kc k1 (kc k1 kn)) (jyo Z (jfz k0 (by(try simp)<;>omega) ?_)))))
 have hrF7:=okM.row hok.1 (j:=b.toNat) (by omega)
 refine Y3 b.toNat k3 (by omega) (jgo k0 fun w8=>Dl U58 I67 (by decide) Z k0 Z Z d0 (by(try simp)<;>omega) fun v24 w9=>jyn d1 (kc k2 (kc k2 kn)) (jy Z (Gb (j:=b.toNat) U47 Z62 hvb Z Z (by omega) (by omega)) (jy Z (jf Cn Z) (jyo Z (Y1 k0 k0 (by omega) Z58 Z Z Z w9.one (jkn (c:=c+1) ({ m with bs:=List.set m.bs b.toNat { (ix m.bs b.toNat) with Ins:=((ix m.bs b.toNat).Ins)++([i]) } }) (kc k2 (kc k2 (kc k0 kn))) ⟨(okM.setb (d:=1) hok.1 (by dsimp only;rw[List.length_append];simp only[List.length_cons,List.length_nil];omega)),hok.2⟩ fun ms11 hms11 oms11 bms11=>?_))))))
 clear bd0
 refine jyz d0 (jyd (jx (jq (jr (js (jla k3 A67 Z67 Z Z Z) (jcd E66 Z Z Tl (dc d6 dn) kn fun v28 q12 w12=>ja Z (jn (jx (jr (jm Z ?_))))))))))
 refine jm Z (js (Ak Z) (js (jf Hv Z) (js (jl k0 O22 Z Z) (jm Z (Dl U22 I3 (by decide) Z k1 Z Z d0 (by(try simp)<;>omega) fun v35 w14=>js (Ak Z) (js (jf Hv Z) (jst k1 Z22 Z Z w14.one s5 (jkn (c:=c+2) ({ ms11 with lv:=ms11.lv++(Ba i) }) (kd (kc k0 kn)) ⟨(okM.setlv oms11.1 (by have:=Pi i;simp only[List.length_append];omega) (by omega)),oms11.2⟩ fun ms15 hms15 oms15 bms15=>?_))))))))
 clear bms11
 refine jn ?_
 have hst:ms15=Cc b i m:=(by(try simp only[hms11,hms15]);all_goals first|rfl|(simp[Cc];done)|(simp[Cc];rfl)|(unfold Cc;(repeat' split)<;>first|rfl|(exfalso;omega)|(simp[] at *;done)|(simp_all;done)))
 exact jd0 Z (v35,List.set qs b.toNat { (ix qs b.toNat) with I:=v24 }) Z dn (fun _ _=>(kcb (by rw[←hst]) k0 (kcg (by rw[←hst]) k0 (kck (by rw[←hst]) k0 kn))))
 refine Bg (r:=Am) (l:=[i]) U58 I67 (by decide) Z Z Z (lA d2 ln) fun g23=>jyn d0 (kc k1 (kc k1 kn)) (jyo Z (js (Uk k4 (by omega) O58 Z Z) (jyn d0 (kc k1 (kc k1 kn)) (jyo Z (jfz k0 (by(try simp)<;>omega) ?_)))))
 have hrF7:=okM.row hok.1 (j:=b.toNat) (by omega)
 refine Y3 b.toNat k3 (by omega) (jgo k0 fun w8=>Dl U58 I67 (by decide) Z k0 Z Z d0 (by(try simp)<;>omega) fun v24 w9=>jyn d1 (kc k2 (kc k2 kn)) (jy Z (Gb (j:=b.toNat) U47 Z62 hvb Z Z (by omega) (by omega)) (jy Z (jf Cn Z) (jyo Z (Y1 k0 k0 (by omega) Z58 Z Z Z w9.one (jkn (c:=c+1) ({ m with bs:=List.set m.bs b.toNat { (ix m.bs b.toNat) with Ins:=((ix m.bs b.toNat).Ins)++([i]) } }) (kc k2 (kc k2 (kc k0 kn))) ⟨(okM.setb (d:=1) hok.1 (by dsimp only;rw[List.length_append];simp only[List.length_cons,List.length_nil];omega)),hok.2⟩ fun ms11 hms11 oms11 bms11=>?_))))))
 clear bd0
 refine jyz d0 (jyd (jx (jq (jr (js (jla k3 A67 Z67 Z Z Z) (jcd E66 Z Z Tl (dc d6 dn) kn fun v28 q12 w12=>ja Z (jn (jx (jr (jm Z ?_))))))))))
 refine jm Z (js (Ak Z) (js (jf Hv Z) (js (jl k0 O22 Z Z) (jm Z (Dl U22 I3 (by decide) Z k1 Z Z d0 (by(try simp)<;>omega) fun v35 w14=>js (Ak Z) (js (jf Hv Z) (jst k1 Z22 Z Z w14.one s5 (jkn (c:=c+2) ({ ms11 with lv:=ms11.lv++(Ba i) }) (kd (kc k0 kn)) ⟨(okM.setlv oms11.1 (by have:=Pi i;simp only[List.length_append];omega) (by omega)),oms11.2⟩ fun ms15 hms15 oms15 bms15=>?_))))))))
 clear bms11
 refine jn ?_
 have hst:ms15=Cc b i m:=(by(try simp only[hms11,hms15]);all_goals first|rfl|(simp[Cc];done)|(simp[Cc];rfl)|(unfold Cc;(repeat' split)<;>first|rfl|(exfalso;omega)|(simp[] at *;done)|(simp_all;done)))
 exact jd0 Z (v35,List.set qs b.toNat { (ix qs b.toNat) with I:=v24 }) Z dn (fun _ _=>(kcb (by rw[←hst]) k0 (kcg (by rw[←hst]) k0 (kck (by rw[←hst]) k0 kn))))
theorem Fm:Ent Tryz.prog 120:=⟨_,Tryz.func120,by kernel_rfl,by kernel_rfl⟩
theorem UM:Ent Tryz.prog 171:=⟨_,Tryz.func171,by kernel_rfl,by kernel_rfl⟩
theorem E64:Ent Tryz.prog 64:=⟨_,Tryz.func64,by kernel_rfl,by kernel_rfl⟩
theorem E70:Ent Tryz.prog 70:=⟨_,Tryz.func70,by kernel_rfl,by kernel_rfl⟩
theorem E71:Ent Tryz.prog 71:=⟨_,Tryz.func71,by kernel_rfl,by kernel_rfl⟩
theorem Md{vs vb al:Value}{m:Mk}{nb c:Nat}{S:List Int}{g0:Nat}{B0 B1:Nat}{qs:List BV}(hok:okS nb c S m)(hc:c≤980000)(b:Int)(n:Int)(hb9:0≤b∧b<nb)(ww2:IntKind.i32.wrap n=n):KB Tryz.prog 70 [.int .i64 b,.int .i32 n] [] g0 vs vb al S B0 B1 qs [wf .i64 m.nx] m (Bq b n m) (.int .i64 m.nx):=by
 refine Az (args:=[.pointer (some ⟨g0,0,none⟩),.int .i64 b,.int .i32 n]) Tryz.func70 rfl rfl rfl fun w0 X=>?_
 refine cgo k1 fun w1=>?_
 have bd0:=okM.bnd hok.1
 refine cbk k2 (okM.bnd hok.1).2.2.2.2.2.2.2.1 fun hvb=>?_
 have hbn:b.toNat<nb:=by omega
 refine jq (jr (ja Z (jn (jx (jq (jr (jm Z (jkr E64 Z Z (Fp hok (by omega)) (dc d0 dn) (kd (kc k0 kn)) ⟨Dm hok.1,hok.2⟩ fun m9 hm9 om9 bm9=>?_))))))))
 have w9_0:IntKind.i64.wrap (m.nx)=m.nx:=(IntWalk.i64_in _ (by omega))
 clear bd0
 refine ja Z (jn (jx (jq (jr (jm Z (jm Z (jm Z (jm Z (js (jbu (v := .agg #[.int .i64 1,.int .i64 m.nx,.int .i64 0,.slice none 0 0,.int .i32 n]) Z (fun _=>by kernel_rfl)) (jkb Fm Z Z (Fh (i:=⟨1,m.nx,0,[],n⟩) om9 (by omega) b hb9) (dc d0 (dc (Am.M (m:=⟨1,m.nx,0,[],n⟩) (c:=(.slice none 0 0)) wN (wl 1) (wp w9_0) (wl 0) (wp ww2)) dn)) (kd (kc k0 kn)) ⟨Dj om9.1 hbn,(Eu.trans om9.2)⟩ p0 fun m15 hm15 om15 bm15 ua15 qs15 w2=>?_))))))))))
 clear bm9
 refine jn (jx (jq (jr (jm Z (ja Z (jn (jx (jrt ?_))))))))
 have hv0:m.nx=m.nx:=(by(try simp only[hm9,hm15]);all_goals first|rfl|(simp[Bq];done)|(simp[Bq];rfl)|(unfold Bq;(repeat' split)<;>first|rfl|(exfalso;omega)|(simp[] at *;done)|(simp_all;done)))
 have hst:m15=Bq b n m:=(by(try simp only[hm9,hm15]);all_goals first|rfl|(simp[Bq];done)|(simp[Bq];rfl)|(unfold Bq;(repeat' split)<;>first|rfl|(exfalso;omega)|(simp[] at *;done)|(simp_all;done)))
 exact jr1 Z Z (ua15,qs15) (by rw[hv0]<;>rfl) (dc (wca hv0 (wp w9_0)) dn) (fun _ _=>(kcb (by rw[←hst]) k0 (kcg (by rw[←hst]) k0 (kck (by rw[←hst]) k0 kn))))
theorem Hc{vs vb al:Value}{m:Mk}{nb c:Nat}{S:List Int}{g0:Nat}{B0 B1:Nat}{qs:List BV}(hok:okS nb c S m)(hc:c≤970000)(b:Int)(hb9:0≤b∧b<nb):KB Tryz.prog 119 [.int .i64 b] [] g0 vs vb al S B0 B1 qs [wf .i64 (sV9 m)] m (sS9 b m) (.int .i64 (sV9 m)):=by
 refine Az (args:=[.pointer (some ⟨g0,0,none⟩),.int .i64 b]) Tryz.func119 rfl rfl rfl fun w0 X=>?_
 refine cgo k1 fun w1=>?_
 have bd0:=okM.bnd hok.1
 refine cbk k2 (okM.bnd hok.1).2.2.2.2.2.2.2.1 fun hvb=>?_
 have hbn:b.toNat<nb:=by omega
 refine jq (jr (ja Z (jn (jx (jq (jr (jm Z (jkb UM Z Z (MA hok (by omega)) (dc d0 dn) (kd (kc k0 kn)) ⟨Vz hok.1,(C1.trans hok.2)⟩ p1 fun m9 hm9 om9 bm9 ua9 qs9 w2=>?_))))))))
 clear bd0
 refine jm Z (js (Bs Z Z) (js (Bs Z Z) (ja Z (ja Z (jn (jx (jq (jq (jr (jm Z (js (Dq Z) ?_)))))))))))
 refine jm Z (jg Z Z (.f _) (fun hg=>jmv Z) (jkg Z Z (.f _) E47 Z (fun hg=>Mx (evg Z hg) Z) (Dd om9 (by omega) 9 (by first|exact hb9|decide|omega)) (dc d1 dn) (kd (kc k0 kn)) (by split;exact⟨tO9 om9.1,om9.2⟩;exact om9.mono (by omega)) fun m16 hm16 om16 bm16=>?_))
 have w16_0:IntKind.i64.wrap (tVV 9 m9)=tVV 9 m9:=(IntWalk.i64_in _ (by have h9:=@tV9 9 (by omega) m9;omega))
 have tr16:=@tV9 9 (by omega) m9
 clear bm9
 refine jg Z Z (.f _) (fun hg=>Ao (evg Z hg) Z) (js (jor Z Z) (jn (jx ?_)))
 refine jif Z (fun hc1=>?_) (fun hc1=>?_)
 refine jq (jr (jm Z (jm Z (jm Z (jkr E71 Z Z (Mv om16 (by omega)) (dc d1 dn) (kd (kc k0 kn)) ⟨Ki om16.1,om16.2⟩ fun m22 hm22 om22 bm22=>?_)))))
 have w22_0:IntKind.i32.wrap (Ay m16)=Ay m16:=(Mh m16)
 clear bm16
 refine jkb E70 Z Z (Md om22 (by omega) b (Ay m16) (by first|exact hb9|decide|omega) w22_0) (dc d1 dn) (kd (kc k0 kn)) ⟨Gm om22.1 hbn,(Kc.trans om22.2)⟩ p1 fun m23 hm23 om23 bm23 ua23 qs23 w4=>?_
 clear bm22
 refine ja Z (jn (jx (jrt (jtr ?_))))
 have hv0:sV9 m=m22.nx:=(by(try simp only[hm9,hm16,hm22,hm23] at hc1);(try simp only[hm9,hm16,hm22,hm23]);all_goals first|rfl|(simp[sS9,sV9,Gu,Dg,hc1];done)|(simp[sS9,sV9,Gu,Dg,hc1];rfl)|(unfold sS9 sV9 Gu Dg;(repeat' split)<;>first|rfl|(exfalso;omega)|(simp[hc1] at *;done)|(simp_all;done)))
 have hst:m23=sS9 b m:=(by(try simp only[hm9,hm16,hm22,hm23] at hc1);(try simp only[hm9,hm16,hm22,hm23]);all_goals first|rfl|(simp[sS9,sV9,Gu,Dg,hc1];done)|(simp[sS9,sV9,Gu,Dg,hc1];rfl)|(unfold sS9 sV9 Gu Dg;(repeat' split)<;>first|rfl|(exfalso;omega)|(simp[hc1] at *;done)|(simp_all;done)))
 exact jr1 Z Z (ua23,qs23) (by rw[hv0]<;>rfl) (dc (wca hv0 ((wfw d0))) dn) (fun _ _=>(kcb (by rw[←hst]) k0 (kcg (by rw[←hst]) k0 (kck (by rw[←hst]) k0 kn))))
 refine jsk (jx (jq (jr (jm Z (ja Z (jn (jx (jrt ?_))))))))
 have hv0:sV9 m=(El m):=(by(try simp only[hm9,hm16] at hc1);(try simp only[hm9,hm16]);all_goals first|rfl|(simp[sS9,sV9,Gu,Dg,hc1];done)|(simp[sS9,sV9,Gu,Dg,hc1];rfl)|(unfold sS9 sV9 Gu Dg;(repeat' split)<;>first|rfl|(exfalso;omega)|(simp[hc1] at *;done)|(simp_all;done)))
 have hst:m16=sS9 b m:=(by(try simp only[hm9,hm16] at hc1);(try simp only[hm9,hm16]);all_goals first|rfl|(simp[sS9,sV9,Gu,Dg,hc1];done)|(simp[sS9,sV9,Gu,Dg,hc1];rfl)|(unfold sS9 sV9 Gu Dg;(repeat' split)<;>first|rfl|(exfalso;omega)|(simp[hc1] at *;done)|(simp_all;done)))
 exact jr1 Z Z (ua9,qs9) (by rw[hv0]<;>rfl) (dc (wca hv0 ((wfw d0))) dn) (fun _ _=>(kcb (by rw[←hst]) k0 (kcg (by rw[←hst]) k0 (kck (by rw[←hst]) k0 kn))))
def Bt(b:Int)(m:Mk):Int×Mk :=
 let m1:=Bq b (IntKind.i32.wrap (tVV 9 m)) (tSS m)
 let m2:=tSS m1
 if tVV 3 m1=0 then
  let m3:=sS9 b m2
  let m4:=Bq b 7 m3
  let m6:=Cc b ⟨5,m4.nx,0,[sV9 m2,m3.nx],0⟩ (Bj m4)
  (m6.nx,Cc b ⟨2,m6.nx,0,[(tSS m).nx,m4.nx],0⟩ (Bj m6))
 else ((tSS m).nx,m2)
def Cl(m:Mk):Int×Mk :=
 let m2:=tSS (tSS m)
 if tVV 12 (tSS m)=0 then (Ay m2,Ck m2) else (IntKind.i32.wrap (tVV 4 m),m2)
def Ci(b:Int)(st:Bool)(m:Mk):Mk :=
 let a:=Bt b m
 let i:=Cl a.2
 if st then Cc b ⟨16,0,0,[a.1,sV9 i.2],i.1⟩ (sS9 b i.2) else Cc b ⟨15,i.2.nx,0,[a.1],i.1⟩ (Bj i.2)
def Eg(b:Int):Nat→List Int→Mk→List Int×Mk
 | 0,l,m=>(l,m)
 | n+1,l,m=>Eg b n (l++[sV9 m]) (sS9 b m)
def Cj(b:Int)(m:Mk):Mk :=
 let k:=tVV 20 m
 let m1:=tSS m
 let m2:=sS9 b m1
 let m3:=sS9 b m2
 if k<12 then
  if tVV 3 m3=0 then
   let m4:=Bq b (IntKind.i32.wrap (tVV 40 (tSS m3)-8)) (tSS (tSS m3))
   Cc b ⟨ix [2,2,3,4,5,6,7,8,9,10,12,11] k.toNat,m4.nx,0,[sV9 m1,(tSS (tSS m3)).nx],0⟩ (Bj m4)
  else Cc b ⟨ix [2,2,3,4,5,6,7,8,9,10,12,11] k.toNat,(tSS m3).nx,0,[sV9 m1,sV9 m2],0⟩ (Bj (tSS m3))
 else if k=12 then Cc b ⟨13,m3.nx,0,[sV9 m1,sV9 m2],0⟩ (Bj m3)
 else if k=13 then
  let m4:=Bq b (IntKind.i32.wrap (tVV 12 m2)) (tSS m2)
  if 0<tVV 3 m4 then
   let m5:=Bq b (IntKind.i32.wrap (1+IntKind.i32.wrap (tVV 12 (tSS m4)))) (tSS (tSS m4))
   Cc b ⟨14,m5.nx,0,[sV9 m1,(tSS (tSS m4)).nx],0⟩ (Bj m5)
  else Cc b ⟨14,(tSS m4).nx,0,[sV9 m1,(tSS m2).nx],0⟩ (Bj (tSS m4))
 else if k<16 then Ci b (decide (k=15)) m1
 else if k=16 then
  let r:=Eg b (tVV 5 m1).toNat [] (tSS m1)
  Cc b ⟨17,r.2.nx,0,r.1,IntKind.i32.wrap (tVV 5 (Bj r.2))⟩ (tSS (Bj r.2))
 else if k=17 then Cc b ⟨18,m3.nx,(Bj m3).nx,[sV9 m1,sV9 m2],0⟩ (Bj (Bj m3))
 else Bq b (Ay m1) (Ck m1)
def setT(b:Int)(t:D.Term)(m:Mk):Mk:={ m with bs:=m.bs.set b.toNat { (ix m.bs b.toNat) with Term:=t } }
def Cq(b:Int)(l:List Int)(m:Mk):Mk :=
 if l.length=0 then
  if tVV 8 m=0 then setT b ⟨5,[],[],IntKind.i32.wrap (tVV 200 (tSS m))⟩ (tSS (tSS m))
  else if tVV 8 m>1 then setT b ⟨4,[sV9 (tSS m)],[],0⟩ (sS9 b (tSS m))
  else setT b ⟨4,[],[],0⟩ (tSS m)
 else if l.length=1 then setT b ⟨1,[],l,0⟩ m
 else if l.length=2 then
  let m1:=sS9 b m
  let m2:=tSS m1
  if tVV 2 m1=0 then
   let m3:=sS9 b m2
   let m4:=Bj m3
   setT b ⟨2,[m3.nx],l,0⟩ (Cc b ⟨ix [11,12,13] (tVV 3 m4).toNat,m3.nx,0,[sV9 m,sV9 m2],0⟩ (tSS m4))
  else setT b ⟨2,[sV9 m],l,0⟩ m2
 else
  let m1:=sS9 b m
  let m2:=Bq b 7 m1
  setT b ⟨3,[m2.nx],l,0⟩ (Cc b ⟨5,m2.nx,0,[sV9 m,m1.nx],0⟩ (Bj m2))
section
variable{nb c:Nat}{m:Mk}{b:Int}
theorem T7(h:okM nb c m)(hb:b.toNat<nb):okM nb (c+22) (Bt b m).2:=by
 unfold Bt;dsimp only;split
 ·exact(Dj (Dm (Dj (Dm (Gm (Dk (tO9 (Gm (tO9 h) hb)) hb) hb)) hb)) hb).mono (by omega)
 ·exact(tO9 (Gm (tO9 h) hb)).mono (by omega)
theorem T6(h:okM nb c m):okM nb (c+4) (Cl m).2:=by
 unfold Cl;dsimp only;split
 ·exact(Ki (tO9 (tO9 h))).mono (by omega)
 ·exact(tO9 (tO9 h)).mono (by omega)
theorem T1{st:Bool}(h:okM nb c m)(hb:b.toNat<nb):okM nb (c+40) (Ci b st m):=by
 unfold Ci;dsimp only;split
 ·exact(Dj (Dk (T6 (T7 h hb)) hb) hb).mono (by omega)
 ·exact(Dj (Dm (T6 (T7 h hb))) hb).mono (by omega)
theorem CU(hb:b.toNat<nb):∀(n:Nat) (l:List Int) {c:Nat} {m:Mk},okM nb c m→okM nb (c+8*n) (Eg b n l m).2
 | 0,_,_,_,h=>h
 | n+1,l,_,m,h=>by have:=CU hb n (l++[sV9 m]) (Dk (b:=b) h hb);exact this.mono (by omega)
theorem CV:∀(n:Nat) (l:List Int) (m:Mk),(Eg b n l m).1.length=l.length+n
 | 0,_,_=>rfl
 | n+1,l,m=>by rw[Eg,CV n];simp;omega
theorem PD(h:okM nb c m)(hb:b.toNat<nb):okM nb (c+60) (Cj b m):=by
 unfold Cj;dsimp only
 repeat' split
 ·exact(Dj (Dm (Gm (tO9 (tO9 (Dk (Dk (tO9 h) hb) hb))) hb)) hb).mono (by omega)
 ·exact(Dj (Dm (tO9 (Dk (Dk (tO9 h) hb) hb))) hb).mono (by omega)
 ·exact(Dj (Dm (Dk (Dk (tO9 h) hb) hb)) hb).mono (by omega)
 ·exact(Dj (Dm (Gm (tO9 (tO9 (Gm (tO9 (Dk (tO9 h) hb)) hb))) hb)) hb).mono (by omega)
 ·exact(Dj (Dm (tO9 (Gm (tO9 (Dk (tO9 h) hb)) hb))) hb).mono (by omega)
 ·exact(T1 (tO9 h) hb).mono (by omega)
 ·have h9:=tV9 (n:=5) (by omega) (tSS m)
  exact(Dj (tO9 (Dm (CU hb _ [] (tO9 (tO9 h))))) hb).mono (by omega)
 ·exact(Dj (Dm (Dm (Dk (Dk (tO9 h) hb) hb))) hb).mono (by omega)
 ·exact(Gm (Ki (tO9 h)) hb).mono (by omega)
theorem Nl{t:D.Term}(h:okM nb c m)(hb:b.toNat<nb):okM nb c (setT b t m):=h.setb (d:=0) (Nat.le_refl _)
theorem QW{l:List Int}(h:okM nb c m)(hb:b.toNat<nb):okM nb (c+40) (Cq b l m):=by
 unfold Cq;dsimp only
 repeat' split
 ·exact(Nl (tO9 (tO9 h)) hb).mono (by omega)
 ·exact(Nl (Dk (tO9 h) hb) hb).mono (by omega)
 ·exact(Nl (tO9 h) hb).mono (by omega)
 ·exact(Nl h hb).mono (by omega)
 ·exact(Nl (Dj (tO9 (Dm (Dk (tO9 (Dk h hb)) hb))) hb) hb).mono (by omega)
 ·exact(Nl (tO9 (Dk h hb)) hb).mono (by omega)
 ·exact(Nl (Dj (Dm (Gm (Dk h hb) hb)) hb) hb).mono (by omega)
theorem LP:(Bt b m).2.s=m.s:=by unfold Bt;dsimp only;split<;>simp only[Eu,Fe,Kc,Bj,tSS]
theorem LO:(Cl m).2.s=m.s:=by unfold Cl;dsimp only;split<;>rfl
theorem T4{st:Bool}:(Ci b st m).s=m.s:=by unfold Ci;dsimp only;split<;>simp only[Eu,Fe,Bj,LO,LP]
theorem CW:∀(n:Nat) (l:List Int) (m:Mk),(Eg b n l m).2.s=m.s
 | 0,_,_=>rfl
 | n+1,l,m=>by rw[Eg,CW n,Fe]
theorem PA:(Cj b m).s=m.s:=by unfold Cj;dsimp only;(repeat' split)<;>simp only[Eu,Fe,Kc,Bj,tSS,T4,CW,Ck]
theorem QX{l:List Int}:(Cq b l m).s=m.s:=by unfold Cq;dsimp only;(repeat' split)<;>simp only[setT,Eu,Fe,Kc,Bj,tSS]
end
theorem Hk:Ent Tryz.prog 119:=⟨_,Tryz.func119,by kernel_rfl,by kernel_rfl⟩
theorem MC{vs vb al:Value}{m:Mk}{nb c:Nat}{S:List Int}{g0:Nat}{B0 B1:Nat}{qs:List BV}(hok:okS nb c S m)(hc:c≤950000)(b:Int)(st:Bool)(hb9:0≤b∧b<nb):KB Tryz.prog 121 [.int .i64 b,.bool st] [] g0 vs vb al S B0 B1 qs [] m (Ci b st m) (.tuple #[]):=by
 refine Az (args:=[.pointer (some ⟨g0,0,none⟩),.int .i64 b,.bool st]) Tryz.func121 rfl rfl rfl fun w0 X=>?_
 refine cgo k1 fun w1=>?_
 have bd0:=okM.bnd hok.1
 refine cbk k2 (okM.bnd hok.1).2.2.2.2.2.2.2.1 fun hvb=>?_
 have hbn:b.toNat<nb:=by omega
 refine jq (jr (jm Z (jm Z (jm Z (jkr E47 Z Z (Dd hok (by omega) 9 (by first|exact hb9|decide|omega)) (dc d0 dn) (kd (kc k0 kn)) ⟨tO9 hok.1,hok.2⟩ fun m15 hm15 om15 bm15=>?_)))))
 have w15_0:IntKind.i64.wrap (tVV 9 m)=tVV 9 m:=(IntWalk.i64_in _ (by have h9:=@tV9 9 (by omega) m;omega))
 have tr15:=@tV9 9 (by omega) m
 clear bd0
 refine js (jco U3 U21 Z Z) (jkb E70 Z Z (Md om15 (by omega) b (IntKind.i32.wrap (tVV 9 m)) (by first|exact hb9|decide|omega) (JE.wrap_wrap _ _)) (dc d0 dn) (kd (kc k0 kn)) ⟨Gm om15.1 hbn,(Kc.trans om15.2)⟩ p1 fun m17 hm17 om17 bm17 ua17 qs17 w2=>?_)
 clear bm15
 refine ja Z (jn (jx (jq (jq (jr (jm Z (jkr E47 Z Z (Dd om17 (by omega) 3 (by first|exact hb9|decide|omega)) (dc d1 dn) (kd (kc k0 kn)) ⟨tO9 om17.1,om17.2⟩ fun m19 hm19 om19 bm19=>?_)))))))
 have w19_0:IntKind.i64.wrap (tVV 3 m17)=tVV 3 m17:=(IntWalk.i64_in _ (by have h9:=@tV9 3 (by omega) m17;omega))
 have tr19:=@tV9 3 (by omega) m17
 clear bm17
 refine js (Ao Z Z) (jn (jx ?_))
 refine jif Z (fun hc1=>?_) (fun hc1=>?_)
 refine jq (jr (jm Z (jm Z (jkb Hk Z Z (Hc om19 (by omega) b (by first|exact hb9|decide|omega)) (dc d1 dn) (kd (kc k0 kn)) ⟨Dk om19.1 hbn,(Fe.trans om19.2)⟩ p1 fun m23 hm23 om23 bm23 ua23 qs23 w4=>?_))))
 clear bm19
 refine ja Z (jn (jx (jq (jr (jm Z (jm Z (jkb E70 Z Z (Md om23 (by omega) b 7 (by first|exact hb9|decide|omega) (by decide)) (dc d2 dn) (kd (kc k0 kn)) ⟨Gm om23.1 hbn,(Kc.trans om23.2)⟩ p1 fun m26 hm26 om26 bm26 ua26 qs26 w6=>?_)))))))
 clear bm23
 refine ja Z (jn (jx (jq (jr (jm Z (jkr E64 Z Z (Fp om26 (by omega)) (dc d3 dn) (kd (kc k0 kn)) ⟨Dm om26.1,om26.2⟩ fun m28 hm28 om28 bm28=>?_))))))
 have w28_0:IntKind.i64.wrap (m26.nx)=m26.nx:=(IntWalk.i64_in _ (by omega))
 clear bm26
 refine ja Z (jn (jx (jq (jr (jm Z (jm Z (jm Z (jm Z (jm Z (Bg (r:=(rI .i64)) (l:=[sV9 m19,m23.nx]) U22 I3 (by decide) Z Z Z (lV Z Z (wI ((wfw d1))) (lV Z Z (wI ((wfw d0))) ln)) fun g34=>js (jbu (v := .agg #[.int .i64 5,.int .i64 m26.nx,.int .i64 0,(.slice (some ⟨g34,0,none⟩) 2 2),.int .i32 0]) Z (fun _=>by kernel_rfl)) ?_))))))))))
 refine jfz k0 (by(try simp)<;>omega) (jkb Fm Z Z (Fh (i:=⟨5,m26.nx,0,[sV9 m19,m23.nx],0⟩) om28 (by omega) b (by first|exact hb9|decide|omega)) (dc d4 (dc (Am.M (m:=⟨5,m26.nx,0,[sV9 m19,m23.nx],0⟩) (c:=(.slice (some ⟨g34,0,none⟩) 2 2)) d0 (wl 5) (wp w28_0) (wl 0) (wl 0)) dn)) (kd (kc k0 kn)) ⟨Dj om28.1 hbn,(Eu.trans om28.2)⟩ p0 fun m36 hm36 om36 bm36 ua36 qs36 w9=>?_)
 clear bm28
 refine jn (jx (jq (jr (jm Z (jkr E64 Z Z (Fp om36 (by omega)) (dc d4 dn) (kd (kc k0 kn)) ⟨Dm om36.1,om36.2⟩ fun m38 hm38 om38 bm38=>?_)))))
 have w38_0:IntKind.i64.wrap (m36.nx)=m36.nx:=(IntWalk.i64_in _ (by omega))
 clear bm36
 refine ja Z (jn (jx (jq (jr (jm Z (jm Z (jm Z (jm Z (jm Z (Bg (r:=(rI .i64)) (l:=[m15.nx,m26.nx]) U22 I3 (by decide) Z Z Z (lV Z Z (wI ((wfw d3))) (lV Z Z (wI (wp w28_0)) ln)) fun g44=>js (jbu (v := .agg #[.int .i64 2,.int .i64 m36.nx,.int .i64 0,(.slice (some ⟨g44,0,none⟩) 2 2),.int .i32 0]) Z (fun _=>by kernel_rfl)) ?_))))))))))
 refine jfz k0 (by(try simp)<;>omega) (jkb Fm Z Z (Fh (i:=⟨2,m36.nx,0,[m15.nx,m26.nx],0⟩) om38 (by omega) b (by first|exact hb9|decide|omega)) (dc d5 (dc (Am.M (m:=⟨2,m36.nx,0,[m15.nx,m26.nx],0⟩) (c:=(.slice (some ⟨g44,0,none⟩) 2 2)) d0 (wl 2) (wp w38_0) (wl 0) (wl 0)) dn)) (kd (kc k0 kn)) ⟨Dj om38.1 hbn,(Eu.trans om38.2)⟩ p0 fun m46 hm46 om46 bm46 ua46 qs46 w11=>?_)
 clear bm38
 refine jn (jx (jr (jm Z (ja Z (jn (jx (jq (jr (jm Z (jkr E47 Z Z (Dd om46 (by omega) 4 (by first|exact hb9|decide|omega)) (dc d5 dn) (kd (kc k0 kn)) ⟨tO9 om46.1,om46.2⟩ fun m49 hm49 om49 bm49=>?_))))))))))
 have w49_0:IntKind.i64.wrap (tVV 4 m46)=tVV 4 m46:=(IntWalk.i64_in _ (by have h9:=@tV9 4 (by omega) m46;omega))
 have tr49:=@tV9 4 (by omega) m46
 clear bm46
 refine js (jco U3 U21 Z Z) (ja Z (jn (jx (jq (jq (jr (jm Z (jkr E47 Z Z (Dd om49 (by omega) 12 (by first|exact hb9|decide|omega)) (dc d5 dn) (kd (kc k0 kn)) ⟨tO9 om49.1,om49.2⟩ fun m52 hm52 om52 bm52=>?_))))))))
 have w52_0:IntKind.i64.wrap (tVV 12 m49)=tVV 12 m49:=(IntWalk.i64_in _ (by have h9:=@tV9 12 (by omega) m49;omega))
 have tr52:=@tV9 12 (by omega) m49
 clear bm49
 refine js (Ao Z Z) (jn (jx ?_))
 refine jif Z (fun hc2=>?_) (fun hc2=>?_)
 refine jr (jm Z (jkr E71 Z Z (Mv om52 (by omega)) (dc d5 dn) (kd (kc k0 kn)) ⟨Ki om52.1,om52.2⟩ fun m55 hm55 om55 bm55=>?_))
 have w55_0:IntKind.i32.wrap (Ay m52)=Ay m52:=(Mh m52)
 clear bm52
 refine ja Z (jn (jx (jq (jr (jm Z (jn (jx ?_)))))))
 refine jif Z (fun hc3=>?_) (fun hc3=>?_)
 refine jr (jm Z (jm Z (jm Z (jm Z (jm Z (jkb Hk Z Z (Hc om55 (by omega) b (by first|exact hb9|decide|omega)) (dc d5 dn) (kd (kc k0 kn)) ⟨Dk om55.1 hbn,(Fe.trans om55.2)⟩ p1 fun m62 hm62 om62 bm62 ua62 qs62 w12=>?_))))))
 clear bm55
 refine Bg (r:=(rI .i64)) (l:=[m36.nx,sV9 m55]) U22 I3 (by decide) Z Z Z (lV Z Z (wI (wp w38_0)) (lV Z Z (wI ((wfw d0))) ln)) fun g63=>jm Z (js (jbu (v := .agg #[.int .i64 16,.int .i64 0,.int .i64 0,(.slice (some ⟨g63,0,none⟩) 2 2),.int .i32 (Ay m52)]) Z (fun _=>by kernel_rfl)) (jfz k0 (by(try simp)<;>omega) (jkb Fm Z Z (Fh (i:=⟨16,0,0,[m36.nx,sV9 m55],Ay m52⟩) om62 (by omega) b (by first|exact hb9|decide|omega)) (dc d7 (dc (Am.M (m:=⟨16,0,0,[m36.nx,sV9 m55],Ay m52⟩) (c:=(.slice (some ⟨g63,0,none⟩) 2 2)) d0 (wl 16) (wl 0) (wl 0) (wp w55_0)) dn)) (kd (kc k0 kn)) ⟨Dj om62.1 hbn,(Eu.trans om62.2)⟩ p0 fun m66 hm66 om66 bm66 ua66 qs66 w15=>?_)))
 clear bm62
 refine jn ?_
 have hst:m66=Ci b st m:=(by(try simp only[hm15,hm17,hm19,hm23,hm26,hm28,hm36,hm38,hm46,hm49,hm52,hm55,hm62,hm66] at hc1 hc2 hc3);(try simp only[hm15,hm17,hm19,hm23,hm26,hm28,hm36,hm38,hm46,hm49,hm52,hm55,hm62,hm66]);all_goals first|rfl|(simp[Ci,Bt,Cl,hc1,hc2,hc3];done)|(simp[Ci,Bt,Cl,hc1,hc2,hc3];rfl)|(unfold Ci Bt Cl;(repeat' split)<;>first|rfl|(exfalso;omega)|(simp[hc1,hc2,hc3] at *;done)|(simp_all;done)))
 exact jd0 Z (ua66,qs66) Z dn (fun _ _=>(kcb (by rw[←hst]) k0 (kcg (by rw[←hst]) k0 (kck (by rw[←hst]) k0 kn))))
 refine jr (jm Z (jm Z (jm Z (jkr E64 Z Z (Fp om55 (by omega)) (dc d5 dn) (kd (kc k0 kn)) ⟨Dm om55.1,om55.2⟩ fun m70 hm70 om70 bm70=>?_))))
 have w70_0:IntKind.i64.wrap (m55.nx)=m55.nx:=(IntWalk.i64_in _ (by omega))
 clear bm55
 refine jm Z (Bg (r:=(rI .i64)) (l:=[m36.nx]) U22 I3 (by decide) Z Z Z (lV Z Z (wI (wp w38_0)) ln) fun g72=>jm Z (js (jbu (v := .agg #[.int .i64 15,.int .i64 m55.nx,.int .i64 0,(.slice (some ⟨g72,0,none⟩) 1 1),.int .i32 (Ay m52)]) Z (fun _=>by kernel_rfl)) (jfz k0 (by(try simp)<;>omega) (jkb Fm Z Z (Fh (i:=⟨15,m55.nx,0,[m36.nx],Ay m52⟩) om70 (by omega) b (by first|exact hb9|decide|omega)) (dc d6 (dc (Am.M (m:=⟨15,m55.nx,0,[m36.nx],Ay m52⟩) (c:=(.slice (some ⟨g72,0,none⟩) 1 1)) d0 (wl 15) (wp w70_0) (wl 0) (wp w55_0)) dn)) (kd (kc k0 kn)) ⟨Dj om70.1 hbn,(Eu.trans om70.2)⟩ p0 fun m75 hm75 om75 bm75 ua75 qs75 w17=>?_))))
 clear bm70
 refine jn ?_
 have hst:m75=Ci b st m:=(by(try simp only[hm15,hm17,hm19,hm23,hm26,hm28,hm36,hm38,hm46,hm49,hm52,hm55,hm70,hm75] at hc1 hc2 hc3);(try simp only[hm15,hm17,hm19,hm23,hm26,hm28,hm36,hm38,hm46,hm49,hm52,hm55,hm70,hm75]);all_goals first|rfl|(simp[Ci,Bt,Cl,hc1,hc2,hc3];done)|(simp[Ci,Bt,Cl,hc1,hc2,hc3];rfl)|(unfold Ci Bt Cl;(repeat' split)<;>first|rfl|(exfalso;omega)|(simp[hc1,hc2,hc3] at *;done)|(simp_all;done)))
 exact jd0 Z (ua75,qs75) Z dn (fun _ _=>(kcb (by rw[←hst]) k0 (kcg (by rw[←hst]) k0 (kck (by rw[←hst]) k0 kn))))
 refine jsk (jx (jq (jr (jm Z (jn (jx ?_))))))
 refine jif Z (fun hc4=>?_) (fun hc4=>?_)
 refine jr (jm Z (jm Z (jm Z (jm Z (jm Z (jkb Hk Z Z (Hc om52 (by omega) b (by first|exact hb9|decide|omega)) (dc d5 dn) (kd (kc k0 kn)) ⟨Dk om52.1 hbn,(Fe.trans om52.2)⟩ p1 fun m62 hm62 om62 bm62 ua62 qs62 w18=>?_))))))
 clear bm52
 refine Bg (r:=(rI .i64)) (l:=[m36.nx,sV9 m52]) U22 I3 (by decide) Z Z Z (lV Z Z (wI (wp w38_0)) (lV Z Z (wI ((wfw d0))) ln)) fun g63_20=>jm Z (js (jbu (v := .agg #[.int .i64 16,.int .i64 0,.int .i64 0,(.slice (some ⟨g63_20,0,none⟩) 2 2),.int .i32 (IntKind.i32.wrap (tVV 4 m46))]) Z (fun _=>by kernel_rfl)) (jfz k0 (by(try simp)<;>omega) (jkb Fm Z Z (Fh (i:=⟨16,0,0,[m36.nx,sV9 m52],IntKind.i32.wrap (tVV 4 m46)⟩) om62 (by omega) b (by first|exact hb9|decide|omega)) (dc d7 (dc (Am.M (m:=⟨16,0,0,[m36.nx,sV9 m52],IntKind.i32.wrap (tVV 4 m46)⟩) (c:=(.slice (some ⟨g63_20,0,none⟩) 2 2)) d0 (wl 16) (wl 0) (wl 0) (wp (JE.wrap_wrap _ _))) dn)) (kd (kc k0 kn)) ⟨Dj om62.1 hbn,(Eu.trans om62.2)⟩ p0 fun m66 hm66 om66 bm66 ua66 qs66 w22=>?_)))
 clear bm62
 refine jn ?_
 have hst:m66=Ci b st m:=(by(try simp only[hm15,hm17,hm19,hm23,hm26,hm28,hm36,hm38,hm46,hm49,hm52,hm62,hm66] at hc1 hc2 hc4);(try simp only[hm15,hm17,hm19,hm23,hm26,hm28,hm36,hm38,hm46,hm49,hm52,hm62,hm66]);all_goals first|rfl|(simp[Ci,Bt,Cl,hc1,hc2,hc4];done)|(simp[Ci,Bt,Cl,hc1,hc2,hc4];rfl)|(unfold Ci Bt Cl;(repeat' split)<;>first|rfl|(exfalso;omega)|(simp[hc1,hc2,hc4] at *;done)|(simp_all;done)))
 exact jd0 Z (ua66,qs66) Z dn (fun _ _=>(kcb (by rw[←hst]) k0 (kcg (by rw[←hst]) k0 (kck (by rw[←hst]) k0 kn))))
 refine jr (jm Z (jm Z (jm Z (jkr E64 Z Z (Fp om52 (by omega)) (dc d5 dn) (kd (kc k0 kn)) ⟨Dm om52.1,om52.2⟩ fun m70 hm70 om70 bm70=>?_))))
 have w70_0:IntKind.i64.wrap (m52.nx)=m52.nx:=(IntWalk.i64_in _ (by omega))
 clear bm52
 refine jm Z (Bg (r:=(rI .i64)) (l:=[m36.nx]) U22 I3 (by decide) Z Z Z (lV Z Z (wI (wp w38_0)) ln) fun g72_23=>jm Z (js (jbu (v := .agg #[.int .i64 15,.int .i64 m52.nx,.int .i64 0,(.slice (some ⟨g72_23,0,none⟩) 1 1),.int .i32 (IntKind.i32.wrap (tVV 4 m46))]) Z (fun _=>by kernel_rfl)) (jfz k0 (by(try simp)<;>omega) (jkb Fm Z Z (Fh (i:=⟨15,m52.nx,0,[m36.nx],IntKind.i32.wrap (tVV 4 m46)⟩) om70 (by omega) b (by first|exact hb9|decide|omega)) (dc d6 (dc (Am.M (m:=⟨15,m52.nx,0,[m36.nx],IntKind.i32.wrap (tVV 4 m46)⟩) (c:=(.slice (some ⟨g72_23,0,none⟩) 1 1)) d0 (wl 15) (wp w70_0) (wl 0) (wp (JE.wrap_wrap _ _))) dn)) (kd (kc k0 kn)) ⟨Dj om70.1 hbn,(Eu.trans om70.2)⟩ p0 fun m75 hm75 om75 bm75 ua75 qs75 w25=>?_))))
 clear bm70
 refine jn ?_
 have hst:m75=Ci b st m:=(by(try simp only[hm15,hm17,hm19,hm23,hm26,hm28,hm36,hm38,hm46,hm49,hm52,hm70,hm75] at hc1 hc2 hc4);(try simp only[hm15,hm17,hm19,hm23,hm26,hm28,hm36,hm38,hm46,hm49,hm52,hm70,hm75]);all_goals first|rfl|(simp[Ci,Bt,Cl,hc1,hc2,hc4];done)|(simp[Ci,Bt,Cl,hc1,hc2,hc4];rfl)|(unfold Ci Bt Cl;(repeat' split)<;>first|rfl|(exfalso;omega)|(simp[hc1,hc2,hc4] at *;done)|(simp_all;done)))
 exact jd0 Z (ua75,qs75) Z dn (fun _ _=>(kcb (by rw[←hst]) k0 (kcg (by rw[←hst]) k0 (kck (by rw[←hst]) k0 kn))))
 refine jsk (jx (jq (jr (jm Z (jkr E47 Z Z (Dd om19 (by omega) 4 (by first|exact hb9|decide|omega)) (dc d1 dn) (kd (kc k0 kn)) ⟨tO9 om19.1,om19.2⟩ fun m49 hm49 om49 bm49=>?_)))))
 have w49_0:IntKind.i64.wrap (tVV 4 m19)=tVV 4 m19:=(IntWalk.i64_in _ (by have h9:=@tV9 4 (by omega) m19;omega))
 have tr49:=@tV9 4 (by omega) m19
 clear bm19
 refine js (jco U3 U21 Z Z) (ja Z (jn (jx (jq (jq (jr (jm Z (jkr E47 Z Z (Dd om49 (by omega) 12 (by first|exact hb9|decide|omega)) (dc d1 dn) (kd (kc k0 kn)) ⟨tO9 om49.1,om49.2⟩ fun m52 hm52 om52 bm52=>?_))))))))
 have w52_0:IntKind.i64.wrap (tVV 12 m49)=tVV 12 m49:=(IntWalk.i64_in _ (by have h9:=@tV9 12 (by omega) m49;omega))
 have tr52:=@tV9 12 (by omega) m49
 clear bm49
 refine js (Ao Z Z) (jn (jx ?_))
 refine jif Z (fun hc5=>?_) (fun hc5=>?_)
 refine jr (jm Z (jkr E71 Z Z (Mv om52 (by omega)) (dc d1 dn) (kd (kc k0 kn)) ⟨Ki om52.1,om52.2⟩ fun m55 hm55 om55 bm55=>?_))
 have w55_0:IntKind.i32.wrap (Ay m52)=Ay m52:=(Mh m52)
 clear bm52
 refine ja Z (jn (jx (jq (jr (jm Z (jn (jx ?_)))))))
 refine jif Z (fun hc6=>?_) (fun hc6=>?_)
 refine jr (jm Z (jm Z (jm Z (jm Z (jm Z (jkb Hk Z Z (Hc om55 (by omega) b (by first|exact hb9|decide|omega)) (dc d1 dn) (kd (kc k0 kn)) ⟨Dk om55.1 hbn,(Fe.trans om55.2)⟩ p1 fun m62 hm62 om62 bm62 ua62 qs62 w26=>?_))))))
 clear bm55
 refine Bg (r:=(rI .i64)) (l:=[m15.nx,sV9 m55]) U22 I3 (by decide) Z Z Z (lV Z Z (wI ((wfw d1))) (lV Z Z (wI ((wfw d0))) ln)) fun g63_28=>jm Z (js (jbu (v := .agg #[.int .i64 16,.int .i64 0,.int .i64 0,(.slice (some ⟨g63_28,0,none⟩) 2 2),.int .i32 (Ay m52)]) Z (fun _=>by kernel_rfl)) (jfz k0 (by(try simp)<;>omega) (jkb Fm Z Z (Fh (i:=⟨16,0,0,[m15.nx,sV9 m55],Ay m52⟩) om62 (by omega) b (by first|exact hb9|decide|omega)) (dc d3 (dc (Am.M (m:=⟨16,0,0,[m15.nx,sV9 m55],Ay m52⟩) (c:=(.slice (some ⟨g63_28,0,none⟩) 2 2)) d0 (wl 16) (wl 0) (wl 0) (wp w55_0)) dn)) (kd (kc k0 kn)) ⟨Dj om62.1 hbn,(Eu.trans om62.2)⟩ p0 fun m66 hm66 om66 bm66 ua66 qs66 w30=>?_)))
 clear bm62
 refine jn ?_
 have hst:m66=Ci b st m:=(by(try simp only[hm15,hm17,hm19,hm49,hm52,hm55,hm62,hm66] at hc1 hc5 hc6);(try simp only[hm15,hm17,hm19,hm49,hm52,hm55,hm62,hm66]);all_goals first|rfl|(simp[Ci,Bt,Cl,hc1,hc5,hc6];done)|(simp[Ci,Bt,Cl,hc1,hc5,hc6];rfl)|(unfold Ci Bt Cl;(repeat' split)<;>first|rfl|(exfalso;omega)|(simp[hc1,hc5,hc6] at *;done)|(simp_all;done)))
 exact jd0 Z (ua66,qs66) Z dn (fun _ _=>(kcb (by rw[←hst]) k0 (kcg (by rw[←hst]) k0 (kck (by rw[←hst]) k0 kn))))
 refine jr (jm Z (jm Z (jm Z (jkr E64 Z Z (Fp om55 (by omega)) (dc d1 dn) (kd (kc k0 kn)) ⟨Dm om55.1,om55.2⟩ fun m70 hm70 om70 bm70=>?_))))
 have w70_0:IntKind.i64.wrap (m55.nx)=m55.nx:=(IntWalk.i64_in _ (by omega))
 clear bm55
 refine jm Z (Bg (r:=(rI .i64)) (l:=[m15.nx]) U22 I3 (by decide) Z Z Z (lV Z Z (wI ((wfw d0))) ln) fun g72_31=>jm Z (js (jbu (v := .agg #[.int .i64 15,.int .i64 m55.nx,.int .i64 0,(.slice (some ⟨g72_31,0,none⟩) 1 1),.int .i32 (Ay m52)]) Z (fun _=>by kernel_rfl)) (jfz k0 (by(try simp)<;>omega) (jkb Fm Z Z (Fh (i:=⟨15,m55.nx,0,[m15.nx],Ay m52⟩) om70 (by omega) b (by first|exact hb9|decide|omega)) (dc d2 (dc (Am.M (m:=⟨15,m55.nx,0,[m15.nx],Ay m52⟩) (c:=(.slice (some ⟨g72_31,0,none⟩) 1 1)) d0 (wl 15) (wp w70_0) (wl 0) (wp w55_0)) dn)) (kd (kc k0 kn)) ⟨Dj om70.1 hbn,(Eu.trans om70.2)⟩ p0 fun m75 hm75 om75 bm75 ua75 qs75 w33=>?_))))
 clear bm70
 refine jn ?_
 have hst:m75=Ci b st m:=(by(try simp only[hm15,hm17,hm19,hm49,hm52,hm55,hm70,hm75] at hc1 hc5 hc6);(try simp only[hm15,hm17,hm19,hm49,hm52,hm55,hm70,hm75]);all_goals first|rfl|(simp[Ci,Bt,Cl,hc1,hc5,hc6];done)|(simp[Ci,Bt,Cl,hc1,hc5,hc6];rfl)|(unfold Ci Bt Cl;(repeat' split)<;>first|rfl|(exfalso;omega)|(simp[hc1,hc5,hc6] at *;done)|(simp_all;done)))
 exact jd0 Z (ua75,qs75) Z dn (fun _ _=>(kcb (by rw[←hst]) k0 (kcg (by rw[←hst]) k0 (kck (by rw[←hst]) k0 kn))))
 refine jsk (jx (jq (jr (jm Z (jn (jx ?_))))))
 refine jif Z (fun hc7=>?_) (fun hc7=>?_)
 refine jr (jm Z (jm Z (jm Z (jm Z (jm Z (jkb Hk Z Z (Hc om52 (by omega) b (by first|exact hb9|decide|omega)) (dc d1 dn) (kd (kc k0 kn)) ⟨Dk om52.1 hbn,(Fe.trans om52.2)⟩ p1 fun m62 hm62 om62 bm62 ua62 qs62 w34=>?_))))))
 clear bm52
 refine Bg (r:=(rI .i64)) (l:=[m15.nx,sV9 m52]) U22 I3 (by decide) Z Z Z (lV Z Z (wI ((wfw d1))) (lV Z Z (wI ((wfw d0))) ln)) fun g63_36=>jm Z (js (jbu (v := .agg #[.int .i64 16,.int .i64 0,.int .i64 0,(.slice (some ⟨g63_36,0,none⟩) 2 2),.int .i32 (IntKind.i32.wrap (tVV 4 m19))]) Z (fun _=>by kernel_rfl)) (jfz k0 (by(try simp)<;>omega) (jkb Fm Z Z (Fh (i:=⟨16,0,0,[m15.nx,sV9 m52],IntKind.i32.wrap (tVV 4 m19)⟩) om62 (by omega) b (by first|exact hb9|decide|omega)) (dc d3 (dc (Am.M (m:=⟨16,0,0,[m15.nx,sV9 m52],IntKind.i32.wrap (tVV 4 m19)⟩) (c:=(.slice (some ⟨g63_36,0,none⟩) 2 2)) d0 (wl 16) (wl 0) (wl 0) (wp (JE.wrap_wrap _ _))) dn)) (kd (kc k0 kn)) ⟨Dj om62.1 hbn,(Eu.trans om62.2)⟩ p0 fun m66 hm66 om66 bm66 ua66 qs66 w38=>?_)))
 clear bm62
 refine jn ?_
 have hst:m66=Ci b st m:=(by(try simp only[hm15,hm17,hm19,hm49,hm52,hm62,hm66] at hc1 hc5 hc7);(try simp only[hm15,hm17,hm19,hm49,hm52,hm62,hm66]);all_goals first|rfl|(simp[Ci,Bt,Cl,hc1,hc5,hc7];done)|(simp[Ci,Bt,Cl,hc1,hc5,hc7];rfl)|(unfold Ci Bt Cl;(repeat' split)<;>first|rfl|(exfalso;omega)|(simp[hc1,hc5,hc7] at *;done)|(simp_all;done)))
 exact jd0 Z (ua66,qs66) Z dn (fun _ _=>(kcb (by rw[←hst]) k0 (kcg (by rw[←hst]) k0 (kck (by rw[←hst]) k0 kn))))
 refine jr (jm Z (jm Z (jm Z (jkr E64 Z Z (Fp om52 (by omega)) (dc d1 dn) (kd (kc k0 kn)) ⟨Dm om52.1,om52.2⟩ fun m70 hm70 om70 bm70=>?_))))
 have w70_0:IntKind.i64.wrap (m52.nx)=m52.nx:=(IntWalk.i64_in _ (by omega))
 clear bm52
 refine jm Z (Bg (r:=(rI .i64)) (l:=[m15.nx]) U22 I3 (by decide) Z Z Z (lV Z Z (wI ((wfw d0))) ln) fun g72_39=>jm Z (js (jbu (v := .agg #[.int .i64 15,.int .i64 m52.nx,.int .i64 0,(.slice (some ⟨g72_39,0,none⟩) 1 1),.int .i32 (IntKind.i32.wrap (tVV 4 m19))]) Z (fun _=>by kernel_rfl)) (jfz k0 (by(try simp)<;>omega) (jkb Fm Z Z (Fh (i:=⟨15,m52.nx,0,[m15.nx],IntKind.i32.wrap (tVV 4 m19)⟩) om70 (by omega) b (by first|exact hb9|decide|omega)) (dc d2 (dc (Am.M (m:=⟨15,m52.nx,0,[m15.nx],IntKind.i32.wrap (tVV 4 m19)⟩) (c:=(.slice (some ⟨g72_39,0,none⟩) 1 1)) d0 (wl 15) (wp w70_0) (wl 0) (wp (JE.wrap_wrap _ _))) dn)) (kd (kc k0 kn)) ⟨Dj om70.1 hbn,(Eu.trans om70.2)⟩ p0 fun m75 hm75 om75 bm75 ua75 qs75 w41=>?_))))
 clear bm70
 refine jn ?_
 have hst:m75=Ci b st m:=(by(try simp only[hm15,hm17,hm19,hm49,hm52,hm70,hm75] at hc1 hc5 hc7);(try simp only[hm15,hm17,hm19,hm49,hm52,hm70,hm75]);all_goals first|rfl|(simp[Ci,Bt,Cl,hc1,hc5,hc7];done)|(simp[Ci,Bt,Cl,hc1,hc5,hc7];rfl)|(unfold Ci Bt Cl;(repeat' split)<;>first|rfl|(exfalso;omega)|(simp[hc1,hc5,hc7] at *;done)|(simp_all;done)))
 exact jd0 Z (ua75,qs75) Z dn (fun _ _=>(kcb (by rw[←hst]) k0 (kcg (by rw[←hst]) k0 (kck (by rw[←hst]) k0 kn))))
abbrev U53:=@Tryz.underlying53
theorem A60:Ag9 Tryz.prog 60:=⟨_,Tryz.underlying60,rfl⟩
theorem Lu:Fld Tryz.prog 60 0 0:=⟨_,_,Tryz.underlying60,rfl,rfl,1,(by unfold Sz;kernel_rfl),by decide⟩
theorem Jq:Fld Tryz.prog 60 1 1:=⟨_,_,Tryz.underlying60,rfl,rfl,1,(by unfold Sz;kernel_rfl),by decide⟩
theorem Ei:Fld Tryz.prog 60 2 2:=⟨_,_,Tryz.underlying60,rfl,rfl,1,(by unfold Sz;kernel_rfl),by decide⟩
theorem Zs:Fld Tryz.prog 60 3 3:=⟨_,_,Tryz.underlying60,rfl,rfl,1,(by unfold Sz;kernel_rfl),by decide⟩
theorem Eh:Fld Tryz.prog 62 2 2:=⟨_,_,Tryz.underlying62,rfl,rfl,4,(by unfold Sz;kernel_rfl),by decide⟩
theorem Z53:Sz Tryz.prog 53 3:=by unfold Sz;kernel_rfl
theorem Z60:Sz Tryz.prog 60 4:=by unfold Sz;kernel_rfl
theorem J53:(Tryz.prog.info? 53).bind (·.zero)=some (.agg #[.int .i64 0,.int .i64 0,.int .i64 0]):=by kernel_rfl
theorem J60:(Tryz.prog.info? 60).bind (·.zero)=some (.agg #[.int .i64 0,.slice none 0 0,.slice none 0 0,.int .i32 0]):=by kernel_rfl
theorem ME{vs vb al:Value}{m:Mk}{nb c:Nat}{S:List Int}{g0:Nat}{B0 B1:Nat}{qs:List BV}(hok:okS nb c S m)(hc:c≤950000)(b:Int){a2:Value}{l:List Int}(hb9:0≤b∧b<nb):KB Tryz.prog 68 [.int .i64 b,a2] [dv (rL (rI .i64)) a2 l] g0 vs vb al S B0 B1 qs [] m (Cq b l m) (.tuple #[]):=by
 refine Az (args:=[.pointer (some ⟨g0,0,none⟩),.int .i64 b,a2]) Tryz.func68 rfl rfl rfl fun w0 X=>?_
 refine cgo k1 fun w1=>?_
 have bd0:=okM.bnd hok.1
 refine cbk k2 (okM.bnd hok.1).2.2.2.2.2.2.2.1 fun hvb=>?_
 have hbn:b.toNat<nb:=by omega
 refine jq (jr (js (jbu (v := .agg #[.int .i64 0,.slice none 0 0,.slice none 0 0,.int .i32 0]) Z (fun _=>by kernel_rfl)) (Bo J60 Z fun g6=>Bk k0 Z60 Z Z Z ⟨Z,Z,Z,Z,trivial⟩ (saf Z) (jn (jx (jq (jq (jr (jm Z (jdq d1 fun q2 w2=>?_))))))))))
 refine js (jln U22 d1 Z) (jn (jx (jb (jq (jr (js (Ao Z Z) (ja Z (jn (jx ?_)))))))))
 refine jif Z (fun hc1=>?_) (fun hc1=>?_)
 refine jq (jr (js (jf Lu Z) (jst k0 Z3 Z Z Z s0 (jn (jx (jq (jr (jm Z (jkr E47 Z Z (Dd hok (by omega) 8 (by first|exact hb9|decide|omega)) (dc d0 dn) (kc k1 (kc k1 (kc k1 kn))) ⟨tO9 hok.1,hok.2⟩ fun m44 hm44 om44 bm44=>?_)))))))))
 have w44_0:IntKind.i64.wrap (tVV 8 m)=tVV 8 m:=(IntWalk.i64_in _ (by have h9:=@tV9 8 (by omega) m;omega))
 have tr44:=@tV9 8 (by omega) m
 clear bd0
 refine ja Z (jn (jx (jq (jr (jm Z (js (Ao Z Z) (jn (jx ?_))))))))
 refine jif Z (fun hc2=>?_) (fun hc2=>?_)
 refine jq (jr (js (jf Lu Z) (jst k3 Z3 Z Z Z s0 (jn (jx (jr (jm Z (jkr E47 Z Z (Dd om44 (by omega) 200 (by first|exact hb9|decide|omega)) (dc d0 dn) (kc k1 (kc k1 (kc k1 kn))) ⟨tO9 om44.1,om44.2⟩ fun m49 hm49 om49 bm49=>?_))))))))
 have w49_0:IntKind.i64.wrap (tVV 200 m44)=tVV 200 m44:=(IntWalk.i64_in _ (by have h9:=@tV9 200 (by omega) m44;omega))
 have tr49:=@tV9 200 (by omega) m44
 clear bm44
 refine js (jco U3 U21 Z Z) (js (jf Zs Z) (jst k3 Z21 Z Z Z s3 (jn (jbn (jx (jtl 9 Bi (by kernel_rfl) (jt (jmv Z) (jt (Ak Z) (jt (jf Ev Z) (jt (jf Bu Z) (jt (jl k1 O47 Z Z) ?_)))))))))))
 refine jt (jmv Z) (jt (jla k0 A60 Z60 Z Z Z) (jt (Gb (j:=b.toNat) U47 Z62 hvb Z Z (by omega) (by omega)) (jt (jf Eh Z) (jtt (jbT k3 (by omega) Z60 Z Z Z Z ⟨Z,Z,Z,Z,trivial⟩ (Bf.M (m:=⟨5,[],[],IntKind.i32.wrap (tVV 200 m44)⟩) (c:=(.slice none 0 0,.slice none 0 0)) wN wN (wl 5) (wp (JE.wrap_wrap _ _))) (jkn (c:=c+2) ({ m49 with bs:=List.set m49.bs b.toNat { (ix m49.bs b.toNat) with Term:=⟨5,[],[],IntKind.i32.wrap (tVV 200 m44)⟩ } }) (kc k2 (kc k2 (kc k0 kn))) ⟨(okM.setb (d:=0) om49.1 (Nat.le_refl _)),om49.2⟩ fun ms3 hms3 oms3 bms3=>?_))))))
 clear bm49
 refine jn ?_
 have hst:ms3=Cq b l m:=(by(try simp only[hm44,hm49,hms3] at hc1 hc2);(try simp only[hm44,hm49,hms3]);all_goals first|rfl|(simp[Cq,setT,hc1,hc2];done)|(simp[Cq,setT,hc1,hc2];rfl)|(unfold Cq setT;(repeat' split)<;>first|rfl|(exfalso;omega)|(simp[hc1,hc2] at *;done)|(simp_all;done)))
 exact jd0 Z (al,List.set qs b.toNat { (ix qs b.toNat) with T:=⟨5,[],[],IntKind.i32.wrap (tVV 200 m44)⟩ }) Z dn (fun _ _=>(kcb (by rw[←hst]) k0 (kcg (by rw[←hst]) k0 (kck (by rw[←hst]) k0 kn))))
 refine jq (jr (jm Z (js (Ee Z Z) (jn (jx ?_)))))
 refine jif Z (fun hc3=>?_) (fun hc3=>?_)
 refine jr (jm Z (jm Z (jkb Hk Z Z (Hc om44 (by omega) b (by first|exact hb9|decide|omega)) (dc d0 dn) (kd (kc k0 kn)) ⟨Dk om44.1 hbn,(Fe.trans om44.2)⟩ p1 fun m56 hm56 om56 bm56 ua56 qs56 w4=>?_)))
 clear bm44
 refine Bg (r:=(rI .i64)) (l:=[sV9 m44]) U22 I3 (by decide) Z Z Z (lV Z Z (wI ((wfw d0))) ln) fun g57=>js (jf Jq Z) (jst k4 Z22 Z Z Z s1 (jn (jbn (jx (jtl 9 Bi (by kernel_rfl) (jt (jmv Z) (jt (Ak Z) (jt (jf Ev Z) (jt (jf Bu Z) (jt (jl k2 O47 Z Z) ?_))))))))))
 refine jt (jmv Z) (jt (jla k0 A60 Z60 Z Z Z) (jt (Gb (j:=b.toNat) U47 Z62 hvb Z Z (by omega) (by omega)) (jt (jf Eh Z) (jtt (jfz k1 (by(try simp)<;>omega) (jbT k3 (by omega) Z60 Z Z Z Z ⟨Z,Z,Z,Z,trivial⟩ (Bf.M (m:=⟨4,[sV9 m44],[],0⟩) (c:=((.slice (some ⟨g57,0,none⟩) 1 1),.slice none 0 0)) d0 wN (wl 4) (wl 0)) (jkn (c:=c+9) ({ m56 with bs:=List.set m56.bs b.toNat { (ix m56.bs b.toNat) with Term:=⟨4,[sV9 m44],[],0⟩ } }) (kc k2 (kc k2 (kc k0 kn))) ⟨(okM.setb (d:=0) om56.1 (Nat.le_refl _)),om56.2⟩ fun ms7 hms7 oms7 bms7=>?_)))))))
 clear bm56
 refine jn ?_
 have hst:ms7=Cq b l m:=(by(try simp only[hm44,hm56,hms7] at hc1 hc2 hc3);(try simp only[hm44,hm56,hms7]);all_goals first|rfl|(simp[Cq,setT,hc1,hc2,hc3];done)|(simp[Cq,setT,hc1,hc2,hc3];rfl)|(unfold Cq setT;(repeat' split)<;>first|rfl|(exfalso;omega)|(simp[hc1,hc2,hc3] at *;done)|(simp_all;done)))
 exact jd0 Z (ua56,List.set qs56 b.toNat { (ix qs56 b.toNat) with T:=⟨4,[sV9 m44],[],0⟩ }) Z dn (fun _ _=>(kcb (by rw[←hst]) k0 (kcg (by rw[←hst]) k0 (kck (by rw[←hst]) k0 kn))))
 refine jsk (jbn (jx (jtl 9 Bi (by kernel_rfl) (jt (jmv Z) (jt (Ak Z) (jt (jf Ev Z) (jt (jf Bu Z) (jt (jl k0 O47 Z Z) (jt (jmv Z) (jt (jla k3 A60 Z60 Z Z Z) (jt (Gb (j:=b.toNat) U47 Z62 hvb Z Z (by omega) (by omega)) ?_)))))))))))
 refine jt (jf Eh Z) (jtt (jbT k2 (by omega) Z60 Z Z Z Z ⟨Z,Z,Z,Z,trivial⟩ (Bf.M (m:=⟨4,[],[],0⟩) (c:=(.slice none 0 0,.slice none 0 0)) wN wN (wl 4) (wl 0)) (jkn (c:=c+1) ({ m44 with bs:=List.set m44.bs b.toNat { (ix m44.bs b.toNat) with Term:=⟨4,[],[],0⟩ } }) (kc k1 (kc k1 (kc k0 kn))) ⟨(okM.setb (d:=0) om44.1 (Nat.le_refl _)),om44.2⟩ fun ms8 hms8 oms8 bms8=>?_)))
 clear bm44
 refine jn ?_
 have hst:ms8=Cq b l m:=(by(try simp only[hm44,hms8] at hc1 hc2 hc3);(try simp only[hm44,hms8]);all_goals first|rfl|(simp[Cq,setT,hc1,hc2,hc3];done)|(simp[Cq,setT,hc1,hc2,hc3];rfl)|(unfold Cq setT;(repeat' split)<;>first|rfl|(exfalso;omega)|(simp[hc1,hc2,hc3] at *;done)|(simp_all;done)))
 exact jd0 Z (al,List.set qs b.toNat { (ix qs b.toNat) with T:=⟨4,[],[],0⟩ }) Z dn (fun _ _=>(kcb (by rw[←hst]) k0 (kcg (by rw[←hst]) k0 (kck (by rw[←hst]) k0 kn))))
 refine jq (jr (js (Ao Z Z) (ja Z (jn (jx ?_)))))
 refine jif Z (fun hc4=>?_) (fun hc4=>?_)
 refine jq (jr (js (jf Lu Z) (jst k0 Z3 Z Z Z s0 (jn (jx (jr (jm Z (js (jf Ei Z) (jst k0 Z22 Z Z w2.one s2 (jn (jbn ?_)))))))))))
 refine jx (jtl 9 Bi (by kernel_rfl) (jt (jmv Z) (jt (Ak Z) (jt (jf Ev Z) (jt (jf Bu Z) (jt (jl k1 O47 Z Z) (jt (jmv Z) (jt (jla k0 A60 Z60 Z Z Z) (jt (Gb (j:=b.toNat) U47 Z62 hvb Z Z (by omega) (by omega)) (jt (jf Eh Z) (jtt ?_)))))))))))
 refine jbT k3 (by omega) Z60 Z Z Z Z ⟨Z,Z,w2.one,Z,trivial⟩ (Bf.M (m:=⟨1,[],l,0⟩) (c:=(.slice none 0 0,a2)) wN d1 (wl 1) (wl 0)) (jkn (c:=c) ({ m with bs:=List.set m.bs b.toNat { (ix m.bs b.toNat) with Term:=⟨1,[],l,0⟩ } }) (kc k2 (kc k2 (kc k0 kn))) ⟨(okM.setb (d:=0) hok.1 (Nat.le_refl _)),hok.2⟩ fun ms9 hms9 oms9 bms9=>?_)
 clear bd0
 refine jn ?_
 have hst:ms9=Cq b l m:=(by(try simp only[hms9] at hc1 hc4);(try simp only[hms9]);all_goals first|rfl|(simp[Cq,setT,hc1,hc4];done)|(simp[Cq,setT,hc1,hc4];rfl)|(unfold Cq setT;(repeat' split)<;>first|rfl|(exfalso;omega)|(simp[hc1,hc4] at *;done)|(simp_all;done)))
 exact jd0 Z (al,List.set qs b.toNat { (ix qs b.toNat) with T:=⟨1,[],l,0⟩ }) Z dn (fun _ _=>(kcb (by rw[←hst]) k0 (kcg (by rw[←hst]) k0 (kck (by rw[←hst]) k0 kn))))
 refine jq (jr (js (Ao Z Z) (ja Z (jn (jx ?_)))))
 refine jif Z (fun hc5=>?_) (fun hc5=>?_)
 refine jq (jr (js (jf Lu Z) (jst k0 Z3 Z Z Z s0 (jn (jx (jq (jr (jm Z (js (jf Ei Z) (jst k0 Z22 Z Z w2.one s2 (jn ?_)))))))))))
 refine jx (jq (jr (jm Z (jm Z (jkb Hk Z Z (Hc hok (by omega) b (by first|exact hb9|decide|omega)) (dc d0 dn) (kc k1 (kc k1 (kc k1 kn))) ⟨Dk hok.1 hbn,(Fe.trans hok.2)⟩ p1 fun m71 hm71 om71 bm71 ua71 qs71 w10=>?_)))))
 clear bd0
 refine ja Z (jn (jx (jq (jq (jr (jm Z (jkr E47 Z Z (Dd om71 (by omega) 2 (by first|exact hb9|decide|omega)) (dc d1 dn) (kd (kc k0 kn)) ⟨tO9 om71.1,om71.2⟩ fun m73 hm73 om73 bm73=>?_)))))))
 have w73_0:IntKind.i64.wrap (tVV 2 m71)=tVV 2 m71:=(IntWalk.i64_in _ (by have h9:=@tV9 2 (by omega) m71;omega))
 have tr73:=@tV9 2 (by omega) m71
 clear bm71
 refine js (Ao Z Z) (jn (jx ?_))
 refine jif Z (fun hc6=>?_) (fun hc6=>?_)
 refine jq (jr (js (jbu (v := .agg #[.int .i64 11,.int .i64 12,.int .i64 13]) Z (fun _=>by kernel_rfl)) (Bo J53 Z fun g9=>Bk k0 Z53 Z Z Z ⟨Z,Z,Z,trivial⟩ (saf Z) (jn (jx (jq (jr (jm Z (jm Z (jkb Hk Z Z (Hc om73 (by omega) b (by first|exact hb9|decide|omega)) (dc d1 dn) (kc k1 (kc k1 (kc k1 kn))) ⟨Dk om73.1 hbn,(Fe.trans om73.2)⟩ p1 fun m78 hm78 om78 bm78 ua78 qs78 w12=>?_))))))))))
 clear bm73
 refine ja Z (jn (jx (jq (jr (jm Z (jkr E64 Z Z (Fp om78 (by omega)) (dc d2 dn) (kd (kc k0 kn)) ⟨Dm om78.1,om78.2⟩ fun m80 hm80 om80 bm80=>?_))))))
 have w80_0:IntKind.i64.wrap (m78.nx)=m78.nx:=(IntWalk.i64_in _ (by omega))
 clear bm78
 refine ja Z (jn (jx (jq (jr (jm Z (jm Z (jm Z (jkr E47 Z Z (Dd om80 (by omega) 3 (by first|exact hb9|decide|omega)) (dc d2 dn) (kd (kc k0 kn)) ⟨tO9 om80.1,om80.2⟩ fun m84 hm84 om84 bm84=>?_))))))))
 have w84_0:IntKind.i64.wrap (tVV 3 m80)=tVV 3 m80:=(IntWalk.i64_in _ (by have h9:=@tV9 3 (by omega) m80;omega))
 have tr84:=@tV9 3 (by omega) m80
 clear bm80
 refine js (Nw (i:=(Int.toNat (tVV 3 m80))) U53 Z3 Z Z (by omega) (by omega)) (js (jli (i:=(Int.toNat (tVV 3 m80))) (l:=[11,12,13]) k3 (by show _<3;omega) (by omega) O3 Z) (jm Z (jm Z (jm Z (Bg (r:=(rI .i64)) (l:=[sV9 m,sV9 m73]) U22 I3 (by decide) Z Z Z (lV Z Z (wI ((wfw d1))) (lV Z Z (wI ((wfw d0))) ln)) fun g90=>js (jbu (v := .agg #[.int .i64 (ix [11,12,13] (Int.toNat (tVV 3 m80))),.int .i64 m78.nx,.int .i64 0,(.slice (some ⟨g90,0,none⟩) 2 2),.int .i32 0]) Z (fun _=>by kernel_rfl)) (jfz k0 (by(try simp)<;>omega) (jkb Fm Z Z (Fh (i:=⟨ix [11,12,13] (Int.toNat (tVV 3 m80)),m78.nx,0,[sV9 m,sV9 m73],0⟩) om84 (by omega) b (by first|exact hb9|decide|omega)) (dc d3 (dc (Am.M (m:=⟨ix [11,12,13] (Int.toNat (tVV 3 m80)),m78.nx,0,[sV9 m,sV9 m73],0⟩) (c:=(.slice (some ⟨g90,0,none⟩) 2 2)) d0 (wp (Ri (l:=[11,12,13]) (by decide) (by decide) (Int.toNat (tVV 3 m80)))) (wp w80_0) (wl 0) (wl 0)) dn)) (kd (kc k0 kn)) ⟨Dj om84.1 hbn,(Eu.trans om84.2)⟩ p0 fun m92 hm92 om92 bm92 ua92 qs92 w15=>?_)))))))
 clear bm84
 refine jn (jx (jr (jm Z (ja Z (jn (jx (jr (jm Z (Bg (r:=(rI .i64)) (l:=[m78.nx]) U22 I3 (by decide) Z Z Z (lV Z Z (wI (wp w80_0)) ln) fun g95=>js (jf Jq Z) (jst k5 Z22 Z Z Z s1 ?_))))))))))
 refine jn (jbn (jx (jtl 9 Bi (by kernel_rfl) (jt (jmv Z) (jt (Ak Z) (jt (jf Ev Z) (jt (jf Bu Z) (jt (jl k2 O47 Z Z) (jt (jmv Z) (jt (jla k0 A60 Z60 Z Z Z) (jt (Gb (j:=b.toNat) U47 Z62 hvb Z Z (by omega) (by omega)) ?_)))))))))))
 refine jt (jf Eh Z) (jtt (jfz k1 (by(try simp)<;>omega) (jbT k3 (by omega) Z60 Z Z Z Z ⟨Z,Z,w2.one,Z,trivial⟩ (Bf.M (m:=⟨2,[m78.nx],l,0⟩) (c:=((.slice (some ⟨g95,0,none⟩) 1 1),a2)) d0 d5 (wl 2) (wl 0)) (jkn (c:=c+21) ({ m92 with bs:=List.set m92.bs b.toNat { (ix m92.bs b.toNat) with Term:=⟨2,[m78.nx],l,0⟩ } }) (kc k2 (kc k2 (kc k0 kn))) ⟨(okM.setb (d:=0) om92.1 (Nat.le_refl _)),om92.2⟩ fun ms17 hms17 oms17 bms17=>?_))))
 clear bm92
 refine jn ?_
 have hst:ms17=Cq b l m:=(by(try simp only[hm71,hm73,hm78,hm80,hm84,hm92,hms17] at hc1 hc4 hc5 hc6);(try simp only[hm71,hm73,hm78,hm80,hm84,hm92,hms17]);all_goals first|rfl|(simp[Cq,setT,hc1,hc4,hc5,hc6];done)|(simp[Cq,setT,hc1,hc4,hc5,hc6];rfl)|(unfold Cq setT;(repeat' split)<;>first|rfl|(exfalso;omega)|(simp[hc1,hc4,hc5,hc6] at *;done)|(simp_all;done)))
 exact jd0 Z (ua92,List.set qs92 b.toNat { (ix qs92 b.toNat) with T:=⟨2,[m78.nx],l,0⟩ }) Z dn (fun _ _=>(kcb (by rw[←hst]) k0 (kcg (by rw[←hst]) k0 (kck (by rw[←hst]) k0 kn))))
 refine jsk (jx (jr (jm Z (Bg (r:=(rI .i64)) (l:=[sV9 m]) U22 I3 (by decide) Z Z Z (lV Z Z (wI ((wfw d0))) ln) fun g95_18=>js (jf Jq Z) (jst k4 Z22 Z Z Z s1 (jn (jbn (jx (jtl 9 Bi (by kernel_rfl) (jt (jmv Z) ?_))))))))))
 refine jt (Ak Z) (jt (jf Ev Z) (jt (jf Bu Z) (jt (jl k2 O47 Z Z) (jt (jmv Z) (jt (jla k0 A60 Z60 Z Z Z) (jt (Gb (j:=b.toNat) U47 Z62 hvb Z Z (by omega) (by omega)) (jt (jf Eh Z) (jtt (jfz k1 (by(try simp)<;>omega) (jbT k3 (by omega) Z60 Z Z Z Z ⟨Z,Z,w2.one,Z,trivial⟩ (Bf.M (m:=⟨2,[sV9 m],l,0⟩) (c:=((.slice (some ⟨g95_18,0,none⟩) 1 1),a2)) d0 d3 (wl 2) (wl 0)) (jkn (c:=c+9) ({ m73 with bs:=List.set m73.bs b.toNat { (ix m73.bs b.toNat) with Term:=⟨2,[sV9 m],l,0⟩ } }) (kc k2 (kc k2 (kc k0 kn))) ⟨(okM.setb (d:=0) om73.1 (Nat.le_refl _)),om73.2⟩ fun ms20 hms20 oms20 bms20=>?_)))))))))))
 clear bm73
 refine jn ?_
 have hst:ms20=Cq b l m:=(by(try simp only[hm71,hm73,hms20] at hc1 hc4 hc5 hc6);(try simp only[hm71,hm73,hms20]);all_goals first|rfl|(simp[Cq,setT,hc1,hc4,hc5,hc6];done)|(simp[Cq,setT,hc1,hc4,hc5,hc6];rfl)|(unfold Cq setT;(repeat' split)<;>first|rfl|(exfalso;omega)|(simp[hc1,hc4,hc5,hc6] at *;done)|(simp_all;done)))
 exact jd0 Z (ua71,List.set qs71 b.toNat { (ix qs71 b.toNat) with T:=⟨2,[sV9 m],l,0⟩ }) Z dn (fun _ _=>(kcb (by rw[←hst]) k0 (kcg (by rw[←hst]) k0 (kck (by rw[←hst]) k0 kn))))
 refine jq (jr (js (jf Lu Z) (jst k0 Z3 Z Z Z s0 (jn (jx (jq (jr (jm Z (js (jf Ei Z) (jst k0 Z22 Z Z w2.one s2 (jn ?_)))))))))))
 refine jx (jq (jr (jm Z (jm Z (jkb Hk Z Z (Hc hok (by omega) b (by first|exact hb9|decide|omega)) (dc d0 dn) (kc k1 (kc k1 (kc k1 kn))) ⟨Dk hok.1 hbn,(Fe.trans hok.2)⟩ p1 fun m23 hm23 om23 bm23 ua23 qs23 w21=>?_)))))
 clear bd0
 refine ja Z (jn (jx (jq (jr (jm Z (jm Z (jkb E70 Z Z (Md om23 (by omega) b 7 (by first|exact hb9|decide|omega) (by decide)) (dc d1 dn) (kd (kc k0 kn)) ⟨Gm om23.1 hbn,(Kc.trans om23.2)⟩ p1 fun m26 hm26 om26 bm26 ua26 qs26 w23=>?_)))))))
 clear bm23
 refine ja Z (jn (jx (jq (jr (jm Z (jkr E64 Z Z (Fp om26 (by omega)) (dc d2 dn) (kd (kc k0 kn)) ⟨Dm om26.1,om26.2⟩ fun m28 hm28 om28 bm28=>?_))))))
 have w28_0:IntKind.i64.wrap (m26.nx)=m26.nx:=(IntWalk.i64_in _ (by omega))
 clear bm26
 refine ja Z (jn (jx (jq (jr (jm Z (jm Z (jm Z (jm Z (jm Z (Bg (r:=(rI .i64)) (l:=[sV9 m,m23.nx]) U22 I3 (by decide) Z Z Z (lV Z Z (wI ((wfw d1))) (lV Z Z (wI ((wfw d0))) ln)) fun g34=>js (jbu (v := .agg #[.int .i64 5,.int .i64 m26.nx,.int .i64 0,(.slice (some ⟨g34,0,none⟩) 2 2),.int .i32 0]) Z (fun _=>by kernel_rfl)) ?_))))))))))
 refine jfz k0 (by(try simp)<;>omega) (jkb Fm Z Z (Fh (i:=⟨5,m26.nx,0,[sV9 m,m23.nx],0⟩) om28 (by omega) b (by first|exact hb9|decide|omega)) (dc d3 (dc (Am.M (m:=⟨5,m26.nx,0,[sV9 m,m23.nx],0⟩) (c:=(.slice (some ⟨g34,0,none⟩) 2 2)) d0 (wl 5) (wp w28_0) (wl 0) (wl 0)) dn)) (kd (kc k0 kn)) ⟨Dj om28.1 hbn,(Eu.trans om28.2)⟩ p0 fun m36 hm36 om36 bm36 ua36 qs36 w26=>?_)
 clear bm28
 refine jn (jx (jr (jm Z (Bg (r:=(rI .i64)) (l:=[m26.nx]) U22 I3 (by decide) Z Z Z (lV Z Z (wI (wp w28_0)) ln) fun g38=>js (jf Jq Z) (jst k4 Z22 Z Z Z s1 (jn (jbn (jx (jtl 9 Bi (by kernel_rfl) (jt (jmv Z) ?_))))))))))
 refine jt (Ak Z) (jt (jf Ev Z) (jt (jf Bu Z) (jt (jl k2 O47 Z Z) (jt (jmv Z) (jt (jla k0 A60 Z60 Z Z Z) (jt (Gb (j:=b.toNat) U47 Z62 hvb Z Z (by omega) (by omega)) (jt (jf Eh Z) (jtt (jfz k1 (by(try simp)<;>omega) (jbT k3 (by omega) Z60 Z Z Z Z ⟨Z,Z,w2.one,Z,trivial⟩ (Bf.M (m:=⟨3,[m26.nx],l,0⟩) (c:=((.slice (some ⟨g38,0,none⟩) 1 1),a2)) d0 d5 (wl 3) (wl 0)) (jkn (c:=c+14) ({ m36 with bs:=List.set m36.bs b.toNat { (ix m36.bs b.toNat) with Term:=⟨3,[m26.nx],l,0⟩ } }) (kc k2 (kc k2 (kc k0 kn))) ⟨(okM.setb (d:=0) om36.1 (Nat.le_refl _)),om36.2⟩ fun ms28 hms28 oms28 bms28=>?_)))))))))))
 clear bm36
 refine jn ?_
 have hst:ms28=Cq b l m:=(by(try simp only[hm23,hm26,hm28,hm36,hms28] at hc1 hc4 hc5);(try simp only[hm23,hm26,hm28,hm36,hms28]);all_goals first|rfl|(simp[Cq,setT,hc1,hc4,hc5];done)|(simp[Cq,setT,hc1,hc4,hc5];rfl)|(unfold Cq setT;(repeat' split)<;>first|rfl|(exfalso;omega)|(simp[hc1,hc4,hc5] at *;done)|(simp_all;done)))
 exact jd0 Z (ua36,List.set qs36 b.toNat { (ix qs36 b.toNat) with T:=⟨3,[m26.nx],l,0⟩ }) Z dn (fun _ _=>(kcb (by rw[←hst]) k0 (kcg (by rw[←hst]) k0 (kck (by rw[←hst]) k0 kn))))
abbrev DE:=@Tryz.underlying181
theorem VO:Ent Tryz.prog 121:=⟨_,Tryz.func121,by kernel_rfl,by kernel_rfl⟩
theorem TA:Sz Tryz.prog 181 12:=by unfold Sz;kernel_rfl
theorem TH:(Tryz.prog.info? 181).bind (·.zero)=some (.agg #[.int .i64 0,.int .i64 0,.int .i64 0,.int .i64 0,.int .i64 0,.int .i64 0,.int .i64 0,.int .i64 0,.int .i64 0,.int .i64 0,.int .i64 0,.int .i64 0]):=by kernel_rfl
theorem MD{vs vb al:Value}{m:Mk}{nb c:Nat}{S:List Int}{g0:Nat}{B0 B1:Nat}{qs:List BV}(hok:okS nb c S m)(hc:c≤900000)(b:Int)(hb9:0≤b∧b<nb):KB Tryz.prog 67 [.int .i64 b] [] g0 vs vb al S B0 B1 qs [] m (Cj b m) (.tuple #[]):=by
 refine Az (args:=[.pointer (some ⟨g0,0,none⟩),.int .i64 b]) Tryz.func67 rfl rfl rfl fun w0 X=>?_
 refine cgo k1 fun w1=>?_
 have bd0:=okM.bnd hok.1
 refine cbk k2 (okM.bnd hok.1).2.2.2.2.2.2.2.1 fun hvb=>?_
 have hbn:b.toNat<nb:=by omega
 refine jq (jr (jm Z (jkr E47 Z Z (Dd hok (by omega) 20 (by first|exact hb9|decide|omega)) (dc d0 dn) (kd (kc k0 kn)) ⟨tO9 hok.1,hok.2⟩ fun m19 hm19 om19 bm19=>?_)))
 have w19_0:IntKind.i64.wrap (tVV 20 m)=tVV 20 m:=(IntWalk.i64_in _ (by have h9:=@tV9 20 (by omega) m;omega))
 have tr19:=@tV9 20 (by omega) m
 clear bd0
 refine ja Z (jn (jx (jb (jq (jr (jm Z (js (Ar Z Z) (ja Z (jn (jx ?_))))))))))
 refine jif Z (fun hc1=>?_) (fun hc1=>?_)
 refine jq (jr (js (jbu (v := .agg #[.int .i64 2,.int .i64 2,.int .i64 3,.int .i64 4,.int .i64 5,.int .i64 6,.int .i64 7,.int .i64 8,.int .i64 9,.int .i64 10,.int .i64 12,.int .i64 11]) Z (fun _=>by kernel_rfl)) (Bo TH Z fun g5=>Bk k0 TA Z Z Z ⟨Z,Z,Z,Z,Z,Z,Z,Z,Z,Z,Z,Z,trivial⟩ (saf Z) (jn (jx (jq (jr (jm Z (jm Z (jkb Hk Z Z (Hc om19 (by omega) b (by first|exact hb9|decide|omega)) (dc d0 dn) (kc k1 (kc k1 (kc k1 kn))) ⟨Dk om19.1 hbn,(Fe.trans om19.2)⟩ p1 fun m31 hm31 om31 bm31 ua31 qs31 w2=>?_))))))))))
 clear bm19
 refine ja Z (jn (jx (jq (jr (jm Z (jm Z (jkb Hk Z Z (Hc om31 (by omega) b (by first|exact hb9|decide|omega)) (dc d1 dn) (kd (kc k0 kn)) ⟨Dk om31.1 hbn,(Fe.trans om31.2)⟩ p1 fun m34 hm34 om34 bm34 ua34 qs34 w4=>?_)))))))
 clear bm31
 refine ja Z (jn (jx (jq (jq (jr (jm Z (jkr E47 Z Z (Dd om34 (by omega) 3 (by first|exact hb9|decide|omega)) (dc d2 dn) (kd (kc k0 kn)) ⟨tO9 om34.1,om34.2⟩ fun m36 hm36 om36 bm36=>?_)))))))
 have w36_0:IntKind.i64.wrap (tVV 3 m34)=tVV 3 m34:=(IntWalk.i64_in _ (by have h9:=@tV9 3 (by omega) m34;omega))
 have tr36:=@tV9 3 (by omega) m34
 clear bm34
 refine js (Ao Z Z) (jn (jx ?_))
 refine jif Z (fun hc2=>?_) (fun hc2=>?_)
 refine jr (jm Z (jm Z (jm Z (jkr E47 Z Z (Dd om36 (by omega) 40 (by first|exact hb9|decide|omega)) (dc d2 dn) (kd (kc k0 kn)) ⟨tO9 om36.1,om36.2⟩ fun m41 hm41 om41 bm41=>?_))))
 have w41_0:IntKind.i64.wrap (tVV 40 m36)=tVV 40 m36:=(IntWalk.i64_in _ (by have h9:=@tV9 40 (by omega) m36;omega))
 have tr41:=@tV9 40 (by omega) m36
 clear bm36
 refine js (Gw Z Z (by omega)) (js (jco U3 U21 Z Z) (jkb E70 Z Z (Md om41 (by omega) b (IntKind.i32.wrap ((tVV 40 m36)-8)) (by first|exact hb9|decide|omega) (JE.wrap_wrap _ _)) (dc d2 dn) (kd (kc k0 kn)) ⟨Gm om41.1 hbn,(Kc.trans om41.2)⟩ p1 fun m44 hm44 om44 bm44 ua44 qs44 w6=>?_))
 clear bm41
 refine ja Z (jn (jx (Bz true (.a 0 (.a 1 (.a 2 (.a 3 (.a 4 (.a 5 (.a 7 (.a 8 (.w 6 9 (.o 9 (.a 10 (.o 11 .e))) (.o 6 (.a 10 (.o 11 .e)))))))))))) Bi (by kernel_rfl) (kc k3 kn) fun F8=>jy Z (jmv Z) (jy Z (jmv Z) (jy Z (jmv Z) (jy Z (Nw (i:=(Int.toNat (tVV 20 m))) DE Z3 Z Z (by omega) (by omega)) (jy Z (jli (i:=(Int.toNat (tVV 20 m))) (l:=[2,2,3,4,5,6,7,8,9,10,12,11]) k0 (by show _<12;omega) (by omega) O3 Z) (jy Z (jmv Z) (jy Z (jmv Z) (jy Z (jmv Z) ?_))))))))))
 refine jyw Z Z ?_ ?_
 refine jkr E64 Z Z (Fp om44 (by omega)) (dc d4 dn) (kd (kc k0 kn)) ⟨Dm om44.1,om44.2⟩ fun m51 hm51 om51 bm51=>?_
 have w51_0:IntKind.i64.wrap (m44.nx)=m44.nx:=(IntWalk.i64_in _ (by omega))
 clear bm44
 refine jyn d0 (kc k3 kn) (jyo Z (Bg (r:=(rI .i64)) (l:=[sV9 m19,m41.nx]) U22 I3 (by decide) Z Z Z (lV Z Z (wI ((wfw d4))) (lV Z Z (wI ((wfw d2))) ln)) fun g54=>jyn d0 (kc k4 kn) (jy Z (jbu (v := .agg #[.int .i64 (ix [2,2,3,4,5,6,7,8,9,10,12,11] (Int.toNat (tVV 20 m))),.int .i64 m44.nx,.int .i64 0,(.slice (some ⟨g54,0,none⟩) 2 2),.int .i32 0]) Z (fun _=>by kernel_rfl)) (jyo Z (jfz k0 (by(try simp)<;>omega) (jkb Fm Z Z (Fh (i:=⟨ix [2,2,3,4,5,6,7,8,9,10,12,11] (Int.toNat (tVV 20 m)),m44.nx,0,[sV9 m19,m41.nx],0⟩) om51 (by omega) b (by first|exact hb9|decide|omega)) (dc d7 (dc (Am.M (m:=⟨ix [2,2,3,4,5,6,7,8,9,10,12,11] (Int.toNat (tVV 20 m)),m44.nx,0,[sV9 m19,m41.nx],0⟩) (c:=(.slice (some ⟨g54,0,none⟩) 2 2)) d0 (wp (Ri (l:=[2,2,3,4,5,6,7,8,9,10,12,11]) (by decide) (by decide) (Int.toNat (tVV 20 m)))) (wp w51_0) (wl 0) (wl 0)) dn)) (kd (kc k0 kn)) ⟨Dj om51.1 hbn,(Eu.trans om51.2)⟩ p0 fun m56 hm56 om56 bm56 ua56 qs56 w13=>?_))))))
 clear bm51
 refine jyz d1 (jyd (jbn ?_))
 have hst:m56=Cj b m:=(by(try simp only[hm19,hm31,hm34,hm36,hm41,hm44,hm51,hm56] at hc1 hc2);(try simp only[hm19,hm31,hm34,hm36,hm41,hm44,hm51,hm56]);all_goals first|rfl|(simp[Cj,hc1,hc2];done)|(simp[Cj,hc1,hc2];rfl))
 exact jd0 Z (ua56,qs56) Z dn (fun _ _=>(kcb (by rw[←hst]) k0 (kcg (by rw[←hst]) k0 (kck (by rw[←hst]) k0 kn))))
 refine Bg (r:=(rI .i64)) (l:=[sV9 m19,m41.nx]) U22 I3 (by decide) Z Z Z (lV Z Z (wI ((wfw d3))) (lV Z Z (wI ((wfw d1))) ln)) fun g54=>jyn d0 (kc k4 kn) (jyo Z (jkr E64 Z Z (Fp om44 (by omega)) (dc d5 dn) (kc k1 (kc k1 (kc k1 kn))) ⟨Dm om44.1,om44.2⟩ fun m51 hm51 om51 bm51=>?_))
 have w51_0:IntKind.i64.wrap (m44.nx)=m44.nx:=(IntWalk.i64_in _ (by omega))
 clear bm44
 refine jyn d0 (kc k4 kn) (jy Z (jbu (v := .agg #[.int .i64 (ix [2,2,3,4,5,6,7,8,9,10,12,11] (Int.toNat (tVV 20 m))),.int .i64 m44.nx,.int .i64 0,(.slice (some ⟨g54,0,none⟩) 2 2),.int .i32 0]) Z (fun _=>by kernel_rfl)) (jyo Z (jfz k3 (by(try simp)<;>omega) (jkb Fm Z Z (Fh (i:=⟨ix [2,2,3,4,5,6,7,8,9,10,12,11] (Int.toNat (tVV 20 m)),m44.nx,0,[sV9 m19,m41.nx],0⟩) om51 (by omega) b (by first|exact hb9|decide|omega)) (dc d7 (dc (Am.M (m:=⟨ix [2,2,3,4,5,6,7,8,9,10,12,11] (Int.toNat (tVV 20 m)),m44.nx,0,[sV9 m19,m41.nx],0⟩) (c:=(.slice (some ⟨g54,0,none⟩) 2 2)) d0 (wp (Ri (l:=[2,2,3,4,5,6,7,8,9,10,12,11]) (by decide) (by decide) (Int.toNat (tVV 20 m)))) (wp w51_0) (wl 0) (wl 0)) dn)) (kd (kc k0 kn)) ⟨Dj om51.1 hbn,(Eu.trans om51.2)⟩ p0 fun m56 hm56 om56 bm56 ua56 qs56 w13=>?_))))
 clear bm51
 refine jyz d1 (jyd (jbn ?_))
 have hst:m56=Cj b m:=(by(try simp only[hm19,hm31,hm34,hm36,hm41,hm44,hm51,hm56] at hc1 hc2);(try simp only[hm19,hm31,hm34,hm36,hm41,hm44,hm51,hm56]);all_goals first|rfl|(simp[Cj,hc1,hc2];done)|(simp[Cj,hc1,hc2];rfl))
 exact jd0 Z (ua56,qs56) Z dn (fun _ _=>(kcb (by rw[←hst]) k0 (kcg (by rw[←hst]) k0 (kck (by rw[←hst]) k0 kn))))
 refine jsk (jx (Bz true (.a 0 (.a 1 (.a 2 (.a 3 (.a 4 (.a 5 (.a 7 (.a 8 (.w 6 9 (.o 9 (.a 10 (.o 11 .e))) (.o 6 (.a 10 (.o 11 .e)))))))))))) Bi (by kernel_rfl) (kc k3 kn) fun F14=>jy Z (jmv Z) (jy Z (jmv Z) (jy Z (jmv Z) (jy Z (Nw (i:=(Int.toNat (tVV 20 m))) DE Z3 Z Z (by omega) (by omega)) (jy Z (jli (i:=(Int.toNat (tVV 20 m))) (l:=[2,2,3,4,5,6,7,8,9,10,12,11]) k0 (by show _<12;omega) (by omega) O3 Z) (jy Z (jmv Z) (jy Z (jmv Z) (jy Z (jmv Z) ?_)))))))))
 refine jyw Z Z ?_ ?_
 refine jkr E64 Z Z (Fp om36 (by omega)) (dc d3 dn) (kd (kc k0 kn)) ⟨Dm om36.1,om36.2⟩ fun m51 hm51 om51 bm51=>?_
 have w51_0:IntKind.i64.wrap (m36.nx)=m36.nx:=(IntWalk.i64_in _ (by omega))
 clear bm36
 refine jyn d0 (kc k3 kn) (jyo Z (Bg (r:=(rI .i64)) (l:=[sV9 m19,sV9 m31]) U22 I3 (by decide) Z Z Z (lV Z Z (wI ((wfw d3))) (lV Z Z (wI ((wfw d2))) ln)) fun g54_17=>jyn d0 (kc k4 kn) (jy Z (jbu (v := .agg #[.int .i64 (ix [2,2,3,4,5,6,7,8,9,10,12,11] (Int.toNat (tVV 20 m))),.int .i64 m36.nx,.int .i64 0,(.slice (some ⟨g54_17,0,none⟩) 2 2),.int .i32 0]) Z (fun _=>by kernel_rfl)) (jyo Z (jfz k0 (by(try simp)<;>omega) (jkb Fm Z Z (Fh (i:=⟨ix [2,2,3,4,5,6,7,8,9,10,12,11] (Int.toNat (tVV 20 m)),m36.nx,0,[sV9 m19,sV9 m31],0⟩) om51 (by omega) b (by first|exact hb9|decide|omega)) (dc d6 (dc (Am.M (m:=⟨ix [2,2,3,4,5,6,7,8,9,10,12,11] (Int.toNat (tVV 20 m)),m36.nx,0,[sV9 m19,sV9 m31],0⟩) (c:=(.slice (some ⟨g54_17,0,none⟩) 2 2)) d0 (wp (Ri (l:=[2,2,3,4,5,6,7,8,9,10,12,11]) (by decide) (by decide) (Int.toNat (tVV 20 m)))) (wp w51_0) (wl 0) (wl 0)) dn)) (kd (kc k0 kn)) ⟨Dj om51.1 hbn,(Eu.trans om51.2)⟩ p0 fun m56 hm56 om56 bm56 ua56 qs56 w20=>?_))))))
 clear bm51
 refine jyz d1 (jyd (jbn ?_))
 have hst:m56=Cj b m:=(by(try simp only[hm19,hm31,hm34,hm36,hm51,hm56] at hc1 hc2);(try simp only[hm19,hm31,hm34,hm36,hm51,hm56]);all_goals first|rfl|(simp[Cj,hc1,hc2];done)|(simp[Cj,hc1,hc2];rfl))
 exact jd0 Z (ua56,qs56) Z dn (fun _ _=>(kcb (by rw[←hst]) k0 (kcg (by rw[←hst]) k0 (kck (by rw[←hst]) k0 kn))))
 refine Bg (r:=(rI .i64)) (l:=[sV9 m19,sV9 m31]) U22 I3 (by decide) Z Z Z (lV Z Z (wI ((wfw d2))) (lV Z Z (wI ((wfw d1))) ln)) fun g54_16=>jyn d0 (kc k4 kn) (jyo Z (jkr E64 Z Z (Fp om36 (by omega)) (dc d4 dn) (kc k1 (kc k1 (kc k1 kn))) ⟨Dm om36.1,om36.2⟩ fun m51 hm51 om51 bm51=>?_))
 have w51_0:IntKind.i64.wrap (m36.nx)=m36.nx:=(IntWalk.i64_in _ (by omega))
 clear bm36
 refine jyn d0 (kc k4 kn) (jy Z (jbu (v := .agg #[.int .i64 (ix [2,2,3,4,5,6,7,8,9,10,12,11] (Int.toNat (tVV 20 m))),.int .i64 m36.nx,.int .i64 0,(.slice (some ⟨g54_16,0,none⟩) 2 2),.int .i32 0]) Z (fun _=>by kernel_rfl)) (jyo Z (jfz k3 (by(try simp)<;>omega) (jkb Fm Z Z (Fh (i:=⟨ix [2,2,3,4,5,6,7,8,9,10,12,11] (Int.toNat (tVV 20 m)),m36.nx,0,[sV9 m19,sV9 m31],0⟩) om51 (by omega) b (by first|exact hb9|decide|omega)) (dc d6 (dc (Am.M (m:=⟨ix [2,2,3,4,5,6,7,8,9,10,12,11] (Int.toNat (tVV 20 m)),m36.nx,0,[sV9 m19,sV9 m31],0⟩) (c:=(.slice (some ⟨g54_16,0,none⟩) 2 2)) d0 (wp (Ri (l:=[2,2,3,4,5,6,7,8,9,10,12,11]) (by decide) (by decide) (Int.toNat (tVV 20 m)))) (wp w51_0) (wl 0) (wl 0)) dn)) (kd (kc k0 kn)) ⟨Dj om51.1 hbn,(Eu.trans om51.2)⟩ p0 fun m56 hm56 om56 bm56 ua56 qs56 w20=>?_))))
 clear bm51
 refine jyz d1 (jyd (jbn ?_))
 have hst:m56=Cj b m:=(by(try simp only[hm19,hm31,hm34,hm36,hm51,hm56] at hc1 hc2);(try simp only[hm19,hm31,hm34,hm36,hm51,hm56]);all_goals first|rfl|(simp[Cj,hc1,hc2];done)|(simp[Cj,hc1,hc2];rfl))
 exact jd0 Z (ua56,qs56) Z dn (fun _ _=>(kcb (by rw[←hst]) k0 (kcg (by rw[←hst]) k0 (kck (by rw[←hst]) k0 kn))))
 refine jq (jr (jm Z (js (Ao Z Z) (ja Z (jn (jx ?_))))))
 refine jif Z (fun hc3=>?_) (fun hc3=>?_)
 refine jq (jr (jm Z (jm Z (jkb Hk Z Z (Hc om19 (by omega) b (by first|exact hb9|decide|omega)) (dc d0 dn) (kd (kc k0 kn)) ⟨Dk om19.1 hbn,(Fe.trans om19.2)⟩ p1 fun m62 hm62 om62 bm62 ua62 qs62 w21=>?_))))
 clear bm19
 refine ja Z (jn (jx (jq (jr (jm Z (jm Z (jkb Hk Z Z (Hc om62 (by omega) b (by first|exact hb9|decide|omega)) (dc d1 dn) (kd (kc k0 kn)) ⟨Dk om62.1 hbn,(Fe.trans om62.2)⟩ p1 fun m65 hm65 om65 bm65 ua65 qs65 w23=>?_)))))))
 clear bm62
 refine ja Z (jn (jx (jr (jm Z (jm Z (jm Z (jkr E64 Z Z (Fp om65 (by omega)) (dc d2 dn) (kd (kc k0 kn)) ⟨Dm om65.1,om65.2⟩ fun m69 hm69 om69 bm69=>?_)))))))
 have w69_0:IntKind.i64.wrap (m65.nx)=m65.nx:=(IntWalk.i64_in _ (by omega))
 clear bm65
 refine jm Z (jm Z (Bg (r:=(rI .i64)) (l:=[sV9 m19,sV9 m62]) U22 I3 (by decide) Z Z Z (lV Z Z (wI ((wfw d1))) (lV Z Z (wI ((wfw d0))) ln)) fun g72=>js (jbu (v := .agg #[.int .i64 13,.int .i64 m65.nx,.int .i64 0,(.slice (some ⟨g72,0,none⟩) 2 2),.int .i32 0]) Z (fun _=>by kernel_rfl)) (jfz k0 (by(try simp)<;>omega) (jkb Fm Z Z (Fh (i:=⟨13,m65.nx,0,[sV9 m19,sV9 m62],0⟩) om69 (by omega) b (by first|exact hb9|decide|omega)) (dc d3 (dc (Am.M (m:=⟨13,m65.nx,0,[sV9 m19,sV9 m62],0⟩) (c:=(.slice (some ⟨g72,0,none⟩) 2 2)) d0 (wl 13) (wp w69_0) (wl 0) (wl 0)) dn)) (kd (kc k0 kn)) ⟨Dj om69.1 hbn,(Eu.trans om69.2)⟩ p0 fun m74 hm74 om74 bm74 ua74 qs74 w26=>?_))))
 clear bm69
 refine jn (jbn ?_)
 have hst:m74=Cj b m:=(by(try simp only[hm19,hm62,hm65,hm69,hm74] at hc1 hc3);(try simp only[hm19,hm62,hm65,hm69,hm74]);all_goals first|rfl|(simp[Cj,hc1,hc3];done)|(simp[Cj,hc1,hc3];rfl))
 exact jd0 Z (ua74,qs74) Z dn (fun _ _=>(kcb (by rw[←hst]) k0 (kcg (by rw[←hst]) k0 (kck (by rw[←hst]) k0 kn))))
 refine jq (jr (jm Z (js (Ao Z Z) (ja Z (jn (jx ?_))))))
 refine jif Z (fun hc4=>?_) (fun hc4=>?_)
 refine jq (jr (jm Z (jm Z (jkb Hk Z Z (Hc om19 (by omega) b (by first|exact hb9|decide|omega)) (dc d0 dn) (kd (kc k0 kn)) ⟨Dk om19.1 hbn,(Fe.trans om19.2)⟩ p1 fun m80 hm80 om80 bm80 ua80 qs80 w27=>?_))))
 clear bm19
 refine ja Z (jn (jx (jq (jr (jm Z (jm Z (jm Z (jkr E47 Z Z (Dd om80 (by omega) 12 (by first|exact hb9|decide|omega)) (dc d1 dn) (kd (kc k0 kn)) ⟨tO9 om80.1,om80.2⟩ fun m84 hm84 om84 bm84=>?_))))))))
 have w84_0:IntKind.i64.wrap (tVV 12 m80)=tVV 12 m80:=(IntWalk.i64_in _ (by have h9:=@tV9 12 (by omega) m80;omega))
 have tr84:=@tV9 12 (by omega) m80
 clear bm80
 refine js (jco U3 U21 Z Z) (jkb E70 Z Z (Md om84 (by omega) b (IntKind.i32.wrap (tVV 12 m80)) (by first|exact hb9|decide|omega) (JE.wrap_wrap _ _)) (dc d1 dn) (kd (kc k0 kn)) ⟨Gm om84.1 hbn,(Kc.trans om84.2)⟩ p1 fun m86 hm86 om86 bm86 ua86 qs86 w29=>?_)
 clear bm84
 refine ja Z (jn (jx (jq (jq (jr (jm Z (jkr E47 Z Z (Dd om86 (by omega) 3 (by first|exact hb9|decide|omega)) (dc d2 dn) (kd (kc k0 kn)) ⟨tO9 om86.1,om86.2⟩ fun m88 hm88 om88 bm88=>?_)))))))
 have w88_0:IntKind.i64.wrap (tVV 3 m86)=tVV 3 m86:=(IntWalk.i64_in _ (by have h9:=@tV9 3 (by omega) m86;omega))
 have tr88:=@tV9 3 (by omega) m86
 clear bm86
 refine js (Ee Z Z) (jn (jx ?_))
 refine jif Z (fun hc5=>?_) (fun hc5=>?_)
 refine jr (jm Z (jm Z (jm Z (jkr E47 Z Z (Dd om88 (by omega) 12 (by first|exact hb9|decide|omega)) (dc d2 dn) (kd (kc k0 kn)) ⟨tO9 om88.1,om88.2⟩ fun m93 hm93 om93 bm93=>?_))))
 have w93_0:IntKind.i64.wrap (tVV 12 m88)=tVV 12 m88:=(IntWalk.i64_in _ (by have h9:=@tV9 12 (by omega) m88;omega))
 have tr93:=@tV9 12 (by omega) m88
 clear bm88
 refine js (jco U3 U21 Z Z) (js (Nx Z Z) (jkb E70 Z Z (Md om93 (by omega) b (IntKind.i32.wrap (1+(IntKind.i32.wrap (tVV 12 m88)))) (by first|exact hb9|decide|omega) (JE.wrap_wrap _ _)) (dc d2 dn) (kd (kc k0 kn)) ⟨Gm om93.1 hbn,(Kc.trans om93.2)⟩ p1 fun m96 hm96 om96 bm96 ua96 qs96 w31=>?_))
 clear bm93
 refine ja Z (jn (jx (jr (jm Z (jm Z (jm Z (jkr E64 Z Z (Fp om96 (by omega)) (dc d3 dn) (kd (kc k0 kn)) ⟨Dm om96.1,om96.2⟩ fun m100 hm100 om100 bm100=>?_)))))))
 have w100_0:IntKind.i64.wrap (m96.nx)=m96.nx:=(IntWalk.i64_in _ (by omega))
 clear bm96
 refine jm Z (jm Z (Bg (r:=(rI .i64)) (l:=[sV9 m19,m93.nx]) U22 I3 (by decide) Z Z Z (lV Z Z (wI ((wfw d2))) (lV Z Z (wI ((wfw d0))) ln)) fun g103=>js (jbu (v := .agg #[.int .i64 14,.int .i64 m96.nx,.int .i64 0,(.slice (some ⟨g103,0,none⟩) 2 2),.int .i32 0]) Z (fun _=>by kernel_rfl)) (jfz k0 (by(try simp)<;>omega) (jkb Fm Z Z (Fh (i:=⟨14,m96.nx,0,[sV9 m19,m93.nx],0⟩) om100 (by omega) b (by first|exact hb9|decide|omega)) (dc d4 (dc (Am.M (m:=⟨14,m96.nx,0,[sV9 m19,m93.nx],0⟩) (c:=(.slice (some ⟨g103,0,none⟩) 2 2)) d0 (wl 14) (wp w100_0) (wl 0) (wl 0)) dn)) (kd (kc k0 kn)) ⟨Dj om100.1 hbn,(Eu.trans om100.2)⟩ p0 fun m105 hm105 om105 bm105 ua105 qs105 w34=>?_))))
 clear bm100
 refine jn (jbn ?_)
 have hst:m105=Cj b m:=(by(try simp only[hm19,hm80,hm84,hm86,hm88,hm93,hm96,hm100,hm105] at hc1 hc3 hc4 hc5);(try simp only[hm19,hm80,hm84,hm86,hm88,hm93,hm96,hm100,hm105]);all_goals first|rfl|(simp[Cj,hc1,hc3,hc4,hc5];done)|(simp[Cj,hc1,hc3,hc4,hc5];rfl))
 exact jd0 Z (ua105,qs105) Z dn (fun _ _=>(kcb (by rw[←hst]) k0 (kcg (by rw[←hst]) k0 (kck (by rw[←hst]) k0 kn))))
 refine jsk (jx (jr (jm Z (jm Z (jm Z (jkr E64 Z Z (Fp om88 (by omega)) (dc d2 dn) (kd (kc k0 kn)) ⟨Dm om88.1,om88.2⟩ fun m100 hm100 om100 bm100=>?_))))))
 have w100_0:IntKind.i64.wrap (m88.nx)=m88.nx:=(IntWalk.i64_in _ (by omega))
 clear bm88
 refine jm Z (jm Z (Bg (r:=(rI .i64)) (l:=[sV9 m19,m84.nx]) U22 I3 (by decide) Z Z Z (lV Z Z (wI ((wfw d1))) (lV Z Z (wI ((wfw d0))) ln)) fun g103_35=>js (jbu (v := .agg #[.int .i64 14,.int .i64 m88.nx,.int .i64 0,(.slice (some ⟨g103_35,0,none⟩) 2 2),.int .i32 0]) Z (fun _=>by kernel_rfl)) (jfz k0 (by(try simp)<;>omega) (jkb Fm Z Z (Fh (i:=⟨14,m88.nx,0,[sV9 m19,m84.nx],0⟩) om100 (by omega) b (by first|exact hb9|decide|omega)) (dc d3 (dc (Am.M (m:=⟨14,m88.nx,0,[sV9 m19,m84.nx],0⟩) (c:=(.slice (some ⟨g103_35,0,none⟩) 2 2)) d0 (wl 14) (wp w100_0) (wl 0) (wl 0)) dn)) (kd (kc k0 kn)) ⟨Dj om100.1 hbn,(Eu.trans om100.2)⟩ p0 fun m105 hm105 om105 bm105 ua105 qs105 w37=>?_))))
 clear bm100
 refine jn (jbn ?_)
 have hst:m105=Cj b m:=(by(try simp only[hm19,hm80,hm84,hm86,hm88,hm100,hm105] at hc1 hc3 hc4 hc5);(try simp only[hm19,hm80,hm84,hm86,hm88,hm100,hm105]);all_goals first|rfl|(simp[Cj,hc1,hc3,hc4,hc5];done)|(simp[Cj,hc1,hc3,hc4,hc5];rfl))
 exact jd0 Z (ua105,qs105) Z dn (fun _ _=>(kcb (by rw[←hst]) k0 (kcg (by rw[←hst]) k0 (kck (by rw[←hst]) k0 kn))))
 refine jq (jr (jm Z (js (Ar Z Z) (ja Z (jn (jx ?_))))))
 refine jif Z (fun hc6=>?_) (fun hc6=>?_)
 refine jr (jm Z (jm Z (jm Z (js (Ao Z Z) (jkb VO Z Z (MC om19 (by omega) b (decide (tVV 20 m=15)) (by first|exact hb9|decide|omega)) (dc d0 dn) (kd (kc k0 kn)) ⟨T1 om19.1 hbn,(T4.trans om19.2)⟩ p0 fun m113 hm113 om113 bm113 ua113 qs113 w38=>?_)))))
 clear bm19
 refine jn (jbn ?_)
 have hst:m113=Cj b m:=(by(try simp only[hm19,hm113] at hc1 hc3 hc4 hc6);(try simp only[hm19,hm113]);all_goals first|rfl|(simp[Cj,hc1,hc3,hc4,hc6];done)|(simp[Cj,hc1,hc3,hc4,hc6];rfl))
 exact jd0 Z (ua113,qs113) Z dn (fun _ _=>(kcb (by rw[←hst]) k0 (kcg (by rw[←hst]) k0 (kck (by rw[←hst]) k0 kn))))
 refine jq (jr (jm Z (js (Ao Z Z) (ja Z (jn (jx ?_))))))
 refine jif Z (fun hc7=>?_) (fun hc7=>?_)
 refine jq (jr (Bg (r:=(rI .i64)) (l:=[]) U22 I3 (by decide) Z Z Z ln fun g117=>ja Z (jn (jx (jq (jr (jm Z (jkr E47 Z Z (Dd om19 (by omega) 5 (by first|exact hb9|decide|omega)) (dc d0 dn) (kc k1 (kc k1 (kc k1 kn))) ⟨tO9 om19.1,om19.2⟩ fun m119 hm119 om119 bm119=>?_))))))))
 have w119_0:IntKind.i64.wrap (tVV 5 m19)=tVV 5 m19:=(IntWalk.i64_in _ (by have h9:=@tV9 5 (by omega) m19;omega))
 have tr119:=@tV9 5 (by omega) m19
 clear bm19
 refine ja Z (jn (jx (jq (jq (jr (ja Z (jn (jx (jb ?_)))))))))
 refine jlp (u6 fun(i:Nat) (l:List Int) (v:Value) (mm:Mk) (al1:Value) (qs1:List BV)=>⟨i≤(tVV 5 m19).toNat∧Eg b (tVV 5 m19).toNat [] m119=Eg b ((tVV 5 m19).toNat-i) l mm∧l.length=i∧okS nb (c+20+8*i) S mm,[dv (rL (rI .i64)) vs S],[bx g0 108 [vs,.int .i64 mm.k,.int .i64 mm.par,vb,.int .i64 mm.nx,al1],gl B0 (rI .i64) 3 al1 mm.lv,bk B1 vb qs1 mm.bs,gl X.n (rI .i64) 3 v l],[(0,.pointer (some ⟨g0,0,none⟩)),(1,.int .i64 b),(12,v),(13,.int .i64 (tVV 5 m19)),(14,.int .i64 (↑i))],(tVV 5 m19).toNat-i⟩) (0,[],(.slice (some ⟨g117,0,none⟩) 0 0),m119,al,qs) ⟨by omega,rfl,rfl,om119.mono (by omega)⟩ (dc d0 dn) (kd (kd kn)) ⟨Z,Z,Z,Z,eqI (by omega),trivial⟩ ?_
 rintro⟨i,l,v,mm,al1,qs1⟩;dsimp only[u6];rintro⟨hi,hR,hl,okL1⟩
 refine cgo k3 fun w39=>cgo k1 fun w40=>?_
 have bdL1:=okM.bnd okL1.1
 clear bm119
 refine jq (jq (jr (jm Z (jm Z (js (Ar Z Z) (jn (jx ?_)))))))
 refine jif Z (fun hc8=>?_) (fun hc8=>?_)
 refine jsk (jx (jq (jb (jr (jm Z (jm Z (jm Z (jkb Hk Z Z (Hc okL1 (by omega) b (by first|exact hb9|decide|omega)) (dc d0 dn) (kd (kc k0 kn)) ⟨Dk okL1.1 hbn,(Fe.trans okL1.2)⟩ p1 fun m128 hm128 om128 bm128 ua128 qs128 w41=>?_))))))))
 clear bdL1
 refine Gk U22 I3 (by decide) Z Z k3 Z (wI ((wfw d0))) (by omega) (fun _=>Z) fun v130 _ w43=>ja Z (jn (jbn (jx (jr (jm Z (js (Al Z Z (by omega)) (ja Z (jn ?_))))))))
 exact jag (i+1,l++[sV9 mm],v130,m128,ua128,qs128) ⟨by dsimp only;omega,by dsimp only;rw[hR,show(tVV 5 m19).toNat-i=((tVV 5 m19).toNat-(i+1))+1 by omega,Eg,hm128],by simp;omega,om128.mono (by omega)⟩ (dc d1 dn) (kc k1 (kc k1 (kc k1 (kc k0 kn)))) ⟨Z,Z,Z,Z,eqI (by omega),trivial⟩
 refine jex (jtx (jtx (jbh (jx (jr (jm Z (jm Z (jm Z (jkr E64 Z Z (Fp okL1 (by omega)) (dc d0 dn) (kd (kc k0 kn)) ⟨Dm okL1.1,okL1.2⟩ fun m134 hm134 om134 bm134=>?_)))))))))
 have w134_0:IntKind.i64.wrap (mm.nx)=mm.nx:=(IntWalk.i64_in _ (by omega))
 clear bdL1
 refine jm Z (jm Z (jkr E47 Z Z (Dd om134 (by omega) 5 (by first|exact hb9|decide|omega)) (dc d0 dn) (kd (kc k0 kn)) ⟨tO9 om134.1,om134.2⟩ fun m137 hm137 om137 bm137=>?_))
 have w137_0:IntKind.i64.wrap (tVV 5 m134)=tVV 5 m134:=(IntWalk.i64_in _ (by have h9:=@tV9 5 (by omega) m134;omega))
 have tr137:=@tV9 5 (by omega) m134
 clear bm134
 refine js (jco U3 U21 Z Z) (js (jbu (v := .agg #[.int .i64 17,.int .i64 mm.nx,.int .i64 0,v,.int .i32 (IntKind.i32.wrap (tVV 5 m134))]) Z (fun _=>by obtain⟨_,_,_,rfl⟩:=w39;kernel_rfl)) (jfz k3 (by omega) (jkb Fm Z Z (Fh (i:=⟨17,mm.nx,0,l,IntKind.i32.wrap (tVV 5 m134)⟩) om137 (by omega) b (by first|exact hb9|decide|omega)) (dc d1 (dc (Am.M (m:=⟨17,mm.nx,0,l,IntKind.i32.wrap (tVV 5 m134)⟩) (c:=v) d0 (wl 17) (wp w134_0) (wl 0) (wp (JE.wrap_wrap _ _))) dn)) (kd (kc k0 kn)) ⟨Dj om137.1 hbn,(Eu.trans om137.2)⟩ p0 fun m140 hm140 om140 bm140 ua140 qs140 w45=>?_)))
 clear bm137
 refine jn (jbn ?_)
 have hst:m140=Cj b m:=(by have hE:Eg b (tVV 5 m19).toNat [] m119=(l,mm):=(by rw[hR,show(tVV 5 m19).toNat-i=0 by omega];rfl);(try simp only[hm19,hm119,hm134,hm137,hm140] at hE hc1 hc3 hc4 hc6 hc7 hc8);(try simp only[hm19,hm119,hm134,hm137,hm140]);simp[Cj,hc1,hc3,hc4,hc6,hc7,hc8,hE])
 exact jd0 Z (ua140,qs140) Z dn (fun _ _=>(kcb (by rw[←hst]) k0 (kcg (by rw[←hst]) k0 (kck (by rw[←hst]) k0 kn))))
 refine jq (jr (jm Z (js (Ao Z Z) (ja Z (jn (jx ?_))))))
 refine jif Z (fun hc9=>?_) (fun hc9=>?_)
 refine jq (jr (jm Z (jm Z (jkb Hk Z Z (Hc om19 (by omega) b (by first|exact hb9|decide|omega)) (dc d0 dn) (kd (kc k0 kn)) ⟨Dk om19.1 hbn,(Fe.trans om19.2)⟩ p1 fun m146 hm146 om146 bm146 ua146 qs146 w46=>?_))))
 clear bm19
 refine ja Z (jn (jx (jq (jr (jm Z (jm Z (jkb Hk Z Z (Hc om146 (by omega) b (by first|exact hb9|decide|omega)) (dc d1 dn) (kd (kc k0 kn)) ⟨Dk om146.1 hbn,(Fe.trans om146.2)⟩ p1 fun m149 hm149 om149 bm149 ua149 qs149 w48=>?_)))))))
 clear bm146
 refine ja Z (jn (jx (jq (jr (jm Z (jkr E64 Z Z (Fp om149 (by omega)) (dc d2 dn) (kd (kc k0 kn)) ⟨Dm om149.1,om149.2⟩ fun m151 hm151 om151 bm151=>?_))))))
 have w151_0:IntKind.i64.wrap (m149.nx)=m149.nx:=(IntWalk.i64_in _ (by omega))
 clear bm149
 refine ja Z (jn (jx (jr (jm Z (jm Z (jm Z (jm Z (jkr E64 Z Z (Fp om151 (by omega)) (dc d2 dn) (kd (kc k0 kn)) ⟨Dm om151.1,om151.2⟩ fun m156 hm156 om156 bm156=>?_))))))))
 have w156_0:IntKind.i64.wrap (m151.nx)=m151.nx:=(IntWalk.i64_in _ (by omega))
 clear bm151
 refine jm Z (jm Z (Bg (r:=(rI .i64)) (l:=[sV9 m19,sV9 m146]) U22 I3 (by decide) Z Z Z (lV Z Z (wI ((wfw d1))) (lV Z Z (wI ((wfw d0))) ln)) fun g159=>js (jbu (v := .agg #[.int .i64 18,.int .i64 m149.nx,.int .i64 m151.nx,(.slice (some ⟨g159,0,none⟩) 2 2),.int .i32 0]) Z (fun _=>by kernel_rfl)) (jfz k0 (by(try simp)<;>omega) (jkb Fm Z Z (Fh (i:=⟨18,m149.nx,m151.nx,[sV9 m19,sV9 m146],0⟩) om156 (by omega) b (by first|exact hb9|decide|omega)) (dc d3 (dc (Am.M (m:=⟨18,m149.nx,m151.nx,[sV9 m19,sV9 m146],0⟩) (c:=(.slice (some ⟨g159,0,none⟩) 2 2)) d0 (wl 18) (wp w151_0) (wp w156_0) (wl 0)) dn)) (kd (kc k0 kn)) ⟨Dj om156.1 hbn,(Eu.trans om156.2)⟩ p0 fun m161 hm161 om161 bm161 ua161 qs161 w51=>?_))))
 clear bm156
 refine jn (jbn ?_)
 have hst:m161=Cj b m:=(by(try simp only[hm19,hm146,hm149,hm151,hm156,hm161] at hc1 hc3 hc4 hc6 hc7 hc9);(try simp only[hm19,hm146,hm149,hm151,hm156,hm161]);all_goals first|rfl|(simp[Cj,hc1,hc3,hc4,hc6,hc7,hc9];done)|(simp[Cj,hc1,hc3,hc4,hc6,hc7,hc9];rfl))
 exact jd0 Z (ua161,qs161) Z dn (fun _ _=>(kcb (by rw[←hst]) k0 (kcg (by rw[←hst]) k0 (kck (by rw[←hst]) k0 kn))))
 refine jr (jm Z (jm Z (jm Z (jkr E71 Z Z (Mv om19 (by omega)) (dc d0 dn) (kd (kc k0 kn)) ⟨Ki om19.1,om19.2⟩ fun m23 hm23 om23 bm23=>?_))))
 have w23_0:IntKind.i32.wrap (Ay m19)=Ay m19:=(Mh m19)
 clear bm19
 refine jkb E70 Z Z (Md om23 (by omega) b (Ay m19) (by first|exact hb9|decide|omega) w23_0) (dc d0 dn) (kd (kc k0 kn)) ⟨Gm om23.1 hbn,(Kc.trans om23.2)⟩ p1 fun m24 hm24 om24 bm24 ua24 qs24 w52=>?_
 clear bm23
 refine jn (jbn ?_)
 have hst:m24=Cj b m:=(by(try simp only[hm19,hm23,hm24] at hc1 hc3 hc4 hc6 hc7 hc9);(try simp only[hm19,hm23,hm24]);all_goals first|rfl|(simp[Cj,hc1,hc3,hc4,hc6,hc7,hc9];done)|(simp[Cj,hc1,hc3,hc4,hc6,hc7,hc9];rfl))
 exact jd0 Z (ua24,qs24) Z dn (fun _ _=>(kcb (by rw[←hst]) k0 (kcg (by rw[←hst]) k0 (kck (by rw[←hst]) k0 kn))))
def tgA:Nat→Int→List (List Int)→Mk→List (List Int)×Mk
 | 0,_,to,m=>(to,m)
 | k+1,b,to,m =>
  if tVV 3 m=0 then tgA k (b+1) (to.set (tVV b (tSS m)).toNat (to.getD (tVV b (tSS m)).toNat []++[b])) (tSS (tSS m))
  else tgA k (b+1) (to.set (b-1).toNat (to.getD (b-1).toNat []++[b])) (tSS m)
def tgX(n b:Int)(m:Mk):Int×Mk :=
 if 1+tVV (n-1) m≤b then
  if tVV 2 (tSS m)=0 then (min (b+1) (n-1),tSS (tSS m)) else (1+tVV (n-1) m,tSS (tSS m))
 else (1+tVV (n-1) m,tSS m)
def tgI(n b:Int):Nat→List (List Int)→Mk→List (List Int)×Mk
 | 0,to,m=>(to,m)
 | k+1,to,m=>tgI n b k (to.set b.toNat (to.getD b.toNat []++[(tgX n b m).1])) (tgX n b m).2
def tgB(n:Int):Nat→Int→List (List Int)→Mk→List (List Int)×Mk
 | 0,_,to,m=>(to,m)
 | k+1,b,to,m=>tgB n k (b+1) (tgI n b (if 1<n then (tVV 6 m-3).toNat else 0) to (tSS m)).1 (tgI n b (if 1<n then (tVV 6 m-3).toNat else 0) to (tSS m)).2
def Ly(n:Int)(m:Mk):List (List Int)×Mk:=tgA (n.toNat-1) 1 (List.replicate n.toNat []) m
def Cp(n:Int)(m:Mk):List (List Int)×Mk:=tgB n n.toNat 0 (Ly n m).1 (Ly n m).2
theorem Tf{ls:List (List Int)}{B:Nat}(h:∀j,(ls.getD j []).length≤B)(p:Nat)(x:Int):∀j,((ls.set p (ls.getD p []++[x])).getD j []).length≤B+1:=by
 intro j
 by_cases e:p=j
 ·subst e
  by_cases hp:p<ls.length
  ·have:=h p;simp[List.getD,hp] at *;omega
  ·simp[List.getD,hp]
 ·have:=h j;simp[List.getD,List.getElem?_set_ne e] at *;omega
theorem Wx{ls:List (List Int)}{B C:Nat}(h:∀j,(ls.getD j []).length≤B)(hc:B≤C):∀j,(ls.getD j []).length≤C:=fun j=>Nat.le_trans (h j) hc
theorem Ww{n B:Nat}:∀j,((List.replicate n ([]:List Int)).getD j []).length≤B:=by intro j;by_cases h:j<n<;>simp[List.getD,h]
section
variable{nb c:Nat}{m:Mk}
theorem Wg:∀(k:Nat) (b:Int) (to:List (List Int)) {c:Nat} {m:Mk},okM nb c m→okM nb (c+2*k) (tgA k b to m).2
 | 0,_,_,_,_,h=>h
 | k+1,b,to,c,m,h=>by
  unfold tgA;split
  ·exact(Wg k _ _ (tO9 (tO9 h))).mono (by omega)
  ·exact(Wg k _ _ (tO9 h)).mono (by omega)
theorem FJ{n b:Int}(h:okM nb c m):okM nb (c+2) (tgX n b m).2:=by
 unfold tgX;(repeat' split)
 ·exact tO9 (tO9 h)
 ·exact tO9 (tO9 h)
 ·exact(tO9 h).mono (by omega)
theorem E3{n b:Int}:∀(k:Nat) (to:List (List Int)) {c:Nat} {m:Mk},okM nb c m→okM nb (c+2*k) (tgI n b k to m).2
 | 0,_,_,_,h=>h
 | k+1,to,c,m,h=>by unfold tgI;exact(E3 k _ (FJ h)).mono (by omega)
theorem E7{n:Int}:∀(k:Nat) (b:Int) (to:List (List Int)) {c:Nat} {m:Mk},okM nb c m→okM nb (c+5*k) (tgB n k b to m).2
 | 0,_,_,_,_,h=>h
 | k+1,b,to,c,m,h=>by
  unfold tgB
  have h6:=tV9 (n:=6) (by omega) m
  refine(E7 k (b+1) _ (c:=c+5) ?_).mono (by omega)
  exact(E3 _ to (tO9 h)).mono (by split<;>omega)
theorem FO{n:Int}(h:okM nb c m)(hn:n≤9):okM nb (c+70) (Cp n m).2:=(E7 _ _ _ (Wg _ _ _ h)).mono (by omega)
end
theorem F9:∀(k:Nat) (b:Int) (to:List (List Int)) (m:Mk),(tgA k b to m).1.length=to.length
 | 0,_,_,_=>rfl
 | k+1,b,to,m=>by unfold tgA;split<;>rw[F9 k]<;>simp
theorem E4{n b:Int}:∀(k:Nat) (to:List (List Int)) (m:Mk),(tgI n b k to m).1.length=to.length
 | 0,_,_=>rfl
 | k+1,to,m=>by unfold tgI;rw[E4 k];simp
theorem E8{n:Int}:∀(k:Nat) (b:Int) (to:List (List Int)) (m:Mk),(tgB n k b to m).1.length=to.length
 | 0,_,_,_=>rfl
 | k+1,b,to,m=>by unfold tgB;rw[E8 k,E4]
theorem FT(n:Int)(m:Mk):(Cp n m).1.length=n.toNat:=by unfold Cp Ly;rw[E8,F9];simp
theorem FK{n b:Int}(m:Mk):∃k,(tgX n b m).2={ m with k:=k }:=by unfold tgX;(repeat' split);exact⟨_,rfl⟩;exact⟨_,rfl⟩;exact⟨_,rfl⟩
theorem Wh:∀(k:Nat) (b:Int) (to:List (List Int)) (m:Mk),∃q,(tgA k b to m).2={ m with k:=q }
 | 0,_,_,m=>⟨m.k,rfl⟩
 | k+1,b,to,m=>by
  unfold tgA;split
  ·obtain⟨q,hq⟩:=Wh k (b+1) (to.set (tVV b (tSS m)).toNat (to.getD (tVV b (tSS m)).toNat []++[b])) (tSS (tSS m));exact⟨q,hq⟩
  ·obtain⟨q,hq⟩:=Wh k (b+1) (to.set (b-1).toNat (to.getD (b-1).toNat []++[b])) (tSS m);exact⟨q,hq⟩
theorem E5{n b:Int}:∀(k:Nat) (to:List (List Int)) (m:Mk),∃q,(tgI n b k to m).2={ m with k:=q }
 | 0,_,m=>⟨m.k,rfl⟩
 | k+1,to,m=>by
  unfold tgI
  obtain⟨q,hq⟩:=E5 k (to.set b.toNat (to.getD b.toNat []++[(tgX n b m).1])) (tgX n b m).2
  obtain⟨q2,hq2⟩:=FK (n:=n) (b:=b) m
  rw[hq,hq2];exact⟨q,rfl⟩
theorem F6{n:Int}:∀(k:Nat) (b:Int) (to:List (List Int)) (m:Mk),∃q,(tgB n k b to m).2={ m with k:=q }
 | 0,_,_,m=>⟨m.k,rfl⟩
 | k+1,b,to,m=>by
  unfold tgB
  obtain⟨q,hq⟩:=F6 (n:=n) k (b+1) (tgI n b (if 1<n then (tVV 6 m-3).toNat else 0) to (tSS m)).1 (tgI n b (if 1<n then (tVV 6 m-3).toNat else 0) to (tSS m)).2
  obtain⟨q2,hq2⟩:=E5 (n:=n) (b:=b) (if 1<n then (tVV 6 m-3).toNat else 0) to (tSS m)
  rw[hq,hq2];exact⟨q,rfl⟩
theorem Sn(n:Int)(m:Mk):∃q,(Cp n m).2={ m with k:=q }:=by
 obtain⟨q,hq⟩:=F6 (n:=n) n.toNat 0 (Ly n m).1 (Ly n m).2
 obtain⟨q2,hq2⟩:=Wh (n.toNat-1) 1 (List.replicate n.toNat []) m
 exact⟨q,by rw[Cp,hq];rw[show(Ly n m).2=_ from hq2]⟩
theorem FQ{n:Int}{m:Mk}:(Cp n m).2.s=m.s:=by obtain⟨q,h⟩:=Sn n m;rw[h]
theorem FR{n:Int}{m:Mk}:(Cp n m).2.lv=m.lv:=by obtain⟨q,h⟩:=Sn n m;rw[h]
theorem FU{n:Int}{m:Mk}:(Cp n m).2.bs=m.bs:=by obtain⟨q,h⟩:=Sn n m;rw[h]
theorem MB{vs vb al:Value}{m:Mk}{nb c:Nat}{S:List Int}{g0:Nat}(hok:okS nb c S m)(hc:c≤900000)(n:Int)(hn9:1≤n∧n≤9):KD Tryz.prog 62 [.int .i64 n] [] g0 vs vb al S (rL (rL (rI .i64))) ((Cp n m).1) m ((Cp n m).2):=by
 refine Az (args:=[.pointer (some ⟨g0,0,none⟩),.int .i64 n]) Tryz.func62 rfl rfl rfl fun w0 X=>?_
 have bd0:=okM.bnd hok.1
 refine jq (jr (ja Z (jn (jx (jq (jr (jm Z (jmk (m:=n.toNat) (r:=rV) Df I22 Z Z Z (by omega) (by omega) (by omega) (wV Z) Z fun g13=>jrn (r:=(rI .i64)) (T:=3) n.toNat (ja Z (jn ?_))))))))))
 refine jx (jq (jq (jr (ja Z (jn (jx (jb ?_)))))))
 refine jlp (u4 fun(k:Nat) (vs1:List Value) (ls:List (List Int)) (mm:Mk)=>⟨1≤k∧(k:Int)≤n∧vs1.length=n.toNat∧ls.length=n.toNat∧(∀j,(ls.getD j []).length≤k)∧tgA (n.toNat-1) 1 (List.replicate n.toNat []) m=tgA (n.toNat-k) k ls mm∧okS nb (c+2*k) S mm,[dv (rL (rI .i64)) vs S],[rw' X.n (rI .i64) 3 vs1 ls,gl X.n rV 22 (.slice (some ⟨g13,0,none⟩) n.toNat n.toNat) vs1,bx g0 108 [vs,.int .i64 mm.k,.int .i64 mm.par,vb,.int .i64 mm.nx,al]],[(0,.pointer (some ⟨g0,0,none⟩)),(1,.int .i64 n),(4,.slice none 0 0),(5,(.slice (some ⟨g13,0,none⟩) n.toNat n.toNat)),(6,.int .i64 (↑k))],n.toNat-k⟩) (1,List.replicate n.toNat (.slice none 0 0),List.replicate n.toNat [],m) ⟨by omega,by omega,by simp,by simp,Ww,rfl,hok.mono (by omega)⟩ (dc d0 dn) (kd (kc k0 kn)) ⟨Z,Z,Z,Z,eqI (by omega),trivial⟩ ?_
 rintro⟨k,vs1,ls,mm⟩;dsimp only[u4];rintro⟨hk1,hk2,hvl,hll,hrw,hR,okL1⟩
 have bdL1:=okM.bnd okL1.1
 clear bd0
 refine jq (jq (jr (jm Z (jm Z (js (Ar Z Z) (jn (jx ?_)))))))
 refine jif Z (fun hc1=>?_) (fun hc1=>?_)
 refine jsk (jx (jq (jb (jq (jr (jm Z (js (Gw Z Z (by omega)) (ja Z (jn (jx (jq ?_)))))))))))
 refine jq (jr (jm Z (jka E47 Z Z (Dd okL1 (by omega) 3 (by first|decide|omega)) (dc d0 dn) k2 ⟨tO9 okL1.1,okL1.2⟩ fun m22 hm22 om22 bm22=>?_)))
 have w22_0:IntKind.i64.wrap (tVV 3 mm)=tVV 3 mm:=(IntWalk.i64_in _ (by have h9:=@tV9 3 (by omega) mm;omega))
 have tr22:=@tV9 3 (by omega) mm
 clear bdL1
 refine js (Ao Z Z) (jn (jx ?_))
 refine jif Z (fun hc2=>?_) (fun hc2=>?_)
 refine jr (jm Z (jm Z (jka E47 Z Z (Dd om22 (by omega) ↑k (by first|decide|omega)) (dc d0 dn) k0 ⟨tO9 om22.1,om22.2⟩ fun m26 hm26 om26 bm26=>?_)))
 have w26_0:IntKind.i64.wrap (tVV ↑k m22)=tVV ↑k m22:=(IntWalk.i64_in _ (by have h9:=@tV9 ↑k (by omega) m22;omega))
 have tr26:=@tV9 ↑k (by omega) m22
 clear bm22
 refine ja Z (jn (jx (jr (jm Z (jm Z (jm Z (jm Z (js (jig (i:=(Int.toNat (tVV ↑k m22))) Df Z22 k2 Z Z (by omega) (by omega)) (js (jgW k2 (by omega) O22 Z) (jm Z ?_))))))))))
 have hz:=hrw (Int.toNat (tVV ↑k m22))
 refine jro (Int.toNat (tVV ↑k m22)) k1 (by omega) (by omega) (jgo k0 fun w2=>Gk U22 I3 (by decide) Z Z k0 Z (wI (wp (IntWalk.i64_in _ (by omega)))) (by omega) (fun _=>Z) fun v35 _ w3=>js (jig (i:=(Int.toNat (tVV ↑k m22))) Df Z22 k3 Z Z (by omega) (by omega)) (jsg k3 Z Z22 Z Z w3.one (by omega) (wV w3.one) (jru k1 k1 (by omega) (by omega) (jn (jbn (jx (jr (jm Z (js (Al Z Z (by omega)) ?_)))))))))
 refine ja Z (jn ?_)
 exact jag (k+1,List.set vs1 (Int.toNat (tVV ((k:Nat):Int) m22)) v35,List.set ls (Int.toNat (tVV ((k:Nat):Int) m22)) ((List.getD ls (Int.toNat (tVV ((k:Nat):Int) m22)) [])++[((k:Nat):Int)]),m26) ⟨by dsimp only;omega,by dsimp only;omega,by simp[hvl],by simp[hll],Tf hrw _ _,by dsimp only;rw[hR,show n.toNat-k=(n.toNat-(k+1))+1 by omega,tgA];(first|rw[if_pos ‹_›]|rw[if_neg ‹_›]);(try simp only[hm22,hm26]);rfl,om26.mono (by omega)⟩ (dc d0 dn) (kd (kc k0 kn)) ⟨Z,Z,Z,Z,eqI (by omega),trivial⟩
 refine jsk (jx (jr (jm Z (jm Z (jm Z (jm Z (js (jig (i:=(Int.toNat (↑k-1))) Df Z22 k2 Z Z (by omega) (by omega)) (js (jgW k2 (by omega) O22 Z) (jm Z ?_)))))))))
 have hz:=hrw (Int.toNat (↑k-1))
 refine jro (Int.toNat (↑k-1)) k1 (by omega) (by omega) (jgo k0 fun w5=>Gk U22 I3 (by decide) Z Z k0 Z (wI (wp (IntWalk.i64_in _ (by omega)))) (by omega) (fun _=>Z) fun v35_6 _ w7=>js (jig (i:=(Int.toNat (↑k-1))) Df Z22 k3 Z Z (by omega) (by omega)) (jsg k3 Z Z22 Z Z w7.one (by omega) (wV w7.one) (jru k1 k1 (by omega) (by omega) (jn (jbn (jx (jr (jm Z (js (Al Z Z (by omega)) ?_)))))))))
 refine ja Z (jn ?_)
 exact jag (k+1,List.set vs1 (Int.toNat (((k:Nat):Int)-1)) v35_6,List.set ls (Int.toNat (((k:Nat):Int)-1)) ((List.getD ls (Int.toNat (((k:Nat):Int)-1)) [])++[((k:Nat):Int)]),m22) ⟨by dsimp only;omega,by dsimp only;omega,by simp[hvl],by simp[hll],Tf hrw _ _,by dsimp only;rw[hR,show n.toNat-k=(n.toNat-(k+1))+1 by omega,tgA];(first|rw[if_pos ‹_›]|rw[if_neg ‹_›]);(try simp only[hm22]);rfl,om22.mono (by omega)⟩ (dc d0 dn) (kd (kc k0 kn)) ⟨Z,Z,Z,Z,eqI (by omega),trivial⟩
 have hA1:Ly n m=(ls,mm):=by rw[Ly,hR,show n.toNat-k=0 by omega];rfl
 refine jex (jtx (jtx (jbh (jx (jq (jq (jr (ja Z (jn (jx (jb ?_)))))))))))
 refine jlp (u4 fun(b:Nat) (vs2:List Value) (lt:List (List Int)) (mn:Mk)=>⟨(b:Int)≤n∧vs2.length=n.toNat∧lt.length=n.toNat∧(∀j,(lt.getD j []).length≤10+2*b)∧tgB n n.toNat 0 ls mm=tgB n (n.toNat-b) b lt mn∧okS nb (c+20+5*b) S mn,[dv (rL (rI .i64)) vs S],[rw' X.n (rI .i64) 3 vs2 lt,gl X.n rV 22 (.slice (some ⟨g13,0,none⟩) n.toNat n.toNat) vs2,bx g0 108 [vs,.int .i64 mn.k,.int .i64 mn.par,vb,.int .i64 mn.nx,al]],[(0,.pointer (some ⟨g0,0,none⟩)),(1,.int .i64 n),(4,.slice none 0 0),(5,(.slice (some ⟨g13,0,none⟩) n.toNat n.toNat)),(8,.int .i64 (↑b))],n.toNat-b⟩) (0,vs1,ls,mm) ⟨by omega,hvl,hll,Wx hrw (by omega),rfl,okL1.mono (by omega)⟩ (dc d0 dn) (kd (kc k0 kn)) ⟨Z,Z,Z,Z,eqI (by omega),trivial⟩ ?_
 rintro⟨b,vs2,lt,mn⟩;dsimp only[u4];rintro⟨hb1,hvl2,hll2,hrw2,hR2,okL2⟩
 have bdL2:=okM.bnd okL2.1
 clear bdL1
 refine jq (jq (jr (jm Z (jm Z (js (Ar Z Z) (jn (jx ?_)))))))
 refine jif Z (fun hc3=>?_) (fun hc3=>?_)
 refine jsk (jx (jq (jb (jq (jr (jm Z (jka E47 Z Z (Dd okL2 (by omega) 6 (by first|decide|omega)) (dc d0 dn) k2 ⟨tO9 okL2.1,okL2.2⟩ fun m43 hm43 om43 bm43=>?_)))))))
 have w43_0:IntKind.i64.wrap (tVV 6 mn)=tVV 6 mn:=(IntWalk.i64_in _ (by have h9:=@tV9 6 (by omega) mn;omega))
 have tr43:=@tV9 6 (by omega) mn
 clear bdL2
 refine ja Z (jn (jx (jq (jr (ja Z (jn (jx (jb ?_))))))))
 refine jlp (u4 fun(i:Nat) (vs3:List Value) (lu:List (List Int)) (mo:Mk)=>⟨i≤(if 1<n then (tVV 6 mn-3).toNat else 0)∧vs3.length=n.toNat∧lu.length=n.toNat∧(∀j,(lu.getD j []).length≤10+2*b+i)∧tgI n b (if 1<n then (tVV 6 mn-3).toNat else 0) lt m43=tgI n b ((if 1<n then (tVV 6 mn-3).toNat else 0)-i) lu mo∧okS nb (c+20+5*b+1+2*i) S mo,[dv (rL (rI .i64)) vs S],[bx g0 108 [vs,.int .i64 mo.k,.int .i64 mo.par,vb,.int .i64 mo.nx,al],rw' X.n (rI .i64) 3 vs3 lu,gl X.n rV 22 (.slice (some ⟨g13,0,none⟩) n.toNat n.toNat) vs3],[(0,.pointer (some ⟨g0,0,none⟩)),(1,.int .i64 n),(4,.slice none 0 0),(5,(.slice (some ⟨g13,0,none⟩) n.toNat n.toNat)),(8,.int .i64 (↑b)),(9,.int .i64 (tVV 6 mn)),(10,.int .i64 (↑i))],(if 1<n then (tVV 6 mn-3).toNat else 0)-i⟩) (0,vs2,lt,m43) ⟨Nat.zero_le _,hvl2,hll2,Wx hrw2 (by omega),rfl,om43.mono (by omega)⟩ (dc d0 dn) (kd (kc k0 kn)) ⟨Z,Z,Z,Z,Z,Z,eqI (by omega),trivial⟩ ?_
 rintro⟨i,vs3,lu,mo⟩;dsimp only[u4];rintro⟨hi1,hvl3,hll3,hrw3,hR3,okL3⟩
 have bdL3:=okM.bnd okL3.1
 clear bm43
 refine jq (jq (jr (jm Z (jm Z (js (Gw Z Z (by omega)) (js (Ar Z Z) (jm Z (jg Z Z (.t _) (fun hg=>jmv Z) (jg Z Z (.t _) (fun hg=>Ee (evg Z hg) Z) (js (Cf Z Z) (jn ?_)))))))))))
 refine jx ?_
 refine jif Z (fun hc4=>?_) (fun hc4=>?_)
 refine jsk (jx (jq (jb (jq (jr (jm Z (jm Z (js (Gw Z Z (by omega)) (jka E47 Z Z (Dd okL3 (by omega) (n-1) (by first|decide|omega)) (dc d0 dn) k0 ⟨tO9 okL3.1,okL3.2⟩ fun m57 hm57 om57 bm57=>?_)))))))))
 have w57_0:IntKind.i64.wrap (tVV (n-1) mo)=tVV (n-1) mo:=(IntWalk.i64_in _ (by have h9:=@tV9 (n-1) (by omega) mo;omega))
 have tr57:=@tV9 (n-1) (by omega) mo
 clear bdL3
 refine js (Al Z Z (by omega)) (ja Z (jn (jx (jq (jq (jr (jm Z (jm Z (js (Nv Z Z) (jm Z (jg Z Z (.t _) (fun hg=>jmv Z) ?_)))))))))))
 refine NN Z Z (.t _) E47 Z (fun hg=>Mx (evg Z hg) Z) (Dd om57 (by omega) 2 (by first|decide|omega)) (dc d0 dn) k0 (by split;exact⟨tO9 om57.1,om57.2⟩;exact om57.mono (by omega)) fun m64 hm64 om64 bm64=>?_
 have w64_0:IntKind.i64.wrap (tVV 2 m57)=tVV 2 m57:=(IntWalk.i64_in _ (by have h9:=@tV9 2 (by omega) m57;omega))
 have tr64:=@tV9 2 (by omega) m57
 clear bm57
 refine jg Z Z (.t _) (fun hg=>Ao (evg Z hg) Z) (js (Cf Z Z) (jn (jx ?_)))
 refine jif Z (fun hc5=>?_) (fun hc5=>?_)
 refine jr (jm Z (js (Al Z Z (by omega)) (jm Z (js (Gw Z Z (by omega)) (js (Lo Z Z) (ja Z (jn (jx (jr (jm Z (jm Z ?_)))))))))))
 refine jm Z (jm Z (js (jig Df Z22 k2 Z Z Z (by omega)) (js (jgW k2 (by omega) O22 Z) (jm Z ?_))))
 have hX:tgX n ((b:Nat):Int) mo=(min (((b:Nat):Int)+1) (n-1),m64):=by
  try simp only[hm57,hm64] at hc5
  simp only[hm57,hm64]
  by_cases hA:1+tVV (n-1) mo≤(b:Int)<;>by_cases hB:tVV 2 (tSS mo)=0<;>simp[hA,hB] at hc5<;>simp[tgX,hA,hB]
 have hz:=hrw3 b
 refine jro b k1 (by omega) (by omega) (jgo k0 fun w9=>Gk U22 I3 (by decide) Z Z k0 Z (wI (wp (IntWalk.i64_in _ (by omega)))) (by omega) (fun _=>Z) fun v80 _ w10=>js (jig Df Z22 k3 Z Z Z (by omega)) (jsg k3 Z Z22 Z Z w10.one (by omega) (wV w10.one) (jru k1 k1 (by omega) (by omega) (jn (jbn (jx (jr (jm Z (js (Al Z Z (by omega)) ?_)))))))))
 refine ja Z (jn ?_)
 exact jag (i+1,List.set vs3 b v80,List.set lu b ((List.getD lu b [])++[min (((b:Nat):Int)+1) (n-1)]),m64) ⟨by dsimp only;split<;>omega,by simp[hvl3],by simp[hll3],Tf hrw3 _ _,by dsimp only;rw[hR3,show(if 1<n then (tVV 6 mn-3).toNat else 0)-i=((if 1<n then (tVV 6 mn-3).toNat else 0)-(i+1))+1 by split<;>omega,tgI,hX];(first|done|rfl),om64.mono (by omega)⟩ (dc d0 dn) (kc k2 (kd kn)) ⟨Z,Z,Z,Z,Z,Z,eqI (by omega),trivial⟩ (by dsimp only;split<;>omega)
 refine jsk (jx (jr (jm Z (jm Z (jm Z (jm Z (js (jig Df Z22 k2 Z Z Z (by omega)) (js (jgW k2 (by omega) O22 Z) (jm Z ?_)))))))))
 have hX:tgX n ((b:Nat):Int) mo=(1+(tVV (n-1) mo),m64):=by
  try simp only[hm57,hm64] at hc5
  simp only[hm57,hm64]
  by_cases hA:1+tVV (n-1) mo≤(b:Int)<;>by_cases hB:tVV 2 (tSS mo)=0<;>simp[hA,hB] at hc5<;>simp[tgX,hA,hB]
 have hz:=hrw3 b
 refine jro b k1 (by omega) (by omega) (jgo k0 fun w12=>Gk U22 I3 (by decide) Z Z k0 Z (wI (wp (IntWalk.i64_in _ (by omega)))) (by omega) (fun _=>Z) fun v80_13 _ w14=>js (jig Df Z22 k3 Z Z Z (by omega)) (jsg k3 Z Z22 Z Z w14.one (by omega) (wV w14.one) (jru k1 k1 (by omega) (by omega) (jn (jbn (jx (jr (jm Z (js (Al Z Z (by omega)) ?_)))))))))
 refine ja Z (jn ?_)
 exact jag (i+1,List.set vs3 b v80_13,List.set lu b ((List.getD lu b [])++[1+(tVV (n-1) mo)]),m64) ⟨by dsimp only;split<;>omega,by simp[hvl3],by simp[hll3],Tf hrw3 _ _,by dsimp only;rw[hR3,show(if 1<n then (tVV 6 mn-3).toNat else 0)-i=((if 1<n then (tVV 6 mn-3).toNat else 0)-(i+1))+1 by split<;>omega,tgI,hX];(first|done|rfl),om64.mono (by omega)⟩ (dc d0 dn) (kc k2 (kd kn)) ⟨Z,Z,Z,Z,Z,Z,eqI (by omega),trivial⟩ (by dsimp only;split<;>omega)
 have hI:tgI n ↑b (if 1<n then (tVV 6 mn-3).toNat else 0) lt (tSS mn)=(lu,mo):=by rw[←hm43,hR3,show(if 1<n then (tVV 6 mn-3).toNat else 0)-i=0 by split<;>omega];rfl
 have hJ9:(if 1<n then (tVV 6 mn-3).toNat else 0)≤2:=by have h6:=tV9 (n:=6) (by omega) mn;split<;>omega
 refine jex (jtx (jtx (jbh (jbn (jx (jr (jm Z (js (Al Z Z (by omega)) (ja Z (jn ?_))))))))))
 exact jag (b+1,vs3,lu,mo) ⟨by dsimp only;omega,hvl3,hll3,Wx hrw3 (by omega),by dsimp only;rw[hR2,show n.toNat-b=(n.toNat-(b+1))+1 by omega,tgB,hI];rfl,okL3.mono (by omega)⟩ (dc d0 dn) (kc k1 (kc k1 (kc k0 kn))) ⟨Z,Z,Z,Z,eqI (by omega),trivial⟩
 have hT:Cp n m=(lt,mn):=by rw[Cp,hA1];dsimp only;rw[hR2,show n.toNat-b=0 by omega];rfl
 refine jex (jtx (jtx (jbh (jx (jq (jr (jm Z (ja Z (jn (jx (jrt ?_)))))))))))
 have hv0:(Cp n m).1=lt:=(by rw[hT])
 have hst:mn=(Cp n m).2:=(by rw[hT])
 refine qfr k1 k0 (by omega) (by omega) (fun l9 h9=>by obtain⟨j,hj,rfl⟩:=List.getElem_of_mem h9;have:=hrw2 j;simp[List.getD,hj] at this;omega) ?_
 exact jr1 Z Z (.slice (some ⟨g13,0,none⟩) n.toNat n.toNat) Z (dc (BF hv0 d0) dn) (fun _ _=>(kcb (by rw[←hst]) k0 kn))
def Hr(bs:List D.Block):Nat→Int→List Int
 | 0,_=>[]
 | k+1,b=>Hr bs k b++(if (ix bs k).Term.To.any (fun y=>decide (y=b)) then [(k:Int)] else [])
def pd3(f:D.Func)(b:Int):List Int:=Hr f.Blocks f.Blocks.length b
theorem Xh(bs:List D.Block)(b:Int):∀k,(Hr bs k b).length≤k
 | 0=>by simp[Hr]
 | k+1=>by have:=Xh bs b k;rw[Hr,List.length_append];split<;>simp<;>omega
theorem LB{α:Type}{l:List α}{q:α→Bool}(h:∀x∈l,q x=false):l.any q=false:=by simpa[List.any_eq_false] using h
theorem LA{α:Type}[Inhabited α]{l:List α}{q:α→Bool}{k:Nat}(hk:k<l.length)(h:∀x∈l.take k,q x=false)(h1:q (ix l k)=false):∀x∈l.take (k+1),q x=false:=by
 rw[Ej hk];intro x hx;rcases List.mem_append.1 hx with hx|hx
 ·exact h x hx
 ·simp at hx;subst hx;exact h1
theorem SQ{α:Type}[Inhabited α]{l:List α}{q:α→Bool}{k:Nat}(hk:k<l.length)(h1:q (ix l k)=true):l.any q=true:=List.any_eq_true.2 ⟨_,Ax hk,h1⟩
def Fu(l:List Bool):Nat:=l.countP (fun x=>!x)
theorem Nz{l:List Bool}{i:Nat}(hi:i<l.length)(h:ix l i=false):Fu (l.set i true)+1=Fu l:=by
 unfold Fu
 have h2:l[i]=false:=by rw[←Bp hi];exact h
 rw[List.countP_set hi]
 have:0<l.countP (fun x=>!x):=List.countP_pos_iff.2 ⟨_,List.getElem_mem hi,by simp[h2]⟩
 simp[h2];omega
theorem Ro(n:Nat):Fu (List.replicate n false)=n:=by simp[Fu,List.countP_replicate]
theorem Jh(n i:Nat):ix (List.replicate n false) i=false:=by by_cases h:i<n<;>simp[ix,h]
def Dc(w:Int):List Bool→List Int→List Int→List Bool×List Int
 | se,q,[]=>(se,q)
 | se,q,t::ts=>if (0≤t∧t<se.length)∧ix se t.toNat=false∧t≠w then Dc w (se.set t.toNat true) (q++[t]) ts else Dc w se q ts
def b3(bs:List D.Block)(w:Int):Nat→List Bool→List Int→Nat→List Bool
 | 0,se,_,_=>se
 | f+1,se,q,i=>if i<q.length then b3 bs w f (Dc w se q (ix bs (ix q i).toNat).Term.To).1 (Dc w se q (ix bs (ix q i).toNat).Term.To).2 (i+1) else se
def Dh(f:D.Func)(w:Int):List Bool :=
 if w≠0∧0<f.Blocks.length then b3 f.Blocks w f.Blocks.length ((List.replicate f.Blocks.length false).set 0 true) [0] 0
 else List.replicate f.Blocks.length false
theorem CK{bs:List D.Block}{w:Int}{f i:Nat}{se se2:List Bool}{q q2:List Int}(hf:0<f)(hi:i<q.length)(h:Dc w se q (ix bs (ix q i).toNat).Term.To=(se2,q2)):b3 bs w f se q i=b3 bs w (f-1) se2 q2 (i+1):=by
 cases f with
 | zero=>omega
 | succ f=>rw[b3,if_pos hi,h];rfl
theorem Zd{bs:List D.Block}{w:Int}{f i:Nat}{se:List Bool}{q:List Int}(hi:q.length≤i):b3 bs w f se q i=se:=by
 cases f with
 | zero=>rfl
 | succ f=>rw[b3,if_neg (by omega)]
theorem CM{bs:List D.Block}{w:Int}{f:Nat}{se:List Bool}:b3 bs w f se [] 0=se:=Zd (by simp)
theorem CR{w:Int}{se se0:List Bool}{q q0 T:List Int}{j:Nat}(hj:j<T.length)(hIn:Dc w se q (T.drop j)=Dc w se0 q0 T)(h:(0≤ix T j∧ix T j<se.length)∧ix se (ix T j).toNat=false∧ix T j≠w):Dc w (se.set (ix T j).toNat true) (q++[ix T j]) (T.drop (j+1))=Dc w se0 q0 T:=by
 rw[←hIn,Hf hj,Dc,if_pos h]
theorem CQ{w:Int}{se se0:List Bool}{q q0 T:List Int}{j:Nat}(hj:j<T.length)(hIn:Dc w se q (T.drop j)=Dc w se0 q0 T)(h:¬((0≤ix T j∧ix T j<se.length)∧ix se (ix T j).toNat=false∧ix T j≠w)):Dc w se q (T.drop (j+1))=Dc w se0 q0 T:=by
 rw[←hIn,Hf hj,Dc,if_neg h]
theorem Rt{w:Int}:∀(T:List Int) (se:List Bool) (q:List Int),(Dc w se q T).1.length=se.length
 | [],_,_=>rfl
 | t::ts,se,q=>by rw[Dc];split;(· rw[Rt ts];simp);exact Rt ts se q
theorem CN{bs:List D.Block}{w:Int}:∀(f:Nat) (se:List Bool) (q:List Int) (i:Nat),(b3 bs w f se q i).length=se.length
 | 0,_,_,_=>rfl
 | f+1,se,q,i=>by rw[b3];split;(· rw[CN f,Rt]);rfl
theorem Mm(f:D.Func)(w:Int):(Dh f w).length=f.Blocks.length:=by unfold Dh;split;(· rw[CN];simp);simp
def phT(b:Int)(i:Nat)(p:D.Phi):D.Tg3:=⟨b,-1-i,[p.Dst],p.In.map (·.Val)⟩
def phL(b:Int):Nat→List D.Phi→List D.Tg3
 | _,[]=>[]
 | i,p::l=>phT b i p::phL b (i+1) l
def inT(b:Int)(i:Nat)(x:D.Ins):D.Tg3:=⟨b,i,Ba x,x.Args⟩
def inL(b:Int):Nat→List D.Ins→List D.Tg3
 | _,[]=>[]
 | i,x::l=>inT b i x::inL b (i+1) l
def enT(b:Int)(x:D.Block):D.Tg3:=⟨b,(x.Ins.length:Nat),[],x.Term.Args⟩
def blL:Nat→List D.Block→List D.Tg3
 | _,[]=>[]
 | b,x::l=>phL b 0 x.Phis++(inL b 0 x.Ins++(enT b x::blL (b+1) l))
def Ad(f:D.Func):List D.Tg3:=blL 0 f.Blocks
theorem Q9(b:Int):∀(l:List D.Phi) (i:Nat),(phL b i l).length=l.length
 | [],_=>rfl
 | _::l,i=>by simp[phL,Q9 b l]
theorem Z9(b:Int):∀(l:List D.Ins) (i:Nat),(inL b i l).length=l.length
 | [],_=>rfl
 | _::l,i=>by simp[inL,Z9 b l]
theorem CE:∀(l:List D.Block) (b:Nat),(blL b l).length=Bw l
 | [],_=>rfl
 | x::l,b=>by simp[blL,Bw,Q9,Z9,CE l];omega
theorem Xj{α:Type}{a b c:List α}(h:a=b++c):b.length≤a.length:=by rw[h];simp
theorem SK{a out:List D.Tg3}{l:List D.Block}{k:Nat}(hk:k<l.length)(h:a=out++blL k (l.drop k)):a=out++(phL k 0 ((ix l k).Phis.drop 0)++(inL k 0 (ix l k).Ins++(enT k (ix l k)::blL (k+1) (l.drop (k+1))))):=by rw[h,Hf hk,blL];rfl
theorem KC{a out r:List D.Tg3}{b:Int}{l:List D.Phi}{i:Nat}(hi:i<l.length)(h:a=out++(phL b i (l.drop i)++r)):a=(out++[phT b i (ix l i)])++(phL b (i+1) (l.drop (i+1))++r):=by rw[h,Hf hi,phL];simp
theorem JZ{a out r:List D.Tg3}{b:Int}{l:List D.Phi}{i:Nat}(hi:l.length≤i)(h:a=out++(phL b i (l.drop i)++r)):a=out++r:=by rw[h,List.drop_of_length_le hi];rfl
theorem PG{a out r:List D.Tg3}{b:Int}{l:List D.Ins}{i:Nat}(hi:i<l.length)(h:a=out++(inL b i (l.drop i)++r)):a=(out++[inT b i (ix l i)])++(inL b (i+1) (l.drop (i+1))++r):=by rw[h,Hf hi,inL];simp
theorem PE{a out r:List D.Tg3}{b:Int}{l:List D.Ins}{i:Nat}(hi:l.length≤i)(h:a=out++(inL b i (l.drop i)++r)):a=out++r:=by rw[h,List.drop_of_length_le hi];rfl
theorem SJ{a out r:List D.Tg3}{x:D.Tg3}(h:a=out++(x::r)):a=(out++[x])++r:=by rw[h];simp
theorem U1{α β:Type}[Inhabited α]{g:α→β}{l:List α}{k:Nat}(hk:k<l.length):(l.take (k+1)).map g=(l.take k).map g++[g (ix l k)]:=by rw[Ej hk];simp
def Ot(f:D.Func)(b:Int)(t:D.Tg3):Bool:=decide (t.Block=b)||!(ix (Dh f t.Block) b.toNat)
def Ju(f:D.Func)(b:Int)(l:List D.Tg3):List Int:=l.flatMap (fun t=>if Ot f b t then t.Makes else [])
def Ij(n:Nat):List Int:=(List.range n).map (fun(i:Nat)=>(i:Int))
def Cd(f:D.Func)(b:Int):List Int:=Ij f.Params.toNat++Ju f b (Ad f)
theorem S5(n:Nat):Ij (n+1)=Ij n++[(n:Int)]:=by simp[Ij,List.range_succ]
theorem Qz(n:Nat):(Ij n).length=n:=by simp[Ij]
theorem Wj{f:D.Func}{b:Int}{l:List D.Tg3}{k:Nat}(hk:k<l.length):Ju f b (l.take (k+1))=Ju f b (l.take k)++(if Ot f b (ix l k) then (ix l k).Makes else []):=by
 rw[Ej hk];simp[Ju]
theorem U5{b:Int}:∀{l:List D.Ins} {i:Nat} {t:D.Tg3},t∈inL b i l→t.Makes.length≤2
 | [],_,_,h=>by cases h
 | x::l,i,t,h=>by
  rcases List.mem_cons.1 h with h|h
  ·subst h;exact Pi x
  ·exact U5 h
theorem U4{b:Int}:∀{l:List D.Phi} {i:Nat} {t:D.Tg3},t∈phL b i l→t.Makes.length≤2
 | [],_,_,h=>by cases h
 | x::l,i,t,h=>by
  rcases List.mem_cons.1 h with h|h
  ·subst h;simp[phT]
  ·exact U4 h
theorem U6:∀{l:List D.Block} {b:Nat} {t:D.Tg3},t∈blL b l→t.Makes.length≤2
 | [],_,_,h=>by cases h
 | x::l,b,t,h=>by
  rw[blL] at h
  rcases List.mem_append.1 h with h|h
  ·exact U4 h
  ·rcases List.mem_append.1 h with h|h
   ·exact U5 h
   ·rcases List.mem_cons.1 h with h|h
    ·subst h;simp[enT]
    ·exact U6 h
theorem G6{f:D.Func}{b:Int}:∀{l:List D.Tg3},(∀t∈l,t.Makes.length≤2)→(Ju f b l).length≤2*l.length
 | [],_=>by simp[Ju]
 | x::l,h=>by
  have h1:=G6 (f:=f) (b:=b) (l:=l) (fun t ht=>h t (List.mem_cons_of_mem _ ht))
  have h2:=h x (List.mem_cons_self)
  unfold Ju at *
  rw[List.flatMap_cons,List.length_append,List.length_cons]
  split
  ·omega
  ·simp only[List.length_nil];omega
theorem Si(f:D.Func):(Ad f).length=Bw f.Blocks:=CE _ _
theorem Sh(f:D.Func):∀t∈Ad f,t.Makes.length≤2:=fun _ h=>U6 h
theorem Xo(s:List Int):okM 0 0 ⟨s,0,0,[],0,[]⟩:=by simp[okM,Bw]
def Ha:Nat→List Int→Mk→List Int×Mk
 | 0,l,m=>(l,m)
 | n+1,l,m=>Ha n (l++[Ay m]) (Ck m)
theorem Vv{n i:Nat}{a l:List Int}{m0 m:Mk}(hi:i<n)(h:Ha n a m0=Ha (n-i) l m):Ha n a m0=Ha (n-(i+1)) (l++[Ay m]) (Ck m):=by
 rw[h,show n-i=(n-(i+1))+1 by omega];rfl
theorem Vu{n i:Nat}{a l:List Int}{m0 m:Mk}(hi:n≤i)(h:Ha n a m0=Ha (n-i) l m):Ha n a m0=(l,m):=by
 rw[h,show n-i=0 by omega];rfl
def Ka(s:List Int):D.Input :=
 let a:=Ha 4 [] ⟨s,0,0,[],0,[]⟩
 let b:=Ha (4+tVV 13 a.2).toNat [] (tSS a.2)
 let c:=Ha (tVV 7 b.2).toNat [] (tSS b.2)
 ⟨a.1,b.1,c.1,300⟩
theorem Xd{a0:Value}{f:D.Func}(block:Int):Tg Tryz.prog 63 #[vFunc f a0,.int .i64 block] [da Aj (vFunc f a0) f] [] (rI .i64) 3 (pd3 f block):=by
 refine Az (args:=[vFunc f a0,.int .i64 block]) Tryz.func63 rfl rfl rfl fun w0 X=>?_
 refine jq (jr (Cm Z Z fun g2=>ja Z (jn (jx (jq (jr (Bg (r:=(rI .i64)) (l:=[]) U22 I3 (by decide) Z Z Z ln fun g9=>ja Z (jn (jx ?_)))))))))
 refine jq (jq (jr (ja Z (jn (jx (jb ?_))))))
 refine jlp (u3 fun(k:Nat) (vo:Value) (lo:List Int)=>⟨k≤f.Blocks.length∧lo=Hr f.Blocks k block,[da Aj (vFunc f a0) f],[gl X.n (rI .i64) 3 vo lo,bx g2 49 [.int .i64 f.Params,a0]],[(1,.int .i64 block),(2,.pointer (some ⟨g2,0,none⟩)),(4,.slice none 0 0),(5,vo),(6,.int .i64 (↑k))],f.Blocks.length-k⟩) (0,(.slice (some ⟨g9,0,none⟩) 0 0),[]) ⟨by dsimp only;omega,rfl⟩ (dc d0 dn) (kd kn) ⟨Z,Z,Z,Z,eqI (by omega),trivial⟩ ?_
 rintro⟨k,vo,lo⟩;dsimp only[u3];rintro⟨hk,hlo⟩
 refine cgo k0 fun w1=>?_
 have hll:lo.length≤k:=by rw[hlo];exact Xh _ _ _
 refine jq (jq (jr (jm Z (js (jf Bu Z) (js (jl k1 O47 Z Z) (jdq (Aj.cB d0) fun q2 w2=>js (jln U47 (Aj.cB d0) Z) (js (Ar Z Z) (jn (jx ?_)))))))))
 refine jif Z (fun hc1=>?_) (fun hc1=>?_)
 refine jsk (jx (jq (jb (jq (jr (js (jf Bu Z) (js (jl k1 O47 Z Z) (jm Z (js (jix U47 Z62 (Aj.cB d0) Z Z Z (by omega)) (js (jf Eh Z) (js (jf Ei Z) ?_)))))))))))
 refine jev (jlV (Bf.A_To (Af.A_Term (dix (Aj.cB d0) k (by omega)))) O22 Z Z) fun v23 q3 w3=>ja Z (jn (jx (jq (jr (ja Z (jn (jx (jb ?_))))))))
 refine jlp (fun(j:Nat)=>⟨j≤(ix f.Blocks k).Term.To.length∧(∀x∈(ix f.Blocks k).Term.To.take j,decide (x=block)=false),[dv (rL (rI .i64)) v23 (((ix f.Blocks k).Term).To),da Aj (vFunc f a0) f],[gl X.n (rI .i64) 3 vo lo,bx g2 49 [.int .i64 f.Params,a0]],[(1,.int .i64 block),(2,.pointer (some ⟨g2,0,none⟩)),(4,.slice none 0 0),(5,vo),(6,.int .i64 (↑k)),(7,v23),(8,.int .i64 (↑j))],(ix f.Blocks k).Term.To.length-j⟩) 0 ⟨Nat.zero_le _,by simp⟩ (dc d0 (dc d1 dn)) (kd kn) ⟨Z,Z,Z,Z,Z,Z,eqI (by omega),trivial⟩ ?_
 rintro j;dsimp only;rintro⟨hj,hno⟩
 refine jq (jq (jr (jm Z (jm Z (js (jln U22 d0 Z) (js (Ar Z Z) (jn (jx ?_))))))))
 refine jif Z (fun hc2=>?_) (fun hc2=>?_)
 refine jsk (jx (jq (jb (jq (jr (jm Z (jm Z (js (jix U22 Z3 d0 Z Z Z (by omega)) (js (jlI (dix d0 j (by omega)) O3 Z) (jm Z (js (Ao Z Z) ?_)))))))))))
 refine jn (jx ?_)
 refine jif Z (fun hc3=>?_) (fun hc3=>?_)
 refine jq (jr (jm Z (jm Z (Gk U22 I3 (by decide) Z Z k0 Z (wI (wp (IntWalk.i64_in _ (by omega)))) (by omega) (fun _=>Z) fun v39 _ w5=>ja Z (jn (jx (jex (jbo (jtx (jtx ?_))))))))))
 refine jbh (jbn (jx (jr (jm Z (js (Al Z Z (by omega)) (ja Z (jn ?_)))))))
 exact jag (k+1,v39,lo++[((k:Nat):Int)]) ⟨by dsimp only;omega,by dsimp only;rw[Hr,SQ (k:=j) (by omega) (by simpa using hc3),hlo];simp⟩ (dc d1 dn) (kd kn) ⟨Z,Z,Z,Z,eqI (by omega),trivial⟩
 refine jsk (jbn (jx (jr (jm Z (js (Al Z Z (by omega)) (ja Z (jn ?_)))))))
 exact jag (j+1) ⟨by omega,LA (by omega) hno (by simpa using hc3)⟩ (dc d0 (dc d1 dn)) (kd kn) ⟨Z,Z,Z,Z,Z,Z,eqI (by omega),trivial⟩
 refine jex (jtx (jtx (jbh (jbn (jx (jr (jm Z (js (Al Z Z (by omega)) (ja Z (jn ?_))))))))))
 exact jag (k+1,vo,lo) ⟨by dsimp only;omega,by dsimp only;rw[Hr,LB (l:=(ix f.Blocks k).Term.To) (by have h9:=hno;rw[List.take_of_length_le (by omega)] at h9;exact h9),hlo];simp⟩ (dc d1 dn) (kd kn) ⟨Z,Z,Z,Z,eqI (by omega),trivial⟩
 refine jex (jtx (jtx (jbh (jx (jq (jr (jm Z (ja Z (jn (jx (jrt ?_)))))))))))
 exact jrG Z Z (by have e9:k=f.Blocks.length:=(by omega);subst e9;exact hlo.symm) k0
theorem Tj{a0:Value}{f:D.Func}(without:Int):Tg Tryz.prog 65 #[vFunc f a0,.int .i64 without] [da Aj (vFunc f a0) f] [] rB 4 (Dh f without):=by
 refine Az (args:=[vFunc f a0,.int .i64 without]) Tryz.func65 rfl rfl rfl fun w0 X=>?_
 refine jq (jr (Cm Z Z fun g2=>ja Z (jn (jx (jq (jr (js (jf Bu Z) (js (jl k0 O47 Z Z) (jdq (Aj.cB d0) fun q1 w1=>js (jln U47 (Aj.cB d0) Z) ?_)))))))))
 refine jmk (m:=(List.length f.Blocks)) (r:=rB) Ex I4 Z Z Z Z Z (by omega) wB Z fun g13=>ja Z (jn (jx (jq (jr (Bg (r:=(rI .i64)) (l:=[]) U22 I3 (by decide) Z Z Z ln fun g14=>ja Z (jn (jx (jq (jq ?_)))))))))
 refine jr (jm Z (js (Ga Z Z) (jm Z (jg Z Z (.t _) (fun hg=>jf Bu Z) (jg Z Z (.t _) (fun hg=>jl k2 O47 (evg Z hg) Z) (jg Z Z (.t _) (fun hg=>jln U47 (Aj.cB d0) (evg Z hg)) (jg Z Z (.t _) (fun hg=>Ee (evg Z hg) Z) (js (Cf Z Z) (jn (jx ?_))))))))))
 refine jif Z (fun hc1=>?_) (fun hc1=>?_)
 refine jq (jr (jm Z (js (jig (i:=0) Ex Z4 k1 Z Z Z (by rw[U8];omega)) (jsg k1 Z Z4 Z Z Z (by rw[U8];omega) wB (jn (jx (jr (jm Z (OM U22 I3 (by decide) Z Z k1 Z (wI (wl 0)) (fun _=>Z) fun v27 _ w2=>ja Z (jn ?_))))))))))
 refine jx (jq (jq (jr (ja Z (jn (jx (jb ?_)))))))
 refine jlp (u4 fun(i:Nat) (se:List Bool) (l:List Int) (vl:Value)=>⟨Dh f without=b3 f.Blocks without (f.Blocks.length-i) se l i∧Fu se+l.length≤f.Blocks.length∧i≤l.length∧se.length=f.Blocks.length∧(∀x∈l,0≤x∧x<f.Blocks.length),[da Aj (vFunc f a0) f],[gl X.n (rI .i64) 3 vl l,gl X.n rB 4 (.slice (some ⟨g13,0,none⟩) (List.length f.Blocks) (List.length f.Blocks)) se,bx g2 49 [.int .i64 f.Params,a0]],[(1,.int .i64 without),(2,.pointer (some ⟨g2,0,none⟩)),(4,.slice none 0 0),(5,(.slice (some ⟨g13,0,none⟩) (List.length f.Blocks) (List.length f.Blocks))),(6,vl),(7,.int .i64 (↑i))],f.Blocks.length-i⟩) (0,List.set (List.replicate (List.length f.Blocks) false) 0 true,[0],v27) ⟨by first|(unfold Dh;rw[if_pos (by omega)];rfl)|(unfold Dh;rw[if_neg (by omega)];exact CM.symm),by dsimp only;first|(rw[Ro];simp;done)|(have h9:=Nz (l:=List.replicate f.Blocks.length false) (i:=0) (by simp;omega) (Jh _ _);rw[Ro] at h9;simp only[List.length_cons,List.length_nil];omega),by simp,by simp,by first|(simp;done)|(simp;omega)⟩ (dc d0 dn) (kd (kc k0 kn)) ⟨Z,Z,Z,Z,Z,eqI (by omega),trivial⟩ ?_
 rintro⟨i,se,l,vl⟩;dsimp only[u4];rintro⟨hb,hcn,hil,hse,hq⟩
 refine cgo k0 fun w3=>jq (jq (jr (jm Z (jm Z (js (jlg U22 k0 Z) (js (Ar Z Z) (jn (jx ?_))))))))
 refine jif Z (fun hc2=>?_) (fun hc2=>?_)
 have hqi:=hq _ (Ax (l:=l) (i:=i) (by omega))
 refine jsk (jx (jq (jb (jq (Gh Bi (by kernel_rfl) (jt (jf Bu Z) (jt (jl k2 O47 Z Z) (jt (jmv Z) (jt (jmv Z) (jt (jig U22 Z3 k0 Z Z Z (by omega)) (jt (jgI k0 (by omega) O3 Z) ?_)))))))))))
 refine jt (jix (i:=(Int.toNat (ix l i))) U47 Z62 (Aj.cB d0) Z Z (by omega) (by omega)) (jt (jf Eh Z) (jt (jf Ei Z) (jtv (jlV (Bf.A_To (Af.A_Term (dix (Aj.cB d0) (Int.toNat (ix l i)) (by omega)))) O22 Z Z) fun v43 q4 w4=>jt (jas Z) (jdn (jx (jq (jr (ja Z (jn (jx ?_))))))))))
 refine jb ?_
 refine jlp (u4 fun(j:Nat) (se2:List Bool) (l2:List Int) (vl2:Value)=>⟨j≤(ix f.Blocks (Int.toNat (ix l i))).Term.To.length∧Dc without se2 l2 ((ix f.Blocks (Int.toNat (ix l i))).Term.To.drop j)=Dc without se l (ix f.Blocks (Int.toNat (ix l i))).Term.To∧Fu se2+l2.length≤f.Blocks.length∧se2.length=f.Blocks.length∧(∀x∈l2,0≤x∧x<f.Blocks.length)∧i<l2.length,[dv (rL (rI .i64)) v43 (((ix f.Blocks (Int.toNat (ix l i))).Term).To),da Aj (vFunc f a0) f],[gl X.n (rI .i64) 3 vl2 l2,gl X.n rB 4 (.slice (some ⟨g13,0,none⟩) (List.length f.Blocks) (List.length f.Blocks)) se2,bx g2 49 [.int .i64 f.Params,a0]],[(1,.int .i64 without),(2,.pointer (some ⟨g2,0,none⟩)),(4,.slice none 0 0),(5,(.slice (some ⟨g13,0,none⟩) (List.length f.Blocks) (List.length f.Blocks))),(6,vl2),(7,.int .i64 (↑i)),(8,v43),(9,.int .i64 (↑j))],(ix f.Blocks (Int.toNat (ix l i))).Term.To.length-j⟩) (0,se,l,vl) ⟨Nat.zero_le _,rfl,hcn,hse,hq,by dsimp only;omega⟩ (dc d0 (dc d1 dn)) (kd (kc k0 kn)) ⟨Z,Z,Z,Z,Z,Z,Z,eqI (by omega),trivial⟩ ?_
 rintro⟨j,se2,l2,vl2⟩;dsimp only[u4];rintro⟨hj,hIn,hcn2,hse2,hq2,hi2⟩
 refine cgo k0 fun w6=>jq (jq (jr (jm Z (jm Z (js (jln U22 d0 Z) (js (Ar Z Z) (jn (jx ?_))))))))
 refine jif Z (fun hc3=>?_) (fun hc3=>?_)
 refine jsk (jx (jq (jb (jq (jr (jm Z (jm Z (js (jix U22 Z3 d0 Z Z Z (by omega)) (js (jlI (dix d0 j (by omega)) O3 Z) (js (Gj Z Z) (jm Z ?_)))))))))))
 refine jg Z Z (.t _) (fun hg=>jmv Z) (jg Z Z (.t _) (fun hg=>jmv Z) (jg Z Z (.t _) (fun hg=>jix U22 Z3 d0 (evg Z hg) (evg Z hg) Z (by first|omega|(simp at hg;omega)|(simp only[List.length_set];omega)|(simp;done))) (jg Z Z (.t _) (fun hg=>jlI (dix d0 j (by first|omega|(simp at hg;omega)|(simp only[List.length_set];omega)|(simp;done))) O3 (evg Z hg)) (jg Z Z (.t _) (fun hg=>jmv Z) (jg Z Z (.t _) (fun hg=>jlg Ex k1 (evg Z hg)) (jg Z Z (.t _) (fun hg=>Ar (evg Z hg) (evg Z hg)) (js (Cf Z Z) (jm Z (jg Z Z (.t _) (fun hg=>jmv Z) (jg Z Z (.t _) (fun hg=>jmv Z) (jg Z Z (.t _) (fun hg=>jmv Z) ?_)))))))))))
 refine jg Z Z (.t _) (fun hg=>jix U22 Z3 d0 (evg Z hg) (evg Z hg) Z (by first|omega|(simp at hg;omega)|(simp only[List.length_set];omega)|(simp;done))) (jg Z Z (.t _) (fun hg=>jlI (dix d0 j (by first|omega|(simp at hg;omega)|(simp only[List.length_set];omega)|(simp;done))) O3 (evg Z hg)) (jg Z Z (.t _) (fun hg=>jig (i:=(Int.toNat (ix (((ix f.Blocks (Int.toNat (ix l i))).Term).To) j))) Ex Z4 k1 (evg Z hg) (evg Z hg) (by first|omega|(simp at hg;omega)) (by first|omega|(simp at hg;omega)|(simp only[List.length_set];omega)|(simp;done))) (jg Z Z (.t _) (fun hg=>jgB k1 (by first|omega|(simp at hg;omega)|(simp only[List.length_set];omega)|(simp;done)) O4 (evg Z hg)) (jg Z Z (.t _) (fun hg=>Dq (evg Z hg)) (js (Cf Z Z) (jm Z (jg Z Z (.t _) (fun hg=>jmv Z) (jg Z Z (.t _) (fun hg=>jmv Z) (jg Z Z (.t _) (fun hg=>jix U22 Z3 d0 (evg Z hg) (evg Z hg) Z (by first|omega|(simp at hg;omega)|(simp only[List.length_set];omega)|(simp;done))) (jg Z Z (.t _) (fun hg=>jlI (dix d0 j (by first|omega|(simp at hg;omega)|(simp only[List.length_set];omega)|(simp;done))) O3 (evg Z hg)) (jg Z Z (.t _) (fun hg=>jmv Z) ?_)))))))))))
 refine jg Z Z (.t _) (fun hg=>Ga (evg Z hg) (evg Z hg)) (js (Cf Z Z) (jn (jx ?_)))
 refine jif Z (fun hc4=>?_) (fun hc4=>?_)
 have hcx:((0≤ix (ix f.Blocks (Int.toNat (ix l i))).Term.To j∧ix (ix f.Blocks (Int.toNat (ix l i))).Term.To j<se2.length)∧ix se2 (Int.toNat (ix (ix f.Blocks (Int.toNat (ix l i))).Term.To j))=false∧ix (ix f.Blocks (Int.toNat (ix l i))).Term.To j≠without):=by simpa[and_assoc] using hc4
 refine jq (jr (jm Z (jm Z (jm Z (js (jix U22 Z3 d0 Z Z Z (by omega)) (js (jlI (dix d0 j (by omega)) O3 Z) (js (jig (i:=(Int.toNat (ix (((ix f.Blocks (Int.toNat (ix l i))).Term).To) j))) Ex Z4 k1 Z Z (by omega) (by omega)) (jsg k1 Z Z4 Z Z Z (by omega) wB (jn (jx (jr ?_)))))))))))
 refine jm Z (jm Z (jm Z (js (jix U22 Z3 d0 Z Z Z (by omega)) (js (jlI (dix d0 j (by omega)) O3 Z) (Gk U22 I3 (by decide) Z Z k1 Z (wI (wad (dix d0 j (by omega)))) (by omega) (fun _=>Z) fun v94 _ w7=>ja Z (jn (jbn (jx (jr (jm Z ?_))))))))))
 refine js (Al Z Z (by omega)) (ja Z (jn ?_))
 exact jag (j+1,List.set se2 (Int.toNat (ix (((ix f.Blocks (Int.toNat (ix l i))).Term).To) j)) true,l2++[ix (((ix f.Blocks (Int.toNat (ix l i))).Term).To) j],v94) ⟨by dsimp only;omega,CR (by omega) hIn hcx,by dsimp only;have h9:=Nz (l:=se2) (i:=Int.toNat (ix (ix f.Blocks (Int.toNat (ix l i))).Term.To j)) (by omega) hcx.2.1;rw[List.length_append];simp;omega,by dsimp only;rw[List.length_set];exact hse2,by dsimp only;intro x hx9;rcases List.mem_append.1 hx9 with h9|h9;(· exact hq2 x h9);(simp at h9;subst h9;omega),by dsimp only;rw[List.length_append];omega⟩ (dc d0 (dc d1 dn)) (kd (kc k0 kn)) ⟨Z,Z,Z,Z,Z,Z,Z,eqI (by omega),trivial⟩
 have hcx:¬((0≤ix (ix f.Blocks (Int.toNat (ix l i))).Term.To j∧ix (ix f.Blocks (Int.toNat (ix l i))).Term.To j<se2.length)∧ix se2 (Int.toNat (ix (ix f.Blocks (Int.toNat (ix l i))).Term.To j))=false∧ix (ix f.Blocks (Int.toNat (ix l i))).Term.To j≠without):=by rintro⟨⟨a1,a2⟩,a3,a4⟩;simp[a3,a4] at hc4;omega
 refine jsk (jbn (jx (jr (jm Z (js (Al Z Z (by omega)) (ja Z (jn ?_)))))))
 exact jag (j+1,se2,l2,vl2) ⟨by dsimp only;omega,CQ (by omega) hIn hcx,hcn2,hse2,hq2,hi2⟩ (dc d0 (dc d1 dn)) (kd (kc k0 kn)) ⟨Z,Z,Z,Z,Z,Z,Z,eqI (by omega),trivial⟩
 refine jex (jtx (jtx (jbh (jbn (jx (jr (jm Z (js (Al Z Z (by omega)) (ja Z (jn ?_))))))))))
 exact jag (i+1,se2,l2,vl2) ⟨by dsimp only;rw[hb,CK (by omega) (by omega) (show Dc _ _ _ _=(se2,l2) by rw[←hIn,List.drop_of_length_le (by omega)];rfl),show f.Blocks.length-i-1=f.Blocks.length-(i+1) by omega],by dsimp only;omega,by dsimp only;omega,hse2,hq2⟩ (dc d1 dn) (kd (kc k0 kn)) ⟨Z,Z,Z,Z,Z,eqI (by omega),trivial⟩
 refine jex (jtx (jtx (jbh (jx (jq (jr (jm Z (ja Z (jn (jx (jrt ?_)))))))))))
 exact jrG Z Z (by rw[hb];exact Zd (by omega)) k1
 refine jsk (jx (jq (jq (jr (ja Z (jn (jx (jb ?_))))))))
 refine jlp (u4 fun(i:Nat) (se:List Bool) (l:List Int) (vl:Value)=>⟨Dh f without=b3 f.Blocks without (f.Blocks.length-i) se l i∧Fu se+l.length≤f.Blocks.length∧i≤l.length∧se.length=f.Blocks.length∧(∀x∈l,0≤x∧x<f.Blocks.length),[da Aj (vFunc f a0) f],[gl X.n (rI .i64) 3 vl l,gl X.n rB 4 (.slice (some ⟨g13,0,none⟩) (List.length f.Blocks) (List.length f.Blocks)) se,bx g2 49 [.int .i64 f.Params,a0]],[(1,.int .i64 without),(2,.pointer (some ⟨g2,0,none⟩)),(4,.slice none 0 0),(5,(.slice (some ⟨g13,0,none⟩) (List.length f.Blocks) (List.length f.Blocks))),(6,vl),(7,.int .i64 (↑i))],f.Blocks.length-i⟩) (0,List.replicate (List.length f.Blocks) false,[],(.slice (some ⟨g14,0,none⟩) 0 0)) ⟨by first|(unfold Dh;rw[if_pos (by omega)];rfl)|(unfold Dh;rw[if_neg (by omega)];exact CM.symm),by dsimp only;first|(rw[Ro];simp;done)|(have h9:=Nz (l:=List.replicate f.Blocks.length false) (i:=0) (by simp;omega) (Jh _ _);rw[Ro] at h9;simp only[List.length_cons,List.length_nil];omega),by simp,by simp,by first|(simp;done)|(simp;omega)⟩ (dc d0 dn) (kd (kc k0 kn)) ⟨Z,Z,Z,Z,Z,eqI (by omega),trivial⟩ ?_
 rintro⟨i,se,l,vl⟩;dsimp only[u4];rintro⟨hb,hcn,hil,hse,hq⟩
 refine cgo k0 fun w8=>jq (jq (jr (jm Z (jm Z (js (jlg U22 k0 Z) (js (Ar Z Z) (jn (jx ?_))))))))
 refine jif Z (fun hc5=>?_) (fun hc5=>?_)
 have hqi:=hq _ (Ax (l:=l) (i:=i) (by omega))
 refine jsk (jx (jq (jb (jq (Gh Bi (by kernel_rfl) (jt (jf Bu Z) (jt (jl k2 O47 Z Z) (jt (jmv Z) (jt (jmv Z) (jt (jig U22 Z3 k0 Z Z Z (by omega)) (jt (jgI k0 (by omega) O3 Z) ?_)))))))))))
 refine jt (jix (i:=(Int.toNat (ix l i))) U47 Z62 (Aj.cB d0) Z Z (by omega) (by omega)) (jt (jf Eh Z) (jt (jf Ei Z) (jtv (jlV (Bf.A_To (Af.A_Term (dix (Aj.cB d0) (Int.toNat (ix l i)) (by omega)))) O22 Z Z) fun v43_9 q10 w10=>jt (jas Z) (jdn (jx (jq (jr (ja Z (jn (jx ?_))))))))))
 refine jb ?_
 refine jlp (u4 fun(j:Nat) (se2:List Bool) (l2:List Int) (vl2:Value)=>⟨j≤(ix f.Blocks (Int.toNat (ix l i))).Term.To.length∧Dc without se2 l2 ((ix f.Blocks (Int.toNat (ix l i))).Term.To.drop j)=Dc without se l (ix f.Blocks (Int.toNat (ix l i))).Term.To∧Fu se2+l2.length≤f.Blocks.length∧se2.length=f.Blocks.length∧(∀x∈l2,0≤x∧x<f.Blocks.length)∧i<l2.length,[dv (rL (rI .i64)) v43_9 (((ix f.Blocks (Int.toNat (ix l i))).Term).To),da Aj (vFunc f a0) f],[gl X.n (rI .i64) 3 vl2 l2,gl X.n rB 4 (.slice (some ⟨g13,0,none⟩) (List.length f.Blocks) (List.length f.Blocks)) se2,bx g2 49 [.int .i64 f.Params,a0]],[(1,.int .i64 without),(2,.pointer (some ⟨g2,0,none⟩)),(4,.slice none 0 0),(5,(.slice (some ⟨g13,0,none⟩) (List.length f.Blocks) (List.length f.Blocks))),(6,vl2),(7,.int .i64 (↑i)),(8,v43_9),(9,.int .i64 (↑j))],(ix f.Blocks (Int.toNat (ix l i))).Term.To.length-j⟩) (0,se,l,vl) ⟨Nat.zero_le _,rfl,hcn,hse,hq,by dsimp only;omega⟩ (dc d0 (dc d1 dn)) (kd (kc k0 kn)) ⟨Z,Z,Z,Z,Z,Z,Z,eqI (by omega),trivial⟩ ?_
 rintro⟨j,se2,l2,vl2⟩;dsimp only[u4];rintro⟨hj,hIn,hcn2,hse2,hq2,hi2⟩
 refine cgo k0 fun w12=>jq (jq (jr (jm Z (jm Z (js (jln U22 d0 Z) (js (Ar Z Z) (jn (jx ?_))))))))
 refine jif Z (fun hc6=>?_) (fun hc6=>?_)
 refine jsk (jx (jq (jb (jq (jr (jm Z (jm Z (js (jix U22 Z3 d0 Z Z Z (by omega)) (js (jlI (dix d0 j (by omega)) O3 Z) (js (Gj Z Z) (jm Z ?_)))))))))))
 refine jg Z Z (.t _) (fun hg=>jmv Z) (jg Z Z (.t _) (fun hg=>jmv Z) (jg Z Z (.t _) (fun hg=>jix U22 Z3 d0 (evg Z hg) (evg Z hg) Z (by first|omega|(simp at hg;omega)|(simp only[List.length_set];omega)|(simp;done))) (jg Z Z (.t _) (fun hg=>jlI (dix d0 j (by first|omega|(simp at hg;omega)|(simp only[List.length_set];omega)|(simp;done))) O3 (evg Z hg)) (jg Z Z (.t _) (fun hg=>jmv Z) (jg Z Z (.t _) (fun hg=>jlg Ex k1 (evg Z hg)) (jg Z Z (.t _) (fun hg=>Ar (evg Z hg) (evg Z hg)) (js (Cf Z Z) (jm Z (jg Z Z (.t _) (fun hg=>jmv Z) (jg Z Z (.t _) (fun hg=>jmv Z) (jg Z Z (.t _) (fun hg=>jmv Z) ?_)))))))))))
 refine jg Z Z (.t _) (fun hg=>jix U22 Z3 d0 (evg Z hg) (evg Z hg) Z (by first|omega|(simp at hg;omega)|(simp only[List.length_set];omega)|(simp;done))) (jg Z Z (.t _) (fun hg=>jlI (dix d0 j (by first|omega|(simp at hg;omega)|(simp only[List.length_set];omega)|(simp;done))) O3 (evg Z hg)) (jg Z Z (.t _) (fun hg=>jig (i:=(Int.toNat (ix (((ix f.Blocks (Int.toNat (ix l i))).Term).To) j))) Ex Z4 k1 (evg Z hg) (evg Z hg) (by first|omega|(simp at hg;omega)) (by first|omega|(simp at hg;omega)|(simp only[List.length_set];omega)|(simp;done))) (jg Z Z (.t _) (fun hg=>jgB k1 (by first|omega|(simp at hg;omega)|(simp only[List.length_set];omega)|(simp;done)) O4 (evg Z hg)) (jg Z Z (.t _) (fun hg=>Dq (evg Z hg)) (js (Cf Z Z) (jm Z (jg Z Z (.t _) (fun hg=>jmv Z) (jg Z Z (.t _) (fun hg=>jmv Z) (jg Z Z (.t _) (fun hg=>jix U22 Z3 d0 (evg Z hg) (evg Z hg) Z (by first|omega|(simp at hg;omega)|(simp only[List.length_set];omega)|(simp;done))) (jg Z Z (.t _) (fun hg=>jlI (dix d0 j (by first|omega|(simp at hg;omega)|(simp only[List.length_set];omega)|(simp;done))) O3 (evg Z hg)) (jg Z Z (.t _) (fun hg=>jmv Z) ?_)))))))))))
 refine jg Z Z (.t _) (fun hg=>Ga (evg Z hg) (evg Z hg)) (js (Cf Z Z) (jn (jx ?_)))
 refine jif Z (fun hc7=>?_) (fun hc7=>?_)
 have hcx:((0≤ix (ix f.Blocks (Int.toNat (ix l i))).Term.To j∧ix (ix f.Blocks (Int.toNat (ix l i))).Term.To j<se2.length)∧ix se2 (Int.toNat (ix (ix f.Blocks (Int.toNat (ix l i))).Term.To j))=false∧ix (ix f.Blocks (Int.toNat (ix l i))).Term.To j≠without):=by simpa[and_assoc] using hc7
 refine jq (jr (jm Z (jm Z (jm Z (js (jix U22 Z3 d0 Z Z Z (by omega)) (js (jlI (dix d0 j (by omega)) O3 Z) (js (jig (i:=(Int.toNat (ix (((ix f.Blocks (Int.toNat (ix l i))).Term).To) j))) Ex Z4 k1 Z Z (by omega) (by omega)) (jsg k1 Z Z4 Z Z Z (by omega) wB (jn (jx (jr ?_)))))))))))
 refine jm Z (jm Z (jm Z (js (jix U22 Z3 d0 Z Z Z (by omega)) (js (jlI (dix d0 j (by omega)) O3 Z) (Gk U22 I3 (by decide) Z Z k1 Z (wI (wad (dix d0 j (by omega)))) (by omega) (fun _=>Z) fun v94_13 _ w14=>ja Z (jn (jbn (jx (jr (jm Z ?_))))))))))
 refine js (Al Z Z (by omega)) (ja Z (jn ?_))
 exact jag (j+1,List.set se2 (Int.toNat (ix (((ix f.Blocks (Int.toNat (ix l i))).Term).To) j)) true,l2++[ix (((ix f.Blocks (Int.toNat (ix l i))).Term).To) j],v94_13) ⟨by dsimp only;omega,CR (by omega) hIn hcx,by dsimp only;have h9:=Nz (l:=se2) (i:=Int.toNat (ix (ix f.Blocks (Int.toNat (ix l i))).Term.To j)) (by omega) hcx.2.1;rw[List.length_append];simp;omega,by dsimp only;rw[List.length_set];exact hse2,by dsimp only;intro x hx9;rcases List.mem_append.1 hx9 with h9|h9;(· exact hq2 x h9);(simp at h9;subst h9;omega),by dsimp only;rw[List.length_append];omega⟩ (dc d0 (dc d1 dn)) (kd (kc k0 kn)) ⟨Z,Z,Z,Z,Z,Z,Z,eqI (by omega),trivial⟩
 have hcx:¬((0≤ix (ix f.Blocks (Int.toNat (ix l i))).Term.To j∧ix (ix f.Blocks (Int.toNat (ix l i))).Term.To j<se2.length)∧ix se2 (Int.toNat (ix (ix f.Blocks (Int.toNat (ix l i))).Term.To j))=false∧ix (ix f.Blocks (Int.toNat (ix l i))).Term.To j≠without):=by rintro⟨⟨a1,a2⟩,a3,a4⟩;simp[a3,a4] at hc7;omega
 refine jsk (jbn (jx (jr (jm Z (js (Al Z Z (by omega)) (ja Z (jn ?_)))))))
 exact jag (j+1,se2,l2,vl2) ⟨by dsimp only;omega,CQ (by omega) hIn hcx,hcn2,hse2,hq2,hi2⟩ (dc d0 (dc d1 dn)) (kd (kc k0 kn)) ⟨Z,Z,Z,Z,Z,Z,Z,eqI (by omega),trivial⟩
 refine jex (jtx (jtx (jbh (jbn (jx (jr (jm Z (js (Al Z Z (by omega)) (ja Z (jn ?_))))))))))
 exact jag (i+1,se2,l2,vl2) ⟨by dsimp only;rw[hb,CK (by omega) (by omega) (show Dc _ _ _ _=(se2,l2) by rw[←hIn,List.drop_of_length_le (by omega)];rfl),show f.Blocks.length-i-1=f.Blocks.length-(i+1) by omega],by dsimp only;omega,by dsimp only;omega,hse2,hq2⟩ (dc d1 dn) (kd (kc k0 kn)) ⟨Z,Z,Z,Z,Z,eqI (by omega),trivial⟩
 refine jex (jtx (jtx (jbh (jx (jq (jr (jm Z (ja Z (jn (jx (jrt ?_)))))))))))
 exact jrG Z Z (by rw[hb];exact Zd (by omega)) k1
abbrev Ek:=@Tryz.underlying167
theorem Se:Ag9 Tryz.prog 170:=⟨_,Tryz.underlying170,rfl⟩
theorem A62:Ag9 Tryz.prog 62:=⟨_,Tryz.underlying62,rfl⟩
theorem Vn:Fld Tryz.prog 170 3 3:=⟨_,_,Tryz.underlying170,rfl,rfl,1,(by unfold Sz;kernel_rfl),by decide⟩
theorem Dy:Fld Tryz.prog 62 0 0:=⟨_,_,Tryz.underlying62,rfl,rfl,1,(by unfold Sz;kernel_rfl),by decide⟩
theorem Hi:Fld Tryz.prog 67 3 3:=⟨_,_,Tryz.underlying67,rfl,rfl,1,(by unfold Sz;kernel_rfl),by decide⟩
theorem Qc:(Tryz.prog.info? 170).map (fun i=>(i.zero,i.size,i.bytes))=some (some (.agg #[.int .i64 0,.int .i64 0,.slice none 0 0,.slice none 0 0]),4,64):=by kernel_rfl
theorem Er:Sz Tryz.prog 170 4:=by unfold Sz;kernel_rfl
theorem Vj:(Tryz.prog.info? 170).bind (·.zero)=some (.agg #[.int .i64 0,.int .i64 0,.slice none 0 0,.slice none 0 0]):=by kernel_rfl
theorem J62:(Tryz.prog.info? 62).bind (·.zero)=some (.agg #[.slice none 0 0,.slice none 0 0,.int .i64 0,.slice none 0 0,.slice none 0 0,.int .i32 0]):=by kernel_rfl
theorem Ti{a0:Value}{f:D.Func}(hsz:Bw f.Blocks<1000000000):Td Tryz.prog 105 #[vFunc f a0] [da Aj (vFunc f a0) f] [] (rL Be) (Ad f):=by
 refine Az (args:=[vFunc f a0]) Tryz.func105 rfl rfl rfl fun w0 X=>?_
 have htl:=Si f
 refine jq (jr (Cm Z Z fun g1=>ja Z (jn (jx (jq (jr (Bg (r:=Be) (l:=[]) Ek Qc (by decide) Z Z Z ln fun g10=>ja Z (jn (jx ?_)))))))))
 refine jq (jq (jr (ja Z (jn (jx (jb ?_))))))
 refine jlp (u3 fun(k:Nat) (vo:Value) (out:List D.Tg3)=>⟨k≤f.Blocks.length∧Ad f=out++blL k (f.Blocks.drop k),[da Aj (vFunc f a0) f],[gl X.n Be 170 vo out,bx g1 49 [.int .i64 f.Params,a0]],[(1,.pointer (some ⟨g1,0,none⟩)),(2,.slice none 0 0),(3,vo),(4,.int .i64 (↑k))],f.Blocks.length-k⟩) (0,(.slice (some ⟨g10,0,none⟩) 0 0),[]) ⟨Nat.zero_le _,rfl⟩ (dc d0 dn) (kd kn) ⟨Z,Z,Z,eqI (by omega),trivial⟩ ?_
 rintro⟨k,vo,out⟩;dsimp only[u3];rintro⟨hk,hB⟩
 refine cgo k0 fun w1=>?_
 have hpl1:=Xj hB
 refine jq (jq (jr (jm Z (js (jf Bu Z) (js (jl k1 O47 Z Z) (jdq (Aj.cB d0) fun q2 w2=>js (jln U47 (Aj.cB d0) Z) (js (Ar Z Z) (jn (jx ?_)))))))))
 refine jif Z (fun hc1=>?_) (fun hc1=>?_)
 refine jsk (jx (jq (jb (jq (jr (js (jf Bu Z) (js (jl k1 O47 Z Z) (jm Z (js (jix U47 Z62 (Aj.cB d0) Z Z Z (by omega)) (jA4 Le (jlA (dix (Aj.cB d0) k (by omega)) A62 Z62 Z) fun c22a c22b c22c c22d=>Bo J62 Z fun g5=>?_))))))))))
 refine jdq (Af.cP d0) fun q4 w4=>jdq (Af.cI d0) fun q5 w5=>jdq (Af.c_Term_Args d0) fun q6 w6=>jdq (Af.c_Term_To d0) fun q7 w7=>Bk k0 Z62 Z Z Z ⟨w4.one,w5.one,Z,w6.one,w7.one,Z,trivial⟩ (saf Z) (jn (jx (jq (jq (jr (ja Z (jn ?_)))))))
 refine jx (jb ?_)
 refine jlp (u3 fun(i:Nat) (vp:Value) (out2:List D.Tg3)=>⟨i≤(ix f.Blocks k).Phis.length∧Ad f=out2++(phL k i ((ix f.Blocks k).Phis.drop i)++(inL k 0 (ix f.Blocks k).Ins++(enT k (ix f.Blocks k)::blL (k+1) (f.Blocks.drop (k+1))))),[da Af (vBlock (ix f.Blocks k) (c22a,c22b,c22c,c22d)) (ix f.Blocks k),da Aj (vFunc f a0) f],[bx g5 62 [c22a,c22b,.int .i64 (((ix f.Blocks k).Term).Kind),c22c,c22d,.int .i32 (((ix f.Blocks k).Term).Imm)],gl X.n Be 170 vp out2,bx g1 49 [.int .i64 f.Params,a0]],[(1,.pointer (some ⟨g1,0,none⟩)),(2,.slice none 0 0),(3,vp),(4,.int .i64 (↑k)),(5,.pointer (some ⟨g5,0,none⟩)),(6,.int .i64 (↑i))],(ix f.Blocks k).Phis.length-i⟩) (0,vo,out) ⟨Nat.zero_le _,SK (by omega) hB⟩ (dc d0 (dc d1 dn)) (kd (kc k0 kn)) ⟨Z,Z,Z,Z,Z,eqI (by omega),trivial⟩ ?_
 rintro⟨i,vp,out2⟩;dsimp only[u3];rintro⟨hi,hP⟩
 refine cgo k1 fun w8=>?_
 have hpl2:=Xj hP
 refine jq (jq (jr (jm Z (js (jf Dy Z) (js (jl k0 O57 Z Z) (js (jln U57 (Af.cP d0) Z) (js (Ar Z Z) (jn (jx ?_)))))))))
 refine jif Z (fun hc2=>?_) (fun hc2=>?_)
 refine jsk (jx (jq (jb (jq (jr (jm Z (jm Z (js (Gw Z Z (by omega)) (js (jf Dy Z) (js (jl k0 O57 Z Z) (jm Z ?_)))))))))))
 refine js (jix U57 Z65 (Af.cP d0) Z Z Z (by omega)) (js (jf Rz Z) (js (jlI (Aw.A_Dst (dix (Af.cP d0) i (by omega))) O3 Z) (Bg (r:=(rI .i64)) (l:=[(ix ((ix f.Blocks k).Phis) i).Dst]) U22 I3 (by decide) Z Z Z (lV Z Z (wI (wad (Aw.A_Dst (dix (Af.cP d0) i (by omega))))) ln) fun g39=>js (jbu (v := .agg #[.int .i64 (↑k),.int .i64 ((-1)-↑i),(.slice (some ⟨g39,0,none⟩) 1 1),.slice none 0 0]) Z (fun _=>by kernel_rfl)) (Bo Vj Z fun g7=>Bk k0 Er Z Z Z ⟨Z,Z,Z,Z,trivial⟩ (saf Z) (jn (jx (jq (jq (jr ?_)))))))))
 refine ja Z (jn (jx (jb (cnl (r:=(rI .i64)) (E:=3) ?_))))
 refine jlp (u3 fun(j:Nat) (ea:List Int) (ve:Value)=>⟨j≤(ix (ix f.Blocks k).Phis i).In.length∧ea=((ix (ix f.Blocks k).Phis i).In.take j).map (·.Val),[da Af (vBlock (ix f.Blocks k) (c22a,c22b,c22c,c22d)) (ix f.Blocks k),da Aj (vFunc f a0) f],[gl X.n (rI .i64) 3 ve ea,bx g7 170 [.int .i64 (↑k),.int .i64 ((-1)-↑i),(.slice (some ⟨g39,0,none⟩) 1 1),ve],gl X.n (rI .i64) 3 (.slice (some ⟨g39,0,none⟩) 1 1) ([(ix ((ix f.Blocks k).Phis) i).Dst]),bx g5 62 [c22a,c22b,.int .i64 (((ix f.Blocks k).Term).Kind),c22c,c22d,.int .i32 (((ix f.Blocks k).Term).Imm)],gl X.n Be 170 vp out2,bx g1 49 [.int .i64 f.Params,a0]],[(1,.pointer (some ⟨g1,0,none⟩)),(2,.slice none 0 0),(3,vp),(4,.int .i64 (↑k)),(5,.pointer (some ⟨g5,0,none⟩)),(6,.int .i64 (↑i)),(7,.pointer (some ⟨g7,0,none⟩)),(8,.int .i64 (↑j))],(ix (ix f.Blocks k).Phis i).In.length-j⟩) (0,[],.slice none 0 0) ⟨Nat.zero_le _,rfl⟩ (dc d0 (dc d1 dn)) (kd (kd (kd kn))) ⟨Z,Z,Z,Z,Z,Z,Z,eqI (by omega),trivial⟩ ?_
 rintro⟨j,ea,ve⟩;dsimp only[u3];rintro⟨hj,hea⟩
 refine cgo k0 fun w9=>?_
 have hel:ea.length=j:=by rw[hea];simp;omega
 refine jq (jq (jr (jm Z (js (jf Dy Z) (js (jl k3 O57 Z Z) (jm Z (js (jix U57 Z65 (Af.cP d0) Z Z Z (by omega)) (js (jf Fa Z) (jev (jlV (Aw.A_In (dix (Af.cP d0) i (by omega))) O63 Z Z) fun v47 q10 w10=>js (jln U63 d0 Z) (js (Ar Z Z) ?_))))))))))
 refine jn (jx ?_)
 refine jif Z (fun hc3=>?_) (fun hc3=>?_)
 refine jsk (jx (jq (jb (Bz true (.a 0 (.a 1 (.a 2 (.a 3 (.a 4 (.a 5 (.a 6 (.a 7 (.a 8 (.a 9 (.a 10 (.a 11 (.o 12 (.o 13 (.a 14 (.o 15 .e)))))))))))))))) Bi (by kernel_rfl) (kc k1 (kc k2 kn)) fun F12=>jy Z (jf Vn Z) (jy Z (jl k0 O22 Z Z) (jy Z (jf Dy Z) (jy Z (jl k1 O57 Z Z) (jy Z (jmv Z) (jy Z (jix U57 Z65 (Af.cP d1) Z Z Z (by omega)) (jy Z (jf Fa Z) ?_))))))))))
 refine jye (q:=fun v=>dv (rL rIn) v ((ix ((ix f.Blocks k).Phis) i).In)) Z (xlV (Aw.A_In (dix (Af.cP d1) i (by omega))) O63 Z Z) fun v59=>jy Z (jmv Z) (adq d0 fun q14 w14=>jy Z (jix U63 Hh d0 Z Z Z (by omega)) (jy Z (jf Qi Z) (jy Z (jlI (rIn.A_Val (dix d0 j (by omega))) O3 Z) (jyo Z (Bg (r:=(rI .i64)) (l:=[(ix ((ix ((ix f.Blocks k).Phis) i).In) j).Val]) U22 I3 (by decide) Z Z Z (lV Z Z (wI (wad (rIn.A_Val (dix d1 j (by omega))))) ln) fun g64=>jyn d0 (kc k2 (kc k3 kn)) (jyo Z (jfz k0 (by(try simp)<;>omega) (Dl U22 I3 (by decide) Z k0 Z Z d0 (by(try simp)<;>omega) fun v65 w18=>?_))))))))
 refine jyn d1 (kc k1 (kc k2 kn)) (jy Z (jf Vn Z) (jyo Z (jst k1 Z22 Z Z w18.one s3 (jyz d0 (jyd (jbn (jx (jr (jm Z (js (Al Z Z (by omega)) (ja Z ?_)))))))))))
 refine jn ?_
 exact jag (j+1,ea++([(ix ((ix ((ix f.Blocks k).Phis) i).In) j).Val]),v65) ⟨by dsimp only;omega,by dsimp only;rw[hea,U1 (by omega)]⟩ (dc d6 (dc d7 dn)) (kc k1 (kd (kd (kc k0 kn)))) ⟨Z,Z,Z,Z,Z,Z,Z,eqI (by omega),trivial⟩
 refine jex (jtx (jtx (jbh (jx (jr (jm Z (js (jla k1 Se Er Z Z Z) (jfz k2 (by(try simp)<;>omega) (jfz k0 (by omega) (jap Ek Qc (by decide) Z k2 Z (Be.M (m:=⟨↑k,(-1)-↑i,[(ix ((ix f.Blocks k).Phis) i).Dst],ea⟩) (c:=((.slice (some ⟨g39,0,none⟩) 1 1),ve)) d1 d0 (wp (IntWalk.i64_in ↑k (by omega))) (wp (IntWalk.i64_in ((-1)-↑i) (by omega)))) (by omega) (fun _=>Z) fun v70 _ w22=>ja Z ?_))))))))))
 refine jn (jbn (jx (jr (jm Z (js (Al Z Z (by omega)) (ja Z (jn ?_)))))))
 exact jag (i+1,v70,out2++[⟨((k:Nat):Int),(-1)-((i:Nat):Int),[(ix ((ix f.Blocks k).Phis) i).Dst],ea⟩]) ⟨by dsimp only;omega,by dsimp only;rw[show ea=(ix (ix f.Blocks k).Phis i).In.map (·.Val) by rw[hea,List.take_of_length_le (by omega)]];exact KC (by omega) hP⟩ (dc d3 (dc d4 dn)) (kc k2 (kc k0 (kc k1 kn))) ⟨Z,Z,Z,Z,Z,eqI (by omega),trivial⟩
 refine jex (jtx (jtx (jbh (jx (jq (jq (jr (ja Z (jn (jx (jb ?_)))))))))))
 refine jlp (u3 fun(j:Nat) (vq:Value) (out4:List D.Tg3)=>⟨j≤(ix f.Blocks k).Ins.length∧Ad f=out4++(inL k j ((ix f.Blocks k).Ins.drop j)++(enT k (ix f.Blocks k)::blL (k+1) (f.Blocks.drop (k+1)))),[da Af (vBlock (ix f.Blocks k) (c22a,c22b,c22c,c22d)) (ix f.Blocks k),da Aj (vFunc f a0) f],[bx g5 62 [c22a,c22b,.int .i64 (((ix f.Blocks k).Term).Kind),c22c,c22d,.int .i32 (((ix f.Blocks k).Term).Imm)],gl X.n Be 170 vq out4,bx g1 49 [.int .i64 f.Params,a0]],[(1,.pointer (some ⟨g1,0,none⟩)),(2,.slice none 0 0),(3,vq),(4,.int .i64 (↑k)),(5,.pointer (some ⟨g5,0,none⟩)),(9,.int .i64 (↑j))],(ix f.Blocks k).Ins.length-j⟩) (0,vp,out2) ⟨Nat.zero_le _,JZ (by omega) hP⟩ (dc d0 (dc d1 dn)) (kd (kc k0 kn)) ⟨Z,Z,Z,Z,Z,eqI (by omega),trivial⟩ ?_
 rintro⟨j,vq,out4⟩;dsimp only[u3];rintro⟨hj,hI⟩
 refine cgo k1 fun w23=>?_
 have hpl4:=Xj hI
 refine jq (jq (jr (jm Z (js (jf Cn Z) (js (jl k0 O58 Z Z) (js (jln U58 (Af.cI d0) Z) (js (Ar Z Z) (jn (jx ?_)))))))))
 refine jif Z (fun hc4=>?_) (fun hc4=>?_)
 refine jsk (jx (jq (jb (Bz false (.a 0 (.a 1 (.a 2 (.a 3 (.a 4 (.a 5 (.a 6 (.a 7 (.a 9 (.a 10 (.a 11 (.a 12 (.a 13 (.a 14 (.o 8 (.a 15 (.o 16 (.o 17 (.a 18 .e))))))))))))))))))) Bi (by kernel_rfl) (kc k0 kn) fun F24=>jy Z (jmv Z) (jy Z (jmv Z) (jy Z (jmv Z) (jy Z (jf Cn Z) (jy Z (jl k0 O58 Z Z) (jy Z (jmv Z) (jy Z (jix U58 Z67 (Af.cI d0) Z Z Z (by omega)) ?_))))))))))
 refine jyA Mb Z (xlA (dix (Af.cI d0) j (by omega)) A67 Z67 Z) fun c85=>jy Z (jf Cn Z) (jy Z (jl k0 O58 Z Z) (jy Z (jmv Z) (jy Z (jix U58 Z67 (Af.cI d1) Z Z Z (by omega)) (jy Z (jf Hi Z) (jye (q:=fun v=>dv (rL (rI .i64)) v ((ix ((ix f.Blocks k).Ins) j).Args)) Z (xlV (Am.A_Args (dix (Af.cI d1) j (by omega))) O22 Z Z) fun v92=>jyo Z (jcd E66 Z Z Tl (dc d2 dn) kn fun v86 q28 w28=>jyn d1 (kc k0 kn) (adq d2 fun q30 w30=>jy Z (jbu (v := .agg #[.int .i64 (↑k),.int .i64 (↑j),v86,v92]) Z (fun _=>by obtain⟨_,_,_,rfl⟩:=w28;obtain⟨_,_,_,rfl⟩:=w30;kernel_rfl)) ?_)))))))
 refine jyo Z (Bg (r:=Be) (l:=[⟨↑k,↑j,Ba (ix ((ix f.Blocks k).Ins) j),(ix ((ix f.Blocks k).Ins) j).Args⟩]) Ek Qc (by decide) Z Z Z (lA (Be.M (m:=⟨↑k,↑j,Ba (ix ((ix f.Blocks k).Ins) j),(ix ((ix f.Blocks k).Ins) j).Args⟩) (c:=(v86,v92)) d1 d3 (wp (IntWalk.i64_in ↑k (by omega))) (wp (IntWalk.i64_in ↑j (by omega)))) ln) fun g94=>jyn d0 (kc k1 kn) (jyo Z (jfz k0 (by(try simp)<;>omega) (Dl Ek Qc (by decide) Z k1 Z Z d0 (by(try simp)<;>omega) fun v95 w34=>jyn d1 (kc k1 kn) (jy Z (jas Z) (jyd (jbn (jx (jr ?_)))))))))
 refine jm Z (js (Al Z Z (by omega)) (ja Z (jn ?_)))
 exact jag (j+1,v95,out4++([⟨((k:Nat):Int),((j:Nat):Int),Ba (ix ((ix f.Blocks k).Ins) j),(ix ((ix f.Blocks k).Ins) j).Args⟩])) ⟨by dsimp only;omega,by dsimp only;exact PG (by omega) hI⟩ (dc d7 (dc d8 dn)) (kc k1 (kd kn)) ⟨Z,Z,Z,Z,Z,eqI (by omega),trivial⟩
 refine jex (jtx (jtx (jbh (jx (jr (jm Z (jm Z (js (jf Cn Z) (js (jl k0 O58 Z Z) (js (jln U58 (Af.cI d0) Z) (js (jf Eh Z) ?_)))))))))))
 refine js (jf Jq Z) (js (jl k0 O22 Z Z) (js (jbu (v := .agg #[.int .i64 (↑k),.int .i64 (↑(List.length ((ix f.Blocks k).Ins))),.slice none 0 0,c22c]) Z (fun _=>by obtain⟨_,_,_,rfl⟩:=w6;kernel_rfl)) (jap Ek Qc (by decide) Z k1 Z (Be.M (m:=⟨↑k,↑(List.length ((ix f.Blocks k).Ins)),[],((ix f.Blocks k).Term).Args⟩) (c:=(.slice none 0 0,c22c)) wN (Af.c_Term_Args d0) (wp (IntWalk.i64_in ↑k (by omega))) (wp (IntWalk.i64_in (↑(List.length ((ix f.Blocks k).Ins))) (by omega)))) (by omega) (fun _=>Z) fun v106 _ w35=>ja Z (jn (jbn (jx (jr (jm Z (js (Al Z Z (by omega)) (ja Z ?_))))))))))
 refine jn ?_
 exact jag (k+1,v106,out4++[⟨((k:Nat):Int),((List.length ((ix f.Blocks k).Ins):Nat):Int),[],((ix f.Blocks k).Term).Args⟩]) ⟨by dsimp only;omega,by dsimp only;exact SJ (PE (by omega) hI)⟩ (dc d1 dn) (kc k0 (kc k1 kn)) ⟨Z,Z,Z,eqI (by omega),trivial⟩
 refine jex (jtx (jtx (jbh (jx (jq (jr (jm Z (ja Z (jn (jx (jrt ?_)))))))))))
 refine qfz k0 (by omega) ?_
 exact jrD Z Z (by rw[hB,List.drop_of_length_le (by omega)];simp[blL]) d0
theorem A49:Ag9 Tryz.prog 49:=⟨_,Tryz.underlying49,rfl⟩
theorem Vr:Ent Tryz.prog 105:=⟨_,Tryz.func105,by kernel_rfl,by kernel_rfl⟩
theorem E65:Ent Tryz.prog 65:=⟨_,Tryz.func65,by kernel_rfl,by kernel_rfl⟩
theorem Gp:Fld Tryz.prog 170 0 0:=⟨_,_,Tryz.underlying170,rfl,rfl,1,(by unfold Sz;kernel_rfl),by decide⟩
theorem Iw:Fld Tryz.prog 170 2 2:=⟨_,_,Tryz.underlying170,rfl,rfl,1,(by unfold Sz;kernel_rfl),by decide⟩
theorem Hu:Fld Tryz.prog 49 0 0:=⟨_,_,Tryz.underlying49,rfl,rfl,1,(by unfold Sz;kernel_rfl),by decide⟩
theorem Z49:Sz Tryz.prog 49 2:=by unfold Sz;kernel_rfl
theorem IX{a0:Value}{f:D.Func}(block:Int)(hb9:0≤block∧block<f.Blocks.length)(hsz:Bw f.Blocks<100000000)(hpr:0≤f.Params∧f.Params≤4):Tg Tryz.prog 69 #[vFunc f a0,.int .i64 block] [da Aj (vFunc f a0) f] [] (rI .i64) 3 (Cd f block):=by
 refine Az (args:=[vFunc f a0,.int .i64 block]) Tryz.func69 rfl rfl rfl fun w0 X=>?_
 have htl:=Si f
 refine jq (jr (Cm Z Z fun g2=>ja Z (jn (jx (jq (jr (Bg (r:=(rI .i64)) (l:=[]) U22 I3 (by decide) Z Z Z ln fun g11=>ja Z (jn (jx ?_)))))))))
 refine jq (jq (jr (ja Z (jn (jx (jb ?_))))))
 refine jlp (u3 fun(i:Nat) (vo:Value) (out:List Int)=>⟨i≤f.Params.toNat∧out=Ij i,[da Aj (vFunc f a0) f],[gl X.n (rI .i64) 3 vo out,bx g2 49 [.int .i64 f.Params,a0]],[(1,.int .i64 block),(2,.pointer (some ⟨g2,0,none⟩)),(4,.slice none 0 0),(5,vo),(6,.int .i64 (↑i))],f.Params.toNat-i⟩) (0,(.slice (some ⟨g11,0,none⟩) 0 0),[]) ⟨Nat.zero_le _,rfl⟩ (dc d0 dn) (kd kn) ⟨Z,Z,Z,Z,eqI (by omega),trivial⟩ ?_
 rintro⟨i,vo,out⟩;dsimp only[u3];rintro⟨hi,ho⟩
 refine cgo k0 fun w1=>?_
 have hol:out.length=i:=by rw[ho];exact Qz i
 refine jq (jq (jr (jm Z (js (jf Hu Z) (js (jl k1 O3 Z Z) (js (Ar Z Z) (jn (jx ?_))))))))
 refine jif Z (fun hc1=>?_) (fun hc1=>?_)
 refine jsk (jx (jq (jb (jr (jm Z (jm Z (Gk U22 I3 (by decide) Z Z k0 Z (wI (wp (IntWalk.i64_in _ (by omega)))) (by omega) (fun _=>Z) fun v21 _ w2=>ja Z (jn (jbn (jx ?_))))))))))
 refine jr (jm Z (js (Al Z Z (by omega)) (ja Z (jn ?_))))
 exact jag (i+1,v21,out++[((i:Nat):Int)]) ⟨by dsimp only;omega,by dsimp only;rw[ho,S5]⟩ (dc d0 dn) (kd kn) ⟨Z,Z,Z,Z,eqI (by omega),trivial⟩
 refine jex (jtx (jtx (jbh (jx (jq (jr (js (jla k1 A49 Z49 Z Z Z) (jcd Vr Z Z (Ti (by omega)) (dc d0 dn) kn fun v23 q3 w3=>ja Z (jn (jx ?_))))))))))
 refine jq (jq (jr (ja Z (jn (jx (jb ?_))))))
 refine jlp (u3 fun(i2:Nat) (v2:Value) (o2:List Int)=>⟨i2≤(Ad f).length∧o2=Ij f.Params.toNat++Ju f block ((Ad f).take i2),[dv (rL Be) v23 (Ad f),da Aj (vFunc f a0) f],[gl X.n (rI .i64) 3 v2 o2,bx g2 49 [.int .i64 f.Params,a0]],[(1,.int .i64 block),(2,.pointer (some ⟨g2,0,none⟩)),(4,.slice none 0 0),(5,v2),(7,v23),(8,.int .i64 (↑i2))],(Ad f).length-i2⟩) (0,vo,out) ⟨Nat.zero_le _,by dsimp only;rw[ho,show i=f.Params.toNat by omega];simp[Ju]⟩ (dc d0 (dc d1 dn)) (kd kn) ⟨Z,Z,Z,Z,Z,eqI (by omega),trivial⟩ ?_
 rintro⟨i2,v2,o2⟩;dsimp only[u3];rintro⟨hi2,ho2⟩
 refine cgo k0 fun w5=>?_
 have hs2:=G6 (f:=f) (b:=block) (l:=(Ad f).take i2) (fun t ht=>Sh f t (List.mem_of_mem_take ht))
 have ho2l:o2.length≤4+2*i2:=by rw[ho2,List.length_append,Qz];rw[List.length_take] at hs2;omega
 refine jq (jq (jr (jm Z (jm Z (js (jln Ek d0 Z) (js (Ar Z Z) (jn (jx ?_))))))))
 refine jif Z (fun hc2=>?_) (fun hc2=>?_)
 refine jsk (jx (jq (jb (jq (jr (ja Z (jn (jx (jq (jq (jr ?_)))))))))))
 refine jm Z (jm Z (js (jix Ek Er d0 Z Z Z (by omega)) (js (jf Gp Z) (js (jlI (Be.A_Block (dix d0 i2 (by omega))) O3 Z) (jm Z (js (Ga Z Z) (jn (jx ?_))))))))
 refine jif Z (fun hc3=>?_) (fun hc3=>?_)
 refine jq (jtl 6 Bi (by kernel_rfl) (jt (jla k1 A49 Z49 Z Z Z) (jt (jmv Z) (jt (jmv Z) (jt (jix Ek Er d0 Z Z Z (by omega)) (jt (jf Gp Z) (jt (jlI (Be.A_Block (dix d0 i2 (by omega))) O3 Z) (jtt (jcg E65 Z Z (Tj ((ix (Ad f) i2).Block)) (dc d1 dn) kn fun v43 w6=>ja Z (jn ?_))))))))))
 refine jx (jr (jm Z (jm Z ?_)))
 have hrl:=Mm f (ix (Ad f) i2).Block
 refine js (jig (i:=block.toNat) Ex Z4 k0 Z Z (by omega) (by omega)) (js (jgB k0 (by omega) O4 Z) (js (Dq Z) (ja Z (jn (jx (jq (jr (jm Z (jn (jx ?_))))))))))
 refine jif Z (fun hc4=>?_) (fun hc4=>?_)
 refine jr (jm Z (jm Z (jm Z (js (jix Ek Er d0 Z Z Z (by omega)) (js (jf Iw Z) (jev (jlV (Be.A_Makes (dix d0 i2 (by omega))) O22 Z Z) fun v55 q7 w7=>?_))))))
 have hm2:=Sh f _ (Ax (l:=Ad f) (i:=i2) (by omega))
 refine Dl U22 I3 (by decide) Z k1 Z Z d0 (by(try simp)<;>omega) fun v56 w9=>ja Z (jn (jbn (jx (jr (jm Z (js (Al Z Z (by omega)) (ja Z (jn ?_))))))))
 exact jag (i2+1,v56,o2++((ix (Ad f) i2).Makes)) ⟨by dsimp only;omega,by dsimp only;rw[Wj (by omega),ho2];rw[if_pos (by simp[Ot,hc3,hc4])];simp⟩ (dc d1 (dc d2 dn)) (kc k0 (kc k1 kn)) ⟨Z,Z,Z,Z,Z,eqI (by omega),trivial⟩
 refine jsk (jbn (jx (jr (jm Z (js (Al Z Z (by omega)) (ja Z (jn ?_)))))))
 exact jag (i2+1,v2,o2) ⟨by dsimp only;omega,by dsimp only;rw[Wj (by omega),ho2];rw[if_neg (by simp[Ot,hc3,hc4])];simp⟩ (dc d0 (dc d1 dn)) (kc k1 (kc k1 kn)) ⟨Z,Z,Z,Z,Z,eqI (by omega),trivial⟩
 refine jsk (jx (jq (jr (jm Z (jn (jx ?_))))))
 refine jif Z (fun hc5=>?_) (fun hc5=>?_)
 refine jr (jm Z (jm Z (jm Z (js (jix Ek Er d0 Z Z Z (by omega)) (js (jf Iw Z) (jev (jlV (Be.A_Makes (dix d0 i2 (by omega))) O22 Z Z) fun v55_10 q11 w11=>?_))))))
 have hm2:=Sh f _ (Ax (l:=Ad f) (i:=i2) (by omega))
 refine Dl U22 I3 (by decide) Z k0 Z Z d0 (by(try simp)<;>omega) fun v56_13 w14=>ja Z (jn (jbn (jx (jr (jm Z (js (Al Z Z (by omega)) (ja Z (jn ?_))))))))
 exact jag (i2+1,v56_13,o2++((ix (Ad f) i2).Makes)) ⟨by dsimp only;omega,by dsimp only;rw[Wj (by omega),ho2];rw[if_pos (by simp[Ot,hc3,hc5])];simp⟩ (dc d1 (dc d2 dn)) (kd kn) ⟨Z,Z,Z,Z,Z,eqI (by omega),trivial⟩
 exact absurd hc5 (by simp)
 refine jex (jtx (jtx (jbh (jx (jq (jr (jm Z (ja Z (jn (jx (jrt ?_)))))))))))
 exact jrG Z Z (by rw[ho2,List.take_of_length_le (by omega)];rfl) k0
theorem J31:(Tryz.prog.info? 31).bind (·.zero)=some (.agg #[.slice none 0 0,.slice none 0 0,.slice none 0 0,.int .i64 0]):=by kernel_rfl
theorem JC{a0:Value}{s:List Int}:Ts Tryz.prog 34 #[a0] [dv (rL (rI .i64)) a0 s] [] Br vInput (Ka s):=by
 refine Az (args:=[a0]) Tryz.func34 rfl rfl rfl fun w0 X=>?_
 refine jq (jr (Bo J31 Z fun g2=>jn (jx (jq (jr (jm Z (jdq d0 fun q1 w1=>js (jbu (v := .agg #[a0,.int .i64 0,.int .i64 0,.slice none 0 0,.int .i64 0,.slice none 0 0]) Z (fun _=>by obtain⟨_,_,_,rfl⟩:=w1;kernel_rfl)) (Cm Z Z fun g11=>Rf (c:=0) ⟨s,0,0,[],0,[]⟩ k0 ⟨Xo _,Z⟩ fun mm0 hmm0 omm0 bmm0=>?_))))))))
 refine ja Z (jn (jx (jq (jr (js (jbu (v := .agg #[.slice none 0 0,.slice none 0 0,.slice none 0 0,.int .i64 300]) Z (fun _=>by kernel_rfl)) (Bo J31 Z fun g4=>Bk k0 Z31 Z Z Z ⟨Z,Z,Z,Z,trivial⟩ (saf Z) (jn (jx (jq (jq ?_))))))))))
 refine jr (ja Z (jn (jx (jb (cnl (r:=(rI .i32)) (E:=21) ?_)))))
 refine jlp (u4 fun(ia:Nat) (la:List Int) (va:Value) (ma:Mk)=>⟨ia≤4∧Ha 4 [] mm0=Ha (4-ia) la ma∧la.length=ia∧okS 0 (0+2*ia) s ma,[dv (rL (rI .i64)) a0 s],[gl X.n (rI .i32) 21 va la,bx g4 31 [va,.slice none 0 0,.slice none 0 0,.int .i64 300],bx g11 108 [a0,.int .i64 ma.k,.int .i64 ma.par,(.slice none 0 0),.int .i64 ma.nx,(.slice none 0 0)],bx g2 31 [.slice none 0 0,.slice none 0 0,.slice none 0 0,.int .i64 0]],[(2,.pointer (some ⟨g2,0,none⟩)),(3,.pointer (some ⟨g11,0,none⟩)),(4,.pointer (some ⟨g4,0,none⟩)),(5,.int .i64 (↑ia))],4-ia⟩) (0,[],.slice none 0 0,mm0) ⟨Nat.zero_le _,rfl,rfl,omm0.mono (by omega)⟩ (dc d0 dn) (kd (kd kn)) ⟨Z,Z,Z,eqI (by omega),trivial⟩ ?_
 rintro⟨ia,la,va,ma⟩;dsimp only[u4];rintro⟨hia,hRa,hla,okL1⟩
 refine cgo k0 fun w2=>?_
 have bdL1:=okM.bnd okL1.1
 clear bmm0
 refine jq (jq (jr (jm Z (js (Ar Z Z) (jn (jx ?_))))))
 refine jif Z (fun hc1=>?_) (fun hc1=>?_)
 refine jsk (jx (jq (jb (Bz true (.a 0 (.a 1 (.a 2 (.o 3 (.o 4 (.o 5 (.a 6 (.o 7 .e)))))))) Bi (by kernel_rfl) (kc k1 kn) fun F3=>jy Z (jf Qg Z) (jy Z (jl k0 O29 Z Z) (jy Z (jmv Z) (jyo Z (jka E71 Z Z (Mv okL1 (by omega)) (dc d1 dn) k2 ⟨Ki okL1.1,okL1.2⟩ fun m20 hm20 om20 bm20=>?_))))))))
 have w20_0:IntKind.i32.wrap (Ay ma)=Ay ma:=(Mh ma)
 clear bdL1
 refine jyn d0 (kc k2 kn) (jyo Z (Bg (r:=(rI .i32)) (l:=[Ay ma]) U29 I21 (by decide) Z Z Z (lV Z Z (wI (wp w20_0)) ln) fun g21=>jyn d0 (kc k3 kn) (jyo Z (jfz k0 (by(try simp)<;>omega) (Dl U29 I21 (by decide) Z k1 Z Z d0 (by(try simp)<;>omega) fun v22 w8=>jyn d1 (kc k2 kn) (jy Z (jf Qg Z) (jyo Z (jst k2 Z29 Z Z w8.one s0 (jyz d0 ?_)))))))))
 refine jyd (jbn (jx (jr (jm Z (js (Al Z Z (by omega)) (ja Z (jn ?_)))))))
 exact jag (ia+1,la++([Ay ma]),v22,m20) ⟨by dsimp only;omega,by dsimp only;rw[hm20];exact Vv (by omega) hRa,by simp;omega,om20.mono (by omega)⟩ (dc d5 dn) (kc k1 (kd (kc k0 kn))) ⟨Z,Z,Z,eqI (by omega),trivial⟩
 refine jex (jtx (jtx (jbh (jx (jq (jr (jm Z (jka E47 Z Z (Dd okL1 (by omega) 13 (by first|decide|omega)) (dc d0 dn) k2 ⟨tO9 okL1.1,okL1.2⟩ fun m25 hm25 om25 bm25=>?_))))))))
 have w25_0:IntKind.i64.wrap (tVV 13 ma)=tVV 13 ma:=(IntWalk.i64_in _ (by have h9:=@tV9 13 (by omega) ma;omega))
 have tr25:=@tV9 13 (by omega) ma
 clear bdL1
 refine js (Al Z Z (by omega)) (ja Z (jn (jx (jq (jq (jr (ja Z (jn (jx (jb (cnl (r:=(rI .i32)) (E:=21) ?_)))))))))))
 refine jlp (u4 fun(ib:Nat) (lb:List Int) (vb:Value) (mb:Mk)=>⟨ib≤(4+(tVV 13 ma)).toNat∧Ha (4+(tVV 13 ma)).toNat [] m25=Ha ((4+(tVV 13 ma)).toNat-ib) lb mb∧lb.length=ib∧okS 0 (0+2*ia+1+2*ib) s mb,[dv (rL (rI .i64)) a0 s],[gl X.n (rI .i32) 21 vb lb,bx g11 108 [a0,.int .i64 mb.k,.int .i64 mb.par,(.slice none 0 0),.int .i64 mb.nx,(.slice none 0 0)],gl X.n (rI .i32) 21 va la,bx g4 31 [va,vb,.slice none 0 0,.int .i64 300],bx g2 31 [.slice none 0 0,.slice none 0 0,.slice none 0 0,.int .i64 0]],[(2,.pointer (some ⟨g2,0,none⟩)),(3,.pointer (some ⟨g11,0,none⟩)),(4,.pointer (some ⟨g4,0,none⟩)),(6,.int .i64 (4+(tVV 13 ma))),(7,.int .i64 (↑ib))],(4+(tVV 13 ma)).toNat-ib⟩) (0,[],.slice none 0 0,m25) ⟨Nat.zero_le _,rfl,rfl,om25.mono (by omega)⟩ (dc d0 dn) (kd (kd (kc k0 kn))) ⟨Z,Z,Z,Z,eqI (by omega),trivial⟩ ?_
 rintro⟨ib,lb,vb,mb⟩;dsimp only[u4];rintro⟨hib,hRb,hlb,okL2⟩
 refine cgo k0 fun w10=>?_
 have bdL2:=okM.bnd okL2.1
 clear bm25
 refine jq (jq (jr (jm Z (jm Z (js (Ar Z Z) (jn (jx ?_)))))))
 refine jif Z (fun hc2=>?_) (fun hc2=>?_)
 refine jsk (jx (jq (jb (Bz true (.a 0 (.a 1 (.a 2 (.o 3 (.o 4 (.o 5 (.a 6 (.o 7 .e)))))))) Bi (by kernel_rfl) (kc k3 kn) fun F11=>jy Z (jf Qf Z) (jy Z (jl k0 O29 Z Z) (jy Z (jmv Z) (jyo Z (jka E71 Z Z (Mv okL2 (by omega)) (dc d1 dn) k1 ⟨Ki okL2.1,okL2.2⟩ fun m35 hm35 om35 bm35=>?_))))))))
 have w35_0:IntKind.i32.wrap (Ay mb)=Ay mb:=(Mh mb)
 clear bdL2
 refine jyn d0 (kc k3 kn) (jyo Z (Bg (r:=(rI .i32)) (l:=[Ay mb]) U29 I21 (by decide) Z Z Z (lV Z Z (wI (wp w35_0)) ln) fun g36=>jyn d0 (kc k4 kn) (jyo Z (jfz k0 (by(try simp)<;>omega) (Dl U29 I21 (by decide) Z k1 Z Z d0 (by(try simp)<;>omega) fun v37 w16=>jyn d1 (kc k3 kn) (jy Z (jf Qf Z) (jyo Z (jst k3 Z29 Z Z w16.one s1 (jyz d0 ?_)))))))))
 refine jyd (jbn (jx (jr (jm Z (js (Al Z Z (by omega)) (ja Z (jn ?_)))))))
 exact jag (ib+1,lb++([Ay mb]),v37,m35) ⟨by dsimp only;omega,by dsimp only;rw[hm35];exact Vv (by omega) hRb,by simp;omega,om35.mono (by omega)⟩ (dc d5 dn) (kc k1 (kc k1 (kc k1 (kd kn)))) ⟨Z,Z,Z,Z,eqI (by omega),trivial⟩
 refine jex (jtx (jtx (jbh (jx (jq (jr (jm Z (jka E47 Z Z (Dd okL2 (by omega) 7 (by first|decide|omega)) (dc d0 dn) k1 ⟨tO9 okL2.1,okL2.2⟩ fun m40 hm40 om40 bm40=>?_))))))))
 have w40_0:IntKind.i64.wrap (tVV 7 mb)=tVV 7 mb:=(IntWalk.i64_in _ (by have h9:=@tV9 7 (by omega) mb;omega))
 have tr40:=@tV9 7 (by omega) mb
 clear bdL2
 refine ja Z (jn (jx (jq (jq (jr (ja Z (jn (jx (jb (cnl (r:=(rI .i32)) (E:=21) ?_))))))))))
 refine jlp (u4 fun(ic:Nat) (lc:List Int) (vc:Value) (mc:Mk)=>⟨ic≤(tVV 7 mb).toNat∧Ha (tVV 7 mb).toNat [] m40=Ha ((tVV 7 mb).toNat-ic) lc mc∧lc.length=ic∧okS 0 (0+2*ia+1+2*ib+1+2*ic) s mc,[dv (rL (rI .i64)) a0 s],[gl X.n (rI .i32) 21 vc lc,bx g11 108 [a0,.int .i64 mc.k,.int .i64 mc.par,(.slice none 0 0),.int .i64 mc.nx,(.slice none 0 0)],gl X.n (rI .i32) 21 vb lb,gl X.n (rI .i32) 21 va la,bx g4 31 [va,vb,vc,.int .i64 300],bx g2 31 [.slice none 0 0,.slice none 0 0,.slice none 0 0,.int .i64 0]],[(2,.pointer (some ⟨g2,0,none⟩)),(3,.pointer (some ⟨g11,0,none⟩)),(4,.pointer (some ⟨g4,0,none⟩)),(6,.int .i64 (tVV 7 mb)),(8,.int .i64 (↑ic))],(tVV 7 mb).toNat-ic⟩) (0,[],.slice none 0 0,m40) ⟨Nat.zero_le _,rfl,rfl,om40.mono (by omega)⟩ (dc d0 dn) (kd (kd (kd kn))) ⟨Z,Z,Z,Z,eqI (by omega),trivial⟩ ?_
 rintro⟨ic,lc,vc,mc⟩;dsimp only[u4];rintro⟨hic,hRc,hlc,okL3⟩
 refine cgo k0 fun w18=>?_
 have bdL3:=okM.bnd okL3.1
 clear bm40
 refine jq (jq (jr (jm Z (jm Z (js (Ar Z Z) (jn (jx ?_)))))))
 refine jif Z (fun hc3=>?_) (fun hc3=>?_)
 refine jsk (jx (jq (jb (Bz true (.a 0 (.a 1 (.a 2 (.o 3 (.o 4 (.o 5 (.a 6 (.o 7 .e)))))))) Bi (by kernel_rfl) (kc k4 kn) fun F19=>jy Z (jf Sa Z) (jy Z (jl k0 O29 Z Z) (jy Z (jmv Z) (jyo Z (jka E71 Z Z (Mv okL3 (by omega)) (dc d1 dn) k1 ⟨Ki okL3.1,okL3.2⟩ fun m49 hm49 om49 bm49=>?_))))))))
 have w49_0:IntKind.i32.wrap (Ay mc)=Ay mc:=(Mh mc)
 clear bdL3
 refine jyn d0 (kc k4 kn) (jyo Z (Bg (r:=(rI .i32)) (l:=[Ay mc]) U29 I21 (by decide) Z Z Z (lV Z Z (wI (wp w49_0)) ln) fun g50=>jyn d0 (kc k5 kn) (jyo Z (jfz k0 (by(try simp)<;>omega) (Dl U29 I21 (by decide) Z k1 Z Z d0 (by(try simp)<;>omega) fun v51 w24=>jyn d1 (kc k4 kn) (jy Z (jf Sa Z) (jyo Z (jst k4 Z29 Z Z w24.one s2 (jyz d0 ?_)))))))))
 refine jyd (jbn (jx (jr (jm Z (js (Al Z Z (by omega)) (ja Z (jn ?_)))))))
 exact jag (ic+1,lc++([Ay mc]),v51,m49) ⟨by dsimp only;omega,by dsimp only;rw[hm49];exact Vv (by omega) hRc,by simp;omega,om49.mono (by omega)⟩ (dc d5 dn) (kc k1 (kc k1 (kc k1 (kc k1 (kd kn))))) ⟨Z,Z,Z,Z,eqI (by omega),trivial⟩
 refine jex (jtx (jtx (jbh (jx (jq (jr (js (jla k4 A31 Z31 Z Z Z) (Bk k5 Z31 Z Z Z ⟨w2.one,w10.one,w18.one,Z,trivial⟩ (saf Z) (jn (jx (jrt ?_)))))))))))
 refine qfz k4 (by omega) (qfz k3 (by omega) (qfz k1 (by omega) ?_))
 exact Ku (val:=vInput) (b:=⟨la,lb,lc,300⟩) (c:=(va,vb,vc)) Z Z k0 A31 Z31 Z (by have ea:=Vu (by omega) hRa;have eb:=Vu (by omega) hRb;have ec:=Vu (by omega) hRc;simp only[hmm0,hm25,hm40] at ea eb ec;simp only[Ka,ea,eb,ec]) (Br.M (m:=⟨la,lb,lc,300⟩) (c:=(va,vb,vc)) d2 d1 d0 (wl 300))
end Go.Proofs.YtmfkkodnghambaaGreat
