/- Lemmas that the claim is made of. Conditions: each lemma names its own. -/
import Derived.WalkKit
import Derived.StillTail
import Derived.Deep.LoopGhost
import Derived.Deep.OwnRows
import Derived.OrdersHeld
import Derived.Laws.Rows
import Derived.ArgAppend
import Derived.ReadAgain
import Derived.Handed
import Derived.Below
import Derived.OpenShut
import Derived.RowKit
import Derived.ProofKit
import Derived.JoinedCond
import Derived.Lib.SmallJoins
import Derived.Deep.Slices
set_option linter.unusedSectionVars false
set_option linter.unusedSimpArgs false
set_option linter.unusedVariables false
namespace Go.JE
abbrev Env:=List (Nat×Value)
abbrev Heap:=Array Obj
def lk:Env→Nat→Option Value
 | [],_=>none
 | (k,v)::r,t=>bif Nat.beq k t then some v else lk r t
def ev(e:Env):Operand→Option Value
 | .tmp t=>lk e t
 | .const v=>some v
 | .global g=>some (.pointer (some ⟨g,0,none⟩))
 | .func f=>some (.func (.func f) #[] #[])
theorem Zc{a b:Nat}(h:¬a=b):Nat.beq a b=false:=by
 cases h1:Nat.beq a b with
 | false=>rfl
 | true=>exact absurd (Nat.eq_of_beq_eq_true h1) h
structure Fs where
 sz:Nat
 ds:List Deferred
structure Fr(n:Fs)(e:Env)(a:Act):Prop where
 size:a.tmps.size=n.sz
 defers:a.defers=n.ds
 get:∀t v,lk e t=some v→a.tmps.getD t undef=v
theorem Fr.ev{n:Fs}{e:Env}{a:Act}(h:Fr n e a){x:Operand}{v:Value}(hx:ev e x=some v):a.eval x=v:=by
 cases x with
 | tmp t=>exact h.get t v hx
 | const u=>simpa[JE.ev,Act.eval] using hx
 | global g=>simpa[JE.ev,Act.eval] using hx
 | func f=>simpa[JE.ev,Act.eval] using hx
theorem Fr.put{n:Fs}{e:Env}{a:Act}(h:Fr n e a){d:Nat}(hd:Nat.blt d n.sz=true)(v:Value):Fr n ((d,v)::e) (a.put (some d) v):=by
 have hd':d<n.sz:=by simpa[Nat.blt_eq] using hd
 refine⟨by simp[Act.put,h.size],by simp[Act.put,h.defers],fun t u hu=>?_⟩
 simp only[lk] at hu
 by_cases e1:d=t
 ·subst e1
  have:Nat.beq d d=true:=by simp
  rw[this] at hu
  simp only[cond_true,Option.some.injEq] at hu
  subst hu
  simp[Act.put,h.size,hd']
 ·have:Nat.beq d t=false:=Zc e1
  rw[this] at hu
  simp only[cond_false] at hu
  have:=h.get t u hu
  simp only[Act.put,Array.getD_eq_getD_getElem?] at this ⊢
  rw[Array.getElem?_setIfInBounds_ne e1]
  exact this
def Sub(e:Env):Env→Prop
 | []=>True
 | (t,v)::r=>lk e t=some v∧Sub e r
theorem Sub.get{e:Env}:∀{l:Env},Sub e l→∀t v,lk l t=some v→lk e t=some v
 | [],_,t,v,h=>by simp[lk] at h
 | (k,u)::r,hs,t,v,h=>by
  simp only[lk] at h
  by_cases e1:k=t
  ·subst e1
   have:Nat.beq k k=true:=by simp
   rw[this] at h
   simp only[cond_true,Option.some.injEq] at h
   subst h
   exact hs.1
  ·have:Nat.beq k t=false:=Zc e1
   rw[this] at h
   exact Sub.get hs.2 t v h
theorem Fr.sub{n:Fs}{e l:Env}{a:Act}(h:Fr n e a)(hs:Sub e l):Fr n l a:=⟨h.size,h.defers,fun t v hv=>h.get t v (hs.get t v hv)⟩
structure Wd(w0:World)(H:Heap)(w:World):Prop where
 heap:w.heap=H
 os:w.os=w0.os
 tape:w.tape=w0.tape
 output:w.output=w0.output
theorem Wd.drew{w0 w:World}{H:Heap}(h:Wd w0 H w):Wd w0 H { w with drawn:=w.drawn+1 }:=⟨h.heap,h.os,h.tape,h.output⟩
theorem eqI{k:IntKind}{a b:Int}(h:a=b):some (Value.int k a)=some (Value.int k b):=by rw[h]
theorem ST{a b:Bool}(h:(a&&b)=true):a=true:=by cases a<;>simp_all
theorem SR{a b:Bool}(h:(a&&b)=true):b=true:=by cases a<;>simp_all
variable{P:Program}{n:Fs}{w0:World}{Q:Exit→Act→World→Prop}{e:Env}{H:Heap}
def LF(P:Program)(n:Fs)(w0:World)(ops:Array Oper)(Q:Exit→Act→World→Prop)(e:Env)(l:List Oper)(H:Heap):Prop :=
 ∀a w,Fr n e a→Wd w0 H w→wpList P ops Q l a w
def LS(P:Program)(n:Fs)(w0:World)(ops:Array Oper)(K:Act→World→Prop)(e:Env)(l:List Oper)(H:Heap):Prop :=
 ∀a w,Fr n e a→Wd w0 H w→wpStill P ops w (fun a=>K a w) l a
def CF(P:Program)(n:Fs)(w0:World)(Q:Exit→Act→World→Prop)(e:Env)(c:Code)(H:Heap):Prop :=
 ∀a w,Fr n e a→Wd w0 H w→c.wp P Q a w
def PF(n:Fs)(w0:World)(Q:Exit→Act→World→Prop)(e:Env)(x:Exit)(H:Heap):Prop :=
 ∀a w,Fr n e a→Wd w0 H w→Q x a w
def Aa(P:Program)(e:Env)(op:Op)(H:Heap)(v:Value):Prop :=
 ∀(ρ:Operand→Value) (o:Oper) (w:World),o.op=op→(∀x u,ev e x=some u→ρ x=u)→w.heap=H→(execOp ρ o).run P w = .ok (.value v) w
def Av(P:Program)(e:Env)(op:Op)(H:Heap)(R:Value→Heap→Prop):Prop :=
 ∀(ρ:Operand→Value) (o:Oper) (w:World),o.op=op→(∀x u,ev e x=some u→ρ x=u)→w.heap=H →
  ∃v w',((execOp ρ o).run P w = .ok (.value v) w'∨((execOp ρ o).run P w = .ok .skip w'∧v=undef))∧w'.os=w.os∧w'.tape=w.tape∧w'.output=w.output∧R v w'.heap
def Ct(P:Program)(f:FuncId)(args:Array Value)(H:Heap)(R:Value→Heap→Prop):Prop :=
 ∀w,w.heap=H→Calls P f args w fun x w'=>∃v,x = .returned v∧w'.os=w.os∧w'.tape=w.tape∧w'.output=w.output∧R v w'.heap
theorem Ct.mono{f:FuncId}{args:Array Value}{R R':Value→Heap→Prop}(h:Ct P f args H R)(hr:∀v H',R v H'→R' v H'):Ct P f args H R' :=
 fun w hw=>(h w hw).mono fun _ _ ⟨v,a,b,c,d,r⟩=>⟨v,a,b,c,d,hr _ _ r⟩
section ops
variable{ops:Array Oper}{op:Op}{d:Nat}{ty:TypeId}{pos:String}{af:Array Edge}{rest:List Oper}{v:Value}
theorem LF.nil(h:PF n w0 Q e .normal H):LF P n w0 ops Q e [] H:=fun a w hf hw=>wpList_nil (h a w hf hw)
theorem LF.step(h:Aa P e op H v)(K:LF P n w0 ops Q ((d,v)::e) rest H)(hd:Nat.blt d n.sz=true:=by rfl):LF P n w0 ops Q e (⟨some d,op,ty,pos,af,none⟩::rest) H:=by
 intro a w hf hw
 refine wpList_plain rfl fun K' hK'=>?_
 unfold Oper.wp
 rw[h a.eval _ w rfl (fun x u hx=>hf.ev hx) hw.heap]
 exact hK' _ _ (K _ _ (hf.put hd v) hw)
theorem LF.chg{R:Value→Heap→Prop}(h:Av P e op H R)(K:∀v H',R v H'→LF P n w0 ops Q ((d,v)::e) rest H')(hd:Nat.blt d n.sz=true:=by rfl) :
  LF P n w0 ops Q e (⟨some d,op,ty,pos,af,none⟩::rest) H:=by
 intro a w hf hw
 obtain⟨v,w',hr,h1,h2,h3,hR⟩:=h a.eval ⟨some d,op,ty,pos,af,none⟩ w rfl (fun x u hx=>hf.ev hx) hw.heap
 refine wpList_plain rfl fun K' hK'=>?_
 unfold Oper.wp
 have hw':Wd w0 w'.heap w':=⟨rfl,h1.trans hw.os,h2.trans hw.tape,h3.trans hw.output⟩
 rcases hr with hr|⟨hr,rfl⟩
 ·rw[hr];exact hK' _ _ (K _ _ hR _ _ (hf.put hd v) hw')
 ·rw[hr];exact hK' _ _ (K _ _ hR _ _ (hf.put hd undef) hw')
theorem LF.chg0{R:Value→Heap→Prop}(h:Av P e op H R)(K:∀v H',R v H'→LF P n w0 ops Q e rest H') :
  LF P n w0 ops Q e (⟨none,op,ty,pos,af,none⟩::rest) H:=by
 intro a w hf hw
 obtain⟨v,w',hr,h1,h2,h3,hR⟩:=h a.eval ⟨none,op,ty,pos,af,none⟩ w rfl (fun x u hx=>hf.ev hx) hw.heap
 refine wpList_plain rfl fun K' hK'=>?_
 unfold Oper.wp
 have hw':Wd w0 w'.heap w':=⟨rfl,h1.trans hw.os,h2.trans hw.tape,h3.trans hw.output⟩
 rcases hr with hr|⟨hr,rfl⟩
 ·rw[hr];exact hK' _ _ (K _ _ hR _ _ hf hw')
 ·rw[hr];exact hK' _ _ (K _ _ hR _ _ hf hw')
def Iv(P:Program)(e:Env)(op:Op)(H:Heap)(f:FuncId)(args:Array Value):Prop :=
 ∀(ρ:Operand→Value) (o:Oper) (w:World),o.op=op→(∀x u,ev e x=some u→ρ x=u)→w.heap=H→(execOp ρ o).run P w = .ok (.enter f args) w
theorem LF.call{f:FuncId}{args:Array Value}{R:Value→Heap→Prop}(h:Iv P e op H f args)(hc:Ct P f args H R)(K:∀v H',R v H'→LF P n w0 ops Q ((d,v)::e) rest H')(hd:Nat.blt d n.sz=true:=by rfl) :
  LF P n w0 ops Q e (⟨some d,op,ty,pos,af,none⟩::rest) H:=by
 intro a w hf hw
 refine wpList_plain rfl fun K' hK'=>?_
 unfold Oper.wp
 rw[h a.eval _ w rfl (fun x u hx=>hf.ev hx) hw.heap,Oper.upon_enter]
 refine(hc w hw.heap).mono fun x w' ⟨v,hx,h1,h2,h3,hR⟩=>?_
 subst hx
 exact hK' _ _ (K _ _ hR _ _ (hf.put hd v) ⟨rfl,h1.trans hw.os,h2.trans hw.tape,h3.trans hw.output⟩)
def gv(b:Bool)(v:Value):Value:=bif b then v else undef
theorem evg{x:Operand}{c:Bool}{u:Value}(h:ev e x=some (gv c u))(hc:c=true):ev e x=some u:=by subst hc;exact h
inductive Gd:Value→Bool→Bool→Prop
 | t (b:Bool):Gd (.bool b) true b
 | f (b:Bool):Gd (.bool b) false (!b)
 | gt (c b:Bool):Gd (gv c (.bool b)) true (c&&b)
 | gf (c b:Bool):Gd (gv c (.bool b)) false (c&&!b)
theorem Qm{a:Act}{j t:Nat}{want B:Bool}{u:Value}{o:Oper}(hg:o.guard=some (j,want))(hj:(ops[j]?).bind (·.dst)=some t)(ht:Nat.blt t n.sz=true)(hf:Fr n e a)(hu:lk e t=some u)(hB:Gd u want B) :
  Region.wanted o (yielded ops a.tmps)=B:=by
 have ht':t<a.tmps.size:=by rw[hf.size];simpa[Nat.blt_eq] using ht
 have h1:=hf.get t u hu
 have h2:a.tmps[t]? = some u:=by
  rw[Array.getD_eq_getD_getElem?,Array.getElem?_eq_getElem ht'] at h1
  rw[Array.getElem?_eq_getElem ht']
  simpa using h1
 simp only[Region.wanted,hg,yielded,hj,Option.bind_some,h2]
 cases hB with
 | t=>cases B<;>rfl
 | f b=>cases b<;>rfl
 | gt c b=>cases c<;>cases b<;>rfl
 | gf c b=>cases c<;>cases b<;>rfl
theorem LF.gstep{j t:Nat}{want B:Bool}{u:Value}(hj:(ops[j]?).bind (·.dst)=some t)(hu:lk e t=some u)(hB:Gd u want B)(h:B=true→Aa P e op H v)
  (K:LF P n w0 ops Q ((d,gv B v)::e) rest H) (hd:Nat.blt d n.sz=true:=by rfl) (ht:Nat.blt t n.sz=true:=by rfl):LF P n w0 ops Q e (⟨some d,op,ty,pos,af,some (j,want)⟩::rest) H:=by
 intro a w hf hw
 have hwt:=Qm (o:=⟨some d,op,ty,pos,af,some (j,want)⟩) rfl hj ht hf hu hB
 refine wpList_step fun K' hK'=>?_
 rw[hwt]
 cases B with
 | true =>
  simp only[if_true]
  unfold Oper.wp
  rw[h rfl a.eval _ w rfl (fun x u hx=>hf.ev hx) hw.heap]
  exact hK' _ _ (K _ _ (hf.put hd v) hw)
 | false=>exact hK' _ _ (K _ _ (hf.put hd undef) hw)
theorem LS.nil{K:Act→World→Prop}(h:∀a w,Fr n e a→Wd w0 H w→K a w):LS P n w0 ops K e [] H:=fun _ _ hf hw=>wpStill_nil (h _ _ hf hw)
theorem LS.step{K:Act→World→Prop}(h:Aa P e op H v)(k:LS P n w0 ops K ((d,v)::e) rest H)(hd:Nat.blt d n.sz=true:=by rfl):LS P n w0 ops K e (⟨some d,op,ty,pos,af,none⟩::rest) H:=by
 intro a w hf hw
 refine wpStill_step fun K' hK'=>?_
 rw[if_pos (by simp[Region.wanted])]
 unfold Oper.still
 rw[h a.eval _ w rfl (fun x u hx=>hf.ev hx) hw.heap,Oper.stillUpon_value]
 exact hK' _ (k _ _ (hf.put hd v) hw)
theorem LS.gstep{K:Act→World→Prop}{j t:Nat}{want B:Bool}{u:Value}(hj:(ops[j]?).bind (·.dst)=some t)(hu:lk e t=some u)(hB:Gd u want B)(h:B=true→Aa P e op H v)
  (k:LS P n w0 ops K ((d,gv B v)::e) rest H) (hd:Nat.blt d n.sz=true:=by rfl) (ht:Nat.blt t n.sz=true:=by rfl):LS P n w0 ops K e (⟨some d,op,ty,pos,af,some (j,want)⟩::rest) H:=by
 intro a w hf hw
 have hwt:=Qm (o:=⟨some d,op,ty,pos,af,some (j,want)⟩) rfl hj ht hf hu hB
 refine wpStill_step fun K' hK'=>?_
 rw[hwt]
 cases B with
 | true =>
  simp only[if_true]
  unfold Oper.still
  rw[h rfl a.eval _ w rfl (fun x u hx=>hf.ev hx) hw.heap,Oper.stillUpon_value]
  exact hK' _ (k _ _ (hf.put hd v) hw)
 | false=>exact hK' _ (k _ _ (hf.put hd undef) hw)
end ops
section code
variable{x y:Code}{id:Nat}{l:List Oper}
theorem CF.region(h:LF P n w0 l.toArray Q e l H):CF P n w0 Q e (.region id l.toArray false) H:=fun a w hf hw=>wp_region_lit (h a w hf hw)
theorem CF.still(hm:P.follows .mixedOrders=true)(hB:Region.lexB .any l.toArray=true)(h:LS P n w0 l.toArray (fun a w=>Q .normal a w) e l H):CF P n w0 Q e (.region id l.toArray true) H :=
 fun _ _ hf hw=>wp_region_still_lit hm hB (h _ _ hf hw.drew)
theorem CF.tail(m:Nat)(hm:P.follows .mixedOrders=true)(hB:Region.lexTailB .any l.toArray m=true)(h:LS P n w0 l.toArray (fun a w=>wpList P l.toArray Q (l.drop m) a w) e (l.take m) H):CF P n w0 Q e (.region id l.toArray true) H :=
 fun _ _ hf hw=>wp_region_still_tail m hm hB (h _ _ hf hw.drew)
theorem LS.done(h:PF n w0 Q e .normal H){ops:Array Oper}:LS P n w0 ops (fun a w=>Q .normal a w) e [] H:=LS.nil h
theorem LS.tail{ops:Array Oper}{r:List Oper}(h:LF P n w0 ops Q e r H):LS P n w0 ops (fun a w=>wpList P ops Q r a w) e [] H:=LS.nil h
theorem CF.seq(h:CF P n w0 (Exit.then (y.wp P Q) Q) e x H):CF P n w0 Q e (.seq x y) H:=fun a w hf hw=>wp_seq (h a w hf hw)
theorem PF.next(h:CF P n w0 Q e y H):PF n w0 (Exit.then (y.wp P Q) Q) e .normal H:=h
theorem PF.thenExit{k:Act→World→Prop}{i:Nat}(h:PF n w0 Q e (.exit i) H):PF n w0 (Exit.then k Q) e (.exit i) H:=h
theorem PF.thenRet{k:Act→World→Prop}(h:PF n w0 Q e .ret H):PF n w0 (Exit.then k Q) e .ret H:=h
theorem CF.block(h:CF P n w0 (Exit.inBlock id Q) e x H):CF P n w0 Q e (.block id x) H:=fun a w hf hw=>wp_block (h a w hf hw)
theorem PF.blockNormal(h:PF n w0 Q e .normal H):PF n w0 (Exit.inBlock id Q) e .normal H:=h
theorem PF.blockRet(h:PF n w0 Q e .ret H):PF n w0 (Exit.inBlock id Q) e .ret H:=h
theorem PF.blockHere(h:PF n w0 Q e .normal H):PF n w0 (Exit.inBlock id Q) e (.exit id) H:=by
 intro a w hf hw
 simp only[Exit.inBlock,if_true]
 exact h a w hf hw
theorem PF.blockOther{i:Nat}(h:PF n w0 Q e (.exit i) H)(hne:Nat.beq i id=false:=by rfl):PF n w0 (Exit.inBlock id Q) e (.exit i) H:=by
 intro a w hf hw
 have:i≠id:=by intro e1;subst e1;simp at hne
 simp only[Exit.inBlock,if_neg this]
 exact h a w hf hw
theorem CF.skip(h:PF n w0 Q e .normal H):CF P n w0 Q e .skip H:=fun a w hf hw=>wp_skip (h a w hf hw)
theorem CF.exit(h:PF n w0 Q e (.exit id) H):CF P n w0 Q e (.exit id) H:=fun a w hf hw=>wp_exit (h a w hf hw)
theorem CF.ret(h:PF n w0 Q e .ret H):CF P n w0 Q e .ret H:=fun a w hf hw=>wp_ret (h a w hf hw)
theorem CF.cond{c:Operand}{b:Bool}(hc:ev e c=some (.bool b))(ht:b=true→CF P n w0 Q e x H)(hf:b=false→CF P n w0 Q e y H):CF P n w0 Q e (.cond c x y) H:=by
 intro a w hfr hw
 exact wp_cond_split (hfr.ev hc) (fun h=>ht h a w hfr hw) (fun h=>hf h a w hfr hw)
class BoolP (b:Bool) (p q:outParam Prop):Prop where
 pos:b=true→p
 neg:b=false→q
instance(priority:=low) boolP_any (b:Bool):BoolP b (b=true) (b=false):=⟨fun h=>h,fun h=>h⟩
instance boolP_dec(p:Prop)[Decidable p]:BoolP (decide p) p (¬p):=⟨of_decide_eq_true,of_decide_eq_false⟩
instance boolP_and(a b:Bool)(p p' q q':Prop)[h1:BoolP a p p'][h2:BoolP b q q']:BoolP (a&&b) (p∧q) (p'∨q') where
 pos h:=⟨h1.pos (ST h),h2.pos (SR h)⟩
 neg h:=by
  cases a with
  | false=>exact .inl (h1.neg rfl)
  | true=>exact .inr (h2.neg h)
instance boolP_or(a b:Bool)(p p' q q':Prop)[h1:BoolP a p p'][h2:BoolP b q q']:BoolP (a||b) (p∨q) (p'∧q') where
 pos h:=by
  cases a with
  | true=>exact .inl (h1.pos rfl)
  | false=>exact .inr (h2.pos h)
 neg h:=by
  cases a with
  | true=>cases h
  | false=>exact⟨h1.neg rfl,h2.neg h⟩
instance boolP_not(a:Bool)(p p':Prop)[h1:BoolP a p p']:BoolP (!a) p' p:=⟨fun h=>h1.neg (by cases a<;>simp_all),fun h=>h1.pos (by cases a<;>simp_all)⟩
instance boolP_t:BoolP true True False:=⟨fun _=>trivial,fun h=>by cases h⟩
instance boolP_f:BoolP false False True:=⟨fun h=>(by cases h),fun _=>trivial⟩
theorem CF.if{c:Operand}{b:Bool}{p q:Prop}(hc:ev e c=some (.bool b))[hb:BoolP b p q](ht:p→CF P n w0 Q e x H)(hf:q→CF P n w0 Q e y H):CF P n w0 Q e (.cond c x y) H :=
 CF.cond hc (fun h=>ht (hb.pos h)) (fun h=>hf (hb.neg h))
def VX{ι:Type}(n:Fs)(w0:World)(inv:ι→Heap→Prop)(env:ι→Env)(μ:ι→Nat)(i:ι)(a:Act)(w:World):Prop :=
 ∃j,inv j w.heap∧Fr n (env j) a∧Wd w0 w.heap w∧μ j<μ i
theorem CF.loop{ι:Type}(inv:ι→Heap→Prop)(env:ι→Env)(μ:ι→Nat)(i0:ι)(h0:inv i0 H)(hs:Sub e (env i0))
  (round:∀i H',inv i H'→CF P n w0 (Exit.then (VX n w0 inv env μ i) Q) (env i) x H'):CF P n w0 Q e (.loop x) H:=by
 intro a w hf hw
 refine wp_loop_ghost (fun m a w=>∃i,μ i=m∧inv i w.heap∧Fr n (env i) a∧Wd w0 w.heap w) (μ i0) ⟨i0,rfl,hw.heap▸h0,hf.sub hs,⟨rfl,hw.os,hw.tape,hw.output⟩⟩ ?_
 rintro m a w ⟨i,hm,hi,hfi,hwi⟩
 refine wp_mono (round i w.heap hi a w hfi hwi) ?_
 intro x a' w' hq
 cases x with
 | normal=>obtain⟨j,h1,h2,h3,h4⟩:=hq;exact⟨μ j,hm▸h4,j,rfl,h1,h2,h3⟩
 | _=>exact hq
theorem CF.scope(h:CF P n w0 (Exit.noGoto Q) e x H):CF P n w0 Q e (.scope x) H:=fun a w hf hw=>wp_scope_straight (h a w hf hw)
theorem PF.scope{z:Exit}(h:PF n w0 Q e z H)(hz:∀l,z ≠ .goto l):PF n w0 (Exit.noGoto Q) e z H:=by
 intro a w hf hw
 cases z with
 | goto l=>exact absurd rfl (hz l)
 | _=>exact h a w hf hw
theorem CF.label{l:Nat}(h:PF n w0 Q e .normal H):CF P n w0 Q e (.label l) H:=fun a w hf hw=>wp_label (h a w hf hw)
end code
section func
variable{f:FuncId}{fn:Func}{c:Code}{R:Value→Heap→Prop}
def BQ(P:Program)(fn:Func)(w0:World)(R:Value→Heap→Prop):Exit→Act→World→Prop :=
 bodyPost P fn fun x w'=>∃v,x = .returned v∧w'.os=w0.os∧w'.tape=w0.tape∧w'.output=w0.output∧R v w'.heap
def Gv:Nat→List Value→Env
 | _,[]=>[]
 | k,v::r=>(k,v)::Gv (k+1) r
theorem Mw:∀(l:List Value) (k t:Nat) (v:Value),lk (Gv k l) t=some v→∃i,t=k+i∧l[i]? = some v
 | [],_,_,_,h=>by simp[Gv,lk] at h
 | u::r,k,t,v,h=>by
  simp only[Gv,lk] at h
  by_cases e1:k=t
  ·subst e1
   rw[show Nat.beq k k=true by simp] at h
   simp only[cond_true,Option.some.injEq] at h
   exact⟨0,rfl,by simp[h]⟩
  ·rw[Zc e1] at h
   obtain⟨i,h1,h2⟩:=Mw r (k+1) t v h
   exact⟨i+1,by omega,by simpa using h2⟩
theorem Ct.enter{args:List Value}{n:Nat}(hf:P.funcs[f]? = some fn)(hb:fn.body=some c)(hn:fn.ntmps=n)(ha:Nat.ble args.length n=true)
  (h:∀w0:World,w0.heap=H→CF P ⟨n,[]⟩ w0 (BQ P fn w0 R) (Gv 0 args) c H):Ct P f args.toArray H R:=by
 intro w hw
 refine calls_of_wp hf hb ?_
 have ha':args.length≤n:=by simpa[Nat.ble_eq] using ha
 refine h w hw _ w ⟨?_,rfl,?_⟩ ⟨hw,rfl,rfl,rfl⟩
 ·simp[hn];omega
 ·intro t v hv
  obtain⟨i,h1,h2⟩:=Mw args 0 t v hv
  have hi:i<args.length:=(List.getElem?_eq_some_iff.1 h2).1
  have e1:t=i:=by omega
  subst e1
  simp only[Array.getD_eq_getD_getElem?]
  rw[Array.getElem?_append_left (by simpa using hi)]
  simp[h2]
theorem PF.ret1{m:Nat}{t:Nat}{v:Value}(hr:fn.results=#[.tmp t])(hv:lk e t=some v)(hR:R v H):PF ⟨m,[]⟩ w0 (BQ P fn w0 R) e .ret H:=by
 intro a w hf hw
 refine bodyPost_ret (results_tmp hr _ _ _) hf.defers ⟨v,?_,hw.os,hw.tape,hw.output,hw.heap▸hR⟩
 rw[hf.get t v hv]
theorem PF.ret0{m:Nat}(hr:fn.results=#[])(hR:R (.tuple #[]) H):PF ⟨m,[]⟩ w0 (BQ P fn w0 R) e .ret H:=by
 intro a w hf hw
 exact bodyPost_ret (results_none hr _ _ _) hf.defers ⟨_,rfl,hw.os,hw.tape,hw.output,hw.heap▸hR⟩
theorem PF.end0{m:Nat}(hr:fn.results=#[])(hR:R (.tuple #[]) H):PF ⟨m,[]⟩ w0 (BQ P fn w0 R) e .normal H:=by
 intro a w hf hw
 exact bodyPost_end (results_none hr _ _ _) hf.defers ⟨_,rfl,hw.os,hw.tape,hw.output,hw.heap▸hR⟩
theorem PF.ret2{m:Nat}{t u:Nat}{v v':Value}(hr:fn.results=#[.tmp t,.tmp u])(hv:lk e t=some v)(hv':lk e u=some v')(hR:R (.tuple #[v,v']) H):PF ⟨m,[]⟩ w0 (BQ P fn w0 R) e .ret H:=by
 intro a w hf hw
 refine bodyPost_ret (results_tmp2 hr _ _ _) hf.defers ⟨_,?_,hw.os,hw.tape,hw.output,hw.heap▸hR⟩
 rw[hf.get t v hv,hf.get u v' hv']
end func
end Go.JE
namespace Go.JE
variable{P:Program}{e:Env}{H:Heap}
theorem Lg{α β:Type}{x:Sem α}{f:α→Sem β}{w w':World}{a:α}(h:x.run P w = .ok a w'):(x >>= f).run P w=(f a).run P w':=by
 rw[Sem.run_bind,h];rfl
theorem Aa.move{x:Operand}{v:Value}(hx:ev e x=some v):Aa P e (.move x) H v:=by
 intro ρ o w ho hev _
 simp[execOp,ho,hev _ _ hx]
theorem Aa.assign{x:Operand}{v:Value}(hx:ev e x=some v):Aa P e (.assign x) H v:=by
 intro ρ o w ho hev _
 simp[execOp,ho,hev _ _ hx]
theorem Aa.pickAnd{c x:Operand}{b b2:Bool}(hc:ev e c=some (.bool b))(hx:ev e x=some (gv b (.bool b2))):Aa P e (.pick c x (.const (.bool false))) H (.bool (b&&b2)):=by
 intro ρ o w ho hev _
 have h3:ρ (.const (.bool false)) = .bool false:=hev _ _ rfl
 cases b<;>simp[execOp,ho,hev _ _ hx,h3,hev _ _ hc,asBool,gv]
theorem Aa.pickOr{c x:Operand}{b b2:Bool}(hc:ev e c=some (.bool b))(hx:ev e x=some (gv (!b) (.bool b2))):Aa P e (.pick c (.const (.bool true)) x) H (.bool (b||b2)):=by
 intro ρ o w ho hev _
 have h3:ρ (.const (.bool true)) = .bool true:=hev _ _ rfl
 cases b<;>simp[execOp,ho,hev _ _ hx,h3,hev _ _ hc,asBool,gv]
theorem Aa.pickAnd2{c x:Operand}{C b b2:Bool}(hC:C=true)(hc:ev e c=some (gv C (.bool b)))(hx:ev e x=some (gv (C&&b) (.bool b2))):Aa P e (.pick c x (.const (.bool false))) H (.bool (b&&b2)):=by
 subst hC;exact Aa.pickAnd hc (by simpa using hx)
theorem Aa.pickOr2{c x:Operand}{C b b2:Bool}(hC:C=true)(hc:ev e c=some (gv C (.bool b)))(hx:ev e x=some (gv (C&&!b) (.bool b2))):Aa P e (.pick c (.const (.bool true)) x) H (.bool (b||b2)):=by
 subst hC;exact Aa.pickOr hc (by simpa using hx)
theorem Aa.not{T:TypeId}{x:Operand}{b:Bool}(hx:ev e x=some (.bool b)):Aa P e (.unOp .not T x) H (.bool (!b)):=by
 intro ρ o w ho hev _
 simp[execOp,ho,hev _ _ hx,Op.unary]
theorem Aa.neg{T:TypeId}{x:Operand}{k:IntKind}{m r:Int}(hx:ev e x=some (.int k m))(hr:k.wrap (0-m)=r):Aa P e (.unOp .neg T x) H (.int k r):=by
 intro ρ o w ho hev _
 simp only[execOp,ho,hev _ _ hx,Op.unary,Op.intArith,hr];rfl
theorem Aa.extract{x:Operand}{vs:Array Value}{i:Nat}{v:Value}(hx:ev e x=some (.tuple vs))(hi:vs[i]? = some v):Aa P e (.extract x i) H v:=by
 intro ρ o w ho hev _
 simp[execOp,ho,hev _ _ hx,Instr.extract,hi]
theorem Aa.nilCheck{x:Operand}{a:Addr}(hx:ev e x=some (.pointer (some a))):Aa P e (.nilCheck x) H (.pointer (some a)):=by
 intro ρ o w ho hev _
 simp[execOp,ho,hev _ _ hx]
theorem Aa.makeFunc1{fn:Fn}{x1:Operand}{v1:Value}(h1:ev e x1=some v1):Aa P e (.makeFunc fn #[] #[x1]) H (.func fn #[] #[v1]):=by
 intro ρ o w ho hev _
 simp[execOp,ho,Instr.makeFunc,hev _ _ h1]
theorem Aa.makeFunc2{fn:Fn}{x1 x2:Operand}{v1 v2:Value}(h1:ev e x1=some v1)(h2:ev e x2=some v2):Aa P e (.makeFunc fn #[] #[x1,x2]) H (.func fn #[] #[v1,v2]):=by
 intro ρ o w ho hev _
 simp[execOp,ho,Instr.makeFunc,hev _ _ h1,hev _ _ h2]
theorem Aa.makeFunc3{fn:Fn}{x1 x2 x3:Operand}{v1 v2 v3:Value}(h1:ev e x1=some v1)(h2:ev e x2=some v2)(h3:ev e x3=some v3):Aa P e (.makeFunc fn #[] #[x1,x2,x3]) H (.func fn #[] #[v1,v2,v3]):=by
 intro ρ o w ho hev _
 simp[execOp,ho,Instr.makeFunc,hev _ _ h1,hev _ _ h2,hev _ _ h3]
theorem Aa.makeFunc4{fn:Fn}{x1 x2 x3 x4:Operand}{v1 v2 v3 v4:Value}(h1:ev e x1=some v1)(h2:ev e x2=some v2)(h3:ev e x3=some v3)(h4:ev e x4=some v4):Aa P e (.makeFunc fn #[] #[x1,x2,x3,x4]) H (.func fn #[] #[v1,v2,v3,v4]):=by
 intro ρ o w ho hev _
 simp[execOp,ho,Instr.makeFunc,hev _ _ h1,hev _ _ h2,hev _ _ h3,hev _ _ h4]
theorem wrap_i64{m:Int}(h:-9223372036854775808≤m∧m≤9223372036854775807):IntKind.i64.wrap m=m:=IntWalk.i64_in m h
theorem wrap_i32{m:Int}(h:-2147483648≤m∧m≤2147483647):IntKind.i32.wrap m=m:=IntWalk.i32_in m h
section
variable{T T':TypeId}{x y:Operand}{k:IntKind}{m n r:Int}
theorem Ir{op:BinOp}{s:Sem Value}{v:Value}(hx:ev e x=some (.int k m))(hy:ev e y=some (.int k n))(hop:binOp op T (.int k m) (.int k n)=s)(hs:∀w,s.run P w = .ok v w):Aa P e (.binOp op T x y T') H v:=by
 intro ρ o w ho hev _
 have h1:=hev _ _ hx
 have h2:=hev _ _ hy
 have hq:(eqGuard op T x y (.int k m) (.int k n))=pure ():=by
  unfold eqGuard;split<;>rfl
 simp only[execOp,ho,h1,h2,hq,hop]
 rw[Lg (a:=v) (w':=w)]
 ·rfl
 ·rw[Lg (a:=()) (w':=w) rfl];exact hs w
theorem Aa.addw(hx:ev e x=some (.int k m))(hy:ev e y=some (.int k n))(hr:k.wrap (m+n)=r):Aa P e (.binOp .add T x y T') H (.int k r) :=
 Ir hx hy (by simp only[binOp,ne_eq,not_true_eq_false,if_false,Op.intArith,hr];rfl) (fun _=>rfl)
theorem Aa.subw(hx:ev e x=some (.int k m))(hy:ev e y=some (.int k n))(hr:k.wrap (m-n)=r):Aa P e (.binOp .sub T x y T') H (.int k r) :=
 Ir hx hy (by simp only[binOp,ne_eq,not_true_eq_false,if_false,Op.intArith,hr];rfl) (fun _=>rfl)
theorem Aa.mulw(hx:ev e x=some (.int k m))(hy:ev e y=some (.int k n))(hr:k.wrap (m*n)=r):Aa P e (.binOp .mul T x y T') H (.int k r) :=
 Ir hx hy (by simp only[binOp,ne_eq,not_true_eq_false,if_false,Op.intArith,hr];rfl) (fun _=>rfl)
theorem Aa.add(hx:ev e x=some (.int .i64 m))(hy:ev e y=some (.int .i64 n))(hr:-9223372036854775808≤m+n∧m+n≤9223372036854775807):Aa P e (.binOp .add T x y T') H (.int .i64 (m+n)) :=
 Aa.addw hx hy (wrap_i64 hr)
theorem Aa.sub(hx:ev e x=some (.int .i64 m))(hy:ev e y=some (.int .i64 n))(hr:-9223372036854775808≤m-n∧m-n≤9223372036854775807):Aa P e (.binOp .sub T x y T') H (.int .i64 (m-n)) :=
 Aa.subw hx hy (wrap_i64 hr)
theorem Aa.mul(hx:ev e x=some (.int .i64 m))(hy:ev e y=some (.int .i64 n))(hr:-9223372036854775808≤m*n∧m*n≤9223372036854775807):Aa P e (.binOp .mul T x y T') H (.int .i64 (m*n)) :=
 Aa.mulw hx hy (wrap_i64 hr)
theorem Aa.rem(hx:ev e x=some (.int k m))(hy:ev e y=some (.int k n))(h0:n≠0):Aa P e (.binOp .rem T x y T') H (.int k (m.tmod n)) :=
 Ir hx hy (by simp only[binOp,ne_eq,not_true_eq_false,Op.intDiv,h0,if_false];rfl) (fun _=>rfl)
theorem Aa.quow(hx:ev e x=some (.int k m))(hy:ev e y=some (.int k n))(h0:n≠0)(hr:k.wrap (m.tdiv n)=r):Aa P e (.binOp .quo T x y T') H (.int k r) :=
 Ir hx hy (by simp only[binOp,ne_eq,not_true_eq_false,Op.intDiv,h0,if_false,hr];rfl) (fun _=>rfl)
theorem Aa.lss(hx:ev e x=some (.int k m))(hy:ev e y=some (.int k n)):Aa P e (.binOp .lss T x y T') H (.bool (decide (m<n))) :=
 Ir hx hy (by simp only[binOp,ne_eq,not_true_eq_false,if_false,Op.intCmp];rfl) (fun _=>rfl)
theorem Aa.leq(hx:ev e x=some (.int k m))(hy:ev e y=some (.int k n)):Aa P e (.binOp .leq T x y T') H (.bool (decide (m≤n))) :=
 Ir hx hy (by simp only[binOp,ne_eq,not_true_eq_false,if_false,Op.intCmp];rfl) (fun _=>rfl)
theorem Aa.gtr(hx:ev e x=some (.int k m))(hy:ev e y=some (.int k n)):Aa P e (.binOp .gtr T x y T') H (.bool (decide (n<m))) :=
 Ir hx hy (by simp only[binOp,ne_eq,not_true_eq_false,if_false,Op.intCmp];rfl) (fun _=>rfl)
theorem Aa.geq(hx:ev e x=some (.int k m))(hy:ev e y=some (.int k n)):Aa P e (.binOp .geq T x y T') H (.bool (decide (n≤m))) :=
 Ir hx hy (by simp only[binOp,ne_eq,not_true_eq_false,if_false,Op.intCmp];rfl) (fun _=>rfl)
theorem Aa.eql(hx:ev e x=some (.int k m))(hy:ev e y=some (.int k n)):Aa P e (.binOp .eql T x y T') H (.bool (decide (m=n))) :=
 Ir hx hy (by simp only[binOp,ne_eq,not_true_eq_false,if_false,Op.intCmp];rfl) (fun w=>by simp;rfl)
theorem Aa.neq(hx:ev e x=some (.int k m))(hy:ev e y=some (.int k n)):Aa P e (.binOp .neq T x y T') H (.bool (!decide (m=n))) :=
 Ir hx hy (by simp only[binOp,ne_eq,not_true_eq_false,if_false,Op.intCmp];rfl) (fun w=>by by_cases h:m=n<;>simp[h])
end
def hc(H:Heap)(b o:Nat):Option Value :=
 match H[b]? with
 | some (.cells c _ _)=>c[o]?
 | _=>none
theorem Jp{w:World}{b o:Nat}:w.cell? ⟨b,o,none⟩=hc w.heap b o:=by
 unfold World.cell? hc
 cases w.heap[b]? with
 | none=>rfl
 | some x=>cases x<;>simp
def Cb:Value→Nat
 | .slice (some a) _ _=>a.block
 | _=>0
def Ca:Value→Nat
 | .slice (some a) _ _=>a.off
 | _=>0
def Ps(v:Value)(i:Nat):Addr:=⟨Cb v,Ca v+i,none⟩
def Sl(H:Heap)(B:Nat)(v:Value)(s n:Nat)(f:Nat→Value):Prop :=
 n≤9223372036854775807∧∃a cap,v = .slice a n cap∧n≤cap∧(∀i,i<n*s→∃b o,a=some ⟨b,o,none⟩∧b<B∧hc H b (o+i)=some (f i))
theorem Sl.at{B:Nat}{v:Value}{s n:Nat}{f:Nat→Value}(h:Sl H B v s n f){i:Nat}(hi:i<n*s):hc H (Ps v i).block (Ps v i).off=some (f i):=by
 obtain⟨_,a,cap,rfl,_,h⟩:=h
 obtain⟨b,o,rfl,_,h⟩:=h i hi
 exact h
theorem Aa.lenS{T:TypeId}{x:Operand}{a:Option Addr}{n c:Nat}{E:TypeId}(hT:P.underlying T=some (.slice E))(hx:ev e x=some (.slice a n c)):Aa P e (.call { callee := .builtin .len,args:=#[x],argTypes:=#[T] }) H (.int .i64 n):=by
 intro ρ o w ho hev _
 simp[execOp,ho,hev _ _ hx,resolve,invoke,builtin,Builtin.len_,run_underlying hT,goInt]
def Sz(P:Program)(t:TypeId)(s:Nat):Prop:=(P.info? t).map (·.size)=some s
theorem Sz.run{t:TypeId}{s:Nat}(h:Sz P t s)(w:World):(sizeOf t).run P w = .ok s w:=by
 obtain⟨i,hi,rfl⟩:=Option.map_eq_some_iff.1 h
 simp[sizeOf,typeInfo,hi]
theorem Aa.indexA{T E:TypeId}{x ix:Operand}{b o len cap:Nat}{k:IntKind}{i:Int}{s:Nat}(hT:P.underlying T=some (.slice E))(hE:Sz P E s)(hx:ev e x=some (.slice (some ⟨b,o,none⟩) len cap))(hi:ev e ix=some (.int k i))(h0:0≤i)(h1:i<len) :
  Aa P e (.indexAddr T x ix) H (.pointer (some ⟨b,o+i.toNat*s,none⟩)):=by
 intro ρ oo w ho hev _
 have hadd:(⟨b,o,none⟩:Addr).add (i.toNat*s)=⟨b,o+i.toNat*s,none⟩:=by
  unfold Addr.add;split
  ·rename_i h;rw[h];rfl
  ·rfl
 simp[execOp,ho,hev _ _ hx,hev _ _ hi,Instr.indexAt,asIntOf,run_underlying hT,h0,h1,hE.run,hadd]
theorem Aa.index{T E:TypeId}{x ix:Operand}{B:Nat}{v:Value}{s n:Nat}{f:Nat→Value}{k:IntKind}{i:Int}(hT:P.underlying T=some (.slice E))(hE:Sz P E s)(hs:Sl H B v s n f)(hx:ev e x=some v)(hi:ev e ix=some (.int k i))(h0:0≤i)(h1:i<n)(hsz:0<s:=by omega) :
  Aa P e (.indexAddr T x ix) H (.pointer (some (Ps v (i.toNat*s)))):=by
 obtain⟨_,a,cap,rfl,_,h⟩:=hs
 obtain⟨b,o,rfl,_,_⟩:=h 0 (Nat.mul_pos (by omega) hsz)
 exact Aa.indexA hT hE hx hi h0 h1
def One(P:Program)(t:TypeId):Prop:=∃d,P.underlying t=some d∧(match d with | .struct _ | .array _ _=>false|_=>true)=true
theorem One.run{t:TypeId}(h:One P t)(w:World):(isAgg t).run P w = .ok false w:=by
 obtain⟨d,hd,hm⟩:=h
 cases d<;>simp_all[isAgg,run_underlying hd]
theorem Aa.load{T:TypeId}{x:Operand}{a:Addr}{v:Value}(hT:One P T)(hx:ev e x=some (.pointer (some a)))(hs:a.spot=none)(hcell:hc H a.block a.off=some v):Aa P e (.load T x) H v:=by
 intro ρ o w ho hev hw
 have h1:w.cell? a=some v:=by
  obtain⟨b,o,sp⟩:=a
  simp only at hs hcell
  subst hs
  rw[Jp,hw];exact hcell
 simp[execOp,ho,hev _ _ hx,Instr.loadAt,Instr.sureAddr,loadVar,hT.run,h1]
end Go.JE
namespace Go.JE
variable{P:Program}{e:Env}{H:Heap}
def Kp(B:Nat)(H H':Heap):Prop:=H.size≤H'.size∧∀k,k<B→H'[k]? = H[k]?
theorem Kp.refl(B:Nat)(H:Heap):Kp B H H:=⟨Nat.le_refl _,fun _ _=>rfl⟩
theorem Nq{H:Heap}{o:Obj}{k:Nat}(hk:k<H.size):(H.push o)[k]? = H[k]? := by rw[Array.getElem?_push,if_neg (by omega)]
theorem Nr{H:Heap}{o:Obj}:(H.push o)[H.size]? = some o:=by simp
theorem Kp.push{B:Nat}{H0 H:Heap}(h:Kp B H0 H)(hB:B≤H0.size)(o:Obj):Kp B H0 (H.push o):=by
 have h1:=h.1
 exact⟨by simp;omega,fun k hk=>(Nq (by omega)).trans (h.2 k hk)⟩
def Ie(H:Heap)(b i:Nat)(v:Value):Heap:=H.modify b fun
 | .cells c elem frozen => .cells (c.setIfInBounds i v) elem frozen
 | o=>o
theorem Wo{w:World}{b i:Nat}{v:Value}:(w.setCell ⟨b,i,none⟩ v).heap=Ie w.heap b i v:=by
 simp only[World.setCell,Ie,Option.isSome_none,Bool.false_eq_true,if_false]
 congr 1
theorem Ss{b i:Nat}{v:Value}:(Ie H b i v).size=H.size:=by simp[Ie]
theorem Su{b i k:Nat}{v:Value}(hk:k≠b):(Ie H b i v)[k]? = H[k]? := by
 simp only[Ie,Array.getElem?_modify];rw[if_neg (by omega)]
def Rw(H:Heap)(b:Nat)(T:TypeId)(n:Nat)(f:Nat→Value):Prop:=∃c,H[b]? = some (.cells c T (0,0))∧c.size=n∧∀i,i<n→c[i]? = some (f i)
section
variable{b n:Nat}{T:TypeId}{f g:Nat→Value}
theorem Rw.cell(h:Rw H b T n f){i:Nat}(hi:i<n):hc H b i=some (f i):=by
 obtain⟨c,h1,_,h2⟩:=h
 simp[hc,h1,h2 i hi]
theorem Rw.set{i:Nat}{v:Value}(h:Rw H b T n f):Rw (Ie H b i v) b T n (fun j=>if j=i then v else f j):=by
 obtain⟨c,h1,h2,h3⟩:=h
 refine⟨c.setIfInBounds i v,?_,by simp[h2],fun j hj=>?_⟩
 ·simp only[Ie,Array.getElem?_modify,if_true,h1,Option.map_some]
 ·by_cases e1:j=i
  ·subst e1;simp[h2,hj]
  ·rw[Array.getElem?_setIfInBounds_ne (by omega)];simp[e1,h3 j hj]
end
theorem Av.box{T:TypeId}{x:Operand}{v:Value}(hx:ev e x=some v):Av P e (.box T x) H (fun u H'=>u = .pointer (some ⟨H.size,0,none⟩)∧H'=H.push (.cells v.cells T)):=by
 intro ρ o w ho hev hw
 refine⟨.pointer (some ⟨w.heap.size,0,none⟩),{ w with heap:=w.heap.push (.cells v.cells T) },.inl ?_,rfl,rfl,rfl,?_⟩
 ·simp[execOp,ho,hev _ _ hx,Instr.box,newVar,newRow]
 ·subst hw;exact⟨rfl,rfl⟩
theorem Av.alloc{T:TypeId}{z:Value}(hz:(P.info? T).bind (·.zero)=some z):Av P e (.alloc T) H (fun u H'=>u = .pointer (some ⟨H.size,0,none⟩)∧H'=H.push (.cells z.cells T)):=by
 intro ρ o w ho hev hw
 obtain⟨i,hi,hiz⟩:=Option.bind_eq_some_iff.1 hz
 refine⟨.pointer (some ⟨w.heap.size,0,none⟩),{ w with heap:=w.heap.push (.cells z.cells T) },.inl ?_,rfl,rfl,rfl,?_⟩
 ·simp[execOp,ho,Instr.alloc,newVar,newRow,zeroValue,typeInfo,hi,hiz]
 ·subst hw;exact⟨rfl,rfl⟩
theorem Av.makeMap0{T:TypeId}:Av P e (.makeMap T none) H (fun u H'=>u = .map (some H.size)∧H'=H.push (.map #[] 0)):=by
 intro ρ o w ho hev hw
 refine⟨.map (some w.heap.size),{ w with heap:=w.heap.push (.map #[] 0) },.inl ?_,rfl,rfl,rfl,?_⟩
 ·simp[execOp,ho,Instr.makeMap]
 ·subst hw;exact⟨rfl,rfl⟩
theorem Av.make{T E:TypeId}{x y:Operand}{n:Nat}{z:Value}{bytes:Nat}(hT:P.underlying T=some (.slice E))(hE:(P.info? E).map (fun i=>(i.zero,i.size,i.bytes))=some (some z,1,bytes))(hz:z.cells=#[z])
  (hx:ev e x=some (.int .i64 n)) (hy:ev e y=some (.int .i64 n)) (h1:bytes*n≤281474976710656) (h2:n≤9223372036854775807) :
  Av P e (.makeSlice T x y) H (fun u H'=>u = .slice (some ⟨H.size,0,none⟩) n n∧H'.size=H.size+1∧(∀k,k<H.size→H'[k]? = H[k]?)∧Rw H' H.size E n (fun _=>z)):=by
 intro ρ o w ho hev hw
 have hrun:=run_make_row' (P:=P) T E z bytes hT hE hz .i64 .i64 n h1 h2 w
 refine⟨.slice (some ⟨w.heap.size,0,none⟩) n n,w.alloc (.cells (madeCells #[z] n) E),.inl ?_,rfl,rfl,rfl,?_⟩
 ·simp[execOp,ho,hev _ _ hx,hev _ _ hy,hrun]
 ·subst hw
  refine⟨rfl,by show(w.heap.push _).size=_;simp,fun k hk=>Nq hk,madeCells #[z] n,Nr,by simp[madeCells],fun i hi=>?_⟩
  simp[madeCells,hi,Nat.mod_one]
theorem Av.store{T:TypeId}{x y:Operand}{b i n:Nat}{E:TypeId}{f:Nat→Value}{v:Value}(hT:Sz P T 1)(hx:ev e x=some (.pointer (some ⟨b,i,none⟩)))(hy:ev e y=some v)(h1:v.oneCell'=true)(hr:Rw H b E n f)(hi:i<n) :
  Av P e (.store T x y) H (fun _ H'=>H'=Ie H b i v):=by
 intro ρ o w ho hev hw
 obtain⟨c,hc1,hc2,hc3⟩:=hr
 have hcell:w.cell? ⟨b,i,none⟩=some (f i):=by rw[Jp,hw];simp[hc,hc1,hc3 i hi]
 have hfr:w.frozen? ⟨b,i,none⟩=false:=by simp[World.frozen?,hw,hc1]
 have hcs:v.cells=#[v]:=by cases v<;>first|rfl|cases h1
 refine⟨undef,w.setCell ⟨b,i,none⟩ v,.inr ⟨?_,rfl⟩,rfl,rfl,rfl,?_⟩
 ·simp[execOp,ho,hev _ _ hx,hev _ _ hy,Instr.storeAt,Instr.sureAddr,storeVar,hT.run,hcs,storeCells,run_store P w _ _ _ h1,Addr.add,hcell,hfr]
 ·rw[Wo,hw]
def evs(e:Env):List (Nat×Operand)→Option (List (Nat×Value))
 | []=>some []
 | (i,x)::r=>match ev e x,evs e r with
  | some v,some l=>some ((i,v)::l)
  | _,_=>none
theorem Uu{ρ:Operand→Value}(hev:∀x u,ev e x=some u→ρ x=u):∀(l:List (Nat×Operand)) (r:List (Nat×Value)),evs e l=some r→l.map (fun p=>(p.1,ρ p.2))=r
 | [],r,h=>by simp[evs] at h;subst h;rfl
 | (i,x)::l,r,h=>by
  simp only[evs] at h
  cases h1:ev e x with
  | none=>simp[h1] at h
  | some v =>
   cases h2:evs e l with
   | none=>simp[h1,h2] at h
   | some m =>
    simp only[h1,h2,Option.some.injEq] at h
    subst h
    simp only[List.map_cons,hev _ _ h1,Uu hev l m h2]
theorem Aa.build{T:TypeId}{l:List (Nat×Operand)}{r:List (Nat×Value)}{v:Value}(hl:evs e l=some r)(hb:∀w,(Instr.build T r.toArray).run P w = .ok v w):Aa P e (.build T l.toArray) H v:=by
 intro ρ o w ho hev _
 have h1:(l.toArray.map fun(i,x)=>(i,ρ x))=r.toArray:=by
  rw[←Uu hev l r hl];simp
 simp[execOp,ho]
 rw[show(List.map (fun p=>(p.1,ρ p.2)) l)=r from Uu hev l r hl,hb]
 rfl
theorem Av.buildSlice{T E:TypeId}{m:Nat}{l:List (Nat×Operand)}{r:List (Nat×Value)}{cs:Array Value}(hl:evs e l=some r)
  (hb:∀w:World,(Instr.buildSlice T m r.toArray).run P w = .ok (.slice (some ⟨w.heap.size,0,none⟩) m m) (w.alloc (.cells cs E))) :
  Av P e (.buildSlice T m l.toArray) H (fun u H'=>u = .slice (some ⟨H.size,0,none⟩) m m∧H'=H.push (.cells cs E)):=by
 intro ρ o w ho hev hw
 refine⟨.slice (some ⟨w.heap.size,0,none⟩) m m,w.alloc (.cells cs E),.inl ?_,rfl,rfl,rfl,?_⟩
 ·simp[execOp,ho]
  rw[show(List.map (fun p=>(p.1,ρ p.2)) l)=r from Uu hev l r hl,hb]
  rfl
 ·subst hw;exact⟨rfl,rfl⟩
def Gr(H:Heap)(B:Nat)(E:TypeId)(s:Nat)(v:Value)(n:Nat)(xs:List Value):Prop :=
 xs.length=n*s ∧
 ((v = .slice none 0 0∧n=0) ∨
  ∃g cap cur,v = .slice (some ⟨g,0,none⟩) n cap∧B≤g∧H[g]? = some (.cells cur E (0,0))∧n≤cap∧cap≤maxLen∧cur.size=cap*s∧cur.toList.take (n*s)=xs)
theorem Gr.owns{w:World}{B:Nat}{E:TypeId}{s:Nat}{v:Value}{n:Nat}{xs:List Value}:w.ownsRow B E s v n xs↔Gr w.heap B E s v n xs:=Iff.rfl
theorem Gr.nil(B:Nat)(E:TypeId)(s:Nat):Gr H B E s (.slice none 0 0) 0 []:=⟨by simp,.inl ⟨rfl,rfl⟩⟩
section
variable{B n s:Nat}{E:TypeId}{v:Value}{xs:List Value}
theorem Gr.blk(h:Gr H B E s v n xs):∀k,v.ownBlock=some k→B≤k∧k<H.size:=by
 intro k hk
 rcases h.2 with⟨rfl,_⟩|⟨g,cap,cur,rfl,hb,hg,_⟩
 ·simp[Value.ownBlock] at hk
 ·simp[Value.ownBlock] at hk;subst hk;exact⟨hb,(Array.getElem?_eq_some_iff.1 hg).1⟩
theorem Gr.of{H':Heap}(h:Gr H B E s v n xs)(hk:∀k,v.ownBlock=some k→H'[k]? = H[k]?):Gr H' B E s v n xs:=by
 refine⟨h.1,?_⟩
 rcases h.2 with hn|⟨g,cap,cur,rfl,hb,hg,r⟩
 ·exact .inl hn
 ·exact .inr ⟨g,cap,cur,rfl,hb,(hk g rfl).trans hg,r⟩
theorem Gr.push(h:Gr H B E s v n xs)(o:Obj):Gr (H.push o) B E s v n xs:=h.of fun k e1=>Nq (h.blk k e1).2
theorem Gr.lenLe(h:Gr H B E s v n xs):n≤9223372036854775807:=by
 rcases h.2 with⟨_,rfl⟩|⟨g,cap,cur,_,_,_,h1,h2,_⟩
 ·omega
 ·unfold maxLen at h2;omega
theorem Gr.sl(h:Gr H B E s v n xs){f:Nat→Value}(hf:∀i,i<n*s→xs[i]? = some (f i)):Sl H H.size v s n f:=by
 refine⟨h.lenLe,?_⟩
 rcases h.2 with⟨rfl,rfl⟩|⟨g,cap,cur,rfl,hb,hg,h1,h2,h3,h4⟩
 ·exact⟨none,0,rfl,Nat.le_refl _,fun i hi=>by simp at hi⟩
 ·refine⟨_,_,rfl,h1,fun i hi=>⟨g,0,rfl,(Array.getElem?_eq_some_iff.1 hg).1,?_⟩⟩
  have h5:=hf i hi
  rw[←h4,List.getElem?_take,if_pos hi] at h5
  simp only[hc,hg,Nat.zero_add]
  simpa using h5
theorem Gr.len(h:Gr H B E s v n xs):∃a c,v = .slice a n c:=by
 rcases h.2 with⟨rfl,rfl⟩|⟨g,cap,cur,rfl,_⟩
 ·exact⟨_,_,rfl⟩
 ·exact⟨_,_,rfl⟩
theorem Gr.own(h:Gr H B E s v n xs)(hn:0<n):∃g c,v = .slice (some ⟨g,0,none⟩) n c∧B≤g∧g<H.size:=by
 rcases h.2 with⟨rfl,rfl⟩|⟨g,cap,cur,rfl,hb,hg,_⟩
 ·omega
 ·exact⟨_,_,rfl,hb,(Array.getElem?_eq_some_iff.1 hg).1⟩
theorem Gr.set{b i:Nat}{u:Value}(h:Gr H B E s v n xs)(hb:v.ownBlock=some b):Gr (Ie H b i u) B E s v n (xs.set i u):=by
 refine⟨by simp[h.1],?_⟩
 rcases h.2 with⟨rfl,rfl⟩|⟨g,cap,cur,rfl,hb',hg,h1,h2,h3,h4⟩
 ·simp[Value.ownBlock] at hb
 ·simp[Value.ownBlock] at hb;subst hb
  refine .inr ⟨g,cap,cur.setIfInBounds i u,rfl,hb',?_,h1,h2,by simp[h3],?_⟩
  ·simp only[Ie,Array.getElem?_modify,if_true,hg,Option.map_some]
  ·rw[←h4,Array.toList_setIfInBounds,List.take_set]
end
def Of(H H':Heap)(row:Option Nat):Prop:=H.size≤H'.size∧∀k,k<H.size→some k≠row→H'[k]? = H[k]?
theorem SP{B n:Nat}{E:TypeId}{v:Value}{xs:List Value}{T ty:TypeId}{i:TypeInfo}{z:Value}{w w':World}{v':Value}{a:Addr}{m c:Nat}{news:List Value}(ht:P.underlying T=some (.slice E))(hi:P.info? E=some i)(hz:i.zero=some z)(_:0<i.size)
  (hown:Gr w.heap B E i.size v n xs) (hl:news.length=m*i.size) (hnews:∀j u,news[j]? = some u→w.cell? (a.add j)=some u) (h1:∀u∈news,u.oneCell'=true) (h63:n+m≤maxLen) (hbytes:(n+m)*i.bytes≤140737488355328)
  (hrun:(Builtin.append_ #[T,T] ty #[v,.slice (some a) m c]).run P w = .ok v' w'):v'.ownBlock=v.ownBlock∨v'.ownBlock=some w.heap.size:=by
 have hsmall:n+m≤9223372036854775807:=by simp only[maxLen] at h63;omega
 rcases hown.2 with⟨rfl,rfl⟩|⟨g,cap,cur,rfl,hbg,hg,hnc,hcm,hcs,htake⟩
 ·by_cases hm:m=0
  ·subst hm
   have hn:news=[]:=List.eq_nil_of_length_eq_zero (by simpa using hl)
   subst hn
   have hr:(Builtin.append_ #[T,T] ty #[.slice none 0 0,.slice (some a) 0 c]).run P w = .ok (.slice none 0 0) w:=by
    simp[Builtin.append_,run_underlying ht,sizeOf,typeInfo,hi,Builtin.lenOf,Builtin.firstCells,loadCells,loadCellsFrom]
   rw[hr] at hrun
   injection hrun with h2 _
   exact .inl (by rw[←h2])
  ·have hr:=run_append_nil (P:=P) w T ty E i z ht hi hz a m c news hl hnews (by omega) (by omega) (by have hb:=hbytes;simp only[Nat.zero_add] at hb;omega)
   rw[hr] at hrun
   injection hrun with h2 _
   exact .inr (by rw[←h2];rfl)
 ·by_cases hroom:n+m≤cap
  ·have hfit:n*i.size+news.length≤cur.size:=by rw[hl,hcs,←Nat.add_mul];exact Nat.mul_le_mul_right _ hroom
   have hr:=run_append_room (P:=P) w T ty E i ht hi g n cap cur hg a m c news hl hnews h1 hroom hfit
   rw[hr] at hrun
   injection hrun with h2 _
   exact .inl (by rw[←h2];rfl)
  ·have holds:∀j u,xs[j]? = some u→w.cell? ((⟨g,0,none⟩:Addr).add j)=some u:=World.ownsRow.cells (w:=w) (base:=B) (e:=E) (size:=i.size) (n:=n) (v := .slice (some ⟨g,0,none⟩) n cap) ⟨hown.1,.inr ⟨g,cap,cur,rfl,hbg,hg,hnc,hcm,hcs,htake⟩⟩ (g:=g) rfl
   have hr:=run_append_grow (P:=P) w T ty E i z ht hi hz ⟨g,0,none⟩ n cap xs hown.1 holds a m c news hl hnews (by omega) (by omega) (growslice_fits (by omega) hbytes)
   rw[hr] at hrun
   injection hrun with h2 _
   exact .inr (by rw[←h2];rfl)
theorem Av.append{T E:TypeId}{x y:Operand}{B s bytes n m c:Nat}{z v:Value}{xs news:List Value}{b o:Nat}(hT:P.underlying T=some (.slice E))
  (hE:(P.info? E).map (fun i=>(i.zero,i.size,i.bytes))=some (some z,s,bytes)) (hz:z.cells.size=s) (hs:0<s) (hx:ev e x=some v) (hown:Gr H B E s v n xs)
  (hy:ev e y=some (.slice (some ⟨b,o,none⟩) m c)) (hl:news.length=m*s) (hn:∀j u,news[j]? = some u→hc H b (o+j)=some u) (h1:∀u∈news,u.oneCell'=true)
  (hb:(n+m)*bytes≤140737488355328) (hbn:n+m≤140737488355328) (hB:B≤H.size) :
  Av P e (.call { callee := .builtin .append,args:=#[x,y],argTypes:=#[T,T] }) H (fun v' H'=>Gr H' B E s v' (n+m) (xs++news)∧Of H H' v.ownBlock∧(v' = .slice none 0 0↔v = .slice none 0 0∧m=0)∧(v'.ownBlock=v.ownBlock∨v'.ownBlock=some H.size)):=by
 intro ρ oo w ho hev hw
 subst hw
 obtain⟨i,hi,hz0,hz1,hz2⟩:=info_parts hE
 obtain⟨v',w',hrun,r1,r2,r3⟩:=run_append_own (P:=P) w B T oo.type E i z s bytes hT hi hz0 hz1 hz2 hz hs v n xs hown ⟨b,o,none⟩ m c news hl
  (fun j u hj=>by rw[Addr.add_lit,Jp];exact hn j u hj) h1 (by unfold maxLen;omega) hb hB
 subst hz1;subst hz2
 have r4:=SP (P:=P) (w:=w) (a:=⟨b,o,none⟩) hT hi hz0 hs hown hl (fun j u hj=>by rw[Addr.add_lit,Jp];exact hn j u hj) h1 (by unfold maxLen;omega) hb hrun
 refine⟨v',w',.inl ?_,r2.os,r2.tape,r2.output,r1,⟨r2.size,r2.block⟩,r3,r4⟩
 simp[execOp,ho,hev _ _ hx,hev _ _ hy,resolve,invoke,builtin,hrun]
end Go.JE
namespace Go.JE
variable{P:Program}{e:Env}{H:Heap}
theorem nodup_inj{α:Type}{l:List α}(h:l.Nodup){i j:Nat}{a:α}(h1:l[i]? = some a)(h2:l[j]? = some a):i=j:=by
 have hp:=List.pairwise_iff_getElem.1 h
 obtain⟨hi,hi'⟩:=List.getElem?_eq_some_iff.1 h1
 obtain⟨hj,hj'⟩:=List.getElem?_eq_some_iff.1 h2
 rcases Nat.lt_trichotomy i j with h3|h3|h3
 ·exact absurd (hi'.trans hj'.symm) (hp i j hi hj h3)
 ·exact h3
 ·exact absurd (hj'.trans hi'.symm) (hp j i hj hi h3)
structure ImAt(es:Array MapEntry)(clock:Nat)(L:List (Int×Value)):Prop where
 ents:es.toList.map (fun x=>(x.key,x.val))=L.map (fun p=>(Value.int .i64 p.1,p.2))
 nodup:(L.map (·.1)).Nodup
 born:∀x∈es.toList,x.born<clock
 stamps:(es.toList.map (·.born)).Nodup
def Im(H:Heap)(b:Nat)(L:List (Int×Value)):Prop:=∃es clock,H[b]? = some (.map es clock)∧ImAt es clock L
theorem Im.lt{b:Nat}{L:List (Int×Value)}(h:Im H b L):b<H.size:=by obtain⟨es,c,h,_⟩:=h;exact(Array.getElem?_eq_some_iff.1 h).1
theorem Im.of{H':Heap}{b:Nat}{L:List (Int×Value)}(h:Im H b L)(hb:H'[b]? = H[b]?):Im H' b L:=by
 obtain⟨es,c,h1,h2⟩:=h;exact⟨es,c,hb.trans h1,h2⟩
theorem Im.new:Im (H.push (.map #[] 0)) H.size []:=⟨#[],0,Nr,rfl,by simp,by simp,by simp⟩
def lkM(L:List (Int×Value))(k:Int):Option Value:=(L.find? (fun p=>p.1==k)).map (·.2)
def upM:List (Int×Value)→Int→Value→List (Int×Value)
 | [],k,v=>[(k,v)]
 | p::r,k,v=>if p.1==k then (k,v)::r else p::upM r k v
theorem VY(L:List (Int×Value))(k:Int)(v:Value):(upM L k v).map (·.1)=if k∈L.map (·.1) then L.map (·.1) else L.map (·.1)++[k]:=by
 induction L with
 | nil=>simp[upM]
 | cons p r ih =>
  simp only[upM]
  by_cases h:p.1=k
  ·simp[h]
  ·rw[if_neg (by simpa using h)]
   simp only[List.map_cons,ih,List.mem_cons]
   by_cases h2:k∈r.map (·.1)
   ·simp[h2]
   ·simp[h2,Ne.symm h]
theorem D3(L:List (Int×Value))(k j:Int)(v:Value):lkM (upM L k v) j=if j=k then some v else lkM L j:=by
 induction L with
 | nil =>
  by_cases h:j=k
  ·simp[upM,lkM,h]
  ·have h':¬k=j:=fun e1=>h e1.symm
   simp[upM,lkM,h,h']
 | cons p r ih =>
  simp only[upM]
  by_cases h:p.1=k
  ·simp only[h,beq_self_eq_true,if_true]
   by_cases h2:j=k
   ·simp[lkM,h2]
   ·simp[lkM,h,h2,Ne.symm h2]
  ·rw[if_neg (by simpa using h)]
   by_cases h2:p.1=j
   ·have:j≠k:=fun e1=>h (h2.trans e1)
    simp[lkM,h2,this]
   ·have h3:lkM (p::upM r k v) j=lkM (upM r k v) j:=by simp[lkM,h2]
    have h4:lkM (p::r) j=lkM r j:=by simp[lkM,h2]
    rw[h3,h4,ih]
theorem AT(k:Int):∀(l:List MapEntry) (L:List (Int×Value)) (i:Nat),l.map (fun x=>(x.key,x.val))=L.map (fun p=>(Value.int .i64 p.1,p.2)) →
  Instr.findNow (.int .i64) (.int .i64 k) l i=some ((L.zipIdx i).find? (fun q=>q.1.1==k) |>.map fun q=>(q.2,q.1.2))
 | [],[],i,_=>by simp[Instr.findNow]
 | [],_::_,i,h=>by simp at h
 | _::_,[],i,h=>by simp at h
 | x::l,p::L,i,h=>by
  simp only[List.map_cons,List.cons.injEq,Prod.mk.injEq] at h
  obtain⟨⟨h1,h2⟩,h3⟩:=h
  simp only[Instr.findNow,h1,Instr.sameNow,if_true,List.zipIdx_cons,List.find?_cons]
  by_cases hk:k=p.1
  ·subst hk;simp[h2]
  ·rw[AT k l L (i+1) h3]
   have:(k==p.1)=false:=by simpa using hk
   have h':(p.1==k)=false:=by simpa using Ne.symm hk
   simp[this,h']
theorem Tc{K:TypeId}(hK:P.underlying K=some (.int .i64)){es:Array MapEntry}{c:Nat}{L:List (Int×Value)}(h:ImAt es c L)(k:Int)(w:World) :
  (Instr.findKey K (.int .i64 k) es.toList).run P w = .ok ((L.zipIdx.find? (fun q=>q.1.1==k)).map fun q=>(q.2,q.1.2)) w:=by
 unfold Instr.findKey
 rw[Lg (run_underlying hK w),AT k es.toList L 0 h.ents]
 rfl
theorem Ym(L:List (Int×Value))(k:Int)(i:Nat):((L.zipIdx i).find? (fun q=>q.1.1==k)).map (fun q=>q.1.2)=lkM L k:=by
 induction L generalizing i with
 | nil=>simp[lkM]
 | cons p r ih =>
  simp only[List.zipIdx_cons,List.find?_cons,lkM]
  by_cases h:p.1=k
  ·simp[h]
  ·have:(p.1==k)=false:=by simpa using h
   simp only[this];exact ih (i+1)
theorem Te{K:TypeId}(hK:P.underlying K=some (.int .i64))(em:Bool)(d:Nat)(k:Int)(w:World):(Instr.checkKey em (d+1) K (.int .i64 k)).run P w = .ok () w:=by
 simp only[Instr.checkKey]
 rw[Lg (run_underlying hK w)]
 rfl
theorem Aa.lookup{T K E:TypeId}{x ix:Operand}{b:Nat}{L:List (Int×Value)}{k:Int}{z:Value}(hT:P.underlying T=some (.map K E))(hK:P.underlying K=some (.int .i64))(hz:(P.info? E).bind (·.zero)=some z)
  (hm:Im H b L) (hx:ev e x=some (.map (some b))) (hi:ev e ix=some (.int .i64 k)):Aa P e (.lookup T x ix false) H ((lkM L k).getD z):=by
 intro ρ o w ho hev hw
 obtain⟨es,c,h1,h2⟩:=hm
 obtain⟨i,hi1,hiz⟩:=Option.bind_eq_some_iff.1 hz
 have hget:(getObj b).run P w = .ok (.map es c) w:=by simp[getObj,Sem.run,hw,h1]
 have hck:(Instr.checkKey es.isEmpty 10000 K (.int .i64 k)).run P w = .ok () w:=Te hK _ 9999 k w
 have hfind:=Tc hK h2 k w
 have hval:=Ym L k 0
 simp only[execOp,ho,hev _ _ hx,hev _ _ hi,Instr.lookup]
 simp only[Sem.run_bind,run_underlying hT,Result.andThen_ok,hget,hck,hfind,Sem.run_pure]
 cases hf:L.zipIdx.find? (fun q=>q.1.1==k) with
 | none =>
  rw[hf] at hval
  simp only[Option.map_none] at hval
  simp[←hval,zeroValue,typeInfo,hi1,hiz]
 | some q =>
  rw[hf] at hval
  simp only[Option.map_some] at hval
  simp[←hval]
theorem Aa.lookupOk{T K E:TypeId}{x ix:Operand}{b:Nat}{L:List (Int×Value)}{k:Int}{z:Value}(hT:P.underlying T=some (.map K E))(hK:P.underlying K=some (.int .i64))(hz:(P.info? E).bind (·.zero)=some z)
  (hm:Im H b L) (hx:ev e x=some (.map (some b))) (hi:ev e ix=some (.int .i64 k)):Aa P e (.lookup T x ix true) H (.tuple #[(lkM L k).getD z,.bool (lkM L k).isSome]):=by
 intro ρ o w ho hev hw
 obtain⟨es,c,h1,h2⟩:=hm
 obtain⟨i,hi1,hiz⟩:=Option.bind_eq_some_iff.1 hz
 have hget:(getObj b).run P w = .ok (.map es c) w:=by simp[getObj,Sem.run,hw,h1]
 have hck:(Instr.checkKey es.isEmpty 10000 K (.int .i64 k)).run P w = .ok () w:=Te hK _ 9999 k w
 have hfind:=Tc hK h2 k w
 have hval:=Ym L k 0
 simp only[execOp,ho,hev _ _ hx,hev _ _ hi,Instr.lookup]
 simp only[Sem.run_bind,run_underlying hT,Result.andThen_ok,hget,hck,hfind,Sem.run_pure]
 cases hf:L.zipIdx.find? (fun q=>q.1.1==k) with
 | none =>
  rw[hf] at hval
  simp only[Option.map_none] at hval
  simp[←hval,zeroValue,typeInfo,hi1,hiz]
 | some q =>
  rw[hf] at hval
  simp only[Option.map_some] at hval
  simp[←hval]
def Tw(b:Nat)(H H':Heap):Prop:=H'.size=H.size∧∀k,k≠b→H'[k]? = H[k]?
theorem Ol{b:Nat}{o:Obj}:Tw b H (H.setIfInBounds b o):=⟨by simp,fun k hk=>by rw[Array.getElem?_setIfInBounds_ne (Ne.symm hk)]⟩
theorem Yn{L:List (Int×Value)}{k:Int}{i0:Nat}{q:(Int×Value)×Nat}(h:(L.zipIdx i0).find? (fun q=>q.1.1==k)=some q):∃j,q.2=i0+j∧L[j]? = some q.1∧q.1.1=k∧(∀v,upM L k v=L.set j (k,v)):=by
 induction L generalizing i0 with
 | nil=>simp at h
 | cons p r ih =>
  simp only[List.zipIdx_cons,List.find?_cons] at h
  by_cases hp:p.1=k
  ·have:(p.1==k)=true:=by simpa using hp
   simp only[this,Option.some.injEq] at h
   subst h
   exact⟨0,by simp,by simp,hp,fun v=>by simp[upM,hp]⟩
  ·have:(p.1==k)=false:=by simpa using hp
   simp only[this] at h
   obtain⟨j,h1,h2,h3,h4⟩:=ih h
   exact⟨j+1,by omega,by simpa using h2,h3,fun v=>by simp[upM,hp,h4]⟩
theorem Yo{L:List (Int×Value)}{k:Int}{i0:Nat}(h:(L.zipIdx i0).find? (fun q=>q.1.1==k)=none):k∉L.map (·.1)∧∀v,upM L k v=L++[(k,v)]:=by
 induction L generalizing i0 with
 | nil=>simp[upM]
 | cons p r ih =>
  simp only[List.zipIdx_cons,List.find?_cons] at h
  by_cases hp:p.1=k
  ·have:(p.1==k)=true:=by simpa using hp
   simp[this] at h
  ·have:(p.1==k)=false:=by simpa using hp
   simp only[this] at h
   obtain⟨h1,h2⟩:=ih h
   refine⟨by simp only[List.map_cons,List.mem_cons,not_or];exact⟨Ne.symm hp,h1⟩,fun v=>by simp[upM,hp,h2]⟩
theorem ImAt.setVal{es:Array MapEntry}{c j:Nat}{L:List (Int×Value)}{k:Int}{v w:Value}(h:ImAt es c L)(hj:L[j]? = some (k,w))(kk:Value)(hkk:kk = .int .i64 k):ImAt (es.modify j fun x=>{ x with key:=kk,val:=v }) c (L.set j (k,v)):=by
 subst hkk
 have hlen:es.size=L.length:=by have:=congrArg List.length h.ents;simpa using this
 have hjl:j<L.length:=(List.getElem?_eq_some_iff.1 hj).1
 have hje:j<es.size:=by omega
 have hme:(es.modify j fun x=>{ x with key := .int .i64 k,val:=v }).toList=es.toList.set j { es[j] with key := .int .i64 k,val:=v }:=by
  apply List.ext_getElem?
  intro i
  rw[Array.getElem?_toList,Array.getElem?_modify,List.getElem?_set]
  by_cases hij:j=i
  ·subst hij;simp[hje]
  ·simp[hij]
 refine⟨?_,?_,?_,?_⟩
 ·rw[hme]
  simp only[List.map_set,h.ents]
 ·have:(L.set j (k,v)).map (·.1)=L.map (·.1):=by
   rw[List.map_set]
   apply List.ext_getElem?
   intro i
   rw[List.getElem?_set]
   by_cases hij:j=i
   ·subst hij;simp only[if_true,hjl,List.length_map,List.getElem?_map,hj,Option.map_some]
   ·simp[hij]
  rw[this];exact h.nodup
 ·intro x hx
  rw[hme] at hx
  rcases List.mem_or_eq_of_mem_set hx with hx|hx
  ·exact h.born x hx
  ·subst hx;exact h.born es[j] (by simp)
 ·have:(es.toList.set j { es[j] with key := .int .i64 k,val:=v }).map (·.born)=es.toList.map (·.born):=by
   rw[List.map_set]
   apply List.ext_getElem?
   intro i
   rw[List.getElem?_set]
   by_cases hij:j=i
   ·subst hij;simp[hje]
   ·simp[hij]
  rw[hme,this];exact h.stamps
theorem ImAt.snoc{es:Array MapEntry}{c:Nat}{L:List (Int×Value)}{k:Int}{v:Value}(h:ImAt es c L)(hk:k∉L.map (·.1)):ImAt (es.push { key := .int .i64 k,val:=v,born:=c }) (c+1) (L++[(k,v)]):=by
 refine⟨by simp[h.ents],?_,?_,?_⟩
 ·rw[List.map_append,List.nodup_append]
  refine⟨h.nodup,by simp,?_⟩
  intro a ha b hb
  simp only[List.map_cons,List.map_nil,List.mem_singleton] at hb
  subst hb
  intro e1;subst e1;exact hk ha
 ·intro x hx
  simp only[Array.toList_push,List.mem_append,List.mem_singleton] at hx
  rcases hx with hx|rfl
  ·have:=h.born x hx;omega
  ·simp
 ·simp only[Array.toList_push,List.map_append,List.map_cons,List.map_nil]
  rw[List.nodup_append]
  refine⟨h.stamps,by simp,?_⟩
  intro a ha b hb
  simp only[List.mem_singleton] at hb
  subst hb
  obtain⟨x,hx,rfl⟩:=List.mem_map.1 ha
  have:=h.born x hx;omega
theorem V9(k:Int)(w:World):(Instr.keyThatStays (.int .i64 k) (.int .i64 k)).run P w = .ok (.int .i64 k) w:=by
 unfold Instr.keyThatStays
 have:Instr.sameBits 10000 (.int .i64 k) (.int .i64 k)=true:=by unfold Instr.sameBits;simp
 rw[if_pos this];rfl
theorem Av.mapUpdate{T K E:TypeId}{x ix y:Operand}{b:Nat}{L:List (Int×Value)}{k:Int}{v:Value}(hT:P.underlying T=some (.map K E))(hK:P.underlying K=some (.int .i64))(hm:Im H b L)
  (hx:ev e x=some (.map (some b))) (hi:ev e ix=some (.int .i64 k)) (hy:ev e y=some v):Av P e (.mapUpdate T x ix y) H (fun _ H'=>Im H' b (upM L k v)∧Tw b H H'):=by
 intro ρ o w ho hev hw
 obtain⟨es,c,h1,h2⟩:=hm
 have hlen:es.size=L.length:=by have:=congrArg List.length h2.ents;simpa using this
 have hget:(getObj b).run P w = .ok (.map es c) w:=by simp[getObj,Sem.run,hw,h1]
 have hck:(Instr.checkKey false 10000 K (.int .i64 k)).run P w = .ok () w:=Te hK _ 9999 k w
 have hfind:=Tc hK h2 k w
 have hb:b<w.heap.size:=by rw[hw];exact(Array.getElem?_eq_some_iff.1 h1).1
 have hset:∀o':Obj,(setObj b o').run P w = .ok () { w with heap:=w.heap.setIfInBounds b o' }:=by
  intro o';simp[setObj,Sem.run,hw,h1]
 have hnew:∀o':Obj,(w.heap.setIfInBounds b o')[b]? = some o':=by intro o';simp[hb]
 cases hf:L.zipIdx.find? (fun q=>q.1.1==k) with
 | none =>
  obtain⟨hk,hu⟩:=Yo hf
  rw[hf] at hfind
  simp only[Option.map_none] at hfind
  refine⟨undef,{ w with heap:=w.heap.setIfInBounds b (.map (es.push { key := .int .i64 k,val:=v,born:=c }) (c+1)) },.inr ⟨?_,rfl⟩,rfl,rfl,rfl,?_⟩
  ·simp only[execOp,ho,hev _ _ hx,hev _ _ hi,hev _ _ hy,Instr.mapUpdate]
   simp only[Sem.run_bind,run_underlying hT,Result.andThen_ok,hget,hck,hfind,hset]
   rfl
  ·subst hw
   exact⟨⟨_,_,hnew _,by rw[hu];exact h2.snoc hk⟩,Ol⟩
 | some q =>
  obtain⟨j,hj1,hj2,hj3,hj4⟩:=Yn hf
  rw[hf] at hfind
  simp only[Option.map_some] at hfind
  have hj5:q.2=j:=by omega
  have hjl:j<L.length:=(List.getElem?_eq_some_iff.1 hj2).1
  have hkey:((es[j]?).map (·.key)).getD (.int .i64 k) = .int .i64 k:=by
   have h3:=congrArg (fun l=>l[j]?) h2.ents
   simp only[List.getElem?_map,hj2,Array.getElem?_toList,Option.map_some] at h3
   cases he:es[j]? with
   | none=>rfl
   | some x=>rw[he] at h3;simp at h3;simp[h3.1,hj3]
  refine⟨undef,{ w with heap:=w.heap.setIfInBounds b (.map (es.modify j fun x=>{ x with key := .int .i64 k,val:=v }) c) },.inr ⟨?_,rfl⟩,rfl,rfl,rfl,?_⟩
  ·simp only[execOp,ho,hev _ _ hx,hev _ _ hi,hev _ _ hy,Instr.mapUpdate]
   simp only[Sem.run_bind,run_underlying hT,Result.andThen_ok,hget,hck,hfind,hj5,hkey,V9,hset]
   rfl
  ·subst hw
   refine⟨⟨_,_,hnew _,by rw[hj4];exact h2.setVal (w:=q.1.2) (by rw[hj2,←hj3]) _ rfl⟩,Ol⟩
def Rj(L:List (Int×Value))(k:Int)(z:Value):List (Int×Value):=if k∈L.map (·.1) then L else L++[(k,z)]
def ImS(H:Heap)(b:Nat)(L:List (Int×Value))(k:Int)(st:Nat):Prop:=∃es clock,H[b]? = some (.map es clock)∧ImAt es clock L∧∃x∈es.toList,x.key = .int .i64 k∧x.born=st
theorem ImS.im{b st:Nat}{L:List (Int×Value)}{k:Int}(h:ImS H b L k st):Im H b L:=by obtain⟨es,c,h1,h2,_⟩:=h;exact⟨es,c,h1,h2⟩
theorem ImS.of{H':Heap}{b st:Nat}{L:List (Int×Value)}{k:Int}(h:ImS H b L k st)(hb:H'[b]? = H[b]?):ImS H' b L k st:=by
 obtain⟨es,c,h1,h2,h3⟩:=h;exact⟨es,c,hb.trans h1,h2,h3⟩
theorem Av.mapEntry{T K E:TypeId}{x ix:Operand}{b:Nat}{L:List (Int×Value)}{k:Int}{z:Value}(hT:P.underlying T=some (.map K E))(hK:P.underlying K=some (.int .i64))(hz:(P.info? E).bind (·.zero)=some z)(hm:Im H b L)
  (hx:ev e x=some (.map (some b))) (hi:ev e ix=some (.int .i64 k)):Av P e (.mapEntry T x ix) H (fun u H'=>∃st:Nat,u = .tuple #[(lkM L k).getD z,.int .i64 st]∧ImS H' b (Rj L k z) k st∧Tw b H H'):=by
 intro ρ o w ho hev hw
 obtain⟨es,c,h1,h2⟩:=hm
 obtain⟨i,hi1,hiz⟩:=Option.bind_eq_some_iff.1 hz
 have hzv:(zeroValue E).run P w = .ok z w:=by simp[zeroValue,typeInfo,hi1,hiz]
 have hget:(getObj b).run P w = .ok (.map es c) w:=by simp[getObj,Sem.run,hw,h1]
 have hck:(Instr.checkKey false 10000 K (.int .i64 k)).run P w = .ok () w:=Te hK _ 9999 k w
 have hfind:=Tc hK h2 k w
 have hval:=Ym L k 0
 have hb:b<w.heap.size:=by rw[hw];exact(Array.getElem?_eq_some_iff.1 h1).1
 have hset:∀o':Obj,(setObj b o').run P w = .ok () { w with heap:=w.heap.setIfInBounds b o' }:=by
  intro o';simp[setObj,Sem.run,hw,h1]
 have hnew:∀o':Obj,(w.heap.setIfInBounds b o')[b]? = some o':=by intro o';simp[hb]
 cases hf:L.zipIdx.find? (fun q=>q.1.1==k) with
 | none =>
  obtain⟨hk,hu⟩:=Yo hf
  rw[hf] at hfind hval
  simp only[Option.map_none] at hfind hval
  refine⟨.tuple #[z,goInt c],{ w with heap:=w.heap.setIfInBounds b (.map (es.push { key := .int .i64 k,val:=z,born:=c }) (c+1)) },.inl ?_,rfl,rfl,rfl,?_⟩
  ·simp only[execOp,ho,hev _ _ hx,hev _ _ hi,Instr.mapEntry]
   simp only[Sem.run_bind,run_underlying hT,Result.andThen_ok,hget,hck,hfind,hzv,hset]
   rfl
  ·subst hw
   refine⟨c,by rw[←hval];rfl,⟨_,_,hnew _,?_,⟨{ key := .int .i64 k,val:=z,born:=c },by simp,rfl,rfl⟩⟩,Ol⟩
   unfold Rj;rw[if_neg hk];exact h2.snoc hk
 | some q =>
  obtain⟨j,hj1,hj2,hj3,hj4⟩:=Yn hf
  rw[hf] at hfind hval
  simp only[Option.map_some] at hfind hval
  have hj5:q.2=j:=by omega
  have hlen:es.size=L.length:=by have:=congrArg List.length h2.ents;simpa using this
  have hjl:j<L.length:=(List.getElem?_eq_some_iff.1 hj2).1
  have hje:j<es.size:=by omega
  have h3:=congrArg (fun l=>l[j]?) h2.ents
  simp only[List.getElem?_map,hj2,Array.getElem?_toList,Option.map_some,Array.getElem?_eq_getElem hje,Option.some.injEq,Prod.mk.injEq] at h3
  have hkey:((es[j]?).map (·.key)).getD (.int .i64 k) = .int .i64 k:=by simp[hje,h3.1,hj3]
  have hmem:k∈L.map (·.1):=by rw[←hj3];exact List.mem_map.2 ⟨q.1,List.mem_of_getElem? hj2,rfl⟩
  refine⟨.tuple #[q.1.2,goInt (((es[j]?).map (·.born)).getD 0)],{ w with heap:=w.heap.setIfInBounds b (.map (es.modify j fun x=>{ x with key := .int .i64 k }) c) },.inl ?_,rfl,rfl,rfl,?_⟩
  ·simp only[execOp,ho,hev _ _ hx,hev _ _ hi,Instr.mapEntry]
   simp only[Sem.run_bind,run_underlying hT,Result.andThen_ok,hget,hck,hfind,hj5,hkey,V9,hset]
   rfl
  ·subst hw
   have hsame:es.modify j (fun x=>{ x with key := .int .i64 k })=es:=by
    apply Array.ext_getElem?
    intro i
    rw[Array.getElem?_modify]
    by_cases hij:j=i
    ·subst hij
     have:es[j]={ es[j] with key := .int .i64 k }:=by
      have h4:=h3.1
      rw[hj3] at h4
      rw[←h4]
     simp only[if_true,Array.getElem?_eq_getElem hje,Option.map_some]
     exact congrArg some this.symm
    ·simp[hij]
   refine⟨es[j].born,by rw[←hval];simp[hje,goInt],⟨_,_,hnew _,?_,⟨es[j],?_,by rw[h3.1,hj3],rfl⟩⟩,Ol⟩
   ·unfold Rj;rw[if_pos hmem,hsame];exact h2
   ·rw[hsame];simp
theorem Av.entryStore{T:TypeId}{x s y:Operand}{b st:Nat}{L:List (Int×Value)}{k:Int}{v:Value}(hm:ImS H b L k st)(hx:ev e x=some (.map (some b)))(hs:ev e s=some (.int .i64 st))(hy:ev e y=some v) :
  Av P e (.entryStore T x s y) H (fun _ H'=>Im H' b (upM L k v)∧Tw b H H'):=by
 intro ρ o w ho hev hw
 obtain⟨es,c,h1,h2,x0,hx0,hk0,hb0⟩:=hm
 have hget:(getObj b).run P w = .ok (.map es c) w:=by simp[getObj,Sem.run,hw,h1]
 have hb:b<w.heap.size:=by rw[hw];exact(Array.getElem?_eq_some_iff.1 h1).1
 have hset:∀o':Obj,(setObj b o').run P w = .ok () { w with heap:=w.heap.setIfInBounds b o' }:=by
  intro o';simp[setObj,Sem.run,hw,h1]
 have hnew:∀o':Obj,(w.heap.setIfInBounds b o')[b]? = some o':=by intro o';simp[hb]
 have hlen:es.size=L.length:=by have:=congrArg List.length h2.ents;simpa using this
 obtain⟨j,hj,hjx⟩:=List.getElem_of_mem hx0
 have hje:j<es.size:=by simpa using hj
 have hjl:j<L.length:=by omega
 have hejx:es[j]=x0:=by simpa using hjx
 have hfi:es.findIdx? (fun e=>(e.born:Int)==(st:Int))=some j:=by
  rw[Array.findIdx?_eq_some_iff_getElem]
  refine⟨hje,by simp[hejx,hb0],fun i hij=>?_⟩
  have hne:es[i].born≠st:=by
   intro e1
   have hi':i<es.size:=by omega
   have:=nodup_inj h2.stamps (i:=i) (j:=j) (a:=st) (by simp[hi',e1]) (by simp[hje,hejx,hb0])
   omega
  have h4:¬((es[i].born:Int)=(st:Int)):=fun e1=>hne (Int.ofNat.inj e1)
  simpa using h4
 have h3:=congrArg (fun l=>l[j]?) h2.ents
 simp only[List.getElem?_map,Array.getElem?_toList,Array.getElem?_eq_getElem hje,List.getElem?_eq_getElem hjl,Option.map_some,Option.some.injEq,Prod.mk.injEq] at h3
 have hLk:L[j].1=k:=by
  have h4:=h3.1
  rw[hejx,hk0] at h4
  injection h4 with _ h5
  exact h5.symm
 have hu:upM L k v=L.set j (k,v):=by
  have hfind:∃q,L.zipIdx.find? (fun q=>q.1.1==k)=some q:=by
   cases hf:L.zipIdx.find? (fun q=>q.1.1==k) with
   | none=>exact absurd (by rw[←hLk];exact List.mem_map.2 ⟨L[j],by simp,rfl⟩) (Yo hf).1
   | some q=>exact⟨q,rfl⟩
  obtain⟨q,hq⟩:=hfind
  obtain⟨j',_,hj2,hj3,hj4⟩:=Yn hq
  have:j'=j:=by
   exact nodup_inj h2.nodup (a:=k) (by simp[hj2,hj3]) (by simp[hjl,hLk])
  rw[hj4,this]
 refine⟨undef,{ w with heap:=w.heap.setIfInBounds b (.map (es.modify j fun x=>{ x with val:=v }) c) },.inr ⟨?_,rfl⟩,rfl,rfl,rfl,?_⟩
 ·simp only[execOp,ho,hev _ _ hx,hev _ _ hs,hev _ _ hy,Instr.entryStore]
  simp only[Sem.run_bind,Result.andThen_ok,hget,asInt,asIntOf,Sem.run_pure,hfi,hset]
 ·subst hw
  refine⟨⟨_,_,hnew _,?_⟩,Ol⟩
  rw[hu]
  have hsame:es.modify j (fun x=>{ x with val:=v })=es.modify j (fun x=>{ x with key := .int .i64 k,val:=v }):=by
   apply Array.ext_getElem?
   intro i
   rw[Array.getElem?_modify,Array.getElem?_modify]
   by_cases hij:j=i
   ·subst hij
    simp[hje,hejx,hk0]
   ·simp[hij]
  rw[hsame]
  exact h2.setVal (w:=L[j].2) (by rw[List.getElem?_eq_getElem hjl,←hLk]) _ rfl
def It(H:Heap)(r b:Nat)(L:List (Int×Value))(vis:List Int):Prop :=
 ∃es c seen,H[b]? = some (.map es c)∧ImAt es c L∧H[r]? = some (.mapIter (some b) c seen c)∧vis.Nodup∧(∀k∈vis,k∈L.map (·.1)) ∧
  (∀x∈es.toList,(x.born∈seen.toList↔∃k∈vis,x.key = .int .i64 k))∧(∀k,vis.getLast? = some k→∃x∈es.toList,x.key = .int .i64 k∧seen.back? = some x.born)
theorem It.of{H':Heap}{r b:Nat}{L:List (Int×Value)}{vis:List Int}(h:It H r b L vis)(hr:H'[r]? = H[r]?)(hb:H'[b]? = H[b]?):It H' r b L vis:=by
 obtain⟨es,c,seen,h1,h2,h3,h4⟩:=h;exact⟨es,c,seen,hb.trans h1,h2,hr.trans h3,h4⟩
theorem It.im{r b:Nat}{L:List (Int×Value)}{vis:List Int}(h:It H r b L vis):Im H b L:=by obtain⟨es,c,seen,h1,h2,_⟩:=h;exact⟨es,c,h1,h2⟩
theorem Av.range{T K E:TypeId}{x:Operand}{b:Nat}{L:List (Int×Value)}(hT:P.underlying T=some (.map K E))(hm:Im H b L)(hx:ev e x=some (.map (some b))) :
  Av P e (.range T x) H (fun u H'=>u = .pointer (some ⟨H.size,0,none⟩)∧It H' H.size b L []∧H'.size=H.size+1∧(∀k,k<H.size→H'[k]? = H[k]?)):=by
 intro ρ o w ho hev hw
 have hlt:=hm.lt
 obtain⟨es,c,h1,h2⟩:=hm
 have hget:(getObj b).run P w = .ok (.map es c) w:=by simp[getObj,Sem.run,hw,h1]
 refine⟨.pointer (some ⟨w.heap.size,0,none⟩),{ w with heap:=w.heap.push (.mapIter (some b) c #[] c) },.inl ?_,rfl,rfl,rfl,?_⟩
 ·simp only[execOp,ho,hev _ _ hx,Instr.range]
  simp only[Sem.run_bind,run_underlying hT,Result.andThen_ok,hget]
  simp
 ·subst hw
  exact⟨rfl,⟨es,c,#[],(Nq hlt).trans h1,h2,Nr,by simp,by simp,by simp,by simp⟩,by simp,fun k hk=>Nq hk⟩
theorem Xs{es:Array MapEntry}{p:MapEntry→Bool}{x:MapEntry}:x∈(es.filter p).toList↔x∈es.toList∧p x=true:=by simp
theorem HE{m:Nat}(hm:0<m)(w:World):∃t w',(choose (.mapNext m)).run P w = .ok t w'∧w'.heap=w.heap∧w'.os=w.os∧w'.tape=w.tape∧w'.output=w.output∧t<m:=by
 rw[run_choose]
 split
 ·exact⟨0,w,rfl,rfl,rfl,rfl,rfl,hm⟩
 ·exact⟨_,_,rfl,rfl,rfl,rfl,rfl,by simp only[Question.cut];exact Nat.mod_lt _ hm⟩
theorem Av.next{x:Operand}{r b:Nat}{L:List (Int×Value)}{vis:List Int}(hrb:r≠b)(hit:It H r b L vis)(hx:ev e x=some (.pointer (some ⟨r,0,none⟩))) :
    Av P e (.next x false) H (fun u H'=>(u = .tuple #[.bool false]∧(∀k∈L.map (·.1),k∈vis)∧H'=H) ∨
      (∃k v,u = .tuple #[.bool true,.int .i64 k,v]∧(k,v)∈L∧k∉vis∧It H' r b L (vis++[k])∧Tw r H H')):=by
  intro ρ o w ho hev hw
  obtain⟨es,c,seen,h1,h2,h3,h4,h5,h6,h7⟩:=hit
  have hgb:(getObj b).run P w = .ok (.map es c) w:=by simp[getObj,Sem.run,hw,h1]
  have hgr:(getObj r).run P w = .ok (.mapIter (some b) c seen c) w:=by simp[getObj,Sem.run,hw,h3]
  have hrl:r<w.heap.size:=by rw[hw];exact(Array.getElem?_eq_some_iff.1 h3).1
  have hold:(es.filter fun x=>!seen.contains x.born).filter (·.born<c)=es.filter fun x=>!seen.contains x.born:=by
    rw[Array.filter_eq_self]
    intro x hx'
    have:=h2.born x (by have:=(Xs.1 (Array.mem_toList_iff.2 hx')).1;exact this)
    simpa using this
  have hnew:(es.filter fun x=>!seen.contains x.born).filter (·.born≥c)=#[]:=by
    rw[Array.filter_eq_empty_iff]
    intro x hx'
    have:=h2.born x (by have:=(Xs.1 (Array.mem_toList_iff.2 hx')).1;exact this)
    simp;omega
  have hgone:(!seen.isEmpty&&!es.isEmpty&&es.all (·.born≥c))=false:=by
    cases hes:es.toList with
    | nil =>
      have:es=#[]:=by simpa using hes
      subst this;simp
    | cons x l =>
      have hx':x∈es.toList:=by rw[hes];simp
      have hlt:=h2.born x hx'
      have:es.all (·.born≥c)=false:=by
        rw[Bool.eq_false_iff]
        intro hall
        rw[Array.all_eq_true'] at hall
        have:=hall x (Array.mem_toList_iff.1 hx')
        simp at this;omega
      simp[this]
  generalize hleft:(es.filter fun x=>!seen.contains x.born)=left at hold hnew
  have hmem:∀x,x∈left.toList↔x∈es.toList∧¬∃k∈vis,x.key = .int .i64 k:=by
    intro x
    rw[←hleft,Xs]
    constructor
    · rintro⟨ha,hb⟩
      exact⟨ha,fun hk=>by have:=(h6 x ha).2 hk;simp at hb;exact hb (Array.mem_toList_iff.1 this)⟩
    · rintro⟨ha,hb⟩
      refine⟨ha,?_⟩
      simp only[Bool.not_eq_true',Array.contains_eq_mem,decide_eq_false_iff_not]
      intro hc
      exact hb ((h6 x ha).1 (Array.mem_toList_iff.2 hc))
  obtain⟨cand,hcd⟩:∃cand:Array (Option MapEntry),(if left.isEmpty then #[none] else #[])++(left++#[]).map some=cand:=⟨_,rfl⟩
  have hpos:0<cand.size:=by
    rw[←hcd]
    cases hl:left.isEmpty with
    | true=>simp;omega
    | false=>simp at hl ⊢;exact Nat.pos_of_ne_zero (by simpa using hl)
  obtain⟨t,w',hch,hwh,hwo,hwt,hwp,ht⟩:=HE (P:=P) hpos w
  have hrun:(execOp ρ o).run P w=match cand[t]? with
      | some (some e) => .ok (.value (.tuple #[.bool true,e.key,e.val])) { w' with heap:=w'.heap.setIfInBounds r (.mapIter (some b) c (seen.push e.born) c) }
      | some none => .ok (.value (.tuple #[.bool false])) w'
      | none => .halt (.stuck "Next: no such candidate") w' := by
    simp only[execOp,ho,hev _ _ hx,Instr.next]
    simp only[Sem.run_bind,Result.andThen_ok,hgr,hgb,hgone,hleft,hold,hnew,Bool.false_eq_true,if_false,Sem.run_pure,hcd,hch]
    cases hc2:cand[t]? with
    | none=>simp
    | some y =>
      cases y with
      | none=>simp
      | some z =>
        have:(setObj r (.mapIter (some b) c (seen.push z.born) c)).run P w' = .ok () { w' with heap:=w'.heap.setIfInBounds r (.mapIter (some b) c (seen.push z.born) c) }:=by
          simp[setObj,Sem.run,hwh,hw,h3]
        simp[this]
  rw[hrun,Array.getElem?_eq_getElem ht]
  cases hl:left.isEmpty with
  | true =>
    have hle:left=#[]:=by simpa using hl
    have hcn:cand=#[none]:=by rw[←hcd,hle];simp
    have hz:cand[t]=none:=by
      subst hcn
      have:t=0:=by simp at ht;exact ht
      subst this;rfl
    rw[hz]
    refine⟨_,_,.inl rfl,hwo,hwt,hwp,.inl ⟨rfl,?_,hwh.trans hw⟩⟩
    intro k hk
    by_cases hv:k∈vis
    · exact hv
    · exfalso
      obtain⟨p,hp,rfl⟩:=List.mem_map.1 hk
      have h8:(Value.int .i64 p.1,p.2)∈es.toList.map (fun x=>(x.key,x.val)):=by rw[h2.ents];exact List.mem_map.2 ⟨p,hp,rfl⟩
      obtain⟨x,hx1,hx2⟩:=List.mem_map.1 h8
      have h9:x∈left.toList:=(hmem x).2 ⟨hx1,fun⟨k',hk',he⟩=>by
        have h10:x.key = .int .i64 p.1:=congrArg Prod.fst hx2
        rw[h10] at he
        injection he with _ h11
        exact hv (h11▸hk')⟩
      rw[hle] at h9;simp at h9
  | false =>
    have hsz:cand=left.map some:=by rw[←hcd];simp[hl]
    have htl:t<left.size:=by rw[hsz] at ht;simpa using ht
    have hz:cand[t]=some left[t]:=by
      subst hsz;simp
    rw[hz]
    have hxm:left[t]∈left.toList:=by simp
    obtain⟨hx1,hx2⟩:=(hmem _).1 hxm
    have h8:(left[t].key,left[t].val)∈L.map (fun p=>(Value.int .i64 p.1,p.2)):=by rw[←h2.ents];exact List.mem_map.2 ⟨_,hx1,rfl⟩
    obtain⟨p,hp1,hp2⟩:=List.mem_map.1 h8
    have hk:left[t].key = .int .i64 p.1:=(congrArg Prod.fst hp2).symm
    have hv:left[t].val=p.2:=(congrArg Prod.snd hp2).symm
    have hnot:p.1∉vis:=fun hm=>hx2 ⟨p.1,hm,hk⟩
    refine⟨_,_,.inl rfl,hwo,hwt,hwp,.inr ⟨p.1,p.2,by rw[hk,hv],hp1,hnot,?_,?_⟩⟩
    · have hkeys:(es.toList.map (·.key))=L.map (fun p=>Value.int .i64 p.1):=by
        have:=congrArg (List.map Prod.fst) h2.ents
        simpa[List.map_map,Function.comp_def] using this
      refine⟨es,c,seen.push left[t].born,?_,h2,?_,?_,?_,?_,?_⟩
      · simp only[hwh];rw[Array.getElem?_setIfInBounds_ne hrb,hw];exact h1
      · simp only[hwh];simp[hrl]
      · rw[List.nodup_append];exact⟨h4,by simp,by intro a ha b' hb';simp only[List.mem_singleton] at hb';subst hb';intro e1;subst e1;exact hnot ha⟩
      · intro k hk'
        rcases List.mem_append.1 hk' with h9|h9
        · exact h5 k h9
        · simp only[List.mem_singleton] at h9;subst h9;exact List.mem_map.2 ⟨p,hp1,rfl⟩
      · intro x hx'
        simp only[Array.toList_push,List.mem_append,List.mem_singleton]
        constructor
        · rintro(h9|h9)
          · obtain⟨k,hk1,hk2⟩:=(h6 x hx').1 h9;exact⟨k,.inl hk1,hk2⟩
          · refine⟨p.1,.inr rfl,?_⟩
            have h10:x=left[t]:=by
              obtain⟨i,hi,hie⟩:=List.getElem_of_mem hx'
              obtain⟨j,hj,hje⟩:=List.getElem_of_mem hx1
              have hij:i=j:=by
                have e1:(es.toList.map (·.born))[i]? = some x.born:=by rw[List.getElem?_map,List.getElem?_eq_getElem hi,hie];rfl
                have e2:(es.toList.map (·.born))[j]? = some left[t].born:=by rw[List.getElem?_map,List.getElem?_eq_getElem hj,hje];rfl
                rw[←h9] at e2
                exact nodup_inj h2.stamps e1 e2
              subst hij
              rw[←hie,←hje]
            rw[h10,hk]
        · rintro⟨k,hk1|hk1,hk2⟩
          · exact .inl ((h6 x hx').2 ⟨k,hk1,hk2⟩)
          · subst hk1
            right
            obtain⟨i,hi,hie⟩:=List.getElem_of_mem hx'
            obtain⟨j,hj,hje⟩:=List.getElem_of_mem hx1
            have e1:(es.toList.map (·.key))[i]? = some (.int .i64 p.1):=by rw[List.getElem?_map,List.getElem?_eq_getElem hi,hie];simp[hk2]
            have e2:(es.toList.map (·.key))[j]? = some (.int .i64 p.1):=by rw[List.getElem?_map,List.getElem?_eq_getElem hj,hje];simp[hk]
            rw[hkeys,List.getElem?_map] at e1 e2
            have f1:∃q,L[i]? = some q∧q.1=p.1:=by
              cases hq:L[i]? with
              | none=>rw[hq] at e1;simp at e1
              | some q=>rw[hq] at e1;simp at e1;exact⟨q,rfl,e1⟩
            have f2:∃q,L[j]? = some q∧q.1=p.1:=by
              cases hq:L[j]? with
              | none=>rw[hq] at e2;simp at e2
              | some q=>rw[hq] at e2;simp at e2;exact⟨q,rfl,e2⟩
            obtain⟨q1,f1,f1'⟩:=f1
            obtain⟨q2,f2,f2'⟩:=f2
            have g1:(L.map (·.1))[i]? = some p.1:=by rw[List.getElem?_map,f1];simp[f1']
            have g2:(L.map (·.1))[j]? = some p.1:=by rw[List.getElem?_map,f2];simp[f2']
            have hij:i=j:=nodup_inj h2.nodup g1 g2
            subst hij
            rw[←hie,←hje]
      · intro k hk'
        simp only[List.getLast?_append,List.getLast?_singleton,Option.some_or,Option.some.injEq] at hk'
        subst hk'
        exact⟨left[t],hx1,hk,by simp⟩
    · subst hw;rw[←hwh];exact Ol
theorem Aa.entry{x:Operand}{r b:Nat}{L:List (Int×Value)}{vis:List Int}{k:Int}{v:Value}(hit:It H r b L (vis++[k]))(hkv:(k,v)∈L)(hx:ev e x=some (.pointer (some ⟨r,0,none⟩))) :
  Aa P e (.entry x) H (.tuple #[.int .i64 k,v]):=by
 intro ρ o w ho hev hw
 obtain⟨es,c,seen,h1,h2,h3,h4,h5,h6,h7⟩:=hit
 have hgb:(getObj b).run P w = .ok (.map es c) w:=by simp[getObj,Sem.run,hw,h1]
 have hgr:(getObj r).run P w = .ok (.mapIter (some b) c seen c) w:=by simp[getObj,Sem.run,hw,h3]
 obtain⟨x0,hx0,hk0,hs0⟩:=h7 k (by simp)
 have hfind:es.find? (fun y=>y.born==x0.born)=some x0:=by
  obtain⟨j,hj,hje⟩:=List.getElem_of_mem hx0
  have hj':j<es.size:=by simpa using hj
  have hje':es[j]=x0:=by simpa using hje
  rw[Array.find?_eq_some_iff_getElem]
  refine⟨by simp,j,hj',hje',fun i hij=>?_⟩
  have hi':i<es.size:=by omega
  simp only[Bool.not_eq_true',beq_eq_false_iff_ne,ne_eq]
  intro e1
  have:=nodup_inj h2.stamps (i:=i) (j:=j) (a:=x0.born) (by simp[hi',e1]) (by simp[hj',hje'])
  omega
 have hval:x0.val=v:=by
  have h8:(x0.key,x0.val)∈L.map (fun p=>(Value.int .i64 p.1,p.2)):=by rw[←h2.ents];exact List.mem_map.2 ⟨_,hx0,rfl⟩
  obtain⟨p,hp1,hp2⟩:=List.mem_map.1 h8
  rw[hk0] at hp2
  simp only[Prod.mk.injEq,Value.int.injEq,true_and] at hp2
  obtain⟨i,hi,hie⟩:=List.getElem_of_mem hp1
  obtain⟨j,hj,hje⟩:=List.getElem_of_mem hkv
  have g1:(L.map (·.1))[i]? = some k:=by rw[List.getElem?_map,List.getElem?_eq_getElem hi,hie];simp[hp2.1]
  have g2:(L.map (·.1))[j]? = some k:=by rw[List.getElem?_map,List.getElem?_eq_getElem hj,hje];simp
  have hij:i=j:=nodup_inj h2.nodup g1 g2
  subst hij
  rw[hie] at hje
  rw[←hp2.2,hje]
 simp only[execOp,ho,hev _ _ hx,Instr.entry]
 simp only[Sem.run_bind,Result.andThen_ok,hgr,hgb,hs0,hfind]
 simp[hk0,hval]
end Go.JE
namespace Go.JE
variable{P:Program}{e:Env}{H:Heap}
def Ent (P : Program) (f : FuncId) : Prop := ∃ fn, P.funcs[f]? = some fn ∧ (fn.name == "runtime.NumGoroutine") = false ∧ fn.body.isNone = false
theorem Ent.run{f:FuncId}(h:Ent P f)(args:Array Value)(w:World):(callFunc f args).run P w = .ok (.enter f args) w:=by
 obtain⟨fn,h1,h2,h3⟩:=h
 simp only[callFunc,Sem.run_bind,run_program,Result.andThen_ok,h1,h2,h3,Bool.false_eq_true,if_false]
 rfl
def evl(e:Env):List Operand→Option (List Value)
 | []=>some []
 | x::r=>match ev e x,evl e r with
  | some v,some l=>some (v::l)
  | _,_=>none
theorem Yp{ρ:Operand→Value}(hev:∀x u,ev e x=some u→ρ x=u):∀(l:List Operand) (r:List Value),evl e l=some r→l.map ρ=r
 | [],r,h=>by simp[evl] at h;subst h;rfl
 | x::l,r,h=>by
  simp only[evl] at h
  cases h1:ev e x with
  | none=>simp[h1] at h
  | some v =>
   cases h2:evl e l with
   | none=>simp[h1,h2] at h
   | some m =>
    simp only[h1,h2,Option.some.injEq] at h
    subst h
    simp only[List.map_cons,hev _ _ h1,Yp hev l m h2]
theorem Iv.fnc{f:FuncId}{g:Operand}{l:List Operand}{vs cs:List Value}{ts:Array TypeId}(hE:Ent P f)(hf:ev e g=some (.func (.func f) #[] cs.toArray))(hl:evl e l=some vs) :
  Iv P e (.call { callee := .value g,args:=l.toArray,argTypes:=ts }) H f (vs++cs).toArray:=by
 intro ρ o w ho hev _
 have h1:l.toArray.map ρ=vs.toArray:=by rw[←Yp hev l vs hl];simp
 have h2:=hE.run (vs++cs).toArray w
 simp only[execOp,ho,resolve,h1,hev _ _ hf,Deferred.ofValue]
 simp only[Sem.run_bind,Sem.run_pure,Result.andThen_ok,invoke]
 rw[show(#[]++vs.toArray++cs.toArray:Array Value)=(vs++cs).toArray by simp]
 exact h2
def Fld(P:Program)(T:TypeId)(i off:Nat):Prop:=∃fs f,P.underlying T=some (.struct fs)∧fs[i]? = some f∧f.offset=off∧∃s,Sz P f.type s∧s≠0
theorem Addr.add_none(b o n:Nat):(⟨b,o,none⟩:Addr).add n=⟨b,o+n,none⟩:=by
 unfold Addr.add;split
 ·rename_i h;rw[h];rfl
 ·rfl
theorem Aa.fieldAddr{T:TypeId}{x:Operand}{i off b o:Nat}(hF:Fld P T i off)(hx:ev e x=some (.pointer (some ⟨b,o,none⟩))):Aa P e (.fieldAddr T x i) H (.pointer (some ⟨b,o+off,none⟩)):=by
 intro ρ oo w ho hev _
 obtain⟨fs,f,h1,h2,rfl,s,h3,h4⟩:=hF
 simp[execOp,ho,hev _ _ hx,Instr.fieldAt,run_underlying h1,h2,Instr.sureAddr,fieldPlace,h3.run,h4,Addr.add_none]
theorem Aa.indexArr{T E:TypeId}{x ix:Operand}{b o len s i:Nat}{k:IntKind}{I:Int}(hT:P.underlying T=some (.array len E))(hE:Sz P E s)(hx:ev e x=some (.pointer (some ⟨b,o,none⟩)))(hi:ev e ix=some (.int k I))(hI:I=i)(h1:i<len) :
  Aa P e (.indexAddr T x ix) H (.pointer (some ⟨b,o+i*s,none⟩)):=by
 intro ρ oo w ho hev _
 subst hI
 simp[execOp,ho,hev _ _ hx,hev _ _ hi,Instr.indexAt,asIntOf,run_underlying hT,Instr.sureAddr,h1,hE.run,Addr.add_none]
abbrev Ag9(Q:Program)(T:TypeId):Prop:=∃d,Q.underlying T=some d∧(match d with | .struct _ | .array _ _=>true|_=>false)=true
theorem Aa.loadAgg{T:TypeId}{x:Operand}{b o m:Nat}{l:List Value}(hT:Ag9 P T)(hS:Sz P T m)(hx:ev e x=some (.pointer (some ⟨b,o,none⟩)))(hl:l.length=m)
  (hcell:∀j u,l[j]? = some u→hc H b (o+j)=some u):Aa P e (.load T x) H (.agg l.toArray):=by
 intro ρ oo w ho hev hw
 obtain⟨d,hd,hm⟩:=hT
 have hag:(isAgg T).run P w = .ok true w:=by cases d<;>simp_all[isAgg,run_underlying hd]
 have hload:=run_loadCells_list (P:=P) w ⟨b,o,none⟩ l (fun j v hj=>by rw[Addr.add_none,Jp,hw];exact hcell j v hj)
 subst hl
 simp[execOp,ho,hev _ _ hx,Instr.loadAt,Instr.sureAddr,loadVar,hag,hS.run,hload]
theorem Aa.fieldOne{T:TypeId}{x:Operand}{i off:Nat}{cs:Array Value}{v:Value}{t:TypeId}(hF:∃fs f,P.underlying T=some (.struct fs)∧fs[i]? = some f∧f.offset=off∧f.type=t)(ht:One P t)(hx:ev e x=some (.agg cs))(hv:cs[off]? = some v) :
  Aa P e (.field T x i) H v:=by
 intro ρ o w ho hev _
 obtain⟨fs,f,h1,h2,rfl,rfl⟩:=hF
 simp[execOp,ho,hev _ _ hx,Instr.field,run_underlying h1,h2,asAgg,part,ht.run,hv]
def resl(s:Nat)(v:Value)(lo hi:Nat):Value:=match v with
 | .slice a _ c => .slice (if c=lo then a else a.map (·.add (lo*s))) (hi-lo) (c-lo)
 | v=>v
theorem H5{k:IntKind}{i:Int}{y:Nat}{c:BoundsCode}(h0:0≤i)(h1:i≤y)(w:World):(Instr.sliceBound (.int k i) y c).run P w = .ok i.toNat w:=run_sliceBound w k i y c h0 h1
section
variable{T E:TypeId}{x lx hx':Operand}{B:Nat}{v:Value}{s n lo hi:Nat}{f:Nat→Value}{k k':IntKind}{I J:Int}
theorem Aa.sliceHi(hT:P.underlying T=some (.slice E))(hE:Sz P E s)(hs:Sl H B v s n f)(hx:ev e x=some v)(hh:ev e hx'=some (.int k' J))(hJ:J=hi)(h2:hi≤n) :
  Aa P e (.slice T x none (some hx') none) H (resl s v 0 hi):=by
 intro ρ o w ho hev _
 subst hJ
 obtain⟨_,a,cap,rfl,hcap,_⟩:=hs
 have b1:=H5 (P:=P) (k:=k') (i:=(hi:Int)) (y:=cap) (c := .sliceAcap) (by omega) (by omega) w
 simp only[Int.toNat_natCast] at b1
 simp[execOp,ho,hev _ _ hx,hev _ _ hh,Instr.sliceAt,Instr.slice,Instr.sliceBounds,run_underlying hT,b1,hE.run,JE.resl]
theorem Aa.sliceLo(hT:P.underlying T=some (.slice E))(hE:Sz P E s)(hs:Sl H B v s n f)(hx:ev e x=some v)(hl:ev e lx=some (.int k I))(hI:I=lo)(h2:lo≤n) :
  Aa P e (.slice T x (some lx) none none) H (resl s v lo n):=by
 intro ρ o w ho hev _
 subst hI
 obtain⟨_,a,cap,rfl,hcap,_⟩:=hs
 have b2:=H5 (P:=P) (k:=k) (i:=(lo:Int)) (y:=n) (c := .sliceB) (by omega) (by omega) w
 simp only[Int.toNat_natCast] at b2
 simp[execOp,ho,hev _ _ hx,hev _ _ hl,Instr.sliceAt,Instr.slice,Instr.sliceBounds,run_underlying hT,b2,hE.run,JE.resl]
end
theorem Aa.min{x y:Operand}{k:IntKind}{m n:Int}{ts:Array TypeId}(hx:ev e x=some (.int k m))(hy:ev e y=some (.int k n)):Aa P e (.call { callee := .builtin .min,args:=#[x,y],argTypes:=ts }) H (.int k (if n<m then n else m)):=by
 intro ρ o w ho hev _
 simp[execOp,ho,hev _ _ hx,hev _ _ hy,resolve,invoke,builtin,Builtin.min_,Builtin.min2]
theorem Aa.max{x y:Operand}{k:IntKind}{m n:Int}{ts:Array TypeId}(hx:ev e x=some (.int k m))(hy:ev e y=some (.int k n)):Aa P e (.call { callee := .builtin .max,args:=#[x,y],argTypes:=ts }) H (.int k (if n>m then n else m)):=by
 intro ρ o w ho hev _
 simp[execOp,ho,hev _ _ hx,hev _ _ hy,resolve,invoke,builtin,Builtin.max_,Builtin.max2]
def setl(H:Heap)(b o:Nat):List Value→Heap
 | []=>H
 | v::r=>setl (Ie H b o v) b (o+1) r
theorem Wk(b:Nat):∀(l:List Value) (o:Nat) (H:Heap),(setl H b o l).size=H.size
 | [],_,_=>rfl
 | v::r,o,H=>by rw[setl,Wk b r,Ss]
theorem Wn{b k:Nat}(hk:k≠b):∀(l:List Value) (o:Nat) (H:Heap),(setl H b o l)[k]? = H[k]?
 | [],_,_=>rfl
 | v::r,o,H=>by rw[setl,Wn hk r,Su hk]
theorem J9{P:Program}{b n:Nat}{E:TypeId}:∀(l:List Value) (o i:Nat) (w:World) (f:Nat→Value),(∀u∈l,u.oneCell'=true)→Rw w.heap b E n f→o+i+l.length≤n →
  ∃w',(storeCells ⟨b,o,none⟩ l i).run P w = .ok () w'∧w'.heap=setl w.heap b (o+i) l∧w'.os=w.os∧w'.tape=w.tape∧w'.output=w.output
 | [],o,i,w,f,_,_,_=>⟨w,rfl,rfl,rfl,rfl,rfl⟩
 | v::r,o,i,w,f,h1,hr,hn=>by
  have hv:=h1 v (by simp)
  simp only[List.length_cons] at hn
  have hcell:w.cell? ⟨b,o+i,none⟩=some (f (o+i)):=by rw[Jp];exact hr.cell (by omega)
  have hfr:w.frozen? ⟨b,o+i,none⟩=false:=by obtain⟨c,hc1,_⟩:=hr;simp[World.frozen?,hc1]
  obtain⟨w',e1,e2,e3,e4,e5⟩:=J9 (P:=P) r o (i+1) (w.setCell ⟨b,o+i,none⟩ v) _ (fun u hu=>h1 u (by simp[hu])) (by rw[Wo];exact hr.set (i:=o+i) (v:=v)) (by omega)
  refine⟨w',?_,?_,e3,e4,e5⟩
  ·simp only[storeCells]
   rw[Lg (a:=()) (w':=w.setCell ⟨b,o+i,none⟩ v)]
   ·exact e1
   ·rw[Addr.add_none,run_store P w _ _ _ hv,hcell,hfr];rfl
  ·rw[e2,Wo,←Nat.add_assoc];rfl
theorem Av.storeAgg{T:TypeId}{x y:Operand}{b o n m:Nat}{E:TypeId}{f:Nat→Value}{l:List Value}(hT:Sz P T m)(hx:ev e x=some (.pointer (some ⟨b,o,none⟩)))(hy:ev e y=some (.agg l.toArray))(hl:l.length=m)(h1:∀u∈l,u.oneCell'=true)(hr:Rw H b E n f)(hn:o+m≤n) :
  Av P e (.store T x y) H (fun _ H'=>H'=setl H b o l):=by
 intro ρ oo w ho hev hw
 subst hw
 obtain⟨w',e1,e2,e3,e4,e5⟩:=J9 (P:=P) l o 0 w f h1 hr (by omega)
 refine⟨undef,w',.inr ⟨?_,rfl⟩,e3,e4,e5,by simpa using e2⟩
 have hcs:(Value.agg l.toArray).cells=l.toArray:=rfl
 simp[execOp,ho,hev _ _ hx,hev _ _ hy,Instr.storeAt,Instr.sureAddr,storeVar,hT.run,hcs,hl,e1]
theorem AN:∀(l:List Value) (k:Nat) (cs:Array Value),k+l.length=cs.size→(l.zipIdx k).foldl (fun cs p=>cs.setIfInBounds (0+p.2) p.1) cs=(cs.toList.take k++l).toArray
 | [],k,cs,h=>by
  simp only[List.zipIdx_nil,List.foldl_nil,List.append_nil]
  rw[List.take_of_length_le (by simp at h ⊢;omega)]
 | v::r,k,cs,h=>by
  simp only[List.length_cons] at h
  rw[List.zipIdx_cons,List.foldl_cons,AN r (k+1) _ (by simp;omega)]
  congr 1
  simp only[Nat.zero_add,Array.toList_setIfInBounds]
  rw[List.take_succ_eq_append_getElem (by simp;omega),List.take_set_of_le (Nat.le_refl k)]
  simp
theorem Av.lit{T E:TypeId}{y:Operand}{s bytes:Nat}{z u:Value}{l:List Value}(hT:P.underlying T=some (.slice E))(hE:(P.info? E).map (fun i=>(i.zero,i.size,i.bytes))=some (some z,s,bytes))(hs:0<s)(hs':s≤1000)
  (hy:ev e y=some u) (hu:u.cells=l.toArray) (hl:l.length=s):Av P e (.buildSlice T 1 #[(0,y)]) H (fun v H'=>v = .slice (some ⟨H.size,0,none⟩) 1 1∧H'=H.push (.cells l.toArray E)):=by
 intro ρ o w ho hev hw
 obtain⟨i,hi,hz0,hz1,hz2⟩:=info_parts hE
 refine⟨.slice (some ⟨w.heap.size,0,none⟩) 1 1,{ w with heap:=w.heap.push (.cells l.toArray E) },.inl ?_,rfl,rfl,rfl,by subst hw;exact⟨rfl,rfl⟩⟩
 have hsz:(sizeOf E).run P w = .ok s w:=by simp[sizeOf,typeInfo,hi,hz1]
 have hzv:(zeroValue E).run P w = .ok z w:=by simp[zeroValue,typeInfo,hi,hz0]
 have hfill:∀cs:Array Value,cs.size=s→Instr.fill (fun i=>some (i*s,s)) cs [(0,u)]=some l.toArray:=by
  intro cs hcs
  have h1:¬(u.cells.size≠s||0*s+u.cells.size>cs.size)=true:=by rw[hu];simp[hl,hcs]
  simp only[Instr.fill]
  rw[if_neg h1,hu]
  have:=AN l 0 cs (by omega)
  simp only[List.take_zero,List.nil_append] at this
  rw[←Array.foldl_toList]
  simpa using this
 simp only[execOp,ho,List.map_toArray,List.map_cons,List.map_nil,hev _ _ hy,Instr.buildSlice]
 simp only[Sem.run_bind,run_underlying hT,Result.andThen_ok,hsz,Nat.one_mul]
 rw[if_neg (by omega:¬s>2^24)]
 have hs0:¬s=0:=by omega
 simp only[hs0,if_false,Sem.run_bind,Sem.run_pure,Result.andThen_ok,hzv]
 rw[hfill _ (by simp)]
 simp[newRow]
theorem PU{E:TypeId}(l:List Value):∀j u,l[j]? = some u→hc (H.push (.cells l.toArray E)) H.size (0+j)=some u:=by
 intro j u h
 simp[hc,h]
section
variable{n':Fs}{w0:World}{Q:Exit→Act→World→Prop}{ops:Array Oper}{d1 d2:Nat}{ty ty2:TypeId}{pos pos2:String}{af af2:Array Edge}{rest:List Oper}
theorem LF.app{T E:TypeId}{x y:Operand}{B s bytes n:Nat}{z v u:Value}{xs l:List Value}(hT:P.underlying T=some (.slice E))(hE:(P.info? E).map (fun i=>(i.zero,i.size,i.bytes))=some (some z,s,bytes))(hz:z.cells.size=s)(hs:0<s)(hs':s≤1000)
  (hy:ev e y=some u) (hu:u.cells=l.toArray) (hl:l.length=s) (h1:∀u∈l,u.oneCell'=true) (hx:ev ((d1,.slice (some ⟨H.size,0,none⟩) 1 1)::e) x=some v) (hown:Gr H B E s v n xs)
  (hb:(n+1)*bytes≤140737488355328) (hbn:n+1≤140737488355328) (hB:B≤H.size)
  (K:∀v' H',Gr H' B E s v' (n+1) (xs++l)→Of H H' v.ownBlock→v' ≠ .slice none 0 0→(v'.ownBlock=v.ownBlock∨∃g,v'.ownBlock=some g∧H.size≤g)→LF P n' w0 ops Q ((d2,v')::(d1,.slice (some ⟨H.size,0,none⟩) 1 1)::e) rest H')
  (hd1:Nat.blt d1 n'.sz=true:=by rfl) (hd2:Nat.blt d2 n'.sz=true:=by rfl) :
  LF P n' w0 ops Q e (⟨some d1,.buildSlice T 1 #[(0,y)],ty,pos,af,none⟩::⟨some d2,.call { callee := .builtin .append,args:=#[x,.tmp d1],argTypes:=#[T,T] },ty2,pos2,af2,none⟩::rest) H:=by
 refine LF.chg (Av.lit hT hE hs hs' hy hu hl) ?_ hd1
 rintro _ _ ⟨rfl,rfl⟩
 refine LF.chg (Av.append (n:=n) (m:=1) (xs:=xs) (news:=l) hT hE hz hs hx (hown.push _) (b:=H.size) (o:=0) (c:=1) (by simp[ev,lk]) (by omega) (PU l) h1 hb hbn (by simp;omega)) ?_ hd2
 rintro v' H' ⟨g1,⟨g2,g2'⟩,g3,g4⟩
 refine K v' H' g1 ⟨by simp at g2;omega,fun k hk hne=>(g2' k (by simp;omega) hne).trans (Nq hk)⟩ ?_ ?_
 ·intro e1;have:=(g3.1 e1).2;omega
 ·rcases g4 with g4|g4
  ·exact .inl g4
  ·exact .inr ⟨_,g4,by simp⟩
theorem Yr{e:Env}{x:Operand}{v:Value}(h:ev e x=some v):evl e [x]=some [v]:=by simp[evl,h]
theorem Mx{e:Env}{x y:Operand}{v u:Value}(h:ev e x=some v)(h':ev e y=some u):evl e [x,y]=some [v,u]:=by simp[evl,h,h']
end
end Go.JE
namespace Go.JE
variable{P:Program}{n:Fs}{w0:World}{Q:Exit→Act→World→Prop}{e:Env}{H:Heap}
def NoP(Q:Exit→Act→World→Prop):Exit→Act→World→Prop
 | .panic c,a,w=>∀a':Act,a'.defers=a.defers→Q (.panic c) a' w
 | x,a,w=>Q x a w
theorem NoP.imp{Q:Exit→Act→World→Prop}:∀(x:Exit) (a:Act) (w:World),NoP Q x a w→Q x a w:=fun x a w h=>by
 cases x<;>first|exact h|exact h a rfl
theorem NoP.pan{Q:Exit→Act→World→Prop}{o:Oper}{v:Value}:∀c a w,NoP Q (.panic c) (a.put o.dst v) w→NoP Q (.panic c) a w:=fun c a w h a' e=>h a' (e.trans (by cases o.dst<;>rfl))
def Ue(listed:Array Bool):Prop:=∃k,listed.getD k true=false
def Gq(P:Program)(ops:Array Oper)(Q:Exit→Act→World→Prop)(z:Bool)(S:World→Prop):Nat→Array Bool→Act→World→Prop
 | 0,listed,a,w=>Region.ready .any ops listed=[]∧Q .normal a w
 | fuel+1,listed,a,w=>(Region.ready .any ops listed=[]→Q .normal a w) ∧
  ∀i∈Region.ready .any ops listed,wpOp P ops Q i (fun a' w'=>(z=false∨Ue (listed.setIfInBounds i true)→S w')∧Gq P ops Q z S fuel (listed.setIfInBounds i true) a' w') a w
theorem Gq.any{ops:Array Oper}{z:Bool}{S:World→Prop}:∀(fuel:Nat) (listed:Array Bool) (a:Act) (w:World),Gq P ops Q z S fuel listed a w→wpAny P .any ops Q fuel listed a w
 | 0,_,_,_,h=>h
 | fuel+1,_,_,_,h=>⟨h.1,fun i hi=>wpOp_mono (fun a' w' h'=>Gq.any fuel _ a' w' h'.2) (h.2 i hi)⟩
def Oj(ops:Array Oper)(listed:Array Bool)(i:Nat):Bool :=
 (List.range ops.size).any fun k=>!(listed.getD k true)&&(match ops[k]? with|some o=>o.after.any (fun e=>Region.binds .any e&&e.on==i)|none=>false)
theorem Gq.first{ops:Array Oper}{z:Bool}{S:World→Prop}{i:Nat}{oi:Oper}{v:Value}(hi:ops[i]? = some oi)(hsel:∀(j:Nat) (o:Oper) cs b,ops[j]? = some o→o.op ≠ .select cs b)
  (hQ:∀c a w,Q (.panic c) (a.put oi.dst v) w→Q (.panic c) a w):∀(fuel:Nat) (listed:Array Bool) (a:Act) (w:World),
   (∀j oj,ops[j]? = some oj→j≠i→listed.getD j true=false→(∀e∈oj.after,Region.binds .any e=true→e.on≠i)→oi.apart ops oj=true) →
   i∈Region.ready .any ops listed→YieldsIf P ops S oi v a→S w →
   (z=false∨∃k ok,listed.getD k true=false∧ops[k]? = some ok∧∃e∈ok.after,Region.binds .any e=true∧e.on=i) →
   Gq P ops Q z S fuel (listed.setIfInBounds i true) (a.put oi.dst v) w→Gq P ops Q z S (fuel+1) listed a w:=by
 intro fuel
 induction fuel with
 | zero =>
  intro listed a w _ hr hy hS _ H
  refine⟨fun h=>absurd hr (by rw[h];exact List.not_mem_nil),fun j hj=>?_⟩
  rcases Decidable.em (j=i) with hji|hji
  ·subst hji;exact hy.wpOp hi hS ⟨fun _=>hS,H⟩
  ·exact absurd (H.1▸ready_mono hj hji) List.not_mem_nil
 | succ fuel ih =>
  intro listed a w hfree hr hy hS hz H
  refine⟨fun h=>absurd hr (by rw[h];exact List.not_mem_nil),fun j hj=>?_⟩
  rcases Decidable.em (j=i) with hji|hji
  ·subst hji;exact hy.wpOp hi hS ⟨fun _=>hS,H⟩
  have h1:=H.2 j (ready_mono hj hji)
  obtain⟨hjun,oj,hoj,hall⟩:=mem_ready.1 hj
  have hun:=(mem_ready.1 hr).1
  have hnot:∀e∈oj.after,Region.binds .any e=true→e.on≠i:=by
   rintro e he hb rfl
   have h2:=hall e he hb
   by_cases h':e.on<listed.size
   ·simp[h'] at h2 hun;rw[hun] at h2;cases h2
   ·simp[Array.getElem?_eq_none (Nat.le_of_not_lt h')] at h2
  have h2:=wpOp_putIf hoj (hfree j oj hoj hji hjun hnot) (fun cs b=>hsel i oi cs b hi) (fun cs b=>hsel j oj cs b hoj) hQ hy h1
  have hr':=ready_mono hr (Ne.symm hji)
  have hz':z=false∨∃k ok,(listed.setIfInBounds j true).getD k true=false∧ops[k]? = some ok∧k≠i∧∃e∈ok.after,Region.binds .any e=true∧e.on=i:=by
   rcases hz with hz|⟨k,ok,hk,hok,e,he,hb,hei⟩
   ·exact .inl hz
   ·refine .inr ⟨k,ok,?_,hok,?_,e,he,hb,hei⟩
    ·have hjk:j≠k:=by
      rintro rfl
      rw[hok] at hoj;cases hoj
      exact hnot e he hb hei
     rw[getD_set_ne true hjk];exact hk
    ·rintro rfl
     obtain⟨_,o2,ho2,hall2⟩:=mem_ready.1 hr
     rw[hok] at ho2;cases ho2
     have h9:=hall2 e he hb
     rw[hei] at h9
     by_cases h':k<listed.size
     ·simp[h'] at h9 hun;rw[hun] at h9;cases h9
     ·simp[Array.getElem?_eq_none (Nat.le_of_not_lt h')] at h9
  refine wpOp_mono (fun a' w' h3=>?_) h2
  obtain⟨hy',hS',hA⟩:=h3
  have hS2:S w':=hS' (by
   rcases hz' with hz|⟨k,ok,hk,hok,hki,_⟩
   ·exact .inl hz
   ·refine .inr ⟨k,?_⟩
    rw[Array.setIfInBounds_comm _ _ (Ne.symm hji),getD_set_ne true (Ne.symm hki)];exact hk)
  refine⟨fun _=>hS2,ih (listed.setIfInBounds j true) a' w' ?_ hr' hy' hS2 ?_ ?_⟩
  ·intro k ok hk hki hun2 hno
   refine hfree k ok hk hki ?_ hno
   rcases Decidable.em (j=k) with e|e
   ·subst e;exact hjun
   ·rwa[getD_set_ne true e] at hun2
  ·rcases hz' with hz|⟨k,ok,hk,hok,hki,h9⟩
   ·exact .inl hz
   ·exact .inr ⟨k,ok,hk,hok,h9⟩
  ·rw[Array.setIfInBounds_comm _ _ hji];exact hA
theorem C0{ops:Array Oper}{listed:Array Bool}{i:Nat}(h:Oj ops listed i=true):∃k ok,listed.getD k true=false∧ops[k]? = some ok∧∃e∈ok.after,Region.binds .any e=true∧e.on=i:=by
 unfold Oj at h
 rw[List.any_eq_true] at h
 obtain⟨k,_,hk⟩:=h
 simp only[Bool.and_eq_true,Bool.not_eq_true'] at hk
 obtain⟨h1,h2⟩:=hk
 split at h2
 ·rename_i o ho
  rw[Array.any_eq_true] at h2
  obtain⟨m,hm,h3⟩:=h2
  simp only[Bool.and_eq_true,beq_iff_eq] at h3
  exact⟨k,o,h1,ho,o.after[m],Array.getElem_mem hm,h3.1,h3.2⟩
 ·cases h2
theorem Gq.done{ops:Array Oper}{z:Bool}{S:World→Prop}{listed:Array Bool}{a:Act}{w:World}(hr:Region.ready .any ops listed=[])(h:Q .normal a w):∀fuel,Gq P ops Q z S fuel listed a w
 | 0=>⟨hr,h⟩
 | _+1=>⟨fun _=>h,by rw[hr];simp⟩
def AF(P:Program)(n:Fs)(w0:World)(ops:Array Oper)(Q:Exit→Act→World→Prop)(z:Bool)(S:Heap→Prop)(fuel:Nat)(listed:Array Bool)(e:Env)(H:Heap):Prop :=
 ∀a w,Fr n e a→Wd w0 H w→Gq P ops (NoP Q) z (fun w=>S w.heap) fuel listed a w
theorem CF.any{id:Nat}{l:List Oper}{z:Bool}(S:Heap→Prop)(hm:P.follows .mixedOrders=true)(h:AF P n w0 l.toArray Q z S l.length (Array.replicate l.length false) e H):CF P n w0 Q e (.region id l.toArray true) H:=by
 intro a w hf hw
 refine Code.wp_mono NoP.imp (wp_region_any hm (Gq.any (z:=z) (S:=fun w=>S w.heap) _ _ _ _ ?_))
 have:=h a _ hf hw.drew
 simpa using this
section
variable{l:List Oper}{z:Bool}{S:Heap→Prop}{fuel i d:Nat}{listed:Array Bool}{op:Op}{ty:TypeId}{pos:String}{af:Array Edge}{v:Value}
theorem AF.take(i:Nat)(hi:l[i]? = some ⟨some d,op,ty,pos,af,none⟩)(hs:Region.noSelect l.toArray=true)(hfr:Region.free .any l.toArray listed i=true)(hr:(Region.ready .any l.toArray listed).contains i=true)(hS:S H)
  (h:∀H',S H'→Aa P e op H' v) (K:AF P n w0 l.toArray Q z S fuel (listed.setIfInBounds i true) ((d,v)::e) H) (hd:Nat.blt d n.sz=true:=by rfl) (hz:z=false∨Oj l.toArray listed i=true:=by first|exact .inl rfl|exact .inr (by kernel_rfl)):AF P n w0 l.toArray Q z S (fuel+1) listed e H:=by
 intro a w hf hw
 refine Gq.first (i:=i) (oi:=⟨some d,op,ty,pos,af,none⟩) (v:=v) (by simpa using hi) (Region.noSelect_spec hs) NoP.pan fuel listed a w (Region.free_spec (by simpa using hi) hfr) (by simpa using hr) ?_ (hw.heap▸hS) (hz.imp id C0) (K _ _ (hf.put hd v) hw)
 exact .inl ⟨by simp[Region.wanted],fun w' hS'=>h w'.heap hS' a.eval _ w' rfl (fun x u hx=>hf.ev hx) rfl⟩
theorem AF.gtake(i:Nat){j t:Nat}{want B:Bool}{u:Value}(hi:l[i]? = some ⟨some d,op,ty,pos,af,some (j,want)⟩)(hs:Region.noSelect l.toArray=true)(hfr:Region.free .any l.toArray listed i=true)(hr:(Region.ready .any l.toArray listed).contains i=true)(hS:S H)
  (hj:(l.toArray[j]?).bind (·.dst)=some t) (hu:lk e t=some u) (hB:Gd u want B) (h:B=true→∀H',S H'→Aa P e op H' v) (K:AF P n w0 l.toArray Q z S fuel (listed.setIfInBounds i true) ((d,gv B v)::e) H)
  (hd:Nat.blt d n.sz=true:=by rfl) (ht:Nat.blt t n.sz=true:=by rfl) (hz:z=false∨Oj l.toArray listed i=true:=by first|exact .inl rfl|exact .inr (by kernel_rfl)):AF P n w0 l.toArray Q z S (fuel+1) listed e H:=by
 intro a w hf hw
 have hwt:=Qm (ops:=l.toArray) (o:=⟨some d,op,ty,pos,af,some (j,want)⟩) rfl hj ht hf hu hB
 refine Gq.first (i:=i) (oi:=⟨some d,op,ty,pos,af,some (j,want)⟩) (v:=gv B v) (by simpa using hi) (Region.noSelect_spec hs) NoP.pan fuel listed a w (Region.free_spec (by simpa using hi) hfr) (by simpa using hr) ?_ (hw.heap▸hS) (hz.imp id C0) (K _ _ (hf.put hd _) hw)
 cases B with
 | true=>exact .inl ⟨hwt,fun w' hS'=>h rfl w'.heap hS' a.eval _ w' rfl (fun x u hx=>hf.ev hx) rfl⟩
 | false=>exact .inr ⟨hwt,rfl⟩
theorem ED{ops:Array Oper}{Q:Exit→Act→World→Prop}{z:Bool}{S:World→Prop}{a:Act}{w:World}(hr:Region.ready .any ops listed=[i])(h:wpOp P ops Q i (fun a' w'=>(z=false∨Ue (listed.setIfInBounds i true)→S w')∧Gq P ops Q z S fuel (listed.setIfInBounds i true) a' w') a w) :
  Gq P ops Q z S (fuel+1) listed a w :=
 ⟨fun h0=>(by rw[hr] at h0;cases h0),fun j hj=>(by rw[hr] at hj;simp only[List.mem_singleton] at hj;subst hj;exact h)⟩
theorem AF.done(hr:Region.ready .any l.toArray listed=[])(h:PF n w0 Q e .normal H):AF P n w0 l.toArray Q z S fuel listed e H :=
 fun a w hf hw=>Gq.done (Q:=NoP Q) (z:=z) (S:=fun w=>S w.heap) hr (show NoP Q .normal a w from h a w hf hw) fuel
end
end Go.JE
namespace Go.JE
variable{P:Program}{e:Env}{H:Heap}
abbrev PH:=Nat→Option Obj
def PH.le(F G:PH):Prop:=∀k o,F k=some o→G k=some o
theorem PH.le.refl(F:PH):F.le F:=fun _ _ h=>h
theorem PH.le.trans{F G K:PH}(h:F.le G)(h':G.le K):F.le K:=fun k o hk=>h' k o (h k o hk)
def InH(F:PH)(H:Heap):Prop:=∀k o,F k=some o→H[k]? = some o
theorem InH.down{F G:PH}(h:InH G H)(hl:F.le G):InH F H:=fun k o hk=>h k o (hl k o hk)
theorem InH.lt{F:PH}(h:InH F H){k:Nat}{o:Obj}(hk:F k=some o):k<H.size:=(Array.getElem?_eq_some_iff.1 (h k o hk)).1
theorem InH.nope{F:PH}(h:InH F H){k:Nat}(hk:H.size≤k):F k=none:=by
 cases h1:F k with
 | none=>rfl
 | some o=>have:=h.lt h1;omega
theorem InH.of{F:PH}{H':Heap}(h:InH F H)(hk:∀k o,F k=some o→H'[k]? = H[k]?):InH F H':=fun k o h1=>(hk k o h1).trans (h k o h1)
theorem InH.kp{F:PH}{H':Heap}(h:InH F H)(hk:Kp H.size H H'):InH F H':=h.of fun k _ h1=>hk.2 k (h.lt h1)
def pc(F:PH)(b o:Nat):Option Value:=match F b with
 | some (.cells c _ _)=>c[o]?
 | _=>none
theorem InH.hc{F:PH}(h:InH F H){b o:Nat}{v:Value}(e1:pc F b o=some v):hc H b o=some v:=by
 unfold pc at e1
 split at e1
 ·rename_i c _ _ h1;simp[JE.hc,h _ _ h1,e1]
 ·cases e1
theorem R4{F G:PH}(h:F.le G){b o:Nat}{v:Value}(e1:pc F b o=some v):pc G b o=some v:=by
 unfold pc at e1 ⊢
 split at e1
 ·rename_i c _ _ h1;rw[h _ _ h1];exact e1
 ·cases e1
def PH.add(F:PH)(g:Nat)(o:Obj):PH:=fun k=>if k=g then some o else F k
theorem PH.le_add{F:PH}{g:Nat}{o:Obj}(h:F g=none):F.le (F.add g o):=fun k o' hk=>by
 unfold PH.add;rw[if_neg (by rintro rfl;rw[h] at hk;cases hk)];exact hk
theorem InH.add{F:PH}(h:InH F H){g:Nat}{o:Obj}(hg:H[g]? = some o):InH (F.add g o) H:=fun k o' hk=>by
 unfold PH.add at hk
 split at hk
 ·rename_i e1;subst e1;rw[hg];exact hk
 ·exact h k o' hk
def PH.ext(H:Heap)(F G:PH):Prop:=F.le G∧∀k,k<H.size→G k=F k
theorem PH.ext.refl(F:PH):PH.ext H F F:=⟨PH.le.refl F,fun _ _=>rfl⟩
theorem PH.ext.trans{H':Heap}{F G K:PH}(h:PH.ext H F G)(h':PH.ext H' G K)(hs:H.size≤H'.size):PH.ext H F K:=⟨h.1.trans h'.1,fun k hk=>(h'.2 k (by omega)).trans (h.2 k hk)⟩
theorem PH.ext.add{F G:PH}{g:Nat}{o:Obj}(h:PH.ext H F G)(hg:G g=none)(hs:H.size≤g):PH.ext H F (G.add g o) :=
 ⟨h.1.trans (PH.le_add hg),fun k hk=>by unfold PH.add;rw[if_neg (by omega)];exact h.2 k hk⟩
structure Rp(α:Type) where
 sz:Nat
 agg:Bool
 ok:PH→α→(Nat→Value)→Prop
 up:∀{F G:PH} {a:α} {f:Nat→Value},F.le G→ok F a f→ok G a f
 ext:∀{F:PH} {a:α} {f g:Nat→Value},(∀i,i<sz→f i=g i)→ok F a f→ok F a g
 one:∀{F:PH} {a:α} {f:Nat→Value},ok F a f→∀i,i<sz→(f i).oneCell'=true
def Rp.rv{α:Type}(r:Rp α)(F:PH)(v:Value)(a:α):Prop:=r.ok F a (fun _=>v)
def Rp.ra{α:Type}(r:Rp α)(F:PH)(v:Value)(a:α):Prop:=∃l:List Value,v = .agg l.toArray∧l.length=r.sz∧r.ok F a (fun i=>l.getD i undef)
def At{α:Type}(F:PH)(r:Rp α)(b o:Nat)(a:α):Prop:=∃f,(∀i,i<r.sz→pc F b (o+i)=some (f i))∧r.ok F a f
section
variable{α β:Type}{r:Rp α}{F G:PH}{a:α}{v:Value}{b o:Nat}
theorem Rp.rv.up(h:r.rv F v a)(hl:F.le G):r.rv G v a:=Rp.up r hl h
theorem Rp.ra.up(h:r.ra F v a)(hl:F.le G):r.ra G v a:=by obtain⟨l,h1,h2,h3⟩:=h;exact⟨l,h1,h2,Rp.up r hl h3⟩
theorem At.up(h:At F r b o a)(hl:F.le G):At G r b o a:=by obtain⟨f,h1,h2⟩:=h;exact⟨f,fun i hi=>R4 hl (h1 i hi),Rp.up r hl h2⟩
theorem At.part{s:Rp β}{c:β}(off:Nat)(h:At F r b o a)(hs:off+s.sz≤r.sz)(hp:∀f,r.ok F a f→s.ok F c (fun i=>f (i+off))):At F s b (o+off) c:=by
 obtain⟨f,h1,h2⟩:=h
 exact⟨fun i=>f (i+off),fun i hi=>by rw[Nat.add_assoc,Nat.add_comm off i];exact h1 _ (by omega),hp f h2⟩
theorem Aa.ldA{T:TypeId}{x:Operand}(hin:InH F H)(hat:At F r b o a)(hT:Ag9 P T)(hS:Sz P T r.sz)(hx:ev e x=some (.pointer (some ⟨b,o,none⟩))) :
  ∃v,Aa P e (.load T x) H v∧r.ra F v a:=by
 obtain⟨f,h1,h2⟩:=hat
 refine⟨.agg ((List.range r.sz).map f).toArray,Aa.loadAgg hT hS hx (by simp) (fun j u hj=>?_),(List.range r.sz).map f,rfl,by simp,Rp.ext r (fun i hi=>by simp[hi]) h2⟩
 have hj':j<r.sz:=by have:=(List.getElem?_eq_some_iff.1 hj).1;simpa using this
 have hu:f j=u:=by simpa[hj'] using hj
 rw[←hu];exact hin.hc (h1 j hj')
theorem Aa.ldV{T:TypeId}{x:Operand}(hin:InH F H)(hat:At F r b o a)(hT:One P T)(hS:r.sz=1)(hx:ev e x=some (.pointer (some ⟨b,o,none⟩))) :
  ∃v,Aa P e (.load T x) H v∧r.rv F v a:=by
 obtain⟨f,h1,h2⟩:=hat
 refine⟨f 0,Aa.load hT hx rfl (hin.hc (h1 0 (by omega))),Rp.ext r (fun i hi=>?_) h2⟩
 rw[show i=0 by omega]
end
def rI(k:IntKind):Rp Int where
 sz:=1
 agg:=false
 ok _ n f:=f 0 = .int k n∧k.wrap n=n
 up _ h:=h
 ext he h:=by rw[←he 0 (by omega)];exact h
 one h i hi:=by rw[show i=0 by omega,h.1];rfl
def rB:Rp Bool where
 sz:=1
 agg:=false
 ok _ n f:=f 0 = .bool n
 up _ h:=h
 ext he h:=by rw[←he 0 (by omega)];exact h
 one h i hi:=by rw[show i=0 by omega,h];rfl
def rLn{α:Type}(N:Nat)(r:Rp α):Rp (List α) where
 sz:=1
 agg:=false
 ok F l f:=(l.length<N∧l.length≤9223372036854775807)∧∃a cap,f 0 = .slice a l.length cap∧l.length≤cap∧(∀i,i<l.length*r.sz→∃b o,a=some ⟨b,o,none⟩) ∧
  ∃g:Nat→Value,(∀i,i<l.length*r.sz→pc F (Cb (f 0)) (Ca (f 0)+i)=some (g i))∧∀i (hi:i<l.length),r.ok F l[i] (fun j=>g (i*r.sz+j))
 up hl h:=by
  obtain⟨h0,a,cap,h1,h2,h3,g,h4,h5⟩:=h
  exact⟨h0,a,cap,h1,h2,h3,g,fun i hi=>R4 hl (h4 i hi),fun i hi=>r.up hl (h5 i hi)⟩
 ext he h:=by rw[←he 0 (by omega)];exact h
 one h i hi:=by obtain⟨h0,a,cap,h1,_⟩:=h;rw[show i=0 by omega,h1];rfl
abbrev rL{α:Type}(r:Rp α):Rp (List α):=rLn 1073741824 r
section
variable{α:Type}{r:Rp α}{F:PH}{v:Value}{l:List α}{N:Nat}
theorem rL.len(h:(rLn N r).rv F v l):l.length<N:=h.1.1
theorem rL.sl(h:(rLn N r).rv F v l):∃a cap,v = .slice a l.length cap∧l.length≤cap:=by obtain⟨_,a,cap,h1,h2,_⟩:=h;exact⟨a,cap,h1,h2⟩
theorem rL.at(h:(rLn N r).rv F v l)(i:Nat)(hi:i<l.length):At F r (Cb v) (Ca v+i*r.sz) l[i]:=by
 obtain⟨_,a,cap,h1,h2,h3,g,h4,h5⟩:=h
 refine⟨fun j=>g (i*r.sz+j),fun j hj=>?_,h5 i hi⟩
 rw[Nat.add_assoc]
 refine h4 _ ?_
 have:(i+1)*r.sz≤l.length*r.sz:=Nat.mul_le_mul_right _ hi
 rw[Nat.add_mul] at this;omega
theorem rL.nil0{N:Nat}(hN:0<N)(F:PH):(rLn N r).rv F (.slice none 0 0) []:=⟨by simp;exact hN,none,0,rfl,by simp,fun i hi=>by simp at hi,fun _=>undef,fun i hi=>by simp at hi,fun i hi=>by simp at hi⟩
theorem rL.nil(F:PH):(rL r).rv F (.slice none 0 0) []:=⟨by simp,none,0,rfl,by simp,fun i hi=>by simp at hi,fun _=>undef,fun i hi=>by simp at hi,fun i hi=>by simp at hi⟩
theorem rL.slH(h:(rLn N r).rv F v l)(hin:InH F H):∃f,Sl H H.size v r.sz l.length f:=by
 obtain⟨h0,a,cap,h1,h2,h3,g,h4,h5⟩:=h
 refine⟨g,h0.2,a,cap,h1,h2,fun i hi=>?_⟩
 obtain⟨b,o,e1⟩:=h3 i hi
 have h6:=hin.hc (h4 i hi)
 rw[h1,e1] at h6
 simp only[Cb,Ca] at h6
 refine⟨b,o,e1,?_,h6⟩
 unfold hc at h6
 cases h7:H[b]? with
 | none=>rw[h7] at h6;cases h6
 | some x=>exact(Array.getElem?_eq_some_iff.1 h7).1
theorem Aa.lenL{T:TypeId}{x:Operand}{E:TypeId}(hT:P.underlying T=some (.slice E))(hs:(rLn N r).rv F v l)(hx:ev e x=some v):Aa P e (.call { callee := .builtin .len,args:=#[x],argTypes:=#[T] }) H (.int .i64 (l.length:Nat)):=by
 obtain⟨a,cap,rfl,_⟩:=rL.sl hs
 exact Aa.lenS hT hx
theorem Aa.idxL{T E:TypeId}{x ix:Operand}{k:IntKind}{I:Int}{i:Nat}(hT:P.underlying T=some (.slice E))(hE:Sz P E r.sz)(hs:(rLn N r).rv F v l)(hx:ev e x=some v)(hi:ev e ix=some (.int k I))(hI:I=i)(h1:i<l.length)(hsz:0<r.sz:=by exact Nat.le_of_ble_eq_true rfl) :
  Aa P e (.indexAddr T x ix) H (.pointer (some ⟨Cb v,Ca v+i*r.sz,none⟩)):=by
 obtain⟨_,a,cap,rfl,h2,h3,_⟩:=hs
 obtain⟨b,o,rfl⟩:=h3 0 (Nat.mul_pos (by omega) hsz)
 have:=Aa.indexA (H:=H) hT hE hx hi (by omega) (by omega)
 subst hI
 simpa[Cb,Ca] using this
theorem rL.resl{M:Nat}(h:(rLn N r).rv F v l){lo hi:Nat}(h1:lo≤hi)(h2:hi≤l.length)(hM:hi-lo<M):(rLn M r).rv F (JE.resl r.sz v lo hi) ((l.take hi).drop lo):=by
 obtain⟨h0,a,cap,e1,hcap,h3,g,h4,h5⟩:=h
 subst e1
 have hlen:((l.take hi).drop lo).length=hi-lo:=by simp;omega
 refine⟨⟨by rw[hlen];omega,by rw[hlen];omega⟩,if cap=lo then a else a.map (·.add (lo*r.sz)),cap-lo,by rw[hlen];rfl,by rw[hlen];omega,fun i hi'=>?_,fun i=>g (lo*r.sz+i),fun i hi'=>?_,fun i hi'=>?_⟩
 ·rw[hlen] at hi'
  have hb0:i<l.length*r.sz:=by
   have:(hi-lo)*r.sz≤l.length*r.sz:=Nat.mul_le_mul_right _ (by omega)
   omega
  obtain⟨b,o,rfl⟩:=h3 i hb0
  split
  ·exact⟨b,o,rfl⟩
  ·exact⟨b,o+lo*r.sz,by simp[Addr.add_none]⟩
 ·rw[hlen] at hi'
  have hb:lo*r.sz+i<l.length*r.sz:=by
   have:(hi-lo)*r.sz+lo*r.sz≤l.length*r.sz:=by rw[←Nat.add_mul];exact Nat.mul_le_mul_right _ (by omega)
   omega
  have h6:=h4 _ hb
  obtain⟨b,o,rfl⟩:=h3 _ hb
  have hc':¬cap=lo:=by
   intro e1
   have:l.length*r.sz≤lo*r.sz:=Nat.mul_le_mul_right _ (by omega)
   omega
  simp only[Cb,Ca] at h6
  simp only[JE.resl,if_neg hc',Option.map_some,Addr.add_none,Cb,Ca]
  rw[Nat.add_assoc];exact h6
 ·have h6:=h5 (lo+i) (by omega)
  have e1:((l.take hi).drop lo)[i]=l[lo+i]'(by omega):=by simp
  rw[e1]
  have h7:(fun j=>g (lo*r.sz+(i*r.sz+j)))=fun j=>g ((lo+i)*r.sz+j):=by funext j;rw[Nat.add_mul,Nat.add_assoc]
  rw[h7];exact h6
section
variable{T E:TypeId}{x lx hx':Operand}{lo hi:Nat}{k k':IntKind}{I J:Int}
theorem Aa.sliceHiL(hT:P.underlying T=some (.slice E))(hE:Sz P E r.sz)(hs:(rLn N r).rv F v l)(hin:InH F H)(hx:ev e x=some v)(hh:ev e hx'=some (.int k' J))(hJ:J=hi)(h2:hi≤l.length) :
  Aa P e (.slice T x none (some hx') none) H (JE.resl r.sz v 0 hi):=by
 obtain⟨f,hf⟩:=rL.slH hs hin
 exact Aa.sliceHi hT hE hf hx hh hJ h2
theorem Aa.sliceLoL(hT:P.underlying T=some (.slice E))(hE:Sz P E r.sz)(hs:(rLn N r).rv F v l)(hin:InH F H)(hx:ev e x=some v)(hl:ev e lx=some (.int k I))(hI:I=lo)(h2:lo≤l.length) :
  Aa P e (.slice T x (some lx) none none) H (JE.resl r.sz v lo l.length):=by
 obtain⟨f,hf⟩:=rL.slH hs hin
 exact Aa.sliceLo hT hE hf hx hl hI h2
end
end
theorem Aa.ldI{T:TypeId}{x:Operand}{k:IntKind}{F:PH}{n:Int}{b o:Nat}(hin:InH F H)(hat:At F (rI k) b o n)(hT:One P T)(hx:ev e x=some (.pointer (some ⟨b,o,none⟩))):Aa P e (.load T x) H (.int k n):=by
 obtain⟨f,h1,h2,_⟩:=hat
 have h3:=hin.hc (h1 0 (show 0<(rI k).sz from Nat.one_pos))
 rw[h2] at h3
 exact Aa.load hT hx rfl h3
theorem Aa.ldB{T:TypeId}{x:Operand}{F:PH}{n:Bool}{b o:Nat}(hin:InH F H)(hat:At F rB b o n)(hT:One P T)(hx:ev e x=some (.pointer (some ⟨b,o,none⟩))):Aa P e (.load T x) H (.bool n):=by
 obtain⟨f,h1,h2⟩:=hat
 have h3:=hin.hc (h1 0 (by decide))
 rw[show f 0=_ from h2] at h3
 exact Aa.load hT hx rfl h3
def Gl{α:Type}(r:Rp α)(T:TypeId)(F:PH)(H:Heap)(B:Nat)(v:Value)(l:List α):Prop :=
 ∃xs,Gr H B T r.sz v l.length xs∧(∀k,v.ownBlock=some k→F k=none)∧∀i (hi:i<l.length),r.ok F l[i] (fun j=>xs.getD (i*r.sz+j) undef)
section
variable{α:Type}{r:Rp α}{T:TypeId}{F G:PH}{B:Nat}{v:Value}{l:List α}
theorem Gl.nil(F:PH)(H:Heap)(B:Nat):Gl r T F H B (.slice none 0 0) []:=⟨[],Gr.nil _ _ _,fun k hk=>by simp[Value.ownBlock] at hk,fun i hi=>by simp at hi⟩
theorem Gl.of{H':Heap}(h:Gl r T F H B v l)(hk:∀k,v.ownBlock=some k→H'[k]? = H[k]?):Gl r T F H' B v l:=by
 obtain⟨xs,h1,h2,h3⟩:=h
 exact⟨xs,h1.of hk,h2,h3⟩
theorem Gl.blk(h:Gl r T F H B v l):∀k,v.ownBlock=some k→B≤k∧k<H.size:=by obtain⟨xs,h1,_⟩:=h;exact h1.blk
theorem Gl.no(h:Gl r T F H B v l):∀k,v.ownBlock=some k→F k=none:=by obtain⟨xs,_,h1,_⟩:=h;exact h1
theorem Gl.base{B':Nat}(h:Gl r T F H B v l)(hB:B'≤B):Gl r T F H B' v l:=by
 obtain⟨xs,h1,h2,h3⟩:=h
 refine⟨xs,⟨h1.1,?_⟩,h2,h3⟩
 rcases h1.2 with h9|⟨g,cap,cur,e1,hb,r'⟩
 ·exact .inl h9
 ·exact .inr ⟨g,cap,cur,e1,by omega,r'⟩
theorem Gl.freeze{N:Nat}(h:Gl r T F H B v l)(hin:InH F H)(hM:l.length<N):∃G,F.le G∧InH G H∧(∀k,k<B→G k=F k)∧(∀k,v.ownBlock≠some k→G k=F k)∧(rLn N r).rv G v l:=by
 obtain⟨xs,h1,h2,h3⟩:=h
 have hlen:=h1.lenLe
 rcases h1.2 with⟨rfl,h0⟩|⟨g,cap,cur,rfl,hb,hg,hc1,hc2,hc3,hc4⟩
 ·have hl:l=[]:=List.eq_nil_of_length_eq_zero h0
  subst hl
  exact⟨F,PH.le.refl F,hin,fun _ _=>rfl,fun _ _=>rfl,rL.nil0 (by simpa using hM) F⟩
 ·have hno:=h2 g rfl
  refine⟨F.add g (.cells cur T (0,0)),PH.le_add hno,hin.add hg,fun k hk=>by unfold PH.add;rw[if_neg (by omega)],fun k hk=>?_,⟨hM,hlen⟩,_,_,rfl,hc1,fun i hi=>⟨g,0,rfl⟩,fun i=>xs.getD i undef,fun i hi=>?_,fun i hi=>r.up (PH.le_add hno) (h3 i hi)⟩
  ·unfold PH.add;rw[if_neg];rintro rfl;exact hk rfl
  ·simp only[Cb,Ca,pc,PH.add,if_true,Nat.zero_add]
   have h5:xs[i]? = cur[i]? := by rw[←hc4,List.getElem?_take,if_pos hi];simp
   have h6:i<xs.length:=by rw[h1.1];exact hi
   rw[←h5];simp[List.getD,h6]
theorem Gl.cell(h:Gl r T F H B v l){i j:Nat}(hi:i<l.length)(hj:j<r.sz):∃f,r.ok F l[i] f∧hc H (Cb v) (Ca v+(i*r.sz+j))=some (f j):=by
 obtain⟨xs,h1,h2,h3⟩:=h
 refine⟨_,h3 i hi,?_⟩
 have hb:i*r.sz+j<l.length*r.sz:=by
  have:(i+1)*r.sz≤l.length*r.sz:=Nat.mul_le_mul_right _ hi
  rw[Nat.add_mul] at this;omega
 have h4:=(h1.sl (f:=fun i=>xs.getD i undef) (fun i hi=>by simp[List.getD,show i<xs.length by rw[h1.1];exact hi])).at hb
 simpa[Ps] using h4
theorem Gl.sl(h:Gl r T F H B v l):∃f,Sl H H.size v r.sz l.length f:=by
 obtain⟨xs,h1,h2,h3⟩:=h
 exact⟨fun i=>xs.getD i undef,h1.sl (fun i hi=>by simp[List.getD,show i<xs.length by rw[h1.1];exact hi])⟩
theorem Gl.own(h:Gl r T F H B v l)(hn:0<l.length):∃g c,v = .slice (some ⟨g,0,none⟩) l.length c∧B≤g∧g<H.size∧F g=none:=by
 obtain⟨xs,h1,h2,h3⟩:=h
 obtain⟨g,c,rfl,h4,h5⟩:=h1.own hn
 exact⟨g,c,rfl,h4,h5,h2 g rfl⟩
end
def rP{α β:Type}(r:Rp α)(s:Rp β):Rp (α×β) where
 sz:=s.sz+r.sz
 agg:=true
 ok F p f:=r.ok F p.1 f∧s.ok F p.2 (fun i=>f (i+r.sz))
 up hl h:=⟨r.up hl h.1,s.up hl h.2⟩
 ext he h:=⟨r.ext (fun i hi=>he i (by omega)) h.1,s.ext (fun i hi=>he (i+r.sz) (by omega)) h.2⟩
 one h i hi:=by
  by_cases h1:i<r.sz
  ·exact r.one h.1 i h1
  ·have:=s.one h.2 (i-r.sz) (by omega)
   rwa[Nat.sub_add_cancel (by omega)] at this
def rM{α β:Type}(r:Rp α)(g:β→α):Rp β where
 sz:=r.sz
 agg:=true
 ok F b f:=r.ok F (g b) f
 up hl h:=r.up hl h
 ext he h:=r.ext he h
 one h i hi:=r.one h i hi
def rA{α:Type}(n:Nat)(r:Rp α):Rp (List α) where
 sz:=n*r.sz
 agg:=true
 ok F l f:=l.length=n∧∀i (hi:i<l.length),r.ok F l[i] (fun j=>f (i*r.sz+j))
 up hl h:=⟨h.1,fun i hi=>r.up hl (h.2 i hi)⟩
 ext {F l f g} he h:=⟨h.1,fun i hi=>r.ext (fun j hj=>he _ (by
  have h1:=h.1
  have:(i+1)*r.sz≤n*r.sz:=Nat.mul_le_mul_right _ (by omega)
  rw[Nat.add_mul] at this;omega)) (h.2 i hi)⟩
 one {F l f} h i hi:=by
  have h0:0<r.sz:=by rcases Nat.eq_zero_or_pos r.sz with h9|h9;(· rw[h9] at hi;simp at hi);exact h9
  have h1:i / r.sz<l.length:=by rw[h.1];exact Nat.div_lt_of_lt_mul (by rw[Nat.mul_comm];exact hi)
  have:=r.one (h.2 _ h1) (i%r.sz) (Nat.mod_lt _ h0)
  rwa[Nat.div_add_mod'] at this
def ix{α:Type}[Inhabited α](l:List α)(i:Nat):α:=l.getD i default
section
variable{α:Type} [Inhabited α]{r:Rp α}{F:PH}{l:List α}{v:Value}
theorem Bp{i:Nat}(h:i<l.length):ix l i=l[i]:=by simp[ix,h]
theorem Hf{i:Nat}(h:i<l.length):l.drop i=ix l i::l.drop (i+1):=by rw[Bp h];exact List.drop_eq_getElem_cons h
theorem Ej{i:Nat}(h:i<l.length):l.take (i+1)=l.take i++[ix l i]:=by rw[Bp h];exact List.take_succ_eq_append_getElem h
theorem Fi{i:Nat}(a:α):ix (a::l) (i+1)=ix l i:=by simp[ix]
theorem Fq(a:α):ix (a::l) 0=a:=by simp[ix]
theorem Up{i:Nat}(h:i<l.length)(m:List α):ix (l++m) i=ix l i:=by
 rw[Bp h,Bp (by simp;omega)];exact List.getElem_append_left _
theorem Ax{i:Nat}(h:i<l.length):ix l i∈l:=by rw[Bp h];exact List.getElem_mem _
theorem rL.ix{N:Nat}(h:(rLn N r).rv F v l)(i:Nat)(hi:i<l.length):At F r (Cb v) (Ca v+i*r.sz) (ix l i):=by rw[Bp hi];exact rL.at h i hi
end
def Bx(H:Heap)(g:Nat)(T:TypeId)(l:List Value):Prop:=H[g]? = some (.cells l.toArray T (0,0))
section
variable{g:Nat}{T:TypeId}{l:List Value}
theorem Bx.lt(h:Bx H g T l):g<H.size:=(Array.getElem?_eq_some_iff.1 h).1
theorem Bx.of{H':Heap}(h:Bx H g T l)(hk:H'[g]? = H[g]?):Bx H' g T l:=hk.trans h
theorem Bx.hc(h:Bx H g T l){i:Nat}{v:Value}(hi:l[i]? = some v):hc H g i=some v:=by
 unfold Bx at h;simp[JE.hc,h,hi]
theorem Bx.rw(h:Bx H g T l):Rw H g T l.length (fun i=>l.getD i undef):=⟨l.toArray,h,by simp,fun i hi=>by simp[hi]⟩
theorem Bx.set(h:Bx H g T l)(i:Nat)(v:Value):Bx (Ie H g i v) g T (l.set i v):=by
 unfold Bx at h ⊢
 simp[Ie,Array.getElem?_modify,h]
def Jc(l:List Value):Nat→List Value→List Value
 | _,[]=>l
 | o,v::r=>Jc (l.set o v) (o+1) r
theorem Bx.setl:∀(m:List Value) {H:Heap} {l:List Value} (_:Bx H g T l) (o:Nat),Bx (setl H g o m) g T (Jc l o m)
 | [],_,_,h,_=>h
 | v::r,_,_,h,o=>Bx.setl r (h.set o v) (o+1)
theorem Aa.ldBx{x:Operand}{T':TypeId}{o:Nat}{v:Value}(hb:Bx H g T l)(hT:One P T')(hx:ev e x=some (.pointer (some ⟨g,o,none⟩)))(hl:l[o]? = some v):Aa P e (.load T' x) H v :=
 Aa.load hT hx rfl (hb.hc hl)
theorem Aa.ldBxA{x:Operand}{T':TypeId}{o m:Nat}{cs:List Value}(hb:Bx H g T l)(hT:∃d,P.underlying T'=some d∧(match d with | .struct _ | .array _ _=>true|_=>false)=true)(hS:Sz P T' m)(hx:ev e x=some (.pointer (some ⟨g,o,none⟩)))
  (hl:(l.drop o).take m=cs) (hm:cs.length=m):Aa P e (.load T' x) H (.agg cs.toArray) :=
 Aa.loadAgg hT hS hx hm (fun j u hj=>hb.hc (by
  rw[←hl,List.getElem?_take] at hj
  split at hj
  ·rwa[List.getElem?_drop] at hj
  ·cases hj))
theorem Av.boxB{x:Operand}{v:Value}{cs:List Value}(hx:ev e x=some v)(hv:v.cells=cs.toArray):Av P e (.box T x) H (fun u H'=>∃g,u = .pointer (some ⟨g,0,none⟩)∧g=H.size∧H'.size=H.size+1∧Kp H.size H H'∧Bx H' g T cs):=by
 intro ρ o w ho hev hw
 obtain⟨v',w',h1,h2,h3,h4,rfl,h6⟩:=Av.box (P:=P) (T:=T) hx ρ o w ho hev hw
 exact⟨_,w',h1,h2,h3,h4,H.size,rfl,rfl,by rw[h6];simp,by rw[h6];exact(Kp.refl _ _).push (Nat.le_refl _) _,by rw[h6,hv];exact Nr⟩
theorem Av.allocB{z:Value}{cs:List Value}(hz:(P.info? T).bind (·.zero)=some z)(hv:z.cells=cs.toArray):Av P e (.alloc T) H (fun u H'=>∃g,u = .pointer (some ⟨g,0,none⟩)∧g=H.size∧H'.size=H.size+1∧Kp H.size H H'∧Bx H' g T cs):=by
 intro ρ o w ho hev hw
 obtain⟨v',w',h1,h2,h3,h4,rfl,h6⟩:=Av.alloc (P:=P) (T:=T) (e:=e) hz ρ o w ho hev hw
 exact⟨_,w',h1,h2,h3,h4,H.size,rfl,rfl,by rw[h6];simp,by rw[h6];exact(Kp.refl _ _).push (Nat.le_refl _) _,by rw[h6,hv];exact Nr⟩
theorem Av.storeB{x y:Operand}{T':TypeId}{o:Nat}{v:Value}(hb:Bx H g T l)(hT:Sz P T' 1)(hx:ev e x=some (.pointer (some ⟨g,o,none⟩)))(hy:ev e y=some v)(h1:v.oneCell'=true)(ho:o<l.length) :
  Av P e (.store T' x y) H (fun _ H'=>Tw g H H'∧Bx H' g T (l.set o v)):=by
 intro ρ oo w hoo hev hw
 obtain⟨v',w',h2,h3,h4,h5,h6⟩:=Av.store (P:=P) hT hx hy h1 hb.rw ho ρ oo w hoo hev hw
 exact⟨v',w',h2,h3,h4,h5,by rw[h6];exact⟨Ss,fun k hk=>Su hk⟩,by rw[h6];exact hb.set o v⟩
theorem Av.storeBA{x y:Operand}{T':TypeId}{o m:Nat}{cs:List Value}(hb:Bx H g T l)(hT:Sz P T' m)(hx:ev e x=some (.pointer (some ⟨g,o,none⟩)))(hy:ev e y=some (.agg cs.toArray))(hl:cs.length=m)(h1:∀u∈cs,u.oneCell'=true)(ho:o+m≤l.length) :
  Av P e (.store T' x y) H (fun _ H'=>Tw g H H'∧Bx H' g T (Jc l o cs)):=by
 intro ρ oo w hoo hev hw
 obtain⟨v',w',h2,h3,h4,h5,h6⟩:=Av.storeAgg (P:=P) hT hx hy hl h1 hb.rw ho ρ oo w hoo hev hw
 exact⟨v',w',h2,h3,h4,h5,by rw[h6];exact⟨Wk _ _ _ _,fun k hk=>Wn hk _ _ _⟩,by rw[h6];exact Bx.setl cs hb o⟩
end
section
variable{n:Fs}{w0:World}{Q:Exit→Act→World→Prop}{ops:Array Oper}{op:Op}{d:Nat}{ty:TypeId}{pos:String}{af:Array Edge}{rest:List Oper}{p:Value→Prop}
end
section
variable{n:Fs}{w0:World}{Q:Exit→Act→World→Prop}{l:List Oper}{z:Bool}{S:Heap→Prop}{fuel d:Nat}{listed:Array Bool}{op:Op}{ty:TypeId}{pos:String}{af:Array Edge}{p:Value→Prop}
theorem Aa.ldVS{α:Type}{r:Rp α}{F:PH}{a:α}{b o:Nat}{T:TypeId}{x:Operand}(hat:At F r b o a)(hT:One P T)(hS:r.sz=1)(hx:ev e x=some (.pointer (some ⟨b,o,none⟩)))(hSF:∀H',S H'→InH F H') :
  ∃v,(∀H',S H'→Aa P e (.load T x) H' v)∧r.rv F v a:=by
 obtain⟨f,h1,h2⟩:=hat
 refine⟨f 0,fun H' h'=>Aa.load hT hx rfl ((hSF H' h').hc (h1 0 (by omega))),Rp.ext r (fun i hi=>?_) h2⟩
 rw[show i=0 by omega]
theorem Aa.ldAS{α:Type}{r:Rp α}{F:PH}{a:α}{b o:Nat}{T:TypeId}{x:Operand}(hat:At F r b o a)(hT:Ag9 P T)(hS:Sz P T r.sz)(hx:ev e x=some (.pointer (some ⟨b,o,none⟩)))(hSF:∀H',S H'→InH F H') :
  ∃v,(∀H',S H'→Aa P e (.load T x) H' v)∧r.ra F v a:=by
 obtain⟨f,h1,h2⟩:=hat
 refine⟨.agg ((List.range r.sz).map f).toArray,fun H' h'=>Aa.loadAgg hT hS hx (by simp) (fun j u hj=>?_),(List.range r.sz).map f,rfl,by simp,Rp.ext r (fun i hi=>by simp[hi]) h2⟩
 have hj':j<r.sz:=by have:=(List.getElem?_eq_some_iff.1 hj).1;simpa using this
 have hu:f j=u:=by simpa[hj'] using hj
 rw[←hu];exact(hSF H' h').hc (h1 j hj')
end
theorem wrap_wrap(k:IntKind)(n:Int):k.wrap (k.wrap n)=k.wrap n:=by
 cases k<;>simp only[IntKind.wrap,IntKind.bits,IntKind.signed]<;>simp<;>omega
theorem At.wr{k:IntKind}{F:PH}{b o:Nat}{n:Int}(h:At F (rI k) b o n):k.wrap n=n:=by obtain⟨f,_,h2⟩:=h;exact h2.2
theorem Rp.rv.one1{α:Type}{r:Rp α}{F:PH}{v:Value}{a:α}(h:r.rv F v a)(hs:0<r.sz:=by exact Nat.le_of_ble_eq_true rfl):v.oneCell'=true:=r.one h 0 hs
section
variable{α:Type}{r:Rp α}{F:PH}{v:Value}{l:List α}
theorem rL.hi{N:Nat}(h:(rLn N r).rv F v l)(hi:Nat)(h2:hi≤l.length)(h3:hi<1073741824):(rL r).rv F (JE.resl r.sz v 0 hi) (l.take hi):=by
 have:=rL.resl (M:=1073741824) h (Nat.zero_le hi) h2 (by omega)
 simpa using this
theorem rL.lo{N:Nat}(h:(rLn N r).rv F v l)(lo:Nat)(h2:lo≤l.length)(h3:l.length-lo<1073741824):(rL r).rv F (JE.resl r.sz v lo l.length) (l.drop lo):=by
 have:=rL.resl (M:=1073741824) h h2 (Nat.le_refl _) h3
 simpa using this
variable{T E:TypeId}{B:Nat}{x y ix':Operand}{k:IntKind}{I:Int}{i:Nat}
theorem Aa.lenG(hT:P.underlying T=some (.slice E))(hs:Gl r E F H B v l)(hx:ev e x=some v):Aa P e (.call { callee := .builtin .len,args:=#[x],argTypes:=#[T] }) H (.int .i64 (l.length:Nat)):=by
 obtain⟨xs,h1,_⟩:=hs
 obtain⟨a,c,rfl⟩:=h1.len
 exact Aa.lenS hT hx
theorem Aa.idxG(hT:P.underlying T=some (.slice E))(hE:Sz P E r.sz)(hs:Gl r E F H B v l)(hx:ev e x=some v)(hi:ev e ix'=some (.int k I))(hI:I=i)(h1:i<l.length)(hsz:0<r.sz:=by exact Nat.le_of_ble_eq_true rfl) :
  Aa P e (.indexAddr T x ix') H (.pointer (some ⟨Cb v,Ca v+i*r.sz,none⟩)):=by
 obtain⟨f,hf⟩:=hs.sl
 subst hI
 have:=Aa.index hT hE hf hx hi (by omega) (by omega) hsz
 simpa[Ps] using this
theorem Aa.min3{m n:Int}{ts:Array TypeId}(hx:ev e x=some (.int k m))(hy:ev e y=some (.int k n)):Aa P e (.call { callee := .builtin .min,args:=#[x,y],argTypes:=ts }) H (.int k (Min.min m n)):=by
 have:=Aa.min (P:=P) (H:=H) (ts:=ts) hx hy
 have e1:(if n<m then n else m)=Min.min m n:=by omega
 rwa[e1] at this
theorem Aa.max3{m n:Int}{ts:Array TypeId}(hx:ev e x=some (.int k m))(hy:ev e y=some (.int k n)):Aa P e (.call { callee := .builtin .max,args:=#[x,y],argTypes:=ts }) H (.int k (Max.max m n)):=by
 have:=Aa.max (P:=P) (H:=H) (ts:=ts) hx hy
 have e1:(if n>m then n else m)=Max.max m n:=by omega
 rwa[e1] at this
end
section
variable{α:Type} [Inhabited α]{r:Rp α}{F:PH}{v:Value}{l:List α}{T E:TypeId}{B:Nat}{x y:Operand}{k:IntKind}{i:Nat}
theorem Gl.cell0(h:Gl r E F H B v l)(hi:i<l.length)(hs:r.sz=1):∃u,hc H (Cb v) (Ca v+i*1)=some u∧r.rv F u (ix l i):=by
 obtain⟨f,h1,h2⟩:=h.cell hi (j:=0) (by omega)
 rw[hs] at h2
 refine⟨f 0,h2,?_⟩
 rw[Bp hi]
 exact r.ext (fun j hj=>by rw[show j=0 by omega]) h1
theorem Aa.ldGV(h:Gl r E F H B v l)(hi:i<l.length)(hT:One P T)(hs:r.sz=1)(hx:ev e x=some (.pointer (some ⟨Cb v,Ca v+i*1,none⟩))):∃u,Aa P e (.load T x) H u∧r.rv F u (ix l i):=by
 obtain⟨u,h1,h2⟩:=h.cell0 hi hs
 exact⟨u,Aa.load hT hx rfl h1,h2⟩
theorem Aa.ldGA(h:Gl r E F H B v l)(hi:i<l.length)(hT:Ag9 P T)(hS:Sz P T r.sz)(hx:ev e x=some (.pointer (some ⟨Cb v,Ca v+i*r.sz,none⟩))) :
  ∃u,Aa P e (.load T x) H u∧r.ra F u (ix l i):=by
 have hex:∃f,r.ok F l[i] f∧∀j,j<r.sz→hc H (Cb v) (Ca v+(i*r.sz+j))=some (f j):=by
  obtain⟨xs,h1,h2,h3⟩:=h
  refine⟨_,h3 i hi,fun j hj=>?_⟩
  have hb:i*r.sz+j<l.length*r.sz:=by
   have:(i+1)*r.sz≤l.length*r.sz:=Nat.mul_le_mul_right _ hi
   rw[Nat.add_mul] at this;omega
  have h4:=(h1.sl (f:=fun i=>xs.getD i undef) (fun i hi=>by simp[List.getD,show i<xs.length by rw[h1.1];exact hi])).at hb
  simpa[Ps] using h4
 obtain⟨f,h1,h2⟩:=hex
 refine⟨.agg ((List.range r.sz).map f).toArray,Aa.loadAgg hT hS hx (by simp) (fun j u hj=>?_),(List.range r.sz).map f,rfl,by simp,by rw[Bp hi];exact Rp.ext r (fun i hi=>by simp[hi]) h1⟩
 have hj':j<r.sz:=by have:=(List.getElem?_eq_some_iff.1 hj).1;simpa using this
 have hu:f j=u:=by simpa[hj'] using hj
 rw[←hu,Nat.add_assoc];exact h2 j hj'
end
section
variable{F:PH}{v:Value}{T E:TypeId}{B:Nat}{x:Operand}{k:IntKind}{i:Nat}
theorem Aa.ldGI{l:List Int}(h:Gl (rI k) E F H B v l)(hi:i<l.length)(hT:One P T)(hx:ev e x=some (.pointer (some ⟨Cb v,Ca v+i*1,none⟩))):Aa P e (.load T x) H (.int k (ix l i)):=by
 obtain⟨u,h1,h2⟩:=h.cell0 hi rfl
 rw[show u=_ from h2.1] at h1
 exact Aa.load hT hx rfl h1
theorem Gl.wr{l:List Int}(h:Gl (rI k) E F H B v l)(hi:i<l.length):k.wrap (ix l i)=ix l i:=by
 obtain⟨u,h1,h2⟩:=h.cell0 hi rfl
 exact h2.2
theorem Aa.ldGB{l:List Bool}(h:Gl rB E F H B v l)(hi:i<l.length)(hT:One P T)(hx:ev e x=some (.pointer (some ⟨Cb v,Ca v+i*1,none⟩))):Aa P e (.load T x) H (.bool (ix l i)):=by
 obtain⟨u,h1,h2⟩:=h.cell0 hi rfl
 rw[show u=_ from h2] at h1
 exact Aa.load hT hx rfl h1
end
section
variable{α:Type}{r:Rp α}{F:PH}{v:Value}{l:List α}{T E:TypeId}{B:Nat}{x y:Operand}{k:IntKind}{i n bytes:Nat}{z u:Value}{a:α}
theorem Gl.ofRow{g m:Nat}{cs:List Value}(hg:H[g]? = some (.cells cs.toArray E (0,0)))(hF:F g=none)(hB:B≤g)(hl:cs.length=l.length*r.sz)(hm:l.length=m)(hmax:m≤maxLen)(hok:∀i (hi:i<l.length),r.ok F l[i] (fun j=>cs.getD (i*r.sz+j) undef)) :
  Gl r E F H B (.slice (some ⟨g,0,none⟩) m m) l:=by
 subst hm
 exact⟨cs,⟨hl,.inr ⟨g,_,cs.toArray,rfl,hB,hg,Nat.le_refl _,hmax,by simp[hl],by simp[←hl]⟩⟩,fun k hk=>by simp[Value.ownBlock] at hk;subst hk;exact hF,hok⟩
def KU(r:Rp α)(F:PH):List α→List Value→Prop
 | [],[]=>True
 | a::l,v::vs=>r.rv F v a∧KU r F l vs
 | _,_=>False
theorem BR{u:Value}(h:u.oneCell'=true):u.cells=[u].toArray:=by cases u<;>first|rfl|cases h
theorem AM:∀(c:List Value) (j off:Nat) (A:List Value),off+j+c.length≤A.length→(c.zipIdx j).foldl (fun cs p=>cs.setIfInBounds (off+p.2) p.1) A.toArray=(A.take (off+j)++c++A.drop (off+j+c.length)).toArray
 | [],j,off,A,h=>by simp
 | v::c,j,off,A,h=>by
  simp only[List.length_cons] at h
  rw[List.zipIdx_cons,List.foldl_cons]
  have e1:A.toArray.setIfInBounds (off+j) v=(A.set (off+j) v).toArray:=by simp
  rw[e1,AM c (j+1) off _ (by simp;omega)]
  congr 1
  rw[←Nat.add_assoc off j 1,List.take_succ_eq_append_getElem (by simp;omega),List.take_set_of_le (Nat.le_refl _),List.getElem_set_self,List.drop_set_of_lt (by omega)]
  simp only[List.length_cons]
  rw[show off+j+(c.length+1)=off+j+1+c.length by omega]
  simp
def Hz(r:Rp α)(F:PH):List α→List Value→List (List Value)→Prop
 | [],[],[]=>True
 | a::l,u::us,c::cs=>u.cells=c.toArray∧c.length=r.sz∧r.ok F a (fun j=>c.getD j undef)∧Hz r F l us cs
 | _,_,_=>False
theorem Hz.len:∀{l:List α} {us:List Value} {cs:List (List Value)},Hz r F l us cs→us.length=l.length∧cs.flatten.length=l.length*r.sz
 | [],[],[],_=>by simp
 | _::_,_::_,_::_,h=>by
  have h1:=Hz.len h.2.2.2
  simp only[List.length_cons,List.flatten_cons,List.length_append,h.2.1,h1,Nat.add_mul]
  exact⟨trivial,by omega⟩
 | [],_::_,_,h=>h.elim
 | [],[],_::_,h=>h.elim
 | _::_,[],_,h=>h.elim
 | _::_,_::_,[],h=>h.elim
theorem Hz.get:∀{l:List α} {us:List Value} {cs:List (List Value)},Hz r F l us cs→∀i (hi:i<l.length),r.ok F l[i] (fun j=>cs.flatten.getD (i*r.sz+j) undef)
 | a::l,u::us,c::cs,h,0,_=>by
  refine r.ext (fun j hj=>?_) h.2.2.1
  simp only[Nat.zero_mul,Nat.zero_add,List.flatten_cons,List.getD]
  rw[List.getElem?_append_left (by rw[h.2.1];exact hj)]
 | a::l,u::us,c::cs,h,i+1,hi=>by
  have h1:=Hz.get h.2.2.2 i (by simpa using hi)
  simp only[List.getElem_cons_succ]
  refine r.ext (fun j hj=>?_) h1
  simp only[List.flatten_cons,List.getD]
  rw[List.getElem?_append_right (by rw[h.2.1,Nat.add_mul];omega),h.2.1,show(i+1)*r.sz+j-r.sz=i*r.sz+j by rw[Nat.add_mul];omega]
 | [],[],[],_,_,hi=>by simp at hi
theorem AV:∀{l:List α} {us:List Value} {cs:List (List Value)},Hz r F l us cs→∀(k:Nat) (A:List Value),A.length=(k+l.length)*r.sz →
  Instr.fill (fun i=>some (i*r.sz,r.sz)) A.toArray ((us.zipIdx k).map fun p=>(p.2,p.1))=some (A.take (k*r.sz)++cs.flatten).toArray
 | [],[],[],_,k,A,hA=>by
  simp only[List.length_nil,Nat.add_zero] at hA
  simp only[List.zipIdx_nil,List.map_nil,Instr.fill,List.flatten_nil,List.append_nil]
  rw[List.take_of_length_le (by omega)]
 | a::l,u::us,c::cs,h,k,A,hA=>by
  obtain⟨h1,h2,h3,h4⟩:=h
  simp only[List.length_cons] at hA
  have hA2:A.length=k*r.sz+r.sz+l.length*r.sz:=by rw[hA,Nat.add_mul,Nat.add_mul];omega
  simp only[List.zipIdx_cons,List.map_cons,Instr.fill]
  rw[if_neg (by rw[h1];simp[h2];omega),h1]
  have h5:c.toArray.zipIdx=(c.zipIdx 0).toArray:=by simp
  rw[h5,←Array.foldl_toList]
  have h6:=AM c 0 (k*r.sz) A (by omega)
  simp only[Nat.add_zero] at h6
  rw[h6,AV h4 (k+1) _ (by simp only[List.length_append,List.length_take,List.length_drop,h2];rw[Nat.add_mul,Nat.add_mul];omega)]
  congr 2
  have h7:(k+1)*r.sz=k*r.sz+r.sz:=by rw[Nat.add_mul];omega
  have h8:(A.take (k*r.sz)).length=k*r.sz:=by simp;omega
  rw[h7,List.append_assoc,List.take_append,h8,List.take_take,List.take_append,h2]
  simp only[Nat.add_sub_cancel_left,List.flatten_cons]
  rw[Nat.min_eq_right (by omega),Nat.sub_self]
  simp[←h2]
 | [],_::_,_,h,_,_,_=>h.elim
 | [],[],_::_,h,_,_,_=>h.elim
 | _::_,[],_,h,_,_,_=>h.elim
 | _::_,_::_,[],h,_,_,_=>h.elim
theorem Av.litL{m:Nat}{ys:List (Nat×Operand)}{us:List Value}{cs:List (List Value)}(hT:P.underlying T=some (.slice E))(hE:(P.info? E).map (fun i=>(i.zero,i.size,i.bytes))=some (some z,r.sz,bytes))(hm:m≤1000∧0<r.sz∧r.sz≤1000)(_:z.cells.size=r.sz)(hr:evs e ys=some ((us.zipIdx 0).map fun p=>(p.2,p.1)))
  (hlm:l.length=m) (hok:Hz r F l us cs) :
  Av P e (.buildSlice T m ys.toArray) H (fun u H'=>∃g,u = .slice (some ⟨g,0,none⟩) m m∧g=H.size∧H'.size=H.size+1∧Kp H.size H H'∧(InH F H→Gl r E F H' H.size (.slice (some ⟨g,0,none⟩) m m) l)):=by
 subst hlm
 obtain⟨i,hi,hz0,hz1,hz2⟩:=info_parts hE
 have hb:∀w:World,(Instr.buildSlice T l.length ((us.zipIdx 0).map fun p=>(p.2,p.1)).toArray).run P w = .ok (.slice (some ⟨w.heap.size,0,none⟩) l.length l.length) (w.alloc (.cells cs.flatten.toArray E)):=by
  intro w
  have hsz:(sizeOf E).run P w = .ok r.sz w:=by simp[sizeOf,typeInfo,hi,hz1]
  have hzv:(zeroValue E).run P w = .ok z w:=by simp[zeroValue,typeInfo,hi,hz0]
  have hle:l.length*r.sz≤1000*1000:=Nat.mul_le_mul hm.1 hm.2.2
  simp only[Instr.buildSlice,Sem.run_bind,run_underlying hT,Result.andThen_ok,hsz]
  rw[if_neg (by omega)]
  have hfill:∀A:Array Value,A.size=l.length*r.sz→Instr.fill (fun i=>some (i*r.sz,r.sz)) A ((us.zipIdx 0).map fun p=>(p.2,p.1))=some cs.flatten.toArray:=by
   intro A hA
   have:=AV hok 0 A.toList (by simpa using hA)
   simpa using this
  by_cases h0:l.length*r.sz=0
  ·rw[if_pos h0]
   simp only[Sem.run_bind,Sem.run_pure,Result.andThen_ok]
   rw[hfill _ (by simp)]
   simp[newRow]
  ·rw[if_neg h0]
   simp only[Sem.run_bind,hzv,Result.andThen_ok,Sem.run_pure]
   rw[hfill _ (by simp)]
   simp[newRow]
 intro ρ o w ho hev hw
 obtain⟨v',w',h1,h2,h3,h4,rfl,h6⟩:=Av.buildSlice (P:=P) (E:=E) hr hb ρ o w ho hev hw
 refine⟨_,w',h1,h2,h3,h4,H.size,rfl,rfl,by rw[h6];simp,by rw[h6];exact(Kp.refl _ _).push (Nat.le_refl _) _,fun hin=>?_⟩
 exact Gl.ofRow (cs:=cs.flatten) (by rw[h6];exact Nr) (hin.nope (Nat.le_refl _)) (Nat.le_refl _) hok.len.2 rfl (by unfold maxLen;omega) hok.get
theorem Av.appL{w2:Value}{m:List α}(hT:P.underlying T=some (.slice E))(hE:(P.info? E).map (fun i=>(i.zero,i.size,i.bytes))=some (some z,r.sz,bytes))(hs:0<r.sz∧r.sz≤1000∧bytes≤8192)(hz:z.cells.size=r.sz)
  (hx:ev e x=some v) (hy:ev e y=some w2) (hown:Gl r E F H B v l) {N:Nat} (hm:(rLn N r).rv F w2 m) (hin:InH F H) (hb:l.length+m.length<4294967296) (hB:B≤H.size) :
  Av P e (.call { callee := .builtin .append,args:=#[x,y],argTypes:=#[T,T] }) H (fun v' H'=>Gl r E F H' B v' (l++m)∧Of H H' v.ownBlock∧(v'.ownBlock=v.ownBlock∨v'.ownBlock=some H.size)):=by
 obtain⟨xs,o1,o2,o3⟩:=hown
 have hbytes:(l.length+m.length)*bytes≤140737488355328:=by
  have:(l.length+m.length)*bytes≤4294967296*8192:=Nat.mul_le_mul (by omega) hs.2.2
  omega
 obtain⟨h0,a,cap,rfl,h2,h3,g,h4,h5⟩:=hm
 by_cases hm0:m=[]
 ·subst hm0
  intro ρ o w ho hev hw
  obtain⟨i,hi,hz0,hz1,hz2⟩:=info_parts hE
  obtain⟨va,vc,rfl⟩:=o1.len
  have hlc:l.length≤vc:=by
   rcases o1.2 with⟨e1,e2⟩|⟨_,_,_,e1,_,_,e2,_⟩
   ·injection e1;omega
   ·injection e1 with _ _ e3;omega
  have hsz:(sizeOf E).run P w = .ok r.sz w:=by simp[sizeOf,typeInfo,hi,hz1]
  have hrun:(Builtin.append_ #[T,T] o.type #[.slice va l.length vc,.slice a 0 cap]).run P w = .ok (.slice va l.length vc) w:=by
   cases a<;>cases va<;>simp[Builtin.append_,run_underlying hT,hsz,Builtin.lenOf,Builtin.firstCells,loadCells,loadCellsFrom,storeCells,hlc]
  refine⟨.slice va l.length vc,w,.inl ?_,rfl,rfl,rfl,by rw[hw,List.append_nil];exact⟨xs,o1,o2,o3⟩,by rw[hw];exact⟨Nat.le_refl _,fun _ _ _=>rfl⟩,.inl rfl⟩
  simp only[List.length_nil] at hy
  simp[execOp,ho,hev _ _ hx,hev _ _ hy,resolve,invoke,builtin,hrun]
 ·have hpos:0<m.length:=List.length_pos_iff.2 hm0
  obtain⟨b,oo,rfl⟩:=h3 0 (Nat.mul_pos hpos hs.1)
  have hn:∀j u,((List.range (m.length*r.sz)).map g)[j]? = some u→hc H b (oo+j)=some u:=by
   intro j u hj
   have hj':j<m.length*r.sz:=by have:=(List.getElem?_eq_some_iff.1 hj).1;simpa using this
   have hu:g j=u:=by simpa[hj'] using hj
   have h6:=hin.hc (h4 j hj')
   rw[←hu];exact h6
  have h1c:∀u∈(List.range (m.length*r.sz)).map g,u.oneCell'=true:=by
   intro u hu
   obtain⟨j,hj,rfl⟩:=List.mem_map.1 hu
   have hj':j<m.length*r.sz:=by simpa using hj
   have hq:j / r.sz<m.length:=Nat.div_lt_of_lt_mul (by rw[Nat.mul_comm];exact hj')
   have:=r.one (h5 _ hq) (j%r.sz) (Nat.mod_lt _ hs.1)
   rwa[Nat.div_add_mod'] at this
  intro ρ o w ho hev hw
  obtain⟨v',w',g1,g2,g3,g4,k1,k2,k3,k4⟩:=Av.append (P:=P) (n:=l.length) (m:=m.length) (c:=cap) (xs:=xs) (news:=(List.range (m.length*r.sz)).map g) hT hE hz hs.1 hx o1 hy (by simp) hn h1c hbytes (by omega) hB ρ o w ho hev hw
  refine⟨v',w',g1,g2,g3,g4,⟨xs++(List.range (m.length*r.sz)).map g,by rw[List.length_append];exact k1,fun k hk=>?_,fun i hi=>?_⟩,k2,k4⟩
  ·rcases k4 with k4|k4
   ·exact o2 k (by rw[←k4];exact hk)
   ·rw[k4] at hk;injection hk with hk;subst hk;exact hin.nope (Nat.le_refl _)
  ·by_cases hl:i<l.length
   ·rw[List.getElem_append_left hl]
    refine r.ext (fun j hj=>?_) (o3 i hl)
    have hb:i*r.sz+j<xs.length:=by
     have:(i+1)*r.sz≤l.length*r.sz:=Nat.mul_le_mul_right _ hl
     rw[Nat.add_mul] at this;rw[o1.1];omega
    simp[List.getD,List.getElem?_append_left hb]
   ·rw[List.getElem_append_right (by omega)]
    have hi2:i-l.length<m.length:=by simp at hi;omega
    refine r.ext (fun j hj=>?_) (h5 _ hi2)
    have hb:(i-l.length)*r.sz+j<m.length*r.sz:=by
     have:(i-l.length+1)*r.sz≤m.length*r.sz:=Nat.mul_le_mul_right _ hi2
     rw[Nat.add_mul] at this;omega
    have he:i*r.sz+j=xs.length+((i-l.length)*r.sz+j):=by
     rw[o1.1,←Nat.add_assoc,←Nat.add_mul];congr 2;omega
    rw[he]
    simp[List.getD,hb]
theorem Av.makeL{a:α}(hT:P.underlying T=some (.slice E))(hE:(P.info? E).map (fun i=>(i.zero,i.size,i.bytes))=some (some z,1,bytes))(hz:z.cells=#[z]){I J:Int}
  (hx:ev e x=some (.int .i64 I)) (hy:ev e y=some (.int .i64 J)) (hI:I=n) (hJ:J=n) (h1:bytes*n≤281474976710656) (h2:n≤140737488355328) (hok:r.rv F z a) (hs:r.sz=1:=by rfl) :
  Av P e (.makeSlice T x y) H (fun u H'=>∃g,u = .slice (some ⟨g,0,none⟩) n n∧g=H.size∧H'.size=H.size+1∧Kp H.size H H'∧(InH F H→Gl r E F H' H.size (.slice (some ⟨g,0,none⟩) n n) (List.replicate n a))):=by
 subst hI;subst hJ
 intro ρ o w ho hev hw
 obtain⟨v',w',g1,g2,g3,g4,rfl,g6,g7,c,g8,g9,g10⟩:=Av.make (P:=P) hT hE hz hx hy h1 (by omega) ρ o w ho hev hw
 refine⟨_,w',g1,g2,g3,g4,H.size,rfl,rfl,g6,⟨by omega,g7⟩,fun hin=>?_⟩
 have hc9:c=(List.replicate n z).toArray:=by
  apply Array.ext
  ·simp[g9]
  ·intro i h3 h4
   have h5:=g10 i (by omega)
   rw[Array.getElem?_eq_getElem h3] at h5
   simpa using h5
 subst hc9
 refine Gl.ofRow (cs:=List.replicate n z) g8 (hin.nope (Nat.le_refl _)) (Nat.le_refl _) (by rw[hs];simp) (by simp) (by unfold maxLen;omega) (fun i hi=>?_)
 rw[hs,Nat.mul_one]
 simp only[List.length_replicate] at hi
 simp only[List.getElem_replicate]
 exact r.ext (fun j hj=>by rw[show j=0 by omega];simp[List.getD,hi]) hok
theorem Av.storeG(h:Gl r E F H B v l)(hs:r.sz=1)(hT:Sz P T 1)(hx:ev e x=some (.pointer (some ⟨Cb v,Ca v+i*1,none⟩)))(hy:ev e y=some u)(h1:u.oneCell'=true)(hi:i<l.length)(hok:r.rv F u a) :
  Av P e (.store T x y) H (fun _ H'=>∃g,v.ownBlock=some g∧Tw g H H'∧Gl r E F H' B v (l.set i a)):=by
 obtain⟨g,c,rfl,hBg,hlt,hF⟩:=h.own (by omega)
 obtain⟨xs,g1,g2,g3⟩:=h
 rcases g1.2 with⟨h9,_⟩|⟨g',cap,cur,h9,hb,hg,hc1,hc2,hc3,hc4⟩
 ·cases h9
 ·injection h9 with e1 e2 e3
  injection e1 with e1
  injection e1 with e1 _ _
  subst e1
  intro ρ o w ho hev hw
  have hrow:Rw H g E cur.size (fun j=>cur.getD j undef):=⟨cur,hg,rfl,fun j hj=>by simp[Array.getD,hj]⟩
  have hi':i<cur.size:=by
   rw[hc3,hs,Nat.mul_one];omega
  have hx':ev e x=some (.pointer (some ⟨g,i,none⟩)):=by rw[hx];simp[Cb,Ca]
  obtain⟨v',w',k1,k2,k3,k4,k5⟩:=Av.store (P:=P) hT hx' hy h1 hrow hi' ρ o w ho hev hw
  refine⟨v',w',k1,k2,k3,k4,g,rfl,by rw[k5];exact⟨Ss,fun k hk=>Su hk⟩,xs.set i u,?_,g2,fun j hj=>?_⟩
  ·rw[k5,List.length_set]
   exact Gr.set g1 (i:=i) (u:=u) rfl
  ·rw[List.length_set] at hj
   rw[hs,Nat.mul_one]
   have h3:=g3 j hj
   rw[hs,Nat.mul_one] at h3
   have hxl:xs.length=l.length:=by rw[g1.1,hs,Nat.mul_one]
   by_cases e4:j=i
   ·subst e4
    rw[List.getElem_set_self]
    exact r.ext (fun q hq=>by rw[show q=0 by omega];simp[List.getD,List.getElem?_set_self (show j<xs.length by rw[hxl];exact hi)]) hok
   ·rw[List.getElem_set_ne (Ne.symm e4)]
    exact r.ext (fun q hq=>by rw[show q=0 by omega];simp[List.getD,Ne.symm e4]) h3
section
variable{n':Fs}{w0:World}{Q:Exit→Act→World→Prop}{ops:Array Oper}{d1 d2:Nat}{ty ty2:TypeId}{pos pos2:String}{af af2:Array Edge}{rest:List Oper}
theorem Gl.snoc{H':Heap}{v':Value}{cs:List Value}{xs:List Value}(hg:Gr H' B E r.sz v' (l.length+1) (xs++cs))(hxl:xs.length=l.length*r.sz)(hF:∀k,v'.ownBlock=some k→F k=none)(h3:∀i (hi:i<l.length),r.ok F l[i] (fun j=>xs.getD (i*r.sz+j) undef))
  (_:cs.length=r.sz) (hok:r.ok F a (fun j=>cs.getD j undef)):Gl r E F H' B v' (l++[a]):=by
 refine⟨xs++cs,by rw[List.length_append];exact hg,hF,fun i hi=>?_⟩
 by_cases h1:i<l.length
 ·rw[List.getElem_append_left h1]
  refine r.ext (fun j hj=>?_) (h3 i h1)
  have hb:i*r.sz+j<xs.length:=by
   have:(i+1)*r.sz≤l.length*r.sz:=Nat.mul_le_mul_right _ h1
   rw[Nat.add_mul] at this;omega
  simp[List.getD,List.getElem?_append_left hb]
 ·have h2:i=l.length:=by simp at hi;omega
  subst h2
  rw[List.getElem_append_right (Nat.le_refl _)]
  simp only[Nat.sub_self,List.getElem_cons_zero]
  refine r.ext (fun j hj=>?_) hok
  rw[←hxl]
  simp[List.getD,List.getElem?_append_right (Nat.le_add_right _ _)]
theorem LF.appA{lc:List Value}(hT:P.underlying T=some (.slice E))(hE:(P.info? E).map (fun i=>(i.zero,i.size,i.bytes))=some (some z,r.sz,bytes))(hs:0<r.sz∧r.sz≤1000∧bytes≤8192)(hz:z.cells.size=r.sz)
  (hy:ev e y=some (.agg lc.toArray)) (hra:r.ra F (.agg lc.toArray) a) (hown:Gl r E F H B v l) (hin:InH F H) (hb:l.length<4294967295) (hx:ev ((d1,.slice (some ⟨H.size,0,none⟩) 1 1)::e) x=some v)
  (K:∀v' H',Gl r E F H' B v' (l++[a])→Of H H' v.ownBlock→v' ≠ .slice none 0 0→(v'.ownBlock=v.ownBlock∨∃g,v'.ownBlock=some g∧H.size≤g)→LF P n' w0 ops Q ((d2,v')::(d1,.slice (some ⟨H.size,0,none⟩) 1 1)::e) rest H')
  (hB:B≤H.size) (hd1:Nat.blt d1 n'.sz=true:=by rfl) (hd2:Nat.blt d2 n'.sz=true:=by rfl) :
  LF P n' w0 ops Q e (⟨some d1,.buildSlice T 1 #[(0,y)],ty,pos,af,none⟩::⟨some d2,.call { callee := .builtin .append,args:=#[x,.tmp d1],argTypes:=#[T,T] },ty2,pos2,af2,none⟩::rest) H:=by
 obtain⟨xs,h1,h2,h3⟩:=hown
 obtain⟨lc',e1,e2,e3⟩:=hra
 injection e1 with e1
 have e1':lc=lc':=by simpa using e1
 subst e1'
 refine LF.app (n:=l.length) (xs:=xs) (l:=lc) hT hE hz hs.1 hs.2.1 hy rfl e2 (fun u hu=>?_) hx h1 ?_ (by omega) hB (fun v' H' g1 g2 g3 g4=>K v' H' ?_ g2 g3 g4) hd1 hd2
 ·obtain⟨j,hj,rfl⟩:=List.mem_iff_getElem.1 hu
  have:=r.one e3 j (by omega)
  simpa[List.getD,hj] using this
 ·have:(l.length+1)*bytes≤4294967296*8192:=Nat.mul_le_mul (by omega) hs.2.2
  omega
 ·refine Gl.snoc g1 h1.1 (fun k hk=>?_) h3 e2 e3
  rcases g4 with g4|⟨g,g4,g5⟩
  ·exact h2 k (by rw[←g4];exact hk)
  ·rw[g4] at hk;injection hk with hk;subst hk;exact hin.nope g5
theorem LF.appV(hT:P.underlying T=some (.slice E))(hE:(P.info? E).map (fun i=>(i.zero,i.size,i.bytes))=some (some z,r.sz,bytes))(hs:0<r.sz∧r.sz≤1000∧bytes≤8192)(hz:z.cells.size=r.sz)(hs1:r.sz=1)
  (hy:ev e y=some u) (hra:r.rv F u a) (hown:Gl r E F H B v l) (hin:InH F H) (hb:l.length<4294967295) (hx:ev ((d1,.slice (some ⟨H.size,0,none⟩) 1 1)::e) x=some v)
  (K:∀v' H',Gl r E F H' B v' (l++[a])→Of H H' v.ownBlock→v' ≠ .slice none 0 0→(v'.ownBlock=v.ownBlock∨∃g,v'.ownBlock=some g∧H.size≤g)→LF P n' w0 ops Q ((d2,v')::(d1,.slice (some ⟨H.size,0,none⟩) 1 1)::e) rest H')
  (hB:B≤H.size) (hd1:Nat.blt d1 n'.sz=true:=by rfl) (hd2:Nat.blt d2 n'.sz=true:=by rfl) :
  LF P n' w0 ops Q e (⟨some d1,.buildSlice T 1 #[(0,y)],ty,pos,af,none⟩::⟨some d2,.call { callee := .builtin .append,args:=#[x,.tmp d1],argTypes:=#[T,T] },ty2,pos2,af2,none⟩::rest) H:=by
 obtain⟨xs,h1,h2,h3⟩:=hown
 have ho:=hra.one1 (by omega)
 refine LF.app (n:=l.length) (xs:=xs) (l:=[u]) hT hE hz hs.1 hs.2.1 hy ?_ (by simp[hs1]) (fun w hw=>?_) hx h1 ?_ (by omega) hB (fun v' H' g1 g2 g3 g4=>K v' H' ?_ g2 g3 g4) hd1 hd2
 ·cases u<;>first|rfl|cases ho
 ·simp only[List.mem_singleton] at hw;subst hw;exact ho
 ·have:(l.length+1)*bytes≤4294967296*8192:=Nat.mul_le_mul (by omega) hs.2.2
  omega
 ·refine Gl.snoc g1 h1.1 (fun k hk=>?_) h3 (by simp[hs1]) (r.ext (fun j hj=>by rw[show j=0 by omega];rfl) hra)
  rcases g4 with g4|⟨g,g4,g5⟩
  ·exact h2 k (by rw[←g4];exact hk)
  ·rw[g4] at hk;injection hk with hk;subst hk;exact hin.nope g5
end
end
def Oa:List Value→Prop
 | []=>True
 | v::r=>v.oneCell'=true∧Oa r
theorem Oa.mem:∀{l:List Value},Oa l→∀u∈l,u.oneCell'=true
 | [],_,u,hu=>by cases hu
 | v::r,h,u,hu=>by
  rcases List.mem_cons.1 hu with rfl|hu
  ·exact h.1
  ·exact Oa.mem h.2 u hu
theorem Hq{α:Type}{r:Rp α}{F:PH}{l:List Value}{a:α}(h:r.ra F (.agg l.toArray) a):r.ok F a (fun j=>l.getD j undef):=by
 obtain⟨m,h1,_,h3⟩:=h
 injection h1 with h1
 have e1:l=m:=by simpa using h1
 subst e1;exact h3
def Kw(W:Nat→Prop)(H H':Heap):Prop:=H.size≤H'.size∧∀k,k<H.size→¬W k→H'[k]? = H[k]?
theorem Kw.refl(W:Nat→Prop)(H:Heap):Kw W H H:=⟨Nat.le_refl _,fun _ _ _=>rfl⟩
theorem Kw.kw{W W':Nat→Prop}{H H1 H2:Heap}(h:Kw W H H1)(h':Kw W' H1 H2)(hw:∀k,k<H.size→W' k→W k):Kw W H H2 :=
 ⟨Nat.le_trans h.1 h'.1,fun k hk hn=>(h'.2 k (by have:=h.1;omega) (fun h9=>hn (hw k hk h9))).trans (h.2 k hk hn)⟩
def Xm(v:Value)(k:Nat):Prop:=v.ownBlock=some k
theorem InH.kw{W:Nat→Prop}{F:PH}{H H':Heap}(h:InH F H)(hk:Kw W H H')(hw:∀k,W k→F k=none):InH F H':=h.of fun k o h1=>hk.2 k (h.lt h1) (fun h9=>by rw[hw k h9] at h1;cases h1)
theorem S4{v v':Value}{n:Nat}(h:v'.ownBlock=v.ownBlock∨v'.ownBlock=some n):v'.ownBlock=v.ownBlock∨∃g,v'.ownBlock=some g∧n≤g:=by
 rcases h with h|h
 ·exact .inl h
 ·exact .inr ⟨n,h,Nat.le_refl _⟩
theorem Gl.lt{α:Type}{r:Rp α}{E:TypeId}{F:PH}{H:Heap}{B:Nat}{v:Value}{l:List α}(h:Gl r E F H B v l):∀k,v.ownBlock=some k→k<H.size:=fun k hk=>(h.blk k hk).2
end Go.JE
namespace Go.JE
variable{P:Program}{e:Env}{H:Heap}
def Mj(k:IntKind)(x n:Int):Int:=k.wrap (x*2^(min n.toNat k.bits))
def Hm(k:IntKind)(x n:Int):Int:=x.fdiv (2^(min n.toNat k.bits))
def Mg(k:IntKind)(x y:Int):Int:=k.wrap ((BitVec.ofInt k.bits x &&& BitVec.ofInt k.bits y).toNat:Nat)
def orI(k:IntKind)(x y:Int):Int:=k.wrap ((BitVec.ofInt k.bits x ||| BitVec.ofInt k.bits y).toNat:Nat)
def Sf(k:IntKind)(x y:Int):Int:=k.wrap ((BitVec.ofInt k.bits x ^^^ BitVec.ofInt k.bits y).toNat:Nat)
section
variable{T T':TypeId}{x y:Operand}{k k':IntKind}{m n r:Int}
theorem Aa.andw(hx:ev e x=some (.int k m))(hy:ev e y=some (.int k n)):Aa P e (.binOp .and T x y T') H (.int k (Mg k m n)) :=
 Ir hx hy (by simp only[binOp,ne_eq,not_true_eq_false,if_false,Op.intBits];rfl) (fun _=>rfl)
theorem Aa.orw(hx:ev e x=some (.int k m))(hy:ev e y=some (.int k n)):Aa P e (.binOp .or T x y T') H (.int k (orI k m n)) :=
 Ir hx hy (by simp only[binOp,ne_eq,not_true_eq_false,if_false,Op.intBits];rfl) (fun _=>rfl)
theorem Aa.xorw(hx:ev e x=some (.int k m))(hy:ev e y=some (.int k n)):Aa P e (.binOp .xor T x y T') H (.int k (Sf k m n)) :=
 Ir hx hy (by simp only[binOp,ne_eq,not_true_eq_false,if_false,Op.intBits];rfl) (fun _=>rfl)
theorem Aa.shlw(hx:ev e x=some (.int k m))(hy:ev e y=some (.int k' n))(h0:0≤n):Aa P e (.binOp .shl T x y T') H (.int k (Mj k m n)):=by
 intro ρ o w ho hev _
 have hn:¬n<0:=by omega
 have hq:(eqGuard .shl T x y (.int k m) (.int k' n))=pure ():=by unfold eqGuard;split<;>rfl
 have hs:(binOp .shl T (.int k m) (.int k' n)).run P w = .ok (.int k (Mj k m n)) w:=by simp only[binOp,Op.shift,if_neg hn];rfl
 simp only[execOp,ho,hev _ _ hx,hev _ _ hy,hq]
 rw[Lg (a := .int k (Mj k m n)) (w':=w)]
 ·rfl
 ·rw[Lg (a:=()) (w':=w) rfl];exact hs
theorem Aa.shrw(hx:ev e x=some (.int k m))(hy:ev e y=some (.int k' n))(h0:0≤n):Aa P e (.binOp .shr T x y T') H (.int k (Hm k m n)):=by
 intro ρ o w ho hev _
 have hn:¬n<0:=by omega
 have hq:(eqGuard .shr T x y (.int k m) (.int k' n))=pure ():=by unfold eqGuard;split<;>rfl
 have hs:(binOp .shr T (.int k m) (.int k' n)).run P w = .ok (.int k (Hm k m n)) w:=by simp only[binOp,Op.shift,if_neg hn];rfl
 simp only[execOp,ho,hev _ _ hx,hev _ _ hy,hq]
 rw[Lg (a := .int k (Hm k m n)) (w':=w)]
 ·rfl
 ·rw[Lg (a:=()) (w':=w) rfl];exact hs
theorem Aa.convI{S D:TypeId}{d}(hs:P.underlying S=some d)(hd:P.underlying D=some (.int k'))(hx:ev e x=some (.int k m))(hk:k'.wrap m=r):Aa P e (.convert S D x) H (.int k' r):=by
 intro ρ o w ho hev _
 have h1:(convert S D (.int k m)).run P w = .ok (.int k' r) w:=by
  simp only[convert,Sem.run_bind,run_underlying hs,run_underlying hd,Result.andThen_ok,←hk]
  cases d<;>rfl
 simp only[execOp,ho,hev _ _ hx]
 rw[Lg h1];rfl
theorem QV{ps rs:Array TypeId}{vr:Bool}{fn:Fn}{a1 a2:Array Value}(hT:P.underlying T=some (.func ps rs vr))(d:Nat)(w:World):(Op.equalIn (d+1) T (.func fn a1 a2) .nilFunc).run P w = .ok false w:=by
 simp only[Op.equalIn,Sem.run_bind,run_underlying hT,Result.andThen_ok];rfl
theorem QU{ps rs:Array TypeId}{vr:Bool}(hT:P.underlying T=some (.func ps rs vr))(d:Nat)(w:World):(Op.equalIn (d+1) T .nilFunc .nilFunc).run P w = .ok true w:=by
 simp only[Op.equalIn,Sem.run_bind,run_underlying hT,Result.andThen_ok];rfl
theorem Aa.eqlF{ps rs:Array TypeId}{vr:Bool}{fn:Fn}{a1 a2:Array Value}(hT:P.underlying T=some (.func ps rs vr))(hx:ev e x=some (.func fn a1 a2))(hy:ev e y=some .nilFunc):Aa P e (.binOp .eql T x y T') H (.bool false):=by
 intro ρ o w ho hev _
 have h1:(Op.equal T (.func fn a1 a2) .nilFunc).run P w = .ok false w:=QV hT 9999 w
 simp only[execOp,ho,hev _ _ hx,hev _ _ hy,eqGuard,binOp]
 simp[h1]
theorem Aa.eqlN{ps rs:Array TypeId}{vr:Bool}(hT:P.underlying T=some (.func ps rs vr))(hx:ev e x=some .nilFunc)(hy:ev e y=some .nilFunc):Aa P e (.binOp .eql T x y T') H (.bool true):=by
 intro ρ o w ho hev _
 have h1:(Op.equal T .nilFunc .nilFunc).run P w = .ok true w:=QU hT 9999 w
 simp only[execOp,ho,hev _ _ hx,hev _ _ hy,eqGuard,binOp]
 simp[h1]
theorem Av.insert{K E:TypeId}{ix:Operand}{b:Nat}{L:List (Int×Value)}{k:Int}{v:Value}(hT:P.underlying T=some (.map K E))(hK:P.underlying K=some (.int .i64))(hm:Im H b L)
  (hx:ev e x=some (.map (some b))) (hi:ev e ix=some (.int .i64 k)) (hy:ev e y=some v):Av P e (.insert T x ix y) H (fun _ H'=>Im H' b (upM L k v)∧Tw b H H'):=by
 intro ρ o w ho hev hw
 have h1:=Av.mapUpdate (P:=P) hT hK hm hx hi hy ρ { o with op := .mapUpdate T x ix y } w rfl hev hw
 have h2:(execOp ρ { o with op := .mapUpdate T x ix y }).run P w=(execOp ρ o).run P w:=by simp only[execOp,ho]
 rw[h2] at h1
 exact h1
theorem Av.makeMapB:Av P e (.makeMap T none) H (fun u H'=>∃g,u = .map (some g)∧g=H.size∧H'.size=H.size+1∧Kp H.size H H'∧Im H' g []):=by
 intro ρ o w ho hev hw
 obtain⟨v',w',h1,h2,h3,h4,rfl,h6⟩:=Av.makeMap0 (P:=P) (T:=T) (e:=e) ρ o w ho hev hw
 exact⟨_,w',h1,h2,h3,h4,H.size,rfl,rfl,by rw[h6];simp,by rw[h6];exact(Kp.refl _ _).push (Nat.le_refl _) _,by rw[h6];exact Im.new⟩
end
theorem Aa.eqlNilS{T T' E:TypeId}{x y:Operand}{α:Type}{r:Rp α}{F:PH}{v:Value}{l:List α}{N:Nat}(hT:P.underlying T=some (.slice E))(hs:(rLn N r).rv F v l)(hr:0<r.sz)(hx:ev e x=some v)(hy:ev e y=some (.slice none 0 0)) :
  ∃u,Aa P e (.binOp .eql T x y T') H u∧∃b:Bool,u = .bool b∧(b=true→l=[]):=by
 obtain⟨_,a,cap,rfl,_,h3,_⟩:=hs
 refine⟨.bool a.isNone,?_,_,rfl,fun h=>?_⟩
 ·intro ρ o w ho hev _
  have h1:∀d,(Op.equalIn (d+1) T (.slice a l.length cap) (.slice none 0 0)).run P w = .ok a.isNone w:=by
   intro d
   cases a<;>(simp only[Op.equalIn,Sem.run_bind,run_underlying hT,Result.andThen_ok];rfl)
  have h2:(Op.equal T (.slice a l.length cap) (.slice none 0 0)).run P w = .ok a.isNone w:=h1 9999
  simp only[execOp,ho,hev _ _ hx,hev _ _ hy,eqGuard,binOp]
  simp[h2]
 ·by_cases h5:l=[]
  ·exact h5
  ·obtain⟨b,o,rfl⟩:=h3 0 (Nat.mul_pos (List.length_pos_iff.2 h5) hr)
   cases h
theorem PF.retC{n:Nat}{w0:World}{fn:Func}{R:Value→Heap→Prop}{p g:Nat}{ty T:TypeId}{l:List Value}(hr:fn.results=#[.cell p ty])(hv:lk e p=some (.pointer (some ⟨g,0,none⟩)))(hb:Bx H g T l)
  (hd:Ag9 P ty) (hS:Sz P ty l.length) (hR:R (.agg l.toArray) H):PF ⟨n,[]⟩ w0 (BQ P fn w0 R) e .ret H:=by
 intro a w hf hw
 obtain⟨d,hd1,hd2⟩:=hd
 refine bodyPost_ret (results_cell_row hr _ w g T l.toArray (0,0) d (hf.get p _ hv) (by rw[hw.heap];exact hb) hd1 (by cases d<;>first|rfl|cases hd2) (by unfold Sz at hS;simpa using hS)) hf.defers ⟨_,rfl,hw.os,hw.tape,hw.output,hw.heap▸hR⟩
section
variable{n':Fs}{w0:World}{Q:Exit→Act→World→Prop}{ops:Array Oper}{rest:List Oper}
theorem LF.gcallF{op:Op}{ty:TypeId}{pos:String}{af:Array Edge}{d f:Nat}{args:Array Value}{R:Value→Heap→Prop}{e:Env}{H:Heap}{j t:Nat}{want B:Bool}{u:Value}(hj:(ops[j]?).bind (·.dst)=some t)(hu:lk e t=some u)(hB:Gd u want B)
  (h:B=true→Iv P e op H f args) (hc:B=true→Ct P f args H R)
  (K:∀v H',(B=true∧R v H')∨(B=false∧H'=H)→LF P n' w0 ops Q ((d,gv B v)::e) rest H') (hd:Nat.blt d n'.sz=true:=by rfl) (ht:Nat.blt t n'.sz=true:=by rfl):LF P n' w0 ops Q e (⟨some d,op,ty,pos,af,some (j,want)⟩::rest) H:=by
 intro a w hf hw
 have hwt:=Qm (o:=⟨some d,op,ty,pos,af,some (j,want)⟩) rfl hj ht hf hu hB
 refine wpList_step fun K' hK'=>?_
 rw[hwt]
 cases B with
 | true =>
  simp only[if_true]
  unfold Oper.wp
  rw[h rfl a.eval _ w rfl (fun x u hx=>hf.ev hx) hw.heap,Oper.upon_enter]
  refine(hc rfl w hw.heap).mono fun x w' ⟨v,hx,h1,h2,h3,hR⟩=>?_
  subst hx
  exact hK' _ _ (K _ _ (.inl ⟨rfl,hR⟩) _ _ (hf.put hd v) ⟨rfl,h1.trans hw.os,h2.trans hw.tape,h3.trans hw.output⟩)
 | false=>exact hK' _ _ (K undef _ (.inr ⟨rfl,rfl⟩) _ _ (hf.put hd undef) hw)
end
theorem Yq{e:Env}{x y z:Operand}{v u t:Value}(h:ev e x=some v)(h':ev e y=some u)(h2:ev e z=some t):evl e [x,y,z]=some [v,u,t]:=by simp[evl,h,h',h2]
theorem u32_nn(n:Int):0≤IntKind.u32.wrap n:=by rw[IntKind.wrap_u32];omega
theorem Lx{n:Int}(h:IntKind.i32.wrap n=n):IntKind.i64.wrap n=n:=by rw[IntKind.wrap_i32] at h;rw[IntKind.wrap_i64];omega
theorem FF{n:Int}(h:IntKind.u32.wrap n=n):IntKind.i64.wrap n=n:=by rw[IntKind.wrap_u32] at h;rw[IntKind.wrap_i64];omega
theorem Lq{n:Int}(h:IntKind.i32.wrap n=n):-2147483648≤n∧n≤2147483647:=by rw[IntKind.wrap_i32] at h;omega
theorem SU(n:Int)(h:0≤n):Mg .u32 n 31=n%32:=by
 show IntKind.u32.wrap (((BitVec.ofInt 32 n &&& BitVec.ofInt 32 31).toNat:Nat):Int)=_
 have h1:(BitVec.ofInt 32 n &&& BitVec.ofInt 32 31).toNat=(BitVec.ofInt 32 n).toNat%32:=by
  have h2:(BitVec.ofInt 32 31).toNat=2^5-1:=by decide
  rw[BitVec.toNat_and,h2,Nat.and_two_pow_sub_one_eq_mod]
 rw[h1,BitVec.toNat_ofInt,IntKind.wrap_u32]
 omega
end Go.JE
namespace Go.JE
variable{P:Program}{e:Env}{H:Heap}
section
variable{α:Type}{r:Rp α}{T:TypeId}{F G:PH}{B:Nat}{v:Value}{l:List α}
end
instance:Inhabited Value:=⟨undef⟩
section
variable{α:Type}{r:Rp α}{T To:TypeId}{F G:PH}{B:Nat}{v:Value}{vs:List Value}{ls:List (List α)}
end
section
variable{n:Fs}{w0:World}{Q:Exit→Act→World→Prop}{l:List Oper}{z:Bool}{S:Heap→Prop}{fuel d:Nat}{listed:Array Bool}{op:Op}{ty:TypeId}{pos:String}{af:Array Edge}{p:Value→Prop}
end
section
variable{n:Fs}{w0:World}{Q:Exit→Act→World→Prop}{l:List Oper}{z:Bool}{S:Heap→Prop}{fuel i d:Nat}{listed:Array Bool}{op:Op}{ty:TypeId}{pos:String}{af:Array Edge}
end
section
variable{α:Type}{r:Rp α}{F:PH}{B:Nat}{v:Value}{l:List α}{T E:TypeId}
end
section
variable{α:Type}{r:Rp α}{F:PH}{B:Nat}{v:Value}{l:List α}
theorem Aa.sliceHiG{T E:TypeId}{x hx':Operand}{k:IntKind}{I:Int}{hi:Nat}(hT:P.underlying T=some (.slice E))(hE:Sz P E r.sz)(hs:Gl r E F H B v l)(hx:ev e x=some v)(hh:ev e hx'=some (.int k I))(hI:I=hi)(h2:hi≤l.length) :
  Aa P e (.slice T x none (some hx') none) H (JE.resl r.sz v 0 hi):=by
 obtain⟨f,hf⟩:=hs.sl
 exact Aa.sliceHi hT hE hf hx hh hI h2
theorem Gr.setl{E:TypeId}{n:Nat}:∀(cs:List Value) (o:Nat) {H:Heap} {xs:List Value},Gr H B E r.sz v n xs→(∃g,v.ownBlock=some g)→∀g,v.ownBlock=some g→Gr (JE.setl H g o cs) B E r.sz v n (Jc xs o cs)
 | [],_,_,_,h,_,_,_=>h
 | c::cs,o,_,_,h,hg,g,hgg=>Gr.setl cs (o+1) (Gr.set h hgg) hg g hgg
theorem J6:∀(cs xs:List Value) (o i:Nat),o+cs.length≤xs.length→(Jc xs o cs).getD i undef=if o≤i∧i<o+cs.length then cs.getD (i-o) undef else xs.getD i undef
 | [],xs,o,i,_=>by
  have:¬(o≤i∧i<o+([]:List Value).length):=by simp only[List.length_nil];omega
  rw[if_neg this];rfl
 | c::cs,xs,o,i,h=>by
  simp only[List.length_cons] at h
  rw[Jc,J6 cs _ (o+1) i (by simp;omega)]
  by_cases h1:i=o
  ·subst h1
   rw[if_neg (by omega),if_pos (by simp)]
   have:i<xs.length:=by omega
   simp[List.getD,this]
  ·by_cases h2:o+1≤i∧i<o+1+cs.length
   ·rw[if_pos h2,if_pos (by simp;omega),show i-o=(i-(o+1))+1 by omega];simp
   ·rw[if_neg h2,if_neg (by simp;omega)];simp[List.getD,List.getElem?_set_ne (Ne.symm h1)]
end
end Go.JE
namespace Go.JE
open Go.ChangeShapes Go.RowKit
variable{P:Program}{H:Type}{enc:TypeId×Value→H}{W W':World}
theorem Trod.carried{base:Nat}{sp:Nat→Bool}{held:Bool}{t:TypeId}{v:Value}{d:DataW H}{ps:List MemPlace}(h:DataW.Trod enc P W base sp held t v d ps)(hs:∀p∈ps,W.sameAt W' p):DataW.Trod enc P W' base sp held t v d ps:=by
 obtain⟨n,hn⟩:=h
 exact⟨n,DataW.trod_carry n _ _ _ hn hs⟩
theorem TrodAll.carried{base:Nat}{sp:Nat→Bool}{held:Bool}:∀{ts:List TypeId} {vs:List Value} {ds:List (DataW H)} {ps:List MemPlace},DataW.TrodAll enc P W base sp held ts vs ds ps→(∀p∈ps,W.sameAt W' p)→DataW.TrodAll enc P W' base sp held ts vs ds ps
 | [],[],[],_,h,_=>h
 | _::_,_::_,_::_,_,⟨p,q,h1,h2,e⟩,hs=>⟨p,q,Trod.carried h1 (fun x hx=>hs x (by rw[e];exact List.mem_append_left _ hx)),TrodAll.carried h2 (fun x hx=>hs x (by rw[e];exact List.mem_append_right _ hx)),e⟩
structure TableOk(P:Program):Prop where
 laid:laidOutB P=true
 maps:mapsRowed P=true
 full:((List.range P.types.size).all fun t=>match P.underlying t with|some (.slice e)=>decide (0<P.cellsOf e)|_=>true)=true
theorem Ct.said{f:FuncId}{fn:Func}{s:ChangeSpec}{args:Array Value}{ds gs:List (DataW H)}{before:List MemPlace}{b:TypeId}{apart fresh handsOn:Bool}
  (T:TableOk P) (hps:fn.params.toList.all (fun t=>decide (t<P.types.size))=true) (hrt:fn.resultTypes=#[b]) (hb:P.underlying b=some .bool) (hvars:s.vars=[])
  (hfn:s.fn H ds={ results:=[.lit (.bool true)],args:=ds,vars:=[] }) (hW:DataW.Whole enc P fn.params.toList s.vars apart W args.toList ds gs before)
  (h:Ct P f args W.heap (fun v H'=>v = .bool true∧Kp W.heap.size W.heap H')) :
  Calls P f args W fun e W'=>∃v,e = .returned v∧s.post enc P fn apart fresh handsOn false W args v W':=by
 refine(h W rfl).mono fun x W' ⟨v,hx,hos,htape,hout,hv,hk⟩=>?_
 subst hx hv
 have hB:Below W.heap.size W W':=⟨hos,htape,hout,hk.1,hk.2⟩
 have hlt:=hW.lt
 have hW':=hW
 obtain⟨p,q,hA,hV,rfl,hfz,hnd⟩:=hW
 rw[hvars] at hV
 obtain⟨rfl,rfl⟩:=trodVars_none hV
 have hsame:∀x∈p++[],W.sameAt W' x:=fun x hx=>hB.same (hlt x hx)
 have hargs:∀sp:Nat→Bool,(∀x∈p,sp x.block=true)→DataW.TrodAll enc P W' 0 sp true fn.params.toList args.toList ds p:=fun sp hsp =>
  TrodAll.carried (DataW.TrodAll.respare (kids_rows T.laid T.maps) (slices_full_of P T.full) (fun t ht=>by have:=List.all_eq_true.1 hps t ht;simpa using this) hA hsp) (fun x hx=>hsame x (by simp[hx]))
 refine⟨_,rfl,ds,[],p++[],[],p,[],hW',?_,?_,?_,hB.frame _,fun h9=>(by cases h9)⟩
 ·rw[List.append_nil,hfn,hrt]
  have hl:(Value.bool true).resultList 1=[.bool true]:=rfl
  show DataW.TrodAll enc P W' _ _ _ [b] ((Value.bool true).resultList 1) _ _
  rw[hl]
  exact trodAll_cons_mk (shut_bool hb true) trodAll_mk0
 ·rw[List.append_nil,hfn]
  exact hargs _ (fun x hx=>by have:=hlt x (by simp[hx]);simpa using this)
 ·rw[List.append_nil,hfn,hvars];rfl
end Go.JE
namespace Go.JE
open Go.ChangeShapes Go.RowKit
variable{P:Program}
def Il(W:World):PH:=fun b=>W.heap[b]?
theorem inH_heapF(W:World):InH (Il W) W.heap:=fun _ _ h=>h
theorem KG{W:World}{b o:Nat}{v:Value}(h:W.cell? ⟨b,o,none⟩=some v):pc (Il W) b o=some v:=by
 rw[Jp] at h
 unfold hc at h
 unfold pc Il
 exact h
theorem GD{W:World}{a:Addr}{v:Value}(h:W.cell? (a.add 0)=some v):a.spot=none:=by
 simp only[Addr.add,if_true,World.cell?] at h
 cases ha:a.spot with
 | none=>rfl
 | some y=>rw[ha] at h;split at h<;>simp at h
theorem SY(a:Addr)(i j:Nat)(h:a.spot=none):(a.add i).add j=⟨a.block,a.off+(i+j),none⟩:=by
 obtain⟨b,o,s⟩:=a
 simp only at h;subst h
 rw[Addr.add_none,Addr.add_none,Nat.add_assoc]
def Opens{α:Type}(P:Program)(T:TypeId)(r:Rp α):Prop :=
 ∀{H:Type} {enc:TypeId×Value→H} {W:World} {held:Bool} {fuel:Nat} {cs:List Value} {x:DataW H×List MemPlace},
  DataW.trod enc P W 0 (fun _=>true) held fuel T cs=some x→cs.length=r.sz∧∃m,r.ok (Il W) m (fun i=>cs.getD i undef)
theorem EG{k:IntKind}{n:Int}(h:(Lit.int k n).wf=true):k.wrap n=n:=by
 have h1:(decide (k.min≤n)&&decide (n≤k.max))=true:=h
 rw[Bool.and_eq_true,decide_eq_true_eq,decide_eq_true_eq] at h1
 cases k<;>first
  | exact IntWalk.i64_in n h1|exact IntWalk.i32_in n h1|exact IntWalk.u8_in n h1|exact IntWalk.u16_in n h1|exact IntWalk.u32_in n h1|exact IntWalk.u64_in n h1|exact IntWalk.i8_in n h1|exact IntWalk.i16_in n h1
  | (simp only[IntKind.wrap,IntKind.min,IntKind.max,IntKind.bits,IntKind.signed] at h1 ⊢;simp at h1 ⊢;omega)
theorem Opens.int{T:TypeId}{k:IntKind}(ht:P.underlying T=some (.int k)):Opens P T (rI k):=by
 intro H enc W held fuel cs x h
 obtain⟨n,rfl,_,hw⟩:=DataW.trod_int ht h
 exact⟨rfl,n,rfl,EG hw⟩
theorem Opens.slice{α:Type}{T e:TypeId}{r:Rp α}(ht:P.underlying T=some (.slice e))(he:Opens P e r)(hs:P.cellsOf e=r.sz)(h0:0<r.sz):Opens P T (rLn 9223372036854775808 r):=by
 intro H enc W held fuel cs x h
 rcases Deep.open_slice ht h with⟨rfl,_⟩|⟨a,len,cap,m,n,D,Pl,rfl,_,hl,hm,hm2,_,hcell⟩
 ·exact⟨rfl,[],rL.nil0 (by decide) _⟩
 ·simp only[if_true] at hm2
  have hmax:cap≤9223372036854775807:=by unfold maxLen at hm;omega
  have hex:∀k,k≤len→∃l:List α,l.length=k∧∀i (hi:i<l.length),∃c,W.cells? 0 (a.add (i*r.sz)) r.sz=some c∧r.ok (Il W) l[i] (fun j=>c.getD j undef):=by
   intro k
   induction k with
   | zero=>exact fun _=>⟨[],rfl,fun i hi=>by simp at hi⟩
   | succ k ih =>
    intro hk
    obtain⟨l,hll,h1⟩:=ih (by omega)
    obtain⟨c,h2,h3⟩:=hcell k (by omega)
    obtain⟨_,z,h4⟩:=he h3
    rw[hs] at h2
    refine⟨l++[z],by simp[hll],fun i hi=>?_⟩
    by_cases h5:i<l.length
    ·rw[List.getElem_append_left h5];exact h1 i h5
    ·have h6:i=k:=by simp at hi;omega
     subst h6
     rw[List.getElem_append_right (by omega)]
     exact⟨c,h2,by simpa[hll] using h4⟩
  obtain⟨l,hll,hel⟩:=hex len (Nat.le_refl _)
  subst hll
  have hcells:∀i,i<l.length*r.sz→∃(h1:i / r.sz<l.length) (c:List Value),r.ok (Il W) l[i / r.sz] (fun j=>c.getD j undef)∧W.cell? ((a.add (i / r.sz*r.sz)).add (i%r.sz))=c[i%r.sz]? ∧ i%r.sz<c.length:=by
   intro i hi
   have h1:i / r.sz<l.length:=Nat.div_lt_of_lt_mul (by rw[Nat.mul_comm];exact hi)
   obtain⟨c,h2,h3⟩:=hel _ h1
   have h4:=World.cells?_some h2
   exact⟨h1,c,h3,h4.2.2 _ (Nat.mod_lt _ h0),by rw[h4.2.1];exact Nat.mod_lt _ h0⟩
  have hsp:∀i,i<l.length*r.sz→a.spot=none:=by
   intro i hi
   obtain⟨c,h2,h3⟩:=hel 0 (by rcases Nat.eq_zero_or_pos l.length with h9|h9;(· rw[h9] at hi;simp at hi);exact h9)
   have h4:=(World.cells?_some h2).2.2 0 h0
   have h5:0<c.length:=by rw[(World.cells?_some h2).2.1];exact h0
   rw[List.getElem?_eq_getElem h5] at h4
   have h6:=GD h4
   simpa[Addr.add] using h6
  have hpc:∀i,i<l.length→∀j,j<r.sz→∀c,W.cells? 0 (a.add (i*r.sz)) r.sz=some c→pc (Il W) a.block (a.off+(i*r.sz+j))=some (c.getD j undef):=by
   intro i hi j hj c h2
   have hb:i*r.sz+j<l.length*r.sz:=by
    have:(i+1)*r.sz≤l.length*r.sz:=Nat.mul_le_mul_right _ hi
    rw[Nat.add_mul] at this;omega
   have h4:=(World.cells?_some h2).2.2 j hj
   have h5:j<c.length:=by rw[(World.cells?_some h2).2.1];exact hj
   rw[List.getElem?_eq_getElem h5,SY _ _ _ (hsp _ hb)] at h4
   rw[KG h4];simp[List.getD,h5]
  refine⟨rfl,l,⟨by omega,by omega⟩,some a,cap,rfl,hl,fun i hi=>?_,fun i=>(pc (Il W) a.block (a.off+i)).getD undef,fun i hi=>?_,fun i hi=>?_⟩
  ·have:=hsp i hi
   obtain⟨b,o,s⟩:=a
   simp only at this;subst this
   exact⟨b,o,rfl⟩
  ·obtain⟨c,h2,h3⟩:=hel (i / r.sz) (Nat.div_lt_of_lt_mul (by rw[Nat.mul_comm];exact hi))
   have h4:=hpc (i / r.sz) (Nat.div_lt_of_lt_mul (by rw[Nat.mul_comm];exact hi)) (i%r.sz) (Nat.mod_lt _ h0) c h2
   rw[Nat.div_add_mod'] at h4
   show pc (Il W) a.block (a.off+i)=some ((pc (Il W) a.block (a.off+i)).getD undef)
   rw[h4];rfl
  ·obtain⟨c,h2,h3⟩:=hel i hi
   refine r.ext (fun j hj=>?_) h3
   show c.getD j undef=(pc (Il W) a.block (a.off+(i*r.sz+j))).getD undef
   rw[hpc i hi j hj c h2];rfl
theorem Opens.array{α:Type}{T e:TypeId}{n:Nat}{r:Rp α}(ht:P.underlying T=some (.array n e))(he:Opens P e r)(hs:P.cellsOf e=r.sz)(hT:P.cellsOf T=n*r.sz):Opens P T (rA n r):=by
 intro H enc W held fuel cs x h
 obtain⟨xs,m,_,_,hl,hx,hel⟩:=DataW.trod_array ht h
 have hex:∀k,k≤n→∃l:List α,l.length=k∧∀i (hi:i<l.length),r.ok (Il W) l[i] (fun j=>cs.getD (i*r.sz+j) undef):=by
  intro k
  induction k with
  | zero=>exact fun _=>⟨[],rfl,fun i hi=>by simp at hi⟩
  | succ k ih =>
   intro hk
   obtain⟨l,hll,h1⟩:=ih (by omega)
   have h3:=hel k (by omega)
   rw[List.getElem?_eq_getElem (by omega)] at h3
   obtain⟨_,z,h4⟩:=he h3
   refine⟨l++[z],by simp[hll],fun i hi=>?_⟩
   by_cases h5:i<l.length
   ·rw[List.getElem_append_left h5];exact h1 i h5
   ·have h6:i=k:=by simp at hi;omega
    subst h6
    rw[List.getElem_append_right (by omega)]
    simp only[hll,Nat.sub_self,List.getElem_cons_zero]
    refine r.ext (fun j hj=>?_) h4
    rw[hs];simp[List.getD,List.getElem?_take,hj]
 obtain⟨l,hll,h1⟩:=hex n (Nat.le_refl _)
 exact⟨hl.trans hT,l,hll,h1⟩
theorem Opens.arg1{α H:Type}{enc:TypeId×Value→H}{W:World}{held:Bool}{T:TypeId}{r:Rp α}{v:Value}{d:DataW H}{p:List MemPlace}(he:Opens P T r)(hc:v.cells.toList=[v])(hr:r.sz=1)(h:DataW.Trod enc P W 0 (fun _=>true) held T v d p):∃m,r.rv (Il W) v m:=by
 obtain⟨f,h⟩:=h
 rw[hc] at h
 obtain⟨_,m,h1⟩:=he h
 refine⟨m,r.ext (fun j hj=>?_) h1⟩
 rw[show j=0 by omega];rfl
theorem Opens.argA{α H:Type}{enc:TypeId×Value→H}{W:World}{held:Bool}{T:TypeId}{r:Rp α}{cs:Array Value}{d:DataW H}{p:List MemPlace}(he:Opens P T r)(h:DataW.Trod enc P W 0 (fun _=>true) held T (.agg cs) d p):∃m,r.ra (Il W) (.agg cs) m:=by
 obtain⟨f,h⟩:=h
 obtain⟨h2,m,h1⟩:=he (show DataW.trod enc P W 0 (fun _=>true) held f T cs.toList=_ from h)
 exact⟨m,cs.toList,by simp,h2,h1⟩
theorem Opens.agg{α H:Type}{enc:TypeId×Value→H}{W:World}{held:Bool}{T:TypeId}{r:Rp α}{v:Value}{d:DataW H}{p:List MemPlace}{n:Nat}(_:P.cellsOf T=n)(hn:n≠1)(he:Opens P T r)(hr:r.sz=n)(h:DataW.Trod enc P W 0 (fun _=>true) held T v d p):∃cs,v = .agg cs:=by
 obtain⟨f,h⟩:=h
 obtain⟨h2,_⟩:=he h
 cases v with
 | agg cs=>exact⟨cs,rfl⟩
 | _=>exact absurd (hr.symm.trans h2.symm) hn
section
variable{e:Env}{H:Heap}{g:Nat}{T:TypeId}
theorem Aa.ldBxI{k:IntKind}{l:List Int}{i o:Nat}{x:Operand}{T':TypeId}(hb:Bx H g T (l.map (Value.int k)))(hi:i<l.length)(ho:o=i)(hT:One P T')(hx:ev e x=some (.pointer (some ⟨g,o,none⟩))):Aa P e (.load T' x) H (.int k (ix l i)):=by
 subst ho
 refine Aa.ldBx hb hT hx ?_
 rw[List.getElem?_map,List.getElem?_eq_getElem hi,Bp hi];rfl
theorem Bx.freeze{α:Type}{r:Rp α}{a:α}{l:List Value}{F F0:PH}{H0:Heap}(h:Bx H g T l)(hin:InH F H)(hx:PH.ext H0 F0 F)(hg:H0.size≤g)(hF:F g=none)(hok:r.ok F a (fun i=>l.getD i undef))(hl:l.length=r.sz) :
  ∃G,PH.ext H0 F0 G∧F.le G∧InH G H∧(∀k,k≠g→G k=F k)∧At G r g 0 a:=by
 refine⟨F.add g (.cells l.toArray T (0,0)),hx.add hF hg,PH.le_add hF,hin.add h,fun k hk=>by unfold PH.add;rw[if_neg hk],fun i=>l.getD i undef,fun i hi=>?_,r.up (PH.le_add hF) hok⟩
 unfold pc PH.add
 rw[if_pos rfl,Nat.zero_add]
 simp[List.getD,show i<l.length by omega]
theorem rL.ofArr{α:Type}{r:Rp α}{F:PH}{n b o:Nat}{l:List α}(h:At F (rA n r) b o l)(hn:n<1073741824):(rL r).rv F (.slice (some ⟨b,o,none⟩) n n) l:=by
 obtain⟨f,h1,h2,h3⟩:=h
 subst h2
 exact⟨⟨hn,by omega⟩,some ⟨b,o,none⟩,l.length,rfl,Nat.le_refl _,fun i hi=>⟨b,o,rfl⟩,f,fun i hi=>h1 i hi,h3⟩
theorem Aa.sliceArr{E:TypeId}{n b o s:Nat}{x:Operand}(hT:P.underlying T=some (.array n E))(hE:Sz P E s)(hx:ev e x=some (.pointer (some ⟨b,o,none⟩))):Aa P e (.slice T x none none none) H (.slice (some ⟨b,o,none⟩) n n):=by
 intro ρ o' w ho hev _
 simp[execOp,ho,hev _ _ hx,Instr.sliceAt,Instr.slice,Instr.sliceBounds,run_underlying hT,Addr.add,Instr.sureAddr,hE.run]
theorem Gl.flatI{k:IntKind}{F G:PH}{B:Nat}{v:Value}{l:List Int}(h:Gl (rI k) T G H B v l)(hl:F.le G):Gl (rI k) T F H B v l:=by
 obtain⟨xs,h1,h2,h3⟩:=h
 refine⟨xs,h1,fun b hb=>?_,h3⟩
 cases hF:F b with
 | none=>rfl
 | some o=>have:=hl b o hF;rw[h2 b hb] at this;cases this
end
section
variable{n:Fs}{w0:World}{Q:Exit→Act→World→Prop}{l:List Oper}{ops:Array Oper}{rest:List Oper}{z:Bool}{S:Heap→Prop}{fuel d:Nat}{listed:Array Bool}{op:Op}{ty:TypeId}{pos:String}{af:Array Edge}{p:Value→Prop}{e:Env}{H:Heap}{j t:Nat}{want:Bool}{u v:Value}
theorem LF.gstepK(hj:(ops[j]?).bind (·.dst)=some t)(hu:lk e t=some u)(hB:Gd u want true)(h:Aa P e op H v)
  (K:LF P n w0 ops Q ((d,v)::e) rest H) (hd:Nat.blt d n.sz=true:=by rfl) (ht:Nat.blt t n.sz=true:=by rfl):LF P n w0 ops Q e (⟨some d,op,ty,pos,af,some (j,want)⟩::rest) H :=
 LF.gstep hj hu hB (fun _=>h) K hd ht
end
end Go.JE
namespace Go.JE
universe u
theorem Z{α:Sort u}{a:α}:a=a:=rfl
structure Dt where
 sat:PH→Prop
 up:∀{F G:PH}, F.le G→sat F→sat G
structure Res where
 sat:PH→Heap→Prop
 own:Nat→Prop
 lt:∀{F:PH} {H:Heap} {k:Nat}, sat F H→own k→k<H.size
 no:∀{F:PH} {H:Heap} {k:Nat}, sat F H→own k→F k=none
 st:∀{F G:PH} {H H':Heap}, F.le G→H.size≤H'.size→(∀k, own k→G k=none)→(∀k, own k→H'[k]? = H[k]?)→sat F H→sat G H'
def AllD(F:PH):List Dt→Prop
 | []=>True
 | d::D=>d.sat F∧AllD F D
def Own:List Res→Nat→Prop
 | [], _=>False
 | R::L, k=>R.own k∨Own L k
def Ok(F:PH)(H:Heap):List Res→Prop
 | []=>True
 | R::L=>R.sat F H∧(∀k, R.own k→¬Own L k)∧Ok F H L
section
variable{F G:PH}{H H':Heap}{D E:List Dt}{d:Dt}{L M Ls N:List Res}{R A:Res}{k:Nat}
theorem AllD.up:∀{D:List Dt}, F.le G→AllD F D→AllD G D
 | [], _, _=>trivial
 | _::_, h, ⟨h1, h2⟩=>⟨Dt.up _ h h1, AllD.up h h2⟩
theorem AllD.app:∀{D:List Dt}, AllD F D→AllD F E→AllD F (D++E)
 | [], _, h=>h
 | _::_, ⟨h1, h2⟩, h=>⟨h1, AllD.app h2 h⟩
theorem Ok.lt:∀{L:List Res}, Ok F H L→Own L k→k<H.size
 | _::_, h, .inl ho=>Res.lt _ h.1 ho
 | _::_, h, .inr ho=>Ok.lt h.2.2 ho
theorem Ok.no:∀{L:List Res}, Ok F H L→Own L k→F k=none
 | _::_, h, .inl ho=>Res.no _ h.1 ho
 | _::_, h, .inr ho=>Ok.no h.2.2 ho
theorem Ok.st:∀{L:List Res}, F.le G→H.size≤H'.size→(∀k, Own L k→G k=none)→(∀k, Own L k→H'[k]? = H[k]?)→Ok F H L→Ok G H' L
 | [], _, _, _, _, _=>trivial
 | _::_, h, h0, h1, h2, ⟨a, b, c⟩=>⟨Res.st _ h h0 (fun k hk=>h1 k (.inl hk)) (fun k hk=>h2 k (.inl hk)) a, b, Ok.st h h0 (fun k hk=>h1 k (.inr hk)) (fun k hk=>h2 k (.inr hk)) c⟩
theorem Own.app:∀{L:List Res}, Own (L++M) k↔Own L k∨Own M k
 | []=>⟨.inr, fun h=>h.elim False.elim id⟩
 | R::L=>⟨fun h=>h.elim (fun h => .inl (.inl h)) (fun h=>(Own.app.1 h).elim (fun h => .inl (.inr h)) .inr), fun h=>h.elim (fun h=>h.elim .inl (fun h => .inr (Own.app.2 (.inl h)))) (fun h => .inr (Own.app.2 (.inr h)))⟩
theorem Ok.app:∀{L:List Res}, Ok F H L→Ok F H M→(∀k, Own L k→¬Own M k)→Ok F H (L++M)
 | [], _, h, _=>h
 | R::L, ⟨a, b, c⟩, h, h'=>⟨a, fun k hk ho=>(Own.app.1 ho).elim (b k hk) (h' k (.inl hk)), Ok.app c h fun k hk=>h' k (.inr hk)⟩
structure Tk(L:List Res)(R:Res)(M:List Res):Prop where
 ok:∀{F:PH} {H:Heap}, Ok F H L→Ok F H (R::M)
 own:∀{k:Nat}, Own (R::M) k→Own L k
theorem k0:Tk (R::M) R M:=⟨id, id⟩
theorem Tk.s(h:Tk L R M):Tk (A::L) R (A::M) where
 ok:=fun⟨a, b, c⟩=>by
  obtain⟨x, y, z⟩:=h.ok c
  exact⟨x, fun k hk ho=>ho.elim (fun h1=>b k h1 (h.own (.inl hk))) (y k hk), a, fun k hk ho=>b k hk (h.own (.inr ho)), z⟩
 own:=fun ho=>by
  rcases ho with ho|ho|ho
  ·exact .inr (h.own (.inl ho))
  ·exact .inl ho
  ·exact .inr (h.own (.inr ho))
theorem k1{A0:Res}:Tk (A0::R::M) R (A0::M):=k0.s
theorem k2{A0 A1:Res}:Tk (A0::A1::R::M) R (A0::A1::M):=k1.s
theorem k3{A0 A1 A2:Res}:Tk (A0::A1::A2::R::M) R (A0::A1::A2::M):=k2.s
theorem k4{A0 A1 A2 A3:Res}:Tk (A0::A1::A2::A3::R::M) R (A0::A1::A2::A3::M):=k3.s
theorem k5{A0 A1 A2 A3 A4:Res}:Tk (A0::A1::A2::A3::A4::R::M) R (A0::A1::A2::A3::A4::M):=k4.s
theorem k6{A0 A1 A2 A3 A4 A5:Res}:Tk (A0::A1::A2::A3::A4::A5::R::M) R (A0::A1::A2::A3::A4::A5::M):=k5.s
theorem k7{A0 A1 A2 A3 A4 A5 A6:Res}:Tk (A0::A1::A2::A3::A4::A5::A6::R::M) R (A0::A1::A2::A3::A4::A5::A6::M):=k6.s
theorem k8{A0 A1 A2 A3 A4 A5 A6 A7:Res}:Tk (A0::A1::A2::A3::A4::A5::A6::A7::R::M) R (A0::A1::A2::A3::A4::A5::A6::A7::M):=k7.s
theorem k9{A0 A1 A2 A3 A4 A5 A6 A7 A8:Res}:Tk (A0::A1::A2::A3::A4::A5::A6::A7::A8::R::M) R (A0::A1::A2::A3::A4::A5::A6::A7::A8::M):=k8.s
theorem k10{A0 A1 A2 A3 A4 A5 A6 A7 A8 A9:Res}:Tk (A0::A1::A2::A3::A4::A5::A6::A7::A8::A9::R::M) R (A0::A1::A2::A3::A4::A5::A6::A7::A8::A9::M):=k9.s
theorem k11{A0 A1 A2 A3 A4 A5 A6 A7 A8 A9 A10:Res}:Tk (A0::A1::A2::A3::A4::A5::A6::A7::A8::A9::A10::R::M) R (A0::A1::A2::A3::A4::A5::A6::A7::A8::A9::A10::M):=k10.s
theorem k12{A0 A1 A2 A3 A4 A5 A6 A7 A8 A9 A10 A11:Res}:Tk (A0::A1::A2::A3::A4::A5::A6::A7::A8::A9::A10::A11::R::M) R (A0::A1::A2::A3::A4::A5::A6::A7::A8::A9::A10::A11::M):=k11.s
theorem k13{A0 A1 A2 A3 A4 A5 A6 A7 A8 A9 A10 A11 A12:Res}:Tk (A0::A1::A2::A3::A4::A5::A6::A7::A8::A9::A10::A11::A12::R::M) R (A0::A1::A2::A3::A4::A5::A6::A7::A8::A9::A10::A11::A12::M):=k12.s
theorem k14{A0 A1 A2 A3 A4 A5 A6 A7 A8 A9 A10 A11 A12 A13:Res}:Tk (A0::A1::A2::A3::A4::A5::A6::A7::A8::A9::A10::A11::A12::A13::R::M) R (A0::A1::A2::A3::A4::A5::A6::A7::A8::A9::A10::A11::A12::A13::M):=k13.s
theorem k15{A0 A1 A2 A3 A4 A5 A6 A7 A8 A9 A10 A11 A12 A13 A14:Res}:Tk (A0::A1::A2::A3::A4::A5::A6::A7::A8::A9::A10::A11::A12::A13::A14::R::M) R (A0::A1::A2::A3::A4::A5::A6::A7::A8::A9::A10::A11::A12::A13::A14::M):=k14.s
structure Tks(L Ls M:List Res):Prop where
 ok:∀{F:PH} {H:Heap}, Ok F H L→Ok F H Ls∧Ok F H M∧∀k, Own Ls k→¬Own M k
 own:∀{k:Nat}, Own Ls k∨Own M k→Own L k
theorem kn:Tks L [] L:=⟨fun h=>⟨trivial, h, fun _ h=>h.elim⟩, fun h=>h.elim False.elim id⟩
theorem kc(h:Tk L R M)(h':Tks M Ls N):Tks L (R::Ls) N where
 ok:=fun o=>by
  obtain⟨a, b, c⟩:=h.ok o
  obtain⟨x, y, z⟩:=h'.ok c
  exact⟨⟨a, fun k hk ho=>b k hk (h'.own (.inl ho)), x⟩, y, fun k hk ho=>hk.elim (fun h1=>b k h1 (h'.own (.inr ho))) (fun h1=>z k h1 ho)⟩
 own:=fun ho=>h.own (by
  rcases ho with(ho|ho)|ho
  ·exact .inl ho
  ·exact .inr (h'.own (.inl ho))
  ·exact .inr (h'.own (.inr ho)))
theorem kd{a b:Res}(h:Tks M Ls N):Tks (a::b::M) (a::b::Ls) N:=kc k0 (kc k0 h)
theorem Tk.tks(h:Tk L R M):Tks L [R] M:=kc h kn
def Nd(D:List Dt)(L:List Res)(d:Dt):Prop:=∀F H, InH F H→AllD F D→Ok F H L→d.sat F
theorem d0:Nd (d::D) L d:=fun _ _ _ h _=>h.1
theorem Nd.s{c:Dt}(h:Nd D L d):Nd (c::D) L d:=fun _ _ h0 h1 h2=>h _ _ h0 h1.2 h2
theorem d1{c0:Dt}:Nd (c0::d::D) L d:=d0.s
theorem d2{c0 c1:Dt}:Nd (c0::c1::d::D) L d:=d1.s
theorem d3{c0 c1 c2:Dt}:Nd (c0::c1::c2::d::D) L d:=d2.s
theorem d4{c0 c1 c2 c3:Dt}:Nd (c0::c1::c2::c3::d::D) L d:=d3.s
theorem d5{c0 c1 c2 c3 c4:Dt}:Nd (c0::c1::c2::c3::c4::d::D) L d:=d4.s
theorem d6{c0 c1 c2 c3 c4 c5:Dt}:Nd (c0::c1::c2::c3::c4::c5::d::D) L d:=d5.s
theorem d7{c0 c1 c2 c3 c4 c5 c6:Dt}:Nd (c0::c1::c2::c3::c4::c5::c6::d::D) L d:=d6.s
theorem d8{c0 c1 c2 c3 c4 c5 c6 c7:Dt}:Nd (c0::c1::c2::c3::c4::c5::c6::c7::d::D) L d:=d7.s
theorem d9{c0 c1 c2 c3 c4 c5 c6 c7 c8:Dt}:Nd (c0::c1::c2::c3::c4::c5::c6::c7::c8::d::D) L d:=d8.s
theorem d10{c0 c1 c2 c3 c4 c5 c6 c7 c8 c9:Dt}:Nd (c0::c1::c2::c3::c4::c5::c6::c7::c8::c9::d::D) L d:=d9.s
theorem d11{c0 c1 c2 c3 c4 c5 c6 c7 c8 c9 c10:Dt}:Nd (c0::c1::c2::c3::c4::c5::c6::c7::c8::c9::c10::d::D) L d:=d10.s
theorem d12{c0 c1 c2 c3 c4 c5 c6 c7 c8 c9 c10 c11:Dt}:Nd (c0::c1::c2::c3::c4::c5::c6::c7::c8::c9::c10::c11::d::D) L d:=d11.s
theorem d13{c0 c1 c2 c3 c4 c5 c6 c7 c8 c9 c10 c11 c12:Dt}:Nd (c0::c1::c2::c3::c4::c5::c6::c7::c8::c9::c10::c11::c12::d::D) L d:=d12.s
def Sd(D:List Dt)(L:List Res)(E:List Dt):Prop:=∀F H, InH F H→AllD F D→Ok F H L→AllD F E
theorem dn:Sd D L []:=fun _ _ _ _ _=>trivial
theorem dc(h:Nd D L d)(h':Sd D L E):Sd D L (d::E):=fun _ _ a b c=>⟨h _ _ a b c, h' _ _ a b c⟩
end
structure Cx where
 W:Nat→Prop
 H:Heap
 F:PH
abbrev Cx.n(X:Cx):Nat:=X.H.size
structure Hp(X:Cx)(D:List Dt)(L:List Res)(F:PH)(H:Heap):Prop where
 hx:PH.ext X.H X.F F
 hin:InH F H
 hw:Kw X.W X.H H
 hd:AllD F D
 ok:Ok F H L
 ge:∀k, Own L k→X.H.size≤k∨X.W k
section
variable{X:Cx}{F G:PH}{H H':Heap}{D E:List Dt}{L M Ls Ls':List Res}{R R':Res}
theorem Hp.frame(h:Hp X D L F H)(hk:Tks L Ls M)(hx:PH.ext H F G)(hin:InH G H')(hw:Kw (Own Ls) H H')(hd:AllD G E)(ho:Ok G H' Ls')(hg:∀k, Own Ls' k→H.size≤k∨Own Ls k):Hp X (E++D) (Ls'++M) G H':=by
 obtain⟨o1, o2, o3⟩:=hk.ok h.ok
 refine⟨h.hx.trans hx h.hw.1, hin, h.hw.kw hw fun k hk1 hk2=>(h.ge k (hk.own (.inl hk2))).resolve_left (by omega), hd.app (h.hd.up hx.1), Ok.app ho (o2.st hx.1 hw.1 (fun k hk1=>(hx.2 k (o2.lt hk1)).trans (o2.no hk1)) (fun k hk1=>hw.2 k (o2.lt hk1) (fun h9=>o3 k h9 hk1))) ?_, ?_⟩
 ·intro k hk1 hk2
  rcases hg k hk1 with h9|h9
  ·have:=o2.lt hk2;omega
  ·exact o3 k h9 hk2
 ·intro k hk1
  rcases Own.app.1 hk1 with h9|h9
  ·rcases hg k h9 with h8|h8
   ·exact .inl (Nat.le_trans h.hw.1 h8)
   ·exact h.ge k (hk.own (.inl h8))
  ·exact h.ge k (hk.own (.inr h9))
theorem Hp.new(h:Hp X D L F H)(hk:Kp H.size H H')(hs:R.sat F H')(ho:∀k, R.own k→H.size≤k):Hp X D (R::L) F H' :=
 h.frame kn (PH.ext.refl F) (h.hin.kp hk) ⟨hk.1, fun k h1 _=>hk.2 k h1⟩ (E:=[]) trivial (Ls':=[R]) ⟨hs, fun _ _=>id, trivial⟩ (fun k h1 => .inl (ho k (h1.resolve_right id)))
theorem Hp.set(h:Hp X D L F H)(hk:Tk L R M)(hw:Kw R.own H H')(hs:R'.sat F H')(ho:∀k, R'.own k→H.size≤k∨R.own k):Hp X D (R'::M) F H' :=
 h.frame hk.tks (PH.ext.refl F) (h.hin.kw hw fun k h1=>h.ok.no (hk.own (.inl h1))) ⟨hw.1, fun k h1 h2=>hw.2 k h1 (fun h3=>h2 (.inl h3))⟩ (E:=[]) trivial (Ls':=[R']) ⟨hs, fun _ _=>id, trivial⟩ (fun k h1=>(ho k (h1.resolve_right id)).imp id .inl)
theorem Hp.at(h:Hp X D L F H)(hk:Tk L R M):R.sat F H:=(hk.ok h.ok).1
theorem Hp.datum{d:Dt}(h:Hp X D L F H)(hs:d.sat F):Hp X (d::D) L F H:=⟨h.hx, h.hin, h.hw, ⟨hs, h.hd⟩, h.ok, h.ge⟩
theorem Hp.sub(h:Hp X D L F H)(hd:Sd D L E)(hk:Tks L Ls M):Hp X E Ls F H:=⟨h.hx, h.hin, h.hw, hd _ _ h.hin h.hd h.ok, (hk.ok h.ok).1, fun k h1=>h.ge k (hk.own (.inl h1))⟩
end
variable{P:Program}{n:Fs}{w0:World}{Q:Exit→Act→World→Prop}{X:Cx}{D E:List Dt}{L M Ls:List Res}{e:Env}
def LH(P:Program)(n:Fs)(w0:World)(ops:Array Oper)(Q:Exit→Act→World→Prop)(X:Cx)(D:List Dt)(L:List Res)(e:Env)(l:List Oper):Prop:=∀F H, Hp X D L F H→LF P n w0 ops Q e l H
def SH(P:Program)(n:Fs)(w0:World)(ops:Array Oper)(K:Act→World→Prop)(X:Cx)(D:List Dt)(L:List Res)(e:Env)(l:List Oper):Prop:=∀F H, Hp X D L F H→LS P n w0 ops K e l H
def CH(P:Program)(n:Fs)(w0:World)(Q:Exit→Act→World→Prop)(X:Cx)(D:List Dt)(L:List Res)(e:Env)(c:Code):Prop:=∀F H, Hp X D L F H→CF P n w0 Q e c H
def QH(n:Fs)(w0:World)(Q:Exit→Act→World→Prop)(X:Cx)(D:List Dt)(L:List Res)(e:Env)(x:Exit):Prop:=∀F H, Hp X D L F H→PF n w0 Q e x H
def OH(P:Program)(D:List Dt)(L:List Res)(e:Env)(op:Op)(v:Value):Prop:=∀F H, InH F H→AllD F D→Ok F H L→Aa P e op H v
def OE(P:Program)(D:List Dt)(L:List Res)(e:Env)(op:Op)(p:Value→PH→Prop):Prop:=∀F H, InH F H→AllD F D→Ok F H L→∃v, Aa P e op H v∧p v F
section
variable{ops:Array Oper}{op:Op}{d:Nat}{ty:TypeId}{pos:String}{af:Array Edge}{rest:List Oper}{v:Value}{R:Res}{K:Act→World→Prop}
theorem jn(h:QH n w0 Q X D L e .normal):LH P n w0 ops Q X D L e []:=fun F H hp=>LF.nil (h F H hp)
theorem js(h:OH P D L e op v)(k:LH P n w0 ops Q X D L ((d, v)::e) rest)(hd:Nat.blt d n.sz=true:=by rfl):LH P n w0 ops Q X D L e (⟨some d, op, ty, pos, af, none⟩::rest) :=
 fun F H hp=>LF.step (h F H hp.hin hp.hd hp.ok) (k F H hp) hd
theorem jt(h:OH P D L e op v)(k:SH P n w0 ops K X D L ((d, v)::e) rest)(hd:Nat.blt d n.sz=true:=by rfl):SH P n w0 ops K X D L e (⟨some d, op, ty, pos, af, none⟩::rest) :=
 fun F H hp=>LS.step (h F H hp.hin hp.hd hp.ok) (k F H hp) hd
theorem jg{j t:Nat}{want B:Bool}{u:Value}(hj:(ops[j]?).bind (·.dst)=some t)(hu:lk e t=some u)(hB:Gd u want B)(h:B=true→OH P D L e op v)
  (k:LH P n w0 ops Q X D L ((d, gv B v)::e) rest) (hd:Nat.blt d n.sz=true:=by rfl) (ht:Nat.blt t n.sz=true:=by rfl):LH P n w0 ops Q X D L e (⟨some d, op, ty, pos, af, some (j, want)⟩::rest) :=
 fun F H hp=>LF.gstep hj hu hB (fun hb=>h hb F H hp.hin hp.hd hp.ok) (k F H hp) hd ht
theorem jtg{j t:Nat}{want B:Bool}{u:Value}(hj:(ops[j]?).bind (·.dst)=some t)(hu:lk e t=some u)(hB:Gd u want B)(h:B=true→OH P D L e op v)
  (k:SH P n w0 ops K X D L ((d, gv B v)::e) rest) (hd:Nat.blt d n.sz=true:=by rfl) (ht:Nat.blt t n.sz=true:=by rfl):SH P n w0 ops K X D L e (⟨some d, op, ty, pos, af, some (j, want)⟩::rest) :=
 fun F H hp=>LS.gstep hj hu hB (fun hb=>h hb F H hp.hin hp.hd hp.ok) (k F H hp) hd ht
def Dt.if(B:Bool)(d:Dt):Dt:=⟨fun F=>B=true→d.sat F, fun hl h hb=>d.up hl (h hb)⟩
theorem Nd.on{B:Bool}{c:Dt}(h:Nd D L (c.if B))(hb:B=true):Nd D L c:=fun F H a b o=>h F H a b o hb
theorem jge{q:Value→Dt}{j t:Nat}{want B:Bool}{u:Value}(hj:(ops[j]?).bind (·.dst)=some t)(hu:lk e t=some u)(hB:Gd u want B)(h:B=true→OE P D L e op (fun v F=>(q v).sat F))
  (k:∀v, LH P n w0 ops Q X ((q v).if B::D) L ((d, gv B v)::e) rest) (hd:Nat.blt d n.sz=true:=by rfl) (ht:Nat.blt t n.sz=true:=by rfl):LH P n w0 ops Q X D L e (⟨some d, op, ty, pos, af, some (j, want)⟩::rest):=fun F H hp=>by
 cases B with
 | true=>obtain⟨v, h1, h2⟩:=h rfl F H hp.hin hp.hd hp.ok;exact LF.gstep hj hu hB (fun _=>h1) (k v F H (hp.datum fun _=>h2)) hd ht
 | false=>exact LF.gstep (v:=undef) hj hu hB (fun h=>by cases h) (k undef F H (hp.datum fun h=>by cases h)) hd ht
theorem W9{q:Value→Dt}{j t:Nat}{want B:Bool}{u:Value}(hj:(ops[j]?).bind (·.dst)=some t)(hu:lk e t=some u)(hB:Gd u want B)(h:B=true→OE P D L e op (fun v F=>(q v).sat F))
  (k:∀v, SH P n w0 ops K X ((q v).if B::D) L ((d, gv B v)::e) rest) (hd:Nat.blt d n.sz=true:=by rfl) (ht:Nat.blt t n.sz=true:=by rfl):SH P n w0 ops K X D L e (⟨some d, op, ty, pos, af, some (j, want)⟩::rest):=fun F H hp=>by
 cases B with
 | true=>obtain⟨v, h1, h2⟩:=h rfl F H hp.hin hp.hd hp.ok;exact LS.gstep hj hu hB (fun _=>h1) (k v F H (hp.datum fun _=>h2)) hd ht
 | false=>exact LS.gstep (v:=undef) hj hu hB (fun h=>by cases h) (k undef F H (hp.datum fun h=>by cases h)) hd ht
theorem jk{j t:Nat}{want:Bool}{u:Value}(hj:(ops[j]?).bind (·.dst)=some t)(hu:lk e t=some u)(hB:Gd u want true)(h:OH P D L e op v)
  (k:LH P n w0 ops Q X D L ((d, v)::e) rest) (hd:Nat.blt d n.sz=true:=by rfl) (ht:Nat.blt t n.sz=true:=by rfl):LH P n w0 ops Q X D L e (⟨some d, op, ty, pos, af, some (j, want)⟩::rest) :=
 fun F H hp=>LF.gstepK hj hu hB (h F H hp.hin hp.hd hp.ok) (k F H hp) hd ht
theorem jm{x:Operand}(hx:ev e x=some v)(k:LH P n w0 ops Q X D L ((d, v)::e) rest)(hd:Nat.blt d n.sz=true:=by rfl):LH P n w0 ops Q X D L e (⟨some d, .move x, ty, pos, af, none⟩::rest):=js (fun _ _ _ _ _=>Aa.move hx) k hd
theorem ja{x:Operand}(hx:ev e x=some v)(k:LH P n w0 ops Q X D L ((d, v)::e) rest)(hd:Nat.blt d n.sz=true:=by rfl):LH P n w0 ops Q X D L e (⟨some d, .assign x, ty, pos, af, none⟩::rest):=js (fun _ _ _ _ _=>Aa.assign hx) k hd
end
section
variable{x y:Code}{id:Nat}{l:List Oper}
theorem jr(h:LH P n w0 l.toArray Q X D L e l):CH P n w0 Q X D L e (.region id l.toArray false):=fun F H hp=>CF.region (h F H hp)
theorem Gh(hm:P.follows .mixedOrders=true)(hB:Region.lexB .any l.toArray=true)(h:SH P n w0 l.toArray (fun a w=>Q .normal a w) X D L e l):CH P n w0 Q X D L e (.region id l.toArray true):=fun F H hp=>CF.still hm hB (h F H hp)
theorem jtl(m:Nat)(hm:P.follows .mixedOrders=true)(hB:Region.lexTailB .any l.toArray m=true)(h:SH P n w0 l.toArray (fun a w=>wpList P l.toArray Q (l.drop m) a w) X D L e (l.take m)):CH P n w0 Q X D L e (.region id l.toArray true):=fun F H hp=>CF.tail m hm hB (h F H hp)
theorem jdn{ops:Array Oper}(h:QH n w0 Q X D L e .normal):SH P n w0 ops (fun a w=>Q .normal a w) X D L e []:=fun F H hp=>LS.done (h F H hp)
theorem jtt{ops:Array Oper}{r:List Oper}(h:LH P n w0 ops Q X D L e r):SH P n w0 ops (fun a w=>wpList P ops Q r a w) X D L e []:=fun F H hp=>LS.tail (h F H hp)
theorem jq(h:CH P n w0 (Exit.then (y.wp P Q) Q) X D L e x):CH P n w0 Q X D L e (.seq x y):=fun F H hp=>CF.seq (h F H hp)
theorem jx(h:CH P n w0 Q X D L e y):QH n w0 (Exit.then (y.wp P Q) Q) X D L e .normal:=fun F H hp=>PF.next (h F H hp)
theorem jtx{k:Act→World→Prop}{i:Nat}(h:QH n w0 Q X D L e (.exit i)):QH n w0 (Exit.then k Q) X D L e (.exit i):=fun F H hp=>PF.thenExit (h F H hp)
theorem jtr{k:Act→World→Prop}(h:QH n w0 Q X D L e .ret):QH n w0 (Exit.then k Q) X D L e .ret:=fun F H hp=>PF.thenRet (h F H hp)
theorem jb(h:CH P n w0 (Exit.inBlock id Q) X D L e x):CH P n w0 Q X D L e (.block id x):=fun F H hp=>CF.block (h F H hp)
theorem jbn(h:QH n w0 Q X D L e .normal):QH n w0 (Exit.inBlock id Q) X D L e .normal:=fun F H hp=>PF.blockNormal (h F H hp)
theorem jbr(h:QH n w0 Q X D L e .ret):QH n w0 (Exit.inBlock id Q) X D L e .ret:=fun F H hp=>PF.blockRet (h F H hp)
theorem jbh(h:QH n w0 Q X D L e .normal):QH n w0 (Exit.inBlock id Q) X D L e (.exit id):=fun F H hp=>PF.blockHere (h F H hp)
theorem jbo{i:Nat}(h:QH n w0 Q X D L e (.exit i))(hne:Nat.beq i id=false:=by rfl):QH n w0 (Exit.inBlock id Q) X D L e (.exit i):=fun F H hp=>PF.blockOther (h F H hp) hne
theorem jsk(h:QH n w0 Q X D L e .normal):CH P n w0 Q X D L e .skip:=fun F H hp=>CF.skip (h F H hp)
theorem jex(h:QH n w0 Q X D L e (.exit id)):CH P n w0 Q X D L e (.exit id):=fun F H hp=>CF.exit (h F H hp)
theorem jrt(h:QH n w0 Q X D L e .ret):CH P n w0 Q X D L e .ret:=fun F H hp=>CF.ret (h F H hp)
theorem jif{c:Operand}{b:Bool}{p q:Prop}(hc:ev e c=some (.bool b))[hb:BoolP b p q](ht:p→CH P n w0 Q X D L e x)(hf:q→CH P n w0 Q X D L e y):CH P n w0 Q X D L e (.cond c x y) :=
 fun F H hp=>CF.if hc (fun h=>ht h F H hp) (fun h=>hf h F H hp)
theorem jsc(h:CH P n w0 (Exit.noGoto Q) X D L e x):CH P n w0 Q X D L e (.scope x):=fun F H hp=>CF.scope (h F H hp)
theorem jso{z:Exit}(h:QH n w0 Q X D L e z)(hz:∀l, z ≠ .goto l:=by simp):QH n w0 (Exit.noGoto Q) X D L e z:=fun F H hp=>PF.scope (h F H hp) hz
theorem X8{l:Nat}(h:QH n w0 Q X D L e .normal):CH P n w0 Q X D L e (.label l):=fun F H hp=>CF.label (h F H hp)
@[reducible] def u2 {α0 α1 ρ:Type} (f:α0→α1→ρ) (x:α0×α1):ρ:=f x.1 x.2
@[reducible] def u3 {α0 α1 α2 ρ:Type} (f:α0→α1→α2→ρ) (x:α0×α1×α2):ρ:=f x.1 x.2.1 x.2.2
@[reducible] def u4 {α0 α1 α2 α3 ρ:Type} (f:α0→α1→α2→α3→ρ) (x:α0×α1×α2×α3):ρ:=f x.1 x.2.1 x.2.2.1 x.2.2.2
@[reducible] def u5 {α0 α1 α2 α3 α4 ρ:Type} (f:α0→α1→α2→α3→α4→ρ) (x:α0×α1×α2×α3×α4):ρ:=f x.1 x.2.1 x.2.2.1 x.2.2.2.1 x.2.2.2.2
@[reducible] def u6 {α0 α1 α2 α3 α4 α5 ρ:Type} (f:α0→α1→α2→α3→α4→α5→ρ) (x:α0×α1×α2×α3×α4×α5):ρ:=f x.1 x.2.1 x.2.2.1 x.2.2.2.1 x.2.2.2.2.1 x.2.2.2.2.2
@[reducible] def u7 {α0 α1 α2 α3 α4 α5 α6 ρ:Type} (f:α0→α1→α2→α3→α4→α5→α6→ρ) (x:α0×α1×α2×α3×α4×α5×α6):ρ:=f x.1 x.2.1 x.2.2.1 x.2.2.2.1 x.2.2.2.2.1 x.2.2.2.2.2.1 x.2.2.2.2.2.2
@[reducible] def u8 {α0 α1 α2 α3 α4 α5 α6 α7 ρ:Type} (f:α0→α1→α2→α3→α4→α5→α6→α7→ρ) (x:α0×α1×α2×α3×α4×α5×α6×α7):ρ:=f x.1 x.2.1 x.2.2.1 x.2.2.2.1 x.2.2.2.2.1 x.2.2.2.2.2.1 x.2.2.2.2.2.2.1 x.2.2.2.2.2.2.2
@[reducible] def u9 {α0 α1 α2 α3 α4 α5 α6 α7 α8 ρ:Type} (f:α0→α1→α2→α3→α4→α5→α6→α7→α8→ρ) (x:α0×α1×α2×α3×α4×α5×α6×α7×α8):ρ:=f x.1 x.2.1 x.2.2.1 x.2.2.2.1 x.2.2.2.2.1 x.2.2.2.2.2.1 x.2.2.2.2.2.2.1 x.2.2.2.2.2.2.2.1 x.2.2.2.2.2.2.2.2
@[reducible] def u10 {α0 α1 α2 α3 α4 α5 α6 α7 α8 α9 ρ:Type} (f:α0→α1→α2→α3→α4→α5→α6→α7→α8→α9→ρ) (x:α0×α1×α2×α3×α4×α5×α6×α7×α8×α9):ρ:=f x.1 x.2.1 x.2.2.1 x.2.2.2.1 x.2.2.2.2.1 x.2.2.2.2.2.1 x.2.2.2.2.2.2.1 x.2.2.2.2.2.2.2.1 x.2.2.2.2.2.2.2.2.1 x.2.2.2.2.2.2.2.2.2
@[reducible] def u11 {α0 α1 α2 α3 α4 α5 α6 α7 α8 α9 α10 ρ:Type} (f:α0→α1→α2→α3→α4→α5→α6→α7→α8→α9→α10→ρ) (x:α0×α1×α2×α3×α4×α5×α6×α7×α8×α9×α10):ρ:=f x.1 x.2.1 x.2.2.1 x.2.2.2.1 x.2.2.2.2.1 x.2.2.2.2.2.1 x.2.2.2.2.2.2.1 x.2.2.2.2.2.2.2.1 x.2.2.2.2.2.2.2.2.1 x.2.2.2.2.2.2.2.2.2.1 x.2.2.2.2.2.2.2.2.2.2
@[reducible] def u12 {α0 α1 α2 α3 α4 α5 α6 α7 α8 α9 α10 α11 ρ:Type} (f:α0→α1→α2→α3→α4→α5→α6→α7→α8→α9→α10→α11→ρ) (x:α0×α1×α2×α3×α4×α5×α6×α7×α8×α9×α10×α11):ρ:=f x.1 x.2.1 x.2.2.1 x.2.2.2.1 x.2.2.2.2.1 x.2.2.2.2.2.1 x.2.2.2.2.2.2.1 x.2.2.2.2.2.2.2.1 x.2.2.2.2.2.2.2.2.1 x.2.2.2.2.2.2.2.2.2.1 x.2.2.2.2.2.2.2.2.2.2.1 x.2.2.2.2.2.2.2.2.2.2.2
@[reducible] def u13 {α0 α1 α2 α3 α4 α5 α6 α7 α8 α9 α10 α11 α12 ρ:Type} (f:α0→α1→α2→α3→α4→α5→α6→α7→α8→α9→α10→α11→α12→ρ) (x:α0×α1×α2×α3×α4×α5×α6×α7×α8×α9×α10×α11×α12):ρ:=f x.1 x.2.1 x.2.2.1 x.2.2.2.1 x.2.2.2.2.1 x.2.2.2.2.2.1 x.2.2.2.2.2.2.1 x.2.2.2.2.2.2.2.1 x.2.2.2.2.2.2.2.2.1 x.2.2.2.2.2.2.2.2.2.1 x.2.2.2.2.2.2.2.2.2.2.1 x.2.2.2.2.2.2.2.2.2.2.2.1 x.2.2.2.2.2.2.2.2.2.2.2.2
@[reducible] def u14 {α0 α1 α2 α3 α4 α5 α6 α7 α8 α9 α10 α11 α12 α13 ρ:Type} (f:α0→α1→α2→α3→α4→α5→α6→α7→α8→α9→α10→α11→α12→α13→ρ) (x:α0×α1×α2×α3×α4×α5×α6×α7×α8×α9×α10×α11×α12×α13):ρ:=f x.1 x.2.1 x.2.2.1 x.2.2.2.1 x.2.2.2.2.1 x.2.2.2.2.2.1 x.2.2.2.2.2.2.1 x.2.2.2.2.2.2.2.1 x.2.2.2.2.2.2.2.2.1 x.2.2.2.2.2.2.2.2.2.1 x.2.2.2.2.2.2.2.2.2.2.1 x.2.2.2.2.2.2.2.2.2.2.2.1 x.2.2.2.2.2.2.2.2.2.2.2.2.1 x.2.2.2.2.2.2.2.2.2.2.2.2.2
@[reducible] def u15 {α0 α1 α2 α3 α4 α5 α6 α7 α8 α9 α10 α11 α12 α13 α14 ρ:Type} (f:α0→α1→α2→α3→α4→α5→α6→α7→α8→α9→α10→α11→α12→α13→α14→ρ) (x:α0×α1×α2×α3×α4×α5×α6×α7×α8×α9×α10×α11×α12×α13×α14):ρ:=f x.1 x.2.1 x.2.2.1 x.2.2.2.1 x.2.2.2.2.1 x.2.2.2.2.2.1 x.2.2.2.2.2.2.1 x.2.2.2.2.2.2.2.1 x.2.2.2.2.2.2.2.2.1 x.2.2.2.2.2.2.2.2.2.1 x.2.2.2.2.2.2.2.2.2.2.1 x.2.2.2.2.2.2.2.2.2.2.2.1 x.2.2.2.2.2.2.2.2.2.2.2.2.1 x.2.2.2.2.2.2.2.2.2.2.2.2.2.1 x.2.2.2.2.2.2.2.2.2.2.2.2.2.2
@[reducible] def u16 {α0 α1 α2 α3 α4 α5 α6 α7 α8 α9 α10 α11 α12 α13 α14 α15 ρ:Type} (f:α0→α1→α2→α3→α4→α5→α6→α7→α8→α9→α10→α11→α12→α13→α14→α15→ρ) (x:α0×α1×α2×α3×α4×α5×α6×α7×α8×α9×α10×α11×α12×α13×α14×α15):ρ:=f x.1 x.2.1 x.2.2.1 x.2.2.2.1 x.2.2.2.2.1 x.2.2.2.2.2.1 x.2.2.2.2.2.2.1 x.2.2.2.2.2.2.2.1 x.2.2.2.2.2.2.2.2.1 x.2.2.2.2.2.2.2.2.2.1 x.2.2.2.2.2.2.2.2.2.2.1 x.2.2.2.2.2.2.2.2.2.2.2.1 x.2.2.2.2.2.2.2.2.2.2.2.2.1 x.2.2.2.2.2.2.2.2.2.2.2.2.2.1 x.2.2.2.2.2.2.2.2.2.2.2.2.2.2.1 x.2.2.2.2.2.2.2.2.2.2.2.2.2.2.2
structure Lp where
 inv:Prop
 D:List Dt
 L:List Res
 env:Env
 mu:Nat
def Agn{ι:Type}(n:Fs)(w0:World)(X:Cx)(S:ι→Lp)(i:ι)(a:Act)(w:World):Prop :=
 ∃j F, (S j).inv∧Hp X (S j).D (S j).L F w.heap∧Fr n (S j).env a∧Wd w0 w.heap w∧(S j).mu<(S i).mu
theorem jlp{ι:Type}(S:ι→Lp)(i0:ι)(h0:(S i0).inv)(hd:Sd D L (S i0).D)(hl:Tks L (S i0).L M)(hs:Sub e (S i0).env)
  (round:∀i, (S i).inv→CH P n w0 (Exit.then (Agn n w0 X S i) Q) X (S i).D (S i).L (S i).env x):CH P n w0 Q X D L e (.loop x):=fun F H hp=>by
 refine CF.loop (ι:=ι) (fun i H=>(S i).inv∧∃F, Hp X (S i).D (S i).L F H) (fun i=>(S i).env) (fun i=>(S i).mu) i0 ⟨h0, F, hp.sub hd hl⟩ hs ?_
 rintro i H' ⟨hi, F', hp'⟩ a w hf hw
 refine Code.wp_mono ?_ (round i hi F' H' hp' a w hf hw)
 intro z a' w' hq
 cases z with
 | normal=>obtain⟨j, F2, h1, h2, h3, h4, h5⟩:=hq;exact⟨j, ⟨h1, F2, h2⟩, h3, h4, h5⟩
 | _=>exact hq
theorem jag{ι:Type}{S:ι→Lp}{i:ι}(j:ι)(hj:(S j).inv)(hd:Sd D L (S j).D)(hl:Tks L (S j).L M)(hs:Sub e (S j).env)(hm:(S j).mu<(S i).mu:=by dsimp only[u2, u3, u4, u5, u6, u7, u8, u9, u10, u11, u12, u13, u14, u15, u16];omega) :
  QH n w0 (Exit.then (Agn n w0 X S i) Q) X D L e .normal:=fun F H hp a w hf hw =>
 ⟨j, F, hj, hw.heap▸hp.sub hd hl, hf.sub hs, ⟨rfl, hw.os, hw.tape, hw.output⟩, hm⟩
structure Jn where
 inv:Prop
 D:List Dt
 L:List Res
 env:Env
def QJn{ι:Type}(n:Fs)(w0:World)(X:Cx)(S:ι→Jn)(Q:Exit→Act→World→Prop)(x:Exit)(a:Act)(w:World):Prop:=(x = .normal∧∃i F, (S i).inv∧Hp X (S i).D (S i).L F w.heap∧Fr n (S i).env a∧Wd w0 w.heap w)∨(x ≠ .normal∧Q x a w)
theorem jjo{ι:Type}(S:ι→Jn)(h:CH P n w0 (QJn n w0 X S Q) X D L e x)(k:∀i, (S i).inv→QH n w0 Q X (S i).D (S i).L (S i).env .normal):CH P n w0 Q X D L e x:=fun F H hp a w hf hw =>
 Code.wp_mono (fun _ _ _ h9=>h9.elim (fun⟨h1, i, F', h2, h3, h4, h5⟩=>h1▸k i h2 F' _ h3 _ _ h4 h5) (fun h=>h.2)) (h F H hp a w hf hw)
theorem jje{ι:Type}{S:ι→Jn}(i:ι)(hi:(S i).inv)(hd:Sd D L (S i).D)(hl:Tks L (S i).L M)(hs:Sub e (S i).env):QH n w0 (QJn n w0 X S Q) X D L e .normal:=fun F H hp a w hf hw =>
 .inl ⟨rfl, i, F, hi, hw.heap▸hp.sub hd hl, hf.sub hs, ⟨rfl, hw.os, hw.tape, hw.output⟩⟩
theorem jjr{ι:Type}{S:ι→Jn}{z:Exit}(h:QH n w0 Q X D L e z)(hz:z ≠ .normal:=by simp):QH n w0 (QJn n w0 X S Q) X D L e z:=fun F H hp a w hf hw => .inr ⟨hz, h F H hp a w hf hw⟩
end
def Tr(P:Program)(f:FuncId)(args:Array Value)(D0:List Dt)(L0:List Res){ι:Type}(val:ι→Value)(dr:ι→List Dt)(lr:Nat→ι→List Res):Prop :=
 ∀F H, InH F H→AllD F D0→Ok F H L0→Ct P f args H (fun v H'=>∃i F', v=val i∧∀B, B≤H.size→Hp ⟨Own L0, H, F⟩ (dr i) (lr B i) F' H')
section
variable{f:FuncId}{fn:Func}{c:Code}{args:List Value}{D0:List Dt}{L0:List Res}{ι:Type}{val:ι→Value}{dr:ι→List Dt}{lr:Nat→ι→List Res}
def RQ2(P:Program)(fn:Func)(w0:World)(X:Cx){ι:Type}(val:ι→Value)(dr:ι→List Dt)(lr:Nat→ι→List Res):Exit→Act→World→Prop:=BQ P fn w0 (fun v H'=>∃i F', v=val i∧∀B, B≤X.n→Hp X (dr i) (lr B i) F' H')
theorem Az{m:Nat}(hf:P.funcs[f]? = some fn)(hb:fn.body=some c)(hn:fn.ntmps=m)(ha:Nat.ble args.length m=true)
  (h:∀(w0:World) (X:Cx), CH P ⟨m, []⟩ w0 (RQ2 P fn w0 X val dr lr) X D0 L0 (Gv 0 args) c):Tr P f args.toArray D0 L0 val dr lr:=fun F H hin hd ho =>
 Ct.enter hf hb hn ha fun w0 hw=>h w0 ⟨Own L0, H, F⟩ F H ⟨PH.ext.refl F, hin, Kw.refl _ _, hd, ho, fun k hk => .inr hk⟩
end
end Go.JE
namespace Go.JE
variable{P:Program}{D:List Dt}{L M:List Res}{e:Env}
def dv{α:Type}(r:Rp α)(v:Value)(a:α):Dt:=⟨fun F=>r.rv F v a,fun hl h=>Rp.rv.up h hl⟩
def da{α:Type}(r:Rp α)(v:Value)(a:α):Dt:=⟨fun F=>r.ra F v a,fun hl h=>Rp.ra.up h hl⟩
def ad{α:Type}(r:Rp α)(b o:Nat)(a:α):Dt:=⟨fun F=>At F r b o a,fun hl h=>At.up h hl⟩
def Sv(v:Value):Prop:=∃a n c,v = .slice a n c
theorem Sv.one{v:Value}(h:Sv v):v.oneCell'=true:=by obtain⟨_,_,_,rfl⟩:=h;rfl
theorem Sv.cells{v:Value}(h:Sv v):v.cells=[v].toArray:=BR h.one
theorem Gl.sv{α:Type}{r:Rp α}{T:TypeId}{F:PH}{H:Heap}{B:Nat}{v:Value}{l:List α}(h:Gl r T F H B v l):Sv v:=by obtain⟨xs,h1,_⟩:=h;obtain⟨a,c,e⟩:=h1.len;exact⟨a,_,c,e⟩
theorem dv1{α:Type}{r:Rp α}{v:Value}{l:List α}{N:Nat}{F:PH}(h:(dv (rLn N r) v l).sat F):Sv v:=by obtain⟨_,a,c,e,_⟩:=h;exact⟨a,_,c,e⟩
def bx(g:Nat)(T:TypeId)(cs:List Value):Res where
 sat F H:=Bx H g T cs∧F g=none
 own k:=k=g
 lt:=fun h e=>e▸h.1.lt
 no:=fun h e=>e▸h.2
 st:=fun _ _ h1 h2 h=>⟨h.1.of (h2 g rfl),h1 g rfl⟩
def gl{α:Type}(B:Nat)(r:Rp α)(T:TypeId)(v:Value)(l:List α):Res where
 sat F H:=Gl r T F H B v l∧B≤H.size
 own k:=v.ownBlock=some k
 lt:=fun h e=>h.1.lt _ e
 no:=fun h e=>h.1.no _ e
 st:=fun hl hs h1 h2 h=>by
  obtain⟨⟨xs,a,b,c⟩,hB⟩:=h
  exact⟨⟨xs,a.of h2,h1,fun i hi=>Rp.up _ hl (c i hi)⟩,Nat.le_trans hB hs⟩
def Wr(D:List Dt)(L:List Res)(k:IntKind)(n:Int):Prop:=Nd D L ⟨fun _=>k.wrap n=n,fun _ h=>h⟩
abbrev Qn(N n:Nat):Prop:=n<N∧n≤9223372036854775807
section
variable{α β:Type}{r:Rp α}{v:Value}{a:α}{l:List α}{b o N B:Nat}{k:IntKind}{m:Int}
theorem wp(h:k.wrap m=m):Wr D L k m:=fun _ _ _ _ _=>h
theorem wl(m:Int)(h:k.wrap m=m:=by decide):Wr D L k m:=wp h
theorem U8{n:Nat}{a:α}:(List.replicate n a).length=n:=List.length_replicate
theorem wad(h:Nd D L (ad (rI k) b o m)):Wr D L k m:=fun F H x y z=>At.wr (h F H x y z)
theorem wgl{E:TypeId}{l:List Int}{i:Nat}(hk:Tk L (gl B (rI k) E v l) M)(hi:i<l.length):Wr D L k (ix l i):=fun F H _ _ z=>Gl.wr (hk.ok z).1.1 hi
theorem wI(h:Wr D L k m):Nd D L (dv (rI k) (.int k m) m):=fun F H x y z=>⟨rfl,h F H x y z⟩
theorem wB{b:Bool}:Nd D L (dv rB (.bool b) b):=fun _ _ _ _ _=>rfl
theorem wN:Nd D L (dv (rL r) (.slice none 0 0) []):=fun F _ _ _ _=>rL.nil F
theorem dix[Inhabited α]{l:List α}(h:Nd D L (dv (rLn N r) v l))(i:Nat)(hi:i<l.length):Nd D L (ad r (Cb v) (Ca v+i*r.sz) (ix l i)):=fun F H x y z=>rL.ix (h F H x y z) i hi
theorem dhi(h:Nd D L (dv (rLn N r) v l))(hi:Nat)(h2:hi≤l.length)(h3:hi<1073741824):Nd D L (dv (rL r) (resl r.sz v 0 hi) (l.take hi)):=fun F H x y z=>rL.hi (h F H x y z) hi h2 h3
theorem dlo(h:Nd D L (dv (rLn N r) v l))(lo:Nat)(h2:lo≤l.length)(h3:l.length-lo<1073741824):Nd D L (dv (rL r) (resl r.sz v lo l.length) (l.drop lo)):=fun F H x y z=>rL.lo (h F H x y z) lo h2 h3
theorem BF{a':α}(e:a'=a)(h:Nd D L (dv r v a)):Nd D L (dv r v a'):=e▸h
theorem kcg{E:TypeId}{Ls M':List Res}{l':List α}(e:l'=l)(h:Tk L (gl B r E v l) M)(h':Tks M Ls M'):Tks L (gl B r E v l'::Ls) M':=e▸kc h h'
theorem kcb{g:Nat}{T:TypeId}{cs cs':List Value}{Ls M':List Res}(e:cs'=cs)(h:Tk L (bx g T cs) M)(h':Tks M Ls M'):Tks L (bx g T cs'::Ls) M':=e▸kc h h'
end
section
variable{T T':TypeId}{x y z:Operand}{k k':IntKind}{m n r:Int}{b b2 C:Bool}{u v w:Value}
theorem jmv(hx:ev e x=some v):OH P D L e (.move x) v:=fun _ _ _ _ _=>Aa.move hx
theorem jas(hx:ev e x=some v):OH P D L e (.assign x) v:=fun _ _ _ _ _=>Aa.assign hx
theorem Cf(hc:ev e z=some (.bool b))(hx:ev e x=some (gv b (.bool b2))):OH P D L e (.pick z x (.const (.bool false))) (.bool (b&&b2)):=fun _ _ _ _ _=>Aa.pickAnd hc hx
theorem jor(hc:ev e z=some (.bool b))(hx:ev e x=some (gv (!b) (.bool b2))):OH P D L e (.pick z (.const (.bool true)) x) (.bool (b||b2)):=fun _ _ _ _ _=>Aa.pickOr hc hx
theorem Um(hC:C=true)(hc:ev e z=some (gv C (.bool b)))(hx:ev e x=some (gv (C&&b) (.bool b2))):OH P D L e (.pick z x (.const (.bool false))) (.bool (b&&b2)):=fun _ _ _ _ _=>Aa.pickAnd2 hC hc hx
theorem Rd(hC:C=true)(hc:ev e z=some (gv C (.bool b)))(hx:ev e x=some (gv (C&&!b) (.bool b2))):OH P D L e (.pick z (.const (.bool true)) x) (.bool (b||b2)):=fun _ _ _ _ _=>Aa.pickOr2 hC hc hx
theorem Dq(hx:ev e x=some (.bool b)):OH P D L e (.unOp .not T x) (.bool (!b)):=fun _ _ _ _ _=>Aa.not hx
theorem NG(hx:ev e x=some (.int k m)):OH P D L e (.unOp .neg T x) (.int k (k.wrap (0-m))):=fun _ _ _ _ _=>Aa.neg hx rfl
theorem Bs{vs:Array Value}{i:Nat}(hx:ev e x=some (.tuple vs))(hi:vs[i]? = some v):OH P D L e (.extract x i) v:=fun _ _ _ _ _=>Aa.extract hx hi
theorem Ak{a:Addr}(hx:ev e x=some (.pointer (some a))):OH P D L e (.nilCheck x) (.pointer (some a)):=fun _ _ _ _ _=>Aa.nilCheck hx
theorem Al(hx:ev e x=some (.int .i64 m))(hy:ev e y=some (.int .i64 n))(hr:-9223372036854775808≤m+n∧m+n≤9223372036854775807):OH P D L e (.binOp .add T x y T') (.int .i64 (m+n)):=fun _ _ _ _ _=>Aa.add hx hy hr
theorem Gw(hx:ev e x=some (.int .i64 m))(hy:ev e y=some (.int .i64 n))(hr:-9223372036854775808≤m-n∧m-n≤9223372036854775807):OH P D L e (.binOp .sub T x y T') (.int .i64 (m-n)):=fun _ _ _ _ _=>Aa.sub hx hy hr
theorem Ya(hx:ev e x=some (.int .i64 m))(hy:ev e y=some (.int .i64 n))(hr:-9223372036854775808≤m*n∧m*n≤9223372036854775807):OH P D L e (.binOp .mul T x y T') (.int .i64 (m*n)):=fun _ _ _ _ _=>Aa.mul hx hy hr
theorem Nx(hx:ev e x=some (.int k m))(hy:ev e y=some (.int k n)):OH P D L e (.binOp .add T x y T') (.int k (k.wrap (m+n))):=fun _ _ _ _ _=>Aa.addw hx hy rfl
theorem X0(hx:ev e x=some (.int k m))(hy:ev e y=some (.int k n)):OH P D L e (.binOp .sub T x y T') (.int k (k.wrap (m-n))):=fun _ _ _ _ _=>Aa.subw hx hy rfl
theorem X7(hx:ev e x=some (.int k m))(hy:ev e y=some (.int k n)):OH P D L e (.binOp .mul T x y T') (.int k (k.wrap (m*n))):=fun _ _ _ _ _=>Aa.mulw hx hy rfl
theorem Gi(hx:ev e x=some (.int k m))(hy:ev e y=some (.int k n))(h0:n≠0):OH P D L e (.binOp .rem T x y T') (.int k (m.tmod n)):=fun _ _ _ _ _=>Aa.rem hx hy h0
theorem X5(hx:ev e x=some (.int k m))(hy:ev e y=some (.int k n))(h0:n≠0):OH P D L e (.binOp .quo T x y T') (.int k (k.wrap (m.tdiv n))):=fun _ _ _ _ _=>Aa.quow hx hy h0 rfl
theorem Ar(hx:ev e x=some (.int k m))(hy:ev e y=some (.int k n)):OH P D L e (.binOp .lss T x y T') (.bool (decide (m<n))):=fun _ _ _ _ _=>Aa.lss hx hy
theorem Nv(hx:ev e x=some (.int k m))(hy:ev e y=some (.int k n)):OH P D L e (.binOp .leq T x y T') (.bool (decide (m≤n))):=fun _ _ _ _ _=>Aa.leq hx hy
theorem Ee(hx:ev e x=some (.int k m))(hy:ev e y=some (.int k n)):OH P D L e (.binOp .gtr T x y T') (.bool (decide (n<m))):=fun _ _ _ _ _=>Aa.gtr hx hy
theorem Gj(hx:ev e x=some (.int k m))(hy:ev e y=some (.int k n)):OH P D L e (.binOp .geq T x y T') (.bool (decide (n≤m))):=fun _ _ _ _ _=>Aa.geq hx hy
theorem Ao(hx:ev e x=some (.int k m))(hy:ev e y=some (.int k n)):OH P D L e (.binOp .eql T x y T') (.bool (decide (m=n))):=fun _ _ _ _ _=>Aa.eql hx hy
theorem Ga(hx:ev e x=some (.int k m))(hy:ev e y=some (.int k n)):OH P D L e (.binOp .neq T x y T') (.bool (!decide (m=n))):=fun _ _ _ _ _=>Aa.neq hx hy
theorem Yd(hx:ev e x=some (.int k m))(hy:ev e y=some (.int k n)):OH P D L e (.binOp .and T x y T') (.int k (Mg k m n)):=fun _ _ _ _ _=>Aa.andw hx hy
theorem X6(hx:ev e x=some (.int k m))(hy:ev e y=some (.int k n)):OH P D L e (.binOp .or T x y T') (.int k (orI k m n)):=fun _ _ _ _ _=>Aa.orw hx hy
theorem W8(hx:ev e x=some (.int k m))(hy:ev e y=some (.int k n)):OH P D L e (.binOp .xor T x y T') (.int k (Sf k m n)):=fun _ _ _ _ _=>Aa.xorw hx hy
theorem X3(hx:ev e x=some (.int k m))(hy:ev e y=some (.int k' n))(h0:0≤n):OH P D L e (.binOp .shl T x y T') (.int k (Mj k m n)):=fun _ _ _ _ _=>Aa.shlw hx hy h0
theorem Po(hx:ev e x=some (.int k m))(hy:ev e y=some (.int k' n))(h0:0≤n):OH P D L e (.binOp .shr T x y T') (.int k (Hm k m n)):=fun _ _ _ _ _=>Aa.shrw hx hy h0
theorem NS{ps rs:Array TypeId}{vr:Bool}{fn:Fn}{a1 a2:Array Value}(hT:P.underlying T=some (.func ps rs vr))(hx:ev e x=some (.func fn a1 a2))(hy:ev e y=some .nilFunc):OH P D L e (.binOp .eql T x y T') (.bool false):=fun _ _ _ _ _=>Aa.eqlF hT hx hy
theorem NR{ps rs:Array TypeId}{vr:Bool}(hT:P.underlying T=some (.func ps rs vr))(hx:ev e x=some .nilFunc)(hy:ev e y=some .nilFunc):OH P D L e (.binOp .eql T x y T') (.bool true):=fun _ _ _ _ _=>Aa.eqlN hT hx hy
theorem Lo{ts:Array TypeId}(hx:ev e x=some (.int k m))(hy:ev e y=some (.int k n)):OH P D L e (.call { callee := .builtin .min,args:=#[x,y],argTypes:=ts }) (.int k (Min.min m n)):=fun _ _ _ _ _=>Aa.min3 hx hy
theorem Yb{ts:Array TypeId}(hx:ev e x=some (.int k m))(hy:ev e y=some (.int k n)):OH P D L e (.call { callee := .builtin .max,args:=#[x,y],argTypes:=ts }) (.int k (Max.max m n)):=fun _ _ _ _ _=>Aa.max3 hx hy
theorem jco{S:TypeId}{d}(hs:P.underlying S=some d)(hd:P.underlying T=some (.int k'))(hx:ev e x=some (.int k m))(hk:k'.wrap m=r):OH P D L e (.convert S T x) (.int k' r):=fun _ _ _ _ _=>Aa.convI hs hd hx hk
theorem Uj{fn:Fn}(hx:ev e x=some u):OH P D L e (.makeFunc fn #[] #[x]) (.func fn #[] #[u]):=fun _ _ _ _ _=>Aa.makeFunc1 hx
theorem Ik{fn:Fn}(hx:ev e x=some u)(hy:ev e y=some v):OH P D L e (.makeFunc fn #[] #[x,y]) (.func fn #[] #[u,v]):=fun _ _ _ _ _=>Aa.makeFunc2 hx hy
theorem NL{fn:Fn}(hx:ev e x=some u)(hy:ev e y=some v)(hz:ev e z=some w):OH P D L e (.makeFunc fn #[] #[x,y,z]) (.func fn #[] #[u,v,w]):=fun _ _ _ _ _=>Aa.makeFunc3 hx hy hz
theorem NJ{fn:Fn}{x1 x2 x3 x4:Operand}{v1 v2 v3 v4:Value}(h1:ev e x1=some v1)(h2:ev e x2=some v2)(h3:ev e x3=some v3)(h4:ev e x4=some v4):OH P D L e (.makeFunc fn #[] #[x1,x2,x3,x4]) (.func fn #[] #[v1,v2,v3,v4]):=fun _ _ _ _ _=>Aa.makeFunc4 h1 h2 h3 h4
theorem jf{i off b o:Nat}(hF:Fld P T i off)(hx:ev e x=some (.pointer (some ⟨b,o,none⟩))):OH P D L e (.fieldAddr T x i) (.pointer (some ⟨b,o+off,none⟩)):=fun _ _ _ _ _=>Aa.fieldAddr hF hx
theorem Nw{E:TypeId}{b o len s i:Nat}{I:Int}(hT:P.underlying T=some (.array len E))(hE:Sz P E s)(hx:ev e x=some (.pointer (some ⟨b,o,none⟩)))(hi:ev e y=some (.int k I))(hI:I=i)(h1:i<len):OH P D L e (.indexAddr T x y) (.pointer (some ⟨b,o+i*s,none⟩)):=fun _ _ _ _ _=>Aa.indexArr hT hE hx hi hI h1
theorem jfo{i off:Nat}{cs:Array Value}{t:TypeId}(hF:∃fs f,P.underlying T=some (.struct fs)∧fs[i]? = some f∧f.offset=off∧f.type=t)(ht:One P t)(hx:ev e x=some (.agg cs))(hv:cs[off]? = some v):OH P D L e (.field T x i) v:=fun _ _ _ _ _=>Aa.fieldOne hF ht hx hv
theorem jbu{l:List (Nat×Operand)}{r:List (Nat×Value)}(hl:evs e l=some r)(hb:∀w,(Instr.build T r.toArray).run P w = .ok v w):OH P D L e (.build T l.toArray) v:=fun _ _ _ _ _=>Aa.build hl hb
end
section
variable{T:TypeId}{T':TypeId}{x:Operand}{g o m:Nat}{cs ds:List Value}{v:Value}
theorem jl(hk:Tk L (bx g T cs) M)(hT:One P T')(hx:ev e x=some (.pointer (some ⟨g,o,none⟩)))(hl:cs[o]? = some v):OH P D L e (.load T' x) v:=fun F H _ _ h=>Aa.ldBx (hk.ok h).1.1 hT hx hl
theorem jla(hk:Tk L (bx g T cs) M)(hT:∃d,P.underlying T'=some d∧(match d with | .struct _ | .array _ _=>true|_=>false)=true)(hS:Sz P T' m)(hx:ev e x=some (.pointer (some ⟨g,o,none⟩)))(hl:(cs.drop o).take m=ds)(hm:ds.length=m):OH P D L e (.load T' x) (.agg ds.toArray):=fun F H _ _ h=>Aa.ldBxA (hk.ok h).1.1 hT hS hx hl hm
theorem jli{k:IntKind}{l:List Int}{i:Nat}(hk:Tk L (bx g T (l.map (Value.int k))) M)(hi:i<l.length)(ho:o=i)(hT:One P T')(hx:ev e x=some (.pointer (some ⟨g,o,none⟩))):OH P D L e (.load T' x) (.int k (ix l i)):=fun F H _ _ h=>Aa.ldBxI (hk.ok h).1.1 hi ho hT hx
end
section
variable{α:Type}{r:Rp α}{v:Value}{l:List α}{B:Nat}{T E:TypeId}{x y:Operand}{k k':IntKind}{i N b o:Nat}{I m:Int}{a:α}
theorem jln(hT:P.underlying T=some (.slice E))(hs:Nd D L (dv (rLn N r) v l))(hx:ev e x=some v):OH P D L e (.call { callee := .builtin .len,args:=#[x],argTypes:=#[T] }) (.int .i64 (l.length:Nat)):=fun F H a b c=>Aa.lenL hT (hs F H a b c) hx
theorem jix(hT:P.underlying T=some (.slice E))(hE:Sz P E r.sz)(hs:Nd D L (dv (rLn N r) v l))(hx:ev e x=some v)(hi:ev e y=some (.int k I))(hI:I=i)(h1:i<l.length)(hsz:0<r.sz:=by exact Nat.le_of_ble_eq_true rfl):OH P D L e (.indexAddr T x y) (.pointer (some ⟨Cb v,Ca v+i*r.sz,none⟩)):=fun F H a b c=>Aa.idxL hT hE (hs F H a b c) hx hi hI h1 hsz
theorem jlI(hat:Nd D L (ad (rI k) b o m))(hT:One P T)(hx:ev e x=some (.pointer (some ⟨b,o,none⟩))):OH P D L e (.load T x) (.int k m):=fun F H a b c=>Aa.ldI a (hat F H a b c) hT hx
theorem jlB{m:Bool}(hat:Nd D L (ad rB b o m))(hT:One P T)(hx:ev e x=some (.pointer (some ⟨b,o,none⟩))):OH P D L e (.load T x) (.bool m):=fun F H a b c=>Aa.ldB a (hat F H a b c) hT hx
theorem jlV(hat:Nd D L (ad r b o a))(hT:One P T)(hS:r.sz=1)(hx:ev e x=some (.pointer (some ⟨b,o,none⟩))):OE P D L e (.load T x) (fun v F=>(dv r v a).sat F):=fun F H h1 h2 h3=>Aa.ldV h1 (hat F H h1 h2 h3) hT hS hx
theorem jlA(hat:Nd D L (ad r b o a))(hT:Ag9 P T)(hS:Sz P T r.sz)(hx:ev e x=some (.pointer (some ⟨b,o,none⟩))):OE P D L e (.load T x) (fun v F=>(da r v a).sat F):=fun F H h1 h2 h3=>Aa.ldA h1 (hat F H h1 h2 h3) hT hS hx
theorem Rb{z:Operand}{J:Int}{hi:Nat}(hT:P.underlying T=some (.slice E))(hE:Sz P E r.sz)(hs:Nd D L (dv (rLn N r) v l))(hx:ev e x=some v)(hh:ev e z=some (.int k' J))(hJ:J=hi)(h2:hi≤l.length):OH P D L e (.slice T x none (some z) none) (resl r.sz v 0 hi):=fun F H a b c=>Aa.sliceHiL hT hE (hs F H a b c) a hx hh hJ h2
theorem Kt{z:Operand}{J:Int}{lo:Nat}(hT:P.underlying T=some (.slice E))(hE:Sz P E r.sz)(hs:Nd D L (dv (rLn N r) v l))(hx:ev e x=some v)(hh:ev e z=some (.int k' J))(hJ:J=lo)(h2:lo≤l.length):OH P D L e (.slice T x (some z) none none) (resl r.sz v lo l.length):=fun F H a b c=>Aa.sliceLoL hT hE (hs F H a b c) a hx hh hJ h2
end
section
variable{α:Type} [Inhabited α]{r:Rp α}{v:Value}{l:List α}{B:Nat}{T E:TypeId}{x y:Operand}{k k':IntKind}{i N b o:Nat}{I m:Int}{a:α}
omit [Inhabited α] in
theorem jlg(hT:P.underlying T=some (.slice E))(hk:Tk L (gl B r E v l) M)(hx:ev e x=some v):OH P D L e (.call { callee := .builtin .len,args:=#[x],argTypes:=#[T] }) (.int .i64 (l.length:Nat)):=fun F H _ _ h=>Aa.lenG hT (hk.ok h).1.1 hx
omit [Inhabited α] in
theorem jig(hT:P.underlying T=some (.slice E))(hE:Sz P E r.sz)(hk:Tk L (gl B r E v l) M)(hx:ev e x=some v)(hi:ev e y=some (.int k I))(hI:I=i)(h1:i<l.length)(hsz:0<r.sz:=by exact Nat.le_of_ble_eq_true rfl):OH P D L e (.indexAddr T x y) (.pointer (some ⟨Cb v,Ca v+i*r.sz,none⟩)):=fun F H _ _ h=>Aa.idxG hT hE (hk.ok h).1.1 hx hi hI h1 hsz
theorem jgI{l:List Int}(hk:Tk L (gl B (rI k) E v l) M)(hi:i<l.length)(hT:One P T)(hx:ev e x=some (.pointer (some ⟨Cb v,Ca v+i*1,none⟩))):OH P D L e (.load T x) (.int k (ix l i)):=fun F H _ _ h=>Aa.ldGI (hk.ok h).1.1 hi hT hx
theorem jgB{l:List Bool}(hk:Tk L (gl B rB E v l) M)(hi:i<l.length)(hT:One P T)(hx:ev e x=some (.pointer (some ⟨Cb v,Ca v+i*1,none⟩))):OH P D L e (.load T x) (.bool (ix l i)):=fun F H _ _ h=>Aa.ldGB (hk.ok h).1.1 hi hT hx
theorem jgV(hk:Tk L (gl B r E v l) M)(hi:i<l.length)(hT:One P T)(hs:r.sz=1)(hx:ev e x=some (.pointer (some ⟨Cb v,Ca v+i*1,none⟩))):OE P D L e (.load T x) (fun u F=>(dv r u (ix l i)).sat F):=fun F H _ _ h=>Aa.ldGV (hk.ok h).1.1 hi hT hs hx
theorem jgA(hk:Tk L (gl B r E v l) M)(hi:i<l.length)(hT:Ag9 P T)(hS:Sz P T r.sz)(hx:ev e x=some (.pointer (some ⟨Cb v,Ca v+i*r.sz,none⟩))):OE P D L e (.load T x) (fun u F=>(da r u (ix l i)).sat F):=fun F H _ _ h=>Aa.ldGA (hk.ok h).1.1 hi hT hS hx
omit [Inhabited α] in
theorem X4{z:Operand}{J:Int}{hi:Nat}(hT:P.underlying T=some (.slice E))(hE:Sz P E r.sz)(hk:Tk L (gl B r E v l) M)(hx:ev e x=some v)(hh:ev e z=some (.int k' J))(hJ:J=hi)(h2:hi≤l.length):OH P D L e (.slice T x none (some z) none) (resl r.sz v 0 hi):=fun F H _ _ h=>Aa.sliceHiG hT hE (hk.ok h).1.1 hx hh hJ h2
end
section
variable{n:Fs}{w0:World}{Q:Exit→Act→World→Prop}{X:Cx}{ops:Array Oper}{op:Op}{d:Nat}{ty:TypeId}{pos:String}{af:Array Edge}{rest:List Oper}{K:Act→World→Prop}{α:Type}{r:Rp α}{l:List α}{N:Nat}
theorem jev(h:OE P D L e op (fun v F=>(dv (rLn N r) v l).sat F))(k:∀v,Qn N l.length→Sv v→LH P n w0 ops Q X (dv (rLn N r) v l::D) L ((d,v)::e) rest)(hd:Nat.blt d n.sz=true:=by rfl):LH P n w0 ops Q X D L e (⟨some d,op,ty,pos,af,none⟩::rest) :=
 fun F H hp=>by
  obtain⟨v,h1,h2⟩:=h F H hp.hin hp.hd hp.ok
  exact LF.step h1 (k v h2.1 (dv1 h2) F H (hp.datum h2)) hd
theorem jtv(h:OE P D L e op (fun v F=>(dv (rLn N r) v l).sat F))(k:∀v,Qn N l.length→Sv v→SH P n w0 ops K X (dv (rLn N r) v l::D) L ((d,v)::e) rest)(hd:Nat.blt d n.sz=true:=by rfl):SH P n w0 ops K X D L e (⟨some d,op,ty,pos,af,none⟩::rest) :=
 fun F H hp=>by
  obtain⟨v,h1,h2⟩:=h F H hp.hin hp.hd hp.ok
  exact LS.step h1 (k v h2.1 (dv1 h2) F H (hp.datum h2)) hd
variable{v:Value}{c:Code}{p:Prop}
theorem jdq(h:Nd D L (dv (rLn N r) v l))(k:Qn N l.length→Sv v→LH P n w0 ops Q X D L e rest):LH P n w0 ops Q X D L e rest:=fun F H hp=>by
 have h1:=h F H hp.hin hp.hd hp.ok;exact k h1.1 (dv1 h1) F H hp
theorem cdq(h:Nd D L (dv (rLn N r) v l))(k:Qn N l.length→Sv v→CH P n w0 Q X D L e c):CH P n w0 Q X D L e c:=fun F H hp=>by
 have h1:=h F H hp.hin hp.hd hp.ok;exact k h1.1 (dv1 h1) F H hp
theorem jwr{k:IntKind}{m:Int}(h:Wr D L k m)(K:k.wrap m=m→LH P n w0 ops Q X D L e rest):LH P n w0 ops Q X D L e rest:=fun F H hp=>K (h F H hp.hin hp.hd hp.ok) F H hp
theorem cwr{k:IntKind}{m:Int}(h:Wr D L k m)(K:k.wrap m=m→CH P n w0 Q X D L e c):CH P n w0 Q X D L e c:=fun F H hp=>K (h F H hp.hin hp.hd hp.ok) F H hp
theorem jgo{α:Type}{r:Rp α}{B:Nat}{E:TypeId}{l:List α}(hk:Tk L (gl B r E v l) M)(K:Sv v→LH P n w0 ops Q X D L e rest):LH P n w0 ops Q X D L e rest:=fun F H hp=>K (Gl.sv (hp.at hk).1) F H hp
theorem cgo{α:Type}{r:Rp α}{B:Nat}{E:TypeId}{l:List α}(hk:Tk L (gl B r E v l) M)(K:Sv v→CH P n w0 Q X D L e c):CH P n w0 Q X D L e c:=fun F H hp=>K (Gl.sv (hp.at hk).1) F H hp
theorem qgo{α:Type}{r:Rp α}{B:Nat}{E:TypeId}{l:List α}{z:Exit}(hk:Tk L (gl B r E v l) M)(K:Sv v→QH n w0 Q X D L e z):QH n w0 Q X D L e z:=fun F H hp=>K (Gl.sv (hp.at hk).1) F H hp
theorem tdq(h:Nd D L (dv (rLn N r) v l))(k:Qn N l.length→Sv v→SH P n w0 ops K X D L e rest):SH P n w0 ops K X D L e rest:=fun F H hp=>by
 have h1:=h F H hp.hin hp.hd hp.ok;exact k h1.1 (dv1 h1) F H hp
theorem qdq{x:Exit}(h:Nd D L (dv (rLn N r) v l))(k:Qn N l.length→Sv v→QH n w0 Q X D L e x):QH n w0 Q X D L e x:=fun F H hp=>by
 have h1:=h F H hp.hin hp.hd hp.ok;exact k h1.1 (dv1 h1) F H hp
theorem qwr{k:IntKind}{m:Int}{x:Exit}(h:Wr D L k m)(k':k.wrap m=m→QH n w0 Q X D L e x):QH n w0 Q X D L e x:=fun F H hp=>k' (h F H hp.hin hp.hd hp.ok) F H hp
end
end Go.JE
