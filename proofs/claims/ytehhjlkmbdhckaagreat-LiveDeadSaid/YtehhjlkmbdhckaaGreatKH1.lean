/- Lemmas that the claim is made of. Conditions: each lemma names its own. -/
import Derived.Test.YtehhjlkmbdhckaaGreatKH0
import Derived.Test.YtehhjlkmbdhckaaGreatRows
set_option linter.unusedSectionVars false
set_option linter.unusedSimpArgs false
set_option linter.unusedVariables false
namespace Go.JE
universe u
theorem Z{α:Sort u}{a:α}:a=a:=rfl
structure Dt where
 sat:PH→Prop
 up:∀{F G:PH}, F.le G→sat F→sat G
structure Res where
 sat:PH→Heap→Prop
 own:Nat→Prop
 lt:∀{F:PH} {H:Heap} {k:Nat}, sat F H→own k→k<H.size
 no:∀{F:PH} {H:Heap} {k:Nat}, sat F H→own k→F k=none
 st:∀{F G:PH} {H H':Heap}, F.le G→H.size≤H'.size→(∀k, own k→G k=none)→(∀k, own k→H'[k]? = H[k]?)→sat F H→sat G H'
def AllD(F:PH):List Dt→Prop
 | []=>True
 | d::D=>d.sat F∧AllD F D
def Own:List Res→Nat→Prop
 | [], _=>False
 | R::L, k=>R.own k∨Own L k
def Ok(F:PH)(H:Heap):List Res→Prop
 | []=>True
 | R::L=>R.sat F H∧(∀k, R.own k→¬Own L k)∧Ok F H L
section
variable{F G:PH}{H H':Heap}{D E:List Dt}{d:Dt}{L M Ls N:List Res}{R A:Res}{k:Nat}
theorem AllD.up:∀{D:List Dt}, F.le G→AllD F D→AllD G D
 | [], _, _=>trivial
 | _::_, h, ⟨h1, h2⟩=>⟨Dt.up _ h h1, AllD.up h h2⟩
theorem AllD.app:∀{D:List Dt}, AllD F D→AllD F E→AllD F (D++E)
 | [], _, h=>h
 | _::_, ⟨h1, h2⟩, h=>⟨h1, AllD.app h2 h⟩
theorem Ok.lt:∀{L:List Res}, Ok F H L→Own L k→k<H.size
 | _::_, h, .inl ho=>Res.lt _ h.1 ho
 | _::_, h, .inr ho=>Ok.lt h.2.2 ho
theorem Ok.no:∀{L:List Res}, Ok F H L→Own L k→F k=none
 | _::_, h, .inl ho=>Res.no _ h.1 ho
 | _::_, h, .inr ho=>Ok.no h.2.2 ho
theorem Ok.st:∀{L:List Res}, F.le G→H.size≤H'.size→(∀k, Own L k→G k=none)→(∀k, Own L k→H'[k]? = H[k]?)→Ok F H L→Ok G H' L
 | [], _, _, _, _, _=>trivial
 | _::_, h, h0, h1, h2, ⟨a, b, c⟩=>⟨Res.st _ h h0 (fun k hk=>h1 k (.inl hk)) (fun k hk=>h2 k (.inl hk)) a, b, Ok.st h h0 (fun k hk=>h1 k (.inr hk)) (fun k hk=>h2 k (.inr hk)) c⟩
theorem Own.app:∀{L:List Res}, Own (L++M) k↔Own L k∨Own M k
 | []=>⟨.inr, fun h=>h.elim False.elim id⟩
 | R::L=>⟨fun h=>h.elim (fun h => .inl (.inl h)) (fun h=>(Own.app.1 h).elim (fun h => .inl (.inr h)) .inr), fun h=>h.elim (fun h=>h.elim .inl (fun h => .inr (Own.app.2 (.inl h)))) (fun h => .inr (Own.app.2 (.inr h)))⟩
theorem Ok.app:∀{L:List Res}, Ok F H L→Ok F H M→(∀k, Own L k→¬Own M k)→Ok F H (L++M)
 | [], _, h, _=>h
 | R::L, ⟨a, b, c⟩, h, h'=>⟨a, fun k hk ho=>(Own.app.1 ho).elim (b k hk) (h' k (.inl hk)), Ok.app c h fun k hk=>h' k (.inr hk)⟩
structure Tk(L:List Res)(R:Res)(M:List Res):Prop where
 ok:∀{F:PH} {H:Heap}, Ok F H L→Ok F H (R::M)
 own:∀{k:Nat}, Own (R::M) k→Own L k
theorem k0:Tk (R::M) R M:=⟨id, id⟩
theorem Tk.s(h:Tk L R M):Tk (A::L) R (A::M) where
 ok:=fun⟨a, b, c⟩=>by
  obtain⟨x, y, z⟩:=h.ok c
  exact⟨x, fun k hk ho=>ho.elim (fun h1=>b k h1 (h.own (.inl hk))) (y k hk), a, fun k hk ho=>b k hk (h.own (.inr ho)), z⟩
 own:=fun ho=>by
  rcases ho with ho|ho|ho
  ·exact .inr (h.own (.inl ho))
  ·exact .inl ho
  ·exact .inr (h.own (.inr ho))
theorem k1{A0:Res}:Tk (A0::R::M) R (A0::M):=k0.s
theorem k2{A0 A1:Res}:Tk (A0::A1::R::M) R (A0::A1::M):=k1.s
theorem k3{A0 A1 A2:Res}:Tk (A0::A1::A2::R::M) R (A0::A1::A2::M):=k2.s
theorem k4{A0 A1 A2 A3:Res}:Tk (A0::A1::A2::A3::R::M) R (A0::A1::A2::A3::M):=k3.s
theorem k5{A0 A1 A2 A3 A4:Res}:Tk (A0::A1::A2::A3::A4::R::M) R (A0::A1::A2::A3::A4::M):=k4.s
theorem k6{A0 A1 A2 A3 A4 A5:Res}:Tk (A0::A1::A2::A3::A4::A5::R::M) R (A0::A1::A2::A3::A4::A5::M):=k5.s
theorem k7{A0 A1 A2 A3 A4 A5 A6:Res}:Tk (A0::A1::A2::A3::A4::A5::A6::R::M) R (A0::A1::A2::A3::A4::A5::A6::M):=k6.s
theorem k8{A0 A1 A2 A3 A4 A5 A6 A7:Res}:Tk (A0::A1::A2::A3::A4::A5::A6::A7::R::M) R (A0::A1::A2::A3::A4::A5::A6::A7::M):=k7.s
theorem k9{A0 A1 A2 A3 A4 A5 A6 A7 A8:Res}:Tk (A0::A1::A2::A3::A4::A5::A6::A7::A8::R::M) R (A0::A1::A2::A3::A4::A5::A6::A7::A8::M):=k8.s
theorem k10{A0 A1 A2 A3 A4 A5 A6 A7 A8 A9:Res}:Tk (A0::A1::A2::A3::A4::A5::A6::A7::A8::A9::R::M) R (A0::A1::A2::A3::A4::A5::A6::A7::A8::A9::M):=k9.s
theorem k11{A0 A1 A2 A3 A4 A5 A6 A7 A8 A9 A10:Res}:Tk (A0::A1::A2::A3::A4::A5::A6::A7::A8::A9::A10::R::M) R (A0::A1::A2::A3::A4::A5::A6::A7::A8::A9::A10::M):=k10.s
theorem k12{A0 A1 A2 A3 A4 A5 A6 A7 A8 A9 A10 A11:Res}:Tk (A0::A1::A2::A3::A4::A5::A6::A7::A8::A9::A10::A11::R::M) R (A0::A1::A2::A3::A4::A5::A6::A7::A8::A9::A10::A11::M):=k11.s
theorem k13{A0 A1 A2 A3 A4 A5 A6 A7 A8 A9 A10 A11 A12:Res}:Tk (A0::A1::A2::A3::A4::A5::A6::A7::A8::A9::A10::A11::A12::R::M) R (A0::A1::A2::A3::A4::A5::A6::A7::A8::A9::A10::A11::A12::M):=k12.s
theorem k14{A0 A1 A2 A3 A4 A5 A6 A7 A8 A9 A10 A11 A12 A13:Res}:Tk (A0::A1::A2::A3::A4::A5::A6::A7::A8::A9::A10::A11::A12::A13::R::M) R (A0::A1::A2::A3::A4::A5::A6::A7::A8::A9::A10::A11::A12::A13::M):=k13.s
theorem k15{A0 A1 A2 A3 A4 A5 A6 A7 A8 A9 A10 A11 A12 A13 A14:Res}:Tk (A0::A1::A2::A3::A4::A5::A6::A7::A8::A9::A10::A11::A12::A13::A14::R::M) R (A0::A1::A2::A3::A4::A5::A6::A7::A8::A9::A10::A11::A12::A13::A14::M):=k14.s
structure Tks(L Ls M:List Res):Prop where
 ok:∀{F:PH} {H:Heap}, Ok F H L→Ok F H Ls∧Ok F H M∧∀k, Own Ls k→¬Own M k
 own:∀{k:Nat}, Own Ls k∨Own M k→Own L k
theorem kn:Tks L [] L:=⟨fun h=>⟨trivial, h, fun _ h=>h.elim⟩, fun h=>h.elim False.elim id⟩
theorem kc(h:Tk L R M)(h':Tks M Ls N):Tks L (R::Ls) N where
 ok:=fun o=>by
  obtain⟨a, b, c⟩:=h.ok o
  obtain⟨x, y, z⟩:=h'.ok c
  exact⟨⟨a, fun k hk ho=>b k hk (h'.own (.inl ho)), x⟩, y, fun k hk ho=>hk.elim (fun h1=>b k h1 (h'.own (.inr ho))) (fun h1=>z k h1 ho)⟩
 own:=fun ho=>h.own (by
  rcases ho with(ho|ho)|ho
  ·exact .inl ho
  ·exact .inr (h'.own (.inl ho))
  ·exact .inr (h'.own (.inr ho)))
theorem kd{a b:Res}(h:Tks M Ls N):Tks (a::b::M) (a::b::Ls) N:=kc k0 (kc k0 h)
theorem Tk.tks(h:Tk L R M):Tks L [R] M:=kc h kn
def Nd(D:List Dt)(L:List Res)(d:Dt):Prop:=∀F H, InH F H→AllD F D→Ok F H L→d.sat F
theorem d0:Nd (d::D) L d:=fun _ _ _ h _=>h.1
theorem Nd.s{c:Dt}(h:Nd D L d):Nd (c::D) L d:=fun _ _ h0 h1 h2=>h _ _ h0 h1.2 h2
theorem d1{c0:Dt}:Nd (c0::d::D) L d:=d0.s
theorem d2{c0 c1:Dt}:Nd (c0::c1::d::D) L d:=d1.s
theorem d3{c0 c1 c2:Dt}:Nd (c0::c1::c2::d::D) L d:=d2.s
theorem d4{c0 c1 c2 c3:Dt}:Nd (c0::c1::c2::c3::d::D) L d:=d3.s
theorem d5{c0 c1 c2 c3 c4:Dt}:Nd (c0::c1::c2::c3::c4::d::D) L d:=d4.s
theorem d6{c0 c1 c2 c3 c4 c5:Dt}:Nd (c0::c1::c2::c3::c4::c5::d::D) L d:=d5.s
theorem d7{c0 c1 c2 c3 c4 c5 c6:Dt}:Nd (c0::c1::c2::c3::c4::c5::c6::d::D) L d:=d6.s
theorem d8{c0 c1 c2 c3 c4 c5 c6 c7:Dt}:Nd (c0::c1::c2::c3::c4::c5::c6::c7::d::D) L d:=d7.s
theorem d9{c0 c1 c2 c3 c4 c5 c6 c7 c8:Dt}:Nd (c0::c1::c2::c3::c4::c5::c6::c7::c8::d::D) L d:=d8.s
theorem d10{c0 c1 c2 c3 c4 c5 c6 c7 c8 c9:Dt}:Nd (c0::c1::c2::c3::c4::c5::c6::c7::c8::c9::d::D) L d:=d9.s
theorem d11{c0 c1 c2 c3 c4 c5 c6 c7 c8 c9 c10:Dt}:Nd (c0::c1::c2::c3::c4::c5::c6::c7::c8::c9::c10::d::D) L d:=d10.s
theorem d12{c0 c1 c2 c3 c4 c5 c6 c7 c8 c9 c10 c11:Dt}:Nd (c0::c1::c2::c3::c4::c5::c6::c7::c8::c9::c10::c11::d::D) L d:=d11.s
theorem d13{c0 c1 c2 c3 c4 c5 c6 c7 c8 c9 c10 c11 c12:Dt}:Nd (c0::c1::c2::c3::c4::c5::c6::c7::c8::c9::c10::c11::c12::d::D) L d:=d12.s
theorem d14{c0 c1 c2 c3 c4 c5 c6 c7 c8 c9 c10 c11 c12 c13:Dt}:Nd (c0::c1::c2::c3::c4::c5::c6::c7::c8::c9::c10::c11::c12::c13::d::D) L d:=d13.s
theorem d15{c0 c1 c2 c3 c4 c5 c6 c7 c8 c9 c10 c11 c12 c13 c14:Dt}:Nd (c0::c1::c2::c3::c4::c5::c6::c7::c8::c9::c10::c11::c12::c13::c14::d::D) L d:=d14.s
def Sd(D:List Dt)(L:List Res)(E:List Dt):Prop:=∀F H, InH F H→AllD F D→Ok F H L→AllD F E
theorem dn:Sd D L []:=fun _ _ _ _ _=>trivial
theorem dc(h:Nd D L d)(h':Sd D L E):Sd D L (d::E):=fun _ _ a b c=>⟨h _ _ a b c, h' _ _ a b c⟩
end
structure Cx where
 W:Nat→Prop
 H:Heap
 F:PH
abbrev Cx.n(X:Cx):Nat:=X.H.size
structure Hp(X:Cx)(D:List Dt)(L:List Res)(F:PH)(H:Heap):Prop where
 hx:PH.ext X.H X.F F
 hin:InH F H
 hw:Kw X.W X.H H
 hd:AllD F D
 ok:Ok F H L
 ge:∀k, Own L k→X.H.size≤k∨X.W k
section
variable{X:Cx}{F G:PH}{H H':Heap}{D E:List Dt}{L M Ls Ls':List Res}{R R':Res}
theorem Hp.frame(h:Hp X D L F H)(hk:Tks L Ls M)(hx:PH.ext H F G)(hin:InH G H')(hw:Kw (Own Ls) H H')(hd:AllD G E)(ho:Ok G H' Ls')(hg:∀k, Own Ls' k→H.size≤k∨Own Ls k):Hp X (E++D) (Ls'++M) G H':=by
 obtain⟨o1, o2, o3⟩:=hk.ok h.ok
 refine⟨h.hx.trans hx h.hw.1, hin, h.hw.kw hw fun k hk1 hk2=>(h.ge k (hk.own (.inl hk2))).resolve_left (by omega), hd.app (h.hd.up hx.1), Ok.app ho (o2.st hx.1 hw.1 (fun k hk1=>(hx.2 k (o2.lt hk1)).trans (o2.no hk1)) (fun k hk1=>hw.2 k (o2.lt hk1) (fun h9=>o3 k h9 hk1))) ?_, ?_⟩
 ·intro k hk1 hk2
  rcases hg k hk1 with h9|h9
  ·have:=o2.lt hk2;omega
  ·exact o3 k h9 hk2
 ·intro k hk1
  rcases Own.app.1 hk1 with h9|h9
  ·rcases hg k h9 with h8|h8
   ·exact .inl (Nat.le_trans h.hw.1 h8)
   ·exact h.ge k (hk.own (.inl h8))
  ·exact h.ge k (hk.own (.inr h9))
theorem Hp.new(h:Hp X D L F H)(hk:Kp H.size H H')(hs:R.sat F H')(ho:∀k, R.own k→H.size≤k):Hp X D (R::L) F H' :=
 h.frame kn (PH.ext.refl F) (h.hin.kp hk) ⟨hk.1, fun k h1 _=>hk.2 k h1⟩ (E:=[]) trivial (Ls':=[R]) ⟨hs, fun _ _=>id, trivial⟩ (fun k h1 => .inl (ho k (h1.resolve_right id)))
theorem Hp.set(h:Hp X D L F H)(hk:Tk L R M)(hw:Kw R.own H H')(hs:R'.sat F H')(ho:∀k, R'.own k→H.size≤k∨R.own k):Hp X D (R'::M) F H' :=
 h.frame hk.tks (PH.ext.refl F) (h.hin.kw hw fun k h1=>h.ok.no (hk.own (.inl h1))) ⟨hw.1, fun k h1 h2=>hw.2 k h1 (fun h3=>h2 (.inl h3))⟩ (E:=[]) trivial (Ls':=[R']) ⟨hs, fun _ _=>id, trivial⟩ (fun k h1=>(ho k (h1.resolve_right id)).imp id .inl)
theorem Hp.kp(h:Hp X D L F H)(hk:Kp H.size H H'):Hp X D L F H' :=
 h.frame kn (PH.ext.refl F) (h.hin.kp hk) ⟨hk.1, fun k h1 _=>hk.2 k h1⟩ (E:=[]) trivial (Ls':=[]) trivial (fun k h1=>h1.elim)
theorem Hp.at(h:Hp X D L F H)(hk:Tk L R M):R.sat F H:=(hk.ok h.ok).1
theorem Hp.datum{d:Dt}(h:Hp X D L F H)(hs:d.sat F):Hp X (d::D) L F H:=⟨h.hx, h.hin, h.hw, ⟨hs, h.hd⟩, h.ok, h.ge⟩
theorem Hp.sub(h:Hp X D L F H)(hd:Sd D L E)(hk:Tks L Ls M):Hp X E Ls F H:=⟨h.hx, h.hin, h.hw, hd _ _ h.hin h.hd h.ok, (hk.ok h.ok).1, fun k h1=>h.ge k (hk.own (.inl h1))⟩
theorem Hp.drop(h:Hp X D L F H)(hk:Tk L R M):Hp X D M F H:=⟨h.hx, h.hin, h.hw, h.hd, (hk.ok h.ok).2.2, fun k h1=>h.ge k (hk.own (.inr h1))⟩
end
variable{P:Program}{n:Fs}{w0:World}{Q:Exit→Act→World→Prop}{X:Cx}{D E:List Dt}{L M Ls:List Res}{e:Env}
def LH(P:Program)(n:Fs)(w0:World)(ops:Array Oper)(Q:Exit→Act→World→Prop)(X:Cx)(D:List Dt)(L:List Res)(e:Env)(l:List Oper):Prop:=∀F H, Hp X D L F H→LF P n w0 ops Q e l H
def SH(P:Program)(n:Fs)(w0:World)(ops:Array Oper)(K:Act→World→Prop)(X:Cx)(D:List Dt)(L:List Res)(e:Env)(l:List Oper):Prop:=∀F H, Hp X D L F H→LS P n w0 ops K e l H
def CH(P:Program)(n:Fs)(w0:World)(Q:Exit→Act→World→Prop)(X:Cx)(D:List Dt)(L:List Res)(e:Env)(c:Code):Prop:=∀F H, Hp X D L F H→CF P n w0 Q e c H
def QH(n:Fs)(w0:World)(Q:Exit→Act→World→Prop)(X:Cx)(D:List Dt)(L:List Res)(e:Env)(x:Exit):Prop:=∀F H, Hp X D L F H→PF n w0 Q e x H
def OH(P:Program)(D:List Dt)(L:List Res)(e:Env)(op:Op)(v:Value):Prop:=∀F H, InH F H→AllD F D→Ok F H L→OpOk P e op H v
def OE(P:Program)(D:List Dt)(L:List Res)(e:Env)(op:Op)(p:Value→PH→Prop):Prop:=∀F H, InH F H→AllD F D→Ok F H L→∃v, OpOk P e op H v∧p v F
section
variable{ops:Array Oper}{op:Op}{d:Nat}{ty:TypeId}{pos:String}{af:Array Edge}{rest:List Oper}{v:Value}{R:Res}{K:Act→World→Prop}
theorem jn(h:QH n w0 Q X D L e .normal):LH P n w0 ops Q X D L e []:=fun F H hp=>LF.nil (h F H hp)
theorem js(h:OH P D L e op v)(k:LH P n w0 ops Q X D L ((d, v)::e) rest)(hd:Nat.blt d n.sz=true:=by rfl):LH P n w0 ops Q X D L e (⟨some d, op, ty, pos, af, none⟩::rest) :=
 fun F H hp=>LF.step (h F H hp.hin hp.hd hp.ok) (k F H hp) hd
theorem jt(h:OH P D L e op v)(k:SH P n w0 ops K X D L ((d, v)::e) rest)(hd:Nat.blt d n.sz=true:=by rfl):SH P n w0 ops K X D L e (⟨some d, op, ty, pos, af, none⟩::rest) :=
 fun F H hp=>LS.step (h F H hp.hin hp.hd hp.ok) (k F H hp) hd
theorem je{q:Value→Dt}(h:OE P D L e op (fun v F=>(q v).sat F))(k:∀v, LH P n w0 ops Q X (q v::D) L ((d, v)::e) rest)(hd:Nat.blt d n.sz=true:=by rfl):LH P n w0 ops Q X D L e (⟨some d, op, ty, pos, af, none⟩::rest):=fun F H hp=>by
 obtain⟨v, h1, h2⟩:=h F H hp.hin hp.hd hp.ok
 exact LF.step h1 (k v F H (hp.datum h2)) hd
theorem jte{q:Value→Dt}(h:OE P D L e op (fun v F=>(q v).sat F))(k:∀v, SH P n w0 ops K X (q v::D) L ((d, v)::e) rest)(hd:Nat.blt d n.sz=true:=by rfl):SH P n w0 ops K X D L e (⟨some d, op, ty, pos, af, none⟩::rest):=fun F H hp=>by
 obtain⟨v, h1, h2⟩:=h F H hp.hin hp.hd hp.ok
 exact LS.step h1 (k v F H (hp.datum h2)) hd
theorem jg{j t:Nat}{want B:Bool}{u:Value}(hj:(ops[j]?).bind (·.dst)=some t)(hu:lk e t=some u)(hB:Gd u want B)(h:B=true→OH P D L e op v)
  (k:LH P n w0 ops Q X D L ((d, gv B v)::e) rest) (hd:Nat.blt d n.sz=true:=by rfl) (ht:Nat.blt t n.sz=true:=by rfl):LH P n w0 ops Q X D L e (⟨some d, op, ty, pos, af, some (j, want)⟩::rest) :=
 fun F H hp=>LF.gstep hj hu hB (fun hb=>h hb F H hp.hin hp.hd hp.ok) (k F H hp) hd ht
def Dt.if(B:Bool)(d:Dt):Dt:=⟨fun F=>B=true→d.sat F, fun hl h hb=>d.up hl (h hb)⟩
theorem Nd.on{B:Bool}{c:Dt}(h:Nd D L (c.if B))(hb:B=true):Nd D L c:=fun F H a b o=>h F H a b o hb
theorem jge{q:Value→Dt}{j t:Nat}{want B:Bool}{u:Value}(hj:(ops[j]?).bind (·.dst)=some t)(hu:lk e t=some u)(hB:Gd u want B)(h:B=true→OE P D L e op (fun v F=>(q v).sat F))
  (k:∀v, LH P n w0 ops Q X ((q v).if B::D) L ((d, gv B v)::e) rest) (hd:Nat.blt d n.sz=true:=by rfl) (ht:Nat.blt t n.sz=true:=by rfl):LH P n w0 ops Q X D L e (⟨some d, op, ty, pos, af, some (j, want)⟩::rest):=fun F H hp=>by
 cases B with
 | true=>obtain⟨v, h1, h2⟩:=h rfl F H hp.hin hp.hd hp.ok;exact LF.gstep hj hu hB (fun _=>h1) (k v F H (hp.datum fun _=>h2)) hd ht
 | false=>exact LF.gstep (v:=undef) hj hu hB (fun h=>by cases h) (k undef F H (hp.datum fun h=>by cases h)) hd ht
theorem jk{j t:Nat}{want:Bool}{u:Value}(hj:(ops[j]?).bind (·.dst)=some t)(hu:lk e t=some u)(hB:Gd u want true)(h:OH P D L e op v)
  (k:LH P n w0 ops Q X D L ((d, v)::e) rest) (hd:Nat.blt d n.sz=true:=by rfl) (ht:Nat.blt t n.sz=true:=by rfl):LH P n w0 ops Q X D L e (⟨some d, op, ty, pos, af, some (j, want)⟩::rest) :=
 fun F H hp=>LF.gstepK hj hu hB (h F H hp.hin hp.hd hp.ok) (k F H hp) hd ht
theorem jm{x:Operand}(hx:ev e x=some v)(k:LH P n w0 ops Q X D L ((d, v)::e) rest)(hd:Nat.blt d n.sz=true:=by rfl):LH P n w0 ops Q X D L e (⟨some d, .move x, ty, pos, af, none⟩::rest):=js (fun _ _ _ _ _=>OpOk.move hx) k hd
theorem ja{x:Operand}(hx:ev e x=some v)(k:LH P n w0 ops Q X D L ((d, v)::e) rest)(hd:Nat.blt d n.sz=true:=by rfl):LH P n w0 ops Q X D L e (⟨some d, .assign x, ty, pos, af, none⟩::rest):=js (fun _ _ _ _ _=>OpOk.assign hx) k hd
end
section
variable{x y:Code}{id:Nat}{l:List Oper}
theorem jr(h:LH P n w0 l.toArray Q X D L e l):CH P n w0 Q X D L e (.region id l.toArray false):=fun F H hp=>CF.region (h F H hp)
theorem jstl(hm:P.follows .mixedOrders=true)(hB:Region.lexB .any l.toArray=true)(h:SH P n w0 l.toArray (fun a w=>Q .normal a w) X D L e l):CH P n w0 Q X D L e (.region id l.toArray true):=fun F H hp=>CF.still hm hB (h F H hp)
theorem jtl(m:Nat)(hm:P.follows .mixedOrders=true)(hB:Region.lexTailB .any l.toArray m=true)(h:SH P n w0 l.toArray (fun a w=>wpList P l.toArray Q (l.drop m) a w) X D L e (l.take m)):CH P n w0 Q X D L e (.region id l.toArray true):=fun F H hp=>CF.tail m hm hB (h F H hp)
theorem jdn{ops:Array Oper}(h:QH n w0 Q X D L e .normal):SH P n w0 ops (fun a w=>Q .normal a w) X D L e []:=fun F H hp=>LS.done (h F H hp)
theorem jtt{ops:Array Oper}{r:List Oper}(h:LH P n w0 ops Q X D L e r):SH P n w0 ops (fun a w=>wpList P ops Q r a w) X D L e []:=fun F H hp=>LS.tail (h F H hp)
theorem jq(h:CH P n w0 (Exit.then (y.wp P Q) Q) X D L e x):CH P n w0 Q X D L e (.seq x y):=fun F H hp=>CF.seq (h F H hp)
theorem jx(h:CH P n w0 Q X D L e y):QH n w0 (Exit.then (y.wp P Q) Q) X D L e .normal:=fun F H hp=>PF.next (h F H hp)
theorem jtx{k:Act→World→Prop}{i:Nat}(h:QH n w0 Q X D L e (.exit i)):QH n w0 (Exit.then k Q) X D L e (.exit i):=fun F H hp=>PF.thenExit (h F H hp)
theorem jtr{k:Act→World→Prop}(h:QH n w0 Q X D L e .ret):QH n w0 (Exit.then k Q) X D L e .ret:=fun F H hp=>PF.thenRet (h F H hp)
theorem jb(h:CH P n w0 (Exit.inBlock id Q) X D L e x):CH P n w0 Q X D L e (.block id x):=fun F H hp=>CF.block (h F H hp)
theorem jbn(h:QH n w0 Q X D L e .normal):QH n w0 (Exit.inBlock id Q) X D L e .normal:=fun F H hp=>PF.blockNormal (h F H hp)
theorem jbr(h:QH n w0 Q X D L e .ret):QH n w0 (Exit.inBlock id Q) X D L e .ret:=fun F H hp=>PF.blockRet (h F H hp)
theorem jbh(h:QH n w0 Q X D L e .normal):QH n w0 (Exit.inBlock id Q) X D L e (.exit id):=fun F H hp=>PF.blockHere (h F H hp)
theorem jbo{i:Nat}(h:QH n w0 Q X D L e (.exit i))(hne:Nat.beq i id=false:=by rfl):QH n w0 (Exit.inBlock id Q) X D L e (.exit i):=fun F H hp=>PF.blockOther (h F H hp) hne
theorem jsk(h:QH n w0 Q X D L e .normal):CH P n w0 Q X D L e .skip:=fun F H hp=>CF.skip (h F H hp)
theorem jex(h:QH n w0 Q X D L e (.exit id)):CH P n w0 Q X D L e (.exit id):=fun F H hp=>CF.exit (h F H hp)
theorem jrt(h:QH n w0 Q X D L e .ret):CH P n w0 Q X D L e .ret:=fun F H hp=>CF.ret (h F H hp)
theorem jif{c:Operand}{b:Bool}{p q:Prop}(hc:ev e c=some (.bool b))[hb:BoolP b p q](ht:p→CH P n w0 Q X D L e x)(hf:q→CH P n w0 Q X D L e y):CH P n w0 Q X D L e (.cond c x y) :=
 fun F H hp=>CF.if hc (fun h=>ht h F H hp) (fun h=>hf h F H hp)
theorem jsc(h:CH P n w0 (Exit.noGoto Q) X D L e x):CH P n w0 Q X D L e (.scope x):=fun F H hp=>CF.scope (h F H hp)
theorem jso{z:Exit}(h:QH n w0 Q X D L e z)(hz:∀l, z ≠ .goto l:=by simp):QH n w0 (Exit.noGoto Q) X D L e z:=fun F H hp=>PF.scope (h F H hp) hz
theorem jlab{l:Nat}(h:QH n w0 Q X D L e .normal):CH P n w0 Q X D L e (.label l):=fun F H hp=>CF.label (h F H hp)
@[reducible] def u2 {α0 α1 ρ:Type} (f:α0→α1→ρ) (x:α0×α1):ρ:=f x.1 x.2
@[reducible] def u3 {α0 α1 α2 ρ:Type} (f:α0→α1→α2→ρ) (x:α0×α1×α2):ρ:=f x.1 x.2.1 x.2.2
@[reducible] def u4 {α0 α1 α2 α3 ρ:Type} (f:α0→α1→α2→α3→ρ) (x:α0×α1×α2×α3):ρ:=f x.1 x.2.1 x.2.2.1 x.2.2.2
@[reducible] def u5 {α0 α1 α2 α3 α4 ρ:Type} (f:α0→α1→α2→α3→α4→ρ) (x:α0×α1×α2×α3×α4):ρ:=f x.1 x.2.1 x.2.2.1 x.2.2.2.1 x.2.2.2.2
@[reducible] def u6 {α0 α1 α2 α3 α4 α5 ρ:Type} (f:α0→α1→α2→α3→α4→α5→ρ) (x:α0×α1×α2×α3×α4×α5):ρ:=f x.1 x.2.1 x.2.2.1 x.2.2.2.1 x.2.2.2.2.1 x.2.2.2.2.2
@[reducible] def u7 {α0 α1 α2 α3 α4 α5 α6 ρ:Type} (f:α0→α1→α2→α3→α4→α5→α6→ρ) (x:α0×α1×α2×α3×α4×α5×α6):ρ:=f x.1 x.2.1 x.2.2.1 x.2.2.2.1 x.2.2.2.2.1 x.2.2.2.2.2.1 x.2.2.2.2.2.2
@[reducible] def u8 {α0 α1 α2 α3 α4 α5 α6 α7 ρ:Type} (f:α0→α1→α2→α3→α4→α5→α6→α7→ρ) (x:α0×α1×α2×α3×α4×α5×α6×α7):ρ:=f x.1 x.2.1 x.2.2.1 x.2.2.2.1 x.2.2.2.2.1 x.2.2.2.2.2.1 x.2.2.2.2.2.2.1 x.2.2.2.2.2.2.2
@[reducible] def u9 {α0 α1 α2 α3 α4 α5 α6 α7 α8 ρ:Type} (f:α0→α1→α2→α3→α4→α5→α6→α7→α8→ρ) (x:α0×α1×α2×α3×α4×α5×α6×α7×α8):ρ:=f x.1 x.2.1 x.2.2.1 x.2.2.2.1 x.2.2.2.2.1 x.2.2.2.2.2.1 x.2.2.2.2.2.2.1 x.2.2.2.2.2.2.2.1 x.2.2.2.2.2.2.2.2
@[reducible] def u10 {α0 α1 α2 α3 α4 α5 α6 α7 α8 α9 ρ:Type} (f:α0→α1→α2→α3→α4→α5→α6→α7→α8→α9→ρ) (x:α0×α1×α2×α3×α4×α5×α6×α7×α8×α9):ρ:=f x.1 x.2.1 x.2.2.1 x.2.2.2.1 x.2.2.2.2.1 x.2.2.2.2.2.1 x.2.2.2.2.2.2.1 x.2.2.2.2.2.2.2.1 x.2.2.2.2.2.2.2.2.1 x.2.2.2.2.2.2.2.2.2
@[reducible] def u11 {α0 α1 α2 α3 α4 α5 α6 α7 α8 α9 α10 ρ:Type} (f:α0→α1→α2→α3→α4→α5→α6→α7→α8→α9→α10→ρ) (x:α0×α1×α2×α3×α4×α5×α6×α7×α8×α9×α10):ρ:=f x.1 x.2.1 x.2.2.1 x.2.2.2.1 x.2.2.2.2.1 x.2.2.2.2.2.1 x.2.2.2.2.2.2.1 x.2.2.2.2.2.2.2.1 x.2.2.2.2.2.2.2.2.1 x.2.2.2.2.2.2.2.2.2.1 x.2.2.2.2.2.2.2.2.2.2
@[reducible] def u12 {α0 α1 α2 α3 α4 α5 α6 α7 α8 α9 α10 α11 ρ:Type} (f:α0→α1→α2→α3→α4→α5→α6→α7→α8→α9→α10→α11→ρ) (x:α0×α1×α2×α3×α4×α5×α6×α7×α8×α9×α10×α11):ρ:=f x.1 x.2.1 x.2.2.1 x.2.2.2.1 x.2.2.2.2.1 x.2.2.2.2.2.1 x.2.2.2.2.2.2.1 x.2.2.2.2.2.2.2.1 x.2.2.2.2.2.2.2.2.1 x.2.2.2.2.2.2.2.2.2.1 x.2.2.2.2.2.2.2.2.2.2.1 x.2.2.2.2.2.2.2.2.2.2.2
@[reducible] def u13 {α0 α1 α2 α3 α4 α5 α6 α7 α8 α9 α10 α11 α12 ρ:Type} (f:α0→α1→α2→α3→α4→α5→α6→α7→α8→α9→α10→α11→α12→ρ) (x:α0×α1×α2×α3×α4×α5×α6×α7×α8×α9×α10×α11×α12):ρ:=f x.1 x.2.1 x.2.2.1 x.2.2.2.1 x.2.2.2.2.1 x.2.2.2.2.2.1 x.2.2.2.2.2.2.1 x.2.2.2.2.2.2.2.1 x.2.2.2.2.2.2.2.2.1 x.2.2.2.2.2.2.2.2.2.1 x.2.2.2.2.2.2.2.2.2.2.1 x.2.2.2.2.2.2.2.2.2.2.2.1 x.2.2.2.2.2.2.2.2.2.2.2.2
@[reducible] def u14 {α0 α1 α2 α3 α4 α5 α6 α7 α8 α9 α10 α11 α12 α13 ρ:Type} (f:α0→α1→α2→α3→α4→α5→α6→α7→α8→α9→α10→α11→α12→α13→ρ) (x:α0×α1×α2×α3×α4×α5×α6×α7×α8×α9×α10×α11×α12×α13):ρ:=f x.1 x.2.1 x.2.2.1 x.2.2.2.1 x.2.2.2.2.1 x.2.2.2.2.2.1 x.2.2.2.2.2.2.1 x.2.2.2.2.2.2.2.1 x.2.2.2.2.2.2.2.2.1 x.2.2.2.2.2.2.2.2.2.1 x.2.2.2.2.2.2.2.2.2.2.1 x.2.2.2.2.2.2.2.2.2.2.2.1 x.2.2.2.2.2.2.2.2.2.2.2.2.1 x.2.2.2.2.2.2.2.2.2.2.2.2.2
@[reducible] def u15 {α0 α1 α2 α3 α4 α5 α6 α7 α8 α9 α10 α11 α12 α13 α14 ρ:Type} (f:α0→α1→α2→α3→α4→α5→α6→α7→α8→α9→α10→α11→α12→α13→α14→ρ) (x:α0×α1×α2×α3×α4×α5×α6×α7×α8×α9×α10×α11×α12×α13×α14):ρ:=f x.1 x.2.1 x.2.2.1 x.2.2.2.1 x.2.2.2.2.1 x.2.2.2.2.2.1 x.2.2.2.2.2.2.1 x.2.2.2.2.2.2.2.1 x.2.2.2.2.2.2.2.2.1 x.2.2.2.2.2.2.2.2.2.1 x.2.2.2.2.2.2.2.2.2.2.1 x.2.2.2.2.2.2.2.2.2.2.2.1 x.2.2.2.2.2.2.2.2.2.2.2.2.1 x.2.2.2.2.2.2.2.2.2.2.2.2.2.1 x.2.2.2.2.2.2.2.2.2.2.2.2.2.2
@[reducible] def u16 {α0 α1 α2 α3 α4 α5 α6 α7 α8 α9 α10 α11 α12 α13 α14 α15 ρ:Type} (f:α0→α1→α2→α3→α4→α5→α6→α7→α8→α9→α10→α11→α12→α13→α14→α15→ρ) (x:α0×α1×α2×α3×α4×α5×α6×α7×α8×α9×α10×α11×α12×α13×α14×α15):ρ:=f x.1 x.2.1 x.2.2.1 x.2.2.2.1 x.2.2.2.2.1 x.2.2.2.2.2.1 x.2.2.2.2.2.2.1 x.2.2.2.2.2.2.2.1 x.2.2.2.2.2.2.2.2.1 x.2.2.2.2.2.2.2.2.2.1 x.2.2.2.2.2.2.2.2.2.2.1 x.2.2.2.2.2.2.2.2.2.2.2.1 x.2.2.2.2.2.2.2.2.2.2.2.2.1 x.2.2.2.2.2.2.2.2.2.2.2.2.2.1 x.2.2.2.2.2.2.2.2.2.2.2.2.2.2.1 x.2.2.2.2.2.2.2.2.2.2.2.2.2.2.2
structure Lp where
 inv:Prop
 D:List Dt
 L:List Res
 env:Env
 mu:Nat
def Agn{ι:Type}(n:Fs)(w0:World)(X:Cx)(S:ι→Lp)(i:ι)(a:Act)(w:World):Prop :=
 ∃j F, (S j).inv∧Hp X (S j).D (S j).L F w.heap∧Fr n (S j).env a∧Wd w0 w.heap w∧(S j).mu<(S i).mu
theorem jlp{ι:Type}(S:ι→Lp)(i0:ι)(h0:(S i0).inv)(hd:Sd D L (S i0).D)(hl:Tks L (S i0).L M)(hs:Sub e (S i0).env)
  (round:∀i, (S i).inv→CH P n w0 (Exit.then (Agn n w0 X S i) Q) X (S i).D (S i).L (S i).env x):CH P n w0 Q X D L e (.loop x):=fun F H hp=>by
 refine CF.loop (ι:=ι) (fun i H=>(S i).inv∧∃F, Hp X (S i).D (S i).L F H) (fun i=>(S i).env) (fun i=>(S i).mu) i0 ⟨h0, F, hp.sub hd hl⟩ hs ?_
 rintro i H' ⟨hi, F', hp'⟩ a w hf hw
 refine Code.wp_mono ?_ (round i hi F' H' hp' a w hf hw)
 intro z a' w' hq
 cases z with
 | normal=>obtain⟨j, F2, h1, h2, h3, h4, h5⟩:=hq;exact⟨j, ⟨h1, F2, h2⟩, h3, h4, h5⟩
 | _=>exact hq
theorem jag{ι:Type}{S:ι→Lp}{i:ι}(j:ι)(hj:(S j).inv)(hd:Sd D L (S j).D)(hl:Tks L (S j).L M)(hs:Sub e (S j).env)(hm:(S j).mu<(S i).mu:=by dsimp only[u2, u3, u4, u5, u6, u7, u8, u9, u10, u11, u12, u13, u14, u15, u16];omega) :
  QH n w0 (Exit.then (Agn n w0 X S i) Q) X D L e .normal:=fun F H hp a w hf hw =>
 ⟨j, F, hj, hw.heap▸hp.sub hd hl, hf.sub hs, ⟨rfl, hw.os, hw.tape, hw.output⟩, hm⟩
structure Jn where
 inv:Prop
 D:List Dt
 L:List Res
 env:Env
def QJn{ι:Type}(n:Fs)(w0:World)(X:Cx)(S:ι→Jn)(Q:Exit→Act→World→Prop)(x:Exit)(a:Act)(w:World):Prop:=(x = .normal∧∃i F, (S i).inv∧Hp X (S i).D (S i).L F w.heap∧Fr n (S i).env a∧Wd w0 w.heap w)∨(x ≠ .normal∧Q x a w)
theorem jjo{ι:Type}(S:ι→Jn)(h:CH P n w0 (QJn n w0 X S Q) X D L e x)(k:∀i, (S i).inv→QH n w0 Q X (S i).D (S i).L (S i).env .normal):CH P n w0 Q X D L e x:=fun F H hp a w hf hw =>
 Code.wp_mono (fun _ _ _ h9=>h9.elim (fun⟨h1, i, F', h2, h3, h4, h5⟩=>h1▸k i h2 F' _ h3 _ _ h4 h5) (fun h=>h.2)) (h F H hp a w hf hw)
theorem jje{ι:Type}{S:ι→Jn}(i:ι)(hi:(S i).inv)(hd:Sd D L (S i).D)(hl:Tks L (S i).L M)(hs:Sub e (S i).env):QH n w0 (QJn n w0 X S Q) X D L e .normal:=fun F H hp a w hf hw =>
 .inl ⟨rfl, i, F, hi, hw.heap▸hp.sub hd hl, hf.sub hs, ⟨rfl, hw.os, hw.tape, hw.output⟩⟩
theorem jjr{ι:Type}{S:ι→Jn}{z:Exit}(h:QH n w0 Q X D L e z)(hz:z ≠ .normal:=by simp):QH n w0 (QJn n w0 X S Q) X D L e z:=fun F H hp a w hf hw => .inr ⟨hz, h F H hp a w hf hw⟩
end
def Tr(P:Program)(f:FuncId)(args:Array Value)(D0:List Dt)(L0:List Res){ι:Type}(val:ι→Value)(dr:ι→List Dt)(lr:Nat→ι→List Res):Prop :=
 ∀F H, InH F H→AllD F D0→Ok F H L0→Ct P f args H (fun v H'=>∃i F', v=val i∧∀B, B≤H.size→Hp ⟨Own L0, H, F⟩ (dr i) (lr B i) F' H')
section
variable{f:FuncId}{fn:Func}{c:Code}{args:List Value}{D0:List Dt}{L0:List Res}{ι:Type}{val:ι→Value}{dr:ι→List Dt}{lr:Nat→ι→List Res}
def RQ2(P:Program)(fn:Func)(w0:World)(X:Cx){ι:Type}(val:ι→Value)(dr:ι→List Dt)(lr:Nat→ι→List Res):Exit→Act→World→Prop:=BQ P fn w0 (fun v H'=>∃i F', v=val i∧∀B, B≤X.n→Hp X (dr i) (lr B i) F' H')
theorem jenter{m:Nat}(hf:P.funcs[f]? = some fn)(hb:fn.body=some c)(hn:fn.ntmps=m)(ha:Nat.ble args.length m=true)
  (h:∀(w0:World) (X:Cx), CH P ⟨m, []⟩ w0 (RQ2 P fn w0 X val dr lr) X D0 L0 (number 0 args) c):Tr P f args.toArray D0 L0 val dr lr:=fun F H hin hd ho =>
 Ct.enter hf hb hn ha fun w0 hw=>h w0 ⟨Own L0, H, F⟩ F H ⟨PH.ext.refl F, hin, Kw.refl _ _, hd, ho, fun k hk => .inr hk⟩
end
end Go.JE
namespace Go.JE
variable{P:Program}{D:List Dt}{L M:List Res}{e:Env}
def dv{α:Type}(r:Rp α)(v:Value)(a:α):Dt:=⟨fun F=>r.rv F v a,fun hl h=>Rp.rv.up h hl⟩
def da{α:Type}(r:Rp α)(v:Value)(a:α):Dt:=⟨fun F=>r.ra F v a,fun hl h=>Rp.ra.up h hl⟩
def ad{α:Type}(r:Rp α)(b o:Nat)(a:α):Dt:=⟨fun F=>At F r b o a,fun hl h=>At.up h hl⟩
def Sv(v:Value):Prop:=∃a n c,v = .slice a n c
theorem Sv.one{v:Value}(h:Sv v):v.oneCell'=true:=by obtain⟨_,_,_,rfl⟩:=h;rfl
theorem Sv.cells{v:Value}(h:Sv v):v.cells=[v].toArray:=cells1 h.one
theorem Gl.sv{α:Type}{r:Rp α}{T:TypeId}{F:PH}{H:Heap}{B:Nat}{v:Value}{l:List α}(h:Gl r T F H B v l):Sv v:=by obtain⟨xs,h1,_⟩:=h;obtain⟨a,c,e⟩:=h1.len;exact⟨a,_,c,e⟩
theorem dv1{α:Type}{r:Rp α}{v:Value}{l:List α}{N:Nat}{F:PH}(h:(dv (rLn N r) v l).sat F):Sv v:=by obtain⟨_,a,c,e,_⟩:=h;exact⟨a,_,c,e⟩
def bx(g:Nat)(T:TypeId)(cs:List Value):Res where
 sat F H:=Bx H g T cs∧F g=none
 own k:=k=g
 lt:=fun h e=>e▸h.1.lt
 no:=fun h e=>e▸h.2
 st:=fun _ _ h1 h2 h=>⟨h.1.of (h2 g rfl),h1 g rfl⟩
def gl{α:Type}(B:Nat)(r:Rp α)(T:TypeId)(v:Value)(l:List α):Res where
 sat F H:=Gl r T F H B v l∧B≤H.size
 own k:=v.ownBlock=some k
 lt:=fun h e=>h.1.lt _ e
 no:=fun h e=>h.1.no _ e
 st:=fun hl hs h1 h2 h=>by
  obtain⟨⟨xs,a,b,c⟩,hB⟩:=h
  exact⟨⟨xs,a.of h2,h1,fun i hi=>Rp.up _ hl (c i hi)⟩,Nat.le_trans hB hs⟩
def Wr(D:List Dt)(L:List Res)(k:IntKind)(n:Int):Prop:=Nd D L ⟨fun _=>k.wrap n=n,fun _ h=>h⟩
abbrev Qn(N n:Nat):Prop:=n<N∧n≤9223372036854775807
section
variable{α β:Type}{r:Rp α}{v:Value}{a:α}{l:List α}{b o N B:Nat}{k:IntKind}{m:Int}
theorem wp(h:k.wrap m=m):Wr D L k m:=fun _ _ _ _ _=>h
theorem wl(m:Int)(h:k.wrap m=m:=by decide):Wr D L k m:=wp h
theorem lrep{n:Nat}{a:α}:(List.replicate n a).length=n:=List.length_replicate
theorem wad(h:Nd D L (ad (rI k) b o m)):Wr D L k m:=fun F H x y z=>At.wr (h F H x y z)
theorem wgl{E:TypeId}{l:List Int}{i:Nat}(hk:Tk L (gl B (rI k) E v l) M)(hi:i<l.length):Wr D L k (ix l i):=fun F H _ _ z=>Gl.wr (hk.ok z).1.1 hi
theorem wI(h:Wr D L k m):Nd D L (dv (rI k) (.int k m) m):=fun F H x y z=>⟨rfl,h F H x y z⟩
theorem wB{b:Bool}:Nd D L (dv rB (.bool b) b):=fun _ _ _ _ _=>rfl
theorem wN:Nd D L (dv (rL r) (.slice none 0 0) []):=fun F _ _ _ _=>rL.nil F
theorem dix[Inhabited α]{l:List α}(h:Nd D L (dv (rLn N r) v l))(i:Nat)(hi:i<l.length):Nd D L (ad r (vblk v) (voff v+i*r.sz) (ix l i)):=fun F H x y z=>rL.ix (h F H x y z) i hi
theorem dhi(h:Nd D L (dv (rLn N r) v l))(hi:Nat)(h2:hi≤l.length)(h3:hi<1073741824):Nd D L (dv (rL r) (resl r.sz v 0 hi) (l.take hi)):=fun F H x y z=>rL.hi (h F H x y z) hi h2 h3
theorem dlo(h:Nd D L (dv (rLn N r) v l))(lo:Nat)(h2:lo≤l.length)(h3:l.length-lo<1073741824):Nd D L (dv (rL r) (resl r.sz v lo l.length) (l.drop lo)):=fun F H x y z=>rL.lo (h F H x y z) lo h2 h3
theorem dcast{a':α}(e:a'=a)(h:Nd D L (dv r v a)):Nd D L (dv r v a'):=e▸h
theorem kcg{E:TypeId}{Ls M':List Res}{l':List α}(e:l'=l)(h:Tk L (gl B r E v l) M)(h':Tks M Ls M'):Tks L (gl B r E v l'::Ls) M':=e▸kc h h'
theorem kcb{g:Nat}{T:TypeId}{cs cs':List Value}{Ls M':List Res}(e:cs'=cs)(h:Tk L (bx g T cs) M)(h':Tks M Ls M'):Tks L (bx g T cs'::Ls) M':=e▸kc h h'
end
section
variable{T T':TypeId}{x y z:Operand}{k k':IntKind}{m n r:Int}{b b2 C:Bool}{u v w:Value}
theorem jmv(hx:ev e x=some v):OH P D L e (.move x) v:=fun _ _ _ _ _=>OpOk.move hx
theorem jas(hx:ev e x=some v):OH P D L e (.assign x) v:=fun _ _ _ _ _=>OpOk.assign hx
theorem jand(hc:ev e z=some (.bool b))(hx:ev e x=some (gv b (.bool b2))):OH P D L e (.pick z x (.const (.bool false))) (.bool (b&&b2)):=fun _ _ _ _ _=>OpOk.pickAnd hc hx
theorem jor(hc:ev e z=some (.bool b))(hx:ev e x=some (gv (!b) (.bool b2))):OH P D L e (.pick z (.const (.bool true)) x) (.bool (b||b2)):=fun _ _ _ _ _=>OpOk.pickOr hc hx
theorem jand2(hC:C=true)(hc:ev e z=some (gv C (.bool b)))(hx:ev e x=some (gv (C&&b) (.bool b2))):OH P D L e (.pick z x (.const (.bool false))) (.bool (b&&b2)):=fun _ _ _ _ _=>OpOk.pickAnd2 hC hc hx
theorem jor2(hC:C=true)(hc:ev e z=some (gv C (.bool b)))(hx:ev e x=some (gv (C&&!b) (.bool b2))):OH P D L e (.pick z (.const (.bool true)) x) (.bool (b||b2)):=fun _ _ _ _ _=>OpOk.pickOr2 hC hc hx
theorem jnot(hx:ev e x=some (.bool b)):OH P D L e (.unOp .not T x) (.bool (!b)):=fun _ _ _ _ _=>OpOk.not hx
theorem jneg(hx:ev e x=some (.int k m)):OH P D L e (.unOp .neg T x) (.int k (k.wrap (0-m))):=fun _ _ _ _ _=>OpOk.neg hx rfl
theorem jex'{vs:Array Value}{i:Nat}(hx:ev e x=some (.tuple vs))(hi:vs[i]? = some v):OH P D L e (.extract x i) v:=fun _ _ _ _ _=>OpOk.extract hx hi
theorem jnil{a:Addr}(hx:ev e x=some (.pointer (some a))):OH P D L e (.nilCheck x) (.pointer (some a)):=fun _ _ _ _ _=>OpOk.nilCheck hx
theorem jadd(hx:ev e x=some (.int .i64 m))(hy:ev e y=some (.int .i64 n))(hr:-9223372036854775808≤m+n∧m+n≤9223372036854775807):OH P D L e (.binOp .add T x y T') (.int .i64 (m+n)):=fun _ _ _ _ _=>OpOk.add hx hy hr
theorem jsub(hx:ev e x=some (.int .i64 m))(hy:ev e y=some (.int .i64 n))(hr:-9223372036854775808≤m-n∧m-n≤9223372036854775807):OH P D L e (.binOp .sub T x y T') (.int .i64 (m-n)):=fun _ _ _ _ _=>OpOk.sub hx hy hr
theorem jmul(hx:ev e x=some (.int .i64 m))(hy:ev e y=some (.int .i64 n))(hr:-9223372036854775808≤m*n∧m*n≤9223372036854775807):OH P D L e (.binOp .mul T x y T') (.int .i64 (m*n)):=fun _ _ _ _ _=>OpOk.mul hx hy hr
theorem jaddw(hx:ev e x=some (.int k m))(hy:ev e y=some (.int k n)):OH P D L e (.binOp .add T x y T') (.int k (k.wrap (m+n))):=fun _ _ _ _ _=>OpOk.addw hx hy rfl
theorem jsubw(hx:ev e x=some (.int k m))(hy:ev e y=some (.int k n)):OH P D L e (.binOp .sub T x y T') (.int k (k.wrap (m-n))):=fun _ _ _ _ _=>OpOk.subw hx hy rfl
theorem jmulw(hx:ev e x=some (.int k m))(hy:ev e y=some (.int k n)):OH P D L e (.binOp .mul T x y T') (.int k (k.wrap (m*n))):=fun _ _ _ _ _=>OpOk.mulw hx hy rfl
theorem jrem(hx:ev e x=some (.int k m))(hy:ev e y=some (.int k n))(h0:n≠0):OH P D L e (.binOp .rem T x y T') (.int k (m.tmod n)):=fun _ _ _ _ _=>OpOk.rem hx hy h0
theorem jquo(hx:ev e x=some (.int k m))(hy:ev e y=some (.int k n))(h0:n≠0):OH P D L e (.binOp .quo T x y T') (.int k (k.wrap (m.tdiv n))):=fun _ _ _ _ _=>OpOk.quow hx hy h0 rfl
theorem jlss(hx:ev e x=some (.int k m))(hy:ev e y=some (.int k n)):OH P D L e (.binOp .lss T x y T') (.bool (decide (m<n))):=fun _ _ _ _ _=>OpOk.lss hx hy
theorem jleq(hx:ev e x=some (.int k m))(hy:ev e y=some (.int k n)):OH P D L e (.binOp .leq T x y T') (.bool (decide (m≤n))):=fun _ _ _ _ _=>OpOk.leq hx hy
theorem jgtr(hx:ev e x=some (.int k m))(hy:ev e y=some (.int k n)):OH P D L e (.binOp .gtr T x y T') (.bool (decide (n<m))):=fun _ _ _ _ _=>OpOk.gtr hx hy
theorem jgeq(hx:ev e x=some (.int k m))(hy:ev e y=some (.int k n)):OH P D L e (.binOp .geq T x y T') (.bool (decide (n≤m))):=fun _ _ _ _ _=>OpOk.geq hx hy
theorem jeql(hx:ev e x=some (.int k m))(hy:ev e y=some (.int k n)):OH P D L e (.binOp .eql T x y T') (.bool (decide (m=n))):=fun _ _ _ _ _=>OpOk.eql hx hy
theorem jneq(hx:ev e x=some (.int k m))(hy:ev e y=some (.int k n)):OH P D L e (.binOp .neq T x y T') (.bool (!decide (m=n))):=fun _ _ _ _ _=>OpOk.neq hx hy
theorem jandw(hx:ev e x=some (.int k m))(hy:ev e y=some (.int k n)):OH P D L e (.binOp .and T x y T') (.int k (andI k m n)):=fun _ _ _ _ _=>OpOk.andw hx hy
theorem jorw(hx:ev e x=some (.int k m))(hy:ev e y=some (.int k n)):OH P D L e (.binOp .or T x y T') (.int k (orI k m n)):=fun _ _ _ _ _=>OpOk.orw hx hy
theorem jxorw(hx:ev e x=some (.int k m))(hy:ev e y=some (.int k n)):OH P D L e (.binOp .xor T x y T') (.int k (xorI k m n)):=fun _ _ _ _ _=>OpOk.xorw hx hy
theorem jshl(hx:ev e x=some (.int k m))(hy:ev e y=some (.int k' n))(h0:0≤n):OH P D L e (.binOp .shl T x y T') (.int k (shlI k m n)):=fun _ _ _ _ _=>OpOk.shlw hx hy h0
theorem jshr(hx:ev e x=some (.int k m))(hy:ev e y=some (.int k' n))(h0:0≤n):OH P D L e (.binOp .shr T x y T') (.int k (shrI k m n)):=fun _ _ _ _ _=>OpOk.shrw hx hy h0
theorem jeqlB(hT:P.underlying T=some .bool)(hx:ev e x=some (.bool b))(hy:ev e y=some (.bool b2)):OH P D L e (.binOp .eql T x y T') (.bool (b==b2)):=fun _ _ _ _ _=>OpOk.eqlB hT hx hy
theorem jeqlF{ps rs:Array TypeId}{vr:Bool}{fn:Fn}{a1 a2:Array Value}(hT:P.underlying T=some (.func ps rs vr))(hx:ev e x=some (.func fn a1 a2))(hy:ev e y=some .nilFunc):OH P D L e (.binOp .eql T x y T') (.bool false):=fun _ _ _ _ _=>OpOk.eqlF hT hx hy
theorem jeqlN{ps rs:Array TypeId}{vr:Bool}(hT:P.underlying T=some (.func ps rs vr))(hx:ev e x=some .nilFunc)(hy:ev e y=some .nilFunc):OH P D L e (.binOp .eql T x y T') (.bool true):=fun _ _ _ _ _=>OpOk.eqlN hT hx hy
theorem jmin{ts:Array TypeId}(hx:ev e x=some (.int k m))(hy:ev e y=some (.int k n)):OH P D L e (.call { callee := .builtin .min,args:=#[x,y],argTypes:=ts }) (.int k (Min.min m n)):=fun _ _ _ _ _=>OpOk.min3 hx hy
theorem jmax{ts:Array TypeId}(hx:ev e x=some (.int k m))(hy:ev e y=some (.int k n)):OH P D L e (.call { callee := .builtin .max,args:=#[x,y],argTypes:=ts }) (.int k (Max.max m n)):=fun _ _ _ _ _=>OpOk.max3 hx hy
theorem jco{S:TypeId}{d}(hs:P.underlying S=some d)(hd:P.underlying T=some (.int k'))(hx:ev e x=some (.int k m))(hk:k'.wrap m=r):OH P D L e (.convert S T x) (.int k' r):=fun _ _ _ _ _=>OpOk.convI hs hd hx hk
theorem jmf1{fn:Fn}(hx:ev e x=some u):OH P D L e (.makeFunc fn #[] #[x]) (.func fn #[] #[u]):=fun _ _ _ _ _=>OpOk.makeFunc1 hx
theorem jmf2{fn:Fn}(hx:ev e x=some u)(hy:ev e y=some v):OH P D L e (.makeFunc fn #[] #[x,y]) (.func fn #[] #[u,v]):=fun _ _ _ _ _=>OpOk.makeFunc2 hx hy
theorem jmf3{fn:Fn}(hx:ev e x=some u)(hy:ev e y=some v)(hz:ev e z=some w):OH P D L e (.makeFunc fn #[] #[x,y,z]) (.func fn #[] #[u,v,w]):=fun _ _ _ _ _=>OpOk.makeFunc3 hx hy hz
theorem jf{i off b o:Nat}(hF:Fld P T i off)(hx:ev e x=some (.pointer (some ⟨b,o,none⟩))):OH P D L e (.fieldAddr T x i) (.pointer (some ⟨b,o+off,none⟩)):=fun _ _ _ _ _=>OpOk.fieldAddr hF hx
theorem jixa{E:TypeId}{b o len s i:Nat}{I:Int}(hT:P.underlying T=some (.array len E))(hE:Sz P E s)(hx:ev e x=some (.pointer (some ⟨b,o,none⟩)))(hi:ev e y=some (.int k I))(hI:I=i)(h1:i<len):OH P D L e (.indexAddr T x y) (.pointer (some ⟨b,o+i*s,none⟩)):=fun _ _ _ _ _=>OpOk.indexArr hT hE hx hi hI h1
theorem jfo{i off:Nat}{cs:Array Value}{t:TypeId}(hF:∃fs f,P.underlying T=some (.struct fs)∧fs[i]? = some f∧f.offset=off∧f.type=t)(ht:One P t)(hx:ev e x=some (.agg cs))(hv:cs[off]? = some v):OH P D L e (.field T x i) v:=fun _ _ _ _ _=>OpOk.fieldOne hF ht hx hv
theorem jbu{l:List (Nat×Operand)}{r:List (Nat×Value)}(hl:evs e l=some r)(hb:∀w,(Instr.build T r.toArray).run P w = .ok v w):OH P D L e (.build T l.toArray) v:=fun _ _ _ _ _=>OpOk.build hl hb
theorem jci{E:TypeId}{n:Nat}{l:List Int}{I:Int}(hT:P.underlying T=some (.array n E))(hE:Sz P E 1)(hO:One P E)(hx:ev e x=some (.agg (l.map (Value.int k)).toArray))(hi:ev e y=some (.int k' I))(h1:0≤I∧I<n∧n=l.length):OH P D L e (.index T x y) (.int k (ix l I.toNat)):=fun _ _ _ _ _=>OpOk.indexI hT hE hO hx hi h1
end
section
variable{T:TypeId}{T':TypeId}{x:Operand}{g o m:Nat}{cs ds:List Value}{v:Value}
theorem jl(hk:Tk L (bx g T cs) M)(hT:One P T')(hx:ev e x=some (.pointer (some ⟨g,o,none⟩)))(hl:cs[o]? = some v):OH P D L e (.load T' x) v:=fun F H _ _ h=>OpOk.ldBx (hk.ok h).1.1 hT hx hl
theorem jla(hk:Tk L (bx g T cs) M)(hT:∃d,P.underlying T'=some d∧(match d with | .struct _ | .array _ _=>true|_=>false)=true)(hS:Sz P T' m)(hx:ev e x=some (.pointer (some ⟨g,o,none⟩)))(hl:(cs.drop o).take m=ds)(hm:ds.length=m):OH P D L e (.load T' x) (.agg ds.toArray):=fun F H _ _ h=>OpOk.ldBxA (hk.ok h).1.1 hT hS hx hl hm
theorem jli{k:IntKind}{l:List Int}{i:Nat}(hk:Tk L (bx g T (l.map (Value.int k))) M)(hi:i<l.length)(ho:o=i)(hT:One P T')(hx:ev e x=some (.pointer (some ⟨g,o,none⟩))):OH P D L e (.load T' x) (.int k (ix l i)):=fun F H _ _ h=>OpOk.ldBxI (hk.ok h).1.1 hi ho hT hx
end
section
variable{α:Type}{r:Rp α}{v:Value}{l:List α}{B:Nat}{T E:TypeId}{x y:Operand}{k k':IntKind}{i N b o:Nat}{I m:Int}{a:α}
theorem jln(hT:P.underlying T=some (.slice E))(hs:Nd D L (dv (rLn N r) v l))(hx:ev e x=some v):OH P D L e (.call { callee := .builtin .len,args:=#[x],argTypes:=#[T] }) (.int .i64 (l.length:Nat)):=fun F H a b c=>OpOk.lenL hT (hs F H a b c) hx
theorem jix(hT:P.underlying T=some (.slice E))(hE:Sz P E r.sz)(hs:Nd D L (dv (rLn N r) v l))(hx:ev e x=some v)(hi:ev e y=some (.int k I))(hI:I=i)(h1:i<l.length)(hsz:0<r.sz:=by exact Nat.le_of_ble_eq_true rfl):OH P D L e (.indexAddr T x y) (.pointer (some ⟨vblk v,voff v+i*r.sz,none⟩)):=fun F H a b c=>OpOk.idxL hT hE (hs F H a b c) hx hi hI h1 hsz
theorem jlI(hat:Nd D L (ad (rI k) b o m))(hT:One P T)(hx:ev e x=some (.pointer (some ⟨b,o,none⟩))):OH P D L e (.load T x) (.int k m):=fun F H a b c=>OpOk.ldI a (hat F H a b c) hT hx
theorem jlB{m:Bool}(hat:Nd D L (ad rB b o m))(hT:One P T)(hx:ev e x=some (.pointer (some ⟨b,o,none⟩))):OH P D L e (.load T x) (.bool m):=fun F H a b c=>OpOk.ldB a (hat F H a b c) hT hx
theorem jlV(hat:Nd D L (ad r b o a))(hT:One P T)(hS:r.sz=1)(hx:ev e x=some (.pointer (some ⟨b,o,none⟩))):OE P D L e (.load T x) (fun v F=>(dv r v a).sat F):=fun F H h1 h2 h3=>OpOk.ldV h1 (hat F H h1 h2 h3) hT hS hx
theorem jlA(hat:Nd D L (ad r b o a))(hT:∃d,P.underlying T=some d∧(match d with | .struct _ | .array _ _=>true|_=>false)=true)(hS:Sz P T r.sz)(hx:ev e x=some (.pointer (some ⟨b,o,none⟩))):OE P D L e (.load T x) (fun v F=>(da r v a).sat F):=fun F H h1 h2 h3=>OpOk.ldA h1 (hat F H h1 h2 h3) hT hS hx
theorem jshi{z:Operand}{J:Int}{hi:Nat}(hT:P.underlying T=some (.slice E))(hE:Sz P E r.sz)(hs:Nd D L (dv (rLn N r) v l))(hx:ev e x=some v)(hh:ev e z=some (.int k' J))(hJ:J=hi)(h2:hi≤l.length):OH P D L e (.slice T x none (some z) none) (resl r.sz v 0 hi):=fun F H a b c=>OpOk.sliceHiL hT hE (hs F H a b c) a hx hh hJ h2
theorem jslo{z:Operand}{J:Int}{lo:Nat}(hT:P.underlying T=some (.slice E))(hE:Sz P E r.sz)(hs:Nd D L (dv (rLn N r) v l))(hx:ev e x=some v)(hh:ev e z=some (.int k' J))(hJ:J=lo)(h2:lo≤l.length):OH P D L e (.slice T x (some z) none none) (resl r.sz v lo l.length):=fun F H a b c=>OpOk.sliceLoL hT hE (hs F H a b c) a hx hh hJ h2
end
section
variable{α:Type} [Inhabited α]{r:Rp α}{v:Value}{l:List α}{B:Nat}{T E:TypeId}{x y:Operand}{k k':IntKind}{i N b o:Nat}{I m:Int}{a:α}
omit [Inhabited α] in
theorem jlg(hT:P.underlying T=some (.slice E))(hk:Tk L (gl B r E v l) M)(hx:ev e x=some v):OH P D L e (.call { callee := .builtin .len,args:=#[x],argTypes:=#[T] }) (.int .i64 (l.length:Nat)):=fun F H _ _ h=>OpOk.lenG hT (hk.ok h).1.1 hx
omit [Inhabited α] in
theorem jig(hT:P.underlying T=some (.slice E))(hE:Sz P E r.sz)(hk:Tk L (gl B r E v l) M)(hx:ev e x=some v)(hi:ev e y=some (.int k I))(hI:I=i)(h1:i<l.length)(hsz:0<r.sz:=by exact Nat.le_of_ble_eq_true rfl):OH P D L e (.indexAddr T x y) (.pointer (some ⟨vblk v,voff v+i*r.sz,none⟩)):=fun F H _ _ h=>OpOk.idxG hT hE (hk.ok h).1.1 hx hi hI h1 hsz
theorem jgI{l:List Int}(hk:Tk L (gl B (rI k) E v l) M)(hi:i<l.length)(hT:One P T)(hx:ev e x=some (.pointer (some ⟨vblk v,voff v+i*1,none⟩))):OH P D L e (.load T x) (.int k (ix l i)):=fun F H _ _ h=>OpOk.ldGI (hk.ok h).1.1 hi hT hx
theorem jgB{l:List Bool}(hk:Tk L (gl B rB E v l) M)(hi:i<l.length)(hT:One P T)(hx:ev e x=some (.pointer (some ⟨vblk v,voff v+i*1,none⟩))):OH P D L e (.load T x) (.bool (ix l i)):=fun F H _ _ h=>OpOk.ldGB (hk.ok h).1.1 hi hT hx
theorem jgV(hk:Tk L (gl B r E v l) M)(hi:i<l.length)(hT:One P T)(hs:r.sz=1)(hx:ev e x=some (.pointer (some ⟨vblk v,voff v+i*1,none⟩))):OE P D L e (.load T x) (fun u F=>(dv r u (ix l i)).sat F):=fun F H _ _ h=>OpOk.ldGV (hk.ok h).1.1 hi hT hs hx
theorem jshg{z:Operand}{J:Int}{hi:Nat}(hT:P.underlying T=some (.slice E))(hE:Sz P E r.sz)(hk:Tk L (gl B r E v l) M)(hx:ev e x=some v)(hh:ev e z=some (.int k' J))(hJ:J=hi)(h2:hi≤l.length):OH P D L e (.slice T x none (some z) none) (resl r.sz v 0 hi):=fun F H _ _ h=>OpOk.sliceHiG hT hE (hk.ok h).1.1 hx hh hJ h2
end
section
variable{n:Fs}{w0:World}{Q:Exit→Act→World→Prop}{X:Cx}{ops:Array Oper}{op:Op}{d:Nat}{ty:TypeId}{pos:String}{af:Array Edge}{rest:List Oper}{K:Act→World→Prop}{α:Type}{r:Rp α}{l:List α}{N:Nat}
theorem jev(h:OE P D L e op (fun v F=>(dv (rLn N r) v l).sat F))(k:∀v,Qn N l.length→Sv v→LH P n w0 ops Q X (dv (rLn N r) v l::D) L ((d,v)::e) rest)(hd:Nat.blt d n.sz=true:=by rfl):LH P n w0 ops Q X D L e (⟨some d,op,ty,pos,af,none⟩::rest) :=
 fun F H hp=>by
  obtain⟨v,h1,h2⟩:=h F H hp.hin hp.hd hp.ok
  exact LF.step h1 (k v h2.1 (dv1 h2) F H (hp.datum h2)) hd
theorem jtv(h:OE P D L e op (fun v F=>(dv (rLn N r) v l).sat F))(k:∀v,Qn N l.length→Sv v→SH P n w0 ops K X (dv (rLn N r) v l::D) L ((d,v)::e) rest)(hd:Nat.blt d n.sz=true:=by rfl):SH P n w0 ops K X D L e (⟨some d,op,ty,pos,af,none⟩::rest) :=
 fun F H hp=>by
  obtain⟨v,h1,h2⟩:=h F H hp.hin hp.hd hp.ok
  exact LS.step h1 (k v h2.1 (dv1 h2) F H (hp.datum h2)) hd
variable{v:Value}{c:Code}{p:Prop}
theorem jdq(h:Nd D L (dv (rLn N r) v l))(k:Qn N l.length→Sv v→LH P n w0 ops Q X D L e rest):LH P n w0 ops Q X D L e rest:=fun F H hp=>by
 have h1:=h F H hp.hin hp.hd hp.ok;exact k h1.1 (dv1 h1) F H hp
theorem cdq(h:Nd D L (dv (rLn N r) v l))(k:Qn N l.length→Sv v→CH P n w0 Q X D L e c):CH P n w0 Q X D L e c:=fun F H hp=>by
 have h1:=h F H hp.hin hp.hd hp.ok;exact k h1.1 (dv1 h1) F H hp
theorem jwr{k:IntKind}{m:Int}(h:Wr D L k m)(K:k.wrap m=m→LH P n w0 ops Q X D L e rest):LH P n w0 ops Q X D L e rest:=fun F H hp=>K (h F H hp.hin hp.hd hp.ok) F H hp
theorem cwr{k:IntKind}{m:Int}(h:Wr D L k m)(K:k.wrap m=m→CH P n w0 Q X D L e c):CH P n w0 Q X D L e c:=fun F H hp=>K (h F H hp.hin hp.hd hp.ok) F H hp
theorem jgo{α:Type}{r:Rp α}{B:Nat}{E:TypeId}{l:List α}(hk:Tk L (gl B r E v l) M)(K:Sv v→LH P n w0 ops Q X D L e rest):LH P n w0 ops Q X D L e rest:=fun F H hp=>K (Gl.sv (hp.at hk).1) F H hp
theorem cgo{α:Type}{r:Rp α}{B:Nat}{E:TypeId}{l:List α}(hk:Tk L (gl B r E v l) M)(K:Sv v→CH P n w0 Q X D L e c):CH P n w0 Q X D L e c:=fun F H hp=>K (Gl.sv (hp.at hk).1) F H hp
theorem qgo{α:Type}{r:Rp α}{B:Nat}{E:TypeId}{l:List α}{z:Exit}(hk:Tk L (gl B r E v l) M)(K:Sv v→QH n w0 Q X D L e z):QH n w0 Q X D L e z:=fun F H hp=>K (Gl.sv (hp.at hk).1) F H hp
theorem tdq(h:Nd D L (dv (rLn N r) v l))(k:Qn N l.length→Sv v→SH P n w0 ops K X D L e rest):SH P n w0 ops K X D L e rest:=fun F H hp=>by
 have h1:=h F H hp.hin hp.hd hp.ok;exact k h1.1 (dv1 h1) F H hp
theorem qwr{k:IntKind}{m:Int}{x:Exit}(h:Wr D L k m)(k':k.wrap m=m→QH n w0 Q X D L e x):QH n w0 Q X D L e x:=fun F H hp=>k' (h F H hp.hin hp.hd hp.ok) F H hp
end
end Go.JE
namespace Go.JE
variable{P:Program}{D:List Dt}{L M Ls:List Res}{e:Env}{X:Cx}{n:Fs}{w0:World}{Q:Exit→Act→World→Prop}
section
variable{α:Type}{r:Rp α}{v:Value}{l l':List α}{F:PH}{H H':Heap}{E:TypeId}{B:Nat}
theorem hp1(h:Hp X D L F H)(hk:Tk L (gl B r E v l) M):B≤H.size:=(h.at hk).2
theorem Hp.grow{v':Value}(h:Hp X D L F H)(hk:Tk L (gl B r E v l) M)(hg:Gl r E F H' B v' l')(hb:GrownBy H H' v.ownBlock)(ho:v'.ownBlock=v.ownBlock∨∃g,v'.ownBlock=some g∧H.size≤g):Hp X D (gl B r E v' l'::M) F H' :=
 h.set (R':=gl B r E v' l') hk ⟨hb.1,fun k h1 h2=>hb.2 k h1 (fun h3=>h2 h3.symm)⟩ ⟨hg,Nat.le_trans (hp1 h hk) hb.1⟩ fun k h1=>by
  rcases ho with ho|⟨g,ho,hg⟩
  ·exact .inr (ho.symm.trans h1)
  ·have h2:some g=some k:=ho.symm.trans h1
   injection h2 with h2;exact .inl (h2▸hg)
end
section
variable{ops:Array Oper}{d:Nat}{ty:TypeId}{pos:String}{af:Array Edge}{rest:List Oper}{v u z:Value}{x y:Operand}{T T' E:TypeId}{g o m bytes:Nat}{cs cs' ds:List Value}
theorem jbox(hx:ev e x=some v)(hv:v.cells=cs.toArray)(k:∀g,LH P n w0 ops Q X D (bx g T cs::L) ((d,.pointer (some ⟨g,0,none⟩))::e) rest)(hd:Nat.blt d n.sz=true:=by rfl):LH P n w0 ops Q X D L e (⟨some d,.box T x,ty,pos,af,none⟩::rest):=fun F H hp =>
 LF.chg (OpCh.boxB hx hv) (by rintro _ H' ⟨g,rfl,eg,sg,kg,hb⟩;exact k g F H' (hp.new (R:=bx g T cs) kg ⟨hb,hp.hin.nope (Nat.le_of_eq eg.symm)⟩ (fun k hk=>by have:k=g:=hk;omega))) hd
theorem jalc(hz:(P.info? T).bind (·.zero)=some z)(hv:z.cells=cs.toArray)(k:∀g,LH P n w0 ops Q X D (bx g T cs::L) ((d,.pointer (some ⟨g,0,none⟩))::e) rest)(hd:Nat.blt d n.sz=true:=by rfl):LH P n w0 ops Q X D L e (⟨some d,.alloc T,ty,pos,af,none⟩::rest):=fun F H hp =>
 LF.chg (OpCh.allocB hz hv) (by rintro _ H' ⟨g,rfl,eg,sg,kg,hb⟩;exact k g F H' (hp.new (R:=bx g T cs) kg ⟨hb,hp.hin.nope (Nat.le_of_eq eg.symm)⟩ (fun k hk=>by have:k=g:=hk;omega))) hd
theorem Tw.kwb{H H':Heap}(h:Tw g H H'):Kw (bx g T cs).own H H':=⟨Nat.le_of_eq h.1.symm,fun k _ h2=>h.2 k h2⟩
def St(l:List Value)(o:Nat)(v:Value)(l':List Value):Prop:=l.set o v=l'∧o<l.length
theorem s0{a:Value}{l:List Value}:St (a::l) 0 v (v::l):=⟨rfl,by simp⟩
theorem St.s{a:Value}{l l':List Value}(h:St l o v l'):St (a::l) (o+1) v (a::l'):=⟨by rw[List.set_cons_succ,h.1],by simpa using h.2⟩
theorem s1{a a0:Value}{l:List Value}:St (a0::a::l) 1 v (a0::v::l):=s0.s
theorem s2{a a0 a1:Value}{l:List Value}:St (a0::a1::a::l) 2 v (a0::a1::v::l):=s1.s
theorem s3{a a0 a1 a2:Value}{l:List Value}:St (a0::a1::a2::a::l) 3 v (a0::a1::a2::v::l):=s2.s
theorem s4{a a0 a1 a2 a3:Value}{l:List Value}:St (a0::a1::a2::a3::a::l) 4 v (a0::a1::a2::a3::v::l):=s3.s
theorem s5{a a0 a1 a2 a3 a4:Value}{l:List Value}:St (a0::a1::a2::a3::a4::a::l) 5 v (a0::a1::a2::a3::a4::v::l):=s4.s
theorem s6{a a0 a1 a2 a3 a4 a5:Value}{l:List Value}:St (a0::a1::a2::a3::a4::a5::a::l) 6 v (a0::a1::a2::a3::a4::a5::v::l):=s5.s
theorem s7{a a0 a1 a2 a3 a4 a5 a6:Value}{l:List Value}:St (a0::a1::a2::a3::a4::a5::a6::a::l) 7 v (a0::a1::a2::a3::a4::a5::a6::v::l):=s6.s
theorem s8{a a0 a1 a2 a3 a4 a5 a6 a7:Value}{l:List Value}:St (a0::a1::a2::a3::a4::a5::a6::a7::a::l) 8 v (a0::a1::a2::a3::a4::a5::a6::a7::v::l):=s7.s
theorem s9{a a0 a1 a2 a3 a4 a5 a6 a7 a8:Value}{l:List Value}:St (a0::a1::a2::a3::a4::a5::a6::a7::a8::a::l) 9 v (a0::a1::a2::a3::a4::a5::a6::a7::a8::v::l):=s8.s
theorem jst(hk:Tk L (bx g T cs) M)(hT:Sz P T' 1)(hx:ev e x=some (.pointer (some ⟨g,o,none⟩)))(hy:ev e y=some v)(h1:v.oneCell'=true)(hs:St cs o v cs')(k:LH P n w0 ops Q X D (bx g T cs'::M) e rest):LH P n w0 ops Q X D L e (⟨none,.store T' x y,ty,pos,af,none⟩::rest):=fun F H hp =>
 LF.chg0 (OpCh.storeB (hp.at hk).1 hT hx hy h1 hs.2) (by rintro _ H' ⟨t,b⟩;exact k F H' (hp.set (R':=bx g T cs') hk t.kwb ⟨hs.1▸b,(hp.at hk).2⟩ (fun k h => .inr h)))
def Sta(l:List Value)(o:Nat)(c l':List Value):Prop:=setAt l o c=l'∧o+c.length≤l.length
theorem setAt_cons{a:Value}:∀(c l:List Value) (o:Nat),setAt (a::l) (o+1) c=a::setAt l o c
 | [],_,_=>rfl
 | v::c,l,o=>by show setAt ((a::l).set (o+1) v) (o+1+1) c=_;rw[List.set_cons_succ,setAt_cons c];rfl
theorem sa{l:List Value}:Sta l 0 [] l:=⟨rfl,by simp⟩
theorem Sta.c{a b:Value}{l c l':List Value}(h:Sta l 0 c l'):Sta (a::l) 0 (b::c) (b::l'):=⟨by show setAt ((a::l).set 0 b) (0+1) c=_;rw[List.set_cons_zero,setAt_cons,h.1],by have:=h.2;simp at this ⊢;omega⟩
theorem Sta.s{a:Value}{l c l':List Value}(h:Sta l o c l'):Sta (a::l) (o+1) c (a::l'):=⟨by rw[setAt_cons,h.1],by have:=h.2;simp at this ⊢;omega⟩
theorem saf:∀{l c:List Value} (_:c.length=l.length),Sta l 0 c c
 | [],[],_=>sa
 | _::_,_::_,h=>(saf (by simpa using h)).c
 | [],_::_,h=>by cases h
 | _::_,[],h=>by cases h
theorem jsta(hk:Tk L (bx g T cs) M)(hT:Sz P T' m)(hx:ev e x=some (.pointer (some ⟨g,o,none⟩)))(hy:ev e y=some (.agg ds.toArray))(hl:ds.length=m)(h1:allOne ds)(hs:Sta cs o ds cs')(k:LH P n w0 ops Q X D (bx g T cs'::M) e rest):LH P n w0 ops Q X D L e (⟨none,.store T' x y,ty,pos,af,none⟩::rest):=fun F H hp =>
 LF.chg0 (OpCh.storeBA (hp.at hk).1 hT hx hy hl h1.mem (hl▸hs.2)) (by rintro _ H' ⟨t,b⟩;exact k F H' (hp.set (R':=bx g T cs') hk t.kwb ⟨hs.1▸b,(hp.at hk).2⟩ (fun k h => .inr h)))
end
section
variable{ops:Array Oper}{d d2:Nat}{ty ty2:TypeId}{pos pos2:String}{af af2:Array Edge}{rest:List Oper}{v u z:Value}{x y:Operand}{T T' E:TypeId}{i m bytes B:Nat}{α:Type}{r:Rp α}{l:List α}{a:α}
theorem jnl(k:LH P n w0 ops Q X D (gl X.n r E (.slice none 0 0) []::L) e rest):LH P n w0 ops Q X D L e rest:=fun F H hp=>k F H (hp.new (R:=gl X.n r E (.slice none 0 0) []) (Kp.refl _ _) ⟨Gl.nil _ _ _,hp.hw.1⟩ (fun k h=>by cases h))
theorem cnl{c:Code}(k:CH P n w0 Q X D (gl X.n r E (.slice none 0 0) []::L) e c):CH P n w0 Q X D L e c:=fun F H hp=>k F H (hp.new (R:=gl X.n r E (.slice none 0 0) []) (Kp.refl _ _) ⟨Gl.nil _ _ _,hp.hw.1⟩ (fun k h=>by cases h))
theorem qnl{z:Exit}(k:QH n w0 Q X D (gl X.n r E (.slice none 0 0) []::L) e z):QH n w0 Q X D L e z:=fun F H hp=>k F H (hp.new (R:=gl X.n r E (.slice none 0 0) []) (Kp.refl _ _) ⟨Gl.nil _ _ _,hp.hw.1⟩ (fun k h=>by cases h))
theorem Hp.newG{F:PH}{H H':Heap}(hp:Hp X D L F H)(kg:Kp H.size H H')(hb:InH F H→Gl r E F H' H.size v l):Hp X D (gl X.n r E v l::L) F H' :=
 hp.new (R:=gl X.n r E v l) kg ⟨(hb hp.hin).base hp.hw.1,Nat.le_trans hp.hw.1 kg.1⟩ (fun k hk=>((hb hp.hin).blk k hk).1)
theorem jmk{I J:Int}(hT:P.underlying T=some (.slice E))(hE:(P.info? E).map (fun i=>(i.zero,i.size,i.bytes))=some (some z,1,bytes))(hz:z.cells=#[z])(hx:ev e x=some (.int .i64 I))(hy:ev e y=some (.int .i64 J))(hI:I=m)(hJ:J=m)(h1:bytes*m≤281474976710656∧m≤140737488355328)(hok:Nd D L (dv r z a))(hs:r.sz=1)
  (k:∀g,LH P n w0 ops Q X D (gl X.n r E (.slice (some ⟨g,0,none⟩) m m) (List.replicate m a)::L) ((d,.slice (some ⟨g,0,none⟩) m m)::e) rest) (hd:Nat.blt d n.sz=true:=by rfl):LH P n w0 ops Q X D L e (⟨some d,.makeSlice T x y,ty,pos,af,none⟩::rest):=fun F H hp =>
 LF.chg (OpCh.makeL (F:=F) (r:=r) (n:=m) (a:=a) hT hE hz hx hy hI hJ h1.1 h1.2 (hok F H hp.hin hp.hd hp.ok) hs) (by rintro _ H' ⟨g,rfl,eg,sg,kg,hb⟩;exact k g F H' (hp.newG kg hb)) hd
theorem litOk.up{F G:PH}(hl:F.le G):∀{l:List α} {us:List Value} {cs:List (List Value)},litOk r F l us cs→litOk r G l us cs
 | [],[],[],h=>h
 | _::_,_::_,_::_,h=>⟨h.1,h.2.1,Rp.up _ hl h.2.2.1,litOk.up hl h.2.2.2⟩
 | [],_::_,_,h=>h.elim
 | [],[],_::_,h=>h.elim
 | _::_,[],_,h=>h.elim
 | _::_,_::_,[],h=>h.elim
def dlit(r:Rp α)(l:List α)(us:List Value)(cs:List (List Value)):Dt:=⟨fun F=>litOk r F l us cs,fun hl h=>litOk.up hl h⟩
theorem ln:Nd D L (dlit r [] [] []):=fun _ _ _ _ _=>trivial
theorem lA{us c:List Value}{cs:List (List Value)}(h:Nd D L (da r (.agg c.toArray) a))(h':Nd D L (dlit r l us cs)):Nd D L (dlit r (a::l) (.agg c.toArray::us) (c::cs)):=fun F H p q s=>by
 obtain⟨l',e,h1,h2⟩:=h F H p q s
 injection e with e;have e:c=l':=by simpa using e
 subst e;exact⟨rfl,h1,h2,h' F H p q s⟩
theorem lV{u:Value}{us:List Value}{cs:List (List Value)}(hs:r.sz=1)(h1:u.oneCell'=true)(h:Nd D L (dv r u a))(h':Nd D L (dlit r l us cs)):Nd D L (dlit r (a::l) (u::us) ([u]::cs)):=fun F H p q s =>
 ⟨cells1 h1,hs.symm,r.ext (fun j hj=>by rw[show j=0 by omega];rfl) (h F H p q s),h' F H p q s⟩
theorem jlit{ys:List (Nat×Operand)}{us:List Value}{cs:List (List Value)}(hT:P.underlying T=some (.slice E))(hE:(P.info? E).map (fun i=>(i.zero,i.size,i.bytes))=some (some z,r.sz,bytes))(hm:m≤1000∧0<r.sz∧r.sz≤1000)(hz:z.cells.size=r.sz)(hr:evs e ys=some ((us.zipIdx 0).map fun p=>(p.2,p.1)))(hlm:l.length=m)
  (hok:Nd D L (dlit r l us cs))
  (k:∀g,LH P n w0 ops Q X D (gl X.n r E (.slice (some ⟨g,0,none⟩) m m) l::L) ((d,.slice (some ⟨g,0,none⟩) m m)::e) rest) (hd:Nat.blt d n.sz=true:=by rfl):LH P n w0 ops Q X D L e (⟨some d,.buildSlice T m ys.toArray,ty,pos,af,none⟩::rest):=fun F H hp =>
 LF.chg (OpCh.litL (F:=F) hT hE hm hz hr hlm (hok F H hp.hin hp.hd hp.ok)) (by rintro _ H' ⟨g,rfl,eg,sg,kg,hb⟩;exact k g F H' (hp.newG kg hb)) hd
theorem jsg(hk:Tk L (gl B r E v l) M)(hs:r.sz=1)(hT:Sz P T 1)(hx:ev e x=some (.pointer (some ⟨vblk v,voff v+i*1,none⟩)))(hy:ev e y=some u)(h1:u.oneCell'=true)(hi:i<l.length)(hok:Nd D L (dv r u a))
  (k:LH P n w0 ops Q X D (gl B r E v (l.set i a)::M) e rest):LH P n w0 ops Q X D L e (⟨none,.store T x y,ty,pos,af,none⟩::rest):=fun F H hp =>
 LF.chg0 (OpCh.storeG (hp.at hk).1 hs hT hx hy h1 hi (hok F H hp.hin hp.hd hp.ok)) (by
  rintro _ H' ⟨g,hg,t,hb⟩
  exact k F H' (hp.set (R':=gl B r E v (l.set i a)) hk ⟨Nat.le_of_eq t.1.symm,fun k _ h2=>t.2 k (fun e1=>h2 (e1▸hg))⟩ ⟨hb,by rw[t.1];exact hp1 hp hk⟩ (fun k h => .inr h)))
theorem jap{lc:List Value}(hT:P.underlying T=some (.slice E))(hE:(P.info? E).map (fun i=>(i.zero,i.size,i.bytes))=some (some z,r.sz,bytes))(hs:0<r.sz∧r.sz≤1000∧bytes≤8192)(hz:z.cells.size=r.sz)
  (hk:Tk L (gl B r E v l) M) (hy:ev e y=some (.agg lc.toArray)) (hra:Nd D L (da r (.agg lc.toArray) a)) (hb:l.length<4294967295) (hx:∀w,ev ((d,w)::e) x=some v)
  (k:∀v' g,Sv v'→LH P n w0 ops Q X D (gl B r E v' (l++[a])::M) ((d2,v')::(d,.slice (some ⟨g,0,none⟩) 1 1)::e) rest) (hd1:Nat.blt d n.sz=true:=by rfl) (hd2:Nat.blt d2 n.sz=true:=by rfl) :
  LH P n w0 ops Q X D L e (⟨some d,.buildSlice T 1 #[(0,y)],ty,pos,af,none⟩::⟨some d2,.call { callee := .builtin .append,args:=#[x,.tmp d],argTypes:=#[T,T] },ty2,pos2,af2,none⟩::rest):=fun F H hp =>
 LF.appA hT hE hs hz hy (hra F H hp.hin hp.hd hp.ok) (hp.at hk).1 hp.hin hb (hx _) (fun v' H' h1 h2 _ h3=>k v' _ (Gl.sv h1) F H' (hp.grow hk h1 h2 h3)) (hp1 hp hk) hd1 hd2
theorem japv(hT:P.underlying T=some (.slice E))(hE:(P.info? E).map (fun i=>(i.zero,i.size,i.bytes))=some (some z,r.sz,bytes))(hs:0<r.sz∧r.sz≤1000∧bytes≤8192)(hz:z.cells.size=r.sz)(hs1:r.sz=1)
  (hk:Tk L (gl B r E v l) M) (hy:ev e y=some u) (hra:Nd D L (dv r u a)) (hb:l.length<4294967295) (hx:∀w,ev ((d,w)::e) x=some v)
  (k:∀v' g,Sv v'→LH P n w0 ops Q X D (gl B r E v' (l++[a])::M) ((d2,v')::(d,.slice (some ⟨g,0,none⟩) 1 1)::e) rest) (hd1:Nat.blt d n.sz=true:=by rfl) (hd2:Nat.blt d2 n.sz=true:=by rfl) :
  LH P n w0 ops Q X D L e (⟨some d,.buildSlice T 1 #[(0,y)],ty,pos,af,none⟩::⟨some d2,.call { callee := .builtin .append,args:=#[x,.tmp d],argTypes:=#[T,T] },ty2,pos2,af2,none⟩::rest):=fun F H hp =>
 LF.appV hT hE hs hz hs1 hy (hra F H hp.hin hp.hd hp.ok) (hp.at hk).1 hp.hin hb (hx _) (fun v' H' h1 h2 _ h3=>k v' _ (Gl.sv h1) F H' (hp.grow hk h1 h2 h3)) (hp1 hp hk) hd1 hd2
theorem japl{w2:Value}{m:List α}{N:Nat}(hT:P.underlying T=some (.slice E))(hE:(P.info? E).map (fun i=>(i.zero,i.size,i.bytes))=some (some z,r.sz,bytes))(hs:0<r.sz∧r.sz≤1000∧bytes≤8192)(hz:z.cells.size=r.sz)
  (hk:Tk L (gl B r E v l) M) (hx:ev e x=some v) (hy:ev e y=some w2) (hm:Nd D L (dv (rLn N r) w2 m)) (hb:l.length+m.length<4294967296)
  (k:∀v',Sv v'→LH P n w0 ops Q X D (gl B r E v' (l++m)::M) ((d,v')::e) rest) (hd1:Nat.blt d n.sz=true:=by rfl) :
  LH P n w0 ops Q X D L e (⟨some d,.call { callee := .builtin .append,args:=#[x,y],argTypes:=#[T,T] },ty,pos,af,none⟩::rest):=fun F H hp =>
 LF.chg (OpCh.appL hT hE hs hz hx hy (hp.at hk).1 (hm F H hp.hin hp.hd hp.ok) hp.hin hb (hp1 hp hk)) (by rintro v' H' ⟨h1,h2,h3⟩;exact k v' (Gl.sv h1) F H' (hp.grow hk h1 h2 (ob_some h3))) hd1
theorem japvz(hT:P.underlying T=some (.slice E))(hE:(P.info? E).map (fun i=>(i.zero,i.size,i.bytes))=some (some z,r.sz,bytes))(hs:0<r.sz∧r.sz≤1000∧bytes≤8192)(hz:z.cells.size=r.sz)(hs1:r.sz=1)
 (hk:Tk L (gl B r E v []) M) (hy:ev e y=some u) (hra:Nd D L (dv r u a)) (hx:∀w,ev ((d,w)::e) x=some v)
 (k:∀v' g,Sv v'→LH P n w0 ops Q X D (gl B r E v' [a]::M) ((d2,v')::(d,.slice (some ⟨g,0,none⟩) 1 1)::e) rest) (hd1:Nat.blt d n.sz=true:=by rfl) (hd2:Nat.blt d2 n.sz=true:=by rfl) :
 LH P n w0 ops Q X D L e (⟨some d,.buildSlice T 1 #[(0,y)],ty,pos,af,none⟩::⟨some d2,.call { callee := .builtin .append,args:=#[x,.tmp d],argTypes:=#[T,T] },ty2,pos2,af2,none⟩::rest):=japv hT hE hs hz hs1 hk hy hra (Nat.lt_of_sub_eq_succ rfl) hx k hd1 hd2
theorem japlz{w2:Value}{m:List α}{N:Nat}(hT:P.underlying T=some (.slice E))(hE:(P.info? E).map (fun i=>(i.zero,i.size,i.bytes))=some (some z,r.sz,bytes))(hs:0<r.sz∧r.sz≤1000∧bytes≤8192)(hz:z.cells.size=r.sz)
 (hk:Tk L (gl B r E v []) M) (hx:ev e x=some v) (hy:ev e y=some w2) (hm:Nd D L (dv (rLn N r) w2 m)) (hb:m.length<4294967296)
 (k:∀v',Sv v'→LH P n w0 ops Q X D (gl B r E v' m::M) ((d,v')::e) rest) (hd1:Nat.blt d n.sz=true:=by rfl) :
 LH P n w0 ops Q X D L e (⟨some d,.call { callee := .builtin .append,args:=#[x,y],argTypes:=#[T,T] },ty,pos,af,none⟩::rest):=japl hT hE hs hz hk hx hy hm (by simpa using hb) k hd1
theorem Hp.freeze{F:PH}{H:Heap}{N:Nat}(hp:Hp X D L F H)(hk:Tk L (gl X.n r E v l) M)(hM:l.length<N):∃G,Hp X (dv (rLn N r) v l::D) M G H:=by
 obtain⟨o1,o2,o3⟩:=hk.ok hp.ok
 have o1':Gl r E F H X.n v l:=o1.1
 obtain⟨G,h1,h2,h3,h4,h5⟩:=o1'.freeze (N:=N) hp.hin hM
 have h6:∀k,Own M k→G k=F k:=fun k hk1=>h4 k (fun e1=>o2 k e1 hk1)
 exact⟨G,⟨⟨hp.hx.1.trans h1,fun k hk1=>(h3 k hk1).trans (hp.hx.2 k hk1)⟩,h2,hp.hw,⟨h5,hp.hd.up h1⟩,o3.st h1 (Nat.le_refl _) (fun k hk1=>(h6 k hk1).trans (o3.no hk1)) (fun _ _=>rfl),fun k hk1=>hp.ge k (hk.own (.inr hk1))⟩⟩
theorem jfz(hk:Tk L (gl X.n r E v l) M)(hM:l.length<1073741824)(k:LH P n w0 ops Q X (dv (rL r) v l::D) M e rest):LH P n w0 ops Q X D L e rest:=fun F H hp=>by
 obtain⟨G,h⟩:=hp.freeze hk hM;exact k G H h
theorem qfz{x:Exit}(hk:Tk L (gl X.n r E v l) M)(hM:l.length<1073741824)(k:QH n w0 Q X (dv (rL r) v l::D) M e x):QH n w0 Q X D L e x:=fun F H hp=>by
 obtain⟨G,h⟩:=hp.freeze hk hM;exact k G H h
end
end Go.JE
namespace Go.JE
variable{P:Program}{D D0:List Dt}{L M Ls L0:List Res}{e:Env}{X:Cx}{n:Fs}{w0:World}{Q:Exit→Act→World→Prop}
def Ap{α:Type}(A M N:List α):Prop:=A++M=N
section
variable{α:Type}{a b c d f g:α}{M:List α}
theorem p0:Ap [] M M:=rfl
theorem p1:Ap [a] M (a::M):=rfl
theorem p2:Ap [a,b] M (a::b::M):=rfl
theorem p3:Ap [a,b,c] M (a::b::c::M):=rfl
theorem p4:Ap [a,b,c,d] M (a::b::c::d::M):=rfl
end
abbrev Tv(P:Program)(f:FuncId)(args:Array Value)(D0:List Dt)(L0:List Res)(v:Value):Prop:=Tr P f args D0 L0 (fun _:Unit=>v) (fun _=>[]) (fun _ _=>[])
abbrev Td{α:Type}(P:Program)(f:FuncId)(args:Array Value)(D0:List Dt)(L0:List Res)(r:Rp α)(a:α):Prop:=Tr P f args D0 L0 (fun v:Value=>v) (fun v=>[dv r v a]) (fun _ _=>[])
abbrev Tg{α:Type}(P:Program)(f:FuncId)(args:Array Value)(D0:List Dt)(L0:List Res)(r:Rp α)(T:TypeId)(a:List α):Prop:=Tr P f args D0 L0 (fun v:Value=>v) (fun _=>[]) (fun B v=>[gl B r T v a])
section
variable{ops:Array Oper}{d:Nat}{ty:TypeId}{pos:String}{af:Array Edge}{rest:List Oper}{f:FuncId}{g:Operand}{xs:List Operand}{vs cs:List Value}{ts:Array TypeId}{ι:Type}{val:ι→Value}{dr:ι→List Dt}{lr:Nat→ι→List Res}{Dn:ι→List Dt}{Ln:ι→List Res}{v:Value}{args0:Array Value}
theorem Tr.run{F:PH}{H:Heap}{args:Array Value}(h:Tr P f args D0 L0 val dr lr)(hp:Hp X D L F H)(hd:Sd D L D0)(hk:Tks L L0 M):Ct P f args H (fun v H'=>∃i F',v=val i∧Hp X (dr i++D) (lr X.n i++M) F' H') :=
 (h F H hp.hin (hd F H hp.hin hp.hd hp.ok) (hk.ok hp.ok).1).mono fun v H' ⟨i,F',h1,h2⟩=>⟨i,F',h1,(fun h2=>hp.frame hk h2.hx h2.hin h2.hw h2.hd h2.ok h2.ge) (h2 X.n hp.hw.1)⟩
theorem Tr.fr{L1 M1:List Res}(h:Tr P f args0 D0 L0 val dr lr)(hk:Tks L1 L0 M1):Tr P f args0 D0 L1 val dr (fun B i=>lr B i++M1):=fun F H hin hd ho =>
 (h F H hin hd (hk.ok ho).1).mono fun v H' ⟨i,F',h1,h2⟩=>⟨i,F',h1,fun B hB=>by
  have h3:=(⟨PH.ext.refl F,hin,Kw.refl _ _,hd,ho,fun k hk => .inr hk⟩:Hp ⟨Own L1,H,F⟩ D0 L1 F H)
  have h4:=h2 B hB
  have h5:=h3.frame hk h4.hx h4.hin h4.hw h4.hd h4.ok h4.ge
  exact⟨h5.hx,h5.hin,h5.hw,h4.hd,h5.ok,h5.ge⟩⟩
theorem jc(hE:Ent P f)(hf:ev e g=some (.func (.func f) #[] cs.toArray))(hl:evl e xs=some vs)(hT:Tr P f (vs++cs).toArray D0 L0 val dr lr)(hd:Sd D L D0)(hk:Tks L L0 M)(hp:∀i,Ap (dr i) D (Dn i))(hq:∀i,Ap (lr X.n i) M (Ln i))
  (k:∀i,LH P n w0 ops Q X (Dn i) (Ln i) ((d,val i)::e) rest) (hd1:Nat.blt d n.sz=true:=by rfl):LH P n w0 ops Q X D L e (⟨some d,.call { callee := .value g,args:=xs.toArray,argTypes:=ts },ty,pos,af,none⟩::rest):=fun F H h =>
 LF.call (OpCall.fnc hE hf hl) (hT.run h hd hk) (by rintro _ H' ⟨i,F',rfl,h2⟩;exact k i F' H' (hp i▸hq i▸h2)) hd1
theorem jcv(hE:Ent P f)(hf:ev e g=some (.func (.func f) #[] cs.toArray))(hl:evl e xs=some vs)(hT:Tv P f (vs++cs).toArray D0 L0 v)(hd:Sd D L D0)(hk:Tks L L0 M)
 (k:LH P n w0 ops Q X D M ((d,v)::e) rest) (hd1:Nat.blt d n.sz=true:=by rfl):LH P n w0 ops Q X D L e (⟨some d,.call { callee := .value g,args:=xs.toArray,argTypes:=ts },ty,pos,af,none⟩::rest):=jc hE hf hl hT hd hk (fun _=>rfl) (fun _=>rfl) (fun _=>k) hd1
theorem jcd{α:Type}{r:Rp α}{N:Nat}{a:List α}(hE:Ent P f)(hf:ev e g=some (.func (.func f) #[] cs.toArray))(hl:evl e xs=some vs)(hT:Td P f (vs++cs).toArray D0 L0 (rLn N r) a)(hd:Sd D L D0)(hk:Tks L L0 M)
  (k:∀v,Qn N a.length→Sv v→LH P n w0 ops Q X (dv (rLn N r) v a::D) M ((d,v)::e) rest) (hd1:Nat.blt d n.sz=true:=by rfl):LH P n w0 ops Q X D L e (⟨some d,.call { callee := .value g,args:=xs.toArray,argTypes:=ts },ty,pos,af,none⟩::rest) :=
 jc hE hf hl hT hd hk (fun _=>rfl) (fun _=>rfl) (fun v=>jdq d0 (k v)) hd1
theorem jcg{α:Type}{r:Rp α}{T:TypeId}{a:List α}(hE:Ent P f)(hf:ev e g=some (.func (.func f) #[] cs.toArray))(hl:evl e xs=some vs)(hT:Tg P f (vs++cs).toArray D0 L0 r T a)(hd:Sd D L D0)(hk:Tks L L0 M)
  (k:∀v,Sv v→LH P n w0 ops Q X D (gl X.n r T v a::M) ((d,v)::e) rest) (hd1:Nat.blt d n.sz=true:=by rfl):LH P n w0 ops Q X D L e (⟨some d,.call { callee := .value g,args:=xs.toArray,argTypes:=ts },ty,pos,af,none⟩::rest) :=
 jc hE hf hl hT hd hk (fun _=>rfl) (fun _=>rfl) (fun v=>jgo k0 (k v)) hd1
theorem jgc{j t:Nat}{want B:Bool}{u:Value}{N:List Res}(hj:(ops[j]?).bind (·.dst)=some t)(hu:lk e t=some u)(hB:Gd u want B)(hE:Ent P f)(hf:ev e g=some (.func (.func f) #[] cs.toArray))(hl:B=true→evl e xs=some vs)(hT:B=true→Tr P f (vs++cs).toArray D0 L0 (fun _:Unit=>v) (fun _=>[]) (fun _ _=>L0))(hd:B=true→Sd D L D0)(hk:Tks L L0 M)(hq:Ap L0 M N)
  (k:LH P n w0 ops Q X D N ((d,gv B v)::e) rest) (hd1:Nat.blt d n.sz=true:=by rfl) (ht:Nat.blt t n.sz=true:=by rfl):LH P n w0 ops Q X D L e (⟨some d,.call { callee := .value g,args:=xs.toArray,argTypes:=ts },ty,pos,af,some (j,want)⟩::rest):=fun F H h=>by
 refine LF.gcallF hj hu hB (fun hb=>OpCall.fnc hE hf (hl hb)) (fun hb=>(hT hb).run h (hd hb) hk) (fun v' H' hz=>?_) hd1 ht
 rcases hz with⟨hb,i,F',rfl,h2⟩|⟨hb,rfl⟩
 ·exact k F' H' (hq▸h2)
 ·subst hb
  refine k F H' (hq▸⟨h.hx,h.hin,h.hw,h.hd,?_,fun k h1=>h.ge k (hk.own (Own.app.1 h1))⟩)
  obtain⟨a,b,c⟩:=hk.ok h.ok
  exact Ok.app a b c
theorem jgcd{α:Type}{r:Rp α}{N:Nat}{a:List α}{j t:Nat}{want B:Bool}{u:Value}(hj:(ops[j]?).bind (·.dst)=some t)(hu:lk e t=some u)(hB:Gd u want B)(hE:Ent P f)(hf:ev e g=some (.func (.func f) #[] cs.toArray))(hl:B=true→evl e xs=some vs)(hT:B=true→Td P f (vs++cs).toArray D0 [] (rLn N r) a)(hd:B=true→Sd D L D0)
  (k:∀v,LH P n w0 ops Q X ((dv (rLn N r) v a).if B::D) L ((d,gv B v)::e) rest) (hd1:Nat.blt d n.sz=true:=by rfl) (ht:Nat.blt t n.sz=true:=by rfl):LH P n w0 ops Q X D L e (⟨some d,.call { callee := .value g,args:=xs.toArray,argTypes:=ts },ty,pos,af,some (j,want)⟩::rest):=fun F H h=>by
 refine LF.gcallF hj hu hB (fun hb=>OpCall.fnc hE hf (hl hb)) (fun hb=>(hT hb).run h (hd hb) kn) (fun v' H' hz=>?_) hd1 ht
 rcases hz with⟨hb,i,F',rfl,h2⟩|⟨hb,rfl⟩
 ·exact k _ F' H' ⟨h2.hx,h2.hin,h2.hw,⟨fun _=>h2.hd.1,h2.hd.2⟩,h2.ok,h2.ge⟩
 ·subst hb;exact k v' F H' (h.datum fun h=>by cases h)
end
section
variable{f:FuncId}{args:Array Value}{α β:Type}{r:Rp α}{T T2:TypeId}{v x:Value}{l:List α}{N B:Nat}
theorem Hp.less{F G F':PH}{H H':Heap}{W:Nat→Prop}{D L}(h:Hp ⟨W,H,G⟩ D L F' H')(hin:InH F H)(hl:F.le G):PH.ext H F F∧InH F H'∧Kw W H H':=⟨PH.ext.refl F,h.hin.down (hl.trans h.hx.1),h.hw⟩
theorem Tv.temp(N:Nat)(h:Tv P f args (dv (rLn N r) v l::D0) [] x)(hN:l.length<N):Tr P f args D0 [gl B r T v l] (fun _:Unit=>x) (fun _=>[]) (fun _ _=>[gl B r T v l]):=fun F H hin hd ho=>by
 obtain⟨G,g1,g2,g3,g4,g5⟩:=ho.1.1.freeze (N:=N) hin hN
 refine(h G H g2 ⟨g5,hd.up g1⟩ trivial).mono ?_
 rintro _ H' ⟨i,F',rfl,h2⟩
 refine⟨i,F,rfl,fun B' hB=>?_⟩
 have h3:=h2 0 (Nat.zero_le _)
 obtain⟨a,b,c⟩:=h3.less hin g1
 refine⟨a,b,⟨c.1,fun k hk hn=>c.2 k hk id⟩,trivial,⟨⟨ho.1.1.of fun k hk=>c.2 k (ho.1.1.lt k hk) id,Nat.le_trans ho.1.2 c.1⟩,fun _ _=>id,trivial⟩,fun k hk => .inr hk⟩
theorem Tr.dd{D2:List Dt}{L0:List Res}{ι:Type}{val:ι→Value}{dr:ι→List Dt}{lr:Nat→ι→List Res}(h:Tr P f args D0 L0 val dr lr)(hd:∀{F:PH},AllD F D2→AllD F D0):Tr P f args D2 L0 val dr lr:=fun F H hin hD ho=>h F H hin (hd hD) ho
theorem Tv.temp1{d0:Dt}(N:Nat)(h:Tv P f args (d0::dv (rLn N r) v l::D0) [] x)(hN:l.length<N):Tr P f args (d0::D0) [gl B r T v l] (fun _:Unit=>x) (fun _=>[]) (fun _ _=>[gl B r T v l]):=Tv.temp N (h.dd fun⟨a,b,c⟩=>⟨b,a,c⟩) hN
theorem Tg.temp{k:IntKind}{m:List Int}(N:Nat)(h:Tg P f args (dv (rLn N r) v l::D0) [] (rI k) T2 m)(hN:l.length<N):Tr P f args D0 [gl B r T v l] (fun v:Value=>v) (fun _=>[]) (fun B' u=>[gl B' (rI k) T2 u m,gl B r T v l]):=fun F H hin hd ho=>by
 obtain⟨G,g1,g2,g3,g4,g5⟩:=ho.1.1.freeze (N:=N) hin hN
 refine(h G H g2 ⟨g5,hd.up g1⟩ trivial).mono ?_
 rintro u H' ⟨_,F',rfl,h2⟩
 refine⟨u,F,rfl,fun B' hB=>?_⟩
 have h3:=h2 B' hB
 obtain⟨a,b,c⟩:=h3.less hin g1
 have hu:∀k,u.ownBlock=some k→H.size≤k:=fun k hk=>(h3.ge k (.inl hk)).resolve_right id
 refine⟨a,b,⟨c.1,fun k hk hn=>c.2 k hk id⟩,trivial,⟨⟨h3.ok.1.1.flatI (g1.trans h3.hx.1),h3.ok.1.2⟩,fun k hk ho'=>?_,⟨ho.1.1.of fun k hk=>c.2 k (ho.1.1.lt k hk) id,Nat.le_trans ho.1.2 c.1⟩,fun _ _=>id,trivial⟩,fun k hk=>?_⟩
 ·have h4:=ho.1.1.lt k (ho'.resolve_right id)
  have h5:=hu k hk
  omega
 ·rcases hk with hk|hk
  ·exact .inl (hu k hk)
  ·exact .inr hk
end
section
variable{fn:Func}{m:Nat}{ι:Type}{val:ι→Value}{dr:ι→List Dt}{lr:Nat→ι→List Res}{t u z:Nat}{v v' v'':Value}
theorem jr1(hr:fn.results=#[.tmp t])(hv:lk e t=some v)(i:ι)(hm:v=val i)(hd:Sd D L (dr i))(hk:∀B,B≤X.n→Tks L (lr B i) M):QH ⟨m,[]⟩ w0 (RQ2 P fn w0 X val dr lr) X D L e .ret:=fun F H hp=>PF.ret1 hr hv ⟨i,F,hm,fun B hB=>hp.sub hd (hk B hB)⟩
theorem jr0(hr:fn.results=#[])(i:ι)(hm : .tuple #[]=val i)(hd:Sd D L (dr i))(hk:∀B,B≤X.n→Tks L (lr B i) M):QH ⟨m,[]⟩ w0 (RQ2 P fn w0 X val dr lr) X D L e .ret:=fun F H hp=>PF.ret0 hr ⟨i,F,hm,fun B hB=>hp.sub hd (hk B hB)⟩
theorem jd0(hr:fn.results=#[])(i:ι)(hm : .tuple #[]=val i)(hd:Sd D L (dr i))(hk:∀B,B≤X.n→Tks L (lr B i) M):QH ⟨m,[]⟩ w0 (RQ2 P fn w0 X val dr lr) X D L e .normal:=fun F H hp=>PF.end0 hr ⟨i,F,hm,fun B hB=>hp.sub hd (hk B hB)⟩
theorem jr2(hr:fn.results=#[.tmp t,.tmp u])(hv:lk e t=some v)(hv':lk e u=some v')(i:ι)(hm : .tuple #[v,v']=val i)(hd:Sd D L (dr i))(hk:∀B,B≤X.n→Tks L (lr B i) M):QH ⟨m,[]⟩ w0 (RQ2 P fn w0 X val dr lr) X D L e .ret:=fun F H hp=>PF.ret2 hr hv hv' ⟨i,F,hm,fun B hB=>hp.sub hd (hk B hB)⟩
theorem jr3(hr:fn.results=#[.tmp t,.tmp u,.tmp z])(hv:lk e t=some v)(hv':lk e u=some v')(hv'':lk e z=some v'')(i:ι)(hm : .tuple #[v,v',v'']=val i)(hd:Sd D L (dr i))(hk:∀B,B≤X.n→Tks L (lr B i) M):QH ⟨m,[]⟩ w0 (RQ2 P fn w0 X val dr lr) X D L e .ret:=fun F H hp=>PF.ret3 hr hv hv' hv'' ⟨i,F,hm,fun B hB=>hp.sub hd (hk B hB)⟩
theorem jrc{p g:Nat}{ty T:TypeId}{cs:List Value}{N:List Res}(hr:fn.results=#[.cell p ty])(hv:lk e p=some (.pointer (some ⟨g,0,none⟩)))(hb:Tk L (bx g T cs) N)(hA:∃d,P.underlying ty=some d∧(match d with | .struct _ | .array _ _=>true|_=>false)=true)(hS:Sz P ty cs.length)
 (i:ι) (hm : .agg cs.toArray=val i) (hd:Sd D L (dr i)) (hk:∀B,B≤X.n→Tks L (lr B i) M):QH ⟨m,[]⟩ w0 (RQ2 P fn w0 X val dr lr) X D L e .ret:=fun F H hp=>PF.retC hr hv (hp.at hb).1 hA hS ⟨i,F,hm,fun B hB=>hp.sub hd (hk B hB)⟩
theorem jrI{k:IntKind}{a b:Int}(hr:fn.results=#[.tmp t])(hv:lk e t=some (.int k b))(hm:a=b):QH ⟨m,[]⟩ w0 (RQ2 P fn w0 X (fun _:Unit => .int k a) (fun _=>[]) (fun _ _=>[])) X D L e .ret:=jr1 hr hv () (by rw[hm]) dn (fun _ _=>kn)
theorem jrB{a b:Bool}(hr:fn.results=#[.tmp t])(hv:lk e t=some (.bool b))(hm:a=b):QH ⟨m,[]⟩ w0 (RQ2 P fn w0 X (fun _:Unit => .bool a) (fun _=>[]) (fun _ _=>[])) X D L e .ret:=jr1 hr hv () (by rw[hm]) dn (fun _ _=>kn)
theorem jrD{α:Type}{r:Rp α}{a b:α}(hr:fn.results=#[.tmp t])(hv:lk e t=some v)(hm:a=b)(hd:Nd D L (dv r v b)):QH ⟨m,[]⟩ w0 (RQ2 P fn w0 X (fun v:Value=>v) (fun v=>[dv r v a]) (fun _ _=>[])) X D L e .ret:=jr1 hr hv v rfl (dc (dcast hm hd) dn) (fun _ _=>kn)
theorem kl{α:Type}{r:Rp α}{T:TypeId}{B:Nat}{l:List α}{N:List Res}(hB:B≤X.n)(h:Tk L (gl X.n r T v l) M)(h':Tks M Ls N):Tks L (gl B r T v l::Ls) N where
 ok:=fun o=>by
  obtain⟨⟨a,b,c⟩,x,y⟩:=(kc h h').ok o
  exact⟨⟨⟨a.1.base hB,Nat.le_trans hB a.2⟩,b,c⟩,x,y⟩
 own:=fun o=>(kc h h').own o
theorem klc{α:Type}{r:Rp α}{T:TypeId}{B:Nat}{l l':List α}{N:List Res}(e:l'=l)(hB:B≤X.n)(h:Tk L (gl X.n r T v l) M)(h':Tks M Ls N):Tks L (gl B r T v l'::Ls) N:=e▸kl hB h h'
theorem jrG{α:Type}{r:Rp α}{T:TypeId}{a b:List α}(hr:fn.results=#[.tmp t])(hv:lk e t=some v)(hm:a=b)(hk:Tk L (gl X.n r T v b) M):QH ⟨m,[]⟩ w0 (RQ2 P fn w0 X (fun v:Value=>v) (fun _=>[]) (fun B v=>[gl B r T v a])) X D L e .ret:=jr1 hr hv v rfl dn (fun _ hB=>klc hm hB hk kn)
end
end Go.JE
namespace Go.JE
variable{P:Program}{D D0:List Dt}{L M Ls L0:List Res}{e:Env}{X:Cx}{n:Fs}{w0:World}{Q:Exit→Act→World→Prop}
structure Sr{α β:Type}(r:Rp α)(val:α→β→Value):Prop where
 op:∀{F:PH} {v:Value} {m:α},r.ra F v m→∃c,v=val m c
theorem leaf1{α:Type}{r:Rp α}{F:PH}{a:α}{g:Nat→Value}{c:Value}(hs:r.sz=1)(h:r.ok F a g)(e:g 0=c):r.rv F c a:=r.ext (fun i hi=>by rw[show i=0 by omega];exact e) h
abbrev Ts{α β:Type}(P:Program)(f:FuncId)(args:Array Value)(D0:List Dt)(L0:List Res)(r:Rp α)(val:α→β→Value)(a:α):Prop:=Tr P f args D0 L0 (fun c:β=>val a c) (fun c=>[da r (val a c) a]) (fun _ _=>[])
section
variable{ops:Array Oper}{op:Op}{d:Nat}{ty:TypeId}{pos:String}{af:Array Edge}{rest:List Oper}{K:Act→World→Prop}{α β:Type}{r:Rp α}{val:α→β→Value}{a b:α}{f:FuncId}{g:Operand}{xs:List Operand}{vs cs:List Value}{ts:Array TypeId}
theorem jA(hs:Sr r val)(h:OE P D L e op (fun v F=>(da r v a).sat F))(k:∀c,LH P n w0 ops Q X (da r (val a c) a::D) L ((d,val a c)::e) rest)(hd:Nat.blt d n.sz=true:=by rfl):LH P n w0 ops Q X D L e (⟨some d,op,ty,pos,af,none⟩::rest):=fun F H hp=>by
 obtain⟨v,h1,h2⟩:=h F H hp.hin hp.hd hp.ok
 obtain⟨c,rfl⟩:=hs.op h2
 exact LF.step h1 (k c F H (hp.datum h2)) hd
theorem jtA(hs:Sr r val)(h:OE P D L e op (fun v F=>(da r v a).sat F))(k:∀c,SH P n w0 ops K X (da r (val a c) a::D) L ((d,val a c)::e) rest)(hd:Nat.blt d n.sz=true:=by rfl):SH P n w0 ops K X D L e (⟨some d,op,ty,pos,af,none⟩::rest):=fun F H hp=>by
 obtain⟨v,h1,h2⟩:=h F H hp.hin hp.hd hp.ok
 obtain⟨c,rfl⟩:=hs.op h2
 exact LS.step h1 (k c F H (hp.datum h2)) hd
theorem jA2{val:α→Value×Value→Value}(hs:Sr r val)(h:OE P D L e op (fun v F=>(da r v a).sat F))(k:∀c0 c1,LH P n w0 ops Q X (da r (val a (c0,c1)) a::D) L ((d,val a (c0,c1))::e) rest)(hd:Nat.blt d n.sz=true:=by rfl):LH P n w0 ops Q X D L e (⟨some d,op,ty,pos,af,none⟩::rest):=jA hs h (fun c=>k c.1 c.2) hd
theorem jA3{val:α→Value×Value×Value→Value}(hs:Sr r val)(h:OE P D L e op (fun v F=>(da r v a).sat F))(k:∀c0 c1 c2,LH P n w0 ops Q X (da r (val a (c0,c1,c2)) a::D) L ((d,val a (c0,c1,c2))::e) rest)(hd:Nat.blt d n.sz=true:=by rfl):LH P n w0 ops Q X D L e (⟨some d,op,ty,pos,af,none⟩::rest):=jA hs h (fun c=>k c.1 c.2.1 c.2.2) hd
theorem jA4{val:α→Value×Value×Value×Value→Value}(hs:Sr r val)(h:OE P D L e op (fun v F=>(da r v a).sat F))(k:∀c0 c1 c2 c3,LH P n w0 ops Q X (da r (val a (c0,c1,c2,c3)) a::D) L ((d,val a (c0,c1,c2,c3))::e) rest)(hd:Nat.blt d n.sz=true:=by rfl):LH P n w0 ops Q X D L e (⟨some d,op,ty,pos,af,none⟩::rest):=jA hs h (fun c=>k c.1 c.2.1 c.2.2.1 c.2.2.2) hd
theorem jcs(hE:Ent P f)(hf:ev e g=some (.func (.func f) #[] cs.toArray))(hl:evl e xs=some vs)(hT:Ts P f (vs++cs).toArray D0 L0 r val a)(hd:Sd D L D0)(hk:Tks L L0 M)
  (k:∀c,LH P n w0 ops Q X (da r (val a c) a::D) M ((d,val a c)::e) rest) (hd1:Nat.blt d n.sz=true:=by rfl):LH P n w0 ops Q X D L e (⟨some d,.call { callee := .value g,args:=xs.toArray,argTypes:=ts },ty,pos,af,none⟩::rest) :=
 jc hE hf hl hT hd hk (fun _=>rfl) (fun _=>rfl) k hd1
theorem jcs2{val:α→Value×Value→Value}(hE:Ent P f)(hf:ev e g=some (.func (.func f) #[] cs.toArray))(hl:evl e xs=some vs)(hT:Ts P f (vs++cs).toArray D0 L0 r val a)(hd:Sd D L D0)(hk:Tks L L0 M)(k:∀c0 c1,LH P n w0 ops Q X (da r (val a (c0,c1)) a::D) M ((d,val a (c0,c1))::e) rest)(hd1:Nat.blt d n.sz=true:=by rfl):LH P n w0 ops Q X D L e (⟨some d,.call { callee := .value g,args:=xs.toArray,argTypes:=ts },ty,pos,af,none⟩::rest):=jcs hE hf hl hT hd hk (fun c=>k c.1 c.2) hd1
theorem jcs3{val:α→Value×Value×Value→Value}(hE:Ent P f)(hf:ev e g=some (.func (.func f) #[] cs.toArray))(hl:evl e xs=some vs)(hT:Ts P f (vs++cs).toArray D0 L0 r val a)(hd:Sd D L D0)(hk:Tks L L0 M)(k:∀c0 c1 c2,LH P n w0 ops Q X (da r (val a (c0,c1,c2)) a::D) M ((d,val a (c0,c1,c2))::e) rest)(hd1:Nat.blt d n.sz=true:=by rfl):LH P n w0 ops Q X D L e (⟨some d,.call { callee := .value g,args:=xs.toArray,argTypes:=ts },ty,pos,af,none⟩::rest):=jcs hE hf hl hT hd hk (fun c=>k c.1 c.2.1 c.2.2) hd1
variable{fn:Func}{m t:Nat}{c:β}
theorem jrcA{p g:Nat}{ty T:TypeId}{cs:List Value}(hr:fn.results=#[.cell p ty])(hv:lk e p=some (.pointer (some ⟨g,0,none⟩)))(hb:Tk L (bx g T cs) M)(hA:∃d,P.underlying ty=some d∧(match d with | .struct _ | .array _ _=>true|_=>false)=true)(hS:Sz P ty cs.length)
  (he : .agg cs.toArray=val b c) (hm:a=b) (hd:Nd D L (da r (val b c) b)):QH ⟨m,[]⟩ w0 (RQ2 P fn w0 X (fun c:β=>val a c) (fun c=>[da r (val a c) a]) (fun _ _=>[])) X D L e .ret:=by
 subst hm;exact jrc hr hv hb hA hS c he (dc hd dn) (fun _ _=>kn)
end
section
variable{k k' k'':IntKind}{a b c:Int}{p q s:Bool}
theorem tII{x:Int×Int}(h:x=(a,b)):(.tuple #[.int k a,.int k' b]:Value) = .tuple #[.int k x.1,.int k' x.2]:=by rw[h]
theorem tIB{x:Int×Bool}(h:x=(a,p)):(.tuple #[.int k a,.bool p]:Value) = .tuple #[.int k x.1,.bool x.2]:=by rw[h]
theorem tIII{x:Int×Int×Int}(h:x=(a,b,c)):(.tuple #[.int k a,.int k' b,.int k'' c]:Value) = .tuple #[.int k x.1,.int k' x.2.1,.int k'' x.2.2]:=by rw[h]
end
end Go.JE
namespace Go.Proofs.YtehhjlkmbdhckaaGreat
open Go.JE
structure D.In where
 From:Int
 Val:Int
deriving DecidableEq
instance:Inhabited D.In:=⟨⟨0,0⟩⟩
def rIn:Rp D.In:=rM (rP (rI .i64) (rI .i64)) (fun m=>(m.From,m.Val))
theorem rIn.at_Val{F:PH}{b o:Nat}{m:D.In}(h:At F rIn b o m):At F (rI .i64) b (o+1) m.Val:=At.part 1 h (Nat.le_of_ble_eq_true rfl) (fun _ h=>h.2)
theorem rIn.any{F:PH}{v:Value}{m:D.In}(h:rIn.ra F v m):∃f,rIn.ok F m f:=by obtain⟨l,_,_,h⟩:=h;exact⟨_,h⟩
theorem rIn.w_Val{F:PH}{m:D.In}(h:∃f,rIn.ok F m f):IntKind.i64.wrap m.Val=m.Val:=by obtain⟨_,h⟩:=h;exact(h.2).2
theorem rIn.open{F:PH}{v:Value}{m:D.In}(h:rIn.ra F v m):v = .agg #[.int .i64 m.From,.int .i64 m.Val]:=by
 obtain⟨l,rfl,hl,h⟩:=h
 match l,hl with
 | [a0,a1],_ =>
  obtain⟨⟨h0,_⟩,⟨h1,_⟩⟩:=h
  obtain rfl:a0=_:=h0
  obtain rfl:a1=_:=h1
  exact rfl
theorem rIn.mk{F:PH}{m:D.In}(w0:IntKind.i64.wrap m.From=m.From)(w1:IntKind.i64.wrap m.Val=m.Val):rIn.ra F (.agg #[.int .i64 m.From,.int .i64 m.Val]) m:=⟨[.int .i64 m.From,.int .i64 m.Val],rfl,rfl,⟨⟨rfl,w0⟩,⟨rfl,w1⟩⟩⟩
structure D.Phi where
 Dst:Int
 In:List D.In
deriving DecidableEq
instance:Inhabited D.Phi:=⟨⟨0,[]⟩⟩
def rPhiN(N:Nat):Rp D.Phi:=rM (rP (rI .i64) (rLn N rIn)) (fun m=>(m.Dst,m.In))
abbrev rPhi:Rp D.Phi:=rPhiN 1073741824
theorem rPhi.at_Dst{N:Nat}{F:PH}{b o:Nat}{m:D.Phi}(h:At F (rPhiN N) b o m):At F (rI .i64) b (o+0) m.Dst:=At.part 0 h (Nat.le_of_ble_eq_true rfl) (fun _ h=>h.1)
theorem rPhi.at_In{N:Nat}{F:PH}{b o:Nat}{m:D.Phi}(h:At F (rPhiN N) b o m):At F (rLn N rIn) b (o+1) m.In:=At.part 1 h (Nat.le_of_ble_eq_true rfl) (fun _ h=>h.2)
theorem rPhi.any{N:Nat}{F:PH}{v:Value}{m:D.Phi}(h:(rPhiN N).ra F v m):∃f,(rPhiN N).ok F m f:=by obtain⟨l,_,_,h⟩:=h;exact⟨_,h⟩
theorem rPhi.w_Dst{N:Nat}{F:PH}{m:D.Phi}(h:∃f,(rPhiN N).ok F m f):IntKind.i64.wrap m.Dst=m.Dst:=by obtain⟨_,h⟩:=h;exact(h.1).2
theorem rPhi.open{N:Nat}{F:PH}{v:Value}{m:D.Phi}(h:(rPhiN N).ra F v m):∃c1,v = .agg #[.int .i64 m.Dst,c1]∧(rLn N rIn).rv F c1 m.In:=by
 obtain⟨l,rfl,hl,h⟩:=h
 match l,hl with
 | [a0,a1],_ =>
  obtain⟨⟨h0,_⟩,h1⟩:=h
  obtain rfl:a0=_:=h0
  exact⟨a1,rfl,h1⟩
theorem rPhi.mk{N:Nat}{F:PH}{m:D.Phi}{c1:Value}(h1:(rLn N rIn).rv F c1 m.In)(w0:IntKind.i64.wrap m.Dst=m.Dst):(rPhiN N).ra F (.agg #[.int .i64 m.Dst,c1]) m:=⟨[.int .i64 m.Dst,c1],rfl,rfl,⟨⟨rfl,w0⟩,h1⟩⟩
structure D.Mach where
 Op:Int
 D:Int
 E:Int
 A:Int
 B:Int
 C:Int
 Imm:Int
 Args:List Int
deriving DecidableEq
instance:Inhabited D.Mach:=⟨⟨0,0,0,0,0,0,0,[]⟩⟩
def rMachN(N:Nat):Rp D.Mach:=rM (rP (rI .i64) (rP (rI .i64) (rP (rI .i64) (rP (rI .i64) (rP (rI .i64) (rP (rI .i64) (rP (rI .i32) (rLn N (rI .i64))))))))) (fun m=>(m.Op,m.D,m.E,m.A,m.B,m.C,m.Imm,m.Args))
abbrev rMach:Rp D.Mach:=rMachN 1073741824
theorem rMach.any{N:Nat}{F:PH}{v:Value}{m:D.Mach}(h:(rMachN N).ra F v m):∃f,(rMachN N).ok F m f:=by obtain⟨l,_,_,h⟩:=h;exact⟨_,h⟩
theorem rMach.w_D{N:Nat}{F:PH}{m:D.Mach}(h:∃f,(rMachN N).ok F m f):IntKind.i64.wrap m.D=m.D:=by obtain⟨_,h⟩:=h;exact(h.2.1).2
theorem rMach.w_E{N:Nat}{F:PH}{m:D.Mach}(h:∃f,(rMachN N).ok F m f):IntKind.i64.wrap m.E=m.E:=by obtain⟨_,h⟩:=h;exact(h.2.2.1).2
theorem rMach.w_A{N:Nat}{F:PH}{m:D.Mach}(h:∃f,(rMachN N).ok F m f):IntKind.i64.wrap m.A=m.A:=by obtain⟨_,h⟩:=h;exact(h.2.2.2.1).2
theorem rMach.w_B{N:Nat}{F:PH}{m:D.Mach}(h:∃f,(rMachN N).ok F m f):IntKind.i64.wrap m.B=m.B:=by obtain⟨_,h⟩:=h;exact(h.2.2.2.2.1).2
theorem rMach.w_C{N:Nat}{F:PH}{m:D.Mach}(h:∃f,(rMachN N).ok F m f):IntKind.i64.wrap m.C=m.C:=by obtain⟨_,h⟩:=h;exact(h.2.2.2.2.2.1).2
theorem rMach.w_Imm{N:Nat}{F:PH}{m:D.Mach}(h:∃f,(rMachN N).ok F m f):IntKind.i32.wrap m.Imm=m.Imm:=by obtain⟨_,h⟩:=h;exact(h.2.2.2.2.2.2.1).2
theorem rMach.open{N:Nat}{F:PH}{v:Value}{m:D.Mach}(h:(rMachN N).ra F v m):∃c7,v = .agg #[.int .i64 m.Op,.int .i64 m.D,.int .i64 m.E,.int .i64 m.A,.int .i64 m.B,.int .i64 m.C,.int .i32 m.Imm,c7]∧(rLn N (rI .i64)).rv F c7 m.Args:=by
 obtain⟨l,rfl,hl,h⟩:=h
 match l,hl with
 | [a0,a1,a2,a3,a4,a5,a6,a7],_ =>
  obtain⟨⟨h0,_⟩,⟨h1,_⟩,⟨h2,_⟩,⟨h3,_⟩,⟨h4,_⟩,⟨h5,_⟩,⟨h6,_⟩,h7⟩:=h
  obtain rfl:a0=_:=h0
  obtain rfl:a1=_:=h1
  obtain rfl:a2=_:=h2
  obtain rfl:a3=_:=h3
  obtain rfl:a4=_:=h4
  obtain rfl:a5=_:=h5
  obtain rfl:a6=_:=h6
  exact⟨a7,rfl,h7⟩
theorem rMach.mk{N:Nat}{F:PH}{m:D.Mach}{c7:Value}(h7:(rLn N (rI .i64)).rv F c7 m.Args)(w0:IntKind.i64.wrap m.Op=m.Op)(w1:IntKind.i64.wrap m.D=m.D)(w2:IntKind.i64.wrap m.E=m.E)(w3:IntKind.i64.wrap m.A=m.A)(w4:IntKind.i64.wrap m.B=m.B)(w5:IntKind.i64.wrap m.C=m.C)(w6:IntKind.i32.wrap m.Imm=m.Imm):(rMachN N).ra F (.agg #[.int .i64 m.Op,.int .i64 m.D,.int .i64 m.E,.int .i64 m.A,.int .i64 m.B,.int .i64 m.C,.int .i32 m.Imm,c7]) m:=⟨[.int .i64 m.Op,.int .i64 m.D,.int .i64 m.E,.int .i64 m.A,.int .i64 m.B,.int .i64 m.C,.int .i32 m.Imm,c7],rfl,rfl,⟨⟨rfl,w0⟩,⟨rfl,w1⟩,⟨rfl,w2⟩,⟨rfl,w3⟩,⟨rfl,w4⟩,⟨rfl,w5⟩,⟨rfl,w6⟩,h7⟩⟩
structure D.End where
 Op:Int
 A:Int
 B:Int
 To:List Int
 Imm:Int
deriving DecidableEq
instance:Inhabited D.End:=⟨⟨0,0,0,[],0⟩⟩
def rEndN(N:Nat):Rp D.End:=rM (rP (rI .i64) (rP (rI .i64) (rP (rI .i64) (rP (rLn N (rI .i64)) (rI .i32))))) (fun m=>(m.Op,m.A,m.B,m.To,m.Imm))
abbrev rEnd:Rp D.End:=rEndN 1073741824
theorem rEnd.at_To{N:Nat}{F:PH}{b o:Nat}{m:D.End}(h:At F (rEndN N) b o m):At F (rLn N (rI .i64)) b (o+3) m.To:=At.part 3 h (Nat.le_of_ble_eq_true rfl) (fun _ h=>h.2.2.2.1)
theorem rEnd.any{N:Nat}{F:PH}{v:Value}{m:D.End}(h:(rEndN N).ra F v m):∃f,(rEndN N).ok F m f:=by obtain⟨l,_,_,h⟩:=h;exact⟨_,h⟩
theorem rEnd.w_Op{N:Nat}{F:PH}{m:D.End}(h:∃f,(rEndN N).ok F m f):IntKind.i64.wrap m.Op=m.Op:=by obtain⟨_,h⟩:=h;exact(h.1).2
theorem rEnd.w_A{N:Nat}{F:PH}{m:D.End}(h:∃f,(rEndN N).ok F m f):IntKind.i64.wrap m.A=m.A:=by obtain⟨_,h⟩:=h;exact(h.2.1).2
theorem rEnd.w_B{N:Nat}{F:PH}{m:D.End}(h:∃f,(rEndN N).ok F m f):IntKind.i64.wrap m.B=m.B:=by obtain⟨_,h⟩:=h;exact(h.2.2.1).2
theorem rEnd.w_Imm{N:Nat}{F:PH}{m:D.End}(h:∃f,(rEndN N).ok F m f):IntKind.i32.wrap m.Imm=m.Imm:=by obtain⟨_,h⟩:=h;exact(h.2.2.2.2).2
theorem rEnd.open{N:Nat}{F:PH}{v:Value}{m:D.End}(h:(rEndN N).ra F v m):∃c3,v = .agg #[.int .i64 m.Op,.int .i64 m.A,.int .i64 m.B,c3,.int .i32 m.Imm]∧(rLn N (rI .i64)).rv F c3 m.To:=by
 obtain⟨l,rfl,hl,h⟩:=h
 match l,hl with
 | [a0,a1,a2,a3,a4],_ =>
  obtain⟨⟨h0,_⟩,⟨h1,_⟩,⟨h2,_⟩,h3,⟨h4,_⟩⟩:=h
  obtain rfl:a0=_:=h0
  obtain rfl:a1=_:=h1
  obtain rfl:a2=_:=h2
  obtain rfl:a4=_:=h4
  exact⟨a3,rfl,h3⟩
theorem rEnd.mk{N:Nat}{F:PH}{m:D.End}{c3:Value}(h3:(rLn N (rI .i64)).rv F c3 m.To)(w0:IntKind.i64.wrap m.Op=m.Op)(w1:IntKind.i64.wrap m.A=m.A)(w2:IntKind.i64.wrap m.B=m.B)(w4:IntKind.i32.wrap m.Imm=m.Imm):(rEndN N).ra F (.agg #[.int .i64 m.Op,.int .i64 m.A,.int .i64 m.B,c3,.int .i32 m.Imm]) m:=⟨[.int .i64 m.Op,.int .i64 m.A,.int .i64 m.B,c3,.int .i32 m.Imm],rfl,rfl,⟨⟨rfl,w0⟩,⟨rfl,w1⟩,⟨rfl,w2⟩,h3,⟨rfl,w4⟩⟩⟩
structure D.MBlock where
 Phis:List D.Phi
 Ins:List D.Mach
 End:D.End
deriving DecidableEq
instance:Inhabited D.MBlock:=⟨⟨[],[],default⟩⟩
def rMBlockN(N:Nat):Rp D.MBlock:=rM (rP (rLn N (rPhiN N)) (rP (rLn N (rMachN N)) (rEndN N))) (fun m=>(m.Phis,m.Ins,m.End))
abbrev rMBlock:Rp D.MBlock:=rMBlockN 1073741824
theorem rMBlock.at_Phis{N:Nat}{F:PH}{b o:Nat}{m:D.MBlock}(h:At F (rMBlockN N) b o m):At F (rLn N (rPhiN N)) b (o+0) m.Phis:=At.part 0 h (Nat.le_of_ble_eq_true rfl) (fun _ h=>h.1)
theorem rMBlock.at_Ins{N:Nat}{F:PH}{b o:Nat}{m:D.MBlock}(h:At F (rMBlockN N) b o m):At F (rLn N (rMachN N)) b (o+1) m.Ins:=At.part 1 h (Nat.le_of_ble_eq_true rfl) (fun _ h=>h.2.1)
theorem rMBlock.at_End{N:Nat}{F:PH}{b o:Nat}{m:D.MBlock}(h:At F (rMBlockN N) b o m):At F (rEndN N) b (o+2) m.End:=At.part 2 h (Nat.le_of_ble_eq_true rfl) (fun _ h=>h.2.2)
theorem rMBlock.any{N:Nat}{F:PH}{v:Value}{m:D.MBlock}(h:(rMBlockN N).ra F v m):∃f,(rMBlockN N).ok F m f:=by obtain⟨l,_,_,h⟩:=h;exact⟨_,h⟩
theorem rMBlock.k_End{N:Nat}{F:PH}{m:D.MBlock}(h:∃f,(rMBlockN N).ok F m f):∃f,(rEndN N).ok F m.End f:=by obtain⟨_,h⟩:=h;exact⟨_,h.2.2⟩
theorem rMBlock.open{N:Nat}{F:PH}{v:Value}{m:D.MBlock}(h:(rMBlockN N).ra F v m):∃c0 c1 c5,v = .agg #[c0,c1,.int .i64 m.End.Op,.int .i64 m.End.A,.int .i64 m.End.B,c5,.int .i32 m.End.Imm]∧(rLn N (rPhiN N)).rv F c0 m.Phis∧(rLn N (rMachN N)).rv F c1 m.Ins∧(rLn N (rI .i64)).rv F c5 m.End.To:=by
 obtain⟨l,rfl,hl,h⟩:=h
 match l,hl with
 | [a0,a1,a2,a3,a4,a5,a6],_ =>
  obtain⟨h0,h1,⟨⟨h2,_⟩,⟨h3,_⟩,⟨h4,_⟩,h5,⟨h6,_⟩⟩⟩:=h
  obtain rfl:a2=_:=h2
  obtain rfl:a3=_:=h3
  obtain rfl:a4=_:=h4
  obtain rfl:a6=_:=h6
  exact⟨a0,a1,a5,rfl,h0,h1,h5⟩
theorem rMBlock.mk{N:Nat}{F:PH}{m:D.MBlock}{c0:Value}{c1:Value}{c5:Value}(h0:(rLn N (rPhiN N)).rv F c0 m.Phis)(h1:(rLn N (rMachN N)).rv F c1 m.Ins)(h5:(rLn N (rI .i64)).rv F c5 m.End.To)(w2:IntKind.i64.wrap m.End.Op=m.End.Op)(w3:IntKind.i64.wrap m.End.A=m.End.A)(w4:IntKind.i64.wrap m.End.B=m.End.B)(w6:IntKind.i32.wrap m.End.Imm=m.End.Imm):(rMBlockN N).ra F (.agg #[c0,c1,.int .i64 m.End.Op,.int .i64 m.End.A,.int .i64 m.End.B,c5,.int .i32 m.End.Imm]) m:=⟨[c0,c1,.int .i64 m.End.Op,.int .i64 m.End.A,.int .i64 m.End.B,c5,.int .i32 m.End.Imm],rfl,rfl,⟨h0,h1,⟨⟨rfl,w2⟩,⟨rfl,w3⟩,⟨rfl,w4⟩,h5,⟨rfl,w6⟩⟩⟩⟩
structure D.MFunc where
 Params:Int
 Blocks:List D.MBlock
deriving DecidableEq
instance:Inhabited D.MFunc:=⟨⟨0,[]⟩⟩
def rMFuncN(N:Nat):Rp D.MFunc:=rM (rP (rI .i64) (rLn N (rMBlockN N))) (fun m=>(m.Params,m.Blocks))
abbrev rMFunc:Rp D.MFunc:=rMFuncN 1073741824
theorem rMFunc.any{N:Nat}{F:PH}{v:Value}{m:D.MFunc}(h:(rMFuncN N).ra F v m):∃f,(rMFuncN N).ok F m f:=by obtain⟨l,_,_,h⟩:=h;exact⟨_,h⟩
theorem rMFunc.w_Params{N:Nat}{F:PH}{m:D.MFunc}(h:∃f,(rMFuncN N).ok F m f):IntKind.i64.wrap m.Params=m.Params:=by obtain⟨_,h⟩:=h;exact(h.1).2
theorem rMFunc.open{N:Nat}{F:PH}{v:Value}{m:D.MFunc}(h:(rMFuncN N).ra F v m):∃c1,v = .agg #[.int .i64 m.Params,c1]∧(rLn N (rMBlockN N)).rv F c1 m.Blocks:=by
 obtain⟨l,rfl,hl,h⟩:=h
 match l,hl with
 | [a0,a1],_ =>
  obtain⟨⟨h0,_⟩,h1⟩:=h
  obtain rfl:a0=_:=h0
  exact⟨a1,rfl,h1⟩
theorem rMFunc.mk{N:Nat}{F:PH}{m:D.MFunc}{c1:Value}(h1:(rLn N (rMBlockN N)).rv F c1 m.Blocks)(w0:IntKind.i64.wrap m.Params=m.Params):(rMFuncN N).ra F (.agg #[.int .i64 m.Params,c1]) m:=⟨[.int .i64 m.Params,c1],rfl,rfl,⟨⟨rfl,w0⟩,h1⟩⟩
structure D.Input where
 Args:List Int
 Mem:List Int
 Answers:List Int
 Steps:Int
deriving DecidableEq
instance:Inhabited D.Input:=⟨⟨[],[],[],0⟩⟩
def rInputN(N:Nat):Rp D.Input:=rM (rP (rLn N (rI .i32)) (rP (rLn N (rI .i32)) (rP (rLn N (rI .i32)) (rI .i64)))) (fun m=>(m.Args,m.Mem,m.Answers,m.Steps))
abbrev rInput:Rp D.Input:=rInputN 1073741824
theorem rInput.open{N:Nat}{F:PH}{v:Value}{m:D.Input}(h:(rInputN N).ra F v m):∃c0 c1 c2,v = .agg #[c0,c1,c2,.int .i64 m.Steps]∧(rLn N (rI .i32)).rv F c0 m.Args∧(rLn N (rI .i32)).rv F c1 m.Mem∧(rLn N (rI .i32)).rv F c2 m.Answers:=by
 obtain⟨l,rfl,hl,h⟩:=h
 match l,hl with
 | [a0,a1,a2,a3],_ =>
  obtain⟨h0,h1,h2,⟨h3,_⟩⟩:=h
  obtain rfl:a3=_:=h3
  exact⟨a0,a1,a2,rfl,h0,h1,h2⟩
theorem rInput.mk{N:Nat}{F:PH}{m:D.Input}{c0:Value}{c1:Value}{c2:Value}(h0:(rLn N (rI .i32)).rv F c0 m.Args)(h1:(rLn N (rI .i32)).rv F c1 m.Mem)(h2:(rLn N (rI .i32)).rv F c2 m.Answers)(w3:IntKind.i64.wrap m.Steps=m.Steps):(rInputN N).ra F (.agg #[c0,c1,c2,.int .i64 m.Steps]) m:=⟨[c0,c1,c2,.int .i64 m.Steps],rfl,rfl,⟨h0,h1,h2,⟨rfl,w3⟩⟩⟩
structure D.Event where
 Callee:Int
 Args:List Int
deriving DecidableEq
instance:Inhabited D.Event:=⟨⟨0,[]⟩⟩
def rEventN(N:Nat):Rp D.Event:=rM (rP (rI .i32) (rLn N (rI .i32))) (fun m=>(m.Callee,m.Args))
abbrev rEvent:Rp D.Event:=rEventN 1073741824
theorem rEvent.open{N:Nat}{F:PH}{v:Value}{m:D.Event}(h:(rEventN N).ra F v m):∃c1,v = .agg #[.int .i32 m.Callee,c1]∧(rLn N (rI .i32)).rv F c1 m.Args:=by
 obtain⟨l,rfl,hl,h⟩:=h
 match l,hl with
 | [a0,a1],_ =>
  obtain⟨⟨h0,_⟩,h1⟩:=h
  obtain rfl:a0=_:=h0
  exact⟨a1,rfl,h1⟩
theorem rEvent.mk{N:Nat}{F:PH}{m:D.Event}{c1:Value}(h1:(rLn N (rI .i32)).rv F c1 m.Args)(w0:IntKind.i32.wrap m.Callee=m.Callee):(rEventN N).ra F (.agg #[.int .i32 m.Callee,c1]) m:=⟨[.int .i32 m.Callee,c1],rfl,rfl,⟨⟨rfl,w0⟩,h1⟩⟩
structure D.Outcome where
 End:Int
 Val:Int
 Mem:List Int
 Calls:List D.Event
 Steps:Int
deriving DecidableEq
instance:Inhabited D.Outcome:=⟨⟨0,0,[],[],0⟩⟩
def rOutcomeN(N:Nat):Rp D.Outcome:=rM (rP (rI .i64) (rP (rI .i32) (rP (rLn N (rI .i32)) (rP (rLn N (rEventN N)) (rI .i64))))) (fun m=>(m.End,m.Val,m.Mem,m.Calls,m.Steps))
abbrev rOutcome:Rp D.Outcome:=rOutcomeN 1073741824
theorem rOutcome.open{N:Nat}{F:PH}{v:Value}{m:D.Outcome}(h:(rOutcomeN N).ra F v m):∃c2 c3,v = .agg #[.int .i64 m.End,.int .i32 m.Val,c2,c3,.int .i64 m.Steps]∧(rLn N (rI .i32)).rv F c2 m.Mem∧(rLn N (rEventN N)).rv F c3 m.Calls:=by
 obtain⟨l,rfl,hl,h⟩:=h
 match l,hl with
 | [a0,a1,a2,a3,a4],_ =>
  obtain⟨⟨h0,_⟩,⟨h1,_⟩,h2,h3,⟨h4,_⟩⟩:=h
  obtain rfl:a0=_:=h0
  obtain rfl:a1=_:=h1
  obtain rfl:a4=_:=h4
  exact⟨a2,a3,rfl,h2,h3⟩
theorem rOutcome.mk{N:Nat}{F:PH}{m:D.Outcome}{c2:Value}{c3:Value}(h2:(rLn N (rI .i32)).rv F c2 m.Mem)(h3:(rLn N (rEventN N)).rv F c3 m.Calls)(w0:IntKind.i64.wrap m.End=m.End)(w1:IntKind.i32.wrap m.Val=m.Val)(w4:IntKind.i64.wrap m.Steps=m.Steps):(rOutcomeN N).ra F (.agg #[.int .i64 m.End,.int .i32 m.Val,c2,c3,.int .i64 m.Steps]) m:=⟨[.int .i64 m.End,.int .i32 m.Val,c2,c3,.int .i64 m.Steps],rfl,rfl,⟨⟨rfl,w0⟩,⟨rfl,w1⟩,h2,h3,⟨rfl,w4⟩⟩⟩
structure D.Go7 where
 E:Int
 Block:Int
 Place:Int
deriving DecidableEq
instance:Inhabited D.Go7:=⟨⟨0,0,0⟩⟩
def rGo7:Rp D.Go7:=rM (rP (rI .i64) (rP (rI .i64) (rI .i64))) (fun m=>(m.E,m.Block,m.Place))
theorem rGo7.at_Block{F:PH}{b o:Nat}{m:D.Go7}(h:At F rGo7 b o m):At F (rI .i64) b (o+1) m.Block:=At.part 1 h (Nat.le_of_ble_eq_true rfl) (fun _ h=>h.2.1)
theorem rGo7.any{F:PH}{v:Value}{m:D.Go7}(h:rGo7.ra F v m):∃f,rGo7.ok F m f:=by obtain⟨l,_,_,h⟩:=h;exact⟨_,h⟩
theorem rGo7.w_E{F:PH}{m:D.Go7}(h:∃f,rGo7.ok F m f):IntKind.i64.wrap m.E=m.E:=by obtain⟨_,h⟩:=h;exact(h.1).2
theorem rGo7.open{F:PH}{v:Value}{m:D.Go7}(h:rGo7.ra F v m):v = .agg #[.int .i64 m.E,.int .i64 m.Block,.int .i64 m.Place]:=by
 obtain⟨l,rfl,hl,h⟩:=h
 match l,hl with
 | [a0,a1,a2],_ =>
  obtain⟨⟨h0,_⟩,⟨h1,_⟩,⟨h2,_⟩⟩:=h
  obtain rfl:a0=_:=h0
  obtain rfl:a1=_:=h1
  obtain rfl:a2=_:=h2
  exact rfl
theorem rGo7.mk{F:PH}{m:D.Go7}(w0:IntKind.i64.wrap m.E=m.E)(w1:IntKind.i64.wrap m.Block=m.Block)(w2:IntKind.i64.wrap m.Place=m.Place):rGo7.ra F (.agg #[.int .i64 m.E,.int .i64 m.Block,.int .i64 m.Place]) m:=⟨[.int .i64 m.E,.int .i64 m.Block,.int .i64 m.Place],rfl,rfl,⟨⟨rfl,w0⟩,⟨rfl,w1⟩,⟨rfl,w2⟩⟩⟩
structure D.Ins where
 Op:Int
 Dst:Int
 Two:Int
 Args:List Int
 Imm:Int
deriving DecidableEq
instance:Inhabited D.Ins:=⟨⟨0,0,0,[],0⟩⟩
def rInsN(N:Nat):Rp D.Ins:=rM (rP (rI .i64) (rP (rI .i64) (rP (rI .i64) (rP (rLn N (rI .i64)) (rI .i32))))) (fun m=>(m.Op,m.Dst,m.Two,m.Args,m.Imm))
abbrev rIns:Rp D.Ins:=rInsN 1073741824
theorem rIns.at_Args{N:Nat}{F:PH}{b o:Nat}{m:D.Ins}(h:At F (rInsN N) b o m):At F (rLn N (rI .i64)) b (o+3) m.Args:=At.part 3 h (Nat.le_of_ble_eq_true rfl) (fun _ h=>h.2.2.2.1)
theorem rIns.any{N:Nat}{F:PH}{v:Value}{m:D.Ins}(h:(rInsN N).ra F v m):∃f,(rInsN N).ok F m f:=by obtain⟨l,_,_,h⟩:=h;exact⟨_,h⟩
theorem rIns.w_Dst{N:Nat}{F:PH}{m:D.Ins}(h:∃f,(rInsN N).ok F m f):IntKind.i64.wrap m.Dst=m.Dst:=by obtain⟨_,h⟩:=h;exact(h.2.1).2
theorem rIns.w_Two{N:Nat}{F:PH}{m:D.Ins}(h:∃f,(rInsN N).ok F m f):IntKind.i64.wrap m.Two=m.Two:=by obtain⟨_,h⟩:=h;exact(h.2.2.1).2
theorem rIns.w_Imm{N:Nat}{F:PH}{m:D.Ins}(h:∃f,(rInsN N).ok F m f):IntKind.i32.wrap m.Imm=m.Imm:=by obtain⟨_,h⟩:=h;exact(h.2.2.2.2).2
theorem rIns.open{N:Nat}{F:PH}{v:Value}{m:D.Ins}(h:(rInsN N).ra F v m):∃c3,v = .agg #[.int .i64 m.Op,.int .i64 m.Dst,.int .i64 m.Two,c3,.int .i32 m.Imm]∧(rLn N (rI .i64)).rv F c3 m.Args:=by
 obtain⟨l,rfl,hl,h⟩:=h
 match l,hl with
 | [a0,a1,a2,a3,a4],_ =>
  obtain⟨⟨h0,_⟩,⟨h1,_⟩,⟨h2,_⟩,h3,⟨h4,_⟩⟩:=h
  obtain rfl:a0=_:=h0
  obtain rfl:a1=_:=h1
  obtain rfl:a2=_:=h2
  obtain rfl:a4=_:=h4
  exact⟨a3,rfl,h3⟩
theorem rIns.mk{N:Nat}{F:PH}{m:D.Ins}{c3:Value}(h3:(rLn N (rI .i64)).rv F c3 m.Args)(w0:IntKind.i64.wrap m.Op=m.Op)(w1:IntKind.i64.wrap m.Dst=m.Dst)(w2:IntKind.i64.wrap m.Two=m.Two)(w4:IntKind.i32.wrap m.Imm=m.Imm):(rInsN N).ra F (.agg #[.int .i64 m.Op,.int .i64 m.Dst,.int .i64 m.Two,c3,.int .i32 m.Imm]) m:=⟨[.int .i64 m.Op,.int .i64 m.Dst,.int .i64 m.Two,c3,.int .i32 m.Imm],rfl,rfl,⟨⟨rfl,w0⟩,⟨rfl,w1⟩,⟨rfl,w2⟩,h3,⟨rfl,w4⟩⟩⟩
structure D.Term where
 Kind:Int
 Args:List Int
 To:List Int
 Imm:Int
deriving DecidableEq
instance:Inhabited D.Term:=⟨⟨0,[],[],0⟩⟩
def rTermN(N:Nat):Rp D.Term:=rM (rP (rI .i64) (rP (rLn N (rI .i64)) (rP (rLn N (rI .i64)) (rI .i32)))) (fun m=>(m.Kind,m.Args,m.To,m.Imm))
abbrev rTerm:Rp D.Term:=rTermN 1073741824
theorem rTerm.at_To{N:Nat}{F:PH}{b o:Nat}{m:D.Term}(h:At F (rTermN N) b o m):At F (rLn N (rI .i64)) b (o+2) m.To:=At.part 2 h (Nat.le_of_ble_eq_true rfl) (fun _ h=>h.2.2.1)
theorem rTerm.any{N:Nat}{F:PH}{v:Value}{m:D.Term}(h:(rTermN N).ra F v m):∃f,(rTermN N).ok F m f:=by obtain⟨l,_,_,h⟩:=h;exact⟨_,h⟩
theorem rTerm.w_Imm{N:Nat}{F:PH}{m:D.Term}(h:∃f,(rTermN N).ok F m f):IntKind.i32.wrap m.Imm=m.Imm:=by obtain⟨_,h⟩:=h;exact(h.2.2.2).2
theorem rTerm.open{N:Nat}{F:PH}{v:Value}{m:D.Term}(h:(rTermN N).ra F v m):∃c1 c2,v = .agg #[.int .i64 m.Kind,c1,c2,.int .i32 m.Imm]∧(rLn N (rI .i64)).rv F c1 m.Args∧(rLn N (rI .i64)).rv F c2 m.To:=by
 obtain⟨l,rfl,hl,h⟩:=h
 match l,hl with
 | [a0,a1,a2,a3],_ =>
  obtain⟨⟨h0,_⟩,h1,h2,⟨h3,_⟩⟩:=h
  obtain rfl:a0=_:=h0
  obtain rfl:a3=_:=h3
  exact⟨a1,a2,rfl,h1,h2⟩
theorem rTerm.mk{N:Nat}{F:PH}{m:D.Term}{c1:Value}{c2:Value}(h1:(rLn N (rI .i64)).rv F c1 m.Args)(h2:(rLn N (rI .i64)).rv F c2 m.To)(w0:IntKind.i64.wrap m.Kind=m.Kind)(w3:IntKind.i32.wrap m.Imm=m.Imm):(rTermN N).ra F (.agg #[.int .i64 m.Kind,c1,c2,.int .i32 m.Imm]) m:=⟨[.int .i64 m.Kind,c1,c2,.int .i32 m.Imm],rfl,rfl,⟨⟨rfl,w0⟩,h1,h2,⟨rfl,w3⟩⟩⟩
structure D.Block where
 Phis:List D.Phi
 Ins:List D.Ins
 Term:D.Term
deriving DecidableEq
instance:Inhabited D.Block:=⟨⟨[],[],default⟩⟩
def rBlockN(N:Nat):Rp D.Block:=rM (rP (rLn N (rPhiN N)) (rP (rLn N (rInsN N)) (rTermN N))) (fun m=>(m.Phis,m.Ins,m.Term))
abbrev rBlock:Rp D.Block:=rBlockN 1073741824
theorem rBlock.at_Phis{N:Nat}{F:PH}{b o:Nat}{m:D.Block}(h:At F (rBlockN N) b o m):At F (rLn N (rPhiN N)) b (o+0) m.Phis:=At.part 0 h (Nat.le_of_ble_eq_true rfl) (fun _ h=>h.1)
theorem rBlock.at_Ins{N:Nat}{F:PH}{b o:Nat}{m:D.Block}(h:At F (rBlockN N) b o m):At F (rLn N (rInsN N)) b (o+1) m.Ins:=At.part 1 h (Nat.le_of_ble_eq_true rfl) (fun _ h=>h.2.1)
theorem rBlock.at_Term{N:Nat}{F:PH}{b o:Nat}{m:D.Block}(h:At F (rBlockN N) b o m):At F (rTermN N) b (o+2) m.Term:=At.part 2 h (Nat.le_of_ble_eq_true rfl) (fun _ h=>h.2.2)
theorem rBlock.open{N:Nat}{F:PH}{v:Value}{m:D.Block}(h:(rBlockN N).ra F v m):∃c0 c1 c3 c4,v = .agg #[c0,c1,.int .i64 m.Term.Kind,c3,c4,.int .i32 m.Term.Imm]∧(rLn N (rPhiN N)).rv F c0 m.Phis∧(rLn N (rInsN N)).rv F c1 m.Ins∧(rLn N (rI .i64)).rv F c3 m.Term.Args∧(rLn N (rI .i64)).rv F c4 m.Term.To:=by
 obtain⟨l,rfl,hl,h⟩:=h
 match l,hl with
 | [a0,a1,a2,a3,a4,a5],_ =>
  obtain⟨h0,h1,⟨⟨h2,_⟩,h3,h4,⟨h5,_⟩⟩⟩:=h
  obtain rfl:a2=_:=h2
  obtain rfl:a5=_:=h5
  exact⟨a0,a1,a3,a4,rfl,h0,h1,h3,h4⟩
structure D.Func where
 Params:Int
 Blocks:List D.Block
deriving DecidableEq
instance:Inhabited D.Func:=⟨⟨0,[]⟩⟩
def rFuncN(N:Nat):Rp D.Func:=rM (rP (rI .i64) (rLn N (rBlockN N))) (fun m=>(m.Params,m.Blocks))
abbrev rFunc:Rp D.Func:=rFuncN 1073741824
theorem rFunc.any{N:Nat}{F:PH}{v:Value}{m:D.Func}(h:(rFuncN N).ra F v m):∃f,(rFuncN N).ok F m f:=by obtain⟨l,_,_,h⟩:=h;exact⟨_,h⟩
theorem rFunc.w_Params{N:Nat}{F:PH}{m:D.Func}(h:∃f,(rFuncN N).ok F m f):IntKind.i64.wrap m.Params=m.Params:=by obtain⟨_,h⟩:=h;exact(h.1).2
theorem rFunc.open{N:Nat}{F:PH}{v:Value}{m:D.Func}(h:(rFuncN N).ra F v m):∃c1,v = .agg #[.int .i64 m.Params,c1]∧(rLn N (rBlockN N)).rv F c1 m.Blocks:=by
 obtain⟨l,rfl,hl,h⟩:=h
 match l,hl with
 | [a0,a1],_ =>
  obtain⟨⟨h0,_⟩,h1⟩:=h
  obtain rfl:a0=_:=h0
  exact⟨a1,rfl,h1⟩
theorem rFunc.mk{N:Nat}{F:PH}{m:D.Func}{c1:Value}(h1:(rLn N (rBlockN N)).rv F c1 m.Blocks)(w0:IntKind.i64.wrap m.Params=m.Params):(rFuncN N).ra F (.agg #[.int .i64 m.Params,c1]) m:=⟨[.int .i64 m.Params,c1],rfl,rfl,⟨⟨rfl,w0⟩,h1⟩⟩
structure D.Tg3 where
 Block:Int
 Place:Int
 Makes:List Int
 Takes:List Int
deriving DecidableEq
instance:Inhabited D.Tg3:=⟨⟨0,0,[],[]⟩⟩
def rTg3N(N:Nat):Rp D.Tg3:=rM (rP (rI .i64) (rP (rI .i64) (rP (rLn N (rI .i64)) (rLn N (rI .i64))))) (fun m=>(m.Block,m.Place,m.Makes,m.Takes))
abbrev rTg3:Rp D.Tg3:=rTg3N 1073741824
theorem rTg3.at_Block{N:Nat}{F:PH}{b o:Nat}{m:D.Tg3}(h:At F (rTg3N N) b o m):At F (rI .i64) b (o+0) m.Block:=At.part 0 h (Nat.le_of_ble_eq_true rfl) (fun _ h=>h.1)
theorem rTg3.at_Makes{N:Nat}{F:PH}{b o:Nat}{m:D.Tg3}(h:At F (rTg3N N) b o m):At F (rLn N (rI .i64)) b (o+2) m.Makes:=At.part 2 h (Nat.le_of_ble_eq_true rfl) (fun _ h=>h.2.2.1)
theorem rTg3.any{N:Nat}{F:PH}{v:Value}{m:D.Tg3}(h:(rTg3N N).ra F v m):∃f,(rTg3N N).ok F m f:=by obtain⟨l,_,_,h⟩:=h;exact⟨_,h⟩
theorem rTg3.open{N:Nat}{F:PH}{v:Value}{m:D.Tg3}(h:(rTg3N N).ra F v m):∃c2 c3,v = .agg #[.int .i64 m.Block,.int .i64 m.Place,c2,c3]∧(rLn N (rI .i64)).rv F c2 m.Makes∧(rLn N (rI .i64)).rv F c3 m.Takes:=by
 obtain⟨l,rfl,hl,h⟩:=h
 match l,hl with
 | [a0,a1,a2,a3],_ =>
  obtain⟨⟨h0,_⟩,⟨h1,_⟩,h2,h3⟩:=h
  obtain rfl:a0=_:=h0
  obtain rfl:a1=_:=h1
  exact⟨a2,a3,rfl,h2,h3⟩
theorem rTg3.mk{N:Nat}{F:PH}{m:D.Tg3}{c2:Value}{c3:Value}(h2:(rLn N (rI .i64)).rv F c2 m.Makes)(h3:(rLn N (rI .i64)).rv F c3 m.Takes)(w0:IntKind.i64.wrap m.Block=m.Block)(w1:IntKind.i64.wrap m.Place=m.Place):(rTg3N N).ra F (.agg #[.int .i64 m.Block,.int .i64 m.Place,c2,c3]) m:=⟨[.int .i64 m.Block,.int .i64 m.Place,c2,c3],rfl,rfl,⟨⟨rfl,w0⟩,⟨rfl,w1⟩,h2,h3⟩⟩
@[reducible] def vIn (m:D.In) (c:Unit):Value := .agg #[.int .i64 m.From,.int .i64 m.Val]
theorem sIn:Sr rIn vIn:=⟨fun h=>⟨(),rIn.open h⟩⟩
theorem rIn.W_Val{Γ:List Dt}{L:List Res}{v:Value}{m:D.In}(h:Nd Γ L (da rIn v m)):Wr Γ L .i64 m.Val:=fun F H x y z=>rIn.w_Val (m:=m) (rIn.any (h F H x y z))
theorem rIn.A_Val{Γ:List Dt}{L:List Res}{b o:Nat}{m:D.In}(h:Nd Γ L (ad rIn b o m)):Nd Γ L (ad (rI .i64) b (o+1) m.Val):=fun F H x y z=>rIn.at_Val (h F H x y z)
theorem rIn.M{Γ:List Dt}{L:List Res}{m:D.In}{c:Unit}(w0:Wr Γ L .i64 m.From)(w1:Wr Γ L .i64 m.Val):Nd Γ L (da rIn (vIn m c) m):=fun F H x y z=>rIn.mk (m:=m) (w0 F H x y z) (w1 F H x y z)
@[reducible] def vPhi (m:D.Phi) (c:Value):Value := .agg #[.int .i64 m.Dst,c]
theorem sPhi{N:Nat}:Sr (rPhiN N) vPhi:=⟨fun h=>by obtain⟨c1,e,_⟩:=rPhi.open h;exact⟨c1,e⟩⟩
theorem rPhi.c_In{N:Nat}{Γ:List Dt}{L:List Res}{m:D.Phi}{c:Value}(h:Nd Γ L (da (rPhiN N) (vPhi m c) m)):Nd Γ L (dv (rLn N rIn) c m.In):=fun F H x y z=>leaf1 rfl ((ra_ok (h F H x y z)).2) rfl
theorem rPhi.W_Dst{N:Nat}{Γ:List Dt}{L:List Res}{v:Value}{m:D.Phi}(h:Nd Γ L (da (rPhiN N) v m)):Wr Γ L .i64 m.Dst:=fun F H x y z=>rPhi.w_Dst (m:=m) (rPhi.any (h F H x y z))
theorem rPhi.A_Dst{N:Nat}{Γ:List Dt}{L:List Res}{b o:Nat}{m:D.Phi}(h:Nd Γ L (ad (rPhiN N) b o m)):Nd Γ L (ad (rI .i64) b (o+0) m.Dst):=fun F H x y z=>rPhi.at_Dst (h F H x y z)
theorem rPhi.A_In{N:Nat}{Γ:List Dt}{L:List Res}{b o:Nat}{m:D.Phi}(h:Nd Γ L (ad (rPhiN N) b o m)):Nd Γ L (ad (rLn N rIn) b (o+1) m.In):=fun F H x y z=>rPhi.at_In (h F H x y z)
theorem rPhi.M{N:Nat}{Γ:List Dt}{L:List Res}{m:D.Phi}{c:Value}(h0:Nd Γ L (dv (rLn N rIn) c m.In))(w0:Wr Γ L .i64 m.Dst):Nd Γ L (da (rPhiN N) (vPhi m c) m):=fun F H x y z=>rPhi.mk (m:=m) (h0 F H x y z) (w0 F H x y z)
@[reducible] def vMach (m:D.Mach) (c:Value):Value := .agg #[.int .i64 m.Op,.int .i64 m.D,.int .i64 m.E,.int .i64 m.A,.int .i64 m.B,.int .i64 m.C,.int .i32 m.Imm,c]
theorem sMach{N:Nat}:Sr (rMachN N) vMach:=⟨fun h=>by obtain⟨c7,e,_⟩:=rMach.open h;exact⟨c7,e⟩⟩
theorem rMach.c_Args{N:Nat}{Γ:List Dt}{L:List Res}{m:D.Mach}{c:Value}(h:Nd Γ L (da (rMachN N) (vMach m c) m)):Nd Γ L (dv (rLn N (rI .i64)) c m.Args):=fun F H x y z=>leaf1 rfl ((ra_ok (h F H x y z)).2.2.2.2.2.2.2) rfl
theorem rMach.W_D{N:Nat}{Γ:List Dt}{L:List Res}{v:Value}{m:D.Mach}(h:Nd Γ L (da (rMachN N) v m)):Wr Γ L .i64 m.D:=fun F H x y z=>rMach.w_D (m:=m) (rMach.any (h F H x y z))
theorem rMach.W_E{N:Nat}{Γ:List Dt}{L:List Res}{v:Value}{m:D.Mach}(h:Nd Γ L (da (rMachN N) v m)):Wr Γ L .i64 m.E:=fun F H x y z=>rMach.w_E (m:=m) (rMach.any (h F H x y z))
theorem rMach.W_A{N:Nat}{Γ:List Dt}{L:List Res}{v:Value}{m:D.Mach}(h:Nd Γ L (da (rMachN N) v m)):Wr Γ L .i64 m.A:=fun F H x y z=>rMach.w_A (m:=m) (rMach.any (h F H x y z))
theorem rMach.W_B{N:Nat}{Γ:List Dt}{L:List Res}{v:Value}{m:D.Mach}(h:Nd Γ L (da (rMachN N) v m)):Wr Γ L .i64 m.B:=fun F H x y z=>rMach.w_B (m:=m) (rMach.any (h F H x y z))
theorem rMach.W_C{N:Nat}{Γ:List Dt}{L:List Res}{v:Value}{m:D.Mach}(h:Nd Γ L (da (rMachN N) v m)):Wr Γ L .i64 m.C:=fun F H x y z=>rMach.w_C (m:=m) (rMach.any (h F H x y z))
theorem rMach.W_Imm{N:Nat}{Γ:List Dt}{L:List Res}{v:Value}{m:D.Mach}(h:Nd Γ L (da (rMachN N) v m)):Wr Γ L .i32 m.Imm:=fun F H x y z=>rMach.w_Imm (m:=m) (rMach.any (h F H x y z))
theorem rMach.M{N:Nat}{Γ:List Dt}{L:List Res}{m:D.Mach}{c:Value}(h0:Nd Γ L (dv (rLn N (rI .i64)) c m.Args))(w0:Wr Γ L .i64 m.Op)(w1:Wr Γ L .i64 m.D)(w2:Wr Γ L .i64 m.E)(w3:Wr Γ L .i64 m.A)(w4:Wr Γ L .i64 m.B)(w5:Wr Γ L .i64 m.C)(w6:Wr Γ L .i32 m.Imm):Nd Γ L (da (rMachN N) (vMach m c) m):=fun F H x y z=>rMach.mk (m:=m) (h0 F H x y z) (w0 F H x y z) (w1 F H x y z) (w2 F H x y z) (w3 F H x y z) (w4 F H x y z) (w5 F H x y z) (w6 F H x y z)
@[reducible] def vEnd (m:D.End) (c:Value):Value := .agg #[.int .i64 m.Op,.int .i64 m.A,.int .i64 m.B,c,.int .i32 m.Imm]
theorem sEnd{N:Nat}:Sr (rEndN N) vEnd:=⟨fun h=>by obtain⟨c3,e,_⟩:=rEnd.open h;exact⟨c3,e⟩⟩
theorem rEnd.c_To{N:Nat}{Γ:List Dt}{L:List Res}{m:D.End}{c:Value}(h:Nd Γ L (da (rEndN N) (vEnd m c) m)):Nd Γ L (dv (rLn N (rI .i64)) c m.To):=fun F H x y z=>leaf1 rfl ((ra_ok (h F H x y z)).2.2.2.1) rfl
theorem rEnd.W_Op{N:Nat}{Γ:List Dt}{L:List Res}{v:Value}{m:D.End}(h:Nd Γ L (da (rEndN N) v m)):Wr Γ L .i64 m.Op:=fun F H x y z=>rEnd.w_Op (m:=m) (rEnd.any (h F H x y z))
theorem rEnd.W_A{N:Nat}{Γ:List Dt}{L:List Res}{v:Value}{m:D.End}(h:Nd Γ L (da (rEndN N) v m)):Wr Γ L .i64 m.A:=fun F H x y z=>rEnd.w_A (m:=m) (rEnd.any (h F H x y z))
theorem rEnd.W_B{N:Nat}{Γ:List Dt}{L:List Res}{v:Value}{m:D.End}(h:Nd Γ L (da (rEndN N) v m)):Wr Γ L .i64 m.B:=fun F H x y z=>rEnd.w_B (m:=m) (rEnd.any (h F H x y z))
theorem rEnd.W_Imm{N:Nat}{Γ:List Dt}{L:List Res}{v:Value}{m:D.End}(h:Nd Γ L (da (rEndN N) v m)):Wr Γ L .i32 m.Imm:=fun F H x y z=>rEnd.w_Imm (m:=m) (rEnd.any (h F H x y z))
theorem rEnd.A_To{N:Nat}{Γ:List Dt}{L:List Res}{b o:Nat}{m:D.End}(h:Nd Γ L (ad (rEndN N) b o m)):Nd Γ L (ad (rLn N (rI .i64)) b (o+3) m.To):=fun F H x y z=>rEnd.at_To (h F H x y z)
theorem rEnd.M{N:Nat}{Γ:List Dt}{L:List Res}{m:D.End}{c:Value}(h0:Nd Γ L (dv (rLn N (rI .i64)) c m.To))(w0:Wr Γ L .i64 m.Op)(w1:Wr Γ L .i64 m.A)(w2:Wr Γ L .i64 m.B)(w3:Wr Γ L .i32 m.Imm):Nd Γ L (da (rEndN N) (vEnd m c) m):=fun F H x y z=>rEnd.mk (m:=m) (h0 F H x y z) (w0 F H x y z) (w1 F H x y z) (w2 F H x y z) (w3 F H x y z)
@[reducible] def vMBlock (m:D.MBlock) (c:Value×Value×Value):Value := .agg #[c.1,c.2.1,.int .i64 m.End.Op,.int .i64 m.End.A,.int .i64 m.End.B,c.2.2,.int .i32 m.End.Imm]
theorem sMBlock{N:Nat}:Sr (rMBlockN N) vMBlock:=⟨fun h=>by obtain⟨c0,c1,c5,e,_,_,_⟩:=rMBlock.open h;exact⟨(c0,c1,c5),e⟩⟩
theorem rMBlock.cP{N:Nat}{Γ:List Dt}{L:List Res}{m:D.MBlock}{c:Value×Value×Value}(h:Nd Γ L (da (rMBlockN N) (vMBlock m c) m)):Nd Γ L (dv (rLn N (rPhiN N)) c.1 m.Phis):=fun F H x y z=>leaf1 rfl ((ra_ok (h F H x y z)).1) rfl
theorem rMBlock.cI{N:Nat}{Γ:List Dt}{L:List Res}{m:D.MBlock}{c:Value×Value×Value}(h:Nd Γ L (da (rMBlockN N) (vMBlock m c) m)):Nd Γ L (dv (rLn N (rMachN N)) c.2.1 m.Ins):=fun F H x y z=>leaf1 rfl ((ra_ok (h F H x y z)).2.1) rfl
theorem rMBlock.cT{N:Nat}{Γ:List Dt}{L:List Res}{m:D.MBlock}{c:Value×Value×Value}(h:Nd Γ L (da (rMBlockN N) (vMBlock m c) m)):Nd Γ L (dv (rLn N (rI .i64)) c.2.2 m.End.To):=fun F H x y z=>leaf1 rfl ((ra_ok (h F H x y z)).2.2.2.2.2.1) rfl
theorem rMBlock.W_End_Op{N:Nat}{Γ:List Dt}{L:List Res}{v:Value}{m:D.MBlock}(h:Nd Γ L (da (rMBlockN N) v m)):Wr Γ L .i64 m.End.Op:=fun F H x y z=>rEnd.w_Op (m:=m.End) (rMBlock.k_End (m:=m) (rMBlock.any (h F H x y z)))
theorem rMBlock.W_End_A{N:Nat}{Γ:List Dt}{L:List Res}{v:Value}{m:D.MBlock}(h:Nd Γ L (da (rMBlockN N) v m)):Wr Γ L .i64 m.End.A:=fun F H x y z=>rEnd.w_A (m:=m.End) (rMBlock.k_End (m:=m) (rMBlock.any (h F H x y z)))
theorem rMBlock.W_End_B{N:Nat}{Γ:List Dt}{L:List Res}{v:Value}{m:D.MBlock}(h:Nd Γ L (da (rMBlockN N) v m)):Wr Γ L .i64 m.End.B:=fun F H x y z=>rEnd.w_B (m:=m.End) (rMBlock.k_End (m:=m) (rMBlock.any (h F H x y z)))
theorem rMBlock.W_End_Imm{N:Nat}{Γ:List Dt}{L:List Res}{v:Value}{m:D.MBlock}(h:Nd Γ L (da (rMBlockN N) v m)):Wr Γ L .i32 m.End.Imm:=fun F H x y z=>rEnd.w_Imm (m:=m.End) (rMBlock.k_End (m:=m) (rMBlock.any (h F H x y z)))
theorem rMBlock.A_Phis{N:Nat}{Γ:List Dt}{L:List Res}{b o:Nat}{m:D.MBlock}(h:Nd Γ L (ad (rMBlockN N) b o m)):Nd Γ L (ad (rLn N (rPhiN N)) b (o+0) m.Phis):=fun F H x y z=>rMBlock.at_Phis (h F H x y z)
theorem rMBlock.A_Ins{N:Nat}{Γ:List Dt}{L:List Res}{b o:Nat}{m:D.MBlock}(h:Nd Γ L (ad (rMBlockN N) b o m)):Nd Γ L (ad (rLn N (rMachN N)) b (o+1) m.Ins):=fun F H x y z=>rMBlock.at_Ins (h F H x y z)
theorem rMBlock.A_End{N:Nat}{Γ:List Dt}{L:List Res}{b o:Nat}{m:D.MBlock}(h:Nd Γ L (ad (rMBlockN N) b o m)):Nd Γ L (ad (rEndN N) b (o+2) m.End):=fun F H x y z=>rMBlock.at_End (h F H x y z)
theorem rMBlock.P_End{N:Nat}{Γ:List Dt}{L:List Res}{m:D.MBlock}{c:Value×Value×Value}(h:Nd Γ L (da (rMBlockN N) (vMBlock m c) m)):Nd Γ L (da (rEndN N) (vEnd m.End c.2.2) m.End):=rEnd.M (m:=m.End) (c:=c.2.2) (rMBlock.cT h) (rMBlock.W_End_Op h) (rMBlock.W_End_A h) (rMBlock.W_End_B h) (rMBlock.W_End_Imm h)
theorem rMBlock.M{N:Nat}{Γ:List Dt}{L:List Res}{m:D.MBlock}{c:Value×Value×Value}(h0:Nd Γ L (dv (rLn N (rPhiN N)) c.1 m.Phis))(h1:Nd Γ L (dv (rLn N (rMachN N)) c.2.1 m.Ins))(h2:Nd Γ L (dv (rLn N (rI .i64)) c.2.2 m.End.To))(w0:Wr Γ L .i64 m.End.Op)(w1:Wr Γ L .i64 m.End.A)(w2:Wr Γ L .i64 m.End.B)(w3:Wr Γ L .i32 m.End.Imm):Nd Γ L (da (rMBlockN N) (vMBlock m c) m):=fun F H x y z=>rMBlock.mk (m:=m) (h0 F H x y z) (h1 F H x y z) (h2 F H x y z) (w0 F H x y z) (w1 F H x y z) (w2 F H x y z) (w3 F H x y z)
@[reducible] def vMFunc (m:D.MFunc) (c:Value):Value := .agg #[.int .i64 m.Params,c]
theorem sMFunc{N:Nat}:Sr (rMFuncN N) vMFunc:=⟨fun h=>by obtain⟨c1,e,_⟩:=rMFunc.open h;exact⟨c1,e⟩⟩
theorem rMFunc.cB{N:Nat}{Γ:List Dt}{L:List Res}{m:D.MFunc}{c:Value}(h:Nd Γ L (da (rMFuncN N) (vMFunc m c) m)):Nd Γ L (dv (rLn N (rMBlockN N)) c m.Blocks):=fun F H x y z=>leaf1 rfl ((ra_ok (h F H x y z)).2) rfl
theorem rMFunc.W_Params{N:Nat}{Γ:List Dt}{L:List Res}{v:Value}{m:D.MFunc}(h:Nd Γ L (da (rMFuncN N) v m)):Wr Γ L .i64 m.Params:=fun F H x y z=>rMFunc.w_Params (m:=m) (rMFunc.any (h F H x y z))
theorem rMFunc.M{N:Nat}{Γ:List Dt}{L:List Res}{m:D.MFunc}{c:Value}(h0:Nd Γ L (dv (rLn N (rMBlockN N)) c m.Blocks))(w0:Wr Γ L .i64 m.Params):Nd Γ L (da (rMFuncN N) (vMFunc m c) m):=fun F H x y z=>rMFunc.mk (m:=m) (h0 F H x y z) (w0 F H x y z)
@[reducible] def vInput (m:D.Input) (c:Value×Value×Value):Value := .agg #[c.1,c.2.1,c.2.2,.int .i64 m.Steps]
theorem sInput{N:Nat}:Sr (rInputN N) vInput:=⟨fun h=>by obtain⟨c0,c1,c2,e,_,_,_⟩:=rInput.open h;exact⟨(c0,c1,c2),e⟩⟩
theorem rInput.c_Args{N:Nat}{Γ:List Dt}{L:List Res}{m:D.Input}{c:Value×Value×Value}(h:Nd Γ L (da (rInputN N) (vInput m c) m)):Nd Γ L (dv (rLn N (rI .i32)) c.1 m.Args):=fun F H x y z=>leaf1 rfl ((ra_ok (h F H x y z)).1) rfl
theorem rInput.c_Mem{N:Nat}{Γ:List Dt}{L:List Res}{m:D.Input}{c:Value×Value×Value}(h:Nd Γ L (da (rInputN N) (vInput m c) m)):Nd Γ L (dv (rLn N (rI .i32)) c.2.1 m.Mem):=fun F H x y z=>leaf1 rfl ((ra_ok (h F H x y z)).2.1) rfl
theorem rInput.c_Answers{N:Nat}{Γ:List Dt}{L:List Res}{m:D.Input}{c:Value×Value×Value}(h:Nd Γ L (da (rInputN N) (vInput m c) m)):Nd Γ L (dv (rLn N (rI .i32)) c.2.2 m.Answers):=fun F H x y z=>leaf1 rfl ((ra_ok (h F H x y z)).2.2.1) rfl
theorem rInput.M{N:Nat}{Γ:List Dt}{L:List Res}{m:D.Input}{c:Value×Value×Value}(h0:Nd Γ L (dv (rLn N (rI .i32)) c.1 m.Args))(h1:Nd Γ L (dv (rLn N (rI .i32)) c.2.1 m.Mem))(h2:Nd Γ L (dv (rLn N (rI .i32)) c.2.2 m.Answers))(w0:Wr Γ L .i64 m.Steps):Nd Γ L (da (rInputN N) (vInput m c) m):=fun F H x y z=>rInput.mk (m:=m) (h0 F H x y z) (h1 F H x y z) (h2 F H x y z) (w0 F H x y z)
@[reducible] def vEvent (m:D.Event) (c:Value):Value := .agg #[.int .i32 m.Callee,c]
theorem sEvent{N:Nat}:Sr (rEventN N) vEvent:=⟨fun h=>by obtain⟨c1,e,_⟩:=rEvent.open h;exact⟨c1,e⟩⟩
theorem rEvent.c_Args{N:Nat}{Γ:List Dt}{L:List Res}{m:D.Event}{c:Value}(h:Nd Γ L (da (rEventN N) (vEvent m c) m)):Nd Γ L (dv (rLn N (rI .i32)) c m.Args):=fun F H x y z=>leaf1 rfl ((ra_ok (h F H x y z)).2) rfl
theorem rEvent.M{N:Nat}{Γ:List Dt}{L:List Res}{m:D.Event}{c:Value}(h0:Nd Γ L (dv (rLn N (rI .i32)) c m.Args))(w0:Wr Γ L .i32 m.Callee):Nd Γ L (da (rEventN N) (vEvent m c) m):=fun F H x y z=>rEvent.mk (m:=m) (h0 F H x y z) (w0 F H x y z)
@[reducible] def vOutcome (m:D.Outcome) (c:Value×Value):Value := .agg #[.int .i64 m.End,.int .i32 m.Val,c.1,c.2,.int .i64 m.Steps]
theorem sOutcome{N:Nat}:Sr (rOutcomeN N) vOutcome:=⟨fun h=>by obtain⟨c2,c3,e,_,_⟩:=rOutcome.open h;exact⟨(c2,c3),e⟩⟩
theorem rOutcome.c_Mem{N:Nat}{Γ:List Dt}{L:List Res}{m:D.Outcome}{c:Value×Value}(h:Nd Γ L (da (rOutcomeN N) (vOutcome m c) m)):Nd Γ L (dv (rLn N (rI .i32)) c.1 m.Mem):=fun F H x y z=>leaf1 rfl ((ra_ok (h F H x y z)).2.2.1) rfl
theorem rOutcome.c_Calls{N:Nat}{Γ:List Dt}{L:List Res}{m:D.Outcome}{c:Value×Value}(h:Nd Γ L (da (rOutcomeN N) (vOutcome m c) m)):Nd Γ L (dv (rLn N (rEventN N)) c.2 m.Calls):=fun F H x y z=>leaf1 rfl ((ra_ok (h F H x y z)).2.2.2.1) rfl
theorem rOutcome.M{N:Nat}{Γ:List Dt}{L:List Res}{m:D.Outcome}{c:Value×Value}(h0:Nd Γ L (dv (rLn N (rI .i32)) c.1 m.Mem))(h1:Nd Γ L (dv (rLn N (rEventN N)) c.2 m.Calls))(w0:Wr Γ L .i64 m.End)(w1:Wr Γ L .i32 m.Val)(w2:Wr Γ L .i64 m.Steps):Nd Γ L (da (rOutcomeN N) (vOutcome m c) m):=fun F H x y z=>rOutcome.mk (m:=m) (h0 F H x y z) (h1 F H x y z) (w0 F H x y z) (w1 F H x y z) (w2 F H x y z)
@[reducible] def vGo7 (m:D.Go7) (c:Unit):Value := .agg #[.int .i64 m.E,.int .i64 m.Block,.int .i64 m.Place]
theorem sGo7:Sr rGo7 vGo7:=⟨fun h=>⟨(),rGo7.open h⟩⟩
theorem rGo7.W_E{Γ:List Dt}{L:List Res}{v:Value}{m:D.Go7}(h:Nd Γ L (da rGo7 v m)):Wr Γ L .i64 m.E:=fun F H x y z=>rGo7.w_E (m:=m) (rGo7.any (h F H x y z))
theorem rGo7.A_Block{Γ:List Dt}{L:List Res}{b o:Nat}{m:D.Go7}(h:Nd Γ L (ad rGo7 b o m)):Nd Γ L (ad (rI .i64) b (o+1) m.Block):=fun F H x y z=>rGo7.at_Block (h F H x y z)
theorem rGo7.M{Γ:List Dt}{L:List Res}{m:D.Go7}{c:Unit}(w0:Wr Γ L .i64 m.E)(w1:Wr Γ L .i64 m.Block)(w2:Wr Γ L .i64 m.Place):Nd Γ L (da rGo7 (vGo7 m c) m):=fun F H x y z=>rGo7.mk (m:=m) (w0 F H x y z) (w1 F H x y z) (w2 F H x y z)
@[reducible] def vIns (m:D.Ins) (c:Value):Value := .agg #[.int .i64 m.Op,.int .i64 m.Dst,.int .i64 m.Two,c,.int .i32 m.Imm]
theorem sIns{N:Nat}:Sr (rInsN N) vIns:=⟨fun h=>by obtain⟨c3,e,_⟩:=rIns.open h;exact⟨c3,e⟩⟩
theorem rIns.c_Args{N:Nat}{Γ:List Dt}{L:List Res}{m:D.Ins}{c:Value}(h:Nd Γ L (da (rInsN N) (vIns m c) m)):Nd Γ L (dv (rLn N (rI .i64)) c m.Args):=fun F H x y z=>leaf1 rfl ((ra_ok (h F H x y z)).2.2.2.1) rfl
theorem rIns.W_Dst{N:Nat}{Γ:List Dt}{L:List Res}{v:Value}{m:D.Ins}(h:Nd Γ L (da (rInsN N) v m)):Wr Γ L .i64 m.Dst:=fun F H x y z=>rIns.w_Dst (m:=m) (rIns.any (h F H x y z))
theorem rIns.W_Two{N:Nat}{Γ:List Dt}{L:List Res}{v:Value}{m:D.Ins}(h:Nd Γ L (da (rInsN N) v m)):Wr Γ L .i64 m.Two:=fun F H x y z=>rIns.w_Two (m:=m) (rIns.any (h F H x y z))
theorem rIns.W_Imm{N:Nat}{Γ:List Dt}{L:List Res}{v:Value}{m:D.Ins}(h:Nd Γ L (da (rInsN N) v m)):Wr Γ L .i32 m.Imm:=fun F H x y z=>rIns.w_Imm (m:=m) (rIns.any (h F H x y z))
theorem rIns.A_Args{N:Nat}{Γ:List Dt}{L:List Res}{b o:Nat}{m:D.Ins}(h:Nd Γ L (ad (rInsN N) b o m)):Nd Γ L (ad (rLn N (rI .i64)) b (o+3) m.Args):=fun F H x y z=>rIns.at_Args (h F H x y z)
theorem rIns.M{N:Nat}{Γ:List Dt}{L:List Res}{m:D.Ins}{c:Value}(h0:Nd Γ L (dv (rLn N (rI .i64)) c m.Args))(w0:Wr Γ L .i64 m.Op)(w1:Wr Γ L .i64 m.Dst)(w2:Wr Γ L .i64 m.Two)(w3:Wr Γ L .i32 m.Imm):Nd Γ L (da (rInsN N) (vIns m c) m):=fun F H x y z=>rIns.mk (m:=m) (h0 F H x y z) (w0 F H x y z) (w1 F H x y z) (w2 F H x y z) (w3 F H x y z)
@[reducible] def vTerm (m:D.Term) (c:Value×Value):Value := .agg #[.int .i64 m.Kind,c.1,c.2,.int .i32 m.Imm]
theorem sTerm{N:Nat}:Sr (rTermN N) vTerm:=⟨fun h=>by obtain⟨c1,c2,e,_,_⟩:=rTerm.open h;exact⟨(c1,c2),e⟩⟩
theorem rTerm.c_Args{N:Nat}{Γ:List Dt}{L:List Res}{m:D.Term}{c:Value×Value}(h:Nd Γ L (da (rTermN N) (vTerm m c) m)):Nd Γ L (dv (rLn N (rI .i64)) c.1 m.Args):=fun F H x y z=>leaf1 rfl ((ra_ok (h F H x y z)).2.1) rfl
theorem rTerm.c_To{N:Nat}{Γ:List Dt}{L:List Res}{m:D.Term}{c:Value×Value}(h:Nd Γ L (da (rTermN N) (vTerm m c) m)):Nd Γ L (dv (rLn N (rI .i64)) c.2 m.To):=fun F H x y z=>leaf1 rfl ((ra_ok (h F H x y z)).2.2.1) rfl
theorem rTerm.W_Imm{N:Nat}{Γ:List Dt}{L:List Res}{v:Value}{m:D.Term}(h:Nd Γ L (da (rTermN N) v m)):Wr Γ L .i32 m.Imm:=fun F H x y z=>rTerm.w_Imm (m:=m) (rTerm.any (h F H x y z))
theorem rTerm.A_To{N:Nat}{Γ:List Dt}{L:List Res}{b o:Nat}{m:D.Term}(h:Nd Γ L (ad (rTermN N) b o m)):Nd Γ L (ad (rLn N (rI .i64)) b (o+2) m.To):=fun F H x y z=>rTerm.at_To (h F H x y z)
theorem rTerm.M{N:Nat}{Γ:List Dt}{L:List Res}{m:D.Term}{c:Value×Value}(h0:Nd Γ L (dv (rLn N (rI .i64)) c.1 m.Args))(h1:Nd Γ L (dv (rLn N (rI .i64)) c.2 m.To))(w0:Wr Γ L .i64 m.Kind)(w1:Wr Γ L .i32 m.Imm):Nd Γ L (da (rTermN N) (vTerm m c) m):=fun F H x y z=>rTerm.mk (m:=m) (h0 F H x y z) (h1 F H x y z) (w0 F H x y z) (w1 F H x y z)
@[reducible] def vBlock (m:D.Block) (c:Value×Value×Value×Value):Value := .agg #[c.1,c.2.1,.int .i64 m.Term.Kind,c.2.2.1,c.2.2.2,.int .i32 m.Term.Imm]
theorem sBlock{N:Nat}:Sr (rBlockN N) vBlock:=⟨fun h=>by obtain⟨c0,c1,c3,c4,e,_,_,_,_⟩:=rBlock.open h;exact⟨(c0,c1,c3,c4),e⟩⟩
theorem rBlock.cP{N:Nat}{Γ:List Dt}{L:List Res}{m:D.Block}{c:Value×Value×Value×Value}(h:Nd Γ L (da (rBlockN N) (vBlock m c) m)):Nd Γ L (dv (rLn N (rPhiN N)) c.1 m.Phis):=fun F H x y z=>leaf1 rfl ((ra_ok (h F H x y z)).1) rfl
theorem rBlock.cI{N:Nat}{Γ:List Dt}{L:List Res}{m:D.Block}{c:Value×Value×Value×Value}(h:Nd Γ L (da (rBlockN N) (vBlock m c) m)):Nd Γ L (dv (rLn N (rInsN N)) c.2.1 m.Ins):=fun F H x y z=>leaf1 rfl ((ra_ok (h F H x y z)).2.1) rfl
theorem rBlock.c_Term_Args{N:Nat}{Γ:List Dt}{L:List Res}{m:D.Block}{c:Value×Value×Value×Value}(h:Nd Γ L (da (rBlockN N) (vBlock m c) m)):Nd Γ L (dv (rLn N (rI .i64)) c.2.2.1 m.Term.Args):=fun F H x y z=>leaf1 rfl ((ra_ok (h F H x y z)).2.2.2.1) rfl
theorem rBlock.c_Term_To{N:Nat}{Γ:List Dt}{L:List Res}{m:D.Block}{c:Value×Value×Value×Value}(h:Nd Γ L (da (rBlockN N) (vBlock m c) m)):Nd Γ L (dv (rLn N (rI .i64)) c.2.2.2 m.Term.To):=fun F H x y z=>leaf1 rfl ((ra_ok (h F H x y z)).2.2.2.2.1) rfl
theorem rBlock.A_Phis{N:Nat}{Γ:List Dt}{L:List Res}{b o:Nat}{m:D.Block}(h:Nd Γ L (ad (rBlockN N) b o m)):Nd Γ L (ad (rLn N (rPhiN N)) b (o+0) m.Phis):=fun F H x y z=>rBlock.at_Phis (h F H x y z)
theorem rBlock.A_Ins{N:Nat}{Γ:List Dt}{L:List Res}{b o:Nat}{m:D.Block}(h:Nd Γ L (ad (rBlockN N) b o m)):Nd Γ L (ad (rLn N (rInsN N)) b (o+1) m.Ins):=fun F H x y z=>rBlock.at_Ins (h F H x y z)
theorem rBlock.A_Term{N:Nat}{Γ:List Dt}{L:List Res}{b o:Nat}{m:D.Block}(h:Nd Γ L (ad (rBlockN N) b o m)):Nd Γ L (ad (rTermN N) b (o+2) m.Term):=fun F H x y z=>rBlock.at_Term (h F H x y z)
@[reducible] def vFunc (m:D.Func) (c:Value):Value := .agg #[.int .i64 m.Params,c]
theorem sFunc{N:Nat}:Sr (rFuncN N) vFunc:=⟨fun h=>by obtain⟨c1,e,_⟩:=rFunc.open h;exact⟨c1,e⟩⟩
theorem rFunc.cB{N:Nat}{Γ:List Dt}{L:List Res}{m:D.Func}{c:Value}(h:Nd Γ L (da (rFuncN N) (vFunc m c) m)):Nd Γ L (dv (rLn N (rBlockN N)) c m.Blocks):=fun F H x y z=>leaf1 rfl ((ra_ok (h F H x y z)).2) rfl
theorem rFunc.W_Params{N:Nat}{Γ:List Dt}{L:List Res}{v:Value}{m:D.Func}(h:Nd Γ L (da (rFuncN N) v m)):Wr Γ L .i64 m.Params:=fun F H x y z=>rFunc.w_Params (m:=m) (rFunc.any (h F H x y z))
theorem rFunc.M{N:Nat}{Γ:List Dt}{L:List Res}{m:D.Func}{c:Value}(h0:Nd Γ L (dv (rLn N (rBlockN N)) c m.Blocks))(w0:Wr Γ L .i64 m.Params):Nd Γ L (da (rFuncN N) (vFunc m c) m):=fun F H x y z=>rFunc.mk (m:=m) (h0 F H x y z) (w0 F H x y z)
@[reducible] def vTg3 (m:D.Tg3) (c:Value×Value):Value := .agg #[.int .i64 m.Block,.int .i64 m.Place,c.1,c.2]
theorem sTg3{N:Nat}:Sr (rTg3N N) vTg3:=⟨fun h=>by obtain⟨c2,c3,e,_,_⟩:=rTg3.open h;exact⟨(c2,c3),e⟩⟩
theorem rTg3.A_Block{N:Nat}{Γ:List Dt}{L:List Res}{b o:Nat}{m:D.Tg3}(h:Nd Γ L (ad (rTg3N N) b o m)):Nd Γ L (ad (rI .i64) b (o+0) m.Block):=fun F H x y z=>rTg3.at_Block (h F H x y z)
theorem rTg3.A_Makes{N:Nat}{Γ:List Dt}{L:List Res}{b o:Nat}{m:D.Tg3}(h:Nd Γ L (ad (rTg3N N) b o m)):Nd Γ L (ad (rLn N (rI .i64)) b (o+2) m.Makes):=fun F H x y z=>rTg3.at_Makes (h F H x y z)
theorem rTg3.M{N:Nat}{Γ:List Dt}{L:List Res}{m:D.Tg3}{c:Value×Value}(h0:Nd Γ L (dv (rLn N (rI .i64)) c.1 m.Makes))(h1:Nd Γ L (dv (rLn N (rI .i64)) c.2 m.Takes))(w0:Wr Γ L .i64 m.Block)(w1:Wr Γ L .i64 m.Place):Nd Γ L (da (rTg3N N) (vTg3 m c) m):=fun F H x y z=>rTg3.mk (m:=m) (h0 F H x y z) (h1 F H x y z) (w0 F H x y z) (w1 F H x y z)
def bitM(b:Bool):Int:=if b then 1 else 0
abbrev w32(n:Int):Int:=IntKind.i32.wrap n
abbrev u32(n:Int):Int:=IntKind.u32.wrap n
def shlM(a b:Int):Int:=w32 (a*2^(b%32).toNat)
def shrM(a b:Int):Int:=w32 ((u32 a).fdiv (2^(b%32).toNat))
def sarM(a b:Int):Int:=a.fdiv (2^(b%32).toNat)
def divM(a b:Int):Int:=w32 (a.tdiv b)
def doM(op a b:Int):Int×Bool :=
 if op=2 then (w32 (a+b),true)
 else if op=3 then (w32 (a-b),true)
 else if op=4 then (w32 (a*b),true)
 else if op=5 then (andI .i32 a b,true)
 else if op=6 then (orI .i32 a b,true)
 else if op=7 then (xorI .i32 a b,true)
 else if op=8 then (shlM a b,true)
 else if op=9 then (shrM a b,true)
 else if op=10 then (sarM a b,true)
 else if op=11 then (bitM (decide (a=b)),true)
 else if op=12 then (bitM (decide (a<b)),true)
 else if op=13 then (bitM (decide (u32 a<u32 b)),true)
 else if op=14 then (if b=0 then (0,false) else (divM a b,true))
 else (0,false)
def wideM(a b:Int):Int×Int:=(w32 (a*b),w32 ((a*b).fdiv 4294967296))
def fitsM(n bits:Int):Bool:=if bits<1 then decide (n=0) else if 32<bits then true else decide (-(2^(bits-1).toNat)≤n∧n<2^(bits-1).toNat)
theorem b32(b:Int):IntKind.u32.wrap b%32=b%32:=by rw[IntKind.wrap_u32];omega
theorem tmod32(b:Int):Int.tmod (IntKind.u32.wrap b) 32=b%32:=by rw[Int.tmod_eq_emod_of_nonneg (u32_nn b),b32]
theorem min32(b:Int):min (b%32).toNat 32=(b%32).toNat:=by omega
theorem shl_prog(a b:Int):shlI .i32 a (Int.tmod (IntKind.u32.wrap b) 32)=shlM a b:=by
 rw[tmod32];unfold shlI shlM
 show w32 (a*2^(min (b%32).toNat 32))=_
 rw[min32]
theorem shr_prog(a b:Int):IntKind.i32.wrap (shrI .u32 (IntKind.u32.wrap a) (Int.tmod (IntKind.u32.wrap b) 32))=shrM a b:=by
 rw[tmod32];unfold shrI shrM
 show w32 ((u32 a).fdiv (2^(min (b%32).toNat 32)))=_
 rw[min32]
theorem sar_prog(a b:Int):shrI .i32 a (Int.tmod (IntKind.u32.wrap b) 32)=sarM a b:=by
 rw[tmod32];unfold shrI sarM
 show a.fdiv (2^(min (b%32).toNat 32))=_
 rw[min32]
theorem mul_rng{a b:Int}(ha:-2147483648≤a∧a≤2147483647)(hb:-2147483648≤b∧b≤2147483647):-4611686018427387904≤a*b∧a*b≤4611686018427387904:=by
 have h1:(a*b).natAbs=a.natAbs*b.natAbs:=Int.natAbs_mul a b
 have h2:a.natAbs*b.natAbs≤2147483648*2147483648:=Nat.mul_le_mul (by omega) (by omega)
 omega
theorem fits_prog{n bits:Int}(hn:IntKind.i32.wrap n=n)(h1:¬bits<1)(h2:¬32<bits):decide (shrI .i32 (shlI .i32 n (32-bits)) (32-bits)=n)=fitsM n bits:=by
 unfold fitsM
 rw[if_neg h1,if_neg h2]
 have hb:bits=32-(32-bits).toNat:=by omega
 have hs:(32-bits).toNat≤31:=by omega
 have hr:=i32_rng hn
 have h5:(bits-1).toNat=31-(32-bits).toNat:=by omega
 rw[h5]
 generalize hk:(32-bits).toNat=k at hs ⊢
 have h6:32-bits=(k:Int):=by omega
 rw[h6]
 have hmin:min k 32=k:=by omega
 have e1:shrI .i32 (shlI .i32 n k) k=(IntKind.i32.wrap (n*2^k)).fdiv (2^k):=by
  show(IntKind.i32.wrap (n*2^(min k 32))).fdiv (2^(min k 32))=_
  rw[hmin]
 simp only[e1,IntKind.wrap_i32]
 clear h6 h5 hb h1 h2 hk hmin e1
 have hk:k=0∨k=1∨k=2∨k=3∨k=4∨k=5∨k=6∨k=7∨k=8∨k=9∨k=10∨k=11∨k=12∨k=13∨k=14∨k=15∨k=16∨k=17∨k=18∨k=19∨k=20∨k=21∨k=22∨k=23∨k=24∨k=25∨k=26∨k=27∨k=28∨k=29∨k=30∨k=31:=by omega
 rcases hk with rfl|rfl|rfl|rfl|rfl|rfl|rfl|rfl|rfl|rfl|rfl|rfl|rfl|rfl|rfl|rfl|rfl|rfl|rfl|rfl|rfl|rfl|rfl|rfl|rfl|rfl|rfl|rfl|rfl|rfl|rfl|rfl <;>
  (rw[Int.fdiv_eq_ediv_of_nonneg _ (by decide),decide_eq_decide];simp only[Int.reducePow,Nat.reduceSub];omega)
abbrev U2:=@Tryz.underlying2
abbrev U21:=@Tryz.underlying21
theorem wbit_ct(b:Bool):Tv Tryz.prog 124 #[.bool b] [] [] (.int .i32 (bitM b)):=by
 refine jenter (args:=[.bool b]) Tryz.func124 rfl rfl rfl fun w0 X=>?_
 refine jq (jr (ja Z (jn (jx (jq (jq (jr (jm Z (jn (jx ?_))))))))))
 refine jif Z (fun hc1=>?_) (fun hc1=>?_)
 refine jq (jr (ja Z (jn (jx (jrt (jtr ?_))))))
 exact jrI Z Z (by first|(simp[bitM,hc1];done)|(unfold bitM;(repeat' split)<;>first|rfl|(exfalso;omega)|(simp[bitM,hc1];done)))
 refine jsk (jx (jq (jr (ja Z (jn (jx (jrt ?_)))))))
 exact jrI Z Z (by first|(simp[bitM,hc1];done)|(unfold bitM;(repeat' split)<;>first|rfl|(exfalso;omega)|(simp[bitM,hc1];done)))
theorem wFits_ct(n:Int)(bits:Int)(ww0:IntKind.i32.wrap n=n):Tv Tryz.prog 167 #[.int .i32 n,.int .i64 bits] [] [] (.bool (fitsM n bits)):=by
 refine jenter (args:=[.int .i32 n,.int .i64 bits]) Tryz.func167 rfl rfl rfl fun w0 X=>?_
 refine jq (jr (ja Z (jn (jx (jq (jq (jr (jm Z (js (jlss Z Z) (jn (jx ?_)))))))))))
 refine jif Z (fun hc1=>?_) (fun hc1=>?_)
 refine jq (jr (jm Z (js (jeql Z Z) (ja Z (jn (jx (jrt (jtr ?_))))))))
 exact jrB Z Z (by first|(simp[fitsM, *];done)|exact(fits_prog ww0 hc1 hc2).symm|exact(fits_prog ww0 ‹_› ‹_›).symm)
 refine jsk (jx (jq (jq (jr (jm Z (js (jgtr Z Z) (jn (jx ?_))))))))
 refine jif Z (fun hc2=>?_) (fun hc2=>?_)
 refine jq (jr (ja Z (jn (jx (jrt (jtr ?_))))))
 exact jrB Z Z (by first|(simp[fitsM, *];done)|exact(fits_prog ww0 hc1 hc2).symm|exact(fits_prog ww0 ‹_› ‹_›).symm)
 refine jsk (jx (jq (jr (jm Z (js (jsub Z Z (by omega)) (ja Z (jn (jx (jq (jr (jm Z ?_)))))))))))
 refine jm Z (js (jshl Z Z (by omega)) (jm Z (js (jshr Z Z (by omega)) (jm Z (js (jeql Z Z) (ja Z (jn (jx (jrt ?_)))))))))
 exact jrB Z Z (by first|(simp[fitsM, *];done)|exact(fits_prog ww0 hc1 hc2).symm|exact(fits_prog ww0 ‹_› ‹_›).symm)
end Go.Proofs.YtehhjlkmbdhckaaGreat
namespace Go.JE
variable{P:Program}{D D0:List Dt}{L M Ls L0:List Res}{e:Env}{X:Cx}{n:Fs}{w0:World}{Q:Exit→Act→World→Prop}
def im(g:Nat)(l:List (Int×Value)):Res where
 sat F H:=Im H g l∧F g=none
 own k:=k=g
 lt:=fun h e=>e▸h.1.lt
 no:=fun h e=>e▸h.2
 st:=fun _ _ h1 h2 h=>⟨h.1.of (h2 g rfl),h1 g rfl⟩
section
variable{ops:Array Oper}{op:Op}{d:Nat}{ty:TypeId}{pos:String}{af:Array Edge}{rest:List Oper}{T T' K E:TypeId}{x y z:Operand}{g:Nat}{l:List (Int×Value)}{k:Int}{v u:Value}{b:Bool}
theorem jmm(kk:∀g,LH P n w0 ops Q X D (im g []::L) ((d,.map (some g))::e) rest)(hd:Nat.blt d n.sz=true:=by rfl):LH P n w0 ops Q X D L e (⟨some d,.makeMap T none,ty,pos,af,none⟩::rest):=fun F H hp =>
 LF.chg OpCh.makeMapB (by rintro _ H' ⟨g,rfl,eg,sg,kg,hb⟩;exact kk g F H' (hp.new (R:=im g []) kg ⟨hb,hp.hin.nope (Nat.le_of_eq eg.symm)⟩ (fun k hk=>by have:k=g:=hk;omega))) hd
theorem Tw.kwm{H H':Heap}(h:Tw g H H'):Kw (im g l).own H H':=⟨Nat.le_of_eq h.1.symm,fun k _ h2=>h.2 k h2⟩
theorem jin{l':List (Int×Value)}(hT:P.underlying T=some (.map K E))(hK:P.underlying K=some (.int .i64))(hm:Tk L (im g l) M)(hx:ev e x=some (.map (some g)))(hi:ev e z=some (.int .i64 k))(hy:ev e y=some v)(hu:upM l k v=l')
  (kk:LH P n w0 ops Q X D (im g l'::M) e rest):LH P n w0 ops Q X D L e (⟨none,.insert T x z y,ty,pos,af,none⟩::rest):=fun F H hp =>
 LF.chg0 (OpCh.insert hT hK (hp.at hm).1 hx hi hy) (by rintro _ H' ⟨m,t⟩;exact kk F H' (hp.set (R':=im g l') hm t.kwm ⟨hu▸m,(hp.at hm).2⟩ (fun k h => .inr h)))
theorem jlk(hT:P.underlying T=some (.map K E))(hK:P.underlying K=some (.int .i64))(hz:(P.info? E).bind (·.zero)=some u)(hm:Tk L (im g l) M)(hx:ev e x=some (.map (some g)))(hi:ev e z=some (.int .i64 k)):OH P D L e (.lookup T x z false) ((lkM l k).getD u):=fun F H _ _ h=>OpOk.lookup hT hK hz (hm.ok h).1.1 hx hi
theorem jlko(hT:P.underlying T=some (.map K E))(hK:P.underlying K=some (.int .i64))(hz:(P.info? E).bind (·.zero)=some u)(hm:Tk L (im g l) M)(hx:ev e x=some (.map (some g)))(hi:ev e z=some (.int .i64 k)):OH P D L e (.lookup T x z true) (.tuple #[(lkM l k).getD u,.bool (lkM l k).isSome]):=fun F H _ _ h=>OpOk.lookupOk hT hK hz (hm.ok h).1.1 hx hi
theorem jfk{p:Value→Prop}(h:∃v,OH P D L e op v∧p v)(kk:∀v,p v→LH P n w0 ops Q X D L ((d,v)::e) rest)(hd:Nat.blt d n.sz=true:=by rfl):LH P n w0 ops Q X D L e (⟨some d,op,ty,pos,af,none⟩::rest):=by
 obtain⟨v,h1,h2⟩:=h;exact js h1 (kk v h2) hd
theorem jeb{r:Bool→Prop}(h:OE P D L e op (fun v _=>∃b,v = .bool b∧r b))(kk:∀b,r b→LH P n w0 ops Q X D L ((d,.bool b)::e) rest)(hd:Nat.blt d n.sz=true:=by rfl):LH P n w0 ops Q X D L e (⟨some d,op,ty,pos,af,none⟩::rest):=fun F H hp=>by
 obtain⟨v,h1,b,rfl,h2⟩:=h F H hp.hin hp.hd hp.ok;exact LF.step h1 (kk b h2 F H hp) hd
theorem jeqlNil{α:Type}{r:Rp α}{N:Nat}{l:List α}(hT:P.underlying T=some (.slice E))(hs:Nd D L (dv (rLn N r) v l))(hx:ev e x=some v)(hy:ev e y=some (.slice none 0 0))(hr:0<r.sz:=by exact Nat.le_of_ble_eq_true rfl):OE P D L e (.binOp .eql T x y T') (fun v _=>∃b,v = .bool b∧(b=true→l=[])):=fun F H h1 h2 h3=>by
 obtain⟨u,h4,b,h5,h6⟩:=OpOk.eqlNilS (T':=T') (H:=H) hT (hs F H h1 h2 h3) hr hx hy
 exact⟨u,h4,b,h5,h6⟩
end
def wn{α:Type}(B:Nat)(r:Rp α)(T:TypeId)(v:Value)(l:List α):Res where
 sat F H:=Wn r T F H B v l∧B≤H.size
 own k:=v.ownBlock=some k
 lt:=fun h e=>h.1.lt _ e
 no:=fun h e=>h.1.no _ e
 st:=fun hl hs h1 h2 h=>by
  obtain⟨⟨g,o,cap,cur,rfl,a1,a2,a3,a4,a5,a6,a7⟩,hB⟩:=h
  exact⟨⟨g,o,cap,cur,rfl,a1,h1 g rfl,(h2 g rfl).trans a3,a4,a5,a6,fun i hi=>(a7 i hi).up hl⟩,Nat.le_trans hB hs⟩
section
variable{ops:Array Oper}{d d2:Nat}{ty ty2:TypeId}{pos pos2:String}{af af2:Array Edge}{rest:List Oper}{v u z:Value}{x y lx:Operand}{T E:TypeId}{i bytes B lo:Nat}{α:Type}{r:Rp α}{l:List α}{a:α}{k:IntKind}{I:Int}
theorem jgw{c:Code}(hk:Tk L (gl B r E v l) M)(hs:r.sz=1)(hn:0<l.length)(kk:CH P n w0 Q X D (wn B r E v l::M) e c):CH P n w0 Q X D L e c:=fun F H hp =>
 kk F H (hp.set (R':=wn B r E v l) hk (Kw.refl _ _) ⟨(hp.at hk).1.wn hs hn,(hp.at hk).2⟩ (fun k h => .inr h))
theorem jlw(hT:P.underlying T=some (.slice E))(hk:Tk L (wn B r E v l) M)(hx:ev e x=some v):OH P D L e (.call { callee := .builtin .len,args:=#[x],argTypes:=#[T] }) (.int .i64 (l.length:Nat)):=fun F H _ _ h=>OpOk.lenW hT (hk.ok h).1.1 hx
theorem jiw(hT:P.underlying T=some (.slice E))(hE:Sz P E 1)(hk:Tk L (wn B r E v l) M)(hx:ev e x=some v)(hi:ev e y=some (.int k I))(hI:I=i)(h1:i<l.length):OH P D L e (.indexAddr T x y) (.pointer (some ⟨vblk v,voff v+i*1,none⟩)):=fun F H _ _ h=>OpOk.idxW hT hE (hk.ok h).1.1 hx hi hI h1
theorem jwI{l:List Int}(hk:Tk L (wn B (rI k) E v l) M)(hi:i<l.length)(hT:One P T)(hx:ev e x=some (.pointer (some ⟨vblk v,voff v+i*1,none⟩))):OH P D L e (.load T x) (.int k (ix l i)):=fun F H _ _ h=>OpOk.ldWI (hk.ok h).1.1 hi hT hx
theorem Wn.sv{F:PH}{H:Heap}(h:Wn r E F H B v l):Sv v:=by obtain⟨g,o,cap,cur,h1,_⟩:=h;exact⟨_,_,_,h1⟩
theorem jsw(hT:P.underlying T=some (.slice E))(hE:Sz P E 1)(hk:Tk L (wn B r E v l) M)(hx:ev e x=some v)(hl:ev e lx=some (.int k I))(hI:I=lo)(h2:lo≤l.length)
  (kk:∀v',Sv v'→LH P n w0 ops Q X D (wn B r E v' (l.drop lo)::M) ((d,v')::e) rest) (hd:Nat.blt d n.sz=true:=by rfl):LH P n w0 ops Q X D L e (⟨some d,.slice T x (some lx) none none,ty,pos,af,none⟩::rest):=fun F H hp=>by
 obtain⟨u,h3,h4,h5⟩:=OpOk.sliceW hT hE (hp.at hk).1 hx hl hI h2
 exact LF.step h3 (kk u h5.sv F H (hp.set (R':=wn B r E u (l.drop lo)) hk (Kw.refl _ _) ⟨h5,(hp.at hk).2⟩ (fun k h => .inr (h4.symm.trans h)))) hd
theorem cgw{c:Code}(hk:Tk L (wn B r E v l) M)(kk:Sv v→CH P n w0 Q X D L e c):CH P n w0 Q X D L e c:=fun F H hp=>kk (Wn.sv (hp.at hk).1) F H hp
theorem jaw{g m:Nat}(hT:P.underlying T=some (.slice E))(hE:(P.info? E).map (fun i=>(i.zero,i.size,i.bytes))=some (some z,1,bytes))(hby:bytes≤8192)(hz:z.cells.size=1)(hs:r.sz=1){B2:Nat}{N:List Res}(hk:Tk L (wn B r E v l) M)(hk2:Tk M (gl B2 r E (.slice (some ⟨g,0,none⟩) 1 m) [a]) N)
  (hx:ev e x=some v) (hy:ev e y=some (.slice (some ⟨g,0,none⟩) 1 m)) (hb:l.length<4294967295)
  (kk:∀v',Sv v'→LH P n w0 ops Q X D (wn B r E v' (l++[a])::N) ((d,v')::e) rest) (hd:Nat.blt d n.sz=true:=by rfl):LH P n w0 ops Q X D L e (⟨some d,.call { callee := .builtin .append,args:=#[x,y],argTypes:=#[T,T] },ty,pos,af,none⟩::rest):=fun F H hp=>by
 have h1:=hp.at hk
 haveI:Inhabited α:=⟨a⟩
 have hg:=((hk2.ok (hk.ok hp.ok).2.2).1).1
 obtain⟨u,hu,hra⟩:=hg.cell0 (i:=0) (by simp) hs
 refine LF.chg (OpCh.appW (r:=r) (a:=a) hT hE hby hz hs hx hy (by simpa[vblk,voff] using hu) hra h1.1 hp.hin hb h1.2) ?_ hd
 rintro v' H' ⟨h3,h4,h5⟩
 have h6:=hp.set (R':=wn B r E v' (l++[a])) hk ⟨h4.1,fun k h1 h2=>h4.2 k h1 (fun h3=>h2 h3.symm)⟩ ⟨h3,Nat.le_trans h1.2 h4.1⟩ (fun k hk1=>by
  rcases h5 with h5|h5
  ·exact .inr (h5.symm.trans hk1)
  ·have h7:some H.size=some k:=h5.symm.trans hk1
   injection h7 with h7;exact .inl (Nat.le_of_eq h7))
 refine kk v' h3.sv F H' ⟨h6.hx,h6.hin,h6.hw,h6.hd,?_,fun k hk1=>?_⟩
 ·obtain⟨a1,a2,a3⟩:=h6.ok
  exact⟨a1,fun k h1 h2=>a2 k h1 (hk2.own (.inr h2)),(hk2.ok a3).2.2⟩
 ·exact hk1.elim (fun h=>h6.ge k (.inl h)) (fun h=>h6.ge k (.inr (hk2.own (.inr h))))
end
end Go.JE
namespace Go.Proofs.YtehhjlkmbdhckaaGreat
open Go.JE
abbrev U107:=@Tryz.underlying107
abbrev U148:=@Tryz.underlying148
abbrev U182:=@Tryz.underlying182
abbrev U3:=@Tryz.underlying3
theorem E114:Ent Tryz.prog 114:=⟨_,Tryz.func114,by kernel_rfl,by kernel_rfl⟩
theorem E115:Ent Tryz.prog 115:=⟨_,Tryz.func115,by kernel_rfl,by kernel_rfl⟩
theorem E116:Ent Tryz.prog 116:=⟨_,Tryz.func116,by kernel_rfl,by kernel_rfl⟩
theorem E117:Ent Tryz.prog 117:=⟨_,Tryz.func117,by kernel_rfl,by kernel_rfl⟩
theorem E118:Ent Tryz.prog 118:=⟨_,Tryz.func118,by kernel_rfl,by kernel_rfl⟩
theorem E119:Ent Tryz.prog 119:=⟨_,Tryz.func119,by kernel_rfl,by kernel_rfl⟩
theorem E120:Ent Tryz.prog 120:=⟨_,Tryz.func120,by kernel_rfl,by kernel_rfl⟩
theorem E121:Ent Tryz.prog 121:=⟨_,Tryz.func121,by kernel_rfl,by kernel_rfl⟩
theorem E122:Ent Tryz.prog 122:=⟨_,Tryz.func122,by kernel_rfl,by kernel_rfl⟩
theorem E123:Ent Tryz.prog 123:=⟨_,Tryz.func123,by kernel_rfl,by kernel_rfl⟩
theorem E124:Ent Tryz.prog 124:=⟨_,Tryz.func124,by kernel_rfl,by kernel_rfl⟩
theorem E125:Ent Tryz.prog 125:=⟨_,Tryz.func125,by kernel_rfl,by kernel_rfl⟩
theorem E126:Ent Tryz.prog 126:=⟨_,Tryz.func126,by kernel_rfl,by kernel_rfl⟩
theorem E127:Ent Tryz.prog 127:=⟨_,Tryz.func127,by kernel_rfl,by kernel_rfl⟩
theorem O148:One Tryz.prog 148:=⟨_,Tryz.underlying148,rfl⟩
theorem O21:One Tryz.prog 21:=⟨_,Tryz.underlying21,rfl⟩
theorem Z148:Sz Tryz.prog 148 1:=by unfold Sz;kernel_rfl
theorem J107:(Tryz.prog.info? 107).bind (·.zero)=some (.nilFunc):=by kernel_rfl
theorem J148:(Tryz.prog.info? 148).bind (·.zero)=some (.int .u32 0):=by kernel_rfl
theorem wDo1_ct(a:Int){g0:Nat}(b:Int){g1:Nat}:Tr Tryz.prog 114 #[.pointer (some ⟨g0,0,none⟩),.pointer (some ⟨g1,0,none⟩)] [] [bx g0 21 [.int .i32 a],bx g1 21 [.int .i32 b]] (fun _:Unit => .int .i32 (w32 (a+b))) (fun _=>[]) (fun _ _=>[bx g0 21 [.int .i32 a],bx g1 21 [.int .i32 b]]):=by
 refine jenter (args:=[.pointer (some ⟨g0,0,none⟩),.pointer (some ⟨g1,0,none⟩)]) Tryz.func114 rfl rfl rfl fun w0 X=>?_
 refine jq (jr (ja Z (jn (jx (jq (jr (js (jl k0 O21 Z Z) (js (jl k1 O21 Z Z) (js (jaddw Z Z) (ja Z (jn ?_)))))))))))
 refine jx (jrt ?_)
 exact jr1 Z Z () (congrArg (Value.int .i32) (Eq.symm (by first|rfl|(simp[shl_prog,shr_prog,sar_prog];done)))) dn (fun _ _=>(kd kn))
theorem wDo2_ct(a:Int){g0:Nat}(b:Int){g1:Nat}:Tr Tryz.prog 115 #[.pointer (some ⟨g0,0,none⟩),.pointer (some ⟨g1,0,none⟩)] [] [bx g0 21 [.int .i32 a],bx g1 21 [.int .i32 b]] (fun _:Unit => .int .i32 (w32 (a-b))) (fun _=>[]) (fun _ _=>[bx g0 21 [.int .i32 a],bx g1 21 [.int .i32 b]]):=by
 refine jenter (args:=[.pointer (some ⟨g0,0,none⟩),.pointer (some ⟨g1,0,none⟩)]) Tryz.func115 rfl rfl rfl fun w0 X=>?_
 refine jq (jr (ja Z (jn (jx (jq (jr (js (jl k0 O21 Z Z) (js (jl k1 O21 Z Z) (js (jsubw Z Z) (ja Z (jn ?_)))))))))))
 refine jx (jrt ?_)
 exact jr1 Z Z () (congrArg (Value.int .i32) (Eq.symm (by first|rfl|(simp[shl_prog,shr_prog,sar_prog];done)))) dn (fun _ _=>(kd kn))
theorem wDo3_ct(a:Int){g0:Nat}(b:Int){g1:Nat}:Tr Tryz.prog 116 #[.pointer (some ⟨g0,0,none⟩),.pointer (some ⟨g1,0,none⟩)] [] [bx g0 21 [.int .i32 a],bx g1 21 [.int .i32 b]] (fun _:Unit => .int .i32 (w32 (a*b))) (fun _=>[]) (fun _ _=>[bx g0 21 [.int .i32 a],bx g1 21 [.int .i32 b]]):=by
 refine jenter (args:=[.pointer (some ⟨g0,0,none⟩),.pointer (some ⟨g1,0,none⟩)]) Tryz.func116 rfl rfl rfl fun w0 X=>?_
 refine jq (jr (ja Z (jn (jx (jq (jr (js (jl k0 O21 Z Z) (js (jl k1 O21 Z Z) (js (jmulw Z Z) (ja Z (jn ?_)))))))))))
 refine jx (jrt ?_)
 exact jr1 Z Z () (congrArg (Value.int .i32) (Eq.symm (by first|rfl|(simp[shl_prog,shr_prog,sar_prog];done)))) dn (fun _ _=>(kd kn))
theorem wDo4_ct(a:Int){g0:Nat}(b:Int){g1:Nat}:Tr Tryz.prog 117 #[.pointer (some ⟨g0,0,none⟩),.pointer (some ⟨g1,0,none⟩)] [] [bx g0 21 [.int .i32 a],bx g1 21 [.int .i32 b]] (fun _:Unit => .int .i32 (andI .i32 a b)) (fun _=>[]) (fun _ _=>[bx g0 21 [.int .i32 a],bx g1 21 [.int .i32 b]]):=by
 refine jenter (args:=[.pointer (some ⟨g0,0,none⟩),.pointer (some ⟨g1,0,none⟩)]) Tryz.func117 rfl rfl rfl fun w0 X=>?_
 refine jq (jr (ja Z (jn (jx (jq (jr (js (jl k0 O21 Z Z) (js (jl k1 O21 Z Z) (js (jandw Z Z) (ja Z (jn ?_)))))))))))
 refine jx (jrt ?_)
 exact jr1 Z Z () (congrArg (Value.int .i32) (Eq.symm (by first|rfl|(simp[shl_prog,shr_prog,sar_prog];done)))) dn (fun _ _=>(kd kn))
theorem wDo5_ct(a:Int){g0:Nat}(b:Int){g1:Nat}:Tr Tryz.prog 118 #[.pointer (some ⟨g0,0,none⟩),.pointer (some ⟨g1,0,none⟩)] [] [bx g0 21 [.int .i32 a],bx g1 21 [.int .i32 b]] (fun _:Unit => .int .i32 (orI .i32 a b)) (fun _=>[]) (fun _ _=>[bx g0 21 [.int .i32 a],bx g1 21 [.int .i32 b]]):=by
 refine jenter (args:=[.pointer (some ⟨g0,0,none⟩),.pointer (some ⟨g1,0,none⟩)]) Tryz.func118 rfl rfl rfl fun w0 X=>?_
 refine jq (jr (ja Z (jn (jx (jq (jr (js (jl k0 O21 Z Z) (js (jl k1 O21 Z Z) (js (jorw Z Z) (ja Z (jn ?_)))))))))))
 refine jx (jrt ?_)
 exact jr1 Z Z () (congrArg (Value.int .i32) (Eq.symm (by first|rfl|(simp[shl_prog,shr_prog,sar_prog];done)))) dn (fun _ _=>(kd kn))
theorem wDo6_ct(a:Int){g0:Nat}(b:Int){g1:Nat}:Tr Tryz.prog 119 #[.pointer (some ⟨g0,0,none⟩),.pointer (some ⟨g1,0,none⟩)] [] [bx g0 21 [.int .i32 a],bx g1 21 [.int .i32 b]] (fun _:Unit => .int .i32 (xorI .i32 a b)) (fun _=>[]) (fun _ _=>[bx g0 21 [.int .i32 a],bx g1 21 [.int .i32 b]]):=by
 refine jenter (args:=[.pointer (some ⟨g0,0,none⟩),.pointer (some ⟨g1,0,none⟩)]) Tryz.func119 rfl rfl rfl fun w0 X=>?_
 refine jq (jr (ja Z (jn (jx (jq (jr (js (jl k0 O21 Z Z) (js (jl k1 O21 Z Z) (js (jxorw Z Z) (ja Z (jn ?_)))))))))))
 refine jx (jrt ?_)
 exact jr1 Z Z () (congrArg (Value.int .i32) (Eq.symm (by first|rfl|(simp[shl_prog,shr_prog,sar_prog];done)))) dn (fun _ _=>(kd kn))
theorem wDo7_ct(a:Int){g0:Nat}(b:Int){g1:Nat}:Tr Tryz.prog 120 #[.pointer (some ⟨g0,0,none⟩),.pointer (some ⟨g1,0,none⟩)] [] [bx g0 21 [.int .i32 a],bx g1 148 [.int .u32 (Int.tmod (IntKind.u32.wrap b) 32)]] (fun _:Unit => .int .i32 (shlM a b)) (fun _=>[]) (fun _ _=>[bx g0 21 [.int .i32 a],bx g1 148 [.int .u32 (Int.tmod (IntKind.u32.wrap b) 32)]]):=by
 refine jenter (args:=[.pointer (some ⟨g0,0,none⟩),.pointer (some ⟨g1,0,none⟩)]) Tryz.func120 rfl rfl rfl fun w0 X=>?_
 refine jq (jr (ja Z (jn (jx (jq (jr (js (jl k0 O21 Z Z) (js (jl k1 O148 Z Z) (js (jshl Z Z (by rw[tmod32];omega)) (ja Z (jn ?_)))))))))))
 refine jx (jrt ?_)
 exact jr1 Z Z () (congrArg (Value.int .i32) (Eq.symm (by first|rfl|(simp[shl_prog,shr_prog,sar_prog];done)))) dn (fun _ _=>(kd kn))
theorem wDo8_ct(a:Int){g0:Nat}(b:Int){g1:Nat}:Tr Tryz.prog 121 #[.pointer (some ⟨g0,0,none⟩),.pointer (some ⟨g1,0,none⟩)] [] [bx g0 21 [.int .i32 a],bx g1 148 [.int .u32 (Int.tmod (IntKind.u32.wrap b) 32)]] (fun _:Unit => .int .i32 (shrM a b)) (fun _=>[]) (fun _ _=>[bx g0 21 [.int .i32 a],bx g1 148 [.int .u32 (Int.tmod (IntKind.u32.wrap b) 32)]]):=by
 refine jenter (args:=[.pointer (some ⟨g0,0,none⟩),.pointer (some ⟨g1,0,none⟩)]) Tryz.func121 rfl rfl rfl fun w0 X=>?_
 refine jq (jr (ja Z (jn (jx (jq (jr (js (jl k0 O21 Z Z) (js (jco U21 U148 Z Z) (js (jl k1 O148 Z Z) (js (jshr Z Z (by rw[tmod32];omega)) (js (jco U148 U21 Z Z) ?_)))))))))))
 refine ja Z (jn (jx (jrt ?_)))
 exact jr1 Z Z () (congrArg (Value.int .i32) (Eq.symm (by first|rfl|(simp[shl_prog,shr_prog,sar_prog];done)))) dn (fun _ _=>(kd kn))
theorem wDo9_ct(a:Int){g0:Nat}(b:Int){g1:Nat}:Tr Tryz.prog 122 #[.pointer (some ⟨g0,0,none⟩),.pointer (some ⟨g1,0,none⟩)] [] [bx g0 21 [.int .i32 a],bx g1 148 [.int .u32 (Int.tmod (IntKind.u32.wrap b) 32)]] (fun _:Unit => .int .i32 (sarM a b)) (fun _=>[]) (fun _ _=>[bx g0 21 [.int .i32 a],bx g1 148 [.int .u32 (Int.tmod (IntKind.u32.wrap b) 32)]]):=by
 refine jenter (args:=[.pointer (some ⟨g0,0,none⟩),.pointer (some ⟨g1,0,none⟩)]) Tryz.func122 rfl rfl rfl fun w0 X=>?_
 refine jq (jr (ja Z (jn (jx (jq (jr (js (jl k0 O21 Z Z) (js (jl k1 O148 Z Z) (js (jshr Z Z (by rw[tmod32];omega)) (ja Z (jn ?_)))))))))))
 refine jx (jrt ?_)
 exact jr1 Z Z () (congrArg (Value.int .i32) (Eq.symm (by first|rfl|(simp[shl_prog,shr_prog,sar_prog];done)))) dn (fun _ _=>(kd kn))
theorem wDo10_ct(a:Int){g0:Nat}(b:Int){g1:Nat}:Tr Tryz.prog 123 #[.pointer (some ⟨g0,0,none⟩),.pointer (some ⟨g1,0,none⟩)] [] [bx g0 21 [.int .i32 a],bx g1 21 [.int .i32 b]] (fun _:Unit => .int .i32 (bitM (decide (a=b)))) (fun _=>[]) (fun _ _=>[bx g0 21 [.int .i32 a],bx g1 21 [.int .i32 b]]):=by
 refine jenter (args:=[.pointer (some ⟨g0,0,none⟩),.pointer (some ⟨g1,0,none⟩)]) Tryz.func123 rfl rfl rfl fun w0 X=>?_
 refine jq (jr (ja Z (jn (jx (jq (jr (js (jl k0 O21 Z Z) (js (jl k1 O21 Z Z) (js (jeql Z Z) (jcv E124 Z Z (wbit_ct (decide (a=b))) dn kn (ja Z ?_)))))))))))
 refine jn (jx (jrt ?_))
 exact jr1 Z Z () (congrArg (Value.int .i32) (Eq.symm (by first|rfl|(simp[shl_prog,shr_prog,sar_prog];done)))) dn (fun _ _=>(kd kn))
theorem wDo11_ct(a:Int){g0:Nat}(b:Int){g1:Nat}:Tr Tryz.prog 125 #[.pointer (some ⟨g0,0,none⟩),.pointer (some ⟨g1,0,none⟩)] [] [bx g0 21 [.int .i32 a],bx g1 21 [.int .i32 b]] (fun _:Unit => .int .i32 (bitM (decide (a<b)))) (fun _=>[]) (fun _ _=>[bx g0 21 [.int .i32 a],bx g1 21 [.int .i32 b]]):=by
 refine jenter (args:=[.pointer (some ⟨g0,0,none⟩),.pointer (some ⟨g1,0,none⟩)]) Tryz.func125 rfl rfl rfl fun w0 X=>?_
 refine jq (jr (ja Z (jn (jx (jq (jr (js (jl k0 O21 Z Z) (js (jl k1 O21 Z Z) (js (jlss Z Z) (jcv E124 Z Z (wbit_ct (decide (a<b))) dn kn (ja Z ?_)))))))))))
 refine jn (jx (jrt ?_))
 exact jr1 Z Z () (congrArg (Value.int .i32) (Eq.symm (by first|rfl|(simp[shl_prog,shr_prog,sar_prog];done)))) dn (fun _ _=>(kd kn))
theorem wDo12_ct(a:Int){g0:Nat}(b:Int){g1:Nat}:Tr Tryz.prog 126 #[.pointer (some ⟨g0,0,none⟩),.pointer (some ⟨g1,0,none⟩)] [] [bx g0 21 [.int .i32 a],bx g1 21 [.int .i32 b]] (fun _:Unit => .int .i32 (bitM (decide (u32 a<u32 b)))) (fun _=>[]) (fun _ _=>[bx g0 21 [.int .i32 a],bx g1 21 [.int .i32 b]]):=by
 refine jenter (args:=[.pointer (some ⟨g0,0,none⟩),.pointer (some ⟨g1,0,none⟩)]) Tryz.func126 rfl rfl rfl fun w0 X=>?_
 refine jq (jr (ja Z (jn (jx (jq (jr (js (jl k0 O21 Z Z) (js (jco U21 U148 Z Z) (js (jl k1 O21 Z Z) (js (jco U21 U148 Z Z) (js (jlss Z Z) ?_)))))))))))
 refine jcv E124 Z Z (wbit_ct (decide (IntKind.u32.wrap a<IntKind.u32.wrap b))) dn kn (ja Z (jn (jx (jrt ?_))))
 exact jr1 Z Z () (congrArg (Value.int .i32) (Eq.symm (by first|rfl|(simp[shl_prog,shr_prog,sar_prog];done)))) dn (fun _ _=>(kd kn))
theorem wDo13_ct(a:Int){g0:Nat}(b:Int){g1:Nat}(hb:b≠0):Tr Tryz.prog 127 #[.pointer (some ⟨g0,0,none⟩),.pointer (some ⟨g1,0,none⟩)] [] [bx g0 21 [.int .i32 a],bx g1 21 [.int .i32 b]] (fun _:Unit => .int .i32 (divM a b)) (fun _=>[]) (fun _ _=>[bx g0 21 [.int .i32 a],bx g1 21 [.int .i32 b]]):=by
 refine jenter (args:=[.pointer (some ⟨g0,0,none⟩),.pointer (some ⟨g1,0,none⟩)]) Tryz.func127 rfl rfl rfl fun w0 X=>?_
 refine jq (jr (ja Z (jn (jx (jq (jr (js (jl k0 O21 Z Z) (js (jl k1 O21 Z Z) (js (jquo Z Z hb) (ja Z (jn ?_)))))))))))
 refine jx (jrt ?_)
 exact jr1 Z Z () (congrArg (Value.int .i32) (Eq.symm (by first|rfl|(simp[shl_prog,shr_prog,sar_prog];done)))) dn (fun _ _=>(kd kn))
theorem do_snd{op a b:Int}(h:2≤op∧op≤14)(h2:op=14→¬b=0):doM op a b=((doM op a b).1,true):=by
 have hc:op=2∨op=3∨op=4∨op=5∨op=6∨op=7∨op=8∨op=9∨op=10∨op=11∨op=12∨op=13∨op=14:=by omega
 rcases hc with rfl|rfl|rfl|rfl|rfl|rfl|rfl|rfl|rfl|rfl|rfl|rfl|rfl<;>first|rfl|(simp[doM,h2])
theorem Tr.perm{P:Program}{f:FuncId}{args:Array Value}{D0:List Dt}{L0:List Res}{ι:Type}{val:ι→Value}{dr:ι→List Dt}{lr lr':Nat→ι→List Res}{M:Nat→ι→List Res}(h:Tr P f args D0 L0 val dr lr)(hk:∀B i,Tks (lr B i) (lr' B i) (M B i)):Tr P f args D0 L0 val dr lr':=fun F H a b c =>
 (h F H a b c).mono fun v H' ⟨i,F',h1,h2⟩=>⟨i,F',h1,fun B hB=>by
  have h3:=h2 B hB
  exact⟨h3.hx,h3.hin,h3.hw,h3.hd,((hk B i).ok h3.ok).1,fun k hk'=>h3.ge k ((hk B i).own (.inl hk'))⟩⟩
section
variable{f:FuncId}{args:Array Value}{R1 R2 R3:Res}{x y:Int}
theorem wdo_fr0(h:Tr Tryz.prog f args [] [R1,R2] (fun _:Unit => .int .i32 x) (fun _=>[]) (fun _ _=>[R1,R2]))(e:y=x):Tr Tryz.prog f args [] [R1,R2,R3] (fun _:Unit => .int .i32 y) (fun _=>[]) (fun _ _=>[R1,R2,R3]):=by
 subst e;exact Tr.fr h (kd kn)
theorem wdo_fr1(h:Tr Tryz.prog f args [] [R1,R3] (fun _:Unit => .int .i32 x) (fun _=>[]) (fun _ _=>[R1,R3]))(e:y=x):Tr Tryz.prog f args [] [R1,R2,R3] (fun _:Unit => .int .i32 y) (fun _=>[]) (fun _ _=>[R1,R2,R3]):=by
 subst e;exact Tr.perm (Tr.fr h (kc k0 (kc k1 kn))) (fun _ _=>kc k0 (kc k1 (kc k0 kn)))
end
theorem wtable_ct(a b op:Int){g4 g5 g8:Nat}{L:List (Int×Value)}
  (hL:L=[(2,.func (.func 114) #[] #[.pointer (some ⟨g4,0,none⟩),.pointer (some ⟨g5,0,none⟩)]),(3,.func (.func 115) #[] #[.pointer (some ⟨g4,0,none⟩),.pointer (some ⟨g5,0,none⟩)]),(4,.func (.func 116) #[] #[.pointer (some ⟨g4,0,none⟩),.pointer (some ⟨g5,0,none⟩)]),(5,.func (.func 117) #[] #[.pointer (some ⟨g4,0,none⟩),.pointer (some ⟨g5,0,none⟩)]),(6,.func (.func 118) #[] #[.pointer (some ⟨g4,0,none⟩),.pointer (some ⟨g5,0,none⟩)]),(7,.func (.func 119) #[] #[.pointer (some ⟨g4,0,none⟩),.pointer (some ⟨g5,0,none⟩)]),(8,.func (.func 120) #[] #[.pointer (some ⟨g4,0,none⟩),.pointer (some ⟨g8,0,none⟩)]),(9,.func (.func 121) #[] #[.pointer (some ⟨g4,0,none⟩),.pointer (some ⟨g8,0,none⟩)]),(10,.func (.func 122) #[] #[.pointer (some ⟨g4,0,none⟩),.pointer (some ⟨g8,0,none⟩)]),(11,.func (.func 123) #[] #[.pointer (some ⟨g4,0,none⟩),.pointer (some ⟨g5,0,none⟩)]),(12,.func (.func 125) #[] #[.pointer (some ⟨g4,0,none⟩),.pointer (some ⟨g5,0,none⟩)]),(13,.func (.func 126) #[] #[.pointer (some ⟨g4,0,none⟩),.pointer (some ⟨g5,0,none⟩)]),(14,.func (.func 127) #[] #[.pointer (some ⟨g4,0,none⟩),.pointer (some ⟨g5,0,none⟩)])]:=by rfl) :
  ((lkM L op).getD .nilFunc = .nilFunc∧(op<2∨14<op))∨∃(f:Nat) (cs:List Value),(lkM L op).getD .nilFunc = .func (.func f) #[] cs.toArray∧Ent Tryz.prog f∧(2≤op∧op≤14)∧((op=14→b≠0)→Tr Tryz.prog f cs.toArray [] [bx g4 21 [.int .i32 a],bx g5 21 [.int .i32 b],bx g8 148 [.int .u32 (Int.tmod (IntKind.u32.wrap b) 32)]] (fun _:Unit => .int .i32 (doM op a b).1) (fun _=>[]) (fun _ _=>[bx g4 21 [.int .i32 a],bx g5 21 [.int .i32 b],bx g8 148 [.int .u32 (Int.tmod (IntKind.u32.wrap b) 32)]])):=by
 subst hL
 by_cases ho:2≤op∧op≤14
 ·refine .inr ?_
  have hc:op=2∨op=3∨op=4∨op=5∨op=6∨op=7∨op=8∨op=9∨op=10∨op=11∨op=12∨op=13∨op=14:=by omega
  rcases hc with rfl|rfl|rfl|rfl|rfl|rfl|rfl|rfl|rfl|rfl|rfl|rfl|rfl
  ·exact⟨_,[.pointer (some ⟨g4,0,none⟩),.pointer (some ⟨g5,0,none⟩)],rfl,E114,by omega,fun h9=>wdo_fr0 (wDo1_ct a b) rfl⟩
  ·exact⟨_,[.pointer (some ⟨g4,0,none⟩),.pointer (some ⟨g5,0,none⟩)],rfl,E115,by omega,fun h9=>wdo_fr0 (wDo2_ct a b) rfl⟩
  ·exact⟨_,[.pointer (some ⟨g4,0,none⟩),.pointer (some ⟨g5,0,none⟩)],rfl,E116,by omega,fun h9=>wdo_fr0 (wDo3_ct a b) rfl⟩
  ·exact⟨_,[.pointer (some ⟨g4,0,none⟩),.pointer (some ⟨g5,0,none⟩)],rfl,E117,by omega,fun h9=>wdo_fr0 (wDo4_ct a b) rfl⟩
  ·exact⟨_,[.pointer (some ⟨g4,0,none⟩),.pointer (some ⟨g5,0,none⟩)],rfl,E118,by omega,fun h9=>wdo_fr0 (wDo5_ct a b) rfl⟩
  ·exact⟨_,[.pointer (some ⟨g4,0,none⟩),.pointer (some ⟨g5,0,none⟩)],rfl,E119,by omega,fun h9=>wdo_fr0 (wDo6_ct a b) rfl⟩
  ·exact⟨_,[.pointer (some ⟨g4,0,none⟩),.pointer (some ⟨g8,0,none⟩)],rfl,E120,by omega,fun h9=>wdo_fr1 (wDo7_ct a b) rfl⟩
  ·exact⟨_,[.pointer (some ⟨g4,0,none⟩),.pointer (some ⟨g8,0,none⟩)],rfl,E121,by omega,fun h9=>wdo_fr1 (wDo8_ct a b) rfl⟩
  ·exact⟨_,[.pointer (some ⟨g4,0,none⟩),.pointer (some ⟨g8,0,none⟩)],rfl,E122,by omega,fun h9=>wdo_fr1 (wDo9_ct a b) rfl⟩
  ·exact⟨_,[.pointer (some ⟨g4,0,none⟩),.pointer (some ⟨g5,0,none⟩)],rfl,E123,by omega,fun h9=>wdo_fr0 (wDo10_ct a b) rfl⟩
  ·exact⟨_,[.pointer (some ⟨g4,0,none⟩),.pointer (some ⟨g5,0,none⟩)],rfl,E125,by omega,fun h9=>wdo_fr0 (wDo11_ct a b) rfl⟩
  ·exact⟨_,[.pointer (some ⟨g4,0,none⟩),.pointer (some ⟨g5,0,none⟩)],rfl,E126,by omega,fun h9=>wdo_fr0 (wDo12_ct a b) rfl⟩
  ·exact⟨_,[.pointer (some ⟨g4,0,none⟩),.pointer (some ⟨g5,0,none⟩)],rfl,E127,by omega,fun h9=>wdo_fr0 (wDo13_ct a b (h9 rfl)) (by simp[doM,h9 rfl])⟩
 ·refine .inl ⟨?_,by omega⟩
  have h1:∀k:Int,2≤k→k≤14→(k==op)=false:=fun k h2 h3=>by rw[beq_eq_false_iff_ne];omega
  simp[lkM,List.find?,h1]
theorem wDo_ct(op:Int)(a:Int)(b:Int):Tv Tryz.prog 86 #[.int .i64 op,.int .i32 a,.int .i32 b] [] [] (.tuple #[.int .i32 ((doM op a b).1),.bool ((doM op a b).2)]):=by
 refine jenter (args:=[.int .i64 op,.int .i32 a,.int .i32 b]) Tryz.func86 rfl rfl rfl fun w0 X=>?_
 refine jq (jr (jbox Z Z fun g4=>jbox Z Z fun g5=>ja Z (ja Z (jn (jx (jq (jr (js (jl k0 O21 Z Z) (js (jco U21 U148 Z Z) ?_)))))))))
 refine js (jrem Z Z (by decide)) (jalc J148 Z fun g8=>jst k0 Z148 Z Z Z s0 (jn (jx (jq (jr (jmm fun g13=>js (jmf2 Z Z) (jin U182 U3 k0 Z Z Z Z (js (jmf2 Z Z) (jin U182 U3 k0 Z Z Z Z ?_)))))))))
 refine js (jmf2 Z Z) (jin U182 U3 k0 Z Z Z Z (js (jmf2 Z Z) (jin U182 U3 k0 Z Z Z Z (js (jmf2 Z Z) (jin U182 U3 k0 Z Z Z Z (js (jmf2 Z Z) (jin U182 U3 k0 Z Z Z Z (js (jmf2 Z Z) (jin U182 U3 k0 Z Z Z Z (js (jmf2 Z Z) (jin U182 U3 k0 Z Z Z Z ?_)))))))))))
 refine js (jmf2 Z Z) (jin U182 U3 k0 Z Z Z Z (js (jmf2 Z Z) (jin U182 U3 k0 Z Z Z Z (js (jmf2 Z Z) (jin U182 U3 k0 Z Z Z Z (js (jmf2 Z Z) (jin U182 U3 k0 Z Z Z Z (js (jmf2 Z Z) (jin U182 U3 k0 Z Z Z Z (jm Z (jm Z ?_)))))))))))
 refine jfk (p:=fun v=>(v = .nilFunc∧(op<2∨14<op))∨∃(f:Nat) (cs:List Value),v = .func (.func f) #[] cs.toArray∧Ent Tryz.prog f∧(2≤op∧op≤14)∧((op=14→b≠0)→Tr Tryz.prog f cs.toArray [] [bx g4 21 [.int .i32 a],bx g5 21 [.int .i32 b],bx g8 148 [.int .u32 (Int.tmod (IntKind.u32.wrap b) 32)]] (fun _:Unit => .int .i32 (doM op a b).1) (fun _=>[]) (fun _ _=>[bx g4 21 [.int .i32 a],bx g5 21 [.int .i32 b],bx g8 148 [.int .u32 (Int.tmod (IntKind.u32.wrap b) 32)]]))) ⟨_,jlk U182 U3 J107 k0 Z Z,wtable_ct a b op⟩ ?_
 rintro v29 (⟨rfl,hop⟩|⟨f,cs,rfl,hE,hop,hct⟩)
 refine ja Z (jn (jx (jq (jq (jr (jm Z (js (jeqlN U107 Z Z) (jm Z (jg Z Z (.f _) (fun hg=>jmv Z) (jg Z Z (.f _) (fun hg=>jeql (evg Z hg) Z) (jg Z Z (.f _) (fun hg=>jmv (evg Z hg)) ?_)))))))))))
 refine jg Z Z (.gt _ _) (fun hg=>jl k2 O21 Z Z) (jg Z Z (.gt _ _) (fun hg=>jeql (evg Z hg) Z) (jg Z Z (.f _) (fun hg=>jand2 hg Z Z) (js (jor Z Z) (jn (jx ?_)))))
 refine jif Z (fun hc1=>?_) (fun hc1=>?_)
 refine jq (jr (ja Z (ja Z (jn (jx (jrt (jtr ?_)))))))
 exact jr2 Z Z Z () (tIB (by first|(unfold doM;(repeat rw[if_neg (by omega)]);done)|(simp at hc2;obtain⟨rfl,rfl⟩:=hc2;rfl)|(simp at hc2;exact do_snd hop (fun h9=>hc2.resolve_left (fun h8=>h8 h9))))) dn (fun _ _=>kn)
 exact absurd hc1 (by simp)
 refine ja Z (jn (jx (jq (jq (jr (jm Z (js (jeqlF U107 Z Z) (jm Z (jk Z Z (.f _) (jmv Z) (jk Z Z (.f _) (jeql Z Z) (jk Z Z (.f _) (jmv Z) ?_)))))))))))
 refine jg Z Z (.t _) (fun hg=>jl k2 O21 Z Z) (jg Z Z (.t _) (fun hg=>jeql (evg Z hg) Z) (jk Z Z (.f _) (jand Z Z) (js (jor Z Z) (jn (jx ?_)))))
 refine jif Z (fun hc2=>?_) (fun hc2=>?_)
 refine jq (jr (ja Z (ja Z (jn (jx (jrt (jtr ?_)))))))
 exact jr2 Z Z Z () (tIB (by first|(unfold doM;(repeat rw[if_neg (by omega)]);done)|(simp at hc2;obtain⟨rfl,rfl⟩:=hc2;rfl)|(simp at hc2;exact do_snd hop (fun h9=>hc2.resolve_left (fun h8=>h8 h9))))) dn (fun _ _=>kn)
 refine jsk (jx (jq (jr (jm Z (jc hE Z Z (hct (by omega)) dn (kc k3 (kc k2 (kc k1 kn))) (fun _=>p0) (fun _=>p3) fun _=>ja Z (ja Z (jn (jx (jrt ?_)))))))))
 exact jr2 Z Z Z () (tIB (by first|(unfold doM;(repeat rw[if_neg (by omega)]);done)|(simp at hc2;obtain⟨rfl,rfl⟩:=hc2;rfl)|(simp at hc2;exact do_snd hop (fun h9=>hc2.resolve_left (fun h8=>h8 h9))))) dn (fun _ _=>kn)
abbrev U137:=@Tryz.underlying137
abbrev U22:=@Tryz.underlying22
theorem A99:∃d,Tryz.prog.underlying 99=some d∧(match d with | .struct _ | .array _ _=>true|_=>false)=true:=⟨_,Tryz.underlying99,rfl⟩
theorem E80:Ent Tryz.prog 80:=⟨_,Tryz.func80,by kernel_rfl,by kernel_rfl⟩
theorem F35_0:Fld Tryz.prog 35 0 0:=⟨_,_,Tryz.underlying35,rfl,rfl,1,(by unfold Sz;kernel_rfl),by decide⟩
theorem F35_1:Fld Tryz.prog 35 1 1:=⟨_,_,Tryz.underlying35,rfl,rfl,1,(by unfold Sz;kernel_rfl),by decide⟩
theorem F35_2:Fld Tryz.prog 35 2 2:=⟨_,_,Tryz.underlying35,rfl,rfl,1,(by unfold Sz;kernel_rfl),by decide⟩
theorem F69_0:Fld Tryz.prog 69 0 0:=⟨_,_,Tryz.underlying69,rfl,rfl,1,(by unfold Sz;kernel_rfl),by decide⟩
theorem F69_1:Fld Tryz.prog 69 1 1:=⟨_,_,Tryz.underlying69,rfl,rfl,1,(by unfold Sz;kernel_rfl),by decide⟩
theorem F69_2:Fld Tryz.prog 69 2 2:=⟨_,_,Tryz.underlying69,rfl,rfl,1,(by unfold Sz;kernel_rfl),by decide⟩
theorem F69_3:Fld Tryz.prog 69 3 3:=⟨_,_,Tryz.underlying69,rfl,rfl,1,(by unfold Sz;kernel_rfl),by decide⟩
theorem F69_4:Fld Tryz.prog 69 4 4:=⟨_,_,Tryz.underlying69,rfl,rfl,1,(by unfold Sz;kernel_rfl),by decide⟩
theorem F69_5:Fld Tryz.prog 69 5 5:=⟨_,_,Tryz.underlying69,rfl,rfl,1,(by unfold Sz;kernel_rfl),by decide⟩
theorem F69_7:Fld Tryz.prog 69 7 7:=⟨_,_,Tryz.underlying69,rfl,rfl,1,(by unfold Sz;kernel_rfl),by decide⟩
theorem I3:(Tryz.prog.info? 3).map (fun i=>(i.zero,i.size,i.bytes))=some (some (.int .i64 0),1,8):=by kernel_rfl
theorem O22:One Tryz.prog 22:=⟨_,Tryz.underlying22,rfl⟩
theorem O3:One Tryz.prog 3:=⟨_,Tryz.underlying3,rfl⟩
theorem Z3:Sz Tryz.prog 3 1:=by unfold Sz;kernel_rfl
theorem Z99:Sz Tryz.prog 99 2:=by unfold Sz;kernel_rfl
theorem J99:(Tryz.prog.info? 99).bind (·.zero)=some (.agg #[.nilFunc,.nilFunc]):=by kernel_rfl
def takesM(i:D.Mach):List Int :=
 if i.Op=1∨18≤i.Op∧i.Op≤22∨i.Op=24∨i.Op=31 then [i.A]
 else if i.Op=2∨5≤i.Op∧i.Op≤17∨i.Op=25∨i.Op=26∨i.Op=29 then [i.A,i.B]
 else if i.Op=23∨i.Op=27 then [i.A,i.B,i.C]
 else if i.Op=28 then i.Args
 else []
def makesM(i:D.Mach):List Int :=
 if i.Op=2 then [i.A,i.B]
 else if i.Op=29 then [i.D,i.E]
 else if i.Op=26∨i.Op=27∨i.Op=31∨i.Op<1∨31<i.Op then []
 else [i.D]
def nM9(e:D.End):List Int :=
 if e.Op=2∨e.Op=6∨e.Op=7∧0≤e.A then [e.A]
 else if e.Op=3∨e.Op=4∨e.Op=5 then [e.A,e.B]
 else []
def regM:List Int→Bool
 | []=>true
 | x::l=>if x<0∨8192≤x then false else regM l
theorem rTakes_ct{a0:Value}{i:D.Mach}:Td Tryz.prog 44 #[vMach i a0] [da rMach (vMach i a0) i] [] (rL (rI .i64)) (takesM i):=by
 refine jenter (args:=[vMach i a0]) Tryz.func44 rfl rfl rfl fun w0 X=>?_
 refine jq (jr (jbox Z Z fun g1=>ja Z (jn (jx (jq (jb (jq (jr (js (jf F69_0 Z) (js (jl k0 O3 Z Z) ?_))))))))))
 refine js (jeql Z Z) (jm Z (jg Z Z (.f _) (fun hg=>jf F69_0 Z) (jg Z Z (.f _) (fun hg=>jl k0 O3 (evg Z hg) Z) (jg Z Z (.f _) (fun hg=>jgeq (evg Z hg) Z) (jg Z Z (.f _) (fun hg=>jmv (evg Z hg)) (jg Z Z (.gt _ _) (fun hg=>jf F69_0 Z) (jg Z Z (.gt _ _) (fun hg=>jl k0 O3 (evg Z hg) Z) (jg Z Z (.gt _ _) (fun hg=>jleq (evg Z hg) Z) (jg Z Z (.f _) (fun hg=>jand2 hg Z Z) (js (jor Z Z) (jm Z ?_)))))))))))
 refine jg Z Z (.f _) (fun hg=>jf F69_0 Z) (jg Z Z (.f _) (fun hg=>jl k0 O3 (evg Z hg) Z) (jg Z Z (.f _) (fun hg=>jeql (evg Z hg) Z) (js (jor Z Z) (jm Z (jg Z Z (.f _) (fun hg=>jf F69_0 Z) (jg Z Z (.f _) (fun hg=>jl k0 O3 (evg Z hg) Z) (jg Z Z (.f _) (fun hg=>jeql (evg Z hg) Z) (js (jor Z Z) (ja Z (jn (jx ?_)))))))))))
 refine jif Z (fun hc1=>?_) (fun hc1=>?_)
 refine jq (jr (js (jf F69_3 Z) (js (jl k0 O3 Z Z) (jlit (r:=(rI .i64)) (l:=[i.A]) U22 I3 (by decide) Z Z Z (lV Z Z (wI (rMach.W_A d0)) ln) fun g29=>ja Z (jn (jx (jrt (jbr (jtr (qfz k0 (by(try simp)<;>omega) ?_))))))))))
 exact jrD Z Z (by first|(simp[takesM,hc1];done)|(unfold takesM;(repeat' split)<;>first|rfl|(exfalso;omega)|(simp[takesM,hc1];done))) d0
 refine jq (jr (js (jf F69_0 Z) (js (jl k0 O3 Z Z) (js (jeql Z Z) (jm Z (jg Z Z (.f _) (fun hg=>jf F69_0 Z) (jg Z Z (.f _) (fun hg=>jl k0 O3 (evg Z hg) Z) (jg Z Z (.f _) (fun hg=>jgeq (evg Z hg) Z) (jg Z Z (.f _) (fun hg=>jmv (evg Z hg)) (jg Z Z (.gt _ _) (fun hg=>jf F69_0 Z) (jg Z Z (.gt _ _) (fun hg=>jl k0 O3 (evg Z hg) Z) ?_)))))))))))
 refine jg Z Z (.gt _ _) (fun hg=>jleq (evg Z hg) Z) (jg Z Z (.f _) (fun hg=>jand2 hg Z Z) (js (jor Z Z) (jm Z (jg Z Z (.f _) (fun hg=>jf F69_0 Z) (jg Z Z (.f _) (fun hg=>jl k0 O3 (evg Z hg) Z) (jg Z Z (.f _) (fun hg=>jeql (evg Z hg) Z) (js (jor Z Z) (jm Z (jg Z Z (.f _) (fun hg=>jf F69_0 Z) (jg Z Z (.f _) (fun hg=>jl k0 O3 (evg Z hg) Z) (jg Z Z (.f _) (fun hg=>jeql (evg Z hg) Z) ?_)))))))))))
 refine js (jor Z Z) (jm Z (jg Z Z (.f _) (fun hg=>jf F69_0 Z) (jg Z Z (.f _) (fun hg=>jl k0 O3 (evg Z hg) Z) (jg Z Z (.f _) (fun hg=>jeql (evg Z hg) Z) (js (jor Z Z) (ja Z (jn (jx ?_))))))))
 refine jif Z (fun hc2=>?_) (fun hc2=>?_)
 refine jq (jr (js (jf F69_3 Z) (js (jl k0 O3 Z Z) (js (jf F69_4 Z) (js (jl k0 O3 Z Z) (jlit (r:=(rI .i64)) (l:=[i.A,i.B]) U22 I3 (by decide) Z Z Z (lV Z Z (wI (rMach.W_A d0)) (lV Z Z (wI (rMach.W_B d0)) ln)) fun g63=>ja Z (jn (jx (jrt (jbr ?_))))))))))
 refine jtr (qfz k0 (by(try simp)<;>omega) ?_)
 exact jrD Z Z (by first|(simp[takesM,hc1,hc2];done)|(unfold takesM;(repeat' split)<;>first|rfl|(exfalso;omega)|(simp[takesM,hc1,hc2];done))) d0
 refine jq (jr (js (jf F69_0 Z) (js (jl k0 O3 Z Z) (js (jeql Z Z) (jm Z (jg Z Z (.f _) (fun hg=>jf F69_0 Z) (jg Z Z (.f _) (fun hg=>jl k0 O3 (evg Z hg) Z) (jg Z Z (.f _) (fun hg=>jeql (evg Z hg) Z) (js (jor Z Z) (ja Z (jn ?_)))))))))))
 refine jx ?_
 refine jif Z (fun hc3=>?_) (fun hc3=>?_)
 refine jq (jr (js (jf F69_3 Z) (js (jl k0 O3 Z Z) (js (jf F69_4 Z) (js (jl k0 O3 Z Z) (js (jf F69_5 Z) (js (jl k0 O3 Z Z) (jlit (r:=(rI .i64)) (l:=[i.A,i.B,i.C]) U22 I3 (by decide) Z Z Z (lV Z Z (wI (rMach.W_A d0)) (lV Z Z (wI (rMach.W_B d0)) (lV Z Z (wI (rMach.W_C d0)) ln))) fun g79=>ja Z (jn (jx ?_))))))))))
 refine jrt (jbr (jtr (qfz k0 (by(try simp)<;>omega) ?_)))
 exact jrD Z Z (by first|(simp[takesM,hc1,hc2,hc3];done)|(unfold takesM;(repeat' split)<;>first|rfl|(exfalso;omega)|(simp[takesM,hc1,hc2,hc3];done))) d0
 refine jq (jr (js (jf F69_0 Z) (js (jl k0 O3 Z Z) (js (jeql Z Z) (ja Z (jn (jx ?_)))))))
 refine jif Z (fun hc4=>?_) (fun hc4=>?_)
 refine jq (jr (jlit (r:=(rI .i64)) (l:=[]) U22 I3 (by decide) Z Z Z ln fun g84=>js (jf F69_7 Z) (js (jl k1 O22 Z Z) (jdq (rMach.c_Args d0) fun q4 w4=>japlz U22 I3 (by decide) Z k0 Z Z (rMach.c_Args d0) (by omega) fun v87 w5=>ja Z (jn (jx (jrt (jbr ?_))))))))
 refine jtr (qfz k0 (by omega) ?_)
 exact jrD Z Z (by first|(simp[takesM,hc1,hc2,hc3,hc4];done)|(unfold takesM;(repeat' split)<;>first|rfl|(exfalso;omega)|(simp[takesM,hc1,hc2,hc3,hc4];done))) d0
 refine jsk (jbn (jx (jq (jr (ja Z (jn (jx (jrt ?_))))))))
 exact jrD Z Z (by first|(simp[takesM,hc1,hc2,hc3,hc4];done)|(unfold takesM;(repeat' split)<;>first|rfl|(exfalso;omega)|(simp[takesM,hc1,hc2,hc3,hc4];done))) wN
theorem rMakes_ct{a0:Value}{i:D.Mach}:Td Tryz.prog 45 #[vMach i a0] [da rMach (vMach i a0) i] [] (rL (rI .i64)) (makesM i):=by
 refine jenter (args:=[vMach i a0]) Tryz.func45 rfl rfl rfl fun w0 X=>?_
 refine jq (jr (jbox Z Z fun g1=>ja Z (jn (jx (jq (jb (jq (jr (js (jf F69_0 Z) (js (jl k0 O3 Z Z) ?_))))))))))
 refine js (jeql Z Z) (ja Z (jn (jx ?_)))
 refine jif Z (fun hc1=>?_) (fun hc1=>?_)
 refine jq (jr (js (jf F69_3 Z) (js (jl k0 O3 Z Z) (js (jf F69_4 Z) (js (jl k0 O3 Z Z) (jlit (r:=(rI .i64)) (l:=[i.A,i.B]) U22 I3 (by decide) Z Z Z (lV Z Z (wI (rMach.W_A d0)) (lV Z Z (wI (rMach.W_B d0)) ln)) fun g11=>ja Z (jn (jx (jrt (jbr ?_))))))))))
 refine jtr (qfz k0 (by(try simp)<;>omega) ?_)
 exact jrD Z Z (by first|(simp[makesM,hc1];done)|(unfold makesM;(repeat' split)<;>first|rfl|(exfalso;omega)|(simp[makesM,hc1];done))) d0
 refine jq (jr (js (jf F69_0 Z) (js (jl k0 O3 Z Z) (js (jeql Z Z) (ja Z (jn (jx ?_)))))))
 refine jif Z (fun hc2=>?_) (fun hc2=>?_)
 refine jq (jr (js (jf F69_1 Z) (js (jl k0 O3 Z Z) (js (jf F69_2 Z) (js (jl k0 O3 Z Z) (jlit (r:=(rI .i64)) (l:=[i.D,i.E]) U22 I3 (by decide) Z Z Z (lV Z Z (wI (rMach.W_D d0)) (lV Z Z (wI (rMach.W_E d0)) ln)) fun g20=>ja Z (jn (jx (jrt (jbr ?_))))))))))
 refine jtr (qfz k0 (by(try simp)<;>omega) ?_)
 exact jrD Z Z (by first|(simp[makesM,hc1,hc2];done)|(unfold makesM;(repeat' split)<;>first|rfl|(exfalso;omega)|(simp[makesM,hc1,hc2];done))) d0
 refine jq (jr (js (jf F69_0 Z) (js (jl k0 O3 Z Z) (js (jeql Z Z) (jm Z (jg Z Z (.f _) (fun hg=>jf F69_0 Z) (jg Z Z (.f _) (fun hg=>jl k0 O3 (evg Z hg) Z) (jg Z Z (.f _) (fun hg=>jeql (evg Z hg) Z) (js (jor Z Z) (jm Z (jg Z Z (.f _) (fun hg=>jf F69_0 Z) ?_)))))))))))
 refine jg Z Z (.f _) (fun hg=>jl k0 O3 (evg Z hg) Z) (jg Z Z (.f _) (fun hg=>jeql (evg Z hg) Z) (js (jor Z Z) (jm Z (jg Z Z (.f _) (fun hg=>jf F69_0 Z) (jg Z Z (.f _) (fun hg=>jl k0 O3 (evg Z hg) Z) (jg Z Z (.f _) (fun hg=>jlss (evg Z hg) Z) (js (jor Z Z) (jm Z (jg Z Z (.f _) (fun hg=>jf F69_0 Z) (jg Z Z (.f _) (fun hg=>jl k0 O3 (evg Z hg) Z) (jg Z Z (.f _) (fun hg=>jgtr (evg Z hg) Z) ?_)))))))))))
 refine js (jor Z Z) (ja Z (jn (jx ?_)))
 refine jif Z (fun hc3=>?_) (fun hc3=>?_)
 refine jq (jr (ja Z (jn (jx (jrt (jbr (jtr ?_)))))))
 exact jrD Z Z (by first|(simp[makesM,hc1,hc2,hc3];done)|(unfold makesM;(repeat' split)<;>first|rfl|(exfalso;omega)|(simp[makesM,hc1,hc2,hc3];done))) wN
 refine jsk (jbn (jx (jq (jr (js (jf F69_1 Z) (js (jl k0 O3 Z Z) (jlit (r:=(rI .i64)) (l:=[i.D]) U22 I3 (by decide) Z Z Z (lV Z Z (wI (rMach.W_D d0)) ln) fun g47=>ja Z (jn (jx (jrt ?_))))))))))
 refine qfz k0 (by(try simp)<;>omega) ?_
 exact jrD Z Z (by first|(simp[makesM,hc1,hc2,hc3];done)|(unfold makesM;(repeat' split)<;>first|rfl|(exfalso;omega)|(simp[makesM,hc1,hc2,hc3];done))) d0
theorem pNeeds_ct{a0:Value}{e:D.End}:Td Tryz.prog 29 #[vEnd e a0] [da rEnd (vEnd e a0) e] [] (rL (rI .i64)) (nM9 e):=by
 refine jenter (args:=[vEnd e a0]) Tryz.func29 rfl rfl rfl fun w0 X=>?_
 refine jq (jr (jbox Z Z fun g1=>ja Z (jn (jx (jq (jb (jq (jr (js (jf F35_0 Z) (js (jl k0 O3 Z Z) ?_))))))))))
 refine js (jeql Z Z) (jm Z (jg Z Z (.f _) (fun hg=>jf F35_0 Z) (jg Z Z (.f _) (fun hg=>jl k0 O3 (evg Z hg) Z) (jg Z Z (.f _) (fun hg=>jeql (evg Z hg) Z) (js (jor Z Z) (jm Z (jg Z Z (.f _) (fun hg=>jf F35_0 Z) (jg Z Z (.f _) (fun hg=>jl k0 O3 (evg Z hg) Z) (jg Z Z (.f _) (fun hg=>jeql (evg Z hg) Z) (jg Z Z (.f _) (fun hg=>jmv (evg Z hg)) (jg Z Z (.gt _ _) (fun hg=>jf F35_1 Z) ?_)))))))))))
 refine jg Z Z (.gt _ _) (fun hg=>jl k0 O3 (evg Z hg) Z) (jg Z Z (.gt _ _) (fun hg=>jgeq (evg Z hg) Z) (jg Z Z (.f _) (fun hg=>jand2 hg Z Z) (js (jor Z Z) (ja Z (jn (jx ?_))))))
 refine jif Z (fun hc1=>?_) (fun hc1=>?_)
 refine jq (jr (js (jf F35_1 Z) (js (jl k0 O3 Z Z) (jlit (r:=(rI .i64)) (l:=[e.A]) U22 I3 (by decide) Z Z Z (lV Z Z (wI (rEnd.W_A d0)) ln) fun g24=>ja Z (jn (jx (jrt (jbr (jtr (qfz k0 (by(try simp)<;>omega) ?_))))))))))
 exact jrD Z Z (by first|(simp[nM9,hc1];done)|(unfold nM9;(repeat' split)<;>first|rfl|(exfalso;omega)|(simp[nM9,hc1];done))) d0
 refine jq (jr (js (jf F35_0 Z) (js (jl k0 O3 Z Z) (js (jgeq Z Z) (jm Z (jg Z Z (.t _) (fun hg=>jf F35_0 Z) (jg Z Z (.t _) (fun hg=>jl k0 O3 (evg Z hg) Z) (jg Z Z (.t _) (fun hg=>jleq (evg Z hg) Z) (js (jand Z Z) (ja Z (jn ?_)))))))))))
 refine jx ?_
 refine jif Z (fun hc2=>?_) (fun hc2=>?_)
 refine jq (jr (js (jf F35_1 Z) (js (jl k0 O3 Z Z) (js (jf F35_2 Z) (js (jl k0 O3 Z Z) (jlit (r:=(rI .i64)) (l:=[e.A,e.B]) U22 I3 (by decide) Z Z Z (lV Z Z (wI (rEnd.W_A d0)) (lV Z Z (wI (rEnd.W_B d0)) ln)) fun g38=>ja Z (jn (jx (jrt (jbr ?_))))))))))
 refine jtr (qfz k0 (by(try simp)<;>omega) ?_)
 exact jrD Z Z (by first|(simp[nM9,hc1,hc2];done)|(unfold nM9;(repeat' split)<;>first|rfl|(exfalso;omega)|(simp[nM9,hc1,hc2];done))) d0
 refine jsk (jbn (jx (jq (jr (ja Z (jn (jx (jrt ?_))))))))
 exact jrD Z Z (by first|(simp[nM9,hc1,hc2];done)|(unfold nM9;(repeat' split)<;>first|rfl|(exfalso;omega)|(simp[nM9,hc1,hc2];done))) wN
theorem clone_ct{a0:Value}{l:List Int}:Tg Tryz.prog 80 #[a0] [dv (rL (rI .i64)) a0 l] [] (rI .i64) 3 l:=by
 refine jenter (args:=[a0]) Tryz.func80 rfl rfl rfl fun w0 X=>?_
 refine jq (jr (ja Z (jn (jx (jq (jq (jr (jm Z (jeb (jeqlNil U22 d0 Z Z) fun b4 hnil4=>jn (jx ?_))))))))))
 refine jif Z (fun hc1=>?_) (fun hc1=>?_)
 refine jq (jr (ja Z (jn (jx (jrt (jtr (qnl (r:=(rI .i64)) (E:=3) ?_)))))))
 exact jrG Z Z (by first|rfl|exact hnil4 hc1) k0
 refine jsk (jx (jq (jr (jlit (r:=(rI .i64)) (l:=[]) U22 I3 (by decide) Z Z Z ln fun g5=>jm Z (jdq d0 fun q2 w2=>japlz U22 I3 (by decide) Z k0 Z Z d0 (by omega) fun v7 w3=>ja Z (jn (jx (jrt ?_))))))))
 exact jrG Z Z (by first|rfl|exact hnil4 hc1) k0
def km1(_:D.Mach):List Int:=[]
def km2(i:D.Mach):List Int:=[i.D]
def km3(i:D.Mach):List Int:=[i.A]
def km4(i:D.Mach):List Int:=[i.A,i.B]
def km5(i:D.Mach):List Int:=[i.A,i.B,i.C]
def km6(i:D.Mach):List Int:=i.Args
def km7(i:D.Mach):List Int:=[i.D,i.E]
theorem kind1_ct{a0:Value}{i:D.Mach}:Td Tryz.prog 74 #[vMach i a0] [da rMach (vMach i a0) i] [] (rL (rI .i64)) (km1 i):=by
 refine jenter (args:=[vMach i a0]) Tryz.func74 rfl rfl rfl fun w0 X=>?_
 refine jq (jr (jbox Z Z fun g1=>ja Z (jn (jx (jq (jr (ja Z (jn (jx (jrt ?_))))))))))
 exact jrD Z Z (by rfl) wN
theorem kind2_ct{a0:Value}{i:D.Mach}:Td Tryz.prog 75 #[vMach i a0] [da rMach (vMach i a0) i] [] (rL (rI .i64)) (km2 i):=by
 refine jenter (args:=[vMach i a0]) Tryz.func75 rfl rfl rfl fun w0 X=>?_
 refine jq (jr (jbox Z Z fun g1=>ja Z (jn (jx (jq (jr (js (jf F69_1 Z) (js (jl k0 O3 Z Z) (jlit (r:=(rI .i64)) (l:=[i.D]) U22 I3 (by decide) Z Z Z (lV Z Z (wI (rMach.W_D d0)) ln) fun g5=>ja Z ?_)))))))))
 refine jn (jx (jrt (qfz k0 (by(try simp)<;>omega) ?_)))
 exact jrD Z Z (by rfl) d0
theorem kind3_ct{a0:Value}{i:D.Mach}:Td Tryz.prog 76 #[vMach i a0] [da rMach (vMach i a0) i] [] (rL (rI .i64)) (km3 i):=by
 refine jenter (args:=[vMach i a0]) Tryz.func76 rfl rfl rfl fun w0 X=>?_
 refine jq (jr (jbox Z Z fun g1=>ja Z (jn (jx (jq (jr (js (jf F69_3 Z) (js (jl k0 O3 Z Z) (jlit (r:=(rI .i64)) (l:=[i.A]) U22 I3 (by decide) Z Z Z (lV Z Z (wI (rMach.W_A d0)) ln) fun g5=>ja Z ?_)))))))))
 refine jn (jx (jrt (qfz k0 (by(try simp)<;>omega) ?_)))
 exact jrD Z Z (by rfl) d0
theorem kind4_ct{a0:Value}{i:D.Mach}:Td Tryz.prog 77 #[vMach i a0] [da rMach (vMach i a0) i] [] (rL (rI .i64)) (km4 i):=by
 refine jenter (args:=[vMach i a0]) Tryz.func77 rfl rfl rfl fun w0 X=>?_
 refine jq (jr (jbox Z Z fun g1=>ja Z (jn (jx (jq (jr (js (jf F69_3 Z) (js (jl k0 O3 Z Z) (js (jf F69_4 Z) (js (jl k0 O3 Z Z) ?_))))))))))
 refine jlit (r:=(rI .i64)) (l:=[i.A,i.B]) U22 I3 (by decide) Z Z Z (lV Z Z (wI (rMach.W_A d0)) (lV Z Z (wI (rMach.W_B d0)) ln)) fun g7=>ja Z (jn (jx (jrt (qfz k0 (by(try simp)<;>omega) ?_))))
 exact jrD Z Z (by rfl) d0
theorem kind5_ct{a0:Value}{i:D.Mach}:Td Tryz.prog 78 #[vMach i a0] [da rMach (vMach i a0) i] [] (rL (rI .i64)) (km5 i):=by
 refine jenter (args:=[vMach i a0]) Tryz.func78 rfl rfl rfl fun w0 X=>?_
 refine jq (jr (jbox Z Z fun g1=>ja Z (jn (jx (jq (jr (js (jf F69_3 Z) (js (jl k0 O3 Z Z) (js (jf F69_4 Z) (js (jl k0 O3 Z Z) ?_))))))))))
 refine js (jf F69_5 Z) (js (jl k0 O3 Z Z) (jlit (r:=(rI .i64)) (l:=[i.A,i.B,i.C]) U22 I3 (by decide) Z Z Z (lV Z Z (wI (rMach.W_A d0)) (lV Z Z (wI (rMach.W_B d0)) (lV Z Z (wI (rMach.W_C d0)) ln))) fun g9=>ja Z (jn (jx (jrt (qfz k0 (by(try simp)<;>omega) ?_))))))
 exact jrD Z Z (by rfl) d0
theorem kind6_ct{a0:Value}{i:D.Mach}:Td Tryz.prog 79 #[vMach i a0] [da rMach (vMach i a0) i] [] (rL (rI .i64)) (km6 i):=by
 refine jenter (args:=[vMach i a0]) Tryz.func79 rfl rfl rfl fun w0 X=>?_
 refine jq (jr (jbox Z Z fun g1=>ja Z (jn (jx (jq (jr (js (jf F69_7 Z) (js (jl k0 O22 Z Z) (jdq (rMach.c_Args d0) fun q1 w1=>jcg E80 Z Z clone_ct (dc (rMach.c_Args d0) dn) kn fun v5 w2=>?_)))))))))
 refine ja Z (jn (jx (jrt (qfz k0 (by omega) ?_))))
 exact jrD Z Z (by rfl) d0
theorem kind7_ct{a0:Value}{i:D.Mach}:Td Tryz.prog 81 #[vMach i a0] [da rMach (vMach i a0) i] [] (rL (rI .i64)) (km7 i):=by
 refine jenter (args:=[vMach i a0]) Tryz.func81 rfl rfl rfl fun w0 X=>?_
 refine jq (jr (jbox Z Z fun g1=>ja Z (jn (jx (jq (jr (js (jf F69_1 Z) (js (jl k0 O3 Z Z) (js (jf F69_2 Z) (js (jl k0 O3 Z Z) ?_))))))))))
 refine jlit (r:=(rI .i64)) (l:=[i.D,i.E]) U22 I3 (by decide) Z Z Z (lV Z Z (wI (rMach.W_D d0)) (lV Z Z (wI (rMach.W_E d0)) ln)) fun g7=>ja Z (jn (jx (jrt (qfz k0 (by(try simp)<;>omega) ?_))))
 exact jrD Z Z (by rfl) d0
def kfun(k:Nat):Value := .func (.func k) #[] #[]
def kTab(op:Int):Prop:=(1≤op∧op≤4)∨(23≤op∧op≤31)
def takesF(op:Int):Nat:=if op=1∨op=24∨op=31∨(18≤op∧op≤22) then 76 else if op=2∨op=25∨op=26∨op=29∨(5≤op∧op≤17) then 77 else if op=23∨op=27 then 78 else if op=28 then 79 else 74
def makesF(op:Int):Nat:=if op=2 then 77 else if op=29 then 81 else if op=26∨op=27∨op=31∨op<1∨31<op then 74 else 75
def kindV(op:Int):Value := .agg #[kfun (takesF op),kfun (makesF op)]
theorem ktab(op:Int):((.tuple #[(lkM [(1,.agg #[.func (.func 76) #[] #[],.func (.func 75) #[] #[]]),(2,.agg #[.func (.func 77) #[] #[],.func (.func 77) #[] #[]]),(3,.agg #[.func (.func 74) #[] #[],.func (.func 75) #[] #[]]),(4,.agg #[.func (.func 74) #[] #[],.func (.func 75) #[] #[]]),(23,.agg #[.func (.func 78) #[] #[],.func (.func 75) #[] #[]]),(24,.agg #[.func (.func 76) #[] #[],.func (.func 75) #[] #[]]),(25,.agg #[.func (.func 77) #[] #[],.func (.func 75) #[] #[]]),(26,.agg #[.func (.func 77) #[] #[],.func (.func 74) #[] #[]]),(27,.agg #[.func (.func 78) #[] #[],.func (.func 74) #[] #[]]),(28,.agg #[.func (.func 79) #[] #[],.func (.func 75) #[] #[]]),(29,.agg #[.func (.func 77) #[] #[],.func (.func 81) #[] #[]]),(30,.agg #[.func (.func 74) #[] #[],.func (.func 75) #[] #[]]),(31,.agg #[.func (.func 76) #[] #[],.func (.func 74) #[] #[]])] op).getD (.agg #[.nilFunc,.nilFunc]),.bool (lkM [(1,.agg #[.func (.func 76) #[] #[],.func (.func 75) #[] #[]]),(2,.agg #[.func (.func 77) #[] #[],.func (.func 77) #[] #[]]),(3,.agg #[.func (.func 74) #[] #[],.func (.func 75) #[] #[]]),(4,.agg #[.func (.func 74) #[] #[],.func (.func 75) #[] #[]]),(23,.agg #[.func (.func 78) #[] #[],.func (.func 75) #[] #[]]),(24,.agg #[.func (.func 76) #[] #[],.func (.func 75) #[] #[]]),(25,.agg #[.func (.func 77) #[] #[],.func (.func 75) #[] #[]]),(26,.agg #[.func (.func 77) #[] #[],.func (.func 74) #[] #[]]),(27,.agg #[.func (.func 78) #[] #[],.func (.func 74) #[] #[]]),(28,.agg #[.func (.func 79) #[] #[],.func (.func 75) #[] #[]]),(29,.agg #[.func (.func 77) #[] #[],.func (.func 81) #[] #[]]),(30,.agg #[.func (.func 74) #[] #[],.func (.func 75) #[] #[]]),(31,.agg #[.func (.func 76) #[] #[],.func (.func 74) #[] #[]])] op).isSome]:Value) = .tuple #[.agg #[kfun (takesF op),kfun (makesF op)],.bool true]∧kTab op)∨((.tuple #[(lkM [(1,.agg #[.func (.func 76) #[] #[],.func (.func 75) #[] #[]]),(2,.agg #[.func (.func 77) #[] #[],.func (.func 77) #[] #[]]),(3,.agg #[.func (.func 74) #[] #[],.func (.func 75) #[] #[]]),(4,.agg #[.func (.func 74) #[] #[],.func (.func 75) #[] #[]]),(23,.agg #[.func (.func 78) #[] #[],.func (.func 75) #[] #[]]),(24,.agg #[.func (.func 76) #[] #[],.func (.func 75) #[] #[]]),(25,.agg #[.func (.func 77) #[] #[],.func (.func 75) #[] #[]]),(26,.agg #[.func (.func 77) #[] #[],.func (.func 74) #[] #[]]),(27,.agg #[.func (.func 78) #[] #[],.func (.func 74) #[] #[]]),(28,.agg #[.func (.func 79) #[] #[],.func (.func 75) #[] #[]]),(29,.agg #[.func (.func 77) #[] #[],.func (.func 81) #[] #[]]),(30,.agg #[.func (.func 74) #[] #[],.func (.func 75) #[] #[]]),(31,.agg #[.func (.func 76) #[] #[],.func (.func 74) #[] #[]])] op).getD (.agg #[.nilFunc,.nilFunc]),.bool (lkM [(1,.agg #[.func (.func 76) #[] #[],.func (.func 75) #[] #[]]),(2,.agg #[.func (.func 77) #[] #[],.func (.func 77) #[] #[]]),(3,.agg #[.func (.func 74) #[] #[],.func (.func 75) #[] #[]]),(4,.agg #[.func (.func 74) #[] #[],.func (.func 75) #[] #[]]),(23,.agg #[.func (.func 78) #[] #[],.func (.func 75) #[] #[]]),(24,.agg #[.func (.func 76) #[] #[],.func (.func 75) #[] #[]]),(25,.agg #[.func (.func 77) #[] #[],.func (.func 75) #[] #[]]),(26,.agg #[.func (.func 77) #[] #[],.func (.func 74) #[] #[]]),(27,.agg #[.func (.func 78) #[] #[],.func (.func 74) #[] #[]]),(28,.agg #[.func (.func 79) #[] #[],.func (.func 75) #[] #[]]),(29,.agg #[.func (.func 77) #[] #[],.func (.func 81) #[] #[]]),(30,.agg #[.func (.func 74) #[] #[],.func (.func 75) #[] #[]]),(31,.agg #[.func (.func 76) #[] #[],.func (.func 74) #[] #[]])] op).isSome]:Value) = .tuple #[.agg #[.nilFunc,.nilFunc],.bool false]∧¬kTab op):=by
 by_cases ho:kTab op
 ·refine .inl ⟨?_,ho⟩
  have hc:op=1∨op=2∨op=3∨op=4∨op=23∨op=24∨op=25∨op=26∨op=27∨op=28∨op=29∨op=30∨op=31:=by unfold kTab at ho;omega
  rcases hc with rfl|rfl|rfl|rfl|rfl|rfl|rfl|rfl|rfl|rfl|rfl|rfl|rfl<;>rfl
 ·refine .inr ⟨?_,ho⟩
  have h1:∀k:Int,((1≤k∧k≤4)∨(23≤k∧k≤31))→(k==op)=false:=fun k h2=>by rw[beq_eq_false_iff_ne];unfold kTab at ho;omega
  simp[lkM,List.find?,h1]
theorem kindV5{op:Int}(h:5≤op∧op≤17):Value.agg #[.func (.func 77) #[] #[],.func (.func 75) #[] #[]]=kindV op:=by
 simp only[kindV,takesF,makesF]
 rw[if_neg (by omega),if_pos (by omega),if_neg (by omega),if_neg (by omega),if_neg (by omega)];rfl
theorem kindV18{op:Int}(h:18≤op∧op≤22):Value.agg #[.func (.func 76) #[] #[],.func (.func 75) #[] #[]]=kindV op:=by
 simp only[kindV,takesF,makesF]
 rw[if_pos (by omega),if_neg (by omega),if_neg (by omega),if_neg (by omega)];rfl
theorem kindV0{op:Int}(h:op<1∨31<op):Value.agg #[.func (.func 74) #[] #[],.func (.func 74) #[] #[]]=kindV op:=by
 simp only[kindV,takesF,makesF]
 rw[if_neg (by omega),if_neg (by omega),if_neg (by omega),if_neg (by omega),if_neg (by omega),if_neg (by omega),if_pos (by omega)];rfl
theorem kindV_ct(op:Int):Tv Tryz.prog 52 #[.int .i64 op] [] [] (kindV op):=by
 refine jenter (args:=[.int .i64 op]) Tryz.func52 rfl rfl rfl fun w0 X=>?_
 refine jq (jr (jalc J99 Z fun g2=>jn (jx (jq (jr (ja Z (jn (jx (jq (jr ?_))))))))))
 refine ja Z (jn (jx (jq (jr (ja Z (jn (jx (jq (jr (ja Z (jn ?_)))))))))))
 refine jx (jq (jr (ja Z (jn (jx (jq (jr (ja Z (jn (jx (jq ?_)))))))))))
 refine jr (ja Z (jn (jx (jq (jr (jmm fun g13=>jm Z (jm Z (js (jbu (v := .agg #[.func (.func 76) #[] #[],.func (.func 75) #[] #[]]) Z (fun _=>by kernel_rfl)) (jin U137 U3 k0 Z Z Z Z (jm Z ?_))))))))))
 refine jm Z (js (jbu (v := .agg #[.func (.func 77) #[] #[],.func (.func 77) #[] #[]]) Z (fun _=>by kernel_rfl)) (jin U137 U3 k0 Z Z Z Z (jm Z (jm Z (js (jbu (v := .agg #[.func (.func 74) #[] #[],.func (.func 75) #[] #[]]) Z (fun _=>by kernel_rfl)) (jin U137 U3 k0 Z Z Z Z (jm Z (jm Z (js (jbu (v := .agg #[.func (.func 74) #[] #[],.func (.func 75) #[] #[]]) Z (fun _=>by kernel_rfl)) (jin U137 U3 k0 Z Z Z Z (jm Z ?_)))))))))))
 refine jm Z (js (jbu (v := .agg #[.func (.func 78) #[] #[],.func (.func 75) #[] #[]]) Z (fun _=>by kernel_rfl)) (jin U137 U3 k0 Z Z Z Z (jm Z (jm Z (js (jbu (v := .agg #[.func (.func 76) #[] #[],.func (.func 75) #[] #[]]) Z (fun _=>by kernel_rfl)) (jin U137 U3 k0 Z Z Z Z (jm Z (jm Z (js (jbu (v := .agg #[.func (.func 77) #[] #[],.func (.func 75) #[] #[]]) Z (fun _=>by kernel_rfl)) (jin U137 U3 k0 Z Z Z Z (jm Z ?_)))))))))))
 refine jm Z (js (jbu (v := .agg #[.func (.func 77) #[] #[],.func (.func 74) #[] #[]]) Z (fun _=>by kernel_rfl)) (jin U137 U3 k0 Z Z Z Z (jm Z (jm Z (js (jbu (v := .agg #[.func (.func 78) #[] #[],.func (.func 74) #[] #[]]) Z (fun _=>by kernel_rfl)) (jin U137 U3 k0 Z Z Z Z (jm Z (jm Z (js (jbu (v := .agg #[.func (.func 79) #[] #[],.func (.func 75) #[] #[]]) Z (fun _=>by kernel_rfl)) (jin U137 U3 k0 Z Z Z Z (jm Z ?_)))))))))))
 refine jm Z (js (jbu (v := .agg #[.func (.func 77) #[] #[],.func (.func 81) #[] #[]]) Z (fun _=>by kernel_rfl)) (jin U137 U3 k0 Z Z Z Z (jm Z (jm Z (js (jbu (v := .agg #[.func (.func 74) #[] #[],.func (.func 75) #[] #[]]) Z (fun _=>by kernel_rfl)) (jin U137 U3 k0 Z Z Z Z (jm Z (jm Z (js (jbu (v := .agg #[.func (.func 76) #[] #[],.func (.func 74) #[] #[]]) Z (fun _=>by kernel_rfl)) (jin U137 U3 k0 Z Z Z Z (jm Z ?_)))))))))))
 refine jm Z ?_
 refine jfk (p:=fun v=>(v = .tuple #[.agg #[kfun (takesF op),kfun (makesF op)],.bool true]∧kTab op)∨(v = .tuple #[.agg #[.nilFunc,.nilFunc],.bool false]∧¬kTab op)) ⟨_,jlko U137 U3 J99 k0 Z Z,ktab op⟩ ?_
 rintro v55 (⟨rfl,hop⟩|⟨rfl,hop⟩)
 refine jm Z (js (jex' Z Z) (js (jex' Z Z) (jalc J99 Z fun g10=>jsta k0 Z99 Z Z Z ⟨Z,Z,trivial⟩ (saf Z) (ja Z (jn (jx (jq (jb (jq (jr ?_))))))))))
 refine jm Z (ja Z (jn (jx ?_)))
 refine jif Z (fun hc1=>?_) (fun hc1=>?_)
 refine jq (jr (js (jla k0 A99 Z99 Z Z Z) (jsta k2 Z99 Z Z Z ⟨Z,Z,trivial⟩ (saf Z) (jn (jx (jrt (jbr (jtr ?_))))))))
 exact jrc Z Z k0 A99 Z99 () (by first|rfl|exact kindV5 ‹_›|exact kindV18 ‹_›|exact kindV0 (by unfold kTab at hop;omega)) dn (fun _ _=>kn)
 exact absurd hc1 (by simp)
 refine jm Z (js (jex' Z Z) (js (jex' Z Z) (jalc J99 Z fun g10_1=>jsta k0 Z99 Z Z Z ⟨Z,Z,trivial⟩ (saf Z) (ja Z (jn (jx (jq (jb (jq (jr ?_))))))))))
 refine jm Z (ja Z (jn (jx ?_)))
 refine jif Z (fun hc2=>?_) (fun hc2=>?_)
 exact absurd hc2 (by simp)
 refine jq (jr (jm Z (js (jgeq Z Z) (jm Z (jg Z Z (.t _) (fun hg=>jmv Z) (jg Z Z (.t _) (fun hg=>jleq (evg Z hg) Z) (js (jand Z Z) (ja Z (jn (jx ?_))))))))))
 refine jif Z (fun hc3=>?_) (fun hc3=>?_)
 refine jq (jr (jm Z (jm Z (js (jbu (v := .agg #[.func (.func 77) #[] #[],.func (.func 75) #[] #[]]) Z (fun _=>by kernel_rfl)) (jsta k2 Z99 Z Z Z ⟨Z,Z,trivial⟩ (saf Z) (jn (jx (jrt (jbr (jtr ?_))))))))))
 exact jrc Z Z k0 A99 Z99 () (by first|rfl|exact kindV5 ‹_›|exact kindV18 ‹_›|exact kindV0 (by unfold kTab at hop;omega)) dn (fun _ _=>kn)
 refine jq (jr (jm Z (js (jgeq Z Z) (jm Z (jg Z Z (.t _) (fun hg=>jmv Z) (jg Z Z (.t _) (fun hg=>jleq (evg Z hg) Z) (js (jand Z Z) (ja Z (jn (jx ?_))))))))))
 refine jif Z (fun hc4=>?_) (fun hc4=>?_)
 refine jq (jr (jm Z (jm Z (js (jbu (v := .agg #[.func (.func 76) #[] #[],.func (.func 75) #[] #[]]) Z (fun _=>by kernel_rfl)) (jsta k2 Z99 Z Z Z ⟨Z,Z,trivial⟩ (saf Z) (jn (jx (jrt (jbr (jtr ?_))))))))))
 exact jrc Z Z k0 A99 Z99 () (by first|rfl|exact kindV5 ‹_›|exact kindV18 ‹_›|exact kindV0 (by unfold kTab at hop;omega)) dn (fun _ _=>kn)
 refine jsk (jbn (jx (jq (jr (jm Z (jm Z (js (jbu (v := .agg #[.func (.func 74) #[] #[],.func (.func 74) #[] #[]]) Z (fun _=>by kernel_rfl)) (jsta k2 Z99 Z Z Z ⟨Z,Z,trivial⟩ (saf Z) (jn (jx (jrt ?_)))))))))))
 exact jrc Z Z k0 A99 Z99 () (by first|rfl|exact kindV5 ‹_›|exact kindV18 ‹_›|exact kindV0 (by unfold kTab at hop;omega)) dn (fun _ _=>kn)
end Go.Proofs.YtehhjlkmbdhckaaGreat
namespace Go.JE
variable{P:Program}{D D0 Ds:List Dt}{L M Ls L0:List Res}{e:Env}{X:Cx}{n:Fs}{w0:World}{Q:Exit→Act→World→Prop}
def bxv(g:Nat)(T:TypeId)(i:Nat)(v:Value):Res where
 sat F H:=∃cs,(bx g T cs).sat F H∧cs[i]? = some v
 own k:=k=g
 lt:=fun⟨_,h,_⟩ e=>Res.lt _ h e
 no:=fun⟨_,h,_⟩ e=>Res.no _ h e
 st:=fun hl hs h1 h2 ⟨cs,h,e⟩=>⟨cs,Res.st _ hl hs h1 h2 h,e⟩
theorem kcv{g i:Nat}{T:TypeId}{cs:List Value}{v:Value}{N:List Res}(h:Tk L (bx g T cs) M)(e:cs[i]? = some v)(h':Tks M Ls N):Tks L (bxv g T i v::Ls) N where
 ok:=fun o=>by
  obtain⟨⟨a,b,c⟩,x,y⟩:=(kc h h').ok o
  exact⟨⟨⟨cs,a,e⟩,b,c⟩,x,y⟩
 own:=fun o=>(kc h h').own o
theorem jlv{g i:Nat}{T T':TypeId}{v:Value}{x:Operand}(hk:Tk L (bxv g T i v) M)(hT:One P T')(hx:ev e x=some (.pointer (some ⟨g,i,none⟩))):OH P D L e (.load T' x) v:=fun F H _ _ h=>by
 obtain⟨cs,h1,h2⟩:=(hk.ok h).1
 exact OpOk.ldBx h1.1 hT hx h2
def SS(X:Cx)(FS:PH)(Ls:List Res)(H:Heap):Prop:=∃F,FS.le F∧Hp X [] Ls F H
inductive Od where
 | e
 | a (i:Nat) (o:Od)
 | o (i:Nat) (o:Od)
 | w (i j:Nat) (p q:Od)
 | w3 (i j k:Nat) (p q r:Od)
def Od.sz:Od→Nat
 | .e=>0
 | .a _ q=>q.sz+1
 | .o _ q=>q.sz+1
 | .w _ _ p _=>p.sz+1
 | .w3 _ _ _ p _ _=>p.sz+1
def okO(ops:Array Oper)(z:Bool):Array Bool→Od→Bool
 | listed,.e=>decide (Region.ready .any ops listed=[])&&(!z||listed.all (fun b=>b))
 | listed,.a i q=>(Region.free .any ops listed i&&((Region.ready .any ops listed).contains i&&(!z||waits ops listed i)))&&okO ops z (listed.setIfInBounds i true) q
 | listed,.o i q=>decide (Region.ready .any ops listed=[i])&&okO ops z (listed.setIfInBounds i true) q
 | listed,.w i j p q=>decide (Region.ready .any ops listed=[i,j])&&(okO ops z (listed.setIfInBounds i true) p&&(okO ops z (listed.setIfInBounds j true) q&&p.sz==q.sz))
 | listed,.w3 i j k p q r=>decide (Region.ready .any ops listed=[i,j,k])&&(okO ops z (listed.setIfInBounds i true) p&&(okO ops z (listed.setIfInBounds j true) q&&(okO ops z (listed.setIfInBounds k true) r&&(p.sz==q.sz&&p.sz==r.sz))))
def fsD(FS:PH)(Ds:List Dt):Dt:=⟨fun F=>FS.le F∧AllD FS Ds,fun hl h=>⟨h.1.trans hl,h.2⟩⟩
def AH(P:Program)(n:Fs)(w0:World)(l:List Oper)(Q:Exit→Act→World→Prop)(z:Bool)(X:Cx)(FS:PH)(Ds:List Dt)(Ls:List Res)(is:Od)(D:List Dt)(L:List Res)(e:Env):Prop :=
 ∀F H,FS.le F→AllD FS Ds→Hp X D L F H→(SS X FS Ls H∨(z=true∧is = .e))→Region.noSelect l.toArray=true→∀listed,okO l.toArray z listed is=true→AF P n w0 l.toArray Q z (SS X FS Ls) is.sz listed e H
def YQ(P:Program)(n:Fs)(w0:World)(l:List Oper)(Q:Exit→Act→World→Prop)(z:Bool)(X:Cx)(FS:PH)(Ls:List Res)(is:Od):Exit→Act→World→Prop
 | .normal,a,w=>Region.noSelect l.toArray=true→∀listed,okO l.toArray z listed is=true→(SS X FS Ls w.heap∨(z=true∧is = .e))∧AnyL P l.toArray (NoP Q) z (fun w=>SS X FS Ls w.heap) is.sz listed a w
 | x,a,w=>NoP Q x a w
theorem jany{id:Nat}{l:List Oper}(z:Bool)(is:Od)(hm:P.follows .mixedOrders=true)(hO:(okO l.toArray z (Array.replicate l.length false) is&&(Region.noSelect l.toArray&&decide (l.length=is.sz)))=true)(hk:Tks L Ls M)
  (h:∀FS,AH P n w0 l Q z X FS D Ls is D L e):CH P n w0 Q X D L e (.region id l.toArray true):=fun F H hp=>by
 simp only[Bool.and_eq_true,decide_eq_true_eq] at hO
 refine CF.any (z:=z) (SS X F Ls) hm ?_
 have:=h F F H (PH.le.refl F) hp.hd hp (.inl ⟨F,PH.le.refl F,hp.sub dn hk⟩) hO.2.1 _ hO.1
 rw[hO.2.2] at this ⊢
 exact this
section
variable{l:List Oper}{z:Bool}{is js:Od}{i d:Nat}{op:Op}{oi oj:Oper}{ty:TypeId}{pos:String}{af:Array Edge}{v:Value}{FS:PH}
theorem jyd(h:QH n w0 Q X D L e .normal):AH P n w0 l Q z X FS Ds Ls .e D L e:=fun F H h1 h2 hp hS hs listed hO=>by
 simp only[okO,Bool.and_eq_true,decide_eq_true_eq] at hO
 exact AF.done hO.1 (h F H hp)
theorem SS.oh{H:Heap}(h:OH P Ds Ls e op v)(hd:AllD FS Ds)(hS:SS X FS Ls H):OpOk P e op H v:=by
 obtain⟨F,h1,h2⟩:=hS;exact h F H h2.hin (hd.up h1) h2.ok
theorem SS.get{H:Heap}(h:SS X FS Ls H∨(z=true∧is = .e))(hn:is ≠ .e):SS X FS Ls H:=h.resolve_right fun h1=>hn h1.2
theorem okA{ops:Array Oper}{listed:Array Bool}(hO:okO ops z listed (.a i is)=true):Region.free .any ops listed i=true∧(Region.ready .any ops listed).contains i=true∧(z=false∨waits ops listed i=true)∧okO ops z (listed.setIfInBounds i true) is=true:=by
 simp only[okO,Bool.and_eq_true,Bool.or_eq_true,Bool.not_eq_true'] at hO
 exact⟨hO.1.1,hO.1.2.1,hO.1.2.2,hO.2⟩
theorem jy(hi:l[i]? = some ⟨some d,op,ty,pos,af,none⟩)(h:OH P Ds Ls e op v)(K:AH P n w0 l Q z X FS Ds Ls is D L ((d,v)::e))(hd:Nat.blt d n.sz=true:=by rfl):AH P n w0 l Q z X FS Ds Ls (.a i is) D L e:=fun F H h1 h2 hp hS hs listed hO=>by
 obtain⟨hf,hr,hz,hO⟩:=okA hO
 have hS':=SS.get hS (by simp)
 exact AF.take i hi hs hf hr hS' (fun H' hS''=>hS''.oh h h2) (K F H h1 h2 hp (.inl hS') hs _ hO) hd hz
theorem jyg{j t:Nat}{want B:Bool}{u:Value}(hi:l[i]? = some ⟨some d,op,ty,pos,af,some (j,want)⟩)(hj:(l.toArray[j]?).bind (·.dst)=some t)(hu:lk e t=some u)(hB:Gd u want B)(h:B=true→OH P Ds Ls e op v)(K:AH P n w0 l Q z X FS Ds Ls is D L ((d,gv B v)::e))(hd:Nat.blt d n.sz=true:=by rfl)(ht:Nat.blt t n.sz=true:=by rfl):AH P n w0 l Q z X FS Ds Ls (.a i is) D L e:=fun F H h1 h2 hp hS hs listed hO=>by
 obtain⟨hf,hr,hz,hO⟩:=okA hO
 have hS':=SS.get hS (by simp)
 exact AF.gtake i hi hs hf hr hS' hj hu hB (fun hb H' hS''=>hS''.oh (h hb) h2) (K F H h1 h2 hp (.inl hS') hs _ hO) hd ht hz
def OX(P:Program)(Ds:List Dt)(e:Env)(op:Op)(q:Value→Dt):Prop:=∀FS H,InH FS H→AllD FS Ds→∃v,(∀H',InH FS H'→OpOk P e op H' v)∧(q v).sat FS
section
variable{α:Type}{r:Rp α}{a:α}{b o:Nat}{T:TypeId}{x:Operand}
theorem xlV(hat:Nd Ds [] (ad r b o a))(hT:One P T)(hS:r.sz=1)(hx:ev e x=some (.pointer (some ⟨b,o,none⟩))):OX P Ds e (.load T x) (fun v=>dv r v a):=fun FS H h1 h2=>OpOk.ldVS (hat FS H h1 h2 trivial) hT hS hx (fun _ h=>h)
theorem xlA(hat:Nd Ds [] (ad r b o a))(hT:∃d,P.underlying T=some d∧(match d with | .struct _ | .array _ _=>true|_=>false)=true)(hS:Sz P T r.sz)(hx:ev e x=some (.pointer (some ⟨b,o,none⟩))):OX P Ds e (.load T x) (fun v=>da r v a):=fun FS H h1 h2=>OpOk.ldAS (hat FS H h1 h2 trivial) hT hS hx (fun _ h=>h)
end
theorem SS.inh{H:Heap}(hS:SS X FS Ls H):InH FS H:=by obtain⟨F,h1,h2⟩:=hS;exact h2.hin.down h1
theorem jye{q:Value→Dt}(hi:l[i]? = some ⟨some d,op,ty,pos,af,none⟩)(h:OX P Ds e op q)(K:∀v,AH P n w0 l Q z X FS (q v::Ds) Ls is (q v::D) L ((d,v)::e))(hd:Nat.blt d n.sz=true:=by rfl):AH P n w0 l Q z X FS Ds Ls (.a i is) D L e:=fun F H h1 h2 hp hS hs listed hO=>by
 obtain⟨hf,hr,hz,hO⟩:=okA hO
 have hS':=SS.get hS (by simp)
 obtain⟨v,h3,h4⟩:=h FS H hS'.inh h2
 exact AF.take i hi hs hf hr hS' (fun H' hS''=>h3 H' hS''.inh) (K v F H h1 ⟨h4,h2⟩ (hp.datum (Dt.up _ h1 h4)) (.inl hS') hs _ hO) hd hz
theorem jyge{q:Value→Dt}{j t:Nat}{want B:Bool}{u:Value}(hi:l[i]? = some ⟨some d,op,ty,pos,af,some (j,want)⟩)(hj:(l.toArray[j]?).bind (·.dst)=some t)(hu:lk e t=some u)(hB:Gd u want B)(h:B=true→OX P Ds e op q)(K:∀v,AH P n w0 l Q z X FS ((q v).if B::Ds) Ls is ((q v).if B::D) L ((d,gv B v)::e))(hd:Nat.blt d n.sz=true:=by rfl)(ht:Nat.blt t n.sz=true:=by rfl):AH P n w0 l Q z X FS Ds Ls (.a i is) D L e:=fun F H h1 h2 hp hS hs listed hO=>by
 obtain⟨hf,hr,hz,hO⟩:=okA hO
 have hS':=SS.get hS (by simp)
 cases B with
 | true =>
  obtain⟨v,h3,h4⟩:=h rfl FS H hS'.inh h2
  have h5:((q v).if true).sat FS:=fun _=>h4
  exact AF.gtake i hi hs hf hr hS' hj hu hB (fun _ H' hS''=>h3 H' hS''.inh) (K v F H h1 ⟨h5,h2⟩ (hp.datum (Dt.up _ h1 h5)) (.inl hS') hs _ hO) hd ht hz
 | false =>
  have h5:∀F,((q undef).if false).sat F:=fun _ h=>by cases h
  exact AF.gtake (v:=undef) i hi hs hf hr hS' hj hu hB (fun h=>by cases h) (K undef F H h1 ⟨h5 _,h2⟩ (hp.datum (h5 _)) (.inl hS') hs _ hO) hd ht hz
theorem jyA{α β:Type}{r:Rp α}{val:α→β→Value}{a:α}(hs:Sr r val)(hi:l[i]? = some ⟨some d,op,ty,pos,af,none⟩)(h:OX P Ds e op (fun v=>da r v a))(K:∀c,AH P n w0 l Q z X FS (da r (val a c) a::Ds) Ls is (da r (val a c) a::D) L ((d,val a c)::e))(hd:Nat.blt d n.sz=true:=by rfl):AH P n w0 l Q z X FS Ds Ls (.a i is) D L e:=fun F H h1 h2 hp hS hs' listed hO=>by
 obtain⟨hf,hr,hz,hO⟩:=okA hO
 have hS':=SS.get hS (by simp)
 obtain⟨v,h3,h4⟩:=h FS H hS'.inh h2
 obtain⟨c,rfl⟩:=hs.op h4
 exact AF.take i hi hs' hf hr hS' (fun H' hS''=>h3 H' hS''.inh) (K c F H h1 ⟨h4,h2⟩ (hp.datum (Dt.up _ h1 h4)) (.inl hS') hs' _ hO) hd hz
theorem adq{α:Type}{r:Rp α}{N:Nat}{a:List α}(h:Nd D L (dv (rLn N r) v a))(k:Qn N a.length→Sv v→AH P n w0 l Q z X FS Ds Ls is D L e):AH P n w0 l Q z X FS Ds Ls is D L e:=fun F H h0 h1 hp=>by
 have h2:=h F H hp.hin hp.hd hp.ok;exact k h2.1 (dv1 h2) F H h0 h1 hp
theorem wpl_op{ops:Array Oper}{Y Q':Exit→Act→World→Prop}{a:Act}{w:World}(hi:ops[i]? = some oi)(hp:∀c a w,Y (.panic c) a w→Q' (.panic c) a w)(ho:∀a w,Y .outgrown a w→Q' .outgrown a w)(h:wpList P ops Y [oi] a w):wpOp P ops Q' i (fun a w=>Y .normal a w) a w:=by
 unfold wpOp
 simp only[hi]
 unfold wpList at h
 have hl:LetsOut Y→LetsOut Q':=fun⟨a,w,h⟩=>⟨a,w,ho a w h⟩
 split at h
 ·rename_i hw
  rw[if_pos hw]
  refine h.imp (fun h=>?_) (fun h=>⟨h.1,hl h.2⟩)
  unfold Oper.wp at h ⊢
  generalize (execOp a.eval oi).run P w=r at h ⊢
  cases r with
  | ok x w' =>
   cases x<;>simp only[Oper.upon] at h⊢<;>
   first
    | exact h
    | exact Calls.mono h (fun x w'' he=>by cases x<;>first|exact he|exact hp _ _ _ he|exact hl he)
    | exact Rows.mono h (fun _ _ he=>he)
  | halt x w'=>cases x<;>simp only[Oper.upon] at h⊢<;> first|exact hp _ _ _ h|exact h
 ·rename_i hw
  rw[if_neg hw];exact h
theorem no_left{ops:Array Oper}{listed:Array Bool}(hO:okO ops true listed .e=true):¬leftB listed:=by
 simp only[okO,Bool.and_eq_true,Bool.not_true,Bool.false_or] at hO
 rintro⟨k,hk⟩
 rw[Array.getD_eq_getD_getElem?] at hk
 by_cases h:k<listed.size
 ·rw[Array.getElem?_eq_getElem h] at hk
  have h2:=Array.all_eq_true.1 hO.2 k h
  simp only[Option.getD_some] at hk
  rw[hk] at h2;cases h2
 ·rw[Array.getElem?_eq_none (Nat.le_of_not_lt h)] at hk;cases hk
theorem YQ.next{listed:Array Bool}{a:Act}{w:World}(hs:Region.noSelect l.toArray=true)(hO:okO l.toArray z (listed.setIfInBounds i true) is=true)(hi:l[i]? = some oi)(h:wpList P l.toArray (YQ P n w0 l Q z X FS Ls is) [oi] a w) :
  wpOp P l.toArray (NoP Q) i (fun a' w'=>(z=false∨leftB (listed.setIfInBounds i true)→SS X FS Ls w'.heap)∧AnyL P l.toArray (NoP Q) z (fun w=>SS X FS Ls w.heap) is.sz (listed.setIfInBounds i true) a' w') a w:=by
 refine wpOp_mono (fun a' w' h'=>?_) (wpl_op (Y:=YQ P n w0 l Q z X FS Ls is) (Q':=NoP Q) (by simpa using hi) (fun _ _ _ h=>h) (fun _ _ h=>h) h)
 obtain⟨h1,h2⟩:=h' hs _ hO
 refine⟨fun h3=>h1.resolve_right ?_,h2⟩
 rintro⟨rfl,rfl⟩
 exact no_left hO (h3.resolve_left (by simp))
theorem jyo(hi:l[i]? = some oi)(h:LH P n w0 l.toArray (YQ P n w0 l Q z X FS Ls is) X (fsD FS Ds::D) L e [oi]):AH P n w0 l Q z X FS Ds Ls (.o i is) D L e:=fun F H h1 h2 hp hS hs listed hO=>by
 simp only[okO,Bool.and_eq_true,decide_eq_true_eq] at hO
 intro a w hf hw
 exact wpAnyH_one hO.1 (YQ.next hs hO.2 hi (h F H (hp.datum ⟨h1,h2⟩) a w hf hw))
theorem jyw{j:Nat}(hi:l[i]? = some oi)(hj:l[j]? = some oj)(h:LH P n w0 l.toArray (YQ P n w0 l Q z X FS Ls is) X (fsD FS Ds::D) L e [oi])(h':LH P n w0 l.toArray (YQ P n w0 l Q z X FS Ls js) X (fsD FS Ds::D) L e [oj]):AH P n w0 l Q z X FS Ds Ls (.w i j is js) D L e:=fun F H h1 h2 hp hS hs listed hO=>by
 simp only[okO,Bool.and_eq_true,decide_eq_true_eq,beq_iff_eq] at hO
 obtain⟨hr,ho1,ho2,hz⟩:=hO
 intro a w hf hw
 have a1:=YQ.next hs ho1 hi (h F H (hp.datum ⟨h1,h2⟩) a w hf hw)
 have a2:=YQ.next hs ho2 hj (h' F H (hp.datum ⟨h1,h2⟩) a w hf hw)
 rw[←hz] at a2
 refine⟨fun h0=>(by rw[hr] at h0;cases h0),fun k hk=>?_⟩
 rw[hr] at hk
 simp only[List.mem_cons,List.not_mem_nil,or_false] at hk
 rcases hk with rfl|rfl
 ·exact a1
 ·exact a2
theorem jyn{ops:Array Oper}(hf:Nd D L (fsD FS Ds))(hk:Tks L Ls M)(h:AH P n w0 l Q z X FS Ds Ls is D L e):LH P n w0 ops (YQ P n w0 l Q z X FS Ls is) X D L e []:=jn fun F H hp a w hfr hw hs listed hO=>by
 obtain⟨h1,h2⟩:=hf F H hp.hin hp.hd hp.ok
 have hS:SS X FS Ls H:=⟨F,h1,hp.sub dn hk⟩
 exact⟨.inl (hw.heap▸hS),h F H h1 h2 hp (.inl hS) hs listed hO a w hfr hw⟩
theorem jyz{ops:Array Oper}(hf:Nd D L (fsD FS Ds))(h:AH P n w0 l Q true X FS Ds Ls .e D L e):LH P n w0 ops (YQ P n w0 l Q true X FS Ls .e) X D L e []:=jn fun F H hp a w hfr hw hs listed hO=>by
 obtain⟨h1,h2⟩:=hf F H hp.hin hp.hd hp.ok
 exact⟨.inr ⟨rfl,rfl⟩,h F H h1 h2 hp (.inr ⟨rfl,rfl⟩) hs listed hO a w hfr hw⟩
end
end Go.JE
namespace Go.Proofs.YtehhjlkmbdhckaaGreat
open Go.JE
theorem A69:∃d,Tryz.prog.underlying 69=some d∧(match d with | .struct _ | .array _ _=>true|_=>false)=true:=⟨_,Tryz.underlying69,rfl⟩
theorem E52:Ent Tryz.prog 52:=⟨_,Tryz.func52,by kernel_rfl,by kernel_rfl⟩
theorem E74:Ent Tryz.prog 74:=⟨_,Tryz.func74,by kernel_rfl,by kernel_rfl⟩
theorem E75:Ent Tryz.prog 75:=⟨_,Tryz.func75,by kernel_rfl,by kernel_rfl⟩
theorem E76:Ent Tryz.prog 76:=⟨_,Tryz.func76,by kernel_rfl,by kernel_rfl⟩
theorem E77:Ent Tryz.prog 77:=⟨_,Tryz.func77,by kernel_rfl,by kernel_rfl⟩
theorem E78:Ent Tryz.prog 78:=⟨_,Tryz.func78,by kernel_rfl,by kernel_rfl⟩
theorem E79:Ent Tryz.prog 79:=⟨_,Tryz.func79,by kernel_rfl,by kernel_rfl⟩
theorem E81:Ent Tryz.prog 81:=⟨_,Tryz.func81,by kernel_rfl,by kernel_rfl⟩
theorem G99_0:∃fs f,Tryz.prog.underlying 99=some (.struct fs)∧fs[0]? = some f∧f.offset=0∧f.type=67:=⟨_,_,Tryz.underlying99,rfl,rfl,rfl⟩
theorem G99_1:∃fs f,Tryz.prog.underlying 99=some (.struct fs)∧fs[1]? = some f∧f.offset=1∧f.type=67:=⟨_,_,Tryz.underlying99,rfl,rfl,rfl⟩
theorem Mixed:Tryz.prog.follows .mixedOrders=true:=Checked.mixed Tryz.checked
theorem O67:One Tryz.prog 67:=⟨_,Tryz.underlying67,rfl⟩
theorem Z69:Sz Tryz.prog 69 8:=by unfold Sz;kernel_rfl
theorem takesF_ct{a0:Value}{i:D.Mach}:Td Tryz.prog (takesF i.Op) #[vMach i a0] [da rMach (vMach i a0) i] [] (rL (rI .i64)) (takesM i):=by
 unfold takesF takesM
 (repeat' split)<;>first|(exfalso;omega)|exact kind3_ct|exact kind4_ct|exact kind5_ct|exact kind6_ct|exact kind1_ct
theorem ent_takesF(op:Int):Ent Tryz.prog (takesF op):=by
 unfold takesF
 (repeat' split)<;>first|with_reducible exact E76|with_reducible exact E77|with_reducible exact E78|with_reducible exact E79|with_reducible exact E74
theorem makesF_ct{a0:Value}{i:D.Mach}:Td Tryz.prog (makesF i.Op) #[vMach i a0] [da rMach (vMach i a0) i] [] (rL (rI .i64)) (makesM i):=by
 unfold makesF makesM
 (repeat' split)<;>first|(exfalso;omega)|exact kind4_ct|exact kind7_ct|exact kind1_ct|exact kind2_ct
theorem ent_makesF(op:Int):Ent Tryz.prog (makesF op):=by
 unfold makesF
 (repeat' split)<;>first|with_reducible exact E77|with_reducible exact E81|with_reducible exact E74|with_reducible exact E75
theorem pTakes_ct{a0:Value}{i:D.Mach}:Td Tryz.prog 30 #[vMach i a0] [da rMach (vMach i a0) i] [] (rL (rI .i64)) (takesM i):=by
 refine jenter (args:=[vMach i a0]) Tryz.func30 rfl rfl rfl fun w0 X=>?_
 refine jq (jr (jbox Z Z fun g1=>ja Z (jn (jx (jq (jany false (.a 0 (.a 1 (.a 4 (.o 2 (.a 3 (.o 5 (.a 6 .e))))))) Mixed (by kernel_rfl) (kc k0 kn) fun F1=>jy Z (jf F69_0 Z) (jy Z (jl k0 O3 Z Z) (jy Z (jla k0 A69 Z69 Z Z Z) (jyo Z ?_)))))))))
 refine jcv E52 Z Z (kindV_ct i.Op) dn kn (jyn d0 (kc k0 kn) (jy Z (jfo G99_0 O67 Z Z) (jyo Z (jcd (ent_takesF _) Z Z takesF_ct (dc d2 dn) kn fun v8 q8 w8=>jyn d1 (kc k0 kn) (jy Z (jas Z) (jyd (jx (jrt ?_))))))))
 exact jrD Z Z (by rfl) d0
theorem pMakes_ct{a0:Value}{i:D.Mach}:Td Tryz.prog 31 #[vMach i a0] [da rMach (vMach i a0) i] [] (rL (rI .i64)) (makesM i):=by
 refine jenter (args:=[vMach i a0]) Tryz.func31 rfl rfl rfl fun w0 X=>?_
 refine jq (jr (jbox Z Z fun g1=>ja Z (jn (jx (jq (jany false (.a 0 (.a 1 (.a 4 (.o 2 (.a 3 (.o 5 (.a 6 .e))))))) Mixed (by kernel_rfl) (kc k0 kn) fun F1=>jy Z (jf F69_0 Z) (jy Z (jl k0 O3 Z Z) (jy Z (jla k0 A69 Z69 Z Z Z) (jyo Z ?_)))))))))
 refine jcv E52 Z Z (kindV_ct i.Op) dn kn (jyn d0 (kc k0 kn) (jy Z (jfo G99_1 O67 Z Z) (jyo Z (jcd (ent_makesF _) Z Z makesF_ct (dc d2 dn) kn fun v8 q8 w8=>jyn d1 (kc k0 kn) (jy Z (jas Z) (jyd (jx (jrt ?_))))))))
 exact jrD Z Z (by rfl) d0
abbrev U72:=@Tryz.underlying72
theorem E87:Ent Tryz.prog 87:=⟨_,Tryz.func87,by kernel_rfl,by kernel_rfl⟩
theorem Z21:Sz Tryz.prog 21 1:=by unfold Sz;kernel_rfl
def getM(regs:List Int)(r:Int):Int:=if r<0∨regs.length≤r then 0 else ix regs r.toNat
def setM(regs:List Int)(r v:Int):List Int:=if 0≤r∧r<regs.length then regs.set r.toNat v else regs
def loadM(mem:List Int)(at':Int):Int×Bool:=if at'<0∨mem.length≤at' then (0,false) else (ix mem at'.toNat,true)
def storeM(mem:List Int)(at' v:Int):List Int:=if at'<0∨mem.length≤at' then mem else mem.set at'.toNat v
theorem loadM_ok{mem:List Int}{a:Int}(h:(loadM mem a).2=true):0≤a∧a<mem.length:=by
 unfold loadM at h;split at h
 ·cases h
 ·omega
theorem loadM_no{mem:List Int}{a:Int}(h:(loadM mem a).2=false):a<0∨mem.length≤a:=by
 unfold loadM at h;split at h
 ·assumption
 ·cases h
def storeOk(mem:List Int)(at' _x:Int):Bool:=(loadM mem at').2
def memM(i:D.Input):List Int:=i.Mem.take 4096
def goesM(e:D.End)(regs:List Int):Int :=
 if e.Op=1 then 0
 else if e.Op=2 then (if getM regs e.A≠0 then 0 else 1)
 else if e.Op=3 then (if getM regs e.A=getM regs e.B then 0 else 1)
 else if e.Op=4 then (if getM regs e.A<getM regs e.B then 0 else 1)
 else if e.Op=5 then (if u32 (getM regs e.A)<u32 (getM regs e.B) then 0 else 1)
 else if e.Op=6 then (if u32 (getM regs e.A)<e.To.length-1 then u32 (getM regs e.A) else e.To.length-1)
 else -1
def immOp(op:Int):Int:=ix [2,5,8,9,10] (op-18).toNat
def stepM(i:D.Mach)(regs mem:List Int):(Int×Bool)×List Int×List Int :=
 if i.Op=1 then ((0,true),setM regs i.D (getM regs i.A),mem)
 else if i.Op=2 then ((0,true),setM (setM regs i.A (getM regs i.B)) i.B (getM regs i.A),mem)
 else if i.Op=3∨i.Op=4 then ((0,true),setM regs i.D i.Imm,mem)
 else if 5≤i.Op∧i.Op≤17 then
  if (doM (i.Op-5+2) (getM regs i.A) (getM regs i.B)).2=true then ((0,true),setM regs i.D (doM (i.Op-5+2) (getM regs i.A) (getM regs i.B)).1,mem) else ((-1,false),regs,mem)
 else if 18≤i.Op∧i.Op≤22 then ((0,true),setM regs i.D (doM (immOp i.Op) (getM regs i.A) i.Imm).1,mem)
 else if i.Op=23 then ((0,true),setM regs i.D (w32 (w32 (getM regs i.A*getM regs i.B)+getM regs i.C)),mem)
 else if i.Op=24 then
  if (loadM mem (w32 (getM regs i.A+i.Imm))).2=true then ((0,true),setM regs i.D (loadM mem (w32 (getM regs i.A+i.Imm))).1,mem) else ((-2,false),regs,mem)
 else if i.Op=25 then
  if (loadM mem (w32 (getM regs i.A+getM regs i.B))).2=true then ((0,true),setM regs i.D (loadM mem (w32 (getM regs i.A+getM regs i.B))).1,mem) else ((-2,false),regs,mem)
 else if i.Op=26 then
  ((if storeOk mem (w32 (getM regs i.A+i.Imm)) (getM regs i.B)=true then (0,true) else (-2,false)),regs,storeM mem (w32 (getM regs i.A+i.Imm)) (getM regs i.B))
 else if i.Op=27 then
  ((if storeOk mem (w32 (getM regs i.A+getM regs i.B)) (getM regs i.C)=true then (0,true) else (-2,false)),regs,storeM mem (w32 (getM regs i.A+getM regs i.B)) (getM regs i.C))
 else if i.Op=29 then ((0,true),setM (setM regs i.D (wideM (getM regs i.A) (getM regs i.B)).1) i.E (wideM (getM regs i.A) (getM regs i.B)).2,mem)
 else ((0,true),regs,mem)
theorem wide_prog{a b:Int}(ha:IntKind.i32.wrap a=a)(hb:IntKind.i32.wrap b=b) :
  wideM a b=(IntKind.i32.wrap (a*b),IntKind.i32.wrap (shrI .i64 (a*b) 32)):=by
 have h1:=i32_rng ha
 have h2:=i32_rng hb
 have h3:=mul_rng h1 h2
 unfold wideM shrI
 have e1:(2:Int)^(min (32:Int).toNat IntKind.i64.bits)=4294967296:=by decide
 rw[e1]
def setAllM:List Int→List Int→Int→List Int
 | rs,[],_=>rs
 | rs,r::l,v=>setAllM (setM rs r v) l v
theorem setM_len(rs:List Int)(r v:Int):(setM rs r v).length=rs.length:=by unfold setM;split<;>simp
theorem storeM_len(rs:List Int)(r v:Int):(storeM rs r v).length=rs.length:=by unfold storeM;split<;>simp
theorem take_min{α:Type}(l:List α)(n:Nat)(m:Int)(h:m=n):l.take n=l.take (Int.toNat (min (↑l.length) m)):=by
 subst h
 rcases Nat.le_total l.length n with h|h
 ·rw[List.take_of_length_le h,List.take_of_length_le (by omega)]
 ·congr 1;omega
def rowsM(a b:List Int):Bool:=decide (a=b)
theorem rowsM_len{a b:List Int}(h:¬a.length=b.length):rowsM a b=false:=by simp only[rowsM,decide_eq_false_iff_not];rintro rfl;exact h rfl
theorem rowsM_at{a b:List Int}{k:Nat}(h1:k<a.length)(h2:a.length=b.length)(h:¬ix a k=ix b k):rowsM a b=false:=by simp only[rowsM,decide_eq_false_iff_not];rintro rfl;exact h rfl
theorem rowsM_yes{a b:List Int}{k:Nat}(h1:a.length≤k)(h2:a.length=b.length)(h:a.take k=b.take k):rowsM a b=true:=by
 rw[List.take_of_length_le h1,List.take_of_length_le (by omega)] at h
 simp only[rowsM,h,decide_true]
theorem getM_wrG{E B:Nat}{F:PH}{H:Heap}{v:Value}{l:List Int}(h:Gl (rI .i32) E F H B v l)(r:Int):IntKind.i32.wrap (getM l r)=getM l r:=by
 unfold getM;split
 ·decide
 ·exact h.wr (by omega)
theorem loadM_wrG{E B:Nat}{F:PH}{H:Heap}{v:Value}{l:List Int}(h:Gl (rI .i32) E F H B v l)(r:Int):IntKind.i32.wrap (loadM l r).1=(loadM l r).1:=by
 unfold loadM;split
 ·decide
 ·exact h.wr (by omega)
theorem sar_wr{a:Int}(b:Int)(ha:IntKind.i32.wrap a=a):IntKind.i32.wrap (sarM a b)=sarM a b:=by
 have h1:=i32_rng ha
 unfold sarM
 have h2:(0:Int)<2^(b%32).toNat:=Int.pow_pos (by decide)
 rw[Int.fdiv_eq_ediv_of_nonneg _ (by omega)]
 refine IntWalk.i32_in _ ⟨?_,?_⟩
 ·rw[Int.le_ediv_iff_mul_le h2]
  have:(-2147483648:Int)*2^(b%32).toNat≤-2147483648*1:=by
   have:=Int.mul_le_mul_of_nonneg_left (show(1:Int)≤2^(b%32).toNat by omega) (show(0:Int)≤2147483648 by decide)
   omega
  omega
 ·have:=Int.ediv_le_self (b:=2^(b%32).toNat) (a:=a)
  by_cases h:0≤a
  ·have:=this h;omega
  ·have:=Int.ediv_neg_of_neg_of_pos (a:=a) (b:=2^(b%32).toNat) (by omega) h2
   omega
theorem bit_wr(b:Bool):IntKind.i32.wrap (bitM b)=bitM b:=by cases b<;>decide
theorem doM_wr(op:Int){a:Int}(b:Int)(ha:IntKind.i32.wrap a=a):IntKind.i32.wrap (doM op a b).1=(doM op a b).1:=by
 by_cases h:2≤op∧op≤14
 ·have hc:op=2∨op=3∨op=4∨op=5∨op=6∨op=7∨op=8∨op=9∨op=10∨op=11∨op=12∨op=13∨op=14:=by omega
  rcases hc with rfl|rfl|rfl|rfl|rfl|rfl|rfl|rfl|rfl|rfl|rfl|rfl|rfl
  ·exact JE.wrap_wrap _ _
  ·exact JE.wrap_wrap _ _
  ·exact JE.wrap_wrap _ _
  ·exact JE.wrap_wrap _ _
  ·exact JE.wrap_wrap _ _
  ·exact JE.wrap_wrap _ _
  ·exact JE.wrap_wrap _ _
  ·exact JE.wrap_wrap _ _
  ·exact sar_wr b ha
  ·exact bit_wr _
  ·exact bit_wr _
  ·exact bit_wr _
  ·have e1:doM 14 a b=if b=0 then (0,false) else (divM a b,true):=rfl
   rw[e1];split
   ·decide
   ·exact JE.wrap_wrap _ _
 ·have e1:doM op a b=(0,false):=by unfold doM;repeat rw[if_neg (by omega)]
  rw[e1];decide
theorem wgt{D:List Dt}{L M:List Res}{B E:Nat}{v:Value}{l:List Int}(hk:Tk L (gl B (rI .i32) E v l) M)(r:Int):Wr D L .i32 (getM l r):=fun _ _ _ _ z=>getM_wrG (hk.ok z).1.1 r
theorem wld{D:List Dt}{L M:List Res}{B E:Nat}{v:Value}{l:List Int}(hk:Tk L (gl B (rI .i32) E v l) M)(r:Int):Wr D L .i32 (loadM l r).1:=fun _ _ _ _ z=>loadM_wrG (hk.ok z).1.1 r
theorem wdo{D:List Dt}{L:List Res}{op a b:Int}(h:Wr D L .i32 a):Wr D L .i32 (doM op a b).1:=fun F H x y z=>doM_wr _ _ (h F H x y z)
theorem wWide_ct(a:Int)(b:Int)(ww0:IntKind.i32.wrap a=a)(ww1:IntKind.i32.wrap b=b):Tv Tryz.prog 89 #[.int .i32 a,.int .i32 b] [] [] (.tuple #[.int .i32 ((wideM a b).1),.int .i32 ((wideM a b).2)]):=by
 refine jenter (args:=[.int .i32 a,.int .i32 b]) Tryz.func89 rfl rfl rfl fun w0 X=>?_
 have b0:=i32_rng ww0
 have b1:=i32_rng ww1
 have b2:=mul_rng b0 b1
 have c0:=IntWalk.i64_in a (by omega)
 have c1:=IntWalk.i64_in b (by omega)
 refine jq (jr (ja Z (ja Z (jn (jx (jq (jr (jm Z (js (jco U21 U2 Z (up_i32_i64 ww0)) (jm Z (js (jco U21 U2 Z (up_i32_i64 ww1)) ?_)))))))))))
 refine js (jmul Z Z (by omega)) (ja Z (jn (jx (jq (jr (jm Z (js (jco U2 U21 Z Z) (jm Z (js (jshr Z Z (by decide)) (js (jco U2 U21 Z Z) (ja Z ?_)))))))))))
 refine ja Z (jn (jx (jrt ?_)))
 exact jr2 Z Z Z () (tII (wide_prog ww0 ww1)) dn (fun _ _=>kn)
theorem pGet_ct{a0:Value}{regs:List Int}(r:Int):Tv Tryz.prog 59 #[a0,.int .i64 r] [dv (rL (rI .i32)) a0 regs] [] (.int .i32 (getM regs r)):=by
 refine jenter (args:=[a0,.int .i64 r]) Tryz.func59 rfl rfl rfl fun w0 X=>?_
 refine jq (jr (ja Z (jn (jx (jq (jq (jr (jm Z (js (jlss Z Z) (jm Z (jg Z Z (.f _) (fun hg=>jmv Z) ?_)))))))))))
 refine jg Z Z (.f _) (fun hg=>jmv Z) (jdq d0 fun q1 w1=>jg Z Z (.f _) (fun hg=>jln U72 d0 (evg Z hg)) (jg Z Z (.f _) (fun hg=>jgeq (evg Z hg) (evg Z hg)) (js (jor Z Z) (jn (jx ?_)))))
 refine jif Z (fun hc1=>?_) (fun hc1=>?_)
 refine jq (jr (ja Z (jn (jx (jrt (jtr ?_))))))
 exact jrI Z Z (by first|(simp[getM,hc1];done)|(unfold getM;(repeat' split)<;>first|rfl|(exfalso;omega)|(simp[getM,hc1];done)))
 refine jsk (jx (jq (jr (jm Z (jm Z (js (jix (i:=(Int.toNat r)) U72 Z21 d0 Z Z (by omega) (by omega)) (js (jlI (dix d0 (Int.toNat r) (by omega)) O21 Z) (ja Z (jn (jx (jrt ?_)))))))))))
 exact jrI Z Z (by first|(simp[getM,hc1];done)|(unfold getM;(repeat' split)<;>first|rfl|(exfalso;omega)|(simp[getM,hc1];done)))
theorem pLoad_ct{a0:Value}{mem:List Int}(at':Int)(ww1:IntKind.i32.wrap at'=at'):Tv Tryz.prog 87 #[a0,.int .i32 at'] [dv (rL (rI .i32)) a0 mem] [] (.tuple #[.int .i32 ((loadM mem at').1),.bool ((loadM mem at').2)]):=by
 refine jenter (args:=[a0,.int .i32 at']) Tryz.func87 rfl rfl rfl fun w0 X=>?_
 refine jq (jr (ja Z (ja Z (jn (jx (jq (jq (jr (jm Z (js (jlss Z Z) (jm Z ?_)))))))))))
 refine jg Z Z (.f _) (fun hg=>jmv Z) (jg Z Z (.f _) (fun hg=>jco U21 U3 (evg Z hg) (up_i32_i64 ww1)) (jg Z Z (.f _) (fun hg=>jmv Z) (jdq d0 fun q1 w1=>jg Z Z (.f _) (fun hg=>jln U72 d0 (evg Z hg)) (jg Z Z (.f _) (fun hg=>jgeq (evg Z hg) (evg Z hg)) (js (jor Z Z) (jn (jx ?_)))))))
 refine jif Z (fun hc1=>?_) (fun hc1=>?_)
 refine jq (jr (ja Z (ja Z (jn (jx (jrt (jtr ?_)))))))
 exact jr2 Z Z Z () (tIB (by first|(simp[loadM,hc1];done)|(unfold loadM;(repeat' split)<;>first|rfl|(exfalso;omega)|(simp[loadM,hc1];done)))) dn (fun _ _=>kn)
 refine jsk (jx (jq (jr (jm Z (jm Z (js (jix (i:=(Int.toNat (at'))) U72 Z21 d0 Z Z (by omega) (by omega)) (js (jlI (dix d0 (Int.toNat (at')) (by omega)) O21 Z) (ja Z (ja Z (jn (jx ?_)))))))))))
 refine jrt ?_
 exact jr2 Z Z Z () (tIB (by first|(simp[loadM,hc1];done)|(unfold loadM;(repeat' split)<;>first|rfl|(exfalso;omega)|(simp[loadM,hc1];done)))) dn (fun _ _=>kn)
theorem pStore_ct{a0:Value}{mem:List Int}{B0:Nat}(at':Int)(x:Int)(hl:mem.length<1073741824)(ww1:IntKind.i32.wrap at'=at')(ww2:IntKind.i32.wrap x=x):Tr Tryz.prog 88 #[a0,.int .i32 at',.int .i32 x] [] [gl B0 (rI .i32) 21 a0 mem] (fun _:Unit => .bool (storeOk mem at' x)) (fun _=>[]) (fun _ _=>[gl B0 (rI .i32) 21 a0 (storeM mem (at') x)]):=by
 refine jenter (args:=[a0,.int .i32 at',.int .i32 x]) Tryz.func88 rfl rfl rfl fun w0 X=>?_
 refine cgo k0 fun w1=>jq (jr (ja Z (jn (jx (jq (jr (jm Z (jm Z (jc E87 Z Z (Tv.temp 1073741824 (pLoad_ct (at') ww1) (by omega)) dn (kc k0 kn) (fun _=>p0) (fun _=>p1) fun _=>jm Z ?_)))))))))
 refine js (jex' Z Z) (js (jex' Z Z) (ja Z (ja Z (jn (jx (jq (jq (jr (jm Z (jn (jx ?_)))))))))))
 refine jif Z (fun hc1=>?_) (fun hc1=>?_)
 have hb:=loadM_ok hc1
 refine jr (jm Z (jm Z (jm Z (js (jig (i:=(Int.toNat (at'))) U72 Z21 k0 Z Z (by omega) (by omega)) (jsg k0 Z Z21 Z Z Z (by omega) (wI (wp ww2)) (jn (jx (jq (jr (jm Z (ja Z ?_)))))))))))
 refine jn (jx (jrt ?_))
 exact jr1 Z Z () (congrArg Value.bool (Eq.symm (by first|(simp[storeOk, *];done)))) dn (fun _ _=>(kcg (by first|(simp[storeM, *];done)|(unfold storeM;rw[if_neg (by omega)];done)|(unfold storeM;rw[if_pos (by omega)];done)) k0 kn))
 have hb:=loadM_no hc1
 refine jsk (jx (jq (jr (jm Z (ja Z (jn (jx (jrt ?_))))))))
 exact jr1 Z Z () (congrArg Value.bool (Eq.symm (by first|(simp[storeOk, *];done)))) dn (fun _ _=>(kcg (by first|(simp[storeM, *];done)|(unfold storeM;rw[if_neg (by omega)];done)|(unfold storeM;rw[if_pos (by omega)];done)) k0 kn))
theorem E59:Ent Tryz.prog 59:=⟨_,Tryz.func59,by kernel_rfl,by kernel_rfl⟩
theorem E82:Ent Tryz.prog 82:=⟨_,Tryz.func82,by kernel_rfl,by kernel_rfl⟩
theorem F35_3:Fld Tryz.prog 35 3 3:=⟨_,_,Tryz.underlying35,rfl,rfl,1,(by unfold Sz;kernel_rfl),by decide⟩
theorem F74_1:Fld Tryz.prog 74 1 1:=⟨_,_,Tryz.underlying74,rfl,rfl,1,(by unfold Sz;kernel_rfl),by decide⟩
theorem I21:(Tryz.prog.info? 21).map (fun i=>(i.zero,i.size,i.bytes))=some (some (.int .i32 0),1,4):=by kernel_rfl
theorem O72:One Tryz.prog 72:=⟨_,Tryz.underlying72,rfl⟩
theorem pGoes_ct{a0:Value}{e:D.End}{a1:Value}{regs:List Int}:Tv Tryz.prog 60 #[vEnd e a0,a1] [da rEnd (vEnd e a0) e,dv (rL (rI .i32)) a1 regs] [] (.int .i64 (goesM e regs)):=by
 refine jenter (args:=[vEnd e a0,a1]) Tryz.func60 rfl rfl rfl fun w0 X=>?_
 refine jq (jr (jbox Z Z fun g2=>ja Z (jn (jx (jq (jany false (.a 0 (.a 1 (.a 2 (.a 4 (.a 5 (.a 6 (.o 3 (.o 7 (.a 8 (.a 9 .e)))))))))) Mixed (by kernel_rfl) (kc k0 kn) fun F1=>jy Z (jmv Z) (jy Z (jf F35_1 Z) (jy Z (jl k0 O3 Z Z) (jy Z (jmv Z) ?_)))))))))
 refine jy Z (jf F35_2 Z) (jy Z (jl k0 O3 Z Z) (jyo Z (jdq d2 fun q3 w3=>jcv E59 Z Z (pGet_ct e.A) (dc d2 dn) kn (jyn d0 (kc k0 kn) (jyo Z (jcv E59 Z Z (pGet_ct e.B) (dc d3 dn) kn (jyn d0 (kc k0 kn) (jy Z (jas Z) (jy Z (jas Z) (jyd ?_))))))))))
 refine jx (jq (jr (ja Z (jn (jx (jq (jq (jr (js (jf F35_0 Z) (js (jl k0 O3 Z Z) (jn ?_)))))))))))
 refine jx (jb (jq (jr (js (jeql Z Z) (ja Z (jn (jx ?_)))))))
 refine jif Z (fun hc1=>?_) (fun hc1=>?_)
 refine jr (ja Z (jn (jbn (jx (jq (jq (jr (jm Z (jn (jx ?_))))))))))
 refine jif Z (fun hc2=>?_) (fun hc2=>?_)
 refine jq (jr (ja Z (jn (jx (jrt (jtr ?_))))))
 exact jrI Z Z (by first|(simp[goesM, *];done)|(unfold goesM;(repeat' split)<;>first|rfl|(exfalso;omega)|simp_all))
 exact absurd hc2 (by simp)
 refine jq (jr (js (jeql Z Z) (ja Z (jn (jx ?_)))))
 refine jif Z (fun hc3=>?_) (fun hc3=>?_)
 refine jr (jm Z (js (jneq Z Z) (ja Z (jn (jbn (jx (jq (jq (jr (jm Z (jn ?_)))))))))))
 refine jx ?_
 refine jif Z (fun hc4=>?_) (fun hc4=>?_)
 refine jq (jr (ja Z (jn (jx (jrt (jtr ?_))))))
 exact jrI Z Z (by first|(simp[goesM, *];done)|(unfold goesM;(repeat' split)<;>first|rfl|(exfalso;omega)|simp_all))
 refine jsk (jx (jq (jr (ja Z (jn (jx (jrt ?_)))))))
 exact jrI Z Z (by first|(simp[goesM, *];done)|(unfold goesM;(repeat' split)<;>first|rfl|(exfalso;omega)|simp_all))
 refine jq (jr (js (jeql Z Z) (ja Z (jn (jx ?_)))))
 refine jif Z (fun hc5=>?_) (fun hc5=>?_)
 refine jr (jm Z (jm Z (js (jeql Z Z) (ja Z (jn (jbn (jx (jq (jq (jr (jm Z ?_)))))))))))
 refine jn (jx ?_)
 refine jif Z (fun hc6=>?_) (fun hc6=>?_)
 refine jq (jr (ja Z (jn (jx (jrt (jtr ?_))))))
 exact jrI Z Z (by first|(simp[goesM, *];done)|(unfold goesM;(repeat' split)<;>first|rfl|(exfalso;omega)|simp_all))
 refine jsk (jx (jq (jr (ja Z (jn (jx (jrt ?_)))))))
 exact jrI Z Z (by first|(simp[goesM, *];done)|(unfold goesM;(repeat' split)<;>first|rfl|(exfalso;omega)|simp_all))
 refine jq (jr (js (jeql Z Z) (ja Z (jn (jx ?_)))))
 refine jif Z (fun hc7=>?_) (fun hc7=>?_)
 refine jr (jm Z (jm Z (js (jlss Z Z) (ja Z (jn (jbn (jx (jq (jq (jr (jm Z ?_)))))))))))
 refine jn (jx ?_)
 refine jif Z (fun hc8=>?_) (fun hc8=>?_)
 refine jq (jr (ja Z (jn (jx (jrt (jtr ?_))))))
 exact jrI Z Z (by first|(simp[goesM, *];done)|(unfold goesM;(repeat' split)<;>first|rfl|(exfalso;omega)|simp_all))
 refine jsk (jx (jq (jr (ja Z (jn (jx (jrt ?_)))))))
 exact jrI Z Z (by first|(simp[goesM, *];done)|(unfold goesM;(repeat' split)<;>first|rfl|(exfalso;omega)|simp_all))
 refine jq (jr (js (jeql Z Z) (ja Z (jn (jx ?_)))))
 refine jif Z (fun hc9=>?_) (fun hc9=>?_)
 refine jr (jm Z (js (jco U21 U148 Z Z) (jm Z (js (jco U21 U148 Z Z) (js (jlss Z Z) (ja Z (jn (jbn (jx (jq (jq ?_)))))))))))
 refine jr (jm Z (jn (jx ?_)))
 refine jif Z (fun hc10=>?_) (fun hc10=>?_)
 refine jq (jr (ja Z (jn (jx (jrt (jtr ?_))))))
 exact jrI Z Z (by first|(simp[goesM, *];done)|(unfold goesM;(repeat' split)<;>first|rfl|(exfalso;omega)|simp_all))
 refine jsk (jx (jq (jr (ja Z (jn (jx (jrt ?_)))))))
 exact jrI Z Z (by first|(simp[goesM, *];done)|(unfold goesM;(repeat' split)<;>first|rfl|(exfalso;omega)|simp_all))
 refine jq (jr (js (jeql Z Z) (ja Z (jn (jx ?_)))))
 refine jif Z (fun hc11=>?_) (fun hc11=>?_)
 refine jq (jr (js (jf F35_3 Z) (js (jl k0 O22 Z Z) (jdq (rEnd.c_To d2) fun q5 w5=>js (jln U22 (rEnd.c_To d2) Z) (js (jsub Z Z (by omega)) (ja Z (jn (jx (jq (jq ?_))))))))))
 refine jr (jm Z (js (jco U21 U148 Z Z) (js (jco U148 U2 Z (up_u32_i64 (JE.wrap_wrap _ _))) (ja Z (jn (jx (jq (jr (jm Z (jm Z (js (jlss Z Z) ?_)))))))))))
 refine jn (jx ?_)
 refine jif Z (fun hc12=>?_) (fun hc12=>?_)
 refine jq (jr (jm Z (ja Z (jn (jx (jrt (jtr (jbr (jtr ?_)))))))))
 exact jrI Z Z (by first|(simp[goesM, *];done)|(unfold goesM;(repeat' split)<;>first|rfl|(exfalso;omega)|simp_all))
 refine jsk (jx (jq (jr (jm Z (ja Z (jn (jx (jrt (jbr (jtr ?_))))))))))
 exact jrI Z Z (by first|(simp[goesM, *];done)|(unfold goesM;(repeat' split)<;>first|rfl|(exfalso;omega)|simp_all))
 refine jq (jr (ja Z (jn (jx (jrt (jbr (jtr ?_)))))))
 exact jrI Z Z (by first|(simp[goesM, *];done)|(unfold goesM;(repeat' split)<;>first|rfl|(exfalso;omega)|simp_all))
theorem clone32_ct{a0:Value}{l:List Int}:Tg Tryz.prog 82 #[a0] [dv (rL (rI .i32)) a0 l] [] (rI .i32) 21 l:=by
 refine jenter (args:=[a0]) Tryz.func82 rfl rfl rfl fun w0 X=>?_
 refine jq (jr (ja Z (jn (jx (jq (jq (jr (jm Z (jeb (jeqlNil U72 d0 Z Z) fun b4 hnil4=>jn (jx ?_))))))))))
 refine jif Z (fun hc1=>?_) (fun hc1=>?_)
 refine jq (jr (ja Z (jn (jx (jrt (jtr (qnl (r:=(rI .i32)) (E:=21) ?_)))))))
 exact jrG Z Z (by first|rfl|exact hnil4 hc1) k0
 refine jsk (jx (jq (jr (jlit (r:=(rI .i32)) (l:=[]) U72 I21 (by decide) Z Z Z ln fun g5=>jm Z (jdq d0 fun q2 w2=>japlz U72 I21 (by decide) Z k0 Z Z d0 (by omega) fun v7 w3=>ja Z (jn (jx (jrt ?_))))))))
 exact jrG Z Z (by first|rfl|exact hnil4 hc1) k0
theorem pMem_ct{a0a a0b a0c:Value}{i:D.Input}:Tg Tryz.prog 55 #[vInput i (a0a,a0b,a0c)] [da rInput (vInput i (a0a,a0b,a0c)) i] [] (rI .i32) 21 (memM i):=by
 refine jenter (args:=[vInput i (a0a,a0b,a0c)]) Tryz.func55 rfl rfl rfl fun w0 X=>?_
 refine jq (jr (jbox Z Z fun g1=>ja Z (jn (jx (jq (jr (js (jf F74_1 Z) (js (jl k0 O72 Z Z) (js (jf F74_1 Z) (js (jl k0 O72 Z Z) ?_))))))))))
 refine jdq (rInput.c_Mem d0) fun q1 w1=>js (jln U72 (rInput.c_Mem d0) Z) (js (jmin Z Z) (js (jshi (hi:=(Int.toNat (min (↑(List.length i.Mem)) 4096))) U72 Z21 (rInput.c_Mem d0) Z Z (by omega) (by omega)) (jdq (dhi (rInput.c_Mem d0) (Int.toNat (min (↑(List.length i.Mem)) 4096)) (by omega) (by omega)) fun q2 w2=>jcg E82 Z Z clone32_ct (dc (dhi (rInput.c_Mem d0) (Int.toNat (min (↑(List.length i.Mem)) 4096)) (by omega) (by omega)) dn) kn fun v10 w3=>ja Z (jn (jx (jrt ?_))))))
 exact jrG Z Z (take_min _ 4096 _ rfl) k0
end Go.Proofs.YtehhjlkmbdhckaaGreat
