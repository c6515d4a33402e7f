/- Lemmas that the claim is made of. Conditions: each lemma names its own. -/
import Derived.Test.YtmfkkodnghambaaGreatKM0
import Derived.Shelf.Lay
import Derived.Shelf.Sort.Plain
import Derived.Shelf.Slices.In.SortNone
import Derived.Shelf.Slices.CompactI
import Derived.Shelf.Slices.Reverse
import Derived.Sort.OwnSortedInts
import Derived.Test.YtmfkkodnghambaaGreatRows
set_option linter.unusedSectionVars false
set_option linter.unusedSimpArgs false
set_option linter.unusedVariables false
namespace Go.JE
variable{P:Program}{D:List Dt}{L M Ls:List Res}{e:Env}{X:Cx}{n:Fs}{w0:World}{Q:Exit→Act→World→Prop}
section
variable{α:Type}{r:Rp α}{v:Value}{l l':List α}{F:PH}{H H':Heap}{E:TypeId}{B:Nat}
theorem hp1(h:Hp X D L F H)(hk:Tk L (gl B r E v l) M):B≤H.size:=(h.at hk).2
theorem Hp.grow{v':Value}(h:Hp X D L F H)(hk:Tk L (gl B r E v l) M)(hg:Gl r E F H' B v' l')(hb:Of H H' v.ownBlock)(ho:v'.ownBlock=v.ownBlock∨∃g,v'.ownBlock=some g∧H.size≤g):Hp X D (gl B r E v' l'::M) F H' :=
 h.set (R':=gl B r E v' l') hk ⟨hb.1,fun k h1 h2=>hb.2 k h1 (fun h3=>h2 h3.symm)⟩ ⟨hg,Nat.le_trans (hp1 h hk) hb.1⟩ fun k h1=>by
  rcases ho with ho|⟨g,ho,hg⟩
  ·exact .inr (ho.symm.trans h1)
  ·have h2:some g=some k:=ho.symm.trans h1
   injection h2 with h2;exact .inl (h2▸hg)
end
section
variable{ops:Array Oper}{d:Nat}{ty:TypeId}{pos:String}{af:Array Edge}{rest:List Oper}{v u z:Value}{x y:Operand}{T T' E:TypeId}{g o m bytes:Nat}{cs cs' ds:List Value}
theorem Cm(hx:ev e x=some v)(hv:v.cells=cs.toArray)(k:∀g,LH P n w0 ops Q X D (bx g T cs::L) ((d,.pointer (some ⟨g,0,none⟩))::e) rest)(hd:Nat.blt d n.sz=true:=by rfl):LH P n w0 ops Q X D L e (⟨some d,.box T x,ty,pos,af,none⟩::rest):=fun F H hp =>
 LF.chg (Av.boxB hx hv) (by rintro _ H' ⟨g,rfl,eg,sg,kg,hb⟩;exact k g F H' (hp.new (R:=bx g T cs) kg ⟨hb,hp.hin.nope (Nat.le_of_eq eg.symm)⟩ (fun k hk=>by have:k=g:=hk;omega))) hd
theorem Bo(hz:(P.info? T).bind (·.zero)=some z)(hv:z.cells=cs.toArray)(k:∀g,LH P n w0 ops Q X D (bx g T cs::L) ((d,.pointer (some ⟨g,0,none⟩))::e) rest)(hd:Nat.blt d n.sz=true:=by rfl):LH P n w0 ops Q X D L e (⟨some d,.alloc T,ty,pos,af,none⟩::rest):=fun F H hp =>
 LF.chg (Av.allocB hz hv) (by rintro _ H' ⟨g,rfl,eg,sg,kg,hb⟩;exact k g F H' (hp.new (R:=bx g T cs) kg ⟨hb,hp.hin.nope (Nat.le_of_eq eg.symm)⟩ (fun k hk=>by have:k=g:=hk;omega))) hd
theorem Tw.kwb{H H':Heap}(h:Tw g H H'):Kw (bx g T cs).own H H':=⟨Nat.le_of_eq h.1.symm,fun k _ h2=>h.2 k h2⟩
def St(l:List Value)(o:Nat)(v:Value)(l':List Value):Prop:=l.set o v=l'∧o<l.length
theorem s0{a:Value}{l:List Value}:St (a::l) 0 v (v::l):=⟨rfl,by simp⟩
theorem St.s{a:Value}{l l':List Value}(h:St l o v l'):St (a::l) (o+1) v (a::l'):=⟨by rw[List.set_cons_succ,h.1],by simpa using h.2⟩
theorem s1{a a0:Value}{l:List Value}:St (a0::a::l) 1 v (a0::v::l):=s0.s
theorem s2{a a0 a1:Value}{l:List Value}:St (a0::a1::a::l) 2 v (a0::a1::v::l):=s1.s
theorem s3{a a0 a1 a2:Value}{l:List Value}:St (a0::a1::a2::a::l) 3 v (a0::a1::a2::v::l):=s2.s
theorem s4{a a0 a1 a2 a3:Value}{l:List Value}:St (a0::a1::a2::a3::a::l) 4 v (a0::a1::a2::a3::v::l):=s3.s
theorem s5{a a0 a1 a2 a3 a4:Value}{l:List Value}:St (a0::a1::a2::a3::a4::a::l) 5 v (a0::a1::a2::a3::a4::v::l):=s4.s
theorem s6{a a0 a1 a2 a3 a4 a5:Value}{l:List Value}:St (a0::a1::a2::a3::a4::a5::a::l) 6 v (a0::a1::a2::a3::a4::a5::v::l):=s5.s
theorem s7{a a0 a1 a2 a3 a4 a5 a6:Value}{l:List Value}:St (a0::a1::a2::a3::a4::a5::a6::a::l) 7 v (a0::a1::a2::a3::a4::a5::a6::v::l):=s6.s
theorem s8{a a0 a1 a2 a3 a4 a5 a6 a7:Value}{l:List Value}:St (a0::a1::a2::a3::a4::a5::a6::a7::a::l) 8 v (a0::a1::a2::a3::a4::a5::a6::a7::v::l):=s7.s
theorem s9{a a0 a1 a2 a3 a4 a5 a6 a7 a8:Value}{l:List Value}:St (a0::a1::a2::a3::a4::a5::a6::a7::a8::a::l) 9 v (a0::a1::a2::a3::a4::a5::a6::a7::a8::v::l):=s8.s
theorem s10{a a0 a1 a2 a3 a4 a5 a6 a7 a8 a9:Value}{l:List Value}:St (a0::a1::a2::a3::a4::a5::a6::a7::a8::a9::a::l) 10 v (a0::a1::a2::a3::a4::a5::a6::a7::a8::a9::v::l):=s9.s
theorem s11{a a0 a1 a2 a3 a4 a5 a6 a7 a8 a9 a10:Value}{l:List Value}:St (a0::a1::a2::a3::a4::a5::a6::a7::a8::a9::a10::a::l) 11 v (a0::a1::a2::a3::a4::a5::a6::a7::a8::a9::a10::v::l):=s10.s
theorem jst(hk:Tk L (bx g T cs) M)(hT:Sz P T' 1)(hx:ev e x=some (.pointer (some ⟨g,o,none⟩)))(hy:ev e y=some v)(h1:v.oneCell'=true)(hs:St cs o v cs')(k:LH P n w0 ops Q X D (bx g T cs'::M) e rest):LH P n w0 ops Q X D L e (⟨none,.store T' x y,ty,pos,af,none⟩::rest):=fun F H hp =>
 LF.chg0 (Av.storeB (hp.at hk).1 hT hx hy h1 hs.2) (by rintro _ H' ⟨t,b⟩;exact k F H' (hp.set (R':=bx g T cs') hk t.kwb ⟨hs.1▸b,(hp.at hk).2⟩ (fun k h => .inr h)))
def Sta(l:List Value)(o:Nat)(c l':List Value):Prop:=Jc l o c=l'∧o+c.length≤l.length
theorem J7{a:Value}:∀(c l:List Value) (o:Nat),Jc (a::l) (o+1) c=a::Jc l o c
 | [],_,_=>rfl
 | v::c,l,o=>by show Jc ((a::l).set (o+1) v) (o+1+1) c=_;rw[List.set_cons_succ,J7 c];rfl
theorem sa{l:List Value}:Sta l 0 [] l:=⟨rfl,by simp⟩
theorem Sta.c{a b:Value}{l c l':List Value}(h:Sta l 0 c l'):Sta (a::l) 0 (b::c) (b::l'):=⟨by show Jc ((a::l).set 0 b) (0+1) c=_;rw[List.set_cons_zero,J7,h.1],by have:=h.2;simp at this ⊢;omega⟩
theorem saf:∀{l c:List Value} (_:c.length=l.length),Sta l 0 c c
 | [],[],_=>sa
 | _::_,_::_,h=>(saf (by simpa using h)).c
 | [],_::_,h=>by cases h
 | _::_,[],h=>by cases h
theorem Bk(hk:Tk L (bx g T cs) M)(hT:Sz P T' m)(hx:ev e x=some (.pointer (some ⟨g,o,none⟩)))(hy:ev e y=some (.agg ds.toArray))(hl:ds.length=m)(h1:Oa ds)(hs:Sta cs o ds cs')(k:LH P n w0 ops Q X D (bx g T cs'::M) e rest):LH P n w0 ops Q X D L e (⟨none,.store T' x y,ty,pos,af,none⟩::rest):=fun F H hp =>
 LF.chg0 (Av.storeBA (hp.at hk).1 hT hx hy hl h1.mem (hl▸hs.2)) (by rintro _ H' ⟨t,b⟩;exact k F H' (hp.set (R':=bx g T cs') hk t.kwb ⟨hs.1▸b,(hp.at hk).2⟩ (fun k h => .inr h)))
end
section
variable{ops:Array Oper}{d d2:Nat}{ty ty2:TypeId}{pos pos2:String}{af af2:Array Edge}{rest:List Oper}{v u z:Value}{x y:Operand}{T T' E:TypeId}{i m bytes B:Nat}{α:Type}{r:Rp α}{l:List α}{a:α}
theorem jnl(k:LH P n w0 ops Q X D (gl X.n r E (.slice none 0 0) []::L) e rest):LH P n w0 ops Q X D L e rest:=fun F H hp=>k F H (hp.new (R:=gl X.n r E (.slice none 0 0) []) (Kp.refl _ _) ⟨Gl.nil _ _ _,hp.hw.1⟩ (fun k h=>by cases h))
theorem cnl{c:Code}(k:CH P n w0 Q X D (gl X.n r E (.slice none 0 0) []::L) e c):CH P n w0 Q X D L e c:=fun F H hp=>k F H (hp.new (R:=gl X.n r E (.slice none 0 0) []) (Kp.refl _ _) ⟨Gl.nil _ _ _,hp.hw.1⟩ (fun k h=>by cases h))
theorem qnl{z:Exit}(k:QH n w0 Q X D (gl X.n r E (.slice none 0 0) []::L) e z):QH n w0 Q X D L e z:=fun F H hp=>k F H (hp.new (R:=gl X.n r E (.slice none 0 0) []) (Kp.refl _ _) ⟨Gl.nil _ _ _,hp.hw.1⟩ (fun k h=>by cases h))
theorem Hp.newG{F:PH}{H H':Heap}(hp:Hp X D L F H)(kg:Kp H.size H H')(hb:InH F H→Gl r E F H' H.size v l):Hp X D (gl X.n r E v l::L) F H' :=
 hp.new (R:=gl X.n r E v l) kg ⟨(hb hp.hin).base hp.hw.1,Nat.le_trans hp.hw.1 kg.1⟩ (fun k hk=>((hb hp.hin).blk k hk).1)
theorem jmk{I J:Int}(hT:P.underlying T=some (.slice E))(hE:(P.info? E).map (fun i=>(i.zero,i.size,i.bytes))=some (some z,1,bytes))(hz:z.cells=#[z])(hx:ev e x=some (.int .i64 I))(hy:ev e y=some (.int .i64 J))(hI:I=m)(hJ:J=m)(h1:bytes*m≤281474976710656∧m≤140737488355328)(hok:Nd D L (dv r z a))(hs:r.sz=1)
  (k:∀g,LH P n w0 ops Q X D (gl X.n r E (.slice (some ⟨g,0,none⟩) m m) (List.replicate m a)::L) ((d,.slice (some ⟨g,0,none⟩) m m)::e) rest) (hd:Nat.blt d n.sz=true:=by rfl):LH P n w0 ops Q X D L e (⟨some d,.makeSlice T x y,ty,pos,af,none⟩::rest):=fun F H hp =>
 LF.chg (Av.makeL (F:=F) (r:=r) (n:=m) (a:=a) hT hE hz hx hy hI hJ h1.1 h1.2 (hok F H hp.hin hp.hd hp.ok) hs) (by rintro _ H' ⟨g,rfl,eg,sg,kg,hb⟩;exact k g F H' (hp.newG kg hb)) hd
theorem Hz.up{F G:PH}(hl:F.le G):∀{l:List α} {us:List Value} {cs:List (List Value)},Hz r F l us cs→Hz r G l us cs
 | [],[],[],h=>h
 | _::_,_::_,_::_,h=>⟨h.1,h.2.1,Rp.up _ hl h.2.2.1,Hz.up hl h.2.2.2⟩
 | [],_::_,_,h=>h.elim
 | [],[],_::_,h=>h.elim
 | _::_,[],_,h=>h.elim
 | _::_,_::_,[],h=>h.elim
def Pu(r:Rp α)(l:List α)(us:List Value)(cs:List (List Value)):Dt:=⟨fun F=>Hz r F l us cs,fun hl h=>Hz.up hl h⟩
theorem ln:Nd D L (Pu r [] [] []):=fun _ _ _ _ _=>trivial
theorem lA{us c:List Value}{cs:List (List Value)}(h:Nd D L (da r (.agg c.toArray) a))(h':Nd D L (Pu r l us cs)):Nd D L (Pu r (a::l) (.agg c.toArray::us) (c::cs)):=fun F H p q s=>by
 obtain⟨l',e,h1,h2⟩:=h F H p q s
 injection e with e;have e:c=l':=by simpa using e
 subst e;exact⟨rfl,h1,h2,h' F H p q s⟩
theorem lV{u:Value}{us:List Value}{cs:List (List Value)}(hs:r.sz=1)(h1:u.oneCell'=true)(h:Nd D L (dv r u a))(h':Nd D L (Pu r l us cs)):Nd D L (Pu r (a::l) (u::us) ([u]::cs)):=fun F H p q s =>
 ⟨BR h1,hs.symm,r.ext (fun j hj=>by rw[show j=0 by omega];rfl) (h F H p q s),h' F H p q s⟩
theorem Bg{ys:List (Nat×Operand)}{us:List Value}{cs:List (List Value)}(hT:P.underlying T=some (.slice E))(hE:(P.info? E).map (fun i=>(i.zero,i.size,i.bytes))=some (some z,r.sz,bytes))(hm:m≤1000∧0<r.sz∧r.sz≤1000)(hz:z.cells.size=r.sz)(hr:evs e ys=some ((us.zipIdx 0).map fun p=>(p.2,p.1)))(hlm:l.length=m)
  (hok:Nd D L (Pu r l us cs))
  (k:∀g,LH P n w0 ops Q X D (gl X.n r E (.slice (some ⟨g,0,none⟩) m m) l::L) ((d,.slice (some ⟨g,0,none⟩) m m)::e) rest) (hd:Nat.blt d n.sz=true:=by rfl):LH P n w0 ops Q X D L e (⟨some d,.buildSlice T m ys.toArray,ty,pos,af,none⟩::rest):=fun F H hp =>
 LF.chg (Av.litL (F:=F) hT hE hm hz hr hlm (hok F H hp.hin hp.hd hp.ok)) (by rintro _ H' ⟨g,rfl,eg,sg,kg,hb⟩;exact k g F H' (hp.newG kg hb)) hd
theorem jsg(hk:Tk L (gl B r E v l) M)(hs:r.sz=1)(hT:Sz P T 1)(hx:ev e x=some (.pointer (some ⟨Cb v,Ca v+i*1,none⟩)))(hy:ev e y=some u)(h1:u.oneCell'=true)(hi:i<l.length)(hok:Nd D L (dv r u a))
  (k:LH P n w0 ops Q X D (gl B r E v (l.set i a)::M) e rest):LH P n w0 ops Q X D L e (⟨none,.store T x y,ty,pos,af,none⟩::rest):=fun F H hp =>
 LF.chg0 (Av.storeG (hp.at hk).1 hs hT hx hy h1 hi (hok F H hp.hin hp.hd hp.ok)) (by
  rintro _ H' ⟨g,hg,t,hb⟩
  exact k F H' (hp.set (R':=gl B r E v (l.set i a)) hk ⟨Nat.le_of_eq t.1.symm,fun k _ h2=>t.2 k (fun e1=>h2 (e1▸hg))⟩ ⟨hb,by rw[t.1];exact hp1 hp hk⟩ (fun k h => .inr h)))
theorem jap{lc:List Value}(hT:P.underlying T=some (.slice E))(hE:(P.info? E).map (fun i=>(i.zero,i.size,i.bytes))=some (some z,r.sz,bytes))(hs:0<r.sz∧r.sz≤1000∧bytes≤8192)(hz:z.cells.size=r.sz)
  (hk:Tk L (gl B r E v l) M) (hy:ev e y=some (.agg lc.toArray)) (hra:Nd D L (da r (.agg lc.toArray) a)) (hb:l.length<4294967295) (hx:∀w,ev ((d,w)::e) x=some v)
  (k:∀v' g,Sv v'→LH P n w0 ops Q X D (gl B r E v' (l++[a])::M) ((d2,v')::(d,.slice (some ⟨g,0,none⟩) 1 1)::e) rest) (hd1:Nat.blt d n.sz=true:=by rfl) (hd2:Nat.blt d2 n.sz=true:=by rfl) :
  LH P n w0 ops Q X D L e (⟨some d,.buildSlice T 1 #[(0,y)],ty,pos,af,none⟩::⟨some d2,.call { callee := .builtin .append,args:=#[x,.tmp d],argTypes:=#[T,T] },ty2,pos2,af2,none⟩::rest):=fun F H hp =>
 LF.appA hT hE hs hz hy (hra F H hp.hin hp.hd hp.ok) (hp.at hk).1 hp.hin hb (hx _) (fun v' H' h1 h2 _ h3=>k v' _ (Gl.sv h1) F H' (hp.grow hk h1 h2 h3)) (hp1 hp hk) hd1 hd2
theorem Gk(hT:P.underlying T=some (.slice E))(hE:(P.info? E).map (fun i=>(i.zero,i.size,i.bytes))=some (some z,r.sz,bytes))(hs:0<r.sz∧r.sz≤1000∧bytes≤8192)(hz:z.cells.size=r.sz)(hs1:r.sz=1)
  (hk:Tk L (gl B r E v l) M) (hy:ev e y=some u) (hra:Nd D L (dv r u a)) (hb:l.length<4294967295) (hx:∀w,ev ((d,w)::e) x=some v)
  (k:∀v' g,Sv v'→LH P n w0 ops Q X D (gl B r E v' (l++[a])::M) ((d2,v')::(d,.slice (some ⟨g,0,none⟩) 1 1)::e) rest) (hd1:Nat.blt d n.sz=true:=by rfl) (hd2:Nat.blt d2 n.sz=true:=by rfl) :
  LH P n w0 ops Q X D L e (⟨some d,.buildSlice T 1 #[(0,y)],ty,pos,af,none⟩::⟨some d2,.call { callee := .builtin .append,args:=#[x,.tmp d],argTypes:=#[T,T] },ty2,pos2,af2,none⟩::rest):=fun F H hp =>
 LF.appV hT hE hs hz hs1 hy (hra F H hp.hin hp.hd hp.ok) (hp.at hk).1 hp.hin hb (hx _) (fun v' H' h1 h2 _ h3=>k v' _ (Gl.sv h1) F H' (hp.grow hk h1 h2 h3)) (hp1 hp hk) hd1 hd2
theorem Dl{w2:Value}{m:List α}{N:Nat}(hT:P.underlying T=some (.slice E))(hE:(P.info? E).map (fun i=>(i.zero,i.size,i.bytes))=some (some z,r.sz,bytes))(hs:0<r.sz∧r.sz≤1000∧bytes≤8192)(hz:z.cells.size=r.sz)
  (hk:Tk L (gl B r E v l) M) (hx:ev e x=some v) (hy:ev e y=some w2) (hm:Nd D L (dv (rLn N r) w2 m)) (hb:l.length+m.length<4294967296)
  (k:∀v',Sv v'→LH P n w0 ops Q X D (gl B r E v' (l++m)::M) ((d,v')::e) rest) (hd1:Nat.blt d n.sz=true:=by rfl) :
  LH P n w0 ops Q X D L e (⟨some d,.call { callee := .builtin .append,args:=#[x,y],argTypes:=#[T,T] },ty,pos,af,none⟩::rest):=fun F H hp =>
 LF.chg (Av.appL hT hE hs hz hx hy (hp.at hk).1 (hm F H hp.hin hp.hd hp.ok) hp.hin hb (hp1 hp hk)) (by rintro v' H' ⟨h1,h2,h3⟩;exact k v' (Gl.sv h1) F H' (hp.grow hk h1 h2 (S4 h3))) hd1
theorem OM(hT:P.underlying T=some (.slice E))(hE:(P.info? E).map (fun i=>(i.zero,i.size,i.bytes))=some (some z,r.sz,bytes))(hs:0<r.sz∧r.sz≤1000∧bytes≤8192)(hz:z.cells.size=r.sz)(hs1:r.sz=1)
 (hk:Tk L (gl B r E v []) M) (hy:ev e y=some u) (hra:Nd D L (dv r u a)) (hx:∀w,ev ((d,w)::e) x=some v)
 (k:∀v' g,Sv v'→LH P n w0 ops Q X D (gl B r E v' [a]::M) ((d2,v')::(d,.slice (some ⟨g,0,none⟩) 1 1)::e) rest) (hd1:Nat.blt d n.sz=true:=by rfl) (hd2:Nat.blt d2 n.sz=true:=by rfl) :
 LH P n w0 ops Q X D L e (⟨some d,.buildSlice T 1 #[(0,y)],ty,pos,af,none⟩::⟨some d2,.call { callee := .builtin .append,args:=#[x,.tmp d],argTypes:=#[T,T] },ty2,pos2,af2,none⟩::rest):=Gk hT hE hs hz hs1 hk hy hra (Nat.lt_of_sub_eq_succ rfl) hx k hd1 hd2
theorem Hd{w2:Value}{m:List α}{N:Nat}(hT:P.underlying T=some (.slice E))(hE:(P.info? E).map (fun i=>(i.zero,i.size,i.bytes))=some (some z,r.sz,bytes))(hs:0<r.sz∧r.sz≤1000∧bytes≤8192)(hz:z.cells.size=r.sz)
 (hk:Tk L (gl B r E v []) M) (hx:ev e x=some v) (hy:ev e y=some w2) (hm:Nd D L (dv (rLn N r) w2 m)) (hb:m.length<4294967296)
 (k:∀v',Sv v'→LH P n w0 ops Q X D (gl B r E v' m::M) ((d,v')::e) rest) (hd1:Nat.blt d n.sz=true:=by rfl) :
 LH P n w0 ops Q X D L e (⟨some d,.call { callee := .builtin .append,args:=#[x,y],argTypes:=#[T,T] },ty,pos,af,none⟩::rest):=Dl hT hE hs hz hk hx hy hm (by simpa using hb) k hd1
theorem Hp.freeze{F:PH}{H:Heap}{N:Nat}(hp:Hp X D L F H)(hk:Tk L (gl X.n r E v l) M)(hM:l.length<N):∃G,Hp X (dv (rLn N r) v l::D) M G H:=by
 obtain⟨o1,o2,o3⟩:=hk.ok hp.ok
 have o1':Gl r E F H X.n v l:=o1.1
 obtain⟨G,h1,h2,h3,h4,h5⟩:=o1'.freeze (N:=N) hp.hin hM
 have h6:∀k,Own M k→G k=F k:=fun k hk1=>h4 k (fun e1=>o2 k e1 hk1)
 exact⟨G,⟨⟨hp.hx.1.trans h1,fun k hk1=>(h3 k hk1).trans (hp.hx.2 k hk1)⟩,h2,hp.hw,⟨h5,hp.hd.up h1⟩,o3.st h1 (Nat.le_refl _) (fun k hk1=>(h6 k hk1).trans (o3.no hk1)) (fun _ _=>rfl),fun k hk1=>hp.ge k (hk.own (.inr hk1))⟩⟩
theorem jfz(hk:Tk L (gl X.n r E v l) M)(hM:l.length<1073741824)(k:LH P n w0 ops Q X (dv (rL r) v l::D) M e rest):LH P n w0 ops Q X D L e rest:=fun F H hp=>by
 obtain⟨G,h⟩:=hp.freeze hk hM;exact k G H h
theorem qfz{x:Exit}(hk:Tk L (gl X.n r E v l) M)(hM:l.length<1073741824)(k:QH n w0 Q X (dv (rL r) v l::D) M e x):QH n w0 Q X D L e x:=fun F H hp=>by
 obtain⟨G,h⟩:=hp.freeze hk hM;exact k G H h
end
end Go.JE
namespace Go.JE
variable{P:Program}{D D0:List Dt}{L M Ls L0:List Res}{e:Env}{X:Cx}{n:Fs}{w0:World}{Q:Exit→Act→World→Prop}
def Ap{α:Type}(A M N:List α):Prop:=A++M=N
section
variable{α:Type}{a b c d f g:α}{M:List α}
theorem p0:Ap [] M M:=rfl
theorem p1:Ap [a] M (a::M):=rfl
theorem p2:Ap [a,b] M (a::b::M):=rfl
theorem p3:Ap [a,b,c] M (a::b::c::M):=rfl
theorem p4:Ap [a,b,c,d] M (a::b::c::d::M):=rfl
theorem p5:Ap [a,b,c,d,f] M (a::b::c::d::f::M):=rfl
theorem p6:Ap [a,b,c,d,f,g] M (a::b::c::d::f::g::M):=rfl
end
abbrev Tv(P:Program)(f:FuncId)(args:Array Value)(D0:List Dt)(L0:List Res)(v:Value):Prop:=Tr P f args D0 L0 (fun _:Unit=>v) (fun _=>[]) (fun _ _=>[])
abbrev Td{α:Type}(P:Program)(f:FuncId)(args:Array Value)(D0:List Dt)(L0:List Res)(r:Rp α)(a:α):Prop:=Tr P f args D0 L0 (fun v:Value=>v) (fun v=>[dv r v a]) (fun _ _=>[])
abbrev Tg{α:Type}(P:Program)(f:FuncId)(args:Array Value)(D0:List Dt)(L0:List Res)(r:Rp α)(T:TypeId)(a:List α):Prop:=Tr P f args D0 L0 (fun v:Value=>v) (fun _=>[]) (fun B v=>[gl B r T v a])
section
variable{ops:Array Oper}{d:Nat}{ty:TypeId}{pos:String}{af:Array Edge}{rest:List Oper}{f:FuncId}{g:Operand}{xs:List Operand}{vs cs:List Value}{ts:Array TypeId}{ι:Type}{val:ι→Value}{dr:ι→List Dt}{lr:Nat→ι→List Res}{Dn:ι→List Dt}{Ln:ι→List Res}{v:Value}{args0:Array Value}
theorem Tr.run{F:PH}{H:Heap}{args:Array Value}(h:Tr P f args D0 L0 val dr lr)(hp:Hp X D L F H)(hd:Sd D L D0)(hk:Tks L L0 M):Ct P f args H (fun v H'=>∃i F',v=val i∧Hp X (dr i++D) (lr X.n i++M) F' H') :=
 (h F H hp.hin (hd F H hp.hin hp.hd hp.ok) (hk.ok hp.ok).1).mono fun v H' ⟨i,F',h1,h2⟩=>⟨i,F',h1,(fun h2=>hp.frame hk h2.hx h2.hin h2.hw h2.hd h2.ok h2.ge) (h2 X.n hp.hw.1)⟩
theorem Tr.fr{L1 M1:List Res}(h:Tr P f args0 D0 L0 val dr lr)(hk:Tks L1 L0 M1):Tr P f args0 D0 L1 val dr (fun B i=>lr B i++M1):=fun F H hin hd ho =>
 (h F H hin hd (hk.ok ho).1).mono fun v H' ⟨i,F',h1,h2⟩=>⟨i,F',h1,fun B hB=>by
  have h3:=(⟨PH.ext.refl F,hin,Kw.refl _ _,hd,ho,fun k hk => .inr hk⟩:Hp ⟨Own L1,H,F⟩ D0 L1 F H)
  have h4:=h2 B hB
  have h5:=h3.frame hk h4.hx h4.hin h4.hw h4.hd h4.ok h4.ge
  exact⟨h5.hx,h5.hin,h5.hw,h4.hd,h5.ok,h5.ge⟩⟩
theorem jc(hE:Ent P f)(hf:ev e g=some (.func (.func f) #[] cs.toArray))(hl:evl e xs=some vs)(hT:Tr P f (vs++cs).toArray D0 L0 val dr lr)(hd:Sd D L D0)(hk:Tks L L0 M)(hp:∀i,Ap (dr i) D (Dn i))(hq:∀i,Ap (lr X.n i) M (Ln i))
  (k:∀i,LH P n w0 ops Q X (Dn i) (Ln i) ((d,val i)::e) rest) (hd1:Nat.blt d n.sz=true:=by rfl):LH P n w0 ops Q X D L e (⟨some d,.call { callee := .value g,args:=xs.toArray,argTypes:=ts },ty,pos,af,none⟩::rest):=fun F H h =>
 LF.call (Iv.fnc hE hf hl) (hT.run h hd hk) (by rintro _ H' ⟨i,F',rfl,h2⟩;exact k i F' H' (hp i▸hq i▸h2)) hd1
theorem jcv(hE:Ent P f)(hf:ev e g=some (.func (.func f) #[] cs.toArray))(hl:evl e xs=some vs)(hT:Tv P f (vs++cs).toArray D0 L0 v)(hd:Sd D L D0)(hk:Tks L L0 M)
 (k:LH P n w0 ops Q X D M ((d,v)::e) rest) (hd1:Nat.blt d n.sz=true:=by rfl):LH P n w0 ops Q X D L e (⟨some d,.call { callee := .value g,args:=xs.toArray,argTypes:=ts },ty,pos,af,none⟩::rest):=jc hE hf hl hT hd hk (fun _=>rfl) (fun _=>rfl) (fun _=>k) hd1
theorem jcd{α:Type}{r:Rp α}{N:Nat}{a:List α}(hE:Ent P f)(hf:ev e g=some (.func (.func f) #[] cs.toArray))(hl:evl e xs=some vs)(hT:Td P f (vs++cs).toArray D0 L0 (rLn N r) a)(hd:Sd D L D0)(hk:Tks L L0 M)
  (k:∀v,Qn N a.length→Sv v→LH P n w0 ops Q X (dv (rLn N r) v a::D) M ((d,v)::e) rest) (hd1:Nat.blt d n.sz=true:=by rfl):LH P n w0 ops Q X D L e (⟨some d,.call { callee := .value g,args:=xs.toArray,argTypes:=ts },ty,pos,af,none⟩::rest) :=
 jc hE hf hl hT hd hk (fun _=>rfl) (fun _=>rfl) (fun v=>jdq d0 (k v)) hd1
theorem jcg{α:Type}{r:Rp α}{T:TypeId}{a:List α}(hE:Ent P f)(hf:ev e g=some (.func (.func f) #[] cs.toArray))(hl:evl e xs=some vs)(hT:Tg P f (vs++cs).toArray D0 L0 r T a)(hd:Sd D L D0)(hk:Tks L L0 M)
  (k:∀v,Sv v→LH P n w0 ops Q X D (gl X.n r T v a::M) ((d,v)::e) rest) (hd1:Nat.blt d n.sz=true:=by rfl):LH P n w0 ops Q X D L e (⟨some d,.call { callee := .value g,args:=xs.toArray,argTypes:=ts },ty,pos,af,none⟩::rest) :=
 jc hE hf hl hT hd hk (fun _=>rfl) (fun _=>rfl) (fun v=>jgo k0 (k v)) hd1
theorem jgc{j t:Nat}{want B:Bool}{u:Value}{N:List Res}(hj:(ops[j]?).bind (·.dst)=some t)(hu:lk e t=some u)(hB:Gd u want B)(hE:Ent P f)(hf:ev e g=some (.func (.func f) #[] cs.toArray))(hl:B=true→evl e xs=some vs)(hT:B=true→Tr P f (vs++cs).toArray D0 L0 (fun _:Unit=>v) (fun _=>[]) (fun _ _=>L0))(hd:B=true→Sd D L D0)(hk:Tks L L0 M)(hq:Ap L0 M N)
  (k:LH P n w0 ops Q X D N ((d,gv B v)::e) rest) (hd1:Nat.blt d n.sz=true:=by rfl) (ht:Nat.blt t n.sz=true:=by rfl):LH P n w0 ops Q X D L e (⟨some d,.call { callee := .value g,args:=xs.toArray,argTypes:=ts },ty,pos,af,some (j,want)⟩::rest):=fun F H h=>by
 refine LF.gcallF hj hu hB (fun hb=>Iv.fnc hE hf (hl hb)) (fun hb=>(hT hb).run h (hd hb) hk) (fun v' H' hz=>?_) hd1 ht
 rcases hz with⟨hb,i,F',rfl,h2⟩|⟨hb,rfl⟩
 ·exact k F' H' (hq▸h2)
 ·subst hb
  refine k F H' (hq▸⟨h.hx,h.hin,h.hw,h.hd,?_,fun k h1=>h.ge k (hk.own (Own.app.1 h1))⟩)
  obtain⟨a,b,c⟩:=hk.ok h.ok
  exact Ok.app a b c
end
section
variable{f:FuncId}{args:Array Value}{α β:Type}{r:Rp α}{T T2:TypeId}{v x:Value}{l:List α}{N B:Nat}
theorem Hp.less{F G F':PH}{H H':Heap}{W:Nat→Prop}{D L}(h:Hp ⟨W,H,G⟩ D L F' H')(hin:InH F H)(hl:F.le G):PH.ext H F F∧InH F H'∧Kw W H H':=⟨PH.ext.refl F,h.hin.down (hl.trans h.hx.1),h.hw⟩
theorem Tv.temp(N:Nat)(h:Tv P f args (dv (rLn N r) v l::D0) [] x)(hN:l.length<N):Tr P f args D0 [gl B r T v l] (fun _:Unit=>x) (fun _=>[]) (fun _ _=>[gl B r T v l]):=fun F H hin hd ho=>by
 obtain⟨G,g1,g2,g3,g4,g5⟩:=ho.1.1.freeze (N:=N) hin hN
 refine(h G H g2 ⟨g5,hd.up g1⟩ trivial).mono ?_
 rintro _ H' ⟨i,F',rfl,h2⟩
 refine⟨i,F,rfl,fun B' hB=>?_⟩
 have h3:=h2 0 (Nat.zero_le _)
 obtain⟨a,b,c⟩:=h3.less hin g1
 refine⟨a,b,⟨c.1,fun k hk hn=>c.2 k hk id⟩,trivial,⟨⟨ho.1.1.of fun k hk=>c.2 k (ho.1.1.lt k hk) id,Nat.le_trans ho.1.2 c.1⟩,fun _ _=>id,trivial⟩,fun k hk => .inr hk⟩
theorem Tr.dd{D2:List Dt}{L0:List Res}{ι:Type}{val:ι→Value}{dr:ι→List Dt}{lr:Nat→ι→List Res}(h:Tr P f args D0 L0 val dr lr)(hd:∀{F:PH},AllD F D2→AllD F D0):Tr P f args D2 L0 val dr lr:=fun F H hin hD ho=>h F H hin (hd hD) ho
end
section
variable{fn:Func}{m:Nat}{ι:Type}{val:ι→Value}{dr:ι→List Dt}{lr:Nat→ι→List Res}{t u z:Nat}{v v' v'':Value}
theorem jr1(hr:fn.results=#[.tmp t])(hv:lk e t=some v)(i:ι)(hm:v=val i)(hd:Sd D L (dr i))(hk:∀B,B≤X.n→Tks L (lr B i) M):QH ⟨m,[]⟩ w0 (RQ2 P fn w0 X val dr lr) X D L e .ret:=fun F H hp=>PF.ret1 hr hv ⟨i,F,hm,fun B hB=>hp.sub hd (hk B hB)⟩
theorem jr0(hr:fn.results=#[])(i:ι)(hm : .tuple #[]=val i)(hd:Sd D L (dr i))(hk:∀B,B≤X.n→Tks L (lr B i) M):QH ⟨m,[]⟩ w0 (RQ2 P fn w0 X val dr lr) X D L e .ret:=fun F H hp=>PF.ret0 hr ⟨i,F,hm,fun B hB=>hp.sub hd (hk B hB)⟩
theorem jd0(hr:fn.results=#[])(i:ι)(hm : .tuple #[]=val i)(hd:Sd D L (dr i))(hk:∀B,B≤X.n→Tks L (lr B i) M):QH ⟨m,[]⟩ w0 (RQ2 P fn w0 X val dr lr) X D L e .normal:=fun F H hp=>PF.end0 hr ⟨i,F,hm,fun B hB=>hp.sub hd (hk B hB)⟩
theorem jr2(hr:fn.results=#[.tmp t,.tmp u])(hv:lk e t=some v)(hv':lk e u=some v')(i:ι)(hm : .tuple #[v,v']=val i)(hd:Sd D L (dr i))(hk:∀B,B≤X.n→Tks L (lr B i) M):QH ⟨m,[]⟩ w0 (RQ2 P fn w0 X val dr lr) X D L e .ret:=fun F H hp=>PF.ret2 hr hv hv' ⟨i,F,hm,fun B hB=>hp.sub hd (hk B hB)⟩
theorem jrc{p g:Nat}{ty T:TypeId}{cs:List Value}{N:List Res}(hr:fn.results=#[.cell p ty])(hv:lk e p=some (.pointer (some ⟨g,0,none⟩)))(hb:Tk L (bx g T cs) N)(hA:Ag9 P ty)(hS:Sz P ty cs.length)
 (i:ι) (hm : .agg cs.toArray=val i) (hd:Sd D L (dr i)) (hk:∀B,B≤X.n→Tks L (lr B i) M):QH ⟨m,[]⟩ w0 (RQ2 P fn w0 X val dr lr) X D L e .ret:=fun F H hp=>PF.retC hr hv (hp.at hb).1 hA hS ⟨i,F,hm,fun B hB=>hp.sub hd (hk B hB)⟩
theorem jrI{k:IntKind}{a b:Int}(hr:fn.results=#[.tmp t])(hv:lk e t=some (.int k b))(hm:a=b):QH ⟨m,[]⟩ w0 (RQ2 P fn w0 X (fun _:Unit => .int k a) (fun _=>[]) (fun _ _=>[])) X D L e .ret:=jr1 hr hv () (by rw[hm]) dn (fun _ _=>kn)
theorem jrB{a b:Bool}(hr:fn.results=#[.tmp t])(hv:lk e t=some (.bool b))(hm:a=b):QH ⟨m,[]⟩ w0 (RQ2 P fn w0 X (fun _:Unit => .bool a) (fun _=>[]) (fun _ _=>[])) X D L e .ret:=jr1 hr hv () (by rw[hm]) dn (fun _ _=>kn)
theorem jrD{α:Type}{r:Rp α}{a b:α}(hr:fn.results=#[.tmp t])(hv:lk e t=some v)(hm:a=b)(hd:Nd D L (dv r v b)):QH ⟨m,[]⟩ w0 (RQ2 P fn w0 X (fun v:Value=>v) (fun v=>[dv r v a]) (fun _ _=>[])) X D L e .ret:=jr1 hr hv v rfl (dc (BF hm hd) dn) (fun _ _=>kn)
theorem kl{α:Type}{r:Rp α}{T:TypeId}{B:Nat}{l:List α}{N:List Res}(hB:B≤X.n)(h:Tk L (gl X.n r T v l) M)(h':Tks M Ls N):Tks L (gl B r T v l::Ls) N where
 ok:=fun o=>by
  obtain⟨⟨a,b,c⟩,x,y⟩:=(kc h h').ok o
  exact⟨⟨⟨a.1.base hB,Nat.le_trans hB a.2⟩,b,c⟩,x,y⟩
 own:=fun o=>(kc h h').own o
theorem klc{α:Type}{r:Rp α}{T:TypeId}{B:Nat}{l l':List α}{N:List Res}(e:l'=l)(hB:B≤X.n)(h:Tk L (gl X.n r T v l) M)(h':Tks M Ls N):Tks L (gl B r T v l'::Ls) N:=e▸kl hB h h'
theorem jrG{α:Type}{r:Rp α}{T:TypeId}{a b:List α}(hr:fn.results=#[.tmp t])(hv:lk e t=some v)(hm:a=b)(hk:Tk L (gl X.n r T v b) M):QH ⟨m,[]⟩ w0 (RQ2 P fn w0 X (fun v:Value=>v) (fun _=>[]) (fun B v=>[gl B r T v a])) X D L e .ret:=jr1 hr hv v rfl dn (fun _ hB=>klc hm hB hk kn)
end
end Go.JE
namespace Go.JE
variable{P:Program}{D D0:List Dt}{L M Ls L0:List Res}{e:Env}{X:Cx}{n:Fs}{w0:World}{Q:Exit→Act→World→Prop}
structure Sr{α β:Type}(r:Rp α)(val:α→β→Value):Prop where
 op:∀{F:PH} {v:Value} {m:α},r.ra F v m→∃c,v=val m c
theorem Ht{α:Type}{r:Rp α}{F:PH}{a:α}{g:Nat→Value}{c:Value}(hs:r.sz=1)(h:r.ok F a g)(e:g 0=c):r.rv F c a:=r.ext (fun i hi=>by rw[show i=0 by omega];exact e) h
abbrev Ts{α β:Type}(P:Program)(f:FuncId)(args:Array Value)(D0:List Dt)(L0:List Res)(r:Rp α)(val:α→β→Value)(a:α):Prop:=Tr P f args D0 L0 (fun c:β=>val a c) (fun c=>[da r (val a c) a]) (fun _ _=>[])
section
variable{ops:Array Oper}{op:Op}{d:Nat}{ty:TypeId}{pos:String}{af:Array Edge}{rest:List Oper}{K:Act→World→Prop}{α β:Type}{r:Rp α}{val:α→β→Value}{a b:α}{f:FuncId}{g:Operand}{xs:List Operand}{vs cs:List Value}{ts:Array TypeId}
theorem jA(hs:Sr r val)(h:OE P D L e op (fun v F=>(da r v a).sat F))(k:∀c,LH P n w0 ops Q X (da r (val a c) a::D) L ((d,val a c)::e) rest)(hd:Nat.blt d n.sz=true:=by rfl):LH P n w0 ops Q X D L e (⟨some d,op,ty,pos,af,none⟩::rest):=fun F H hp=>by
 obtain⟨v,h1,h2⟩:=h F H hp.hin hp.hd hp.ok
 obtain⟨c,rfl⟩:=hs.op h2
 exact LF.step h1 (k c F H (hp.datum h2)) hd
theorem jtA(hs:Sr r val)(h:OE P D L e op (fun v F=>(da r v a).sat F))(k:∀c,SH P n w0 ops K X (da r (val a c) a::D) L ((d,val a c)::e) rest)(hd:Nat.blt d n.sz=true:=by rfl):SH P n w0 ops K X D L e (⟨some d,op,ty,pos,af,none⟩::rest):=fun F H hp=>by
 obtain⟨v,h1,h2⟩:=h F H hp.hin hp.hd hp.ok
 obtain⟨c,rfl⟩:=hs.op h2
 exact LS.step h1 (k c F H (hp.datum h2)) hd
theorem jA2{val:α→Value×Value→Value}(hs:Sr r val)(h:OE P D L e op (fun v F=>(da r v a).sat F))(k:∀c0 c1,LH P n w0 ops Q X (da r (val a (c0,c1)) a::D) L ((d,val a (c0,c1))::e) rest)(hd:Nat.blt d n.sz=true:=by rfl):LH P n w0 ops Q X D L e (⟨some d,op,ty,pos,af,none⟩::rest):=jA hs h (fun c=>k c.1 c.2) hd
theorem jA4{val:α→Value×Value×Value×Value→Value}(hs:Sr r val)(h:OE P D L e op (fun v F=>(da r v a).sat F))(k:∀c0 c1 c2 c3,LH P n w0 ops Q X (da r (val a (c0,c1,c2,c3)) a::D) L ((d,val a (c0,c1,c2,c3))::e) rest)(hd:Nat.blt d n.sz=true:=by rfl):LH P n w0 ops Q X D L e (⟨some d,op,ty,pos,af,none⟩::rest):=jA hs h (fun c=>k c.1 c.2.1 c.2.2.1 c.2.2.2) hd
theorem jcs(hE:Ent P f)(hf:ev e g=some (.func (.func f) #[] cs.toArray))(hl:evl e xs=some vs)(hT:Ts P f (vs++cs).toArray D0 L0 r val a)(hd:Sd D L D0)(hk:Tks L L0 M)
  (k:∀c,LH P n w0 ops Q X (da r (val a c) a::D) M ((d,val a c)::e) rest) (hd1:Nat.blt d n.sz=true:=by rfl):LH P n w0 ops Q X D L e (⟨some d,.call { callee := .value g,args:=xs.toArray,argTypes:=ts },ty,pos,af,none⟩::rest) :=
 jc hE hf hl hT hd hk (fun _=>rfl) (fun _=>rfl) k hd1
theorem Rh{val:α→Value×Value→Value}(hE:Ent P f)(hf:ev e g=some (.func (.func f) #[] cs.toArray))(hl:evl e xs=some vs)(hT:Ts P f (vs++cs).toArray D0 L0 r val a)(hd:Sd D L D0)(hk:Tks L L0 M)(k:∀c0 c1,LH P n w0 ops Q X (da r (val a (c0,c1)) a::D) M ((d,val a (c0,c1))::e) rest)(hd1:Nat.blt d n.sz=true:=by rfl):LH P n w0 ops Q X D L e (⟨some d,.call { callee := .value g,args:=xs.toArray,argTypes:=ts },ty,pos,af,none⟩::rest):=jcs hE hf hl hT hd hk (fun c=>k c.1 c.2) hd1
theorem NX{val:α→Value×Value×Value→Value}(hE:Ent P f)(hf:ev e g=some (.func (.func f) #[] cs.toArray))(hl:evl e xs=some vs)(hT:Ts P f (vs++cs).toArray D0 L0 r val a)(hd:Sd D L D0)(hk:Tks L L0 M)(k:∀c0 c1 c2,LH P n w0 ops Q X (da r (val a (c0,c1,c2)) a::D) M ((d,val a (c0,c1,c2))::e) rest)(hd1:Nat.blt d n.sz=true:=by rfl):LH P n w0 ops Q X D L e (⟨some d,.call { callee := .value g,args:=xs.toArray,argTypes:=ts },ty,pos,af,none⟩::rest):=jcs hE hf hl hT hd hk (fun c=>k c.1 c.2.1 c.2.2) hd1
variable{fn:Func}{m t:Nat}{c:β}
theorem Ku{p g:Nat}{ty T:TypeId}{cs:List Value}(hr:fn.results=#[.cell p ty])(hv:lk e p=some (.pointer (some ⟨g,0,none⟩)))(hb:Tk L (bx g T cs) M)(hA:Ag9 P ty)(hS:Sz P ty cs.length)
  (he : .agg cs.toArray=val b c) (hm:a=b) (hd:Nd D L (da r (val b c) b)):QH ⟨m,[]⟩ w0 (RQ2 P fn w0 X (fun c:β=>val a c) (fun c=>[da r (val a c) a]) (fun _ _=>[])) X D L e .ret:=by
 subst hm;exact jrc hr hv hb hA hS c he (dc hd dn) (fun _ _=>kn)
end
section
variable{k k' k'':IntKind}{a b c:Int}{p q s:Bool}
theorem tII{x:Int×Int}(h:x=(a,b)):(.tuple #[.int k a,.int k' b]:Value) = .tuple #[.int k x.1,.int k' x.2]:=by rw[h]
theorem tIB{x:Int×Bool}(h:x=(a,p)):(.tuple #[.int k a,.bool p]:Value) = .tuple #[.int k x.1,.bool x.2]:=by rw[h]
end
end Go.JE
namespace Go.JE
variable{P:Program}{D D0:List Dt}{L M Ls L0:List Res}{e:Env}{X:Cx}{n:Fs}{w0:World}{Q:Exit→Act→World→Prop}
def im(g:Nat)(l:List (Int×Value)):Res where
 sat F H:=Im H g l∧F g=none
 own k:=k=g
 lt:=fun h e=>e▸h.1.lt
 no:=fun h e=>e▸h.2
 st:=fun _ _ h1 h2 h=>⟨h.1.of (h2 g rfl),h1 g rfl⟩
section
variable{ops:Array Oper}{op:Op}{d:Nat}{ty:TypeId}{pos:String}{af:Array Edge}{rest:List Oper}{T T' K E:TypeId}{x y z:Operand}{g:Nat}{l:List (Int×Value)}{k:Int}{v u:Value}{b:Bool}
theorem jmm(kk:∀g,LH P n w0 ops Q X D (im g []::L) ((d,.map (some g))::e) rest)(hd:Nat.blt d n.sz=true:=by rfl):LH P n w0 ops Q X D L e (⟨some d,.makeMap T none,ty,pos,af,none⟩::rest):=fun F H hp =>
 LF.chg Av.makeMapB (by rintro _ H' ⟨g,rfl,eg,sg,kg,hb⟩;exact kk g F H' (hp.new (R:=im g []) kg ⟨hb,hp.hin.nope (Nat.le_of_eq eg.symm)⟩ (fun k hk=>by have:k=g:=hk;omega))) hd
theorem Tw.kwm{H H':Heap}(h:Tw g H H'):Kw (im g l).own H H':=⟨Nat.le_of_eq h.1.symm,fun k _ h2=>h.2 k h2⟩
theorem jin{l':List (Int×Value)}(hT:P.underlying T=some (.map K E))(hK:P.underlying K=some (.int .i64))(hm:Tk L (im g l) M)(hx:ev e x=some (.map (some g)))(hi:ev e z=some (.int .i64 k))(hy:ev e y=some v)(hu:upM l k v=l')
  (kk:LH P n w0 ops Q X D (im g l'::M) e rest):LH P n w0 ops Q X D L e (⟨none,.insert T x z y,ty,pos,af,none⟩::rest):=fun F H hp =>
 LF.chg0 (Av.insert hT hK (hp.at hm).1 hx hi hy) (by rintro _ H' ⟨m,t⟩;exact kk F H' (hp.set (R':=im g l') hm t.kwm ⟨hu▸m,(hp.at hm).2⟩ (fun k h => .inr h)))
theorem jup{l':List (Int×Value)}(hT:P.underlying T=some (.map K E))(hK:P.underlying K=some (.int .i64))(hm:Tk L (im g l) M)(hx:ev e x=some (.map (some g)))(hi:ev e z=some (.int .i64 k))(hy:ev e y=some v)(hu:upM l k v=l')
  (kk:LH P n w0 ops Q X D (im g l'::M) e rest):LH P n w0 ops Q X D L e (⟨none,.mapUpdate T x z y,ty,pos,af,none⟩::rest):=fun F H hp =>
 LF.chg0 (Av.mapUpdate hT hK (hp.at hm).1 hx hi hy) (by rintro _ H' ⟨m,t⟩;exact kk F H' (hp.set (R':=im g l') hm t.kwm ⟨hu▸m,(hp.at hm).2⟩ (fun k h => .inr h)))
theorem jlk(hT:P.underlying T=some (.map K E))(hK:P.underlying K=some (.int .i64))(hz:(P.info? E).bind (·.zero)=some u)(hm:Tk L (im g l) M)(hx:ev e x=some (.map (some g)))(hi:ev e z=some (.int .i64 k)):OH P D L e (.lookup T x z false) ((lkM l k).getD u):=fun F H _ _ h=>Aa.lookup hT hK hz (hm.ok h).1.1 hx hi
theorem NM(hT:P.underlying T=some (.map K E))(hK:P.underlying K=some (.int .i64))(hz:(P.info? E).bind (·.zero)=some u)(hm:Tk L (im g l) M)(hx:ev e x=some (.map (some g)))(hi:ev e z=some (.int .i64 k)):OH P D L e (.lookup T x z true) (.tuple #[(lkM l k).getD u,.bool (lkM l k).isSome]):=fun F H _ _ h=>Aa.lookupOk hT hK hz (hm.ok h).1.1 hx hi
theorem jfk{p:Value→Prop}(h:∃v,OH P D L e op v∧p v)(kk:∀v,p v→LH P n w0 ops Q X D L ((d,v)::e) rest)(hd:Nat.blt d n.sz=true:=by rfl):LH P n w0 ops Q X D L e (⟨some d,op,ty,pos,af,none⟩::rest):=by
 obtain⟨v,h1,h2⟩:=h;exact js h1 (kk v h2) hd
theorem jeb{r:Bool→Prop}(h:OE P D L e op (fun v _=>∃b,v = .bool b∧r b))(kk:∀b,r b→LH P n w0 ops Q X D L ((d,.bool b)::e) rest)(hd:Nat.blt d n.sz=true:=by rfl):LH P n w0 ops Q X D L e (⟨some d,op,ty,pos,af,none⟩::rest):=fun F H hp=>by
 obtain⟨v,h1,b,rfl,h2⟩:=h F H hp.hin hp.hd hp.ok;exact LF.step h1 (kk b h2 F H hp) hd
theorem NQ{α:Type}{r:Rp α}{N:Nat}{l:List α}(hT:P.underlying T=some (.slice E))(hs:Nd D L (dv (rLn N r) v l))(hx:ev e x=some v)(hy:ev e y=some (.slice none 0 0))(hr:0<r.sz:=by exact Nat.le_of_ble_eq_true rfl):OE P D L e (.binOp .eql T x y T') (fun v _=>∃b,v = .bool b∧(b=true→l=[])):=fun F H h1 h2 h3=>by
 obtain⟨u,h4,b,h5,h6⟩:=Aa.eqlNilS (T':=T') (H:=H) hT (hs F H h1 h2 h3) hr hx hy
 exact⟨u,h4,b,h5,h6⟩
end
section
variable{ops:Array Oper}{d d2:Nat}{ty ty2:TypeId}{pos pos2:String}{af af2:Array Edge}{rest:List Oper}{v u z:Value}{x y lx:Operand}{T E:TypeId}{i bytes B lo:Nat}{α:Type}{r:Rp α}{l:List α}{a:α}{k:IntKind}{I:Int}
end
end Go.JE
namespace Go.JE
variable{P:Program}{D D0 Ds:List Dt}{L M Ls L0:List Res}{e:Env}{X:Cx}{n:Fs}{w0:World}{Q:Exit→Act→World→Prop}
def bxv(g:Nat)(T:TypeId)(i:Nat)(v:Value):Res where
 sat F H:=∃cs,(bx g T cs).sat F H∧cs[i]? = some v
 own k:=k=g
 lt:=fun⟨_,h,_⟩ e=>Res.lt _ h e
 no:=fun⟨_,h,_⟩ e=>Res.no _ h e
 st:=fun hl hs h1 h2 ⟨cs,h,e⟩=>⟨cs,Res.st _ hl hs h1 h2 h,e⟩
theorem kcv{g i:Nat}{T:TypeId}{cs:List Value}{v:Value}{N:List Res}(h:Tk L (bx g T cs) M)(e:cs[i]? = some v)(h':Tks M Ls N):Tks L (bxv g T i v::Ls) N where
 ok:=fun o=>by
  obtain⟨⟨a,b,c⟩,x,y⟩:=(kc h h').ok o
  exact⟨⟨⟨cs,a,e⟩,b,c⟩,x,y⟩
 own:=fun o=>(kc h h').own o
theorem jlv{g i:Nat}{T T':TypeId}{v:Value}{x:Operand}(hk:Tk L (bxv g T i v) M)(hT:One P T')(hx:ev e x=some (.pointer (some ⟨g,i,none⟩))):OH P D L e (.load T' x) v:=fun F H _ _ h=>by
 obtain⟨cs,h1,h2⟩:=(hk.ok h).1
 exact Aa.ldBx h1.1 hT hx h2
def SS(X:Cx)(FS:PH)(Ls:List Res)(H:Heap):Prop:=∃F,FS.le F∧Hp X [] Ls F H
inductive Od where
 | e
 | a (i:Nat) (o:Od)
 | o (i:Nat) (o:Od)
 | w (i j:Nat) (p q:Od)
 | w3 (i j k:Nat) (p q r:Od)
def Od.sz:Od→Nat
 | .e=>0
 | .a _ q=>q.sz+1
 | .o _ q=>q.sz+1
 | .w _ _ p _=>p.sz+1
 | .w3 _ _ _ p _ _=>p.sz+1
def okO(ops:Array Oper)(z:Bool):Array Bool→Od→Bool
 | listed,.e=>decide (Region.ready .any ops listed=[])&&(!z||listed.all (fun b=>b))
 | listed,.a i q=>(Region.free .any ops listed i&&((Region.ready .any ops listed).contains i&&(!z||Oj ops listed i)))&&okO ops z (listed.setIfInBounds i true) q
 | listed,.o i q=>decide (Region.ready .any ops listed=[i])&&okO ops z (listed.setIfInBounds i true) q
 | listed,.w i j p q=>decide (Region.ready .any ops listed=[i,j])&&(okO ops z (listed.setIfInBounds i true) p&&(okO ops z (listed.setIfInBounds j true) q&&p.sz==q.sz))
 | listed,.w3 i j k p q r=>decide (Region.ready .any ops listed=[i,j,k])&&(okO ops z (listed.setIfInBounds i true) p&&(okO ops z (listed.setIfInBounds j true) q&&(okO ops z (listed.setIfInBounds k true) r&&(p.sz==q.sz&&p.sz==r.sz))))
def fsD(FS:PH)(Ds:List Dt):Dt:=⟨fun F=>FS.le F∧AllD FS Ds,fun hl h=>⟨h.1.trans hl,h.2⟩⟩
def AH(P:Program)(n:Fs)(w0:World)(l:List Oper)(Q:Exit→Act→World→Prop)(z:Bool)(X:Cx)(FS:PH)(Ds:List Dt)(Ls:List Res)(is:Od)(D:List Dt)(L:List Res)(e:Env):Prop :=
 ∀F H,FS.le F→AllD FS Ds→Hp X D L F H→(SS X FS Ls H∨(z=true∧is = .e))→Region.noSelect l.toArray=true→∀listed,okO l.toArray z listed is=true→AF P n w0 l.toArray Q z (SS X FS Ls) is.sz listed e H
def YQ(P:Program)(n:Fs)(w0:World)(l:List Oper)(Q:Exit→Act→World→Prop)(z:Bool)(X:Cx)(FS:PH)(Ls:List Res)(is:Od):Exit→Act→World→Prop
 | .normal,a,w=>Region.noSelect l.toArray=true→∀listed,okO l.toArray z listed is=true→(SS X FS Ls w.heap∨(z=true∧is = .e))∧Gq P l.toArray (NoP Q) z (fun w=>SS X FS Ls w.heap) is.sz listed a w
 | x,a,w=>NoP Q x a w
theorem Bz{id:Nat}{l:List Oper}(z:Bool)(is:Od)(hm:P.follows .mixedOrders=true)(hO:(okO l.toArray z (Array.replicate l.length false) is&&(Region.noSelect l.toArray&&decide (l.length=is.sz)))=true)(hk:Tks L Ls M)
  (h:∀FS,AH P n w0 l Q z X FS D Ls is D L e):CH P n w0 Q X D L e (.region id l.toArray true):=fun F H hp=>by
 simp only[Bool.and_eq_true,decide_eq_true_eq] at hO
 refine CF.any (z:=z) (SS X F Ls) hm ?_
 have:=h F F H (PH.le.refl F) hp.hd hp (.inl ⟨F,PH.le.refl F,hp.sub dn hk⟩) hO.2.1 _ hO.1
 rw[hO.2.2] at this ⊢
 exact this
section
variable{l:List Oper}{z:Bool}{is js:Od}{i d:Nat}{op:Op}{oi oj:Oper}{ty:TypeId}{pos:String}{af:Array Edge}{v:Value}{FS:PH}
theorem jyd(h:QH n w0 Q X D L e .normal):AH P n w0 l Q z X FS Ds Ls .e D L e:=fun F H h1 h2 hp hS hs listed hO=>by
 simp only[okO,Bool.and_eq_true,decide_eq_true_eq] at hO
 exact AF.done hO.1 (h F H hp)
theorem SS.oh{H:Heap}(h:OH P Ds Ls e op v)(hd:AllD FS Ds)(hS:SS X FS Ls H):Aa P e op H v:=by
 obtain⟨F,h1,h2⟩:=hS;exact h F H h2.hin (hd.up h1) h2.ok
theorem SS.get{H:Heap}(h:SS X FS Ls H∨(z=true∧is = .e))(hn:is ≠ .e):SS X FS Ls H:=h.resolve_right fun h1=>hn h1.2
theorem okA{ops:Array Oper}{listed:Array Bool}(hO:okO ops z listed (.a i is)=true):Region.free .any ops listed i=true∧(Region.ready .any ops listed).contains i=true∧(z=false∨Oj ops listed i=true)∧okO ops z (listed.setIfInBounds i true) is=true:=by
 simp only[okO,Bool.and_eq_true,Bool.or_eq_true,Bool.not_eq_true'] at hO
 exact⟨hO.1.1,hO.1.2.1,hO.1.2.2,hO.2⟩
theorem jy(hi:l[i]? = some ⟨some d,op,ty,pos,af,none⟩)(h:OH P Ds Ls e op v)(K:AH P n w0 l Q z X FS Ds Ls is D L ((d,v)::e))(hd:Nat.blt d n.sz=true:=by rfl):AH P n w0 l Q z X FS Ds Ls (.a i is) D L e:=fun F H h1 h2 hp hS hs listed hO=>by
 obtain⟨hf,hr,hz,hO⟩:=okA hO
 have hS':=SS.get hS (by simp)
 exact AF.take i hi hs hf hr hS' (fun H' hS''=>hS''.oh h h2) (K F H h1 h2 hp (.inl hS') hs _ hO) hd hz
theorem jyg{j t:Nat}{want B:Bool}{u:Value}(hi:l[i]? = some ⟨some d,op,ty,pos,af,some (j,want)⟩)(hj:(l.toArray[j]?).bind (·.dst)=some t)(hu:lk e t=some u)(hB:Gd u want B)(h:B=true→OH P Ds Ls e op v)(K:AH P n w0 l Q z X FS Ds Ls is D L ((d,gv B v)::e))(hd:Nat.blt d n.sz=true:=by rfl)(ht:Nat.blt t n.sz=true:=by rfl):AH P n w0 l Q z X FS Ds Ls (.a i is) D L e:=fun F H h1 h2 hp hS hs listed hO=>by
 obtain⟨hf,hr,hz,hO⟩:=okA hO
 have hS':=SS.get hS (by simp)
 exact AF.gtake i hi hs hf hr hS' hj hu hB (fun hb H' hS''=>hS''.oh (h hb) h2) (K F H h1 h2 hp (.inl hS') hs _ hO) hd ht hz
theorem jyk{j t:Nat}{want:Bool}{u:Value}(hi:l[i]? = some ⟨some d,op,ty,pos,af,some (j,want)⟩)(hj:(l.toArray[j]?).bind (·.dst)=some t)(hu:lk e t=some u)(hB:Gd u want true)(h:OH P Ds Ls e op v)(K:AH P n w0 l Q z X FS Ds Ls is D L ((d,v)::e))(hd:Nat.blt d n.sz=true:=by rfl)(ht:Nat.blt t n.sz=true:=by rfl):AH P n w0 l Q z X FS Ds Ls (.a i is) D L e:=jyg hi hj hu hB (fun _=>h) K hd ht
def OX(P:Program)(Ds:List Dt)(e:Env)(op:Op)(q:Value→Dt):Prop:=∀FS H,InH FS H→AllD FS Ds→∃v,(∀H',InH FS H'→Aa P e op H' v)∧(q v).sat FS
section
variable{α:Type}{r:Rp α}{a:α}{b o:Nat}{T:TypeId}{x:Operand}
theorem xlV(hat:Nd Ds [] (ad r b o a))(hT:One P T)(hS:r.sz=1)(hx:ev e x=some (.pointer (some ⟨b,o,none⟩))):OX P Ds e (.load T x) (fun v=>dv r v a):=fun FS H h1 h2=>Aa.ldVS (hat FS H h1 h2 trivial) hT hS hx (fun _ h=>h)
theorem xlA(hat:Nd Ds [] (ad r b o a))(hT:Ag9 P T)(hS:Sz P T r.sz)(hx:ev e x=some (.pointer (some ⟨b,o,none⟩))):OX P Ds e (.load T x) (fun v=>da r v a):=fun FS H h1 h2=>Aa.ldAS (hat FS H h1 h2 trivial) hT hS hx (fun _ h=>h)
end
theorem SS.inh{H:Heap}(hS:SS X FS Ls H):InH FS H:=by obtain⟨F,h1,h2⟩:=hS;exact h2.hin.down h1
theorem jye{q:Value→Dt}(hi:l[i]? = some ⟨some d,op,ty,pos,af,none⟩)(h:OX P Ds e op q)(K:∀v,AH P n w0 l Q z X FS (q v::Ds) Ls is (q v::D) L ((d,v)::e))(hd:Nat.blt d n.sz=true:=by rfl):AH P n w0 l Q z X FS Ds Ls (.a i is) D L e:=fun F H h1 h2 hp hS hs listed hO=>by
 obtain⟨hf,hr,hz,hO⟩:=okA hO
 have hS':=SS.get hS (by simp)
 obtain⟨v,h3,h4⟩:=h FS H hS'.inh h2
 exact AF.take i hi hs hf hr hS' (fun H' hS''=>h3 H' hS''.inh) (K v F H h1 ⟨h4,h2⟩ (hp.datum (Dt.up _ h1 h4)) (.inl hS') hs _ hO) hd hz
theorem W7{q:Value→Dt}{j t:Nat}{want B:Bool}{u:Value}(hi:l[i]? = some ⟨some d,op,ty,pos,af,some (j,want)⟩)(hj:(l.toArray[j]?).bind (·.dst)=some t)(hu:lk e t=some u)(hB:Gd u want B)(h:B=true→OX P Ds e op q)(K:∀v,AH P n w0 l Q z X FS ((q v).if B::Ds) Ls is ((q v).if B::D) L ((d,gv B v)::e))(hd:Nat.blt d n.sz=true:=by rfl)(ht:Nat.blt t n.sz=true:=by rfl):AH P n w0 l Q z X FS Ds Ls (.a i is) D L e:=fun F H h1 h2 hp hS hs listed hO=>by
 obtain⟨hf,hr,hz,hO⟩:=okA hO
 have hS':=SS.get hS (by simp)
 cases B with
 | true =>
  obtain⟨v,h3,h4⟩:=h rfl FS H hS'.inh h2
  have h5:((q v).if true).sat FS:=fun _=>h4
  exact AF.gtake i hi hs hf hr hS' hj hu hB (fun _ H' hS''=>h3 H' hS''.inh) (K v F H h1 ⟨h5,h2⟩ (hp.datum (Dt.up _ h1 h5)) (.inl hS') hs _ hO) hd ht hz
 | false =>
  have h5:∀F,((q undef).if false).sat F:=fun _ h=>by cases h
  exact AF.gtake (v:=undef) i hi hs hf hr hS' hj hu hB (fun h=>by cases h) (K undef F H h1 ⟨h5 _,h2⟩ (hp.datum (h5 _)) (.inl hS') hs _ hO) hd ht hz
theorem jyA{α β:Type}{r:Rp α}{val:α→β→Value}{a:α}(hs:Sr r val)(hi:l[i]? = some ⟨some d,op,ty,pos,af,none⟩)(h:OX P Ds e op (fun v=>da r v a))(K:∀c,AH P n w0 l Q z X FS (da r (val a c) a::Ds) Ls is (da r (val a c) a::D) L ((d,val a c)::e))(hd:Nat.blt d n.sz=true:=by rfl):AH P n w0 l Q z X FS Ds Ls (.a i is) D L e:=fun F H h1 h2 hp hS hs' listed hO=>by
 obtain⟨hf,hr,hz,hO⟩:=okA hO
 have hS':=SS.get hS (by simp)
 obtain⟨v,h3,h4⟩:=h FS H hS'.inh h2
 obtain⟨c,rfl⟩:=hs.op h4
 exact AF.take i hi hs' hf hr hS' (fun H' hS''=>h3 H' hS''.inh) (K c F H h1 ⟨h4,h2⟩ (hp.datum (Dt.up _ h1 h4)) (.inl hS') hs' _ hO) hd hz
theorem adq{α:Type}{r:Rp α}{N:Nat}{a:List α}(h:Nd D L (dv (rLn N r) v a))(k:Qn N a.length→Sv v→AH P n w0 l Q z X FS Ds Ls is D L e):AH P n w0 l Q z X FS Ds Ls is D L e:=fun F H h0 h1 hp=>by
 have h2:=h F H hp.hin hp.hd hp.ok;exact k h2.1 (dv1 h2) F H h0 h1 hp
theorem EC{ops:Array Oper}{Y Q':Exit→Act→World→Prop}{a:Act}{w:World}(hi:ops[i]? = some oi)(hp:∀c a w,Y (.panic c) a w→Q' (.panic c) a w)(ho:∀a w,Y .outgrown a w→Q' .outgrown a w)(h:wpList P ops Y [oi] a w):wpOp P ops Q' i (fun a w=>Y .normal a w) a w:=by
 unfold wpOp
 simp only[hi]
 unfold wpList at h
 have hl:LetsOut Y→LetsOut Q':=fun⟨a,w,h⟩=>⟨a,w,ho a w h⟩
 split at h
 ·rename_i hw
  rw[if_pos hw]
  refine h.imp (fun h=>?_) (fun h=>⟨h.1,hl h.2⟩)
  unfold Oper.wp at h ⊢
  generalize (execOp a.eval oi).run P w=r at h ⊢
  cases r with
  | ok x w' =>
   cases x<;>simp only[Oper.upon] at h⊢<;>
   first
    | exact h
    | exact Calls.mono h (fun x w'' he=>by cases x<;>first|exact he|exact hp _ _ _ he|exact hl he)
    | exact Rows.mono h (fun _ _ he=>he)
  | halt x w'=>cases x<;>simp only[Oper.upon] at h⊢<;> first|exact hp _ _ _ h|exact h
 ·rename_i hw
  rw[if_neg hw];exact h
theorem LI{ops:Array Oper}{listed:Array Bool}(hO:okO ops true listed .e=true):¬Ue listed:=by
 simp only[okO,Bool.and_eq_true,Bool.not_true,Bool.false_or] at hO
 rintro⟨k,hk⟩
 rw[Array.getD_eq_getD_getElem?] at hk
 by_cases h:k<listed.size
 ·rw[Array.getElem?_eq_getElem h] at hk
  have h2:=Array.all_eq_true.1 hO.2 k h
  simp only[Option.getD_some] at hk
  rw[hk] at h2;cases h2
 ·rw[Array.getElem?_eq_none (Nat.le_of_not_lt h)] at hk;cases hk
theorem YQ.next{listed:Array Bool}{a:Act}{w:World}(hs:Region.noSelect l.toArray=true)(hO:okO l.toArray z (listed.setIfInBounds i true) is=true)(hi:l[i]? = some oi)(h:wpList P l.toArray (YQ P n w0 l Q z X FS Ls is) [oi] a w) :
  wpOp P l.toArray (NoP Q) i (fun a' w'=>(z=false∨Ue (listed.setIfInBounds i true)→SS X FS Ls w'.heap)∧Gq P l.toArray (NoP Q) z (fun w=>SS X FS Ls w.heap) is.sz (listed.setIfInBounds i true) a' w') a w:=by
 refine wpOp_mono (fun a' w' h'=>?_) (EC (Y:=YQ P n w0 l Q z X FS Ls is) (Q':=NoP Q) (by simpa using hi) (fun _ _ _ h=>h) (fun _ _ h=>h) h)
 obtain⟨h1,h2⟩:=h' hs _ hO
 refine⟨fun h3=>h1.resolve_right ?_,h2⟩
 rintro⟨rfl,rfl⟩
 exact LI hO (h3.resolve_left (by simp))
theorem jyo(hi:l[i]? = some oi)(h:LH P n w0 l.toArray (YQ P n w0 l Q z X FS Ls is) X (fsD FS Ds::D) L e [oi]):AH P n w0 l Q z X FS Ds Ls (.o i is) D L e:=fun F H h1 h2 hp hS hs listed hO=>by
 simp only[okO,Bool.and_eq_true,decide_eq_true_eq] at hO
 intro a w hf hw
 exact ED hO.1 (YQ.next hs hO.2 hi (h F H (hp.datum ⟨h1,h2⟩) a w hf hw))
theorem jyw{j:Nat}(hi:l[i]? = some oi)(hj:l[j]? = some oj)(h:LH P n w0 l.toArray (YQ P n w0 l Q z X FS Ls is) X (fsD FS Ds::D) L e [oi])(h':LH P n w0 l.toArray (YQ P n w0 l Q z X FS Ls js) X (fsD FS Ds::D) L e [oj]):AH P n w0 l Q z X FS Ds Ls (.w i j is js) D L e:=fun F H h1 h2 hp hS hs listed hO=>by
 simp only[okO,Bool.and_eq_true,decide_eq_true_eq,beq_iff_eq] at hO
 obtain⟨hr,ho1,ho2,hz⟩:=hO
 intro a w hf hw
 have a1:=YQ.next hs ho1 hi (h F H (hp.datum ⟨h1,h2⟩) a w hf hw)
 have a2:=YQ.next hs ho2 hj (h' F H (hp.datum ⟨h1,h2⟩) a w hf hw)
 rw[←hz] at a2
 refine⟨fun h0=>(by rw[hr] at h0;cases h0),fun k hk=>?_⟩
 rw[hr] at hk
 simp only[List.mem_cons,List.not_mem_nil,or_false] at hk
 rcases hk with rfl|rfl
 ·exact a1
 ·exact a2
theorem Xz{j k:Nat}{ks:Od}{ok:Oper}(hi:l[i]? = some oi)(hj:l[j]? = some oj)(hk:l[k]? = some ok)(h:LH P n w0 l.toArray (YQ P n w0 l Q z X FS Ls is) X (fsD FS Ds::D) L e [oi])(h':LH P n w0 l.toArray (YQ P n w0 l Q z X FS Ls js) X (fsD FS Ds::D) L e [oj])(h'':LH P n w0 l.toArray (YQ P n w0 l Q z X FS Ls ks) X (fsD FS Ds::D) L e [ok]):AH P n w0 l Q z X FS Ds Ls (.w3 i j k is js ks) D L e:=fun F H h1 h2 hp hS hs listed hO=>by
 simp only[okO,Bool.and_eq_true,decide_eq_true_eq,beq_iff_eq] at hO
 obtain⟨hr,ho1,ho2,ho3,hz,hz3⟩:=hO
 intro a w hf hw
 have a1:=YQ.next hs ho1 hi (h F H (hp.datum ⟨h1,h2⟩) a w hf hw)
 have a2:=YQ.next hs ho2 hj (h' F H (hp.datum ⟨h1,h2⟩) a w hf hw)
 have a3:=YQ.next hs ho3 hk (h'' F H (hp.datum ⟨h1,h2⟩) a w hf hw)
 rw[←hz] at a2
 rw[←hz3] at a3
 refine⟨fun h0=>(by rw[hr] at h0;cases h0),fun k hk=>?_⟩
 rw[hr] at hk
 simp only[List.mem_cons,List.not_mem_nil,or_false] at hk
 rcases hk with rfl|rfl|rfl
 ·exact a1
 ·exact a2
 ·exact a3
theorem jyn{ops:Array Oper}(hf:Nd D L (fsD FS Ds))(hk:Tks L Ls M)(h:AH P n w0 l Q z X FS Ds Ls is D L e):LH P n w0 ops (YQ P n w0 l Q z X FS Ls is) X D L e []:=jn fun F H hp a w hfr hw hs listed hO=>by
 obtain⟨h1,h2⟩:=hf F H hp.hin hp.hd hp.ok
 have hS:SS X FS Ls H:=⟨F,h1,hp.sub dn hk⟩
 exact⟨.inl (hw.heap▸hS),h F H h1 h2 hp (.inl hS) hs listed hO a w hfr hw⟩
theorem jyz{ops:Array Oper}(hf:Nd D L (fsD FS Ds))(h:AH P n w0 l Q true X FS Ds Ls .e D L e):LH P n w0 ops (YQ P n w0 l Q true X FS Ls .e) X D L e []:=jn fun F H hp a w hfr hw hs listed hO=>by
 obtain⟨h1,h2⟩:=hf F H hp.hin hp.hd hp.ok
 exact⟨.inr ⟨rfl,rfl⟩,h F H h1 h2 hp (.inr ⟨rfl,rfl⟩) hs listed hO a w hfr hw⟩
end
end Go.JE
namespace Go.JE
variable{P:Program}{D D0 D1 E:List Dt}{L M N Ls L0:List Res}{e:Env}{X:Cx}{n:Fs}{w0:World}{Q:Exit→Act→World→Prop}
def it(Ls:List Res):Res where
 sat F H:=Ok F H Ls
 own k:=Own Ls k
 lt:=Ok.lt
 no:=Ok.no
 st:=fun hl hs h1 h2 h=>Ok.st hl hs h1 h2 h
def dl(E:List Dt):Dt:=⟨fun F=>AllD F E,fun hl h=>h.up hl⟩
theorem db{d:List Dt}(h:Sd D L d):Nd D L (dl d):=h
theorem Ok.un{F:PH}{H:Heap}:Ok F H (it Ls::M)↔Ok F H (Ls++M):=by
 induction Ls with
 | nil=>exact⟨fun h=>h.2.2,fun h=>⟨trivial,fun _ h=>h.elim,h⟩⟩
 | cons R Ls ih =>
  constructor
  ·rintro⟨⟨a,b,c⟩,d,f⟩
   have:=ih.1 ⟨c,fun k hk=>d k (.inr hk),f⟩
   exact⟨a,fun k hk ho=>(Own.app.1 ho).elim (b k hk) (d k (.inl hk)),this⟩
  ·rintro⟨a,b,c⟩
   obtain⟨c1,c2,c3⟩:=ih.2 c
   exact⟨⟨a,fun k hk ho=>b k hk (Own.app.2 (.inl ho)),c1⟩,fun k hk ho=>hk.elim (fun h=>b k h (Own.app.2 (.inr ho))) (fun h=>c2 k h ho),c3⟩
theorem Own.un{k:Nat}:Own (it Ls::M) k↔Own (Ls++M) k:=⟨fun h=>Own.app.2 h,fun h=>Own.app.1 h⟩
theorem Tks.it(h:Tks L Ls M):Tks L [it Ls] M where
 ok:=fun o=>by
  obtain⟨a,b,c⟩:=h.ok o
  exact⟨⟨a,fun _ _=>id,trivial⟩,b,fun k hk=>c k (hk.resolve_right id)⟩
 own:=fun o=>h.own (o.imp (·.resolve_right id) id)
theorem Hp.unit{F:PH}{H:Heap}(h:Hp X D (JE.it Ls::M) F H):Hp X D (Ls++M) F H:=⟨h.hx,h.hin,h.hw,h.hd,Ok.un.1 h.ok,fun k hk=>h.ge k (Own.un.2 hk)⟩
section
variable{ops:Array Oper}{d:Nat}{ty:TypeId}{pos:String}{af:Array Edge}{rest:List Oper}{f:FuncId}{g:Operand}{xs:List Operand}{vs cs:List Value}{args:Array Value}{ts:Array TypeId}{ι:Type}{val:ι→Value}{dr:ι→List Dt}{lr:Nat→ι→List Res}{v:Value}
abbrev Pd(P:Program)(f:FuncId)(args:Array Value)(D0:List Dt)(Ls:List Res)(b:Bool):Prop:=Tr P f args D0 [it Ls] (fun _:Unit => .bool b) (fun _=>[]) (fun _ _=>[it Ls])
theorem Tr.it{D2:List Dt}(h:Tr P f args D0 Ls val dr (fun _ _=>Ls))(hd:∀{F:PH},AllD F D2→AllD F D0):Tr P f args D2 [it Ls] val dr (fun _ _=>[JE.it Ls]):=fun F H hin hD ho =>
 (h F H hin (hd hD) ho.1).mono fun v H' ⟨i,F',h1,h2⟩=>⟨i,F',h1,fun B hB=>by
  have h3:=h2 B hB
  refine⟨h3.hx,h3.hin,⟨h3.hw.1,fun k h1 h4=>h3.hw.2 k h1 (fun h5=>h4 (.inl h5))⟩,h3.hd,⟨h3.ok,fun _ _=>id,trivial⟩,fun k hk=>(h3.ge k (hk.resolve_right id)).imp id .inl⟩⟩
theorem i1{F:PH}{d:Dt}:AllD F [dl [d]]→AllD F [d]:=fun h=>h.1
theorem i0{F:PH}{D2:List Dt}:AllD F D2→AllD F []:=fun _=>trivial
theorem ir{F:PH}{c:Dt}{E:List Dt}:AllD F [c,dl E]→AllD F [c]:=fun h=>⟨h.1,trivial⟩
theorem jcp(hE:Ent P f)(hf:ev e g=some (.func (.func f) #[] cs.toArray))(hl:evl e xs=some vs)(hT:Tr P f (vs++cs).toArray D0 [it Ls] (fun _:Unit=>v) (fun _=>[]) (fun _ _=>[it Ls]))(hd:Sd D L D0)(hk:Tks L Ls M)(hq:Ap Ls M N)
  (k:LH P n w0 ops Q X D N ((d,v)::e) rest) (hd1:Nat.blt d n.sz=true:=by rfl):LH P n w0 ops Q X D L e (⟨some d,.call { callee := .value g,args:=xs.toArray,argTypes:=ts },ty,pos,af,none⟩::rest) :=
 jc hE hf hl hT hd hk.it (fun _=>rfl) (fun _=>rfl) (fun _ F H h=>k F H (hq▸h.unit)) hd1
end
end Go.JE
namespace Go.JE
variable{P:Program}{D D0 D1 E:List Dt}{L M N Ls L0 Rs:List Res}{e:Env}{X:Cx}{n:Fs}{w0:World}{Q:Exit→Act→World→Prop}{F G:PH}{H:Heap}{R:Res}{i k:Nat}
theorem Own.focus:∀{Rs:List Res} {i:Nat} (hi:i<Rs.length),Own Rs k↔Own (Rs[i]::Rs.set i (it [])) k
 | R::Rs,0,_=>⟨fun h=>h.imp id .inr,fun h=>h.imp id (·.resolve_left id)⟩
 | R::Rs,i+1,hi=>by
  have ih:=Own.focus (Rs:=Rs) (i:=i) (by simpa using hi)
  simp only[Own,List.getElem_cons_succ,List.set_cons_succ] at ih ⊢
  rw[ih]
  constructor
  ·rintro(h|h|h)
   ·exact .inr (.inl h)
   ·exact .inl h
   ·exact .inr (.inr h)
  ·rintro(h|h|h)
   ·exact .inr (.inl h)
   ·exact .inl h
   ·exact .inr (.inr h)
theorem Ok.focus:∀{Rs:List Res} {i:Nat} (hi:i<Rs.length),Ok F H Rs↔Ok F H (Rs[i]::Rs.set i (it []))
 | R::Rs,0,_=>⟨fun⟨a,b,c⟩=>⟨a,fun k h ho=>b k h (ho.resolve_left id),trivial,fun _ h=>h.elim,c⟩,fun⟨a,b,_,_,c⟩=>⟨a,fun k h ho=>b k h (.inr ho),c⟩⟩
 | R::Rs,i+1,hi=>by
  have hi':i<Rs.length:=by simpa using hi
  have ih:=Ok.focus (Rs:=Rs) (i:=i) hi'
  simp only[List.getElem_cons_succ,List.set_cons_succ]
  constructor
  ·rintro⟨a,b,c⟩
   obtain⟨x,y,z⟩:=ih.1 c
   refine⟨x,?_,a,fun k hk ho=>b k hk ((Own.focus hi').2 (.inr ho)),z⟩
   rintro k hk (ho|ho)
   ·exact b k ho ((Own.focus hi').2 (.inl hk))
   ·exact y k hk ho
  ·rintro⟨x,y,a,b,z⟩
   refine⟨a,fun k hk ho=>?_,ih.2 ⟨x,fun k hk ho=>y k hk (.inr ho),z⟩⟩
   rcases(Own.focus hi').1 ho with h|h
   ·exact y k h (.inl hk)
   ·exact b k hk h
theorem Hp.focus(h:Hp X D (it Rs::M) F H)(hi:i<Rs.length):Hp X D (Rs[i]::it (Rs.set i (it []))::M) F H:=by
 have o:=Ok.un.1 h.ok
 refine⟨h.hx,h.hin,h.hw,h.hd,?_,fun k hk=>?_⟩
 ·obtain⟨a,b,c⟩:=h.ok
  obtain⟨x,y,z⟩:=(Ok.focus hi).1 a
  exact⟨x,fun k hk ho=>ho.elim (y k hk) (b k ((Own.focus hi).2 (.inl hk))),z,fun k hk=>b k ((Own.focus hi).2 (.inr hk)),c⟩
 ·rcases hk with hk|hk|hk
  ·exact h.ge k (.inl ((Own.focus hi).2 (.inl hk)))
  ·exact h.ge k (.inl ((Own.focus hi).2 (.inr hk)))
  ·exact h.ge k (.inr hk)
theorem Hp.unfocus(h:Hp X D (R::it (Rs.set i (it []))::M) F H)(hi:i<Rs.length):Hp X D (it (Rs.set i R)::M) F H:=by
 have hi2:i<(Rs.set i R).length:=by simpa using hi
 have e1:(Rs.set i R)[i]=R:=by simp
 have e2:(Rs.set i R).set i (it [])=Rs.set i (it []):=by simp
 refine⟨h.hx,h.hin,h.hw,h.hd,?_,fun k hk=>?_⟩
 ·obtain⟨a,b,c,d,f⟩:=h.ok
  refine⟨(Ok.focus hi2).2 (by rw[e1,e2];exact⟨a,fun k hk ho=>b k hk (.inl ho),c⟩),fun k hk=>?_,f⟩
  have hk':=(Own.focus hi2).1 hk
  rw[e1,e2] at hk'
  exact hk'.elim (fun h1 h2=>b k h1 (.inr h2)) (d k)
 ·rcases hk with hk|hk
  ·have hk':=(Own.focus hi2).1 hk
   rw[e1,e2] at hk'
   exact hk'.elim (fun h1=>h.ge k (.inl h1)) (fun h1=>h.ge k (.inr (.inl h1)))
  ·exact h.ge k (.inr (.inr hk))
theorem Hp.front(h:Hp X D L F H)(hk:Tk L R M):Hp X D (R::M) F H:=⟨h.hx,h.hin,h.hw,h.hd,hk.ok h.ok,fun k h1=>h.ge k (hk.own h1)⟩
def rV:Rp Value where
 sz:=1
 agg:=false
 ok _ u f:=f 0=u∧u.oneCell'=true
 up _ h:=h
 ext he h:=by rw[←he 0 (by omega)];exact h
 one h i hi:=by rw[show i=0 by omega,h.1];exact h.2
theorem wV{u:Value}(h:u.oneCell'=true):Nd D L (dv rV u u):=fun _ _ _ _ _=>⟨rfl,h⟩
section
variable{α:Type}{r:Rp α}{T To:TypeId}{B:Nat}{v u v':Value}{vs:List Value}{ls:List (List α)}{l l':List α}
def rws(B:Nat)(r:Rp α)(T:TypeId)(vs:List Value)(ls:List (List α)):List Res:=List.zipWith (gl B r T) vs ls
theorem B6{β γ δ:Type}(f:β→γ→δ):∀(a:List β) (b:List γ) (i:Nat) (x:β) (y:γ),(List.zipWith f a b).set i (f x y)=List.zipWith f (a.set i x) (b.set i y)
 | [],_,_,_,_=>by simp
 | _::_,[],i,_,_=>by cases i<;>simp
 | _::_,_::_,0,_,_=>rfl
 | _::a,_::b,i+1,x,y=>by simp[B6 f a b i x y]
def Kb(i:Nat)(B:Nat)(r:Rp α)(T:TypeId)(vs:List Value)(ls:List (List α)):Res:=it ((rws B r T vs ls).set i (it []))
abbrev rw'(B:Nat)(r:Rp α)(T:TypeId)(vs:List Value)(ls:List (List α)):Res:=it (rws B r T vs ls)
section
variable{ops:Array Oper}{rest:List Oper}{c:Code}{m:Nat}
theorem Sx(h1:i<vs.length)(h2:i<ls.length):∃h,(rws B r T vs ls)[i]'h=gl B r T (vs.getD i undef) (ls.getD i []) :=
 ⟨by simp[rws];omega,by simp[rws,h1,h2]⟩
theorem Hp.row(hp:Hp X D L F H)(hk:Tk L (rw' B r T vs ls) M)(h1:i<vs.length)(h2:i<ls.length):Hp X D (gl B r T (vs.getD i undef) (ls.getD i [])::Kb i B r T vs ls::M) F H:=by
 obtain⟨h3,h4⟩:=Sx (B:=B) (r:=r) (T:=T) h1 h2
 have:=(hp.front hk).focus h3
 rw[h4] at this;exact this
theorem Hp.unrow(hp:Hp X D (gl B r T v' l'::Kb i B r T vs ls::M) F H)(h1:i<vs.length)(h2:i<ls.length):Hp X D (rw' B r T (vs.set i v') (ls.set i l')::M) F H:=by
 obtain⟨h3,_⟩:=Sx (B:=B) (r:=r) (T:=T) h1 h2
 have:=hp.unfocus h3
 unfold rws at this
 rw[B6] at this;exact this
theorem jro(i:Nat)(hk:Tk L (rw' B r T vs ls) M)(h1:i<vs.length)(h2:i<ls.length)(k:LH P n w0 ops Q X D (gl B r T (vs.getD i undef) (ls.getD i [])::Kb i B r T vs ls::M) e rest):LH P n w0 ops Q X D L e rest:=fun F H hp=>k F H (hp.row hk h1 h2)
theorem jru(hk:Tk L (gl B r T v' l') M)(hk2:Tk M (Kb i B r T vs ls) N)(h1:i<vs.length)(h2:i<ls.length)(k:LH P n w0 ops Q X D (rw' B r T (vs.set i v') (ls.set i l')::N) e rest):LH P n w0 ops Q X D L e rest:=fun F H hp=>by
 have h3:=hp.front hk
 have h4:Hp X D (gl B r T v' l'::Kb i B r T vs ls::N) F H:=⟨h3.hx,h3.hin,h3.hw,h3.hd,by
  obtain⟨a,b,c⟩:=h3.ok
  obtain⟨x,y,z⟩:=hk2.ok c
  exact⟨a,fun k hk ho=>b k hk (hk2.own ho),x,y,z⟩,fun k hk=>hk.elim (fun h=>h3.ge k (.inl h)) (fun h=>h3.ge k (.inr (hk2.own h)))⟩
 exact k F H (h4.unrow h1 h2)
theorem GT{β:Type}(l:List β)(i:Nat)(z:β):l.set i (l.getD i z)=l:=by
 by_cases h:i<l.length
 ·simp[List.getD,h]
 ·rw[List.set_eq_of_length_le (by omega)]
theorem jrn(m:Nat)(k:LH P n w0 ops Q X D (rw' X.n r T (List.replicate m (.slice none 0 0)) (List.replicate m [])::L) e rest):LH P n w0 ops Q X D L e rest:=fun F H hp=>by
 have h1:∀m k,¬Own (rws X.n r T (List.replicate m (.slice none 0 0)) (List.replicate m [])) k:=by
  intro m k
  induction m with
  | zero=>exact id
  | succ m ih=>exact fun h=>h.elim (fun h=>by cases h) ih
 have h2:∀m,Ok F H (rws X.n r T (List.replicate m (.slice none 0 0)) (List.replicate m [])):=by
  intro m
  induction m with
  | zero=>trivial
  | succ m ih=>exact⟨⟨Gl.nil _ _ _,hp.hw.1⟩,(fun k h=>by cases h),ih⟩
 exact k F H (hp.new (R:=rw' X.n r T (List.replicate m (.slice none 0 0)) (List.replicate m [])) (Kp.refl _ _) (h2 m) (fun k h=>(h1 m k h).elim))
theorem jgW{x:Operand}(hk:Tk L (gl B rV To v vs) M)(hi:i<vs.length)(hT:One P T)(hx:ev e x=some (.pointer (some ⟨Cb v,Ca v+i*1,none⟩))):OH P D L e (.load T x) (vs.getD i undef):=fun F H _ _ h=>by
 obtain⟨u,h1,h2⟩:=Aa.ldGV (hk.ok h).1.1 hi hT rfl hx
 have e1:u=vs.getD i undef:=h2.1
 exact e1▸h1
theorem Sy:∀{vs:List Value} {ls:List (List α)} {F:PH},InH F H→Ok F H (rws B r T vs ls)→vs.length=ls.length→(∀l∈ls,l.length<1073741824)→∃G,F.le G∧InH G H∧(∀k,k<B→G k=F k)∧(∀k,¬Own (rws B r T vs ls) k→G k=F k)∧∀i (h1:i<vs.length) (h2:i<ls.length),(rL r).rv G vs[i] ls[i]
 | [],[],F,hin,_,_,_=>⟨F,PH.le.refl F,hin,fun _ _=>rfl,fun _ _=>rfl,fun i h1=>by cases h1⟩
 | v::vs,l::ls,F,hin,⟨⟨a,a2⟩,b,c⟩,hl,hM=>by
  obtain⟨G,h1,h2,h3,h4,h5⟩:=a.freeze (N:=1073741824) hin (hM l (.head _))
  have c':Ok G H (rws B r T vs ls):=c.st h1 (Nat.le_refl _) (fun k hk=>(h4 k (fun e1=>b k e1 hk)).trans (c.no hk)) (fun _ _=>rfl)
  obtain⟨K,g1,g2,g3,g4,g5⟩:=Sy h2 c' (by simpa using hl) (fun l hl=>hM l (.tail _ hl))
  refine⟨K,h1.trans g1,g2,fun k hk=>(g3 k hk).trans (h3 k hk),fun k hk=>(g4 k (fun h=>hk (.inr h))).trans (h4 k (fun h=>hk (.inl h))),fun i=>?_⟩
  cases i with
  | zero=>exact fun _ _=>Rp.rv.up h5 g1
  | succ i=>exact fun h1 h2=>g5 i (by simpa using h1) (by simpa using h2)
 | [],_::_,_,_,_,hl,_=>by cases hl
 | _::_,[],_,_,_,hl,_=>by cases hl
theorem HM(h:(rLn m rV).rv F v vs)(hl:vs.length=ls.length)(hr:∀i (h1:i<vs.length) (h2:i<ls.length),(rL r).rv F vs[i] ls[i]):(rLn m (rL r)).rv F v ls:=by
 obtain⟨a,b,c,d,f,g,g',x,y⟩:=h
 refine⟨hl▸a,b,c,hl▸d,hl▸f,fun i hi=>g i (by rw[hl];exact hi),g',fun i hi=>x i (by rw[hl];exact hi),fun i hi=>?_⟩
 have hi':i<vs.length:=hl▸hi
 have h1:=hr i hi' hi
 have h2:=y i hi'
 refine(rL r).ext (fun j hj=>?_) h1
 rw[show j=0 from Nat.lt_one_iff.1 hj]
 exact h2.1.symm
theorem Hp.freezes(hp:Hp X D L F H)(hk:Tk L (gl X.n rV To v vs) M)(hk2:Tk M (rw' X.n r T vs ls) N)(hl:vs.length=ls.length)(h0:ls.length<1073741824)(hM:∀l∈ls,l.length<1073741824):∃G,Hp X (dv (rL (rL r)) v ls::D) N G H:=by
 have h1:=hp.front hk
 obtain⟨o1,o2,o3⟩:=h1.ok
 obtain⟨q1,q2,q3⟩:=hk2.ok o3
 have o1':Gl rV To F H X.n v vs:=o1.1
 obtain⟨G,f1,f2,f3,f4,f5⟩:=o1'.freeze (N:=1073741824) hp.hin (by omega)
 have q1':Ok G H (rws X.n r T vs ls):=Ok.st f1 (Nat.le_refl _) (fun k hk=>(f4 k (fun e1=>o2 k e1 (hk2.own (.inl hk)))).trans (Ok.no (L:=rws X.n r T vs ls) q1 hk)) (fun _ _=>rfl) q1
 obtain⟨K,g1,g2,g3,g4,g5⟩:=Sy f2 q1' hl hM
 have h6:∀k,Own N k→K k=F k:=fun k hk1=>(g4 k (fun h=>q2 k h hk1)).trans (f4 k (fun e1=>o2 k e1 (hk2.own (.inr hk1))))
 have hx2:∀k,k<X.n→K k=F k:=fun k hk1=>(g3 k hk1).trans (f3 k hk1)
 refine⟨K,⟨hp.hx.1.trans (f1.trans g1),fun k hk1=>(hx2 k hk1).trans (hp.hx.2 k hk1)⟩,g2,hp.hw,⟨HM (Rp.rv.up f5 g1) hl g5,hp.hd.up (f1.trans g1)⟩,q3.st (f1.trans g1) (Nat.le_refl _) (fun k hk1=>(h6 k hk1).trans (q3.no hk1)) (fun _ _=>rfl),fun k hk1=>h1.ge k (.inr (hk2.own (.inr hk1)))⟩
theorem qfr{z:Exit}(hk:Tk L (gl X.n rV To v vs) M)(hk2:Tk M (rw' X.n r T vs ls) N)(hl:vs.length=ls.length)(h0:ls.length<1073741824)(hM:∀l∈ls,l.length<1073741824)(k:QH n w0 Q X (dv (rL (rL r)) v ls::D) N e z):QH n w0 Q X D L e z:=fun F H hp=>by
 obtain⟨G,h⟩:=hp.freezes hk hk2 hl h0 hM;exact k G H h
end
end
end Go.JE
namespace Go.JE
variable{P:Program}{D D0 D1:List Dt}{L M N Ls L0 Rs:List Res}{e:Env}{X:Cx}{n:Fs}{w0:World}{Q:Exit→Act→World→Prop}
section
variable{ops:Array Oper}{d:Nat}{ty:TypeId}{pos:String}{af:Array Edge}{rest:List Oper}{v u z w2:Value}{x y:Operand}{T T' E:TypeId}{bytes B hi N':Nat}{α:Type}{r:Rp α}{l m:List α}{a:α}
end
end Go.JE
namespace Go.JE
variable{P:Program}{D D0 D1:List Dt}{L M N Ls L0 Rs:List Res}{e:Env}{X:Cx}{n:Fs}{w0:World}{Q:Exit→Act→World→Prop}
def Fx(off:Nat)(us:List Value)(f:Nat→Value):Nat→Value:=fun j=>if off≤j∧j<off+us.length then us.getD (j-off) undef else f j
section
variable{α:Type} [Inhabited α]{r:Rp α}{E T:TypeId}{F:PH}{H:Heap}{B i off m o g:Nat}{v u:Value}{us:List Value}{l:List α}{a:α}{x y:Operand}
theorem Y5{l:List α}{i:Nat}(h:i<l.length):ix l i=l[i]:=by simp[ix,List.getD,h]
omit [Inhabited α] in
theorem J5{cs l:List Value}{o i:Nat}(ho:o+l.length≤cs.length):(Jc cs o l).getD i undef=if o≤i∧i<o+l.length then l.getD (i-o) undef else cs.getD i undef:=J6 l cs o i ho
theorem Gl.putl(h:Gl r E F H B v l)(hi:i<l.length)(hg:v.ownBlock=some g)(ho:off+us.length≤r.sz)(hok:∀f,r.ok F (ix l i) f→r.ok F a (Fx off us f)):Gl r E F (setl H g (i*r.sz+off) us) B v (l.set i a):=by
 obtain⟨xs,h1,h2,h3⟩:=h
 have hb:(i+1)*r.sz≤l.length*r.sz:=Nat.mul_le_mul_right _ hi
 rw[Nat.add_mul] at hb
 have hlen:i*r.sz+off+us.length≤xs.length:=by rw[h1.1];omega
 refine⟨Jc xs (i*r.sz+off) us,by rw[List.length_set];exact Gr.setl us _ h1 ⟨g,hg⟩ g hg,h2,fun j hj=>?_⟩
 rw[List.length_set] at hj
 by_cases e1:j=i
 ·subst e1
  rw[List.getElem_set_self]
  refine r.ext (fun q hq=>?_) (hok _ (by rw[Y5 hi];exact h3 j hi))
  rw[J5 hlen]
  unfold Fx
  by_cases h5:off≤q∧q<off+us.length
  ·rw[if_pos h5,if_pos (by omega),show j*r.sz+q-(j*r.sz+off)=q-off by omega]
  ·rw[if_neg h5,if_neg (by omega)]
 ·rw[List.getElem_set_ne (Ne.symm e1)]
  refine r.ext (fun q hq=>?_) (h3 j hj)
  rw[J5 hlen,if_neg]
  rintro⟨h5,h6⟩
  rcases Nat.lt_or_gt_of_ne e1 with h7|h7
  ·have:(j+1)*r.sz≤i*r.sz:=Nat.mul_le_mul_right _ h7
   rw[Nat.add_mul] at this;omega
  ·have:(i+1)*r.sz≤j*r.sz:=Nat.mul_le_mul_right _ h7
   rw[Nat.add_mul] at this;omega
omit [Inhabited α] in
theorem Gl.rw(h:Gl r E F H B v l)(hi:i<l.length)(hs:0<r.sz):∃g c n,v = .slice (some ⟨g,0,none⟩) l.length c∧(∃f,Rw H g E n f)∧l.length*r.sz≤n:=by
 obtain⟨xs,g1,g2,g3⟩:=h
 rcases g1.2 with⟨h9,h8⟩|⟨g,cap,cur,h9,hb,hg,hc1,hc2,hc3,hc4⟩
 ·omega
 ·exact⟨g,cap,cur.size,h9,⟨fun j=>cur.getD j undef,cur,hg,rfl,fun j hj=>by simp[Array.getD,hj]⟩,by rw[hc3];exact Nat.mul_le_mul_right _ hc1⟩
theorem Av.storeP(h:Gl r E F H B v l)(hi:i<l.length)(hT:Sz P T 1)(hx:ev e x=some (.pointer (some ⟨Cb v,o,none⟩)))(hoo:o=Ca v+i*r.sz+off)(hy:ev e y=some u)(h1:u.oneCell'=true)(ho:off<r.sz)(hok:∀f,r.ok F (ix l i) f→r.ok F a (Fx off [u] f)) :
  Av P e (.store T x y) H (fun _ H'=>∃g,v.ownBlock=some g∧Tw g H H'∧Gl r E F H' B v (l.set i a)):=by
 obtain⟨g,c,n,rfl,⟨f,hr⟩,hn⟩:=h.rw hi (by omega)
 have hb:(i+1)*r.sz≤l.length*r.sz:=Nat.mul_le_mul_right _ hi
 rw[Nat.add_mul] at hb
 intro ρ oo w hoo' hev hw
 have hx':ev e x=some (.pointer (some ⟨g,i*r.sz+off,none⟩)):=by rw[hx,hoo];simp[Cb,Ca]
 obtain⟨v',w',k1,k2,k3,k4,k5⟩:=Av.store (P:=P) hT hx' hy h1 hr (by omega) ρ oo w hoo' hev hw
 refine⟨v',w',k1,k2,k3,k4,g,rfl,by rw[k5];exact⟨Ss,fun k hk=>Su hk⟩,?_⟩
 rw[k5]
 exact h.putl (us:=[u]) hi rfl (by simp only[List.length_cons,List.length_nil];omega) hok
theorem Av.storePA(h:Gl r E F H B v l)(hi:i<l.length)(hT:Sz P T m)(hx:ev e x=some (.pointer (some ⟨Cb v,o,none⟩)))(hoo:o=Ca v+i*r.sz+off)(hy:ev e y=some (.agg us.toArray))(hl:us.length=m)(h1:∀u∈us,u.oneCell'=true)(hs:0<r.sz)(ho:off+us.length≤r.sz)(hok:∀f,r.ok F (ix l i) f→r.ok F a (Fx off us f)) :
  Av P e (.store T x y) H (fun _ H'=>∃g,v.ownBlock=some g∧Tw g H H'∧Gl r E F H' B v (l.set i a)):=by
 obtain⟨g,c,n,rfl,⟨f,hr⟩,hn⟩:=h.rw hi hs
 have hb:(i+1)*r.sz≤l.length*r.sz:=Nat.mul_le_mul_right _ hi
 rw[Nat.add_mul] at hb
 intro ρ oo w hoo' hev hw
 have hx':ev e x=some (.pointer (some ⟨g,i*r.sz+off,none⟩)):=by rw[hx,hoo];simp[Cb,Ca]
 obtain⟨v',w',k1,k2,k3,k4,k5⟩:=Av.storeAgg (P:=P) hT hx' hy hl h1 hr (by omega) ρ oo w hoo' hev hw
 refine⟨v',w',k1,k2,k3,k4,g,rfl,by rw[k5];exact⟨Wk _ _ _ _,fun k hk=>Wn hk _ _ _⟩,?_⟩
 rw[k5]
 exact h.putl hi rfl ho hok
theorem Gl.cellP(h:Gl r E F H B v l)(hi:i<l.length)(ho:off<r.sz):∃f,r.ok F (ix l i) f∧hc H (Cb v) (Ca v+i*r.sz+off)=some (f off):=by
 obtain⟨xs,g1,g2,g3⟩:=h
 have hb:(i+1)*r.sz≤l.length*r.sz:=Nat.mul_le_mul_right _ hi
 rw[Nat.add_mul] at hb
 refine⟨fun j=>xs.getD (i*r.sz+j) undef,by rw[Y5 hi];exact g3 i hi,?_⟩
 rcases g1.2 with⟨h9,h8⟩|⟨g,cap,cur,rfl,hb',hg,hc1,hc2,hc3,hc4⟩
 ·omega
 ·have h5:i*r.sz+off<cur.size:=by
   rw[hc3]
   have:l.length*r.sz≤cap*r.sz:=Nat.mul_le_mul_right _ hc1
   omega
  have h6:i*r.sz+off<l.length*r.sz:=by omega
  simp only[Cb,Ca,Nat.zero_add,hc,hg]
  rw[←hc4]
  simp[List.getD,h5,h6,List.getElem?_take]
section
variable{ops:Array Oper}{d:Nat}{ty:TypeId}{pos:String}{af:Array Edge}{rest:List Oper}
def PO(D:List Dt)(L:List Res)(r:Rp α)(a:α)(off:Nat)(us:List Value)(b:α):Prop:=∀F H,InH F H→AllD F D→Ok F H L→∀f,r.ok F a f→r.ok F b (Fx off us f)
theorem jsp(hk:Tk L (gl B r E v l) M)(hi:i<l.length)(hT:Sz P T 1)(hx:ev e x=some (.pointer (some ⟨Cb v,o,none⟩)))(hoo:o=Ca v+i*r.sz+off)(hy:ev e y=some u)(h1:u.oneCell'=true)(hok:PO D L r (ix l i) off [u] a)
  (k:LH P n w0 ops Q X D (gl B r E v (l.set i a)::M) e rest) (ho:off<r.sz:=by exact Nat.le_of_ble_eq_true rfl):LH P n w0 ops Q X D L e (⟨none,.store T x y,ty,pos,af,none⟩::rest):=fun F H hp =>
 LF.chg0 (Av.storeP (hp.at hk).1 hi hT hx hoo hy h1 ho (hok F H hp.hin hp.hd hp.ok)) (by
  rintro _ H' ⟨g,hg,t,hb⟩
  exact k F H' (hp.set (R':=gl B r E v (l.set i a)) hk ⟨Nat.le_of_eq t.1.symm,fun k _ h2=>t.2 k (fun e1=>h2 (e1▸hg))⟩ ⟨hb,by rw[t.1];exact hp1 hp hk⟩ (fun k h => .inr h)))
theorem Ui(hk:Tk L (gl B r E v l) M)(hi:i<l.length)(hT:Sz P T m)(hx:ev e x=some (.pointer (some ⟨Cb v,o,none⟩)))(hoo:o=Ca v+i*r.sz+off)(hy:ev e y=some (.agg us.toArray))(hl:us.length=m)(h1:Oa us)(hok:PO D L r (ix l i) off us a)
  (k:LH P n w0 ops Q X D (gl B r E v (l.set i a)::M) e rest) (ho:off+us.length≤r.sz:=by exact Nat.le_of_ble_eq_true rfl) (hs:0<r.sz:=by exact Nat.le_of_ble_eq_true rfl):LH P n w0 ops Q X D L e (⟨none,.store T x y,ty,pos,af,none⟩::rest):=fun F H hp =>
 LF.chg0 (Av.storePA (hp.at hk).1 hi hT hx hoo hy hl h1.mem hs ho (hok F H hp.hin hp.hd hp.ok)) (by
  rintro _ H' ⟨g,hg,t,hb⟩
  exact k F H' (hp.set (R':=gl B r E v (l.set i a)) hk ⟨Nat.le_of_eq t.1.symm,fun k _ h2=>t.2 k (fun e1=>h2 (e1▸hg))⟩ ⟨hb,by rw[t.1];exact hp1 hp hk⟩ (fun k h => .inr h)))
theorem Me{β:Type}{s:Rp β}{c:β}(hk:Tk L (gl B r E v l) M)(hi:i<l.length)(hT:One P T)(hx:ev e x=some (.pointer (some ⟨Cb v,o,none⟩)))(hoo:o=Ca v+i*r.sz+off)(hl:∀F f,r.ok F (ix l i) f→s.ok F c (fun _=>f off))(ho:off<r.sz:=by exact Nat.le_of_ble_eq_true rfl):OE P D L e (.load T x) (fun v F=>(dv s v c).sat F):=fun F H _ _ h=>by
 obtain⟨f,h1,h2⟩:=(hk.ok h).1.1.cellP hi ho
 exact⟨f off,Aa.load hT hx rfl (by rw[hoo];exact h2),hl F f h1⟩
end
theorem Av.makeN{z:Value}{bytes n:Nat}{I J:Int}(hT:P.underlying T=some (.slice E))(hE:(P.info? E).map (fun i=>(i.zero,i.size,i.bytes))=some (some z,r.sz,bytes))(hz:z.cells.size=r.sz)(hs:0<r.sz)
  (hx:ev e x=some (.int .i64 I)) (hy:ev e y=some (.int .i64 J)) (hI:I=n) (hJ:J=n) (h1:bytes*n≤281474976710656) (h2:n≤140737488355328) (hok:r.ok F a (fun j=>z.cells.getD j undef)) :
  Av P e (.makeSlice T x y) H (fun u H'=>∃g,u = .slice (some ⟨g,0,none⟩) n n∧g=H.size∧H'.size=H.size+1∧Kp H.size H H'∧(InH F H→Gl r E F H' H.size (.slice (some ⟨g,0,none⟩) n n) (List.replicate n a))):=by
 subst hI;subst hJ
 intro ρ o w ho hev hw
 obtain⟨i,hi,hzz⟩:=Option.map_eq_some_iff.1 hE
 simp only[Prod.mk.injEq] at hzz
 obtain⟨hz0,hs',hb⟩:=hzz
 have hb':(i.bytes:Int)*(n:Int)≤281474976710656:=by
  have h9:((i.bytes*n:Nat):Int)≤281474976710656:=by rw[hb];omega
  rwa[Int.natCast_mul] at h9
 have hr:=run_make (P:=P) w T E i z hT hi hz0 .i64 .i64 n n (by omega) (Int.le_refl _) hb' (by omega)
 refine⟨.slice (some ⟨w.heap.size,0,none⟩) n n,w.alloc (.cells (madeCells z.cells (n*i.size)) E),.inl ?_,rfl,rfl,rfl,H.size,?_⟩
 ·simp only[Int.toNat_natCast] at hr
  simp[execOp,ho,hev _ _ hx,hev _ _ hy,hr]
 ·subst hw
  refine⟨rfl,rfl,by show(w.heap.push _).size=_;simp,⟨by show _≤(w.heap.push _).size;simp,fun k hk=>Nq hk⟩,fun hin=>?_⟩
  refine Gl.ofRow (cs:=(madeCells z.cells (n*r.sz)).toList) ?_ (hin.nope (Nat.le_refl _)) (Nat.le_refl _) (by simp[madeCells]) (by simp) (by unfold maxLen;omega) (fun j hj=>?_)
  ·show(w.heap.push _)[w.heap.size]? = _
   rw[Nr,hs']
  ·simp only[List.length_replicate] at hj
   simp only[List.getElem_replicate]
   refine r.ext (fun q hq=>?_) hok
   have h3:j*r.sz+q<n*r.sz:=by
    have:(j+1)*r.sz≤n*r.sz:=Nat.mul_le_mul_right _ hj
    rw[Nat.add_mul] at this;omega
   have h4:(j*r.sz+q)%r.sz=q:=by rw[Nat.add_comm,Nat.add_mul_mod_self_right,Nat.mod_eq_of_lt hq]
   simp[List.getD,madeCells,hz,h3,h4,hq]
end
end Go.JE
namespace Go.JE
variable{P:Program}{D D0:List Dt}{L M:List Res}{e:Env}{X:Cx}{n:Fs}{w0:World}{Q:Exit→Act→World→Prop}
section
variable{ops:Array Oper}{op:Op}{d:Nat}{ty:TypeId}{pos:String}{af:Array Edge}{rest:List Oper}{f:FuncId}{g:Operand}{xs:List Operand}{vs cs:List Value}{ts:Array TypeId}
theorem jgk{j t:Nat}{want:Bool}{u:Value}(hj:(ops[j]?).bind (·.dst)=some t)(hu:lk e t=some u)(hB:Gd u want true)(h:LH P n w0 ops Q X D L e (⟨some d,op,ty,pos,af,none⟩::rest))(ht:Nat.blt t n.sz=true:=by rfl):LH P n w0 ops Q X D L e (⟨some d,op,ty,pos,af,some (j,want)⟩::rest):=fun F H hp a w hf hw=>by
 have hwt:=Qm (o:=⟨some d,op,ty,pos,af,some (j,want)⟩) rfl hj ht hf hu hB
 have h1:=h F H hp a w hf hw
 unfold wpList at h1 ⊢
 rw[if_pos hwt]
 rw[if_pos (by simp[Region.wanted])] at h1
 exact h1
theorem X9{α β:Type}[Inhabited β]{r:Rp α}{val:α→β→Value}{a:α}{j t:Nat}{want B:Bool}{u:Value}(hj:(ops[j]?).bind (·.dst)=some t)(hu:lk e t=some u)(hB:Gd u want B)(hE:Ent P f)(hf:ev e g=some (.func (.func f) #[] cs.toArray))(hl:B=true→evl e xs=some vs)(hT:B=true→Ts P f (vs++cs).toArray D0 [] r val a)(hd:B=true→Sd D L D0)
  (k:∀c,LH P n w0 ops Q X ((da r (val a c) a).if B::D) L ((d,gv B (val a c))::e) rest) (hd1:Nat.blt d n.sz=true:=by rfl) (ht:Nat.blt t n.sz=true:=by rfl):LH P n w0 ops Q X D L e (⟨some d,.call { callee := .value g,args:=xs.toArray,argTypes:=ts },ty,pos,af,some (j,want)⟩::rest):=fun F H h=>by
 refine LF.gcallF hj hu hB (fun hb=>Iv.fnc hE hf (hl hb)) (fun hb=>(hT hb).run h (hd hb) kn) (fun v' H' hz=>?_) hd1 ht
 rcases hz with⟨hb,i,F',rfl,h2⟩|⟨hb,rfl⟩
 ·exact k _ F' H' ⟨h2.hx,h2.hin,h2.hw,⟨fun _=>h2.hd.1,h2.hd.2⟩,h2.ok,h2.ge⟩
 ·subst hb;exact k default F _ (h.datum fun h=>by cases h)
instance:Inhabited Value:=⟨undef⟩
end
section
open Go
theorem HT{P:Program}{fn:Func}{p q:Tmp}{ty ty':TypeId}(h:fn.results=#[.cell p ty,.cell q ty'])(tmps:Array Value)(w:World)(g g':Nat)(t t':TypeId)(cs cs':Array Value)(fr fr':Nat×Nat)(d d':TypeDesc)
  (hp:tmps.getD p undef = .pointer (some ⟨g,0,none⟩)) (hg:w.heap[g]? = some (.cells cs t fr)) (hu:P.underlying ty=some d) (hd:(match d with | .struct _ | .array _ _=>true|_=>false)=true) (hi:(P.info? ty).map (·.size)=some cs.size)
  (hp':tmps.getD q undef = .pointer (some ⟨g',0,none⟩)) (hg':w.heap[g']? = some (.cells cs' t' fr')) (hu':P.underlying ty'=some d') (hd':(match d' with | .struct _ | .array _ _=>true|_=>false)=true) (hi':(P.info? ty').map (·.size)=some cs'.size) :
  (results fn tmps).run P w = .ok (.tuple #[.agg cs,.agg cs']) w:=by
 have h1:tmps[p]?.getD undef = .pointer (some ⟨g,0,none⟩):=by simpa using hp
 have h2:tmps[q]?.getD undef = .pointer (some ⟨g',0,none⟩):=by simpa using hp'
 simp[results,h,h1,h2,asAddr,run_loadVar_row w g t ty cs fr d hg hu hd hi,run_loadVar_row w g' t' ty' cs' fr' d' hg' hu' hd' hi']
variable{fn:Func}{m:Nat}{ι:Type}{val:ι→Value}{dr:ι→List Dt}{lr:Nat→ι→List Res}
theorem PF.retC2{H:Heap}{R:Value→Heap→Prop}{p q g g':Nat}{ty T ty' T':TypeId}{l l':List Value}(hr:fn.results=#[.cell p ty,.cell q ty'])(hv:lk e p=some (.pointer (some ⟨g,0,none⟩)))(hb:Bx H g T l)(hv':lk e q=some (.pointer (some ⟨g',0,none⟩)))(hb':Bx H g' T' l')
  (hd:Ag9 P ty) (hS:Sz P ty l.length) (hd':∃d,P.underlying ty'=some d∧(match d with | .struct _ | .array _ _=>true|_=>false)=true) (hS':Sz P ty' l'.length) (hR:R (.tuple #[.agg l.toArray,.agg l'.toArray]) H):PF ⟨m,[]⟩ w0 (BQ P fn w0 R) e .ret H:=by
 intro a w hf hw
 obtain⟨d,hd1,hd2⟩:=hd
 obtain⟨d',hd1',hd2'⟩:=hd'
 refine bodyPost_ret (HT hr _ w g g' T T' l.toArray l'.toArray (0,0) (0,0) d d' (hf.get p _ hv) (by rw[hw.heap];exact hb) hd1 (by cases d<;>first|rfl|cases hd2) (by unfold Sz at hS;simpa using hS) (hf.get q _ hv') (by rw[hw.heap];exact hb') hd1' (by cases d'<;>first|rfl|cases hd2') (by unfold Sz at hS';simpa using hS')) hf.defers ⟨_,rfl,hw.os,hw.tape,hw.output,hw.heap▸hR⟩
theorem ND{p g q g':Nat}{ty T ty' T':TypeId}{cs cs':List Value}{N N':List Res}(hr:fn.results=#[.cell p ty,.cell q ty'])(hv:lk e p=some (.pointer (some ⟨g,0,none⟩)))(hv':lk e q=some (.pointer (some ⟨g',0,none⟩)))(hb:Tk L (bx g T cs) N)(hb':Tk L (bx g' T' cs') N')(hA:Ag9 P ty)(hS:Sz P ty cs.length)(hA':∃d,P.underlying ty'=some d∧(match d with | .struct _ | .array _ _=>true|_=>false)=true)(hS':Sz P ty' cs'.length)
 (i:ι) (hm : .tuple #[.agg cs.toArray,.agg cs'.toArray]=val i) (hd:Sd D L (dr i)) (hk:∀B,B≤X.n→Tks L (lr B i) M):QH ⟨m,[]⟩ w0 (RQ2 P fn w0 X val dr lr) X D L e .ret:=fun F H hp=>PF.retC2 hr hv (hp.at hb).1 hv' (hp.at hb').1 hA hS hA' hS' ⟨i,F,hm,fun B hB=>hp.sub hd (hk B hB)⟩
end
theorem POa{α:Type}{r:Rp α}{a b:α}{us:List Value}(h:Nd D L (da r (.agg us.toArray) a))(hl:us.length=r.sz):PO D L r b 0 us a:=fun F H hin hd ho f _=>by
 obtain⟨l,e,_,h2⟩:=h F H hin hd ho
 have e2:l=us:=by injection e with e;simpa using(congrArg Array.toList e).symm
 subst e2
 exact r.ext (fun i hi=>by simp[Fx,hl,hi]) h2
end Go.JE
namespace Go.JE
open Go
variable{P:Program}{D D0:List Dt}{L M:List Res}{e:Env}{X:Cx}{n:Fs}{w0:World}{Q:Exit→Act→World→Prop}
section
variable{α:Type}{r:Rp α}{F:PH}{H:Heap}{x y:Operand}{T E:TypeId}{z:Value}{bytes B:Nat}{w2:Value}{l m:List α}{N N2:Nat}{ad:Addr}
end
section
variable{α:Type}{r:Rp α}{ops:Array Oper}{d:Nat}{ty:TypeId}{pos:String}{af:Array Edge}{rest:List Oper}{x y hx' mx':Operand}{T E:TypeId}{z v w2:Value}{bytes:Nat}{l m:List α}{k k':IntKind}{I J:Int}{hi N:Nat}
end
section
variable{α:Type}{r:Rp α}{ops:Array Oper}{d:Nat}{ty:TypeId}{pos:String}{af:Array Edge}{rest:List Oper}{x y:Operand}{T E:TypeId}{z v w2:Value}{bytes:Nat}{l m:List α}{N:Nat}
end
section
variable{α:Type}{r:Rp α}{x hx' mx':Operand}{T E:TypeId}{v:Value}{l:List α}{k k':IntKind}{I J:Int}{hi N:Nat}
end
end Go.JE
namespace Go.JE
open Go
abbrev Ris(l:List Int):Prop:=l.Pairwise (·<·)
theorem K9:∀{a b:List Int},Ris a→Ris b→(∀x,x∈a↔x∈b)→a=b
 | [],[],_,_,_=>rfl
 | [],y::b,_,_,h=>absurd ((h y).2 (by simp)) (by simp)
 | x::a,[],_,_,h=>absurd ((h x).1 (by simp)) (by simp)
 | x::a,y::b,ha,hb,h=>by
  rw[Ris,List.pairwise_cons] at ha hb
  have e:x=y:=by
   rcases List.mem_cons.1 ((h x).1 (by simp)) with e|e
   ·exact e
   ·rcases List.mem_cons.1 ((h y).2 (by simp)) with e2|e2
    ·exact e2.symm
    ·have:=hb.1 x e;have:=ha.1 y e2;omega
  subst e
  rw[K9 ha.2 hb.2 fun z=>?_]
  constructor
  ·intro hz
   rcases List.mem_cons.1 ((h z).1 (by simp[hz])) with e|e
   ·subst e;have:=ha.1 z hz;omega
   ·exact e
  ·intro hz
   rcases List.mem_cons.1 ((h z).2 (by simp[hz])) with e|e
   ·subst e;have:=hb.1 z hz;omega
   ·exact e
section
variable{L L':List (Int×Value)}{S:List Int}{k:Int}
end
variable{P:Program}{D D0:List Dt}{L M N:List Res}{e:Env}{X:Cx}{n:Fs}{w0:World}{Q:Exit→Act→World→Prop}
section
variable{ops:Array Oper}{op:Op}{d:Nat}{ty:TypeId}{pos:String}{af:Array Edge}{rest:List Oper}{T T' K E:TypeId}{x y z:Operand}{g B:Nat}{S:List Int}{k:Int}{v u:Value}
end
section
variable{α:Type}{r:Rp α}{T To:TypeId}{B i:Nat}{vs:List Value}{ls:List (List α)}{l':List α}{ops:Array Oper}{rest:List Oper}{c:Code}{z:Exit}
end
end Go.JE
namespace Go.Proofs.YtmfkkodnghambaaGreat
open Go.Shelf Go.JE
shelf_lay Lays.n189 Nm 189 at Tryz as Tryz.lays189
open Go.Sort Go.RowKit in
theorem Tryz.sort_int(blk off cap:Nat)(zs:List Int)(w:World)(hH:Holds (Value.int .i64) w blk off zs.toArray)(hblk:blk<w.heap.size)(hsz:zs.length<4611686018427387904) :
 Calls Tryz.prog 188 #[.slice (some ⟨blk,off,none⟩) zs.length cap] w fun e w' =>
  e = .returned (.tuple #[])∧∃n os,w'=grow (putRow (Value.int .i64) (Sort.ahead w n) blk off (zs.mergeSort fun x y=>decide (x≤y)).toArray) os:=Any.slices_Sort_int Tryz.lays189 blk off cap zs w hH hblk hsz
theorem Tryz.sort_none(p:Option Addr)(cap:Nat)(w:World) :
 Calls Tryz.prog 188 #[.slice p 0 cap] w fun e w'=>e = .returned (.tuple #[])∧w'=w:=Any.slices_Sort_int_none Tryz.lays189 p cap w
def Hx(l:List Int):List Int:=l.mergeSort fun x y=>decide (x≤y)
open Go.Sort Go.RowKit in
theorem GE{F:PH}{H:Heap}(hin:InH F H){B:Nat}{v:Value}{l:List Int}(p:Gl (rI .i64) 3 F H B v l)(hl:l.length<1073741824) :
  Ct Tryz.prog 188 #[v] H (fun u H'=>u = .tuple #[]∧Kw (Xm v) H H'∧Gl (rI .i64) 3 F H' B v (Hx l)):=by
 obtain⟨xs,o1,o2,o3⟩:=p
 have hlen:(Hx l).length=l.length:=List.length_mergeSort l
 intro w hw
 rcases o1.2 with⟨rfl,e2⟩|⟨g,cap,cur,rfl,hb,hg,hc1,hc2,hc3,hc4⟩
 ·refine(Tryz.sort_none none 0 w).mono ?_
  rintro e w' ⟨rfl,rfl⟩
  have hn:l=[]:=List.eq_nil_of_length_eq_zero e2
  subst hn
  refine⟨_,rfl,rfl,rfl,rfl,rfl,by rw[hw];exact Kw.refl _ _,?_⟩
  rw[show Hx []=[] from by simp[Hx]];exact Gl.nil _ _ _
 ·have hgl:g<w.heap.size:=by rw[hw];exact(Array.getElem?_eq_some_iff.1 hg).1
  have hxl:xs.length=l.length:=by have:=o1.1;rw[show(rI .i64).sz=1 from rfl,Nat.mul_one] at this;exact this
  have hxs:xs=l.map (Value.int .i64):=by
   apply List.ext_getElem (by rw[hxl,List.length_map])
   intro i h1 h2
   rw[List.getElem_map]
   have:xs.getD (i*1+0) undef=Value.int .i64 l[i]:=(o3 i (by omega)).1
   rw[Nat.mul_one,Nat.add_zero,List.getD_eq_getElem?_getD,List.getElem?_eq_getElem h1] at this
   exact this
  have ht:cur.toList.take l.length=l.map (Value.int .i64):=by
   rw[←hxs,←hc4,show(rI .i64).sz=1 from rfl,Nat.mul_one]
  have hH:=holds_of_blockI (w:=w) (g:=g) (cur:=cur) (e:=3) (ss:=l) (by rw[hw];exact hg) ht
  refine(Tryz.sort_int g 0 cap l w hH hgl (by omega)).mono ?_
  rintro e w' ⟨rfl,n,os,rfl⟩
  have hgb:=grownBy_sortedI (w:=w) (g:=g) (n:=n) (os:=os) (Hx l).toArray
  have hro:=ownsRow_sortedI (w:=w) (base:=B) (g:=g) (cap:=cap) (n:=n) (e:=3) (os:=os) (cur:=cur) (ss:=l) (ts:=Hx l) hlen hb (by rw[hw];exact hg) hc1 hc2 hc3
  refine⟨_,rfl,hgb.os,hgb.tape,hgb.output,rfl,⟨by rw[←hw];exact hgb.size,fun k hk hn=>?_⟩,?_⟩
  ·rw[←hw] at hk ⊢
   exact hgb.block k hk (fun e1=>hn (show some g=some k from e1.symm))
  ·refine⟨(Hx l).map (Value.int .i64),?_,o2,fun i hi=>?_⟩
   ·rw[hlen];exact Gr.owns.1 hro
   ·have hm:(Hx l)[i]∈l:=(List.mergeSort_perm l _).subset (List.getElem_mem hi)
    obtain⟨j,hj,e1⟩:=List.getElem_of_mem hm
    refine⟨?_,?_⟩
    ·show((Hx l).map (Value.int .i64)).getD (i*1+0) undef=_
     rw[Nat.mul_one,Nat.add_zero,List.getD_eq_getElem?_getD,List.getElem?_map,List.getElem?_eq_getElem hi];rfl
    ·rw[←e1];exact(o3 j hj).2
open Go.JE in
theorem GF{B:Nat}{v:Value}{l:List Int}(hl:l.length<1073741824):Tr Tryz.prog 188 #[v] [] [gl B (rI .i64) 3 v l] (fun _:Unit => .tuple #[]) (fun _=>[]) (fun _ _=>[gl B (rI .i64) 3 v (Hx l)]):=fun F H hin _ ho =>
 (GE hin ho.1.1 hl).mono fun u H' ⟨h1,h2,h3⟩=>⟨(),F,h1,fun B' _=>⟨PH.ext.refl F,hin.kw h2 (fun k hk=>ho.1.1.no k hk),⟨h2.1,fun k hk hn=>h2.2 k hk (fun h=>hn (.inl h))⟩,trivial,⟨⟨h3,Nat.le_trans ho.1.2 h2.1⟩,fun _ _=>id,trivial⟩,fun k hk => .inr hk⟩⟩
theorem GG{l:List Int}{x:Int}:x∈Hx l↔x∈l:=(List.mergeSort_perm l _).mem_iff
theorem GH(l:List Int):(Hx l).Pairwise (·≤·):=by
 have h:=List.pairwise_mergeSort (le:=fun x y:Int=>decide (x≤y)) (fun a b c h1 h2=>by simp at *;omega) (fun a b=>by simp;omega) l
 exact h.imp (fun h=>by simpa using h)
shelf_lay Lays2.n20 Nm2 20 at Tryz as Tryz.lays20
open Go.Sort Go.RowKit in
theorem Tryz.comp_int(blk off cap:Nat)(zs:List Int)(w:World)(hH:Holds (Value.int .i64) w blk off zs.toArray)(hsz:zs.length≤9223372036854775807)(hcap:zs.length≤cap) :
 Calls Tryz.prog 189 #[.slice (some ⟨blk,off,none⟩) zs.length cap] w fun e w'=>e = .returned (.slice (some ⟨blk,off,none⟩) (Lib.compact zs).length cap)∧∃q,w'=putRow (Value.int .i64) (Sort.ahead w q) blk off (Lib.compact zs++List.replicate (zs.length-(Lib.compact zs).length) 0).toArray:=Any.slices_Compact_int Tryz.lays20 blk off cap zs w hH hsz hcap
theorem Tryz.comp_none(a:Option Addr)(cap:Nat)(w:World):Calls Tryz.prog 189 #[.slice a 0 cap] w fun e w'=>e = .returned (.slice a 0 cap)∧w'=w:=Any.slices_Compact_int_empty Tryz.lays20 a cap w
theorem BH(l:List Int):(Lib.compact l).length≤l.length:=by
 unfold Lib.compact Lib.compactUpTo
 rw[List.length_map]
 exact Nat.le_trans (List.length_filter_le _ _) (by simp)
theorem BG{l:List Int}{x:Int}(h:x∈Lib.compact l):x∈l:=by
 unfold Lib.compact Lib.compactUpTo at h
 obtain⟨j,hj,rfl⟩:=List.mem_map.1 h
 have:=List.mem_range.1 (List.mem_filter.1 hj).1
 simp[this]
open Go.Sort Go.RowKit in
theorem RR{F:PH}{H:Heap}(hin:InH F H){B:Nat}{v:Value}{l:List Int}(p:Gl (rI .i64) 3 F H B v l)(hl:l.length<1073741824) :
  Ct Tryz.prog 189 #[v] H (fun u H'=>u.ownBlock=v.ownBlock∧Kw (Xm v) H H'∧Gl (rI .i64) 3 F H' B u (Lib.compact l)):=by
 obtain⟨xs,o1,o2,o3⟩:=p
 have hlen:=BH l
 intro w hw
 rcases o1.2 with⟨rfl,e2⟩|⟨g,cap,cur,rfl,hb,hg,hc1,hc2,hc3,hc4⟩
 ·refine(Tryz.comp_none none 0 w).mono ?_
  rintro e w' ⟨rfl,rfl⟩
  have hn:l=[]:=List.eq_nil_of_length_eq_zero e2
  subst hn
  refine⟨_,rfl,rfl,rfl,rfl,rfl,by rw[hw];exact Kw.refl _ _,?_⟩
  rw[show Lib.compact ([]:List Int)=[] from by simp[Lib.compact,Lib.compactUpTo]];exact Gl.nil _ _ _
 ·have hgl:g<w.heap.size:=by rw[hw];exact(Array.getElem?_eq_some_iff.1 hg).1
  have hxl:xs.length=l.length:=by have:=o1.1;rw[show(rI .i64).sz=1 from rfl,Nat.mul_one] at this;exact this
  have hxs:xs=l.map (Value.int .i64):=by
   apply List.ext_getElem (by rw[hxl,List.length_map])
   intro i h1 h2
   rw[List.getElem_map]
   have:xs.getD (i*1+0) undef=Value.int .i64 l[i]:=(o3 i (by omega)).1
   rw[Nat.mul_one,Nat.add_zero,List.getD_eq_getElem?_getD,List.getElem?_eq_getElem h1] at this
   exact this
  have ht:cur.toList.take l.length=l.map (Value.int .i64):=by
   rw[←hxs,←hc4,show(rI .i64).sz=1 from rfl,Nat.mul_one]
  have hH:=holds_of_blockI (w:=w) (g:=g) (cur:=cur) (e:=3) (ss:=l) (by rw[hw];exact hg) ht
  refine(Tryz.comp_int g 0 cap l w hH (by omega) hc1).mono ?_
  rintro e w' ⟨rfl,n,rfl⟩
  have htl:(Lib.compact l++List.replicate (l.length-(Lib.compact l).length) 0).length=l.length:=by simp;omega
  have e9:∀W:World,grow W #[]=W:=fun W=>by cases W;simp[grow]
  generalize hts:Lib.compact l++List.replicate (l.length-(Lib.compact l).length) 0=ts at htl ⊢
  rw[←e9 (putRow _ _ _ _ _)]
  have hgb:=grownBy_sortedI (w:=w) (g:=g) (n:=n) (os:=#[]) ts.toArray
  have hro:=ownsRow_sortedI (w:=w) (base:=B) (g:=g) (cap:=cap) (n:=n) (e:=3) (os:=#[]) (cur:=cur) (ss:=l) (ts:=ts) htl hb (by rw[hw];exact hg) hc1 hc2 hc3
  refine⟨_,rfl,hgb.os,hgb.tape,hgb.output,rfl,⟨by rw[←hw];exact hgb.size,fun k hk hn=>?_⟩,?_⟩
  ·rw[←hw] at hk ⊢
   exact hgb.block k hk (fun e1=>hn (show some g=some k from e1.symm))
  ·refine⟨(Lib.compact l).map (Value.int .i64),?_,o2,fun i hi=>?_⟩
   ·obtain⟨_,h2⟩:=Gr.owns.1 hro
    rcases h2 with⟨h2,_⟩|⟨g2,cap2,cur2,e1,f1,f2,f3,f4,f5,f6⟩
    ·cases h2
    ·injection e1 with e1 _ e2
     injection e1 with e1
     injection e1 with e1
     subst e1;subst e2
     refine⟨by simp[show(rI .i64).sz=1 from rfl],.inr ⟨g,cap,cur2,rfl,f1,f2,by omega,f4,f5,?_⟩⟩
     rw[show(rI .i64).sz=1 from rfl,Nat.mul_one]
     rw[Nat.mul_one] at f6
     have h7:cur2.toList.take (Lib.compact l).length=(cur2.toList.take l.length).take (Lib.compact l).length:=by rw[List.take_take,Nat.min_eq_left hlen]
     rw[h7,f6,←hts,List.map_append,List.take_left' (by simp)]
   ·have hm:(Lib.compact l)[i]∈l:=BG (List.getElem_mem hi)
    obtain⟨j,hj,e1⟩:=List.getElem_of_mem hm
    refine⟨?_,?_⟩
    ·show((Lib.compact l).map (Value.int .i64)).getD (i*1+0) undef=_
     rw[Nat.mul_one,Nat.add_zero,List.getD_eq_getElem?_getD,List.getElem?_map,List.getElem?_eq_getElem hi];rfl
    ·rw[←e1];exact(o3 j hj).2
open Go.JE in
theorem RS{B:Nat}{v:Value}{l:List Int}(hl:l.length<1073741824):Tr Tryz.prog 189 #[v] [] [gl B (rI .i64) 3 v l] (fun u:Value=>u) (fun _=>[]) (fun _ u=>[gl B (rI .i64) 3 u (Lib.compact l)]):=fun F H hin _ ho =>
 (RR hin ho.1.1 hl).mono fun u H' ⟨h0,h2,h3⟩=>⟨u,F,rfl,fun B' _=>⟨PH.ext.refl F,hin.kw h2 (fun k hk=>ho.1.1.no k hk),⟨h2.1,fun k hk hn=>h2.2 k hk (fun h=>hn (.inl h))⟩,trivial,⟨⟨h3,Nat.le_trans ho.1.2 h2.1⟩,fun _ _=>id,trivial⟩,fun k hk => .inr (by rcases hk with hk|hk;(exact .inl (show v.ownBlock=some k from by rw[←h0];exact hk));exact .inr hk)⟩⟩
theorem RO{l:List Int}(h:l.Pairwise (·≤·)):(Lib.compact l).Pairwise (·<·):=by
 unfold Lib.compact Lib.compactUpTo
 rw[List.pairwise_map]
 have h1:((List.range l.length).filter (Lib.keeps l.toArray)).Pairwise (·<·):=List.Pairwise.filter _ List.pairwise_lt_range
 rw[List.pairwise_iff_forall_sublist] at h1 ⊢
 intro a b hs
 have h2:=h1 hs
 have ha:=List.mem_filter.1 (hs.subset (show a∈[a,b] by simp))
 have hb:=List.mem_filter.1 (hs.subset (show b∈[a,b] by simp))
 have hbl:=List.mem_range.1 hb.1
 have hk:=hb.2
 unfold Lib.keeps at hk
 simp only[decide_eq_true_eq] at hk
 have h3:=List.pairwise_iff_getElem.1 h
 have e:∀j,(hj:j<l.length)→l.toArray[j]! = l[j]:=fun j hj=>by simp[hj]
 rw[e a (by omega),e b hbl]
 rw[e b hbl,e (b-1) (by omega)] at hk
 have h4:=h3 (b-1) b (by omega) hbl (by omega)
 rcases Nat.lt_or_ge a (b-1) with h5|h5
 ·have:=h3 a (b-1) (by omega) (by omega) h5;omega
 ·have:a=b-1:=by omega
  subst this;omega
theorem RP{l:List Int}{x:Int}:x∈Lib.compact l↔x∈l:=by
 refine⟨BG,fun h=>?_⟩
 obtain⟨j,hj,e⟩:=List.getElem_of_mem h
 have key:∀j,(hj:j<l.length)→l[j]=x→x∈Lib.compact l:=by
  intro j
  induction j using Nat.strongRecOn with
  | ind j ih =>
   intro hj e
   by_cases hk:Lib.keeps l.toArray j=true
   ·unfold Lib.compact Lib.compactUpTo
    exact List.mem_map.2 ⟨j,List.mem_filter.2 ⟨List.mem_range.2 hj,hk⟩,by simp[hj,e]⟩
   ·unfold Lib.keeps at hk
    simp only[decide_eq_true_eq,not_or,ne_eq,Classical.not_not] at hk
    refine ih (j-1) (by omega) (by omega) ?_
    have e2:∀j,(hj:j<l.length)→l.toArray[j]! = l[j]:=fun j hj=>by simp[hj]
    rw[e2 j hj,e2 (j-1) (by omega)] at hk
    rw[←hk.2];exact e
 exact key j hj e
shelf_lay Lays.n112 Nm 112 at Tryz as Tryz.lays112
def Ho(l:List Int):List Int:=l.reverse
open Go.Sort Go.RowKit in
theorem Tryz.rev_int(blk off cap:Nat)(zs:List Int)(w:World)(hH:Holds (Value.int .i64) w blk off zs.toArray)(hsz:zs.length≤9223372036854775807) :
 Calls Tryz.prog 184 #[.slice (some ⟨blk,off,none⟩) zs.length cap] w fun e w'=>e = .returned (.tuple #[])∧∃n,w'=putRow (Value.int .i64) (Sort.ahead w n) blk off zs.reverse.toArray:=Any.slices_Reverse_int Tryz.lays112 blk off cap zs w hH hsz
theorem Tryz.rev_none(p:Option Addr)(cap:Nat)(w:World):Calls Tryz.prog 184 #[.slice p 0 cap] w fun e w'=>e = .returned (.tuple #[])∧w'=w:=Any.slices_Reverse_int_empty Tryz.lays112 p cap w
open Go.Sort Go.RowKit in
theorem HQ{F:PH}{H:Heap}(hin:InH F H){B:Nat}{v:Value}{l:List Int}(p:Gl (rI .i64) 3 F H B v l)(hl:l.length<1073741824) :
  Ct Tryz.prog 184 #[v] H (fun u H'=>u = .tuple #[]∧Kw (Xm v) H H'∧Gl (rI .i64) 3 F H' B v (Ho l)):=by
 obtain⟨xs,o1,o2,o3⟩:=p
 have hlen:(Ho l).length=l.length:=List.length_reverse
 intro w hw
 rcases o1.2 with⟨rfl,e2⟩|⟨g,cap,cur,rfl,hb,hg,hc1,hc2,hc3,hc4⟩
 ·refine(Tryz.rev_none none 0 w).mono ?_
  rintro e w' ⟨rfl,rfl⟩
  have hn:l=[]:=List.eq_nil_of_length_eq_zero e2
  subst hn
  refine⟨_,rfl,rfl,rfl,rfl,rfl,by rw[hw];exact Kw.refl _ _,?_⟩
  rw[show Ho []=[] from by simp[Ho]];exact Gl.nil _ _ _
 ·have hgl:g<w.heap.size:=by rw[hw];exact(Array.getElem?_eq_some_iff.1 hg).1
  have hxl:xs.length=l.length:=by have:=o1.1;rw[show(rI .i64).sz=1 from rfl,Nat.mul_one] at this;exact this
  have hxs:xs=l.map (Value.int .i64):=by
   apply List.ext_getElem (by rw[hxl,List.length_map])
   intro i h1 h2
   rw[List.getElem_map]
   have:xs.getD (i*1+0) undef=Value.int .i64 l[i]:=(o3 i (by omega)).1
   rw[Nat.mul_one,Nat.add_zero,List.getD_eq_getElem?_getD,List.getElem?_eq_getElem h1] at this
   exact this
  have ht:cur.toList.take l.length=l.map (Value.int .i64):=by
   rw[←hxs,←hc4,show(rI .i64).sz=1 from rfl,Nat.mul_one]
  have hH:=holds_of_blockI (w:=w) (g:=g) (cur:=cur) (e:=3) (ss:=l) (by rw[hw];exact hg) ht
  refine(Tryz.rev_int g 0 cap l w hH (by omega)).mono ?_
  rintro e w' ⟨rfl,n,rfl⟩
  have e9:∀W:World,grow W #[]=W:=fun W=>by cases W;simp[grow]
  rw[←e9 (putRow _ _ _ _ _)]
  generalize (#[]:Array Obj)=os
  have hgb:=grownBy_sortedI (w:=w) (g:=g) (n:=n) (os:=os) (Ho l).toArray
  have hro:=ownsRow_sortedI (w:=w) (base:=B) (g:=g) (cap:=cap) (n:=n) (e:=3) (os:=os) (cur:=cur) (ss:=l) (ts:=Ho l) hlen hb (by rw[hw];exact hg) hc1 hc2 hc3
  refine⟨_,rfl,hgb.os,hgb.tape,hgb.output,rfl,⟨by rw[←hw];exact hgb.size,fun k hk hn=>?_⟩,?_⟩
  ·rw[←hw] at hk ⊢
   exact hgb.block k hk (fun e1=>hn (show some g=some k from e1.symm))
  ·refine⟨(Ho l).map (Value.int .i64),?_,o2,fun i hi=>?_⟩
   ·rw[hlen];exact Gr.owns.1 hro
   ·have hm:(Ho l)[i]∈l:=List.mem_reverse.1 (List.getElem_mem hi)
    obtain⟨j,hj,e1⟩:=List.getElem_of_mem hm
    refine⟨?_,?_⟩
    ·show((Ho l).map (Value.int .i64)).getD (i*1+0) undef=_
     rw[Nat.mul_one,Nat.add_zero,List.getD_eq_getElem?_getD,List.getElem?_map,List.getElem?_eq_getElem hi];rfl
    ·rw[←e1];exact(o3 j hj).2
open Go.JE in
theorem HR{B:Nat}{v:Value}{l:List Int}(hl:l.length<1073741824):Tr Tryz.prog 184 #[v] [] [gl B (rI .i64) 3 v l] (fun _:Unit => .tuple #[]) (fun _=>[]) (fun _ _=>[gl B (rI .i64) 3 v (Ho l)]):=fun F H hin _ ho =>
 (HQ hin ho.1.1 hl).mono fun u H' ⟨h1,h2,h3⟩=>⟨(),F,h1,fun B' _=>⟨PH.ext.refl F,hin.kw h2 (fun k hk=>ho.1.1.no k hk),⟨h2.1,fun k hk hn=>h2.2 k hk (fun h=>hn (.inl h))⟩,trivial,⟨⟨h3,Nat.le_trans ho.1.2 h2.1⟩,fun _ _=>id,trivial⟩,fun k hk => .inr hk⟩⟩
open Go.JE
structure D.In where
 From:Int
 Val:Int
deriving DecidableEq
instance:Inhabited D.In:=⟨⟨0,0⟩⟩
def rIn:Rp D.In:=rM (rP (rI .i64) (rI .i64)) (fun m=>(m.From,m.Val))
theorem rIn.at_From{F:PH}{b o:Nat}{m:D.In}(h:At F rIn b o m):At F (rI .i64) b (o+0) m.From:=At.part 0 h (Nat.le_of_ble_eq_true rfl) (fun _ h=>h.1)
theorem rIn.at_Val{F:PH}{b o:Nat}{m:D.In}(h:At F rIn b o m):At F (rI .i64) b (o+1) m.Val:=At.part 1 h (Nat.le_of_ble_eq_true rfl) (fun _ h=>h.2)
theorem rIn.open{F:PH}{v:Value}{m:D.In}(h:rIn.ra F v m):v = .agg #[.int .i64 m.From,.int .i64 m.Val]:=by
 obtain⟨l,rfl,hl,h⟩:=h
 match l,hl with
 | [a0,a1],_ =>
  obtain⟨⟨h0,_⟩,⟨h1,_⟩⟩:=h
  obtain rfl:a0=_:=h0
  obtain rfl:a1=_:=h1
  exact rfl
theorem rIn.mk{F:PH}{m:D.In}(w0:IntKind.i64.wrap m.From=m.From)(w1:IntKind.i64.wrap m.Val=m.Val):rIn.ra F (.agg #[.int .i64 m.From,.int .i64 m.Val]) m:=⟨[.int .i64 m.From,.int .i64 m.Val],rfl,rfl,⟨⟨rfl,w0⟩,⟨rfl,w1⟩⟩⟩
structure D.Phi where
 Dst:Int
 In:List D.In
deriving DecidableEq
instance:Inhabited D.Phi:=⟨⟨0,[]⟩⟩
def Fo(N:Nat):Rp D.Phi:=rM (rP (rI .i64) (rLn N rIn)) (fun m=>(m.Dst,m.In))
abbrev Aw:Rp D.Phi:=Fo 1073741824
theorem Aw.at_Dst{N:Nat}{F:PH}{b o:Nat}{m:D.Phi}(h:At F (Fo N) b o m):At F (rI .i64) b (o+0) m.Dst:=At.part 0 h (Nat.le_of_ble_eq_true rfl) (fun _ h=>h.1)
theorem Aw.at_In{N:Nat}{F:PH}{b o:Nat}{m:D.Phi}(h:At F (Fo N) b o m):At F (rLn N rIn) b (o+1) m.In:=At.part 1 h (Nat.le_of_ble_eq_true rfl) (fun _ h=>h.2)
theorem Aw.any{N:Nat}{F:PH}{v:Value}{m:D.Phi}(h:(Fo N).ra F v m):∃f,(Fo N).ok F m f:=by obtain⟨l,_,_,h⟩:=h;exact⟨_,h⟩
theorem Aw.w_Dst{N:Nat}{F:PH}{m:D.Phi}(h:∃f,(Fo N).ok F m f):IntKind.i64.wrap m.Dst=m.Dst:=by obtain⟨_,h⟩:=h;exact(h.1).2
theorem Aw.open{N:Nat}{F:PH}{v:Value}{m:D.Phi}(h:(Fo N).ra F v m):∃c1,v = .agg #[.int .i64 m.Dst,c1]∧(rLn N rIn).rv F c1 m.In:=by
 obtain⟨l,rfl,hl,h⟩:=h
 match l,hl with
 | [a0,a1],_ =>
  obtain⟨⟨h0,_⟩,h1⟩:=h
  obtain rfl:a0=_:=h0
  exact⟨a1,rfl,h1⟩
theorem Aw.mk{N:Nat}{F:PH}{m:D.Phi}{c1:Value}(h1:(rLn N rIn).rv F c1 m.In)(w0:IntKind.i64.wrap m.Dst=m.Dst):(Fo N).ra F (.agg #[.int .i64 m.Dst,c1]) m:=⟨[.int .i64 m.Dst,c1],rfl,rfl,⟨⟨rfl,w0⟩,h1⟩⟩
structure D.Mach where
 Op:Int
 D:Int
 E:Int
 A:Int
 B:Int
 C:Int
 Imm:Int
 Args:List Int
deriving DecidableEq
instance:Inhabited D.Mach:=⟨⟨0,0,0,0,0,0,0,[]⟩⟩
structure D.End where
 Op:Int
 A:Int
 B:Int
 To:List Int
 Imm:Int
deriving DecidableEq
instance:Inhabited D.End:=⟨⟨0,0,0,[],0⟩⟩
structure D.MBlock where
 Phis:List D.Phi
 Ins:List D.Mach
 End:D.End
deriving DecidableEq
instance:Inhabited D.MBlock:=⟨⟨[],[],default⟩⟩
structure D.MFunc where
 Params:Int
 Blocks:List D.MBlock
deriving DecidableEq
instance:Inhabited D.MFunc:=⟨⟨0,[]⟩⟩
structure D.Input where
 Args:List Int
 Mem:List Int
 Answers:List Int
 Steps:Int
deriving DecidableEq
instance:Inhabited D.Input:=⟨⟨[],[],[],0⟩⟩
def Mn(N:Nat):Rp D.Input:=rM (rP (rLn N (rI .i32)) (rP (rLn N (rI .i32)) (rP (rLn N (rI .i32)) (rI .i64)))) (fun m=>(m.Args,m.Mem,m.Answers,m.Steps))
abbrev Br:Rp D.Input:=Mn 1073741824
theorem Br.open{N:Nat}{F:PH}{v:Value}{m:D.Input}(h:(Mn N).ra F v m):∃c0 c1 c2,v = .agg #[c0,c1,c2,.int .i64 m.Steps]∧(rLn N (rI .i32)).rv F c0 m.Args∧(rLn N (rI .i32)).rv F c1 m.Mem∧(rLn N (rI .i32)).rv F c2 m.Answers:=by
 obtain⟨l,rfl,hl,h⟩:=h
 match l,hl with
 | [a0,a1,a2,a3],_ =>
  obtain⟨h0,h1,h2,⟨h3,_⟩⟩:=h
  obtain rfl:a3=_:=h3
  exact⟨a0,a1,a2,rfl,h0,h1,h2⟩
theorem Br.mk{N:Nat}{F:PH}{m:D.Input}{c0:Value}{c1:Value}{c2:Value}(h0:(rLn N (rI .i32)).rv F c0 m.Args)(h1:(rLn N (rI .i32)).rv F c1 m.Mem)(h2:(rLn N (rI .i32)).rv F c2 m.Answers)(w3:IntKind.i64.wrap m.Steps=m.Steps):(Mn N).ra F (.agg #[c0,c1,c2,.int .i64 m.Steps]) m:=⟨[c0,c1,c2,.int .i64 m.Steps],rfl,rfl,⟨h0,h1,h2,⟨rfl,w3⟩⟩⟩
structure D.Event where
 Callee:Int
 Args:List Int
deriving DecidableEq
instance:Inhabited D.Event:=⟨⟨0,[]⟩⟩
def Ig(N:Nat):Rp D.Event:=rM (rP (rI .i32) (rLn N (rI .i32))) (fun m=>(m.Callee,m.Args))
abbrev Dr:Rp D.Event:=Ig 1073741824
theorem Dr.at_Callee{N:Nat}{F:PH}{b o:Nat}{m:D.Event}(h:At F (Ig N) b o m):At F (rI .i32) b (o+0) m.Callee:=At.part 0 h (Nat.le_of_ble_eq_true rfl) (fun _ h=>h.1)
theorem Dr.at_Args{N:Nat}{F:PH}{b o:Nat}{m:D.Event}(h:At F (Ig N) b o m):At F (rLn N (rI .i32)) b (o+1) m.Args:=At.part 1 h (Nat.le_of_ble_eq_true rfl) (fun _ h=>h.2)
theorem Dr.open{N:Nat}{F:PH}{v:Value}{m:D.Event}(h:(Ig N).ra F v m):∃c1,v = .agg #[.int .i32 m.Callee,c1]∧(rLn N (rI .i32)).rv F c1 m.Args:=by
 obtain⟨l,rfl,hl,h⟩:=h
 match l,hl with
 | [a0,a1],_ =>
  obtain⟨⟨h0,_⟩,h1⟩:=h
  obtain rfl:a0=_:=h0
  exact⟨a1,rfl,h1⟩
theorem Dr.mk{N:Nat}{F:PH}{m:D.Event}{c1:Value}(h1:(rLn N (rI .i32)).rv F c1 m.Args)(w0:IntKind.i32.wrap m.Callee=m.Callee):(Ig N).ra F (.agg #[.int .i32 m.Callee,c1]) m:=⟨[.int .i32 m.Callee,c1],rfl,rfl,⟨⟨rfl,w0⟩,h1⟩⟩
structure D.Outcome where
 End:Int
 Val:Int
 Mem:List Int
 Calls:List D.Event
 Steps:Int
deriving DecidableEq
instance:Inhabited D.Outcome:=⟨⟨0,0,[],[],0⟩⟩
def Nn(N:Nat):Rp D.Outcome:=rM (rP (rI .i64) (rP (rI .i32) (rP (rLn N (rI .i32)) (rP (rLn N (Ig N)) (rI .i64))))) (fun m=>(m.End,m.Val,m.Mem,m.Calls,m.Steps))
abbrev Co:Rp D.Outcome:=Nn 1073741824
theorem Co.open{N:Nat}{F:PH}{v:Value}{m:D.Outcome}(h:(Nn N).ra F v m):∃c2 c3,v = .agg #[.int .i64 m.End,.int .i32 m.Val,c2,c3,.int .i64 m.Steps]∧(rLn N (rI .i32)).rv F c2 m.Mem∧(rLn N (Ig N)).rv F c3 m.Calls:=by
 obtain⟨l,rfl,hl,h⟩:=h
 match l,hl with
 | [a0,a1,a2,a3,a4],_ =>
  obtain⟨⟨h0,_⟩,⟨h1,_⟩,h2,h3,⟨h4,_⟩⟩:=h
  obtain rfl:a0=_:=h0
  obtain rfl:a1=_:=h1
  obtain rfl:a4=_:=h4
  exact⟨a2,a3,rfl,h2,h3⟩
theorem Co.mk{N:Nat}{F:PH}{m:D.Outcome}{c2:Value}{c3:Value}(h2:(rLn N (rI .i32)).rv F c2 m.Mem)(h3:(rLn N (Ig N)).rv F c3 m.Calls)(w0:IntKind.i64.wrap m.End=m.End)(w1:IntKind.i32.wrap m.Val=m.Val)(w4:IntKind.i64.wrap m.Steps=m.Steps):(Nn N).ra F (.agg #[.int .i64 m.End,.int .i32 m.Val,c2,c3,.int .i64 m.Steps]) m:=⟨[.int .i64 m.End,.int .i32 m.Val,c2,c3,.int .i64 m.Steps],rfl,rfl,⟨⟨rfl,w0⟩,⟨rfl,w1⟩,h2,h3,⟨rfl,w4⟩⟩⟩
structure D.Ins where
 Op:Int
 Dst:Int
 Two:Int
 Args:List Int
 Imm:Int
deriving DecidableEq
instance:Inhabited D.Ins:=⟨⟨0,0,0,[],0⟩⟩
def Fc(N:Nat):Rp D.Ins:=rM (rP (rI .i64) (rP (rI .i64) (rP (rI .i64) (rP (rLn N (rI .i64)) (rI .i32))))) (fun m=>(m.Op,m.Dst,m.Two,m.Args,m.Imm))
abbrev Am:Rp D.Ins:=Fc 1073741824
theorem Am.at_Args{N:Nat}{F:PH}{b o:Nat}{m:D.Ins}(h:At F (Fc N) b o m):At F (rLn N (rI .i64)) b (o+3) m.Args:=At.part 3 h (Nat.le_of_ble_eq_true rfl) (fun _ h=>h.2.2.2.1)
theorem Am.any{N:Nat}{F:PH}{v:Value}{m:D.Ins}(h:(Fc N).ra F v m):∃f,(Fc N).ok F m f:=by obtain⟨l,_,_,h⟩:=h;exact⟨_,h⟩
theorem Am.w_Dst{N:Nat}{F:PH}{m:D.Ins}(h:∃f,(Fc N).ok F m f):IntKind.i64.wrap m.Dst=m.Dst:=by obtain⟨_,h⟩:=h;exact(h.2.1).2
theorem Am.w_Two{N:Nat}{F:PH}{m:D.Ins}(h:∃f,(Fc N).ok F m f):IntKind.i64.wrap m.Two=m.Two:=by obtain⟨_,h⟩:=h;exact(h.2.2.1).2
theorem Am.w_Imm{N:Nat}{F:PH}{m:D.Ins}(h:∃f,(Fc N).ok F m f):IntKind.i32.wrap m.Imm=m.Imm:=by obtain⟨_,h⟩:=h;exact(h.2.2.2.2).2
theorem Am.open{N:Nat}{F:PH}{v:Value}{m:D.Ins}(h:(Fc N).ra F v m):∃c3,v = .agg #[.int .i64 m.Op,.int .i64 m.Dst,.int .i64 m.Two,c3,.int .i32 m.Imm]∧(rLn N (rI .i64)).rv F c3 m.Args:=by
 obtain⟨l,rfl,hl,h⟩:=h
 match l,hl with
 | [a0,a1,a2,a3,a4],_ =>
  obtain⟨⟨h0,_⟩,⟨h1,_⟩,⟨h2,_⟩,h3,⟨h4,_⟩⟩:=h
  obtain rfl:a0=_:=h0
  obtain rfl:a1=_:=h1
  obtain rfl:a2=_:=h2
  obtain rfl:a4=_:=h4
  exact⟨a3,rfl,h3⟩
theorem Am.mk{N:Nat}{F:PH}{m:D.Ins}{c3:Value}(h3:(rLn N (rI .i64)).rv F c3 m.Args)(w0:IntKind.i64.wrap m.Op=m.Op)(w1:IntKind.i64.wrap m.Dst=m.Dst)(w2:IntKind.i64.wrap m.Two=m.Two)(w4:IntKind.i32.wrap m.Imm=m.Imm):(Fc N).ra F (.agg #[.int .i64 m.Op,.int .i64 m.Dst,.int .i64 m.Two,c3,.int .i32 m.Imm]) m:=⟨[.int .i64 m.Op,.int .i64 m.Dst,.int .i64 m.Two,c3,.int .i32 m.Imm],rfl,rfl,⟨⟨rfl,w0⟩,⟨rfl,w1⟩,⟨rfl,w2⟩,h3,⟨rfl,w4⟩⟩⟩
structure D.Term where
 Kind:Int
 Args:List Int
 To:List Int
 Imm:Int
deriving DecidableEq
instance:Inhabited D.Term:=⟨⟨0,[],[],0⟩⟩
def Fw(N:Nat):Rp D.Term:=rM (rP (rI .i64) (rP (rLn N (rI .i64)) (rP (rLn N (rI .i64)) (rI .i32)))) (fun m=>(m.Kind,m.Args,m.To,m.Imm))
abbrev Bf:Rp D.Term:=Fw 1073741824
theorem Bf.at_To{N:Nat}{F:PH}{b o:Nat}{m:D.Term}(h:At F (Fw N) b o m):At F (rLn N (rI .i64)) b (o+2) m.To:=At.part 2 h (Nat.le_of_ble_eq_true rfl) (fun _ h=>h.2.2.1)
theorem Bf.any{N:Nat}{F:PH}{v:Value}{m:D.Term}(h:(Fw N).ra F v m):∃f,(Fw N).ok F m f:=by obtain⟨l,_,_,h⟩:=h;exact⟨_,h⟩
theorem Bf.w_Kind{N:Nat}{F:PH}{m:D.Term}(h:∃f,(Fw N).ok F m f):IntKind.i64.wrap m.Kind=m.Kind:=by obtain⟨_,h⟩:=h;exact(h.1).2
theorem Bf.w_Imm{N:Nat}{F:PH}{m:D.Term}(h:∃f,(Fw N).ok F m f):IntKind.i32.wrap m.Imm=m.Imm:=by obtain⟨_,h⟩:=h;exact(h.2.2.2).2
theorem Bf.open{N:Nat}{F:PH}{v:Value}{m:D.Term}(h:(Fw N).ra F v m):∃c1 c2,v = .agg #[.int .i64 m.Kind,c1,c2,.int .i32 m.Imm]∧(rLn N (rI .i64)).rv F c1 m.Args∧(rLn N (rI .i64)).rv F c2 m.To:=by
 obtain⟨l,rfl,hl,h⟩:=h
 match l,hl with
 | [a0,a1,a2,a3],_ =>
  obtain⟨⟨h0,_⟩,h1,h2,⟨h3,_⟩⟩:=h
  obtain rfl:a0=_:=h0
  obtain rfl:a3=_:=h3
  exact⟨a1,a2,rfl,h1,h2⟩
theorem Bf.mk{N:Nat}{F:PH}{m:D.Term}{c1:Value}{c2:Value}(h1:(rLn N (rI .i64)).rv F c1 m.Args)(h2:(rLn N (rI .i64)).rv F c2 m.To)(w0:IntKind.i64.wrap m.Kind=m.Kind)(w3:IntKind.i32.wrap m.Imm=m.Imm):(Fw N).ra F (.agg #[.int .i64 m.Kind,c1,c2,.int .i32 m.Imm]) m:=⟨[.int .i64 m.Kind,c1,c2,.int .i32 m.Imm],rfl,rfl,⟨⟨rfl,w0⟩,h1,h2,⟨rfl,w3⟩⟩⟩
structure D.Block where
 Phis:List D.Phi
 Ins:List D.Ins
 Term:D.Term
deriving DecidableEq
instance:Inhabited D.Block:=⟨⟨[],[],default⟩⟩
def Et(N:Nat):Rp D.Block:=rM (rP (rLn N (Fo N)) (rP (rLn N (Fc N)) (Fw N))) (fun m=>(m.Phis,m.Ins,m.Term))
abbrev Af:Rp D.Block:=Et 1073741824
theorem Af.at_Phis{N:Nat}{F:PH}{b o:Nat}{m:D.Block}(h:At F (Et N) b o m):At F (rLn N (Fo N)) b (o+0) m.Phis:=At.part 0 h (Nat.le_of_ble_eq_true rfl) (fun _ h=>h.1)
theorem Af.at_Ins{N:Nat}{F:PH}{b o:Nat}{m:D.Block}(h:At F (Et N) b o m):At F (rLn N (Fc N)) b (o+1) m.Ins:=At.part 1 h (Nat.le_of_ble_eq_true rfl) (fun _ h=>h.2.1)
theorem Af.at_Term{N:Nat}{F:PH}{b o:Nat}{m:D.Block}(h:At F (Et N) b o m):At F (Fw N) b (o+2) m.Term:=At.part 2 h (Nat.le_of_ble_eq_true rfl) (fun _ h=>h.2.2)
theorem Af.any{N:Nat}{F:PH}{v:Value}{m:D.Block}(h:(Et N).ra F v m):∃f,(Et N).ok F m f:=by obtain⟨l,_,_,h⟩:=h;exact⟨_,h⟩
theorem Af.k_Term{N:Nat}{F:PH}{m:D.Block}(h:∃f,(Et N).ok F m f):∃f,(Fw N).ok F m.Term f:=by obtain⟨_,h⟩:=h;exact⟨_,h.2.2⟩
theorem Af.open{N:Nat}{F:PH}{v:Value}{m:D.Block}(h:(Et N).ra F v m):∃c0 c1 c3 c4,v = .agg #[c0,c1,.int .i64 m.Term.Kind,c3,c4,.int .i32 m.Term.Imm]∧(rLn N (Fo N)).rv F c0 m.Phis∧(rLn N (Fc N)).rv F c1 m.Ins∧(rLn N (rI .i64)).rv F c3 m.Term.Args∧(rLn N (rI .i64)).rv F c4 m.Term.To:=by
 obtain⟨l,rfl,hl,h⟩:=h
 match l,hl with
 | [a0,a1,a2,a3,a4,a5],_ =>
  obtain⟨h0,h1,⟨⟨h2,_⟩,h3,h4,⟨h5,_⟩⟩⟩:=h
  obtain rfl:a2=_:=h2
  obtain rfl:a5=_:=h5
  exact⟨a0,a1,a3,a4,rfl,h0,h1,h3,h4⟩
theorem Af.mk{N:Nat}{F:PH}{m:D.Block}{c0:Value}{c1:Value}{c3:Value}{c4:Value}(h0:(rLn N (Fo N)).rv F c0 m.Phis)(h1:(rLn N (Fc N)).rv F c1 m.Ins)(h3:(rLn N (rI .i64)).rv F c3 m.Term.Args)(h4:(rLn N (rI .i64)).rv F c4 m.Term.To)(w2:IntKind.i64.wrap m.Term.Kind=m.Term.Kind)(w5:IntKind.i32.wrap m.Term.Imm=m.Term.Imm):(Et N).ra F (.agg #[c0,c1,.int .i64 m.Term.Kind,c3,c4,.int .i32 m.Term.Imm]) m:=⟨[c0,c1,.int .i64 m.Term.Kind,c3,c4,.int .i32 m.Term.Imm],rfl,rfl,⟨h0,h1,⟨⟨rfl,w2⟩,h3,h4,⟨rfl,w5⟩⟩⟩⟩
structure D.Func where
 Params:Int
 Blocks:List D.Block
deriving DecidableEq
instance:Inhabited D.Func:=⟨⟨0,[]⟩⟩
def Lh(N:Nat):Rp D.Func:=rM (rP (rI .i64) (rLn N (Et N))) (fun m=>(m.Params,m.Blocks))
abbrev Aj:Rp D.Func:=Lh 1073741824
theorem Aj.any{N:Nat}{F:PH}{v:Value}{m:D.Func}(h:(Lh N).ra F v m):∃f,(Lh N).ok F m f:=by obtain⟨l,_,_,h⟩:=h;exact⟨_,h⟩
theorem Aj.w_Params{N:Nat}{F:PH}{m:D.Func}(h:∃f,(Lh N).ok F m f):IntKind.i64.wrap m.Params=m.Params:=by obtain⟨_,h⟩:=h;exact(h.1).2
theorem Aj.open{N:Nat}{F:PH}{v:Value}{m:D.Func}(h:(Lh N).ra F v m):∃c1,v = .agg #[.int .i64 m.Params,c1]∧(rLn N (Et N)).rv F c1 m.Blocks:=by
 obtain⟨l,rfl,hl,h⟩:=h
 match l,hl with
 | [a0,a1],_ =>
  obtain⟨⟨h0,_⟩,h1⟩:=h
  obtain rfl:a0=_:=h0
  exact⟨a1,rfl,h1⟩
theorem Aj.mk{N:Nat}{F:PH}{m:D.Func}{c1:Value}(h1:(rLn N (Et N)).rv F c1 m.Blocks)(w0:IntKind.i64.wrap m.Params=m.Params):(Lh N).ra F (.agg #[.int .i64 m.Params,c1]) m:=⟨[.int .i64 m.Params,c1],rfl,rfl,⟨⟨rfl,w0⟩,h1⟩⟩
structure D.Tg3 where
 Block:Int
 Place:Int
 Makes:List Int
 Takes:List Int
deriving DecidableEq
instance:Inhabited D.Tg3:=⟨⟨0,0,[],[]⟩⟩
def Km(N:Nat):Rp D.Tg3:=rM (rP (rI .i64) (rP (rI .i64) (rP (rLn N (rI .i64)) (rLn N (rI .i64))))) (fun m=>(m.Block,m.Place,m.Makes,m.Takes))
abbrev Be:Rp D.Tg3:=Km 1073741824
theorem Be.at_Block{N:Nat}{F:PH}{b o:Nat}{m:D.Tg3}(h:At F (Km N) b o m):At F (rI .i64) b (o+0) m.Block:=At.part 0 h (Nat.le_of_ble_eq_true rfl) (fun _ h=>h.1)
theorem Be.at_Makes{N:Nat}{F:PH}{b o:Nat}{m:D.Tg3}(h:At F (Km N) b o m):At F (rLn N (rI .i64)) b (o+2) m.Makes:=At.part 2 h (Nat.le_of_ble_eq_true rfl) (fun _ h=>h.2.2.1)
theorem Be.open{N:Nat}{F:PH}{v:Value}{m:D.Tg3}(h:(Km N).ra F v m):∃c2 c3,v = .agg #[.int .i64 m.Block,.int .i64 m.Place,c2,c3]∧(rLn N (rI .i64)).rv F c2 m.Makes∧(rLn N (rI .i64)).rv F c3 m.Takes:=by
 obtain⟨l,rfl,hl,h⟩:=h
 match l,hl with
 | [a0,a1,a2,a3],_ =>
  obtain⟨⟨h0,_⟩,⟨h1,_⟩,h2,h3⟩:=h
  obtain rfl:a0=_:=h0
  obtain rfl:a1=_:=h1
  exact⟨a2,a3,rfl,h2,h3⟩
theorem Be.mk{N:Nat}{F:PH}{m:D.Tg3}{c2:Value}{c3:Value}(h2:(rLn N (rI .i64)).rv F c2 m.Makes)(h3:(rLn N (rI .i64)).rv F c3 m.Takes)(w0:IntKind.i64.wrap m.Block=m.Block)(w1:IntKind.i64.wrap m.Place=m.Place):(Km N).ra F (.agg #[.int .i64 m.Block,.int .i64 m.Place,c2,c3]) m:=⟨[.int .i64 m.Block,.int .i64 m.Place,c2,c3],rfl,rfl,⟨⟨rfl,w0⟩,⟨rfl,w1⟩,h2,h3⟩⟩
@[reducible] def vIn (m:D.In) (c:Unit):Value := .agg #[.int .i64 m.From,.int .i64 m.Val]
theorem sIn:Sr rIn vIn:=⟨fun h=>⟨(),rIn.open h⟩⟩
theorem rIn.A_From{Γ:List Dt}{L:List Res}{b o:Nat}{m:D.In}(h:Nd Γ L (ad rIn b o m)):Nd Γ L (ad (rI .i64) b (o+0) m.From):=fun F H x y z=>rIn.at_From (h F H x y z)
theorem rIn.A_Val{Γ:List Dt}{L:List Res}{b o:Nat}{m:D.In}(h:Nd Γ L (ad rIn b o m)):Nd Γ L (ad (rI .i64) b (o+1) m.Val):=fun F H x y z=>rIn.at_Val (h F H x y z)
theorem rIn.M{Γ:List Dt}{L:List Res}{m:D.In}{c:Unit}(w0:Wr Γ L .i64 m.From)(w1:Wr Γ L .i64 m.Val):Nd Γ L (da rIn (vIn m c) m):=fun F H x y z=>rIn.mk (m:=m) (w0 F H x y z) (w1 F H x y z)
@[reducible] def vPhi (m:D.Phi) (c:Value):Value := .agg #[.int .i64 m.Dst,c]
theorem Wt{N:Nat}:Sr (Fo N) vPhi:=⟨fun h=>by obtain⟨c1,e,_⟩:=Aw.open h;exact⟨c1,e⟩⟩
theorem Aw.c_In{N:Nat}{Γ:List Dt}{L:List Res}{m:D.Phi}{c:Value}(h:Nd Γ L (da (Fo N) (vPhi m c) m)):Nd Γ L (dv (rLn N rIn) c m.In):=fun F H x y z=>Ht rfl ((Hq (h F H x y z)).2) rfl
theorem Aw.W_Dst{N:Nat}{Γ:List Dt}{L:List Res}{v:Value}{m:D.Phi}(h:Nd Γ L (da (Fo N) v m)):Wr Γ L .i64 m.Dst:=fun F H x y z=>Aw.w_Dst (m:=m) (Aw.any (h F H x y z))
theorem Aw.A_Dst{N:Nat}{Γ:List Dt}{L:List Res}{b o:Nat}{m:D.Phi}(h:Nd Γ L (ad (Fo N) b o m)):Nd Γ L (ad (rI .i64) b (o+0) m.Dst):=fun F H x y z=>Aw.at_Dst (h F H x y z)
theorem Aw.A_In{N:Nat}{Γ:List Dt}{L:List Res}{b o:Nat}{m:D.Phi}(h:Nd Γ L (ad (Fo N) b o m)):Nd Γ L (ad (rLn N rIn) b (o+1) m.In):=fun F H x y z=>Aw.at_In (h F H x y z)
theorem Aw.M{N:Nat}{Γ:List Dt}{L:List Res}{m:D.Phi}{c:Value}(h0:Nd Γ L (dv (rLn N rIn) c m.In))(w0:Wr Γ L .i64 m.Dst):Nd Γ L (da (Fo N) (vPhi m c) m):=fun F H x y z=>Aw.mk (m:=m) (h0 F H x y z) (w0 F H x y z)
@[reducible] def vInput (m:D.Input) (c:Value×Value×Value):Value := .agg #[c.1,c.2.1,c.2.2,.int .i64 m.Steps]
theorem WB{N:Nat}:Sr (Mn N) vInput:=⟨fun h=>by obtain⟨c0,c1,c2,e,_,_,_⟩:=Br.open h;exact⟨(c0,c1,c2),e⟩⟩
theorem Br.c_Args{N:Nat}{Γ:List Dt}{L:List Res}{m:D.Input}{c:Value×Value×Value}(h:Nd Γ L (da (Mn N) (vInput m c) m)):Nd Γ L (dv (rLn N (rI .i32)) c.1 m.Args):=fun F H x y z=>Ht rfl ((Hq (h F H x y z)).1) rfl
theorem Br.c_Mem{N:Nat}{Γ:List Dt}{L:List Res}{m:D.Input}{c:Value×Value×Value}(h:Nd Γ L (da (Mn N) (vInput m c) m)):Nd Γ L (dv (rLn N (rI .i32)) c.2.1 m.Mem):=fun F H x y z=>Ht rfl ((Hq (h F H x y z)).2.1) rfl
theorem Br.c_Answers{N:Nat}{Γ:List Dt}{L:List Res}{m:D.Input}{c:Value×Value×Value}(h:Nd Γ L (da (Mn N) (vInput m c) m)):Nd Γ L (dv (rLn N (rI .i32)) c.2.2 m.Answers):=fun F H x y z=>Ht rfl ((Hq (h F H x y z)).2.2.1) rfl
theorem Br.M{N:Nat}{Γ:List Dt}{L:List Res}{m:D.Input}{c:Value×Value×Value}(h0:Nd Γ L (dv (rLn N (rI .i32)) c.1 m.Args))(h1:Nd Γ L (dv (rLn N (rI .i32)) c.2.1 m.Mem))(h2:Nd Γ L (dv (rLn N (rI .i32)) c.2.2 m.Answers))(w0:Wr Γ L .i64 m.Steps):Nd Γ L (da (Mn N) (vInput m c) m):=fun F H x y z=>Br.mk (m:=m) (h0 F H x y z) (h1 F H x y z) (h2 F H x y z) (w0 F H x y z)
@[reducible] def vEvent (m:D.Event) (c:Value):Value := .agg #[.int .i32 m.Callee,c]
theorem WD{N:Nat}:Sr (Ig N) vEvent:=⟨fun h=>by obtain⟨c1,e,_⟩:=Dr.open h;exact⟨c1,e⟩⟩
theorem Dr.A_Callee{N:Nat}{Γ:List Dt}{L:List Res}{b o:Nat}{m:D.Event}(h:Nd Γ L (ad (Ig N) b o m)):Nd Γ L (ad (rI .i32) b (o+0) m.Callee):=fun F H x y z=>Dr.at_Callee (h F H x y z)
theorem Dr.A_Args{N:Nat}{Γ:List Dt}{L:List Res}{b o:Nat}{m:D.Event}(h:Nd Γ L (ad (Ig N) b o m)):Nd Γ L (ad (rLn N (rI .i32)) b (o+1) m.Args):=fun F H x y z=>Dr.at_Args (h F H x y z)
theorem Dr.M{N:Nat}{Γ:List Dt}{L:List Res}{m:D.Event}{c:Value}(h0:Nd Γ L (dv (rLn N (rI .i32)) c m.Args))(w0:Wr Γ L .i32 m.Callee):Nd Γ L (da (Ig N) (vEvent m c) m):=fun F H x y z=>Dr.mk (m:=m) (h0 F H x y z) (w0 F H x y z)
@[reducible] def vOutcome (m:D.Outcome) (c:Value×Value):Value := .agg #[.int .i64 m.End,.int .i32 m.Val,c.1,c.2,.int .i64 m.Steps]
theorem WA{N:Nat}:Sr (Nn N) vOutcome:=⟨fun h=>by obtain⟨c2,c3,e,_,_⟩:=Co.open h;exact⟨(c2,c3),e⟩⟩
theorem Co.c_Mem{N:Nat}{Γ:List Dt}{L:List Res}{m:D.Outcome}{c:Value×Value}(h:Nd Γ L (da (Nn N) (vOutcome m c) m)):Nd Γ L (dv (rLn N (rI .i32)) c.1 m.Mem):=fun F H x y z=>Ht rfl ((Hq (h F H x y z)).2.2.1) rfl
theorem Co.c_Calls{N:Nat}{Γ:List Dt}{L:List Res}{m:D.Outcome}{c:Value×Value}(h:Nd Γ L (da (Nn N) (vOutcome m c) m)):Nd Γ L (dv (rLn N (Ig N)) c.2 m.Calls):=fun F H x y z=>Ht rfl ((Hq (h F H x y z)).2.2.2.1) rfl
theorem Co.M{N:Nat}{Γ:List Dt}{L:List Res}{m:D.Outcome}{c:Value×Value}(h0:Nd Γ L (dv (rLn N (rI .i32)) c.1 m.Mem))(h1:Nd Γ L (dv (rLn N (Ig N)) c.2 m.Calls))(w0:Wr Γ L .i64 m.End)(w1:Wr Γ L .i32 m.Val)(w2:Wr Γ L .i64 m.Steps):Nd Γ L (da (Nn N) (vOutcome m c) m):=fun F H x y z=>Co.mk (m:=m) (h0 F H x y z) (h1 F H x y z) (w0 F H x y z) (w1 F H x y z) (w2 F H x y z)
@[reducible] def vIns (m:D.Ins) (c:Value):Value := .agg #[.int .i64 m.Op,.int .i64 m.Dst,.int .i64 m.Two,c,.int .i32 m.Imm]
theorem Mb{N:Nat}:Sr (Fc N) vIns:=⟨fun h=>by obtain⟨c3,e,_⟩:=Am.open h;exact⟨c3,e⟩⟩
theorem Am.c_Args{N:Nat}{Γ:List Dt}{L:List Res}{m:D.Ins}{c:Value}(h:Nd Γ L (da (Fc N) (vIns m c) m)):Nd Γ L (dv (rLn N (rI .i64)) c m.Args):=fun F H x y z=>Ht rfl ((Hq (h F H x y z)).2.2.2.1) rfl
theorem Am.W_Dst{N:Nat}{Γ:List Dt}{L:List Res}{v:Value}{m:D.Ins}(h:Nd Γ L (da (Fc N) v m)):Wr Γ L .i64 m.Dst:=fun F H x y z=>Am.w_Dst (m:=m) (Am.any (h F H x y z))
theorem Am.W_Two{N:Nat}{Γ:List Dt}{L:List Res}{v:Value}{m:D.Ins}(h:Nd Γ L (da (Fc N) v m)):Wr Γ L .i64 m.Two:=fun F H x y z=>Am.w_Two (m:=m) (Am.any (h F H x y z))
theorem Am.W_Imm{N:Nat}{Γ:List Dt}{L:List Res}{v:Value}{m:D.Ins}(h:Nd Γ L (da (Fc N) v m)):Wr Γ L .i32 m.Imm:=fun F H x y z=>Am.w_Imm (m:=m) (Am.any (h F H x y z))
theorem Am.A_Args{N:Nat}{Γ:List Dt}{L:List Res}{b o:Nat}{m:D.Ins}(h:Nd Γ L (ad (Fc N) b o m)):Nd Γ L (ad (rLn N (rI .i64)) b (o+3) m.Args):=fun F H x y z=>Am.at_Args (h F H x y z)
theorem Am.M{N:Nat}{Γ:List Dt}{L:List Res}{m:D.Ins}{c:Value}(h0:Nd Γ L (dv (rLn N (rI .i64)) c m.Args))(w0:Wr Γ L .i64 m.Op)(w1:Wr Γ L .i64 m.Dst)(w2:Wr Γ L .i64 m.Two)(w3:Wr Γ L .i32 m.Imm):Nd Γ L (da (Fc N) (vIns m c) m):=fun F H x y z=>Am.mk (m:=m) (h0 F H x y z) (w0 F H x y z) (w1 F H x y z) (w2 F H x y z) (w3 F H x y z)
@[reducible] def vTerm (m:D.Term) (c:Value×Value):Value := .agg #[.int .i64 m.Kind,c.1,c.2,.int .i32 m.Imm]
theorem VZ{N:Nat}:Sr (Fw N) vTerm:=⟨fun h=>by obtain⟨c1,c2,e,_,_⟩:=Bf.open h;exact⟨(c1,c2),e⟩⟩
theorem Bf.c_Args{N:Nat}{Γ:List Dt}{L:List Res}{m:D.Term}{c:Value×Value}(h:Nd Γ L (da (Fw N) (vTerm m c) m)):Nd Γ L (dv (rLn N (rI .i64)) c.1 m.Args):=fun F H x y z=>Ht rfl ((Hq (h F H x y z)).2.1) rfl
theorem Bf.c_To{N:Nat}{Γ:List Dt}{L:List Res}{m:D.Term}{c:Value×Value}(h:Nd Γ L (da (Fw N) (vTerm m c) m)):Nd Γ L (dv (rLn N (rI .i64)) c.2 m.To):=fun F H x y z=>Ht rfl ((Hq (h F H x y z)).2.2.1) rfl
theorem Bf.W_Kind{N:Nat}{Γ:List Dt}{L:List Res}{v:Value}{m:D.Term}(h:Nd Γ L (da (Fw N) v m)):Wr Γ L .i64 m.Kind:=fun F H x y z=>Bf.w_Kind (m:=m) (Bf.any (h F H x y z))
theorem Bf.W_Imm{N:Nat}{Γ:List Dt}{L:List Res}{v:Value}{m:D.Term}(h:Nd Γ L (da (Fw N) v m)):Wr Γ L .i32 m.Imm:=fun F H x y z=>Bf.w_Imm (m:=m) (Bf.any (h F H x y z))
theorem Bf.A_To{N:Nat}{Γ:List Dt}{L:List Res}{b o:Nat}{m:D.Term}(h:Nd Γ L (ad (Fw N) b o m)):Nd Γ L (ad (rLn N (rI .i64)) b (o+2) m.To):=fun F H x y z=>Bf.at_To (h F H x y z)
theorem Bf.M{N:Nat}{Γ:List Dt}{L:List Res}{m:D.Term}{c:Value×Value}(h0:Nd Γ L (dv (rLn N (rI .i64)) c.1 m.Args))(h1:Nd Γ L (dv (rLn N (rI .i64)) c.2 m.To))(w0:Wr Γ L .i64 m.Kind)(w1:Wr Γ L .i32 m.Imm):Nd Γ L (da (Fw N) (vTerm m c) m):=fun F H x y z=>Bf.mk (m:=m) (h0 F H x y z) (h1 F H x y z) (w0 F H x y z) (w1 F H x y z)
@[reducible] def vBlock (m:D.Block) (c:Value×Value×Value×Value):Value := .agg #[c.1,c.2.1,.int .i64 m.Term.Kind,c.2.2.1,c.2.2.2,.int .i32 m.Term.Imm]
theorem Le{N:Nat}:Sr (Et N) vBlock:=⟨fun h=>by obtain⟨c0,c1,c3,c4,e,_,_,_,_⟩:=Af.open h;exact⟨(c0,c1,c3,c4),e⟩⟩
theorem Af.cP{N:Nat}{Γ:List Dt}{L:List Res}{m:D.Block}{c:Value×Value×Value×Value}(h:Nd Γ L (da (Et N) (vBlock m c) m)):Nd Γ L (dv (rLn N (Fo N)) c.1 m.Phis):=fun F H x y z=>Ht rfl ((Hq (h F H x y z)).1) rfl
theorem Af.cI{N:Nat}{Γ:List Dt}{L:List Res}{m:D.Block}{c:Value×Value×Value×Value}(h:Nd Γ L (da (Et N) (vBlock m c) m)):Nd Γ L (dv (rLn N (Fc N)) c.2.1 m.Ins):=fun F H x y z=>Ht rfl ((Hq (h F H x y z)).2.1) rfl
theorem Af.c_Term_Args{N:Nat}{Γ:List Dt}{L:List Res}{m:D.Block}{c:Value×Value×Value×Value}(h:Nd Γ L (da (Et N) (vBlock m c) m)):Nd Γ L (dv (rLn N (rI .i64)) c.2.2.1 m.Term.Args):=fun F H x y z=>Ht rfl ((Hq (h F H x y z)).2.2.2.1) rfl
theorem Af.c_Term_To{N:Nat}{Γ:List Dt}{L:List Res}{m:D.Block}{c:Value×Value×Value×Value}(h:Nd Γ L (da (Et N) (vBlock m c) m)):Nd Γ L (dv (rLn N (rI .i64)) c.2.2.2 m.Term.To):=fun F H x y z=>Ht rfl ((Hq (h F H x y z)).2.2.2.2.1) rfl
theorem Af.W_Term_Kind{N:Nat}{Γ:List Dt}{L:List Res}{v:Value}{m:D.Block}(h:Nd Γ L (da (Et N) v m)):Wr Γ L .i64 m.Term.Kind:=fun F H x y z=>Bf.w_Kind (m:=m.Term) (Af.k_Term (m:=m) (Af.any (h F H x y z)))
theorem Af.W_Term_Imm{N:Nat}{Γ:List Dt}{L:List Res}{v:Value}{m:D.Block}(h:Nd Γ L (da (Et N) v m)):Wr Γ L .i32 m.Term.Imm:=fun F H x y z=>Bf.w_Imm (m:=m.Term) (Af.k_Term (m:=m) (Af.any (h F H x y z)))
theorem Af.A_Phis{N:Nat}{Γ:List Dt}{L:List Res}{b o:Nat}{m:D.Block}(h:Nd Γ L (ad (Et N) b o m)):Nd Γ L (ad (rLn N (Fo N)) b (o+0) m.Phis):=fun F H x y z=>Af.at_Phis (h F H x y z)
theorem Af.A_Ins{N:Nat}{Γ:List Dt}{L:List Res}{b o:Nat}{m:D.Block}(h:Nd Γ L (ad (Et N) b o m)):Nd Γ L (ad (rLn N (Fc N)) b (o+1) m.Ins):=fun F H x y z=>Af.at_Ins (h F H x y z)
theorem Af.A_Term{N:Nat}{Γ:List Dt}{L:List Res}{b o:Nat}{m:D.Block}(h:Nd Γ L (ad (Et N) b o m)):Nd Γ L (ad (Fw N) b (o+2) m.Term):=fun F H x y z=>Af.at_Term (h F H x y z)
theorem Af.P_Term{N:Nat}{Γ:List Dt}{L:List Res}{m:D.Block}{c:Value×Value×Value×Value}(h:Nd Γ L (da (Et N) (vBlock m c) m)):Nd Γ L (da (Fw N) (vTerm m.Term (c.2.2.1,c.2.2.2)) m.Term):=Bf.M (m:=m.Term) (c:=(c.2.2.1,c.2.2.2)) (Af.c_Term_Args h) (Af.c_Term_To h) (Af.W_Term_Kind h) (Af.W_Term_Imm h)
theorem Af.M{N:Nat}{Γ:List Dt}{L:List Res}{m:D.Block}{c:Value×Value×Value×Value}(h0:Nd Γ L (dv (rLn N (Fo N)) c.1 m.Phis))(h1:Nd Γ L (dv (rLn N (Fc N)) c.2.1 m.Ins))(h2:Nd Γ L (dv (rLn N (rI .i64)) c.2.2.1 m.Term.Args))(h3:Nd Γ L (dv (rLn N (rI .i64)) c.2.2.2 m.Term.To))(w0:Wr Γ L .i64 m.Term.Kind)(w1:Wr Γ L .i32 m.Term.Imm):Nd Γ L (da (Et N) (vBlock m c) m):=fun F H x y z=>Af.mk (m:=m) (h0 F H x y z) (h1 F H x y z) (h2 F H x y z) (h3 F H x y z) (w0 F H x y z) (w1 F H x y z)
@[reducible] def vFunc (m:D.Func) (c:Value):Value := .agg #[.int .i64 m.Params,c]
theorem WC{N:Nat}:Sr (Lh N) vFunc:=⟨fun h=>by obtain⟨c1,e,_⟩:=Aj.open h;exact⟨c1,e⟩⟩
theorem Aj.cB{N:Nat}{Γ:List Dt}{L:List Res}{m:D.Func}{c:Value}(h:Nd Γ L (da (Lh N) (vFunc m c) m)):Nd Γ L (dv (rLn N (Et N)) c m.Blocks):=fun F H x y z=>Ht rfl ((Hq (h F H x y z)).2) rfl
theorem Aj.W_Params{N:Nat}{Γ:List Dt}{L:List Res}{v:Value}{m:D.Func}(h:Nd Γ L (da (Lh N) v m)):Wr Γ L .i64 m.Params:=fun F H x y z=>Aj.w_Params (m:=m) (Aj.any (h F H x y z))
theorem Aj.M{N:Nat}{Γ:List Dt}{L:List Res}{m:D.Func}{c:Value}(h0:Nd Γ L (dv (rLn N (Et N)) c m.Blocks))(w0:Wr Γ L .i64 m.Params):Nd Γ L (da (Lh N) (vFunc m c) m):=fun F H x y z=>Aj.mk (m:=m) (h0 F H x y z) (w0 F H x y z)
@[reducible] def vTg3 (m:D.Tg3) (c:Value×Value):Value := .agg #[.int .i64 m.Block,.int .i64 m.Place,c.1,c.2]
theorem Sw{N:Nat}:Sr (Km N) vTg3:=⟨fun h=>by obtain⟨c2,c3,e,_,_⟩:=Be.open h;exact⟨(c2,c3),e⟩⟩
theorem Be.c_Makes{N:Nat}{Γ:List Dt}{L:List Res}{m:D.Tg3}{c:Value×Value}(h:Nd Γ L (da (Km N) (vTg3 m c) m)):Nd Γ L (dv (rLn N (rI .i64)) c.1 m.Makes):=fun F H x y z=>Ht rfl ((Hq (h F H x y z)).2.2.1) rfl
theorem Be.c_Takes{N:Nat}{Γ:List Dt}{L:List Res}{m:D.Tg3}{c:Value×Value}(h:Nd Γ L (da (Km N) (vTg3 m c) m)):Nd Γ L (dv (rLn N (rI .i64)) c.2 m.Takes):=fun F H x y z=>Ht rfl ((Hq (h F H x y z)).2.2.2) rfl
theorem Be.A_Block{N:Nat}{Γ:List Dt}{L:List Res}{b o:Nat}{m:D.Tg3}(h:Nd Γ L (ad (Km N) b o m)):Nd Γ L (ad (rI .i64) b (o+0) m.Block):=fun F H x y z=>Be.at_Block (h F H x y z)
theorem Be.A_Makes{N:Nat}{Γ:List Dt}{L:List Res}{b o:Nat}{m:D.Tg3}(h:Nd Γ L (ad (Km N) b o m)):Nd Γ L (ad (rLn N (rI .i64)) b (o+2) m.Makes):=fun F H x y z=>Be.at_Makes (h F H x y z)
theorem Be.M{N:Nat}{Γ:List Dt}{L:List Res}{m:D.Tg3}{c:Value×Value}(h0:Nd Γ L (dv (rLn N (rI .i64)) c.1 m.Makes))(h1:Nd Γ L (dv (rLn N (rI .i64)) c.2 m.Takes))(w0:Wr Γ L .i64 m.Block)(w1:Wr Γ L .i64 m.Place):Nd Γ L (da (Km N) (vTg3 m c) m):=fun F H x y z=>Be.mk (m:=m) (h0 F H x y z) (h1 F H x y z) (w0 F H x y z) (w1 F H x y z)
def Fk(b:Bool):Int:=if b then 1 else 0
abbrev w32(n:Int):Int:=IntKind.i32.wrap n
abbrev u32(n:Int):Int:=IntKind.u32.wrap n
def Oz(a b:Int):Int:=w32 (a*2^(b%32).toNat)
def Oy(a b:Int):Int:=w32 ((u32 a).fdiv (2^(b%32).toNat))
def Lz(a b:Int):Int:=a.fdiv (2^(b%32).toNat)
def Ux(a b:Int):Int:=w32 (a.tdiv b)
def doM(op a b:Int):Int×Bool :=
 if op=2 then (w32 (a+b),true)
 else if op=3 then (w32 (a-b),true)
 else if op=4 then (w32 (a*b),true)
 else if op=5 then (Mg .i32 a b,true)
 else if op=6 then (orI .i32 a b,true)
 else if op=7 then (Sf .i32 a b,true)
 else if op=8 then (Oz a b,true)
 else if op=9 then (Oy a b,true)
 else if op=10 then (Lz a b,true)
 else if op=11 then (Fk (decide (a=b)),true)
 else if op=12 then (Fk (decide (a<b)),true)
 else if op=13 then (Fk (decide (u32 a<u32 b)),true)
 else if op=14 then (if b=0 then (0,false) else (Ux a b,true))
 else (0,false)
def Gs(a b:Int):Int×Int:=(w32 (a*b),w32 ((a*b).fdiv 4294967296))
def AP(n bits:Int):Bool:=if bits<1 then decide (n=0) else if 32<bits then true else decide (-(2^(bits-1).toNat)≤n∧n<2^(bits-1).toNat)
theorem EZ{x y:Int}(h:x%4294967296=y%4294967296):w32 x=w32 y:=by
 simp only[w32,IntKind.wrap_i32];omega
theorem D4(n:Int):u32 n=n%4294967296:=by simp only[u32,IntKind.wrap_u32]
theorem b32(b:Int):IntKind.u32.wrap b%32=b%32:=by rw[IntKind.wrap_u32];omega
theorem Py(b:Int):Mg .u32 (IntKind.u32.wrap b) 31=b%32:=by rw[SU _ (u32_nn b),b32]
theorem Om(b:Int):Int.tmod (IntKind.u32.wrap b) 32=b%32:=by rw[Int.tmod_eq_emod_of_nonneg (u32_nn b),b32]
theorem Ph(b:Int):min (b%32).toNat 32=(b%32).toNat:=by omega
theorem LL(a m:Int):u32 a*m%4294967296=a*m%4294967296:=by
 rw[D4,Int.mul_emod,Int.emod_emod_of_dvd _ (Int.dvd_refl _),←Int.mul_emod]
theorem Eb(a b:Int):IntKind.i32.wrap (Mj .u32 (IntKind.u32.wrap a) (Mg .u32 (IntKind.u32.wrap b) 31))=Oz a b:=by
 rw[Py];unfold Mj Oz
 show w32 (u32 (u32 a*2^(min (b%32).toNat 32)))=_
 rw[Ph]
 apply EZ
 rw[D4,Int.emod_emod_of_dvd _ (Int.dvd_refl _),LL]
theorem Cs(a b:Int):Mj .i32 a (Int.tmod (IntKind.u32.wrap b) 32)=Oz a b:=by
 rw[Om];unfold Mj Oz
 show w32 (a*2^(min (b%32).toNat 32))=_
 rw[Ph]
theorem Ea(a b:Int):IntKind.i32.wrap (Hm .u32 (IntKind.u32.wrap a) (Mg .u32 (IntKind.u32.wrap b) 31))=Oy a b:=by
 rw[Py];unfold Hm Oy
 show w32 ((u32 a).fdiv (2^(min (b%32).toNat 32)))=_
 rw[Ph]
theorem Cr(a b:Int):IntKind.i32.wrap (Hm .u32 (IntKind.u32.wrap a) (Int.tmod (IntKind.u32.wrap b) 32))=Oy a b:=by
 rw[Om];unfold Hm Oy
 show w32 ((u32 a).fdiv (2^(min (b%32).toNat 32)))=_
 rw[Ph]
theorem Ec(a b:Int):Hm .i32 a (Mg .u32 (IntKind.u32.wrap b) 31)=Lz a b:=by
 rw[Py];unfold Hm Lz
 show a.fdiv (2^(min (b%32).toNat 32))=_
 rw[Ph]
theorem Cu(a b:Int):Hm .i32 a (Int.tmod (IntKind.u32.wrap b) 32)=Lz a b:=by
 rw[Om];unfold Hm Lz
 show a.fdiv (2^(min (b%32).toNat 32))=_
 rw[Ph]
theorem FL{a b:Int}(ha:-2147483648≤a∧a≤2147483647):-2147483648≤a.tdiv b∧a.tdiv b≤2147483648:=by
 have h:=Int.natAbs_tdiv a b
 have h2:a.natAbs / b.natAbs≤a.natAbs:=Nat.div_le_self _ _
 have h3:(a.tdiv b).natAbs=a.natAbs / b.natAbs:=h
 omega
theorem Ef{a:Int}(b:Int)(ha:IntKind.i32.wrap a=a):IntKind.i32.wrap (IntKind.i64.wrap (Int.tdiv a b))=Ux a b:=by
 have h1:=Lq ha
 have h3:=FL (b:=b) h1
 rw[IntWalk.i64_in _ (by omega)]
 rfl
theorem Ub{a b:Int}(ha:-2147483648≤a∧a≤2147483647)(hb:-2147483648≤b∧b≤2147483647):-4611686018427387904≤a*b∧a*b≤4611686018427387904:=by
 have h1:(a*b).natAbs=a.natAbs*b.natAbs:=Int.natAbs_mul a b
 have h2:a.natAbs*b.natAbs≤2147483648*2147483648:=Nat.mul_le_mul (by omega) (by omega)
 omega
abbrev Gc:=@Tryz.underlying155
abbrev U2:=@Tryz.underlying2
abbrev U21:=@Tryz.underlying21
theorem Zz:Ent Tryz.prog 160:=⟨_,Tryz.func160,by kernel_rfl,by kernel_rfl⟩
theorem Vx(b:Bool):Tv Tryz.prog 152 #[.bool b] [] [] (.int .i32 (Fk b)):=by
 refine Az (args:=[.bool b]) Tryz.func152 rfl rfl rfl fun w0 X=>?_
 refine jq (jr (ja Z (jn (jx (jq (jq (jr (jm Z (jn (jx ?_))))))))))
 refine jif Z (fun hc1=>?_) (fun hc1=>?_)
 refine jq (jr (ja Z (jn (jx (jrt (jtr ?_))))))
 exact jrI Z Z (by first|(simp[Fk,hc1];done)|(unfold Fk;(repeat' split)<;>first|rfl|(exfalso;omega)|(simp[Fk,hc1];done)))
 refine jsk (jx (jq (jr (ja Z (jn (jx (jrt ?_)))))))
 exact jrI Z Z (by first|(simp[Fk,hc1];done)|(unfold Fk;(repeat' split)<;>first|rfl|(exfalso;omega)|(simp[Fk,hc1];done)))
theorem Xc(b:Bool):Tv Tryz.prog 160 #[.bool b] [] [] (.int .i32 (Fk b)):=by
 refine Az (args:=[.bool b]) Tryz.func160 rfl rfl rfl fun w0 X=>?_
 refine jq (jr (ja Z (jn (jx (jq (jq (jr (jm Z (jn (jx ?_))))))))))
 refine jif Z (fun hc1=>?_) (fun hc1=>?_)
 refine jq (jr (ja Z (jn (jx (jrt (jtr ?_))))))
 exact jrI Z Z (by first|(simp[Fk,hc1];done)|(unfold Fk;(repeat' split)<;>first|rfl|(exfalso;omega)|(simp[Fk,hc1];done)))
 refine jsk (jx (jq (jr (ja Z (jn (jx (jrt ?_)))))))
 exact jrI Z Z (by first|(simp[Fk,hc1];done)|(unfold Fk;(repeat' split)<;>first|rfl|(exfalso;omega)|(simp[Fk,hc1];done)))
theorem IM(op:Int)(a:Int)(b:Int)(ww1:IntKind.i32.wrap a=a)(ww2:IntKind.i32.wrap b=b):Tv Tryz.prog 111 #[.int .i64 op,.int .i32 a,.int .i32 b] [] [] (.tuple #[.int .i32 ((doM op a b).1),.bool ((doM op a b).2)]):=by
 refine Az (args:=[.int .i64 op,.int .i32 a,.int .i32 b]) Tryz.func111 rfl rfl rfl fun w0 X=>?_
 refine jq (jr (ja Z (ja Z (jn (jx (jq (jr (jm Z (js (jco U21 Gc Z Z) (js (Yd Z Z) (ja Z ?_)))))))))))
 refine jn (jx (jq (jq (jr (jm Z (jn (jx (jb (jq (jr (js (Ao Z Z) ?_)))))))))))
 refine ja Z (jn (jx ?_))
 refine jif Z (fun hc1=>?_) (fun hc1=>?_)
 refine jq (jr (jm Z (jm Z (js (Nx Z Z) (ja Z (ja Z (jn (jx (jrt (jbr (jtr ?_)))))))))))
 exact jr2 Z Z Z () (tIB (by first|(simp[doM,Eb,Ea,Ec,Cs,Cr,Cu,Ef b ww1,hc1];done)|(unfold doM;(repeat' split)<;>first|rfl|(exfalso;omega)|(simp[doM,Eb,Ea,Ec,Cs,Cr,Cu,Ef b ww1,hc1];done)))) dn (fun _ _=>kn)
 refine jq (jr (js (Ao Z Z) (ja Z (jn (jx ?_)))))
 refine jif Z (fun hc2=>?_) (fun hc2=>?_)
 refine jq (jr (jm Z (jm Z (js (X0 Z Z) (ja Z (ja Z (jn (jx (jrt (jbr (jtr ?_)))))))))))
 exact jr2 Z Z Z () (tIB (by first|(simp[doM,Eb,Ea,Ec,Cs,Cr,Cu,Ef b ww1,hc1,hc2];done)|(unfold doM;(repeat' split)<;>first|rfl|(exfalso;omega)|(simp[doM,Eb,Ea,Ec,Cs,Cr,Cu,Ef b ww1,hc1,hc2];done)))) dn (fun _ _=>kn)
 refine jq (jr (js (Ao Z Z) (ja Z (jn (jx ?_)))))
 refine jif Z (fun hc3=>?_) (fun hc3=>?_)
 refine jq (jr (jm Z (jm Z (js (X7 Z Z) (ja Z (ja Z (jn (jx (jrt (jbr (jtr ?_)))))))))))
 exact jr2 Z Z Z () (tIB (by first|(simp[doM,Eb,Ea,Ec,Cs,Cr,Cu,Ef b ww1,hc1,hc2,hc3];done)|(unfold doM;(repeat' split)<;>first|rfl|(exfalso;omega)|(simp[doM,Eb,Ea,Ec,Cs,Cr,Cu,Ef b ww1,hc1,hc2,hc3];done)))) dn (fun _ _=>kn)
 refine jq (jr (js (Ao Z Z) (ja Z (jn (jx ?_)))))
 refine jif Z (fun hc4=>?_) (fun hc4=>?_)
 refine jq (jr (jm Z (jm Z (js (Yd Z Z) (ja Z (ja Z (jn (jx (jrt (jbr (jtr ?_)))))))))))
 exact jr2 Z Z Z () (tIB (by first|(simp[doM,Eb,Ea,Ec,Cs,Cr,Cu,Ef b ww1,hc1,hc2,hc3,hc4];done)|(unfold doM;(repeat' split)<;>first|rfl|(exfalso;omega)|(simp[doM,Eb,Ea,Ec,Cs,Cr,Cu,Ef b ww1,hc1,hc2,hc3,hc4];done)))) dn (fun _ _=>kn)
 refine jq (jr (js (Ao Z Z) (ja Z (jn (jx ?_)))))
 refine jif Z (fun hc5=>?_) (fun hc5=>?_)
 refine jq (jr (jm Z (jm Z (js (X6 Z Z) (ja Z (ja Z (jn (jx (jrt (jbr (jtr ?_)))))))))))
 exact jr2 Z Z Z () (tIB (by first|(simp[doM,Eb,Ea,Ec,Cs,Cr,Cu,Ef b ww1,hc1,hc2,hc3,hc4,hc5];done)|(unfold doM;(repeat' split)<;>first|rfl|(exfalso;omega)|(simp[doM,Eb,Ea,Ec,Cs,Cr,Cu,Ef b ww1,hc1,hc2,hc3,hc4,hc5];done)))) dn (fun _ _=>kn)
 refine jq (jr (js (Ao Z Z) (ja Z (jn (jx ?_)))))
 refine jif Z (fun hc6=>?_) (fun hc6=>?_)
 refine jq (jr (jm Z (jm Z (js (W8 Z Z) (ja Z (ja Z (jn (jx (jrt (jbr (jtr ?_)))))))))))
 exact jr2 Z Z Z () (tIB (by first|(simp[doM,Eb,Ea,Ec,Cs,Cr,Cu,Ef b ww1,hc1,hc2,hc3,hc4,hc5,hc6];done)|(unfold doM;(repeat' split)<;>first|rfl|(exfalso;omega)|(simp[doM,Eb,Ea,Ec,Cs,Cr,Cu,Ef b ww1,hc1,hc2,hc3,hc4,hc5,hc6];done)))) dn (fun _ _=>kn)
 refine jq (jr (js (Ao Z Z) (ja Z (jn (jx ?_)))))
 refine jif Z (fun hc7=>?_) (fun hc7=>?_)
 refine jq (jr (jm Z (js (jco U21 Gc Z Z) (jm Z (js (X3 Z Z (by rw[Py];omega)) (js (jco Gc U21 Z Z) (ja Z (ja Z (jn (jx (jrt ?_)))))))))))
 refine jbr (jtr ?_)
 exact jr2 Z Z Z () (tIB (by first|(simp[doM,Eb,Ea,Ec,Cs,Cr,Cu,Ef b ww1,hc1,hc2,hc3,hc4,hc5,hc6,hc7];done)|(unfold doM;(repeat' split)<;>first|rfl|(exfalso;omega)|(simp[doM,Eb,Ea,Ec,Cs,Cr,Cu,Ef b ww1,hc1,hc2,hc3,hc4,hc5,hc6,hc7];done)))) dn (fun _ _=>kn)
 refine jq (jr (js (Ao Z Z) (ja Z (jn (jx ?_)))))
 refine jif Z (fun hc8=>?_) (fun hc8=>?_)
 refine jq (jr (jm Z (js (jco U21 Gc Z Z) (jm Z (js (Po Z Z (by rw[Py];omega)) (js (jco Gc U21 Z Z) (ja Z (ja Z (jn (jx (jrt ?_)))))))))))
 refine jbr (jtr ?_)
 exact jr2 Z Z Z () (tIB (by first|(simp[doM,Eb,Ea,Ec,Cs,Cr,Cu,Ef b ww1,hc1,hc2,hc3,hc4,hc5,hc6,hc7,hc8];done)|(unfold doM;(repeat' split)<;>first|rfl|(exfalso;omega)|(simp[doM,Eb,Ea,Ec,Cs,Cr,Cu,Ef b ww1,hc1,hc2,hc3,hc4,hc5,hc6,hc7,hc8];done)))) dn (fun _ _=>kn)
 refine jq (jr (js (Ao Z Z) (ja Z (jn (jx ?_)))))
 refine jif Z (fun hc9=>?_) (fun hc9=>?_)
 refine jq (jr (jm Z (jm Z (js (Po Z Z (by rw[Py];omega)) (ja Z (ja Z (jn (jx (jrt (jbr (jtr ?_)))))))))))
 exact jr2 Z Z Z () (tIB (by first|(simp[doM,Eb,Ea,Ec,Cs,Cr,Cu,Ef b ww1,hc1,hc2,hc3,hc4,hc5,hc6,hc7,hc8,hc9];done)|(unfold doM;(repeat' split)<;>first|rfl|(exfalso;omega)|(simp[doM,Eb,Ea,Ec,Cs,Cr,Cu,Ef b ww1,hc1,hc2,hc3,hc4,hc5,hc6,hc7,hc8,hc9];done)))) dn (fun _ _=>kn)
 refine jq (jr (js (Ao Z Z) (ja Z (jn (jx ?_)))))
 refine jif Z (fun hc10=>?_) (fun hc10=>?_)
 refine jq (jr (jm Z (jm Z (js (Ao Z Z) (jcv Zz Z Z (Xc (decide (a=b))) dn kn (ja Z (ja Z (jn (jx (jrt (jbr ?_)))))))))))
 refine jtr ?_
 exact jr2 Z Z Z () (tIB (by first|(simp[doM,Eb,Ea,Ec,Cs,Cr,Cu,Ef b ww1,hc1,hc2,hc3,hc4,hc5,hc6,hc7,hc8,hc9,hc10];done)|(unfold doM;(repeat' split)<;>first|rfl|(exfalso;omega)|(simp[doM,Eb,Ea,Ec,Cs,Cr,Cu,Ef b ww1,hc1,hc2,hc3,hc4,hc5,hc6,hc7,hc8,hc9,hc10];done)))) dn (fun _ _=>kn)
 refine jq (jr (js (Ao Z Z) (ja Z (jn (jx ?_)))))
 refine jif Z (fun hc11=>?_) (fun hc11=>?_)
 refine jq (jr (jm Z (jm Z (js (Ar Z Z) (jcv Zz Z Z (Xc (decide (a<b))) dn kn (ja Z (ja Z (jn (jx (jrt (jbr ?_)))))))))))
 refine jtr ?_
 exact jr2 Z Z Z () (tIB (by first|(simp[doM,Eb,Ea,Ec,Cs,Cr,Cu,Ef b ww1,hc1,hc2,hc3,hc4,hc5,hc6,hc7,hc8,hc9,hc10,hc11];done)|(unfold doM;(repeat' split)<;>first|rfl|(exfalso;omega)|(simp[doM,Eb,Ea,Ec,Cs,Cr,Cu,Ef b ww1,hc1,hc2,hc3,hc4,hc5,hc6,hc7,hc8,hc9,hc10,hc11];done)))) dn (fun _ _=>kn)
 refine jq (jr (js (Ao Z Z) (ja Z (jn (jx ?_)))))
 refine jif Z (fun hc12=>?_) (fun hc12=>?_)
 refine jq (jr (jm Z (js (jco U21 Gc Z Z) (jm Z (js (jco U21 Gc Z Z) (js (Ar Z Z) (jcv Zz Z Z (Xc (decide (IntKind.u32.wrap a<IntKind.u32.wrap b))) dn kn (ja Z (ja Z (jn (jx ?_)))))))))))
 refine jrt (jbr (jtr ?_))
 exact jr2 Z Z Z () (tIB (by first|(simp[doM,Eb,Ea,Ec,Cs,Cr,Cu,Ef b ww1,hc1,hc2,hc3,hc4,hc5,hc6,hc7,hc8,hc9,hc10,hc11,hc12];done)|(unfold doM;(repeat' split)<;>first|rfl|(exfalso;omega)|(simp[doM,Eb,Ea,Ec,Cs,Cr,Cu,Ef b ww1,hc1,hc2,hc3,hc4,hc5,hc6,hc7,hc8,hc9,hc10,hc11,hc12];done)))) dn (fun _ _=>kn)
 refine jq (jr (js (Ao Z Z) (ja Z (jn (jx ?_)))))
 refine jif Z (fun hc13=>?_) (fun hc13=>?_)
 refine jq (jq (jr (jm Z (js (Ao Z Z) (jn (jx ?_))))))
 refine jif Z (fun hc14=>?_) (fun hc14=>?_)
 refine jq (jr (ja Z (ja Z (jn (jx (jrt (jtr (jbr (jtr ?_)))))))))
 exact jr2 Z Z Z () (tIB (by first|(simp[doM,Eb,Ea,Ec,Cs,Cr,Cu,Ef b ww1,hc1,hc2,hc3,hc4,hc5,hc6,hc7,hc8,hc9,hc10,hc11,hc12,hc13,hc14];done)|(unfold doM;(repeat' split)<;>first|rfl|(exfalso;omega)|(simp[doM,Eb,Ea,Ec,Cs,Cr,Cu,Ef b ww1,hc1,hc2,hc3,hc4,hc5,hc6,hc7,hc8,hc9,hc10,hc11,hc12,hc13,hc14];done)))) dn (fun _ _=>kn)
 refine jsk (jx (jq (jr (jm Z (js (jco U21 U2 Z (Lx ww1)) (jm Z (js (jco U21 U2 Z (Lx ww2)) (js (X5 Z Z (by omega)) (js (jco U2 U21 Z Z) (ja Z (ja Z ?_)))))))))))
 refine jn (jx (jrt (jbr (jtr ?_))))
 exact jr2 Z Z Z () (tIB (by first|(simp[doM,Eb,Ea,Ec,Cs,Cr,Cu,Ef b ww1,hc1,hc2,hc3,hc4,hc5,hc6,hc7,hc8,hc9,hc10,hc11,hc12,hc13,hc14];done)|(unfold doM;(repeat' split)<;>first|rfl|(exfalso;omega)|(simp[doM,Eb,Ea,Ec,Cs,Cr,Cu,Ef b ww1,hc1,hc2,hc3,hc4,hc5,hc6,hc7,hc8,hc9,hc10,hc11,hc12,hc13,hc14];done)))) dn (fun _ _=>kn)
 refine jsk (jbn (jx (jq (jr (ja Z (ja Z (jn (jx (jrt ?_)))))))))
 exact jr2 Z Z Z () (tIB (by first|(simp[doM,Eb,Ea,Ec,Cs,Cr,Cu,Ef b ww1,hc1,hc2,hc3,hc4,hc5,hc6,hc7,hc8,hc9,hc10,hc11,hc12,hc13];done)|(unfold doM;(repeat' split)<;>first|rfl|(exfalso;omega)|(simp[doM,Eb,Ea,Ec,Cs,Cr,Cu,Ef b ww1,hc1,hc2,hc3,hc4,hc5,hc6,hc7,hc8,hc9,hc10,hc11,hc12,hc13];done)))) dn (fun _ _=>kn)
abbrev DG:=@Tryz.underlying136
abbrev Iu:=@Tryz.underlying201
abbrev U3:=@Tryz.underlying3
theorem VK:Ent Tryz.prog 142:=⟨_,Tryz.func142,by kernel_rfl,by kernel_rfl⟩
theorem VJ:Ent Tryz.prog 143:=⟨_,Tryz.func143,by kernel_rfl,by kernel_rfl⟩
theorem VH:Ent Tryz.prog 144:=⟨_,Tryz.func144,by kernel_rfl,by kernel_rfl⟩
theorem VF:Ent Tryz.prog 145:=⟨_,Tryz.func145,by kernel_rfl,by kernel_rfl⟩
theorem VE:Ent Tryz.prog 146:=⟨_,Tryz.func146,by kernel_rfl,by kernel_rfl⟩
theorem VD:Ent Tryz.prog 147:=⟨_,Tryz.func147,by kernel_rfl,by kernel_rfl⟩
theorem VC:Ent Tryz.prog 148:=⟨_,Tryz.func148,by kernel_rfl,by kernel_rfl⟩
theorem VA:Ent Tryz.prog 149:=⟨_,Tryz.func149,by kernel_rfl,by kernel_rfl⟩
theorem UZ:Ent Tryz.prog 150:=⟨_,Tryz.func150,by kernel_rfl,by kernel_rfl⟩
theorem UY:Ent Tryz.prog 151:=⟨_,Tryz.func151,by kernel_rfl,by kernel_rfl⟩
theorem B3:Ent Tryz.prog 152:=⟨_,Tryz.func152,by kernel_rfl,by kernel_rfl⟩
theorem UX:Ent Tryz.prog 153:=⟨_,Tryz.func153,by kernel_rfl,by kernel_rfl⟩
theorem UW:Ent Tryz.prog 154:=⟨_,Tryz.func154,by kernel_rfl,by kernel_rfl⟩
theorem UV:Ent Tryz.prog 155:=⟨_,Tryz.func155,by kernel_rfl,by kernel_rfl⟩
theorem Zp:One Tryz.prog 155:=⟨_,Tryz.underlying155,rfl⟩
theorem O21:One Tryz.prog 21:=⟨_,Tryz.underlying21,rfl⟩
theorem TC:Sz Tryz.prog 155 1:=by unfold Sz;kernel_rfl
theorem TK:(Tryz.prog.info? 136).bind (·.zero)=some (.nilFunc):=by kernel_rfl
theorem TJ:(Tryz.prog.info? 155).bind (·.zero)=some (.int .u32 0):=by kernel_rfl
theorem EU(a:Int){g0:Nat}(b:Int){g1:Nat}:Tr Tryz.prog 142 #[.pointer (some ⟨g0,0,none⟩),.pointer (some ⟨g1,0,none⟩)] [] [bx g0 21 [.int .i32 a],bx g1 21 [.int .i32 b]] (fun _:Unit => .int .i32 (w32 (a+b))) (fun _=>[]) (fun _ _=>[bx g0 21 [.int .i32 a],bx g1 21 [.int .i32 b]]):=by
 refine Az (args:=[.pointer (some ⟨g0,0,none⟩),.pointer (some ⟨g1,0,none⟩)]) Tryz.func142 rfl rfl rfl fun w0 X=>?_
 refine jq (jr (ja Z (jn (jx (jq (jr (js (jl k0 O21 Z Z) (js (jl k1 O21 Z Z) (js (Nx Z Z) (ja Z (jn ?_)))))))))))
 refine jx (jrt ?_)
 exact jr1 Z Z () (congrArg (Value.int .i32) (Eq.symm (by first|rfl|(simp[Cs,Cr,Cu];done)))) dn (fun _ _=>(kd kn))
theorem ET(a:Int){g0:Nat}(b:Int){g1:Nat}:Tr Tryz.prog 143 #[.pointer (some ⟨g0,0,none⟩),.pointer (some ⟨g1,0,none⟩)] [] [bx g0 21 [.int .i32 a],bx g1 21 [.int .i32 b]] (fun _:Unit => .int .i32 (w32 (a-b))) (fun _=>[]) (fun _ _=>[bx g0 21 [.int .i32 a],bx g1 21 [.int .i32 b]]):=by
 refine Az (args:=[.pointer (some ⟨g0,0,none⟩),.pointer (some ⟨g1,0,none⟩)]) Tryz.func143 rfl rfl rfl fun w0 X=>?_
 refine jq (jr (ja Z (jn (jx (jq (jr (js (jl k0 O21 Z Z) (js (jl k1 O21 Z Z) (js (X0 Z Z) (ja Z (jn ?_)))))))))))
 refine jx (jrt ?_)
 exact jr1 Z Z () (congrArg (Value.int .i32) (Eq.symm (by first|rfl|(simp[Cs,Cr,Cu];done)))) dn (fun _ _=>(kd kn))
theorem ES(a:Int){g0:Nat}(b:Int){g1:Nat}:Tr Tryz.prog 144 #[.pointer (some ⟨g0,0,none⟩),.pointer (some ⟨g1,0,none⟩)] [] [bx g0 21 [.int .i32 a],bx g1 21 [.int .i32 b]] (fun _:Unit => .int .i32 (w32 (a*b))) (fun _=>[]) (fun _ _=>[bx g0 21 [.int .i32 a],bx g1 21 [.int .i32 b]]):=by
 refine Az (args:=[.pointer (some ⟨g0,0,none⟩),.pointer (some ⟨g1,0,none⟩)]) Tryz.func144 rfl rfl rfl fun w0 X=>?_
 refine jq (jr (ja Z (jn (jx (jq (jr (js (jl k0 O21 Z Z) (js (jl k1 O21 Z Z) (js (X7 Z Z) (ja Z (jn ?_)))))))))))
 refine jx (jrt ?_)
 exact jr1 Z Z () (congrArg (Value.int .i32) (Eq.symm (by first|rfl|(simp[Cs,Cr,Cu];done)))) dn (fun _ _=>(kd kn))
theorem ER(a:Int){g0:Nat}(b:Int){g1:Nat}:Tr Tryz.prog 145 #[.pointer (some ⟨g0,0,none⟩),.pointer (some ⟨g1,0,none⟩)] [] [bx g0 21 [.int .i32 a],bx g1 21 [.int .i32 b]] (fun _:Unit => .int .i32 (Mg .i32 a b)) (fun _=>[]) (fun _ _=>[bx g0 21 [.int .i32 a],bx g1 21 [.int .i32 b]]):=by
 refine Az (args:=[.pointer (some ⟨g0,0,none⟩),.pointer (some ⟨g1,0,none⟩)]) Tryz.func145 rfl rfl rfl fun w0 X=>?_
 refine jq (jr (ja Z (jn (jx (jq (jr (js (jl k0 O21 Z Z) (js (jl k1 O21 Z Z) (js (Yd Z Z) (ja Z (jn ?_)))))))))))
 refine jx (jrt ?_)
 exact jr1 Z Z () (congrArg (Value.int .i32) (Eq.symm (by first|rfl|(simp[Cs,Cr,Cu];done)))) dn (fun _ _=>(kd kn))
theorem EQ(a:Int){g0:Nat}(b:Int){g1:Nat}:Tr Tryz.prog 146 #[.pointer (some ⟨g0,0,none⟩),.pointer (some ⟨g1,0,none⟩)] [] [bx g0 21 [.int .i32 a],bx g1 21 [.int .i32 b]] (fun _:Unit => .int .i32 (orI .i32 a b)) (fun _=>[]) (fun _ _=>[bx g0 21 [.int .i32 a],bx g1 21 [.int .i32 b]]):=by
 refine Az (args:=[.pointer (some ⟨g0,0,none⟩),.pointer (some ⟨g1,0,none⟩)]) Tryz.func146 rfl rfl rfl fun w0 X=>?_
 refine jq (jr (ja Z (jn (jx (jq (jr (js (jl k0 O21 Z Z) (js (jl k1 O21 Z Z) (js (X6 Z Z) (ja Z (jn ?_)))))))))))
 refine jx (jrt ?_)
 exact jr1 Z Z () (congrArg (Value.int .i32) (Eq.symm (by first|rfl|(simp[Cs,Cr,Cu];done)))) dn (fun _ _=>(kd kn))
theorem EP(a:Int){g0:Nat}(b:Int){g1:Nat}:Tr Tryz.prog 147 #[.pointer (some ⟨g0,0,none⟩),.pointer (some ⟨g1,0,none⟩)] [] [bx g0 21 [.int .i32 a],bx g1 21 [.int .i32 b]] (fun _:Unit => .int .i32 (Sf .i32 a b)) (fun _=>[]) (fun _ _=>[bx g0 21 [.int .i32 a],bx g1 21 [.int .i32 b]]):=by
 refine Az (args:=[.pointer (some ⟨g0,0,none⟩),.pointer (some ⟨g1,0,none⟩)]) Tryz.func147 rfl rfl rfl fun w0 X=>?_
 refine jq (jr (ja Z (jn (jx (jq (jr (js (jl k0 O21 Z Z) (js (jl k1 O21 Z Z) (js (W8 Z Z) (ja Z (jn ?_)))))))))))
 refine jx (jrt ?_)
 exact jr1 Z Z () (congrArg (Value.int .i32) (Eq.symm (by first|rfl|(simp[Cs,Cr,Cu];done)))) dn (fun _ _=>(kd kn))
theorem EO(a:Int){g0:Nat}(b:Int){g1:Nat}:Tr Tryz.prog 148 #[.pointer (some ⟨g0,0,none⟩),.pointer (some ⟨g1,0,none⟩)] [] [bx g0 21 [.int .i32 a],bx g1 155 [.int .u32 (Int.tmod (IntKind.u32.wrap b) 32)]] (fun _:Unit => .int .i32 (Oz a b)) (fun _=>[]) (fun _ _=>[bx g0 21 [.int .i32 a],bx g1 155 [.int .u32 (Int.tmod (IntKind.u32.wrap b) 32)]]):=by
 refine Az (args:=[.pointer (some ⟨g0,0,none⟩),.pointer (some ⟨g1,0,none⟩)]) Tryz.func148 rfl rfl rfl fun w0 X=>?_
 refine jq (jr (ja Z (jn (jx (jq (jr (js (jl k0 O21 Z Z) (js (jl k1 Zp Z Z) (js (X3 Z Z (by rw[Om];omega)) (ja Z (jn ?_)))))))))))
 refine jx (jrt ?_)
 exact jr1 Z Z () (congrArg (Value.int .i32) (Eq.symm (by first|rfl|(simp[Cs,Cr,Cu];done)))) dn (fun _ _=>(kd kn))
theorem EN(a:Int){g0:Nat}(b:Int){g1:Nat}:Tr Tryz.prog 149 #[.pointer (some ⟨g0,0,none⟩),.pointer (some ⟨g1,0,none⟩)] [] [bx g0 21 [.int .i32 a],bx g1 155 [.int .u32 (Int.tmod (IntKind.u32.wrap b) 32)]] (fun _:Unit => .int .i32 (Oy a b)) (fun _=>[]) (fun _ _=>[bx g0 21 [.int .i32 a],bx g1 155 [.int .u32 (Int.tmod (IntKind.u32.wrap b) 32)]]):=by
 refine Az (args:=[.pointer (some ⟨g0,0,none⟩),.pointer (some ⟨g1,0,none⟩)]) Tryz.func149 rfl rfl rfl fun w0 X=>?_
 refine jq (jr (ja Z (jn (jx (jq (jr (js (jl k0 O21 Z Z) (js (jco U21 Gc Z Z) (js (jl k1 Zp Z Z) (js (Po Z Z (by rw[Om];omega)) (js (jco Gc U21 Z Z) ?_)))))))))))
 refine ja Z (jn (jx (jrt ?_)))
 exact jr1 Z Z () (congrArg (Value.int .i32) (Eq.symm (by first|rfl|(simp[Cs,Cr,Cu];done)))) dn (fun _ _=>(kd kn))
theorem EM(a:Int){g0:Nat}(b:Int){g1:Nat}:Tr Tryz.prog 150 #[.pointer (some ⟨g0,0,none⟩),.pointer (some ⟨g1,0,none⟩)] [] [bx g0 21 [.int .i32 a],bx g1 155 [.int .u32 (Int.tmod (IntKind.u32.wrap b) 32)]] (fun _:Unit => .int .i32 (Lz a b)) (fun _=>[]) (fun _ _=>[bx g0 21 [.int .i32 a],bx g1 155 [.int .u32 (Int.tmod (IntKind.u32.wrap b) 32)]]):=by
 refine Az (args:=[.pointer (some ⟨g0,0,none⟩),.pointer (some ⟨g1,0,none⟩)]) Tryz.func150 rfl rfl rfl fun w0 X=>?_
 refine jq (jr (ja Z (jn (jx (jq (jr (js (jl k0 O21 Z Z) (js (jl k1 Zp Z Z) (js (Po Z Z (by rw[Om];omega)) (ja Z (jn ?_)))))))))))
 refine jx (jrt ?_)
 exact jr1 Z Z () (congrArg (Value.int .i32) (Eq.symm (by first|rfl|(simp[Cs,Cr,Cu];done)))) dn (fun _ _=>(kd kn))
theorem EY(a:Int){g0:Nat}(b:Int){g1:Nat}:Tr Tryz.prog 151 #[.pointer (some ⟨g0,0,none⟩),.pointer (some ⟨g1,0,none⟩)] [] [bx g0 21 [.int .i32 a],bx g1 21 [.int .i32 b]] (fun _:Unit => .int .i32 (Fk (decide (a=b)))) (fun _=>[]) (fun _ _=>[bx g0 21 [.int .i32 a],bx g1 21 [.int .i32 b]]):=by
 refine Az (args:=[.pointer (some ⟨g0,0,none⟩),.pointer (some ⟨g1,0,none⟩)]) Tryz.func151 rfl rfl rfl fun w0 X=>?_
 refine jq (jr (ja Z (jn (jx (jq (jr (js (jl k0 O21 Z Z) (js (jl k1 O21 Z Z) (js (Ao Z Z) (jcv B3 Z Z (Vx (decide (a=b))) dn kn (ja Z ?_)))))))))))
 refine jn (jx (jrt ?_))
 exact jr1 Z Z () (congrArg (Value.int .i32) (Eq.symm (by first|rfl|(simp[Cs,Cr,Cu];done)))) dn (fun _ _=>(kd kn))
theorem EX(a:Int){g0:Nat}(b:Int){g1:Nat}:Tr Tryz.prog 153 #[.pointer (some ⟨g0,0,none⟩),.pointer (some ⟨g1,0,none⟩)] [] [bx g0 21 [.int .i32 a],bx g1 21 [.int .i32 b]] (fun _:Unit => .int .i32 (Fk (decide (a<b)))) (fun _=>[]) (fun _ _=>[bx g0 21 [.int .i32 a],bx g1 21 [.int .i32 b]]):=by
 refine Az (args:=[.pointer (some ⟨g0,0,none⟩),.pointer (some ⟨g1,0,none⟩)]) Tryz.func153 rfl rfl rfl fun w0 X=>?_
 refine jq (jr (ja Z (jn (jx (jq (jr (js (jl k0 O21 Z Z) (js (jl k1 O21 Z Z) (js (Ar Z Z) (jcv B3 Z Z (Vx (decide (a<b))) dn kn (ja Z ?_)))))))))))
 refine jn (jx (jrt ?_))
 exact jr1 Z Z () (congrArg (Value.int .i32) (Eq.symm (by first|rfl|(simp[Cs,Cr,Cu];done)))) dn (fun _ _=>(kd kn))
theorem EW(a:Int){g0:Nat}(b:Int){g1:Nat}:Tr Tryz.prog 154 #[.pointer (some ⟨g0,0,none⟩),.pointer (some ⟨g1,0,none⟩)] [] [bx g0 21 [.int .i32 a],bx g1 21 [.int .i32 b]] (fun _:Unit => .int .i32 (Fk (decide (u32 a<u32 b)))) (fun _=>[]) (fun _ _=>[bx g0 21 [.int .i32 a],bx g1 21 [.int .i32 b]]):=by
 refine Az (args:=[.pointer (some ⟨g0,0,none⟩),.pointer (some ⟨g1,0,none⟩)]) Tryz.func154 rfl rfl rfl fun w0 X=>?_
 refine jq (jr (ja Z (jn (jx (jq (jr (js (jl k0 O21 Z Z) (js (jco U21 Gc Z Z) (js (jl k1 O21 Z Z) (js (jco U21 Gc Z Z) (js (Ar Z Z) ?_)))))))))))
 refine jcv B3 Z Z (Vx (decide (IntKind.u32.wrap a<IntKind.u32.wrap b))) dn kn (ja Z (jn (jx (jrt ?_))))
 exact jr1 Z Z () (congrArg (Value.int .i32) (Eq.symm (by first|rfl|(simp[Cs,Cr,Cu];done)))) dn (fun _ _=>(kd kn))
theorem EV(a:Int){g0:Nat}(b:Int){g1:Nat}(hb:b≠0):Tr Tryz.prog 155 #[.pointer (some ⟨g0,0,none⟩),.pointer (some ⟨g1,0,none⟩)] [] [bx g0 21 [.int .i32 a],bx g1 21 [.int .i32 b]] (fun _:Unit => .int .i32 (Ux a b)) (fun _=>[]) (fun _ _=>[bx g0 21 [.int .i32 a],bx g1 21 [.int .i32 b]]):=by
 refine Az (args:=[.pointer (some ⟨g0,0,none⟩),.pointer (some ⟨g1,0,none⟩)]) Tryz.func155 rfl rfl rfl fun w0 X=>?_
 refine jq (jr (ja Z (jn (jx (jq (jr (js (jl k0 O21 Z Z) (js (jl k1 O21 Z Z) (js (X5 Z Z hb) (ja Z (jn ?_)))))))))))
 refine jx (jrt ?_)
 exact jr1 Z Z () (congrArg (Value.int .i32) (Eq.symm (by first|rfl|(simp[Cs,Cr,Cu];done)))) dn (fun _ _=>(kd kn))
theorem Yu{op a b:Int}(h:2≤op∧op≤14)(h2:op=14→¬b=0):doM op a b=((doM op a b).1,true):=by
 have hc:op=2∨op=3∨op=4∨op=5∨op=6∨op=7∨op=8∨op=9∨op=10∨op=11∨op=12∨op=13∨op=14:=by omega
 rcases hc with rfl|rfl|rfl|rfl|rfl|rfl|rfl|rfl|rfl|rfl|rfl|rfl|rfl<;>first|rfl|(simp[doM,h2])
theorem Tr.perm{P:Program}{f:FuncId}{args:Array Value}{D0:List Dt}{L0:List Res}{ι:Type}{val:ι→Value}{dr:ι→List Dt}{lr lr':Nat→ι→List Res}{M:Nat→ι→List Res}(h:Tr P f args D0 L0 val dr lr)(hk:∀B i,Tks (lr B i) (lr' B i) (M B i)):Tr P f args D0 L0 val dr lr':=fun F H a b c =>
 (h F H a b c).mono fun v H' ⟨i,F',h1,h2⟩=>⟨i,F',h1,fun B hB=>by
  have h3:=h2 B hB
  exact⟨h3.hx,h3.hin,h3.hw,h3.hd,((hk B i).ok h3.ok).1,fun k hk'=>h3.ge k ((hk B i).own (.inl hk'))⟩⟩
section
variable{f:FuncId}{args:Array Value}{R1 R2 R3:Res}{x y:Int}
theorem Lc(h:Tr Tryz.prog f args [] [R1,R2] (fun _:Unit => .int .i32 x) (fun _=>[]) (fun _ _=>[R1,R2]))(e:y=x):Tr Tryz.prog f args [] [R1,R2,R3] (fun _:Unit => .int .i32 y) (fun _=>[]) (fun _ _=>[R1,R2,R3]):=by
 subst e;exact Tr.fr h (kd kn)
theorem Vw(h:Tr Tryz.prog f args [] [R1,R3] (fun _:Unit => .int .i32 x) (fun _=>[]) (fun _ _=>[R1,R3]))(e:y=x):Tr Tryz.prog f args [] [R1,R2,R3] (fun _:Unit => .int .i32 y) (fun _=>[]) (fun _ _=>[R1,R2,R3]):=by
 subst e;exact Tr.perm (Tr.fr h (kc k0 (kc k1 kn))) (fun _ _=>kc k0 (kc k1 (kc k0 kn)))
end
theorem EB(a b op:Int){g4 g5 g8:Nat}{L:List (Int×Value)}
  (hL:L=[(2,.func (.func 142) #[] #[.pointer (some ⟨g4,0,none⟩),.pointer (some ⟨g5,0,none⟩)]),(3,.func (.func 143) #[] #[.pointer (some ⟨g4,0,none⟩),.pointer (some ⟨g5,0,none⟩)]),(4,.func (.func 144) #[] #[.pointer (some ⟨g4,0,none⟩),.pointer (some ⟨g5,0,none⟩)]),(5,.func (.func 145) #[] #[.pointer (some ⟨g4,0,none⟩),.pointer (some ⟨g5,0,none⟩)]),(6,.func (.func 146) #[] #[.pointer (some ⟨g4,0,none⟩),.pointer (some ⟨g5,0,none⟩)]),(7,.func (.func 147) #[] #[.pointer (some ⟨g4,0,none⟩),.pointer (some ⟨g5,0,none⟩)]),(8,.func (.func 148) #[] #[.pointer (some ⟨g4,0,none⟩),.pointer (some ⟨g8,0,none⟩)]),(9,.func (.func 149) #[] #[.pointer (some ⟨g4,0,none⟩),.pointer (some ⟨g8,0,none⟩)]),(10,.func (.func 150) #[] #[.pointer (some ⟨g4,0,none⟩),.pointer (some ⟨g8,0,none⟩)]),(11,.func (.func 151) #[] #[.pointer (some ⟨g4,0,none⟩),.pointer (some ⟨g5,0,none⟩)]),(12,.func (.func 153) #[] #[.pointer (some ⟨g4,0,none⟩),.pointer (some ⟨g5,0,none⟩)]),(13,.func (.func 154) #[] #[.pointer (some ⟨g4,0,none⟩),.pointer (some ⟨g5,0,none⟩)]),(14,.func (.func 155) #[] #[.pointer (some ⟨g4,0,none⟩),.pointer (some ⟨g5,0,none⟩)])]:=by rfl) :
  ((lkM L op).getD .nilFunc = .nilFunc∧(op<2∨14<op))∨∃(f:Nat) (cs:List Value),(lkM L op).getD .nilFunc = .func (.func f) #[] cs.toArray∧Ent Tryz.prog f∧(2≤op∧op≤14)∧((op=14→b≠0)→Tr Tryz.prog f cs.toArray [] [bx g4 21 [.int .i32 a],bx g5 21 [.int .i32 b],bx g8 155 [.int .u32 (Int.tmod (IntKind.u32.wrap b) 32)]] (fun _:Unit => .int .i32 (doM op a b).1) (fun _=>[]) (fun _ _=>[bx g4 21 [.int .i32 a],bx g5 21 [.int .i32 b],bx g8 155 [.int .u32 (Int.tmod (IntKind.u32.wrap b) 32)]])):=by
 subst hL
 by_cases ho:2≤op∧op≤14
 ·refine .inr ?_
  have hc:op=2∨op=3∨op=4∨op=5∨op=6∨op=7∨op=8∨op=9∨op=10∨op=11∨op=12∨op=13∨op=14:=by omega
  rcases hc with rfl|rfl|rfl|rfl|rfl|rfl|rfl|rfl|rfl|rfl|rfl|rfl|rfl
  ·exact⟨_,[.pointer (some ⟨g4,0,none⟩),.pointer (some ⟨g5,0,none⟩)],rfl,VK,by omega,fun h9=>Lc (EU a b) rfl⟩
  ·exact⟨_,[.pointer (some ⟨g4,0,none⟩),.pointer (some ⟨g5,0,none⟩)],rfl,VJ,by omega,fun h9=>Lc (ET a b) rfl⟩
  ·exact⟨_,[.pointer (some ⟨g4,0,none⟩),.pointer (some ⟨g5,0,none⟩)],rfl,VH,by omega,fun h9=>Lc (ES a b) rfl⟩
  ·exact⟨_,[.pointer (some ⟨g4,0,none⟩),.pointer (some ⟨g5,0,none⟩)],rfl,VF,by omega,fun h9=>Lc (ER a b) rfl⟩
  ·exact⟨_,[.pointer (some ⟨g4,0,none⟩),.pointer (some ⟨g5,0,none⟩)],rfl,VE,by omega,fun h9=>Lc (EQ a b) rfl⟩
  ·exact⟨_,[.pointer (some ⟨g4,0,none⟩),.pointer (some ⟨g5,0,none⟩)],rfl,VD,by omega,fun h9=>Lc (EP a b) rfl⟩
  ·exact⟨_,[.pointer (some ⟨g4,0,none⟩),.pointer (some ⟨g8,0,none⟩)],rfl,VC,by omega,fun h9=>Vw (EO a b) rfl⟩
  ·exact⟨_,[.pointer (some ⟨g4,0,none⟩),.pointer (some ⟨g8,0,none⟩)],rfl,VA,by omega,fun h9=>Vw (EN a b) rfl⟩
  ·exact⟨_,[.pointer (some ⟨g4,0,none⟩),.pointer (some ⟨g8,0,none⟩)],rfl,UZ,by omega,fun h9=>Vw (EM a b) rfl⟩
  ·exact⟨_,[.pointer (some ⟨g4,0,none⟩),.pointer (some ⟨g5,0,none⟩)],rfl,UY,by omega,fun h9=>Lc (EY a b) rfl⟩
  ·exact⟨_,[.pointer (some ⟨g4,0,none⟩),.pointer (some ⟨g5,0,none⟩)],rfl,UX,by omega,fun h9=>Lc (EX a b) rfl⟩
  ·exact⟨_,[.pointer (some ⟨g4,0,none⟩),.pointer (some ⟨g5,0,none⟩)],rfl,UW,by omega,fun h9=>Lc (EW a b) rfl⟩
  ·exact⟨_,[.pointer (some ⟨g4,0,none⟩),.pointer (some ⟨g5,0,none⟩)],rfl,UV,by omega,fun h9=>Lc (EV a b (h9 rfl)) (by simp[doM,h9 rfl])⟩
 ·refine .inl ⟨?_,by omega⟩
  have h1:∀k:Int,2≤k→k≤14→(k==op)=false:=fun k h2 h3=>by rw[beq_eq_false_iff_ne];omega
  simp[lkM,List.find?,h1]
theorem EL(op:Int)(a:Int)(b:Int):Tv Tryz.prog 84 #[.int .i64 op,.int .i32 a,.int .i32 b] [] [] (.tuple #[.int .i32 ((doM op a b).1),.bool ((doM op a b).2)]):=by
 refine Az (args:=[.int .i64 op,.int .i32 a,.int .i32 b]) Tryz.func84 rfl rfl rfl fun w0 X=>?_
 refine jq (jr (Cm Z Z fun g4=>Cm Z Z fun g5=>ja Z (ja Z (jn (jx (jq (jr (js (jl k0 O21 Z Z) (js (jco U21 Gc Z Z) ?_)))))))))
 refine js (Gi Z Z (by decide)) (Bo TJ Z fun g8=>jst k0 TC Z Z Z s0 (jn (jx (jq (jr (jmm fun g13=>js (Ik Z Z) (jin Iu U3 k0 Z Z Z Z (js (Ik Z Z) (jin Iu U3 k0 Z Z Z Z ?_)))))))))
 refine js (Ik Z Z) (jin Iu U3 k0 Z Z Z Z (js (Ik Z Z) (jin Iu U3 k0 Z Z Z Z (js (Ik Z Z) (jin Iu U3 k0 Z Z Z Z (js (Ik Z Z) (jin Iu U3 k0 Z Z Z Z (js (Ik Z Z) (jin Iu U3 k0 Z Z Z Z (js (Ik Z Z) (jin Iu U3 k0 Z Z Z Z ?_)))))))))))
 refine js (Ik Z Z) (jin Iu U3 k0 Z Z Z Z (js (Ik Z Z) (jin Iu U3 k0 Z Z Z Z (js (Ik Z Z) (jin Iu U3 k0 Z Z Z Z (js (Ik Z Z) (jin Iu U3 k0 Z Z Z Z (js (Ik Z Z) (jin Iu U3 k0 Z Z Z Z (jm Z (jm Z ?_)))))))))))
 refine jfk (p:=fun v=>(v = .nilFunc∧(op<2∨14<op))∨∃(f:Nat) (cs:List Value),v = .func (.func f) #[] cs.toArray∧Ent Tryz.prog f∧(2≤op∧op≤14)∧((op=14→b≠0)→Tr Tryz.prog f cs.toArray [] [bx g4 21 [.int .i32 a],bx g5 21 [.int .i32 b],bx g8 155 [.int .u32 (Int.tmod (IntKind.u32.wrap b) 32)]] (fun _:Unit => .int .i32 (doM op a b).1) (fun _=>[]) (fun _ _=>[bx g4 21 [.int .i32 a],bx g5 21 [.int .i32 b],bx g8 155 [.int .u32 (Int.tmod (IntKind.u32.wrap b) 32)]]))) ⟨_,jlk Iu U3 TK k0 Z Z,EB a b op⟩ ?_
 rintro v29 (⟨rfl,hop⟩|⟨f,cs,rfl,hE,hop,hct⟩)
 refine ja Z (jn (jx (jq (jq (jr (jm Z (js (NR DG Z Z) (jm Z (jg Z Z (.f _) (fun hg=>jmv Z) (jg Z Z (.f _) (fun hg=>Ao (evg Z hg) Z) (jg Z Z (.f _) (fun hg=>jmv (evg Z hg)) ?_)))))))))))
 refine jg Z Z (.gt _ _) (fun hg=>jl k2 O21 Z Z) (jg Z Z (.gt _ _) (fun hg=>Ao (evg Z hg) Z) (jg Z Z (.f _) (fun hg=>Um hg Z Z) (js (jor Z Z) (jn (jx ?_)))))
 refine jif Z (fun hc1=>?_) (fun hc1=>?_)
 refine jq (jr (ja Z (ja Z (jn (jx (jrt (jtr ?_)))))))
 exact jr2 Z Z Z () (tIB (by first|(unfold doM;(repeat rw[if_neg (by omega)]);done)|(simp at hc2;obtain⟨rfl,rfl⟩:=hc2;rfl)|(simp at hc2;exact Yu hop (fun h9=>hc2.resolve_left (fun h8=>h8 h9))))) dn (fun _ _=>kn)
 exact absurd hc1 (by simp)
 refine ja Z (jn (jx (jq (jq (jr (jm Z (js (NS DG Z Z) (jm Z (jk Z Z (.f _) (jmv Z) (jk Z Z (.f _) (Ao Z Z) (jk Z Z (.f _) (jmv Z) ?_)))))))))))
 refine jg Z Z (.t _) (fun hg=>jl k2 O21 Z Z) (jg Z Z (.t _) (fun hg=>Ao (evg Z hg) Z) (jk Z Z (.f _) (Cf Z Z) (js (jor Z Z) (jn (jx ?_)))))
 refine jif Z (fun hc2=>?_) (fun hc2=>?_)
 refine jq (jr (ja Z (ja Z (jn (jx (jrt (jtr ?_)))))))
 exact jr2 Z Z Z () (tIB (by first|(unfold doM;(repeat rw[if_neg (by omega)]);done)|(simp at hc2;obtain⟨rfl,rfl⟩:=hc2;rfl)|(simp at hc2;exact Yu hop (fun h9=>hc2.resolve_left (fun h8=>h8 h9))))) dn (fun _ _=>kn)
 refine jsk (jx (jq (jr (jm Z (jc hE Z Z (hct (by omega)) dn (kc k3 (kc k2 (kc k1 kn))) (fun _=>p0) (fun _=>p3) fun _=>ja Z (ja Z (jn (jx (jrt ?_)))))))))
 exact jr2 Z Z Z () (tIB (by first|(unfold doM;(repeat rw[if_neg (by omega)]);done)|(simp at hc2;obtain⟨rfl,rfl⟩:=hc2;rfl)|(simp at hc2;exact Yu hop (fun h9=>hc2.resolve_left (fun h8=>h8 h9))))) dn (fun _ _=>kn)
abbrev U22:=@Tryz.underlying22
theorem I3:(Tryz.prog.info? 3).map (fun i=>(i.zero,i.size,i.bytes))=some (some (.int .i64 0),1,8):=by kernel_rfl
theorem O22:One Tryz.prog 22:=⟨_,Tryz.underlying22,rfl⟩
theorem O3:One Tryz.prog 3:=⟨_,Tryz.underlying3,rfl⟩
def FV(i:D.Mach):List Int :=
 if i.Op=1∨18≤i.Op∧i.Op≤22∨i.Op=24∨i.Op=31 then [i.A]
 else if i.Op=2∨5≤i.Op∧i.Op≤17∨i.Op=25∨i.Op=26∨i.Op=29 then [i.A,i.B]
 else if i.Op=23∨i.Op=27 then [i.A,i.B,i.C]
 else if i.Op=28 then i.Args
 else []
def LT(i:D.Mach):List Int :=
 if i.Op=2 then [i.A,i.B]
 else if i.Op=29 then [i.D,i.E]
 else if i.Op=26∨i.Op=27∨i.Op=31∨i.Op<1∨31<i.Op then []
 else [i.D]
def nM9(e:D.End):List Int :=
 if e.Op=2∨e.Op=6∨e.Op=7∧0≤e.A then [e.A]
 else if e.Op=3∨e.Op=4∨e.Op=5 then [e.A,e.B]
 else []
def Pa:List Int→Bool
 | []=>true
 | x::l=>if x<0∨8192≤x then false else Pa l
theorem Bi:Tryz.prog.follows .mixedOrders=true:=Checked.mixed Tryz.checked
abbrev Vh:=@Tryz.underlying203
abbrev U29:=@Tryz.underlying29
theorem E85:Ent Tryz.prog 85:=⟨_,Tryz.func85,by kernel_rfl,by kernel_rfl⟩
theorem Z21:Sz Tryz.prog 21 1:=by unfold Sz;kernel_rfl
def Da(regs:List Int)(r:Int):Int:=if r<0∨regs.length≤r then 0 else ix regs r.toNat
def Kl(regs:List Int)(r v:Int):List Int:=if 0≤r∧r<regs.length then regs.set r.toNat v else regs
def Ce(mem:List Int)(at':Int):Int×Bool:=if at'<0∨mem.length≤at' then (0,false) else (ix mem at'.toNat,true)
def Fv(mem:List Int)(at' v:Int):List Int:=if at'<0∨mem.length≤at' then mem else mem.set at'.toNat v
theorem MG{mem:List Int}{a:Int}(h:(Ce mem a).2=true):0≤a∧a<mem.length:=by
 unfold Ce at h;split at h
 ·cases h
 ·omega
theorem MH{mem:List Int}{a:Int}(h:(Ce mem a).2=false):a<0∨mem.length≤a:=by
 unfold Ce at h;split at h
 ·assumption
 ·cases h
def Jb(mem:List Int)(at' _x:Int):Bool:=(Ce mem at').2
def Kr(i:D.Input):List Int:=i.Mem.take 4096
def QG(e:D.End)(regs:List Int):Int :=
 if e.Op=1 then 0
 else if e.Op=2 then (if Da regs e.A≠0 then 0 else 1)
 else if e.Op=3 then (if Da regs e.A=Da regs e.B then 0 else 1)
 else if e.Op=4 then (if Da regs e.A<Da regs e.B then 0 else 1)
 else if e.Op=5 then (if u32 (Da regs e.A)<u32 (Da regs e.B) then 0 else 1)
 else if e.Op=6 then (if u32 (Da regs e.A)<e.To.length-1 then u32 (Da regs e.A) else e.To.length-1)
 else -1
def PJ(op:Int):Int:=ix [2,5,8,9,10] (op-18).toNat
def Qr(i:D.Mach)(regs mem:List Int):(Int×Bool)×List Int×List Int :=
 if i.Op=1 then ((0,true),Kl regs i.D (Da regs i.A),mem)
 else if i.Op=2 then ((0,true),Kl (Kl regs i.A (Da regs i.B)) i.B (Da regs i.A),mem)
 else if i.Op=3∨i.Op=4 then ((0,true),Kl regs i.D i.Imm,mem)
 else if 5≤i.Op∧i.Op≤17 then
  if (doM (i.Op-5+2) (Da regs i.A) (Da regs i.B)).2=true then ((0,true),Kl regs i.D (doM (i.Op-5+2) (Da regs i.A) (Da regs i.B)).1,mem) else ((-1,false),regs,mem)
 else if 18≤i.Op∧i.Op≤22 then ((0,true),Kl regs i.D (doM (PJ i.Op) (Da regs i.A) i.Imm).1,mem)
 else if i.Op=23 then ((0,true),Kl regs i.D (w32 (w32 (Da regs i.A*Da regs i.B)+Da regs i.C)),mem)
 else if i.Op=24 then
  if (Ce mem (w32 (Da regs i.A+i.Imm))).2=true then ((0,true),Kl regs i.D (Ce mem (w32 (Da regs i.A+i.Imm))).1,mem) else ((-2,false),regs,mem)
 else if i.Op=25 then
  if (Ce mem (w32 (Da regs i.A+Da regs i.B))).2=true then ((0,true),Kl regs i.D (Ce mem (w32 (Da regs i.A+Da regs i.B))).1,mem) else ((-2,false),regs,mem)
 else if i.Op=26 then
  ((if Jb mem (w32 (Da regs i.A+i.Imm)) (Da regs i.B)=true then (0,true) else (-2,false)),regs,Fv mem (w32 (Da regs i.A+i.Imm)) (Da regs i.B))
 else if i.Op=27 then
  ((if Jb mem (w32 (Da regs i.A+Da regs i.B)) (Da regs i.C)=true then (0,true) else (-2,false)),regs,Fv mem (w32 (Da regs i.A+Da regs i.B)) (Da regs i.C))
 else if i.Op=29 then ((0,true),Kl (Kl regs i.D (Gs (Da regs i.A) (Da regs i.B)).1) i.E (Gs (Da regs i.A) (Da regs i.B)).2,mem)
 else ((0,true),regs,mem)
theorem EE{a b:Int}(ha:IntKind.i32.wrap a=a)(hb:IntKind.i32.wrap b=b) :
  Gs a b=(IntKind.i32.wrap (IntKind.u32.wrap (IntKind.u64.wrap (a*b))),IntKind.i32.wrap (IntKind.u32.wrap (Hm .u64 (IntKind.u64.wrap (a*b)) 32))):=by
 have h1:=Lq ha
 have h2:=Lq hb
 have h3:=Ub h1 h2
 unfold Gs Hm
 generalize a*b=x at h3 ⊢
 have e1:(2:Int)^(min (32:Int).toNat IntKind.u64.bits)=4294967296:=by decide
 rw[e1,Int.fdiv_eq_ediv_of_nonneg _ (by decide),Int.fdiv_eq_ediv_of_nonneg _ (by decide)]
 simp only[w32,IntKind.wrap_i32,IntKind.wrap_u32,IntKind.wrap_u64,Prod.mk.injEq]
 omega
theorem EF{a b:Int}(ha:IntKind.i32.wrap a=a)(hb:IntKind.i32.wrap b=b) :
  Gs a b=(IntKind.i32.wrap (a*b),IntKind.i32.wrap (Hm .i64 (a*b) 32)):=by
 have h1:=Lq ha
 have h2:=Lq hb
 have h3:=Ub h1 h2
 unfold Gs Hm
 have e1:(2:Int)^(min (32:Int).toNat IntKind.i64.bits)=4294967296:=by decide
 rw[e1]
theorem FW(rs:List Int)(r v:Int):(Fv rs r v).length=rs.length:=by unfold Fv;split<;>simp
theorem So{α:Type}(l:List α)(n:Nat)(m:Int)(h:m=n):l.take n=l.take (Int.toNat (min (↑l.length) m)):=by
 subst h
 rcases Nat.le_total l.length n with h|h
 ·rw[List.take_of_length_le h,List.take_of_length_le (by omega)]
 ·congr 1;omega
def Hy(a b:List Int):Bool:=decide (a=b)
theorem HO{a b:List Int}(h:¬a.length=b.length):Hy a b=false:=by simp only[Hy,decide_eq_false_iff_not];rintro rfl;exact h rfl
theorem K5{a b:List Int}{k:Nat}(h1:k<a.length)(h2:a.length=b.length)(h:¬ix a k=ix b k):Hy a b=false:=by simp only[Hy,decide_eq_false_iff_not];rintro rfl;exact h rfl
theorem K4{a b:List Int}{k:Nat}(h1:a.length≤k)(h2:a.length=b.length)(h:a.take k=b.take k):Hy a b=true:=by
 rw[List.take_of_length_le h1,List.take_of_length_le (by omega)] at h
 simp only[Hy,h,decide_true]
theorem MF{E B:Nat}{F:PH}{H:Heap}{v:Value}{l:List Int}(h:Gl (rI .i32) E F H B v l)(r:Int):IntKind.i32.wrap (Ce l r).1=(Ce l r).1:=by
 unfold Ce;split
 ·decide
 ·exact h.wr (by omega)
theorem GW{a:Int}(b:Int)(ha:IntKind.i32.wrap a=a):IntKind.i32.wrap (Lz a b)=Lz a b:=by
 have h1:=Lq ha
 unfold Lz
 have h2:(0:Int)<2^(b%32).toNat:=Int.pow_pos (by decide)
 rw[Int.fdiv_eq_ediv_of_nonneg _ (by omega)]
 refine IntWalk.i32_in _ ⟨?_,?_⟩
 ·rw[Int.le_ediv_iff_mul_le h2]
  have:(-2147483648:Int)*2^(b%32).toNat≤-2147483648*1:=by
   have:=Int.mul_le_mul_of_nonneg_left (show(1:Int)≤2^(b%32).toNat by omega) (show(0:Int)≤2147483648 by decide)
   omega
  omega
 ·have:=Int.ediv_le_self (b:=2^(b%32).toNat) (a:=a)
  by_cases h:0≤a
  ·have:=this h;omega
  ·have:=Int.ediv_neg_of_neg_of_pos (a:=a) (b:=2^(b%32).toNat) (by omega) h2
   omega
theorem Zb(b:Bool):IntKind.i32.wrap (Fk b)=Fk b:=by cases b<;>decide
theorem RL(op:Int){a:Int}(b:Int)(ha:IntKind.i32.wrap a=a):IntKind.i32.wrap (doM op a b).1=(doM op a b).1:=by
 by_cases h:2≤op∧op≤14
 ·have hc:op=2∨op=3∨op=4∨op=5∨op=6∨op=7∨op=8∨op=9∨op=10∨op=11∨op=12∨op=13∨op=14:=by omega
  rcases hc with rfl|rfl|rfl|rfl|rfl|rfl|rfl|rfl|rfl|rfl|rfl|rfl|rfl
  ·exact JE.wrap_wrap _ _
  ·exact JE.wrap_wrap _ _
  ·exact JE.wrap_wrap _ _
  ·exact JE.wrap_wrap _ _
  ·exact JE.wrap_wrap _ _
  ·exact JE.wrap_wrap _ _
  ·exact JE.wrap_wrap _ _
  ·exact JE.wrap_wrap _ _
  ·exact GW b ha
  ·exact Zb _
  ·exact Zb _
  ·exact Zb _
  ·have e1:doM 14 a b=if b=0 then (0,false) else (Ux a b,true):=rfl
   rw[e1];split
   ·decide
   ·exact JE.wrap_wrap _ _
 ·have e1:doM op a b=(0,false):=by unfold doM;repeat rw[if_neg (by omega)]
  rw[e1];decide
theorem wld{D:List Dt}{L M:List Res}{B E:Nat}{v:Value}{l:List Int}(hk:Tk L (gl B (rI .i32) E v l) M)(r:Int):Wr D L .i32 (Ce l r).1:=fun _ _ _ _ z=>MF (hk.ok z).1.1 r
theorem wdo{D:List Dt}{L:List Res}{op a b:Int}(h:Wr D L .i32 a):Wr D L .i32 (doM op a b).1:=fun F H x y z=>RL _ _ (h F H x y z)
theorem IC(a:Int)(b:Int)(ww0:IntKind.i32.wrap a=a)(ww1:IntKind.i32.wrap b=b):Tv Tryz.prog 110 #[.int .i32 a,.int .i32 b] [] [] (.tuple #[.int .i32 ((Gs a b).1),.int .i32 ((Gs a b).2)]):=by
 refine Az (args:=[.int .i32 a,.int .i32 b]) Tryz.func110 rfl rfl rfl fun w0 X=>?_
 have b0:=Lq ww0
 have b1:=Lq ww1
 have b2:=Ub b0 b1
 have c0:=IntWalk.i64_in a (by omega)
 have c1:=IntWalk.i64_in b (by omega)
 refine jq (jr (ja Z (ja Z (jn (jx (jq (jr (jm Z (js (jco U21 U2 Z (Lx ww0)) (jm Z (js (jco U21 U2 Z (Lx ww1)) ?_)))))))))))
 refine js (Ya Z Z (by omega)) (ja Z (jn (jx (jq (jr (jm Z (js (jco U2 Vh Z Z) (js (jco Vh Gc Z Z) (js (jco Gc U21 Z Z) (jm Z (js (jco U2 Vh Z Z) ?_)))))))))))
 refine js (Po Z Z (by decide)) (js (jco Vh Gc Z Z) (js (jco Gc U21 Z Z) (ja Z (ja Z (jn (jx (jrt ?_)))))))
 exact jr2 Z Z Z () (tII (EE ww0 ww1)) dn (fun _ _=>kn)
theorem EI(a:Int)(b:Int)(ww0:IntKind.i32.wrap a=a)(ww1:IntKind.i32.wrap b=b):Tv Tryz.prog 87 #[.int .i32 a,.int .i32 b] [] [] (.tuple #[.int .i32 ((Gs a b).1),.int .i32 ((Gs a b).2)]):=by
 refine Az (args:=[.int .i32 a,.int .i32 b]) Tryz.func87 rfl rfl rfl fun w0 X=>?_
 have b0:=Lq ww0
 have b1:=Lq ww1
 have b2:=Ub b0 b1
 have c0:=IntWalk.i64_in a (by omega)
 have c1:=IntWalk.i64_in b (by omega)
 refine jq (jr (ja Z (ja Z (jn (jx (jq (jr (jm Z (js (jco U21 U2 Z (Lx ww0)) (jm Z (js (jco U21 U2 Z (Lx ww1)) ?_)))))))))))
 refine js (Ya Z Z (by omega)) (ja Z (jn (jx (jq (jr (jm Z (js (jco U2 U21 Z Z) (jm Z (js (Po Z Z (by decide)) (js (jco U2 U21 Z Z) (ja Z ?_)))))))))))
 refine ja Z (jn (jx (jrt ?_)))
 exact jr2 Z Z Z () (tII (EF ww0 ww1)) dn (fun _ _=>kn)
theorem Tx{a0:Value}{mem:List Int}(at':Int)(ww1:IntKind.i32.wrap at'=at'):Tv Tryz.prog 85 #[a0,.int .i32 at'] [dv (rL (rI .i32)) a0 mem] [] (.tuple #[.int .i32 ((Ce mem at').1),.bool ((Ce mem at').2)]):=by
 refine Az (args:=[a0,.int .i32 at']) Tryz.func85 rfl rfl rfl fun w0 X=>?_
 refine jq (jr (ja Z (ja Z (jn (jx (jq (jq (jr (jm Z (js (Ar Z Z) (jm Z ?_)))))))))))
 refine jg Z Z (.f _) (fun hg=>jmv Z) (jg Z Z (.f _) (fun hg=>jco U21 U3 (evg Z hg) (Lx ww1)) (jg Z Z (.f _) (fun hg=>jmv Z) (jdq d0 fun q1 w1=>jg Z Z (.f _) (fun hg=>jln U29 d0 (evg Z hg)) (jg Z Z (.f _) (fun hg=>Gj (evg Z hg) (evg Z hg)) (js (jor Z Z) (jn (jx ?_)))))))
 refine jif Z (fun hc1=>?_) (fun hc1=>?_)
 refine jq (jr (ja Z (ja Z (jn (jx (jrt (jtr ?_)))))))
 exact jr2 Z Z Z () (tIB (by first|(simp[Ce,hc1];done)|(unfold Ce;(repeat' split)<;>first|rfl|(exfalso;omega)|(simp[Ce,hc1];done)))) dn (fun _ _=>kn)
 refine jsk (jx (jq (jr (jm Z (jm Z (js (jix (i:=at'.toNat) U29 Z21 d0 Z Z (by omega) (by omega)) (js (jlI (dix d0 at'.toNat (by omega)) O21 Z) (ja Z (ja Z (jn (jx ?_)))))))))))
 refine jrt ?_
 exact jr2 Z Z Z () (tIB (by first|(simp[Ce,hc1];done)|(unfold Ce;(repeat' split)<;>first|rfl|(exfalso;omega)|(simp[Ce,hc1];done)))) dn (fun _ _=>kn)
theorem IJ{a0:Value}{mem:List Int}(at':Int)(ww1:IntKind.i32.wrap at'=at'):Tv Tryz.prog 107 #[a0,.int .i32 at'] [dv (rL (rI .i32)) a0 mem] [] (.tuple #[.int .i32 ((Ce mem at').1),.bool ((Ce mem at').2)]):=by
 refine Az (args:=[a0,.int .i32 at']) Tryz.func107 rfl rfl rfl fun w0 X=>?_
 refine jq (jr (ja Z (ja Z (jn (jx (jq (jq (jr (jm Z (js (Ar Z Z) (jm Z ?_)))))))))))
 refine jg Z Z (.f _) (fun hg=>jmv Z) (jg Z Z (.f _) (fun hg=>jco U21 U3 (evg Z hg) (Lx ww1)) (jg Z Z (.f _) (fun hg=>jmv Z) (jdq d0 fun q1 w1=>jg Z Z (.f _) (fun hg=>jln U29 d0 (evg Z hg)) (jg Z Z (.f _) (fun hg=>Gj (evg Z hg) (evg Z hg)) (js (jor Z Z) (jn (jx ?_)))))))
 refine jif Z (fun hc1=>?_) (fun hc1=>?_)
 refine jq (jr (ja Z (ja Z (jn (jx (jrt (jtr ?_)))))))
 exact jr2 Z Z Z () (tIB (by first|(simp[Ce,hc1];done)|(unfold Ce;(repeat' split)<;>first|rfl|(exfalso;omega)|(simp[Ce,hc1];done)))) dn (fun _ _=>kn)
 refine jsk (jx (jq (jr (jm Z (jm Z (js (jix (i:=at'.toNat) U29 Z21 d0 Z Z (by omega) (by omega)) (js (jlI (dix d0 at'.toNat (by omega)) O21 Z) (ja Z (ja Z (jn (jx ?_)))))))))))
 refine jrt ?_
 exact jr2 Z Z Z () (tIB (by first|(simp[Ce,hc1];done)|(unfold Ce;(repeat' split)<;>first|rfl|(exfalso;omega)|(simp[Ce,hc1];done)))) dn (fun _ _=>kn)
theorem IE{a0:Value}{mem:List Int}{B0:Nat}(at':Int)(x:Int)(hl:mem.length<1073741824)(ww1:IntKind.i32.wrap at'=at')(ww2:IntKind.i32.wrap x=x):Tr Tryz.prog 109 #[a0,.int .i32 at',.int .i32 x] [] [gl B0 (rI .i32) 21 a0 mem] (fun _:Unit => .bool (Jb mem at' x)) (fun _=>[]) (fun _ _=>[gl B0 (rI .i32) 21 a0 (Fv mem (at') x)]):=by
 refine Az (args:=[a0,.int .i32 at',.int .i32 x]) Tryz.func109 rfl rfl rfl fun w0 X=>?_
 refine cgo k0 fun w1=>jq (jr (ja Z (jn (jx (jq (jq (jr (jm Z (js (Ar Z Z) (jm Z ?_))))))))))
 refine jg Z Z (.f _) (fun hg=>jmv Z) (jg Z Z (.f _) (fun hg=>jco U21 U3 (evg Z hg) (Lx ww1)) (jg Z Z (.f _) (fun hg=>jmv Z) (jg Z Z (.f _) (fun hg=>jlg U29 k0 (evg Z hg)) (jg Z Z (.f _) (fun hg=>Gj (evg Z hg) (evg Z hg)) (js (jor Z Z) (jn (jx ?_)))))))
 refine jif Z (fun hc1=>?_) (fun hc1=>?_)
 refine jq (jr (ja Z (jn (jx (jrt (jtr ?_))))))
 exact jr1 Z Z () (congrArg Value.bool (Eq.symm (by first|(simp[Jb,Ce, *];done)|(unfold Jb Ce;rw[if_neg (by omega)])))) dn (fun _ _=>(kcg (by first|(simp[Fv, *];done)|(unfold Fv;rw[if_neg (by omega)])) k0 kn))
 refine jsk (jx (jq (jr (jm Z (jm Z (jm Z (js (jig (i:=at'.toNat) U29 Z21 k0 Z Z (by omega) (by omega)) (jsg k0 Z Z21 Z Z Z (by omega) (wI (wp ww2)) (jn (jx (jq ?_)))))))))))
 refine jr (ja Z (jn (jx (jrt ?_))))
 exact jr1 Z Z () (congrArg Value.bool (Eq.symm (by first|(simp[Jb,Ce, *];done)|(unfold Jb Ce;rw[if_neg (by omega)])))) dn (fun _ _=>(kcg (by first|(simp[Fv, *];done)|(unfold Fv;rw[if_neg (by omega)])) k0 kn))
theorem KJ{a0:Value}{mem:List Int}{B0:Nat}(at':Int)(x:Int)(hl:mem.length<1073741824)(ww1:IntKind.i32.wrap at'=at')(ww2:IntKind.i32.wrap x=x):Tr Tryz.prog 86 #[a0,.int .i32 at',.int .i32 x] [] [gl B0 (rI .i32) 21 a0 mem] (fun _:Unit => .bool (Jb mem at' x)) (fun _=>[]) (fun _ _=>[gl B0 (rI .i32) 21 a0 (Fv mem (at') x)]):=by
 refine Az (args:=[a0,.int .i32 at',.int .i32 x]) Tryz.func86 rfl rfl rfl fun w0 X=>?_
 refine cgo k0 fun w1=>jq (jr (ja Z (jn (jx (jq (jr (jm Z (jm Z (jc E85 Z Z (Tv.temp 1073741824 (Tx (at') ww1) (by omega)) dn (kc k0 kn) (fun _=>p0) (fun _=>p1) fun _=>jm Z ?_)))))))))
 refine js (Bs Z Z) (js (Bs Z Z) (ja Z (ja Z (jn (jx (jq (jq (jr (jm Z (jn (jx ?_)))))))))))
 refine jif Z (fun hc1=>?_) (fun hc1=>?_)
 have hb:=MG hc1
 refine jr (jm Z (jm Z (jm Z (js (jig (i:=at'.toNat) U29 Z21 k0 Z Z (by omega) (by omega)) (jsg k0 Z Z21 Z Z Z (by omega) (wI (wp ww2)) (jn (jx (jq (jr (jm Z (ja Z ?_)))))))))))
 refine jn (jx (jrt ?_))
 exact jr1 Z Z () (congrArg Value.bool (Eq.symm (by first|(simp[Jb, *];done)))) dn (fun _ _=>(kcg (by first|(simp[Fv, *];done)|(unfold Fv;rw[if_neg (by omega)];done)|(unfold Fv;rw[if_pos (by omega)];done)) k0 kn))
 have hb:=MH hc1
 refine jsk (jx (jq (jr (jm Z (ja Z (jn (jx (jrt ?_))))))))
 exact jr1 Z Z () (congrArg Value.bool (Eq.symm (by first|(simp[Jb, *];done)))) dn (fun _ _=>(kcg (by first|(simp[Fv, *];done)|(unfold Fv;rw[if_neg (by omega)];done)|(unfold Fv;rw[if_pos (by omega)];done)) k0 kn))
theorem E60:Ent Tryz.prog 60:=⟨_,Tryz.func60,by kernel_rfl,by kernel_rfl⟩
theorem Qf:Fld Tryz.prog 31 1 1:=⟨_,_,Tryz.underlying31,rfl,rfl,1,(by unfold Sz;kernel_rfl),by decide⟩
theorem I21:(Tryz.prog.info? 21).map (fun i=>(i.zero,i.size,i.bytes))=some (some (.int .i32 0),1,4):=by kernel_rfl
theorem O29:One Tryz.prog 29:=⟨_,Tryz.underlying29,rfl⟩
theorem Z3:Sz Tryz.prog 3 1:=by unfold Sz;kernel_rfl
theorem SB{a0:Value}{l:List Int}:Tg Tryz.prog 60 #[a0] [dv (rL (rI .i32)) a0 l] [] (rI .i32) 21 l:=by
 refine Az (args:=[a0]) Tryz.func60 rfl rfl rfl fun w0 X=>?_
 refine jq (jr (ja Z (jn (jx (jq (jq (jr (jm Z (jeb (NQ U29 d0 Z Z) fun b4 hnil4=>jn (jx ?_))))))))))
 refine jif Z (fun hc1=>?_) (fun hc1=>?_)
 refine jq (jr (ja Z (jn (jx (jrt (jtr (qnl (r:=(rI .i32)) (E:=21) ?_)))))))
 exact jrG Z Z (by first|rfl|exact hnil4 hc1) k0
 refine jsk (jx (jq (jr (Bg (r:=(rI .i32)) (l:=[]) U29 I21 (by decide) Z Z Z ln fun g5=>jm Z (jdq d0 fun q2 w2=>Hd U29 I21 (by decide) Z k0 Z Z d0 (by omega) fun v7 w3=>ja Z (jn (jx (jrt ?_))))))))
 exact jrG Z Z (by first|rfl|exact hnil4 hc1) k0
theorem II{a0a a0b a0c:Value}{i:D.Input}:Tg Tryz.prog 54 #[vInput i (a0a,a0b,a0c)] [da Br (vInput i (a0a,a0b,a0c)) i] [] (rI .i32) 21 (Kr i):=by
 refine Az (args:=[vInput i (a0a,a0b,a0c)]) Tryz.func54 rfl rfl rfl fun w0 X=>?_
 refine jq (jr (Cm Z Z fun g1=>ja Z (jn (jx (jq (jr (Bg (r:=(rI .i32)) (l:=[]) U29 I21 (by decide) Z Z Z ln fun g3=>js (jf Qf Z) (js (jl k1 O29 Z Z) (js (jf Qf Z) ?_)))))))))
 refine js (jl k1 O29 Z Z) (jdq (Br.c_Mem d0) fun q1 w1=>js (jln U29 (Br.c_Mem d0) Z) (js (Lo Z Z) (js (Rb (hi:=(Int.toNat (min (↑(List.length i.Mem)) 4096))) U29 Z21 (Br.c_Mem d0) Z Z (by omega) (by omega)) (jdq (dhi (Br.c_Mem d0) (Int.toNat (min (↑(List.length i.Mem)) 4096)) (by omega) (by omega)) fun q2 w2=>Hd U29 I21 (by decide) Z k0 Z Z (dhi (Br.c_Mem d0) (Int.toNat (min (↑(List.length i.Mem)) 4096)) (by omega) (by omega)) (by(try simp)<;>omega) fun v11 w3=>ja Z (jn (jx (jrt ?_)))))))
 exact jrG Z Z (So _ 4096 _ rfl) k0
theorem KK{a0a a0b a0c:Value}{i:D.Input}:Tg Tryz.prog 28 #[vInput i (a0a,a0b,a0c)] [da Br (vInput i (a0a,a0b,a0c)) i] [] (rI .i32) 21 (Kr i):=by
 refine Az (args:=[vInput i (a0a,a0b,a0c)]) Tryz.func28 rfl rfl rfl fun w0 X=>?_
 refine jq (jr (Cm Z Z fun g1=>ja Z (jn (jx (jq (jr (js (jf Qf Z) (js (jl k0 O29 Z Z) (js (jf Qf Z) (js (jl k0 O29 Z Z) ?_))))))))))
 refine jdq (Br.c_Mem d0) fun q1 w1=>js (jln U29 (Br.c_Mem d0) Z) (js (Lo Z Z) (js (Rb (hi:=(Int.toNat (min (↑(List.length i.Mem)) 4096))) U29 Z21 (Br.c_Mem d0) Z Z (by omega) (by omega)) (jdq (dhi (Br.c_Mem d0) (Int.toNat (min (↑(List.length i.Mem)) 4096)) (by omega) (by omega)) fun q2 w2=>jcg E60 Z Z SB (dc (dhi (Br.c_Mem d0) (Int.toNat (min (↑(List.length i.Mem)) 4096)) (by omega) (by omega)) dn) kn fun v10 w3=>ja Z (jn (jx (jrt ?_))))))
 exact jrG Z Z (So _ 4096 _ rfl) k0
theorem B9{a0:Value}{a:List Int}{a1:Value}{b:List Int}:Tv Tryz.prog 15 #[a0,a1] [dv (rL (rI .i32)) a0 a,dv (rL (rI .i32)) a1 b] [] (.bool (Hy a b)):=by
 refine Az (args:=[a0,a1]) Tryz.func15 rfl rfl rfl fun w0 X=>?_
 refine jq (jr (ja Z (jn (jx (jq (jq (jr (jm Z (jdq d0 fun q1 w1=>js (jln U29 d0 Z) (jm Z ?_))))))))))
 refine jdq d1 fun q2 w2=>js (jln U29 d1 Z) (js (Ga Z Z) (jn (jx ?_)))
 refine jif Z (fun hc1=>?_) (fun hc1=>?_)
 refine jq (jr (ja Z (jn (jx (jrt (jtr ?_))))))
 exact jrB Z Z (HO (by omega))
 refine jsk (jx (jq (jq (jr (ja Z (jn (jx (jb ?_))))))))
 refine jlp (fun(k:Nat)=>⟨k≤a.length∧a.take k=b.take k,[dv (rL (rI .i32)) a0 a,dv (rL (rI .i32)) a1 b],[],[(0,a0),(1,a1),(5,.int .i64 (↑k))],a.length-k⟩) 0 ⟨by omega,rfl⟩ (dc d0 (dc d1 dn)) kn ⟨Z,Z,eqI (by omega),trivial⟩ ?_
 rintro k;dsimp only;rintro⟨hk,hR⟩
 refine jq (jq (jr (jm Z (jm Z (js (jln U29 d0 Z) (js (Ar Z Z) (jn (jx ?_))))))))
 refine jif Z (fun hc2=>?_) (fun hc2=>?_)
 refine jsk (jx (jq (jb (jq (Gh Bi (by kernel_rfl) (jt (jmv Z) (jt (jmv Z) (jt (jix U29 Z21 d0 Z Z Z (by omega)) (jt (jlI (dix d0 k (by omega)) O21 Z) (jt (jmv Z) (jt (jmv Z) ?_)))))))))))
 refine jt (jix U29 Z21 d1 Z Z Z (by omega)) (jt (jlI (dix d1 k (by omega)) O21 Z) (jt (Ga Z Z) (jdn (jx ?_))))
 refine jif Z (fun hc3=>?_) (fun hc3=>?_)
 refine jq (jr (ja Z (jn (jx (jrt (jbr (jtr (jtr (jbr (jtr ?_))))))))))
 exact jrB Z Z (by first|exact K5 (k:=k) (by omega) (by omega) hc3|exact K4 (k:=k) (by omega) (by omega) hR)
 refine jsk (jbn (jx (jr (jm Z (js (Al Z Z (by omega)) (ja Z (jn ?_)))))))
 exact jag (k+1) ⟨by omega,by rw[Ej (by omega),Ej (by omega),hR,hc3]⟩ (dc d0 (dc d1 dn)) kn ⟨Z,Z,eqI (by omega),trivial⟩
 refine jex (jtx (jtx (jbh (jx (jq (jr (ja Z (jn (jx (jrt ?_))))))))))
 exact jrB Z Z (by first|exact K5 (k:=k) (by omega) (by omega) hc3|exact K4 (k:=k) (by omega) (by omega) hR)
theorem E84:Ent Tryz.prog 84:=⟨_,Tryz.func84,by kernel_rfl,by kernel_rfl⟩
theorem E86:Ent Tryz.prog 86:=⟨_,Tryz.func86,by kernel_rfl,by kernel_rfl⟩
theorem E87:Ent Tryz.prog 87:=⟨_,Tryz.func87,by kernel_rfl,by kernel_rfl⟩
abbrev U57:=@Tryz.underlying57
abbrev U63:=@Tryz.underlying63
theorem B5:Ag9 Tryz.prog 111:=⟨_,Tryz.underlying111,rfl⟩
theorem A65:Ag9 Tryz.prog 65:=⟨_,Tryz.underlying65,rfl⟩
theorem E81:Ent Tryz.prog 81:=⟨_,Tryz.func81,by kernel_rfl,by kernel_rfl⟩
theorem Hh:Sz Tryz.prog 111 2:=by unfold Sz;kernel_rfl
theorem Z65:Sz Tryz.prog 65 2:=by unfold Sz;kernel_rfl
def Dw{α:Type}(l:List α)(q:α→Bool):Int:=match l.findIdx? q with
 | some i=>i
 | none=>-1
def Zk{α:Type}(l:List α)(q:α→Bool):Bool:=l.any q
theorem PN{α:Type}[Inhabited α]{l:List α}{q:α→Bool}{k:Nat}(hk:k<l.length)(h:∀x∈l.take k,q x=false)(h1:q (ix l k)=true):Dw l q=k:=by
 have:l.findIdx? q=some k:=by
  rw[List.findIdx?_eq_some_iff_getElem]
  refine⟨hk,by rw[←Bp hk];exact h1,fun j hj=>?_⟩
  have:=h l[j] (by rw[List.mem_take_iff_getElem];exact⟨j,by omega,rfl⟩)
  simp[this]
 simp[Dw,this]
theorem PL{α:Type}{l:List α}{q:α→Bool}{k:Nat}(hk:l.length≤k)(h:∀x∈l.take k,q x=false):Dw l q=-1:=by
 rw[List.take_of_length_le hk] at h
 have:l.findIdx? q=none:=by rw[List.findIdx?_eq_none_iff];exact h
 simp[Dw,this]
theorem LE{α:Type}[Inhabited α]{l:List α}{q:α→Bool}{k:Nat}(hk:k<l.length)(h:∀x∈l.take k,q x=false)(h1:q (ix l k)=false):∀x∈l.take (k+1),q x=false:=by
 intro x hx
 rw[Ej hk] at hx
 rcases List.mem_append.1 hx with hx|hx
 ·exact h x hx
 ·simp at hx;subst hx;exact h1
theorem PP{a0:Value}{l:List D.In}{fp:Nat}{cp:List Value}{D1:List Dt}{L1:List Res}(q:D.In→Bool)(hE:Ent Tryz.prog fp)(hq:∀x,x∈l→∀c:Unit,Pd Tryz.prog fp (vIn x c::cp).toArray [da rIn (vIn x c) x,dl D1] L1 (q x)):Tr Tryz.prog 81 #[a0,.func (.func fp) #[] cp.toArray] [dv (rL rIn) a0 l,dl D1] [it L1] (fun _:Unit => .int .i64 (Dw l q)) (fun _=>[]) (fun _ _=>[it L1]):=by
 refine Az (args:=[a0,.func (.func fp) #[] cp.toArray]) Tryz.func81 rfl rfl rfl fun w0 X=>?_
 refine jq (jr (ja Z (jn (jx (jq (jq (jr (jm Z (jdq d0 fun q1 w1=>js (jln U63 d0 Z) (jm Z ?_))))))))))
 refine jn (jx (jb ?_))
 refine jlp (fun(k:Nat)=>⟨k≤l.length∧(∀x∈l.take k,q x=false),[dv (rL rIn) a0 l,dl D1],[it L1],[(0,a0),(1,.func (.func fp) #[] cp.toArray),(7,.int .i64 (↑l.length)),(8,.int .i64 (↑k))],l.length-k⟩) 0 ⟨by omega,by simp⟩ (dc d0 (dc d1 dn)) (kc k0 kn) ⟨Z,Z,Z,eqI (by omega),trivial⟩ ?_
 rintro k;dsimp only;rintro⟨hk,hR⟩
 refine jq (jr (js (Ar Z Z) (jn (jx (jq ?_)))))
 refine jif Z (fun hc1=>?_) (fun hc1=>?_)
 refine jsk (jx (jq (jb (jq (jr (jm Z (ja Z (jn (jx (jq (jr ?_)))))))))))
 refine jm Z (jm Z (jm Z (js (jix U63 Hh d0 Z Z Z (by omega)) (jA sIn (jlA (dix d0 k (by omega)) B5 Hh Z) fun _=>jc hE Z Z (hq (ix l k) (Ax (by omega)) ()) (dc d0 (dc d2 dn)) (kc k0 kn) (fun _=>p0) (fun _=>p1) fun _=>jn (jx ?_)))))
 refine jif Z (fun hc2=>?_) (fun hc2=>?_)
 refine jq (jr (jm Z (ja Z (jn (jx (jrt (jbr (jtr (jtr (jbr (jtr ?_)))))))))))
 exact jr1 Z Z () (congrArg (Value.int .i64) (Eq.symm (PN (by omega) hR hc2))) dn (fun _ _=>(kc k0 kn))
 refine jsk (jbn (jx (jr (js (Al Z Z (by omega)) (jm Z (jn ?_))))))
 exact jag (k+1) ⟨by omega,LE (by omega) hR hc2⟩ (dc d1 (dc d2 dn)) (kc k0 kn) ⟨Z,Z,Z,eqI (by omega),trivial⟩
 refine jex (jtx (jtx (jbh (jx (jq (jr (ja Z (jn (jx (jrt ?_))))))))))
 exact jr1 Z Z () (congrArg (Value.int .i64) (Eq.symm (PL (by omega) hR))) dn (fun _ _=>(kc k0 kn))
def PK(i:D.Mach):Bool :=
 if i.Op=3 then AP i.Imm 16
 else if i.Op=18∨i.Op=19 then AP i.Imm 8
 else if i.Op=20∨i.Op=21∨i.Op=22 then decide (0≤i.Imm∧i.Imm≤31)
 else if i.Op=24∨i.Op=26 then decide (0≤i.Imm∧i.Imm≤255)
 else true
def Z5(i:D.Mach):Int :=
 if i.Op<1∨29<i.Op∨i.Op=2∨(i.Op=28∧4<i.Args.length) then 30
 else if Pa (LT i)=false∨Pa (FV i)=false then 31
 else if i.Op=29∧i.D=i.E then 12
 else if PK i=false then 32
 else 0
def MM(op:Int):Int:=if op=1 then 1 else if op=7∨op=8 then 0 else 2
def MN(op:Int):Int:=if op=1 then 1 else if op=7∨op=8 then 0 else if op=6 then 65 else 2
def toM(e:D.End):Bool:=decide (1≤e.Op∧e.Op≤8∧MM e.Op≤e.To.length∧e.To.length≤MN e.Op)
def SM(n b:Int):Bool:=decide (b<1)||decide (n≤b)
def AW(e:D.End)(n:Int):Int:=if toM e=false then 30 else if Pa (nM9 e)=false then 31 else if Zk e.To (SM n)=true then 14 else 0
def Q4(p:D.Phi)(ahead:List D.Phi):Int :=
 if Pa [p.Dst]=false∨Zk p.In (fun x=>!Pa [x.Val])=true then 31
 else if Zk ahead (fun x=>decide (x.Dst=p.Dst))=true then 12
 else 0
theorem Qi:Fld Tryz.prog 111 1 1:=⟨_,_,Tryz.underlying111,rfl,rfl,1,(by unfold Sz;kernel_rfl),by decide⟩
theorem Rz:Fld Tryz.prog 65 0 0:=⟨_,_,Tryz.underlying65,rfl,rfl,1,(by unfold Sz;kernel_rfl),by decide⟩
theorem Fa:Fld Tryz.prog 65 1 1:=⟨_,_,Tryz.underlying65,rfl,rfl,1,(by unfold Sz;kernel_rfl),by decide⟩
theorem O63:One Tryz.prog 63:=⟨_,Tryz.underlying63,rfl⟩
abbrev Ex:=@Tryz.underlying129
theorem UL:Ent Tryz.prog 176:=⟨_,Tryz.func176,by kernel_rfl,by kernel_rfl⟩
theorem Ng:Fld Tryz.prog 111 0 0:=⟨_,_,Tryz.underlying111,rfl,rfl,1,(by unfold Sz;kernel_rfl),by decide⟩
theorem O4:One Tryz.prog 4:=⟨_,Tryz.underlying4,rfl⟩
theorem Z4:Sz Tryz.prog 4 1:=by unfold Sz;kernel_rfl
theorem DL:(Tryz.prog.info? 111).bind (·.zero)=some (.agg #[.int .i64 0,.int .i64 0]):=by kernel_rfl
def JL(bs:List D.MBlock)(k:Nat)(b:Int):List Int:=((List.range k).filter (fun a:Nat=>decide (b∈(ix bs a).End.To))).map (fun a:Nat=>(a:Int))
def N5(bs:List D.MBlock)(b:Int):List Int:=JL bs bs.length b
def Va:List Bool→List Int→List Int→List Bool×List Int
 | seen,q,[]=>(seen,q)
 | seen,q,t::ts=>if ix seen t.toNat=true then Va seen q ts else Va (seen.set t.toNat true) (q++[t]) ts
def bfs(bs:List D.MBlock):Nat→List Bool→List Int→List Bool
 | 0,seen,_=>seen
 | _+1,seen,[]=>seen
 | f+1,seen,x::q=>bfs bs f (Va seen (x::q) (ix bs x.toNat).End.To).1 ((Va seen (x::q) (ix bs x.toNat).End.To).2.drop 1)
def Xa(bs:List D.MBlock):List Bool:=bfs bs bs.length ((List.replicate bs.length false).set 0 true) [0]
def SL(bs:List D.MBlock)(b:Nat)(p:D.Phi):Bool:=decide (b=0)||!decide (p.In.map (·.From)=N5 bs b)
def AJ(bs:List D.MBlock):Nat→List D.MBlock→Int×Int×Int
 | _,[]=>(0,0,0)
 | b,x::l=>match x.Phis.findIdx? (SL bs b) with
  | some i=>(16,b,-1-i)
  | none=>AJ bs (b+1) l
def PW(m:D.MFunc):Int×Int×Int:=if 0≤Dw (Xa m.Blocks) (fun x=>false==x) then (15,Dw (Xa m.Blocks) (fun x=>false==x),0) else AJ m.Blocks 0 m.Blocks
section
variable{bs:List D.MBlock}{k j n:Nat}{ls:List (List Int)}
end
abbrev Df:=@Tryz.underlying125
theorem VL:Ent Tryz.prog 138:=⟨_,Tryz.func138,by kernel_rfl,by kernel_rfl⟩
theorem I22:(Tryz.prog.info? 22).map (fun i=>(i.zero,i.size,i.bytes))=some (some (.slice none 0 0),1,24):=by kernel_rfl
theorem I4:(Tryz.prog.info? 4).map (fun i=>(i.zero,i.size,i.bytes))=some (some (.bool false),1,1):=by kernel_rfl
theorem O57:One Tryz.prog 57:=⟨_,Tryz.underlying57,rfl⟩
theorem Z22:Sz Tryz.prog 22 1:=by unfold Sz;kernel_rfl
theorem J65:(Tryz.prog.info? 65).bind (·.zero)=some (.agg #[.int .i64 0,.slice none 0 0]):=by kernel_rfl
section
variable{m:D.MFunc}{f:Nat}{se:List Bool}{q:List Int}
end
def Z2:Nat→List D.Mach→Option (Int×Int)
 | _,[]=>none
 | i,y::l=>if Z5 y=0 then Z2 (i+1) l else some (Z5 y,(i:Int))
def P8(all:List D.Phi):Nat→List D.Phi→Option (Int×Int)
 | _,[]=>none
 | i,p::l=>if Q4 p (all.take i)=0 then P8 all (i+1) l else some (Q4 p (all.take i),-1-(i:Int))
def SG(n:Int)(x:D.MBlock):Option (Int×Int) :=
 match P8 x.Phis 0 x.Phis with
 | some t=>some t
 | none=>match Z2 0 x.Ins with
  | some t=>some t
  | none=>if AW x.End n=0 then none else some (AW x.End n,(x.Ins.length:Int))
def E0(n:Int):Nat→List D.MBlock→Option (Int×Int×Int)
 | _,[]=>none
 | b,x::l=>match SG n x with
  | some t=>some (t.1,(b:Int),t.2)
  | none=>E0 n (b+1) l
def BN:List D.MBlock→Int
 | []=>0
 | x::l=>x.Phis.length+x.Ins.length+1+BN l
def AL(m:D.MFunc):Int×Int×Int :=
 if m.Params<0∨4<m.Params then (1,0,0)
 else if m.Blocks.length=0 then (14,0,0)
 else if 512<m.Blocks.length∨16384<BN m.Blocks then (2,0,0)
 else match E0 m.Blocks.length 0 m.Blocks with
  | some t=>t
  | none=>PW m
def HP(m:D.MFunc):Bool:=decide ((AL m).1=0)
section
variable{n:Int}{bs:List D.MBlock}{k i:Nat}
end
section
variable{m:D.MFunc}
end
def Eo(from':Int)(x:D.In):Bool:=decide (x.From=from')
def Pe(from':Int)(regs:List Int)(p:D.Phi):Int:=ix regs (Int.toNat (ix p.In (Int.toNat (Dw p.In (Eo from')))).Val)
def Hn:List Int→List D.Phi→List Int→List Int
 | rs,p::l,v::vs=>Hn (rs.set (Int.toNat p.Dst) v) l vs
 | rs,_,_=>rs
def Mp(l:List D.Phi)(from':Int)(regs:List Int):List Int:=Hn regs l (l.map (Pe from' regs))
theorem PM{α:Type}(l:List α)(q:α→Bool):Dw l q<l.length:=by
 unfold Dw
 cases h:l.findIdx? q with
 | none=>simp only;omega
 | some i=>obtain⟨hi,_⟩:=List.findIdx?_eq_some_iff_getElem.1 h;simp only;omega
theorem J4:∀(rs:List Int) (l:List D.Phi) (vs:List Int),(Hn rs l vs).length=rs.length
 | rs,p::l,v::vs=>by rw[Hn,J4];simp
 | rs,[],_=>by cases ‹List Int›<;>rfl
 | rs,_::_,[]=>rfl
theorem GV(rs:List Int)(vs:List Int):Hn rs [] vs=rs:=by cases vs<;>rfl
theorem GU{rs rs2:List Int}{l:List D.Phi}{vs:List Int}{k:Nat}(h1:k<l.length)(h2:k<vs.length)(h:Hn rs l vs=Hn rs2 (l.drop k) (vs.drop k)):Hn rs l vs=Hn (rs2.set (Int.toNat (ix l k).Dst) (ix vs k)) (l.drop (k+1)) (vs.drop (k+1)):=by
 rw[h,Hf (l:=l) h1,Hf (l:=vs) h2,Hn]
def SF(rs:List Int)(d:Int)(an:List Int):List Int:=rs.set d.toNat (ix an 0)
def Ye(N:Int)(K:List Int→List Int→List D.Event→List Int→Int→D.Outcome):List D.Mach→List Int→List Int→List D.Event→List Int→Int→D.Outcome
 | [],rs,me,cl,an,s=>K rs me cl an s
 | i::l,rs,me,cl,an,s =>
  if N≤s then ⟨3,0,me,cl,s⟩
  else if i.Op=28 then Ye N K l (SF rs i.D an) me (cl++[⟨i.Imm,i.Args.map (fun r=>ix rs r.toNat)⟩]) (an.drop 1) (s+1)
  else if (Qr i rs me).1.2=false then ⟨2,(Qr i rs me).1.1,(Qr i rs me).2.2,cl,s+1⟩
  else Ye N K l (Qr i rs me).2.1 (Qr i rs me).2.2 cl an (s+1)
def QY(N:Int)(e:D.End)(go:Int→List Int→List Int→List D.Event→List Int→Int→D.Outcome)(rs me:List Int)(cl:List D.Event)(an:List Int)(s:Int):D.Outcome :=
 if N≤s then ⟨3,0,me,cl,s⟩
 else if e.Op=7 then ⟨1,Da rs e.A,me,cl,s+1⟩
 else if e.Op=8 then ⟨2,e.Imm,me,cl,s+1⟩
 else go (ix e.To (Int.toNat (QG e rs))) rs me cl an (s+1)
def BW(bs:List D.MBlock)(N:Int):Nat→Int→Int→List Int→List Int→List D.Event→List Int→Int→D.Outcome
 | 0,_,_,_,me,cl,_,s=>⟨3,0,me,cl,s⟩
 | f+1,at',from',rs,me,cl,an,s=>Ye N (QY N (ix bs at'.toNat).End (fun t=>BW bs N f t at')) (ix bs at'.toNat).Ins (Mp (ix bs at'.toNat).Phis from' rs) me cl an s
def FY(m:D.MFunc)(i:D.Input):List Int:=List.take (min (Int.toNat m.Params) i.Args.length) i.Args++List.drop (min (Int.toNat m.Params) i.Args.length) (List.replicate 8192 0)
def HF(m:D.MFunc)(i:D.Input):D.Outcome:=if HP m=false then ⟨4,0,[],[],0⟩ else BW m.Blocks i.Steps (Int.toNat i.Steps+1) 0 (-1) (FY m i) (Kr i) [] i.Answers 0
theorem JW(l:List D.Phi)(from':Int)(rs:List Int):(Mp l from' rs).length=rs.length:=J4 _ _ _
theorem T5(i:D.Input):(Kr i).length≤4096:=by unfold Kr;simp;omega
structure WFm(m:D.MFunc):Prop where
 p0:0≤m.Params∧m.Params≤4
 n0:0<m.Blocks.length∧m.Blocks.length≤512
 ins:∀x∈m.Blocks,∀i∈x.Ins,i.Op=28→0≤i.D∧i.D<8192∧i.Args.length≤4∧∀r∈i.Args,0≤r∧r<8192
 to:∀x∈m.Blocks,toM x.End=true∧∀t∈x.End.To,1≤t∧t<m.Blocks.length
 phi:∀k:Nat,k<m.Blocks.length→∀p∈(ix m.Blocks k).Phis,0<k∧p.In.map (·.From)=N5 m.Blocks k∧0≤p.Dst∧p.Dst<8192∧∀x∈p.In,0≤x.Val∧x.Val<8192
section
variable{m:D.MFunc}(hw:WFm m)
include hw
end
section
variable{N:Int}{K:List Int→List Int→List D.Event→List Int→Int→D.Outcome}{O:D.Outcome}{I:List D.Mach}{k j:Nat}{rs me an ea:List Int}{cl:List D.Event}{s:Int}
end
section
variable{N:Int}{go:Int→List Int→List Int→List D.Event→List Int→Int→D.Outcome}{O:D.Outcome}{I:List D.Mach}{k:Nat}{rs me an:List Int}{cl:List D.Event}{s:Int}{e:D.End}
end
abbrev U35:=@Tryz.underlying35
theorem A31:Ag9 Tryz.prog 31:=⟨_,Tryz.underlying31,rfl⟩
theorem A37:Ag9 Tryz.prog 37:=⟨_,Tryz.underlying37,rfl⟩
theorem A74:Ag9 Tryz.prog 74:=⟨_,Tryz.underlying74,rfl⟩
theorem E28:Ent Tryz.prog 28:=⟨_,Tryz.func28,by kernel_rfl,by kernel_rfl⟩
theorem Qg:Fld Tryz.prog 31 0 0:=⟨_,_,Tryz.underlying31,rfl,rfl,1,(by unfold Sz;kernel_rfl),by decide⟩
theorem Sa:Fld Tryz.prog 31 2 2:=⟨_,_,Tryz.underlying31,rfl,rfl,1,(by unfold Sz;kernel_rfl),by decide⟩
theorem Zt:Fld Tryz.prog 31 3 3:=⟨_,_,Tryz.underlying31,rfl,rfl,1,(by unfold Sz;kernel_rfl),by decide⟩
theorem Lw:Fld Tryz.prog 37 0 0:=⟨_,_,Tryz.underlying37,rfl,rfl,1,(by unfold Sz;kernel_rfl),by decide⟩
theorem Qe:Fld Tryz.prog 37 1 1:=⟨_,_,Tryz.underlying37,rfl,rfl,1,(by unfold Sz;kernel_rfl),by decide⟩
theorem Nc:Fld Tryz.prog 37 2 2:=⟨_,_,Tryz.underlying37,rfl,rfl,1,(by unfold Sz;kernel_rfl),by decide⟩
theorem Kf:Fld Tryz.prog 37 3 3:=⟨_,_,Tryz.underlying37,rfl,rfl,1,(by unfold Sz;kernel_rfl),by decide⟩
theorem Lv:Fld Tryz.prog 37 4 4:=⟨_,_,Tryz.underlying37,rfl,rfl,1,(by unfold Sz;kernel_rfl),by decide⟩
theorem Vl:Fld Tryz.prog 74 1 1:=⟨_,_,Tryz.underlying74,rfl,rfl,1,(by unfold Sz;kernel_rfl),by decide⟩
theorem I74:(Tryz.prog.info? 74).map (fun i=>(i.zero,i.size,i.bytes))=some (some (.agg #[.int .i32 0,.slice none 0 0]),2,32):=by kernel_rfl
theorem O35:One Tryz.prog 35:=⟨_,Tryz.underlying35,rfl⟩
theorem Z29:Sz Tryz.prog 29 1:=by unfold Sz;kernel_rfl
theorem Z31:Sz Tryz.prog 31 4:=by unfold Sz;kernel_rfl
theorem Z35:Sz Tryz.prog 35 1:=by unfold Sz;kernel_rfl
theorem Z37:Sz Tryz.prog 37 5:=by unfold Sz;kernel_rfl
theorem Z74:Sz Tryz.prog 74 2:=by unfold Sz;kernel_rfl
theorem J37:(Tryz.prog.info? 37).bind (·.zero)=some (.agg #[.int .i64 0,.int .i32 0,.slice none 0 0,.slice none 0 0,.int .i64 0]):=by kernel_rfl
theorem J74:(Tryz.prog.info? 74).bind (·.zero)=some (.agg #[.int .i32 0,.slice none 0 0]):=by kernel_rfl
structure D.Go7 where
 E:Int
 Block:Int
 Place:Int
deriving DecidableEq
instance:Inhabited D.Go7:=⟨⟨0,0,0⟩⟩
section
variable{e:D.End}{n:Int}
end
section
variable{m:D.MFunc}{a b c:Int}
end
section
variable{bs:List D.MBlock}{i j:Nat}{se se2:List Bool}{l l2:List Int}
end
section
variable{m:D.MFunc}{k:Nat}
end
def Ll(from':Int)(rs:List Int):Int→List D.In→Int
 | v,[]=>v
 | v,x::l=>Ll from' rs (if x.From=from' then ix rs (Int.toNat x.Val) else v) l
theorem Xw(from':Int)(rs:List Int):∀(l:List D.In) (v:Int) (x:D.In),Ll from' rs v (l++[x])=if x.From=from' then ix rs (Int.toNat x.Val) else Ll from' rs v l
 | [],_,_=>rfl
 | y::l,v,x=>by rw[List.cons_append,Ll,Xw from' rs l];rfl
theorem V6(from':Int)(rs:List Int):∀(l:List D.In) (v:Int),(∀x∈l,x.From≠from')→Ll from' rs v l=v
 | [],_,_=>rfl
 | y::l,v,h=>by rw[Ll,if_neg (h y (by simp)),V6 from' rs l v (fun x hx=>h x (by simp[hx]))]
theorem V7(from':Int)(rs:List Int):∀(l:List D.In) (v:Int),(l.map (·.From)).Nodup→0≤Dw l (Eo from')→Ll from' rs v l=ix rs (Int.toNat (ix l (Int.toNat (Dw l (Eo from')))).Val)
 | [],_,_,h=>absurd h (by show ¬(0:Int)≤-1;decide)
 | x::l,v,hn,h=>by
  rw[List.map_cons,List.nodup_cons] at hn
  rw[Ll]
  by_cases h1:x.From=from'
  ·have e1:Dw (x::l) (Eo from')=0:=by unfold Dw;rw[List.findIdx?_cons,if_pos (by simp[Eo,h1])];rfl
   rw[if_pos h1,e1,V6]
   ·rfl
   ·intro y hy e2;exact hn.1 (by rw[h1,←e2];exact List.mem_map.2 ⟨y,hy,rfl⟩)
  ·have e1:∃i:Nat,l.findIdx? (Eo from')=some i:=by
    unfold Dw at h
    rw[List.findIdx?_cons,if_neg (by simp[Eo,h1])] at h
    cases h2:l.findIdx? (Eo from') with
    | none=>rw[h2] at h;exact absurd h (by decide)
    | some i=>exact⟨i,rfl⟩
   obtain⟨i,e1⟩:=e1
   have e2:Dw l (Eo from')=i:=by unfold Dw;rw[e1]
   have e3:Dw (x::l) (Eo from')=i+1:=by unfold Dw;rw[List.findIdx?_cons,if_neg (by simp[Eo,h1]),e1];rfl
   rw[if_neg h1,V7 from' rs l v hn.2 (by omega),e2,e3]
   rw[show Int.toNat ((i:Int)+1)=i+1 by omega,Fi];rfl
section
variable{N:Int}{K:List Int→List Int→List D.Event→List Int→Int→D.Outcome}{O:D.Outcome}{I:List D.Mach}{k j na:Nat}{rs me A ea:List Int}{cl:List D.Event}{s:Int}
end
theorem JX{from':Int}{rs:List Int}{p:D.Phi}{q:Nat}{v:Int}(hv:v=Ll from' rs 0 (p.In.take q))(hq:p.In.length≤q)(hn:(p.In.map (·.From)).Nodup)(h0:0≤Dw p.In (Eo from')):v=Pe from' rs p:=by
 rw[hv,List.take_of_length_le hq,V7 _ _ _ _ hn h0];rfl
def Ma(a b:D.Outcome):Bool:=decide (a.End=b.End∧a.Val=b.Val∧a.Mem=b.Mem∧a.Calls=b.Calls)
def Vf(a b:D.Outcome):Bool:=Ma a b&&decide (a.Steps=b.Steps)
theorem SX(a:D.Outcome):Vf a a=true:=by simp[Vf,Ma]
section
variable{a b:D.Outcome}
theorem Wq(h:((¬a.End=b.End∨¬a.Val=b.Val)∨Hy a.Mem b.Mem=false)∨¬(a.Calls.length:Int)=(b.Calls.length:Int)):Ma a b=false:=by
 unfold Ma
 rw[decide_eq_false_iff_not]
 rintro⟨h1,h2,h3,h4⟩
 rcases h with((h|h)|h)|h
 ·exact h h1
 ·exact h h2
 ·rw[h3] at h;simp[Hy] at h
 ·rw[h4] at h;exact h rfl
theorem GZ(h:(((a.End=b.End)∧a.Val=b.Val)∧Hy a.Mem b.Mem=true)∧(a.Calls.length:Int)=(b.Calls.length:Int)):a.End=b.End∧a.Val=b.Val∧a.Mem=b.Mem∧a.Calls.length=b.Calls.length:=by
 refine⟨h.1.1.1,h.1.1.2,?_,by omega⟩
 have:=h.1.2
 unfold Hy at this;simpa using this
theorem Ws{k:Nat}(hk:k<a.Calls.length)(hl:a.Calls.length=b.Calls.length)(h:¬(ix a.Calls k).Callee=(ix b.Calls k).Callee∨Hy (ix a.Calls k).Args (ix b.Calls k).Args=false):Ma a b=false:=by
 unfold Ma
 rw[decide_eq_false_iff_not]
 rintro⟨h1,h2,h3,h4⟩
 rw[h4] at h
 rcases h with h|h
 ·exact h rfl
 ·simp[Hy] at h
theorem GY{k:Nat}(hk:k<a.Calls.length)(hl:a.Calls.length=b.Calls.length)(hT:a.Calls.take k=b.Calls.take k)(h:(ix a.Calls k).Callee=(ix b.Calls k).Callee∧Hy (ix a.Calls k).Args (ix b.Calls k).Args=true):a.Calls.take (k+1)=b.Calls.take (k+1):=by
 rw[Ej hk,Ej (by omega),hT]
 congr 1
 have e:ix a.Calls k=ix b.Calls k:=by
  obtain⟨h1,h2⟩:=h
  unfold Hy at h2
  rw[decide_eq_true_eq] at h2
  generalize ix a.Calls k=x at *
  generalize ix b.Calls k=y at *
  cases x;cases y;simp_all
 rw[e]
theorem Wp{k:Nat}(h:a.End=b.End∧a.Val=b.Val∧a.Mem=b.Mem∧a.Calls.length=b.Calls.length)(hk:a.Calls.length≤k)(hT:a.Calls.take k=b.Calls.take k):Ma a b=true:=by
 rw[List.take_of_length_le hk,List.take_of_length_le (by omega)] at hT
 unfold Ma;rw[decide_eq_true_eq];exact⟨h.1,h.2.1,h.2.2.1,hT⟩
end
theorem JV{l:List D.Phi}{from':Int}{rs rs2 vs:List Int}{p p2:Nat}(hS:Hn rs l vs=Hn rs2 (l.drop p2) (vs.drop p2))(hvs:vs=(l.take p).map (Pe from' rs))(hp:l.length≤p)(hp2:l.length≤p2):Mp l from' rs=rs2:=by
 rw[List.take_of_length_le hp] at hvs
 unfold Mp;rw[←hvs,hS,List.drop_of_length_le hp2,GV]
theorem E15:Ent Tryz.prog 15:=⟨_,Tryz.func15,by kernel_rfl,by kernel_rfl⟩
theorem E32:Ent Tryz.prog 32:=⟨_,Tryz.func32,by kernel_rfl,by kernel_rfl⟩
theorem DM:Fld Tryz.prog 74 0 0:=⟨_,_,Tryz.underlying74,rfl,rfl,1,(by unfold Sz;kernel_rfl),by decide⟩
theorem IF{a0a a0b:Value}{a:D.Outcome}{a1a a1b:Value}{b:D.Outcome}:Tv Tryz.prog 32 #[vOutcome a (a0a,a0b),vOutcome b (a1a,a1b)] [da Co (vOutcome a (a0a,a0b)) a,da Co (vOutcome b (a1a,a1b)) b] [] (.bool (Ma a b)):=by
 refine Az (args:=[vOutcome a (a0a,a0b),vOutcome b (a1a,a1b)]) Tryz.func32 rfl rfl rfl fun w0 X=>?_
 refine jq (jr (Cm Z Z fun g2=>Cm Z Z fun g3=>ja Z (jn (jx (jq (jq (jr (js (jf Lw Z) (js (jl k1 O3 Z Z) ?_)))))))))
 refine js (jf Lw Z) (js (jl k0 O3 Z Z) (js (Ga Z Z) (jm Z (jg Z Z (.f _) (fun hg=>jf Qe Z) (jg Z Z (.f _) (fun hg=>jl k1 O21 (evg Z hg) Z) (jg Z Z (.f _) (fun hg=>jf Qe Z) (jg Z Z (.f _) (fun hg=>jl k0 O21 (evg Z hg) Z) (jg Z Z (.f _) (fun hg=>Ga (evg Z hg) (evg Z hg)) (js (jor Z Z) (jm Z (jg Z Z (.f _) (fun hg=>jf Nc Z) ?_)))))))))))
 refine jg Z Z (.f _) (fun hg=>jl k1 O29 (evg Z hg) Z) (jg Z Z (.f _) (fun hg=>jf Nc Z) (jg Z Z (.f _) (fun hg=>jl k0 O29 (evg Z hg) Z) (jdq (Co.c_Mem d0) fun q1 w1=>jdq (Co.c_Mem d1) fun q2 w2=>jgc Z Z (.f _) E15 Z (fun hg=>Mx (evg Z hg) (evg Z hg)) (fun hg=>B9) (fun hg=>(dc (Co.c_Mem d0) (dc (Co.c_Mem d1) dn))) kn p0 (jg Z Z (.f _) (fun hg=>Dq (evg Z hg)) (js (jor Z Z) (jm Z (jg Z Z (.f _) (fun hg=>jf Kf Z) (jg Z Z (.f _) (fun hg=>jl k1 O35 (evg Z hg) Z) (jdq (Co.c_Calls d0) fun q3 w3=>?_)))))))))
 refine jg Z Z (.f _) (fun hg=>jln U35 (Co.c_Calls d0) (evg Z hg)) (jg Z Z (.f _) (fun hg=>jf Kf Z) (jg Z Z (.f _) (fun hg=>jl k0 O35 (evg Z hg) Z) (jdq (Co.c_Calls d1) fun q4 w4=>jg Z Z (.f _) (fun hg=>jln U35 (Co.c_Calls d1) (evg Z hg)) (jg Z Z (.f _) (fun hg=>Ga (evg Z hg) (evg Z hg)) (js (jor Z Z) (jn (jx ?_)))))))
 refine jif Z (fun hc1=>?_) (fun hc1=>?_)
 refine jq (jr (ja Z (jn (jx (jrt (jtr ?_))))))
 exact jrB Z Z (by first|exact Wq hc1|exact Ws (by omega) hsh.2.2.2 hc3|exact Wp hsh (by omega) hT)
 have hsh:=GZ hc1
 refine jsk (jx (jq (jq (jr (ja Z (jn (jx (jb ?_))))))))
 refine jlp (fun(k:Nat)=>⟨k≤a.Calls.length∧a.Calls.take k=b.Calls.take k,[da Co (vOutcome a (a0a,a0b)) a,da Co (vOutcome b (a1a,a1b)) b],[bx g3 37 [.int .i64 b.End,.int .i32 b.Val,a1a,a1b,.int .i64 b.Steps],bx g2 37 [.int .i64 a.End,.int .i32 a.Val,a0a,a0b,.int .i64 a.Steps]],[(2,.pointer (some ⟨g2,0,none⟩)),(3,.pointer (some ⟨g3,0,none⟩)),(5,.int .i64 (↑k))],a.Calls.length-k⟩) 0 ⟨by omega,rfl⟩ (dc d0 (dc d1 dn)) (kd kn) ⟨Z,Z,eqI (by omega),trivial⟩ ?_
 rintro k;dsimp only;rintro⟨hk,hT⟩
 refine jq (jq (jr (jm Z (js (jf Kf Z) (js (jl k1 O35 Z Z) (js (jln U35 (Co.c_Calls d0) Z) (js (Ar Z Z) (jn (jx ?_)))))))))
 refine jif Z (fun hc2=>?_) (fun hc2=>?_)
 refine jsk (jx (jq (jb (jq (Bz false (.a 0 (.a 1 (.a 2 (.a 3 (.a 4 (.a 5 (.a 6 (.a 7 (.a 8 (.a 9 (.a 10 (.a 11 (.a 12 (.a 13 (.a 14 (.a 15 (.a 16 (.a 17 (.a 18 (.a 19 (.a 20 (.a 21 (.a 22 (.a 23 (.a 24 (.a 25 (.o 26 (.a 27 (.a 28 .e))))))))))))))))))))))))))))) Bi (by kernel_rfl) (kd kn) fun F5=>jy Z (jf Kf Z) (jy Z (jl k1 O35 Z Z) (jy Z (jmv Z) (jy Z (jix U35 Z74 (Co.c_Calls d0) Z Z Z (by omega)) (jy Z (jf DM Z) (jy Z (jlI (Dr.A_Callee (dix (Co.c_Calls d0) k (by omega))) O21 Z) ?_))))))))))
 refine jy Z (jf Kf Z) (jy Z (jl k0 O35 Z Z) (jy Z (jmv Z) (jy Z (jix U35 Z74 (Co.c_Calls d1) Z Z Z (by omega)) (jy Z (jf DM Z) (jy Z (jlI (Dr.A_Callee (dix (Co.c_Calls d1) k (by omega))) O21 Z) (jy Z (Ga Z Z) (jy Z (jmv Z) (jyg Z Z Z (.f _) (fun hg=>jf Kf Z) (jyg Z Z Z (.f _) (fun hg=>jl k1 O35 (evg Z hg) Z) (jyg Z Z Z (.f _) (fun hg=>jmv Z) (jyg Z Z Z (.f _) (fun hg=>jix U35 Z74 (Co.c_Calls d0) (evg Z hg) (evg Z hg) Z (by first|omega|(simp at hg;omega)|(simp only[List.length_set];omega)|(simp;done))) ?_)))))))))))
 refine jyg Z Z Z (.f _) (fun hg=>jf Vl (evg Z hg)) (W7 (q:=fun v=>dv (rL (rI .i32)) v ((ix a.Calls k).Args)) Z Z Z (.f _) (fun hg=>xlV (Dr.A_Args (dix (Co.c_Calls d0) k (by first|omega|(simp at hg;omega)|(simp only[List.length_set];omega)|(simp;done)))) O29 Z (evg Z hg)) fun v61=>jyg Z Z Z (.f _) (fun hg=>jf Kf Z) (jyg Z Z Z (.f _) (fun hg=>jl k0 O35 (evg Z hg) Z) (jyg Z Z Z (.f _) (fun hg=>jmv Z) (jyg Z Z Z (.f _) (fun hg=>jix U35 Z74 (Co.c_Calls d2) (evg Z hg) (evg Z hg) Z (by first|omega|(simp at hg;omega)|(simp only[List.length_set];omega)|(simp;done))) (jyg Z Z Z (.f _) (fun hg=>jf Vl (evg Z hg)) (W7 (q:=fun v=>dv (rL (rI .i32)) v ((ix b.Calls k).Args)) Z Z Z (.f _) (fun hg=>xlV (Dr.A_Args (dix (Co.c_Calls d2) k (by first|omega|(simp at hg;omega)|(simp only[List.length_set];omega)|(simp;done)))) O29 Z (evg Z hg)) fun v67=>jyo Z (jgc Z Z (.f _) E15 Z (fun hg=>Mx (evg Z hg) (evg Z hg)) (fun hg=>B9) (fun hg=>(dc (d2.on hg) (dc (d1.on hg) dn))) kn p0 (jyn d0 (kd kn) (jyg Z Z Z (.f _) (fun hg=>Dq (evg Z hg)) ?_)))))))))
 refine jy Z (jor Z Z) (jyd (jx ?_))
 refine jif Z (fun hc3=>?_) (fun hc3=>?_)
 refine jq (jr (ja Z (jn (jx (jrt (jbr (jtr (jtr (jbr (jtr ?_))))))))))
 exact jrB Z Z (by first|exact Wq hc1|exact Ws (by omega) hsh.2.2.2 hc3|exact Wp hsh (by omega) hT)
 refine jsk (jbn (jx (jr (jm Z (js (Al Z Z (by omega)) (ja Z (jn ?_)))))))
 exact jag (k+1) ⟨by omega,GY (by omega) hsh.2.2.2 hT hc3⟩ (dc d3 (dc d4 dn)) (kd kn) ⟨Z,Z,eqI (by omega),trivial⟩
 refine jex (jtx (jtx (jbh (jx (jq (jr (ja Z (jn (jx (jrt ?_))))))))))
 exact jrB Z Z (by first|exact Wq hc1|exact Ws (by omega) hsh.2.2.2 hc3|exact Wp hsh (by omega) hT)
theorem M0{a0a a0b:Value}{a:D.Outcome}{a1a a1b:Value}{b:D.Outcome}:Tv Tryz.prog 22 #[vOutcome a (a0a,a0b),vOutcome b (a1a,a1b)] [da Co (vOutcome a (a0a,a0b)) a,da Co (vOutcome b (a1a,a1b)) b] [] (.bool (Vf a b)):=by
 refine Az (args:=[vOutcome a (a0a,a0b),vOutcome b (a1a,a1b)]) Tryz.func22 rfl rfl rfl fun w0 X=>?_
 refine jq (jr (Cm Z Z fun g2=>Cm Z Z fun g3=>ja Z (jn (jx (jq (jr (js (jla k1 A37 Z37 Z Z Z) (js (jla k0 A37 Z37 Z Z Z) (jcv E32 Z Z IF (dc d0 (dc d1 dn)) kn ?_)))))))))
 refine jm Z (jg Z Z (.t _) (fun hg=>jf Lv Z) (jg Z Z (.t _) (fun hg=>jl k1 O3 (evg Z hg) Z) (jg Z Z (.t _) (fun hg=>jf Lv Z) (jg Z Z (.t _) (fun hg=>jl k0 O3 (evg Z hg) Z) (jg Z Z (.t _) (fun hg=>Ao (evg Z hg) (evg Z hg)) (js (Cf Z Z) (ja Z (jn (jx (jrt ?_))))))))))
 exact jrB Z Z (by rfl)
end Go.Proofs.YtmfkkodnghambaaGreat
