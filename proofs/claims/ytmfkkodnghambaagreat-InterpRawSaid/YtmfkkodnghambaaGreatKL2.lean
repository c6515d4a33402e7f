/- Lemmas that the claim is made of. Conditions: each lemma names its own. -/
import Derived.Test.YtmfkkodnghambaaGreatKL1
set_option linter.unusedSectionVars false
set_option linter.unusedSimpArgs false
set_option linter.unusedVariables false
namespace Go.Proofs.YtmfkkodnghambaaGreat
open Go.JE
theorem E15:Ent Tryz.prog 15:=⟨_,Tryz.func15,by kernel_rfl,by kernel_rfl⟩
theorem E32:Ent Tryz.prog 32:=⟨_,Tryz.func32,by kernel_rfl,by kernel_rfl⟩
theorem F74_0:Fld Tryz.prog 74 0 0:=⟨_,_,Tryz.underlying74,rfl,rfl,1,(by unfold Sz;kernel_rfl),by decide⟩
theorem rSame_ct{a0a a0b:Value}{a:D.Outcome}{a1a a1b:Value}{b:D.Outcome}:Tv Tryz.prog 32 #[vOutcome a (a0a,a0b),vOutcome b (a1a,a1b)] [da rOutcome (vOutcome a (a0a,a0b)) a,da rOutcome (vOutcome b (a1a,a1b)) b] [] (.bool (sameO a b)):=by
 refine jenter (args:=[vOutcome a (a0a,a0b),vOutcome b (a1a,a1b)]) Tryz.func32 rfl rfl rfl fun w0 X=>?_
 refine jq (jr (jbox Z Z fun g2=>jbox Z Z fun g3=>ja Z (jn (jx (jq (jq (jr (js (jf F37_0 Z) (js (jl k1 O3 Z Z) ?_)))))))))
 refine js (jf F37_0 Z) (js (jl k0 O3 Z Z) (js (jneq Z Z) (jm Z (jg Z Z (.f _) (fun hg=>jf F37_1 Z) (jg Z Z (.f _) (fun hg=>jl k1 O21 (evg Z hg) Z) (jg Z Z (.f _) (fun hg=>jf F37_1 Z) (jg Z Z (.f _) (fun hg=>jl k0 O21 (evg Z hg) Z) (jg Z Z (.f _) (fun hg=>jneq (evg Z hg) (evg Z hg)) (js (jor Z Z) (jm Z (jg Z Z (.f _) (fun hg=>jf F37_2 Z) ?_)))))))))))
 refine jg Z Z (.f _) (fun hg=>jl k1 O29 (evg Z hg) Z) (jg Z Z (.f _) (fun hg=>jf F37_2 Z) (jg Z Z (.f _) (fun hg=>jl k0 O29 (evg Z hg) Z) (jdq (rOutcome.c_Mem d0) fun q1 w1=>jdq (rOutcome.c_Mem d1) fun q2 w2=>jgc Z Z (.f _) E15 Z (fun hg=>evl2 (evg Z hg) (evg Z hg)) (fun hg=>words_ct) (fun hg=>(dc (rOutcome.c_Mem d0) (dc (rOutcome.c_Mem d1) dn))) kn p0 (jg Z Z (.f _) (fun hg=>jnot (evg Z hg)) (js (jor Z Z) (jm Z (jg Z Z (.f _) (fun hg=>jf F37_3 Z) (jg Z Z (.f _) (fun hg=>jl k1 O35 (evg Z hg) Z) (jdq (rOutcome.c_Calls d0) fun q3 w3=>?_)))))))))
 refine jg Z Z (.f _) (fun hg=>jln U35 (rOutcome.c_Calls d0) (evg Z hg)) (jg Z Z (.f _) (fun hg=>jf F37_3 Z) (jg Z Z (.f _) (fun hg=>jl k0 O35 (evg Z hg) Z) (jdq (rOutcome.c_Calls d1) fun q4 w4=>jg Z Z (.f _) (fun hg=>jln U35 (rOutcome.c_Calls d1) (evg Z hg)) (jg Z Z (.f _) (fun hg=>jneq (evg Z hg) (evg Z hg)) (js (jor Z Z) (jn (jx ?_)))))))
 refine jif Z (fun hc1=>?_) (fun hc1=>?_)
 refine jq (jr (ja Z (jn (jx (jrt (jtr ?_))))))
 exact jrB Z Z (by first|exact same_no hc1|exact same_ev (by omega) hsh.2.2.2 hc3|exact same_yes hsh (by omega) hT)
 have hsh:=same_head hc1
 refine jsk (jx (jq (jq (jr (ja Z (jn (jx (jb ?_))))))))
 refine jlp (fun(k:Nat)=>⟨k≤a.Calls.length∧a.Calls.take k=b.Calls.take k,[da rOutcome (vOutcome a (a0a,a0b)) a,da rOutcome (vOutcome b (a1a,a1b)) b],[bx g3 37 [.int .i64 b.End,.int .i32 b.Val,a1a,a1b,.int .i64 b.Steps],bx g2 37 [.int .i64 a.End,.int .i32 a.Val,a0a,a0b,.int .i64 a.Steps]],[(2,.pointer (some ⟨g2,0,none⟩)),(3,.pointer (some ⟨g3,0,none⟩)),(5,.int .i64 (↑k))],a.Calls.length-k⟩) 0 ⟨by omega,rfl⟩ (dc d0 (dc d1 dn)) (kd kn) ⟨Z,Z,eqI (by omega),trivial⟩ ?_
 rintro k;dsimp only;rintro⟨hk,hT⟩
 refine jq (jq (jr (jm Z (js (jf F37_3 Z) (js (jl k1 O35 Z Z) (js (jln U35 (rOutcome.c_Calls d0) Z) (js (jlss Z Z) (jn (jx ?_)))))))))
 refine jif Z (fun hc2=>?_) (fun hc2=>?_)
 refine jsk (jx (jq (jb (jq (jany false (.a 0 (.a 1 (.a 2 (.a 3 (.a 4 (.a 5 (.a 6 (.a 7 (.a 8 (.a 9 (.a 10 (.a 11 (.a 12 (.a 13 (.a 14 (.a 15 (.a 16 (.a 17 (.a 18 (.a 19 (.a 20 (.a 21 (.a 22 (.a 23 (.a 24 (.a 25 (.o 26 (.a 27 (.a 28 .e))))))))))))))))))))))))))))) Mixed (by kernel_rfl) (kd kn) fun F5=>jy Z (jf F37_3 Z) (jy Z (jl k1 O35 Z Z) (jy Z (jmv Z) (jy Z (jix U35 Z74 (rOutcome.c_Calls d0) Z Z Z (by omega)) (jy Z (jf F74_0 Z) (jy Z (jlI (rEvent.A_Callee (dix (rOutcome.c_Calls d0) k (by omega))) O21 Z) ?_))))))))))
 refine jy Z (jf F37_3 Z) (jy Z (jl k0 O35 Z Z) (jy Z (jmv Z) (jy Z (jix U35 Z74 (rOutcome.c_Calls d1) Z Z Z (by omega)) (jy Z (jf F74_0 Z) (jy Z (jlI (rEvent.A_Callee (dix (rOutcome.c_Calls d1) k (by omega))) O21 Z) (jy Z (jneq Z Z) (jy Z (jmv Z) (jyg Z Z Z (.f _) (fun hg=>jf F37_3 Z) (jyg Z Z Z (.f _) (fun hg=>jl k1 O35 (evg Z hg) Z) (jyg Z Z Z (.f _) (fun hg=>jmv Z) (jyg Z Z Z (.f _) (fun hg=>jix U35 Z74 (rOutcome.c_Calls d0) (evg Z hg) (evg Z hg) Z (by first|omega|(simp at hg;omega)|(simp only[List.length_set];omega)|(simp;done))) ?_)))))))))))
 refine jyg Z Z Z (.f _) (fun hg=>jf F74_1 (evg Z hg)) (jyge (q:=fun v=>dv (rL (rI .i32)) v ((ix a.Calls k).Args)) Z Z Z (.f _) (fun hg=>xlV (rEvent.A_Args (dix (rOutcome.c_Calls d0) k (by first|omega|(simp at hg;omega)|(simp only[List.length_set];omega)|(simp;done)))) O29 Z (evg Z hg)) fun v61=>jyg Z Z Z (.f _) (fun hg=>jf F37_3 Z) (jyg Z Z Z (.f _) (fun hg=>jl k0 O35 (evg Z hg) Z) (jyg Z Z Z (.f _) (fun hg=>jmv Z) (jyg Z Z Z (.f _) (fun hg=>jix U35 Z74 (rOutcome.c_Calls d2) (evg Z hg) (evg Z hg) Z (by first|omega|(simp at hg;omega)|(simp only[List.length_set];omega)|(simp;done))) (jyg Z Z Z (.f _) (fun hg=>jf F74_1 (evg Z hg)) (jyge (q:=fun v=>dv (rL (rI .i32)) v ((ix b.Calls k).Args)) Z Z Z (.f _) (fun hg=>xlV (rEvent.A_Args (dix (rOutcome.c_Calls d2) k (by first|omega|(simp at hg;omega)|(simp only[List.length_set];omega)|(simp;done)))) O29 Z (evg Z hg)) fun v67=>jyo Z (jgc Z Z (.f _) E15 Z (fun hg=>evl2 (evg Z hg) (evg Z hg)) (fun hg=>words_ct) (fun hg=>(dc (d2.on hg) (dc (d1.on hg) dn))) kn p0 (jyn d0 (kd kn) (jyg Z Z Z (.f _) (fun hg=>jnot (evg Z hg)) ?_)))))))))
 refine jy Z (jor Z Z) (jyd (jx ?_))
 refine jif Z (fun hc3=>?_) (fun hc3=>?_)
 refine jq (jr (ja Z (jn (jx (jrt (jbr (jtr (jtr (jbr (jtr ?_))))))))))
 exact jrB Z Z (by first|exact same_no hc1|exact same_ev (by omega) hsh.2.2.2 hc3|exact same_yes hsh (by omega) hT)
 refine jsk (jbn (jx (jr (jm Z (js (jadd Z Z (by omega)) (ja Z (jn ?_)))))))
 exact jag (k+1) ⟨by omega,same_next (by omega) hsh.2.2.2 hT hc3⟩ (dc d3 (dc d4 dn)) (kd kn) ⟨Z,Z,eqI (by omega),trivial⟩
 refine jex (jtx (jtx (jbh (jx (jq (jr (ja Z (jn (jx (jrt ?_))))))))))
 exact jrB Z Z (by first|exact same_no hc1|exact same_ev (by omega) hsh.2.2.2 hc3|exact same_yes hsh (by omega) hT)
theorem rAlike_ct{a0a a0b:Value}{a:D.Outcome}{a1a a1b:Value}{b:D.Outcome}:Tv Tryz.prog 22 #[vOutcome a (a0a,a0b),vOutcome b (a1a,a1b)] [da rOutcome (vOutcome a (a0a,a0b)) a,da rOutcome (vOutcome b (a1a,a1b)) b] [] (.bool (alikeO a b)):=by
 refine jenter (args:=[vOutcome a (a0a,a0b),vOutcome b (a1a,a1b)]) Tryz.func22 rfl rfl rfl fun w0 X=>?_
 refine jq (jr (jbox Z Z fun g2=>jbox Z Z fun g3=>ja Z (jn (jx (jq (jr (js (jla k1 A37 Z37 Z Z Z) (js (jla k0 A37 Z37 Z Z Z) (jcv E32 Z Z rSame_ct (dc d0 (dc d1 dn)) kn ?_)))))))))
 refine jm Z (jg Z Z (.t _) (fun hg=>jf F37_4 Z) (jg Z Z (.t _) (fun hg=>jl k1 O3 (evg Z hg) Z) (jg Z Z (.t _) (fun hg=>jf F37_4 Z) (jg Z Z (.t _) (fun hg=>jl k0 O3 (evg Z hg) Z) (jg Z Z (.t _) (fun hg=>jeql (evg Z hg) (evg Z hg)) (js (jand Z Z) (ja Z (jn (jx (jrt ?_))))))))))
 exact jrB Z Z (by rfl)
structure BV where
 P:Value
 I:Value
 T:D.Term
instance:Inhabited BV:=⟨⟨.slice none 0 0,.slice none 0 0,default⟩⟩
section
variable{P:Program}{D0 Γ:List Dt}{L M N L0:List Res}{e:Env}{X:Cx}{n:Fs}{w0:World}{Q:Exit→Act→World→Prop}{F G:PH}{H:Heap}{B j i o:Nat}{v u v':Value}{qs:List BV}{bs:List D.Block}{q':BV}{b':D.Block}
variable{ops:Array Oper}{rest:List Oper}{ty:TypeId}{pos:String}{af:Array Edge}
variable{f:FuncId}{args:Array Value}{x:Value}
end
section
variable{P:Program}{Γ:List Dt}{L M:List Res}{e:Env}{F:PH}{H:Heap}{B j i o:Nat}{v u:Value}{qs:List BV}{bs:List D.Block}{T:TypeId}{x y:Operand}{kd:IntKind}{I:Int}
end
section
variable{P:Program}{Γ:List Dt}{L M:List Res}{e:Env}{X:Cx}{n:Fs}{w0:World}{Q:Exit→Act→World→Prop}{B j m:Nat}{v:Value}{qs:List BV}{bs:List D.Block}{T:TypeId}{x y:Operand}{k:IntKind}{I:Int}{c:Code}{ops:Array Oper}{rest:List Oper}
end
structure Mk where
 s:List Int
 k:Int
 par:Int
 bs:List D.Block
 nx:Int
 lv:List Int
def tVV(n:Int)(m:Mk):Int:=Int.tmod (Int.tmod (if m.k<m.s.length then ix m.s m.k.toNat else 0) n+n) n
def tSS(m:Mk):Mk:={ m with k:=m.k+1 }
def wordV(m:Mk):Int :=
 if tVV 8 (tSS m)=0 then IntKind.i32.wrap (tVV 1048576 m*4099)
 else if tVV 8 (tSS m)=1 then -tVV 1048576 m
 else if tVV 8 (tSS m)=2 then -2147483648
 else if tVV 8 (tSS m)=3 then Int.tmod (tVV 1048576 m) 70000
 else Int.tmod (tVV 1048576 m) 20-4
def wordS(m:Mk):Mk:=tSS (tSS m)
def valueB(m:Mk):Bool:=!decide (m.lv.length=0)
def valueI(m:Mk):Int:=if tVV 3 (tSS m)=0 then (m.lv.length:Int)-1 else tVV m.lv.length m
def valueV(m:Mk):Int:=if m.lv.length=0 then 0 else ix m.lv (valueI m).toNat
def valueS(m:Mk):Mk:=if m.lv.length=0 then m else tSS (tSS m)
def freshS(m:Mk):Mk:={ m with nx:=m.nx+1 }
def makes3(i:D.Ins):List Int:=if i.Op=16 then [] else if i.Op=18 then [i.Dst,i.Two] else [i.Dst]
def addS(b:Int)(i:D.Ins)(m:Mk):Mk:={ m with bs:=m.bs.set b.toNat { (ix m.bs b.toNat) with Ins:=(ix m.bs b.toNat).Ins++[i] },lv:=m.lv++makes3 i }
def constS(b n:Int)(m:Mk):Mk:=addS b ⟨1,m.nx,0,[],n⟩ (freshS m)
def someC(m:Mk):Bool:=!valueB m||decide (tVV 9 (valueS m)=0)
def someM0(m:Mk):Mk:=if valueB m then tSS (valueS m) else valueS m
def sV9(m:Mk):Int:=if someC m then (wordS (someM0 m)).nx else valueV m
def sS9(b:Int)(m:Mk):Mk:=if someC m then constS b (wordV (someM0 m)) (wordS (someM0 m)) else someM0 m
def cntT:List D.Block→Nat
 | []=>0
 | x::l=>x.Phis.length+x.Ins.length+1+cntT l
theorem cntT_ix:∀{l:List D.Block} {j:Nat},j<l.length→(ix l j).Phis.length+(ix l j).Ins.length≤cntT l
 | x::l,0,_=>by rw[ix_zero,cntT];omega
 | x::l,j+1,h=>by rw[ix_cons,cntT];have:=cntT_ix (l:=l) (j:=j) (by simpa using h);omega
def okM(nb c:Nat)(m:Mk):Prop:=(0≤m.k∧m.k≤c)∧(0≤m.nx∧m.nx≤c)∧(0≤m.par∧m.par≤4)∧m.lv.length≤2*c+4∧m.bs.length=nb∧cntT m.bs≤c
theorem okM.row{nb c:Nat}{m:Mk}(h:okM nb c m){j:Nat}(hj:j<nb):(ix m.bs j).Phis.length≤c∧(ix m.bs j).Ins.length≤c:=by
 have h1:=cntT_ix (l:=m.bs) (j:=j) (by rw[h.2.2.2.2.1];exact hj)
 have h2:=h.2.2.2.2.2
 omega
theorem okM.mono{nb c c':Nat}{m:Mk}(h:okM nb c m)(hc:c≤c'):okM nb c' m:=⟨⟨h.1.1,by have:=h.1.2;omega⟩,⟨h.2.1.1,by have:=h.2.1.2;omega⟩,h.2.2.1,by have:=h.2.2.2.1;omega,h.2.2.2.2.1,by have:=h.2.2.2.2.2;omega⟩
section
variable{nb c:Nat}{m:Mk}
theorem tV9{n:Int}(hn:0<n)(m:Mk):0≤tVV n m∧tVV n m<n:=by
 unfold tVV
 generalize (if m.k<m.s.length then ix m.s m.k.toNat else 0)=x
 have h1:=Int.lt_tmod_of_pos x hn
 exact⟨Int.tmod_nonneg _ (by omega),Int.tmod_lt_of_pos _ hn⟩
end
theorem okM.s(nb c:Nat)(m:Mk):True:=trivial
abbrev okS(nb c:Nat)(S:List Int)(m:Mk):Prop:=okM nb c m∧m.s=S
theorem okS.mono{nb c c':Nat}{S:List Int}{m:Mk}(h:okS nb c S m)(hc:c≤c'):okS nb c' S m:=⟨okM.mono h.1 hc,h.2⟩
def wf(k:IntKind)(n:Int):Dt:=⟨fun _=>k.wrap n=n,fun _ h=>h⟩
section
variable{P:Program}{Γ Γ' E D0:List Dt}{L M N:List Res}{e:Env}{X:Cx}{n:Fs}{w0:World}{Q:Exit→Act→World→Prop}{ops:Array Oper}{d:Nat}{ty:TypeId}{pos:String}{af:Array Edge}{rest:List Oper}{f:FuncId}{h:Operand}{xs:List Operand}{ws:List Value}{ts:Array TypeId}{g B B2 nb c:Nat}{vs vb al val:Value}{S:List Int}{m st:Mk}{qs:List BV}
end
theorem F67_0:Fld Tryz.prog 67 0 0:=⟨_,_,Tryz.underlying67,rfl,rfl,1,(by unfold Sz;kernel_rfl),by decide⟩
theorem F67_1:Fld Tryz.prog 67 1 1:=⟨_,_,Tryz.underlying67,rfl,rfl,1,(by unfold Sz;kernel_rfl),by decide⟩
theorem F67_2:Fld Tryz.prog 67 2 2:=⟨_,_,Tryz.underlying67,rfl,rfl,1,(by unfold Sz;kernel_rfl),by decide⟩
theorem r3makes_ct{a0:Value}{i:D.Ins}:Td Tryz.prog 66 #[vIns i a0] [da rIns (vIns i a0) i] [] (rL (rI .i64)) (makes3 i):=by
 refine jenter (args:=[vIns i a0]) Tryz.func66 rfl rfl rfl fun w0 X=>?_
 refine jq (jr (jbox Z Z fun g1=>ja Z (jn (jx (jq (jq (jr (js (jf F67_0 Z) (js (jl k0 O3 Z Z) (jn ?_))))))))))
 refine jx (jb (jq (jr (js (jeql Z Z) (ja Z (jn (jx ?_)))))))
 refine jif Z (fun hc1=>?_) (fun hc1=>?_)
 refine jq (jr (ja Z (jn (jx (jrt (jbr (jtr ?_)))))))
 exact jrD Z Z (by simp[makes3, *]) wN
 refine jq (jr (js (jeql Z Z) (ja Z (jn (jx ?_)))))
 refine jif Z (fun hc2=>?_) (fun hc2=>?_)
 refine jq (jr (js (jf F67_1 Z) (js (jl k0 O3 Z Z) (js (jf F67_2 Z) (js (jl k0 O3 Z Z) (jlit (r:=(rI .i64)) (l:=[i.Dst,i.Two]) U22 I3 (by decide) Z Z Z (lV Z Z (wI (rIns.W_Dst d0)) (lV Z Z (wI (rIns.W_Two d0)) ln)) fun g13=>ja Z (jn (jx (jrt (jbr ?_))))))))))
 refine jtr (qfz k0 (by(try simp)<;>omega) ?_)
 exact jrD Z Z (by simp[makes3, *]) d0
 refine jsk (jbn (jx (jq (jr (js (jf F67_1 Z) (js (jl k0 O3 Z Z) (jlit (r:=(rI .i64)) (l:=[i.Dst]) U22 I3 (by decide) Z Z Z (lV Z Z (wI (rIns.W_Dst d0)) ln) fun g16=>ja Z (jn (jx (jrt ?_))))))))))
 refine qfz k0 (by(try simp)<;>omega) ?_
 exact jrD Z Z (by simp[makes3, *]) d0
abbrev U47:=@Tryz.underlying47
abbrev U58:=@Tryz.underlying58
theorem A67:∃d,Tryz.prog.underlying 67=some d∧(match d with | .struct _ | .array _ _=>true|_=>false)=true:=⟨_,Tryz.underlying67,rfl⟩
theorem E66:Ent Tryz.prog 66:=⟨_,Tryz.func66,by kernel_rfl,by kernel_rfl⟩
theorem F49_1:Fld Tryz.prog 49 1 1:=⟨_,_,Tryz.underlying49,rfl,rfl,1,(by unfold Sz;kernel_rfl),by decide⟩
theorem F62_1:Fld Tryz.prog 62 1 1:=⟨_,_,Tryz.underlying62,rfl,rfl,1,(by unfold Sz;kernel_rfl),by decide⟩
theorem I67:(Tryz.prog.info? 67).map (fun i=>(i.zero,i.size,i.bytes))=some (some (.agg #[.int .i64 0,.int .i64 0,.int .i64 0,.slice none 0 0,.int .i32 0]),5,56):=by kernel_rfl
theorem O47:One Tryz.prog 47:=⟨_,Tryz.underlying47,rfl⟩
theorem O58:One Tryz.prog 58:=⟨_,Tryz.underlying58,rfl⟩
theorem Z58:Sz Tryz.prog 58 1:=by unfold Sz;kernel_rfl
theorem Z62:Sz Tryz.prog 62 6:=by unfold Sz;kernel_rfl
theorem Z67:Sz Tryz.prog 67 5:=by unfold Sz;kernel_rfl
def mem1(b:Int)(m:Mk):Int×Mk :=
 let m1:=constS b (IntKind.i32.wrap (tVV 9 m)) (tSS m)
 let m2:=tSS m1
 if tVV 3 m1=0 then
  let m3:=sS9 b m2
  let m4:=constS b 7 m3
  let m6:=addS b ⟨5,m4.nx,0,[sV9 m2,m3.nx],0⟩ (freshS m4)
  (m6.nx,addS b ⟨2,m6.nx,0,[(tSS m).nx,m4.nx],0⟩ (freshS m6))
 else ((tSS m).nx,m2)
def mem2(m:Mk):Int×Mk :=
 let m2:=tSS (tSS m)
 if tVV 12 (tSS m)=0 then (wordV m2,wordS m2) else (IntKind.i32.wrap (tVV 4 m),m2)
def memS(b:Int)(st:Bool)(m:Mk):Mk :=
 let a:=mem1 b m
 let i:=mem2 a.2
 if st then addS b ⟨16,0,0,[a.1,sV9 i.2],i.1⟩ (sS9 b i.2) else addS b ⟨15,i.2.nx,0,[a.1],i.1⟩ (freshS i.2)
def argsL(b:Int):Nat→List Int→Mk→List Int×Mk
 | 0,l,m=>(l,m)
 | n+1,l,m=>argsL b n (l++[sV9 m]) (sS9 b m)
def insS(b:Int)(m:Mk):Mk :=
 let k:=tVV 20 m
 let m1:=tSS m
 let m2:=sS9 b m1
 let m3:=sS9 b m2
 if k<12 then
  if tVV 3 m3=0 then
   let m4:=constS b (IntKind.i32.wrap (tVV 40 (tSS m3)-8)) (tSS (tSS m3))
   addS b ⟨ix [2,2,3,4,5,6,7,8,9,10,12,11] k.toNat,m4.nx,0,[sV9 m1,(tSS (tSS m3)).nx],0⟩ (freshS m4)
  else addS b ⟨ix [2,2,3,4,5,6,7,8,9,10,12,11] k.toNat,(tSS m3).nx,0,[sV9 m1,sV9 m2],0⟩ (freshS (tSS m3))
 else if k=12 then addS b ⟨13,m3.nx,0,[sV9 m1,sV9 m2],0⟩ (freshS m3)
 else if k=13 then
  let m4:=constS b (IntKind.i32.wrap (tVV 12 m2)) (tSS m2)
  if 0<tVV 3 m4 then
   let m5:=constS b (IntKind.i32.wrap (1+IntKind.i32.wrap (tVV 12 (tSS m4)))) (tSS (tSS m4))
   addS b ⟨14,m5.nx,0,[sV9 m1,(tSS (tSS m4)).nx],0⟩ (freshS m5)
  else addS b ⟨14,(tSS m4).nx,0,[sV9 m1,(tSS m2).nx],0⟩ (freshS (tSS m4))
 else if k<16 then memS b (decide (k=15)) m1
 else if k=16 then
  let r:=argsL b (tVV 5 m1).toNat [] (tSS m1)
  addS b ⟨17,r.2.nx,0,r.1,IntKind.i32.wrap (tVV 5 (freshS r.2))⟩ (tSS (freshS r.2))
 else if k=17 then addS b ⟨18,m3.nx,(freshS m3).nx,[sV9 m1,sV9 m2],0⟩ (freshS (freshS m3))
 else constS b (wordV m1) (wordS m1)
def setT(b:Int)(t:D.Term)(m:Mk):Mk:={ m with bs:=m.bs.set b.toNat { (ix m.bs b.toNat) with Term:=t } }
def endS(b:Int)(l:List Int)(m:Mk):Mk :=
 if l.length=0 then
  if tVV 8 m=0 then setT b ⟨5,[],[],IntKind.i32.wrap (tVV 200 (tSS m))⟩ (tSS (tSS m))
  else if tVV 8 m>1 then setT b ⟨4,[sV9 (tSS m)],[],0⟩ (sS9 b (tSS m))
  else setT b ⟨4,[],[],0⟩ (tSS m)
 else if l.length=1 then setT b ⟨1,[],l,0⟩ m
 else if l.length=2 then
  let m1:=sS9 b m
  let m2:=tSS m1
  if tVV 2 m1=0 then
   let m3:=sS9 b m2
   let m4:=freshS m3
   setT b ⟨2,[m3.nx],l,0⟩ (addS b ⟨ix [11,12,13] (tVV 3 m4).toNat,m3.nx,0,[sV9 m,sV9 m2],0⟩ (tSS m4))
  else setT b ⟨2,[sV9 m],l,0⟩ m2
 else
  let m1:=sS9 b m
  let m2:=constS b 7 m1
  setT b ⟨3,[m2.nx],l,0⟩ (addS b ⟨5,m2.nx,0,[sV9 m,m1.nx],0⟩ (freshS m2))
section
variable{nb c:Nat}{m:Mk}{b:Int}
theorem args_len:∀(n:Nat) (l:List Int) (m:Mk),(argsL b n l m).1.length=l.length+n
 | 0,_,_=>rfl
 | n+1,l,m=>by rw[argsL,args_len n];simp;omega
end
theorem A60:∃d,Tryz.prog.underlying 60=some d∧(match d with | .struct _ | .array _ _=>true|_=>false)=true:=⟨_,Tryz.underlying60,rfl⟩
theorem F60_0:Fld Tryz.prog 60 0 0:=⟨_,_,Tryz.underlying60,rfl,rfl,1,(by unfold Sz;kernel_rfl),by decide⟩
theorem F60_1:Fld Tryz.prog 60 1 1:=⟨_,_,Tryz.underlying60,rfl,rfl,1,(by unfold Sz;kernel_rfl),by decide⟩
theorem F60_2:Fld Tryz.prog 60 2 2:=⟨_,_,Tryz.underlying60,rfl,rfl,1,(by unfold Sz;kernel_rfl),by decide⟩
theorem F60_3:Fld Tryz.prog 60 3 3:=⟨_,_,Tryz.underlying60,rfl,rfl,1,(by unfold Sz;kernel_rfl),by decide⟩
theorem F62_2:Fld Tryz.prog 62 2 2:=⟨_,_,Tryz.underlying62,rfl,rfl,4,(by unfold Sz;kernel_rfl),by decide⟩
theorem Z60:Sz Tryz.prog 60 4:=by unfold Sz;kernel_rfl
theorem J60:(Tryz.prog.info? 60).bind (·.zero)=some (.agg #[.int .i64 0,.slice none 0 0,.slice none 0 0,.int .i32 0]):=by kernel_rfl
section
variable{nb c:Nat}{m:Mk}
end
def predsT3(bs:List D.Block):Nat→Int→List Int
 | 0,_=>[]
 | k+1,b=>predsT3 bs k b++(if (ix bs k).Term.To.any (fun y=>decide (y=b)) then [(k:Int)] else [])
def pd3(f:D.Func)(b:Int):List Int:=predsT3 f.Blocks f.Blocks.length b
theorem predsT3_len(bs:List D.Block)(b:Int):∀k,(predsT3 bs k b).length≤k
 | 0=>by simp[predsT3]
 | k+1=>by have:=predsT3_len bs b k;rw[predsT3,List.length_append];split<;>simp<;>omega
theorem none_any{α:Type}{l:List α}{q:α→Bool}(h:∀x∈l,q x=false):l.any q=false:=by simpa[List.any_eq_false] using h
theorem none_snoc{α:Type}[Inhabited α]{l:List α}{q:α→Bool}{k:Nat}(hk:k<l.length)(h:∀x∈l.take k,q x=false)(h1:q (ix l k)=false):∀x∈l.take (k+1),q x=false:=by
 rw[take_ix hk];intro x hx;rcases List.mem_append.1 hx with hx|hx
 ·exact h x hx
 ·simp at hx;subst hx;exact h1
theorem any_at{α:Type}[Inhabited α]{l:List α}{q:α→Bool}{k:Nat}(hk:k<l.length)(h1:q (ix l k)=true):l.any q=true:=List.any_eq_true.2 ⟨_,ix_mem hk,h1⟩
def cnt3(l:List Bool):Nat:=l.countP (fun x=>!x)
theorem cnt3_set{l:List Bool}{i:Nat}(hi:i<l.length)(h:ix l i=false):cnt3 (l.set i true)+1=cnt3 l:=by
 unfold cnt3
 have h2:l[i]=false:=by rw[←ix_eq hi];exact h
 rw[List.countP_set hi]
 have:0<l.countP (fun x=>!x):=List.countP_pos_iff.2 ⟨_,List.getElem_mem hi,by simp[h2]⟩
 simp[h2];omega
theorem cnt3_rep(n:Nat):cnt3 (List.replicate n false)=n:=by simp[cnt3,List.countP_replicate]
theorem ix_rep(n i:Nat):ix (List.replicate n false) i=false:=by by_cases h:i<n<;>simp[ix,h]
def b3In(w:Int):List Bool→List Int→List Int→List Bool×List Int
 | se,q,[]=>(se,q)
 | se,q,t::ts=>if (0≤t∧t<se.length)∧ix se t.toNat=false∧t≠w then b3In w (se.set t.toNat true) (q++[t]) ts else b3In w se q ts
def b3(bs:List D.Block)(w:Int):Nat→List Bool→List Int→Nat→List Bool
 | 0,se,_,_=>se
 | f+1,se,q,i=>if i<q.length then b3 bs w f (b3In w se q (ix bs (ix q i).toNat).Term.To).1 (b3In w se q (ix bs (ix q i).toNat).Term.To).2 (i+1) else se
def reach3(f:D.Func)(w:Int):List Bool :=
 if w≠0∧0<f.Blocks.length then b3 f.Blocks w f.Blocks.length ((List.replicate f.Blocks.length false).set 0 true) [0] 0
 else List.replicate f.Blocks.length false
theorem b3_step{bs:List D.Block}{w:Int}{f i:Nat}{se se2:List Bool}{q q2:List Int}(hf:0<f)(hi:i<q.length)(h:b3In w se q (ix bs (ix q i).toNat).Term.To=(se2,q2)):b3 bs w f se q i=b3 bs w (f-1) se2 q2 (i+1):=by
 cases f with
 | zero=>omega
 | succ f=>rw[b3,if_pos hi,h];rfl
theorem b3_end{bs:List D.Block}{w:Int}{f i:Nat}{se:List Bool}{q:List Int}(hi:q.length≤i):b3 bs w f se q i=se:=by
 cases f with
 | zero=>rfl
 | succ f=>rw[b3,if_neg (by omega)]
theorem b3_nil{bs:List D.Block}{w:Int}{f:Nat}{se:List Bool}:b3 bs w f se [] 0=se:=b3_end (by simp)
theorem b3In_new{w:Int}{se se0:List Bool}{q q0 T:List Int}{j:Nat}(hj:j<T.length)(hIn:b3In w se q (T.drop j)=b3In w se0 q0 T)(h:(0≤ix T j∧ix T j<se.length)∧ix se (ix T j).toNat=false∧ix T j≠w):b3In w (se.set (ix T j).toNat true) (q++[ix T j]) (T.drop (j+1))=b3In w se0 q0 T:=by
 rw[←hIn,drop_ix hj,b3In,if_pos h]
theorem b3In_old{w:Int}{se se0:List Bool}{q q0 T:List Int}{j:Nat}(hj:j<T.length)(hIn:b3In w se q (T.drop j)=b3In w se0 q0 T)(h:¬((0≤ix T j∧ix T j<se.length)∧ix se (ix T j).toNat=false∧ix T j≠w)):b3In w se q (T.drop (j+1))=b3In w se0 q0 T:=by
 rw[←hIn,drop_ix hj,b3In,if_neg h]
theorem b3In_len{w:Int}:∀(T:List Int) (se:List Bool) (q:List Int),(b3In w se q T).1.length=se.length
 | [],_,_=>rfl
 | t::ts,se,q=>by rw[b3In];split;(· rw[b3In_len ts];simp);exact b3In_len ts se q
theorem b3_len{bs:List D.Block}{w:Int}:∀(f:Nat) (se:List Bool) (q:List Int) (i:Nat),(b3 bs w f se q i).length=se.length
 | 0,_,_,_=>rfl
 | f+1,se,q,i=>by rw[b3];split;(· rw[b3_len f,b3In_len]);rfl
theorem reach3_len(f:D.Func)(w:Int):(reach3 f w).length=f.Blocks.length:=by unfold reach3;split;(· rw[b3_len];simp);simp
def phT(b:Int)(i:Nat)(p:D.Phi):D.Tg3:=⟨b,-1-i,[p.Dst],p.In.map (·.Val)⟩
def phL(b:Int):Nat→List D.Phi→List D.Tg3
 | _,[]=>[]
 | i,p::l=>phT b i p::phL b (i+1) l
def inT(b:Int)(i:Nat)(x:D.Ins):D.Tg3:=⟨b,i,makes3 x,x.Args⟩
def inL(b:Int):Nat→List D.Ins→List D.Tg3
 | _,[]=>[]
 | i,x::l=>inT b i x::inL b (i+1) l
def enT(b:Int)(x:D.Block):D.Tg3:=⟨b,(x.Ins.length:Nat),[],x.Term.Args⟩
def blL:Nat→List D.Block→List D.Tg3
 | _,[]=>[]
 | b,x::l=>phL b 0 x.Phis++(inL b 0 x.Ins++(enT b x::blL (b+1) l))
def things3(f:D.Func):List D.Tg3:=blL 0 f.Blocks
theorem phL_len(b:Int):∀(l:List D.Phi) (i:Nat),(phL b i l).length=l.length
 | [],_=>rfl
 | _::l,i=>by simp[phL,phL_len b l]
theorem inL_len(b:Int):∀(l:List D.Ins) (i:Nat),(inL b i l).length=l.length
 | [],_=>rfl
 | _::l,i=>by simp[inL,inL_len b l]
theorem blL_len:∀(l:List D.Block) (b:Nat),(blL b l).length=cntT l
 | [],_=>rfl
 | x::l,b=>by simp[blL,cntT,phL_len,inL_len,blL_len l];omega
theorem pre_len{α:Type}{a b c:List α}(h:a=b++c):b.length≤a.length:=by rw[h];simp
theorem bl_0{a out:List D.Tg3}{l:List D.Block}{k:Nat}(hk:k<l.length)(h:a=out++blL k (l.drop k)):a=out++(phL k 0 ((ix l k).Phis.drop 0)++(inL k 0 (ix l k).Ins++(enT k (ix l k)::blL (k+1) (l.drop (k+1))))):=by rw[h,drop_ix hk,blL];rfl
theorem ph_1{a out r:List D.Tg3}{b:Int}{l:List D.Phi}{i:Nat}(hi:i<l.length)(h:a=out++(phL b i (l.drop i)++r)):a=(out++[phT b i (ix l i)])++(phL b (i+1) (l.drop (i+1))++r):=by rw[h,drop_ix hi,phL];simp
theorem ph_2{a out r:List D.Tg3}{b:Int}{l:List D.Phi}{i:Nat}(hi:l.length≤i)(h:a=out++(phL b i (l.drop i)++r)):a=out++r:=by rw[h,List.drop_of_length_le hi];rfl
theorem in_1{a out r:List D.Tg3}{b:Int}{l:List D.Ins}{i:Nat}(hi:i<l.length)(h:a=out++(inL b i (l.drop i)++r)):a=(out++[inT b i (ix l i)])++(inL b (i+1) (l.drop (i+1))++r):=by rw[h,drop_ix hi,inL];simp
theorem in_2{a out r:List D.Tg3}{b:Int}{l:List D.Ins}{i:Nat}(hi:l.length≤i)(h:a=out++(inL b i (l.drop i)++r)):a=out++r:=by rw[h,List.drop_of_length_le hi];rfl
theorem bl_1{a out r:List D.Tg3}{x:D.Tg3}(h:a=out++(x::r)):a=(out++[x])++r:=by rw[h];simp
theorem map_snoc{α β:Type}[Inhabited α]{g:α→β}{l:List α}{k:Nat}(hk:k<l.length):(l.take (k+1)).map g=(l.take k).map g++[g (ix l k)]:=by rw[take_ix hk];simp
def stands3(f:D.Func)(b:Int)(t:D.Tg3):Bool:=decide (t.Block=b)||!(ix (reach3 f t.Block) b.toNat)
def standL(f:D.Func)(b:Int)(l:List D.Tg3):List Int:=l.flatMap (fun t=>if stands3 f b t then t.Makes else [])
def numsL(n:Nat):List Int:=(List.range n).map (fun(i:Nat)=>(i:Int))
def stand3(f:D.Func)(b:Int):List Int:=numsL f.Params.toNat++standL f b (things3 f)
theorem things3_len(f:D.Func):(things3 f).length=cntT f.Blocks:=blL_len _ _
theorem r3preds_ct{a0:Value}{f:D.Func}(block:Int):Tg Tryz.prog 63 #[vFunc f a0,.int .i64 block] [da rFunc (vFunc f a0) f] [] (rI .i64) 3 (pd3 f block):=by
 refine jenter (args:=[vFunc f a0,.int .i64 block]) Tryz.func63 rfl rfl rfl fun w0 X=>?_
 refine jq (jr (jbox Z Z fun g2=>ja Z (jn (jx (jq (jr (jlit (r:=(rI .i64)) (l:=[]) U22 I3 (by decide) Z Z Z ln fun g9=>ja Z (jn (jx ?_)))))))))
 refine jq (jq (jr (ja Z (jn (jx (jb ?_))))))
 refine jlp (u3 fun(k:Nat) (vo:Value) (lo:List Int)=>⟨k≤f.Blocks.length∧lo=predsT3 f.Blocks k block,[da rFunc (vFunc f a0) f],[gl X.n (rI .i64) 3 vo lo,bx g2 49 [.int .i64 f.Params,a0]],[(1,.int .i64 block),(2,.pointer (some ⟨g2,0,none⟩)),(4,.slice none 0 0),(5,vo),(6,.int .i64 (↑k))],f.Blocks.length-k⟩) (0,(.slice (some ⟨g9,0,none⟩) 0 0),[]) ⟨by dsimp only;omega,rfl⟩ (dc d0 dn) (kd kn) ⟨Z,Z,Z,Z,eqI (by omega),trivial⟩ ?_
 rintro⟨k,vo,lo⟩;dsimp only[u3];rintro⟨hk,hlo⟩
 refine cgo k0 fun w1=>?_
 have hll:lo.length≤k:=by rw[hlo];exact predsT3_len _ _ _
 refine jq (jq (jr (jm Z (js (jf F49_1 Z) (js (jl k1 O47 Z Z) (jdq (rFunc.cB d0) fun q2 w2=>js (jln U47 (rFunc.cB d0) Z) (js (jlss Z Z) (jn (jx ?_)))))))))
 refine jif Z (fun hc1=>?_) (fun hc1=>?_)
 refine jsk (jx (jq (jb (jq (jr (js (jf F49_1 Z) (js (jl k1 O47 Z Z) (jm Z (js (jix U47 Z62 (rFunc.cB d0) Z Z Z (by omega)) (js (jf F62_2 Z) (js (jf F60_2 Z) ?_)))))))))))
 refine jev (jlV (rTerm.A_To (rBlock.A_Term (dix (rFunc.cB d0) k (by omega)))) O22 Z Z) fun v23 q3 w3=>ja Z (jn (jx (jq (jr (ja Z (jn (jx (jb ?_))))))))
 refine jlp (fun(j:Nat)=>⟨j≤(ix f.Blocks k).Term.To.length∧(∀x∈(ix f.Blocks k).Term.To.take j,decide (x=block)=false),[dv (rL (rI .i64)) v23 (((ix f.Blocks k).Term).To),da rFunc (vFunc f a0) f],[gl X.n (rI .i64) 3 vo lo,bx g2 49 [.int .i64 f.Params,a0]],[(1,.int .i64 block),(2,.pointer (some ⟨g2,0,none⟩)),(4,.slice none 0 0),(5,vo),(6,.int .i64 (↑k)),(7,v23),(8,.int .i64 (↑j))],(ix f.Blocks k).Term.To.length-j⟩) 0 ⟨Nat.zero_le _,by simp⟩ (dc d0 (dc d1 dn)) (kd kn) ⟨Z,Z,Z,Z,Z,Z,eqI (by omega),trivial⟩ ?_
 rintro j;dsimp only;rintro⟨hj,hno⟩
 refine jq (jq (jr (jm Z (jm Z (js (jln U22 d0 Z) (js (jlss Z Z) (jn (jx ?_))))))))
 refine jif Z (fun hc2=>?_) (fun hc2=>?_)
 refine jsk (jx (jq (jb (jq (jr (jm Z (jm Z (js (jix U22 Z3 d0 Z Z Z (by omega)) (js (jlI (dix d0 j (by omega)) O3 Z) (jm Z (js (jeql Z Z) ?_)))))))))))
 refine jn (jx ?_)
 refine jif Z (fun hc3=>?_) (fun hc3=>?_)
 refine jq (jr (jm Z (jm Z (japv U22 I3 (by decide) Z Z k0 Z (wI (wp (IntWalk.i64_in _ (by omega)))) (by omega) (fun _=>Z) fun v39 _ w5=>ja Z (jn (jx (jex (jbo (jtx (jtx ?_))))))))))
 refine jbh (jbn (jx (jr (jm Z (js (jadd Z Z (by omega)) (ja Z (jn ?_)))))))
 exact jag (k+1,v39,lo++[((k:Nat):Int)]) ⟨by dsimp only;omega,by dsimp only;rw[predsT3,any_at (k:=j) (by omega) (by simpa using hc3),hlo];simp⟩ (dc d1 dn) (kd kn) ⟨Z,Z,Z,Z,eqI (by omega),trivial⟩
 refine jsk (jbn (jx (jr (jm Z (js (jadd Z Z (by omega)) (ja Z (jn ?_)))))))
 exact jag (j+1) ⟨by omega,none_snoc (by omega) hno (by simpa using hc3)⟩ (dc d0 (dc d1 dn)) (kd kn) ⟨Z,Z,Z,Z,Z,Z,eqI (by omega),trivial⟩
 refine jex (jtx (jtx (jbh (jbn (jx (jr (jm Z (js (jadd Z Z (by omega)) (ja Z (jn ?_))))))))))
 exact jag (k+1,vo,lo) ⟨by dsimp only;omega,by dsimp only;rw[predsT3,none_any (l:=(ix f.Blocks k).Term.To) (by have h9:=hno;rw[List.take_of_length_le (by omega)] at h9;exact h9),hlo];simp⟩ (dc d1 dn) (kd kn) ⟨Z,Z,Z,Z,eqI (by omega),trivial⟩
 refine jex (jtx (jtx (jbh (jx (jq (jr (jm Z (ja Z (jn (jx (jrt ?_)))))))))))
 exact jrG Z Z (by have e9:k=f.Blocks.length:=(by omega);subst e9;exact hlo.symm) k0
set_option maxRecDepth 4000 in
theorem r3reach_ct{a0:Value}{f:D.Func}(without:Int):Tg Tryz.prog 65 #[vFunc f a0,.int .i64 without] [da rFunc (vFunc f a0) f] [] rB 4 (reach3 f without):=by
 refine jenter (args:=[vFunc f a0,.int .i64 without]) Tryz.func65 rfl rfl rfl fun w0 X=>?_
 refine jq (jr (jbox Z Z fun g2=>ja Z (jn (jx (jq (jr (js (jf F49_1 Z) (js (jl k0 O47 Z Z) (jdq (rFunc.cB d0) fun q1 w1=>js (jln U47 (rFunc.cB d0) Z) ?_)))))))))
 refine jmk (m:=(List.length f.Blocks)) (r:=rB) U129 I4 Z Z Z Z Z (by omega) wB Z fun g13=>ja Z (jn (jx (jq (jr (jlit (r:=(rI .i64)) (l:=[]) U22 I3 (by decide) Z Z Z ln fun g14=>ja Z (jn (jx (jq (jq ?_)))))))))
 refine jr (jm Z (js (jneq Z Z) (jm Z (jg Z Z (.t _) (fun hg=>jf F49_1 Z) (jg Z Z (.t _) (fun hg=>jl k2 O47 (evg Z hg) Z) (jg Z Z (.t _) (fun hg=>jln U47 (rFunc.cB d0) (evg Z hg)) (jg Z Z (.t _) (fun hg=>jgtr (evg Z hg) Z) (js (jand Z Z) (jn (jx ?_))))))))))
 refine jif Z (fun hc1=>?_) (fun hc1=>?_)
 refine jq (jr (jm Z (js (jig (i:=0) U129 Z4 k1 Z Z Z (by rw[lrep];omega)) (jsg k1 Z Z4 Z Z Z (by rw[lrep];omega) wB (jn (jx (jr (jm Z (japvz U22 I3 (by decide) Z Z k1 Z (wI (wl 0)) (fun _=>Z) fun v27 _ w2=>ja Z (jn ?_))))))))))
 refine jx (jq (jq (jr (ja Z (jn (jx (jb ?_)))))))
 refine jlp (u4 fun(i:Nat) (se:List Bool) (l:List Int) (vl:Value)=>⟨reach3 f without=b3 f.Blocks without (f.Blocks.length-i) se l i∧cnt3 se+l.length≤f.Blocks.length∧i≤l.length∧se.length=f.Blocks.length∧(∀x∈l,0≤x∧x<f.Blocks.length),[da rFunc (vFunc f a0) f],[gl X.n (rI .i64) 3 vl l,gl X.n rB 4 (.slice (some ⟨g13,0,none⟩) (List.length f.Blocks) (List.length f.Blocks)) se,bx g2 49 [.int .i64 f.Params,a0]],[(1,.int .i64 without),(2,.pointer (some ⟨g2,0,none⟩)),(4,.slice none 0 0),(5,(.slice (some ⟨g13,0,none⟩) (List.length f.Blocks) (List.length f.Blocks))),(6,vl),(7,.int .i64 (↑i))],f.Blocks.length-i⟩) (0,List.set (List.replicate (List.length f.Blocks) false) 0 true,[0],v27) ⟨by first|(unfold reach3;rw[if_pos (by omega)];rfl)|(unfold reach3;rw[if_neg (by omega)];exact b3_nil.symm),by dsimp only;first|(rw[cnt3_rep];simp;done)|(have h9:=cnt3_set (l:=List.replicate f.Blocks.length false) (i:=0) (by simp;omega) (ix_rep _ _);rw[cnt3_rep] at h9;simp only[List.length_cons,List.length_nil];omega),by simp,by simp,by first|(simp;done)|(simp;omega)⟩ (dc d0 dn) (kd (kc k0 kn)) ⟨Z,Z,Z,Z,Z,eqI (by omega),trivial⟩ ?_
 rintro⟨i,se,l,vl⟩;dsimp only[u4];rintro⟨hb,hcn,hil,hse,hq⟩
 refine cgo k0 fun w3=>jq (jq (jr (jm Z (jm Z (js (jlg U22 k0 Z) (js (jlss Z Z) (jn (jx ?_))))))))
 refine jif Z (fun hc2=>?_) (fun hc2=>?_)
 have hqi:=hq _ (ix_mem (l:=l) (i:=i) (by omega))
 refine jsk (jx (jq (jb (jq (jstl Mixed (by kernel_rfl) (jt (jf F49_1 Z) (jt (jl k2 O47 Z Z) (jt (jmv Z) (jt (jmv Z) (jt (jig U22 Z3 k0 Z Z Z (by omega)) (jt (jgI k0 (by omega) O3 Z) ?_)))))))))))
 refine jt (jix (i:=(Int.toNat (ix l i))) U47 Z62 (rFunc.cB d0) Z Z (by omega) (by omega)) (jt (jf F62_2 Z) (jt (jf F60_2 Z) (jtv (jlV (rTerm.A_To (rBlock.A_Term (dix (rFunc.cB d0) (Int.toNat (ix l i)) (by omega)))) O22 Z Z) fun v43 q4 w4=>jt (jas Z) (jdn (jx (jq (jr (ja Z (jn (jx ?_))))))))))
 refine jb ?_
 refine jlp (u4 fun(j:Nat) (se2:List Bool) (l2:List Int) (vl2:Value)=>⟨j≤(ix f.Blocks (Int.toNat (ix l i))).Term.To.length∧b3In without se2 l2 ((ix f.Blocks (Int.toNat (ix l i))).Term.To.drop j)=b3In without se l (ix f.Blocks (Int.toNat (ix l i))).Term.To∧cnt3 se2+l2.length≤f.Blocks.length∧se2.length=f.Blocks.length∧(∀x∈l2,0≤x∧x<f.Blocks.length)∧i<l2.length,[dv (rL (rI .i64)) v43 (((ix f.Blocks (Int.toNat (ix l i))).Term).To),da rFunc (vFunc f a0) f],[gl X.n (rI .i64) 3 vl2 l2,gl X.n rB 4 (.slice (some ⟨g13,0,none⟩) (List.length f.Blocks) (List.length f.Blocks)) se2,bx g2 49 [.int .i64 f.Params,a0]],[(1,.int .i64 without),(2,.pointer (some ⟨g2,0,none⟩)),(4,.slice none 0 0),(5,(.slice (some ⟨g13,0,none⟩) (List.length f.Blocks) (List.length f.Blocks))),(6,vl2),(7,.int .i64 (↑i)),(8,v43),(9,.int .i64 (↑j))],(ix f.Blocks (Int.toNat (ix l i))).Term.To.length-j⟩) (0,se,l,vl) ⟨Nat.zero_le _,rfl,hcn,hse,hq,by dsimp only;omega⟩ (dc d0 (dc d1 dn)) (kd (kc k0 kn)) ⟨Z,Z,Z,Z,Z,Z,Z,eqI (by omega),trivial⟩ ?_
 rintro⟨j,se2,l2,vl2⟩;dsimp only[u4];rintro⟨hj,hIn,hcn2,hse2,hq2,hi2⟩
 refine cgo k0 fun w6=>jq (jq (jr (jm Z (jm Z (js (jln U22 d0 Z) (js (jlss Z Z) (jn (jx ?_))))))))
 refine jif Z (fun hc3=>?_) (fun hc3=>?_)
 refine jsk (jx (jq (jb (jq (jr (jm Z (jm Z (js (jix U22 Z3 d0 Z Z Z (by omega)) (js (jlI (dix d0 j (by omega)) O3 Z) (js (jgeq Z Z) (jm Z ?_)))))))))))
 refine jg Z Z (.t _) (fun hg=>jmv Z) (jg Z Z (.t _) (fun hg=>jmv Z) (jg Z Z (.t _) (fun hg=>jix U22 Z3 d0 (evg Z hg) (evg Z hg) Z (by first|omega|(simp at hg;omega)|(simp only[List.length_set];omega)|(simp;done))) (jg Z Z (.t _) (fun hg=>jlI (dix d0 j (by first|omega|(simp at hg;omega)|(simp only[List.length_set];omega)|(simp;done))) O3 (evg Z hg)) (jg Z Z (.t _) (fun hg=>jmv Z) (jg Z Z (.t _) (fun hg=>jlg U129 k1 (evg Z hg)) (jg Z Z (.t _) (fun hg=>jlss (evg Z hg) (evg Z hg)) (js (jand Z Z) (jm Z (jg Z Z (.t _) (fun hg=>jmv Z) (jg Z Z (.t _) (fun hg=>jmv Z) (jg Z Z (.t _) (fun hg=>jmv Z) ?_)))))))))))
 refine jg Z Z (.t _) (fun hg=>jix U22 Z3 d0 (evg Z hg) (evg Z hg) Z (by first|omega|(simp at hg;omega)|(simp only[List.length_set];omega)|(simp;done))) (jg Z Z (.t _) (fun hg=>jlI (dix d0 j (by first|omega|(simp at hg;omega)|(simp only[List.length_set];omega)|(simp;done))) O3 (evg Z hg)) (jg Z Z (.t _) (fun hg=>jig (i:=(Int.toNat (ix (((ix f.Blocks (Int.toNat (ix l i))).Term).To) j))) U129 Z4 k1 (evg Z hg) (evg Z hg) (by first|omega|(simp at hg;omega)) (by first|omega|(simp at hg;omega)|(simp only[List.length_set];omega)|(simp;done))) (jg Z Z (.t _) (fun hg=>jgB k1 (by first|omega|(simp at hg;omega)|(simp only[List.length_set];omega)|(simp;done)) O4 (evg Z hg)) (jg Z Z (.t _) (fun hg=>jnot (evg Z hg)) (js (jand Z Z) (jm Z (jg Z Z (.t _) (fun hg=>jmv Z) (jg Z Z (.t _) (fun hg=>jmv Z) (jg Z Z (.t _) (fun hg=>jix U22 Z3 d0 (evg Z hg) (evg Z hg) Z (by first|omega|(simp at hg;omega)|(simp only[List.length_set];omega)|(simp;done))) (jg Z Z (.t _) (fun hg=>jlI (dix d0 j (by first|omega|(simp at hg;omega)|(simp only[List.length_set];omega)|(simp;done))) O3 (evg Z hg)) (jg Z Z (.t _) (fun hg=>jmv Z) ?_)))))))))))
 refine jg Z Z (.t _) (fun hg=>jneq (evg Z hg) (evg Z hg)) (js (jand Z Z) (jn (jx ?_)))
 refine jif Z (fun hc4=>?_) (fun hc4=>?_)
 have hcx:((0≤ix (ix f.Blocks (Int.toNat (ix l i))).Term.To j∧ix (ix f.Blocks (Int.toNat (ix l i))).Term.To j<se2.length)∧ix se2 (Int.toNat (ix (ix f.Blocks (Int.toNat (ix l i))).Term.To j))=false∧ix (ix f.Blocks (Int.toNat (ix l i))).Term.To j≠without):=by simpa[and_assoc] using hc4
 refine jq (jr (jm Z (jm Z (jm Z (js (jix U22 Z3 d0 Z Z Z (by omega)) (js (jlI (dix d0 j (by omega)) O3 Z) (js (jig (i:=(Int.toNat (ix (((ix f.Blocks (Int.toNat (ix l i))).Term).To) j))) U129 Z4 k1 Z Z (by omega) (by omega)) (jsg k1 Z Z4 Z Z Z (by omega) wB (jn (jx (jr ?_)))))))))))
 refine jm Z (jm Z (jm Z (js (jix U22 Z3 d0 Z Z Z (by omega)) (js (jlI (dix d0 j (by omega)) O3 Z) (japv U22 I3 (by decide) Z Z k1 Z (wI (wad (dix d0 j (by omega)))) (by omega) (fun _=>Z) fun v94 _ w7=>ja Z (jn (jbn (jx (jr (jm Z ?_))))))))))
 refine js (jadd Z Z (by omega)) (ja Z (jn ?_))
 exact jag (j+1,List.set se2 (Int.toNat (ix (((ix f.Blocks (Int.toNat (ix l i))).Term).To) j)) true,l2++[ix (((ix f.Blocks (Int.toNat (ix l i))).Term).To) j],v94) ⟨by dsimp only;omega,b3In_new (by omega) hIn hcx,by dsimp only;have h9:=cnt3_set (l:=se2) (i:=Int.toNat (ix (ix f.Blocks (Int.toNat (ix l i))).Term.To j)) (by omega) hcx.2.1;rw[List.length_append];simp;omega,by dsimp only;rw[List.length_set];exact hse2,by dsimp only;intro x hx9;rcases List.mem_append.1 hx9 with h9|h9;(· exact hq2 x h9);(simp at h9;subst h9;omega),by dsimp only;rw[List.length_append];omega⟩ (dc d0 (dc d1 dn)) (kd (kc k0 kn)) ⟨Z,Z,Z,Z,Z,Z,Z,eqI (by omega),trivial⟩
 have hcx:¬((0≤ix (ix f.Blocks (Int.toNat (ix l i))).Term.To j∧ix (ix f.Blocks (Int.toNat (ix l i))).Term.To j<se2.length)∧ix se2 (Int.toNat (ix (ix f.Blocks (Int.toNat (ix l i))).Term.To j))=false∧ix (ix f.Blocks (Int.toNat (ix l i))).Term.To j≠without):=by rintro⟨⟨a1,a2⟩,a3,a4⟩;simp[a3,a4] at hc4;omega
 refine jsk (jbn (jx (jr (jm Z (js (jadd Z Z (by omega)) (ja Z (jn ?_)))))))
 exact jag (j+1,se2,l2,vl2) ⟨by dsimp only;omega,b3In_old (by omega) hIn hcx,hcn2,hse2,hq2,hi2⟩ (dc d0 (dc d1 dn)) (kd (kc k0 kn)) ⟨Z,Z,Z,Z,Z,Z,Z,eqI (by omega),trivial⟩
 refine jex (jtx (jtx (jbh (jbn (jx (jr (jm Z (js (jadd Z Z (by omega)) (ja Z (jn ?_))))))))))
 exact jag (i+1,se2,l2,vl2) ⟨by dsimp only;rw[hb,b3_step (by omega) (by omega) (show b3In _ _ _ _=(se2,l2) by rw[←hIn,List.drop_of_length_le (by omega)];rfl),show f.Blocks.length-i-1=f.Blocks.length-(i+1) by omega],by dsimp only;omega,by dsimp only;omega,hse2,hq2⟩ (dc d1 dn) (kd (kc k0 kn)) ⟨Z,Z,Z,Z,Z,eqI (by omega),trivial⟩
 refine jex (jtx (jtx (jbh (jx (jq (jr (jm Z (ja Z (jn (jx (jrt ?_)))))))))))
 exact jrG Z Z (by rw[hb];exact b3_end (by omega)) k1
 refine jsk (jx (jq (jq (jr (ja Z (jn (jx (jb ?_))))))))
 refine jlp (u4 fun(i:Nat) (se:List Bool) (l:List Int) (vl:Value)=>⟨reach3 f without=b3 f.Blocks without (f.Blocks.length-i) se l i∧cnt3 se+l.length≤f.Blocks.length∧i≤l.length∧se.length=f.Blocks.length∧(∀x∈l,0≤x∧x<f.Blocks.length),[da rFunc (vFunc f a0) f],[gl X.n (rI .i64) 3 vl l,gl X.n rB 4 (.slice (some ⟨g13,0,none⟩) (List.length f.Blocks) (List.length f.Blocks)) se,bx g2 49 [.int .i64 f.Params,a0]],[(1,.int .i64 without),(2,.pointer (some ⟨g2,0,none⟩)),(4,.slice none 0 0),(5,(.slice (some ⟨g13,0,none⟩) (List.length f.Blocks) (List.length f.Blocks))),(6,vl),(7,.int .i64 (↑i))],f.Blocks.length-i⟩) (0,List.replicate (List.length f.Blocks) false,[],(.slice (some ⟨g14,0,none⟩) 0 0)) ⟨by first|(unfold reach3;rw[if_pos (by omega)];rfl)|(unfold reach3;rw[if_neg (by omega)];exact b3_nil.symm),by dsimp only;first|(rw[cnt3_rep];simp;done)|(have h9:=cnt3_set (l:=List.replicate f.Blocks.length false) (i:=0) (by simp;omega) (ix_rep _ _);rw[cnt3_rep] at h9;simp only[List.length_cons,List.length_nil];omega),by simp,by simp,by first|(simp;done)|(simp;omega)⟩ (dc d0 dn) (kd (kc k0 kn)) ⟨Z,Z,Z,Z,Z,eqI (by omega),trivial⟩ ?_
 rintro⟨i,se,l,vl⟩;dsimp only[u4];rintro⟨hb,hcn,hil,hse,hq⟩
 refine cgo k0 fun w8=>jq (jq (jr (jm Z (jm Z (js (jlg U22 k0 Z) (js (jlss Z Z) (jn (jx ?_))))))))
 refine jif Z (fun hc5=>?_) (fun hc5=>?_)
 have hqi:=hq _ (ix_mem (l:=l) (i:=i) (by omega))
 refine jsk (jx (jq (jb (jq (jstl Mixed (by kernel_rfl) (jt (jf F49_1 Z) (jt (jl k2 O47 Z Z) (jt (jmv Z) (jt (jmv Z) (jt (jig U22 Z3 k0 Z Z Z (by omega)) (jt (jgI k0 (by omega) O3 Z) ?_)))))))))))
 refine jt (jix (i:=(Int.toNat (ix l i))) U47 Z62 (rFunc.cB d0) Z Z (by omega) (by omega)) (jt (jf F62_2 Z) (jt (jf F60_2 Z) (jtv (jlV (rTerm.A_To (rBlock.A_Term (dix (rFunc.cB d0) (Int.toNat (ix l i)) (by omega)))) O22 Z Z) fun v43_9 q10 w10=>jt (jas Z) (jdn (jx (jq (jr (ja Z (jn (jx ?_))))))))))
 refine jb ?_
 refine jlp (u4 fun(j:Nat) (se2:List Bool) (l2:List Int) (vl2:Value)=>⟨j≤(ix f.Blocks (Int.toNat (ix l i))).Term.To.length∧b3In without se2 l2 ((ix f.Blocks (Int.toNat (ix l i))).Term.To.drop j)=b3In without se l (ix f.Blocks (Int.toNat (ix l i))).Term.To∧cnt3 se2+l2.length≤f.Blocks.length∧se2.length=f.Blocks.length∧(∀x∈l2,0≤x∧x<f.Blocks.length)∧i<l2.length,[dv (rL (rI .i64)) v43_9 (((ix f.Blocks (Int.toNat (ix l i))).Term).To),da rFunc (vFunc f a0) f],[gl X.n (rI .i64) 3 vl2 l2,gl X.n rB 4 (.slice (some ⟨g13,0,none⟩) (List.length f.Blocks) (List.length f.Blocks)) se2,bx g2 49 [.int .i64 f.Params,a0]],[(1,.int .i64 without),(2,.pointer (some ⟨g2,0,none⟩)),(4,.slice none 0 0),(5,(.slice (some ⟨g13,0,none⟩) (List.length f.Blocks) (List.length f.Blocks))),(6,vl2),(7,.int .i64 (↑i)),(8,v43_9),(9,.int .i64 (↑j))],(ix f.Blocks (Int.toNat (ix l i))).Term.To.length-j⟩) (0,se,l,vl) ⟨Nat.zero_le _,rfl,hcn,hse,hq,by dsimp only;omega⟩ (dc d0 (dc d1 dn)) (kd (kc k0 kn)) ⟨Z,Z,Z,Z,Z,Z,Z,eqI (by omega),trivial⟩ ?_
 rintro⟨j,se2,l2,vl2⟩;dsimp only[u4];rintro⟨hj,hIn,hcn2,hse2,hq2,hi2⟩
 refine cgo k0 fun w12=>jq (jq (jr (jm Z (jm Z (js (jln U22 d0 Z) (js (jlss Z Z) (jn (jx ?_))))))))
 refine jif Z (fun hc6=>?_) (fun hc6=>?_)
 refine jsk (jx (jq (jb (jq (jr (jm Z (jm Z (js (jix U22 Z3 d0 Z Z Z (by omega)) (js (jlI (dix d0 j (by omega)) O3 Z) (js (jgeq Z Z) (jm Z ?_)))))))))))
 refine jg Z Z (.t _) (fun hg=>jmv Z) (jg Z Z (.t _) (fun hg=>jmv Z) (jg Z Z (.t _) (fun hg=>jix U22 Z3 d0 (evg Z hg) (evg Z hg) Z (by first|omega|(simp at hg;omega)|(simp only[List.length_set];omega)|(simp;done))) (jg Z Z (.t _) (fun hg=>jlI (dix d0 j (by first|omega|(simp at hg;omega)|(simp only[List.length_set];omega)|(simp;done))) O3 (evg Z hg)) (jg Z Z (.t _) (fun hg=>jmv Z) (jg Z Z (.t _) (fun hg=>jlg U129 k1 (evg Z hg)) (jg Z Z (.t _) (fun hg=>jlss (evg Z hg) (evg Z hg)) (js (jand Z Z) (jm Z (jg Z Z (.t _) (fun hg=>jmv Z) (jg Z Z (.t _) (fun hg=>jmv Z) (jg Z Z (.t _) (fun hg=>jmv Z) ?_)))))))))))
 refine jg Z Z (.t _) (fun hg=>jix U22 Z3 d0 (evg Z hg) (evg Z hg) Z (by first|omega|(simp at hg;omega)|(simp only[List.length_set];omega)|(simp;done))) (jg Z Z (.t _) (fun hg=>jlI (dix d0 j (by first|omega|(simp at hg;omega)|(simp only[List.length_set];omega)|(simp;done))) O3 (evg Z hg)) (jg Z Z (.t _) (fun hg=>jig (i:=(Int.toNat (ix (((ix f.Blocks (Int.toNat (ix l i))).Term).To) j))) U129 Z4 k1 (evg Z hg) (evg Z hg) (by first|omega|(simp at hg;omega)) (by first|omega|(simp at hg;omega)|(simp only[List.length_set];omega)|(simp;done))) (jg Z Z (.t _) (fun hg=>jgB k1 (by first|omega|(simp at hg;omega)|(simp only[List.length_set];omega)|(simp;done)) O4 (evg Z hg)) (jg Z Z (.t _) (fun hg=>jnot (evg Z hg)) (js (jand Z Z) (jm Z (jg Z Z (.t _) (fun hg=>jmv Z) (jg Z Z (.t _) (fun hg=>jmv Z) (jg Z Z (.t _) (fun hg=>jix U22 Z3 d0 (evg Z hg) (evg Z hg) Z (by first|omega|(simp at hg;omega)|(simp only[List.length_set];omega)|(simp;done))) (jg Z Z (.t _) (fun hg=>jlI (dix d0 j (by first|omega|(simp at hg;omega)|(simp only[List.length_set];omega)|(simp;done))) O3 (evg Z hg)) (jg Z Z (.t _) (fun hg=>jmv Z) ?_)))))))))))
 refine jg Z Z (.t _) (fun hg=>jneq (evg Z hg) (evg Z hg)) (js (jand Z Z) (jn (jx ?_)))
 refine jif Z (fun hc7=>?_) (fun hc7=>?_)
 have hcx:((0≤ix (ix f.Blocks (Int.toNat (ix l i))).Term.To j∧ix (ix f.Blocks (Int.toNat (ix l i))).Term.To j<se2.length)∧ix se2 (Int.toNat (ix (ix f.Blocks (Int.toNat (ix l i))).Term.To j))=false∧ix (ix f.Blocks (Int.toNat (ix l i))).Term.To j≠without):=by simpa[and_assoc] using hc7
 refine jq (jr (jm Z (jm Z (jm Z (js (jix U22 Z3 d0 Z Z Z (by omega)) (js (jlI (dix d0 j (by omega)) O3 Z) (js (jig (i:=(Int.toNat (ix (((ix f.Blocks (Int.toNat (ix l i))).Term).To) j))) U129 Z4 k1 Z Z (by omega) (by omega)) (jsg k1 Z Z4 Z Z Z (by omega) wB (jn (jx (jr ?_)))))))))))
 refine jm Z (jm Z (jm Z (js (jix U22 Z3 d0 Z Z Z (by omega)) (js (jlI (dix d0 j (by omega)) O3 Z) (japv U22 I3 (by decide) Z Z k1 Z (wI (wad (dix d0 j (by omega)))) (by omega) (fun _=>Z) fun v94_13 _ w14=>ja Z (jn (jbn (jx (jr (jm Z ?_))))))))))
 refine js (jadd Z Z (by omega)) (ja Z (jn ?_))
 exact jag (j+1,List.set se2 (Int.toNat (ix (((ix f.Blocks (Int.toNat (ix l i))).Term).To) j)) true,l2++[ix (((ix f.Blocks (Int.toNat (ix l i))).Term).To) j],v94_13) ⟨by dsimp only;omega,b3In_new (by omega) hIn hcx,by dsimp only;have h9:=cnt3_set (l:=se2) (i:=Int.toNat (ix (ix f.Blocks (Int.toNat (ix l i))).Term.To j)) (by omega) hcx.2.1;rw[List.length_append];simp;omega,by dsimp only;rw[List.length_set];exact hse2,by dsimp only;intro x hx9;rcases List.mem_append.1 hx9 with h9|h9;(· exact hq2 x h9);(simp at h9;subst h9;omega),by dsimp only;rw[List.length_append];omega⟩ (dc d0 (dc d1 dn)) (kd (kc k0 kn)) ⟨Z,Z,Z,Z,Z,Z,Z,eqI (by omega),trivial⟩
 have hcx:¬((0≤ix (ix f.Blocks (Int.toNat (ix l i))).Term.To j∧ix (ix f.Blocks (Int.toNat (ix l i))).Term.To j<se2.length)∧ix se2 (Int.toNat (ix (ix f.Blocks (Int.toNat (ix l i))).Term.To j))=false∧ix (ix f.Blocks (Int.toNat (ix l i))).Term.To j≠without):=by rintro⟨⟨a1,a2⟩,a3,a4⟩;simp[a3,a4] at hc7;omega
 refine jsk (jbn (jx (jr (jm Z (js (jadd Z Z (by omega)) (ja Z (jn ?_)))))))
 exact jag (j+1,se2,l2,vl2) ⟨by dsimp only;omega,b3In_old (by omega) hIn hcx,hcn2,hse2,hq2,hi2⟩ (dc d0 (dc d1 dn)) (kd (kc k0 kn)) ⟨Z,Z,Z,Z,Z,Z,Z,eqI (by omega),trivial⟩
 refine jex (jtx (jtx (jbh (jbn (jx (jr (jm Z (js (jadd Z Z (by omega)) (ja Z (jn ?_))))))))))
 exact jag (i+1,se2,l2,vl2) ⟨by dsimp only;rw[hb,b3_step (by omega) (by omega) (show b3In _ _ _ _=(se2,l2) by rw[←hIn,List.drop_of_length_le (by omega)];rfl),show f.Blocks.length-i-1=f.Blocks.length-(i+1) by omega],by dsimp only;omega,by dsimp only;omega,hse2,hq2⟩ (dc d1 dn) (kd (kc k0 kn)) ⟨Z,Z,Z,Z,Z,eqI (by omega),trivial⟩
 refine jex (jtx (jtx (jbh (jx (jq (jr (jm Z (ja Z (jn (jx (jrt ?_)))))))))))
 exact jrG Z Z (by rw[hb];exact b3_end (by omega)) k1
abbrev U167:=@Tryz.underlying167
theorem A170:∃d,Tryz.prog.underlying 170=some d∧(match d with | .struct _ | .array _ _=>true|_=>false)=true:=⟨_,Tryz.underlying170,rfl⟩
theorem A62:∃d,Tryz.prog.underlying 62=some d∧(match d with | .struct _ | .array _ _=>true|_=>false)=true:=⟨_,Tryz.underlying62,rfl⟩
theorem F170_3:Fld Tryz.prog 170 3 3:=⟨_,_,Tryz.underlying170,rfl,rfl,1,(by unfold Sz;kernel_rfl),by decide⟩
theorem F62_0:Fld Tryz.prog 62 0 0:=⟨_,_,Tryz.underlying62,rfl,rfl,1,(by unfold Sz;kernel_rfl),by decide⟩
theorem F67_3:Fld Tryz.prog 67 3 3:=⟨_,_,Tryz.underlying67,rfl,rfl,1,(by unfold Sz;kernel_rfl),by decide⟩
theorem I170:(Tryz.prog.info? 170).map (fun i=>(i.zero,i.size,i.bytes))=some (some (.agg #[.int .i64 0,.int .i64 0,.slice none 0 0,.slice none 0 0]),4,64):=by kernel_rfl
theorem Z170:Sz Tryz.prog 170 4:=by unfold Sz;kernel_rfl
theorem J170:(Tryz.prog.info? 170).bind (·.zero)=some (.agg #[.int .i64 0,.int .i64 0,.slice none 0 0,.slice none 0 0]):=by kernel_rfl
theorem J62:(Tryz.prog.info? 62).bind (·.zero)=some (.agg #[.slice none 0 0,.slice none 0 0,.int .i64 0,.slice none 0 0,.slice none 0 0,.int .i32 0]):=by kernel_rfl
set_option maxRecDepth 8000 in
set_option maxHeartbeats 1000000 in
theorem r3things_ct{a0:Value}{f:D.Func}(hsz:cntT f.Blocks<1000000000):Td Tryz.prog 105 #[vFunc f a0] [da rFunc (vFunc f a0) f] [] (rL rTg3) (things3 f):=by
 refine jenter (args:=[vFunc f a0]) Tryz.func105 rfl rfl rfl fun w0 X=>?_
 have htl:=things3_len f
 refine jq (jr (jbox Z Z fun g1=>ja Z (jn (jx (jq (jr (jlit (r:=rTg3) (l:=[]) U167 I170 (by decide) Z Z Z ln fun g10=>ja Z (jn (jx ?_)))))))))
 refine jq (jq (jr (ja Z (jn (jx (jb ?_))))))
 refine jlp (u3 fun(k:Nat) (vo:Value) (out:List D.Tg3)=>⟨k≤f.Blocks.length∧things3 f=out++blL k (f.Blocks.drop k),[da rFunc (vFunc f a0) f],[gl X.n rTg3 170 vo out,bx g1 49 [.int .i64 f.Params,a0]],[(1,.pointer (some ⟨g1,0,none⟩)),(2,.slice none 0 0),(3,vo),(4,.int .i64 (↑k))],f.Blocks.length-k⟩) (0,(.slice (some ⟨g10,0,none⟩) 0 0),[]) ⟨Nat.zero_le _,rfl⟩ (dc d0 dn) (kd kn) ⟨Z,Z,Z,eqI (by omega),trivial⟩ ?_
 rintro⟨k,vo,out⟩;dsimp only[u3];rintro⟨hk,hB⟩
 refine cgo k0 fun w1=>?_
 have hpl1:=pre_len hB
 refine jq (jq (jr (jm Z (js (jf F49_1 Z) (js (jl k1 O47 Z Z) (jdq (rFunc.cB d0) fun q2 w2=>js (jln U47 (rFunc.cB d0) Z) (js (jlss Z Z) (jn (jx ?_)))))))))
 refine jif Z (fun hc1=>?_) (fun hc1=>?_)
 refine jsk (jx (jq (jb (jq (jr (js (jf F49_1 Z) (js (jl k1 O47 Z Z) (jm Z (js (jix U47 Z62 (rFunc.cB d0) Z Z Z (by omega)) (jA4 sBlock (jlA (dix (rFunc.cB d0) k (by omega)) A62 Z62 Z) fun c22a c22b c22c c22d=>jalc J62 Z fun g5=>?_))))))))))
 refine jdq (rBlock.cP d0) fun q4 w4=>jdq (rBlock.cI d0) fun q5 w5=>jdq (rBlock.c_Term_Args d0) fun q6 w6=>jdq (rBlock.c_Term_To d0) fun q7 w7=>jsta k0 Z62 Z Z Z ⟨w4.one,w5.one,Z,w6.one,w7.one,Z,trivial⟩ (saf Z) (jn (jx (jq (jq (jr (ja Z (jn ?_)))))))
 refine jx (jb ?_)
 refine jlp (u3 fun(i:Nat) (vp:Value) (out2:List D.Tg3)=>⟨i≤(ix f.Blocks k).Phis.length∧things3 f=out2++(phL k i ((ix f.Blocks k).Phis.drop i)++(inL k 0 (ix f.Blocks k).Ins++(enT k (ix f.Blocks k)::blL (k+1) (f.Blocks.drop (k+1))))),[da rBlock (vBlock (ix f.Blocks k) (c22a,c22b,c22c,c22d)) (ix f.Blocks k),da rFunc (vFunc f a0) f],[bx g5 62 [c22a,c22b,.int .i64 (((ix f.Blocks k).Term).Kind),c22c,c22d,.int .i32 (((ix f.Blocks k).Term).Imm)],gl X.n rTg3 170 vp out2,bx g1 49 [.int .i64 f.Params,a0]],[(1,.pointer (some ⟨g1,0,none⟩)),(2,.slice none 0 0),(3,vp),(4,.int .i64 (↑k)),(5,.pointer (some ⟨g5,0,none⟩)),(6,.int .i64 (↑i))],(ix f.Blocks k).Phis.length-i⟩) (0,vo,out) ⟨Nat.zero_le _,bl_0 (by omega) hB⟩ (dc d0 (dc d1 dn)) (kd (kc k0 kn)) ⟨Z,Z,Z,Z,Z,eqI (by omega),trivial⟩ ?_
 rintro⟨i,vp,out2⟩;dsimp only[u3];rintro⟨hi,hP⟩
 refine cgo k1 fun w8=>?_
 have hpl2:=pre_len hP
 refine jq (jq (jr (jm Z (js (jf F62_0 Z) (js (jl k0 O57 Z Z) (js (jln U57 (rBlock.cP d0) Z) (js (jlss Z Z) (jn (jx ?_)))))))))
 refine jif Z (fun hc2=>?_) (fun hc2=>?_)
 refine jsk (jx (jq (jb (jq (jr (jm Z (jm Z (js (jsub Z Z (by omega)) (js (jf F62_0 Z) (js (jl k0 O57 Z Z) (jm Z ?_)))))))))))
 refine js (jix U57 Z65 (rBlock.cP d0) Z Z Z (by omega)) (js (jf F65_0 Z) (js (jlI (rPhi.A_Dst (dix (rBlock.cP d0) i (by omega))) O3 Z) (jlit (r:=(rI .i64)) (l:=[(ix ((ix f.Blocks k).Phis) i).Dst]) U22 I3 (by decide) Z Z Z (lV Z Z (wI (wad (rPhi.A_Dst (dix (rBlock.cP d0) i (by omega))))) ln) fun g39=>js (jbu (v := .agg #[.int .i64 (↑k),.int .i64 ((-1)-↑i),(.slice (some ⟨g39,0,none⟩) 1 1),.slice none 0 0]) Z (fun _=>by kernel_rfl)) (jalc J170 Z fun g7=>jsta k0 Z170 Z Z Z ⟨Z,Z,Z,Z,trivial⟩ (saf Z) (jn (jx (jq (jq (jr ?_)))))))))
 refine ja Z (jn (jx (jb (cnl (r:=(rI .i64)) (E:=3) ?_))))
 refine jlp (u3 fun(j:Nat) (ea:List Int) (ve:Value)=>⟨j≤(ix (ix f.Blocks k).Phis i).In.length∧ea=((ix (ix f.Blocks k).Phis i).In.take j).map (·.Val),[da rBlock (vBlock (ix f.Blocks k) (c22a,c22b,c22c,c22d)) (ix f.Blocks k),da rFunc (vFunc f a0) f],[gl X.n (rI .i64) 3 ve ea,bx g7 170 [.int .i64 (↑k),.int .i64 ((-1)-↑i),(.slice (some ⟨g39,0,none⟩) 1 1),ve],gl X.n (rI .i64) 3 (.slice (some ⟨g39,0,none⟩) 1 1) ([(ix ((ix f.Blocks k).Phis) i).Dst]),bx g5 62 [c22a,c22b,.int .i64 (((ix f.Blocks k).Term).Kind),c22c,c22d,.int .i32 (((ix f.Blocks k).Term).Imm)],gl X.n rTg3 170 vp out2,bx g1 49 [.int .i64 f.Params,a0]],[(1,.pointer (some ⟨g1,0,none⟩)),(2,.slice none 0 0),(3,vp),(4,.int .i64 (↑k)),(5,.pointer (some ⟨g5,0,none⟩)),(6,.int .i64 (↑i)),(7,.pointer (some ⟨g7,0,none⟩)),(8,.int .i64 (↑j))],(ix (ix f.Blocks k).Phis i).In.length-j⟩) (0,[],.slice none 0 0) ⟨Nat.zero_le _,rfl⟩ (dc d0 (dc d1 dn)) (kd (kd (kd kn))) ⟨Z,Z,Z,Z,Z,Z,Z,eqI (by omega),trivial⟩ ?_
 rintro⟨j,ea,ve⟩;dsimp only[u3];rintro⟨hj,hea⟩
 refine cgo k0 fun w9=>?_
 have hel:ea.length=j:=by rw[hea];simp;omega
 refine jq (jq (jr (jm Z (js (jf F62_0 Z) (js (jl k3 O57 Z Z) (jm Z (js (jix U57 Z65 (rBlock.cP d0) Z Z Z (by omega)) (js (jf F65_1 Z) (jev (jlV (rPhi.A_In (dix (rBlock.cP d0) i (by omega))) O63 Z Z) fun v47 q10 w10=>js (jln U63 d0 Z) (js (jlss Z Z) ?_))))))))))
 refine jn (jx ?_)
 refine jif Z (fun hc3=>?_) (fun hc3=>?_)
 refine jsk (jx (jq (jb (jany true (.a 0 (.a 1 (.a 2 (.a 3 (.a 4 (.a 5 (.a 6 (.a 7 (.a 8 (.a 9 (.a 10 (.a 11 (.o 12 (.o 13 (.a 14 (.o 15 .e)))))))))))))))) Mixed (by kernel_rfl) (kc k1 (kc k2 kn)) fun F12=>jy Z (jf F170_3 Z) (jy Z (jl k0 O22 Z Z) (jy Z (jf F62_0 Z) (jy Z (jl k1 O57 Z Z) (jy Z (jmv Z) (jy Z (jix U57 Z65 (rBlock.cP d1) Z Z Z (by omega)) (jy Z (jf F65_1 Z) ?_))))))))))
 refine jye (q:=fun v=>dv (rL rIn) v ((ix ((ix f.Blocks k).Phis) i).In)) Z (xlV (rPhi.A_In (dix (rBlock.cP d1) i (by omega))) O63 Z Z) fun v59=>jy Z (jmv Z) (adq d0 fun q14 w14=>jy Z (jix U63 Z111 d0 Z Z Z (by omega)) (jy Z (jf F111_1 Z) (jy Z (jlI (rIn.A_Val (dix d0 j (by omega))) O3 Z) (jyo Z (jlit (r:=(rI .i64)) (l:=[(ix ((ix ((ix f.Blocks k).Phis) i).In) j).Val]) U22 I3 (by decide) Z Z Z (lV Z Z (wI (wad (rIn.A_Val (dix d1 j (by omega))))) ln) fun g64=>jyn d0 (kc k2 (kc k3 kn)) (jyo Z (jfz k0 (by(try simp)<;>omega) (japl U22 I3 (by decide) Z k0 Z Z d0 (by(try simp)<;>omega) fun v65 w18=>?_))))))))
 refine jyn d1 (kc k1 (kc k2 kn)) (jy Z (jf F170_3 Z) (jyo Z (jst k1 Z22 Z Z w18.one s3 (jyz d0 (jyd (jbn (jx (jr (jm Z (js (jadd Z Z (by omega)) (ja Z ?_)))))))))))
 refine jn ?_
 exact jag (j+1,ea++([(ix ((ix ((ix f.Blocks k).Phis) i).In) j).Val]),v65) ⟨by dsimp only;omega,by dsimp only;rw[hea,map_snoc (by omega)]⟩ (dc d6 (dc d7 dn)) (kc k1 (kd (kd (kc k0 kn)))) ⟨Z,Z,Z,Z,Z,Z,Z,eqI (by omega),trivial⟩
 refine jex (jtx (jtx (jbh (jx (jr (jm Z (js (jla k1 A170 Z170 Z Z Z) (jfz k2 (by(try simp)<;>omega) (jfz k0 (by omega) (jap U167 I170 (by decide) Z k2 Z (rTg3.M (m:=⟨↑k,(-1)-↑i,[(ix ((ix f.Blocks k).Phis) i).Dst],ea⟩) (c:=((.slice (some ⟨g39,0,none⟩) 1 1),ve)) d1 d0 (wp (IntWalk.i64_in ↑k (by omega))) (wp (IntWalk.i64_in ((-1)-↑i) (by omega)))) (by omega) (fun _=>Z) fun v70 _ w22=>ja Z ?_))))))))))
 refine jn (jbn (jx (jr (jm Z (js (jadd Z Z (by omega)) (ja Z (jn ?_)))))))
 exact jag (i+1,v70,out2++[⟨((k:Nat):Int),(-1)-((i:Nat):Int),[(ix ((ix f.Blocks k).Phis) i).Dst],ea⟩]) ⟨by dsimp only;omega,by dsimp only;rw[show ea=(ix (ix f.Blocks k).Phis i).In.map (·.Val) by rw[hea,List.take_of_length_le (by omega)]];exact ph_1 (by omega) hP⟩ (dc d3 (dc d4 dn)) (kc k2 (kc k0 (kc k1 kn))) ⟨Z,Z,Z,Z,Z,eqI (by omega),trivial⟩
 refine jex (jtx (jtx (jbh (jx (jq (jq (jr (ja Z (jn (jx (jb ?_)))))))))))
 refine jlp (u3 fun(j:Nat) (vq:Value) (out4:List D.Tg3)=>⟨j≤(ix f.Blocks k).Ins.length∧things3 f=out4++(inL k j ((ix f.Blocks k).Ins.drop j)++(enT k (ix f.Blocks k)::blL (k+1) (f.Blocks.drop (k+1)))),[da rBlock (vBlock (ix f.Blocks k) (c22a,c22b,c22c,c22d)) (ix f.Blocks k),da rFunc (vFunc f a0) f],[bx g5 62 [c22a,c22b,.int .i64 (((ix f.Blocks k).Term).Kind),c22c,c22d,.int .i32 (((ix f.Blocks k).Term).Imm)],gl X.n rTg3 170 vq out4,bx g1 49 [.int .i64 f.Params,a0]],[(1,.pointer (some ⟨g1,0,none⟩)),(2,.slice none 0 0),(3,vq),(4,.int .i64 (↑k)),(5,.pointer (some ⟨g5,0,none⟩)),(9,.int .i64 (↑j))],(ix f.Blocks k).Ins.length-j⟩) (0,vp,out2) ⟨Nat.zero_le _,ph_2 (by omega) hP⟩ (dc d0 (dc d1 dn)) (kd (kc k0 kn)) ⟨Z,Z,Z,Z,Z,eqI (by omega),trivial⟩ ?_
 rintro⟨j,vq,out4⟩;dsimp only[u3];rintro⟨hj,hI⟩
 refine cgo k1 fun w23=>?_
 have hpl4:=pre_len hI
 refine jq (jq (jr (jm Z (js (jf F62_1 Z) (js (jl k0 O58 Z Z) (js (jln U58 (rBlock.cI d0) Z) (js (jlss Z Z) (jn (jx ?_)))))))))
 refine jif Z (fun hc4=>?_) (fun hc4=>?_)
 refine jsk (jx (jq (jb (jany false (.a 0 (.a 1 (.a 2 (.a 3 (.a 4 (.a 5 (.a 6 (.a 7 (.a 9 (.a 10 (.a 11 (.a 12 (.a 13 (.a 14 (.o 8 (.a 15 (.o 16 (.o 17 (.a 18 .e))))))))))))))))))) Mixed (by kernel_rfl) (kc k0 kn) fun F24=>jy Z (jmv Z) (jy Z (jmv Z) (jy Z (jmv Z) (jy Z (jf F62_1 Z) (jy Z (jl k0 O58 Z Z) (jy Z (jmv Z) (jy Z (jix U58 Z67 (rBlock.cI d0) Z Z Z (by omega)) ?_))))))))))
 refine jyA sIns Z (xlA (dix (rBlock.cI d0) j (by omega)) A67 Z67 Z) fun c85=>jy Z (jf F62_1 Z) (jy Z (jl k0 O58 Z Z) (jy Z (jmv Z) (jy Z (jix U58 Z67 (rBlock.cI d1) Z Z Z (by omega)) (jy Z (jf F67_3 Z) (jye (q:=fun v=>dv (rL (rI .i64)) v ((ix ((ix f.Blocks k).Ins) j).Args)) Z (xlV (rIns.A_Args (dix (rBlock.cI d1) j (by omega))) O22 Z Z) fun v92=>jyo Z (jcd E66 Z Z r3makes_ct (dc d2 dn) kn fun v86 q28 w28=>jyn d1 (kc k0 kn) (adq d2 fun q30 w30=>jy Z (jbu (v := .agg #[.int .i64 (↑k),.int .i64 (↑j),v86,v92]) Z (fun _=>by obtain⟨_,_,_,rfl⟩:=w28;obtain⟨_,_,_,rfl⟩:=w30;kernel_rfl)) ?_)))))))
 refine jyo Z (jlit (r:=rTg3) (l:=[⟨↑k,↑j,makes3 (ix ((ix f.Blocks k).Ins) j),(ix ((ix f.Blocks k).Ins) j).Args⟩]) U167 I170 (by decide) Z Z Z (lA (rTg3.M (m:=⟨↑k,↑j,makes3 (ix ((ix f.Blocks k).Ins) j),(ix ((ix f.Blocks k).Ins) j).Args⟩) (c:=(v86,v92)) d1 d3 (wp (IntWalk.i64_in ↑k (by omega))) (wp (IntWalk.i64_in ↑j (by omega)))) ln) fun g94=>jyn d0 (kc k1 kn) (jyo Z (jfz k0 (by(try simp)<;>omega) (japl U167 I170 (by decide) Z k1 Z Z d0 (by(try simp)<;>omega) fun v95 w34=>jyn d1 (kc k1 kn) (jy Z (jas Z) (jyd (jbn (jx (jr ?_)))))))))
 refine jm Z (js (jadd Z Z (by omega)) (ja Z (jn ?_)))
 exact jag (j+1,v95,out4++([⟨((k:Nat):Int),((j:Nat):Int),makes3 (ix ((ix f.Blocks k).Ins) j),(ix ((ix f.Blocks k).Ins) j).Args⟩])) ⟨by dsimp only;omega,by dsimp only;exact in_1 (by omega) hI⟩ (dc d7 (dc d8 dn)) (kc k1 (kd kn)) ⟨Z,Z,Z,Z,Z,eqI (by omega),trivial⟩
 refine jex (jtx (jtx (jbh (jx (jr (jm Z (jm Z (js (jf F62_1 Z) (js (jl k0 O58 Z Z) (js (jln U58 (rBlock.cI d0) Z) (js (jf F62_2 Z) ?_)))))))))))
 refine js (jf F60_1 Z) (js (jl k0 O22 Z Z) (js (jbu (v := .agg #[.int .i64 (↑k),.int .i64 (↑(List.length ((ix f.Blocks k).Ins))),.slice none 0 0,c22c]) Z (fun _=>by obtain⟨_,_,_,rfl⟩:=w6;kernel_rfl)) (jap U167 I170 (by decide) Z k1 Z (rTg3.M (m:=⟨↑k,↑(List.length ((ix f.Blocks k).Ins)),[],((ix f.Blocks k).Term).Args⟩) (c:=(.slice none 0 0,c22c)) wN (rBlock.c_Term_Args d0) (wp (IntWalk.i64_in ↑k (by omega))) (wp (IntWalk.i64_in (↑(List.length ((ix f.Blocks k).Ins))) (by omega)))) (by omega) (fun _=>Z) fun v106 _ w35=>ja Z (jn (jbn (jx (jr (jm Z (js (jadd Z Z (by omega)) (ja Z ?_))))))))))
 refine jn ?_
 exact jag (k+1,v106,out4++[⟨((k:Nat):Int),((List.length ((ix f.Blocks k).Ins):Nat):Int),[],((ix f.Blocks k).Term).Args⟩]) ⟨by dsimp only;omega,by dsimp only;exact bl_1 (in_2 (by omega) hI)⟩ (dc d1 dn) (kc k0 (kc k1 kn)) ⟨Z,Z,Z,eqI (by omega),trivial⟩
 refine jex (jtx (jtx (jbh (jx (jq (jr (jm Z (ja Z (jn (jx (jrt ?_)))))))))))
 refine qfz k0 (by omega) ?_
 exact jrD Z Z (by rw[hB,List.drop_of_length_le (by omega)];simp[blL]) d0
theorem A49:∃d,Tryz.prog.underlying 49=some d∧(match d with | .struct _ | .array _ _=>true|_=>false)=true:=⟨_,Tryz.underlying49,rfl⟩
theorem E105:Ent Tryz.prog 105:=⟨_,Tryz.func105,by kernel_rfl,by kernel_rfl⟩
theorem E65:Ent Tryz.prog 65:=⟨_,Tryz.func65,by kernel_rfl,by kernel_rfl⟩
theorem F170_0:Fld Tryz.prog 170 0 0:=⟨_,_,Tryz.underlying170,rfl,rfl,1,(by unfold Sz;kernel_rfl),by decide⟩
theorem F170_2:Fld Tryz.prog 170 2 2:=⟨_,_,Tryz.underlying170,rfl,rfl,1,(by unfold Sz;kernel_rfl),by decide⟩
theorem F49_0:Fld Tryz.prog 49 0 0:=⟨_,_,Tryz.underlying49,rfl,rfl,1,(by unfold Sz;kernel_rfl),by decide⟩
theorem Z49:Sz Tryz.prog 49 2:=by unfold Sz;kernel_rfl
theorem J31:(Tryz.prog.info? 31).bind (·.zero)=some (.agg #[.slice none 0 0,.slice none 0 0,.slice none 0 0,.int .i64 0]):=by kernel_rfl
theorem ix_set{α:Type}[Inhabited α]{l:List α}{i j:Nat}{a:α}(hj:j<l.length):ix (l.set j a) i=if i=j then a else ix l i:=by
 by_cases h:i=j
 ·subst h;rw[if_pos rfl];simp[ix,hj]
 ·rw[if_neg h];simp[ix,List.getElem?_set_ne (Ne.symm h)]
def fnM(m:Mk):D.Func:=⟨m.par,m.bs⟩
def addP(b:Nat)(m:Mk):Mk:={ (freshS m) with bs:=(freshS m).bs.set b { (ix (freshS m).bs b) with Phis:=(ix (freshS m).bs b).Phis++[⟨m.nx,[]⟩] } }
def phiN(b:Nat):Nat→Mk→Mk
 | 0,m=>m
 | k+1,m=>phiN b k (addP b m)
def phiR(b:Nat)(ph:List Int)(m:Mk):List Int :=
 if 1<(pd3 (fnM m) b).length then ph.set b (tVV 4 m) else if tVV 6 m=0 then ph.set b 1 else ph
def phiS:Nat→Nat→List Int→Mk→List Int×Mk
 | 0,_,ph,m=>(ph,m)
 | k+1,b,ph,m=>phiS k (b+1) (phiR b ph m) (phiN b (ix (phiR b ph m) b).toNat (tSS m))
def awayL(f:D.Func)(a:Nat):List (List Bool):=(List.range a).map (fun(i:Nat)=>reach3 f (i:Int))
def okA(f:D.Func)(dn:List Bool)(b a:Nat):Bool:=decide (a=b)||(ix dn a||ix (reach3 f (a:Int)) b)
def readyF(f:D.Func)(dn:List Bool)(b a:Nat):Bool:=!(ix dn b)&&(List.range a).all (fun i=>okA f dn b i)
def skipA(f:D.Func)(dn:List Bool)(b a:Nat):Bool:=!(decide (a=b))&&(!(ix dn a)||ix (reach3 f (a:Int)) b)
def lvB(f:D.Func)(dn:List Bool)(b a:Nat):List Int:=if skipA f dn b a then [] else (ix f.Blocks a).Phis.map (·.Dst)++(ix f.Blocks a).Ins.flatMap makes3
def lvF(f:D.Func)(dn:List Bool)(b a:Nat):List Int:=numsL f.Params.toNat++(List.range a).flatMap (fun i=>lvB f dn b i)
def insN(b:Nat):Nat→Mk→Mk
 | 0,m=>m
 | k+1,m=>insN b k (insS b m)
def lvM(n b:Nat)(dn:List Bool)(m:Mk):Mk:={ m with lv:=lvF (fnM m) dn b n }
def blkM(n:Nat)(to:List (List Int))(b:Nat)(dn:List Bool)(m:Mk):Mk:=endS b (ix to b) (insN b (tVV 7 (lvM n b dn m)).toNat (tSS (lvM n b dn m)))
def rowS(n:Nat)(to:List (List Int)):Nat→Nat→List Bool→Mk→List Bool×Mk
 | 0,_,dn,m=>(dn,m)
 | k+1,b,dn,m=>if readyF (fnM m) dn b n then rowS n to k (b+1) (dn.set b true) (blkM n to b (dn.set b true) m) else rowS n to k (b+1) dn m
def turnS(n:Nat)(to:List (List Int)):Nat→List Bool→Mk→List Bool×Mk
 | 0,dn,m=>(dn,m)
 | k+1,dn,m=>turnS n to k (rowS n to n 0 dn m).1 (rowS n to n 0 dn m).2
theorem awayL_s(f:D.Func)(a:Nat):awayL f (a+1)=awayL f a++[reach3 f (a:Int)]:=by simp[awayL,List.range_succ]
theorem awayL_len(f:D.Func)(a:Nat):(awayL f a).length=a:=by simp[awayL]
theorem awayL_ix(f:D.Func){n a:Nat}(h:a<n):ix (awayL f n) a=reach3 f (a:Int):=by rw[ix_eq (by rw[awayL_len];exact h)];simp[awayL]
theorem rng_set{ph:List Int}{b:Nat}{x:Int}(h:∀j,0≤ix ph j∧ix ph j≤3)(hx:0≤x∧x≤3):∀j,0≤ix (ph.set b x) j∧ix (ph.set b x) j≤3:=by
 intro j
 by_cases e:b<ph.length
 ·rw[ix_set e];split
  ·exact hx
  ·exact h j
 ·rw[List.set_eq_of_length_le (by omega)];exact h j
theorem preds3_rng{f:D.Func}{b:Int}:∀x∈pd3 f b,0≤x∧x<f.Blocks.length:=by
 have:∀k,∀x∈predsT3 f.Blocks k b,0≤x∧x<k:=by
  intro k
  induction k with
  | zero=>intro x hx;cases hx
  | succ k ih =>
   intro x hx
   rw[predsT3] at hx
   rcases List.mem_append.1 hx with h|h
   ·have:=ih x h;omega
   ·split at h
    ·simp at h;subst h;omega
    ·cases h
 exact this _
theorem preds3_len(f:D.Func)(b:Int):(pd3 f b).length≤f.Blocks.length:=predsT3_len _ _ _
def phiOK(b:Nat)(ph:List Int)(m:Mk):Prop:=(∀j,(ix m.bs j).Phis.length=if j<b then (ix ph j).toNat else 0)∧∀j,b≤j→ix ph j=0
theorem addP_len{b:Nat}{m:Mk}(hb:b<m.bs.length)(j:Nat):(ix (addP b m).bs j).Phis.length=(ix m.bs j).Phis.length+if j=b then 1 else 0:=by
 show(ix (m.bs.set b _) j).Phis.length=_
 rw[ix_set hb]
 split
 ·rename_i e;subst e;simp[freshS]
 ·rfl
theorem phiN_len{b:Nat}:∀(k:Nat) (m:Mk),b<m.bs.length→∀j,(ix (phiN b k m).bs j).Phis.length=(ix m.bs j).Phis.length+if j=b then k else 0
 | 0,m,_,j=>by simp[phiN]
 | k+1,m,hb,j=>by
  rw[phiN,phiN_len k (addP b m) (by simpa[addP,freshS] using hb) j,addP_len hb]
  split<;>omega
theorem phi_step{b:Nat}{ph ph':List Int}{m:Mk}(h:phiOK b ph m)(hb:b<m.bs.length)(hl:b<ph.length)(hp:ph'=phiR b ph m):phiOK (b+1) ph' (phiN b (ix ph' b).toNat (tSS m)):=by
 have hne:∀j,j≠b→ix ph' j=ix ph j:=fun j hj=>by
  rw[hp];unfold phiR;(repeat' split)<;>first|rfl|(rw[ix_set hl,if_neg hj])
 refine⟨fun j=>?_,fun j hj=>by rw[hne j (by omega)];exact h.2 j (by omega)⟩
 rw[phiN_len _ _ (by exact hb) j]
 show(ix m.bs j).Phis.length+_=_
 rw[h.1 j]
 by_cases e:j=b
 ·subst e;rw[if_neg (by omega),if_pos rfl,if_pos (by omega)];omega
 ·rw[if_neg e,hne j e]
  by_cases e2:j<b
  ·rw[if_pos e2,if_pos (by omega)];rfl
  ·rw[if_neg e2,if_neg (by omega)]
theorem phiR_rng{b:Nat}{ph:List Int}{m:Mk}(h:∀j,0≤ix ph j∧ix ph j≤3):∀j,0≤ix (phiR b ph m) j∧ix (phiR b ph m) j≤3:=by
 have h4:=tV9 (n:=4) (by omega) m
 unfold phiR;split
 ·exact rng_set h (by omega)
 split
 ·exact rng_set h (by omega)
 ·exact h
theorem phiR_len{b:Nat}{ph:List Int}{m:Mk}:(phiR b ph m).length=ph.length:=by unfold phiR;(repeat' split)<;>simp
structure Mq where
 s:List Int
 k:Int
 nx:Int
 l:List D.Mach
def takeQV(n:Int)(m:Mq):Int:=Int.tmod (Int.tmod (if m.k<m.s.length then ix m.s m.k.toNat else 0) n+n) n
def takeQ(m:Mq):Mq:={ m with k:=m.k+1 }
def tempQ(m:Mq):Mq:={ m with nx:=m.nx+1 }
def putQ(i:D.Mach)(m:Mq):Mq:={ m with l:=m.l++[i] }
def copV(r:Int)(m:Mq):Int:=if 0<takeQV 4 m then r else m.nx
def copQ(r:Int)(m:Mq):Mq:=if 0<takeQV 4 m then takeQ m else putQ ⟨1,m.nx,0,r,0,0,0,[]⟩ (tempQ (takeQ m))
def smallQ(n:Int):Bool:=decide (-32768≤n)&&decide (n<32768)
def wordQ0(n:Int)(m:Mq):Mq:=if smallQ n then takeQ m else m
def wordQ(d n:Int)(m:Mq):Mq:=if smallQ n=true∧takeQV 2 m=0 then putQ ⟨3,d,0,0,0,0,n,[]⟩ (wordQ0 n m) else putQ ⟨4,d,0,0,0,0,n,[]⟩ (wordQ0 n m)
def opQ(x:D.Ins)(d a b:Int):D.Mach:=⟨x.Op-2+5,d,0,a,b,0,0,[]⟩
def two3(x:D.Ins)(a b:Int)(m:Mq):Mq :=
 if takeQV 6 m=0 then putQ ⟨18,x.Dst,0,m.nx+1,0,0,-100,[]⟩ (putQ ⟨18,m.nx+1,0,m.nx,0,0,100,[]⟩ (putQ (opQ x m.nx a b) (tempQ (tempQ (takeQ m)))))
 else if takeQV 6 m=1 then putQ ⟨20,x.Dst,0,m.nx,0,0,0,[]⟩ (putQ (opQ x m.nx a b) (tempQ (takeQ m)))
 else if takeQV 6 m=2∧x.Op=4 then putQ ⟨23,x.Dst,0,a,b,m.nx,0,[]⟩ (wordQ m.nx 0 (tempQ (takeQ m)))
 else putQ (opQ x x.Dst a b) (takeQ m)
def twoQ(x:D.Ins)(m:Mq):Mq:=two3 x (copV (ix x.Args 0) m) (copV (ix x.Args 1) (copQ (ix x.Args 0) m)) (copQ (ix x.Args 1) (copQ (ix x.Args 0) m))
def byteQ(n:Int):Bool:=decide (0≤n)&&decide (n≤255)
def memQ0(n:Int)(m:Mq):Mq:=if byteQ n then takeQ m else m
def mem2Q(x:D.Ins)(a:Int)(m:Mq):Mq :=
 if byteQ x.Imm=true∧0<takeQV 3 m then (if x.Op=15 then putQ ⟨24,x.Dst,0,a,0,0,x.Imm,[]⟩ (takeQ m) else putQ ⟨26,0,0,a,ix x.Args 1,0,x.Imm,[]⟩ (takeQ m))
 else if x.Op=15 then putQ ⟨25,x.Dst,0,a,m.nx,0,0,[]⟩ (wordQ m.nx x.Imm (tempQ (memQ0 x.Imm m)))
 else putQ ⟨27,0,0,a,m.nx,ix x.Args 1,0,[]⟩ (wordQ m.nx x.Imm (tempQ (memQ0 x.Imm m)))
def memQ(x:D.Ins)(m:Mq):Mq:=mem2Q x (copV (ix x.Args 0) m) (copQ (ix x.Args 0) m)
def insQ(x:D.Ins)(m:Mq):Mq :=
 if x.Op=1 then wordQ x.Dst x.Imm m
 else if x.Op=15∨x.Op=16 then memQ x m
 else if x.Op=17 then putQ ⟨28,x.Dst,0,0,0,0,x.Imm,x.Args⟩ m
 else if x.Op=18 then putQ ⟨29,x.Dst,x.Two,ix x.Args 0,ix x.Args 1,0,0,[]⟩ m
 else twoQ x m
def endQ(t:D.Term)(m:Mq):Mq :=
 if t.Kind=2 then (if 1<takeQV 4 m then takeQ m else wordQ m.nx 0 (tempQ (takeQ m)))
 else if t.Kind=4∧t.Args.length≠0 then copQ (ix t.Args 0) m
 else m
def okQ(nb c:Nat)(m:Mq):Prop:=(0≤m.k∧m.k≤c)∧(0≤m.nx∧m.nx≤nb+c)∧m.l.length≤c∧nb≤1000000
theorem okQ.mono{nb c c':Nat}{m:Mq}(h:okQ nb c m)(hc:c≤c'):okQ nb c' m:=by unfold okQ at *;omega
theorem okQ.setl{nb c c':Nat}{m:Mq}{x:List D.Mach}(h:okQ nb c m)(hx:x.length≤c')(hc:c≤c'):okQ nb c' { m with l:=x }:=⟨(h.mono hc).1,(h.mono hc).2.1,hx,h.2.2.2⟩
section
variable{nb c:Nat}{m:Mq}
end
abbrev okSq(nb c:Nat)(S:List Int)(m:Mq):Prop:=okQ nb c m∧m.s=S
theorem okSq.mono{nb c c':Nat}{S:List Int}{m:Mq}(h:okSq nb c S m)(hc:c≤c'):okSq nb c' S m:=⟨okQ.mono h.1 hc,h.2⟩
section
variable{P:Program}{Γ Γ' E D0:List Dt}{L M N:List Res}{e:Env}{X:Cx}{n:Fs}{w0:World}{Q:Exit→Act→World→Prop}{ops:Array Oper}{d:Nat}{ty:TypeId}{pos:String}{af:Array Edge}{rest:List Oper}{f:FuncId}{h:Operand}{xs:List Operand}{ws:List Value}{ts:Array TypeId}{g B nb c:Nat}{vs al val:Value}{S:List Int}{m st:Mq}
end
theorem F67_4:Fld Tryz.prog 67 4 4:=⟨_,_,Tryz.underlying67,rfl,rfl,1,(by unfold Sz;kernel_rfl),by decide⟩
abbrev U130:=@Tryz.underlying130
theorem E63:Ent Tryz.prog 63:=⟨_,Tryz.func63,by kernel_rfl,by kernel_rfl⟩
theorem I129:(Tryz.prog.info? 129).map (fun i=>(i.zero,i.size,i.bytes))=some (some (.slice none 0 0),1,24):=by kernel_rfl
theorem I62:(Tryz.prog.info? 62).map (fun i=>(i.zero,i.size,i.bytes))=some (some (.agg #[.slice none 0 0,.slice none 0 0,.int .i64 0,.slice none 0 0,.slice none 0 0,.int .i32 0]),6,112):=by kernel_rfl
theorem I65:(Tryz.prog.info? 65).map (fun i=>(i.zero,i.size,i.bytes))=some (some (.agg #[.int .i64 0,.slice none 0 0]),2,32):=by kernel_rfl
theorem O129:One Tryz.prog 129:=⟨_,Tryz.underlying129,rfl⟩
theorem Z129:Sz Tryz.prog 129 1:=by unfold Sz;kernel_rfl
theorem Z47:Sz Tryz.prog 47 1:=by unfold Sz;kernel_rfl
theorem Z57:Sz Tryz.prog 57 1:=by unfold Sz;kernel_rfl
theorem J49:(Tryz.prog.info? 49).bind (·.zero)=some (.agg #[.int .i64 0,.slice none 0 0]):=by kernel_rfl
def topL:List Int→Int→Int
 | [],t=>t
 | x::l,t=>topL l (if t≤x∧x<8192 then x+1 else t)
def topT:List D.Tg3→Int→Int
 | [],t=>t
 | x::l,t=>topT l (topL x.Makes t)
def top3(f:D.Func):Int:=topT (things3 f) (min (max f.Params 0) 8192)
theorem topL_rng:∀(l:List Int) (t:Int),0≤t∧t≤8192→0≤topL l t∧topL l t≤8192
 | [],_,h=>h
 | x::l,t,h=>by
  rw[topL];refine topL_rng l _ ?_
  split<;>omega
theorem topT_rng:∀(l:List D.Tg3) (t:Int),0≤t∧t≤8192→0≤topT l t∧topT l t≤8192
 | [],_,h=>h
 | x::l,t,h=>by rw[topT];exact topT_rng l _ (topL_rng _ _ h)
theorem top3_rng(f:D.Func):0≤top3 f∧top3 f≤8192:=topT_rng _ _ (by omega)
def goodI(i:D.Ins):Prop:=(0≤i.Op∧i.Op≤1000)∧(i.Op=1∨i.Op=17∨(i.Op=15∧1≤i.Args.length)∨2≤i.Args.length)
def goodT(t:D.Term):Prop:=(t.Kind≠2∨(1≤t.Args.length∧2≤t.To.length))∧(t.Kind≠3∨1≤t.Args.length)
def goodB(b:D.Block):Prop:=(∀i∈b.Ins,goodI i)∧goodT b.Term
def goodF(f:D.Func):Prop:=∀b∈f.Blocks,goodB b
theorem goodF.ins{f:D.Func}(h:goodF f){b j:Nat}(hb:b<f.Blocks.length)(hj:j<(ix f.Blocks b).Ins.length):(0≤(ix (ix f.Blocks b).Ins j).Op∧(ix (ix f.Blocks b).Ins j).Op≤1000)∧((ix (ix f.Blocks b).Ins j).Op=1∨(ix (ix f.Blocks b).Ins j).Op=17∨((ix (ix f.Blocks b).Ins j).Op=15∧1≤(ix (ix f.Blocks b).Ins j).Args.length)∨2≤(ix (ix f.Blocks b).Ins j).Args.length) :=
 (h _ (ix_mem hb)).1 _ (ix_mem hj)
set_option maxRecDepth 4000 in
theorem r3top_ct{a0:Value}{f:D.Func}(hsz:cntT f.Blocks<1000000000):Tv Tryz.prog 53 #[vFunc f a0] [da rFunc (vFunc f a0) f] [] (.int .i64 (top3 f)):=by
 refine jenter (args:=[vFunc f a0]) Tryz.func53 rfl rfl rfl fun w0 X=>?_
 have htl:=things3_len f
 refine jq (jr (jbox Z Z fun g1=>ja Z (jn (jx (jq (jr (js (jf F49_0 Z) (js (jl k0 O3 Z Z) (js (jmax Z Z) (js (jmin Z Z) ?_))))))))))
 refine ja Z (jn (jx (jq (jr (js (jla k0 A49 Z49 Z Z Z) (jcd E105 Z Z (r3things_ct (by omega)) (dc d0 dn) kn fun v12 q1 w1=>ja Z (jn (jx (jq (jq ?_))))))))))
 refine jr (ja Z (jn (jx (jb ?_))))
 refine jlp (u2 fun(k:Nat) (t:Int)=>⟨k≤(things3 f).length∧(0≤t∧t≤8192)∧top3 f=topT ((things3 f).drop k) t,[dv (rL rTg3) v12 (things3 f)],[],[(2,.int .i64 0),(3,.int .i64 t),(4,v12),(5,.int .i64 (↑k))],(things3 f).length-k⟩) (0,min (max f.Params 0) 8192) ⟨Nat.zero_le _,by dsimp only;omega,rfl⟩ (dc d0 dn) kn ⟨Z,eqI (by omega),Z,eqI (by omega),trivial⟩ ?_
 rintro⟨k,t⟩;dsimp only[u2];rintro⟨hk,ht,hT⟩
 refine jq (jq (jr (jm Z (jm Z (js (jln U167 d0 Z) (js (jlss Z Z) (jn (jx ?_))))))))
 refine jif Z (fun hc1=>?_) (fun hc1=>?_)
 refine jsk (jx (jq (jb (jq (jr (ja Z (jn (jx (jb ?_)))))))))
 refine jlp (u2 fun(j:Nat) (u:Int)=>⟨j≤(ix (things3 f) k).Makes.length∧(0≤u∧u≤8192)∧topL (ix (things3 f) k).Makes t=topL ((ix (things3 f) k).Makes.drop j) u,[dv (rL rTg3) v12 (things3 f)],[],[(2,.int .i64 0),(3,.int .i64 u),(4,v12),(5,.int .i64 (↑k)),(6,.int .i64 (↑j))],(ix (things3 f) k).Makes.length-j⟩) (0,t) ⟨Nat.zero_le _,ht,rfl⟩ (dc d0 dn) kn ⟨Z,eqI (by omega),Z,Z,eqI (by omega),trivial⟩ ?_
 rintro⟨j,u⟩;dsimp only[u2];rintro⟨hj,hu,hU⟩
 refine jq (jq (jr (jm Z (jm Z (jm Z (js (jix U167 Z170 d0 Z Z Z (by omega)) (js (jf F170_2 Z) (jev (jlV (rTg3.A_Makes (dix d0 k (by omega))) O22 Z Z) fun v24 q3 w3=>js (jln U22 d0 Z) (js (jlss Z Z) (jn ?_))))))))))
 refine jx ?_
 refine jif Z (fun hc2=>?_) (fun hc2=>?_)
 refine jsk (jx (jq (jb (jq (jr (jm Z (jm Z (js (jix U167 Z170 d1 Z Z Z (by omega)) (js (jf F170_2 Z) (jev (jlV (rTg3.A_Makes (dix d1 k (by omega))) O22 Z Z) fun v33 q5 w5=>jm Z ?_))))))))))
 refine js (jix U22 Z3 d0 Z Z Z (by omega)) (js (jlI (dix d0 j (by omega)) O3 Z) (jm Z (js (jgeq Z Z) (jm Z (jg Z Z (.t _) (fun hg=>jmv Z) (jg Z Z (.t _) (fun hg=>jmv Z) (jg Z Z (.t _) (fun hg=>jix U167 Z170 d2 (evg Z hg) (evg Z hg) Z (by first|omega|(simp at hg;omega)|(simp only[List.length_set];omega)|(simp;done))) (jg Z Z (.t _) (fun hg=>jf F170_2 (evg Z hg)) (jge (q:=fun v=>dv (rL (rI .i64)) v ((ix (things3 f) k).Makes)) Z Z (.t _) (fun hg=>jlV (rTg3.A_Makes (dix d2 k (by first|omega|(simp at hg;omega)|(simp only[List.length_set];omega)|(simp;done)))) O22 Z (evg Z hg)) fun v44=>jg Z Z (.t _) (fun hg=>jmv Z) (jg Z Z (.t _) (fun hg=>jix U22 Z3 (d0.on hg) (evg Z hg) (evg Z hg) Z (by first|omega|(simp at hg;omega)|(simp only[List.length_set];omega)|(simp;done))) ?_))))))))))
 refine jg Z Z (.t _) (fun hg=>jlI (dix (d0.on hg) j (by first|omega|(simp at hg;omega)|(simp only[List.length_set];omega)|(simp;done))) O3 (evg Z hg)) (jg Z Z (.t _) (fun hg=>jlss (evg Z hg) Z) (js (jand Z Z) (jn (jx ?_))))
 refine jif Z (fun hc3=>?_) (fun hc3=>?_)
 have hcc:(u≤ix (ix (things3 f) k).Makes j∧ix (ix (things3 f) k).Makes j<8192):=by simpa using hc3
 refine jr (jm Z (jm Z (js (jix U167 Z170 d3 Z Z Z (by omega)) (js (jf F170_2 Z) (jev (jlV (rTg3.A_Makes (dix d3 k (by omega))) O22 Z Z) fun v54 q8 w8=>jm Z (js (jix U22 Z3 d0 Z Z Z (by omega)) (js (jlI (dix d0 j (by omega)) O3 Z) (js (jadd Z Z (by omega)) (ja Z (jn ?_))))))))))
 refine jbn (jx (jr (jm Z (js (jadd Z Z (by omega)) (ja Z (jn ?_))))))
 exact jag (j+1,(ix ((ix (things3 f) k).Makes) j)+1) ⟨by dsimp only;omega,by dsimp only;omega,by dsimp only;rw[hU,drop_ix (l:=(ix (things3 f) k).Makes) (i:=j) (by omega),topL,if_pos hcc]⟩ (dc d4 dn) kn ⟨Z,eqI (by omega),Z,Z,eqI (by omega),trivial⟩
 have hcc:¬(u≤ix (ix (things3 f) k).Makes j∧ix (ix (things3 f) k).Makes j<8192):=by intro h9;simp at hc3;omega
 refine jsk (jbn (jx (jr (jm Z (js (jadd Z Z (by omega)) (ja Z (jn ?_)))))))
 exact jag (j+1,u) ⟨by dsimp only;omega,by dsimp only;omega,by dsimp only;rw[hU,drop_ix (l:=(ix (things3 f) k).Makes) (i:=j) (by omega),topL,if_neg hcc]⟩ (dc d3 dn) kn ⟨Z,Z,Z,Z,eqI (by omega),trivial⟩
 refine jex (jtx (jtx (jbh (jbn (jx (jr (jm Z (js (jadd Z Z (by omega)) (ja Z (jn ?_))))))))))
 exact jag (k+1,u) ⟨by dsimp only;omega,hu,by dsimp only;rw[hT,drop_ix (l:=(things3 f)) (i:=k) (by omega),topT,hU,List.drop_of_length_le (show(ix (things3 f) k).Makes.length≤j by omega)];rfl⟩ (dc d1 dn) kn ⟨Z,eqI (by omega),Z,eqI (by omega),trivial⟩
 refine jex (jtx (jtx (jbh (jx (jq (jr (jm Z (ja Z (jn (jx (jrt ?_)))))))))))
 exact jrI Z Z (by rw[hT,List.drop_of_length_le (by omega)];rfl)
theorem E53:Ent Tryz.prog 53:=⟨_,Tryz.func53,by kernel_rfl,by kernel_rfl⟩
def goodM(m:Mk):Prop:=∀b∈m.bs,goodB b
theorem goodB0:goodB default:=⟨fun _ h=>(List.not_mem_nil h).elim,⟨.inl (by decide),.inl (by decide)⟩⟩
theorem goodM.ix{m:Mk}(h:goodM m)(j:Nat):goodB (ix m.bs j):=by
 by_cases hj:j<m.bs.length
 ·exact h _ (ix_mem hj)
 ·have:JE.ix m.bs j=default:=by simp[JE.ix,hj]
  rw[this];exact goodB0
theorem goodM.set{m:Mk}(h:goodM m){j:Nat}{x:D.Block}(hx:goodB x):goodM { m with bs:=m.bs.set j x }:=fun b hb=>by
 rcases List.mem_or_eq_of_mem_set hb with h1|h1
 ·exact h b h1
 ·exact h1▸hx
section
variable{m:Mk}{b:Int}
end
def fgM(nb c:Nat)(m:Mk):Prop:=okM nb c m∧goodM m
theorem fgM.mono{nb c c':Nat}{m:Mk}(h:fgM nb c m)(hc:c≤c'):fgM nb c' m:=⟨h.1.mono hc,h.2⟩
def kzB(b:D.Block):Prop:=b.Ins=[]∧b.Term.Kind=0
theorem kzB.good{b:D.Block}(h:kzB b):goodB b:=⟨fun i hi=>(by rw[h.1] at hi;cases hi),⟨.inl (by rw[h.2];decide),.inl (by rw[h.2];decide)⟩⟩
def oneM(p:Int)(e:D.End)(l:List D.Mach):D.MFunc:=⟨p,[⟨[],l,e⟩]⟩
attribute [local irreducible] runM funcM oneM
end Go.Proofs.YtmfkkodnghambaaGreat
namespace Go.Proofs.YtmfkkodnghambaaGreat
open Go.JE
theorem ixd_set{l:List Bool}{i j:Nat}:ix (l.set j true) i=true→i=j∨ix l i=true:=by
 intro h
 by_cases hj:j<l.length
 ·rw[ix_set hj] at h;split at h;(· left;assumption);right;exact h
 ·rw[List.set_eq_of_length_le (by omega)] at h;exact .inr h
theorem ix_up{l:List Bool}{i j:Nat}(h:ix l i=true):ix (l.set j true) i=true:=by
 by_cases hj:j<l.length
 ·rw[ix_set hj];split;rfl;exact h
 ·rw[List.set_eq_of_length_le (by omega)];exact h
theorem ix_len{l:List Bool}{i:Nat}(h:ix l i=true):i<l.length:=by
 rcases Nat.lt_or_ge i l.length with h1|h1
 ·exact h1
 ·simp[ix,List.getD,List.getElem?_eq_none h1] at h
section
variable{w:Int}
theorem b3In_mono:∀(ts:List Int) (se:List Bool) (q:List Int) (j:Nat),ix se j=true→ix (b3In w se q ts).1 j=true
 | [],_,_,_,h=>h
 | t::ts,se,q,j,h=>by rw[b3In];split;exact b3In_mono ts _ _ j (ix_up h);exact b3In_mono ts _ _ j h
theorem b3In_app:∀(ts:List Int) (se:List Bool) (q:List Int),∃u,(b3In w se q ts).2=q++u
 | [],_,q=>⟨[],by simp[b3In]⟩
 | t::ts,se,q=>by
  rw[b3In];split
  ·obtain⟨u,h⟩:=b3In_app ts (se.set t.toNat true) (q++[t]);exact⟨t::u,by rw[h];simp⟩
  ·exact b3In_app ts se q
theorem b3In_cl:∀(ts:List Int) (se:List Bool) (q:List Int),∀t∈ts,0≤t→t<se.length→t≠w→ix (b3In w se q ts).1 t.toNat=true
 | [],_,_,t,h,_,_,_=>by cases h
 | y::ts,se,q,t,h,h0,h1,h2=>by
  rw[b3In]
  rcases List.mem_cons.1 h with rfl|h
  ·split
   ·exact b3In_mono ts _ _ _ (by rw[ix_set (by omega),if_pos rfl])
   ·rename_i h9
    refine b3In_mono ts _ _ _ ?_
    cases h8:ix se t.toNat with
    | true=>rfl
    | false=>exact absurd ⟨⟨h0,h1⟩,h8,h2⟩ h9
  ·split
   ·exact b3In_cl ts _ _ t h h0 (by simpa using h1) h2
   ·exact b3In_cl ts _ _ t h h0 h1 h2
theorem b3In_q:∀(ts:List Int) (se:List Bool) (q:List Int),(∀j:Nat,ix se j=true→(j:Int)∈q)→∀j:Nat,ix (b3In w se q ts).1 j=true→(j:Int)∈(b3In w se q ts).2
 | [],_,_,h,j,hj=>h j hj
 | t::ts,se,q,h,j,hj=>by
  rw[b3In] at hj ⊢
  split at hj
  ·rename_i h9
   rw[if_pos h9]
   refine b3In_q ts _ _ (fun i hi=>?_) j hj
   rcases ixd_set hi with e|e
   ·rw[e];simp;right;omega
   ·simp[h i e]
  ·rename_i h9
   rw[if_neg h9];exact b3In_q ts _ _ h j hj
theorem b3In_cnt:∀(ts:List Int) (se:List Bool) (q:List Int),(b3In w se q ts).2.length+cnt3 (b3In w se q ts).1=q.length+cnt3 se
 | [],_,_=>rfl
 | t::ts,se,q=>by
  rw[b3In];split
  ·rename_i h9
   rw[b3In_cnt ts]
   have:=cnt3_set (l:=se) (i:=t.toNat) (by omega) h9.2.1
   rw[List.length_append];simp;omega
  ·exact b3In_cnt ts _ _
end
theorem b3_cl{bs:List D.Block}{w:Int}:∀(f:Nat) (se:List Bool) (q:List Int) (i:Nat),bs.length≤f+i→se.length=bs.length→q.length+cnt3 se≤bs.length →
  (∀j:Nat,ix se j=true→(j:Int)∈q)→(∀j,j<i→j<q.length→∀t∈(ix bs (ix q j).toNat).Term.To,0≤t→t<bs.length→t≠w→ix se t.toNat=true) →
  (∀j,ix se j=true→ix (b3 bs w f se q i) j=true)∧∀x:Nat,ix (b3 bs w f se q i) x=true→∀t∈(ix bs x).Term.To,0≤t→t<bs.length→t≠w→ix (b3 bs w f se q i) t.toNat=true
 | 0,se,q,i,hf,hl,hc,hq,hp=>by
  refine⟨fun j h=>h,fun x hx t ht h0 h1 h2=>?_⟩
  obtain⟨j,hj,e⟩:=List.getElem_of_mem (hq x hx)
  have e2:ix q j=x:=by rw[ix_eq hj];exact e
  exact hp j (by omega) hj t (by rw[e2];simpa using ht) h0 h1 h2
 | f+1,se,q,i,hf,hl,hc,hq,hp=>by
  rw[b3]
  by_cases hi:i<q.length
  ·rw[if_pos hi]
   obtain⟨u,hu⟩:=b3In_app (w:=w) (ix bs (ix q i).toNat).Term.To se q
   have hcn:=b3In_cnt (w:=w) (ix bs (ix q i).toNat).Term.To se q
   obtain⟨a,b⟩:=b3_cl (bs:=bs) (w:=w) f (b3In w se q (ix bs (ix q i).toNat).Term.To).1 (b3In w se q (ix bs (ix q i).toNat).Term.To).2 (i+1) (by omega) (by rw[b3In_len];exact hl) (by omega)
    (b3In_q _ _ _ hq) (fun j hj hj2 t ht h0 h1 h2=>by
     rw[hu] at ht
     rcases Nat.lt_or_ge j i with h|h
     ·rw[ix_app (l:=q) (i:=j) (by omega)] at ht
      exact b3In_mono _ _ _ _ (hp j h (by omega) t ht h0 h1 h2)
     ·rw[show j=i by omega,ix_app hi] at ht
      exact b3In_cl _ _ _ t ht h0 (by omega) h2)
   exact⟨fun j hj=>a j (b3In_mono _ _ _ _ hj),b⟩
  ·rw[if_neg hi]
   refine⟨fun j h=>h,fun x hx t ht h0 h1 h2=>?_⟩
   obtain⟨j,hj,e⟩:=List.getElem_of_mem (hq x hx)
   have e2:ix q j=x:=by rw[ix_eq hj];exact e
   exact hp j (by omega) hj t (by rw[e2];simpa using ht) h0 h1 h2
theorem reach3_cl{f:D.Func}{w:Int}(hw:w≠0)(hn:0<f.Blocks.length):ix (reach3 f w) 0=true∧∀x:Nat,ix (reach3 f w) x=true→∀t∈(ix f.Blocks x).Term.To,0≤t→t<f.Blocks.length→t≠w→ix (reach3 f w) t.toNat=true:=by
 unfold reach3
 rw[if_pos ⟨hw,hn⟩]
 have h0:ix ((List.replicate f.Blocks.length false).set 0 true) 0=true:=by rw[ix_set (by simpa using hn),if_pos rfl]
 obtain⟨a,b⟩:=b3_cl (bs:=f.Blocks) (w:=w) f.Blocks.length ((List.replicate f.Blocks.length false).set 0 true) [0] 0 (by omega) (by simp)
  (by have:=cnt3_set (l:=List.replicate f.Blocks.length false) (i:=0) (by simpa using hn) (ix_rep _ _);rw[cnt3_rep] at this;simp;omega)
  (fun j hj=>by rcases ixd_set hj with e|e;(· subst e;simp);rw[ix_rep] at e;cases e) (fun j hj=>by omega)
 exact⟨a 0 h0,b⟩
def Parent(n:Nat)(to:Nat→List Int):Prop:=∀b:Nat,1≤b→b<n→∃p,p<b∧(b:Int)∈to p
theorem reach3_low{f:D.Func}(hP:Parent f.Blocks.length (fun j=>(ix f.Blocks j).Term.To)){a:Nat}:∀b:Nat,b<a→b<f.Blocks.length→ix (reach3 f (a:Int)) b=true:=by
 intro b
 induction b using Nat.strongRecOn with
 | ind b ih =>
  intro hb hn
  obtain⟨h0,hc⟩:=reach3_cl (f:=f) (w:=(a:Int)) (by omega) (by omega)
  rcases Nat.eq_zero_or_pos b with e|e
  ·subst e;exact h0
  ·obtain⟨p,hp,hm⟩:=hP b e hn
   have:=hc p (ih p hp (by omega) (by omega)) (b:Int) hm (by omega) (by omega) (by omega)
   simpa[reachedM] using this
def TR(n:Nat)(L:Nat)(to:List (List Int)):Prop:=to.length=n∧(∀j,(ix to j).length≤L)∧∀j,∀t∈ix to j,1≤t∧t<n
def PB(b:Int)(to:List (List Int)):Prop:=∀c:Nat,1≤c→(c:Int)<b→∃p,p<c∧(c:Int)∈ix to p
theorem TR.mono{n L M:Nat}{to:List (List Int)}(h:TR n L to)(hl:L≤M):TR n M to:=⟨h.1,fun j=>Nat.le_trans (h.2.1 j) hl,h.2.2⟩
theorem ix_put{to:List (List Int)}{p:Nat}{x:Int}(hp:p<to.length)(j:Nat):ix (to.set p (to.getD p []++[x])) j=if j=p then ix to p++[x] else ix to j:=by
 rw[ix_set hp];rfl
theorem TR.put{n L p:Nat}{to:List (List Int)}{x:Int}(h:TR n L to)(hp:p<n)(hx:1≤x∧x<n):TR n (L+1) (to.set p (to.getD p []++[x])):=by
 have hp':p<to.length:=by rw[h.1];exact hp
 refine⟨by rw[List.length_set];exact h.1,fun j=>?_,fun j t ht=>?_⟩
 ·rw[ix_put hp'];split
  ·rw[List.length_append];have:=h.2.1 p;simp;omega
  ·have:=h.2.1 j;omega
 ·rw[ix_put hp'] at ht;split at ht
  ·rcases List.mem_append.1 ht with h1|h1
   ·exact h.2.2 p t h1
   ·simp at h1;subst h1;exact hx
  ·exact h.2.2 j t ht
theorem mem_put{to:List (List Int)}{p j:Nat}{x y:Int}(hp:p<to.length)(h:y∈ix to j):y∈ix (to.set p (to.getD p []++[x])) j:=by
 rw[ix_put hp];split
 ·rename_i e;subst e;simp[h]
 ·exact h
theorem PB.put{to:List (List Int)}{b:Int}{p:Nat}{x:Int}(h:PB b to)(hp:p<to.length):PB b (to.set p (to.getD p []++[x])):=fun c h1 h2=>by
 obtain⟨q,h3,h4⟩:=h c h1 h2
 exact⟨q,h3,mem_put hp h4⟩
theorem PB.next{to:List (List Int)}{b:Int}{p:Nat}(h:PB b to)(hp:p<to.length)(hb:(p:Int)<b):PB (b+1) (to.set p (to.getD p []++[b])):=fun c h1 h2=>by
 by_cases e:(c:Int)=b
 ·refine⟨p,by omega,?_⟩
  rw[ix_put hp,if_pos rfl,e];simp
 ·exact h.put hp c h1 (by omega)
def gI(n:Int)(i:D.Ins):Prop:=(1≤i.Op∧i.Op≤18)∧(i.Op=1∨i.Op=17∨(i.Op=15∧1≤i.Args.length)∨2≤i.Args.length)∧i.Args.length≤4∧(∀a∈i.Args,0≤a∧a<n)∧(∀d∈makes3 i,0≤d∧d<n)∧(i.Op=18→i.Dst≠i.Two)
def gT(n:Int)(t:D.Term):Prop:=(1≤t.Kind∧t.Kind≤5)∧(∀a∈t.Args,0≤a∧a<n)∧(t.Kind=1→t.To.length=1)∧(t.Kind=2→t.To.length=2∧1≤t.Args.length)∧(t.Kind=3→2≤t.To.length∧t.To.length≤65∧1≤t.Args.length)∧(4≤t.Kind→t.To=[])
def gP(n:Int)(p:D.Phi):Prop:=(0≤p.Dst∧p.Dst<n)∧∀x∈p.In,0≤x.Val∧x.Val<n
def gB(n:Int)(x:D.Block):Prop:=(∀i∈x.Ins,gI n i)∧(∀p∈x.Phis,gP n p)∧(x.Term.Kind=0∨gT n x.Term)∧(x.Phis.map (·.Dst)).Nodup
def cI:List D.Block→Nat
 | []=>0
 | x::l=>x.Ins.length+cI l
theorem cI_set:∀{l:List D.Block} {j d:Nat} {b:D.Block},b.Ins.length≤(ix l j).Ins.length+d→cI (l.set j b)≤cI l+d
 | [],_,_,_,_=>by simp[cI]
 | x::l,0,_,b,h=>by rw[ix_zero] at h;rw[List.set_cons_zero,cI,cI];omega
 | x::l,j+1,d,b,h=>by rw[ix_cons] at h;rw[List.set_cons_succ,cI,cI];have:=cI_set (l:=l) h;omega
section
variable{n n':Int}
theorem gI.mono{i:D.Ins}(h:gI n i)(hn:n≤n'):gI n' i:=⟨h.1,h.2.1,h.2.2.1,fun a ha=>by have:=h.2.2.2.1 a ha;omega,fun a ha=>by have:=h.2.2.2.2.1 a ha;omega,h.2.2.2.2.2⟩
theorem gT.mono{t:D.Term}(h:gT n t)(hn:n≤n'):gT n' t:=⟨h.1,fun a ha=>by have:=h.2.1 a ha;omega,h.2.2⟩
theorem gP.mono{p:D.Phi}(h:gP n p)(hn:n≤n'):gP n' p:=⟨by have:=h.1;omega,fun x hx=>by have:=h.2 x hx;omega⟩
theorem gB.mono{x:D.Block}(h:gB n x)(hn:n≤n'):gB n' x:=⟨fun i hi=>(h.1 i hi).mono hn,fun i hi=>(h.2.1 i hi).mono hn,h.2.2.1.imp id (fun h=>h.mono hn),h.2.2.2⟩
end
structure RI(n b c:Nat)(to:List (List Int))(m:Mk):Prop where
 len:m.bs.length=n
 par:0≤m.par∧m.par≤4
 nx:m.par≤m.nx∧m.nx≤c
 cnt:cI m.bs≤c
 lv:∀x∈m.lv,0≤x∧x<m.nx
 blk:∀j,j<n→gB m.nx (ix m.bs j)
 tos:∀j,j<n→(ix m.bs j).Term.To=ix to j
 kd:∀j,j<b→j<n→(ix m.bs j).Term.Kind≠0
section
variable{n b c d:Nat}{to:List (List Int)}{m:Mk}
theorem RI.mono(h:RI n b c to m)(hc:c≤d):RI n b d to m:=⟨h.len,h.par,by have:=h.nx;omega,by have:=h.cnt;omega,h.lv,h.blk,h.tos,h.kd⟩
theorem RI.take(h:RI n b c to m):RI n b c to (tSS m):=⟨h.len,h.par,h.nx,h.cnt,h.lv,h.blk,h.tos,h.kd⟩
theorem RI.fresh(h:RI n b c to m):RI n b (c+1) to (freshS m) where
 len:=h.len
 par:=h.par
 nx:=by have:=h.nx;show m.par≤m.nx+1∧m.nx+1≤_;omega
 cnt:=by have:=h.cnt;show cI m.bs≤_;omega
 lv:=fun x hx=>by have:=h.lv x hx;show 0≤x∧x<m.nx+1;omega
 blk:=fun j hj=>(h.blk j hj).mono (by show m.nx≤m.nx+1;omega)
 tos:=h.tos
 kd:=h.kd
theorem RI.add{i:D.Ins}{j:Int}(h:RI n b c to m)(hj:0≤j∧j<n)(hi:gI m.nx i):RI n b (c+1) to (addS j i m) where
 len:=by show(m.bs.set _ _).length=n;rw[List.length_set];exact h.len
 par:=h.par
 nx:=by have:=h.nx;show m.par≤m.nx∧m.nx≤_;omega
 cnt:=by
  have h1:=cI_set (l:=m.bs) (j:=j.toNat) (d:=1) (b:={ (ix m.bs j.toNat) with Ins:=(ix m.bs j.toNat).Ins++[i] }) (by dsimp only;rw[List.length_append];exact Nat.le_refl _)
  have h2:=h.cnt
  show cI (m.bs.set _ _)≤_;omega
 lv:=fun x hx=>by
  rcases List.mem_append.1 (show x∈m.lv++makes3 i from hx) with h1|h1
  ·exact h.lv x h1
  ·exact hi.2.2.2.2.1 x h1
 blk:=fun q hq=>by
  show gB m.nx (ix (m.bs.set _ _) q)
  rw[ix_set (by rw[h.len];omega)];split
  ·have h1:=h.blk j.toNat (by omega)
   refine⟨fun y hy=>?_,h1.2⟩
   rcases List.mem_append.1 hy with h2|h2
   ·exact h1.1 y h2
   ·simp at h2;subst h2;exact hi
  ·exact h.blk q hq
 tos:=fun q hq=>by
  show(ix (m.bs.set _ _) q).Term.To=_
  rw[ix_set (by rw[h.len];omega)];split
  ·rename_i e;subst e;exact h.tos _ hq
  ·exact h.tos q hq
 kd:=fun q hb hq=>by
  show(ix (m.bs.set _ _) q).Term.Kind≠0
  rw[ix_set (by rw[h.len];omega)];split
  ·rename_i e;subst e;exact h.kd _ hb hq
  ·exact h.kd q hb hq
theorem gI_const{n v:Int}{x:Int}(h:0≤x∧x<n):gI n ⟨1,x,0,[],v⟩:=⟨(by dsimp only;omega),.inl rfl,Nat.zero_le _,fun a ha=>(by cases ha),fun a ha=>(by simp[makes3] at ha;subst ha;exact h),fun h=>(by simp at h)⟩
theorem gI_two{n op x a b v:Int}(hop:2≤op∧op≤14)(h:0≤x∧x<n)(ha:0≤a∧a<n)(hb:0≤b∧b<n):gI n ⟨op,x,0,[a,b],v⟩ :=
 ⟨(by dsimp only;omega),.inr (.inr (.inr (Nat.le_refl _))),(by show 2≤4;omega),fun y hy=>(by simp at hy;rcases hy with rfl|rfl<;>assumption),fun y hy=>(by
  have:makes3 ⟨op,x,0,[a,b],v⟩=[x]:=by unfold makes3;rw[if_neg (by dsimp only;omega),if_neg (by dsimp only;omega)]
  rw[this] at hy;simp at hy;subst hy;exact h),fun h=>(by dsimp only at h;omega)⟩
theorem RI.const{j v:Int}(h:RI n b c to m)(hj:0≤j∧j<n):RI n b (c+2) to (constS j v m):=h.fresh.add hj (gI_const (by have:=h.nx;have:=h.par;show 0≤m.nx∧m.nx<m.nx+1;omega))
theorem nx_const{j v:Int}:(constS j v m).nx=m.nx+1:=rfl
theorem RI.word(h:RI n b c to m):RI n b c to (wordS m):=h.take.take
theorem RI.value(h:RI n b c to m):RI n b c to (valueS m)∧(valueS m).nx=m.nx:=by unfold valueS;split;exact⟨h,rfl⟩;exact⟨h.take.take,rfl⟩
theorem RI.some0(h:RI n b c to m):RI n b c to (someM0 m)∧(someM0 m).nx=m.nx:=by
 unfold someM0;split
 ·exact⟨h.value.1.take,h.value.2⟩
 ·exact h.value
theorem RI.nn(h:RI n b c to m):0≤m.nx:=by have:=h.nx;have:=h.par;omega
theorem RI.some{j:Int}(h:RI n b c to m)(hj:0≤j∧j<n):RI n b (c+2) to (sS9 j m)∧m.nx≤(sS9 j m).nx∧0≤sV9 m∧sV9 m<(sS9 j m).nx:=by
 have h0:=h.some0
 have hn:=h.nn
 unfold sS9 sV9
 by_cases hc:someC m=true
 ·rw[if_pos hc,if_pos hc,nx_const]
  have:(wordS (someM0 m)).nx=m.nx:=h0.2
  exact⟨h0.1.word.const hj,by omega,by omega,by omega⟩
 ·rw[if_neg hc,if_neg hc]
  refine⟨h0.1.mono (by omega),by omega,?_⟩
  rw[h0.2]
  have hv:valueB m=true:=by
   cases h9:valueB m with
   | true=>rfl
   | false=>exact absurd (by unfold someC;rw[h9];rfl) hc
  have hl:m.lv.length≠0:=by unfold valueB at hv;simpa using hv
  unfold valueV
  rw[if_neg hl]
  have hr:0≤valueI m∧valueI m<m.lv.length:=by
   unfold valueI;split
   ·omega
   ·exact tV9 (by omega) m
  have:=h.lv _ (ix_mem (l:=m.lv) (i:=(valueI m).toNat) (by omega))
  exact this
theorem RI.me1{j:Int}(h:RI n b c to m)(hj:0≤j∧j<n):RI n b (c+12) to (mem1 j m).2∧m.nx≤(mem1 j m).2.nx∧0≤(mem1 j m).1∧(mem1 j m).1<(mem1 j m).2.nx:=by
 have h1:RI n b (c+2) to (constS j (IntKind.i32.wrap (tVV 9 m)) (tSS m)):=h.take.const hj
 have hn:=h.nn
 unfold mem1
 dsimp only
 split
 ·have h2:=h1.take.some hj
  have e2:(tSS (constS j (IntKind.i32.wrap (tVV 9 m)) (tSS m))).nx=m.nx+1:=rfl
  generalize tSS (constS j (IntKind.i32.wrap (tVV 9 m)) (tSS m))=m2 at h2 e2 ⊢
  have h3:=h2.1
  generalize sS9 j m2=m3 at h2 h3 ⊢
  have h4:RI n b (c+6) to (constS j 7 m3):=h3.const hj
  have e4:(constS j 7 m3).nx=m3.nx+1:=rfl
  generalize constS j 7 m3=m4 at h4 e4 ⊢
  have h6:RI n b (c+8) to (addS j ⟨5,m4.nx,0,[sV9 m2,m3.nx],0⟩ (freshS m4)):=h4.fresh.add hj (gI_two (by omega) (by show _∧_<m4.nx+1;omega) (by show _∧_<m4.nx+1;omega) (by show _∧_<m4.nx+1;omega))
  have e6:(addS j ⟨5,m4.nx,0,[sV9 m2,m3.nx],0⟩ (freshS m4)).nx=m4.nx+1:=rfl
  generalize addS j ⟨5,m4.nx,0,[sV9 m2,m3.nx],0⟩ (freshS m4)=m6 at h6 e6 ⊢
  have et:(tSS m).nx=m.nx:=rfl
  refine⟨(h6.fresh.add hj (gI_two (by omega) (by show _∧_<m6.nx+1;omega) (by show _∧_<m6.nx+1;omega) (by show _∧_<m6.nx+1;omega))).mono (by omega),?_,?_,?_⟩
  ·show m.nx≤m6.nx+1;omega
  ·show 0≤m6.nx;omega
  ·show m6.nx<m6.nx+1;omega
 ·refine⟨h1.take.mono (by omega),?_,?_,?_⟩
  ·show m.nx≤m.nx+1;omega
  ·show 0≤m.nx;omega
  ·show m.nx<m.nx+1;omega
theorem RI.me2(h:RI n b c to m):RI n b c to (mem2 m).2∧(mem2 m).2.nx=m.nx:=by
 unfold mem2;dsimp only;split
 ·exact⟨h.take.take.word,rfl⟩
 ·exact⟨h.take.take,rfl⟩
theorem RI.mem{j:Int}{st:Bool}(h:RI n b c to m)(hj:0≤j∧j<n):RI n b (c+15) to (memS j st m):=by
 have h1:=h.me1 hj
 have h2:=h1.1.me2
 unfold memS
 dsimp only
 have hn:=h2.1.nn
 split
 ·have h3:=h2.1.some hj
  exact h3.1.add hj ⟨(by dsimp only;omega),.inr (.inr (.inr (Nat.le_refl _))),(by show 2≤4;omega),fun y hy=>(by simp at hy;rcases hy with rfl|rfl<;>omega),fun y hy=>(by simp[makes3] at hy),fun h=>(by simp at h)⟩
 ·refine(h2.1.fresh.add hj ⟨(by dsimp only;omega),.inr (.inr (.inl ⟨rfl,Nat.le_refl _⟩)),(by show 1≤4;omega),fun y hy=>(by simp at hy;subst hy;show _∧_<_+1;omega),fun y hy=>(by simp[makes3] at hy;subst hy;show _∧_<_+1;omega),fun h=>(by simp at h)⟩).mono (by omega)
theorem RI.args{j:Int}(hj:0≤j∧j<n):∀(k:Nat) {c:Nat} (l:List Int) (m:Mk),RI n b c to m→(∀x∈l,0≤x∧x<m.nx)→RI n b (c+2*k) to (argsL j k l m).2∧m.nx≤(argsL j k l m).2.nx∧∀x∈(argsL j k l m).1,0≤x∧x<(argsL j k l m).2.nx
 | 0,_,l,m,h,hl=>⟨h,Int.le_refl _,hl⟩
 | k+1,c,l,m,h,hl=>by
  have h1:=h.some hj
  rw[argsL]
  obtain⟨a,d,e⟩:=RI.args hj k (l++[sV9 m]) (sS9 j m) h1.1 (fun x hx=>by
   rcases List.mem_append.1 hx with h2|h2
   ·have:=hl x h2;omega
   ·simp at h2;subst h2;omega)
  exact⟨a.mono (by omega),by omega,e⟩
theorem op_rng2{k:Int}(h:0≤k∧k<12):2≤ix [(2:Int),2,3,4,5,6,7,8,9,10,12,11] k.toNat∧ix [(2:Int),2,3,4,5,6,7,8,9,10,12,11] k.toNat≤14:=by
 have:∀i:Nat,i<12→2≤ix [(2:Int),2,3,4,5,6,7,8,9,10,12,11] i∧ix [(2:Int),2,3,4,5,6,7,8,9,10,12,11] i≤14:=by decide
 exact this _ (by omega)
theorem op3_rng2{k:Int}(h:0≤k∧k<3):2≤ix [(11:Int),12,13] k.toNat∧ix [(11:Int),12,13] k.toNat≤14:=by
 have:∀i:Nat,i<3→2≤ix [(11:Int),12,13] i∧ix [(11:Int),12,13] i≤14:=by decide
 exact this _ (by omega)
theorem RI.ins{j:Int}(h:RI n b c to m)(hj:0≤j∧j<n):RI n b (c+16) to (insS j m):=by
 have hn:=h.nn
 have hk:=tV9 (n:=20) (by omega) m
 have h1:RI n b c to (tSS m):=h.take
 have e1:(tSS m).nx=m.nx:=rfl
 have h2:=h1.some hj
 have h3:=h2.1.some hj
 unfold insS
 dsimp only
 generalize tVV 20 m=k at hk ⊢
 generalize tSS m=m1 at h1 e1 h2 h3 ⊢
 split
 ·split
  ·have h4:RI n b (c+6) to (constS j (IntKind.i32.wrap (tVV 40 (tSS (sS9 j (sS9 j m1)))-8)) (tSS (tSS (sS9 j (sS9 j m1))))):=h3.1.take.take.const hj
   have e4:(constS j (IntKind.i32.wrap (tVV 40 (tSS (sS9 j (sS9 j m1)))-8)) (tSS (tSS (sS9 j (sS9 j m1))))).nx=(sS9 j (sS9 j m1)).nx+1:=rfl
   have e5:(tSS (tSS (sS9 j (sS9 j m1)))).nx=(sS9 j (sS9 j m1)).nx:=rfl
   generalize constS j (IntKind.i32.wrap (tVV 40 (tSS (sS9 j (sS9 j m1)))-8)) (tSS (tSS (sS9 j (sS9 j m1))))=m4 at h4 e4 ⊢
   exact(h4.fresh.add hj (gI_two (op_rng2 (by omega)) (by show _∧_<m4.nx+1;omega) (by show _∧_<m4.nx+1;omega) (by show _∧_<m4.nx+1;omega))).mono (by omega)
  ·have e5:(tSS (sS9 j (sS9 j m1))).nx=(sS9 j (sS9 j m1)).nx:=rfl
   exact(h3.1.take.fresh.add hj (gI_two (op_rng2 (by omega)) (by show _∧_<(sS9 j (sS9 j m1)).nx+1;omega) (by show _∧_<(sS9 j (sS9 j m1)).nx+1;omega) (by show _∧_<(sS9 j (sS9 j m1)).nx+1;omega))).mono (by omega)
 split
 ·exact(h3.1.fresh.add hj (gI_two (by omega) (by show _∧_<(sS9 j (sS9 j m1)).nx+1;omega) (by show _∧_<(sS9 j (sS9 j m1)).nx+1;omega) (by show _∧_<(sS9 j (sS9 j m1)).nx+1;omega))).mono (by omega)
 split
 ·have h4:RI n b (c+4) to (constS j (IntKind.i32.wrap (tVV 12 (sS9 j m1))) (tSS (sS9 j m1))):=h2.1.take.const hj
  have e4:(constS j (IntKind.i32.wrap (tVV 12 (sS9 j m1))) (tSS (sS9 j m1))).nx=(sS9 j m1).nx+1:=rfl
  have e9:(tSS (sS9 j m1)).nx=(sS9 j m1).nx:=rfl
  generalize constS j (IntKind.i32.wrap (tVV 12 (sS9 j m1))) (tSS (sS9 j m1))=m4 at h4 e4 ⊢
  split
  ·have h5:RI n b (c+6) to (constS j (IntKind.i32.wrap (1+IntKind.i32.wrap (tVV 12 (tSS m4)))) (tSS (tSS m4))):=h4.take.take.const hj
   have e5:(constS j (IntKind.i32.wrap (1+IntKind.i32.wrap (tVV 12 (tSS m4)))) (tSS (tSS m4))).nx=m4.nx+1:=rfl
   have e6:(tSS (tSS m4)).nx=m4.nx:=rfl
   generalize constS j (IntKind.i32.wrap (1+IntKind.i32.wrap (tVV 12 (tSS m4)))) (tSS (tSS m4))=m5 at h5 e5 ⊢
   exact(h5.fresh.add hj (gI_two (by omega) (by show _∧_<m5.nx+1;omega) (by show _∧_<m5.nx+1;omega) (by show _∧_<m5.nx+1;omega))).mono (by omega)
  ·have e6:(tSS m4).nx=m4.nx:=rfl
   exact(h4.take.fresh.add hj (gI_two (by omega) (by show _∧_<m4.nx+1;omega) (by show _∧_<m4.nx+1;omega) (by show _∧_<m4.nx+1;omega))).mono (by omega)
 split
 ·exact(h1.mem hj).mono (by omega)
 split
 ·have h5:=tV9 (n:=5) (by omega) m1
  obtain⟨a,d,e⟩:=RI.args hj (tVV 5 m1).toNat [] (tSS m1) h1.take (fun x hx=>by cases hx)
  have hl:=args_len (b:=j) (tVV 5 m1).toNat [] (tSS m1)
  have hn2:=a.nn
  generalize argsL j (tVV 5 m1).toNat [] (tSS m1)=r at a d e hl hn2 ⊢
  refine((a.fresh.take).add hj ⟨(by dsimp only;omega),.inr (.inl rfl),(by dsimp only;rw[hl];simp;omega),fun y hy=>?_,fun y hy=>?_,fun h=>(by simp at h)⟩).mono (by omega)
  ·have:=e y hy;show _∧_<r.2.nx+1;omega
  ·simp[makes3] at hy;subst hy;show 0≤r.2.nx∧r.2.nx<r.2.nx+1;omega
 split
 ·refine(h3.1.fresh.fresh.add hj ⟨(by dsimp only;omega),.inr (.inr (.inr (Nat.le_refl _))),(by show 2≤4;omega),fun y hy=>?_,fun y hy=>?_,fun _=>?_⟩).mono (by omega)
  ·simp at hy;show _∧_<(sS9 j (sS9 j m1)).nx+1+1
   rcases hy with rfl|rfl<;>omega
  ·simp[makes3] at hy;show _∧_<(sS9 j (sS9 j m1)).nx+1+1
   have e:(freshS (sS9 j (sS9 j m1))).nx=(sS9 j (sS9 j m1)).nx+1:=rfl
   rcases hy with rfl|rfl<;>omega
  ·show(sS9 j (sS9 j m1)).nx≠(sS9 j (sS9 j m1)).nx+1;omega
 ·exact(h1.word.const hj).mono (by omega)
theorem RI.setT{t:D.Term}(h:RI n b c to m)(hb:b<n)(ht:gT m.nx t)(hto:t.To=ix to b):RI n (b+1) c to (setT (b:Int) t m) where
 len:=by show(m.bs.set _ _).length=n;rw[List.length_set];exact h.len
 par:=h.par
 nx:=h.nx
 cnt:=by
  have h1:=cI_set (l:=m.bs) (j:=(b:Int).toNat) (d:=0) (b:={ (ix m.bs (b:Int).toNat) with Term:=t }) (by dsimp only;omega)
  have h2:=h.cnt
  show cI (m.bs.set _ _)≤_;omega
 lv:=h.lv
 blk:=fun q hq=>by
  show gB m.nx (ix (m.bs.set _ _) q)
  rw[ix_set (by rw[h.len];omega)];split
  ·have h1:=h.blk b hb
   exact⟨h1.1,h1.2.1,.inr ht,h1.2.2.2⟩
  ·exact h.blk q hq
 tos:=fun q hq=>by
  show(ix (m.bs.set _ _) q).Term.To=_
  rw[ix_set (by rw[h.len];omega)];split
  ·rename_i e;rw[e];exact hto
  ·exact h.tos q hq
 kd:=fun q hb' hq=>by
  show(ix (m.bs.set _ _) q).Term.Kind≠0
  rw[ix_set (by rw[h.len];omega)];split
  ·have:=ht.1;show t.Kind≠0;omega
  ·rename_i e;exact h.kd q (by simp at e;omega) hq
theorem RI.en(h:RI n b c to m)(hb:b<n)(hL:(ix to b).length≤65):RI n (b+1) (c+8) to (endS (b:Int) (ix to b) m):=by
 have hj:0≤(b:Int)∧(b:Int)<n:=by omega
 have hn:=h.nn
 unfold endS
 split
 ·rename_i h0
  have e0:ix to b=[]:=List.eq_nil_of_length_eq_zero h0
  split
  ·exact(h.take.take.setT hb ⟨(by dsimp only;omega),fun a ha=>(by cases ha),fun h=>(by simp at h),fun h=>(by simp at h),fun h=>(by simp at h),fun _=>rfl⟩ e0.symm).mono (by omega)
  split
  ·have h1:=h.take.some hj
   exact(h1.1.setT hb ⟨(by dsimp only;omega),fun a ha=>(by simp at ha;subst ha;omega),fun h=>(by simp at h),fun h=>(by simp at h),fun h=>(by simp at h),fun _=>rfl⟩ e0.symm).mono (by omega)
  ·exact(h.take.setT hb ⟨(by dsimp only;omega),fun a ha=>(by cases ha),fun h=>(by simp at h),fun h=>(by simp at h),fun h=>(by simp at h),fun _=>rfl⟩ e0.symm).mono (by omega)
 split
 ·rename_i h1
  exact(h.setT hb ⟨(by dsimp only;omega),fun a ha=>(by cases ha),fun _=>h1,fun h=>(by simp at h),fun h=>(by simp at h),fun h=>(by dsimp only at h;omega)⟩ rfl).mono (by omega)
 split
 ·rename_i h2
  have h3:=h.some hj
  dsimp only
  split
  ·have h4:=h3.1.take.some hj
   have e4:(tSS (sS9 (b:Int) m)).nx=(sS9 (b:Int) m).nx:=rfl
   have ht:=tV9 (n:=3) (by omega) (freshS (sS9 (b:Int) (tSS (sS9 (b:Int) m))))
   have h5:RI n b (c+6) to (addS (b:Int) ⟨ix [11,12,13] (tVV 3 (freshS (sS9 (b:Int) (tSS (sS9 (b:Int) m))))).toNat,(sS9 (b:Int) (tSS (sS9 (b:Int) m))).nx,0,[sV9 m,sV9 (tSS (sS9 (b:Int) m))],0⟩ (tSS (freshS (sS9 (b:Int) (tSS (sS9 (b:Int) m)))))) :=
    h4.1.fresh.take.add hj (gI_two (op3_rng2 ht) (by show _∧_<(sS9 (b:Int) (tSS (sS9 (b:Int) m))).nx+1;omega) (by show _∧_<(sS9 (b:Int) (tSS (sS9 (b:Int) m))).nx+1;omega) (by show _∧_<(sS9 (b:Int) (tSS (sS9 (b:Int) m))).nx+1;omega))
   refine(h5.setT hb ⟨(by dsimp only;omega),fun a ha=>?_,fun h=>(by simp at h),fun _=>⟨h2,Nat.le_refl _⟩,fun h=>(by simp at h),fun h=>(by dsimp only at h;omega)⟩ rfl).mono (by omega)
   simp at ha;subst ha
   show 0≤_∧_<(sS9 (b:Int) (tSS (sS9 (b:Int) m))).nx+1;omega
  ·refine(h3.1.take.setT hb ⟨(by dsimp only;omega),fun a ha=>?_,fun h=>(by simp at h),fun _=>⟨h2,Nat.le_refl _⟩,fun h=>(by simp at h),fun h=>(by dsimp only at h;omega)⟩ rfl).mono (by omega)
   simp at ha;subst ha
   show 0≤_∧_<(sS9 (b:Int) m).nx;omega
 ·rename_i h0 h1 h2
  have h3:=h.some hj
  dsimp only
  have h4:RI n b (c+4) to (constS (b:Int) 7 (sS9 (b:Int) m)):=h3.1.const hj
  have e4:(constS (b:Int) 7 (sS9 (b:Int) m)).nx=(sS9 (b:Int) m).nx+1:=rfl
  generalize constS (b:Int) 7 (sS9 (b:Int) m)=m4 at h4 e4 ⊢
  have h5:RI n b (c+6) to (addS (b:Int) ⟨5,m4.nx,0,[sV9 m,(sS9 (b:Int) m).nx],0⟩ (freshS m4)):=h4.fresh.add hj (gI_two (by omega) (by show _∧_<m4.nx+1;omega) (by show _∧_<m4.nx+1;omega) (by show _∧_<m4.nx+1;omega))
  refine(h5.setT hb ⟨(by dsimp only;omega),fun a ha=>?_,fun h=>(by simp at h),fun h=>(by simp at h),fun _=>⟨(by dsimp only;omega),hL,Nat.le_refl _⟩,fun h=>(by dsimp only at h;omega)⟩ rfl).mono (by omega)
  simp at ha;subst ha
  show 0≤m4.nx∧m4.nx<m4.nx+1;omega
end
section
variable{n b c d:Nat}{to:List (List Int)}{m:Mk}
theorem RI.is(hb:b<n):∀(k:Nat) {c:Nat} {m:Mk},RI n b c to m→RI n b (c+16*k) to (insN b k m)
 | 0,_,_,h=>h
 | k+1,_,_,h=>(RI.is hb k (h.ins (by omega))).mono (by omega)
theorem numsL_mem{k:Nat}{x:Int}(h:x∈numsL k):0≤x∧x<k:=by
 unfold numsL at h
 obtain⟨i,h1,rfl⟩:=List.mem_map.1 h
 have:=List.mem_range.1 h1;omega
theorem RI.lm{dn:List Bool}(h:RI n b c to m):RI n b c to (lvM n b dn m) where
 len:=h.len
 par:=h.par
 nx:=h.nx
 cnt:=h.cnt
 lv:=fun x hx=>by
  show 0≤x∧x<m.nx
  rcases List.mem_append.1 (show x∈numsL m.par.toNat++(List.range n).flatMap (fun i=>lvB (fnM m) dn b i) from hx) with h1|h1
  ·have:=numsL_mem h1;have:=h.nx;have:=h.par;omega
  ·obtain⟨a,h2,h3⟩:=List.mem_flatMap.1 h1
   have ha:=List.mem_range.1 h2
   have hg:=h.blk a ha
   unfold lvB at h3
   split at h3
   ·cases h3
   ·rcases List.mem_append.1 h3 with h4|h4
    ·obtain⟨p,h5,rfl⟩:=List.mem_map.1 h4
     exact(hg.2.1 p h5).1
    ·obtain⟨i,h5,h6⟩:=List.mem_flatMap.1 h4
     exact(hg.1 i h5).2.2.2.2.1 x h6
 blk:=h.blk
 tos:=h.tos
 kd:=h.kd
theorem RI.bl{dn:List Bool}(h:RI n b c to m)(hb:b<n)(hL:∀j,(ix to j).length≤65):RI n (b+1) (c+120) to (blkM n to b dn m):=by
 unfold blkM
 have h7:=tV9 (n:=7) (by omega) (lvM n b dn m)
 exact(((h.lm (dn:=dn)).take.is hb _).en hb (hL b)).mono (by omega)
theorem RI.parent(h:RI n b c to m)(hP:PB n to):Parent (fnM m).Blocks.length (fun j=>(ix (fnM m).Blocks j).Term.To):=fun q h1 h2=>by
 have h2':q<n:=by have:=h.len;have e:(fnM m).Blocks=m.bs:=rfl;rw[e] at h2;omega
 obtain⟨p,h3,h4⟩:=hP q h1 (by omega)
 refine⟨p,h3,?_⟩
 show(q:Int)∈(ix m.bs p).Term.To
 rw[h.tos p (by omega)];exact h4
theorem RI.ready{dn:List Bool}(h:RI n b c to m)(hP:PB n to)(hb:b<n)(hd:∀j,j<n→ix dn j=decide (j<b)):readyF (fnM m) dn b n=true:=by
 unfold readyF
 rw[hd b hb,Bool.and_eq_true]
 refine⟨by simp,List.all_eq_true.2 fun a ha=>?_⟩
 have ha':=List.mem_range.1 ha
 unfold okA
 rcases Nat.lt_trichotomy a b with h1|h1|h1
 ·rw[hd a ha'];simp[h1]
 ·simp[h1]
 ·rw[reach3_low (h.parent hP) b h1 (by show b<m.bs.length;rw[h.len];exact hb)];simp
theorem RI.row(hP:PB n to)(hL:∀j,(ix to j).length≤65):∀(k b c:Nat) (dn:List Bool) (m:Mk),b+k=n→dn.length=n→(∀j,j<n→ix dn j=decide (j<b))→RI n b c to m →
  RI n n (c+120*k) to (rowS n to k b dn m).2∧∀j,j<n→ix (rowS n to k b dn m).1 j=true
 | 0,b,c,dn,m,hb,hl,hd,h=>by
  have e:b=n:=by omega
  subst e
  exact⟨h,fun j hj=>by show ix dn j=true;rw[hd j hj];simpa using hj⟩
 | k+1,b,c,dn,m,hb,hl,hd,h=>by
  rw[rowS,if_pos (h.ready hP (by omega) hd)]
  obtain⟨x,y⟩:=RI.row hP hL k (b+1) (c+120) (dn.set b true) (blkM n to b (dn.set b true) m) (by omega) (by rw[List.length_set];exact hl) (fun j hj=>by
   rw[ix_set (by omega)];split
   ·rename_i e;subst e;simp
   ·rename_i e;rw[hd j hj,decide_eq_decide];omega) (h.bl (by omega) hL)
  exact⟨x.mono (by omega),y⟩
theorem row_idle:∀(k b:Nat) (dn:List Bool) (m:Mk),b+k=n→(∀j,j<n→ix dn j=true)→rowS n to k b dn m=(dn,m)
 | 0,_,_,_,_,_=>rfl
 | k+1,b,dn,m,hb,h=>by
  rw[rowS,if_neg (by unfold readyF;rw[h b (by omega)];simp)]
  exact row_idle k (b+1) dn m (by omega) h
theorem turn_idle:∀(k:Nat) (dn:List Bool) (m:Mk),(∀j,j<n→ix dn j=true)→turnS n to k dn m=(dn,m)
 | 0,_,_,_=>rfl
 | k+1,dn,m,h=>by rw[turnS,row_idle n 0 dn m (by omega) h];exact turn_idle k dn m h
theorem RI.turn(hP:PB n to)(hL:∀j,(ix to j).length≤65)(hn:0<n)(h:RI n 0 c to m):RI n n (c+120*n) to (turnS n to n (List.replicate n false) m).2:=by
 obtain⟨k,rfl⟩:∃k,n=k+1:=⟨n-1,by omega⟩
 rw[turnS]
 obtain⟨x,y⟩:=RI.row hP hL (k+1) 0 c (List.replicate (k+1) false) m (by omega) (by simp) (fun j hj=>by rw[ix_rep];simp) h
 rw[turn_idle k _ _ y]
 exact x
theorem RI.ap{j:Nat}(h:RI n b c to m)(hj:j<n):RI n b (c+1) to (addP j m) where
 len:=by show(m.bs.set _ _).length=n;rw[List.length_set];exact h.len
 par:=h.par
 nx:=by have:=h.nx;show m.par≤m.nx+1∧m.nx+1≤_;omega
 cnt:=by
  have h1:cI (addP j m).bs≤cI m.bs+0:=cI_set (l:=m.bs) (j:=j) (d:=0) (by exact Nat.le_refl _)
  have h2:=h.cnt
  omega
 lv:=fun x hx=>by have:=h.lv x hx;show 0≤x∧x<m.nx+1;omega
 blk:=fun q hq=>by
  have hn:=h.nn
  show gB (m.nx+1) (ix (m.bs.set _ _) q)
  rw[ix_set (by rw[h.len];omega)];split
  ·have h0:=h.blk j hj
   have h1:=h0.mono (show m.nx≤m.nx+1 by omega)
   refine⟨h1.1,fun p hp=>?_,h1.2.2.1,?_⟩
   ·rcases List.mem_append.1 (show p∈(ix m.bs j).Phis++[⟨m.nx,[]⟩] from hp) with h2|h2
    ·exact h1.2.1 p h2
    ·simp at h2;subst h2;exact⟨by dsimp only;omega,fun x hx=>by cases hx⟩
   ·show(((ix m.bs j).Phis++[(⟨m.nx,[]⟩:D.Phi)]).map (fun p=>p.Dst)).Nodup
    rw[List.map_append,List.nodup_append]
    refine⟨h0.2.2.2,by simp,fun a ha x hx=>?_⟩
    simp at hx;subst hx
    obtain⟨p,h3,rfl⟩:=List.mem_map.1 ha
    have:=(h0.2.1 p h3).1;omega
  ·exact(h.blk q hq).mono (by omega)
 tos:=fun q hq=>by
  show(ix (m.bs.set _ _) q).Term.To=_
  rw[ix_set (by rw[h.len];omega)];split
  ·rename_i e;subst e;exact h.tos _ hq
  ·exact h.tos q hq
 kd:=fun q hb hq=>by
  show(ix (m.bs.set _ _) q).Term.Kind≠0
  rw[ix_set (by rw[h.len];omega)];split
  ·rename_i e;subst e;exact h.kd _ hb hq
  ·exact h.kd q hb hq
theorem RI.pn{j:Nat}(hj:j<n):∀(k:Nat) {c:Nat} {m:Mk},RI n b c to m→RI n b (c+k) to (phiN j k m)
 | 0,_,_,h=>h
 | k+1,_,_,h=>(RI.pn hj k (h.ap hj)).mono (by omega)
theorem RI.ps:∀(k j c:Nat) (ph:List Int) (m:Mk),j+k=n→ph.length=n→(∀j,0≤ix ph j∧ix ph j≤3)→phiOK j ph m→RI n b c to m →
  RI n b (c+3*k) to (phiS k j ph m).2∧phiOK n (phiS k j ph m).1 (phiS k j ph m).2∧∀i,0≤ix (phiS k j ph m).1 i∧ix (phiS k j ph m).1 i≤3
 | 0,j,c,ph,m,hj,hl,hr,ho,h=>by
  have e:j=n:=by omega
  subst e;exact⟨h,ho,hr⟩
 | k+1,j,c,ph,m,hj,hl,hr,ho,h=>by
  have hr':=phiR_rng (b:=j) (m:=m) hr
  have h1:RI n b (c+3) to (phiN j (ix (phiR j ph m) j).toNat (tSS m)):=(h.take.pn (j:=j) (by omega) _).mono (by have:=hr' j;omega)
  have h2:=phi_step ho (by rw[h.len];omega) (by omega) (rfl:phiR j ph m=phiR j ph m)
  obtain⟨a,d,e⟩:=RI.ps k (j+1) (c+3) (phiR j ph m) _ (by omega) (by rw[phiR_len];exact hl) hr' h2 h1
  rw[phiS]
  exact⟨a.mono (by omega),d,e⟩
end
def pT(to:List (List Int)):Nat→Int→List Int
 | 0,_=>[]
 | k+1,b=>pT to k b++(if (ix to k).any (fun y=>decide (y=b)) then [(k:Int)] else [])
def fr(m:Mk)(j:Nat):List (List Int):=(ix m.bs j).Phis.map (fun p=>p.In.map (fun x=>x.From))
section
variable{n b c d:Nat}{to:List (List Int)}{m:Mk}
theorem blL_mem{nx:Int}:∀(l:List D.Block) (k:Nat),(∀x∈l,gB nx x)→∀t∈blL k l,∀x∈t.Makes,0≤x∧x<nx
 | [],_,_,t,ht,_,_=>by cases ht
 | y::l,k,h,t,ht,x,hx=>by
  have hy:=h y (by simp)
  rw[blL] at ht
  rcases List.mem_append.1 ht with h1|h1
  ·have:∀(ps:List D.Phi) (i:Nat),(∀p∈ps,gP nx p)→t∈phL k i ps→0≤x∧x<nx:=by
    intro ps
    induction ps with
    | nil=>intro i _ h;cases h
    | cons p ps ih =>
     intro i hp h
     rw[phL] at h
     rcases List.mem_cons.1 h with rfl|h
     ·simp[phT] at hx;subst hx;exact(hp p (by simp)).1
     ·exact ih _ (fun q hq=>hp q (by simp[hq])) h
   exact this _ _ hy.2.1 h1
  ·rcases List.mem_append.1 h1 with h1|h1
   ·have:∀(ps:List D.Ins) (i:Nat),(∀p∈ps,gI nx p)→t∈inL k i ps→0≤x∧x<nx:=by
     intro ps
     induction ps with
     | nil=>intro i _ h;cases h
     | cons p ps ih =>
      intro i hp h
      rw[inL] at h
      rcases List.mem_cons.1 h with rfl|h
      ·exact(hp p (by simp)).2.2.2.2.1 x hx
      ·exact ih _ (fun q hq=>hp q (by simp[hq])) h
    exact this _ _ hy.1 h1
   ·rcases List.mem_cons.1 h1 with rfl|h1
    ·cases hx
    ·exact blL_mem l (k+1) (fun z hz=>h z (by simp[hz])) t h1 x hx
theorem RI.all(h:RI n b c to m):∀x∈m.bs,gB m.nx x:=fun x hx=>by
 obtain⟨j,hj,e⟩:=List.getElem_of_mem hx
 have:=h.blk j (by rw[←h.len];exact hj)
 rw[ix_eq hj,e] at this;exact this
theorem RI.stand{p:Int}(h:RI n b c to m):∀x∈stand3 (fnM m) p,0≤x∧x<m.nx:=fun x hx=>by
 rcases List.mem_append.1 hx with h1|h1
 ·have:=numsL_mem h1
  have e:(fnM m).Params=m.par:=rfl
  rw[e] at this;have:=h.nx;have:=h.par;omega
 ·obtain⟨t,h2,h3⟩:=List.mem_flatMap.1 h1
  split at h3
  ·exact blL_mem m.bs 0 h.all t h2 x h3
  ·cases h3
end
structure Right3(n:Nat)(to:List (List Int))(f:D.Func)(nx:Int):Prop where
 n1:1≤n∧n≤9
 len:f.Blocks.length=n
 par:0≤f.Params∧f.Params≤4
 nxb:f.Params≤nx∧nx≤1560
 cnt:cI f.Blocks≤1560
 blk:∀j,j<n→gB nx (ix f.Blocks j)
 tos:∀j,j<n→(ix f.Blocks j).Term.To=ix to j
 kd:∀j,j<n→(ix f.Blocks j).Term.Kind≠0
 tr:TR n 30 to
 pb:PB n to
 ph0:(ix f.Blocks 0).Phis=[]
 ph3:∀j,j<n→(ix f.Blocks j).Phis.length≤3
 fr:∀j,j<n→∀p∈(ix f.Blocks j).Phis,p.In.map (fun x=>x.From)=pT to n j
def Rg(r:Int):Prop:=0≤r∧r<8192
theorem regM_of:∀{l:List Int},(∀r∈l,Rg r)→regM l=true
 | [],_=>rfl
 | x::l,h=>by
  have:=h x (by simp)
  unfold Rg at this
  rw[regM,if_neg (by omega)];exact regM_of (fun r hr=>h r (by simp[hr]))
theorem insE0{i:D.Mach}(h1:¬(i.Op<1∨29<i.Op∨i.Op=2∨(i.Op=28∧4<i.Args.length)))(hm:∀r∈makesM i,Rg r)(ht:∀r∈takesM i,Rg r)(h29:¬(i.Op=29∧i.D=i.E))(hi:immM i=true):insE i=0:=by
 unfold insE
 rw[if_neg h1,regM_of hm,regM_of ht,if_neg (by simp),if_neg h29,hi,if_neg (by simp)]
section
variable{d e a b c x op:Int}{l:List Int}
theorem e_mov(hd:Rg d)(ha:Rg a):insE ⟨1,d,0,a,0,0,0,[]⟩=0 :=
 insE0 (by dsimp only;omega) (fun r hr=>by simp[makesM] at hr;subst hr;exact hd) (fun r hr=>by simp[takesM] at hr;subst hr;exact ha) (by dsimp only;omega) rfl
theorem e_li(hd:Rg d)(hx:smallQ x=true):insE ⟨3,d,0,0,0,0,x,[]⟩=0 :=
 insE0 (by dsimp only;omega) (fun r hr=>by simp[makesM] at hr;subst hr;exact hd) (fun r hr=>by simp[takesM] at hr) (by dsimp only;omega) (by
  unfold smallQ at hx;simp at hx
  unfold immM;rw[if_pos rfl];unfold fitsM;rw[if_neg (by omega),if_neg (by omega)]
  rw[show(2:Int)^((16:Int)-1).toNat=32768 by decide,decide_eq_true_eq];dsimp only;omega)
theorem e_liw(hd:Rg d):insE ⟨4,d,0,0,0,0,x,[]⟩=0 :=
 insE0 (by dsimp only;omega) (fun r hr=>by simp[makesM] at hr;subst hr;exact hd) (fun r hr=>by simp[takesM] at hr) (by dsimp only;omega) rfl
theorem e_two(ho:5≤op∧op≤17)(hd:Rg d)(ha:Rg a)(hb:Rg b):insE ⟨op,d,0,a,b,0,0,[]⟩=0 :=
 insE0 (by dsimp only;omega) (fun r hr=>by
  unfold makesM at hr
  rw[if_neg (by dsimp only;omega),if_neg (by dsimp only;omega),if_neg (by dsimp only;omega)] at hr
  simp at hr;subst hr;exact hd) (fun r hr=>by
  unfold takesM at hr
  rw[if_neg (by dsimp only;omega),if_pos (by dsimp only;omega)] at hr
  simp at hr;rcases hr with rfl|rfl<;>assumption) (by dsimp only;omega) (by
  unfold immM;rw[if_neg (by dsimp only;omega),if_neg (by dsimp only;omega),if_neg (by dsimp only;omega),if_neg (by dsimp only;omega)])
theorem e_addi(hd:Rg d)(ha:Rg a)(hx:x=100∨x=-100):insE ⟨18,d,0,a,0,0,x,[]⟩=0 :=
 insE0 (by dsimp only;omega) (fun r hr=>by simp[makesM] at hr;subst hr;exact hd) (fun r hr=>by simp[takesM] at hr;subst hr;exact ha) (by dsimp only;omega) (by rcases hx with rfl|rfl;(show fitsM 100 8=true;decide);(show fitsM (-100) 8=true;decide))
theorem e_shli(hd:Rg d)(ha:Rg a):insE ⟨20,d,0,a,0,0,0,[]⟩=0 :=
 insE0 (by dsimp only;omega) (fun r hr=>by simp[makesM] at hr;subst hr;exact hd) (fun r hr=>by simp[takesM] at hr;subst hr;exact ha) (by dsimp only;omega) rfl
theorem e_madd(hd:Rg d)(ha:Rg a)(hb:Rg b)(hc:Rg c):insE ⟨23,d,0,a,b,c,0,[]⟩=0 :=
 insE0 (by dsimp only;omega) (fun r hr=>by simp[makesM] at hr;subst hr;exact hd) (fun r hr=>by simp[takesM] at hr;rcases hr with rfl|rfl|rfl<;>assumption) (by dsimp only;omega) rfl
theorem immB(hx:byteQ x=true):decide (0≤x∧x≤255)=true:=by unfold byteQ at hx;simpa using hx
theorem e_ld(hd:Rg d)(ha:Rg a)(hx:byteQ x=true):insE ⟨24,d,0,a,0,0,x,[]⟩=0 :=
 insE0 (by dsimp only;omega) (fun r hr=>by simp[makesM] at hr;subst hr;exact hd) (fun r hr=>by simp[takesM] at hr;subst hr;exact ha) (by dsimp only;omega) (immB hx)
theorem e_st(ha:Rg a)(hb:Rg b)(hx:byteQ x=true):insE ⟨26,0,0,a,b,0,x,[]⟩=0 :=
 insE0 (by dsimp only;omega) (fun r hr=>by simp[makesM] at hr) (fun r hr=>by simp[takesM] at hr;rcases hr with rfl|rfl<;>assumption) (by dsimp only;omega) (immB hx)
theorem e_ldx(hd:Rg d)(ha:Rg a)(hb:Rg b):insE ⟨25,d,0,a,b,0,0,[]⟩=0 :=
 insE0 (by dsimp only;omega) (fun r hr=>by simp[makesM] at hr;subst hr;exact hd) (fun r hr=>by simp[takesM] at hr;rcases hr with rfl|rfl<;>assumption) (by dsimp only;omega) rfl
theorem e_stx(ha:Rg a)(hb:Rg b)(hc:Rg c):insE ⟨27,0,0,a,b,c,0,[]⟩=0 :=
 insE0 (by dsimp only;omega) (fun r hr=>by simp[makesM] at hr) (fun r hr=>by simp[takesM] at hr;rcases hr with rfl|rfl|rfl<;>assumption) (by dsimp only;omega) rfl
theorem e_call(hd:Rg d)(hl:l.length≤4)(ha:∀r∈l,Rg r):insE ⟨28,d,0,0,0,0,x,l⟩=0 :=
 insE0 (by dsimp only;omega) (fun r hr=>by simp[makesM] at hr;subst hr;exact hd) (fun r hr=>by simp[takesM] at hr;exact ha r hr) (by dsimp only;omega) rfl
theorem e_mulw(hd:Rg d)(he:Rg e)(hn:d≠e)(ha:Rg a)(hb:Rg b):insE ⟨29,d,e,a,b,0,0,[]⟩=0 :=
 insE0 (by dsimp only;omega) (fun r hr=>by simp[makesM] at hr;rcases hr with rfl|rfl<;>assumption) (fun r hr=>by simp[takesM] at hr;rcases hr with rfl|rfl<;>assumption) (by dsimp only;omega) rfl
end
def QI(a d:Nat)(m:Mq):Prop:=(0≤m.nx∧m.nx≤a)∧m.l.length≤d∧∀i∈m.l,insE i=0
section
variable{a d:Nat}{m:Mq}{r:Int}
theorem QI.mono{a' d':Nat}(h:QI a d m)(h1:a≤a')(h2:d≤d'):QI a' d' m:=⟨by have:=h.1;omega,by have:=h.2.1;omega,h.2.2⟩
theorem QI.take(h:QI a d m):QI a d (takeQ m):=h
theorem QI.temp(h:QI a d m):QI (a+1) d (tempQ m):=⟨by have:=h.1;show 0≤m.nx+1∧m.nx+1≤_;omega,h.2⟩
theorem QI.put{i:D.Mach}(h:QI a d m)(hi:insE i=0):QI a (d+1) (putQ i m):=⟨h.1,by show(m.l++[i]).length≤_;rw[List.length_append];have:=h.2.1;simp;omega,fun y hy=>by
 rcases List.mem_append.1 (show y∈m.l++[i] from hy) with h1|h1
 ·exact h.2.2 y h1
 ·simp at h1;subst h1;exact hi⟩
theorem QI.rg(h:QI a d m)(ha:a<8192):Rg m.nx:=by have:=h.1;unfold Rg;omega
theorem QI.cop(h:QI a d m)(ha:a<8000)(hr:Rg r):QI (a+1) (d+1) (copQ r m)∧Rg (copV r m):=by
 unfold copQ copV;split
 ·exact⟨h.take.mono (by omega) (by omega),hr⟩
 ·exact⟨h.take.temp.put (e_mov (h.rg (by omega)) hr),h.rg (by omega)⟩
theorem QI.word{x:Int}(h:QI a d m)(hr:Rg r):QI a (d+1) (wordQ r x m):=by
 have h0:QI a d (wordQ0 x m):=by unfold wordQ0;split<;>exact h
 unfold wordQ;split
 ·rename_i hc;exact h0.put (e_li hr hc.1)
 ·exact h0.put (e_liw hr)
theorem QI.tw3{x:D.Ins}{p q:Int}(h:QI a d m)(ha:a<8000)(ho:2≤x.Op∧x.Op≤14)(hx:Rg x.Dst)(hp:Rg p)(hq:Rg q):QI (a+2) (d+3) (two3 x p q m):=by
 have hn:=h.rg (by omega)
 have hn1:Rg (m.nx+1):=by have:=h.1;unfold Rg;omega
 unfold two3 opQ
 repeat' split
 ·exact((h.take.temp.temp.put (e_two (by omega) hn hp hq)).put (e_addi hn1 hn (.inl rfl))).put (e_addi hx hn1 (.inr rfl))
 ·exact((h.take.temp.put (e_two (by omega) hn hp hq)).put (e_shli hx hn)).mono (by omega) (by omega)
 ·exact((h.take.temp.word hn).put (e_madd hx hp hq hn)).mono (by omega) (by omega)
 ·exact(h.take.put (e_two (by omega) hx hp hq)).mono (by omega) (by omega)
theorem QI.two{x:D.Ins}(h:QI a d m)(ha:a<7990)(ho:2≤x.Op∧x.Op≤14)(hx:Rg x.Dst)(hp:Rg (ix x.Args 0))(hq:Rg (ix x.Args 1)):QI (a+4) (d+5) (twoQ x m):=by
 have h1:=h.cop (by omega) hp
 have h2:=h1.1.cop (by omega) hq
 exact(h2.1.tw3 (by omega) ho hx h1.2 h2.2).mono (by omega) (by omega)
theorem QI.mem2{x:D.Ins}{p:Int}(h:QI a d m)(ha:a<7990)(ho:x.Op=15∧Rg x.Dst∨x.Op=16∧Rg (ix x.Args 1))(hp:Rg p):QI (a+1) (d+2) (mem2Q x p m):=by
 have hn:=h.rg (by omega)
 have h0:QI a d (memQ0 x.Imm m):=by unfold memQ0;split<;>exact h
 have e0:(memQ0 x.Imm m).nx=m.nx:=by unfold memQ0;split<;>rfl
 unfold mem2Q
 split
 ·rename_i hc
  split
  ·rename_i h15
   exact(h.take.put (e_ld (ho.elim (fun h=>h.2) (fun h=>by omega)) hp hc.1)).mono (by omega) (by omega)
  ·rename_i h15
   exact(h.take.put (e_st hp (ho.elim (fun h=>by omega) (fun h=>h.2)) hc.1)).mono (by omega) (by omega)
 split
 ·exact(h0.temp.word hn).put (e_ldx (ho.elim (fun h=>h.2) (fun h=>by omega)) hp hn)
 ·exact(h0.temp.word hn).put (e_stx hp hn (ho.elim (fun h=>by omega) (fun h=>h.2)))
theorem QI.ins{x:D.Ins}{n:Int}(h:QI a d m)(ha:a<7980)(hg:gI n x)(hn:n≤8192):QI (a+4) (d+5) (insQ x m):=by
 obtain⟨g1,g2,g3,g4,g5,g6⟩:=hg
 have hA:∀r∈x.Args,Rg r:=fun r hr=>by have:=g4 r hr;unfold Rg;omega
 have hM:∀r∈makes3 x,Rg r:=fun r hr=>by have:=g5 r hr;unfold Rg;omega
 have hD:x.Op≠16→Rg x.Dst:=fun h=>hM _ (by unfold makes3;rw[if_neg h];split<;>simp)
 unfold insQ
 split
 ·exact(h.word (hD (by omega))).mono (by omega) (by omega)
 split
 ·rename_i h1
  have hl:1≤x.Args.length:=by omega
  have h2:=h.cop (r:=ix x.Args 0) (by omega) (hA _ (ix_mem (by omega)))
  refine(h2.1.mem2 (by omega) ?_ h2.2).mono (by omega) (by omega)
  rcases h1 with h1|h1
  ·exact .inl ⟨h1,hD (by omega)⟩
  ·exact .inr ⟨h1,hA _ (ix_mem (by omega))⟩
 split
 ·exact(h.put (e_call (hD (by omega)) g3 hA)).mono (by omega) (by omega)
 split
 ·rename_i h18
  have hl:2≤x.Args.length:=by omega
  exact(h.put (e_mulw (hD (by omega)) (hM _ (by unfold makes3;rw[if_neg (by omega),if_pos h18];simp)) (g6 h18) (hA _ (ix_mem (by omega))) (hA _ (ix_mem (by omega))))).mono (by omega) (by omega)
 ·have hl:2≤x.Args.length:=by omega
  exact h.two (by omega) (by omega) (hD (by omega)) (hA _ (ix_mem (by omega))) (hA _ (ix_mem (by omega)))
theorem QI.en{t:D.Term}{n:Int}(h:QI a d m)(ha:a<7980)(hg:gT n t)(hn:n≤8192):QI (a+1) (d+1) (endQ t m):=by
 have hA:∀r∈t.Args,Rg r:=fun r hr=>by have:=hg.2.1 r hr;unfold Rg;omega
 unfold endQ
 repeat' split
 ·exact h.take.mono (by omega) (by omega)
 ·exact(h.take.temp.word (h.rg (by omega)))
 ·rename_i h4;exact(h.cop (by omega) (hA _ (ix_mem (by omega)))).1
 ·exact h.mono (by omega) (by omega)
end
structure MB(k:Nat)(x:D.Block)(y:D.MBlock):Prop where
 ph:y.Phis=x.Phis
 il:y.Ins.length≤5*x.Ins.length+1
 ins:∀i∈y.Ins,insE i=0
 en:endE y.End k=0
 to:∀z,z∈y.End.To↔z∈x.Term.To
 tl:y.End.To.length=x.Term.To.length
inductive An (out:List Int):Nat→Nat→Prop
 | self (v:Nat):An out v v
 | up {x v:Nat}:0≤ix out v→An out x (ix out v).toNat→An out x v
inductive RB (pr:Nat→Nat→Prop) (w:Nat):Nat→Prop
 | zero:w≠0→RB pr w 0
 | step {x t:Nat}:RB pr w x→pr x t→t≠w→RB pr w t
inductive Pt (pr:Nat→Nat→Prop) (num:List Int) (m:Int):Nat→Nat→Prop
 | nil (v:Nat):Pt pr num m v v
 | step {u x t:Nat}:Pt pr num m u x→pr x t→m<ix num t→Pt pr num m u t
structure GN(n:Nat)(num:List Int)(pr:Nat→Nat→Prop):Prop where
 n0:0<n
 rng:∀v,v<n→0≤ix num v∧ix num v<n
 inj:∀u v,u<n→v<n→ix num u=ix num v→u=v
 zero:ix num 0=0
 prn:∀q b,pr q b→q<n∧b<n
 fwd:∀b,b<n→b≠0→∃q,pr q b∧ix num q<ix num b
def pdn(out:List Int)(v:Nat):Prop:=v=0∨0≤ix out v
structure TV(n:Nat)(num out:List Int):Prop where
 len:out.length=n
 root:ix out 0<0
 up:∀v,v<n→0≤ix out v→ix out v<n∧ix num (ix out v).toNat<ix num v∧pdn out (ix out v).toNat
section
variable{n:Nat}{num out:List Int}{pr:Nat→Nat→Prop}
theorem An.trans{x y z:Nat}(h1:An out x y)(h2:An out y z):An out x z:=by
 induction h2 with
 | self=>exact h1
 | up h _ ih=>exact .up h ih
theorem An.lt(hv:TV n num out){x v:Nat}(h:An out x v):v<n→x<n:=by
 induction h with
 | self=>exact id
 | @up v h _ ih=>intro hv';exact ih (by have:=(hv.up v hv' h).1;omega)
theorem An.nu(hv:TV n num out){x v:Nat}(h:An out x v):v<n→ix num x≤ix num v∧(x≠v→ix num x<ix num v):=by
 induction h with
 | self=>exact fun _=>⟨Int.le_refl _,fun h=>absurd rfl h⟩
 | @up v h _ ih =>
  intro hv'
  have h1:=hv.up v hv' h
  have h2:=ih (by omega)
  exact⟨by omega,fun _=>by omega⟩
theorem An.pd(hv:TV n num out){x v:Nat}(h:An out x v):v<n→pdn out v→pdn out x:=by
 induction h with
 | self=>exact fun _ h=>h
 | @up v h _ ih=>intro hv' _;have h1:=hv.up v hv' h;exact ih (by omega) h1.2.2
theorem An.tot{x y v:Nat}(h1:An out x v)(h2:An out y v):An out x y∨An out y x:=by
 induction h1 with
 | self=>exact .inr h2
 | @up v h h3 ih =>
  cases h2 with
  | self=>exact .inl (.up h h3)
  | up _ h4=>exact ih h4
theorem Pt.tr{m:Int}{u v w:Nat}(h1:Pt pr num m u v)(h2:Pt pr num m v w):Pt pr num m u w:=by
 induction h2 with
 | nil=>exact h1
 | step _ h3 h4 ih=>exact .step ih h3 h4
theorem Pt.mono{m m':Int}{u v:Nat}(h:Pt pr num m u v)(hm:m'≤m):Pt pr num m' u v:=by
 induction h with
 | nil=>exact .nil _
 | step _ h3 h4 ih=>exact .step ih h3 (by omega)
theorem Pt.rb{m:Int}{u v w:Nat}(h:Pt pr num m u v)(hr:RB pr w u)(hm:ix num w≤m):RB pr w v:=by
 induction h with
 | nil=>exact hr
 | step _ h3 h4 ih=>exact .step ih h3 (fun e=>by subst e;omega)
end
structure IS(n:Nat)(num:List Int)(pr:Nat→Nat→Prop)(out:List Int)(i:Int):Prop where
 tv:TV n num out
 fp:∀v,v<n→ix num v<i→pdn out v
 dm:∀b a,b<n→pdn out b→(a=b∨¬RB pr a b)→An out a b
 pa:∀b,b<n→0≤ix out b→Pt pr num (ix num (ix out b).toNat) (ix out b).toNat b
 hh:∀b,b<n→0≤ix out b→∀y,(∀p,pr p b→pdn out p→An out y p)→An out y (ix out b).toNat
 kk:∀b,b<n→0≤ix out b→∀q,pr q b→ix num q<ix num b→(ix num b<i∨i≤ix num (ix out b).toNat)→An out (ix out b).toNat q
structure BS(out:List Int)(P:Nat→Prop)(best:Int):Prop where
 no:best<0→∀p,P p→¬pdn out p
 an:0≤best→∀p,P p→pdn out p→An out best.toNat p
 nc:0≤best→∀y,(∀p,P p→pdn out p→An out y p)→An out y best.toNat
 pd:0≤best→pdn out best.toNat
section
variable{n:Nat}{num out:List Int}{pr:Nat→Nat→Prop}{i:Int}
theorem an_pt(hs:IS n num pr out i){b c:Nat}(h:An out b c):c<n→Pt pr num (ix num b) b c:=by
 induction h with
 | self=>exact fun _ => .nil _
 | @up v h h2 ih =>
  intro hv
  have h1:=hs.tv.up v hv h
  exact(ih (by omega)).tr ((hs.pa v hv h).mono ((h2.nu hs.tv (by omega)).1))
theorem IS.step(hg:GN n num pr)(hs:IS n num pr out i){b:Nat}{best:Int}(hb:b<n)(hb0:b≠0)(hi:ix num b=i)(hB:BS out (fun p=>pr p b) best) :
  0≤best∧best<n∧IS n num pr (out.set b best) (i+1)∧(0≤ix out b→ix out b≠best→ix num best.toNat<ix num (ix out b).toNat):=by
 have hv:=hs.tv
 obtain⟨q0,hq,hqn⟩:=hg.fwd b hb hb0
 have hq0:q0<n:=(hg.prn _ _ hq).1
 have hqd:=hs.fp q0 hq0 (by omega)
 have h0:0≤best:=by
  rcases Int.lt_or_le best 0 with h|h
  ·exact absurd hqd (hB.no h q0 hq)
  ·exact h
 have hbq:=hB.an h0 q0 hq hqd
 have hbn:=hbq.lt hv hq0
 have hnb:ix num best.toNat<i:=by have:=(hbq.nu hv hq0).1;omega
 have hnc:∀y,(∀p,pr p b→pdn out p→An out y p)→An out y best.toNat:=hB.nc h0
 generalize hx:best.toNat=x at *
 have hbe:best=(x:Int):=by omega
 have hup:0≤ix out b→An out x (ix out b).toNat:=fun h=>by
  exact hs.hh b hb h x (fun p hp hpd=>by rw[←hx];exact hB.an h0 p hp hpd)
 have hbl:b<out.length:=by rw[hv.len];exact hb
 have hset:∀v,ix (out.set b best) v=if v=b then best else ix out v:=fun v=>ix_set hbl
 have nx:¬An out b x:=fun h=>by have:=(h.nu hv hbn).1;omega
 have la:∀{y v},An out y v→v<n→(An out b y∨¬An out b v)→An (out.set b best) y v:=by
  intro y v h
  induction h with
  | self=>exact fun _ _ => .self _
  | @up v h h2 ih =>
   intro hv' hc
   have h1:=hv.up v hv' h
   have hvb:v≠b:=by
    rintro rfl
    rcases hc with hc|hc
    ·have e1:=(hc.nu hv (h2.lt hv (by omega))).1
     have e2:=(h2.nu hv (by omega)).1
     omega
    ·exact hc (.self _)
   refine .up (by rw[hset,if_neg hvb];exact h) ?_
   rw[hset,if_neg hvb]
   exact ih (by omega) (hc.imp id (fun h3 h4=>h3 (.up h h4)))
 have lb:∀{y v},An (out.set b best) y v→v<n→(¬An out b v∧An out y v)∨(An out b v∧((An out b y∧An out y v)∨An out y x)):=by
  intro y v h
  induction h with
  | self =>
   intro _
   by_cases h1:An out b y
   ·exact .inr ⟨h1,.inl ⟨h1,.self _⟩⟩
   ·exact .inl ⟨h1,.self _⟩
  | @up v h h2 ih =>
   intro hv'
   rw[hset] at h h2 ih
   by_cases e:v=b
   ·subst e
    rw[if_pos rfl,hx] at ih
    rcases ih hbn with h3|h3
    ·exact .inr ⟨.self _,.inr h3.2⟩
    ·exact absurd h3.1 nx
   ·rw[if_neg e] at h h2 ih
    have h1:=hv.up v hv' h
    rcases ih (by omega) with h3|h3
    ·refine .inl ⟨fun h4=>h3.1 ?_,.up h h3.2⟩
     cases h4 with
     | self=>exact absurd rfl e
     | up _ h5=>exact h5
    ·refine .inr ⟨.up h h3.1,h3.2.imp (fun h4=>⟨h4.1,.up h h4.2⟩) id⟩
 have lc:∀{y},An out y x→An (out.set b best) y b:=fun {y} h=>by
  refine .up (by rw[hset,if_pos rfl];exact h0) ?_
  rw[hset,if_pos rfl,hx]
  exact la h hbn (.inr nx)
 have ld:∀{y v},An out y x→An out b v→v<n→An (out.set b best) y v:=fun {y v} h h2 hv'=>(lc h).trans (la h2 hv' (.inl (.self _)))
 have sub:0≤ix out b→∀{y v},An (out.set b best) y v→v<n→An out y v:=fun h9 {y v} h hv'=>by
  rcases lb h hv' with h1|⟨h1,h2⟩
  ·exact h1.2
  ·rcases h2 with h2|h2
   ·exact h2.2
   ·exact(h2.trans (hup h9)).trans (.trans (.up h9 (.self _)) h1)
 have fresh:¬0≤ix out b→∀v,An out b v→v<n→v=b:=fun h9 v h hv'=>by
  cases h with
  | self=>rfl
  | up h3 h4 =>
   have h5:=hv.up v hv' h3
   exact absurd (h4.pd hv (by omega) h5.2.2) (fun h=>h.elim hb0 h9)
 have pds:∀v,pdn (out.set b best) v↔(v=b∨pdn out v):=fun v=>by
  unfold pdn;rw[hset]
  by_cases e:v=b
  ·rw[if_pos e];exact⟨fun _ => .inl e,fun _ => .inr h0⟩
  ·rw[if_neg e];exact⟨.inr,fun h=>h.resolve_left e⟩
 refine⟨h0,by omega,?_,fun h9 h8=>?_⟩
 ·refine⟨⟨by rw[List.length_set];exact hv.len,by rw[hset,if_neg (fun h=>hb0 h.symm)];exact hv.root,fun v hv' h=>?_⟩,fun v hv' h=>?_,fun c a hc hpc h=>?_,fun v hv' h=>?_,fun v hv' h y hy=>?_,fun v hv' h q hq' hqn' hc=>?_⟩
  ·rw[hset] at h ⊢
   split at h
   ·rename_i e;subst e
    rw[if_pos rfl,hx]
    exact⟨by omega,by omega,(pds _).2 (.inr (by have:=hB.pd h0;rw[hx] at this;exact this))⟩
   ·rename_i e
    rw[if_neg e]
    have:=hv.up v hv' h
    exact⟨this.1,this.2.1,(pds _).2 (.inr this.2.2)⟩
  ·rw[pds]
   by_cases e:v=b
   ·exact .inl e
   ·exact .inr (hs.fp v hv' (by have:=hg.inj v b hv' hb;have:ix num v≠ix num b:=fun h=>e (this h);omega))
  ·
   by_cases hcb:c=b
   ·subst hcb
    by_cases hac:a=c
    ·subst hac;exact .self _
    ·refine lc (hnc a fun p hp hpd=>hs.dm p a (hg.prn _ _ hp).1 hpd (.inr fun h6=>?_))
     exact(h.resolve_left hac) (.step h6 hp (fun e=>hac e.symm))
   ·have hpc':pdn out c:=((pds c).1 hpc).resolve_left hcb
    have hac:=hs.dm c a hc hpc' h
    by_cases h1:An out b c
    ·by_cases h2:An out b a
     ·exact la hac hc (.inl h2)
     ·
      have h3:An out a b:=(hac.tot h1).resolve_right h2
      have hab:a≠b:=fun e=>h2 (by subst e;exact .self _)
      have hn:=(h3.nu hv hb).2 hab
      have hdom:¬RB pr a b:=fun h4=>by
       have h5:=(an_pt hs h1 hc).rb h4 (by omega)
       rcases h with h|h
       ·subst h;exact h2 h1
       ·exact h h5
      have h6:An out a x:=hnc a fun p hp hpd=>hs.dm p a (hg.prn _ _ hp).1 hpd (.inr fun h7=>hdom (.step h7 hp (fun e=>hab e.symm)))
      exact ld h6 h1 hc
    ·exact la hac hc (.inr h1)
  ·rw[hset] at h ⊢
   split at h
   ·rename_i e;subst e
    rw[if_pos rfl,hx]
    exact .step (an_pt hs hbq hq0) hq (by omega)
   ·rename_i e;rw[if_neg e];exact hs.pa v hv' h
  ·rw[hset] at h ⊢
   split at h
   ·rename_i e;subst e
    rw[if_pos rfl,hx]
    refine la (hnc y fun p hp hpd=>?_) hbn (.inr nx)
    have h1:=hy p hp ((pds p).2 (.inr hpd))
    have hpn:=(hg.prn _ _ hp).1
    by_cases h9:0≤ix out v
    ·exact sub h9 h1 hpn
    ·rcases lb h1 hpn with h2|⟨h2,_⟩
     ·exact h2.2
     ·have e:=fresh h9 p h2 hpn
      subst e
      exact absurd hpd (fun h=>h.elim hb0 h9)
   ·rename_i e
    rw[if_neg e]
    have h1:=hv.up v hv' h
    by_cases hz:An out b (ix out v).toNat
    ·
     have hzn:=(hz.nu hv (by omega)).1
     have h9:0≤ix out b:=by
      rcases Int.lt_or_le (ix out b) 0 with h2|h2
      ·have h3:=fresh (by omega) _ hz (by omega)
       rw[h3] at h1
       exact absurd h1.2.2 (fun h=>h.elim hb0 (fun h=>by omega))
      ·exact h2
     have hyz:An out y (ix out v).toNat:=hs.hh v hv' h y fun p hp hpd=>sub h9 (hy p hp ((pds p).2 (.inr hpd))) (hg.prn _ _ hp).1
     by_cases hby:An out b y
     ·exact la hyz (by omega) (.inl hby)
     ·have hv0:v≠0:=by rintro rfl;have:=hv.root;omega
      obtain⟨q,hq1,hq2⟩:=hg.fwd v hv' hv0
      have hqn1:=(hg.prn _ _ hq1).1
      have hzq:=hs.kk v hv' h q hq1 hq2 (.inr (by omega))
      have hqb:An out b q:=hz.trans hzq
      have hpq:pdn out q:=by
       cases hqb with
       | self=>exact .inr h9
       | up h _=>exact .inr h
      rcases lb (hy q hq1 ((pds q).2 (.inr hpq))) hqn1 with h2|⟨_,h2⟩
      ·exact absurd hqb h2.1
      ·rcases h2 with h2|h2
       ·exact absurd h2.1 hby
       ·exact ld h2 hz (by omega)
    ·refine la (hs.hh v hv' h y fun p hp hpd=>?_) (by omega) (.inr hz)
     have h2:=hy p hp ((pds p).2 (.inr hpd))
     have hpn:=(hg.prn _ _ hp).1
     by_cases h9:0≤ix out b
     ·exact sub h9 h2 hpn
     ·rcases lb h2 hpn with h3|⟨h3,_⟩
      ·exact h3.2
      ·have e:=fresh h9 p h3 hpn
       subst e
       exact absurd hpd (fun h=>h.elim hb0 h9)
  ·have hqn1:=(hg.prn _ _ hq').1
   rw[hset] at h hc ⊢
   by_cases e:v=b
   ·subst e
    rw[if_pos rfl,hx]
    have hqd':=hs.fp q hqn1 (by omega)
    have h2:=hB.an h0 q hq' hqd'
    rw[hx] at h2
    exact la h2 hqn1 (.inr fun h3=>by have:=(h3.nu hv hqn1).1;omega)
   ·rw[if_neg e] at h hc ⊢
    have h1:=hv.up v hv' h
    have hne:ix num v≠ix num b:=fun h=>e (hg.inj v b hv' hb h)
    rcases hc with hc|hc
    ·have h2:=hs.kk v hv' h q hq' hqn' (.inl (by omega))
     exact la h2 hqn1 (.inr fun h3=>by have:=(h3.nu hv hqn1).1;omega)
    ·have h2:=hs.kk v hv' h q hq' hqn' (.inr (by omega))
     by_cases h3:An out b q
     ·have h4:=(h2.tot h3)
      rcases h4 with h4|h4
      ·have:=(h4.nu hv hb).1;omega
      ·exact la h2 hqn1 (.inl h4)
     ·exact la h2 hqn1 (.inr h3)
 ·have h7:=hup h9
  have h6:=(h7.nu hv (by have:=(hv.up b hb h9).1;omega)).2 (fun e=>h8 (by omega))
  exact h6
end
structure CO(n:Nat)(num out:List Int)(a b a' b':Int):Prop where
 ra:0≤a'∧a'<n
 rb:0≤b'∧b'<n
 pa:pdn out a'.toNat
 pb:pdn out b'.toNat
 an:∀x,(An out x a.toNat∧An out x b.toNat)↔(An out x a'.toNat∧An out x b'.toNat)
section
variable{n:Nat}{num out:List Int}{pr:Nat→Nat→Prop}{a b a' b':Int}
theorem CO.beg(ha:0≤a∧a<n)(hb:0≤b∧b<n)(h1:pdn out a.toNat)(h2:pdn out b.toNat):CO n num out a b a b:=⟨ha,hb,h1,h2,fun _=>Iff.rfl⟩
theorem CO.left(hg:GN n num pr)(hv:TV n num out)(h:CO n num out a b a' b')(hn:ix num b'.toNat<ix num a'.toNat):CO n num out a b (ix out a'.toNat) b'∧ix num (ix out a'.toNat).toNat<ix num a'.toNat:=by
 obtain⟨h1,h2,h3,h4,h5⟩:=h
 have hb:=(hg.rng b'.toNat (by omega)).1
 have h0:0≤ix out a'.toNat:=h3.resolve_left fun e=>by rw[e,hg.zero] at hn;omega
 have h6:=hv.up a'.toNat (by omega) h0
 refine⟨⟨⟨h0,h6.1⟩,h2,h6.2.2,h4,fun x=>(h5 x).trans ⟨fun⟨p,q⟩=>⟨?_,q⟩,fun⟨p,q⟩=>⟨.up h0 p,q⟩⟩⟩,h6.2.1⟩
 have hq:=(q.nu hv (by omega)).1
 generalize a'.toNat=v at *
 cases p with
 | self=>omega
 | up _ p=>exact p
theorem CO.right(hg:GN n num pr)(hv:TV n num out)(h:CO n num out a b a' b')(hn:ix num a'.toNat<ix num b'.toNat):CO n num out a b a' (ix out b'.toNat)∧ix num (ix out b'.toNat).toNat<ix num b'.toNat:=by
 have h1:=CO.left (a:=b) (b:=a) (a':=b') (b':=a') hg hv ⟨h.rb,h.ra,h.pb,h.pa,fun x=>and_comm.trans ((h.an x).trans and_comm)⟩ hn
 exact⟨⟨h.ra,h1.1.ra,h.pa,h1.1.pa,fun x=>and_comm.trans ((h1.1.an x).trans and_comm)⟩,h1.2⟩
theorem CO.done(hg:GN n num pr)(h:CO n num out a b a' b')(hn:ix num a'.toNat=ix num b'.toNat):An out a'.toNat a.toNat∧An out a'.toNat b.toNat∧∀x,An out x a.toNat→An out x b.toNat→An out x a'.toNat:=by
 have h1:=h.ra
 have h2:=h.rb
 have e:=hg.inj a'.toNat b'.toNat (by omega) (by omega) hn
 have h3:=(h.an a'.toNat).2 ⟨.self _,by rw[←e];exact .self _⟩
 exact⟨h3.1,h3.2,fun x p q=>((h.an x).1 ⟨p,q⟩).1⟩
def Pk(l:List Int)(k:Nat)(p:Nat):Prop:=(p:Int)∈l.take k
theorem Pk.nx{l:List Int}{k p:Nat}(hk:k<l.length):Pk l (k+1) p↔Pk l k p∨(p:Int)=ix l k:=by
 unfold Pk;rw[take_ix hk,List.mem_append];simp
theorem BS.beg{l:List Int}:BS out (Pk l 0) (-1):=⟨fun _ p h=>by simp[Pk] at h,fun h=>by omega,fun h=>by omega,fun h=>by omega⟩
theorem BS.skip{l:List Int}{k:Nat}{best:Int}(h:BS out (Pk l k) best)(hk:k<l.length)(hr:0≤ix l k)(hp:¬pdn out (ix l k).toNat):BS out (Pk l (k+1)) best:=by
 have e:∀p:Nat,(p:Int)=ix l k→¬pdn out p:=fun p e h9=>hp (by rw[←e,Int.toNat_natCast];exact h9)
 exact⟨fun h0 p h1=>((Pk.nx hk).1 h1).elim (h.no h0 p) (e p),fun h0 p h1 h2=>((Pk.nx hk).1 h1).elim (fun h3=>h.an h0 p h3 h2) (fun h3=>absurd h2 (e p h3)),fun h0 y h1=>h.nc h0 y fun p h2=>h1 p ((Pk.nx hk).2 (.inl h2)),h.pd⟩
theorem BS.first{l:List Int}{k:Nat}{best:Int}(h:BS out (Pk l k) best)(hb:best<0)(hk:k<l.length)(hr:0≤ix l k)(hp:pdn out (ix l k).toNat):BS out (Pk l (k+1)) (ix l k):=by
 refine⟨fun h0=>by omega,fun h0 p h1 h2=>?_,fun h0 y h1=>?_,fun _=>hp⟩
 ·rcases(Pk.nx hk).1 h1 with h3|h3
  ·exact absurd h2 (h.no hb p h3)
  ·rw[←h3,Int.toNat_natCast];exact .self _
 ·exact h1 _ ((Pk.nx hk).2 (.inr (by omega))) hp
theorem BS.com{l:List Int}{k:Nat}{best c:Int}(h:BS out (Pk l k) best)(hb:0≤best)(hk:k<l.length)(hr:0≤ix l k)(hp:pdn out (ix l k).toNat)(hc:0≤c)(hpc:pdn out c.toNat)(h1:An out c.toNat best.toNat∧An out c.toNat (ix l k).toNat∧∀x,An out x best.toNat→An out x (ix l k).toNat→An out x c.toNat):BS out (Pk l (k+1)) c:=by
 obtain⟨a1,a2,a3⟩:=h1
 refine⟨fun h0=>by omega,fun _ p h2 h3=>?_,fun _ y h2=>?_,fun _=>hpc⟩
 ·rcases(Pk.nx hk).1 h2 with h4|h4
  ·exact a1.trans (h.an hb p h4 h3)
  ·rw[show p=(ix l k).toNat by omega];exact a2
 ·exact a3 y (h.nc hb y fun p h4=>h2 p ((Pk.nx hk).2 (.inl h4))) (h2 _ ((Pk.nx hk).2 (.inr (by omega))) hp)
theorem BS.all{l:List Int}{best:Int}{b:Nat}(h:BS out (Pk l l.length) best)(hl:∀p:Nat,(p:Int)∈l↔pr p b):BS out (fun p=>pr p b) best:=by
 have e:∀p,Pk l l.length p↔pr p b:=fun p=>by unfold Pk;rw[List.take_length];exact hl p
 exact⟨fun h0 p h1=>h.no h0 p ((e p).2 h1),fun h0 p h1=>h.an h0 p ((e p).2 h1),fun h0 y h1=>h.nc h0 y fun p h2=>h1 p ((e p).1 h2),h.pd⟩
theorem IS.beg(hg:GN n num pr):IS n num pr (List.replicate n (-1)) 1:=by
 have hr:∀v,v<n→ix (List.replicate n (-1:Int)) v=-1:=fun v hv=>by rw[ix_eq (by simpa using hv)];simp
 have h0:=hg.n0
 refine⟨⟨by simp,by rw[hr 0 h0];omega,fun v hv h=>by rw[hr v hv] at h;omega⟩,fun v hv h => .inl (hg.inj v 0 hv h0 (by have:=hg.rng v hv;rw[hg.zero];omega)),fun b a hb hp h=>?_,fun b hb h=>by rw[hr b hb] at h;omega,fun b hb h=>by rw[hr b hb] at h;omega,fun b hb h=>by rw[hr b hb] at h;omega⟩
 rcases hp with e|h1
 ·subst e
  rcases h with h|h
  ·subst h;exact .self _
  ·have:a=0:=by
    rcases Nat.eq_zero_or_pos a with h2|h2
    ·exact h2
    ·exact absurd (RB.zero (by omega)) h
   subst this;exact .self _
 ·rw[hr b hb] at h1;omega
theorem IS.round(hg:GN n num pr)(h:IS n num pr out n):IS n num pr out 1 :=
 ⟨h.tv,fun v hv _=>h.fp v hv (by have:=hg.rng v hv;omega),h.dm,h.pa,h.hh,fun b hb h1 q hq h2 _=>h.kk b hb h1 q hq h2 (.inl (by have:=hg.rng b hb;omega))⟩
def wtI(n:Nat)(num out:List Int)(v:Nat):Nat:=if ix out v<0 then n else (ix num (ix out v).toNat).toNat
def smI(n:Nat)(num out:List Int):Nat→Nat
 | 0=>0
 | k+1=>smI n num out k+wtI n num out k
theorem smI_lt{out':List Int}{v:Nat}(h1:∀u,u≠v→wtI n num out' u=wtI n num out u)(h2:wtI n num out' v<wtI n num out v):∀k,(k≤v→smI n num out' k=smI n num out k)∧(v<k→smI n num out' k<smI n num out k)
 | 0=>⟨fun _=>rfl,fun h=>by omega⟩
 | k+1=>by
  obtain⟨a,b⟩:=smI_lt h1 h2 k
  rw[smI,smI]
  refine⟨fun h=>by rw[a (by omega),h1 k (by omega)],fun h=>?_⟩
  rcases Nat.lt_or_ge v k with h3|h3
  ·have:=b h3;rw[h1 k (by omega)];omega
  ·have e:v=k:=by omega
   subst e
   have:=a (Nat.le_refl _);omega
theorem IS.less(hg:GN n num pr){i:Int}(hs:IS n num pr out i){b:Nat}{best:Int}(hb:b<n)(h0:0≤best∧best<n)(hne:ix out b≠best)(h:0≤ix out b→ix out b≠best→ix num best.toNat<ix num (ix out b).toNat):smI n num (out.set b best) n<smI n num out n:=by
 have hl:b<out.length:=by rw[hs.tv.len];exact hb
 refine(smI_lt (v:=b) (fun u hu=>?_) ?_ n).2 hb
 ·unfold wtI;rw[ix_set hl,if_neg hu]
 ·unfold wtI
  rw[ix_set hl,if_pos rfl,if_neg (by omega)]
  have h1:=hg.rng best.toNat (by omega)
  split
  ·omega
  ·rename_i h2
   have h3:=h (by omega) hne
   omega
theorem IS.same{i:Int}(hs:IS n num pr out (i+1)){b:Nat}{best:Int}(h:ix out b=best):IS n num pr (out.set b best) (i+1):=by
 by_cases hb:b<out.length
 ·rw[show out.set b best=out from by rw[←h,ix_eq hb];exact List.set_getElem_self _];exact hs
 ·rw[List.set_eq_of_length_le (by omega)];exact hs
theorem dom_asked(hv:TV n num out):∀(k:Nat) {x v:Nat},An out x v→v<n→x≠v→0≤ix out v∧ix out v<n∧An out x (ix out v).toNat
 | _,x,v,h,hv',hne=>by
  cases h with
  | self=>exact absurd rfl hne
  | up h1 h2=>exact⟨h1,(hv.up v hv' h1).1,h2⟩
end
def Aft(rows:List (List Int))(l:List Int)(v:Int):Prop:=∃l2 l3,l=l2++v::l3∧∃q∈l3,v∈ix rows q.toNat
theorem Aft.right{rows:List (List Int)}{l m:List Int}{v:Int}:Aft rows l v→Aft rows (l++m) v
 | ⟨l2,l3,e,q,h1,h2⟩=>⟨l2,l3++m,by rw[e];simp,q,by simp[h1],h2⟩
theorem Aft.left{rows:List (List Int)}{l m:List Int}{v:Int}:Aft rows l v→Aft rows (m++l) v
 | ⟨l2,l3,e,q,h1,h2⟩=>⟨m++l2,l3,by rw[e];simp,q,h1,h2⟩
structure OV(n:Nat)(rows:List (List Int))(se:List Bool)(l:List Int)(se':List Bool)(R:Int→Prop):Prop where
 len:se'.length=n
 mem:∀v:Nat,v<n→(ix se' v=true↔ix se v=true∨(v:Int)∈l)
 nd:l.Nodup
 new:∀v∈l,(0≤v∧v<n)∧ix se v.toNat=false
 cl:∀v∈l,∀t∈ix rows v.toNat,ix se' t.toNat=true
 af:∀v∈l,R v∨Aft rows l v
section
variable{n:Nat}{rows:List (List Int)}{se se' se2:List Bool}{l l2:List Int}{R:Int→Prop}{a:Int}
theorem OV.beg(h:se.length=n):OV n rows se [] se R:=⟨h,fun v _=>(by simp),List.nodup_nil,fun v h=>(by cases h),fun v h=>(by cases h),fun v h=>(by cases h)⟩
theorem OV.up(h:OV n rows se l se' R){v:Nat}(hv:v<n)(h1:ix se v=true):ix se' v=true:=(h.mem v hv).2 (.inl h1)
theorem OV.tr(hr:∀v t,t∈ix rows v→0≤t∧t<n)(h:OV n rows se l se' R)(h2:OV n rows se' l2 se2 R):OV n rows se (l++l2) se2 R:=by
 refine⟨h2.len,fun v hv=>?_,List.nodup_append.2 ⟨h.nd,h2.nd,fun x hx y hy e=>?_⟩,fun v hv=>?_,fun v hv t ht=>?_,fun v hv=>?_⟩
 ·rw[h2.mem v hv,h.mem v hv,List.mem_append,or_assoc]
 ·subst e
  have h3:=h.new x hx
  have h4:=(h2.new x hy).2
  rw[(h.mem x.toNat (by omega)).2 (.inr (by rw[Int.toNat_of_nonneg h3.1.1];exact hx))] at h4;cases h4
 ·rcases List.mem_append.1 hv with h3|h3
  ·exact h.new v h3
  ·have h4:=h2.new v h3
   refine⟨h4.1,?_⟩
   cases h5:ix se v.toNat with
   | false=>rfl
   | true=>rw[h.up (by omega) h5] at h4;cases h4.2
 ·rcases List.mem_append.1 hv with h3|h3
  ·have:=hr _ t ht;exact h2.up (by omega) (h.cl v h3 t ht)
  ·exact h2.cl v h3 t ht
 ·rcases List.mem_append.1 hv with h3|h3
  ·exact(h.af v h3).imp id Aft.right
  ·exact(h2.af v h3).imp id Aft.left
theorem OV.weak{R':Int→Prop}(h:OV n rows se l se' R)(hR:∀v,R v→R' v):OV n rows se l se' R':=⟨h.len,h.mem,h.nd,h.new,h.cl,fun v hv=>(h.af v hv).imp (hR v) id⟩
theorem OV.done(hl:se.length=n)(ha:0≤a∧a<n)(h0:ix se a.toNat=false)(h:OV n rows (se.set a.toNat true) l se' (fun v=>v∈ix rows a.toNat))(hc:∀t∈ix rows a.toNat,ix se' t.toNat=true):OV n rows se (l++[a]) se' (fun v=>v=a):=by
 have hs:∀v,ix (se.set a.toNat true) v=if v=a.toNat then true else ix se v:=fun v=>ix_set (by omega)
 have hna:a∉l:=fun h9=>by have:=(h.new a h9).2;rw[hs,if_pos rfl] at this;cases this
 refine⟨h.len,fun v hv=>?_,List.nodup_append.2 ⟨h.nd,by simp,fun x hx y hy e=>?_⟩,fun v hv=>?_,fun v hv t ht=>?_,fun v hv=>?_⟩
 ·rw[h.mem v hv,hs,List.mem_append,List.mem_singleton]
  by_cases e:v=a.toNat
  ·rw[if_pos e];exact⟨fun _ => .inr (.inr (by omega)),fun _ => .inl rfl⟩
  ·rw[if_neg e];exact⟨fun h=>h.imp id .inl,fun h=>h.imp id (fun h=>h.resolve_right (by omega))⟩
 ·simp at hy;subst hy;subst e;exact hna hx
 ·rcases List.mem_append.1 hv with h3|h3
  ·have h4:=h.new v h3
   refine⟨h4.1,?_⟩
   rw[hs] at h4
   split at h4
   ·cases h4.2
   ·exact h4.2
  ·simp at h3;subst h3;exact⟨ha,h0⟩
 ·rcases List.mem_append.1 hv with h3|h3
  ·exact h.cl v h3 t ht
  ·simp at h3;subst h3;exact hc t ht
 ·rcases List.mem_append.1 hv with h3|h3
  ·right
   rcases h.af v h3 with h4|h4
   ·obtain⟨l2,l3,e⟩:=List.append_of_mem h3
    exact⟨l2,l3++[a],by rw[e];simp,a,by simp,h4⟩
   ·exact h4.right
  ·exact .inl (by simpa using h3)
end
structure OD(n:Nat)(rows:List (List Int))(ord:List Int):Prop where
 nd:ord.Nodup
 all:∀v:Int,v∈ord↔0≤v∧v<n
 hd:ord.head? = some 0
 fw:∀v:Int,v∈ord→v≠0→∃l2 l3,ord=l2++v::l3∧∃q∈l2,v∈ix rows q.toNat
theorem od_of{n:Nat}{rows:List (List Int)}{l:List Int}{se':List Bool}(hn:0<n)(hr:∀v t,t∈ix rows v→0≤t∧t<n)(h:OV n rows (List.replicate n false) (l++[0]) se' (fun v=>v=0))(hw:∀b,b<n→∃w,RB (fun q t=>(t:Int)∈ix rows q) w b):OD n rows (l++[0]).reverse:=by
 have key:∀{w b},RB (fun q t=>(t:Int)∈ix rows q) w b→(b:Int)∈l++[0]:=fun {w b} h9=>by
  induction h9 with
  | zero=>simp
  | @step x t h1 h2 _ ih =>
   have h3:=h.cl x ih t (by rw[Int.toNat_natCast];exact h2)
   rw[Int.toNat_natCast] at h3
   have h4:=hr x t h2
   have h5:=(h.mem t (by omega)).1 h3
   rw[ix_rep] at h5
   exact h5.resolve_left (by simp)
 refine⟨(List.reverse_perm _).nodup_iff.2 h.nd,fun v=>?_,by simp,fun v hv hv0=>?_⟩
 ·rw[List.mem_reverse]
  refine⟨fun h1=>(h.new v h1).1,fun h1=>?_⟩
  obtain⟨w,h2⟩:=hw v.toNat (by omega)
  have:=key h2
  rwa[Int.toNat_of_nonneg h1.1] at this
 ·rw[List.mem_reverse] at hv
  obtain⟨l2,l3,e,q,h1,h2⟩:=(h.af v hv).resolve_left hv0
  exact⟨l3.reverse,l2.reverse,by rw[e];simp,q,by simpa using h1,h2⟩
structure NU(n:Nat)(ord num:List Int):Prop where
 len:num.length=n
 pos:∀k,k<ord.length→ix num (ix ord k).toNat=k
theorem nodup_len:∀(n:Nat) (l:List Int),l.Nodup→(∀v∈l,0≤v∧v<n)→l.length≤n
 | 0,[],_,_=>Nat.le_refl _
 | 0,x::l,_,h=>by have:=h x (by simp);omega
 | n+1,l,hn,h=>by
  have h1:=nodup_len n (l.erase n) (hn.erase _) (fun v hv=>by
   have h2:=h v (List.mem_of_mem_erase hv)
   have h3:=((hn.mem_erase_iff).1 hv).1
   omega)
  rw[List.length_erase] at h1
  split at h1<;>omega
theorem od_at{n:Nat}{rows:List (List Int)}{ord:List Int}(ho:OD n rows ord){v:Nat}(hv:v<n):∃k,k<ord.length∧ix ord k=v:=by
 obtain⟨k,hk,e⟩:=List.getElem_of_mem ((ho.all v).2 ⟨by omega,by omega⟩)
 exact⟨k,hk,by rw[ix_eq hk];exact e⟩
theorem od_gn{n:Nat}{rows:List (List Int)}{ord num:List Int}(hn:0<n)(hr:∀v t,t∈ix rows v→(0≤t∧t<n)∧v<n)(ho:OD n rows ord)(hu:NU n ord num):GN n num (fun q t=>(t:Int)∈ix rows q)∧ord.length≤n:=by
 have hlen:=nodup_len n ord ho.nd (fun v hv=>(ho.all v).1 hv)
 refine⟨⟨hn,fun v hv=>?_,fun u v hu' hv h=>?_,?_,fun q b h=>?_,fun b hb h0=>?_⟩,hlen⟩
 ·obtain⟨k,hk,e⟩:=od_at ho hv
  have:=hu.pos k hk
  rw[e,Int.toNat_natCast] at this;omega
 ·obtain⟨k,hk,e⟩:=od_at ho hu'
  obtain⟨k2,hk2,e2⟩:=od_at ho hv
  have h1:=hu.pos k hk
  have h2:=hu.pos k2 hk2
  rw[e,Int.toNat_natCast] at h1
  rw[e2,Int.toNat_natCast] at h2
  have:k=k2:=by omega
  subst this;omega
 ·have h1:=ho.hd
  obtain⟨x,l,e⟩:∃x l,ord=x::l:=by
   cases ord with
   | nil=>cases h1
   | cons x l=>exact⟨x,l,rfl⟩
  subst e
  simp at h1;subst h1
  have:=hu.pos 0 (by simp)
  simpa[ix] using this
 ·have:=hr q b h;omega
 ·obtain⟨l2,l3,e,q,h1,h2⟩:=ho.fw b ((ho.all b).2 ⟨by omega,by omega⟩) (by omega)
  have hq:=(ho.all q).1 (by rw[e];simp[h1])
  refine⟨q.toNat,h2,?_⟩
  obtain⟨k,hk,e1⟩:=List.getElem_of_mem h1
  have p1:=hu.pos k (by rw[e];simp;omega)
  have p2:=hu.pos l2.length (by rw[e];simp)
  rw[show ix ord k=q from by rw[ix_eq (by rw[e];simp;omega)];subst e;rw[List.getElem_append_left hk];exact e1] at p1
  rw[show ix ord l2.length=(b:Int) from by rw[ix_eq (by rw[e];simp)];subst e;simp,Int.toNat_natCast] at p2
  omega
def keptM(row:List Int)(n:Int):List Int:=Lib.compact (sortM (row.filter (fun b=>decide (0≤b)&&decide (b<n))))
theorem kept_mem{row:List Int}{n x:Int}:x∈keptM row n↔x∈row∧0≤x∧x<n:=by
 unfold keptM
 rw[comp_mem,sortM_mem,List.mem_filter]
 simp
theorem kept_ris(row:List Int)(n:Int):(keptM row n).Pairwise (·<·):=comp_ris (sortM_le _)
theorem kept_ext{a b:List Int}(h1:a.Pairwise (·<·))(h2:b.Pairwise (·<·))(h:∀x,x∈a↔x∈b):a=b:=ris_ext h1 h2 h
theorem kept_kept(row:List Int)(n:Int):keptM (keptM row n) n=keptM row n:=kept_ext (kept_ris _ _) (kept_ris _ _) (fun x=>by rw[kept_mem,kept_mem];exact⟨fun h=>h.1,fun h=>⟨h,h.2⟩⟩)
theorem kept_len(row:List Int)(n:Int):(keptM row n).length≤row.length:=by
 unfold keptM
 refine Nat.le_trans (comp_len _) ?_
 unfold sortM
 rw[List.length_mergeSort];exact List.length_filter_le _ _
def cleanM(g:List (List Int)):List (List Int):=g.map (fun row=>keptM row g.length)
def graphF(f:D.Func):List (List Int):=f.Blocks.map (fun b=>keptM b.Term.To f.Blocks.length)
theorem filt_nx{α:Type}[Inhabited α]{l:List α}{q:α→Bool}{k:Nat}(h:k<l.length):(l.take (k+1)).filter q=(l.take k).filter q++if q (ix l k)=true then [ix l k] else []:=by
 rw[take_ix h,List.filter_append]
 congr 1
 by_cases h9:q (ix l k)=true
 ·simp[h9]
 ·simp[h9]
def comF(idom num:List Int):Nat→Int→Int→Int
 | 0,a,_=>a
 | k+1,a,b=>if ix num b.toNat<ix num a.toNat then comF idom num k (ix idom a.toNat) b else if ix num a.toNat<ix num b.toNat then comF idom num k a (ix idom b.toNat) else a
def comM(idom num:List Int)(a b:Int):Int:=comF idom num ((ix num a.toNat).toNat+(ix num b.toNat).toNat+1) a b
def ComOK(idom num:List Int)(a b:Int):Prop:=∃n pr,GN n num pr∧num.length=n∧TV n num idom∧CO n num idom a b a b
def domF(idom:List Int)(a:Int):Nat→Int→Bool
 | 0,_=>false
 | k+1,b=>if a=b then true else if 0≤b∧b<idom.length then domF idom a k (ix idom b.toNat) else false
def inR(l:List Int)(n:Int):Bool:=decide (0≤n)&&decide (n<l.length)
def dominM(idom:List Int)(a b:Int):Bool:=if inR idom a=true∧inR idom b=true then domF idom a (idom.length+1) b else false
theorem domF_yes{n:Nat}{num out:List Int}(hv:TV n num out){x:Nat}:∀(k:Nat) {v:Nat},An out x v→v<n→ix num v<ix num x+k→domF out x k v=true
 | 0,v,h,hv',hk=>by have:=(h.nu hv hv').1;omega
 | k+1,v,h,hv',hk=>by
  rw[domF]
  by_cases e:(x:Int)=v
  ·rw[if_pos e]
  ·rw[if_neg e,if_pos ⟨by omega,by rw[hv.len];omega⟩,Int.toNat_natCast]
   obtain⟨h1,h2,h3⟩:=dom_asked hv 0 h hv' (by omega)
   have h4:=(hv.up v hv' h1).2.1
   have:=domF_yes hv k (v:=(ix out v).toNat) h3 (by omega) (by omega)
   rwa[Int.toNat_of_nonneg h1] at this
def withinM(n a b:Int):Bool:=decide (a≤n)&&decide (n≤b)
def operM(op:Int):Int×Int:=if op=1 then (0,0) else if op=15 then (1,1) else if op=17 then (0,4) else (2,2)
section
variable{idom num:List Int}{k:Nat}{a b:Int}
theorem comF_l(h:0<k)(h1:ix num b.toNat<ix num a.toNat):comF idom num k a b=comF idom num (k-1) (ix idom a.toNat) b:=by
 obtain⟨j,rfl⟩:∃j,k=j+1:=⟨k-1,by omega⟩
 rw[comF,if_pos h1];rfl
theorem comF_r(h:0<k)(h1:ix num a.toNat<ix num b.toNat):comF idom num k a b=comF idom num (k-1) a (ix idom b.toNat):=by
 obtain⟨j,rfl⟩:∃j,k=j+1:=⟨k-1,by omega⟩
 rw[comF,if_neg (by omega),if_pos h1];rfl
theorem comF_e(h:0<k)(h1:ix num a.toNat=ix num b.toNat):comF idom num k a b=a:=by
 obtain⟨j,rfl⟩:∃j,k=j+1:=⟨k-1,by omega⟩
 rw[comF,if_neg (by omega),if_neg (by omega)]
end
theorem ix_mapG{α β:Type}[Inhabited α][Inhabited β]{l:List α}{f:α→β}{k:Nat}(h:k<l.length):ix (l.map f) k=f (ix l k):=by
 rw[ix_eq (by simpa using h),ix_eq h];simp
theorem row_put{F:List (List Int)}{n k:Nat}{x:List Int}(hk:k<n)(hn:F.length=n)(hx:x=ix F k):(F.take k++List.replicate (n-k) []).set k x=F.take (k+1)++List.replicate (n-(k+1)) []:=by
 have hl:(F.take k).length=k:=by rw[List.length_take];omega
 rw[List.set_append_right _ _ (by omega),hl,Nat.sub_self,take_ix (by omega),List.append_assoc]
 congr 1
 obtain⟨j,hj⟩:∃j,n-k=j+1:=⟨n-k-1,by omega⟩
 rw[hj,List.replicate_succ,List.set_cons_zero,show n-(k+1)=j by omega,hx];rfl
def inRn(n:Int)(l:List Int):Bool:=inR l n
theorem inRn_yes{n:Int}{l:List Int}(h:inRn n l=true):0≤n∧n<l.length:=by unfold inRn inR at h;simpa using h
theorem inRn_no{n:Int}{l:List Int}(h:inRn n l=false):¬(0≤n∧n<l.length):=by unfold inRn inR at h;simp at h;omega
theorem domN{idom:List Int}{a b:Int}(h:(!inRn a idom||!inRn b idom)=true):dominM idom a b=false:=by
 unfold dominM;rw[if_neg];intro h9;unfold inRn at h;rw[h9.1,h9.2] at h;cases h
structure OP(n:Nat)(rows:List (List Int))(se:List Bool)(out:List Int)(a:Int):Prop where
 len:se.length=n
 n512:n≤512
 a0:0≤a∧a<n
 no:ix se a.toNat=false
 rl:rows.length=n
 rows:∀v t,t∈ix rows v→0≤t∧t<n
 nd:out.Nodup
 vis:∀v∈out,(0≤v∧v<n)∧ix se v.toNat=true
section
variable{n:Nat}{rows:List (List Int)}{se se2 se3:List Bool}{out l l2 l3:List Int}{a t:Int}{R:Int→Prop}{k:Nat}
theorem OP.all(h:OP n rows se out a)(ho:OV n rows (se.set a.toNat true) l se2 R):(out++l).Nodup∧∀v∈out++l,(0≤v∧v<n)∧ix se2 v.toNat=true:=by
 have ha:=h.a0
 have hs:∀v,ix (se.set a.toNat true) v=if v=a.toNat then true else ix se v:=fun v=>ix_set (by rw[h.len];omega)
 refine⟨List.nodup_append.2 ⟨h.nd,ho.nd,fun x hx y hy e=>?_⟩,fun v hv=>?_⟩
 ·subst e
  have h1:=(h.vis x hx).2
  have h2:=(ho.new x hy).2
  rw[hs] at h2
  split at h2
  ·cases h2
  ·rw[h1] at h2;cases h2
 ·rcases List.mem_append.1 hv with h1|h1
  ·have h2:=h.vis v h1
   refine⟨h2.1,(ho.mem v.toNat (by omega)).2 (.inl ?_)⟩
   rw[hs];split
   ·rfl
   ·exact h2.2
  ·have h2:=(ho.new v h1).1
   exact⟨h2,(ho.mem v.toNat (by omega)).2 (.inr (by rw[Int.toNat_of_nonneg h2.1];exact h1))⟩
theorem OP.olen(h:OP n rows se out a)(ho:OV n rows (se.set a.toNat true) l se2 R):(out++l).length≤512:=by
 have h1:=h.all ho
 have:=nodup_len n _ h1.1 (fun v hv=>(h1.2 v hv).1)
 have:=h.n512
 omega
theorem OP.next(h:OP n rows se out a)(ho:OV n rows (se.set a.toNat true) l se2 R)(ht:t∈ix rows a.toNat)(hn:ix se2 t.toNat=false):OP n rows se2 (out++l) t :=
 ⟨ho.len,h.n512,h.rows _ t ht,hn,h.rl,h.rows,(h.all ho).1,(h.all ho).2⟩
theorem cnt3_mono:∀{a b:List Bool},a.length=b.length→(∀i,ix a i=true→ix b i=true)→cnt3 b≤cnt3 a
 | [],[],_,_=>Nat.le_refl _
 | x::a,y::b,h,h2=>by
  have h3:=cnt3_mono (a:=a) (b:=b) (by simpa using h) (fun i hi=>by have:=h2 (i+1) (by rw[ix_cons];exact hi);rwa[ix_cons] at this)
  have h0:=h2 0
  rw[ix_zero,ix_zero] at h0
  unfold cnt3 at h3 ⊢
  rw[List.countP_cons,List.countP_cons]
  cases x<;>cases y<;>simp_all<;>omega
theorem OP.less(h:OP n rows se out a)(ho:OV n rows (se.set a.toNat true) l se2 R):cnt3 se2<cnt3 se:=by
 have ha:=h.a0
 have h1:=cnt3_set (l:=se) (i:=a.toNat) (by rw[h.len];omega) h.no
 have h2:=cnt3_mono (a:=se.set a.toNat true) (b:=se2) (by rw[List.length_set,h.len,ho.len]) (fun i hi=>(ho.mem i (by have:=ix_len hi;rw[List.length_set,h.len] at this;exact this)).2 (.inl hi))
 omega
theorem ov_seen{T:List Int}(hk:k<T.length)(hd:∀t∈T.take k,ix se2 t.toNat=true)(h:ix se2 (ix T k).toNat=true):∀t∈T.take (k+1),ix se2 t.toNat=true:=fun t ht=>by
 rw[take_ix hk,List.mem_append] at ht
 rcases ht with ht|ht
 ·exact hd t ht
 ·simp at ht;subst ht;exact h
theorem ov_next{T:List Int}(hk:k<T.length)(hd:∀t∈T.take k,ix se2 t.toNat=true)(hr:∀t∈T,0≤t∧t<n)(ho:OV n rows se2 l se3 (fun v=>v=ix T k))(hl:ix T k∈l):∀t∈T.take (k+1),ix se3 t.toNat=true:=by
 refine ov_seen hk (fun t ht=>?_) ?_
 ·have:=hr t (List.mem_of_mem_take ht)
  exact ho.up (by omega) (hd t ht)
 ·have h1:=hr _ (ix_mem hk)
  exact(ho.mem _ (by omega)).2 (.inr (by rw[Int.toNat_of_nonneg h1.1];exact hl))
end
structure PO(n:Nat)(rows:List (List Int))(se:List Bool)(l:List Int)(se':List Bool)(a:Int):Prop where
 ends:∃l0,l=l0++[a]
 ov:OV n rows se l se' (fun v=>v=a)
theorem PO.mem{n:Nat}{rows:List (List Int)}{se se':List Bool}{l:List Int}{a:Int}(h:PO n rows se l se' a):a∈l:=by obtain⟨l0,e⟩:=h.ends;rw[e];simp
theorem ix_out{α:Type}[Inhabited α]{l:List α}{i:Nat}(h:l.length≤i):ix l i=default:=by
 simp[ix,List.getD,List.getElem?_eq_none h]
theorem clean_len(g:List (List Int)):(cleanM g).length=g.length:=by simp[cleanM]
theorem clean_rng(g:List (List Int)):∀v t,t∈ix (cleanM g) v→0≤t∧t<g.length:=fun v t h=>by
 by_cases hv:v<g.length
 ·unfold cleanM at h
  rw[ix_mapG hv] at h
  exact(kept_mem.1 h).2
 ·rw[ix_out (by rw[clean_len];omega)] at h;cases h
theorem op_beg{n:Nat}{rows:List (List Int)}(hn:0<n∧n≤512)(hl:rows.length=n)(hr:∀v t,t∈ix rows v→0≤t∧t<n):OP n rows (List.replicate n false) [] 0 :=
 ⟨by simp,hn.2,⟨Int.le_refl _,by omega⟩,ix_rep _ _,hl,hr,List.nodup_nil,fun v h=>by cases h⟩
theorem PO.len{n:Nat}{rows:List (List Int)}{se se':List Bool}{l:List Int}{a:Int}(h:PO n rows se l se' a)(hn:n≤512):([]++l).length<1073741824:=by
 have h1:=nodup_len n l h.ov.nd (fun v hv=>(h.ov.new v hv).1)
 rw[List.nil_append];omega
theorem PO.od{n:Nat}{rows:List (List Int)}{se':List Bool}{l:List Int}(h:PO n rows (List.replicate n false) l se' 0)(hn:0<n)(hr:∀v t,t∈ix rows v→0≤t∧t<n)(hw:∀b,b<n→∃w,RB (fun q t=>(t:Int)∈ix rows q) w b):OD n rows (revM ([]++l)):=by
 obtain⟨l0,e⟩:=h.ends
 have h1:=h.ov
 rw[List.nil_append,e] at *
 exact od_of hn hr h1 hw
def OO(g:List (List Int))(ord:List Int):Prop:=∃l se',ord=revM ([]++l)∧PO g.length (cleanM g) (List.replicate g.length false) l se' 0
theorem OO.od{g:List (List Int)}{ord:List Int}(h:OO g ord)(hn:0<g.length)(hw:∀b,b<g.length→∃w,RB (fun q t=>(t:Int)∈ix (cleanM g) q) w b):OD g.length (cleanM g) ord:=by
 obtain⟨l,se,rfl,h⟩:=h
 exact h.od hn (clean_rng g) hw
def edgesT(rows:List (List Int)):Nat→List (Int×Int)
 | 0=>[]
 | k+1=>edgesT rows k++(ix rows k).map (fun b=>((k:Int),b))
theorem edges_pre{rows:List (List Int)}:∀{n k:Nat},k≤n→∃m,edgesT rows n=edgesT rows k++m
 | 0,k,h=>⟨[],by rw[show k=0 by omega];simp⟩
 | n+1,k,h=>by
  rcases Nat.lt_or_ge n k with h1|h1
  ·rw[show k=n+1 by omega];exact⟨[],by simp⟩
  ·obtain⟨m,e⟩:=edges_pre (rows:=rows) h1
   exact⟨m++(ix rows n).map (fun b=>((n:Int),b)),by rw[edgesT,e,List.append_assoc]⟩
theorem edge_at{rows:List (List Int)}{n k j:Nat}(hk:k<n)(hj:j<(ix rows k).length):(edgesT rows k).length+j<(edgesT rows n).length∧∀h,(edgesT rows n)[(edgesT rows k).length+j]'h=((k:Int),ix (ix rows k) j):=by
 obtain⟨m,e⟩:=edges_pre (rows:=rows) (show k+1≤n from hk)
 rw[edgesT] at e
 refine⟨by rw[e];simp;omega,fun h=>?_⟩
 have h2:(edgesT rows n)[(edgesT rows k).length+j]? = some ((k:Int),ix (ix rows k) j):=by
  rw[e,List.append_assoc,List.getElem?_append_right (by omega),Nat.add_sub_cancel_left,List.getElem?_append_left (by simpa using hj),List.getElem?_map,ix_eq hj,List.getElem?_eq_getElem hj];rfl
 rw[List.getElem?_eq_getElem h] at h2
 injection h2
theorem edges_next{rows:List (List Int)}{k:Nat}:(edgesT rows (k+1)).length=(edgesT rows k).length+(ix rows k).length:=by rw[edgesT];simp
abbrev Ed(n:Nat):={ p:Int×Int // (0≤p.1∧p.1<n)∧0≤p.2∧p.2<n }
def edEnc{n:Nat}(x:Ed n):List Value:=[.int .i64 x.val.1,.int .i64 x.val.2]
theorem edges_rng{g:List (List Int)}:∀{k:Nat},k≤g.length→∀p∈edgesT (cleanM g) k,(0≤p.1∧p.1<g.length)∧0≤p.2∧p.2<g.length
 | 0,_,_,h=>by cases h
 | k+1,hk,p,h=>by
  rw[edgesT] at h
  rcases List.mem_append.1 h with h1|h1
  ·exact edges_rng (by omega) p h1
  ·obtain⟨b,h2,rfl⟩:=List.mem_map.1 h1
   exact⟨⟨by dsimp only;omega,by dsimp only;omega⟩,clean_rng g k b h2⟩
def edgesX(g:List (List Int)):List (Ed g.length):=(edgesT (cleanM g) g.length).attachWith _ (fun p hp=>edges_rng (Nat.le_refl _) p hp)
theorem edgesX_len{g:List (List Int)}:(edgesX g).length=(edgesT (cleanM g) g.length).length:=by simp[edgesX]
theorem edgesX_at{g:List (List Int)}{i:Nat}(h:i<(edgesX g).length):(edgesX g)[i].val=(edgesT (cleanM g) g.length)[i]'(by rw[←edgesX_len];exact h):=by simp[edgesX]
def pushE(rs:List (List Int))(p:Int×Int):List (List Int):=rs.set p.2.toNat (ix rs p.2.toNat++[p.1])
def predsE(n:Nat)(l:List (Int×Int)):List (List Int):=l.foldl pushE (List.replicate n [])
def predsG(g:List (List Int)):List (List Int):=predsE g.length (edgesT (cleanM g) g.length)
theorem predsE_len{n:Nat}(l:List (Int×Int)):(predsE n l).length=n:=by
 unfold predsE
 have:∀(l:List (Int×Int)) (rs:List (List Int)),(l.foldl pushE rs).length=rs.length:=by
  intro l
  induction l with
  | nil=>intro rs;rfl
  | cons p l ih=>intro rs;rw[List.foldl_cons,ih];simp[pushE]
 rw[this];simp
theorem predsE_snoc{n:Nat}{l:List (Int×Int)}{p:Int×Int}:predsE n (l++[p])=pushE (predsE n l) p:=by unfold predsE;rw[List.foldl_append];rfl
theorem edgesX_val(g:List (List Int)):(edgesX g).map Subtype.val=edgesT (cleanM g) g.length:=List.ext_getElem (by simp[edgesX]) fun i h1 h2=>by rw[List.getElem_map];exact edgesX_at _
theorem edges_few{g:List (List Int)}(hg:g.length≤512):∀k,k≤g.length→(edgesT (cleanM g) k).length≤512*k
 | 0,_=>Nat.le_refl _
 | k+1,h=>by
  have h1:=edges_few hg k (by omega)
  have h2:=nodup_len g.length (ix (cleanM g) k) (by unfold cleanM;rw[ix_mapG (by omega)];exact(kept_ris _ _).imp (fun h=>by omega)) (fun v hv=>clean_rng g k v hv)
  rw[edges_next];omega
theorem predsE_each{n:Nat}:∀(l:List (Int×Int)) (rs:List (List Int)) (c:Nat),(∀r∈rs,r.length≤c)→∀r∈l.foldl pushE rs,r.length≤c+l.length
 | [],rs,c,h,r,hr=>by have:=h r hr;simpa using this
 | p::l,rs,c,h,r,hr=>by
  rw[List.foldl_cons] at hr
  have:=predsE_each (n:=n) l (pushE rs p) (c+1) (fun r hr=>by
   unfold pushE at hr
   rcases List.mem_or_eq_of_mem_set hr with h1|h1
   ·have:=h r h1;omega
   ·subst h1
    rw[List.length_append]
    by_cases hj:p.2.toNat<rs.length
    ·have:=h _ (ix_mem hj);simp;omega
    ·rw[ix_out (by omega)];simp[default];) r hr
  rw[List.length_cons];omega
theorem predsE_small{g:List (List Int)}(hg:g.length≤512):∀l∈predsE g.length (edgesT (cleanM g) g.length),l.length<1073741824:=fun l hl=>by
 have h1:=predsE_each (n:=g.length) (edgesT (cleanM g) g.length) (List.replicate g.length []) 0 (fun r hr=>by rw[List.eq_of_mem_replicate hr];simp) l hl
 have h2:=edges_few hg g.length (Nat.le_refl _)
 have h3:512*g.length≤512*512:=Nat.mul_le_mul_left _ hg
 omega
theorem predsE_le{n j:Nat}(l:List (Int×Int)):((predsE n l)[j]?.getD []).length≤l.length:=by
 cases h:(predsE n l)[j]? with
 | none=>simp
 | some x =>
  obtain⟨hj,e⟩:=List.getElem?_eq_some_iff.1 h
  have:=predsE_each (n:=n) l (List.replicate n []) 0 (fun r hr=>by rw[List.eq_of_mem_replicate hr];simp) x (by rw[←e];exact List.getElem_mem hj)
  simpa using this
theorem edgesX_few{g:List (List Int)}(hg:g.length≤512):(edgesX g).length≤262144:=by
 rw[edgesX_len]
 have h2:=edges_few hg g.length (Nat.le_refl _)
 have h3:512*g.length≤512*512:=Nat.mul_le_mul_left _ hg
 omega
theorem push_row{n:Nat}{q:Int}:∀(row:List Int) (rs:List (List Int)),rs.length=n→row.Nodup→(∀v∈row,0≤v∧v<n)→∀v:Nat,ix ((row.map (fun b=>(q,b))).foldl pushE rs) v=ix rs v++if (v:Int)∈row then [q] else []
 | [],rs,_,_,_,v=>by simp
 | b::row,rs,hl,hn,hr,v=>by
  have h1:=hr b (by simp)
  have h2:=List.nodup_cons.1 hn
  have h3:=push_row (q:=q) row (pushE rs (q,b)) (by simp[pushE,hl]) h2.2 (fun v hv=>hr v (by simp[hv])) v
  rw[List.map_cons,List.foldl_cons,h3]
  unfold pushE
  dsimp only
  rw[ix_set (by omega)]
  by_cases e:v=b.toNat
  ·have e2:(v:Int)=b:=by omega
   rw[if_pos e,←e,e2,if_neg h2.1,if_pos (by simp),List.append_nil]
  ·have e2:¬(v:Int)=b:=by omega
   rw[if_neg e]
   congr 1
   by_cases h4:(v:Int)∈row
   ·rw[if_pos h4,if_pos (by simp[h4])]
   ·rw[if_neg h4,if_neg (by simp[h4,e2])]
def predK(rows:List (List Int)):Nat→Nat→List Int
 | 0,_=>[]
 | k+1,v=>predK rows k v++if (v:Int)∈ix rows k then [(k:Int)] else []
theorem preds_K{n:Nat}{rows:List (List Int)}(hn:∀k,(ix rows k).Nodup)(hr:∀v t,t∈ix rows v→0≤t∧t<n)(v:Nat):∀k,ix (predsE n (edgesT rows k)) v=predK rows k v
 | 0=>by unfold predsE;rw[edgesT,predK,List.foldl_nil];by_cases h:v<n<;>simp[ix,h]<;>rfl
 | k+1=>by
  have h1:=preds_K hn hr v k
  rw[edgesT,predK,←h1]
  unfold predsE
  rw[List.foldl_append]
  exact push_row _ _ (predsE_len (n:=n) _) (hn k) (hr k) v
theorem clean_nd(g:List (List Int))(k:Nat):(ix (cleanM g) k).Nodup:=by
 by_cases hk:k<g.length
 ·unfold cleanM;rw[ix_mapG hk];exact(kept_ris _ _).imp (fun h=>by omega)
 ·rw[ix_out (by rw[clean_len];omega)];exact List.nodup_nil
theorem predsG_at(g:List (List Int))(v:Nat):ix (predsG g) v=predK (cleanM g) g.length v:=preds_K (clean_nd g) (clean_rng g) v _
theorem predK_mem{rows:List (List Int)}{v:Nat}:∀{n:Nat} {x:Int},x∈predK rows n v↔∃k:Nat,k<n∧x=k∧(v:Int)∈ix rows k
 | 0,x=>by simp[predK]
 | n+1,x=>by
  rw[predK,List.mem_append,predK_mem (n:=n)]
  constructor
  ·rintro(⟨k,h1,h2,h3⟩|h)
   ·exact⟨k,by omega,h2,h3⟩
   ·split at h
    ·rename_i h2;simp at h;exact⟨n,by omega,h,h2⟩
    ·cases h
  ·rintro⟨k,h1,h2,h3⟩
   rcases Nat.lt_or_ge k n with h4|h4
   ·exact .inl ⟨k,h4,h2,h3⟩
   ·have e:k=n:=by omega
    subst e
    exact .inr (by rw[if_pos h3];simpa using h2)
theorem preds_len(g:List (List Int)):(predsG g).length=g.length:=predsE_len _
def prG(g:List (List Int))(q t:Nat):Prop:=(t:Int)∈ix (cleanM g) q
theorem prG_rng{g:List (List Int)}{q t:Nat}(h:prG g q t):q<g.length∧t<g.length:=by
 refine⟨?_,by have:=clean_rng g q t h;omega⟩
 rcases Nat.lt_or_ge q g.length with h1|h1
 ·exact h1
 ·unfold prG at h;rw[ix_out (by rw[clean_len];omega)] at h;cases h
theorem preds_pr{g:List (List Int)}{p b:Nat}:(p:Int)∈ix (predsG g) b↔prG g p b:=by
 rw[predsG_at,predK_mem]
 constructor
 ·rintro⟨k,h1,h2,h3⟩
  have:p=k:=by omega
  subst this;exact h3
 ·exact fun h=>⟨p,(prG_rng h).1,rfl,h⟩
theorem preds_rng{g:List (List Int)}{b:Nat}{x:Int}(h:x∈ix (predsG g) b):0≤x∧x<g.length:=by
 rw[predsG_at,predK_mem] at h
 obtain⟨k,h1,h2,_⟩:=h
 omega
theorem OD.gn{g:List (List Int)}{ord num:List Int}(hn:0<g.length)(ho:OD g.length (cleanM g) ord)(hu:NU g.length ord num):GN g.length num (prG g)∧ord.length≤g.length :=
 od_gn hn (fun v t h=>⟨clean_rng g v t h,by
  rcases Nat.lt_or_ge v g.length with h1|h1
  ·exact h1
  ·rw[ix_out (by rw[clean_len];omega)] at h;cases h⟩) ho hu
theorem od_len{n:Nat}{rows:List (List Int)}{ord:List Int}(ho:OD n rows ord):ord.length≤n:=nodup_len n ord ho.nd (fun v hv=>(ho.all v).1 hv)
theorem od_rng{n:Nat}{rows:List (List Int)}{ord:List Int}(ho:OD n rows ord){k:Nat}(hk:k<ord.length):0≤ix ord k∧ix ord k<n:=(ho.all _).1 (ix_mem hk)
theorem sub_len:∀(l m:List Int),l.Nodup→(∀x∈l,x∈m)→l.length≤m.length
 | [],m,_,_=>Nat.zero_le _
 | x::l,m,h,h2=>by
  have h3:=List.nodup_cons.1 h
  have h4:=sub_len l (m.erase x) h3.2 (fun y hy=>(List.mem_erase_of_ne (fun e=>h3.1 (by rw[←e];exact hy))).2 (h2 y (by simp[hy])))
  have h5:=h2 x (by simp)
  rw[List.length_erase_of_mem h5] at h4
  have:=List.length_pos_of_mem h5
  rw[List.length_cons];omega
theorem od_full{n:Nat}{rows:List (List Int)}{ord:List Int}(ho:OD n rows ord):n≤ord.length:=by
 have h:∀k,k≤n→∃l:List Int,l.length=k∧l.Nodup∧∀x∈l,0≤x∧x<k:=by
  intro k
  induction k with
  | zero=>exact fun _=>⟨[],rfl,List.nodup_nil,fun x h=>by cases h⟩
  | succ k ih =>
   intro hk
   obtain⟨l,h1,h2,h3⟩:=ih (by omega)
   refine⟨(k:Int)::l,by simp[h1],List.nodup_cons.2 ⟨fun h4=>by have:=h3 _ h4;omega,h2⟩,fun x hx=>?_⟩
   rcases List.mem_cons.1 hx with h4|h4
   ·omega
   ·have:=h3 x h4;omega
 obtain⟨l,h1,h2,h3⟩:=h n (Nat.le_refl _)
 have:=sub_len l ord h2 (fun x hx=>(ho.all _).2 (h3 x hx))
 omega
theorem nodup_inj{α:Type}:∀{l:List α},l.Nodup→∀{i j:Nat} (hi:i<l.length) (hj:j<l.length),l[i]=l[j]→i=j
 | [],_,i,_,hi,_,_=>by cases hi
 | x::l,h,0,0,_,_,_=>rfl
 | x::l,h,0,j+1,_,hj,e=>by
  rw[List.getElem_cons_zero,List.getElem_cons_succ] at e
  exact absurd (by rw[e];exact List.getElem_mem _) (List.nodup_cons.1 h).1
 | x::l,h,i+1,0,hi,_,e=>by
  rw[List.getElem_cons_zero,List.getElem_cons_succ] at e
  exact absurd (by rw[←e];exact List.getElem_mem _) (List.nodup_cons.1 h).1
 | x::l,h,i+1,j+1,hi,hj,e=>by
  rw[List.getElem_cons_succ,List.getElem_cons_succ] at e
  rw[nodup_inj (List.nodup_cons.1 h).2 _ _ e]
def NK(n:Nat)(ord nm:List Int)(k:Nat):Prop:=nm.length=n∧∀j,j<k→ix nm (ix ord j).toNat=j
theorem NK.nx{n:Nat}{rows:List (List Int)}{ord nm:List Int}{k:Nat}(ho:OD n rows ord)(h:NK n ord nm k)(hk:k<ord.length):NK n ord (nm.set (ix ord k).toNat k) (k+1):=by
 refine⟨by rw[List.length_set];exact h.1,fun j hj=>?_⟩
 have h1:=od_rng ho hk
 have h2:=od_rng ho (k:=j) (by omega)
 rw[ix_set (by rw[h.1];omega)]
 split
 ·rename_i e
  have e2:ix ord j=ix ord k:=by omega
  have:j=k:=by
   rw[ix_eq (show j<ord.length by omega),ix_eq hk] at e2
   exact nodup_inj ho.nd _ _ e2
  omega
 ·rename_i e
  rcases Nat.lt_or_ge j k with h3|h3
  ·exact h.2 j h3
  ·exact absurd (show(ix ord j).toNat=(ix ord k).toNat by rw[show j=k by omega]) e
theorem NK.nu{n:Nat}{ord nm:List Int}(h:NK n ord nm ord.length):NU n ord nm:=⟨h.1,h.2⟩
def FX(n:Nat)(num:List Int)(pr:Nat→Nat→Prop)(ou:List Int)(i:Int):Prop:=∀b,b<n→b≠0→ix num b<i→∀p,pr p b→pdn ou p→An ou (ix ou b).toNat p
structure IR(n:Nat)(num:List Int)(pr:Nat→Nat→Prop)(ou0 ou:List Int)(ch:Bool)(k:Nat):Prop where
 is:IS n num pr ou ((k+1:Nat):Int)
 le:smI n num ou n≤smI n num ou0 n
 lt:ch=true→smI n num ou n<smI n num ou0 n
 fx:ch=false→FX n num pr ou ((k+1:Nat):Int)
theorem IR.beg{n:Nat}{num ou:List Int}{pr:Nat→Nat→Prop}(hg:GN n num pr)(h:IS n num pr ou 1):IR n num pr ou ou false 0 :=
 ⟨h,Nat.le_refl _,fun h=>(by cases h),fun _ b hb h0 h1=>absurd (hg.inj b 0 hb hg.n0 (by have:=(hg.rng b hb).1;rw[hg.zero];omega)) h0⟩
section
variable{n:Nat}{num ou0 ou:List Int}{pr:Nat→Nat→Prop}{ch:Bool}{k:Nat}{best:Int}{b:Nat}
theorem IR.set(hg:GN n num pr)(h:IR n num pr ou0 ou ch k)(hb:b<n)(hb0:b≠0)(hi:ix num b=((k+1:Nat):Int))(hB:BS ou (fun p=>pr p b) best)(hne:ix ou b≠best):IR n num pr ou0 (ou.set b best) true (k+1):=by
 obtain⟨h1,h2,h3,h4⟩:=h.is.step hg hb hb0 hi hB
 have h5:=h.is.less hg hb ⟨h1,h2⟩ hne h4
 have h6:=h.le
 exact⟨by rw[show((k+1+1:Nat):Int)=((k+1:Nat):Int)+1 by omega];exact h3,by omega,fun _=>by omega,fun h=>by cases h⟩
theorem IR.keep(hg:GN n num pr)(h:IR n num pr ou0 ou ch k)(hb:b<n)(hb0:b≠0)(hi:ix num b=((k+1:Nat):Int))(hB:BS ou (fun p=>pr p b) best)(he:ix ou b=best):IR n num pr ou0 ou ch (k+1):=by
 obtain⟨h1,h2,h3,h4⟩:=h.is.step hg hb hb0 hi hB
 have hl:b<ou.length:=by rw[h.is.tv.len];exact hb
 have e:ou.set b best=ou:=by rw[←he,ix_eq hl];exact List.set_getElem_self _
 rw[e] at h3
 refine⟨by rw[show((k+1+1:Nat):Int)=((k+1:Nat):Int)+1 by omega];exact h3,h.le,h.lt,fun hc c hc1 hc0 hcn p hp hpd=>?_⟩
 by_cases e9:c=b
 ·subst e9;rw[he];exact hB.an h1 p hp hpd
 ·exact h.fx hc c hc1 hc0 (by have:ix num c≠ix num b:=fun h9=>e9 (hg.inj c b hc1 hb h9);omega) p hp hpd
end
def DomG(g:List (List Int))(out:List Int):Prop:=out.length=g.length∧(∀a b:Nat,a<g.length→b<g.length→(a=b∨¬RB (prG g) a b)→dominM out a b=true)∧∀a b:Nat,a<g.length→b<g.length→dominM out a b=true→a=b∨¬RB (prG g) a b
theorem domF_an{out:List Int}{a:Nat}:∀(k:Nat) {b:Int},0≤b→domF out a k b=true→An out a b.toNat
 | 0,_,_,h=>by cases h
 | k+1,b,hb,h=>by
  rw[domF] at h
  split at h
  ·rename_i e;rw[←e,Int.toNat_natCast];exact .self _
  ·split at h
   ·rcases Int.lt_or_le (ix out b.toNat) 0 with h1|h1
    ·exfalso
     cases k with
     | zero=>cases h
     | succ k=>rw[domF,if_neg (by omega),if_neg (by omega)] at h;cases h
    ·exact .up h1 (domF_an k h1 h)
   ·cases h
theorem an_dom{n:Nat}{num out:List Int}{pr:Nat→Nat→Prop}(hg:GN n num pr)(h:IS n num pr out (n:Int))(hf:FX n num pr out (n:Int)){x b:Nat}(hr:RB pr x b):¬An out x b:=by
 induction hr with
 | zero h0 =>
  intro h1
  cases h1 with
  | self=>exact h0 rfl
  | up h2 _=>have:=h.tv.root;omega
 | @step p t h1 h2 h3 ih =>
  intro h4
  cases h4 with
  | self=>exact h3 rfl
  | up h5 h6 =>
   obtain⟨hp,ht⟩:=hg.prn _ _ h2
   refine ih (h6.trans (hf t ht (fun e=>?_) (hg.rng t ht).2 p h2 (h.fp p hp (hg.rng p hp).2)))
   subst e;have:=h.tv.root;omega
theorem IS.dg{g:List (List Int)}{num out:List Int}(hg:GN g.length num (prG g))(h:IS g.length num (prG g) out (g.length:Int))(hf:FX g.length num (prG g) out (g.length:Int)):DomG g out:=by
 refine⟨h.tv.len,fun a b ha hb hd=>?_,fun a b ha hb hd=>?_⟩
 ·have h1:=h.dm b a hb (h.fp b hb (hg.rng b hb).2) hd
  have hl:=h.tv.len
  unfold dominM inR
  rw[if_pos ⟨by simp;omega,by simp;omega⟩]
  refine domF_yes h.tv _ h1 hb ?_
  have:=hg.rng b hb
  have:=hg.rng a ha
  omega
 ·by_cases e:a=b
  ·exact .inl e
  refine .inr fun hr=>an_dom hg h hf hr ?_
  unfold dominM at hd
  split at hd
  ·have:=domF_an (a:=a) _ (b:=(b:Int)) (by omega) hd
   rwa[Int.toNat_natCast] at this
  ·cases hd
theorem IS.pd{n:Nat}{num out:List Int}{pr:Nat→Nat→Prop}{i:Int}(h:IS n num pr out i){x:Int}(hx:0≤x):pdn out x.toNat↔¬(x≠0∧ix out x.toNat<0):=by
 unfold pdn
 constructor
 ·rintro(h1|h1) ⟨h2,h3⟩<;>omega
 ·intro h1
  by_cases e:x=0
  ·exact .inl (by omega)
  ·exact .inr (by rcases Int.lt_or_le (ix out x.toNat) 0 with h2|h2;exact absurd ⟨e,h2⟩ h1;exact h2)
theorem com_done{n:Nat}{num out:List Int}{pr:Nat→Nat→Prop}(hg:GN n num pr)(hv:TV n num out){a b:Int}:∀(k:Nat) {a' b':Int},CO n num out a b a' b'→(ix num a'.toNat).toNat+(ix num b'.toNat).toNat<k→∃c,comF out num k a' b'=c∧(0≤c∧c<n)∧pdn out c.toNat∧An out c.toNat a.toNat∧An out c.toNat b.toNat∧∀x,An out x a.toNat→An out x b.toNat→An out x c.toNat
 | 0,a',b',_,h=>absurd h (Nat.not_lt_zero _)
 | k+1,a',b',h,hk=>by
  rw[comF]
  have ra:=h.ra
  have rb:=h.rb
  have na:=hg.rng a'.toNat (by omega)
  have nb:=hg.rng b'.toNat (by omega)
  split
  ·rename_i h1
   obtain⟨h2,h3⟩:=h.left hg hv h1
   have:=hg.rng (ix out a'.toNat).toNat (by have:=h2.ra;omega)
   exact com_done hg hv k h2 (by omega)
  ·split
   ·rename_i h1
    obtain⟨h2,h3⟩:=h.right hg hv h1
    have:=hg.rng (ix out b'.toNat).toNat (by have:=h2.rb;omega)
    exact com_done hg hv k h2 (by omega)
   ·exact⟨_,rfl,ra,h.pa,h.done hg (by omega)⟩
theorem comM_done{n:Nat}{num out:List Int}{pr:Nat→Nat→Prop}(hg:GN n num pr)(hv:TV n num out){a b:Int}(ha:0≤a∧a<n)(hb:0≤b∧b<n)(h1:pdn out a.toNat)(h2:pdn out b.toNat):(0≤comM out num a b∧comM out num a b<n)∧pdn out (comM out num a b).toNat∧An out (comM out num a b).toNat a.toNat∧An out (comM out num a b).toNat b.toNat∧∀x,An out x a.toNat→An out x b.toNat→An out x (comM out num a b).toNat:=by
 obtain⟨c,h3,h4⟩:=com_done hg hv _ (CO.beg ha hb h1 h2) (Nat.lt_succ_self _)
 unfold comM
 rw[h3];exact h4
theorem fill_put{n k:Nat}{a b:Int}(hk:k<n):(List.replicate k a++List.replicate (n-k) b).set k a=List.replicate (k+1) a++List.replicate (n-(k+1)) b:=by
 obtain⟨j,hj⟩:∃j,n-k=j+1:=⟨n-k-1,by omega⟩
 rw[hj,show n-(k+1)=j by omega,List.replicate_succ (n:=j),List.set_append_right _ _ (by simp),List.length_replicate,Nat.sub_self,List.set_cons_zero,List.replicate_succ' (n:=k),List.append_assoc];rfl
section
variable{n:Nat}{num ou l:List Int}{pr:Nat→Nat→Prop}{i a best:Int}{j:Nat}
def S9(n:Nat)(ou l:List Int)(j:Nat)(best:Int):Prop:=j≤l.length∧BS ou (Pk l j) best∧-1≤best∧best<(n:Int)
theorem s9_skip(hg:GN n num pr)(hs:IS n num pr ou i)(h:S9 n ou l j best)(ha:ix l j=a)(hr:0≤a∧a<n)(hj:j<l.length)(hc:ix num a.toNat<0∨¬a=0∧ix ou a.toNat<0):S9 n ou l (j+1) best:=by
 refine⟨by omega,h.2.1.skip hj (by omega) ?_,h.2.2⟩
 rw[ha]
 intro h1
 have h2:=(hs.pd hr.1).1 h1
 have h3:=(hg.rng a.toNat (by omega)).1
 rcases hc with h4|h4
 ·omega
 ·exact h2 h4
theorem s9_pd(hs:IS n num pr ou i)(hr:0≤a∧a<n)(hc:¬a=0→0≤ix ou a.toNat):pdn ou a.toNat:=(hs.pd hr.1).2 fun h=>by have:=hc h.1;omega
theorem s9_first(hs:IS n num pr ou i)(h:S9 n ou l j best)(ha:ix l j=a)(hr:0≤a∧a<n)(hj:j<l.length)(hc:¬a=0→0≤ix ou a.toNat)(hb:best<0):S9 n ou l (j+1) a:=by
 have h1:=h.2.1.first hb hj (by omega) (by rw[ha];exact s9_pd hs hr hc)
 rw[ha] at h1
 exact⟨by omega,h1,by omega,hr.2⟩
theorem s9_ok(hg:GN n num pr)(hl:num.length=n)(hs:IS n num pr ou i)(h:S9 n ou l j best)(hr:0≤a∧a<n)(hc:¬a=0→0≤ix ou a.toNat)(hb:0≤best):ComOK ou num best a :=
 ⟨n,pr,hg,hl,hs.tv,CO.beg ⟨hb,h.2.2.2⟩ hr (h.2.1.pd hb) (s9_pd hs hr hc)⟩
theorem s9_com(hg:GN n num pr)(hs:IS n num pr ou i)(h:S9 n ou l j best)(ha:ix l j=a)(hr:0≤a∧a<n)(hj:j<l.length)(hc:¬a=0→0≤ix ou a.toNat)(hb:0≤best):S9 n ou l (j+1) (comM ou num best a):=by
 have hp:=s9_pd hs hr hc
 obtain⟨h1,h2,h3⟩:=comM_done hg hs.tv ⟨hb,h.2.2.2⟩ hr (h.2.1.pd hb) hp
 exact⟨by omega,h.2.1.com hb hj (by omega) (by rw[ha];exact hp) h1.1 h2 (by rw[ha];exact h3),by omega,h1.2⟩
end
theorem S9.all{g:List (List Int)}{ou:List Int}{j b:Nat}{best:Int}(h:S9 g.length ou (ix (predsG g) b) j best)(hj:j=(ix (predsG g) b).length):BS ou (fun p=>prG g p b) best:=by
 subst hj;exact h.2.1.all (fun p=>preds_pr)
theorem ix_drop9{l:List Int}{m k:Nat}:ix (l.drop m) k=ix l (m+k):=by simp[ix,List.getD]
theorem FX.end9{n:Nat}{num out:List Int}{pr:Nat→Nat→Prop}{k:Nat}(h:FX n num pr out ((k+1:Nat):Int))(e:k+1=n):FX n num pr out (n:Int):=by rw[←e] at h ⊢;exact h
theorem IS.end9{n:Nat}{num out:List Int}{pr:Nat→Nat→Prop}{k:Nat}(h:IS n num pr out ((k+1:Nat):Int))(e:k+1=n):IS n num pr out (n:Int):=by rw[←e] at h ⊢;exact h
inductive RA (to:List (List Int)) (n w:Nat):Nat→Prop
 | zero:w≠0→RA to n w 0
 | step {x:Nat} {t:Int}:RA to n w x→t∈ix to x→1≤t→t<n→t≠w→RA to n w t.toNat
theorem RA.nz{to:List (List Int)}{n w x:Nat}(h:RA to n w x):w≠0:=by
 induction h with
 | zero h=>exact h
 | step _ _ _ _ _ ih=>exact ih
theorem ra_lt{to:List (List Int)}{n w x:Nat}(hn:0<n)(h:RA to n w x):x<n:=by
 induction h with
 | zero h=>exact hn
 | step _ _ _ _ _ _=>omega
theorem ra_reach{to:List (List Int)}{f:D.Func}{n w x:Nat}(hl:f.Blocks.length=n)(hn:0<n)(ht:∀j,j<n→(ix f.Blocks j).Term.To=ix to j)(h:RA to n w x):ix (reach3 f (w:Int)) x=true:=by
 have hw:=h.nz
 obtain⟨h0,hc⟩:=reach3_cl (f:=f) (w:=(w:Int)) (by omega) (by omega)
 induction h with
 | zero h=>exact h0
 | @step y t h1 h2 h3 h4 h5 ih=>exact hc _ ih t (by rw[ht _ (ra_lt hn h1)];exact h2) (by omega) (by omega) h5
def mkB(x:D.Block):List Int:=x.Phis.map (fun p=>p.Dst)++x.Ins.flatMap makes3
def Vs(n:Nat)(to:List (List Int))(par:Int)(bs:List D.Block)(b:Nat)(r:Int):Prop:=(0≤r∧r<par)∨∃a,a<n∧(a=b∨¬RA to n a b)∧r∈mkB (ix bs a)
def Vo(n:Nat)(to:List (List Int))(par:Int)(bs:List D.Block)(b:Nat)(r:Int):Prop:=(0≤r∧r<par)∨∃a,a<n∧(a≠b∧¬RA to n a b)∧r∈mkB (ix bs a)
def gIn(S:Int→Prop)(l:List D.Ins):Prop:=∀k,k<l.length→∀r∈(ix l k).Args,S r∨r∈(l.take k).flatMap makes3
theorem gIn.add{S:Int→Prop}{l:List D.Ins}{i:D.Ins}(h:gIn S l)(hi:∀r∈i.Args,S r∨r∈l.flatMap makes3):gIn S (l++[i]):=fun k hk r hr=>by
 rw[List.length_append,List.length_singleton] at hk
 rcases Nat.lt_or_ge k l.length with h1|h1
 ·rw[ix_app h1] at hr
  rw[List.take_append_of_le_length (by omega)];exact h k h1 r hr
 ·have e:k=l.length:=by omega
  subst e
  have e2:ix (l++[i]) l.length=i:=by rw[ix_eq (by simp)];simp
  rw[e2] at hr
  rw[List.take_left' rfl];exact hi r hr
theorem gIn.mono{S S':Int→Prop}{l:List D.Ins}(h:gIn S l)(hs:∀r,S r→S' r):gIn S' l:=fun k hk r hr=>(h k hk r hr).imp (hs r) id
structure VI(n:Nat)(to:List (List Int))(par:Int)(bs:List D.Block):Prop where
 len:bs.length=n
 gd:∀j,j<n→gIn (fun r=>Vo n to par bs j r∨r∈(ix bs j).Phis.map (fun p=>p.Dst)) (ix bs j).Ins
 tm:∀j,j<n→∀r∈(ix bs j).Term.Args,Vs n to par bs j r
 ph:∀j,j<n→∀p∈(ix bs j).Phis,∀x∈p.In,(0≤x.From∧x.From<n)∧Vs n to par bs x.From.toNat x.Val
def upB(bs bs':List D.Block):Prop:=∀j,∀r∈mkB (ix bs j),r∈mkB (ix bs' j)
section
variable{n:Nat}{to:List (List Int)}{par:Int}{bs bs':List D.Block}{b:Nat}{r:Int}
theorem Vs.up(h:Vs n to par bs b r)(hu:upB bs bs'):Vs n to par bs' b r:=h.imp id fun⟨a,h1,h2,h3⟩=>⟨a,h1,h2,hu a r h3⟩
theorem Vo.up(h:Vo n to par bs b r)(hu:upB bs bs'):Vo n to par bs' b r:=h.imp id fun⟨a,h1,h2,h3⟩=>⟨a,h1,h2,hu a r h3⟩
theorem Vs.here(hb:b<n)(h:r∈mkB (ix bs b)):Vs n to par bs b r := .inr ⟨b,hb,.inl rfl,h⟩
theorem Vs.split(h:Vs n to par bs b r):(Vo n to par bs b r∨r∈(ix bs b).Phis.map (fun p=>p.Dst))∨r∈(ix bs b).Ins.flatMap makes3:=by
 rcases h with h|⟨a,h1,h2,h3⟩
 ·exact .inl (.inl (.inl h))
 ·by_cases e:a=b
  ·subst e
   rcases List.mem_append.1 h3 with h4|h4
   ·exact .inl (.inr h4)
   ·exact .inr h4
  ·exact .inl (.inl (.inr ⟨a,h1,⟨e,h2.resolve_left e⟩,h3⟩))
theorem VI.put{x:D.Block}(h:VI n to par bs)(hb:b<n)(hm:∀r∈mkB (ix bs b),r∈mkB x)(hp:x.Phis.map (fun p=>p.Dst)=(ix bs b).Phis.map (fun p=>p.Dst)∨∀r∈(ix bs b).Phis.map (fun p=>p.Dst),r∈x.Phis.map (fun p=>p.Dst))
  (hi:gIn (fun r=>Vo n to par bs b r∨r∈(ix bs b).Phis.map (fun p=>p.Dst)) x.Ins) (ht:∀r∈x.Term.Args,Vs n to par bs b r)
  (hq:∀p∈x.Phis,∀y∈p.In,(0≤y.From∧y.From<n)∧Vs n to par bs y.From.toNat y.Val):VI n to par (bs.set b x)∧upB bs (bs.set b x):=by
 have hl:=h.len
 have hu:upB bs (bs.set b x):=fun j r hr=>by
  rw[ix_set (by omega)];split
  ·rename_i e;subst e;exact hm r hr
  ·exact hr
 have hp':∀r∈(ix bs b).Phis.map (fun p=>p.Dst),r∈x.Phis.map (fun p=>p.Dst):=fun r hr=>hp.elim (fun e=>by rw[e];exact hr) (fun h=>h r hr)
 refine⟨⟨by rw[List.length_set];exact hl,fun j hj=>?_,fun j hj r hr=>?_,fun j hj p hm9 y hy=>?_⟩,hu⟩
 ·rw[ix_set (by omega)];split
  ·rename_i e;subst e
   exact hi.mono fun r hr=>hr.imp (fun h=>h.up hu) (hp' r)
  ·exact(h.gd j hj).mono fun r hr=>hr.imp (fun h=>h.up hu) id
 ·rw[ix_set (by omega)] at hr;split at hr
  ·rename_i e;subst e;exact(ht r hr).up hu
  ·exact(h.tm j hj r hr).up hu
 ·rw[ix_set (by omega)] at hm9;split at hm9
  ·rename_i e;subst e;have:=hq p hm9 y hy;exact⟨this.1,this.2.up hu⟩
  ·have:=h.ph j hj p hm9 y hy;exact⟨this.1,this.2.up hu⟩
theorem VI.addI{i:D.Ins}(h:VI n to par bs)(hb:b<n)(hi:∀r∈i.Args,Vs n to par bs b r):VI n to par (bs.set b { (ix bs b) with Ins:=(ix bs b).Ins++[i] })∧upB bs (bs.set b { (ix bs b) with Ins:=(ix bs b).Ins++[i] })∧∀r∈makes3 i,r∈mkB (ix (bs.set b { (ix bs b) with Ins:=(ix bs b).Ins++[i] }) b):=by
 have h1:=h.put (x:={ (ix bs b) with Ins:=(ix bs b).Ins++[i] }) hb (fun r hr=>by
  unfold mkB at hr ⊢
  dsimp only
  rw[List.flatMap_append]
  rcases List.mem_append.1 hr with h2|h2
  ·exact List.mem_append.2 (.inl h2)
  ·exact List.mem_append.2 (.inr (List.mem_append.2 (.inl h2)))) (.inl rfl) ((h.gd b hb).add fun r hr=>(hi r hr).split) (h.tm b hb) (h.ph b hb)
 refine⟨h1.1,h1.2,fun r hr=>?_⟩
 rw[ix_set (by rw[h.len];exact hb),if_pos rfl]
 unfold mkB
 dsimp only
 rw[List.flatMap_append]
 exact List.mem_append.2 (.inr (List.mem_append.2 (.inr (by simpa using hr))))
end
structure VB(n:Nat)(to:List (List Int))(b:Nat)(par:Int)(bs:List D.Block)(lv:List Int):Prop where
 vi:VI n to par bs
 vl:∀x∈lv,Vs n to par bs b x
abbrev VM(n:Nat)(to:List (List Int))(b:Nat)(m:Mk):Prop:=VB n to b m.par m.bs m.lv
structure VG(n:Nat)(to:List (List Int))(b:Nat)(m m':Mk):Prop where
 vm:VM n to b m'
 par:m'.par=m.par
 up:upB m.bs m'.bs
abbrev Wv(n:Nat)(to:List (List Int))(b:Nat)(m:Mk)(x:Int):Prop:=Vs n to m.par m.bs b x
section
variable{n:Nat}{to:List (List Int)}{b:Nat}{m m' m2:Mk}{x:Int}
theorem VG.on(g:VG n to b m m')(h:Wv n to b m x):Wv n to b m' x:=by unfold Wv;rw[g.par];exact h.up g.up
theorem VG.tr(g:VG n to b m m')(h:VG n to b m' m2):VG n to b m m2:=⟨h.vm,h.par.trans g.par,fun j r hr=>h.up j r (g.up j r hr)⟩
theorem VM.rf(h:VM n to b m):VG n to b m m:=⟨h,rfl,fun _ _ h=>h⟩
theorem VM.same(h:VM n to b m)(h1:m'.par=m.par)(h2:m'.bs=m.bs)(h3:m'.lv=m.lv):VG n to b m m':=⟨by unfold VM;rw[h1,h2,h3];exact h,h1,by rw[h2];exact fun _ _ h=>h⟩
theorem VM.add{i:D.Ins}(h:VM n to b m)(hb:b<n)(hi:∀r∈i.Args,Wv n to b m r):VG n to b m (addS (b:Int) i m)∧∀r∈makes3 i,Wv n to b (addS (b:Int) i m) r:=by
 obtain⟨h1,h2,h3⟩:=h.vi.addI hb hi
 have e:(addS (b:Int) i m).bs=m.bs.set b { (ix m.bs b) with Ins:=(ix m.bs b).Ins++[i] }:=rfl
 have hn:∀r∈makes3 i,Wv n to b (addS (b:Int) i m) r:=fun r hr=>Vs.here hb (h3 r hr)
 refine⟨⟨⟨h1,fun y hy=>?_⟩,rfl,h2⟩,hn⟩
 rcases List.mem_append.1 (show y∈m.lv++makes3 i from hy) with h4|h4
 ·exact(h.vl y h4).up h2
 ·exact hn y h4
theorem VM.con{v:Int}(h:VM n to b m)(hb:b<n):VG n to b m (constS (b:Int) v m)∧Wv n to b (constS (b:Int) v m) m.nx:=by
 have h1:=VM.add (m:=freshS m) (i:=⟨1,m.nx,0,[],v⟩) h hb (fun r hr=>by cases hr)
 exact⟨⟨h1.1.vm,rfl,h1.1.up⟩,h1.2 m.nx (by simp[makes3])⟩
theorem same_value:(valueS m).par=m.par∧(valueS m).bs=m.bs∧(valueS m).lv=m.lv:=by unfold valueS;split<;>exact⟨rfl,rfl,rfl⟩
theorem same_some0:(someM0 m).par=m.par∧(someM0 m).bs=m.bs∧(someM0 m).lv=m.lv:=by
 unfold someM0;split
 ·exact same_value (m:=m)
 ·exact same_value
theorem VM.some(h:VM n to b m)(hb:b<n):VG n to b m (sS9 (b:Int) m)∧Wv n to b (sS9 (b:Int) m) (sV9 m):=by
 obtain⟨e1,e2,e3⟩:=same_some0 (m:=m)
 have h0:VG n to b m (someM0 m):=h.same e1 e2 e3
 unfold sS9 sV9
 by_cases hc:someC m=true
 ·rw[if_pos hc,if_pos hc]
  have h1:=VM.con (m:=wordS (someM0 m)) (v:=wordV (someM0 m)) h0.vm hb
  exact⟨⟨h1.1.vm,e1,fun j r hr=>h1.1.up j r (h0.up j r hr)⟩,h1.2⟩
 ·rw[if_neg hc,if_neg hc]
  refine⟨h0,h0.on ?_⟩
  have hv:valueB m=true:=by
   cases h9:valueB m with
   | true=>rfl
   | false=>exact absurd (by unfold someC;rw[h9];rfl) hc
  have hl:m.lv.length≠0:=by unfold valueB at hv;simpa using hv
  unfold valueV
  rw[if_neg hl]
  have hr:0≤valueI m∧valueI m<m.lv.length:=by
   unfold valueI;split
   ·omega
   ·exact tV9 (by omega) m
  exact h.vl _ (ix_mem (l:=m.lv) (i:=(valueI m).toNat) (by omega))
end
section
variable{n:Nat}{to:List (List Int)}{b:Nat}{m m' m2:Mk}{x:Int}
theorem VG.wv(g:VG n to b m m')(h:∀x∈([]:List Int),Wv n to b m x):True:=trivial
theorem w2{y z:Int}(h1:Wv n to b m y)(h2:Wv n to b m z):∀r∈[y,z],Wv n to b m r:=fun r hr=>by
 simp at hr;rcases hr with rfl|rfl<;>assumption
theorem w1{y:Int}(h1:Wv n to b m y):∀r∈[y],Wv n to b m r:=fun r hr=>by simp at hr;subst hr;exact h1
theorem VM.me1(h:VM n to b m)(hb:b<n):VG n to b m (mem1 (b:Int) m).2∧Wv n to b (mem1 (b:Int) m).2 (mem1 (b:Int) m).1:=by
 have h1:=VM.con (m:=tSS m) (v:=IntKind.i32.wrap (tVV 9 m)) h hb
 have g1:VG n to b m (constS (b:Int) (IntKind.i32.wrap (tVV 9 m)) (tSS m)):=⟨h1.1.vm,rfl,h1.1.up⟩
 have w0:=h1.2
 unfold mem1
 dsimp only
 generalize constS (b:Int) (IntKind.i32.wrap (tVV 9 m)) (tSS m)=m1 at g1 w0 ⊢
 split
 ·have g2:VG n to b m1 (tSS m1):=g1.vm.same rfl rfl rfl
  have h3:=VM.some (m:=tSS m1) g2.vm hb
  have h4:=VM.con (m:=sS9 (b:Int) (tSS m1)) (v:=7) h3.1.vm hb
  have h6:=VM.add (m:=freshS (constS (b:Int) 7 (sS9 (b:Int) (tSS m1)))) (i:=⟨5,(constS (b:Int) 7 (sS9 (b:Int) (tSS m1))).nx,0,[sV9 (tSS m1),(sS9 (b:Int) (tSS m1)).nx],0⟩) h4.1.vm hb (w2 (h4.1.on h3.2) h4.2)
  have g14:=g2.tr (h3.1.tr h4.1)
  generalize constS (b:Int) 7 (sS9 (b:Int) (tSS m1))=m4 at h4 h6 g14 ⊢
  have g6:VG n to b m4 (addS (b:Int) ⟨5,m4.nx,0,[sV9 (tSS m1),(sS9 (b:Int) (tSS m1)).nx],0⟩ (freshS m4)):=⟨h6.1.vm,rfl,h6.1.up⟩
  have w6:=h6.2 m4.nx (by simp[makes3])
  generalize addS (b:Int) ⟨5,m4.nx,0,[sV9 (tSS m1),(sS9 (b:Int) (tSS m1)).nx],0⟩ (freshS m4)=m6 at g6 w6 ⊢
  have h7:=VM.add (m:=freshS m6) (i:=⟨2,m6.nx,0,[(tSS m).nx,m4.nx],0⟩) g6.vm hb (w2 (g6.on (g14.on w0)) w6)
  exact⟨g1.tr (g14.tr (g6.tr ⟨h7.1.vm,rfl,h7.1.up⟩)),h7.2 _ (by simp[makes3])⟩
 ·exact⟨g1.tr (g1.vm.same rfl rfl rfl),w0⟩
theorem VM.me2(h:VM n to b m):VG n to b m (mem2 m).2:=by
 unfold mem2;dsimp only;split<;>exact h.same rfl rfl rfl
theorem VM.mem{st:Bool}(h:VM n to b m)(hb:b<n):VG n to b m (memS (b:Int) st m):=by
 have h1:=h.me1 hb
 have h2:=h1.1.vm.me2
 unfold memS
 dsimp only
 split
 ·have h3:=h2.vm.some hb
  have h4:=h3.1.vm.add (i:=⟨16,0,0,[(mem1 (b:Int) m).1,sV9 (mem2 (mem1 (b:Int) m).2).2],(mem2 (mem1 (b:Int) m).2).1⟩) hb (w2 (h3.1.on (h2.on h1.2)) h3.2)
  exact h1.1.tr (h2.tr (h3.1.tr h4.1))
 ·have h4:=VM.add (m:=freshS (mem2 (mem1 (b:Int) m).2).2) (i:=⟨15,(mem2 (mem1 (b:Int) m).2).2.nx,0,[(mem1 (b:Int) m).1],(mem2 (mem1 (b:Int) m).2).1⟩) h2.vm hb (w1 (h2.on h1.2))
  exact h1.1.tr (h2.tr ⟨h4.1.vm,rfl,h4.1.up⟩)
theorem VM.args(hb:b<n):∀(k:Nat) (l:List Int) (m:Mk),VM n to b m→(∀x∈l,Wv n to b m x)→VG n to b m (argsL (b:Int) k l m).2∧∀x∈(argsL (b:Int) k l m).1,Wv n to b (argsL (b:Int) k l m).2 x
 | 0,l,m,h,hl=>⟨h.rf,hl⟩
 | k+1,l,m,h,hl=>by
  have h1:=h.some hb
  rw[argsL]
  obtain⟨a,d⟩:=VM.args hb k (l++[sV9 m]) (sS9 (b:Int) m) h1.1.vm (fun x hx=>by
   rcases List.mem_append.1 hx with h2|h2
   ·exact h1.1.on (hl x h2)
   ·simp at h2;subst h2;exact h1.2)
  exact⟨h1.1.tr a,d⟩
theorem VM.ad(h:VM n to b m)(hb:b<n){i:D.Ins}(hs:m'.par=m.par)(hs2:m'.bs=m.bs)(hs3:m'.lv=m.lv)(hi:∀r∈i.Args,Wv n to b m r):VG n to b m (addS (b:Int) i m'):=by
 have g:=h.same hs hs2 hs3
 have h1:=g.vm.add (i:=i) hb (fun r hr=>g.on (hi r hr))
 exact g.tr h1.1
theorem VM.co(h:VM n to b m)(hb:b<n){v:Int}(hs:m'.par=m.par)(hs2:m'.bs=m.bs)(hs3:m'.lv=m.lv):VG n to b m (constS (b:Int) v m')∧Wv n to b (constS (b:Int) v m') m'.nx:=by
 have g:=h.same hs hs2 hs3
 have h1:=g.vm.con (v:=v) hb
 exact⟨g.tr h1.1,h1.2⟩
theorem VM.ins(h:VM n to b m)(hb:b<n):VG n to b m (insS (b:Int) m):=by
 have g1:VG n to b m (tSS m):=h.same rfl rfl rfl
 have h2:=g1.vm.some hb
 have h3:=h2.1.vm.some hb
 have w1':=h3.1.on h2.2
 have g3:=g1.tr (h2.1.tr h3.1)
 unfold insS
 dsimp only
 generalize tVV 20 m=k
 generalize tSS m=m1 at g1 h2 h3 w1' g3 ⊢
 split
 ·split
  ·have h4:=VM.co h3.1.vm hb (m':=tSS (tSS (sS9 (b:Int) (sS9 (b:Int) m1)))) (v:=IntKind.i32.wrap (tVV 40 (tSS (sS9 (b:Int) (sS9 (b:Int) m1)))-8)) rfl rfl rfl
   exact g3.tr (h4.1.tr (h4.1.vm.ad hb rfl rfl rfl (w2 (h4.1.on w1') h4.2)))
  ·exact g3.tr (h3.1.vm.ad hb rfl rfl rfl (w2 w1' h3.2))
 split
 ·exact g3.tr (h3.1.vm.ad hb rfl rfl rfl (w2 w1' h3.2))
 split
 ·have h4:=VM.co h2.1.vm hb (m':=tSS (sS9 (b:Int) m1)) (v:=IntKind.i32.wrap (tVV 12 (sS9 (b:Int) m1))) rfl rfl rfl
  have g4:=g1.tr (h2.1.tr h4.1)
  split
  ·have h5:=VM.co h4.1.vm hb (m':=tSS (tSS (constS (b:Int) (IntKind.i32.wrap (tVV 12 (sS9 (b:Int) m1))) (tSS (sS9 (b:Int) m1))))) (v:=IntKind.i32.wrap (1+IntKind.i32.wrap (tVV 12 (tSS (constS (b:Int) (IntKind.i32.wrap (tVV 12 (sS9 (b:Int) m1))) (tSS (sS9 (b:Int) m1))))))) rfl rfl rfl
   exact g4.tr (h5.1.tr (h5.1.vm.ad hb rfl rfl rfl (w2 (h5.1.on (h4.1.on h2.2)) h5.2)))
  ·exact g4.tr (h4.1.vm.ad hb rfl rfl rfl (w2 (h4.1.on h2.2) h4.2))
 split
 ·exact g1.tr (g1.vm.mem hb)
 split
 ·obtain⟨a,d⟩:=VM.args hb (tVV 5 m1).toNat [] (tSS m1) g1.vm (fun x hx=>by cases hx)
  have a':VG n to b m1 (argsL (b:Int) (tVV 5 m1).toNat [] (tSS m1)).2:=⟨a.vm,a.par,a.up⟩
  exact g1.tr (a'.tr (a.vm.ad hb rfl rfl rfl d))
 split
 ·exact g3.tr (h3.1.vm.ad hb rfl rfl rfl (w2 w1' h3.2))
 ·exact g1.tr (VM.co g1.vm hb (m':=wordS m1) (v:=wordV m1) rfl rfl rfl).1
theorem VM.is(hb:b<n):∀(k:Nat) {m:Mk},VM n to b m→VG n to b m (insN b k m)
 | 0,_,h=>h.rf
 | k+1,_,h=>(h.ins hb).tr (VM.is hb k (h.ins hb).vm)
theorem VM.sT{t:D.Term}(h:VM n to b m)(hb:b<n)(hs:m'.par=m.par)(hs2:m'.bs=m.bs)(hs3:m'.lv=m.lv)(ht:∀r∈t.Args,Wv n to b m r):VG n to b m (setT (b:Int) t m'):=by
 have h1:=h.vi.put (x:={ (ix m.bs b) with Term:=t }) hb (fun r hr=>hr) (.inl rfl) (h.vi.gd b hb) ht (h.vi.ph b hb)
 have e:(setT (b:Int) t m').bs=m.bs.set b { (ix m.bs b) with Term:=t }:=by show m'.bs.set _ _=_;rw[hs2];rfl
 exact⟨⟨by rw[e];show VI n to m'.par _;rw[hs];exact h1.1,fun y hy=>by
  rw[e];show Vs n to m'.par _ b y;rw[hs];exact(h.vl y (by rw[←hs3];exact hy)).up h1.2⟩,hs,by rw[e];exact h1.2⟩
theorem VM.en{l:List Int}(h:VM n to b m)(hb:b<n):VG n to b m (endS (b:Int) l m):=by
 unfold endS
 split
 ·split
  ·exact h.sT hb rfl rfl rfl (fun r hr=>by cases hr)
  split
  ·have g1:VG n to b m (tSS m):=h.same rfl rfl rfl
   have h1:=g1.vm.some hb
   exact g1.tr (h1.1.tr (h1.1.vm.sT hb rfl rfl rfl (w1 h1.2)))
  ·exact h.sT hb rfl rfl rfl (fun r hr=>by cases hr)
 split
 ·exact h.sT hb rfl rfl rfl (fun r hr=>by cases hr)
 split
 ·have h3:=h.some hb
  have g2:VG n to b (sS9 (b:Int) m) (tSS (sS9 (b:Int) m)):=h3.1.vm.same rfl rfl rfl
  dsimp only
  split
  ·have h4:=g2.vm.some hb
   have g5:=VM.same (m':=tSS (freshS (sS9 (b:Int) (tSS (sS9 (b:Int) m))))) h4.1.vm rfl rfl rfl
   have h5:=g5.vm.add (i:=⟨ix [11,12,13] (tVV 3 (freshS (sS9 (b:Int) (tSS (sS9 (b:Int) m))))).toNat,(sS9 (b:Int) (tSS (sS9 (b:Int) m))).nx,0,[sV9 m,sV9 (tSS (sS9 (b:Int) m))],0⟩) hb (w2 (g5.on (h4.1.on (g2.on h3.2))) (g5.on h4.2))
   refine h3.1.tr (g2.tr (h4.1.tr (g5.tr (h5.1.tr (h5.1.vm.sT hb rfl rfl rfl (w1 (h5.2 _ ?_)))))))
   have hop:∀i:Nat,i<3→¬ix [(11:Int),12,13] i=16∧¬ix [(11:Int),12,13] i=18:=by decide
   have ho:=hop (tVV 3 (freshS (sS9 (b:Int) (tSS (sS9 (b:Int) m))))).toNat (by have:=tV9 (n:=3) (by omega) (freshS (sS9 (b:Int) (tSS (sS9 (b:Int) m))));omega)
   unfold makes3
   rw[if_neg ho.1,if_neg ho.2];simp
  ·exact h3.1.tr (h3.1.vm.sT hb rfl rfl rfl (w1 h3.2))
 ·have h3:=h.some hb
  have h4:=h3.1.vm.con (v:=7) hb
  have h5:=VM.add (m:=freshS (constS (b:Int) 7 (sS9 (b:Int) m))) (i:=⟨5,(constS (b:Int) 7 (sS9 (b:Int) m)).nx,0,[sV9 m,(sS9 (b:Int) m).nx],0⟩) h4.1.vm hb (w2 (h4.1.on h3.2) h4.2)
  dsimp only
  have g5:VG n to b (constS (b:Int) 7 (sS9 (b:Int) m)) (addS (b:Int) ⟨5,(constS (b:Int) 7 (sS9 (b:Int) m)).nx,0,[sV9 m,(sS9 (b:Int) m).nx],0⟩ (freshS (constS (b:Int) 7 (sS9 (b:Int) m)))):=⟨h5.1.vm,rfl,h5.1.up⟩
  exact h3.1.tr (h4.1.tr (g5.tr (g5.vm.sT hb rfl rfl rfl (w1 (h5.2 _ (by simp[makes3]))))))
end
abbrev VN(n:Nat)(to:List (List Int))(m:Mk):Prop:=VI n to m.par m.bs
section
variable{n b c:Nat}{to:List (List Int)}{m m':Mk}
theorem RI.ra(h:RI n b c to m)(hn:0<n){w x:Nat}(hr:ix (reach3 (fnM m) (w:Int)) x=false):¬RA to n w x:=fun h9=>by
 have:=ra_reach (f:=fnM m) h.len hn h.tos h9
 rw[hr] at this;cases this
theorem VN.lm{dn:List Bool}{q:Nat}(v:VN n to m)(h:RI n b c to m)(hn:0<n):VM n to q (lvM n q dn m):=⟨v,fun x hx=>by
 show Vs n to m.par m.bs q x
 rcases List.mem_append.1 (show x∈numsL m.par.toNat++(List.range n).flatMap (fun i=>lvB (fnM m) dn q i) from hx) with h1|h1
 ·have:=numsL_mem h1;exact .inl (by omega)
 ·obtain⟨a,h2,h3⟩:=List.mem_flatMap.1 h1
  have ha:=List.mem_range.1 h2
  unfold lvB at h3
  split at h3
  ·cases h3
  ·rename_i hs
   refine .inr ⟨a,ha,?_,h3⟩
   by_cases e:a=q
   ·exact .inl e
   ·refine .inr (h.ra hn ?_)
    unfold skipA at hs
    simp[e] at hs
    exact hs.2⟩
theorem VN.bl{dn:List Bool}{q:Nat}(v:VN n to m)(h:RI n b c to m)(hq:q<n):VN n to (blkM n to q dn m)∧(blkM n to q dn m).par=m.par:=by
 have h0:=v.lm (dn:=dn) (q:=q) h (by omega)
 have g1:VG n to q (lvM n q dn m) (tSS (lvM n q dn m)):=h0.same rfl rfl rfl
 have g2:=VM.is hq (tVV 7 (lvM n q dn m)).toNat g1.vm
 have g3:=VM.en (l:=ix to q) g2.vm hq
 unfold blkM
 exact⟨g3.vm.vi,g3.par.trans g2.par⟩
theorem VN.row(hP:PB n to)(hL:∀j,(ix to j).length≤65):∀(k b c:Nat) (dn:List Bool) (m:Mk),b+k=n→dn.length=n→(∀j,j<n→ix dn j=decide (j<b))→RI n b c to m→VN n to m→VN n to (rowS n to k b dn m).2
 | 0,b,c,dn,m,hb,hl,hd,h,v=>v
 | k+1,b,c,dn,m,hb,hl,hd,h,v=>by
  rw[rowS,if_pos (h.ready hP (by omega) hd)]
  exact VN.row hP hL k (b+1) (c+120) (dn.set b true) (blkM n to b (dn.set b true) m) (by omega) (by rw[List.length_set];exact hl) (fun j hj=>by
   rw[ix_set (by omega)];split
   ·rename_i e;subst e;simp
   ·rename_i e;rw[hd j hj,decide_eq_decide];omega) (h.bl (by omega) hL) (v.bl h (by omega)).1
theorem VN.turn(hP:PB n to)(hL:∀j,(ix to j).length≤65)(hn:0<n)(h:RI n 0 c to m)(v:VN n to m):VN n to (turnS n to n (List.replicate n false) m).2:=by
 obtain⟨k,rfl⟩:∃k,n=k+1:=⟨n-1,by omega⟩
 rw[turnS]
 obtain⟨x,y⟩:=RI.row hP hL (k+1) 0 c (List.replicate (k+1) false) m (by omega) (by simp) (fun j hj=>by rw[ix_rep];simp) h
 rw[turn_idle k _ _ y]
 exact VN.row hP hL (k+1) 0 c (List.replicate (k+1) false) m (by omega) (by simp) (fun j hj=>by rw[ix_rep];simp) h v
theorem VN.ap{j:Nat}(v:VN n to m)(hj:j<n):VN n to (addP j m):=by
 refine(VI.put (x:={ (ix m.bs j) with Phis:=(ix m.bs j).Phis++[⟨m.nx,[]⟩] }) v hj (fun r hr=>?_) (.inr fun r hr=>?_) (v.gd j hj) (v.tm j hj) (fun p hp x hx=>?_)).1
 ·unfold mkB at hr ⊢
  dsimp only
  rw[List.map_append]
  rcases List.mem_append.1 hr with h2|h2
  ·exact List.mem_append.2 (.inl (List.mem_append.2 (.inl h2)))
  ·exact List.mem_append.2 (.inr h2)
 ·rw[List.map_append];exact List.mem_append.2 (.inl hr)
 ·rcases List.mem_append.1 hp with h2|h2
  ·exact v.ph j hj p h2 x hx
  ·simp at h2;subst h2;cases hx
theorem VN.pn{j:Nat}(hj:j<n):∀(k:Nat) {m:Mk},VN n to m→VN n to (phiN j k m)
 | 0,_,h=>h
 | k+1,_,h=>VN.pn hj k (h.ap hj)
theorem VN.ps:∀(k j:Nat) (ph:List Int) (m:Mk),j+k=n→VN n to m→VN n to (phiS k j ph m).2
 | 0,j,ph,m,hj,h=>h
 | k+1,j,ph,m,hj,h=>by
  rw[phiS]
  exact VN.ps k (j+1) _ _ (by omega) (VN.pn (m:=tSS m) (by omega) _ h)
theorem phL_in{t:D.Tg3}{x:Int}{b:Int}:∀(l:List D.Phi) (i:Nat),t∈phL b i l→x∈t.Makes→t.Block=b∧x∈l.map (fun p=>p.Dst)
 | [],_,h,_=>by cases h
 | p::l,i,h,hx=>by
  rw[phL] at h
  rcases List.mem_cons.1 h with rfl|h
  ·simp[phT] at hx;subst hx;exact⟨rfl,by simp⟩
  ·have:=phL_in l _ h hx;exact⟨this.1,by simp only[List.map_cons,List.mem_cons];exact .inr this.2⟩
theorem inL_in{t:D.Tg3}{x:Int}{b:Int}:∀(l:List D.Ins) (i:Nat),t∈inL b i l→x∈t.Makes→t.Block=b∧x∈l.flatMap makes3
 | [],_,h,_=>by cases h
 | p::l,i,h,hx=>by
  rw[inL] at h
  rcases List.mem_cons.1 h with rfl|h
  ·exact⟨rfl,List.mem_flatMap.2 ⟨p,by simp,hx⟩⟩
  ·have:=inL_in l _ h hx
   obtain⟨q,h1,h2⟩:=List.mem_flatMap.1 this.2
   exact⟨this.1,List.mem_flatMap.2 ⟨q,by simp[h1],h2⟩⟩
theorem blL_in{t:D.Tg3}{x:Int}:∀(l:List D.Block) (k:Nat),t∈blL k l→x∈t.Makes→∃a:Nat,a<l.length∧t.Block=((k+a:Nat):Int)∧x∈mkB (ix l a)
 | [],_,h,_=>by cases h
 | y::l,k,h,hx=>by
  rw[blL] at h
  rcases List.mem_append.1 h with h1|h1
  ·have:=phL_in _ _ h1 hx
   exact⟨0,by simp,by rw[this.1];simp,List.mem_append.2 (.inl this.2)⟩
  ·rcases List.mem_append.1 h1 with h1|h1
   ·have:=inL_in _ _ h1 hx
    exact⟨0,by simp,by rw[this.1];simp,List.mem_append.2 (.inr this.2)⟩
   ·rcases List.mem_cons.1 h1 with rfl|h1
    ·cases hx
    ·obtain⟨a,h2,h3,h4⟩:=blL_in l (k+1) h1 hx
     exact⟨a+1,by simp;omega,by rw[h3];congr 1;omega,by rw[ix_cons];exact h4⟩
theorem VN.stand{p:Int}(v:VN n to m)(h:RI n b c to m)(hp:0≤p∧p<n):∀x∈stand3 (fnM m) p,Wv n to p.toNat m x:=fun x hx=>by
 rcases List.mem_append.1 hx with h1|h1
 ·have:=numsL_mem h1
  have e:(fnM m).Params=m.par:=rfl
  rw[e] at this;exact .inl (by omega)
 ·obtain⟨t,h2,h3⟩:=List.mem_flatMap.1 h1
  split at h3
  ·rename_i hs
   obtain⟨a,h4,h5,h6⟩:=blL_in m.bs 0 h2 h3
   rw[h.len] at h4
   refine .inr ⟨a,h4,?_,h6⟩
   unfold stands3 at hs
   rw[Bool.or_eq_true,decide_eq_true_eq,h5,Nat.zero_add] at hs
   rcases hs with hs|hs
   ·exact .inl (by omega)
   ·exact .inr (h.ra (by omega) (by simpa using hs))
  ·cases h3
end
structure UI(par nx:Int)(bs:List D.Block):Prop where
 pn:par≤nx
 rg:∀j,∀r∈mkB (ix bs j),par≤r∧r<nx
 nd:∀j,(mkB (ix bs j)).Nodup
 dj:∀i j,i≠j→∀r∈mkB (ix bs i),r∉mkB (ix bs j)
theorem UI.put{par nx nx':Int}{bs:List D.Block}{b:Nat}{x:D.Block}{ms:List Int}(h:UI par nx bs)(hn:nx≤nx')(hp:(mkB x).Perm (mkB (ix bs b)++ms))(hm:∀r∈ms,nx≤r∧r<nx')(hd:ms.Nodup):UI par nx' (bs.set b x):=by
 by_cases hb:b<bs.length
 ·have hs:∀j,ix (bs.set b x) j=if j=b then x else ix bs j:=fun j=>ix_set hb
  have hx:∀r∈mkB x,r∈mkB (ix bs b)∨r∈ms:=fun r hr=>List.mem_append.1 (hp.mem_iff.1 hr)
  have hpn:=h.pn
  refine⟨by omega,fun j r hr=>?_,fun j=>?_,fun i j hij r hr hr2=>?_⟩
  ·rw[hs] at hr;split at hr
   ·rcases hx r hr with h1|h1
    ·have:=h.rg b r h1;omega
    ·have:=hm r h1;omega
   ·have:=h.rg j r hr;omega
  ·rw[hs];split
   ·exact hp.nodup_iff.2 (List.nodup_append.2 ⟨h.nd b,hd,fun y hy z hz e=>by have:=h.rg b y hy;have:=hm z hz;omega⟩)
   ·exact h.nd j
  ·rw[hs] at hr hr2
   split at hr
   ·rename_i e;subst e
    rw[if_neg (fun e=>hij e.symm)] at hr2
    rcases hx r hr with h1|h1
    ·exact h.dj _ _ hij r h1 hr2
    ·have:=h.rg j r hr2;have:=hm r h1;omega
   ·split at hr2
    ·rename_i e;subst e
     rcases hx r hr2 with h1|h1
     ·exact h.dj _ _ hij r hr h1
     ·have:=h.rg i r hr;have:=hm r h1;omega
    ·exact h.dj _ _ hij r hr hr2
 ·rw[List.set_eq_of_length_le (by omega)]
  exact⟨by have:=h.pn;omega,fun j r hr=>by have:=h.rg j r hr;omega,h.nd,h.dj⟩
def UG(m m':Mk):Prop:=m'.par=m.par∧(UI m.par m.nx m.bs→UI m'.par m'.nx m'.bs)
section
variable{m m' m2:Mk}{j:Int}{b:Nat}
theorem UG.rf:UG m m:=⟨rfl,id⟩
theorem UG.tr(h:UG m m')(h2:UG m' m2):UG m m2:=⟨h2.1.trans h.1,fun h3=>h2.2 (h.2 h3)⟩
theorem UG.same(h1:m'.par=m.par)(h2:m'.bs=m.bs)(h3:m'.nx=m.nx):UG m m':=⟨h1,by rw[h1,h2,h3];exact id⟩
theorem mk_ins{x:D.Block}{i:D.Ins}:mkB { x with Ins:=x.Ins++[i] }=mkB x++makes3 i:=by unfold mkB;rw[List.flatMap_append];simp
theorem UG.ad{i:D.Ins}(h1:m'.par=m.par)(h2:m'.bs=m.bs)(h3:m.nx≤m'.nx)(hm:∀r∈makes3 i,m.nx≤r∧r<m'.nx)(hd:(makes3 i).Nodup):UG m (addS j i m'):=⟨h1,fun h=>by
 show UI m'.par m'.nx (m'.bs.set _ _)
 rw[h1,h2]
 exact h.put h3 (by rw[mk_ins]) hm hd⟩
theorem UG.one{op v x:Int}{a:List Int}(h1:m'.par=m.par)(h2:m'.bs=m.bs)(h3:m'.nx=m.nx+1)(hx:x=m.nx)(ho:op≠16∧op≠18):UG m (addS j ⟨op,x,0,a,v⟩ m'):=by
 have e:makes3 ⟨op,x,0,a,v⟩=[x]:=by unfold makes3;rw[if_neg ho.1,if_neg ho.2]
 refine UG.ad h1 h2 (by omega) (fun r hr=>?_) (by rw[e];simp)
 rw[e] at hr;simp at hr;omega
theorem UG.con{v:Int}(h:UG m m'):UG m (constS j v m'):=h.tr (UG.one (m':=freshS m') rfl rfl rfl rfl (by omega))
theorem UG.tk(h:UG m m'):UG m (tSS m'):=h.tr (.same rfl rfl rfl)
theorem UG.wd(h:UG m m'):UG m (wordS m'):=h.tr (.same rfl rfl rfl)
theorem UG.aF{op v:Int}{a:List Int}(h:UG m m')(ho:op≠16∧op≠18):UG m (addS j ⟨op,m'.nx,0,a,v⟩ (freshS m')):=h.tr (UG.one rfl rfl rfl rfl ho)
theorem UG.aT{op v:Int}{a:List Int}(h:UG m m')(ho:op≠16∧op≠18):UG m (addS j ⟨op,m'.nx,0,a,v⟩ (tSS (freshS m'))):=h.tr (UG.one rfl rfl rfl rfl ho)
theorem UG.val(h:UG m m'):UG m (valueS m'):=by unfold valueS;split;exact h;exact .tk (.tk h)
theorem UG.som0(h:UG m m'):UG m (someM0 m'):=by
 unfold someM0;split
 ·exact .tk (.val h)
 ·exact .val h
theorem UG.som(h:UG m m'):UG m (sS9 j m'):=by
 unfold sS9;split
 ·exact .con (.wd (.som0 h))
 ·exact .som0 h
theorem UG.me1(h:UG m m'):UG m (mem1 j m').2:=by
 unfold mem1;dsimp only;split
 ·exact .aF (.aF (.con (.som (.tk (.con (.tk h))))) (by omega)) (by omega)
 ·exact .tk (.con (.tk h))
theorem UG.me2(h:UG m m'):UG m (mem2 m').2:=by unfold mem2;dsimp only;split<;>exact h.tr (.same rfl rfl rfl)
theorem UG.mem{st:Bool}(h:UG m m'):UG m (memS j st m'):=by
 unfold memS;dsimp only;split
 ·exact UG.tr (m':=sS9 j (mem2 (mem1 j m').2).2) (.som (.me2 (.me1 h))) (UG.ad rfl rfl (Int.le_refl _) (fun r hr=>by simp[makes3] at hr) (by simp[makes3]))
 ·exact .aF (.me2 (.me1 h)) (by omega)
theorem UG.args:∀(k:Nat) (l:List Int) (m':Mk),UG m m'→UG m (argsL j k l m').2
 | 0,_,_,h=>h
 | k+1,l,m',h=>by rw[argsL];exact UG.args k _ _ (.som h)
theorem op_no{i:Nat}(h:i<12):ix [(2:Int),2,3,4,5,6,7,8,9,10,12,11] i≠16∧ix [(2:Int),2,3,4,5,6,7,8,9,10,12,11] i≠18:=by
 have:∀i:Nat,i<12→ix [(2:Int),2,3,4,5,6,7,8,9,10,12,11] i≠16∧ix [(2:Int),2,3,4,5,6,7,8,9,10,12,11] i≠18:=by decide
 exact this i h
theorem UG.mw{a:List Int}(h:UG m m'):UG m (addS j ⟨18,m'.nx,(freshS m').nx,a,0⟩ (freshS (freshS m'))):=by
 refine h.tr (UG.ad rfl rfl (by show _≤_+1+1;omega) (fun r hr=>?_) (by simp[makes3,freshS];omega))
 have hr':r=m'.nx∨r=m'.nx+1:=by simpa[makes3,freshS] using hr
 show _∧_<_+1+1
 omega
theorem UG.ins(h:UG m m'):UG m (insS j m'):=by
 have hk:=tV9 (n:=20) (by omega) m'
 unfold insS;dsimp only
 generalize tVV 20 m'=k at hk
 have h3:UG m (sS9 j (sS9 j (tSS m'))) := .som (.som (.tk h))
 split
 ·split
  ·exact .aF (.con (.tk (.tk h3))) (op_no (by omega))
  ·exact .aF (.tk h3) (op_no (by omega))
 split
 ·exact .aF h3 (by omega)
 split
 ·split
  ·exact .aF (.con (.tk (.tk (.con (.tk (.som (.tk h))))))) (by omega)
  ·exact .aF (.tk (.con (.tk (.som (.tk h))))) (by omega)
 split
 ·exact .mem (.tk h)
 split
 ·exact .aT (UG.args _ _ _ (.tk (.tk h))) (by omega)
 split
 ·exact .mw h3
 ·exact .con (.wd (.tk h))
theorem UG.is:∀(k:Nat) (m':Mk),UG m m'→UG m (insN b k m')
 | 0,_,h=>h
 | k+1,m',h=>by rw[insN];exact UG.is k _ (.ins h)
theorem UG.sT{t:D.Term}(h:UG m m'):UG m (setT j t m'):=h.tr ⟨rfl,fun h=>by
 show UI m'.par m'.nx (m'.bs.set _ _)
 exact h.put (ms:=[]) (Int.le_refl _) (by rw[List.append_nil];exact List.Perm.refl _) (fun r hr=>by cases hr) List.nodup_nil⟩
theorem UG.en{l:List Int}(h:UG m m'):UG m (endS j l m'):=by
 unfold endS
 split
 ·split
  ·exact .sT (.tk (.tk h))
  split
  ·exact .sT (.som (.tk h))
  ·exact .sT (.tk h)
 split
 ·exact .sT h
 split
 ·dsimp only
  split
  ·have ho:∀i:Nat,i<3→ix [(11:Int),12,13] i≠16∧ix [(11:Int),12,13] i≠18:=by decide
   have hr:=tV9 (n:=3) (by omega) (freshS (sS9 j (tSS (sS9 j m'))))
   exact .sT (.aT (.som (.tk (.som h))) (ho _ (by omega)))
  ·exact .sT (.tk (.som h))
 ·dsimp only
  exact .sT (.aF (.con (.som h)) (by omega))
theorem UG.bl{n:Nat}{to:List (List Int)}{dn:List Bool}:UG m (blkM n to b dn m):=by
 unfold blkM
 exact UG.en (UG.is _ _ (.tk (.same rfl rfl rfl)))
theorem UG.row{n:Nat}{to:List (List Int)}:∀(k b:Nat) (dn:List Bool) (m:Mk),UG m (rowS n to k b dn m).2
 | 0,_,_,_ => .rf
 | k+1,b,dn,m=>by
  rw[rowS];split
  ·exact UG.bl.tr (UG.row k _ _ _)
  ·exact UG.row k _ _ _
theorem UG.turn{n:Nat}{to:List (List Int)}:∀(k:Nat) (dn:List Bool) (m:Mk),UG m (turnS n to k dn m).2
 | 0,_,_ => .rf
 | k+1,dn,m=>by rw[turnS];exact(UG.row _ _ _ _).tr (UG.turn k _ _)
theorem UG.ap:UG m (addP b m):=⟨rfl,fun h=>by
 show UI m.par (m.nx+1) (m.bs.set _ _)
 refine h.put (ms:=[m.nx]) (by omega) ?_ (fun r hr=>by simp at hr;omega) (by simp)
 show(mkB { (ix m.bs b) with Phis:=(ix m.bs b).Phis++[⟨m.nx,[]⟩] }).Perm _
 unfold mkB
 dsimp only
 rw[List.map_append,List.append_assoc,List.append_assoc]
 exact List.Perm.append_left _ List.perm_append_comm⟩
theorem UG.pn:∀(k:Nat) (m:Mk),UG m (phiN b k m)
 | 0,_ => .rf
 | k+1,m=>by rw[phiN];exact UG.ap.tr (UG.pn k _)
theorem UG.ps:∀(k j:Nat) (ph:List Int) (m:Mk),UG m (phiS k j ph m).2
 | 0,_,_,_ => .rf
 | k+1,j,ph,m=>by rw[phiS];exact UG.tr (m':=tSS m) (.tk .rf) ((UG.pn _ _).tr (UG.ps k _ _ _))
end
def wv(b p:Int):Value := .agg #[.int .i64 b,.int .i64 p]
def insA(b p:Int)(l:List Int)(L:List (Int×Value)):List (Int×Value):=l.foldl (fun m n=>upM m n (wv b p)) L
theorem lk_insA{b p:Int}:∀(l:List Int) (L:List (Int×Value)) (n:Int),lkM (insA b p l L) n=if n∈l then some (wv b p) else lkM L n
 | [],L,n=>by simp[insA]
 | x::l,L,n=>by
  have h:=lk_insA (b:=b) (p:=p) l (upM L x (wv b p)) n
  unfold insA at h ⊢
  rw[List.foldl_cons,h,upM_lk]
  by_cases h1:n∈l
  ·rw[if_pos h1,if_pos (by simp[h1])]
  ·rw[if_neg h1]
   by_cases h2:n=x
   ·rw[if_pos h2,if_pos (by simp[h2])]
   ·rw[if_neg h2,if_neg (by simp[h1,h2])]
theorem insA_app{b p:Int}{l:List Int}{n:Int}{L:List (Int×Value)}:insA b p (l++[n]) L=upM (insA b p l L) n (wv b p):=by unfold insA;rw[List.foldl_append];rfl
def phA(b:Int)(ps:List D.Phi)(L:List (Int×Value)):Nat→List (Int×Value)
 | 0=>L
 | k+1=>insA b (-1-k) [(ix ps k).Dst] (phA b ps L k)
def inA(b:Int)(is:List D.Ins)(L:List (Int×Value)):Nat→List (Int×Value)
 | 0=>L
 | k+1=>insA b k (makes3 (ix is k)) (inA b is L k)
def bkA(bs:List D.Block):Nat→List (Int×Value)
 | 0=>[]
 | k+1=>inA k (ix bs k).Ins (phA k (ix bs k).Phis (bkA bs k) (ix bs k).Phis.length) (ix bs k).Ins.length
theorem phA_no{b:Int}{ps:List D.Phi}{L:List (Int×Value)}{n:Int}:∀{k:Nat},lkM (phA b ps L k) n=none↔lkM L n=none∧∀i,i<k→n≠(ix ps i).Dst
 | 0=>by simp[phA]
 | k+1=>by
  have ih:=phA_no (b:=b) (ps:=ps) (L:=L) (n:=n) (k:=k)
  rw[phA,lk_insA]
  constructor
  ·intro h
   split at h
   ·cases h
   ·rename_i h1
    have h2:=ih.1 h
    refine⟨h2.1,fun i hi e=>?_⟩
    rcases Nat.lt_or_ge i k with h3|h3
    ·exact h2.2 i h3 e
    ·rw[show i=k by omega] at e;exact h1 (by simp[e])
  ·rintro⟨h1,h2⟩
   rw[if_neg (by simpa using h2 k (by omega))]
   exact ih.2 ⟨h1,fun i hi=>h2 i (by omega)⟩
theorem inA_no{b:Int}{is:List D.Ins}{L:List (Int×Value)}{n:Int}:∀{k:Nat},lkM (inA b is L k) n=none↔lkM L n=none∧∀i,i<k→n∉makes3 (ix is i)
 | 0=>by simp[inA]
 | k+1=>by
  have ih:=inA_no (b:=b) (is:=is) (L:=L) (n:=n) (k:=k)
  rw[inA,lk_insA]
  constructor
  ·intro h
   split at h
   ·cases h
   ·rename_i h1
    have h2:=ih.1 h
    refine⟨h2.1,fun i hi e=>?_⟩
    rcases Nat.lt_or_ge i k with h3|h3
    ·exact h2.2 i h3 e
    ·rw[show i=k by omega] at e;exact h1 e
  ·rintro⟨h1,h2⟩
   rw[if_neg (h2 k (by omega))]
   exact ih.2 ⟨h1,fun i hi=>h2 i (by omega)⟩
theorem mkB_ix{x:D.Block}{n:Int}:n∈mkB x↔(∃i,i<x.Phis.length∧n=(ix x.Phis i).Dst)∨∃i,i<x.Ins.length∧n∈makes3 (ix x.Ins i):=by
 unfold mkB
 rw[List.mem_append]
 refine or_congr ⟨fun h=>?_,fun⟨i,h1,h2⟩=>?_⟩ ⟨fun h=>?_,fun⟨i,h1,h2⟩=>?_⟩
 ·obtain⟨p,h1,rfl⟩:=List.mem_map.1 h
  obtain⟨i,hi,e⟩:=List.getElem_of_mem h1
  exact⟨i,hi,by rw[ix_eq hi,e]⟩
 ·rw[h2];exact List.mem_map.2 ⟨_,ix_mem h1,rfl⟩
 ·obtain⟨p,h1,h2⟩:=List.mem_flatMap.1 h
  obtain⟨i,hi,e⟩:=List.getElem_of_mem h1
  exact⟨i,hi,by rw[ix_eq hi,e];exact h2⟩
 ·exact List.mem_flatMap.2 ⟨_,ix_mem h1,h2⟩
theorem bkA_no{bs:List D.Block}{n:Int}:∀{k:Nat},lkM (bkA bs k) n=none↔∀b,b<k→n∉mkB (ix bs b)
 | 0=>by simp[bkA,lkM]
 | k+1=>by
  have ih:=bkA_no (bs:=bs) (n:=n) (k:=k)
  rw[bkA,inA_no,phA_no,ih]
  constructor
  ·rintro⟨⟨h1,h2⟩,h3⟩ b hb h4
   rcases Nat.lt_or_ge b k with h5|h5
   ·exact h1 b h5 h4
   ·rw[show b=k by omega] at h4
    rcases mkB_ix.1 h4 with⟨i,h6,h7⟩|⟨i,h6,h7⟩
    ·exact h2 i h6 h7
    ·exact h3 i h6 h7
  ·intro h
   refine⟨⟨fun b hb=>h b (by omega),fun i hi e=>h k (by omega) (mkB_ix.2 (.inl ⟨i,hi,e⟩))⟩,fun i hi e=>h k (by omega) (mkB_ix.2 (.inr ⟨i,hi,e⟩))⟩
def PosAt(bs:List D.Block)(v:Int)(wb:Nat)(wp:Int):Prop:=wb<bs.length∧((∃i,i<(ix bs wb).Phis.length∧v=(ix (ix bs wb).Phis i).Dst∧wp=-1-(i:Int))∨∃i,i<(ix bs wb).Ins.length∧v∈makes3 (ix (ix bs wb).Ins i)∧wp=(i:Int))
structure Once(bs:List D.Block):Prop where
 nd:∀j,(mkB (ix bs j)).Nodup
 dj:∀i j,i≠j→∀r∈mkB (ix bs i),r∉mkB (ix bs j)
theorem nodup_flat{α β:Type}[Inhabited α]{f:α→List β}:∀{l:List α},(l.flatMap f).Nodup→∀{i j:Nat},i<l.length→j<l.length→i≠j→∀x∈f (ix l i),x∉f (ix l j)
 | [],_,i,_,hi,_,_=>by cases hi
 | a::l,h,i,j,hi,hj,hij=>by
  rw[List.flatMap_cons,List.nodup_append] at h
  obtain⟨h1,h2,h3⟩:=h
  intro x hx hx2
  have fl:∀{k:Nat},k<l.length→x∈f (ix l k)→x∈l.flatMap f:=fun hk hx=>List.mem_flatMap.2 ⟨_,ix_mem hk,hx⟩
  cases i with
  | zero =>
   cases j with
   | zero=>exact hij rfl
   | succ j =>
    rw[ix_zero] at hx;rw[ix_cons] at hx2
    exact h3 x hx x (fl (by simpa using hj) hx2) rfl
  | succ i =>
   rw[ix_cons] at hx
   cases j with
   | zero=>rw[ix_zero] at hx2;exact h3 x hx2 x (fl (by simpa using hi) hx) rfl
   | succ j=>rw[ix_cons] at hx2;exact nodup_flat h2 (by simpa using hi) (by simpa using hj) (by omega) x hx hx2
theorem Once.phi{bs:List D.Block}(h:Once bs){b i:Nat}(hi:i<(ix bs b).Phis.length):lkM (phA b (ix bs b).Phis (bkA bs b) i) (ix (ix bs b).Phis i).Dst=none:=by
 have hm:(ix (ix bs b).Phis i).Dst∈mkB (ix bs b):=mkB_ix.2 (.inl ⟨i,hi,rfl⟩)
 have hn:=(List.nodup_append.1 (h.nd b)).1
 refine phA_no.2 ⟨bkA_no.2 fun c hc h1=>h.dj b c (by omega) _ hm h1,fun j hj e=>?_⟩
 have:=nodup_inj hn (i:=i) (j:=j) (by simpa using hi) (by simp;omega) (by rw[List.getElem_map,List.getElem_map,←ix_eq hi,←ix_eq (show j<_ by omega)];exact e)
 omega
theorem Once.ins{bs:List D.Block}(h:Once bs){b i:Nat}(hi:i<(ix bs b).Ins.length){n:Int}(hn:n∈makes3 (ix (ix bs b).Ins i)):lkM (inA b (ix bs b).Ins (phA b (ix bs b).Phis (bkA bs b) (ix bs b).Phis.length) i) n=none:=by
 have hm:n∈mkB (ix bs b):=mkB_ix.2 (.inr ⟨i,hi,hn⟩)
 obtain⟨h1,h2,h3⟩:=List.nodup_append.1 (h.nd b)
 refine inA_no.2 ⟨phA_no.2 ⟨bkA_no.2 fun c hc h4=>h.dj b c (by omega) _ hm h4,fun j hj e=>?_⟩,fun j hj e=>?_⟩
 ·exact h3 n (by rw[e];exact List.mem_map.2 ⟨_,ix_mem hj,rfl⟩) n (List.mem_flatMap.2 ⟨_,ix_mem hi,hn⟩) rfl
 ·exact nodup_flat h2 hi (by omega) (show i≠j by omega) n hn e
theorem Once.mks{bs:List D.Block}(h:Once bs){b i:Nat}:(makes3 (ix (ix bs b).Ins i)).Nodup:=by
 rcases Nat.lt_or_ge i (ix bs b).Ins.length with hi|hi
 ·have h2:=(List.nodup_append.1 (h.nd b)).2.1
  have:∀{l:List D.Ins},(l.flatMap makes3).Nodup→∀x∈l,(makes3 x).Nodup:=by
   intro l
   induction l with
   | nil=>intro _ x hx;cases hx
   | cons a l ih =>
    intro h x hx
    rw[List.flatMap_cons,List.nodup_append] at h
    rcases List.mem_cons.1 hx with e|e
    ·subst e;exact h.1
    ·exact ih h.2.1 x e
  exact this h2 _ (ix_mem hi)
 ·rw[ix_out (l:=(ix bs b).Ins) hi];exact(by decide:(makes3 (default:D.Ins)).Nodup)
theorem Once.at{bs:List D.Block}(h:Once bs){v:Int}{wb:Nat}{wp:Int}(hp:PosAt bs v wb wp):∀k,wb<k→lkM (bkA bs k) v=some (wv wb wp)
 | 0,hk=>absurd hk (Nat.not_lt_zero _)
 | k+1,hk=>by
  obtain⟨h1,h2⟩:=hp
  have hm:v∈mkB (ix bs wb):=by
   rcases h2 with⟨i,h3,h4,_⟩|⟨i,h3,h4,_⟩
   ·exact mkB_ix.2 (.inl ⟨i,h3,h4⟩)
   ·exact mkB_ix.2 (.inr ⟨i,h3,h4⟩)
  have up:∀(l:List D.Ins) (b:Int) (L:List (Int×Value)) (m:Nat),(∀i,i<m→v∉makes3 (ix l i))→lkM (inA b l L m) v=lkM L v:=by
   intro l b L m
   induction m with
   | zero=>exact fun _=>rfl
   | succ m ih=>exact fun h9=>by rw[inA,lk_insA,if_neg (h9 m (by omega)),ih (fun i hi=>h9 i (by omega))]
  have upP:∀(l:List D.Phi) (b:Int) (L:List (Int×Value)) (m:Nat),(∀i,i<m→v≠(ix l i).Dst)→lkM (phA b l L m) v=lkM L v:=by
   intro l b L m
   induction m with
   | zero=>exact fun _=>rfl
   | succ m ih=>exact fun h9=>by rw[phA,lk_insA,if_neg (by simpa using h9 m (by omega)),ih (fun i hi=>h9 i (by omega))]
  rcases Nat.lt_or_ge wb k with h3|h3
  ·have hno:v∉mkB (ix bs k):=h.dj wb k (by omega) v hm
   rw[bkA,up _ _ _ _ (fun i hi e=>hno (mkB_ix.2 (.inr ⟨i,hi,e⟩))),upP _ _ _ _ (fun i hi e=>hno (mkB_ix.2 (.inl ⟨i,hi,e⟩)))]
   exact h.at ⟨h1,h2⟩ k h3
  ·have e:wb=k:=by omega
   subst e
   obtain⟨n1,n2,n3⟩:=List.nodup_append.1 (h.nd wb)
   rw[bkA]
   rcases h2 with⟨i,h3,h4,h5⟩|⟨i,h3,h4,h5⟩
   ·rw[up _ _ _ _ (fun j hj e=>n3 v (by rw[h4];exact List.mem_map.2 ⟨_,ix_mem h3,rfl⟩) v (List.mem_flatMap.2 ⟨_,ix_mem hj,e⟩) rfl)]
    have:∀m,i<m→m≤(ix bs wb).Phis.length→lkM (phA wb (ix bs wb).Phis (bkA bs wb) m) v=some (wv wb wp):=by
     intro m
     induction m with
     | zero=>intro hm;cases hm
     | succ m ih =>
      intro hm hl
      rw[phA,lk_insA]
      rcases Nat.lt_or_ge i m with h6|h6
      ·rw[if_neg,ih h6 (by omega)]
       intro h7
       simp at h7
       have:=nodup_inj n1 (i:=i) (j:=m) (by simpa using h3) (by simp;omega) (by rw[List.getElem_map,List.getElem_map,←ix_eq h3,←ix_eq (show m<_ by omega)];exact h4.symm.trans h7)
       omega
      ·have e:m=i:=by omega
       subst e
       rw[if_pos (by simp[h4]),h5]
    exact this _ h3 (Nat.le_refl _)
   ·have:∀m,i<m→m≤(ix bs wb).Ins.length→lkM (inA wb (ix bs wb).Ins (phA wb (ix bs wb).Phis (bkA bs wb) (ix bs wb).Phis.length) m) v=some (wv wb wp):=by
     intro m
     induction m with
     | zero=>intro hm;cases hm
     | succ m ih =>
      intro hm hl
      rw[inA,lk_insA]
      rcases Nat.lt_or_ge i m with h6|h6
      ·rw[if_neg (fun h7=>nodup_flat n2 h3 (show m<_ by omega) (show i≠m by omega) v h4 h7),ih h6 (by omega)]
      ·have e:m=i:=by omega
       subst e
       rw[if_pos h4,h5]
    exact this _ h3 (Nat.le_refl _)
def shM(k:Int):Option (Int×Int×Int×Int):=if k=1 then some (0,0,1,1) else if k=2 then some (1,1,2,2) else if k=3 then some (1,1,2,65) else if k=4 then some (0,1,0,0) else if k=5 then some (0,0,0,0) else none
def US(f:D.Func)(v:Int)(b:Nat)(at':Int):Prop:=(0≤v∧v<f.Params)∨∃wb wp,PosAt f.Blocks v wb wp∧((wb=b∧(wp<at'∨wp<0))∨(wb≠b∧¬RB (prG (graphF f)) wb b))
def cntF3(bs:List D.Block):Nat:=(bs.map (fun b=>b.Phis.length+b.Ins.length)).sum
structure GoodF(f:D.Func):Prop where
 par:0≤f.Params∧f.Params≤4
 len:0<f.Blocks.length∧f.Blocks.length≤512
 cnt:f.Blocks.length+cntF3 f.Blocks≤4096
 once:Once f.Blocks
 rng:∀b,b<f.Blocks.length→∀r∈mkB (ix f.Blocks b),f.Params≤r∧r≤8191
 op:∀b,b<f.Blocks.length→∀i∈(ix f.Blocks b).Ins,(1≤i.Op∧i.Op≤18)∧(operM i.Op).1≤(i.Args.length:Int)∧(i.Args.length:Int)≤(operM i.Op).2
 tm:∀b,b<f.Blocks.length→∃s,shM (ix f.Blocks b).Term.Kind=some s∧(s.1≤((ix f.Blocks b).Term.Args.length:Int)∧((ix f.Blocks b).Term.Args.length:Int)≤s.2.1)∧(s.2.2.1≤((ix f.Blocks b).Term.To.length:Int)∧((ix f.Blocks b).Term.To.length:Int)≤s.2.2.2)
 to:∀b,b<f.Blocks.length→∀t∈(ix f.Blocks b).Term.To,1≤t∧t<f.Blocks.length
 reach:∀b,b<f.Blocks.length→∃w,RB (prG (graphF f)) w b
 fr:∀b,b<f.Blocks.length→∀p∈(ix f.Blocks b).Phis,0<b∧p.In.map (fun x=>x.From)=ix (predsG (graphF f)) b
 ui:∀b,b<f.Blocks.length→∀i,i<(ix f.Blocks b).Ins.length→∀v∈(ix (ix f.Blocks b).Ins i).Args,US f v b i
 ut:∀b,b<f.Blocks.length→∀v∈(ix f.Blocks b).Term.Args,US f v b (ix f.Blocks b).Ins.length
 up:∀b,b<f.Blocks.length→∀p∈(ix f.Blocks b).Phis,∀x∈p.In,US f x.Val x.From.toNat (ix f.Blocks x.From.toNat).Ins.length
theorem ins_free{b p:Int}{l:List Int}{L:List (Int×Value)}{k:Nat}(hk:k<l.length)(hn:l.Nodup)(hL:∀n∈l,lkM L n=none):lkM (insA b p (l.take k) L) (ix l k)=none:=by
 rw[lk_insA,if_neg]
 ·exact hL _ (ix_mem hk)
 ·intro h
  obtain⟨j,hj,e⟩:=List.getElem_of_mem h
  rw[List.getElem_take,ix_eq hk] at e
  rw[List.length_take] at hj
  have:=nodup_inj hn (show j<l.length by omega) hk e
  omega
theorem ins_nx{b p:Int}{l:List Int}{L:List (Int×Value)}{k:Nat}(hk:k<l.length):insA b p (l.take (k+1)) L=upM (insA b p (l.take k) L) (ix l k) (wv b p):=by rw[take_ix hk,insA_app]
section
variable{f:D.Func}{b i:Nat}
theorem within_of{n a c:Int}(h:a≤n∧n≤c):withinM n a c=true:=by unfold withinM;simp[h]
theorem GoodF.pha(h:GoodF f)(hb:b<f.Blocks.length)(hi:i<(ix f.Blocks b).Phis.length):(∀n∈[(ix (ix f.Blocks b).Phis i).Dst],withinM n f.Params 8191=true)∧[(ix (ix f.Blocks b).Phis i).Dst].Nodup∧∀n∈[(ix (ix f.Blocks b).Phis i).Dst],lkM (phA b (ix f.Blocks b).Phis (bkA f.Blocks b) i) n=none :=
 ⟨fun n hn=>by simp at hn;subst hn;exact within_of (h.rng b hb _ (mkB_ix.2 (.inl ⟨i,hi,rfl⟩))),by simp,fun n hn=>by simp at hn;subst hn;exact h.once.phi hi⟩
theorem GoodF.ina(h:GoodF f)(hb:b<f.Blocks.length)(hi:i<(ix f.Blocks b).Ins.length):(∀n∈makes3 (ix (ix f.Blocks b).Ins i),withinM n f.Params 8191=true)∧(makes3 (ix (ix f.Blocks b).Ins i)).Nodup∧∀n∈makes3 (ix (ix f.Blocks b).Ins i),lkM (inA b (ix f.Blocks b).Ins (phA b (ix f.Blocks b).Phis (bkA f.Blocks b) (ix f.Blocks b).Phis.length) i) n=none :=
 ⟨fun n hn=>within_of (h.rng b hb _ (mkB_ix.2 (.inr ⟨i,hi,hn⟩))),h.once.mks,fun n hn=>h.once.ins hi hn⟩
def shL:List (Int×Value):=[(1,.agg #[.int .i64 0,.int .i64 0,.int .i64 1,.int .i64 1]),(2,.agg #[.int .i64 1,.int .i64 1,.int .i64 2,.int .i64 2]),(3,.agg #[.int .i64 1,.int .i64 1,.int .i64 2,.int .i64 65]),(4,.agg #[.int .i64 0,.int .i64 1,.int .i64 0,.int .i64 0]),(5,.agg #[.int .i64 0,.int .i64 0,.int .i64 0,.int .i64 0])]
theorem shL_at{k:Int}{s:Int×Int×Int×Int}(h:shM k=some s):lkM shL k=some (.agg #[.int .i64 s.1,.int .i64 s.2.1,.int .i64 s.2.2.1,.int .i64 s.2.2.2]):=by
 unfold shM at h
 split at h
 ·rename_i e;subst e;injection h with h;subst h;rfl
 split at h
 ·rename_i e;subst e;injection h with h;subst h;rfl
 split at h
 ·rename_i e;subst e;injection h with h;subst h;rfl
 split at h
 ·rename_i e;subst e;injection h with h;subst h;rfl
 split at h
 ·rename_i e;subst e;injection h with h;subst h;rfl
 ·cases h
end
def idxA(l:List Int)(v:Int):Nat→Nat→Int
 | 0,_=>-1
 | n+1,k=>if v=ix l k then k else idxA l v n (k+1)
def idzM(l:List Int)(v:Int):Int:=idxA l v l.length 0
def conM(l:List Int)(v:Int):Bool:=decide (0≤idzM l v)
theorem idxA_mem{l:List Int}{v:Int}:∀(n k:Nat),(∃j,k≤j∧j<k+n∧v=ix l j)→0≤idxA l v n k
 | 0,k,⟨j,h1,h2,_⟩=>by omega
 | n+1,k,⟨j,h1,h2,h3⟩=>by
  rw[idxA];split
  ·omega
  ·rename_i h
   exact idxA_mem n (k+1) ⟨j,by rcases Nat.lt_or_ge k j with h4|h4;exact h4;exact absurd (by rw[show k=j by omega];exact h3) h,by omega,h3⟩
theorem con_mem{l:List Int}{v:Int}(h:v∈l):conM l v=true:=by
 obtain⟨j,hj,e⟩:=List.getElem_of_mem h
 have:=idxA_mem (l:=l) (v:=v) l.length 0 ⟨j,Nat.zero_le _,by omega,by rw[ix_eq hj];exact e.symm⟩
 unfold conM idzM;simpa using this
theorem idxA_no{l:List Int}{v:Int}{n k:Nat}(hk:k<n)(h:¬v=ix l k):idxA l v (n-k) k=idxA l v (n-(k+1)) (k+1):=by
 rw[show n-k=(n-(k+1))+1 by omega,idxA,if_neg h]
theorem idxA_yes{l:List Int}{v:Int}{n k:Nat}(hk:k<n)(h:v=ix l k):idxA l v (n-k) k=k:=by
 rw[show n-k=(n-(k+1))+1 by omega,idxA,if_pos h]
section
variable{f:D.Func}{b i j:Nat}
theorem graph_len(f:D.Func):(graphF f).length=f.Blocks.length:=by simp[graphF]
theorem GoodF.gn(h:GoodF f):0<(graphF f).length∧(graphF f).length≤512:=by rw[graph_len];exact h.len
end
theorem cntF3_nx{bs:List D.Block}{k:Nat}(h:k<bs.length):cntF3 (bs.take (k+1))=cntF3 (bs.take k)+((ix bs k).Phis.length+(ix bs k).Ins.length):=by
 unfold cntF3;rw[take_ix h];simp
end Go.Proofs.YtmfkkodnghambaaGreat
