/- Lemmas that the claim is made of. Conditions: each lemma names its own. -/
import Derived.Test.YtmfkkodnghambaaGreatKM2
import Derived.Test.YtmfkkodnghambaaGreatKM1
set_option maxRecDepth 20000
set_option maxHeartbeats 4000000
set_option linter.unusedSectionVars false
set_option linter.unusedSimpArgs false
set_option linter.unusedVariables false
namespace Go.Proofs.YtmfkkodnghambaaGreat
open Go.JE
theorem JS{Γ:List Dt}{L:List Res}{m:D.Phi}{u:Value}{l:List D.In}(h:Nd Γ L (dv (rL rIn) u l)):PO Γ L Aw m 1 [u] { m with In:=l }:=fun F H a b c f hf =>
 ⟨⟨hf.1.1,hf.1.2⟩,(rL rIn).ext (fun i hi=>by rw[show i=0 from Nat.lt_one_iff.1 hi];rfl) (show(rL rIn).ok F l (fun _=>u) from h F H a b c)⟩
theorem Ch{α:Type}[Inhabited α]{l:List α}{i j:Nat}{a:α}(hj:j<l.length):ix (l.set j a) i=if i=j then a else ix l i:=by
 by_cases h:i=j
 ·subst h;rw[if_pos rfl];simp[ix,hj]
 ·rw[if_neg h];simp[ix,List.getElem?_set_ne (Ne.symm h)]
def fnM(m:Mk):D.Func:=⟨m.par,m.bs⟩
def Qs(b:Nat)(l:List Int)(m:Mk):Mk:={ m with bs:=m.bs.set b { (ix m.bs b) with Term:={ (ix m.bs b).Term with To:=l } } }
def toS(to:List (List Int)):Nat→Nat→Mk→Mk
 | 0,_,m=>m
 | k+1,b,m=>toS to k (b+1) (Qs b (ix to b) m)
def Lt(b:Nat)(m:Mk):Mk:={ (Bj m) with bs:=(Bj m).bs.set b { (ix (Bj m).bs b) with Phis:=(ix (Bj m).bs b).Phis++[⟨m.nx,[]⟩] } }
def Hb(b:Nat):Nat→Mk→Mk
 | 0,m=>m
 | k+1,m=>Hb b k (Lt b m)
def Fg(b:Nat)(ph:List Int)(m:Mk):List Int :=
 if 1<(pd3 (fnM m) b).length then ph.set b (tVV 4 m) else if tVV 6 m=0 then ph.set b 1 else ph
def Fz:Nat→Nat→List Int→Mk→List Int×Mk
 | 0,_,ph,m=>(ph,m)
 | k+1,b,ph,m=>Fz k (b+1) (Fg b ph m) (Hb b (ix (Fg b ph m) b).toNat (tSS m))
def Kd(f:D.Func)(a:Nat):List (List Bool):=(List.range a).map (fun(i:Nat)=>Dh f (i:Int))
def okA(f:D.Func)(dn:List Bool)(b a:Nat):Bool:=decide (a=b)||(ix dn a||ix (Dh f (a:Int)) b)
def Jv(f:D.Func)(dn:List Bool)(b a:Nat):Bool:=!(ix dn b)&&(List.range a).all (fun i=>okA f dn b i)
def Ox(f:D.Func)(dn:List Bool)(b a:Nat):Bool:=!(decide (a=b))&&(!(ix dn a)||ix (Dh f (a:Int)) b)
def lvB(f:D.Func)(dn:List Bool)(b a:Nat):List Int:=if Ox f dn b a then [] else (ix f.Blocks a).Phis.map (·.Dst)++(ix f.Blocks a).Ins.flatMap Ba
def lvF(f:D.Func)(dn:List Bool)(b a:Nat):List Int:=Ij f.Params.toNat++(List.range a).flatMap (fun i=>lvB f dn b i)
def Ji(b:Nat):Nat→Mk→Mk
 | 0,m=>m
 | k+1,m=>Ji b k (Cj b m)
def lvM(n b:Nat)(dn:List Bool)(m:Mk):Mk:={ m with lv:=lvF (fnM m) dn b n }
def Iq(n:Nat)(to:List (List Int))(b:Nat)(dn:List Bool)(m:Mk):Mk:=Cq b (ix to b) (Ji b (tVV 7 (lvM n b dn m)).toNat (tSS (lvM n b dn m)))
def Ff(n:Nat)(to:List (List Int)):Nat→Nat→List Bool→Mk→List Bool×Mk
 | 0,_,dn,m=>(dn,m)
 | k+1,b,dn,m=>if Jv (fnM m) dn b n then Ff n to k (b+1) (dn.set b true) (Iq n to b (dn.set b true) m) else Ff n to k (b+1) dn m
def Gt(n:Nat)(to:List (List Int)):Nat→List Bool→Mk→List Bool×Mk
 | 0,dn,m=>(dn,m)
 | k+1,dn,m=>Gt n to k (Ff n to n 0 dn m).1 (Ff n to n 0 dn m).2
def inX(p:Int)(m:Mk):D.In×Mk :=
 if (Cd (fnM m) p).length=0 then (⟨p,ix [(Ck m).nx] (tVV 1 (Bq p (Ay m) (Ck m))).toNat⟩,tSS (Bq p (Ay m) (Ck m)))
 else (⟨p,ix (Cd (fnM m) p) (tVV (Cd (fnM m) p).length m).toNat⟩,tSS m)
def inS(p:List Int):Nat→Nat→List D.In→Mk→List D.In×Mk
 | 0,_,l,m=>(l,m)
 | c+1,k,l,m=>inS p c (k+1) (l++[(inX (ix p k) m).1]) (inX (ix p k) m).2
def Mo(b i:Nat)(l:List D.In)(m:Mk):Mk:={ m with bs:=m.bs.set b { (ix m.bs b) with Phis:=(ix m.bs b).Phis.set i { (ix (ix m.bs b).Phis i) with In:=l } } }
def inP(p:List Int)(b:Nat):Nat→Nat→Mk→Mk
 | 0,_,m=>m
 | c+1,i,m=>inP p b c (i+1) (Mo b i (inS p p.length 0 [] m).1 (inS p p.length 0 [] m).2)
def He(ph:List Int):Nat→Nat→Mk→Mk
 | 0,_,m=>m
 | c+1,b,m=>He ph c (b+1) (inP (pd3 (fnM m) b) b (ix ph b).toNat 0 m)
def mdP(m:Mk):Mk:={ (tSS m) with par:=tVV 5 m }
def mdX(m:Mk):Mk:={ (mdP m) with nx:=(mdP m).par }
def md0(s:List Int):Mk:=mdX ⟨s,0,0,[],0,[]⟩
def mdN(s:List Int):Int:=1+tVV 9 (md0 s)
def mdT(s:List Int):List (List Int)×Mk:=Cp (mdN s) (tSS (md0 s))
def mdB(s:List Int):Mk:=toS (mdT s).1 (mdN s).toNat 0 { (mdT s).2 with bs:=List.replicate (mdN s).toNat default }
def mdH(s:List Int):List Int×Mk:=Fz ((mdN s).toNat-1) 1 (List.replicate (mdN s).toNat 0) (mdB s)
def mdD(s:List Int):List Bool×Mk:=Gt (mdN s).toNat (mdT s).1 (mdN s).toNat (List.replicate (mdN s).toNat false) (mdH s).2
def mdF(s:List Int):Mk:=He (mdH s).1 ((mdN s).toNat-1) 1 (mdD s).2
def Lj(s:List Int):D.Func:=fnM (mdF s)
theorem CS(f:D.Func)(a:Nat):Kd f (a+1)=Kd f a++[Dh f (a:Int)]:=by simp[Kd,List.range_succ]
theorem Zj(f:D.Func)(a:Nat):(Kd f a).length=a:=by simp[Kd]
theorem Ru(f:D.Func){n a:Nat}(h:a<n):ix (Kd f n) a=Dh f (a:Int):=by rw[Bp (by rw[Zj];exact h)];simp[Kd]
theorem HW(f:D.Func)(dn:List Bool)(b a:Nat):Jv f dn b (a+1)=(Jv f dn b a&&okA f dn b a):=by simp[Jv,List.range_succ,Bool.and_assoc]
theorem Xv(f:D.Func)(dn:List Bool)(b a:Nat):lvF f dn b (a+1)=lvF f dn b a++lvB f dn b a:=by simp[lvF,List.range_succ]
theorem AO{l:List D.Ins}:(l.flatMap Ba).length≤2*l.length:=by
 induction l with
 | nil=>simp
 | cons x l ih=>rw[List.flatMap_cons,List.length_append,List.length_cons];have:=Pi x;omega
theorem Yw:∀{l:List D.Block} {k:Nat},k<l.length→Bw (l.take (k+1))=Bw (l.take k)+((ix l k).Phis.length+(ix l k).Ins.length+1)
 | x::l,0,_=>by simp[Bw,Fq]
 | x::l,k+1,h=>by rw[List.take_succ_cons,List.take_succ_cons,Bw,Bw,Fi,Yw (l:=l) (k:=k) (by simpa using h)];omega
theorem BL:∀(l:List D.Block) (k:Nat),Bw (l.take k)≤Bw l
 | [],k=>by simp[Bw]
 | x::l,0=>by simp[Bw]
 | x::l,k+1=>by rw[List.take_succ_cons,Bw,Bw];have:=BL l k;omega
theorem U7{f:D.Func}{dn:List Bool}{b:Nat}:∀{a:Nat},a≤f.Blocks.length→(lvF f dn b a).length≤f.Params.toNat+2*Bw (f.Blocks.take a)
 | 0,_=>by simp[lvF,Qz,Bw]
 | a+1,h=>by
  have h1:=U7 (f:=f) (dn:=dn) (b:=b) (a:=a) (by omega)
  rw[Xv,List.length_append,Yw (by omega)]
  have h2:(lvB f dn b a).length≤(ix f.Blocks a).Phis.length+2*(ix f.Blocks a).Ins.length:=by
   unfold lvB;split
   ·simp
   ·rw[List.length_append,List.length_map];have:=AO (l:=(ix f.Blocks a).Ins);omega
  omega
theorem K8{ph:List Int}{b:Nat}{x:Int}(h:∀j,0≤ix ph j∧ix ph j≤3)(hx:0≤x∧x≤3):∀j,0≤ix (ph.set b x) j∧ix (ph.set b x) j≤3:=by
 intro j
 by_cases e:b<ph.length
 ·rw[Ch e];split
  ·exact hx
  ·exact h j
 ·rw[List.set_eq_of_length_le (by omega)];exact h j
theorem Wy{n:Nat}:∀j,0≤ix (List.replicate n (0:Int)) j∧ix (List.replicate n (0:Int)) j≤3:=by
 intro j;by_cases h:j<n<;>simp[ix,h]
def pl(m:Mk):List Nat:=m.bs.map (fun x=>x.Phis.length)
theorem Tq{m:Mk}{j:Nat}{b:D.Block}(h:b.Phis.length=(ix m.bs j).Phis.length):(m.bs.set j b).map (fun x=>x.Phis.length)=pl m:=by
 unfold pl
 by_cases hj:j<m.bs.length
 ·rw[List.map_set]
  refine List.ext_getElem (by simp) (fun i h1 h2=>?_)
  rw[List.getElem_set]
  split
  ·rename_i e;subst e;rw[h,Bp hj];simp
  ·rfl
 ·rw[List.set_eq_of_length_le (by omega)]
theorem Ii{b:Int}{i:D.Ins}{m:Mk}:pl (Cc b i m)=pl m:=Tq (m:=m) rfl
theorem Je{b n:Int}{m:Mk}:pl (Bq b n m)=pl m:=Ii (m:=Bj m)
theorem O0{m:Mk}:pl (Cw m)=pl m:=by unfold Cw;split<;>rfl
theorem Jw{b:Int}{m:Mk}:pl (sS9 b m)=pl m:=by
 have h0:pl (Dg m)=pl m:=by unfold Dg;split;exact O0;exact O0
 unfold sS9;split
 ·exact Je.trans h0
 ·exact h0
theorem O8{b:Int}{m:Mk}:pl (Bt b m).2=pl m:=by
 unfold Bt;dsimp only;split
 ·exact Ii.trans (Ii.trans (Je.trans (Jw.trans (Je (m:=tSS m)))))
 ·exact Je (m:=tSS m)
theorem O7{m:Mk}:pl (Cl m).2=pl m:=by unfold Cl;dsimp only;split<;>rfl
theorem JT{b:Int}{s:Bool}{m:Mk}:pl (Ci b s m)=pl m:=by
 unfold Ci;dsimp only;split
 ·exact Ii.trans (Jw.trans (O7.trans O8))
 ·exact(Ii (m:=Bj _)).trans (O7.trans O8)
theorem P5{b:Int}:∀(n:Nat) (l:List Int) (m:Mk),pl (Eg b n l m).2=pl m
 | 0,_,_=>rfl
 | n+1,l,m=>(P5 n _ _).trans Jw
theorem P0{b:Int}{m:Mk}:pl (Cj b m)=pl m:=by
 have h2:pl (sS9 b (sS9 b (tSS m)))=pl m:=Jw.trans (Jw (m:=tSS m))
 unfold Cj;dsimp only
 repeat' split
 ·exact(Ii (m:=Bj _)).trans ((Je (m:=tSS (tSS _))).trans h2)
 ·exact(Ii (m:=Bj (tSS _))).trans h2
 ·exact(Ii (m:=Bj _)).trans h2
 ·exact(Ii (m:=Bj _)).trans ((Je (m:=tSS (tSS _))).trans ((Je (m:=tSS _)).trans (Jw (m:=tSS m))))
 ·exact(Ii (m:=Bj (tSS _))).trans ((Je (m:=tSS _)).trans (Jw (m:=tSS m)))
 ·exact JT (m:=tSS m)
 ·exact(Ii (m:=tSS (Bj _))).trans (P5 _ _ _)
 ·exact(Ii (m:=Bj (Bj _))).trans h2
 ·exact Je (m:=Ck (tSS m))
theorem Ns{b:Int}{t:D.Term}{m:Mk}:pl (setT b t m)=pl m:=Tq (m:=m) rfl
theorem P4{b:Int}{l:List Int}{m:Mk}:pl (Cq b l m)=pl m:=by
 unfold Cq;dsimp only
 repeat' split
 ·exact Ns (m:=tSS (tSS m))
 ·exact Ns.trans (Jw (m:=tSS m))
 ·exact Ns (m:=tSS m)
 ·exact Ns
 ·exact Ns.trans ((Ii (m:=tSS (Bj _))).trans ((Jw (m:=tSS _)).trans Jw))
 ·exact(Ns (m:=tSS _)).trans Jw
 ·exact Ns.trans ((Ii (m:=Bj _)).trans (Je.trans Jw))
theorem O9{b:Nat}:∀(n:Nat) (m:Mk),pl (Ji b n m)=pl m
 | 0,_=>rfl
 | n+1,m=>(O9 n _).trans P0
theorem O6{b i:Nat}{l:List D.In}{m:Mk}:pl (Mo b i l m)=pl m:=Tq (m:=m) (by simp)
theorem Pc{m m':Mk}(h:pl m=pl m')(j:Nat):(ix m.bs j).Phis.length=(ix m'.bs j).Phis.length:=by
 have hl:m.bs.length=m'.bs.length:=by have:=congrArg List.length h;simpa[pl] using this
 by_cases hj:j<m.bs.length
 ·have h1:(pl m).getD j 0=(pl m').getD j 0:=by rw[h]
  simpa[pl,List.getD,hj,hl▸hj,ix] using h1
 ·have hj':¬j<m'.bs.length:=by omega
  simp[ix,hj,hj']
theorem N6{f:D.Func}{b:Int}:∀x∈pd3 f b,0≤x∧x<f.Blocks.length:=by
 have:∀k,∀x∈Hr f.Blocks k b,0≤x∧x<k:=by
  intro k
  induction k with
  | zero=>intro x hx;cases hx
  | succ k ih =>
   intro x hx
   rw[Hr] at hx
   rcases List.mem_append.1 hx with h|h
   ·have:=ih x h;omega
   ·split at h
    ·simp at h;subst h;omega
    ·cases h
 exact this _
theorem N8(f:D.Func)(b:Int):(pd3 f b).length≤f.Blocks.length:=Xh _ _ _
theorem QM{l:List D.Ins}{k:Nat}(hk:k<l.length):(l.take (k+1)).flatMap Ba=(l.take k).flatMap Ba++Ba (ix l k):=by rw[Ej hk];simp
def Mr(b:Nat)(ph:List Int)(m:Mk):Prop:=(∀j,(ix m.bs j).Phis.length=if j<b then (ix ph j).toNat else 0)∧∀j,b≤j→ix ph j=0
theorem P7{m m':Mk}{n:Nat}(h:pl m=pl m')(h2:m'.bs=List.replicate n default):Mr 1 (List.replicate n 0) m:=by
 have h0:∀j,ix (List.replicate n (0:Int)) j=0:=fun j=>by by_cases hj:j<n<;>simp[ix,hj]
 refine⟨fun j=>?_,fun j _=>h0 j⟩
 rw[Pc h,h2,h0]
 have:(ix (List.replicate n (default:D.Block)) j)=default:=by by_cases hj:j<n<;>simp[ix,hj]
 rw[this];split<;>rfl
theorem SZ{b:Nat}{m:Mk}(hb:b<m.bs.length)(j:Nat):(ix (Lt b m).bs j).Phis.length=(ix m.bs j).Phis.length+if j=b then 1 else 0:=by
 show(ix (m.bs.set b _) j).Phis.length=_
 rw[Ch hb]
 split
 ·rename_i e;subst e;simp[Bj]
 ·rfl
theorem Q3{b:Nat}:∀(k:Nat) (m:Mk),b<m.bs.length→∀j,(ix (Hb b k m).bs j).Phis.length=(ix m.bs j).Phis.length+if j=b then k else 0
 | 0,m,_,j=>by simp[Hb]
 | k+1,m,hb,j=>by
  rw[Hb,Q3 k (Lt b m) (by simpa[Lt,Bj] using hb) j,SZ hb]
  split<;>omega
theorem P6{b:Nat}{ph ph':List Int}{m:Mk}(h:Mr b ph m)(hb:b<m.bs.length)(hl:b<ph.length)(hp:ph'=Fg b ph m):Mr (b+1) ph' (Hb b (ix ph' b).toNat (tSS m)):=by
 have hne:∀j,j≠b→ix ph' j=ix ph j:=fun j hj=>by
  rw[hp];unfold Fg;(repeat' split)<;>first|rfl|(rw[Ch hl,if_neg hj])
 refine⟨fun j=>?_,fun j hj=>by rw[hne j (by omega)];exact h.2 j (by omega)⟩
 rw[Q3 _ _ (by exact hb) j]
 show(ix m.bs j).Phis.length+_=_
 rw[h.1 j]
 by_cases e:j=b
 ·subst e;rw[if_neg (by omega),if_pos rfl,if_pos (by omega)];omega
 ·rw[if_neg e,hne j e]
  by_cases e2:j<b
  ·rw[if_pos e2,if_pos (by omega)];rfl
  ·rw[if_neg e2,if_neg (by omega)]
theorem O5{b:Nat}{l:List Int}{m:Mk}:pl (Qs b l m)=pl m:=Tq (m:=m) rfl
theorem GA(f:D.Func)(b:Int):(Cd f b).length≤f.Params.toNat+2*Bw f.Blocks:=by
 have h:∀l:List D.Tg3,(∀t∈l,t.Makes.length≤2)→(Ju f b l).length≤2*l.length:=by
  intro l
  induction l with
  | nil=>intro _;simp[Ju]
  | cons x l ih =>
   intro hl
   have h1:=ih (fun t ht=>hl t (List.mem_cons_of_mem _ ht))
   have h2:=hl x (List.mem_cons_self ..)
   unfold Ju at h1 ⊢
   rw[List.flatMap_cons,List.length_append,List.length_cons]
   split
   ·omega
   ·simp only[List.length_nil];omega
 have h3:=h (Ad f) (Sh f)
 rw[Si] at h3
 unfold Cd
 rw[List.length_append,Qz];omega
theorem Q1{b:Nat}{ph:List Int}{m:Mk}(h:∀j,0≤ix ph j∧ix ph j≤3):∀j,0≤ix (Fg b ph m) j∧ix (Fg b ph m) j≤3:=by
 have h4:=tV9 (n:=4) (by omega) m
 unfold Fg;split
 ·exact K8 h (by omega)
 split
 ·exact K8 h (by omega)
 ·exact h
theorem Q2{b:Nat}{ph:List Int}{m:Mk}:(Fg b ph m).length=ph.length:=by unfold Fg;(repeat' split)<;>simp
structure Mq where
 s:List Int
 k:Int
 nx:Int
 l:List D.Mach
section
variable{nb c:Nat}{m:Mq}
end
section
variable{P:Program}{Γ Γ' E D0:List Dt}{L M N:List Res}{e:Env}{X:Cx}{n:Fs}{w0:World}{Q:Exit→Act→World→Prop}{ops:Array Oper}{d:Nat}{ty:TypeId}{pos:String}{af:Array Edge}{rest:List Oper}{f:FuncId}{h:Operand}{xs:List Operand}{ws:List Value}{ts:Array TypeId}{g B nb c:Nat}{vs al val:Value}{S:List Int}{m st:Mq}
end
theorem Nb:Fld Tryz.prog 67 4 4:=⟨_,_,Tryz.underlying67,rfl,rfl,1,(by unfold Sz;kernel_rfl),by decide⟩
abbrev Oc:=@Tryz.underlying130
theorem E62:Ent Tryz.prog 62:=⟨_,Tryz.func62,by kernel_rfl,by kernel_rfl⟩
theorem E63:Ent Tryz.prog 63:=⟨_,Tryz.func63,by kernel_rfl,by kernel_rfl⟩
theorem E67:Ent Tryz.prog 67:=⟨_,Tryz.func67,by kernel_rfl,by kernel_rfl⟩
theorem E68:Ent Tryz.prog 68:=⟨_,Tryz.func68,by kernel_rfl,by kernel_rfl⟩
theorem E69:Ent Tryz.prog 69:=⟨_,Tryz.func69,by kernel_rfl,by kernel_rfl⟩
theorem Dp:(Tryz.prog.info? 111).map (fun i=>(i.zero,i.size,i.bytes))=some (some (.agg #[.int .i64 0,.int .i64 0]),2,16):=by kernel_rfl
theorem Vk:(Tryz.prog.info? 129).map (fun i=>(i.zero,i.size,i.bytes))=some (some (.slice none 0 0),1,24):=by kernel_rfl
theorem I62:(Tryz.prog.info? 62).map (fun i=>(i.zero,i.size,i.bytes))=some (some (.agg #[.slice none 0 0,.slice none 0 0,.int .i64 0,.slice none 0 0,.slice none 0 0,.int .i32 0]),6,112):=by kernel_rfl
theorem I65:(Tryz.prog.info? 65).map (fun i=>(i.zero,i.size,i.bytes))=some (some (.agg #[.int .i64 0,.slice none 0 0]),2,32):=by kernel_rfl
theorem Rx:One Tryz.prog 129:=⟨_,Tryz.underlying129,rfl⟩
theorem Vg:Sz Tryz.prog 129 1:=by unfold Sz;kernel_rfl
theorem Z47:Sz Tryz.prog 47 1:=by unfold Sz;kernel_rfl
theorem Z57:Sz Tryz.prog 57 1:=by unfold Sz;kernel_rfl
theorem Z63:Sz Tryz.prog 63 1:=by unfold Sz;kernel_rfl
theorem J49:(Tryz.prog.info? 49).bind (·.zero)=some (.agg #[.int .i64 0,.slice none 0 0]):=by kernel_rfl
theorem JB{a0:Value}{s:List Int}:Ts Tryz.prog 31 #[a0] [dv (rL (rI .i64)) a0 s] [] Aj vFunc (Lj s):=by
 refine Az (args:=[a0]) Tryz.func31 rfl rfl rfl fun w0 X=>?_
 refine jq (jr (Bo J49 Z fun g2=>jn (jx (jq (jr (jm Z (jdq d0 fun q1 w1=>js (jbu (v := .agg #[a0,.int .i64 0,.int .i64 0,.slice none 0 0,.int .i64 0,.slice none 0 0]) Z (fun _=>by obtain⟨_,_,_,rfl⟩:=w1;kernel_rfl)) (Cm Z Z fun g33=>jnl (r:=(rI .i64)) (E:=3) ?_))))))))
 refine OA (jkn (c:=0) ⟨s,0,0,[],0,[]⟩ (kc k2 (kc k1 (kc k0 kn))) ⟨Xo _,Z⟩ fun mm0 hmm0 omm0 bmm0=>lbk k2 (okM.bnd omm0.1).2.2.2.2.2.2.2.1 fun hvb=>ja Z (jn (jx (jq (jr (jm Z (jm Z (jkr E47 Z Z (Dd omm0 (by omega) 5 (by first|decide|omega|(dsimp only;omega)|(simp only[fnM];omega))) (dc d0 dn) (kd (kc k0 kn)) ⟨tO9 omm0.1,omm0.2⟩ fun m36 hm36 om36 bm36=>?_))))))))
 have w36_0:IntKind.i64.wrap (tVV 5 mm0)=tVV 5 mm0:=(IntWalk.i64_in _ (by have h9:=@tV9 5 (by omega) mm0;omega))
 have tr36:=@tV9 5 (by omega) mm0
 clear bmm0
 refine js (Ak Z) (js (jf Ev Z) (js (jf Hu Z) (jst k0 Z3 Z Z Z s2 (jkn (c:=1) ({ m36 with par:=tVV 5 mm0 }) (kd (kc k0 kn)) ⟨(okM.setpar om36.1 (by omega) (Nat.le_refl _)),om36.2⟩ fun ms2 hms2 oms2 bms2=>?_))))
 clear bm36
 refine jn (jx (jq (jr (jm Z (jm Z (js (Ak Z) (js (jf Ev Z) (js (jf Hu Z) (js (jl k0 O3 Z Z) (js (Ak Z) (js (jf Vq Z) ?_)))))))))))
 refine jst k0 Z3 Z Z Z s4 (jkn (c:=10) ({ ms2 with nx:=ms2.par }) (kd (kc k0 kn)) ⟨(okM.setnx oms2.1 (by omega) (by omega)),oms2.2⟩ fun ms3 hms3 oms3 bms3=>?_)
 clear bms2
 refine jn (jx (jq (jr (jm Z (jkr E47 Z Z (Dd oms3 (by omega) 9 (by first|decide|omega|(dsimp only;omega)|(simp only[fnM];omega))) (dc d0 dn) (kd (kc k0 kn)) ⟨tO9 oms3.1,oms3.2⟩ fun m49 hm49 om49 bm49=>?_)))))
 have w49_0:IntKind.i64.wrap (tVV 9 ms3)=tVV 9 ms3:=(IntWalk.i64_in _ (by have h9:=@tV9 9 (by omega) ms3;omega))
 have tr49:=@tV9 9 (by omega) ms3
 clear bms3
 refine js (Al Z Z (by omega)) ?_
 generalize hnn:1+(tVV 9 ms3)=nn at ⊢
 refine ja Z (jn (jx (jq (jr (jm Z (jm Z (jkd E62 Z Z (MB om49 (by omega) nn (by first|decide|omega|(dsimp only;omega)|(simp only[fnM];omega))) (dc d0 dn) (kd (kc k0 kn)) ⟨FO om49.1 (by omega),(FQ.trans om49.2)⟩ (h1:=FR) (h2:=FU) fun m53 hm53 om53 bm53 v53 q4 w4=>?_)))))))
 clear bm49
 have htl:=FT nn m49
 refine ja Z (jn (jx (jq (jr (jm Z (jm Z (OF (m:=nn.toNat) U47 I62 Z Z Z (by omega) (by omega) (by omega) fun g56=>js (Ak Z) (js (jf Ev Z) (js (jf Bu Z) (jst k1 Z47 Z Z Z s3 ?_))))))))))
 refine jkn (c:=100) ({ m53 with bs:=List.replicate nn.toNat default }) (kc k0 (kc k1 (kc k0 kn))) ⟨(okM.mono (okM.setbs om53.1) (by omega)),om53.2⟩ fun ms6 hms6 oms6 bms6=>?_
 clear bm53
 refine lbk k2 (okM.bnd oms6.1).2.2.2.2.2.2.2.1 fun hvb7=>jn (jx (jq (jq (jr (ja Z (jn (jx (jb ?_))))))))
 refine jlp (u4 fun(b1:Nat) (mq:Mk) (al1:Value) (qs1:List BV)=>⟨b1≤nn.toNat∧pl mq=pl ms6∧toS ((Cp nn m49).1) nn.toNat 0 ms6=toS ((Cp nn m49).1) (nn.toNat-b1) b1 mq∧okS nn.toNat (100) s mq,[dv (rL (rL (rI .i64))) v53 ((Cp nn m49).1),dv (rL (rI .i64)) a0 s],[bx g33 108 [a0,.int .i64 mq.k,.int .i64 mq.par,(.slice (some ⟨g56,0,none⟩) nn.toNat nn.toNat),.int .i64 mq.nx,al1],gl X.n (rI .i64) 3 al1 mq.lv,bk X.n (.slice (some ⟨g56,0,none⟩) nn.toNat nn.toNat) qs1 mq.bs,bx g2 49 [.int .i64 0,.slice none 0 0]],[(2,.pointer (some ⟨g2,0,none⟩)),(3,.pointer (some ⟨g33,0,none⟩)),(4,.int .i64 nn),(5,v53),(6,.int .i64 (↑b1))],nn.toNat-b1⟩) (0,ms6,(.slice none 0 0),List.replicate nn.toNat default) ⟨Nat.zero_le _,rfl,rfl,oms6.mono (by omega)⟩ (dc d0 (dc d1 dn)) (kd (kc k0 (kc k1 kn))) ⟨Z,Z,Z,Z,eqI (by omega),trivial⟩ ?_
 rintro⟨b1,mq,al1,qs1⟩;dsimp only[u4];rintro⟨hb1,hpq,hR1,okL1⟩
 refine cgo k1 fun w8=>?_
 have bdL1:=okM.bnd okL1.1
 clear bms6
 refine jq (jq (jr (jm Z (jm Z (js (Ar Z Z) (jn (jx ?_)))))))
 refine jif Z (fun hc1=>?_) (fun hc1=>?_)
 refine jsk (jx (jq (jb (jtl 13 Bi (by kernel_rfl) (jt (jmv Z) (jt (Ak Z) (jt (jf Ev Z) (jt (jf Bu Z) (jt (jl k0 O47 Z Z) (jt (jmv Z) (jt (jmv Z) ?_)))))))))))
 refine jt (jmv Z) (jt (jix Df Z22 d0 Z Z Z (by omega)) (jtv (jlV (dix d0 b1 (by omega)) O22 Z Z) fun v74 q9 w9=>jt (Gb (j:=b1) U47 Z62 hvb7 Z Z Z (by omega)) (jt (jf Eh Z) (jt (jf Ei Z) (jtt (OJ k2 (by omega) Z22 Z Z Z w9.one d0 (jkn (c:=100) ({ mq with bs:=List.set mq.bs b1 { (ix mq.bs b1) with Term:={ (ix mq.bs b1).Term with To:=ix ((Cp nn m49).1) b1 } } }) (kc k1 (kc k1 (kc k0 kn))) ⟨(okM.setb (d:=0) okL1.1 (Nat.le_refl _)),okL1.2⟩ fun ms11 hms11 oms11 bms11=>?_)))))))
 clear bdL1
 refine jn (jbn (jx (jr (jm Z (js (Al Z Z (by omega)) (ja Z (jn ?_)))))))
 exact jag (b1+1,ms11,al1,List.set qs1 b1 { (ix qs1 b1) with T:={ (ix mq.bs b1).Term with To:=ix ((Cp nn m49).1) b1 } }) ⟨by dsimp only;omega,by dsimp only;rw[hms11];exact(O5 (b:=b1) (m:=mq)).trans hpq,by dsimp only;rw[hR1,show nn.toNat-b1=(nn.toNat-(b1+1))+1 by omega,toS];(try simp only[hms11]);rfl,oms11.mono (Nat.le_refl _)⟩ (dc d1 (dc d2 dn)) (kd (kd kn)) ⟨Z,Z,Z,Z,eqI (by omega),trivial⟩
 have hE1:toS ((Cp nn m49).1) nn.toNat 0 ms6=mq:=by rw[hR1,show nn.toNat-b1=0 by omega];rfl
 refine jex (jtx (jtx (jbh (jx (jq (jr (jm Z (jmk (m:=nn.toNat) (r:=(rI .i64)) U22 I3 Z Z Z (by omega) (by omega) (by omega) (wI (wp (by decide))) Z fun g79=>ja Z (jn (jx ?_))))))))))
 refine jq (jq (jr (ja Z (jn (jx (jb ?_))))))
 refine jlp (u5 fun(b2:Nat) (ph:List Int) (mr:Mk) (al2:Value) (qs2:List BV)=>⟨(1≤b2∧b2≤nn.toNat)∧ph.length=nn.toNat∧(∀j,0≤ix ph j∧ix ph j≤3)∧Mr b2 ph mr∧Fz (nn.toNat-1) 1 (List.replicate nn.toNat 0) mq=Fz (nn.toNat-b2) b2 ph mr∧okS nn.toNat (100+7*b2) s mr,[dv (rL (rL (rI .i64))) v53 ((Cp nn m49).1),dv (rL (rI .i64)) a0 s],[gl X.n (rI .i64) 3 (.slice (some ⟨g79,0,none⟩) nn.toNat nn.toNat) ph,bx g33 108 [a0,.int .i64 mr.k,.int .i64 mr.par,(.slice (some ⟨g56,0,none⟩) nn.toNat nn.toNat),.int .i64 mr.nx,al2],gl X.n (rI .i64) 3 al2 mr.lv,bk X.n (.slice (some ⟨g56,0,none⟩) nn.toNat nn.toNat) qs2 mr.bs,bx g2 49 [.int .i64 0,.slice none 0 0]],[(2,.pointer (some ⟨g2,0,none⟩)),(3,.pointer (some ⟨g33,0,none⟩)),(4,.int .i64 nn),(5,v53),(7,(.slice (some ⟨g79,0,none⟩) nn.toNat nn.toNat)),(8,.int .i64 (↑b2))],nn.toNat-b2⟩) (1,List.replicate nn.toNat 0,mq,al1,qs1) ⟨by omega,by simp,Wy,P7 hpq (by rw[hms6]),rfl,okL1.mono (by omega)⟩ (dc d0 (dc d1 dn)) (kd (kd (kc k0 kn))) ⟨Z,Z,Z,Z,Z,eqI (by omega),trivial⟩ ?_
 rintro⟨b2,ph,mr,al2,qs2⟩;dsimp only[u5];rintro⟨hb2,hpl2,hph,hOK2,hR2,okL2⟩
 refine cgo k2 fun w12=>?_
 have bdL2:=okM.bnd okL2.1
 clear bdL1
 have hmrl:=okL2.1.2.2.2.2.1
 refine jq (jq (jr (jm Z (jm Z (js (Ar Z Z) (jn (jx ?_)))))))
 refine jif Z (fun hc2=>?_) (fun hc2=>?_)
 refine jsk (jx (jq (jb (jq (jr (jm Z (js (Ak Z) (js (jf Ev Z) (js (jla k1 A49 Z49 Z Z Z) (jm Z (jc E63 Z Z (Zn (Tr.dd (Xd (f:=fnM mr) ↑b2) (Ut (IntWalk.i64_in _ (by show _≤mr.par∧mr.par≤_;omega)))) (okL2.lens (by omega) (by omega))) dn (kc k3 kn) (fun _=>p0) (fun _=>p2) fun v90=>jgo k0 fun w13=>?_)))))))))))
 refine ja Z (jn (jx (jq (jq (jr (jm Z (js (jlg U22 k0 Z) (js (Ee Z Z) (jn (jx ?_))))))))))
 refine jjo (u4 fun(qh:List Int) (mz:Mk) (alj14:Value) (qsj14:List BV)=>⟨qh=Fg b2 ph mr∧mz=tSS mr∧okS nn.toNat (100+7*b2+1) s mz,[dv (rL (rL (rI .i64))) v53 ((Cp nn m49).1),dv (rL (rI .i64)) a0 s],[bk X.n (.slice (some ⟨g56,0,none⟩) nn.toNat nn.toNat) qsj14 mz.bs,gl X.n (rI .i64) 3 (.slice (some ⟨g79,0,none⟩) nn.toNat nn.toNat) qh,bx g33 108 [a0,.int .i64 mz.k,.int .i64 mz.par,(.slice (some ⟨g56,0,none⟩) nn.toNat nn.toNat),.int .i64 mz.nx,alj14],gl X.n (rI .i64) 3 alj14 mz.lv,bx g2 49 [.int .i64 0,.slice none 0 0]],[(2,.pointer (some ⟨g2,0,none⟩)),(3,.pointer (some ⟨g33,0,none⟩)),(4,.int .i64 nn),(5,v53),(7,(.slice (some ⟨g79,0,none⟩) nn.toNat nn.toNat)),(8,.int .i64 (((b2:Nat):Int)))]⟩) ?_ ?_
 refine jif Z (fun hc3=>?_) (fun hc3=>?_)
 refine jr (jm Z (jm Z (jm Z (jkr E47 Z Z (Dd okL2 (by omega) 4 (by first|decide|omega|(dsimp only;omega)|(simp only[fnM];omega))) (dc d1 dn) (kc k3 (kc k3 (kc k1 kn))) ⟨tO9 okL2.1,okL2.2⟩ fun m97 hm97 om97 bm97=>?_))))
 have w97_0:IntKind.i64.wrap (tVV 4 mr)=tVV 4 mr:=(IntWalk.i64_in _ (by have h9:=@tV9 4 (by omega) mr;omega))
 have tr97:=@tV9 4 (by omega) mr
 clear bdL2
 refine js (jig U22 Z3 k4 Z Z Z (by omega)) (jsg k4 Z Z3 Z Z Z (by omega) (wI (wp w97_0)) (jn ?_))
 exact jje (List.set ph b2 (tVV 4 mr),m97,al2,qs2) ⟨by dsimp only;exact(show Fg b2 ph mr=List.set ph b2 (tVV 4 mr) from by unfold Fg;first|(rw[if_pos (show 1<(pd3 (fnM mr) (b2:Int)).length by omega)];done)|(rw[if_neg (show ¬1<(pd3 (fnM mr) (b2:Int)).length by omega),if_pos (show tVV 6 mr=0 by assumption)];done)|(rw[if_neg (show ¬1<(pd3 (fnM mr) (b2:Int)).length by omega),if_neg (show ¬tVV 6 mr=0 by assumption)];done)).symm,by dsimp only;exact hm97,om97.mono (Nat.le_refl _)⟩ (dc d0 (dc d1 dn)) (kc k3 (kd (kc k0 (kc k1 kn)))) ⟨Z,Z,Z,Z,Z,Z,trivial⟩
 refine jq (jr (jm Z (jkr E47 Z Z (Dd okL2 (by omega) 6 (by first|decide|omega|(dsimp only;omega)|(simp only[fnM];omega))) (dc d1 dn) (kc k3 (kc k3 (kc k1 kn))) ⟨tO9 okL2.1,okL2.2⟩ fun m100 hm100 om100 bm100=>?_)))
 have w100_0:IntKind.i64.wrap (tVV 6 mr)=tVV 6 mr:=(IntWalk.i64_in _ (by have h9:=@tV9 6 (by omega) mr;omega))
 have tr100:=@tV9 6 (by omega) mr
 clear bdL2
 refine js (Ao Z Z) (jn (jx ?_))
 refine jif Z (fun hc4=>?_) (fun hc4=>?_)
 refine jr (jm Z (jm Z (js (jig U22 Z3 k4 Z Z Z (by omega)) (jsg k4 Z Z3 Z Z Z (by omega) (wI (wl 1)) (jn ?_)))))
 exact jje (List.set ph b2 1,m100,al2,qs2) ⟨by dsimp only;exact(show Fg b2 ph mr=List.set ph b2 1 from by unfold Fg;first|(rw[if_pos (show 1<(pd3 (fnM mr) (b2:Int)).length by omega)];done)|(rw[if_neg (show ¬1<(pd3 (fnM mr) (b2:Int)).length by omega),if_pos (show tVV 6 mr=0 by assumption)];done)|(rw[if_neg (show ¬1<(pd3 (fnM mr) (b2:Int)).length by omega),if_neg (show ¬tVV 6 mr=0 by assumption)];done)).symm,by dsimp only;exact hm100,om100.mono (Nat.le_refl _)⟩ (dc d0 (dc d1 dn)) (kc k3 (kd (kc k0 (kc k1 kn)))) ⟨Z,Z,Z,Z,Z,Z,trivial⟩
 refine jsk ?_
 exact jje (ph,m100,al2,qs2) ⟨by dsimp only;exact(show Fg b2 ph mr=ph from by unfold Fg;first|(rw[if_pos (show 1<(pd3 (fnM mr) (b2:Int)).length by omega)];done)|(rw[if_neg (show ¬1<(pd3 (fnM mr) (b2:Int)).length by omega),if_pos (show tVV 6 mr=0 by assumption)];done)|(rw[if_neg (show ¬1<(pd3 (fnM mr) (b2:Int)).length by omega),if_neg (show ¬tVV 6 mr=0 by assumption)];done)).symm,by dsimp only;exact hm100,om100.mono (Nat.le_refl _)⟩ (dc d0 (dc d1 dn)) (kc k2 (kc k3 (kd (kc k1 kn)))) ⟨Z,Z,Z,Z,Z,Z,trivial⟩
 rintro⟨qh,mz,alj14,qsj14⟩;dsimp only[u4];rintro⟨hqh,hmz9,okLj14⟩
 refine qgo k3 fun w15=>?_
 have bdLj14:=okM.bnd okLj14.1
 clear bdL2
 have hql:qh.length=ph.length:=by rw[hqh,Q2]
 have hp3:∀j,0≤ix qh j∧ix qh j≤3:=by rw[hqh];exact Q1 hph
 have hp3b:=hp3 b2
 have hPR:=hqh.symm
 refine jx (jq (jr (ja Z (jn (jx (jb ?_))))))
 refine jlp (u4 fun(i3:Nat) (mt:Mk) (al3:Value) (qs3:List BV)=>⟨i3≤(Int.toNat (ix qh b2))∧Hb b2 (Int.toNat (ix qh b2)) mz=Hb b2 ((Int.toNat (ix qh b2))-i3) mt∧okS nn.toNat (100+7*b2+1+2*i3) s mt,[dv (rL (rL (rI .i64))) v53 ((Cp nn m49).1),dv (rL (rI .i64)) a0 s],[bk X.n (.slice (some ⟨g56,0,none⟩) nn.toNat nn.toNat) qs3 mt.bs,gl X.n (rI .i64) 3 (.slice (some ⟨g79,0,none⟩) nn.toNat nn.toNat) qh,bx g33 108 [a0,.int .i64 mt.k,.int .i64 mt.par,(.slice (some ⟨g56,0,none⟩) nn.toNat nn.toNat),.int .i64 mt.nx,al3],gl X.n (rI .i64) 3 al3 mt.lv,bx g2 49 [.int .i64 0,.slice none 0 0]],[(2,.pointer (some ⟨g2,0,none⟩)),(3,.pointer (some ⟨g33,0,none⟩)),(4,.int .i64 nn),(5,v53),(7,(.slice (some ⟨g79,0,none⟩) nn.toNat nn.toNat)),(8,.int .i64 (↑b2)),(10,.int .i64 (↑i3))],(Int.toNat (ix qh b2))-i3⟩) (0,mz,alj14,qsj14) ⟨Nat.zero_le _,rfl,okLj14.mono (by omega)⟩ (dc d0 (dc d1 dn)) (kd (kd (kc k0 kn))) ⟨Z,Z,Z,Z,Z,Z,eqI (by omega),trivial⟩ ?_
 rintro⟨i3,mt,al3,qs3⟩;dsimp only[u4];rintro⟨hi3,hR3,okL3⟩
 refine cgo k3 fun w16=>?_
 have bdL3:=okM.bnd okL3.1
 clear bdLj14
 refine jq (jq (jr (jm Z (jm Z (jm Z (js (jig U22 Z3 k1 Z Z Z (by omega)) (js (jgI k1 (by omega) O3 Z) (js (Ar Z Z) (jn (jx ?_))))))))))
 refine jif Z (fun hc5=>?_) (fun hc5=>?_)
 refine jsk (jx (jq (jb ?_)))
 refine jjo (u3 fun(my9:Mk) (alj17:Value) (qsj17:List BV)=>⟨my9=Lt b2 mt∧okS nn.toNat (100+7*b2+1+2*i3+2) s my9,[dv (rL (rL (rI .i64))) v53 ((Cp nn m49).1),dv (rL (rI .i64)) a0 s],[bk X.n (.slice (some ⟨g56,0,none⟩) nn.toNat nn.toNat) qsj17 my9.bs,gl X.n (rI .i64) 3 (.slice (some ⟨g79,0,none⟩) nn.toNat nn.toNat) qh,bx g33 108 [a0,.int .i64 my9.k,.int .i64 my9.par,(.slice (some ⟨g56,0,none⟩) nn.toNat nn.toNat),.int .i64 my9.nx,alj17],gl X.n (rI .i64) 3 alj17 my9.lv,bx g2 49 [.int .i64 0,.slice none 0 0]],[(2,.pointer (some ⟨g2,0,none⟩)),(3,.pointer (some ⟨g33,0,none⟩)),(4,.int .i64 nn),(5,v53),(7,(.slice (some ⟨g79,0,none⟩) nn.toNat nn.toNat)),(8,.int .i64 (((b2:Nat):Int))),(10,.int .i64 (((i3:Nat):Int)))]⟩) ?_ ?_
 refine Bz true (.a 0 (.a 1 (.a 2 (.a 3 (.a 4 (.a 5 (.a 6 (.a 7 (.a 8 (.a 9 (.a 10 (.a 11 (.a 12 (.a 13 (.a 15 (.w 14 16 (.o 16 (.a 17 (.o 18 (.o 19 (.a 20 (.a 21 (.o 22 .e))))))) (.a 17 (.w 14 18 (.o 18 (.o 19 (.a 20 (.a 21 (.o 22 .e))))) (.o 14 (.o 19 (.a 20 (.a 21 (.o 22 .e))))))))))))))))))))))) Bi (by kernel_rfl) (kcv k2 Z kn) fun F18=>jy Z (jmv Z) (jy Z (Ak Z) (jy Z (jf Ev Z) (jy Z (jf Bu Z) (jy Z (jlv k0 O47 Z) (jy Z (jmv Z) (jy Z (jmv Z) (jy Z (Ak Z) (jy Z (jf Ev Z) (jy Z (jf Bu Z) (jy Z (jlv k0 O47 Z) ?_))))))))))
 refine jy Z (jmv Z) (jy Z (Gb (j:=b2) U47 Z62 hvb7 Z Z Z (by omega)) (jy Z (jf Dy Z) (jy Z (jmv Z) ?_)))
 refine jyw Z Z ?_ ?_
 refine js (Pp k0 (by omega) O57 Z Z) (jyn d0 (kcv k2 Z kn) (jyo Z (jkr E64 Z Z (Fp okL3 (by omega)) (dc d3 dn) (kc k2 (kc k2 (kc k0 kn))) ⟨Dm okL3.1,okL3.2⟩ fun m129 hm129 om129 bm129=>?_)))
 have w129_0:IntKind.i64.wrap (mt.nx)=mt.nx:=(IntWalk.i64_in _ (by omega))
 clear bdL3
 refine jyn d0 (kcv k0 Z kn) (jy Z (jbu (v := .agg #[.int .i64 mt.nx,.slice none 0 0]) Z (fun _=>by kernel_rfl)) (jyo Z (Bg (r:=Aw) (l:=[⟨mt.nx,[]⟩]) U57 I65 (by decide) Z Z Z (lA (Aw.M (m:=⟨mt.nx,[]⟩) (c:=(.slice none 0 0)) wN (wp w129_0)) ln) fun g131=>jyn d0 (kcv k1 Z kn) (jyo Z (jfz k0 (by(try simp)<;>omega) ?_)))))
 have hrF24:=okM.row om129.1 (j:=b2) (by omega)
 refine Ul b2 k2 (by omega) (jgo k0 fun w25=>Dl U57 I65 (by decide) Z k0 Z Z d0 (by(try simp)<;>omega) fun v132 w26=>jyn d1 (kcv k2 Z kn) (jy Z (Gb (j:=b2) U47 Z62 hvb7 Z Z Z (by omega)) (jy Z (jf Dy Z) (jyo Z (Yc k0 k0 (by omega) Z57 Z Z Z w26.one (jkn (c:=100+7*b2+1+2*i3+1+1) ({ m129 with bs:=List.set m129.bs b2 { (ix m129.bs b2) with Phis:=((ix m129.bs b2).Phis)++([⟨mt.nx,[]⟩]) } }) (kc k1 (kc k1 (kc k0 kn))) ⟨(okM.setb (d:=1) om129.1 (by dsimp only;rw[List.length_append];simp only[List.length_cons,List.length_nil];omega)),om129.2⟩ fun ms28 hms28 oms28 bms28=>?_))))))
 clear bm129
 refine jyz d0 (jyd ?_)
 exact jje (ms28,al3,List.set qs3 b2 { (ix qs3 b2) with P:=v132 }) ⟨by dsimp only;(try simp only[hm129,hms28]);rfl,oms28.mono (by omega)⟩ (dc d6 (dc d7 dn)) (kc k2 (kc k2 (kd (kc k0 kn)))) ⟨Z,Z,Z,Z,Z,Z,Z,trivial⟩
 refine jkr E64 Z Z (Fp okL3 (by omega)) (dc d2 dn) (kc k2 (kc k2 (kc k0 kn))) ⟨Dm okL3.1,okL3.2⟩ fun m129 hm129 om129 bm129=>?_
 have w129_0:IntKind.i64.wrap (mt.nx)=mt.nx:=(IntWalk.i64_in _ (by omega))
 clear bdL3
 refine jyn d0 (kcv k0 Z kn) (jy Z (jbu (v := .agg #[.int .i64 mt.nx,.slice none 0 0]) Z (fun _=>by kernel_rfl)) ?_)
 refine jyw Z Z ?_ ?_
 refine js (Pp k2 (by omega) O57 Z Z) (jyn d0 (kcv k0 Z kn) (jyo Z (Bg (r:=Aw) (l:=[⟨mt.nx,[]⟩]) U57 I65 (by decide) Z Z Z (lA (Aw.M (m:=⟨mt.nx,[]⟩) (c:=(.slice none 0 0)) wN (wp w129_0)) ln) fun g131=>jyn d0 (kcv k1 Z kn) (jyo Z (jfz k0 (by(try simp)<;>omega) ?_)))))
 have hrF24:=okM.row om129.1 (j:=b2) (by omega)
 refine Ul b2 k2 (by omega) (jgo k0 fun w25=>Dl U57 I65 (by decide) Z k0 Z Z d0 (by(try simp)<;>omega) fun v132 w26=>jyn d1 (kcv k2 Z kn) (jy Z (Gb (j:=b2) U47 Z62 hvb7 Z Z Z (by omega)) (jy Z (jf Dy Z) (jyo Z (Yc k0 k0 (by omega) Z57 Z Z Z w26.one (jkn (c:=100+7*b2+1+2*i3+1+1) ({ m129 with bs:=List.set m129.bs b2 { (ix m129.bs b2) with Phis:=((ix m129.bs b2).Phis)++([⟨mt.nx,[]⟩]) } }) (kc k1 (kc k1 (kc k0 kn))) ⟨(okM.setb (d:=1) om129.1 (by dsimp only;rw[List.length_append];simp only[List.length_cons,List.length_nil];omega)),om129.2⟩ fun ms28 hms28 oms28 bms28=>?_))))))
 clear bm129
 refine jyz d0 (jyd ?_)
 exact jje (ms28,al3,List.set qs3 b2 { (ix qs3 b2) with P:=v132 }) ⟨by dsimp only;(try simp only[hm129,hms28]);rfl,oms28.mono (by omega)⟩ (dc d6 (dc d7 dn)) (kc k2 (kc k2 (kd (kc k0 kn)))) ⟨Z,Z,Z,Z,Z,Z,Z,trivial⟩
 refine Bg (r:=Aw) (l:=[⟨mt.nx,[]⟩]) U57 I65 (by decide) Z Z Z (lA (Aw.M (m:=⟨mt.nx,[]⟩) (c:=(.slice none 0 0)) wN (wp w129_0)) ln) fun g131=>jyn d0 (kcv k1 Z kn) (jyo Z (js (Pp k3 (by omega) O57 Z Z) (jyn d0 (kcv k1 Z kn) (jyo Z (jfz k0 (by(try simp)<;>omega) ?_)))))
 have hrF24:=okM.row om129.1 (j:=b2) (by omega)
 refine Ul b2 k2 (by omega) (jgo k0 fun w25=>Dl U57 I65 (by decide) Z k0 Z Z d0 (by(try simp)<;>omega) fun v132 w26=>jyn d1 (kcv k2 Z kn) (jy Z (Gb (j:=b2) U47 Z62 hvb7 Z Z Z (by omega)) (jy Z (jf Dy Z) (jyo Z (Yc k0 k0 (by omega) Z57 Z Z Z w26.one (jkn (c:=100+7*b2+1+2*i3+1+1) ({ m129 with bs:=List.set m129.bs b2 { (ix m129.bs b2) with Phis:=((ix m129.bs b2).Phis)++([⟨mt.nx,[]⟩]) } }) (kc k1 (kc k1 (kc k0 kn))) ⟨(okM.setb (d:=1) om129.1 (by dsimp only;rw[List.length_append];simp only[List.length_cons,List.length_nil];omega)),om129.2⟩ fun ms28 hms28 oms28 bms28=>?_))))))
 clear bm129
 refine jyz d0 (jyd ?_)
 exact jje (ms28,al3,List.set qs3 b2 { (ix qs3 b2) with P:=v132 }) ⟨by dsimp only;(try simp only[hm129,hms28]);rfl,oms28.mono (by omega)⟩ (dc d6 (dc d7 dn)) (kc k2 (kc k2 (kd (kc k0 kn)))) ⟨Z,Z,Z,Z,Z,Z,Z,trivial⟩
 rintro⟨my9,alj17,qsj17⟩;dsimp only[u3];rintro⟨hmy9,okLj17⟩
 refine qgo k3 fun w29=>?_
 have bdLj17:=okM.bnd okLj17.1
 clear bdL3
 refine jbn (jx (jr (jm Z (js (Al Z Z (by omega)) (ja Z (jn ?_))))))
 exact jag (i3+1,my9,alj17,qsj17) ⟨by dsimp only;omega,by dsimp only;rw[hmy9,hR3,show(Int.toNat (ix qh b2))-i3=((Int.toNat (ix qh b2))-(i3+1))+1 by omega,Hb],okLj17.mono (by omega)⟩ (dc d0 (dc d1 dn)) (kd (kd (kc k0 kn))) ⟨Z,Z,Z,Z,Z,Z,eqI (by omega),trivial⟩
 have hE3:Hb b2 (Int.toNat (ix qh b2)) mz=mt:=by rw[hR3,show(Int.toNat (ix qh b2))-i3=0 by omega];rfl
 refine jex (jtx (jtx (jbh (jbn (jx (jr (jm Z (js (Al Z Z (by omega)) (ja Z (jn ?_))))))))))
 exact jag (b2+1,qh,mt,al3,qs3) ⟨by dsimp only;omega,by dsimp only;omega,hp3,by dsimp only;have h9:=P6 hOK2 (by omega) (by omega) hPR.symm;rw[←hmz9,hE3] at h9;exact h9,by dsimp only;rw[hR2,show nn.toNat-b2=(nn.toNat-(b2+1))+1 by omega,Fz,hPR,←hmz9,hE3],okL3.mono (by omega)⟩ (dc d0 (dc d1 dn)) (kc k1 (kc k1 (kc k1 (kd kn)))) ⟨Z,Z,Z,Z,Z,eqI (by omega),trivial⟩
 have hE2:Fz (nn.toNat-1) 1 (List.replicate nn.toNat 0) mq=(ph,mr):=by rw[hR2,show nn.toNat-b2=0 by omega];rfl
 refine jex (jtx (jtx (jbh (jx (jq (jr (jm Z (jmk (m:=nn.toNat) (r:=rB) Ex I4 Z Z Z (by omega) (by omega) (by omega) wB Z fun g136=>ja Z (jn (jx ?_))))))))))
 refine jq (jq (jr (ja Z (jn (jx (jb ?_))))))
 refine jlp (u5 fun(u:Nat) (dz:List Bool) (mu:Mk) (al4:Value) (qs4:List BV)=>⟨u≤nn.toNat∧dz.length=nn.toNat∧pl mu=pl mr∧Gt nn.toNat ((Cp nn m49).1) nn.toNat (List.replicate nn.toNat false) mr=Gt nn.toNat ((Cp nn m49).1) (nn.toNat-u) dz mu∧okS nn.toNat (200+3690*u) s mu,[dv (rL (rL (rI .i64))) v53 ((Cp nn m49).1),dv (rL (rI .i64)) a0 s],[gl X.n rB 4 (.slice (some ⟨g136,0,none⟩) nn.toNat nn.toNat) dz,gl X.n (rI .i64) 3 (.slice (some ⟨g79,0,none⟩) nn.toNat nn.toNat) ph,bx g33 108 [a0,.int .i64 mu.k,.int .i64 mu.par,(.slice (some ⟨g56,0,none⟩) nn.toNat nn.toNat),.int .i64 mu.nx,al4],gl X.n (rI .i64) 3 al4 mu.lv,bk X.n (.slice (some ⟨g56,0,none⟩) nn.toNat nn.toNat) qs4 mu.bs,bx g2 49 [.int .i64 0,.slice none 0 0]],[(2,.pointer (some ⟨g2,0,none⟩)),(3,.pointer (some ⟨g33,0,none⟩)),(4,.int .i64 nn),(5,v53),(7,(.slice (some ⟨g79,0,none⟩) nn.toNat nn.toNat)),(11,(.slice (some ⟨g136,0,none⟩) nn.toNat nn.toNat)),(12,.int .i64 (↑u))],nn.toNat-u⟩) (0,List.replicate nn.toNat false,mr,al2,qs2) ⟨Nat.zero_le _,by simp,rfl,rfl,okL2.mono (by omega)⟩ (dc d0 (dc d1 dn)) (kd (kd (kd kn))) ⟨Z,Z,Z,Z,Z,Z,eqI (by omega),trivial⟩ ?_
 rintro⟨u,dz,mu,al4,qs4⟩;dsimp only[u5];rintro⟨hu,hdl,hpu,hR4,okL4⟩
 refine cgo k3 fun w30=>?_
 have bdL4:=okM.bnd okL4.1
 clear bdL2
 refine jq (jq (jr (jm Z (jm Z (js (Ar Z Z) (jn (jx ?_)))))))
 refine jif Z (fun hc6=>?_) (fun hc6=>?_)
 refine jsk (jx (jq (jb (jq (jr (ja Z (jn (jx (jb ?_)))))))))
 refine jlp (u5 fun(b5:Nat) (dn5:List Bool) (mv:Mk) (al5:Value) (qs5:List BV)=>⟨b5≤nn.toNat∧dn5.length=nn.toNat∧pl mv=pl mu∧Ff nn.toNat ((Cp nn m49).1) nn.toNat 0 dz mu=Ff nn.toNat ((Cp nn m49).1) (nn.toNat-b5) b5 dn5 mv∧okS nn.toNat (200+3690*u+410*b5) s mv,[dv (rL (rL (rI .i64))) v53 ((Cp nn m49).1),dv (rL (rI .i64)) a0 s],[gl X.n rB 4 (.slice (some ⟨g136,0,none⟩) nn.toNat nn.toNat) dn5,gl X.n (rI .i64) 3 (.slice (some ⟨g79,0,none⟩) nn.toNat nn.toNat) ph,bx g33 108 [a0,.int .i64 mv.k,.int .i64 mv.par,(.slice (some ⟨g56,0,none⟩) nn.toNat nn.toNat),.int .i64 mv.nx,al5],gl X.n (rI .i64) 3 al5 mv.lv,bk X.n (.slice (some ⟨g56,0,none⟩) nn.toNat nn.toNat) qs5 mv.bs,bx g2 49 [.int .i64 0,.slice none 0 0]],[(2,.pointer (some ⟨g2,0,none⟩)),(3,.pointer (some ⟨g33,0,none⟩)),(4,.int .i64 nn),(5,v53),(7,(.slice (some ⟨g79,0,none⟩) nn.toNat nn.toNat)),(11,(.slice (some ⟨g136,0,none⟩) nn.toNat nn.toNat)),(12,.int .i64 (↑u)),(13,.int .i64 (↑b5))],nn.toNat-b5⟩) (0,dz,mu,al4,qs4) ⟨Nat.zero_le _,hdl,rfl,rfl,okL4.mono (by omega)⟩ (dc d0 (dc d1 dn)) (kd (kd (kd kn))) ⟨Z,Z,Z,Z,Z,Z,Z,eqI (by omega),trivial⟩ ?_
 rintro⟨b5,dn5,mv,al5,qs5⟩;dsimp only[u5];rintro⟨hb5,hdl5,hpv,hR5,okL5⟩
 refine cgo k3 fun w31=>?_
 have bdL5:=okM.bnd okL5.1
 clear bdL4
 have hmvl:=okL5.1.2.2.2.2.1
 have hmvb:=okM.bnd okL5.1
 refine jq (jq (jr (jm Z (jm Z (js (Ar Z Z) (jn (jx ?_)))))))
 refine jif Z (fun hc7=>?_) (fun hc7=>?_)
 refine jsk (jx (jq (jb (jq (jr (jm Z (jm Z (js (jig Ex Z4 k0 Z Z Z (by omega)) (js (jgB k0 (by omega) O4 Z) (js (Dq Z) (ja Z ?_)))))))))))
 refine jn (jx (jq (jr (Bg (r:=(rL rB)) (l:=[]) Oc Vk (by decide) Z Z Z ln fun g152=>ja Z (jn (jx (jq (jq (jr (ja Z ?_))))))))))
 refine jn (jx (jb ?_))
 refine jlp (u5 fun(a6:Nat) (va:Value) (aw:List (List Bool)) (al6:Value) (qs6:List BV)=>⟨a6≤nn.toNat∧aw=Kd (fnM mv) a6∧okS nn.toNat (200+3690*u+410*b5) s mv,[dv (rL (rL (rI .i64))) v53 ((Cp nn m49).1),dv (rL (rI .i64)) a0 s],[gl X.n (rL rB) 129 va aw,gl X.n rB 4 (.slice (some ⟨g136,0,none⟩) nn.toNat nn.toNat) dn5,gl X.n (rI .i64) 3 (.slice (some ⟨g79,0,none⟩) nn.toNat nn.toNat) ph,bx g33 108 [a0,.int .i64 mv.k,.int .i64 mv.par,(.slice (some ⟨g56,0,none⟩) nn.toNat nn.toNat),.int .i64 mv.nx,al6],gl X.n (rI .i64) 3 al6 mv.lv,bk X.n (.slice (some ⟨g56,0,none⟩) nn.toNat nn.toNat) qs6 mv.bs,bx g2 49 [.int .i64 0,.slice none 0 0]],[(2,.pointer (some ⟨g2,0,none⟩)),(3,.pointer (some ⟨g33,0,none⟩)),(4,.int .i64 nn),(5,v53),(7,(.slice (some ⟨g79,0,none⟩) nn.toNat nn.toNat)),(11,(.slice (some ⟨g136,0,none⟩) nn.toNat nn.toNat)),(12,.int .i64 (↑u)),(13,.int .i64 (↑b5)),(14,.bool (!(ix dn5 b5))),(15,va),(16,.int .i64 (↑a6))],nn.toNat-a6⟩) (0,(.slice (some ⟨g152,0,none⟩) 0 0),[],al5,qs5) ⟨Nat.zero_le _,rfl,okL5.mono (Nat.le_refl _)⟩ (dc d0 (dc d1 dn)) (kd (kd (kd (kc k0 kn)))) ⟨Z,Z,Z,Z,Z,Z,Z,Z,Z,Z,eqI (by omega),trivial⟩ ?_
 rintro⟨a6,va,aw,al6,qs6⟩;dsimp only[u5];rintro⟨ha6,haw,okL6⟩
 refine cgo k0 fun w32=>cgo k4 fun w33=>?_
 have bdL6:=okM.bnd okL6.1
 clear bdL5
 have hawl:aw.length=a6:=by rw[haw,Zj]
 refine jq (jq (jr (jm Z (jm Z (js (Ar Z Z) (jn (jx ?_)))))))
 refine jif Z (fun hc8=>?_) (fun hc8=>?_)
 refine jsk (jx (jq (jb (jr (jm Z (jm Z (js (Ak Z) (js (jf Ev Z) (js (jla k3 A49 Z49 Z Z Z) (jm Z (jc E65 Z Z (TE (Tr.dd (Tj (f:=fnM mv) ↑a6) (Ut (IntWalk.i64_in _ (by show _≤mv.par∧mv.par≤_;omega)))) (okL6.lens (by omega) (by omega))) dn (kc k5 kn) (fun _=>p0) (fun _=>p2) fun v164=>jgo k0 fun w34=>?_)))))))))))
 have hrl6:(Dh (fnM mv) (a6:Int)).length=mv.bs.length:=Mm _ _
 refine jfz k0 (by(try simp)<;>omega) (Gk Oc Vk (by decide) Z Z k1 Z d0 (by omega) (fun _=>Z) fun v166 _ w36=>ja Z (jn (jbn (jx (jr (jm Z (js (Al Z Z (by omega)) (ja Z (jn ?_)))))))))
 exact jag (a6+1,v166,aw++[Dh (fnM mv) ((a6:Nat):Int)],al6,qs6) ⟨by dsimp only;omega,by dsimp only;rw[haw,CS],okL6.mono (Nat.le_refl _)⟩ (dc d1 (dc d2 dn)) (kc k0 (kc k1 (kc k1 (kc k1 (kc k1 (kd kn)))))) ⟨Z,Z,Z,Z,Z,Z,Z,Z,Z,Z,eqI (by omega),trivial⟩
 refine jex (jtx (jtx (jbh (jx (jq (jq (jr (ja Z (jn (jx (jb ?_)))))))))))
 refine jlp (u4 fun(a7:Nat) (r7:Bool) (al7:Value) (qs7:List BV)=>⟨a7≤nn.toNat∧r7=Jv (fnM mv) dn5 b5 a7∧okS nn.toNat (200+3690*u+410*b5) s mv,[dv (rL (rL (rI .i64))) v53 ((Cp nn m49).1),dv (rL (rI .i64)) a0 s],[gl X.n (rL rB) 129 va aw,gl X.n rB 4 (.slice (some ⟨g136,0,none⟩) nn.toNat nn.toNat) dn5,gl X.n (rI .i64) 3 (.slice (some ⟨g79,0,none⟩) nn.toNat nn.toNat) ph,bx g33 108 [a0,.int .i64 mv.k,.int .i64 mv.par,(.slice (some ⟨g56,0,none⟩) nn.toNat nn.toNat),.int .i64 mv.nx,al7],gl X.n (rI .i64) 3 al7 mv.lv,bk X.n (.slice (some ⟨g56,0,none⟩) nn.toNat nn.toNat) qs7 mv.bs,bx g2 49 [.int .i64 0,.slice none 0 0]],[(2,.pointer (some ⟨g2,0,none⟩)),(3,.pointer (some ⟨g33,0,none⟩)),(4,.int .i64 nn),(5,v53),(7,(.slice (some ⟨g79,0,none⟩) nn.toNat nn.toNat)),(11,(.slice (some ⟨g136,0,none⟩) nn.toNat nn.toNat)),(12,.int .i64 (↑u)),(13,.int .i64 (↑b5)),(14,.bool r7),(15,va),(17,.int .i64 (↑a7))],nn.toNat-a7⟩) (0,!(ix dn5 b5),al6,qs6) ⟨Nat.zero_le _,by simp[Jv],okL6.mono (Nat.le_refl _)⟩ (dc d0 (dc d1 dn)) (kd (kd (kd (kc k0 kn)))) ⟨Z,Z,Z,Z,Z,Z,Z,Z,Z,Z,eqI (by omega),trivial⟩ ?_
 rintro⟨a7,r7,al7,qs7⟩;dsimp only[u4];rintro⟨ha7,hr7,okL7⟩
 refine cgo k4 fun w37=>?_
 have bdL7:=okM.bnd okL7.1
 clear bdL6
 refine jq (jq (jr (jm Z (jm Z (js (Ar Z Z) (jn (jx ?_)))))))
 refine jif Z (fun hc9=>?_) (fun hc9=>?_)
 have hax:ix aw a7=Dh (fnM mv) (a7:Int):=by rw[haw];exact Ru _ (by omega)
 have hala7:(ix aw a7).length=mv.bs.length:=by rw[hax,Mm];rfl
 refine jsk (jx (jq (jb (jr (jm Z (jm Z (jg Z Z (.t _) (fun hg=>jmv Z) (jg Z Z (.t _) (fun hg=>jmv Z) (jg Z Z (.t _) (fun hg=>Ao (evg Z hg) (evg Z hg)) (jg Z Z (.t _) (fun hg=>jmv (evg Z hg)) (jg Z Z (.gf _ _) (fun hg=>jmv Z) ?_)))))))))))
 refine jg Z Z (.gf _ _) (fun hg=>jmv Z) (jg Z Z (.gf _ _) (fun hg=>jig Ex Z4 k1 (evg Z hg) (evg Z hg) Z (by first|omega|(simp at hg;omega)|(simp only[List.length_set];omega)|(simp;done))) (jg Z Z (.gf _ _) (fun hg=>jgB k1 (by first|omega|(simp at hg;omega)|(simp only[List.length_set];omega)|(simp;done)) O4 (evg Z hg)) (jg Z Z (.t _) (fun hg=>Rd hg Z Z) (jg Z Z (.t _) (fun hg=>jmv (evg Z hg)) (jg Z Z (.gf _ _) (fun hg=>jmv Z) (jg Z Z (.gf _ _) (fun hg=>jmv Z) (jg Z Z (.gf _ _) (fun hg=>jig Oc Vg k0 (evg Z hg) (evg Z hg) Z (by first|omega|(simp at hg;omega)|(simp only[List.length_set];omega)|(simp;done))) (jge (q:=fun v=>dv (rL rB) v (ix aw a7)) Z Z (.gf _ _) (fun hg=>jgV k0 (by first|omega|(simp at hg;omega)|(simp only[List.length_set];omega)|(simp;done)) Rx Z (evg Z hg)) fun v187=>jg Z Z (.gf _ _) (fun hg=>jmv Z) (jg Z Z (.gf _ _) (fun hg=>jix Ex Z4 (d0.on hg) (evg Z hg) (evg Z hg) Z (by first|omega|(simp at hg;omega)|(simp only[List.length_set];omega)|(simp;done))) (jg Z Z (.gf _ _) (fun hg=>jlB (dix (d0.on hg) b5 (by first|omega|(simp at hg;omega)|(simp only[List.length_set];omega)|(simp;done))) O4 (evg Z hg)) ?_))))))))))
 refine jg Z Z (.t _) (fun hg=>Rd hg Z Z) (js (Cf Z Z) (ja Z (jn (jbn (jx (jr (jm Z (js (Al Z Z (by omega)) (ja Z (jn ?_))))))))))
 exact jag (a7+1,r7&&(((decide (((a7:Nat):Int)=((b5:Nat):Int)))||(ix dn5 a7))||(ix (ix aw a7) b5)),al7,qs7) ⟨by dsimp only;omega,by dsimp only;rw[HW,←hr7,okA,←hax];simp[Bool.or_assoc,show((a7:Int)=(b5:Int))↔a7=b5 by omega],okL7.mono (Nat.le_refl _)⟩ (dc d1 (dc d2 dn)) (kd (kd (kd (kc k0 kn)))) ⟨Z,Z,Z,Z,Z,Z,Z,Z,Z,Z,eqI (by omega),trivial⟩
 have hrF:r7=Jv (fnM mv) dn5 b5 nn.toNat:=by rw[hr7,show a7=nn.toNat by omega]
 refine jex (jtx (jtx (jbh (jx (jq (jq (jr (jm Z (js (Dq Z) (jn (jx ?_)))))))))))
 refine jif Z (fun hc10=>?_) (fun hc10=>?_)
 have hnr:¬(Jv (fnM mv) dn5 b5 nn.toNat=true):=by rw[←hrF];simpa using hc10
 refine jex (jtx (jbh (jx (jr (jm Z (js (Al Z Z (by omega)) (ja Z (jn ?_))))))))
 exact jag (b5+1,dn5,mv,al7,qs7) ⟨by dsimp only;omega,hdl5,hpv,by dsimp only;rw[hR5,show nn.toNat-b5=(nn.toNat-(b5+1))+1 by omega,Ff,if_neg hnr],okL7.mono (by omega)⟩ (dc d0 (dc d1 dn)) (kc k1 (kc k1 (kc k1 (kc k1 (kc k1 (kc k1 kn)))))) ⟨Z,Z,Z,Z,Z,Z,Z,eqI (by omega),trivial⟩
 have hrd:Jv (fnM mv) dn5 b5 nn.toNat=true:=by rw[←hrF];simpa using hc10
 refine jsk (jx (jq (jr (jm Z (jm Z (js (jig Ex Z4 k1 Z Z Z (by omega)) (jsg k1 Z Z4 Z Z Z (by omega) wB (jn (jx (jq (jr ?_)))))))))))
 refine jm Z (Bg (r:=(rI .i64)) (l:=[]) U22 I3 (by decide) Z Z Z ln fun g199=>js (Ak Z) (js (jf Hv Z) (jst k4 Z22 Z Z Z s5 (jkn (c:=200+3690*u+410*b5+1) ({ mv with lv:=[] }) (kd (kc k4 kn)) ⟨(okM.setlv okL7.1 (by simp only[List.length_append,List.length_cons,List.length_nil];omega) (by omega)),okL7.2⟩ fun ms40 hms40 oms40 bms40=>?_))))
 clear bdL7
 refine jn (jx (jq (jq (jr (ja Z (jn (jx (jb ?_))))))))
 refine jlp (u4 fun(i8:Nat) (mx:Mk) (al8:Value) (qs8:List BV)=>⟨i8≤mv.par.toNat∧mx={ mv with lv:=Ij i8 }∧okS nn.toNat (200+3690*u+410*b5+1) s mx,[dv (rL (rL (rI .i64))) v53 ((Cp nn m49).1),dv (rL (rI .i64)) a0 s],[bx g33 108 [a0,.int .i64 mx.k,.int .i64 mx.par,(.slice (some ⟨g56,0,none⟩) nn.toNat nn.toNat),.int .i64 mx.nx,al8],gl X.n (rI .i64) 3 al8 mx.lv,bk X.n (.slice (some ⟨g56,0,none⟩) nn.toNat nn.toNat) qs8 mx.bs,gl X.n rB 4 (.slice (some ⟨g136,0,none⟩) nn.toNat nn.toNat) (List.set dn5 b5 true),gl X.n (rL rB) 129 va aw,gl X.n (rI .i64) 3 (.slice (some ⟨g79,0,none⟩) nn.toNat nn.toNat) ph,bx g2 49 [.int .i64 0,.slice none 0 0]],[(2,.pointer (some ⟨g2,0,none⟩)),(3,.pointer (some ⟨g33,0,none⟩)),(4,.int .i64 nn),(5,v53),(7,(.slice (some ⟨g79,0,none⟩) nn.toNat nn.toNat)),(11,(.slice (some ⟨g136,0,none⟩) nn.toNat nn.toNat)),(12,.int .i64 (↑u)),(13,.int .i64 (↑b5)),(15,va),(18,.int .i64 (↑i8))],mv.par.toNat-i8⟩) (0,ms40,(.slice (some ⟨g199,0,none⟩) 0 0),qs7) ⟨Nat.zero_le _,by dsimp only;rw[hms40];rfl,oms40.mono (Nat.le_refl _)⟩ (dc d0 (dc d1 dn)) (kd (kd (kd (kc k1 kn)))) ⟨Z,Z,Z,Z,Z,Z,Z,Z,Z,eqI (by omega),trivial⟩ ?_
 rintro⟨i8,mx,al8,qs8⟩;dsimp only[u4];rintro⟨hi8,hmx,okL8⟩
 refine cgo k1 fun w41=>?_
 have bdL8:=okM.bnd okL8.1
 clear bms40
 have hmxl:mx.lv.length=i8:=by rw[hmx];exact Qz _
 have hmxp:mx.par=mv.par:=by rw[hmx]
 refine jq (jq (jr (jm Z (jm Z (js (Ak Z) (js (jf Ev Z) (js (jf Hu Z) (js (jl k0 O3 Z Z) (js (Ar Z Z) (jn (jx ?_)))))))))))
 refine jif Z (fun hc11=>?_) (fun hc11=>?_)
 refine jsk (jx (jq (jb (jr (jm Z (jm Z (js (Ak Z) (js (jf Hv Z) (js (jl k0 O22 Z Z) (jm Z (Gk U22 I3 (by decide) Z Z k1 Z (wI (wp (IntWalk.i64_in _ (by omega)))) (by omega) (fun _=>Z) fun v218 _ w42=>?_)))))))))))
 refine js (Ak Z) (js (jf Hv Z) (jst k1 Z22 Z Z w42.one s5 (jkn (c:=200+3690*u+410*b5+1) ({ mx with lv:=mx.lv++[↑i8] }) (kd (kc k0 kn)) ⟨(okM.setlv okL8.1 (by rw[List.length_append];simp only[List.length_cons,List.length_nil];omega) (Nat.le_refl _)),okL8.2⟩ fun ms43 hms43 oms43 bms43=>?_)))
 clear bdL8
 refine jn (jbn (jx (jr (jm Z (js (Al Z Z (by omega)) (ja Z (jn ?_)))))))
 exact jag (i8+1,ms43,v218,qs8) ⟨by dsimp only;omega,by dsimp only;rw[hms43,hmx,S5],oms43.mono (Nat.le_refl _)⟩ (dc d0 (dc d1 dn)) (kd (kd (kd (kc k0 kn)))) ⟨Z,Z,Z,Z,Z,Z,Z,Z,Z,eqI (by omega),trivial⟩
 refine jex (jtx (jtx (jbh (jx (jq (jq (jr (ja Z (jn (jx (jb ?_)))))))))))
 refine jlp (u4 fun(a9:Nat) (my:Mk) (al9:Value) (qs9:List BV)=>⟨a9≤nn.toNat∧my={ mv with lv:=lvF (fnM mv) (List.set dn5 b5 true) b5 a9 }∧okS nn.toNat (200+3690*u+410*b5+1) s my,[dv (rL (rL (rI .i64))) v53 ((Cp nn m49).1),dv (rL (rI .i64)) a0 s],[bx g33 108 [a0,.int .i64 my.k,.int .i64 my.par,(.slice (some ⟨g56,0,none⟩) nn.toNat nn.toNat),.int .i64 my.nx,al9],gl X.n (rI .i64) 3 al9 my.lv,bk X.n (.slice (some ⟨g56,0,none⟩) nn.toNat nn.toNat) qs9 my.bs,gl X.n rB 4 (.slice (some ⟨g136,0,none⟩) nn.toNat nn.toNat) (List.set dn5 b5 true),gl X.n (rL rB) 129 va aw,gl X.n (rI .i64) 3 (.slice (some ⟨g79,0,none⟩) nn.toNat nn.toNat) ph,bx g2 49 [.int .i64 0,.slice none 0 0]],[(2,.pointer (some ⟨g2,0,none⟩)),(3,.pointer (some ⟨g33,0,none⟩)),(4,.int .i64 nn),(5,v53),(7,(.slice (some ⟨g79,0,none⟩) nn.toNat nn.toNat)),(11,(.slice (some ⟨g136,0,none⟩) nn.toNat nn.toNat)),(12,.int .i64 (↑u)),(13,.int .i64 (↑b5)),(15,va),(19,.int .i64 (↑a9))],nn.toNat-a9⟩) (0,mx,al8,qs8) ⟨Nat.zero_le _,by dsimp only;rw[hmx,show i8=mv.par.toNat by omega];simp[lvF,fnM],okL8.mono (Nat.le_refl _)⟩ (dc d0 (dc d1 dn)) (kd (kd (kd (kc k0 kn)))) ⟨Z,Z,Z,Z,Z,Z,Z,Z,Z,eqI (by omega),trivial⟩ ?_
 rintro⟨a9,my,al9,qs9⟩;dsimp only[u4];rintro⟨ha9,hmy,okL9⟩
 refine cgo k1 fun w44=>?_
 have bdL9:=okM.bnd okL9.1
 clear bdL8
 have hmyb:my.bs=mv.bs:=by rw[hmy]
 have hll9:a9≤nn.toNat→(lvF (fnM mv) (List.set dn5 b5 true) b5 a9).length≤mv.par.toNat+2*Bw (mv.bs.take a9):=fun h9=>U7 (f:=(fnM mv)) (by show a9≤mv.bs.length;rw[←hmyb];omega)
 have hl9:=hll9 ha9
 have hct:=BL mv.bs (a9+1)
 have hmp9:my.par=mv.par:=by rw[hmy]
 have hmlv:my.lv.length=(lvF (fnM mv) (List.set dn5 b5 true) b5 a9).length:=by rw[hmy]
 refine jq (jq (jr (jm Z (jm Z (js (Ar Z Z) (jn (jx ?_)))))))
 refine jif Z (fun hc12=>?_) (fun hc12=>?_)
 have hax9:ix aw a9=Dh (fnM mv) (a9:Int):=by rw[haw];exact Ru _ (by omega)
 have hala9:(ix aw a9).length=mv.bs.length:=by rw[hax9,Mm];rfl
 refine jsk (jx (jq (jb (jq (jq (jr (jm Z (jm Z (js (Ga Z Z) (jm Z (jg Z Z (.t _) (fun hg=>jmv Z) ?_)))))))))))
 refine jg Z Z (.t _) (fun hg=>jmv Z) (jg Z Z (.t _) (fun hg=>jig Ex Z4 k3 (evg Z hg) (evg Z hg) Z (by first|omega|(simp at hg;omega)|(simp only[List.length_set];omega)|(simp;done))) (jg Z Z (.t _) (fun hg=>jgB k3 (by first|omega|(simp at hg;omega)|(simp only[List.length_set];omega)|(simp;done)) O4 (evg Z hg)) (jg Z Z (.t _) (fun hg=>Dq (evg Z hg)) (jg Z Z (.t _) (fun hg=>jmv (evg Z hg)) (jg Z Z (.gf _ _) (fun hg=>jmv Z) (jg Z Z (.gf _ _) (fun hg=>jmv Z) (jg Z Z (.gf _ _) (fun hg=>jig Oc Vg k4 (evg Z hg) (evg Z hg) Z (by first|omega|(simp at hg;omega)|(simp only[List.length_set];omega)|(simp;done))) (jge (q:=fun v=>dv (rL rB) v (ix aw a9)) Z Z (.gf _ _) (fun hg=>jgV k4 (by first|omega|(simp at hg;omega)|(simp only[List.length_set];omega)|(simp;done)) Rx Z (evg Z hg)) fun v239=>jg Z Z (.gf _ _) (fun hg=>jmv Z) (jg Z Z (.gf _ _) (fun hg=>jix Ex Z4 (d0.on hg) (evg Z hg) (evg Z hg) Z (by first|omega|(simp at hg;omega)|(simp only[List.length_set];omega)|(simp;done))) (jg Z Z (.gf _ _) (fun hg=>jlB (dix (d0.on hg) b5 (by first|omega|(simp at hg;omega)|(simp only[List.length_set];omega)|(simp;done))) O4 (evg Z hg)) ?_))))))))))
 refine jg Z Z (.t _) (fun hg=>Rd hg Z Z) (js (Cf Z Z) (jn (jx ?_)))
 refine jif Z (fun hc13=>?_) (fun hc13=>?_)
 have hsk:Ox (fnM mv) (List.set dn5 b5 true) b5 a9=true:=by unfold Ox;rw[←hax9];simpa[show((a9:Int)=(b5:Int))↔a9=b5 by omega] using hc13
 refine jex (jtx (jbh (jx (jr (jm Z (js (Al Z Z (by omega)) (ja Z (jn ?_))))))))
 exact jag (a9+1,my,al9,qs9) ⟨by dsimp only;omega,by dsimp only;rw[hmy,Xv,lvB,if_pos hsk,List.append_nil],okL9.mono (Nat.le_refl _)⟩ (dc d1 (dc d2 dn)) (kd (kd (kd (kc k0 kn)))) ⟨Z,Z,Z,Z,Z,Z,Z,Z,Z,eqI (by omega),trivial⟩
 have hsk:¬(Ox (fnM mv) (List.set dn5 b5 true) b5 a9=true):=by unfold Ox;rw[←hax9];simp[show((a9:Int)=(b5:Int))↔a9=b5 by omega] at hc13 ⊢;exact fun h9=>hc13.resolve_left h9
 refine jsk (jx (jq (jq (jr (ja Z (jn (jx (jb ?_))))))))
 refine jlp (u4 fun(i10:Nat) (mz:Mk) (al10:Value) (qs10:List BV)=>⟨i10≤(ix mv.bs a9).Phis.length∧mz={ mv with lv:=lvF (fnM mv) (List.set dn5 b5 true) b5 a9++((ix mv.bs a9).Phis.take i10).map (·.Dst) }∧okS nn.toNat (200+3690*u+410*b5+1) s mz,[dv (rL (rL (rI .i64))) v53 ((Cp nn m49).1),dv (rL (rI .i64)) a0 s],[bx g33 108 [a0,.int .i64 mz.k,.int .i64 mz.par,(.slice (some ⟨g56,0,none⟩) nn.toNat nn.toNat),.int .i64 mz.nx,al10],gl X.n (rI .i64) 3 al10 mz.lv,bk X.n (.slice (some ⟨g56,0,none⟩) nn.toNat nn.toNat) qs10 mz.bs,gl X.n rB 4 (.slice (some ⟨g136,0,none⟩) nn.toNat nn.toNat) (List.set dn5 b5 true),gl X.n (rL rB) 129 va aw,gl X.n (rI .i64) 3 (.slice (some ⟨g79,0,none⟩) nn.toNat nn.toNat) ph,bx g2 49 [.int .i64 0,.slice none 0 0]],[(2,.pointer (some ⟨g2,0,none⟩)),(3,.pointer (some ⟨g33,0,none⟩)),(4,.int .i64 nn),(5,v53),(7,(.slice (some ⟨g79,0,none⟩) nn.toNat nn.toNat)),(11,(.slice (some ⟨g136,0,none⟩) nn.toNat nn.toNat)),(12,.int .i64 (↑u)),(13,.int .i64 (↑b5)),(15,va),(19,.int .i64 (↑a9)),(20,.int .i64 (↑i10))],(ix mv.bs a9).Phis.length-i10⟩) (0,my,al9,qs9) ⟨Nat.zero_le _,by dsimp only;rw[hmy];simp,okL9.mono (Nat.le_refl _)⟩ (dc d1 (dc d2 dn)) (kd (kd (kd (kc k0 kn)))) ⟨Z,Z,Z,Z,Z,Z,Z,Z,Z,Z,eqI (by omega),trivial⟩ ?_
 rintro⟨i10,mz,al10,qs10⟩;dsimp only[u4];rintro⟨hi10,hmz,okL10⟩
 refine cgo k1 fun w46=>?_
 have bdL10:=okM.bnd okL10.1
 clear bdL9
 have hmzb:mz.bs=mv.bs:=by rw[hmz]
 have hmzl:mz.lv.length=(lvF (fnM mv) (List.set dn5 b5 true) b5 a9).length+i10:=by rw[hmz];simp;omega
 have hmzp:(ix mz.bs a9).Phis.length=(ix mv.bs a9).Phis.length:=by rw[hmz]
 have hct9:=Yw (l:=mv.bs) (k:=a9) (by omega)
 have hmpz:mz.par=mv.par:=by rw[hmz]
 have hczz:Bw mz.bs=Bw mv.bs:=by rw[hmzb]
 refine jq (jq (jr (jm Z (jm Z (js (Ak Z) (js (jf Ev Z) (js (jf Bu Z) (js (jl k0 O47 Z Z) (jm Z (js (Gb (j:=a9) U47 Z62 hvb7 Z Z Z (by omega)) (js (jf Dy Z) ?_)))))))))))
 refine js (Pp k2 (by omega) O57 Z Z) (js (OC U57 k2 (by omega) Z) (js (Ar Z Z) (jn (jx ?_))))
 refine jif Z (fun hc14=>?_) (fun hc14=>?_)
 refine jsk (jx (jq (jb (Bz true (.a 0 (.a 1 (.a 2 (.a 3 (.a 4 (.a 5 (.a 6 (.a 7 (.a 8 (.a 9 (.a 10 (.a 11 (.a 12 (.a 13 (.a 14 (.a 15 (.a 16 (.a 17 (.o 18 (.o 19 (.a 20 (.a 21 (.o 22 .e))))))))))))))))))))))) Bi (by kernel_rfl) (kc k0 (kc k1 kn)) fun F47=>jy Z (jmv Z) (jy Z (jmv Z) (jy Z (Ak Z) (jy Z (jf Hv Z) (jy Z (jl k0 O22 Z Z) (jy Z (jmv Z) (jy Z (Ak Z) ?_))))))))))
 refine jy Z (jf Ev Z) (jy Z (jf Bu Z) (jy Z (jl k0 O47 Z Z) (jy Z (jmv Z) (jy Z (Gb (j:=a9) U47 Z62 hvb7 Z Z Z (by omega)) (jy Z (jf Dy Z) (jy Z (Pp k1 (by omega) O57 Z Z) (jy Z (jmv Z) (jy Z (Y2 (i:=i10) U57 Z65 k1 (by omega) Z Z Z (by omega)) (jy Z (jf Rz Z) (jy Z (OI k1 (by omega) (by omega) O3 Z Z) (jyo Z ?_)))))))))))
 refine Bg (r:=(rI .i64)) (l:=[(ix (ix mz.bs a9).Phis i10).Dst]) U22 I3 (by decide) Z Z Z (lV Z Z (wI (EH k2 (by omega) (by omega))) ln) fun g277=>jyn d0 (kc k1 (kc k2 kn)) (jyo Z (jfz k0 (by(try simp)<;>omega) (Dl U22 I3 (by decide) Z k1 Z Z d0 (by(try simp)<;>omega) fun v278 w51=>jyn d1 (kc k1 (kc k1 kn)) (jy Z (Ak Z) (jy Z (jf Hv Z) (jyo Z (jst k1 Z22 Z Z w51.one s5 (jkn (c:=200+3690*u+410*b5+1) ({ mz with lv:=mz.lv++([(ix (ix mz.bs a9).Phis i10).Dst]) }) (kd (kc k0 kn)) ⟨(okM.setlv okL10.1 (by rw[List.length_append];simp only[List.length_cons,List.length_nil];omega) (Nat.le_refl _)),okL10.2⟩ fun ms53 hms53 oms53 bms53=>?_))))))))
 clear bdL10
 refine jyz d0 (jyd (jbn (jx (jr (jm Z (js (Al Z Z (by omega)) (ja Z (jn ?_))))))))
 exact jag (i10+1,ms53,v278,qs10) ⟨by dsimp only;omega,by dsimp only;rw[hms53,hmz];dsimp only;rw[U1 (by omega),List.append_assoc],oms53.mono (Nat.le_refl _)⟩ (dc d4 (dc d5 dn)) (kd (kd (kd (kc k0 kn)))) ⟨Z,Z,Z,Z,Z,Z,Z,Z,Z,Z,eqI (by omega),trivial⟩
 refine jex (jtx (jtx (jbh (jx (jq (jr (ja Z (jn (jx (jb ?_))))))))))
 refine jlp (u4 fun(i11:Nat) (mo:Mk) (al11:Value) (qs11:List BV)=>⟨i11≤(ix mv.bs a9).Ins.length∧mo={ mv with lv:=lvF (fnM mv) (List.set dn5 b5 true) b5 a9++((ix mv.bs a9).Phis.map (·.Dst)++((ix mv.bs a9).Ins.take i11).flatMap Ba) }∧okS nn.toNat (200+3690*u+410*b5+1) s mo,[dv (rL (rL (rI .i64))) v53 ((Cp nn m49).1),dv (rL (rI .i64)) a0 s],[bx g33 108 [a0,.int .i64 mo.k,.int .i64 mo.par,(.slice (some ⟨g56,0,none⟩) nn.toNat nn.toNat),.int .i64 mo.nx,al11],gl X.n (rI .i64) 3 al11 mo.lv,bk X.n (.slice (some ⟨g56,0,none⟩) nn.toNat nn.toNat) qs11 mo.bs,gl X.n rB 4 (.slice (some ⟨g136,0,none⟩) nn.toNat nn.toNat) (List.set dn5 b5 true),gl X.n (rL rB) 129 va aw,gl X.n (rI .i64) 3 (.slice (some ⟨g79,0,none⟩) nn.toNat nn.toNat) ph,bx g2 49 [.int .i64 0,.slice none 0 0]],[(2,.pointer (some ⟨g2,0,none⟩)),(3,.pointer (some ⟨g33,0,none⟩)),(4,.int .i64 nn),(5,v53),(7,(.slice (some ⟨g79,0,none⟩) nn.toNat nn.toNat)),(11,(.slice (some ⟨g136,0,none⟩) nn.toNat nn.toNat)),(12,.int .i64 (↑u)),(13,.int .i64 (↑b5)),(15,va),(19,.int .i64 (↑a9)),(21,.int .i64 (↑i11))],(ix mv.bs a9).Ins.length-i11⟩) (0,mz,al10,qs10) ⟨Nat.zero_le _,by dsimp only;rw[hmz,List.take_of_length_le (by omega)];simp,okL10.mono (Nat.le_refl _)⟩ (dc d0 (dc d1 dn)) (kd (kd (kd (kc k0 kn)))) ⟨Z,Z,Z,Z,Z,Z,Z,Z,Z,Z,eqI (by omega),trivial⟩ ?_
 rintro⟨i11,mo,al11,qs11⟩;dsimp only[u4];rintro⟨hi11,hmo,okL11⟩
 refine cgo k1 fun w54=>?_
 have bdL11:=okM.bnd okL11.1
 clear bdL10
 have hmob:mo.bs=mv.bs:=by rw[hmo]
 have hfm:=AO (l:=(ix mv.bs a9).Ins.take i11)
 have hmol:mo.lv.length≤(lvF (fnM mv) (List.set dn5 b5 true) b5 a9).length+(ix mv.bs a9).Phis.length+2*i11:=by rw[hmo];rw[List.length_take] at hfm;simp only[List.length_append,List.length_map];omega
 have hmop:(ix mo.bs a9).Ins.length=(ix mv.bs a9).Ins.length:=by rw[hmo]
 have hmpo:mo.par=mv.par:=by rw[hmo]
 have hczo:Bw mo.bs=Bw mv.bs:=by rw[hmob]
 refine jq (jq (jr (jm Z (jm Z (js (Ak Z) (js (jf Ev Z) (js (jf Bu Z) (js (jl k0 O47 Z Z) (jm Z (js (Gb (j:=a9) U47 Z62 hvb7 Z Z Z (by omega)) (js (jf Cn Z) ?_)))))))))))
 refine js (Uk k2 (by omega) O58 Z Z) (js (OB U58 k2 (by omega) Z) (js (Ar Z Z) (jn (jx ?_))))
 refine jif Z (fun hc15=>?_) (fun hc15=>?_)
 refine jsk (jx (jq (jb (jq (jr (jm Z (js (Ak Z) (js (jf Ev Z) (js (jf Bu Z) (js (jl k0 O47 Z Z) (jm Z ?_)))))))))))
 refine js (Gb (j:=a9) U47 Z62 hvb7 Z Z Z (by omega)) (js (jf Cn Z) (js (Uk k2 (by omega) O58 Z Z) (jm Z (js (OG (i:=i11) U58 Z67 k2 (by omega) Z Z Z (by omega)) (jA Mb (OL k2 (by omega) (by omega) A67 Z67 Z) fun c306=>jcd E66 Z Z Tl (dc d0 dn) kn fun v307 q56 w56=>ja Z (jn (jx (jr (jm Z ?_)))))))))
 refine jm Z (js (Ak Z) (js (jf Hv Z) (js (jl k0 O22 Z Z) (jm Z (Dl U22 I3 (by decide) Z k1 Z Z d0 (by(try simp)<;>omega) fun v314 w58=>js (Ak Z) (js (jf Hv Z) (jst k1 Z22 Z Z w58.one s5 (jkn (c:=200+3690*u+410*b5+1) ({ mo with lv:=mo.lv++(Ba (ix (ix mo.bs a9).Ins i11)) }) (kd (kc k0 kn)) ⟨(okM.setlv okL11.1 (by rw[List.length_append];have h2:=Pi (ix (ix mo.bs a9).Ins i11);omega) (Nat.le_refl _)),okL11.2⟩ fun ms59 hms59 oms59 bms59=>?_))))))))
 clear bdL11
 refine jn (jbn (jx (jr (jm Z (js (Al Z Z (by omega)) (ja Z (jn ?_)))))))
 exact jag (i11+1,ms59,v314,qs11) ⟨by dsimp only;omega,by dsimp only;rw[hms59,hmo];dsimp only;rw[QM (by omega),List.append_assoc,List.append_assoc],oms59.mono (Nat.le_refl _)⟩ (dc d2 (dc d3 dn)) (kd (kd (kd (kc k0 kn)))) ⟨Z,Z,Z,Z,Z,Z,Z,Z,Z,Z,eqI (by omega),trivial⟩
 refine jex (jtx (jtx (jbh (jbn (jx (jr (jm Z (js (Al Z Z (by omega)) (ja Z (jn ?_))))))))))
 exact jag (a9+1,mo,al11,qs11) ⟨by dsimp only;omega,by dsimp only;rw[hmo,Xv,lvB,if_neg hsk,List.take_of_length_le (by omega)];rfl,okL11.mono (Nat.le_refl _)⟩ (dc d0 (dc d1 dn)) (kd (kd (kd (kc k0 kn)))) ⟨Z,Z,Z,Z,Z,Z,Z,Z,Z,eqI (by omega),trivial⟩
 have hlv:my=lvM nn.toNat b5 (List.set dn5 b5 true) mv:=by rw[hmy,show a9=nn.toNat by omega];rfl
 refine jex (jtx (jtx (jbh (jx (jq (jr (jm Z (jkr E47 Z Z (Dd okL9 (by omega) 7 (by first|decide|omega|(dsimp only;omega)|(simp only[fnM];omega))) (dc d1 dn) (kd (kc k0 kn)) ⟨tO9 okL9.1,okL9.2⟩ fun m318 hm318 om318 bm318=>?_))))))))
 have w318_0:IntKind.i64.wrap (tVV 7 my)=tVV 7 my:=(IntWalk.i64_in _ (by have h9:=@tV9 7 (by omega) my;omega))
 have tr318:=@tV9 7 (by omega) my
 clear bdL9
 refine ja Z (jn (jx (jq (jq (jr (ja Z (jn (jx (jb ?_)))))))))
 refine jlp (u4 fun(k12:Nat) (mp:Mk) (al12:Value) (qs12:List BV)=>⟨k12≤(Int.toNat (tVV 7 my))∧pl mp=pl mv∧Ji b5 (Int.toNat (tVV 7 my)) m318=Ji b5 ((Int.toNat (tVV 7 my))-k12) mp∧okS nn.toNat (200+3690*u+410*b5+1+1+60*k12) s mp,[dv (rL (rL (rI .i64))) v53 ((Cp nn m49).1),dv (rL (rI .i64)) a0 s],[bx g33 108 [a0,.int .i64 mp.k,.int .i64 mp.par,(.slice (some ⟨g56,0,none⟩) nn.toNat nn.toNat),.int .i64 mp.nx,al12],gl X.n (rI .i64) 3 al12 mp.lv,bk X.n (.slice (some ⟨g56,0,none⟩) nn.toNat nn.toNat) qs12 mp.bs,gl X.n rB 4 (.slice (some ⟨g136,0,none⟩) nn.toNat nn.toNat) (List.set dn5 b5 true),gl X.n (rI .i64) 3 (.slice (some ⟨g79,0,none⟩) nn.toNat nn.toNat) ph,bx g2 49 [.int .i64 0,.slice none 0 0]],[(2,.pointer (some ⟨g2,0,none⟩)),(3,.pointer (some ⟨g33,0,none⟩)),(4,.int .i64 nn),(5,v53),(7,(.slice (some ⟨g79,0,none⟩) nn.toNat nn.toNat)),(11,(.slice (some ⟨g136,0,none⟩) nn.toNat nn.toNat)),(12,.int .i64 (↑u)),(13,.int .i64 (↑b5)),(23,.int .i64 (tVV 7 my)),(24,.int .i64 (↑k12))],(Int.toNat (tVV 7 my))-k12⟩) (0,m318,al9,qs9) ⟨Nat.zero_le _,by dsimp only;rw[hm318,hmy];rfl,rfl,om318.mono (by omega)⟩ (dc d0 (dc d1 dn)) (kd (kd (kc k1 (kc k1 kn)))) ⟨Z,Z,Z,Z,Z,Z,Z,Z,Z,eqI (by omega),trivial⟩ ?_
 rintro⟨k12,mp,al12,qs12⟩;dsimp only[u4];rintro⟨hk12,hpp,hR12,okL12⟩
 refine cgo k1 fun w60=>?_
 have bdL12:=okM.bnd okL12.1
 clear bm318
 refine jq (jq (jr (jm Z (jm Z (js (Ar Z Z) (jn (jx ?_)))))))
 refine jif Z (fun hc16=>?_) (fun hc16=>?_)
 refine jsk (jx (jq (jb (jr (jm Z (jm Z (jkb E67 Z Z (MD okL12 (by omega) ↑b5 (by first|decide|omega|(dsimp only;omega)|(simp only[fnM];omega))) (dc d1 dn) (kd (kc k0 kn)) ⟨PD okL12.1 (by omega),(PA.trans okL12.2)⟩ p0 fun m326 hm326 om326 bm326 ua326 qs326 w61=>?_)))))))
 clear bdL12
 refine jn (jbn (jx (jr (jm Z (js (Al Z Z (by omega)) (ja Z (jn ?_)))))))
 exact jag (k12+1,m326,ua326,qs326) ⟨by dsimp only;omega,by dsimp only;rw[hm326,P0,hpp],by dsimp only;rw[hR12,show(Int.toNat (tVV 7 my))-k12=((Int.toNat (tVV 7 my))-(k12+1))+1 by omega,Ji,hm326],om326.mono (by omega)⟩ (dc d0 (dc d1 dn)) (kd (kd (kd kn))) ⟨Z,Z,Z,Z,Z,Z,Z,Z,Z,eqI (by omega),trivial⟩
 have hE12:Ji b5 (Int.toNat (tVV 7 my)) m318=mp:=by rw[hR12,show(Int.toNat (tVV 7 my))-k12=0 by omega];rfl
 refine jex (jtx (jtx (jbh (jx (jr (jm Z (jm Z (jm Z (jm Z (js (jix Df Z22 d0 Z Z Z (by omega)) (jev (jlV (dix d0 b5 (by omega)) O22 Z Z) fun v332 q62 w62=>?_)))))))))))
 refine jkb E68 Z Z (ME okL12 (by omega) ↑b5 (by first|decide|omega|(dsimp only;omega)|(simp only[fnM];omega))) (dc d2 (dc d0 dn)) (kd (kc k0 kn)) ⟨QW okL12.1 (by omega),(QX.trans okL12.2)⟩ p0 fun m333 hm333 om333 bm333 ua333 qs333 w64=>?_
 clear bdL12
 refine jn (jbn (jx (jr (jm Z (js (Al Z Z (by omega)) (ja Z (jn ?_)))))))
 exact jag (b5+1,List.set dn5 b5 true,m333,ua333,qs333) ⟨by dsimp only;omega,by simp[hdl5],by dsimp only;rw[hm333,P4,hpp,hpv],by dsimp only;rw[hR5,show nn.toNat-b5=(nn.toNat-(b5+1))+1 by omega,Ff,if_pos hrd,Iq,←hlv,←hm318,hE12,hm333],om333.mono (by omega)⟩ (dc d1 (dc d2 dn)) (kc k3 (kc k3 (kd (kd kn)))) ⟨Z,Z,Z,Z,Z,Z,Z,eqI (by omega),trivial⟩
 have hE5:Ff nn.toNat ((Cp nn m49).1) nn.toNat 0 dz mu=(dn5,mv):=by rw[hR5,show nn.toNat-b5=0 by omega];rfl
 refine jex (jtx (jtx (jbh (jbn (jx (jr (jm Z (js (Al Z Z (by omega)) (ja Z (jn ?_))))))))))
 exact jag (u+1,dn5,mv,al5,qs5) ⟨by dsimp only;omega,hdl5,by dsimp only;rw[hpv,hpu],by dsimp only;rw[hR4,show nn.toNat-u=(nn.toNat-(u+1))+1 by omega,Gt,hE5],okL5.mono (by omega)⟩ (dc d0 (dc d1 dn)) (kd (kd (kd kn))) ⟨Z,Z,Z,Z,Z,Z,eqI (by omega),trivial⟩
 have hE4:Gt nn.toNat ((Cp nn m49).1) nn.toNat (List.replicate nn.toNat false) mr=(dz,mu):=by rw[hR4,show nn.toNat-u=0 by omega];rfl
 refine jex (jtx (jtx (jbh (jx (jq (jq (jr (ja Z (jn (jx (jb ?_)))))))))))
 refine jlp (u4 fun(b13:Nat) (mf:Mk) (al13:Value) (qs13:List BV)=>⟨(1≤b13∧b13≤nn.toNat)∧pl mf=pl mu∧He ph (nn.toNat-1) 1 mu=He ph (nn.toNat-b13) b13 mf∧okS nn.toNat (34000+200*b13) s mf,[dv (rL (rI .i64)) a0 s],[gl X.n (rI .i64) 3 (.slice (some ⟨g79,0,none⟩) nn.toNat nn.toNat) ph,bx g33 108 [a0,.int .i64 mf.k,.int .i64 mf.par,(.slice (some ⟨g56,0,none⟩) nn.toNat nn.toNat),.int .i64 mf.nx,al13],gl X.n (rI .i64) 3 al13 mf.lv,bk X.n (.slice (some ⟨g56,0,none⟩) nn.toNat nn.toNat) qs13 mf.bs,bx g2 49 [.int .i64 0,.slice none 0 0]],[(2,.pointer (some ⟨g2,0,none⟩)),(3,.pointer (some ⟨g33,0,none⟩)),(4,.int .i64 nn),(7,(.slice (some ⟨g79,0,none⟩) nn.toNat nn.toNat)),(25,.int .i64 (↑b13))],nn.toNat-b13⟩) (1,mu,al4,qs4) ⟨by omega,rfl,rfl,okL4.mono (by omega)⟩ (dc d1 dn) (kc k1 (kc k1 (kc k1 (kc k1 (kc k1 kn))))) ⟨Z,Z,Z,Z,eqI (by omega),trivial⟩ ?_
 rintro⟨b13,mf,al13,qs13⟩;dsimp only[u4];rintro⟨hb13,hpf,hR13,okL13⟩
 refine cgo k2 fun w65=>?_
 have bdL13:=okM.bnd okL13.1
 clear bdL4
 have hmfl:=okL13.1.2.2.2.2.1
 refine jq (jq (jr (jm Z (jm Z (js (Ar Z Z) (jn (jx ?_)))))))
 refine jif Z (fun hc17=>?_) (fun hc17=>?_)
 refine jsk (jx (jq (jb (jq (jr (jm Z (js (Ak Z) (js (jf Ev Z) (js (jla k1 A49 Z49 Z Z Z) (jm Z (jc E63 Z Z (Zn (Tr.dd (Xd (f:=fnM mf) ↑b13) (Ut (IntWalk.i64_in _ (by show _≤mf.par∧mf.par≤_;omega)))) (okL13.lens (by omega) (by omega))) dn (kc k3 kn) (fun _=>p0) (fun _=>p2) fun v344=>jgo k0 fun w66=>?_)))))))))))
 have hpl9:(pd3 (fnM mf) (b13:Int)).length≤mf.bs.length:=N8 _ _
 refine jfz k0 (by(try simp)<;>omega) (ja Z (jn (jx (jq (jr (ja Z (jn (jx (jb ?_)))))))))
 refine jlp (u4 fun(i14:Nat) (mg:Mk) (al14:Value) (qs14:List BV)=>⟨i14≤(Int.toNat (ix ph b13))∧pl mg=pl mf∧inP (pd3 (fnM mf) b13) b13 (Int.toNat (ix ph b13)) 0 mf=inP (pd3 (fnM mf) b13) b13 ((Int.toNat (ix ph b13))-i14) i14 mg∧okS nn.toNat (34000+200*b13+60*i14) s mg,[dv (rL (rI .i64)) v344 (pd3 (fnM mf) ↑b13),dv (rL (rI .i64)) a0 s],[bk X.n (.slice (some ⟨g56,0,none⟩) nn.toNat nn.toNat) qs14 mg.bs,gl X.n (rI .i64) 3 (.slice (some ⟨g79,0,none⟩) nn.toNat nn.toNat) ph,bx g33 108 [a0,.int .i64 mg.k,.int .i64 mg.par,(.slice (some ⟨g56,0,none⟩) nn.toNat nn.toNat),.int .i64 mg.nx,al14],gl X.n (rI .i64) 3 al14 mg.lv,bx g2 49 [.int .i64 0,.slice none 0 0]],[(2,.pointer (some ⟨g2,0,none⟩)),(3,.pointer (some ⟨g33,0,none⟩)),(4,.int .i64 nn),(7,(.slice (some ⟨g79,0,none⟩) nn.toNat nn.toNat)),(25,.int .i64 (↑b13)),(26,v344),(27,.int .i64 (↑i14))],(Int.toNat (ix ph b13))-i14⟩) (0,mf,al13,qs13) ⟨Nat.zero_le _,rfl,rfl,okL13.mono (by omega)⟩ (dc d0 (dc d1 dn)) (kd (kd (kc k0 kn))) ⟨Z,Z,Z,Z,Z,Z,eqI (by omega),trivial⟩ ?_
 rintro⟨i14,mg,al14,qs14⟩;dsimp only[u4];rintro⟨hi14,hpg,hR14,okL14⟩
 refine cgo k3 fun w68=>?_
 have bdL14:=okM.bnd okL14.1
 clear bdL13
 have hph13:=hph b13
 refine jq (jq (jr (jm Z (jm Z (jm Z (js (jig U22 Z3 k1 Z Z Z (by omega)) (js (jgI k1 (by omega) O3 Z) (js (Ar Z Z) (jn (jx ?_))))))))))
 refine jif Z (fun hc18=>?_) (fun hc18=>?_)
 refine jsk (jx (jq (jb (jq (jr (Bg (r:=rIn) (l:=[]) U63 Dp (by decide) Z Z Z ln fun g353=>ja Z (jn (jx (jq (jq ?_))))))))))
 refine jr (ja Z (jn (jx (jb ?_))))
 refine jlp (u6 fun(k15:Nat) (vi:Value) (li:List D.In) (mh:Mk) (al15:Value) (qs15:List BV)=>⟨k15≤(pd3 (fnM mf) b13).length∧pl mh=pl mg∧li.length=k15∧inS (pd3 (fnM mf) b13) (pd3 (fnM mf) b13).length 0 [] mg=inS (pd3 (fnM mf) b13) ((pd3 (fnM mf) b13).length-k15) k15 li mh∧okS nn.toNat (34000+200*b13+60*i14+6*k15) s mh,[dv (rL (rI .i64)) v344 (pd3 (fnM mf) ↑b13),dv (rL (rI .i64)) a0 s],[gl X.n rIn 111 vi li,bk X.n (.slice (some ⟨g56,0,none⟩) nn.toNat nn.toNat) qs15 mh.bs,gl X.n (rI .i64) 3 (.slice (some ⟨g79,0,none⟩) nn.toNat nn.toNat) ph,bx g33 108 [a0,.int .i64 mh.k,.int .i64 mh.par,(.slice (some ⟨g56,0,none⟩) nn.toNat nn.toNat),.int .i64 mh.nx,al15],gl X.n (rI .i64) 3 al15 mh.lv,bx g2 49 [.int .i64 0,.slice none 0 0]],[(2,.pointer (some ⟨g2,0,none⟩)),(3,.pointer (some ⟨g33,0,none⟩)),(4,.int .i64 nn),(7,(.slice (some ⟨g79,0,none⟩) nn.toNat nn.toNat)),(25,.int .i64 (↑b13)),(26,v344),(27,.int .i64 (↑i14)),(28,vi),(29,.int .i64 (↑k15))],(pd3 (fnM mf) b13).length-k15⟩) (0,(.slice (some ⟨g353,0,none⟩) 0 0),[],mg,al14,qs14) ⟨Nat.zero_le _,rfl,rfl,rfl,okL14.mono (by omega)⟩ (dc d0 (dc d1 dn)) (kd (kd (kd kn))) ⟨Z,Z,Z,Z,Z,Z,Z,Z,eqI (by omega),trivial⟩ ?_
 rintro⟨k15,vi,li,mh,al15,qs15⟩;dsimp only[u6];rintro⟨hk15,hph15,hlil,hR15,okL15⟩
 refine cgo k0 fun w69=>cgo k4 fun w70=>?_
 have bdL15:=okM.bnd okL15.1
 clear bdL14
 have hmhl:=okL15.1.2.2.2.2.1
 refine jq (jq (jr (jm Z (jm Z (js (jln U22 d0 Z) (js (Ar Z Z) (jn (jx ?_))))))))
 refine jif Z (fun hc19=>?_) (fun hc19=>?_)
 have hpr:0≤ix (pd3 (fnM mf) b13) k15∧ix (pd3 (fnM mf) b13) k15<(mf.bs.length:Int):=N6 (f:=fnM mf) (b:=(b13:Int)) _ (Ax (l:=(pd3 (fnM mf) b13)) (i:=k15) (by omega))
 have hplh:=Pc (hph15.trans hpg) 0
 have hsl:(Cd (fnM mh) (ix (pd3 (fnM mf) ↑b13) k15)).length≤mh.par.toNat+2*Bw mh.bs:=GA _ _
 refine jsk (jx (jq (jb (jq (jtl 8 Bi (by kernel_rfl) (jt (jmv Z) (jt (Ak Z) (jt (jf Ev Z) (jt (jla k3 A49 Z49 Z Z Z) (jt (jmv Z) (jt (jmv Z) ?_)))))))))))
 refine jt (jix U22 Z3 d0 Z Z Z (by omega)) (jt (jlI (dix d0 k15 (by omega)) O3 Z) (jtt (jc E69 Z Z (Zn (Tr.dd (IX (f:=fnM mh) (ix (pd3 (fnM mf) ↑b13) k15) (by show 0≤_∧_<(mh.bs.length:Int);omega) (by show Bw mh.bs<_;omega) (by show 0≤mh.par∧mh.par≤4;omega)) (Ut (IntWalk.i64_in _ (by show _≤mh.par∧mh.par≤_;omega)))) (okL15.lens (by omega) (by omega))) dn (kc k1 kn) (fun _=>p0) (fun _=>p2) fun v368=>jgo k0 fun w71=>ja Z (jn (jx (jq (jq (jr (jm Z (js (jlg U22 k0 Z) ?_))))))))))
 refine js (Ao Z Z) (jn (jx ?_))
 refine jif Z (fun hc20=>?_) (fun hc20=>?_)
 have hz:(Cd (fnM mh) (ix (pd3 (fnM mf) b13) k15)).length=0:=by omega
 refine Bz false (.a 0 (.a 1 (.a 2 (.a 3 (.a 4 (.a 5 (.a 6 (.o 7 (.o 8 (.o 9 (.o 10 (.a 11 .e)))))))))))) Bi (by kernel_rfl) kn fun F72=>jy Z (jmv Z) (jy Z (jmv Z) (jy Z (jmv Z) (jy Z (jmv Z) (jy Z (jix U22 Z3 d0 Z Z Z (by omega)) (jy Z (jlI (dix d0 k15 (by omega)) O3 Z) (jy Z (jmv Z) (jyo Z (jkr E71 Z Z (Mv okL15 (by omega)) (dc d2 dn) (kc k4 (kc k4 (kc k1 kn))) ⟨Ki okL15.1,okL15.2⟩ fun m379 hm379 om379 bm379=>?_))))))))
 have w379_0:IntKind.i32.wrap (Ay mh)=Ay mh:=(Mh mh)
 clear bdL15
 refine jyn d0 kn (jyo Z (jkb E70 Z Z (Md om379 (by omega) (ix (pd3 (fnM mf) ↑b13) k15) (Ay mh) (by first|decide|omega|(dsimp only;omega)|(simp only[fnM];omega)) w379_0) (dc d3 dn) (kd (kc k0 kn)) ⟨Gm om379.1 (by omega),(Kc.trans om379.2)⟩ p1 fun m380 hm380 om380 bm380 ua380 qs380 w75=>?_))
 clear bm379
 have hal9:(List.length ((Cd (fnM mh) (ix (pd3 (fnM mf) ↑b13) k15))++[m379.nx]))=(Cd (fnM mh) (ix (pd3 (fnM mf) ↑b13) k15)).length+1:=by simp
 refine jyn d1 kn (jyo Z (Bg (r:=(rI .i64)) (l:=[m379.nx]) U22 I3 (by decide) Z Z Z (lV Z Z (wI ((wfw d1))) ln) fun g381=>jyn d0 kn (jyo Z (jfz k0 (by(try simp)<;>omega) (Dl U22 I3 (by decide) Z k3 Z Z d0 (by(try simp)<;>omega) fun v382 w80=>jyn d1 kn (jy Z (jas Z) (jyd (jx (Bz false (.a 0 (.a 1 (.a 2 (.a 3 (.a 4 (.a 5 (.a 6 (.a 7 (.a 8 (.o 9 (.a 10 (.a 11 (.a 12 (.o 13 (.o 14 (.a 15 .e)))))))))))))))) Bi (by kernel_rfl) (kc k0 kn) fun F81=>?_)))))))))
 refine jy Z (jmv Z) (jy Z (jmv Z) (jy Z (jmv Z) (jy Z (jix U22 Z3 d6 Z Z Z (by omega)) (jy Z (jlI (dix d6 k15 (by omega)) O3 Z) (jy Z (jmv Z) (jy Z (jmv Z) (jy Z (jmv Z) (jy Z (jlg U22 k0 Z) (jyo Z (jkr E47 Z Z (Dd om380 (by omega) (↑(List.length ((Cd (fnM mh) (ix (pd3 (fnM mf) ↑b13) k15))++([m379.nx])))) (by first|decide|omega|(dsimp only;omega)|(simp only[fnM];omega))) (dc d8 dn) (kc k1 (kc k1 (kc k1 kn))) ⟨tO9 om380.1,om380.2⟩ fun m392 hm392 om392 bm392=>?_))))))))))
 have w392_0:IntKind.i64.wrap (tVV (↑(List.length ((Cd (fnM mh) (ix (pd3 (fnM mf) ↑b13) k15))++([m379.nx])))) m380)=tVV (↑(List.length ((Cd (fnM mh) (ix (pd3 (fnM mf) ↑b13) k15))++([m379.nx])))) m380:=(IntWalk.i64_in _ (by have h9:=@tV9 (↑(List.length ((Cd (fnM mh) (ix (pd3 (fnM mf) ↑b13) k15))++([m379.nx])))) (by omega) m380;omega))
 have tr392:=@tV9 (↑(List.length ((Cd (fnM mh) (ix (pd3 (fnM mf) ↑b13) k15))++([m379.nx])))) (by omega) m380
 clear bm380
 refine jyn d0 (kc k3 kn) (jy Z (jig (i:=(Int.toNat (tVV (↑(List.length ((Cd (fnM mh) (ix (pd3 (fnM mf) ↑b13) k15))++([m379.nx])))) m380))) U22 Z3 k0 Z Z (by omega) (by first|omega|(simp<;>omega))) (jy Z (jgI k0 (by first|omega|(simp<;>omega)) O3 Z) (jy Z (jbu (v := .agg #[.int .i64 (ix (pd3 (fnM mf) ↑b13) k15),.int .i64 (ix ((Cd (fnM mh) (ix (pd3 (fnM mf) ↑b13) k15))++([m379.nx])) (Int.toNat (tVV (↑(List.length ((Cd (fnM mh) (ix (pd3 (fnM mf) ↑b13) k15))++([m379.nx])))) m380)))]) Z (fun _=>by kernel_rfl)) (jyo Z (Bg (r:=rIn) (l:=[⟨ix (pd3 (fnM mf) ↑b13) k15,ix ((Cd (fnM mh) (ix (pd3 (fnM mf) ↑b13) k15))++([m379.nx])) (Int.toNat (tVV (↑(List.length ((Cd (fnM mh) (ix (pd3 (fnM mf) ↑b13) k15))++([m379.nx])))) m380))⟩]) U63 Dp (by decide) Z Z Z (lA (rIn.M (m:=⟨ix (pd3 (fnM mf) ↑b13) k15,ix ((Cd (fnM mh) (ix (pd3 (fnM mf) ↑b13) k15))++([m379.nx])) (Int.toNat (tVV (↑(List.length ((Cd (fnM mh) (ix (pd3 (fnM mf) ↑b13) k15))++([m379.nx])))) m380))⟩) (c:=()) (wad (dix d8 k15 (by omega))) (wgl (i:=(Int.toNat (tVV (↑(List.length ((Cd (fnM mh) (ix (pd3 (fnM mf) ↑b13) k15))++([m379.nx])))) m380))) k3 (by omega))) ln) fun g396=>jyn d0 (kc k4 kn) (jyo Z (jfz k0 (by(try simp)<;>omega) (Dl U63 Dp (by decide) Z k4 Z Z d0 (by(try simp)<;>omega) fun v397 w86=>jyn d1 (kc k4 kn) (jy Z (jas Z) ?_)))))))))
 refine jyd (jbn (jx (jr (jm Z (js (Al Z Z (by omega)) (ja Z (jn ?_)))))))
 exact jag (k15+1,v397,li++([⟨ix (pd3 (fnM mf) ((b13:Nat):Int)) k15,ix ((Cd (fnM mh) (ix (pd3 (fnM mf) ((b13:Nat):Int)) k15))++([m379.nx])) (Int.toNat (tVV (((List.length ((Cd (fnM mh) (ix (pd3 (fnM mf) ((b13:Nat):Int)) k15))++([m379.nx])):Nat):Int)) m380))⟩]),m392,ua380,qs380) ⟨by dsimp only;omega,by dsimp only;simp only[hm379,hm380,hm392];first|exact hph15|exact(Je (m:=Ck mh)).trans hph15,by simp[hlil],by dsimp only;rw[hR15,show(pd3 (fnM mf) b13).length-k15=((pd3 (fnM mf) b13).length-(k15+1))+1 by omega,inS,show inX (ix (pd3 (fnM mf) b13) k15) mh=(⟨ix (pd3 (fnM mf) ((b13:Nat):Int)) k15,ix ((Cd (fnM mh) (ix (pd3 (fnM mf) ((b13:Nat):Int)) k15))++([m379.nx])) (Int.toNat (tVV (((List.length ((Cd (fnM mh) (ix (pd3 (fnM mf) ((b13:Nat):Int)) k15))++([m379.nx])):Nat):Int)) m380))⟩,m392) from by(unfold inX;first|(rw[if_pos hz];simp[List.eq_nil_of_length_eq_zero hz,hm379,hm380,hm392];done)|(rw[if_neg hz];simp only[hm379,hm380,hm392];done)|(rw[if_neg hz];simp only[hm379,hm380,hm392];rfl))],om392.mono (by omega)⟩ (dc d10 (dc d11 dn)) (kc k0 (kc k2 (kc k3 (kd (kc k1 kn))))) ⟨Z,Z,Z,Z,Z,Z,Z,Z,eqI (by omega),trivial⟩
 have hz:¬(Cd (fnM mh) (ix (pd3 (fnM mf) b13) k15)).length=0:=by omega
 refine jsk (jx (Bz false (.a 0 (.a 1 (.a 2 (.a 3 (.a 4 (.a 5 (.a 6 (.a 7 (.a 8 (.o 9 (.a 10 (.a 11 (.a 12 (.o 13 (.o 14 (.a 15 .e)))))))))))))))) Bi (by kernel_rfl) (kc k0 kn) fun F87=>jy Z (jmv Z) (jy Z (jmv Z) (jy Z (jmv Z) (jy Z (jix U22 Z3 d0 Z Z Z (by omega)) (jy Z (jlI (dix d0 k15 (by omega)) O3 Z) (jy Z (jmv Z) (jy Z (jmv Z) (jy Z (jmv Z) (jy Z (jlg U22 k0 Z) ?_))))))))))
 refine jyo Z (jkr E47 Z Z (Dd okL15 (by omega) (↑(List.length (Cd (fnM mh) (ix (pd3 (fnM mf) ↑b13) k15)))) (by first|decide|omega|(dsimp only;omega)|(simp only[fnM];omega))) (dc d2 dn) (kc k4 (kc k4 (kc k1 kn))) ⟨tO9 okL15.1,okL15.2⟩ fun m392 hm392 om392 bm392=>?_)
 have w392_0:IntKind.i64.wrap (tVV (↑(List.length (Cd (fnM mh) (ix (pd3 (fnM mf) ↑b13) k15)))) mh)=tVV (↑(List.length (Cd (fnM mh) (ix (pd3 (fnM mf) ↑b13) k15)))) mh:=(IntWalk.i64_in _ (by have h9:=@tV9 (↑(List.length (Cd (fnM mh) (ix (pd3 (fnM mf) ↑b13) k15)))) (by omega) mh;omega))
 have tr392:=@tV9 (↑(List.length (Cd (fnM mh) (ix (pd3 (fnM mf) ↑b13) k15)))) (by omega) mh
 clear bdL15
 refine jyn d0 (kc k3 kn) (jy Z (jig (i:=(Int.toNat (tVV (↑(List.length (Cd (fnM mh) (ix (pd3 (fnM mf) ↑b13) k15)))) mh))) U22 Z3 k0 Z Z (by omega) (by omega)) (jy Z (jgI k0 (by omega) O3 Z) (jy Z (jbu (v := .agg #[.int .i64 (ix (pd3 (fnM mf) ↑b13) k15),.int .i64 (ix (Cd (fnM mh) (ix (pd3 (fnM mf) ↑b13) k15)) (Int.toNat (tVV (↑(List.length (Cd (fnM mh) (ix (pd3 (fnM mf) ↑b13) k15)))) mh)))]) Z (fun _=>by kernel_rfl)) (jyo Z (Bg (r:=rIn) (l:=[⟨ix (pd3 (fnM mf) ↑b13) k15,ix (Cd (fnM mh) (ix (pd3 (fnM mf) ↑b13) k15)) (Int.toNat (tVV (↑(List.length (Cd (fnM mh) (ix (pd3 (fnM mf) ↑b13) k15)))) mh))⟩]) U63 Dp (by decide) Z Z Z (lA (rIn.M (m:=⟨ix (pd3 (fnM mf) ↑b13) k15,ix (Cd (fnM mh) (ix (pd3 (fnM mf) ↑b13) k15)) (Int.toNat (tVV (↑(List.length (Cd (fnM mh) (ix (pd3 (fnM mf) ↑b13) k15)))) mh))⟩) (c:=()) (wad (dix d2 k15 (by omega))) (wgl (i:=(Int.toNat (tVV (↑(List.length (Cd (fnM mh) (ix (pd3 (fnM mf) ↑b13) k15)))) mh))) k3 (by omega))) ln) fun g396_90=>jyn d0 (kc k4 kn) (jyo Z (jfz k0 (by(try simp)<;>omega) (Dl U63 Dp (by decide) Z k4 Z Z d0 (by(try simp)<;>omega) fun v397_93 w94=>jyn d1 (kc k4 kn) (jy Z (jas Z) ?_)))))))))
 refine jyd (jbn (jx (jr (jm Z (js (Al Z Z (by omega)) (ja Z (jn ?_)))))))
 exact jag (k15+1,v397_93,li++([⟨ix (pd3 (fnM mf) ((b13:Nat):Int)) k15,ix (Cd (fnM mh) (ix (pd3 (fnM mf) ((b13:Nat):Int)) k15)) (Int.toNat (tVV (((List.length (Cd (fnM mh) (ix (pd3 (fnM mf) ((b13:Nat):Int)) k15)):Nat):Int)) mh))⟩]),m392,al15,qs15) ⟨by dsimp only;omega,by dsimp only;simp only[hm392];first|exact hph15|exact(Je (m:=Ck mh)).trans hph15,by simp[hlil],by dsimp only;rw[hR15,show(pd3 (fnM mf) b13).length-k15=((pd3 (fnM mf) b13).length-(k15+1))+1 by omega,inS,show inX (ix (pd3 (fnM mf) b13) k15) mh=(⟨ix (pd3 (fnM mf) ((b13:Nat):Int)) k15,ix (Cd (fnM mh) (ix (pd3 (fnM mf) ((b13:Nat):Int)) k15)) (Int.toNat (tVV (((List.length (Cd (fnM mh) (ix (pd3 (fnM mf) ((b13:Nat):Int)) k15)):Nat):Int)) mh))⟩,m392) from by(unfold inX;first|(rw[if_pos hz];simp[List.eq_nil_of_length_eq_zero hz,hm392];done)|(rw[if_neg hz];simp only[hm392];done)|(rw[if_neg hz];simp only[hm392];rfl))],om392.mono (by omega)⟩ (dc d4 (dc d5 dn)) (kc k0 (kc k2 (kc k3 (kd (kc k1 kn))))) ⟨Z,Z,Z,Z,Z,Z,Z,Z,eqI (by omega),trivial⟩
 have hE15:inS (pd3 (fnM mf) b13) (pd3 (fnM mf) b13).length 0 [] mg=(li,mh):=by rw[hR15,show(pd3 (fnM mf) b13).length-k15=0 by omega];rfl
 have hpi:(ix mh.bs b13).Phis.length=(ix ph b13).toNat:=by rw[Pc (hph15.trans (hpg.trans (hpf.trans hpu))) b13,hOK2.1 b13,if_pos (by omega)]
 refine jex (jtx (jtx (jbh (jx (jr (jm Z (js (Ak Z) (js (jf Ev Z) (js (jf Bu Z) (js (jl k3 O47 Z Z) (jm Z ?_)))))))))))
 refine js (Gb (j:=b13) U47 Z62 hvb7 Z Z Z (by omega)) (js (jf Dy Z) (js (Pp k1 (by omega) O57 Z Z) (jm Z (jm Z (js (Y2 (i:=i14) U57 Z65 k1 (by omega) Z Z Z (by omega)) (js (jf Fa Z) (jfz k0 (by omega) (Ul b13 k0 (by omega) (jsp (i:=i14) (off:=1) (a:={ (ix (ix mh.bs b13).Phis i14) with In:=li }) k0 (by omega) Z63 Z Z Z w69.one (JS d0) ?_)))))))))
 refine NZ (b':={ (ix mh.bs b13) with Phis:=List.set (ix mh.bs b13).Phis i14 { (ix (ix mh.bs b13).Phis i14) with In:=li } }) (c:=?_) k0 k0 (by omega) Z Z
 refine jkn (c:=34000+200*b13+60*i14+6*k15) ({ mh with bs:=List.set mh.bs b13 { (ix mh.bs b13) with Phis:=List.set (ix mh.bs b13).Phis i14 { (ix (ix mh.bs b13).Phis i14) with In:=li } } }) (kc k2 (kc k2 (kc k0 kn))) ⟨(okM.setb (d:=0) okL15.1 (by dsimp only;rw[List.length_set];exact Nat.le_refl _)),okL15.2⟩ fun ms96 hms96 oms96 bms96=>?_
 clear bdL15
 refine jn (jbn (jx (jr (jm Z (js (Al Z Z (by omega)) (ja Z (jn ?_)))))))
 exact jag (i14+1,ms96,al15,qs15) ⟨by dsimp only;omega,by dsimp only;rw[hms96];exact(O6 (b:=b13) (i:=i14) (l:=li) (m:=mh)).trans (hph15.trans hpg),by dsimp only;rw[hR14,show(Int.toNat (ix ph b13))-i14=((Int.toNat (ix ph b13))-(i14+1))+1 by omega,inP,hE15,hms96];rfl,oms96.mono (by omega)⟩ (dc d1 (dc d2 dn)) (kc k2 (kc k2 (kd (kc k0 kn)))) ⟨Z,Z,Z,Z,Z,Z,eqI (by omega),trivial⟩
 have hE14:inP (pd3 (fnM mf) b13) b13 (Int.toNat (ix ph b13)) 0 mf=mg:=by rw[hR14,show(Int.toNat (ix ph b13))-i14=0 by omega];rfl
 refine jex (jtx (jtx (jbh (jbn (jx (jr (jm Z (js (Al Z Z (by omega)) (ja Z (jn ?_))))))))))
 exact jag (b13+1,mg,al14,qs14) ⟨by dsimp only;omega,by dsimp only;rw[hpg,hpf],by dsimp only;rw[hR13,show nn.toNat-b13=(nn.toNat-(b13+1))+1 by omega,He,hE14],okL14.mono (by omega)⟩ (dc d1 dn) (kc k1 (kc k1 (kc k1 (kd kn)))) ⟨Z,Z,Z,Z,eqI (by omega),trivial⟩
 have hE13:He ph (nn.toNat-1) 1 mu=mf:=by rw[hR13,show nn.toNat-b13=0 by omega];rfl
 refine jex (jtx (jtx (jbh (jx (jq (jr (jm Z (js (Ak Z) (js (jf Ev Z) (js (jla k1 A49 Z49 Z Z Z) (Bk k4 Z49 Z Z Z ⟨Z,Z,trivial⟩ (saf Z) ?_)))))))))))
 refine jn (jx (jrt (JG k4 (okL13.lens (by omega) (by omega)) ?_)))
 exact Ku (val:=vFunc) (b:=⟨mf.par,mf.bs⟩) (c:=(.slice (some ⟨g56,0,none⟩) nn.toNat nn.toNat)) Z Z k0 A49 Z49 Z (by have e0:md0 s=ms3:=(by simp only[hmm0,hm36,hms2,hms3];rfl);have e1:mdN s=nn:=(by rw[mdN,e0];exact hnn);have e2:mdT s=Cp nn m49:=(by rw[mdT,e1,e0,←hm49]);have eB:mdB s=mq:=(by rw[mdB,e2,e1,←hm53,←hms6];exact hE1);have eH:mdH s=(ph,mr):=(by rw[mdH,e1,eB];exact hE2);have eD:mdD s=(dz,mu):=(by rw[mdD,e1,e2,eH];exact hE4);have eF:mdF s=mf:=(by rw[mdF,eH,e1,eD];exact hE13);show fnM (mdF s)=_;rw[eF];rfl) (Aj.M (m:=⟨mf.par,mf.bs⟩) (c:=(.slice (some ⟨g56,0,none⟩) nn.toNat nn.toNat)) d0 (wp (IntWalk.i64_in mf.par (by omega))))
def Iy:List Int→Int→Int
 | [],t=>t
 | x::l,t=>Iy l (if t≤x∧x<8192 then x+1 else t)
def Ld:List D.Tg3→Int→Int
 | [],t=>t
 | x::l,t=>Ld l (Iy x.Makes t)
def Fb(f:D.Func):Int:=Ld (Ad f) (min (max f.Params 0) 8192)
theorem D7:∀(l:List Int) (t:Int),0≤t∧t≤8192→0≤Iy l t∧Iy l t≤8192
 | [],_,h=>h
 | x::l,t,h=>by
  rw[Iy];refine D7 l _ ?_
  split<;>omega
theorem D5:∀(l:List D.Tg3) (t:Int),0≤t∧t≤8192→0≤Ld l t∧Ld l t≤8192
 | [],_,h=>h
 | x::l,t,h=>by rw[Ld];exact D5 l _ (D7 _ _ h)
theorem FG(f:D.Func):0≤Fb f∧Fb f≤8192:=D5 _ _ (by omega)
theorem IV{a0:Value}{f:D.Func}(hsz:Bw f.Blocks<1000000000):Tv Tryz.prog 53 #[vFunc f a0] [da Aj (vFunc f a0) f] [] (.int .i64 (Fb f)):=by
 refine Az (args:=[vFunc f a0]) Tryz.func53 rfl rfl rfl fun w0 X=>?_
 have htl:=Si f
 refine jq (jr (Cm Z Z fun g1=>ja Z (jn (jx (jq (jr (js (jf Hu Z) (js (jl k0 O3 Z Z) (js (Yb Z Z) (js (Lo Z Z) ?_))))))))))
 refine ja Z (jn (jx (jq (jr (js (jla k0 A49 Z49 Z Z Z) (jcd Vr Z Z (Ti (by omega)) (dc d0 dn) kn fun v12 q1 w1=>ja Z (jn (jx (jq (jq ?_))))))))))
 refine jr (ja Z (jn (jx (jb ?_))))
 refine jlp (u2 fun(k:Nat) (t:Int)=>⟨k≤(Ad f).length∧(0≤t∧t≤8192)∧Fb f=Ld ((Ad f).drop k) t,[dv (rL Be) v12 (Ad f)],[],[(2,.int .i64 0),(3,.int .i64 t),(4,v12),(5,.int .i64 (↑k))],(Ad f).length-k⟩) (0,min (max f.Params 0) 8192) ⟨Nat.zero_le _,by dsimp only;omega,rfl⟩ (dc d0 dn) kn ⟨Z,eqI (by omega),Z,eqI (by omega),trivial⟩ ?_
 rintro⟨k,t⟩;dsimp only[u2];rintro⟨hk,ht,hT⟩
 refine jq (jq (jr (jm Z (jm Z (js (jln Ek d0 Z) (js (Ar Z Z) (jn (jx ?_))))))))
 refine jif Z (fun hc1=>?_) (fun hc1=>?_)
 refine jsk (jx (jq (jb (jq (jr (ja Z (jn (jx (jb ?_)))))))))
 refine jlp (u2 fun(j:Nat) (u:Int)=>⟨j≤(ix (Ad f) k).Makes.length∧(0≤u∧u≤8192)∧Iy (ix (Ad f) k).Makes t=Iy ((ix (Ad f) k).Makes.drop j) u,[dv (rL Be) v12 (Ad f)],[],[(2,.int .i64 0),(3,.int .i64 u),(4,v12),(5,.int .i64 (↑k)),(6,.int .i64 (↑j))],(ix (Ad f) k).Makes.length-j⟩) (0,t) ⟨Nat.zero_le _,ht,rfl⟩ (dc d0 dn) kn ⟨Z,eqI (by omega),Z,Z,eqI (by omega),trivial⟩ ?_
 rintro⟨j,u⟩;dsimp only[u2];rintro⟨hj,hu,hU⟩
 refine jq (jq (jr (jm Z (jm Z (jm Z (js (jix Ek Er d0 Z Z Z (by omega)) (js (jf Iw Z) (jev (jlV (Be.A_Makes (dix d0 k (by omega))) O22 Z Z) fun v24 q3 w3=>js (jln U22 d0 Z) (js (Ar Z Z) (jn ?_))))))))))
 refine jx ?_
 refine jif Z (fun hc2=>?_) (fun hc2=>?_)
 refine jsk (jx (jq (jb (jq (jr (jm Z (jm Z (js (jix Ek Er d1 Z Z Z (by omega)) (js (jf Iw Z) (jev (jlV (Be.A_Makes (dix d1 k (by omega))) O22 Z Z) fun v33 q5 w5=>jm Z ?_))))))))))
 refine js (jix U22 Z3 d0 Z Z Z (by omega)) (js (jlI (dix d0 j (by omega)) O3 Z) (jm Z (js (Gj Z Z) (jm Z (jg Z Z (.t _) (fun hg=>jmv Z) (jg Z Z (.t _) (fun hg=>jmv Z) (jg Z Z (.t _) (fun hg=>jix Ek Er d2 (evg Z hg) (evg Z hg) Z (by first|omega|(simp at hg;omega)|(simp only[List.length_set];omega)|(simp;done))) (jg Z Z (.t _) (fun hg=>jf Iw (evg Z hg)) (jge (q:=fun v=>dv (rL (rI .i64)) v ((ix (Ad f) k).Makes)) Z Z (.t _) (fun hg=>jlV (Be.A_Makes (dix d2 k (by first|omega|(simp at hg;omega)|(simp only[List.length_set];omega)|(simp;done)))) O22 Z (evg Z hg)) fun v44=>jg Z Z (.t _) (fun hg=>jmv Z) (jg Z Z (.t _) (fun hg=>jix U22 Z3 (d0.on hg) (evg Z hg) (evg Z hg) Z (by first|omega|(simp at hg;omega)|(simp only[List.length_set];omega)|(simp;done))) ?_))))))))))
 refine jg Z Z (.t _) (fun hg=>jlI (dix (d0.on hg) j (by first|omega|(simp at hg;omega)|(simp only[List.length_set];omega)|(simp;done))) O3 (evg Z hg)) (jg Z Z (.t _) (fun hg=>Ar (evg Z hg) Z) (js (Cf Z Z) (jn (jx ?_))))
 refine jif Z (fun hc3=>?_) (fun hc3=>?_)
 have hcc:(u≤ix (ix (Ad f) k).Makes j∧ix (ix (Ad f) k).Makes j<8192):=by simpa using hc3
 refine jr (jm Z (jm Z (js (jix Ek Er d3 Z Z Z (by omega)) (js (jf Iw Z) (jev (jlV (Be.A_Makes (dix d3 k (by omega))) O22 Z Z) fun v54 q8 w8=>jm Z (js (jix U22 Z3 d0 Z Z Z (by omega)) (js (jlI (dix d0 j (by omega)) O3 Z) (js (Al Z Z (by omega)) (ja Z (jn ?_))))))))))
 refine jbn (jx (jr (jm Z (js (Al Z Z (by omega)) (ja Z (jn ?_))))))
 exact jag (j+1,(ix ((ix (Ad f) k).Makes) j)+1) ⟨by dsimp only;omega,by dsimp only;omega,by dsimp only;rw[hU,Hf (l:=(ix (Ad f) k).Makes) (i:=j) (by omega),Iy,if_pos hcc]⟩ (dc d4 dn) kn ⟨Z,eqI (by omega),Z,Z,eqI (by omega),trivial⟩
 have hcc:¬(u≤ix (ix (Ad f) k).Makes j∧ix (ix (Ad f) k).Makes j<8192):=by intro h9;simp at hc3;omega
 refine jsk (jbn (jx (jr (jm Z (js (Al Z Z (by omega)) (ja Z (jn ?_)))))))
 exact jag (j+1,u) ⟨by dsimp only;omega,by dsimp only;omega,by dsimp only;rw[hU,Hf (l:=(ix (Ad f) k).Makes) (i:=j) (by omega),Iy,if_neg hcc]⟩ (dc d3 dn) kn ⟨Z,Z,Z,Z,eqI (by omega),trivial⟩
 refine jex (jtx (jtx (jbh (jbn (jx (jr (jm Z (js (Al Z Z (by omega)) (ja Z (jn ?_))))))))))
 exact jag (k+1,u) ⟨by dsimp only;omega,hu,by dsimp only;rw[hT,Hf (l:=(Ad f)) (i:=k) (by omega),Ld,hU,List.drop_of_length_le (show(ix (Ad f) k).Makes.length≤j by omega)];rfl⟩ (dc d1 dn) kn ⟨Z,eqI (by omega),Z,eqI (by omega),trivial⟩
 refine jex (jtx (jtx (jbh (jx (jq (jr (jm Z (ja Z (jn (jx (jrt ?_)))))))))))
 exact jrI Z Z (by rw[hT,List.drop_of_length_le (by omega)];rfl)
theorem E53:Ent Tryz.prog 53:=⟨_,Tryz.func53,by kernel_rfl,by kernel_rfl⟩
section
variable{m:Mk}{b:Int}
end
theorem E31:Ent Tryz.prog 31:=⟨_,Tryz.func31,by kernel_rfl,by kernel_rfl⟩
def KS(p:Int)(e:D.End)(l:List D.Mach):D.MFunc:=⟨p,[⟨[],l,e⟩]⟩
attribute [local irreducible] HF AL KS
end Go.Proofs.YtmfkkodnghambaaGreat
namespace Go.Proofs.YtmfkkodnghambaaGreat
open Go.JE
theorem E34:Ent Tryz.prog 34:=⟨_,Tryz.func34,by kernel_rfl,by kernel_rfl⟩
theorem Js(x:Int){n:Int}(h:0<n):-n<Int.tmod x n∧Int.tmod x n<n:=⟨Int.lt_tmod_of_pos x h,Int.tmod_lt_of_pos x h⟩
theorem Oo(x n:Int)(h:0≤x):0≤Int.tmod x n:=Int.tmod_nonneg n h
theorem Y4{l:List Bool}{i j:Nat}:ix (l.set j true) i=true→i=j∨ix l i=true:=by
 intro h
 by_cases hj:j<l.length
 ·rw[Ch hj] at h;split at h;(· left;assumption);right;exact h
 ·rw[List.set_eq_of_length_le (by omega)] at h;exact .inr h
theorem ON{l:List Bool}{i j:Nat}(h:ix l i=true):ix (l.set j true) i=true:=by
 by_cases hj:j<l.length
 ·rw[Ch hj];split;rfl;exact h
 ·rw[List.set_eq_of_length_le (by omega)];exact h
theorem OS{l:List Bool}{i:Nat}(h:ix l i=true):i<l.length:=by
 rcases Nat.lt_or_ge i l.length with h1|h1
 ·exact h1
 ·simp[ix,List.getD,List.getElem?_eq_none h1] at h
section
variable{w:Int}
theorem Pw:∀(ts:List Int) (se:List Bool) (q:List Int) (j:Nat),ix se j=true→ix (Dc w se q ts).1 j=true
 | [],_,_,_,h=>h
 | t::ts,se,q,j,h=>by rw[Dc];split;exact Pw ts _ _ j (ON h);exact Pw ts _ _ j h
theorem Zi:∀(ts:List Int) (se:List Bool) (q:List Int),∃u,(Dc w se q ts).2=q++u
 | [],_,q=>⟨[],by simp[Dc]⟩
 | t::ts,se,q=>by
  rw[Dc];split
  ·obtain⟨u,h⟩:=Zi ts (se.set t.toNat true) (q++[t]);exact⟨t::u,by rw[h];simp⟩
  ·exact Zi ts se q
theorem Zh:∀(ts:List Int) (se:List Bool) (q:List Int),∀t∈ts,0≤t→t<se.length→t≠w→ix (Dc w se q ts).1 t.toNat=true
 | [],_,_,t,h,_,_,_=>by cases h
 | y::ts,se,q,t,h,h0,h1,h2=>by
  rw[Dc]
  rcases List.mem_cons.1 h with rfl|h
  ·split
   ·exact Pw ts _ _ _ (by rw[Ch (by omega),if_pos rfl])
   ·rename_i h9
    refine Pw ts _ _ _ ?_
    cases h8:ix se t.toNat with
    | true=>rfl
    | false=>exact absurd ⟨⟨h0,h1⟩,h8,h2⟩ h9
  ·split
   ·exact Zh ts _ _ t h h0 (by simpa using h1) h2
   ·exact Zh ts _ _ t h h0 h1 h2
theorem Ze:∀(ts:List Int) (se:List Bool) (q:List Int),(∀j:Nat,ix se j=true→(j:Int)∈q)→∀j:Nat,ix (Dc w se q ts).1 j=true→(j:Int)∈(Dc w se q ts).2
 | [],_,_,h,j,hj=>h j hj
 | t::ts,se,q,h,j,hj=>by
  rw[Dc] at hj ⊢
  split at hj
  ·rename_i h9
   rw[if_pos h9]
   refine Ze ts _ _ (fun i hi=>?_) j hj
   rcases Y4 hi with e|e
   ·rw[e];simp;right;omega
   ·simp[h i e]
  ·rename_i h9
   rw[if_neg h9];exact Ze ts _ _ h j hj
theorem Zg:∀(ts:List Int) (se:List Bool) (q:List Int),(Dc w se q ts).2.length+Fu (Dc w se q ts).1=q.length+Fu se
 | [],_,_=>rfl
 | t::ts,se,q=>by
  rw[Dc];split
  ·rename_i h9
   rw[Zg ts]
   have:=Nz (l:=se) (i:=t.toNat) (by omega) h9.2.1
   rw[List.length_append];simp;omega
  ·exact Zg ts _ _
end
theorem CP{bs:List D.Block}{w:Int}:∀(f:Nat) (se:List Bool) (q:List Int) (i:Nat),bs.length≤f+i→se.length=bs.length→q.length+Fu se≤bs.length →
  (∀j:Nat,ix se j=true→(j:Int)∈q)→(∀j,j<i→j<q.length→∀t∈(ix bs (ix q j).toNat).Term.To,0≤t→t<bs.length→t≠w→ix se t.toNat=true) →
  (∀j,ix se j=true→ix (b3 bs w f se q i) j=true)∧∀x:Nat,ix (b3 bs w f se q i) x=true→∀t∈(ix bs x).Term.To,0≤t→t<bs.length→t≠w→ix (b3 bs w f se q i) t.toNat=true
 | 0,se,q,i,hf,hl,hc,hq,hp=>by
  refine⟨fun j h=>h,fun x hx t ht h0 h1 h2=>?_⟩
  obtain⟨j,hj,e⟩:=List.getElem_of_mem (hq x hx)
  have e2:ix q j=x:=by rw[Bp hj];exact e
  exact hp j (by omega) hj t (by rw[e2];simpa using ht) h0 h1 h2
 | f+1,se,q,i,hf,hl,hc,hq,hp=>by
  rw[b3]
  by_cases hi:i<q.length
  ·rw[if_pos hi]
   obtain⟨u,hu⟩:=Zi (w:=w) (ix bs (ix q i).toNat).Term.To se q
   have hcn:=Zg (w:=w) (ix bs (ix q i).toNat).Term.To se q
   obtain⟨a,b⟩:=CP (bs:=bs) (w:=w) f (Dc w se q (ix bs (ix q i).toNat).Term.To).1 (Dc w se q (ix bs (ix q i).toNat).Term.To).2 (i+1) (by omega) (by rw[Rt];exact hl) (by omega)
    (Ze _ _ _ hq) (fun j hj hj2 t ht h0 h1 h2=>by
     rw[hu] at ht
     rcases Nat.lt_or_ge j i with h|h
     ·rw[Up (l:=q) (i:=j) (by omega)] at ht
      exact Pw _ _ _ _ (hp j h (by omega) t ht h0 h1 h2)
     ·rw[show j=i by omega,Up hi] at ht
      exact Zh _ _ _ t ht h0 (by omega) h2)
   exact⟨fun j hj=>a j (Pw _ _ _ _ hj),b⟩
  ·rw[if_neg hi]
   refine⟨fun j h=>h,fun x hx t ht h0 h1 h2=>?_⟩
   obtain⟨j,hj,e⟩:=List.getElem_of_mem (hq x hx)
   have e2:ix q j=x:=by rw[Bp hj];exact e
   exact hp j (by omega) hj t (by rw[e2];simpa using ht) h0 h1 h2
theorem Xb{f:D.Func}{w:Int}(hw:w≠0)(hn:0<f.Blocks.length):ix (Dh f w) 0=true∧∀x:Nat,ix (Dh f w) x=true→∀t∈(ix f.Blocks x).Term.To,0≤t→t<f.Blocks.length→t≠w→ix (Dh f w) t.toNat=true:=by
 unfold Dh
 rw[if_pos ⟨hw,hn⟩]
 have h0:ix ((List.replicate f.Blocks.length false).set 0 true) 0=true:=by rw[Ch (by simpa using hn),if_pos rfl]
 obtain⟨a,b⟩:=CP (bs:=f.Blocks) (w:=w) f.Blocks.length ((List.replicate f.Blocks.length false).set 0 true) [0] 0 (by omega) (by simp)
  (by have:=Nz (l:=List.replicate f.Blocks.length false) (i:=0) (by simpa using hn) (Jh _ _);rw[Ro] at this;simp;omega)
  (fun j hj=>by rcases Y4 hj with e|e;(· subst e;simp);rw[Jh] at e;cases e) (fun j hj=>by omega)
 exact⟨a 0 h0,b⟩
def DI(n:Nat)(to:Nat→List Int):Prop:=∀b:Nat,1≤b→b<n→∃p,p<b∧(b:Int)∈to p
theorem HY{f:D.Func}(hP:DI f.Blocks.length (fun j=>(ix f.Blocks j).Term.To)){a:Nat}:∀b:Nat,b<a→b<f.Blocks.length→ix (Dh f (a:Int)) b=true:=by
 intro b
 induction b using Nat.strongRecOn with
 | ind b ih =>
  intro hb hn
  obtain⟨h0,hc⟩:=Xb (f:=f) (w:=(a:Int)) (by omega) (by omega)
  rcases Nat.eq_zero_or_pos b with e|e
  ·subst e;exact h0
  ·obtain⟨p,hp,hm⟩:=hP b e hn
   have:=hc p (ih p hp (by omega) (by omega)) (b:Int) hm (by omega) (by omega) (by omega)
   simpa[Xa] using this
def TR(n:Nat)(L:Nat)(to:List (List Int)):Prop:=to.length=n∧(∀j,(ix to j).length≤L)∧∀j,∀t∈ix to j,1≤t∧t<n
def PB(b:Int)(to:List (List Int)):Prop:=∀c:Nat,1≤c→(c:Int)<b→∃p,p<c∧(c:Int)∈ix to p
theorem TR.mono{n L M:Nat}{to:List (List Int)}(h:TR n L to)(hl:L≤M):TR n M to:=⟨h.1,fun j=>Nat.le_trans (h.2.1 j) hl,h.2.2⟩
theorem Uo{to:List (List Int)}{p:Nat}{x:Int}(hp:p<to.length)(j:Nat):ix (to.set p (to.getD p []++[x])) j=if j=p then ix to p++[x] else ix to j:=by
 rw[Ch hp];rfl
theorem TR.put{n L p:Nat}{to:List (List Int)}{x:Int}(h:TR n L to)(hp:p<n)(hx:1≤x∧x<n):TR n (L+1) (to.set p (to.getD p []++[x])):=by
 have hp':p<to.length:=by rw[h.1];exact hp
 refine⟨by rw[List.length_set];exact h.1,fun j=>?_,fun j t ht=>?_⟩
 ·rw[Uo hp'];split
  ·rw[List.length_append];have:=h.2.1 p;simp;omega
  ·have:=h.2.1 j;omega
 ·rw[Uo hp'] at ht;split at ht
  ·rcases List.mem_append.1 ht with h1|h1
   ·exact h.2.2 p t h1
   ·simp at h1;subst h1;exact hx
  ·exact h.2.2 j t ht
theorem LN{to:List (List Int)}{p j:Nat}{x y:Int}(hp:p<to.length)(h:y∈ix to j):y∈ix (to.set p (to.getD p []++[x])) j:=by
 rw[Uo hp];split
 ·rename_i e;subst e;simp[h]
 ·exact h
theorem PB.put{to:List (List Int)}{b:Int}{p:Nat}{x:Int}(h:PB b to)(hp:p<to.length):PB b (to.set p (to.getD p []++[x])):=fun c h1 h2=>by
 obtain⟨q,h3,h4⟩:=h c h1 h2
 exact⟨q,h3,LN hp h4⟩
theorem PB.next{to:List (List Int)}{b:Int}{p:Nat}(h:PB b to)(hp:p<to.length)(hb:(p:Int)<b):PB (b+1) (to.set p (to.getD p []++[b])):=fun c h1 h2=>by
 by_cases e:(c:Int)=b
 ·refine⟨p,by omega,?_⟩
  rw[Uo hp,if_pos rfl,e];simp
 ·exact h.put hp c h1 (by omega)
theorem Wf{n:Nat}:∀(k L:Nat) (b:Int) (to:List (List Int)) (m:Mk),1≤b→b+k=n→TR n L to→PB b to→TR n (L+k) (tgA k b to m).1∧PB n (tgA k b to m).1
 | 0,L,b,to,m,_,hb,h,hp=>⟨h,by rw[tgA,←hb];simpa using hp⟩
 | k+1,L,b,to,m,h1,hb,h,hp=>by
  have hr:=tV9 (n:=b) (by omega) (tSS m)
  rw[tgA]
  split
  ·have hq:(tVV b (tSS m)).toNat<to.length:=by rw[h.1];omega
   obtain⟨a,c⟩:=Wf k (L+1) (b+1) _ (tSS (tSS m)) (by omega) (by omega) (h.put (p:=(tVV b (tSS m)).toNat) (x:=b) (by omega) (by omega)) (hp.next hq (by omega))
   exact⟨a.mono (by omega),c⟩
  ·have hq:(b-1).toNat<to.length:=by rw[h.1];omega
   obtain⟨a,c⟩:=Wf k (L+1) (b+1) _ (tSS m) (by omega) (by omega) (h.put (p:=(b-1).toNat) (x:=b) (by omega) (by omega)) (hp.next hq (by omega))
   exact⟨a.mono (by omega),c⟩
theorem FI{n:Nat}{b:Int}(m:Mk)(hn:1<n)(hb:0≤b):1≤(tgX n b m).1∧(tgX n b m).1<n:=by
 have hr:=tV9 (n:=(n:Int)-1) (by omega) m
 unfold tgX
 repeat' split
 all_goals (dsimp only;omega)
theorem E1{n:Nat}{b:Int}(hn:1<n)(hb:0≤b∧b<n):∀(k L:Nat) (to:List (List Int)) (m:Mk),TR n L to→PB n to→TR n (L+k) (tgI n b k to m).1∧PB n (tgI n b k to m).1
 | 0,L,to,m,h,hp=>⟨h,hp⟩
 | k+1,L,to,m,h,hp=>by
  rw[tgI]
  obtain⟨a,c⟩:=E1 hn hb k (L+1) _ (tgX n b m).2 (h.put (p:=b.toNat) (x:=(tgX n b m).1) (by omega) (FI m hn hb.1)) (hp.put (by rw[h.1];omega))
  exact⟨a.mono (by omega),c⟩
theorem E6{n:Nat}:∀(k L:Nat) (b:Int) (to:List (List Int)) (m:Mk),0≤b→b+k=n→TR n L to→PB n to→TR n (L+2*k) (tgB n k b to m).1∧PB n (tgB n k b to m).1
 | 0,L,b,to,m,_,_,h,hp=>⟨h,hp⟩
 | k+1,L,b,to,m,h0,hb,h,hp=>by
  rw[tgB]
  have hr:=tV9 (n:=6) (by omega) m
  have h1:TR n (L+2) (tgI n b (if 1<(n:Int) then (tVV 6 m-3).toNat else 0) to (tSS m)).1∧PB n (tgI n b (if 1<(n:Int) then (tVV 6 m-3).toNat else 0) to (tSS m)).1:=by
   by_cases hn:1<(n:Int)
   ·rw[if_pos hn]
    obtain⟨a,c⟩:=E1 (n:=n) (b:=b) (by omega) (by omega) (tVV 6 m-3).toNat L to (tSS m) h hp
    exact⟨a.mono (by omega),c⟩
   ·rw[if_neg hn];exact⟨h.mono (by omega),hp⟩
  obtain⟨a,c⟩:=E6 k (L+2) (b+1) _ (tgI n b (if 1<(n:Int) then (tVV 6 m-3).toNat else 0) to (tSS m)).2 (by omega) (by omega) h1.1 h1.2
  exact⟨a.mono (by omega),c⟩
theorem FP{n:Nat}(hn:1≤n∧n≤9)(m:Mk):TR n 30 (Cp n m).1∧PB n (Cp n m).1:=by
 have h0:TR n 0 (List.replicate n []):=⟨by simp,fun j=>by have:=Ww (n:=n) (B:=0) j;exact this,fun j t ht=>by
  have h9:=Ww (n:=n) (B:=0) j
  have h8:ix (List.replicate n ([]:List Int)) j=[]:=List.eq_nil_of_length_eq_zero (by have:(ix (List.replicate n ([]:List Int)) j).length≤0:=h9;omega)
  rw[h8] at ht;cases ht⟩
 have h1:=Wf (n:=n) (n-1) 0 1 (List.replicate n []) m (by omega) (by omega) h0 (fun c h1 h2=>by omega)
 unfold Cp Ly
 simp only[Int.toNat_natCast]
 obtain⟨a,c⟩:=E6 (n:=n) n (0+(n-1)) 0 _ (tgA (n-1) 1 (List.replicate n []) m).2 (by omega) (by omega) h1.1 h1.2
 exact⟨a.mono (by omega),c⟩
def gI(n:Int)(i:D.Ins):Prop:=(1≤i.Op∧i.Op≤18)∧(i.Op=1∨i.Op=17∨(i.Op=15∧1≤i.Args.length)∨2≤i.Args.length)∧i.Args.length≤4∧(∀a∈i.Args,0≤a∧a<n)∧(∀d∈Ba i,0≤d∧d<n)∧(i.Op=18→i.Dst≠i.Two)
def gT(n:Int)(t:D.Term):Prop:=(1≤t.Kind∧t.Kind≤5)∧(∀a∈t.Args,0≤a∧a<n)∧(t.Kind=1→t.To.length=1)∧(t.Kind=2→t.To.length=2∧1≤t.Args.length)∧(t.Kind=3→2≤t.To.length∧t.To.length≤65∧1≤t.Args.length)∧(4≤t.Kind→t.To=[])
def gP(n:Int)(p:D.Phi):Prop:=(0≤p.Dst∧p.Dst<n)∧∀x∈p.In,0≤x.Val∧x.Val<n
def gB(n:Int)(x:D.Block):Prop:=(∀i∈x.Ins,gI n i)∧(∀p∈x.Phis,gP n p)∧(x.Term.Kind=0∨gT n x.Term)∧(x.Phis.map (·.Dst)).Nodup
def cI:List D.Block→Nat
 | []=>0
 | x::l=>x.Ins.length+cI l
theorem Rq:∀{l:List D.Block} {j d:Nat} {b:D.Block},b.Ins.length≤(ix l j).Ins.length+d→cI (l.set j b)≤cI l+d
 | [],_,_,_,_=>by simp[cI]
 | x::l,0,_,b,h=>by rw[Fq] at h;rw[List.set_cons_zero,cI,cI];omega
 | x::l,j+1,d,b,h=>by rw[Fi] at h;rw[List.set_cons_succ,cI,cI];have:=Rq (l:=l) h;omega
section
variable{n n':Int}
theorem gI.mono{i:D.Ins}(h:gI n i)(hn:n≤n'):gI n' i:=⟨h.1,h.2.1,h.2.2.1,fun a ha=>by have:=h.2.2.2.1 a ha;omega,fun a ha=>by have:=h.2.2.2.2.1 a ha;omega,h.2.2.2.2.2⟩
theorem gT.mono{t:D.Term}(h:gT n t)(hn:n≤n'):gT n' t:=⟨h.1,fun a ha=>by have:=h.2.1 a ha;omega,h.2.2⟩
theorem gP.mono{p:D.Phi}(h:gP n p)(hn:n≤n'):gP n' p:=⟨by have:=h.1;omega,fun x hx=>by have:=h.2 x hx;omega⟩
theorem gB.mono{x:D.Block}(h:gB n x)(hn:n≤n'):gB n' x:=⟨fun i hi=>(h.1 i hi).mono hn,fun i hi=>(h.2.1 i hi).mono hn,h.2.2.1.imp id (fun h=>h.mono hn),h.2.2.2⟩
end
structure RI(n b c:Nat)(to:List (List Int))(m:Mk):Prop where
 len:m.bs.length=n
 par:0≤m.par∧m.par≤4
 nx:m.par≤m.nx∧m.nx≤c
 cnt:cI m.bs≤c
 lv:∀x∈m.lv,0≤x∧x<m.nx
 blk:∀j,j<n→gB m.nx (ix m.bs j)
 tos:∀j,j<n→(ix m.bs j).Term.To=ix to j
 kd:∀j,j<b→j<n→(ix m.bs j).Term.Kind≠0
section
variable{n b c d:Nat}{to:List (List Int)}{m:Mk}
theorem RI.mono(h:RI n b c to m)(hc:c≤d):RI n b d to m:=⟨h.len,h.par,by have:=h.nx;omega,by have:=h.cnt;omega,h.lv,h.blk,h.tos,h.kd⟩
theorem RI.take(h:RI n b c to m):RI n b c to (tSS m):=⟨h.len,h.par,h.nx,h.cnt,h.lv,h.blk,h.tos,h.kd⟩
theorem RI.fresh(h:RI n b c to m):RI n b (c+1) to (Bj m) where
 len:=h.len
 par:=h.par
 nx:=by have:=h.nx;show m.par≤m.nx+1∧m.nx+1≤_;omega
 cnt:=by have:=h.cnt;show cI m.bs≤_;omega
 lv:=fun x hx=>by have:=h.lv x hx;show 0≤x∧x<m.nx+1;omega
 blk:=fun j hj=>(h.blk j hj).mono (by show m.nx≤m.nx+1;omega)
 tos:=h.tos
 kd:=h.kd
theorem RI.add{i:D.Ins}{j:Int}(h:RI n b c to m)(hj:0≤j∧j<n)(hi:gI m.nx i):RI n b (c+1) to (Cc j i m) where
 len:=by show(m.bs.set _ _).length=n;rw[List.length_set];exact h.len
 par:=h.par
 nx:=by have:=h.nx;show m.par≤m.nx∧m.nx≤_;omega
 cnt:=by
  have h1:=Rq (l:=m.bs) (j:=j.toNat) (d:=1) (b:={ (ix m.bs j.toNat) with Ins:=(ix m.bs j.toNat).Ins++[i] }) (by dsimp only;rw[List.length_append];exact Nat.le_refl _)
  have h2:=h.cnt
  show cI (m.bs.set _ _)≤_;omega
 lv:=fun x hx=>by
  rcases List.mem_append.1 (show x∈m.lv++Ba i from hx) with h1|h1
  ·exact h.lv x h1
  ·exact hi.2.2.2.2.1 x h1
 blk:=fun q hq=>by
  show gB m.nx (ix (m.bs.set _ _) q)
  rw[Ch (by rw[h.len];omega)];split
  ·have h1:=h.blk j.toNat (by omega)
   refine⟨fun y hy=>?_,h1.2⟩
   rcases List.mem_append.1 hy with h2|h2
   ·exact h1.1 y h2
   ·simp at h2;subst h2;exact hi
  ·exact h.blk q hq
 tos:=fun q hq=>by
  show(ix (m.bs.set _ _) q).Term.To=_
  rw[Ch (by rw[h.len];omega)];split
  ·rename_i e;subst e;exact h.tos _ hq
  ·exact h.tos q hq
 kd:=fun q hb hq=>by
  show(ix (m.bs.set _ _) q).Term.Kind≠0
  rw[Ch (by rw[h.len];omega)];split
  ·rename_i e;subst e;exact h.kd _ hb hq
  ·exact h.kd q hb hq
theorem QJ{n v:Int}{x:Int}(h:0≤x∧x<n):gI n ⟨1,x,0,[],v⟩:=⟨(by dsimp only;omega),.inl rfl,Nat.zero_le _,fun a ha=>(by cases ha),fun a ha=>(by simp[Ba] at ha;subst ha;exact h),fun h=>(by simp at h)⟩
theorem Mf{n op x a b v:Int}(hop:2≤op∧op≤14)(h:0≤x∧x<n)(ha:0≤a∧a<n)(hb:0≤b∧b<n):gI n ⟨op,x,0,[a,b],v⟩ :=
 ⟨(by dsimp only;omega),.inr (.inr (.inr (Nat.le_refl _))),(by show 2≤4;omega),fun y hy=>(by simp at hy;rcases hy with rfl|rfl<;>assumption),fun y hy=>(by
  have:Ba ⟨op,x,0,[a,b],v⟩=[x]:=by unfold Ba;rw[if_neg (by dsimp only;omega),if_neg (by dsimp only;omega)]
  rw[this] at hy;simp at hy;subst hy;exact h),fun h=>(by dsimp only at h;omega)⟩
theorem RI.const{j v:Int}(h:RI n b c to m)(hj:0≤j∧j<n):RI n b (c+2) to (Bq j v m):=h.fresh.add hj (QJ (by have:=h.nx;have:=h.par;show 0≤m.nx∧m.nx<m.nx+1;omega))
theorem KZ{j v:Int}:(Bq j v m).nx=m.nx+1:=rfl
theorem RI.word(h:RI n b c to m):RI n b c to (Ck m):=h.take.take
theorem RI.value(h:RI n b c to m):RI n b c to (Cw m)∧(Cw m).nx=m.nx:=by unfold Cw;split;exact⟨h,rfl⟩;exact⟨h.take.take,rfl⟩
theorem RI.some0(h:RI n b c to m):RI n b c to (Dg m)∧(Dg m).nx=m.nx:=by
 unfold Dg;split
 ·exact⟨h.value.1.take,h.value.2⟩
 ·exact h.value
theorem RI.nn(h:RI n b c to m):0≤m.nx:=by have:=h.nx;have:=h.par;omega
theorem RI.some{j:Int}(h:RI n b c to m)(hj:0≤j∧j<n):RI n b (c+2) to (sS9 j m)∧m.nx≤(sS9 j m).nx∧0≤sV9 m∧sV9 m<(sS9 j m).nx:=by
 have h0:=h.some0
 have hn:=h.nn
 unfold sS9 sV9
 by_cases hc:Gu m=true
 ·rw[if_pos hc,if_pos hc,KZ]
  have:(Ck (Dg m)).nx=m.nx:=h0.2
  exact⟨h0.1.word.const hj,by omega,by omega,by omega⟩
 ·rw[if_neg hc,if_neg hc]
  refine⟨h0.1.mono (by omega),by omega,?_⟩
  rw[h0.2]
  have hv:Dz m=true:=by
   cases h9:Dz m with
   | true=>rfl
   | false=>exact absurd (by unfold Gu;rw[h9];rfl) hc
  have hl:m.lv.length≠0:=by unfold Dz at hv;simpa using hv
  unfold El
  rw[if_neg hl]
  have hr:0≤Em m∧Em m<m.lv.length:=by
   unfold Em;split
   ·omega
   ·exact tV9 (by omega) m
  have:=h.lv _ (Ax (l:=m.lv) (i:=(Em m).toNat) (by omega))
  exact this
theorem RI.me1{j:Int}(h:RI n b c to m)(hj:0≤j∧j<n):RI n b (c+12) to (Bt j m).2∧m.nx≤(Bt j m).2.nx∧0≤(Bt j m).1∧(Bt j m).1<(Bt j m).2.nx:=by
 have h1:RI n b (c+2) to (Bq j (IntKind.i32.wrap (tVV 9 m)) (tSS m)):=h.take.const hj
 have hn:=h.nn
 unfold Bt
 dsimp only
 split
 ·have h2:=h1.take.some hj
  have e2:(tSS (Bq j (IntKind.i32.wrap (tVV 9 m)) (tSS m))).nx=m.nx+1:=rfl
  generalize tSS (Bq j (IntKind.i32.wrap (tVV 9 m)) (tSS m))=m2 at h2 e2 ⊢
  have h3:=h2.1
  generalize sS9 j m2=m3 at h2 h3 ⊢
  have h4:RI n b (c+6) to (Bq j 7 m3):=h3.const hj
  have e4:(Bq j 7 m3).nx=m3.nx+1:=rfl
  generalize Bq j 7 m3=m4 at h4 e4 ⊢
  have h6:RI n b (c+8) to (Cc j ⟨5,m4.nx,0,[sV9 m2,m3.nx],0⟩ (Bj m4)):=h4.fresh.add hj (Mf (by omega) (by show _∧_<m4.nx+1;omega) (by show _∧_<m4.nx+1;omega) (by show _∧_<m4.nx+1;omega))
  have e6:(Cc j ⟨5,m4.nx,0,[sV9 m2,m3.nx],0⟩ (Bj m4)).nx=m4.nx+1:=rfl
  generalize Cc j ⟨5,m4.nx,0,[sV9 m2,m3.nx],0⟩ (Bj m4)=m6 at h6 e6 ⊢
  have et:(tSS m).nx=m.nx:=rfl
  refine⟨(h6.fresh.add hj (Mf (by omega) (by show _∧_<m6.nx+1;omega) (by show _∧_<m6.nx+1;omega) (by show _∧_<m6.nx+1;omega))).mono (by omega),?_,?_,?_⟩
  ·show m.nx≤m6.nx+1;omega
  ·show 0≤m6.nx;omega
  ·show m6.nx<m6.nx+1;omega
 ·refine⟨h1.take.mono (by omega),?_,?_,?_⟩
  ·show m.nx≤m.nx+1;omega
  ·show 0≤m.nx;omega
  ·show m.nx<m.nx+1;omega
theorem RI.me2(h:RI n b c to m):RI n b c to (Cl m).2∧(Cl m).2.nx=m.nx:=by
 unfold Cl;dsimp only;split
 ·exact⟨h.take.take.word,rfl⟩
 ·exact⟨h.take.take,rfl⟩
theorem RI.mem{j:Int}{st:Bool}(h:RI n b c to m)(hj:0≤j∧j<n):RI n b (c+15) to (Ci j st m):=by
 have h1:=h.me1 hj
 have h2:=h1.1.me2
 unfold Ci
 dsimp only
 have hn:=h2.1.nn
 split
 ·have h3:=h2.1.some hj
  exact h3.1.add hj ⟨(by dsimp only;omega),.inr (.inr (.inr (Nat.le_refl _))),(by show 2≤4;omega),fun y hy=>(by simp at hy;rcases hy with rfl|rfl<;>omega),fun y hy=>(by simp[Ba] at hy),fun h=>(by simp at h)⟩
 ·refine(h2.1.fresh.add hj ⟨(by dsimp only;omega),.inr (.inr (.inl ⟨rfl,Nat.le_refl _⟩)),(by show 1≤4;omega),fun y hy=>(by simp at hy;subst hy;show _∧_<_+1;omega),fun y hy=>(by simp[Ba] at hy;subst hy;show _∧_<_+1;omega),fun h=>(by simp at h)⟩).mono (by omega)
theorem RI.args{j:Int}(hj:0≤j∧j<n):∀(k:Nat) {c:Nat} (l:List Int) (m:Mk),RI n b c to m→(∀x∈l,0≤x∧x<m.nx)→RI n b (c+2*k) to (Eg j k l m).2∧m.nx≤(Eg j k l m).2.nx∧∀x∈(Eg j k l m).1,0≤x∧x<(Eg j k l m).2.nx
 | 0,_,l,m,h,hl=>⟨h,Int.le_refl _,hl⟩
 | k+1,c,l,m,h,hl=>by
  have h1:=h.some hj
  rw[Eg]
  obtain⟨a,d,e⟩:=RI.args hj k (l++[sV9 m]) (sS9 j m) h1.1 (fun x hx=>by
   rcases List.mem_append.1 hx with h2|h2
   ·have:=hl x h2;omega
   ·simp at h2;subst h2;omega)
  exact⟨a.mono (by omega),by omega,e⟩
theorem S0{k:Int}(h:0≤k∧k<12):2≤ix [(2:Int),2,3,4,5,6,7,8,9,10,12,11] k.toNat∧ix [(2:Int),2,3,4,5,6,7,8,9,10,12,11] k.toNat≤14:=by
 have:∀i:Nat,i<12→2≤ix [(2:Int),2,3,4,5,6,7,8,9,10,12,11] i∧ix [(2:Int),2,3,4,5,6,7,8,9,10,12,11] i≤14:=by decide
 exact this _ (by omega)
theorem KR{k:Int}(h:0≤k∧k<3):2≤ix [(11:Int),12,13] k.toNat∧ix [(11:Int),12,13] k.toNat≤14:=by
 have:∀i:Nat,i<3→2≤ix [(11:Int),12,13] i∧ix [(11:Int),12,13] i≤14:=by decide
 exact this _ (by omega)
theorem RI.ins{j:Int}(h:RI n b c to m)(hj:0≤j∧j<n):RI n b (c+16) to (Cj j m):=by
 have hn:=h.nn
 have hk:=tV9 (n:=20) (by omega) m
 have h1:RI n b c to (tSS m):=h.take
 have e1:(tSS m).nx=m.nx:=rfl
 have h2:=h1.some hj
 have h3:=h2.1.some hj
 unfold Cj
 dsimp only
 generalize tVV 20 m=k at hk ⊢
 generalize tSS m=m1 at h1 e1 h2 h3 ⊢
 split
 ·split
  ·have h4:RI n b (c+6) to (Bq j (IntKind.i32.wrap (tVV 40 (tSS (sS9 j (sS9 j m1)))-8)) (tSS (tSS (sS9 j (sS9 j m1))))):=h3.1.take.take.const hj
   have e4:(Bq j (IntKind.i32.wrap (tVV 40 (tSS (sS9 j (sS9 j m1)))-8)) (tSS (tSS (sS9 j (sS9 j m1))))).nx=(sS9 j (sS9 j m1)).nx+1:=rfl
   have e5:(tSS (tSS (sS9 j (sS9 j m1)))).nx=(sS9 j (sS9 j m1)).nx:=rfl
   generalize Bq j (IntKind.i32.wrap (tVV 40 (tSS (sS9 j (sS9 j m1)))-8)) (tSS (tSS (sS9 j (sS9 j m1))))=m4 at h4 e4 ⊢
   exact(h4.fresh.add hj (Mf (S0 (by omega)) (by show _∧_<m4.nx+1;omega) (by show _∧_<m4.nx+1;omega) (by show _∧_<m4.nx+1;omega))).mono (by omega)
  ·have e5:(tSS (sS9 j (sS9 j m1))).nx=(sS9 j (sS9 j m1)).nx:=rfl
   exact(h3.1.take.fresh.add hj (Mf (S0 (by omega)) (by show _∧_<(sS9 j (sS9 j m1)).nx+1;omega) (by show _∧_<(sS9 j (sS9 j m1)).nx+1;omega) (by show _∧_<(sS9 j (sS9 j m1)).nx+1;omega))).mono (by omega)
 split
 ·exact(h3.1.fresh.add hj (Mf (by omega) (by show _∧_<(sS9 j (sS9 j m1)).nx+1;omega) (by show _∧_<(sS9 j (sS9 j m1)).nx+1;omega) (by show _∧_<(sS9 j (sS9 j m1)).nx+1;omega))).mono (by omega)
 split
 ·have h4:RI n b (c+4) to (Bq j (IntKind.i32.wrap (tVV 12 (sS9 j m1))) (tSS (sS9 j m1))):=h2.1.take.const hj
  have e4:(Bq j (IntKind.i32.wrap (tVV 12 (sS9 j m1))) (tSS (sS9 j m1))).nx=(sS9 j m1).nx+1:=rfl
  have e9:(tSS (sS9 j m1)).nx=(sS9 j m1).nx:=rfl
  generalize Bq j (IntKind.i32.wrap (tVV 12 (sS9 j m1))) (tSS (sS9 j m1))=m4 at h4 e4 ⊢
  split
  ·have h5:RI n b (c+6) to (Bq j (IntKind.i32.wrap (1+IntKind.i32.wrap (tVV 12 (tSS m4)))) (tSS (tSS m4))):=h4.take.take.const hj
   have e5:(Bq j (IntKind.i32.wrap (1+IntKind.i32.wrap (tVV 12 (tSS m4)))) (tSS (tSS m4))).nx=m4.nx+1:=rfl
   have e6:(tSS (tSS m4)).nx=m4.nx:=rfl
   generalize Bq j (IntKind.i32.wrap (1+IntKind.i32.wrap (tVV 12 (tSS m4)))) (tSS (tSS m4))=m5 at h5 e5 ⊢
   exact(h5.fresh.add hj (Mf (by omega) (by show _∧_<m5.nx+1;omega) (by show _∧_<m5.nx+1;omega) (by show _∧_<m5.nx+1;omega))).mono (by omega)
  ·have e6:(tSS m4).nx=m4.nx:=rfl
   exact(h4.take.fresh.add hj (Mf (by omega) (by show _∧_<m4.nx+1;omega) (by show _∧_<m4.nx+1;omega) (by show _∧_<m4.nx+1;omega))).mono (by omega)
 split
 ·exact(h1.mem hj).mono (by omega)
 split
 ·have h5:=tV9 (n:=5) (by omega) m1
  obtain⟨a,d,e⟩:=RI.args hj (tVV 5 m1).toNat [] (tSS m1) h1.take (fun x hx=>by cases hx)
  have hl:=CV (b:=j) (tVV 5 m1).toNat [] (tSS m1)
  have hn2:=a.nn
  generalize Eg j (tVV 5 m1).toNat [] (tSS m1)=r at a d e hl hn2 ⊢
  refine((a.fresh.take).add hj ⟨(by dsimp only;omega),.inr (.inl rfl),(by dsimp only;rw[hl];simp;omega),fun y hy=>?_,fun y hy=>?_,fun h=>(by simp at h)⟩).mono (by omega)
  ·have:=e y hy;show _∧_<r.2.nx+1;omega
  ·simp[Ba] at hy;subst hy;show 0≤r.2.nx∧r.2.nx<r.2.nx+1;omega
 split
 ·refine(h3.1.fresh.fresh.add hj ⟨(by dsimp only;omega),.inr (.inr (.inr (Nat.le_refl _))),(by show 2≤4;omega),fun y hy=>?_,fun y hy=>?_,fun _=>?_⟩).mono (by omega)
  ·simp at hy;show _∧_<(sS9 j (sS9 j m1)).nx+1+1
   rcases hy with rfl|rfl<;>omega
  ·simp[Ba] at hy;show _∧_<(sS9 j (sS9 j m1)).nx+1+1
   have e:(Bj (sS9 j (sS9 j m1))).nx=(sS9 j (sS9 j m1)).nx+1:=rfl
   rcases hy with rfl|rfl<;>omega
  ·show(sS9 j (sS9 j m1)).nx≠(sS9 j (sS9 j m1)).nx+1;omega
 ·exact(h1.word.const hj).mono (by omega)
theorem RI.setT{t:D.Term}(h:RI n b c to m)(hb:b<n)(ht:gT m.nx t)(hto:t.To=ix to b):RI n (b+1) c to (setT (b:Int) t m) where
 len:=by show(m.bs.set _ _).length=n;rw[List.length_set];exact h.len
 par:=h.par
 nx:=h.nx
 cnt:=by
  have h1:=Rq (l:=m.bs) (j:=(b:Int).toNat) (d:=0) (b:={ (ix m.bs (b:Int).toNat) with Term:=t }) (by dsimp only;omega)
  have h2:=h.cnt
  show cI (m.bs.set _ _)≤_;omega
 lv:=h.lv
 blk:=fun q hq=>by
  show gB m.nx (ix (m.bs.set _ _) q)
  rw[Ch (by rw[h.len];omega)];split
  ·have h1:=h.blk b hb
   exact⟨h1.1,h1.2.1,.inr ht,h1.2.2.2⟩
  ·exact h.blk q hq
 tos:=fun q hq=>by
  show(ix (m.bs.set _ _) q).Term.To=_
  rw[Ch (by rw[h.len];omega)];split
  ·rename_i e;rw[e];exact hto
  ·exact h.tos q hq
 kd:=fun q hb' hq=>by
  show(ix (m.bs.set _ _) q).Term.Kind≠0
  rw[Ch (by rw[h.len];omega)];split
  ·have:=ht.1;show t.Kind≠0;omega
  ·rename_i e;exact h.kd q (by simp at e;omega) hq
theorem RI.en(h:RI n b c to m)(hb:b<n)(hL:(ix to b).length≤65):RI n (b+1) (c+8) to (Cq (b:Int) (ix to b) m):=by
 have hj:0≤(b:Int)∧(b:Int)<n:=by omega
 have hn:=h.nn
 unfold Cq
 split
 ·rename_i h0
  have e0:ix to b=[]:=List.eq_nil_of_length_eq_zero h0
  split
  ·exact(h.take.take.setT hb ⟨(by dsimp only;omega),fun a ha=>(by cases ha),fun h=>(by simp at h),fun h=>(by simp at h),fun h=>(by simp at h),fun _=>rfl⟩ e0.symm).mono (by omega)
  split
  ·have h1:=h.take.some hj
   exact(h1.1.setT hb ⟨(by dsimp only;omega),fun a ha=>(by simp at ha;subst ha;omega),fun h=>(by simp at h),fun h=>(by simp at h),fun h=>(by simp at h),fun _=>rfl⟩ e0.symm).mono (by omega)
  ·exact(h.take.setT hb ⟨(by dsimp only;omega),fun a ha=>(by cases ha),fun h=>(by simp at h),fun h=>(by simp at h),fun h=>(by simp at h),fun _=>rfl⟩ e0.symm).mono (by omega)
 split
 ·rename_i h1
  exact(h.setT hb ⟨(by dsimp only;omega),fun a ha=>(by cases ha),fun _=>h1,fun h=>(by simp at h),fun h=>(by simp at h),fun h=>(by dsimp only at h;omega)⟩ rfl).mono (by omega)
 split
 ·rename_i h2
  have h3:=h.some hj
  dsimp only
  split
  ·have h4:=h3.1.take.some hj
   have e4:(tSS (sS9 (b:Int) m)).nx=(sS9 (b:Int) m).nx:=rfl
   have ht:=tV9 (n:=3) (by omega) (Bj (sS9 (b:Int) (tSS (sS9 (b:Int) m))))
   have h5:RI n b (c+6) to (Cc (b:Int) ⟨ix [11,12,13] (tVV 3 (Bj (sS9 (b:Int) (tSS (sS9 (b:Int) m))))).toNat,(sS9 (b:Int) (tSS (sS9 (b:Int) m))).nx,0,[sV9 m,sV9 (tSS (sS9 (b:Int) m))],0⟩ (tSS (Bj (sS9 (b:Int) (tSS (sS9 (b:Int) m)))))) :=
    h4.1.fresh.take.add hj (Mf (KR ht) (by show _∧_<(sS9 (b:Int) (tSS (sS9 (b:Int) m))).nx+1;omega) (by show _∧_<(sS9 (b:Int) (tSS (sS9 (b:Int) m))).nx+1;omega) (by show _∧_<(sS9 (b:Int) (tSS (sS9 (b:Int) m))).nx+1;omega))
   refine(h5.setT hb ⟨(by dsimp only;omega),fun a ha=>?_,fun h=>(by simp at h),fun _=>⟨h2,Nat.le_refl _⟩,fun h=>(by simp at h),fun h=>(by dsimp only at h;omega)⟩ rfl).mono (by omega)
   simp at ha;subst ha
   show 0≤_∧_<(sS9 (b:Int) (tSS (sS9 (b:Int) m))).nx+1;omega
  ·refine(h3.1.take.setT hb ⟨(by dsimp only;omega),fun a ha=>?_,fun h=>(by simp at h),fun _=>⟨h2,Nat.le_refl _⟩,fun h=>(by simp at h),fun h=>(by dsimp only at h;omega)⟩ rfl).mono (by omega)
   simp at ha;subst ha
   show 0≤_∧_<(sS9 (b:Int) m).nx;omega
 ·rename_i h0 h1 h2
  have h3:=h.some hj
  dsimp only
  have h4:RI n b (c+4) to (Bq (b:Int) 7 (sS9 (b:Int) m)):=h3.1.const hj
  have e4:(Bq (b:Int) 7 (sS9 (b:Int) m)).nx=(sS9 (b:Int) m).nx+1:=rfl
  generalize Bq (b:Int) 7 (sS9 (b:Int) m)=m4 at h4 e4 ⊢
  have h5:RI n b (c+6) to (Cc (b:Int) ⟨5,m4.nx,0,[sV9 m,(sS9 (b:Int) m).nx],0⟩ (Bj m4)):=h4.fresh.add hj (Mf (by omega) (by show _∧_<m4.nx+1;omega) (by show _∧_<m4.nx+1;omega) (by show _∧_<m4.nx+1;omega))
  refine(h5.setT hb ⟨(by dsimp only;omega),fun a ha=>?_,fun h=>(by simp at h),fun h=>(by simp at h),fun _=>⟨(by dsimp only;omega),hL,Nat.le_refl _⟩,fun h=>(by dsimp only at h;omega)⟩ rfl).mono (by omega)
  simp at ha;subst ha
  show 0≤m4.nx∧m4.nx<m4.nx+1;omega
end
section
variable{n b c d:Nat}{to:List (List Int)}{m:Mk}
theorem RI.is(hb:b<n):∀(k:Nat) {c:Nat} {m:Mk},RI n b c to m→RI n b (c+16*k) to (Ji b k m)
 | 0,_,_,h=>h
 | k+1,_,_,h=>(RI.is hb k (h.ins (by omega))).mono (by omega)
theorem Tz{k:Nat}{x:Int}(h:x∈Ij k):0≤x∧x<k:=by
 unfold Ij at h
 obtain⟨i,h1,rfl⟩:=List.mem_map.1 h
 have:=List.mem_range.1 h1;omega
theorem RI.lm{dn:List Bool}(h:RI n b c to m):RI n b c to (lvM n b dn m) where
 len:=h.len
 par:=h.par
 nx:=h.nx
 cnt:=h.cnt
 lv:=fun x hx=>by
  show 0≤x∧x<m.nx
  rcases List.mem_append.1 (show x∈Ij m.par.toNat++(List.range n).flatMap (fun i=>lvB (fnM m) dn b i) from hx) with h1|h1
  ·have:=Tz h1;have:=h.nx;have:=h.par;omega
  ·obtain⟨a,h2,h3⟩:=List.mem_flatMap.1 h1
   have ha:=List.mem_range.1 h2
   have hg:=h.blk a ha
   unfold lvB at h3
   split at h3
   ·cases h3
   ·rcases List.mem_append.1 h3 with h4|h4
    ·obtain⟨p,h5,rfl⟩:=List.mem_map.1 h4
     exact(hg.2.1 p h5).1
    ·obtain⟨i,h5,h6⟩:=List.mem_flatMap.1 h4
     exact(hg.1 i h5).2.2.2.2.1 x h6
 blk:=h.blk
 tos:=h.tos
 kd:=h.kd
theorem RI.bl{dn:List Bool}(h:RI n b c to m)(hb:b<n)(hL:∀j,(ix to j).length≤65):RI n (b+1) (c+120) to (Iq n to b dn m):=by
 unfold Iq
 have h7:=tV9 (n:=7) (by omega) (lvM n b dn m)
 exact(((h.lm (dn:=dn)).take.is hb _).en hb (hL b)).mono (by omega)
theorem RI.parent(h:RI n b c to m)(hP:PB n to):DI (fnM m).Blocks.length (fun j=>(ix (fnM m).Blocks j).Term.To):=fun q h1 h2=>by
 have h2':q<n:=by have:=h.len;have e:(fnM m).Blocks=m.bs:=rfl;rw[e] at h2;omega
 obtain⟨p,h3,h4⟩:=hP q h1 (by omega)
 refine⟨p,h3,?_⟩
 show(q:Int)∈(ix m.bs p).Term.To
 rw[h.tos p (by omega)];exact h4
theorem RI.ready{dn:List Bool}(h:RI n b c to m)(hP:PB n to)(hb:b<n)(hd:∀j,j<n→ix dn j=decide (j<b)):Jv (fnM m) dn b n=true:=by
 unfold Jv
 rw[hd b hb,Bool.and_eq_true]
 refine⟨by simp,List.all_eq_true.2 fun a ha=>?_⟩
 have ha':=List.mem_range.1 ha
 unfold okA
 rcases Nat.lt_trichotomy a b with h1|h1|h1
 ·rw[hd a ha'];simp[h1]
 ·simp[h1]
 ·rw[HY (h.parent hP) b h1 (by show b<m.bs.length;rw[h.len];exact hb)];simp
theorem RI.row(hP:PB n to)(hL:∀j,(ix to j).length≤65):∀(k b c:Nat) (dn:List Bool) (m:Mk),b+k=n→dn.length=n→(∀j,j<n→ix dn j=decide (j<b))→RI n b c to m →
  RI n n (c+120*k) to (Ff n to k b dn m).2∧∀j,j<n→ix (Ff n to k b dn m).1 j=true
 | 0,b,c,dn,m,hb,hl,hd,h=>by
  have e:b=n:=by omega
  subst e
  exact⟨h,fun j hj=>by show ix dn j=true;rw[hd j hj];simpa using hj⟩
 | k+1,b,c,dn,m,hb,hl,hd,h=>by
  rw[Ff,if_pos (h.ready hP (by omega) hd)]
  obtain⟨x,y⟩:=RI.row hP hL k (b+1) (c+120) (dn.set b true) (Iq n to b (dn.set b true) m) (by omega) (by rw[List.length_set];exact hl) (fun j hj=>by
   rw[Ch (by omega)];split
   ·rename_i e;subst e;simp
   ·rename_i e;rw[hd j hj,decide_eq_decide];omega) (h.bl (by omega) hL)
  exact⟨x.mono (by omega),y⟩
theorem K7:∀(k b:Nat) (dn:List Bool) (m:Mk),b+k=n→(∀j,j<n→ix dn j=true)→Ff n to k b dn m=(dn,m)
 | 0,_,_,_,_,_=>rfl
 | k+1,b,dn,m,hb,h=>by
  rw[Ff,if_neg (by unfold Jv;rw[h b (by omega)];simp)]
  exact K7 k (b+1) dn m (by omega) h
theorem Wb:∀(k:Nat) (dn:List Bool) (m:Mk),(∀j,j<n→ix dn j=true)→Gt n to k dn m=(dn,m)
 | 0,_,_,_=>rfl
 | k+1,dn,m,h=>by rw[Gt,K7 n 0 dn m (by omega) h];exact Wb k dn m h
theorem RI.turn(hP:PB n to)(hL:∀j,(ix to j).length≤65)(hn:0<n)(h:RI n 0 c to m):RI n n (c+120*n) to (Gt n to n (List.replicate n false) m).2:=by
 obtain⟨k,rfl⟩:∃k,n=k+1:=⟨n-1,by omega⟩
 rw[Gt]
 obtain⟨x,y⟩:=RI.row hP hL (k+1) 0 c (List.replicate (k+1) false) m (by omega) (by simp) (fun j hj=>by rw[Jh];simp) h
 rw[Wb k _ _ y]
 exact x
theorem RI.ap{j:Nat}(h:RI n b c to m)(hj:j<n):RI n b (c+1) to (Lt j m) where
 len:=by show(m.bs.set _ _).length=n;rw[List.length_set];exact h.len
 par:=h.par
 nx:=by have:=h.nx;show m.par≤m.nx+1∧m.nx+1≤_;omega
 cnt:=by
  have h1:cI (Lt j m).bs≤cI m.bs+0:=Rq (l:=m.bs) (j:=j) (d:=0) (by exact Nat.le_refl _)
  have h2:=h.cnt
  omega
 lv:=fun x hx=>by have:=h.lv x hx;show 0≤x∧x<m.nx+1;omega
 blk:=fun q hq=>by
  have hn:=h.nn
  show gB (m.nx+1) (ix (m.bs.set _ _) q)
  rw[Ch (by rw[h.len];omega)];split
  ·have h0:=h.blk j hj
   have h1:=h0.mono (show m.nx≤m.nx+1 by omega)
   refine⟨h1.1,fun p hp=>?_,h1.2.2.1,?_⟩
   ·rcases List.mem_append.1 (show p∈(ix m.bs j).Phis++[⟨m.nx,[]⟩] from hp) with h2|h2
    ·exact h1.2.1 p h2
    ·simp at h2;subst h2;exact⟨by dsimp only;omega,fun x hx=>by cases hx⟩
   ·show(((ix m.bs j).Phis++[(⟨m.nx,[]⟩:D.Phi)]).map (fun p=>p.Dst)).Nodup
    rw[List.map_append,List.nodup_append]
    refine⟨h0.2.2.2,by simp,fun a ha x hx=>?_⟩
    simp at hx;subst hx
    obtain⟨p,h3,rfl⟩:=List.mem_map.1 ha
    have:=(h0.2.1 p h3).1;omega
  ·exact(h.blk q hq).mono (by omega)
 tos:=fun q hq=>by
  show(ix (m.bs.set _ _) q).Term.To=_
  rw[Ch (by rw[h.len];omega)];split
  ·rename_i e;subst e;exact h.tos _ hq
  ·exact h.tos q hq
 kd:=fun q hb hq=>by
  show(ix (m.bs.set _ _) q).Term.Kind≠0
  rw[Ch (by rw[h.len];omega)];split
  ·rename_i e;subst e;exact h.kd _ hb hq
  ·exact h.kd q hb hq
theorem RI.pn{j:Nat}(hj:j<n):∀(k:Nat) {c:Nat} {m:Mk},RI n b c to m→RI n b (c+k) to (Hb j k m)
 | 0,_,_,h=>h
 | k+1,_,_,h=>(RI.pn hj k (h.ap hj)).mono (by omega)
theorem RI.ps:∀(k j c:Nat) (ph:List Int) (m:Mk),j+k=n→ph.length=n→(∀j,0≤ix ph j∧ix ph j≤3)→Mr j ph m→RI n b c to m →
  RI n b (c+3*k) to (Fz k j ph m).2∧Mr n (Fz k j ph m).1 (Fz k j ph m).2∧∀i,0≤ix (Fz k j ph m).1 i∧ix (Fz k j ph m).1 i≤3
 | 0,j,c,ph,m,hj,hl,hr,ho,h=>by
  have e:j=n:=by omega
  subst e;exact⟨h,ho,hr⟩
 | k+1,j,c,ph,m,hj,hl,hr,ho,h=>by
  have hr':=Q1 (b:=j) (m:=m) hr
  have h1:RI n b (c+3) to (Hb j (ix (Fg j ph m) j).toNat (tSS m)):=(h.take.pn (j:=j) (by omega) _).mono (by have:=hr' j;omega)
  have h2:=P6 ho (by rw[h.len];omega) (by omega) (rfl:Fg j ph m=Fg j ph m)
  obtain⟨a,d,e⟩:=RI.ps k (j+1) (c+3) (Fg j ph m) _ (by omega) (by rw[Q2];exact hl) hr' h2 h1
  rw[Fz]
  exact⟨a.mono (by omega),d,e⟩
theorem O2(to:List (List Int)):∀(k b:Nat) (m:Mk),pl (toS to k b m)=pl m
 | 0,_,_=>rfl
 | k+1,b,m=>(O2 to k (b+1) _).trans O5
theorem Qq(to:List (List Int)):∀(k b:Nat) (m:Mk),(toS to k b m).bs.length=m.bs.length∧(toS to k b m).nx=m.nx∧(toS to k b m).par=m.par∧(toS to k b m).lv=m.lv ∧
  ∀j,j<m.bs.length→ix (toS to k b m).bs j=if b≤j∧j<b+k then { (ix m.bs j) with Term:={ (ix m.bs j).Term with To:=ix to j } } else ix m.bs j
 | 0,b,m=>⟨rfl,rfl,rfl,rfl,fun j hj=>by rw[if_neg (by omega)];rfl⟩
 | k+1,b,m=>by
  obtain⟨a1,a2,a3,a4,a5⟩:=Qq to k (b+1) (Qs b (ix to b) m)
  have e:(Qs b (ix to b) m).bs.length=m.bs.length:=by show(m.bs.set _ _).length=_;simp
  rw[toS]
  refine⟨a1.trans e,a2,a3,a4,fun j hj=>?_⟩
  rw[a5 j (by rw[e];exact hj)]
  have e2:∀j,ix (Qs b (ix to b) m).bs j=if j=b then (if b<m.bs.length then { (ix m.bs b) with Term:={ (ix m.bs b).Term with To:=ix to b } } else ix m.bs b) else ix m.bs j:=by
   intro j
   show ix (m.bs.set _ _) j=_
   by_cases hb:b<m.bs.length
   ·rw[Ch hb,if_pos hb]
   ·rw[List.set_eq_of_length_le (by omega),if_neg hb];split;(· rename_i e9;rw[e9]);rfl
  rw[e2 j]
  by_cases h1:j=b
  ·subst h1
   rw[if_neg (by omega),if_pos rfl,if_pos hj,if_pos (by omega)]
  ·rw[if_neg h1]
   by_cases h2:b≤j∧j<b+(k+1)
   ·rw[if_pos (by omega),if_pos h2]
   ·rw[if_neg (by omega),if_neg h2]
theorem Un(n j:Nat):ix (List.replicate n (default:D.Block)) j=default:=by by_cases hj:j<n<;>simp[ix,hj]
theorem BU:∀(l:List D.Block),(∀j,j<l.length→(ix l j).Ins=[])→cI l=0
 | [],_=>rfl
 | x::l,h=>by
  have h0:=h 0 (by simp)
  rw[Fq] at h0
  rw[cI,h0,BU l (fun j hj=>by have:=h (j+1) (by simpa using hj);rwa[Fi] at this)];rfl
theorem Uc(s:List Int):RI (mdN s).toNat 0 4 (mdT s).1 (mdB s)∧TR (mdN s).toNat 30 (mdT s).1∧PB (mdN s).toNat (mdT s).1∧(1≤(mdN s).toNat∧(mdN s).toNat≤9)∧Mr 1 (List.replicate (mdN s).toNat 0) (mdB s):=by
 have h9:=tV9 (n:=9) (by omega) (md0 s)
 have hN:1≤mdN s∧mdN s≤9:=by unfold mdN;omega
 have h5:=tV9 (n:=5) (by omega) ⟨s,0,0,[],0,[]⟩
 obtain⟨t1,t2⟩:=FP (n:=(mdN s).toNat) (by omega) (tSS (md0 s))
 rw[show(((mdN s).toNat:Nat):Int)=mdN s by omega] at t1 t2
 have hsame:(mdT s).2.nx=tVV 5 ⟨s,0,0,[],0,[]⟩∧(mdT s).2.par=tVV 5 ⟨s,0,0,[],0,[]⟩∧(mdT s).2.lv=[]:=by
  obtain⟨q,hk⟩:=Sn (mdN s) (tSS (md0 s))
  have e:(mdT s).2={ (tSS (md0 s)) with k:=q }:=hk
  rw[e];exact⟨rfl,rfl,rfl⟩
 obtain⟨a1,a2,a3,a4,a5⟩:=Qq (mdT s).1 (mdN s).toNat 0 { (mdT s).2 with bs:=List.replicate (mdN s).toNat default }
 have hlen:(List.replicate (mdN s).toNat (default:D.Block)).length=(mdN s).toNat:=by simp
 have hb:∀j,j<(mdN s).toNat→ix (mdB s).bs j={ (default:D.Block) with Term:={ (default:D.Block).Term with To:=ix (mdT s).1 j } }:=fun j hj=>by
  have:=a5 j (by show j<(List.replicate _ _).length;rw[hlen];exact hj)
  rw[if_pos (by omega)] at this
  dsimp only at this
  rw[Un] at this
  exact this
 have hpar:(mdB s).par=tVV 5 ⟨s,0,0,[],0,[]⟩:=a3.trans hsame.2.1
 have hnx:(mdB s).nx=tVV 5 ⟨s,0,0,[],0,[]⟩:=a2.trans hsame.1
 refine⟨⟨a1.trans hlen,by rw[hpar];omega,by rw[hpar,hnx];omega,?_,fun x hx=>?_,fun j hj=>?_,fun j hj=>by rw[hb j hj],fun j hj=>by omega⟩,t1,by rw[show(((mdN s).toNat:Nat):Int)=mdN s by omega];exact t2,by omega,?_⟩
 ·rw[BU _ (fun j hj=>by rw[hb j (by rw[←hlen,←a1];exact hj)];rfl)];omega
 ·have e:(mdB s).lv=[]:=a4.trans hsame.2.2
  rw[e] at hx;cases hx
 ·rw[hb j hj];exact⟨fun i hi=>(by cases hi),fun p hp=>(by cases hp),.inl rfl,by show([]:List Int).Nodup;simp⟩
 ·refine P7 (m':={ (mdT s).2 with bs:=List.replicate (mdN s).toNat default }) ?_ rfl
  exact O2 _ _ _ _
end
def pT(to:List (List Int)):Nat→Int→List Int
 | 0,_=>[]
 | k+1,b=>pT to k b++(if (ix to k).any (fun y=>decide (y=b)) then [(k:Int)] else [])
theorem Xf{bs:List D.Block}{to:List (List Int)}:∀(k:Nat) (b:Int),(∀j,j<k→(ix bs j).Term.To=ix to j)→Hr bs k b=pT to k b
 | 0,_,_=>rfl
 | k+1,b,h=>by rw[Hr,pT,Xf k b (fun j hj=>h j (by omega)),h k (by omega)]
theorem Tt{to:List (List Int)}:∀(k:Nat) (b:Int),∀x∈pT to k b,0≤x∧x<k
 | 0,_,x,h=>by cases h
 | k+1,b,x,h=>by
  rw[pT] at h
  rcases List.mem_append.1 h with h1|h1
  ·have:=Tt k b x h1;omega
  ·split at h1
   ·simp at h1;omega
   ·cases h1
theorem Tu{to:List (List Int)}:∀(k:Nat) (b:Int),(pT to k b).length≤k
 | 0,_=>Nat.le_refl _
 | k+1,b=>by rw[pT,List.length_append];have:=Tu (to:=to) k b;split<;>simp<;>omega
def fr(m:Mk)(j:Nat):List (List Int):=(ix m.bs j).Phis.map (fun p=>p.In.map (fun x=>x.From))
theorem QL{j:Int}{i:D.Ins}{m:Mk}(q:Nat):fr (Cc j i m) q=fr m q:=by
 show(ix (m.bs.set _ _) q).Phis.map _=_
 by_cases hj:j.toNat<m.bs.length
 ·rw[Ch hj];split
  ·rename_i e;rw[e];rfl
  ·rfl
 ·rw[List.set_eq_of_length_le (by omega)];rfl
section
variable{n b c d:Nat}{to:List (List Int)}{m:Mk}
theorem CD{nx:Int}:∀(l:List D.Block) (k:Nat),(∀x∈l,gB nx x)→∀t∈blL k l,∀x∈t.Makes,0≤x∧x<nx
 | [],_,_,t,ht,_,_=>by cases ht
 | y::l,k,h,t,ht,x,hx=>by
  have hy:=h y (by simp)
  rw[blL] at ht
  rcases List.mem_append.1 ht with h1|h1
  ·have:∀(ps:List D.Phi) (i:Nat),(∀p∈ps,gP nx p)→t∈phL k i ps→0≤x∧x<nx:=by
    intro ps
    induction ps with
    | nil=>intro i _ h;cases h
    | cons p ps ih =>
     intro i hp h
     rw[phL] at h
     rcases List.mem_cons.1 h with rfl|h
     ·simp[phT] at hx;subst hx;exact(hp p (by simp)).1
     ·exact ih _ (fun q hq=>hp q (by simp[hq])) h
   exact this _ _ hy.2.1 h1
  ·rcases List.mem_append.1 h1 with h1|h1
   ·have:∀(ps:List D.Ins) (i:Nat),(∀p∈ps,gI nx p)→t∈inL k i ps→0≤x∧x<nx:=by
     intro ps
     induction ps with
     | nil=>intro i _ h;cases h
     | cons p ps ih =>
      intro i hp h
      rw[inL] at h
      rcases List.mem_cons.1 h with rfl|h
      ·exact(hp p (by simp)).2.2.2.2.1 x hx
      ·exact ih _ (fun q hq=>hp q (by simp[hq])) h
    exact this _ _ hy.1 h1
   ·rcases List.mem_cons.1 h1 with rfl|h1
    ·cases hx
    ·exact CD l (k+1) (fun z hz=>h z (by simp[hz])) t h1 x hx
theorem RI.all(h:RI n b c to m):∀x∈m.bs,gB m.nx x:=fun x hx=>by
 obtain⟨j,hj,e⟩:=List.getElem_of_mem hx
 have:=h.blk j (by rw[←h.len];exact hj)
 rw[Bp hj,e] at this;exact this
theorem RI.stand{p:Int}(h:RI n b c to m):∀x∈Cd (fnM m) p,0≤x∧x<m.nx:=fun x hx=>by
 rcases List.mem_append.1 hx with h1|h1
 ·have:=Tz h1
  have e:(fnM m).Params=m.par:=rfl
  rw[e] at this;have:=h.nx;have:=h.par;omega
 ·obtain⟨t,h2,h3⟩:=List.mem_flatMap.1 h1
  split at h3
  ·exact CD m.bs 0 h.all t h2 x h3
  ·cases h3
theorem RI.ix0{p:Int}(h:RI n b c to m)(hp:0≤p∧p<n):RI n b (c+2) to (inX p m).2∧m.nx≤(inX p m).2.nx∧(inX p m).1.From=p∧(0≤(inX p m).1.Val∧(inX p m).1.Val<(inX p m).2.nx)∧∀q,fr (inX p m).2 q=fr m q:=by
 have hn:=h.nn
 unfold inX
 split
 ·have h1:=tV9 (n:=1) (by omega) (Bq p (Ay m) (Ck m))
  refine⟨(h.word.const hp).take,?_,rfl,?_,fun q=>(QL (m:=Bj (Ck m)) q)⟩
  ·show m.nx≤m.nx+1;omega
  ·dsimp only
   rw[show tVV 1 (Bq p (Ay m) (Ck m))=0 by omega]
   show 0≤m.nx∧m.nx<m.nx+1;omega
 ·rename_i h0
  have h1:=tV9 (n:=(Cd (fnM m) p).length) (by omega) m
  refine⟨h.take.mono (by omega),Int.le_refl _,rfl,?_,fun q=>rfl⟩
  exact h.stand (p:=p) _ (Ax (by omega))
theorem RI.is0{p:List Int}(hp:∀x∈p,0≤x∧x<n):∀(k i:Nat) {c:Nat} (l:List D.In) (m:Mk),i+k=p.length→RI n b c to m→(∀x∈l,0≤x.Val∧x.Val<m.nx)→l.map (fun x=>x.From)=p.take i →
  RI n b (c+2*k) to (inS p k i l m).2∧m.nx≤(inS p k i l m).2.nx∧(∀x∈(inS p k i l m).1,0≤x.Val∧x.Val<(inS p k i l m).2.nx)∧(inS p k i l m).1.map (fun x=>x.From)=p∧∀q,fr (inS p k i l m).2 q=fr m q
 | 0,i,_,l,m,hi,h,hl,hf=>⟨h,Int.le_refl _,hl,by rw[inS,hf,List.take_of_length_le (by omega)],fun q=>rfl⟩
 | k+1,i,c,l,m,hi,h,hl,hf=>by
  obtain⟨a1,a2,a3,a4,a5⟩:=h.ix0 (p:=ix p i) (hp _ (Ax (by omega)))
  obtain⟨b1,b2,b3,b4,b5⟩:=RI.is0 hp k (i+1) (l++[(inX (ix p i) m).1]) (inX (ix p i) m).2 (by omega) a1 (fun x hx=>by
   rcases List.mem_append.1 hx with h1|h1
   ·have:=hl x h1;omega
   ·simp at h1;subst h1;exact a4) (by rw[List.map_append,hf,Ej (by omega)];simp[a3])
  rw[inS]
  exact⟨b1.mono (by omega),by omega,b3,b4,fun q=>(b5 q).trans (a5 q)⟩
theorem Xq{ps:List D.Phi}{i:Nat}{l:List D.In}:(ps.set i { (ix ps i) with In:=l }).map (fun p=>p.Dst)=ps.map (fun p=>p.Dst):=by
 by_cases hi:i<ps.length
 ·rw[List.map_set]
  have:(ps.map (fun p=>p.Dst))[i]'(by simpa using hi)=(ix ps i).Dst:=by rw[Bp hi];simp
  rw[show({ (ix ps i) with In:=l }:D.Phi).Dst=(ps.map (fun p=>p.Dst))[i]'(by simpa using hi) from this.symm]
  exact List.set_getElem_self _
 ·rw[List.set_eq_of_length_le (by omega)]
theorem RI.pi0{j i:Nat}{l:List D.In}(h:RI n b c to m)(hj:j<n)(hl:∀x∈l,0≤x.Val∧x.Val<m.nx):RI n b c to (Mo j i l m) where
 len:=by show(m.bs.set _ _).length=n;rw[List.length_set];exact h.len
 par:=h.par
 nx:=h.nx
 cnt:=by
  have h1:cI (Mo j i l m).bs≤cI m.bs+0:=Rq (l:=m.bs) (j:=j) (d:=0) (by exact Nat.le_refl _)
  have h2:=h.cnt
  omega
 lv:=h.lv
 blk:=fun q hq=>by
  show gB m.nx (ix (m.bs.set _ _) q)
  rw[Ch (by rw[h.len];omega)];split
  ·have h0:=h.blk j hj
   refine⟨h0.1,fun p hp=>?_,h0.2.2.1,?_⟩
   ·rcases List.mem_or_eq_of_mem_set hp with h2|h2
    ·exact h0.2.1 p h2
    ·by_cases hi:i<(ix m.bs j).Phis.length
     ·subst h2;exact⟨(h0.2.1 _ (Ax hi)).1,hl⟩
     ·rw[List.set_eq_of_length_le (by omega)] at hp;exact h0.2.1 p hp
   ·show(((ix m.bs j).Phis.set i _).map (fun p=>p.Dst)).Nodup
    rw[Xq];exact h0.2.2.2
  ·exact h.blk q hq
 tos:=fun q hq=>by
  show(ix (m.bs.set _ _) q).Term.To=_
  rw[Ch (by rw[h.len];omega)];split
  ·rename_i e;subst e;exact h.tos _ hq
  ·exact h.tos q hq
 kd:=fun q hb hq=>by
  show(ix (m.bs.set _ _) q).Term.Kind≠0
  rw[Ch (by rw[h.len];omega)];split
  ·rename_i e;subst e;exact h.kd _ hb hq
  ·exact h.kd q hb hq
theorem QK{j i:Nat}{l:List D.In}(hj:j<m.bs.length)(q:Nat):fr (Mo j i l m) q=if q=j then (fr m j).set i (l.map (fun x=>x.From)) else fr m q:=by
 show(ix (m.bs.set _ _) q).Phis.map _=_
 rw[Ch hj];split
 ·show((ix m.bs j).Phis.set i _).map _=_
  rw[List.map_set];rfl
 ·rfl
theorem RI.ip0{p:List Int}{j:Nat}(hp:∀x∈p,0≤x∧x<n)(h9:p.length≤9)(hj:j<n):∀(k i:Nat) {c:Nat} (m:Mk),RI n b c to m →
  RI n b (c+18*k) to (inP p j k i m)∧(∀q,q≠j→fr (inP p j k i m) q=fr m q)∧(fr (inP p j k i m) j).length=(fr m j).length ∧
  ∀i',i'<(fr m j).length→ix (fr (inP p j k i m) j) i'=if i≤i'∧i'<i+k then p else ix (fr m j) i'
 | 0,i,_,m,h=>⟨h,fun _ _=>rfl,rfl,fun i' _=>by rw[if_neg (by omega)];rfl⟩
 | k+1,i,c,m,h=>by
  obtain⟨a1,a2,a3,a4,a5⟩:=RI.is0 hp p.length 0 [] m (by omega) h (fun x hx=>by cases hx) rfl
  have h2:=a1.pi0 (i:=i) hj a3
  obtain⟨b1,b2,b3,b4⟩:=RI.ip0 hp h9 hj k (i+1) _ h2
  have e:=QK (m:=(inS p p.length 0 [] m).2) (i:=i) (l:=(inS p p.length 0 [] m).1) (by rw[a1.len];exact hj)
  rw[inP]
  have ej:=e j
  rw[if_pos rfl,a5 j,a4] at ej
  refine⟨b1.mono (by omega),fun q hq=>by rw[b2 q hq,e q,if_neg hq];exact a5 q,by rw[b3,ej,List.length_set],fun i' hi'=>?_⟩
  rw[b4 i' (by rw[ej,List.length_set];exact hi'),ej]
  by_cases h1:i+1≤i'∧i'<i+1+k
  ·rw[if_pos h1,if_pos (by omega)]
  ·rw[if_neg h1]
   by_cases h3:i'=i
   ·subst h3;rw[Ch hi',if_pos rfl,if_pos (by omega)]
   ·by_cases h4:i<(fr m j).length
    ·rw[Ch h4,if_neg h3,if_neg (by omega)]
    ·rw[List.set_eq_of_length_le (by omega),if_neg (by omega)]
theorem RI.fi0{ph:List Int}(hn9:n≤9)(hr:∀i,0≤ix ph i∧ix ph i≤3):∀(k j:Nat) {c:Nat} (m:Mk),j+k=n→RI n b c to m→(∀q,q<n→(fr m q).length=(ix ph q).toNat)→(∀q,q<j→∀x∈fr m q,x=pT to n q) →
  RI n b (c+54*k) to (He ph k j m)∧∀q,q<n→∀x∈fr (He ph k j m) q,x=pT to n q
 | 0,j,_,m,hj,h,hl,hd=>⟨h,fun q hq x hx=>hd q (by omega) x hx⟩
 | k+1,j,c,m,hj,h,hl,hd=>by
  have hpe:pd3 (fnM m) (j:Int)=pT to n (j:Int):=by
   show Hr m.bs m.bs.length _=_
   rw[h.len];exact Xf n _ (fun q hq=>h.tos q hq)
  obtain⟨b1,b2,b3,b4⟩:=RI.ip0 (p:=pT to n (j:Int)) (j:=j) (fun x hx=>Tt n _ x hx) (Nat.le_trans (Tu n _) hn9) (by omega) (ix ph j).toNat 0 m h
  rw[He,hpe]
  obtain⟨d1,d2⟩:=RI.fi0 hn9 hr k (j+1) (c:=c+54) (inP (pT to n (j:Int)) j (ix ph j).toNat 0 m) (by omega) (b1.mono (by have:=hr j;omega)) (fun q hq=>by
   by_cases e:q=j
   ·subst e;rw[b3];exact hl q hq
   ·rw[b2 q e];exact hl q hq) (fun q hq x hx=>by
   by_cases e:q=j
   ·subst e
    obtain⟨i,hi,e2⟩:=List.getElem_of_mem hx
    rw[b3] at hi
    have:=b4 i hi
    have hlq:=hl q (by omega)
    rw[if_pos (by omega),Bp (by rw[b3];exact hi),e2] at this
    exact this
   ·rw[b2 q e] at hx;exact hd q (by omega) x hx)
  exact⟨d1.mono (by omega),d2⟩
end
theorem Xl{n:Nat}{to:List (List Int)}:∀(k b:Nat) (dn:List Bool) (m:Mk),pl (Ff n to k b dn m).2=pl m
 | 0,_,_,_=>rfl
 | k+1,b,dn,m=>by
  rw[Ff];split
  ·refine(Xl k _ _ _).trans ?_
   unfold Iq
   exact P4.trans (O9 _ _)
  ·exact Xl k _ _ _
theorem O1{n:Nat}{to:List (List Int)}:∀(k:Nat) (dn:List Bool) (m:Mk),pl (Gt n to k dn m).2=pl m
 | 0,_,_=>rfl
 | k+1,dn,m=>by rw[Gt];exact(O1 k _ _).trans (Xl _ _ _ _)
theorem JU{p:Int}{m:Mk}:pl (inX p m).2=pl m:=by unfold inX;split;exact Je (m:=Ck m);rfl
theorem P1{p:List Int}:∀(k i:Nat) (l:List D.In) (m:Mk),pl (inS p k i l m).2=pl m
 | 0,_,_,_=>rfl
 | k+1,i,l,m=>by rw[inS];exact(P1 k _ _ _).trans JU
theorem P2{p:List Int}{j:Nat}:∀(k i:Nat) (m:Mk),pl (inP p j k i m)=pl m
 | 0,_,_=>rfl
 | k+1,i,m=>by rw[inP];exact(P2 k _ _).trans (O6.trans (P1 _ _ _ _))
theorem P3{ph:List Int}:∀(k j:Nat) (m:Mk),pl (He ph k j m)=pl m
 | 0,_,_=>rfl
 | k+1,j,m=>by rw[He];exact(P3 k _ _).trans (P2 _ _ _)
theorem OQ{n j:Nat}:ix (List.replicate n (0:Int)) j=0:=by by_cases hj:j<n<;>simp[ix,hj]
theorem JY{b j:Nat}{ph:List Int}{m:Mk}(h:j≠b):ix (Fg b ph m) j=ix ph j:=by
 have:∀x:Int,ix (ph.set b x) j=ix ph j:=fun x=>by
  by_cases hb:b<ph.length
  ·rw[Ch hb,if_neg h]
  ·rw[List.set_eq_of_length_le (by omega)]
 unfold Fg;(repeat' split)<;>first|rfl|exact this _
theorem P9:∀(k j:Nat) (ph:List Int) (m:Mk),1≤j→ix ph 0=0→ix (Fz k j ph m).1 0=0
 | 0,_,_,_,_,h=>h
 | k+1,j,ph,m,hj,h=>by rw[Fz];exact P9 k (j+1) _ _ (by omega) (by rw[JY (by omega)];exact h)
structure Right3(n:Nat)(to:List (List Int))(f:D.Func)(nx:Int):Prop where
 n1:1≤n∧n≤9
 len:f.Blocks.length=n
 par:0≤f.Params∧f.Params≤4
 nxb:f.Params≤nx∧nx≤1560
 cnt:cI f.Blocks≤1560
 blk:∀j,j<n→gB nx (ix f.Blocks j)
 tos:∀j,j<n→(ix f.Blocks j).Term.To=ix to j
 kd:∀j,j<n→(ix f.Blocks j).Term.Kind≠0
 tr:TR n 30 to
 pb:PB n to
 ph0:(ix f.Blocks 0).Phis=[]
 ph3:∀j,j<n→(ix f.Blocks j).Phis.length≤3
 fr:∀j,j<n→∀p∈(ix f.Blocks j).Phis,p.In.map (fun x=>x.From)=pT to n j
theorem LW(s:List Int):∃nx,Right3 (mdN s).toNat (mdT s).1 (Lj s) nx:=by
 obtain⟨h0,t1,t2,hn,hp0⟩:=Uc s
 obtain⟨p1,p2,p3⟩:=RI.ps ((mdN s).toNat-1) 1 4 (List.replicate (mdN s).toNat 0) (mdB s) (by omega) (by simp) (fun j=>Wy j) hp0 h0
 have p3:∀i,0≤ix (mdH s).1 i∧ix (mdH s).1 i≤3:=p3
 have p2:Mr (mdN s).toNat (mdH s).1 (mdH s).2:=p2
 have h1:RI (mdN s).toNat 0 31 (mdT s).1 (mdH s).2:=p1.mono (by omega)
 have h2:RI (mdN s).toNat (mdN s).toNat 1111 (mdT s).1 (mdD s).2:=(h1.turn t2 (fun j=>Nat.le_trans (t1.2.1 j) (by omega)) (by omega)).mono (by omega)
 have hpl:pl (mdD s).2=pl (mdH s).2:=O1 _ _ _
 have hfl:∀q,(fr (mdD s).2 q).length=(ix (mdD s).2.bs q).Phis.length:=fun q=>by unfold fr;rw[List.length_map]
 have hlen:∀q,q<(mdN s).toNat→(fr (mdD s).2 q).length=(ix (mdH s).1 q).toNat:=fun q hq=>by
  rw[hfl,Pc hpl,p2.1 q];exact if_pos hq
 have hz:ix (mdH s).1 0=0:=P9 _ _ _ _ (by omega) (by rw[OQ])
 obtain⟨f1,f2⟩:=RI.fi0 (ph:=(mdH s).1) hn.2 p3 ((mdN s).toNat-1) 1 (mdD s).2 (by omega) h2 hlen (fun q hq x hx=>by
  have:(fr (mdD s).2 q).length=0:=by rw[hlen q (by omega),show q=0 by omega,hz];rfl
  rw[List.eq_nil_of_length_eq_zero this] at hx;cases hx)
 have f1:RI (mdN s).toNat (mdN s).toNat 1543 (mdT s).1 (mdF s):=f1.mono (by omega)
 have hl3:∀q,q<(mdN s).toNat→(ix (mdF s).bs q).Phis.length=(ix (mdH s).1 q).toNat:=fun q hq=>by
  have e9:pl (mdF s)=pl (mdD s).2:=P3 _ _ _
  rw[Pc e9,Pc hpl,p2.1 q];exact if_pos hq
 exact⟨(mdF s).nx,hn,f1.len,f1.par,by have:=f1.nx;exact⟨this.1,by omega⟩,by have:=f1.cnt;exact Nat.le_trans this (by omega),f1.blk,f1.tos,fun j hj=>f1.kd j hj hj,t1,t2,
  List.eq_nil_of_length_eq_zero ((hl3 0 (by omega)).trans (by rw[hz];rfl)),fun j hj=>by have:=hl3 j hj;have:=p3 j;show(ix (mdF s).bs j).Phis.length≤3;omega,fun j hj p hp=>f2 j hj _ (List.mem_map.2 ⟨p,hp,rfl⟩)⟩
section
variable{d e a b c x op:Int}{l:List Int}
end
section
variable{a d:Nat}{m:Mq}{r:Int}
end
inductive An (out:List Int):Nat→Nat→Prop
 | self (v:Nat):An out v v
 | up {x v:Nat}:0≤ix out v→An out x (ix out v).toNat→An out x v
inductive RB (pr:Nat→Nat→Prop) (w:Nat):Nat→Prop
 | zero:w≠0→RB pr w 0
 | step {x t:Nat}:RB pr w x→pr x t→t≠w→RB pr w t
inductive Pt (pr:Nat→Nat→Prop) (num:List Int) (m:Int):Nat→Nat→Prop
 | nil (v:Nat):Pt pr num m v v
 | step {u x t:Nat}:Pt pr num m u x→pr x t→m<ix num t→Pt pr num m u t
structure GN(n:Nat)(num:List Int)(pr:Nat→Nat→Prop):Prop where
 n0:0<n
 rng:∀v,v<n→0≤ix num v∧ix num v<n
 inj:∀u v,u<n→v<n→ix num u=ix num v→u=v
 zero:ix num 0=0
 prn:∀q b,pr q b→q<n∧b<n
 fwd:∀b,b<n→b≠0→∃q,pr q b∧ix num q<ix num b
def pdn(out:List Int)(v:Nat):Prop:=v=0∨0≤ix out v
structure TV(n:Nat)(num out:List Int):Prop where
 len:out.length=n
 root:ix out 0<0
 up:∀v,v<n→0≤ix out v→ix out v<n∧ix num (ix out v).toNat<ix num v∧pdn out (ix out v).toNat
section
variable{n:Nat}{num out:List Int}{pr:Nat→Nat→Prop}
theorem An.trans{x y z:Nat}(h1:An out x y)(h2:An out y z):An out x z:=by
 induction h2 with
 | self=>exact h1
 | up h _ ih=>exact .up h ih
theorem An.lt(hv:TV n num out){x v:Nat}(h:An out x v):v<n→x<n:=by
 induction h with
 | self=>exact id
 | @up v h _ ih=>intro hv';exact ih (by have:=(hv.up v hv' h).1;omega)
theorem An.nu(hv:TV n num out){x v:Nat}(h:An out x v):v<n→ix num x≤ix num v∧(x≠v→ix num x<ix num v):=by
 induction h with
 | self=>exact fun _=>⟨Int.le_refl _,fun h=>absurd rfl h⟩
 | @up v h _ ih =>
  intro hv'
  have h1:=hv.up v hv' h
  have h2:=ih (by omega)
  exact⟨by omega,fun _=>by omega⟩
theorem An.pd(hv:TV n num out){x v:Nat}(h:An out x v):v<n→pdn out v→pdn out x:=by
 induction h with
 | self=>exact fun _ h=>h
 | @up v h _ ih=>intro hv' _;have h1:=hv.up v hv' h;exact ih (by omega) h1.2.2
theorem An.tot{x y v:Nat}(h1:An out x v)(h2:An out y v):An out x y∨An out y x:=by
 induction h1 with
 | self=>exact .inr h2
 | @up v h h3 ih =>
  cases h2 with
  | self=>exact .inl (.up h h3)
  | up _ h4=>exact ih h4
theorem Pt.tr{m:Int}{u v w:Nat}(h1:Pt pr num m u v)(h2:Pt pr num m v w):Pt pr num m u w:=by
 induction h2 with
 | nil=>exact h1
 | step _ h3 h4 ih=>exact .step ih h3 h4
theorem Pt.mono{m m':Int}{u v:Nat}(h:Pt pr num m u v)(hm:m'≤m):Pt pr num m' u v:=by
 induction h with
 | nil=>exact .nil _
 | step _ h3 h4 ih=>exact .step ih h3 (by omega)
theorem Pt.rb{m:Int}{u v w:Nat}(h:Pt pr num m u v)(hr:RB pr w u)(hm:ix num w≤m):RB pr w v:=by
 induction h with
 | nil=>exact hr
 | step _ h3 h4 ih=>exact .step ih h3 (fun e=>by subst e;omega)
end
structure IS(n:Nat)(num:List Int)(pr:Nat→Nat→Prop)(out:List Int)(i:Int):Prop where
 tv:TV n num out
 fp:∀v,v<n→ix num v<i→pdn out v
 dm:∀b a,b<n→pdn out b→(a=b∨¬RB pr a b)→An out a b
 pa:∀b,b<n→0≤ix out b→Pt pr num (ix num (ix out b).toNat) (ix out b).toNat b
 hh:∀b,b<n→0≤ix out b→∀y,(∀p,pr p b→pdn out p→An out y p)→An out y (ix out b).toNat
 kk:∀b,b<n→0≤ix out b→∀q,pr q b→ix num q<ix num b→(ix num b<i∨i≤ix num (ix out b).toNat)→An out (ix out b).toNat q
structure BS(out:List Int)(P:Nat→Prop)(best:Int):Prop where
 no:best<0→∀p,P p→¬pdn out p
 an:0≤best→∀p,P p→pdn out p→An out best.toNat p
 nc:0≤best→∀y,(∀p,P p→pdn out p→An out y p)→An out y best.toNat
 pd:0≤best→pdn out best.toNat
section
variable{n:Nat}{num out:List Int}{pr:Nat→Nat→Prop}{i:Int}
theorem CZ(hs:IS n num pr out i){b c:Nat}(h:An out b c):c<n→Pt pr num (ix num b) b c:=by
 induction h with
 | self=>exact fun _ => .nil _
 | @up v h h2 ih =>
  intro hv
  have h1:=hs.tv.up v hv h
  exact(ih (by omega)).tr ((hs.pa v hv h).mono ((h2.nu hs.tv (by omega)).1))
theorem IS.step(hg:GN n num pr)(hs:IS n num pr out i){b:Nat}{best:Int}(hb:b<n)(hb0:b≠0)(hi:ix num b=i)(hB:BS out (fun p=>pr p b) best) :
  0≤best∧best<n∧IS n num pr (out.set b best) (i+1)∧(0≤ix out b→ix out b≠best→ix num best.toNat<ix num (ix out b).toNat):=by
 have hv:=hs.tv
 obtain⟨q0,hq,hqn⟩:=hg.fwd b hb hb0
 have hq0:q0<n:=(hg.prn _ _ hq).1
 have hqd:=hs.fp q0 hq0 (by omega)
 have h0:0≤best:=by
  rcases Int.lt_or_le best 0 with h|h
  ·exact absurd hqd (hB.no h q0 hq)
  ·exact h
 have hbq:=hB.an h0 q0 hq hqd
 have hbn:=hbq.lt hv hq0
 have hnb:ix num best.toNat<i:=by have:=(hbq.nu hv hq0).1;omega
 have hnc:∀y,(∀p,pr p b→pdn out p→An out y p)→An out y best.toNat:=hB.nc h0
 generalize hx:best.toNat=x at *
 have hbe:best=(x:Int):=by omega
 have hup:0≤ix out b→An out x (ix out b).toNat:=fun h=>by
  exact hs.hh b hb h x (fun p hp hpd=>by rw[←hx];exact hB.an h0 p hp hpd)
 have hbl:b<out.length:=by rw[hv.len];exact hb
 have hset:∀v,ix (out.set b best) v=if v=b then best else ix out v:=fun v=>Ch hbl
 have nx:¬An out b x:=fun h=>by have:=(h.nu hv hbn).1;omega
 have la:∀{y v},An out y v→v<n→(An out b y∨¬An out b v)→An (out.set b best) y v:=by
  intro y v h
  induction h with
  | self=>exact fun _ _ => .self _
  | @up v h h2 ih =>
   intro hv' hc
   have h1:=hv.up v hv' h
   have hvb:v≠b:=by
    rintro rfl
    rcases hc with hc|hc
    ·have e1:=(hc.nu hv (h2.lt hv (by omega))).1
     have e2:=(h2.nu hv (by omega)).1
     omega
    ·exact hc (.self _)
   refine .up (by rw[hset,if_neg hvb];exact h) ?_
   rw[hset,if_neg hvb]
   exact ih (by omega) (hc.imp id (fun h3 h4=>h3 (.up h h4)))
 have lb:∀{y v},An (out.set b best) y v→v<n→(¬An out b v∧An out y v)∨(An out b v∧((An out b y∧An out y v)∨An out y x)):=by
  intro y v h
  induction h with
  | self =>
   intro _
   by_cases h1:An out b y
   ·exact .inr ⟨h1,.inl ⟨h1,.self _⟩⟩
   ·exact .inl ⟨h1,.self _⟩
  | @up v h h2 ih =>
   intro hv'
   rw[hset] at h h2 ih
   by_cases e:v=b
   ·subst e
    rw[if_pos rfl,hx] at ih
    rcases ih hbn with h3|h3
    ·exact .inr ⟨.self _,.inr h3.2⟩
    ·exact absurd h3.1 nx
   ·rw[if_neg e] at h h2 ih
    have h1:=hv.up v hv' h
    rcases ih (by omega) with h3|h3
    ·refine .inl ⟨fun h4=>h3.1 ?_,.up h h3.2⟩
     cases h4 with
     | self=>exact absurd rfl e
     | up _ h5=>exact h5
    ·refine .inr ⟨.up h h3.1,h3.2.imp (fun h4=>⟨h4.1,.up h h4.2⟩) id⟩
 have lc:∀{y},An out y x→An (out.set b best) y b:=fun {y} h=>by
  refine .up (by rw[hset,if_pos rfl];exact h0) ?_
  rw[hset,if_pos rfl,hx]
  exact la h hbn (.inr nx)
 have ld:∀{y v},An out y x→An out b v→v<n→An (out.set b best) y v:=fun {y v} h h2 hv'=>(lc h).trans (la h2 hv' (.inl (.self _)))
 have sub:0≤ix out b→∀{y v},An (out.set b best) y v→v<n→An out y v:=fun h9 {y v} h hv'=>by
  rcases lb h hv' with h1|⟨h1,h2⟩
  ·exact h1.2
  ·rcases h2 with h2|h2
   ·exact h2.2
   ·exact(h2.trans (hup h9)).trans (.trans (.up h9 (.self _)) h1)
 have fresh:¬0≤ix out b→∀v,An out b v→v<n→v=b:=fun h9 v h hv'=>by
  cases h with
  | self=>rfl
  | up h3 h4 =>
   have h5:=hv.up v hv' h3
   exact absurd (h4.pd hv (by omega) h5.2.2) (fun h=>h.elim hb0 h9)
 have pds:∀v,pdn (out.set b best) v↔(v=b∨pdn out v):=fun v=>by
  unfold pdn;rw[hset]
  by_cases e:v=b
  ·rw[if_pos e];exact⟨fun _ => .inl e,fun _ => .inr h0⟩
  ·rw[if_neg e];exact⟨.inr,fun h=>h.resolve_left e⟩
 refine⟨h0,by omega,?_,fun h9 h8=>?_⟩
 ·refine⟨⟨by rw[List.length_set];exact hv.len,by rw[hset,if_neg (fun h=>hb0 h.symm)];exact hv.root,fun v hv' h=>?_⟩,fun v hv' h=>?_,fun c a hc hpc h=>?_,fun v hv' h=>?_,fun v hv' h y hy=>?_,fun v hv' h q hq' hqn' hc=>?_⟩
  ·rw[hset] at h ⊢
   split at h
   ·rename_i e;subst e
    rw[if_pos rfl,hx]
    exact⟨by omega,by omega,(pds _).2 (.inr (by have:=hB.pd h0;rw[hx] at this;exact this))⟩
   ·rename_i e
    rw[if_neg e]
    have:=hv.up v hv' h
    exact⟨this.1,this.2.1,(pds _).2 (.inr this.2.2)⟩
  ·rw[pds]
   by_cases e:v=b
   ·exact .inl e
   ·exact .inr (hs.fp v hv' (by have:=hg.inj v b hv' hb;have:ix num v≠ix num b:=fun h=>e (this h);omega))
  ·
   by_cases hcb:c=b
   ·subst hcb
    by_cases hac:a=c
    ·subst hac;exact .self _
    ·refine lc (hnc a fun p hp hpd=>hs.dm p a (hg.prn _ _ hp).1 hpd (.inr fun h6=>?_))
     exact(h.resolve_left hac) (.step h6 hp (fun e=>hac e.symm))
   ·have hpc':pdn out c:=((pds c).1 hpc).resolve_left hcb
    have hac:=hs.dm c a hc hpc' h
    by_cases h1:An out b c
    ·by_cases h2:An out b a
     ·exact la hac hc (.inl h2)
     ·
      have h3:An out a b:=(hac.tot h1).resolve_right h2
      have hab:a≠b:=fun e=>h2 (by subst e;exact .self _)
      have hn:=(h3.nu hv hb).2 hab
      have hdom:¬RB pr a b:=fun h4=>by
       have h5:=(CZ hs h1 hc).rb h4 (by omega)
       rcases h with h|h
       ·subst h;exact h2 h1
       ·exact h h5
      have h6:An out a x:=hnc a fun p hp hpd=>hs.dm p a (hg.prn _ _ hp).1 hpd (.inr fun h7=>hdom (.step h7 hp (fun e=>hab e.symm)))
      exact ld h6 h1 hc
    ·exact la hac hc (.inr h1)
  ·rw[hset] at h ⊢
   split at h
   ·rename_i e;subst e
    rw[if_pos rfl,hx]
    exact .step (CZ hs hbq hq0) hq (by omega)
   ·rename_i e;rw[if_neg e];exact hs.pa v hv' h
  ·rw[hset] at h ⊢
   split at h
   ·rename_i e;subst e
    rw[if_pos rfl,hx]
    refine la (hnc y fun p hp hpd=>?_) hbn (.inr nx)
    have h1:=hy p hp ((pds p).2 (.inr hpd))
    have hpn:=(hg.prn _ _ hp).1
    by_cases h9:0≤ix out v
    ·exact sub h9 h1 hpn
    ·rcases lb h1 hpn with h2|⟨h2,_⟩
     ·exact h2.2
     ·have e:=fresh h9 p h2 hpn
      subst e
      exact absurd hpd (fun h=>h.elim hb0 h9)
   ·rename_i e
    rw[if_neg e]
    have h1:=hv.up v hv' h
    by_cases hz:An out b (ix out v).toNat
    ·
     have hzn:=(hz.nu hv (by omega)).1
     have h9:0≤ix out b:=by
      rcases Int.lt_or_le (ix out b) 0 with h2|h2
      ·have h3:=fresh (by omega) _ hz (by omega)
       rw[h3] at h1
       exact absurd h1.2.2 (fun h=>h.elim hb0 (fun h=>by omega))
      ·exact h2
     have hyz:An out y (ix out v).toNat:=hs.hh v hv' h y fun p hp hpd=>sub h9 (hy p hp ((pds p).2 (.inr hpd))) (hg.prn _ _ hp).1
     by_cases hby:An out b y
     ·exact la hyz (by omega) (.inl hby)
     ·have hv0:v≠0:=by rintro rfl;have:=hv.root;omega
      obtain⟨q,hq1,hq2⟩:=hg.fwd v hv' hv0
      have hqn1:=(hg.prn _ _ hq1).1
      have hzq:=hs.kk v hv' h q hq1 hq2 (.inr (by omega))
      have hqb:An out b q:=hz.trans hzq
      have hpq:pdn out q:=by
       cases hqb with
       | self=>exact .inr h9
       | up h _=>exact .inr h
      rcases lb (hy q hq1 ((pds q).2 (.inr hpq))) hqn1 with h2|⟨_,h2⟩
      ·exact absurd hqb h2.1
      ·rcases h2 with h2|h2
       ·exact absurd h2.1 hby
       ·exact ld h2 hz (by omega)
    ·refine la (hs.hh v hv' h y fun p hp hpd=>?_) (by omega) (.inr hz)
     have h2:=hy p hp ((pds p).2 (.inr hpd))
     have hpn:=(hg.prn _ _ hp).1
     by_cases h9:0≤ix out b
     ·exact sub h9 h2 hpn
     ·rcases lb h2 hpn with h3|⟨h3,_⟩
      ·exact h3.2
      ·have e:=fresh h9 p h3 hpn
       subst e
       exact absurd hpd (fun h=>h.elim hb0 h9)
  ·have hqn1:=(hg.prn _ _ hq').1
   rw[hset] at h hc ⊢
   by_cases e:v=b
   ·subst e
    rw[if_pos rfl,hx]
    have hqd':=hs.fp q hqn1 (by omega)
    have h2:=hB.an h0 q hq' hqd'
    rw[hx] at h2
    exact la h2 hqn1 (.inr fun h3=>by have:=(h3.nu hv hqn1).1;omega)
   ·rw[if_neg e] at h hc ⊢
    have h1:=hv.up v hv' h
    have hne:ix num v≠ix num b:=fun h=>e (hg.inj v b hv' hb h)
    rcases hc with hc|hc
    ·have h2:=hs.kk v hv' h q hq' hqn' (.inl (by omega))
     exact la h2 hqn1 (.inr fun h3=>by have:=(h3.nu hv hqn1).1;omega)
    ·have h2:=hs.kk v hv' h q hq' hqn' (.inr (by omega))
     by_cases h3:An out b q
     ·have h4:=(h2.tot h3)
      rcases h4 with h4|h4
      ·have:=(h4.nu hv hb).1;omega
      ·exact la h2 hqn1 (.inl h4)
     ·exact la h2 hqn1 (.inr h3)
 ·have h7:=hup h9
  have h6:=(h7.nu hv (by have:=(hv.up b hb h9).1;omega)).2 (fun e=>h8 (by omega))
  exact h6
end
structure CO(n:Nat)(num out:List Int)(a b a' b':Int):Prop where
 ra:0≤a'∧a'<n
 rb:0≤b'∧b'<n
 pa:pdn out a'.toNat
 pb:pdn out b'.toNat
 an:∀x,(An out x a.toNat∧An out x b.toNat)↔(An out x a'.toNat∧An out x b'.toNat)
section
variable{n:Nat}{num out:List Int}{pr:Nat→Nat→Prop}{a b a' b':Int}
theorem CO.beg(ha:0≤a∧a<n)(hb:0≤b∧b<n)(h1:pdn out a.toNat)(h2:pdn out b.toNat):CO n num out a b a b:=⟨ha,hb,h1,h2,fun _=>Iff.rfl⟩
theorem CO.left(hg:GN n num pr)(hv:TV n num out)(h:CO n num out a b a' b')(hn:ix num b'.toNat<ix num a'.toNat):CO n num out a b (ix out a'.toNat) b'∧ix num (ix out a'.toNat).toNat<ix num a'.toNat:=by
 obtain⟨h1,h2,h3,h4,h5⟩:=h
 have hb:=(hg.rng b'.toNat (by omega)).1
 have h0:0≤ix out a'.toNat:=h3.resolve_left fun e=>by rw[e,hg.zero] at hn;omega
 have h6:=hv.up a'.toNat (by omega) h0
 refine⟨⟨⟨h0,h6.1⟩,h2,h6.2.2,h4,fun x=>(h5 x).trans ⟨fun⟨p,q⟩=>⟨?_,q⟩,fun⟨p,q⟩=>⟨.up h0 p,q⟩⟩⟩,h6.2.1⟩
 have hq:=(q.nu hv (by omega)).1
 generalize a'.toNat=v at *
 cases p with
 | self=>omega
 | up _ p=>exact p
theorem CO.right(hg:GN n num pr)(hv:TV n num out)(h:CO n num out a b a' b')(hn:ix num a'.toNat<ix num b'.toNat):CO n num out a b a' (ix out b'.toNat)∧ix num (ix out b'.toNat).toNat<ix num b'.toNat:=by
 have h1:=CO.left (a:=b) (b:=a) (a':=b') (b':=a') hg hv ⟨h.rb,h.ra,h.pb,h.pa,fun x=>and_comm.trans ((h.an x).trans and_comm)⟩ hn
 exact⟨⟨h.ra,h1.1.ra,h.pa,h1.1.pa,fun x=>and_comm.trans ((h1.1.an x).trans and_comm)⟩,h1.2⟩
theorem CO.done(hg:GN n num pr)(h:CO n num out a b a' b')(hn:ix num a'.toNat=ix num b'.toNat):An out a'.toNat a.toNat∧An out a'.toNat b.toNat∧∀x,An out x a.toNat→An out x b.toNat→An out x a'.toNat:=by
 have h1:=h.ra
 have h2:=h.rb
 have e:=hg.inj a'.toNat b'.toNat (by omega) (by omega) hn
 have h3:=(h.an a'.toNat).2 ⟨.self _,by rw[←e];exact .self _⟩
 exact⟨h3.1,h3.2,fun x p q=>((h.an x).1 ⟨p,q⟩).1⟩
def Pk(l:List Int)(k:Nat)(p:Nat):Prop:=(p:Int)∈l.take k
theorem Pk.nx{l:List Int}{k p:Nat}(hk:k<l.length):Pk l (k+1) p↔Pk l k p∨(p:Int)=ix l k:=by
 unfold Pk;rw[Ej hk,List.mem_append];simp
theorem BS.beg{l:List Int}:BS out (Pk l 0) (-1):=⟨fun _ p h=>by simp[Pk] at h,fun h=>by omega,fun h=>by omega,fun h=>by omega⟩
theorem BS.skip{l:List Int}{k:Nat}{best:Int}(h:BS out (Pk l k) best)(hk:k<l.length)(hr:0≤ix l k)(hp:¬pdn out (ix l k).toNat):BS out (Pk l (k+1)) best:=by
 have e:∀p:Nat,(p:Int)=ix l k→¬pdn out p:=fun p e h9=>hp (by rw[←e,Int.toNat_natCast];exact h9)
 exact⟨fun h0 p h1=>((Pk.nx hk).1 h1).elim (h.no h0 p) (e p),fun h0 p h1 h2=>((Pk.nx hk).1 h1).elim (fun h3=>h.an h0 p h3 h2) (fun h3=>absurd h2 (e p h3)),fun h0 y h1=>h.nc h0 y fun p h2=>h1 p ((Pk.nx hk).2 (.inl h2)),h.pd⟩
theorem BS.first{l:List Int}{k:Nat}{best:Int}(h:BS out (Pk l k) best)(hb:best<0)(hk:k<l.length)(hr:0≤ix l k)(hp:pdn out (ix l k).toNat):BS out (Pk l (k+1)) (ix l k):=by
 refine⟨fun h0=>by omega,fun h0 p h1 h2=>?_,fun h0 y h1=>?_,fun _=>hp⟩
 ·rcases(Pk.nx hk).1 h1 with h3|h3
  ·exact absurd h2 (h.no hb p h3)
  ·rw[←h3,Int.toNat_natCast];exact .self _
 ·exact h1 _ ((Pk.nx hk).2 (.inr (by omega))) hp
theorem BS.com{l:List Int}{k:Nat}{best c:Int}(h:BS out (Pk l k) best)(hb:0≤best)(hk:k<l.length)(hr:0≤ix l k)(hp:pdn out (ix l k).toNat)(hc:0≤c)(hpc:pdn out c.toNat)(h1:An out c.toNat best.toNat∧An out c.toNat (ix l k).toNat∧∀x,An out x best.toNat→An out x (ix l k).toNat→An out x c.toNat):BS out (Pk l (k+1)) c:=by
 obtain⟨a1,a2,a3⟩:=h1
 refine⟨fun h0=>by omega,fun _ p h2 h3=>?_,fun _ y h2=>?_,fun _=>hpc⟩
 ·rcases(Pk.nx hk).1 h2 with h4|h4
  ·exact a1.trans (h.an hb p h4 h3)
  ·rw[show p=(ix l k).toNat by omega];exact a2
 ·exact a3 y (h.nc hb y fun p h4=>h2 p ((Pk.nx hk).2 (.inl h4))) (h2 _ ((Pk.nx hk).2 (.inr (by omega))) hp)
theorem BS.all{l:List Int}{best:Int}{b:Nat}(h:BS out (Pk l l.length) best)(hl:∀p:Nat,(p:Int)∈l↔pr p b):BS out (fun p=>pr p b) best:=by
 have e:∀p,Pk l l.length p↔pr p b:=fun p=>by unfold Pk;rw[List.take_length];exact hl p
 exact⟨fun h0 p h1=>h.no h0 p ((e p).2 h1),fun h0 p h1=>h.an h0 p ((e p).2 h1),fun h0 y h1=>h.nc h0 y fun p h2=>h1 p ((e p).1 h2),h.pd⟩
theorem IS.beg(hg:GN n num pr):IS n num pr (List.replicate n (-1)) 1:=by
 have hr:∀v,v<n→ix (List.replicate n (-1:Int)) v=-1:=fun v hv=>by rw[Bp (by simpa using hv)];simp
 have h0:=hg.n0
 refine⟨⟨by simp,by rw[hr 0 h0];omega,fun v hv h=>by rw[hr v hv] at h;omega⟩,fun v hv h => .inl (hg.inj v 0 hv h0 (by have:=hg.rng v hv;rw[hg.zero];omega)),fun b a hb hp h=>?_,fun b hb h=>by rw[hr b hb] at h;omega,fun b hb h=>by rw[hr b hb] at h;omega,fun b hb h=>by rw[hr b hb] at h;omega⟩
 rcases hp with e|h1
 ·subst e
  rcases h with h|h
  ·subst h;exact .self _
  ·have:a=0:=by
    rcases Nat.eq_zero_or_pos a with h2|h2
    ·exact h2
    ·exact absurd (RB.zero (by omega)) h
   subst this;exact .self _
 ·rw[hr b hb] at h1;omega
theorem IS.round(hg:GN n num pr)(h:IS n num pr out n):IS n num pr out 1 :=
 ⟨h.tv,fun v hv _=>h.fp v hv (by have:=hg.rng v hv;omega),h.dm,h.pa,h.hh,fun b hb h1 q hq h2 _=>h.kk b hb h1 q hq h2 (.inl (by have:=hg.rng b hb;omega))⟩
def wtI(n:Nat)(num out:List Int)(v:Nat):Nat:=if ix out v<0 then n else (ix num (ix out v).toNat).toNat
def smI(n:Nat)(num out:List Int):Nat→Nat
 | 0=>0
 | k+1=>smI n num out k+wtI n num out k
theorem H4{out':List Int}{v:Nat}(h1:∀u,u≠v→wtI n num out' u=wtI n num out u)(h2:wtI n num out' v<wtI n num out v):∀k,(k≤v→smI n num out' k=smI n num out k)∧(v<k→smI n num out' k<smI n num out k)
 | 0=>⟨fun _=>rfl,fun h=>by omega⟩
 | k+1=>by
  obtain⟨a,b⟩:=H4 h1 h2 k
  rw[smI,smI]
  refine⟨fun h=>by rw[a (by omega),h1 k (by omega)],fun h=>?_⟩
  rcases Nat.lt_or_ge v k with h3|h3
  ·have:=b h3;rw[h1 k (by omega)];omega
  ·have e:v=k:=by omega
   subst e
   have:=a (Nat.le_refl _);omega
theorem IS.less(hg:GN n num pr){i:Int}(hs:IS n num pr out i){b:Nat}{best:Int}(hb:b<n)(h0:0≤best∧best<n)(hne:ix out b≠best)(h:0≤ix out b→ix out b≠best→ix num best.toNat<ix num (ix out b).toNat):smI n num (out.set b best) n<smI n num out n:=by
 have hl:b<out.length:=by rw[hs.tv.len];exact hb
 refine(H4 (v:=b) (fun u hu=>?_) ?_ n).2 hb
 ·unfold wtI;rw[Ch hl,if_neg hu]
 ·unfold wtI
  rw[Ch hl,if_pos rfl,if_neg (by omega)]
  have h1:=hg.rng best.toNat (by omega)
  split
  ·omega
  ·rename_i h2
   have h3:=h (by omega) hne
   omega
theorem RK(hv:TV n num out):∀(k:Nat) {x v:Nat},An out x v→v<n→x≠v→0≤ix out v∧ix out v<n∧An out x (ix out v).toNat
 | _,x,v,h,hv',hne=>by
  cases h with
  | self=>exact absurd rfl hne
  | up h1 h2=>exact⟨h1,(hv.up v hv' h1).1,h2⟩
end
def Aft(rows:List (List Int))(l:List Int)(v:Int):Prop:=∃l2 l3,l=l2++v::l3∧∃q∈l3,v∈ix rows q.toNat
theorem Aft.right{rows:List (List Int)}{l m:List Int}{v:Int}:Aft rows l v→Aft rows (l++m) v
 | ⟨l2,l3,e,q,h1,h2⟩=>⟨l2,l3++m,by rw[e];simp,q,by simp[h1],h2⟩
theorem Aft.left{rows:List (List Int)}{l m:List Int}{v:Int}:Aft rows l v→Aft rows (m++l) v
 | ⟨l2,l3,e,q,h1,h2⟩=>⟨m++l2,l3,by rw[e];simp,q,h1,h2⟩
structure OV(n:Nat)(rows:List (List Int))(se:List Bool)(l:List Int)(se':List Bool)(R:Int→Prop):Prop where
 len:se'.length=n
 mem:∀v:Nat,v<n→(ix se' v=true↔ix se v=true∨(v:Int)∈l)
 nd:l.Nodup
 new:∀v∈l,(0≤v∧v<n)∧ix se v.toNat=false
 cl:∀v∈l,∀t∈ix rows v.toNat,ix se' t.toNat=true
 af:∀v∈l,R v∨Aft rows l v
section
variable{n:Nat}{rows:List (List Int)}{se se' se2:List Bool}{l l2:List Int}{R:Int→Prop}{a:Int}
theorem OV.beg(h:se.length=n):OV n rows se [] se R:=⟨h,fun v _=>(by simp),List.nodup_nil,fun v h=>(by cases h),fun v h=>(by cases h),fun v h=>(by cases h)⟩
theorem OV.up(h:OV n rows se l se' R){v:Nat}(hv:v<n)(h1:ix se v=true):ix se' v=true:=(h.mem v hv).2 (.inl h1)
theorem OV.tr(hr:∀v t,t∈ix rows v→0≤t∧t<n)(h:OV n rows se l se' R)(h2:OV n rows se' l2 se2 R):OV n rows se (l++l2) se2 R:=by
 refine⟨h2.len,fun v hv=>?_,List.nodup_append.2 ⟨h.nd,h2.nd,fun x hx y hy e=>?_⟩,fun v hv=>?_,fun v hv t ht=>?_,fun v hv=>?_⟩
 ·rw[h2.mem v hv,h.mem v hv,List.mem_append,or_assoc]
 ·subst e
  have h3:=h.new x hx
  have h4:=(h2.new x hy).2
  rw[(h.mem x.toNat (by omega)).2 (.inr (by rw[Int.toNat_of_nonneg h3.1.1];exact hx))] at h4;cases h4
 ·rcases List.mem_append.1 hv with h3|h3
  ·exact h.new v h3
  ·have h4:=h2.new v h3
   refine⟨h4.1,?_⟩
   cases h5:ix se v.toNat with
   | false=>rfl
   | true=>rw[h.up (by omega) h5] at h4;cases h4.2
 ·rcases List.mem_append.1 hv with h3|h3
  ·have:=hr _ t ht;exact h2.up (by omega) (h.cl v h3 t ht)
  ·exact h2.cl v h3 t ht
 ·rcases List.mem_append.1 hv with h3|h3
  ·exact(h.af v h3).imp id Aft.right
  ·exact(h2.af v h3).imp id Aft.left
theorem OV.weak{R':Int→Prop}(h:OV n rows se l se' R)(hR:∀v,R v→R' v):OV n rows se l se' R':=⟨h.len,h.mem,h.nd,h.new,h.cl,fun v hv=>(h.af v hv).imp (hR v) id⟩
theorem OV.done(hl:se.length=n)(ha:0≤a∧a<n)(h0:ix se a.toNat=false)(h:OV n rows (se.set a.toNat true) l se' (fun v=>v∈ix rows a.toNat))(hc:∀t∈ix rows a.toNat,ix se' t.toNat=true):OV n rows se (l++[a]) se' (fun v=>v=a):=by
 have hs:∀v,ix (se.set a.toNat true) v=if v=a.toNat then true else ix se v:=fun v=>Ch (by omega)
 have hna:a∉l:=fun h9=>by have:=(h.new a h9).2;rw[hs,if_pos rfl] at this;cases this
 refine⟨h.len,fun v hv=>?_,List.nodup_append.2 ⟨h.nd,by simp,fun x hx y hy e=>?_⟩,fun v hv=>?_,fun v hv t ht=>?_,fun v hv=>?_⟩
 ·rw[h.mem v hv,hs,List.mem_append,List.mem_singleton]
  by_cases e:v=a.toNat
  ·rw[if_pos e];exact⟨fun _ => .inr (.inr (by omega)),fun _ => .inl rfl⟩
  ·rw[if_neg e];exact⟨fun h=>h.imp id .inl,fun h=>h.imp id (fun h=>h.resolve_right (by omega))⟩
 ·simp at hy;subst hy;subst e;exact hna hx
 ·rcases List.mem_append.1 hv with h3|h3
  ·have h4:=h.new v h3
   refine⟨h4.1,?_⟩
   rw[hs] at h4
   split at h4
   ·cases h4.2
   ·exact h4.2
  ·simp at h3;subst h3;exact⟨ha,h0⟩
 ·rcases List.mem_append.1 hv with h3|h3
  ·exact h.cl v h3 t ht
  ·simp at h3;subst h3;exact hc t ht
 ·rcases List.mem_append.1 hv with h3|h3
  ·right
   rcases h.af v h3 with h4|h4
   ·obtain⟨l2,l3,e⟩:=List.append_of_mem h3
    exact⟨l2,l3++[a],by rw[e];simp,a,by simp,h4⟩
   ·exact h4.right
  ·exact .inl (by simpa using h3)
end
structure OD(n:Nat)(rows:List (List Int))(ord:List Int):Prop where
 nd:ord.Nodup
 all:∀v:Int,v∈ord↔0≤v∧v<n
 hd:ord.head? = some 0
 fw:∀v:Int,v∈ord→v≠0→∃l2 l3,ord=l2++v::l3∧∃q∈l2,v∈ix rows q.toNat
theorem KV{n:Nat}{rows:List (List Int)}{l:List Int}{se':List Bool}(hn:0<n)(hr:∀v t,t∈ix rows v→0≤t∧t<n)(h:OV n rows (List.replicate n false) (l++[0]) se' (fun v=>v=0))(hw:∀b,b<n→∃w,RB (fun q t=>(t:Int)∈ix rows q) w b):OD n rows (l++[0]).reverse:=by
 have key:∀{w b},RB (fun q t=>(t:Int)∈ix rows q) w b→(b:Int)∈l++[0]:=fun {w b} h9=>by
  induction h9 with
  | zero=>simp
  | @step x t h1 h2 _ ih =>
   have h3:=h.cl x ih t (by rw[Int.toNat_natCast];exact h2)
   rw[Int.toNat_natCast] at h3
   have h4:=hr x t h2
   have h5:=(h.mem t (by omega)).1 h3
   rw[Jh] at h5
   exact h5.resolve_left (by simp)
 refine⟨(List.reverse_perm _).nodup_iff.2 h.nd,fun v=>?_,by simp,fun v hv hv0=>?_⟩
 ·rw[List.mem_reverse]
  refine⟨fun h1=>(h.new v h1).1,fun h1=>?_⟩
  obtain⟨w,h2⟩:=hw v.toNat (by omega)
  have:=key h2
  rwa[Int.toNat_of_nonneg h1.1] at this
 ·rw[List.mem_reverse] at hv
  obtain⟨l2,l3,e,q,h1,h2⟩:=(h.af v hv).resolve_left hv0
  exact⟨l3.reverse,l2.reverse,by rw[e];simp,q,by simpa using h1,h2⟩
structure NU(n:Nat)(ord num:List Int):Prop where
 len:num.length=n
 pos:∀k,k<ord.length→ix num (ix ord k).toNat=k
theorem Pg:∀(n:Nat) (l:List Int),l.Nodup→(∀v∈l,0≤v∧v<n)→l.length≤n
 | 0,[],_,_=>Nat.le_refl _
 | 0,x::l,_,h=>by have:=h x (by simp);omega
 | n+1,l,hn,h=>by
  have h1:=Pg n (l.erase n) (hn.erase _) (fun v hv=>by
   have h2:=h v (List.mem_of_mem_erase hv)
   have h3:=((hn.mem_erase_iff).1 hv).1
   omega)
  rw[List.length_erase] at h1
  split at h1<;>omega
theorem Xp{n:Nat}{rows:List (List Int)}{ord:List Int}(ho:OD n rows ord){v:Nat}(hv:v<n):∃k,k<ord.length∧ix ord k=v:=by
 obtain⟨k,hk,e⟩:=List.getElem_of_mem ((ho.all v).2 ⟨by omega,by omega⟩)
 exact⟨k,hk,by rw[Bp hk];exact e⟩
theorem KX{n:Nat}{rows:List (List Int)}{ord num:List Int}(hn:0<n)(hr:∀v t,t∈ix rows v→(0≤t∧t<n)∧v<n)(ho:OD n rows ord)(hu:NU n ord num):GN n num (fun q t=>(t:Int)∈ix rows q)∧ord.length≤n:=by
 have hlen:=Pg n ord ho.nd (fun v hv=>(ho.all v).1 hv)
 refine⟨⟨hn,fun v hv=>?_,fun u v hu' hv h=>?_,?_,fun q b h=>?_,fun b hb h0=>?_⟩,hlen⟩
 ·obtain⟨k,hk,e⟩:=Xp ho hv
  have:=hu.pos k hk
  rw[e,Int.toNat_natCast] at this;omega
 ·obtain⟨k,hk,e⟩:=Xp ho hu'
  obtain⟨k2,hk2,e2⟩:=Xp ho hv
  have h1:=hu.pos k hk
  have h2:=hu.pos k2 hk2
  rw[e,Int.toNat_natCast] at h1
  rw[e2,Int.toNat_natCast] at h2
  have:k=k2:=by omega
  subst this;omega
 ·have h1:=ho.hd
  obtain⟨x,l,e⟩:∃x l,ord=x::l:=by
   cases ord with
   | nil=>cases h1
   | cons x l=>exact⟨x,l,rfl⟩
  subst e
  simp at h1;subst h1
  have:=hu.pos 0 (by simp)
  simpa[ix] using this
 ·have:=hr q b h;omega
 ·obtain⟨l2,l3,e,q,h1,h2⟩:=ho.fw b ((ho.all b).2 ⟨by omega,by omega⟩) (by omega)
  have hq:=(ho.all q).1 (by rw[e];simp[h1])
  refine⟨q.toNat,h2,?_⟩
  obtain⟨k,hk,e1⟩:=List.getElem_of_mem h1
  have p1:=hu.pos k (by rw[e];simp;omega)
  have p2:=hu.pos l2.length (by rw[e];simp)
  rw[show ix ord k=q from by rw[Bp (by rw[e];simp;omega)];subst e;rw[List.getElem_append_left hk];exact e1] at p1
  rw[show ix ord l2.length=(b:Int) from by rw[Bp (by rw[e];simp)];subst e;simp,Int.toNat_natCast] at p2
  omega
def Gg(row:List Int)(n:Int):List Int:=Lib.compact (Hx (row.filter (fun b=>decide (0≤b)&&decide (b<n))))
theorem Pn{row:List Int}{n x:Int}:x∈Gg row n↔x∈row∧0≤x∧x<n:=by
 unfold Gg
 rw[RP,GG,List.mem_filter]
 simp
theorem Ug(row:List Int)(n:Int):(Gg row n).Pairwise (·<·):=RO (GH _)
theorem MP{a b:List Int}(h1:a.Pairwise (·<·))(h2:b.Pairwise (·<·))(h:∀x,x∈a↔x∈b):a=b:=K9 h1 h2 h
theorem Xx(row:List Int)(n:Int):Gg (Gg row n) n=Gg row n:=MP (Ug _ _) (Ug _ _) (fun x=>by rw[Pn,Pn];exact⟨fun h=>h.1,fun h=>⟨h,h.2⟩⟩)
theorem W0(row:List Int)(n:Int):(Gg row n).length≤row.length:=by
 unfold Gg
 refine Nat.le_trans (BH _) ?_
 unfold Hx
 rw[List.length_mergeSort];exact List.length_filter_le _ _
def Bn(g:List (List Int)):List (List Int):=g.map (fun row=>Gg row g.length)
def Bh(f:D.Func):List (List Int):=f.Blocks.map (fun b=>Gg b.Term.To f.Blocks.length)
theorem AU{α:Type}[Inhabited α]{l:List α}{q:α→Bool}{k:Nat}(h:k<l.length):(l.take (k+1)).filter q=(l.take k).filter q++if q (ix l k)=true then [ix l k] else []:=by
 rw[Ej h,List.filter_append]
 congr 1
 by_cases h9:q (ix l k)=true
 ·simp[h9]
 ·simp[h9]
def Ip(idom num:List Int):Nat→Int→Int→Int
 | 0,a,_=>a
 | k+1,a,b=>if ix num b.toNat<ix num a.toNat then Ip idom num k (ix idom a.toNat) b else if ix num a.toNat<ix num b.toNat then Ip idom num k a (ix idom b.toNat) else a
def Ky(idom num:List Int)(a b:Int):Int:=Ip idom num ((ix num a.toNat).toNat+(ix num b.toNat).toNat+1) a b
def DY(idom num:List Int)(a b:Int):Prop:=∃n pr,GN n num pr∧num.length=n∧TV n num idom∧CO n num idom a b a b
def Hg(idom:List Int)(a:Int):Nat→Int→Bool
 | 0,_=>false
 | k+1,b=>if a=b then true else if 0≤b∧b<idom.length then Hg idom a k (ix idom b.toNat) else false
def inR(l:List Int)(n:Int):Bool:=decide (0≤n)&&decide (n<l.length)
def Kx(idom:List Int)(a b:Int):Bool:=if inR idom a=true∧inR idom b=true then Hg idom a (idom.length+1) b else false
theorem BD{n:Nat}{num out:List Int}(hv:TV n num out){x:Nat}:∀(k:Nat) {v:Nat},An out x v→v<n→ix num v<ix num x+k→Hg out x k v=true
 | 0,v,h,hv',hk=>by have:=(h.nu hv hv').1;omega
 | k+1,v,h,hv',hk=>by
  rw[Hg]
  by_cases e:(x:Int)=v
  ·rw[if_pos e]
  ·rw[if_neg e,if_pos ⟨by omega,by rw[hv.len];omega⟩,Int.toNat_natCast]
   obtain⟨h1,h2,h3⟩:=RK hv 0 h hv' (by omega)
   have h4:=(hv.up v hv' h1).2.1
   have:=BD hv k (v:=(ix out v).toNat) h3 (by omega) (by omega)
   rwa[Int.toNat_of_nonneg h1] at this
def Ge(n a b:Int):Bool:=decide (a≤n)&&decide (n≤b)
def Cz(op:Int):Int×Int:=if op=1 then (0,0) else if op=15 then (1,1) else if op=17 then (0,4) else (2,2)
section
variable{idom num:List Int}{k:Nat}{a b:Int}
theorem RX(h:0<k)(h1:ix num b.toNat<ix num a.toNat):Ip idom num k a b=Ip idom num (k-1) (ix idom a.toNat) b:=by
 obtain⟨j,rfl⟩:∃j,k=j+1:=⟨k-1,by omega⟩
 rw[Ip,if_pos h1];rfl
theorem RV(h:0<k)(h1:ix num a.toNat<ix num b.toNat):Ip idom num k a b=Ip idom num (k-1) a (ix idom b.toNat):=by
 obtain⟨j,rfl⟩:∃j,k=j+1:=⟨k-1,by omega⟩
 rw[Ip,if_neg (by omega),if_pos h1];rfl
theorem RY(h:0<k)(h1:ix num a.toNat=ix num b.toNat):Ip idom num k a b=a:=by
 obtain⟨j,rfl⟩:∃j,k=j+1:=⟨k-1,by omega⟩
 rw[Ip,if_neg (by omega),if_neg (by omega)]
end
theorem Ia{α β:Type}[Inhabited α][Inhabited β]{l:List α}{f:α→β}{k:Nat}(h:k<l.length):ix (l.map f) k=f (ix l k):=by
 rw[Bp (by simpa using h),Bp h];simp
theorem K6{F:List (List Int)}{n k:Nat}{x:List Int}(hk:k<n)(hn:F.length=n)(hx:x=ix F k):(F.take k++List.replicate (n-k) []).set k x=F.take (k+1)++List.replicate (n-(k+1)) []:=by
 have hl:(F.take k).length=k:=by rw[List.length_take];omega
 rw[List.set_append_right _ _ (by omega),hl,Nat.sub_self,Ej (by omega),List.append_assoc]
 congr 1
 obtain⟨j,hj⟩:∃j,n-k=j+1:=⟨n-k-1,by omega⟩
 rw[hj,List.replicate_succ,List.set_cons_zero,show n-(k+1)=j by omega,hx];rfl
def Kv(n:Int)(l:List Int):Bool:=inR l n
theorem Z6{n:Int}{l:List Int}(h:Kv n l=true):0≤n∧n<l.length:=by unfold Kv inR at h;simpa using h
theorem Uq{n:Int}{l:List Int}(h:Kv n l=false):¬(0≤n∧n<l.length):=by unfold Kv inR at h;simp at h;omega
theorem Uw{idom:List Int}{a b:Int}(h:(!Kv a idom||!Kv b idom)=true):Kx idom a b=false:=by
 unfold Kx;rw[if_neg];intro h9;unfold Kv at h;rw[h9.1,h9.2] at h;cases h
structure OP(n:Nat)(rows:List (List Int))(se:List Bool)(out:List Int)(a:Int):Prop where
 len:se.length=n
 n512:n≤512
 a0:0≤a∧a<n
 no:ix se a.toNat=false
 rl:rows.length=n
 rows:∀v t,t∈ix rows v→0≤t∧t<n
 nd:out.Nodup
 vis:∀v∈out,(0≤v∧v<n)∧ix se v.toNat=true
section
variable{n:Nat}{rows:List (List Int)}{se se2 se3:List Bool}{out l l2 l3:List Int}{a t:Int}{R:Int→Prop}{k:Nat}
theorem OP.all(h:OP n rows se out a)(ho:OV n rows (se.set a.toNat true) l se2 R):(out++l).Nodup∧∀v∈out++l,(0≤v∧v<n)∧ix se2 v.toNat=true:=by
 have ha:=h.a0
 have hs:∀v,ix (se.set a.toNat true) v=if v=a.toNat then true else ix se v:=fun v=>Ch (by rw[h.len];omega)
 refine⟨List.nodup_append.2 ⟨h.nd,ho.nd,fun x hx y hy e=>?_⟩,fun v hv=>?_⟩
 ·subst e
  have h1:=(h.vis x hx).2
  have h2:=(ho.new x hy).2
  rw[hs] at h2
  split at h2
  ·cases h2
  ·rw[h1] at h2;cases h2
 ·rcases List.mem_append.1 hv with h1|h1
  ·have h2:=h.vis v h1
   refine⟨h2.1,(ho.mem v.toNat (by omega)).2 (.inl ?_)⟩
   rw[hs];split
   ·rfl
   ·exact h2.2
  ·have h2:=(ho.new v h1).1
   exact⟨h2,(ho.mem v.toNat (by omega)).2 (.inr (by rw[Int.toNat_of_nonneg h2.1];exact h1))⟩
theorem OP.olen(h:OP n rows se out a)(ho:OV n rows (se.set a.toNat true) l se2 R):(out++l).length≤512:=by
 have h1:=h.all ho
 have:=Pg n _ h1.1 (fun v hv=>(h1.2 v hv).1)
 have:=h.n512
 omega
theorem OP.next(h:OP n rows se out a)(ho:OV n rows (se.set a.toNat true) l se2 R)(ht:t∈ix rows a.toNat)(hn:ix se2 t.toNat=false):OP n rows se2 (out++l) t :=
 ⟨ho.len,h.n512,h.rows _ t ht,hn,h.rl,h.rows,(h.all ho).1,(h.all ho).2⟩
theorem BO:∀{a b:List Bool},a.length=b.length→(∀i,ix a i=true→ix b i=true)→Fu b≤Fu a
 | [],[],_,_=>Nat.le_refl _
 | x::a,y::b,h,h2=>by
  have h3:=BO (a:=a) (b:=b) (by simpa using h) (fun i hi=>by have:=h2 (i+1) (by rw[Fi];exact hi);rwa[Fi] at this)
  have h0:=h2 0
  rw[Fq,Fq] at h0
  unfold Fu at h3 ⊢
  rw[List.countP_cons,List.countP_cons]
  cases x<;>cases y<;>simp_all<;>omega
theorem OP.less(h:OP n rows se out a)(ho:OV n rows (se.set a.toNat true) l se2 R):Fu se2<Fu se:=by
 have ha:=h.a0
 have h1:=Nz (l:=se) (i:=a.toNat) (by rw[h.len];omega) h.no
 have h2:=BO (a:=se.set a.toNat true) (b:=se2) (by rw[List.length_set,h.len,ho.len]) (fun i hi=>(ho.mem i (by have:=OS hi;rw[List.length_set,h.len] at this;exact this)).2 (.inl hi))
 omega
theorem R7{T:List Int}(hk:k<T.length)(hd:∀t∈T.take k,ix se2 t.toNat=true)(h:ix se2 (ix T k).toNat=true):∀t∈T.take (k+1),ix se2 t.toNat=true:=fun t ht=>by
 rw[Ej hk,List.mem_append] at ht
 rcases ht with ht|ht
 ·exact hd t ht
 ·simp at ht;subst ht;exact h
theorem KN{T:List Int}(hk:k<T.length)(hd:∀t∈T.take k,ix se2 t.toNat=true)(hr:∀t∈T,0≤t∧t<n)(ho:OV n rows se2 l se3 (fun v=>v=ix T k))(hl:ix T k∈l):∀t∈T.take (k+1),ix se3 t.toNat=true:=by
 refine R7 hk (fun t ht=>?_) ?_
 ·have:=hr t (List.mem_of_mem_take ht)
  exact ho.up (by omega) (hd t ht)
 ·have h1:=hr _ (Ax hk)
  exact(ho.mem _ (by omega)).2 (.inr (by rw[Int.toNat_of_nonneg h1.1];exact hl))
end
structure PO(n:Nat)(rows:List (List Int))(se:List Bool)(l:List Int)(se':List Bool)(a:Int):Prop where
 ends:∃l0,l=l0++[a]
 ov:OV n rows se l se' (fun v=>v=a)
theorem PO.mem{n:Nat}{rows:List (List Int)}{se se':List Bool}{l:List Int}{a:Int}(h:PO n rows se l se' a):a∈l:=by obtain⟨l0,e⟩:=h.ends;rw[e];simp
theorem Gx{α:Type}[Inhabited α]{l:List α}{i:Nat}(h:l.length≤i):ix l i=default:=by
 simp[ix,List.getD,List.getElem?_eq_none h]
theorem Pv(g:List (List Int)):(Bn g).length=g.length:=by simp[Bn]
theorem My(g:List (List Int)):∀v t,t∈ix (Bn g) v→0≤t∧t<g.length:=fun v t h=>by
 by_cases hv:v<g.length
 ·unfold Bn at h
  rw[Ia hv] at h
  exact(Pn.1 h).2
 ·rw[Gx (by rw[Pv];omega)] at h;cases h
theorem KP{n:Nat}{rows:List (List Int)}(hn:0<n∧n≤512)(hl:rows.length=n)(hr:∀v t,t∈ix rows v→0≤t∧t<n):OP n rows (List.replicate n false) [] 0 :=
 ⟨by simp,hn.2,⟨Int.le_refl _,by omega⟩,Jh _ _,hl,hr,List.nodup_nil,fun v h=>by cases h⟩
theorem PO.len{n:Nat}{rows:List (List Int)}{se se':List Bool}{l:List Int}{a:Int}(h:PO n rows se l se' a)(hn:n≤512):([]++l).length<1073741824:=by
 have h1:=Pg n l h.ov.nd (fun v hv=>(h.ov.new v hv).1)
 rw[List.nil_append];omega
theorem PO.od{n:Nat}{rows:List (List Int)}{se':List Bool}{l:List Int}(h:PO n rows (List.replicate n false) l se' 0)(hn:0<n)(hr:∀v t,t∈ix rows v→0≤t∧t<n)(hw:∀b,b<n→∃w,RB (fun q t=>(t:Int)∈ix rows q) w b):OD n rows (Ho ([]++l)):=by
 obtain⟨l0,e⟩:=h.ends
 have h1:=h.ov
 rw[List.nil_append,e] at *
 exact KV hn hr h1 hw
def OO(g:List (List Int))(ord:List Int):Prop:=∃l se',ord=Ho ([]++l)∧PO g.length (Bn g) (List.replicate g.length false) l se' 0
theorem OO.od{g:List (List Int)}{ord:List Int}(h:OO g ord)(hn:0<g.length)(hw:∀b,b<g.length→∃w,RB (fun q t=>(t:Int)∈ix (Bn g) q) w b):OD g.length (Bn g) ord:=by
 obtain⟨l,se,rfl,h⟩:=h
 exact h.od hn (My g) hw
def Db(rows:List (List Int)):Nat→List (Int×Int)
 | 0=>[]
 | k+1=>Db rows k++(ix rows k).map (fun b=>((k:Int),b))
theorem BA{rows:List (List Int)}:∀{n k:Nat},k≤n→∃m,Db rows n=Db rows k++m
 | 0,k,h=>⟨[],by rw[show k=0 by omega];simp⟩
 | n+1,k,h=>by
  rcases Nat.lt_or_ge n k with h1|h1
  ·rw[show k=n+1 by omega];exact⟨[],by simp⟩
  ·obtain⟨m,e⟩:=BA (rows:=rows) h1
   exact⟨m++(ix rows n).map (fun b=>((n:Int),b)),by rw[Db,e,List.append_assoc]⟩
theorem RF{rows:List (List Int)}{n k j:Nat}(hk:k<n)(hj:j<(ix rows k).length):(Db rows k).length+j<(Db rows n).length∧∀h,(Db rows n)[(Db rows k).length+j]'h=((k:Int),ix (ix rows k) j):=by
 obtain⟨m,e⟩:=BA (rows:=rows) (show k+1≤n from hk)
 rw[Db] at e
 refine⟨by rw[e];simp;omega,fun h=>?_⟩
 have h2:(Db rows n)[(Db rows k).length+j]? = some ((k:Int),ix (ix rows k) j):=by
  rw[e,List.append_assoc,List.getElem?_append_right (by omega),Nat.add_sub_cancel_left,List.getElem?_append_left (by simpa using hj),List.getElem?_map,Bp hj,List.getElem?_eq_getElem hj];rfl
 rw[List.getElem?_eq_getElem h] at h2
 injection h2
theorem BB{rows:List (List Int)}{k:Nat}:(Db rows (k+1)).length=(Db rows k).length+(ix rows k).length:=by rw[Db];simp
abbrev Ed(n:Nat):={ p:Int×Int // (0≤p.1∧p.1<n)∧0≤p.2∧p.2<n }
def Rm{n:Nat}(x:Ed n):List Value:=[.int .i64 x.val.1,.int .i64 x.val.2]
theorem AZ{g:List (List Int)}:∀{k:Nat},k≤g.length→∀p∈Db (Bn g) k,(0≤p.1∧p.1<g.length)∧0≤p.2∧p.2<g.length
 | 0,_,_,h=>by cases h
 | k+1,hk,p,h=>by
  rw[Db] at h
  rcases List.mem_append.1 h with h1|h1
  ·exact AZ (by omega) p h1
  ·obtain⟨b,h2,rfl⟩:=List.mem_map.1 h1
   exact⟨⟨by dsimp only;omega,by dsimp only;omega⟩,My g k b h2⟩
def Ft(g:List (List Int)):List (Ed g.length):=(Db (Bn g) g.length).attachWith _ (fun p hp=>AZ (Nat.le_refl _) p hp)
theorem Ys{g:List (List Int)}:(Ft g).length=(Db (Bn g) g.length).length:=by simp[Ft]
theorem BC{g:List (List Int)}{i:Nat}(h:i<(Ft g).length):(Ft g)[i].val=(Db (Bn g) g.length)[i]'(by rw[←Ys];exact h):=by simp[Ft]
def Ko(rs:List (List Int))(p:Int×Int):List (List Int):=rs.set p.2.toNat (ix rs p.2.toNat++[p.1])
def Jd(n:Nat)(l:List (Int×Int)):List (List Int):=l.foldl Ko (List.replicate n [])
def Cv(g:List (List Int)):List (List Int):=Jd g.length (Db (Bn g) g.length)
theorem Tm{n:Nat}(l:List (Int×Int)):(Jd n l).length=n:=by
 unfold Jd
 have:∀(l:List (Int×Int)) (rs:List (List Int)),(l.foldl Ko rs).length=rs.length:=by
  intro l
  induction l with
  | nil=>intro rs;rfl
  | cons p l ih=>intro rs;rw[List.foldl_cons,ih];simp[Ko]
 rw[this];simp
theorem Xi{n:Nat}{l:List (Int×Int)}{p:Int×Int}:Jd n (l++[p])=Ko (Jd n l) p:=by unfold Jd;rw[List.foldl_append];rfl
theorem RD(g:List (List Int)):(Ft g).map Subtype.val=Db (Bn g) g.length:=List.ext_getElem (by simp[Ft]) fun i h1 h2=>by rw[List.getElem_map];exact BC _
theorem Uv{g:List (List Int)}(hg:g.length≤512):∀k,k≤g.length→(Db (Bn g) k).length≤512*k
 | 0,_=>Nat.le_refl _
 | k+1,h=>by
  have h1:=Uv hg k (by omega)
  have h2:=Pg g.length (ix (Bn g) k) (by unfold Bn;rw[Ia (by omega)];exact(Ug _ _).imp (fun h=>by omega)) (fun v hv=>My g k v hv)
  rw[BB];omega
theorem Tn{n:Nat}:∀(l:List (Int×Int)) (rs:List (List Int)) (c:Nat),(∀r∈rs,r.length≤c)→∀r∈l.foldl Ko rs,r.length≤c+l.length
 | [],rs,c,h,r,hr=>by have:=h r hr;simpa using this
 | p::l,rs,c,h,r,hr=>by
  rw[List.foldl_cons] at hr
  have:=Tn (n:=n) l (Ko rs p) (c+1) (fun r hr=>by
   unfold Ko at hr
   rcases List.mem_or_eq_of_mem_set hr with h1|h1
   ·have:=h r h1;omega
   ·subst h1
    rw[List.length_append]
    by_cases hj:p.2.toNat<rs.length
    ·have:=h _ (Ax hj);simp;omega
    ·rw[Gx (by omega)];simp[default];) r hr
  rw[List.length_cons];omega
theorem JM{g:List (List Int)}(hg:g.length≤512):∀l∈Jd g.length (Db (Bn g) g.length),l.length<1073741824:=fun l hl=>by
 have h1:=Tn (n:=g.length) (Db (Bn g) g.length) (List.replicate g.length []) 0 (fun r hr=>by rw[List.eq_of_mem_replicate hr];simp) l hl
 have h2:=Uv hg g.length (Nat.le_refl _)
 have h3:512*g.length≤512*512:=Nat.mul_le_mul_left _ hg
 omega
theorem JN{n j:Nat}(l:List (Int×Int)):((Jd n l)[j]?.getD []).length≤l.length:=by
 cases h:(Jd n l)[j]? with
 | none=>simp
 | some x =>
  obtain⟨hj,e⟩:=List.getElem?_eq_some_iff.1 h
  have:=Tn (n:=n) l (List.replicate n []) 0 (fun r hr=>by rw[List.eq_of_mem_replicate hr];simp) x (by rw[←e];exact List.getElem_mem hj)
  simpa using this
theorem RE{g:List (List Int)}(hg:g.length≤512):(Ft g).length≤262144:=by
 rw[Ys]
 have h2:=Uv hg g.length (Nat.le_refl _)
 have h3:512*g.length≤512*512:=Nat.mul_le_mul_left _ hg
 omega
theorem M5{n:Nat}{q:Int}:∀(row:List Int) (rs:List (List Int)),rs.length=n→row.Nodup→(∀v∈row,0≤v∧v<n)→∀v:Nat,ix ((row.map (fun b=>(q,b))).foldl Ko rs) v=ix rs v++if (v:Int)∈row then [q] else []
 | [],rs,_,_,_,v=>by simp
 | b::row,rs,hl,hn,hr,v=>by
  have h1:=hr b (by simp)
  have h2:=List.nodup_cons.1 hn
  have h3:=M5 (q:=q) row (Ko rs (q,b)) (by simp[Ko,hl]) h2.2 (fun v hv=>hr v (by simp[hv])) v
  rw[List.map_cons,List.foldl_cons,h3]
  unfold Ko
  dsimp only
  rw[Ch (by omega)]
  by_cases e:v=b.toNat
  ·have e2:(v:Int)=b:=by omega
   rw[if_pos e,←e,e2,if_neg h2.1,if_pos (by simp),List.append_nil]
  ·have e2:¬(v:Int)=b:=by omega
   rw[if_neg e]
   congr 1
   by_cases h4:(v:Int)∈row
   ·rw[if_pos h4,if_pos (by simp[h4])]
   ·rw[if_neg h4,if_neg (by simp[h4,e2])]
def Ih(rows:List (List Int)):Nat→Nat→List Int
 | 0,_=>[]
 | k+1,v=>Ih rows k v++if (v:Int)∈ix rows k then [(k:Int)] else []
theorem N3{n:Nat}{rows:List (List Int)}(hn:∀k,(ix rows k).Nodup)(hr:∀v t,t∈ix rows v→0≤t∧t<n)(v:Nat):∀k,ix (Jd n (Db rows k)) v=Ih rows k v
 | 0=>by unfold Jd;rw[Db,Ih,List.foldl_nil];by_cases h:v<n<;>simp[ix,h]<;>rfl
 | k+1=>by
  have h1:=N3 hn hr v k
  rw[Db,Ih,←h1]
  unfold Jd
  rw[List.foldl_append]
  exact M5 _ _ (Tm (n:=n) _) (hn k) (hr k) v
theorem SC(g:List (List Int))(k:Nat):(ix (Bn g) k).Nodup:=by
 by_cases hk:k<g.length
 ·unfold Bn;rw[Ia hk];exact(Ug _ _).imp (fun h=>by omega)
 ·rw[Gx (by rw[Pv];omega)];exact List.nodup_nil
theorem Qx(g:List (List Int))(v:Nat):ix (Cv g) v=Ih (Bn g) g.length v:=N3 (SC g) (My g) v _
theorem Tp{rows:List (List Int)}{v:Nat}:∀{n:Nat} {x:Int},x∈Ih rows n v↔∃k:Nat,k<n∧x=k∧(v:Int)∈ix rows k
 | 0,x=>by simp[Ih]
 | n+1,x=>by
  rw[Ih,List.mem_append,Tp (n:=n)]
  constructor
  ·rintro(⟨k,h1,h2,h3⟩|h)
   ·exact⟨k,by omega,h2,h3⟩
   ·split at h
    ·rename_i h2;simp at h;exact⟨n,by omega,h,h2⟩
    ·cases h
  ·rintro⟨k,h1,h2,h3⟩
   rcases Nat.lt_or_ge k n with h4|h4
   ·exact .inl ⟨k,h4,h2,h3⟩
   ·have e:k=n:=by omega
    subst e
    exact .inr (by rw[if_pos h3];simpa using h2)
theorem Xg(g:List (List Int)):(Cv g).length=g.length:=Tm _
def prG(g:List (List Int))(q t:Nat):Prop:=(t:Int)∈ix (Bn g) q
theorem JO{g:List (List Int)}{q t:Nat}(h:prG g q t):q<g.length∧t<g.length:=by
 refine⟨?_,by have:=My g q t h;omega⟩
 rcases Nat.lt_or_ge q g.length with h1|h1
 ·exact h1
 ·unfold prG at h;rw[Gx (by rw[Pv];omega)] at h;cases h
theorem M6{g:List (List Int)}{p b:Nat}:(p:Int)∈ix (Cv g) b↔prG g p b:=by
 rw[Qx,Tp]
 constructor
 ·rintro⟨k,h1,h2,h3⟩
  have:p=k:=by omega
  subst this;exact h3
 ·exact fun h=>⟨p,(JO h).1,rfl,h⟩
theorem Xe{g:List (List Int)}{b:Nat}{x:Int}(h:x∈ix (Cv g) b):0≤x∧x<g.length:=by
 rw[Qx,Tp] at h
 obtain⟨k,h1,h2,_⟩:=h
 omega
theorem OD.gn{g:List (List Int)}{ord num:List Int}(hn:0<g.length)(ho:OD g.length (Bn g) ord)(hu:NU g.length ord num):GN g.length num (prG g)∧ord.length≤g.length :=
 KX hn (fun v t h=>⟨My g v t h,by
  rcases Nat.lt_or_ge v g.length with h1|h1
  ·exact h1
  ·rw[Gx (by rw[Pv];omega)] at h;cases h⟩) ho hu
theorem KW{n:Nat}{rows:List (List Int)}{ord:List Int}(ho:OD n rows ord):ord.length≤n:=Pg n ord ho.nd (fun v hv=>(ho.all v).1 hv)
theorem Ty{n:Nat}{rows:List (List Int)}{ord:List Int}(ho:OD n rows ord){k:Nat}(hk:k<ord.length):0≤ix ord k∧ix ord k<n:=(ho.all _).1 (Ax hk)
theorem Wi:∀(l m:List Int),l.Nodup→(∀x∈l,x∈m)→l.length≤m.length
 | [],m,_,_=>Nat.zero_le _
 | x::l,m,h,h2=>by
  have h3:=List.nodup_cons.1 h
  have h4:=Wi l (m.erase x) h3.2 (fun y hy=>(List.mem_erase_of_ne (fun e=>h3.1 (by rw[←e];exact hy))).2 (h2 y (by simp[hy])))
  have h5:=h2 x (by simp)
  rw[List.length_erase_of_mem h5] at h4
  have:=List.length_pos_of_mem h5
  rw[List.length_cons];omega
theorem KY{n:Nat}{rows:List (List Int)}{ord:List Int}(ho:OD n rows ord):n≤ord.length:=by
 have h:∀k,k≤n→∃l:List Int,l.length=k∧l.Nodup∧∀x∈l,0≤x∧x<k:=by
  intro k
  induction k with
  | zero=>exact fun _=>⟨[],rfl,List.nodup_nil,fun x h=>by cases h⟩
  | succ k ih =>
   intro hk
   obtain⟨l,h1,h2,h3⟩:=ih (by omega)
   refine⟨(k:Int)::l,by simp[h1],List.nodup_cons.2 ⟨fun h4=>by have:=h3 _ h4;omega,h2⟩,fun x hx=>?_⟩
   rcases List.mem_cons.1 hx with h4|h4
   ·omega
   ·have:=h3 x h4;omega
 obtain⟨l,h1,h2,h3⟩:=h n (Nat.le_refl _)
 have:=Wi l ord h2 (fun x hx=>(ho.all _).2 (h3 x hx))
 omega
theorem nodup_inj{α:Type}:∀{l:List α},l.Nodup→∀{i j:Nat} (hi:i<l.length) (hj:j<l.length),l[i]=l[j]→i=j
 | [],_,i,_,hi,_,_=>by cases hi
 | x::l,h,0,0,_,_,_=>rfl
 | x::l,h,0,j+1,_,hj,e=>by
  rw[List.getElem_cons_zero,List.getElem_cons_succ] at e
  exact absurd (by rw[e];exact List.getElem_mem _) (List.nodup_cons.1 h).1
 | x::l,h,i+1,0,hi,_,e=>by
  rw[List.getElem_cons_zero,List.getElem_cons_succ] at e
  exact absurd (by rw[←e];exact List.getElem_mem _) (List.nodup_cons.1 h).1
 | x::l,h,i+1,j+1,hi,hj,e=>by
  rw[List.getElem_cons_succ,List.getElem_cons_succ] at e
  rw[nodup_inj (List.nodup_cons.1 h).2 _ _ e]
def NK(n:Nat)(ord nm:List Int)(k:Nat):Prop:=nm.length=n∧∀j,j<k→ix nm (ix ord j).toNat=j
theorem NK.nx{n:Nat}{rows:List (List Int)}{ord nm:List Int}{k:Nat}(ho:OD n rows ord)(h:NK n ord nm k)(hk:k<ord.length):NK n ord (nm.set (ix ord k).toNat k) (k+1):=by
 refine⟨by rw[List.length_set];exact h.1,fun j hj=>?_⟩
 have h1:=Ty ho hk
 have h2:=Ty ho (k:=j) (by omega)
 rw[Ch (by rw[h.1];omega)]
 split
 ·rename_i e
  have e2:ix ord j=ix ord k:=by omega
  have:j=k:=by
   rw[Bp (show j<ord.length by omega),Bp hk] at e2
   exact nodup_inj ho.nd _ _ e2
  omega
 ·rename_i e
  rcases Nat.lt_or_ge j k with h3|h3
  ·exact h.2 j h3
  ·exact absurd (show(ix ord j).toNat=(ix ord k).toNat by rw[show j=k by omega]) e
def FX(n:Nat)(num:List Int)(pr:Nat→Nat→Prop)(ou:List Int)(i:Int):Prop:=∀b,b<n→b≠0→ix num b<i→∀p,pr p b→pdn ou p→An ou (ix ou b).toNat p
structure IR(n:Nat)(num:List Int)(pr:Nat→Nat→Prop)(ou0 ou:List Int)(ch:Bool)(k:Nat):Prop where
 is:IS n num pr ou ((k+1:Nat):Int)
 le:smI n num ou n≤smI n num ou0 n
 lt:ch=true→smI n num ou n<smI n num ou0 n
 fx:ch=false→FX n num pr ou ((k+1:Nat):Int)
theorem IR.beg{n:Nat}{num ou:List Int}{pr:Nat→Nat→Prop}(hg:GN n num pr)(h:IS n num pr ou 1):IR n num pr ou ou false 0 :=
 ⟨h,Nat.le_refl _,fun h=>(by cases h),fun _ b hb h0 h1=>absurd (hg.inj b 0 hb hg.n0 (by have:=(hg.rng b hb).1;rw[hg.zero];omega)) h0⟩
section
variable{n:Nat}{num ou0 ou:List Int}{pr:Nat→Nat→Prop}{ch:Bool}{k:Nat}{best:Int}{b:Nat}
theorem IR.set(hg:GN n num pr)(h:IR n num pr ou0 ou ch k)(hb:b<n)(hb0:b≠0)(hi:ix num b=((k+1:Nat):Int))(hB:BS ou (fun p=>pr p b) best)(hne:ix ou b≠best):IR n num pr ou0 (ou.set b best) true (k+1):=by
 obtain⟨h1,h2,h3,h4⟩:=h.is.step hg hb hb0 hi hB
 have h5:=h.is.less hg hb ⟨h1,h2⟩ hne h4
 have h6:=h.le
 exact⟨by rw[show((k+1+1:Nat):Int)=((k+1:Nat):Int)+1 by omega];exact h3,by omega,fun _=>by omega,fun h=>by cases h⟩
theorem IR.keep(hg:GN n num pr)(h:IR n num pr ou0 ou ch k)(hb:b<n)(hb0:b≠0)(hi:ix num b=((k+1:Nat):Int))(hB:BS ou (fun p=>pr p b) best)(he:ix ou b=best):IR n num pr ou0 ou ch (k+1):=by
 obtain⟨h1,h2,h3,h4⟩:=h.is.step hg hb hb0 hi hB
 have hl:b<ou.length:=by rw[h.is.tv.len];exact hb
 have e:ou.set b best=ou:=by rw[←he,Bp hl];exact List.set_getElem_self _
 rw[e] at h3
 refine⟨by rw[show((k+1+1:Nat):Int)=((k+1:Nat):Int)+1 by omega];exact h3,h.le,h.lt,fun hc c hc1 hc0 hcn p hp hpd=>?_⟩
 by_cases e9:c=b
 ·subst e9;rw[he];exact hB.an h1 p hp hpd
 ·exact h.fx hc c hc1 hc0 (by have:ix num c≠ix num b:=fun h9=>e9 (hg.inj c b hc1 hb h9);omega) p hp hpd
end
def Vt(g:List (List Int))(out:List Int):Prop:=out.length=g.length∧(∀a b:Nat,a<g.length→b<g.length→(a=b∨¬RB (prG g) a b)→Kx out a b=true)∧∀a b:Nat,a<g.length→b<g.length→Kx out a b=true→a=b∨¬RB (prG g) a b
theorem BE{out:List Int}{a:Nat}:∀(k:Nat) {b:Int},0≤b→Hg out a k b=true→An out a b.toNat
 | 0,_,_,h=>by cases h
 | k+1,b,hb,h=>by
  rw[Hg] at h
  split at h
  ·rename_i e;rw[←e,Int.toNat_natCast];exact .self _
  ·split at h
   ·rcases Int.lt_or_le (ix out b.toNat) 0 with h1|h1
    ·exfalso
     cases k with
     | zero=>cases h
     | succ k=>rw[Hg,if_neg (by omega),if_neg (by omega)] at h;cases h
    ·exact .up h1 (BE k h1 h)
   ·cases h
theorem SV{n:Nat}{num out:List Int}{pr:Nat→Nat→Prop}(hg:GN n num pr)(h:IS n num pr out (n:Int))(hf:FX n num pr out (n:Int)){x b:Nat}(hr:RB pr x b):¬An out x b:=by
 induction hr with
 | zero h0 =>
  intro h1
  cases h1 with
  | self=>exact h0 rfl
  | up h2 _=>have:=h.tv.root;omega
 | @step p t h1 h2 h3 ih =>
  intro h4
  cases h4 with
  | self=>exact h3 rfl
  | up h5 h6 =>
   obtain⟨hp,ht⟩:=hg.prn _ _ h2
   refine ih (h6.trans (hf t ht (fun e=>?_) (hg.rng t ht).2 p h2 (h.fp p hp (hg.rng p hp).2)))
   subst e;have:=h.tv.root;omega
theorem IS.dg{g:List (List Int)}{num out:List Int}(hg:GN g.length num (prG g))(h:IS g.length num (prG g) out (g.length:Int))(hf:FX g.length num (prG g) out (g.length:Int)):Vt g out:=by
 refine⟨h.tv.len,fun a b ha hb hd=>?_,fun a b ha hb hd=>?_⟩
 ·have h1:=h.dm b a hb (h.fp b hb (hg.rng b hb).2) hd
  have hl:=h.tv.len
  unfold Kx inR
  rw[if_pos ⟨by simp;omega,by simp;omega⟩]
  refine BD h.tv _ h1 hb ?_
  have:=hg.rng b hb
  have:=hg.rng a ha
  omega
 ·by_cases e:a=b
  ·exact .inl e
  refine .inr fun hr=>SV hg h hf hr ?_
  unfold Kx at hd
  split at hd
  ·have:=BE (a:=a) _ (b:=(b:Int)) (by omega) hd
   rwa[Int.toNat_natCast] at this
  ·cases hd
theorem IS.pd{n:Nat}{num out:List Int}{pr:Nat→Nat→Prop}{i:Int}(h:IS n num pr out i){x:Int}(hx:0≤x):pdn out x.toNat↔¬(x≠0∧ix out x.toNat<0):=by
 unfold pdn
 constructor
 ·rintro(h1|h1) ⟨h2,h3⟩<;>omega
 ·intro h1
  by_cases e:x=0
  ·exact .inl (by omega)
  ·exact .inr (by rcases Int.lt_or_le (ix out x.toNat) 0 with h2|h2;exact absurd ⟨e,h2⟩ h1;exact h2)
theorem Yv{n:Nat}{num out:List Int}{pr:Nat→Nat→Prop}(hg:GN n num pr)(hv:TV n num out){a b:Int}:∀(k:Nat) {a' b':Int},CO n num out a b a' b'→(ix num a'.toNat).toNat+(ix num b'.toNat).toNat<k→∃c,Ip out num k a' b'=c∧(0≤c∧c<n)∧pdn out c.toNat∧An out c.toNat a.toNat∧An out c.toNat b.toNat∧∀x,An out x a.toNat→An out x b.toNat→An out x c.toNat
 | 0,a',b',_,h=>absurd h (Nat.not_lt_zero _)
 | k+1,a',b',h,hk=>by
  rw[Ip]
  have ra:=h.ra
  have rb:=h.rb
  have na:=hg.rng a'.toNat (by omega)
  have nb:=hg.rng b'.toNat (by omega)
  split
  ·rename_i h1
   obtain⟨h2,h3⟩:=h.left hg hv h1
   have:=hg.rng (ix out a'.toNat).toNat (by have:=h2.ra;omega)
   exact Yv hg hv k h2 (by omega)
  ·split
   ·rename_i h1
    obtain⟨h2,h3⟩:=h.right hg hv h1
    have:=hg.rng (ix out b'.toNat).toNat (by have:=h2.rb;omega)
    exact Yv hg hv k h2 (by omega)
   ·exact⟨_,rfl,ra,h.pa,h.done hg (by omega)⟩
theorem RU{n:Nat}{num out:List Int}{pr:Nat→Nat→Prop}(hg:GN n num pr)(hv:TV n num out){a b:Int}(ha:0≤a∧a<n)(hb:0≤b∧b<n)(h1:pdn out a.toNat)(h2:pdn out b.toNat):(0≤Ky out num a b∧Ky out num a b<n)∧pdn out (Ky out num a b).toNat∧An out (Ky out num a b).toNat a.toNat∧An out (Ky out num a b).toNat b.toNat∧∀x,An out x a.toNat→An out x b.toNat→An out x (Ky out num a b).toNat:=by
 obtain⟨c,h3,h4⟩:=Yv hg hv _ (CO.beg ha hb h1 h2) (Nat.lt_succ_self _)
 unfold Ky
 rw[h3];exact h4
theorem QR{n k:Nat}{a b:Int}(hk:k<n):(List.replicate k a++List.replicate (n-k) b).set k a=List.replicate (k+1) a++List.replicate (n-(k+1)) b:=by
 obtain⟨j,hj⟩:∃j,n-k=j+1:=⟨n-k-1,by omega⟩
 rw[hj,show n-(k+1)=j by omega,List.replicate_succ (n:=j),List.set_append_right _ _ (by simp),List.length_replicate,Nat.sub_self,List.set_cons_zero,List.replicate_succ' (n:=k),List.append_assoc];rfl
section
variable{n:Nat}{num ou l:List Int}{pr:Nat→Nat→Prop}{i a best:Int}{j:Nat}
def S9(n:Nat)(ou l:List Int)(j:Nat)(best:Int):Prop:=j≤l.length∧BS ou (Pk l j) best∧-1≤best∧best<(n:Int)
theorem HA(hg:GN n num pr)(hs:IS n num pr ou i)(h:S9 n ou l j best)(ha:ix l j=a)(hr:0≤a∧a<n)(hj:j<l.length)(hc:ix num a.toNat<0∨¬a=0∧ix ou a.toNat<0):S9 n ou l (j+1) best:=by
 refine⟨by omega,h.2.1.skip hj (by omega) ?_,h.2.2⟩
 rw[ha]
 intro h1
 have h2:=(hs.pd hr.1).1 h1
 have h3:=(hg.rng a.toNat (by omega)).1
 rcases hc with h4|h4
 ·omega
 ·exact h2 h4
theorem Wu(hs:IS n num pr ou i)(hr:0≤a∧a<n)(hc:¬a=0→0≤ix ou a.toNat):pdn ou a.toNat:=(hs.pd hr.1).2 fun h=>by have:=hc h.1;omega
theorem HC(hs:IS n num pr ou i)(h:S9 n ou l j best)(ha:ix l j=a)(hr:0≤a∧a<n)(hj:j<l.length)(hc:¬a=0→0≤ix ou a.toNat)(hb:best<0):S9 n ou l (j+1) a:=by
 have h1:=h.2.1.first hb hj (by omega) (by rw[ha];exact Wu hs hr hc)
 rw[ha] at h1
 exact⟨by omega,h1,by omega,hr.2⟩
theorem HB(hg:GN n num pr)(hl:num.length=n)(hs:IS n num pr ou i)(h:S9 n ou l j best)(hr:0≤a∧a<n)(hc:¬a=0→0≤ix ou a.toNat)(hb:0≤best):DY ou num best a :=
 ⟨n,pr,hg,hl,hs.tv,CO.beg ⟨hb,h.2.2.2⟩ hr (h.2.1.pd hb) (Wu hs hr hc)⟩
theorem HD(hg:GN n num pr)(hs:IS n num pr ou i)(h:S9 n ou l j best)(ha:ix l j=a)(hr:0≤a∧a<n)(hj:j<l.length)(hc:¬a=0→0≤ix ou a.toNat)(hb:0≤best):S9 n ou l (j+1) (Ky ou num best a):=by
 have hp:=Wu hs hr hc
 obtain⟨h1,h2,h3⟩:=RU hg hs.tv ⟨hb,h.2.2.2⟩ hr (h.2.1.pd hb) hp
 exact⟨by omega,h.2.1.com hb hj (by omega) (by rw[ha];exact hp) h1.1 h2 (by rw[ha];exact h3),by omega,h1.2⟩
end
theorem S9.all{g:List (List Int)}{ou:List Int}{j b:Nat}{best:Int}(h:S9 g.length ou (ix (Cv g) b) j best)(hj:j=(ix (Cv g) b).length):BS ou (fun p=>prG g p b) best:=by
 subst hj;exact h.2.1.all (fun p=>M6)
theorem OT{l:List Int}{m k:Nat}:ix (l.drop m) k=ix l (m+k):=by simp[ix,List.getD]
theorem FX.end9{n:Nat}{num out:List Int}{pr:Nat→Nat→Prop}{k:Nat}(h:FX n num pr out ((k+1:Nat):Int))(e:k+1=n):FX n num pr out (n:Int):=by rw[←e] at h ⊢;exact h
theorem IS.end9{n:Nat}{num out:List Int}{pr:Nat→Nat→Prop}{k:Nat}(h:IS n num pr out ((k+1:Nat):Int))(e:k+1=n):IS n num pr out (n:Int):=by rw[←e] at h ⊢;exact h
end Go.Proofs.YtmfkkodnghambaaGreat
