/- Lemmas that the claim is made of. Conditions: each lemma names its own. -/
import Derived.Test.YtmfkkodnghambaaGreatKM5
import Derived.Test.YtmfkkodnghambaaGreatKM4
import Derived.Test.YtmfkkodnghambaaGreatKM3
set_option maxRecDepth 20000
set_option maxHeartbeats 4000000
set_option linter.unusedSectionVars false
set_option linter.unusedSimpArgs false
set_option linter.unusedVariables false
namespace Go.Proofs.YtmfkkodnghambaaGreat
open Go.JE
theorem D8:∀(l:List Int) (t:Int),t≤Iy l t∧∀x∈l,x<8192→x<Iy l t
 | [],t=>⟨Int.le_refl _,fun x h=>(by cases h)⟩
 | y::l,t=>by
  rw[Iy]
  have h:=D8 l (if t≤y∧y<8192 then y+1 else t)
  have h0:t≤if t≤y∧y<8192 then y+1 else t:=by split<;>omega
  refine⟨by omega,fun x hx h8=>?_⟩
  rcases List.mem_cons.1 hx with e|e
  ·subst e
   have:x<if t≤x∧x<8192 then x+1 else t:=by split<;>omega
   omega
  ·exact h.2 x e h8
theorem D6:∀(l:List D.Tg3) (t:Int),t≤Ld l t∧∀g∈l,∀x∈g.Makes,x<8192→x<Ld l t
 | [],t=>⟨Int.le_refl _,fun x h=>(by cases h)⟩
 | g::l,t=>by
  rw[Ld]
  have h:=D6 l (Iy g.Makes t)
  have h2:=D8 g.Makes t
  refine⟨by omega,fun z hz x hx h8=>?_⟩
  rcases List.mem_cons.1 hz with e|e
  ·subst e;have:=h2.2 x hx h8;omega
  ·exact h.2 z e x hx h8
def Ix(f:D.Func):Nat:=(max (Fb f) f.Params).toNat
theorem Xr{f:D.Func}(hG:GoodF f){b:Nat}{v:Int}(hb:b<f.Blocks.length)(h:v∈mkB (ix f.Blocks b)):0≤v∧v<Ix f:=by
 obtain⟨t,h1,h2⟩:∃t∈Ad f,v∈t.Makes:=by
  rcases Ew.1 h with⟨i,h1,h2⟩|⟨i,h1,h2⟩
  ·exact⟨_,Gf.2 (.phi hb h1),by simp[phT,h2]⟩
  ·exact⟨_,Gf.2 (.ins hb h1),h2⟩
 have h3:=hG.rng b hb v h
 have h4:=hG.par
 have h5:=(D6 (Ad f) (min (max f.Params 0) 8192)).2 t h1 v h2 (by omega)
 have h6:v<Fb f:=h5
 unfold Ix;omega
theorem Wa{f:D.Func}(hG:GoodF f){b:Nat}{v at':Int}(h:US f v b at'):0≤v∧v<Ix f:=by
 rcases h with h|⟨wb,wp,⟨h1,h2⟩,_⟩
 ·unfold Ix;omega
 ·refine Xr hG h1 ((Ew (x:=ix f.Blocks wb)).2 ?_)
  rcases h2 with⟨i,a,b,_⟩|⟨i,a,b,_⟩
  ·exact .inl ⟨i,a,b⟩
  ·exact .inr ⟨i,a,b⟩
theorem N9{rows:List (List Int)}{v:Nat}:∀k,(Ih rows k v).Nodup
 | 0=>List.nodup_nil
 | k+1=>by
  rw[Ih]
  refine List.nodup_append.2 ⟨N9 k,by split<;>simp,fun x hx y hy e=>?_⟩
  subst e
  obtain⟨j,h1,h2,_⟩:=Tp.1 hx
  split at hy
  ·simp at hy;omega
  ·cases hy
theorem PX{f:D.Func}(hG:GoodF f){b:Nat}(hb:b<f.Blocks.length){fr:Int}(h:∀p∈(ix f.Blocks b).Phis,fr∈p.In.map (fun x=>x.From)):C2 (Ix f) (ix f.Blocks b).Phis fr:=fun p hp=>by
 refine⟨⟨Xr hG hb ?_,fun x hx=>Wa hG (hG.up b hb p hp x hx),h p hp⟩,?_⟩
 ·obtain⟨i,hi,e⟩:=List.getElem_of_mem hp
  exact Ew.2 (.inl ⟨i,hi,by rw[Bp hi,e]⟩)
 ·rw[(hG.fr b hb p hp).2,Qx];exact N9 _
theorem QF{f:D.Func}(hG:GoodF f){b j:Nat}(hb:b<f.Blocks.length)(hj:j<(ix f.Blocks b).Ins.length):(∀a∈(ix (ix f.Blocks b).Ins j).Args,0≤a∧a<Ix f)∧∀r∈Ba (ix (ix f.Blocks b).Ins j),0≤r∧r<Ix f :=
 ⟨fun a ha=>Wa hG (hG.ui b hb j hj a ha),fun r hr=>Xr hG hb (Ew.2 (.inr ⟨j,hj,hr⟩))⟩
theorem PZ{f:D.Func}(hG:GoodF f){b:Nat}(hb:b<f.Blocks.length):∀a∈(ix f.Blocks b).Term.Args,0≤a∧a<Ix f:=fun a ha=>Wa hG (hG.ut b hb a ha)
theorem FC{vs:List Int}{k:Nat}{x:Int}(h:k<vs.length):Aq (vs.set k x)=Bl (Aq vs) k x:=by
 have:=Qo (vs:=vs) (k:=(k:Int)) (x:=x) (by omega)
 rwa[Int.toNat_natCast] at this
theorem SN{f:D.Func}{i:D.Input}{k:Nat}{vs:List Int}(hk:k<vs.length)(h1:(k:Int)<f.Params)(h2:k<i.Args.length)(h:Aq vs=Mz (Gy f i) k):Aq (vs.set k (ix i.Args k))=Mz (Gy f i) (k+1):=by
 rw[FC hk,h,Mz]
 have e:ix (Gy f i) k=ix i.Args k:=by
  unfold Gy
  rw[Bp (by rw[List.length_take];omega),Bp h2,List.getElem_take]
 rw[e]
theorem Nk{x st N:Int}(h:st<N):stE 0 st N=0∧stV 0 x st N=x∧stS 0 st N=st+1∧stB 0 st N=true:=by
 have h1:stE 0 st N=0:=by unfold stE;rw[if_neg (by omega)]
 refine⟨h1,by unfold stV;rw[if_neg (by omega)],by unfold stS;rw[if_pos h1],by unfold stB;simp[h1]⟩
theorem Ou{x st N:Int}(h:N≤st):stE 0 st N=3∧stV 0 x st N=0∧stS 0 st N=st∧stB 0 st N=false:=by
 have h1:stE 0 st N=3:=by unfold stE;rw[if_pos (by omega)]
 refine⟨h1,by unfold stV;rw[if_pos (by omega)],by unfold stS;rw[if_neg (by rw[h1];decide)],by unfold stB;simp[h1]⟩
theorem V4{N:Int}{l:List D.Ins}{j:Nat}{R:RSt×Bool}{V:Int→Int}{va st:Int}{me an:List Int}{cl:List D.Event}(h:R=Cy N (l.drop j) ⟨V,0,va,me,cl,st,an⟩)(hj:j<l.length)(h2:st<N) :
  R=Cy N (l.drop (j+1)) ⟨Ag (ix l j) V me an,Ab (ix l j) V me 0,Ac (ix l j) V me va,Ai (ix l j) V me,Ah (ix l j) V cl,st+1,Di (ix l j) an⟩:=by
 obtain⟨e1,e2,e3,e4⟩:=Nk (x:=va) h2
 have:=V5 h hj e4
 rwa[e1,e2,e3] at this
def Pz(f:D.Func)(i:D.Input)(n:Bool)(en x:Int)(me:List Int)(cl:List D.Event)(st:Int)(p:Prop):Prop:=(n=true∧En f i=⟨en,x,me,cl,st⟩)∨(n=false∧en=0∧p)
theorem Pz.out{f:D.Func}{i:D.Input}{n:Bool}{en x:Int}{me:List Int}{cl:List D.Event}{st:Int}{p:Prop}(h:Pz f i n en x me cl st p)(hn:n=true):En f i=⟨en,x,me,cl,st⟩:=(h.resolve_right (fun h9=>by rw[hn] at h9;cases h9.1)).2
theorem Pz.on{f:D.Func}{i:D.Input}{n:Bool}{en x:Int}{me:List Int}{cl:List D.Event}{st:Int}{p:Prop}(h:Pz f i n en x me cl st p)(hn:n=false):en=0∧p:=(h.resolve_left (fun h9=>by rw[hn] at h9;cases h9.1)).2
section
variable{f:D.Func}{i:D.Input}{fu:Nat}{ab fb:Int}{V V2:Int→Int}{x x2 st st2:Int}{me me2 an an2:List Int}{cl cl2:List D.Event}{j:Nat}
theorem HI(hrun:En f i=Jy (Fj f.Blocks i.Steps fu ab fb ⟨V,0,x,me,cl,st,an⟩))(hfu:0<fu)(h:Cy i.Steps (ix f.Blocks ab.toNat).Ins (Fy fb (ix f.Blocks ab.toNat).Phis ⟨V,0,x,me,cl,st,an⟩)=Cy i.Steps ((ix f.Blocks ab.toNat).Ins.drop j) ⟨V2,0,x2,me2,cl2,st2,an2⟩)
  (hj:j<(ix f.Blocks ab.toNat).Ins.length) (h2:i.Steps≤st2):En f i=⟨3,0,me2,cl2,st2⟩:=by
 obtain⟨e1,e2,e3,e4⟩:=Ou (x:=x2) h2
 have h3:=V3 h hj (show Fd i.Steps ⟨V2,0,x2,me2,cl2,st2,an2⟩=false from e4)
 rw[hrun,BX h3 hfu]
 unfold Es Jy;dsimp only;rw[e1,e2,e3]
theorem HG(hrun:En f i=Jy (Fj f.Blocks i.Steps fu ab fb ⟨V,0,x,me,cl,st,an⟩))(hfu:0<fu)(h:Cy i.Steps (ix f.Blocks ab.toNat).Ins (Fy fb (ix f.Blocks ab.toNat).Phis ⟨V,0,x,me,cl,st,an⟩)=Cy i.Steps ((ix f.Blocks ab.toNat).Ins.drop j) ⟨V2,0,x2,me2,cl2,st2,an2⟩)
  (hj:j<(ix f.Blocks ab.toNat).Ins.length) (h2:st2<i.Steps) (hz:Ae (ix (ix f.Blocks ab.toNat).Ins j) V2 me2≠0):En f i=⟨Ab (ix (ix f.Blocks ab.toNat).Ins j) V2 me2 0,Ac (ix (ix f.Blocks ab.toNat).Ins j) V2 me2 x2,Ai (ix (ix f.Blocks ab.toNat).Ins j) V2 me2,Ah (ix (ix f.Blocks ab.toNat).Ins j) V2 cl2,st2+1⟩:=by
 have h3:=V4 h hj h2
 rw[hrun,SI h3 (by show Ab _ _ _ _≠0;unfold Ab;rw[if_neg hz];decide) hfu];rfl
theorem HH(hrun:En f i=Jy (Fj f.Blocks i.Steps fu ab fb ⟨V,0,x,me,cl,st,an⟩))(hfu:0<fu)(h:Cy i.Steps (ix f.Blocks ab.toNat).Ins (Fy fb (ix f.Blocks ab.toNat).Phis ⟨V,0,x,me,cl,st,an⟩)=Cy i.Steps ((ix f.Blocks ab.toNat).Ins.drop j) ⟨V2,0,x2,me2,cl2,st2,an2⟩)
  (hj:(ix f.Blocks ab.toNat).Ins.length≤j) (h2:i.Steps≤st2):En f i=⟨3,0,me2,cl2,st2⟩:=by
 obtain⟨e1,e2,e3,e4⟩:=Ou (x:=x2) h2
 rw[hrun,BY (Pj h hj) (show Fd i.Steps ⟨V2,0,x2,me2,cl2,st2,an2⟩=false from e4) hfu]
 unfold Es Jy;dsimp only;rw[e1,e2,e3]
theorem HK(hrun:En f i=Jy (Fj f.Blocks i.Steps fu ab fb ⟨V,0,x,me,cl,st,an⟩))(hfu:0<fu)(h:Cy i.Steps (ix f.Blocks ab.toNat).Ins (Fy fb (ix f.Blocks ab.toNat).Phis ⟨V,0,x,me,cl,st,an⟩)=Cy i.Steps ((ix f.Blocks ab.toNat).Ins.drop j) ⟨V2,0,x2,me2,cl2,st2,an2⟩)
  (hj:(ix f.Blocks ab.toNat).Ins.length≤j) (h2:st2<i.Steps) (hz:¬Au (ix f.Blocks ab.toNat).Term 0=0):En f i=⟨Au (ix f.Blocks ab.toNat).Term 0,Bd (ix f.Blocks ab.toNat).Term V2 x2,me2,cl2,st2+1⟩:=by
 obtain⟨e1,e2,e3,e4⟩:=Nk (x:=x2) h2
 have e:Es i.Steps ⟨V2,0,x2,me2,cl2,st2,an2⟩=⟨V2,0,x2,me2,cl2,st2+1,an2⟩:=by unfold Es;dsimp only;rw[e1,e2,e3]
 rw[hrun,CA (Pj h hj) (show Fd i.Steps ⟨V2,0,x2,me2,cl2,st2,an2⟩=true from e4) (by rw[e];exact hz) hfu,e];rfl
theorem HJ(hrun:En f i=Jy (Fj f.Blocks i.Steps fu ab fb ⟨V,0,x,me,cl,st,an⟩))(hfu:0<fu)(h:Cy i.Steps (ix f.Blocks ab.toNat).Ins (Fy fb (ix f.Blocks ab.toNat).Phis ⟨V,0,x,me,cl,st,an⟩)=Cy i.Steps ((ix f.Blocks ab.toNat).Ins.drop j) ⟨V2,0,x2,me2,cl2,st2,an2⟩)
  (hj:(ix f.Blocks ab.toNat).Ins.length≤j) (h2:st2<i.Steps) (hz:Au (ix f.Blocks ab.toNat).Term 0=0):En f i=Jy (Fj f.Blocks i.Steps (fu-1) (As (ix f.Blocks ab.toNat).Term V2) ab ⟨V2,0,Bd (ix f.Blocks ab.toNat).Term V2 x2,me2,cl2,st2+1,an2⟩):=by
 obtain⟨e1,e2,e3,e4⟩:=Nk (x:=x2) h2
 have e:Es i.Steps ⟨V2,0,x2,me2,cl2,st2,an2⟩=⟨V2,0,x2,me2,cl2,st2+1,an2⟩:=by unfold Es;dsimp only;rw[e1,e2,e3]
 have e5:Iz (ix f.Blocks ab.toNat).Term ⟨V2,0,x2,me2,cl2,st2+1,an2⟩=⟨V2,0,Bd (ix f.Blocks ab.toNat).Term V2 x2,me2,cl2,st2+1,an2⟩:=by unfold Iz;dsimp only;rw[hz]
 rw[hrun,BZ (Pj h hj) (show Fd i.Steps ⟨V2,0,x2,me2,cl2,st2,an2⟩=true from e4) (by rw[e,e5]) hfu,e,e5]
end
theorem Y7{i:D.Ins}{V:Int→Int}{me:List Int}{va:Int}(h:Ae i V me=0):Ab i V me 0=0:=by unfold Ab;rw[if_pos h]
theorem LK(i:D.Ins)(na:Nat):nA i na≤na+1:=by unfold nA;split<;>omega
theorem E52:Ent Tryz.prog 52:=⟨_,Tryz.func52,by kernel_rfl,by kernel_rfl⟩
theorem E54:Ent Tryz.prog 54:=⟨_,Tryz.func54,by kernel_rfl,by kernel_rfl⟩
theorem E55:Ent Tryz.prog 55:=⟨_,Tryz.func55,by kernel_rfl,by kernel_rfl⟩
theorem E56:Ent Tryz.prog 56:=⟨_,Tryz.func56,by kernel_rfl,by kernel_rfl⟩
theorem E57:Ent Tryz.prog 57:=⟨_,Tryz.func57,by kernel_rfl,by kernel_rfl⟩
theorem E58:Ent Tryz.prog 58:=⟨_,Tryz.func58,by kernel_rfl,by kernel_rfl⟩
theorem HL{f:D.Func}{i:D.Input}{k:Nat}(h:(Gy f i).length≤k∧k≤(Gy f i).length):En f i=Jy (Fj f.Blocks i.Steps (Int.toNat i.Steps+1) 0 (-1) ⟨Mz (Gy f i) k,0,0,Kr i,[],0,i.Answers.drop 0⟩):=by
 rw[show k=(Gy f i).length by omega];rfl
theorem jrw{P:Program}{n:Fs}{w0:World}{ops:Array Oper}{Q:Exit→Act→World→Prop}{X:Cx}{D:List Dt}{L M:List Res}{e:Env}{rest:List Oper}{B E:Nat}{v:Value}{l:List Int}(hk:Tk L (gl B (rI .i32) E v l) M)(k:(∀j,IntKind.i32.wrap (Aq l j)=Aq l j)→LH P n w0 ops Q X D L e rest):LH P n w0 ops Q X D L e rest:=fun F H hp =>
 k (fun j=>by
  unfold Aq;split
  ·exact wgl (i:=j.toNat) hk (by omega) F H hp.hin hp.hd hp.ok
  ·rfl) F H hp
theorem SO(f:D.Func)(i:D.Input)(h:0≤f.Params):((Gy f i).length:Int)=min (i.Args.length:Int) f.Params:=by unfold Gy;rw[List.length_take];omega
theorem M3{a0:Value}{f:D.Func}{a1a a1b a1c:Value}{i:D.Input}(r:Bool)(hr:r=true↔GoodF f)(hN:i.Steps≤1000000):Ts Tryz.prog 24 #[vFunc f a0,vInput i (a1a,a1b,a1c)] [da Aj (vFunc f a0) f,da Br (vInput i (a1a,a1b,a1c)) i] [] Co vOutcome (Ml r f i):=by
 refine Az (args:=[vFunc f a0,vInput i (a1a,a1b,a1c)]) Tryz.func24 rfl rfl rfl fun w0 X=>?_
 have htr:=FG f
 refine jq (jr (Cm Z Z fun g2=>Cm Z Z fun g3=>Bo J37 Z fun g4=>jn (jx (jq (jq (jr (js (jla k2 A49 Z49 Z Z Z) (jcv E52 Z Z (JA r hr) (dc d0 dn) kn ?_))))))))
 refine js (Dq Z) (jn (jx ?_))
 refine jif Z (fun hc1=>?_) (fun hc1=>?_)
 refine jq (jr (js (jbu (v := .agg #[.int .i64 4,.int .i32 0,.slice none 0 0,.slice none 0 0,.int .i64 0]) Z (fun _=>by kernel_rfl)) (Bk k0 Z37 Z Z Z ⟨Z,Z,Z,Z,Z,trivial⟩ (saf Z) (jn (jx (jrt (jtr ?_)))))))
 exact Ku (val:=vOutcome) (b:=⟨4,0,[],[],0⟩) (c:=(.slice none 0 0,.slice none 0 0)) Z Z k0 A37 Z37 Z (K0 (by simpa using hc1)) (Co.M (m:=⟨4,0,[],[],0⟩) (c:=(.slice none 0 0,.slice none 0 0)) wN wN (wl 4) (wl 0) (wl 0))
 have hr1:r=true:=by simpa using hc1
 have hG:=hr.1 hr1
 have hpr:=hG.par
 have hln:=hG.len
 have hsz:Bw f.Blocks<1000000000:=by have h9:=hG.cnt;rw[Yx];omega
 have hal:=SO f i hpr.1
 have htn:(Ix f:Int)=max (Fb f) f.Params:=by unfold Ix;omega
 refine jsk (jx (jq (Bz false (.a 0 (.a 2 (.a 3 (.a 6 (.o 1 (.a 4 (.o 5 (.a 7 (.o 8 (.a 9 .e)))))))))) Bi (by kernel_rfl) (kc k1 (kc k1 kn)) fun F1=>jy Z (jla k1 A49 Z49 Z Z Z) (jy Z (jf Hu Z) (jy Z (jl k1 O3 Z Z) (jy Z (jla k0 A31 Z31 Z Z Z) (jyo Z (jcv E53 Z Z (IV hsz) (dc d1 dn) kn (jyn d0 (kc k1 (kc k1 kn)) (jy Z (Yb Z Z) ?_))))))))))
 refine jyo Z (jmk (m:=(Int.toNat (max (Fb f) f.Params))) (r:=(rI .i32)) U29 I21 Z Z Z (by omega) (by omega) (by omega) (wI (wp (by decide))) Z fun g22=>jyn d0 (kc k2 (kc k2 kn)) (adq (Br.c_Args d3) fun q4 w4=>adq (Br.c_Mem d3) fun q5 w5=>adq (Br.c_Answers d3) fun q6 w6=>jy Z (jbu (v := .agg #[(.slice (some ⟨g22,0,none⟩) (Int.toNat (max (Fb f) f.Params)) (Int.toNat (max (Fb f) f.Params))),.int .i64 0,.int .i32 0,.slice none 0 0,.slice none 0 0,.int .i64 0,a1a,a1b,a1c,.int .i64 i.Steps,.int .i64 0,.bool false]) Z (fun _=>by obtain⟨_,_,_,rfl⟩:=w4;obtain⟨_,_,_,rfl⟩:=w5;obtain⟨_,_,_,rfl⟩:=w6;kernel_rfl)) (jyo Z (Cm Z Z fun g25=>jyn d0 (kc k3 (kc k3 kn)) (jy Z (jas Z) (jyd ?_))))))
 refine jx (jq (jr (jm Z (js (jla k3 A31 Z31 Z Z Z) (jcg E54 Z Z II (dc d4 dn) kn fun v28 w8=>js (Ak Z) (js (jf Kg Z) (js (jf Nc Z) (jst k1 Z29 Z Z w8.one s3 (jn (jx ?_))))))))))
 refine jq (jq (jr (ja Z (jn (jx (jb ?_))))))
 refine jlp (u2 fun(k:Nat) (vs0:List Int)=>⟨k≤i.Args.length∧(k:Int)≤f.Params∧Aq vs0=Mz (Gy f i) k∧vs0.length=Ix f,[da Aj (vFunc f a0) f,da Br (vInput i (a1a,a1b,a1c)) i],[bx g25 122 [(.slice (some ⟨g22,0,none⟩) (Int.toNat (max (Fb f) f.Params)) (Int.toNat (max (Fb f) f.Params))),.int .i64 0,.int .i32 0,v28,.slice none 0 0,.int .i64 0,a1a,a1b,a1c,.int .i64 i.Steps,.int .i64 0,.bool false],gl X.n (rI .i32) 21 v28 (Kr i),gl X.n (rI .i32) 21 (.slice (some ⟨g22,0,none⟩) (Int.toNat (max (Fb f) f.Params)) (Int.toNat (max (Fb f) f.Params))) vs0,bx g4 37 [.int .i64 0,.int .i32 0,.slice none 0 0,.slice none 0 0,.int .i64 0],bx g3 31 [a1a,a1b,a1c,.int .i64 i.Steps],bx g2 49 [.int .i64 f.Params,a0]],[(2,.pointer (some ⟨g2,0,none⟩)),(3,.pointer (some ⟨g3,0,none⟩)),(4,.pointer (some ⟨g4,0,none⟩)),(5,.pointer (some ⟨g25,0,none⟩)),(6,.int .i64 (↑k))],i.Args.length-k⟩) (0,List.replicate (Int.toNat (max (Fb f) f.Params)) 0) ⟨Nat.zero_le _,by dsimp only;omega,by dsimp only;exact FD,by dsimp only;rw[List.length_replicate];rfl⟩ (dc d3 (dc d4 dn)) (kd (kd (kd kn))) ⟨Z,Z,Z,Z,eqI (by omega),trivial⟩ ?_
 rintro⟨k,vs0⟩;dsimp only[u2];rintro⟨hk,hkp,hvv,hvl0⟩
 refine jq (jq (jr (jm Z (js (jf Hu Z) (js (jl k5 O3 Z Z) (js (Ar Z Z) (jm Z (jg Z Z (.t _) (fun hg=>jmv Z) (jg Z Z (.t _) (fun hg=>jf Qg Z) (jg Z Z (.t _) (fun hg=>jl k4 O29 (evg Z hg) Z) (jg Z Z (.t _) (fun hg=>jln U29 (Br.c_Args d1) (evg Z hg)) ?_)))))))))))
 refine jg Z Z (.t _) (fun hg=>Ar (evg Z hg) (evg Z hg)) (js (Cf Z Z) (jn (jx ?_)))
 refine jif Z (fun hc2=>?_) (fun hc2=>?_)
 refine jsk (jx (jq (jb (jtl 11 Bi (by kernel_rfl) (jt (jmv Z) (jt (Ak Z) (jt (jf La Z) (jt (jl k0 O29 Z Z) (jt (jmv Z) (jt (jf Qg Z) (jt (jl k4 O29 Z Z) ?_)))))))))))
 refine jt (jmv Z) (jt (jix U29 Z21 (Br.c_Args d1) Z Z Z (by omega)) (jt (jlI (dix (Br.c_Args d1) k (by omega)) O21 Z) (jt (jig U29 Z21 k2 Z Z Z (by omega)) (jtt (jsg k2 Z Z21 Z Z Z (by omega) (wI (wad (dix (Br.c_Args d1) k (by omega)))) (jn (jbn (jx (jr (jm Z (js (Al Z Z (by omega)) ?_)))))))))))
 refine ja Z (jn ?_)
 exact jag (k+1,List.set vs0 k (ix i.Args k)) ⟨by dsimp only;omega,by dsimp only;omega,SN (by omega) (by omega) (by omega) hvv,by dsimp only;rw[List.length_set];exact hvl0⟩ (dc d0 (dc d1 dn)) (kc k1 (kc k1 (kd (kd kn)))) ⟨Z,Z,Z,Z,eqI (by omega),trivial⟩
 refine jex (jtx (jtx (jbh (jx (jq (jr (ja Z (jn (jx (jq (jr ?_)))))))))))
 refine ja Z (jn (jx (jq (jb (cnl (r:=Dr) (E:=74) ?_)))))
 refine jlp (u12 fun(fu:Nat) (ab:Int) (fb:Int) (vs1:List Int) (e1:Int) (x1:Int) (me1:List Int) (cl1:List D.Event) (st1:Int) (na1:Nat) (n1:Bool) (vc1:Value)=>⟨vs1.length=Ix f∧me1.length≤4096∧(0≤st1∧st1≤1000000)∧cl1.length≤st1∧(na1:Int)≤st1∧IntKind.i32.wrap x1=x1∧(0≤e1∧e1≤3)∧Pz f i n1 e1 x1 me1 cl1 st1 (0<fu∧En f i=Jy (Fj f.Blocks i.Steps fu ab fb ⟨Aq vs1,0,x1,me1,cl1,st1,i.Answers.drop na1⟩)∧(0≤ab∧ab<f.Blocks.length)∧(∀p∈(ix f.Blocks ab.toNat).Phis,fb∈p.In.map (fun x=>x.From))∧i.Steps-st1<fu),[da Aj (vFunc f a0) f,da Br (vInput i (a1a,a1b,a1c)) i],[gl X.n Dr 74 vc1 cl1,bx g25 122 [(.slice (some ⟨g22,0,none⟩) (Int.toNat (max (Fb f) f.Params)) (Int.toNat (max (Fb f) f.Params))),.int .i64 e1,.int .i32 x1,v28,vc1,.int .i64 st1,a1a,a1b,a1c,.int .i64 i.Steps,.int .i64 (↑na1),.bool n1],gl X.n (rI .i32) 21 v28 me1,gl X.n (rI .i32) 21 (.slice (some ⟨g22,0,none⟩) (Int.toNat (max (Fb f) f.Params)) (Int.toNat (max (Fb f) f.Params))) vs1,bx g4 37 [.int .i64 0,.int .i32 0,.slice none 0 0,.slice none 0 0,.int .i64 0],bx g2 49 [.int .i64 f.Params,a0]],[(2,.pointer (some ⟨g2,0,none⟩)),(4,.pointer (some ⟨g4,0,none⟩)),(5,.pointer (some ⟨g25,0,none⟩)),(7,.int .i64 fb),(8,.int .i64 ab)],fu⟩) (Int.toNat i.Steps+1,0,(-1),vs0,0,0,Kr i,[],0,0,false,.slice none 0 0) ⟨by dsimp only;exact hvl0,by dsimp only;exact T5 i,by dsimp only;omega,by dsimp only;simp,by dsimp only;omega,by dsimp only;decide,by dsimp only;omega,.inr ⟨rfl,rfl,by dsimp only;omega,by dsimp only;rw[hvv];exact HL (by omega),by dsimp only;omega,hG.phi0,by dsimp only;omega⟩⟩ (dc d0 (dc d1 dn)) (kd (kd (kc k0 (kc k1 kn)))) ⟨Z,Z,Z,Z,Z,trivial⟩ ?_
 rintro⟨fu,ab,fb,vs1,e1,x1,me1,cl1,st1,na1,n1,vc1⟩;dsimp only[u12];rintro⟨hvl1,hml1,hst1,hcl1,hna1,hx1,he1,hR1⟩
 refine cgo k0 fun w9=>jq (jq (jr (jm Z (js (Ak Z) (js (jf Vp Z) (js (jl k1 O4 Z Z) (js (Dq Z) (jn (jx ?_)))))))))
 refine jif Z (fun hc3=>?_) (fun hc3=>?_)
 have hn1f:n1=false:=by simpa using hc3
 obtain⟨he0,hfu,hrun,hab,hph,hfs⟩:=hR1.on hn1f
 subst hn1f;subst he0
 have hbb:Int.toNat ab<f.Blocks.length:=by omega
 have hv4:=PX hG hbb hph
 rw[←hvl1] at hv4
 refine jsk (jx (jb (jq (jr (js (jf Bu Z) (js (jl k5 O47 Z Z) (jm Z (jdq (Aj.cB d0) fun q10 w10=>js (jix (i:=ab.toNat) U47 Z62 (Aj.cB d0) Z Z (by omega) (by omega)) (jA4 Le (jlA (dix (Aj.cB d0) ab.toNat (by omega)) A62 Z62 Z) fun c65a c65b c65c c65d=>Bo J62 Z fun g9=>?_)))))))))
 refine jdq (Af.cP d0) fun q12 w12=>jdq (Af.cI d0) fun q13 w13=>jdq (Af.c_Term_Args d0) fun q14 w14=>jdq (Af.c_Term_To d0) fun q15 w15=>Bk k0 Z62 Z Z Z ⟨w12.one,w13.one,Z,w14.one,w15.one,Z,trivial⟩ (saf Z) (jn (jx (jq (jr (jm Z (js (jf Dy Z) (js (jl k0 O57 Z Z) ?_)))))))
 refine jm Z (jc E55 Z Z (IQ _ w8.one w9.one w4.one w5.one w6.one hv4) (dc (Af.cP d0) dn) (kc k2 (kc k3 kn)) (fun _=>p0) (fun _=>p2) fun _=>jn (jx (jq (jq (jr (ja Z (jn (jx (jb ?_)))))))))
 refine jlp (u10 fun(j:Nat) (vs2:List Int) (e2:Int) (x2:Int) (me2:List Int) (cl2:List D.Event) (st2:Int) (na2:Nat) (n2:Bool) (vc2:Value)=>⟨j≤(ix f.Blocks ab.toNat).Ins.length∧st1≤st2∧vs2.length=Ix f∧me2.length≤4096∧(0≤st2∧st2≤1000000)∧cl2.length≤st2∧(na2:Int)≤st2∧IntKind.i32.wrap x2=x2∧(0≤e2∧e2≤3)∧Pz f i n2 e2 x2 me2 cl2 st2 (Cy i.Steps (ix f.Blocks ab.toNat).Ins (Fy fb (ix f.Blocks ab.toNat).Phis ⟨Aq vs1,0,x1,me1,cl1,st1,i.Answers.drop na1⟩)=Cy i.Steps ((ix f.Blocks ab.toNat).Ins.drop j) ⟨Aq vs2,0,x2,me2,cl2,st2,i.Answers.drop na2⟩),[da Af (vBlock (ix f.Blocks ab.toNat) (c65a,c65b,c65c,c65d)) (ix f.Blocks ab.toNat),da Aj (vFunc f a0) f,da Br (vInput i (a1a,a1b,a1c)) i],[bx g25 122 [(.slice (some ⟨g22,0,none⟩) (Int.toNat (max (Fb f) f.Params)) (Int.toNat (max (Fb f) f.Params))),.int .i64 e2,.int .i32 x2,v28,vc2,.int .i64 st2,a1a,a1b,a1c,.int .i64 i.Steps,.int .i64 (↑na2),.bool n2],gl X.n (rI .i32) 21 (.slice (some ⟨g22,0,none⟩) (Int.toNat (max (Fb f) f.Params)) (Int.toNat (max (Fb f) f.Params))) vs2,bx g9 62 [c65a,c65b,.int .i64 (((ix f.Blocks ab.toNat).Term).Kind),c65c,c65d,.int .i32 (((ix f.Blocks ab.toNat).Term).Imm)],gl X.n Dr 74 vc2 cl2,gl X.n (rI .i32) 21 v28 me2,bx g4 37 [.int .i64 0,.int .i32 0,.slice none 0 0,.slice none 0 0,.int .i64 0],bx g2 49 [.int .i64 f.Params,a0]],[(2,.pointer (some ⟨g2,0,none⟩)),(4,.pointer (some ⟨g4,0,none⟩)),(5,.pointer (some ⟨g25,0,none⟩)),(7,.int .i64 fb),(8,.int .i64 ab),(9,.pointer (some ⟨g9,0,none⟩)),(10,.int .i64 (↑j))],(ix f.Blocks ab.toNat).Ins.length-j⟩) (0,Mp ((ix f.Blocks ab.toNat).Phis) fb vs1,0,x1,me1,cl1,st1,na1,false,vc1) ⟨Nat.zero_le _,by dsimp only;omega,by dsimp only;rw[JW];exact hvl1,hml1,hst1,hcl1,hna1,hx1,by dsimp only;omega,.inr ⟨rfl,rfl,by dsimp only;rw[FE (fun p hp=>(hv4 p hp).1)];rfl⟩⟩ (dc d0 (dc d1 (dc d2 dn))) (kd (kd (kd (kc k0 kn)))) ⟨Z,Z,Z,Z,Z,Z,eqI (by omega),trivial⟩ ?_
 rintro⟨j,vs2,e2,x2,me2,cl2,st2,na2,n2,vc2⟩;dsimp only[u10];rintro⟨hj,hs12,hvl2,hml2,hst2,hcl2,hna2,hx2,he2,hR2⟩
 refine cgo k3 fun w16=>jq (jq (jr (jm Z (js (jf Cn Z) (js (jl k2 O58 Z Z) (js (jln U58 (Af.cI d0) Z) (js (Ar Z Z) (jm Z (jg Z Z (.t _) (fun hg=>jmv Z) (jg Z Z (.t _) (fun hg=>Ak (evg Z hg)) ?_))))))))))
 refine jg Z Z (.t _) (fun hg=>jf Vp (evg Z hg)) (jg Z Z (.t _) (fun hg=>jl k0 O4 (evg Z hg) Z) (jg Z Z (.t _) (fun hg=>Dq (evg Z hg)) (js (Cf Z Z) (jn (jx ?_)))))
 refine jif Z (fun hc4=>?_) (fun hc4=>?_)
 have hn2f:n2=false:=by have h9:=hc4;(try simp at h9);exact h9.2
 obtain⟨he0,hlis⟩:=hR2.on hn2f
 subst hn2f;subst he0
 have ha4:=QF hG hbb (j:=j) (by omega)
 rw[←hvl2] at ha4
 refine jsk (jx (jq (jb (jq (jr (jm Z (jc E56 Z Z (M2 Z w8.one w16.one w4.one w5.one w6.one (by omega)) dn (kc k0 kn) (fun _=>p0) (fun _=>p1) fun _=>ja Z (jn (jx (jq ?_))))))))))
 refine jr (jm Z (jn (jx ?_)))
 refine jif Z (fun hc5=>?_) (fun hc5=>?_)
 have hst9:st2<i.Steps:=by rcases Int.lt_or_le st2 i.Steps with h|h;(· exact h);(· have h9:=(Ou (x:=x2) h).2.2.2;simp_all)
 obtain⟨sE9,sV9,sS9,sB9⟩:=Nk (x:=x2) hst9
 rw[sE9,sV9,sS9,sB9]
 simp only[Bool.not_true]
 refine jr (jm Z (js (jf Cn Z) (js (jl k2 O58 Z Z) (jm Z (js (jix U58 Z67 (Af.cI d0) Z Z Z (by omega)) (jA Mb (jlA (dix (Af.cI d0) j (by omega)) A67 Z67 Z) fun c93=>jc E57 Z Z (IT (i:=(ix ((ix f.Blocks ab.toNat).Ins) j)) w4.one w5.one (hG.op _ hbb _ (Ax (l:=(ix f.Blocks ab.toNat).Ins) (i:=j) (by omega))) ha4.1 ha4.2 (by omega) (by omega) (by omega)) (dc (Br.c_Answers d3) (dc d0 dn)) (kd (kc k2 (kc k1 kn))) (fun _=>p1) (fun _=>p4) fun c94=>jgo k3 fun w19=>jn (jbn (jx ?_))))))))
 refine jr (jm Z (js (Al Z Z (by omega)) (ja Z (jn ?_))))
 exact jag (j+1,c94.1.2,Ab (ix ((ix f.Blocks ab.toNat).Ins) j) (Aq vs2) me2 0,Ac (ix ((ix f.Blocks ab.toNat).Ins) j) (Aq vs2) me2 x2,Ai (ix ((ix f.Blocks ab.toNat).Ins) j) (Aq vs2) me2,Ah (ix ((ix f.Blocks ab.toNat).Ins) j) (Aq vs2) cl2,st2+1,(nA (ix ((ix f.Blocks ab.toNat).Ins) j) na2),!decide (Ae (ix ((ix f.Blocks ab.toNat).Ins) j) (Aq vs2) me2=0),c94.1.1) ⟨by dsimp only;omega,by dsimp only;omega,by dsimp only;rw[c94.2.1];exact hvl2,by dsimp only;rw[Y8];exact hml2,by dsimp only;omega,by have h9:=Z0 (ix (ix f.Blocks ab.toNat).Ins j) (Aq vs2) cl2;dsimp only;omega,by have h9:=LK (ix (ix f.Blocks ab.toNat).Ins j) na2;dsimp only;omega,by dsimp only;exact Y6 hx2,by dsimp only;exact Y9 (by omega),by dsimp only;(by_cases hz:Ae (ix (ix f.Blocks ab.toNat).Ins j) (Aq vs2) me2=0;(· exact .inr ⟨by simp[hz],Y7 (va:=0) hz,by have h9:=V4 hlis (by omega) (by omega);rw[Y7 (va:=0) hz,OU,←c94.2.2 hz] at h9;exact h9⟩);(· exact .inl ⟨by simp[hz],HG hrun hfu hlis (by omega) (by omega) hz⟩))⟩ (dc d2 (dc d3 (dc d4 dn))) (kd (kc k2 (kc k1 (kd (kc k0 kn))))) ⟨Z,Z,Z,Z,Z,Z,eqI (by omega),trivial⟩
 have hst9:i.Steps≤st2:=by rcases Int.lt_or_le st2 i.Steps with h|h;(· have h9:=(Nk (x:=x2) h).2.2.2;simp_all);(· exact h)
 obtain⟨sE9,sV9,sS9,sB9⟩:=Ou (x:=x2) hst9
 rw[sE9,sV9,sS9,sB9]
 simp only[Bool.not_false]
 refine jsk (jbn (jx (jr (jm Z (js (Al Z Z (by omega)) (ja Z (jn ?_)))))))
 exact jag (j+1,vs2,3,0,me2,cl2,st2,na2,true,vc2) ⟨by dsimp only;omega,by dsimp only;omega,hvl2,hml2,hst2,hcl2,hna2,by dsimp only;decide,by dsimp only;omega,.inl ⟨rfl,HI hrun hfu hlis (by omega) (by omega)⟩⟩ (dc d0 (dc d1 (dc d2 dn))) (kd (kd (kd (kc k0 kn)))) ⟨Z,Z,Z,Z,Z,Z,eqI (by omega),trivial⟩
 refine jex (jtx (jtx (jbh (jx (jq (jq (jr (jm Z (js (Ak Z) (js (jf Vp Z) (js (jl k0 O4 Z Z) ?_)))))))))))
 refine jn (jx ?_)
 refine jif Z (fun hc6=>?_) (fun hc6=>?_)
 refine jex (jtx (jbo (jtx (jbh (jx (jq (jr (jm Z (js (Ak Z) (js (jf Kg Z) (js (jla k0 A37 Z37 Z Z Z) ?_)))))))))))
 refine Bk k5 Z37 Z Z Z ⟨Z,Z,w8.one,w16.one,Z,trivial⟩ (saf Z) (jn (jx (jrt (qfz k5 (by omega) (qfz k4 (by omega) ?_)))))
 exact Ku (val:=vOutcome) (b:=⟨e2,x2,me2,cl2,st2⟩) (c:=(v28,vc2)) Z Z k0 A37 Z37 Z (by rw[Qt hr1];exact hR2.out (by simpa using hc6)) (Co.M (m:=⟨e2,x2,me2,cl2,st2⟩) (c:=(v28,vc2)) d1 d0 (wp (IntWalk.i64_in e2 (by omega))) (wp hx2) (wp (IntWalk.i64_in st2 (by omega))))
 have hn2f:n2=false:=by simpa using hc6
 obtain⟨he0,hlis⟩:=hR2.on hn2f
 subst hn2f;subst he0
 have hje:(ix f.Blocks ab.toNat).Ins.length≤j:=by have h9:=hc4;(try simp at h9);omega
 have ht4:=PZ hG hbb
 rw[←hvl2] at ht4
 refine jsk (jx (jq (jr (jm Z (jc E56 Z Z (M2 Z w8.one w16.one w4.one w5.one w6.one (by omega)) dn (kc k0 kn) (fun _=>p0) (fun _=>p1) fun _=>ja Z (jn (jx (jq (jr (jm Z ?_))))))))))
 refine jn (jx ?_)
 refine jif Z (fun hc7=>?_) (fun hc7=>?_)
 have hst9:st2<i.Steps:=by rcases Int.lt_or_le st2 i.Steps with h|h;(· exact h);(· have h9:=(Ou (x:=x2) h).2.2.2;simp_all)
 obtain⟨sE9,sV9,sS9,sB9⟩:=Nk (x:=x2) hst9
 rw[sE9,sV9,sS9,sB9]
 simp only[Bool.not_true]
 refine jq (jr (jm Z (ja Z (jn (jx (jr (jm Z (js (jf Eh Z) (js (jla k2 A60 Z60 Z Z Z) (jwr (Af.W_Term_Imm d0) fun w22=>jc E58 Z Z (IP (t:=((ix f.Blocks ab.toNat).Term)) w8.one w16.one w4.one w5.one w6.one (hG.tm _ hbb) ht4) (dc (Af.P_Term d0) dn) (kd kn) (fun _=>p0) (fun _=>p2) fun _=>?_))))))))))
 refine jrw k1 fun hvw23=>ja Z (jn (jbn ?_))
 exact jag (if Au (ix f.Blocks ab.toNat).Term 0=0 then fu-1 else 0,As ((ix f.Blocks ab.toNat).Term) (Aq vs2),ab,vs2,Au ((ix f.Blocks ab.toNat).Term) 0,Bd ((ix f.Blocks ab.toNat).Term) (Aq vs2) x2,me2,cl2,st2+1,na2,!decide (Au ((ix f.Blocks ab.toNat).Term) 0=0),vc2) ⟨hvl2,hml2,by dsimp only;omega,by dsimp only;omega,by dsimp only;omega,by dsimp only;exact Sk hx2 hvw23 w22,by dsimp only;exact G1 (by omega),by dsimp only;(by_cases hz:Au (ix f.Blocks ab.toNat).Term 0=0;(· have htm:=hG.tm _ hbb;have htr:=hG.to _ hbb _ (Sj (V:=Aq vs2) htm hz);exact .inr ⟨by simp[hz],hz,by rw[if_pos hz];omega,by rw[if_pos hz];exact HJ hrun hfu hlis (by omega) (by omega) hz,by omega,(by have h9:=hG.phi_from hbb (Sj (V:=Aq vs2) htm hz);rwa[Int.toNat_of_nonneg hab.1] at h9),by rw[if_pos hz];omega⟩);(· exact .inl ⟨by simp[hz],HK hrun hfu hlis (by omega) (by omega) hz⟩))⟩ (dc d1 (dc d2 dn)) (kc k3 (kc k0 (kc k2 (kc k0 (kc k1 (kc k1 kn)))))) ⟨Z,Z,Z,Z,Z,trivial⟩ (by dsimp only[u12];(try split)<;>omega)
 have hst9:i.Steps≤st2:=by rcases Int.lt_or_le st2 i.Steps with h|h;(· have h9:=(Nk (x:=x2) h).2.2.2;simp_all);(· exact h)
 obtain⟨sE9,sV9,sS9,sB9⟩:=Ou (x:=x2) hst9
 rw[sE9,sV9,sS9,sB9]
 simp only[Bool.not_false]
 refine jsk (jbn ?_)
 exact jag (0,ab,fb,vs2,3,0,me2,cl2,st2,na2,true,vc2) ⟨hvl2,hml2,hst2,hcl2,hna2,by dsimp only;decide,by dsimp only;omega,.inl ⟨rfl,HH hrun hfu hlis (by omega) (by omega)⟩⟩ (dc d1 (dc d2 dn)) (kc k3 (kc k0 (kc k2 (kc k0 (kc k1 (kc k1 kn)))))) ⟨Z,Z,Z,Z,Z,trivial⟩ (by dsimp only[u12];(try split)<;>omega)
 refine jex (jtx (jtx (jbh (jx (jq (jr (jm Z (js (Ak Z) (js (jf Kg Z) (js (jla k1 A37 Z37 Z Z Z) (Bk k4 Z37 Z Z Z ⟨Z,Z,w8.one,w9.one,Z,trivial⟩ (saf Z) ?_)))))))))))
 refine jn (jx (jrt (qfz k3 (by omega) (qfz k1 (by omega) ?_))))
 exact Ku (val:=vOutcome) (b:=⟨e1,x1,me1,cl1,st1⟩) (c:=(v28,vc1)) Z Z k0 A37 Z37 Z (by rw[Qt hr1];exact hR1.out (by simpa using hc3)) (Co.M (m:=⟨e1,x1,me1,cl1,st1⟩) (c:=(v28,vc1)) d1 d0 (wp (IntWalk.i64_in e1 (by omega))) (wp hx1) (wp (IntWalk.i64_in st1 (by omega))))
end Go.Proofs.YtmfkkodnghambaaGreat
namespace Go.Proofs.YtmfkkodnghambaaGreat
open Go.JE
abbrev DF:=@Tryz.underlying173
theorem T3{P:Int→Prop}{l:List Int}{k:Nat}(hk:k<l.length)(h:∀n∈l.take k,P n)(h2:P (ix l k)):∀n∈l.take (k+1),P n:=fun n hn=>by
 rw[Ej hk,List.mem_append] at hn
 rcases hn with h3|h3
 ·exact h n h3
 ·simp at h3;subst h3;exact h2
theorem LC{l:List Int}{k:Nat}(hk:k<l.length)(h:(l.take k).Nodup)(h2:ix l k∉l.take k):(l.take (k+1)).Nodup:=by
 rw[Ej hk,List.nodup_append]
 exact⟨h,by simp,fun x hx y hy e=>by simp at hy;subst hy;subst e;exact h2 hx⟩
theorem OY{b p:Int}{l:List Int}{L:List (Int×Value)}{n:Int}(h:lkM (insA b p l L) n=none):n∉l∧lkM L n=none:=by
 rw[Lk] at h
 split at h
 ·cases h
 ·rename_i h1;exact⟨h1,h⟩
def Tch(c:Chn):Prop:=∃e b p:Int,e≠0∧c=[{ v := .iface 173 (.agg #[.int .i64 e,.int .i64 b,.int .i64 p]),recovered:=false }]
theorem Jz(ok:Bool)(er:Int)(b:Int)(p:Int)(he:er≠0):Trx Tryz.prog 113 #[.bool ok,.int .i64 er,.int .i64 b,.int .i64 p] [] [] (fun _:PLift (ok=true) => .tuple #[]) (fun _=>[]) (fun _ _=>[]) (fun c=>ok=false∧Tch c):=by
 refine Ni (args:=[.bool ok,.int .i64 er,.int .i64 b,.int .i64 p]) Tryz.func113 rfl rfl rfl fun w0 X=>?_
 refine jq (jr (jm Z (js (Dq Z) (jn (jx ?_)))))
 refine jif Z (fun hc1=>?_) (fun hc1=>?_)
 exact jr (jm Z (jm Z (jm Z (js (jbu (v := .agg #[.int .i64 er,.int .i64 b,.int .i64 p]) Z (fun _=>by kernel_rfl)) (js (NI DF rfl Z) (NF Z (B7 ⟨by simpa using hc1,er,b,p,he,rfl⟩)))))))
 refine jsk ?_
 exact Nh (jd0 Z ⟨by simpa using hc1⟩ Z dn (fun _ _=>kn))
theorem MX{g0 gm:Nat}{cf:Value}{f:D.Func}{L:List (Int×Value)}(n:Int)(b:Int)(p:Int):Trx Tryz.prog 179 #[.pointer (some ⟨g0,0,none⟩),.int .i64 n,.int .i64 b,.int .i64 p] [da Aj (vFunc f cf) f] [bx g0 179 [.int .i64 f.Params,cf,.map (some gm)],im gm L] (fun _:PLift (Ge n f.Params 8191=true) => .tuple #[]) (fun _=>[]) (fun _ _=>[bx g0 179 [.int .i64 f.Params,cf,.map (some gm)],im gm L]) (fun c=>Ge n f.Params 8191=false∧Tch c):=by
 refine Ni (args:=[.pointer (some ⟨g0,0,none⟩),.int .i64 n,.int .i64 b,.int .i64 p]) Tryz.func179 rfl rfl rfl fun w0 X=>?_
 refine jr (jm Z (jm Z (js (Ak Z) (js (jf Nf Z) (js (jf Hu Z) (js (jl k0 O3 Z Z) (jcv Oh Z Z (Nj n f.Params 8191) dn kn (jm Z (jm Z (jcy Kh Z Z (Jz _ _ _ _ (by decide)) dn kn (fun _=>p0) (fun _=>p0) (fun c hc=>⟨hc.1,hc.2⟩) fun hm17=>jn ?_))))))))))
 exact Nh (jd0 Z ⟨hm17.down⟩ Z dn (fun _ _=>(kd kn)))
theorem MV{g0 gm:Nat}{cf:Value}{f:D.Func}{L:List (Int×Value)}(n:Int)(b:Int)(p:Int)(hwv:WV L):Trx Tryz.prog 180 #[.pointer (some ⟨g0,0,none⟩),.int .i64 n,.int .i64 b,.int .i64 p] [da Aj (vFunc f cf) f] [bx g0 179 [.int .i64 f.Params,cf,.map (some gm)],im gm L] (fun _:PLift (lkM L n=none) => .tuple #[]) (fun _=>[]) (fun _ _=>[bx g0 179 [.int .i64 f.Params,cf,.map (some gm)],im gm (upM L n (wv b p))]) (fun c=>lkM L n≠none∧Tch c):=by
 refine Ni (args:=[.pointer (some ⟨g0,0,none⟩),.int .i64 n,.int .i64 b,.int .i64 p]) Tryz.func180 rfl rfl rfl fun w0 X=>?_
 obtain⟨zb,zp,hz9⟩:=hwv.get n
 refine jq (jr (jm Z (js (Ak Z) (js (jf Zv Z) (js (jl k0 Zo Z Z) (jm Z (js (Re Zm U3 Vi k1 Z Z hz9) (jm Z (js (Bs Z Z) (js (Bs Z Z) (Bo Vi Z fun g8=>?_)))))))))))
 refine Bk k0 DB Z Z Z ⟨Z,Z,trivial⟩ (saf Z) (ja Z (jn (jx (jq (jr (jm Z (js (Dq Z) (jm Z (jm Z (jcy Kh Z Z (Jz _ _ _ _ (by decide)) dn kn (fun _=>p0) (fun _=>p0) (fun c hc=>⟨(by have h9:=hc.1;intro h8;rw[h8] at h9;simp at h9),hc.2⟩) fun hm23=>jn ?_))))))))))
 refine jx (jr (jm Z (js (Ak Z) (js (jf Zv Z) (js (jl k1 Zo Z Z) (jm Z (jm Z (jm Z (js (jbu (v := .agg #[.int .i64 b,.int .i64 p]) Z (fun _=>by kernel_rfl)) (jup Zm U3 k2 Z Z Z Z (jn ?_)))))))))))
 exact Nh (jd0 Z ⟨by have h9:=hm23.down;cases h8:lkM L n with
  | none=>rfl
  | some v=>rw[h8] at h9;cases h9⟩ Z dn (fun _ _=>(kc k2 (kc k0 kn))))
theorem W6{g0 gm:Nat}{cf:Value}{f:D.Func}{L:List (Int×Value)}{a1:Value}{l:List Int}(b:Int)(p:Int)(hwv:WV L):Trx Tryz.prog 161 #[.pointer (some ⟨g0,0,none⟩),a1,.int .i64 b,.int .i64 p] [da Aj (vFunc f cf) f,dv (rL (rI .i64)) a1 l] [bx g0 179 [.int .i64 f.Params,cf,.map (some gm)],im gm L] (fun _:PLift (Ql f.Params L l) => .tuple #[]) (fun _=>[]) (fun _ _=>[bx g0 179 [.int .i64 f.Params,cf,.map (some gm)],im gm (insA b p l L)]) (fun c=>¬Ql f.Params L l∧Tch c):=by
 refine Ni (args:=[.pointer (some ⟨g0,0,none⟩),a1,.int .i64 b,.int .i64 p]) Tryz.func161 rfl rfl rfl fun w0 X=>?_
 refine jq (jq (jr (jm Z (jdq d1 fun q1 w1=>js (jln U22 d1 Z) (jm Z (jn (jx (jb ?_))))))))
 refine jlp (fun(k:Nat)=>⟨k≤l.length∧∀n∈l.take k,Ge n f.Params 8191=true,[da Aj (vFunc f cf) f,dv (rL (rI .i64)) a1 l],[bx g0 179 [.int .i64 f.Params,cf,.map (some gm)],im gm L],[(0,.pointer (some ⟨g0,0,none⟩)),(1,a1),(2,.int .i64 b),(3,.int .i64 p),(12,a1),(13,.int .i64 (↑l.length)),(14,.int .i64 (↑k))],l.length-k⟩) 0 ⟨Nat.zero_le _,(fun n h=>by cases h)⟩ (dc d0 (dc d1 dn)) (kd kn) ⟨Z,Z,Z,Z,Z,Z,eqI (by omega),trivial⟩ ?_
 rintro k;dsimp only;rintro⟨hk,hw9⟩
 refine jq (jr (js (Ar Z Z) (jn (jx (jq ?_)))))
 refine jif Z (fun hc1=>?_) (fun hc1=>?_)
 refine jsk (jx (jq (jb (jq (jr (js (jix U22 Z3 d1 Z Z Z (by omega)) (js (jlI (dix d1 k (by omega)) O3 Z) (ja Z (jn (jx (jr ?_)))))))))))
 refine jm Z (jm Z (jm Z (jm Z (jcy UH Z Z (MX (f:=f) _ _ _) (dc d0 dn) (kd kn) (fun _=>p0) (fun _=>p2) (fun c hc=>⟨(fun h9=>absurd (h9.1 _ (Ax (l:=l) (i:=k) (by omega))) (by rw[hc.1];decide)),hc.2⟩) fun hm22=>jn (jbn (jx (jr (js (Al Z Z (by omega)) (jm Z (jn ?_))))))))))
 exact jag (k+1) ⟨by omega,T3 (by omega) hw9 hm22.down⟩ (dc d0 (dc d1 dn)) (kd kn) ⟨Z,Z,Z,Z,Z,Z,eqI (by omega),trivial⟩
 refine jex (jtx (jtx (jbh (jx (jq (jr (jm Z (js (jln U22 d1 Z) (jm Z (jn (jx ?_)))))))))))
 refine jb ?_
 refine jlp (u2 fun(k:Nat) (L2:List (Int×Value))=>⟨k≤l.length∧L2=insA b p (l.take k) L∧(l.take k).Nodup∧∀n∈l.take k,lkM L n=none,[da Aj (vFunc f cf) f,dv (rL (rI .i64)) a1 l],[bx g0 179 [.int .i64 f.Params,cf,.map (some gm)],im gm L2],[(0,.pointer (some ⟨g0,0,none⟩)),(2,.int .i64 b),(3,.int .i64 p),(24,a1),(25,.int .i64 (↑l.length)),(26,.int .i64 (↑k))],l.length-k⟩) (0,L) ⟨by dsimp only;omega,rfl,List.nodup_nil,(fun n h=>by cases h)⟩ (dc d0 (dc d1 dn)) (kd kn) ⟨Z,Z,Z,Z,Z,eqI (by omega),trivial⟩ ?_
 rintro⟨k,L2⟩;dsimp only[u2];rintro⟨hk,hL2,hnd,hno⟩
 have hm9:k<l.length→lkM L2 (ix l k)=none→ix l k∉l.take k∧lkM L (ix l k)=none:=fun h8 h9=>by rw[hL2] at h9;exact OY h9
 refine jq (jr (js (Ar Z Z) (jn (jx (jq ?_)))))
 refine jif Z (fun hc2=>?_) (fun hc2=>?_)
 refine jsk (jx (jq (jb (jq (jr (js (jix U22 Z3 d1 Z Z Z (by omega)) (js (jlI (dix d1 k (by omega)) O3 Z) (ja Z (jn (jx (jr ?_)))))))))))
 refine jm Z (jm Z (jm Z (jm Z (jcy UF Z Z (MV (f:=f) _ _ _ (by rw[hL2];exact hwv.insA)) (dc d0 dn) (kd kn) (fun _=>p0) (fun _=>p2) (fun c hc=>⟨(fun h9=>hc.1 (by rw[hL2];exact OZ (by omega) h9.2.1 h9.2.2)),hc.2⟩) fun hm34=>jn (jbn (jx (jr (js (Al Z Z (by omega)) (jm Z (jn ?_))))))))))
 exact jag (k+1,upM L2 (ix l k) (wv b p)) ⟨by dsimp only;omega,by dsimp only;rw[hL2,OW (by omega)],LC (by omega) hnd (hm9 (by omega) hm34.down).1,T3 (by omega) hno (hm9 (by omega) hm34.down).2⟩ (dc d0 (dc d1 dn)) (kd kn) ⟨Z,Z,Z,Z,Z,eqI (by omega),trivial⟩
 refine jex (jtx (jtx (jbh ?_)))
 obtain rfl:L2=insA b p l L:=by rw[hL2,List.take_of_length_le (by omega)]
 exact Nh (jd0 Z ⟨⟨by have h9:=hw9;rwa[List.take_of_length_le (by omega)] at h9,by have h9:=hnd;rwa[List.take_of_length_le (by omega)] at h9,by have h9:=hno;rwa[List.take_of_length_le (by omega)] at h9⟩⟩ Z dn (fun _ _=>(kd kn)))
end Go.Proofs.YtmfkkodnghambaaGreat
namespace Go.Proofs.YtmfkkodnghambaaGreat
open Go.JE
theorem GP(k:Int):∃sh:Int×Int×Int×Int,(lkM shL k).getD (.agg #[.int .i64 0,.int .i64 0,.int .i64 0,.int .i64 0]) = .agg #[.int .i64 sh.1,.int .i64 sh.2.1,.int .i64 sh.2.2.1,.int .i64 sh.2.2.2]∧((lkM shL k).isSome=true→shM k=some sh)∧((lkM shL k).isSome=false→shM k=none):=by
 cases h:shM k with
 | some s=>rw[GQ h];exact⟨s,rfl,fun _=>rfl,fun h=>(by cases h)⟩
 | none =>
  have h2:lkM shL k=none:=by
   unfold shM at h
   split at h;· cases h
   split at h;· cases h
   split at h;· cases h
   split at h;· cases h
   split at h;· cases h
   rename_i h1 h2 h3 h4 h5
   unfold lkM shL
   simp only[List.find?]
   have e:∀{a:Int},¬k=a→(a==k)=false:=fun h=>by simp;exact fun h9=>h h9.symm
   rw[e h1,e h2,e h3,e h4,e h5];rfl
  rw[h2];exact⟨(0,0,0,0),rfl,fun h=>(by cases h),fun _=>rfl⟩
theorem I7{t:D.Term}{sh:Int×Int×Int×Int}(h1:(lkM shL t.Kind).isSome=true→shM t.Kind=some sh)(h2:(lkM shL t.Kind).isSome=false→shM t.Kind=none) :
  Wc t↔(((lkM shL t.Kind).isSome&&Ge t.Args.length sh.1 sh.2.1)&&Ge t.To.length sh.2.2.1 sh.2.2.2)=true:=by
 constructor
 ·rintro⟨s,h3,h4,h5⟩
  cases h6:(lkM shL t.Kind).isSome with
  | false=>rw[h2 h6] at h3;cases h3
  | true =>
   have h7:=h1 h6
   rw[h3] at h7;injection h7 with h7;subst h7
   simp[Mi h4,Mi h5]
 ·intro h
  simp only[Bool.and_eq_true] at h
  exact⟨sh,h1 h.1.1,Nu h.1.2,Nu h.2⟩
theorem MT{g0 gm:Nat}{cf:Value}{f:D.Func}{L:List (Int×Value)}(hL0:L=[]):Trx Tryz.prog 115 #[.pointer (some ⟨g0,0,none⟩)] [da Aj (vFunc f cf) f] [bx g0 179 [.int .i64 f.Params,cf,.map (some gm)],im gm L] (fun _:PLift (Kz f) => .tuple #[]) (fun _=>[]) (fun _ _=>[bx g0 179 [.int .i64 f.Params,cf,.map (some gm)],im gm (bkA f.Blocks f.Blocks.length)]) (fun c=>¬Kz f∧Tch c):=by
 refine Ni (args:=[.pointer (some ⟨g0,0,none⟩)]) Tryz.func115 rfl rfl rfl fun w0 X=>?_
 subst hL0
 refine jq (jr (jm Z (js (Ak Z) (js (jf Nf Z) (js (jf Bu Z) (js (jl k0 O47 Z Z) (jdq (Aj.cB d0) fun q1 w1=>js (jln U47 (Aj.cB d0) Z) (jm Z (jn (jx ?_))))))))))
 refine jb ?_
 refine jlp (u2 fun(k:Nat) (L1:List (Int×Value))=>⟨k≤f.Blocks.length∧L1=bkA f.Blocks k∧ShB f k,[da Aj (vFunc f cf) f],[bx g0 179 [.int .i64 f.Params,cf,.map (some gm)],im gm L1],[(0,.pointer (some ⟨g0,0,none⟩)),(18,cf),(19,.int .i64 (↑(List.length f.Blocks))),(20,.int .i64 (↑k))],f.Blocks.length-k⟩) (0,[]) ⟨by dsimp only;omega,rfl,(fun j hj=>absurd hj (Nat.not_lt_zero _))⟩ (dc d0 dn) (kd kn) ⟨Z,Z,Z,eqI (by omega),trivial⟩ ?_
 rintro⟨k,L1⟩;dsimp only[u2];rintro⟨hk,hL1,hS9⟩
 refine jq (jr (js (Ar Z Z) (jn (jx (jq ?_)))))
 refine jif Z (fun hc1=>?_) (fun hc1=>?_)
 have hb:k<f.Blocks.length:=by omega
 obtain⟨sh,hs1,hs2,hs3⟩:=GP (ix f.Blocks k).Term.Kind
 refine jsk (jx (jq (jb (jq (jr (jm Z (js (jix U47 Z62 (Aj.cB d0) Z Z Z (by omega)) (jA4 Le (jlA (dix (Aj.cB d0) k (by omega)) A62 Z62 Z) fun c24a c24b c24c c24d=>Bo J62 Z fun g3=>ja Z (jdq (Af.cP d0) fun q3 w3=>?_)))))))))
 refine jdq (Af.cI d0) fun q4 w4=>jdq (Af.c_Term_Args d0) fun q5 w5=>jdq (Af.c_Term_To d0) fun q6 w6=>Bk k0 Z62 Z Z Z ⟨w3.one,w4.one,Z,w5.one,w6.one,Z,trivial⟩ (saf Z) (jn (jx (jq (jq (jr (js (jf Dy Z) (js (jl k0 O57 Z Z) (js (jln U57 (Af.cP d0) Z) ?_))))))))
 refine jm Z (jn (jx (jb ?_)))
 refine jlp (u2 fun(i:Nat) (L2:List (Int×Value))=>⟨i≤(ix f.Blocks k).Phis.length∧L2=phA k (ix f.Blocks k).Phis L1 i∧phB f k i,[da Af (vBlock (ix f.Blocks k) (c24a,c24b,c24c,c24d)) (ix f.Blocks k),da Aj (vFunc f cf) f],[bx g3 62 [c24a,c24b,.int .i64 (((ix f.Blocks k).Term).Kind),c24c,c24d,.int .i32 (((ix f.Blocks k).Term).Imm)],bx g0 179 [.int .i64 f.Params,cf,.map (some gm)],im gm L2],[(0,.pointer (some ⟨g0,0,none⟩)),(2,.int .i64 (↑k)),(3,.pointer (some ⟨g3,0,none⟩)),(18,cf),(19,.int .i64 (↑(List.length f.Blocks))),(20,.int .i64 (↑k)),(26,c24a),(27,.int .i64 (↑(List.length ((ix f.Blocks k).Phis)))),(28,.int .i64 (↑i))],(ix f.Blocks k).Phis.length-i⟩) (0,L1) ⟨by dsimp only;omega,rfl,(fun j hj=>absurd hj (Nat.not_lt_zero _))⟩ (dc d0 (dc d1 dn)) (kd (kc k0 kn)) ⟨Z,Z,Z,Z,Z,Z,Z,Z,eqI (by omega),trivial⟩ ?_
 rintro⟨i,L2⟩;dsimp only[u2];rintro⟨hi,hL2,hP9⟩
 refine jq (jr (js (Ar Z Z) (jn (jx (jq ?_)))))
 refine jif Z (fun hc2=>?_) (fun hc2=>?_)
 refine jsk (jx (jq (jb (jq (jr (jm Z (js (jix U57 Z65 (Af.cP d0) Z Z Z (by omega)) (jA Wt (jlA (dix (Af.cP d0) i (by omega)) A65 Z65 Z) fun c32=>Bo J65 Z fun g5=>ja Z (jdq (Aw.c_In d0) fun q8 w8=>?_)))))))))
 refine Bk k0 Z65 Z Z Z ⟨Z,w8.one,trivial⟩ (saf Z) (jn (jx (jr (jm Z (js (jf Rz Z) (js (jl k0 O3 Z Z) (Bg (r:=(rI .i64)) (l:=[(ix ((ix f.Blocks k).Phis) i).Dst]) U22 I3 (by decide) Z Z Z (lV Z Z (wI (Aw.W_Dst d0)) ln) fun g36=>jm Z (jm Z (js (Gw Z Z (by omega)) (jfz k0 (by(try simp)<;>omega) ?_))))))))))
 refine jcy DV Z Z (W6 (f:=f) _ _ (by rw[hL2,hL1];exact(WV.bkA _ _).phA _)) (dc d3 (dc d0 dn)) (kc k2 (kc k2 kn)) (fun _=>p0) (fun _=>p2) (fun c hc=>⟨(fun h9=>hc.1 (by rw[hL2,hL1];exact(h9 k hb).1 i (by omega))),hc.2⟩) fun hm40=>jn (jbn (jx (jr (js (Al Z Z (by omega)) (jm Z (jn ?_))))))
 exact jag (i+1,insA ((k:Nat):Int) ((-1)-((i:Nat):Int)) ([(ix ((ix f.Blocks k).Phis) i).Dst]) L2) ⟨by dsimp only;omega,by dsimp only;rw[hL2];rfl,KF hP9 (by have h9:=hm40.down;rw[hL2,hL1] at h9;exact h9)⟩ (dc d2 (dc d3 dn)) (kc k3 (kd kn)) ⟨Z,Z,Z,Z,Z,Z,Z,Z,eqI (by omega),trivial⟩
 refine jex (jtx (jtx (jbh (jx (jq (jq (jr (js (jf Cn Z) (js (jl k0 O58 Z Z) (js (jln U58 (Af.cI d0) Z) (jm Z ?_)))))))))))
 refine jn (jx (jb ?_))
 refine jlp (u2 fun(j:Nat) (L3:List (Int×Value))=>⟨j≤(ix f.Blocks k).Ins.length∧L3=inA k (ix f.Blocks k).Ins L2 j∧inB f k j,[da Af (vBlock (ix f.Blocks k) (c24a,c24b,c24c,c24d)) (ix f.Blocks k),da Aj (vFunc f cf) f],[bx g3 62 [c24a,c24b,.int .i64 (((ix f.Blocks k).Term).Kind),c24c,c24d,.int .i32 (((ix f.Blocks k).Term).Imm)],bx g0 179 [.int .i64 f.Params,cf,.map (some gm)],im gm L3],[(0,.pointer (some ⟨g0,0,none⟩)),(2,.int .i64 (↑k)),(3,.pointer (some ⟨g3,0,none⟩)),(18,cf),(19,.int .i64 (↑(List.length f.Blocks))),(20,.int .i64 (↑k)),(43,c24b),(44,.int .i64 (↑(List.length ((ix f.Blocks k).Ins)))),(45,.int .i64 (↑j))],(ix f.Blocks k).Ins.length-j⟩) (0,L2) ⟨by dsimp only;omega,rfl,(fun j hj=>absurd hj (Nat.not_lt_zero _))⟩ (dc d0 (dc d1 dn)) (kd (kc k0 kn)) ⟨Z,Z,Z,Z,Z,Z,Z,Z,eqI (by omega),trivial⟩ ?_
 rintro⟨j,L3⟩;dsimp only[u2];rintro⟨hj,hL3,hI9⟩
 refine jq (jr (js (Ar Z Z) (jn (jx (jq ?_)))))
 refine jif Z (fun hc3=>?_) (fun hc3=>?_)
 refine jsk (jx (jq (jb (jq (jr (jm Z (js (jix U58 Z67 (Af.cI d0) Z Z Z (by omega)) (jA Mb (jlA (dix (Af.cI d0) j (by omega)) A67 Z67 Z) fun c49=>Bo J67 Z fun g7=>ja Z (jdq (Am.c_Args d0) fun q11 w11=>?_)))))))))
 refine Bk k0 Z67 Z Z Z ⟨Z,Z,Z,w11.one,Z,trivial⟩ (saf Z) (jn (jx (jq (jr (js (jf Ke Z) (js (jl k0 O3 Z Z) (jcv Oh Z Z (Nj ((ix ((ix f.Blocks k).Ins) j).Op) 1 18) dn kn (jm Z (jm Z (jcy Kh Z Z (Jz _ _ _ _ (by decide)) dn kn (fun _=>p0) (fun _=>p0) (fun c hc=>⟨(fun h9=>absurd ((h9 k hb).2.1 j (by omega)).1.1 (by rw[hc.1];decide)),hc.2⟩) fun hm55=>jn ?_))))))))))
 refine jx (jq (jr (js (jf Ke Z) (js (jl k0 O3 Z Z) (jcv UR Z Z (KO ((ix ((ix f.Blocks k).Ins) j).Op)) dn kn (jm Z (js (Bs Z Z) (js (Bs Z Z) (ja Z (ja Z (jn ?_)))))))))))
 refine jx (jq (jr (js (jf Hi Z) (js (jl k0 O22 Z Z) (js (jln U22 (Am.c_Args d0) Z) (jm Z (jm Z (jcv Oh Z Z (Nj (↑(List.length ((ix ((ix f.Blocks k).Ins) j).Args))) ((Cz ((ix ((ix f.Blocks k).Ins) j).Op)).1) ((Cz ((ix ((ix f.Blocks k).Ins) j).Op)).2)) dn kn (jm Z (jm Z (jcy Kh Z Z (Jz _ _ _ _ (by decide)) dn kn (fun _=>p0) (fun _=>p0) (fun c hc=>⟨(fun h9=>absurd ((h9 k hb).2.1 j (by omega)).1.2 (by rw[hc.1];decide)),hc.2⟩) fun hm70=>?_)))))))))))
 refine jn (jx (jr (jm Z (js (jla k0 A67 Z67 Z Z Z) (jcd UQ Z Z MW (dc d0 dn) kn fun v73 q12 w12=>jm Z (jm Z (jcy DV Z Z (W6 (f:=f) _ _ (by rw[hL3,hL2,hL1];exact((WV.bkA _ _).phA _).inA _)) (dc d3 (dc d0 dn)) (kc k2 (kc k2 kn)) (fun _=>p0) (fun _=>p2) (fun c hc=>⟨(fun h9=>hc.1 (by rw[hL3,hL2,hL1,show i=(ix f.Blocks k).Phis.length by omega];exact((h9 k hb).2.1 j (by omega)).2)),hc.2⟩) fun hm76=>jn (jbn (jx ?_)))))))))
 refine jr (js (Al Z Z (by omega)) (jm Z (jn ?_)))
 exact jag (j+1,insA ((k:Nat):Int) ((j:Nat):Int) (Ba (ix ((ix f.Blocks k).Ins) j)) L3) ⟨by dsimp only;omega,by dsimp only;rw[hL3];rfl,PI hI9 ⟨hm55.down,hm70.down⟩ (by have h9:=hm76.down;rw[hL3,hL2,hL1,show i=(ix f.Blocks k).Phis.length by omega] at h9;exact h9)⟩ (dc d2 (dc d3 dn)) (kc k3 (kd kn)) ⟨Z,Z,Z,Z,Z,Z,Z,Z,eqI (by omega),trivial⟩
 refine jex (jtx (jtx (jbh (jx (jq ?_)))))
 refine jjo (fun(gS:Nat)=>⟨0≤gS,[da Af (vBlock (ix f.Blocks k) (c24a,c24b,c24c,c24d)) (ix f.Blocks k),da Aj (vFunc f cf) f],[bx gS 211 [.int .i64 sh.1,.int .i64 sh.2.1,.int .i64 sh.2.2.1,.int .i64 sh.2.2.2],bx g3 62 [c24a,c24b,.int .i64 (((ix f.Blocks k).Term).Kind),c24c,c24d,.int .i32 (((ix f.Blocks k).Term).Imm)],bx g0 179 [.int .i64 f.Params,cf,.map (some gm)],im gm L3],[(0,.pointer (some ⟨g0,0,none⟩)),(2,.int .i64 (((k:Nat):Int))),(3,.pointer (some ⟨g3,0,none⟩)),(10,.pointer (some ⟨gS,0,none⟩)),(11,.bool ((lkM shL (ix f.Blocks k).Term.Kind).isSome)),(18,cf),(19,.int .i64 (((List.length f.Blocks:Nat):Int))),(20,.int .i64 (((k:Nat):Int)))]⟩) ?_ ?_
 refine Bz false (.a 1 (.a 2 (.a 3 (.w 0 8 (.w 4 8 (.a 5 (.a 6 (.a 7 (.o 8 (.o 9 (.a 10 .e)))))) (.o 4 (.a 5 (.a 6 (.a 7 (.o 9 (.a 10 .e))))))) (.o 0 (.o 4 (.a 5 (.a 6 (.a 7 (.o 9 (.a 10 .e))))))))))) Bi (by kernel_rfl) (kc k0 kn) fun F15=>jy Z (jf Eh Z) (jy Z (jf Lu Z) (jy Z (jl k0 O3 Z Z) ?_))
 refine jyw Z Z ?_ ?_
 refine jc DU Z Z I6 dn kn (fun _=>p0) (fun _=>p1) fun g79=>jyn d0 (kc k1 kn) ?_
 refine jyw Z Z ?_ ?_
 refine js (Re Na U3 Qb k0 Z Z hs1) (jyn d0 (kc k1 kn) (jy Z (jmv Z) (jy Z (Bs Z Z) (jy Z (Bs Z Z) (jyo Z (Bo Qb Z fun g10=>jyn d0 (kc k2 kn) (jyo Z (Bk k0 Zl Z Z Z ⟨Z,Z,Z,Z,trivial⟩ (saf Z) (jyn d0 (kc k2 kn) (jy Z (jas Z) ?_))))))))))
 refine jyd ?_
 exact jje g10 (Nat.zero_le _) (dc d4 (dc d5 dn)) (kc k0 (kc k1 (kc k1 (kc k1 kn)))) ⟨Z,Z,Z,Z,Z,Z,Z,Z,trivial⟩
 refine Bo Qb Z fun g10=>jyn d0 (kc k2 kn) (jyo Z (js (Re Na U3 Qb k1 Z Z hs1) (jyn d0 (kc k2 kn) (jy Z (jmv Z) (jy Z (Bs Z Z) (jy Z (Bs Z Z) (jyo Z (Bk k0 Zl Z Z Z ⟨Z,Z,Z,Z,trivial⟩ (saf Z) (jyn d0 (kc k2 kn) (jy Z (jas Z) ?_))))))))))
 refine jyd ?_
 exact jje g10 (Nat.zero_le _) (dc d4 (dc d5 dn)) (kc k0 (kc k1 (kc k1 (kc k1 kn)))) ⟨Z,Z,Z,Z,Z,Z,Z,Z,trivial⟩
 refine Bo Qb Z fun g10=>jyn d0 (kc k1 kn) (jyo Z (jc DU Z Z I6 dn kn (fun _=>p0) (fun _=>p1) fun g79=>jyn d0 (kc k2 kn) (jyo Z (js (Re Na U3 Qb k0 Z Z hs1) (jyn d0 (kc k2 kn) (jy Z (jmv Z) (jy Z (Bs Z Z) (jy Z (Bs Z Z) (jyo Z ?_)))))))))
 refine Bk k1 Zl Z Z Z ⟨Z,Z,Z,Z,trivial⟩ (saf Z) (jyn d0 (kc k2 kn) (jy Z (jas Z) (jyd ?_)))
 exact jje g10 (Nat.zero_le _) (dc d4 (dc d5 dn)) (kc k0 (kc k1 (kc k1 (kc k1 kn)))) ⟨Z,Z,Z,Z,Z,Z,Z,Z,trivial⟩
 rintro gS;dsimp only;rintro hgS
 refine jx (jq (Bz false (.a 0 (.a 1 (.a 2 (.a 3 (.a 4 (.a 5 (.a 6 (.a 7 (.a 8 (.a 9 (.a 23 (.a 24 (.a 25 (.a 26 (.o 10 (.a 11 (.a 12 (.a 13 (.a 14 (.a 15 (.a 16 (.a 17 (.a 18 (.a 19 (.a 20 (.o 21 (.a 22 (.o 27 .e)))))))))))))))))))))))))))) Bi (by kernel_rfl) (kd kn) fun F20=>jy Z (jmv Z) (jy Z (jmv Z) (jyg Z Z Z (.t _) (fun hg=>jf Eh Z) (jyg Z Z Z (.t _) (fun hg=>jf Jq (evg Z hg)) (jyg Z Z Z (.t _) (fun hg=>jl k1 O22 (evg Z hg) Z) (jyg Z Z Z (.t _) (fun hg=>jln U22 (Af.c_Term_Args d0) (evg Z hg)) (jyg Z Z Z (.t _) (fun hg=>jf TS Z) (jyg Z Z Z (.t _) (fun hg=>jl k0 O3 (evg Z hg) Z) (jyg Z Z Z (.t _) (fun hg=>jf TQ Z) ?_))))))))))
 refine jyg Z Z Z (.t _) (fun hg=>jl k0 O3 (evg Z hg) Z) (jy Z (jmv Z) (jy Z (jf Cn Z) (jy Z (jl k1 O58 Z Z) (jy Z (jln U58 (Af.cI d0) Z) (jyo Z (jgc Z Z (.t _) Oh Z (fun hg=>Yq (evg Z hg) (evg Z hg) (evg Z hg)) (fun hg=>(Nj (↑(List.length (((ix f.Blocks k).Term).Args))) sh.1 sh.2.1)) (fun hg=>dn) kn p0 (jyn d0 (kd kn) (jy Z (Cf Z Z) (jy Z (jmv Z) (jyg Z Z Z (.t _) (fun hg=>jf Eh Z) (jyg Z Z Z (.t _) (fun hg=>jf Ei (evg Z hg)) ?_)))))))))))
 refine jyg Z Z Z (.t _) (fun hg=>jl k1 O22 (evg Z hg) Z) (jyg Z Z Z (.t _) (fun hg=>jln U22 (Af.c_Term_To d0) (evg Z hg)) (jyg Z Z Z (.t _) (fun hg=>jf TP Z) (jyg Z Z Z (.t _) (fun hg=>jl k0 O3 (evg Z hg) Z) (jyg Z Z Z (.t _) (fun hg=>jf TO Z) (jyg Z Z Z (.t _) (fun hg=>jl k0 O3 (evg Z hg) Z) (jyo Z (jgc Z Z (.t _) Oh Z (fun hg=>Yq (evg Z hg) (evg Z hg) (evg Z hg)) (fun hg=>(Nj (↑(List.length (((ix f.Blocks k).Term).To))) sh.2.2.1 sh.2.2.2)) (fun hg=>dn) kn p0 (jyn d0 (kd kn) (jy Z (Cf Z Z) (jyo Z (jcy Kh Z Z (Jz _ _ _ _ (by decide)) dn kn (fun _=>p0) (fun _=>p0) (fun c hc=>⟨(fun h9=>absurd ((I7 hs2 hs3).1 (h9 k hb).2.2.1) (by rw[hc.1];decide)),hc.2⟩) fun hm113=>?_)))))))))))
 refine jyn d0 (kd kn) (jyd (jx (jq (jr (js (jf Eh Z) (js (jf Ei Z) (js (jl k1 O22 Z Z) (js (jln U22 (Af.c_Term_To d3) Z) (jm Z (jn (jx ?_)))))))))))
 refine jb ?_
 refine jlp (fun(m:Nat)=>⟨m≤(ix f.Blocks k).Term.To.length∧toB f k m,[da Af (vBlock (ix f.Blocks k) (c24a,c24b,c24c,c24d)) (ix f.Blocks k),da Aj (vFunc f cf) f],[bx g3 62 [c24a,c24b,.int .i64 (((ix f.Blocks k).Term).Kind),c24c,c24d,.int .i32 (((ix f.Blocks k).Term).Imm)],bx g0 179 [.int .i64 f.Params,cf,.map (some gm)],im gm L3],[(0,.pointer (some ⟨g0,0,none⟩)),(2,.int .i64 (↑k)),(3,.pointer (some ⟨g3,0,none⟩)),(18,cf),(19,.int .i64 (↑(List.length f.Blocks))),(20,.int .i64 (↑k)),(116,c24d),(117,.int .i64 (↑(List.length (((ix f.Blocks k).Term).To)))),(118,.int .i64 (↑m))],(ix f.Blocks k).Term.To.length-m⟩) 0 ⟨Nat.zero_le _,(fun j hj=>absurd hj (Nat.not_lt_zero _))⟩ (dc d3 (dc d4 dn)) (kc k1 (kc k1 (kc k1 kn))) ⟨Z,Z,Z,Z,Z,Z,Z,Z,eqI (by omega),trivial⟩ ?_
 rintro m;dsimp only;rintro⟨hm,hT9⟩
 refine jq (jr (js (Ar Z Z) (jn (jx (jq ?_)))))
 refine jif Z (fun hc4=>?_) (fun hc4=>?_)
 refine jsk (jx (jq (jb (jq (jr (js (jix U22 Z3 (Af.c_Term_To d0) Z Z Z (by omega)) (js (jlI (dix (Af.c_Term_To d0) m (by omega)) O3 Z) (ja Z (jn (jx (Bz false (.a 0 (.a 1 (.a 2 (.a 3 (.a 4 (.a 5 (.a 6 (.a 7 (.a 9 (.a 10 (.a 11 (.a 12 (.o 8 (.o 13 .e)))))))))))))) Bi (by kernel_rfl) (kd kn) fun F24=>?_)))))))))))
 refine jy Z (jmv Z) (jy Z (jmv Z) (jy Z (Ak Z) (jy Z (jf Nf Z) (jy Z (jf Bu Z) (jy Z (jl k1 O47 Z Z) (jy Z (jln U47 (Aj.cB d1) Z) (jy Z (Gw Z Z (by omega)) (jy Z (jmv Z) (jy Z (jf Cn Z) (jy Z (jl k0 O58 Z Z) (jy Z (jln U58 (Af.cI d0) Z) ?_)))))))))))
 refine jyo Z (jcv Oh Z Z (Nj (ix (((ix f.Blocks k).Term).To) m) 1 _) dn kn (jyn d0 (kd kn) (jyo Z (jcy Kh Z Z (Jz _ _ _ _ (by decide)) dn kn (fun _=>p0) (fun _=>p0) (fun c hc=>⟨(fun h9=>absurd ((h9 k hb).2.2.2 m (by omega)) (by rw[hc.1];decide)),hc.2⟩) fun hm135=>jyn d0 (kd kn) (jyd (jbn (jx (jr (js (Al Z Z (by omega)) (jm Z ?_))))))))))
 refine jn ?_
 exact jag (m+1) ⟨by omega,FH hT9 hm135.down⟩ (dc d2 (dc d3 dn)) (kd (kc k0 kn)) ⟨Z,Z,Z,Z,Z,Z,Z,Z,eqI (by omega),trivial⟩
 refine jex (jtx (jtx (jbh (jbn (jx (jr (js (Al Z Z (by omega)) (jm Z (jn ?_)))))))))
 exact jag (k+1,L3) ⟨by dsimp only;omega,by dsimp only;rw[hL3,hL2,hL1,show i=(ix f.Blocks k).Phis.length by omega,show j=(ix f.Blocks k).Ins.length by omega];rfl,TG hS9 ⟨by rw[←show i=(ix f.Blocks k).Phis.length by omega];exact hP9,by rw[←show j=(ix f.Blocks k).Ins.length by omega];exact hI9,(I7 hs2 hs3).2 hm113.down,by rw[←show m=(ix f.Blocks k).Term.To.length by omega];exact hT9⟩⟩ (dc d1 dn) (kc k1 (kc k1 kn)) ⟨Z,Z,Z,eqI (by omega),trivial⟩
 refine jex (jtx (jtx (jbh ?_)))
 obtain rfl:L1=bkA f.Blocks f.Blocks.length:=by rw[hL1,show k=f.Blocks.length by omega]
 exact Nh (jd0 Z ⟨by have h9:=hS9;rwa[show k=f.Blocks.length by omega] at h9⟩ Z dn (fun _ _=>(kd kn)))
end Go.Proofs.YtmfkkodnghambaaGreat
namespace Go.Proofs.YtmfkkodnghambaaGreat
open Go.JE
theorem JR{bs:List D.Block}{v:Int}{k:Nat}(hk:k≤bs.length)(h:lkM (bkA bs k) v≠none):∃wb wp,wb<k∧Oe bs v wb wp:=by
 by_cases h1:∀b,b<k→v∉mkB (ix bs b)
 ·exact absurd (Rr.2 h1) h
 ·simp only[Classical.not_forall,Decidable.not_not] at h1
  obtain⟨b,hb,h2⟩:=h1
  rcases Ew.1 h2 with⟨i,h3,h4⟩|⟨i,h3,h4⟩
  ·exact⟨b,_,hb,by omega,.inl ⟨i,h3,h4,rfl⟩⟩
  ·exact⟨b,_,hb,by omega,.inr ⟨i,h3,h4,rfl⟩⟩
def Qp(okb:Bool)(zb zp block at':Int)(d:Bool):Bool:=okb&&((decide (zb=block)&&(decide (zp<at')||decide (zp<0)))||(decide (zb≠block)&&d))
theorem C4{f:D.Func}{idom:List Int}{v block at' zb zp:Int}(hS:Kz f)(hb:0≤block∧block<f.Blocks.length)(hD:Vt (Bh f) idom)(hv:¬(0≤v∧v<f.Params))
  (hz:(lkM (bkA f.Blocks f.Blocks.length) v).getD (.agg #[.int .i64 0,.int .i64 0]) = .agg #[.int .i64 zb,.int .i64 zp]) :
  US f v block.toNat at'↔Qp (lkM (bkA f.Blocks f.Blocks.length) v).isSome zb zp block at' (Kx idom zb block)=true:=by
 have hO:=I8 hS
 have hl:(Bh f).length=f.Blocks.length:=by simp[Bh]
 cases hm:lkM (bkA f.Blocks f.Blocks.length) v with
 | none =>
  constructor
  ·rintro(h|⟨wb,wp,hp,_⟩)
   ·exact absurd h hv
   ·rw[hO.at hp _ hp.1] at hm;cases hm
  ·intro h;unfold Qp at h;simp at h
 | some x =>
  obtain⟨wb,wp,hwb,hp⟩:=JR (bs:=f.Blocks) (k:=f.Blocks.length) (v:=v) (Nat.le_refl _) (by rw[hm];simp)
  have hat:=hO.at hp _ hwb
  rw[hat] at hz hm
  have e1:zb=wb∧zp=wp:=by
   simp only[Option.getD_some] at hz
   unfold wv at hz
   injection hz with hz
   injection hz with hz
   simp at hz;exact⟨hz.1.symm,hz.2.symm⟩
  obtain⟨rfl,rfl⟩:=e1
  have hd:(wb:Int)≠block→(Kx idom wb block=true↔¬RB (prG (Bh f)) wb block.toNat):=fun hne=>by
   have h1:=hD.2.1 wb block.toNat (by rw[hl];exact hp.1) (by rw[hl];omega)
   have h2:=hD.2.2 wb block.toNat (by rw[hl];exact hp.1) (by rw[hl];omega)
   rw[Int.toNat_of_nonneg hb.1] at h1 h2
   exact⟨fun h=>(h2 h).resolve_left (by omega),fun h=>h1 (.inr h)⟩
  have hu:US f v block.toNat at'↔(wb=block.toNat∧(zp<at'∨zp<0))∨(wb≠block.toNat∧¬RB (prG (Bh f)) wb block.toNat):=by
   constructor
   ·rintro(h|⟨wb',wp',hp',h⟩)
    ·exact absurd h hv
    ·have h9:=hO.at hp' _ hp'.1
     rw[hat] at h9
     injection h9 with h9;unfold wv at h9;injection h9 with h9;injection h9 with h9
     simp at h9
     have e1:wb'=wb:=by omega
     have e2:wp'=zp:=by omega
     subst e1;subst e2;exact h
   ·exact fun h => .inr ⟨wb,zp,hp,h⟩
  rw[hu];unfold Qp
  simp only[Option.isSome_some,Bool.true_and,Bool.or_eq_true,Bool.and_eq_true,decide_eq_true_eq]
  by_cases e:(wb:Int)=block
  ·have e2:wb=block.toNat:=by omega
   constructor
   ·rintro(⟨_,h⟩|⟨h,_⟩)
    ·exact .inl ⟨e,h⟩
    ·exact absurd e2 h
   ·rintro(⟨_,h⟩|⟨h,_⟩)
    ·exact .inl ⟨e2,h⟩
    ·exact absurd e h
  ·have e2:¬wb=block.toNat:=by omega
   have:=hd e
   simp[e,e2,this]
def Q6(f:D.Func)(k:Nat)(p:D.Phi):Prop:=(0<k∧p.In.map (fun x=>x.From)=ix (Cv (Bh f)) k)∧∀x∈p.In,US f x.Val x.From.toNat (ix f.Blocks x.From.toNat).Ins.length
def CJ(f:D.Func)(k:Nat):Prop:=(∀p∈(ix f.Blocks k).Phis,Q6 f k p)∧(∀i,i<(ix f.Blocks k).Ins.length→∀v∈(ix (ix f.Blocks k).Ins i).Args,US f v k i)∧∀v∈(ix f.Blocks k).Term.Args,US f v k (ix f.Blocks k).Ins.length
structure UsOk(f:D.Func):Prop where
 reach:∀b,b<f.Blocks.length→∃w,RB (prG (Bh f)) w b
 us:∀b,b<f.Blocks.length→CJ f b
theorem PY{f:D.Func}(h:GoodF f):UsOk f:=⟨h.reach,fun b hb=>⟨fun p hp=>⟨h.fr b hb p hp,fun x hx=>h.up b hb p hp x hx⟩,h.ui b hb,h.ut b hb⟩⟩
theorem Yl{f:D.Func}:GoodF f↔(0≤f.Params∧f.Params≤4)∧(0<f.Blocks.length∧f.Blocks.length≤512)∧f.Blocks.length+Dx f.Blocks≤4096∧Kz f∧UsOk f :=
 ⟨fun h=>⟨h.par,h.len,h.cnt,QA h,PY h⟩,fun⟨h1,h2,h3,h4,h5⟩=>⟨h1,h2,h3,I8 h4,GL h4,GM h4,fun b hb=>(h4 b hb).2.2.1,GK h4,h5.reach,fun b hb p hp=>((h5.us b hb).1 p hp).1,fun b hb=>(h5.us b hb).2.1,fun b hb=>(h5.us b hb).2.2,fun b hb p hp=>((h5.us b hb).1 p hp).2⟩⟩
theorem Vc{α:Type}[Inhabited α]{P:α→Prop}{l:List α}{k:Nat}(hk:k<l.length)(h:∀n∈l.take k,P n)(h2:P (ix l k)):∀n∈l.take (k+1),P n:=fun n hn=>by
 rw[Ej hk,List.mem_append] at hn
 rcases hn with h3|h3
 ·exact h n h3
 ·simp at h3;subst h3;exact h2
theorem Ve{α:Type}{P:α→Prop}{l:List α}{k:Nat}(h:∀n∈l.take k,P n)(hk:l.length≤k):∀n∈l,P n:=by rwa[List.take_of_length_le hk] at h
theorem Ud{P:Nat→Prop}{k:Nat}(h:∀n,n<k→P n)(h2:P k):∀n,n<k+1→P n:=fun n hn=>by
 rcases Nat.lt_or_ge n k with h3|h3
 ·exact h n h3
 ·rw[show n=k by omega];exact h2
def Qd(f:D.Func)(k:Nat)(p:D.Phi)(j:Nat):Prop:=(0<k∧p.In.length=(ix (Cv (Bh f)) k).length)∧∀m,m<j→(ix p.In m).From=ix (ix (Cv (Bh f)) k) m
theorem AR{f:D.Func}{k:Nat}{p:D.Phi}{j:Nat}(hj:p.In.length≤j):Qd f k p j↔(0<k∧p.In.map (fun x=>x.From)=ix (Cv (Bh f)) k):=by
 constructor
 ·rintro⟨⟨h1,h2⟩,h3⟩
  refine⟨h1,List.ext_getElem (by simpa using h2) fun i hi hi2=>?_⟩
  rw[List.length_map] at hi
  have:=h3 i (by omega)
  rw[List.getElem_map,←Bp hi,this,Bp]
 ·rintro⟨h1,h2⟩
  have h3:p.In.length=(ix (Cv (Bh f)) k).length:=by rw[←h2];simp
  refine⟨⟨h1,h3⟩,fun m hm=>?_⟩
  rcases Nat.lt_or_ge m p.In.length with h4|h4
  ·rw[←h2,Ia h4]
  ·rw[Gx h4,Gx (by omega)];rfl
theorem QN{f:D.Func}{k:Nat}{p:D.Phi}(h:p.In.map (fun x=>x.From)=ix (Cv (Bh f)) k){x:D.In}(hx:x∈p.In):0≤x.From∧x.From<f.Blocks.length:=by
 have h1:x.From∈ix (Cv (Bh f)) k:=by rw[←h];exact List.mem_map.2 ⟨x,hx,rfl⟩
 have:=Xe h1
 rwa[Jl] at this
theorem Xy{g0 gm:Nat}{cf:Value}{f:D.Func}{L:List (Int×Value)}(v:Int)(b:Int)(p:Int)(a:Int)(t:Int){g5:Nat}{vi:Value}{idom:List Int}{g6:Nat}(hS:Kz f)(hL0:L=bkA f.Blocks f.Blocks.length)(hD:Vt (Bh f) idom)(hb:0≤b∧b<f.Blocks.length):Trx Tryz.prog 169 #[.int .i64 v,.int .i64 b,.int .i64 p,.int .i64 a,.int .i64 t,.pointer (some ⟨g5,0,none⟩),.pointer (some ⟨g6,0,none⟩)] [da Aj (vFunc f cf) f,dv (rL (rI .i64)) vi idom] [bx g0 179 [.int .i64 f.Params,cf,.map (some gm)],im gm L,bx g5 176 [.pointer (some ⟨g0,0,none⟩)],bx g6 22 [vi]] (fun _:PLift (US f v b.toNat a) => .tuple #[]) (fun _=>[]) (fun _ _=>[bx g0 179 [.int .i64 f.Params,cf,.map (some gm)],im gm (bkA f.Blocks f.Blocks.length),bx g5 176 [.pointer (some ⟨g0,0,none⟩)],bx g6 22 [vi]]) (fun c=>¬US f v b.toNat a∧Tch c):=by
 refine Ni (args:=[.int .i64 v,.int .i64 b,.int .i64 p,.int .i64 a,.int .i64 t,.pointer (some ⟨g5,0,none⟩),.pointer (some ⟨g6,0,none⟩)]) Tryz.func169 rfl rfl rfl fun w0 X=>?_
 subst hL0
 obtain⟨zb,zp,hz9⟩:=(WV.bkA f.Blocks f.Blocks.length).get v
 refine jq (jq (jr (jm Z (js (Gj Z Z) (jm Z (jg Z Z (.t _) (fun hg=>jmv Z) (jg Z Z (.t _) (fun hg=>jl k2 Qa Z Z) (jg Z Z (.t _) (fun hg=>Ak (evg Z hg)) (jg Z Z (.t _) (fun hg=>jf Nf (evg Z hg)) (jg Z Z (.t _) (fun hg=>jf Hu (evg Z hg)) (jg Z Z (.t _) (fun hg=>jl k0 O3 (evg Z hg) Z) ?_)))))))))))
 refine jg Z Z (.t _) (fun hg=>Ar (evg Z hg) (evg Z hg)) (js (Cf Z Z) (jn (jx ?_)))
 refine jif Z (fun hc1=>?_) (fun hc1=>?_)
 refine jrt (jtr ?_)
 exact EA (jr0 Z ⟨.inl (by simpa using hc1)⟩ Z dn (fun _ _=>(kd (kd kn))))
 refine jsk (jx (jq (jr (js (jl k2 Qa Z Z) (js (Ak Z) (js (jf Zv Z) (js (jl k0 Zo Z Z) (jm Z (js (Re Zm U3 Vi k1 Z Z hz9) (jm Z (js (Bs Z Z) ?_)))))))))))
 refine js (Bs Z Z) (Bo Vi Z fun g12=>Bk k0 DB Z Z Z ⟨Z,Z,trivial⟩ (saf Z) (ja Z (jn (jx (jq (jr (jm Z (jm Z (jg Z Z (.t _) (fun hg=>jf Zu Z) (jg Z Z (.t _) (fun hg=>jl k0 O3 (evg Z hg) Z) ?_))))))))))
 refine jg Z Z (.t _) (fun hg=>jmv Z) (jg Z Z (.t _) (fun hg=>Ao (evg Z hg) (evg Z hg)) (jg Z Z (.t _) (fun hg=>jmv (evg Z hg)) (jg Z Z (.gt _ _) (fun hg=>jf DN Z) (jg Z Z (.gt _ _) (fun hg=>jl k0 O3 (evg Z hg) Z) (jg Z Z (.gt _ _) (fun hg=>jmv Z) (jg Z Z (.gt _ _) (fun hg=>Ar (evg Z hg) (evg Z hg)) (jg Z Z (.gt _ _) (fun hg=>jmv (evg Z hg)) (jg Z Z (.gf _ _) (fun hg=>jf DN Z) (jg Z Z (.gf _ _) (fun hg=>jl k0 O3 (evg Z hg) Z) (jg Z Z (.gf _ _) (fun hg=>Ar (evg Z hg) Z) (jg Z Z (.gt _ _) (fun hg=>Rd hg Z Z) ?_)))))))))))
 refine jg Z Z (.t _) (fun hg=>Um hg Z Z) (jg Z Z (.t _) (fun hg=>jmv (evg Z hg)) (jg Z Z (.gf _ _) (fun hg=>jf Zu Z) (jg Z Z (.gf _ _) (fun hg=>jl k0 O3 (evg Z hg) Z) (jg Z Z (.gf _ _) (fun hg=>jmv Z) (jg Z Z (.gf _ _) (fun hg=>Ga (evg Z hg) (evg Z hg)) (jg Z Z (.gf _ _) (fun hg=>jmv (evg Z hg)) (jg Z Z (.gt _ _) (fun hg=>jl k4 O22 Z Z) (jg Z Z (.gt _ _) (fun hg=>jf Zu Z) (jg Z Z (.gt _ _) (fun hg=>jl k0 O3 (evg Z hg) Z) (jg Z Z (.gt _ _) (fun hg=>jmv Z) (jdq d1 fun q1 w1=>?_)))))))))))
 refine jgc Z Z (.gt _ _) UN Z (fun hg=>Yq (evg Z hg) (evg Z hg) (evg Z hg)) (fun hg=>(RJ zb b)) (fun hg=>(dc d1 dn)) kn p0 (jg Z Z (.gf _ _) (fun hg=>Um hg Z Z) (jg Z Z (.t _) (fun hg=>Rd hg Z Z) (js (Cf Z Z) (ja Z (jn (jx (jr (jm Z (jm Z (jm Z (jcy Kh Z Z (Jz _ _ _ _ (by decide)) dn kn (fun _=>p0) (fun _=>p0) (fun c hc=>⟨(fun h9=>by have h8:=(C4 (v:=v) (at':=a) hS hb hD (by have h9:=hc1;simp at h9;omega) hz9).1 h9;have h7:=hc.1;unfold Qp at h8;first|(rw[h7] at h8;cases h8;done)|(simp_all;done)),hc.2⟩) fun hm68=>?_)))))))))))
 refine jn ?_
 exact Nh (jd0 Z ⟨(C4 (v:=v) (at':=a) hS hb hD (by have h9:=hc1;simp at h9;omega) hz9).2 (by have h7:=hm68.down;unfold Qp;first|exact h7|(simp_all;done))⟩ Z dn (fun _ _=>(kc k1 (kc k1 (kc k1 (kc k1 kn))))))
theorem QO{f:D.Func}{k:Nat}{p:D.Phi}{j:Nat}{ft ft2:Bool}(hj:j<p.In.length)(h:ft=true↔Qd f k p j)(h2:ft2=(ft&&decide ((ix p.In j).From=ix (ix (Cv (Bh f)) k) j))):ft2=true↔Qd f k p (j+1):=by
 rw[h2];simp only[Bool.and_eq_true,decide_eq_true_eq]
 rw[h];unfold Qd
 constructor
 ·rintro⟨⟨h3,h4⟩,h5⟩;exact⟨h3,Ud h4 h5⟩
 ·rintro⟨h3,h4⟩;exact⟨⟨h3,fun m hm=>h4 m (by omega)⟩,h4 j (by omega)⟩
theorem MS{g0 gm:Nat}{cf:Value}{f:D.Func}{L:List (Int×Value)}(hS:Kz f)(hln:0<f.Blocks.length∧f.Blocks.length≤512)(hL0:L=bkA f.Blocks f.Blocks.length):Trx Tryz.prog 116 #[.pointer (some ⟨g0,0,none⟩)] [da Aj (vFunc f cf) f] [bx g0 179 [.int .i64 f.Params,cf,.map (some gm)],im gm L] (fun _:PLift (UsOk f) => .tuple #[]) (fun _=>[]) (fun _ _=>[bx g0 179 [.int .i64 f.Params,cf,.map (some gm)],im gm (bkA f.Blocks f.Blocks.length)]) (fun c=>¬UsOk f∧Tch c):=by
 refine Ni (args:=[.pointer (some ⟨g0,0,none⟩)]) Tryz.func116 rfl rfl rfl fun w0 X=>?_
 subst hL0
 have hgl:=Jl f
 have hn:0<(Bh f).length∧(Bh f).length≤512:=by omega
 have hpl:=Xg (Bh f)
 refine jq (jr (Cm Z Z fun g1=>jn (jx (jq (jr (js (jl k0 Qa Z Z) (js (Ak Z) (js (jf Nf Z) (js (jla k1 A49 Z49 Z Z Z) (jcd UP Z Z PV (dc d0 dn) kn fun v27 q1 w1=>?_))))))))))
 refine ja Z (jn (jx (jq (jr (jm Z (jc DT Z Z (R8 hn) (dc d0 dn) kn (fun _=>p2) (fun _=>p0) fun c29=>jpu d1 fun hod0=>ja Z (jn (jx (jq ?_)))))))))
 refine jq (jr (js (jl k0 Qa Z Z) (js (Ak Z) (js (jf Nf Z) (js (jf Bu Z) (js (jl k1 O47 Z Z) (jdq (Aj.cB d3) fun q5 w5=>js (jln U47 (Aj.cB d3) Z) (jm Z (jn (jx ?_))))))))))
 refine jb ?_
 refine jlp (fun(k:Nat)=>⟨k≤f.Blocks.length∧(∀b,b<k→Ny c29.2 (b:Int)=true),[dv (rL (rI .i64)) c29.1 c29.2,dv (rL (rL (rI .i64))) v27 (Bh f),da Aj (vFunc f cf) f],[bx g1 176 [.pointer (some ⟨g0,0,none⟩)],bx g0 179 [.int .i64 f.Params,cf,.map (some gm)],im gm (bkA f.Blocks f.Blocks.length)],[(1,.pointer (some ⟨g1,0,none⟩)),(2,v27),(3,c29.1),(35,.int .i64 (↑(List.length f.Blocks))),(36,.int .i64 (↑k))],f.Blocks.length-k⟩) 0 ⟨Nat.zero_le _,(by first|(intro _ h9;cases h9;done)|(intro _ h9;exact absurd h9 (Nat.not_lt_zero _)))⟩ (dc d0 (dc d2 (dc d3 dn))) (kd (kc k0 kn)) ⟨Z,Z,Z,Z,eqI (by omega),trivial⟩ ?_
 rintro k;dsimp only;rintro⟨hk,hR9⟩
 refine jq (jr (js (Ar Z Z) (jn (jx (jq ?_)))))
 refine jif Z (fun hc1=>?_) (fun hc1=>?_)
 refine jsk (jx (jq (jb (jq (jr (jm Z (ja Z (jn (jx (jr (jm Z ?_)))))))))))
 refine jm Z (jdq d0 fun q6 w6=>jcv VL Z Z (NA ↑k) (dc d0 dn) kn (jm Z (jcy Kh Z Z (Jz _ _ _ _ (by decide)) dn kn (fun _=>p0) (fun _=>p0) (fun c hc=>⟨(fun h9=>by obtain⟨w9,h8⟩:=h9.reach k (by omega);have h7:=RN (hod0.mem h8);rw[hc.1] at h7;cases h7),hc.2⟩) fun hm43=>jn (jbn (jx (jr (js (Al Z Z (by omega)) (jm Z (jn ?_)))))))))
 exact jag (k+1) ⟨by omega,Ud hR9 hm43.down⟩ (dc d0 (dc d1 (dc d2 dn))) (kd (kc k0 kn)) ⟨Z,Z,Z,Z,eqI (by omega),trivial⟩
 have hw:∀b,b<(Bh f).length→∃w,RB (fun q t=>(t:Int)∈ix (Bn (Bh f)) q) w b:=fun b hb=>⟨_,by have h9:=hod0.reach hn.1 (RM (hR9 b (by omega)));rwa[Int.toNat_natCast] at h9⟩
 refine jex (jtx (jtx (jbh (jx (jq (jr (jm Z (jcd DS Z Z (M8 hn.2) (dc d1 dn) kn fun v46 q7 w7=>jm Z (jc UO Z Z (PR hn hw) (dc d2 dn) kn (fun _=>p2) (fun _=>p0) fun c48=>jpu d1 fun hdg=>?_)))))))))
 refine Bo J22 Z fun g6=>ja Z (jdq d0 fun q11 w11=>jst k0 Z22 Z Z w11.one s0 (jn (jx (jq (jr (js (Ik Z Z) (ja Z (jn (jx ?_)))))))))
 refine jq (jr (js (jl k1 Qa Z Z) (js (Ak Z) (js (jf Nf Z) (js (jf Bu Z) (js (jl k2 O47 Z Z) (js (jln U47 (Aj.cB d5) Z) (jm Z (jn (jx (jb ?_)))))))))))
 refine jlp (fun(k:Nat)=>⟨k≤f.Blocks.length∧(∀b,b<k→CJ f b),[dv (rL (rI .i64)) c48.1 c48.2,dv (rL (rL (rI .i64))) v46 (Cv (Bh f)),da Aj (vFunc f cf) f],[bx g6 22 [c48.1],bx g1 176 [.pointer (some ⟨g0,0,none⟩)],bx g0 179 [.int .i64 f.Params,cf,.map (some gm)],im gm (bkA f.Blocks f.Blocks.length)],[(1,.pointer (some ⟨g1,0,none⟩)),(5,v46),(7,.func (.func 169) #[] #[.pointer (some ⟨g1,0,none⟩),.pointer (some ⟨g6,0,none⟩)]),(54,cf),(55,.int .i64 (↑(List.length f.Blocks))),(56,.int .i64 (↑k))],f.Blocks.length-k⟩) 0 ⟨Nat.zero_le _,(by first|(intro _ h9;cases h9;done)|(intro _ h9;exact absurd h9 (Nat.not_lt_zero _)))⟩ (dc d0 (dc d2 (dc d5 dn))) (kd (kd kn)) ⟨Z,Z,Z,Z,Z,eqI (by omega),trivial⟩ ?_
 rintro k;dsimp only;rintro⟨hk,hB9⟩
 refine jq (jr (js (Ar Z Z) (jn (jx (jq ?_)))))
 refine jif Z (fun hc2=>?_) (fun hc2=>?_)
 have hb:k<f.Blocks.length:=by omega
 refine jsk (jx (jq (jb (jq (jr (jm Z (js (jix U47 Z62 (Aj.cB d2) Z Z Z (by omega)) (jA4 Le (jlA (dix (Aj.cB d2) k (by omega)) A62 Z62 Z) fun c60a c60b c60c c60d=>Bo J62 Z fun g9=>ja Z (jdq (Af.cP d0) fun q13 w13=>?_)))))))))
 refine jdq (Af.cI d0) fun q14 w14=>jdq (Af.c_Term_Args d0) fun q15 w15=>jdq (Af.c_Term_To d0) fun q16 w16=>Bk k0 Z62 Z Z Z ⟨w13.one,w14.one,Z,w15.one,w16.one,Z,trivial⟩ (saf Z) (jn (jx (jq (jq (jr (js (jf Dy Z) (js (jl k0 O57 Z Z) (js (jln U57 (Af.cP d0) Z) ?_))))))))
 refine jm Z (jn (jx (jb ?_)))
 refine jlp (fun(i:Nat)=>⟨i≤(ix f.Blocks k).Phis.length∧(∀p∈(ix f.Blocks k).Phis.take i,Q6 f k p),[da Af (vBlock (ix f.Blocks k) (c60a,c60b,c60c,c60d)) (ix f.Blocks k),dv (rL (rI .i64)) c48.1 c48.2,dv (rL (rL (rI .i64))) v46 (Cv (Bh f)),da Aj (vFunc f cf) f],[bx g9 62 [c60a,c60b,.int .i64 (((ix f.Blocks k).Term).Kind),c60c,c60d,.int .i32 (((ix f.Blocks k).Term).Imm)],bx g6 22 [c48.1],bx g1 176 [.pointer (some ⟨g0,0,none⟩)],bx g0 179 [.int .i64 f.Params,cf,.map (some gm)],im gm (bkA f.Blocks f.Blocks.length)],[(1,.pointer (some ⟨g1,0,none⟩)),(5,v46),(7,.func (.func 169) #[] #[.pointer (some ⟨g1,0,none⟩),.pointer (some ⟨g6,0,none⟩)]),(8,.int .i64 (↑k)),(9,.pointer (some ⟨g9,0,none⟩)),(54,cf),(55,.int .i64 (↑(List.length f.Blocks))),(56,.int .i64 (↑k)),(62,c60a),(63,.int .i64 (↑(List.length ((ix f.Blocks k).Phis)))),(64,.int .i64 (↑i))],(ix f.Blocks k).Phis.length-i⟩) 0 ⟨Nat.zero_le _,(by first|(intro _ h9;cases h9;done)|(intro _ h9;exact absurd h9 (Nat.not_lt_zero _)))⟩ (dc d0 (dc d1 (dc d2 (dc d3 dn)))) (kd (kd (kc k0 kn))) ⟨Z,Z,Z,Z,Z,Z,Z,Z,Z,Z,eqI (by omega),trivial⟩ ?_
 rintro i;dsimp only;rintro⟨hi,hP9⟩
 refine jq (jr (js (Ar Z Z) (jn (jx (jq ?_)))))
 refine jif Z (fun hc3=>?_) (fun hc3=>?_)
 refine jsk (jx (jq (jb (jq (jr (jm Z (js (jix U57 Z65 (Af.cP d0) Z Z Z (by omega)) (jA Wt (jlA (dix (Af.cP d0) i (by omega)) A65 Z65 Z) fun c68=>Bo J65 Z fun g11=>ja Z (jdq (Aw.c_In d0) fun q18 w18=>?_)))))))))
 refine Bk k0 Z65 Z Z Z ⟨Z,w18.one,trivial⟩ (saf Z) (jn (jx (jq (Gh Bi (by kernel_rfl) (jt (jmv Z) (jt (Ee Z Z) (jt (jmv Z) (jtg Z Z (.t _) (fun hg=>jf Fa Z) (jtg Z Z (.t _) (fun hg=>jl k0 O63 (evg Z hg) Z) (jtg Z Z (.t _) (fun hg=>jln U63 (Aw.c_In d0) (evg Z hg)) (jtg Z Z (.t _) (fun hg=>jmv Z) ?_)))))))))))
 refine jtg Z Z (.t _) (fun hg=>jmv Z) (jtg Z Z (.t _) (fun hg=>jix Df Z22 d3 (evg Z hg) (evg Z hg) Z (by first|omega|(have h9:=hfj hg;omega)|(simp at hg;omega)|(simp only[List.length_set];omega)|(simp;done))) (W9 (q:=fun v=>dv (rL (rI .i64)) v (ix (Cv (Bh f)) k)) Z Z (.t _) (fun hg=>jlV (dix d3 k (by first|omega|(have h9:=hfj hg;omega)|(simp at hg;omega)|(simp only[List.length_set];omega)|(simp;done))) O22 Z (evg Z hg)) fun v78=>jtg Z Z (.t _) (fun hg=>jln U22 (d0.on hg) (evg Z hg)) (jtg Z Z (.t _) (fun hg=>Ao (evg Z hg) (evg Z hg)) (jt (Cf Z Z) (jt (jas Z) (jdn (jx (jq (jq (jr ?_))))))))))
 refine js (jf Fa Z) (js (jl k0 O63 Z Z) (js (jln U63 (Aw.c_In d1) Z) (jm Z (jn (jx (jb ?_))))))
 refine jlp (u2 fun(j:Nat) (ft:Bool)=>⟨j≤(ix (ix f.Blocks k).Phis i).In.length∧(ft=true↔Qd f k (ix (ix f.Blocks k).Phis i) j),[da Aw (vPhi (ix ((ix f.Blocks k).Phis) i) c68) (ix ((ix f.Blocks k).Phis) i),da Af (vBlock (ix f.Blocks k) (c60a,c60b,c60c,c60d)) (ix f.Blocks k),dv (rL (rI .i64)) c48.1 c48.2,dv (rL (rL (rI .i64))) v46 (Cv (Bh f)),da Aj (vFunc f cf) f],[bx g11 65 [.int .i64 ((ix ((ix f.Blocks k).Phis) i).Dst),c68],bx g9 62 [c60a,c60b,.int .i64 (((ix f.Blocks k).Term).Kind),c60c,c60d,.int .i32 (((ix f.Blocks k).Term).Imm)],bx g6 22 [c48.1],bx g1 176 [.pointer (some ⟨g0,0,none⟩)],bx g0 179 [.int .i64 f.Params,cf,.map (some gm)],im gm (bkA f.Blocks f.Blocks.length)],[(1,.pointer (some ⟨g1,0,none⟩)),(5,v46),(7,.func (.func 169) #[] #[.pointer (some ⟨g1,0,none⟩),.pointer (some ⟨g6,0,none⟩)]),(8,.int .i64 (↑k)),(9,.pointer (some ⟨g9,0,none⟩)),(10,.int .i64 (↑i)),(11,.pointer (some ⟨g11,0,none⟩)),(12,.bool ft),(54,cf),(55,.int .i64 (↑(List.length f.Blocks))),(56,.int .i64 (↑k)),(62,c60a),(63,.int .i64 (↑(List.length ((ix f.Blocks k).Phis)))),(64,.int .i64 (↑i)),(83,c68),(84,.int .i64 (↑(List.length ((ix ((ix f.Blocks k).Phis) i).In)))),(85,.int .i64 (↑j))],(ix (ix f.Blocks k).Phis i).In.length-j⟩) (0,(decide (0<((k:Nat):Int)))&&(decide (((List.length ((ix ((ix f.Blocks k).Phis) i).In):Nat):Int)=((List.length (ix (Cv (Bh f)) k):Nat):Int)))) ⟨Nat.zero_le _,by dsimp only;unfold Qd;simp;omega⟩ (dc d1 (dc d2 (dc d3 (dc d4 (dc d5 dn))))) (kd (kd (kd kn))) ⟨Z,Z,Z,Z,Z,Z,Z,Z,Z,Z,Z,Z,Z,Z,Z,Z,eqI (by omega),trivial⟩ ?_
 rintro⟨j,ft⟩;dsimp only[u2];rintro⟨hj,hft⟩
 refine jq (jr (js (Ar Z Z) (jn (jx (jq ?_)))))
 refine jif Z (fun hc4=>?_) (fun hc4=>?_)
 have hfj:ft=true→(ix (ix f.Blocks k).Phis i).In.length=(ix (Cv (Bh f)) k).length:=fun h=>(hft.1 h).1.2
 refine jsk (jx (jq (jb (jq (jr (jm Z (js (jix U63 Hh (Aw.c_In d0) Z Z Z (by omega)) (jA sIn (jlA (dix (Aw.c_In d0) j (by omega)) B5 Hh Z) fun _=>Bo DL Z fun g14=>ja Z (Bk k0 Hh Z Z Z ⟨Z,Z,trivial⟩ (saf Z) ?_)))))))))
 refine jn (jx (Gh Bi (by kernel_rfl) (jt (jmv Z) (jt (jmv Z) (jtg Z Z (.t _) (fun hg=>jf Ng Z) (jtg Z Z (.t _) (fun hg=>jl k0 O3 (evg Z hg) Z) (jtg Z Z (.t _) (fun hg=>jmv Z) (jtg Z Z (.t _) (fun hg=>jmv Z) (jtg Z Z (.t _) (fun hg=>jix Df Z22 d4 (evg Z hg) (evg Z hg) Z (by first|omega|(have h9:=hfj hg;omega)|(simp at hg;omega)|(simp only[List.length_set];omega)|(simp;done))) (W9 (q:=fun v=>dv (rL (rI .i64)) v (ix (Cv (Bh f)) k)) Z Z (.t _) (fun hg=>jlV (dix d4 k (by first|omega|(have h9:=hfj hg;omega)|(simp at hg;omega)|(simp only[List.length_set];omega)|(simp;done))) O22 Z (evg Z hg)) fun v97=>jtg Z Z (.t _) (fun hg=>jmv Z) ?_))))))))))
 refine jtg Z Z (.t _) (fun hg=>jix U22 Z3 (d0.on hg) (evg Z hg) (evg Z hg) Z (by first|omega|(have h9:=hfj hg;omega)|(simp at hg;omega)|(simp only[List.length_set];omega)|(simp;done))) (jtg Z Z (.t _) (fun hg=>jlI (dix (d0.on hg) j (by first|omega|(have h9:=hfj hg;omega)|(simp at hg;omega)|(simp only[List.length_set];omega)|(simp;done))) O3 (evg Z hg)) (jtg Z Z (.t _) (fun hg=>Ao (evg Z hg) (evg Z hg)) (jt (Cf Z Z) (jt (jas Z) (jdn (jbn (jx (jr (js (Al Z Z (by omega)) (jm Z (jn ?_)))))))))))
 exact jag (j+1,ft&&(decide ((ix ((ix ((ix f.Blocks k).Phis) i).In) j).From=ix (ix (Cv (Bh f)) k) j))) ⟨by dsimp only;omega,QO (by omega) hft (by first|rfl|(dsimp only;rfl)|(simp;done))⟩ (dc d2 (dc d3 (dc d4 (dc d5 (dc d6 dn))))) (kc k1 (kc k1 (kc k1 (kc k1 (kc k1 (kc k1 kn)))))) ⟨Z,Z,Z,Z,Z,Z,Z,Z,Z,Z,Z,Z,Z,Z,Z,Z,eqI (by omega),trivial⟩
 refine jex (jtx (jtx (jbh (jx (jq (jr (jm Z (jm Z (jm Z (js (Gw Z Z (by omega)) (jcy Kh Z Z (Jz _ _ _ _ (by decide)) dn kn (fun _=>p0) (fun _=>p0) (fun c hc=>⟨(fun h9=>by have h8:=((h9.us k hb).1 _ (Ax (l:=(ix f.Blocks k).Phis) (i:=i) (by omega))).1;have h7:=hft.2 ((AR (Nat.le_of_not_lt (by omega))).2 h8);rw[hc.1] at h7;cases h7),hc.2⟩) fun hm108=>?_)))))))))))
 have hft9:=(AR (Nat.le_of_not_lt (by omega))).1 (hft.1 hm108.down)
 refine jn (jx (jq (jr (js (jf Fa Z) (js (jl k0 O63 Z Z) (js (jln U63 (Aw.c_In d0) Z) (jm Z (jn (jx (jb ?_))))))))))
 refine jlp (fun(j:Nat)=>⟨j≤(ix (ix f.Blocks k).Phis i).In.length∧(∀x∈(ix (ix f.Blocks k).Phis i).In.take j,US f x.Val x.From.toNat (ix f.Blocks x.From.toNat).Ins.length),[da Aw (vPhi (ix ((ix f.Blocks k).Phis) i) c68) (ix ((ix f.Blocks k).Phis) i),da Af (vBlock (ix f.Blocks k) (c60a,c60b,c60c,c60d)) (ix f.Blocks k),dv (rL (rI .i64)) c48.1 c48.2,dv (rL (rL (rI .i64))) v46 (Cv (Bh f)),da Aj (vFunc f cf) f],[bx g9 62 [c60a,c60b,.int .i64 (((ix f.Blocks k).Term).Kind),c60c,c60d,.int .i32 (((ix f.Blocks k).Term).Imm)],bx g6 22 [c48.1],bx g1 176 [.pointer (some ⟨g0,0,none⟩)],bx g0 179 [.int .i64 f.Params,cf,.map (some gm)],im gm (bkA f.Blocks f.Blocks.length)],[(1,.pointer (some ⟨g1,0,none⟩)),(5,v46),(7,.func (.func 169) #[] #[.pointer (some ⟨g1,0,none⟩),.pointer (some ⟨g6,0,none⟩)]),(8,.int .i64 (↑k)),(9,.pointer (some ⟨g9,0,none⟩)),(10,.int .i64 (↑i)),(54,cf),(55,.int .i64 (↑(List.length f.Blocks))),(56,.int .i64 (↑k)),(62,c60a),(63,.int .i64 (↑(List.length ((ix f.Blocks k).Phis)))),(64,.int .i64 (↑i)),(110,c68),(111,.int .i64 (↑(List.length ((ix ((ix f.Blocks k).Phis) i).In)))),(112,.int .i64 (↑j))],(ix (ix f.Blocks k).Phis i).In.length-j⟩) 0 ⟨Nat.zero_le _,(by first|(intro _ h9;cases h9;done)|(intro _ h9;exact absurd h9 (Nat.not_lt_zero _)))⟩ (dc d0 (dc d1 (dc d2 (dc d3 (dc d4 dn))))) (kc k1 (kc k1 (kc k1 (kc k1 (kc k1 kn))))) ⟨Z,Z,Z,Z,Z,Z,Z,Z,Z,Z,Z,Z,Z,Z,eqI (by omega),trivial⟩ ?_
 rintro j;dsimp only;rintro⟨hj,hV9⟩
 refine jq (jr (js (Ar Z Z) (jn (jx (jq ?_)))))
 refine jif Z (fun hc5=>?_) (fun hc5=>?_)
 have hx9:=QN hft9.2 (Ax (l:=(ix (ix f.Blocks k).Phis i).In) (i:=j) (by omega))
 refine jsk (jx (jq (jb (jq (jr (js (jix U63 Hh (Aw.c_In d0) Z Z Z (by omega)) (jA sIn (jlA (dix (Aw.c_In d0) j (by omega)) B5 Hh Z) fun _=>Bo DL Z fun g16=>Bk k0 Hh Z Z Z ⟨Z,Z,trivial⟩ (saf Z) (jn (jx ?_)))))))))
 refine Bz false (.a 0 (.a 1 (.a 2 (.a 3 (.a 4 (.a 5 (.a 6 (.a 7 (.a 8 (.a 9 (.a 10 (.a 11 (.a 12 (.a 13 (.a 14 (.a 15 (.a 16 (.a 17 (.a 18 (.o 19 .e)))))))))))))))))))) Bi (by kernel_rfl) (kc k0 (kc k2 (kc k2 kn))) fun F23=>jy Z (jmv Z) (jy Z (jf Qi Z) (jy Z (jl k0 O3 Z Z) (jy Z (jf Ng Z) (jy Z (jl k0 O3 Z Z) (jy Z (jmv Z) (jy Z (Gw Z Z (by omega)) (jy Z (jl k1 Qa Z Z) (jy Z (Ak Z) (jy Z (jf Nf Z) (jy Z (jf Bu Z) ?_))))))))))
 refine jy Z (jl k2 O47 Z Z) (jy Z (jf Ng Z) (jy Z (jl k0 O3 Z Z) (jy Z (jix (i:=(Int.toNat ((ix ((ix ((ix f.Blocks k).Phis) i).In) j).From))) U47 Z62 (Aj.cB d5) Z Z (by omega) (by omega)) (jy Z (jf Cn Z) (jye (q:=fun v=>dv (rL Am) v ((ix f.Blocks (Int.toNat ((ix ((ix ((ix f.Blocks k).Phis) i).In) j).From))).Ins)) Z (xlV (Af.A_Ins (dix (Aj.cB d5) (Int.toNat ((ix ((ix ((ix f.Blocks k).Phis) i).In) j).From)) (by omega))) O58 Z Z) fun v132=>adq d0 fun q25 w25=>jy Z (jln U58 d0 Z) (jy Z (jmv Z) (jyo Z (jcy Zy Z Z (Xy (f:=f) _ _ _ _ _ hS rfl hdg hx9) (dc d7 (dc d5 dn)) (kc k4 (kc k4 (kc k3 (kc k2 kn)))) (fun _=>p0) (fun _=>p4) (fun c hc=>⟨(fun h9=>hc.1 (((h9.us k hb).1 _ (Ax (l:=(ix f.Blocks k).Phis) (i:=i) (by omega))).2 _ (Ax (l:=(ix (ix f.Blocks k).Phis i).In) (i:=j) (by omega)))),hc.2⟩) fun hm135=>jyn d0 (kc k4 (kc k2 (kc k0 kn))) ?_))))))))
 refine jyd (jbn (jx (jr (js (Al Z Z (by omega)) (jm Z (jn ?_))))))
 exact jag (j+1) ⟨by omega,Vc (by omega) hV9 hm135.down⟩ (dc d3 (dc d4 (dc d5 (dc d6 (dc d7 dn))))) (kc k5 (kc k3 (kc k2 (kd kn)))) ⟨Z,Z,Z,Z,Z,Z,Z,Z,Z,Z,Z,Z,Z,Z,eqI (by omega),trivial⟩
 refine jex (jtx (jtx (jbh (jbn (jx (jr (js (Al Z Z (by omega)) (jm Z (jn ?_)))))))))
 exact jag (i+1) ⟨by omega,Vc (by omega) hP9 ⟨hft9,Ve hV9 (by omega)⟩⟩ (dc d1 (dc d2 (dc d3 (dc d4 dn)))) (kd (kd (kc k0 kn))) ⟨Z,Z,Z,Z,Z,Z,Z,Z,Z,Z,eqI (by omega),trivial⟩
 refine jex (jtx (jtx (jbh (jx (jq (jq (jr (js (jf Cn Z) (js (jl k0 O58 Z Z) (js (jln U58 (Af.cI d0) Z) (jm Z ?_)))))))))))
 refine jn (jx (jb ?_))
 refine jlp (fun(i:Nat)=>⟨i≤(ix f.Blocks k).Ins.length∧(∀m,m<i→∀v∈(ix (ix f.Blocks k).Ins m).Args,US f v k m),[da Af (vBlock (ix f.Blocks k) (c60a,c60b,c60c,c60d)) (ix f.Blocks k),dv (rL (rI .i64)) c48.1 c48.2,dv (rL (rL (rI .i64))) v46 (Cv (Bh f)),da Aj (vFunc f cf) f],[bx g9 62 [c60a,c60b,.int .i64 (((ix f.Blocks k).Term).Kind),c60c,c60d,.int .i32 (((ix f.Blocks k).Term).Imm)],bx g6 22 [c48.1],bx g1 176 [.pointer (some ⟨g0,0,none⟩)],bx g0 179 [.int .i64 f.Params,cf,.map (some gm)],im gm (bkA f.Blocks f.Blocks.length)],[(1,.pointer (some ⟨g1,0,none⟩)),(5,v46),(7,.func (.func 169) #[] #[.pointer (some ⟨g1,0,none⟩),.pointer (some ⟨g6,0,none⟩)]),(8,.int .i64 (↑k)),(9,.pointer (some ⟨g9,0,none⟩)),(54,cf),(55,.int .i64 (↑(List.length f.Blocks))),(56,.int .i64 (↑k)),(139,c60b),(140,.int .i64 (↑(List.length ((ix f.Blocks k).Ins)))),(141,.int .i64 (↑i))],(ix f.Blocks k).Ins.length-i⟩) 0 ⟨Nat.zero_le _,(by first|(intro _ h9;cases h9;done)|(intro _ h9;exact absurd h9 (Nat.not_lt_zero _)))⟩ (dc d0 (dc d1 (dc d2 (dc d3 dn)))) (kd (kd (kc k0 kn))) ⟨Z,Z,Z,Z,Z,Z,Z,Z,Z,Z,eqI (by omega),trivial⟩ ?_
 rintro i;dsimp only;rintro⟨hi,hI9⟩
 refine jq (jr (js (Ar Z Z) (jn (jx (jq ?_)))))
 refine jif Z (fun hc6=>?_) (fun hc6=>?_)
 refine jsk (jx (jq (jb (jq (jr (jm Z (js (jix U58 Z67 (Af.cI d0) Z Z Z (by omega)) (jA Mb (jlA (dix (Af.cI d0) i (by omega)) A67 Z67 Z) fun c145=>Bo J67 Z fun g18=>ja Z (jdq (Am.c_Args d0) fun q28 w28=>?_)))))))))
 refine Bk k0 Z67 Z Z Z ⟨Z,Z,Z,w28.one,Z,trivial⟩ (saf Z) (jn (jx (jq (jr (js (jf Hi Z) (js (jl k0 O22 Z Z) (js (jln U22 (Am.c_Args d0) Z) (jm Z (jn (jx (jb ?_)))))))))))
 refine jlp (fun(j:Nat)=>⟨j≤(ix (ix f.Blocks k).Ins i).Args.length∧(∀v∈(ix (ix f.Blocks k).Ins i).Args.take j,US f v k i),[da Am (vIns (ix ((ix f.Blocks k).Ins) i) c145) (ix ((ix f.Blocks k).Ins) i),da Af (vBlock (ix f.Blocks k) (c60a,c60b,c60c,c60d)) (ix f.Blocks k),dv (rL (rI .i64)) c48.1 c48.2,dv (rL (rL (rI .i64))) v46 (Cv (Bh f)),da Aj (vFunc f cf) f],[bx g9 62 [c60a,c60b,.int .i64 (((ix f.Blocks k).Term).Kind),c60c,c60d,.int .i32 (((ix f.Blocks k).Term).Imm)],bx g6 22 [c48.1],bx g1 176 [.pointer (some ⟨g0,0,none⟩)],bx g0 179 [.int .i64 f.Params,cf,.map (some gm)],im gm (bkA f.Blocks f.Blocks.length)],[(1,.pointer (some ⟨g1,0,none⟩)),(5,v46),(7,.func (.func 169) #[] #[.pointer (some ⟨g1,0,none⟩),.pointer (some ⟨g6,0,none⟩)]),(8,.int .i64 (↑k)),(9,.pointer (some ⟨g9,0,none⟩)),(17,.int .i64 (↑i)),(54,cf),(55,.int .i64 (↑(List.length f.Blocks))),(56,.int .i64 (↑k)),(139,c60b),(140,.int .i64 (↑(List.length ((ix f.Blocks k).Ins)))),(141,.int .i64 (↑i)),(147,c145),(148,.int .i64 (↑(List.length ((ix ((ix f.Blocks k).Ins) i).Args)))),(149,.int .i64 (↑j))],(ix (ix f.Blocks k).Ins i).Args.length-j⟩) 0 ⟨Nat.zero_le _,(by first|(intro _ h9;cases h9;done)|(intro _ h9;exact absurd h9 (Nat.not_lt_zero _)))⟩ (dc d0 (dc d1 (dc d2 (dc d3 (dc d4 dn))))) (kc k1 (kc k1 (kc k1 (kc k1 (kc k1 kn))))) ⟨Z,Z,Z,Z,Z,Z,Z,Z,Z,Z,Z,Z,Z,Z,eqI (by omega),trivial⟩ ?_
 rintro j;dsimp only;rintro⟨hj,hA9⟩
 refine jq (jr (js (Ar Z Z) (jn (jx (jq ?_)))))
 refine jif Z (fun hc7=>?_) (fun hc7=>?_)
 refine jsk (jx (jq (jb (jq (jr (js (jix U22 Z3 (Am.c_Args d0) Z Z Z (by omega)) (js (jlI (dix (Am.c_Args d0) j (by omega)) O3 Z) (ja Z (jn (jx (jr ?_)))))))))))
 refine jm Z (jm Z (jm Z (jm Z (jm Z (jm Z (jcy Zy Z Z (Xy (f:=f) _ _ _ _ _ hS rfl hdg ⟨by omega,by omega⟩) (dc d4 (dc d2 dn)) (kc k3 (kc k3 (kc k2 (kc k1 kn)))) (fun _=>p0) (fun _=>p4) (fun c hc=>⟨(fun h9=>hc.1 (by rw[Int.toNat_natCast];exact(h9.us k hb).2.1 i (by omega) _ (Ax (l:=(ix (ix f.Blocks k).Ins i).Args) (i:=j) (by omega)))),hc.2⟩) fun hm159=>jn (jbn (jx (jr (js (Al Z Z (by omega)) ?_))))))))))
 refine jm Z (jn ?_)
 exact jag (j+1) ⟨by omega,Vc (by omega) hA9 (by have h9:=hm159.down;rwa[Int.toNat_natCast] at h9)⟩ (dc d0 (dc d1 (dc d2 (dc d3 (dc d4 dn))))) (kc k4 (kc k3 (kc k2 (kd kn)))) ⟨Z,Z,Z,Z,Z,Z,Z,Z,Z,Z,Z,Z,Z,Z,eqI (by omega),trivial⟩
 refine jex (jtx (jtx (jbh (jbn (jx (jr (js (Al Z Z (by omega)) (jm Z (jn ?_)))))))))
 exact jag (i+1) ⟨by omega,Ud hI9 (Ve hA9 (by omega))⟩ (dc d1 (dc d2 (dc d3 (dc d4 dn)))) (kd (kd (kc k0 kn))) ⟨Z,Z,Z,Z,Z,Z,Z,Z,Z,Z,eqI (by omega),trivial⟩
 refine jex (jtx (jtx (jbh (jx (jq (jr (js (jf Eh Z) (js (jf Jq Z) (js (jl k0 O22 Z Z) (js (jln U22 (Af.c_Term_Args d0) Z) (jm Z ?_)))))))))))
 refine jn (jx (jb ?_))
 refine jlp (fun(j:Nat)=>⟨j≤(ix f.Blocks k).Term.Args.length∧(∀v∈(ix f.Blocks k).Term.Args.take j,US f v k (ix f.Blocks k).Ins.length),[da Af (vBlock (ix f.Blocks k) (c60a,c60b,c60c,c60d)) (ix f.Blocks k),dv (rL (rI .i64)) c48.1 c48.2,dv (rL (rL (rI .i64))) v46 (Cv (Bh f)),da Aj (vFunc f cf) f],[bx g9 62 [c60a,c60b,.int .i64 (((ix f.Blocks k).Term).Kind),c60c,c60d,.int .i32 (((ix f.Blocks k).Term).Imm)],bx g6 22 [c48.1],bx g1 176 [.pointer (some ⟨g0,0,none⟩)],bx g0 179 [.int .i64 f.Params,cf,.map (some gm)],im gm (bkA f.Blocks f.Blocks.length)],[(1,.pointer (some ⟨g1,0,none⟩)),(5,v46),(7,.func (.func 169) #[] #[.pointer (some ⟨g1,0,none⟩),.pointer (some ⟨g6,0,none⟩)]),(8,.int .i64 (↑k)),(9,.pointer (some ⟨g9,0,none⟩)),(54,cf),(55,.int .i64 (↑(List.length f.Blocks))),(56,.int .i64 (↑k)),(164,c60c),(165,.int .i64 (↑(List.length (((ix f.Blocks k).Term).Args)))),(166,.int .i64 (↑j))],(ix f.Blocks k).Term.Args.length-j⟩) 0 ⟨Nat.zero_le _,(by first|(intro _ h9;cases h9;done)|(intro _ h9;exact absurd h9 (Nat.not_lt_zero _)))⟩ (dc d0 (dc d1 (dc d2 (dc d3 dn)))) (kd (kd (kc k0 kn))) ⟨Z,Z,Z,Z,Z,Z,Z,Z,Z,Z,eqI (by omega),trivial⟩ ?_
 rintro j;dsimp only;rintro⟨hj,hT9⟩
 refine jq (jr (js (Ar Z Z) (jn (jx (jq ?_)))))
 refine jif Z (fun hc8=>?_) (fun hc8=>?_)
 refine jsk (jx (jq (jb (jq (jr (js (jix U22 Z3 (Af.c_Term_Args d0) Z Z Z (by omega)) (js (jlI (dix (Af.c_Term_Args d0) j (by omega)) O3 Z) (ja Z (jn (jx (jr ?_)))))))))))
 refine jm Z (jm Z (jm Z (js (jf Cn Z) (js (jl k0 O58 Z Z) (js (jln U58 (Af.cI d0) Z) (js (jf Cn Z) (js (jl k0 O58 Z Z) (js (jln U58 (Af.cI d0) Z) (jm Z (jcy Zy Z Z (Xy (f:=f) _ _ _ _ _ hS rfl hdg ⟨by omega,by omega⟩) (dc d3 (dc d1 dn)) (kc k3 (kc k3 (kc k2 (kc k1 kn)))) (fun _=>p0) (fun _=>p4) (fun c hc=>⟨(fun h9=>hc.1 (by rw[Int.toNat_natCast];exact(h9.us k hb).2.2 _ (Ax (l:=(ix f.Blocks k).Term.Args) (i:=j) (by omega)))),hc.2⟩) fun hm180=>jn ?_))))))))))
 refine jbn (jx (jr (js (Al Z Z (by omega)) (jm Z (jn ?_)))))
 exact jag (j+1) ⟨by omega,Vc (by omega) hT9 (by have h9:=hm180.down;rwa[Int.toNat_natCast] at h9)⟩ (dc d0 (dc d1 (dc d2 (dc d3 dn)))) (kc k4 (kc k3 (kc k2 (kd kn)))) ⟨Z,Z,Z,Z,Z,Z,Z,Z,Z,Z,eqI (by omega),trivial⟩
 refine jex (jtx (jtx (jbh (jbn (jx (jr (js (Al Z Z (by omega)) (jm Z (jn ?_)))))))))
 exact jag (k+1) ⟨by omega,Ud hB9 ⟨Ve hP9 (by omega),fun i hi=>hI9 i (by omega),Ve hT9 (by omega)⟩⟩ (dc d1 (dc d2 (dc d3 dn))) (kc k1 (kc k1 (kc k1 (kc k1 kn)))) ⟨Z,Z,Z,Z,Z,eqI (by omega),trivial⟩
 refine jex (jtx (jtx (jbh ?_)))
 exact Nh (jd0 Z ⟨⟨fun b hb=>hw b (by omega),fun b hb=>hB9 b (by omega)⟩⟩ Z dn (fun _ _=>(kc k2 (kc k2 kn))))
end Go.Proofs.YtmfkkodnghambaaGreat
namespace Go.Proofs.YtmfkkodnghambaaGreat
open Go.JE
theorem TW:Fld Tryz.prog 173 0 0:=⟨_,_,Tryz.underlying173,rfl,rfl,1,(by unfold Sz;kernel_rfl),by decide⟩
theorem TU:Fld Tryz.prog 173 1 1:=⟨_,_,Tryz.underlying173,rfl,rfl,1,(by unfold Sz;kernel_rfl),by decide⟩
theorem TT:Fld Tryz.prog 173 2 2:=⟨_,_,Tryz.underlying173,rfl,rfl,1,(by unfold Sz;kernel_rfl),by decide⟩
theorem TB:Sz Tryz.prog 173 3:=by unfold Sz;kernel_rfl
theorem TI:(Tryz.prog.info? 173).bind (·.zero)=some (.agg #[.int .i64 0,.int .i64 0,.int .i64 0]):=by kernel_rfl
theorem Qu{g0:Nat}{g1:Nat}{g2:Nat}(e:Int)(b:Int)(p:Int):TrK Tryz.prog 112 #[.pointer (some ⟨g0,0,none⟩),.pointer (some ⟨g1,0,none⟩),.pointer (some ⟨g2,0,none⟩)] (.iface 173 (.agg #[.int .i64 e,.int .i64 b,.int .i64 p])) [] [bx g0 89 [.int .i64 0],bx g1 3 [.int .i64 0],bx g2 3 [.int .i64 0]] (fun _:Unit => .tuple #[]) (fun _=>[]) (fun _ _=>[bx g0 89 [.int .i64 e],bx g1 3 [.int .i64 b],bx g2 3 [.int .i64 p]]):=by
 refine MQ (args:=[.pointer (some ⟨g0,0,none⟩),.pointer (some ⟨g1,0,none⟩),.pointer (some ⟨g2,0,none⟩)]) Tryz.func112 rfl rfl rfl rfl fun w0 X=>?_
 refine jb (jq (jr (js (NT U20 Z) (jn (jx ?_)))))
 refine jif Z (fun hc1=>?_) (fun hc1=>?_)
 exact absurd hc1 (by simp)
 refine jq (jr (js (NB DF rfl Z) (js (Bs Z Z) (js (Bs Z Z) (jn (jx ?_))))))
 refine jif Z (fun hc2=>?_) (fun hc2=>?_)
 refine jq (jr (Bo TI Z fun g4=>Bk k0 TB Z Z Z ⟨Z,Z,Z,trivial⟩ (saf Z) (jn (jx (Bz true (.a 0 (.a 1 (.a 2 (.a 3 (.a 4 (.a 5 (.o 6 (.o 7 (.o 8 .e))))))))) Bi (by kernel_rfl) (kc k0 kn) fun F1=>jy Z (jf TW Z) (jy Z (jl k0 O89 Z Z) (jy Z (jf TU Z) (jy Z (jl k0 O3 Z Z) (jy Z (jf TT Z) ?_)))))))))
 refine jy Z (jl k0 O3 Z Z) (jyo Z (jst k1 Z89 Z Z Z s0 (jyn d0 (kc k1 kn) (jyo Z (jst k2 Z3 Z Z Z s0 (jyn d0 (kc k2 kn) (jyo Z (jst k3 Z3 Z Z Z s0 (jyz d0 (jyd (jbn ?_)))))))))))
 exact jd0 Z () Z dn (fun _ _=>(kc k2 (kc k1 (kc k0 kn))))
 exact absurd hc2 (by simp)
theorem MZ{a0:Value}{f:D.Func}:Tr Tryz.prog 59 #[vFunc f a0] [da Aj (vFunc f a0) f] [] (fun i:{ t:Int×Int×Int // t.1=0↔GoodF f } => .tuple #[.int .i64 i.1.1,.int .i64 i.1.2.1,.int .i64 i.1.2.2]) (fun _=>[]) (fun _ _=>[]):=by
 refine NW (args:=[vFunc f a0]) Tryz.func59 rfl rfl rfl fun w0 X=>?_
 refine jq (jr (Cm Z Z fun g1=>Bo J89 Z fun g2=>Bo J3 Z fun g3=>Bo J3 Z fun g4=>jn (jx (jq (jr (js (NL Z Z Z) (jdf Z ?_)))))))
 refine jn (jx (jq (jr (js (jf Hu Z) (js (jl k3 O3 Z Z) (jcv Oh Z Z (Nj f.Params 0 4) dn kn (Rg Kh Z Z (Jz _ _ _ _ (by decide)) dn kn (fun _=>p0) (fun _=>p0) (fun c hc=>(by obtain⟨h9,e9,b9,p9,h8,rfl⟩:=hc;exact Rc Z Z Z Z (Qu (g0:=g2) (g1:=g3) (g2:=g4) e9 b9 p9) (kc k2 (kc k1 (kc k0 kn))) O89 O3 O3 Qk ⟨(e9,b9,p9),⟨fun h=>absurd h h8,fun h=>absurd h (fun h=>by have h7:=Mi h.par;rw[h9] at h7;cases h7)⟩⟩ Z dn (fun _ _=>kn))) fun hm13=>?_)))))))
 have hp9:0≤f.Params∧f.Params≤4:=Nu hm13.down
 refine jn (jx (jq (jr (js (jf Bu Z) (js (jl k3 O47 Z Z) (jdq (Aj.cB d0) fun q1 w1=>js (jln U47 (Aj.cB d0) Z) (js (Ee Z Z) (Rg Kh Z Z (Jz _ _ _ _ (by decide)) dn kn (fun _=>p0) (fun _=>p0) (fun c hc=>(by obtain⟨h9,e9,b9,p9,h8,rfl⟩:=hc;exact Rc Z Z Z Z (Qu (g0:=g2) (g1:=g3) (g2:=g4) e9 b9 p9) (kc k2 (kc k1 (kc k0 kn))) O89 O3 O3 Qk ⟨(e9,b9,p9),⟨fun h=>absurd h h8,fun h=>absurd h (fun h=>by have h7:=h.len.1;simp only[decide_eq_false_iff_not] at h9;omega)⟩⟩ Z dn (fun _ _=>kn))) fun hm18=>?_))))))))
 have hl8:0<f.Blocks.length:=by have h9:=hm18.down;simpa using h9
 refine jn (jx (jq (jr (js (jf Bu Z) (js (jl k3 O47 Z Z) (js (jln U47 (Aj.cB d0) Z) (ja Z (jn (jx (jq (jq ?_)))))))))))
 refine jr (js (jf Bu Z) (js (jl k3 O47 Z Z) (js (jln U47 (Aj.cB d0) Z) (jm Z (jn (jx (jb ?_)))))))
 refine jlp (u2 fun(k:Nat) (s:Int)=>⟨k≤f.Blocks.length∧s=((f.Blocks.length+Dx (f.Blocks.take k):Nat):Int)∧Dx (f.Blocks.take k)≤k*2147483648,[da Aj (vFunc f a0) f],[bx g4 3 [.int .i64 0],bx g3 3 [.int .i64 0],bx g2 89 [.int .i64 0],bx g1 49 [.int .i64 f.Params,a0]],[(1,.pointer (some ⟨g1,0,none⟩)),(2,.pointer (some ⟨g2,0,none⟩)),(3,.pointer (some ⟨g3,0,none⟩)),(4,.pointer (some ⟨g4,0,none⟩)),(5,.int .i64 s),(23,a0),(24,.int .i64 (↑(List.length f.Blocks))),(25,.int .i64 (↑k))],f.Blocks.length-k⟩) (0,(f.Blocks.length:Int)) ⟨by dsimp only;omega,by dsimp only;simp[Dx],by simp[Dx]⟩ (dc d0 dn) (kd (kd kn)) ⟨Z,Z,Z,Z,eqI (by omega),Z,Z,eqI (by omega),trivial⟩ ?_
 rintro⟨k,s⟩;dsimp only[u2];rintro⟨hk,hs,hcn⟩
 refine jq (jr (js (Ar Z Z) (jn (jx (jq ?_)))))
 refine jif Z (fun hc1=>?_) (fun hc1=>?_)
 have hb9:=Rn (bs:=f.Blocks) (k:=k) (by omega)
 refine jsk (jx (jq (jb (jq (jr (js (jix U47 Z62 (Aj.cB d0) Z Z Z (by omega)) (jA4 Le (jlA (dix (Aj.cB d0) k (by omega)) A62 Z62 Z) fun c28a c28b c28c c28d=>Bo J62 Z fun g7=>jdq (Af.cP d0) fun q3 w3=>jdq (Af.cI d0) fun q4 w4=>jdq (Af.c_Term_Args d0) fun q5 w5=>?_)))))))
 refine jdq (Af.c_Term_To d0) fun q6 w6=>Bk k0 Z62 Z Z Z ⟨w3.one,w4.one,Z,w5.one,w6.one,Z,trivial⟩ (saf Z) (jn (jx (jr (jm Z (js (jf Dy Z) (js (jl k0 O57 Z Z) (js (jln U57 (Af.cP d0) Z) (js (jf Cn Z) (js (jl k0 O58 Z Z) (js (jln U58 (Af.cI d0) Z) ?_))))))))))
 refine js (Al Z Z (by omega)) (js (Al Z Z (by omega)) (ja Z (jn (jbn (jx (jr (js (Al Z Z (by omega)) (jm Z (jn ?_)))))))))
 exact jag (k+1,s+((((List.length ((ix f.Blocks k).Phis):Nat):Int))+(((List.length ((ix f.Blocks k).Ins):Nat):Int)))) ⟨by dsimp only;omega,by dsimp only;rw[hs,Rn (by omega)];omega,by dsimp only;omega⟩ (dc d1 dn) (kc k1 (kc k1 (kc k1 (kc k1 kn)))) ⟨Z,Z,Z,Z,eqI (by omega),Z,Z,eqI (by omega),trivial⟩
 have hsn:s=((f.Blocks.length+Dx f.Blocks:Nat):Int):=by rw[hs,List.take_of_length_le (by omega)]
 refine jex (jtx (jtx (jbh (jx (jq (jr (js (jf Bu Z) (js (jl k3 O47 Z Z) (js (jln U47 (Aj.cB d0) Z) (js (Nv Z Z) (jm Z ?_)))))))))))
 refine jg Z Z (.t _) (fun hg=>jmv Z) (jg Z Z (.t _) (fun hg=>Nv (evg Z hg) Z) (js (Cf Z Z) (Rg Kh Z Z (Jz _ _ _ _ (by decide)) dn kn (fun _=>p0) (fun _=>p0) (fun c hc=>(by obtain⟨h9,e9,b9,p9,h8,rfl⟩:=hc;exact Rc Z Z Z Z (Qu (g0:=g2) (g1:=g3) (g2:=g4) e9 b9 p9) (kc k2 (kc k1 (kc k0 kn))) O89 O3 O3 Qk ⟨(e9,b9,p9),⟨fun h=>absurd h h8,fun h=>absurd h (fun h=>by have h7:=h.len.2;have h6:=h.cnt;rw[hsn] at h9;simp only[Bool.and_eq_false_iff,decide_eq_false_iff_not] at h9;omega)⟩⟩ Z dn (fun _ _=>kn))) fun hm47=>?_)))
 have hl9:f.Blocks.length≤512∧f.Blocks.length+Dx f.Blocks≤4096:=by have h9:=hm47.down;rw[hsn] at h9;simp at h9;omega
 refine jn (jx (jq (jr (js (jla k3 A49 Z49 Z Z Z) (jmm fun g49=>js (jbu (v := .agg #[.int .i64 f.Params,a0,.map (some g49)]) Z (fun _=>by obtain⟨_,_,_,rfl⟩:=w1;kernel_rfl)) (Cm Z Z fun g51=>ja Z (jn (jx (jq ?_)))))))))
 refine jr (jm Z (Rg VQ Z Z (MT (f:=f) rfl) (dc d0 dn) (kd kn) (fun _=>p0) (fun _=>p2) (fun c hc=>(by obtain⟨h9,e9,b9,p9,h8,rfl⟩:=hc;exact Rc Z Z Z Z (Qu (g0:=g2) (g1:=g3) (g2:=g4) e9 b9 p9) (kc k2 (kc k1 (kc k0 kn))) O89 O3 O3 Qk ⟨(e9,b9,p9),⟨fun h=>absurd h h8,fun h=>absurd h (fun h=>h9 (Yl.1 h).2.2.2.1)⟩⟩ Z dn (fun _ _=>kn))) fun hm53=>jn (jx (jq (jr (jm Z (Rg VP Z Z (MS (f:=f) hm53.down ⟨by omega,hl9.1⟩ rfl) (dc d0 dn) (kd kn) (fun _=>p0) (fun _=>p2) (fun c hc=>(by obtain⟨h9,e9,b9,p9,h8,rfl⟩:=hc;exact Rc Z Z Z Z (Qu (g0:=g2) (g1:=g3) (g2:=g4) e9 b9 p9) (kc k2 (kc k1 (kc k0 kn))) O89 O3 O3 Qk ⟨(e9,b9,p9),⟨fun h=>absurd h h8,fun h=>absurd h (fun h=>h9 (Yl.1 h).2.2.2.2)⟩⟩ Z dn (fun _ _=>kn))) fun hm55=>jn (jx (jq ?_)))))))))
 refine jr (jst k4 Z89 Z Z Z s0 (jst k4 Z3 Z Z Z s0 (jst k4 Z3 Z Z Z s0 (jn (jx (jrt ?_))))))
 exact NE Z Z Z Z k2 O89 k1 O3 k0 O3 Qk (HV g2 g3 g4) ⟨(0,0,0),⟨fun _=>Yl.2 ⟨hp9,⟨by omega,hl9.1⟩,hl9.2,hm53.down,hm55.down⟩,fun _=>rfl⟩⟩ Z dn (fun _ _=>kn)
theorem MU{a0:Value}{f:D.Func}(r:Bool)(hr:r=true↔GoodF f):Tv Tryz.prog 26 #[vFunc f a0] [da Aj (vFunc f a0) f] [] (.bool r):=by
 refine Az (args:=[vFunc f a0]) Tryz.func26 rfl rfl rfl fun w0 X=>?_
 refine jq (jr (Cm Z Z fun g1=>ja Z (jn (jx (jq (jr (js (jla k0 A49 Z49 Z Z Z) (jc E59 Z Z MZ (dc d0 dn) kn (fun _=>p0) (fun _=>p0) fun c8=>jm Z (js (Bs Z Z) ?_)))))))))
 refine js (Bs Z Z) (js (Bs Z Z) (ja Z (ja Z (ja Z (jn (jx (jq (jr (jm Z (js (Ao Z Z) (ja Z ?_)))))))))))
 refine jn (jx (jrt ?_))
 exact jrB Z Z (by have h9:=c8.2;cases r<;>simp_all)
end Go.Proofs.YtmfkkodnghambaaGreat
namespace Go.Proofs.YtmfkkodnghambaaGreat
open Go.JE
theorem Th{a0:Value}{f:D.Func}{a1a a1b a1c:Value}{i:D.Input}(r:Bool)(hr:r=true↔GoodF f)(hN:i.Steps≤1000000):Ts Tryz.prog 23 #[vFunc f a0,vInput i (a1a,a1b,a1c)] [da Aj (vFunc f a0) f,da Br (vInput i (a1a,a1b,a1c)) i] [] Co vOutcome (Ml r f i):=by
 refine Az (args:=[vFunc f a0,vInput i (a1a,a1b,a1c)]) Tryz.func23 rfl rfl rfl fun w0 X=>?_
 refine jq (jr (Cm Z Z fun g2=>Cm Z Z fun g3=>Bo J37 Z fun g4=>jn (jx (jsc (jq (jq (jr (js (jla k2 A49 Z49 Z Z Z) ?_))))))))
 refine jcv E26 Z Z (MU r hr) (dc d0 dn) kn (js (Dq Z) (jn (jx ?_)))
 refine jif Z (fun hc1=>?_) (fun hc1=>?_)
 refine jq (jr (js (jbu (v := .agg #[.int .i64 4,.int .i32 0,.slice none 0 0,.slice none 0 0,.int .i64 0]) Z (fun _=>by kernel_rfl)) (Bk k0 Z37 Z Z Z ⟨Z,Z,Z,Z,Z,trivial⟩ (saf Z) (jn (jx (jrt (jtr (jso ?_))))))))
 exact Ku (val:=vOutcome) (b:=⟨4,0,[],[],0⟩) (c:=(.slice none 0 0,.slice none 0 0)) Z Z k0 A37 Z37 Z (K0 (by simpa using hc1)) (Co.M (m:=⟨4,0,[],[],0⟩) (c:=(.slice none 0 0,.slice none 0 0)) wN wN (wl 4) (wl 0) (wl 0))
 have hr1:r=true:=by simpa using hc1
 have hG:=hr.1 hr1
 have hpr:=hG.par
 have hln:=hG.len
 refine jsk (jx (jq (jr (jvn fun g17=>js (jf Sa Z) (js (jl k2 O29 Z Z) (js (jf Zt Z) (js (jl k2 O3 Z Z) (jdq (Br.c_Answers d1) fun q1 w1=>js (jbu (v := .agg #[.map (some g17),.int .i64 0,.int .i32 0,.slice none 0 0,.slice none 0 0,.int .i64 0,a1c,.int .i64 i.Steps]) Z (fun _=>by obtain⟨_,_,_,rfl⟩:=w1;kernel_rfl)) (Cm Z Z fun g23=>?_)))))))))
 refine ja Z (jn (jx (jq (jr (jm Z (js (jla k3 A31 Z31 Z Z Z) (jcg E28 Z Z KK (dc d1 dn) kn fun v26 w2=>js (Ak Z) (js (jf Gz Z) (js (jf Nc Z) (jst k1 Z29 Z Z w2.one s3 ?_))))))))))
 refine jn (jx (jq (jq (jr (js (jf Qg Z) (js (jl k4 O29 Z Z) (js (jf Qg Z) (js (jl k4 O29 Z Z) (jdq (Br.c_Args d1) fun q3 w3=>js (jln U29 (Br.c_Args d1) Z) (js (jf Hu Z) ?_))))))))))
 refine js (jl k5 O3 Z Z) (js (Lo Z Z) (js (Rb (hi:=(Int.toNat (min (↑(List.length i.Args)) f.Params))) U29 Z21 (Br.c_Args d1) Z Z (by omega) (by omega)) (jdq (dhi (Br.c_Args d1) (Int.toNat (min (↑(List.length i.Args)) f.Params)) (by omega) (by omega)) fun q4 w4=>js (jln U29 (dhi (Br.c_Args d1) (Int.toNat (min (↑(List.length i.Args)) f.Params)) (by omega) (by omega)) Z) (jm Z (jn (jx (jb ?_)))))))
 refine jlp (u2 fun(k:Nat) (V1:Int→Int)=>⟨k≤(Gy f i).length∧V1=Mz (Gy f i) k,[da Aj (vFunc f a0) f,da Br (vInput i (a1a,a1b,a1c)) i],[bx g23 115 [.map (some g17),.int .i64 0,.int .i32 0,v26,.slice none 0 0,.int .i64 0,a1c,.int .i64 i.Steps],gl X.n (rI .i32) 21 v26 (Kr i),vm g17 V1,bx g4 37 [.int .i64 0,.int .i32 0,.slice none 0 0,.slice none 0 0,.int .i64 0],bx g2 49 [.int .i64 f.Params,a0]],[(2,.pointer (some ⟨g2,0,none⟩)),(4,.pointer (some ⟨g4,0,none⟩)),(5,.pointer (some ⟨g23,0,none⟩)),(38,(resl 1 a1a 0 (Int.toNat (min (↑(List.length i.Args)) f.Params)))),(39,.int .i64 (↑(List.length (List.take (Int.toNat (min (↑(List.length i.Args)) f.Params)) i.Args)))),(40,.int .i64 (↑k))],(Gy f i).length-k⟩) (0,fun _=>0) ⟨by dsimp only;omega,rfl⟩ (dc d0 (dc d1 dn)) (kd (kd (kc k1 kn))) ⟨Z,Z,Z,Z,Z,eqI (by omega),trivial⟩ ?_
 rintro⟨k,V1⟩;dsimp only[u2];rintro⟨hk,hV1⟩
 have hal:(Gy f i).length=(List.take (Int.toNat (min (i.Args.length:Int) f.Params)) i.Args).length:=rfl
 refine jq (jr (js (Ar Z Z) (jn (jx (jq ?_)))))
 refine jif Z (fun hc2=>?_) (fun hc2=>?_)
 refine jsk (jx (jq (jb (jq (jr (jm Z (js (jix U29 Z21 (dhi (Br.c_Args d1) (Int.toNat (min (↑(List.length i.Args)) f.Params)) (by omega) (by omega)) Z Z Z (by omega)) (js (jlI (dix (dhi (Br.c_Args d1) (Int.toNat (min (↑(List.length i.Args)) f.Params)) (by omega) (by omega)) k (by omega)) O21 Z) (ja Z (ja Z (jn ?_)))))))))))
 refine jx (jr (jm Z (js (Ak Z) (js (jf Jr Z) (js (jl k0 Ey Z Z) (jm Z (jm Z (jvu Dv U3 k2 Z Z Z (wad (dix (dhi (Br.c_Args d1) (Int.toNat (min (↑(List.length i.Args)) f.Params)) (by omega) (by omega)) k (by omega))) (jn (jbn (jx ?_)))))))))))
 refine jr (js (Al Z Z (by omega)) (jm Z (jn ?_)))
 exact jag (k+1,Bl V1 ((k:Nat):Int) (ix (List.take (Int.toNat (min (((List.length i.Args:Nat):Int)) f.Params)) i.Args) k)) ⟨by dsimp only;omega,by dsimp only;rw[hV1];rfl⟩ (dc d0 (dc d1 dn)) (kc k1 (kc k1 (kd (kc k0 kn)))) ⟨Z,Z,Z,Z,Z,eqI (by omega),trivial⟩
 refine jex (jtx (jtx (jbh (jx (jq (jr (ja Z (ja Z (jn (jx (jq ?_)))))))))))
 refine X8 (jx (jq (jb (cnl (r:=Dr) (E:=74) ?_))))
 refine jlp (u11 fun(fu:Nat) (ab:Int) (fb:Int) (V1:Int→Int) (x1:Int) (me1:List Int) (cl1:List D.Event) (st1:Int) (an1:List Int) (vc1:Value) (va1:Value)=>⟨0<fu∧En f i=Jy (Fj f.Blocks i.Steps fu ab fb ⟨V1,0,x1,me1,cl1,st1,an1⟩)∧(0≤ab∧ab<f.Blocks.length)∧(∀p∈(ix f.Blocks ab.toNat).Phis,fb∈p.In.map (fun x=>x.From))∧me1.length≤4096∧(0≤st1∧st1≤1000000)∧cl1.length≤st1∧i.Steps-st1<fu∧IntKind.i32.wrap x1=x1,[da Aj (vFunc f a0) f,da Br (vInput i (a1a,a1b,a1c)) i,dv (rL (rI .i32)) va1 an1],[gl X.n Dr 74 vc1 cl1,bx g23 115 [.map (some g17),.int .i64 0,.int .i32 x1,v26,vc1,.int .i64 st1,va1,.int .i64 i.Steps],gl X.n (rI .i32) 21 v26 me1,vm g17 V1,bx g4 37 [.int .i64 0,.int .i32 0,.slice none 0 0,.slice none 0 0,.int .i64 0],bx g2 49 [.int .i64 f.Params,a0]],[(2,.pointer (some ⟨g2,0,none⟩)),(4,.pointer (some ⟨g4,0,none⟩)),(5,.pointer (some ⟨g23,0,none⟩)),(8,.int .i64 ab),(9,.int .i64 fb)],fu⟩) (Int.toNat i.Steps+1,0,(-1),V1,0,Kr i,[],0,i.Answers,.slice none 0 0,a1c) ⟨by dsimp only;omega,by dsimp only;rw[hV1,show k=(Gy f i).length by omega];rfl,by dsimp only;omega,hG.phi0,by dsimp only;exact T5 i,by dsimp only;omega,by simp,by dsimp only;omega,by dsimp only;decide⟩ (dc d0 (dc d1 (dc (Br.c_Answers d1) dn))) (kd (kd (kd kn))) ⟨Z,Z,Z,Z,Z,trivial⟩ ?_
 rintro⟨fu,ab,fb,V1,x1,me1,cl1,st1,an1,vc1,va1⟩;dsimp only[u11];rintro⟨hfu,hrun,hab,hph,hml,hst,hcl,hfs,hx1⟩
 refine cgo k0 fun w6=>cdq d2 fun q7 w7=>?_
 have hbb:Int.toNat ab<f.Blocks.length:=by omega
 have htm:=hG.tm _ hbb
 refine jb (jq (jr (js (jf Bu Z) (js (jl k5 O47 Z Z) (jm Z (jdq (Aj.cB d0) fun q8 w8=>js (jix (i:=ab.toNat) U47 Z62 (Aj.cB d0) Z Z (by omega) (by omega)) (jA4 Le (jlA (dix (Aj.cB d0) ab.toNat (by omega)) A62 Z62 Z) fun c56a c56b c56c c56d=>Bo J62 Z fun g10=>jdq (Af.cP d0) fun q10 w10=>jdq (Af.cI d0) fun q11 w11=>?_)))))))
 refine jdq (Af.c_Term_Args d0) fun q12 w12=>jdq (Af.c_Term_To d0) fun q13 w13=>Bk k0 Z62 Z Z Z ⟨w10.one,w11.one,Z,w12.one,w13.one,Z,trivial⟩ (saf Z) (jn (jx (jq (jr (jm Z (js (jf Dy Z) (js (jl k0 O57 Z Z) (jm Z (jc E48 Z Z (IG _ w2.one w6.one w7.one hph) (dc (Af.cP d0) dn) (kc k2 (kc k3 kn)) (fun _=>p0) (fun _=>p2) fun _=>?_)))))))))
 refine jn (jx (jq (jq (jr (js (jf Cn Z) (js (jl k2 O58 Z Z) (js (jln U58 (Af.cI d0) Z) (jm Z (jn (jx (jb ?_)))))))))))
 refine jlp (u10 fun(k:Nat) (V2:Int→Int) (e2:Int) (x2:Int) (me2:List Int) (cl2:List D.Event) (st2:Int) (an2:List Int) (vc2:Value) (va2:Value)=>⟨k≤(ix f.Blocks ab.toNat).Ins.length∧Cy i.Steps (ix f.Blocks ab.toNat).Ins (Fy fb (ix f.Blocks ab.toNat).Phis ⟨V1,0,x1,me1,cl1,st1,an1⟩)=Cy i.Steps ((ix f.Blocks ab.toNat).Ins.drop k) ⟨V2,e2,x2,me2,cl2,st2,an2⟩∧me2.length≤4096∧(0≤st2∧st2≤1000000)∧cl2.length≤st2∧st1≤st2∧IntKind.i32.wrap x2=x2∧0≤e2∧e2≤3,[da Af (vBlock (ix f.Blocks ab.toNat) (c56a,c56b,c56c,c56d)) (ix f.Blocks ab.toNat),da Aj (vFunc f a0) f,da Br (vInput i (a1a,a1b,a1c)) i,dv (rL (rI .i32)) va2 an2],[bx g23 115 [.map (some g17),.int .i64 e2,.int .i32 x2,v26,vc2,.int .i64 st2,va2,.int .i64 i.Steps],vm g17 V2,bx g10 62 [c56a,c56b,.int .i64 (((ix f.Blocks ab.toNat).Term).Kind),c56c,c56d,.int .i32 (((ix f.Blocks ab.toNat).Term).Imm)],gl X.n Dr 74 vc2 cl2,gl X.n (rI .i32) 21 v26 me2,bx g4 37 [.int .i64 0,.int .i32 0,.slice none 0 0,.slice none 0 0,.int .i64 0],bx g2 49 [.int .i64 f.Params,a0]],[(2,.pointer (some ⟨g2,0,none⟩)),(4,.pointer (some ⟨g4,0,none⟩)),(5,.pointer (some ⟨g23,0,none⟩)),(8,.int .i64 ab),(9,.int .i64 fb),(10,.pointer (some ⟨g10,0,none⟩)),(63,c56b),(64,.int .i64 (↑(List.length ((ix f.Blocks ab.toNat).Ins)))),(65,.int .i64 (↑k))],(ix f.Blocks ab.toNat).Ins.length-k⟩) (0,Qy fb ((ix f.Blocks ab.toNat).Phis) V1,0,x1,me1,cl1,st1,an1,vc1,va1) ⟨by dsimp only;omega,rfl,hml,by dsimp only;omega,hcl,by dsimp only;omega,hx1,by dsimp only;omega,by dsimp only;omega⟩ (dc d0 (dc d1 (dc d2 (dc d3 dn)))) (kd (kd (kd (kc k0 kn)))) ⟨Z,Z,Z,Z,Z,Z,Z,Z,eqI (by omega),trivial⟩ ?_
 rintro⟨k,V2,e2,x2,me2,cl2,st2,an2,vc2,va2⟩;dsimp only[u10];rintro⟨hk,hlis,hml2,hst2,hcl2,hs12,hx2,he2⟩
 refine cgo k3 fun w15=>cdq d3 fun q16 w16=>?_
 have hse:=GB (st:=st2) (ss:=i.Steps) he2
 refine jq (jr (js (Ar Z Z) (jn (jx (jq ?_)))))
 refine jif Z (fun hc3=>?_) (fun hc3=>?_)
 refine jsk (jx (jq (jb (jq (jr (js (jix U58 Z67 (Af.cI d0) Z Z Z (by omega)) (jA Mb (jlA (dix (Af.cI d0) k (by omega)) A67 Z67 Z) fun c68=>Bo J67 Z fun g12=>jdq (Am.c_Args d0) fun q18 w18=>Bk k0 Z67 Z Z Z ⟨Z,Z,Z,w18.one,Z,trivial⟩ (saf Z) (jn ?_))))))))
 refine jx (jq (jq (jr (jm Z (jc E49 Z Z (L9 Z w2.one w15.one w16.one (by omega)) dn (kc k1 kn) (fun _=>p0) (fun _=>p1) fun _=>js (Dq Z) (jn (jx ?_)))))))
 refine jif Z (fun hc4=>?_) (fun hc4=>?_)
 have hso:Fd i.Steps ⟨V2,e2,x2,me2,cl2,st2,an2⟩=false:=by simpa[Fd] using hc4
 have hsf:stE e2 st2 i.Steps≠0∧stS e2 st2 i.Steps=st2:=G8 hso
 refine jex (jtx (jbo (jtx (jtx (jbo (jtx (jbo (jtx (jbh (jx (jq ?_)))))))))))
 refine jr (jm Z (js (Ak Z) (js (jf Gz Z) (js (jla k0 A37 Z37 Z Z Z) (Bk k6 Z37 Z Z Z ⟨Z,Z,w2.one,w15.one,Z,trivial⟩ (saf Z) (jn (jx (jrt (jso (qfz k6 (by omega) (qfz k5 (by omega) ?_)))))))))))
 exact Ku (val:=vOutcome) (b:=⟨stE e2 st2 i.Steps,stV e2 x2 st2 i.Steps,me2,cl2,stS e2 st2 i.Steps⟩) (c:=(v26,vc2)) Z Z k0 A37 Z37 Z (by rw[Qt hr1];rw[hrun,BX (V3 hlis (by omega) hso) hfu];rfl) (Co.M (m:=⟨stE e2 st2 i.Steps,stV e2 x2 st2 i.Steps,me2,cl2,stS e2 st2 i.Steps⟩) (c:=(v26,vc2)) d1 d0 (wp (IntWalk.i64_in (stE e2 st2 i.Steps) (by omega))) (wp (Ov hx2)) (wp (IntWalk.i64_in (stS e2 st2 i.Steps) (by omega))))
 have hso:Fd i.Steps ⟨V2,e2,x2,me2,cl2,st2,an2⟩=true:=by simpa[Fd] using hc4
 have hsb:e2=0∧st2<i.Steps∧stE e2 st2 i.Steps=0∧stS e2 st2 i.Steps=st2+1:=G7 hso
 refine jsk (jx (jr (jm Z (js (jla k1 A67 Z67 Z Z Z) (jc E50 Z Z (IK (i:=(ix ((ix f.Blocks ab.toNat).Ins) k)) (me:=me2) (cl:=cl2) (hG.op _ hbb _ (Ax (l:=(ix f.Blocks ab.toNat).Ins) (i:=k) (by omega))) (by omega) (by omega)) (dc d4 (dc d0 dn)) (kc k0 (kc k1 (kc k3 (kc k2 kn)))) (fun _=>p1) (fun _=>p4) fun c74=>jgo k3 fun w22=>jn (jbn (jx (jr (js (Al Z Z (by omega)) ?_)))))))))
 refine jm Z (jn ?_)
 exact jag (k+1,Ag (ix ((ix f.Blocks ab.toNat).Ins) k) V2 me2 an2,Ab (ix ((ix f.Blocks ab.toNat).Ins) k) V2 me2 (stE e2 st2 i.Steps),Ac (ix ((ix f.Blocks ab.toNat).Ins) k) V2 me2 (stV e2 x2 st2 i.Steps),Ai (ix ((ix f.Blocks ab.toNat).Ins) k) V2 me2,Ah (ix ((ix f.Blocks ab.toNat).Ins) k) V2 cl2,stS e2 st2 i.Steps,Di (ix ((ix f.Blocks ab.toNat).Ins) k) an2,c74.1,c74.2) ⟨by dsimp only;omega,V5 hlis (by omega) hso,by dsimp only;rw[Y8];exact hml2,by dsimp only;omega,by have h9:=Z0 (ix (ix f.Blocks ab.toNat).Ins k) V2 cl2;dsimp only;omega,by dsimp only;omega,Y6 (Ov hx2),Y9 hse⟩ (dc d2 (dc d3 (dc d4 (dc d0 dn)))) (kd (kc k3 (kc k1 (kc k0 (kc k1 (kc k1 kn)))))) ⟨Z,Z,Z,Z,Z,Z,Z,Z,eqI (by omega),trivial⟩
 refine jex (jtx (jtx (jbh (jx (jq (jq (jr (jm Z (jc E49 Z Z (L9 Z w2.one w15.one w16.one (by omega)) dn (kc k0 kn) (fun _=>p0) (fun _=>p1) fun _=>js (Dq Z) (jn ?_))))))))))
 refine jx ?_
 refine jif Z (fun hc5=>?_) (fun hc5=>?_)
 have hso:Fd i.Steps ⟨V2,e2,x2,me2,cl2,st2,an2⟩=false:=by simpa[Fd] using hc5
 have hsf:stE e2 st2 i.Steps≠0∧stS e2 st2 i.Steps=st2:=G8 hso
 refine jex (jtx (jbo (jtx (jbh (jx (jq (jr (jm Z (js (Ak Z) (js (jf Gz Z) (js (jla k0 A37 Z37 Z Z Z) ?_)))))))))))
 refine Bk k5 Z37 Z Z Z ⟨Z,Z,w2.one,w15.one,Z,trivial⟩ (saf Z) (jn (jx (jrt (jso (qfz k5 (by omega) (qfz k4 (by omega) ?_))))))
 exact Ku (val:=vOutcome) (b:=⟨stE e2 st2 i.Steps,stV e2 x2 st2 i.Steps,me2,cl2,stS e2 st2 i.Steps⟩) (c:=(v26,vc2)) Z Z k0 A37 Z37 Z (by rw[Qt hr1];rw[hrun,BY (Pj hlis (by omega)) hso hfu];rfl) (Co.M (m:=⟨stE e2 st2 i.Steps,stV e2 x2 st2 i.Steps,me2,cl2,stS e2 st2 i.Steps⟩) (c:=(v26,vc2)) d1 d0 (wp (IntWalk.i64_in (stE e2 st2 i.Steps) (by omega))) (wp (Ov hx2)) (wp (IntWalk.i64_in (stS e2 st2 i.Steps) (by omega))))
 have hso:Fd i.Steps ⟨V2,e2,x2,me2,cl2,st2,an2⟩=true:=by simpa[Fd] using hc5
 have hsb:e2=0∧st2<i.Steps∧stE e2 st2 i.Steps=0∧stS e2 st2 i.Steps=st2+1:=G7 hso
 have hte:=G1 (t:=(ix f.Blocks ab.toNat).Term) hse
 refine jsk (jx (jq (jr (jm Z (jm Z (js (jf Eh Z) (js (jla k2 A60 Z60 Z Z Z) (jwr (Af.W_Term_Imm d0) fun w25=>jvw k1 fun hvw=>jc E51 Z Z (ID (t:=((ix f.Blocks ab.toNat).Term)) w2.one w15.one w16.one htm) (dc (Af.P_Term d0) dn) (kd kn) (fun _=>p0) (fun _=>p2) fun _=>ja Z ?_))))))))
 refine ja Z (jn (jx (jq (jr (jm Z (js (Ak Z) (js (jf Gz Z) (js (jf Lw Z) (js (jl k0 O3 Z Z) (js (Ga Z Z) (jn ?_)))))))))))
 refine jx ?_
 refine jif Z (fun hc6=>?_) (fun hc6=>?_)
 have hzz:¬(Iz (ix f.Blocks ab.toNat).Term (Es i.Steps ⟨V2,e2,x2,me2,cl2,st2,an2⟩)).en=0:=hc6
 refine jex (jbo (jtx (jbh (jx (jq (jr (jm Z (js (Ak Z) (js (jf Gz Z) (js (jla k0 A37 Z37 Z Z Z) (Bk k5 Z37 Z Z Z ⟨Z,Z,w2.one,w15.one,Z,trivial⟩ (saf Z) ?_)))))))))))
 refine jn (jx (jrt (jso (qfz k5 (by omega) (qfz k4 (by omega) ?_)))))
 exact Ku (val:=vOutcome) (b:=⟨Au ((ix f.Blocks ab.toNat).Term) (stE e2 st2 i.Steps),Bd ((ix f.Blocks ab.toNat).Term) V2 (stV e2 x2 st2 i.Steps),me2,cl2,stS e2 st2 i.Steps⟩) (c:=(v26,vc2)) Z Z k0 A37 Z37 Z (by rw[Qt hr1];rw[hrun,CA (Pj hlis (by omega)) hso hzz hfu];rfl) (Co.M (m:=⟨Au ((ix f.Blocks ab.toNat).Term) (stE e2 st2 i.Steps),Bd ((ix f.Blocks ab.toNat).Term) V2 (stV e2 x2 st2 i.Steps),me2,cl2,stS e2 st2 i.Steps⟩) (c:=(v26,vc2)) d1 d0 (wp (IntWalk.i64_in (Au ((ix f.Blocks ab.toNat).Term) (stE e2 st2 i.Steps)) (by omega))) (wp (Sk (Ov hx2) hvw w25)) (wp (IntWalk.i64_in (stS e2 st2 i.Steps) (by omega))))
 have hz9:Au (ix f.Blocks ab.toNat).Term (stE e2 st2 i.Steps)=0:=by simpa using hc6
 have hzz:(Iz (ix f.Blocks ab.toNat).Term (Es i.Steps ⟨V2,e2,x2,me2,cl2,st2,an2⟩)).en=0:=hz9
 have htf:Iz (ix f.Blocks ab.toNat).Term (Es i.Steps ⟨V2,e2,x2,me2,cl2,st2,an2⟩)=⟨V2,0,Bd (ix f.Blocks ab.toNat).Term V2 (stV e2 x2 st2 i.Steps),me2,cl2,stS e2 st2 i.Steps,an2⟩:=by unfold Iz Es;dsimp only;rw[hz9]
 have htr:=hG.to _ hbb _ (Sj (V:=V2) htm hz9)
 rw[hz9]
 refine jsk (jbn ?_)
 exact jag (fu-1,As ((ix f.Blocks ab.toNat).Term) V2,ab,V2,Bd ((ix f.Blocks ab.toNat).Term) V2 (stV e2 x2 st2 i.Steps),me2,cl2,stS e2 st2 i.Steps,an2,vc2,va2) ⟨by dsimp only;omega,by dsimp only;rw[hrun,BZ (Pj hlis (by omega)) hso hzz hfu,htf],by dsimp only;omega,by have h9:=hG.phi_from hbb (Sj (V:=V2) htm hz9);rwa[Int.toNat_of_nonneg hab.1] at h9,hml2,by dsimp only;omega,by dsimp only;omega,by dsimp only;omega,by first|exact Sk (Ov hx2) hvw (by assumption)|exact(Sk (Ov hx2) hvw hIm)⟩ (dc d1 (dc d2 (dc d3 dn))) (kc k3 (kc k0 (kc k2 (kc k0 (kc k1 (kc k1 kn)))))) ⟨Z,Z,Z,Z,Z,trivial⟩
end Go.Proofs.YtmfkkodnghambaaGreat
namespace Go.Proofs.YtmfkkodnghambaaGreat
open Go.JE
theorem QE(f:D.Func):∃r:Bool,r=true↔GoodF f:=by
 by_cases h:GoodF f
 ·exact⟨true,by simp[h]⟩
 ·exact⟨false,by simp[h]⟩
def Jf(p:Int)(l:List D.Ins)(t:D.Term):D.Func:=⟨p,[⟨[],l,t⟩]⟩
def Mc(v:Int):D.Term:=⟨4,[v],[],0⟩
theorem Xk{l:List D.Ins}{v:Int}{k:Nat}(h:v∈(l.take k).flatMap Ba):∃i,i<k∧i<l.length∧v∈Ba (ix l i):=by
 obtain⟨x,h1,h2⟩:=List.mem_flatMap.1 h
 obtain⟨i,hi,e⟩:=List.getElem_of_mem h1
 rw[List.length_take] at hi
 rw[List.getElem_take] at e
 exact⟨i,by omega,by omega,by rw[Bp (show i<l.length by omega),e];exact h2⟩
theorem QB{p:Int}{l:List D.Ins}{t:D.Term}(hp:0≤p∧p≤4)(hl:l.length≤4000)(hn:(l.flatMap Ba).Nodup)(hr:∀r∈l.flatMap Ba,p≤r∧r≤8191)
  (ho:∀i∈l,(1≤i.Op∧i.Op≤18)∧(Cz i.Op).1≤(i.Args.length:Int)∧(i.Args.length:Int)≤(Cz i.Op).2) (ht:(t.Kind=4∧t.Args.length≤1∨t.Kind=5∧t.Args.length=0)∧t.To=[])
  (hi:∀k,k<l.length→∀v∈(ix l k).Args,(0≤v∧v<p)∨v∈(l.take k).flatMap Ba) (hu:∀v∈t.Args,(0≤v∧v<p)∨v∈l.flatMap Ba):GoodF (Jf p l t):=by
 have e0:∀b,b<(Jf p l t).Blocks.length→ix (Jf p l t).Blocks b=⟨[],l,t⟩:=fun b hb=>by
  have hb:b<1:=hb
  have:b=0:=by omega
  subst this;rfl
 have em:mkB (⟨[],l,t⟩:D.Block)=l.flatMap Ba:=by unfold mkB;simp
 have eo:∀j,ix (Jf p l t).Blocks j=if j=0 then ⟨[],l,t⟩ else default:=fun j=>by
  cases j with
  | zero=>rfl
  | succ j=>rw[if_neg (by omega),Gx (by show 1≤j+1;omega)]
 have e9:mkB (default:D.Block)=[]:=rfl
 refine⟨hp,⟨by show 0<1;omega,by show(1:Nat)≤512;omega⟩,?_,⟨fun j=>?_,fun i j hij r hr hr2=>?_⟩,fun b hb r hr2=>?_,fun b hb i hi2=>?_,fun b hb=>?_,fun b hb t' ht'=>?_,fun b hb=>?_,fun b hb p' hp'=>?_,fun b hb k hk v hv=>?_,fun b hb v hv=>?_,fun b hb p' hp'=>?_⟩
 ·show 1+Dx [⟨[],l,t⟩]≤4096
  unfold Dx;simp;omega
 ·rw[eo];split
  ·rw[em];exact hn
  ·rw[e9];exact List.nodup_nil
 ·rw[eo] at hr hr2
  split at hr
  ·rw[if_neg (by omega),e9] at hr2;cases hr2
  ·rw[e9] at hr;cases hr
 ·rw[e0 b hb,em] at hr2;exact hr r hr2
 ·rw[e0 b hb] at hi2;exact ho i hi2
 ·rw[e0 b hb]
  rcases ht with⟨⟨h1,h2⟩|⟨h1,h2⟩,h3⟩
  ·exact⟨(0,1,0,0),by show shM t.Kind=_;rw[h1];rfl,⟨by dsimp only;omega,by dsimp only;omega⟩,by rw[h3];exact⟨Int.le_refl _,Int.le_refl _⟩⟩
  ·exact⟨(0,0,0,0),by show shM t.Kind=_;rw[h1];rfl,⟨by dsimp only;omega,by dsimp only;omega⟩,by rw[h3];exact⟨Int.le_refl _,Int.le_refl _⟩⟩
 ·rw[e0 b hb] at ht';rw[show(⟨[],l,t⟩:D.Block).Term.To=[] from ht.2] at ht';cases ht'
 ·have hb:b<1:=hb
  exact⟨1,by rw[show b=0 by omega];exact .zero (by omega)⟩
 ·rw[e0 b hb] at hp';cases hp'
 ·have hb0:b=0:=by have hb:b<1:=hb;omega
  rw[e0 b hb] at hk hv
  rcases hi k hk v hv with h1|h1
  ·exact .inl h1
  ·obtain⟨i,h2,h3,h4⟩:=Xk h1
   exact .inr ⟨0,i,⟨by show 0<1;omega,.inr ⟨i,h3,h4,rfl⟩⟩,.inl ⟨hb0.symm,.inl (by omega)⟩⟩
 ·have hb0:b=0:=by have hb:b<1:=hb;omega
  rw[e0 b hb] at hv ⊢
  rcases hu v hv with h1|h1
  ·exact .inl h1
  ·obtain⟨i,h2,h3,h4⟩:=Xk (k:=l.length) (by rw[List.take_length];exact h1)
   exact .inr ⟨0,i,⟨by show 0<1;omega,.inr ⟨i,h3,h4,rfl⟩⟩,.inl ⟨hb0.symm,.inl (by show(i:Int)<(l.length:Int);omega)⟩⟩
 ·rw[e0 b hb] at hp';cases hp'
theorem E23:Ent Tryz.prog 23:=⟨_,Tryz.func23,by kernel_rfl,by kernel_rfl⟩
theorem E29:Ent Tryz.prog 29:=⟨_,Tryz.func29,by kernel_rfl,by kernel_rfl⟩
theorem E46:Ent Tryz.prog 46:=⟨_,Tryz.func46,by kernel_rfl,by kernel_rfl⟩
def shI:List D.Ins:=[⟨14,2,0,[0,1],0⟩]
theorem GS:GoodF (Jf 2 shI (Mc 2)):=QB (by decide) (by decide) (by decide) (by decide) (by decide) (by decide) (fun k hk v hv=>by have e:k=0:=(by have:k<1:=hk;omega);subst e;exact .inl (by have:v∈[(0:Int),1]:=hv;simp at this;omega)) (fun v hv => .inr (by have:v∈[(2:Int)]:=hv;simp at this;subst this;decide))
theorem GR:((((((decide ((En (Jf 2 [⟨14,2,0,[0,1],0⟩] (Mc 2)) ⟨[7,2],[],[],5⟩).End=1))&&(decide ((En (Jf 2 [⟨14,2,0,[0,1],0⟩] (Mc 2)) ⟨[7,2],[],[],5⟩).Val=3)))&&(decide ((En (Jf 2 [⟨14,2,0,[0,1],0⟩] (Mc 2)) ⟨[7,2],[],[],5⟩).Steps=2)))&&(decide ((En (Jf 2 [⟨14,2,0,[0,1],0⟩] (Mc 2)) ⟨[7],[],[],5⟩).End=2)))&&(decide ((En (Jf 2 [⟨14,2,0,[0,1],0⟩] (Mc 2)) ⟨[7],[],[],5⟩).Val=(-1))))&&(decide ((En (Jf 2 [⟨14,2,0,[0,1],0⟩] (Mc 2)) ⟨[7],[],[],5⟩).Steps=1)))=true:=by decide +kernel
theorem HS(v:Int)(ww0:IntKind.i64.wrap v=v):Ts Tryz.prog 46 #[.int .i64 v] [] [] Bf vTerm (Mc v):=by
 refine Az (args:=[.int .i64 v]) Tryz.func46 rfl rfl rfl fun w0 X=>?_
 refine jq (jr (Bo J60 Z fun g2=>jn (jx (jq (jr (jm Z (Bg (r:=(rI .i64)) (l:=[v]) U22 I3 (by decide) Z Z Z (lV Z Z (wI (wp ww0)) ln) fun g4=>js (jbu (v := .agg #[.int .i64 4,(.slice (some ⟨g4,0,none⟩) 1 1),.slice none 0 0,.int .i32 0]) Z (fun _=>by kernel_rfl)) (Bk k1 Z60 Z Z Z ⟨Z,Z,Z,Z,trivial⟩ (saf Z) (jn ?_)))))))))
 refine jx (jrt (qfz k1 (by(try simp)<;>omega) ?_))
 exact Ku (val:=vTerm) (b:=⟨4,[v],[],0⟩) (c:=((.slice (some ⟨g4,0,none⟩) 1 1),.slice none 0 0)) Z Z k0 A60 Z60 Z (by rfl) (Bf.M (m:=⟨4,[v],[],0⟩) (c:=((.slice (some ⟨g4,0,none⟩) 1 1),.slice none 0 0)) d0 wN (wl 4) (wl 0))
theorem KT(p:Int){a1:Value}{l:List D.Ins}{a2a a2b:Value}{t:D.Term}(ww0:IntKind.i64.wrap p=p):Ts Tryz.prog 29 #[.int .i64 p,a1,vTerm t (a2a,a2b)] [dv (rL Am) a1 l,da Bf (vTerm t (a2a,a2b)) t] [] Aj vFunc (Jf p l t):=by
 refine Az (args:=[.int .i64 p,a1,vTerm t (a2a,a2b)]) Tryz.func29 rfl rfl rfl fun w0 X=>?_
 refine jq (jr (Cm Z Z fun g5=>Bo J49 Z fun g6=>jn (jx (jq (jr (jm Z (jm Z (js (jla k1 A60 Z60 Z Z Z) (jdq d0 fun q1 w1=>?_)))))))))
 refine jdq (Bf.c_Args d1) fun q2 w2=>jdq (Bf.c_To d1) fun q3 w3=>js (jbu (v := .agg #[.slice none 0 0,a1,.int .i64 t.Kind,a2a,a2b,.int .i32 t.Imm]) Z (fun _=>by obtain⟨_,_,_,rfl⟩:=w1;obtain⟨_,_,_,rfl⟩:=w2;obtain⟨_,_,_,rfl⟩:=w3;kernel_rfl)) (Bg (r:=Af) (l:=[⟨[],l,t⟩]) U47 I62 (by decide) Z Z Z (lA (Af.M (m:=⟨[],l,t⟩) (c:=(.slice none 0 0,a1,a2a,a2b)) wN d0 (Bf.c_Args d1) (Bf.c_To d1) (Bf.W_Kind d1) (Bf.W_Imm d1)) ln) fun g11=>js (jbu (v := .agg #[.int .i64 p,(.slice (some ⟨g11,0,none⟩) 1 1)]) Z (fun _=>by kernel_rfl)) (Bk k1 Z49 Z Z Z ⟨Z,Z,trivial⟩ (saf Z) (jn (jx (jrt (qfz k1 (by(try simp)<;>omega) ?_))))))
 exact Ku (val:=vFunc) (b:=⟨p,[⟨[],l,t⟩]⟩) (c:=(.slice (some ⟨g11,0,none⟩) 1 1)) Z Z k0 A49 Z49 Z (by rfl) (Aj.M (m:=⟨p,[⟨[],l,t⟩]⟩) (c:=(.slice (some ⟨g11,0,none⟩) 1 1)) d0 (wp ww0))
attribute [local irreducible] En
end Go.Proofs.YtmfkkodnghambaaGreat
namespace Go.Proofs.YtmfkkodnghambaaGreat
open Go.JE
theorem J1:true=true↔GoodF (Jf 2 [⟨14,2,0,[0,1],0⟩] (Mc 2)):=⟨fun _=>GS,fun _=>rfl⟩
attribute [local irreducible] En
theorem GJ  : Tv Tryz.prog 19 #[] [] [] (.bool true):=by
 refine Az (args:=[]) Tryz.func19 rfl rfl rfl fun w0 X=>?_
 refine jq (jr (ja Z (jn (jx (jq (jr (Bg (r:=(rI .i64)) (l:=[0,1]) U22 I3 (by decide) Z Z Z (lV Z Z (wI (wl 0)) (lV Z Z (wI (wl 1)) ln)) fun g4=>js (jbu (v := .agg #[.int .i64 14,.int .i64 2,.int .i64 0,(.slice (some ⟨g4,0,none⟩) 2 2),.int .i32 0]) Z (fun _=>by kernel_rfl)) (jfz k0 (by(try simp)<;>omega) (Bg (r:=Am) (l:=[⟨14,2,0,[0,1],0⟩]) U58 I67 (by decide) Z Z Z (lA (Am.M (m:=⟨14,2,0,[0,1],0⟩) (c:=(.slice (some ⟨g4,0,none⟩) 2 2)) d0 (wl 14) (wl 2) (wl 0) (wl 0)) ln) fun g6=>Rh E46 Z Z (HS 2 (by decide)) dn kn fun c7a c7b=>?_)))))))))
 refine jfz k0 (by(try simp)<;>omega) (jdq d0 fun q4 w4=>jcs E29 Z Z (KT 2 (by decide)) (dc d0 (dc d1 dn)) kn fun c8=>Bo J49 Z fun g1=>jdq (Aj.cB d0) fun q6 w6=>Bk k0 Z49 Z Z Z ⟨Z,w6.one,trivial⟩ (saf Z) (jn (jx (jq (jr (js (jla k0 A49 Z49 Z Z Z) (Bg (r:=(rI .i32)) (l:=[7,2]) U29 I21 (by decide) Z Z Z (lV Z Z (wI (wl 7)) (lV Z Z (wI (wl 2)) ln)) fun g10=>?_)))))))
 refine js (jbu (v := .agg #[(.slice (some ⟨g10,0,none⟩) 2 2),.slice none 0 0,.slice none 0 0,.int .i64 5]) Z (fun _=>by kernel_rfl)) (jfz k0 (by(try simp)<;>omega) (Rh E23 Z Z (Th (i:=⟨[7,2],[],[],5⟩) true J1 (by decide)) (dc d1 (dc (Br.M (m:=⟨[7,2],[],[],5⟩) (c:=((.slice (some ⟨g10,0,none⟩) 2 2),.slice none 0 0,.slice none 0 0)) d0 wN wN (wl 5)) dn)) kn fun c12a c12b=>Bo J37 Z fun g2=>jdq (Co.c_Mem d0) fun q9 w9=>jdq (Co.c_Calls d0) fun q10 w10=>Bk k0 Z37 Z Z Z ⟨Z,Z,w9.one,w10.one,Z,trivial⟩ (saf Z) (jn (jx (jq (jr (js (jla k1 A49 Z49 Z Z Z) ?_)))))))
 refine Bg (r:=(rI .i32)) (l:=[7]) U29 I21 (by decide) Z Z Z (lV Z Z (wI (wl 7)) ln) fun g14=>js (jbu (v := .agg #[(.slice (some ⟨g14,0,none⟩) 1 1),.slice none 0 0,.slice none 0 0,.int .i64 5]) Z (fun _=>by kernel_rfl)) (jfz k0 (by(try simp)<;>omega) (Rh E23 Z Z (Th (i:=⟨[7],[],[],5⟩) true J1 (by decide)) (dc d3 (dc (Br.M (m:=⟨[7],[],[],5⟩) (c:=((.slice (some ⟨g14,0,none⟩) 1 1),.slice none 0 0,.slice none 0 0)) d0 wN wN (wl 5)) dn)) kn fun c16a c16b=>Bo J37 Z fun g3=>jdq (Co.c_Mem d0) fun q13 w13=>jdq (Co.c_Calls d0) fun q14 w14=>Bk k0 Z37 Z Z Z ⟨Z,Z,w13.one,w14.one,Z,trivial⟩ (saf Z) (jn (jx (jq (jr ?_))))))
 refine js (jf Lw Z) (js (jl k1 O3 Z Z) (js (Ao Z Z) (jm Z (jg Z Z (.t _) (fun hg=>jf Qe Z) (jg Z Z (.t _) (fun hg=>jl k1 O21 (evg Z hg) Z) (jg Z Z (.t _) (fun hg=>Ao (evg Z hg) Z) (js (Cf Z Z) (jm Z (jg Z Z (.t _) (fun hg=>jf Lv Z) (jg Z Z (.t _) (fun hg=>jl k1 O3 (evg Z hg) Z) (jg Z Z (.t _) (fun hg=>Ao (evg Z hg) Z) ?_)))))))))))
 refine js (Cf Z Z) (jm Z (jg Z Z (.t _) (fun hg=>jf Lw Z) (jg Z Z (.t _) (fun hg=>jl k0 O3 (evg Z hg) Z) (jg Z Z (.t _) (fun hg=>Ao (evg Z hg) Z) (js (Cf Z Z) (jm Z (jg Z Z (.t _) (fun hg=>jf Qe Z) (jg Z Z (.t _) (fun hg=>jl k0 O21 (evg Z hg) Z) (jg Z Z (.t _) (fun hg=>Ao (evg Z hg) Z) (js (Cf Z Z) (jm Z ?_)))))))))))
 refine jg Z Z (.t _) (fun hg=>jf Lv Z) (jg Z Z (.t _) (fun hg=>jl k0 O3 (evg Z hg) Z) (jg Z Z (.t _) (fun hg=>Ao (evg Z hg) Z) (js (Cf Z Z) (ja Z (jn (jx (jrt ?_)))))))
 exact jrB Z Z (GR.symm)
end Go.Proofs.YtmfkkodnghambaaGreat
namespace Go.Proofs.YtmfkkodnghambaaGreat
open Go.JE
theorem E19:Ent Tryz.prog 19:=⟨_,Tryz.func19,by kernel_rfl,by kernel_rfl⟩
theorem E22:Ent Tryz.prog 22:=⟨_,Tryz.func22,by kernel_rfl,by kernel_rfl⟩
theorem E24:Ent Tryz.prog 24:=⟨_,Tryz.func24,by kernel_rfl,by kernel_rfl⟩
attribute [local irreducible] En Ml
end Go.Proofs.YtmfkkodnghambaaGreat
namespace Go.JE
variable{P:Program}{D D0:List Dt}{L M:List Res}{e:Env}{X:Cx}{n:Fs}{w0:World}{Q:Exit→Act→World→Prop}
section
variable{α:Type}{r:Rp α}{F:PH}{H:Heap}{B:Nat}{v:Value}{l:List α}{T E:TypeId}{x y:Operand}{bytes hi lo:Nat}{z:Value}
theorem Av.appCut(hT:P.underlying T=some (.slice E))(hE:(P.info? E).map (fun i=>(i.zero,i.size,i.bytes))=some (some z,r.sz,bytes))(hs:0<r.sz∧r.sz≤1000∧bytes≤8192)(hz:z.cells.size=r.sz)
  (hx:ev e x=some (JE.resl r.sz v 0 hi)) (hy:ev e y=some (JE.resl r.sz v lo l.length)) (hown:Gl r E F H B v l) (hin:InH F H) (h1:hi≤lo) (h2:lo≤l.length) (hb:l.length<1073741824) (hB:B≤H.size) :
  Av P e (.call { callee := .builtin .append,args:=#[x,y],argTypes:=#[T,T] }) H (fun v' H'=>Gl r E F H' B v' (l.take hi++l.drop lo)∧Of H H' v.ownBlock∧(v'.ownBlock=v.ownBlock∨v'.ownBlock=some H.size)):=by
 obtain⟨hc1,hc2⟩:=hown.cut (hi:=hi) (by omega)
 have hl1:(l.take hi).length=hi:=by rw[List.length_take];omega
 have hbt:(hi+(l.length-lo))*bytes≤140737488355328:=by
  have:(hi+(l.length-lo))*bytes≤1073741824*8192:=Nat.mul_le_mul (by omega) hs.2.2
  omega
 by_cases hm0:lo=l.length
 ·subst hm0
  obtain⟨va,vc,ev9⟩:∃a c,v = .slice a l.length c:=by obtain⟨xs,o1,_⟩:=hown;exact o1.len
  have hrv:(rLn 1 r).rv F (JE.resl r.sz v l.length l.length) ([]:List α):=by
   rw[ev9]
   exact⟨by simp,_,_,by simp[JE.resl];exact⟨rfl,rfl⟩,by simp,fun i hi=>by simp at hi,fun _=>undef,fun i hi=>by simp at hi,fun i hi=>by simp at hi⟩
  have:=Av.appL (P:=P) (N:=1) hT hE hs hz hx hy hc1 hrv hin (by rw[hl1];simp;omega) hB
  rw[List.drop_length]
  rw[hc2] at this
  exact this
 ·obtain⟨xs',p1,p2,p3⟩:=hc1
  rw[hl1] at p1
  obtain⟨xs,o1,o2,o3⟩:=hown
  obtain⟨g,c,e9,hbg,hgs⟩:=o1.own (by omega)
  subst e9
  obtain⟨_,a,cap,e9,hcap,hcell⟩:=o1.sl (f:=fun i=>xs.getD i undef) (fun i hi9=>by
   have h9:i<xs.length:=by rw[o1.1];exact hi9
   rw[List.getD_eq_getElem?_getD,List.getElem?_eq_getElem h9];rfl)
  injection e9 with ea _ ec
  subst ea;subst ec
  have hcl:¬c=lo:=by omega
  have hy2:ev e y=some (.slice (some ⟨g,lo*r.sz,none⟩) (l.length-lo) (c-lo)):=by
   rw[hy];simp[JE.resl,hcl,Addr.add_none]
  have hxl:=o1.1
  have hnl:(xs.drop (lo*r.sz)).length=(l.length-lo)*r.sz:=by rw[List.length_drop,hxl,←Nat.sub_mul]
  have hn:∀j u,(xs.drop (lo*r.sz))[j]? = some u→hc H g (lo*r.sz+j)=some u:=fun j u hj=>by
   rw[List.getElem?_drop] at hj
   have h9:=(List.getElem?_eq_some_iff.1 hj).1
   obtain⟨b,o,e8,_,h8⟩:=hcell (lo*r.sz+j) (by rw[←hxl];exact h9)
   injection e8 with e8;injection e8 with e7 e8
   subst e7;subst e8
   rw[Nat.zero_add] at h8
   rw[h8];show some (xs.getD (lo*r.sz+j) undef)=some u
   rw[List.getD_eq_getElem?_getD,hj];rfl
  have h1c:∀u∈xs.drop (lo*r.sz),u.oneCell'=true:=fun u hu=>by
   obtain⟨j,hj,rfl⟩:=List.getElem_of_mem (List.mem_of_mem_drop hu)
   have hj':j<l.length*r.sz:=by rw[←hxl];exact hj
   have hq:j / r.sz<l.length:=Nat.div_lt_of_lt_mul (by rw[Nat.mul_comm];exact hj')
   have:=r.one (o3 _ hq) (j%r.sz) (Nat.mod_lt _ hs.1)
   rw[Nat.div_add_mod'] at this
   rwa[List.getD_eq_getElem?_getD,List.getElem?_eq_getElem hj] at this
  intro ρ o w ho hev hw
  obtain⟨v',w',g1,g2,g3,g4,k1,k2,k3,k4⟩:=Av.append (P:=P) (n:=hi) (m:=l.length-lo) (c:=c-lo) (xs:=xs') (news:=xs.drop (lo*r.sz)) hT hE hz hs.1 hx p1 hy2 hnl hn h1c hbt (by omega) hB ρ o w ho hev hw
  rw[hc2] at k2 k4
  refine⟨v',w',g1,g2,g3,g4,⟨xs'++xs.drop (lo*r.sz),by rw[List.length_append,hl1,List.length_drop];exact k1,fun k hk=>?_,fun i hi9=>?_⟩,k2,k4⟩
  ·rcases k4 with k4|k4
   ·exact o2 k (by rw[←k4];exact hk)
   ·rw[k4] at hk;injection hk with hk;subst hk;exact hin.nope (Nat.le_refl _)
  ·rw[List.length_append,hl1,List.length_drop] at hi9
   by_cases hl:i<hi
   ·rw[List.getElem_append_left (by rw[hl1];exact hl)]
    refine r.ext (fun j hj=>?_) (p3 i (by rw[hl1];exact hl))
    have hb9:i*r.sz+j<xs'.length:=by
     have:(i+1)*r.sz≤hi*r.sz:=Nat.mul_le_mul_right _ hl
     rw[Nat.add_mul] at this;rw[p1.1];omega
    simp[List.getD,List.getElem?_append_left hb9]
   ·rw[List.getElem_append_right (by rw[hl1];omega),List.getElem_drop]
    refine r.ext (fun j hj=>?_) (o3 (lo+(i-(l.take hi).length)) (by rw[hl1];omega))
    rw[hl1]
    have he:i*r.sz+j=xs'.length+((i-hi)*r.sz+j):=by
     rw[p1.1,←Nat.add_assoc,←Nat.add_mul];congr 2;omega
    rw[he,List.getD_eq_getElem?_getD,List.getD_eq_getElem?_getD,List.getElem?_append_right (by omega),Nat.add_sub_cancel_left,List.getElem?_drop,←Nat.add_assoc,←Nat.add_mul]
variable{ops:Array Oper}{d:Nat}{ty:TypeId}{pos:String}{af:Array Edge}{rest:List Oper}
theorem Y0(hT:P.underlying T=some (.slice E))(hE:(P.info? E).map (fun i=>(i.zero,i.size,i.bytes))=some (some z,r.sz,bytes))(hs:0<r.sz∧r.sz≤1000∧bytes≤8192)(hz:z.cells.size=r.sz)
  (hx:ev e x=some (JE.resl r.sz v 0 hi)) (hy:ev e y=some (JE.resl r.sz v lo l.length)) (hk:Tk L (gl B r E v l) M) (h1:hi≤lo) (h2:lo≤l.length) (hb:l.length<1073741824)
  (k:∀v',Sv v'→LH P n w0 ops Q X D (gl B r E v' (l.take hi++l.drop lo)::M) ((d,v')::e) rest) (hd1:Nat.blt d n.sz=true:=by rfl) :
  LH P n w0 ops Q X D L e (⟨some d,.call { callee := .builtin .append,args:=#[x,y],argTypes:=#[T,T] },ty,pos,af,none⟩::rest):=fun F H hp =>
 LF.chg (Av.appCut hT hE hs hz hx hy (hp.at hk).1 hp.hin h1 h2 hb (hp1 hp hk)) (by rintro v' H' ⟨h1,h2,h3⟩;exact k v' (Gl.sv h1) F H' (hp.grow hk h1 h2 (S4 h3))) hd1
theorem X1{k9:IntKind}{I:Int}{lx:Operand}(hT:P.underlying T=some (.slice E))(hE:Sz P E r.sz)(hk:Tk L (gl B r E v l) M)(hx:ev e x=some v)(hl:ev e lx=some (.int k9 I))(hI:I=lo)(h2:lo≤l.length):OH P D L e (.slice T x (some lx) none none) (JE.resl r.sz v lo l.length):=fun F H _ _ h=>Aa.sliceLoG hT hE (hk.ok h).1.1 hx hl hI h2
end
end Go.JE
namespace Go.JE
variable{P:Program}{D:List Dt}{L M:List Res}{e:Env}{X:Cx}{n:Fs}{w0:World}{Q:Exit→Act→World→Prop}
section
variable{F:PH}{H:Heap}{g:Nat}{T:TypeId}{k:IntKind}{l:List Int}
theorem Hp.freezeB{α:Type}{r:Rp α}{a:α}{cs:List Value}(hp:Hp X D (bx g T cs::L) F H)(hg:X.n≤g)(hok:r.ok F a (fun i=>cs.getD i undef))(hl:cs.length=r.sz):∃G,Hp X (ad r g 0 a::D) L G H:=by
 obtain⟨o1,o2,o3⟩:=hp.ok
 obtain⟨G,h1,h2,h3,h4,h5⟩:=Bx.freeze (H0:=#[]) (F0:=F) o1.1 hp.hin ⟨PH.le.refl F,fun _ _=>rfl⟩ (Nat.zero_le _) o1.2 hok hl
 have h6:∀j,Own L j→G j=F j:=fun j hj=>h4 j (fun e1=>o2 j e1 hj)
 exact⟨G,⟨⟨hp.hx.1.trans h2,fun j hj=>(h4 j (by have h9:X.H.size≤g:=hg;omega)).trans (hp.hx.2 j hj)⟩,h3,hp.hw,⟨h5,hp.hd.up h2⟩,o3.st h2 (Nat.le_refl _) (fun j hj=>(h6 j hj).trans (o3.no hj)) (fun _ _=>rfl),fun j hj=>hp.ge j (.inr hj)⟩⟩
theorem IN{F:PH}(h:∀x∈l,k.wrap x=x):(rA l.length (rI k)).ok F l (fun i=>(l.map (Value.int k)).getD i undef):=⟨rfl,fun i hi=>by
 have h1:(l.map (Value.int k)).getD (i*1+0) undef = .int k l[i]:=by simp[List.getD,hi]
 exact⟨h1,h _ (List.getElem_mem hi)⟩⟩
variable{ops:Array Oper}{d:Nat}{ty:TypeId}{pos:String}{af:Array Edge}{rest:List Oper}{v:Value}{x:Operand}{N:Nat}
theorem NY(hx:ev e x=some v)(hv:v.cells=(l.map (Value.int k)).toArray)(hN:N=l.length)(hw:∀z∈l,k.wrap z=z)
  (K:∀g,LH P n w0 ops Q X (ad (rA N (rI k)) g 0 l::D) L ((d,.pointer (some ⟨g,0,none⟩))::e) rest) (hd:Nat.blt d n.sz=true:=by rfl):LH P n w0 ops Q X D L e (⟨some d,.box T x,ty,pos,af,none⟩::rest):=fun F H hp=>by
 subst hN
 exact LF.chg (Av.boxB hx hv) (by
  rintro _ H' ⟨g,rfl,eg,sg,kg,hb⟩
  obtain⟨G,h⟩:=(hp.new (R:=bx g T (l.map (Value.int k))) kg ⟨hb,hp.hin.nope (Nat.le_of_eq eg.symm)⟩ (fun j hj=>by have:j=g:=hj;omega)).freezeB (r:=rA l.length (rI k)) (a:=l) (by have h9:X.H.size≤_:=hp.hw.1;show X.H.size≤g;omega) (IN hw) (by show(l.map _).length=l.length*1;simp)
  exact K g G H' h) hd
theorem NC{E:TypeId}{n9 b o s:Nat}(hT:P.underlying T=some (.array n9 E))(hE:Sz P E s)(hx:ev e x=some (.pointer (some ⟨b,o,none⟩))):OH P D L e (.slice T x none none none) (.slice (some ⟨b,o,none⟩) n9 n9):=fun F H _ _ h=>Aa.sliceArr hT hE hx
theorem Yt{α:Type}{r:Rp α}{n9 b o:Nat}{l:List α}(h:Nd D L (ad (rA n9 r) b o l))(hn:n9<1073741824:=by decide):Nd D L (dv (rL r) (.slice (some ⟨b,o,none⟩) n9 n9) l):=fun F H x y z=>rL.ofArr (h F H x y z) hn
end
end Go.JE
namespace Go.Proofs.YtmfkkodnghambaaGreat
open Go.JE
def TF(x:D.Block):Prop:=x.Phis.length≤1000000∧x.Ins.length≤1000000∧x.Term.To.length≤1000000∧∀p∈x.Phis,p.In.length≤1000000
def DH(f:D.Func):Prop:=f.Blocks.length≤1000000∧∀x∈f.Blocks,TF x
theorem Am.S_Op{Γ:List Dt}{L:List Res}{m:D.Ins}{x:Int}(h:Wr Γ L .i64 x):Go.JE.PO Γ L Am m 0 [.int .i64 x] { m with Op:=x }:=fun F H a b c f hf =>
 ⟨⟨rfl,h F H a b c⟩,⟨hf.2.1.1,hf.2.1.2⟩,⟨hf.2.2.1.1,hf.2.2.1.2⟩,((rL (rI .i64)).ext (fun i hi=>by rw[show i=0 from Nat.lt_one_iff.1 hi];rfl) (hf.2.2.2.1)),⟨hf.2.2.2.2.1,hf.2.2.2.2.2⟩⟩
theorem Am.S_Dst{Γ:List Dt}{L:List Res}{m:D.Ins}{x:Int}(h:Wr Γ L .i64 x):Go.JE.PO Γ L Am m 1 [.int .i64 x] { m with Dst:=x }:=fun F H a b c f hf =>
 ⟨⟨hf.1.1,hf.1.2⟩,⟨rfl,h F H a b c⟩,⟨hf.2.2.1.1,hf.2.2.1.2⟩,((rL (rI .i64)).ext (fun i hi=>by rw[show i=0 from Nat.lt_one_iff.1 hi];rfl) (hf.2.2.2.1)),⟨hf.2.2.2.2.1,hf.2.2.2.2.2⟩⟩
theorem Am.S_Args{Γ:List Dt}{L:List Res}{m:D.Ins}{v:Value}{x:List Int}(h:Nd Γ L (dv (rL (rI .i64)) v x)):Go.JE.PO Γ L Am m 3 [v] { m with Args:=x }:=fun F H a b c f hf =>
 ⟨⟨hf.1.1,hf.1.2⟩,⟨hf.2.1.1,hf.2.1.2⟩,⟨hf.2.2.1.1,hf.2.2.1.2⟩,((rL (rI .i64)).ext (fun i hi=>by rw[show i=0 from Nat.lt_one_iff.1 hi];rfl) ((show(rL (rI .i64)).ok F x (fun _=>v) from h F H a b c))),⟨hf.2.2.2.2.1,hf.2.2.2.2.2⟩⟩
theorem Aw.S_In{Γ:List Dt}{L:List Res}{m:D.Phi}{v:Value}{x:List D.In}(h:Nd Γ L (dv (rL rIn) v x)):Go.JE.PO Γ L Aw m 1 [v] { m with In:=x }:=fun F H a b c f hf =>
 ⟨⟨hf.1.1,hf.1.2⟩,((rL rIn).ext (fun i hi=>by rw[show i=0 from Nat.lt_one_iff.1 hi];rfl) ((show(rL rIn).ok F x (fun _=>v) from h F H a b c)))⟩
theorem Am.L_Args{m:D.Ins}:∀(F:PH) (f:Nat→Value),Am.ok F m f→(rL (rI .i64)).ok F m.Args (fun _=>f 3):=fun F f hf=>((rL (rI .i64)).ext (fun i hi=>by rw[show i=0 from Nat.lt_one_iff.1 hi];rfl) (hf.2.2.2.1))
theorem Aw.L_In{m:D.Phi}:∀(F:PH) (f:Nat→Value),Aw.ok F m f→(rL rIn).ok F m.In (fun _=>f 1):=fun F f hf=>((rL rIn).ext (fun i hi=>by rw[show i=0 from Nat.lt_one_iff.1 hi];rfl) (hf.2))
theorem rIn.S_Val{Γ:List Dt}{L:List Res}{m:D.In}{x:Int}(h:Wr Γ L .i64 x):Go.JE.PO Γ L rIn m 1 [.int .i64 x] { m with Val:=x }:=fun F H a b c f hf =>
 ⟨⟨hf.1.1,hf.1.2⟩,⟨rfl,h F H a b c⟩⟩
theorem IU{a0:Value}{f:D.Func}(y0 y1 y2:Int)(hS0:DH f)(hw9:∀z∈[y0,y1,y2],IntKind.i64.wrap z=z):Tr Tryz.prog 21 #[vFunc f a0,.agg #[.int .i64 y0,.int .i64 y1,.int .i64 y2]] [da Aj (vFunc f a0) f] [] (fun i:D.Func×Value=>vFunc i.1 i.2) (fun i=>[da Aj (vFunc i.1 i.2) i.1]) (fun _ _=>[]):=by
 refine Az (args:=[vFunc f a0,.agg #[.int .i64 y0,.int .i64 y1,.int .i64 y2]]) Tryz.func21 rfl rfl rfl fun w0 X=>?_
 obtain⟨hSl,hS⟩:=hS0
 refine jq (jr (Cm Z Z fun g2=>NY (k := .i64) (l:=[y0,y1,y2]) (N:=3) Z Z Z hw9 fun g3=>Bo J49 Z fun g4=>jn (jx (jq (jr (Bg (r:=Af) (l:=[]) U47 I62 (by decide) Z Z Z ln fun g16=>js (jf Bu Z) (js (jl k2 O47 Z Z) ?_)))))))
 refine jdq (Aj.cB d1) fun q2 w2=>Hd U47 I62 (by decide) Z k0 Z Z (Aj.cB d1) (by omega) fun v19 w3=>ja Z (jn (jx (jq (jr (jm Z (js (jf Bu Z) (jst k2 Z47 Z Z w3.one s1 (jn (jx ?_)))))))))
 refine jq (jq (jr (jm Z (js (jlg U47 k1 Z) (js (Ao Z Z) (jn (jx ?_)))))))
 refine jif Z (fun hc1=>?_) (fun hc1=>?_)
 refine jq (jr (js (jla k0 A49 Z49 Z Z Z) (Bk k2 Z49 Z Z Z ⟨Z,w3.one,trivial⟩ (saf Z) (jn (jx (jrt (jtr (qfz k2 (by omega) ?_))))))))
 exact jrc Z Z k0 A49 Z49 ((⟨f.Params,f.Blocks⟩,v19):D.Func×Value) Z (dc (Aj.M (m:=⟨f.Params,f.Blocks⟩) (c:=v19) d0 (Aj.W_Params (m:=f) d2)) dn) (fun _ _=>kn)
 have hb9:0<f.Blocks.length:=by omega
 refine jsk (jx (jq (jr (js (NC U53 Z3 Z) (js (jbu (v := .agg #[(.slice (some ⟨g3,0,none⟩) 3 3),.int .i64 0,.int .i64 0,.slice none 0 0,.int .i64 0,.slice none 0 0]) Z (fun _=>by kernel_rfl)) (Cm Z Z fun g28=>Rf (c:=0) ⟨[y0,y1,y2],0,0,[],0,[]⟩ k0 ⟨Xo _,Z⟩ fun mm0 hmm0 omm0 bmm0=>ja Z (jn (jx (jq ?_)))))))))
 refine jr (jm Z (jka E47 Z Z (Dd omm0 (by omega) 12 (by omega)) (dc (Yt d0) dn) k0 ⟨tO9 omm0.1,omm0.2⟩ fun m30 hm30 om30 bm30=>?_))
 have w30_0:IntKind.i64.wrap (tVV 12 mm0)=tVV 12 mm0:=(IntWalk.i64_in _ (by have h9:=@tV9 12 (by omega) mm0;omega))
 have tr30:=@tV9 12 (by omega) mm0
 clear bmm0
 refine ja Z (jn (jx (jq (jr (jm Z (jm Z (js (jlg U47 k2 Z) (jka E47 Z Z (Dd om30 (by omega) (↑(List.length f.Blocks)) (by omega)) (dc (Yt d0) dn) k0 ⟨tO9 om30.1,om30.2⟩ fun m34 hm34 om34 bm34=>?_))))))))
 have w34_0:IntKind.i64.wrap (tVV (↑(List.length f.Blocks)) m30)=tVV (↑(List.length f.Blocks)) m30:=(IntWalk.i64_in _ (by have h9:=@tV9 (↑(List.length f.Blocks)) (by omega) m30;omega))
 have tr34:=@tV9 (↑(List.length f.Blocks)) (by omega) m30
 clear bm30
 obtain⟨bq,hgbq⟩:∃q:Nat,tVV (↑(List.length f.Blocks)) m30=(q:Int):=⟨Int.toNat (tVV (↑(List.length f.Blocks)) m30),by omega⟩
 rw[hgbq]
 obtain⟨hS1,hS2,hS3,hS4⟩:=hS _ (Ax (l:=f.Blocks) (i:=bq) (by omega))
 refine ja Z (jn (jx (jq (jr (jm Z (jka E47 Z Z (Dd om34 (by omega) 40 (by omega)) (dc (Yt d0) dn) k0 ⟨tO9 om34.1,om34.2⟩ fun m36 hm36 om36 bm36=>?_))))))
 have w36_0:IntKind.i64.wrap (tVV 40 m34)=tVV 40 m34:=(IntWalk.i64_in _ (by have h9:=@tV9 40 (by omega) m34;omega))
 have tr36:=@tV9 40 (by omega) m34
 clear bm34
 obtain⟨nq,hgnq⟩:∃q:Nat,tVV 40 m34=(q:Int):=⟨Int.toNat (tVV 40 m34),by omega⟩
 rw[hgnq]
 refine ja Z (jn (jx (jq (jr (jm Z (jm Z (js (jig U47 Z62 k2 Z Z Z (by omega)) (jA4 Le (jgA k2 (by omega) A62 Z62 Z) fun c40a c40b c40c c40d=>?_))))))))
 generalize hxb:ix f.Blocks bq=xb at hS1 hS2 hS3 hS4 ⊢
 refine Bo J62 Z fun g10=>jdq (Af.cP d0) fun q6 w6=>jdq (Af.cI d0) fun q7 w7=>jdq (Af.c_Term_Args d0) fun q8 w8=>jdq (Af.c_Term_To d0) fun q9 w9=>Bk k0 Z62 Z Z Z ⟨w6.one,w7.one,Z,w8.one,w9.one,Z,trivial⟩ (saf Z) (jn (jx (jq (jr (Bg (r:=Am) (l:=[]) U58 I67 (by decide) Z Z Z ln fun g41=>js (jf Cn Z) ?_)))))
 refine js (jl k1 O58 Z Z) (Hd U58 I67 (by decide) Z k0 Z Z (Af.cI d0) (by omega) fun v44 w10=>js (jf Cn Z) (jst k1 Z58 Z Z w10.one s1 (jn (jx (jq (jr (Bg (r:=Aw) (l:=[]) U57 I65 (by decide) Z Z Z ln fun g46=>js (jf Dy Z) (js (jl k1 O57 Z Z) (Hd U57 I65 (by decide) Z k0 Z Z (Af.cP d0) (by omega) fun v49 w11=>?_)))))))))
 refine js (jf Dy Z) (jst k1 Z57 Z Z w11.one s0 (jn (jx (jq (jr (ja Z (jn (jx (jq (jq (jr ?_)))))))))))
 refine js (jf Cn Z) (js (jl k0 O58 Z Z) (js (jlg U58 k2 Z) (js (Ee Z Z) (jn (jx ?_)))))
 refine jjo (fun(iq:Nat)=>⟨(0<xb.Ins.length→iq<xb.Ins.length),[da Af (vBlock xb (c40a,c40b,c40c,c40d)) xb,da Aj (vFunc f a0) f],[bx g10 62 [v49,v44,.int .i64 ((xb.Term).Kind),c40c,c40d,.int .i32 ((xb.Term).Imm)],gl X.n Aw 65 v49 xb.Phis,gl X.n Am 67 v44 xb.Ins,bx g2 49 [.int .i64 f.Params,v19],gl X.n Af 62 v19 f.Blocks,bx g4 49 [.int .i64 0,.slice none 0 0]],[(2,.pointer (some ⟨g2,0,none⟩)),(4,.pointer (some ⟨g4,0,none⟩)),(5,v19),(7,.int .i64 (tVV 12 mm0)),(8,.int .i64 (((bq:Nat):Int))),(9,.int .i64 (((nq:Nat):Int))),(10,.pointer (some ⟨g10,0,none⟩)),(11,.int .i64 (((iq:Nat):Int)))]⟩) ?_ ?_
 refine jif Z (fun hc2=>?_) (fun hc2=>?_)
 refine jr (jm Z (js (jf Cn Z) (js (jl k0 O58 Z Z) (js (jlg U58 k2 Z) (js (Gi Z Z (by omega)) ?_)))))
 have ht59:=Js ↑nq (n:=(↑(List.length xb.Ins))) (by omega)
 have hn59:=Oo ↑nq (↑(List.length xb.Ins)) (by omega)
 obtain⟨cq,hgcq⟩:∃q:Nat,Int.tmod ↑nq (↑(List.length xb.Ins))=(q:Int):=⟨Int.toNat (Int.tmod ↑nq (↑(List.length xb.Ins))),by omega⟩
 rw[hgcq]
 refine ja Z (jn ?_)
 exact jje (Int.toNat (((cq:Nat):Int))) (by dsimp only;omega) (dc d0 (dc d2 dn)) (kd (kc k0 (kc k1 (kc k1 (kc k1 kn))))) ⟨Z,Z,Z,Z,Z,Z,Z,eqI (by first|rfl|omega),trivial⟩
 refine jsk ?_
 exact jje 0 (by dsimp only;omega) (dc d0 (dc d2 dn)) (kd (kc k0 (kc k1 (kc k1 (kc k1 kn))))) ⟨Z,Z,Z,Z,Z,Z,Z,eqI (by first|rfl|omega),trivial⟩
 rintro iq;dsimp only;rintro hiq
 refine jx (jq (jq (jr (jm Z (jn (jx (cwr (Af.W_Term_Kind d0) fun w13=>cwr (Af.W_Term_Imm d0) fun w14=>cwr (Aj.W_Params d1) fun w15=>?_)))))))
 refine jjo (u11 fun(pq:Int) (xPhisv:Value) (xPhis:List D.Phi) (xInsv:Value) (xIns:List D.Ins) (xTermKind:Int) (xTermArgsv:Value) (xTermArgs:List Int) (xTermTov:Value) (xTermTo:List Int) (xTermImm:Int)=>⟨IntKind.i64.wrap pq=pq∧IntKind.i64.wrap xTermKind=xTermKind∧IntKind.i32.wrap xTermImm=xTermImm,[dv (rL Aw) xPhisv xPhis,dv (rL Am) xInsv xIns,dv (rL (rI .i64)) xTermArgsv xTermArgs,dv (rL (rI .i64)) xTermTov xTermTo],[bx g10 62 [xPhisv,xInsv,.int .i64 xTermKind,xTermArgsv,xTermTov,.int .i32 xTermImm],bx g2 49 [.int .i64 pq,v19],gl X.n Af 62 v19 f.Blocks,bx g4 49 [.int .i64 0,.slice none 0 0]],[(2,.pointer (some ⟨g2,0,none⟩)),(4,.pointer (some ⟨g4,0,none⟩)),(5,v19),(8,.int .i64 (((bq:Nat):Int))),(10,.pointer (some ⟨g10,0,none⟩))]⟩) ?_ ?_
 refine jb (jq (jr (js (Ao Z Z) (ja Z (jn (jx ?_))))))
 refine jif Z (fun hc3=>?_) (fun hc3=>?_)
 refine jr (jm Z (js (Gi Z Z (by decide)) ?_))
 have ht71:=Js ↑nq (n:=7) (by omega)
 refine js (Gw Z Z (by omega)) (js (jf Hu Z) (jst k3 Z3 Z Z Z s0 (jn (jbn (qfz k2 (by omega) (qfz k2 (by omega) ?_))))))
 exact jje ((Int.tmod ((nq:Nat):Int) 7)-1,v49,xb.Phis,v44,xb.Ins,(xb.Term).Kind,c40c,(xb.Term).Args,c40d,(xb.Term).To,(xb.Term).Imm) ⟨(by dsimp only;exact IntWalk.i64_in _ (by omega)),w13,w14⟩ (dc d1 (dc d0 (dc (Af.c_Term_Args d2) (dc (Af.c_Term_To d2) dn)))) (kc k1 (kd (kc k0 kn))) ⟨Z,Z,Z,Z,Z,trivial⟩
 refine jq (jr (js (Ao Z Z) (ja Z (jn (jx ?_)))))
 refine jif Z (fun hc4=>?_) (fun hc4=>?_)
 refine jq (jr (js (jf Cn Z) (js (jl k0 O58 Z Z) (js (jlg U58 k2 Z) (js (Ee Z Z) (jn (jx ?_)))))))
 refine jif Z (fun hc5=>?_) (fun hc5=>?_)
 refine jr (js (jf Cn Z) (js (jl k0 O58 Z Z) (jm Z (jm Z (js (Gi Z Z (by decide)) ?_)))))
 have ht84:=Js ↑nq (n:=20) (by omega)
 refine js (Al Z Z (by omega)) (js (jig U58 Z67 k2 Z Z Z (by omega)) (js (jf Ke Z) (jsp (i:=iq) (off:=0) (a:={ ix xb.Ins iq with Op:=(Int.tmod ↑nq 20)+0 }) k2 (by omega) Z3 Z (by omega) Z Z (Am.S_Op (wp (IntWalk.i64_in _ (by omega)))) (jn (jbn (qfz k2 (by omega) (qfz k0 (by(try simp)<;>omega) ?_)))))))
 exact jje (f.Params,v49,xb.Phis,v44,List.set xb.Ins iq ({ ix xb.Ins iq with Op:=(Int.tmod ((nq:Nat):Int) 20)+0 }),(xb.Term).Kind,c40c,(xb.Term).Args,c40d,(xb.Term).To,(xb.Term).Imm) ⟨w15,w13,w14⟩ (dc d1 (dc d0 (dc (Af.c_Term_Args d2) (dc (Af.c_Term_To d2) dn)))) (kd (kd kn)) ⟨Z,Z,Z,Z,Z,trivial⟩
 refine jsk (jbn (qfz k1 (by omega) (qfz k1 (by omega) ?_)))
 exact jje (f.Params,v49,xb.Phis,v44,xb.Ins,(xb.Term).Kind,c40c,(xb.Term).Args,c40d,(xb.Term).To,(xb.Term).Imm) ⟨w15,w13,w14⟩ (dc d1 (dc d0 (dc (Af.c_Term_Args d2) (dc (Af.c_Term_To d2) dn)))) (kd (kd kn)) ⟨Z,Z,Z,Z,Z,trivial⟩
 refine jq (jr (js (Ao Z Z) (ja Z (jn (jx ?_)))))
 refine jif Z (fun hc6=>?_) (fun hc6=>?_)
 refine jq (jr (js (jf Cn Z) (js (jl k0 O58 Z Z) (js (jlg U58 k2 Z) (js (Ee Z Z) (jn (jx ?_)))))))
 refine jif Z (fun hc7=>?_) (fun hc7=>?_)
 refine jr (js (jf Cn Z) (js (jl k0 O58 Z Z) (jm Z (jm Z (js (jig U58 Z67 k2 Z Z Z (by omega)) (js (jf Gn Z) (jsp (i:=iq) (off:=1) (a:={ ix xb.Ins iq with Dst:=↑nq }) k2 (by omega) Z3 Z (by omega) Z Z (Am.S_Dst (wp (IntWalk.i64_in _ (by omega)))) (jn (jbn (qfz k2 (by omega) (qfz k0 (by(try simp)<;>omega) ?_)))))))))))
 exact jje (f.Params,v49,xb.Phis,v44,List.set xb.Ins iq ({ ix xb.Ins iq with Dst:=((nq:Nat):Int) }),(xb.Term).Kind,c40c,(xb.Term).Args,c40d,(xb.Term).To,(xb.Term).Imm) ⟨w15,w13,w14⟩ (dc d1 (dc d0 (dc (Af.c_Term_Args d2) (dc (Af.c_Term_To d2) dn)))) (kd (kd kn)) ⟨Z,Z,Z,Z,Z,trivial⟩
 refine jsk (jbn (qfz k1 (by omega) (qfz k1 (by omega) ?_)))
 exact jje (f.Params,v49,xb.Phis,v44,xb.Ins,(xb.Term).Kind,c40c,(xb.Term).Args,c40d,(xb.Term).To,(xb.Term).Imm) ⟨w15,w13,w14⟩ (dc d1 (dc d0 (dc (Af.c_Term_Args d2) (dc (Af.c_Term_To d2) dn)))) (kd (kd kn)) ⟨Z,Z,Z,Z,Z,trivial⟩
 refine jq (jr (js (Ao Z Z) (ja Z (jn (jx ?_)))))
 refine jif Z (fun hc8=>?_) (fun hc8=>?_)
 refine jq (jr (js (jf Cn Z) (js (jl k0 O58 Z Z) (js (jlg U58 k2 Z) (js (Ee Z Z) (jm Z (jg Z Z (.t _) (fun hg=>jf Cn Z) (jg Z Z (.t _) (fun hg=>jl k0 O58 (evg Z hg) Z) (jg Z Z (.t _) (fun hg=>jmv Z) (jg Z Z (.t _) (fun hg=>jig U58 Z67 k2 (evg Z hg) (evg Z hg) Z (by first|omega|(simp at hg;omega)|(simp only[List.length_set];omega)|(simp;done))) (jg Z Z (.t _) (fun hg=>jf Hi (evg Z hg)) ?_)))))))))))
 refine jge (q:=fun v=>dv (rL (rI .i64)) v ((ix xb.Ins iq).Args)) Z Z (.t _) (fun hg=>Me (i:=iq) (off:=3) k2 (by first|omega|(simp at hg;omega)|(simp only[List.length_set];omega)|(simp;done)) O22 (evg Z hg) (by first|rfl|omega) Am.L_Args) fun v112=>jg Z Z (.t _) (fun hg=>jln U22 (d0.on hg) (evg Z hg)) (jg Z Z (.t _) (fun hg=>Ee (evg Z hg) Z) (js (Cf Z Z) (jn (jx ?_))))
 refine jif Z (fun hc9=>?_) (fun hc9=>?_)
 refine jq (jr (Bg (r:=(rI .i64)) (l:=[]) U22 I3 (by decide) Z Z Z ln fun g116=>js (jf Cn Z) (js (jl k1 O58 Z Z) (jm Z (js (jig U58 Z67 k3 Z Z Z (by omega)) (js (jf Hi Z) (jev (Me (i:=iq) (off:=3) k3 (by omega) O22 Z (by first|rfl|omega) Am.L_Args) fun v122 q32 w32=>Hd U22 I3 (by decide) Z k0 Z Z d0 (by(try simp)<;>omega) fun v123 w34=>ja Z (jn ?_))))))))
 refine jx (jq (jr (jm Z (jm Z (jm Z (js (jlg U22 k0 Z) (js (Gi Z Z (by omega)) ?_)))))))
 have ht128:=Js ↑nq (n:=(↑(List.length ((ix xb.Ins iq).Args)))) (by omega)
 have hn128:=Oo ↑nq (↑(List.length ((ix xb.Ins iq).Args))) (by omega)
 refine jm Z (js (jig (i:=(Int.toNat (Int.tmod ↑nq (↑(List.length ((ix xb.Ins iq).Args)))))) U22 Z3 k0 Z Z (by omega) (by omega)) (jsg k0 Z Z3 Z Z Z (by omega) (wI (wp (IntWalk.i64_in _ (by omega)))) (jn (jx (jr (js (jf Cn Z) (js (jl k1 O58 Z Z) (jm Z (jm Z (js (jig U58 Z67 k3 Z Z Z (by omega)) (js (jf Hi Z) ?_)))))))))))
 refine jfz k0 (by(try simp)<;>omega) (jsp (i:=iq) (off:=3) (a:={ ix xb.Ins iq with Args:=List.set ((ix xb.Ins iq).Args) (Int.toNat (Int.tmod ↑nq (↑(List.length ((ix xb.Ins iq).Args))))) ↑nq }) k2 (by omega) Z22 Z (by omega) Z w34.one (Am.S_Args d0) (jn (jbn (qfz k2 (by omega) (qfz k0 (by(try simp)<;>omega) ?_)))))
 exact jje (f.Params,v49,xb.Phis,v44,List.set xb.Ins iq ({ ix xb.Ins iq with Args:=List.set ((ix xb.Ins iq).Args) (Int.toNat (Int.tmod ((nq:Nat):Int) (((List.length ((ix xb.Ins iq).Args):Nat):Int)))) ((nq:Nat):Int) }),(xb.Term).Kind,c40c,(xb.Term).Args,c40d,(xb.Term).To,(xb.Term).Imm) ⟨w15,w13,w14⟩ (dc d1 (dc d0 (dc (Af.c_Term_Args d5) (dc (Af.c_Term_To d5) dn)))) (kd (kd kn)) ⟨Z,Z,Z,Z,Z,trivial⟩
 refine jsk (jbn (qfz k1 (by omega) (qfz k1 (by omega) ?_)))
 exact jje (f.Params,v49,xb.Phis,v44,xb.Ins,(xb.Term).Kind,c40c,(xb.Term).Args,c40d,(xb.Term).To,(xb.Term).Imm) ⟨w15,w13,w14⟩ (dc d1 (dc d0 (dc (Af.c_Term_Args d3) (dc (Af.c_Term_To d3) dn)))) (kd (kd kn)) ⟨Z,Z,Z,Z,Z,trivial⟩
 refine jq (jr (js (Ao Z Z) (ja Z (jn (jx ?_)))))
 refine jif Z (fun hc10=>?_) (fun hc10=>?_)
 refine jr (Bg (r:=(rI .i64)) (l:=[]) U22 I3 (by decide) Z Z Z ln fun g139=>js (jf Eh Z) (js (jf Ei Z) (js (jl k1 O22 Z Z) (Hd U22 I3 (by decide) Z k0 Z Z (Af.c_Term_To d0) (by(try simp)<;>omega) fun v143 w40=>jm Z (js (Gi Z Z (by decide)) ?_)))))
 have ht145:=Js ↑nq (n:=12) (by omega)
 refine js (Gw Z Z (by omega)) (Gk U22 I3 (by decide) Z Z k0 Z (wI (wp (IntWalk.i64_in _ (by omega)))) (by(try simp)<;>omega) (fun _=>Z) fun v148 _ w41=>js (jf Eh Z) (js (jf Ei Z) (jst k1 Z22 Z Z w41.one s4 (jn (jbn (qfz k2 (by omega) (qfz k2 (by omega) (qfz k1 (by(try simp)<;>omega) ?_))))))))
 exact jje (f.Params,v49,xb.Phis,v44,xb.Ins,(xb.Term).Kind,c40c,(xb.Term).Args,v148,((xb.Term).To)++[(Int.tmod ((nq:Nat):Int) 12)-1],(xb.Term).Imm) ⟨w15,w13,w14⟩ (dc d2 (dc d1 (dc (Af.c_Term_Args d3) (dc d0 dn)))) (kd (kd kn)) ⟨Z,Z,Z,Z,Z,trivial⟩
 refine jq (jr (js (Ao Z Z) (ja Z (jn (jx ?_)))))
 refine jif Z (fun hc11=>?_) (fun hc11=>?_)
 refine jr (jm Z (js (Gi Z Z (by decide)) ?_))
 have ht154:=Js ↑nq (n:=7) (by omega)
 refine js (jf Eh Z) (js (jf Lu Z) (jst k0 Z3 Z Z Z s2 (jn (jbn (qfz k1 (by omega) (qfz k1 (by omega) ?_))))))
 exact jje (f.Params,v49,xb.Phis,v44,xb.Ins,Int.tmod ((nq:Nat):Int) 7,c40c,(xb.Term).Args,c40d,(xb.Term).To,(xb.Term).Imm) ⟨w15,(by dsimp only;exact IntWalk.i64_in _ (by omega)),w14⟩ (dc d1 (dc d0 (dc (Af.c_Term_Args d2) (dc (Af.c_Term_To d2) dn)))) (kd (kd kn)) ⟨Z,Z,Z,Z,Z,trivial⟩
 refine jq (jr (js (Ao Z Z) (ja Z (jn (jx ?_)))))
 refine jif Z (fun hc12=>?_) (fun hc12=>?_)
 refine jq (jr (js (jf Dy Z) (js (jl k0 O57 Z Z) (js (jlg U57 k1 Z) (js (Ee Z Z) (jn (jx ?_)))))))
 refine jif Z (fun hc13=>?_) (fun hc13=>?_)
 refine Bz true (.a 0 (.a 1 (.a 2 (.a 3 (.a 4 (.a 5 (.a 6 (.a 8 (.a 9 (.a 10 (.a 11 (.a 12 (.a 13 (.a 14 (.a 15 (.a 16 (.a 19 (.a 20 (.a 21 (.a 22 (.w3 7 17 23 (.w 17 23 (.w 18 23 (.o 23 (.o 24 (.a 25 (.a 26 (.o 27 .e))))) (.o 18 (.o 24 (.a 25 (.a 26 (.o 27 .e)))))) (.o 17 (.o 18 (.o 24 (.a 25 (.a 26 (.o 27 .e))))))) (.w 7 23 (.w 18 23 (.o 23 (.o 24 (.a 25 (.a 26 (.o 27 .e))))) (.o 18 (.o 24 (.a 25 (.a 26 (.o 27 .e)))))) (.o 7 (.o 18 (.o 24 (.a 25 (.a 26 (.o 27 .e))))))) (.w 7 17 (.o 17 (.o 18 (.o 24 (.a 25 (.a 26 (.o 27 .e)))))) (.o 7 (.o 18 (.o 24 (.a 25 (.a 26 (.o 27 .e)))))))))))))))))))))))))))) Bi (by kernel_rfl) (kd kn) fun F47=>jy Z (jf Dy Z) (jy Z (jl k0 O57 Z Z) (jy Z (jmv Z) (jy Z (jf Dy Z) (jy Z (jl k0 O57 Z Z) (jy Z (jlg U57 k1 Z) (jy Z (Gi Z Z (by omega)) ?_))))))
 have ht169:=Js ↑nq (n:=(↑(List.length xb.Phis))) (by omega)
 have hn169:=Oo ↑nq (↑(List.length xb.Phis)) (by omega)
 refine jy Z (jf Dy Z) (jy Z (jl k0 O57 Z Z) (jy Z (jmv Z) (jy Z (jf Dy Z) (jy Z (jl k0 O57 Z Z) (jy Z (jlg U57 k1 Z) (jy Z (Gi Z Z (by omega)) ?_))))))
 have ht177:=Js ↑nq (n:=(↑(List.length xb.Phis))) (by omega)
 have hn177:=Oo ↑nq (↑(List.length xb.Phis)) (by omega)
 have hS5:=hS4 _ (Ax (l:=xb.Phis) (i:=Int.toNat (Int.tmod (nq:Int) (xb.Phis.length:Int))) (by omega))
 refine jy Z (jig (i:=(Int.toNat (Int.tmod ↑nq (↑(List.length xb.Phis))))) U57 Z65 k1 Z Z (by omega) (by omega)) (jy Z (jf Fa Z) (jy Z (jmv Z) (jy Z (Gi Z Z (by decide)) ?_)))
 have ht183:=Js ↑nq (n:=5) (by omega)
 refine jy Z (jmv Z) (jy Z (jbu (v := .agg #[.int .i64 (Int.tmod ↑nq 5),.int .i64 (↑nq)]) Z (fun _=>by kernel_rfl)) ?_)
 refine Xz Z Z Z ?_ ?_ ?_
 refine Bg (r:=rIn) (l:=[]) U63 Dp (by decide) Z Z Z ln fun g170=>jyn d0 (kc k1 (kc k1 kn)) ?_
 refine jyw Z Z ?_ ?_
 refine jev (Me (i:=(Int.toNat (Int.tmod ↑nq (↑(List.length xb.Phis))))) (off:=1) k2 (by omega) O63 Z (by first|rfl|omega) Aw.L_In) fun v180 q50 w50=>jyn d1 (kc k1 (kc k1 kn)) ?_
 refine jyw Z Z ?_ ?_
 refine Hd U63 Dp (by decide) Z k0 Z Z d1 (by(try simp)<;>omega) fun v181 w53=>jyn d0 (kc k1 (kc k1 kn)) (jyo Z (Bg (r:=rIn) (l:=[⟨Int.tmod ↑nq 5,↑nq⟩]) U63 Dp (by decide) Z Z Z (lA (rIn.M (m:=⟨Int.tmod ↑nq 5,↑nq⟩) (c:=()) (wp (IntWalk.i64_in (Int.tmod ↑nq 5) (by omega))) (wp (IntWalk.i64_in ↑nq (by omega)))) ln) fun g186=>jyn d0 (kc k2 (kc k2 kn)) (jyo Z (jfz k0 (by(try simp)<;>omega) (Dl U63 Dp (by decide) Z k0 Z Z d0 (by(try simp)<;>omega) fun v187 w57=>jyn d1 (kc k1 (kc k1 kn)) (jy Z (jig (i:=(Int.toNat (Int.tmod ↑nq (↑(List.length xb.Phis))))) U57 Z65 k1 Z Z (by omega) (by omega)) (jy Z (jf Fa Z) (jyo Z ?_))))))))
 refine jfz k0 (by(try simp)<;>omega) (jsp (i:=(Int.toNat (Int.tmod ↑nq (↑(List.length xb.Phis))))) (off:=1) (a:={ ix xb.Phis (Int.toNat (Int.tmod ↑nq (↑(List.length xb.Phis)))) with In:=((ix xb.Phis (Int.toNat (Int.tmod ↑nq (↑(List.length xb.Phis))))).In)++([⟨Int.tmod ↑nq 5,↑nq⟩]) }) k1 (by omega) Z63 Z (by omega) Z w57.one (Aw.S_In d0) (jyz d1 (jyd (jbn (qfz k0 (by(try simp)<;>omega) (qfz k1 (by omega) ?_))))))
 exact jje (f.Params,v49,List.set xb.Phis (Int.toNat (Int.tmod ((nq:Nat):Int) (((List.length xb.Phis:Nat):Int)))) ({ ix xb.Phis (Int.toNat (Int.tmod ((nq:Nat):Int) (((List.length xb.Phis:Nat):Int)))) with In:=((ix xb.Phis (Int.toNat (Int.tmod ((nq:Nat):Int) (((List.length xb.Phis:Nat):Int))))).In)++([⟨Int.tmod ((nq:Nat):Int) 5,((nq:Nat):Int)⟩]) }),v44,xb.Ins,(xb.Term).Kind,c40c,(xb.Term).Args,c40d,(xb.Term).To,(xb.Term).Imm) ⟨w15,w13,w14⟩ (dc d1 (dc d0 (dc (Af.c_Term_Args d11) (dc (Af.c_Term_To d11) dn)))) (kd (kd kn)) ⟨Z,Z,Z,Z,Z,trivial⟩
 refine Bg (r:=rIn) (l:=[⟨Int.tmod ↑nq 5,↑nq⟩]) U63 Dp (by decide) Z Z Z (lA (rIn.M (m:=⟨Int.tmod ↑nq 5,↑nq⟩) (c:=()) (wp (IntWalk.i64_in (Int.tmod ↑nq 5) (by omega))) (wp (IntWalk.i64_in ↑nq (by omega)))) ln) fun g186=>jyn d0 (kc k2 (kc k2 kn)) (jyo Z (Hd U63 Dp (by decide) Z k1 Z Z d2 (by(try simp)<;>omega) fun v181 w54=>jyn d0 (kc k2 (kc k2 kn)) (jyo Z (jfz k1 (by(try simp)<;>omega) (Dl U63 Dp (by decide) Z k0 Z Z d0 (by(try simp)<;>omega) fun v187 w57=>jyn d1 (kc k1 (kc k1 kn)) (jy Z (jig (i:=(Int.toNat (Int.tmod ↑nq (↑(List.length xb.Phis))))) U57 Z65 k1 Z Z (by omega) (by omega)) (jy Z (jf Fa Z) (jyo Z ?_))))))))
 refine jfz k0 (by(try simp)<;>omega) (jsp (i:=(Int.toNat (Int.tmod ↑nq (↑(List.length xb.Phis))))) (off:=1) (a:={ ix xb.Phis (Int.toNat (Int.tmod ↑nq (↑(List.length xb.Phis)))) with In:=((ix xb.Phis (Int.toNat (Int.tmod ↑nq (↑(List.length xb.Phis))))).In)++([⟨Int.tmod ↑nq 5,↑nq⟩]) }) k1 (by omega) Z63 Z (by omega) Z w57.one (Aw.S_In d0) (jyz d1 (jyd (jbn (qfz k0 (by(try simp)<;>omega) (qfz k1 (by omega) ?_))))))
 exact jje (f.Params,v49,List.set xb.Phis (Int.toNat (Int.tmod ((nq:Nat):Int) (((List.length xb.Phis:Nat):Int)))) ({ ix xb.Phis (Int.toNat (Int.tmod ((nq:Nat):Int) (((List.length xb.Phis:Nat):Int)))) with In:=((ix xb.Phis (Int.toNat (Int.tmod ((nq:Nat):Int) (((List.length xb.Phis:Nat):Int))))).In)++([⟨Int.tmod ((nq:Nat):Int) 5,((nq:Nat):Int)⟩]) }),v44,xb.Ins,(xb.Term).Kind,c40c,(xb.Term).Args,c40d,(xb.Term).To,(xb.Term).Imm) ⟨w15,w13,w14⟩ (dc d1 (dc d0 (dc (Af.c_Term_Args d11) (dc (Af.c_Term_To d11) dn)))) (kd (kd kn)) ⟨Z,Z,Z,Z,Z,trivial⟩
 refine Bg (r:=rIn) (l:=[⟨Int.tmod ↑nq 5,↑nq⟩]) U63 Dp (by decide) Z Z Z (lA (rIn.M (m:=⟨Int.tmod ↑nq 5,↑nq⟩) (c:=()) (wp (IntWalk.i64_in (Int.tmod ↑nq 5) (by omega))) (wp (IntWalk.i64_in ↑nq (by omega)))) ln) fun g186=>jyn d0 (kc k2 (kc k2 kn)) (jyo Z (jev (Me (i:=(Int.toNat (Int.tmod ↑nq (↑(List.length xb.Phis))))) (off:=1) k3 (by omega) O63 Z (by first|rfl|omega) Aw.L_In) fun v180 q51 w51=>jyn d1 (kc k2 (kc k2 kn)) (jyo Z (Hd U63 Dp (by decide) Z k1 Z Z d1 (by(try simp)<;>omega) fun v181 w54=>jyn d0 (kc k2 (kc k2 kn)) (jyo Z (jfz k1 (by(try simp)<;>omega) (Dl U63 Dp (by decide) Z k0 Z Z d0 (by(try simp)<;>omega) fun v187 w57=>jyn d1 (kc k1 (kc k1 kn)) ?_)))))))
 refine jy Z (jig (i:=(Int.toNat (Int.tmod ↑nq (↑(List.length xb.Phis))))) U57 Z65 k1 Z Z (by omega) (by omega)) (jy Z (jf Fa Z) (jyo Z (jfz k0 (by(try simp)<;>omega) (jsp (i:=(Int.toNat (Int.tmod ↑nq (↑(List.length xb.Phis))))) (off:=1) (a:={ ix xb.Phis (Int.toNat (Int.tmod ↑nq (↑(List.length xb.Phis)))) with In:=((ix xb.Phis (Int.toNat (Int.tmod ↑nq (↑(List.length xb.Phis))))).In)++([⟨Int.tmod ↑nq 5,↑nq⟩]) }) k1 (by omega) Z63 Z (by omega) Z w57.one (Aw.S_In d0) (jyz d1 (jyd (jbn (qfz k0 (by(try simp)<;>omega) (qfz k1 (by omega) ?_)))))))))
 exact jje (f.Params,v49,List.set xb.Phis (Int.toNat (Int.tmod ((nq:Nat):Int) (((List.length xb.Phis:Nat):Int)))) ({ ix xb.Phis (Int.toNat (Int.tmod ((nq:Nat):Int) (((List.length xb.Phis:Nat):Int)))) with In:=((ix xb.Phis (Int.toNat (Int.tmod ((nq:Nat):Int) (((List.length xb.Phis:Nat):Int))))).In)++([⟨Int.tmod ((nq:Nat):Int) 5,((nq:Nat):Int)⟩]) }),v44,xb.Ins,(xb.Term).Kind,c40c,(xb.Term).Args,c40d,(xb.Term).To,(xb.Term).Imm) ⟨w15,w13,w14⟩ (dc d1 (dc d0 (dc (Af.c_Term_Args d11) (dc (Af.c_Term_To d11) dn)))) (kd (kd kn)) ⟨Z,Z,Z,Z,Z,trivial⟩
 refine jev (Me (i:=(Int.toNat (Int.tmod ↑nq (↑(List.length xb.Phis))))) (off:=1) k1 (by omega) O63 Z (by first|rfl|omega) Aw.L_In) fun v180 q49 w49=>jyn d1 (kd kn) ?_
 refine jyw Z Z ?_ ?_
 refine Bg (r:=rIn) (l:=[]) U63 Dp (by decide) Z Z Z ln fun g170=>jyn d0 (kc k1 (kc k1 kn)) ?_
 refine jyw Z Z ?_ ?_
 refine Hd U63 Dp (by decide) Z k0 Z Z d2 (by(try simp)<;>omega) fun v181 w53=>jyn d0 (kc k1 (kc k1 kn)) (jyo Z (Bg (r:=rIn) (l:=[⟨Int.tmod ↑nq 5,↑nq⟩]) U63 Dp (by decide) Z Z Z (lA (rIn.M (m:=⟨Int.tmod ↑nq 5,↑nq⟩) (c:=()) (wp (IntWalk.i64_in (Int.tmod ↑nq 5) (by omega))) (wp (IntWalk.i64_in ↑nq (by omega)))) ln) fun g186=>jyn d0 (kc k2 (kc k2 kn)) (jyo Z (jfz k0 (by(try simp)<;>omega) (Dl U63 Dp (by decide) Z k0 Z Z d0 (by(try simp)<;>omega) fun v187 w57=>jyn d1 (kc k1 (kc k1 kn)) (jy Z (jig (i:=(Int.toNat (Int.tmod ↑nq (↑(List.length xb.Phis))))) U57 Z65 k1 Z Z (by omega) (by omega)) (jy Z (jf Fa Z) (jyo Z ?_))))))))
 refine jfz k0 (by(try simp)<;>omega) (jsp (i:=(Int.toNat (Int.tmod ↑nq (↑(List.length xb.Phis))))) (off:=1) (a:={ ix xb.Phis (Int.toNat (Int.tmod ↑nq (↑(List.length xb.Phis)))) with In:=((ix xb.Phis (Int.toNat (Int.tmod ↑nq (↑(List.length xb.Phis))))).In)++([⟨Int.tmod ↑nq 5,↑nq⟩]) }) k1 (by omega) Z63 Z (by omega) Z w57.one (Aw.S_In d0) (jyz d1 (jyd (jbn (qfz k0 (by(try simp)<;>omega) (qfz k1 (by omega) ?_))))))
 exact jje (f.Params,v49,List.set xb.Phis (Int.toNat (Int.tmod ((nq:Nat):Int) (((List.length xb.Phis:Nat):Int)))) ({ ix xb.Phis (Int.toNat (Int.tmod ((nq:Nat):Int) (((List.length xb.Phis:Nat):Int)))) with In:=((ix xb.Phis (Int.toNat (Int.tmod ((nq:Nat):Int) (((List.length xb.Phis:Nat):Int))))).In)++([⟨Int.tmod ((nq:Nat):Int) 5,((nq:Nat):Int)⟩]) }),v44,xb.Ins,(xb.Term).Kind,c40c,(xb.Term).Args,c40d,(xb.Term).To,(xb.Term).Imm) ⟨w15,w13,w14⟩ (dc d1 (dc d0 (dc (Af.c_Term_Args d11) (dc (Af.c_Term_To d11) dn)))) (kd (kd kn)) ⟨Z,Z,Z,Z,Z,trivial⟩
 refine Bg (r:=rIn) (l:=[⟨Int.tmod ↑nq 5,↑nq⟩]) U63 Dp (by decide) Z Z Z (lA (rIn.M (m:=⟨Int.tmod ↑nq 5,↑nq⟩) (c:=()) (wp (IntWalk.i64_in (Int.tmod ↑nq 5) (by omega))) (wp (IntWalk.i64_in ↑nq (by omega)))) ln) fun g186=>jyn d0 (kc k2 (kc k2 kn)) (jyo Z (Hd U63 Dp (by decide) Z k1 Z Z d3 (by(try simp)<;>omega) fun v181 w54=>jyn d0 (kc k2 (kc k2 kn)) (jyo Z (jfz k1 (by(try simp)<;>omega) (Dl U63 Dp (by decide) Z k0 Z Z d0 (by(try simp)<;>omega) fun v187 w57=>jyn d1 (kc k1 (kc k1 kn)) (jy Z (jig (i:=(Int.toNat (Int.tmod ↑nq (↑(List.length xb.Phis))))) U57 Z65 k1 Z Z (by omega) (by omega)) (jy Z (jf Fa Z) (jyo Z ?_))))))))
 refine jfz k0 (by(try simp)<;>omega) (jsp (i:=(Int.toNat (Int.tmod ↑nq (↑(List.length xb.Phis))))) (off:=1) (a:={ ix xb.Phis (Int.toNat (Int.tmod ↑nq (↑(List.length xb.Phis)))) with In:=((ix xb.Phis (Int.toNat (Int.tmod ↑nq (↑(List.length xb.Phis))))).In)++([⟨Int.tmod ↑nq 5,↑nq⟩]) }) k1 (by omega) Z63 Z (by omega) Z w57.one (Aw.S_In d0) (jyz d1 (jyd (jbn (qfz k0 (by(try simp)<;>omega) (qfz k1 (by omega) ?_))))))
 exact jje (f.Params,v49,List.set xb.Phis (Int.toNat (Int.tmod ((nq:Nat):Int) (((List.length xb.Phis:Nat):Int)))) ({ ix xb.Phis (Int.toNat (Int.tmod ((nq:Nat):Int) (((List.length xb.Phis:Nat):Int)))) with In:=((ix xb.Phis (Int.toNat (Int.tmod ((nq:Nat):Int) (((List.length xb.Phis:Nat):Int))))).In)++([⟨Int.tmod ((nq:Nat):Int) 5,((nq:Nat):Int)⟩]) }),v44,xb.Ins,(xb.Term).Kind,c40c,(xb.Term).Args,c40d,(xb.Term).To,(xb.Term).Imm) ⟨w15,w13,w14⟩ (dc d1 (dc d0 (dc (Af.c_Term_Args d11) (dc (Af.c_Term_To d11) dn)))) (kd (kd kn)) ⟨Z,Z,Z,Z,Z,trivial⟩
 refine Bg (r:=rIn) (l:=[⟨Int.tmod ↑nq 5,↑nq⟩]) U63 Dp (by decide) Z Z Z (lA (rIn.M (m:=⟨Int.tmod ↑nq 5,↑nq⟩) (c:=()) (wp (IntWalk.i64_in (Int.tmod ↑nq 5) (by omega))) (wp (IntWalk.i64_in ↑nq (by omega)))) ln) fun g186=>jyn d0 (kc k1 (kc k1 kn)) (jyo Z (Bg (r:=rIn) (l:=[]) U63 Dp (by decide) Z Z Z ln fun g170=>jyn d0 (kc k2 (kc k2 kn)) (jyo Z (Hd U63 Dp (by decide) Z k0 Z Z d3 (by(try simp)<;>omega) fun v181 w54=>jyn d0 (kc k2 (kc k2 kn)) (jyo Z (jfz k1 (by(try simp)<;>omega) (Dl U63 Dp (by decide) Z k0 Z Z d0 (by(try simp)<;>omega) fun v187 w57=>jyn d1 (kc k1 (kc k1 kn)) ?_)))))))
 refine jy Z (jig (i:=(Int.toNat (Int.tmod ↑nq (↑(List.length xb.Phis))))) U57 Z65 k1 Z Z (by omega) (by omega)) (jy Z (jf Fa Z) (jyo Z (jfz k0 (by(try simp)<;>omega) (jsp (i:=(Int.toNat (Int.tmod ↑nq (↑(List.length xb.Phis))))) (off:=1) (a:={ ix xb.Phis (Int.toNat (Int.tmod ↑nq (↑(List.length xb.Phis)))) with In:=((ix xb.Phis (Int.toNat (Int.tmod ↑nq (↑(List.length xb.Phis))))).In)++([⟨Int.tmod ↑nq 5,↑nq⟩]) }) k1 (by omega) Z63 Z (by omega) Z w57.one (Aw.S_In d0) (jyz d1 (jyd (jbn (qfz k0 (by(try simp)<;>omega) (qfz k1 (by omega) ?_)))))))))
 exact jje (f.Params,v49,List.set xb.Phis (Int.toNat (Int.tmod ((nq:Nat):Int) (((List.length xb.Phis:Nat):Int)))) ({ ix xb.Phis (Int.toNat (Int.tmod ((nq:Nat):Int) (((List.length xb.Phis:Nat):Int)))) with In:=((ix xb.Phis (Int.toNat (Int.tmod ((nq:Nat):Int) (((List.length xb.Phis:Nat):Int))))).In)++([⟨Int.tmod ((nq:Nat):Int) 5,((nq:Nat):Int)⟩]) }),v44,xb.Ins,(xb.Term).Kind,c40c,(xb.Term).Args,c40d,(xb.Term).To,(xb.Term).Imm) ⟨w15,w13,w14⟩ (dc d1 (dc d0 (dc (Af.c_Term_Args d11) (dc (Af.c_Term_To d11) dn)))) (kd (kd kn)) ⟨Z,Z,Z,Z,Z,trivial⟩
 refine Bg (r:=rIn) (l:=[⟨Int.tmod ↑nq 5,↑nq⟩]) U63 Dp (by decide) Z Z Z (lA (rIn.M (m:=⟨Int.tmod ↑nq 5,↑nq⟩) (c:=()) (wp (IntWalk.i64_in (Int.tmod ↑nq 5) (by omega))) (wp (IntWalk.i64_in ↑nq (by omega)))) ln) fun g186=>jyn d0 (kc k1 (kc k1 kn)) ?_
 refine jyw Z Z ?_ ?_
 refine Bg (r:=rIn) (l:=[]) U63 Dp (by decide) Z Z Z ln fun g170=>jyn d0 (kc k2 (kc k2 kn)) (jyo Z (jev (Me (i:=(Int.toNat (Int.tmod ↑nq (↑(List.length xb.Phis))))) (off:=1) k3 (by omega) O63 Z (by first|rfl|omega) Aw.L_In) fun v180 q51 w51=>jyn d1 (kc k2 (kc k2 kn)) (jyo Z (Hd U63 Dp (by decide) Z k0 Z Z d1 (by(try simp)<;>omega) fun v181 w54=>jyn d0 (kc k2 (kc k2 kn)) (jyo Z (jfz k1 (by(try simp)<;>omega) (Dl U63 Dp (by decide) Z k0 Z Z d0 (by(try simp)<;>omega) fun v187 w57=>jyn d1 (kc k1 (kc k1 kn)) ?_)))))))
 refine jy Z (jig (i:=(Int.toNat (Int.tmod ↑nq (↑(List.length xb.Phis))))) U57 Z65 k1 Z Z (by omega) (by omega)) (jy Z (jf Fa Z) (jyo Z (jfz k0 (by(try simp)<;>omega) (jsp (i:=(Int.toNat (Int.tmod ↑nq (↑(List.length xb.Phis))))) (off:=1) (a:={ ix xb.Phis (Int.toNat (Int.tmod ↑nq (↑(List.length xb.Phis)))) with In:=((ix xb.Phis (Int.toNat (Int.tmod ↑nq (↑(List.length xb.Phis))))).In)++([⟨Int.tmod ↑nq 5,↑nq⟩]) }) k1 (by omega) Z63 Z (by omega) Z w57.one (Aw.S_In d0) (jyz d1 (jyd (jbn (qfz k0 (by(try simp)<;>omega) (qfz k1 (by omega) ?_)))))))))
 exact jje (f.Params,v49,List.set xb.Phis (Int.toNat (Int.tmod ((nq:Nat):Int) (((List.length xb.Phis:Nat):Int)))) ({ ix xb.Phis (Int.toNat (Int.tmod ((nq:Nat):Int) (((List.length xb.Phis:Nat):Int)))) with In:=((ix xb.Phis (Int.toNat (Int.tmod ((nq:Nat):Int) (((List.length xb.Phis:Nat):Int))))).In)++([⟨Int.tmod ((nq:Nat):Int) 5,((nq:Nat):Int)⟩]) }),v44,xb.Ins,(xb.Term).Kind,c40c,(xb.Term).Args,c40d,(xb.Term).To,(xb.Term).Imm) ⟨w15,w13,w14⟩ (dc d1 (dc d0 (dc (Af.c_Term_Args d11) (dc (Af.c_Term_To d11) dn)))) (kd (kd kn)) ⟨Z,Z,Z,Z,Z,trivial⟩
 refine jev (Me (i:=(Int.toNat (Int.tmod ↑nq (↑(List.length xb.Phis))))) (off:=1) k2 (by omega) O63 Z (by first|rfl|omega) Aw.L_In) fun v180 q50 w50=>jyn d1 (kc k1 (kc k1 kn)) (jyo Z (Bg (r:=rIn) (l:=[]) U63 Dp (by decide) Z Z Z ln fun g170=>jyn d0 (kc k2 (kc k2 kn)) (jyo Z (Hd U63 Dp (by decide) Z k0 Z Z d2 (by(try simp)<;>omega) fun v181 w54=>jyn d0 (kc k2 (kc k2 kn)) (jyo Z (jfz k1 (by(try simp)<;>omega) (Dl U63 Dp (by decide) Z k0 Z Z d0 (by(try simp)<;>omega) fun v187 w57=>jyn d1 (kc k1 (kc k1 kn)) ?_)))))))
 refine jy Z (jig (i:=(Int.toNat (Int.tmod ↑nq (↑(List.length xb.Phis))))) U57 Z65 k1 Z Z (by omega) (by omega)) (jy Z (jf Fa Z) (jyo Z (jfz k0 (by(try simp)<;>omega) (jsp (i:=(Int.toNat (Int.tmod ↑nq (↑(List.length xb.Phis))))) (off:=1) (a:={ ix xb.Phis (Int.toNat (Int.tmod ↑nq (↑(List.length xb.Phis)))) with In:=((ix xb.Phis (Int.toNat (Int.tmod ↑nq (↑(List.length xb.Phis))))).In)++([⟨Int.tmod ↑nq 5,↑nq⟩]) }) k1 (by omega) Z63 Z (by omega) Z w57.one (Aw.S_In d0) (jyz d1 (jyd (jbn (qfz k0 (by(try simp)<;>omega) (qfz k1 (by omega) ?_)))))))))
 exact jje (f.Params,v49,List.set xb.Phis (Int.toNat (Int.tmod ((nq:Nat):Int) (((List.length xb.Phis:Nat):Int)))) ({ ix xb.Phis (Int.toNat (Int.tmod ((nq:Nat):Int) (((List.length xb.Phis:Nat):Int)))) with In:=((ix xb.Phis (Int.toNat (Int.tmod ((nq:Nat):Int) (((List.length xb.Phis:Nat):Int))))).In)++([⟨Int.tmod ((nq:Nat):Int) 5,((nq:Nat):Int)⟩]) }),v44,xb.Ins,(xb.Term).Kind,c40c,(xb.Term).Args,c40d,(xb.Term).To,(xb.Term).Imm) ⟨w15,w13,w14⟩ (dc d1 (dc d0 (dc (Af.c_Term_Args d11) (dc (Af.c_Term_To d11) dn)))) (kd (kd kn)) ⟨Z,Z,Z,Z,Z,trivial⟩
 refine jsk (jbn (qfz k1 (by omega) (qfz k1 (by omega) ?_)))
 exact jje (f.Params,v49,xb.Phis,v44,xb.Ins,(xb.Term).Kind,c40c,(xb.Term).Args,c40d,(xb.Term).To,(xb.Term).Imm) ⟨w15,w13,w14⟩ (dc d1 (dc d0 (dc (Af.c_Term_Args d2) (dc (Af.c_Term_To d2) dn)))) (kd (kd kn)) ⟨Z,Z,Z,Z,Z,trivial⟩
 refine jq (jr (js (Ao Z Z) (ja Z (jn (jx ?_)))))
 refine jif Z (fun hc14=>?_) (fun hc14=>?_)
 refine jq (jr (js (jf Dy Z) (js (jl k0 O57 Z Z) (js (jlg U57 k1 Z) (js (Ee Z Z) (jm Z (jg Z Z (.t _) (fun hg=>jf Dy Z) (jg Z Z (.t _) (fun hg=>jl k0 O57 (evg Z hg) Z) (jg Z Z (.t _) (fun hg=>jig (i:=0) U57 Z65 k1 (evg Z hg) Z Z (by first|omega|(simp at hg;omega)|(simp only[List.length_set];omega)|(simp;done))) (jg Z Z (.t _) (fun hg=>jf Fa (evg Z hg)) (jge (q:=fun v=>dv (rL rIn) v ((ix xb.Phis 0).In)) Z Z (.t _) (fun hg=>Me (i:=0) (off:=1) k1 (by first|omega|(simp at hg;omega)|(simp only[List.length_set];omega)|(simp;done)) O63 (evg Z hg) (by first|rfl|omega) Aw.L_In) fun v201=>?_)))))))))))
 refine jg Z Z (.t _) (fun hg=>jln U63 (d0.on hg) (evg Z hg)) (jg Z Z (.t _) (fun hg=>Ee (evg Z hg) Z) (js (Cf Z Z) (jn (jx ?_))))
 refine jif Z (fun hc15=>?_) (fun hc15=>?_)
 refine jq (jr (Bg (r:=rIn) (l:=[]) U63 Dp (by decide) Z Z Z ln fun g205=>js (jf Dy Z) (js (jl k1 O57 Z Z) (js (jig (i:=0) U57 Z65 k2 Z Z Z (by omega)) (js (jf Fa Z) (jev (Me (i:=0) (off:=1) k2 (by omega) O63 Z (by first|rfl|omega) Aw.L_In) fun v210 q65 w65=>Hd U63 Dp (by decide) Z k0 Z Z d0 (by(try simp)<;>omega) fun v211 w67=>ja Z (jn (jx ?_))))))))
 refine jq (jr (jm Z (jm Z (jm Z (js (jlg U63 k0 Z) (js (Gi Z Z (by omega)) ?_))))))
 have ht216:=Js ↑nq (n:=(↑(List.length ((ix xb.Phis 0).In)))) (by omega)
 have hn216:=Oo ↑nq (↑(List.length ((ix xb.Phis 0).In))) (by omega)
 refine jm Z (js (jig (i:=(Int.toNat (Int.tmod ↑nq (↑(List.length ((ix xb.Phis 0).In)))))) U63 Hh k0 Z Z (by omega) (by omega)) (js (jf Qi Z) (jsp (i:=(Int.toNat (Int.tmod ↑nq (↑(List.length ((ix xb.Phis 0).In)))))) (off:=1) (a:={ ix ((ix xb.Phis 0).In) (Int.toNat (Int.tmod ↑nq (↑(List.length ((ix xb.Phis 0).In))))) with Val:=↑nq }) k0 (by omega) Z3 Z (by omega) Z Z (rIn.S_Val (wp (IntWalk.i64_in _ (by omega)))) (jn (jx (jr (js (jf Dy Z) (js (jl k1 O57 Z Z) (jm Z (js (jig (i:=0) U57 Z65 k2 Z Z Z (by omega)) (js (jf Fa Z) ?_)))))))))))
 refine jfz k0 (by(try simp)<;>omega) (jsp (i:=0) (off:=1) (a:={ ix xb.Phis 0 with In:=List.set ((ix xb.Phis 0).In) (Int.toNat (Int.tmod ↑nq (↑(List.length ((ix xb.Phis 0).In))))) ({ ix ((ix xb.Phis 0).In) (Int.toNat (Int.tmod ↑nq (↑(List.length ((ix xb.Phis 0).In))))) with Val:=↑nq }) }) k1 (by omega) Z63 Z (by omega) Z w67.one (Aw.S_In d0) (jn (jbn (qfz k0 (by(try simp)<;>omega) (qfz k1 (by omega) ?_)))))
 exact jje (f.Params,v49,List.set xb.Phis 0 ({ ix xb.Phis 0 with In:=List.set ((ix xb.Phis 0).In) (Int.toNat (Int.tmod ((nq:Nat):Int) (((List.length ((ix xb.Phis 0).In):Nat):Int)))) ({ ix ((ix xb.Phis 0).In) (Int.toNat (Int.tmod ((nq:Nat):Int) (((List.length ((ix xb.Phis 0).In):Nat):Int)))) with Val:=((nq:Nat):Int) }) }),v44,xb.Ins,(xb.Term).Kind,c40c,(xb.Term).Args,c40d,(xb.Term).To,(xb.Term).Imm) ⟨w15,w13,w14⟩ (dc d1 (dc d0 (dc (Af.c_Term_Args d5) (dc (Af.c_Term_To d5) dn)))) (kd (kd kn)) ⟨Z,Z,Z,Z,Z,trivial⟩
 refine jsk (jbn (qfz k1 (by omega) (qfz k1 (by omega) ?_)))
 exact jje (f.Params,v49,xb.Phis,v44,xb.Ins,(xb.Term).Kind,c40c,(xb.Term).Args,c40d,(xb.Term).To,(xb.Term).Imm) ⟨w15,w13,w14⟩ (dc d1 (dc d0 (dc (Af.c_Term_Args d3) (dc (Af.c_Term_To d3) dn)))) (kd (kd kn)) ⟨Z,Z,Z,Z,Z,trivial⟩
 refine jq (jr (js (Ao Z Z) (ja Z (jn (jx ?_)))))
 refine jif Z (fun hc16=>?_) (fun hc16=>?_)
 refine jq (jr (js (jf Cn Z) (js (jl k0 O58 Z Z) (js (jlg U58 k2 Z) (js (Ee Z Z) (jn (jx ?_)))))))
 refine jif Z (fun hc17=>?_) (fun hc17=>?_)
 refine Bz true (.a 0 (.a 1 (.a 2 (.a 4 (.a 5 (.a 6 (.a 7 (.w 3 8 (.o 8 (.o 9 (.a 10 (.o 11 .e)))) (.o 3 (.o 9 (.a 10 (.o 11 .e)))))))))))) Bi (by kernel_rfl) (kc k0 kn) fun F73=>jy Z (jf Cn Z) (jy Z (jl k0 O58 Z Z) (jy Z (jmv Z) (jy Z (jf Cn Z) (jy Z (jl k0 O58 Z Z) (jy Z (jmv Z) (jy Z (Al Z Z (by omega)) ?_))))))
 refine jyw Z Z ?_ ?_
 refine js (X4 (hi:=iq) U58 Z67 k2 Z Z Z (by omega)) (jyn d0 (kc k0 kn) (jyo Z (js (X1 (lo:=(Int.toNat (↑iq+1))) U58 Z67 k2 Z Z (by omega) (by omega)) (jyn d0 (kc k0 kn) (jyo Z (Y0 U58 I67 (by decide) Z Z Z k2 (by omega) (by omega) (by omega) fun v240 w77=>jyn d0 (kc k1 kn) (jy Z (jf Cn Z) (jyo Z (jst k1 Z58 Z Z w77.one s1 (jyz d0 ?_))))))))))
 refine jyd (jbn (qfz k2 (by omega) (qfz k1 (by(try simp)<;>omega) ?_)))
 exact jje (f.Params,v49,xb.Phis,v240,List.take iq xb.Ins++List.drop (Int.toNat (((iq:Nat):Int)+1)) xb.Ins,(xb.Term).Kind,c40c,(xb.Term).Args,c40d,(xb.Term).To,(xb.Term).Imm) ⟨w15,w13,w14⟩ (dc d1 (dc d0 (dc (Af.c_Term_Args d6) (dc (Af.c_Term_To d6) dn)))) (kd (kd kn)) ⟨Z,Z,Z,Z,Z,trivial⟩
 refine js (X1 (lo:=(Int.toNat (↑iq+1))) U58 Z67 k2 Z Z (by omega) (by omega)) (jyn d0 (kc k0 kn) (jyo Z (js (X4 (hi:=iq) U58 Z67 k2 Z Z Z (by omega)) (jyn d0 (kc k0 kn) (jyo Z (Y0 U58 I67 (by decide) Z Z Z k2 (by omega) (by omega) (by omega) fun v240 w77=>jyn d0 (kc k1 kn) (jy Z (jf Cn Z) (jyo Z (jst k1 Z58 Z Z w77.one s1 (jyz d0 ?_))))))))))
 refine jyd (jbn (qfz k2 (by omega) (qfz k1 (by(try simp)<;>omega) ?_)))
 exact jje (f.Params,v49,xb.Phis,v240,List.take iq xb.Ins++List.drop (Int.toNat (((iq:Nat):Int)+1)) xb.Ins,(xb.Term).Kind,c40c,(xb.Term).Args,c40d,(xb.Term).To,(xb.Term).Imm) ⟨w15,w13,w14⟩ (dc d1 (dc d0 (dc (Af.c_Term_Args d6) (dc (Af.c_Term_To d6) dn)))) (kd (kd kn)) ⟨Z,Z,Z,Z,Z,trivial⟩
 refine jsk (jbn (qfz k1 (by omega) (qfz k1 (by omega) ?_)))
 exact jje (f.Params,v49,xb.Phis,v44,xb.Ins,(xb.Term).Kind,c40c,(xb.Term).Args,c40d,(xb.Term).To,(xb.Term).Imm) ⟨w15,w13,w14⟩ (dc d1 (dc d0 (dc (Af.c_Term_Args d2) (dc (Af.c_Term_To d2) dn)))) (kd (kd kn)) ⟨Z,Z,Z,Z,Z,trivial⟩
 refine jq (jr (js (Ao Z Z) (ja Z (jn (jx ?_)))))
 refine jif Z (fun hc18=>?_) (fun hc18=>?_)
 refine jq (jr (js (jf Cn Z) (js (jl k0 O58 Z Z) (js (jlg U58 k2 Z) (js (Ee Z Z) (jn (jx ?_)))))))
 refine jif Z (fun hc19=>?_) (fun hc19=>?_)
 refine jq (jr (js (jf Cn Z) (js (jl k0 O58 Z Z) (js (jig (i:=0) U58 Z67 k2 Z Z Z (by omega)) (jA Mb (jgA k2 (by omega) A67 Z67 Z) fun c251=>Bo J67 Z fun g14=>jdq (Am.c_Args d0) fun q84 w84=>Bk k0 Z67 Z Z Z ⟨Z,Z,Z,w84.one,Z,trivial⟩ (saf Z) (jn (jx (jq ?_))))))))
 refine jtl 8 Bi (by kernel_rfl) (jt (jf Cn Z) (jt (jl k1 O58 Z Z) (jt (jf Cn Z) (jt (jl k1 O58 Z Z) (jt (jmv Z) (jt (jig U58 Z67 k3 Z Z Z (by omega)) (jtA Mb (jgA k3 (by omega) A67 Z67 Z) fun c258=>jt (jig (i:=0) U58 Z67 k3 Z Z Z (by omega)) (jtt (jdq (Am.c_Args d0) fun q86 w86=>Ui (i:=0) (off:=0) (us:=[.int .i64 ((ix xb.Ins iq).Op),.int .i64 ((ix xb.Ins iq).Dst),.int .i64 ((ix xb.Ins iq).Two),c258,.int .i32 ((ix xb.Ins iq).Imm)]) (a:=ix xb.Ins iq) k3 (by omega) Z67 Z (by omega) Z Z ⟨Z,Z,Z,w86.one,Z,trivial⟩ (POa d0 Z) ?_)))))))))
 refine jn (jx (jr (js (jf Cn Z) (js (jl k2 O58 Z Z) (jm Z (js (jla k1 A67 Z67 Z Z Z) (js (jig U58 Z67 k0 Z Z Z (by first|omega|(simp<;>omega))) (Ui (i:=iq) (off:=0) (us:=[.int .i64 ((ix xb.Ins 0).Op),.int .i64 ((ix xb.Ins 0).Dst),.int .i64 ((ix xb.Ins 0).Two),c251,.int .i32 ((ix xb.Ins 0).Imm)]) (a:=ix xb.Ins 0) k0 (by first|omega|(simp<;>omega)) Z67 Z (by omega) Z Z ⟨Z,Z,Z,w84.one,Z,trivial⟩ (POa d1 Z) (jn (jbn (qfz k3 (by omega) ?_)))))))))))
 refine qfz k0 (by(try simp)<;>omega) ?_
 exact jje (f.Params,v49,xb.Phis,v44,List.set (List.set xb.Ins 0 (ix xb.Ins iq)) iq (ix xb.Ins 0),(xb.Term).Kind,c40c,(xb.Term).Args,c40d,(xb.Term).To,(xb.Term).Imm) ⟨w15,w13,w14⟩ (dc d1 (dc d0 (dc (Af.c_Term_Args d4) (dc (Af.c_Term_To d4) dn)))) (kc k1 (kc k1 (kc k1 (kc k1 kn)))) ⟨Z,Z,Z,Z,Z,trivial⟩
 refine jsk (jbn (qfz k1 (by omega) (qfz k1 (by omega) ?_)))
 exact jje (f.Params,v49,xb.Phis,v44,xb.Ins,(xb.Term).Kind,c40c,(xb.Term).Args,c40d,(xb.Term).To,(xb.Term).Imm) ⟨w15,w13,w14⟩ (dc d1 (dc d0 (dc (Af.c_Term_Args d2) (dc (Af.c_Term_To d2) dn)))) (kd (kd kn)) ⟨Z,Z,Z,Z,Z,trivial⟩
 refine jq (jr (js (Ao Z Z) (ja Z (jn (jx ?_)))))
 refine jif Z (fun hc20=>?_) (fun hc20=>?_)
 refine jq (jr (js (jf Eh Z) (js (jf Ei Z) (js (jl k0 O22 Z Z) (js (jln U22 (Af.c_Term_To d0) Z) (js (Ee Z Z) (jn (jx ?_))))))))
 refine jif Z (fun hc21=>?_) (fun hc21=>?_)
 refine jq (jr (Bg (r:=(rI .i64)) (l:=[]) U22 I3 (by decide) Z Z Z ln fun g272=>js (jf Eh Z) (js (jf Ei Z) (js (jl k1 O22 Z Z) (Hd U22 I3 (by decide) Z k0 Z Z (Af.c_Term_To d0) (by(try simp)<;>omega) fun v276 w91=>ja Z (jn (jx (jq (jr ?_)))))))))
 refine jm Z (jm Z (jm Z (js (jlg U22 k0 Z) (js (Gi Z Z (by omega)) ?_))))
 have ht281:=Js ↑nq (n:=(↑(List.length ((xb.Term).To)))) (by omega)
 have hn281:=Oo ↑nq (↑(List.length ((xb.Term).To))) (by omega)
 refine jm Z (js (Gi Z Z (by decide)) ?_)
 have ht283:=Js ↑nq (n:=11) (by omega)
 refine js (jig (i:=(Int.toNat (Int.tmod ↑nq (↑(List.length ((xb.Term).To)))))) U22 Z3 k0 Z Z (by omega) (by omega)) (jsg k0 Z Z3 Z Z Z (by omega) (wI (wp (IntWalk.i64_in _ (by omega)))) (jn (jx (jr (jm Z (js (jf Eh Z) (js (jf Ei Z) (jst k1 Z22 Z Z w91.one s4 (jn (jbn (qfz k2 (by omega) ?_)))))))))))
 refine qfz k2 (by omega) (qfz k1 (by(try simp)<;>omega) ?_)
 exact jje (f.Params,v49,xb.Phis,v44,xb.Ins,(xb.Term).Kind,c40c,(xb.Term).Args,v276,List.set ((xb.Term).To) (Int.toNat (Int.tmod ((nq:Nat):Int) (((List.length ((xb.Term).To):Nat):Int)))) (Int.tmod ((nq:Nat):Int) 11),(xb.Term).Imm) ⟨w15,w13,w14⟩ (dc d2 (dc d1 (dc (Af.c_Term_Args d3) (dc d0 dn)))) (kd (kd kn)) ⟨Z,Z,Z,Z,Z,trivial⟩
 refine jsk (jbn (qfz k1 (by omega) (qfz k1 (by omega) ?_)))
 exact jje (f.Params,v49,xb.Phis,v44,xb.Ins,(xb.Term).Kind,c40c,(xb.Term).Args,c40d,(xb.Term).To,(xb.Term).Imm) ⟨w15,w13,w14⟩ (dc d1 (dc d0 (dc (Af.c_Term_Args d2) (dc (Af.c_Term_To d2) dn)))) (kd (kd kn)) ⟨Z,Z,Z,Z,Z,trivial⟩
 refine jr (js (jf Dy Z) (js (jl k0 O57 Z Z) (jm Z (js (jbu (v := .agg #[.int .i64 (↑nq),.slice none 0 0]) Z (fun _=>by kernel_rfl)) (jap U57 I65 (by decide) Z k1 Z (Aw.M (m:=⟨↑nq,[]⟩) (c:=(.slice none 0 0)) wN (wp (IntWalk.i64_in ↑nq (by omega)))) (by omega) (fun _=>Z) fun v66 _ w97=>js (jf Dy Z) (jst k1 Z57 Z Z w97.one s0 (jn (jbn (qfz k1 (by(try simp)<;>omega) (qfz k1 (by omega) ?_))))))))))
 exact jje (f.Params,v66,xb.Phis++[⟨((nq:Nat):Int),[]⟩],v44,xb.Ins,(xb.Term).Kind,c40c,(xb.Term).Args,c40d,(xb.Term).To,(xb.Term).Imm) ⟨w15,w13,w14⟩ (dc d1 (dc d0 (dc (Af.c_Term_Args d2) (dc (Af.c_Term_To d2) dn)))) (kd (kd kn)) ⟨Z,Z,Z,Z,Z,trivial⟩
 rintro⟨pq,xPhisv,xPhis,xInsv,xIns,xTermKind,xTermArgsv,xTermArgs,xTermTov,xTermTo,xTermImm⟩;dsimp only[u11];rintro⟨hpq,hxTermKind,hxTermImm⟩
 refine qdq d0 fun q100 w100=>qdq d1 fun q101 w101=>qdq d2 fun q102 w102=>qdq d3 fun q103 w103=>jx (jq (jr (jm Z (jm Z (js (jla k0 A62 Z62 Z Z Z) (js (jig U47 Z62 k2 Z Z Z (by omega)) (Ui (i:=bq) (off:=0) (us:=[xPhisv,xInsv,.int .i64 xTermKind,xTermArgsv,xTermTov,.int .i32 xTermImm]) (a:=⟨xPhis,xIns,⟨xTermKind,xTermArgs,xTermTo,xTermImm⟩⟩) k2 (by omega) Z62 Z (by omega) Z Z ⟨w100.one,w101.one,Z,w102.one,w103.one,Z,trivial⟩ (POa (Af.M (m:=⟨xPhis,xIns,⟨xTermKind,xTermArgs,xTermTo,xTermImm⟩⟩) (c:=(xPhisv,xInsv,xTermArgsv,xTermTov)) d0 d1 d2 d3 (wp hxTermKind) (wp hxTermImm)) Z) ?_)))))))
 refine jn (jx (jq (jr (js (jla k2 A49 Z49 Z Z Z) (Bk k3 Z49 Z Z Z ⟨Z,w3.one,trivial⟩ (saf Z) (jn (jx (jrt (qfz k1 (by(try simp)<;>omega) ?_)))))))))
 exact jrc Z Z k0 A49 Z49 ((⟨pq,List.set f.Blocks bq (⟨xPhis,xIns,⟨xTermKind,xTermArgs,xTermTo,xTermImm⟩⟩)⟩,v19):D.Func×Value) Z (dc (Aj.M (m:=⟨pq,List.set f.Blocks bq (⟨xPhis,xIns,⟨xTermKind,xTermArgs,xTermTo,xTermImm⟩⟩)⟩) (c:=v19) d0 (wp hpq)) dn) (fun _ _=>kn)
def aok(op:Int)(n:Nat):Prop:=(Cz op).1≤(n:Int)∧(n:Int)≤(Cz op).2
instance(op:Int)(n:Nat):Decidable (aok op n):=by unfold aok;infer_instance
def tok(t:D.Term):Prop:=(t.Kind=2∨t.Kind=3→t.Args.length=1)∧(t.Kind=1∨t.Kind=5→t.Args.length=0)∧(t.Kind=4→t.Args.length≤1)
def AB(bs:List D.Block):Prop:=∀j,(∀i∈(ix bs j).Ins,aok i.Op i.Args.length)∧tok (ix bs j).Term
theorem AB.put{bs:List D.Block}{b:Nat}{x:D.Block}(h:AB bs)(hi:∀i∈x.Ins,i∈(ix bs b).Ins∨aok i.Op i.Args.length)(ht:x.Term=(ix bs b).Term∨tok x.Term):AB (bs.set b x):=fun j=>by
 by_cases hb:b<bs.length
 ·rw[Ch hb];split
  ·rename_i e;subst e
   exact⟨fun i h1=>(hi i h1).elim ((h _).1 i) id,ht.elim (fun e=>e▸(h _).2) id⟩
  ·exact h j
 ·rw[List.set_eq_of_length_le (by omega)];exact h j
def AG(m m':Mk):Prop:=AB m.bs→AB m'.bs
section
variable{m m' m2:Mk}{j:Int}{b:Nat}
theorem AG.rf:AG m m:=id
theorem AG.tr(h:AG m m')(h2:AG m' m2):AG m m2:=fun h3=>h2 (h h3)
theorem AG.same(h2:m'.bs=m.bs):AG m m':=fun h=>h2▸h
theorem AG.ad{i:D.Ins}(h2:m'.bs=m.bs)(hi:aok i.Op i.Args.length):AG m (Cc j i m'):=fun h=>by
 show AB (m'.bs.set _ _)
 rw[h2]
 exact h.put (fun x hx=>(List.mem_append.1 hx).imp id (fun h1=>by simp at h1;subst h1;exact hi)) (.inl rfl)
theorem AG.con{v:Int}(h:AG m m'):AG m (Bq j v m'):=h.tr (AG.ad (m':=Bj m') rfl (by show aok 1 0;decide))
theorem AG.tk(h:AG m m'):AG m (tSS m'):=h.tr (.same rfl)
theorem AG.wd(h:AG m m'):AG m (Ck m'):=h.tr (.same rfl)
theorem AG.aF{op x v:Int}{a:List Int}(h:AG m m')(ho:aok op a.length):AG m (Cc j ⟨op,x,0,a,v⟩ (Bj m')):=h.tr (AG.ad rfl ho)
theorem AG.aT{op x v:Int}{a:List Int}(h:AG m m')(ho:aok op a.length):AG m (Cc j ⟨op,x,0,a,v⟩ (tSS (Bj m'))):=h.tr (AG.ad rfl ho)
theorem AG.val(h:AG m m'):AG m (Cw m'):=by unfold Cw;split;exact h;exact .tk (.tk h)
theorem AG.som0(h:AG m m'):AG m (Dg m'):=by
 unfold Dg;split
 ·exact .tk (.val h)
 ·exact .val h
theorem AG.som(h:AG m m'):AG m (sS9 j m'):=by
 unfold sS9;split
 ·exact .con (.wd (.som0 h))
 ·exact .som0 h
theorem AG.me1(h:AG m m'):AG m (Bt j m').2:=by
 unfold Bt;dsimp only;split
 ·exact .aF (.aF (.con (.som (.tk (.con (.tk h))))) (by show aok 5 2;decide)) (by show aok 2 2;decide)
 ·exact .tk (.con (.tk h))
theorem AG.me2(h:AG m m'):AG m (Cl m').2:=by unfold Cl;dsimp only;split<;>exact h.tr (.same rfl)
theorem AG.mem{st:Bool}(h:AG m m'):AG m (Ci j st m'):=by
 unfold Ci;dsimp only;split
 ·exact AG.tr (m':=sS9 j (Cl (Bt j m').2).2) (.som (.me2 (.me1 h))) (AG.ad rfl (by show aok 16 2;decide))
 ·exact .aF (.me2 (.me1 h)) (by show aok 15 1;decide)
theorem CX(b:Int):∀(k:Nat) (l:List Int) (m:Mk),(Eg b k l m).1.length=l.length+k
 | 0,_,_=>rfl
 | k+1,l,m=>by rw[Eg,CX b k];simp;omega
theorem AG.args:∀(k:Nat) (l:List Int) (m':Mk),AG m m'→AG m (Eg j k l m').2
 | 0,_,_,h=>h
 | k+1,l,m',h=>by rw[Eg];exact AG.args k _ _ (.som h)
theorem S2{i:Nat}(h:i<12):aok (ix [(2:Int),2,3,4,5,6,7,8,9,10,12,11] i) 2:=by
 have:∀i:Nat,i<12→aok (ix [(2:Int),2,3,4,5,6,7,8,9,10,12,11] i) 2:=by decide
 exact this i h
theorem AG.mw{d t:Int}{a:List Int}(h:AG m m')(ha:a.length=2):AG m (Cc j ⟨18,d,t,a,0⟩ (Bj (Bj m'))):=h.tr (AG.ad rfl (by show aok 18 a.length;rw[ha];decide))
theorem AG.ins(h:AG m m'):AG m (Cj j m'):=by
 have hk:=tV9 (n:=20) (by omega) m'
 unfold Cj;dsimp only
 generalize tVV 20 m'=k at hk
 have h3:AG m (sS9 j (sS9 j (tSS m'))) := .som (.som (.tk h))
 split
 ·split
  ·exact .aF (.con (.tk (.tk h3))) (S2 (by omega))
  ·exact .aF (.tk h3) (S2 (by omega))
 split
 ·exact .aF h3 (by show aok _ 2;decide)
 split
 ·split
  ·exact .aF (.con (.tk (.tk (.con (.tk (.som (.tk h))))))) (by show aok _ 2;decide)
  ·exact .aF (.tk (.con (.tk (.som (.tk h))))) (by show aok _ 2;decide)
 split
 ·exact .mem (.tk h)
 split
 ·refine .aT (AG.args _ _ _ (.tk (.tk h))) ?_
  have h5:=tV9 (n:=5) (by omega) (tSS m')
  have e:aok 17 (Eg j (tVV 5 (tSS m')).toNat [] (tSS (tSS m'))).1.length:=by
   rw[CX]
   have:∀q:Nat,q≤4→aok 17 (([]:List Int).length+q):=by decide
   exact this _ (by omega)
  exact e
 split
 ·exact .mw h3 rfl
 ·exact .con (.wd (.tk h))
theorem AG.is:∀(k:Nat) (m':Mk),AG m m'→AG m (Ji b k m')
 | 0,_,h=>h
 | k+1,m',h=>by rw[Ji];exact AG.is k _ (.ins h)
theorem AG.sT{t:D.Term}(h:AG m m')(ht:tok t):AG m (setT j t m'):=h.tr fun h=>by
 show AB (m'.bs.set _ _)
 exact h.put (fun i hi => .inl hi) (.inr ht)
theorem AG.en{l:List Int}(h:AG m m'):AG m (Cq j l m'):=by
 unfold Cq
 split
 ·split
  ·exact .sT (.tk (.tk h)) ⟨fun h=>by simp at h,fun _=>rfl,fun h=>by simp at h⟩
  split
  ·exact .sT (.som (.tk h)) ⟨fun h=>by simp at h,fun h=>by simp at h,fun _=>by simp⟩
  ·exact .sT (.tk h) ⟨fun h=>by simp at h,fun h=>by simp at h,fun _=>by simp⟩
 split
 ·exact .sT h ⟨fun h=>by simp at h,fun _=>rfl,fun h=>by simp at h⟩
 split
 ·dsimp only
  split
  ·have ho:∀i:Nat,i<3→aok (ix [(11:Int),12,13] i) 2:=by decide
   have hr:=tV9 (n:=3) (by omega) (Bj (sS9 j (tSS (sS9 j m'))))
   exact .sT (.aT (.som (.tk (.som h))) (ho _ (by omega))) ⟨fun _=>rfl,fun h=>by simp at h,fun h=>by simp at h⟩
  ·exact .sT (.tk (.som h)) ⟨fun _=>rfl,fun h=>by simp at h,fun h=>by simp at h⟩
 ·dsimp only
  exact .sT (.aF (.con (.som h)) (by show aok _ 2;decide)) ⟨fun _=>rfl,fun h=>by simp at h,fun h=>by simp at h⟩
theorem AG.bl{n:Nat}{to:List (List Int)}{dn:List Bool}:AG m (Iq n to b dn m):=by
 unfold Iq
 exact AG.en (AG.is _ _ (.tk (.same rfl)))
theorem AG.row{n:Nat}{to:List (List Int)}:∀(k b:Nat) (dn:List Bool) (m:Mk),AG m (Ff n to k b dn m).2
 | 0,_,_,_ => .rf
 | k+1,b,dn,m=>by
  rw[Ff];split
  ·exact AG.bl.tr (AG.row k _ _ _)
  ·exact AG.row k _ _ _
theorem AG.turn{n:Nat}{to:List (List Int)}:∀(k:Nat) (dn:List Bool) (m:Mk),AG m (Gt n to k dn m).2
 | 0,_,_ => .rf
 | k+1,dn,m=>by rw[Gt];exact(AG.row _ _ _ _).tr (AG.turn k _ _)
theorem AG.ap:AG m (Lt b m):=fun h=>by
 show AB (m.bs.set _ _)
 exact h.put (fun i hi => .inl hi) (.inl rfl)
theorem AG.pn:∀(k:Nat) (m:Mk),AG m (Hb b k m)
 | 0,_ => .rf
 | k+1,m=>by rw[Hb];exact AG.ap.tr (AG.pn k _)
theorem AG.ps:∀(k j:Nat) (ph:List Int) (m:Mk),AG m (Fz k j ph m).2
 | 0,_,_,_ => .rf
 | k+1,j,ph,m=>by rw[Fz];exact AG.tr (m':=tSS m) (.tk .rf) ((AG.pn _ _).tr (AG.ps k _ _ _))
theorem AG.inx{p:Int}:AG m (inX p m).2:=by
 unfold inX;split
 ·exact .tk (.con (.wd .rf))
 ·exact .tk .rf
theorem AG.ins'{p:List Int}:∀(k i:Nat) (l:List D.In) (m:Mk),AG m (inS p k i l m).2
 | 0,_,_,_ => .rf
 | k+1,i,l,m=>by rw[inS];exact AG.inx.tr (AG.ins' k _ _ _)
theorem AG.pi{i:Nat}{l:List D.In}:AG m (Mo b i l m):=fun h=>by
 show AB (m.bs.set _ _)
 exact h.put (fun i hi => .inl hi) (.inl rfl)
theorem AG.ip{p:List Int}:∀(k i:Nat) (m:Mk),AG m (inP p b k i m)
 | 0,_,_ => .rf
 | k+1,i,m=>by rw[inP];exact(AG.ins' _ _ _ _).tr (AG.pi.tr (AG.ip k _ _))
theorem AG.fi{ph:List Int}:∀(k j:Nat) (m:Mk),AG m (He ph k j m)
 | 0,_,_ => .rf
 | k+1,j,m=>by rw[He];exact(AG.ip _ _ _).tr (AG.fi k _ _)
end
theorem LZ(s:List Int):AB (Lj s).Blocks:=by
 have hb:AB (mdB s).bs:=fun j=>by
  obtain⟨a1,a2,a3,a4,a5⟩:=Qq (mdT s).1 (mdN s).toNat 0 { (mdT s).2 with bs:=List.replicate (mdN s).toNat default }
  obtain⟨h0,_,_,_,_⟩:=Uc s
  by_cases hj:j<(mdN s).toNat
  ·have:=a5 j (by show j<(List.replicate _ _).length;simpa using hj)
   rw[if_pos (by omega)] at this
   dsimp only at this
   rw[Un] at this
   have e:ix (mdB s).bs j={ (default:D.Block) with Term:={ (default:D.Block).Term with To:=ix (mdT s).1 j } }:=this
   rw[e]
   exact⟨fun i hi=>(by cases hi),⟨fun h=>(by rcases h with h|h<;>cases h),fun _=>rfl,fun _=>Nat.zero_le _⟩⟩
  ·rw[Gx (by have:=h0.len;show(mdB s).bs.length≤j;omega)]
   exact⟨fun i hi=>(by cases hi),⟨fun h=>(by rcases h with h|h<;>cases h),fun _=>rfl,fun _=>Nat.zero_le _⟩⟩
 exact((AG.ps _ _ _ _).tr (AG.turn _ _ _)).tr (AG.fi _ _ _) hb
section
variable{f:D.Func}{n:Nat}{to:List (List Int)}{nx:Int}
theorem Right3.gr(h:Right3 n to f nx){q t:Nat}(hq:q<n):prG (Bh f) q t↔(t:Int)∈ix to q:=by
 have hl:=h.len
 have h1:ix (Bn (Bh f)) q=Gg (ix (Bh f) q) (Bh f).length:=by unfold Bn;rw[Ia (by rw[Jl];omega)]
 have h2:ix (Bh f) q=Gg (ix f.Blocks q).Term.To f.Blocks.length:=by unfold Bh;rw[Ia (l:=f.Blocks) (by omega)]
 unfold prG
 rw[h1,h2,Jl,Xx,Pn,h.tos q hq]
 refine⟨fun h=>h.1,fun h3=>⟨h3,?_⟩⟩
 have:=h.tr.2.2 q _ h3
 omega
theorem Right3.rb(h:Right3 n to f nx){w b:Nat}(hr:RB (prG (Bh f)) w b):RA to n w b∧b<n:=by
 have hn:=h.n1
 have hl:=h.len
 induction hr with
 | zero h0=>exact⟨.zero h0,by omega⟩
 | @step x t h1 h2 h3 ih =>
  have h4:=(h.gr ih.2).1 h2
  have h5:=h.tr.2.2 x _ h4
  have:=RA.step ih.1 h4 h5.1 h5.2 (by omega)
  rw[Int.toNat_natCast] at this
  exact⟨this,by omega⟩
theorem Right3.rch(h:Right3 n to f nx):∀(k b:Nat),b<k→b<n→RB (prG (Bh f)) n b
 | 0,b,hb,_=>absurd hb (Nat.not_lt_zero _)
 | k+1,b,hk,hb=>by
  have hn:=h.n1
  by_cases e:b=0
  ·rw[e];exact .zero (by omega)
  ·obtain⟨p,h1,h2⟩:=h.pb b (by omega) (by omega)
   exact .step (h.rch k p (by omega) (by omega)) ((h.gr (by omega)).2 h2) (by omega)
theorem Right3.pk(h:Right3 n to f nx){v:Nat}:∀k,k≤n→Ih (Bn (Bh f)) k v=pT to k v
 | 0,_=>rfl
 | k+1,hk=>by
  rw[Ih,pT,h.pk k (by omega)]
  congr 1
  have h1:(v:Int)∈ix (Bn (Bh f)) k↔(v:Int)∈ix to k:=h.gr (by omega)
  by_cases h2:(v:Int)∈ix to k
  ·rw[if_pos (h1.2 h2),if_pos (List.any_eq_true.2 ⟨_,h2,by simp⟩)]
  ·rw[if_neg (fun h3=>h2 (h1.1 h3)),if_neg (fun h3=>by
    obtain⟨y,h4,h5⟩:=List.any_eq_true.1 h3
    simp at h5;subst h5;exact h2 h4)]
theorem BJ:∀(l:List D.Block),(∀x∈l,x.Phis.length≤3)→Dx l≤3*l.length+cI l
 | [],_=>by simp[Dx,cI]
 | x::l,h=>by
  have h1:=BJ l (fun y hy=>h y (by simp[hy]))
  have h2:=h x (by simp)
  unfold Dx at h1 ⊢
  rw[List.map_cons,List.sum_cons,cI,List.length_cons]
  omega
theorem Right3.us(h:Right3 n to f nx){b a:Nat}{v:Int}{p:Int}(ha:a<n)(hab:a≠b)(hr:¬RA to n a b)(hv:v∈mkB (ix f.Blocks a)):US f v b p:=by
 have hl:=h.len
 refine .inr ?_
 rcases Ew.1 hv with⟨i,h1,h2⟩|⟨i,h1,h2⟩
 ·exact⟨a,-1-(i:Int),⟨by omega,.inl ⟨i,h1,h2,rfl⟩⟩,.inr ⟨hab,fun h3=>hr (h.rb h3).1⟩⟩
 ·exact⟨a,i,⟨by omega,.inr ⟨i,h1,h2,rfl⟩⟩,.inr ⟨hab,fun h3=>hr (h.rb h3).1⟩⟩
theorem C5{b i:Nat}{v p:Int}(hb:b<f.Blocks.length)(hi:i<(ix f.Blocks b).Phis.length)(hv:v=(ix (ix f.Blocks b).Phis i).Dst):US f v b p :=
 .inr ⟨b,-1-(i:Int),⟨hb,.inl ⟨i,hi,hv,rfl⟩⟩,.inl ⟨rfl,.inr (by omega)⟩⟩
theorem C6{b i:Nat}{v p:Int}(hb:b<f.Blocks.length)(hi:i<(ix f.Blocks b).Ins.length)(hv:v∈Ba (ix (ix f.Blocks b).Ins i))(hp:(i:Int)<p):US f v b p :=
 .inr ⟨b,i,⟨hb,.inr ⟨i,hi,hv,rfl⟩⟩,.inl ⟨rfl,.inl hp⟩⟩
theorem Right3.vo(h:Right3 n to f nx){b:Nat}{v p:Int}(hv:Vo n to f.Params f.Blocks b v):US f v b p:=by
 rcases hv with h1|⟨a,h1,⟨h2,h3⟩,h4⟩
 ·exact .inl h1
 ·exact h.us h1 h2 h3 h4
theorem Right3.vs(h:Right3 n to f nx){b:Nat}{v:Int}(hb:b<n)(hv:Vs n to f.Params f.Blocks b v):US f v b (ix f.Blocks b).Ins.length:=by
 have hl:=h.len
 rcases hv with h1|⟨a,h1,h3,h4⟩
 ·exact .inl h1
 ·by_cases e:a=b
  ·subst e
   rcases Ew.1 h4 with⟨i,h5,h6⟩|⟨i,h5,h6⟩
   ·exact C5 (by omega) h5 h6
   ·exact C6 (by omega) h5 h6 (by omega)
  ·exact h.us h1 e (h3.resolve_left e) h4
theorem QC(h:Right3 n to f nx)(hV:VI n to f.Params f.Blocks){ny:Int}(hU:UI f.Params ny f.Blocks)(hA:AB f.Blocks):GoodF f:=by
 have hn:=h.n1
 have hl:=h.len
 refine⟨h.par,⟨by omega,by omega⟩,?_,⟨hU.nd,hU.dj⟩,fun b hb r hr=>?_,fun b hb i hi=>?_,fun b hb=>?_,fun b hb t ht=>?_,fun b hb=>⟨n,h.rch (b+1) b (by omega) (by omega)⟩,fun b hb p hp=>?_,fun b hb i hi v hv=>?_,fun b hb v hv=>h.vs (by omega) (hV.tm b (by omega) v hv),fun b hb p hp x hx=>?_⟩
 ·have h1:=BJ f.Blocks (fun x hx=>by
   obtain⟨j,hj,e⟩:=List.getElem_of_mem hx
   rw[←e,←Bp hj];exact h.ph3 j (by omega))
  have:=h.cnt
  omega
 ·have h1:=hU.rg b r hr
  have h2:=h.blk b (by omega)
  have h3:=h.nxb
  rcases List.mem_append.1 hr with h4|h4
  ·obtain⟨p,h5,h6⟩:=List.mem_map.1 h4
   have:=(h2.2.1 p h5).1;omega
  ·obtain⟨i,h5,h6⟩:=List.mem_flatMap.1 h4
   have:=(h2.1 i h5).2.2.2.2.1 r h6;omega
 ·exact⟨((h.blk b (by omega)).1 i hi).1,(hA b).1 i hi⟩
 ·obtain⟨h1,h2,h3⟩:=(hA b).2
  have hk:=h.kd b (by omega)
  have hg:=(h.blk b (by omega)).2.2.1.resolve_left hk
  obtain⟨g1,g2,g3,g4,g5,g6⟩:=hg
  generalize (ix f.Blocks b).Term=t at *
  have hk5:t.Kind=1∨t.Kind=2∨t.Kind=3∨t.Kind=4∨t.Kind=5:=by omega
  rcases hk5 with e|e|e|e|e
  ·exact⟨(0,0,1,1),by rw[e];rfl,by have:=h2 (.inl e);dsimp only;omega,by have:=g3 e;dsimp only;omega⟩
  ·exact⟨(1,1,2,2),by rw[e];rfl,by have:=h1 (.inl e);dsimp only;omega,by have:=(g4 e).1;dsimp only;omega⟩
  ·exact⟨(1,1,2,65),by rw[e];rfl,by have:=h1 (.inr e);dsimp only;omega,by have:=g5 e;dsimp only;omega⟩
  ·exact⟨(0,1,0,0),by rw[e];rfl,by have:=h3 e;dsimp only;omega,by rw[g6 (by omega)];exact⟨Int.le_refl _,Int.le_refl _⟩⟩
  ·exact⟨(0,0,0,0),by rw[e];rfl,by have:=h2 (.inr e);dsimp only;omega,by rw[g6 (by omega)];exact⟨Int.le_refl _,Int.le_refl _⟩⟩
 ·rw[h.tos b (by omega)] at ht
  have:=h.tr.2.2 b t ht
  omega
 ·have h0:b≠0:=fun e=>by subst e;rw[h.ph0] at hp;cases hp
  refine⟨by omega,?_⟩
  rw[h.fr b (by omega) p hp,Qx,Jl,hl,h.pk n (Nat.le_refl _)]
 ·rcases hV.gd b (by omega) i hi v hv with(h1|h1)|h1
  ·exact h.vo h1
  ·obtain⟨p,h2,h3⟩:=List.mem_map.1 h1
   obtain⟨j,hj,e⟩:=List.getElem_of_mem h2
   exact C5 hb hj (by rw[Bp hj,e];exact h3.symm)
  ·obtain⟨j,h2,h3,h4⟩:=Xk h1
   exact C6 hb h3 h4 (by omega)
 ·obtain⟨h1,h2⟩:=hV.ph b (by omega) p hp x hx
  exact h.vs (by omega) h2
end
theorem QD(s:List Int):GoodF (Lj s):=by
 obtain⟨nx,h⟩:=LW s
 obtain⟨ny,hU⟩:=LX s
 exact QC h (LY s) hU (LZ s)
def Ks(l by':List Int)(q:Int):D.Func×D.Input:=(Lj (l.take 200),{ Ka (by'.take 60) with Steps:=min (max q (-1)) 500 })
theorem MO{a0:Value}{l:List Int}{N0:Nat}{a1:Value}{b:List Int}{N1:Nat}(q:Int):Tr Tryz.prog 20 #[a0,a1,.int .i64 q] [dv (rLn N0 (rI .i64)) a0 l,dv (rLn N1 (rI .i64)) a1 b] [] (fun c:Value×(Value×Value×Value) => .tuple #[vFunc ((Ks l b q).1) c.1,vInput ((Ks l b q).2) c.2]) (fun c=>[da Aj (vFunc ((Ks l b q).1) c.1) ((Ks l b q).1),da Br (vInput ((Ks l b q).2) c.2) ((Ks l b q).2)]) (fun _ _=>[]):=by
 refine Az (args:=[a0,a1,.int .i64 q]) Tryz.func20 rfl rfl rfl fun w0 X=>?_
 refine jq (jr (Bo J49 Z fun g6=>Bo J31 Z fun g7=>jn (jx (jq (jr (jm Z (jm Z (jdq d0 fun q1 w1=>js (jln U22 d0 Z) ?_))))))))
 refine js (Lo Z Z) (js (Rb (hi:=(Int.toNat (min (↑l.length) 200))) U22 Z3 d0 Z Z (by omega) (by omega)) (jdq (dhi d0 (Int.toNat (min (↑l.length) 200)) (by omega) (by omega)) fun q2 w2=>jcs E31 Z Z JB (dc (dhi d0 (Int.toNat (min (↑l.length) 200)) (by omega) (by omega)) dn) kn fun c15=>Bo J49 Z fun g8=>jdq (Aj.cB d0) fun q4 w4=>Bk k0 Z49 Z Z Z ⟨Z,w4.one,trivial⟩ (saf Z) (jn (jx (jq (jr (jm Z ?_)))))))
 refine jm Z (jdq d2 fun q5 w5=>js (jln U22 d2 Z) (js (Lo Z Z) (js (Rb (hi:=(Int.toNat (min (↑b.length) 60))) U22 Z3 d2 Z Z (by omega) (by omega)) (jdq (dhi d2 (Int.toNat (min (↑b.length) 60)) (by omega) (by omega)) fun q6 w6=>NX E34 Z Z JC (dc (dhi d2 (Int.toNat (min (↑b.length) 60)) (by omega) (by omega)) dn) kn fun c21a c21b c21c=>Bo J31 Z fun g9=>jdq (Br.c_Args d0) fun q8 w8=>jdq (Br.c_Mem d0) fun q9 w9=>jdq (Br.c_Answers d0) fun q10 w10=>Bk k0 Z31 Z Z Z ⟨w8.one,w9.one,w10.one,Z,trivial⟩ (saf Z) ?_))))
 refine jn (jx (jq (jr (jm Z (js (Yb Z Z) (js (Lo Z Z) (js (jf Zt Z) (jst k0 Z3 Z Z Z s3 (jn (jx (jq ?_)))))))))))
 refine Bz true (.a 0 (.a 1 (.o 2 (.o 3 .e)))) Bi (by kernel_rfl) (kd kn) fun F11=>jy Z (jla k1 A49 Z49 Z Z Z) (jy Z (jla k0 A31 Z31 Z Z Z) (jyo Z (Bk k3 Z49 Z Z Z ⟨Z,w4.one,trivial⟩ (saf Z) (jyn d0 (kc k1 (kc k1 kn)) (jyo Z (Bk k3 Z31 Z Z Z ⟨w8.one,w9.one,w10.one,Z,trivial⟩ (saf Z) (jyz d0 (jyd (jx (jrt ?_))))))))))
 have hm:Ks l b q=(Lj (List.take (Int.toNat (min (((List.length l:Nat):Int)) 200)) l),⟨(Ka (List.take (Int.toNat (min (((List.length b:Nat):Int)) 60)) b)).Args,(Ka (List.take (Int.toNat (min (((List.length b:Nat):Int)) 60)) b)).Mem,(Ka (List.take (Int.toNat (min (((List.length b:Nat):Int)) 60)) b)).Answers,min (max q (-1)) 500⟩):=(by rw[←So l 200 200 rfl,←So b 60 60 rfl];rfl)
 exact ND Z Z Z k1 k0 A49 Z49 A31 Z31 (c15,(c21a,c21b,c21c)) (by rw[hm];rfl) (by rw[hm];exact(dc d3 (dc (Br.M (m:=⟨(Ka (List.take (Int.toNat (min (↑b.length) 60)) b)).Args,(Ka (List.take (Int.toNat (min (↑b.length) 60)) b)).Mem,(Ka (List.take (Int.toNat (min (↑b.length) 60)) b)).Answers,min (max q (-1)) 500⟩) (c:=(c21a,c21b,c21c)) (Br.c_Args (m:=Ka (List.take (Int.toNat (min (↑b.length) 60)) b)) (c:=(c21a,c21b,c21c)) d2) (Br.c_Mem (m:=Ka (List.take (Int.toNat (min (↑b.length) 60)) b)) (c:=(c21a,c21b,c21c)) d2) (Br.c_Answers (m:=Ka (List.take (Int.toNat (min (↑b.length) 60)) b)) (c:=(c21a,c21b,c21c)) d2) (wp (IntWalk.i64_in (min (max q (-1)) 500) (by omega)))) dn))) (fun _ _=>kn)
abbrev U46:=@Tryz.underlying46
theorem E20:Ent Tryz.prog 20:=⟨_,Tryz.func20,by kernel_rfl,by kernel_rfl⟩
theorem E21:Ent Tryz.prog 21:=⟨_,Tryz.func21,by kernel_rfl,by kernel_rfl⟩
theorem GI{f:D.Func}(h:GoodF f):DH f:=by
 have hl:=h.len
 refine⟨by omega,fun x hx=>?_⟩
 obtain⟨k,hk,e⟩:=List.getElem_of_mem hx
 have e2:ix f.Blocks k=x:=by rw[Bp hk];exact e
 subst e2
 have hc:=Rn (bs:=f.Blocks) hk
 have hc2:=SA f.Blocks (k+1)
 have hc3:=h.cnt
 obtain⟨s,h1,h2,h3⟩:=h.tm k hk
 have hT:s.2.2.2≤65:=by
  unfold shM at h1
  (repeat' split at h1)<;>first|(injection h1 with h1;subst h1;decide)|cases h1
 refine⟨by omega,by omega,by omega,fun p hp=>?_⟩
 obtain⟨_,hm⟩:=h.fr k hk p hp
 have hl2:p.In.length=(ix (Cv (Bh f)) k).length:=by rw[←hm];simp
 rw[hl2]
 have hg:=h.gn
 have hk2:k<(Cv (Bh f)).length:=by rw[Xg,Jl];exact hk
 have h4:(ix (Cv (Bh f)) k).length≤0+(Db (Bn (Bh f)) (Bh f).length).length:=Tn (n:=(Bh f).length) (Db (Bn (Bh f)) (Bh f).length) (List.replicate (Bh f).length []) 0 (fun r hr=>by rw[List.eq_of_mem_replicate hr];simp) _ (Ax hk2)
 have h5:=Uv hg.2 (Bh f).length (Nat.le_refl _)
 have h6:512*(Bh f).length≤512*512:=Nat.mul_le_mul_left _ hg.2
 omega
theorem AK{f:D.Func}(h:GoodF f):true=true↔GoodF f:=⟨fun _=>h,fun _=>rfl⟩
theorem hw3{k:IntKind}{a b c:Int}(h1:k.wrap a=a)(h2:k.wrap b=b)(h3:k.wrap c=c):∀z∈[a,b,c],k.wrap z=z:=by
 intro z hz
 simp only[List.mem_cons,List.not_mem_nil,or_false] at hz
 rcases hz with rfl|rfl|rfl<;>assumption
theorem LV(l b:List Int)(q:Int):GoodF (Ks l b q).1:=QD _
theorem LU(l b:List Int)(q:Int):(Ks l b q).2.Steps≤1000000:=by show min (max q (-1)) 500≤1000000;omega
attribute [local irreducible] En Ml Ks
theorem interpRuns_ct{a0:Value}{l:List Int}{N0:Nat}{a1:Value}{b:List Int}{N1:Nat}(y0 y1 y2 y3:Int)(wy0:IntKind.i64.wrap y0=y0)(wy1:IntKind.i64.wrap y1=y1)(wy2:IntKind.i64.wrap y2=y2)(wy3:IntKind.i64.wrap y3=y3):Tv Tryz.prog 4 #[a0,a1,.agg #[.int .i64 y0,.int .i64 y1,.int .i64 y2,.int .i64 y3]] [dv (rLn N0 (rI .i64)) a0 l,dv (rLn N1 (rI .i64)) a1 b] [] (.bool true):=by
 refine Az (args:=[a0,a1,.agg #[.int .i64 y0,.int .i64 y1,.int .i64 y2,.int .i64 y3]]) Tryz.func4 rfl rfl rfl fun w0 X=>?_
 have hG:=LV l b y3
 have hst:=LU l b y3
 refine jq (jr (Cm Z Z fun g5=>ja Z (jn (jx (jq (jr (jcv E19 Z Z GJ dn kn (ja Z (jn (jx ?_))))))))))
 refine jq (jr (jm Z (jm Z (js (Nw (i:=3) U46 Z3 Z Z Z (by omega)) (js (jl k0 O3 Z Z) (jdq d0 fun q1 w1=>jdq d1 fun q2 w2=>jc E20 Z Z (MO y3) (dc d0 (dc d1 dn)) kn (fun _=>p2) (fun _=>p0) fun c17=>?_))))))
 generalize hma:Ks l b y3=ma at hG hst ⊢
 refine jm Z (js (Bs Z Z) (js (Bs Z Z) (Bo J49 Z fun g8=>Bo J31 Z fun g9=>jdq (Aj.cB d0) fun q5 w5=>Bk k1 Z49 Z Z Z ⟨Z,w5.one,trivial⟩ (saf Z) (jdq (Br.c_Args d1) fun q6 w6=>jdq (Br.c_Mem d1) fun q7 w7=>jdq (Br.c_Answers d1) fun q8 w8=>Bk k1 Z31 Z Z Z ⟨w6.one,w7.one,w8.one,Z,trivial⟩ (saf Z) (jn ?_)))))
 refine jx (jq (jr (js (jla k1 A49 Z49 Z Z Z) (js (Nw (i:=0) U46 Z3 Z Z Z (by omega)) (js (jl k2 O3 Z Z) (js (Nw (i:=1) U46 Z3 Z Z Z (by omega)) (js (jl k2 O3 Z Z) (js (Nw (i:=2) U46 Z3 Z Z Z (by omega)) (js (jl k2 O3 Z Z) (js (jbu (v := .agg #[.int .i64 y0,.int .i64 y1,.int .i64 y2]) Z (fun _=>by kernel_rfl)) (jc E21 Z Z (IU (y0) (y1) (y2) (GI hG) (hw3 wy0 wy1 wy2)) (dc d0 dn) kn (fun _=>p1) (fun _=>p0) fun T9=>?_)))))))))))
 obtain⟨r9,hr9⟩:=QE T9.1
 refine Bo J49 Z fun g10=>jdq (Aj.cB d0) fun q11 w11=>Bk k0 Z49 Z Z Z ⟨Z,w11.one,trivial⟩ (saf Z) (jn (jx (jq (Bz false (.a 0 (.a 1 (.a 2 (.a 3 (.a 5 (.a 6 (.o 4 (.o 7 (.o 8 (.a 9 (.a 10 (.a 11 (.a 12 (.a 14 (.a 15 (.o 13 (.o 16 (.o 17 (.a 18 (.a 19 .e)))))))))))))))))))) Bi (by kernel_rfl) (kd (kc k0 kn)) fun F12=>jy Z (jmv Z) (jy Z (jmv Z) (jyk Z Z Z (.t _) (jla k2 A49 Z49 Z Z Z) (jyk Z Z Z (.t _) (jla k1 A31 Z31 Z Z Z) (jyk Z Z Z (.t _) (jla k2 A49 Z49 Z Z Z) ?_))))))))
 refine jyk Z Z Z (.t _) (jla k1 A31 Z31 Z Z Z) (jyo Z (jgk Z Z (.t _) (Rh E23 Z Z (Th true (AK hG) hst) (dc d2 (dc d3 dn)) kn fun c33a c33b=>jyn d1 (kd (kc k0 kn)) (jyo Z (jgk Z Z (.t _) (Rh E24 Z Z (M3 true (AK hG) hst) (dc d4 (dc d5 dn)) kn fun c36a c36b=>jyn d1 (kd (kc k0 kn)) (jyo Z (jgk Z Z (.t _) (jcv E22 Z Z M0 (dc d3 (dc d1 dn)) kn ?_)))))))))
 refine jyn d0 (kd (kc k0 kn)) (jy Z (Cf Z Z) (jy Z (jmv Z) (jyg Z Z Z (.t _) (fun hg=>jla k0 A49 Z49 Z Z Z) (jyg Z Z Z (.t _) (fun hg=>jla k1 A31 Z31 Z Z Z) (jyg Z Z Z (.t _) (fun hg=>jla k0 A49 Z49 Z Z Z) (jyg Z Z Z (.t _) (fun hg=>jla k1 A31 Z31 Z Z Z) (jyo Z (X9 (r:=Co) (val:=vOutcome) Z Z (.t _) E23 Z (fun hg=>Mx (evg Z hg) (evg Z hg)) (fun hg=>(Th r9 hr9 hst)) (fun hg=>(dc d6 (dc d8 dn))) fun c42=>jyn d1 (kd (kc k0 kn)) (jyo Z (X9 (r:=Co) (val:=vOutcome) Z Z (.t _) E24 Z (fun hg=>Mx (evg Z hg) (evg Z hg)) (fun hg=>(M3 r9 hr9 hst)) (fun hg=>(dc d8 (dc d10 dn))) fun c45=>?_))))))))))
 refine jyn d1 (kd (kc k0 kn)) (jyo Z (jgc Z Z (.t _) E22 Z (fun hg=>Mx (evg Z hg) (evg Z hg)) (fun hg=>M0) (fun hg=>(dc (d3.on hg) (dc (d1.on hg) dn))) kn p0 (jyn d0 (kd (kc k0 kn)) (jy Z (Cf Z Z) (jy Z (jas Z) (jyd (jx (jrt ?_))))))))
 exact jrB Z Z (by simp[SW])
end Go.Proofs.YtmfkkodnghambaaGreat
