/- Lemmas that the claim is made of. Conditions: each lemma names its own. -/
import Derived.Test.YtmfkkodnghambaaGreatKK6
import Derived.Test.YtmfkkodnghambaaGreatKK4
import Derived.Test.YtmfkkodnghambaaGreatKK2
import Derived.Test.YtmfkkodnghambaaGreatKK3
set_option maxRecDepth 20000
set_option maxHeartbeats 4000000
set_option linter.unusedSectionVars false
set_option linter.unusedSimpArgs false
set_option linter.unusedVariables false
namespace Go.Proofs.YtmfkkodnghambaaGreat
open Go.JE
def Ww(s:RSt):Prop:=(∀k,IntKind.i32.wrap (s.V k)=s.V k)∧(∀v∈s.me,IntKind.i32.wrap v=v)∧∀v∈s.an,IntKind.i32.wrap v=v
theorem Yr{l:List Int}(h:∀v∈l,IntKind.i32.wrap v=v)(i:Nat):IntKind.i32.wrap (ix l i)=ix l i:=by
 by_cases hi:i<l.length
 ·exact h _ (Ax hi)
 ·have e:ix l i=0:=by simp[ix,List.getD,List.getElem?_eq_none (Nat.le_of_not_lt hi)]
  rw[e];decide
theorem setV_wr{V:Int→Int}{k v:Int}(h:∀j,IntKind.i32.wrap (V j)=V j)(hv:IntKind.i32.wrap v=v):∀j,IntKind.i32.wrap (Bf V k v j)=Bf V k v j:=fun j=>by
 unfold Bf;split
 ·exact hv
 ·exact h j
theorem IE{x:D.Ins}{V:Int→Int}(h:∀j,IntKind.i32.wrap (V j)=V j)(k:Nat):IntKind.i32.wrap (aI x V k)=aI x V k:=Yr (fun v hv=>by obtain⟨a,_,rfl⟩:=List.mem_map.1 hv;exact h a) k
theorem SY{me:List Int}(h:∀v∈me,IntKind.i32.wrap v=v)(a:Int):IntKind.i32.wrap (Bq me a).1=(Bq me a).1:=by
 unfold Bq;split
 ·decide
 ·exact Yr h _
theorem Ww.ins{s:RSt}{i:D.Ins}(h:Ww s)(hi:IntKind.i32.wrap i.Imm=i.Imm):Ww (Ma i s):=by
 obtain⟨h1,h2,h3⟩:=h
 refine⟨?_,?_,?_⟩
 ·show ∀k,IntKind.i32.wrap (Ci i s.V s.me s.an k)=Ci i s.V s.me s.an k
  unfold Ci
  (repeat' split)
  ·exact setV_wr h1 hi
  ·exact setV_wr h1 (SY h2 _)
  ·exact h1
  ·exact setV_wr (setV_wr h1 (by decide)) (Yr h3 _)
  ·exact setV_wr h1 (by decide)
  ·exact setV_wr (setV_wr h1 (JE.wrap_wrap _ _)) (JE.wrap_wrap _ _)
  ·exact setV_wr h1 (O1 _ _ (IE h1 _))
 ·show ∀v∈Cn i s.V s.me,IntKind.i32.wrap v=v
  unfold Cn Hi
  (repeat' split)
  ·exact h2
  ·intro v hv
   rcases List.mem_or_eq_of_mem_set hv with h9|h9
   ·exact h2 v h9
   ·rw[h9];exact IE h1 _
  ·exact h2
 ·show ∀v∈Dk i s.an,IntKind.i32.wrap v=v
  unfold Dk;split
  ·exact fun v hv=>h3 v (List.mem_of_mem_drop hv)
  ·exact h3
theorem DJ{x:D.Ins}{m:Mq}:m.nx≤(Da x m).nx∧(Da x m).nx≤m.nx+4:=by
 have hc:=fun r m=>Vk (r:=r) (m:=m)
 unfold Da
 split
 ·rw[Qu];omega
 split
 ·unfold Kb Hm
  have h:=hc (ix x.Args 0) m
  generalize Bv (ix x.Args 0) m=m1 at h ⊢
  split
  ·split<;>(show m.nx≤m1.nx∧m1.nx≤_;omega)
  ·split<;>(show m.nx≤(Ea m1.nx x.Imm (Cz (Dm x.Imm m1))).nx∧(Ea m1.nx x.Imm (Cz (Dm x.Imm m1))).nx≤_;rw[Qu];show m.nx≤(Dm x.Imm m1).nx+1∧(Dm x.Imm m1).nx+1≤_;rw[Ss.1];omega)
 split
 ·show m.nx≤m.nx∧m.nx≤_;omega
 split
 ·show m.nx≤m.nx∧m.nx≤_;omega
 ·unfold Ep
  have h:=hc (ix x.Args 0) m
  generalize Bv (ix x.Args 0) m=m1 at h ⊢
  have h2:=hc (ix x.Args 1) m1
  have h3:=DI (x:=x) (m:=Bv (ix x.Args 1) m1) (a:=Bd (ix x.Args 0) m) (b:=Bd (ix x.Args 1) m1)
  omega
theorem I1:∀(l:List D.Ins) (m:Mq),m.nx≤(Hb l m).nx∧(Hb l m).nx≤m.nx+4*l.length
 | [],m=>by rw[Hb,List.length_nil];omega
 | x::l,m=>by
  have h1:=DJ (x:=x) (m:=m)
  have h2:=I1 l (Da x m)
  rw[Hb,List.length_cons];omega
theorem RN{t:D.Term}{m:Mq}:m.nx≤(Cl t m).nx∧(Cl t m).nx≤m.nx+1:=by
 unfold Cl
 split
 ·split
  ·show m.nx≤m.nx∧m.nx≤_;omega
  ·rw[Qu];show m.nx≤m.nx+1∧m.nx+1≤_;omega
 split
 ·exact Vk
 ·omega
theorem DD{N:Int}{s:RSt}(h:s.en=0)(h2:s.st<N):Fx N s=true∧Es N s={ s with st:=s.st+1 }:=by
 have e1:stE s.en s.st N=0:=by unfold stE;rw[if_neg (by omega)];exact h
 refine⟨by unfold Fx stB;rw[e1];rfl,?_⟩
 have e2:stV s.en s.va s.st N=s.va:=by unfold stV;rw[if_neg (by omega)]
 have e3:stS s.en s.st N=s.st+1:=by unfold stS;rw[if_pos e1]
 unfold Es;rw[e1,e2,e3,←h]
theorem DE{N:Int}{s:RSt}(h:s.en=0)(h2:N≤s.st):Fx N s=false∧Es N s={ s with en:=3,va:=0 }:=by
 have e1:stE s.en s.st N=3:=by unfold stE;rw[if_pos ⟨h,h2⟩]
 refine⟨by unfold Fx stB;rw[e1];rfl,?_⟩
 have e2:stV s.en s.va s.st N=0:=by unfold stV;rw[if_pos ⟨h,h2⟩]
 have e3:stS s.en s.st N=s.st:=by unfold stS;rw[if_neg (by omega)]
 unfold Es;rw[e1,e2,e3]
theorem H7{N:Int}{s:RSt}(h:s.en≠0):Fx N s=false∧Es N s=s:=by
 have e1:stE s.en s.st N=s.en:=by unfold stE;rw[if_neg (fun h2=>h h2.1)]
 refine⟨by unfold Fx stB;rw[e1];exact decide_eq_false h,?_⟩
 have e2:stV s.en s.va s.st N=s.va:=by unfold stV;rw[if_neg (fun h2=>h h2.1)]
 have e3:stS s.en s.st N=s.st:=by unfold stS;rw[if_neg (by omega)]
 unfold Es;rw[e1,e2,e3]
def R5(n N:Int)(l:List D.Ins)(s:RSt)(c:List D.Mach)(rs:List Int):Prop :=
 (Bu N l s).1.en=3 ∨
 ((Bu N l s).2=true∧(Bu N l s).1.en=0∧Ww (Bu N l s).1∧(s.st≤(Bu N l s).1.st∧(Bu N l s).1.st≤N)∧∃rs1,RV n (Bu N l s).1.V rs1∧∀(N':Int) (K:List Int→List Int→List D.Event→List Int→Int→D.Outcome) (l':List D.Mach) (s':Int),s'+5*((Bu N l s).1.st-s.st)≤N' →
  ∃j:Int,(Bu N l s).1.st-s.st≤j∧j≤5*((Bu N l s).1.st-s.st)∧Dq N' K (c++l') rs s.me s.cl s.an s'=Dq N' K l' rs1 (Bu N l s).1.me (Bu N l s).1.cl (Bu N l s).1.an (s'+j)) ∨
 ((Bu N l s).1.en=2∧(s.st≤(Bu N l s).1.st∧(Bu N l s).1.st≤N)∧∀(N':Int) (K:List Int→List Int→List D.Event→List Int→Int→D.Outcome) (l':List D.Mach) (s':Int),s'+5*((Bu N l s).1.st-s.st)≤N' →
  ∃j:Int,(Bu N l s).1.st-s.st≤j∧Dq N' K (c++l') rs s.me s.cl s.an s'=⟨2,(Bu N l s).1.va,(Bu N l s).1.me,(Bu N l s).1.cl,s'+j⟩)
theorem TG{N:Int}{l:List D.Ins}{s:RSt}(h:s.en≠0):(Bu N l s).1=s:=by
 cases l with
 | nil=>rfl
 | cons x l=>rw[Bu,(H7 h).1,(H7 h).2];rfl
theorem Y8{N n:Int}:∀(l:List D.Ins) (m:Mq) (s:RSt) (rs:List Int),RV n s.V rs→Ww s→(0≤n∧n≤m.nx)→m.nx+4*l.length<8188→(∀x∈l,gI n x∧IntKind.i32.wrap x.Imm=x.Imm)→s.en=0→s.st≤N→∃c,(Hb l m).l=m.l++c∧R5 n N l s c rs
 | [],m,s,rs,hR,hW,_,_,_,he,hs=>⟨[],by simp[Hb],.inr (.inl ⟨rfl,he,hW,⟨Int.le_refl _,hs⟩,rs,hR,fun N' K l' s' _=>⟨0,by show s.st-s.st≤0;omega,by show 0≤5*(s.st-s.st);omega,by rw[Int.add_zero];rfl⟩⟩)⟩
 | x::l,m,s,rs,hR,hW,hn,hm,hg,he,hs=>by
  rw[List.length_cons] at hm
  obtain⟨g1,g2⟩:=hg x (by simp)
  have hnx:=DJ (x:=x) (m:=m)
  obtain⟨c,q1,q2,q3,q4,q5⟩:=MG (an:=s.an) (me:=s.me) hR hW.1 hn (by omega) g1
  by_cases h9:s.st<N
  ·obtain⟨e1,e2⟩:=DD he h9
   have hL:Bu N (x::l) s=Bu N l (Ma x { s with st:=s.st+1 }):=by rw[Bu,if_pos e1,e2]
   by_cases hT:Fq x s.V s.me=0
   ·obtain⟨rs1,r1,r2⟩:=q4 hT
    have hW1:Ww (Ma x { s with st:=s.st+1 }):=Ww.ins (s:={ s with st:=s.st+1 }) hW g2
    have he1:(Ma x { s with st:=s.st+1 }).en=0:=by show Dg x s.V s.me s.en=0;unfold Dg;rw[if_pos hT];exact he
    obtain⟨c2,p1,p2⟩:=Y8 l (Da x m) _ rs1 (show RV n (Ma x { s with st:=s.st+1 }).V rs1 from r1) hW1 (by omega) (by omega) (fun y hy=>hg y (by simp[hy])) he1 (by show s.st+1≤N;omega)
    refine⟨c++c2,by rw[Hb,p1,q1,List.append_assoc],?_⟩
    unfold R5 at p2 ⊢
    rw[hL]
    generalize Bu N l (Ma x { s with st:=s.st+1 })=R at p2 ⊢
    have es:(Ma x { s with st:=s.st+1 }).st=s.st+1:=rfl
    rw[es] at p2
    rcases p2 with p2|⟨a1,a2,a3,a4,rs2,a5,a6⟩|⟨a1,a2,a3⟩
    ·exact .inl p2
    ·refine .inr (.inl ⟨a1,a2,a3,by omega,rs2,a5,fun N' K l' s' hN=>?_⟩)
     obtain⟨j,b1,b2,b3⟩:=a6 N' K l' (s'+c.length) (by omega)
     exact⟨c.length+j,by omega,by omega,by rw[List.append_assoc,r2 N' K _ _ s' (by omega),show s'+((c.length:Int)+j)=s'+c.length+j by omega];exact b3⟩
    ·refine .inr (.inr ⟨a1,by omega,fun N' K l' s' hN=>?_⟩)
     obtain⟨j,b1,b2⟩:=a3 N' K l' (s'+c.length) (by omega)
     exact⟨c.length+j,by omega,by rw[List.append_assoc,r2 N' K _ _ s' (by omega),show s'+((c.length:Int)+j)=s'+c.length+j by omega];exact b2⟩
   ·have he1:(Ma x { s with st:=s.st+1 }).en=2:=by show Dg x s.V s.me s.en=2;unfold Dg;rw[if_neg hT]
    have hd:=TG (N:=N) (l:=l) (s:=Ma x { s with st:=s.st+1 }) (by rw[he1];decide)
    have hno:x.Op≠17:=fun h=>hT (by unfold Fq;rw[if_neg (by omega),if_neg (by omega),if_pos (.inr (.inl h))])
    have hF:=q5 hT
    have ex:=K6 l (Da x m)
    obtain⟨c2,e⟩:=ex
    refine⟨c++c2,by rw[Hb,e,q1,List.append_assoc],.inr (.inr ?_)⟩
    rw[hL,hd]
    refine⟨he1,by show s.st≤s.st+1∧s.st+1≤N;omega,fun N' K l' s' hN=>?_⟩
    have hN:s'+5*(s.st+1-s.st)≤N':=hN
    obtain⟨j,b1,b2,b3⟩:=hF N' K (c2++l') s.cl s.an s' (by omega)
    refine⟨j,by show s.st+1-s.st≤j;omega,?_⟩
    rw[List.append_assoc,b3]
    show _=(⟨2,Dp x s.V s.me s.va,Cn x s.V s.me,Dh x s.V s.cl,s'+j⟩:D.Outcome)
    rw[Yv hno];unfold Dp;rw[if_neg hT]
  ·obtain⟨e1,e2⟩:=DE (N:=N) he (by omega)
   have ex:=K6 (x::l) m
   obtain⟨c2,e⟩:=ex
   refine⟨c2,e,.inl ?_⟩
   rw[Bu,if_neg (by rw[e1];decide),e2]
theorem MH{n:Int}{t:D.Term}{m:Mq}{V:Int→Int}{rs:List Int}(hR:RV n V rs)(hV:∀k,IntKind.i32.wrap (V k)=V k)(hn:0≤n∧n≤m.nx)(hx:m.nx+1<8192)(hg:gT n t):∃c rs1,(Cl t m).l=m.l++c∧c.length≤1∧(∀me,Ex c rs me rs1 me)∧RV n V rs1 ∧
  ((t.Kind≤3∧(Bt t m).Op≠7∧(Bt t m).Op≠8∧ix (Bt t m).To (Int.toNat (Dc (Bt t m) rs1))=Cv t V)∨(t.Kind=4∧(Bt t m).Op=7∧Ab rs1 (Bt t m).A=ix (wT t V) 0)∨(t.Kind=5∧(Bt t m).Op=8∧(Bt t m).Imm=t.Imm)):=by
 obtain⟨g1,g2,g3,g4,g5,g6⟩:=hg
 have h8:n≤8192:=by omega
 have w0:∀{a:Int} {l:List Int},t.Args=a::l→ix (wT t V) 0=V a:=fun e=>by unfold wT;rw[e,List.map_cons,List.cons_append,Ia]
 have a0:1≤t.Args.length→∃a l,t.Args=a::l∧ix t.Args 0=a∧(0≤a∧a<n):=fun h=>by
  cases e:t.Args with
  | nil=>rw[e] at h;simp at h
  | cons a l=>exact⟨a,l,rfl,Ia _,g2 a (by rw[e];simp)⟩
 have nil:(Cl t m).l=m.l→∃c,(Cl t m).l=m.l++c∧c.length≤1∧∀me,Ex c rs me rs me:=fun h=>⟨[],by simpa using h,by simp,fun me=>Ex.nil⟩
 by_cases k1:t.Kind=1
 ·refine⟨[],rs,by simp[Cl,k1],by simp,fun me=>Ex.nil,hR,.inl ⟨by omega,by simp[Bt,k1],by simp[Bt,k1],?_⟩⟩
  unfold Bt Dc Cv;rw[if_pos k1,if_pos k1];rfl
 by_cases k2:t.Kind=2
 ·obtain⟨a,l,e,e0,ha⟩:=a0 (g4 k2).2
  have hT:Cv t V=if V a=0 then ix t.To 1 else ix t.To 0:=by unfold Cv;rw[if_neg k1,if_pos k2,w0 e]
  rw[hT]
  unfold Cl Bt;rw[if_pos k2,if_neg k1,if_pos k2]
  by_cases c1:1<Ck 4 m
  ·rw[if_pos c1,if_pos c1]
   refine⟨[],rs,by simp[Df],by simp,fun me=>Ex.nil,hR,.inl ⟨by omega,by simp,by simp,?_⟩⟩
   unfold Dc;dsimp only;rw[if_neg (by decide),if_pos rfl,e0,hR.get ha h8]
   by_cases h:V a=0
   ·rw[if_pos h,if_neg (by simpa using h)];rfl
   ·rw[if_neg h,if_pos (by simpa using h)];rfl
  rw[if_neg c1,if_neg c1]
  obtain⟨i,e1,e2⟩:=Ux (x:=0) (m:=Cz (Df m)) (rs:=rs) hR.1 (show 0≤m.nx∧m.nx<8192 by omega)
  have hR1:RV n V (rs.set m.nx.toNat 0):=hR.ag (Ag.set hR.1 (n:=m.nx) (by omega) (by omega)) hn.2
  have hz:Ab (rs.set m.nx.toNat 0) m.nx=0:=Pv hR.1 (by omega)
  have hv:Ab (rs.set m.nx.toNat 0) (ix t.Args 0)=V a:=by rw[e0];exact hR1.get ha h8
  by_cases c2:Ck 4 m=1
  ·rw[if_pos c2]
   refine⟨[i],_,e1,by simp,e2,hR1,.inl ⟨by omega,by simp,by simp,?_⟩⟩
   unfold Dc;dsimp only;rw[if_neg (by decide),if_neg (by decide),if_pos rfl,hz,hv]
   by_cases h:V a=0
   ·rw[if_pos h,if_pos h.symm];rfl
   ·rw[if_neg h,if_neg (fun e=>h e.symm)];rfl
  ·rw[if_neg c2]
   refine⟨[i],_,e1,by simp,e2,hR1,.inl ⟨by omega,by simp,by simp,?_⟩⟩
   unfold Dc;dsimp only;rw[if_neg (by decide),if_neg (by decide),if_neg (by decide),if_neg (by decide),if_pos rfl,hz,hv]
   have hw:=hV a
   have hi:(u32 0<u32 (V a))↔¬V a=0:=by rw[C7,C7];rw[IntKind.wrap_i32] at hw;omega
   by_cases h:V a=0
   ·rw[if_pos h,if_neg (fun h2=>hi.1 h2 h)];rfl
   ·rw[if_neg h,if_pos (hi.2 h)];rfl
 by_cases k3:t.Kind=3
 ·obtain⟨f1,f2,f3⟩:=g5 k3
  obtain⟨a,l,e,e0,ha⟩:=a0 f3
  refine⟨[],rs,by simp[Cl,k3],by simp,fun me=>Ex.nil,hR,.inl ⟨by omega,by simp[Bt,k3],by simp[Bt,k3],?_⟩⟩
  unfold Bt Dc Cv;rw[if_neg k1,if_neg k2,if_pos k3,if_neg k1,if_neg k2,if_pos k3]
  dsimp only
  rw[if_neg (by decide),if_neg (by decide),if_neg (by decide),if_neg (by decide),if_neg (by decide),if_pos rfl,e0,hR.get ha h8,w0 e,C7,IntKind.wrap_u32]
  congr 1;congr 1
  split<;>omega
 by_cases k4:t.Kind=4
 ·unfold Cl Bt;rw[if_neg k2,if_neg k1,if_neg k2,if_neg k3,if_pos k4]
  by_cases hl:t.Args.length=0
  ·rw[if_neg (by simp[hl]),if_pos hl]
   refine⟨[],rs,by simp,by simp,fun me=>Ex.nil,hR,.inr (.inl ⟨k4,rfl,?_⟩)⟩
   have e:t.Args=[]:=List.eq_nil_of_length_eq_zero hl
   unfold wT;rw[e];rfl
  ·rw[if_pos ⟨k4,hl⟩,if_neg hl]
   obtain⟨a,l,e,e0,ha⟩:=a0 (by omega)
   obtain⟨c,r1,q1,q2,q3,q4,q5,q6,q7⟩:=Xe (m:=m) (r:=ix t.Args 0) hR.1 (by omega) (by omega)
   exact⟨c,r1,q1,q2,q3,hR.ag q4 hn.2,.inr (.inl ⟨k4,rfl,by rw[w0 e];show Ab r1 (Bd (ix t.Args 0) m)=_;rw[q5,e0];exact hR.get ha h8⟩)⟩
 ·refine⟨[],rs,by simp[Cl,k2,k4],by simp,fun me=>Ex.nil,hR,.inr (.inr ⟨by omega,by simp[Bt,k1,k2,k3,k4],by simp[Bt,k1,k2,k3,k4]⟩)⟩
theorem Y7{n fr:Int}{V:Int→Int}{rs:List Int}(hR:RV n V rs)(h8:n≤8192):∀(l:List D.Phi) (nx:List (Int×Int)) (r:List Int),RV n (Oo nx V) r→(∀p∈l,(0≤p.Dst∧p.Dst<n)∧(∀x∈p.In,0≤x.Val∧x.Val<n)∧fr∈p.In.map (fun x=>x.From))→RV n (Oo (Om fr V l nx) V) (Jv r l (l.map (Xs fr rs)))
 | [],nx,r,h,_=>h
 | p::l,nx,r,h,hg=>by
  obtain⟨g1,g2,g3⟩:=hg p (by simp)
  obtain⟨i1,i2⟩:=FI g3
  have hx:=g2 _ (Ax (l:=p.In) (i:=Int.toNat (Di p.In (Ei fr))) (by omega))
  have hv:Xs fr rs p=V (ix p.In (Int.toNat (Di p.In (Ei fr)))).Val:=hR.2 _ hx.1 hx.2
  rw[List.map_cons,Jv,hv]
  refine Y7 hR h8 l (upW nx p.Dst (V (ix p.In (Int.toNat (Di p.In (Ei fr)))).Val)) _ ?_ (fun q hq=>hg q (by simp[hq]))
  have e:Oo (upW nx p.Dst (V (ix p.In (Int.toNat (Di p.In (Ei fr)))).Val)) V=Bf (Oo nx V) p.Dst (V (ix p.In (Int.toNat (Di p.In (Ei fr)))).Val):=by
   funext j;unfold Oo Bf;rw[EC];split<;>rfl
  rw[e];exact h.set g1 h8
theorem ME{n fr:Int}{V:Int→Int}{rs:List Int}{l:List D.Phi}(hR:RV n V rs)(h8:n≤8192)(hg:∀p∈l,(0≤p.Dst∧p.Dst<n)∧(∀x∈p.In,0≤x.Val∧x.Val<n)∧fr∈p.In.map (fun x=>x.From)):RV n (Po fr l V) (Nr l fr rs) :=
 Y7 hR h8 l [] rs hR hg
theorem PS{fr:Int}{V:Int→Int}(h:∀k,IntKind.i32.wrap (V k)=V k)(l:List D.Phi):∀k,IntKind.i32.wrap (Po fr l V k)=Po fr l V k:=fun k=>by
 unfold Po Oo
 have h1:=N6 (nx:=[]) (fr:=fr) h l [] (fun p hp=>by cases hp)
 unfold lkW
 cases e:(Om fr V l []).find? (fun p=>p.1==k) with
 | none=>exact h k
 | some p=>exact h1 p (List.mem_of_find?_eq_some e)
theorem JO{t:D.Term}{m:Mq}:Xt m (Cl t m):=by
 unfold Cl
 split
 ·split
  ·exact⟨[],by simp[Df]⟩
  ·exact(show Xt m (Cz (Df m)) from⟨[],by simp[Cz,Df]⟩).tr Wu
 split
 ·exact Wx
 ·exact Xt.rf
theorem DF{n:Int}:∀(l:List D.Block) (m:Mq),(0≤n∧n≤m.nx)→m.nx+4*cI l+l.length<8180→∀j,j<l.length→∃m',ix (ofQ l m) j=Wb (ix l j) m'∧(0≤n∧n≤m'.nx)∧m'.nx+4*(ix l j).Ins.length+1<8180
 | [],_,_,_,_,hj=>absurd hj (Nat.not_lt_zero _)
 | x::l,m,hn,hm,j,hj=>by
  rw[cI,List.length_cons] at hm
  rw[ofQ]
  cases j with
  | zero=>rw[Ia,Ia];exact⟨m,rfl,hn,by omega⟩
  | succ j =>
   rw[Iq,Iq]
   have h1:=I1 x.Ins (Ks m)
   have h2:=RN (t:=x.Term) (m:=Hb x.Ins (Ks m))
   have e:(Ks m).nx=m.nx:=rfl
   exact DF l (Pa x m) ⟨hn.1,by show n≤(Cl x.Term (Hb x.Ins (Ks m))).nx;omega⟩ (by show(Cl x.Term (Hb x.Ins (Ks m))).nx+_+_<_;omega) j (by simpa using hj)
structure SimF(n:Int)(f:D.Func):Prop where
 ins:∀b,b<f.Blocks.length→∀x∈(ix f.Blocks b).Ins,gI n x∧IntKind.i32.wrap x.Imm=x.Imm
 tm:∀b,b<f.Blocks.length→gT n (ix f.Blocks b).Term
 ph:∀b,b<f.Blocks.length→∀p∈(ix f.Blocks b).Phis,(0≤p.Dst∧p.Dst<n)∧∀x∈p.In,0≤x.Val∧x.Val<n
theorem Y9{n N N':Int}{f:D.Func}{m0:Mq}(hG:GoodF f)(hS:SimF n f)(hn:0≤n∧n≤m0.nx)(hm:m0.nx+4*cI f.Blocks+f.Blocks.length<8180)(hN:6*N+10≤N') :
  ∀(k:Nat) (a fr:Int) (s:RSt) (rs:List Int) (k':Nat) (s':Int),s.en=0→RV n s.V rs→Ww s→(0≤a∧a<f.Blocks.length)→(∀p∈(ix f.Blocks a.toNat).Phis,fr∈p.In.map (fun x=>x.From))→s.st≤N→N-s.st<k→(s.st≤s'∧s'≤6*s.st)→N'-s'<k' →
  (Hd f.Blocks N k a fr s).en=3∨∃st',(Hd f.Blocks N k a fr s).st≤st'∧Me (ofQ f.Blocks m0) N' k' a fr rs s.me s.cl s.an s'=⟨(Hd f.Blocks N k a fr s).en,(Hd f.Blocks N k a fr s).va,(Hd f.Blocks N k a fr s).me,(Hd f.Blocks N k a fr s).cl,st'⟩
 | 0,a,fr,s,rs,k',s',he,hR,hW,ha,hp,h1,h2,h3,h4=>by exfalso;omega
 | k+1,a,fr,s,rs,k',s',he,hR,hW,ha,hp,h1,h2,h3,h4=>by
  have hbb:Int.toNat a<f.Blocks.length:=by omega
  have h8:n≤8192:=by omega
  obtain⟨m',e1,hn',hm'⟩:=DF f.Blocks m0 hn hm a.toNat hbb
  have hR1:RV n (Gy fr (ix f.Blocks a.toNat).Phis s).V (Nr (ix f.Blocks a.toNat).Phis fr rs):=ME hR h8 (fun p hp'=>⟨(hS.ph _ hbb p hp').1,(hS.ph _ hbb p hp').2,hp p hp'⟩)
  have hW1:Ww (Gy fr (ix f.Blocks a.toNat).Phis s):=⟨PS hW.1 _,hW.2⟩
  obtain⟨c,q1,q2⟩:=Y8 (N:=N) (ix f.Blocks a.toNat).Ins (Ks m') _ _ hR1 hW1 hn' (by show m'.nx+_<_;omega) (hS.ins _ hbb) he h1
  have q1:(Mf (ix f.Blocks a.toNat) m').l=c:=q1.trans (List.nil_append c)
  have hk':0<k':=by omega
  have hrun:∀rs9,Me (ofQ f.Blocks m0) N' k' a fr rs9 s.me s.cl s.an s'=Dq N' (Jb N' (Bt (ix f.Blocks a.toNat).Term (Mf (ix f.Blocks a.toNat) m')) (fun t=>Me (ofQ f.Blocks m0) N' (k'-1) t a)) (Pa (ix f.Blocks a.toNat) m').l (Nr (ix f.Blocks a.toNat).Phis fr rs9) s.me s.cl s.an s':=fun rs9=>by
   rw[O6 hk',e1];rfl
  rw[hrun rs]
  have e3:(Gy fr (ix f.Blocks a.toNat).Phis s).st=s.st:=rfl
  have e4:(Gy fr (ix f.Blocks a.toNat).Phis s).me=s.me:=rfl
  have e5:(Gy fr (ix f.Blocks a.toNat).Phis s).cl=s.cl:=rfl
  have e6:(Gy fr (ix f.Blocks a.toNat).Phis s).an=s.an:=rfl
  unfold R5 at q2
  rw[e3,e4,e5,e6] at q2
  rw[Hd]
  generalize Bu N (ix f.Blocks a.toNat).Ins (Gy fr (ix f.Blocks a.toNat).Phis s)=R at q2 ⊢
  have dead:R.1.en≠0→(if R.2=true then (if Fx N R.1=true then (if (Hv (ix f.Blocks a.toNat).Term (Es N R.1)).en=0 then Hd f.Blocks N k (Cv (ix f.Blocks a.toNat).Term R.1.V) a (Hv (ix f.Blocks a.toNat).Term (Es N R.1)) else Hv (ix f.Blocks a.toNat).Term (Es N R.1)) else Es N R.1) else R.1)=R.1:=fun h=>by
   obtain⟨d1,d2⟩:=H7 (N:=N) h
   rw[d1,d2];simp
  rcases q2 with g1|⟨g1,g2,g3,g4,rs1,g5,g6⟩|⟨g1,g2,g3⟩
  ·left;rw[dead (by rw[g1];decide)];exact g1
  ·by_cases h9:R.1.st<N
   ·obtain⟨d1,d2⟩:=DD g2 h9
    rw[g1,d1,d2,if_pos rfl,if_pos rfl]
    have hT:=hS.tm _ hbb
    have hnx:=I1 (ix f.Blocks a.toNat).Ins (Ks m')
    have e7:(Ks m').nx=m'.nx:=rfl
    obtain⟨c2,rs2,t1,t2,t3,t4,t5⟩:=MH (m:=Mf (ix f.Blocks a.toNat) m') g5 g3.1 (by show 0≤n∧n≤(Hb (ix f.Blocks a.toNat).Ins (Ks m')).nx;omega) (by show(Hb (ix f.Blocks a.toNat).Ins (Ks m')).nx+1<_;omega) hT
    have hl:(Pa (ix f.Blocks a.toNat) m').l=c++(c2++[]):=by rw[List.append_nil,←q1];exact t1
    rw[hl]
    generalize hK:Jb N' (Bt (ix f.Blocks a.toNat).Term (Mf (ix f.Blocks a.toNat) m')) (fun t=>Me (ofQ f.Blocks m0) N' (k'-1) t a)=K
    obtain⟨j,b1,b2,b3⟩:=g6 N' K (c2++[]) s' (by omega)
    rw[b3,t3 R.1.me N' K [] R.1.cl R.1.an _ (by omega),Dq,←hK]
    generalize hs2:s'+j+(c2.length:Int)=s2
    have hle:¬N'≤s2:=by omega
    unfold Jb
    rw[if_neg hle]
    rcases t5 with⟨u1,u2,u3,u4⟩|⟨u1,u2,u3⟩|⟨u1,u2,u3⟩
    ·rw[if_neg u2,if_neg u3,u4]
     have hk3:(ix f.Blocks a.toNat).Term.Kind=1∨(ix f.Blocks a.toNat).Term.Kind=2∨(ix f.Blocks a.toNat).Term.Kind=3:=by have:=hT.1;omega
     have hen:Cf (ix f.Blocks a.toNat).Term R.1.en=0:=by unfold Cf;rw[if_pos hk3];exact g2
     have hen':(Hv (ix f.Blocks a.toNat).Term { R.1 with st:=R.1.st+1 }).en=0:=hen
     rw[if_pos hen']
     have hto:=D8 (V:=R.1.V) (hG.tm _ hbb) hen
     have hr:=hG.to _ hbb _ hto
     have hph:=hG.phi_from hbb hto
     rw[Int.toNat_of_nonneg ha.1] at hph
     exact Y9 hG hS hn hm hN k (Cv (ix f.Blocks a.toNat).Term R.1.V) a (Hv (ix f.Blocks a.toNat).Term { R.1 with st:=R.1.st+1 }) rs2 (k'-1) (s2+1) hen' t4 g3 (by omega) hph (by show R.1.st+1≤N;omega) (by show N-(R.1.st+1)<_;omega) (by show R.1.st+1≤s2+1∧s2+1≤6*(R.1.st+1);omega) (by omega)
    ·rw[if_pos u2,u3]
     have hen:Cf (ix f.Blocks a.toNat).Term R.1.en=1:=by unfold Cf;rw[if_neg (by omega),if_pos u1]
     have hen':(Hv (ix f.Blocks a.toNat).Term { R.1 with st:=R.1.st+1 }).en=1:=hen
     rw[if_neg (by rw[hen'];decide)]
     refine .inr ⟨s2+1,by show R.1.st+1≤s2+1;omega,?_⟩
     show _=(⟨Cf (ix f.Blocks a.toNat).Term R.1.en,Cu (ix f.Blocks a.toNat).Term R.1.V R.1.va,R.1.me,R.1.cl,s2+1⟩:D.Outcome)
     rw[hen];unfold Cu;rw[if_neg (by omega),if_pos u1]
    ·have h7:¬(Bt (ix f.Blocks a.toNat).Term (Mf (ix f.Blocks a.toNat) m')).Op=7:=by rw[u2];decide
     rw[if_neg h7,if_pos u2,u3]
     have hen:Cf (ix f.Blocks a.toNat).Term R.1.en=2:=by unfold Cf;rw[if_neg (by omega),if_neg (by omega)]
     have hen':(Hv (ix f.Blocks a.toNat).Term { R.1 with st:=R.1.st+1 }).en=2:=hen
     rw[if_neg (by rw[hen'];decide)]
     refine .inr ⟨s2+1,by show R.1.st+1≤s2+1;omega,?_⟩
     show _=(⟨Cf (ix f.Blocks a.toNat).Term R.1.en,Cu (ix f.Blocks a.toNat).Term R.1.V R.1.va,R.1.me,R.1.cl,s2+1⟩:D.Outcome)
     rw[hen];unfold Cu;rw[if_neg (by omega),if_neg (by omega)]
   ·obtain⟨d1,d2⟩:=DE (N:=N) g2 (by omega)
    left;rw[g1,d1,d2];simp
  ·rw[dead (by rw[g1];decide)]
   obtain⟨c2,t1⟩:=JO (t:=(ix f.Blocks a.toNat).Term) (m:=Mf (ix f.Blocks a.toNat) m')
   have hl:(Pa (ix f.Blocks a.toNat) m').l=c++c2:=by rw[←q1];exact t1
   rw[hl]
   obtain⟨j,b1,b2⟩:=g3 N' (Jb N' (Bt (ix f.Blocks a.toNat).Term (Mf (ix f.Blocks a.toNat) m')) (fun t=>Me (ofQ f.Blocks m0) N' (k'-1) t a)) c2 s' (by omega)
   exact .inr ⟨s'+j,by omega,by rw[b2,g1]⟩
theorem V5:∀(l:List Int) (t:Int),t≤Jf l t∧∀x∈l,x<8192→x<Jf l t
 | [],t=>⟨Int.le_refl _,fun x h=>by cases h⟩
 | y::l,t=>by
  rw[Jf]
  have h:=V5 l (if t≤y∧y<8192 then y+1 else t)
  have h0:t≤if t≤y∧y<8192 then y+1 else t:=by split<;>omega
  refine⟨by omega,fun x hx h8=>?_⟩
  rcases List.mem_cons.1 hx with e|e
  ·subst e
   have:x<if t≤x∧x<8192 then x+1 else t:=by split<;>omega
   omega
  ·exact h.2 x e h8
theorem V0:∀(l:List D.Tg3) (t:Int),t≤Lk l t∧∀g∈l,∀x∈g.Makes,x<8192→x<Lk l t
 | [],t=>⟨Int.le_refl _,fun x h=>by cases h⟩
 | g::l,t=>by
  rw[Lk]
  have h:=V0 l (Jf g.Makes t)
  have h2:=V5 g.Makes t
  refine⟨by omega,fun z hz x hx h8=>?_⟩
  rcases List.mem_cons.1 hz with e|e
  ·subst e;have:=h2.2 x hx h8;omega
  ·exact h.2 z e x hx h8
theorem CI{b:Int}{v:Int}:∀(l:List D.Phi) (i:Nat),v∈l.map (fun p=>p.Dst)→∃g∈phL b i l,v∈g.Makes
 | [],_,h=>by cases h
 | p::l,i,h=>by
  rw[phL]
  rcases List.mem_cons.1 h with e|e
  ·exact⟨phT b i p,by simp,by show v∈[p.Dst];simp[e]⟩
  ·obtain⟨g,h1,h2⟩:=CI (b:=b) l (i+1) e;exact⟨g,by simp[h1],h2⟩
theorem FE{b:Int}{v:Int}:∀(l:List D.Ins) (i:Nat),v∈l.flatMap Aw→∃g∈inL b i l,v∈g.Makes
 | [],_,h=>by cases h
 | x::l,i,h=>by
  rw[inL]
  rw[List.flatMap_cons] at h
  rcases List.mem_append.1 h with e|e
  ·exact⟨inT b i x,by simp,e⟩
  ·obtain⟨g,h1,h2⟩:=FE (b:=b) l (i+1) e;exact⟨g,by simp[h1],h2⟩
theorem HH{v:Int}:∀(l:List D.Block) (k j:Nat),j<l.length→v∈mkB (ix l j)→∃g∈blL k l,v∈g.Makes
 | x::l,k,0,_,h=>by
  rw[Ia] at h
  rw[blL]
  rcases List.mem_append.1 h with e|e
  ·obtain⟨g,h1,h2⟩:=CI (b:=k) x.Phis 0 e;exact⟨g,by simp[h1],h2⟩
  ·obtain⟨g,h1,h2⟩:=FE (b:=k) x.Ins 0 e;exact⟨g,by simp[h1],h2⟩
 | x::l,k,j+1,hj,h=>by
  rw[Iq] at h
  obtain⟨g,h1,h2⟩:=HH l (k+1) j (by simpa using hj) h
  exact⟨g,by rw[blL];simp[h1],h2⟩
theorem I6{f:D.Func}(hG:GoodF f){b:Nat}{v:Int}(hb:b<f.Blocks.length)(h:v∈mkB (ix f.Blocks b)):0≤v∧v<max (Ig f) f.Params:=by
 obtain⟨g,h1,h2⟩:=HH f.Blocks 0 b hb h
 have h3:=hG.rng b hb v h
 have h4:=hG.par
 have h5:=(V0 (De f) (min (max f.Params 0) 8192)).2 g h1 v h2 (by omega)
 have h6:v<Ig f:=h5
 omega
theorem C5{f:D.Func}(hG:GoodF f){b:Nat}{v at':Int}(h:US f v b at'):0≤v∧v<max (Ig f) f.Params:=by
 rcases h with h|⟨wb,wp,⟨h1,h2⟩,_⟩
 ·omega
 ·refine I6 hG h1 ((Iz (x:=ix f.Blocks wb)).2 ?_)
  rcases h2 with⟨i,a,b,_⟩|⟨i,a,b,_⟩
  ·exact .inl ⟨i,a,b⟩
  ·exact .inr ⟨i,a,b⟩
theorem MI{f:D.Func}{nx:Int}(hG:GoodF f)(hg:∀b,b<f.Blocks.length→gB nx (ix f.Blocks b)∧(ix f.Blocks b).Term.Kind≠0)(hw:∀x∈f.Blocks,∀i∈x.Ins,IntKind.i32.wrap i.Imm=i.Imm):SimF (max (Ig f) f.Params) f where
 ins b hb x hx:=by
  have h1:=(hg b hb).1.1 x hx
  obtain⟨i,hi,e⟩:=List.getElem_of_mem hx
  have e2:ix (ix f.Blocks b).Ins i=x:=by rw[Bn hi];exact e
  refine⟨⟨h1.1,h1.2.1,h1.2.2.1,fun a ha=>C5 hG (hG.ui b hb i hi a (by rw[e2];exact ha)),fun d hd=>I6 hG hb ((Iz (x:=ix f.Blocks b)).2 (.inr ⟨i,hi,by rw[e2];exact hd⟩)),h1.2.2.2.2.2⟩,hw _ (Ax hb) x hx⟩
 tm b hb:=by
  have h1:=(hg b hb).1.2.2.1.resolve_left (hg b hb).2
  exact⟨h1.1,fun a ha=>C5 hG (hG.ut b hb a ha),h1.2.2⟩
 ph b hb p hp:=by
  obtain⟨i,hi,e⟩:=List.getElem_of_mem hp
  have e2:ix (ix f.Blocks b).Phis i=p:=by rw[Bn hi];exact e
  exact⟨I6 hG hb ((Iz (x:=ix f.Blocks b)).2 (.inl ⟨i,hi,by rw[e2]⟩)),fun x hx=>C5 hG (hG.up b hb p hp x hx)⟩
theorem Q3(l:List Int):∀(k:Nat) (v:Int),Pb l k v=if 0≤v∧v<k then ix l v.toNat else 0
 | 0,v=>by rw[Pb,if_neg (by omega)]
 | k+1,v=>by
  rw[Pb];unfold Bf
  by_cases h:v=k
  ·rw[if_pos h,if_pos (by omega),h];rfl
  ·rw[if_neg h,Q3 l k v]
   by_cases h2:0≤v∧v<k
   ·rw[if_pos h2,if_pos (by omega)]
   ·rw[if_neg h2,if_neg (by omega)]
theorem MD{s w:List Int}{i:D.Input}{N N':Int}(hN:6*N+10≤N')(h0:0≤N)(hw:∀x∈(Am s).Blocks,∀y∈x.Ins,IntKind.i32.wrap y.Imm=y.Imm)(hi:(∀v∈i.Args,IntKind.i32.wrap v=v)∧(∀v∈i.Mem,IntKind.i32.wrap v=v)∧∀v∈i.Answers,IntKind.i32.wrap v=v) :
  (Nl (Am s) { i with Steps:=N }).End=3∨(Qm (Nl (Am s) { i with Steps:=N }) (Ii (of7 (Am s) w) { i with Steps:=N' })=true∧(Nl (Am s) { i with Steps:=N }).Steps≤(Ii (of7 (Am s) w) { i with Steps:=N' }).Steps):=by
 have hG:=FR s
 obtain⟨nx,h⟩:=J5 s
 have hS:SimF (max (Ig (Am s)) (Am s).Params) (Am s):=MI hG (fun b hb=>by rw[h.len] at hb;exact⟨h.blk b hb,h.kd b hb⟩) hw
 have hp:=h.par
 have hnx:=h.nxb
 have hc:=h.cnt
 have hl:=h.len
 have hn1:=h.n1
 have ht:Ig (Am s)≤nx:=C9 _ _ (fun g hg' x hx=>(Zk (Am s).Blocks 0 (fun x hx=>by
  obtain⟨j,hj,e⟩:=List.getElem_of_mem hx
  have:=h.blk j (by rw[←h.len];exact hj)
  rw[Bn hj,e] at this;exact this) g hg' x hx).2) (by omega)
 have ht0:=D3 (Am s)
 have hR:RV (max (Ig (Am s)) (Am s).Params) (Xc (Am s) { i with Steps:=N }).V (Nj (of7 (Am s) w) { i with Steps:=N' }):=by
  have e0:(of7 (Am s) w).Params=(Am s).Params:=rfl
  have hlen:(Iu (Am s) { i with Steps:=N }).length=min (Int.toNat (Am s).Params) i.Args.length:=by unfold Iu;rw[List.length_take];dsimp only;omega
  refine⟨by unfold Nj;rw[List.length_append,List.length_take,List.length_drop,List.length_replicate];dsimp only;omega,fun v h1 h2=>?_⟩
  show _=Pb (Iu (Am s) { i with Steps:=N }) (Iu (Am s) { i with Steps:=N }).length v
  rw[Q3,hlen]
  unfold Nj;rw[e0];dsimp only
  have hq:(List.take (min (Int.toNat (Am s).Params) i.Args.length) i.Args).length=min (Int.toNat (Am s).Params) i.Args.length:=by rw[List.length_take];omega
  by_cases hv:0≤v∧v<(min (Int.toNat (Am s).Params) i.Args.length:Nat)
  ·rw[if_pos hv,Yu (by omega)]
   have e:Iu (Am s) { i with Steps:=N }=List.take (min (Int.toNat (Am s).Params) i.Args.length) i.Args:=by unfold Iu;congr 1;dsimp only;omega
   rw[e]
  ·rw[if_neg hv]
   have h9:v.toNat<(List.take (min (Int.toNat (Am s).Params) i.Args.length) i.Args++List.drop (min (Int.toNat (Am s).Params) i.Args.length) (List.replicate 8192 (0:Int))).length:=by rw[List.length_append,List.length_drop,List.length_replicate];omega
   rw[Bn h9,List.getElem_append_right (by omega),List.getElem_drop,List.getElem_replicate]
 have hWs:Ww (Xc (Am s) { i with Steps:=N }):=by
  refine⟨?_,fun v hv=>hi.2.1 v (List.mem_of_mem_take hv),hi.2.2⟩
  show ∀k,IntKind.i32.wrap (Pb (Iu (Am s) { i with Steps:=N }) (Iu (Am s) { i with Steps:=N }).length k)=Pb (Iu (Am s) { i with Steps:=N }) (Iu (Am s) { i with Steps:=N }).length k
  intro k
  rw[Q3];split
  ·exact Yr (fun v hv=>hi.1 v (List.mem_of_mem_take hv)) _
  ·decide
 have key:=Y9 hG hS (m0:=⟨w,0,max (Ig (Am s)) (Am s).Params,[]⟩) (by dsimp only;omega) (by dsimp only;omega) hN (Int.toNat N+1) 0 (-1) (Xc (Am s) { i with Steps:=N }) _ (Int.toNat N'+1) 0 rfl hR hWs (by omega) (hG.phi0) h0 (by show N-0<_;omega) (by show(0:Int)≤0∧(0:Int)≤6*0;omega) (by omega)
 rcases key with key|⟨st',k1,k2⟩
 ·exact .inl key
 ·refine .inr ?_
  have e:Ii (of7 (Am s) w) { i with Steps:=N' }=⟨(Nl (Am s) { i with Steps:=N }).End,(Nl (Am s) { i with Steps:=N }).Val,(Nl (Am s) { i with Steps:=N }).Mem,(Nl (Am s) { i with Steps:=N }).Calls,st'⟩:=by
   unfold Ii;rw[DH,if_neg (by decide)];exact k2
  rw[e]
  exact⟨by unfold Qm;simp,k1⟩
theorem E23:Ent Tryz.prog 23:=⟨_,Tryz.func23,by kernel_rfl,by kernel_rfl⟩
theorem E36:Ent Tryz.prog 36:=⟨_,Tryz.func36,by kernel_rfl,by kernel_rfl⟩
theorem E9:Ent Tryz.prog 9:=⟨_,Tryz.func9,by kernel_rfl,by kernel_rfl⟩
section
variable{F:PH}{α:Type}{r:Rp α}{l:List α}{f:Nat→Value}
theorem F9{N:Nat}(h:(rLn N r).ok F l f):∀x∈l,∃g,r.ok F x g:=fun x hx=>by
 obtain⟨a,b,c,d,e,g,g',y,z⟩:=h
 obtain⟨i,hi,e⟩:=List.getElem_of_mem hx
 exact⟨_,e▸z i hi⟩
theorem K5{k:IntKind}{N:Nat}{l:List Int}(h:(rLn N (rI k)).ok F l f):∀x∈l,k.wrap x=x:=fun x hx=>by obtain⟨g,h1⟩:=F9 h x hx;exact h1.2
theorem WK{v:Value}{m:D.Func}(h:(da Ak v m).sat F):∀x∈m.Blocks,∀y∈x.Ins,IntKind.i32.wrap y.Imm=y.Imm:=fun x hx y hy=>by
 obtain⟨l,_,_,h1⟩:=h
 obtain⟨g,h2⟩:=F9 h1.2 x hx
 obtain⟨g2,h3⟩:=F9 h2.2.1 y hy
 exact h3.2.2.2.2.2
theorem WH{v:Value}{m:D.Input}(h:(da Cc v m).sat F):(∀v∈m.Args,IntKind.i32.wrap v=v)∧(∀v∈m.Mem,IntKind.i32.wrap v=v)∧∀v∈m.Answers,IntKind.i32.wrap v=v:=by
 obtain⟨l,_,_,h1⟩:=h
 exact⟨K5 h1.1,K5 h1.2.1,K5 h1.2.2.1⟩
theorem jfact{P:Program}{n:Fs}{w0:World}{Q:Exit→Act→World→Prop}{X:Cx}{D:List Dt}{L:List Res}{e:Env}{ops:Array Oper}{rest:List Oper}{p:Prop}{d:Dt}(h:Nd D L d)(hp:∀F,d.sat F→p)(k:p→LH P n w0 ops Q X D L e rest):LH P n w0 ops Q X D L e rest:=fun F H hh=>k (hp F (h F H hh.hin hh.hd hh.ok)) F H hh
end
theorem CM(s w:List Int):IntKind.i64.wrap (of7 (Am s) w).Params=(of7 (Am s) w).Params:=by
 have h:=Vm s
 exact IntWalk.i64_in _ (show _≤(Am s).Params∧(Am s).Params≤_ by omega)
theorem SM{A B:D.Outcome}{r:Bool}(hm:r=true)(h:A.End=3∨(Qm A B=true∧A.Steps≤B.Steps)):true=((true&&r)&&(decide (A.End=3)||(Qm A B&&decide (A.Steps≤B.Steps)))):=by
 rw[hm]
 rcases h with h|⟨h1,h2⟩
 ·rw[decide_eq_true h];rfl
 ·rw[h1,decide_eq_true h2];simp
attribute [local irreducible] Nl Ii Am of7 Gq
theorem machInterp_ct{a0:Value}{l:List Int}{N0:Nat}{a1:Value}{h:List Int}{N1:Nat}{a2:Value}{b:List Int}{N2:Nat}:Tv Tryz.prog 8 #[a0,a1,a2] [dv (rLn N0 (rI .i64)) a0 l,dv (rLn N1 (rI .i64)) a1 h,dv (rLn N2 (rI .i64)) a2 b] [] (.bool true):=by
 refine Af (args:=[a0,a1,a2]) Tryz.func8 rfl rfl rfl fun w0 X=>?_
 refine jq (jr (ja Z (jn (jx (jq (jr (jcv E9 Z Z MJ dn kn (ja Z (jn (jx (jq ?_)))))))))))
 refine jr (jm Z (jm Z (jdq d0 fun q1 w1=>js (jln U22 d0 Z) (js (Ot Z Z) (js (Th (hi:=(Int.toNat (min (↑l.length) 200))) U22 Z3 d0 Z Z (by omega) (by omega)) (jdq (dhi d0 (Int.toNat (min (↑l.length) 200)) (by omega) (by omega)) fun q2 w2=>jcs E31 Z Z ON (dc (dhi d0 (Int.toNat (min (↑l.length) 200)) (by omega) (by omega)) dn) kn fun c19=>jfact d0 (fun _=>WK) fun hwf=>Bg J49 Z fun g8=>jdq (Ak.cB d0) fun q4 w4=>?_))))))
 refine Az k0 Z49 Z Z Z ⟨Z,w4.one,trivial⟩ (saf Z) (jn (jx (jq ?_)))
 refine jjo (u2 fun(gM:Nat) (cM:Value)=>⟨0≤gM,[da Ak (vFunc (Am (List.take (Int.toNat (min (((List.length l:Nat):Int)) 200)) l)) c19) (Am (List.take (Int.toNat (min (((List.length l:Nat):Int)) 200)) l)),dv (rLn N2 (rI .i64)) a2 b,dv (rL Av) cM ((of7 (Am (List.take (Int.toNat (min (((List.length l:Nat):Int)) 200)) l)) (List.take (Int.toNat (min (((List.length h:Nat):Int)) 200)) h)).Blocks)],[bx gM 28 [.int .i64 ((of7 (Am (List.take (Int.toNat (min (((List.length l:Nat):Int)) 200)) l)) (List.take (Int.toNat (min (((List.length h:Nat):Int)) 200)) h)).Params),cM],bx g8 49 [.int .i64 ((Am (List.take (Int.toNat (min (((List.length l:Nat):Int)) 200)) l)).Params),c19]],[(2,a2),(6,.bool false),(7,.bool true),(8,.pointer (some ⟨g8,0,none⟩)),(9,.pointer (some ⟨gM,0,none⟩))]⟩) ?_ ?_
 refine Cp false (.a 0 (.a 1 (.a 2 (.a 3 (.a 4 (.a 5 (.w 6 7 (.o 7 (.o 8 .e)) (.o 6 (.o 8 .e))))))))) Bh (by kernel_rfl) (kc k0 kn) fun F7=>jy Z (jla k0 A49 Z49 Z Z Z) (jy Z (jmv Z) (jy Z (jmv Z) (adq d2 fun q8 w8=>jy Z (jln U22 d2 Z) (jy Z (Ot Z Z) (jy Z (Th (hi:=(Int.toNat (min (↑h.length) 200))) U22 Z3 d2 Z Z (by omega) (by omega)) ?_)))))
 refine jyw Z Z ?_ ?_
 refine jdq (dhi d3 (Int.toNat (min (↑h.length) 200)) (by omega) (by omega)) fun q10 w10=>jcs E33 Z Z (AS (DZ _) (EA _) ⟨(Vm _).1,Int.le_trans (Vm _).2 (by decide)⟩) (dc d1 (dc (dhi d3 (Int.toNat (min (↑h.length) 200)) (by omega) (by omega)) dn)) kn fun c26=>jyn d1 (kc k0 kn) (jyo Z (Bg J28 Z fun g9=>jyn d0 (kc k1 kn) (jyo Z (jdq (Bo.cB d2) fun q14 w14=>Az k0 Z28 Z Z Z ⟨Z,w14.one,trivial⟩ (saf Z) (jyn d0 (kc k1 kn) (jyd ?_))))))
 exact jje (g9,c26) (Nat.zero_le _) (dc d4 (dc d7 (dc (Bo.cB d2) dn))) (kd kn) ⟨Z,Z,Z,Z,Z,trivial⟩
 refine Bg J28 Z fun g9=>jyn d0 (kc k1 kn) (jyo Z (jdq (dhi d4 (Int.toNat (min (↑h.length) 200)) (by omega) (by omega)) fun q11 w11=>jcs E33 Z Z (AS (DZ _) (EA _) ⟨(Vm _).1,Int.le_trans (Vm _).2 (by decide)⟩) (dc d2 (dc (dhi d4 (Int.toNat (min (↑h.length) 200)) (by omega) (by omega)) dn)) kn fun c26=>jyn d1 (kc k1 kn) (jyo Z (jdq (Bo.cB d1) fun q14 w14=>Az k0 Z28 Z Z Z ⟨Z,w14.one,trivial⟩ (saf Z) (jyn d0 (kc k1 kn) (jyd ?_))))))
 exact jje (g9,c26) (Nat.zero_le _) (dc d4 (dc d7 (dc (Bo.cB d1) dn))) (kd kn) ⟨Z,Z,Z,Z,Z,trivial⟩
 rintro⟨gM,cM⟩;dsimp only[u2];rintro hgM
 refine qdq d2 fun q15 w15=>jx (jq (jr (jm Z (jm Z (jdq d1 fun q16 w16=>js (jln U22 d1 Z) (js (Ot Z Z) (js (Th (hi:=(Int.toNat (min (↑b.length) 60))) U22 Z3 d1 Z Z (by omega) (by omega)) (jdq (dhi d1 (Int.toNat (min (↑b.length) 60)) (by omega) (by omega)) fun q17 w17=>UY E34 Z Z OO (dc (dhi d1 (Int.toNat (min (↑b.length) 60)) (by omega) (by omega)) dn) kn fun c32a c32b c32c=>?_))))))))
 refine jfact d0 (fun _=>WH) fun hwi=>Bg J31 Z fun g10=>jdq (Cc.c_Args d0) fun q19 w19=>jdq (Cc.c_Mem d0) fun q20 w20=>jdq (Cc.c_Answers d0) fun q21 w21=>Az k0 Z31 Z Z Z ⟨w19.one,w20.one,w21.one,Z,trivial⟩ (saf Z) (jn (jx (jq (jr (js (jf Wi Z) (jst k0 Z3 Z Z Z s3 ?_))))))
 refine jn (jx (jq (jr (js (jla k2 A49 Z49 Z Z Z) (js (jla k0 A31 Z31 Z Z Z) (K2 E23 Z Z (OC (a1a:=c32a) (a1b:=c32b) (a1c:=c32c) (i:=⟨(Gq (List.take (Int.toNat (min (↑b.length) 60)) b)).Args,(Gq (List.take (Int.toNat (min (↑b.length) 60)) b)).Mem,(Gq (List.take (Int.toNat (min (↑b.length) 60)) b)).Answers,300⟩) (FR _) (show(300:Int)≤1000000 by decide)) (dc d1 (dc (Cc.M (m:=⟨(Gq (List.take (Int.toNat (min (↑b.length) 60)) b)).Args,(Gq (List.take (Int.toNat (min (↑b.length) 60)) b)).Mem,(Gq (List.take (Int.toNat (min (↑b.length) 60)) b)).Answers,300⟩) (c:=(c32a,c32b,c32c)) (Cc.c_Args (m:=Gq (List.take (Int.toNat (min (↑b.length) 60)) b)) (c:=(c32a,c32b,c32c)) d0) (Cc.c_Mem (m:=Gq (List.take (Int.toNat (min (↑b.length) 60)) b)) (c:=(c32a,c32b,c32c)) d0) (Cc.c_Answers (m:=Gq (List.take (Int.toNat (min (↑b.length) 60)) b)) (c:=(c32a,c32b,c32c)) d0) (wl 300)) dn)) kn fun c36a c36b=>Bg J37 Z fun g11=>jdq (Ec.c_Mem d0) fun q23 w23=>jdq (Ec.c_Calls d0) fun q24 w24=>Az k0 Z37 Z Z Z ⟨Z,Z,w23.one,w24.one,Z,trivial⟩ (saf Z) (jn ?_)))))))
 refine jx (jq (jr (js (jf Wi Z) (jst k1 Z3 Z Z Z s3 (jn (jx (jq (jr (js (jla k2 A28 Z28 Z Z Z) (js (jla k0 A31 Z31 Z Z Z) (K2 E12 Z Z (CN (a1a:=c32a) (a1b:=c32b) (a1c:=c32c) (i:=⟨(Gq (List.take (Int.toNat (min (↑b.length) 60)) b)).Args,(Gq (List.take (Int.toNat (min (↑b.length) 60)) b)).Mem,(Gq (List.take (Int.toNat (min (↑b.length) 60)) b)).Answers,3000⟩) (a0:=cM) (m:=⟨(of7 (Am (List.take (Int.toNat (min (↑l.length) 200)) l)) (List.take (Int.toNat (min (↑h.length) 200)) h)).Params,(of7 (Am (List.take (Int.toNat (min (↑l.length) 200)) l)) (List.take (Int.toNat (min (↑h.length) 200)) h)).Blocks⟩) (show(3000:Int)≤1000000 by decide)) (dc (Bo.M (m:=⟨(of7 (Am (List.take (Int.toNat (min (↑l.length) 200)) l)) (List.take (Int.toNat (min (↑h.length) 200)) h)).Params,(of7 (Am (List.take (Int.toNat (min (↑l.length) 200)) l)) (List.take (Int.toNat (min (↑h.length) 200)) h)).Blocks⟩) (c:=cM) d4 (wp (CM _ _))) (dc (Cc.M (m:=⟨(Gq (List.take (Int.toNat (min (↑b.length) 60)) b)).Args,(Gq (List.take (Int.toNat (min (↑b.length) 60)) b)).Mem,(Gq (List.take (Int.toNat (min (↑b.length) 60)) b)).Answers,3000⟩) (c:=(c32a,c32b,c32c)) (Cc.c_Args (m:=Gq (List.take (Int.toNat (min (↑b.length) 60)) b)) (c:=(c32a,c32b,c32c)) d1) (Cc.c_Mem (m:=Gq (List.take (Int.toNat (min (↑b.length) 60)) b)) (c:=(c32a,c32b,c32c)) d1) (Cc.c_Answers (m:=Gq (List.take (Int.toNat (min (↑b.length) 60)) b)) (c:=(c32a,c32b,c32c)) d1) (wl 3000)) dn)) kn fun c40a c40b=>?_)))))))))))
 refine Bg J37 Z fun g12=>jdq (Ec.c_Mem d0) fun q26 w26=>jdq (Ec.c_Calls d0) fun q27 w27=>Az k0 Z37 Z Z Z ⟨Z,Z,w26.one,w27.one,Z,trivial⟩ (saf Z) (jn (jx (jq (jr (jm Z (jm Z (jk Z Z (.t _) (jla k3 A28 Z28 Z Z Z) (jgk Z Z (.t _) ?_))))))))
 refine jcv E35 Z Z (CP (a0:=cM) (m:=⟨(of7 (Am (List.take (Int.toNat (min (↑l.length) 200)) l)) (List.take (Int.toNat (min (↑h.length) 200)) h)).Params,(of7 (Am (List.take (Int.toNat (min (↑l.length) 200)) l)) (List.take (Int.toNat (min (↑h.length) 200)) h)).Blocks⟩)) (dc (Bo.M (m:=⟨(of7 (Am (List.take (Int.toNat (min (↑l.length) 200)) l)) (List.take (Int.toNat (min (↑h.length) 200)) h)).Params,(of7 (Am (List.take (Int.toNat (min (↑l.length) 200)) l)) (List.take (Int.toNat (min (↑h.length) 200)) h)).Blocks⟩) (c:=cM) d5 (wp (CM _ _))) dn) kn (js (Cm Z Z) (jm Z (jg Z Z (.t _) (fun hg=>jf Ob Z) (jg Z Z (.t _) (fun hg=>jl k2 O3 (evg Z hg) Z) (jg Z Z (.t _) (fun hg=>Aj (evg Z hg) Z) (jg Z Z (.t _) (fun hg=>jmv (evg Z hg)) (jg Z Z (.gf _ _) (fun hg=>jla k2 A37 Z37 Z Z Z) (jg Z Z (.gf _ _) (fun hg=>jla k0 A37 Z37 Z Z Z) (jgc Z Z (.gf _ _) E36 Z (fun hg=>Pw (evg Z hg) (evg Z hg)) (fun hg=>WS) (fun hg=>(dc d1 (dc d0 dn))) kn p0 (jg Z Z (.gf _ _) (fun hg=>jmv (evg Z hg)) (jg Z Z (.gt _ _) (fun hg=>jf Mh Z) ?_)))))))))))
 refine jg Z Z (.gt _ _) (fun hg=>jl k0 O3 (evg Z hg) Z) (jg Z Z (.gt _ _) (fun hg=>jf Mh Z) (jg Z Z (.gt _ _) (fun hg=>jl k2 O3 (evg Z hg) Z) (jg Z Z (.gt _ _) (fun hg=>Eo (evg Z hg) (evg Z hg)) (jg Z Z (.gf _ _) (fun hg=>Tj hg Z Z) (jg Z Z (.t _) (fun hg=>Vq hg Z Z) (js (Cm Z Z) (ja Z (jn (jx (jrt ?_))))))))))
 exact jrB Z Z (SM (DH _ _) (MD (by decide) (by decide) hwf hwi))
end Go.Proofs.YtmfkkodnghambaaGreat
