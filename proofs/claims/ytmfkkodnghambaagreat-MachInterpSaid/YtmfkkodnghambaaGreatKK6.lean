/- Lemmas that the claim is made of. Conditions: each lemma names its own. -/
import Derived.Test.YtmfkkodnghambaaGreatKK5
import Derived.Recover
import Derived.Test.YtmfkkodnghambaaGreatKK2
import Derived.Test.YtmfkkodnghambaaGreatKK1
import Derived.Test.YtmfkkodnghambaaGreatKK4
set_option maxRecDepth 20000
set_option maxHeartbeats 4000000
set_option linter.unusedSectionVars false
set_option linter.unusedSimpArgs false
set_option linter.unusedVariables false
namespace Go.Proofs.YtmfkkodnghambaaGreat
open Go.JE
abbrev Q6:=@Tryz.underlying177
abbrev Qc:=@Tryz.underlying213
theorem Mi:Ent Tryz.prog 113:=⟨_,Tryz.func113,by kernel_rfl,by kernel_rfl⟩
theorem Rt:Ent Tryz.prog 114:=⟨_,Tryz.func114,by kernel_rfl,by kernel_rfl⟩
theorem JG:Ent Tryz.prog 161:=⟨_,Tryz.func161,by kernel_rfl,by kernel_rfl⟩
theorem v6:Ent Tryz.prog 162:=⟨_,Tryz.func162,by kernel_rfl,by kernel_rfl⟩
theorem u0:Ent Tryz.prog 163:=⟨_,Tryz.func163,by kernel_rfl,by kernel_rfl⟩
theorem JF:Ent Tryz.prog 164:=⟨_,Tryz.func164,by kernel_rfl,by kernel_rfl⟩
theorem r6:Ent Tryz.prog 179:=⟨_,Tryz.func179,by kernel_rfl,by kernel_rfl⟩
theorem r5:Ent Tryz.prog 180:=⟨_,Tryz.func180,by kernel_rfl,by kernel_rfl⟩
theorem Qe:Fld Tryz.prog 179 0 0:=⟨_,_,Tryz.underlying179,rfl,rfl,2,(by unfold Sz;kernel_rfl),by decide⟩
theorem S5:Fld Tryz.prog 179 1 2:=⟨_,_,Tryz.underlying179,rfl,rfl,1,(by unfold Sz;kernel_rfl),by decide⟩
theorem n8:Fld Tryz.prog 211 0 0:=⟨_,_,Tryz.underlying211,rfl,rfl,1,(by unfold Sz;kernel_rfl),by decide⟩
theorem n7:Fld Tryz.prog 211 1 1:=⟨_,_,Tryz.underlying211,rfl,rfl,1,(by unfold Sz;kernel_rfl),by decide⟩
theorem n6:Fld Tryz.prog 211 2 2:=⟨_,_,Tryz.underlying211,rfl,rfl,1,(by unfold Sz;kernel_rfl),by decide⟩
theorem n5:Fld Tryz.prog 211 3 3:=⟨_,_,Tryz.underlying211,rfl,rfl,1,(by unfold Sz;kernel_rfl),by decide⟩
theorem R0:One Tryz.prog 177:=⟨_,Tryz.underlying177,rfl⟩
theorem Q4:Sz Tryz.prog 211 4:=by unfold Sz;kernel_rfl
theorem IF:Sz Tryz.prog 219 2:=by unfold Sz;kernel_rfl
theorem Um:(Tryz.prog.info? 211).bind (·.zero)=some (.agg #[.int .i64 0,.int .i64 0,.int .i64 0,.int .i64 0]):=by kernel_rfl
theorem Zs:(Tryz.prog.info? 219).bind (·.zero)=some (.agg #[.int .i64 0,.int .i64 0]):=by kernel_rfl
theorem J67:(Tryz.prog.info? 67).bind (·.zero)=some (.agg #[.int .i64 0,.int .i64 0,.int .i64 0,.slice none 0 0,.int .i32 0]):=by kernel_rfl
theorem Lw(ok:Bool)(e:Int)(b:Int)(p:Int)(hok:ok=true):Tr Tryz.prog 113 #[.bool ok,.int .i64 e,.int .i64 b,.int .i64 p] [] [] (fun _:Unit => .tuple #[]) (fun _=>[]) (fun _ _=>[]):=by
 refine Af (args:=[.bool ok,.int .i64 e,.int .i64 b,.int .i64 p]) Tryz.func113 rfl rfl rfl fun w0 X=>?_
 refine jq (jr (jm Z (js (Dv Z) (jn (jx ?_)))))
 refine jif Z (fun hc1=>?_) (fun hc1=>?_)
 exact absurd hc1 (by rw[hok];decide)
 refine jsk ?_
 exact jd0 Z () Z dn (fun _ _=>kn)
theorem TX{g0 gm:Nat}{cf:Value}{f:D.Func}{L:List (Int×Value)}(n:Int)(b:Int)(p:Int)(hok:Oc n f.Params 8191=true):Tr Tryz.prog 179 #[.pointer (some ⟨g0,0,none⟩),.int .i64 n,.int .i64 b,.int .i64 p] [da Ak (vFunc f cf) f] [bx g0 179 [.int .i64 f.Params,cf,.map (some gm)],im gm L] (fun _:Unit => .tuple #[]) (fun _=>[]) (fun _ _=>[bx g0 179 [.int .i64 f.Params,cf,.map (some gm)],im gm L]):=by
 refine Af (args:=[.pointer (some ⟨g0,0,none⟩),.int .i64 n,.int .i64 b,.int .i64 p]) Tryz.func179 rfl rfl rfl fun w0 X=>?_
 refine jr (jm Z (jm Z (js (Ad Z) (js (jf Qe Z) (js (jf Nc Z) (js (jl k0 O3 Z Z) (jcv Rt Z Z (Qf n f.Params 8191) dn kn (jm Z (jm Z (jc Mi Z Z (Lw (Oc n f.Params 8191) 11 b p hok) dn kn (fun _=>p0) (fun _=>p0) fun _=>jn ?_))))))))))
 exact jd0 Z () Z dn (fun _ _=>(kd kn))
theorem TU{g0 gm:Nat}{cf:Value}{f:D.Func}{L:List (Int×Value)}(n:Int)(b:Int)(p:Int)(hno:lkM L n=none):Tr Tryz.prog 180 #[.pointer (some ⟨g0,0,none⟩),.int .i64 n,.int .i64 b,.int .i64 p] [da Ak (vFunc f cf) f] [bx g0 179 [.int .i64 f.Params,cf,.map (some gm)],im gm L] (fun _:Unit => .tuple #[]) (fun _=>[]) (fun _ _=>[bx g0 179 [.int .i64 f.Params,cf,.map (some gm)],im gm (upM L n (wv b p))]):=by
 refine Af (args:=[.pointer (some ⟨g0,0,none⟩),.int .i64 n,.int .i64 b,.int .i64 p]) Tryz.func180 rfl rfl rfl fun w0 X=>?_
 refine jq (jr (jm Z (js (Ad Z) (js (jf S5 Z) (js (jl k0 R0 Z Z) (jm Z (js (UN Q6 U3 Zs k1 Z Z hno) (jm Z (js (Be Z Z) (js (Be Z Z) (Bg Zs Z fun g8=>?_)))))))))))
 refine Az k0 IF Z Z Z ⟨Z,Z,trivial⟩ (saf Z) (ja Z (jn (jx (jq (jr (jm Z (js (Dv Z) (jm Z (jm Z (jc Mi Z Z (Lw (!false) 12 b p rfl) dn kn (fun _=>p0) (fun _=>p0) fun _=>jn ?_))))))))))
 refine jx (jr (jm Z (js (Ad Z) (js (jf S5 Z) (js (jl k1 R0 Z Z) (jm Z (jm Z (jm Z (js (jbu (v := .agg #[.int .i64 b,.int .i64 p]) Z (fun _=>by kernel_rfl)) (jup Q6 U3 k2 Z Z Z Z (jn ?_)))))))))))
 exact jd0 Z () Z dn (fun _ _=>(kc k2 (kc k0 kn)))
theorem EN{g0 gm:Nat}{cf:Value}{f:D.Func}{L:List (Int×Value)}{a1:Value}{l:List Int}(b:Int)(p:Int)(hmk:∀n∈l,Oc n f.Params 8191=true)(hnd:l.Nodup)(hno:∀n∈l,lkM L n=none):Tr Tryz.prog 161 #[.pointer (some ⟨g0,0,none⟩),a1,.int .i64 b,.int .i64 p] [da Ak (vFunc f cf) f,dv (rL (rI .i64)) a1 l] [bx g0 179 [.int .i64 f.Params,cf,.map (some gm)],im gm L] (fun _:Unit => .tuple #[]) (fun _=>[]) (fun _ _=>[bx g0 179 [.int .i64 f.Params,cf,.map (some gm)],im gm (Ja b p l L)]):=by
 refine Af (args:=[.pointer (some ⟨g0,0,none⟩),a1,.int .i64 b,.int .i64 p]) Tryz.func161 rfl rfl rfl fun w0 X=>?_
 refine jq (jq (jr (jm Z (jdq d1 fun q1 w1=>js (jln U22 d1 Z) (jm Z (jn (jx (jb ?_))))))))
 refine jlp (fun(k:Nat)=>⟨k≤l.length,[da Ak (vFunc f cf) f,dv (rL (rI .i64)) a1 l],[bx g0 179 [.int .i64 f.Params,cf,.map (some gm)],im gm L],[(0,.pointer (some ⟨g0,0,none⟩)),(1,a1),(2,.int .i64 b),(3,.int .i64 p),(12,a1),(13,.int .i64 (↑l.length)),(14,.int .i64 (↑k))],l.length-k⟩) 0 (Nat.zero_le _) (dc d0 (dc d1 dn)) (kd kn) ⟨Z,Z,Z,Z,Z,Z,eqI (by omega),trivial⟩ ?_
 rintro k;dsimp only;rintro hk
 refine jq (jr (js (Ai Z Z) (jn (jx (jq ?_)))))
 refine jif Z (fun hc1=>?_) (fun hc1=>?_)
 refine jsk (jx (jq (jb (jq (jr (js (jix U22 Z3 d1 Z Z Z (by omega)) (js (jlI (dix d1 k (by omega)) O3 Z) (ja Z (jn (jx (jr ?_)))))))))))
 refine jm Z (jm Z (jm Z (jm Z (jc r6 Z Z (TX (f:=f) _ _ _ (hmk _ (Ax (by omega)))) (dc d0 dn) (kd kn) (fun _=>p0) (fun _=>p2) fun _=>jn (jbn (jx (jr (js (Ac Z Z (by omega)) (jm Z (jn ?_))))))))))
 exact jag (k+1) (by dsimp only;omega) (dc d0 (dc d1 dn)) (kd kn) ⟨Z,Z,Z,Z,Z,Z,eqI (by omega),trivial⟩
 refine jex (jtx (jtx (jbh (jx (jq (jr (jm Z (js (jln U22 d1 Z) (jm Z (jn (jx ?_)))))))))))
 refine jb ?_
 refine jlp (u2 fun(k:Nat) (L2:List (Int×Value))=>⟨k≤l.length∧L2=Ja b p (l.take k) L,[da Ak (vFunc f cf) f,dv (rL (rI .i64)) a1 l],[bx g0 179 [.int .i64 f.Params,cf,.map (some gm)],im gm L2],[(0,.pointer (some ⟨g0,0,none⟩)),(2,.int .i64 b),(3,.int .i64 p),(24,a1),(25,.int .i64 (↑l.length)),(26,.int .i64 (↑k))],l.length-k⟩) (0,L) ⟨by dsimp only;omega,rfl⟩ (dc d0 (dc d1 dn)) (kd kn) ⟨Z,Z,Z,Z,Z,eqI (by omega),trivial⟩ ?_
 rintro⟨k,L2⟩;dsimp only[u2];rintro⟨hk,hL2⟩
 refine jq (jr (js (Ai Z Z) (jn (jx (jq ?_)))))
 refine jif Z (fun hc2=>?_) (fun hc2=>?_)
 refine jsk (jx (jq (jb (jq (jr (js (jix U22 Z3 d1 Z Z Z (by omega)) (js (jlI (dix d1 k (by omega)) O3 Z) (ja Z (jn (jx (jr ?_)))))))))))
 refine jm Z (jm Z (jm Z (jm Z (jc r5 Z Z (TU (f:=f) _ _ _ (by rw[hL2];exact WA (by omega) hnd hno)) (dc d0 dn) (kd kn) (fun _=>p0) (fun _=>p2) fun _=>jn (jbn (jx (jr (js (Ac Z Z (by omega)) (jm Z (jn ?_))))))))))
 exact jag (k+1,upM L2 (ix l k) (wv b p)) ⟨by dsimp only;omega,by dsimp only;rw[hL2,VY (by omega)]⟩ (dc d0 (dc d1 dn)) (kd kn) ⟨Z,Z,Z,Z,Z,eqI (by omega),trivial⟩
 refine jex (jtx (jtx (jbh ?_)))
 obtain rfl:L2=Ja b p l L:=by rw[hL2,List.take_of_length_le (by omega)]
 exact jd0 Z () Z dn (fun _ _=>(kd kn))
theorem Z0  : Tr Tryz.prog 164 #[] [] [] (fun g:Nat => .map (some g)) (fun _=>[]) (fun _ g=>[im g shL]):=by
 refine Af (args:=[]) Tryz.func164 rfl rfl rfl fun w0 X=>?_
 refine jq (jr (ja Z (jn (jx (jq (jr (jmm fun g1=>js (jbu (v := .agg #[.int .i64 0,.int .i64 0,.int .i64 1,.int .i64 1]) Z (fun _=>by kernel_rfl)) (jin Qc U3 k0 Z Z Z Z (js (jbu (v := .agg #[.int .i64 1,.int .i64 1,.int .i64 2,.int .i64 2]) Z (fun _=>by kernel_rfl)) (jin Qc U3 k0 Z Z Z Z ?_))))))))))
 refine js (jbu (v := .agg #[.int .i64 1,.int .i64 1,.int .i64 2,.int .i64 65]) Z (fun _=>by kernel_rfl)) (jin Qc U3 k0 Z Z Z Z (js (jbu (v := .agg #[.int .i64 0,.int .i64 1,.int .i64 0,.int .i64 0]) Z (fun _=>by kernel_rfl)) (jin Qc U3 k0 Z Z Z Z (js (jbu (v := .agg #[.int .i64 0,.int .i64 0,.int .i64 0,.int .i64 0]) Z (fun _=>by kernel_rfl)) (jin Qc U3 k0 Z Z Z Z (jm Z (ja Z (jn (jx (jrt ?_))))))))))
 exact jr1 Z Z g1 Z dn (fun _ _=>(kc k0 kn))
theorem TS{g0 gm:Nat}{cf:Value}{f:D.Func}{L:List (Int×Value)}(hG:GoodF f)(hL0:L=[]):Tr Tryz.prog 115 #[.pointer (some ⟨g0,0,none⟩)] [da Ak (vFunc f cf) f] [bx g0 179 [.int .i64 f.Params,cf,.map (some gm)],im gm L] (fun _:Unit => .tuple #[]) (fun _=>[]) (fun _ _=>[bx g0 179 [.int .i64 f.Params,cf,.map (some gm)],im gm (bkA f.Blocks f.Blocks.length)]):=by
 refine Af (args:=[.pointer (some ⟨g0,0,none⟩)]) Tryz.func115 rfl rfl rfl fun w0 X=>?_
 subst hL0
 refine jq (jr (jm Z (js (Ad Z) (js (jf Qe Z) (js (jf Cq Z) (js (jl k0 O47 Z Z) (jdq (Ak.cB d0) fun q1 w1=>js (jln U47 (Ak.cB d0) Z) (jm Z (jn (jx ?_))))))))))
 refine jb ?_
 refine jlp (u2 fun(k:Nat) (L1:List (Int×Value))=>⟨k≤f.Blocks.length∧L1=bkA f.Blocks k,[da Ak (vFunc f cf) f],[bx g0 179 [.int .i64 f.Params,cf,.map (some gm)],im gm L1],[(0,.pointer (some ⟨g0,0,none⟩)),(18,cf),(19,.int .i64 (↑(List.length f.Blocks))),(20,.int .i64 (↑k))],f.Blocks.length-k⟩) (0,[]) ⟨by dsimp only;omega,rfl⟩ (dc d0 dn) (kd kn) ⟨Z,Z,Z,eqI (by omega),trivial⟩ ?_
 rintro⟨k,L1⟩;dsimp only[u2];rintro⟨hk,hL1⟩
 refine jq (jr (js (Ai Z Z) (jn (jx (jq ?_)))))
 refine jif Z (fun hc1=>?_) (fun hc1=>?_)
 have hb:k<f.Blocks.length:=by omega
 obtain⟨sh,hs1,hs2,hs3⟩:=hG.tm k hb
 refine jsk (jx (jq (jb (jq (jr (jm Z (js (jix U47 Z62 (Ak.cB d0) Z Z Z (by omega)) (jA4 Sf (jlA (dix (Ak.cB d0) k (by omega)) A62 Z62 Z) fun c24a c24b c24c c24d=>Bg J62 Z fun g3=>ja Z (jdq (Ah.cP d0) fun q3 w3=>?_)))))))))
 refine jdq (Ah.cI d0) fun q4 w4=>jdq (Ah.c_Term_Args d0) fun q5 w5=>jdq (Ah.c_Term_To d0) fun q6 w6=>Az k0 Z62 Z Z Z ⟨w3.one,w4.one,Z,w5.one,w6.one,Z,trivial⟩ (saf Z) (jn (jx (jq (jq (jr (js (jf Iv Z) (js (jl k0 O57 Z Z) (js (jln U57 (Ah.cP d0) Z) ?_))))))))
 refine jm Z (jn (jx (jb ?_)))
 refine jlp (u2 fun(i:Nat) (L2:List (Int×Value))=>⟨i≤(ix f.Blocks k).Phis.length∧L2=phA k (ix f.Blocks k).Phis L1 i,[da Ah (vBlock (ix f.Blocks k) (c24a,c24b,c24c,c24d)) (ix f.Blocks k),da Ak (vFunc f cf) f],[bx g3 62 [c24a,c24b,.int .i64 (((ix f.Blocks k).Term).Kind),c24c,c24d,.int .i32 (((ix f.Blocks k).Term).Imm)],bx g0 179 [.int .i64 f.Params,cf,.map (some gm)],im gm L2],[(0,.pointer (some ⟨g0,0,none⟩)),(2,.int .i64 (↑k)),(3,.pointer (some ⟨g3,0,none⟩)),(18,cf),(19,.int .i64 (↑(List.length f.Blocks))),(20,.int .i64 (↑k)),(26,c24a),(27,.int .i64 (↑(List.length ((ix f.Blocks k).Phis)))),(28,.int .i64 (↑i))],(ix f.Blocks k).Phis.length-i⟩) (0,L1) ⟨by dsimp only;omega,rfl⟩ (dc d0 (dc d1 dn)) (kd (kc k0 kn)) ⟨Z,Z,Z,Z,Z,Z,Z,Z,eqI (by omega),trivial⟩ ?_
 rintro⟨i,L2⟩;dsimp only[u2];rintro⟨hi,hL2⟩
 refine jq (jr (js (Ai Z Z) (jn (jx (jq ?_)))))
 refine jif Z (fun hc2=>?_) (fun hc2=>?_)
 have hp9:=hG.pha hb (i:=i) (by omega)
 refine jsk (jx (jq (jb (jq (jr (jm Z (js (jix U57 Z65 (Ah.cP d0) Z Z Z (by omega)) (jA Oi (jlA (dix (Ah.cP d0) i (by omega)) A65 Z65 Z) fun c32=>Bg J65 Z fun g5=>ja Z (jdq (As.c_In d0) fun q8 w8=>?_)))))))))
 refine Az k0 Z65 Z Z Z ⟨Z,w8.one,trivial⟩ (saf Z) (jn (jx (jr (jm Z (js (jf Pf Z) (js (jl k0 O3 Z Z) (Ba (r:=(rI .i64)) (l:=[(ix ((ix f.Blocks k).Phis) i).Dst]) U22 I3 (by decide) Z Z Z (lV Z Z (wI (As.W_Dst d0)) ln) fun g36=>jm Z (jm Z (js (Gg Z Z (by omega)) (jfz k0 (by(try simp)<;>omega) ?_))))))))))
 refine jc JG Z Z (EN (f:=f) _ _ hp9.1 hp9.2.1 (by rw[hL2,hL1];exact hp9.2.2)) (dc d3 (dc d0 dn)) (kc k2 (kc k2 kn)) (fun _=>p0) (fun _=>p2) fun _=>jn (jbn (jx (jr (js (Ac Z Z (by omega)) (jm Z (jn ?_))))))
 exact jag (i+1,Ja ((k:Nat):Int) ((-1)-((i:Nat):Int)) ([(ix ((ix f.Blocks k).Phis) i).Dst]) L2) ⟨by dsimp only;omega,by dsimp only;rw[hL2];rfl⟩ (dc d2 (dc d3 dn)) (kc k3 (kd kn)) ⟨Z,Z,Z,Z,Z,Z,Z,Z,eqI (by omega),trivial⟩
 refine jex (jtx (jtx (jbh (jx (jq (jq (jr (js (jf Hf Z) (js (jl k0 O58 Z Z) (js (jln U58 (Ah.cI d0) Z) (jm Z ?_)))))))))))
 refine jn (jx (jb ?_))
 refine jlp (u2 fun(j:Nat) (L3:List (Int×Value))=>⟨j≤(ix f.Blocks k).Ins.length∧L3=inA k (ix f.Blocks k).Ins L2 j,[da Ah (vBlock (ix f.Blocks k) (c24a,c24b,c24c,c24d)) (ix f.Blocks k),da Ak (vFunc f cf) f],[bx g3 62 [c24a,c24b,.int .i64 (((ix f.Blocks k).Term).Kind),c24c,c24d,.int .i32 (((ix f.Blocks k).Term).Imm)],bx g0 179 [.int .i64 f.Params,cf,.map (some gm)],im gm L3],[(0,.pointer (some ⟨g0,0,none⟩)),(2,.int .i64 (↑k)),(3,.pointer (some ⟨g3,0,none⟩)),(18,cf),(19,.int .i64 (↑(List.length f.Blocks))),(20,.int .i64 (↑k)),(43,c24b),(44,.int .i64 (↑(List.length ((ix f.Blocks k).Ins)))),(45,.int .i64 (↑j))],(ix f.Blocks k).Ins.length-j⟩) (0,L2) ⟨by dsimp only;omega,rfl⟩ (dc d0 (dc d1 dn)) (kd (kc k0 kn)) ⟨Z,Z,Z,Z,Z,Z,Z,Z,eqI (by omega),trivial⟩ ?_
 rintro⟨j,L3⟩;dsimp only[u2];rintro⟨hj,hL3⟩
 refine jq (jr (js (Ai Z Z) (jn (jx (jq ?_)))))
 refine jif Z (fun hc3=>?_) (fun hc3=>?_)
 have hi9:=hG.ina hb (i:=j) (by omega)
 have ho9:=hG.op k hb _ (Ax (l:=(ix f.Blocks k).Ins) (i:=j) (by omega))
 refine jsk (jx (jq (jb (jq (jr (jm Z (js (jix U58 Z67 (Ah.cI d0) Z Z Z (by omega)) (jA Se (jlA (dix (Ah.cI d0) j (by omega)) A67 Z67 Z) fun c49=>Bg J67 Z fun g7=>ja Z (jdq (Ae.c_Args d0) fun q11 w11=>?_)))))))))
 refine Az k0 Z67 Z Z Z ⟨Z,Z,Z,w11.one,Z,trivial⟩ (saf Z) (jn (jx (jq (jr (js (jf Nb Z) (js (jl k0 O3 Z Z) (jcv Rt Z Z (Qf ((ix ((ix f.Blocks k).Ins) j).Op) 1 18) dn kn (jm Z (jm Z (jc Mi Z Z (Lw _ 10 ↑k ↑j (Pj ho9.1)) dn kn (fun _=>p0) (fun _=>p0) fun _=>jn ?_))))))))))
 refine jx (jq (jr (js (jf Nb Z) (js (jl k0 O3 Z Z) (jcv v6 Z Z (QX ((ix ((ix f.Blocks k).Ins) j).Op)) dn kn (jm Z (js (Be Z Z) (js (Be Z Z) (ja Z (ja Z (jn ?_)))))))))))
 refine jx (jq (jr (js (jf Mg Z) (js (jl k0 O22 Z Z) (js (jln U22 (Ae.c_Args d0) Z) (jm Z (jm Z (jcv Rt Z Z (Qf (↑(List.length ((ix ((ix f.Blocks k).Ins) j).Args))) ((Eu ((ix ((ix f.Blocks k).Ins) j).Op)).1) ((Eu ((ix ((ix f.Blocks k).Ins) j).Op)).2)) dn kn (jm Z (jm Z (jc Mi Z Z (Lw _ 10 ↑k ↑j (Pj ho9.2)) dn kn (fun _=>p0) (fun _=>p0) fun _=>?_)))))))))))
 refine jn (jx (jr (jm Z (js (jla k0 A67 Z67 Z Z Z) (jcd u0 Z Z TW (dc d0 dn) kn fun v73 q12 w12=>jm Z (jm Z (jc JG Z Z (EN (f:=f) _ _ hi9.1 hi9.2.1 (by rw[hL3,hL2,hL1,show i=(ix f.Blocks k).Phis.length by omega];exact hi9.2.2)) (dc d3 (dc d0 dn)) (kc k2 (kc k2 kn)) (fun _=>p0) (fun _=>p2) fun _=>jn (jbn (jx ?_)))))))))
 refine jr (js (Ac Z Z (by omega)) (jm Z (jn ?_)))
 exact jag (j+1,Ja ((k:Nat):Int) ((j:Nat):Int) (Aw (ix ((ix f.Blocks k).Ins) j)) L3) ⟨by dsimp only;omega,by dsimp only;rw[hL3];rfl⟩ (dc d2 (dc d3 dn)) (kc k3 (kd kn)) ⟨Z,Z,Z,Z,Z,Z,Z,Z,eqI (by omega),trivial⟩
 refine jex (jtx (jtx (jbh (jx (jq ?_)))))
 refine jjo (fun(gS:Nat)=>⟨0≤gS,[da Ah (vBlock (ix f.Blocks k) (c24a,c24b,c24c,c24d)) (ix f.Blocks k),da Ak (vFunc f cf) f],[bx gS 211 [.int .i64 sh.1,.int .i64 sh.2.1,.int .i64 sh.2.2.1,.int .i64 sh.2.2.2],bx g3 62 [c24a,c24b,.int .i64 (((ix f.Blocks k).Term).Kind),c24c,c24d,.int .i32 (((ix f.Blocks k).Term).Imm)],bx g0 179 [.int .i64 f.Params,cf,.map (some gm)],im gm L3],[(0,.pointer (some ⟨g0,0,none⟩)),(2,.int .i64 (((k:Nat):Int))),(3,.pointer (some ⟨g3,0,none⟩)),(10,.pointer (some ⟨gS,0,none⟩)),(11,.bool true),(18,cf),(19,.int .i64 (((List.length f.Blocks:Nat):Int))),(20,.int .i64 (((k:Nat):Int)))]⟩) ?_ ?_
 refine Cp false (.a 1 (.a 2 (.a 3 (.w 0 8 (.w 4 8 (.a 5 (.a 6 (.a 7 (.o 8 (.o 9 (.a 10 .e)))))) (.o 4 (.a 5 (.a 6 (.a 7 (.o 9 (.a 10 .e))))))) (.o 0 (.o 4 (.a 5 (.a 6 (.a 7 (.o 9 (.a 10 .e))))))))))) Bh (by kernel_rfl) (kc k0 kn) fun F15=>jy Z (jf He Z) (jy Z (jf Qd Z) (jy Z (jl k0 O3 Z Z) ?_))
 refine jyw Z Z ?_ ?_
 refine jc JF Z Z Z0 dn kn (fun _=>p0) (fun _=>p1) fun g79=>jyn d0 (kc k1 kn) ?_
 refine jyw Z Z ?_ ?_
 refine js (Yl Qc U3 Um k0 Z Z (E5 hs1)) (jyn d0 (kc k1 kn) (jy Z (jmv Z) (jy Z (Be Z Z) (jy Z (Be Z Z) (jyo Z (Bg Um Z fun g10=>jyn d0 (kc k2 kn) (jyo Z (Az k0 Q4 Z Z Z ⟨Z,Z,Z,Z,trivial⟩ (saf Z) (jyn d0 (kc k2 kn) (jy Z (jas Z) ?_))))))))))
 refine jyd ?_
 exact jje g10 (Nat.zero_le _) (dc d4 (dc d5 dn)) (kc k0 (kc k1 (kc k1 (kc k1 kn)))) ⟨Z,Z,Z,Z,Z,Z,Z,Z,trivial⟩
 refine Bg Um Z fun g10=>jyn d0 (kc k2 kn) (jyo Z (js (Yl Qc U3 Um k1 Z Z (E5 hs1)) (jyn d0 (kc k2 kn) (jy Z (jmv Z) (jy Z (Be Z Z) (jy Z (Be Z Z) (jyo Z (Az k0 Q4 Z Z Z ⟨Z,Z,Z,Z,trivial⟩ (saf Z) (jyn d0 (kc k2 kn) (jy Z (jas Z) ?_))))))))))
 refine jyd ?_
 exact jje g10 (Nat.zero_le _) (dc d4 (dc d5 dn)) (kc k0 (kc k1 (kc k1 (kc k1 kn)))) ⟨Z,Z,Z,Z,Z,Z,Z,Z,trivial⟩
 refine Bg Um Z fun g10=>jyn d0 (kc k1 kn) (jyo Z (jc JF Z Z Z0 dn kn (fun _=>p0) (fun _=>p1) fun g79=>jyn d0 (kc k2 kn) (jyo Z (js (Yl Qc U3 Um k0 Z Z (E5 hs1)) (jyn d0 (kc k2 kn) (jy Z (jmv Z) (jy Z (Be Z Z) (jy Z (Be Z Z) (jyo Z ?_)))))))))
 refine Az k1 Q4 Z Z Z ⟨Z,Z,Z,Z,trivial⟩ (saf Z) (jyn d0 (kc k2 kn) (jy Z (jas Z) (jyd ?_)))
 exact jje g10 (Nat.zero_le _) (dc d4 (dc d5 dn)) (kc k0 (kc k1 (kc k1 (kc k1 kn)))) ⟨Z,Z,Z,Z,Z,Z,Z,Z,trivial⟩
 rintro gS;dsimp only;rintro hgS
 refine jx (jq (Cp false (.a 0 (.a 1 (.a 2 (.a 3 (.a 4 (.a 5 (.a 6 (.a 7 (.a 8 (.a 9 (.a 23 (.a 24 (.a 25 (.a 26 (.o 10 (.a 11 (.a 12 (.a 13 (.a 14 (.a 15 (.a 16 (.a 17 (.a 18 (.a 19 (.a 20 (.o 21 (.a 22 (.o 27 .e)))))))))))))))))))))))))))) Bh (by kernel_rfl) (kd kn) fun F20=>jy Z (jmv Z) (jy Z (jmv Z) (jyk Z Z Z (.t _) (jf He Z) (jyk Z Z Z (.t _) (jf Le Z) (jyk Z Z Z (.t _) (jl k1 O22 Z Z) (jyk Z Z Z (.t _) (jln U22 (Ah.c_Term_Args d0) Z) (jyk Z Z Z (.t _) (jf n8 Z) (jyk Z Z Z (.t _) (jl k0 O3 Z Z) (jyk Z Z Z (.t _) (jf n7 Z) ?_))))))))))
 refine jyk Z Z Z (.t _) (jl k0 O3 Z Z) (jy Z (jmv Z) (jy Z (jf Hf Z) (jy Z (jl k1 O58 Z Z) (jy Z (jln U58 (Ah.cI d0) Z) (jyo Z (jgk Z Z (.t _) (jcv Rt Z Z (Qf (↑(List.length (((ix f.Blocks k).Term).Args))) sh.1 sh.2.1) dn kn (jyn d0 (kd kn) (jy Z (Cm Z Z) (jy Z (jmv Z) (jyg Z Z Z (.t _) (fun hg=>jf He Z) ?_)))))))))))
 refine jyg Z Z Z (.t _) (fun hg=>jf Ib (evg Z hg)) (jyg Z Z Z (.t _) (fun hg=>jl k1 O22 (evg Z hg) Z) (jyg Z Z Z (.t _) (fun hg=>jln U22 (Ah.c_Term_To d0) (evg Z hg)) (jyg Z Z Z (.t _) (fun hg=>jf n6 Z) (jyg Z Z Z (.t _) (fun hg=>jl k0 O3 (evg Z hg) Z) (jyg Z Z Z (.t _) (fun hg=>jf n5 Z) (jyg Z Z Z (.t _) (fun hg=>jl k0 O3 (evg Z hg) Z) (jyo Z (jgc Z Z (.t _) Rt Z (fun hg=>Ze (evg Z hg) (evg Z hg) (evg Z hg)) (fun hg=>(Qf (↑(List.length (((ix f.Blocks k).Term).To))) sh.2.2.1 sh.2.2.2)) (fun hg=>dn) kn p0 (jyn d0 (kd kn) (jy Z (Cm Z Z) (jyo Z ?_)))))))))))
 refine jc Mi Z Z (Lw _ 10 ↑k (↑(List.length ((ix f.Blocks k).Ins))) (by simp[Pj hs2,Pj hs3])) dn kn (fun _=>p0) (fun _=>p0) fun _=>jyn d0 (kd kn) (jyd (jx (jq (jr (js (jf He Z) (js (jf Ib Z) (js (jl k1 O22 Z Z) (js (jln U22 (Ah.c_Term_To d3) Z) (jm Z (jn ?_))))))))))
 refine jx (jb ?_)
 refine jlp (fun(m:Nat)=>⟨m≤(ix f.Blocks k).Term.To.length,[da Ah (vBlock (ix f.Blocks k) (c24a,c24b,c24c,c24d)) (ix f.Blocks k),da Ak (vFunc f cf) f],[bx g3 62 [c24a,c24b,.int .i64 (((ix f.Blocks k).Term).Kind),c24c,c24d,.int .i32 (((ix f.Blocks k).Term).Imm)],bx g0 179 [.int .i64 f.Params,cf,.map (some gm)],im gm L3],[(0,.pointer (some ⟨g0,0,none⟩)),(2,.int .i64 (↑k)),(3,.pointer (some ⟨g3,0,none⟩)),(18,cf),(19,.int .i64 (↑(List.length f.Blocks))),(20,.int .i64 (↑k)),(116,c24d),(117,.int .i64 (↑(List.length (((ix f.Blocks k).Term).To)))),(118,.int .i64 (↑m))],(ix f.Blocks k).Term.To.length-m⟩) 0 (Nat.zero_le _) (dc d3 (dc d4 dn)) (kc k1 (kc k1 (kc k1 kn))) ⟨Z,Z,Z,Z,Z,Z,Z,Z,eqI (by omega),trivial⟩ ?_
 rintro m;dsimp only;rintro hm
 refine jq (jr (js (Ai Z Z) (jn (jx (jq ?_)))))
 refine jif Z (fun hc4=>?_) (fun hc4=>?_)
 have ht9:=hG.to k hb _ (Ax (l:=(ix f.Blocks k).Term.To) (i:=m) (by omega))
 refine jsk (jx (jq (jb (jq (jr (js (jix U22 Z3 (Ah.c_Term_To d0) Z Z Z (by omega)) (js (jlI (dix (Ah.c_Term_To d0) m (by omega)) O3 Z) (ja Z (jn (jx (Cp false (.a 0 (.a 1 (.a 2 (.a 3 (.a 4 (.a 5 (.a 6 (.a 7 (.a 9 (.a 10 (.a 11 (.a 12 (.o 8 (.o 13 .e)))))))))))))) Bh (by kernel_rfl) (kd kn) fun F24=>?_)))))))))))
 refine jy Z (jmv Z) (jy Z (jmv Z) (jy Z (Ad Z) (jy Z (jf Qe Z) (jy Z (jf Cq Z) (jy Z (jl k1 O47 Z Z) (jy Z (jln U47 (Ak.cB d1) Z) (jy Z (Gg Z Z (by omega)) (jy Z (jmv Z) (jy Z (jf Hf Z) (jy Z (jl k0 O58 Z Z) (jy Z (jln U58 (Ah.cI d0) Z) ?_)))))))))))
 refine jyo Z (jcv Rt Z Z (Qf (ix (((ix f.Blocks k).Term).To) m) 1 _) dn kn (jyn d0 (kd kn) (jyo Z (jc Mi Z Z (Lw _ 14 ↑k (↑(List.length ((ix f.Blocks k).Ins))) (Pj (by omega))) dn kn (fun _=>p0) (fun _=>p0) fun _=>jyn d0 (kd kn) (jyd (jbn (jx (jr (js (Ac Z Z (by omega)) (jm Z ?_))))))))))
 refine jn ?_
 exact jag (m+1) (by dsimp only;omega) (dc d2 (dc d3 dn)) (kd (kc k0 kn)) ⟨Z,Z,Z,Z,Z,Z,Z,Z,eqI (by omega),trivial⟩
 refine jex (jtx (jtx (jbh (jbn (jx (jr (js (Ac Z Z (by omega)) (jm Z (jn ?_)))))))))
 exact jag (k+1,L3) ⟨by dsimp only;omega,by dsimp only;rw[hL3,hL2,hL1,show i=(ix f.Blocks k).Phis.length by omega,show j=(ix f.Blocks k).Ins.length by omega];rfl⟩ (dc d1 dn) (kc k1 (kc k1 kn)) ⟨Z,Z,Z,eqI (by omega),trivial⟩
 refine jex (jtx (jtx (jbh ?_)))
 obtain rfl:L1=bkA f.Blocks f.Blocks.length:=by rw[hL1,show k=f.Blocks.length by omega]
 exact jd0 Z () Z dn (fun _ _=>(kd kn))
end Go.Proofs.YtmfkkodnghambaaGreat
namespace Go.Proofs.YtmfkkodnghambaaGreat
open Go.JE
theorem t9:Ent Tryz.prog 165:=⟨_,Tryz.func165,by kernel_rfl,by kernel_rfl⟩
theorem t8:Ent Tryz.prog 168:=⟨_,Tryz.func168,by kernel_rfl,by kernel_rfl⟩
theorem T0:Ent Tryz.prog 169:=⟨_,Tryz.func169,by kernel_rfl,by kernel_rfl⟩
theorem t7:Ent Tryz.prog 170:=⟨_,Tryz.func170,by kernel_rfl,by kernel_rfl⟩
theorem S4:Fld Tryz.prog 219 0 0:=⟨_,_,Tryz.underlying219,rfl,rfl,1,(by unfold Sz;kernel_rfl),by decide⟩
theorem IT:Fld Tryz.prog 219 1 1:=⟨_,_,Tryz.underlying219,rfl,rfl,1,(by unfold Sz;kernel_rfl),by decide⟩
theorem Ul:One Tryz.prog 176:=⟨_,Tryz.underlying176,rfl⟩
theorem J9{g0 gm:Nat}{cf:Value}{f:D.Func}{L:List (Int×Value)}(v:Int)(b:Int)(p:Int)(a:Int)(t:Int){g5:Nat}{vi:Value}{idom:List Int}{g6:Nat}(hG:GoodF f)(hL0:L=bkA f.Blocks f.Blocks.length)(hD:B7 (Cj f) idom)(hb:0≤b∧b<f.Blocks.length)(hU:US f v b.toNat a):Tr Tryz.prog 169 #[.int .i64 v,.int .i64 b,.int .i64 p,.int .i64 a,.int .i64 t,.pointer (some ⟨g5,0,none⟩),.pointer (some ⟨g6,0,none⟩)] [da Ak (vFunc f cf) f,dv (rL (rI .i64)) vi idom] [bx g0 179 [.int .i64 f.Params,cf,.map (some gm)],im gm L,bx g5 176 [.pointer (some ⟨g0,0,none⟩)],bx g6 22 [vi]] (fun _:Unit => .tuple #[]) (fun _=>[]) (fun _ _=>[bx g0 179 [.int .i64 f.Params,cf,.map (some gm)],im gm (bkA f.Blocks f.Blocks.length),bx g5 176 [.pointer (some ⟨g0,0,none⟩)],bx g6 22 [vi]]):=by
 refine Af (args:=[.int .i64 v,.int .i64 b,.int .i64 p,.int .i64 a,.int .i64 t,.pointer (some ⟨g5,0,none⟩),.pointer (some ⟨g6,0,none⟩)]) Tryz.func169 rfl rfl rfl fun w0 X=>?_
 subst hL0
 refine jq (jq (jr (jm Z (js (Eo Z Z) (jm Z (jg Z Z (.t _) (fun hg=>jmv Z) (jg Z Z (.t _) (fun hg=>jl k2 Ul Z Z) (jg Z Z (.t _) (fun hg=>Ad (evg Z hg)) (jg Z Z (.t _) (fun hg=>jf Qe (evg Z hg)) (jg Z Z (.t _) (fun hg=>jf Nc (evg Z hg)) (jg Z Z (.t _) (fun hg=>jl k0 O3 (evg Z hg) Z) ?_)))))))))))
 refine jg Z Z (.t _) (fun hg=>Ai (evg Z hg) (evg Z hg)) (js (Cm Z Z) (jn (jx ?_)))
 refine jif Z (fun hc1=>?_) (fun hc1=>?_)
 refine jrt (jtr ?_)
 exact jr0 Z () Z dn (fun _ _=>(kd (kd kn)))
 obtain⟨wb,wp,hpos,hor⟩:=hU.resolve_left (fun h9=>by simp[h9.1,h9.2] at hc1)
 have hat:=hG.once.at hpos _ hpos.1
 have hor2:=KS hb hD hpos hor
 refine jsk (jx (jq (jr (js (jl k2 Ul Z Z) (js (Ad Z) (js (jf S5 Z) (js (jl k0 R0 Z Z) (jm Z (js (Yl Q6 U3 Zs k1 Z Z hat) (jm Z (js (Be Z Z) ?_)))))))))))
 refine js (Be Z Z) (Bg Zs Z fun g12=>Az k0 IF Z Z Z ⟨Z,Z,trivial⟩ (saf Z) (ja Z (jn (jx (jq (jr (jm Z (jm Z (jk Z Z (.t _) (jf S4 Z) (jk Z Z (.t _) (jl k0 O3 Z Z) ?_))))))))))
 refine jk Z Z (.t _) (jmv Z) (jk Z Z (.t _) (Aj Z Z) (jk Z Z (.t _) (jmv Z) (jg Z Z (.t _) (fun hg=>jf IT Z) (jg Z Z (.t _) (fun hg=>jl k0 O3 (evg Z hg) Z) (jg Z Z (.t _) (fun hg=>jmv Z) (jg Z Z (.t _) (fun hg=>Ai (evg Z hg) (evg Z hg)) (jg Z Z (.t _) (fun hg=>jmv (evg Z hg)) (jg Z Z (.gf _ _) (fun hg=>jf IT Z) (jg Z Z (.gf _ _) (fun hg=>jl k0 O3 (evg Z hg) Z) (jg Z Z (.gf _ _) (fun hg=>Ai (evg Z hg) Z) (jg Z Z (.t _) (fun hg=>Vq hg Z Z) ?_)))))))))))
 refine jk Z Z (.t _) (Cm Z Z) (jk Z Z (.t _) (jmv Z) (jg Z Z (.f _) (fun hg=>jf S4 Z) (jg Z Z (.f _) (fun hg=>jl k0 O3 (evg Z hg) Z) (jg Z Z (.f _) (fun hg=>jmv Z) (jg Z Z (.f _) (fun hg=>Gz (evg Z hg) (evg Z hg)) (jg Z Z (.f _) (fun hg=>jmv (evg Z hg)) (jg Z Z (.gt _ _) (fun hg=>jl k4 O22 Z Z) (jg Z Z (.gt _ _) (fun hg=>jf S4 Z) (jg Z Z (.gt _ _) (fun hg=>jl k0 O3 (evg Z hg) Z) (jg Z Z (.gt _ _) (fun hg=>jmv Z) (jdq d1 fun q1 w1=>?_)))))))))))
 refine jgc Z Z (.gt _ _) t7 Z (fun hg=>Ze (evg Z hg) (evg Z hg) (evg Z hg)) (fun hg=>(ZB ↑wb b)) (fun hg=>(dc d1 dn)) kn p0 (jg Z Z (.f _) (fun hg=>Tj hg Z Z) (jk Z Z (.t _) (jor Z Z) (js (Cm Z Z) (ja Z (jn (jx (jr (jm Z (jm Z (jm Z (jc Mi Z Z (Lw _ 13 t p (by rcases hor2 with⟨h1,h2⟩|⟨h1,h2⟩<;>simp[h1,h2])) dn kn (fun _=>p0) (fun _=>p0) fun _=>?_)))))))))))
 refine jn ?_
 exact jd0 Z () Z dn (fun _ _=>(kc k1 (kc k1 (kc k1 (kc k1 kn)))))
theorem TY{a0:Value}{l:List Int}(v:Int):Tv Tryz.prog 176 #[a0,.int .i64 v] [dv (rL (rI .i64)) a0 l] [] (.int .i64 (Yy l v)):=by
 refine Af (args:=[a0,.int .i64 v]) Tryz.func176 rfl rfl rfl fun w0 X=>?_
 refine jq (jr (ja Z (jn (jx (jq (jq (jr (jm Z (jdq d0 fun q1 w1=>js (jln U22 d0 Z) (jm Z ?_))))))))))
 refine jn (jx (jb ?_))
 refine jlp (fun(k:Nat)=>⟨k≤l.length∧Yy l v=Nx l v (l.length-k) k,[dv (rL (rI .i64)) a0 l],[],[(0,a0),(1,.int .i64 v),(7,.int .i64 (↑l.length)),(8,.int .i64 (↑k))],l.length-k⟩) 0 ⟨Nat.zero_le _,rfl⟩ (dc d0 dn) kn ⟨Z,Z,Z,eqI (by omega),trivial⟩ ?_
 rintro k;dsimp only;rintro⟨hk,hix⟩
 refine jq (jr (js (Ai Z Z) (jn (jx (jq ?_)))))
 refine jif Z (fun hc1=>?_) (fun hc1=>?_)
 refine jsk (jx (jq (jb (jq (jr (jm Z (ja Z (jn (jx (jq (jr ?_)))))))))))
 refine jm Z (jm Z (jm Z (js (jix U22 Z3 d0 Z Z Z (by omega)) (js (jlI (dix d0 k (by omega)) O3 Z) (js (Aj Z Z) (jn (jx ?_)))))))
 refine jif Z (fun hc2=>?_) (fun hc2=>?_)
 refine jq (jr (jm Z (ja Z (jn (jx (jrt (jbr (jtr (jtr (jbr (jtr ?_)))))))))))
 exact jrI Z Z (by first|(rw[hix];exact FJ (by omega) hc2)|(rw[hix,show l.length-k=0 by omega];rfl))
 refine jsk (jbn (jx (jr (js (Ac Z Z (by omega)) (jm Z (jn ?_))))))
 exact jag (k+1) ⟨by omega,by rw[hix];exact WQ (by omega) hc2⟩ (dc d0 dn) kn ⟨Z,Z,Z,eqI (by omega),trivial⟩
 refine jex (jtx (jtx (jbh (jx (jq (jr (ja Z (jn (jx (jrt ?_))))))))))
 exact jrI Z Z (by first|(rw[hix];exact FJ (by omega) hc2)|(rw[hix,show l.length-k=0 by omega];rfl))
theorem UA{a0:Value}{l:List Int}(v:Int):Tv Tryz.prog 138 #[a0,.int .i64 v] [dv (rL (rI .i64)) a0 l] [] (.bool (Zh l v)):=by
 refine Af (args:=[a0,.int .i64 v]) Tryz.func138 rfl rfl rfl fun w0 X=>?_
 refine jq (jr (ja Z (jn (jx (jq (jr (jm Z (jm Z (jdq d0 fun q1 w1=>jcv JB Z Z (TY v) (dc d0 dn) kn (js (Eo Z Z) ?_))))))))))
 refine ja Z (jn (jx (jrt ?_)))
 exact jrB Z Z (by unfold Zh;rfl)
theorem TQ{g0 gm:Nat}{cf:Value}{f:D.Func}{L:List (Int×Value)}(hG:GoodF f)(hL0:L=bkA f.Blocks f.Blocks.length):Tr Tryz.prog 116 #[.pointer (some ⟨g0,0,none⟩)] [da Ak (vFunc f cf) f] [bx g0 179 [.int .i64 f.Params,cf,.map (some gm)],im gm L] (fun _:Unit => .tuple #[]) (fun _=>[]) (fun _ _=>[bx g0 179 [.int .i64 f.Params,cf,.map (some gm)],im gm (bkA f.Blocks f.Blocks.length)]):=by
 refine Af (args:=[.pointer (some ⟨g0,0,none⟩)]) Tryz.func116 rfl rfl rfl fun w0 X=>?_
 subst hL0
 have hn:=hG.gn
 have hw:=hG.gw
 have hgl:=Ox f
 have hpl:=BA (Cj f)
 refine jq (jr (Bj Z Z fun g1=>jn (jx (jq (jr (js (jl k0 Ul Z Z) (js (Ad Z) (js (jf Qe Z) (js (jla k1 A49 Z49 Z Z Z) (jcd t9 Z Z WY (dc d0 dn) kn fun v27 q1 w1=>?_))))))))))
 refine ja Z (jn (jx (jq (jr (jm Z (jc JD Z Z (CX hn hw) (dc d0 dn) kn (fun _=>p2) (fun _=>p0) fun c29=>jpu d1 fun hod=>ja Z (jn (jx (jq ?_)))))))))
 refine jq (jr (js (jl k0 Ul Z Z) (js (Ad Z) (js (jf Qe Z) (js (jf Cq Z) (js (jl k1 O47 Z Z) (jdq (Ak.cB d3) fun q5 w5=>js (jln U47 (Ak.cB d3) Z) (jm Z (jn (jx ?_))))))))))
 refine jb ?_
 refine jlp (fun(k:Nat)=>⟨k≤f.Blocks.length,[dv (rL (rI .i64)) c29.1 c29.2,dv (rL (rL (rI .i64))) v27 (Cj f),da Ak (vFunc f cf) f],[bx g1 176 [.pointer (some ⟨g0,0,none⟩)],bx g0 179 [.int .i64 f.Params,cf,.map (some gm)],im gm (bkA f.Blocks f.Blocks.length)],[(1,.pointer (some ⟨g1,0,none⟩)),(2,v27),(3,c29.1),(35,.int .i64 (↑(List.length f.Blocks))),(36,.int .i64 (↑k))],f.Blocks.length-k⟩) 0 (Nat.zero_le _) (dc d0 (dc d2 (dc d3 dn))) (kd (kc k0 kn)) ⟨Z,Z,Z,Z,eqI (by omega),trivial⟩ ?_
 rintro k;dsimp only;rintro hk
 refine jq (jr (js (Ai Z Z) (jn (jx (jq ?_)))))
 refine jif Z (fun hc1=>?_) (fun hc1=>?_)
 have hcn:=ZD ((hod.all (k:Int)).2 ⟨by omega,by omega⟩)
 refine jsk (jx (jq (jb (jq (jr (jm Z (ja Z (jn (jx (jr (jm Z ?_)))))))))))
 refine jm Z (jdq d0 fun q6 w6=>jcv JH Z Z (UA ↑k) (dc d0 dn) kn (jm Z (jc Mi Z Z (Lw _ 15 ↑k 0 hcn) dn kn (fun _=>p0) (fun _=>p0) fun _=>jn (jbn (jx (jr (js (Ac Z Z (by omega)) (jm Z (jn ?_)))))))))
 exact jag (k+1) (by dsimp only;omega) (dc d0 (dc d1 (dc d2 dn))) (kd (kc k0 kn)) ⟨Z,Z,Z,Z,eqI (by omega),trivial⟩
 refine jex (jtx (jtx (jbh (jx (jq (jr (jm Z (jcd JC Z Z (BB hn.2) (dc d1 dn) kn fun v46 q7 w7=>jm Z (jc t8 Z Z (WR hn hw) (dc d2 dn) kn (fun _=>p2) (fun _=>p0) fun c48=>jpu d1 fun hdg=>?_)))))))))
 refine Bg J22 Z fun g6=>ja Z (jdq d0 fun q11 w11=>jst k0 Z22 Z Z w11.one s0 (jn (jx (jq (jr (js (Kc Z Z) (ja Z (jn (jx ?_)))))))))
 refine jq (jr (js (jl k1 Ul Z Z) (js (Ad Z) (js (jf Qe Z) (js (jf Cq Z) (js (jl k2 O47 Z Z) (js (jln U47 (Ak.cB d5) Z) (jm Z (jn (jx (jb ?_)))))))))))
 refine jlp (fun(k:Nat)=>⟨k≤f.Blocks.length,[dv (rL (rI .i64)) c48.1 c48.2,dv (rL (rL (rI .i64))) v46 (Ee (Cj f)),da Ak (vFunc f cf) f],[bx g6 22 [c48.1],bx g1 176 [.pointer (some ⟨g0,0,none⟩)],bx g0 179 [.int .i64 f.Params,cf,.map (some gm)],im gm (bkA f.Blocks f.Blocks.length)],[(1,.pointer (some ⟨g1,0,none⟩)),(5,v46),(7,.func (.func 169) #[] #[.pointer (some ⟨g1,0,none⟩),.pointer (some ⟨g6,0,none⟩)]),(54,cf),(55,.int .i64 (↑(List.length f.Blocks))),(56,.int .i64 (↑k))],f.Blocks.length-k⟩) 0 (Nat.zero_le _) (dc d0 (dc d2 (dc d5 dn))) (kd (kd kn)) ⟨Z,Z,Z,Z,Z,eqI (by omega),trivial⟩ ?_
 rintro k;dsimp only;rintro hk
 refine jq (jr (js (Ai Z Z) (jn (jx (jq ?_)))))
 refine jif Z (fun hc2=>?_) (fun hc2=>?_)
 have hb:k<f.Blocks.length:=by omega
 refine jsk (jx (jq (jb (jq (jr (jm Z (js (jix U47 Z62 (Ak.cB d2) Z Z Z (by omega)) (jA4 Sf (jlA (dix (Ak.cB d2) k (by omega)) A62 Z62 Z) fun c60a c60b c60c c60d=>Bg J62 Z fun g9=>ja Z (jdq (Ah.cP d0) fun q13 w13=>?_)))))))))
 refine jdq (Ah.cI d0) fun q14 w14=>jdq (Ah.c_Term_Args d0) fun q15 w15=>jdq (Ah.c_Term_To d0) fun q16 w16=>Az k0 Z62 Z Z Z ⟨w13.one,w14.one,Z,w15.one,w16.one,Z,trivial⟩ (saf Z) (jn (jx (jq (jq (jr (js (jf Iv Z) (js (jl k0 O57 Z Z) (js (jln U57 (Ah.cP d0) Z) ?_))))))))
 refine jm Z (jn (jx (jb ?_)))
 refine jlp (fun(i:Nat)=>⟨i≤(ix f.Blocks k).Phis.length,[da Ah (vBlock (ix f.Blocks k) (c60a,c60b,c60c,c60d)) (ix f.Blocks k),dv (rL (rI .i64)) c48.1 c48.2,dv (rL (rL (rI .i64))) v46 (Ee (Cj f)),da Ak (vFunc f cf) f],[bx g9 62 [c60a,c60b,.int .i64 (((ix f.Blocks k).Term).Kind),c60c,c60d,.int .i32 (((ix f.Blocks k).Term).Imm)],bx g6 22 [c48.1],bx g1 176 [.pointer (some ⟨g0,0,none⟩)],bx g0 179 [.int .i64 f.Params,cf,.map (some gm)],im gm (bkA f.Blocks f.Blocks.length)],[(1,.pointer (some ⟨g1,0,none⟩)),(5,v46),(7,.func (.func 169) #[] #[.pointer (some ⟨g1,0,none⟩),.pointer (some ⟨g6,0,none⟩)]),(8,.int .i64 (↑k)),(9,.pointer (some ⟨g9,0,none⟩)),(54,cf),(55,.int .i64 (↑(List.length f.Blocks))),(56,.int .i64 (↑k)),(62,c60a),(63,.int .i64 (↑(List.length ((ix f.Blocks k).Phis)))),(64,.int .i64 (↑i))],(ix f.Blocks k).Phis.length-i⟩) 0 (Nat.zero_le _) (dc d0 (dc d1 (dc d2 (dc d3 dn)))) (kd (kd (kc k0 kn))) ⟨Z,Z,Z,Z,Z,Z,Z,Z,Z,Z,eqI (by omega),trivial⟩ ?_
 rintro i;dsimp only;rintro hi
 refine jq (jr (js (Ai Z Z) (jn (jx (jq ?_)))))
 refine jif Z (fun hc3=>?_) (fun hc3=>?_)
 have hi9:=hG.in1 hb (i:=i) (by omega)
 refine jsk (jx (jq (jb (jq (jr (jm Z (js (jix U57 Z65 (Ah.cP d0) Z Z Z (by omega)) (jA Oi (jlA (dix (Ah.cP d0) i (by omega)) A65 Z65 Z) fun c68=>Bg J65 Z fun g11=>ja Z (jdq (As.c_In d0) fun q18 w18=>?_)))))))))
 refine Az k0 Z65 Z Z Z ⟨Z,w18.one,trivial⟩ (saf Z) (jn (jx (jq (Jj Bh (by kernel_rfl) (jt (jmv Z) (jt (Fi Z Z) (jt (jmv Z) (jtg Z Z (.t _) (fun hg=>jf Ld Z) (jtg Z Z (.t _) (fun hg=>jl k0 O63 (evg Z hg) Z) (jtg Z Z (.t _) (fun hg=>jln U63 (As.c_In d0) (evg Z hg)) (jtg Z Z (.t _) (fun hg=>jmv Z) ?_)))))))))))
 refine jtg Z Z (.t _) (fun hg=>jmv Z) (jtg Z Z (.t _) (fun hg=>jix Dd Z22 d3 (evg Z hg) (evg Z hg) Z (by first|omega|(simp at hg;omega)|(simp only[List.length_set];omega)|(simp;done))) (EP (q:=fun v=>dv (rL (rI .i64)) v (ix (Ee (Cj f)) k)) Z Z (.t _) (fun hg=>jlV (dix d3 k (by first|omega|(simp at hg;omega)|(simp only[List.length_set];omega)|(simp;done))) O22 Z (evg Z hg)) fun v78=>jtg Z Z (.t _) (fun hg=>jln U22 (d0.on hg) (evg Z hg)) (jtg Z Z (.t _) (fun hg=>Aj (evg Z hg) (evg Z hg)) (jt (Cm Z Z) (jt (jas Z) (jdn (jx (jq (jq (jr ?_))))))))))
 refine js (jf Ld Z) (js (jl k0 O63 Z Z) (js (jln U63 (As.c_In d1) Z) (jm Z (jn (jx (jb ?_))))))
 refine jlp (u2 fun(j:Nat) (ft:Bool)=>⟨j≤(ix (ix f.Blocks k).Phis i).In.length∧ft=true,[da As (vPhi (ix ((ix f.Blocks k).Phis) i) c68) (ix ((ix f.Blocks k).Phis) i),da Ah (vBlock (ix f.Blocks k) (c60a,c60b,c60c,c60d)) (ix f.Blocks k),dv (rL (rI .i64)) c48.1 c48.2,dv (rL (rL (rI .i64))) v46 (Ee (Cj f)),da Ak (vFunc f cf) f],[bx g11 65 [.int .i64 ((ix ((ix f.Blocks k).Phis) i).Dst),c68],bx g9 62 [c60a,c60b,.int .i64 (((ix f.Blocks k).Term).Kind),c60c,c60d,.int .i32 (((ix f.Blocks k).Term).Imm)],bx g6 22 [c48.1],bx g1 176 [.pointer (some ⟨g0,0,none⟩)],bx g0 179 [.int .i64 f.Params,cf,.map (some gm)],im gm (bkA f.Blocks f.Blocks.length)],[(1,.pointer (some ⟨g1,0,none⟩)),(5,v46),(7,.func (.func 169) #[] #[.pointer (some ⟨g1,0,none⟩),.pointer (some ⟨g6,0,none⟩)]),(8,.int .i64 (↑k)),(9,.pointer (some ⟨g9,0,none⟩)),(10,.int .i64 (↑i)),(11,.pointer (some ⟨g11,0,none⟩)),(12,.bool ft),(54,cf),(55,.int .i64 (↑(List.length f.Blocks))),(56,.int .i64 (↑k)),(62,c60a),(63,.int .i64 (↑(List.length ((ix f.Blocks k).Phis)))),(64,.int .i64 (↑i)),(83,c68),(84,.int .i64 (↑(List.length ((ix ((ix f.Blocks k).Phis) i).In)))),(85,.int .i64 (↑j))],(ix (ix f.Blocks k).Phis i).In.length-j⟩) (0,(decide (0<((k:Nat):Int)))&&(decide (((List.length ((ix ((ix f.Blocks k).Phis) i).In):Nat):Int)=((List.length (ix (Ee (Cj f)) k):Nat):Int)))) ⟨Nat.zero_le _,by simp[hi9]⟩ (dc d1 (dc d2 (dc d3 (dc d4 (dc d5 dn))))) (kd (kd (kd kn))) ⟨Z,Z,Z,Z,Z,Z,Z,Z,Z,Z,Z,Z,Z,Z,Z,Z,eqI (by omega),trivial⟩ ?_
 rintro⟨j,ft⟩;dsimp only[u2];rintro⟨hj,hft⟩
 refine jq (jr (js (Ai Z Z) (jn (jx (jq ?_)))))
 refine jif Z (fun hc4=>?_) (fun hc4=>?_)
 have hj9:=hG.in2 hb (i:=i) (j:=j) (by omega) (by omega)
 refine jsk (jx (jq (jb (jq (jr (jm Z (js (jix U63 Jr (As.c_In d0) Z Z Z (by omega)) (jA sIn (jlA (dix (As.c_In d0) j (by omega)) Ws Jr Z) fun _=>Bg R7 Z fun g14=>ja Z (Az k0 Jr Z Z Z ⟨Z,Z,trivial⟩ (saf Z) ?_)))))))))
 refine jn (jx (Jj Bh (by kernel_rfl) (jt (jmv Z) (jt (jmv Z) (jtg Z Z (.t _) (fun hg=>jf Ur Z) (jtg Z Z (.t _) (fun hg=>jl k0 O3 (evg Z hg) Z) (jtg Z Z (.t _) (fun hg=>jmv Z) (jtg Z Z (.t _) (fun hg=>jmv Z) (jtg Z Z (.t _) (fun hg=>jix Dd Z22 d4 (evg Z hg) (evg Z hg) Z (by first|omega|(simp at hg;omega)|(simp only[List.length_set];omega)|(simp;done))) (EP (q:=fun v=>dv (rL (rI .i64)) v (ix (Ee (Cj f)) k)) Z Z (.t _) (fun hg=>jlV (dix d4 k (by first|omega|(simp at hg;omega)|(simp only[List.length_set];omega)|(simp;done))) O22 Z (evg Z hg)) fun v97=>jtg Z Z (.t _) (fun hg=>jmv Z) ?_))))))))))
 refine jtg Z Z (.t _) (fun hg=>jix U22 Z3 (d0.on hg) (evg Z hg) (evg Z hg) Z (by first|omega|(simp at hg;omega)|(simp only[List.length_set];omega)|(simp;done))) (jtg Z Z (.t _) (fun hg=>jlI (dix (d0.on hg) j (by first|omega|(simp at hg;omega)|(simp only[List.length_set];omega)|(simp;done))) O3 (evg Z hg)) (jtg Z Z (.t _) (fun hg=>Aj (evg Z hg) (evg Z hg)) (jt (Cm Z Z) (jt (jas Z) (jdn (jbn (jx (jr (js (Ac Z Z (by omega)) (jm Z (jn ?_)))))))))))
 exact jag (j+1,ft&&(decide ((ix ((ix ((ix f.Blocks k).Phis) i).In) j).From=ix (ix (Ee (Cj f)) k) j))) ⟨by dsimp only;omega,by simp[hft,hj9]⟩ (dc d2 (dc d3 (dc d4 (dc d5 (dc d6 dn))))) (kc k1 (kc k1 (kc k1 (kc k1 (kc k1 (kc k1 kn)))))) ⟨Z,Z,Z,Z,Z,Z,Z,Z,Z,Z,Z,Z,Z,Z,Z,Z,eqI (by omega),trivial⟩
 refine jex (jtx (jtx (jbh (jx (jq (jr (jm Z (jm Z (jm Z (js (Gg Z Z (by omega)) (jc Mi Z Z (Lw _ 16 ↑k _ hft) dn kn (fun _=>p0) (fun _=>p0) fun _=>?_)))))))))))
 refine jn (jx (jq (jr (js (jf Ld Z) (js (jl k0 O63 Z Z) (js (jln U63 (As.c_In d0) Z) (jm Z (jn (jx (jb ?_))))))))))
 refine jlp (fun(j:Nat)=>⟨j≤(ix (ix f.Blocks k).Phis i).In.length,[da As (vPhi (ix ((ix f.Blocks k).Phis) i) c68) (ix ((ix f.Blocks k).Phis) i),da Ah (vBlock (ix f.Blocks k) (c60a,c60b,c60c,c60d)) (ix f.Blocks k),dv (rL (rI .i64)) c48.1 c48.2,dv (rL (rL (rI .i64))) v46 (Ee (Cj f)),da Ak (vFunc f cf) f],[bx g9 62 [c60a,c60b,.int .i64 (((ix f.Blocks k).Term).Kind),c60c,c60d,.int .i32 (((ix f.Blocks k).Term).Imm)],bx g6 22 [c48.1],bx g1 176 [.pointer (some ⟨g0,0,none⟩)],bx g0 179 [.int .i64 f.Params,cf,.map (some gm)],im gm (bkA f.Blocks f.Blocks.length)],[(1,.pointer (some ⟨g1,0,none⟩)),(5,v46),(7,.func (.func 169) #[] #[.pointer (some ⟨g1,0,none⟩),.pointer (some ⟨g6,0,none⟩)]),(8,.int .i64 (↑k)),(9,.pointer (some ⟨g9,0,none⟩)),(10,.int .i64 (↑i)),(54,cf),(55,.int .i64 (↑(List.length f.Blocks))),(56,.int .i64 (↑k)),(62,c60a),(63,.int .i64 (↑(List.length ((ix f.Blocks k).Phis)))),(64,.int .i64 (↑i)),(110,c68),(111,.int .i64 (↑(List.length ((ix ((ix f.Blocks k).Phis) i).In)))),(112,.int .i64 (↑j))],(ix (ix f.Blocks k).Phis i).In.length-j⟩) 0 (Nat.zero_le _) (dc d0 (dc d1 (dc d2 (dc d3 (dc d4 dn))))) (kc k1 (kc k1 (kc k1 (kc k1 (kc k1 kn))))) ⟨Z,Z,Z,Z,Z,Z,Z,Z,Z,Z,Z,Z,Z,Z,eqI (by omega),trivial⟩ ?_
 rintro j;dsimp only;rintro hj
 refine jq (jr (js (Ai Z Z) (jn (jx (jq ?_)))))
 refine jif Z (fun hc5=>?_) (fun hc5=>?_)
 have hj9:=hG.in2 hb (i:=i) (j:=j) (by omega) (by omega)
 have hu9:=hG.up k hb _ (Ax (l:=(ix f.Blocks k).Phis) (i:=i) (by omega)) _ (Ax (i:=j) (by omega))
 refine jsk (jx (jq (jb (jq (jr (js (jix U63 Jr (As.c_In d0) Z Z Z (by omega)) (jA sIn (jlA (dix (As.c_In d0) j (by omega)) Ws Jr Z) fun _=>Bg R7 Z fun g16=>Az k0 Jr Z Z Z ⟨Z,Z,trivial⟩ (saf Z) (jn (jx ?_)))))))))
 refine Cp false (.a 0 (.a 1 (.a 2 (.a 3 (.a 4 (.a 5 (.a 6 (.a 7 (.a 8 (.a 9 (.a 10 (.a 11 (.a 12 (.a 13 (.a 14 (.a 15 (.a 16 (.a 17 (.a 18 (.o 19 .e)))))))))))))))))))) Bh (by kernel_rfl) (kc k0 (kc k2 (kc k2 kn))) fun F23=>jy Z (jmv Z) (jy Z (jf Wl Z) (jy Z (jl k0 O3 Z Z) (jy Z (jf Ur Z) (jy Z (jl k0 O3 Z Z) (jy Z (jmv Z) (jy Z (Gg Z Z (by omega)) (jy Z (jl k1 Ul Z Z) (jy Z (Ad Z) (jy Z (jf Qe Z) (jy Z (jf Cq Z) ?_))))))))))
 refine jy Z (jl k2 O47 Z Z) (jy Z (jf Ur Z) (jy Z (jl k0 O3 Z Z) (jy Z (jix (i:=(Int.toNat ((ix ((ix ((ix f.Blocks k).Phis) i).In) j).From))) U47 Z62 (Ak.cB d5) Z Z (by omega) (by omega)) (jy Z (jf Hf Z) (jye (q:=fun v=>dv (rL Ae) v ((ix f.Blocks (Int.toNat ((ix ((ix ((ix f.Blocks k).Phis) i).In) j).From))).Ins)) Z (xlV (Ah.A_Ins (dix (Ak.cB d5) (Int.toNat ((ix ((ix ((ix f.Blocks k).Phis) i).In) j).From)) (by omega))) O58 Z Z) fun v132=>adq d0 fun q25 w25=>jy Z (jln U58 d0 Z) (jy Z (jmv Z) (jyo Z (jc T0 Z Z (J9 (f:=f) _ _ _ _ _ hG rfl hdg hj9.2 hu9) (dc d7 (dc d5 dn)) (kc k4 (kc k4 (kc k3 (kc k2 kn)))) (fun _=>p0) (fun _=>p4) fun _=>jyn d0 (kc k4 (kc k2 (kc k0 kn))) ?_))))))))
 refine jyd (jbn (jx (jr (js (Ac Z Z (by omega)) (jm Z (jn ?_))))))
 exact jag (j+1) (by dsimp only;omega) (dc d3 (dc d4 (dc d5 (dc d6 (dc d7 dn))))) (kc k5 (kc k3 (kc k2 (kd kn)))) ⟨Z,Z,Z,Z,Z,Z,Z,Z,Z,Z,Z,Z,Z,Z,eqI (by omega),trivial⟩
 refine jex (jtx (jtx (jbh (jbn (jx (jr (js (Ac Z Z (by omega)) (jm Z (jn ?_)))))))))
 exact jag (i+1) (by dsimp only;omega) (dc d1 (dc d2 (dc d3 (dc d4 dn)))) (kd (kd (kc k0 kn))) ⟨Z,Z,Z,Z,Z,Z,Z,Z,Z,Z,eqI (by omega),trivial⟩
 refine jex (jtx (jtx (jbh (jx (jq (jq (jr (js (jf Hf Z) (js (jl k0 O58 Z Z) (js (jln U58 (Ah.cI d0) Z) (jm Z ?_)))))))))))
 refine jn (jx (jb ?_))
 refine jlp (fun(i:Nat)=>⟨i≤(ix f.Blocks k).Ins.length,[da Ah (vBlock (ix f.Blocks k) (c60a,c60b,c60c,c60d)) (ix f.Blocks k),dv (rL (rI .i64)) c48.1 c48.2,dv (rL (rL (rI .i64))) v46 (Ee (Cj f)),da Ak (vFunc f cf) f],[bx g9 62 [c60a,c60b,.int .i64 (((ix f.Blocks k).Term).Kind),c60c,c60d,.int .i32 (((ix f.Blocks k).Term).Imm)],bx g6 22 [c48.1],bx g1 176 [.pointer (some ⟨g0,0,none⟩)],bx g0 179 [.int .i64 f.Params,cf,.map (some gm)],im gm (bkA f.Blocks f.Blocks.length)],[(1,.pointer (some ⟨g1,0,none⟩)),(5,v46),(7,.func (.func 169) #[] #[.pointer (some ⟨g1,0,none⟩),.pointer (some ⟨g6,0,none⟩)]),(8,.int .i64 (↑k)),(9,.pointer (some ⟨g9,0,none⟩)),(54,cf),(55,.int .i64 (↑(List.length f.Blocks))),(56,.int .i64 (↑k)),(139,c60b),(140,.int .i64 (↑(List.length ((ix f.Blocks k).Ins)))),(141,.int .i64 (↑i))],(ix f.Blocks k).Ins.length-i⟩) 0 (Nat.zero_le _) (dc d0 (dc d1 (dc d2 (dc d3 dn)))) (kd (kd (kc k0 kn))) ⟨Z,Z,Z,Z,Z,Z,Z,Z,Z,Z,eqI (by omega),trivial⟩ ?_
 rintro i;dsimp only;rintro hi
 refine jq (jr (js (Ai Z Z) (jn (jx (jq ?_)))))
 refine jif Z (fun hc6=>?_) (fun hc6=>?_)
 refine jsk (jx (jq (jb (jq (jr (jm Z (js (jix U58 Z67 (Ah.cI d0) Z Z Z (by omega)) (jA Se (jlA (dix (Ah.cI d0) i (by omega)) A67 Z67 Z) fun c145=>Bg J67 Z fun g18=>ja Z (jdq (Ae.c_Args d0) fun q28 w28=>?_)))))))))
 refine Az k0 Z67 Z Z Z ⟨Z,Z,Z,w28.one,Z,trivial⟩ (saf Z) (jn (jx (jq (jr (js (jf Mg Z) (js (jl k0 O22 Z Z) (js (jln U22 (Ae.c_Args d0) Z) (jm Z (jn (jx (jb ?_)))))))))))
 refine jlp (fun(j:Nat)=>⟨j≤(ix (ix f.Blocks k).Ins i).Args.length,[da Ae (vIns (ix ((ix f.Blocks k).Ins) i) c145) (ix ((ix f.Blocks k).Ins) i),da Ah (vBlock (ix f.Blocks k) (c60a,c60b,c60c,c60d)) (ix f.Blocks k),dv (rL (rI .i64)) c48.1 c48.2,dv (rL (rL (rI .i64))) v46 (Ee (Cj f)),da Ak (vFunc f cf) f],[bx g9 62 [c60a,c60b,.int .i64 (((ix f.Blocks k).Term).Kind),c60c,c60d,.int .i32 (((ix f.Blocks k).Term).Imm)],bx g6 22 [c48.1],bx g1 176 [.pointer (some ⟨g0,0,none⟩)],bx g0 179 [.int .i64 f.Params,cf,.map (some gm)],im gm (bkA f.Blocks f.Blocks.length)],[(1,.pointer (some ⟨g1,0,none⟩)),(5,v46),(7,.func (.func 169) #[] #[.pointer (some ⟨g1,0,none⟩),.pointer (some ⟨g6,0,none⟩)]),(8,.int .i64 (↑k)),(9,.pointer (some ⟨g9,0,none⟩)),(17,.int .i64 (↑i)),(54,cf),(55,.int .i64 (↑(List.length f.Blocks))),(56,.int .i64 (↑k)),(139,c60b),(140,.int .i64 (↑(List.length ((ix f.Blocks k).Ins)))),(141,.int .i64 (↑i)),(147,c145),(148,.int .i64 (↑(List.length ((ix ((ix f.Blocks k).Ins) i).Args)))),(149,.int .i64 (↑j))],(ix (ix f.Blocks k).Ins i).Args.length-j⟩) 0 (Nat.zero_le _) (dc d0 (dc d1 (dc d2 (dc d3 (dc d4 dn))))) (kc k1 (kc k1 (kc k1 (kc k1 (kc k1 kn))))) ⟨Z,Z,Z,Z,Z,Z,Z,Z,Z,Z,Z,Z,Z,Z,eqI (by omega),trivial⟩ ?_
 rintro j;dsimp only;rintro hj
 refine jq (jr (js (Ai Z Z) (jn (jx (jq ?_)))))
 refine jif Z (fun hc7=>?_) (fun hc7=>?_)
 have hu9:=hG.ui k hb i (by omega) _ (Ax (l:=(ix (ix f.Blocks k).Ins i).Args) (i:=j) (by omega))
 refine jsk (jx (jq (jb (jq (jr (js (jix U22 Z3 (Ae.c_Args d0) Z Z Z (by omega)) (js (jlI (dix (Ae.c_Args d0) j (by omega)) O3 Z) (ja Z (jn (jx (jr ?_)))))))))))
 refine jm Z (jm Z (jm Z (jm Z (jm Z (jm Z (jc T0 Z Z (J9 (f:=f) _ _ _ _ _ hG rfl hdg ⟨by omega,by omega⟩ hu9) (dc d4 (dc d2 dn)) (kc k3 (kc k3 (kc k2 (kc k1 kn)))) (fun _=>p0) (fun _=>p4) fun _=>jn (jbn (jx (jr (js (Ac Z Z (by omega)) ?_))))))))))
 refine jm Z (jn ?_)
 exact jag (j+1) (by dsimp only;omega) (dc d0 (dc d1 (dc d2 (dc d3 (dc d4 dn))))) (kc k4 (kc k3 (kc k2 (kd kn)))) ⟨Z,Z,Z,Z,Z,Z,Z,Z,Z,Z,Z,Z,Z,Z,eqI (by omega),trivial⟩
 refine jex (jtx (jtx (jbh (jbn (jx (jr (js (Ac Z Z (by omega)) (jm Z (jn ?_)))))))))
 exact jag (i+1) (by dsimp only;omega) (dc d1 (dc d2 (dc d3 (dc d4 dn)))) (kd (kd (kc k0 kn))) ⟨Z,Z,Z,Z,Z,Z,Z,Z,Z,Z,eqI (by omega),trivial⟩
 refine jex (jtx (jtx (jbh (jx (jq (jr (js (jf He Z) (js (jf Le Z) (js (jl k0 O22 Z Z) (js (jln U22 (Ah.c_Term_Args d0) Z) (jm Z ?_)))))))))))
 refine jn (jx (jb ?_))
 refine jlp (fun(j:Nat)=>⟨j≤(ix f.Blocks k).Term.Args.length,[da Ah (vBlock (ix f.Blocks k) (c60a,c60b,c60c,c60d)) (ix f.Blocks k),dv (rL (rI .i64)) c48.1 c48.2,dv (rL (rL (rI .i64))) v46 (Ee (Cj f)),da Ak (vFunc f cf) f],[bx g9 62 [c60a,c60b,.int .i64 (((ix f.Blocks k).Term).Kind),c60c,c60d,.int .i32 (((ix f.Blocks k).Term).Imm)],bx g6 22 [c48.1],bx g1 176 [.pointer (some ⟨g0,0,none⟩)],bx g0 179 [.int .i64 f.Params,cf,.map (some gm)],im gm (bkA f.Blocks f.Blocks.length)],[(1,.pointer (some ⟨g1,0,none⟩)),(5,v46),(7,.func (.func 169) #[] #[.pointer (some ⟨g1,0,none⟩),.pointer (some ⟨g6,0,none⟩)]),(8,.int .i64 (↑k)),(9,.pointer (some ⟨g9,0,none⟩)),(54,cf),(55,.int .i64 (↑(List.length f.Blocks))),(56,.int .i64 (↑k)),(164,c60c),(165,.int .i64 (↑(List.length (((ix f.Blocks k).Term).Args)))),(166,.int .i64 (↑j))],(ix f.Blocks k).Term.Args.length-j⟩) 0 (Nat.zero_le _) (dc d0 (dc d1 (dc d2 (dc d3 dn)))) (kd (kd (kc k0 kn))) ⟨Z,Z,Z,Z,Z,Z,Z,Z,Z,Z,eqI (by omega),trivial⟩ ?_
 rintro j;dsimp only;rintro hj
 refine jq (jr (js (Ai Z Z) (jn (jx (jq ?_)))))
 refine jif Z (fun hc8=>?_) (fun hc8=>?_)
 have hu9:=hG.ut k hb _ (Ax (l:=(ix f.Blocks k).Term.Args) (i:=j) (by omega))
 refine jsk (jx (jq (jb (jq (jr (js (jix U22 Z3 (Ah.c_Term_Args d0) Z Z Z (by omega)) (js (jlI (dix (Ah.c_Term_Args d0) j (by omega)) O3 Z) (ja Z (jn (jx (jr ?_)))))))))))
 refine jm Z (jm Z (jm Z (js (jf Hf Z) (js (jl k0 O58 Z Z) (js (jln U58 (Ah.cI d0) Z) (js (jf Hf Z) (js (jl k0 O58 Z Z) (js (jln U58 (Ah.cI d0) Z) (jm Z (jc T0 Z Z (J9 (f:=f) _ _ _ _ _ hG rfl hdg ⟨by omega,by omega⟩ hu9) (dc d3 (dc d1 dn)) (kc k3 (kc k3 (kc k2 (kc k1 kn)))) (fun _=>p0) (fun _=>p4) fun _=>jn ?_))))))))))
 refine jbn (jx (jr (js (Ac Z Z (by omega)) (jm Z (jn ?_)))))
 exact jag (j+1) (by dsimp only;omega) (dc d0 (dc d1 (dc d2 (dc d3 dn)))) (kc k4 (kc k3 (kc k2 (kd kn)))) ⟨Z,Z,Z,Z,Z,Z,Z,Z,Z,Z,eqI (by omega),trivial⟩
 refine jex (jtx (jtx (jbh (jbn (jx (jr (js (Ac Z Z (by omega)) (jm Z (jn ?_)))))))))
 exact jag (k+1) (by dsimp only;omega) (dc d1 (dc d2 (dc d3 dn))) (kc k1 (kc k1 (kc k1 (kc k1 kn)))) ⟨Z,Z,Z,Z,Z,eqI (by omega),trivial⟩
 refine jex (jtx (jtx (jbh ?_)))
 exact jd0 Z () Z dn (fun _ _=>(kc k2 (kc k2 kn)))
end Go.Proofs.YtmfkkodnghambaaGreat
namespace Go.JE
variable{P:Program}{n:Fs}{w0:World}{Q:Exit→Act→World→Prop}{e:Env}{H:Heap}
theorem NR{ρ:Operand→Value}{x:Operand}{t:TypeId}{f:FuncId}{lb:Array Value}(h:ρ x = .func (.func f) #[] lb)(w:World):(resolve ρ { callee := .value x,args:=#[],argTypes:=#[] } t).run P w = .ok { target := .fn (.func f) lb,args:=#[] } w:=by
 simp[resolve,h,Deferred.ofValue]
theorem LF.dfr{ops:Array Oper}{x:Operand}{ty:TypeId}{pos:String}{af:Array Edge}{rest:List Oper}{f:FuncId}{lb:Array Value}(hx:ev e x=some (.func (.func f) #[] lb))
  (K:LF P ⟨n.sz,{ target := .fn (.func f) lb,args:=#[] }::n.ds⟩ w0 ops Q e rest H):LF P n w0 ops Q e (⟨none,.defer { callee := .value x,args:=#[],argTypes:=#[] },ty,pos,af,none⟩::rest) H:=by
 intro a w hf hw
 refine wpList_plain rfl fun K' hK'=>?_
 unfold Oper.wp
 have hr:(execOp a.eval ⟨none,.defer { callee := .value x,args:=#[],argTypes:=#[] },ty,pos,af,none⟩).run P w = .ok (.defer { target := .fn (.func f) lb,args:=#[] }) w:=by
  simp[execOp,NR (hf.ev hx)]
 rw[hr]
 exact hK' _ _ (K _ _ ⟨hf.size,by show _::a.defers=_;rw[hf.defers],hf.get⟩ hw)
theorem VX{f:FuncId}{lb:Array Value}(hE:Ent P f)(w:World):(invoke (.fn (.func f) lb) #[]).run P w = .ok (.enter f lb) w:=by
 simp only[invoke]
 rw[show(#[]++lb:Array Value)=lb by simp]
 exact hE.run lb w
theorem Aa.eqlIf{T T':TypeId}{x:Operand}(hT:P.underlying T=some (.interface #[]))(hx:ev e x=some .nilIface):Aa P e (.binOp .eql T x (.const .nilIface) T') H (.bool true):=by
 intro ρ o w ho hev _
 have h1:∀d,(Op.equalIn (d+1) T .nilIface .nilIface).run P w = .ok true w:=fun d=>by
  simp only[Op.equalIn,Sem.run_bind,run_underlying hT,Result.andThen_ok];rfl
 have h2:(Op.equal T .nilIface .nilIface).run P w = .ok true w:=h1 9999
 have h3:∀d,(Op.eqGuardIn (d+1) T .nilIface .nilIface).run P w = .ok false w:=fun d=>by
  simp only[Op.eqGuardIn,Sem.run_bind,run_underlying hT,Result.andThen_ok];rfl
 have hy:ρ (.const .nilIface) = .nilIface:=hev _ _ rfl
 simp only[execOp,ho,hev _ _ hx,hy,eqGuard,binOp]
 simp[h2,h3]
theorem ZS{f:FuncId}{fn:Func}{args:List Value}{id d m:Nat}{ty:TypeId}{pos:String}{af:Array Edge}{c:Code}{R:Value→Heap→Prop}{w:World}(hf:P.funcs[f]? = some fn)
  (hb:fn.body=some (.seq (.region id #[⟨some d,.call { callee := .builtin .recover,args:=#[],argTypes:=#[] },ty,pos,af,none⟩] false) c)) (hn:fn.ntmps=m) (ha:Nat.ble args.length m=true) (hd:Nat.blt d m=true)
  (h:CF P ⟨m,[]⟩ w (BQ P fn w R) ((d,.nilIface)::Kv 0 args) c w.heap) :
  CallsD P f args.toArray .returning w fun x u' w'=>u' = .returning∧∃v,x = .returned v∧w'.os=w.os∧w'.tape=w.tape∧w'.output=w.output∧R v w'.heap:=by
 refine callsD_of_wpS hf hb fun c₀ cs hu=>wpS_seq (wpS_region ?_)
 have hl:List.range (#[(⟨some d,.call { callee := .builtin .recover,args:=#[],argTypes:=#[] },ty,pos,af,none⟩:Oper)]).size=[0]:=rfl
 rw[hl]
 have ha':args.length≤m:=by simpa[Nat.ble_eq] using ha
 have hfr:Fr ⟨m,[]⟩ (Kv 0 args) { tmps:=args.toArray++Array.replicate (fn.ntmps-args.toArray.size) undef,defers:=[] }:=by
  refine⟨by simp[hn];omega,rfl,fun t v hv=>?_⟩
  obtain⟨i,h1,h2⟩:=Tc args 0 t v hv
  have hi:i<args.length:=(List.getElem?_eq_some_iff.1 h2).1
  have e1:t=i:=by omega
  subst e1
  simp only[Array.getD_eq_getD_getElem?]
  rw[Array.getElem?_append_left (by simpa using hi)]
  simp[h2]
 have hrun:∀ρ,(execOp ρ (⟨some d,.call { callee := .builtin .recover,args:=#[],argTypes:=#[] },ty,pos,af,none⟩:Oper)).run P w = .ok .recover w:=fun ρ=>by
  simp[execOp,resolve,invoke,builtin]
 have hrec:recoverD (c₀::cs)=none:=by simp[recoverD,hu]
 simp only[wpOpsS,List.getElem?_toArray,List.getElem?_cons_zero,Region.wanted,if_true,hrun,hrec]
 have h2:=h _ _ (hfr.put hd .nilIface) ⟨rfl,rfl,rfl,rfl⟩
 refine wpS_of_wp (Code.wp_mono ?_ h2)
 intro x a' w' hq
 cases x with
 | normal=>obtain⟨h1,v,h3,h4⟩:=hq;exact⟨h1,.returning,by rw[←hu],v,h3,rfl,v,rfl,by obtain⟨_,e,h5⟩:=h4;injection e with e;subst e;exact h5⟩
 | ret=>obtain⟨h1,v,h3,h4⟩:=hq;exact⟨h1,.returning,by rw[←hu],v,h3,rfl,v,rfl,by obtain⟨_,e,h5⟩:=h4;injection e with e;subst e;exact h5⟩
 | panic ch=>obtain⟨_,_,e,_⟩:=hq;cases e
 | exit i=>exact hq
 | goto l=>exact hq
 | outgrown=>obtain⟨_,e,_⟩:=hq;cases e
def BQD(P:Program)(fn:Func)(w0:World)(R:Value→Heap→Prop):Exit→Act→World→Prop :=
 bodyPostD P fn fun x w'=>∃v,x = .returned v∧w'.os=w0.os∧w'.tape=w0.tape∧w'.output=w0.output∧R v w'.heap
theorem Ct.enterD{f:FuncId}{fn:Func}{c:Code}{args:List Value}{m:Nat}{R:Value→Heap→Prop}(hf:P.funcs[f]? = some fn)(hb:fn.body=some c)(hn:fn.ntmps=m)(ha:Nat.ble args.length m=true)
  (h:∀w0:World,w0.heap=H→CF P ⟨m,[]⟩ w0 (BQD P fn w0 R) (Kv 0 args) c H):Ct P f args.toArray H R:=by
 intro w hw
 refine calls_of_wp_defers hf hb ?_
 have ha':args.length≤m:=by simpa[Nat.ble_eq] using ha
 refine h w hw _ w ⟨by simp[hn];omega,rfl,fun t v hv=>?_⟩ ⟨hw,rfl,rfl,rfl⟩
 obtain⟨i,h1,h2⟩:=Tc args 0 t v hv
 have hi:i<args.length:=(List.getElem?_eq_some_iff.1 h2).1
 have e1:t=i:=by omega
 subst e1
 simp only[Array.getD_eq_getD_getElem?]
 rw[Array.getElem?_append_left (by simpa using hi)]
 simp[h2]
theorem NQ{fn:Func}{p q r g g' g'':Nat}{ty ty' ty'':TypeId}{v v' v'':Value}(h:fn.results=#[.cell p ty,.cell q ty',.cell r ty''])(tmps:Array Value)(w:World)(hp:tmps.getD p undef = .pointer (some ⟨g,0,none⟩))(hO:One P ty)(hc:w.cell? ⟨g,0,none⟩=some v)
  (hp':tmps.getD q undef = .pointer (some ⟨g',0,none⟩)) (hO':One P ty') (hc':w.cell? ⟨g',0,none⟩=some v') (hp'':tmps.getD r undef = .pointer (some ⟨g'',0,none⟩)) (hO'':One P ty'') (hc'':w.cell? ⟨g'',0,none⟩=some v'') :
  (results fn tmps).run P w = .ok (.tuple #[v,v',v'']) w:=by
 have h1:tmps[p]?.getD undef = .pointer (some ⟨g,0,none⟩):=by simpa using hp
 have h2:tmps[q]?.getD undef = .pointer (some ⟨g',0,none⟩):=by simpa using hp'
 have h3:tmps[r]?.getD undef = .pointer (some ⟨g'',0,none⟩):=by simpa using hp''
 simp[results,h,h1,h2,h3,asAddr,loadVar,hO.run,hO'.run,hO''.run,hc,hc',hc'']
theorem PF.retD{fn:Func}{m f:Nat}{lb:Array Value}{R:Value→Heap→Prop}{v:Value}(hE:Ent P f)(hc:∀w:World,w.heap=H→CallsD P f lb .returning w fun x u' w'=>u' = .returning∧∃v',x = .returned v'∧w'.os=w.os∧w'.tape=w.tape∧w'.output=w.output∧w'.heap=H)
  (hr:∀(a:Act) (w:World),Fr ⟨m,[{ target := .fn (.func f) lb,args:=#[] }]⟩ e a→w.heap=H→(results fn a.tmps).run P w = .ok v w) (hR:R v H):PF ⟨m,[{ target := .fn (.func f) lb,args:=#[] }]⟩ w0 (BQD P fn w0 R) e .ret H:=by
 intro a w hf hw
 show Leaves P fn a.tmps _ a.defers .returning w
 rw[hf.defers]
 refine leaves_cons (by simp) (VX hE w) ((hc w hw.heap).mono ?_)
 rintro x u' w' ⟨rfl,v',rfl,h1,h2,h3,h4⟩
 exact⟨v,hr a w' hf h4,v,rfl,h1.trans hw.os,h2.trans hw.tape,h3.trans hw.output,h4▸hR⟩
section
variable{f:FuncId}{fn:Func}{c:Code}{args:List Value}{D D0:List Dt}{L L0 M:List Res}{X:Cx}{ι:Type}{val:ι→Value}{dr:ι→List Dt}{lr:Nat→ι→List Res}
def RQD(P:Program)(fn:Func)(w0:World)(X:Cx){ι:Type}(val:ι→Value)(dr:ι→List Dt)(lr:Nat→ι→List Res):Exit→Act→World→Prop:=BQD P fn w0 (fun v H'=>∃i F',v=val i∧∀B,B≤X.n→Hp X (dr i) (lr B i) F' H')
theorem UX{m:Nat}(hf:P.funcs[f]? = some fn)(hb:fn.body=some c)(hn:fn.ntmps=m)(ha:Nat.ble args.length m=true)
  (h:∀(w0:World) (X:Cx),CH P ⟨m,[]⟩ w0 (RQD P fn w0 X val dr lr) X D0 L0 (Kv 0 args) c):Tr P f args.toArray D0 L0 val dr lr:=fun F H hin hd ho =>
 Ct.enterD hf hb hn ha fun w0 hw=>h w0 ⟨Own L0,H,F⟩ F H ⟨PH.ext.refl F,hin,Kw.refl _ _,hd,ho,fun k hk => .inr hk⟩
theorem jdf{ops:Array Oper}{x:Operand}{ty:TypeId}{pos:String}{af:Array Edge}{rest:List Oper}{f:FuncId}{lb:Array Value}(hx:ev e x=some (.func (.func f) #[] lb))
 (K:LH P ⟨n.sz,{ target := .fn (.func f) lb,args:=#[] }::n.ds⟩ w0 ops Q X D L e rest):LH P n w0 ops Q X D L e (⟨none,.defer { callee := .value x,args:=#[],argTypes:=#[] },ty,pos,af,none⟩::rest):=fun F H hp=>LF.dfr hx (K F H hp)
theorem UF{m f':Nat}{lb:Array Value}{p q r g g' g'':Nat}{ty ty' ty'' T T' T'':TypeId}{v v' v'':Value}{N N' N'':List Res}(hr:fn.results=#[.cell p ty,.cell q ty',.cell r ty''])(hv:lk e p=some (.pointer (some ⟨g,0,none⟩)))(hv':lk e q=some (.pointer (some ⟨g',0,none⟩)))(hv'':lk e r=some (.pointer (some ⟨g'',0,none⟩)))
  (hb:Tk L (bx g T [v]) N) (hO:One P ty) (hb':Tk L (bx g' T' [v']) N') (hO':One P ty') (hb'':Tk L (bx g'' T'' [v'']) N'') (hO'':One P ty'') (hE:Ent P f')
  (hc:∀w:World,CallsD P f' lb .returning w fun x u' w'=>u' = .returning∧∃v',x = .returned v'∧w'.os=w.os∧w'.tape=w.tape∧w'.output=w.output∧w'.heap=w.heap)
  (i:ι) (hm : .tuple #[v,v',v'']=val i) (hd:Sd D L (dr i)) (hk:∀B,B≤X.n→Tks L (lr B i) M):QH ⟨m,[{ target := .fn (.func f') lb,args:=#[] }]⟩ w0 (RQD P fn w0 X val dr lr) X D L e .ret:=fun F H hp =>
 PF.retD hE (fun w hw=>by have h:=hc w;rw[hw] at h;exact h) (fun a w hf hw=>NQ hr _ w (hf.get p _ hv) hO (by rw[Jo,hw];exact(hp.at hb).1.hc rfl) (hf.get q _ hv') hO' (by rw[Jo,hw];exact(hp.at hb').1.hc rfl) (hf.get r _ hv'') hO'' (by rw[Jo,hw];exact(hp.at hb'').1.hc rfl)) ⟨i,F,hm,fun B hB=>hp.sub hd (hk B hB)⟩
end
end Go.JE
namespace Go.Proofs.YtmfkkodnghambaaGreat
open Go.JE
abbrev U20:=@Tryz.underlying20
theorem Aa5:Ent Tryz.prog 112:=⟨_,Tryz.func112,by kernel_rfl,by kernel_rfl⟩
theorem Aa4:Ent Tryz.prog 115:=⟨_,Tryz.func115,by kernel_rfl,by kernel_rfl⟩
theorem Aa3:Ent Tryz.prog 116:=⟨_,Tryz.func116,by kernel_rfl,by kernel_rfl⟩
theorem E59:Ent Tryz.prog 59:=⟨_,Tryz.func59,by kernel_rfl,by kernel_rfl⟩
theorem O89:One Tryz.prog 89:=⟨_,Tryz.underlying89,rfl⟩
theorem Z89:Sz Tryz.prog 89 1:=by unfold Sz;kernel_rfl
theorem J3:(Tryz.prog.info? 3).bind (·.zero)=some (.int .i64 0):=by kernel_rfl
theorem J89:(Tryz.prog.info? 89).bind (·.zero)=some (.int .i64 0):=by kernel_rfl
theorem NS(g2 g3 g4:Nat)(w:World):CallsD Tryz.prog 112 #[.pointer (some ⟨g2,0,none⟩),.pointer (some ⟨g3,0,none⟩),.pointer (some ⟨g4,0,none⟩)] .returning w fun x u' w'=>u' = .returning∧∃v',x = .returned v'∧w'.os=w.os∧w'.tape=w.tape∧w'.output=w.output∧w'.heap=w.heap:=by
 refine(ZS (args:=[.pointer (some ⟨g2,0,none⟩),.pointer (some ⟨g3,0,none⟩),.pointer (some ⟨g4,0,none⟩)]) (R:=fun _ H'=>H'=w.heap) Tryz.func112 rfl rfl rfl rfl ?_)
 exact CF.block (CF.seq (CF.region (LF.step (Aa.eqlIf U20 rfl) (LF.nil (PF.next (CF.cond rfl (fun _=>CF.region (LF.step (Aa.assign rfl) (LF.nil (PF.blockNormal (PF.end0 rfl rfl))))) (fun h=>by cases h)))))))
theorem TZ{a0:Value}{f:D.Func}(hG:GoodF f):Tv Tryz.prog 59 #[vFunc f a0] [da Ak (vFunc f a0) f] [] (.tuple #[.int .i64 0,.int .i64 0,.int .i64 0]):=by
 refine UX (args:=[vFunc f a0]) Tryz.func59 rfl rfl rfl fun w0 X=>?_
 have hln:=hG.len
 have hpr:=hG.par
 refine jq (jr (Bj Z Z fun g1=>Bg J89 Z fun g2=>Bg J3 Z fun g3=>Bg J3 Z fun g4=>jn (jx (jq (jr (js (UM Z Z Z) (jdf Z ?_)))))))
 refine jn (jx (jq (jr (js (jf Nc Z) (js (jl k3 O3 Z Z) (jcv Rt Z Z (Qf f.Params 0 4) dn kn (jc Mi Z Z (Lw _ 1 0 0 (Pj hpr)) dn kn (fun _=>p0) (fun _=>p0) fun _=>jn (jx (jq (jr ?_))))))))))
 refine js (jf Cq Z) (js (jl k3 O47 Z Z) (jdq (Ak.cB d0) fun q1 w1=>js (jln U47 (Ak.cB d0) Z) (js (Fi Z Z) (jc Mi Z Z (Lw _ 14 0 0 (by simp;omega)) dn kn (fun _=>p0) (fun _=>p0) fun _=>jn (jx (jq (jr (js (jf Cq Z) (js (jl k3 O47 Z Z) ?_)))))))))
 refine js (jln U47 (Ak.cB d0) Z) (ja Z (jn (jx (jq (jq (jr (js (jf Cq Z) (js (jl k3 O47 Z Z) (js (jln U47 (Ak.cB d0) Z) (jm Z (jn ?_)))))))))))
 refine jx (jb ?_)
 refine jlp (u2 fun(k:Nat) (s:Int)=>⟨k≤f.Blocks.length∧s=((f.Blocks.length+Jc (f.Blocks.take k):Nat):Int),[da Ak (vFunc f a0) f],[bx g4 3 [.int .i64 0],bx g3 3 [.int .i64 0],bx g2 89 [.int .i64 0],bx g1 49 [.int .i64 f.Params,a0]],[(1,.pointer (some ⟨g1,0,none⟩)),(2,.pointer (some ⟨g2,0,none⟩)),(3,.pointer (some ⟨g3,0,none⟩)),(4,.pointer (some ⟨g4,0,none⟩)),(5,.int .i64 s),(23,a0),(24,.int .i64 (↑(List.length f.Blocks))),(25,.int .i64 (↑k))],f.Blocks.length-k⟩) (0,(f.Blocks.length:Int)) ⟨by dsimp only;omega,by dsimp only;simp[Jc]⟩ (dc d0 dn) (kd (kd kn)) ⟨Z,Z,Z,Z,eqI (by omega),Z,Z,eqI (by omega),trivial⟩ ?_
 rintro⟨k,s⟩;dsimp only[u2];rintro⟨hk,hs⟩
 have hs9:=HA f.Blocks k
 have hcn:=hG.cnt
 refine jq (jr (js (Ai Z Z) (jn (jx (jq ?_)))))
 refine jif Z (fun hc1=>?_) (fun hc1=>?_)
 have hb9:=GZ (bs:=f.Blocks) (k:=k) (by omega)
 have hb8:=HA f.Blocks (k+1)
 refine jsk (jx (jq (jb (jq (jr (js (jix U47 Z62 (Ak.cB d0) Z Z Z (by omega)) (jA4 Sf (jlA (dix (Ak.cB d0) k (by omega)) A62 Z62 Z) fun c28a c28b c28c c28d=>Bg J62 Z fun g7=>jdq (Ah.cP d0) fun q3 w3=>jdq (Ah.cI d0) fun q4 w4=>jdq (Ah.c_Term_Args d0) fun q5 w5=>?_)))))))
 refine jdq (Ah.c_Term_To d0) fun q6 w6=>Az k0 Z62 Z Z Z ⟨w3.one,w4.one,Z,w5.one,w6.one,Z,trivial⟩ (saf Z) (jn (jx (jr (jm Z (js (jf Iv Z) (js (jl k0 O57 Z Z) (js (jln U57 (Ah.cP d0) Z) (js (jf Hf Z) (js (jl k0 O58 Z Z) (js (jln U58 (Ah.cI d0) Z) ?_))))))))))
 refine js (Ac Z Z (by omega)) (js (Ac Z Z (by omega)) (ja Z (jn (jbn (jx (jr (js (Ac Z Z (by omega)) (jm Z (jn ?_)))))))))
 exact jag (k+1,s+((((List.length ((ix f.Blocks k).Phis):Nat):Int))+(((List.length ((ix f.Blocks k).Ins):Nat):Int)))) ⟨by dsimp only;omega,by dsimp only;rw[hs,GZ (by omega)];omega⟩ (dc d1 dn) (kc k1 (kc k1 (kc k1 (kc k1 kn)))) ⟨Z,Z,Z,Z,eqI (by omega),Z,Z,eqI (by omega),trivial⟩
 have hsn:s=((f.Blocks.length+Jc f.Blocks:Nat):Int):=by rw[hs,List.take_of_length_le (by omega)]
 refine jex (jtx (jtx (jbh (jx (jq (jr (js (jf Cq Z) (js (jl k3 O47 Z Z) (js (jln U47 (Ak.cB d0) Z) (js (Nv Z Z) (jm Z ?_)))))))))))
 refine jg Z Z (.t _) (fun hg=>jmv Z) (jg Z Z (.t _) (fun hg=>Nv (evg Z hg) Z) (js (Cm Z Z) (jc Mi Z Z (Lw _ 2 0 0 (by simp;omega)) dn kn (fun _=>p0) (fun _=>p0) fun _=>jn (jx (jq (jr (js (jla k3 A49 Z49 Z Z Z) (jmm fun g49=>js (jbu (v := .agg #[.int .i64 f.Params,a0,.map (some g49)]) Z (fun _=>by obtain⟨_,_,_,rfl⟩:=w1;kernel_rfl)) (Bj Z Z fun g51=>?_)))))))))
 refine ja Z (jn (jx (jq (jr (jm Z (jc Aa4 Z Z (TS (f:=f) hG rfl) (dc d0 dn) (kd kn) (fun _=>p0) (fun _=>p2) fun _=>jn (jx (jq (jr (jm Z ?_))))))))))
 refine jc Aa3 Z Z (TQ (f:=f) hG rfl) (dc d0 dn) (kd kn) (fun _=>p0) (fun _=>p2) fun _=>jn (jx (jq (jr (jst k4 Z89 Z Z Z s0 (jst k4 Z3 Z Z Z s0 (jst k4 Z3 Z Z Z s0 (jn (jx (jrt ?_)))))))))
 exact UF Z Z Z Z k2 O89 k1 O3 k0 O3 Aa5 (NS g2 g3 g4) () Z dn (fun _ _=>kn)
theorem TT{a0:Value}{f:D.Func}(hG:GoodF f):Tv Tryz.prog 26 #[vFunc f a0] [da Ak (vFunc f a0) f] [] (.bool true):=by
 refine Af (args:=[vFunc f a0]) Tryz.func26 rfl rfl rfl fun w0 X=>?_
 refine jq (jr (Bj Z Z fun g1=>ja Z (jn (jx (jq (jr (js (jla k0 A49 Z49 Z Z Z) (jcv E59 Z Z (TZ hG) (dc d0 dn) kn (jm Z (js (Be Z Z) ?_))))))))))
 refine js (Be Z Z) (js (Be Z Z) (ja Z (ja Z (ja Z (jn (jx (jq (jr (jm Z (js (Aj Z Z) (ja Z ?_)))))))))))
 refine jn (jx (jrt ?_))
 exact jrB Z Z (by simp)
end Go.Proofs.YtmfkkodnghambaaGreat
namespace Go.JE
variable{P:Program}{D D0:List Dt}{L M Ls L0:List Res}{e:Env}{X:Cx}{n:Fs}{w0:World}{Q:Exit→Act→World→Prop}
def VmR(l:List (Int×Value))(V:Int→Int):Prop:=∀k,(lkM l k).getD (.int .i32 0) = .int .i32 (V k)
def vm(g:Nat)(V:Int→Int):Res where
 sat F H:=((∃l,Im H g l∧VmR l V)∧∀k,IntKind.i32.wrap (V k)=V k)∧F g=none
 own k:=k=g
 lt:=fun⟨⟨⟨l,h,_⟩,_⟩,_⟩ e=>e▸h.lt
 no:=fun h e=>e▸h.2
 st:=fun _ _ h1 h2 ⟨⟨⟨l,h,h3⟩,h4⟩,_⟩=>⟨⟨⟨l,h.of (h2 g rfl),h3⟩,h4⟩,h1 g rfl⟩
def vme(g:Nat)(V:Int→Int)(k:Int)(st:Nat):Res where
 sat F H:=((∃l,ImS H g l k st∧VmR l V)∧∀k,IntKind.i32.wrap (V k)=V k)∧F g=none
 own k:=k=g
 lt:=fun⟨⟨⟨l,h,_⟩,_⟩,_⟩ e=>e▸h.im.lt
 no:=fun h e=>e▸h.2
 st:=fun _ _ h1 h2 ⟨⟨⟨l,h,h3⟩,h4⟩,_⟩=>⟨⟨⟨l,h.of (h2 g rfl),h3⟩,h4⟩,h1 g rfl⟩
def Bf(V:Int→Int)(k v:Int):Int→Int:=fun j=>if j=k then v else V j
theorem VmR.up{l:List (Int×Value)}{V:Int→Int}(h:VmR l V)(k v:Int):VmR (upM l k (.int .i32 v)) (Bf V k v):=fun j=>by
 rw[U6];unfold Bf
 split
 ·rfl
 ·exact h j
theorem VmR.ins{l:List (Int×Value)}{V:Int→Int}(h:VmR l V)(k:Int):VmR (Vu l k (.int .i32 0)) V:=fun j=>by
 have hj:=h j
 unfold Vu
 split
 ·exact hj
 ·rename_i hk
  have e:lkM (l++[(k,Value.int .i32 0)]) j=(lkM l j).or (lkM [(k,Value.int .i32 0)] j):=by
   unfold lkM;rw[List.find?_append];cases List.find? (fun p=>p.1==j) l<;>rfl
  rw[e]
  cases h1:lkM l j with
  | some u=>rw[h1] at hj;exact hj
  | none =>
   rw[h1] at hj
   rw[←hj]
   unfold lkM
   simp only[List.find?_cons,List.find?_nil]
   cases k==j<;>rfl
theorem setV_wr{V:Int→Int}(h:∀k,IntKind.i32.wrap (V k)=V k){k v:Int}(hv:IntKind.i32.wrap v=v):∀j,IntKind.i32.wrap (Bf V k v j)=Bf V k v j:=fun j=>by
 unfold Bf;split
 ·exact hv
 ·exact h j
def Tz(nx:List (Int×Int)):List (Int×Value):=nx.map (fun p=>(p.1,.int .i32 p.2))
def nm(g:Nat)(nx:List (Int×Int)):Res:=im g (Tz nx)
def upW:List (Int×Int)→Int→Int→List (Int×Int)
 | [],k,v=>[(k,v)]
 | p::r,k,v=>if p.1==k then (k,v)::r else p::upW r k v
theorem GJ:∀(nx:List (Int×Int)) (k v:Int),upM (Tz nx) k (.int .i32 v)=Tz (upW nx k v)
 | [],k,v=>rfl
 | p::r,k,v=>by
  show upM ((p.1,.int .i32 p.2)::Tz r) k (.int .i32 v)=Tz (if p.1==k then (k,v)::r else p::upW r k v)
  unfold upM
  split
  ·rfl
  ·rw[GJ r k v];rfl
def mit(r g:Nat)(nx:List (Int×Int))(vis:List Int):Res where
 sat F H:=(It H r g (Tz nx) vis∧r≠g)∧F r=none∧F g=none
 own k:=k=r∨k=g
 lt:=fun⟨⟨h,_⟩,_⟩ e=>by
  rcases e with e|e
  ·obtain⟨es,c,seen,_,_,h3,_⟩:=h
   rw[e];exact(Array.getElem?_eq_some_iff.1 h3).1
  ·rw[e];exact h.im.lt
 no:=fun h e=>by rcases e with e|e<;>rw[e];exact h.2.1;exact h.2.2
 st:=fun _ _ h1 h2 ⟨⟨h,h3⟩,_⟩=>⟨⟨h.of (h2 r (.inl rfl)) (h2 g (.inr rfl)),h3⟩,h1 r (.inl rfl),h1 g (.inr rfl)⟩
section
variable{ops:Array Oper}{op:Op}{d:Nat}{ty:TypeId}{pos:String}{af:Array Edge}{rest:List Oper}{T T' K E:TypeId}{x y z:Operand}{g r st:Nat}{V:Int→Int}{k v:Int}{nx:List (Int×Int)}{vis:List Int}{u:Value}
theorem jvn(kk:∀g,LH P n w0 ops Q X D (vm g (fun _=>0)::L) ((d,.map (some g))::e) rest)(hd:Nat.blt d n.sz=true:=by rfl):LH P n w0 ops Q X D L e (⟨some d,.makeMap T none,ty,pos,af,none⟩::rest):=fun F H hp =>
 LF.chg Ao.makeMapB (by rintro _ H' ⟨g,rfl,eg,sg,kg,hb⟩;exact kk g F H' (hp.new (R:=vm g (fun _=>0)) kg ⟨⟨⟨[],hb,fun _=>rfl⟩,fun _=>by show IntKind.i32.wrap 0=0;decide⟩,hp.hin.nope (Nat.le_of_eq eg.symm)⟩ (fun k hk=>by have:k=g:=hk;omega))) hd
theorem jvk(hT:P.underlying T=some (.map K E))(hK:P.underlying K=some (.int .i64))(hz:(P.info? E).bind (·.zero)=some (.int .i32 0))(hm:Tk L (vm g V) M)(hx:ev e x=some (.map (some g)))(hi:ev e z=some (.int .i64 k)):OH P D L e (.lookup T x z false) (.int .i32 (V k)):=fun F H h1 h2 h=>by
 obtain⟨⟨⟨l,h3,h4⟩,_⟩,_⟩:=(hm.ok h).1
 rw[←h4 k];exact Aa.lookup hT hK hz h3 hx hi
theorem Tw.kwv{H H':Heap}(h:Tw g H H'):Kw (vm g V).own H H':=⟨Nat.le_of_eq h.1.symm,fun k _ h2=>h.2 k h2⟩
theorem jvu(hT:P.underlying T=some (.map K E))(hK:P.underlying K=some (.int .i64))(hm:Tk L (vm g V) M)(hx:ev e x=some (.map (some g)))(hi:ev e z=some (.int .i64 k))(hy:ev e y=some (.int .i32 v))(hw:Wr D L .i32 v)
  (kk:LH P n w0 ops Q X D (vm g (Bf V k v)::M) e rest):LH P n w0 ops Q X D L e (⟨none,.mapUpdate T x z y,ty,pos,af,none⟩::rest):=fun F H hp=>by
 obtain⟨⟨⟨l,h3,h4⟩,h5⟩,h6⟩:=hp.at hm
 have h7:=hw F H hp.hin hp.hd hp.ok
 exact LF.chg0 (Ao.mapUpdate hT hK h3 hx hi hy) (by rintro _ H' ⟨m,t⟩;exact kk F H' (hp.set (R':=vm g (Bf V k v)) hm t.kwv ⟨⟨⟨_,m,h4.up k v⟩,setV_wr h5 h7⟩,h6⟩ (fun k h => .inr h)))
theorem jve(hT:P.underlying T=some (.map K E))(hK:P.underlying K=some (.int .i64))(hz:(P.info? E).bind (·.zero)=some (.int .i32 0))(hm:Tk L (vm g V) M)(hx:ev e x=some (.map (some g)))(hi:ev e z=some (.int .i64 k))
  (kk:∀(u:Value) (st:Nat),LH P n w0 ops Q X D (vme g V k st::M) ((d,.tuple #[u,.int .i64 st])::e) rest) (hd:Nat.blt d n.sz=true:=by rfl):LH P n w0 ops Q X D L e (⟨some d,.mapEntry T x z,ty,pos,af,none⟩::rest):=fun F H hp=>by
 obtain⟨⟨⟨l,h3,h4⟩,h5⟩,h6⟩:=hp.at hm
 exact LF.chg (Ao.mapEntry hT hK hz h3 hx hi) (by rintro _ H' ⟨st,rfl,m,t⟩;exact kk _ st F H' (hp.set (R':=vme g V k st) hm t.kwv ⟨⟨⟨_,m,h4.ins k⟩,h5⟩,h6⟩ (fun k h => .inr h))) hd
theorem jvs(hm:Tk L (vme g V k st) M)(hx:ev e x=some (.map (some g)))(hi:ev e z=some (.int .i64 st))(hy:ev e y=some (.int .i32 v))(hw:Wr D L .i32 v)
  (kk:LH P n w0 ops Q X D (vm g (Bf V k v)::M) e rest):LH P n w0 ops Q X D L e (⟨none,.entryStore T x z y,ty,pos,af,none⟩::rest):=fun F H hp=>by
 obtain⟨⟨⟨l,h3,h4⟩,h5⟩,h6⟩:=hp.at hm
 have h7:=hw F H hp.hin hp.hd hp.ok
 exact LF.chg0 (Ao.entryStore h3 hx hi hy) (by rintro _ H' ⟨m,t⟩;exact kk F H' (hp.set (R':=vm g (Bf V k v)) hm (t.kwv (V:=V)) ⟨⟨⟨_,m,h4.up k v⟩,setV_wr h5 h7⟩,h6⟩ (fun k h => .inr h)))
theorem jvw(hm:Tk L (vm g V) M)(kk:(∀k,IntKind.i32.wrap (V k)=V k)→LH P n w0 ops Q X D L e rest):LH P n w0 ops Q X D L e rest:=fun F H hp=>kk (hp.at hm).1.2 F H hp
theorem cvw{c:Code}(hm:Tk L (vm g V) M)(kk:(∀k,IntKind.i32.wrap (V k)=V k)→CH P n w0 Q X D L e c):CH P n w0 Q X D L e c:=fun F H hp=>kk (hp.at hm).1.2 F H hp
theorem jnn(kk:∀g,LH P n w0 ops Q X D (nm g []::L) ((d,.map (some g))::e) rest)(hd:Nat.blt d n.sz=true:=by rfl):LH P n w0 ops Q X D L e (⟨some d,.makeMap T none,ty,pos,af,none⟩::rest):=jmm kk hd
theorem jnu(hT:P.underlying T=some (.map K E))(hK:P.underlying K=some (.int .i64))(hm:Tk L (nm g nx) M)(hx:ev e x=some (.map (some g)))(hi:ev e z=some (.int .i64 k))(hy:ev e y=some (.int .i32 v))
 (kk:LH P n w0 ops Q X D (nm g (upW nx k v)::M) e rest):LH P n w0 ops Q X D L e (⟨none,.mapUpdate T x z y,ty,pos,af,none⟩::rest):=jup hT hK hm hx hi hy (GJ nx k v) kk
theorem jri(hT:P.underlying T=some (.map K E))(hm:Tk L (nm g nx) M)(hx:ev e x=some (.map (some g)))(kk:∀r,LH P n w0 ops Q X D (mit r g nx []::M) ((d,.pointer (some ⟨r,0,none⟩))::e) rest)(hd:Nat.blt d n.sz=true:=by rfl):LH P n w0 ops Q X D L e (⟨some d,.range T x,ty,pos,af,none⟩::rest):=fun F H hp=>by
 obtain⟨h3,h4⟩:=hp.at hm
 refine LF.chg (Ao.range hT h3 hx) ?_ hd
 rintro _ H' ⟨rfl,h5,h6,h7⟩
 have hgl:=h3.lt
 refine kk H.size F H' (hp.set (R':=mit H.size g nx []) hm ⟨by omega,fun k h1 _=>h7 k h1⟩ ⟨⟨h5,by omega⟩,hp.hin.nope (Nat.le_refl _),h4⟩ (fun k hk=>?_))
 rcases hk with hk|hk
 ·exact .inl (by omega)
 ·exact .inr hk
theorem jni(hk:Tk L (mit r g nx vis) M)(hx:ev e x=some (.pointer (some ⟨r,0,none⟩)))
  (k1:(∀p∈nx,p.1∈vis)→LH P n w0 ops Q X D (mit r g nx vis::M) ((d,.tuple #[.bool false])::e) rest)
  (k2:∀k v,(k,v)∈nx→k∉vis→LH P n w0 ops Q X D (mit r g nx (vis++[k])::M) ((d,.tuple #[.bool true,.int .i64 k,.int .i32 v])::e) rest) (hd:Nat.blt d n.sz=true:=by rfl) :
  LH P n w0 ops Q X D L e (⟨some d,.next x false,ty,pos,af,none⟩::rest):=fun F H hp=>by
 obtain⟨⟨h1,h2⟩,h3,h4⟩:=hp.at hk
 refine LF.chg (Ao.next h2 h1 hx) ?_ hd
 rintro _ H' (⟨rfl,h5,rfl⟩|⟨k,w,rfl,h5,h6,h7,h8⟩)
 ·refine k1 (fun p hp=>h5 p.1 ?_) F H' (hp.set (R':=mit r g nx vis) hk (Kw.refl _ _) ⟨⟨h1,h2⟩,h3,h4⟩ (fun k h => .inr h))
  exact List.mem_map.2 ⟨(p.1,.int .i32 p.2),List.mem_map.2 ⟨p,hp,rfl⟩,rfl⟩
 ·obtain⟨p,h9,h10⟩:=List.mem_map.1 h5
  injection h10 with h10 h11
  subst h10;subst h11
  exact k2 p.1 p.2 h9 h6 F H' (hp.set (R':=mit r g nx (vis++[p.1])) hk ⟨Nat.le_of_eq h8.1.symm,fun k _ h2=>h8.2 k (fun e=>h2 (.inl e))⟩ ⟨⟨h7,h2⟩,h3,h4⟩ (fun k h => .inr h))
theorem jei(hk:Tk L (mit r g nx (vis++[k])) M)(hi:(k,v)∈nx)(hx:ev e x=some (.pointer (some ⟨r,0,none⟩))):OH P D L e (.entry x) (.tuple #[.int .i64 k,.int .i32 v]):=fun F H h1 h2 h3=>by
 obtain⟨⟨h4,_⟩,_⟩:=(hk.ok h3).1
 exact Aa.entry h4 (List.mem_map.2 ⟨_,hi,rfl⟩) hx
end
end Go.JE
namespace Go.Proofs.YtmfkkodnghambaaGreat
open Go.JE
def Om(fr:Int)(V:Int→Int)(l:List D.Phi)(nx:List (Int×Int)):List (Int×Int):=l.foldl (fun nx p=>upW nx p.Dst (V (ix p.In (Int.toNat (Di p.In (Ei fr)))).Val)) nx
def lkW(nx:List (Int×Int))(k:Int):Option Int:=(nx.find? (fun p=>p.1==k)).map (·.2)
def Oo(nx:List (Int×Int))(V:Int→Int):Int→Int:=fun k=>(lkW nx k).getD (V k)
def Po(fr:Int)(l:List D.Phi)(V:Int→Int):Int→Int:=Oo (Om fr V l []) V
theorem PY{fr:Int}{V:Int→Int}{l:List D.Phi}{nx:List (Int×Int)}{k:Nat}(h:k<l.length):Om fr V (l.take (k+1)) nx=upW (Om fr V (l.take k) nx) (ix l k).Dst (V (ix (ix l k).In (Int.toNat (Di (ix l k).In (Ei fr)))).Val):=by
 unfold Om;rw[Ff h,List.foldl_append];rfl
theorem U5:∀(nx:List (Int×Int)) (k v:Int) (j:Int),j∈(upW nx k v).map (·.1)↔j=k∨j∈nx.map (·.1)
 | [],k,v,j=>by simp[upW]
 | p::r,k,v,j=>by
  unfold upW
  split
  ·rename_i h
   have h:p.1=k:=by simpa using h
   simp[h]
  ·have:=U5 r k v j
   simp only[List.map_cons,List.mem_cons,this]
   exact⟨fun h=>h.elim (fun h => .inr (.inl h)) (fun h=>h.elim .inl (fun h => .inr (.inr h))),fun h=>h.elim (fun h => .inr (.inl h)) (fun h=>h.elim .inl (fun h => .inr (.inr h)))⟩
theorem U1:∀(nx:List (Int×Int)) (k v:Int),(nx.map (·.1)).Nodup→((upW nx k v).map (·.1)).Nodup
 | [],k,v,_=>by simp[upW]
 | p::r,k,v,h=>by
  rw[List.map_cons,List.nodup_cons] at h
  unfold upW
  split
  ·rename_i h1
   have h1:p.1=k:=by simpa using h1
   rw[List.map_cons,List.nodup_cons]
   exact⟨by rw[←h1];exact h.1,h.2⟩
  ·rename_i h1
   have h1:¬p.1=k:=by simpa using h1
   rw[List.map_cons,List.nodup_cons]
   exact⟨fun h2=>((U5 r k v p.1).1 h2).elim h1 h.1,U1 r k v h.2⟩
theorem EC:∀(nx:List (Int×Int)) (k v j:Int),lkW (upW nx k v) j=if j=k then some v else lkW nx j
 | [],k,v,j=>by
  unfold upW lkW
  by_cases h:j=k
  ·simp[h]
  ·have:¬k=j:=fun e=>h e.symm
   simp[h,this]
 | p::r,k,v,j=>by
  have ih:=EC r k v j
  unfold upW
  split
  ·rename_i h1
   have h1:p.1=k:=by simpa using h1
   unfold lkW at ih ⊢
   by_cases h:j=k
   ·simp[h]
   ·have h2:¬k=j:=fun e=>h e.symm
    have h3:¬p.1=j:=by rw[h1];exact h2
    simp[h,h2,h3]
  ·rename_i h1
   have h1:¬p.1=k:=by simpa using h1
   unfold lkW at ih ⊢
   rw[List.find?_cons,List.find?_cons]
   by_cases h:p.1=j
   ·have h2:(p.1==j)=true:=by simpa using h
    have h3:¬j=k:=by rw[←h];exact h1
    rw[h2,if_neg h3]
   ·have h2:(p.1==j)=false:=by simpa using h
    rw[h2];exact ih
theorem TC{nx:List (Int×Int)}(hn:(nx.map (·.1)).Nodup){k v:Int}(h:(k,v)∈nx):lkW nx k=some v:=by
 induction nx with
 | nil=>cases h
 | cons p r ih =>
  rw[List.map_cons,List.nodup_cons] at hn
  unfold lkW
  rw[List.find?_cons]
  rcases List.mem_cons.1 h with e|e
  ·subst e;simp
  ·have h1:¬p.1=k:=fun e1=>hn.1 (by rw[e1];exact List.mem_map.2 ⟨_,e,rfl⟩)
   rw[show(p.1==k)=false by simpa using h1]
   exact ih hn.2 e
theorem TB{nx:List (Int×Int)}{k:Int}(h:k∉nx.map (·.1)):lkW nx k=none:=by
 unfold lkW
 rw[Option.map_eq_none_iff,List.find?_eq_none]
 intro p hp e
 exact h (List.mem_map.2 ⟨p,hp,by simpa using e⟩)
theorem CG{fr:Int}{V:Int→Int}:∀(l:List D.Phi) (nx:List (Int×Int)),(nx.map (·.1)).Nodup→((Om fr V l nx).map (·.1)).Nodup
 | [],nx,h=>h
 | p::l,nx,h=>CG l _ (U1 _ _ _ h)
def Qt(nx:List (Int×Int))(vis:List Int)(V:Int→Int):Int→Int:=fun k=>if k∈vis then (lkW nx k).getD (V k) else V k
theorem QA{nx:List (Int×Int)}{vis:List Int}{V:Int→Int}{k v:Int}(hn:(nx.map (·.1)).Nodup)(h:(k,v)∈nx):Bf (Qt nx vis V) k v=Qt nx (vis++[k]) V:=by
 funext j
 unfold Bf Qt
 by_cases e:j=k
 ·subst e
  rw[if_pos rfl,if_pos (by simp),TC hn h];rfl
 ·rw[if_neg e]
  by_cases h2:j∈vis
  ·rw[if_pos h2,if_pos (by simp[h2])]
  ·rw[if_neg h2,if_neg (by simp[h2,e])]
theorem QB{nx:List (Int×Int)}{vis:List Int}{V:Int→Int}(h:∀p∈nx,p.1∈vis):Qt nx vis V=Oo nx V:=by
 funext j
 unfold Qt Oo
 split
 ·rfl
 ·rename_i h1
  rw[TB (fun h2=>by obtain⟨p,h3,h4⟩:=List.mem_map.1 h2;exact h1 (by rw[←h4];exact h p h3))];rfl
theorem KQ{nx:List (Int×Int)}{vis:List Int}{k v:Int}(hn:vis.Nodup)(hs:∀y∈vis,y∈nx.map (·.1))(h:(k,v)∈nx)(hk:k∉vis):vis.length<nx.length:=by
 have h1:(vis++[k]).Nodup:=List.nodup_append.2 ⟨hn,by simp,fun x hx y hy e=>by simp at hy;subst hy;subst e;exact hk hx⟩
 have h2:=E2 (vis++[k]) (nx.map (·.1)) h1 (fun y hy=>by
  rcases List.mem_append.1 hy with h3|h3
  ·exact hs y h3
  ·simp at h3;subst h3;exact List.mem_map.2 ⟨_,h,rfl⟩)
 rw[List.length_append,List.length_map] at h2
 simp at h2;omega
theorem N6{nx:List (Int×Int)}{fr:Int}{V:Int→Int}(hV:∀k,IntKind.i32.wrap (V k)=V k):∀(l:List D.Phi) (nx:List (Int×Int)),(∀p∈nx,IntKind.i32.wrap p.2=p.2)→∀p∈Om fr V l nx,IntKind.i32.wrap p.2=p.2
 | [],nx,h=>h
 | q::l,nx,h=>N6 (nx:=nx) hV l _ (fun p hp=>by
  have:∀(nx:List (Int×Int)) (k v:Int),IntKind.i32.wrap v=v→(∀p∈nx,IntKind.i32.wrap p.2=p.2)→∀p∈upW nx k v,IntKind.i32.wrap p.2=p.2:=by
   intro nx k v hv
   induction nx with
   | nil=>intro _ p hp;simp[upW] at hp;subst hp;exact hv
   | cons a r ih =>
    intro h p hp
    unfold upW at hp
    split at hp
    ·rcases List.mem_cons.1 hp with e|e
     ·subst e;exact hv
     ·exact h p (by simp[e])
    ·rcases List.mem_cons.1 hp with e|e
     ·subst e;exact h _ (by simp)
     ·exact ih (fun p hp=>h p (by simp[hp])) p e
  exact this nx _ _ (hV _) h p hp)
def wT(t:D.Term)(V:Int→Int):List Int:=t.Args.map V++[0]
def Cv(t:D.Term)(V:Int→Int):Int :=
 if t.Kind=1 then ix t.To 0
 else if t.Kind=2 then (if ix (wT t V) 0=0 then ix t.To 1 else ix t.To 0)
 else if t.Kind=3 then ix t.To (Int.toNat (min (IntKind.u32.wrap (ix (wT t V) 0)) ((t.To.length:Int)-1)))
 else 0
def Cf(t:D.Term)(en:Int):Int:=if t.Kind=1∨t.Kind=2∨t.Kind=3 then en else if t.Kind=4 then 1 else 2
def Cu(t:D.Term)(V:Int→Int)(va:Int):Int:=if t.Kind=1∨t.Kind=2∨t.Kind=3 then va else if t.Kind=4 then ix (wT t V) 0 else t.Imm
def aI(i:D.Ins)(V:Int→Int)(k:Nat):Int:=ix (i.Args.map V) k
def Ci(i:D.Ins)(V:Int→Int)(me an:List Int):Int→Int :=
 if i.Op=1 then Bf V i.Dst i.Imm
 else if i.Op=15 then Bf V i.Dst (Bq me (w32 (aI i V 0+i.Imm))).1
 else if i.Op=16 then V
 else if i.Op=17 then (if 0<an.length then Bf (Bf V i.Dst 0) i.Dst (ix an 0) else Bf V i.Dst 0)
 else if i.Op=18 then Bf (Bf V i.Dst (Ht (aI i V 0) (aI i V 1)).1) i.Two (Ht (aI i V 0) (aI i V 1)).2
 else Bf V i.Dst (doM i.Op (aI i V 0) (aI i V 1)).1
def Fq(i:D.Ins)(V:Int→Int)(me:List Int):Int:=if i.Op=15 then (if (Bq me (w32 (aI i V 0+i.Imm))).2=true then 0 else -2) else if i.Op=16 then (if Hh me (w32 (aI i V 0+i.Imm)) (aI i V 1)=true then 0 else -2) else if i.Op=1∨i.Op=17∨i.Op=18 then 0 else if (doM i.Op (aI i V 0) (aI i V 1)).2=true then 0 else -1
def Dg(i:D.Ins)(V:Int→Int)(me:List Int)(en:Int):Int:=if Fq i V me=0 then en else 2
def Dp(i:D.Ins)(V:Int→Int)(me:List Int)(va:Int):Int:=if Fq i V me=0 then va else Fq i V me
def Cn(i:D.Ins)(V:Int→Int)(me:List Int):List Int:=if i.Op=16 then Hi me (w32 (aI i V 0+i.Imm)) (aI i V 1) else me
def Dh(i:D.Ins)(V:Int→Int)(cl:List D.Event):List D.Event:=if i.Op=17 then cl++[⟨i.Imm,i.Args.map V⟩] else cl
def Dk(i:D.Ins)(an:List Int):List Int:=if i.Op=17 then an.drop 1 else an
theorem Z1{t:D.Term}(h:∃s,shM t.Kind=some s∧(s.1≤(t.Args.length:Int)∧(t.Args.length:Int)≤s.2.1)∧(s.2.2.1≤(t.To.length:Int)∧(t.To.length:Int)≤s.2.2.2)) :
  (1≤t.Kind∧t.Kind≤5)∧(t.Kind=1→t.To.length=1∧t.Args.length=0)∧(t.Kind=2→t.To.length=2∧t.Args.length=1)∧(t.Kind=3→(2≤t.To.length∧t.To.length≤65)∧t.Args.length=1)∧t.Args.length≤1:=by
 obtain⟨s,h1,h2,h3⟩:=h
 unfold shM at h1
 repeat' split at h1
 all_goals first
  | (injection h1 with h1;subst h1;simp only at h2 h3;refine⟨by omega,?_,?_,?_,by omega⟩<;>intro<;>omega)
  | cases h1
theorem u32_nn(n:Int):0≤IntKind.u32.wrap n:=by rw[IntKind.wrap_u32];omega
theorem FI{l:List D.In}{fr:Int}(h:fr∈l.map (fun x=>x.From)):0≤Di l (Ei fr)∧Di l (Ei fr)<l.length:=by
 refine⟨?_,L6 l (Ei fr)⟩
 unfold Di
 cases h1:l.findIdx? (Ei fr) with
 | some i=>exact Int.natCast_nonneg i
 | none =>
  rw[List.findIdx?_eq_none_iff] at h1
  obtain⟨x,h2,h3⟩:=List.mem_map.1 h
  have:=h1 x h2
  unfold Ei at this
  simp at this
  exact absurd h3 this
theorem KP{vis:List Int}{k:Int}(h:vis.Nodup)(hk:k∉vis):(vis++[k]).Nodup:=List.nodup_append.2 ⟨h,by simp,fun x hx y hy e=>by simp at hy;subst hy;subst e;exact hk hx⟩
theorem QW{i:D.Ins}(h:(1≤i.Op∧i.Op≤18)∧(Eu i.Op).1≤(i.Args.length:Int)∧(i.Args.length:Int)≤(Eu i.Op).2) :
  (i.Op=15→i.Args.length=1)∧(i.Op≠1→i.Op≠15→i.Op≠17→i.Args.length=2)∧i.Args.length≤4:=by
 obtain⟨h1,h2,h3⟩:=h
 by_cases e1:i.Op=1
 ·have e:Eu i.Op=(0,0):=by unfold Eu;rw[if_pos e1]
  rw[e] at h2 h3;simp only at h2 h3
  exact⟨fun h=>by omega,fun h=>absurd e1 h,by omega⟩
 by_cases e2:i.Op=15
 ·have e:Eu i.Op=(1,1):=by unfold Eu;rw[if_neg e1,if_pos e2]
  rw[e] at h2 h3;simp only at h2 h3
  exact⟨fun h=>by omega,fun _ h=>absurd e2 h,by omega⟩
 by_cases e3:i.Op=17
 ·have e:Eu i.Op=(0,4):=by unfold Eu;rw[if_neg e1,if_neg e2,if_pos e3]
  rw[e] at h2 h3;simp only at h2 h3
  exact⟨fun h=>by omega,fun _ _ h=>absurd e3 h,by omega⟩
 have e:Eu i.Op=(2,2):=by unfold Eu;rw[if_neg e1,if_neg e2,if_neg e3]
 rw[e] at h2 h3;simp only at h2 h3
 exact⟨fun h=>absurd h e2,fun _ _ _=>by omega,by omega⟩
def stE(en st ss:Int):Int:=if en=0∧ss≤st then 3 else en
def stV(en va st ss:Int):Int:=if en=0∧ss≤st then 0 else va
def stB(en st ss:Int):Bool:=decide (stE en st ss=0)
def stS(en st ss:Int):Int:=if stE en st ss=0 then st+1 else st
theorem Y2{en st ss:Int}(h:stB en st ss=true):en=0∧st<ss∧stE en st ss=0∧stS en st ss=st+1:=by
 have h1:stE en st ss=0:=by simpa[stB] using h
 unfold stE at h1
 split at h1
 ·omega
 ·refine⟨h1,by omega,?_,?_⟩
  ·unfold stE;rw[if_neg (by assumption)];exact h1
  ·have e:stE en st ss=0:=by unfold stE;rw[if_neg (by assumption)];exact h1
   unfold stS;rw[if_pos e]
theorem Y3{en st ss:Int}(h:stB en st ss=false):stE en st ss≠0∧stS en st ss=st:=by
 have h1:stE en st ss≠0:=by simpa[stB] using h
 exact⟨h1,by unfold stS;rw[if_neg h1]⟩
structure RSt where
 V:Int→Int
 en:Int
 va:Int
 me:List Int
 cl:List D.Event
 st:Int
 an:List Int
def Es(N:Int)(s:RSt):RSt:={ s with en:=stE s.en s.st N,va:=stV s.en s.va s.st N,st:=stS s.en s.st N }
def Fx(N:Int)(s:RSt):Bool:=stB s.en s.st N
def Ma(i:D.Ins)(s:RSt):RSt:=⟨Ci i s.V s.me s.an,Dg i s.V s.me s.en,Dp i s.V s.me s.va,Cn i s.V s.me,Dh i s.V s.cl,s.st,Dk i s.an⟩
def Bu(N:Int):List D.Ins→RSt→RSt×Bool
 | [],s=>(s,true)
 | i::l,s=>if Fx N s=true then Bu N l (Ma i (Es N s)) else (Es N s,false)
def Hv(t:D.Term)(s:RSt):RSt:={ s with en:=Cf t s.en,va:=Cu t s.V s.va }
def Gy(fr:Int)(l:List D.Phi)(s:RSt):RSt:={ s with V:=Po fr l s.V }
def Hd(bs:List D.Block)(N:Int):Nat→Int→Int→RSt→RSt
 | 0,_,_,s=>s
 | k+1,a,fr,s =>
  if (Bu N (ix bs a.toNat).Ins (Gy fr (ix bs a.toNat).Phis s)).2=true then
   (if Fx N (Bu N (ix bs a.toNat).Ins (Gy fr (ix bs a.toNat).Phis s)).1=true then
    (if (Hv (ix bs a.toNat).Term (Es N (Bu N (ix bs a.toNat).Ins (Gy fr (ix bs a.toNat).Phis s)).1)).en=0 then
     Hd bs N k (Cv (ix bs a.toNat).Term (Bu N (ix bs a.toNat).Ins (Gy fr (ix bs a.toNat).Phis s)).1.V) a (Hv (ix bs a.toNat).Term (Es N (Bu N (ix bs a.toNat).Ins (Gy fr (ix bs a.toNat).Phis s)).1))
    else Hv (ix bs a.toNat).Term (Es N (Bu N (ix bs a.toNat).Ins (Gy fr (ix bs a.toNat).Phis s)).1))
   else Es N (Bu N (ix bs a.toNat).Ins (Gy fr (ix bs a.toNat).Phis s)).1)
  else (Bu N (ix bs a.toNat).Ins (Gy fr (ix bs a.toNat).Phis s)).1
def CW(s:RSt):D.Outcome:=⟨s.en,s.va,s.me,s.cl,s.st⟩
def Pb(l:List Int):Nat→Int→Int
 | 0=>fun _=>0
 | k+1=>Bf (Pb l k) k (ix l k)
def Iu(f:D.Func)(i:D.Input):List Int:=i.Args.take (Int.toNat (min (i.Args.length:Int) f.Params))
def Xc(f:D.Func)(i:D.Input):RSt:=⟨Pb (Iu f i) (Iu f i).length,0,0,Ns i,[],0,i.Answers⟩
def Nl(f:D.Func)(i:D.Input):D.Outcome:=CW (Hd f.Blocks i.Steps (Int.toNat i.Steps+1) 0 (-1) (Xc f i))
section
variable{bs:List D.Block}{N a fr:Int}{k:Nat}{s s':RSt}
theorem ZT(h:Bu N (ix bs a.toNat).Ins (Gy fr (ix bs a.toNat).Phis s)=(s',false))(hk:0<k):Hd bs N k a fr s=s':=by
 obtain⟨j,rfl⟩:∃j,k=j+1:=⟨k-1,by omega⟩
 rw[Hd,h];simp
theorem ZU(h:Bu N (ix bs a.toNat).Ins (Gy fr (ix bs a.toNat).Phis s)=(s',true))(h2:Fx N s'=false)(hk:0<k):Hd bs N k a fr s=Es N s':=by
 obtain⟨j,rfl⟩:∃j,k=j+1:=⟨k-1,by omega⟩
 rw[Hd,h];simp[h2]
theorem ZW(h:Bu N (ix bs a.toNat).Ins (Gy fr (ix bs a.toNat).Phis s)=(s',true))(h2:Fx N s'=true)(h3:¬(Hv (ix bs a.toNat).Term (Es N s')).en=0)(hk:0<k):Hd bs N k a fr s=Hv (ix bs a.toNat).Term (Es N s'):=by
 obtain⟨j,rfl⟩:∃j,k=j+1:=⟨k-1,by omega⟩
 rw[Hd,h];simp[h2,h3]
theorem ZV(h:Bu N (ix bs a.toNat).Ins (Gy fr (ix bs a.toNat).Phis s)=(s',true))(h2:Fx N s'=true)(h3:(Hv (ix bs a.toNat).Term (Es N s')).en=0)(hk:0<k):Hd bs N k a fr s=Hd bs N (k-1) (Cv (ix bs a.toNat).Term s'.V) a (Hv (ix bs a.toNat).Term (Es N s')):=by
 obtain⟨j,rfl⟩:∃j,k=j+1:=⟨k-1,by omega⟩
 rw[Hd,h];simp[h2,h3]
theorem TF{l:List D.Ins}{j:Nat}{R:RSt×Bool}(h:R=Bu N (l.drop j) s)(hj:j<l.length)(h2:Fx N s=true):R=Bu N (l.drop (j+1)) (Ma (ix l j) (Es N s)):=by
 rw[h,Dz hj,Bu,if_pos h2]
theorem TD{l:List D.Ins}{j:Nat}{R:RSt×Bool}(h:R=Bu N (l.drop j) s)(hj:j<l.length)(h2:Fx N s=false):R=(Es N s,false):=by
 rw[h,Dz hj,Bu,if_neg (by rw[h2];decide)]
theorem J8{l:List D.Ins}{j:Nat}{R:RSt×Bool}(h:R=Bu N (l.drop j) s)(hj:l.length≤j):R=(s,true):=by rw[h,List.drop_of_length_le hj,Bu]
end
theorem D8{t:D.Term}{V:Int→Int}(h:∃s,shM t.Kind=some s∧(s.1≤(t.Args.length:Int)∧(t.Args.length:Int)≤s.2.1)∧(s.2.2.1≤(t.To.length:Int)∧(t.To.length:Int)≤s.2.2.2)){en:Int}(he:Cf t en=0):Cv t V∈t.To:=by
 obtain⟨h0,h1,h2,h3,h4⟩:=Z1 h
 unfold Cf at he
 split at he
 ·rename_i hk
  unfold Cv
  rcases hk with hk|hk|hk
  ·have:=(h1 hk).1
   rw[if_pos hk];exact Ax (by omega)
  ·have:=(h2 hk).1
   rw[if_neg (by omega),if_pos hk]
   split
   ·exact Ax (by omega)
   ·exact Ax (by omega)
  ·have:=(h3 hk).1
   have hu:=u32_nn (ix (wT t V) 0)
   rw[if_neg (by omega),if_neg (by omega),if_pos hk]
   exact Ax (by omega)
 ·split at he<;>omega
theorem GoodF.phi_from{f:D.Func}(hG:GoodF f){b:Nat}(hb:b<f.Blocks.length){t:Int}(ht:t∈(ix f.Blocks b).Term.To):∀p∈(ix f.Blocks t.toNat).Phis,(b:Int)∈p.In.map (fun x=>x.From):=fun p hp=>by
 have h1:=hG.to b hb t ht
 have h2:=hG.fr t.toNat (by omega) p hp
 rw[h2.2,AY]
 unfold prG
 have hc:ix (Bl (Cj f)) b=Ip (ix f.Blocks b).Term.To f.Blocks.length:=by
  unfold Bl;rw[Nw (by rw[Ox];exact hb),Ox]
  unfold Cj;rw[Nw hb,EK]
 rw[hc,Vp]
 exact⟨by rw[Int.toNat_of_nonneg (by omega)];exact ht,by omega⟩
theorem GoodF.phi0{f:D.Func}(hG:GoodF f){fr:Int}:∀p∈(ix f.Blocks (Int.toNat 0)).Phis,fr∈p.In.map (fun x=>x.From):=fun p hp=>by
 have:=(hG.fr 0 hG.len.1 p hp).1
 omega
theorem VU(i:D.Ins)(V:Int→Int)(me:List Int):(Cn i V me).length=me.length:=by
 unfold Cn;split
 ·exact Hw _ _ _
 ·rfl
theorem VW(i:D.Ins)(V:Int→Int)(cl:List D.Event):(Dh i V cl).length≤cl.length+1:=by
 unfold Dh;split
 ·simp
 ·omega
theorem LV{en st ss:Int}(h:0≤en∧en≤3):0≤stE en st ss∧stE en st ss≤3:=by unfold stE;split<;>omega
theorem Rz{en va st ss:Int}(h:IntKind.i32.wrap va=va):IntKind.i32.wrap (stV en va st ss)=stV en va st ss:=by unfold stV;split;decide;exact h
theorem LA{t:D.Term}{en:Int}(h:0≤en∧en≤3):0≤Cf t en∧Cf t en≤3:=by unfold Cf;split;exact h;split<;>omega
theorem VV{i:D.Ins}{V:Int→Int}{me:List Int}{en:Int}(h:0≤en∧en≤3):0≤Dg i V me en∧Dg i V me en≤3:=by unfold Dg;split;exact h;omega
theorem VT{i:D.Ins}{V:Int→Int}{me:List Int}{va:Int}(h:IntKind.i32.wrap va=va):IntKind.i32.wrap (Dp i V me va)=Dp i V me va:=by
 unfold Dp;split
 ·exact h
 ·unfold Fq
  repeat' split
  all_goals decide
theorem JX{t:D.Term}{V:Int→Int}(hV:∀k,IntKind.i32.wrap (V k)=V k):IntKind.i32.wrap (ix (wT t V) 0)=ix (wT t V) 0:=by
 unfold wT
 cases h:t.Args with
 | nil=>rfl
 | cons a l=>rw[List.map_cons,List.cons_append,Ia];exact hV a
theorem D9{t:D.Term}{V:Int→Int}{va:Int}(h:IntKind.i32.wrap va=va)(hV:∀k,IntKind.i32.wrap (V k)=V k)(hi:IntKind.i32.wrap t.Imm=t.Imm):IntKind.i32.wrap (Cu t V va)=Cu t V va:=by
 unfold Cu;split
 ·exact h
 ·split
  ·exact JX hV
  ·exact hi
theorem TE{N:Int}{l:List D.Ins}{j:Nat}{R:RSt×Bool}{V:Int→Int}{en va st:Int}{me an:List Int}{cl:List D.Event}(h:R=Bu N (l.drop j) ⟨V,en,va,me,cl,st,an⟩)(hj:j<l.length)(h2:Fx N ⟨V,en,va,me,cl,st,an⟩=true) :
  R=Bu N (l.drop (j+1)) ⟨Ci (ix l j) V me an,Dg (ix l j) V me (stE en st N),Dp (ix l j) V me (stV en va st N),Cn (ix l j) V me,Dh (ix l j) V cl,stS en st N,Dk (ix l j) an⟩:=by
 have h3:=TF h hj h2
 have e:Ma (ix l j) (Es N ⟨V,en,va,me,cl,st,an⟩)=⟨Ci (ix l j) V me an,Dg (ix l j) V me (stE en st N),Dp (ix l j) V me (stV en va st N),Cn (ix l j) V me,Dh (ix l j) V cl,stS en st N,Dk (ix l j) an⟩:=rfl
 rw[e] at h3;exact h3
theorem Wq:Ent Tryz.prog 101:=⟨_,Tryz.func101,by kernel_rfl,by kernel_rfl⟩
theorem Ic:Fld Tryz.prog 115 1 1:=⟨_,_,Tryz.underlying115,rfl,rfl,5,(by unfold Sz;kernel_rfl),by decide⟩
theorem n9:Fld Tryz.prog 115 3 7:=⟨_,_,Tryz.underlying115,rfl,rfl,1,(by unfold Sz;kernel_rfl),by decide⟩
theorem Vf{g0:Nat}{v0 m0 c0 a0:Value}{e0 x0 st0 ss0:Int}(kd:Int)(x:Int)(ov:v0.oneCell'=true)(om:m0.oneCell'=true)(oc:c0.oneCell'=true)(oa:a0.oneCell'=true):Tr Tryz.prog 101 #[.pointer (some ⟨g0,0,none⟩),.int .i64 kd,.int .i32 x] [] [bx g0 115 [v0,.int .i64 e0,.int .i32 x0,m0,c0,.int .i64 st0,a0,.int .i64 ss0]] (fun _:Unit => .tuple #[]) (fun _=>[]) (fun _ _=>[bx g0 115 [v0,.int .i64 kd,.int .i32 x,m0,c0,.int .i64 st0,a0,.int .i64 ss0]]):=by
 refine Af (args:=[.pointer (some ⟨g0,0,none⟩),.int .i64 kd,.int .i32 x]) Tryz.func101 rfl rfl rfl fun w0 X=>?_
 refine jr (jm Z (jm Z (jm Z (jm Z (js (Ad Z) (js (jf Ic Z) (js (jf Ob Z) (jst k0 Z3 Z Z Z s1 (js (Ad Z) (js (jf Ic Z) (js (jf Wh Z) ?_)))))))))))
 refine jst k0 Z21 Z Z Z s2 (jn ?_)
 exact jd0 Z () Z dn (fun _ _=>(kc k0 kn))
theorem AR{g0:Nat}{v0 m0 c0 a0:Value}{e0 x0 st0 ss0:Int}(ov:v0.oneCell'=true)(om:m0.oneCell'=true)(oc:c0.oneCell'=true)(oa:a0.oneCell'=true)(hs9:0≤st0∧st0≤1000000000):Tr Tryz.prog 49 #[.pointer (some ⟨g0,0,none⟩)] [] [bx g0 115 [v0,.int .i64 e0,.int .i32 x0,m0,c0,.int .i64 st0,a0,.int .i64 ss0]] (fun _:Unit => .bool (stB e0 st0 ss0)) (fun _=>[]) (fun _ _=>[bx g0 115 [v0,.int .i64 (stE e0 st0 ss0),.int .i32 (stV e0 x0 st0 ss0),m0,c0,.int .i64 (stS e0 st0 ss0),a0,.int .i64 ss0]]):=by
 refine Af (args:=[.pointer (some ⟨g0,0,none⟩)]) Tryz.func49 rfl rfl rfl fun w0 X=>?_
 refine jq (jr (ja Z (jn (jx (jq (jq (Jj Bh (by kernel_rfl) (jt (jmv Z) (jt (Ad Z) (jt (jf Ic Z) (jt (jf Ob Z) ?_)))))))))))
 refine jt (jl k0 O3 Z Z) (jt (Aj Z Z) (jt (jmv Z) (jtg Z Z (.t _) (fun hg=>jmv Z) (jtg Z Z (.t _) (fun hg=>Ad (evg Z hg)) (jtg Z Z (.t _) (fun hg=>jf Ic (evg Z hg)) (jtg Z Z (.t _) (fun hg=>jf Mh (evg Z hg)) (jtg Z Z (.t _) (fun hg=>jl k0 O3 (evg Z hg) Z) (jtg Z Z (.t _) (fun hg=>jmv Z) (jtg Z Z (.t _) (fun hg=>Ad (evg Z hg)) (jtg Z Z (.t _) (fun hg=>jf n9 (evg Z hg)) (jtg Z Z (.t _) (fun hg=>jl k0 O3 (evg Z hg) Z) ?_)))))))))))
 refine jtg Z Z (.t _) (fun hg=>Eo (evg Z hg) (evg Z hg)) (jt (Cm Z Z) (jdn (jx ?_)))
 refine jif Z (fun hc1=>?_) (fun hc1=>?_)
 refine jr (jm Z (jc Wq Z Z (Vf _ _ ov om oc oa) dn (kc k0 kn) (fun _=>p0) (fun _=>p1) fun _=>jn (jx (jq (jq (jr (jm Z (js (Ad Z) (js (jf Ic Z) (js (jf Ob Z) ?_))))))))))
 refine js (jl k0 O3 Z Z) (js (Gz Z Z) (jn (jx ?_)))
 refine jif Z (fun hc2=>?_) (fun hc2=>?_)
 refine jq (jr (ja Z (jn (jx (jrt (jtr ?_))))))
 have q1:stE e0 st0 ss0=3:=by simp_all[stE,stV,stB,stS]<;>omega
 have q2:stV e0 x0 st0 ss0=0:=by simp_all[stE,stV,stB,stS]<;>omega
 have q4:stB e0 st0 ss0=false:=by simp_all[stE,stV,stB,stS]<;>omega
 have q3:stS e0 st0 ss0=st0:=by simp_all[stE,stV,stB,stS]<;>omega
 simp only[q1,q2,q3,q4]
 exact jr1 Z Z () Z dn (fun _ _=>(kc k0 kn))
 exact absurd hc2 (by simp)
 refine jsk (jx (jq (jq (jr (jm Z (js (Ad Z) (js (jf Ic Z) (js (jf Ob Z) (js (jl k0 O3 Z Z) (js (Gz Z Z) (jn ?_)))))))))))
 refine jx ?_
 refine jif Z (fun hc3=>?_) (fun hc3=>?_)
 refine jq (jr (ja Z (jn (jx (jrt (jtr ?_))))))
 have q1:stE e0 st0 ss0=e0:=by simp_all[stE,stV,stB,stS]<;>omega
 have q2:stV e0 x0 st0 ss0=x0:=by simp_all[stE,stV,stB,stS]<;>omega
 have q4:stB e0 st0 ss0=false:=by simp_all[stE,stV,stB,stS]<;>omega
 have q3:stS e0 st0 ss0=st0:=by simp_all[stE,stV,stB,stS]<;>omega
 simp only[q1,q2,q3,q4]
 exact jr1 Z Z () Z dn (fun _ _=>(kc k0 kn))
 refine jsk (jx (jq (jr (jm Z (js (Ad Z) (js (jf Ic Z) (js (jf Mh Z) (js (jl k0 O3 Z Z) (js (Ac Z Z (by omega)) (js (Ad Z) (js (jf Ic Z) ?_)))))))))))
 refine js (jf Mh Z) (jst k0 Z3 Z Z Z s5 (jn (jx (jq (jr (ja Z (jn (jx (jrt ?_)))))))))
 have q1:stE e0 st0 ss0=e0:=by simp_all[stE,stV,stB,stS]<;>omega
 have q2:stV e0 x0 st0 ss0=x0:=by simp_all[stE,stV,stB,stS]<;>omega
 have q4:stB e0 st0 ss0=true:=by simp_all[stE,stV,stB,stS]<;>omega
 have q3:stS e0 st0 ss0=st0+1:=by simp_all[stE,stV,stB,stS]<;>omega
 simp only[q1,q2,q3,q4]
 exact jr1 Z Z () Z dn (fun _ _=>(kc k0 kn))
end Go.Proofs.YtmfkkodnghambaaGreat
namespace Go.Proofs.YtmfkkodnghambaaGreat
open Go.JE
abbrev Ej:=@Tryz.underlying113
theorem JL:Ent Tryz.prog 102:=⟨_,Tryz.func102,by kernel_rfl,by kernel_rfl⟩
theorem Li:Fld Tryz.prog 115 0 0:=⟨_,_,Tryz.underlying115,rfl,rfl,1,(by unfold Sz;kernel_rfl),by decide⟩
theorem Fw:One Tryz.prog 112:=⟨_,Tryz.underlying112,rfl⟩
theorem Fv:One Tryz.prog 113:=⟨_,Tryz.underlying113,rfl⟩
theorem J21:(Tryz.prog.info? 21).bind (·.zero)=some (.int .i32 0):=by kernel_rfl
theorem AP{g0 gm:Nat}{V:Int→Int}{m0 c0 a0:Value}{e0 x0 st0 ss0:Int}{a1:Value}{l:List Int}(om:m0.oneCell'=true)(oc:c0.oneCell'=true)(oa:a0.oneCell'=true):Tr Tryz.prog 102 #[.pointer (some ⟨g0,0,none⟩),a1] [dv (rL (rI .i64)) a1 l] [bx g0 115 [.map (some gm),.int .i64 e0,.int .i32 x0,m0,c0,.int .i64 st0,a0,.int .i64 ss0],vm gm V] (fun c:Value=>c) (fun _=>[]) (fun B c=>[bx g0 115 [.map (some gm),.int .i64 e0,.int .i32 x0,m0,c0,.int .i64 st0,a0,.int .i64 ss0],vm gm V,gl B (rI .i32) 21 c (l.map V)]):=by
 refine Af (args:=[.pointer (some ⟨g0,0,none⟩),a1]) Tryz.func102 rfl rfl rfl fun w0 X=>?_
 refine cvw k1 fun hvw=>jq (jr (ja Z (jn (jx (jq (jq (jr (jm Z (jdq d0 fun q1 w1=>js (jln U22 d0 Z) ?_)))))))))
 refine jm Z (jn (jx (jb (cnl (r:=(rI .i32)) (E:=21) ?_))))
 refine jlp (u3 fun(k:Nat) (ws:List Int) (vo:Value)=>⟨k≤l.length∧ws=(l.take k).map V,[dv (rL (rI .i64)) a1 l],[gl X.n (rI .i32) 21 vo ws,bx g0 115 [.map (some gm),.int .i64 e0,.int .i32 x0,m0,c0,.int .i64 st0,a0,.int .i64 ss0],vm gm V],[(0,.pointer (some ⟨g0,0,none⟩)),(4,vo),(7,a1),(8,.int .i64 (↑l.length)),(9,.int .i64 (↑k))],l.length-k⟩) (0,[],.slice none 0 0) ⟨by dsimp only;omega,rfl⟩ (dc d0 dn) (kd (kc k0 kn)) ⟨Z,Z,Z,Z,eqI (by omega),trivial⟩ ?_
 rintro⟨k,ws,vo⟩;dsimp only[u3];rintro⟨hk,hws⟩
 refine cgo k0 fun w2=>?_
 have hwl:ws.length=k:=by rw[hws];simp;omega
 refine jq (jr (js (Ai Z Z) (jn (jx (jq ?_)))))
 refine jif Z (fun hc1=>?_) (fun hc1=>?_)
 refine jsk (jx (jq (jb (jq (jr (js (jix U22 Z3 d0 Z Z Z (by omega)) (js (jlI (dix d0 k (by omega)) O3 Z) (ja Z (jn (jx (jr ?_)))))))))))
 refine jm Z (jm Z (js (Ad Z) (js (jf Li Z) (js (jl k1 Fv Z Z) (jm Z (js (jvk Ej U3 J21 k2 Z Z) (Hz U29 I21 (by decide) Z Z k0 Z (wI (wp (hvw (ix l k)))) (by omega) (fun _=>Z) fun v21 _ w3=>ja Z (jn (jbn (jx ?_))))))))))
 refine jr (js (Ac Z Z (by omega)) (jm Z (jn ?_)))
 exact jag (k+1,ws++[V (ix l k)],v21) ⟨by dsimp only;omega,by dsimp only;rw[hws,Ff (by omega),List.map_append];rfl⟩ (dc d0 dn) (kd (kc k0 kn)) ⟨Z,Z,Z,Z,eqI (by omega),trivial⟩
 refine jex (jtx (jtx (jbh (jx (jq (jr (jm Z (ja Z (jn (jx (jrt ?_)))))))))))
 exact jr1 Z Z vo Z dn (fun _ hB=>(kc k1 (kc k1 (klc (by rw[hws,List.take_of_length_le (by omega)]) hB k0 kn))))
theorem Ve{g0:Nat}{v0 m0 c0 a0:Value}{e0 x0 st0 ss0:Int}(v:Int)(ok:Bool){g2:Nat}(ov:v0.oneCell'=true)(om:m0.oneCell'=true)(oc:c0.oneCell'=true)(oa:a0.oneCell'=true):Tr Tryz.prog 103 #[.int .i32 v,.bool ok,.pointer (some ⟨g2,0,none⟩)] [] [bx g0 115 [v0,.int .i64 e0,.int .i32 x0,m0,c0,.int .i64 st0,a0,.int .i64 ss0],bx g2 112 [.pointer (some ⟨g0,0,none⟩)]] (fun _:Unit => .int .i32 v) (fun _=>[]) (fun _ _=>[bx g0 115 [v0,.int .i64 (if ok=true then e0 else 2),.int .i32 (if ok=true then x0 else -2),m0,c0,.int .i64 st0,a0,.int .i64 ss0],bx g2 112 [.pointer (some ⟨g0,0,none⟩)]]):=by
 refine Af (args:=[.int .i32 v,.bool ok,.pointer (some ⟨g2,0,none⟩)]) Tryz.func103 rfl rfl rfl fun w0 X=>?_
 refine jq (jr (ja Z (jn (jx (jq (jq (jr (jm Z (js (Dv Z) (jn (jx ?_)))))))))))
 refine jif Z (fun hc1=>?_) (fun hc1=>?_)
 refine jr (js (jl k1 Fw Z Z) (jc Wq Z Z (Vf _ _ ov om oc oa) dn (kc k0 kn) (fun _=>p0) (fun _=>p1) fun _=>jn (jx (jq (jr (jm Z (ja Z (jn (jx (jrt ?_))))))))))
 simp only[show ok=false from by simpa using hc1]
 exact jr1 Z Z () Z dn (fun _ _=>(kd kn))
 refine jsk (jx (jq (jr (jm Z (ja Z (jn (jx (jrt ?_))))))))
 simp only[show ok=true from by simpa using hc1]
 exact jr1 Z Z () Z dn (fun _ _=>(kd kn))
theorem OB{g0 gm:Nat}{V:Int→Int}{m0 c0 a0:Value}{e0 x0 st0 ss0:Int}{a1a a1b:Value}{t:D.Term}(om:m0.oneCell'=true)(oc:c0.oneCell'=true)(oa:a0.oneCell'=true)(hT:∃s,shM t.Kind=some s∧(s.1≤(t.Args.length:Int)∧(t.Args.length:Int)≤s.2.1)∧(s.2.2.1≤(t.To.length:Int)∧(t.To.length:Int)≤s.2.2.2)):Tr Tryz.prog 51 #[.pointer (some ⟨g0,0,none⟩),vTerm t (a1a,a1b)] [da Ay (vTerm t (a1a,a1b)) t] [bx g0 115 [.map (some gm),.int .i64 e0,.int .i32 x0,m0,c0,.int .i64 st0,a0,.int .i64 ss0],vm gm V] (fun _:Unit => .int .i64 (Cv t V)) (fun _=>[]) (fun _ _=>[bx g0 115 [.map (some gm),.int .i64 (Cf t e0),.int .i32 (Cu t V x0),m0,c0,.int .i64 st0,a0,.int .i64 ss0],vm gm V]):=by
 refine Af (args:=[.pointer (some ⟨g0,0,none⟩),vTerm t (a1a,a1b)]) Tryz.func51 rfl rfl rfl fun w0 X=>?_
 refine cvw k1 fun hvw=>?_
 have hT9:=Z1 hT
 obtain⟨hk0,hk1,hk2,hk3,hka⟩:=hT9
 have hun:=u32_nn (ix (List.map V t.Args++[0]) 0)
 have hwl:(List.map V t.Args++[0]).length=t.Args.length+1:=by simp
 refine jq (jr (Bj Z Z fun g3=>ja Z (jn (jx (jq (jr (jm Z (js (jf Le Z) (js (jl k0 O22 Z Z) (jc JL Z Z (AP om oc oa) (dc (Ay.c_Args d0) dn) (kc k1 (kc k1 kn)) (fun _=>p0) (fun _=>p3) fun v10=>?_))))))))))
 refine jgo k2 fun w1=>Hz U29 I21 (by decide) Z Z k2 Z (wI (wl 0)) (by(try simp)<;>omega) (fun _=>Z) fun v12 _ w2=>ja Z (jn (jx (jq (jq (jr (js (jf Qd Z) (js (jl k3 O3 Z Z) (jn (jx ?_)))))))))
 refine jb (jq (jr (js (Aj Z Z) (ja Z (jn (jx ?_))))))
 refine jif Z (fun hc1=>?_) (fun hc1=>?_)
 have hk1:=hk1 hc1
 refine jq (jr (js (jf Ib Z) (js (jl k3 O22 Z Z) (jdq (Ay.c_To d0) fun q3 w3=>js (jix (i:=0) U22 Z3 (Ay.c_To d0) Z Z Z (by omega)) (js (jlI (dix (Ay.c_To d0) 0 (by omega)) O3 Z) (ja Z (jn (jx (jrt (jbr ?_))))))))))
 refine jtr ?_
 have q1:Cv t V=ix t.To 0:=by first|(simp[Cv,Cf,Cu,wT,hc1];done)|(unfold Cv;(repeat' split)<;>first|rfl|(exfalso;omega)|(simp_all[wT];done))|skip
 have q2:Cf t e0=e0:=by first|(simp[Cv,Cf,Cu,wT,hc1];done)|(unfold Cf;(repeat' split)<;>first|rfl|(exfalso;omega)|(simp_all[wT];done))|skip
 have q3:Cu t V x0=x0:=by first|(simp[Cv,Cf,Cu,wT,hc1];done)|(unfold Cu;(repeat' split)<;>first|rfl|(exfalso;omega)|(simp_all[wT];done))|skip
 simp only[q1,q2,q3]
 exact jr1 Z Z () Z dn (fun _ _=>(kc k1 (kc k1 kn)))
 refine jq (jr (js (Aj Z Z) (ja Z (jn (jx ?_)))))
 refine jif Z (fun hc2=>?_) (fun hc2=>?_)
 have hk2:=hk2 hc2
 refine jq (jq (jr (jm Z (js (jig (i:=0) U29 Z21 k0 Z Z Z (by first|omega|(simp<;>omega))) (js (jgI k0 (by first|omega|(simp<;>omega)) O21 Z) (js (Gz Z Z) (jn (jx ?_))))))))
 refine jif Z (fun hc3=>?_) (fun hc3=>?_)
 refine jq (jr (js (jf Ib Z) (js (jl k3 O22 Z Z) (jdq (Ay.c_To d0) fun q4 w4=>js (jix (i:=0) U22 Z3 (Ay.c_To d0) Z Z Z (by omega)) (js (jlI (dix (Ay.c_To d0) 0 (by omega)) O3 Z) (ja Z (jn (jx (jrt (jtr ?_))))))))))
 refine jbr (jtr ?_)
 have q1:Cv t V=ix t.To 0:=by first|(simp[Cv,Cf,Cu,wT,hc1,hc2,hc3];done)|(unfold Cv;(repeat' split)<;>first|rfl|(exfalso;omega)|(simp_all[wT];done))|skip
 have q2:Cf t e0=e0:=by first|(simp[Cv,Cf,Cu,wT,hc1,hc2,hc3];done)|(unfold Cf;(repeat' split)<;>first|rfl|(exfalso;omega)|(simp_all[wT];done))|skip
 have q3:Cu t V x0=x0:=by first|(simp[Cv,Cf,Cu,wT,hc1,hc2,hc3];done)|(unfold Cu;(repeat' split)<;>first|rfl|(exfalso;omega)|(simp_all[wT];done))|skip
 simp only[q1,q2,q3]
 exact jr1 Z Z () Z dn (fun _ _=>(kc k1 (kc k1 kn)))
 refine jsk (jx (jq (jr (js (jf Ib Z) (js (jl k3 O22 Z Z) (jdq (Ay.c_To d0) fun q5 w5=>js (jix (i:=1) U22 Z3 (Ay.c_To d0) Z Z Z (by omega)) (js (jlI (dix (Ay.c_To d0) 1 (by omega)) O3 Z) (ja Z (jn (jx ?_))))))))))
 refine jrt (jbr (jtr ?_))
 have q1:Cv t V=ix t.To 1:=by first|(simp[Cv,Cf,Cu,wT,hc1,hc2,hc3];done)|(unfold Cv;(repeat' split)<;>first|rfl|(exfalso;omega)|(simp_all[wT];done))|skip
 have q2:Cf t e0=e0:=by first|(simp[Cv,Cf,Cu,wT,hc1,hc2,hc3];done)|(unfold Cf;(repeat' split)<;>first|rfl|(exfalso;omega)|(simp_all[wT];done))|skip
 have q3:Cu t V x0=x0:=by first|(simp[Cv,Cf,Cu,wT,hc1,hc2,hc3];done)|(unfold Cu;(repeat' split)<;>first|rfl|(exfalso;omega)|(simp_all[wT];done))|skip
 simp only[q1,q2,q3]
 exact jr1 Z Z () Z dn (fun _ _=>(kc k1 (kc k1 kn)))
 refine jq (jr (js (Aj Z Z) (ja Z (jn (jx ?_)))))
 refine jif Z (fun hc4=>?_) (fun hc4=>?_)
 have hk3:=hk3 hc4
 refine jq (jr (js (jf Ib Z) (js (jl k3 O22 Z Z) (jdq (Ay.c_To d0) fun q6 w6=>js (jln U22 (Ay.c_To d0) Z) (js (Gg Z Z (by omega)) (ja Z (jn (jx (jq (Jj Bh (by kernel_rfl) ?_))))))))))
 refine jt (jf Ib Z) (jt (jl k3 O22 Z Z) (jt (jmv Z) (jt (jig (i:=0) U29 Z21 k0 Z Z Z (by first|omega|(simp<;>omega))) (jt (jgI k0 (by first|omega|(simp<;>omega)) O21 Z) (jt (jco U21 Jd Z Z) (jt (jmv Z) (jt (jco U3 Jd Z (IntWalk.u32_in _ (by omega))) (jt (Ot Z Z) (jt (jix (i:=(Int.toNat (min (IntKind.u32.wrap (ix ((List.map V t.Args)++[0]) 0)) ((↑(List.length t.To))-1)))) U22 Z3 (Ay.c_To d0) Z Z (by omega) (by omega)) (jt (jlI (dix (Ay.c_To d0) (Int.toNat (min (IntKind.u32.wrap (ix ((List.map V t.Args)++[0]) 0)) ((↑(List.length t.To))-1))) (by omega)) O3 Z) (jt (jas Z) ?_)))))))))))
 refine jdn (jx (jrt (jbr (jtr ?_))))
 have q1:Cv t V=ix t.To (Int.toNat (min (IntKind.u32.wrap (ix ((List.map V t.Args)++[0]) 0)) ((((List.length t.To:Nat):Int))-1))):=by first|(simp[Cv,Cf,Cu,wT,hc1,hc2,hc4];done)|(unfold Cv;(repeat' split)<;>first|rfl|(exfalso;omega)|(simp_all[wT];done))|skip
 have q2:Cf t e0=e0:=by first|(simp[Cv,Cf,Cu,wT,hc1,hc2,hc4];done)|(unfold Cf;(repeat' split)<;>first|rfl|(exfalso;omega)|(simp_all[wT];done))|skip
 have q3:Cu t V x0=x0:=by first|(simp[Cv,Cf,Cu,wT,hc1,hc2,hc4];done)|(unfold Cu;(repeat' split)<;>first|rfl|(exfalso;omega)|(simp_all[wT];done))|skip
 simp only[q1,q2,q3]
 exact jr1 Z Z () Z dn (fun _ _=>(kc k1 (kc k1 kn)))
 refine jq (jr (js (Aj Z Z) (ja Z (jn (jx ?_)))))
 refine jif Z (fun hc5=>?_) (fun hc5=>?_)
 refine jr (jm Z (jm Z (js (jig (i:=0) U29 Z21 k0 Z Z Z (by first|omega|(simp<;>omega))) (js (jgI k0 (by first|omega|(simp<;>omega)) O21 Z) (jc Wq Z Z (Vf _ _ Z om oc oa) dn (kc k1 kn) (fun _=>p0) (fun _=>p1) fun _=>jn (jbn (jx (jq (jr (ja Z ?_))))))))))
 refine jn (jx (jrt ?_))
 have q1:Cv t V=0:=by first|(simp[Cv,Cf,Cu,wT,hc1,hc2,hc4,hc5];done)|(unfold Cv;(repeat' split)<;>first|rfl|(exfalso;omega)|(simp_all[wT];done))|skip
 have q2:Cf t e0=1:=by first|(simp[Cv,Cf,Cu,wT,hc1,hc2,hc4,hc5];done)|(unfold Cf;(repeat' split)<;>first|rfl|(exfalso;omega)|(simp_all[wT];done))|skip
 have q3:Cu t V x0=ix ((List.map V t.Args)++[0]) 0:=by first|(simp[Cv,Cf,Cu,wT,hc1,hc2,hc4,hc5];done)|(unfold Cu;(repeat' split)<;>first|rfl|(exfalso;omega)|(simp_all[wT];done))|skip
 simp only[q1,q2,q3]
 exact jr1 Z Z () Z dn (fun _ _=>(kc k0 (kc k1 kn)))
 refine jr (jm Z (js (jf S0 Z) (js (jl k3 O21 Z Z) (jc Wq Z Z (Vf _ _ Z om oc oa) dn (kc k1 kn) (fun _=>p0) (fun _=>p1) fun _=>jn (jbn (jx (jq (jr (ja Z (jn ?_))))))))))
 refine jx (jrt ?_)
 have q1:Cv t V=0:=by first|(simp[Cv,Cf,Cu,wT,hc1,hc2,hc4,hc5];done)|(unfold Cv;(repeat' split)<;>first|rfl|(exfalso;omega)|(simp_all[wT];done))|skip
 have q2:Cf t e0=2:=by first|(simp[Cv,Cf,Cu,wT,hc1,hc2,hc4,hc5];done)|(unfold Cf;(repeat' split)<;>first|rfl|(exfalso;omega)|(simp_all[wT];done))|skip
 have q3:Cu t V x0=t.Imm:=by first|(simp[Cv,Cf,Cu,wT,hc1,hc2,hc4,hc5];done)|(unfold Cu;(repeat' split)<;>first|rfl|(exfalso;omega)|(simp_all[wT];done))|skip
 simp only[q1,q2,q3]
 exact jr1 Z Z () Z dn (fun _ _=>(kc k0 (kc k1 kn)))
end Go.Proofs.YtmfkkodnghambaaGreat
namespace Go.Proofs.YtmfkkodnghambaaGreat
open Go.JE
theorem Aa6:Ent Tryz.prog 100:=⟨_,Tryz.func100,by kernel_rfl,by kernel_rfl⟩
theorem OG{x:D.In}{c:Int}{g1:Nat}:Tr Tryz.prog 100 #[vIn x (),.pointer (some ⟨g1,0,none⟩)] [da rIn (vIn x ()) x] [bx g1 3 [.int .i64 c]] (fun _:Unit => .bool (Ei c x)) (fun _=>[]) (fun _ _=>[bx g1 3 [.int .i64 c]]):=by
 refine Af (args:=[vIn x (),.pointer (some ⟨g1,0,none⟩)]) Tryz.func100 rfl rfl rfl fun w0 X=>?_
 refine jq (jr (Bj Z Z fun g2=>ja Z (jn (jx (jq (jr (js (jf Ur Z) (js (jl k0 O3 Z Z) (js (jl k1 O3 Z Z) (js (Aj Z Z) ?_))))))))))
 refine ja Z (jn (jx (jrt ?_)))
 exact jr1 Z Z () (congrArg Value.bool (Eq.symm (by rfl))) dn (fun _ _=>(kc k1 kn))
theorem OF{g0 gm:Nat}{V:Int→Int}{m0 c0 a0:Value}{e0 x0 st0 ss0:Int}{a1:Value}{l:List D.Phi}(fr:Int)(om:m0.oneCell'=true)(oc:c0.oneCell'=true)(oa:a0.oneCell'=true)(hp:∀p∈l,fr∈p.In.map (fun x=>x.From)):Tr Tryz.prog 48 #[.pointer (some ⟨g0,0,none⟩),a1,.int .i64 fr] [dv (rL As) a1 l] [bx g0 115 [.map (some gm),.int .i64 e0,.int .i32 x0,m0,c0,.int .i64 st0,a0,.int .i64 ss0],vm gm V] (fun _:Unit => .tuple #[]) (fun _=>[]) (fun _ _=>[bx g0 115 [.map (some gm),.int .i64 e0,.int .i32 x0,m0,c0,.int .i64 st0,a0,.int .i64 ss0],vm gm (Po fr l V)]):=by
 refine Af (args:=[.pointer (some ⟨g0,0,none⟩),a1,.int .i64 fr]) Tryz.func48 rfl rfl rfl fun w0 X=>?_
 refine cvw k1 fun hvw=>jq (jr (Bj Z Z fun g5=>jn (jx (jq (jr (jnn fun g12=>ja Z (jn (jx ?_))))))))
 refine jq (jq (jr (jm Z (jdq d0 fun q1 w1=>js (jln U57 d0 Z) (jm Z (jn (jx (jb ?_))))))))
 refine jlp (u2 fun(k:Nat) (nx:List (Int×Int))=>⟨k≤l.length∧nx=Om fr V (l.take k) [],[dv (rL As) a1 l],[nm g12 nx,bx g5 3 [.int .i64 fr],bx g0 115 [.map (some gm),.int .i64 e0,.int .i32 x0,m0,c0,.int .i64 st0,a0,.int .i64 ss0],vm gm V],[(0,.pointer (some ⟨g0,0,none⟩)),(5,.pointer (some ⟨g5,0,none⟩)),(6,.map (some g12)),(13,a1),(14,.int .i64 (↑l.length)),(15,.int .i64 (↑k))],l.length-k⟩) (0,[]) ⟨by dsimp only;omega,rfl⟩ (dc d0 dn) (kd (kd kn)) ⟨Z,Z,Z,Z,Z,eqI (by omega),trivial⟩ ?_
 rintro⟨k,nx⟩;dsimp only[u2];rintro⟨hk,hnx⟩
 refine jq (jr (js (Ai Z Z) (jn (jx (jq ?_)))))
 refine jif Z (fun hc1=>?_) (fun hc1=>?_)
 have hix:=FI (hp _ (Ax (l:=l) (i:=k) (by omega)))
 refine jsk (jx (jq (jb (jq (jr (js (jix U57 Z65 d0 Z Z Z (by omega)) (jA Oi (jlA (dix d0 k (by omega)) A65 Z65 Z) fun c18=>Bg J65 Z fun g8=>jdq (As.c_In d0) fun q3 w3=>Az k0 Z65 Z Z Z ⟨Z,w3.one,trivial⟩ (saf Z) (jn ?_))))))))
 refine jx (jq (jr (js (jf Ld Z) (js (jl k0 O63 Z Z) (js (Ou Z) (jcp E81 Z Z (L7 (Ei fr) Aa6 (fun x _ c=>Tr.it OG ir)) (dc (As.c_In d0) (dc (db dn) dn)) (kc k2 kn) p1 (ja Z (jn (jx (Cp false (.a 0 (.a 1 (.a 2 (.a 3 (.a 4 (.a 5 (.a 6 (.a 7 (.a 8 (.a 9 (.a 10 (.a 11 (.a 12 (.a 13 (.o 14 .e))))))))))))))) Bh (by kernel_rfl) (kc k1 (kc k2 (kc k2 kn))) fun F4=>jy Z (jmv Z) ?_))))))))))
 refine jy Z (jf Pf Z) (jy Z (jl k0 O3 Z Z) (jy Z (jmv Z) (jy Z (Ad Z) (jy Z (jf Li Z) (jy Z (jl k1 Fv Z Z) (jy Z (jf Ld Z) (jy Z (jl k0 O63 Z Z) (jy Z (jmv Z) (jy Z (jix (i:=(Int.toNat (Di ((ix l k).In) (Ei fr)))) U63 Jr (As.c_In d0) Z Z (by omega) (by omega)) (jy Z (jf Wl Z) (jy Z (jlI (rIn.A_Val (dix (As.c_In d0) (Int.toNat (Di ((ix l k).In) (Ei fr))) (by omega))) O3 Z) ?_)))))))))))
 refine jy Z (jvk Ej U3 J21 k2 Z Z) (jyo Z (jnu Ej U3 k2 Z Z Z (jyn d0 (kc k2 (kc k2 (kc k2 kn))) (jyd (jbn (jx (jr (js (Ac Z Z (by omega)) (jm Z (jn ?_))))))))))
 exact jag (k+1,upW nx ((ix l k).Dst) (V ((ix ((ix l k).In) (Int.toNat (Di ((ix l k).In) (Ei fr)))).Val))) ⟨by dsimp only;omega,by dsimp only;rw[PY (by omega),←hnx]⟩ (dc d2 dn) (kd (kc k1 (kc k1 kn))) ⟨Z,Z,Z,Z,Z,eqI (by omega),trivial⟩
 have hnd:(nx.map (·.1)).Nodup:=by rw[hnx];exact CG _ _ (by simp)
 have hnw:∀p∈nx,IntKind.i32.wrap p.2=p.2:=by rw[hnx];exact N6 (nx:=[]) hvw _ _ (fun p h=>by cases h)
 refine jex (jtx (jtx (jbh (jx (jq (jr (jm Z (jri Ej k0 Z fun g39=>jn (jx (jb ?_))))))))))
 refine jlp (u2 fun(vis:List Int) (V2:Int→Int)=>⟨(vis.Nodup∧∀y∈vis,y∈nx.map (·.1))∧V2=Qt nx vis V,[],[mit g39 g12 nx vis,bx g0 115 [.map (some gm),.int .i64 e0,.int .i32 x0,m0,c0,.int .i64 st0,a0,.int .i64 ss0],vm gm V2],[(0,.pointer (some ⟨g0,0,none⟩)),(39,.pointer (some ⟨g39,0,none⟩))],nx.length-vis.length⟩) ([],V) ⟨⟨by simp,by simp⟩,by dsimp only;funext j;simp[Qt]⟩ dn (kc k0 (kc k1 (kc k1 kn))) ⟨Z,Z,trivial⟩ ?_
 rintro⟨vis,V2⟩;dsimp only[u2];rintro⟨hv,hV2⟩
 refine jq (jr ?_)
 refine jni k0 Z (fun hd1=>?_) (fun y1 z1 hy1 hn1=>?_)
 refine js (Be Z Z) (jn (jx (jq ?_)))
 refine jif Z (fun hc2=>?_) (fun hc2=>?_)
 exact absurd hc2 (by simp)
 refine jex (jtx (jtx (jbh ?_)))
 obtain rfl:V2=Po fr l V:=by rw[hV2,QB hd1,hnx,List.take_of_length_le (by omega)];rfl
 exact jd0 Z () Z dn (fun _ _=>(kc k1 (kc k1 kn)))
 have hlt1:=KQ hv.1 hv.2 hy1 hn1
 refine js (Be Z Z) (jn (jx (jq ?_)))
 refine jif Z (fun hc3=>?_) (fun hc3=>?_)
 refine jsk (jx (jb (jq (jr (js (jei k0 hy1 Z) (js (Be Z Z) (js (Be Z Z) (ja Z (ja Z (jn (jx ?_)))))))))))
 refine jr (jm Z (js (Ad Z) (js (jf Li Z) (js (jl k1 Fv Z Z) (jm Z (jm Z (jvu Ej U3 k2 Z Z Z (wp (hnw _ hy1)) (jn (jbn ?_)))))))))
 exact jag (vis++[y1],Bf V2 y1 z1) ⟨⟨KP hv.1 hn1,fun y h=>(List.mem_append.1 h).elim (hv.2 y) (fun h=>by simp at h;subst h;exact List.mem_map.2 ⟨_,hy1,rfl⟩)⟩,by dsimp only;rw[hV2];exact QA hnd hy1⟩ dn (kc k1 (kc k1 (kc k0 kn))) ⟨Z,Z,trivial⟩ (by dsimp only[u2];rw[List.length_append];simp;omega)
 exact absurd hc3 (by simp)
end Go.Proofs.YtmfkkodnghambaaGreat
namespace Go.Proofs.YtmfkkodnghambaaGreat
open Go.JE
theorem Wp:Ent Tryz.prog 103:=⟨_,Tryz.func103,by kernel_rfl,by kernel_rfl⟩
theorem Gi:Fld Tryz.prog 115 2 6:=⟨_,_,Tryz.underlying115,rfl,rfl,1,(by unfold Sz;kernel_rfl),by decide⟩
attribute [local simp] Ci Dg Dp Cn Dh Dk Fq aI
theorem OI{g0 gm Bm Bc:Nat}{V:Int→Int}{mv cv av:Value}{me an:List Int}{cl:List D.Event}{e0 x0 st0 ss0:Int}{a1:Value}{i:D.Ins}(hO:(1≤i.Op∧i.Op≤18)∧(Eu i.Op).1≤(i.Args.length:Int)∧(i.Args.length:Int)≤(Eu i.Op).2)(hml:me.length<1073741824)(hcl:cl.length<1000000000):Tr Tryz.prog 50 #[.pointer (some ⟨g0,0,none⟩),vIns i a1] [dv (rL (rI .i32)) av an,da Ae (vIns i a1) i] [bx g0 115 [.map (some gm),.int .i64 e0,.int .i32 x0,mv,cv,.int .i64 st0,av,.int .i64 ss0],vm gm V,gl Bm (rI .i32) 21 mv me,gl Bc Eh 74 cv cl] (fun c:Value×Value => .tuple #[]) (fun c=>[dv (rL (rI .i32)) c.2 (Dk i an)]) (fun _ c=>[bx g0 115 [.map (some gm),.int .i64 (Dg i V me e0),.int .i32 (Dp i V me x0),mv,c.1,.int .i64 st0,c.2,.int .i64 ss0],vm gm (Ci i V me an),gl Bm (rI .i32) 21 mv (Cn i V me),gl Bc Eh 74 c.1 (Dh i V cl)]):=by
 refine Af (args:=[.pointer (some ⟨g0,0,none⟩),vIns i a1]) Tryz.func50 rfl rfl rfl fun w0 X=>?_
 refine cgo k2 fun w1=>cgo k3 fun w2=>cvw k1 fun hvw=>?_
 obtain⟨ho15,ho2,hol⟩:=QW hO
 have hwl:(List.map V i.Args).length=i.Args.length:=by simp
 refine jq (jr (Bj Z Z fun g2=>Bj Z Z fun g3=>jn (jx (jq (jr (js (jl k1 Fw Z Z) (js (jf Mg Z) (js (jl k0 O22 Z Z) (jdq d0 fun q3 w3=>?_)))))))))
 refine jc JL Z Z (AP w1.one w2.one w3.one) (dc (Ae.c_Args d1) dn) (kc k2 (kc k2 kn)) (fun _=>p0) (fun _=>p3) fun v11=>jgo k2 fun w4=>ja Z (jn (jx (jq (jr (js (Ou Z) (ja Z (jn (jx (jq ?_)))))))))
 refine jr (js (jf Nb Z) (js (jl k3 O3 Z Z) (jn (jx (jb (jq (jr (js (Aj Z Z) (ja Z (jn (jx ?_)))))))))))
 refine jif Z (fun hc1=>?_) (fun hc1=>?_)
 refine Cp false (.a 0 (.a 1 (.a 2 (.a 3 (.a 4 (.a 5 (.a 6 (.a 7 (.o 8 .e))))))))) Bh (by kernel_rfl) (kc k0 (kc k2 (kc k2 kn))) fun F5=>jy Z (jl k2 Fw Z Z) (jy Z (Ad Z) (jy Z (jf Li Z) (jy Z (jl k0 Fv Z Z) (jy Z (jf Gh Z) (jy Z (jl k1 O3 Z Z) (jy Z (jf Na Z) (jy Z (jl k1 O21 Z Z) (jyo Z (jvu Ej U3 k1 Z Z Z (Ae.W_Imm d2) (jyn d0 (kc k1 (kc k2 (kc k2 kn))) ?_))))))))))
 refine jyd (jbn ?_)
 have q1:Ci i V me an=Bf V i.Dst i.Imm:=by simp[hc1]
 have q2:Dg i V me e0=e0:=by simp[hc1]
 have q3:Dp i V me x0=x0:=by simp[hc1]
 have q4:Cn i V me=me:=by simp[hc1]
 have q5:Dh i V cl=cl:=by simp[hc1]
 have q6:Dk i an=an:=by simp[hc1]
 simp only[q1,q2,q3,q4,q5,q6]
 exact jd0 Z (cv,av) Z (dc d1 dn) (fun _ _=>(kc k1 (kc k0 (kc k3 (kc k3 kn)))))
 refine jq (jr (js (Aj Z Z) (ja Z (jn (jx ?_)))))
 refine jif Z (fun hc2=>?_) (fun hc2=>?_)
 have ho15:=ho15 hc2
 refine Cp false (.a 0 (.a 1 (.a 2 (.a 4 (.a 5 (.a 6 (.a 7 (.a 8 (.a 9 (.a 10 (.a 12 (.a 13 (.a 14 (.a 15 (.a 16 (.a 17 (.w 3 11 (.o 11 (.o 18 (.a 19 (.a 20 (.o 21 (.o 22 .e)))))) (.w 3 18 (.o 18 (.a 19 (.a 20 (.o 21 (.o 22 .e))))) (.a 19 (.a 20 (.w 3 21 (.o 21 (.o 22 .e)) (.o 3 (.o 22 .e))))))))))))))))))))))) Bh (by kernel_rfl) (kc k2 (kc k2 (kc k2 kn))) fun F7=>jy Z (jl k2 Fw Z Z) (jy Z (Ad Z) (jy Z (jf Li Z) (jy Z (jf Gh Z) (jy Z (jl k1 O3 Z Z) (jy Z (jmv Z) (jy Z (jl k2 Fw Z Z) (jy Z (Ad Z) (jy Z (jf Ic Z) (jy Z (jf Un Z) (jy Z (jmv Z) ?_))))))))))
 refine jy Z (jig (i:=0) U29 Z21 k0 Z Z Z (by first|omega|(simp<;>omega))) (jy Z (jgI k0 (by first|omega|(simp<;>omega)) O21 Z) (jy Z (jf Na Z) (jy Z (jl k1 O21 Z Z) (jy Z (Ov Z Z) ?_))))
 refine jyw Z Z ?_ ?_
 refine js (jl k0 Fv Z Z) (jyn d0 (kc k2 (kc k2 (kc k2 kn))) (jyo Z (js (jl k0 O29 Z Z) (jyn d0 (kc k2 (kc k2 (kc k2 kn))) (jyo Z (jc E85 Z Z (Tv.temp 1073741824 (Sn (IntKind.i32.wrap ((ix (List.map V i.Args) 0)+i.Imm)) (JE.wrap_wrap _ _)) (by omega)) dn (kc k5 kn) (fun _=>p0) (fun _=>p1) fun _=>jyn d0 (kc k3 (kc k3 (kc k3 kn))) (jy Z (Be Z Z) (jy Z (Be Z Z) (jyo Z (jc Wp Z Z (Ve _ _ Z w1.one w2.one w3.one) dn (kc k1 (kc k4 kn)) (fun _=>p0) (fun _=>p2) fun _=>?_))))))))))
 refine jyn d0 (kc k4 (kc k4 (kc k1 kn))) (jyo Z (jvu Ej U3 k3 Z Z Z (wld k2 (IntKind.i32.wrap ((ix (List.map V i.Args) 0)+i.Imm))) (jyn d0 (kc k4 (kc k4 (kc k2 kn))) (jyd (jbn ?_)))))
 have q1:Ci i V me an=Bf V i.Dst ((Bq me (IntKind.i32.wrap ((ix (List.map V i.Args) 0)+i.Imm))).1):=by simp[hc1,hc2]
 have q2:Dg i V me e0=if ((Bq me (IntKind.i32.wrap ((ix (List.map V i.Args) 0)+i.Imm))).2)=true then e0 else 2:=by simp[hc1,hc2];split<;>simp_all
 have q3:Dp i V me x0=if ((Bq me (IntKind.i32.wrap ((ix (List.map V i.Args) 0)+i.Imm))).2)=true then x0 else -2:=by simp[hc1,hc2];split<;>simp_all
 have q4:Cn i V me=me:=by simp[hc1,hc2]
 have q5:Dh i V cl=cl:=by simp[hc1,hc2]
 have q6:Dk i an=an:=by simp[hc1,hc2]
 simp only[q1,q2,q3,q4,q5,q6]
 exact jd0 Z (cv,av) Z (dc d5 dn) (fun _ _=>(kc k1 (kc k0 (kc k1 (kc k3 kn)))))
 refine js (jl k0 O29 Z Z) (jyn d0 (kc k2 (kc k2 (kc k2 kn))) ?_)
 refine jyw Z Z ?_ ?_
 refine js (jl k0 Fv Z Z) (jyn d0 (kc k2 (kc k2 (kc k2 kn))) (jyo Z (jc E85 Z Z (Tv.temp 1073741824 (Sn (IntKind.i32.wrap ((ix (List.map V i.Args) 0)+i.Imm)) (JE.wrap_wrap _ _)) (by omega)) dn (kc k5 kn) (fun _=>p0) (fun _=>p1) fun _=>jyn d0 (kc k3 (kc k3 (kc k3 kn))) (jy Z (Be Z Z) (jy Z (Be Z Z) (jyo Z (jc Wp Z Z (Ve _ _ Z w1.one w2.one w3.one) dn (kc k1 (kc k4 kn)) (fun _=>p0) (fun _=>p2) fun _=>jyn d0 (kc k4 (kc k4 (kc k1 kn))) (jyo Z (jvu Ej U3 k3 Z Z Z (wld k2 (IntKind.i32.wrap ((ix (List.map V i.Args) 0)+i.Imm))) ?_)))))))))
 refine jyn d0 (kc k4 (kc k4 (kc k2 kn))) (jyd (jbn ?_))
 have q1:Ci i V me an=Bf V i.Dst ((Bq me (IntKind.i32.wrap ((ix (List.map V i.Args) 0)+i.Imm))).1):=by simp[hc1,hc2]
 have q2:Dg i V me e0=if ((Bq me (IntKind.i32.wrap ((ix (List.map V i.Args) 0)+i.Imm))).2)=true then e0 else 2:=by simp[hc1,hc2];split<;>simp_all
 have q3:Dp i V me x0=if ((Bq me (IntKind.i32.wrap ((ix (List.map V i.Args) 0)+i.Imm))).2)=true then x0 else -2:=by simp[hc1,hc2];split<;>simp_all
 have q4:Cn i V me=me:=by simp[hc1,hc2]
 have q5:Dh i V cl=cl:=by simp[hc1,hc2]
 have q6:Dk i an=an:=by simp[hc1,hc2]
 simp only[q1,q2,q3,q4,q5,q6]
 exact jd0 Z (cv,av) Z (dc d5 dn) (fun _ _=>(kc k1 (kc k0 (kc k1 (kc k3 kn)))))
 refine jc E85 Z Z (Tv.temp 1073741824 (Sn (IntKind.i32.wrap ((ix (List.map V i.Args) 0)+i.Imm)) (JE.wrap_wrap _ _)) (by omega)) dn (kc k5 kn) (fun _=>p0) (fun _=>p1) fun _=>jyn d0 (kc k3 (kc k3 (kc k3 kn))) (jy Z (Be Z Z) (jy Z (Be Z Z) ?_))
 refine jyw Z Z ?_ ?_
 refine js (jl k1 Fv Z Z) (jyn d0 (kc k3 (kc k3 (kc k3 kn))) (jyo Z (jc Wp Z Z (Ve _ _ Z w1.one w2.one w3.one) dn (kc k1 (kc k4 kn)) (fun _=>p0) (fun _=>p2) fun _=>jyn d0 (kc k4 (kc k4 (kc k1 kn))) (jyo Z (jvu Ej U3 k3 Z Z Z (wld k2 (IntKind.i32.wrap ((ix (List.map V i.Args) 0)+i.Imm))) (jyn d0 (kc k4 (kc k4 (kc k2 kn))) (jyd (jbn ?_))))))))
 have q1:Ci i V me an=Bf V i.Dst ((Bq me (IntKind.i32.wrap ((ix (List.map V i.Args) 0)+i.Imm))).1):=by simp[hc1,hc2]
 have q2:Dg i V me e0=if ((Bq me (IntKind.i32.wrap ((ix (List.map V i.Args) 0)+i.Imm))).2)=true then e0 else 2:=by simp[hc1,hc2];split<;>simp_all
 have q3:Dp i V me x0=if ((Bq me (IntKind.i32.wrap ((ix (List.map V i.Args) 0)+i.Imm))).2)=true then x0 else -2:=by simp[hc1,hc2];split<;>simp_all
 have q4:Cn i V me=me:=by simp[hc1,hc2]
 have q5:Dh i V cl=cl:=by simp[hc1,hc2]
 have q6:Dk i an=an:=by simp[hc1,hc2]
 simp only[q1,q2,q3,q4,q5,q6]
 exact jd0 Z (cv,av) Z (dc d5 dn) (fun _ _=>(kc k1 (kc k0 (kc k1 (kc k3 kn)))))
 refine jc Wp Z Z (Ve _ _ Z w1.one w2.one w3.one) dn (kc k1 (kc k4 kn)) (fun _=>p0) (fun _=>p2) fun _=>jyn d0 (kc k4 (kc k4 (kc k1 kn))) (jyo Z (js (jl k0 Fv Z Z) (jyn d0 (kc k4 (kc k4 (kc k1 kn))) (jyo Z (jvu Ej U3 k3 Z Z Z (wld k2 (IntKind.i32.wrap ((ix (List.map V i.Args) 0)+i.Imm))) (jyn d0 (kc k4 (kc k4 (kc k2 kn))) (jyd (jbn ?_))))))))
 have q1:Ci i V me an=Bf V i.Dst ((Bq me (IntKind.i32.wrap ((ix (List.map V i.Args) 0)+i.Imm))).1):=by simp[hc1,hc2]
 have q2:Dg i V me e0=if ((Bq me (IntKind.i32.wrap ((ix (List.map V i.Args) 0)+i.Imm))).2)=true then e0 else 2:=by simp[hc1,hc2];split<;>simp_all
 have q3:Dp i V me x0=if ((Bq me (IntKind.i32.wrap ((ix (List.map V i.Args) 0)+i.Imm))).2)=true then x0 else -2:=by simp[hc1,hc2];split<;>simp_all
 have q4:Cn i V me=me:=by simp[hc1,hc2]
 have q5:Dh i V cl=cl:=by simp[hc1,hc2]
 have q6:Dk i an=an:=by simp[hc1,hc2]
 simp only[q1,q2,q3,q4,q5,q6]
 exact jd0 Z (cv,av) Z (dc d5 dn) (fun _ _=>(kc k1 (kc k0 (kc k1 (kc k3 kn)))))
 refine jq (jr (js (Aj Z Z) (ja Z (jn (jx ?_)))))
 refine jif Z (fun hc3=>?_) (fun hc3=>?_)
 have ho2:=ho2 hc1 hc2 (by omega)
 refine Cp false (.a 0 (.a 1 (.a 2 (.a 3 (.a 4 (.a 6 (.a 7 (.a 8 (.a 9 (.a 10 (.a 11 (.a 12 (.a 13 (.a 14 (.o 5 (.o 15 (.o 16 .e))))))))))))))))) Bh (by kernel_rfl) (kc k2 (kc k2 (kc k2 kn))) fun F13=>jy Z (jmv Z) (jy Z (jl k2 Fw Z Z) (jy Z (Ad Z) (jy Z (jf Ic Z) (jy Z (jf Un Z) (jy Z (jmv Z) (jy Z (jig (i:=0) U29 Z21 k0 Z Z Z (by first|omega|(simp<;>omega))) (jy Z (jgI k0 (by first|omega|(simp<;>omega)) O21 Z) (jy Z (jf Na Z) (jy Z (jl k1 O21 Z Z) (jy Z (Ov Z Z) ?_))))))))))
 refine jy Z (jmv Z) (jy Z (jig (i:=1) U29 Z21 k0 Z Z Z (by first|omega|(simp<;>omega))) (jy Z (jgI k0 (by first|omega|(simp<;>omega)) O21 Z) (jyo Z (js (jl k0 O29 Z Z) (jyn d0 (kc k2 (kc k2 (kc k2 kn))) (jyo Z (jwr (wgl (i:=1) k2 (by omega)) fun w16=>jc E86 Z Z (H5 (IntKind.i32.wrap ((ix (List.map V i.Args) 0)+i.Imm)) (ix (List.map V i.Args) 1) (by omega) (JE.wrap_wrap _ _) w16) dn (kc k5 kn) (fun _=>p0) (fun _=>p1) fun _=>jyn d0 (kc k3 (kc k3 (kc k3 kn))) (jyo Z (jc Wp Z Z (Ve _ _ Z w1.one w2.one w3.one) dn (kc k1 (kc k4 kn)) (fun _=>p0) (fun _=>p2) fun _=>?_)))))))))
 refine jyn d0 (kc k4 (kc k4 (kc k1 kn))) (jyd (jbn ?_))
 have q1:Ci i V me an=V:=by simp[hc1,hc2,hc3]
 have q2:Dg i V me e0=if (Hh me (IntKind.i32.wrap ((ix (List.map V i.Args) 0)+i.Imm)) (ix (List.map V i.Args) 1))=true then e0 else 2:=by simp[hc1,hc2,hc3];split<;>simp_all
 have q3:Dp i V me x0=if (Hh me (IntKind.i32.wrap ((ix (List.map V i.Args) 0)+i.Imm)) (ix (List.map V i.Args) 1))=true then x0 else -2:=by simp[hc1,hc2,hc3];split<;>simp_all
 have q4:Cn i V me=Hi me (IntKind.i32.wrap ((ix (List.map V i.Args) 0)+i.Imm)) (ix (List.map V i.Args) 1):=by simp[hc1,hc2,hc3]
 have q5:Dh i V cl=cl:=by simp[hc1,hc2,hc3]
 have q6:Dk i an=an:=by simp[hc1,hc2,hc3]
 simp only[q1,q2,q3,q4,q5,q6]
 exact jd0 Z (cv,av) Z (dc d3 dn) (fun _ _=>(kc k0 (kc k2 (kc k1 (kc k3 kn)))))
 refine jq (jr (js (Aj Z Z) (ja Z (jn (jx ?_)))))
 refine jif Z (fun hc4=>?_) (fun hc4=>?_)
 refine jq (Cp false (.a 0 (.a 1 (.a 2 (.a 3 (.a 4 (.a 6 (.a 7 (.a 8 (.a 9 (.w 5 10 (.o 10 (.o 11 (.a 12 (.a 13 (.a 14 (.o 15 .e)))))) (.o 5 (.o 11 (.a 12 (.a 13 (.a 14 (.o 15 .e)))))))))))))))) Bh (by kernel_rfl) (kc k3 (kc k3 kn)) fun F18=>jy Z (jl k1 Fw Z Z) (jy Z (jl k1 Fw Z Z) (jy Z (Ad Z) (jy Z (jf Ic Z) (jy Z (jf Rq Z) (jy Z (jf Na Z) (jy Z (jl k0 O21 Z Z) (jy Z (jmv Z) (jy Z (jbu (v := .agg #[.int .i32 i.Imm,v11]) Z (fun _=>by obtain⟨_,_,_,rfl⟩:=w4;kernel_rfl)) ?_)))))))))
 refine jyw Z Z ?_ ?_
 refine js (jl k0 O35 Z Z) (jyn d0 (kc k3 (kc k3 kn)) (jyo Z (jfz k2 (by(try simp)<;>omega) (Ba (r:=Eh) (l:=[⟨i.Imm,List.map V i.Args⟩]) U35 I74 (by decide) Z Z Z (lA (Eh.M (m:=⟨i.Imm,List.map V i.Args⟩) (c:=v11) d0 (Ae.W_Imm d4)) ln) fun g103=>jyn d1 (kc k3 (kc k3 kn)) (jyo Z (jfz k0 (by(try simp)<;>omega) (Ev U35 I74 (by decide) Z k5 Z Z d0 (by(try simp)<;>omega) fun v104 w24=>jyn d1 (kc k3 (kc k3 kn)) (jy Z (Ad Z) (jy Z (jf Ic Z) ?_)))))))))
 refine jy Z (jf Rq Z) (jyo Z (jst k1 Z35 Z Z w24.one s4 (jyn d0 (kc k3 (kc k3 kn)) (jyd (jx (jq (Cp false (.a 0 (.a 1 (.a 2 (.a 3 (.a 4 (.a 5 (.o 6 .e))))))) Bh (by kernel_rfl) (kc k0 (kc k2 (kc k2 kn))) fun F26=>jy Z (jl k2 Fw Z Z) (jy Z (Ad Z) (jy Z (jf Li Z) (jy Z (jl k0 Fv Z Z) ?_))))))))))
 refine jy Z (jf Gh Z) (jy Z (jl k1 O3 Z Z) (jyo Z (jvu Ej U3 k2 Z Z Z (wl 0) (jyn d0 (kc k1 (kc k2 (kc k2 kn))) (jyd (jx (jq (jr (js (jl k4 Fw Z Z) (js (Ad Z) (js (jf Gi Z) ?_)))))))))))
 refine js (jl k1 O29 Z Z) (js (jln U29 d7 Z) (js (Fi Z Z) (jn (jx ?_))))
 refine jif Z (fun hc5=>?_) (fun hc5=>?_)
 refine Cp false (.a 0 (.a 1 (.a 2 (.a 4 (.a 5 (.a 6 (.a 7 (.a 8 (.a 9 (.a 13 (.a 14 (.a 15 (.w3 3 10 16 (.w 10 16 (.a 11 (.a 12 (.o 16 (.a 17 (.o 18 (.a 19 (.o 20 (.a 21 (.a 22 (.o 23 .e)))))))))) (.a 17 (.w 10 18 (.a 11 (.a 12 (.o 18 (.a 19 (.o 20 (.a 21 (.a 22 (.o 23 .e)))))))) (.a 19 (.o 10 (.a 11 (.a 12 (.o 20 (.a 21 (.a 22 (.o 23 .e))))))))))) (.a 11 (.a 12 (.w 3 16 (.o 16 (.a 17 (.o 18 (.a 19 (.o 20 (.a 21 (.a 22 (.o 23 .e)))))))) (.a 17 (.o 3 (.o 18 (.a 19 (.o 20 (.a 21 (.a 22 (.o 23 .e))))))))))) (.a 17 (.w 3 10 (.w 10 18 (.a 11 (.a 12 (.o 18 (.a 19 (.o 20 (.a 21 (.a 22 (.o 23 .e)))))))) (.a 19 (.o 10 (.a 11 (.a 12 (.o 20 (.a 21 (.a 22 (.o 23 .e))))))))) (.a 11 (.a 12 (.o 3 (.o 18 (.a 19 (.o 20 (.a 21 (.a 22 (.o 23 .e)))))))))))))))))))))))) Bh (by kernel_rfl) (kc k3 (kc k3 kn)) fun F28=>jy Z (jl k1 Fw Z Z) (jy Z (Ad Z) (jy Z (jf Li Z) (jy Z (jf Gh Z) (jy Z (jl k0 O3 Z Z) (jy Z (jl k1 Fw Z Z) (jy Z (jl k1 Fw Z Z) (jy Z (Ad Z) (jy Z (jf Gi Z) (jy Z (jl k1 Fw Z Z) (jy Z (Ad Z) ?_))))))))))
 refine jy Z (jf Gi Z) ?_
 refine EO Z Z Z ?_ ?_ ?_
 refine js (jl k1 Fv Z Z) (jyn d0 (kc k3 (kc k3 kn)) ?_)
 refine jyw Z Z ?_ ?_
 refine js (jl k1 O29 Z Z) (jyn d0 (kc k3 (kc k3 kn)) (jy Z (jix (i:=0) U29 Z21 d7 Z Z Z (by omega)) (jy Z (jlI (dix d7 0 (by omega)) O21 Z) (jyo Z (js (jl k1 O29 Z Z) (jyn d0 (kc k3 (kc k3 kn)) (jy Z (Lz (lo:=1) U29 Z21 d7 Z Z Z (by omega)) (jyo Z (jve Ej U3 J21 k0 Z Z fun u138 s138=>jyn d0 (kc k3 (kc k3 kn)) (jy Z (Be Z Z) ?_))))))))))
 refine jyo Z (jvs k0 Z Z Z (wad (dix d12 0 (by omega))) (jyn d0 (kc k3 (kc k3 kn)) (jy Z (Ad Z) (jy Z (jf Gi Z) (jyo Z (jdq (dlo d13 1 (by omega) (by omega)) fun q35 w35=>jst k1 Z29 Z Z w35.one s6 (jyn d0 (kc k3 (kc k3 kn)) (jyd (jbn ?_)))))))))
 have q1:Ci i V me an=Bf (Bf V i.Dst 0) i.Dst (ix an 0):=by simp_all
 have q2:Dg i V me e0=e0:=by simp[hc1,hc2,hc3,hc4,hc5]
 have q3:Dp i V me x0=x0:=by simp[hc1,hc2,hc3,hc4,hc5]
 have q4:Cn i V me=me:=by simp[hc1,hc2,hc3,hc4,hc5]
 have q5:Dh i V cl=cl++([⟨i.Imm,List.map V i.Args⟩]):=by simp[hc1,hc2,hc3,hc4,hc5]
 have q6:Dk i an=List.drop 1 an:=by simp[hc1,hc2,hc3,hc4,hc5]
 simp only[q1,q2,q3,q4,q5,q6]
 exact jd0 Z (v104,(resl 1 av 1 an.length)) Z (dc (dlo d13 1 (by omega) (by omega)) dn) (fun _ _=>(kd (kc k3 (kc k0 kn))))
 refine js (jl k1 O29 Z Z) (jyn d0 (kc k3 (kc k3 kn)) (jy Z (Lz (lo:=1) U29 Z21 d7 Z Z Z (by omega)) ?_))
 refine jyw Z Z ?_ ?_
 refine js (jl k1 O29 Z Z) (jyn d0 (kc k3 (kc k3 kn)) (jy Z (jix (i:=0) U29 Z21 d7 Z Z Z (by omega)) (jy Z (jlI (dix d7 0 (by omega)) O21 Z) (jyo Z (jve Ej U3 J21 k0 Z Z fun u138 s138=>jyn d0 (kc k3 (kc k3 kn)) (jy Z (Be Z Z) (jyo Z (jvs k0 Z Z Z (wad (dix d12 0 (by omega))) (jyn d0 (kc k3 (kc k3 kn)) (jy Z (Ad Z) ?_))))))))))
 refine jy Z (jf Gi Z) (jyo Z (jdq (dlo d13 1 (by omega) (by omega)) fun q35 w35=>jst k1 Z29 Z Z w35.one s6 (jyn d0 (kc k3 (kc k3 kn)) (jyd (jbn ?_)))))
 have q1:Ci i V me an=Bf (Bf V i.Dst 0) i.Dst (ix an 0):=by simp_all
 have q2:Dg i V me e0=e0:=by simp[hc1,hc2,hc3,hc4,hc5]
 have q3:Dp i V me x0=x0:=by simp[hc1,hc2,hc3,hc4,hc5]
 have q4:Cn i V me=me:=by simp[hc1,hc2,hc3,hc4,hc5]
 have q5:Dh i V cl=cl++([⟨i.Imm,List.map V i.Args⟩]):=by simp[hc1,hc2,hc3,hc4,hc5]
 have q6:Dk i an=List.drop 1 an:=by simp[hc1,hc2,hc3,hc4,hc5]
 simp only[q1,q2,q3,q4,q5,q6]
 exact jd0 Z (v104,(resl 1 av 1 an.length)) Z (dc (dlo d13 1 (by omega) (by omega)) dn) (fun _ _=>(kd (kc k3 (kc k0 kn))))
 refine jve Ej U3 J21 k0 Z Z fun u138 s138=>jyn d0 (kc k3 (kc k3 kn)) (jy Z (Be Z Z) (jyo Z (js (jl k1 O29 Z Z) (jyn d0 (kc k3 (kc k3 kn)) (jy Z (jix (i:=0) U29 Z21 d7 Z Z Z (by omega)) (jy Z (jlI (dix d7 0 (by omega)) O21 Z) (jyo Z (jvs k0 Z Z Z (wad (dix d12 0 (by omega))) (jyn d0 (kc k3 (kc k3 kn)) (jy Z (Ad Z) ?_))))))))))
 refine jy Z (jf Gi Z) (jyo Z (jdq (dlo d13 1 (by omega) (by omega)) fun q35 w35=>jst k1 Z29 Z Z w35.one s6 (jyn d0 (kc k3 (kc k3 kn)) (jyd (jbn ?_)))))
 have q1:Ci i V me an=Bf (Bf V i.Dst 0) i.Dst (ix an 0):=by simp_all
 have q2:Dg i V me e0=e0:=by simp[hc1,hc2,hc3,hc4,hc5]
 have q3:Dp i V me x0=x0:=by simp[hc1,hc2,hc3,hc4,hc5]
 have q4:Cn i V me=me:=by simp[hc1,hc2,hc3,hc4,hc5]
 have q5:Dh i V cl=cl++([⟨i.Imm,List.map V i.Args⟩]):=by simp[hc1,hc2,hc3,hc4,hc5]
 have q6:Dk i an=List.drop 1 an:=by simp[hc1,hc2,hc3,hc4,hc5]
 simp only[q1,q2,q3,q4,q5,q6]
 exact jd0 Z (v104,(resl 1 av 1 an.length)) Z (dc (dlo d13 1 (by omega) (by omega)) dn) (fun _ _=>(kd (kc k3 (kc k0 kn))))
 refine js (jl k1 O29 Z Z) (jyn d0 (kc k3 (kc k3 kn)) (jy Z (jix (i:=0) U29 Z21 d7 Z Z Z (by omega)) (jy Z (jlI (dix d7 0 (by omega)) O21 Z) ?_)))
 refine jyw Z Z ?_ ?_
 refine js (jl k1 Fv Z Z) (jyn d0 (kc k3 (kc k3 kn)) (jyo Z (js (jl k1 O29 Z Z) (jyn d0 (kc k3 (kc k3 kn)) (jy Z (Lz (lo:=1) U29 Z21 d7 Z Z Z (by omega)) (jyo Z (jve Ej U3 J21 k0 Z Z fun u138 s138=>jyn d0 (kc k3 (kc k3 kn)) (jy Z (Be Z Z) (jyo Z (jvs k0 Z Z Z (wad (dix d12 0 (by omega))) ?_))))))))))
 refine jyn d0 (kc k3 (kc k3 kn)) (jy Z (Ad Z) (jy Z (jf Gi Z) (jyo Z (jdq (dlo d13 1 (by omega) (by omega)) fun q35 w35=>jst k1 Z29 Z Z w35.one s6 (jyn d0 (kc k3 (kc k3 kn)) (jyd (jbn ?_)))))))
 have q1:Ci i V me an=Bf (Bf V i.Dst 0) i.Dst (ix an 0):=by simp_all
 have q2:Dg i V me e0=e0:=by simp[hc1,hc2,hc3,hc4,hc5]
 have q3:Dp i V me x0=x0:=by simp[hc1,hc2,hc3,hc4,hc5]
 have q4:Cn i V me=me:=by simp[hc1,hc2,hc3,hc4,hc5]
 have q5:Dh i V cl=cl++([⟨i.Imm,List.map V i.Args⟩]):=by simp[hc1,hc2,hc3,hc4,hc5]
 have q6:Dk i an=List.drop 1 an:=by simp[hc1,hc2,hc3,hc4,hc5]
 simp only[q1,q2,q3,q4,q5,q6]
 exact jd0 Z (v104,(resl 1 av 1 an.length)) Z (dc (dlo d13 1 (by omega) (by omega)) dn) (fun _ _=>(kd (kc k3 (kc k0 kn))))
 refine js (jl k1 O29 Z Z) (jyn d0 (kc k3 (kc k3 kn)) (jy Z (Lz (lo:=1) U29 Z21 d7 Z Z Z (by omega)) (jyo Z (js (jl k1 Fv Z Z) (jyn d0 (kc k3 (kc k3 kn)) (jyo Z (jve Ej U3 J21 k0 Z Z fun u138 s138=>jyn d0 (kc k3 (kc k3 kn)) (jy Z (Be Z Z) (jyo Z (jvs k0 Z Z Z (wad (dix d12 0 (by omega))) ?_))))))))))
 refine jyn d0 (kc k3 (kc k3 kn)) (jy Z (Ad Z) (jy Z (jf Gi Z) (jyo Z (jdq (dlo d13 1 (by omega) (by omega)) fun q35 w35=>jst k1 Z29 Z Z w35.one s6 (jyn d0 (kc k3 (kc k3 kn)) (jyd (jbn ?_)))))))
 have q1:Ci i V me an=Bf (Bf V i.Dst 0) i.Dst (ix an 0):=by simp_all
 have q2:Dg i V me e0=e0:=by simp[hc1,hc2,hc3,hc4,hc5]
 have q3:Dp i V me x0=x0:=by simp[hc1,hc2,hc3,hc4,hc5]
 have q4:Cn i V me=me:=by simp[hc1,hc2,hc3,hc4,hc5]
 have q5:Dh i V cl=cl++([⟨i.Imm,List.map V i.Args⟩]):=by simp[hc1,hc2,hc3,hc4,hc5]
 have q6:Dk i an=List.drop 1 an:=by simp[hc1,hc2,hc3,hc4,hc5]
 simp only[q1,q2,q3,q4,q5,q6]
 exact jd0 Z (v104,(resl 1 av 1 an.length)) Z (dc (dlo d13 1 (by omega) (by omega)) dn) (fun _ _=>(kd (kc k3 (kc k0 kn))))
 refine js (jl k1 O29 Z Z) (jyn d0 (kc k3 (kc k3 kn)) (jy Z (Lz (lo:=1) U29 Z21 d7 Z Z Z (by omega)) ?_))
 refine jyw Z Z ?_ ?_
 refine js (jl k1 Fv Z Z) (jyn d0 (kc k3 (kc k3 kn)) ?_)
 refine jyw Z Z ?_ ?_
 refine js (jl k1 O29 Z Z) (jyn d0 (kc k3 (kc k3 kn)) (jy Z (jix (i:=0) U29 Z21 d7 Z Z Z (by omega)) (jy Z (jlI (dix d7 0 (by omega)) O21 Z) (jyo Z (jve Ej U3 J21 k0 Z Z fun u138 s138=>jyn d0 (kc k3 (kc k3 kn)) (jy Z (Be Z Z) (jyo Z (jvs k0 Z Z Z (wad (dix d12 0 (by omega))) (jyn d0 (kc k3 (kc k3 kn)) (jy Z (Ad Z) ?_))))))))))
 refine jy Z (jf Gi Z) (jyo Z (jdq (dlo d13 1 (by omega) (by omega)) fun q35 w35=>jst k1 Z29 Z Z w35.one s6 (jyn d0 (kc k3 (kc k3 kn)) (jyd (jbn ?_)))))
 have q1:Ci i V me an=Bf (Bf V i.Dst 0) i.Dst (ix an 0):=by simp_all
 have q2:Dg i V me e0=e0:=by simp[hc1,hc2,hc3,hc4,hc5]
 have q3:Dp i V me x0=x0:=by simp[hc1,hc2,hc3,hc4,hc5]
 have q4:Cn i V me=me:=by simp[hc1,hc2,hc3,hc4,hc5]
 have q5:Dh i V cl=cl++([⟨i.Imm,List.map V i.Args⟩]):=by simp[hc1,hc2,hc3,hc4,hc5]
 have q6:Dk i an=List.drop 1 an:=by simp[hc1,hc2,hc3,hc4,hc5]
 simp only[q1,q2,q3,q4,q5,q6]
 exact jd0 Z (v104,(resl 1 av 1 an.length)) Z (dc (dlo d13 1 (by omega) (by omega)) dn) (fun _ _=>(kd (kc k3 (kc k0 kn))))
 refine jve Ej U3 J21 k0 Z Z fun u138 s138=>jyn d0 (kc k3 (kc k3 kn)) (jy Z (Be Z Z) (jyo Z (js (jl k1 O29 Z Z) (jyn d0 (kc k3 (kc k3 kn)) (jy Z (jix (i:=0) U29 Z21 d7 Z Z Z (by omega)) (jy Z (jlI (dix d7 0 (by omega)) O21 Z) (jyo Z (jvs k0 Z Z Z (wad (dix d12 0 (by omega))) (jyn d0 (kc k3 (kc k3 kn)) (jy Z (Ad Z) ?_))))))))))
 refine jy Z (jf Gi Z) (jyo Z (jdq (dlo d13 1 (by omega) (by omega)) fun q35 w35=>jst k1 Z29 Z Z w35.one s6 (jyn d0 (kc k3 (kc k3 kn)) (jyd (jbn ?_)))))
 have q1:Ci i V me an=Bf (Bf V i.Dst 0) i.Dst (ix an 0):=by simp_all
 have q2:Dg i V me e0=e0:=by simp[hc1,hc2,hc3,hc4,hc5]
 have q3:Dp i V me x0=x0:=by simp[hc1,hc2,hc3,hc4,hc5]
 have q4:Cn i V me=me:=by simp[hc1,hc2,hc3,hc4,hc5]
 have q5:Dh i V cl=cl++([⟨i.Imm,List.map V i.Args⟩]):=by simp[hc1,hc2,hc3,hc4,hc5]
 have q6:Dk i an=List.drop 1 an:=by simp[hc1,hc2,hc3,hc4,hc5]
 simp only[q1,q2,q3,q4,q5,q6]
 exact jd0 Z (v104,(resl 1 av 1 an.length)) Z (dc (dlo d13 1 (by omega) (by omega)) dn) (fun _ _=>(kd (kc k3 (kc k0 kn))))
 refine js (jl k1 O29 Z Z) (jyn d0 (kc k3 (kc k3 kn)) (jy Z (jix (i:=0) U29 Z21 d7 Z Z Z (by omega)) (jy Z (jlI (dix d7 0 (by omega)) O21 Z) (jyo Z (js (jl k1 Fv Z Z) (jyn d0 (kc k3 (kc k3 kn)) (jyo Z (jve Ej U3 J21 k0 Z Z fun u138 s138=>jyn d0 (kc k3 (kc k3 kn)) (jy Z (Be Z Z) (jyo Z ?_))))))))))
 refine jvs k0 Z Z Z (wad (dix d12 0 (by omega))) (jyn d0 (kc k3 (kc k3 kn)) (jy Z (Ad Z) (jy Z (jf Gi Z) (jyo Z (jdq (dlo d13 1 (by omega) (by omega)) fun q35 w35=>jst k1 Z29 Z Z w35.one s6 (jyn d0 (kc k3 (kc k3 kn)) (jyd (jbn ?_))))))))
 have q1:Ci i V me an=Bf (Bf V i.Dst 0) i.Dst (ix an 0):=by simp_all
 have q2:Dg i V me e0=e0:=by simp[hc1,hc2,hc3,hc4,hc5]
 have q3:Dp i V me x0=x0:=by simp[hc1,hc2,hc3,hc4,hc5]
 have q4:Cn i V me=me:=by simp[hc1,hc2,hc3,hc4,hc5]
 have q5:Dh i V cl=cl++([⟨i.Imm,List.map V i.Args⟩]):=by simp[hc1,hc2,hc3,hc4,hc5]
 have q6:Dk i an=List.drop 1 an:=by simp[hc1,hc2,hc3,hc4,hc5]
 simp only[q1,q2,q3,q4,q5,q6]
 exact jd0 Z (v104,(resl 1 av 1 an.length)) Z (dc (dlo d13 1 (by omega) (by omega)) dn) (fun _ _=>(kd (kc k3 (kc k0 kn))))
 refine jsk (jbn ?_)
 have q1:Ci i V me an=Bf V i.Dst 0:=by simp_all
 have q2:Dg i V me e0=e0:=by simp[hc1,hc2,hc3,hc4,hc5]
 have q3:Dp i V me x0=x0:=by simp[hc1,hc2,hc3,hc4,hc5]
 have q4:Cn i V me=me:=by simp[hc1,hc2,hc3,hc4,hc5]
 have q5:Dh i V cl=cl++([⟨i.Imm,List.map V i.Args⟩]):=by simp[hc1,hc2,hc3,hc4,hc5]
 have q6:Dk i an=an:=by simp_all
 simp only[q1,q2,q3,q4,q5,q6]
 exact jd0 Z (v104,av) Z (dc d7 dn) (fun _ _=>(kc k1 (kc k0 (kc k3 (kc k0 kn)))))
 refine jfz k2 (by(try simp)<;>omega) (Ba (r:=Eh) (l:=[⟨i.Imm,List.map V i.Args⟩]) U35 I74 (by decide) Z Z Z (lA (Eh.M (m:=⟨i.Imm,List.map V i.Args⟩) (c:=v11) d0 (Ae.W_Imm d3)) ln) fun g103=>jyn d1 (kc k3 (kc k3 kn)) (jyo Z (js (jl k1 O35 Z Z) (jyn d0 (kc k3 (kc k3 kn)) (jyo Z (jfz k0 (by(try simp)<;>omega) (Ev U35 I74 (by decide) Z k5 Z Z d0 (by(try simp)<;>omega) fun v104 w24=>jyn d1 (kc k3 (kc k3 kn)) (jy Z (Ad Z) (jy Z (jf Ic Z) ?_)))))))))
 refine jy Z (jf Rq Z) (jyo Z (jst k1 Z35 Z Z w24.one s4 (jyn d0 (kc k3 (kc k3 kn)) (jyd (jx (jq (Cp false (.a 0 (.a 1 (.a 2 (.a 3 (.a 4 (.a 5 (.o 6 .e))))))) Bh (by kernel_rfl) (kc k0 (kc k2 (kc k2 kn))) fun F26=>jy Z (jl k2 Fw Z Z) (jy Z (Ad Z) (jy Z (jf Li Z) (jy Z (jl k0 Fv Z Z) ?_))))))))))
 refine jy Z (jf Gh Z) (jy Z (jl k1 O3 Z Z) (jyo Z (jvu Ej U3 k2 Z Z Z (wl 0) (jyn d0 (kc k1 (kc k2 (kc k2 kn))) (jyd (jx (jq (jr (js (jl k4 Fw Z Z) (js (Ad Z) (js (jf Gi Z) ?_)))))))))))
 refine js (jl k1 O29 Z Z) (js (jln U29 d7 Z) (js (Fi Z Z) (jn (jx ?_))))
 refine jif Z (fun hc5=>?_) (fun hc5=>?_)
 refine Cp false (.a 0 (.a 1 (.a 2 (.a 4 (.a 5 (.a 6 (.a 7 (.a 8 (.a 9 (.a 13 (.a 14 (.a 15 (.w3 3 10 16 (.w 10 16 (.a 11 (.a 12 (.o 16 (.a 17 (.o 18 (.a 19 (.o 20 (.a 21 (.a 22 (.o 23 .e)))))))))) (.a 17 (.w 10 18 (.a 11 (.a 12 (.o 18 (.a 19 (.o 20 (.a 21 (.a 22 (.o 23 .e)))))))) (.a 19 (.o 10 (.a 11 (.a 12 (.o 20 (.a 21 (.a 22 (.o 23 .e))))))))))) (.a 11 (.a 12 (.w 3 16 (.o 16 (.a 17 (.o 18 (.a 19 (.o 20 (.a 21 (.a 22 (.o 23 .e)))))))) (.a 17 (.o 3 (.o 18 (.a 19 (.o 20 (.a 21 (.a 22 (.o 23 .e))))))))))) (.a 17 (.w 3 10 (.w 10 18 (.a 11 (.a 12 (.o 18 (.a 19 (.o 20 (.a 21 (.a 22 (.o 23 .e)))))))) (.a 19 (.o 10 (.a 11 (.a 12 (.o 20 (.a 21 (.a 22 (.o 23 .e))))))))) (.a 11 (.a 12 (.o 3 (.o 18 (.a 19 (.o 20 (.a 21 (.a 22 (.o 23 .e)))))))))))))))))))))))) Bh (by kernel_rfl) (kc k3 (kc k3 kn)) fun F28=>jy Z (jl k1 Fw Z Z) (jy Z (Ad Z) (jy Z (jf Li Z) (jy Z (jf Gh Z) (jy Z (jl k0 O3 Z Z) (jy Z (jl k1 Fw Z Z) (jy Z (jl k1 Fw Z Z) (jy Z (Ad Z) (jy Z (jf Gi Z) (jy Z (jl k1 Fw Z Z) (jy Z (Ad Z) ?_))))))))))
 refine jy Z (jf Gi Z) ?_
 refine EO Z Z Z ?_ ?_ ?_
 refine js (jl k1 Fv Z Z) (jyn d0 (kc k3 (kc k3 kn)) ?_)
 refine jyw Z Z ?_ ?_
 refine js (jl k1 O29 Z Z) (jyn d0 (kc k3 (kc k3 kn)) (jy Z (jix (i:=0) U29 Z21 d7 Z Z Z (by omega)) (jy Z (jlI (dix d7 0 (by omega)) O21 Z) (jyo Z (js (jl k1 O29 Z Z) (jyn d0 (kc k3 (kc k3 kn)) (jy Z (Lz (lo:=1) U29 Z21 d7 Z Z Z (by omega)) (jyo Z (jve Ej U3 J21 k0 Z Z fun u138 s138=>jyn d0 (kc k3 (kc k3 kn)) (jy Z (Be Z Z) ?_))))))))))
 refine jyo Z (jvs k0 Z Z Z (wad (dix d12 0 (by omega))) (jyn d0 (kc k3 (kc k3 kn)) (jy Z (Ad Z) (jy Z (jf Gi Z) (jyo Z (jdq (dlo d13 1 (by omega) (by omega)) fun q35 w35=>jst k1 Z29 Z Z w35.one s6 (jyn d0 (kc k3 (kc k3 kn)) (jyd (jbn ?_)))))))))
 have q1:Ci i V me an=Bf (Bf V i.Dst 0) i.Dst (ix an 0):=by simp_all
 have q2:Dg i V me e0=e0:=by simp[hc1,hc2,hc3,hc4,hc5]
 have q3:Dp i V me x0=x0:=by simp[hc1,hc2,hc3,hc4,hc5]
 have q4:Cn i V me=me:=by simp[hc1,hc2,hc3,hc4,hc5]
 have q5:Dh i V cl=cl++([⟨i.Imm,List.map V i.Args⟩]):=by simp[hc1,hc2,hc3,hc4,hc5]
 have q6:Dk i an=List.drop 1 an:=by simp[hc1,hc2,hc3,hc4,hc5]
 simp only[q1,q2,q3,q4,q5,q6]
 exact jd0 Z (v104,(resl 1 av 1 an.length)) Z (dc (dlo d13 1 (by omega) (by omega)) dn) (fun _ _=>(kd (kc k3 (kc k0 kn))))
 refine js (jl k1 O29 Z Z) (jyn d0 (kc k3 (kc k3 kn)) (jy Z (Lz (lo:=1) U29 Z21 d7 Z Z Z (by omega)) ?_))
 refine jyw Z Z ?_ ?_
 refine js (jl k1 O29 Z Z) (jyn d0 (kc k3 (kc k3 kn)) (jy Z (jix (i:=0) U29 Z21 d7 Z Z Z (by omega)) (jy Z (jlI (dix d7 0 (by omega)) O21 Z) (jyo Z (jve Ej U3 J21 k0 Z Z fun u138 s138=>jyn d0 (kc k3 (kc k3 kn)) (jy Z (Be Z Z) (jyo Z (jvs k0 Z Z Z (wad (dix d12 0 (by omega))) (jyn d0 (kc k3 (kc k3 kn)) (jy Z (Ad Z) ?_))))))))))
 refine jy Z (jf Gi Z) (jyo Z (jdq (dlo d13 1 (by omega) (by omega)) fun q35 w35=>jst k1 Z29 Z Z w35.one s6 (jyn d0 (kc k3 (kc k3 kn)) (jyd (jbn ?_)))))
 have q1:Ci i V me an=Bf (Bf V i.Dst 0) i.Dst (ix an 0):=by simp_all
 have q2:Dg i V me e0=e0:=by simp[hc1,hc2,hc3,hc4,hc5]
 have q3:Dp i V me x0=x0:=by simp[hc1,hc2,hc3,hc4,hc5]
 have q4:Cn i V me=me:=by simp[hc1,hc2,hc3,hc4,hc5]
 have q5:Dh i V cl=cl++([⟨i.Imm,List.map V i.Args⟩]):=by simp[hc1,hc2,hc3,hc4,hc5]
 have q6:Dk i an=List.drop 1 an:=by simp[hc1,hc2,hc3,hc4,hc5]
 simp only[q1,q2,q3,q4,q5,q6]
 exact jd0 Z (v104,(resl 1 av 1 an.length)) Z (dc (dlo d13 1 (by omega) (by omega)) dn) (fun _ _=>(kd (kc k3 (kc k0 kn))))
 refine jve Ej U3 J21 k0 Z Z fun u138 s138=>jyn d0 (kc k3 (kc k3 kn)) (jy Z (Be Z Z) (jyo Z (js (jl k1 O29 Z Z) (jyn d0 (kc k3 (kc k3 kn)) (jy Z (jix (i:=0) U29 Z21 d7 Z Z Z (by omega)) (jy Z (jlI (dix d7 0 (by omega)) O21 Z) (jyo Z (jvs k0 Z Z Z (wad (dix d12 0 (by omega))) (jyn d0 (kc k3 (kc k3 kn)) (jy Z (Ad Z) ?_))))))))))
 refine jy Z (jf Gi Z) (jyo Z (jdq (dlo d13 1 (by omega) (by omega)) fun q35 w35=>jst k1 Z29 Z Z w35.one s6 (jyn d0 (kc k3 (kc k3 kn)) (jyd (jbn ?_)))))
 have q1:Ci i V me an=Bf (Bf V i.Dst 0) i.Dst (ix an 0):=by simp_all
 have q2:Dg i V me e0=e0:=by simp[hc1,hc2,hc3,hc4,hc5]
 have q3:Dp i V me x0=x0:=by simp[hc1,hc2,hc3,hc4,hc5]
 have q4:Cn i V me=me:=by simp[hc1,hc2,hc3,hc4,hc5]
 have q5:Dh i V cl=cl++([⟨i.Imm,List.map V i.Args⟩]):=by simp[hc1,hc2,hc3,hc4,hc5]
 have q6:Dk i an=List.drop 1 an:=by simp[hc1,hc2,hc3,hc4,hc5]
 simp only[q1,q2,q3,q4,q5,q6]
 exact jd0 Z (v104,(resl 1 av 1 an.length)) Z (dc (dlo d13 1 (by omega) (by omega)) dn) (fun _ _=>(kd (kc k3 (kc k0 kn))))
 refine js (jl k1 O29 Z Z) (jyn d0 (kc k3 (kc k3 kn)) (jy Z (jix (i:=0) U29 Z21 d7 Z Z Z (by omega)) (jy Z (jlI (dix d7 0 (by omega)) O21 Z) ?_)))
 refine jyw Z Z ?_ ?_
 refine js (jl k1 Fv Z Z) (jyn d0 (kc k3 (kc k3 kn)) (jyo Z (js (jl k1 O29 Z Z) (jyn d0 (kc k3 (kc k3 kn)) (jy Z (Lz (lo:=1) U29 Z21 d7 Z Z Z (by omega)) (jyo Z (jve Ej U3 J21 k0 Z Z fun u138 s138=>jyn d0 (kc k3 (kc k3 kn)) (jy Z (Be Z Z) (jyo Z (jvs k0 Z Z Z (wad (dix d12 0 (by omega))) ?_))))))))))
 refine jyn d0 (kc k3 (kc k3 kn)) (jy Z (Ad Z) (jy Z (jf Gi Z) (jyo Z (jdq (dlo d13 1 (by omega) (by omega)) fun q35 w35=>jst k1 Z29 Z Z w35.one s6 (jyn d0 (kc k3 (kc k3 kn)) (jyd (jbn ?_)))))))
 have q1:Ci i V me an=Bf (Bf V i.Dst 0) i.Dst (ix an 0):=by simp_all
 have q2:Dg i V me e0=e0:=by simp[hc1,hc2,hc3,hc4,hc5]
 have q3:Dp i V me x0=x0:=by simp[hc1,hc2,hc3,hc4,hc5]
 have q4:Cn i V me=me:=by simp[hc1,hc2,hc3,hc4,hc5]
 have q5:Dh i V cl=cl++([⟨i.Imm,List.map V i.Args⟩]):=by simp[hc1,hc2,hc3,hc4,hc5]
 have q6:Dk i an=List.drop 1 an:=by simp[hc1,hc2,hc3,hc4,hc5]
 simp only[q1,q2,q3,q4,q5,q6]
 exact jd0 Z (v104,(resl 1 av 1 an.length)) Z (dc (dlo d13 1 (by omega) (by omega)) dn) (fun _ _=>(kd (kc k3 (kc k0 kn))))
 refine js (jl k1 O29 Z Z) (jyn d0 (kc k3 (kc k3 kn)) (jy Z (Lz (lo:=1) U29 Z21 d7 Z Z Z (by omega)) (jyo Z (js (jl k1 Fv Z Z) (jyn d0 (kc k3 (kc k3 kn)) (jyo Z (jve Ej U3 J21 k0 Z Z fun u138 s138=>jyn d0 (kc k3 (kc k3 kn)) (jy Z (Be Z Z) (jyo Z (jvs k0 Z Z Z (wad (dix d12 0 (by omega))) ?_))))))))))
 refine jyn d0 (kc k3 (kc k3 kn)) (jy Z (Ad Z) (jy Z (jf Gi Z) (jyo Z (jdq (dlo d13 1 (by omega) (by omega)) fun q35 w35=>jst k1 Z29 Z Z w35.one s6 (jyn d0 (kc k3 (kc k3 kn)) (jyd (jbn ?_)))))))
 have q1:Ci i V me an=Bf (Bf V i.Dst 0) i.Dst (ix an 0):=by simp_all
 have q2:Dg i V me e0=e0:=by simp[hc1,hc2,hc3,hc4,hc5]
 have q3:Dp i V me x0=x0:=by simp[hc1,hc2,hc3,hc4,hc5]
 have q4:Cn i V me=me:=by simp[hc1,hc2,hc3,hc4,hc5]
 have q5:Dh i V cl=cl++([⟨i.Imm,List.map V i.Args⟩]):=by simp[hc1,hc2,hc3,hc4,hc5]
 have q6:Dk i an=List.drop 1 an:=by simp[hc1,hc2,hc3,hc4,hc5]
 simp only[q1,q2,q3,q4,q5,q6]
 exact jd0 Z (v104,(resl 1 av 1 an.length)) Z (dc (dlo d13 1 (by omega) (by omega)) dn) (fun _ _=>(kd (kc k3 (kc k0 kn))))
 refine js (jl k1 O29 Z Z) (jyn d0 (kc k3 (kc k3 kn)) (jy Z (Lz (lo:=1) U29 Z21 d7 Z Z Z (by omega)) ?_))
 refine jyw Z Z ?_ ?_
 refine js (jl k1 Fv Z Z) (jyn d0 (kc k3 (kc k3 kn)) ?_)
 refine jyw Z Z ?_ ?_
 refine js (jl k1 O29 Z Z) (jyn d0 (kc k3 (kc k3 kn)) (jy Z (jix (i:=0) U29 Z21 d7 Z Z Z (by omega)) (jy Z (jlI (dix d7 0 (by omega)) O21 Z) (jyo Z (jve Ej U3 J21 k0 Z Z fun u138 s138=>jyn d0 (kc k3 (kc k3 kn)) (jy Z (Be Z Z) (jyo Z (jvs k0 Z Z Z (wad (dix d12 0 (by omega))) (jyn d0 (kc k3 (kc k3 kn)) (jy Z (Ad Z) ?_))))))))))
 refine jy Z (jf Gi Z) (jyo Z (jdq (dlo d13 1 (by omega) (by omega)) fun q35 w35=>jst k1 Z29 Z Z w35.one s6 (jyn d0 (kc k3 (kc k3 kn)) (jyd (jbn ?_)))))
 have q1:Ci i V me an=Bf (Bf V i.Dst 0) i.Dst (ix an 0):=by simp_all
 have q2:Dg i V me e0=e0:=by simp[hc1,hc2,hc3,hc4,hc5]
 have q3:Dp i V me x0=x0:=by simp[hc1,hc2,hc3,hc4,hc5]
 have q4:Cn i V me=me:=by simp[hc1,hc2,hc3,hc4,hc5]
 have q5:Dh i V cl=cl++([⟨i.Imm,List.map V i.Args⟩]):=by simp[hc1,hc2,hc3,hc4,hc5]
 have q6:Dk i an=List.drop 1 an:=by simp[hc1,hc2,hc3,hc4,hc5]
 simp only[q1,q2,q3,q4,q5,q6]
 exact jd0 Z (v104,(resl 1 av 1 an.length)) Z (dc (dlo d13 1 (by omega) (by omega)) dn) (fun _ _=>(kd (kc k3 (kc k0 kn))))
 refine jve Ej U3 J21 k0 Z Z fun u138 s138=>jyn d0 (kc k3 (kc k3 kn)) (jy Z (Be Z Z) (jyo Z (js (jl k1 O29 Z Z) (jyn d0 (kc k3 (kc k3 kn)) (jy Z (jix (i:=0) U29 Z21 d7 Z Z Z (by omega)) (jy Z (jlI (dix d7 0 (by omega)) O21 Z) (jyo Z (jvs k0 Z Z Z (wad (dix d12 0 (by omega))) (jyn d0 (kc k3 (kc k3 kn)) (jy Z (Ad Z) ?_))))))))))
 refine jy Z (jf Gi Z) (jyo Z (jdq (dlo d13 1 (by omega) (by omega)) fun q35 w35=>jst k1 Z29 Z Z w35.one s6 (jyn d0 (kc k3 (kc k3 kn)) (jyd (jbn ?_)))))
 have q1:Ci i V me an=Bf (Bf V i.Dst 0) i.Dst (ix an 0):=by simp_all
 have q2:Dg i V me e0=e0:=by simp[hc1,hc2,hc3,hc4,hc5]
 have q3:Dp i V me x0=x0:=by simp[hc1,hc2,hc3,hc4,hc5]
 have q4:Cn i V me=me:=by simp[hc1,hc2,hc3,hc4,hc5]
 have q5:Dh i V cl=cl++([⟨i.Imm,List.map V i.Args⟩]):=by simp[hc1,hc2,hc3,hc4,hc5]
 have q6:Dk i an=List.drop 1 an:=by simp[hc1,hc2,hc3,hc4,hc5]
 simp only[q1,q2,q3,q4,q5,q6]
 exact jd0 Z (v104,(resl 1 av 1 an.length)) Z (dc (dlo d13 1 (by omega) (by omega)) dn) (fun _ _=>(kd (kc k3 (kc k0 kn))))
 refine js (jl k1 O29 Z Z) (jyn d0 (kc k3 (kc k3 kn)) (jy Z (jix (i:=0) U29 Z21 d7 Z Z Z (by omega)) (jy Z (jlI (dix d7 0 (by omega)) O21 Z) (jyo Z (js (jl k1 Fv Z Z) (jyn d0 (kc k3 (kc k3 kn)) (jyo Z (jve Ej U3 J21 k0 Z Z fun u138 s138=>jyn d0 (kc k3 (kc k3 kn)) (jy Z (Be Z Z) (jyo Z ?_))))))))))
 refine jvs k0 Z Z Z (wad (dix d12 0 (by omega))) (jyn d0 (kc k3 (kc k3 kn)) (jy Z (Ad Z) (jy Z (jf Gi Z) (jyo Z (jdq (dlo d13 1 (by omega) (by omega)) fun q35 w35=>jst k1 Z29 Z Z w35.one s6 (jyn d0 (kc k3 (kc k3 kn)) (jyd (jbn ?_))))))))
 have q1:Ci i V me an=Bf (Bf V i.Dst 0) i.Dst (ix an 0):=by simp_all
 have q2:Dg i V me e0=e0:=by simp[hc1,hc2,hc3,hc4,hc5]
 have q3:Dp i V me x0=x0:=by simp[hc1,hc2,hc3,hc4,hc5]
 have q4:Cn i V me=me:=by simp[hc1,hc2,hc3,hc4,hc5]
 have q5:Dh i V cl=cl++([⟨i.Imm,List.map V i.Args⟩]):=by simp[hc1,hc2,hc3,hc4,hc5]
 have q6:Dk i an=List.drop 1 an:=by simp[hc1,hc2,hc3,hc4,hc5]
 simp only[q1,q2,q3,q4,q5,q6]
 exact jd0 Z (v104,(resl 1 av 1 an.length)) Z (dc (dlo d13 1 (by omega) (by omega)) dn) (fun _ _=>(kd (kc k3 (kc k0 kn))))
 refine jsk (jbn ?_)
 have q1:Ci i V me an=Bf V i.Dst 0:=by simp_all
 have q2:Dg i V me e0=e0:=by simp[hc1,hc2,hc3,hc4,hc5]
 have q3:Dp i V me x0=x0:=by simp[hc1,hc2,hc3,hc4,hc5]
 have q4:Cn i V me=me:=by simp[hc1,hc2,hc3,hc4,hc5]
 have q5:Dh i V cl=cl++([⟨i.Imm,List.map V i.Args⟩]):=by simp[hc1,hc2,hc3,hc4,hc5]
 have q6:Dk i an=an:=by simp_all
 simp only[q1,q2,q3,q4,q5,q6]
 exact jd0 Z (v104,av) Z (dc d7 dn) (fun _ _=>(kc k1 (kc k0 (kc k3 (kc k0 kn)))))
 refine jq (jr (js (Aj Z Z) (ja Z (jn (jx ?_)))))
 refine jif Z (fun hc6=>?_) (fun hc6=>?_)
 have ho2:=ho2 hc1 hc2 hc4
 refine Cp false (.a 0 (.a 1 (.a 2 (.a 3 (.a 4 (.a 5 (.a 6 (.a 7 (.a 8 (.a 9 (.a 10 (.a 11 (.a 12 (.a 13 (.a 14 (.a 15 (.a 16 (.a 17 (.o 18 (.a 19 (.a 20 (.a 21 (.o 22 (.o 23 .e)))))))))))))))))))))))) Bh (by kernel_rfl) (kc k0 (kc k1 (kc k1 (kc k1 kn)))) fun F36=>jy Z (jl k3 Fw Z Z) (jy Z (Ad Z) (jy Z (jf Li Z) (jy Z (jl k0 Fv Z Z) (jy Z (jf Gh Z) (jy Z (jl k2 O3 Z Z) (jy Z (jl k3 Fw Z Z) (jy Z (Ad Z) (jy Z (jf Li Z) (jy Z (jl k0 Fv Z Z) (jy Z (jf Zv Z) ?_))))))))))
 refine jy Z (jl k2 O3 Z Z) (jy Z (jmv Z) (jy Z (jig (i:=0) U29 Z21 k1 Z Z Z (by first|omega|(simp<;>omega))) (jy Z (jgI k1 (by first|omega|(simp<;>omega)) O21 Z) (jy Z (jmv Z) (jy Z (jig (i:=1) U29 Z21 k1 Z Z Z (by first|omega|(simp<;>omega))) (jy Z (jgI k1 (by first|omega|(simp<;>omega)) O21 Z) (jyo Z (jwr (wgl (i:=0) k2 (by omega)) fun w38=>jwr (wgl (i:=1) k2 (by omega)) fun w39=>jcv E87 Z Z (T5 (ix (List.map V i.Args) 0) (ix (List.map V i.Args) 1) w38 w39) dn kn (jyn d0 (kc k0 (kc k1 (kc k1 (kc k1 kn)))) ?_)))))))))
 refine jy Z (jmv Z) (jy Z (Be Z Z) (jy Z (Be Z Z) (jyo Z (jvu Ej U3 k1 Z Z Z (wp (JE.wrap_wrap _ _)) (jyn d0 (kc k1 (kc k1 (kc k1 (kc k1 kn)))) (jyo Z (jvu Ej U3 k0 Z Z Z (wp (JE.wrap_wrap _ _)) (jyn d0 (kc k1 (kc k1 (kc k1 (kc k1 kn)))) (jyd (jbn ?_))))))))))
 have q1:Ci i V me an=Bf (Bf V i.Dst ((Ht (ix (List.map V i.Args) 0) (ix (List.map V i.Args) 1)).1)) i.Two ((Ht (ix (List.map V i.Args) 0) (ix (List.map V i.Args) 1)).2):=by simp[hc1,hc2,hc3,hc4,hc6]
 have q2:Dg i V me e0=e0:=by simp[hc1,hc2,hc3,hc4,hc6]
 have q3:Dp i V me x0=x0:=by simp[hc1,hc2,hc3,hc4,hc6]
 have q4:Cn i V me=me:=by simp[hc1,hc2,hc3,hc4,hc6]
 have q5:Dh i V cl=cl:=by simp[hc1,hc2,hc3,hc4,hc6]
 have q6:Dk i an=an:=by simp[hc1,hc2,hc3,hc4,hc6]
 simp only[q1,q2,q3,q4,q5,q6]
 exact jd0 Z (cv,av) Z (dc d3 dn) (fun _ _=>(kc k1 (kc k0 (kc k3 (kc k3 kn)))))
 have ho2:=ho2 hc1 hc2 hc4
 refine jq (Cp false (.a 0 (.a 1 (.a 2 (.a 3 (.a 4 (.a 5 (.a 6 (.a 7 (.o 8 (.a 9 (.a 10 (.a 11 (.a 12 (.a 13 .e)))))))))))))) Bh (by kernel_rfl) (kc k2 (kc k2 kn)) fun F42=>jy Z (jf Nb Z) (jy Z (jl k1 O3 Z Z) (jy Z (jmv Z) (jy Z (jig (i:=0) U29 Z21 k0 Z Z Z (by first|omega|(simp<;>omega))) (jy Z (jgI k0 (by first|omega|(simp<;>omega)) O21 Z) (jy Z (jmv Z) (jy Z (jig (i:=1) U29 Z21 k0 Z Z Z (by first|omega|(simp<;>omega))) (jy Z (jgI k0 (by first|omega|(simp<;>omega)) O21 Z) (jyo Z (jcv E84 Z Z (C3 i.Op (ix (List.map V i.Args) 0) (ix (List.map V i.Args) 1)) dn kn ?_))))))))))
 refine jyn d0 (kc k2 (kc k2 kn)) (jy Z (jmv Z) (jy Z (Be Z Z) (jy Z (Be Z Z) (jy Z (jas Z) (jy Z (jas Z) (jyd (jx (jq (Cp false (.a 0 (.a 1 (.a 2 (.a 3 (.a 4 (.a 5 (.a 6 (.o 7 .e)))))))) Bh (by kernel_rfl) (kc k0 (kc k2 (kc k2 kn))) fun F44=>jy Z (jl k2 Fw Z Z) (jy Z (Ad Z) ?_))))))))))
 refine jy Z (jf Li Z) (jy Z (jl k0 Fv Z Z) (jy Z (jf Gh Z) (jy Z (jl k1 O3 Z Z) (jy Z (jmv Z) (jyo Z (jvu Ej U3 k1 Z Z Z (wdo (wgl k2 (by omega))) (jyn d0 (kc k1 (kc k2 (kc k2 kn))) (jyd (jx (jq (jr ?_)))))))))))
 refine jm Z (js (Dv Z) (jn (jx ?_)))
 refine jif Z (fun hc7=>?_) (fun hc7=>?_)
 refine jr (js (jl k4 Fw Z Z) (jc Wq Z Z (Vf _ _ Z w1.one w2.one w3.one) dn (kc k1 kn) (fun _=>p0) (fun _=>p1) fun _=>jn (jbn ?_)))
 have q1:Ci i V me an=Bf V i.Dst ((doM i.Op (ix (List.map V i.Args) 0) (ix (List.map V i.Args) 1)).1):=by simp[hc1,hc2,hc3,hc4,hc6,hc7]
 have q2:Dg i V me e0=2:=by simp[hc1,hc2,hc3,hc4,hc6,hc7]
 have q3:Dp i V me x0=(-1):=by simp[hc1,hc2,hc3,hc4,hc6,hc7]
 have q4:Cn i V me=me:=by simp[hc1,hc2,hc3,hc4,hc6,hc7]
 have q5:Dh i V cl=cl:=by simp[hc1,hc2,hc3,hc4,hc6,hc7]
 have q6:Dk i an=an:=by simp[hc1,hc2,hc3,hc4,hc6,hc7]
 simp only[q1,q2,q3,q4,q5,q6]
 exact jd0 Z (cv,av) Z (dc d2 dn) (fun _ _=>(kd (kc k3 (kc k3 kn))))
 refine jsk (jbn ?_)
 have q1:Ci i V me an=Bf V i.Dst ((doM i.Op (ix (List.map V i.Args) 0) (ix (List.map V i.Args) 1)).1):=by simp[hc1,hc2,hc3,hc4,hc6,hc7]
 have q2:Dg i V me e0=e0:=by simp[hc1,hc2,hc3,hc4,hc6,hc7]
 have q3:Dp i V me x0=x0:=by simp[hc1,hc2,hc3,hc4,hc6,hc7]
 have q4:Cn i V me=me:=by simp[hc1,hc2,hc3,hc4,hc6,hc7]
 have q5:Dh i V cl=cl:=by simp[hc1,hc2,hc3,hc4,hc6,hc7]
 have q6:Dk i an=an:=by simp[hc1,hc2,hc3,hc4,hc6,hc7]
 simp only[q1,q2,q3,q4,q5,q6]
 exact jd0 Z (cv,av) Z (dc d2 dn) (fun _ _=>(kc k1 (kc k0 (kc k3 (kc k3 kn)))))
end Go.Proofs.YtmfkkodnghambaaGreat
namespace Go.Proofs.YtmfkkodnghambaaGreat
open Go.JE
theorem E26:Ent Tryz.prog 26:=⟨_,Tryz.func26,by kernel_rfl,by kernel_rfl⟩
theorem E48:Ent Tryz.prog 48:=⟨_,Tryz.func48,by kernel_rfl,by kernel_rfl⟩
theorem E49:Ent Tryz.prog 49:=⟨_,Tryz.func49,by kernel_rfl,by kernel_rfl⟩
theorem E50:Ent Tryz.prog 50:=⟨_,Tryz.func50,by kernel_rfl,by kernel_rfl⟩
theorem E51:Ent Tryz.prog 51:=⟨_,Tryz.func51,by kernel_rfl,by kernel_rfl⟩
theorem OC{a0:Value}{f:D.Func}{a1a a1b a1c:Value}{i:D.Input}(hG:GoodF f)(hN:i.Steps≤1000000):Ts Tryz.prog 23 #[vFunc f a0,vInput i (a1a,a1b,a1c)] [da Ak (vFunc f a0) f,da Cc (vInput i (a1a,a1b,a1c)) i] [] Ec vOutcome (Nl f i):=by
 refine Af (args:=[vFunc f a0,vInput i (a1a,a1b,a1c)]) Tryz.func23 rfl rfl rfl fun w0 X=>?_
 have hpr:=hG.par
 have hln:=hG.len
 refine jq (jr (Bj Z Z fun g2=>Bj Z Z fun g3=>Bg J37 Z fun g4=>jn (jx (jsc (jq (jq (jr (js (jla k2 A49 Z49 Z Z Z) ?_))))))))
 refine jcv E26 Z Z (TT hG) (dc d0 dn) kn (js (Dv Z) (jn (jx ?_)))
 refine jif Z (fun hc1=>?_) (fun hc1=>?_)
 exact absurd hc1 (by simp)
 refine jsk (jx (jq (jr (jvn fun g17=>js (jf Zw Z) (js (jl k2 O29 Z Z) (js (jf Wi Z) (js (jl k2 O3 Z Z) (jdq (Cc.c_Answers d1) fun q1 w1=>js (jbu (v := .agg #[.map (some g17),.int .i64 0,.int .i32 0,.slice none 0 0,.slice none 0 0,.int .i64 0,a1c,.int .i64 i.Steps]) Z (fun _=>by obtain⟨_,_,_,rfl⟩:=w1;kernel_rfl)) (Bj Z Z fun g23=>?_)))))))))
 refine ja Z (jn (jx (jq (jr (jm Z (js (jla k3 A31 Z31 Z Z Z) (jcg E28 Z Z CQ (dc d1 dn) kn fun v26 w2=>js (Ad Z) (js (jf Ic Z) (js (jf Un Z) (jst k1 Z29 Z Z w2.one s3 ?_))))))))))
 refine jn (jx (jq (jq (jr (js (jf Wj Z) (js (jl k4 O29 Z Z) (js (jf Wj Z) (js (jl k4 O29 Z Z) (jdq (Cc.c_Args d1) fun q3 w3=>js (jln U29 (Cc.c_Args d1) Z) (js (jf Nc Z) ?_))))))))))
 refine js (jl k5 O3 Z Z) (js (Ot Z Z) (js (Th (hi:=(Int.toNat (min (↑(List.length i.Args)) f.Params))) U29 Z21 (Cc.c_Args d1) Z Z (by omega) (by omega)) (jdq (dhi (Cc.c_Args d1) (Int.toNat (min (↑(List.length i.Args)) f.Params)) (by omega) (by omega)) fun q4 w4=>js (jln U29 (dhi (Cc.c_Args d1) (Int.toNat (min (↑(List.length i.Args)) f.Params)) (by omega) (by omega)) Z) (jm Z (jn (jx (jb ?_)))))))
 refine jlp (u2 fun(k:Nat) (V1:Int→Int)=>⟨k≤(Iu f i).length∧V1=Pb (Iu f i) k,[da Ak (vFunc f a0) f,da Cc (vInput i (a1a,a1b,a1c)) i],[bx g23 115 [.map (some g17),.int .i64 0,.int .i32 0,v26,.slice none 0 0,.int .i64 0,a1c,.int .i64 i.Steps],gl X.n (rI .i32) 21 v26 (Ns i),vm g17 V1,bx g4 37 [.int .i64 0,.int .i32 0,.slice none 0 0,.slice none 0 0,.int .i64 0],bx g2 49 [.int .i64 f.Params,a0]],[(2,.pointer (some ⟨g2,0,none⟩)),(4,.pointer (some ⟨g4,0,none⟩)),(5,.pointer (some ⟨g23,0,none⟩)),(38,(resl 1 a1a 0 (Int.toNat (min (↑(List.length i.Args)) f.Params)))),(39,.int .i64 (↑(List.length (List.take (Int.toNat (min (↑(List.length i.Args)) f.Params)) i.Args)))),(40,.int .i64 (↑k))],(Iu f i).length-k⟩) (0,fun _=>0) ⟨by dsimp only;omega,rfl⟩ (dc d0 (dc d1 dn)) (kd (kd (kc k1 kn))) ⟨Z,Z,Z,Z,Z,eqI (by omega),trivial⟩ ?_
 rintro⟨k,V1⟩;dsimp only[u2];rintro⟨hk,hV1⟩
 have hal:(Iu f i).length=(List.take (Int.toNat (min (i.Args.length:Int) f.Params)) i.Args).length:=rfl
 refine jq (jr (js (Ai Z Z) (jn (jx (jq ?_)))))
 refine jif Z (fun hc2=>?_) (fun hc2=>?_)
 refine jsk (jx (jq (jb (jq (jr (jm Z (js (jix U29 Z21 (dhi (Cc.c_Args d1) (Int.toNat (min (↑(List.length i.Args)) f.Params)) (by omega) (by omega)) Z Z Z (by omega)) (js (jlI (dix (dhi (Cc.c_Args d1) (Int.toNat (min (↑(List.length i.Args)) f.Params)) (by omega) (by omega)) k (by omega)) O21 Z) (ja Z (ja Z (jn ?_)))))))))))
 refine jx (jr (jm Z (js (Ad Z) (js (jf Li Z) (js (jl k0 Fv Z Z) (jm Z (jm Z (jvu Ej U3 k2 Z Z Z (wad (dix (dhi (Cc.c_Args d1) (Int.toNat (min (↑(List.length i.Args)) f.Params)) (by omega) (by omega)) k (by omega))) (jn (jbn (jx ?_)))))))))))
 refine jr (js (Ac Z Z (by omega)) (jm Z (jn ?_)))
 exact jag (k+1,Bf V1 ((k:Nat):Int) (ix (List.take (Int.toNat (min (((List.length i.Args:Nat):Int)) f.Params)) i.Args) k)) ⟨by dsimp only;omega,by dsimp only;rw[hV1];rfl⟩ (dc d0 (dc d1 dn)) (kc k1 (kc k1 (kd (kc k0 kn)))) ⟨Z,Z,Z,Z,Z,eqI (by omega),trivial⟩
 refine jex (jtx (jtx (jbh (jx (jq (jr (ja Z (ja Z (jn (jx (jq ?_)))))))))))
 refine K1 (jx (jq (jb (cnl (r:=Eh) (E:=74) ?_))))
 refine jlp (u11 fun(fu:Nat) (ab:Int) (fb:Int) (V1:Int→Int) (x1:Int) (me1:List Int) (cl1:List D.Event) (st1:Int) (an1:List Int) (vc1:Value) (va1:Value)=>⟨0<fu∧Nl f i=CW (Hd f.Blocks i.Steps fu ab fb ⟨V1,0,x1,me1,cl1,st1,an1⟩)∧(0≤ab∧ab<f.Blocks.length)∧(∀p∈(ix f.Blocks ab.toNat).Phis,fb∈p.In.map (fun x=>x.From))∧me1.length≤4096∧(0≤st1∧st1≤1000000)∧cl1.length≤st1∧i.Steps-st1<fu∧IntKind.i32.wrap x1=x1,[da Ak (vFunc f a0) f,da Cc (vInput i (a1a,a1b,a1c)) i,dv (rL (rI .i32)) va1 an1],[gl X.n Eh 74 vc1 cl1,bx g23 115 [.map (some g17),.int .i64 0,.int .i32 x1,v26,vc1,.int .i64 st1,va1,.int .i64 i.Steps],gl X.n (rI .i32) 21 v26 me1,vm g17 V1,bx g4 37 [.int .i64 0,.int .i32 0,.slice none 0 0,.slice none 0 0,.int .i64 0],bx g2 49 [.int .i64 f.Params,a0]],[(2,.pointer (some ⟨g2,0,none⟩)),(4,.pointer (some ⟨g4,0,none⟩)),(5,.pointer (some ⟨g23,0,none⟩)),(8,.int .i64 ab),(9,.int .i64 fb)],fu⟩) (Int.toNat i.Steps+1,0,(-1),V1,0,Ns i,[],0,i.Answers,.slice none 0 0,a1c) ⟨by dsimp only;omega,by dsimp only;rw[hV1,show k=(Iu f i).length by omega];rfl,by dsimp only;omega,hG.phi0,by dsimp only;exact DO i,by dsimp only;omega,by simp,by dsimp only;omega,by dsimp only;decide⟩ (dc d0 (dc d1 (dc (Cc.c_Answers d1) dn))) (kd (kd (kd kn))) ⟨Z,Z,Z,Z,Z,trivial⟩ ?_
 rintro⟨fu,ab,fb,V1,x1,me1,cl1,st1,an1,vc1,va1⟩;dsimp only[u11];rintro⟨hfu,hrun,hab,hph,hml,hst,hcl,hfs,hx1⟩
 refine cgo k0 fun w6=>cdq d2 fun q7 w7=>?_
 have hbb:Int.toNat ab<f.Blocks.length:=by omega
 have htm:=hG.tm _ hbb
 refine jb (jq (jr (js (jf Cq Z) (js (jl k5 O47 Z Z) (jm Z (jdq (Ak.cB d0) fun q8 w8=>js (jix (i:=ab.toNat) U47 Z62 (Ak.cB d0) Z Z (by omega) (by omega)) (jA4 Sf (jlA (dix (Ak.cB d0) ab.toNat (by omega)) A62 Z62 Z) fun c56a c56b c56c c56d=>Bg J62 Z fun g10=>jdq (Ah.cP d0) fun q10 w10=>jdq (Ah.cI d0) fun q11 w11=>?_)))))))
 refine jdq (Ah.c_Term_Args d0) fun q12 w12=>jdq (Ah.c_Term_To d0) fun q13 w13=>Az k0 Z62 Z Z Z ⟨w10.one,w11.one,Z,w12.one,w13.one,Z,trivial⟩ (saf Z) (jn (jx (jq (jr (jm Z (js (jf Iv Z) (js (jl k0 O57 Z Z) (jm Z (jc E48 Z Z (OF _ w2.one w6.one w7.one hph) (dc (Ah.cP d0) dn) (kc k2 (kc k3 kn)) (fun _=>p0) (fun _=>p2) fun _=>?_)))))))))
 refine jn (jx (jq (jq (jr (js (jf Hf Z) (js (jl k2 O58 Z Z) (js (jln U58 (Ah.cI d0) Z) (jm Z (jn (jx (jb ?_)))))))))))
 refine jlp (u10 fun(k:Nat) (V2:Int→Int) (e2:Int) (x2:Int) (me2:List Int) (cl2:List D.Event) (st2:Int) (an2:List Int) (vc2:Value) (va2:Value)=>⟨k≤(ix f.Blocks ab.toNat).Ins.length∧Bu i.Steps (ix f.Blocks ab.toNat).Ins (Gy fb (ix f.Blocks ab.toNat).Phis ⟨V1,0,x1,me1,cl1,st1,an1⟩)=Bu i.Steps ((ix f.Blocks ab.toNat).Ins.drop k) ⟨V2,e2,x2,me2,cl2,st2,an2⟩∧me2.length≤4096∧(0≤st2∧st2≤1000000)∧cl2.length≤st2∧st1≤st2∧IntKind.i32.wrap x2=x2∧0≤e2∧e2≤3,[da Ah (vBlock (ix f.Blocks ab.toNat) (c56a,c56b,c56c,c56d)) (ix f.Blocks ab.toNat),da Ak (vFunc f a0) f,da Cc (vInput i (a1a,a1b,a1c)) i,dv (rL (rI .i32)) va2 an2],[bx g23 115 [.map (some g17),.int .i64 e2,.int .i32 x2,v26,vc2,.int .i64 st2,va2,.int .i64 i.Steps],vm g17 V2,bx g10 62 [c56a,c56b,.int .i64 (((ix f.Blocks ab.toNat).Term).Kind),c56c,c56d,.int .i32 (((ix f.Blocks ab.toNat).Term).Imm)],gl X.n Eh 74 vc2 cl2,gl X.n (rI .i32) 21 v26 me2,bx g4 37 [.int .i64 0,.int .i32 0,.slice none 0 0,.slice none 0 0,.int .i64 0],bx g2 49 [.int .i64 f.Params,a0]],[(2,.pointer (some ⟨g2,0,none⟩)),(4,.pointer (some ⟨g4,0,none⟩)),(5,.pointer (some ⟨g23,0,none⟩)),(8,.int .i64 ab),(9,.int .i64 fb),(10,.pointer (some ⟨g10,0,none⟩)),(63,c56b),(64,.int .i64 (↑(List.length ((ix f.Blocks ab.toNat).Ins)))),(65,.int .i64 (↑k))],(ix f.Blocks ab.toNat).Ins.length-k⟩) (0,Po fb ((ix f.Blocks ab.toNat).Phis) V1,0,x1,me1,cl1,st1,an1,vc1,va1) ⟨by dsimp only;omega,rfl,hml,by dsimp only;omega,hcl,by dsimp only;omega,hx1,by dsimp only;omega,by dsimp only;omega⟩ (dc d0 (dc d1 (dc d2 (dc d3 dn)))) (kd (kd (kd (kc k0 kn)))) ⟨Z,Z,Z,Z,Z,Z,Z,Z,eqI (by omega),trivial⟩ ?_
 rintro⟨k,V2,e2,x2,me2,cl2,st2,an2,vc2,va2⟩;dsimp only[u10];rintro⟨hk,hlis,hml2,hst2,hcl2,hs12,hx2,he2⟩
 refine cgo k3 fun w15=>cdq d3 fun q16 w16=>?_
 have hse:=LV (st:=st2) (ss:=i.Steps) he2
 refine jq (jr (js (Ai Z Z) (jn (jx (jq ?_)))))
 refine jif Z (fun hc3=>?_) (fun hc3=>?_)
 refine jsk (jx (jq (jb (jq (jr (js (jix U58 Z67 (Ah.cI d0) Z Z Z (by omega)) (jA Se (jlA (dix (Ah.cI d0) k (by omega)) A67 Z67 Z) fun c68=>Bg J67 Z fun g12=>jdq (Ae.c_Args d0) fun q18 w18=>Az k0 Z67 Z Z Z ⟨Z,Z,Z,w18.one,Z,trivial⟩ (saf Z) (jn ?_))))))))
 refine jx (jq (jq (jr (jm Z (jc E49 Z Z (AR Z w2.one w15.one w16.one (by omega)) dn (kc k1 kn) (fun _=>p0) (fun _=>p1) fun _=>js (Dv Z) (jn (jx ?_)))))))
 refine jif Z (fun hc4=>?_) (fun hc4=>?_)
 have hso:Fx i.Steps ⟨V2,e2,x2,me2,cl2,st2,an2⟩=false:=by simpa[Fx] using hc4
 have hsf:stE e2 st2 i.Steps≠0∧stS e2 st2 i.Steps=st2:=Y3 hso
 refine jex (jtx (jbo (jtx (jtx (jbo (jtx (jbo (jtx (jbh (jx (jq ?_)))))))))))
 refine jr (jm Z (js (Ad Z) (js (jf Ic Z) (js (jla k0 A37 Z37 Z Z Z) (Az k6 Z37 Z Z Z ⟨Z,Z,w2.one,w15.one,Z,trivial⟩ (saf Z) (jn (jx (jrt (jso (qfz k6 (by omega) (qfz k5 (by omega) ?_)))))))))))
 exact Ky (val:=vOutcome) (b:=⟨stE e2 st2 i.Steps,stV e2 x2 st2 i.Steps,me2,cl2,stS e2 st2 i.Steps⟩) (c:=(v26,vc2)) Z Z k0 A37 Z37 Z (by rw[hrun,ZT (TD hlis (by omega) hso) hfu];rfl) (Ec.M (m:=⟨stE e2 st2 i.Steps,stV e2 x2 st2 i.Steps,me2,cl2,stS e2 st2 i.Steps⟩) (c:=(v26,vc2)) d1 d0 (wp (IntWalk.i64_in (stE e2 st2 i.Steps) (by omega))) (wp (Rz hx2)) (wp (IntWalk.i64_in (stS e2 st2 i.Steps) (by omega))))
 have hso:Fx i.Steps ⟨V2,e2,x2,me2,cl2,st2,an2⟩=true:=by simpa[Fx] using hc4
 have hsb:e2=0∧st2<i.Steps∧stE e2 st2 i.Steps=0∧stS e2 st2 i.Steps=st2+1:=Y2 hso
 refine jsk (jx (jr (jm Z (js (jla k1 A67 Z67 Z Z Z) (jc E50 Z Z (OI (i:=(ix ((ix f.Blocks ab.toNat).Ins) k)) (me:=me2) (cl:=cl2) (hG.op _ hbb _ (Ax (l:=(ix f.Blocks ab.toNat).Ins) (i:=k) (by omega))) (by omega) (by omega)) (dc d4 (dc d0 dn)) (kc k0 (kc k1 (kc k3 (kc k2 kn)))) (fun _=>p1) (fun _=>p4) fun c74=>jgo k3 fun w22=>jn (jbn (jx (jr (js (Ac Z Z (by omega)) ?_)))))))))
 refine jm Z (jn ?_)
 exact jag (k+1,Ci (ix ((ix f.Blocks ab.toNat).Ins) k) V2 me2 an2,Dg (ix ((ix f.Blocks ab.toNat).Ins) k) V2 me2 (stE e2 st2 i.Steps),Dp (ix ((ix f.Blocks ab.toNat).Ins) k) V2 me2 (stV e2 x2 st2 i.Steps),Cn (ix ((ix f.Blocks ab.toNat).Ins) k) V2 me2,Dh (ix ((ix f.Blocks ab.toNat).Ins) k) V2 cl2,stS e2 st2 i.Steps,Dk (ix ((ix f.Blocks ab.toNat).Ins) k) an2,c74.1,c74.2) ⟨by dsimp only;omega,TE hlis (by omega) hso,by dsimp only;rw[VU];exact hml2,by dsimp only;omega,by have h9:=VW (ix (ix f.Blocks ab.toNat).Ins k) V2 cl2;dsimp only;omega,by dsimp only;omega,VT (Rz hx2),VV hse⟩ (dc d2 (dc d3 (dc d4 (dc d0 dn)))) (kd (kc k3 (kc k1 (kc k0 (kc k1 (kc k1 kn)))))) ⟨Z,Z,Z,Z,Z,Z,Z,Z,eqI (by omega),trivial⟩
 refine jex (jtx (jtx (jbh (jx (jq (jq (jr (jm Z (jc E49 Z Z (AR Z w2.one w15.one w16.one (by omega)) dn (kc k0 kn) (fun _=>p0) (fun _=>p1) fun _=>js (Dv Z) (jn ?_))))))))))
 refine jx ?_
 refine jif Z (fun hc5=>?_) (fun hc5=>?_)
 have hso:Fx i.Steps ⟨V2,e2,x2,me2,cl2,st2,an2⟩=false:=by simpa[Fx] using hc5
 have hsf:stE e2 st2 i.Steps≠0∧stS e2 st2 i.Steps=st2:=Y3 hso
 refine jex (jtx (jbo (jtx (jbh (jx (jq (jr (jm Z (js (Ad Z) (js (jf Ic Z) (js (jla k0 A37 Z37 Z Z Z) ?_)))))))))))
 refine Az k5 Z37 Z Z Z ⟨Z,Z,w2.one,w15.one,Z,trivial⟩ (saf Z) (jn (jx (jrt (jso (qfz k5 (by omega) (qfz k4 (by omega) ?_))))))
 exact Ky (val:=vOutcome) (b:=⟨stE e2 st2 i.Steps,stV e2 x2 st2 i.Steps,me2,cl2,stS e2 st2 i.Steps⟩) (c:=(v26,vc2)) Z Z k0 A37 Z37 Z (by rw[hrun,ZU (J8 hlis (by omega)) hso hfu];rfl) (Ec.M (m:=⟨stE e2 st2 i.Steps,stV e2 x2 st2 i.Steps,me2,cl2,stS e2 st2 i.Steps⟩) (c:=(v26,vc2)) d1 d0 (wp (IntWalk.i64_in (stE e2 st2 i.Steps) (by omega))) (wp (Rz hx2)) (wp (IntWalk.i64_in (stS e2 st2 i.Steps) (by omega))))
 have hso:Fx i.Steps ⟨V2,e2,x2,me2,cl2,st2,an2⟩=true:=by simpa[Fx] using hc5
 have hsb:e2=0∧st2<i.Steps∧stE e2 st2 i.Steps=0∧stS e2 st2 i.Steps=st2+1:=Y2 hso
 have hte:=LA (t:=(ix f.Blocks ab.toNat).Term) hse
 refine jsk (jx (jq (jr (jm Z (jm Z (js (jf He Z) (js (jla k2 A60 Z60 Z Z Z) (jwr (Ah.W_Term_Imm d0) fun w25=>jvw k1 fun hvw=>jc E51 Z Z (OB (t:=((ix f.Blocks ab.toNat).Term)) w2.one w15.one w16.one htm) (dc (Ah.P_Term d0) dn) (kd kn) (fun _=>p0) (fun _=>p2) fun _=>ja Z ?_))))))))
 refine ja Z (jn (jx (jq (jr (jm Z (js (Ad Z) (js (jf Ic Z) (js (jf Ob Z) (js (jl k0 O3 Z Z) (js (Gz Z Z) (jn ?_)))))))))))
 refine jx ?_
 refine jif Z (fun hc6=>?_) (fun hc6=>?_)
 have hzz:¬(Hv (ix f.Blocks ab.toNat).Term (Es i.Steps ⟨V2,e2,x2,me2,cl2,st2,an2⟩)).en=0:=hc6
 refine jex (jbo (jtx (jbh (jx (jq (jr (jm Z (js (Ad Z) (js (jf Ic Z) (js (jla k0 A37 Z37 Z Z Z) (Az k5 Z37 Z Z Z ⟨Z,Z,w2.one,w15.one,Z,trivial⟩ (saf Z) ?_)))))))))))
 refine jn (jx (jrt (jso (qfz k5 (by omega) (qfz k4 (by omega) ?_)))))
 exact Ky (val:=vOutcome) (b:=⟨Cf ((ix f.Blocks ab.toNat).Term) (stE e2 st2 i.Steps),Cu ((ix f.Blocks ab.toNat).Term) V2 (stV e2 x2 st2 i.Steps),me2,cl2,stS e2 st2 i.Steps⟩) (c:=(v26,vc2)) Z Z k0 A37 Z37 Z (by rw[hrun,ZW (J8 hlis (by omega)) hso hzz hfu];rfl) (Ec.M (m:=⟨Cf ((ix f.Blocks ab.toNat).Term) (stE e2 st2 i.Steps),Cu ((ix f.Blocks ab.toNat).Term) V2 (stV e2 x2 st2 i.Steps),me2,cl2,stS e2 st2 i.Steps⟩) (c:=(v26,vc2)) d1 d0 (wp (IntWalk.i64_in (Cf ((ix f.Blocks ab.toNat).Term) (stE e2 st2 i.Steps)) (by omega))) (wp (D9 (Rz hx2) hvw w25)) (wp (IntWalk.i64_in (stS e2 st2 i.Steps) (by omega))))
 have hz9:Cf (ix f.Blocks ab.toNat).Term (stE e2 st2 i.Steps)=0:=by simpa using hc6
 have hzz:(Hv (ix f.Blocks ab.toNat).Term (Es i.Steps ⟨V2,e2,x2,me2,cl2,st2,an2⟩)).en=0:=hz9
 have htf:Hv (ix f.Blocks ab.toNat).Term (Es i.Steps ⟨V2,e2,x2,me2,cl2,st2,an2⟩)=⟨V2,0,Cu (ix f.Blocks ab.toNat).Term V2 (stV e2 x2 st2 i.Steps),me2,cl2,stS e2 st2 i.Steps,an2⟩:=by unfold Hv Es;dsimp only;rw[hz9]
 have htr:=hG.to _ hbb _ (D8 (V:=V2) htm hz9)
 rw[hz9]
 refine jsk (jbn ?_)
 exact jag (fu-1,Cv ((ix f.Blocks ab.toNat).Term) V2,ab,V2,Cu ((ix f.Blocks ab.toNat).Term) V2 (stV e2 x2 st2 i.Steps),me2,cl2,stS e2 st2 i.Steps,an2,vc2,va2) ⟨by dsimp only;omega,by dsimp only;rw[hrun,ZV (J8 hlis (by omega)) hso hzz hfu,htf],by dsimp only;omega,by have h9:=hG.phi_from hbb (D8 (V:=V2) htm hz9);rwa[Int.toNat_of_nonneg hab.1] at h9,hml2,by dsimp only;omega,by dsimp only;omega,by dsimp only;omega,by first|exact D9 (Rz hx2) hvw (by assumption)|exact(D9 (Rz hx2) hvw hIm)⟩ (dc d1 (dc d2 (dc d3 dn))) (kc k3 (kc k0 (kc k2 (kc k0 (kc k1 (kc k1 kn)))))) ⟨Z,Z,Z,Z,Z,trivial⟩
end Go.Proofs.YtmfkkodnghambaaGreat
namespace Go.Proofs.YtmfkkodnghambaaGreat
open Go.JE
def ret3(v:Int):D.Term:=⟨4,[v],[],0⟩
theorem PL{l:List D.Ins}{v:Int}{k:Nat}(h:v∈(l.take k).flatMap Aw):∃i,i<k∧i<l.length∧v∈Aw (ix l i):=by
 obtain⟨x,h1,h2⟩:=List.mem_flatMap.1 h
 obtain⟨i,hi,e⟩:=List.getElem_of_mem h1
 rw[List.length_take] at hi
 rw[List.getElem_take] at e
 exact⟨i,by omega,by omega,by rw[Bn (show i<l.length by omega),e];exact h2⟩
def aok(op:Int)(n:Nat):Prop:=(Eu op).1≤(n:Int)∧(n:Int)≤(Eu op).2
instance(op:Int)(n:Nat):Decidable (aok op n):=by unfold aok;infer_instance
def tok(t:D.Term):Prop:=(t.Kind=2∨t.Kind=3→t.Args.length=1)∧(t.Kind=1∨t.Kind=5→t.Args.length=0)∧(t.Kind=4→t.Args.length≤1)
def AB(bs:List D.Block):Prop:=∀j,(∀i∈(ix bs j).Ins,aok i.Op i.Args.length)∧tok (ix bs j).Term
theorem AB.put{bs:List D.Block}{b:Nat}{x:D.Block}(h:AB bs)(hi:∀i∈x.Ins,i∈(ix bs b).Ins∨aok i.Op i.Args.length)(ht:x.Term=(ix bs b).Term∨tok x.Term):AB (bs.set b x):=fun j=>by
 by_cases hb:b<bs.length
 ·rw[Bz hb];split
  ·rename_i e;subst e
   exact⟨fun i h1=>(hi i h1).elim ((h _).1 i) id,ht.elim (fun e=>e▸(h _).2) id⟩
  ·exact h j
 ·rw[List.set_eq_of_length_le (by omega)];exact h j
def AG(m m':Mk):Prop:=AB m.bs→AB m'.bs
section
variable{m m' m2:Mk}{j:Int}{b:Nat}
theorem AG.rf:AG m m:=id
theorem AG.tr(h:AG m m')(h2:AG m' m2):AG m m2:=fun h3=>h2 (h h3)
theorem AG.same(h2:m'.bs=m.bs):AG m m':=fun h=>h2▸h
theorem AG.ad{i:D.Ins}(h2:m'.bs=m.bs)(hi:aok i.Op i.Args.length):AG m (Ca j i m'):=fun h=>by
 show AB (m'.bs.set _ _)
 rw[h2]
 exact h.put (fun x hx=>(List.mem_append.1 hx).imp id (fun h1=>by simp at h1;subst h1;exact hi)) (.inl rfl)
theorem AG.con{v:Int}(h:AG m m'):AG m (Bk j v m'):=h.tr (AG.ad (m':=Aq m') rfl (by show aok 1 0;decide))
theorem AG.tk(h:AG m m'):AG m (tSS m'):=h.tr (.same rfl)
theorem AG.wd(h:AG m m'):AG m (Cb m'):=h.tr (.same rfl)
theorem AG.aF{op x v:Int}{a:List Int}(h:AG m m')(ho:aok op a.length):AG m (Ca j ⟨op,x,0,a,v⟩ (Aq m')):=h.tr (AG.ad rfl ho)
theorem AG.aT{op x v:Int}{a:List Int}(h:AG m m')(ho:aok op a.length):AG m (Ca j ⟨op,x,0,a,v⟩ (tSS (Aq m'))):=h.tr (AG.ad rfl ho)
theorem AG.val(h:AG m m'):AG m (Cr m'):=by unfold Cr;split;exact h;exact .tk (.tk h)
theorem AG.som0(h:AG m m'):AG m (Dj m'):=by
 unfold Dj;split
 ·exact .tk (.val h)
 ·exact .val h
theorem AG.som(h:AG m m'):AG m (sS9 j m'):=by
 unfold sS9;split
 ·exact .con (.wd (.som0 h))
 ·exact .som0 h
theorem AG.me1(h:AG m m'):AG m (Bp j m').2:=by
 unfold Bp;dsimp only;split
 ·exact .aF (.aF (.con (.som (.tk (.con (.tk h))))) (by show aok 5 2;decide)) (by show aok 2 2;decide)
 ·exact .tk (.con (.tk h))
theorem AG.me2(h:AG m m'):AG m (mem2 m').2:=by unfold mem2;dsimp only;split<;>exact h.tr (.same rfl)
theorem AG.mem{st:Bool}(h:AG m m'):AG m (Cd j st m'):=by
 unfold Cd;dsimp only;split
 ·exact AG.tr (m':=sS9 j (mem2 (Bp j m').2).2) (.som (.me2 (.me1 h))) (AG.ad rfl (by show aok 16 2;decide))
 ·exact .aF (.me2 (.me1 h)) (by show aok 15 1;decide)
theorem HZ(b:Int):∀(k:Nat) (l:List Int) (m:Mk),(Em b k l m).1.length=l.length+k
 | 0,_,_=>rfl
 | k+1,l,m=>by rw[Em,HZ b k];simp;omega
theorem AG.args:∀(k:Nat) (l:List Int) (m':Mk),AG m m'→AG m (Em j k l m').2
 | 0,_,_,h=>h
 | k+1,l,m',h=>by rw[Em];exact AG.args k _ _ (.som h)
theorem DB{i:Nat}(h:i<12):aok (ix [(2:Int),2,3,4,5,6,7,8,9,10,12,11] i) 2:=by
 have:∀i:Nat,i<12→aok (ix [(2:Int),2,3,4,5,6,7,8,9,10,12,11] i) 2:=by decide
 exact this i h
theorem AG.mw{d t:Int}{a:List Int}(h:AG m m')(ha:a.length=2):AG m (Ca j ⟨18,d,t,a,0⟩ (Aq (Aq m'))):=h.tr (AG.ad rfl (by show aok 18 a.length;rw[ha];decide))
theorem AG.ins(h:AG m m'):AG m (Ce j m'):=by
 have hk:=tV9 (n:=20) (by omega) m'
 unfold Ce;dsimp only
 generalize tVV 20 m'=k at hk
 have h3:AG m (sS9 j (sS9 j (tSS m'))) := .som (.som (.tk h))
 split
 ·split
  ·exact .aF (.con (.tk (.tk h3))) (DB (by omega))
  ·exact .aF (.tk h3) (DB (by omega))
 split
 ·exact .aF h3 (by show aok _ 2;decide)
 split
 ·split
  ·exact .aF (.con (.tk (.tk (.con (.tk (.som (.tk h))))))) (by show aok _ 2;decide)
  ·exact .aF (.tk (.con (.tk (.som (.tk h))))) (by show aok _ 2;decide)
 split
 ·exact .mem (.tk h)
 split
 ·refine .aT (AG.args _ _ _ (.tk (.tk h))) ?_
  have h5:=tV9 (n:=5) (by omega) (tSS m')
  have e:aok 17 (Em j (tVV 5 (tSS m')).toNat [] (tSS (tSS m'))).1.length:=by
   rw[HZ]
   have:∀q:Nat,q≤4→aok 17 (([]:List Int).length+q):=by decide
   exact this _ (by omega)
  exact e
 split
 ·exact .mw h3 rfl
 ·exact .con (.wd (.tk h))
theorem AG.is:∀(k:Nat) (m':Mk),AG m m'→AG m (Kd b k m')
 | 0,_,h=>h
 | k+1,m',h=>by rw[Kd];exact AG.is k _ (.ins h)
theorem AG.sT{t:D.Term}(h:AG m m')(ht:tok t):AG m (setT j t m'):=h.tr fun h=>by
 show AB (m'.bs.set _ _)
 exact h.put (fun i hi => .inl hi) (.inr ht)
theorem AG.en{l:List Int}(h:AG m m'):AG m (Co j l m'):=by
 unfold Co
 split
 ·split
  ·exact .sT (.tk (.tk h)) ⟨fun h=>by simp at h,fun _=>rfl,fun h=>by simp at h⟩
  split
  ·exact .sT (.som (.tk h)) ⟨fun h=>by simp at h,fun h=>by simp at h,fun _=>by simp⟩
  ·exact .sT (.tk h) ⟨fun h=>by simp at h,fun h=>by simp at h,fun _=>by simp⟩
 split
 ·exact .sT h ⟨fun h=>by simp at h,fun _=>rfl,fun h=>by simp at h⟩
 split
 ·dsimp only
  split
  ·have ho:∀i:Nat,i<3→aok (ix [(11:Int),12,13] i) 2:=by decide
   have hr:=tV9 (n:=3) (by omega) (Aq (sS9 j (tSS (sS9 j m'))))
   exact .sT (.aT (.som (.tk (.som h))) (ho _ (by omega))) ⟨fun _=>rfl,fun h=>by simp at h,fun h=>by simp at h⟩
  ·exact .sT (.tk (.som h)) ⟨fun _=>rfl,fun h=>by simp at h,fun h=>by simp at h⟩
 ·dsimp only
  exact .sT (.aF (.con (.som h)) (by show aok _ 2;decide)) ⟨fun _=>rfl,fun h=>by simp at h,fun h=>by simp at h⟩
theorem AG.bl{n:Nat}{to:List (List Int)}{dn:List Bool}:AG m (Jp n to b dn m):=by
 unfold Jp
 exact AG.en (AG.is _ _ (.tk (.same rfl)))
theorem AG.row{n:Nat}{to:List (List Int)}:∀(k b:Nat) (dn:List Bool) (m:Mk),AG m (Fl n to k b dn m).2
 | 0,_,_,_ => .rf
 | k+1,b,dn,m=>by
  rw[Fl];split
  ·exact AG.bl.tr (AG.row k _ _ _)
  ·exact AG.row k _ _ _
theorem AG.turn{n:Nat}{to:List (List Int)}:∀(k:Nat) (dn:List Bool) (m:Mk),AG m (Gv n to k dn m).2
 | 0,_,_ => .rf
 | k+1,dn,m=>by rw[Gv];exact(AG.row _ _ _ _).tr (AG.turn k _ _)
theorem AG.ap:AG m (My b m):=fun h=>by
 show AB (m.bs.set _ _)
 exact h.put (fun i hi => .inl hi) (.inl rfl)
theorem AG.pn:∀(k:Nat) (m:Mk),AG m (Hy b k m)
 | 0,_ => .rf
 | k+1,m=>by rw[Hy];exact AG.ap.tr (AG.pn k _)
theorem AG.ps:∀(k j:Nat) (ph:List Int) (m:Mk),AG m (Gb k j ph m).2
 | 0,_,_,_ => .rf
 | k+1,j,ph,m=>by rw[Gb];exact AG.tr (m':=tSS m) (.tk .rf) ((AG.pn _ _).tr (AG.ps k _ _ _))
theorem AG.inx{p:Int}:AG m (inX p m).2:=by
 unfold inX;split
 ·exact .tk (.con (.wd .rf))
 ·exact .tk .rf
theorem AG.ins'{p:List Int}:∀(k i:Nat) (l:List D.In) (m:Mk),AG m (inS p k i l m).2
 | 0,_,_,_ => .rf
 | k+1,i,l,m=>by rw[inS];exact AG.inx.tr (AG.ins' k _ _ _)
theorem AG.pi{i:Nat}{l:List D.In}:AG m (Ol b i l m):=fun h=>by
 show AB (m.bs.set _ _)
 exact h.put (fun i hi => .inl hi) (.inl rfl)
theorem AG.ip{p:List Int}:∀(k i:Nat) (m:Mk),AG m (inP p b k i m)
 | 0,_,_ => .rf
 | k+1,i,m=>by rw[inP];exact(AG.ins' _ _ _ _).tr (AG.pi.tr (AG.ip k _ _))
theorem AG.fi{ph:List Int}:∀(k j:Nat) (m:Mk),AG m (Ho ph k j m)
 | 0,_,_ => .rf
 | k+1,j,m=>by rw[Ho];exact(AG.ip _ _ _).tr (AG.fi k _ _)
end
theorem SL(s:List Int):AB (Am s).Blocks:=by
 have hb:AB (mdB s).bs:=fun j=>by
  obtain⟨a1,a2,a3,a4,a5⟩:=Uu (mdT s).1 (mdN s).toNat 0 { (mdT s).2 with bs:=List.replicate (mdN s).toNat default }
  obtain⟨h0,_,_,_,_⟩:=Ya s
  by_cases hj:j<(mdN s).toNat
  ·have:=a5 j (by show j<(List.replicate _ _).length;simpa using hj)
   rw[if_pos (by omega)] at this
   dsimp only at this
   rw[Ys] at this
   have e:ix (mdB s).bs j={ (default:D.Block) with Term:={ (default:D.Block).Term with To:=ix (mdT s).1 j } }:=this
   rw[e]
   exact⟨fun i hi=>(by cases hi),⟨fun h=>(by rcases h with h|h<;>cases h),fun _=>rfl,fun _=>Nat.zero_le _⟩⟩
  ·rw[Qz (by have:=h0.len;show(mdB s).bs.length≤j;omega)]
   exact⟨fun i hi=>(by cases hi),⟨fun h=>(by rcases h with h|h<;>cases h),fun _=>rfl,fun _=>Nat.zero_le _⟩⟩
 exact((AG.ps _ _ _ _).tr (AG.turn _ _ _)).tr (AG.fi _ _ _) hb
section
variable{f:D.Func}{n:Nat}{to:List (List Int)}{nx:Int}
theorem Right3.gr(h:Right3 n to f nx){q t:Nat}(hq:q<n):prG (Cj f) q t↔(t:Int)∈ix to q:=by
 have hl:=h.len
 have h1:ix (Bl (Cj f)) q=Ip (ix (Cj f) q) (Cj f).length:=by unfold Bl;rw[Nw (by rw[Ox];omega)]
 have h2:ix (Cj f) q=Ip (ix f.Blocks q).Term.To f.Blocks.length:=by unfold Cj;rw[Nw (l:=f.Blocks) (by omega)]
 unfold prG
 rw[h1,h2,Ox,EK,Vp,h.tos q hq]
 refine⟨fun h=>h.1,fun h3=>⟨h3,?_⟩⟩
 have:=h.tr.2.2 q _ h3
 omega
theorem Right3.rb(h:Right3 n to f nx){w b:Nat}(hr:RB (prG (Cj f)) w b):RA to n w b∧b<n:=by
 have hn:=h.n1
 have hl:=h.len
 induction hr with
 | zero h0=>exact⟨.zero h0,by omega⟩
 | @step x t h1 h2 h3 ih =>
  have h4:=(h.gr ih.2).1 h2
  have h5:=h.tr.2.2 x _ h4
  have:=RA.step ih.1 h4 h5.1 h5.2 (by omega)
  rw[Int.toNat_natCast] at this
  exact⟨this,by omega⟩
theorem Right3.rch(h:Right3 n to f nx):∀(k b:Nat),b<k→b<n→RB (prG (Cj f)) n b
 | 0,b,hb,_=>absurd hb (Nat.not_lt_zero _)
 | k+1,b,hk,hb=>by
  have hn:=h.n1
  by_cases e:b=0
  ·rw[e];exact .zero (by omega)
  ·obtain⟨p,h1,h2⟩:=h.pb b (by omega) (by omega)
   exact .step (h.rch k p (by omega) (by omega)) ((h.gr (by omega)).2 h2) (by omega)
theorem Right3.pk(h:Right3 n to f nx){v:Nat}:∀k,k≤n→Nq (Bl (Cj f)) k v=pT to k v
 | 0,_=>rfl
 | k+1,hk=>by
  rw[Nq,pT,h.pk k (by omega)]
  congr 1
  have h1:(v:Int)∈ix (Bl (Cj f)) k↔(v:Int)∈ix to k:=h.gr (by omega)
  by_cases h2:(v:Int)∈ix to k
  ·rw[if_pos (h1.2 h2),if_pos (List.any_eq_true.2 ⟨_,h2,by simp⟩)]
  ·rw[if_neg (fun h3=>h2 (h1.1 h3)),if_neg (fun h3=>by
    obtain⟨y,h4,h5⟩:=List.any_eq_true.1 h3
    simp at h5;subst h5;exact h2 h4)]
theorem GW:∀(l:List D.Block),(∀x∈l,x.Phis.length≤3)→Jc l≤3*l.length+cI l
 | [],_=>by simp[Jc,cI]
 | x::l,h=>by
  have h1:=GW l (fun y hy=>h y (by simp[hy]))
  have h2:=h x (by simp)
  unfold Jc at h1 ⊢
  rw[List.map_cons,List.sum_cons,cI,List.length_cons]
  omega
theorem Right3.us(h:Right3 n to f nx){b a:Nat}{v:Int}{p:Int}(ha:a<n)(hab:a≠b)(hr:¬RA to n a b)(hv:v∈mkB (ix f.Blocks a)):US f v b p:=by
 have hl:=h.len
 refine .inr ?_
 rcases Iz.1 hv with⟨i,h1,h2⟩|⟨i,h1,h2⟩
 ·exact⟨a,-1-(i:Int),⟨by omega,.inl ⟨i,h1,h2,rfl⟩⟩,.inr ⟨hab,fun h3=>hr (h.rb h3).1⟩⟩
 ·exact⟨a,i,⟨by omega,.inr ⟨i,h1,h2,rfl⟩⟩,.inr ⟨hab,fun h3=>hr (h.rb h3).1⟩⟩
theorem T8{b i:Nat}{v p:Int}(hb:b<f.Blocks.length)(hi:i<(ix f.Blocks b).Phis.length)(hv:v=(ix (ix f.Blocks b).Phis i).Dst):US f v b p :=
 .inr ⟨b,-1-(i:Int),⟨hb,.inl ⟨i,hi,hv,rfl⟩⟩,.inl ⟨rfl,.inr (by omega)⟩⟩
theorem T9{b i:Nat}{v p:Int}(hb:b<f.Blocks.length)(hi:i<(ix f.Blocks b).Ins.length)(hv:v∈Aw (ix (ix f.Blocks b).Ins i))(hp:(i:Int)<p):US f v b p :=
 .inr ⟨b,i,⟨hb,.inr ⟨i,hi,hv,rfl⟩⟩,.inl ⟨rfl,.inl hp⟩⟩
theorem Right3.vo(h:Right3 n to f nx){b:Nat}{v p:Int}(hv:Vo n to f.Params f.Blocks b v):US f v b p:=by
 rcases hv with h1|⟨a,h1,⟨h2,h3⟩,h4⟩
 ·exact .inl h1
 ·exact h.us h1 h2 h3 h4
theorem Right3.vs(h:Right3 n to f nx){b:Nat}{v:Int}(hb:b<n)(hv:Vs n to f.Params f.Blocks b v):US f v b (ix f.Blocks b).Ins.length:=by
 have hl:=h.len
 rcases hv with h1|⟨a,h1,h3,h4⟩
 ·exact .inl h1
 ·by_cases e:a=b
  ·subst e
   rcases Iz.1 h4 with⟨i,h5,h6⟩|⟨i,h5,h6⟩
   ·exact T8 (by omega) h5 h6
   ·exact T9 (by omega) h5 h6 (by omega)
  ·exact h.us h1 e (h3.resolve_left e) h4
theorem WZ(h:Right3 n to f nx)(hV:VI n to f.Params f.Blocks){ny:Int}(hU:UI f.Params ny f.Blocks)(hA:AB f.Blocks):GoodF f:=by
 have hn:=h.n1
 have hl:=h.len
 refine⟨h.par,⟨by omega,by omega⟩,?_,⟨hU.nd,hU.dj⟩,fun b hb r hr=>?_,fun b hb i hi=>?_,fun b hb=>?_,fun b hb t ht=>?_,fun b hb=>⟨n,h.rch (b+1) b (by omega) (by omega)⟩,fun b hb p hp=>?_,fun b hb i hi v hv=>?_,fun b hb v hv=>h.vs (by omega) (hV.tm b (by omega) v hv),fun b hb p hp x hx=>?_⟩
 ·have h1:=GW f.Blocks (fun x hx=>by
   obtain⟨j,hj,e⟩:=List.getElem_of_mem hx
   rw[←e,←Bn hj];exact h.ph3 j (by omega))
  have:=h.cnt
  omega
 ·have h1:=hU.rg b r hr
  have h2:=h.blk b (by omega)
  have h3:=h.nxb
  rcases List.mem_append.1 hr with h4|h4
  ·obtain⟨p,h5,h6⟩:=List.mem_map.1 h4
   have:=(h2.2.1 p h5).1;omega
  ·obtain⟨i,h5,h6⟩:=List.mem_flatMap.1 h4
   have:=(h2.1 i h5).2.2.2.2.1 r h6;omega
 ·exact⟨((h.blk b (by omega)).1 i hi).1,(hA b).1 i hi⟩
 ·obtain⟨h1,h2,h3⟩:=(hA b).2
  have hk:=h.kd b (by omega)
  have hg:=(h.blk b (by omega)).2.2.1.resolve_left hk
  obtain⟨g1,g2,g3,g4,g5,g6⟩:=hg
  generalize (ix f.Blocks b).Term=t at *
  have hk5:t.Kind=1∨t.Kind=2∨t.Kind=3∨t.Kind=4∨t.Kind=5:=by omega
  rcases hk5 with e|e|e|e|e
  ·exact⟨(0,0,1,1),by rw[e];rfl,by have:=h2 (.inl e);dsimp only;omega,by have:=g3 e;dsimp only;omega⟩
  ·exact⟨(1,1,2,2),by rw[e];rfl,by have:=h1 (.inl e);dsimp only;omega,by have:=(g4 e).1;dsimp only;omega⟩
  ·exact⟨(1,1,2,65),by rw[e];rfl,by have:=h1 (.inr e);dsimp only;omega,by have:=g5 e;dsimp only;omega⟩
  ·exact⟨(0,1,0,0),by rw[e];rfl,by have:=h3 e;dsimp only;omega,by rw[g6 (by omega)];exact⟨Int.le_refl _,Int.le_refl _⟩⟩
  ·exact⟨(0,0,0,0),by rw[e];rfl,by have:=h2 (.inr e);dsimp only;omega,by rw[g6 (by omega)];exact⟨Int.le_refl _,Int.le_refl _⟩⟩
 ·rw[h.tos b (by omega)] at ht
  have:=h.tr.2.2 b t ht
  omega
 ·have h0:b≠0:=fun e=>by subst e;rw[h.ph0] at hp;cases hp
  refine⟨by omega,?_⟩
  rw[h.fr b (by omega) p hp,G4,Ox,hl,h.pk n (Nat.le_refl _)]
 ·rcases hV.gd b (by omega) i hi v hv with(h1|h1)|h1
  ·exact h.vo h1
  ·obtain⟨p,h2,h3⟩:=List.mem_map.1 h1
   obtain⟨j,hj,e⟩:=List.getElem_of_mem h2
   exact T8 hb hj (by rw[Bn hj,e];exact h3.symm)
  ·obtain⟨j,h2,h3,h4⟩:=PL h1
   exact T9 hb h3 h4 (by omega)
 ·obtain⟨h1,h2⟩:=hV.ph b (by omega) p hp x hx
  exact h.vs (by omega) h2
end
theorem FR(s:List Int):GoodF (Am s):=by
 obtain⟨nx,h⟩:=J5 s
 obtain⟨ny,hU⟩:=SJ s
 exact WZ h (SK s) hU (SL s)
theorem E74:Ent Tryz.prog 74:=⟨_,Tryz.func74,by kernel_rfl,by kernel_rfl⟩
theorem E75:Ent Tryz.prog 75:=⟨_,Tryz.func75,by kernel_rfl,by kernel_rfl⟩
theorem E76:Ent Tryz.prog 76:=⟨_,Tryz.func76,by kernel_rfl,by kernel_rfl⟩
def evB(x y:D.Event):Bool:=decide (x.Callee=y.Callee)&&Lr x.Args y.Args
def Oz(a b:List D.Event):Bool:=decide (a=b)
theorem XQ{x y:D.Event}(h:evB x y=true):x=y:=by
 unfold evB Lr at h
 cases x;cases y;simp_all
theorem XR(x:D.Event):evB x x=true:=by simp[evB,Lr]
theorem XO{a b:List D.Event}(h:¬a.length=b.length):Oz a b=false:=by simp only[Oz,decide_eq_false_iff_not];rintro rfl;exact h rfl
theorem XP{a b:List D.Event}{k:Nat}(h1:k<a.length)(h2:a.length=b.length)(h:evB (ix a k) (ix b k)=false):Oz a b=false:=by
 simp only[Oz,decide_eq_false_iff_not];rintro rfl;rw[XR] at h;cases h
theorem XN{a b:List D.Event}{k:Nat}(h1:a.length≤k)(h2:a.length=b.length)(h:a.take k=b.take k):Oz a b=true:=by
 rw[List.take_of_length_le h1,List.take_of_length_le (by omega)] at h
 simp only[Oz,h,decide_true]
theorem MV(a b:D.Outcome):Qm a b=(((decide (a.End=b.End)&&decide (a.Val=b.Val))&&Lr a.Mem b.Mem)&&Oz a.Calls b.Calls):=by
 unfold Qm Lr Oz
 simp[Bool.decide_and,Bool.and_assoc]
theorem Z7{a0:Value}{a:List Int}{a1:Value}{b:List Int}:Tv Tryz.prog 74 #[a0,a1] [dv (rL (rI .i32)) a0 a,dv (rL (rI .i32)) a1 b] [] (.bool (Lr a b)):=by
 refine Af (args:=[a0,a1]) Tryz.func74 rfl rfl rfl fun w0 X=>?_
 refine jq (jr (ja Z (jn (jx (jq (jq (jr (jm Z (jdq d0 fun q1 w1=>js (jln U29 d0 Z) (jm Z ?_))))))))))
 refine jdq d1 fun q2 w2=>js (jln U29 d1 Z) (js (Gz Z Z) (jn (jx ?_)))
 refine jif Z (fun hc1=>?_) (fun hc1=>?_)
 refine jq (jr (ja Z (jn (jx (jrt (jtr ?_))))))
 exact jrB Z Z (NH (by omega))
 refine jsk (jx (jq (jq (jr (jm Z (js (jln U29 d0 Z) (jm Z (jn (jx (jb ?_))))))))))
 refine jlp (fun(k:Nat)=>⟨k≤a.length∧a.take k=b.take k,[dv (rL (rI .i32)) a0 a,dv (rL (rI .i32)) a1 b],[],[(0,a0),(1,a1),(12,.int .i64 (↑a.length)),(13,.int .i64 (↑k))],a.length-k⟩) 0 ⟨by omega,rfl⟩ (dc d0 (dc d1 dn)) kn ⟨Z,Z,Z,eqI (by omega),trivial⟩ ?_
 rintro k;dsimp only;rintro⟨hk,hR⟩
 refine jq (jr (js (Ai Z Z) (jn (jx (jq ?_)))))
 refine jif Z (fun hc2=>?_) (fun hc2=>?_)
 refine jsk (jx (jq (jb (jq (jr (jm Z (ja Z (jn (jx (jq (Jj Bh (by kernel_rfl) ?_)))))))))))
 refine jt (jmv Z) (jt (jmv Z) (jt (jix U29 Z21 d0 Z Z Z (by omega)) (jt (jlI (dix d0 k (by omega)) O21 Z) (jt (jmv Z) (jt (jmv Z) (jt (jix U29 Z21 d1 Z Z Z (by omega)) (jt (jlI (dix d1 k (by omega)) O21 Z) (jt (Gz Z Z) (jdn (jx ?_))))))))))
 refine jif Z (fun hc3=>?_) (fun hc3=>?_)
 refine jq (jr (ja Z (jn (jx (jrt (jbr (jtr (jtr (jbr (jtr ?_))))))))))
 exact jrB Z Z (NI (k:=k) (by omega) (by omega) hc3)
 refine jsk (jbn (jx (jr (js (Ac Z Z (by omega)) (jm Z (jn ?_))))))
 exact jag (k+1) ⟨by omega,by rw[Ff (by omega),Ff (by omega),hR,hc3]⟩ (dc d0 (dc d1 dn)) kn ⟨Z,Z,Z,eqI (by omega),trivial⟩
 refine jex (jtx (jtx (jbh (jx (jq (jr (ja Z (jn (jx (jrt ?_))))))))))
 exact jrB Z Z (NG (k:=k) (by omega) (by omega) hR)
theorem MW{a0:Value}{x:D.Event}{a1:Value}{y:D.Event}:Tv Tryz.prog 76 #[vEvent x a0,vEvent y a1] [da Eh (vEvent x a0) x,da Eh (vEvent y a1) y] [] (.bool (evB x y)):=by
 refine Af (args:=[vEvent x a0,vEvent y a1]) Tryz.func76 rfl rfl rfl fun w0 X=>?_
 refine jq (jr (Bj Z Z fun g2=>Bj Z Z fun g3=>ja Z (jn (jx (jq (jr (js (jf IP Z) (js (jl k1 O21 Z Z) (js (jf IP Z) ?_)))))))))
 refine js (jl k0 O21 Z Z) (js (Aj Z Z) (jm Z (jg Z Z (.t _) (fun hg=>jf Zu Z) (jg Z Z (.t _) (fun hg=>jl k1 O29 (evg Z hg) Z) (jg Z Z (.t _) (fun hg=>jf Zu Z) (jg Z Z (.t _) (fun hg=>jl k0 O29 (evg Z hg) Z) (jdq (Eh.c_Args d0) fun q1 w1=>jdq (Eh.c_Args d1) fun q2 w2=>jgc Z Z (.t _) E74 Z (fun hg=>Pw (evg Z hg) (evg Z hg)) (fun hg=>Z7) (fun hg=>(dc (Eh.c_Args d0) (dc (Eh.c_Args d1) dn))) kn p0 (js (Cm Z Z) (ja Z ?_)))))))))
 refine jn (jx (jrt ?_))
 exact jrB Z Z (by rfl)
theorem XM{a0:Value}{a:List D.Event}{a1:Value}{b:List D.Event}:Tv Tryz.prog 75 #[a0,a1,.func (.func 76) #[] #[]] [dv (rL Eh) a0 a,dv (rL Eh) a1 b] [] (.bool (Oz a b )):=by
 refine Af (args:=[a0,a1,.func (.func 76) #[] #[]]) Tryz.func75 rfl rfl rfl fun w0 X=>?_
 refine jq (jr (ja Z (jn (jx (jq (jq (jr (jm Z (jdq d0 fun q1 w1=>js (jln U35 d0 Z) (jm Z ?_))))))))))
 refine jdq d1 fun q2 w2=>js (jln U35 d1 Z) (js (Gz Z Z) (jn (jx ?_)))
 refine jif Z (fun hc1=>?_) (fun hc1=>?_)
 refine jq (jr (ja Z (jn (jx (jrt (jtr ?_))))))
 exact jrB Z Z (XO (by omega))
 refine jsk (jx (jq (jq (jr (jm Z (js (jln U35 d0 Z) (jm Z (jn (jx (jb ?_))))))))))
 refine jlp (fun(k:Nat)=>⟨k≤a.length∧a.take k=b.take k,[dv (rL Eh) a0 a,dv (rL Eh) a1 b],[],[(1,a1),(2,.func (.func 76) #[] #[]),(15,a0),(16,.int .i64 (↑a.length)),(17,.int .i64 (↑k))],a.length-k⟩) 0 ⟨by omega,rfl⟩ (dc d0 (dc d1 dn)) kn ⟨Z,Z,Z,Z,eqI (by omega),trivial⟩ ?_
 rintro k;dsimp only;rintro⟨hk,hR⟩
 refine jq (jr (js (Ai Z Z) (jn (jx (jq ?_)))))
 refine jif Z (fun hc2=>?_) (fun hc2=>?_)
 refine jsk (jx (jq (jb (jq (jr (jm Z (js (jix U35 Z74 d0 Z Z Z (by omega)) (jA AA (jlA (dix d0 k (by omega)) A74 Z74 Z) fun c21=>Bg J74 Z fun g8=>ja Z (jdq (Eh.c_Args d0) fun q4 w4=>?_)))))))))
 refine Az k0 Z74 Z Z Z ⟨Z,w4.one,trivial⟩ (saf Z) (jn (jx (jq (jr (jm Z (jm Z (js (jix U35 Z74 d2 Z Z Z (by omega)) (jA AA (jlA (dix d2 k (by omega)) A74 Z74 Z) fun c25=>Bg J74 Z fun g9=>jdq (Eh.c_Args d0) fun q6 w6=>Az k0 Z74 Z Z Z ⟨Z,w6.one,trivial⟩ (saf Z) ?_))))))))
 refine jn (jx (jq (jr (jm Z (js (jla k1 A74 Z74 Z Z Z) (js (jla k0 A74 Z74 Z Z Z) (jcv E76 Z Z MW (dc d1 (dc d0 dn)) kn (js (Dv Z) (jn (jx ?_))))))))))
 refine jif Z (fun hc3=>?_) (fun hc3=>?_)
 refine jq (jr (ja Z (jn (jx (jrt (jbr (jtr (jtr (jbr (jtr ?_))))))))))
 exact jrB Z Z (XP (k:=k) (by omega) (by omega) hc3)
 refine jsk (jbn (jx (jr (js (Ac Z Z (by omega)) (jm Z (jn ?_))))))
 exact jag (k+1) ⟨by omega,by rw[Ff (by omega),Ff (by omega),hR,XQ hc3]⟩ (dc d2 (dc d3 dn)) kn ⟨Z,Z,Z,Z,eqI (by omega),trivial⟩
 refine jex (jtx (jtx (jbh (jx (jq (jr (ja Z (jn (jx (jrt ?_))))))))))
 exact jrB Z Z (XN (k:=k) (by omega) (by omega) hR)
theorem WS{a0a a0b:Value}{a:D.Outcome}{a1a a1b:Value}{b:D.Outcome}:Tv Tryz.prog 36 #[vOutcome a (a0a,a0b),vOutcome b (a1a,a1b)] [da Ec (vOutcome a (a0a,a0b)) a,da Ec (vOutcome b (a1a,a1b)) b] [] (.bool (Qm a b)):=by
 refine Af (args:=[vOutcome a (a0a,a0b),vOutcome b (a1a,a1b)]) Tryz.func36 rfl rfl rfl fun w0 X=>?_
 refine jq (jr (Bj Z Z fun g2=>Bj Z Z fun g3=>ja Z (jn (jx (jq (jr (js (jf Ob Z) (js (jl k1 O3 Z Z) (js (jf Ob Z) ?_)))))))))
 refine js (jl k0 O3 Z Z) (js (Aj Z Z) (jm Z (jg Z Z (.t _) (fun hg=>jf Wh Z) (jg Z Z (.t _) (fun hg=>jl k1 O21 (evg Z hg) Z) (jg Z Z (.t _) (fun hg=>jf Wh Z) (jg Z Z (.t _) (fun hg=>jl k0 O21 (evg Z hg) Z) (jg Z Z (.t _) (fun hg=>Aj (evg Z hg) (evg Z hg)) (js (Cm Z Z) (jm Z (jg Z Z (.t _) (fun hg=>jf Un Z) (jg Z Z (.t _) (fun hg=>jl k1 O29 (evg Z hg) Z) ?_)))))))))))
 refine jg Z Z (.t _) (fun hg=>jf Un Z) (jg Z Z (.t _) (fun hg=>jl k0 O29 (evg Z hg) Z) (jdq (Ec.c_Mem d0) fun q1 w1=>jdq (Ec.c_Mem d1) fun q2 w2=>jgc Z Z (.t _) E74 Z (fun hg=>Pw (evg Z hg) (evg Z hg)) (fun hg=>Z7) (fun hg=>(dc (Ec.c_Mem d0) (dc (Ec.c_Mem d1) dn))) kn p0 (js (Cm Z Z) (jm Z (jg Z Z (.t _) (fun hg=>jf Rq Z) (jg Z Z (.t _) (fun hg=>jl k1 O35 (evg Z hg) Z) (jg Z Z (.t _) (fun hg=>jf Rq Z) (jg Z Z (.t _) (fun hg=>jl k0 O35 (evg Z hg) Z) (jdq (Ec.c_Calls d0) fun q3 w3=>?_)))))))))
 refine jdq (Ec.c_Calls d1) fun q4 w4=>jgc Z Z (.t _) E75 Z (fun hg=>Ze (evg Z hg) (evg Z hg) Z) (fun hg=>XM) (fun hg=>(dc (Ec.c_Calls d0) (dc (Ec.c_Calls d1) dn))) kn p0 (js (Cm Z Z) (ja Z (jn (jx (jrt ?_)))))
 exact jrB Z Z ((MV a b))
def RV(n:Int)(V:Int→Int)(rs:List Int):Prop:=rs.length=8192∧∀v,0≤v→v<n→ix rs v.toNat=V v
def Ag(n:Int)(rs rs1:List Int):Prop:=rs1.length=rs.length∧∀v:Int,0≤v→v<n→ix rs1 v.toNat=ix rs v.toNat
section
variable{n k d r v w x:Int}{V:Int→Int}{rs rs1 rs2 me me1 me2:List Int}{c c1 c2:List D.Mach}{t:Int}
theorem Ag.rf:Ag n rs rs:=⟨rfl,fun _ _ _=>rfl⟩
theorem Ag.tr(h:Ag n rs rs1)(h2:Ag n rs1 rs2):Ag n rs rs2:=⟨h2.1.trans h.1,fun v a b=>(h2.2 v a b).trans (h.2 v a b)⟩
theorem Ag.le(h:Ag k rs rs1)(hn:n≤k):Ag n rs rs1:=⟨h.1,fun v a b=>h.2 v a (by omega)⟩
theorem Ag.set(h:rs.length=8192)(hn:0≤n∧n≤d)(hd:d<8192):Ag n rs (rs.set d.toNat x):=⟨List.length_set,fun v a b=>by
 rw[Bz (by omega),if_neg (by omega)]⟩
theorem RV.ag(h:RV n V rs)(g:Ag k rs rs1)(hn:n≤k):RV n V rs1:=⟨g.1.trans h.1,fun v a b=>(g.2 v a (by omega)).trans (h.2 v a b)⟩
theorem RV.set(h:RV n V rs)(hd:0≤d∧d<n)(hn:n≤8192):RV n (Bf V d x) (rs.set d.toNat x):=⟨by rw[List.length_set];exact h.1,fun v a b=>by
 rw[Bz (by rw[h.1];omega)]
 unfold Bf
 by_cases e:v=d
 ·subst e;rw[if_pos rfl,if_pos rfl]
 ·rw[if_neg e,if_neg (by omega)];exact h.2 v a b⟩
theorem Rc(h:rs.length=8192)(hr:0≤r∧r<8192):Ab rs r=ix rs r.toNat:=by unfold Ab;rw[if_neg (by omega)]
theorem Lq(h:rs.length=8192)(hr:0≤r∧r<8192):Cw rs r x=rs.set r.toNat x:=by unfold Cw;rw[if_pos (by omega)]
theorem Pv(h:rs.length=8192)(hr:0≤r∧r<8192):Ab (rs.set r.toNat x) r=x:=by rw[Rc (by rw[List.length_set];exact h) hr,Bz (by omega),if_pos rfl]
theorem Vx(h:rs.length=8192)(hr:0≤r∧r<8192)(hd:0≤d∧d<8192)(hn:r≠d):Ab (rs.set d.toNat x) r=Ab rs r:=by rw[Rc (by rw[List.length_set];exact h) hr,Rc h hr,Bz (by omega),if_neg (by omega)]
theorem RV.get(h:RV n V rs)(hr:0≤r∧r<n)(hn:n≤8192):Ab rs r=V r:=by rw[Rc h.1 (by omega)];exact h.2 r hr.1 hr.2
def Ex(c:List D.Mach)(rs me rs' me':List Int):Prop:=∀(N:Int) (K:List Int→List Int→List D.Event→List Int→Int→D.Outcome) (l:List D.Mach) (cl:List D.Event) (an:List Int) (s:Int),s+c.length≤N→Dq N K (c++l) rs me cl an s=Dq N K l rs' me' cl an (s+c.length)
def Ft(c:List D.Mach)(rs me:List Int)(t:Int)(me':List Int):Prop:=∀(N:Int) (K:List Int→List Int→List D.Event→List Int→Int→D.Outcome) (l:List D.Mach) (cl:List D.Event) (an:List Int) (s:Int),s+c.length≤N→∃j:Int,1≤j∧j≤c.length∧Dq N K (c++l) rs me cl an s=⟨2,t,me',cl,s+j⟩
theorem Ex.nil:Ex [] rs me rs me:=fun N K l cl an s _=>by simp
theorem Ex.app(h1:Ex c1 rs me rs1 me1)(h2:Ex c2 rs1 me1 rs2 me2):Ex (c1++c2) rs me rs2 me2:=fun N K l cl an s hN=>by
 rw[List.length_append] at hN ⊢
 rw[List.append_assoc,h1 N K _ cl an s (by omega),h2 N K _ cl an _ (by omega),show s+((c1.length+c2.length:Nat):Int)=s+c1.length+c2.length by omega]
theorem Ft.pre(h1:Ex c1 rs me rs1 me1)(h2:Ft c2 rs1 me1 t me2):Ft (c1++c2) rs me t me2:=fun N K l cl an s hN=>by
 rw[List.length_append] at hN ⊢
 obtain⟨j,a,b,e⟩:=h2 N K l cl an (s+c1.length) (by omega)
 exact⟨c1.length+j,by omega,by omega,by rw[List.append_assoc,h1 N K _ cl an s (by omega),e,show s+c1.length+j=s+(c1.length+j) by omega]⟩
theorem Ft.post(h:Ft c1 rs me t me1):Ft (c1++c2) rs me t me1:=fun N K l cl an s hN=>by
 rw[List.length_append] at hN ⊢
 obtain⟨j,a,b,e⟩:=h N K (c2++l) cl an s (by omega)
 exact⟨j,a,by omega,by rw[List.append_assoc];exact e⟩
theorem Ex.one{i:D.Mach}(h28:i.Op≠28)(h:Au i rs me=((0,true),rs1,me1)):Ex [i] rs me rs1 me1:=fun N K l cl an s hN=>by
 simp only[List.length_singleton] at hN ⊢
 rw[List.singleton_append,Dq,if_neg (by omega),if_neg h28,h];simp
theorem Ft.one{i:D.Mach}(h28:i.Op≠28)(h:Au i rs me=((t,false),rs1,me1)):Ft [i] rs me t me1:=fun N K l cl an s hN=>by
 simp only[List.length_singleton] at hN ⊢
 refine⟨1,by omega,by omega,?_⟩
 rw[List.singleton_append,Dq,if_neg (by omega),if_neg h28,h];simp
theorem LQ{a:Int}:Au ⟨1,d,0,a,0,0,0,[]⟩ rs me=((0,true),Cw rs d (Ab rs a),me):=by simp[Au]
theorem LU:Au ⟨3,d,0,0,0,0,x,[]⟩ rs me=((0,true),Cw rs d x,me):=by simp[Au]
theorem LT:Au ⟨4,d,0,0,0,0,x,[]⟩ rs me=((0,true),Cw rs d x,me):=by simp[Au]
theorem X8{op a b:Int}(h:2≤op∧op≤14):Au ⟨op-2+5,d,0,a,b,0,0,[]⟩ rs me=if (doM op (Ab rs a) (Ab rs b)).2=true then ((0,true),Cw rs d (doM op (Ab rs a) (Ab rs b)).1,me) else ((-1,false),rs,me):=by
 unfold Au;dsimp only
 rw[if_neg (by omega),if_neg (by omega),if_neg (by omega),if_pos (by omega),show op-2+5-5+2=op by omega]
theorem Y1{a:Int}:Au ⟨18,d,0,a,0,0,x,[]⟩ rs me=((0,true),Cw rs d (w32 (Ab rs a+x)),me):=by simp[Au,Fu,doM,ix]
theorem LO{a:Int}:Au ⟨20,d,0,a,0,0,0,[]⟩ rs me=((0,true),Cw rs d (w32 (Ab rs a)),me):=by simp[Au,Fu,doM,ix,Uy]
theorem LR{a b e:Int}:Au ⟨23,d,0,a,b,e,0,[]⟩ rs me=((0,true),Cw rs d (w32 (w32 (Ab rs a*Ab rs b)+Ab rs e)),me):=by simp[Au]
theorem Y0{a:Int}:Au ⟨24,d,0,a,0,0,x,[]⟩ rs me=if (Bq me (w32 (Ab rs a+x))).2=true then ((0,true),Cw rs d (Bq me (w32 (Ab rs a+x))).1,me) else ((-2,false),rs,me):=by simp[Au]
theorem X9{a b:Int}:Au ⟨25,d,0,a,b,0,0,[]⟩ rs me=if (Bq me (w32 (Ab rs a+Ab rs b))).2=true then ((0,true),Cw rs d (Bq me (w32 (Ab rs a+Ab rs b))).1,me) else ((-2,false),rs,me):=by simp[Au]
theorem X7{a b:Int}:Au ⟨26,0,0,a,b,0,x,[]⟩ rs me=((if Hh me (w32 (Ab rs a+x)) (Ab rs b)=true then (0,true) else (-2,false)),rs,Hi me (w32 (Ab rs a+x)) (Ab rs b)):=by simp[Au]
theorem X6{a b e:Int}:Au ⟨27,0,0,a,b,e,0,[]⟩ rs me=((if Hh me (w32 (Ab rs a+Ab rs b)) (Ab rs e)=true then (0,true) else (-2,false)),rs,Hi me (w32 (Ab rs a+Ab rs b)) (Ab rs e)):=by simp[Au]
theorem LP{a b e:Int}:Au ⟨29,d,e,a,b,0,0,[]⟩ rs me=((0,true),Cw (Cw rs d (Ht (Ab rs a) (Ab rs b)).1) e (Ht (Ab rs a) (Ab rs b)).2,me):=by simp[Au]
variable{m:Mq}{a b:Int}
theorem Vk:m.nx≤(Bv r m).nx∧(Bv r m).nx≤m.nx+1:=by
 unfold Bv;split
 ·exact⟨Int.le_refl _,by show m.nx≤_;omega⟩
 ·exact⟨by show m.nx≤m.nx+1;omega,Int.le_refl _⟩
theorem Xe(h:rs.length=8192)(hn:0≤m.nx∧m.nx<8192)(hr:0≤r∧r<m.nx):∃c rs1,(Bv r m).l=m.l++c∧c.length≤1∧(∀me,Ex c rs me rs1 me)∧Ag m.nx rs rs1∧Ab rs1 (Bd r m)=Ab rs r∧0≤Bd r m∧Bd r m<(Bv r m).nx:=by
 unfold Bv Bd
 split
 ·exact⟨[],rs,by simp[Df],by simp,fun me=>Ex.nil,.rf,rfl,by omega,by show r<m.nx;omega⟩
 ·refine⟨[⟨1,m.nx,0,r,0,0,0,[]⟩],rs.set m.nx.toNat (Ab rs r),rfl,by simp,fun me=>Ex.one (by simp) (by rw[LQ,Lq h hn]),Ag.set h (by omega) hn.2,Pv h hn,hn.1,by show m.nx<m.nx+1;omega⟩
theorem Ux(h:rs.length=8192)(hd:0≤d∧d<8192):∃i:D.Mach,(Ea d x m).l=m.l++[i]∧∀me,Ex [i] rs me (rs.set d.toNat x) me:=by
 unfold Ea
 have e:(Hg x m).l=m.l:=by unfold Hg;split<;>rfl
 split
 ·exact⟨_,by show(Hg x m).l++_=_;rw[e],fun me=>Ex.one (by simp) (by rw[LU,Lq h hd])⟩
 ·exact⟨_,by show(Hg x m).l++_=_;rw[e],fun me=>Ex.one (by simp) (by rw[LT,Lq h hd])⟩
theorem T6(h:IntKind.i32.wrap x=x):w32 x=x:=h
theorem KO(h:IntKind.i32.wrap x=x):w32 (w32 (x+100)+-100)=x:=by
 simp only[w32,IntKind.wrap_i32] at h ⊢;omega
theorem MC{y:D.Ins}(h:rs.length=8192)(hn:0≤m.nx∧m.nx+2<8192)(ho:2≤y.Op∧y.Op≤14)(ha:0≤a∧a<m.nx)(hb:0≤b∧b<m.nx)(hd:0≤y.Dst∧y.Dst<m.nx)(hw:IntKind.i32.wrap (Ab rs a)=Ab rs a) :
  ∃c,(Er y a b m).l=m.l++c∧(1≤c.length∧c.length≤3)∧((doM y.Op (Ab rs a) (Ab rs b)).2=true→∃rs1,Ex c rs me rs1 me∧Ag m.nx (rs.set y.Dst.toNat (doM y.Op (Ab rs a) (Ab rs b)).1) rs1) ∧
   ((doM y.Op (Ab rs a) (Ab rs b)).2≠true→Ft c rs me (-1) me):=by
 have hv:IntKind.i32.wrap (doM y.Op (Ab rs a) (Ab rs b)).1=(doM y.Op (Ab rs a) (Ab rs b)).1:=O1 _ _ hw
 have ho1:∀{t},0≤t→t<8192→(doM y.Op (Ab rs a) (Ab rs b)).2=true→Ex [opQ y t a b] rs me (rs.set t.toNat (doM y.Op (Ab rs a) (Ab rs b)).1) me:=fun {t} h1 h2 h3=>Ex.one (by show y.Op-2+5≠28;omega) (by unfold opQ;rw[X8 ho,if_pos h3,Lq h ⟨h1,h2⟩])
 have ho2:∀{t},(doM y.Op (Ab rs a) (Ab rs b)).2≠true→Ft [opQ y t a b] rs me (-1) me:=fun {t} h3=>Ft.one (by show y.Op-2+5≠28;omega) (by unfold opQ;rw[X8 ho,if_neg h3])
 generalize hz:(doM y.Op (Ab rs a) (Ab rs b)).1=z at hv ho1 ⊢
 have agd:∀{rs0:List Int} {t u:Int},rs0.length=8192→m.nx≤t→t<8192→Ag m.nx (rs0.set y.Dst.toNat z) ((rs0.set t.toNat u).set y.Dst.toNat z):=fun {rs0 t u} h0 h1 h2=>⟨by simp,fun v h3 h4=>by
  rw[Bz (l:=rs0.set t.toNat u) (by rw[List.length_set];omega),Bz (l:=rs0) (j:=y.Dst.toNat) (by omega)]
  split
  ·rfl
  ·rw[Bz (by omega),if_neg (by omega)]⟩
 unfold Er
 by_cases c0:Ck 6 m=0
 ·rw[if_pos c0]
  refine⟨[opQ y m.nx a b]++([⟨18,m.nx+1,0,m.nx,0,0,100,[]⟩]++[⟨18,y.Dst,0,m.nx+1,0,0,-100,[]⟩]),by show((m.l++_)++_)++_=_;simp[List.append_assoc],by simp,fun h3=>?_,fun h3=>(ho2 h3).post⟩
  have l1:(rs.set m.nx.toNat z).length=8192:=by rw[List.length_set];exact h
  have l2:((rs.set m.nx.toNat z).set (m.nx+1).toNat (w32 (z+100))).length=8192:=by rw[List.length_set];exact l1
  refine⟨_,(ho1 hn.1 (by omega) h3).app ((Ex.one (by simp) (by rw[Y1,Pv h (by omega),Lq l1 (by omega)])).app (Ex.one (by simp) (by rw[Y1,Pv l1 (by omega),Lq l2 (by omega),KO hv]))),?_⟩
  exact(agd h (Int.le_refl _) (by omega)).tr (agd l1 (by omega) (by omega))
 rw[if_neg c0]
 by_cases c1:Ck 6 m=1
 ·rw[if_pos c1]
  refine⟨[opQ y m.nx a b]++[⟨20,y.Dst,0,m.nx,0,0,0,[]⟩],by show(m.l++_)++_=_;simp[List.append_assoc],by simp,fun h3=>?_,fun h3=>(ho2 h3).post⟩
  have l1:(rs.set m.nx.toNat z).length=8192:=by rw[List.length_set];exact h
  exact⟨_,(ho1 hn.1 (by omega) h3).app (Ex.one (by simp) (by rw[LO,Pv h (by omega),Lq l1 (by omega),T6 hv])),agd h (Int.le_refl _) (by omega)⟩
 rw[if_neg c1]
 by_cases c2:Ck 6 m=2∧y.Op=4
 ·rw[if_pos c2]
  obtain⟨i,hi,hx⟩:=Ux (x:=0) (m:=Cz (Df m)) h (show 0≤m.nx∧m.nx<8192 by omega)
  have l1:(rs.set m.nx.toNat 0).length=8192:=by rw[List.length_set];exact h
  have hm:doM y.Op (Ab rs a) (Ab rs b)=(w32 (Ab rs a*Ab rs b),true):=by rw[c2.2];simp[doM]
  refine⟨[i]++[⟨23,y.Dst,0,a,b,m.nx,0,[]⟩],by show(Ea m.nx 0 (Cz (Df m))).l++_=_;rw[hi];show(m.l++[i])++_=_;simp[List.append_assoc],by simp,fun h3=>?_,fun h3=>absurd (by rw[hm]) h3⟩
  refine⟨_,(hx me).app (Ex.one (by simp) (by rw[LR,Pv h (by omega),Vx h (by omega) (by omega) (by omega),Vx h (by omega) (by omega) (by omega),Lq l1 (by omega)])),?_⟩
  rw[show w32 (w32 (Ab rs a*Ab rs b)+0)=z by
   have:w32 (Ab rs a*Ab rs b)=z:=by rw[←hz,hm]
   rw[this,Int.add_zero];exact T6 hv]
  exact agd h (Int.le_refl _) (by omega)
 rw[if_neg c2]
 exact⟨[opQ y y.Dst a b],rfl,by simp,fun h3=>⟨_,ho1 hd.1 (by omega) h3,.rf⟩,ho2⟩
end
section
variable{n:Int}{x:D.Ins}{m:Mq}{V:Int→Int}{rs me an:List Int}
theorem Rl{k:Nat}(h:k<x.Args.length):aI x V k=V (ix x.Args k):=by unfold aI;rw[Bn (by simpa using h),List.getElem_map,Bn h]
theorem SG{l:List Int}(hR:RV n V rs)(h:∀a∈l,0≤a∧a<n):l.map (fun r=>ix rs r.toNat)=l.map V:=List.map_congr_left (fun a ha=>hR.2 a (h a ha).1 (h a ha).2)
theorem Vt(h:x.Op≠16):Cn x V me=me:=by unfold Cn;rw[if_neg h]
theorem Yv{cl:List D.Event}(h:x.Op≠17):Dh x V cl=cl:=by unfold Dh;rw[if_neg h]
theorem K4(h:x.Op≠17):Dk x an=an:=by unfold Dk;rw[if_neg h]
def Zq(n:Int)(x:D.Ins)(m m':Mq)(V:Int→Int)(rs me an:List Int):Prop:=∃c,m'.l=m.l++c∧(1≤c.length∧c.length≤5)∧(m.nx≤m'.nx∧m'.nx≤m.nx+4) ∧
 (Fq x V me=0→∃rs1,RV n (Ci x V me an) rs1∧∀(N:Int) (K:List Int→List Int→List D.Event→List Int→Int→D.Outcome) (l:List D.Mach) (cl:List D.Event) (s:Int),s+c.length≤N→Dq N K (c++l) rs me cl an s=Dq N K l rs1 (Cn x V me) (Dh x V cl) (Dk x an) (s+c.length)) ∧
 (Fq x V me≠0→Ft c rs me (Fq x V me) (Cn x V me))
theorem Qu{d v:Int}:(Ea d v m).nx=m.nx:=by unfold Ea Hg;(repeat' split)<;>rfl
theorem Ss{v:Int}:(Dm v m).nx=m.nx∧(Dm v m).l=m.l:=by unfold Dm;split<;>exact⟨rfl,rfl⟩
theorem MF{a:Int}{c0:List D.Mach}{rs0:List Int}{m0:Mq}(hR:RV n V rs)(hn:0≤n∧n≤m.nx)(hx:m.nx+2<8192)(hg:gI n x)(ho:x.Op=15∨x.Op=16)(ha:0≤a∧a<m.nx)(hva:Ab rs a=aI x V 0)
  (hc:m.l=m0.l++c0) (hc1:c0.length≤1) (hnx:m0.nx≤m.nx∧m.nx≤m0.nx+1) (hex:Ex c0 rs0 me rs me):Zq n x m0 (Hm x a m) V rs0 me an:=by
 obtain⟨g1,g2,g3,g4,g5,g6⟩:=hg
 have h8:n≤8192:=by omega
 have hl0:0<x.Args.length:=by omega
 have hno:x.Op≠17:=by omega
 have key:∀{c:List D.Mach},(Hm x a m).l=m.l++c→1≤c.length∧c.length≤2→(m.nx≤(Hm x a m).nx∧(Hm x a m).nx≤m.nx+1)→(Fq x V me=0→∃rs1,RV n (Ci x V me an) rs1∧Ex c rs me rs1 (Cn x V me))→(Fq x V me≠0→Ft c rs me (Fq x V me) (Cn x V me))→Zq n x m0 (Hm x a m) V rs0 me an:=by
  intro c h1 h2 h3 h4 h5
  refine⟨c0++c,by rw[h1,hc,List.append_assoc],by rw[List.length_append];omega,by omega,fun h=>?_,fun h=>Ft.pre hex (h5 h)⟩
  obtain⟨rs1,r1,r2⟩:=h4 h
  exact⟨rs1,r1,fun N K l cl s hN=>by rw[Yv hno,K4 hno];exact(hex.app r2) N K l cl an s hN⟩
 unfold Hm at key ⊢
 by_cases o15:x.Op=15
 ·have hd:0≤x.Dst∧x.Dst<n:=g5 x.Dst (by unfold Aw;rw[if_neg (by omega),if_neg (by omega)];simp)
  have eT:Fq x V me=if (Bq me (w32 (aI x V 0+x.Imm))).2=true then 0 else -2:=by unfold Fq;rw[if_pos o15]
  have eV:Ci x V me an=Bf V x.Dst (Bq me (w32 (aI x V 0+x.Imm))).1:=by unfold Ci;rw[if_neg (by omega),if_pos o15]
  rw[Vt (by omega),eV,eT] at key
  by_cases hb:Md x.Imm=true∧0<Ck 3 m
  ·rw[if_pos hb,if_pos o15] at key ⊢
   refine key (c:=[_]) rfl (by simp) ⟨Int.le_refl _,by show m.nx≤_;omega⟩ (fun h=>?_) (fun h=>?_)
   ·have h2:(Bq me (w32 (aI x V 0+x.Imm))).2=true:=by by_cases h2:(Bq me (w32 (aI x V 0+x.Imm))).2=true;exact h2;rw[if_neg h2] at h;omega
    exact⟨_,hR.set hd h8,Ex.one (by simp) (by rw[Y0,hva,if_pos h2,Lq hR.1 (by omega)])⟩
   ·have h2:¬(Bq me (w32 (aI x V 0+x.Imm))).2=true:=fun h2=>h (by rw[if_pos h2])
    rw[if_neg h2]
    exact Ft.one (by simp) (by rw[Y0,hva,if_neg h2])
  ·rw[if_neg hb,if_pos o15] at key ⊢
   obtain⟨i,e1,e2⟩:=Ux (x:=x.Imm) (m:=Cz (Dm x.Imm m)) (rs:=rs) hR.1 (show 0≤m.nx∧m.nx<8192 by omega)
   have l1:(rs.set m.nx.toNat x.Imm).length=8192:=by rw[List.length_set];exact hR.1
   have hR1:RV n V (rs.set m.nx.toNat x.Imm):=hR.ag (Ag.set hR.1 (n:=m.nx) (by omega) (by omega)) hn.2
   have hg1:Ab (rs.set m.nx.toNat x.Imm) a=aI x V 0:=by rw[Vx hR.1 (by omega) (by omega) (by omega),hva]
   have hg2:Ab (rs.set m.nx.toNat x.Imm) m.nx=x.Imm:=Pv hR.1 (by omega)
   refine key (c:=[i,_]) (by show(Ea m.nx x.Imm (Cz (Dm x.Imm m))).l++[_]=_;rw[e1];show((Dm x.Imm m).l++[i])++_=_;rw[Ss.2,List.append_assoc];rfl) (by simp) ?_ (fun h=>?_) (fun h=>?_)
   ·show m.nx≤(Ea m.nx x.Imm (Cz (Dm x.Imm m))).nx∧(Ea m.nx x.Imm (Cz (Dm x.Imm m))).nx≤_
    rw[Qu];show m.nx≤(Dm x.Imm m).nx+1∧(Dm x.Imm m).nx+1≤_;rw[Ss.1];omega
   ·have h2:(Bq me (w32 (aI x V 0+x.Imm))).2=true:=by by_cases h2:(Bq me (w32 (aI x V 0+x.Imm))).2=true;exact h2;rw[if_neg h2] at h;omega
    exact⟨_,hR1.set hd h8,(e2 me).app (c2:=[_]) (Ex.one (by simp) (by rw[X9,hg1,hg2,if_pos h2,Lq l1 (by omega)]))⟩
   ·have h2:¬(Bq me (w32 (aI x V 0+x.Imm))).2=true:=fun h2=>h (by rw[if_pos h2])
    rw[if_neg h2]
    exact Ft.pre (e2 me) (c2:=[_]) (Ft.one (by simp) (by rw[X9,hg1,hg2,if_neg h2]))
 ·have o16:x.Op=16:=by omega
  have hl1:1<x.Args.length:=by omega
  have hb1:=g4 (ix x.Args 1) (Ax hl1)
  have hvb:Ab rs (ix x.Args 1)=aI x V 1:=by rw[Rl hl1];exact hR.get hb1 h8
  have eT:Fq x V me=if Hh me (w32 (aI x V 0+x.Imm)) (aI x V 1)=true then 0 else -2:=by unfold Fq;rw[if_neg o15,if_pos o16]
  have eV:Ci x V me an=V:=by unfold Ci;rw[if_neg (by omega),if_neg o15,if_pos o16]
  have eM:Cn x V me=Hi me (w32 (aI x V 0+x.Imm)) (aI x V 1):=by unfold Cn;rw[if_pos o16]
  rw[eM,eV,eT] at key
  by_cases hb:Md x.Imm=true∧0<Ck 3 m
  ·rw[if_pos hb,if_neg o15] at key ⊢
   refine key (c:=[_]) rfl (by simp) ⟨Int.le_refl _,by show m.nx≤_;omega⟩ (fun h=>?_) (fun h=>?_)
   ·have h2:Hh me (w32 (aI x V 0+x.Imm)) (aI x V 1)=true:=by by_cases h2:Hh me (w32 (aI x V 0+x.Imm)) (aI x V 1)=true;exact h2;rw[if_neg h2] at h;omega
    exact⟨rs,hR,Ex.one (by simp) (by rw[X7,hva,hvb,if_pos h2])⟩
   ·have h2:¬Hh me (w32 (aI x V 0+x.Imm)) (aI x V 1)=true:=fun h2=>h (by rw[if_pos h2])
    rw[if_neg h2]
    exact Ft.one (by simp) (by rw[X7,hva,hvb,if_neg h2])
  ·rw[if_neg hb,if_neg o15] at key ⊢
   obtain⟨i,e1,e2⟩:=Ux (x:=x.Imm) (m:=Cz (Dm x.Imm m)) (rs:=rs) hR.1 (show 0≤m.nx∧m.nx<8192 by omega)
   have hR1:RV n V (rs.set m.nx.toNat x.Imm):=hR.ag (Ag.set hR.1 (n:=m.nx) (by omega) (by omega)) hn.2
   have hg1:Ab (rs.set m.nx.toNat x.Imm) a=aI x V 0:=by rw[Vx hR.1 (by omega) (by omega) (by omega),hva]
   have hg2:Ab (rs.set m.nx.toNat x.Imm) m.nx=x.Imm:=Pv hR.1 (by omega)
   have hg3:Ab (rs.set m.nx.toNat x.Imm) (ix x.Args 1)=aI x V 1:=by rw[Vx hR.1 (by omega) (by omega) (by omega),hvb]
   refine key (c:=[i,_]) (by show(Ea m.nx x.Imm (Cz (Dm x.Imm m))).l++[_]=_;rw[e1];show((Dm x.Imm m).l++[i])++_=_;rw[Ss.2,List.append_assoc];rfl) (by simp) ?_ (fun h=>?_) (fun h=>?_)
   ·show m.nx≤(Ea m.nx x.Imm (Cz (Dm x.Imm m))).nx∧(Ea m.nx x.Imm (Cz (Dm x.Imm m))).nx≤_
    rw[Qu];show m.nx≤(Dm x.Imm m).nx+1∧(Dm x.Imm m).nx+1≤_;rw[Ss.1];omega
   ·have h2:Hh me (w32 (aI x V 0+x.Imm)) (aI x V 1)=true:=by by_cases h2:Hh me (w32 (aI x V 0+x.Imm)) (aI x V 1)=true;exact h2;rw[if_neg h2] at h;omega
    exact⟨_,hR1,(e2 me).app (c2:=[_]) (Ex.one (by simp) (by rw[X6,hg1,hg2,hg3,if_pos h2]))⟩
   ·have h2:¬Hh me (w32 (aI x V 0+x.Imm)) (aI x V 1)=true:=fun h2=>h (by rw[if_pos h2])
    rw[if_neg h2]
    exact Ft.pre (e2 me) (c2:=[_]) (Ft.one (by simp) (by rw[X6,hg1,hg2,hg3,if_neg h2]))
theorem DI{a b:Int}:m.nx≤(Er x a b m).nx∧(Er x a b m).nx≤m.nx+2:=by
 unfold Er
 (repeat' split)<;>first
  | exact⟨by show m.nx≤m.nx+1+1;omega,by show m.nx+1+1≤_;omega⟩
  | exact⟨by show m.nx≤m.nx+1;omega,by show m.nx+1≤_;omega⟩
  | (show m.nx≤(Ea m.nx 0 (Cz (Df m))).nx∧(Ea m.nx 0 (Cz (Df m))).nx≤_;rw[Qu];exact⟨by show m.nx≤m.nx+1;omega,by show m.nx+1≤_;omega⟩)
  | exact⟨Int.le_refl _,by show m.nx≤_;omega⟩
theorem MG(hR:RV n V rs)(hV:∀k,IntKind.i32.wrap (V k)=V k)(hn:0≤n∧n≤m.nx)(hx:m.nx+4<8192)(hg:gI n x):Zq n x m (Da x m) V rs me an:=by
 have hg':=hg
 obtain⟨g1,g2,g3,g4,g5,g6⟩:=hg
 have h8:n≤8192:=by omega
 have one:∀{i:D.Mach} {m':Mq} {r1:List Int},m'.l=m.l++[i]→m'.nx=m.nx→x.Op≠16→x.Op≠17→Fq x V me=0→RV n (Ci x V me an) r1→Ex [i] rs me r1 me→Zq n x m m' V rs me an:=by
  intro i m' r1 h1 h2 h3 h4 h5 h6 h7
  refine⟨[i],h1,by simp,by omega,fun _=>⟨r1,h6,fun N K l cl s hN=>?_⟩,fun h=>absurd h5 h⟩
  rw[Vt h3,Yv h4,K4 h4];exact h7 N K l cl an s hN
 unfold Da
 by_cases o1:x.Op=1
 ·rw[if_pos o1]
  have hd:0≤x.Dst∧x.Dst<n:=g5 x.Dst (by unfold Aw;rw[if_neg (by omega),if_neg (by omega)];simp)
  obtain⟨i,e1,e2⟩:=Ux (x:=x.Imm) (m:=m) (rs:=rs) (d:=x.Dst) hR.1 (by omega)
  exact one e1 Qu (by omega) (by omega) (by unfold Fq;rw[if_neg (by omega),if_neg (by omega),if_pos (.inl o1)]) (by unfold Ci;rw[if_pos o1];exact hR.set hd h8) (e2 me)
 rw[if_neg o1]
 by_cases o15:x.Op=15∨x.Op=16
 ·rw[if_pos o15]
  have hl0:0<x.Args.length:=by omega
  have ha:=g4 (ix x.Args 0) (Ax hl0)
  obtain⟨c,r1,q1,q2,q3,q4,q5,q6,q7⟩:=Xe (m:=m) (r:=ix x.Args 0) hR.1 (by omega) (by omega)
  have q8:=Vk (r:=ix x.Args 0) (m:=m)
  exact MF (m:=Bv (ix x.Args 0) m) (hR.ag q4 hn.2) (by omega) (by omega) hg' o15 ⟨q6,q7⟩ (by rw[q5,Rl hl0];exact hR.get ha h8) q1 q2 q8 (q3 me)
 rw[if_neg o15]
 by_cases o17:x.Op=17
 ·rw[if_pos o17]
  have hd:0≤x.Dst∧x.Dst<n:=g5 x.Dst (by unfold Aw;rw[if_neg (by omega),if_neg (by omega)];simp)
  have eT:Fq x V me=0:=by unfold Fq;rw[if_neg (by omega),if_neg (by omega),if_pos (.inr (.inl o17))]
  refine⟨[_],rfl,by simp,⟨Int.le_refl _,by show m.nx≤_;omega⟩,fun _=>⟨HF rs x.Dst an,?_,fun N K l cl s hN=>?_⟩,fun h=>absurd eT h⟩
  ·have e:Ci x V me an=Bf V x.Dst (ix an 0):=by
    unfold Ci
    rw[if_neg o1,if_neg (by omega),if_neg (by omega),if_pos o17]
    by_cases h:0<an.length
    ·rw[if_pos h];funext j;unfold Bf;split<;>rfl
    ·rw[if_neg h]
     have:an=[]:=List.eq_nil_of_length_eq_zero (by omega)
     subst this;rfl
   rw[e];exact hR.set hd h8
  ·simp only[List.length_singleton] at hN ⊢
   rw[List.singleton_append,Dq,if_neg (by omega),if_pos rfl,Vt (by omega)]
   unfold Dh Dk;rw[if_pos o17,if_pos o17]
   dsimp only;rw[SG hR g4];rfl
 rw[if_neg o17]
 have hl1:1<x.Args.length:=by omega
 have ha:=g4 (ix x.Args 0) (Ax (by omega))
 have hb:=g4 (ix x.Args 1) (Ax hl1)
 by_cases o18:x.Op=18
 ·rw[if_pos o18]
  have hm:Aw x=[x.Dst,x.Two]:=by unfold Aw;rw[if_neg (by omega),if_pos o18]
  have hd:0≤x.Dst∧x.Dst<n:=g5 x.Dst (by rw[hm];simp)
  have ht:0≤x.Two∧x.Two<n:=g5 x.Two (by rw[hm];simp)
  refine one (i:=⟨29,x.Dst,x.Two,ix x.Args 0,ix x.Args 1,0,0,[]⟩) rfl rfl (by omega) (by omega) (by unfold Fq;rw[if_neg (by omega),if_neg (by omega),if_pos (.inr (.inr o18))]) (r1:=(rs.set x.Dst.toNat (Ht (V (ix x.Args 0)) (V (ix x.Args 1))).1).set x.Two.toNat (Ht (V (ix x.Args 0)) (V (ix x.Args 1))).2) ?_ (Ex.one (by simp) ?_)
  ·unfold Ci;rw[if_neg o1,if_neg (by omega),if_neg (by omega),if_neg o17,if_pos o18,Rl (by omega),Rl hl1]
   exact(hR.set hd h8).set ht h8
  ·rw[LP,hR.get ha h8,hR.get hb h8,Lq hR.1 (by omega),Lq (by rw[List.length_set];exact hR.1) (by omega)]
 rw[if_neg o18]
 have hd:0≤x.Dst∧x.Dst<n:=g5 x.Dst (by unfold Aw;rw[if_neg (by omega),if_neg o18];simp)
 unfold Ep
 obtain⟨c,r1,q1,q2,q3,q4,q5,q6,q7⟩:=Xe (m:=m) (r:=ix x.Args 0) hR.1 (by omega) (by omega)
 have q8:=Vk (r:=ix x.Args 0) (m:=m)
 obtain⟨c',r2,p1,p2,p3,p4,p5,p6,p7⟩:=Xe (m:=Bv (ix x.Args 0) m) (r:=ix x.Args 1) (rs:=r1) (q4.1.trans hR.1) (by omega) (by omega)
 have p8:=Vk (r:=ix x.Args 1) (m:=Bv (ix x.Args 0) m)
 have hR2:RV n V r2:=(hR.ag q4 hn.2).ag p4 (by omega)
 have ga:Ab r2 (Bd (ix x.Args 0) m)=aI x V 0:=by
  rw[Rc hR2.1 (by omega),p4.2 _ q6 q7,←Rc (q4.1.trans hR.1) (by omega),q5,Rl (by omega)];exact hR.get ha h8
 have gb:Ab r2 (Bd (ix x.Args 1) (Bv (ix x.Args 0) m))=aI x V 1:=by
  rw[p5,Rc (q4.1.trans hR.1) (by omega),q4.2 _ hb.1 (by omega),Rl hl1];exact hR.2 _ hb.1 hb.2
 have hwa:IntKind.i32.wrap (Ab r2 (Bd (ix x.Args 0) m))=Ab r2 (Bd (ix x.Args 0) m):=by rw[ga,Rl (by omega)];exact hV _
 obtain⟨d,t1,t2,t3,t4⟩:=MC (me:=me) (m:=Bv (ix x.Args 1) (Bv (ix x.Args 0) m)) (y:=x) (a:=Bd (ix x.Args 0) m) (b:=Bd (ix x.Args 1) (Bv (ix x.Args 0) m)) hR2.1 (by omega) (by omega) (by omega) ⟨p6,p7⟩ (by omega) hwa
 have t5:=DI (x:=x) (m:=Bv (ix x.Args 1) (Bv (ix x.Args 0) m)) (a:=Bd (ix x.Args 0) m) (b:=Bd (ix x.Args 1) (Bv (ix x.Args 0) m))
 rw[ga,gb] at t3 t4
 have eT:Fq x V me=if (doM x.Op (aI x V 0) (aI x V 1)).2=true then 0 else -1:=by unfold Fq;rw[if_neg (by omega),if_neg (by omega),if_neg (by omega)]
 have eV:Ci x V me an=Bf V x.Dst (doM x.Op (aI x V 0) (aI x V 1)).1:=by unfold Ci;rw[if_neg o1,if_neg (by omega),if_neg (by omega),if_neg o17,if_neg o18]
 refine⟨c++(c'++d),by rw[t1,p1,q1];simp[List.append_assoc],by simp only[List.length_append];omega,by omega,fun h=>?_,fun h=>?_⟩
 ·have h2:(doM x.Op (aI x V 0) (aI x V 1)).2=true:=by by_cases h2:(doM x.Op (aI x V 0) (aI x V 1)).2=true;exact h2;rw[eT,if_neg h2] at h;omega
  obtain⟨r3,u1,u2⟩:=t3 h2
  rw[eV,Vt (by omega)]
  exact⟨r3,(hR2.set hd h8).ag u2 (by omega),fun N K l cl s hN=>by rw[Yv (by omega),K4 (by omega)];exact((q3 me).app ((p3 me).app u1)) N K l cl an s hN⟩
 ·have h2:(doM x.Op (aI x V 0) (aI x V 1)).2≠true:=fun h2=>h (by rw[eT,if_pos h2])
  rw[eT,if_neg h2,Vt (by omega)]
  exact Ft.pre (q3 me) (Ft.pre (p3 me) (t4 h2))
def Xt(m m':Mq):Prop:=∃c,m'.l=m.l++c
theorem Xt.tr{a b c:Mq}(h:Xt a b)(h2:Xt b c):Xt a c:=by
 obtain⟨x,e⟩:=h;obtain⟨y,e2⟩:=h2;exact⟨x++y,by rw[e2,e,List.append_assoc]⟩
theorem Xt.rf{m:Mq}:Xt m m:=⟨[],by simp⟩
theorem Xt.put{a b:Mq}{i:D.Mach}(h:Xt a b):Xt a (Fh i b):=by obtain⟨x,e⟩:=h;exact⟨x++[i],by show b.l++[i]=_;rw[e,List.append_assoc]⟩
theorem Wu{d v:Int}:Xt m (Ea d v m):=by
 have e:(Hg v m).l=m.l:=by unfold Hg;split<;>rfl
 unfold Ea;split
 ·exact⟨[_],by show(Hg v m).l++_=_;rw[e]⟩
 ·exact⟨[_],by show(Hg v m).l++_=_;rw[e]⟩
theorem Wx{r:Int}:Xt m (Bv r m):=by unfold Bv;split;exact Xt.rf;exact⟨[_],rfl⟩
theorem WB(x:D.Ins)(m:Mq):Xt m (Da x m):=by
 unfold Da
 split
 ·exact Wu
 split
 ·unfold Kb;refine(Wx (r:=ix x.Args 0)).tr ?_;generalize Bv (ix x.Args 0) m=m1;unfold Hm
  have h0:Xt m1 (Ea m1.nx x.Imm (Cz (Dm x.Imm m1))):=Xt.tr (show Xt m1 (Cz (Dm x.Imm m1)) from⟨[],by show(Dm x.Imm m1).l=_;rw[Ss.2];simp⟩) Wu
  split
  ·split<;>exact⟨[_],rfl⟩
  ·split<;>exact h0.put
 split
 ·exact⟨[_],rfl⟩
 split
 ·exact⟨[_],rfl⟩
 ·unfold Ep;refine(Wx (r:=ix x.Args 0)).tr ((Wx (r:=ix x.Args 1)).tr ?_);generalize Bv (ix x.Args 1) _=m1;unfold Er
  split
  ·exact((show Xt m1 (Cz (Cz (Df m1))) from⟨[],by simp[Cz,Df]⟩).put.put.put)
  split
  ·exact((show Xt m1 (Cz (Df m1)) from⟨[],by simp[Cz,Df]⟩).put.put)
  split
  ·exact((show Xt m1 (Cz (Df m1)) from⟨[],by simp[Cz,Df]⟩).tr Wu).put
  ·exact⟨[_],rfl⟩
theorem K6:∀(l:List D.Ins) (m:Mq),Xt m (Hb l m)
 | [],_ => .rf
 | x::l,m=>(WB x m).tr (K6 l _)
end
end Go.Proofs.YtmfkkodnghambaaGreat
