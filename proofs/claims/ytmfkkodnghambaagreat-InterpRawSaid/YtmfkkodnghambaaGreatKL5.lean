/- Lemmas that the claim is made of. Conditions: each lemma names its own. -/
import Derived.Test.YtmfkkodnghambaaGreatKL4
import Derived.Test.YtmfkkodnghambaaGreatKL3
set_option linter.unusedSectionVars false
set_option linter.unusedSimpArgs false
set_option linter.unusedVariables false
namespace Go.Proofs.YtmfkkodnghambaaGreat
open Go.JE
set_option maxRecDepth 4000
theorem shL_get(k:Int):∃sh:Int×Int×Int×Int,(lkM shL k).getD (.agg #[.int .i64 0,.int .i64 0,.int .i64 0,.int .i64 0]) = .agg #[.int .i64 sh.1,.int .i64 sh.2.1,.int .i64 sh.2.2.1,.int .i64 sh.2.2.2]∧((lkM shL k).isSome=true→shM k=some sh)∧((lkM shL k).isSome=false→shM k=none):=by
 cases h:shM k with
 | some s=>rw[shL_at h];exact⟨s,rfl,fun _=>rfl,fun h=>(by cases h)⟩
 | none =>
  have h2:lkM shL k=none:=by
   unfold shM at h
   split at h;· cases h
   split at h;· cases h
   split at h;· cases h
   split at h;· cases h
   split at h;· cases h
   rename_i h1 h2 h3 h4 h5
   unfold lkM shL
   simp only[List.find?]
   have e:∀{a:Int},¬k=a→(a==k)=false:=fun h=>by simp;exact fun h9=>h h9.symm
   rw[e h1,e h2,e h3,e h4,e h5];rfl
  rw[h2];exact⟨(0,0,0,0),rfl,fun h=>(by cases h),fun _=>rfl⟩
theorem sh_tm{t:D.Term}{sh:Int×Int×Int×Int}(h1:(lkM shL t.Kind).isSome=true→shM t.Kind=some sh)(h2:(lkM shL t.Kind).isSome=false→shM t.Kind=none) :
  tmOk t↔(((lkM shL t.Kind).isSome&&withinM t.Args.length sh.1 sh.2.1)&&withinM t.To.length sh.2.2.1 sh.2.2.2)=true:=by
 constructor
 ·rintro⟨s,h3,h4,h5⟩
  cases h6:(lkM shL t.Kind).isSome with
  | false=>rw[h2 h6] at h3;cases h3
  | true =>
   have h7:=h1 h6
   rw[h3] at h7;injection h7 with h7;subst h7
   simp[within_of h4,within_of h5]
 ·intro h
  simp only[Bool.and_eq_true] at h
  exact⟨sh,h1 h.1.1,of_within h.1.2,of_within h.2⟩
set_option maxHeartbeats 800000 in
theorem kShapeX_ct{g0 gm:Nat}{cf:Value}{f:D.Func}{L:List (Int×Value)}(hL0:L=[]):Trx Tryz.prog 115 #[.pointer (some ⟨g0,0,none⟩)] [da rFunc (vFunc f cf) f] [bx g0 179 [.int .i64 f.Params,cf,.map (some gm)],im gm L] (fun _:PLift (ShOk f) => .tuple #[]) (fun _=>[]) (fun _ _=>[bx g0 179 [.int .i64 f.Params,cf,.map (some gm)],im gm (bkA f.Blocks f.Blocks.length)]) (fun c=>¬ShOk f∧Tch c):=by
 refine xenter (args:=[.pointer (some ⟨g0,0,none⟩)]) Tryz.func115 rfl rfl rfl fun w0 X=>?_
 subst hL0
 refine jq (jr (jm Z (js (jnil Z) (js (jf F179_0 Z) (js (jf F49_1 Z) (js (jl k0 O47 Z Z) (jdq (rFunc.cB d0) fun q1 w1=>js (jln U47 (rFunc.cB d0) Z) (jm Z (jn (jx ?_))))))))))
 refine jb ?_
 refine jlp (u2 fun(k:Nat) (L1:List (Int×Value))=>⟨k≤f.Blocks.length∧L1=bkA f.Blocks k∧ShB f k,[da rFunc (vFunc f cf) f],[bx g0 179 [.int .i64 f.Params,cf,.map (some gm)],im gm L1],[(0,.pointer (some ⟨g0,0,none⟩)),(18,cf),(19,.int .i64 (↑(List.length f.Blocks))),(20,.int .i64 (↑k))],f.Blocks.length-k⟩) (0,[]) ⟨by dsimp only;omega,rfl,(fun j hj=>absurd hj (Nat.not_lt_zero _))⟩ (dc d0 dn) (kd kn) ⟨Z,Z,Z,eqI (by omega),trivial⟩ ?_
 rintro⟨k,L1⟩;dsimp only[u2];rintro⟨hk,hL1,hS9⟩
 refine jq (jr (js (jlss Z Z) (jn (jx (jq ?_)))))
 refine jif Z (fun hc1=>?_) (fun hc1=>?_)
 have hb:k<f.Blocks.length:=by omega
 obtain⟨sh,hs1,hs2,hs3⟩:=shL_get (ix f.Blocks k).Term.Kind
 refine jsk (jx (jq (jb (jq (jr (jm Z (js (jix U47 Z62 (rFunc.cB d0) Z Z Z (by omega)) (jA4 sBlock (jlA (dix (rFunc.cB d0) k (by omega)) A62 Z62 Z) fun c24a c24b c24c c24d=>jalc J62 Z fun g3=>ja Z (jdq (rBlock.cP d0) fun q3 w3=>?_)))))))))
 refine jdq (rBlock.cI d0) fun q4 w4=>jdq (rBlock.c_Term_Args d0) fun q5 w5=>jdq (rBlock.c_Term_To d0) fun q6 w6=>jsta k0 Z62 Z Z Z ⟨w3.one,w4.one,Z,w5.one,w6.one,Z,trivial⟩ (saf Z) (jn (jx (jq (jq (jr (js (jf F62_0 Z) (js (jl k0 O57 Z Z) (js (jln U57 (rBlock.cP d0) Z) ?_))))))))
 refine jm Z (jn (jx (jb ?_)))
 refine jlp (u2 fun(i:Nat) (L2:List (Int×Value))=>⟨i≤(ix f.Blocks k).Phis.length∧L2=phA k (ix f.Blocks k).Phis L1 i∧phB f k i,[da rBlock (vBlock (ix f.Blocks k) (c24a,c24b,c24c,c24d)) (ix f.Blocks k),da rFunc (vFunc f cf) f],[bx g3 62 [c24a,c24b,.int .i64 (((ix f.Blocks k).Term).Kind),c24c,c24d,.int .i32 (((ix f.Blocks k).Term).Imm)],bx g0 179 [.int .i64 f.Params,cf,.map (some gm)],im gm L2],[(0,.pointer (some ⟨g0,0,none⟩)),(2,.int .i64 (↑k)),(3,.pointer (some ⟨g3,0,none⟩)),(18,cf),(19,.int .i64 (↑(List.length f.Blocks))),(20,.int .i64 (↑k)),(26,c24a),(27,.int .i64 (↑(List.length ((ix f.Blocks k).Phis)))),(28,.int .i64 (↑i))],(ix f.Blocks k).Phis.length-i⟩) (0,L1) ⟨by dsimp only;omega,rfl,(fun j hj=>absurd hj (Nat.not_lt_zero _))⟩ (dc d0 (dc d1 dn)) (kd (kc k0 kn)) ⟨Z,Z,Z,Z,Z,Z,Z,Z,eqI (by omega),trivial⟩ ?_
 rintro⟨i,L2⟩;dsimp only[u2];rintro⟨hi,hL2,hP9⟩
 refine jq (jr (js (jlss Z Z) (jn (jx (jq ?_)))))
 refine jif Z (fun hc2=>?_) (fun hc2=>?_)
 refine jsk (jx (jq (jb (jq (jr (jm Z (js (jix U57 Z65 (rBlock.cP d0) Z Z Z (by omega)) (jA sPhi (jlA (dix (rBlock.cP d0) i (by omega)) A65 Z65 Z) fun c32=>jalc J65 Z fun g5=>ja Z (jdq (rPhi.c_In d0) fun q8 w8=>?_)))))))))
 refine jsta k0 Z65 Z Z Z ⟨Z,w8.one,trivial⟩ (saf Z) (jn (jx (jr (jm Z (js (jf F65_0 Z) (js (jl k0 O3 Z Z) (jlit (r:=(rI .i64)) (l:=[(ix ((ix f.Blocks k).Phis) i).Dst]) U22 I3 (by decide) Z Z Z (lV Z Z (wI (rPhi.W_Dst d0)) ln) fun g36=>jm Z (jm Z (js (jsub Z Z (by omega)) (jfz k0 (by(try simp)<;>omega) ?_))))))))))
 refine jcy E161 Z Z (kAllX_ct (f:=f) _ _ (by rw[hL2,hL1];exact(WV.bkA _ _).phA _)) (dc d3 (dc d0 dn)) (kc k2 (kc k2 kn)) (fun _=>p0) (fun _=>p2) (fun c hc=>⟨(fun h9=>hc.1 (by rw[hL2,hL1];exact(h9 k hb).1 i (by omega))),hc.2⟩) fun hm40=>jn (jbn (jx (jr (js (jadd Z Z (by omega)) (jm Z (jn ?_))))))
 exact jag (i+1,insA ((k:Nat):Int) ((-1)-((i:Nat):Int)) ([(ix ((ix f.Blocks k).Phis) i).Dst]) L2) ⟨by dsimp only;omega,by dsimp only;rw[hL2];rfl,phB_nx hP9 (by have h9:=hm40.down;rw[hL2,hL1] at h9;exact h9)⟩ (dc d2 (dc d3 dn)) (kc k3 (kd kn)) ⟨Z,Z,Z,Z,Z,Z,Z,Z,eqI (by omega),trivial⟩
 refine jex (jtx (jtx (jbh (jx (jq (jq (jr (js (jf F62_1 Z) (js (jl k0 O58 Z Z) (js (jln U58 (rBlock.cI d0) Z) (jm Z ?_)))))))))))
 refine jn (jx (jb ?_))
 refine jlp (u2 fun(j:Nat) (L3:List (Int×Value))=>⟨j≤(ix f.Blocks k).Ins.length∧L3=inA k (ix f.Blocks k).Ins L2 j∧inB f k j,[da rBlock (vBlock (ix f.Blocks k) (c24a,c24b,c24c,c24d)) (ix f.Blocks k),da rFunc (vFunc f cf) f],[bx g3 62 [c24a,c24b,.int .i64 (((ix f.Blocks k).Term).Kind),c24c,c24d,.int .i32 (((ix f.Blocks k).Term).Imm)],bx g0 179 [.int .i64 f.Params,cf,.map (some gm)],im gm L3],[(0,.pointer (some ⟨g0,0,none⟩)),(2,.int .i64 (↑k)),(3,.pointer (some ⟨g3,0,none⟩)),(18,cf),(19,.int .i64 (↑(List.length f.Blocks))),(20,.int .i64 (↑k)),(43,c24b),(44,.int .i64 (↑(List.length ((ix f.Blocks k).Ins)))),(45,.int .i64 (↑j))],(ix f.Blocks k).Ins.length-j⟩) (0,L2) ⟨by dsimp only;omega,rfl,(fun j hj=>absurd hj (Nat.not_lt_zero _))⟩ (dc d0 (dc d1 dn)) (kd (kc k0 kn)) ⟨Z,Z,Z,Z,Z,Z,Z,Z,eqI (by omega),trivial⟩ ?_
 rintro⟨j,L3⟩;dsimp only[u2];rintro⟨hj,hL3,hI9⟩
 refine jq (jr (js (jlss Z Z) (jn (jx (jq ?_)))))
 refine jif Z (fun hc3=>?_) (fun hc3=>?_)
 refine jsk (jx (jq (jb (jq (jr (jm Z (js (jix U58 Z67 (rBlock.cI d0) Z Z Z (by omega)) (jA sIns (jlA (dix (rBlock.cI d0) j (by omega)) A67 Z67 Z) fun c49=>jalc J67 Z fun g7=>ja Z (jdq (rIns.c_Args d0) fun q11 w11=>?_)))))))))
 refine jsta k0 Z67 Z Z Z ⟨Z,Z,Z,w11.one,Z,trivial⟩ (saf Z) (jn (jx (jq (jr (js (jf F67_0 Z) (js (jl k0 O3 Z Z) (jcv E114 Z Z (within_ct ((ix ((ix f.Blocks k).Ins) j).Op) 1 18) dn kn (jm Z (jm Z (jcy E113 Z Z (mustX_ct _ _ _ _ (by decide)) dn kn (fun _=>p0) (fun _=>p0) (fun c hc=>⟨(fun h9=>absurd ((h9 k hb).2.1 j (by omega)).1.1 (by rw[hc.1];decide)),hc.2⟩) fun hm55=>jn ?_))))))))))
 refine jx (jq (jr (js (jf F67_0 Z) (js (jl k0 O3 Z Z) (jcv E162 Z Z (oper_ct ((ix ((ix f.Blocks k).Ins) j).Op)) dn kn (jm Z (js (jex' Z Z) (js (jex' Z Z) (ja Z (ja Z (jn ?_)))))))))))
 refine jx (jq (jr (js (jf F67_3 Z) (js (jl k0 O22 Z Z) (js (jln U22 (rIns.c_Args d0) Z) (jm Z (jm Z (jcv E114 Z Z (within_ct (↑(List.length ((ix ((ix f.Blocks k).Ins) j).Args))) ((operM ((ix ((ix f.Blocks k).Ins) j).Op)).1) ((operM ((ix ((ix f.Blocks k).Ins) j).Op)).2)) dn kn (jm Z (jm Z (jcy E113 Z Z (mustX_ct _ _ _ _ (by decide)) dn kn (fun _=>p0) (fun _=>p0) (fun c hc=>⟨(fun h9=>absurd ((h9 k hb).2.1 j (by omega)).1.2 (by rw[hc.1];decide)),hc.2⟩) fun hm70=>?_)))))))))))
 refine jn (jx (jr (jm Z (js (jla k0 A67 Z67 Z Z Z) (jcd E163 Z Z kMakes_ct (dc d0 dn) kn fun v73 q12 w12=>jm Z (jm Z (jcy E161 Z Z (kAllX_ct (f:=f) _ _ (by rw[hL3,hL2,hL1];exact((WV.bkA _ _).phA _).inA _)) (dc d3 (dc d0 dn)) (kc k2 (kc k2 kn)) (fun _=>p0) (fun _=>p2) (fun c hc=>⟨(fun h9=>hc.1 (by rw[hL3,hL2,hL1,show i=(ix f.Blocks k).Phis.length by omega];exact((h9 k hb).2.1 j (by omega)).2)),hc.2⟩) fun hm76=>jn (jbn (jx ?_)))))))))
 refine jr (js (jadd Z Z (by omega)) (jm Z (jn ?_)))
 exact jag (j+1,insA ((k:Nat):Int) ((j:Nat):Int) (makes3 (ix ((ix f.Blocks k).Ins) j)) L3) ⟨by dsimp only;omega,by dsimp only;rw[hL3];rfl,inB_nx hI9 ⟨hm55.down,hm70.down⟩ (by have h9:=hm76.down;rw[hL3,hL2,hL1,show i=(ix f.Blocks k).Phis.length by omega] at h9;exact h9)⟩ (dc d2 (dc d3 dn)) (kc k3 (kd kn)) ⟨Z,Z,Z,Z,Z,Z,Z,Z,eqI (by omega),trivial⟩
 refine jex (jtx (jtx (jbh (jx (jq ?_)))))
 refine jjo (fun(gS:Nat)=>⟨0≤gS,[da rBlock (vBlock (ix f.Blocks k) (c24a,c24b,c24c,c24d)) (ix f.Blocks k),da rFunc (vFunc f cf) f],[bx gS 211 [.int .i64 sh.1,.int .i64 sh.2.1,.int .i64 sh.2.2.1,.int .i64 sh.2.2.2],bx g3 62 [c24a,c24b,.int .i64 (((ix f.Blocks k).Term).Kind),c24c,c24d,.int .i32 (((ix f.Blocks k).Term).Imm)],bx g0 179 [.int .i64 f.Params,cf,.map (some gm)],im gm L3],[(0,.pointer (some ⟨g0,0,none⟩)),(2,.int .i64 (((k:Nat):Int))),(3,.pointer (some ⟨g3,0,none⟩)),(10,.pointer (some ⟨gS,0,none⟩)),(11,.bool ((lkM shL (ix f.Blocks k).Term.Kind).isSome)),(18,cf),(19,.int .i64 (((List.length f.Blocks:Nat):Int))),(20,.int .i64 (((k:Nat):Int)))]⟩) ?_ ?_
 refine jany false (.a 1 (.a 2 (.a 3 (.w 0 8 (.w 4 8 (.a 5 (.a 6 (.a 7 (.o 8 (.o 9 (.a 10 .e)))))) (.o 4 (.a 5 (.a 6 (.a 7 (.o 9 (.a 10 .e))))))) (.o 0 (.o 4 (.a 5 (.a 6 (.a 7 (.o 9 (.a 10 .e))))))))))) Mixed (by kernel_rfl) (kc k0 kn) fun F15=>jy Z (jf F62_2 Z) (jy Z (jf F60_0 Z) (jy Z (jl k0 O3 Z Z) ?_))
 refine jyw Z Z ?_ ?_
 refine jc E164 Z Z shapes_ct dn kn (fun _=>p0) (fun _=>p1) fun g79=>jyn d0 (kc k1 kn) ?_
 refine jyw Z Z ?_ ?_
 refine js (jlkoG U213 U3 J211 k0 Z Z hs1) (jyn d0 (kc k1 kn) (jy Z (jmv Z) (jy Z (jex' Z Z) (jy Z (jex' Z Z) (jyo Z (jalc J211 Z fun g10=>jyn d0 (kc k2 kn) (jyo Z (jsta k0 Z211 Z Z Z ⟨Z,Z,Z,Z,trivial⟩ (saf Z) (jyn d0 (kc k2 kn) (jy Z (jas Z) ?_))))))))))
 refine jyd ?_
 exact jje g10 (Nat.zero_le _) (dc d4 (dc d5 dn)) (kc k0 (kc k1 (kc k1 (kc k1 kn)))) ⟨Z,Z,Z,Z,Z,Z,Z,Z,trivial⟩
 refine jalc J211 Z fun g10=>jyn d0 (kc k2 kn) (jyo Z (js (jlkoG U213 U3 J211 k1 Z Z hs1) (jyn d0 (kc k2 kn) (jy Z (jmv Z) (jy Z (jex' Z Z) (jy Z (jex' Z Z) (jyo Z (jsta k0 Z211 Z Z Z ⟨Z,Z,Z,Z,trivial⟩ (saf Z) (jyn d0 (kc k2 kn) (jy Z (jas Z) ?_))))))))))
 refine jyd ?_
 exact jje g10 (Nat.zero_le _) (dc d4 (dc d5 dn)) (kc k0 (kc k1 (kc k1 (kc k1 kn)))) ⟨Z,Z,Z,Z,Z,Z,Z,Z,trivial⟩
 refine jalc J211 Z fun g10=>jyn d0 (kc k1 kn) (jyo Z (jc E164 Z Z shapes_ct dn kn (fun _=>p0) (fun _=>p1) fun g79=>jyn d0 (kc k2 kn) (jyo Z (js (jlkoG U213 U3 J211 k0 Z Z hs1) (jyn d0 (kc k2 kn) (jy Z (jmv Z) (jy Z (jex' Z Z) (jy Z (jex' Z Z) (jyo Z ?_)))))))))
 refine jsta k1 Z211 Z Z Z ⟨Z,Z,Z,Z,trivial⟩ (saf Z) (jyn d0 (kc k2 kn) (jy Z (jas Z) (jyd ?_)))
 exact jje g10 (Nat.zero_le _) (dc d4 (dc d5 dn)) (kc k0 (kc k1 (kc k1 (kc k1 kn)))) ⟨Z,Z,Z,Z,Z,Z,Z,Z,trivial⟩
 rintro gS;dsimp only;rintro hgS
 refine jx (jq (jany false (.a 0 (.a 1 (.a 2 (.a 3 (.a 4 (.a 5 (.a 6 (.a 7 (.a 8 (.a 9 (.a 23 (.a 24 (.a 25 (.a 26 (.o 10 (.a 11 (.a 12 (.a 13 (.a 14 (.a 15 (.a 16 (.a 17 (.a 18 (.a 19 (.a 20 (.o 21 (.a 22 (.o 27 .e)))))))))))))))))))))))))))) Mixed (by kernel_rfl) (kd kn) fun F20=>jy Z (jmv Z) (jy Z (jmv Z) (jyg Z Z Z (.t _) (fun hg=>jf F62_2 Z) (jyg Z Z Z (.t _) (fun hg=>jf F60_1 (evg Z hg)) (jyg Z Z Z (.t _) (fun hg=>jl k1 O22 (evg Z hg) Z) (jyg Z Z Z (.t _) (fun hg=>jln U22 (rBlock.c_Term_Args d0) (evg Z hg)) (jyg Z Z Z (.t _) (fun hg=>jf F211_0 Z) (jyg Z Z Z (.t _) (fun hg=>jl k0 O3 (evg Z hg) Z) (jyg Z Z Z (.t _) (fun hg=>jf F211_1 Z) ?_))))))))))
 refine jyg Z Z Z (.t _) (fun hg=>jl k0 O3 (evg Z hg) Z) (jy Z (jmv Z) (jy Z (jf F62_1 Z) (jy Z (jl k1 O58 Z Z) (jy Z (jln U58 (rBlock.cI d0) Z) (jyo Z (jgc Z Z (.t _) E114 Z (fun hg=>evl3 (evg Z hg) (evg Z hg) (evg Z hg)) (fun hg=>(within_ct (↑(List.length (((ix f.Blocks k).Term).Args))) sh.1 sh.2.1)) (fun hg=>dn) kn p0 (jyn d0 (kd kn) (jy Z (jand Z Z) (jy Z (jmv Z) (jyg Z Z Z (.t _) (fun hg=>jf F62_2 Z) (jyg Z Z Z (.t _) (fun hg=>jf F60_2 (evg Z hg)) ?_)))))))))))
 refine jyg Z Z Z (.t _) (fun hg=>jl k1 O22 (evg Z hg) Z) (jyg Z Z Z (.t _) (fun hg=>jln U22 (rBlock.c_Term_To d0) (evg Z hg)) (jyg Z Z Z (.t _) (fun hg=>jf F211_2 Z) (jyg Z Z Z (.t _) (fun hg=>jl k0 O3 (evg Z hg) Z) (jyg Z Z Z (.t _) (fun hg=>jf F211_3 Z) (jyg Z Z Z (.t _) (fun hg=>jl k0 O3 (evg Z hg) Z) (jyo Z (jgc Z Z (.t _) E114 Z (fun hg=>evl3 (evg Z hg) (evg Z hg) (evg Z hg)) (fun hg=>(within_ct (↑(List.length (((ix f.Blocks k).Term).To))) sh.2.2.1 sh.2.2.2)) (fun hg=>dn) kn p0 (jyn d0 (kd kn) (jy Z (jand Z Z) (jyo Z (jcy E113 Z Z (mustX_ct _ _ _ _ (by decide)) dn kn (fun _=>p0) (fun _=>p0) (fun c hc=>⟨(fun h9=>absurd ((sh_tm hs2 hs3).1 (h9 k hb).2.2.1) (by rw[hc.1];decide)),hc.2⟩) fun hm113=>?_)))))))))))
 refine jyn d0 (kd kn) (jyd (jx (jq (jr (js (jf F62_2 Z) (js (jf F60_2 Z) (js (jl k1 O22 Z Z) (js (jln U22 (rBlock.c_Term_To d3) Z) (jm Z (jn (jx ?_)))))))))))
 refine jb ?_
 refine jlp (fun(m:Nat)=>⟨m≤(ix f.Blocks k).Term.To.length∧toB f k m,[da rBlock (vBlock (ix f.Blocks k) (c24a,c24b,c24c,c24d)) (ix f.Blocks k),da rFunc (vFunc f cf) f],[bx g3 62 [c24a,c24b,.int .i64 (((ix f.Blocks k).Term).Kind),c24c,c24d,.int .i32 (((ix f.Blocks k).Term).Imm)],bx g0 179 [.int .i64 f.Params,cf,.map (some gm)],im gm L3],[(0,.pointer (some ⟨g0,0,none⟩)),(2,.int .i64 (↑k)),(3,.pointer (some ⟨g3,0,none⟩)),(18,cf),(19,.int .i64 (↑(List.length f.Blocks))),(20,.int .i64 (↑k)),(116,c24d),(117,.int .i64 (↑(List.length (((ix f.Blocks k).Term).To)))),(118,.int .i64 (↑m))],(ix f.Blocks k).Term.To.length-m⟩) 0 ⟨Nat.zero_le _,(fun j hj=>absurd hj (Nat.not_lt_zero _))⟩ (dc d3 (dc d4 dn)) (kc k1 (kc k1 (kc k1 kn))) ⟨Z,Z,Z,Z,Z,Z,Z,Z,eqI (by omega),trivial⟩ ?_
 rintro m;dsimp only;rintro⟨hm,hT9⟩
 refine jq (jr (js (jlss Z Z) (jn (jx (jq ?_)))))
 refine jif Z (fun hc4=>?_) (fun hc4=>?_)
 refine jsk (jx (jq (jb (jq (jr (js (jix U22 Z3 (rBlock.c_Term_To d0) Z Z Z (by omega)) (js (jlI (dix (rBlock.c_Term_To d0) m (by omega)) O3 Z) (ja Z (jn (jx (jany false (.a 0 (.a 1 (.a 2 (.a 3 (.a 4 (.a 5 (.a 6 (.a 7 (.a 9 (.a 10 (.a 11 (.a 12 (.o 8 (.o 13 .e)))))))))))))) Mixed (by kernel_rfl) (kd kn) fun F24=>?_)))))))))))
 refine jy Z (jmv Z) (jy Z (jmv Z) (jy Z (jnil Z) (jy Z (jf F179_0 Z) (jy Z (jf F49_1 Z) (jy Z (jl k1 O47 Z Z) (jy Z (jln U47 (rFunc.cB d1) Z) (jy Z (jsub Z Z (by omega)) (jy Z (jmv Z) (jy Z (jf F62_1 Z) (jy Z (jl k0 O58 Z Z) (jy Z (jln U58 (rBlock.cI d0) Z) ?_)))))))))))
 refine jyo Z (jcv E114 Z Z (within_ct (ix (((ix f.Blocks k).Term).To) m) 1 _) dn kn (jyn d0 (kd kn) (jyo Z (jcy E113 Z Z (mustX_ct _ _ _ _ (by decide)) dn kn (fun _=>p0) (fun _=>p0) (fun c hc=>⟨(fun h9=>absurd ((h9 k hb).2.2.2 m (by omega)) (by rw[hc.1];decide)),hc.2⟩) fun hm135=>jyn d0 (kd kn) (jyd (jbn (jx (jr (js (jadd Z Z (by omega)) (jm Z ?_))))))))))
 refine jn ?_
 exact jag (m+1) ⟨by omega,toB_nx hT9 hm135.down⟩ (dc d2 (dc d3 dn)) (kd (kc k0 kn)) ⟨Z,Z,Z,Z,Z,Z,Z,Z,eqI (by omega),trivial⟩
 refine jex (jtx (jtx (jbh (jbn (jx (jr (js (jadd Z Z (by omega)) (jm Z (jn ?_)))))))))
 exact jag (k+1,L3) ⟨by dsimp only;omega,by dsimp only;rw[hL3,hL2,hL1,show i=(ix f.Blocks k).Phis.length by omega,show j=(ix f.Blocks k).Ins.length by omega];rfl,ShB_nx hS9 ⟨by rw[←show i=(ix f.Blocks k).Phis.length by omega];exact hP9,by rw[←show j=(ix f.Blocks k).Ins.length by omega];exact hI9,(sh_tm hs2 hs3).2 hm113.down,by rw[←show m=(ix f.Blocks k).Term.To.length by omega];exact hT9⟩⟩ (dc d1 dn) (kc k1 (kc k1 kn)) ⟨Z,Z,Z,eqI (by omega),trivial⟩
 refine jex (jtx (jtx (jbh ?_)))
 obtain rfl:L1=bkA f.Blocks f.Blocks.length:=by rw[hL1,show k=f.Blocks.length by omega]
 exact xnor (jd0 Z ⟨by have h9:=hS9;rwa[show k=f.Blocks.length by omega] at h9⟩ Z dn (fun _ _=>(kd kn)))
end Go.Proofs.YtmfkkodnghambaaGreat
namespace Go.Proofs.YtmfkkodnghambaaGreat
open Go.JE
theorem pos_of{bs:List D.Block}{v:Int}{k:Nat}(hk:k≤bs.length)(h:lkM (bkA bs k) v≠none):∃wb wp,wb<k∧PosAt bs v wb wp:=by
 by_cases h1:∀b,b<k→v∉mkB (ix bs b)
 ·exact absurd (bkA_no.2 h1) h
 ·simp only[Classical.not_forall,Decidable.not_not] at h1
  obtain⟨b,hb,h2⟩:=h1
  rcases mkB_ix.1 h2 with⟨i,h3,h4⟩|⟨i,h3,h4⟩
  ·exact⟨b,_,hb,by omega,.inl ⟨i,h3,h4,rfl⟩⟩
  ·exact⟨b,_,hb,by omega,.inr ⟨i,h3,h4,rfl⟩⟩
def useE(okb:Bool)(zb zp block at':Int)(d:Bool):Bool:=okb&&((decide (zb=block)&&(decide (zp<at')||decide (zp<0)))||(decide (zb≠block)&&d))
theorem use_iff{f:D.Func}{idom:List Int}{v block at' zb zp:Int}(hS:ShOk f)(hb:0≤block∧block<f.Blocks.length)(hD:DomG (graphF f) idom)(hv:¬(0≤v∧v<f.Params))
  (hz:(lkM (bkA f.Blocks f.Blocks.length) v).getD (.agg #[.int .i64 0,.int .i64 0]) = .agg #[.int .i64 zb,.int .i64 zp]) :
  US f v block.toNat at'↔useE (lkM (bkA f.Blocks f.Blocks.length) v).isSome zb zp block at' (dominM idom zb block)=true:=by
 have hO:=sh_once hS
 have hl:(graphF f).length=f.Blocks.length:=by simp[graphF]
 cases hm:lkM (bkA f.Blocks f.Blocks.length) v with
 | none =>
  constructor
  ·rintro(h|⟨wb,wp,hp,_⟩)
   ·exact absurd h hv
   ·rw[hO.at hp _ hp.1] at hm;cases hm
  ·intro h;unfold useE at h;simp at h
 | some x =>
  obtain⟨wb,wp,hwb,hp⟩:=pos_of (bs:=f.Blocks) (k:=f.Blocks.length) (v:=v) (Nat.le_refl _) (by rw[hm];simp)
  have hat:=hO.at hp _ hwb
  rw[hat] at hz hm
  have e1:zb=wb∧zp=wp:=by
   simp only[Option.getD_some] at hz
   unfold wv at hz
   injection hz with hz
   injection hz with hz
   simp at hz;exact⟨hz.1.symm,hz.2.symm⟩
  obtain⟨rfl,rfl⟩:=e1
  have hd:(wb:Int)≠block→(dominM idom wb block=true↔¬RB (prG (graphF f)) wb block.toNat):=fun hne=>by
   have h1:=hD.2.1 wb block.toNat (by rw[hl];exact hp.1) (by rw[hl];omega)
   have h2:=hD.2.2 wb block.toNat (by rw[hl];exact hp.1) (by rw[hl];omega)
   rw[Int.toNat_of_nonneg hb.1] at h1 h2
   exact⟨fun h=>(h2 h).resolve_left (by omega),fun h=>h1 (.inr h)⟩
  have hu:US f v block.toNat at'↔(wb=block.toNat∧(zp<at'∨zp<0))∨(wb≠block.toNat∧¬RB (prG (graphF f)) wb block.toNat):=by
   constructor
   ·rintro(h|⟨wb',wp',hp',h⟩)
    ·exact absurd h hv
    ·have h9:=hO.at hp' _ hp'.1
     rw[hat] at h9
     injection h9 with h9;unfold wv at h9;injection h9 with h9;injection h9 with h9
     simp at h9
     have e1:wb'=wb:=by omega
     have e2:wp'=zp:=by omega
     subst e1;subst e2;exact h
   ·exact fun h => .inr ⟨wb,zp,hp,h⟩
  rw[hu];unfold useE
  simp only[Option.isSome_some,Bool.true_and,Bool.or_eq_true,Bool.and_eq_true,decide_eq_true_eq]
  by_cases e:(wb:Int)=block
  ·have e2:wb=block.toNat:=by omega
   constructor
   ·rintro(⟨_,h⟩|⟨h,_⟩)
    ·exact .inl ⟨e,h⟩
    ·exact absurd e2 h
   ·rintro(⟨_,h⟩|⟨h,_⟩)
    ·exact .inl ⟨e2,h⟩
    ·exact absurd e h
  ·have e2:¬wb=block.toNat:=by omega
   have:=hd e
   simp[e,e2,this]
def phUs(f:D.Func)(k:Nat)(p:D.Phi):Prop:=(0<k∧p.In.map (fun x=>x.From)=ix (predsG (graphF f)) k)∧∀x∈p.In,US f x.Val x.From.toNat (ix f.Blocks x.From.toNat).Ins.length
def bkUs(f:D.Func)(k:Nat):Prop:=(∀p∈(ix f.Blocks k).Phis,phUs f k p)∧(∀i,i<(ix f.Blocks k).Ins.length→∀v∈(ix (ix f.Blocks k).Ins i).Args,US f v k i)∧∀v∈(ix f.Blocks k).Term.Args,US f v k (ix f.Blocks k).Ins.length
structure UsOk(f:D.Func):Prop where
 reach:∀b,b<f.Blocks.length→∃w,RB (prG (graphF f)) w b
 us:∀b,b<f.Blocks.length→bkUs f b
theorem good_us{f:D.Func}(h:GoodF f):UsOk f:=⟨h.reach,fun b hb=>⟨fun p hp=>⟨h.fr b hb p hp,fun x hx=>h.up b hb p hp x hx⟩,h.ui b hb,h.ut b hb⟩⟩
theorem good_iff{f:D.Func}:GoodF f↔(0≤f.Params∧f.Params≤4)∧(0<f.Blocks.length∧f.Blocks.length≤512)∧f.Blocks.length+cntF3 f.Blocks≤4096∧ShOk f∧UsOk f :=
 ⟨fun h=>⟨h.par,h.len,h.cnt,good_sh h,good_us h⟩,fun⟨h1,h2,h3,h4,h5⟩=>⟨h1,h2,h3,sh_once h4,sh_rng h4,sh_op h4,fun b hb=>(h4 b hb).2.2.1,sh_to h4,h5.reach,fun b hb p hp=>((h5.us b hb).1 p hp).1,fun b hb=>(h5.us b hb).2.1,fun b hb=>(h5.us b hb).2.2,fun b hb p hp=>((h5.us b hb).1 p hp).2⟩⟩
theorem all_nx{α:Type}[Inhabited α]{P:α→Prop}{l:List α}{k:Nat}(hk:k<l.length)(h:∀n∈l.take k,P n)(h2:P (ix l k)):∀n∈l.take (k+1),P n:=fun n hn=>by
 rw[take_ix hk,List.mem_append] at hn
 rcases hn with h3|h3
 ·exact h n h3
 ·simp at h3;subst h3;exact h2
theorem all_end{α:Type}{P:α→Prop}{l:List α}{k:Nat}(h:∀n∈l.take k,P n)(hk:l.length≤k):∀n∈l,P n:=by rwa[List.take_of_length_le hk] at h
theorem lt_nx{P:Nat→Prop}{k:Nat}(h:∀n,n<k→P n)(h2:P k):∀n,n<k+1→P n:=fun n hn=>by
 rcases Nat.lt_or_ge n k with h3|h3
 ·exact h n h3
 ·rw[show n=k by omega];exact h2
def FitJ(f:D.Func)(k:Nat)(p:D.Phi)(j:Nat):Prop:=(0<k∧p.In.length=(ix (predsG (graphF f)) k).length)∧∀m,m<j→(ix p.In m).From=ix (ix (predsG (graphF f)) k) m
theorem fit_end{f:D.Func}{k:Nat}{p:D.Phi}{j:Nat}(hj:p.In.length≤j):FitJ f k p j↔(0<k∧p.In.map (fun x=>x.From)=ix (predsG (graphF f)) k):=by
 constructor
 ·rintro⟨⟨h1,h2⟩,h3⟩
  refine⟨h1,List.ext_getElem (by simpa using h2) fun i hi hi2=>?_⟩
  rw[List.length_map] at hi
  have:=h3 i (by omega)
  rw[List.getElem_map,←ix_eq hi,this,ix_eq]
 ·rintro⟨h1,h2⟩
  have h3:p.In.length=(ix (predsG (graphF f)) k).length:=by rw[←h2];simp
  refine⟨⟨h1,h3⟩,fun m hm=>?_⟩
  rcases Nat.lt_or_ge m p.In.length with h4|h4
  ·rw[←h2,ix_mapG h4]
  ·rw[ix_out h4,ix_out (by omega)];rfl
theorem fit_rng{f:D.Func}{k:Nat}{p:D.Phi}(h:p.In.map (fun x=>x.From)=ix (predsG (graphF f)) k){x:D.In}(hx:x∈p.In):0≤x.From∧x.From<f.Blocks.length:=by
 have h1:x.From∈ix (predsG (graphF f)) k:=by rw[←h];exact List.mem_map.2 ⟨x,hx,rfl⟩
 have:=preds_rng h1
 rwa[graph_len] at this
set_option maxRecDepth 4000
theorem kUseX_ct{g0 gm:Nat}{cf:Value}{f:D.Func}{L:List (Int×Value)}(v:Int)(b:Int)(p:Int)(a:Int)(t:Int){g5:Nat}{vi:Value}{idom:List Int}{g6:Nat}(hS:ShOk f)(hL0:L=bkA f.Blocks f.Blocks.length)(hD:DomG (graphF f) idom)(hb:0≤b∧b<f.Blocks.length):Trx Tryz.prog 169 #[.int .i64 v,.int .i64 b,.int .i64 p,.int .i64 a,.int .i64 t,.pointer (some ⟨g5,0,none⟩),.pointer (some ⟨g6,0,none⟩)] [da rFunc (vFunc f cf) f,dv (rL (rI .i64)) vi idom] [bx g0 179 [.int .i64 f.Params,cf,.map (some gm)],im gm L,bx g5 176 [.pointer (some ⟨g0,0,none⟩)],bx g6 22 [vi]] (fun _:PLift (US f v b.toNat a) => .tuple #[]) (fun _=>[]) (fun _ _=>[bx g0 179 [.int .i64 f.Params,cf,.map (some gm)],im gm (bkA f.Blocks f.Blocks.length),bx g5 176 [.pointer (some ⟨g0,0,none⟩)],bx g6 22 [vi]]) (fun c=>¬US f v b.toNat a∧Tch c):=by
 refine xenter (args:=[.int .i64 v,.int .i64 b,.int .i64 p,.int .i64 a,.int .i64 t,.pointer (some ⟨g5,0,none⟩),.pointer (some ⟨g6,0,none⟩)]) Tryz.func169 rfl rfl rfl fun w0 X=>?_
 subst hL0
 obtain⟨zb,zp,hz9⟩:=(WV.bkA f.Blocks f.Blocks.length).get v
 refine jq (jq (jr (jm Z (js (jgeq Z Z) (jm Z (jg Z Z (.t _) (fun hg=>jmv Z) (jg Z Z (.t _) (fun hg=>jl k2 O176 Z Z) (jg Z Z (.t _) (fun hg=>jnil (evg Z hg)) (jg Z Z (.t _) (fun hg=>jf F179_0 (evg Z hg)) (jg Z Z (.t _) (fun hg=>jf F49_0 (evg Z hg)) (jg Z Z (.t _) (fun hg=>jl k0 O3 (evg Z hg) Z) ?_)))))))))))
 refine jg Z Z (.t _) (fun hg=>jlss (evg Z hg) (evg Z hg)) (js (jand Z Z) (jn (jx ?_)))
 refine jif Z (fun hc1=>?_) (fun hc1=>?_)
 refine jrt (jtr ?_)
 exact xret (jr0 Z ⟨.inl (by simpa using hc1)⟩ Z dn (fun _ _=>(kd (kd kn))))
 refine jsk (jx (jq (jr (js (jl k2 O176 Z Z) (js (jnil Z) (js (jf F179_1 Z) (js (jl k0 O177 Z Z) (jm Z (js (jlkoG U177 U3 J219 k1 Z Z hz9) (jm Z (js (jex' Z Z) ?_)))))))))))
 refine js (jex' Z Z) (jalc J219 Z fun g12=>jsta k0 Z219 Z Z Z ⟨Z,Z,trivial⟩ (saf Z) (ja Z (jn (jx (jq (jr (jm Z (jm Z (jg Z Z (.t _) (fun hg=>jf F219_0 Z) (jg Z Z (.t _) (fun hg=>jl k0 O3 (evg Z hg) Z) ?_))))))))))
 refine jg Z Z (.t _) (fun hg=>jmv Z) (jg Z Z (.t _) (fun hg=>jeql (evg Z hg) (evg Z hg)) (jg Z Z (.t _) (fun hg=>jmv (evg Z hg)) (jg Z Z (.gt _ _) (fun hg=>jf F219_1 Z) (jg Z Z (.gt _ _) (fun hg=>jl k0 O3 (evg Z hg) Z) (jg Z Z (.gt _ _) (fun hg=>jmv Z) (jg Z Z (.gt _ _) (fun hg=>jlss (evg Z hg) (evg Z hg)) (jg Z Z (.gt _ _) (fun hg=>jmv (evg Z hg)) (jg Z Z (.gf _ _) (fun hg=>jf F219_1 Z) (jg Z Z (.gf _ _) (fun hg=>jl k0 O3 (evg Z hg) Z) (jg Z Z (.gf _ _) (fun hg=>jlss (evg Z hg) Z) (jg Z Z (.gt _ _) (fun hg=>jor2 hg Z Z) ?_)))))))))))
 refine jg Z Z (.t _) (fun hg=>jand2 hg Z Z) (jg Z Z (.t _) (fun hg=>jmv (evg Z hg)) (jg Z Z (.gf _ _) (fun hg=>jf F219_0 Z) (jg Z Z (.gf _ _) (fun hg=>jl k0 O3 (evg Z hg) Z) (jg Z Z (.gf _ _) (fun hg=>jmv Z) (jg Z Z (.gf _ _) (fun hg=>jneq (evg Z hg) (evg Z hg)) (jg Z Z (.gf _ _) (fun hg=>jmv (evg Z hg)) (jg Z Z (.gt _ _) (fun hg=>jl k4 O22 Z Z) (jg Z Z (.gt _ _) (fun hg=>jf F219_0 Z) (jg Z Z (.gt _ _) (fun hg=>jl k0 O3 (evg Z hg) Z) (jg Z Z (.gt _ _) (fun hg=>jmv Z) (jdq d1 fun q1 w1=>?_)))))))))))
 refine jgc Z Z (.gt _ _) E170 Z (fun hg=>evl3 (evg Z hg) (evg Z hg) (evg Z hg)) (fun hg=>(dominates_ct zb b)) (fun hg=>(dc d1 dn)) kn p0 (jg Z Z (.gf _ _) (fun hg=>jand2 hg Z Z) (jg Z Z (.t _) (fun hg=>jor2 hg Z Z) (js (jand Z Z) (ja Z (jn (jx (jr (jm Z (jm Z (jm Z (jcy E113 Z Z (mustX_ct _ _ _ _ (by decide)) dn kn (fun _=>p0) (fun _=>p0) (fun c hc=>⟨(fun h9=>by have h8:=(use_iff (v:=v) (at':=a) hS hb hD (by have h9:=hc1;simp at h9;omega) hz9).1 h9;have h7:=hc.1;unfold useE at h8;first|(rw[h7] at h8;cases h8;done)|(simp_all;done)),hc.2⟩) fun hm68=>?_)))))))))))
 refine jn ?_
 exact xnor (jd0 Z ⟨(use_iff (v:=v) (at':=a) hS hb hD (by have h9:=hc1;simp at h9;omega) hz9).2 (by have h7:=hm68.down;unfold useE;first|exact h7|(simp_all;done))⟩ Z dn (fun _ _=>(kc k1 (kc k1 (kc k1 (kc k1 kn))))))
theorem fit_nx{f:D.Func}{k:Nat}{p:D.Phi}{j:Nat}{ft ft2:Bool}(hj:j<p.In.length)(h:ft=true↔FitJ f k p j)(h2:ft2=(ft&&decide ((ix p.In j).From=ix (ix (predsG (graphF f)) k) j))):ft2=true↔FitJ f k p (j+1):=by
 rw[h2];simp only[Bool.and_eq_true,decide_eq_true_eq]
 rw[h];unfold FitJ
 constructor
 ·rintro⟨⟨h3,h4⟩,h5⟩;exact⟨h3,lt_nx h4 h5⟩
 ·rintro⟨h3,h4⟩;exact⟨⟨h3,fun m hm=>h4 m (by omega)⟩,h4 j (by omega)⟩
set_option maxHeartbeats 2000000 in
theorem kUsesX_ct{g0 gm:Nat}{cf:Value}{f:D.Func}{L:List (Int×Value)}(hS:ShOk f)(hln:0<f.Blocks.length∧f.Blocks.length≤512)(hL0:L=bkA f.Blocks f.Blocks.length):Trx Tryz.prog 116 #[.pointer (some ⟨g0,0,none⟩)] [da rFunc (vFunc f cf) f] [bx g0 179 [.int .i64 f.Params,cf,.map (some gm)],im gm L] (fun _:PLift (UsOk f) => .tuple #[]) (fun _=>[]) (fun _ _=>[bx g0 179 [.int .i64 f.Params,cf,.map (some gm)],im gm (bkA f.Blocks f.Blocks.length)]) (fun c=>¬UsOk f∧Tch c):=by
 refine xenter (args:=[.pointer (some ⟨g0,0,none⟩)]) Tryz.func116 rfl rfl rfl fun w0 X=>?_
 subst hL0
 have hgl:=graph_len f
 have hn:0<(graphF f).length∧(graphF f).length≤512:=by omega
 have hpl:=preds_len (graphF f)
 refine jq (jr (jbox Z Z fun g1=>jn (jx (jq (jr (js (jl k0 O176 Z Z) (js (jnil Z) (js (jf F179_0 Z) (js (jla k1 A49 Z49 Z Z Z) (jcd E165 Z Z graphOf_ct (dc d0 dn) kn fun v27 q1 w1=>?_))))))))))
 refine ja Z (jn (jx (jq (jr (jm Z (jc E166 Z Z (order_ct hn) (dc d0 dn) kn (fun _=>p2) (fun _=>p0) fun c29=>jpu d1 fun hod0=>ja Z (jn (jx (jq ?_)))))))))
 refine jq (jr (js (jl k0 O176 Z Z) (js (jnil Z) (js (jf F179_0 Z) (js (jf F49_1 Z) (js (jl k1 O47 Z Z) (jdq (rFunc.cB d3) fun q5 w5=>js (jln U47 (rFunc.cB d3) Z) (jm Z (jn (jx ?_))))))))))
 refine jb ?_
 refine jlp (fun(k:Nat)=>⟨k≤f.Blocks.length∧(∀b,b<k→conM c29.2 (b:Int)=true),[dv (rL (rI .i64)) c29.1 c29.2,dv (rL (rL (rI .i64))) v27 (graphF f),da rFunc (vFunc f cf) f],[bx g1 176 [.pointer (some ⟨g0,0,none⟩)],bx g0 179 [.int .i64 f.Params,cf,.map (some gm)],im gm (bkA f.Blocks f.Blocks.length)],[(1,.pointer (some ⟨g1,0,none⟩)),(2,v27),(3,c29.1),(35,.int .i64 (↑(List.length f.Blocks))),(36,.int .i64 (↑k))],f.Blocks.length-k⟩) 0 ⟨Nat.zero_le _,(by first|(intro _ h9;cases h9;done)|(intro _ h9;exact absurd h9 (Nat.not_lt_zero _)))⟩ (dc d0 (dc d2 (dc d3 dn))) (kd (kc k0 kn)) ⟨Z,Z,Z,Z,eqI (by omega),trivial⟩ ?_
 rintro k;dsimp only;rintro⟨hk,hR9⟩
 refine jq (jr (js (jlss Z Z) (jn (jx (jq ?_)))))
 refine jif Z (fun hc1=>?_) (fun hc1=>?_)
 refine jsk (jx (jq (jb (jq (jr (jm Z (ja Z (jn (jx (jr (jm Z ?_)))))))))))
 refine jm Z (jdq d0 fun q6 w6=>jcv E138 Z Z (kContains_ct ↑k) (dc d0 dn) kn (jm Z (jcy E113 Z Z (mustX_ct _ _ _ _ (by decide)) dn kn (fun _=>p0) (fun _=>p0) (fun c hc=>⟨(fun h9=>by obtain⟨w9,h8⟩:=h9.reach k (by omega);have h7:=con_mem (hod0.mem h8);rw[hc.1] at h7;cases h7),hc.2⟩) fun hm43=>jn (jbn (jx (jr (js (jadd Z Z (by omega)) (jm Z (jn ?_)))))))))
 exact jag (k+1) ⟨by omega,lt_nx hR9 hm43.down⟩ (dc d0 (dc d1 (dc d2 dn))) (kd (kc k0 kn)) ⟨Z,Z,Z,Z,eqI (by omega),trivial⟩
 have hw:∀b,b<(graphF f).length→∃w,RB (fun q t=>(t:Int)∈ix (cleanM (graphF f)) q) w b:=fun b hb=>⟨_,by have h9:=hod0.reach hn.1 (con_yes (hR9 b (by omega)));rwa[Int.toNat_natCast] at h9⟩
 refine jex (jtx (jtx (jbh (jx (jq (jr (jm Z (jcd E167 Z Z (preds_ct hn.2) (dc d1 dn) kn fun v46 q7 w7=>jm Z (jc E168 Z Z (idom_ct hn hw) (dc d2 dn) kn (fun _=>p2) (fun _=>p0) fun c48=>jpu d1 fun hdg=>?_)))))))))
 refine jalc J22 Z fun g6=>ja Z (jdq d0 fun q11 w11=>jst k0 Z22 Z Z w11.one s0 (jn (jx (jq (jr (js (jmf2 Z Z) (ja Z (jn (jx ?_)))))))))
 refine jq (jr (js (jl k1 O176 Z Z) (js (jnil Z) (js (jf F179_0 Z) (js (jf F49_1 Z) (js (jl k2 O47 Z Z) (js (jln U47 (rFunc.cB d5) Z) (jm Z (jn (jx (jb ?_)))))))))))
 refine jlp (fun(k:Nat)=>⟨k≤f.Blocks.length∧(∀b,b<k→bkUs f b),[dv (rL (rI .i64)) c48.1 c48.2,dv (rL (rL (rI .i64))) v46 (predsG (graphF f)),da rFunc (vFunc f cf) f],[bx g6 22 [c48.1],bx g1 176 [.pointer (some ⟨g0,0,none⟩)],bx g0 179 [.int .i64 f.Params,cf,.map (some gm)],im gm (bkA f.Blocks f.Blocks.length)],[(1,.pointer (some ⟨g1,0,none⟩)),(5,v46),(7,.func (.func 169) #[] #[.pointer (some ⟨g1,0,none⟩),.pointer (some ⟨g6,0,none⟩)]),(54,cf),(55,.int .i64 (↑(List.length f.Blocks))),(56,.int .i64 (↑k))],f.Blocks.length-k⟩) 0 ⟨Nat.zero_le _,(by first|(intro _ h9;cases h9;done)|(intro _ h9;exact absurd h9 (Nat.not_lt_zero _)))⟩ (dc d0 (dc d2 (dc d5 dn))) (kd (kd kn)) ⟨Z,Z,Z,Z,Z,eqI (by omega),trivial⟩ ?_
 rintro k;dsimp only;rintro⟨hk,hB9⟩
 refine jq (jr (js (jlss Z Z) (jn (jx (jq ?_)))))
 refine jif Z (fun hc2=>?_) (fun hc2=>?_)
 have hb:k<f.Blocks.length:=by omega
 refine jsk (jx (jq (jb (jq (jr (jm Z (js (jix U47 Z62 (rFunc.cB d2) Z Z Z (by omega)) (jA4 sBlock (jlA (dix (rFunc.cB d2) k (by omega)) A62 Z62 Z) fun c60a c60b c60c c60d=>jalc J62 Z fun g9=>ja Z (jdq (rBlock.cP d0) fun q13 w13=>?_)))))))))
 refine jdq (rBlock.cI d0) fun q14 w14=>jdq (rBlock.c_Term_Args d0) fun q15 w15=>jdq (rBlock.c_Term_To d0) fun q16 w16=>jsta k0 Z62 Z Z Z ⟨w13.one,w14.one,Z,w15.one,w16.one,Z,trivial⟩ (saf Z) (jn (jx (jq (jq (jr (js (jf F62_0 Z) (js (jl k0 O57 Z Z) (js (jln U57 (rBlock.cP d0) Z) ?_))))))))
 refine jm Z (jn (jx (jb ?_)))
 refine jlp (fun(i:Nat)=>⟨i≤(ix f.Blocks k).Phis.length∧(∀p∈(ix f.Blocks k).Phis.take i,phUs f k p),[da rBlock (vBlock (ix f.Blocks k) (c60a,c60b,c60c,c60d)) (ix f.Blocks k),dv (rL (rI .i64)) c48.1 c48.2,dv (rL (rL (rI .i64))) v46 (predsG (graphF f)),da rFunc (vFunc f cf) f],[bx g9 62 [c60a,c60b,.int .i64 (((ix f.Blocks k).Term).Kind),c60c,c60d,.int .i32 (((ix f.Blocks k).Term).Imm)],bx g6 22 [c48.1],bx g1 176 [.pointer (some ⟨g0,0,none⟩)],bx g0 179 [.int .i64 f.Params,cf,.map (some gm)],im gm (bkA f.Blocks f.Blocks.length)],[(1,.pointer (some ⟨g1,0,none⟩)),(5,v46),(7,.func (.func 169) #[] #[.pointer (some ⟨g1,0,none⟩),.pointer (some ⟨g6,0,none⟩)]),(8,.int .i64 (↑k)),(9,.pointer (some ⟨g9,0,none⟩)),(54,cf),(55,.int .i64 (↑(List.length f.Blocks))),(56,.int .i64 (↑k)),(62,c60a),(63,.int .i64 (↑(List.length ((ix f.Blocks k).Phis)))),(64,.int .i64 (↑i))],(ix f.Blocks k).Phis.length-i⟩) 0 ⟨Nat.zero_le _,(by first|(intro _ h9;cases h9;done)|(intro _ h9;exact absurd h9 (Nat.not_lt_zero _)))⟩ (dc d0 (dc d1 (dc d2 (dc d3 dn)))) (kd (kd (kc k0 kn))) ⟨Z,Z,Z,Z,Z,Z,Z,Z,Z,Z,eqI (by omega),trivial⟩ ?_
 rintro i;dsimp only;rintro⟨hi,hP9⟩
 refine jq (jr (js (jlss Z Z) (jn (jx (jq ?_)))))
 refine jif Z (fun hc3=>?_) (fun hc3=>?_)
 refine jsk (jx (jq (jb (jq (jr (jm Z (js (jix U57 Z65 (rBlock.cP d0) Z Z Z (by omega)) (jA sPhi (jlA (dix (rBlock.cP d0) i (by omega)) A65 Z65 Z) fun c68=>jalc J65 Z fun g11=>ja Z (jdq (rPhi.c_In d0) fun q18 w18=>?_)))))))))
 refine jsta k0 Z65 Z Z Z ⟨Z,w18.one,trivial⟩ (saf Z) (jn (jx (jq (jstl Mixed (by kernel_rfl) (jt (jmv Z) (jt (jgtr Z Z) (jt (jmv Z) (jtg Z Z (.t _) (fun hg=>jf F65_1 Z) (jtg Z Z (.t _) (fun hg=>jl k0 O63 (evg Z hg) Z) (jtg Z Z (.t _) (fun hg=>jln U63 (rPhi.c_In d0) (evg Z hg)) (jtg Z Z (.t _) (fun hg=>jmv Z) ?_)))))))))))
 refine jtg Z Z (.t _) (fun hg=>jmv Z) (jtg Z Z (.t _) (fun hg=>jix U125 Z22 d3 (evg Z hg) (evg Z hg) Z (by first|omega|(have h9:=hfj hg;omega)|(simp at hg;omega)|(simp only[List.length_set];omega)|(simp;done))) (jtge (q:=fun v=>dv (rL (rI .i64)) v (ix (predsG (graphF f)) k)) Z Z (.t _) (fun hg=>jlV (dix d3 k (by first|omega|(have h9:=hfj hg;omega)|(simp at hg;omega)|(simp only[List.length_set];omega)|(simp;done))) O22 Z (evg Z hg)) fun v78=>jtg Z Z (.t _) (fun hg=>jln U22 (d0.on hg) (evg Z hg)) (jtg Z Z (.t _) (fun hg=>jeql (evg Z hg) (evg Z hg)) (jt (jand Z Z) (jt (jas Z) (jdn (jx (jq (jq (jr ?_))))))))))
 refine js (jf F65_1 Z) (js (jl k0 O63 Z Z) (js (jln U63 (rPhi.c_In d1) Z) (jm Z (jn (jx (jb ?_))))))
 refine jlp (u2 fun(j:Nat) (ft:Bool)=>⟨j≤(ix (ix f.Blocks k).Phis i).In.length∧(ft=true↔FitJ f k (ix (ix f.Blocks k).Phis i) j),[da rPhi (vPhi (ix ((ix f.Blocks k).Phis) i) c68) (ix ((ix f.Blocks k).Phis) i),da rBlock (vBlock (ix f.Blocks k) (c60a,c60b,c60c,c60d)) (ix f.Blocks k),dv (rL (rI .i64)) c48.1 c48.2,dv (rL (rL (rI .i64))) v46 (predsG (graphF f)),da rFunc (vFunc f cf) f],[bx g11 65 [.int .i64 ((ix ((ix f.Blocks k).Phis) i).Dst),c68],bx g9 62 [c60a,c60b,.int .i64 (((ix f.Blocks k).Term).Kind),c60c,c60d,.int .i32 (((ix f.Blocks k).Term).Imm)],bx g6 22 [c48.1],bx g1 176 [.pointer (some ⟨g0,0,none⟩)],bx g0 179 [.int .i64 f.Params,cf,.map (some gm)],im gm (bkA f.Blocks f.Blocks.length)],[(1,.pointer (some ⟨g1,0,none⟩)),(5,v46),(7,.func (.func 169) #[] #[.pointer (some ⟨g1,0,none⟩),.pointer (some ⟨g6,0,none⟩)]),(8,.int .i64 (↑k)),(9,.pointer (some ⟨g9,0,none⟩)),(10,.int .i64 (↑i)),(11,.pointer (some ⟨g11,0,none⟩)),(12,.bool ft),(54,cf),(55,.int .i64 (↑(List.length f.Blocks))),(56,.int .i64 (↑k)),(62,c60a),(63,.int .i64 (↑(List.length ((ix f.Blocks k).Phis)))),(64,.int .i64 (↑i)),(83,c68),(84,.int .i64 (↑(List.length ((ix ((ix f.Blocks k).Phis) i).In)))),(85,.int .i64 (↑j))],(ix (ix f.Blocks k).Phis i).In.length-j⟩) (0,(decide (0<((k:Nat):Int)))&&(decide (((List.length ((ix ((ix f.Blocks k).Phis) i).In):Nat):Int)=((List.length (ix (predsG (graphF f)) k):Nat):Int)))) ⟨Nat.zero_le _,by dsimp only;unfold FitJ;simp;omega⟩ (dc d1 (dc d2 (dc d3 (dc d4 (dc d5 dn))))) (kd (kd (kd kn))) ⟨Z,Z,Z,Z,Z,Z,Z,Z,Z,Z,Z,Z,Z,Z,Z,Z,eqI (by omega),trivial⟩ ?_
 rintro⟨j,ft⟩;dsimp only[u2];rintro⟨hj,hft⟩
 refine jq (jr (js (jlss Z Z) (jn (jx (jq ?_)))))
 refine jif Z (fun hc4=>?_) (fun hc4=>?_)
 have hfj:ft=true→(ix (ix f.Blocks k).Phis i).In.length=(ix (predsG (graphF f)) k).length:=fun h=>(hft.1 h).1.2
 refine jsk (jx (jq (jb (jq (jr (jm Z (js (jix U63 Z111 (rPhi.c_In d0) Z Z Z (by omega)) (jA sIn (jlA (dix (rPhi.c_In d0) j (by omega)) A111 Z111 Z) fun _=>jalc J111 Z fun g14=>ja Z (jsta k0 Z111 Z Z Z ⟨Z,Z,trivial⟩ (saf Z) ?_)))))))))
 refine jn (jx (jstl Mixed (by kernel_rfl) (jt (jmv Z) (jt (jmv Z) (jtg Z Z (.t _) (fun hg=>jf F111_0 Z) (jtg Z Z (.t _) (fun hg=>jl k0 O3 (evg Z hg) Z) (jtg Z Z (.t _) (fun hg=>jmv Z) (jtg Z Z (.t _) (fun hg=>jmv Z) (jtg Z Z (.t _) (fun hg=>jix U125 Z22 d4 (evg Z hg) (evg Z hg) Z (by first|omega|(have h9:=hfj hg;omega)|(simp at hg;omega)|(simp only[List.length_set];omega)|(simp;done))) (jtge (q:=fun v=>dv (rL (rI .i64)) v (ix (predsG (graphF f)) k)) Z Z (.t _) (fun hg=>jlV (dix d4 k (by first|omega|(have h9:=hfj hg;omega)|(simp at hg;omega)|(simp only[List.length_set];omega)|(simp;done))) O22 Z (evg Z hg)) fun v97=>jtg Z Z (.t _) (fun hg=>jmv Z) ?_))))))))))
 refine jtg Z Z (.t _) (fun hg=>jix U22 Z3 (d0.on hg) (evg Z hg) (evg Z hg) Z (by first|omega|(have h9:=hfj hg;omega)|(simp at hg;omega)|(simp only[List.length_set];omega)|(simp;done))) (jtg Z Z (.t _) (fun hg=>jlI (dix (d0.on hg) j (by first|omega|(have h9:=hfj hg;omega)|(simp at hg;omega)|(simp only[List.length_set];omega)|(simp;done))) O3 (evg Z hg)) (jtg Z Z (.t _) (fun hg=>jeql (evg Z hg) (evg Z hg)) (jt (jand Z Z) (jt (jas Z) (jdn (jbn (jx (jr (js (jadd Z Z (by omega)) (jm Z (jn ?_)))))))))))
 exact jag (j+1,ft&&(decide ((ix ((ix ((ix f.Blocks k).Phis) i).In) j).From=ix (ix (predsG (graphF f)) k) j))) ⟨by dsimp only;omega,fit_nx (by omega) hft (by first|rfl|(dsimp only;rfl)|(simp;done))⟩ (dc d2 (dc d3 (dc d4 (dc d5 (dc d6 dn))))) (kc k1 (kc k1 (kc k1 (kc k1 (kc k1 (kc k1 kn)))))) ⟨Z,Z,Z,Z,Z,Z,Z,Z,Z,Z,Z,Z,Z,Z,Z,Z,eqI (by omega),trivial⟩
 refine jex (jtx (jtx (jbh (jx (jq (jr (jm Z (jm Z (jm Z (js (jsub Z Z (by omega)) (jcy E113 Z Z (mustX_ct _ _ _ _ (by decide)) dn kn (fun _=>p0) (fun _=>p0) (fun c hc=>⟨(fun h9=>by have h8:=((h9.us k hb).1 _ (ix_mem (l:=(ix f.Blocks k).Phis) (i:=i) (by omega))).1;have h7:=hft.2 ((fit_end (Nat.le_of_not_lt (by omega))).2 h8);rw[hc.1] at h7;cases h7),hc.2⟩) fun hm108=>?_)))))))))))
 have hft9:=(fit_end (Nat.le_of_not_lt (by omega))).1 (hft.1 hm108.down)
 refine jn (jx (jq (jr (js (jf F65_1 Z) (js (jl k0 O63 Z Z) (js (jln U63 (rPhi.c_In d0) Z) (jm Z (jn (jx (jb ?_))))))))))
 refine jlp (fun(j:Nat)=>⟨j≤(ix (ix f.Blocks k).Phis i).In.length∧(∀x∈(ix (ix f.Blocks k).Phis i).In.take j,US f x.Val x.From.toNat (ix f.Blocks x.From.toNat).Ins.length),[da rPhi (vPhi (ix ((ix f.Blocks k).Phis) i) c68) (ix ((ix f.Blocks k).Phis) i),da rBlock (vBlock (ix f.Blocks k) (c60a,c60b,c60c,c60d)) (ix f.Blocks k),dv (rL (rI .i64)) c48.1 c48.2,dv (rL (rL (rI .i64))) v46 (predsG (graphF f)),da rFunc (vFunc f cf) f],[bx g9 62 [c60a,c60b,.int .i64 (((ix f.Blocks k).Term).Kind),c60c,c60d,.int .i32 (((ix f.Blocks k).Term).Imm)],bx g6 22 [c48.1],bx g1 176 [.pointer (some ⟨g0,0,none⟩)],bx g0 179 [.int .i64 f.Params,cf,.map (some gm)],im gm (bkA f.Blocks f.Blocks.length)],[(1,.pointer (some ⟨g1,0,none⟩)),(5,v46),(7,.func (.func 169) #[] #[.pointer (some ⟨g1,0,none⟩),.pointer (some ⟨g6,0,none⟩)]),(8,.int .i64 (↑k)),(9,.pointer (some ⟨g9,0,none⟩)),(10,.int .i64 (↑i)),(54,cf),(55,.int .i64 (↑(List.length f.Blocks))),(56,.int .i64 (↑k)),(62,c60a),(63,.int .i64 (↑(List.length ((ix f.Blocks k).Phis)))),(64,.int .i64 (↑i)),(110,c68),(111,.int .i64 (↑(List.length ((ix ((ix f.Blocks k).Phis) i).In)))),(112,.int .i64 (↑j))],(ix (ix f.Blocks k).Phis i).In.length-j⟩) 0 ⟨Nat.zero_le _,(by first|(intro _ h9;cases h9;done)|(intro _ h9;exact absurd h9 (Nat.not_lt_zero _)))⟩ (dc d0 (dc d1 (dc d2 (dc d3 (dc d4 dn))))) (kc k1 (kc k1 (kc k1 (kc k1 (kc k1 kn))))) ⟨Z,Z,Z,Z,Z,Z,Z,Z,Z,Z,Z,Z,Z,Z,eqI (by omega),trivial⟩ ?_
 rintro j;dsimp only;rintro⟨hj,hV9⟩
 refine jq (jr (js (jlss Z Z) (jn (jx (jq ?_)))))
 refine jif Z (fun hc5=>?_) (fun hc5=>?_)
 have hx9:=fit_rng hft9.2 (ix_mem (l:=(ix (ix f.Blocks k).Phis i).In) (i:=j) (by omega))
 refine jsk (jx (jq (jb (jq (jr (js (jix U63 Z111 (rPhi.c_In d0) Z Z Z (by omega)) (jA sIn (jlA (dix (rPhi.c_In d0) j (by omega)) A111 Z111 Z) fun _=>jalc J111 Z fun g16=>jsta k0 Z111 Z Z Z ⟨Z,Z,trivial⟩ (saf Z) (jn (jx ?_)))))))))
 refine jany false (.a 0 (.a 1 (.a 2 (.a 3 (.a 4 (.a 5 (.a 6 (.a 7 (.a 8 (.a 9 (.a 10 (.a 11 (.a 12 (.a 13 (.a 14 (.a 15 (.a 16 (.a 17 (.a 18 (.o 19 .e)))))))))))))))))))) Mixed (by kernel_rfl) (kc k0 (kc k2 (kc k2 kn))) fun F23=>jy Z (jmv Z) (jy Z (jf F111_1 Z) (jy Z (jl k0 O3 Z Z) (jy Z (jf F111_0 Z) (jy Z (jl k0 O3 Z Z) (jy Z (jmv Z) (jy Z (jsub Z Z (by omega)) (jy Z (jl k1 O176 Z Z) (jy Z (jnil Z) (jy Z (jf F179_0 Z) (jy Z (jf F49_1 Z) ?_))))))))))
 refine jy Z (jl k2 O47 Z Z) (jy Z (jf F111_0 Z) (jy Z (jl k0 O3 Z Z) (jy Z (jix (i:=(Int.toNat ((ix ((ix ((ix f.Blocks k).Phis) i).In) j).From))) U47 Z62 (rFunc.cB d5) Z Z (by omega) (by omega)) (jy Z (jf F62_1 Z) (jye (q:=fun v=>dv (rL rIns) v ((ix f.Blocks (Int.toNat ((ix ((ix ((ix f.Blocks k).Phis) i).In) j).From))).Ins)) Z (xlV (rBlock.A_Ins (dix (rFunc.cB d5) (Int.toNat ((ix ((ix ((ix f.Blocks k).Phis) i).In) j).From)) (by omega))) O58 Z Z) fun v132=>adq d0 fun q25 w25=>jy Z (jln U58 d0 Z) (jy Z (jmv Z) (jyo Z (jcy E169 Z Z (kUseX_ct (f:=f) _ _ _ _ _ hS rfl hdg hx9) (dc d7 (dc d5 dn)) (kc k4 (kc k4 (kc k3 (kc k2 kn)))) (fun _=>p0) (fun _=>p4) (fun c hc=>⟨(fun h9=>hc.1 (((h9.us k hb).1 _ (ix_mem (l:=(ix f.Blocks k).Phis) (i:=i) (by omega))).2 _ (ix_mem (l:=(ix (ix f.Blocks k).Phis i).In) (i:=j) (by omega)))),hc.2⟩) fun hm135=>jyn d0 (kc k4 (kc k2 (kc k0 kn))) ?_))))))))
 refine jyd (jbn (jx (jr (js (jadd Z Z (by omega)) (jm Z (jn ?_))))))
 exact jag (j+1) ⟨by omega,all_nx (by omega) hV9 hm135.down⟩ (dc d3 (dc d4 (dc d5 (dc d6 (dc d7 dn))))) (kc k5 (kc k3 (kc k2 (kd kn)))) ⟨Z,Z,Z,Z,Z,Z,Z,Z,Z,Z,Z,Z,Z,Z,eqI (by omega),trivial⟩
 refine jex (jtx (jtx (jbh (jbn (jx (jr (js (jadd Z Z (by omega)) (jm Z (jn ?_)))))))))
 exact jag (i+1) ⟨by omega,all_nx (by omega) hP9 ⟨hft9,all_end hV9 (by omega)⟩⟩ (dc d1 (dc d2 (dc d3 (dc d4 dn)))) (kd (kd (kc k0 kn))) ⟨Z,Z,Z,Z,Z,Z,Z,Z,Z,Z,eqI (by omega),trivial⟩
 refine jex (jtx (jtx (jbh (jx (jq (jq (jr (js (jf F62_1 Z) (js (jl k0 O58 Z Z) (js (jln U58 (rBlock.cI d0) Z) (jm Z ?_)))))))))))
 refine jn (jx (jb ?_))
 refine jlp (fun(i:Nat)=>⟨i≤(ix f.Blocks k).Ins.length∧(∀m,m<i→∀v∈(ix (ix f.Blocks k).Ins m).Args,US f v k m),[da rBlock (vBlock (ix f.Blocks k) (c60a,c60b,c60c,c60d)) (ix f.Blocks k),dv (rL (rI .i64)) c48.1 c48.2,dv (rL (rL (rI .i64))) v46 (predsG (graphF f)),da rFunc (vFunc f cf) f],[bx g9 62 [c60a,c60b,.int .i64 (((ix f.Blocks k).Term).Kind),c60c,c60d,.int .i32 (((ix f.Blocks k).Term).Imm)],bx g6 22 [c48.1],bx g1 176 [.pointer (some ⟨g0,0,none⟩)],bx g0 179 [.int .i64 f.Params,cf,.map (some gm)],im gm (bkA f.Blocks f.Blocks.length)],[(1,.pointer (some ⟨g1,0,none⟩)),(5,v46),(7,.func (.func 169) #[] #[.pointer (some ⟨g1,0,none⟩),.pointer (some ⟨g6,0,none⟩)]),(8,.int .i64 (↑k)),(9,.pointer (some ⟨g9,0,none⟩)),(54,cf),(55,.int .i64 (↑(List.length f.Blocks))),(56,.int .i64 (↑k)),(139,c60b),(140,.int .i64 (↑(List.length ((ix f.Blocks k).Ins)))),(141,.int .i64 (↑i))],(ix f.Blocks k).Ins.length-i⟩) 0 ⟨Nat.zero_le _,(by first|(intro _ h9;cases h9;done)|(intro _ h9;exact absurd h9 (Nat.not_lt_zero _)))⟩ (dc d0 (dc d1 (dc d2 (dc d3 dn)))) (kd (kd (kc k0 kn))) ⟨Z,Z,Z,Z,Z,Z,Z,Z,Z,Z,eqI (by omega),trivial⟩ ?_
 rintro i;dsimp only;rintro⟨hi,hI9⟩
 refine jq (jr (js (jlss Z Z) (jn (jx (jq ?_)))))
 refine jif Z (fun hc6=>?_) (fun hc6=>?_)
 refine jsk (jx (jq (jb (jq (jr (jm Z (js (jix U58 Z67 (rBlock.cI d0) Z Z Z (by omega)) (jA sIns (jlA (dix (rBlock.cI d0) i (by omega)) A67 Z67 Z) fun c145=>jalc J67 Z fun g18=>ja Z (jdq (rIns.c_Args d0) fun q28 w28=>?_)))))))))
 refine jsta k0 Z67 Z Z Z ⟨Z,Z,Z,w28.one,Z,trivial⟩ (saf Z) (jn (jx (jq (jr (js (jf F67_3 Z) (js (jl k0 O22 Z Z) (js (jln U22 (rIns.c_Args d0) Z) (jm Z (jn (jx (jb ?_)))))))))))
 refine jlp (fun(j:Nat)=>⟨j≤(ix (ix f.Blocks k).Ins i).Args.length∧(∀v∈(ix (ix f.Blocks k).Ins i).Args.take j,US f v k i),[da rIns (vIns (ix ((ix f.Blocks k).Ins) i) c145) (ix ((ix f.Blocks k).Ins) i),da rBlock (vBlock (ix f.Blocks k) (c60a,c60b,c60c,c60d)) (ix f.Blocks k),dv (rL (rI .i64)) c48.1 c48.2,dv (rL (rL (rI .i64))) v46 (predsG (graphF f)),da rFunc (vFunc f cf) f],[bx g9 62 [c60a,c60b,.int .i64 (((ix f.Blocks k).Term).Kind),c60c,c60d,.int .i32 (((ix f.Blocks k).Term).Imm)],bx g6 22 [c48.1],bx g1 176 [.pointer (some ⟨g0,0,none⟩)],bx g0 179 [.int .i64 f.Params,cf,.map (some gm)],im gm (bkA f.Blocks f.Blocks.length)],[(1,.pointer (some ⟨g1,0,none⟩)),(5,v46),(7,.func (.func 169) #[] #[.pointer (some ⟨g1,0,none⟩),.pointer (some ⟨g6,0,none⟩)]),(8,.int .i64 (↑k)),(9,.pointer (some ⟨g9,0,none⟩)),(17,.int .i64 (↑i)),(54,cf),(55,.int .i64 (↑(List.length f.Blocks))),(56,.int .i64 (↑k)),(139,c60b),(140,.int .i64 (↑(List.length ((ix f.Blocks k).Ins)))),(141,.int .i64 (↑i)),(147,c145),(148,.int .i64 (↑(List.length ((ix ((ix f.Blocks k).Ins) i).Args)))),(149,.int .i64 (↑j))],(ix (ix f.Blocks k).Ins i).Args.length-j⟩) 0 ⟨Nat.zero_le _,(by first|(intro _ h9;cases h9;done)|(intro _ h9;exact absurd h9 (Nat.not_lt_zero _)))⟩ (dc d0 (dc d1 (dc d2 (dc d3 (dc d4 dn))))) (kc k1 (kc k1 (kc k1 (kc k1 (kc k1 kn))))) ⟨Z,Z,Z,Z,Z,Z,Z,Z,Z,Z,Z,Z,Z,Z,eqI (by omega),trivial⟩ ?_
 rintro j;dsimp only;rintro⟨hj,hA9⟩
 refine jq (jr (js (jlss Z Z) (jn (jx (jq ?_)))))
 refine jif Z (fun hc7=>?_) (fun hc7=>?_)
 refine jsk (jx (jq (jb (jq (jr (js (jix U22 Z3 (rIns.c_Args d0) Z Z Z (by omega)) (js (jlI (dix (rIns.c_Args d0) j (by omega)) O3 Z) (ja Z (jn (jx (jr ?_)))))))))))
 refine jm Z (jm Z (jm Z (jm Z (jm Z (jm Z (jcy E169 Z Z (kUseX_ct (f:=f) _ _ _ _ _ hS rfl hdg ⟨by omega,by omega⟩) (dc d4 (dc d2 dn)) (kc k3 (kc k3 (kc k2 (kc k1 kn)))) (fun _=>p0) (fun _=>p4) (fun c hc=>⟨(fun h9=>hc.1 (by rw[Int.toNat_natCast];exact(h9.us k hb).2.1 i (by omega) _ (ix_mem (l:=(ix (ix f.Blocks k).Ins i).Args) (i:=j) (by omega)))),hc.2⟩) fun hm159=>jn (jbn (jx (jr (js (jadd Z Z (by omega)) ?_))))))))))
 refine jm Z (jn ?_)
 exact jag (j+1) ⟨by omega,all_nx (by omega) hA9 (by have h9:=hm159.down;rwa[Int.toNat_natCast] at h9)⟩ (dc d0 (dc d1 (dc d2 (dc d3 (dc d4 dn))))) (kc k4 (kc k3 (kc k2 (kd kn)))) ⟨Z,Z,Z,Z,Z,Z,Z,Z,Z,Z,Z,Z,Z,Z,eqI (by omega),trivial⟩
 refine jex (jtx (jtx (jbh (jbn (jx (jr (js (jadd Z Z (by omega)) (jm Z (jn ?_)))))))))
 exact jag (i+1) ⟨by omega,lt_nx hI9 (all_end hA9 (by omega))⟩ (dc d1 (dc d2 (dc d3 (dc d4 dn)))) (kd (kd (kc k0 kn))) ⟨Z,Z,Z,Z,Z,Z,Z,Z,Z,Z,eqI (by omega),trivial⟩
 refine jex (jtx (jtx (jbh (jx (jq (jr (js (jf F62_2 Z) (js (jf F60_1 Z) (js (jl k0 O22 Z Z) (js (jln U22 (rBlock.c_Term_Args d0) Z) (jm Z ?_)))))))))))
 refine jn (jx (jb ?_))
 refine jlp (fun(j:Nat)=>⟨j≤(ix f.Blocks k).Term.Args.length∧(∀v∈(ix f.Blocks k).Term.Args.take j,US f v k (ix f.Blocks k).Ins.length),[da rBlock (vBlock (ix f.Blocks k) (c60a,c60b,c60c,c60d)) (ix f.Blocks k),dv (rL (rI .i64)) c48.1 c48.2,dv (rL (rL (rI .i64))) v46 (predsG (graphF f)),da rFunc (vFunc f cf) f],[bx g9 62 [c60a,c60b,.int .i64 (((ix f.Blocks k).Term).Kind),c60c,c60d,.int .i32 (((ix f.Blocks k).Term).Imm)],bx g6 22 [c48.1],bx g1 176 [.pointer (some ⟨g0,0,none⟩)],bx g0 179 [.int .i64 f.Params,cf,.map (some gm)],im gm (bkA f.Blocks f.Blocks.length)],[(1,.pointer (some ⟨g1,0,none⟩)),(5,v46),(7,.func (.func 169) #[] #[.pointer (some ⟨g1,0,none⟩),.pointer (some ⟨g6,0,none⟩)]),(8,.int .i64 (↑k)),(9,.pointer (some ⟨g9,0,none⟩)),(54,cf),(55,.int .i64 (↑(List.length f.Blocks))),(56,.int .i64 (↑k)),(164,c60c),(165,.int .i64 (↑(List.length (((ix f.Blocks k).Term).Args)))),(166,.int .i64 (↑j))],(ix f.Blocks k).Term.Args.length-j⟩) 0 ⟨Nat.zero_le _,(by first|(intro _ h9;cases h9;done)|(intro _ h9;exact absurd h9 (Nat.not_lt_zero _)))⟩ (dc d0 (dc d1 (dc d2 (dc d3 dn)))) (kd (kd (kc k0 kn))) ⟨Z,Z,Z,Z,Z,Z,Z,Z,Z,Z,eqI (by omega),trivial⟩ ?_
 rintro j;dsimp only;rintro⟨hj,hT9⟩
 refine jq (jr (js (jlss Z Z) (jn (jx (jq ?_)))))
 refine jif Z (fun hc8=>?_) (fun hc8=>?_)
 refine jsk (jx (jq (jb (jq (jr (js (jix U22 Z3 (rBlock.c_Term_Args d0) Z Z Z (by omega)) (js (jlI (dix (rBlock.c_Term_Args d0) j (by omega)) O3 Z) (ja Z (jn (jx (jr ?_)))))))))))
 refine jm Z (jm Z (jm Z (js (jf F62_1 Z) (js (jl k0 O58 Z Z) (js (jln U58 (rBlock.cI d0) Z) (js (jf F62_1 Z) (js (jl k0 O58 Z Z) (js (jln U58 (rBlock.cI d0) Z) (jm Z (jcy E169 Z Z (kUseX_ct (f:=f) _ _ _ _ _ hS rfl hdg ⟨by omega,by omega⟩) (dc d3 (dc d1 dn)) (kc k3 (kc k3 (kc k2 (kc k1 kn)))) (fun _=>p0) (fun _=>p4) (fun c hc=>⟨(fun h9=>hc.1 (by rw[Int.toNat_natCast];exact(h9.us k hb).2.2 _ (ix_mem (l:=(ix f.Blocks k).Term.Args) (i:=j) (by omega)))),hc.2⟩) fun hm180=>jn ?_))))))))))
 refine jbn (jx (jr (js (jadd Z Z (by omega)) (jm Z (jn ?_)))))
 exact jag (j+1) ⟨by omega,all_nx (by omega) hT9 (by have h9:=hm180.down;rwa[Int.toNat_natCast] at h9)⟩ (dc d0 (dc d1 (dc d2 (dc d3 dn)))) (kc k4 (kc k3 (kc k2 (kd kn)))) ⟨Z,Z,Z,Z,Z,Z,Z,Z,Z,Z,eqI (by omega),trivial⟩
 refine jex (jtx (jtx (jbh (jbn (jx (jr (js (jadd Z Z (by omega)) (jm Z (jn ?_)))))))))
 exact jag (k+1) ⟨by omega,lt_nx hB9 ⟨all_end hP9 (by omega),fun i hi=>hI9 i (by omega),all_end hT9 (by omega)⟩⟩ (dc d1 (dc d2 (dc d3 dn))) (kc k1 (kc k1 (kc k1 (kc k1 kn)))) ⟨Z,Z,Z,Z,Z,eqI (by omega),trivial⟩
 refine jex (jtx (jtx (jbh ?_)))
 exact xnor (jd0 Z ⟨⟨fun b hb=>hw b (by omega),fun b hb=>hB9 b (by omega)⟩⟩ Z dn (fun _ _=>(kc k2 (kc k2 kn))))
end Go.Proofs.YtmfkkodnghambaaGreat
namespace Go.Proofs.YtmfkkodnghambaaGreat
open Go.JE
theorem F173_0:Fld Tryz.prog 173 0 0:=⟨_,_,Tryz.underlying173,rfl,rfl,1,(by unfold Sz;kernel_rfl),by decide⟩
theorem F173_1:Fld Tryz.prog 173 1 1:=⟨_,_,Tryz.underlying173,rfl,rfl,1,(by unfold Sz;kernel_rfl),by decide⟩
theorem F173_2:Fld Tryz.prog 173 2 2:=⟨_,_,Tryz.underlying173,rfl,rfl,1,(by unfold Sz;kernel_rfl),by decide⟩
theorem Z173:Sz Tryz.prog 173 3:=by unfold Sz;kernel_rfl
theorem J173:(Tryz.prog.info? 173).bind (·.zero)=some (.agg #[.int .i64 0,.int .i64 0,.int .i64 0]):=by kernel_rfl
set_option maxRecDepth 4000
theorem recovK_ct{g0:Nat}{g1:Nat}{g2:Nat}(e:Int)(b:Int)(p:Int):TrK Tryz.prog 112 #[.pointer (some ⟨g0,0,none⟩),.pointer (some ⟨g1,0,none⟩),.pointer (some ⟨g2,0,none⟩)] (.iface 173 (.agg #[.int .i64 e,.int .i64 b,.int .i64 p])) [] [bx g0 89 [.int .i64 0],bx g1 3 [.int .i64 0],bx g2 3 [.int .i64 0]] (fun _:Unit => .tuple #[]) (fun _=>[]) (fun _ _=>[bx g0 89 [.int .i64 e],bx g1 3 [.int .i64 b],bx g2 3 [.int .i64 p]]):=by
 refine kenter (args:=[.pointer (some ⟨g0,0,none⟩),.pointer (some ⟨g1,0,none⟩),.pointer (some ⟨g2,0,none⟩)]) Tryz.func112 rfl rfl rfl rfl fun w0 X=>?_
 refine jb (jq (jr (js (jeqI U20 Z) (jn (jx ?_)))))
 refine jif Z (fun hc1=>?_) (fun hc1=>?_)
 exact absurd hc1 (by simp)
 refine jq (jr (js (jtas U173 rfl Z) (js (jex' Z Z) (js (jex' Z Z) (jn (jx ?_))))))
 refine jif Z (fun hc2=>?_) (fun hc2=>?_)
 refine jq (jr (jalc J173 Z fun g4=>jsta k0 Z173 Z Z Z ⟨Z,Z,Z,trivial⟩ (saf Z) (jn (jx (jany true (.a 0 (.a 1 (.a 2 (.a 3 (.a 4 (.a 5 (.o 6 (.o 7 (.o 8 .e))))))))) Mixed (by kernel_rfl) (kc k0 kn) fun F1=>jy Z (jf F173_0 Z) (jy Z (jl k0 O89 Z Z) (jy Z (jf F173_1 Z) (jy Z (jl k0 O3 Z Z) (jy Z (jf F173_2 Z) ?_)))))))))
 refine jy Z (jl k0 O3 Z Z) (jyo Z (jst k1 Z89 Z Z Z s0 (jyn d0 (kc k1 kn) (jyo Z (jst k2 Z3 Z Z Z s0 (jyn d0 (kc k2 kn) (jyo Z (jst k3 Z3 Z Z Z s0 (jyz d0 (jyd (jbn ?_)))))))))))
 exact jd0 Z () Z dn (fun _ _=>(kc k2 (kc k1 (kc k0 kn))))
 exact absurd hc2 (by simp)
set_option maxHeartbeats 1000000 in
theorem kFuncX_ct{a0:Value}{f:D.Func}:Tr Tryz.prog 59 #[vFunc f a0] [da rFunc (vFunc f a0) f] [] (fun i:{ t:Int×Int×Int // t.1=0↔GoodF f } => .tuple #[.int .i64 i.1.1,.int .i64 i.1.2.1,.int .i64 i.1.2.2]) (fun _=>[]) (fun _ _=>[]):=by
 refine jenterD (args:=[vFunc f a0]) Tryz.func59 rfl rfl rfl fun w0 X=>?_
 refine jq (jr (jbox Z Z fun g1=>jalc J89 Z fun g2=>jalc J3 Z fun g3=>jalc J3 Z fun g4=>jn (jx (jq (jr (js (jmf3 Z Z Z) (jdf Z ?_)))))))
 refine jn (jx (jq (jr (js (jf F49_0 Z) (js (jl k3 O3 Z Z) (jcv E114 Z Z (within_ct f.Params 0 4) dn kn (jcyD E113 Z Z (mustX_ct _ _ _ _ (by decide)) dn kn (fun _=>p0) (fun _=>p0) (fun c hc=>(by obtain⟨h9,e9,b9,p9,h8,rfl⟩:=hc;exact jpD3 Z Z Z Z (recovK_ct (g0:=g2) (g1:=g3) (g2:=g4) e9 b9 p9) (kc k2 (kc k1 (kc k0 kn))) O89 O3 O3 E112 ⟨(e9,b9,p9),⟨fun h=>absurd h h8,fun h=>absurd h (fun h=>by have h7:=within_of h.par;rw[h9] at h7;cases h7)⟩⟩ Z dn (fun _ _=>kn))) fun hm13=>?_)))))))
 have hp9:0≤f.Params∧f.Params≤4:=of_within hm13.down
 refine jn (jx (jq (jr (js (jf F49_1 Z) (js (jl k3 O47 Z Z) (jdq (rFunc.cB d0) fun q1 w1=>js (jln U47 (rFunc.cB d0) Z) (js (jgtr Z Z) (jcyD E113 Z Z (mustX_ct _ _ _ _ (by decide)) dn kn (fun _=>p0) (fun _=>p0) (fun c hc=>(by obtain⟨h9,e9,b9,p9,h8,rfl⟩:=hc;exact jpD3 Z Z Z Z (recovK_ct (g0:=g2) (g1:=g3) (g2:=g4) e9 b9 p9) (kc k2 (kc k1 (kc k0 kn))) O89 O3 O3 E112 ⟨(e9,b9,p9),⟨fun h=>absurd h h8,fun h=>absurd h (fun h=>by have h7:=h.len.1;simp only[decide_eq_false_iff_not] at h9;omega)⟩⟩ Z dn (fun _ _=>kn))) fun hm18=>?_))))))))
 have hl8:0<f.Blocks.length:=by have h9:=hm18.down;simpa using h9
 refine jn (jx (jq (jr (js (jf F49_1 Z) (js (jl k3 O47 Z Z) (js (jln U47 (rFunc.cB d0) Z) (ja Z (jn (jx (jq (jq ?_)))))))))))
 refine jr (js (jf F49_1 Z) (js (jl k3 O47 Z Z) (js (jln U47 (rFunc.cB d0) Z) (jm Z (jn (jx (jb ?_)))))))
 refine jlp (u2 fun(k:Nat) (s:Int)=>⟨k≤f.Blocks.length∧s=((f.Blocks.length+cntF3 (f.Blocks.take k):Nat):Int)∧cntF3 (f.Blocks.take k)≤k*2147483648,[da rFunc (vFunc f a0) f],[bx g4 3 [.int .i64 0],bx g3 3 [.int .i64 0],bx g2 89 [.int .i64 0],bx g1 49 [.int .i64 f.Params,a0]],[(1,.pointer (some ⟨g1,0,none⟩)),(2,.pointer (some ⟨g2,0,none⟩)),(3,.pointer (some ⟨g3,0,none⟩)),(4,.pointer (some ⟨g4,0,none⟩)),(5,.int .i64 s),(23,a0),(24,.int .i64 (↑(List.length f.Blocks))),(25,.int .i64 (↑k))],f.Blocks.length-k⟩) (0,(f.Blocks.length:Int)) ⟨by dsimp only;omega,by dsimp only;simp[cntF3],by simp[cntF3]⟩ (dc d0 dn) (kd (kd kn)) ⟨Z,Z,Z,Z,eqI (by omega),Z,Z,eqI (by omega),trivial⟩ ?_
 rintro⟨k,s⟩;dsimp only[u2];rintro⟨hk,hs,hcn⟩
 refine jq (jr (js (jlss Z Z) (jn (jx (jq ?_)))))
 refine jif Z (fun hc1=>?_) (fun hc1=>?_)
 have hb9:=cntF3_nx (bs:=f.Blocks) (k:=k) (by omega)
 refine jsk (jx (jq (jb (jq (jr (js (jix U47 Z62 (rFunc.cB d0) Z Z Z (by omega)) (jA4 sBlock (jlA (dix (rFunc.cB d0) k (by omega)) A62 Z62 Z) fun c28a c28b c28c c28d=>jalc J62 Z fun g7=>jdq (rBlock.cP d0) fun q3 w3=>jdq (rBlock.cI d0) fun q4 w4=>jdq (rBlock.c_Term_Args d0) fun q5 w5=>?_)))))))
 refine jdq (rBlock.c_Term_To d0) fun q6 w6=>jsta k0 Z62 Z Z Z ⟨w3.one,w4.one,Z,w5.one,w6.one,Z,trivial⟩ (saf Z) (jn (jx (jr (jm Z (js (jf F62_0 Z) (js (jl k0 O57 Z Z) (js (jln U57 (rBlock.cP d0) Z) (js (jf F62_1 Z) (js (jl k0 O58 Z Z) (js (jln U58 (rBlock.cI d0) Z) ?_))))))))))
 refine js (jadd Z Z (by omega)) (js (jadd Z Z (by omega)) (ja Z (jn (jbn (jx (jr (js (jadd Z Z (by omega)) (jm Z (jn ?_)))))))))
 exact jag (k+1,s+((((List.length ((ix f.Blocks k).Phis):Nat):Int))+(((List.length ((ix f.Blocks k).Ins):Nat):Int)))) ⟨by dsimp only;omega,by dsimp only;rw[hs,cntF3_nx (by omega)];omega,by dsimp only;omega⟩ (dc d1 dn) (kc k1 (kc k1 (kc k1 (kc k1 kn)))) ⟨Z,Z,Z,Z,eqI (by omega),Z,Z,eqI (by omega),trivial⟩
 have hsn:s=((f.Blocks.length+cntF3 f.Blocks:Nat):Int):=by rw[hs,List.take_of_length_le (by omega)]
 refine jex (jtx (jtx (jbh (jx (jq (jr (js (jf F49_1 Z) (js (jl k3 O47 Z Z) (js (jln U47 (rFunc.cB d0) Z) (js (jleq Z Z) (jm Z ?_)))))))))))
 refine jg Z Z (.t _) (fun hg=>jmv Z) (jg Z Z (.t _) (fun hg=>jleq (evg Z hg) Z) (js (jand Z Z) (jcyD E113 Z Z (mustX_ct _ _ _ _ (by decide)) dn kn (fun _=>p0) (fun _=>p0) (fun c hc=>(by obtain⟨h9,e9,b9,p9,h8,rfl⟩:=hc;exact jpD3 Z Z Z Z (recovK_ct (g0:=g2) (g1:=g3) (g2:=g4) e9 b9 p9) (kc k2 (kc k1 (kc k0 kn))) O89 O3 O3 E112 ⟨(e9,b9,p9),⟨fun h=>absurd h h8,fun h=>absurd h (fun h=>by have h7:=h.len.2;have h6:=h.cnt;rw[hsn] at h9;simp only[Bool.and_eq_false_iff,decide_eq_false_iff_not] at h9;omega)⟩⟩ Z dn (fun _ _=>kn))) fun hm47=>?_)))
 have hl9:f.Blocks.length≤512∧f.Blocks.length+cntF3 f.Blocks≤4096:=by have h9:=hm47.down;rw[hsn] at h9;simp at h9;omega
 refine jn (jx (jq (jr (js (jla k3 A49 Z49 Z Z Z) (jmm fun g49=>js (jbu (v := .agg #[.int .i64 f.Params,a0,.map (some g49)]) Z (fun _=>by obtain⟨_,_,_,rfl⟩:=w1;kernel_rfl)) (jbox Z Z fun g51=>ja Z (jn (jx (jq ?_)))))))))
 refine jr (jm Z (jcyD E115 Z Z (kShapeX_ct (f:=f) rfl) (dc d0 dn) (kd kn) (fun _=>p0) (fun _=>p2) (fun c hc=>(by obtain⟨h9,e9,b9,p9,h8,rfl⟩:=hc;exact jpD3 Z Z Z Z (recovK_ct (g0:=g2) (g1:=g3) (g2:=g4) e9 b9 p9) (kc k2 (kc k1 (kc k0 kn))) O89 O3 O3 E112 ⟨(e9,b9,p9),⟨fun h=>absurd h h8,fun h=>absurd h (fun h=>h9 (good_iff.1 h).2.2.2.1)⟩⟩ Z dn (fun _ _=>kn))) fun hm53=>jn (jx (jq (jr (jm Z (jcyD E116 Z Z (kUsesX_ct (f:=f) hm53.down ⟨by omega,hl9.1⟩ rfl) (dc d0 dn) (kd kn) (fun _=>p0) (fun _=>p2) (fun c hc=>(by obtain⟨h9,e9,b9,p9,h8,rfl⟩:=hc;exact jpD3 Z Z Z Z (recovK_ct (g0:=g2) (g1:=g3) (g2:=g4) e9 b9 p9) (kc k2 (kc k1 (kc k0 kn))) O89 O3 O3 E112 ⟨(e9,b9,p9),⟨fun h=>absurd h h8,fun h=>absurd h (fun h=>h9 (good_iff.1 h).2.2.2.2)⟩⟩ Z dn (fun _ _=>kn))) fun hm55=>jn (jx (jq ?_)))))))))
 refine jr (jst k4 Z89 Z Z Z s0 (jst k4 Z3 Z Z Z s0 (jst k4 Z3 Z Z Z s0 (jn (jx (jrt ?_))))))
 exact jrD3 Z Z Z Z k2 O89 k1 O3 k0 O3 E112 (recov_ct g2 g3 g4) ⟨(0,0,0),⟨fun _=>good_iff.2 ⟨hp9,⟨by omega,hl9.1⟩,hl9.2,hm53.down,hm55.down⟩,fun _=>rfl⟩⟩ Z dn (fun _ _=>kn)
theorem kRightX_ct{a0:Value}{f:D.Func}(r:Bool)(hr:r=true↔GoodF f):Tv Tryz.prog 26 #[vFunc f a0] [da rFunc (vFunc f a0) f] [] (.bool r):=by
 refine jenter (args:=[vFunc f a0]) Tryz.func26 rfl rfl rfl fun w0 X=>?_
 refine jq (jr (jbox Z Z fun g1=>ja Z (jn (jx (jq (jr (js (jla k0 A49 Z49 Z Z Z) (jc E59 Z Z kFuncX_ct (dc d0 dn) kn (fun _=>p0) (fun _=>p0) fun c8=>jm Z (js (jex' Z Z) ?_)))))))))
 refine js (jex' Z Z) (js (jex' Z Z) (ja Z (ja Z (ja Z (jn (jx (jq (jr (jm Z (js (jeql Z Z) (ja Z ?_)))))))))))
 refine jn (jx (jrt ?_))
 exact jrB Z Z (by have h9:=c8.2;cases r<;>simp_all)
end Go.Proofs.YtmfkkodnghambaaGreat
namespace Go.Proofs.YtmfkkodnghambaaGreat
open Go.JE
set_option maxRecDepth 4000
set_option maxHeartbeats 2000000 in
theorem rRunX_ct{a0:Value}{f:D.Func}{a1a a1b a1c:Value}{i:D.Input}(r:Bool)(hr:r=true↔GoodF f)(hN:i.Steps≤1000000):Ts Tryz.prog 23 #[vFunc f a0,vInput i (a1a,a1b,a1c)] [da rFunc (vFunc f a0) f,da rInput (vInput i (a1a,a1b,a1c)) i] [] rOutcome vOutcome (runR r f i):=by
 refine jenter (args:=[vFunc f a0,vInput i (a1a,a1b,a1c)]) Tryz.func23 rfl rfl rfl fun w0 X=>?_
 refine jq (jr (jbox Z Z fun g2=>jbox Z Z fun g3=>jalc J37 Z fun g4=>jn (jx (jsc (jq (jq (jr (js (jla k2 A49 Z49 Z Z Z) ?_))))))))
 refine jcv E26 Z Z (kRightX_ct r hr) (dc d0 dn) kn (js (jnot Z) (jn (jx ?_)))
 refine jif Z (fun hc1=>?_) (fun hc1=>?_)
 refine jq (jr (js (jbu (v := .agg #[.int .i64 4,.int .i32 0,.slice none 0 0,.slice none 0 0,.int .i64 0]) Z (fun _=>by kernel_rfl)) (jsta k0 Z37 Z Z Z ⟨Z,Z,Z,Z,Z,trivial⟩ (saf Z) (jn (jx (jrt (jtr (jso ?_))))))))
 exact jrcA (val:=vOutcome) (b:=⟨4,0,[],[],0⟩) (c:=(.slice none 0 0,.slice none 0 0)) Z Z k0 A37 Z37 Z (runR_no (by simpa using hc1)) (rOutcome.M (m:=⟨4,0,[],[],0⟩) (c:=(.slice none 0 0,.slice none 0 0)) wN wN (wl 4) (wl 0) (wl 0))
 have hr1:r=true:=by simpa using hc1
 have hG:=hr.1 hr1
 have hpr:=hG.par
 have hln:=hG.len
 refine jsk (jx (jq (jr (jvn fun g17=>js (jf F31_2 Z) (js (jl k2 O29 Z Z) (js (jf F31_3 Z) (js (jl k2 O3 Z Z) (jdq (rInput.c_Answers d1) fun q1 w1=>js (jbu (v := .agg #[.map (some g17),.int .i64 0,.int .i32 0,.slice none 0 0,.slice none 0 0,.int .i64 0,a1c,.int .i64 i.Steps]) Z (fun _=>by obtain⟨_,_,_,rfl⟩:=w1;kernel_rfl)) (jbox Z Z fun g23=>?_)))))))))
 refine ja Z (jn (jx (jq (jr (jm Z (js (jla k3 A31 Z31 Z Z Z) (jcg E28 Z Z pMem_ct (dc d1 dn) kn fun v26 w2=>js (jnil Z) (js (jf F115_1 Z) (js (jf F37_2 Z) (jst k1 Z29 Z Z w2.one s3 ?_))))))))))
 refine jn (jx (jq (jq (jr (js (jf F31_0 Z) (js (jl k4 O29 Z Z) (js (jf F31_0 Z) (js (jl k4 O29 Z Z) (jdq (rInput.c_Args d1) fun q3 w3=>js (jln U29 (rInput.c_Args d1) Z) (js (jf F49_0 Z) ?_))))))))))
 refine js (jl k5 O3 Z Z) (js (jmin Z Z) (js (jshi (hi:=(Int.toNat (min (↑(List.length i.Args)) f.Params))) U29 Z21 (rInput.c_Args d1) Z Z (by omega) (by omega)) (jdq (dhi (rInput.c_Args d1) (Int.toNat (min (↑(List.length i.Args)) f.Params)) (by omega) (by omega)) fun q4 w4=>js (jln U29 (dhi (rInput.c_Args d1) (Int.toNat (min (↑(List.length i.Args)) f.Params)) (by omega) (by omega)) Z) (jm Z (jn (jx (jb ?_)))))))
 refine jlp (u2 fun(k:Nat) (V1:Int→Int)=>⟨k≤(argsF f i).length∧V1=argsV (argsF f i) k,[da rFunc (vFunc f a0) f,da rInput (vInput i (a1a,a1b,a1c)) i],[bx g23 115 [.map (some g17),.int .i64 0,.int .i32 0,v26,.slice none 0 0,.int .i64 0,a1c,.int .i64 i.Steps],gl X.n (rI .i32) 21 v26 (memM i),vm g17 V1,bx g4 37 [.int .i64 0,.int .i32 0,.slice none 0 0,.slice none 0 0,.int .i64 0],bx g2 49 [.int .i64 f.Params,a0]],[(2,.pointer (some ⟨g2,0,none⟩)),(4,.pointer (some ⟨g4,0,none⟩)),(5,.pointer (some ⟨g23,0,none⟩)),(38,(resl 1 a1a 0 (Int.toNat (min (↑(List.length i.Args)) f.Params)))),(39,.int .i64 (↑(List.length (List.take (Int.toNat (min (↑(List.length i.Args)) f.Params)) i.Args)))),(40,.int .i64 (↑k))],(argsF f i).length-k⟩) (0,fun _=>0) ⟨by dsimp only;omega,rfl⟩ (dc d0 (dc d1 dn)) (kd (kd (kc k1 kn))) ⟨Z,Z,Z,Z,Z,eqI (by omega),trivial⟩ ?_
 rintro⟨k,V1⟩;dsimp only[u2];rintro⟨hk,hV1⟩
 have hal:(argsF f i).length=(List.take (Int.toNat (min (i.Args.length:Int) f.Params)) i.Args).length:=rfl
 refine jq (jr (js (jlss Z Z) (jn (jx (jq ?_)))))
 refine jif Z (fun hc2=>?_) (fun hc2=>?_)
 refine jsk (jx (jq (jb (jq (jr (jm Z (js (jix U29 Z21 (dhi (rInput.c_Args d1) (Int.toNat (min (↑(List.length i.Args)) f.Params)) (by omega) (by omega)) Z Z Z (by omega)) (js (jlI (dix (dhi (rInput.c_Args d1) (Int.toNat (min (↑(List.length i.Args)) f.Params)) (by omega) (by omega)) k (by omega)) O21 Z) (ja Z (ja Z (jn ?_)))))))))))
 refine jx (jr (jm Z (js (jnil Z) (js (jf F115_0 Z) (js (jl k0 O113 Z Z) (jm Z (jm Z (jvu U113 U3 k2 Z Z Z (wad (dix (dhi (rInput.c_Args d1) (Int.toNat (min (↑(List.length i.Args)) f.Params)) (by omega) (by omega)) k (by omega))) (jn (jbn (jx ?_)))))))))))
 refine jr (js (jadd Z Z (by omega)) (jm Z (jn ?_)))
 exact jag (k+1,setV V1 ((k:Nat):Int) (ix (List.take (Int.toNat (min (((List.length i.Args:Nat):Int)) f.Params)) i.Args) k)) ⟨by dsimp only;omega,by dsimp only;rw[hV1];rfl⟩ (dc d0 (dc d1 dn)) (kc k1 (kc k1 (kd (kc k0 kn)))) ⟨Z,Z,Z,Z,Z,eqI (by omega),trivial⟩
 refine jex (jtx (jtx (jbh (jx (jq (jr (ja Z (ja Z (jn (jx (jq ?_)))))))))))
 refine jlab (jx (jq (jb (cnl (r:=rEvent) (E:=74) ?_))))
 refine jlp (u11 fun(fu:Nat) (ab:Int) (fb:Int) (V1:Int→Int) (x1:Int) (me1:List Int) (cl1:List D.Event) (st1:Int) (an1:List Int) (vc1:Value) (va1:Value)=>⟨0<fu∧runF f i=outF (blocksF f.Blocks i.Steps fu ab fb ⟨V1,0,x1,me1,cl1,st1,an1⟩)∧(0≤ab∧ab<f.Blocks.length)∧(∀p∈(ix f.Blocks (Int.toNat ab)).Phis,fb∈p.In.map (fun x=>x.From))∧me1.length≤4096∧(0≤st1∧st1≤1000000)∧cl1.length≤st1∧i.Steps-st1<fu∧IntKind.i32.wrap x1=x1,[da rFunc (vFunc f a0) f,da rInput (vInput i (a1a,a1b,a1c)) i,dv (rL (rI .i32)) va1 an1],[gl X.n rEvent 74 vc1 cl1,bx g23 115 [.map (some g17),.int .i64 0,.int .i32 x1,v26,vc1,.int .i64 st1,va1,.int .i64 i.Steps],gl X.n (rI .i32) 21 v26 me1,vm g17 V1,bx g4 37 [.int .i64 0,.int .i32 0,.slice none 0 0,.slice none 0 0,.int .i64 0],bx g2 49 [.int .i64 f.Params,a0]],[(2,.pointer (some ⟨g2,0,none⟩)),(4,.pointer (some ⟨g4,0,none⟩)),(5,.pointer (some ⟨g23,0,none⟩)),(8,.int .i64 ab),(9,.int .i64 fb)],fu⟩) (Int.toNat i.Steps+1,0,(-1),V1,0,memM i,[],0,i.Answers,.slice none 0 0,a1c) ⟨by dsimp only;omega,by dsimp only;rw[hV1,show k=(argsF f i).length by omega];rfl,by dsimp only;omega,hG.phi0,by dsimp only;exact memM_len i,by dsimp only;omega,by simp,by dsimp only;omega,by dsimp only;decide⟩ (dc d0 (dc d1 (dc (rInput.c_Answers d1) dn))) (kd (kd (kd kn))) ⟨Z,Z,Z,Z,Z,trivial⟩ ?_
 rintro⟨fu,ab,fb,V1,x1,me1,cl1,st1,an1,vc1,va1⟩;dsimp only[u11];rintro⟨hfu,hrun,hab,hph,hml,hst,hcl,hfs,hx1⟩
 refine cgo k0 fun w6=>cdq d2 fun q7 w7=>?_
 have hbb:Int.toNat ab<f.Blocks.length:=by omega
 have htm:=hG.tm _ hbb
 refine jb (jq (jr (js (jf F49_1 Z) (js (jl k5 O47 Z Z) (jm Z (jdq (rFunc.cB d0) fun q8 w8=>js (jix (i:=(Int.toNat ab)) U47 Z62 (rFunc.cB d0) Z Z (by omega) (by omega)) (jA4 sBlock (jlA (dix (rFunc.cB d0) (Int.toNat ab) (by omega)) A62 Z62 Z) fun c56a c56b c56c c56d=>jalc J62 Z fun g10=>jdq (rBlock.cP d0) fun q10 w10=>jdq (rBlock.cI d0) fun q11 w11=>?_)))))))
 refine jdq (rBlock.c_Term_Args d0) fun q12 w12=>jdq (rBlock.c_Term_To d0) fun q13 w13=>jsta k0 Z62 Z Z Z ⟨w10.one,w11.one,Z,w12.one,w13.one,Z,trivial⟩ (saf Z) (jn (jx (jq (jr (jm Z (js (jf F62_0 Z) (js (jl k0 O57 Z Z) (jm Z (jc E48 Z Z (rPhis_ct _ w2.one w6.one w7.one hph) (dc (rBlock.cP d0) dn) (kc k2 (kc k3 kn)) (fun _=>p0) (fun _=>p2) fun _=>?_)))))))))
 refine jn (jx (jq (jq (jr (js (jf F62_1 Z) (js (jl k2 O58 Z Z) (js (jln U58 (rBlock.cI d0) Z) (jm Z (jn (jx (jb ?_)))))))))))
 refine jlp (u10 fun(k:Nat) (V2:Int→Int) (e2:Int) (x2:Int) (me2:List Int) (cl2:List D.Event) (st2:Int) (an2:List Int) (vc2:Value) (va2:Value)=>⟨k≤(ix f.Blocks (Int.toNat ab)).Ins.length∧lisF i.Steps (ix f.Blocks (Int.toNat ab)).Ins (phisF fb (ix f.Blocks (Int.toNat ab)).Phis ⟨V1,0,x1,me1,cl1,st1,an1⟩)=lisF i.Steps ((ix f.Blocks (Int.toNat ab)).Ins.drop k) ⟨V2,e2,x2,me2,cl2,st2,an2⟩∧me2.length≤4096∧(0≤st2∧st2≤1000000)∧cl2.length≤st2∧st1≤st2∧IntKind.i32.wrap x2=x2∧0≤e2∧e2≤3,[da rBlock (vBlock (ix f.Blocks (Int.toNat ab)) (c56a,c56b,c56c,c56d)) (ix f.Blocks (Int.toNat ab)),da rFunc (vFunc f a0) f,da rInput (vInput i (a1a,a1b,a1c)) i,dv (rL (rI .i32)) va2 an2],[bx g23 115 [.map (some g17),.int .i64 e2,.int .i32 x2,v26,vc2,.int .i64 st2,va2,.int .i64 i.Steps],vm g17 V2,bx g10 62 [c56a,c56b,.int .i64 (((ix f.Blocks (Int.toNat ab)).Term).Kind),c56c,c56d,.int .i32 (((ix f.Blocks (Int.toNat ab)).Term).Imm)],gl X.n rEvent 74 vc2 cl2,gl X.n (rI .i32) 21 v26 me2,bx g4 37 [.int .i64 0,.int .i32 0,.slice none 0 0,.slice none 0 0,.int .i64 0],bx g2 49 [.int .i64 f.Params,a0]],[(2,.pointer (some ⟨g2,0,none⟩)),(4,.pointer (some ⟨g4,0,none⟩)),(5,.pointer (some ⟨g23,0,none⟩)),(8,.int .i64 ab),(9,.int .i64 fb),(10,.pointer (some ⟨g10,0,none⟩)),(63,c56b),(64,.int .i64 (↑(List.length ((ix f.Blocks (Int.toNat ab)).Ins)))),(65,.int .i64 (↑k))],(ix f.Blocks (Int.toNat ab)).Ins.length-k⟩) (0,phisV fb ((ix f.Blocks (Int.toNat ab)).Phis) V1,0,x1,me1,cl1,st1,an1,vc1,va1) ⟨by dsimp only;omega,rfl,hml,by dsimp only;omega,hcl,by dsimp only;omega,hx1,by dsimp only;omega,by dsimp only;omega⟩ (dc d0 (dc d1 (dc d2 (dc d3 dn)))) (kd (kd (kd (kc k0 kn)))) ⟨Z,Z,Z,Z,Z,Z,Z,Z,eqI (by omega),trivial⟩ ?_
 rintro⟨k,V2,e2,x2,me2,cl2,st2,an2,vc2,va2⟩;dsimp only[u10];rintro⟨hk,hlis,hml2,hst2,hcl2,hs12,hx2,he2⟩
 refine cgo k3 fun w15=>cdq d3 fun q16 w16=>?_
 have hse:=stE_rng (st:=st2) (ss:=i.Steps) he2
 refine jq (jr (js (jlss Z Z) (jn (jx (jq ?_)))))
 refine jif Z (fun hc3=>?_) (fun hc3=>?_)
 refine jsk (jx (jq (jb (jq (jr (js (jix U58 Z67 (rBlock.cI d0) Z Z Z (by omega)) (jA sIns (jlA (dix (rBlock.cI d0) k (by omega)) A67 Z67 Z) fun c68=>jalc J67 Z fun g12=>jdq (rIns.c_Args d0) fun q18 w18=>jsta k0 Z67 Z Z Z ⟨Z,Z,Z,w18.one,Z,trivial⟩ (saf Z) (jn ?_))))))))
 refine jx (jq (jq (jr (jm Z (jc E49 Z Z (rStep_ct Z w2.one w15.one w16.one (by omega)) dn (kc k1 kn) (fun _=>p0) (fun _=>p1) fun _=>js (jnot Z) (jn (jx ?_)))))))
 refine jif Z (fun hc4=>?_) (fun hc4=>?_)
 have hso:stepOk i.Steps ⟨V2,e2,x2,me2,cl2,st2,an2⟩=false:=by simpa[stepOk] using hc4
 have hsf:stE e2 st2 i.Steps≠0∧stS e2 st2 i.Steps=st2:=stB_f hso
 refine jex (jtx (jbo (jtx (jtx (jbo (jtx (jbo (jtx (jbh (jx (jq ?_)))))))))))
 refine jr (jm Z (js (jnil Z) (js (jf F115_1 Z) (js (jla k0 A37 Z37 Z Z Z) (jsta k6 Z37 Z Z Z ⟨Z,Z,w2.one,w15.one,Z,trivial⟩ (saf Z) (jn (jx (jrt (jso (qfz k6 (by omega) (qfz k5 (by omega) ?_)))))))))))
 exact jrcA (val:=vOutcome) (b:=⟨stE e2 st2 i.Steps,stV e2 x2 st2 i.Steps,me2,cl2,stS e2 st2 i.Steps⟩) (c:=(v26,vc2)) Z Z k0 A37 Z37 Z (by rw[runR_yes hr1];rw[hrun,blk_stop (lis_stop hlis (by omega) hso) hfu];rfl) (rOutcome.M (m:=⟨stE e2 st2 i.Steps,stV e2 x2 st2 i.Steps,me2,cl2,stS e2 st2 i.Steps⟩) (c:=(v26,vc2)) d1 d0 (wp (IntWalk.i64_in (stE e2 st2 i.Steps) (by omega))) (wp (stV_wr hx2)) (wp (IntWalk.i64_in (stS e2 st2 i.Steps) (by omega))))
 have hso:stepOk i.Steps ⟨V2,e2,x2,me2,cl2,st2,an2⟩=true:=by simpa[stepOk] using hc4
 have hsb:e2=0∧st2<i.Steps∧stE e2 st2 i.Steps=0∧stS e2 st2 i.Steps=st2+1:=stB_t hso
 refine jsk (jx (jr (jm Z (js (jla k1 A67 Z67 Z Z Z) (jc E50 Z Z (rIns_ct (i:=(ix ((ix f.Blocks (Int.toNat ab)).Ins) k)) (me:=me2) (cl:=cl2) (hG.op _ hbb _ (ix_mem (l:=(ix f.Blocks (Int.toNat ab)).Ins) (i:=k) (by omega))) (by omega) (by omega)) (dc d4 (dc d0 dn)) (kc k0 (kc k1 (kc k3 (kc k2 kn)))) (fun _=>p1) (fun _=>p4) fun c74=>jgo k3 fun w22=>jn (jbn (jx (jr (js (jadd Z Z (by omega)) ?_)))))))))
 refine jm Z (jn ?_)
 exact jag (k+1,inzV (ix ((ix f.Blocks (Int.toNat ab)).Ins) k) V2 me2 an2,inzE (ix ((ix f.Blocks (Int.toNat ab)).Ins) k) V2 me2 (stE e2 st2 i.Steps),inzX (ix ((ix f.Blocks (Int.toNat ab)).Ins) k) V2 me2 (stV e2 x2 st2 i.Steps),inzM (ix ((ix f.Blocks (Int.toNat ab)).Ins) k) V2 me2,inzC (ix ((ix f.Blocks (Int.toNat ab)).Ins) k) V2 cl2,stS e2 st2 i.Steps,inzA (ix ((ix f.Blocks (Int.toNat ab)).Ins) k) an2,c74.1,c74.2) ⟨by dsimp only;omega,lis_go2 hlis (by omega) hso,by dsimp only;rw[inzM_len];exact hml2,by dsimp only;omega,by have h9:=inzC_len (ix (ix f.Blocks (Int.toNat ab)).Ins k) V2 cl2;dsimp only;omega,by dsimp only;omega,inzX_wr (stV_wr hx2),inzE_rng hse⟩ (dc d2 (dc d3 (dc d4 (dc d0 dn)))) (kd (kc k3 (kc k1 (kc k0 (kc k1 (kc k1 kn)))))) ⟨Z,Z,Z,Z,Z,Z,Z,Z,eqI (by omega),trivial⟩
 refine jex (jtx (jtx (jbh (jx (jq (jq (jr (jm Z (jc E49 Z Z (rStep_ct Z w2.one w15.one w16.one (by omega)) dn (kc k0 kn) (fun _=>p0) (fun _=>p1) fun _=>js (jnot Z) (jn ?_))))))))))
 refine jx ?_
 refine jif Z (fun hc5=>?_) (fun hc5=>?_)
 have hso:stepOk i.Steps ⟨V2,e2,x2,me2,cl2,st2,an2⟩=false:=by simpa[stepOk] using hc5
 have hsf:stE e2 st2 i.Steps≠0∧stS e2 st2 i.Steps=st2:=stB_f hso
 refine jex (jtx (jbo (jtx (jbh (jx (jq (jr (jm Z (js (jnil Z) (js (jf F115_1 Z) (js (jla k0 A37 Z37 Z Z Z) ?_)))))))))))
 refine jsta k5 Z37 Z Z Z ⟨Z,Z,w2.one,w15.one,Z,trivial⟩ (saf Z) (jn (jx (jrt (jso (qfz k5 (by omega) (qfz k4 (by omega) ?_))))))
 exact jrcA (val:=vOutcome) (b:=⟨stE e2 st2 i.Steps,stV e2 x2 st2 i.Steps,me2,cl2,stS e2 st2 i.Steps⟩) (c:=(v26,vc2)) Z Z k0 A37 Z37 Z (by rw[runR_yes hr1];rw[hrun,blk_step (lis_end hlis (by omega)) hso hfu];rfl) (rOutcome.M (m:=⟨stE e2 st2 i.Steps,stV e2 x2 st2 i.Steps,me2,cl2,stS e2 st2 i.Steps⟩) (c:=(v26,vc2)) d1 d0 (wp (IntWalk.i64_in (stE e2 st2 i.Steps) (by omega))) (wp (stV_wr hx2)) (wp (IntWalk.i64_in (stS e2 st2 i.Steps) (by omega))))
 have hso:stepOk i.Steps ⟨V2,e2,x2,me2,cl2,st2,an2⟩=true:=by simpa[stepOk] using hc5
 have hsb:e2=0∧st2<i.Steps∧stE e2 st2 i.Steps=0∧stS e2 st2 i.Steps=st2+1:=stB_t hso
 have hte:=termE_rng (t:=(ix f.Blocks (Int.toNat ab)).Term) hse
 refine jsk (jx (jq (jr (jm Z (jm Z (js (jf F62_2 Z) (js (jla k2 A60 Z60 Z Z Z) (jwr (rBlock.W_Term_Imm d0) fun w25=>jvw k1 fun hvw=>jc E51 Z Z (rTerm_ct (t:=((ix f.Blocks (Int.toNat ab)).Term)) w2.one w15.one w16.one htm) (dc (rBlock.P_Term d0) dn) (kd kn) (fun _=>p0) (fun _=>p2) fun _=>ja Z ?_))))))))
 refine ja Z (jn (jx (jq (jr (jm Z (js (jnil Z) (js (jf F115_1 Z) (js (jf F37_0 Z) (js (jl k0 O3 Z Z) (js (jneq Z Z) (jn ?_)))))))))))
 refine jx ?_
 refine jif Z (fun hc6=>?_) (fun hc6=>?_)
 have hzz:¬(termF (ix f.Blocks (Int.toNat ab)).Term (stepF i.Steps ⟨V2,e2,x2,me2,cl2,st2,an2⟩)).en=0:=hc6
 refine jex (jbo (jtx (jbh (jx (jq (jr (jm Z (js (jnil Z) (js (jf F115_1 Z) (js (jla k0 A37 Z37 Z Z Z) (jsta k5 Z37 Z Z Z ⟨Z,Z,w2.one,w15.one,Z,trivial⟩ (saf Z) ?_)))))))))))
 refine jn (jx (jrt (jso (qfz k5 (by omega) (qfz k4 (by omega) ?_)))))
 exact jrcA (val:=vOutcome) (b:=⟨termE ((ix f.Blocks (Int.toNat ab)).Term) (stE e2 st2 i.Steps),termV ((ix f.Blocks (Int.toNat ab)).Term) V2 (stV e2 x2 st2 i.Steps),me2,cl2,stS e2 st2 i.Steps⟩) (c:=(v26,vc2)) Z Z k0 A37 Z37 Z (by rw[runR_yes hr1];rw[hrun,blk_end (lis_end hlis (by omega)) hso hzz hfu];rfl) (rOutcome.M (m:=⟨termE ((ix f.Blocks (Int.toNat ab)).Term) (stE e2 st2 i.Steps),termV ((ix f.Blocks (Int.toNat ab)).Term) V2 (stV e2 x2 st2 i.Steps),me2,cl2,stS e2 st2 i.Steps⟩) (c:=(v26,vc2)) d1 d0 (wp (IntWalk.i64_in (termE ((ix f.Blocks (Int.toNat ab)).Term) (stE e2 st2 i.Steps)) (by omega))) (wp (termV_wr (stV_wr hx2) hvw w25)) (wp (IntWalk.i64_in (stS e2 st2 i.Steps) (by omega))))
 have hz9:termE (ix f.Blocks (Int.toNat ab)).Term (stE e2 st2 i.Steps)=0:=by simpa using hc6
 have hzz:(termF (ix f.Blocks (Int.toNat ab)).Term (stepF i.Steps ⟨V2,e2,x2,me2,cl2,st2,an2⟩)).en=0:=hz9
 have htf:termF (ix f.Blocks (Int.toNat ab)).Term (stepF i.Steps ⟨V2,e2,x2,me2,cl2,st2,an2⟩)=⟨V2,0,termV (ix f.Blocks (Int.toNat ab)).Term V2 (stV e2 x2 st2 i.Steps),me2,cl2,stS e2 st2 i.Steps,an2⟩:=by unfold termF stepF;dsimp only;rw[hz9]
 have htr:=hG.to _ hbb _ (term_to (V:=V2) htm hz9)
 rw[hz9]
 refine jsk (jbn ?_)
 exact jag (fu-1,termB ((ix f.Blocks (Int.toNat ab)).Term) V2,ab,V2,termV ((ix f.Blocks (Int.toNat ab)).Term) V2 (stV e2 x2 st2 i.Steps),me2,cl2,stS e2 st2 i.Steps,an2,vc2,va2) ⟨by dsimp only;omega,by dsimp only;rw[hrun,blk_go (lis_end hlis (by omega)) hso hzz hfu,htf],by dsimp only;omega,by have h9:=hG.phi_from hbb (term_to (V:=V2) htm hz9);rwa[Int.toNat_of_nonneg hab.1] at h9,hml2,by dsimp only;omega,by dsimp only;omega,by dsimp only;omega,by first|exact termV_wr (stV_wr hx2) hvw (by assumption)|exact(termV_wr (stV_wr hx2) hvw hIm)⟩ (dc d1 (dc d2 (dc d3 dn))) (kc k3 (kc k0 (kc k2 (kc k0 (kc k1 (kc k1 kn)))))) ⟨Z,Z,Z,Z,Z,trivial⟩
end Go.Proofs.YtmfkkodnghambaaGreat
namespace Go.Proofs.YtmfkkodnghambaaGreat
open Go.JE
theorem lis_en{N:Int}:∀(l:List D.Ins) (s:RSt),(0≤s.en∧s.en≤3)→0≤(lisF N l s).1.en∧(lisF N l s).1.en≤3
 | [],s,h=>h
 | i::l,s,h=>by
  rw[lisF]
  split
  ·exact lis_en l _ (inzE_rng (stE_rng h))
  ·exact stE_rng h
theorem blk_en{bs:List D.Block}{N:Int}:∀(k:Nat) (a fr:Int) (s:RSt),(0≤s.en∧s.en≤3)→0≤(blocksF bs N k a fr s).en∧(blocksF bs N k a fr s).en≤3
 | 0,_,_,s,h=>h
 | k+1,a,fr,s,h=>by
  have h1:=lis_en (N:=N) (ix bs (Int.toNat a)).Ins (phisF fr (ix bs (Int.toNat a)).Phis s) h
  have h2:∀t:RSt,(0≤t.en∧t.en≤3)→0≤(termF (ix bs (Int.toNat a)).Term (stepF N t)).en∧(termF (ix bs (Int.toNat a)).Term (stepF N t)).en≤3:=fun t ht=>termE_rng (stE_rng ht)
  rw[blocksF]
  split
  ·split
   ·split
    ·exact blk_en k _ _ _ (h2 _ h1)
    ·exact h2 _ h1
   ·exact stE_rng h1
  ·exact h1
theorem runF_en(f:D.Func)(i:D.Input):(runF f i).End≠4:=by
 have:=blk_en (bs:=f.Blocks) (N:=i.Steps) (Int.toNat i.Steps+1) 0 (-1) (startF f i) (show 0≤(0:Int)∧(0:Int)≤3 by decide)
 intro h
 have h2:(blocksF f.Blocks i.Steps (Int.toNat i.Steps+1) 0 (-1) (startF f i)).en=4:=h
 omega
theorem raw_fin{r:Bool}{f:D.Func}{i:D.Input}:(true&&alikeO (runR r f i) (runR r f i)&&(decide ((runR r f i).End=4)==!r))=true:=by
 rw[alike_rf]
 cases r with
 | false=>rfl
 | true =>
  have:(runR true f i).End≠4:=runF_en f i
  simp[this]
theorem good_dec(f:D.Func):∃r:Bool,r=true↔GoodF f:=by
 by_cases h:GoodF f
 ·exact⟨true,by simp[h]⟩
 ·exact⟨false,by simp[h]⟩
def few4M(i:D.Input):D.Input:=⟨i.Args.take (Int.toNat (min (i.Args.length:Int) 20)),i.Mem.take (Int.toNat (min (i.Mem.length:Int) 20)),i.Answers.take (Int.toNat (min (i.Answers.length:Int) 20)),min i.Steps 300⟩
def one3(p:Int)(l:List D.Ins)(t:D.Term):D.Func:=⟨p,[⟨[],l,t⟩]⟩
def ret3(v:Int):D.Term:=⟨4,[v],[],0⟩
theorem pos_makes{l:List D.Ins}{v:Int}{k:Nat}(h:v∈(l.take k).flatMap makes3):∃i,i<k∧i<l.length∧v∈makes3 (ix l i):=by
 obtain⟨x,h1,h2⟩:=List.mem_flatMap.1 h
 obtain⟨i,hi,e⟩:=List.getElem_of_mem h1
 rw[List.length_take] at hi
 rw[List.getElem_take] at e
 exact⟨i,by omega,by omega,by rw[ix_eq (show i<l.length by omega),e];exact h2⟩
theorem good_one{p:Int}{l:List D.Ins}{t:D.Term}(hp:0≤p∧p≤4)(hl:l.length≤4000)(hn:(l.flatMap makes3).Nodup)(hr:∀r∈l.flatMap makes3,p≤r∧r≤8191)
  (ho:∀i∈l,(1≤i.Op∧i.Op≤18)∧(operM i.Op).1≤(i.Args.length:Int)∧(i.Args.length:Int)≤(operM i.Op).2) (ht:(t.Kind=4∧t.Args.length≤1∨t.Kind=5∧t.Args.length=0)∧t.To=[])
  (hi:∀k,k<l.length→∀v∈(ix l k).Args,(0≤v∧v<p)∨v∈(l.take k).flatMap makes3) (hu:∀v∈t.Args,(0≤v∧v<p)∨v∈l.flatMap makes3):GoodF (one3 p l t):=by
 have e0:∀b,b<(one3 p l t).Blocks.length→ix (one3 p l t).Blocks b=⟨[],l,t⟩:=fun b hb=>by
  have hb:b<1:=hb
  have:b=0:=by omega
  subst this;rfl
 have em:mkB (⟨[],l,t⟩:D.Block)=l.flatMap makes3:=by unfold mkB;simp
 have eo:∀j,ix (one3 p l t).Blocks j=if j=0 then ⟨[],l,t⟩ else default:=fun j=>by
  cases j with
  | zero=>rfl
  | succ j=>rw[if_neg (by omega),ix_out (by show 1≤j+1;omega)]
 have e9:mkB (default:D.Block)=[]:=rfl
 refine⟨hp,⟨by show 0<1;omega,by show(1:Nat)≤512;omega⟩,?_,⟨fun j=>?_,fun i j hij r hr hr2=>?_⟩,fun b hb r hr2=>?_,fun b hb i hi2=>?_,fun b hb=>?_,fun b hb t' ht'=>?_,fun b hb=>?_,fun b hb p' hp'=>?_,fun b hb k hk v hv=>?_,fun b hb v hv=>?_,fun b hb p' hp'=>?_⟩
 ·show 1+cntF3 [⟨[],l,t⟩]≤4096
  unfold cntF3;simp;omega
 ·rw[eo];split
  ·rw[em];exact hn
  ·rw[e9];exact List.nodup_nil
 ·rw[eo] at hr hr2
  split at hr
  ·rw[if_neg (by omega),e9] at hr2;cases hr2
  ·rw[e9] at hr;cases hr
 ·rw[e0 b hb,em] at hr2;exact hr r hr2
 ·rw[e0 b hb] at hi2;exact ho i hi2
 ·rw[e0 b hb]
  rcases ht with⟨⟨h1,h2⟩|⟨h1,h2⟩,h3⟩
  ·exact⟨(0,1,0,0),by show shM t.Kind=_;rw[h1];rfl,⟨by dsimp only;omega,by dsimp only;omega⟩,by rw[h3];exact⟨Int.le_refl _,Int.le_refl _⟩⟩
  ·exact⟨(0,0,0,0),by show shM t.Kind=_;rw[h1];rfl,⟨by dsimp only;omega,by dsimp only;omega⟩,by rw[h3];exact⟨Int.le_refl _,Int.le_refl _⟩⟩
 ·rw[e0 b hb] at ht';rw[show(⟨[],l,t⟩:D.Block).Term.To=[] from ht.2] at ht';cases ht'
 ·have hb:b<1:=hb
  exact⟨1,by rw[show b=0 by omega];exact .zero (by omega)⟩
 ·rw[e0 b hb] at hp';cases hp'
 ·have hb0:b=0:=by have hb:b<1:=hb;omega
  rw[e0 b hb] at hk hv
  rcases hi k hk v hv with h1|h1
  ·exact .inl h1
  ·obtain⟨i,h2,h3,h4⟩:=pos_makes h1
   exact .inr ⟨0,i,⟨by show 0<1;omega,.inr ⟨i,h3,h4,rfl⟩⟩,.inl ⟨hb0.symm,.inl (by omega)⟩⟩
 ·have hb0:b=0:=by have hb:b<1:=hb;omega
  rw[e0 b hb] at hv ⊢
  rcases hu v hv with h1|h1
  ·exact .inl h1
  ·obtain⟨i,h2,h3,h4⟩:=pos_makes (k:=l.length) (by rw[List.take_length];exact h1)
   exact .inr ⟨0,i,⟨by show 0<1;omega,.inr ⟨i,h3,h4,rfl⟩⟩,.inl ⟨hb0.symm,.inl (by show(i:Int)<(l.length:Int);omega)⟩⟩
 ·rw[e0 b hb] at hp';cases hp'
theorem E23:Ent Tryz.prog 23:=⟨_,Tryz.func23,by kernel_rfl,by kernel_rfl⟩
theorem E29:Ent Tryz.prog 29:=⟨_,Tryz.func29,by kernel_rfl,by kernel_rfl⟩
theorem E46:Ent Tryz.prog 46:=⟨_,Tryz.func46,by kernel_rfl,by kernel_rfl⟩
def shI:List D.Ins:=[⟨14,2,0,[0,1],0⟩]
theorem sh4_good:GoodF (one3 2 shI (ret3 2)):=good_one (by decide) (by decide) (by decide) (by decide) (by decide) (by decide) (fun k hk v hv=>by have e:k=0:=(by have:k<1:=hk;omega);subst e;exact .inl (by have:v∈[(0:Int),1]:=hv;simp at this;omega)) (fun v hv => .inr (by have:v∈[(2:Int)]:=hv;simp at this;subst this;decide))
theorem sh4_law:((((((decide ((runF (one3 2 [⟨14,2,0,[0,1],0⟩] (ret3 2)) ⟨[7,2],[],[],5⟩).End=1))&&(decide ((runF (one3 2 [⟨14,2,0,[0,1],0⟩] (ret3 2)) ⟨[7,2],[],[],5⟩).Val=3)))&&(decide ((runF (one3 2 [⟨14,2,0,[0,1],0⟩] (ret3 2)) ⟨[7,2],[],[],5⟩).Steps=2)))&&(decide ((runF (one3 2 [⟨14,2,0,[0,1],0⟩] (ret3 2)) ⟨[7],[],[],5⟩).End=2)))&&(decide ((runF (one3 2 [⟨14,2,0,[0,1],0⟩] (ret3 2)) ⟨[7],[],[],5⟩).Val=(-1))))&&(decide ((runF (one3 2 [⟨14,2,0,[0,1],0⟩] (ret3 2)) ⟨[7],[],[],5⟩).Steps=1)))=true:=by decide +kernel
theorem ret4_ct(v:Int)(ww0:IntKind.i64.wrap v=v):Ts Tryz.prog 46 #[.int .i64 v] [] [] rTerm vTerm (ret3 v):=by
 refine jenter (args:=[.int .i64 v]) Tryz.func46 rfl rfl rfl fun w0 X=>?_
 refine jq (jr (jalc J60 Z fun g2=>jn (jx (jq (jr (jm Z (jlit (r:=(rI .i64)) (l:=[v]) U22 I3 (by decide) Z Z Z (lV Z Z (wI (wp ww0)) ln) fun g4=>js (jbu (v := .agg #[.int .i64 4,(.slice (some ⟨g4,0,none⟩) 1 1),.slice none 0 0,.int .i32 0]) Z (fun _=>by kernel_rfl)) (jsta k1 Z60 Z Z Z ⟨Z,Z,Z,Z,trivial⟩ (saf Z) (jn ?_)))))))))
 refine jx (jrt (qfz k1 (by(try simp)<;>omega) ?_))
 exact jrcA (val:=vTerm) (b:=⟨4,[v],[],0⟩) (c:=((.slice (some ⟨g4,0,none⟩) 1 1),.slice none 0 0)) Z Z k0 A60 Z60 Z (by rfl) (rTerm.M (m:=⟨4,[v],[],0⟩) (c:=((.slice (some ⟨g4,0,none⟩) 1 1),.slice none 0 0)) d0 wN (wl 4) (wl 0))
theorem one4_ct(p:Int){a1:Value}{l:List D.Ins}{a2a a2b:Value}{t:D.Term}(ww0:IntKind.i64.wrap p=p):Ts Tryz.prog 29 #[.int .i64 p,a1,vTerm t (a2a,a2b)] [dv (rL rIns) a1 l,da rTerm (vTerm t (a2a,a2b)) t] [] rFunc vFunc (one3 p l t):=by
 refine jenter (args:=[.int .i64 p,a1,vTerm t (a2a,a2b)]) Tryz.func29 rfl rfl rfl fun w0 X=>?_
 refine jq (jr (jbox Z Z fun g5=>jalc J49 Z fun g6=>jn (jx (jq (jr (jm Z (jm Z (js (jla k1 A60 Z60 Z Z Z) (jdq d0 fun q1 w1=>?_)))))))))
 refine jdq (rTerm.c_Args d1) fun q2 w2=>jdq (rTerm.c_To d1) fun q3 w3=>js (jbu (v := .agg #[.slice none 0 0,a1,.int .i64 t.Kind,a2a,a2b,.int .i32 t.Imm]) Z (fun _=>by obtain⟨_,_,_,rfl⟩:=w1;obtain⟨_,_,_,rfl⟩:=w2;obtain⟨_,_,_,rfl⟩:=w3;kernel_rfl)) (jlit (r:=rBlock) (l:=[⟨[],l,t⟩]) U47 I62 (by decide) Z Z Z (lA (rBlock.M (m:=⟨[],l,t⟩) (c:=(.slice none 0 0,a1,a2a,a2b)) wN d0 (rTerm.c_Args d1) (rTerm.c_To d1) (rTerm.W_Kind d1) (rTerm.W_Imm d1)) ln) fun g11=>js (jbu (v := .agg #[.int .i64 p,(.slice (some ⟨g11,0,none⟩) 1 1)]) Z (fun _=>by kernel_rfl)) (jsta k1 Z49 Z Z Z ⟨Z,Z,trivial⟩ (saf Z) (jn (jx (jrt (qfz k1 (by(try simp)<;>omega) ?_))))))
 exact jrcA (val:=vFunc) (b:=⟨p,[⟨[],l,t⟩]⟩) (c:=(.slice (some ⟨g11,0,none⟩) 1 1)) Z Z k0 A49 Z49 Z (by rfl) (rFunc.M (m:=⟨p,[⟨[],l,t⟩]⟩) (c:=(.slice (some ⟨g11,0,none⟩) 1 1)) d0 (wp ww0))
attribute [local irreducible] runF
end Go.Proofs.YtmfkkodnghambaaGreat
namespace Go.Proofs.YtmfkkodnghambaaGreat
open Go.JE
theorem sh4_goodX:true=true↔GoodF (one3 2 [⟨14,2,0,[0,1],0⟩] (ret3 2)):=⟨fun _=>sh4_good,fun _=>rfl⟩
attribute [local irreducible] runF
theorem shown4X_ct  : Tv Tryz.prog 19 #[] [] [] (.bool true):=by
 refine jenter (args:=[]) Tryz.func19 rfl rfl rfl fun w0 X=>?_
 refine jq (jr (ja Z (jn (jx (jq (jr (jlit (r:=(rI .i64)) (l:=[0,1]) U22 I3 (by decide) Z Z Z (lV Z Z (wI (wl 0)) (lV Z Z (wI (wl 1)) ln)) fun g4=>js (jbu (v := .agg #[.int .i64 14,.int .i64 2,.int .i64 0,(.slice (some ⟨g4,0,none⟩) 2 2),.int .i32 0]) Z (fun _=>by kernel_rfl)) (jfz k0 (by(try simp)<;>omega) (jlit (r:=rIns) (l:=[⟨14,2,0,[0,1],0⟩]) U58 I67 (by decide) Z Z Z (lA (rIns.M (m:=⟨14,2,0,[0,1],0⟩) (c:=(.slice (some ⟨g4,0,none⟩) 2 2)) d0 (wl 14) (wl 2) (wl 0) (wl 0)) ln) fun g6=>jcs2 E46 Z Z (ret4_ct 2 (by decide)) dn kn fun c7a c7b=>?_)))))))))
 refine jfz k0 (by(try simp)<;>omega) (jdq d0 fun q4 w4=>jcs E29 Z Z (one4_ct 2 (by decide)) (dc d0 (dc d1 dn)) kn fun c8=>jalc J49 Z fun g1=>jdq (rFunc.cB d0) fun q6 w6=>jsta k0 Z49 Z Z Z ⟨Z,w6.one,trivial⟩ (saf Z) (jn (jx (jq (jr (js (jla k0 A49 Z49 Z Z Z) (jlit (r:=(rI .i32)) (l:=[7,2]) U29 I21 (by decide) Z Z Z (lV Z Z (wI (wl 7)) (lV Z Z (wI (wl 2)) ln)) fun g10=>?_)))))))
 refine js (jbu (v := .agg #[(.slice (some ⟨g10,0,none⟩) 2 2),.slice none 0 0,.slice none 0 0,.int .i64 5]) Z (fun _=>by kernel_rfl)) (jfz k0 (by(try simp)<;>omega) (jcs2 E23 Z Z (rRunX_ct (i:=⟨[7,2],[],[],5⟩) true sh4_goodX (by decide)) (dc d1 (dc (rInput.M (m:=⟨[7,2],[],[],5⟩) (c:=((.slice (some ⟨g10,0,none⟩) 2 2),.slice none 0 0,.slice none 0 0)) d0 wN wN (wl 5)) dn)) kn fun c12a c12b=>jalc J37 Z fun g2=>jdq (rOutcome.c_Mem d0) fun q9 w9=>jdq (rOutcome.c_Calls d0) fun q10 w10=>jsta k0 Z37 Z Z Z ⟨Z,Z,w9.one,w10.one,Z,trivial⟩ (saf Z) (jn (jx (jq (jr (js (jla k1 A49 Z49 Z Z Z) ?_)))))))
 refine jlit (r:=(rI .i32)) (l:=[7]) U29 I21 (by decide) Z Z Z (lV Z Z (wI (wl 7)) ln) fun g14=>js (jbu (v := .agg #[(.slice (some ⟨g14,0,none⟩) 1 1),.slice none 0 0,.slice none 0 0,.int .i64 5]) Z (fun _=>by kernel_rfl)) (jfz k0 (by(try simp)<;>omega) (jcs2 E23 Z Z (rRunX_ct (i:=⟨[7],[],[],5⟩) true sh4_goodX (by decide)) (dc d3 (dc (rInput.M (m:=⟨[7],[],[],5⟩) (c:=((.slice (some ⟨g14,0,none⟩) 1 1),.slice none 0 0,.slice none 0 0)) d0 wN wN (wl 5)) dn)) kn fun c16a c16b=>jalc J37 Z fun g3=>jdq (rOutcome.c_Mem d0) fun q13 w13=>jdq (rOutcome.c_Calls d0) fun q14 w14=>jsta k0 Z37 Z Z Z ⟨Z,Z,w13.one,w14.one,Z,trivial⟩ (saf Z) (jn (jx (jq (jr ?_))))))
 refine js (jf F37_0 Z) (js (jl k1 O3 Z Z) (js (jeql Z Z) (jm Z (jg Z Z (.t _) (fun hg=>jf F37_1 Z) (jg Z Z (.t _) (fun hg=>jl k1 O21 (evg Z hg) Z) (jg Z Z (.t _) (fun hg=>jeql (evg Z hg) Z) (js (jand Z Z) (jm Z (jg Z Z (.t _) (fun hg=>jf F37_4 Z) (jg Z Z (.t _) (fun hg=>jl k1 O3 (evg Z hg) Z) (jg Z Z (.t _) (fun hg=>jeql (evg Z hg) Z) ?_)))))))))))
 refine js (jand Z Z) (jm Z (jg Z Z (.t _) (fun hg=>jf F37_0 Z) (jg Z Z (.t _) (fun hg=>jl k0 O3 (evg Z hg) Z) (jg Z Z (.t _) (fun hg=>jeql (evg Z hg) Z) (js (jand Z Z) (jm Z (jg Z Z (.t _) (fun hg=>jf F37_1 Z) (jg Z Z (.t _) (fun hg=>jl k0 O21 (evg Z hg) Z) (jg Z Z (.t _) (fun hg=>jeql (evg Z hg) Z) (js (jand Z Z) (jm Z ?_)))))))))))
 refine jg Z Z (.t _) (fun hg=>jf F37_4 Z) (jg Z Z (.t _) (fun hg=>jl k0 O3 (evg Z hg) Z) (jg Z Z (.t _) (fun hg=>jeql (evg Z hg) Z) (js (jand Z Z) (ja Z (jn (jx (jrt ?_)))))))
 exact jrB Z Z (sh4_law.symm)
theorem min_wr{a:Int}(h:IntKind.i64.wrap a=a):IntKind.i64.wrap (min a 300)=min a 300:=by
 rw[IntKind.wrap_i64] at h ⊢;omega
theorem few4_ct{a0a a0b a0c:Value}{i:D.Input}{N0:Nat}:Ts Tryz.prog 25 #[vInput i (a0a,a0b,a0c)] [da (rInputN N0) (vInput i (a0a,a0b,a0c)) i] [] rInput vInput (few4M i):=by
 refine jenter (args:=[vInput i (a0a,a0b,a0c)]) Tryz.func25 rfl rfl rfl fun w0 X=>?_
 refine cwr (rInput.W_Steps d0) fun w1=>jq (jr (jbox Z Z fun g1=>jalc J31 Z fun g2=>jn (jx (jq (jany true (.a 0 (.a 1 (.a 2 (.a 3 (.a 4 (.a 5 (.a 6 (.a 7 (.a 8 (.a 9 (.a 10 (.a 11 (.a 12 (.a 13 (.a 14 (.a 15 (.a 16 (.a 17 (.a 18 (.a 19 (.a 20 (.a 21 (.a 22 (.a 23 (.a 24 (.o 25 .e)))))))))))))))))))))))))) Mixed (by kernel_rfl) (kc k1 kn) fun F2=>jy Z (jf F31_0 Z) (jy Z (jl k0 O29 Z Z) (jy Z (jf F31_0 Z) ?_)))))))
 refine jy Z (jl k0 O29 Z Z) (adq (rInput.c_Args d0) fun q3 w3=>jy Z (jln U29 (rInput.c_Args d0) Z) (jy Z (jmin Z Z) (jy Z (jshi (hi:=(Int.toNat (min (↑(List.length i.Args)) 20))) U29 Z21 (rInput.c_Args d0) Z Z (by omega) (by omega)) (jy Z (jf F31_1 Z) (jy Z (jl k0 O29 Z Z) (jy Z (jf F31_1 Z) (jy Z (jl k0 O29 Z Z) (adq (rInput.c_Mem d0) fun q4 w4=>jy Z (jln U29 (rInput.c_Mem d0) Z) (jy Z (jmin Z Z) ?_)))))))))
 refine jy Z (jshi (hi:=(Int.toNat (min (↑(List.length i.Mem)) 20))) U29 Z21 (rInput.c_Mem d0) Z Z (by omega) (by omega)) (jy Z (jf F31_2 Z) (jy Z (jl k0 O29 Z Z) (jy Z (jf F31_2 Z) (jy Z (jl k0 O29 Z Z) (adq (rInput.c_Answers d0) fun q5 w5=>jy Z (jln U29 (rInput.c_Answers d0) Z) (jy Z (jmin Z Z) (jy Z (jshi (hi:=(Int.toNat (min (↑(List.length i.Answers)) 20))) U29 Z21 (rInput.c_Answers d0) Z Z (by omega) (by omega)) (jy Z (jf F31_3 Z) (jy Z (jl k0 O3 Z Z) (jy Z (jmin Z Z) ?_))))))))))
 refine jy Z (jbu (v := .agg #[(resl 1 a0a 0 (Int.toNat (min (↑(List.length i.Args)) 20))),(resl 1 a0b 0 (Int.toNat (min (↑(List.length i.Mem)) 20))),(resl 1 a0c 0 (Int.toNat (min (↑(List.length i.Answers)) 20))),.int .i64 (min i.Steps 300)]) Z (fun _=>by obtain⟨_,_,_,rfl⟩:=w3;obtain⟨_,_,_,rfl⟩:=w4;obtain⟨_,_,_,rfl⟩:=w5;kernel_rfl)) (jyo Z (jdq (dhi (rInput.c_Args d1) (Int.toNat (min (↑(List.length i.Args)) 20)) (by omega) (by omega)) fun q7 w7=>jdq (dhi (rInput.c_Mem d1) (Int.toNat (min (↑(List.length i.Mem)) 20)) (by omega) (by omega)) fun q8 w8=>jdq (dhi (rInput.c_Answers d1) (Int.toNat (min (↑(List.length i.Answers)) 20)) (by omega) (by omega)) fun q9 w9=>jsta k0 Z31 Z Z Z ⟨w7.one,w8.one,w9.one,Z,trivial⟩ (saf Z) (jyz d0 (jyd (jx (jrt ?_))))))
 exact jrcA (val:=vInput) (b:=⟨List.take (Int.toNat (min (↑(List.length i.Args)) 20)) i.Args,List.take (Int.toNat (min (↑(List.length i.Mem)) 20)) i.Mem,List.take (Int.toNat (min (↑(List.length i.Answers)) 20)) i.Answers,min i.Steps 300⟩) (c:=((resl 1 a0a 0 (Int.toNat (min (↑(List.length i.Args)) 20))),(resl 1 a0b 0 (Int.toNat (min (↑(List.length i.Mem)) 20))),(resl 1 a0c 0 (Int.toNat (min (↑(List.length i.Answers)) 20))))) Z Z k0 A31 Z31 Z (by rfl) (rInput.M (m:=⟨List.take (Int.toNat (min (↑(List.length i.Args)) 20)) i.Args,List.take (Int.toNat (min (↑(List.length i.Mem)) 20)) i.Mem,List.take (Int.toNat (min (↑(List.length i.Answers)) 20)) i.Answers,min i.Steps 300⟩) (c:=((resl 1 a0a 0 (Int.toNat (min (↑(List.length i.Args)) 20))),(resl 1 a0b 0 (Int.toNat (min (↑(List.length i.Mem)) 20))),(resl 1 a0c 0 (Int.toNat (min (↑(List.length i.Answers)) 20))))) (dhi (rInput.c_Args d1) (Int.toNat (min (↑(List.length i.Args)) 20)) (by omega) (by omega)) (dhi (rInput.c_Mem d1) (Int.toNat (min (↑(List.length i.Mem)) 20)) (by omega) (by omega)) (dhi (rInput.c_Answers d1) (Int.toNat (min (↑(List.length i.Answers)) 20)) (by omega) (by omega)) (wp (min_wr w1)))
end Go.Proofs.YtmfkkodnghambaaGreat
namespace Go.Proofs.YtmfkkodnghambaaGreat
open Go.JE
theorem E19:Ent Tryz.prog 19:=⟨_,Tryz.func19,by kernel_rfl,by kernel_rfl⟩
theorem E22:Ent Tryz.prog 22:=⟨_,Tryz.func22,by kernel_rfl,by kernel_rfl⟩
theorem E24:Ent Tryz.prog 24:=⟨_,Tryz.func24,by kernel_rfl,by kernel_rfl⟩
theorem E25:Ent Tryz.prog 25:=⟨_,Tryz.func25,by kernel_rfl,by kernel_rfl⟩
set_option maxRecDepth 8000
attribute [local irreducible] runF runR
set_option maxHeartbeats 4000000 in
theorem interpRaw_ct{a0:Value}{f:D.Func}{N0:Nat}{a1a a1b a1c:Value}{i:D.Input}{N1:Nat}:Tv Tryz.prog 5 #[vFunc f a0,vInput i (a1a,a1b,a1c)] [da (rFuncN N0) (vFunc f a0) f,da (rInputN N1) (vInput i (a1a,a1b,a1c)) i] [] (.bool true):=by
 refine jenter (args:=[vFunc f a0,vInput i (a1a,a1b,a1c)]) Tryz.func5 rfl rfl rfl fun w0 X=>?_
 refine jq (jr (jbox Z Z fun g2=>jbox Z Z fun g3=>ja Z (jn (jx (jq (jr (jcv E19 Z Z shown4X_ct dn kn (ja Z (jn ?_)))))))))
 refine jx (jq (jr (js (jf F49_0 Z) (js (jl k1 O3 Z Z) (js (jbu (v := .agg #[.int .i64 f.Params,.slice none 0 0]) Z (fun _=>by kernel_rfl)) (jalc J49 Z fun g6=>jsta k0 Z49 Z Z Z ⟨Z,Z,trivial⟩ (saf Z) (jn (jx (jq (jq ?_))))))))))
 refine jr (ja Z (jn (jx (jb (cnl (r:=rBlock) (E:=62) ?_)))))
 refine jlp (u3 fun(k:Nat) (gb:List D.Block) (vo:Value)=>⟨k≤5∧gb.length≤k,[da (rFuncN N0) (vFunc f a0) f,da (rInputN N1) (vInput i (a1a,a1b,a1c)) i],[gl X.n rBlock 62 vo gb,bx g6 49 [.int .i64 f.Params,vo],bx g3 31 [a1a,a1b,a1c,.int .i64 i.Steps],bx g2 49 [.int .i64 f.Params,a0]],[(2,.pointer (some ⟨g2,0,none⟩)),(3,.pointer (some ⟨g3,0,none⟩)),(4,.bool false),(5,.bool true),(6,.pointer (some ⟨g6,0,none⟩)),(7,.int .i64 (↑k))],5-k⟩) (0,[],.slice none 0 0) ⟨by decide,Nat.le_refl _⟩ (dc d0 (dc d1 dn)) (kd (kd kn)) ⟨Z,Z,Z,Z,Z,eqI (by omega),trivial⟩ ?_
 rintro⟨k,gb,vo⟩;dsimp only[u3];rintro⟨hk,hgl⟩
 refine cgo k0 fun w1=>jq (jq (jr (jm Z (js (jf F49_1 Z) (js (jl k3 O47 Z Z) (jdq (rFunc.cB d0) fun q2 w2=>js (jln U47 (rFunc.cB d0) Z) (js (jlss Z Z) (jm Z (jg Z Z (.t _) (fun hg=>jmv Z) ?_)))))))))
 refine jg Z Z (.t _) (fun hg=>jlss (evg Z hg) Z) (js (jand Z Z) (jn (jx ?_)))
 refine jif Z (fun hc1=>?_) (fun hc1=>?_)
 refine jsk (jx (jq (jb (jq (jr (js (jf F49_1 Z) (js (jl k3 O47 Z Z) (jm Z (js (jix U47 Z62 (rFunc.cB d0) Z Z Z (by omega)) (jA4 sBlock (jlA (dix (rFunc.cB d0) k (by omega)) A62 Z62 Z) fun c33a c33b c33c c33d=>jalc J62 Z fun g8=>?_))))))))))
 refine jdq (rBlock.cP d0) fun q4 w4=>jdq (rBlock.cI d0) fun q5 w5=>jdq (rBlock.c_Term_Args d0) fun q6 w6=>jdq (rBlock.c_Term_To d0) fun q7 w7=>jsta k0 Z62 Z Z Z ⟨w4.one,w5.one,Z,w6.one,w7.one,Z,trivial⟩ (saf Z) (jn (jx (jq (jany false (.a 0 (.a 1 (.a 2 (.a 3 (.a 4 (.a 5 (.a 6 (.a 7 (.a 8 (.a 9 (.a 10 (.a 11 (.a 12 (.a 13 (.a 14 (.a 15 (.a 16 (.a 17 (.a 18 (.a 19 (.a 20 (.a 21 (.a 22 (.a 23 (.a 24 (.a 25 (.o 26 (.o 27 .e)))))))))))))))))))))))))))) Mixed (by kernel_rfl) (kc k0 kn) fun F8=>jy Z (jf F62_2 Z) (jy Z (jf F60_0 Z) (jy Z (jl k0 O3 Z Z) ?_))))))
 refine jy Z (jf F62_2 Z) (jy Z (jf F60_3 Z) (jy Z (jl k0 O21 Z Z) (jy Z (jf F62_2 Z) (jy Z (jf F60_1 Z) (jy Z (jl k0 O22 Z Z) (jy Z (jf F62_2 Z) (jy Z (jf F60_1 Z) (jy Z (jl k0 O22 Z Z) (jy Z (jln U22 (rBlock.c_Term_Args d0) Z) (jy Z (jmin Z Z) (jy Z (jshi (hi:=(Int.toNat (min (↑(List.length (((ix f.Blocks k).Term).Args))) 6))) U22 Z3 (rBlock.c_Term_Args d0) Z Z (by omega) (by omega)) ?_)))))))))))
 refine jy Z (jf F62_2 Z) (jy Z (jf F60_2 Z) (jy Z (jl k0 O22 Z Z) (jy Z (jf F62_2 Z) (jy Z (jf F60_2 Z) (jy Z (jl k0 O22 Z Z) (jy Z (jln U22 (rBlock.c_Term_To d0) Z) (jy Z (jmin Z Z) (jy Z (jshi (hi:=(Int.toNat (min (↑(List.length (((ix f.Blocks k).Term).To))) 6))) U22 Z3 (rBlock.c_Term_To d0) Z Z (by omega) (by omega)) (jy Z (jbu (v := .agg #[.int .i64 (((ix f.Blocks k).Term).Kind),(resl 1 c33c 0 (Int.toNat (min (↑(List.length (((ix f.Blocks k).Term).Args))) 6))),(resl 1 c33d 0 (Int.toNat (min (↑(List.length (((ix f.Blocks k).Term).To))) 6))),.int .i32 (((ix f.Blocks k).Term).Imm)]) Z (fun _=>by obtain⟨_,_,_,rfl⟩:=w6;obtain⟨_,_,_,rfl⟩:=w7;kernel_rfl)) (jy Z (jbu (v := .agg #[.slice none 0 0,.slice none 0 0,.int .i64 (((ix f.Blocks k).Term).Kind),(resl 1 c33c 0 (Int.toNat (min (↑(List.length (((ix f.Blocks k).Term).Args))) 6))),(resl 1 c33d 0 (Int.toNat (min (↑(List.length (((ix f.Blocks k).Term).To))) 6))),.int .i32 (((ix f.Blocks k).Term).Imm)]) Z (fun _=>by obtain⟨_,_,_,rfl⟩:=w6;obtain⟨_,_,_,rfl⟩:=w7;kernel_rfl)) (jyo Z ?_)))))))))))
 refine jalc J62 Z fun g9=>jyn d0 (kc k1 kn) (jyo Z (jdq (dhi (rBlock.c_Term_Args d2) (Int.toNat (min (↑(List.length (((ix f.Blocks k).Term).Args))) 6)) (by omega) (by omega)) fun q11 w11=>jdq (dhi (rBlock.c_Term_To d2) (Int.toNat (min (↑(List.length (((ix f.Blocks k).Term).To))) 6)) (by omega) (by omega)) fun q12 w12=>jsta k0 Z62 Z Z Z ⟨Z,Z,Z,w11.one,w12.one,Z,trivial⟩ (saf Z) (jyn d0 (kc k1 kn) (jyd (jx (jq (jq (jr ?_))))))))
 refine ja Z (jn (jx (jb (cnl (r:=rPhi) (E:=65) ?_))))
 refine jlp (u3 fun(j:Nat) (ph:List D.Phi) (vp:Value)=>⟨j≤4∧ph.length≤j,[da (rBlockN N0) (vBlock (ix f.Blocks k) (c33a,c33b,c33c,c33d)) (ix f.Blocks k),da (rFuncN N0) (vFunc f a0) f,da (rInputN N1) (vInput i (a1a,a1b,a1c)) i],[gl X.n rPhi 65 vp ph,bx g9 62 [vp,.slice none 0 0,.int .i64 (((ix f.Blocks k).Term).Kind),(resl 1 c33c 0 (Int.toNat (min (↑(List.length (((ix f.Blocks k).Term).Args))) 6))),(resl 1 c33d 0 (Int.toNat (min (↑(List.length (((ix f.Blocks k).Term).To))) 6))),.int .i32 (((ix f.Blocks k).Term).Imm)],bx g8 62 [c33a,c33b,.int .i64 (((ix f.Blocks k).Term).Kind),c33c,c33d,.int .i32 (((ix f.Blocks k).Term).Imm)],gl X.n rBlock 62 vo gb,bx g6 49 [.int .i64 f.Params,vo],bx g3 31 [a1a,a1b,a1c,.int .i64 i.Steps],bx g2 49 [.int .i64 f.Params,a0]],[(2,.pointer (some ⟨g2,0,none⟩)),(3,.pointer (some ⟨g3,0,none⟩)),(4,.bool false),(5,.bool true),(6,.pointer (some ⟨g6,0,none⟩)),(7,.int .i64 (↑k)),(8,.pointer (some ⟨g8,0,none⟩)),(9,.pointer (some ⟨g9,0,none⟩)),(10,.int .i64 (↑j))],4-j⟩) (0,[],.slice none 0 0) ⟨by decide,Nat.le_refl _⟩ (dc d2 (dc d3 (dc d4 dn))) (kd (kd (kd (kc k0 kn)))) ⟨Z,Z,Z,Z,Z,Z,Z,Z,eqI (by omega),trivial⟩ ?_
 rintro⟨j,ph,vp⟩;dsimp only[u3];rintro⟨hj,hpl⟩
 refine cgo k0 fun w13=>jq (jq (jr (jm Z (js (jf F62_0 Z) (js (jl k2 O57 Z Z) (js (jln U57 (rBlock.cP d0) Z) (js (jlss Z Z) (jm Z (jg Z Z (.t _) (fun hg=>jmv Z) (jg Z Z (.t _) (fun hg=>jlss (evg Z hg) Z) ?_))))))))))
 refine js (jand Z Z) (jn (jx ?_))
 refine jif Z (fun hc2=>?_) (fun hc2=>?_)
 refine jsk (jx (jq (jb (jany true (.a 0 (.a 1 (.a 2 (.a 3 (.a 4 (.a 5 (.a 6 (.a 7 (.a 8 (.a 9 (.a 10 (.a 11 (.a 12 (.a 13 (.a 14 (.a 15 (.a 16 (.a 17 (.a 18 (.a 19 (.a 20 (.a 21 (.a 22 (.a 23 (.o 24 (.o 25 (.a 26 (.o 27 .e)))))))))))))))))))))))))))) Mixed (by kernel_rfl) (kc k1 (kc k1 kn)) fun F14=>jy Z (jf F62_0 Z) (jy Z (jl k0 O57 Z Z) (jy Z (jf F62_0 Z) (jy Z (jl k1 O57 Z Z) (jy Z (jmv Z) (jy Z (jix U57 Z65 (rBlock.cP d0) Z Z Z (by omega)) (jy Z (jf F65_0 Z) ?_))))))))))
 refine jy Z (jlI (rPhi.A_Dst (dix (rBlock.cP d0) j (by omega))) O3 Z) (awr (wad (rPhi.A_Dst (dix (rBlock.cP d0) j (by omega)))) fun w15=>jy Z (jf F62_0 Z) (jy Z (jl k1 O57 Z Z) (jy Z (jmv Z) (jy Z (jix U57 Z65 (rBlock.cP d0) Z Z Z (by omega)) (jy Z (jf F65_1 Z) (jye (q:=fun v=>dv (rLn N0 rIn) v ((ix ((ix f.Blocks k).Phis) j).In)) Z (xlV (rPhi.A_In (dix (rBlock.cP d0) j (by omega))) O63 Z Z) fun v84=>jy Z (jf F62_0 Z) (jy Z (jl k1 O57 Z Z) (jy Z (jmv Z) (jy Z (jix U57 Z65 (rBlock.cP d1) Z Z Z (by omega)) ?_)))))))))
 refine jy Z (jf F65_1 Z) (jye (q:=fun v=>dv (rLn N0 rIn) v ((ix ((ix f.Blocks k).Phis) j).In)) Z (xlV (rPhi.A_In (dix (rBlock.cP d1) j (by omega))) O63 Z Z) fun v90=>adq d0 fun q18 w18=>jy Z (jln U63 d0 Z) (jy Z (jmin Z Z) (adq d1 fun q19 w19=>jy Z (jshi (hi:=(Int.toNat (min (↑(List.length ((ix ((ix f.Blocks k).Phis) j).In))) 6))) U63 Z111 d1 Z Z (by omega) (by omega)) (jy Z (jbu (v := .agg #[.int .i64 ((ix ((ix f.Blocks k).Phis) j).Dst),(resl 2 v84 0 (Int.toNat (min (↑(List.length ((ix ((ix f.Blocks k).Phis) j).In))) 6)))]) Z (fun _=>by obtain⟨_,_,_,rfl⟩:=w19;kernel_rfl)) (jyo Z (jlit (r:=rPhi) (l:=[⟨(ix ((ix f.Blocks k).Phis) j).Dst,List.take (Int.toNat (min (↑(List.length ((ix ((ix f.Blocks k).Phis) j).In))) 6)) ((ix ((ix f.Blocks k).Phis) j).In)⟩]) U57 I65 (by decide) Z Z Z (lA (rPhi.M (m:=⟨(ix ((ix f.Blocks k).Phis) j).Dst,List.take (Int.toNat (min (↑(List.length ((ix ((ix f.Blocks k).Phis) j).In))) 6)) ((ix ((ix f.Blocks k).Phis) j).In)⟩) (c:=(resl 2 v84 0 (Int.toNat (min (↑(List.length ((ix ((ix f.Blocks k).Phis) j).In))) 6)))) (dhi d2 (Int.toNat (min (↑(List.length ((ix ((ix f.Blocks k).Phis) j).In))) 6)) (by omega) (by omega)) (wp w15)) ln) fun g95=>jyn d0 (kc k2 (kc k2 kn)) (jyo Z ?_)))))))
 refine jfz k0 (by(try simp)<;>omega) (japl U57 I65 (by decide) Z k0 Z Z d0 (by(try simp)<;>omega) fun v96 w23=>jyn d1 (kc k1 (kc k1 kn)) (jy Z (jf F62_0 Z) (jyo Z (jst k1 Z57 Z Z w23.one s0 (jyz d0 (jyd (jbn (jx (jr (jm Z ?_))))))))))
 refine js (jadd Z Z (by omega)) (ja Z (jn ?_))
 exact jag (j+1,ph++([⟨(ix ((ix f.Blocks k).Phis) j).Dst,List.take (Int.toNat (min (((List.length ((ix ((ix f.Blocks k).Phis) j).In):Nat):Int)) 6)) ((ix ((ix f.Blocks k).Phis) j).In)⟩]),v96) ⟨by dsimp only;omega,by dsimp only;rw[List.length_append];simp;omega⟩ (dc d6 (dc d7 (dc d8 dn))) (kc k1 (kd (kd (kd kn)))) ⟨Z,Z,Z,Z,Z,Z,Z,Z,eqI (by omega),trivial⟩
 refine jex (jtx (jtx (jbh (jx (jq (jq (jr (ja Z (jn (jx (jb ?_)))))))))))
 refine cnl (r:=rIns) (E:=67) ?_
 refine jlp (u3 fun(m:Nat) (is:List D.Ins) (vi:Value)=>⟨m≤6∧is.length≤m,[da (rBlockN N0) (vBlock (ix f.Blocks k) (c33a,c33b,c33c,c33d)) (ix f.Blocks k),da (rFuncN N0) (vFunc f a0) f,da (rInputN N1) (vInput i (a1a,a1b,a1c)) i],[gl X.n rIns 67 vi is,gl X.n rPhi 65 vp ph,bx g9 62 [vp,vi,.int .i64 (((ix f.Blocks k).Term).Kind),(resl 1 c33c 0 (Int.toNat (min (↑(List.length (((ix f.Blocks k).Term).Args))) 6))),(resl 1 c33d 0 (Int.toNat (min (↑(List.length (((ix f.Blocks k).Term).To))) 6))),.int .i32 (((ix f.Blocks k).Term).Imm)],bx g8 62 [c33a,c33b,.int .i64 (((ix f.Blocks k).Term).Kind),c33c,c33d,.int .i32 (((ix f.Blocks k).Term).Imm)],gl X.n rBlock 62 vo gb,bx g6 49 [.int .i64 f.Params,vo],bx g3 31 [a1a,a1b,a1c,.int .i64 i.Steps],bx g2 49 [.int .i64 f.Params,a0]],[(2,.pointer (some ⟨g2,0,none⟩)),(3,.pointer (some ⟨g3,0,none⟩)),(4,.bool false),(5,.bool true),(6,.pointer (some ⟨g6,0,none⟩)),(7,.int .i64 (↑k)),(8,.pointer (some ⟨g8,0,none⟩)),(9,.pointer (some ⟨g9,0,none⟩)),(11,.int .i64 (↑m))],6-m⟩) (0,[],.slice none 0 0) ⟨by decide,Nat.le_refl _⟩ (dc d0 (dc d1 (dc d2 dn))) (kd (kd (kd (kd kn)))) ⟨Z,Z,Z,Z,Z,Z,Z,Z,eqI (by omega),trivial⟩ ?_
 rintro⟨m,is,vi⟩;dsimp only[u3];rintro⟨hm,hil⟩
 refine cgo k0 fun w25=>jq (jq (jr (jm Z (js (jf F62_1 Z) (js (jl k3 O58 Z Z) (js (jln U58 (rBlock.cI d0) Z) (js (jlss Z Z) (jm Z (jg Z Z (.t _) (fun hg=>jmv Z) (jg Z Z (.t _) (fun hg=>jlss (evg Z hg) Z) ?_))))))))))
 refine js (jand Z Z) (jn (jx ?_))
 refine jif Z (fun hc3=>?_) (fun hc3=>?_)
 refine jsk (jx (jq (jb (jq (jr (js (jf F62_1 Z) (js (jl k3 O58 Z Z) (jm Z (js (jix U58 Z67 (rBlock.cI d0) Z Z Z (by omega)) (jA sIns (jlA (dix (rBlock.cI d0) m (by omega)) A67 Z67 Z) fun c113=>jalc J67 Z fun g12=>?_))))))))))
 refine jdq (rIns.c_Args d0) fun q27 w27=>jsta k0 Z67 Z Z Z ⟨Z,Z,Z,w27.one,Z,trivial⟩ (saf Z) (jn (jx (jq (jr (js (jf F67_3 Z) (js (jl k0 O22 Z Z) (js (jf F67_3 Z) (js (jl k0 O22 Z Z) (js (jln U22 (rIns.c_Args d0) Z) (js (jmin Z Z) ?_))))))))))
 refine js (jshi (hi:=(Int.toNat (min (↑(List.length ((ix ((ix f.Blocks k).Ins) m).Args))) 6))) U22 Z3 (rIns.c_Args d0) Z Z (by omega) (by omega)) (js (jf F67_3 Z) (jdq (dhi (rIns.c_Args d0) (Int.toNat (min (↑(List.length ((ix ((ix f.Blocks k).Ins) m).Args))) 6)) (by omega) (by omega)) fun q28 w28=>jst k0 Z22 Z Z w28.one s3 (jn (jx (jr (js (jf F62_1 Z) (js (jl k3 O58 Z Z) (js (jla k0 A67 Z67 Z Z Z) (jap U58 I67 (by decide) Z k1 Z (rIns.M (m:=⟨(ix ((ix f.Blocks k).Ins) m).Op,(ix ((ix f.Blocks k).Ins) m).Dst,(ix ((ix f.Blocks k).Ins) m).Two,List.take (Int.toNat (min (↑(List.length ((ix ((ix f.Blocks k).Ins) m).Args))) 6)) ((ix ((ix f.Blocks k).Ins) m).Args),(ix ((ix f.Blocks k).Ins) m).Imm⟩) (c:=(resl 1 c113 0 (Int.toNat (min (↑(List.length ((ix ((ix f.Blocks k).Ins) m).Args))) 6)))) (dhi (rIns.c_Args d0) (Int.toNat (min (↑(List.length ((ix ((ix f.Blocks k).Ins) m).Args))) 6)) (by omega) (by omega)) (rIns.W_Op (m:=ix ((ix f.Blocks k).Ins) m) d0) (rIns.W_Dst (m:=ix ((ix f.Blocks k).Ins) m) d0) (rIns.W_Two (m:=ix ((ix f.Blocks k).Ins) m) d0) (rIns.W_Imm (m:=ix ((ix f.Blocks k).Ins) m) d0)) (by omega) (fun _=>Z) fun v126 _ w29=>js (jf F62_1 Z) ?_)))))))))
 refine jst k3 Z58 Z Z w29.one s1 (jn (jbn (jx (jr (jm Z (js (jadd Z Z (by omega)) (ja Z (jn ?_))))))))
 exact jag (m+1,is++[⟨(ix ((ix f.Blocks k).Ins) m).Op,(ix ((ix f.Blocks k).Ins) m).Dst,(ix ((ix f.Blocks k).Ins) m).Two,List.take (Int.toNat (min (((List.length ((ix ((ix f.Blocks k).Ins) m).Args):Nat):Int)) 6)) ((ix ((ix f.Blocks k).Ins) m).Args),(ix ((ix f.Blocks k).Ins) m).Imm⟩],v126) ⟨by dsimp only;omega,by dsimp only;rw[List.length_append];simp;omega⟩ (dc d1 (dc d2 (dc d3 dn))) (kc k1 (kc k2 (kc k0 (kc k1 (kc k1 (kc k1 (kc k1 (kc k1 kn)))))))) ⟨Z,Z,Z,Z,Z,Z,Z,Z,eqI (by omega),trivial⟩
 refine jex (jtx (jtx (jbh (jx (cfz k1 (by omega) (cfz k0 (by omega) (jr (js (jf F49_1 Z) (js (jl k3 O47 Z Z) (js (jla k0 A62 Z62 Z Z Z) (jap U47 I62 (by decide) Z k2 Z (rBlock.M (m:=⟨ph,is,⟨((ix f.Blocks k).Term).Kind,List.take (Int.toNat (min (↑(List.length (((ix f.Blocks k).Term).Args))) 6)) (((ix f.Blocks k).Term).Args),List.take (Int.toNat (min (↑(List.length (((ix f.Blocks k).Term).To))) 6)) (((ix f.Blocks k).Term).To),((ix f.Blocks k).Term).Imm⟩⟩) (c:=(vp,vi,(resl 1 c33c 0 (Int.toNat (min (↑(List.length (((ix f.Blocks k).Term).Args))) 6))),(resl 1 c33d 0 (Int.toNat (min (↑(List.length (((ix f.Blocks k).Term).To))) 6))))) d1 d0 (dhi (rBlock.c_Term_Args d2) (Int.toNat (min (↑(List.length (((ix f.Blocks k).Term).Args))) 6)) (by omega) (by omega)) (dhi (rBlock.c_Term_To d2) (Int.toNat (min (↑(List.length (((ix f.Blocks k).Term).To))) 6)) (by omega) (by omega)) (rBlock.W_Term_Kind (m:=ix f.Blocks k) d2) (rBlock.W_Term_Imm (m:=ix f.Blocks k) d2)) (by omega) (fun _=>Z) fun v132 _ w32=>?_)))))))))))
 refine js (jf F49_1 Z) (jst k3 Z47 Z Z w32.one s1 (jn (jbn (jx (jr (jm Z (js (jadd Z Z (by omega)) (ja Z (jn ?_)))))))))
 exact jag (k+1,gb++[⟨ph,is,⟨((ix f.Blocks k).Term).Kind,List.take (Int.toNat (min (((List.length (((ix f.Blocks k).Term).Args):Nat):Int)) 6)) (((ix f.Blocks k).Term).Args),List.take (Int.toNat (min (((List.length (((ix f.Blocks k).Term).To):Nat):Int)) 6)) (((ix f.Blocks k).Term).To),((ix f.Blocks k).Term).Imm⟩⟩],v132) ⟨by dsimp only;omega,by dsimp only;rw[List.length_append];simp;omega⟩ (dc d3 (dc d4 dn)) (kc k1 (kc k0 (kc k2 (kc k2 kn)))) ⟨Z,Z,Z,Z,Z,eqI (by omega),trivial⟩
 refine jex (jtx (jtx (jbh (jx (jq (cfz k0 (by omega) ?_))))))
 obtain⟨r,hr⟩:=good_dec (⟨f.Params,gb⟩:D.Func)
 refine jany false (.a 0 (.a 1 (.w 2 4 (.w 3 4 (.o 4 (.o 5 .e)) (.o 3 (.o 5 .e))) (.o 2 (.o 3 (.o 5 .e)))))) Mixed (by kernel_rfl) (kd kn) fun F34=>jy Z (jla k0 A49 Z49 Z Z Z) (jy Z (jla k1 A31 Z31 Z Z Z) ?_)
 refine jyw Z Z ?_ ?_
 refine jcs3 E25 Z Z few4_ct (dc d3 dn) kn fun c136a c136b c136c=>jyn d1 (kd kn) ?_
 refine jyw Z Z ?_ ?_
 refine jcs2 E23 Z Z (rRunX_ct (a0:=vo) (f:=⟨f.Params,gb⟩) r hr (by show min i.Steps 300≤1000000;omega)) (dc (rFunc.M (m:=⟨f.Params,gb⟩) (c:=vo) d3 (rFunc.W_Params (m:=f) d4)) (dc d1 dn)) kn fun c137a c137b=>jyn d1 (kd kn) (jyo Z (jalc J37 Z fun g13=>jyn d0 (kc k1 (kc k1 kn)) (jyo Z (jdq (rOutcome.c_Mem d2) fun q41 w41=>jdq (rOutcome.c_Calls d2) fun q42 w42=>jsta k0 Z37 Z Z Z ⟨Z,Z,w41.one,w42.one,Z,trivial⟩ (saf Z) (jyn d0 (kc k1 (kc k1 kn)) (jyd (jx ?_)))))))
 refine jq (jany false (.a 0 (.a 1 (.a 2 (.a 3 (.a 4 (.o 5 (.o 6 (.o 7 (.a 8 (.a 9 (.a 10 (.a 11 (.a 12 (.a 13 (.o 14 (.a 15 (.a 16 (.a 17 (.a 18 .e))))))))))))))))))) Mixed (by kernel_rfl) (kd (kc k0 kn)) fun F43=>jy Z (jmv Z) (jy Z (jmv Z) (jyk Z Z Z (.t _) (jla k0 A37 Z37 Z Z Z) (jyk Z Z Z (.t _) (jla k1 A49 Z49 Z Z Z) (jyk Z Z Z (.t _) (jla k2 A31 Z31 Z Z Z) (jyo Z (jgk Z Z (.t _) (jcs3 E25 Z Z few4_ct (dc d9 dn) kn fun c143a c143b c143c=>jyn d1 (kd (kc k0 kn)) (jyo Z ?_)))))))))
 refine jgk Z Z (.t _) (jcs2 E24 Z Z (r4Run_ct (a0:=vo) (f:=⟨f.Params,gb⟩) r hr (by show min i.Steps 300≤1000000;omega)) (dc (rFunc.M (m:=⟨f.Params,gb⟩) (c:=vo) d9 (rFunc.W_Params (m:=f) d10)) (dc d1 dn)) kn fun c144a c144b=>jyn d1 (kd (kc k0 kn)) (jyo Z (jgk Z Z (.t _) (jcv E22 Z Z rAlike_ct (dc d7 (dc d1 dn)) kn (jyn d0 (kd (kc k0 kn)) (jy Z (jand Z Z) (jy Z (jmv Z) (jyg Z Z Z (.t _) (fun hg=>jf F37_0 Z) (jyg Z Z Z (.t _) (fun hg=>jl k0 O3 (evg Z hg) Z) (jyg Z Z Z (.t _) (fun hg=>jeql (evg Z hg) Z) ?_))))))))))
 refine jyg Z Z Z (.t _) (fun hg=>jla k1 A49 Z49 Z Z Z) (jyo Z (jgc Z Z (.t _) E26 Z (fun hg=>evl1 (evg Z hg)) (fun hg=>(kRightX_ct (a0:=vo) (f:=⟨f.Params,gb⟩) r hr)) (fun hg=>(dc (rFunc.M (m:=⟨f.Params,gb⟩) (c:=vo) d12 (rFunc.W_Params (m:=f) d13)) dn)) kn p0 (jyn d0 (kd (kc k0 kn)) (jyg Z Z Z (.t _) (fun hg=>jnot (evg Z hg)) (jyg Z Z Z (.t _) (fun hg=>jeqlB U4 (evg Z hg) (evg Z hg)) (jy Z (jand Z Z) (jy Z (jas Z) (jyd (jx (jrt ?_))))))))))
 exact jrB Z Z (raw_fin.symm)
 refine jalc J37 Z fun g13=>jyn d0 (kc k1 (kc k1 kn)) (jyo Z (jcs2 E23 Z Z (rRunX_ct (a0:=vo) (f:=⟨f.Params,gb⟩) r hr (by show min i.Steps 300≤1000000;omega)) (dc (rFunc.M (m:=⟨f.Params,gb⟩) (c:=vo) d4 (rFunc.W_Params (m:=f) d5)) (dc d2 dn)) kn fun c137a c137b=>jyn d1 (kc k1 (kc k1 kn)) (jyo Z (jdq (rOutcome.c_Mem d1) fun q41 w41=>jdq (rOutcome.c_Calls d1) fun q42 w42=>jsta k0 Z37 Z Z Z ⟨Z,Z,w41.one,w42.one,Z,trivial⟩ (saf Z) (jyn d0 (kc k1 (kc k1 kn)) (jyd (jx ?_)))))))
 refine jq (jany false (.a 0 (.a 1 (.a 2 (.a 3 (.a 4 (.o 5 (.o 6 (.o 7 (.a 8 (.a 9 (.a 10 (.a 11 (.a 12 (.a 13 (.o 14 (.a 15 (.a 16 (.a 17 (.a 18 .e))))))))))))))))))) Mixed (by kernel_rfl) (kd (kc k0 kn)) fun F43=>jy Z (jmv Z) (jy Z (jmv Z) (jyk Z Z Z (.t _) (jla k0 A37 Z37 Z Z Z) (jyk Z Z Z (.t _) (jla k1 A49 Z49 Z Z Z) (jyk Z Z Z (.t _) (jla k2 A31 Z31 Z Z Z) (jyo Z (jgk Z Z (.t _) (jcs3 E25 Z Z few4_ct (dc d9 dn) kn fun c143a c143b c143c=>jyn d1 (kd (kc k0 kn)) (jyo Z ?_)))))))))
 refine jgk Z Z (.t _) (jcs2 E24 Z Z (r4Run_ct (a0:=vo) (f:=⟨f.Params,gb⟩) r hr (by show min i.Steps 300≤1000000;omega)) (dc (rFunc.M (m:=⟨f.Params,gb⟩) (c:=vo) d9 (rFunc.W_Params (m:=f) d10)) (dc d1 dn)) kn fun c144a c144b=>jyn d1 (kd (kc k0 kn)) (jyo Z (jgk Z Z (.t _) (jcv E22 Z Z rAlike_ct (dc d6 (dc d1 dn)) kn (jyn d0 (kd (kc k0 kn)) (jy Z (jand Z Z) (jy Z (jmv Z) (jyg Z Z Z (.t _) (fun hg=>jf F37_0 Z) (jyg Z Z Z (.t _) (fun hg=>jl k0 O3 (evg Z hg) Z) (jyg Z Z Z (.t _) (fun hg=>jeql (evg Z hg) Z) ?_))))))))))
 refine jyg Z Z Z (.t _) (fun hg=>jla k1 A49 Z49 Z Z Z) (jyo Z (jgc Z Z (.t _) E26 Z (fun hg=>evl1 (evg Z hg)) (fun hg=>(kRightX_ct (a0:=vo) (f:=⟨f.Params,gb⟩) r hr)) (fun hg=>(dc (rFunc.M (m:=⟨f.Params,gb⟩) (c:=vo) d12 (rFunc.W_Params (m:=f) d13)) dn)) kn p0 (jyn d0 (kd (kc k0 kn)) (jyg Z Z Z (.t _) (fun hg=>jnot (evg Z hg)) (jyg Z Z Z (.t _) (fun hg=>jeqlB U4 (evg Z hg) (evg Z hg)) (jy Z (jand Z Z) (jy Z (jas Z) (jyd (jx (jrt ?_))))))))))
 exact jrB Z Z (raw_fin.symm)
 refine jalc J37 Z fun g13=>jyn d0 (kc k1 (kc k1 kn)) (jyo Z (jcs3 E25 Z Z few4_ct (dc d4 dn) kn fun c136a c136b c136c=>jyn d1 (kc k1 (kc k1 kn)) (jyo Z (jcs2 E23 Z Z (rRunX_ct (a0:=vo) (f:=⟨f.Params,gb⟩) r hr (by show min i.Steps 300≤1000000;omega)) (dc (rFunc.M (m:=⟨f.Params,gb⟩) (c:=vo) d4 (rFunc.W_Params (m:=f) d5)) (dc d1 dn)) kn fun c137a c137b=>jyn d1 (kc k1 (kc k1 kn)) (jyo Z (jdq (rOutcome.c_Mem d1) fun q41 w41=>jdq (rOutcome.c_Calls d1) fun q42 w42=>jsta k0 Z37 Z Z Z ⟨Z,Z,w41.one,w42.one,Z,trivial⟩ (saf Z) ?_))))))
 refine jyn d0 (kc k1 (kc k1 kn)) (jyd (jx (jq (jany false (.a 0 (.a 1 (.a 2 (.a 3 (.a 4 (.o 5 (.o 6 (.o 7 (.a 8 (.a 9 (.a 10 (.a 11 (.a 12 (.a 13 (.o 14 (.a 15 (.a 16 (.a 17 (.a 18 .e))))))))))))))))))) Mixed (by kernel_rfl) (kd (kc k0 kn)) fun F43=>jy Z (jmv Z) (jy Z (jmv Z) (jyk Z Z Z (.t _) (jla k0 A37 Z37 Z Z Z) (jyk Z Z Z (.t _) (jla k1 A49 Z49 Z Z Z) (jyk Z Z Z (.t _) (jla k2 A31 Z31 Z Z Z) (jyo Z (jgk Z Z (.t _) ?_))))))))))
 refine jcs3 E25 Z Z few4_ct (dc d9 dn) kn fun c143a c143b c143c=>jyn d1 (kd (kc k0 kn)) (jyo Z (jgk Z Z (.t _) (jcs2 E24 Z Z (r4Run_ct (a0:=vo) (f:=⟨f.Params,gb⟩) r hr (by show min i.Steps 300≤1000000;omega)) (dc (rFunc.M (m:=⟨f.Params,gb⟩) (c:=vo) d9 (rFunc.W_Params (m:=f) d10)) (dc d1 dn)) kn fun c144a c144b=>jyn d1 (kd (kc k0 kn)) (jyo Z (jgk Z Z (.t _) (jcv E22 Z Z rAlike_ct (dc d6 (dc d1 dn)) kn (jyn d0 (kd (kc k0 kn)) (jy Z (jand Z Z) (jy Z (jmv Z) ?_)))))))))
 refine jyg Z Z Z (.t _) (fun hg=>jf F37_0 Z) (jyg Z Z Z (.t _) (fun hg=>jl k0 O3 (evg Z hg) Z) (jyg Z Z Z (.t _) (fun hg=>jeql (evg Z hg) Z) (jyg Z Z Z (.t _) (fun hg=>jla k1 A49 Z49 Z Z Z) (jyo Z (jgc Z Z (.t _) E26 Z (fun hg=>evl1 (evg Z hg)) (fun hg=>(kRightX_ct (a0:=vo) (f:=⟨f.Params,gb⟩) r hr)) (fun hg=>(dc (rFunc.M (m:=⟨f.Params,gb⟩) (c:=vo) d12 (rFunc.W_Params (m:=f) d13)) dn)) kn p0 (jyn d0 (kd (kc k0 kn)) (jyg Z Z Z (.t _) (fun hg=>jnot (evg Z hg)) (jyg Z Z Z (.t _) (fun hg=>jeqlB U4 (evg Z hg) (evg Z hg)) (jy Z (jand Z Z) (jy Z (jas Z) (jyd ?_)))))))))))
 refine jx (jrt ?_)
 exact jrB Z Z (raw_fin.symm)
end Go.Proofs.YtmfkkodnghambaaGreat
