/- Lemmas that the claim is made of. Conditions: each lemma names its own. -/
import Derived.Test.YtmfkkodnghambaaGreatKL3
import Derived.Test.YtmfkkodnghambaaGreatKL2
import Derived.Test.YtmfkkodnghambaaGreatKL1
set_option linter.unusedSectionVars false
set_option linter.unusedSimpArgs false
set_option linter.unusedVariables false
namespace Go.Proofs.YtmfkkodnghambaaGreat
open Go.JE
theorem E104:Ent Tryz.prog 104:=⟨_,Tryz.func104,by kernel_rfl,by kernel_rfl⟩
theorem E157:Ent Tryz.prog 157:=⟨_,Tryz.func157,by kernel_rfl,by kernel_rfl⟩
theorem E158:Ent Tryz.prog 158:=⟨_,Tryz.func158,by kernel_rfl,by kernel_rfl⟩
theorem E159:Ent Tryz.prog 159:=⟨_,Tryz.func159,by kernel_rfl,by kernel_rfl⟩
theorem F165_0:Fld Tryz.prog 165 0 0:=⟨_,_,Tryz.underlying165,rfl,rfl,1,(by unfold Sz;kernel_rfl),by decide⟩
theorem G165_0:∃fs f,Tryz.prog.underlying 165=some (.struct fs)∧fs[0]? = some f∧f.offset=0∧f.type=89:=⟨_,_,Tryz.underlying165,rfl,rfl,rfl⟩
theorem O89:One Tryz.prog 89:=⟨_,Tryz.underlying89,rfl⟩
set_option maxRecDepth 8000
set_option maxHeartbeats 4000000 in
theorem r3func_ct{a0:Value}{f:D.Func}:Tr Tryz.prog 104 #[vFunc f a0] [da rFunc (vFunc f a0) f] [] (fun i:{ t:Int×Int×Int // t.1=0↔GoodF f } => .agg #[.int .i64 i.1.1,.int .i64 i.1.2.1,.int .i64 i.1.2.2]) (fun _=>[]) (fun _ _=>[]):=by
 refine jenter (args:=[vFunc f a0]) Tryz.func104 rfl rfl rfl fun w0 X=>?_
 refine jq (jr (jbox Z Z fun g1=>jalc J165 Z fun g2=>jn (jx (jq (jq (jr (js (jf F49_0 Z) (js (jl k1 O3 Z Z) (js (jlss Z Z) ?_)))))))))
 refine jm Z (jg Z Z (.f _) (fun hg=>jf F49_0 Z) (jg Z Z (.f _) (fun hg=>jl k1 O3 (evg Z hg) Z) (jg Z Z (.f _) (fun hg=>jgtr (evg Z hg) Z) (js (jor Z Z) (jn (jx ?_))))))
 refine jif Z (fun hc1=>?_) (fun hc1=>?_)
 refine jq (jr (js (jbu (v := .agg #[.int .i64 1,.int .i64 0,.int .i64 0]) Z (fun _=>by kernel_rfl)) (jsta k0 Z165 Z Z Z ⟨Z,Z,Z,trivial⟩ (saf Z) (jn (jx (jrt (jtr ?_)))))))
 exact jrc Z Z k0 A165 Z165 ⟨(1,0,0),⟨fun h=>absurd (show((1:Int))=0 from h) (by decide),fun h=>absurd h (fun h=>by have h9:=(good_R.1 h).1;have h8:=hc1;(try simp at h8);omega)⟩⟩ Z dn (fun _ _=>kn)
 have hp9:0≤f.Params∧f.Params≤4:=by have h9:=hc1;(try simp at h9);omega
 refine jsk (jx (jq (jq (jr (js (jf F49_1 Z) (js (jl k1 O47 Z Z) (jdq (rFunc.cB d0) fun q1 w1=>js (jln U47 (rFunc.cB d0) Z) (js (jeql Z Z) (jn (jx ?_))))))))))
 refine jif Z (fun hc2=>?_) (fun hc2=>?_)
 refine jq (jr (js (jbu (v := .agg #[.int .i64 14,.int .i64 0,.int .i64 0]) Z (fun _=>by kernel_rfl)) (jsta k0 Z165 Z Z Z ⟨Z,Z,Z,trivial⟩ (saf Z) (jn (jx (jrt (jtr ?_)))))))
 exact jrc Z Z k0 A165 Z165 ⟨(14,0,0),⟨fun h=>absurd (show((14:Int))=0 from h) (by decide),fun h=>absurd h (fun h=>by have h9:=(good_R.1 h).2.1.1;omega)⟩⟩ Z dn (fun _ _=>kn)
 have hl9:0<f.Blocks.length:=by omega
 refine jsk (jx (jq (jr (js (jf F49_1 Z) (js (jl k1 O47 Z Z) (js (jln U47 (rFunc.cB d0) Z) (ja Z (jn (jx (jq (jq ?_)))))))))))
 refine jr (ja Z (jn (jx (jb ?_))))
 refine jlp (u2 fun(k:Nat) (s:Int)=>⟨k≤f.Blocks.length∧s=((f.Blocks.length+cntF3 (f.Blocks.take k):Nat):Int)∧cntF3 (f.Blocks.take k)≤k*2147483648,[da rFunc (vFunc f a0) f],[bx g2 165 [.int .i64 0,.int .i64 0,.int .i64 0],bx g1 49 [.int .i64 f.Params,a0]],[(1,.pointer (some ⟨g1,0,none⟩)),(2,.pointer (some ⟨g2,0,none⟩)),(3,.int .i64 s),(4,.int .i64 (↑k))],f.Blocks.length-k⟩) (0,(f.Blocks.length:Int)) ⟨by dsimp only;omega,by dsimp only;simp[cntF3],by simp[cntF3]⟩ (dc d0 dn) (kd kn) ⟨Z,Z,eqI (by omega),eqI (by omega),trivial⟩ ?_
 rintro⟨k,s⟩;dsimp only[u2];rintro⟨hk,hs,hcn⟩
 refine jq (jq (jr (jm Z (js (jf F49_1 Z) (js (jl k1 O47 Z Z) (js (jln U47 (rFunc.cB d0) Z) (js (jlss Z Z) (jn (jx ?_)))))))))
 refine jif Z (fun hc3=>?_) (fun hc3=>?_)
 have hb9:=cntF3_nx (bs:=f.Blocks) (k:=k) (by omega)
 refine jsk (jx (jq (jb (jstl Mixed (by kernel_rfl) (jt (jmv Z) (jt (jf F49_1 Z) (jt (jl k1 O47 Z Z) (jt (jmv Z) (jt (jix U47 Z62 (rFunc.cB d0) Z Z Z (by omega)) (jt (jf F62_0 Z) (jtv (jlV (rBlock.A_Phis (dix (rFunc.cB d0) k (by omega))) O57 Z Z) fun v51 q2 w2=>?_)))))))))))
 refine jt (jln U57 d0 Z) (jt (jadd Z Z (by omega)) (jt (jf F49_1 Z) (jt (jl k1 O47 Z Z) (jt (jmv Z) (jt (jix U47 Z62 (rFunc.cB d1) Z Z Z (by omega)) (jt (jf F62_1 Z) (jtv (jlV (rBlock.A_Ins (dix (rFunc.cB d1) k (by omega))) O58 Z Z) fun v59 q4 w4=>jt (jln U58 d0 Z) (jt (jadd Z Z (by omega)) (jt (jas Z) (jdn ?_))))))))))
 refine jbn (jx (jr (jm Z (js (jadd Z Z (by omega)) (ja Z (jn ?_))))))
 exact jag (k+1,(s+(((List.length ((ix f.Blocks k).Phis):Nat):Int)))+(((List.length ((ix f.Blocks k).Ins):Nat):Int))) ⟨by dsimp only;omega,by dsimp only;rw[hs,cntF3_nx (by omega)];omega,by dsimp only;omega⟩ (dc d2 dn) (kd kn) ⟨Z,Z,eqI (by omega),eqI (by omega),trivial⟩
 have hsn:s=((f.Blocks.length+cntF3 f.Blocks:Nat):Int):=by rw[hs,List.take_of_length_le (by omega)]
 refine jex (jtx (jtx (jbh (jx (jq (jq (jr (js (jf F49_1 Z) (js (jl k1 O47 Z Z) (js (jln U47 (rFunc.cB d0) Z) (js (jgtr Z Z) ?_)))))))))))
 refine jm Z (jg Z Z (.f _) (fun hg=>jmv Z) (jg Z Z (.f _) (fun hg=>jgtr (evg Z hg) Z) (js (jor Z Z) (jn (jx ?_)))))
 refine jif Z (fun hc4=>?_) (fun hc4=>?_)
 refine jq (jr (js (jbu (v := .agg #[.int .i64 2,.int .i64 0,.int .i64 0]) Z (fun _=>by kernel_rfl)) (jsta k0 Z165 Z Z Z ⟨Z,Z,Z,trivial⟩ (saf Z) (jn (jx (jrt (jtr ?_)))))))
 exact jrc Z Z k0 A165 Z165 ⟨(2,0,0),⟨fun h=>absurd (show((2:Int))=0 from h) (by decide),fun h=>absurd h (fun h=>by have h9:=(good_R.1 h).2.1.2;have h7:=(good_R.1 h).2.2.1;have h8:=hc4;rw[hsn] at h8;(try simp at h8);omega)⟩⟩ Z dn (fun _ _=>kn)
 have hm9:f.Blocks.length≤512∧f.Blocks.length+cntF3 f.Blocks≤4096:=by have h9:=hc4;rw[hsn] at h9;(try simp at h9);omega
 have hsz9:cntT f.Blocks<1000000000:=by rw[cntT_F];omega
 refine jsk (jx (jq (jr (js (jla k1 A49 Z49 Z Z Z) (jc E157 Z Z (r3shape_ct hp9.1 (by rw[cntT_F];omega)) (dc d0 dn) kn (fun _=>p0) (fun _=>p0) fun c72=>jalc J165 Z fun g5=>jsta k0 Z165 Z Z Z ⟨Z,Z,Z,trivial⟩ (saf Z) (jn (jx (jq (jq ?_)))))))))
 refine jr (js (jf F165_0 Z) (js (jl k0 O89 Z Z) (js (jneq Z Z) (jn (jx ?_)))))
 refine jif Z (fun hc5=>?_) (fun hc5=>?_)
 refine jq (jr (js (jla k0 A165 Z165 Z Z Z) (jsta k1 Z165 Z Z Z ⟨Z,Z,Z,trivial⟩ (saf Z) (jn (jx (jrt (jtr ?_)))))))
 exact jrc Z Z k0 A165 Z165 ⟨(c72.1.1,c72.1.2.1,c72.1.2.2),⟨fun h=>absurd h (by simpa using hc5),fun h=>absurd (c72.2.2 (good_R.1 h).2.2.2.1) (by simpa using hc5)⟩⟩ Z dn (fun _ _=>kn)
 have hS9:ShR f:=c72.2.1 (by simpa using hc5)
 have hrl9:=reach3_len f (-1)
 refine jsk (jx (jq (jr (js (jla k2 A49 Z49 Z Z Z) (jcg E65 Z Z (r3reach_ct (-1)) (dc d0 dn) kn fun v78 w6=>ja Z (jn (jx (jq (jr (jlit (r:=(rL rB)) (l:=[]) U130 I129 (by decide) Z Z Z ln fun g79=>?_))))))))))
 refine ja Z (jn (jx (jq (jq (jr (ja Z (jn (jx (jb ?_)))))))))
 refine jlp (fun(b1:Nat)=>⟨b1≤f.Blocks.length∧∀b,b<b1→ix (reach3 f (-1)) b=true,[da rFunc (vFunc f a0) f],[gl X.n (rL rB) 129 (.slice (some ⟨g79,0,none⟩) 0 0) ([]),gl X.n rB 4 v78 (reach3 f (-1)),bx g2 165 [.int .i64 0,.int .i64 0,.int .i64 0],bx g1 49 [.int .i64 f.Params,a0]],[(1,.pointer (some ⟨g1,0,none⟩)),(2,.pointer (some ⟨g2,0,none⟩)),(6,v78),(7,(.slice (some ⟨g79,0,none⟩) 0 0)),(8,.int .i64 (↑b1))],f.Blocks.length-b1⟩) 0 ⟨Nat.zero_le _,(fun n h=>absurd h (Nat.not_lt_zero _))⟩ (dc d0 dn) (kd (kc k1 (kc k1 kn))) ⟨Z,Z,Z,Z,eqI (by omega),trivial⟩ ?_
 rintro b1;dsimp only;rintro⟨hb1,hR9⟩
 refine jq (jq (jr (jm Z (js (jf F49_1 Z) (js (jl k3 O47 Z Z) (js (jln U47 (rFunc.cB d0) Z) (js (jlss Z Z) (jn (jx ?_)))))))))
 refine jif Z (fun hc6=>?_) (fun hc6=>?_)
 refine jsk (jx (jq (jb (jq (jr (jm Z (jm Z (js (jig U129 Z4 k1 Z Z Z (by omega)) (js (jgB k1 (by omega) O4 Z) (js (jnot Z) (jn ?_)))))))))))
 refine jx ?_
 refine jif Z (fun hc7=>?_) (fun hc7=>?_)
 refine jq (jr (jm Z (js (jbu (v := .agg #[.int .i64 15,.int .i64 (↑b1),.int .i64 0]) Z (fun _=>by kernel_rfl)) (jsta k2 Z165 Z Z Z ⟨Z,Z,Z,trivial⟩ (saf Z) (jn (jx (jrt (jbr (jtr (jtr (jbr ?_)))))))))))
 refine jtr ?_
 exact jrc Z Z k0 A165 Z165 ⟨(15,((b1:Nat):Int),0),⟨fun h=>absurd (show((15:Int))=0 from h) (by decide),fun h=>absurd h (fun h=>by have h9:=(good_R.1 h).2.2.2.2.1 b1 (by omega);rw[h9] at hc7;cases hc7)⟩⟩ Z dn (fun _ _=>kn)
 refine jsk (jbn (jx (jr (jm Z (js (jadd Z Z (by omega)) (ja Z (jn ?_)))))))
 exact jag (b1+1) ⟨by omega,lt_nx9 hR9 (by simpa using hc7)⟩ (dc d0 dn) (kd (kd kn)) ⟨Z,Z,Z,Z,eqI (by omega),trivial⟩
 refine jex (jtx (jtx (jbh (jx (jq (jq (jr (ja Z (jn (jx (jb ?_)))))))))))
 refine jlp (u3 fun(a:Nat) (va:Value) (aw:List (List Bool))=>⟨a≤f.Blocks.length∧aw=awayL f a,[da rFunc (vFunc f a0) f],[gl X.n (rL rB) 129 va aw,bx g2 165 [.int .i64 0,.int .i64 0,.int .i64 0],bx g1 49 [.int .i64 f.Params,a0]],[(1,.pointer (some ⟨g1,0,none⟩)),(2,.pointer (some ⟨g2,0,none⟩)),(7,va),(9,.int .i64 (↑a))],f.Blocks.length-a⟩) (0,(.slice (some ⟨g79,0,none⟩) 0 0),[]) ⟨Nat.zero_le _,rfl⟩ (dc d0 dn) (kc k0 (kc k1 (kc k1 kn))) ⟨Z,Z,Z,eqI (by omega),trivial⟩ ?_
 rintro⟨a,va,aw⟩;dsimp only[u3];rintro⟨ha,haw⟩
 refine cgo k0 fun w7=>?_
 have hawl:aw.length=a:=by rw[haw,awayL_len]
 refine jq (jq (jr (jm Z (js (jf F49_1 Z) (js (jl k2 O47 Z Z) (js (jln U47 (rFunc.cB d0) Z) (js (jlss Z Z) (jn (jx ?_)))))))))
 refine jif Z (fun hc8=>?_) (fun hc8=>?_)
 refine jsk (jx (jq (jb (jr (jm Z (js (jla k2 A49 Z49 Z Z Z) (jm Z (jcg E65 Z Z (r3reach_ct ↑a) (dc d0 dn) kn fun v104 w8=>?_))))))))
 have hrla:=reach3_len f (a:Int)
 refine jfz k0 (by omega) (japv U130 I129 (by decide) Z Z k0 Z d0 (by omega) (fun _=>Z) fun v106 _ w10=>ja Z (jn (jbn (jx (jr (jm Z (js (jadd Z Z (by omega)) (ja Z (jn ?_)))))))))
 exact jag (a+1,v106,aw++[reach3 f ((a:Nat):Int)]) ⟨by dsimp only;omega,by dsimp only;rw[haw,awayL_s]⟩ (dc d1 dn) (kd (kc k0 kn)) ⟨Z,Z,Z,eqI (by omega),trivial⟩
 refine jex (jtx (jtx (jbh (jx (jq (jr (jfz k0 (by omega) ?_)))))))
 have haw9:aw=awayL f f.Blocks.length:=by rw[haw,show a=f.Blocks.length by omega]
 have hawl9:aw.length=f.Blocks.length:=by omega
 refine js (jla k1 A49 Z49 Z Z Z) (jcd E105 Z Z (r3things_ct (by omega)) (dc d1 dn) kn fun v108 q12 w12=>ja Z (jn (jx (jq (jr (jm Z (jcd E158 Z Z r3sites_ct (dc d0 dn) kn fun v110 q14 w14=>ja Z (jn (jx ?_)))))))))
 refine jq (jq (jr (ja Z (jn (jx (jb ?_))))))
 refine jlp (fun(i:Nat)=>⟨i≤(things3 f).length∧∀j,j<i→ThUs f (ix (things3 f) j),[dv (rL rTg3) v110 (sitesM (things3 f)),dv (rL rTg3) v108 (things3 f),dv (rL (rL rB)) va aw,da rFunc (vFunc f a0) f],[bx g2 165 [.int .i64 0,.int .i64 0,.int .i64 0],bx g1 49 [.int .i64 f.Params,a0]],[(1,.pointer (some ⟨g1,0,none⟩)),(2,.pointer (some ⟨g2,0,none⟩)),(7,va),(10,v108),(11,v110),(12,.int .i64 (↑i))],(things3 f).length-i⟩) 0 ⟨Nat.zero_le _,(fun n h=>absurd h (Nat.not_lt_zero _))⟩ (dc d0 (dc d1 (dc d2 (dc d3 dn)))) (kd kn) ⟨Z,Z,Z,Z,Z,eqI (by omega),trivial⟩ ?_
 rintro i;dsimp only;rintro⟨hi,hU9⟩
 refine jq (jq (jr (jm Z (jm Z (js (jln U167 d1 Z) (js (jlss Z Z) (jn (jx ?_))))))))
 refine jif Z (fun hc9=>?_) (fun hc9=>?_)
 have hta:=things_mem.1 (ix_mem (l:=things3 f) (i:=i) (by omega))
 have htr:=tat_rng hta
 refine jsk (jx (jq (jb (jq (jr (jm Z (jm Z (js (jix U167 Z170 d1 Z Z Z (by omega)) (jA2 sTg3 (jlA (dix d1 i (by omega)) A170 Z170 Z) fun c120a c120b=>jalc J170 Z fun g13=>jdq (rTg3.c_Makes d0) fun q17 w17=>?_)))))))))
 refine jdq (rTg3.c_Takes d0) fun q18 w18=>jsta k0 Z170 Z Z Z ⟨Z,Z,w17.one,w18.one,trivial⟩ (saf Z) (jn (jx (jq (jr (js (jf F49_1 Z) (js (jl k2 O47 Z Z) (js (jf F170_0 Z) (js (jl k0 O3 Z Z) (js (jix (i:=(Int.toNat ((ix (things3 f) i).Block))) U47 Z62 (rFunc.cB d4) Z Z (by omega) (by omega)) (jA4 sBlock (jlA (dix (rFunc.cB d4) (Int.toNat ((ix (things3 f) i).Block)) (by omega)) A62 Z62 Z) fun c126a c126b c126c c126d=>?_))))))))))
 refine jalc J62 Z fun g14=>jdq (rBlock.cP d0) fun q20 w20=>jdq (rBlock.cI d0) fun q21 w21=>jdq (rBlock.c_Term_Args d0) fun q22 w22=>jdq (rBlock.c_Term_To d0) fun q23 w23=>jsta k0 Z62 Z Z Z ⟨w20.one,w21.one,Z,w22.one,w23.one,Z,trivial⟩ (saf Z) (jn (jx (jq (jq (jr (js (jf F170_1 Z) ?_))))))
 refine js (jl k1 O3 Z Z) (js (jgeq Z Z) (jn (jx ?_)))
 refine jif Z (fun hc10=>?_) (fun hc10=>?_)
 refine jq (jq (jr (ja Z (jn (jx (jb ?_))))))
 refine jlp (fun(m5:Nat)=>⟨m5≤(ix (things3 f) i).Takes.length∧∀v∈(ix (things3 f) i).Takes.take m5,stG f v (ix (things3 f) i).Block (ix (things3 f) i).Place=true,[da rBlock (vBlock (ix f.Blocks (Int.toNat ((ix (things3 f) i).Block))) (c126a,c126b,c126c,c126d)) (ix f.Blocks (Int.toNat ((ix (things3 f) i).Block))),da rTg3 (vTg3 (ix (things3 f) i) (c120a,c120b)) (ix (things3 f) i),dv (rL rTg3) v110 (sitesM (things3 f)),dv (rL rTg3) v108 (things3 f),dv (rL (rL rB)) va aw,da rFunc (vFunc f a0) f],[bx g14 62 [c126a,c126b,.int .i64 (((ix f.Blocks (Int.toNat ((ix (things3 f) i).Block))).Term).Kind),c126c,c126d,.int .i32 (((ix f.Blocks (Int.toNat ((ix (things3 f) i).Block))).Term).Imm)],bx g13 170 [.int .i64 ((ix (things3 f) i).Block),.int .i64 ((ix (things3 f) i).Place),c120a,c120b],bx g2 165 [.int .i64 0,.int .i64 0,.int .i64 0],bx g1 49 [.int .i64 f.Params,a0]],[(1,.pointer (some ⟨g1,0,none⟩)),(2,.pointer (some ⟨g2,0,none⟩)),(7,va),(10,v108),(11,v110),(12,.int .i64 (↑i)),(13,.pointer (some ⟨g13,0,none⟩)),(14,.pointer (some ⟨g14,0,none⟩)),(15,.int .i64 (↑m5))],(ix (things3 f) i).Takes.length-m5⟩) 0 ⟨Nat.zero_le _,(fun n h=>by cases h)⟩ (dc d0 (dc d1 (dc d2 (dc d3 (dc d4 (dc d5 dn)))))) (kd (kd kn)) ⟨Z,Z,Z,Z,Z,Z,Z,Z,eqI (by omega),trivial⟩ ?_
 rintro m5;dsimp only;rintro⟨hm5x,hK9⟩
 refine jq (jq (jr (jm Z (js (jf F170_3 Z) (js (jl k1 O22 Z Z) (js (jln U22 (rTg3.c_Takes d1) Z) (js (jlss Z Z) (jn (jx ?_)))))))))
 refine jif Z (fun hc11=>?_) (fun hc11=>?_)
 refine jsk (jx (jq (jb (jq (jany false (.a 0 (.a 1 (.a 2 (.a 3 (.a 4 (.a 5 (.a 6 (.a 7 (.a 8 (.a 9 (.a 10 (.a 11 (.o 12 (.a 13 .e)))))))))))))) Mixed (by kernel_rfl) (kc k1 (kc k2 kn)) fun F24=>jy Z (jla k1 A49 Z49 Z Z Z) (jy Z (jmv Z) (jy Z (jmv Z) (jy Z (jf F170_3 Z) (jy Z (jl k0 O22 Z Z) (jy Z (jmv Z) ?_))))))))))
 refine jy Z (jix U22 Z3 (rTg3.c_Takes d1) Z Z Z (by omega)) (jy Z (jlI (dix (rTg3.c_Takes d1) m5 (by omega)) O3 Z) (jy Z (jf F170_0 Z) (jy Z (jl k0 O3 Z Z) (jy Z (jf F170_1 Z) (jy Z (jl k0 O3 Z Z) (jyo Z (jcv E159 Z Z (r3stands_ct (ix ((ix (things3 f) i).Takes) m5) ((ix (things3 f) i).Block) ((ix (things3 f) i).Place) (by omega) ⟨sites_len,fun k hk=>sites_rng hk⟩ ⟨hawl9,fun k hk=>by rw[haw9,awayL_ix f hk];exact reach3_len f _⟩) (dc d6 (dc d3 (dc d5 dn))) kn (jyn d0 (kc k1 (kc k2 kn)) (jy Z (jnot Z) (jyd (jx ?_)))))))))))
 refine jif Z (fun hc12=>?_) (fun hc12=>?_)
 refine jq (jr (js (jf F170_0 Z) (js (jl k1 O3 Z Z) (js (jf F170_1 Z) (js (jl k1 O3 Z Z) (js (jbu (v := .agg #[.int .i64 13,.int .i64 ((ix (things3 f) i).Block),.int .i64 ((ix (things3 f) i).Place)]) Z (fun _=>by kernel_rfl)) (jsta k2 Z165 Z Z Z ⟨Z,Z,Z,trivial⟩ (saf Z) (jn (jx (jrt (jbr ?_)))))))))))
 refine jtr (jtr (jbr (jtr (jtr (jbr (jtr (jtr (jbr (jtr ?_)))))))))
 exact jrc Z Z k0 A165 Z165 ⟨(13,(ix (things3 f) i).Block,(ix (things3 f) i).Place),⟨fun h=>absurd (show((13:Int))=0 from h) (by decide),fun h=>absurd h (fun h=>by have h9:=((good_R.1 h).2.2.2.2.2 _ (ix_mem (l:=things3 f) (i:=i) (by omega))).tk (by omega) _ (ix_mem (l:=(ix (things3 f) i).Takes) (i:=m5) (by omega));unfold stG at h9;have h8:=hc12;rw[haw9] at h8;(first|(rw[h9] at h8;cases h8;done)|(simp[h9] at h8;done)|(simp[h8] at h9;done)))⟩⟩ Z dn (fun _ _=>kn)
 refine jsk (jbn (jx (jr (jm Z (js (jadd Z Z (by omega)) (ja Z (jn ?_)))))))
 exact jag (m5+1) ⟨by omega,all_nx9 (by omega) hK9 (by have h9:=hc12;rw[haw9] at h9;unfold stG;first|exact h9|simpa using h9)⟩ (dc d1 (dc d2 (dc d3 (dc d4 (dc d5 (dc d6 dn)))))) (kd (kd kn)) ⟨Z,Z,Z,Z,Z,Z,Z,Z,eqI (by omega),trivial⟩
 refine jex (jtx (jtx (jbh (jx (jex (jtx (jbh (jx (jr (jm Z (js (jadd Z Z (by omega)) ?_)))))))))))
 refine ja Z (jn ?_)
 exact jag (i+1) ⟨by omega,lt_nx9 hU9 ⟨fun _=>all_end9 hK9 (by omega),fun h=>by omega,fun h=>by omega⟩⟩ (dc d2 (dc d3 (dc d4 (dc d5 dn)))) (kc k2 (kc k2 kn)) ⟨Z,Z,Z,Z,Z,eqI (by omega),trivial⟩
 have htp:=tat_phi hta (by omega)
 have htp2:=tat_phi2 hta (by omega)
 have htn:tIn f (ix (things3 f) i)=(ix (ix f.Blocks (Int.toNat (ix (things3 f) i).Block)).Phis (Int.toNat (-1-(ix (things3 f) i).Place))).In:=rfl
 have hpl9:=preds3_len f (ix (things3 f) i).Block
 refine jsk (jx (jq (jr (js (jf F62_0 Z) (js (jl k0 O57 Z Z) (js (jf F170_1 Z) (js (jl k1 O3 Z Z) (js (jsub Z Z (by omega)) (js (jix (i:=(Int.toNat ((-1)-((ix (things3 f) i).Place)))) U57 Z65 (rBlock.cP d0) Z Z (by omega) (by omega)) (js (jf F65_1 Z) (jev (jlV (rPhi.A_In (dix (rBlock.cP d0) (Int.toNat ((-1)-((ix (things3 f) i).Place))) (by omega))) O63 Z Z) fun v163 q26 w26=>?_)))))))))))
 refine ja Z (jn (jx (jq (jr (js (jla k3 A49 Z49 Z Z Z) (js (jf F170_0 Z) (js (jl k1 O3 Z Z) (jcg E63 Z Z (r3preds_ct ((ix (things3 f) i).Block)) (dc d6 dn) kn fun v167 w28=>ja Z (jn (jx ?_))))))))))
 refine jq (jr (js (jf F170_0 Z) (js (jl k2 O3 Z Z) (js (jgtr Z Z) (jm Z (jg Z Z (.t _) (fun hg=>jmv Z) (jg Z Z (.t _) (fun hg=>jln U63 d0 (evg Z hg)) (jg Z Z (.t _) (fun hg=>jmv Z) (jg Z Z (.t _) (fun hg=>jlg U22 k0 (evg Z hg)) (jg Z Z (.t _) (fun hg=>jeql (evg Z hg) (evg Z hg)) (js (jand Z Z) ?_)))))))))))
 refine ja Z (jn (jx (jq (jq (jr (ja Z (jn (jx (jb ?_)))))))))
 refine jlp (u2 fun(m6:Nat) (ft:Bool)=>⟨m6≤(pd3 f (ix (things3 f) i).Block).length∧(ft=true↔FitR f (ix (things3 f) i) m6),[dv (rL rIn) v163 ((ix ((ix f.Blocks (Int.toNat ((ix (things3 f) i).Block))).Phis) (Int.toNat ((-1)-((ix (things3 f) i).Place)))).In),da rTg3 (vTg3 (ix (things3 f) i) (c120a,c120b)) (ix (things3 f) i),dv (rL rTg3) v110 (sitesM (things3 f)),dv (rL rTg3) v108 (things3 f),dv (rL (rL rB)) va aw,da rFunc (vFunc f a0) f],[gl X.n (rI .i64) 3 v167 (pd3 f ((ix (things3 f) i).Block)),bx g13 170 [.int .i64 ((ix (things3 f) i).Block),.int .i64 ((ix (things3 f) i).Place),c120a,c120b],bx g2 165 [.int .i64 0,.int .i64 0,.int .i64 0],bx g1 49 [.int .i64 f.Params,a0]],[(1,.pointer (some ⟨g1,0,none⟩)),(2,.pointer (some ⟨g2,0,none⟩)),(7,va),(10,v108),(11,v110),(12,.int .i64 (↑i)),(13,.pointer (some ⟨g13,0,none⟩)),(16,v163),(17,v167),(18,.bool ft),(19,.int .i64 (↑m6))],(pd3 f (ix (things3 f) i).Block).length-m6⟩) (0,(decide (0<(ix (things3 f) i).Block))&&(decide (((List.length ((ix ((ix f.Blocks (Int.toNat ((ix (things3 f) i).Block))).Phis) (Int.toNat ((-1)-((ix (things3 f) i).Place)))).In):Nat):Int)=((List.length (pd3 f ((ix (things3 f) i).Block)):Nat):Int)))) ⟨Nat.zero_le _,by dsimp only;unfold FitR tIn;simp;(try omega)⟩ (dc d0 (dc d2 (dc d3 (dc d4 (dc d5 (dc d6 dn)))))) (kc k0 (kc k1 (kc k1 (kc k1 kn)))) ⟨Z,Z,Z,Z,Z,Z,Z,Z,Z,Z,eqI (by omega),trivial⟩ ?_
 rintro⟨m6,ft⟩;dsimp only[u2];rintro⟨hm6x,hft⟩
 refine jq (jq (jr (jm Z (jm Z (jg Z Z (.t _) (fun hg=>jmv Z) (jg Z Z (.t _) (fun hg=>jmv Z) (jg Z Z (.t _) (fun hg=>jlg U22 k0 (evg Z hg)) (jg Z Z (.t _) (fun hg=>jlss (evg Z hg) (evg Z hg)) (js (jand Z Z) (jn (jx ?_)))))))))))
 refine jif Z (fun hc13=>?_) (fun hc13=>?_)
 have hc13b:=hc13
 (try simp only[Bool.and_eq_true,decide_eq_true_eq] at hc13b)
 have hfk:=(hft.1 hc13b.1).1.2
 rw[htn] at hfk
 refine jsk (jx (jq (jb (jstl Mixed (by kernel_rfl) (jt (jmv Z) (jt (jmv Z) (jt (jix U63 Z111 d0 Z Z Z (by omega)) (jt (jf F111_0 Z) (jt (jlI (rIn.A_From (dix d0 m6 (by omega))) O3 Z) (jt (jmv Z) (jt (jmv Z) ?_)))))))))))
 refine jt (jig U22 Z3 k0 Z Z Z (by omega)) (jt (jgI k0 (by omega) O3 Z) (jt (jeql Z Z) (jt (jas Z) (jdn (jbn (jx (jr (jm Z (js (jadd Z Z (by omega)) (ja Z (jn ?_)))))))))))
 exact jag (m6+1,decide ((ix ((ix ((ix f.Blocks (Int.toNat ((ix (things3 f) i).Block))).Phis) (Int.toNat ((-1)-((ix (things3 f) i).Place)))).In) m6).From=ix (pd3 f ((ix (things3 f) i).Block)) m6)) ⟨by dsimp only;omega,fitR_nx (hft.1 hc13b.1) (by unfold tIn;first|rfl|simp)⟩ (dc d0 (dc d1 (dc d2 (dc d3 (dc d4 (dc d5 dn)))))) (kd (kd kn)) ⟨Z,Z,Z,Z,Z,Z,Z,Z,Z,Z,eqI (by omega),trivial⟩
 refine jex (jtx (jtx (jbh (jx (jq (jq (jr (jm Z (js (jnot Z) (jn (jx ?_)))))))))))
 refine jif Z (fun hc14=>?_) (fun hc14=>?_)
 refine jq (jr (js (jf F170_0 Z) (js (jl k1 O3 Z Z) (js (jf F170_1 Z) (js (jl k1 O3 Z Z) (js (jbu (v := .agg #[.int .i64 16,.int .i64 ((ix (things3 f) i).Block),.int .i64 ((ix (things3 f) i).Place)]) Z (fun _=>by kernel_rfl)) (jsta k2 Z165 Z Z Z ⟨Z,Z,Z,trivial⟩ (saf Z) (jn (jx (jrt (jtr ?_)))))))))))
 refine jbr (jtr (jtr (jbr (jtr ?_))))
 exact jrc Z Z k0 A165 Z165 ⟨(16,(ix (things3 f) i).Block,(ix (things3 f) i).Place),⟨fun h=>absurd (show((16:Int))=0 from h) (by decide),fun h=>absurd h (fun h=>by have h9:=((good_R.1 h).2.2.2.2.2 _ (ix_mem (l:=things3 f) (i:=i) (by omega))).fr (by omega);have h8:=hft.2 (fitR_dn ((fitR_end (Nat.le_refl _)).2 h9) hm6x);simp[h8] at hc14)⟩⟩ Z dn (fun _ _=>kn)
 have hft1:ft=true:=by simpa using hc14
 have hke:(pd3 f (ix (things3 f) i).Block).length≤m6:=by have h9:=hc13;rw[hft1] at h9;(try simp at h9);omega
 have hfr9:=(fitR_end hke).1 (hft.1 hft1)
 refine jsk (jx (jq (jr (ja Z (jn (jx (jb ?_)))))))
 refine jlp (fun(j7:Nat)=>⟨j7≤(ix (ix f.Blocks (Int.toNat (ix (things3 f) i).Block)).Phis (Int.toNat (-1-(ix (things3 f) i).Place))).In.length∧∀x∈(ix (ix f.Blocks (Int.toNat (ix (things3 f) i).Block)).Phis (Int.toNat (-1-(ix (things3 f) i).Place))).In.take j7,stG f x.Val x.From (ix f.Blocks x.From.toNat).Ins.length=true,[dv (rL rIn) v163 ((ix ((ix f.Blocks (Int.toNat ((ix (things3 f) i).Block))).Phis) (Int.toNat ((-1)-((ix (things3 f) i).Place)))).In),da rTg3 (vTg3 (ix (things3 f) i) (c120a,c120b)) (ix (things3 f) i),dv (rL rTg3) v110 (sitesM (things3 f)),dv (rL rTg3) v108 (things3 f),dv (rL (rL rB)) va aw,da rFunc (vFunc f a0) f],[bx g13 170 [.int .i64 ((ix (things3 f) i).Block),.int .i64 ((ix (things3 f) i).Place),c120a,c120b],bx g2 165 [.int .i64 0,.int .i64 0,.int .i64 0],bx g1 49 [.int .i64 f.Params,a0]],[(1,.pointer (some ⟨g1,0,none⟩)),(2,.pointer (some ⟨g2,0,none⟩)),(7,va),(10,v108),(11,v110),(12,.int .i64 (↑i)),(13,.pointer (some ⟨g13,0,none⟩)),(16,v163),(20,.int .i64 (↑j7))],(ix (ix f.Blocks (Int.toNat (ix (things3 f) i).Block)).Phis (Int.toNat (-1-(ix (things3 f) i).Place))).In.length-j7⟩) 0 ⟨Nat.zero_le _,(fun n h=>by cases h)⟩ (dc d0 (dc d1 (dc d2 (dc d3 (dc d4 (dc d5 dn)))))) (kc k1 (kc k1 (kc k1 kn))) ⟨Z,Z,Z,Z,Z,Z,Z,Z,eqI (by omega),trivial⟩ ?_
 rintro j7;dsimp only;rintro⟨hj7,hP9⟩
 refine jq (jq (jr (jm Z (jm Z (js (jln U63 d0 Z) (js (jlss Z Z) (jn (jx ?_))))))))
 refine jif Z (fun hc15=>?_) (fun hc15=>?_)
 have hxr:=preds3_rg (f:=f) (x:=(ix (ix (ix f.Blocks (Int.toNat (ix (things3 f) i).Block)).Phis (Int.toNat (-1-(ix (things3 f) i).Place))).In j7).From) (by rw[←hfr9.2];exact List.mem_map.2 ⟨_,ix_mem (l:=(ix (ix f.Blocks (Int.toNat (ix (things3 f) i).Block)).Phis (Int.toNat (-1-(ix (things3 f) i).Place))).In) (i:=j7) (by omega),rfl⟩)
 refine jsk (jx (jq (jb (jq (jany false (.a 0 (.a 1 (.a 2 (.a 3 (.a 4 (.a 5 (.a 6 (.a 7 (.a 8 (.a 9 (.a 10 (.a 11 (.a 12 (.a 13 (.a 14 (.a 15 (.a 16 (.a 17 (.a 18 (.a 19 (.a 20 (.a 21 (.a 22 (.a 23 (.o 24 (.a 25 .e)))))))))))))))))))))))))) Mixed (by kernel_rfl) (kc k2 kn) fun F29=>jy Z (jla k0 A49 Z49 Z Z Z) (jy Z (jmv Z) (jy Z (jmv Z) (jy Z (jmv Z) (jy Z (jmv Z) (jy Z (jix U63 Z111 d0 Z Z Z (by omega)) ?_))))))))))
 refine jy Z (jf F111_1 Z) (jy Z (jlI (rIn.A_Val (dix d0 j7 (by omega))) O3 Z) (jy Z (jmv Z) (jy Z (jmv Z) (jy Z (jix U63 Z111 d0 Z Z Z (by omega)) (jy Z (jf F111_0 Z) (jy Z (jlI (rIn.A_From (dix d0 j7 (by omega))) O3 Z) (jy Z (jf F49_1 Z) (jy Z (jl k0 O47 Z Z) (jy Z (jmv Z) (jy Z (jmv Z) (jy Z (jix U63 Z111 d0 Z Z Z (by omega)) ?_)))))))))))
 refine jy Z (jf F111_0 Z) (jy Z (jlI (rIn.A_From (dix d0 j7 (by omega))) O3 Z) (jy Z (jix (i:=(Int.toNat ((ix ((ix ((ix f.Blocks (Int.toNat ((ix (things3 f) i).Block))).Phis) (Int.toNat ((-1)-((ix (things3 f) i).Place)))).In) j7).From))) U47 Z62 (rFunc.cB d5) Z Z (by omega) (by omega)) (jy Z (jf F62_1 Z) (jye (q:=fun v=>dv (rL rIns) v ((ix f.Blocks (Int.toNat ((ix ((ix ((ix f.Blocks (Int.toNat ((ix (things3 f) i).Block))).Phis) (Int.toNat ((-1)-((ix (things3 f) i).Place)))).In) j7).From))).Ins)) Z (xlV (rBlock.A_Ins (dix (rFunc.cB d5) (Int.toNat ((ix ((ix ((ix f.Blocks (Int.toNat ((ix (things3 f) i).Block))).Phis) (Int.toNat ((-1)-((ix (things3 f) i).Place)))).In) j7).From)) (by omega))) O58 Z Z) fun v232=>adq d0 fun q31 w31=>jy Z (jln U58 d0 Z) (jyo Z (jcv E159 Z Z (r3stands_ct _ _ _ (by omega) ⟨sites_len,fun k hk=>sites_rng hk⟩ ⟨hawl9,fun k hk=>by rw[haw9,awayL_ix f hk];exact reach3_len f _⟩) (dc d7 (dc d4 (dc d6 dn))) kn (jyn d0 (kc k2 kn) (jy Z (jnot Z) (jyd ?_)))))))))
 refine jx ?_
 refine jif Z (fun hc16=>?_) (fun hc16=>?_)
 refine jq (jr (js (jf F170_0 Z) (js (jl k0 O3 Z Z) (js (jf F170_1 Z) (js (jl k0 O3 Z Z) (js (jbu (v := .agg #[.int .i64 13,.int .i64 ((ix (things3 f) i).Block),.int .i64 ((ix (things3 f) i).Place)]) Z (fun _=>by kernel_rfl)) (jsta k1 Z165 Z Z Z ⟨Z,Z,Z,trivial⟩ (saf Z) (jn (jx (jrt (jbr ?_)))))))))))
 refine jtr (jtr (jbr (jbr (jtr (jtr (jbr (jtr ?_)))))))
 exact jrc Z Z k0 A165 Z165 ⟨(13,(ix (things3 f) i).Block,(ix (things3 f) i).Place),⟨fun h=>absurd (show((13:Int))=0 from h) (by decide),fun h=>absurd h (fun h=>by have h9:=((good_R.1 h).2.2.2.2.2 _ (ix_mem (l:=things3 f) (i:=i) (by omega))).up (by omega) _ (ix_mem (l:=(ix (ix f.Blocks (Int.toNat (ix (things3 f) i).Block)).Phis (Int.toNat (-1-(ix (things3 f) i).Place))).In) (i:=j7) (by omega));unfold stG at h9;have h8:=hc16;rw[haw9] at h8;(first|(rw[h9] at h8;cases h8;done)|(simp[h9] at h8;done)|(simp[h8] at h9;done)))⟩⟩ Z dn (fun _ _=>kn)
 refine jsk (jbn (jx (jr (jm Z (js (jadd Z Z (by omega)) (ja Z (jn ?_)))))))
 exact jag (j7+1) ⟨by omega,all_nx9 (by omega) hP9 (by have h9:=hc16;rw[haw9] at h9;unfold stG;first|exact h9|simpa using h9)⟩ (dc d2 (dc d3 (dc d4 (dc d5 (dc d6 (dc d7 dn)))))) (kd (kc k0 kn)) ⟨Z,Z,Z,Z,Z,Z,Z,Z,eqI (by omega),trivial⟩
 refine jex (jtx (jtx (jbh (jbn (jx (jr (jm Z (js (jadd Z Z (by omega)) (ja Z (jn ?_))))))))))
 exact jag (i+1) ⟨by omega,lt_nx9 hU9 ⟨fun h=>by omega,fun _=>hfr9,fun _=>all_end9 hP9 (by rw[htn];omega)⟩⟩ (dc d2 (dc d3 (dc d4 (dc d5 dn)))) (kc k1 (kc k1 kn)) ⟨Z,Z,Z,Z,Z,eqI (by omega),trivial⟩
 refine jex (jtx (jtx (jbh (jx (jq (jr (js (jbu (v := .agg #[.int .i64 0,.int .i64 0,.int .i64 0]) Z (fun _=>by kernel_rfl)) (jsta k0 Z165 Z Z Z ⟨Z,Z,Z,trivial⟩ (saf Z) (jn (jx (jrt ?_)))))))))))
 exact jrc Z Z k0 A165 Z165 ⟨(0,0,0),⟨fun _=>good_R.2 ⟨hp9,⟨hl9,by omega⟩,by omega,hS9,fun b hb=>hR9 b (by omega),all_ix (fun j hj=>hU9 j (by omega))⟩,fun _=>rfl⟩⟩ Z dn (fun _ _=>kn)
theorem r3right_ct{a0:Value}{f:D.Func}(r:Bool)(hr:r=true↔GoodF f):Tv Tryz.prog 52 #[vFunc f a0] [da rFunc (vFunc f a0) f] [] (.bool r):=by
 refine jenter (args:=[vFunc f a0]) Tryz.func52 rfl rfl rfl fun w0 X=>?_
 refine jq (jr (jbox Z Z fun g1=>ja Z (jn (jx (jq (jr (js (jla k0 A49 Z49 Z Z Z) (jc E104 Z Z r3func_ct (dc d0 dn) kn (fun _=>p0) (fun _=>p0) fun c4=>js (jfo G165_0 O89 Z Z) (js (jeql Z Z) ?_)))))))))
 refine ja Z (jn (jx (jrt ?_)))
 exact jrB Z Z (by have h9:=c4.2;cases r<;>simp_all)
end Go.Proofs.YtmfkkodnghambaaGreat
namespace Go.Proofs.YtmfkkodnghambaaGreat
open Go.JE
theorem E165:Ent Tryz.prog 165:=⟨_,Tryz.func165,by kernel_rfl,by kernel_rfl⟩
theorem E168:Ent Tryz.prog 168:=⟨_,Tryz.func168,by kernel_rfl,by kernel_rfl⟩
theorem E169:Ent Tryz.prog 169:=⟨_,Tryz.func169,by kernel_rfl,by kernel_rfl⟩
theorem E170:Ent Tryz.prog 170:=⟨_,Tryz.func170,by kernel_rfl,by kernel_rfl⟩
theorem F219_0:Fld Tryz.prog 219 0 0:=⟨_,_,Tryz.underlying219,rfl,rfl,1,(by unfold Sz;kernel_rfl),by decide⟩
theorem F219_1:Fld Tryz.prog 219 1 1:=⟨_,_,Tryz.underlying219,rfl,rfl,1,(by unfold Sz;kernel_rfl),by decide⟩
theorem O176:One Tryz.prog 176:=⟨_,Tryz.underlying176,rfl⟩
set_option maxRecDepth 4000
theorem kIndex_ct{a0:Value}{l:List Int}(v:Int):Tv Tryz.prog 176 #[a0,.int .i64 v] [dv (rL (rI .i64)) a0 l] [] (.int .i64 (idzM l v)):=by
 refine jenter (args:=[a0,.int .i64 v]) Tryz.func176 rfl rfl rfl fun w0 X=>?_
 refine jq (jr (ja Z (jn (jx (jq (jq (jr (jm Z (jdq d0 fun q1 w1=>js (jln U22 d0 Z) (jm Z ?_))))))))))
 refine jn (jx (jb ?_))
 refine jlp (fun(k:Nat)=>⟨k≤l.length∧idzM l v=idxA l v (l.length-k) k,[dv (rL (rI .i64)) a0 l],[],[(0,a0),(1,.int .i64 v),(7,.int .i64 (↑(List.length l))),(8,.int .i64 (↑k))],l.length-k⟩) 0 ⟨Nat.zero_le _,rfl⟩ (dc d0 dn) kn ⟨Z,Z,Z,eqI (by omega),trivial⟩ ?_
 rintro k;dsimp only;rintro⟨hk,hix⟩
 refine jq (jr (js (jlss Z Z) (jn (jx (jq ?_)))))
 refine jif Z (fun hc1=>?_) (fun hc1=>?_)
 refine jsk (jx (jq (jb (jq (jr (jm Z (ja Z (jn (jx (jq (jr ?_)))))))))))
 refine jm Z (jm Z (jm Z (js (jix U22 Z3 d0 Z Z Z (by omega)) (js (jlI (dix d0 k (by omega)) O3 Z) (js (jeql Z Z) (jn (jx ?_)))))))
 refine jif Z (fun hc2=>?_) (fun hc2=>?_)
 refine jq (jr (jm Z (ja Z (jn (jx (jrt (jbr (jtr (jtr (jbr (jtr ?_)))))))))))
 exact jrI Z Z (by first|(rw[hix];exact idxA_yes (by omega) hc2)|(rw[hix,show l.length-k=0 by omega];rfl))
 refine jsk (jbn (jx (jr (js (jadd Z Z (by omega)) (jm Z (jn ?_))))))
 exact jag (k+1) ⟨by omega,by rw[hix];exact idxA_no (by omega) hc2⟩ (dc d0 dn) kn ⟨Z,Z,Z,eqI (by omega),trivial⟩
 refine jex (jtx (jtx (jbh (jx (jq (jr (ja Z (jn (jx (jrt ?_))))))))))
 exact jrI Z Z (by first|(rw[hix];exact idxA_yes (by omega) hc2)|(rw[hix,show l.length-k=0 by omega];rfl))
theorem kContains_ct{a0:Value}{l:List Int}(v:Int):Tv Tryz.prog 138 #[a0,.int .i64 v] [dv (rL (rI .i64)) a0 l] [] (.bool (conM l v)):=by
 refine jenter (args:=[a0,.int .i64 v]) Tryz.func138 rfl rfl rfl fun w0 X=>?_
 refine jq (jr (ja Z (jn (jx (jq (jr (jm Z (jm Z (jdq d0 fun q1 w1=>jcv E176 Z Z (kIndex_ct v) (dc d0 dn) kn (js (jgeq Z Z) ?_))))))))))
 refine ja Z (jn (jx (jrt ?_)))
 exact jrB Z Z (by unfold conM;rfl)
end Go.Proofs.YtmfkkodnghambaaGreat
namespace Go.Proofs.YtmfkkodnghambaaGreat
open Go.JE
abbrev U20:=@Tryz.underlying20
theorem E112:Ent Tryz.prog 112:=⟨_,Tryz.func112,by kernel_rfl,by kernel_rfl⟩
theorem E115:Ent Tryz.prog 115:=⟨_,Tryz.func115,by kernel_rfl,by kernel_rfl⟩
theorem E116:Ent Tryz.prog 116:=⟨_,Tryz.func116,by kernel_rfl,by kernel_rfl⟩
theorem E59:Ent Tryz.prog 59:=⟨_,Tryz.func59,by kernel_rfl,by kernel_rfl⟩
theorem Z89:Sz Tryz.prog 89 1:=by unfold Sz;kernel_rfl
theorem J3:(Tryz.prog.info? 3).bind (·.zero)=some (.int .i64 0):=by kernel_rfl
theorem J89:(Tryz.prog.info? 89).bind (·.zero)=some (.int .i64 0):=by kernel_rfl
set_option maxRecDepth 4000
theorem recov_ct(g2 g3 g4:Nat)(w:World):CallsD Tryz.prog 112 #[.pointer (some ⟨g2,0,none⟩),.pointer (some ⟨g3,0,none⟩),.pointer (some ⟨g4,0,none⟩)] .returning w fun x u' w'=>u' = .returning∧∃v',x = .returned v'∧w'.os=w.os∧w'.tape=w.tape∧w'.output=w.output∧w'.heap=w.heap:=by
 refine(callsD_quiet (args:=[.pointer (some ⟨g2,0,none⟩),.pointer (some ⟨g3,0,none⟩),.pointer (some ⟨g4,0,none⟩)]) (R:=fun _ H'=>H'=w.heap) Tryz.func112 rfl rfl rfl rfl ?_)
 exact CF.block (CF.seq (CF.region (LF.step (OpOk.eqlIf U20 rfl) (LF.nil (PF.next (CF.cond rfl (fun _=>CF.region (LF.step (OpOk.assign rfl) (LF.nil (PF.blockNormal (PF.end0 rfl rfl))))) (fun h=>by cases h)))))))
end Go.Proofs.YtmfkkodnghambaaGreat
namespace Go.Proofs.YtmfkkodnghambaaGreat
open Go.JE
def phWl(fr:Int)(V:Int→Int)(l:List D.Phi)(nx:List (Int×Int)):List (Int×Int):=l.foldl (fun nx p=>upW nx p.Dst (V (ix p.In (Int.toNat (idxM p.In (isFrom fr)))).Val)) nx
def lkW(nx:List (Int×Int))(k:Int):Option Int:=(nx.find? (fun p=>p.1==k)).map (·.2)
def overW(nx:List (Int×Int))(V:Int→Int):Int→Int:=fun k=>(lkW nx k).getD (V k)
def phisV(fr:Int)(l:List D.Phi)(V:Int→Int):Int→Int:=overW (phWl fr V l []) V
theorem phWl_nx{fr:Int}{V:Int→Int}{l:List D.Phi}{nx:List (Int×Int)}{k:Nat}(h:k<l.length):phWl fr V (l.take (k+1)) nx=upW (phWl fr V (l.take k) nx) (ix l k).Dst (V (ix (ix l k).In (Int.toNat (idxM (ix l k).In (isFrom fr)))).Val):=by
 unfold phWl;rw[take_ix h,List.foldl_append];rfl
theorem upW_keys:∀(nx:List (Int×Int)) (k v:Int) (j:Int),j∈(upW nx k v).map (·.1)↔j=k∨j∈nx.map (·.1)
 | [],k,v,j=>by simp[upW]
 | p::r,k,v,j=>by
  unfold upW
  split
  ·rename_i h
   have h:p.1=k:=by simpa using h
   simp[h]
  ·have:=upW_keys r k v j
   simp only[List.map_cons,List.mem_cons,this]
   exact⟨fun h=>h.elim (fun h => .inr (.inl h)) (fun h=>h.elim .inl (fun h => .inr (.inr h))),fun h=>h.elim (fun h => .inr (.inl h)) (fun h=>h.elim .inl (fun h => .inr (.inr h)))⟩
theorem upW_nd:∀(nx:List (Int×Int)) (k v:Int),(nx.map (·.1)).Nodup→((upW nx k v).map (·.1)).Nodup
 | [],k,v,_=>by simp[upW]
 | p::r,k,v,h=>by
  rw[List.map_cons,List.nodup_cons] at h
  unfold upW
  split
  ·rename_i h1
   have h1:p.1=k:=by simpa using h1
   rw[List.map_cons,List.nodup_cons]
   exact⟨by rw[←h1];exact h.1,h.2⟩
  ·rename_i h1
   have h1:¬p.1=k:=by simpa using h1
   rw[List.map_cons,List.nodup_cons]
   exact⟨fun h2=>((upW_keys r k v p.1).1 h2).elim h1 h.1,upW_nd r k v h.2⟩
theorem lkW_up:∀(nx:List (Int×Int)) (k v j:Int),lkW (upW nx k v) j=if j=k then some v else lkW nx j
 | [],k,v,j=>by
  unfold upW lkW
  by_cases h:j=k
  ·simp[h]
  ·have:¬k=j:=fun e=>h e.symm
   simp[h,this]
 | p::r,k,v,j=>by
  have ih:=lkW_up r k v j
  unfold upW
  split
  ·rename_i h1
   have h1:p.1=k:=by simpa using h1
   unfold lkW at ih ⊢
   by_cases h:j=k
   ·simp[h]
   ·have h2:¬k=j:=fun e=>h e.symm
    have h3:¬p.1=j:=by rw[h1];exact h2
    simp[h,h2,h3]
  ·rename_i h1
   have h1:¬p.1=k:=by simpa using h1
   unfold lkW at ih ⊢
   rw[List.find?_cons,List.find?_cons]
   by_cases h:p.1=j
   ·have h2:(p.1==j)=true:=by simpa using h
    have h3:¬j=k:=by rw[←h];exact h1
    rw[h2,if_neg h3]
   ·have h2:(p.1==j)=false:=by simpa using h
    rw[h2];exact ih
theorem lkW_mem{nx:List (Int×Int)}(hn:(nx.map (·.1)).Nodup){k v:Int}(h:(k,v)∈nx):lkW nx k=some v:=by
 induction nx with
 | nil=>cases h
 | cons p r ih =>
  rw[List.map_cons,List.nodup_cons] at hn
  unfold lkW
  rw[List.find?_cons]
  rcases List.mem_cons.1 h with e|e
  ·subst e;simp
  ·have h1:¬p.1=k:=fun e1=>hn.1 (by rw[e1];exact List.mem_map.2 ⟨_,e,rfl⟩)
   rw[show(p.1==k)=false by simpa using h1]
   exact ih hn.2 e
theorem lkW_no{nx:List (Int×Int)}{k:Int}(h:k∉nx.map (·.1)):lkW nx k=none:=by
 unfold lkW
 rw[Option.map_eq_none_iff,List.find?_eq_none]
 intro p hp e
 exact h (List.mem_map.2 ⟨p,hp,by simpa using e⟩)
theorem phWl_nd{fr:Int}{V:Int→Int}:∀(l:List D.Phi) (nx:List (Int×Int)),(nx.map (·.1)).Nodup→((phWl fr V l nx).map (·.1)).Nodup
 | [],nx,h=>h
 | p::l,nx,h=>phWl_nd l _ (upW_nd _ _ _ h)
def partW(nx:List (Int×Int))(vis:List Int)(V:Int→Int):Int→Int:=fun k=>if k∈vis then (lkW nx k).getD (V k) else V k
theorem partW_nx{nx:List (Int×Int)}{vis:List Int}{V:Int→Int}{k v:Int}(hn:(nx.map (·.1)).Nodup)(h:(k,v)∈nx):setV (partW nx vis V) k v=partW nx (vis++[k]) V:=by
 funext j
 unfold setV partW
 by_cases e:j=k
 ·subst e
  rw[if_pos rfl,if_pos (by simp),lkW_mem hn h];rfl
 ·rw[if_neg e]
  by_cases h2:j∈vis
  ·rw[if_pos h2,if_pos (by simp[h2])]
  ·rw[if_neg h2,if_neg (by simp[h2,e])]
theorem partW_all{nx:List (Int×Int)}{vis:List Int}{V:Int→Int}(h:∀p∈nx,p.1∈vis):partW nx vis V=overW nx V:=by
 funext j
 unfold partW overW
 split
 ·rfl
 ·rename_i h1
  rw[lkW_no (fun h2=>by obtain⟨p,h3,h4⟩:=List.mem_map.1 h2;exact h1 (by rw[←h4];exact h p h3))];rfl
theorem visW_lt{nx:List (Int×Int)}{vis:List Int}{k v:Int}(hn:vis.Nodup)(hs:∀y∈vis,y∈nx.map (·.1))(h:(k,v)∈nx)(hk:k∉vis):vis.length<nx.length:=by
 have h1:(vis++[k]).Nodup:=List.nodup_append.2 ⟨hn,by simp,fun x hx y hy e=>by simp at hy;subst hy;subst e;exact hk hx⟩
 have h2:=sub_len (vis++[k]) (nx.map (·.1)) h1 (fun y hy=>by
  rcases List.mem_append.1 hy with h3|h3
  ·exact hs y h3
  ·simp at h3;subst h3;exact List.mem_map.2 ⟨_,h,rfl⟩)
 rw[List.length_append,List.length_map] at h2
 simp at h2;omega
theorem encW_wr{nx:List (Int×Int)}{fr:Int}{V:Int→Int}(hV:∀k,IntKind.i32.wrap (V k)=V k):∀(l:List D.Phi) (nx:List (Int×Int)),(∀p∈nx,IntKind.i32.wrap p.2=p.2)→∀p∈phWl fr V l nx,IntKind.i32.wrap p.2=p.2
 | [],nx,h=>h
 | q::l,nx,h=>encW_wr (nx:=nx) hV l _ (fun p hp=>by
  have:∀(nx:List (Int×Int)) (k v:Int),IntKind.i32.wrap v=v→(∀p∈nx,IntKind.i32.wrap p.2=p.2)→∀p∈upW nx k v,IntKind.i32.wrap p.2=p.2:=by
   intro nx k v hv
   induction nx with
   | nil=>intro _ p hp;simp[upW] at hp;subst hp;exact hv
   | cons a r ih =>
    intro h p hp
    unfold upW at hp
    split at hp
    ·rcases List.mem_cons.1 hp with e|e
     ·subst e;exact hv
     ·exact h p (by simp[e])
    ·rcases List.mem_cons.1 hp with e|e
     ·subst e;exact h _ (by simp)
     ·exact ih (fun p hp=>h p (by simp[hp])) p e
  exact this nx _ _ (hV _) h p hp)
def wT(t:D.Term)(V:Int→Int):List Int:=t.Args.map V++[0]
def termB(t:D.Term)(V:Int→Int):Int :=
 if t.Kind=1 then ix t.To 0
 else if t.Kind=2 then (if ix (wT t V) 0=0 then ix t.To 1 else ix t.To 0)
 else if t.Kind=3 then ix t.To (Int.toNat (min (IntKind.u32.wrap (ix (wT t V) 0)) ((t.To.length:Int)-1)))
 else 0
def termE(t:D.Term)(en:Int):Int:=if t.Kind=1∨t.Kind=2∨t.Kind=3 then en else if t.Kind=4 then 1 else 2
def termV(t:D.Term)(V:Int→Int)(va:Int):Int:=if t.Kind=1∨t.Kind=2∨t.Kind=3 then va else if t.Kind=4 then ix (wT t V) 0 else t.Imm
def aI(i:D.Ins)(V:Int→Int)(k:Nat):Int:=ix (i.Args.map V) k
def inzV(i:D.Ins)(V:Int→Int)(me an:List Int):Int→Int :=
 if i.Op=1 then setV V i.Dst i.Imm
 else if i.Op=15 then setV V i.Dst (loadM me (w32 (aI i V 0+i.Imm))).1
 else if i.Op=16 then V
 else if i.Op=17 then (if 0<an.length then setV (setV V i.Dst 0) i.Dst (ix an 0) else setV V i.Dst 0)
 else if i.Op=18 then setV (setV V i.Dst (wideM (aI i V 0) (aI i V 1)).1) i.Two (wideM (aI i V 0) (aI i V 1)).2
 else setV V i.Dst (doM i.Op (aI i V 0) (aI i V 1)).1
def inzT(i:D.Ins)(V:Int→Int)(me:List Int):Int:=if i.Op=15 then (if (loadM me (w32 (aI i V 0+i.Imm))).2=true then 0 else -2) else if i.Op=16 then (if storeOk me (w32 (aI i V 0+i.Imm)) (aI i V 1)=true then 0 else -2) else if i.Op=1∨i.Op=17∨i.Op=18 then 0 else if (doM i.Op (aI i V 0) (aI i V 1)).2=true then 0 else -1
def inzE(i:D.Ins)(V:Int→Int)(me:List Int)(en:Int):Int:=if inzT i V me=0 then en else 2
def inzX(i:D.Ins)(V:Int→Int)(me:List Int)(va:Int):Int:=if inzT i V me=0 then va else inzT i V me
def inzM(i:D.Ins)(V:Int→Int)(me:List Int):List Int:=if i.Op=16 then storeM me (w32 (aI i V 0+i.Imm)) (aI i V 1) else me
def inzC(i:D.Ins)(V:Int→Int)(cl:List D.Event):List D.Event:=if i.Op=17 then cl++[⟨i.Imm,i.Args.map V⟩] else cl
def inzA(i:D.Ins)(an:List Int):List Int:=if i.Op=17 then an.drop 1 else an
theorem shM_facts{t:D.Term}(h:∃s,shM t.Kind=some s∧(s.1≤(t.Args.length:Int)∧(t.Args.length:Int)≤s.2.1)∧(s.2.2.1≤(t.To.length:Int)∧(t.To.length:Int)≤s.2.2.2)) :
  (1≤t.Kind∧t.Kind≤5)∧(t.Kind=1→t.To.length=1∧t.Args.length=0)∧(t.Kind=2→t.To.length=2∧t.Args.length=1)∧(t.Kind=3→(2≤t.To.length∧t.To.length≤65)∧t.Args.length=1)∧t.Args.length≤1:=by
 obtain⟨s,h1,h2,h3⟩:=h
 unfold shM at h1
 repeat' split at h1
 all_goals first
  | (injection h1 with h1;subst h1;simp only at h2 h3;refine⟨by omega,?_,?_,?_,by omega⟩<;>intro<;>omega)
  | cases h1
theorem u32_nn(n:Int):0≤IntKind.u32.wrap n:=by rw[IntKind.wrap_u32];omega
theorem idx_from{l:List D.In}{fr:Int}(h:fr∈l.map (fun x=>x.From)):0≤idxM l (isFrom fr)∧idxM l (isFrom fr)<l.length:=by
 refine⟨?_,idx_lt l (isFrom fr)⟩
 unfold idxM
 cases h1:l.findIdx? (isFrom fr) with
 | some i=>exact Int.natCast_nonneg i
 | none =>
  rw[List.findIdx?_eq_none_iff] at h1
  obtain⟨x,h2,h3⟩:=List.mem_map.1 h
  have:=h1 x h2
  unfold isFrom at this
  simp at this
  exact absurd h3 this
theorem vis_nd9{vis:List Int}{k:Int}(h:vis.Nodup)(hk:k∉vis):(vis++[k]).Nodup:=List.nodup_append.2 ⟨h,by simp,fun x hx y hy e=>by simp at hy;subst hy;subst e;exact hk hx⟩
theorem oper_facts{i:D.Ins}(h:(1≤i.Op∧i.Op≤18)∧(operM i.Op).1≤(i.Args.length:Int)∧(i.Args.length:Int)≤(operM i.Op).2) :
  (i.Op=15→i.Args.length=1)∧(i.Op≠1→i.Op≠15→i.Op≠17→i.Args.length=2)∧i.Args.length≤4:=by
 obtain⟨h1,h2,h3⟩:=h
 by_cases e1:i.Op=1
 ·have e:operM i.Op=(0,0):=by unfold operM;rw[if_pos e1]
  rw[e] at h2 h3;simp only at h2 h3
  exact⟨fun h=>by omega,fun h=>absurd e1 h,by omega⟩
 by_cases e2:i.Op=15
 ·have e:operM i.Op=(1,1):=by unfold operM;rw[if_neg e1,if_pos e2]
  rw[e] at h2 h3;simp only at h2 h3
  exact⟨fun h=>by omega,fun _ h=>absurd e2 h,by omega⟩
 by_cases e3:i.Op=17
 ·have e:operM i.Op=(0,4):=by unfold operM;rw[if_neg e1,if_neg e2,if_pos e3]
  rw[e] at h2 h3;simp only at h2 h3
  exact⟨fun h=>by omega,fun _ _ h=>absurd e3 h,by omega⟩
 have e:operM i.Op=(2,2):=by unfold operM;rw[if_neg e1,if_neg e2,if_neg e3]
 rw[e] at h2 h3;simp only at h2 h3
 exact⟨fun h=>absurd h e2,fun _ _ _=>by omega,by omega⟩
def stE(en st ss:Int):Int:=if en=0∧ss≤st then 3 else en
def stV(en va st ss:Int):Int:=if en=0∧ss≤st then 0 else va
def stB(en st ss:Int):Bool:=decide (stE en st ss=0)
def stS(en st ss:Int):Int:=if stE en st ss=0 then st+1 else st
theorem stB_t{en st ss:Int}(h:stB en st ss=true):en=0∧st<ss∧stE en st ss=0∧stS en st ss=st+1:=by
 have h1:stE en st ss=0:=by simpa[stB] using h
 unfold stE at h1
 split at h1
 ·omega
 ·refine⟨h1,by omega,?_,?_⟩
  ·unfold stE;rw[if_neg (by assumption)];exact h1
  ·have e:stE en st ss=0:=by unfold stE;rw[if_neg (by assumption)];exact h1
   unfold stS;rw[if_pos e]
theorem stB_f{en st ss:Int}(h:stB en st ss=false):stE en st ss≠0∧stS en st ss=st:=by
 have h1:stE en st ss≠0:=by simpa[stB] using h
 exact⟨h1,by unfold stS;rw[if_neg h1]⟩
structure RSt where
 V:Int→Int
 en:Int
 va:Int
 me:List Int
 cl:List D.Event
 st:Int
 an:List Int
def stepF(N:Int)(s:RSt):RSt:={ s with en:=stE s.en s.st N,va:=stV s.en s.va s.st N,st:=stS s.en s.st N }
def stepOk(N:Int)(s:RSt):Bool:=stB s.en s.st N
def insF(i:D.Ins)(s:RSt):RSt:=⟨inzV i s.V s.me s.an,inzE i s.V s.me s.en,inzX i s.V s.me s.va,inzM i s.V s.me,inzC i s.V s.cl,s.st,inzA i s.an⟩
def lisF(N:Int):List D.Ins→RSt→RSt×Bool
 | [],s=>(s,true)
 | i::l,s=>if stepOk N s=true then lisF N l (insF i (stepF N s)) else (stepF N s,false)
def termF(t:D.Term)(s:RSt):RSt:={ s with en:=termE t s.en,va:=termV t s.V s.va }
def phisF(fr:Int)(l:List D.Phi)(s:RSt):RSt:={ s with V:=phisV fr l s.V }
def blocksF(bs:List D.Block)(N:Int):Nat→Int→Int→RSt→RSt
 | 0,_,_,s=>s
 | k+1,a,fr,s =>
  if (lisF N (ix bs (Int.toNat a)).Ins (phisF fr (ix bs (Int.toNat a)).Phis s)).2=true then
   (if stepOk N (lisF N (ix bs (Int.toNat a)).Ins (phisF fr (ix bs (Int.toNat a)).Phis s)).1=true then
    (if (termF (ix bs (Int.toNat a)).Term (stepF N (lisF N (ix bs (Int.toNat a)).Ins (phisF fr (ix bs (Int.toNat a)).Phis s)).1)).en=0 then
     blocksF bs N k (termB (ix bs (Int.toNat a)).Term (lisF N (ix bs (Int.toNat a)).Ins (phisF fr (ix bs (Int.toNat a)).Phis s)).1.V) a (termF (ix bs (Int.toNat a)).Term (stepF N (lisF N (ix bs (Int.toNat a)).Ins (phisF fr (ix bs (Int.toNat a)).Phis s)).1))
    else termF (ix bs (Int.toNat a)).Term (stepF N (lisF N (ix bs (Int.toNat a)).Ins (phisF fr (ix bs (Int.toNat a)).Phis s)).1))
   else stepF N (lisF N (ix bs (Int.toNat a)).Ins (phisF fr (ix bs (Int.toNat a)).Phis s)).1)
  else (lisF N (ix bs (Int.toNat a)).Ins (phisF fr (ix bs (Int.toNat a)).Phis s)).1
def outF(s:RSt):D.Outcome:=⟨s.en,s.va,s.me,s.cl,s.st⟩
def argsV(l:List Int):Nat→Int→Int
 | 0=>fun _=>0
 | k+1=>setV (argsV l k) k (ix l k)
def argsF(f:D.Func)(i:D.Input):List Int:=i.Args.take (Int.toNat (min (i.Args.length:Int) f.Params))
def startF(f:D.Func)(i:D.Input):RSt:=⟨argsV (argsF f i) (argsF f i).length,0,0,memM i,[],0,i.Answers⟩
def runF(f:D.Func)(i:D.Input):D.Outcome:=outF (blocksF f.Blocks i.Steps (Int.toNat i.Steps+1) 0 (-1) (startF f i))
section
variable{bs:List D.Block}{N a fr:Int}{k:Nat}{s s':RSt}
theorem blk_stop(h:lisF N (ix bs (Int.toNat a)).Ins (phisF fr (ix bs (Int.toNat a)).Phis s)=(s',false))(hk:0<k):blocksF bs N k a fr s=s':=by
 obtain⟨j,rfl⟩:∃j,k=j+1:=⟨k-1,by omega⟩
 rw[blocksF,h];simp
theorem blk_step(h:lisF N (ix bs (Int.toNat a)).Ins (phisF fr (ix bs (Int.toNat a)).Phis s)=(s',true))(h2:stepOk N s'=false)(hk:0<k):blocksF bs N k a fr s=stepF N s':=by
 obtain⟨j,rfl⟩:∃j,k=j+1:=⟨k-1,by omega⟩
 rw[blocksF,h];simp[h2]
theorem blk_end(h:lisF N (ix bs (Int.toNat a)).Ins (phisF fr (ix bs (Int.toNat a)).Phis s)=(s',true))(h2:stepOk N s'=true)(h3:¬(termF (ix bs (Int.toNat a)).Term (stepF N s')).en=0)(hk:0<k):blocksF bs N k a fr s=termF (ix bs (Int.toNat a)).Term (stepF N s'):=by
 obtain⟨j,rfl⟩:∃j,k=j+1:=⟨k-1,by omega⟩
 rw[blocksF,h];simp[h2,h3]
theorem blk_go(h:lisF N (ix bs (Int.toNat a)).Ins (phisF fr (ix bs (Int.toNat a)).Phis s)=(s',true))(h2:stepOk N s'=true)(h3:(termF (ix bs (Int.toNat a)).Term (stepF N s')).en=0)(hk:0<k):blocksF bs N k a fr s=blocksF bs N (k-1) (termB (ix bs (Int.toNat a)).Term s'.V) a (termF (ix bs (Int.toNat a)).Term (stepF N s')):=by
 obtain⟨j,rfl⟩:∃j,k=j+1:=⟨k-1,by omega⟩
 rw[blocksF,h];simp[h2,h3]
theorem lis_go{l:List D.Ins}{j:Nat}{R:RSt×Bool}(h:R=lisF N (l.drop j) s)(hj:j<l.length)(h2:stepOk N s=true):R=lisF N (l.drop (j+1)) (insF (ix l j) (stepF N s)):=by
 rw[h,drop_ix hj,lisF,if_pos h2]
theorem lis_stop{l:List D.Ins}{j:Nat}{R:RSt×Bool}(h:R=lisF N (l.drop j) s)(hj:j<l.length)(h2:stepOk N s=false):R=(stepF N s,false):=by
 rw[h,drop_ix hj,lisF,if_neg (by rw[h2];decide)]
theorem lis_end{l:List D.Ins}{j:Nat}{R:RSt×Bool}(h:R=lisF N (l.drop j) s)(hj:l.length≤j):R=(s,true):=by rw[h,List.drop_of_length_le hj,lisF]
end
theorem term_to{t:D.Term}{V:Int→Int}(h:∃s,shM t.Kind=some s∧(s.1≤(t.Args.length:Int)∧(t.Args.length:Int)≤s.2.1)∧(s.2.2.1≤(t.To.length:Int)∧(t.To.length:Int)≤s.2.2.2)){en:Int}(he:termE t en=0):termB t V∈t.To:=by
 obtain⟨h0,h1,h2,h3,h4⟩:=shM_facts h
 unfold termE at he
 split at he
 ·rename_i hk
  unfold termB
  rcases hk with hk|hk|hk
  ·have:=(h1 hk).1
   rw[if_pos hk];exact ix_mem (by omega)
  ·have:=(h2 hk).1
   rw[if_neg (by omega),if_pos hk]
   split
   ·exact ix_mem (by omega)
   ·exact ix_mem (by omega)
  ·have:=(h3 hk).1
   have hu:=u32_nn (ix (wT t V) 0)
   rw[if_neg (by omega),if_neg (by omega),if_pos hk]
   exact ix_mem (by omega)
 ·split at he<;>omega
theorem GoodF.phi_from{f:D.Func}(hG:GoodF f){b:Nat}(hb:b<f.Blocks.length){t:Int}(ht:t∈(ix f.Blocks b).Term.To):∀p∈(ix f.Blocks (Int.toNat t)).Phis,(b:Int)∈p.In.map (fun x=>x.From):=fun p hp=>by
 have h1:=hG.to b hb t ht
 have h2:=hG.fr (Int.toNat t) (by omega) p hp
 rw[h2.2,preds_pr]
 unfold prG
 have hc:ix (cleanM (graphF f)) b=keptM (ix f.Blocks b).Term.To f.Blocks.length:=by
  unfold cleanM;rw[ix_mapG (by rw[graph_len];exact hb),graph_len]
  unfold graphF;rw[ix_mapG hb,kept_kept]
 rw[hc,kept_mem]
 exact⟨by rw[Int.toNat_of_nonneg (by omega)];exact ht,by omega⟩
theorem GoodF.phi0{f:D.Func}(hG:GoodF f){fr:Int}:∀p∈(ix f.Blocks (Int.toNat 0)).Phis,fr∈p.In.map (fun x=>x.From):=fun p hp=>by
 have:=(hG.fr 0 hG.len.1 p hp).1
 omega
theorem inzM_len(i:D.Ins)(V:Int→Int)(me:List Int):(inzM i V me).length=me.length:=by
 unfold inzM;split
 ·exact storeM_len _ _ _
 ·rfl
theorem inzC_len(i:D.Ins)(V:Int→Int)(cl:List D.Event):(inzC i V cl).length≤cl.length+1:=by
 unfold inzC;split
 ·simp
 ·omega
theorem stE_rng{en st ss:Int}(h:0≤en∧en≤3):0≤stE en st ss∧stE en st ss≤3:=by unfold stE;split<;>omega
theorem stV_wr{en va st ss:Int}(h:IntKind.i32.wrap va=va):IntKind.i32.wrap (stV en va st ss)=stV en va st ss:=by unfold stV;split;decide;exact h
theorem termE_rng{t:D.Term}{en:Int}(h:0≤en∧en≤3):0≤termE t en∧termE t en≤3:=by unfold termE;split;exact h;split<;>omega
theorem inzE_rng{i:D.Ins}{V:Int→Int}{me:List Int}{en:Int}(h:0≤en∧en≤3):0≤inzE i V me en∧inzE i V me en≤3:=by unfold inzE;split;exact h;omega
theorem inzX_wr{i:D.Ins}{V:Int→Int}{me:List Int}{va:Int}(h:IntKind.i32.wrap va=va):IntKind.i32.wrap (inzX i V me va)=inzX i V me va:=by
 unfold inzX;split
 ·exact h
 ·unfold inzT
  repeat' split
  all_goals decide
theorem wT_wr{t:D.Term}{V:Int→Int}(hV:∀k,IntKind.i32.wrap (V k)=V k):IntKind.i32.wrap (ix (wT t V) 0)=ix (wT t V) 0:=by
 unfold wT
 cases h:t.Args with
 | nil=>rfl
 | cons a l=>rw[List.map_cons,List.cons_append,ix_zero];exact hV a
theorem termV_wr{t:D.Term}{V:Int→Int}{va:Int}(h:IntKind.i32.wrap va=va)(hV:∀k,IntKind.i32.wrap (V k)=V k)(hi:IntKind.i32.wrap t.Imm=t.Imm):IntKind.i32.wrap (termV t V va)=termV t V va:=by
 unfold termV;split
 ·exact h
 ·split
  ·exact wT_wr hV
  ·exact hi
theorem lis_go2{N:Int}{l:List D.Ins}{j:Nat}{R:RSt×Bool}{V:Int→Int}{en va st:Int}{me an:List Int}{cl:List D.Event}(h:R=lisF N (l.drop j) ⟨V,en,va,me,cl,st,an⟩)(hj:j<l.length)(h2:stepOk N ⟨V,en,va,me,cl,st,an⟩=true) :
  R=lisF N (l.drop (j+1)) ⟨inzV (ix l j) V me an,inzE (ix l j) V me (stE en st N),inzX (ix l j) V me (stV en va st N),inzM (ix l j) V me,inzC (ix l j) V cl,stS en st N,inzA (ix l j) an⟩:=by
 have h3:=lis_go h hj h2
 have e:insF (ix l j) (stepF N ⟨V,en,va,me,cl,st,an⟩)=⟨inzV (ix l j) V me an,inzE (ix l j) V me (stE en st N),inzX (ix l j) V me (stV en va st N),inzM (ix l j) V me,inzC (ix l j) V cl,stS en st N,inzA (ix l j) an⟩:=rfl
 rw[e] at h3;exact h3
theorem E101:Ent Tryz.prog 101:=⟨_,Tryz.func101,by kernel_rfl,by kernel_rfl⟩
theorem F115_1:Fld Tryz.prog 115 1 1:=⟨_,_,Tryz.underlying115,rfl,rfl,5,(by unfold Sz;kernel_rfl),by decide⟩
theorem F115_3:Fld Tryz.prog 115 3 7:=⟨_,_,Tryz.underlying115,rfl,rfl,1,(by unfold Sz;kernel_rfl),by decide⟩
set_option maxRecDepth 4000
theorem rEnd_ct{g0:Nat}{v0 m0 c0 a0:Value}{e0 x0 st0 ss0:Int}(kd:Int)(x:Int)(ov:v0.oneCell'=true)(om:m0.oneCell'=true)(oc:c0.oneCell'=true)(oa:a0.oneCell'=true):Tr Tryz.prog 101 #[.pointer (some ⟨g0,0,none⟩),.int .i64 kd,.int .i32 x] [] [bx g0 115 [v0,.int .i64 e0,.int .i32 x0,m0,c0,.int .i64 st0,a0,.int .i64 ss0]] (fun _:Unit => .tuple #[]) (fun _=>[]) (fun _ _=>[bx g0 115 [v0,.int .i64 kd,.int .i32 x,m0,c0,.int .i64 st0,a0,.int .i64 ss0]]):=by
 refine jenter (args:=[.pointer (some ⟨g0,0,none⟩),.int .i64 kd,.int .i32 x]) Tryz.func101 rfl rfl rfl fun w0 X=>?_
 refine jr (jm Z (jm Z (jm Z (jm Z (js (jnil Z) (js (jf F115_1 Z) (js (jf F37_0 Z) (jst k0 Z3 Z Z Z s1 (js (jnil Z) (js (jf F115_1 Z) (js (jf F37_1 Z) ?_)))))))))))
 refine jst k0 Z21 Z Z Z s2 (jn ?_)
 exact jd0 Z () Z dn (fun _ _=>(kc k0 kn))
theorem rStep_ct{g0:Nat}{v0 m0 c0 a0:Value}{e0 x0 st0 ss0:Int}(ov:v0.oneCell'=true)(om:m0.oneCell'=true)(oc:c0.oneCell'=true)(oa:a0.oneCell'=true)(hs9:0≤st0∧st0≤1000000000):Tr Tryz.prog 49 #[.pointer (some ⟨g0,0,none⟩)] [] [bx g0 115 [v0,.int .i64 e0,.int .i32 x0,m0,c0,.int .i64 st0,a0,.int .i64 ss0]] (fun _:Unit => .bool (stB e0 st0 ss0)) (fun _=>[]) (fun _ _=>[bx g0 115 [v0,.int .i64 (stE e0 st0 ss0),.int .i32 (stV e0 x0 st0 ss0),m0,c0,.int .i64 (stS e0 st0 ss0),a0,.int .i64 ss0]]):=by
 refine jenter (args:=[.pointer (some ⟨g0,0,none⟩)]) Tryz.func49 rfl rfl rfl fun w0 X=>?_
 refine jq (jr (ja Z (jn (jx (jq (jq (jstl Mixed (by kernel_rfl) (jt (jmv Z) (jt (jnil Z) (jt (jf F115_1 Z) (jt (jf F37_0 Z) ?_)))))))))))
 refine jt (jl k0 O3 Z Z) (jt (jeql Z Z) (jt (jmv Z) (jtg Z Z (.t _) (fun hg=>jmv Z) (jtg Z Z (.t _) (fun hg=>jnil (evg Z hg)) (jtg Z Z (.t _) (fun hg=>jf F115_1 (evg Z hg)) (jtg Z Z (.t _) (fun hg=>jf F37_4 (evg Z hg)) (jtg Z Z (.t _) (fun hg=>jl k0 O3 (evg Z hg) Z) (jtg Z Z (.t _) (fun hg=>jmv Z) (jtg Z Z (.t _) (fun hg=>jnil (evg Z hg)) (jtg Z Z (.t _) (fun hg=>jf F115_3 (evg Z hg)) (jtg Z Z (.t _) (fun hg=>jl k0 O3 (evg Z hg) Z) ?_)))))))))))
 refine jtg Z Z (.t _) (fun hg=>jgeq (evg Z hg) (evg Z hg)) (jt (jand Z Z) (jdn (jx ?_)))
 refine jif Z (fun hc1=>?_) (fun hc1=>?_)
 refine jr (jm Z (jc E101 Z Z (rEnd_ct _ _ ov om oc oa) dn (kc k0 kn) (fun _=>p0) (fun _=>p1) fun _=>jn (jx (jq (jq (jr (jm Z (js (jnil Z) (js (jf F115_1 Z) (js (jf F37_0 Z) ?_))))))))))
 refine js (jl k0 O3 Z Z) (js (jneq Z Z) (jn (jx ?_)))
 refine jif Z (fun hc2=>?_) (fun hc2=>?_)
 refine jq (jr (ja Z (jn (jx (jrt (jtr ?_))))))
 have q1:stE e0 st0 ss0=3:=by simp_all[stE,stV,stB,stS]<;>omega
 have q2:stV e0 x0 st0 ss0=0:=by simp_all[stE,stV,stB,stS]<;>omega
 have q4:stB e0 st0 ss0=false:=by simp_all[stE,stV,stB,stS]<;>omega
 have q3:stS e0 st0 ss0=st0:=by simp_all[stE,stV,stB,stS]<;>omega
 simp only[q1,q2,q3,q4]
 exact jr1 Z Z () Z dn (fun _ _=>(kc k0 kn))
 exact absurd hc2 (by simp)
 refine jsk (jx (jq (jq (jr (jm Z (js (jnil Z) (js (jf F115_1 Z) (js (jf F37_0 Z) (js (jl k0 O3 Z Z) (js (jneq Z Z) (jn ?_)))))))))))
 refine jx ?_
 refine jif Z (fun hc3=>?_) (fun hc3=>?_)
 refine jq (jr (ja Z (jn (jx (jrt (jtr ?_))))))
 have q1:stE e0 st0 ss0=e0:=by simp_all[stE,stV,stB,stS]<;>omega
 have q2:stV e0 x0 st0 ss0=x0:=by simp_all[stE,stV,stB,stS]<;>omega
 have q4:stB e0 st0 ss0=false:=by simp_all[stE,stV,stB,stS]<;>omega
 have q3:stS e0 st0 ss0=st0:=by simp_all[stE,stV,stB,stS]<;>omega
 simp only[q1,q2,q3,q4]
 exact jr1 Z Z () Z dn (fun _ _=>(kc k0 kn))
 refine jsk (jx (jq (jr (jm Z (js (jnil Z) (js (jf F115_1 Z) (js (jf F37_4 Z) (js (jl k0 O3 Z Z) (js (jadd Z Z (by omega)) (js (jnil Z) (js (jf F115_1 Z) ?_)))))))))))
 refine js (jf F37_4 Z) (jst k0 Z3 Z Z Z s5 (jn (jx (jq (jr (ja Z (jn (jx (jrt ?_)))))))))
 have q1:stE e0 st0 ss0=e0:=by simp_all[stE,stV,stB,stS]<;>omega
 have q2:stV e0 x0 st0 ss0=x0:=by simp_all[stE,stV,stB,stS]<;>omega
 have q4:stB e0 st0 ss0=true:=by simp_all[stE,stV,stB,stS]<;>omega
 have q3:stS e0 st0 ss0=st0+1:=by simp_all[stE,stV,stB,stS]<;>omega
 simp only[q1,q2,q3,q4]
 exact jr1 Z Z () Z dn (fun _ _=>(kc k0 kn))
end Go.Proofs.YtmfkkodnghambaaGreat
namespace Go.Proofs.YtmfkkodnghambaaGreat
open Go.JE
abbrev U113:=@Tryz.underlying113
theorem E102:Ent Tryz.prog 102:=⟨_,Tryz.func102,by kernel_rfl,by kernel_rfl⟩
theorem F115_0:Fld Tryz.prog 115 0 0:=⟨_,_,Tryz.underlying115,rfl,rfl,1,(by unfold Sz;kernel_rfl),by decide⟩
theorem O112:One Tryz.prog 112:=⟨_,Tryz.underlying112,rfl⟩
theorem O113:One Tryz.prog 113:=⟨_,Tryz.underlying113,rfl⟩
theorem J21:(Tryz.prog.info? 21).bind (·.zero)=some (.int .i32 0):=by kernel_rfl
set_option maxRecDepth 4000
theorem rWords_ct{g0 gm:Nat}{V:Int→Int}{m0 c0 a0:Value}{e0 x0 st0 ss0:Int}{a1:Value}{l:List Int}(om:m0.oneCell'=true)(oc:c0.oneCell'=true)(oa:a0.oneCell'=true):Tr Tryz.prog 102 #[.pointer (some ⟨g0,0,none⟩),a1] [dv (rL (rI .i64)) a1 l] [bx g0 115 [.map (some gm),.int .i64 e0,.int .i32 x0,m0,c0,.int .i64 st0,a0,.int .i64 ss0],vm gm V] (fun c:Value=>c) (fun _=>[]) (fun B c=>[bx g0 115 [.map (some gm),.int .i64 e0,.int .i32 x0,m0,c0,.int .i64 st0,a0,.int .i64 ss0],vm gm V,gl B (rI .i32) 21 c (l.map V)]):=by
 refine jenter (args:=[.pointer (some ⟨g0,0,none⟩),a1]) Tryz.func102 rfl rfl rfl fun w0 X=>?_
 refine cvw k1 fun hvw=>jq (jr (ja Z (jn (jx (jq (jq (jr (jm Z (jdq d0 fun q1 w1=>js (jln U22 d0 Z) ?_)))))))))
 refine jm Z (jn (jx (jb (cnl (r:=(rI .i32)) (E:=21) ?_))))
 refine jlp (u3 fun(k:Nat) (ws:List Int) (vo:Value)=>⟨k≤l.length∧ws=(l.take k).map V,[dv (rL (rI .i64)) a1 l],[gl X.n (rI .i32) 21 vo ws,bx g0 115 [.map (some gm),.int .i64 e0,.int .i32 x0,m0,c0,.int .i64 st0,a0,.int .i64 ss0],vm gm V],[(0,.pointer (some ⟨g0,0,none⟩)),(4,vo),(7,a1),(8,.int .i64 (↑(List.length l))),(9,.int .i64 (↑k))],l.length-k⟩) (0,[],.slice none 0 0) ⟨by dsimp only;omega,rfl⟩ (dc d0 dn) (kd (kc k0 kn)) ⟨Z,Z,Z,Z,eqI (by omega),trivial⟩ ?_
 rintro⟨k,ws,vo⟩;dsimp only[u3];rintro⟨hk,hws⟩
 refine cgo k0 fun w2=>?_
 have hwl:ws.length=k:=by rw[hws];simp;omega
 refine jq (jr (js (jlss Z Z) (jn (jx (jq ?_)))))
 refine jif Z (fun hc1=>?_) (fun hc1=>?_)
 refine jsk (jx (jq (jb (jq (jr (js (jix U22 Z3 d0 Z Z Z (by omega)) (js (jlI (dix d0 k (by omega)) O3 Z) (ja Z (jn (jx (jr ?_)))))))))))
 refine jm Z (jm Z (js (jnil Z) (js (jf F115_0 Z) (js (jl k1 O113 Z Z) (jm Z (js (jvk U113 U3 J21 k2 Z Z) (japv U29 I21 (by decide) Z Z k0 Z (wI (wp (hvw (ix l k)))) (by omega) (fun _=>Z) fun v21 _ w3=>ja Z (jn (jbn (jx ?_))))))))))
 refine jr (js (jadd Z Z (by omega)) (jm Z (jn ?_)))
 exact jag (k+1,ws++[V (ix l k)],v21) ⟨by dsimp only;omega,by dsimp only;rw[hws,take_ix (by omega),List.map_append];rfl⟩ (dc d0 dn) (kd (kc k0 kn)) ⟨Z,Z,Z,Z,eqI (by omega),trivial⟩
 refine jex (jtx (jtx (jbh (jx (jq (jr (jm Z (ja Z (jn (jx (jrt ?_)))))))))))
 exact jr1 Z Z vo Z dn (fun _ hB=>(kc k1 (kc k1 (klc (by rw[hws,List.take_of_length_le (by omega)]) hB k0 kn))))
theorem rTrap_ct{g0:Nat}{v0 m0 c0 a0:Value}{e0 x0 st0 ss0:Int}(v:Int)(ok:Bool){g2:Nat}(ov:v0.oneCell'=true)(om:m0.oneCell'=true)(oc:c0.oneCell'=true)(oa:a0.oneCell'=true):Tr Tryz.prog 103 #[.int .i32 v,.bool ok,.pointer (some ⟨g2,0,none⟩)] [] [bx g0 115 [v0,.int .i64 e0,.int .i32 x0,m0,c0,.int .i64 st0,a0,.int .i64 ss0],bx g2 112 [.pointer (some ⟨g0,0,none⟩)]] (fun _:Unit => .int .i32 v) (fun _=>[]) (fun _ _=>[bx g0 115 [v0,.int .i64 (if ok=true then e0 else 2),.int .i32 (if ok=true then x0 else -2),m0,c0,.int .i64 st0,a0,.int .i64 ss0],bx g2 112 [.pointer (some ⟨g0,0,none⟩)]]):=by
 refine jenter (args:=[.int .i32 v,.bool ok,.pointer (some ⟨g2,0,none⟩)]) Tryz.func103 rfl rfl rfl fun w0 X=>?_
 refine jq (jr (ja Z (jn (jx (jq (jq (jr (jm Z (js (jnot Z) (jn (jx ?_)))))))))))
 refine jif Z (fun hc1=>?_) (fun hc1=>?_)
 refine jr (js (jl k1 O112 Z Z) (jc E101 Z Z (rEnd_ct _ _ ov om oc oa) dn (kc k0 kn) (fun _=>p0) (fun _=>p1) fun _=>jn (jx (jq (jr (jm Z (ja Z (jn (jx (jrt ?_))))))))))
 simp only[show ok=false from by simpa using hc1]
 exact jr1 Z Z () Z dn (fun _ _=>(kd kn))
 refine jsk (jx (jq (jr (jm Z (ja Z (jn (jx (jrt ?_))))))))
 simp only[show ok=true from by simpa using hc1]
 exact jr1 Z Z () Z dn (fun _ _=>(kd kn))
theorem rTerm_ct{g0 gm:Nat}{V:Int→Int}{m0 c0 a0:Value}{e0 x0 st0 ss0:Int}{a1a a1b:Value}{t:D.Term}(om:m0.oneCell'=true)(oc:c0.oneCell'=true)(oa:a0.oneCell'=true)(hT:∃s,shM t.Kind=some s∧(s.1≤(t.Args.length:Int)∧(t.Args.length:Int)≤s.2.1)∧(s.2.2.1≤(t.To.length:Int)∧(t.To.length:Int)≤s.2.2.2)):Tr Tryz.prog 51 #[.pointer (some ⟨g0,0,none⟩),vTerm t (a1a,a1b)] [da rTerm (vTerm t (a1a,a1b)) t] [bx g0 115 [.map (some gm),.int .i64 e0,.int .i32 x0,m0,c0,.int .i64 st0,a0,.int .i64 ss0],vm gm V] (fun _:Unit => .int .i64 (termB t V)) (fun _=>[]) (fun _ _=>[bx g0 115 [.map (some gm),.int .i64 (termE t e0),.int .i32 (termV t V x0),m0,c0,.int .i64 st0,a0,.int .i64 ss0],vm gm V]):=by
 refine jenter (args:=[.pointer (some ⟨g0,0,none⟩),vTerm t (a1a,a1b)]) Tryz.func51 rfl rfl rfl fun w0 X=>?_
 refine cvw k1 fun hvw=>?_
 have hT9:=shM_facts hT
 obtain⟨hk0,hk1,hk2,hk3,hka⟩:=hT9
 have hun:=u32_nn (ix (List.map V t.Args++[0]) 0)
 have hwl:(List.map V t.Args++[0]).length=t.Args.length+1:=by simp
 refine jq (jr (jbox Z Z fun g3=>ja Z (jn (jx (jq (jr (jm Z (js (jf F60_1 Z) (js (jl k0 O22 Z Z) (jc E102 Z Z (rWords_ct om oc oa) (dc (rTerm.c_Args d0) dn) (kc k1 (kc k1 kn)) (fun _=>p0) (fun _=>p3) fun v10=>?_))))))))))
 refine jgo k2 fun w1=>japv U29 I21 (by decide) Z Z k2 Z (wI (wl 0)) (by(try simp)<;>omega) (fun _=>Z) fun v12 _ w2=>ja Z (jn (jx (jq (jq (jr (js (jf F60_0 Z) (js (jl k3 O3 Z Z) (jn (jx ?_)))))))))
 refine jb (jq (jr (js (jeql Z Z) (ja Z (jn (jx ?_))))))
 refine jif Z (fun hc1=>?_) (fun hc1=>?_)
 have hk1:=hk1 hc1
 refine jq (jr (js (jf F60_2 Z) (js (jl k3 O22 Z Z) (jdq (rTerm.c_To d0) fun q3 w3=>js (jix (i:=0) U22 Z3 (rTerm.c_To d0) Z Z Z (by omega)) (js (jlI (dix (rTerm.c_To d0) 0 (by omega)) O3 Z) (ja Z (jn (jx (jrt (jbr ?_))))))))))
 refine jtr ?_
 have q1:termB t V=ix t.To 0:=by first|(simp[termB,termE,termV,wT,hc1];done)|(unfold termB;(repeat' split)<;>first|rfl|(exfalso;omega)|(simp_all[wT];done))|skip
 have q2:termE t e0=e0:=by first|(simp[termB,termE,termV,wT,hc1];done)|(unfold termE;(repeat' split)<;>first|rfl|(exfalso;omega)|(simp_all[wT];done))|skip
 have q3:termV t V x0=x0:=by first|(simp[termB,termE,termV,wT,hc1];done)|(unfold termV;(repeat' split)<;>first|rfl|(exfalso;omega)|(simp_all[wT];done))|skip
 simp only[q1,q2,q3]
 exact jr1 Z Z () Z dn (fun _ _=>(kc k1 (kc k1 kn)))
 refine jq (jr (js (jeql Z Z) (ja Z (jn (jx ?_)))))
 refine jif Z (fun hc2=>?_) (fun hc2=>?_)
 have hk2:=hk2 hc2
 refine jq (jq (jr (jm Z (js (jig (i:=0) U29 Z21 k0 Z Z Z (by first|omega|(simp<;>omega))) (js (jgI k0 (by first|omega|(simp<;>omega)) O21 Z) (js (jneq Z Z) (jn (jx ?_))))))))
 refine jif Z (fun hc3=>?_) (fun hc3=>?_)
 refine jq (jr (js (jf F60_2 Z) (js (jl k3 O22 Z Z) (jdq (rTerm.c_To d0) fun q4 w4=>js (jix (i:=0) U22 Z3 (rTerm.c_To d0) Z Z Z (by omega)) (js (jlI (dix (rTerm.c_To d0) 0 (by omega)) O3 Z) (ja Z (jn (jx (jrt (jtr ?_))))))))))
 refine jbr (jtr ?_)
 have q1:termB t V=ix t.To 0:=by first|(simp[termB,termE,termV,wT,hc1,hc2,hc3];done)|(unfold termB;(repeat' split)<;>first|rfl|(exfalso;omega)|(simp_all[wT];done))|skip
 have q2:termE t e0=e0:=by first|(simp[termB,termE,termV,wT,hc1,hc2,hc3];done)|(unfold termE;(repeat' split)<;>first|rfl|(exfalso;omega)|(simp_all[wT];done))|skip
 have q3:termV t V x0=x0:=by first|(simp[termB,termE,termV,wT,hc1,hc2,hc3];done)|(unfold termV;(repeat' split)<;>first|rfl|(exfalso;omega)|(simp_all[wT];done))|skip
 simp only[q1,q2,q3]
 exact jr1 Z Z () Z dn (fun _ _=>(kc k1 (kc k1 kn)))
 refine jsk (jx (jq (jr (js (jf F60_2 Z) (js (jl k3 O22 Z Z) (jdq (rTerm.c_To d0) fun q5 w5=>js (jix (i:=1) U22 Z3 (rTerm.c_To d0) Z Z Z (by omega)) (js (jlI (dix (rTerm.c_To d0) 1 (by omega)) O3 Z) (ja Z (jn (jx ?_))))))))))
 refine jrt (jbr (jtr ?_))
 have q1:termB t V=ix t.To 1:=by first|(simp[termB,termE,termV,wT,hc1,hc2,hc3];done)|(unfold termB;(repeat' split)<;>first|rfl|(exfalso;omega)|(simp_all[wT];done))|skip
 have q2:termE t e0=e0:=by first|(simp[termB,termE,termV,wT,hc1,hc2,hc3];done)|(unfold termE;(repeat' split)<;>first|rfl|(exfalso;omega)|(simp_all[wT];done))|skip
 have q3:termV t V x0=x0:=by first|(simp[termB,termE,termV,wT,hc1,hc2,hc3];done)|(unfold termV;(repeat' split)<;>first|rfl|(exfalso;omega)|(simp_all[wT];done))|skip
 simp only[q1,q2,q3]
 exact jr1 Z Z () Z dn (fun _ _=>(kc k1 (kc k1 kn)))
 refine jq (jr (js (jeql Z Z) (ja Z (jn (jx ?_)))))
 refine jif Z (fun hc4=>?_) (fun hc4=>?_)
 have hk3:=hk3 hc4
 refine jq (jr (js (jf F60_2 Z) (js (jl k3 O22 Z Z) (jdq (rTerm.c_To d0) fun q6 w6=>js (jln U22 (rTerm.c_To d0) Z) (js (jsub Z Z (by omega)) (ja Z (jn (jx (jq (jstl Mixed (by kernel_rfl) ?_))))))))))
 refine jt (jf F60_2 Z) (jt (jl k3 O22 Z Z) (jt (jmv Z) (jt (jig (i:=0) U29 Z21 k0 Z Z Z (by first|omega|(simp<;>omega))) (jt (jgI k0 (by first|omega|(simp<;>omega)) O21 Z) (jt (jco U21 U155 Z Z) (jt (jmv Z) (jt (jco U3 U155 Z (IntWalk.u32_in _ (by omega))) (jt (jmin Z Z) (jt (jix (i:=(Int.toNat (min (IntKind.u32.wrap (ix ((List.map V t.Args)++[0]) 0)) ((↑(List.length t.To))-1)))) U22 Z3 (rTerm.c_To d0) Z Z (by omega) (by omega)) (jt (jlI (dix (rTerm.c_To d0) (Int.toNat (min (IntKind.u32.wrap (ix ((List.map V t.Args)++[0]) 0)) ((↑(List.length t.To))-1))) (by omega)) O3 Z) (jt (jas Z) ?_)))))))))))
 refine jdn (jx (jrt (jbr (jtr ?_))))
 have q1:termB t V=ix t.To (Int.toNat (min (IntKind.u32.wrap (ix ((List.map V t.Args)++[0]) 0)) ((((List.length t.To:Nat):Int))-1))):=by first|(simp[termB,termE,termV,wT,hc1,hc2,hc4];done)|(unfold termB;(repeat' split)<;>first|rfl|(exfalso;omega)|(simp_all[wT];done))|skip
 have q2:termE t e0=e0:=by first|(simp[termB,termE,termV,wT,hc1,hc2,hc4];done)|(unfold termE;(repeat' split)<;>first|rfl|(exfalso;omega)|(simp_all[wT];done))|skip
 have q3:termV t V x0=x0:=by first|(simp[termB,termE,termV,wT,hc1,hc2,hc4];done)|(unfold termV;(repeat' split)<;>first|rfl|(exfalso;omega)|(simp_all[wT];done))|skip
 simp only[q1,q2,q3]
 exact jr1 Z Z () Z dn (fun _ _=>(kc k1 (kc k1 kn)))
 refine jq (jr (js (jeql Z Z) (ja Z (jn (jx ?_)))))
 refine jif Z (fun hc5=>?_) (fun hc5=>?_)
 refine jr (jm Z (jm Z (js (jig (i:=0) U29 Z21 k0 Z Z Z (by first|omega|(simp<;>omega))) (js (jgI k0 (by first|omega|(simp<;>omega)) O21 Z) (jc E101 Z Z (rEnd_ct _ _ Z om oc oa) dn (kc k1 kn) (fun _=>p0) (fun _=>p1) fun _=>jn (jbn (jx (jq (jr (ja Z ?_))))))))))
 refine jn (jx (jrt ?_))
 have q1:termB t V=0:=by first|(simp[termB,termE,termV,wT,hc1,hc2,hc4,hc5];done)|(unfold termB;(repeat' split)<;>first|rfl|(exfalso;omega)|(simp_all[wT];done))|skip
 have q2:termE t e0=1:=by first|(simp[termB,termE,termV,wT,hc1,hc2,hc4,hc5];done)|(unfold termE;(repeat' split)<;>first|rfl|(exfalso;omega)|(simp_all[wT];done))|skip
 have q3:termV t V x0=ix ((List.map V t.Args)++[0]) 0:=by first|(simp[termB,termE,termV,wT,hc1,hc2,hc4,hc5];done)|(unfold termV;(repeat' split)<;>first|rfl|(exfalso;omega)|(simp_all[wT];done))|skip
 simp only[q1,q2,q3]
 exact jr1 Z Z () Z dn (fun _ _=>(kc k0 (kc k1 kn)))
 refine jr (jm Z (js (jf F60_3 Z) (js (jl k3 O21 Z Z) (jc E101 Z Z (rEnd_ct _ _ Z om oc oa) dn (kc k1 kn) (fun _=>p0) (fun _=>p1) fun _=>jn (jbn (jx (jq (jr (ja Z (jn ?_))))))))))
 refine jx (jrt ?_)
 have q1:termB t V=0:=by first|(simp[termB,termE,termV,wT,hc1,hc2,hc4,hc5];done)|(unfold termB;(repeat' split)<;>first|rfl|(exfalso;omega)|(simp_all[wT];done))|skip
 have q2:termE t e0=2:=by first|(simp[termB,termE,termV,wT,hc1,hc2,hc4,hc5];done)|(unfold termE;(repeat' split)<;>first|rfl|(exfalso;omega)|(simp_all[wT];done))|skip
 have q3:termV t V x0=t.Imm:=by first|(simp[termB,termE,termV,wT,hc1,hc2,hc4,hc5];done)|(unfold termV;(repeat' split)<;>first|rfl|(exfalso;omega)|(simp_all[wT];done))|skip
 simp only[q1,q2,q3]
 exact jr1 Z Z () Z dn (fun _ _=>(kc k0 (kc k1 kn)))
end Go.Proofs.YtmfkkodnghambaaGreat
namespace Go.Proofs.YtmfkkodnghambaaGreat
open Go.JE
theorem E100:Ent Tryz.prog 100:=⟨_,Tryz.func100,by kernel_rfl,by kernel_rfl⟩
set_option maxRecDepth 4000
theorem rPhis1_ct{x:D.In}{c:Int}{g1:Nat}:Tr Tryz.prog 100 #[vIn x (),.pointer (some ⟨g1,0,none⟩)] [da rIn (vIn x ()) x] [bx g1 3 [.int .i64 c]] (fun _:Unit => .bool (isFrom c x)) (fun _=>[]) (fun _ _=>[bx g1 3 [.int .i64 c]]):=by
 refine jenter (args:=[vIn x (),.pointer (some ⟨g1,0,none⟩)]) Tryz.func100 rfl rfl rfl fun w0 X=>?_
 refine jq (jr (jbox Z Z fun g2=>ja Z (jn (jx (jq (jr (js (jf F111_0 Z) (js (jl k0 O3 Z Z) (js (jl k1 O3 Z Z) (js (jeql Z Z) ?_))))))))))
 refine ja Z (jn (jx (jrt ?_)))
 exact jr1 Z Z () (congrArg Value.bool (Eq.symm (by rfl))) dn (fun _ _=>(kc k1 kn))
theorem rPhis_ct{g0 gm:Nat}{V:Int→Int}{m0 c0 a0:Value}{e0 x0 st0 ss0:Int}{a1:Value}{l:List D.Phi}(fr:Int)(om:m0.oneCell'=true)(oc:c0.oneCell'=true)(oa:a0.oneCell'=true)(hp:∀p∈l,fr∈p.In.map (fun x=>x.From)):Tr Tryz.prog 48 #[.pointer (some ⟨g0,0,none⟩),a1,.int .i64 fr] [dv (rL rPhi) a1 l] [bx g0 115 [.map (some gm),.int .i64 e0,.int .i32 x0,m0,c0,.int .i64 st0,a0,.int .i64 ss0],vm gm V] (fun _:Unit => .tuple #[]) (fun _=>[]) (fun _ _=>[bx g0 115 [.map (some gm),.int .i64 e0,.int .i32 x0,m0,c0,.int .i64 st0,a0,.int .i64 ss0],vm gm (phisV fr l V)]):=by
 refine jenter (args:=[.pointer (some ⟨g0,0,none⟩),a1,.int .i64 fr]) Tryz.func48 rfl rfl rfl fun w0 X=>?_
 refine cvw k1 fun hvw=>jq (jr (jbox Z Z fun g5=>jn (jx (jq (jr (jnn fun g12=>ja Z (jn (jx ?_))))))))
 refine jq (jq (jr (jm Z (jdq d0 fun q1 w1=>js (jln U57 d0 Z) (jm Z (jn (jx (jb ?_))))))))
 refine jlp (u2 fun(k:Nat) (nx:List (Int×Int))=>⟨k≤l.length∧nx=phWl fr V (l.take k) [],[dv (rL rPhi) a1 l],[nm g12 nx,bx g5 3 [.int .i64 fr],bx g0 115 [.map (some gm),.int .i64 e0,.int .i32 x0,m0,c0,.int .i64 st0,a0,.int .i64 ss0],vm gm V],[(0,.pointer (some ⟨g0,0,none⟩)),(5,.pointer (some ⟨g5,0,none⟩)),(6,.map (some g12)),(13,a1),(14,.int .i64 (↑(List.length l))),(15,.int .i64 (↑k))],l.length-k⟩) (0,[]) ⟨by dsimp only;omega,rfl⟩ (dc d0 dn) (kd (kd kn)) ⟨Z,Z,Z,Z,Z,eqI (by omega),trivial⟩ ?_
 rintro⟨k,nx⟩;dsimp only[u2];rintro⟨hk,hnx⟩
 refine jq (jr (js (jlss Z Z) (jn (jx (jq ?_)))))
 refine jif Z (fun hc1=>?_) (fun hc1=>?_)
 have hix:=idx_from (hp _ (ix_mem (l:=l) (i:=k) (by omega)))
 refine jsk (jx (jq (jb (jq (jr (js (jix U57 Z65 d0 Z Z Z (by omega)) (jA sPhi (jlA (dix d0 k (by omega)) A65 Z65 Z) fun c18=>jalc J65 Z fun g8=>jdq (rPhi.c_In d0) fun q3 w3=>jsta k0 Z65 Z Z Z ⟨Z,w3.one,trivial⟩ (saf Z) (jn ?_))))))))
 refine jx (jq (jr (js (jf F65_1 Z) (js (jl k0 O63 Z Z) (js (jmf1 Z) (jcp E81 Z Z (idxFIn_ct (isFrom fr) E100 (fun x _ c=>Tr.it rPhis1_ct ir)) (dc (rPhi.c_In d0) (dc (db dn) dn)) (kc k2 kn) p1 (ja Z (jn (jx (jany false (.a 0 (.a 1 (.a 2 (.a 3 (.a 4 (.a 5 (.a 6 (.a 7 (.a 8 (.a 9 (.a 10 (.a 11 (.a 12 (.a 13 (.o 14 .e))))))))))))))) Mixed (by kernel_rfl) (kc k1 (kc k2 (kc k2 kn))) fun F4=>jy Z (jmv Z) ?_))))))))))
 refine jy Z (jf F65_0 Z) (jy Z (jl k0 O3 Z Z) (jy Z (jmv Z) (jy Z (jnil Z) (jy Z (jf F115_0 Z) (jy Z (jl k1 O113 Z Z) (jy Z (jf F65_1 Z) (jy Z (jl k0 O63 Z Z) (jy Z (jmv Z) (jy Z (jix (i:=(Int.toNat (idxM ((ix l k).In) (isFrom fr)))) U63 Z111 (rPhi.c_In d0) Z Z (by omega) (by omega)) (jy Z (jf F111_1 Z) (jy Z (jlI (rIn.A_Val (dix (rPhi.c_In d0) (Int.toNat (idxM ((ix l k).In) (isFrom fr))) (by omega))) O3 Z) ?_)))))))))))
 refine jy Z (jvk U113 U3 J21 k2 Z Z) (jyo Z (jnu U113 U3 k2 Z Z Z (jyn d0 (kc k2 (kc k2 (kc k2 kn))) (jyd (jbn (jx (jr (js (jadd Z Z (by omega)) (jm Z (jn ?_))))))))))
 exact jag (k+1,upW nx ((ix l k).Dst) (V ((ix ((ix l k).In) (Int.toNat (idxM ((ix l k).In) (isFrom fr)))).Val))) ⟨by dsimp only;omega,by dsimp only;rw[phWl_nx (by omega),←hnx]⟩ (dc d2 dn) (kd (kc k1 (kc k1 kn))) ⟨Z,Z,Z,Z,Z,eqI (by omega),trivial⟩
 have hnd:(nx.map (·.1)).Nodup:=by rw[hnx];exact phWl_nd _ _ (by simp)
 have hnw:∀p∈nx,IntKind.i32.wrap p.2=p.2:=by rw[hnx];exact encW_wr (nx:=[]) hvw _ _ (fun p h=>by cases h)
 refine jex (jtx (jtx (jbh (jx (jq (jr (jm Z (jri U113 k0 Z fun g39=>jn (jx (jb ?_))))))))))
 refine jlp (u2 fun(vis:List Int) (V2:Int→Int)=>⟨(vis.Nodup∧∀y∈vis,y∈nx.map (·.1))∧V2=partW nx vis V,[],[mit g39 g12 nx vis,bx g0 115 [.map (some gm),.int .i64 e0,.int .i32 x0,m0,c0,.int .i64 st0,a0,.int .i64 ss0],vm gm V2],[(0,.pointer (some ⟨g0,0,none⟩)),(39,.pointer (some ⟨g39,0,none⟩))],nx.length-vis.length⟩) ([],V) ⟨⟨by simp,by simp⟩,by dsimp only;funext j;simp[partW]⟩ dn (kc k0 (kc k1 (kc k1 kn))) ⟨Z,Z,trivial⟩ ?_
 rintro⟨vis,V2⟩;dsimp only[u2];rintro⟨hv,hV2⟩
 refine jq (jr ?_)
 refine jni k0 Z (fun hd1=>?_) (fun y1 z1 hy1 hn1=>?_)
 refine js (jex' Z Z) (jn (jx (jq ?_)))
 refine jif Z (fun hc2=>?_) (fun hc2=>?_)
 exact absurd hc2 (by simp)
 refine jex (jtx (jtx (jbh ?_)))
 obtain rfl:V2=phisV fr l V:=by rw[hV2,partW_all hd1,hnx,List.take_of_length_le (by omega)];rfl
 exact jd0 Z () Z dn (fun _ _=>(kc k1 (kc k1 kn)))
 have hlt1:=visW_lt hv.1 hv.2 hy1 hn1
 refine js (jex' Z Z) (jn (jx (jq ?_)))
 refine jif Z (fun hc3=>?_) (fun hc3=>?_)
 refine jsk (jx (jb (jq (jr (js (jei k0 hy1 Z) (js (jex' Z Z) (js (jex' Z Z) (ja Z (ja Z (jn (jx ?_)))))))))))
 refine jr (jm Z (js (jnil Z) (js (jf F115_0 Z) (js (jl k1 O113 Z Z) (jm Z (jm Z (jvu U113 U3 k2 Z Z Z (wp (hnw _ hy1)) (jn (jbn ?_)))))))))
 exact jag (vis++[y1],setV V2 y1 z1) ⟨⟨vis_nd9 hv.1 hn1,fun y h=>(List.mem_append.1 h).elim (hv.2 y) (fun h=>by simp at h;subst h;exact List.mem_map.2 ⟨_,hy1,rfl⟩)⟩,by dsimp only;rw[hV2];exact partW_nx hnd hy1⟩ dn (kc k1 (kc k1 (kc k0 kn))) ⟨Z,Z,trivial⟩ (by dsimp only[u2];rw[List.length_append];simp;omega)
 exact absurd hc3 (by simp)
end Go.Proofs.YtmfkkodnghambaaGreat
namespace Go.Proofs.YtmfkkodnghambaaGreat
open Go.JE
theorem E103:Ent Tryz.prog 103:=⟨_,Tryz.func103,by kernel_rfl,by kernel_rfl⟩
theorem F115_2:Fld Tryz.prog 115 2 6:=⟨_,_,Tryz.underlying115,rfl,rfl,1,(by unfold Sz;kernel_rfl),by decide⟩
set_option maxRecDepth 4000
attribute [local simp] inzV inzE inzX inzM inzC inzA inzT aI
set_option maxHeartbeats 2000000 in
theorem rIns_ct{g0 gm Bm Bc:Nat}{V:Int→Int}{mv cv av:Value}{me an:List Int}{cl:List D.Event}{e0 x0 st0 ss0:Int}{a1:Value}{i:D.Ins}(hO:(1≤i.Op∧i.Op≤18)∧(operM i.Op).1≤(i.Args.length:Int)∧(i.Args.length:Int)≤(operM i.Op).2)(hml:me.length<1073741824)(hcl:cl.length<1000000000):Tr Tryz.prog 50 #[.pointer (some ⟨g0,0,none⟩),vIns i a1] [dv (rL (rI .i32)) av an,da rIns (vIns i a1) i] [bx g0 115 [.map (some gm),.int .i64 e0,.int .i32 x0,mv,cv,.int .i64 st0,av,.int .i64 ss0],vm gm V,gl Bm (rI .i32) 21 mv me,gl Bc rEvent 74 cv cl] (fun c:Value×Value => .tuple #[]) (fun c=>[dv (rL (rI .i32)) c.2 (inzA i an)]) (fun _ c=>[bx g0 115 [.map (some gm),.int .i64 (inzE i V me e0),.int .i32 (inzX i V me x0),mv,c.1,.int .i64 st0,c.2,.int .i64 ss0],vm gm (inzV i V me an),gl Bm (rI .i32) 21 mv (inzM i V me),gl Bc rEvent 74 c.1 (inzC i V cl)]):=by
 refine jenter (args:=[.pointer (some ⟨g0,0,none⟩),vIns i a1]) Tryz.func50 rfl rfl rfl fun w0 X=>?_
 refine cgo k2 fun w1=>cgo k3 fun w2=>cvw k1 fun hvw=>?_
 obtain⟨ho15,ho2,hol⟩:=oper_facts hO
 have hwl:(List.map V i.Args).length=i.Args.length:=by simp
 refine jq (jr (jbox Z Z fun g2=>jbox Z Z fun g3=>jn (jx (jq (jr (js (jl k1 O112 Z Z) (js (jf F67_3 Z) (js (jl k0 O22 Z Z) (jdq d0 fun q3 w3=>?_)))))))))
 refine jc E102 Z Z (rWords_ct w1.one w2.one w3.one) (dc (rIns.c_Args d1) dn) (kc k2 (kc k2 kn)) (fun _=>p0) (fun _=>p3) fun v11=>jgo k2 fun w4=>ja Z (jn (jx (jq (jr (js (jmf1 Z) (ja Z (jn (jx (jq ?_)))))))))
 refine jr (js (jf F67_0 Z) (js (jl k3 O3 Z Z) (jn (jx (jb (jq (jr (js (jeql Z Z) (ja Z (jn (jx ?_)))))))))))
 refine jif Z (fun hc1=>?_) (fun hc1=>?_)
 refine jany false (.a 0 (.a 1 (.a 2 (.a 3 (.a 4 (.a 5 (.a 6 (.a 7 (.o 8 .e))))))))) Mixed (by kernel_rfl) (kc k0 (kc k2 (kc k2 kn))) fun F5=>jy Z (jl k2 O112 Z Z) (jy Z (jnil Z) (jy Z (jf F115_0 Z) (jy Z (jl k0 O113 Z Z) (jy Z (jf F67_1 Z) (jy Z (jl k1 O3 Z Z) (jy Z (jf F67_4 Z) (jy Z (jl k1 O21 Z Z) (jyo Z (jvu U113 U3 k1 Z Z Z (rIns.W_Imm d2) (jyn d0 (kc k1 (kc k2 (kc k2 kn))) ?_))))))))))
 refine jyd (jbn ?_)
 have q1:inzV i V me an=setV V i.Dst i.Imm:=by simp[hc1]
 have q2:inzE i V me e0=e0:=by simp[hc1]
 have q3:inzX i V me x0=x0:=by simp[hc1]
 have q4:inzM i V me=me:=by simp[hc1]
 have q5:inzC i V cl=cl:=by simp[hc1]
 have q6:inzA i an=an:=by simp[hc1]
 simp only[q1,q2,q3,q4,q5,q6]
 exact jd0 Z (cv,av) Z (dc d1 dn) (fun _ _=>(kc k1 (kc k0 (kc k3 (kc k3 kn)))))
 refine jq (jr (js (jeql Z Z) (ja Z (jn (jx ?_)))))
 refine jif Z (fun hc2=>?_) (fun hc2=>?_)
 have ho15:=ho15 hc2
 refine jany false (.a 0 (.a 1 (.a 2 (.a 4 (.a 5 (.a 6 (.a 7 (.a 8 (.a 9 (.a 10 (.a 12 (.a 13 (.a 14 (.a 15 (.a 16 (.a 17 (.w 3 11 (.o 11 (.o 18 (.a 19 (.a 20 (.o 21 (.o 22 .e)))))) (.w 3 18 (.o 18 (.a 19 (.a 20 (.o 21 (.o 22 .e))))) (.a 19 (.a 20 (.w 3 21 (.o 21 (.o 22 .e)) (.o 3 (.o 22 .e))))))))))))))))))))))) Mixed (by kernel_rfl) (kc k2 (kc k2 (kc k2 kn))) fun F7=>jy Z (jl k2 O112 Z Z) (jy Z (jnil Z) (jy Z (jf F115_0 Z) (jy Z (jf F67_1 Z) (jy Z (jl k1 O3 Z Z) (jy Z (jmv Z) (jy Z (jl k2 O112 Z Z) (jy Z (jnil Z) (jy Z (jf F115_1 Z) (jy Z (jf F37_2 Z) (jy Z (jmv Z) ?_))))))))))
 refine jy Z (jig (i:=0) U29 Z21 k0 Z Z Z (by first|omega|(simp<;>omega))) (jy Z (jgI k0 (by first|omega|(simp<;>omega)) O21 Z) (jy Z (jf F67_4 Z) (jy Z (jl k1 O21 Z Z) (jy Z (jaddw Z Z) ?_))))
 refine jyw Z Z ?_ ?_
 refine js (jl k0 O113 Z Z) (jyn d0 (kc k2 (kc k2 (kc k2 kn))) (jyo Z (js (jl k0 O29 Z Z) (jyn d0 (kc k2 (kc k2 (kc k2 kn))) (jyo Z (jc E85 Z Z (Tv.temp 1073741824 (pLoad_ct (IntKind.i32.wrap ((ix (List.map V i.Args) 0)+i.Imm)) (JE.wrap_wrap _ _)) (by omega)) dn (kc k5 kn) (fun _=>p0) (fun _=>p1) fun _=>jyn d0 (kc k3 (kc k3 (kc k3 kn))) (jy Z (jex' Z Z) (jy Z (jex' Z Z) (jyo Z (jc E103 Z Z (rTrap_ct _ _ Z w1.one w2.one w3.one) dn (kc k1 (kc k4 kn)) (fun _=>p0) (fun _=>p2) fun _=>?_))))))))))
 refine jyn d0 (kc k4 (kc k4 (kc k1 kn))) (jyo Z (jvu U113 U3 k3 Z Z Z (wld k2 (IntKind.i32.wrap ((ix (List.map V i.Args) 0)+i.Imm))) (jyn d0 (kc k4 (kc k4 (kc k2 kn))) (jyd (jbn ?_)))))
 have q1:inzV i V me an=setV V i.Dst ((loadM me (IntKind.i32.wrap ((ix (List.map V i.Args) 0)+i.Imm))).1):=by simp[hc1,hc2]
 have q2:inzE i V me e0=if ((loadM me (IntKind.i32.wrap ((ix (List.map V i.Args) 0)+i.Imm))).2)=true then e0 else 2:=by simp[hc1,hc2];split<;>simp_all
 have q3:inzX i V me x0=if ((loadM me (IntKind.i32.wrap ((ix (List.map V i.Args) 0)+i.Imm))).2)=true then x0 else -2:=by simp[hc1,hc2];split<;>simp_all
 have q4:inzM i V me=me:=by simp[hc1,hc2]
 have q5:inzC i V cl=cl:=by simp[hc1,hc2]
 have q6:inzA i an=an:=by simp[hc1,hc2]
 simp only[q1,q2,q3,q4,q5,q6]
 exact jd0 Z (cv,av) Z (dc d5 dn) (fun _ _=>(kc k1 (kc k0 (kc k1 (kc k3 kn)))))
 refine js (jl k0 O29 Z Z) (jyn d0 (kc k2 (kc k2 (kc k2 kn))) ?_)
 refine jyw Z Z ?_ ?_
 refine js (jl k0 O113 Z Z) (jyn d0 (kc k2 (kc k2 (kc k2 kn))) (jyo Z (jc E85 Z Z (Tv.temp 1073741824 (pLoad_ct (IntKind.i32.wrap ((ix (List.map V i.Args) 0)+i.Imm)) (JE.wrap_wrap _ _)) (by omega)) dn (kc k5 kn) (fun _=>p0) (fun _=>p1) fun _=>jyn d0 (kc k3 (kc k3 (kc k3 kn))) (jy Z (jex' Z Z) (jy Z (jex' Z Z) (jyo Z (jc E103 Z Z (rTrap_ct _ _ Z w1.one w2.one w3.one) dn (kc k1 (kc k4 kn)) (fun _=>p0) (fun _=>p2) fun _=>jyn d0 (kc k4 (kc k4 (kc k1 kn))) (jyo Z (jvu U113 U3 k3 Z Z Z (wld k2 (IntKind.i32.wrap ((ix (List.map V i.Args) 0)+i.Imm))) ?_)))))))))
 refine jyn d0 (kc k4 (kc k4 (kc k2 kn))) (jyd (jbn ?_))
 have q1:inzV i V me an=setV V i.Dst ((loadM me (IntKind.i32.wrap ((ix (List.map V i.Args) 0)+i.Imm))).1):=by simp[hc1,hc2]
 have q2:inzE i V me e0=if ((loadM me (IntKind.i32.wrap ((ix (List.map V i.Args) 0)+i.Imm))).2)=true then e0 else 2:=by simp[hc1,hc2];split<;>simp_all
 have q3:inzX i V me x0=if ((loadM me (IntKind.i32.wrap ((ix (List.map V i.Args) 0)+i.Imm))).2)=true then x0 else -2:=by simp[hc1,hc2];split<;>simp_all
 have q4:inzM i V me=me:=by simp[hc1,hc2]
 have q5:inzC i V cl=cl:=by simp[hc1,hc2]
 have q6:inzA i an=an:=by simp[hc1,hc2]
 simp only[q1,q2,q3,q4,q5,q6]
 exact jd0 Z (cv,av) Z (dc d5 dn) (fun _ _=>(kc k1 (kc k0 (kc k1 (kc k3 kn)))))
 refine jc E85 Z Z (Tv.temp 1073741824 (pLoad_ct (IntKind.i32.wrap ((ix (List.map V i.Args) 0)+i.Imm)) (JE.wrap_wrap _ _)) (by omega)) dn (kc k5 kn) (fun _=>p0) (fun _=>p1) fun _=>jyn d0 (kc k3 (kc k3 (kc k3 kn))) (jy Z (jex' Z Z) (jy Z (jex' Z Z) ?_))
 refine jyw Z Z ?_ ?_
 refine js (jl k1 O113 Z Z) (jyn d0 (kc k3 (kc k3 (kc k3 kn))) (jyo Z (jc E103 Z Z (rTrap_ct _ _ Z w1.one w2.one w3.one) dn (kc k1 (kc k4 kn)) (fun _=>p0) (fun _=>p2) fun _=>jyn d0 (kc k4 (kc k4 (kc k1 kn))) (jyo Z (jvu U113 U3 k3 Z Z Z (wld k2 (IntKind.i32.wrap ((ix (List.map V i.Args) 0)+i.Imm))) (jyn d0 (kc k4 (kc k4 (kc k2 kn))) (jyd (jbn ?_))))))))
 have q1:inzV i V me an=setV V i.Dst ((loadM me (IntKind.i32.wrap ((ix (List.map V i.Args) 0)+i.Imm))).1):=by simp[hc1,hc2]
 have q2:inzE i V me e0=if ((loadM me (IntKind.i32.wrap ((ix (List.map V i.Args) 0)+i.Imm))).2)=true then e0 else 2:=by simp[hc1,hc2];split<;>simp_all
 have q3:inzX i V me x0=if ((loadM me (IntKind.i32.wrap ((ix (List.map V i.Args) 0)+i.Imm))).2)=true then x0 else -2:=by simp[hc1,hc2];split<;>simp_all
 have q4:inzM i V me=me:=by simp[hc1,hc2]
 have q5:inzC i V cl=cl:=by simp[hc1,hc2]
 have q6:inzA i an=an:=by simp[hc1,hc2]
 simp only[q1,q2,q3,q4,q5,q6]
 exact jd0 Z (cv,av) Z (dc d5 dn) (fun _ _=>(kc k1 (kc k0 (kc k1 (kc k3 kn)))))
 refine jc E103 Z Z (rTrap_ct _ _ Z w1.one w2.one w3.one) dn (kc k1 (kc k4 kn)) (fun _=>p0) (fun _=>p2) fun _=>jyn d0 (kc k4 (kc k4 (kc k1 kn))) (jyo Z (js (jl k0 O113 Z Z) (jyn d0 (kc k4 (kc k4 (kc k1 kn))) (jyo Z (jvu U113 U3 k3 Z Z Z (wld k2 (IntKind.i32.wrap ((ix (List.map V i.Args) 0)+i.Imm))) (jyn d0 (kc k4 (kc k4 (kc k2 kn))) (jyd (jbn ?_))))))))
 have q1:inzV i V me an=setV V i.Dst ((loadM me (IntKind.i32.wrap ((ix (List.map V i.Args) 0)+i.Imm))).1):=by simp[hc1,hc2]
 have q2:inzE i V me e0=if ((loadM me (IntKind.i32.wrap ((ix (List.map V i.Args) 0)+i.Imm))).2)=true then e0 else 2:=by simp[hc1,hc2];split<;>simp_all
 have q3:inzX i V me x0=if ((loadM me (IntKind.i32.wrap ((ix (List.map V i.Args) 0)+i.Imm))).2)=true then x0 else -2:=by simp[hc1,hc2];split<;>simp_all
 have q4:inzM i V me=me:=by simp[hc1,hc2]
 have q5:inzC i V cl=cl:=by simp[hc1,hc2]
 have q6:inzA i an=an:=by simp[hc1,hc2]
 simp only[q1,q2,q3,q4,q5,q6]
 exact jd0 Z (cv,av) Z (dc d5 dn) (fun _ _=>(kc k1 (kc k0 (kc k1 (kc k3 kn)))))
 refine jq (jr (js (jeql Z Z) (ja Z (jn (jx ?_)))))
 refine jif Z (fun hc3=>?_) (fun hc3=>?_)
 have ho2:=ho2 hc1 hc2 (by omega)
 refine jany false (.a 0 (.a 1 (.a 2 (.a 3 (.a 4 (.a 6 (.a 7 (.a 8 (.a 9 (.a 10 (.a 11 (.a 12 (.a 13 (.a 14 (.o 5 (.o 15 (.o 16 .e))))))))))))))))) Mixed (by kernel_rfl) (kc k2 (kc k2 (kc k2 kn))) fun F13=>jy Z (jmv Z) (jy Z (jl k2 O112 Z Z) (jy Z (jnil Z) (jy Z (jf F115_1 Z) (jy Z (jf F37_2 Z) (jy Z (jmv Z) (jy Z (jig (i:=0) U29 Z21 k0 Z Z Z (by first|omega|(simp<;>omega))) (jy Z (jgI k0 (by first|omega|(simp<;>omega)) O21 Z) (jy Z (jf F67_4 Z) (jy Z (jl k1 O21 Z Z) (jy Z (jaddw Z Z) ?_))))))))))
 refine jy Z (jmv Z) (jy Z (jig (i:=1) U29 Z21 k0 Z Z Z (by first|omega|(simp<;>omega))) (jy Z (jgI k0 (by first|omega|(simp<;>omega)) O21 Z) (jyo Z (js (jl k0 O29 Z Z) (jyn d0 (kc k2 (kc k2 (kc k2 kn))) (jyo Z (jwr (wgl (i:=1) k2 (by omega)) fun w16=>jc E86 Z Z (pStore_ct (IntKind.i32.wrap ((ix (List.map V i.Args) 0)+i.Imm)) (ix (List.map V i.Args) 1) (by omega) (JE.wrap_wrap _ _) w16) dn (kc k5 kn) (fun _=>p0) (fun _=>p1) fun _=>jyn d0 (kc k3 (kc k3 (kc k3 kn))) (jyo Z (jc E103 Z Z (rTrap_ct _ _ Z w1.one w2.one w3.one) dn (kc k1 (kc k4 kn)) (fun _=>p0) (fun _=>p2) fun _=>?_)))))))))
 refine jyn d0 (kc k4 (kc k4 (kc k1 kn))) (jyd (jbn ?_))
 have q1:inzV i V me an=V:=by simp[hc1,hc2,hc3]
 have q2:inzE i V me e0=if (storeOk me (IntKind.i32.wrap ((ix (List.map V i.Args) 0)+i.Imm)) (ix (List.map V i.Args) 1))=true then e0 else 2:=by simp[hc1,hc2,hc3];split<;>simp_all
 have q3:inzX i V me x0=if (storeOk me (IntKind.i32.wrap ((ix (List.map V i.Args) 0)+i.Imm)) (ix (List.map V i.Args) 1))=true then x0 else -2:=by simp[hc1,hc2,hc3];split<;>simp_all
 have q4:inzM i V me=storeM me (IntKind.i32.wrap ((ix (List.map V i.Args) 0)+i.Imm)) (ix (List.map V i.Args) 1):=by simp[hc1,hc2,hc3]
 have q5:inzC i V cl=cl:=by simp[hc1,hc2,hc3]
 have q6:inzA i an=an:=by simp[hc1,hc2,hc3]
 simp only[q1,q2,q3,q4,q5,q6]
 exact jd0 Z (cv,av) Z (dc d3 dn) (fun _ _=>(kc k0 (kc k2 (kc k1 (kc k3 kn)))))
 refine jq (jr (js (jeql Z Z) (ja Z (jn (jx ?_)))))
 refine jif Z (fun hc4=>?_) (fun hc4=>?_)
 refine jq (jany false (.a 0 (.a 1 (.a 2 (.a 3 (.a 4 (.a 6 (.a 7 (.a 8 (.a 9 (.w 5 10 (.o 10 (.o 11 (.a 12 (.a 13 (.a 14 (.o 15 .e)))))) (.o 5 (.o 11 (.a 12 (.a 13 (.a 14 (.o 15 .e)))))))))))))))) Mixed (by kernel_rfl) (kc k3 (kc k3 kn)) fun F18=>jy Z (jl k1 O112 Z Z) (jy Z (jl k1 O112 Z Z) (jy Z (jnil Z) (jy Z (jf F115_1 Z) (jy Z (jf F37_3 Z) (jy Z (jf F67_4 Z) (jy Z (jl k0 O21 Z Z) (jy Z (jmv Z) (jy Z (jbu (v := .agg #[.int .i32 i.Imm,v11]) Z (fun _=>by obtain⟨_,_,_,rfl⟩:=w4;kernel_rfl)) ?_)))))))))
 refine jyw Z Z ?_ ?_
 refine js (jl k0 O35 Z Z) (jyn d0 (kc k3 (kc k3 kn)) (jyo Z (jfz k2 (by(try simp)<;>omega) (jlit (r:=rEvent) (l:=[⟨i.Imm,List.map V i.Args⟩]) U35 I74 (by decide) Z Z Z (lA (rEvent.M (m:=⟨i.Imm,List.map V i.Args⟩) (c:=v11) d0 (rIns.W_Imm d4)) ln) fun g103=>jyn d1 (kc k3 (kc k3 kn)) (jyo Z (jfz k0 (by(try simp)<;>omega) (japl U35 I74 (by decide) Z k5 Z Z d0 (by(try simp)<;>omega) fun v104 w24=>jyn d1 (kc k3 (kc k3 kn)) (jy Z (jnil Z) (jy Z (jf F115_1 Z) ?_)))))))))
 refine jy Z (jf F37_3 Z) (jyo Z (jst k1 Z35 Z Z w24.one s4 (jyn d0 (kc k3 (kc k3 kn)) (jyd (jx (jq (jany false (.a 0 (.a 1 (.a 2 (.a 3 (.a 4 (.a 5 (.o 6 .e))))))) Mixed (by kernel_rfl) (kc k0 (kc k2 (kc k2 kn))) fun F26=>jy Z (jl k2 O112 Z Z) (jy Z (jnil Z) (jy Z (jf F115_0 Z) (jy Z (jl k0 O113 Z Z) ?_))))))))))
 refine jy Z (jf F67_1 Z) (jy Z (jl k1 O3 Z Z) (jyo Z (jvu U113 U3 k2 Z Z Z (wl 0) (jyn d0 (kc k1 (kc k2 (kc k2 kn))) (jyd (jx (jq (jr (js (jl k4 O112 Z Z) (js (jnil Z) (js (jf F115_2 Z) ?_)))))))))))
 refine js (jl k1 O29 Z Z) (js (jln U29 d7 Z) (js (jgtr Z Z) (jn (jx ?_))))
 refine jif Z (fun hc5=>?_) (fun hc5=>?_)
 refine jany false (.a 0 (.a 1 (.a 2 (.a 4 (.a 5 (.a 6 (.a 7 (.a 8 (.a 9 (.a 13 (.a 14 (.a 15 (.w3 3 10 16 (.w 10 16 (.a 11 (.a 12 (.o 16 (.a 17 (.o 18 (.a 19 (.o 20 (.a 21 (.a 22 (.o 23 .e)))))))))) (.a 17 (.w 10 18 (.a 11 (.a 12 (.o 18 (.a 19 (.o 20 (.a 21 (.a 22 (.o 23 .e)))))))) (.a 19 (.o 10 (.a 11 (.a 12 (.o 20 (.a 21 (.a 22 (.o 23 .e))))))))))) (.a 11 (.a 12 (.w 3 16 (.o 16 (.a 17 (.o 18 (.a 19 (.o 20 (.a 21 (.a 22 (.o 23 .e)))))))) (.a 17 (.o 3 (.o 18 (.a 19 (.o 20 (.a 21 (.a 22 (.o 23 .e))))))))))) (.a 17 (.w 3 10 (.w 10 18 (.a 11 (.a 12 (.o 18 (.a 19 (.o 20 (.a 21 (.a 22 (.o 23 .e)))))))) (.a 19 (.o 10 (.a 11 (.a 12 (.o 20 (.a 21 (.a 22 (.o 23 .e))))))))) (.a 11 (.a 12 (.o 3 (.o 18 (.a 19 (.o 20 (.a 21 (.a 22 (.o 23 .e)))))))))))))))))))))))) Mixed (by kernel_rfl) (kc k3 (kc k3 kn)) fun F28=>jy Z (jl k1 O112 Z Z) (jy Z (jnil Z) (jy Z (jf F115_0 Z) (jy Z (jf F67_1 Z) (jy Z (jl k0 O3 Z Z) (jy Z (jl k1 O112 Z Z) (jy Z (jl k1 O112 Z Z) (jy Z (jnil Z) (jy Z (jf F115_2 Z) (jy Z (jl k1 O112 Z Z) (jy Z (jnil Z) ?_))))))))))
 refine jy Z (jf F115_2 Z) ?_
 refine jyw3 Z Z Z ?_ ?_ ?_
 refine js (jl k1 O113 Z Z) (jyn d0 (kc k3 (kc k3 kn)) ?_)
 refine jyw Z Z ?_ ?_
 refine js (jl k1 O29 Z Z) (jyn d0 (kc k3 (kc k3 kn)) (jy Z (jix (i:=0) U29 Z21 d7 Z Z Z (by omega)) (jy Z (jlI (dix d7 0 (by omega)) O21 Z) (jyo Z (js (jl k1 O29 Z Z) (jyn d0 (kc k3 (kc k3 kn)) (jy Z (jslo (lo:=1) U29 Z21 d7 Z Z Z (by omega)) (jyo Z (jve U113 U3 J21 k0 Z Z fun u138 s138=>jyn d0 (kc k3 (kc k3 kn)) (jy Z (jex' Z Z) ?_))))))))))
 refine jyo Z (jvs k0 Z Z Z (wad (dix d12 0 (by omega))) (jyn d0 (kc k3 (kc k3 kn)) (jy Z (jnil Z) (jy Z (jf F115_2 Z) (jyo Z (jdq (dlo d13 1 (by omega) (by omega)) fun q35 w35=>jst k1 Z29 Z Z w35.one s6 (jyn d0 (kc k3 (kc k3 kn)) (jyd (jbn ?_)))))))))
 have q1:inzV i V me an=setV (setV V i.Dst 0) i.Dst (ix an 0):=by simp_all
 have q2:inzE i V me e0=e0:=by simp[hc1,hc2,hc3,hc4,hc5]
 have q3:inzX i V me x0=x0:=by simp[hc1,hc2,hc3,hc4,hc5]
 have q4:inzM i V me=me:=by simp[hc1,hc2,hc3,hc4,hc5]
 have q5:inzC i V cl=cl++([⟨i.Imm,List.map V i.Args⟩]):=by simp[hc1,hc2,hc3,hc4,hc5]
 have q6:inzA i an=List.drop 1 an:=by simp[hc1,hc2,hc3,hc4,hc5]
 simp only[q1,q2,q3,q4,q5,q6]
 exact jd0 Z (v104,(resl 1 av 1 (List.length an))) Z (dc (dlo d13 1 (by omega) (by omega)) dn) (fun _ _=>(kd (kc k3 (kc k0 kn))))
 refine js (jl k1 O29 Z Z) (jyn d0 (kc k3 (kc k3 kn)) (jy Z (jslo (lo:=1) U29 Z21 d7 Z Z Z (by omega)) ?_))
 refine jyw Z Z ?_ ?_
 refine js (jl k1 O29 Z Z) (jyn d0 (kc k3 (kc k3 kn)) (jy Z (jix (i:=0) U29 Z21 d7 Z Z Z (by omega)) (jy Z (jlI (dix d7 0 (by omega)) O21 Z) (jyo Z (jve U113 U3 J21 k0 Z Z fun u138 s138=>jyn d0 (kc k3 (kc k3 kn)) (jy Z (jex' Z Z) (jyo Z (jvs k0 Z Z Z (wad (dix d12 0 (by omega))) (jyn d0 (kc k3 (kc k3 kn)) (jy Z (jnil Z) ?_))))))))))
 refine jy Z (jf F115_2 Z) (jyo Z (jdq (dlo d13 1 (by omega) (by omega)) fun q35 w35=>jst k1 Z29 Z Z w35.one s6 (jyn d0 (kc k3 (kc k3 kn)) (jyd (jbn ?_)))))
 have q1:inzV i V me an=setV (setV V i.Dst 0) i.Dst (ix an 0):=by simp_all
 have q2:inzE i V me e0=e0:=by simp[hc1,hc2,hc3,hc4,hc5]
 have q3:inzX i V me x0=x0:=by simp[hc1,hc2,hc3,hc4,hc5]
 have q4:inzM i V me=me:=by simp[hc1,hc2,hc3,hc4,hc5]
 have q5:inzC i V cl=cl++([⟨i.Imm,List.map V i.Args⟩]):=by simp[hc1,hc2,hc3,hc4,hc5]
 have q6:inzA i an=List.drop 1 an:=by simp[hc1,hc2,hc3,hc4,hc5]
 simp only[q1,q2,q3,q4,q5,q6]
 exact jd0 Z (v104,(resl 1 av 1 (List.length an))) Z (dc (dlo d13 1 (by omega) (by omega)) dn) (fun _ _=>(kd (kc k3 (kc k0 kn))))
 refine jve U113 U3 J21 k0 Z Z fun u138 s138=>jyn d0 (kc k3 (kc k3 kn)) (jy Z (jex' Z Z) (jyo Z (js (jl k1 O29 Z Z) (jyn d0 (kc k3 (kc k3 kn)) (jy Z (jix (i:=0) U29 Z21 d7 Z Z Z (by omega)) (jy Z (jlI (dix d7 0 (by omega)) O21 Z) (jyo Z (jvs k0 Z Z Z (wad (dix d12 0 (by omega))) (jyn d0 (kc k3 (kc k3 kn)) (jy Z (jnil Z) ?_))))))))))
 refine jy Z (jf F115_2 Z) (jyo Z (jdq (dlo d13 1 (by omega) (by omega)) fun q35 w35=>jst k1 Z29 Z Z w35.one s6 (jyn d0 (kc k3 (kc k3 kn)) (jyd (jbn ?_)))))
 have q1:inzV i V me an=setV (setV V i.Dst 0) i.Dst (ix an 0):=by simp_all
 have q2:inzE i V me e0=e0:=by simp[hc1,hc2,hc3,hc4,hc5]
 have q3:inzX i V me x0=x0:=by simp[hc1,hc2,hc3,hc4,hc5]
 have q4:inzM i V me=me:=by simp[hc1,hc2,hc3,hc4,hc5]
 have q5:inzC i V cl=cl++([⟨i.Imm,List.map V i.Args⟩]):=by simp[hc1,hc2,hc3,hc4,hc5]
 have q6:inzA i an=List.drop 1 an:=by simp[hc1,hc2,hc3,hc4,hc5]
 simp only[q1,q2,q3,q4,q5,q6]
 exact jd0 Z (v104,(resl 1 av 1 (List.length an))) Z (dc (dlo d13 1 (by omega) (by omega)) dn) (fun _ _=>(kd (kc k3 (kc k0 kn))))
 refine js (jl k1 O29 Z Z) (jyn d0 (kc k3 (kc k3 kn)) (jy Z (jix (i:=0) U29 Z21 d7 Z Z Z (by omega)) (jy Z (jlI (dix d7 0 (by omega)) O21 Z) ?_)))
 refine jyw Z Z ?_ ?_
 refine js (jl k1 O113 Z Z) (jyn d0 (kc k3 (kc k3 kn)) (jyo Z (js (jl k1 O29 Z Z) (jyn d0 (kc k3 (kc k3 kn)) (jy Z (jslo (lo:=1) U29 Z21 d7 Z Z Z (by omega)) (jyo Z (jve U113 U3 J21 k0 Z Z fun u138 s138=>jyn d0 (kc k3 (kc k3 kn)) (jy Z (jex' Z Z) (jyo Z (jvs k0 Z Z Z (wad (dix d12 0 (by omega))) ?_))))))))))
 refine jyn d0 (kc k3 (kc k3 kn)) (jy Z (jnil Z) (jy Z (jf F115_2 Z) (jyo Z (jdq (dlo d13 1 (by omega) (by omega)) fun q35 w35=>jst k1 Z29 Z Z w35.one s6 (jyn d0 (kc k3 (kc k3 kn)) (jyd (jbn ?_)))))))
 have q1:inzV i V me an=setV (setV V i.Dst 0) i.Dst (ix an 0):=by simp_all
 have q2:inzE i V me e0=e0:=by simp[hc1,hc2,hc3,hc4,hc5]
 have q3:inzX i V me x0=x0:=by simp[hc1,hc2,hc3,hc4,hc5]
 have q4:inzM i V me=me:=by simp[hc1,hc2,hc3,hc4,hc5]
 have q5:inzC i V cl=cl++([⟨i.Imm,List.map V i.Args⟩]):=by simp[hc1,hc2,hc3,hc4,hc5]
 have q6:inzA i an=List.drop 1 an:=by simp[hc1,hc2,hc3,hc4,hc5]
 simp only[q1,q2,q3,q4,q5,q6]
 exact jd0 Z (v104,(resl 1 av 1 (List.length an))) Z (dc (dlo d13 1 (by omega) (by omega)) dn) (fun _ _=>(kd (kc k3 (kc k0 kn))))
 refine js (jl k1 O29 Z Z) (jyn d0 (kc k3 (kc k3 kn)) (jy Z (jslo (lo:=1) U29 Z21 d7 Z Z Z (by omega)) (jyo Z (js (jl k1 O113 Z Z) (jyn d0 (kc k3 (kc k3 kn)) (jyo Z (jve U113 U3 J21 k0 Z Z fun u138 s138=>jyn d0 (kc k3 (kc k3 kn)) (jy Z (jex' Z Z) (jyo Z (jvs k0 Z Z Z (wad (dix d12 0 (by omega))) ?_))))))))))
 refine jyn d0 (kc k3 (kc k3 kn)) (jy Z (jnil Z) (jy Z (jf F115_2 Z) (jyo Z (jdq (dlo d13 1 (by omega) (by omega)) fun q35 w35=>jst k1 Z29 Z Z w35.one s6 (jyn d0 (kc k3 (kc k3 kn)) (jyd (jbn ?_)))))))
 have q1:inzV i V me an=setV (setV V i.Dst 0) i.Dst (ix an 0):=by simp_all
 have q2:inzE i V me e0=e0:=by simp[hc1,hc2,hc3,hc4,hc5]
 have q3:inzX i V me x0=x0:=by simp[hc1,hc2,hc3,hc4,hc5]
 have q4:inzM i V me=me:=by simp[hc1,hc2,hc3,hc4,hc5]
 have q5:inzC i V cl=cl++([⟨i.Imm,List.map V i.Args⟩]):=by simp[hc1,hc2,hc3,hc4,hc5]
 have q6:inzA i an=List.drop 1 an:=by simp[hc1,hc2,hc3,hc4,hc5]
 simp only[q1,q2,q3,q4,q5,q6]
 exact jd0 Z (v104,(resl 1 av 1 (List.length an))) Z (dc (dlo d13 1 (by omega) (by omega)) dn) (fun _ _=>(kd (kc k3 (kc k0 kn))))
 refine js (jl k1 O29 Z Z) (jyn d0 (kc k3 (kc k3 kn)) (jy Z (jslo (lo:=1) U29 Z21 d7 Z Z Z (by omega)) ?_))
 refine jyw Z Z ?_ ?_
 refine js (jl k1 O113 Z Z) (jyn d0 (kc k3 (kc k3 kn)) ?_)
 refine jyw Z Z ?_ ?_
 refine js (jl k1 O29 Z Z) (jyn d0 (kc k3 (kc k3 kn)) (jy Z (jix (i:=0) U29 Z21 d7 Z Z Z (by omega)) (jy Z (jlI (dix d7 0 (by omega)) O21 Z) (jyo Z (jve U113 U3 J21 k0 Z Z fun u138 s138=>jyn d0 (kc k3 (kc k3 kn)) (jy Z (jex' Z Z) (jyo Z (jvs k0 Z Z Z (wad (dix d12 0 (by omega))) (jyn d0 (kc k3 (kc k3 kn)) (jy Z (jnil Z) ?_))))))))))
 refine jy Z (jf F115_2 Z) (jyo Z (jdq (dlo d13 1 (by omega) (by omega)) fun q35 w35=>jst k1 Z29 Z Z w35.one s6 (jyn d0 (kc k3 (kc k3 kn)) (jyd (jbn ?_)))))
 have q1:inzV i V me an=setV (setV V i.Dst 0) i.Dst (ix an 0):=by simp_all
 have q2:inzE i V me e0=e0:=by simp[hc1,hc2,hc3,hc4,hc5]
 have q3:inzX i V me x0=x0:=by simp[hc1,hc2,hc3,hc4,hc5]
 have q4:inzM i V me=me:=by simp[hc1,hc2,hc3,hc4,hc5]
 have q5:inzC i V cl=cl++([⟨i.Imm,List.map V i.Args⟩]):=by simp[hc1,hc2,hc3,hc4,hc5]
 have q6:inzA i an=List.drop 1 an:=by simp[hc1,hc2,hc3,hc4,hc5]
 simp only[q1,q2,q3,q4,q5,q6]
 exact jd0 Z (v104,(resl 1 av 1 (List.length an))) Z (dc (dlo d13 1 (by omega) (by omega)) dn) (fun _ _=>(kd (kc k3 (kc k0 kn))))
 refine jve U113 U3 J21 k0 Z Z fun u138 s138=>jyn d0 (kc k3 (kc k3 kn)) (jy Z (jex' Z Z) (jyo Z (js (jl k1 O29 Z Z) (jyn d0 (kc k3 (kc k3 kn)) (jy Z (jix (i:=0) U29 Z21 d7 Z Z Z (by omega)) (jy Z (jlI (dix d7 0 (by omega)) O21 Z) (jyo Z (jvs k0 Z Z Z (wad (dix d12 0 (by omega))) (jyn d0 (kc k3 (kc k3 kn)) (jy Z (jnil Z) ?_))))))))))
 refine jy Z (jf F115_2 Z) (jyo Z (jdq (dlo d13 1 (by omega) (by omega)) fun q35 w35=>jst k1 Z29 Z Z w35.one s6 (jyn d0 (kc k3 (kc k3 kn)) (jyd (jbn ?_)))))
 have q1:inzV i V me an=setV (setV V i.Dst 0) i.Dst (ix an 0):=by simp_all
 have q2:inzE i V me e0=e0:=by simp[hc1,hc2,hc3,hc4,hc5]
 have q3:inzX i V me x0=x0:=by simp[hc1,hc2,hc3,hc4,hc5]
 have q4:inzM i V me=me:=by simp[hc1,hc2,hc3,hc4,hc5]
 have q5:inzC i V cl=cl++([⟨i.Imm,List.map V i.Args⟩]):=by simp[hc1,hc2,hc3,hc4,hc5]
 have q6:inzA i an=List.drop 1 an:=by simp[hc1,hc2,hc3,hc4,hc5]
 simp only[q1,q2,q3,q4,q5,q6]
 exact jd0 Z (v104,(resl 1 av 1 (List.length an))) Z (dc (dlo d13 1 (by omega) (by omega)) dn) (fun _ _=>(kd (kc k3 (kc k0 kn))))
 refine js (jl k1 O29 Z Z) (jyn d0 (kc k3 (kc k3 kn)) (jy Z (jix (i:=0) U29 Z21 d7 Z Z Z (by omega)) (jy Z (jlI (dix d7 0 (by omega)) O21 Z) (jyo Z (js (jl k1 O113 Z Z) (jyn d0 (kc k3 (kc k3 kn)) (jyo Z (jve U113 U3 J21 k0 Z Z fun u138 s138=>jyn d0 (kc k3 (kc k3 kn)) (jy Z (jex' Z Z) (jyo Z ?_))))))))))
 refine jvs k0 Z Z Z (wad (dix d12 0 (by omega))) (jyn d0 (kc k3 (kc k3 kn)) (jy Z (jnil Z) (jy Z (jf F115_2 Z) (jyo Z (jdq (dlo d13 1 (by omega) (by omega)) fun q35 w35=>jst k1 Z29 Z Z w35.one s6 (jyn d0 (kc k3 (kc k3 kn)) (jyd (jbn ?_))))))))
 have q1:inzV i V me an=setV (setV V i.Dst 0) i.Dst (ix an 0):=by simp_all
 have q2:inzE i V me e0=e0:=by simp[hc1,hc2,hc3,hc4,hc5]
 have q3:inzX i V me x0=x0:=by simp[hc1,hc2,hc3,hc4,hc5]
 have q4:inzM i V me=me:=by simp[hc1,hc2,hc3,hc4,hc5]
 have q5:inzC i V cl=cl++([⟨i.Imm,List.map V i.Args⟩]):=by simp[hc1,hc2,hc3,hc4,hc5]
 have q6:inzA i an=List.drop 1 an:=by simp[hc1,hc2,hc3,hc4,hc5]
 simp only[q1,q2,q3,q4,q5,q6]
 exact jd0 Z (v104,(resl 1 av 1 (List.length an))) Z (dc (dlo d13 1 (by omega) (by omega)) dn) (fun _ _=>(kd (kc k3 (kc k0 kn))))
 refine jsk (jbn ?_)
 have q1:inzV i V me an=setV V i.Dst 0:=by simp_all
 have q2:inzE i V me e0=e0:=by simp[hc1,hc2,hc3,hc4,hc5]
 have q3:inzX i V me x0=x0:=by simp[hc1,hc2,hc3,hc4,hc5]
 have q4:inzM i V me=me:=by simp[hc1,hc2,hc3,hc4,hc5]
 have q5:inzC i V cl=cl++([⟨i.Imm,List.map V i.Args⟩]):=by simp[hc1,hc2,hc3,hc4,hc5]
 have q6:inzA i an=an:=by simp_all
 simp only[q1,q2,q3,q4,q5,q6]
 exact jd0 Z (v104,av) Z (dc d7 dn) (fun _ _=>(kc k1 (kc k0 (kc k3 (kc k0 kn)))))
 refine jfz k2 (by(try simp)<;>omega) (jlit (r:=rEvent) (l:=[⟨i.Imm,List.map V i.Args⟩]) U35 I74 (by decide) Z Z Z (lA (rEvent.M (m:=⟨i.Imm,List.map V i.Args⟩) (c:=v11) d0 (rIns.W_Imm d3)) ln) fun g103=>jyn d1 (kc k3 (kc k3 kn)) (jyo Z (js (jl k1 O35 Z Z) (jyn d0 (kc k3 (kc k3 kn)) (jyo Z (jfz k0 (by(try simp)<;>omega) (japl U35 I74 (by decide) Z k5 Z Z d0 (by(try simp)<;>omega) fun v104 w24=>jyn d1 (kc k3 (kc k3 kn)) (jy Z (jnil Z) (jy Z (jf F115_1 Z) ?_)))))))))
 refine jy Z (jf F37_3 Z) (jyo Z (jst k1 Z35 Z Z w24.one s4 (jyn d0 (kc k3 (kc k3 kn)) (jyd (jx (jq (jany false (.a 0 (.a 1 (.a 2 (.a 3 (.a 4 (.a 5 (.o 6 .e))))))) Mixed (by kernel_rfl) (kc k0 (kc k2 (kc k2 kn))) fun F26=>jy Z (jl k2 O112 Z Z) (jy Z (jnil Z) (jy Z (jf F115_0 Z) (jy Z (jl k0 O113 Z Z) ?_))))))))))
 refine jy Z (jf F67_1 Z) (jy Z (jl k1 O3 Z Z) (jyo Z (jvu U113 U3 k2 Z Z Z (wl 0) (jyn d0 (kc k1 (kc k2 (kc k2 kn))) (jyd (jx (jq (jr (js (jl k4 O112 Z Z) (js (jnil Z) (js (jf F115_2 Z) ?_)))))))))))
 refine js (jl k1 O29 Z Z) (js (jln U29 d7 Z) (js (jgtr Z Z) (jn (jx ?_))))
 refine jif Z (fun hc5=>?_) (fun hc5=>?_)
 refine jany false (.a 0 (.a 1 (.a 2 (.a 4 (.a 5 (.a 6 (.a 7 (.a 8 (.a 9 (.a 13 (.a 14 (.a 15 (.w3 3 10 16 (.w 10 16 (.a 11 (.a 12 (.o 16 (.a 17 (.o 18 (.a 19 (.o 20 (.a 21 (.a 22 (.o 23 .e)))))))))) (.a 17 (.w 10 18 (.a 11 (.a 12 (.o 18 (.a 19 (.o 20 (.a 21 (.a 22 (.o 23 .e)))))))) (.a 19 (.o 10 (.a 11 (.a 12 (.o 20 (.a 21 (.a 22 (.o 23 .e))))))))))) (.a 11 (.a 12 (.w 3 16 (.o 16 (.a 17 (.o 18 (.a 19 (.o 20 (.a 21 (.a 22 (.o 23 .e)))))))) (.a 17 (.o 3 (.o 18 (.a 19 (.o 20 (.a 21 (.a 22 (.o 23 .e))))))))))) (.a 17 (.w 3 10 (.w 10 18 (.a 11 (.a 12 (.o 18 (.a 19 (.o 20 (.a 21 (.a 22 (.o 23 .e)))))))) (.a 19 (.o 10 (.a 11 (.a 12 (.o 20 (.a 21 (.a 22 (.o 23 .e))))))))) (.a 11 (.a 12 (.o 3 (.o 18 (.a 19 (.o 20 (.a 21 (.a 22 (.o 23 .e)))))))))))))))))))))))) Mixed (by kernel_rfl) (kc k3 (kc k3 kn)) fun F28=>jy Z (jl k1 O112 Z Z) (jy Z (jnil Z) (jy Z (jf F115_0 Z) (jy Z (jf F67_1 Z) (jy Z (jl k0 O3 Z Z) (jy Z (jl k1 O112 Z Z) (jy Z (jl k1 O112 Z Z) (jy Z (jnil Z) (jy Z (jf F115_2 Z) (jy Z (jl k1 O112 Z Z) (jy Z (jnil Z) ?_))))))))))
 refine jy Z (jf F115_2 Z) ?_
 refine jyw3 Z Z Z ?_ ?_ ?_
 refine js (jl k1 O113 Z Z) (jyn d0 (kc k3 (kc k3 kn)) ?_)
 refine jyw Z Z ?_ ?_
 refine js (jl k1 O29 Z Z) (jyn d0 (kc k3 (kc k3 kn)) (jy Z (jix (i:=0) U29 Z21 d7 Z Z Z (by omega)) (jy Z (jlI (dix d7 0 (by omega)) O21 Z) (jyo Z (js (jl k1 O29 Z Z) (jyn d0 (kc k3 (kc k3 kn)) (jy Z (jslo (lo:=1) U29 Z21 d7 Z Z Z (by omega)) (jyo Z (jve U113 U3 J21 k0 Z Z fun u138 s138=>jyn d0 (kc k3 (kc k3 kn)) (jy Z (jex' Z Z) ?_))))))))))
 refine jyo Z (jvs k0 Z Z Z (wad (dix d12 0 (by omega))) (jyn d0 (kc k3 (kc k3 kn)) (jy Z (jnil Z) (jy Z (jf F115_2 Z) (jyo Z (jdq (dlo d13 1 (by omega) (by omega)) fun q35 w35=>jst k1 Z29 Z Z w35.one s6 (jyn d0 (kc k3 (kc k3 kn)) (jyd (jbn ?_)))))))))
 have q1:inzV i V me an=setV (setV V i.Dst 0) i.Dst (ix an 0):=by simp_all
 have q2:inzE i V me e0=e0:=by simp[hc1,hc2,hc3,hc4,hc5]
 have q3:inzX i V me x0=x0:=by simp[hc1,hc2,hc3,hc4,hc5]
 have q4:inzM i V me=me:=by simp[hc1,hc2,hc3,hc4,hc5]
 have q5:inzC i V cl=cl++([⟨i.Imm,List.map V i.Args⟩]):=by simp[hc1,hc2,hc3,hc4,hc5]
 have q6:inzA i an=List.drop 1 an:=by simp[hc1,hc2,hc3,hc4,hc5]
 simp only[q1,q2,q3,q4,q5,q6]
 exact jd0 Z (v104,(resl 1 av 1 (List.length an))) Z (dc (dlo d13 1 (by omega) (by omega)) dn) (fun _ _=>(kd (kc k3 (kc k0 kn))))
 refine js (jl k1 O29 Z Z) (jyn d0 (kc k3 (kc k3 kn)) (jy Z (jslo (lo:=1) U29 Z21 d7 Z Z Z (by omega)) ?_))
 refine jyw Z Z ?_ ?_
 refine js (jl k1 O29 Z Z) (jyn d0 (kc k3 (kc k3 kn)) (jy Z (jix (i:=0) U29 Z21 d7 Z Z Z (by omega)) (jy Z (jlI (dix d7 0 (by omega)) O21 Z) (jyo Z (jve U113 U3 J21 k0 Z Z fun u138 s138=>jyn d0 (kc k3 (kc k3 kn)) (jy Z (jex' Z Z) (jyo Z (jvs k0 Z Z Z (wad (dix d12 0 (by omega))) (jyn d0 (kc k3 (kc k3 kn)) (jy Z (jnil Z) ?_))))))))))
 refine jy Z (jf F115_2 Z) (jyo Z (jdq (dlo d13 1 (by omega) (by omega)) fun q35 w35=>jst k1 Z29 Z Z w35.one s6 (jyn d0 (kc k3 (kc k3 kn)) (jyd (jbn ?_)))))
 have q1:inzV i V me an=setV (setV V i.Dst 0) i.Dst (ix an 0):=by simp_all
 have q2:inzE i V me e0=e0:=by simp[hc1,hc2,hc3,hc4,hc5]
 have q3:inzX i V me x0=x0:=by simp[hc1,hc2,hc3,hc4,hc5]
 have q4:inzM i V me=me:=by simp[hc1,hc2,hc3,hc4,hc5]
 have q5:inzC i V cl=cl++([⟨i.Imm,List.map V i.Args⟩]):=by simp[hc1,hc2,hc3,hc4,hc5]
 have q6:inzA i an=List.drop 1 an:=by simp[hc1,hc2,hc3,hc4,hc5]
 simp only[q1,q2,q3,q4,q5,q6]
 exact jd0 Z (v104,(resl 1 av 1 (List.length an))) Z (dc (dlo d13 1 (by omega) (by omega)) dn) (fun _ _=>(kd (kc k3 (kc k0 kn))))
 refine jve U113 U3 J21 k0 Z Z fun u138 s138=>jyn d0 (kc k3 (kc k3 kn)) (jy Z (jex' Z Z) (jyo Z (js (jl k1 O29 Z Z) (jyn d0 (kc k3 (kc k3 kn)) (jy Z (jix (i:=0) U29 Z21 d7 Z Z Z (by omega)) (jy Z (jlI (dix d7 0 (by omega)) O21 Z) (jyo Z (jvs k0 Z Z Z (wad (dix d12 0 (by omega))) (jyn d0 (kc k3 (kc k3 kn)) (jy Z (jnil Z) ?_))))))))))
 refine jy Z (jf F115_2 Z) (jyo Z (jdq (dlo d13 1 (by omega) (by omega)) fun q35 w35=>jst k1 Z29 Z Z w35.one s6 (jyn d0 (kc k3 (kc k3 kn)) (jyd (jbn ?_)))))
 have q1:inzV i V me an=setV (setV V i.Dst 0) i.Dst (ix an 0):=by simp_all
 have q2:inzE i V me e0=e0:=by simp[hc1,hc2,hc3,hc4,hc5]
 have q3:inzX i V me x0=x0:=by simp[hc1,hc2,hc3,hc4,hc5]
 have q4:inzM i V me=me:=by simp[hc1,hc2,hc3,hc4,hc5]
 have q5:inzC i V cl=cl++([⟨i.Imm,List.map V i.Args⟩]):=by simp[hc1,hc2,hc3,hc4,hc5]
 have q6:inzA i an=List.drop 1 an:=by simp[hc1,hc2,hc3,hc4,hc5]
 simp only[q1,q2,q3,q4,q5,q6]
 exact jd0 Z (v104,(resl 1 av 1 (List.length an))) Z (dc (dlo d13 1 (by omega) (by omega)) dn) (fun _ _=>(kd (kc k3 (kc k0 kn))))
 refine js (jl k1 O29 Z Z) (jyn d0 (kc k3 (kc k3 kn)) (jy Z (jix (i:=0) U29 Z21 d7 Z Z Z (by omega)) (jy Z (jlI (dix d7 0 (by omega)) O21 Z) ?_)))
 refine jyw Z Z ?_ ?_
 refine js (jl k1 O113 Z Z) (jyn d0 (kc k3 (kc k3 kn)) (jyo Z (js (jl k1 O29 Z Z) (jyn d0 (kc k3 (kc k3 kn)) (jy Z (jslo (lo:=1) U29 Z21 d7 Z Z Z (by omega)) (jyo Z (jve U113 U3 J21 k0 Z Z fun u138 s138=>jyn d0 (kc k3 (kc k3 kn)) (jy Z (jex' Z Z) (jyo Z (jvs k0 Z Z Z (wad (dix d12 0 (by omega))) ?_))))))))))
 refine jyn d0 (kc k3 (kc k3 kn)) (jy Z (jnil Z) (jy Z (jf F115_2 Z) (jyo Z (jdq (dlo d13 1 (by omega) (by omega)) fun q35 w35=>jst k1 Z29 Z Z w35.one s6 (jyn d0 (kc k3 (kc k3 kn)) (jyd (jbn ?_)))))))
 have q1:inzV i V me an=setV (setV V i.Dst 0) i.Dst (ix an 0):=by simp_all
 have q2:inzE i V me e0=e0:=by simp[hc1,hc2,hc3,hc4,hc5]
 have q3:inzX i V me x0=x0:=by simp[hc1,hc2,hc3,hc4,hc5]
 have q4:inzM i V me=me:=by simp[hc1,hc2,hc3,hc4,hc5]
 have q5:inzC i V cl=cl++([⟨i.Imm,List.map V i.Args⟩]):=by simp[hc1,hc2,hc3,hc4,hc5]
 have q6:inzA i an=List.drop 1 an:=by simp[hc1,hc2,hc3,hc4,hc5]
 simp only[q1,q2,q3,q4,q5,q6]
 exact jd0 Z (v104,(resl 1 av 1 (List.length an))) Z (dc (dlo d13 1 (by omega) (by omega)) dn) (fun _ _=>(kd (kc k3 (kc k0 kn))))
 refine js (jl k1 O29 Z Z) (jyn d0 (kc k3 (kc k3 kn)) (jy Z (jslo (lo:=1) U29 Z21 d7 Z Z Z (by omega)) (jyo Z (js (jl k1 O113 Z Z) (jyn d0 (kc k3 (kc k3 kn)) (jyo Z (jve U113 U3 J21 k0 Z Z fun u138 s138=>jyn d0 (kc k3 (kc k3 kn)) (jy Z (jex' Z Z) (jyo Z (jvs k0 Z Z Z (wad (dix d12 0 (by omega))) ?_))))))))))
 refine jyn d0 (kc k3 (kc k3 kn)) (jy Z (jnil Z) (jy Z (jf F115_2 Z) (jyo Z (jdq (dlo d13 1 (by omega) (by omega)) fun q35 w35=>jst k1 Z29 Z Z w35.one s6 (jyn d0 (kc k3 (kc k3 kn)) (jyd (jbn ?_)))))))
 have q1:inzV i V me an=setV (setV V i.Dst 0) i.Dst (ix an 0):=by simp_all
 have q2:inzE i V me e0=e0:=by simp[hc1,hc2,hc3,hc4,hc5]
 have q3:inzX i V me x0=x0:=by simp[hc1,hc2,hc3,hc4,hc5]
 have q4:inzM i V me=me:=by simp[hc1,hc2,hc3,hc4,hc5]
 have q5:inzC i V cl=cl++([⟨i.Imm,List.map V i.Args⟩]):=by simp[hc1,hc2,hc3,hc4,hc5]
 have q6:inzA i an=List.drop 1 an:=by simp[hc1,hc2,hc3,hc4,hc5]
 simp only[q1,q2,q3,q4,q5,q6]
 exact jd0 Z (v104,(resl 1 av 1 (List.length an))) Z (dc (dlo d13 1 (by omega) (by omega)) dn) (fun _ _=>(kd (kc k3 (kc k0 kn))))
 refine js (jl k1 O29 Z Z) (jyn d0 (kc k3 (kc k3 kn)) (jy Z (jslo (lo:=1) U29 Z21 d7 Z Z Z (by omega)) ?_))
 refine jyw Z Z ?_ ?_
 refine js (jl k1 O113 Z Z) (jyn d0 (kc k3 (kc k3 kn)) ?_)
 refine jyw Z Z ?_ ?_
 refine js (jl k1 O29 Z Z) (jyn d0 (kc k3 (kc k3 kn)) (jy Z (jix (i:=0) U29 Z21 d7 Z Z Z (by omega)) (jy Z (jlI (dix d7 0 (by omega)) O21 Z) (jyo Z (jve U113 U3 J21 k0 Z Z fun u138 s138=>jyn d0 (kc k3 (kc k3 kn)) (jy Z (jex' Z Z) (jyo Z (jvs k0 Z Z Z (wad (dix d12 0 (by omega))) (jyn d0 (kc k3 (kc k3 kn)) (jy Z (jnil Z) ?_))))))))))
 refine jy Z (jf F115_2 Z) (jyo Z (jdq (dlo d13 1 (by omega) (by omega)) fun q35 w35=>jst k1 Z29 Z Z w35.one s6 (jyn d0 (kc k3 (kc k3 kn)) (jyd (jbn ?_)))))
 have q1:inzV i V me an=setV (setV V i.Dst 0) i.Dst (ix an 0):=by simp_all
 have q2:inzE i V me e0=e0:=by simp[hc1,hc2,hc3,hc4,hc5]
 have q3:inzX i V me x0=x0:=by simp[hc1,hc2,hc3,hc4,hc5]
 have q4:inzM i V me=me:=by simp[hc1,hc2,hc3,hc4,hc5]
 have q5:inzC i V cl=cl++([⟨i.Imm,List.map V i.Args⟩]):=by simp[hc1,hc2,hc3,hc4,hc5]
 have q6:inzA i an=List.drop 1 an:=by simp[hc1,hc2,hc3,hc4,hc5]
 simp only[q1,q2,q3,q4,q5,q6]
 exact jd0 Z (v104,(resl 1 av 1 (List.length an))) Z (dc (dlo d13 1 (by omega) (by omega)) dn) (fun _ _=>(kd (kc k3 (kc k0 kn))))
 refine jve U113 U3 J21 k0 Z Z fun u138 s138=>jyn d0 (kc k3 (kc k3 kn)) (jy Z (jex' Z Z) (jyo Z (js (jl k1 O29 Z Z) (jyn d0 (kc k3 (kc k3 kn)) (jy Z (jix (i:=0) U29 Z21 d7 Z Z Z (by omega)) (jy Z (jlI (dix d7 0 (by omega)) O21 Z) (jyo Z (jvs k0 Z Z Z (wad (dix d12 0 (by omega))) (jyn d0 (kc k3 (kc k3 kn)) (jy Z (jnil Z) ?_))))))))))
 refine jy Z (jf F115_2 Z) (jyo Z (jdq (dlo d13 1 (by omega) (by omega)) fun q35 w35=>jst k1 Z29 Z Z w35.one s6 (jyn d0 (kc k3 (kc k3 kn)) (jyd (jbn ?_)))))
 have q1:inzV i V me an=setV (setV V i.Dst 0) i.Dst (ix an 0):=by simp_all
 have q2:inzE i V me e0=e0:=by simp[hc1,hc2,hc3,hc4,hc5]
 have q3:inzX i V me x0=x0:=by simp[hc1,hc2,hc3,hc4,hc5]
 have q4:inzM i V me=me:=by simp[hc1,hc2,hc3,hc4,hc5]
 have q5:inzC i V cl=cl++([⟨i.Imm,List.map V i.Args⟩]):=by simp[hc1,hc2,hc3,hc4,hc5]
 have q6:inzA i an=List.drop 1 an:=by simp[hc1,hc2,hc3,hc4,hc5]
 simp only[q1,q2,q3,q4,q5,q6]
 exact jd0 Z (v104,(resl 1 av 1 (List.length an))) Z (dc (dlo d13 1 (by omega) (by omega)) dn) (fun _ _=>(kd (kc k3 (kc k0 kn))))
 refine js (jl k1 O29 Z Z) (jyn d0 (kc k3 (kc k3 kn)) (jy Z (jix (i:=0) U29 Z21 d7 Z Z Z (by omega)) (jy Z (jlI (dix d7 0 (by omega)) O21 Z) (jyo Z (js (jl k1 O113 Z Z) (jyn d0 (kc k3 (kc k3 kn)) (jyo Z (jve U113 U3 J21 k0 Z Z fun u138 s138=>jyn d0 (kc k3 (kc k3 kn)) (jy Z (jex' Z Z) (jyo Z ?_))))))))))
 refine jvs k0 Z Z Z (wad (dix d12 0 (by omega))) (jyn d0 (kc k3 (kc k3 kn)) (jy Z (jnil Z) (jy Z (jf F115_2 Z) (jyo Z (jdq (dlo d13 1 (by omega) (by omega)) fun q35 w35=>jst k1 Z29 Z Z w35.one s6 (jyn d0 (kc k3 (kc k3 kn)) (jyd (jbn ?_))))))))
 have q1:inzV i V me an=setV (setV V i.Dst 0) i.Dst (ix an 0):=by simp_all
 have q2:inzE i V me e0=e0:=by simp[hc1,hc2,hc3,hc4,hc5]
 have q3:inzX i V me x0=x0:=by simp[hc1,hc2,hc3,hc4,hc5]
 have q4:inzM i V me=me:=by simp[hc1,hc2,hc3,hc4,hc5]
 have q5:inzC i V cl=cl++([⟨i.Imm,List.map V i.Args⟩]):=by simp[hc1,hc2,hc3,hc4,hc5]
 have q6:inzA i an=List.drop 1 an:=by simp[hc1,hc2,hc3,hc4,hc5]
 simp only[q1,q2,q3,q4,q5,q6]
 exact jd0 Z (v104,(resl 1 av 1 (List.length an))) Z (dc (dlo d13 1 (by omega) (by omega)) dn) (fun _ _=>(kd (kc k3 (kc k0 kn))))
 refine jsk (jbn ?_)
 have q1:inzV i V me an=setV V i.Dst 0:=by simp_all
 have q2:inzE i V me e0=e0:=by simp[hc1,hc2,hc3,hc4,hc5]
 have q3:inzX i V me x0=x0:=by simp[hc1,hc2,hc3,hc4,hc5]
 have q4:inzM i V me=me:=by simp[hc1,hc2,hc3,hc4,hc5]
 have q5:inzC i V cl=cl++([⟨i.Imm,List.map V i.Args⟩]):=by simp[hc1,hc2,hc3,hc4,hc5]
 have q6:inzA i an=an:=by simp_all
 simp only[q1,q2,q3,q4,q5,q6]
 exact jd0 Z (v104,av) Z (dc d7 dn) (fun _ _=>(kc k1 (kc k0 (kc k3 (kc k0 kn)))))
 refine jq (jr (js (jeql Z Z) (ja Z (jn (jx ?_)))))
 refine jif Z (fun hc6=>?_) (fun hc6=>?_)
 have ho2:=ho2 hc1 hc2 hc4
 refine jany false (.a 0 (.a 1 (.a 2 (.a 3 (.a 4 (.a 5 (.a 6 (.a 7 (.a 8 (.a 9 (.a 10 (.a 11 (.a 12 (.a 13 (.a 14 (.a 15 (.a 16 (.a 17 (.o 18 (.a 19 (.a 20 (.a 21 (.o 22 (.o 23 .e)))))))))))))))))))))))) Mixed (by kernel_rfl) (kc k0 (kc k1 (kc k1 (kc k1 kn)))) fun F36=>jy Z (jl k3 O112 Z Z) (jy Z (jnil Z) (jy Z (jf F115_0 Z) (jy Z (jl k0 O113 Z Z) (jy Z (jf F67_1 Z) (jy Z (jl k2 O3 Z Z) (jy Z (jl k3 O112 Z Z) (jy Z (jnil Z) (jy Z (jf F115_0 Z) (jy Z (jl k0 O113 Z Z) (jy Z (jf F67_2 Z) ?_))))))))))
 refine jy Z (jl k2 O3 Z Z) (jy Z (jmv Z) (jy Z (jig (i:=0) U29 Z21 k1 Z Z Z (by first|omega|(simp<;>omega))) (jy Z (jgI k1 (by first|omega|(simp<;>omega)) O21 Z) (jy Z (jmv Z) (jy Z (jig (i:=1) U29 Z21 k1 Z Z Z (by first|omega|(simp<;>omega))) (jy Z (jgI k1 (by first|omega|(simp<;>omega)) O21 Z) (jyo Z (jwr (wgl (i:=0) k2 (by omega)) fun w38=>jwr (wgl (i:=1) k2 (by omega)) fun w39=>jcv E87 Z Z (wWide_ct (ix (List.map V i.Args) 0) (ix (List.map V i.Args) 1) w38 w39) dn kn (jyn d0 (kc k0 (kc k1 (kc k1 (kc k1 kn)))) ?_)))))))))
 refine jy Z (jmv Z) (jy Z (jex' Z Z) (jy Z (jex' Z Z) (jyo Z (jvu U113 U3 k1 Z Z Z (wp (JE.wrap_wrap _ _)) (jyn d0 (kc k1 (kc k1 (kc k1 (kc k1 kn)))) (jyo Z (jvu U113 U3 k0 Z Z Z (wp (JE.wrap_wrap _ _)) (jyn d0 (kc k1 (kc k1 (kc k1 (kc k1 kn)))) (jyd (jbn ?_))))))))))
 have q1:inzV i V me an=setV (setV V i.Dst ((wideM (ix (List.map V i.Args) 0) (ix (List.map V i.Args) 1)).1)) i.Two ((wideM (ix (List.map V i.Args) 0) (ix (List.map V i.Args) 1)).2):=by simp[hc1,hc2,hc3,hc4,hc6]
 have q2:inzE i V me e0=e0:=by simp[hc1,hc2,hc3,hc4,hc6]
 have q3:inzX i V me x0=x0:=by simp[hc1,hc2,hc3,hc4,hc6]
 have q4:inzM i V me=me:=by simp[hc1,hc2,hc3,hc4,hc6]
 have q5:inzC i V cl=cl:=by simp[hc1,hc2,hc3,hc4,hc6]
 have q6:inzA i an=an:=by simp[hc1,hc2,hc3,hc4,hc6]
 simp only[q1,q2,q3,q4,q5,q6]
 exact jd0 Z (cv,av) Z (dc d3 dn) (fun _ _=>(kc k1 (kc k0 (kc k3 (kc k3 kn)))))
 have ho2:=ho2 hc1 hc2 hc4
 refine jq (jany false (.a 0 (.a 1 (.a 2 (.a 3 (.a 4 (.a 5 (.a 6 (.a 7 (.o 8 (.a 9 (.a 10 (.a 11 (.a 12 (.a 13 .e)))))))))))))) Mixed (by kernel_rfl) (kc k2 (kc k2 kn)) fun F42=>jy Z (jf F67_0 Z) (jy Z (jl k1 O3 Z Z) (jy Z (jmv Z) (jy Z (jig (i:=0) U29 Z21 k0 Z Z Z (by first|omega|(simp<;>omega))) (jy Z (jgI k0 (by first|omega|(simp<;>omega)) O21 Z) (jy Z (jmv Z) (jy Z (jig (i:=1) U29 Z21 k0 Z Z Z (by first|omega|(simp<;>omega))) (jy Z (jgI k0 (by first|omega|(simp<;>omega)) O21 Z) (jyo Z (jcv E84 Z Z (wDo_ct i.Op (ix (List.map V i.Args) 0) (ix (List.map V i.Args) 1)) dn kn ?_))))))))))
 refine jyn d0 (kc k2 (kc k2 kn)) (jy Z (jmv Z) (jy Z (jex' Z Z) (jy Z (jex' Z Z) (jy Z (jas Z) (jy Z (jas Z) (jyd (jx (jq (jany false (.a 0 (.a 1 (.a 2 (.a 3 (.a 4 (.a 5 (.a 6 (.o 7 .e)))))))) Mixed (by kernel_rfl) (kc k0 (kc k2 (kc k2 kn))) fun F44=>jy Z (jl k2 O112 Z Z) (jy Z (jnil Z) ?_))))))))))
 refine jy Z (jf F115_0 Z) (jy Z (jl k0 O113 Z Z) (jy Z (jf F67_1 Z) (jy Z (jl k1 O3 Z Z) (jy Z (jmv Z) (jyo Z (jvu U113 U3 k1 Z Z Z (wdo (wgl k2 (by omega))) (jyn d0 (kc k1 (kc k2 (kc k2 kn))) (jyd (jx (jq (jr ?_)))))))))))
 refine jm Z (js (jnot Z) (jn (jx ?_)))
 refine jif Z (fun hc7=>?_) (fun hc7=>?_)
 refine jr (js (jl k4 O112 Z Z) (jc E101 Z Z (rEnd_ct _ _ Z w1.one w2.one w3.one) dn (kc k1 kn) (fun _=>p0) (fun _=>p1) fun _=>jn (jbn ?_)))
 have q1:inzV i V me an=setV V i.Dst ((doM i.Op (ix (List.map V i.Args) 0) (ix (List.map V i.Args) 1)).1):=by simp[hc1,hc2,hc3,hc4,hc6,hc7]
 have q2:inzE i V me e0=2:=by simp[hc1,hc2,hc3,hc4,hc6,hc7]
 have q3:inzX i V me x0=(-1):=by simp[hc1,hc2,hc3,hc4,hc6,hc7]
 have q4:inzM i V me=me:=by simp[hc1,hc2,hc3,hc4,hc6,hc7]
 have q5:inzC i V cl=cl:=by simp[hc1,hc2,hc3,hc4,hc6,hc7]
 have q6:inzA i an=an:=by simp[hc1,hc2,hc3,hc4,hc6,hc7]
 simp only[q1,q2,q3,q4,q5,q6]
 exact jd0 Z (cv,av) Z (dc d2 dn) (fun _ _=>(kd (kc k3 (kc k3 kn))))
 refine jsk (jbn ?_)
 have q1:inzV i V me an=setV V i.Dst ((doM i.Op (ix (List.map V i.Args) 0) (ix (List.map V i.Args) 1)).1):=by simp[hc1,hc2,hc3,hc4,hc6,hc7]
 have q2:inzE i V me e0=e0:=by simp[hc1,hc2,hc3,hc4,hc6,hc7]
 have q3:inzX i V me x0=x0:=by simp[hc1,hc2,hc3,hc4,hc6,hc7]
 have q4:inzM i V me=me:=by simp[hc1,hc2,hc3,hc4,hc6,hc7]
 have q5:inzC i V cl=cl:=by simp[hc1,hc2,hc3,hc4,hc6,hc7]
 have q6:inzA i an=an:=by simp[hc1,hc2,hc3,hc4,hc6,hc7]
 simp only[q1,q2,q3,q4,q5,q6]
 exact jd0 Z (cv,av) Z (dc d2 dn) (fun _ _=>(kc k1 (kc k0 (kc k3 (kc k3 kn)))))
end Go.Proofs.YtmfkkodnghambaaGreat
namespace Go.Proofs.YtmfkkodnghambaaGreat
open Go.JE
theorem E26:Ent Tryz.prog 26:=⟨_,Tryz.func26,by kernel_rfl,by kernel_rfl⟩
theorem E48:Ent Tryz.prog 48:=⟨_,Tryz.func48,by kernel_rfl,by kernel_rfl⟩
theorem E49:Ent Tryz.prog 49:=⟨_,Tryz.func49,by kernel_rfl,by kernel_rfl⟩
theorem E50:Ent Tryz.prog 50:=⟨_,Tryz.func50,by kernel_rfl,by kernel_rfl⟩
theorem E51:Ent Tryz.prog 51:=⟨_,Tryz.func51,by kernel_rfl,by kernel_rfl⟩
set_option maxRecDepth 4000
end Go.Proofs.YtmfkkodnghambaaGreat
namespace Go.Proofs.YtmfkkodnghambaaGreat
open Go.JE
def valV(vs:List Int):Int→Int:=fun k=>if 0≤k∧k<vs.length then ix vs k.toNat else 0
theorem valV_at{vs:List Int}{k:Int}(h:0≤k∧k<vs.length):valV vs k=ix vs k.toNat:=if_pos h
theorem valV_set{vs:List Int}{k x:Int}(h:0≤k∧k<vs.length):valV (vs.set k.toNat x)=setV (valV vs) k x:=by
 funext j
 show(if 0≤j∧j<(vs.set k.toNat x).length then ix (vs.set k.toNat x) j.toNat else 0)=if j=k then x else if 0≤j∧j<vs.length then ix vs j.toNat else 0
 rw[List.length_set]
 by_cases e:j=k
 ·subst e;rw[if_pos h,if_pos rfl,ix_set (by omega),if_pos rfl]
 ·rw[if_neg e]
  by_cases h2:0≤j∧j<vs.length
  ·rw[if_pos h2,if_pos h2,ix_set (by omega),if_neg (by omega)]
  ·rw[if_neg h2,if_neg h2]
theorem valV_rep{n:Nat}:valV (List.replicate n 0)=fun _=>0:=by
 funext j;unfold valV;split
 ·rename_i h
  rw[List.length_replicate] at h
  rw[ix_eq (by simp;omega)];simp
 ·rfl
theorem overW_nil(V:Int→Int):overW [] V=V:=by funext j;simp[overW,lkW]
theorem valV_phis0{fr:Int}{vs:List Int}:∀(l:List D.Phi) (nx:List (Int×Int)) (r:List Int),r.length=vs.length→valV r=overW nx (valV vs)→(∀p∈l,(0≤p.Dst∧p.Dst<vs.length)∧(∀x∈p.In,0≤x.Val∧x.Val<vs.length)∧fr∈p.In.map (fun x=>x.From))→valV (setP r l (l.map (phiVal fr vs)))=overW (phWl fr (valV vs) l nx) (valV vs)
 | [],nx,r,_,h,_=>h
 | p::l,nx,r,hl,h,hg=>by
  obtain⟨g1,g2,g3⟩:=hg p (by simp)
  obtain⟨i1,i2⟩:=idx_from g3
  have hx:=g2 _ (ix_mem (l:=p.In) (i:=Int.toNat (idxM p.In (isFrom fr))) (by omega))
  have hv:phiVal fr vs p=valV vs (ix p.In (Int.toNat (idxM p.In (isFrom fr)))).Val:=(valV_at hx).symm
  rw[List.map_cons,setP,hv]
  refine valV_phis0 l (upW nx p.Dst (valV vs (ix p.In (Int.toNat (idxM p.In (isFrom fr)))).Val)) _ (by rw[List.length_set];exact hl) ?_ (fun q hq=>hg q (by simp[hq]))
  rw[valV_set (by rw[hl];exact g1),h]
  funext j;unfold overW setV;rw[lkW_up];split<;>rfl
theorem valV_phis{fr:Int}{vs:List Int}{l:List D.Phi}(hg:∀p∈l,(0≤p.Dst∧p.Dst<vs.length)∧(∀x∈p.In,0≤x.Val∧x.Val<vs.length)∧fr∈p.In.map (fun x=>x.From)):valV (phisM l fr vs)=phisV fr l (valV vs) :=
 valV_phis0 l [] vs rfl (overW_nil _).symm hg
theorem stE_end{en st N:Int}(h:en≠0):stE en st N=en:=by unfold stE;rw[if_neg (fun h9=>h h9.1)]
theorem stepF_end{N:Int}{s:RSt}(h:s.en≠0):stepF N s=s:=by
 unfold stepF stE stV stS
 rw[if_neg (fun h9=>h h9.1),if_neg (fun h9=>h h9.1),if_neg]
 unfold stE;rw[if_neg (fun h9=>h h9.1)];exact h
theorem stepOk_end{N:Int}{s:RSt}(h:s.en≠0):stepOk N s=false:=by unfold stepOk stB;rw[stE_end h];simpa using h
theorem lisF_end{N:Int}{s:RSt}(h:s.en≠0):∀l:List D.Ins,(lisF N l s).1=s
 | []=>rfl
 | i::l=>by rw[lisF,if_neg (by rw[stepOk_end h];decide)];exact stepF_end h
theorem blk_trap{bs:List D.Block}{N a fr:Int}{k j:Nat}{s s':RSt}(h:lisF N (ix bs (Int.toNat a)).Ins (phisF fr (ix bs (Int.toNat a)).Phis s)=lisF N ((ix bs (Int.toNat a)).Ins.drop j) s')(he:s'.en≠0)(hk:0<k):blocksF bs N k a fr s=s':=by
 have h1:=lisF_end (N:=N) he ((ix bs (Int.toNat a)).Ins.drop j)
 rw[←h] at h1
 obtain⟨m,rfl⟩:∃m,k=m+1:=⟨k-1,by omega⟩
 rw[blocksF,h1]
 split
 ·rw[if_neg (by rw[stepOk_end he];decide)];exact stepF_end he
 ·rfl
def wrongO:D.Outcome:=⟨4,0,[],[],0⟩
def runR(r:Bool)(f:D.Func)(i:D.Input):D.Outcome:=if r then runF f i else wrongO
theorem runR_no{r:Bool}{f:D.Func}{i:D.Input}(h:r=false):runR r f i=wrongO:=by unfold runR;rw[h];rfl
theorem runR_yes{r:Bool}{f:D.Func}{i:D.Input}(h:r=true):runR r f i=runF f i:=by unfold runR;rw[h];rfl
theorem alike_rf(a:D.Outcome):alikeO a a=true:=alike_refl a
theorem wT_at{t:D.Term}{vs:List Int}(h:0<t.Args.length)(hv:∀a∈t.Args,0≤a∧a<vs.length):ix (wT t (valV vs)) 0=ix vs (Int.toNat (ix t.Args 0)):=by
 unfold wT
 rw[ix_app (by simpa using h),ix_mapG h,valV_at (hv _ (ix_mem h))]
theorem wT_no{t:D.Term}{V:Int→Int}(h:¬0<t.Args.length):ix (wT t V) 0=0:=by
 unfold wT
 rw[List.eq_nil_of_length_eq_zero (show t.Args.length=0 by omega)];rfl
theorem aI_vs{i:D.Ins}{vs:List Int}{k:Nat}(hv:∀a∈i.Args,0≤a∧a<vs.length)(h:k<i.Args.length):aI i (valV vs) k=ix vs (Int.toNat (ix i.Args k)):=by
 unfold aI;rw[ix_mapG h,valV_at (hv _ (ix_mem h))]
theorem args_vs{i:D.Ins}{vs:List Int}(hv:∀a∈i.Args,0≤a∧a<vs.length):i.Args.map (fun r=>ix vs (Int.toNat r))=i.Args.map (valV vs):=List.map_congr_left (fun a ha=>(valV_at (hv a ha)).symm)
def nA(i:D.Ins)(na:Nat):Nat:=if i.Op=17 then na+1 else na
theorem inzA_na{i:D.Ins}{an:List Int}{na:Nat}:inzA i (an.drop na)=an.drop (nA i na):=by
 unfold inzA nA;split
 ·rw[List.drop_drop]
 ·rfl
def InsP(i:D.Ins)(vs me an:List Int)(na:Nat)(ws:List Int):Prop:=ws.length=vs.length∧(inzT i (valV vs) me=0→valV ws=inzV i (valV vs) me (an.drop na))
theorem InsP.trap{i:D.Ins}{vs me an:List Int}{na:Nat}(h:inzT i (valV vs) me≠0):InsP i vs me an na vs:=⟨rfl,fun h9=>absurd h9 h⟩
theorem InsP.no{i:D.Ins}{vs me an:List Int}{na:Nat}(h:inzV i (valV vs) me (an.drop na)=valV vs):InsP i vs me an na vs:=⟨rfl,fun _=>h.symm⟩
theorem InsP.one{i:D.Ins}{vs me an:List Int}{na:Nat}{d x:Int}(hd:0≤d∧d<vs.length)(h:inzV i (valV vs) me (an.drop na)=setV (valV vs) d x):InsP i vs me an na (vs.set d.toNat x):=⟨by simp,fun _=>by rw[valV_set hd,h]⟩
theorem InsP.two{i:D.Ins}{vs me an:List Int}{na:Nat}{d x d2 x2:Int}(hd:0≤d∧d<vs.length)(hd2:0≤d2∧d2<vs.length)(h:inzV i (valV vs) me (an.drop na)=setV (setV (valV vs) d x) d2 x2):InsP i vs me an na ((vs.set d.toNat x).set d2.toNat x2):=⟨by simp,fun _=>by rw[valV_set (by simpa using hd2),valV_set hd,h]⟩
theorem drop_pos{an:List Int}{na:Nat}:0<(an.drop na).length↔(na:Int)<an.length:=by rw[List.length_drop];omega
theorem drop_ix0{an:List Int}{na:Nat}:ix (an.drop na) 0=ix an na:=by simp[ix,List.getD]
def valid4(n:Nat)(l:List D.Phi)(fr:Int):Prop:=∀p∈l,((0≤p.Dst∧p.Dst<n)∧(∀x∈p.In,0≤x.Val∧x.Val<n)∧fr∈p.In.map (fun x=>x.From))∧(p.In.map (fun x=>x.From)).Nodup
theorem E106:Ent Tryz.prog 106:=⟨_,Tryz.func106,by kernel_rfl,by kernel_rfl⟩
theorem F122_0:Fld Tryz.prog 122 0 0:=⟨_,_,Tryz.underlying122,rfl,rfl,1,(by unfold Sz;kernel_rfl),by decide⟩
theorem F122_1:Fld Tryz.prog 122 1 1:=⟨_,_,Tryz.underlying122,rfl,rfl,5,(by unfold Sz;kernel_rfl),by decide⟩
theorem F122_2:Fld Tryz.prog 122 2 6:=⟨_,_,Tryz.underlying122,rfl,rfl,4,(by unfold Sz;kernel_rfl),by decide⟩
theorem F122_4:Fld Tryz.prog 122 4 11:=⟨_,_,Tryz.underlying122,rfl,rfl,1,(by unfold Sz;kernel_rfl),by decide⟩
set_option maxRecDepth 4000
theorem r4End_ct{g0:Nat}{v0 m0 c0 ia im a0:Value}{e0 x0 st0 ss0 na:Int}{n0:Bool}(kd:Int)(x:Int)(ov:v0.oneCell'=true)(om:m0.oneCell'=true)(oc:c0.oneCell'=true)(oi:ia.oneCell'=true)(oj:im.oneCell'=true)(oa:a0.oneCell'=true):Tr Tryz.prog 106 #[.pointer (some ⟨g0,0,none⟩),.int .i64 kd,.int .i32 x] [] [bx g0 122 [v0,.int .i64 e0,.int .i32 x0,m0,c0,.int .i64 st0,ia,im,a0,.int .i64 ss0,.int .i64 na,.bool n0]] (fun _:Unit => .tuple #[]) (fun _=>[]) (fun _ _=>[bx g0 122 [v0,.int .i64 kd,.int .i32 x,m0,c0,.int .i64 st0,ia,im,a0,.int .i64 ss0,.int .i64 na,.bool true]]):=by
 refine jenter (args:=[.pointer (some ⟨g0,0,none⟩),.int .i64 kd,.int .i32 x]) Tryz.func106 rfl rfl rfl fun w0 X=>?_
 refine jq (jr (jm Z (js (jnil Z) (js (jf F122_4 Z) (jst k0 Z4 Z Z Z s11 (jn (jx (jq (jr (jm Z (jm Z ?_)))))))))))
 refine js (jnil Z) (js (jf F122_1 Z) (js (jf F37_0 Z) (jst k0 Z3 Z Z Z s1 (jn (jx (jr (jm Z (jm Z (js (jnil Z) (js (jf F122_1 Z) (js (jf F37_1 Z) ?_)))))))))))
 refine jst k0 Z21 Z Z Z s2 (jn ?_)
 exact jd0 Z () Z dn (fun _ _=>(kc k0 kn))
theorem r4Step_ct{g0:Nat}{v0 m0 c0 ia im a0:Value}{x0 st0 ss0 na:Int}(ov:v0.oneCell'=true)(om:m0.oneCell'=true)(oc:c0.oneCell'=true)(oi:ia.oneCell'=true)(oj:im.oneCell'=true)(oa:a0.oneCell'=true)(hs9:0≤st0∧st0≤1000000000):Tr Tryz.prog 56 #[.pointer (some ⟨g0,0,none⟩)] [] [bx g0 122 [v0,.int .i64 0,.int .i32 x0,m0,c0,.int .i64 st0,ia,im,a0,.int .i64 ss0,.int .i64 na,.bool false]] (fun _:Unit => .bool (stB 0 st0 ss0)) (fun _=>[]) (fun _ _=>[bx g0 122 [v0,.int .i64 (stE 0 st0 ss0),.int .i32 (stV 0 x0 st0 ss0),m0,c0,.int .i64 (stS 0 st0 ss0),ia,im,a0,.int .i64 ss0,.int .i64 na,.bool (!stB 0 st0 ss0)]]):=by
 refine jenter (args:=[.pointer (some ⟨g0,0,none⟩)]) Tryz.func56 rfl rfl rfl fun w0 X=>?_
 refine jq (jr (ja Z (jn (jx (jq (jq (jstl Mixed (by kernel_rfl) (jt (jmv Z) (jt (jnil Z) (jt (jf F122_1 Z) (jt (jf F37_4 Z) ?_)))))))))))
 refine jt (jl k0 O3 Z Z) (jt (jmv Z) (jt (jnil Z) (jt (jf F122_2 Z) (jt (jf F31_3 Z) (jt (jl k0 O3 Z Z) (jt (jgeq Z Z) (jdn (jx ?_))))))))
 refine jif Z (fun hc1=>?_) (fun hc1=>?_)
 refine jq (jr (jm Z (jc E106 Z Z (r4End_ct _ _ ov om oc oi oj oa) dn (kc k0 kn) (fun _=>p0) (fun _=>p1) fun _=>jn (jx (jq (jr (ja Z (jn (jx (jrt ?_))))))))))
 refine jtr ?_
 have q1:stE 0 st0 ss0=3:=by simp_all[stE,stV,stB,stS]<;>omega
 have q2:stV 0 x0 st0 ss0=0:=by simp_all[stE,stV,stB,stS]<;>omega
 have q3:stS 0 st0 ss0=st0:=by simp_all[stE,stV,stB,stS]<;>omega
 have q4:stB 0 st0 ss0=false:=by simp_all[stE,stV,stB,stS]<;>omega
 have q5:(!stB 0 st0 ss0)=true:=by simp_all[stE,stV,stB,stS]<;>omega
 rw[q5,q1,q2,q3,q4]
 exact jr1 Z Z () Z dn (fun _ _=>(kc k0 kn))
 refine jsk (jx (jq (jr (jm Z (js (jnil Z) (js (jf F122_1 Z) (js (jf F37_4 Z) (js (jl k0 O3 Z Z) (js (jadd Z Z (by omega)) (js (jnil Z) (js (jf F122_1 Z) ?_)))))))))))
 refine js (jf F37_4 Z) (jst k0 Z3 Z Z Z s5 (jn (jx (jq (jr (ja Z (jn (jx (jrt ?_)))))))))
 have q1:stE 0 st0 ss0=0:=by simp_all[stE,stV,stB,stS]<;>omega
 have q2:stV 0 x0 st0 ss0=x0:=by simp_all[stE,stV,stB,stS]<;>omega
 have q3:stS 0 st0 ss0=st0+1:=by simp_all[stE,stV,stB,stS]<;>omega
 have q4:stB 0 st0 ss0=true:=by simp_all[stE,stV,stB,stS]<;>omega
 have q5:(!stB 0 st0 ss0)=false:=by simp_all[stE,stV,stB,stS]<;>omega
 rw[q5,q1,q2,q3,q4]
 exact jr1 Z Z () Z dn (fun _ _=>(kc k0 kn))
theorem r4Arg_ct{g0 Bv:Nat}{vv:Value}{vs:List Int}{m0 c0 ia im a0:Value}{e0 x0 st0 ss0 na:Int}{n0:Bool}{a1:Value}{l:List Int}(i:Nat)(om:m0.oneCell'=true)(oc:c0.oneCell'=true)(oi:ia.oneCell'=true)(oj:im.oneCell'=true)(oa:a0.oneCell'=true)(hi:i<l.length)(hv:0≤ix l i∧ix l i<vs.length):Tr Tryz.prog 108 #[.pointer (some ⟨g0,0,none⟩),a1,.int .i64 (i:Int)] [dv (rL (rI .i64)) a1 l] [bx g0 122 [vv,.int .i64 e0,.int .i32 x0,m0,c0,.int .i64 st0,ia,im,a0,.int .i64 ss0,.int .i64 na,.bool n0],gl Bv (rI .i32) 21 vv vs] (fun _:Unit => .int .i32 (ix vs (Int.toNat (ix l i)))) (fun _=>[]) (fun _ _=>[bx g0 122 [vv,.int .i64 e0,.int .i32 x0,m0,c0,.int .i64 st0,ia,im,a0,.int .i64 ss0,.int .i64 na,.bool n0],gl Bv (rI .i32) 21 vv vs]):=by
 refine jenter (args:=[.pointer (some ⟨g0,0,none⟩),a1,.int .i64 (i:Int)]) Tryz.func108 rfl rfl rfl fun w0 X=>?_
 refine cgo k1 fun w1=>jq (jr (ja Z (jn (jx (jq (jstl Mixed (by kernel_rfl) (jt (jmv Z) (jt (jnil Z) (jt (jf F122_0 Z) (jt (jl k0 O29 Z Z) ?_))))))))))
 refine jt (jmv Z) (jt (jmv Z) (tdq d0 fun q2 w2=>jt (jix U22 Z3 d0 Z Z Z (by omega)) (jt (jlI (dix d0 i (by omega)) O3 Z) (jt (jig (i:=(Int.toNat (ix l i))) U29 Z21 k1 Z Z (by omega) (by omega)) (jt (jgI k1 (by omega) O21 Z) (jt (jas Z) (jdn (jx (jrt ?_)))))))))
 exact jr1 Z Z () Z dn (fun _ _=>(kd kn))
end Go.Proofs.YtmfkkodnghambaaGreat
namespace Go.Proofs.YtmfkkodnghambaaGreat
open Go.JE
set_option maxRecDepth 4000
theorem r4Phis_ct{g0 Bv:Nat}{vv:Value}{vs:List Int}{m0 c0 ia im a0:Value}{e0 x0 st0 ss0 na:Int}{n0:Bool}{a1:Value}{l:List D.Phi}(fr:Int)(om:m0.oneCell'=true)(oc:c0.oneCell'=true)(oi:ia.oneCell'=true)(oj:im.oneCell'=true)(oa:a0.oneCell'=true)(hp:valid4 vs.length l fr):Tr Tryz.prog 55 #[.pointer (some ⟨g0,0,none⟩),a1,.int .i64 fr] [dv (rL rPhi) a1 l] [bx g0 122 [vv,.int .i64 e0,.int .i32 x0,m0,c0,.int .i64 st0,ia,im,a0,.int .i64 ss0,.int .i64 na,.bool n0],gl Bv (rI .i32) 21 vv vs] (fun _:Unit => .tuple #[]) (fun _=>[]) (fun _ _=>[bx g0 122 [vv,.int .i64 e0,.int .i32 x0,m0,c0,.int .i64 st0,ia,im,a0,.int .i64 ss0,.int .i64 na,.bool n0],gl Bv (rI .i32) 21 vv (phisM l fr vs)]):=by
 refine jenter (args:=[.pointer (some ⟨g0,0,none⟩),a1,.int .i64 fr]) Tryz.func55 rfl rfl rfl fun w0 X=>?_
 refine cgo k1 fun w1=>jq (jr (jlit (r:=(rI .i32)) (l:=[]) U29 I21 (by decide) Z Z Z ln fun g11=>ja Z (jn (jx (jq (jq (jr (ja Z (jn ?_)))))))))
 refine jx (jb ?_)
 refine jlp (u3 fun(k:Nat) (ws:List Int) (vo:Value)=>⟨k≤l.length∧ws=(l.take k).map (phiVal fr vs),[dv (rL rPhi) a1 l],[gl X.n (rI .i32) 21 vo ws,bx g0 122 [vv,.int .i64 e0,.int .i32 x0,m0,c0,.int .i64 st0,ia,im,a0,.int .i64 ss0,.int .i64 na,.bool n0],gl Bv (rI .i32) 21 vv vs],[(0,.pointer (some ⟨g0,0,none⟩)),(1,a1),(2,.int .i64 fr),(6,vo),(7,.int .i64 (↑k))],l.length-k⟩) (0,[],(.slice (some ⟨g11,0,none⟩) 0 0)) ⟨by dsimp only;omega,rfl⟩ (dc d0 dn) (kd (kc k0 kn)) ⟨Z,Z,Z,Z,eqI (by omega),trivial⟩ ?_
 rintro⟨k,ws,vo⟩;dsimp only[u3];rintro⟨hk,hws⟩
 refine cgo k0 fun w2=>?_
 have hwl:ws.length=k:=by rw[hws];simp;omega
 refine jq (jq (jr (jm Z (jm Z (jdq d0 fun q3 w3=>js (jln U57 d0 Z) (js (jlss Z Z) (jn (jx ?_))))))))
 refine jif Z (fun hc1=>?_) (fun hc1=>?_)
 have hp9:=hp _ (ix_mem (l:=l) (i:=k) (by omega))
 refine jsk (jx (jq (jb (jq (jr (ja Z (jn (jx (jq (jq (jr ?_)))))))))))
 refine ja Z (jn (jx (jb ?_)))
 refine jlp (u2 fun(m2:Nat) (v:Int)=>⟨m2≤(ix l k).In.length∧v=lastV fr vs 0 ((ix l k).In.take m2)∧IntKind.i32.wrap v=v,[dv (rL rPhi) a1 l],[gl X.n (rI .i32) 21 vo ws,bx g0 122 [vv,.int .i64 e0,.int .i32 x0,m0,c0,.int .i64 st0,ia,im,a0,.int .i64 ss0,.int .i64 na,.bool n0],gl Bv (rI .i32) 21 vv vs],[(0,.pointer (some ⟨g0,0,none⟩)),(1,a1),(2,.int .i64 fr),(6,vo),(7,.int .i64 (↑k)),(8,.int .i32 v),(9,.int .i64 (↑m2))],(ix l k).In.length-m2⟩) (0,0) ⟨by dsimp only;omega,rfl,by decide⟩ (dc d0 dn) (kd (kc k0 kn)) ⟨Z,Z,Z,Z,Z,eqI (by omega),eqI (by omega),trivial⟩ ?_
 rintro⟨m2,v⟩;dsimp only[u2];rintro⟨hm2x,hv,hvw⟩
 refine jq (jq (jr (jm Z (jm Z (jm Z (js (jix U57 Z65 d0 Z Z Z (by omega)) (js (jf F65_1 Z) (jev (jlV (rPhi.A_In (dix d0 k (by omega))) O63 Z Z) fun v23 q4 w4=>js (jln U63 d0 Z) (js (jlss Z Z) (jn ?_))))))))))
 refine jx ?_
 refine jif Z (fun hc2=>?_) (fun hc2=>?_)
 refine jsk (jx (jq (jb (jq (jr (jm Z (jm Z (js (jix U57 Z65 d1 Z Z Z (by omega)) (js (jf F65_1 Z) (jev (jlV (rPhi.A_In (dix d1 k (by omega))) O63 Z Z) fun v32 q6 w6=>jm Z ?_))))))))))
 refine js (jix U63 Z111 d0 Z Z Z (by omega)) (js (jf F111_0 Z) (js (jlI (rIn.A_From (dix d0 m2 (by omega))) O3 Z) (jm Z (js (jeql Z Z) (jn (jx ?_))))))
 refine jif Z (fun hc3=>?_) (fun hc3=>?_)
 have hx9:=hp9.1.2.1 _ (ix_mem (l:=(ix l k).In) (i:=m2) (by omega))
 refine jstl Mixed (by kernel_rfl) (jt (jmv Z) (jt (jnil Z) (jt (jf F122_0 Z) (jt (jl k1 O29 Z Z) (jt (jmv Z) (jt (jmv Z) (jt (jix U57 Z65 d2 Z Z Z (by omega)) (jt (jf F65_1 Z) (jtv (jlV (rPhi.A_In (dix d2 k (by omega))) O63 Z Z) fun v47 q8 w8=>jt (jmv Z) (jt (jix U63 Z111 d0 Z Z Z (by omega)) ?_))))))))))
 refine jt (jf F111_1 Z) (jt (jlI (rIn.A_Val (dix d0 m2 (by omega))) O3 Z) (jt (jig (i:=(Int.toNat ((ix ((ix l k).In) m2).Val))) U29 Z21 k2 Z Z (by omega) (by omega)) (jt (jgI k2 (by omega) O21 Z) (jt (jas Z) (jdn (jbn (jx (jr (jm Z (js (jadd Z Z (by omega)) (ja Z ?_)))))))))))
 refine jn (qwr (wgl (i:=(Int.toNat ((ix ((ix l k).In) m2).Val))) k2 (by omega)) fun w10=>?_)
 exact jag (m2+1,ix vs (Int.toNat ((ix ((ix l k).In) m2).Val))) ⟨by dsimp only;omega,by dsimp only;rw[take_ix (by omega),lastV_snoc];first|(rw[if_pos hc3];done)|(rw[if_neg hc3];exact hv),by dsimp only;exact w10⟩ (dc d3 dn) (kd (kc k0 kn)) ⟨Z,Z,Z,Z,Z,Z,eqI (by omega),trivial⟩
 refine jsk (jbn (jx (jr (jm Z (js (jadd Z Z (by omega)) (ja Z (jn ?_)))))))
 exact jag (m2+1,v) ⟨by dsimp only;omega,by dsimp only;rw[take_ix (by omega),lastV_snoc];first|(rw[if_pos hc3];done)|(rw[if_neg hc3];exact hv),by dsimp only;exact hvw⟩ (dc d2 dn) (kd (kc k0 kn)) ⟨Z,Z,Z,Z,Z,Z,eqI (by omega),trivial⟩
 refine jex (jtx (jtx (jbh (jx (jr (jm Z (jm Z (japv U29 I21 (by decide) Z Z k0 Z (wI (wp hvw)) (by omega) (fun _=>Z) fun v57 _ w11=>ja Z (jn (jbn ?_))))))))))
 refine jx (jr (jm Z (js (jadd Z Z (by omega)) (ja Z (jn ?_)))))
 exact jag (k+1,ws++[v],v57) ⟨by dsimp only;omega,by dsimp only;rw[hws,take_ix (l:=l) (by omega),List.map_append,phi_val hv (by omega) hp9.2 (idx_from hp9.1.2.2).1];rfl⟩ (dc d1 dn) (kd (kc k0 kn)) ⟨Z,Z,Z,Z,eqI (by omega),trivial⟩
 refine jex (jtx (jtx (jbh (jx (jq (jr (ja Z (jn (jx (jb ?_))))))))))
 refine jlp (u2 fun(pz:Nat) (rs2:List Int)=>⟨pz≤l.length∧setP vs l ws=setP rs2 (l.drop pz) (ws.drop pz)∧rs2.length=vs.length,[dv (rL rPhi) a1 l],[gl X.n (rI .i32) 21 vo ws,bx g0 122 [vv,.int .i64 e0,.int .i32 x0,m0,c0,.int .i64 st0,ia,im,a0,.int .i64 ss0,.int .i64 na,.bool n0],gl Bv (rI .i32) 21 vv rs2],[(0,.pointer (some ⟨g0,0,none⟩)),(1,a1),(6,vo),(10,.int .i64 (↑pz))],l.length-pz⟩) (0,vs) ⟨by dsimp only;omega,rfl,rfl⟩ (dc d0 dn) (kd (kc k0 kn)) ⟨Z,Z,Z,eqI (by omega),trivial⟩ ?_
 rintro⟨pz,rs2⟩;dsimp only[u2];rintro⟨hpz,hS,hrl2⟩
 refine jq (jq (jr (jm Z (jm Z (js (jln U57 d0 Z) (js (jlss Z Z) (jn (jx ?_))))))))
 refine jif Z (fun hc4=>?_) (fun hc4=>?_)
 have hd9:=(hp _ (ix_mem (l:=l) (i:=pz) (by omega))).1.1
 refine jsk (jx (jq (jb (jtl 14 Mixed (by kernel_rfl) (jt (jmv Z) (jt (jnil Z) (jt (jf F122_0 Z) (jt (jl k1 O29 Z Z) (jt (jmv Z) (jt (jmv Z) (jt (jix U57 Z65 d0 Z Z Z (by omega)) ?_)))))))))))
 refine jt (jf F65_0 Z) (jt (jlI (rPhi.A_Dst (dix d0 pz (by omega))) O3 Z) (jt (jmv Z) (jt (jmv Z) (jt (jig U29 Z21 k0 Z Z Z (by omega)) (jt (jgI k0 (by omega) O21 Z) (jt (jig (i:=(Int.toNat ((ix l pz).Dst))) U29 Z21 k2 Z Z (by omega) (by omega)) (jtt (jsg k2 Z Z21 Z Z Z (by omega) (wI (wgl k0 (by omega))) (jn (jbn (jx ?_)))))))))))
 refine jr (jm Z (js (jadd Z Z (by omega)) (ja Z (jn ?_))))
 exact jag (pz+1,List.set rs2 (Int.toNat ((ix l pz).Dst)) (ix ws pz)) ⟨by dsimp only;omega,setP_next (by omega) (by omega) hS,by dsimp only;rw[List.length_set];exact hrl2⟩ (dc d0 dn) (kc k1 (kc k1 (kc k0 kn))) ⟨Z,Z,Z,eqI (by omega),trivial⟩
 refine jex (jtx (jtx (jbh ?_)))
 obtain rfl:phisM l fr vs=rs2:=phis_fin hS hws (by omega) (by omega)
 exact jd0 Z () Z dn (fun _ _=>(kc k1 (kc k1 kn)))
end Go.Proofs.YtmfkkodnghambaaGreat
namespace Go.Proofs.YtmfkkodnghambaaGreat
open Go.JE
theorem E108:Ent Tryz.prog 108:=⟨_,Tryz.func108,by kernel_rfl,by kernel_rfl⟩
set_option maxRecDepth 4000
theorem r4Term_ct{g0 Bv:Nat}{vv:Value}{vs:List Int}{m0 c0 ia im a0:Value}{x0 st0 ss0 na:Int}{a1a a1b:Value}{t:D.Term}(om:m0.oneCell'=true)(oc:c0.oneCell'=true)(oi:ia.oneCell'=true)(oj:im.oneCell'=true)(oa:a0.oneCell'=true)(hT:∃s,shM t.Kind=some s∧(s.1≤(t.Args.length:Int)∧(t.Args.length:Int)≤s.2.1)∧(s.2.2.1≤(t.To.length:Int)∧(t.To.length:Int)≤s.2.2.2))(hav:∀a∈t.Args,0≤a∧a<vs.length):Tr Tryz.prog 58 #[.pointer (some ⟨g0,0,none⟩),vTerm t (a1a,a1b)] [da rTerm (vTerm t (a1a,a1b)) t] [bx g0 122 [vv,.int .i64 0,.int .i32 x0,m0,c0,.int .i64 st0,ia,im,a0,.int .i64 ss0,.int .i64 na,.bool false],gl Bv (rI .i32) 21 vv vs] (fun _:Unit => .int .i64 (termB t (valV vs))) (fun _=>[]) (fun _ _=>[bx g0 122 [vv,.int .i64 (termE t 0),.int .i32 (termV t (valV vs) x0),m0,c0,.int .i64 st0,ia,im,a0,.int .i64 ss0,.int .i64 na,.bool (!decide (termE t 0=0))],gl Bv (rI .i32) 21 vv vs]):=by
 refine jenter (args:=[.pointer (some ⟨g0,0,none⟩),vTerm t (a1a,a1b)]) Tryz.func58 rfl rfl rfl fun w0 X=>?_
 refine cgo k1 fun w1=>?_
 have hT9:=shM_facts hT
 obtain⟨hk0,hk1,hk2,hk3,hka⟩:=hT9
 have hun:=u32_nn (ix vs (Int.toNat (ix t.Args 0)))
 refine jq (jr (jbox Z Z fun g3=>ja Z (jn (jx (jq (jq (jr (js (jf F60_0 Z) (js (jl k0 O3 Z Z) (jn ?_))))))))))
 refine jx (jb (jq (jr (js (jeql Z Z) (ja Z (jn (jx ?_)))))))
 refine jif Z (fun hc1=>?_) (fun hc1=>?_)
 have hk1:=hk1 hc1
 refine jq (jr (js (jf F60_2 Z) (js (jl k0 O22 Z Z) (jdq (rTerm.c_To d0) fun q2 w2=>js (jix (i:=0) U22 Z3 (rTerm.c_To d0) Z Z Z (by omega)) (js (jlI (dix (rTerm.c_To d0) 0 (by omega)) O3 Z) (ja Z (jn (jx (jrt (jbr ?_))))))))))
 refine jtr ?_
 have q1:termB t (valV vs)=ix t.To 0:=by first|(simp[termB,termE,termV,hc1];done)|(unfold termB;(repeat' split)<;>first|rfl|(exfalso;omega)|(simp_all;done))|(simp[termB,hc1];congr 1;omega)
 have q2:termE t 0=0:=by first|(simp[termB,termE,termV,hc1];done)|(unfold termE;(repeat' split)<;>first|rfl|(exfalso;omega)|(simp_all;done))|(simp[termB,hc1];congr 1;omega)
 have q3:termV t (valV vs) x0=x0:=by first|(simp[termB,termE,termV,hc1];done)|(unfold termV;(repeat' split)<;>first|rfl|(exfalso;omega)|(simp_all;done))|(simp[termB,hc1];congr 1;omega)
 have q4:(!decide (termE t 0=0))=false:=by first|(simp[termB,termE,termV,hc1];done)|(unfold termE;(repeat' split)<;>first|rfl|(exfalso;omega)|(simp_all;done))|(simp[termB,hc1];congr 1;omega)
 rw[q4,q1,q2,q3]
 exact jr1 Z Z () Z dn (fun _ _=>(kc k1 (kc k1 kn)))
 refine jq (jr (js (jeql Z Z) (ja Z (jn (jx ?_)))))
 refine jif Z (fun hc2=>?_) (fun hc2=>?_)
 have hk2:=hk2 hc2
 have hw:=wT_at (t:=t) (vs:=vs) (by omega) hav
 refine jq (jq (jr (jm Z (js (jf F60_1 Z) (js (jl k0 O22 Z Z) (jc E108 Z Z (r4Arg_ct 0 om oc oi oj oa (by omega) (hav _ (ix_mem (by first|omega|simp;done|decide)))) (dc (rTerm.c_Args d0) dn) (kc k1 (kc k1 kn)) (fun _=>p0) (fun _=>p2) fun _=>js (jneq Z Z) (jn (jx ?_))))))))
 refine jif Z (fun hc3=>?_) (fun hc3=>?_)
 refine jq (jr (js (jf F60_2 Z) (js (jl k2 O22 Z Z) (jdq (rTerm.c_To d0) fun q3 w3=>js (jix (i:=0) U22 Z3 (rTerm.c_To d0) Z Z Z (by omega)) (js (jlI (dix (rTerm.c_To d0) 0 (by omega)) O3 Z) (ja Z (jn (jx (jrt (jtr ?_))))))))))
 refine jbr (jtr ?_)
 have q1:termB t (valV vs)=ix t.To 0:=by first|(simp[termB,termE,termV,hw,hc1,hc2,hc3];done)|(unfold termB;(repeat' split)<;>first|rfl|(exfalso;omega)|(simp_all;done))|(simp[termB,hw,hc1,hc2,hc3];congr 1;omega)
 have q2:termE t 0=0:=by first|(simp[termB,termE,termV,hw,hc1,hc2,hc3];done)|(unfold termE;(repeat' split)<;>first|rfl|(exfalso;omega)|(simp_all;done))|(simp[termB,hw,hc1,hc2,hc3];congr 1;omega)
 have q3:termV t (valV vs) x0=x0:=by first|(simp[termB,termE,termV,hw,hc1,hc2,hc3];done)|(unfold termV;(repeat' split)<;>first|rfl|(exfalso;omega)|(simp_all;done))|(simp[termB,hw,hc1,hc2,hc3];congr 1;omega)
 have q4:(!decide (termE t 0=0))=false:=by first|(simp[termB,termE,termV,hw,hc1,hc2,hc3];done)|(unfold termE;(repeat' split)<;>first|rfl|(exfalso;omega)|(simp_all;done))|(simp[termB,hw,hc1,hc2,hc3];congr 1;omega)
 rw[q4,q1,q2,q3]
 exact jr1 Z Z () Z dn (fun _ _=>(kd kn))
 refine jsk (jx (jq (jr (js (jf F60_2 Z) (js (jl k2 O22 Z Z) (jdq (rTerm.c_To d0) fun q4 w4=>js (jix (i:=1) U22 Z3 (rTerm.c_To d0) Z Z Z (by omega)) (js (jlI (dix (rTerm.c_To d0) 1 (by omega)) O3 Z) (ja Z (jn (jx ?_))))))))))
 refine jrt (jbr (jtr ?_))
 have q1:termB t (valV vs)=ix t.To 1:=by first|(simp[termB,termE,termV,hw,hc1,hc2,hc3];done)|(unfold termB;(repeat' split)<;>first|rfl|(exfalso;omega)|(simp_all;done))|(simp[termB,hw,hc1,hc2,hc3];congr 1;omega)
 have q2:termE t 0=0:=by first|(simp[termB,termE,termV,hw,hc1,hc2,hc3];done)|(unfold termE;(repeat' split)<;>first|rfl|(exfalso;omega)|(simp_all;done))|(simp[termB,hw,hc1,hc2,hc3];congr 1;omega)
 have q3:termV t (valV vs) x0=x0:=by first|(simp[termB,termE,termV,hw,hc1,hc2,hc3];done)|(unfold termV;(repeat' split)<;>first|rfl|(exfalso;omega)|(simp_all;done))|(simp[termB,hw,hc1,hc2,hc3];congr 1;omega)
 have q4:(!decide (termE t 0=0))=false:=by first|(simp[termB,termE,termV,hw,hc1,hc2,hc3];done)|(unfold termE;(repeat' split)<;>first|rfl|(exfalso;omega)|(simp_all;done))|(simp[termB,hw,hc1,hc2,hc3];congr 1;omega)
 rw[q4,q1,q2,q3]
 exact jr1 Z Z () Z dn (fun _ _=>(kd kn))
 refine jq (jr (js (jeql Z Z) (ja Z (jn (jx ?_)))))
 refine jif Z (fun hc4=>?_) (fun hc4=>?_)
 have hk3:=hk3 hc4
 have hw:=wT_at (t:=t) (vs:=vs) (by omega) hav
 refine jq (jr (jm Z (js (jf F60_1 Z) (js (jl k0 O22 Z Z) (jc E108 Z Z (r4Arg_ct 0 om oc oi oj oa (by omega) (hav _ (ix_mem (by first|omega|simp;done|decide)))) (dc (rTerm.c_Args d0) dn) (kc k1 (kc k1 kn)) (fun _=>p0) (fun _=>p2) fun _=>js (jco U21 U155 Z Z) (ja Z (jn (jx (jq (jr ?_))))))))))
 refine js (jf F60_2 Z) (js (jl k2 O22 Z Z) (jdq (rTerm.c_To d0) fun q5 w5=>js (jln U22 (rTerm.c_To d0) Z) (js (jsub Z Z (by omega)) (ja Z (jn (jx (jq (jq (jr (jm Z ?_))))))))))
 refine js (jco U155 U2 Z (up_u32_i64 (JE.wrap_wrap _ _))) (jm Z (js (jlss Z Z) (jn (jx ?_))))
 refine jif Z (fun hc5=>?_) (fun hc5=>?_)
 refine jq (jr (js (jf F60_2 Z) (js (jl k2 O22 Z Z) (jm Z (js (jix (i:=(Int.toNat (IntKind.u32.wrap (ix vs (Int.toNat (ix t.Args 0)))))) U22 Z3 (rTerm.c_To d0) Z Z (by omega) (by omega)) (js (jlI (dix (rTerm.c_To d0) (Int.toNat (IntKind.u32.wrap (ix vs (Int.toNat (ix t.Args 0))))) (by omega)) O3 Z) (ja Z (jn (jx (jrt (jtr ?_)))))))))))
 refine jbr (jtr ?_)
 have q1:termB t (valV vs)=ix t.To (Int.toNat (IntKind.u32.wrap (ix vs (Int.toNat (ix t.Args 0))))):=by first|(simp[termB,termE,termV,hw,hc1,hc2,hc4,hc5];done)|(unfold termB;(repeat' split)<;>first|rfl|(exfalso;omega)|(simp_all;done))|(simp[termB,hw,hc1,hc2,hc4,hc5];congr 1;omega)
 have q2:termE t 0=0:=by first|(simp[termB,termE,termV,hw,hc1,hc2,hc4,hc5];done)|(unfold termE;(repeat' split)<;>first|rfl|(exfalso;omega)|(simp_all;done))|(simp[termB,hw,hc1,hc2,hc4,hc5];congr 1;omega)
 have q3:termV t (valV vs) x0=x0:=by first|(simp[termB,termE,termV,hw,hc1,hc2,hc4,hc5];done)|(unfold termV;(repeat' split)<;>first|rfl|(exfalso;omega)|(simp_all;done))|(simp[termB,hw,hc1,hc2,hc4,hc5];congr 1;omega)
 have q4:(!decide (termE t 0=0))=false:=by first|(simp[termB,termE,termV,hw,hc1,hc2,hc4,hc5];done)|(unfold termE;(repeat' split)<;>first|rfl|(exfalso;omega)|(simp_all;done))|(simp[termB,hw,hc1,hc2,hc4,hc5];congr 1;omega)
 rw[q4,q1,q2,q3]
 exact jr1 Z Z () Z dn (fun _ _=>(kd kn))
 refine jsk (jx (jq (jr (js (jf F60_2 Z) (js (jl k2 O22 Z Z) (jm Z (js (jix (i:=(Int.toNat ((↑(List.length t.To))-1))) U22 Z3 (rTerm.c_To d0) Z Z (by omega) (by omega)) (js (jlI (dix (rTerm.c_To d0) (Int.toNat ((↑(List.length t.To))-1)) (by omega)) O3 Z) (ja Z (jn (jx ?_)))))))))))
 refine jrt (jbr (jtr ?_))
 have q1:termB t (valV vs)=ix t.To (Int.toNat ((((List.length t.To:Nat):Int))-1)):=by first|(simp[termB,termE,termV,hw,hc1,hc2,hc4,hc5];done)|(unfold termB;(repeat' split)<;>first|rfl|(exfalso;omega)|(simp_all;done))|(simp[termB,hw,hc1,hc2,hc4,hc5];congr 1;omega)
 have q2:termE t 0=0:=by first|(simp[termB,termE,termV,hw,hc1,hc2,hc4,hc5];done)|(unfold termE;(repeat' split)<;>first|rfl|(exfalso;omega)|(simp_all;done))|(simp[termB,hw,hc1,hc2,hc4,hc5];congr 1;omega)
 have q3:termV t (valV vs) x0=x0:=by first|(simp[termB,termE,termV,hw,hc1,hc2,hc4,hc5];done)|(unfold termV;(repeat' split)<;>first|rfl|(exfalso;omega)|(simp_all;done))|(simp[termB,hw,hc1,hc2,hc4,hc5];congr 1;omega)
 have q4:(!decide (termE t 0=0))=false:=by first|(simp[termB,termE,termV,hw,hc1,hc2,hc4,hc5];done)|(unfold termE;(repeat' split)<;>first|rfl|(exfalso;omega)|(simp_all;done))|(simp[termB,hw,hc1,hc2,hc4,hc5];congr 1;omega)
 rw[q4,q1,q2,q3]
 exact jr1 Z Z () Z dn (fun _ _=>(kd kn))
 refine jq (jr (js (jeql Z Z) (ja Z (jn (jx ?_)))))
 refine jif Z (fun hc6=>?_) (fun hc6=>?_)
 refine jq (jr (js (jf F60_1 Z) (js (jl k0 O22 Z Z) (jdq (rTerm.c_Args d0) fun q6 w6=>js (jln U22 (rTerm.c_Args d0) Z) (js (jgtr Z Z) (jn (jx ?_)))))))
 refine jif Z (fun hc7=>?_) (fun hc7=>?_)
 have hw:=wT_at (t:=t) (vs:=vs) (by omega) hav
 refine jr (jm Z (jm Z (js (jf F60_1 Z) (js (jl k0 O22 Z Z) (jc E108 Z Z (r4Arg_ct 0 om oc oi oj oa (by omega) (hav _ (ix_mem (by first|omega|simp;done|decide)))) (dc (rTerm.c_Args d0) dn) (kc k1 (kc k1 kn)) (fun _=>p0) (fun _=>p2) fun _=>jc E106 Z Z (r4End_ct _ _ w1.one om oc oi oj oa) dn (kc k0 kn) (fun _=>p0) (fun _=>p1) fun _=>jn (jbn (jx (jq (jr ?_)))))))))
 refine ja Z (jn (jx (jrt ?_)))
 have q1:termB t (valV vs)=0:=by first|(simp[termB,termE,termV,hw,hc1,hc2,hc4,hc6,hc7];done)|(unfold termB;(repeat' split)<;>first|rfl|(exfalso;omega)|(simp_all;done))|(simp[termB,hw,hc1,hc2,hc4,hc6,hc7];congr 1;omega)
 have q2:termE t 0=1:=by first|(simp[termB,termE,termV,hw,hc1,hc2,hc4,hc6,hc7];done)|(unfold termE;(repeat' split)<;>first|rfl|(exfalso;omega)|(simp_all;done))|(simp[termB,hw,hc1,hc2,hc4,hc6,hc7];congr 1;omega)
 have q3:termV t (valV vs) x0=ix vs (Int.toNat (ix t.Args 0)):=by first|(simp[termB,termE,termV,hw,hc1,hc2,hc4,hc6,hc7];done)|(unfold termV;(repeat' split)<;>first|rfl|(exfalso;omega)|(simp_all;done))|(simp[termB,hw,hc1,hc2,hc4,hc6,hc7];congr 1;omega)
 have q4:(!decide (termE t 0=0))=true:=by first|(simp[termB,termE,termV,hw,hc1,hc2,hc4,hc6,hc7];done)|(unfold termE;(repeat' split)<;>first|rfl|(exfalso;omega)|(simp_all;done))|(simp[termB,hw,hc1,hc2,hc4,hc6,hc7];congr 1;omega)
 rw[q4,q1,q2,q3]
 exact jr1 Z Z () Z dn (fun _ _=>(kd kn))
 have hwn:=wT_no (t:=t) (V:=valV vs) (by omega)
 refine jr (jm Z (jc E106 Z Z (r4End_ct _ _ w1.one om oc oi oj oa) dn (kc k1 kn) (fun _=>p0) (fun _=>p1) fun _=>jn (jbn (jx (jq (jr (ja Z (jn (jx (jrt ?_))))))))))
 have q1:termB t (valV vs)=0:=by first|(simp[termB,termE,termV,hwn,hc1,hc2,hc4,hc6,hc7];done)|(unfold termB;(repeat' split)<;>first|rfl|(exfalso;omega)|(simp_all;done))|(simp[termB,hwn,hc1,hc2,hc4,hc6,hc7];congr 1;omega)
 have q2:termE t 0=1:=by first|(simp[termB,termE,termV,hwn,hc1,hc2,hc4,hc6,hc7];done)|(unfold termE;(repeat' split)<;>first|rfl|(exfalso;omega)|(simp_all;done))|(simp[termB,hwn,hc1,hc2,hc4,hc6,hc7];congr 1;omega)
 have q3:termV t (valV vs) x0=0:=by first|(simp[termB,termE,termV,hwn,hc1,hc2,hc4,hc6,hc7];done)|(unfold termV;(repeat' split)<;>first|rfl|(exfalso;omega)|(simp_all;done))|(simp[termB,hwn,hc1,hc2,hc4,hc6,hc7];congr 1;omega)
 have q4:(!decide (termE t 0=0))=true:=by first|(simp[termB,termE,termV,hwn,hc1,hc2,hc4,hc6,hc7];done)|(unfold termE;(repeat' split)<;>first|rfl|(exfalso;omega)|(simp_all;done))|(simp[termB,hwn,hc1,hc2,hc4,hc6,hc7];congr 1;omega)
 rw[q4,q1,q2,q3]
 exact jr1 Z Z () Z dn (fun _ _=>(kc k0 (kc k1 kn)))
 refine jr (jm Z (js (jf F60_3 Z) (js (jl k0 O21 Z Z) (jc E106 Z Z (r4End_ct _ _ w1.one om oc oi oj oa) dn (kc k1 kn) (fun _=>p0) (fun _=>p1) fun _=>jn (jbn (jx (jq (jr (ja Z (jn ?_))))))))))
 refine jx (jrt ?_)
 have q1:termB t (valV vs)=0:=by first|(simp[termB,termE,termV,hc1,hc2,hc4,hc6];done)|(unfold termB;(repeat' split)<;>first|rfl|(exfalso;omega)|(simp_all;done))|(simp[termB,hc1,hc2,hc4,hc6];congr 1;omega)
 have q2:termE t 0=2:=by first|(simp[termB,termE,termV,hc1,hc2,hc4,hc6];done)|(unfold termE;(repeat' split)<;>first|rfl|(exfalso;omega)|(simp_all;done))|(simp[termB,hc1,hc2,hc4,hc6];congr 1;omega)
 have q3:termV t (valV vs) x0=t.Imm:=by first|(simp[termB,termE,termV,hc1,hc2,hc4,hc6];done)|(unfold termV;(repeat' split)<;>first|rfl|(exfalso;omega)|(simp_all;done))|(simp[termB,hc1,hc2,hc4,hc6];congr 1;omega)
 have q4:(!decide (termE t 0=0))=true:=by first|(simp[termB,termE,termV,hc1,hc2,hc4,hc6];done)|(unfold termE;(repeat' split)<;>first|rfl|(exfalso;omega)|(simp_all;done))|(simp[termB,hc1,hc2,hc4,hc6];congr 1;omega)
 rw[q4,q1,q2,q3]
 exact jr1 Z Z () Z dn (fun _ _=>(kc k0 (kc k1 kn)))
end Go.Proofs.YtmfkkodnghambaaGreat
namespace Go.Proofs.YtmfkkodnghambaaGreat
open Go.JE
theorem E107:Ent Tryz.prog 107:=⟨_,Tryz.func107,by kernel_rfl,by kernel_rfl⟩
theorem E109:Ent Tryz.prog 109:=⟨_,Tryz.func109,by kernel_rfl,by kernel_rfl⟩
theorem E110:Ent Tryz.prog 110:=⟨_,Tryz.func110,by kernel_rfl,by kernel_rfl⟩
theorem E111:Ent Tryz.prog 111:=⟨_,Tryz.func111,by kernel_rfl,by kernel_rfl⟩
theorem F122_3:Fld Tryz.prog 122 3 10:=⟨_,_,Tryz.underlying122,rfl,rfl,1,(by unfold Sz;kernel_rfl),by decide⟩
set_option maxRecDepth 4000
set_option maxHeartbeats 4000000 in
theorem r4Ins_ct{g0 Bv Bm Bc:Nat}{vv:Value}{vs:List Int}{mv cv ia im av:Value}{me an:List Int}{cl:List D.Event}{x0 st0 ss0:Int}{na:Nat}{a1:Value}{i:D.Ins}(oi:ia.oneCell'=true)(oj:im.oneCell'=true)(hO:(1≤i.Op∧i.Op≤18)∧(operM i.Op).1≤(i.Args.length:Int)∧(i.Args.length:Int)≤(operM i.Op).2)(hav:∀a∈i.Args,0≤a∧a<vs.length)(hmk:∀r∈makes3 i,0≤r∧r<vs.length)(hml:me.length<1073741824)(hcl:cl.length<1000000000)(hna:na<1000000000):Tr Tryz.prog 57 #[.pointer (some ⟨g0,0,none⟩),vIns i a1] [dv (rL (rI .i32)) av an,da rIns (vIns i a1) i] [bx g0 122 [vv,.int .i64 0,.int .i32 x0,mv,cv,.int .i64 st0,ia,im,av,.int .i64 ss0,.int .i64 (((na:Nat):Int)),.bool false],gl Bv (rI .i32) 21 vv vs,gl Bm (rI .i32) 21 mv me,gl Bc rEvent 74 cv cl] (fun _:{ c:Value×List Int // InsP i vs me an na c.2 } => .tuple #[]) (fun c=>[dv (rL (rI .i32)) av an]) (fun _ c=>[bx g0 122 [vv,.int .i64 (inzE i (valV vs) me 0),.int .i32 (inzX i (valV vs) me x0),mv,c.1.1,.int .i64 st0,ia,im,av,.int .i64 ss0,.int .i64 (((nA i na:Nat):Int)),.bool (!decide (inzT i (valV vs) me=0))],gl Bv (rI .i32) 21 vv c.1.2,gl Bm (rI .i32) 21 mv (inzM i (valV vs) me),gl Bc rEvent 74 c.1.1 (inzC i (valV vs) cl)]):=by
 refine jenter (args:=[.pointer (some ⟨g0,0,none⟩),vIns i a1]) Tryz.func57 rfl rfl rfl fun w0 X=>?_
 refine cgo k1 fun w1=>cgo k2 fun w2=>cgo k3 fun w3=>?_
 obtain⟨ho15,ho2,hol⟩:=oper_facts hO
 refine jq (jr (jbox Z Z fun g3=>jn (jx (jq (jr (js (jf F67_0 Z) (js (jl k0 O3 Z Z) (jn (jx (jb ?_))))))))))
 refine jq (jr (js (jeql Z Z) (ja Z (jn (jx ?_)))))
 refine jif Z (fun hc1=>?_) (fun hc1=>?_)
 have hd9:=hmk i.Dst (by unfold makes3;rw[if_neg (by omega),if_neg (by omega)];simp)
 refine jany false (.a 0 (.a 1 (.a 2 (.a 3 (.a 4 (.a 5 (.a 6 (.a 7 (.o 8 (.o 9 .e)))))))))) Mixed (by kernel_rfl) (kd kn) fun F4=>jy Z (jmv Z) (jy Z (jnil Z) (jy Z (jf F122_0 Z) (jy Z (jl k1 O29 Z Z) (jy Z (jf F67_1 Z) (jy Z (jl k0 O3 Z Z) (jy Z (jf F67_4 Z) (jy Z (jl k0 O21 Z Z) (jyo Z (js (jig (i:=(Int.toNat i.Dst)) U29 Z21 k2 Z Z (by omega) (by omega)) (jyn d0 (kd kn) ?_))))))))))
 refine jyo Z (jsg k2 Z Z21 Z Z Z (by omega) (wI (rIns.W_Imm d3)) (jyn d0 (kc k1 (kc k1 kn)) (jyd (jbn ?_))))
 have q1:inzE i (valV vs) me 0=0:=by first|(simp[inzV,inzE,inzX,inzM,inzC,inzT,nA,w32,hc1];done)|(simp[inzV,inzE,inzX,inzM,inzC,inzT,nA,w32,hc1];split<;>simp_all;done)|(simp_all[inzV,inzE,inzX,inzM,inzC,inzT,nA,w32];done)|(unfold inzE inzX inzT;simp_all[w32];done)
 have q2:inzX i (valV vs) me x0=x0:=by first|(simp[inzV,inzE,inzX,inzM,inzC,inzT,nA,w32,hc1];done)|(simp[inzV,inzE,inzX,inzM,inzC,inzT,nA,w32,hc1];split<;>simp_all;done)|(simp_all[inzV,inzE,inzX,inzM,inzC,inzT,nA,w32];done)|(unfold inzE inzX inzT;simp_all[w32];done)
 have q3:inzM i (valV vs) me=me:=by first|(simp[inzV,inzE,inzX,inzM,inzC,inzT,nA,w32,hc1];done)|(simp[inzV,inzE,inzX,inzM,inzC,inzT,nA,w32,hc1];split<;>simp_all;done)|(simp_all[inzV,inzE,inzX,inzM,inzC,inzT,nA,w32];done)|(unfold inzE inzX inzT;simp_all[w32];done)
 have q4:inzC i (valV vs) cl=cl:=by first|(simp[inzV,inzE,inzX,inzM,inzC,inzT,nA,w32,hc1];done)|(simp[inzV,inzE,inzX,inzM,inzC,inzT,nA,w32,hc1];split<;>simp_all;done)|(simp_all[inzV,inzE,inzX,inzM,inzC,inzT,nA,w32];done)|(unfold inzE inzX inzT;simp_all[w32];done)
 have q5:((nA i na:Nat):Int)=((na:Nat):Int):=by first|(simp[inzV,inzE,inzX,inzM,inzC,inzT,nA,w32,hc1];done)|(simp[inzV,inzE,inzX,inzM,inzC,inzT,nA,w32,hc1];split<;>simp_all;done)|(simp_all[inzV,inzE,inzX,inzM,inzC,inzT,nA,w32];done)|(unfold inzE inzX inzT;simp_all[w32];done)
 have q6:(!decide (inzT i (valV vs) me=0))=false:=by first|(simp[inzV,inzE,inzX,inzM,inzC,inzT,nA,w32,hc1];done)|(simp[inzV,inzE,inzX,inzM,inzC,inzT,nA,w32,hc1];split<;>simp_all;done)|(simp_all[inzV,inzE,inzX,inzM,inzC,inzT,nA,w32];done)|(unfold inzE inzX inzT;simp_all[w32];done)
 have hP:InsP i vs me an na (List.set vs (Int.toNat i.Dst) i.Imm):=InsP.one hd9 (by first|(simp[inzV,w32,drop_pos,drop_ix0,hc1];done)|(simp[inzV,w32,drop_pos,drop_ix0,hc1];split<;>simp_all;done)|(simp_all[inzV,w32,drop_pos,drop_ix0];done))
 rw[q6,q1,q2,q3,q4,q5]
 exact jd0 Z (⟨(cv,List.set vs (Int.toNat i.Dst) i.Imm),hP⟩:{ c:Value×List Int // InsP i vs me an na c.2 }) Z (dc d2 dn) (fun _ _=>(kc k2 (kc k0 (kc k1 (kc k1 kn)))))
 refine jq (jr (js (jeql Z Z) (ja Z (jn (jx ?_)))))
 refine jif Z (fun hc2=>?_) (fun hc2=>?_)
 have ho15:=ho15 hc2
 have hb0:=aI_vs (i:=i) (vs:=vs) (k:=0) hav (by omega)
 have hr0:=hav _ (ix_mem (l:=i.Args) (i:=0) (by omega))
 have hd9:=hmk i.Dst (by unfold makes3;rw[if_neg (by omega),if_neg (by omega)];simp)
 refine jq (jany false (.a 0 (.a 1 (.a 2 (.a 3 (.a 4 (.a 5 (.a 6 (.a 7 (.a 9 (.a 10 (.o 8 (.a 11 (.o 12 (.a 13 (.a 14 (.a 15 (.a 16 (.a 17 .e)))))))))))))))))) Mixed (by kernel_rfl) (kd kn) fun F7=>jy Z (jmv Z) (jy Z (jnil Z) (jy Z (jf F122_1 Z) (jy Z (jf F37_2 Z) (jy Z (jl k1 O29 Z Z) (jy Z (jmv Z) (jy Z (jf F67_3 Z) (jy Z (jl k0 O22 Z Z) (jy Z (jf F67_4 Z) (jy Z (jl k0 O21 Z Z) ?_))))))))))
 refine jyo Z (jdq d1 fun q9 w9=>jc E108 Z Z (r4Arg_ct 0 w2.one w3.one oi oj w9.one (by omega) (hav _ (ix_mem (by first|omega|simp;done|decide)))) (dc (rIns.c_Args d2) dn) (kc k1 (kc k1 kn)) (fun _=>p0) (fun _=>p2) fun _=>jyn d0 (kc k2 (kc k0 kn)) (jy Z (jaddw Z Z) (jyo Z (jc E107 Z Z (Tv.temp 1073741824 (rLoad_ct (IntKind.i32.wrap ((ix vs (Int.toNat (ix i.Args 0)))+i.Imm)) (JE.wrap_wrap _ _)) (by omega)) dn (kc k3 kn) (fun _=>p0) (fun _=>p1) fun _=>jyn d0 (kc k3 (kc k1 kn)) (jy Z (jmv Z) (jy Z (jex' Z Z) (jy Z (jex' Z Z) (jy Z (jas Z) ?_))))))))
 refine jy Z (jas Z) (jyd (jx (jq (jq (jr (jm Z (js (jnot Z) (jn (jx ?_)))))))))
 refine jif Z (fun hc3=>?_) (fun hc3=>?_)
 refine jq (jr (jm Z (jc E106 Z Z (r4End_ct _ _ w1.one w2.one w3.one oi oj w9.one) dn (kc k1 kn) (fun _=>p0) (fun _=>p1) fun _=>jn (jx (jrt (jtr (jbr ?_)))))))
 have q1:inzE i (valV vs) me 0=2:=by first|(simp[inzV,inzE,inzX,inzM,inzC,inzT,nA,w32,hb0,hb1,hc1,hc2,hc3];done)|(simp[inzV,inzE,inzX,inzM,inzC,inzT,nA,w32,hb0,hb1,hc1,hc2,hc3];split<;>simp_all;done)|(simp_all[inzV,inzE,inzX,inzM,inzC,inzT,nA,w32];done)|(unfold inzE inzX inzT;simp_all[w32];done)
 have q2:inzX i (valV vs) me x0=(-2):=by first|(simp[inzV,inzE,inzX,inzM,inzC,inzT,nA,w32,hb0,hb1,hc1,hc2,hc3];done)|(simp[inzV,inzE,inzX,inzM,inzC,inzT,nA,w32,hb0,hb1,hc1,hc2,hc3];split<;>simp_all;done)|(simp_all[inzV,inzE,inzX,inzM,inzC,inzT,nA,w32];done)|(unfold inzE inzX inzT;simp_all[w32];done)
 have q3:inzM i (valV vs) me=me:=by first|(simp[inzV,inzE,inzX,inzM,inzC,inzT,nA,w32,hb0,hb1,hc1,hc2,hc3];done)|(simp[inzV,inzE,inzX,inzM,inzC,inzT,nA,w32,hb0,hb1,hc1,hc2,hc3];split<;>simp_all;done)|(simp_all[inzV,inzE,inzX,inzM,inzC,inzT,nA,w32];done)|(unfold inzE inzX inzT;simp_all[w32];done)
 have q4:inzC i (valV vs) cl=cl:=by first|(simp[inzV,inzE,inzX,inzM,inzC,inzT,nA,w32,hb0,hb1,hc1,hc2,hc3];done)|(simp[inzV,inzE,inzX,inzM,inzC,inzT,nA,w32,hb0,hb1,hc1,hc2,hc3];split<;>simp_all;done)|(simp_all[inzV,inzE,inzX,inzM,inzC,inzT,nA,w32];done)|(unfold inzE inzX inzT;simp_all[w32];done)
 have q5:((nA i na:Nat):Int)=((na:Nat):Int):=by first|(simp[inzV,inzE,inzX,inzM,inzC,inzT,nA,w32,hb0,hb1,hc1,hc2,hc3];done)|(simp[inzV,inzE,inzX,inzM,inzC,inzT,nA,w32,hb0,hb1,hc1,hc2,hc3];split<;>simp_all;done)|(simp_all[inzV,inzE,inzX,inzM,inzC,inzT,nA,w32];done)|(unfold inzE inzX inzT;simp_all[w32];done)
 have q6:(!decide (inzT i (valV vs) me=0))=true:=by first|(simp[inzV,inzE,inzX,inzM,inzC,inzT,nA,w32,hb0,hb1,hc1,hc2,hc3];done)|(simp[inzV,inzE,inzX,inzM,inzC,inzT,nA,w32,hb0,hb1,hc1,hc2,hc3];split<;>simp_all;done)|(simp_all[inzV,inzE,inzX,inzM,inzC,inzT,nA,w32];done)|(unfold inzE inzX inzT;simp_all[w32];done)
 have hP:InsP i vs me an na (vs):=InsP.trap (by first|(simp[inzV,inzE,inzX,inzM,inzC,inzT,nA,w32,hb0,hb1,hc1,hc2,hc3];done)|(simp_all[inzV,inzE,inzX,inzM,inzC,inzT,nA,w32];done))
 rw[q6,q1,q2,q3,q4,q5]
 exact jr0 Z (⟨(cv,vs),hP⟩:{ c:Value×List Int // InsP i vs me an na c.2 }) Z (dc d2 dn) (fun _ _=>(kc k0 (kc k1 (kc k0 (kc k1 kn)))))
 refine jsk (jx (jany false (.a 0 (.a 1 (.a 2 (.a 3 (.a 4 (.a 5 (.a 6 (.o 7 (.o 8 .e))))))))) Mixed (by kernel_rfl) (kc k1 (kc k2 kn)) fun F11=>jy Z (jmv Z) (jy Z (jnil Z) (jy Z (jf F122_0 Z) (jy Z (jl k0 O29 Z Z) (jy Z (jf F67_1 Z) (jy Z (jl k1 O3 Z Z) (jy Z (jmv Z) (jyo Z (js (jig (i:=(Int.toNat i.Dst)) U29 Z21 k2 Z Z (by omega) (by omega)) ?_))))))))))
 refine jyn d0 (kc k1 (kc k2 kn)) (jyo Z (jsg k2 Z Z21 Z Z Z (by omega) (wI (wld k0 (IntKind.i32.wrap ((ix vs (Int.toNat (ix i.Args 0)))+i.Imm)))) (jyn d0 (kc k2 (kc k2 kn)) (jyd (jbn ?_)))))
 have q1:inzE i (valV vs) me 0=0:=by first|(simp[inzV,inzE,inzX,inzM,inzC,inzT,nA,w32,hb0,hb1,hc1,hc2,hc3];done)|(simp[inzV,inzE,inzX,inzM,inzC,inzT,nA,w32,hb0,hb1,hc1,hc2,hc3];split<;>simp_all;done)|(simp_all[inzV,inzE,inzX,inzM,inzC,inzT,nA,w32];done)|(unfold inzE inzX inzT;simp_all[w32];done)
 have q2:inzX i (valV vs) me x0=x0:=by first|(simp[inzV,inzE,inzX,inzM,inzC,inzT,nA,w32,hb0,hb1,hc1,hc2,hc3];done)|(simp[inzV,inzE,inzX,inzM,inzC,inzT,nA,w32,hb0,hb1,hc1,hc2,hc3];split<;>simp_all;done)|(simp_all[inzV,inzE,inzX,inzM,inzC,inzT,nA,w32];done)|(unfold inzE inzX inzT;simp_all[w32];done)
 have q3:inzM i (valV vs) me=me:=by first|(simp[inzV,inzE,inzX,inzM,inzC,inzT,nA,w32,hb0,hb1,hc1,hc2,hc3];done)|(simp[inzV,inzE,inzX,inzM,inzC,inzT,nA,w32,hb0,hb1,hc1,hc2,hc3];split<;>simp_all;done)|(simp_all[inzV,inzE,inzX,inzM,inzC,inzT,nA,w32];done)|(unfold inzE inzX inzT;simp_all[w32];done)
 have q4:inzC i (valV vs) cl=cl:=by first|(simp[inzV,inzE,inzX,inzM,inzC,inzT,nA,w32,hb0,hb1,hc1,hc2,hc3];done)|(simp[inzV,inzE,inzX,inzM,inzC,inzT,nA,w32,hb0,hb1,hc1,hc2,hc3];split<;>simp_all;done)|(simp_all[inzV,inzE,inzX,inzM,inzC,inzT,nA,w32];done)|(unfold inzE inzX inzT;simp_all[w32];done)
 have q5:((nA i na:Nat):Int)=((na:Nat):Int):=by first|(simp[inzV,inzE,inzX,inzM,inzC,inzT,nA,w32,hb0,hb1,hc1,hc2,hc3];done)|(simp[inzV,inzE,inzX,inzM,inzC,inzT,nA,w32,hb0,hb1,hc1,hc2,hc3];split<;>simp_all;done)|(simp_all[inzV,inzE,inzX,inzM,inzC,inzT,nA,w32];done)|(unfold inzE inzX inzT;simp_all[w32];done)
 have q6:(!decide (inzT i (valV vs) me=0))=false:=by first|(simp[inzV,inzE,inzX,inzM,inzC,inzT,nA,w32,hb0,hb1,hc1,hc2,hc3];done)|(simp[inzV,inzE,inzX,inzM,inzC,inzT,nA,w32,hb0,hb1,hc1,hc2,hc3];split<;>simp_all;done)|(simp_all[inzV,inzE,inzX,inzM,inzC,inzT,nA,w32];done)|(unfold inzE inzX inzT;simp_all[w32];done)
 have hP:InsP i vs me an na (List.set vs (Int.toNat i.Dst) ((loadM me (IntKind.i32.wrap ((ix vs (Int.toNat (ix i.Args 0)))+i.Imm))).1)):=InsP.one hd9 (by first|(simp[inzV,w32,drop_pos,drop_ix0,hb0,hb1,hc1,hc2,hc3];done)|(simp[inzV,w32,drop_pos,drop_ix0,hb0,hb1,hc1,hc2,hc3];split<;>simp_all;done)|(simp_all[inzV,w32,drop_pos,drop_ix0];done))
 rw[q6,q1,q2,q3,q4,q5]
 exact jd0 Z (⟨(cv,List.set vs (Int.toNat i.Dst) ((loadM me (IntKind.i32.wrap ((ix vs (Int.toNat (ix i.Args 0)))+i.Imm))).1)),hP⟩:{ c:Value×List Int // InsP i vs me an na c.2 }) Z (dc d4 dn) (fun _ _=>(kc k2 (kd (kc k1 kn))))
 refine jq (jr (js (jeql Z Z) (ja Z (jn (jx ?_)))))
 refine jif Z (fun hc4=>?_) (fun hc4=>?_)
 have ho2:=ho2 (by omega) (by omega) (by omega)
 have hb0:=aI_vs (i:=i) (vs:=vs) (k:=0) hav (by omega)
 have hr0:=hav _ (ix_mem (l:=i.Args) (i:=0) (by omega))
 have hb1:=aI_vs (i:=i) (vs:=vs) (k:=1) hav (by omega)
 have hr1:=hav _ (ix_mem (l:=i.Args) (i:=1) (by omega))
 refine jq (jany false (.a 0 (.a 1 (.a 2 (.a 3 (.a 4 (.a 5 (.a 6 (.a 7 (.a 9 (.a 10 (.a 12 (.a 13 (.a 14 (.o 8 (.a 11 (.o 15 (.o 16 (.a 17 .e)))))))))))))))))) Mixed (by kernel_rfl) (kd kn) fun F14=>jy Z (jmv Z) (jy Z (jnil Z) (jy Z (jf F122_1 Z) (jy Z (jf F37_2 Z) (jy Z (jl k1 O29 Z Z) (jy Z (jmv Z) (jy Z (jf F67_3 Z) (jy Z (jl k0 O22 Z Z) (jy Z (jf F67_4 Z) (jy Z (jl k0 O21 Z Z) ?_))))))))))
 refine jy Z (jmv Z) (jy Z (jf F67_3 Z) (jy Z (jl k0 O22 Z Z) (jyo Z (jdq d1 fun q16 w16=>jc E108 Z Z (r4Arg_ct 0 w2.one w3.one oi oj w16.one (by omega) (hav _ (ix_mem (by first|omega|simp;done|decide)))) (dc (rIns.c_Args d2) dn) (kc k1 (kc k1 kn)) (fun _=>p0) (fun _=>p2) fun _=>jyn d0 (kc k2 (kc k0 kn)) (jy Z (jaddw Z Z) (jyo Z (jc E108 Z Z (r4Arg_ct 1 w2.one w3.one oi oj w16.one (by omega) (hav _ (ix_mem (by first|omega|simp;done|decide)))) (dc (rIns.c_Args d3) dn) (kd kn) (fun _=>p0) (fun _=>p2) fun _=>jyn d0 (kc k2 (kc k0 kn)) (jyo Z ?_))))))))
 refine jwr (wgl (i:=(Int.toNat (ix i.Args 1))) k1 (by omega)) fun w19=>jc E109 Z Z (rStore_ct (IntKind.i32.wrap ((ix vs (Int.toNat (ix i.Args 0)))+i.Imm)) (ix vs (Int.toNat (ix i.Args 1))) (by omega) (JE.wrap_wrap _ _) w19) dn (kc k3 kn) (fun _=>p0) (fun _=>p1) fun _=>jyn d0 (kc k3 (kc k1 kn)) (jy Z (jas Z) (jyd (jx (jq (jr (jm Z (js (jnot Z) (jn (jx ?_)))))))))
 refine jif Z (fun hc5=>?_) (fun hc5=>?_)
 refine jr (jm Z (jc E106 Z Z (r4End_ct _ _ w1.one w2.one w3.one oi oj w16.one) dn (kc k1 kn) (fun _=>p0) (fun _=>p1) fun _=>jn (jbn ?_)))
 have q1:inzE i (valV vs) me 0=2:=by first|(simp[inzV,inzE,inzX,inzM,inzC,inzT,nA,w32,hb0,hb1,hc1,hc2,hc4,hc5];done)|(simp[inzV,inzE,inzX,inzM,inzC,inzT,nA,w32,hb0,hb1,hc1,hc2,hc4,hc5];split<;>simp_all;done)|(simp_all[inzV,inzE,inzX,inzM,inzC,inzT,nA,w32];done)|(unfold inzE inzX inzT;simp_all[w32];done)
 have q2:inzX i (valV vs) me x0=(-2):=by first|(simp[inzV,inzE,inzX,inzM,inzC,inzT,nA,w32,hb0,hb1,hc1,hc2,hc4,hc5];done)|(simp[inzV,inzE,inzX,inzM,inzC,inzT,nA,w32,hb0,hb1,hc1,hc2,hc4,hc5];split<;>simp_all;done)|(simp_all[inzV,inzE,inzX,inzM,inzC,inzT,nA,w32];done)|(unfold inzE inzX inzT;simp_all[w32];done)
 have q3:inzM i (valV vs) me=storeM me (IntKind.i32.wrap ((ix vs (Int.toNat (ix i.Args 0)))+i.Imm)) (ix vs (Int.toNat (ix i.Args 1))):=by first|(simp[inzV,inzE,inzX,inzM,inzC,inzT,nA,w32,hb0,hb1,hc1,hc2,hc4,hc5];done)|(simp[inzV,inzE,inzX,inzM,inzC,inzT,nA,w32,hb0,hb1,hc1,hc2,hc4,hc5];split<;>simp_all;done)|(simp_all[inzV,inzE,inzX,inzM,inzC,inzT,nA,w32];done)|(unfold inzE inzX inzT;simp_all[w32];done)
 have q4:inzC i (valV vs) cl=cl:=by first|(simp[inzV,inzE,inzX,inzM,inzC,inzT,nA,w32,hb0,hb1,hc1,hc2,hc4,hc5];done)|(simp[inzV,inzE,inzX,inzM,inzC,inzT,nA,w32,hb0,hb1,hc1,hc2,hc4,hc5];split<;>simp_all;done)|(simp_all[inzV,inzE,inzX,inzM,inzC,inzT,nA,w32];done)|(unfold inzE inzX inzT;simp_all[w32];done)
 have q5:((nA i na:Nat):Int)=((na:Nat):Int):=by first|(simp[inzV,inzE,inzX,inzM,inzC,inzT,nA,w32,hb0,hb1,hc1,hc2,hc4,hc5];done)|(simp[inzV,inzE,inzX,inzM,inzC,inzT,nA,w32,hb0,hb1,hc1,hc2,hc4,hc5];split<;>simp_all;done)|(simp_all[inzV,inzE,inzX,inzM,inzC,inzT,nA,w32];done)|(unfold inzE inzX inzT;simp_all[w32];done)
 have q6:(!decide (inzT i (valV vs) me=0))=true:=by first|(simp[inzV,inzE,inzX,inzM,inzC,inzT,nA,w32,hb0,hb1,hc1,hc2,hc4,hc5];done)|(simp[inzV,inzE,inzX,inzM,inzC,inzT,nA,w32,hb0,hb1,hc1,hc2,hc4,hc5];split<;>simp_all;done)|(simp_all[inzV,inzE,inzX,inzM,inzC,inzT,nA,w32];done)|(unfold inzE inzX inzT;simp_all[w32];done)
 have hP:InsP i vs me an na (vs):=InsP.trap (by first|(simp[inzV,inzE,inzX,inzM,inzC,inzT,nA,w32,hb0,hb1,hc1,hc2,hc4,hc5];done)|(simp_all[inzV,inzE,inzX,inzM,inzC,inzT,nA,w32];done))
 rw[q6,q1,q2,q3,q4,q5]
 exact jd0 Z (⟨(cv,vs),hP⟩:{ c:Value×List Int // InsP i vs me an na c.2 }) Z (dc d3 dn) (fun _ _=>(kc k0 (kc k1 (kc k0 (kc k1 kn)))))
 refine jsk (jbn ?_)
 have q1:inzE i (valV vs) me 0=0:=by first|(simp[inzV,inzE,inzX,inzM,inzC,inzT,nA,w32,hb0,hb1,hc1,hc2,hc4,hc5];done)|(simp[inzV,inzE,inzX,inzM,inzC,inzT,nA,w32,hb0,hb1,hc1,hc2,hc4,hc5];split<;>simp_all;done)|(simp_all[inzV,inzE,inzX,inzM,inzC,inzT,nA,w32];done)|(unfold inzE inzX inzT;simp_all[w32];done)
 have q2:inzX i (valV vs) me x0=x0:=by first|(simp[inzV,inzE,inzX,inzM,inzC,inzT,nA,w32,hb0,hb1,hc1,hc2,hc4,hc5];done)|(simp[inzV,inzE,inzX,inzM,inzC,inzT,nA,w32,hb0,hb1,hc1,hc2,hc4,hc5];split<;>simp_all;done)|(simp_all[inzV,inzE,inzX,inzM,inzC,inzT,nA,w32];done)|(unfold inzE inzX inzT;simp_all[w32];done)
 have q3:inzM i (valV vs) me=storeM me (IntKind.i32.wrap ((ix vs (Int.toNat (ix i.Args 0)))+i.Imm)) (ix vs (Int.toNat (ix i.Args 1))):=by first|(simp[inzV,inzE,inzX,inzM,inzC,inzT,nA,w32,hb0,hb1,hc1,hc2,hc4,hc5];done)|(simp[inzV,inzE,inzX,inzM,inzC,inzT,nA,w32,hb0,hb1,hc1,hc2,hc4,hc5];split<;>simp_all;done)|(simp_all[inzV,inzE,inzX,inzM,inzC,inzT,nA,w32];done)|(unfold inzE inzX inzT;simp_all[w32];done)
 have q4:inzC i (valV vs) cl=cl:=by first|(simp[inzV,inzE,inzX,inzM,inzC,inzT,nA,w32,hb0,hb1,hc1,hc2,hc4,hc5];done)|(simp[inzV,inzE,inzX,inzM,inzC,inzT,nA,w32,hb0,hb1,hc1,hc2,hc4,hc5];split<;>simp_all;done)|(simp_all[inzV,inzE,inzX,inzM,inzC,inzT,nA,w32];done)|(unfold inzE inzX inzT;simp_all[w32];done)
 have q5:((nA i na:Nat):Int)=((na:Nat):Int):=by first|(simp[inzV,inzE,inzX,inzM,inzC,inzT,nA,w32,hb0,hb1,hc1,hc2,hc4,hc5];done)|(simp[inzV,inzE,inzX,inzM,inzC,inzT,nA,w32,hb0,hb1,hc1,hc2,hc4,hc5];split<;>simp_all;done)|(simp_all[inzV,inzE,inzX,inzM,inzC,inzT,nA,w32];done)|(unfold inzE inzX inzT;simp_all[w32];done)
 have q6:(!decide (inzT i (valV vs) me=0))=false:=by first|(simp[inzV,inzE,inzX,inzM,inzC,inzT,nA,w32,hb0,hb1,hc1,hc2,hc4,hc5];done)|(simp[inzV,inzE,inzX,inzM,inzC,inzT,nA,w32,hb0,hb1,hc1,hc2,hc4,hc5];split<;>simp_all;done)|(simp_all[inzV,inzE,inzX,inzM,inzC,inzT,nA,w32];done)|(unfold inzE inzX inzT;simp_all[w32];done)
 have hP:InsP i vs me an na (vs):=InsP.no (by simp[inzV,hb0,hb1,hc1,hc2,hc4,hc5])
 rw[q6,q1,q2,q3,q4,q5]
 exact jd0 Z (⟨(cv,vs),hP⟩:{ c:Value×List Int // InsP i vs me an na c.2 }) Z (dc d3 dn) (fun _ _=>(kc k1 (kc k1 (kc k0 (kc k1 kn)))))
 refine jq (jr (js (jeql Z Z) (ja Z (jn (jx ?_)))))
 refine jif Z (fun hc6=>?_) (fun hc6=>?_)
 have hd9:=hmk i.Dst (by unfold makes3;rw[if_neg (by omega),if_neg (by omega)];simp)
 refine jq (jr (js (jf F67_4 Z) (js (jl k0 O21 Z Z) (js (jbu (v := .agg #[.int .i32 i.Imm,.slice none 0 0]) Z (fun _=>by kernel_rfl)) (jalc J74 Z fun g7=>jsta k0 Z74 Z Z Z ⟨Z,Z,trivial⟩ (saf Z) (jn (jx (jq (jq (jr ?_))))))))))
 refine ja Z (jn (jx (jb (cnl (r:=(rI .i32)) (E:=21) ?_))))
 refine jlp (u3 fun(j:Nat) (ea:List Int) (ve:Value)=>⟨j≤i.Args.length∧ea=(i.Args.take j).map (fun r=>ix vs (Int.toNat r)),[dv (rL (rI .i32)) av an,da rIns (vIns i a1) i],[gl X.n (rI .i32) 21 ve ea,bx g7 74 [.int .i32 i.Imm,ve],bx g3 67 [.int .i64 i.Op,.int .i64 i.Dst,.int .i64 i.Two,a1,.int .i32 i.Imm],bx g0 122 [vv,.int .i64 0,.int .i32 x0,mv,cv,.int .i64 st0,ia,im,av,.int .i64 ss0,.int .i64 (↑na),.bool false],gl Bv (rI .i32) 21 vv vs,gl Bm (rI .i32) 21 mv me,gl Bc rEvent 74 cv cl],[(0,.pointer (some ⟨g0,0,none⟩)),(3,.pointer (some ⟨g3,0,none⟩)),(7,.pointer (some ⟨g7,0,none⟩)),(8,.int .i64 (↑j))],i.Args.length-j⟩) (0,[],.slice none 0 0) ⟨by dsimp only;omega,rfl⟩ (dc d0 (dc d1 dn)) (kd (kd (kd (kc k0 kn)))) ⟨Z,Z,Z,eqI (by omega),trivial⟩ ?_
 rintro⟨j,ea,ve⟩;dsimp only[u3];rintro⟨hj,hea⟩
 refine cgo k0 fun w20=>?_
 have hel:ea.length=j:=by rw[hea];simp;omega
 refine jq (jq (jr (jm Z (js (jf F67_3 Z) (js (jl k2 O22 Z Z) (jdq (rIns.c_Args d1) fun q21 w21=>js (jln U22 (rIns.c_Args d1) Z) (js (jlss Z Z) (jn (jx ?_)))))))))
 refine jif Z (fun hc7=>?_) (fun hc7=>?_)
 have hrj:=hav _ (ix_mem (l:=i.Args) (i:=j) (by omega))
 refine jsk (jx (jq (jb (jany true (.a 0 (.a 1 (.a 2 (.a 3 (.a 4 (.a 5 (.o 6 (.o 7 (.o 8 (.a 9 (.o 10 .e))))))))))) Mixed (by kernel_rfl) (kc k1 (kc k1 kn)) fun F22=>jy Z (jf F74_1 Z) (jy Z (jl k0 O29 Z Z) (jy Z (jmv Z) (jy Z (jf F67_3 Z) (jy Z (jl k1 O22 Z Z) (jy Z (jmv Z) (jyo Z ?_))))))))))
 refine jdq d1 fun q24 w24=>jc E108 Z Z (r4Arg_ct j w2.one w3.one oi oj w24.one (by omega) (hav _ (ix_mem (by first|omega|simp;done|decide)))) (dc (rIns.c_Args d2) dn) (kc k3 (kc k3 kn)) (fun _=>p0) (fun _=>p2) fun _=>jyn d0 (kc k3 (kc k3 kn)) (jyo Z (jlit (r:=(rI .i32)) (l:=[ix vs (Int.toNat (ix i.Args j))]) U29 I21 (by decide) Z Z Z (lV Z Z (wI (wgl k1 (by omega))) ln) fun g124=>jyn d0 (kc k4 (kc k4 kn)) (jyo Z (jfz k0 (by(try simp)<;>omega) (japl U29 I21 (by decide) Z k2 Z Z d0 (by(try simp)<;>omega) fun v125 w28=>jyn d1 (kc k3 (kc k3 kn)) (jy Z (jf F74_1 Z) (jyo Z ?_)))))))
 refine jst k3 Z29 Z Z w28.one s1 (jyz d0 (jyd (jbn (jx (jr (jm Z (js (jadd Z Z (by omega)) (ja Z (jn ?_)))))))))
 exact jag (j+1,ea++([ix vs (Int.toNat (ix i.Args j))]),v125) ⟨by dsimp only;omega,by dsimp only;rw[hea,take_ix (l:=i.Args) (by omega),List.map_append];rfl⟩ (dc d5 (dc d6 dn)) (kc k1 (kc k0 (kc k2 (kd (kd kn))))) ⟨Z,Z,Z,eqI (by omega),trivial⟩
 refine jex (jtx (jtx (jbh (jx (jq (jany true (.a 0 (.a 1 (.a 2 (.a 3 (.a 4 (.a 5 (.a 6 (.o 7 (.o 8 (.a 9 (.a 10 (.a 11 (.o 12 .e))))))))))))) Mixed (by kernel_rfl) (kc k1 (kc k2 kn)) fun F30=>jy Z (jmv Z) (jy Z (jmv Z) (jy Z (jnil Z) (jy Z (jf F122_1 Z) (jy Z (jf F37_3 Z) ?_))))))))))
 refine jy Z (jl k1 O35 Z Z) (jy Z (jla k0 A74 Z74 Z Z Z) (jyo Z (jfz k0 (by omega) (jlit (r:=rEvent) (l:=[⟨i.Imm,ea⟩]) U35 I74 (by decide) Z Z Z (lA (rEvent.M (m:=⟨i.Imm,ea⟩) (c:=ve) d0 (rIns.W_Imm d3)) ln) fun g134=>jyn d1 (kc k1 (kc k2 kn)) (jyo Z (jfz k0 (by(try simp)<;>omega) (japl U35 I74 (by decide) Z k5 Z Z d0 (by(try simp)<;>omega) fun v135 w35=>jyn d1 (kc k1 (kc k2 kn)) (jy Z (jnil Z) (jy Z (jf F122_1 Z) ?_)))))))))
 refine jy Z (jf F37_3 Z) (jyo Z (jst k3 Z35 Z Z w35.one s4 (jyz d0 (jyd (jx (jq (jany false (.a 0 (.a 1 (.a 2 (.a 3 (.a 4 (.a 5 (.o 6 (.o 7 .e)))))))) Mixed (by kernel_rfl) (kc k0 (kc k2 kn)) fun F37=>jy Z (jmv Z) (jy Z (jnil Z) (jy Z (jf F122_0 Z) (jy Z (jl k0 O29 Z Z) ?_))))))))))
 refine jy Z (jf F67_1 Z) (jy Z (jl k1 O3 Z Z) (jyo Z (js (jig (i:=(Int.toNat i.Dst)) U29 Z21 k4 Z Z (by omega) (by omega)) (jyn d0 (kc k0 (kc k2 kn)) (jyo Z (jsg k4 Z Z21 Z Z Z (by omega) (wI (wl 0)) (jyn d0 (kc k1 (kc k3 kn)) (jyd (jx (jq (jq ?_)))))))))))
 refine jstl Mixed (by kernel_rfl) (jt (jmv Z) (jt (jnil Z) (jt (jf F122_3 Z) (jt (jl k1 O3 Z Z) (jt (jmv Z) (jt (jnil Z) (jt (jf F122_2 Z) (jt (jf F31_2 Z) (jt (jl k1 O29 Z Z) (tdq d7 fun q40 w40=>jt (jln U29 d7 Z) ?_))))))))))
 refine jt (jlss Z Z) (jdn (jx ?_))
 refine jif Z (fun hc8=>?_) (fun hc8=>?_)
 refine jany false (.a 0 (.a 1 (.a 2 (.a 3 (.a 4 (.a 5 (.a 6 (.a 7 (.a 8 (.a 9 (.a 10 (.a 11 (.a 12 (.a 13 (.a 14 (.a 15 (.a 16 (.o 17 (.o 18 .e))))))))))))))))))) Mixed (by kernel_rfl) (kc k1 (kc k3 kn)) fun F41=>jy Z (jmv Z) (jy Z (jnil Z) (jy Z (jf F122_0 Z) (jy Z (jl k0 O29 Z Z) (jy Z (jf F67_1 Z) (jy Z (jl k1 O3 Z Z) (jy Z (jmv Z) (jy Z (jnil Z) (jy Z (jf F122_2 Z) (jy Z (jf F31_2 Z) (jy Z (jl k0 O29 Z Z) ?_))))))))))
 refine jy Z (jmv Z) (jy Z (jnil Z) (jy Z (jf F122_3 Z) (jy Z (jl k0 O3 Z Z) (jy Z (jix U29 Z21 d7 Z Z Z (by omega)) (jy Z (jlI (dix d7 na (by omega)) O21 Z) (jyo Z (js (jig (i:=(Int.toNat i.Dst)) U29 Z21 k0 Z Z (by omega) (by first|omega|(simp<;>omega))) (jyn d0 (kc k1 (kc k3 kn)) (jyo Z (jsg k0 Z Z21 Z Z Z (by first|omega|(simp<;>omega)) (wI (wad (dix d9 na (by omega)))) (jyn d0 (kc k1 (kc k3 kn)) ?_)))))))))))
 refine jyd (jx (jr (jm Z (js (jnil Z) (js (jf F122_3 Z) (js (jl k1 O3 Z Z) (js (jadd Z Z (by omega)) (js (jnil Z) (js (jf F122_3 Z) (jst k1 Z3 Z Z Z s10 (jn ?_)))))))))))
 refine jbn ?_
 have hop:i.Op=17:=by assumption
 have hee:ea=i.Args.map (valV vs):=by rw[hea,List.take_of_length_le (by omega)];exact args_vs hav
 have q1:inzE i (valV vs) me 0=0:=by first|(simp[inzV,inzE,inzX,inzM,inzC,inzT,nA,w32,hop];done)|(simp[inzV,inzE,inzX,inzM,inzC,inzT,nA,w32,hop];split<;>simp_all;done)|(simp_all[inzV,inzE,inzX,inzM,inzC,inzT,nA,w32];done)|(unfold inzE inzX inzT;simp_all[w32];done)
 have q2:inzX i (valV vs) me x0=x0:=by first|(simp[inzV,inzE,inzX,inzM,inzC,inzT,nA,w32,hop];done)|(simp[inzV,inzE,inzX,inzM,inzC,inzT,nA,w32,hop];split<;>simp_all;done)|(simp_all[inzV,inzE,inzX,inzM,inzC,inzT,nA,w32];done)|(unfold inzE inzX inzT;simp_all[w32];done)
 have q3:inzM i (valV vs) me=me:=by first|(simp[inzV,inzE,inzX,inzM,inzC,inzT,nA,w32,hop];done)|(simp[inzV,inzE,inzX,inzM,inzC,inzT,nA,w32,hop];split<;>simp_all;done)|(simp_all[inzV,inzE,inzX,inzM,inzC,inzT,nA,w32];done)|(unfold inzE inzX inzT;simp_all[w32];done)
 have q4:inzC i (valV vs) cl=cl++([⟨i.Imm,ea⟩]):=by unfold inzC;rw[if_pos hop,hee]
 have q5:((nA i na:Nat):Int)=((na:Nat):Int)+1:=by first|(simp[inzV,inzE,inzX,inzM,inzC,inzT,nA,w32,hop];done)|(simp[inzV,inzE,inzX,inzM,inzC,inzT,nA,w32,hop];split<;>simp_all;done)|(simp_all[inzV,inzE,inzX,inzM,inzC,inzT,nA,w32];done)|(unfold inzE inzX inzT;simp_all[w32];done)
 have q6:(!decide (inzT i (valV vs) me=0))=false:=by first|(simp[inzV,inzE,inzX,inzM,inzC,inzT,nA,w32,hop];done)|(simp[inzV,inzE,inzX,inzM,inzC,inzT,nA,w32,hop];split<;>simp_all;done)|(simp_all[inzV,inzE,inzX,inzM,inzC,inzT,nA,w32];done)|(unfold inzE inzX inzT;simp_all[w32];done)
 have hP:InsP i vs me an na (List.set (List.set vs (Int.toNat i.Dst) 0) (Int.toNat i.Dst) (ix an na)):=InsP.two hd9 hd9 (by unfold inzV;rw[if_neg (by omega),if_neg (by omega),if_neg (by omega),if_pos hop,if_pos (drop_pos.2 (by omega)),drop_ix0])
 rw[q6,q1,q2,q3,q4,q5]
 exact jd0 Z (⟨(v135,List.set (List.set vs (Int.toNat i.Dst) 0) (Int.toNat i.Dst) (ix an na)),hP⟩:{ c:Value×List Int // InsP i vs me an na c.2 }) Z (dc d9 dn) (fun _ _=>(kd (kc k3 (kc k0 kn))))
 refine jsk (jx (jr (jm Z (js (jnil Z) (js (jf F122_3 Z) (js (jl k1 O3 Z Z) (js (jadd Z Z (by omega)) (js (jnil Z) (js (jf F122_3 Z) (jst k1 Z3 Z Z Z s10 (jn ?_)))))))))))
 refine jbn ?_
 have hop:i.Op=17:=by assumption
 have hee:ea=i.Args.map (valV vs):=by rw[hea,List.take_of_length_le (by omega)];exact args_vs hav
 have q1:inzE i (valV vs) me 0=0:=by first|(simp[inzV,inzE,inzX,inzM,inzC,inzT,nA,w32,hop];done)|(simp[inzV,inzE,inzX,inzM,inzC,inzT,nA,w32,hop];split<;>simp_all;done)|(simp_all[inzV,inzE,inzX,inzM,inzC,inzT,nA,w32];done)|(unfold inzE inzX inzT;simp_all[w32];done)
 have q2:inzX i (valV vs) me x0=x0:=by first|(simp[inzV,inzE,inzX,inzM,inzC,inzT,nA,w32,hop];done)|(simp[inzV,inzE,inzX,inzM,inzC,inzT,nA,w32,hop];split<;>simp_all;done)|(simp_all[inzV,inzE,inzX,inzM,inzC,inzT,nA,w32];done)|(unfold inzE inzX inzT;simp_all[w32];done)
 have q3:inzM i (valV vs) me=me:=by first|(simp[inzV,inzE,inzX,inzM,inzC,inzT,nA,w32,hop];done)|(simp[inzV,inzE,inzX,inzM,inzC,inzT,nA,w32,hop];split<;>simp_all;done)|(simp_all[inzV,inzE,inzX,inzM,inzC,inzT,nA,w32];done)|(unfold inzE inzX inzT;simp_all[w32];done)
 have q4:inzC i (valV vs) cl=cl++([⟨i.Imm,ea⟩]):=by unfold inzC;rw[if_pos hop,hee]
 have q5:((nA i na:Nat):Int)=((na:Nat):Int)+1:=by first|(simp[inzV,inzE,inzX,inzM,inzC,inzT,nA,w32,hop];done)|(simp[inzV,inzE,inzX,inzM,inzC,inzT,nA,w32,hop];split<;>simp_all;done)|(simp_all[inzV,inzE,inzX,inzM,inzC,inzT,nA,w32];done)|(unfold inzE inzX inzT;simp_all[w32];done)
 have q6:(!decide (inzT i (valV vs) me=0))=false:=by first|(simp[inzV,inzE,inzX,inzM,inzC,inzT,nA,w32,hop];done)|(simp[inzV,inzE,inzX,inzM,inzC,inzT,nA,w32,hop];split<;>simp_all;done)|(simp_all[inzV,inzE,inzX,inzM,inzC,inzT,nA,w32];done)|(unfold inzE inzX inzT;simp_all[w32];done)
 have hP:InsP i vs me an na (List.set vs (Int.toNat i.Dst) 0):=InsP.one hd9 (by unfold inzV;rw[if_neg (by omega),if_neg (by omega),if_neg (by omega),if_pos hop,if_neg (fun h=>by have:=drop_pos.1 h;omega)])
 rw[q6,q1,q2,q3,q4,q5]
 exact jd0 Z (⟨(v135,List.set vs (Int.toNat i.Dst) 0),hP⟩:{ c:Value×List Int // InsP i vs me an na c.2 }) Z (dc d7 dn) (fun _ _=>(kd (kc k3 (kc k0 kn))))
 refine jq (jr (js (jeql Z Z) (ja Z (jn (jx ?_)))))
 refine jif Z (fun hc9=>?_) (fun hc9=>?_)
 have ho2:=ho2 (by omega) (by omega) (by omega)
 have hb0:=aI_vs (i:=i) (vs:=vs) (k:=0) hav (by omega)
 have hr0:=hav _ (ix_mem (l:=i.Args) (i:=0) (by omega))
 have hb1:=aI_vs (i:=i) (vs:=vs) (k:=1) hav (by omega)
 have hr1:=hav _ (ix_mem (l:=i.Args) (i:=1) (by omega))
 have hd9:=hmk i.Dst (by unfold makes3;rw[if_neg (by omega),if_pos (by omega)];simp)
 have hd8:=hmk i.Two (by unfold makes3;rw[if_neg (by omega),if_pos (by omega)];simp)
 refine jq (jany false (.a 0 (.a 1 (.a 2 (.a 4 (.a 5 (.a 6 (.o 3 (.o 7 (.o 8 (.a 9 (.a 10 (.a 11 (.a 12 (.a 13 .e)))))))))))))) Mixed (by kernel_rfl) (kc k0 kn) fun F44=>jy Z (jmv Z) (jy Z (jf F67_3 Z) (jy Z (jl k0 O22 Z Z) (jy Z (jmv Z) (jy Z (jf F67_3 Z) (jy Z (jl k0 O22 Z Z) (jyo Z (jdq d1 fun q46 w46=>jc E108 Z Z (r4Arg_ct 0 w2.one w3.one oi oj w46.one (by omega) (hav _ (ix_mem (by first|omega|simp;done|decide)))) (dc (rIns.c_Args d2) dn) (kc k1 (kc k1 kn)) (fun _=>p0) (fun _=>p2) fun _=>jyn d0 (kc k2 kn) ?_))))))))
 refine jyo Z (jc E108 Z Z (r4Arg_ct 1 w2.one w3.one oi oj w46.one (by omega) (hav _ (ix_mem (by first|omega|simp;done|decide)))) (dc (rIns.c_Args d3) dn) (kd kn) (fun _=>p0) (fun _=>p2) fun _=>jyn d0 (kc k2 kn) (jyo Z (jwr (wgl (i:=(Int.toNat (ix i.Args 0))) k1 (by omega)) fun w49=>jwr (wgl (i:=(Int.toNat (ix i.Args 1))) k1 (by omega)) fun w50=>jcv E110 Z Z (rWide_ct (ix vs (Int.toNat (ix i.Args 0))) (ix vs (Int.toNat (ix i.Args 1))) w49 w50) dn kn (jyn d0 (kc k2 kn) (jy Z (jmv Z) (jy Z (jex' Z Z) (jy Z (jex' Z Z) (jy Z (jas Z) ?_))))))))
 refine jy Z (jas Z) (jyd (jx (jq (jany false (.a 0 (.a 1 (.a 2 (.a 3 (.a 4 (.a 5 (.a 6 (.o 7 (.o 8 .e))))))))) Mixed (by kernel_rfl) (kc k0 (kc k1 kn)) fun F51=>jy Z (jmv Z) (jy Z (jnil Z) (jy Z (jf F122_0 Z) (jy Z (jl k0 O29 Z Z) (jy Z (jf F67_1 Z) (jy Z (jl k1 O3 Z Z) (jy Z (jmv Z) ?_))))))))))
 refine jyo Z (js (jig (i:=(Int.toNat i.Dst)) U29 Z21 k1 Z Z (by omega) (by omega)) (jyn d0 (kc k0 (kc k1 kn)) (jyo Z (jsg k1 Z Z21 Z Z Z (by omega) (wI (wp (JE.wrap_wrap _ _))) (jyn d0 (kc k1 (kc k1 kn)) (jyd (jx (jany false (.a 0 (.a 1 (.a 2 (.a 3 (.a 4 (.a 5 (.a 6 (.o 7 (.o 8 .e))))))))) Mixed (by kernel_rfl) (kc k1 (kc k1 kn)) fun F54=>jy Z (jmv Z) (jy Z (jnil Z) (jy Z (jf F122_0 Z) ?_))))))))))
 refine jy Z (jl k0 O29 Z Z) (jy Z (jf F67_2 Z) (jy Z (jl k1 O3 Z Z) (jy Z (jmv Z) (jyo Z (js (jig (i:=(Int.toNat i.Two)) U29 Z21 k0 Z Z (by omega) (by first|omega|(simp<;>omega))) (jyn d0 (kc k1 (kc k1 kn)) (jyo Z (jsg k0 Z Z21 Z Z Z (by first|omega|(simp<;>omega)) (wI (wp (JE.wrap_wrap _ _))) (jyn d0 (kc k1 (kc k1 kn)) (jyd (jbn ?_)))))))))))
 have q1:inzE i (valV vs) me 0=0:=by first|(simp[inzV,inzE,inzX,inzM,inzC,inzT,nA,w32,hb0,hb1,hc1,hc2,hc4,hc6,hc9];done)|(simp[inzV,inzE,inzX,inzM,inzC,inzT,nA,w32,hb0,hb1,hc1,hc2,hc4,hc6,hc9];split<;>simp_all;done)|(simp_all[inzV,inzE,inzX,inzM,inzC,inzT,nA,w32];done)|(unfold inzE inzX inzT;simp_all[w32];done)
 have q2:inzX i (valV vs) me x0=x0:=by first|(simp[inzV,inzE,inzX,inzM,inzC,inzT,nA,w32,hb0,hb1,hc1,hc2,hc4,hc6,hc9];done)|(simp[inzV,inzE,inzX,inzM,inzC,inzT,nA,w32,hb0,hb1,hc1,hc2,hc4,hc6,hc9];split<;>simp_all;done)|(simp_all[inzV,inzE,inzX,inzM,inzC,inzT,nA,w32];done)|(unfold inzE inzX inzT;simp_all[w32];done)
 have q3:inzM i (valV vs) me=me:=by first|(simp[inzV,inzE,inzX,inzM,inzC,inzT,nA,w32,hb0,hb1,hc1,hc2,hc4,hc6,hc9];done)|(simp[inzV,inzE,inzX,inzM,inzC,inzT,nA,w32,hb0,hb1,hc1,hc2,hc4,hc6,hc9];split<;>simp_all;done)|(simp_all[inzV,inzE,inzX,inzM,inzC,inzT,nA,w32];done)|(unfold inzE inzX inzT;simp_all[w32];done)
 have q4:inzC i (valV vs) cl=cl:=by first|(simp[inzV,inzE,inzX,inzM,inzC,inzT,nA,w32,hb0,hb1,hc1,hc2,hc4,hc6,hc9];done)|(simp[inzV,inzE,inzX,inzM,inzC,inzT,nA,w32,hb0,hb1,hc1,hc2,hc4,hc6,hc9];split<;>simp_all;done)|(simp_all[inzV,inzE,inzX,inzM,inzC,inzT,nA,w32];done)|(unfold inzE inzX inzT;simp_all[w32];done)
 have q5:((nA i na:Nat):Int)=((na:Nat):Int):=by first|(simp[inzV,inzE,inzX,inzM,inzC,inzT,nA,w32,hb0,hb1,hc1,hc2,hc4,hc6,hc9];done)|(simp[inzV,inzE,inzX,inzM,inzC,inzT,nA,w32,hb0,hb1,hc1,hc2,hc4,hc6,hc9];split<;>simp_all;done)|(simp_all[inzV,inzE,inzX,inzM,inzC,inzT,nA,w32];done)|(unfold inzE inzX inzT;simp_all[w32];done)
 have q6:(!decide (inzT i (valV vs) me=0))=false:=by first|(simp[inzV,inzE,inzX,inzM,inzC,inzT,nA,w32,hb0,hb1,hc1,hc2,hc4,hc6,hc9];done)|(simp[inzV,inzE,inzX,inzM,inzC,inzT,nA,w32,hb0,hb1,hc1,hc2,hc4,hc6,hc9];split<;>simp_all;done)|(simp_all[inzV,inzE,inzX,inzM,inzC,inzT,nA,w32];done)|(unfold inzE inzX inzT;simp_all[w32];done)
 have hP:InsP i vs me an na (List.set (List.set vs (Int.toNat i.Dst) ((wideM (ix vs (Int.toNat (ix i.Args 0))) (ix vs (Int.toNat (ix i.Args 1)))).1)) (Int.toNat i.Two) ((wideM (ix vs (Int.toNat (ix i.Args 0))) (ix vs (Int.toNat (ix i.Args 1)))).2)):=InsP.two hd9 hd8 (by first|(simp[inzV,w32,drop_pos,drop_ix0,hb0,hb1,hc1,hc2,hc4,hc6,hc9];done)|(simp[inzV,w32,drop_pos,drop_ix0,hb0,hb1,hc1,hc2,hc4,hc6,hc9];split<;>simp_all;done)|(simp_all[inzV,w32,drop_pos,drop_ix0];done))
 rw[q6,q1,q2,q3,q4,q5]
 exact jd0 Z (⟨(cv,List.set (List.set vs (Int.toNat i.Dst) ((wideM (ix vs (Int.toNat (ix i.Args 0))) (ix vs (Int.toNat (ix i.Args 1)))).1)) (Int.toNat i.Two) ((wideM (ix vs (Int.toNat (ix i.Args 0))) (ix vs (Int.toNat (ix i.Args 1)))).2)),hP⟩:{ c:Value×List Int // InsP i vs me an na c.2 }) Z (dc d7 dn) (fun _ _=>(kc k1 (kc k0 (kc k1 (kc k1 kn)))))
 have ho2:=ho2 (by omega) (by omega) (by omega)
 have hb0:=aI_vs (i:=i) (vs:=vs) (k:=0) hav (by omega)
 have hr0:=hav _ (ix_mem (l:=i.Args) (i:=0) (by omega))
 have hb1:=aI_vs (i:=i) (vs:=vs) (k:=1) hav (by omega)
 have hr1:=hav _ (ix_mem (l:=i.Args) (i:=1) (by omega))
 have hd9:=hmk i.Dst (by unfold makes3;rw[if_neg (by omega),if_neg (by omega)];simp)
 refine jq (jany false (.a 0 (.a 1 (.a 2 (.a 3 (.a 4 (.a 6 (.a 7 (.a 8 (.o 5 (.o 9 (.o 10 (.a 11 (.a 12 (.a 13 (.a 14 (.a 15 .e)))))))))))))))) Mixed (by kernel_rfl) (kc k0 kn) fun F57=>jy Z (jf F67_0 Z) (jy Z (jl k0 O3 Z Z) (jy Z (jmv Z) (jy Z (jf F67_3 Z) (jy Z (jl k0 O22 Z Z) (jy Z (jmv Z) (jy Z (jf F67_3 Z) (jy Z (jl k0 O22 Z Z) (jyo Z (jdq d1 fun q59 w59=>?_))))))))))
 refine jc E108 Z Z (r4Arg_ct 0 w2.one w3.one oi oj w59.one (by omega) (hav _ (ix_mem (by first|omega|simp;done|decide)))) (dc (rIns.c_Args d2) dn) (kc k1 (kc k1 kn)) (fun _=>p0) (fun _=>p2) fun _=>jyn d0 (kc k2 kn) (jyo Z (jc E108 Z Z (r4Arg_ct 1 w2.one w3.one oi oj w59.one (by omega) (hav _ (ix_mem (by first|omega|simp;done|decide)))) (dc (rIns.c_Args d3) dn) (kd kn) (fun _=>p0) (fun _=>p2) fun _=>jyn d0 (kc k2 kn) (jyo Z (jwr (wgl (i:=(Int.toNat (ix i.Args 0))) k1 (by omega)) fun w62=>jwr (wgl (i:=(Int.toNat (ix i.Args 1))) k1 (by omega)) fun w63=>jcv E111 Z Z (rDo_ct i.Op (ix vs (Int.toNat (ix i.Args 0))) (ix vs (Int.toNat (ix i.Args 1))) w62 w63) dn kn (jyn d0 (kc k2 kn) (jy Z (jmv Z) (jy Z (jex' Z Z) ?_)))))))
 refine jy Z (jex' Z Z) (jy Z (jas Z) (jy Z (jas Z) (jyd (jx (jq (jq (jr (jm Z (js (jnot Z) (jn (jx ?_)))))))))))
 refine jif Z (fun hc10=>?_) (fun hc10=>?_)
 refine jq (jr (jm Z (jc E106 Z Z (r4End_ct _ _ w1.one w2.one w3.one oi oj w59.one) dn (kc k0 kn) (fun _=>p0) (fun _=>p1) fun _=>jn (jx (jrt (jtr (jbr ?_)))))))
 have q1:inzE i (valV vs) me 0=2:=by first|(simp[inzV,inzE,inzX,inzM,inzC,inzT,nA,w32,hb0,hb1,hc1,hc2,hc4,hc6,hc9,hc10];done)|(simp[inzV,inzE,inzX,inzM,inzC,inzT,nA,w32,hb0,hb1,hc1,hc2,hc4,hc6,hc9,hc10];split<;>simp_all;done)|(simp_all[inzV,inzE,inzX,inzM,inzC,inzT,nA,w32];done)|(unfold inzE inzX inzT;simp_all[w32];done)
 have q2:inzX i (valV vs) me x0=(-1):=by first|(simp[inzV,inzE,inzX,inzM,inzC,inzT,nA,w32,hb0,hb1,hc1,hc2,hc4,hc6,hc9,hc10];done)|(simp[inzV,inzE,inzX,inzM,inzC,inzT,nA,w32,hb0,hb1,hc1,hc2,hc4,hc6,hc9,hc10];split<;>simp_all;done)|(simp_all[inzV,inzE,inzX,inzM,inzC,inzT,nA,w32];done)|(unfold inzE inzX inzT;simp_all[w32];done)
 have q3:inzM i (valV vs) me=me:=by first|(simp[inzV,inzE,inzX,inzM,inzC,inzT,nA,w32,hb0,hb1,hc1,hc2,hc4,hc6,hc9,hc10];done)|(simp[inzV,inzE,inzX,inzM,inzC,inzT,nA,w32,hb0,hb1,hc1,hc2,hc4,hc6,hc9,hc10];split<;>simp_all;done)|(simp_all[inzV,inzE,inzX,inzM,inzC,inzT,nA,w32];done)|(unfold inzE inzX inzT;simp_all[w32];done)
 have q4:inzC i (valV vs) cl=cl:=by first|(simp[inzV,inzE,inzX,inzM,inzC,inzT,nA,w32,hb0,hb1,hc1,hc2,hc4,hc6,hc9,hc10];done)|(simp[inzV,inzE,inzX,inzM,inzC,inzT,nA,w32,hb0,hb1,hc1,hc2,hc4,hc6,hc9,hc10];split<;>simp_all;done)|(simp_all[inzV,inzE,inzX,inzM,inzC,inzT,nA,w32];done)|(unfold inzE inzX inzT;simp_all[w32];done)
 have q5:((nA i na:Nat):Int)=((na:Nat):Int):=by first|(simp[inzV,inzE,inzX,inzM,inzC,inzT,nA,w32,hb0,hb1,hc1,hc2,hc4,hc6,hc9,hc10];done)|(simp[inzV,inzE,inzX,inzM,inzC,inzT,nA,w32,hb0,hb1,hc1,hc2,hc4,hc6,hc9,hc10];split<;>simp_all;done)|(simp_all[inzV,inzE,inzX,inzM,inzC,inzT,nA,w32];done)|(unfold inzE inzX inzT;simp_all[w32];done)
 have q6:(!decide (inzT i (valV vs) me=0))=true:=by first|(simp[inzV,inzE,inzX,inzM,inzC,inzT,nA,w32,hb0,hb1,hc1,hc2,hc4,hc6,hc9,hc10];done)|(simp[inzV,inzE,inzX,inzM,inzC,inzT,nA,w32,hb0,hb1,hc1,hc2,hc4,hc6,hc9,hc10];split<;>simp_all;done)|(simp_all[inzV,inzE,inzX,inzM,inzC,inzT,nA,w32];done)|(unfold inzE inzX inzT;simp_all[w32];done)
 have hP:InsP i vs me an na (vs):=InsP.trap (by first|(simp[inzV,inzE,inzX,inzM,inzC,inzT,nA,w32,hb0,hb1,hc1,hc2,hc4,hc6,hc9,hc10];done)|(simp_all[inzV,inzE,inzX,inzM,inzC,inzT,nA,w32];done))
 rw[q6,q1,q2,q3,q4,q5]
 exact jr0 Z (⟨(cv,vs),hP⟩:{ c:Value×List Int // InsP i vs me an na c.2 }) Z (dc d3 dn) (fun _ _=>(kd (kc k1 (kc k1 kn))))
 refine jsk (jx (jany false (.a 0 (.a 1 (.a 2 (.a 3 (.a 4 (.a 5 (.a 6 (.o 7 (.o 8 .e))))))))) Mixed (by kernel_rfl) (kc k0 (kc k1 kn)) fun F64=>jy Z (jmv Z) (jy Z (jnil Z) (jy Z (jf F122_0 Z) (jy Z (jl k0 O29 Z Z) (jy Z (jf F67_1 Z) (jy Z (jl k1 O3 Z Z) (jy Z (jmv Z) (jyo Z (js (jig (i:=(Int.toNat i.Dst)) U29 Z21 k1 Z Z (by omega) (by omega)) ?_))))))))))
 refine jyn d0 (kc k0 (kc k1 kn)) (jyo Z (jsg k1 Z Z21 Z Z Z (by omega) (wI (wdo (wp w62))) (jyn d0 (kc k1 (kc k1 kn)) (jyd (jbn ?_)))))
 have q1:inzE i (valV vs) me 0=0:=by first|(simp[inzV,inzE,inzX,inzM,inzC,inzT,nA,w32,hb0,hb1,hc1,hc2,hc4,hc6,hc9,hc10];done)|(simp[inzV,inzE,inzX,inzM,inzC,inzT,nA,w32,hb0,hb1,hc1,hc2,hc4,hc6,hc9,hc10];split<;>simp_all;done)|(simp_all[inzV,inzE,inzX,inzM,inzC,inzT,nA,w32];done)|(unfold inzE inzX inzT;simp_all[w32];done)
 have q2:inzX i (valV vs) me x0=x0:=by first|(simp[inzV,inzE,inzX,inzM,inzC,inzT,nA,w32,hb0,hb1,hc1,hc2,hc4,hc6,hc9,hc10];done)|(simp[inzV,inzE,inzX,inzM,inzC,inzT,nA,w32,hb0,hb1,hc1,hc2,hc4,hc6,hc9,hc10];split<;>simp_all;done)|(simp_all[inzV,inzE,inzX,inzM,inzC,inzT,nA,w32];done)|(unfold inzE inzX inzT;simp_all[w32];done)
 have q3:inzM i (valV vs) me=me:=by first|(simp[inzV,inzE,inzX,inzM,inzC,inzT,nA,w32,hb0,hb1,hc1,hc2,hc4,hc6,hc9,hc10];done)|(simp[inzV,inzE,inzX,inzM,inzC,inzT,nA,w32,hb0,hb1,hc1,hc2,hc4,hc6,hc9,hc10];split<;>simp_all;done)|(simp_all[inzV,inzE,inzX,inzM,inzC,inzT,nA,w32];done)|(unfold inzE inzX inzT;simp_all[w32];done)
 have q4:inzC i (valV vs) cl=cl:=by first|(simp[inzV,inzE,inzX,inzM,inzC,inzT,nA,w32,hb0,hb1,hc1,hc2,hc4,hc6,hc9,hc10];done)|(simp[inzV,inzE,inzX,inzM,inzC,inzT,nA,w32,hb0,hb1,hc1,hc2,hc4,hc6,hc9,hc10];split<;>simp_all;done)|(simp_all[inzV,inzE,inzX,inzM,inzC,inzT,nA,w32];done)|(unfold inzE inzX inzT;simp_all[w32];done)
 have q5:((nA i na:Nat):Int)=((na:Nat):Int):=by first|(simp[inzV,inzE,inzX,inzM,inzC,inzT,nA,w32,hb0,hb1,hc1,hc2,hc4,hc6,hc9,hc10];done)|(simp[inzV,inzE,inzX,inzM,inzC,inzT,nA,w32,hb0,hb1,hc1,hc2,hc4,hc6,hc9,hc10];split<;>simp_all;done)|(simp_all[inzV,inzE,inzX,inzM,inzC,inzT,nA,w32];done)|(unfold inzE inzX inzT;simp_all[w32];done)
 have q6:(!decide (inzT i (valV vs) me=0))=false:=by first|(simp[inzV,inzE,inzX,inzM,inzC,inzT,nA,w32,hb0,hb1,hc1,hc2,hc4,hc6,hc9,hc10];done)|(simp[inzV,inzE,inzX,inzM,inzC,inzT,nA,w32,hb0,hb1,hc1,hc2,hc4,hc6,hc9,hc10];split<;>simp_all;done)|(simp_all[inzV,inzE,inzX,inzM,inzC,inzT,nA,w32];done)|(unfold inzE inzX inzT;simp_all[w32];done)
 have hP:InsP i vs me an na (List.set vs (Int.toNat i.Dst) ((doM i.Op (ix vs (Int.toNat (ix i.Args 0))) (ix vs (Int.toNat (ix i.Args 1)))).1)):=InsP.one hd9 (by first|(simp[inzV,w32,drop_pos,drop_ix0,hb0,hb1,hc1,hc2,hc4,hc6,hc9,hc10];done)|(simp[inzV,w32,drop_pos,drop_ix0,hb0,hb1,hc1,hc2,hc4,hc6,hc9,hc10];split<;>simp_all;done)|(simp_all[inzV,w32,drop_pos,drop_ix0];done))
 rw[q6,q1,q2,q3,q4,q5]
 exact jd0 Z (⟨(cv,List.set vs (Int.toNat i.Dst) ((doM i.Op (ix vs (Int.toNat (ix i.Args 0))) (ix vs (Int.toNat (ix i.Args 1)))).1)),hP⟩:{ c:Value×List Int // InsP i vs me an na c.2 }) Z (dc d5 dn) (fun _ _=>(kc k1 (kc k0 (kc k1 (kc k1 kn)))))
end Go.Proofs.YtmfkkodnghambaaGreat
namespace Go.Proofs.YtmfkkodnghambaaGreat
open Go.JE
theorem topL_gq:∀(l:List Int) (t:Int),t≤topL l t∧∀x∈l,x<8192→x<topL l t
 | [],t=>⟨Int.le_refl _,fun x h=>(by cases h)⟩
 | y::l,t=>by
  rw[topL]
  have h:=topL_gq l (if t≤y∧y<8192 then y+1 else t)
  have h0:t≤if t≤y∧y<8192 then y+1 else t:=by split<;>omega
  refine⟨by omega,fun x hx h8=>?_⟩
  rcases List.mem_cons.1 hx with e|e
  ·subst e
   have:x<if t≤x∧x<8192 then x+1 else t:=by split<;>omega
   omega
  ·exact h.2 x e h8
theorem topT_gq:∀(l:List D.Tg3) (t:Int),t≤topT l t∧∀g∈l,∀x∈g.Makes,x<8192→x<topT l t
 | [],t=>⟨Int.le_refl _,fun x h=>(by cases h)⟩
 | g::l,t=>by
  rw[topT]
  have h:=topT_gq l (topL g.Makes t)
  have h2:=topL_gq g.Makes t
  refine⟨by omega,fun z hz x hx h8=>?_⟩
  rcases List.mem_cons.1 hz with e|e
  ·subst e;have:=h2.2 x hx h8;omega
  ·exact h.2 z e x hx h8
def topN(f:D.Func):Nat:=(max (top3 f) f.Params).toNat
theorem mk_tq{f:D.Func}(hG:GoodF f){b:Nat}{v:Int}(hb:b<f.Blocks.length)(h:v∈mkB (ix f.Blocks b)):0≤v∧v<topN f:=by
 obtain⟨t,h1,h2⟩:∃t∈things3 f,v∈t.Makes:=by
  rcases mkB_ix.1 h with⟨i,h1,h2⟩|⟨i,h1,h2⟩
  ·exact⟨_,things_mem.2 (.phi hb h1),by simp[phT,h2]⟩
  ·exact⟨_,things_mem.2 (.ins hb h1),h2⟩
 have h3:=hG.rng b hb v h
 have h4:=hG.par
 have h5:=(topT_gq (things3 f) (min (max f.Params 0) 8192)).2 t h1 v h2 (by omega)
 have h6:v<top3 f:=h5
 unfold topN;omega
theorem us_tq{f:D.Func}(hG:GoodF f){b:Nat}{v at':Int}(h:US f v b at'):0≤v∧v<topN f:=by
 rcases h with h|⟨wb,wp,⟨h1,h2⟩,_⟩
 ·unfold topN;omega
 ·refine mk_tq hG h1 ((mkB_ix (x:=ix f.Blocks wb)).2 ?_)
  rcases h2 with⟨i,a,b,_⟩|⟨i,a,b,_⟩
  ·exact .inl ⟨i,a,b⟩
  ·exact .inr ⟨i,a,b⟩
theorem predK_nd{rows:List (List Int)}{v:Nat}:∀k,(predK rows k v).Nodup
 | 0=>List.nodup_nil
 | k+1=>by
  rw[predK]
  refine List.nodup_append.2 ⟨predK_nd k,by split<;>simp,fun x hx y hy e=>?_⟩
  subst e
  obtain⟨j,h1,h2,_⟩:=predK_mem.1 hx
  split at hy
  ·simp at hy;omega
  ·cases hy
theorem good_v4{f:D.Func}(hG:GoodF f){b:Nat}(hb:b<f.Blocks.length){fr:Int}(h:∀p∈(ix f.Blocks b).Phis,fr∈p.In.map (fun x=>x.From)):valid4 (topN f) (ix f.Blocks b).Phis fr:=fun p hp=>by
 refine⟨⟨mk_tq hG hb ?_,fun x hx=>us_tq hG (hG.up b hb p hp x hx),h p hp⟩,?_⟩
 ·obtain⟨i,hi,e⟩:=List.getElem_of_mem hp
  exact mkB_ix.2 (.inl ⟨i,hi,by rw[ix_eq hi,e]⟩)
 ·rw[(hG.fr b hb p hp).2,predsG_at];exact predK_nd _
theorem good_a4{f:D.Func}(hG:GoodF f){b j:Nat}(hb:b<f.Blocks.length)(hj:j<(ix f.Blocks b).Ins.length):(∀a∈(ix (ix f.Blocks b).Ins j).Args,0≤a∧a<topN f)∧∀r∈makes3 (ix (ix f.Blocks b).Ins j),0≤r∧r<topN f :=
 ⟨fun a ha=>us_tq hG (hG.ui b hb j hj a ha),fun r hr=>mk_tq hG hb (mkB_ix.2 (.inr ⟨j,hj,hr⟩))⟩
theorem good_t4{f:D.Func}(hG:GoodF f){b:Nat}(hb:b<f.Blocks.length):∀a∈(ix f.Blocks b).Term.Args,0≤a∧a<topN f:=fun a ha=>us_tq hG (hG.ut b hb a ha)
theorem valV_setN{vs:List Int}{k:Nat}{x:Int}(h:k<vs.length):valV (vs.set k x)=setV (valV vs) k x:=by
 have:=valV_set (vs:=vs) (k:=(k:Int)) (x:=x) (by omega)
 rwa[Int.toNat_natCast] at this
theorem args_nx{f:D.Func}{i:D.Input}{k:Nat}{vs:List Int}(hk:k<vs.length)(h1:(k:Int)<f.Params)(h2:k<i.Args.length)(h:valV vs=argsV (argsF f i) k):valV (vs.set k (ix i.Args k))=argsV (argsF f i) (k+1):=by
 rw[valV_setN hk,h,argsV]
 have e:ix (argsF f i) k=ix i.Args k:=by
  unfold argsF
  rw[ix_eq (by rw[List.length_take];omega),ix_eq h2,List.getElem_take]
 rw[e]
theorem st_yes{x st N:Int}(h:st<N):stE 0 st N=0∧stV 0 x st N=x∧stS 0 st N=st+1∧stB 0 st N=true:=by
 have h1:stE 0 st N=0:=by unfold stE;rw[if_neg (by omega)]
 refine⟨h1,by unfold stV;rw[if_neg (by omega)],by unfold stS;rw[if_pos h1],by unfold stB;simp[h1]⟩
theorem st_no{x st N:Int}(h:N≤st):stE 0 st N=3∧stV 0 x st N=0∧stS 0 st N=st∧stB 0 st N=false:=by
 have h1:stE 0 st N=3:=by unfold stE;rw[if_pos (by omega)]
 refine⟨h1,by unfold stV;rw[if_pos (by omega)],by unfold stS;rw[if_neg (by rw[h1];decide)],by unfold stB;simp[h1]⟩
theorem lis_ok4{N:Int}{l:List D.Ins}{j:Nat}{R:RSt×Bool}{V:Int→Int}{va st:Int}{me an:List Int}{cl:List D.Event}(h:R=lisF N (l.drop j) ⟨V,0,va,me,cl,st,an⟩)(hj:j<l.length)(h2:st<N) :
  R=lisF N (l.drop (j+1)) ⟨inzV (ix l j) V me an,inzE (ix l j) V me 0,inzX (ix l j) V me va,inzM (ix l j) V me,inzC (ix l j) V cl,st+1,inzA (ix l j) an⟩:=by
 obtain⟨e1,e2,e3,e4⟩:=st_yes (x:=va) h2
 have:=lis_go2 h hj e4
 rwa[e1,e2,e3] at this
def Run4(f:D.Func)(i:D.Input)(n:Bool)(en x:Int)(me:List Int)(cl:List D.Event)(st:Int)(p:Prop):Prop:=(n=true∧runF f i=⟨en,x,me,cl,st⟩)∨(n=false∧en=0∧p)
theorem Run4.out{f:D.Func}{i:D.Input}{n:Bool}{en x:Int}{me:List Int}{cl:List D.Event}{st:Int}{p:Prop}(h:Run4 f i n en x me cl st p)(hn:n=true):runF f i=⟨en,x,me,cl,st⟩:=(h.resolve_right (fun h9=>by rw[hn] at h9;cases h9.1)).2
theorem Run4.on{f:D.Func}{i:D.Input}{n:Bool}{en x:Int}{me:List Int}{cl:List D.Event}{st:Int}{p:Prop}(h:Run4 f i n en x me cl st p)(hn:n=false):en=0∧p:=(h.resolve_left (fun h9=>by rw[hn] at h9;cases h9.1)).2
section
variable{f:D.Func}{i:D.Input}{fu:Nat}{ab fb:Int}{V V2:Int→Int}{x x2 st st2:Int}{me me2 an an2:List Int}{cl cl2:List D.Event}{j:Nat}
theorem run4_no(hrun:runF f i=outF (blocksF f.Blocks i.Steps fu ab fb ⟨V,0,x,me,cl,st,an⟩))(hfu:0<fu)(h:lisF i.Steps (ix f.Blocks (Int.toNat ab)).Ins (phisF fb (ix f.Blocks (Int.toNat ab)).Phis ⟨V,0,x,me,cl,st,an⟩)=lisF i.Steps ((ix f.Blocks (Int.toNat ab)).Ins.drop j) ⟨V2,0,x2,me2,cl2,st2,an2⟩)
  (hj:j<(ix f.Blocks (Int.toNat ab)).Ins.length) (h2:i.Steps≤st2):runF f i=⟨3,0,me2,cl2,st2⟩:=by
 obtain⟨e1,e2,e3,e4⟩:=st_no (x:=x2) h2
 have h3:=lis_stop h hj (show stepOk i.Steps ⟨V2,0,x2,me2,cl2,st2,an2⟩=false from e4)
 rw[hrun,blk_stop h3 hfu]
 unfold stepF outF;dsimp only;rw[e1,e2,e3]
theorem run4_trap(hrun:runF f i=outF (blocksF f.Blocks i.Steps fu ab fb ⟨V,0,x,me,cl,st,an⟩))(hfu:0<fu)(h:lisF i.Steps (ix f.Blocks (Int.toNat ab)).Ins (phisF fb (ix f.Blocks (Int.toNat ab)).Phis ⟨V,0,x,me,cl,st,an⟩)=lisF i.Steps ((ix f.Blocks (Int.toNat ab)).Ins.drop j) ⟨V2,0,x2,me2,cl2,st2,an2⟩)
  (hj:j<(ix f.Blocks (Int.toNat ab)).Ins.length) (h2:st2<i.Steps) (hz:inzT (ix (ix f.Blocks (Int.toNat ab)).Ins j) V2 me2≠0):runF f i=⟨inzE (ix (ix f.Blocks (Int.toNat ab)).Ins j) V2 me2 0,inzX (ix (ix f.Blocks (Int.toNat ab)).Ins j) V2 me2 x2,inzM (ix (ix f.Blocks (Int.toNat ab)).Ins j) V2 me2,inzC (ix (ix f.Blocks (Int.toNat ab)).Ins j) V2 cl2,st2+1⟩:=by
 have h3:=lis_ok4 h hj h2
 rw[hrun,blk_trap h3 (by show inzE _ _ _ _≠0;unfold inzE;rw[if_neg hz];decide) hfu];rfl
theorem run4_step(hrun:runF f i=outF (blocksF f.Blocks i.Steps fu ab fb ⟨V,0,x,me,cl,st,an⟩))(hfu:0<fu)(h:lisF i.Steps (ix f.Blocks (Int.toNat ab)).Ins (phisF fb (ix f.Blocks (Int.toNat ab)).Phis ⟨V,0,x,me,cl,st,an⟩)=lisF i.Steps ((ix f.Blocks (Int.toNat ab)).Ins.drop j) ⟨V2,0,x2,me2,cl2,st2,an2⟩)
  (hj:(ix f.Blocks (Int.toNat ab)).Ins.length≤j) (h2:i.Steps≤st2):runF f i=⟨3,0,me2,cl2,st2⟩:=by
 obtain⟨e1,e2,e3,e4⟩:=st_no (x:=x2) h2
 rw[hrun,blk_step (lis_end h hj) (show stepOk i.Steps ⟨V2,0,x2,me2,cl2,st2,an2⟩=false from e4) hfu]
 unfold stepF outF;dsimp only;rw[e1,e2,e3]
theorem run4_end(hrun:runF f i=outF (blocksF f.Blocks i.Steps fu ab fb ⟨V,0,x,me,cl,st,an⟩))(hfu:0<fu)(h:lisF i.Steps (ix f.Blocks (Int.toNat ab)).Ins (phisF fb (ix f.Blocks (Int.toNat ab)).Phis ⟨V,0,x,me,cl,st,an⟩)=lisF i.Steps ((ix f.Blocks (Int.toNat ab)).Ins.drop j) ⟨V2,0,x2,me2,cl2,st2,an2⟩)
  (hj:(ix f.Blocks (Int.toNat ab)).Ins.length≤j) (h2:st2<i.Steps) (hz:¬termE (ix f.Blocks (Int.toNat ab)).Term 0=0):runF f i=⟨termE (ix f.Blocks (Int.toNat ab)).Term 0,termV (ix f.Blocks (Int.toNat ab)).Term V2 x2,me2,cl2,st2+1⟩:=by
 obtain⟨e1,e2,e3,e4⟩:=st_yes (x:=x2) h2
 have e:stepF i.Steps ⟨V2,0,x2,me2,cl2,st2,an2⟩=⟨V2,0,x2,me2,cl2,st2+1,an2⟩:=by unfold stepF;dsimp only;rw[e1,e2,e3]
 rw[hrun,blk_end (lis_end h hj) (show stepOk i.Steps ⟨V2,0,x2,me2,cl2,st2,an2⟩=true from e4) (by rw[e];exact hz) hfu,e];rfl
theorem run4_go(hrun:runF f i=outF (blocksF f.Blocks i.Steps fu ab fb ⟨V,0,x,me,cl,st,an⟩))(hfu:0<fu)(h:lisF i.Steps (ix f.Blocks (Int.toNat ab)).Ins (phisF fb (ix f.Blocks (Int.toNat ab)).Phis ⟨V,0,x,me,cl,st,an⟩)=lisF i.Steps ((ix f.Blocks (Int.toNat ab)).Ins.drop j) ⟨V2,0,x2,me2,cl2,st2,an2⟩)
  (hj:(ix f.Blocks (Int.toNat ab)).Ins.length≤j) (h2:st2<i.Steps) (hz:termE (ix f.Blocks (Int.toNat ab)).Term 0=0):runF f i=outF (blocksF f.Blocks i.Steps (fu-1) (termB (ix f.Blocks (Int.toNat ab)).Term V2) ab ⟨V2,0,termV (ix f.Blocks (Int.toNat ab)).Term V2 x2,me2,cl2,st2+1,an2⟩):=by
 obtain⟨e1,e2,e3,e4⟩:=st_yes (x:=x2) h2
 have e:stepF i.Steps ⟨V2,0,x2,me2,cl2,st2,an2⟩=⟨V2,0,x2,me2,cl2,st2+1,an2⟩:=by unfold stepF;dsimp only;rw[e1,e2,e3]
 have e5:termF (ix f.Blocks (Int.toNat ab)).Term ⟨V2,0,x2,me2,cl2,st2+1,an2⟩=⟨V2,0,termV (ix f.Blocks (Int.toNat ab)).Term V2 x2,me2,cl2,st2+1,an2⟩:=by unfold termF;dsimp only;rw[hz]
 rw[hrun,blk_go (lis_end h hj) (show stepOk i.Steps ⟨V2,0,x2,me2,cl2,st2,an2⟩=true from e4) (by rw[e,e5]) hfu,e,e5]
end
theorem inzX_no{i:D.Ins}{V:Int→Int}{me:List Int}{va:Int}(h:inzT i V me=0):inzE i V me 0=0:=by unfold inzE;rw[if_pos h]
theorem nA_le(i:D.Ins)(na:Nat):nA i na≤na+1:=by unfold nA;split<;>omega
theorem E52:Ent Tryz.prog 52:=⟨_,Tryz.func52,by kernel_rfl,by kernel_rfl⟩
theorem E54:Ent Tryz.prog 54:=⟨_,Tryz.func54,by kernel_rfl,by kernel_rfl⟩
theorem E55:Ent Tryz.prog 55:=⟨_,Tryz.func55,by kernel_rfl,by kernel_rfl⟩
theorem E56:Ent Tryz.prog 56:=⟨_,Tryz.func56,by kernel_rfl,by kernel_rfl⟩
theorem E57:Ent Tryz.prog 57:=⟨_,Tryz.func57,by kernel_rfl,by kernel_rfl⟩
theorem E58:Ent Tryz.prog 58:=⟨_,Tryz.func58,by kernel_rfl,by kernel_rfl⟩
set_option maxRecDepth 8000
theorem run4_beg{f:D.Func}{i:D.Input}{k:Nat}(h:(argsF f i).length≤k∧k≤(argsF f i).length):runF f i=outF (blocksF f.Blocks i.Steps (Int.toNat i.Steps+1) 0 (-1) ⟨argsV (argsF f i) k,0,0,memM i,[],0,i.Answers.drop 0⟩):=by
 rw[show k=(argsF f i).length by omega];rfl
theorem jrw{P:Program}{n:Fs}{w0:World}{ops:Array Oper}{Q:Exit→Act→World→Prop}{X:Cx}{D:List Dt}{L M:List Res}{e:Env}{rest:List Oper}{B E:Nat}{v:Value}{l:List Int}(hk:Tk L (gl B (rI .i32) E v l) M)(k:(∀j,IntKind.i32.wrap (valV l j)=valV l j)→LH P n w0 ops Q X D L e rest):LH P n w0 ops Q X D L e rest:=fun F H hp =>
 k (fun j=>by
  unfold valV;split
  ·exact wgl (i:=j.toNat) hk (by omega) F H hp.hin hp.hd hp.ok
  ·rfl) F H hp
theorem argsF_len(f:D.Func)(i:D.Input)(h:0≤f.Params):((argsF f i).length:Int)=min (i.Args.length:Int) f.Params:=by unfold argsF;rw[List.length_take];omega
set_option maxHeartbeats 4000000 in
theorem r4Run_ct{a0:Value}{f:D.Func}{a1a a1b a1c:Value}{i:D.Input}(r:Bool)(hr:r=true↔GoodF f)(hN:i.Steps≤1000000):Ts Tryz.prog 24 #[vFunc f a0,vInput i (a1a,a1b,a1c)] [da rFunc (vFunc f a0) f,da rInput (vInput i (a1a,a1b,a1c)) i] [] rOutcome vOutcome (runR r f i):=by
 refine jenter (args:=[vFunc f a0,vInput i (a1a,a1b,a1c)]) Tryz.func24 rfl rfl rfl fun w0 X=>?_
 have htr:=top3_rng f
 refine jq (jr (jbox Z Z fun g2=>jbox Z Z fun g3=>jalc J37 Z fun g4=>jn (jx (jq (jq (jr (js (jla k2 A49 Z49 Z Z Z) (jcv E52 Z Z (r3right_ct r hr) (dc d0 dn) kn ?_))))))))
 refine js (jnot Z) (jn (jx ?_))
 refine jif Z (fun hc1=>?_) (fun hc1=>?_)
 refine jq (jr (js (jbu (v := .agg #[.int .i64 4,.int .i32 0,.slice none 0 0,.slice none 0 0,.int .i64 0]) Z (fun _=>by kernel_rfl)) (jsta k0 Z37 Z Z Z ⟨Z,Z,Z,Z,Z,trivial⟩ (saf Z) (jn (jx (jrt (jtr ?_)))))))
 exact jrcA (val:=vOutcome) (b:=⟨4,0,[],[],0⟩) (c:=(.slice none 0 0,.slice none 0 0)) Z Z k0 A37 Z37 Z (runR_no (by simpa using hc1)) (rOutcome.M (m:=⟨4,0,[],[],0⟩) (c:=(.slice none 0 0,.slice none 0 0)) wN wN (wl 4) (wl 0) (wl 0))
 have hr1:r=true:=by simpa using hc1
 have hG:=hr.1 hr1
 have hpr:=hG.par
 have hln:=hG.len
 have hsz:cntT f.Blocks<1000000000:=by have h9:=hG.cnt;rw[cntT_F];omega
 have hal:=argsF_len f i hpr.1
 have htn:(topN f:Int)=max (top3 f) f.Params:=by unfold topN;omega
 refine jsk (jx (jq (jany false (.a 0 (.a 2 (.a 3 (.a 6 (.o 1 (.a 4 (.o 5 (.a 7 (.o 8 (.a 9 .e)))))))))) Mixed (by kernel_rfl) (kc k1 (kc k1 kn)) fun F1=>jy Z (jla k1 A49 Z49 Z Z Z) (jy Z (jf F49_0 Z) (jy Z (jl k1 O3 Z Z) (jy Z (jla k0 A31 Z31 Z Z Z) (jyo Z (jcv E53 Z Z (r3top_ct hsz) (dc d1 dn) kn (jyn d0 (kc k1 (kc k1 kn)) (jy Z (jmax Z Z) ?_))))))))))
 refine jyo Z (jmk (m:=(Int.toNat (max (top3 f) f.Params))) (r:=(rI .i32)) U29 I21 Z Z Z (by omega) (by omega) (by omega) (wI (wp (by decide))) Z fun g22=>jyn d0 (kc k2 (kc k2 kn)) (adq (rInput.c_Args d3) fun q4 w4=>adq (rInput.c_Mem d3) fun q5 w5=>adq (rInput.c_Answers d3) fun q6 w6=>jy Z (jbu (v := .agg #[(.slice (some ⟨g22,0,none⟩) (Int.toNat (max (top3 f) f.Params)) (Int.toNat (max (top3 f) f.Params))),.int .i64 0,.int .i32 0,.slice none 0 0,.slice none 0 0,.int .i64 0,a1a,a1b,a1c,.int .i64 i.Steps,.int .i64 0,.bool false]) Z (fun _=>by obtain⟨_,_,_,rfl⟩:=w4;obtain⟨_,_,_,rfl⟩:=w5;obtain⟨_,_,_,rfl⟩:=w6;kernel_rfl)) (jyo Z (jbox Z Z fun g25=>jyn d0 (kc k3 (kc k3 kn)) (jy Z (jas Z) (jyd ?_))))))
 refine jx (jq (jr (jm Z (js (jla k3 A31 Z31 Z Z Z) (jcg E54 Z Z rMem_ct (dc d4 dn) kn fun v28 w8=>js (jnil Z) (js (jf F122_1 Z) (js (jf F37_2 Z) (jst k1 Z29 Z Z w8.one s3 (jn (jx ?_))))))))))
 refine jq (jq (jr (ja Z (jn (jx (jb ?_))))))
 refine jlp (u2 fun(k:Nat) (vs0:List Int)=>⟨k≤i.Args.length∧(k:Int)≤f.Params∧valV vs0=argsV (argsF f i) k∧vs0.length=topN f,[da rFunc (vFunc f a0) f,da rInput (vInput i (a1a,a1b,a1c)) i],[bx g25 122 [(.slice (some ⟨g22,0,none⟩) (Int.toNat (max (top3 f) f.Params)) (Int.toNat (max (top3 f) f.Params))),.int .i64 0,.int .i32 0,v28,.slice none 0 0,.int .i64 0,a1a,a1b,a1c,.int .i64 i.Steps,.int .i64 0,.bool false],gl X.n (rI .i32) 21 v28 (memM i),gl X.n (rI .i32) 21 (.slice (some ⟨g22,0,none⟩) (Int.toNat (max (top3 f) f.Params)) (Int.toNat (max (top3 f) f.Params))) vs0,bx g4 37 [.int .i64 0,.int .i32 0,.slice none 0 0,.slice none 0 0,.int .i64 0],bx g3 31 [a1a,a1b,a1c,.int .i64 i.Steps],bx g2 49 [.int .i64 f.Params,a0]],[(2,.pointer (some ⟨g2,0,none⟩)),(3,.pointer (some ⟨g3,0,none⟩)),(4,.pointer (some ⟨g4,0,none⟩)),(5,.pointer (some ⟨g25,0,none⟩)),(6,.int .i64 (↑k))],i.Args.length-k⟩) (0,List.replicate (Int.toNat (max (top3 f) f.Params)) 0) ⟨Nat.zero_le _,by dsimp only;omega,by dsimp only;exact valV_rep,by dsimp only;rw[List.length_replicate];rfl⟩ (dc d3 (dc d4 dn)) (kd (kd (kd kn))) ⟨Z,Z,Z,Z,eqI (by omega),trivial⟩ ?_
 rintro⟨k,vs0⟩;dsimp only[u2];rintro⟨hk,hkp,hvv,hvl0⟩
 refine jq (jq (jr (jm Z (js (jf F49_0 Z) (js (jl k5 O3 Z Z) (js (jlss Z Z) (jm Z (jg Z Z (.t _) (fun hg=>jmv Z) (jg Z Z (.t _) (fun hg=>jf F31_0 Z) (jg Z Z (.t _) (fun hg=>jl k4 O29 (evg Z hg) Z) (jg Z Z (.t _) (fun hg=>jln U29 (rInput.c_Args d1) (evg Z hg)) ?_)))))))))))
 refine jg Z Z (.t _) (fun hg=>jlss (evg Z hg) (evg Z hg)) (js (jand Z Z) (jn (jx ?_)))
 refine jif Z (fun hc2=>?_) (fun hc2=>?_)
 refine jsk (jx (jq (jb (jtl 11 Mixed (by kernel_rfl) (jt (jmv Z) (jt (jnil Z) (jt (jf F122_0 Z) (jt (jl k0 O29 Z Z) (jt (jmv Z) (jt (jf F31_0 Z) (jt (jl k4 O29 Z Z) ?_)))))))))))
 refine jt (jmv Z) (jt (jix U29 Z21 (rInput.c_Args d1) Z Z Z (by omega)) (jt (jlI (dix (rInput.c_Args d1) k (by omega)) O21 Z) (jt (jig U29 Z21 k2 Z Z Z (by omega)) (jtt (jsg k2 Z Z21 Z Z Z (by omega) (wI (wad (dix (rInput.c_Args d1) k (by omega)))) (jn (jbn (jx (jr (jm Z (js (jadd Z Z (by omega)) ?_)))))))))))
 refine ja Z (jn ?_)
 exact jag (k+1,List.set vs0 k (ix i.Args k)) ⟨by dsimp only;omega,by dsimp only;omega,args_nx (by omega) (by omega) (by omega) hvv,by dsimp only;rw[List.length_set];exact hvl0⟩ (dc d0 (dc d1 dn)) (kc k1 (kc k1 (kd (kd kn)))) ⟨Z,Z,Z,Z,eqI (by omega),trivial⟩
 refine jex (jtx (jtx (jbh (jx (jq (jr (ja Z (jn (jx (jq (jr ?_)))))))))))
 refine ja Z (jn (jx (jq (jb (cnl (r:=rEvent) (E:=74) ?_)))))
 refine jlp (u12 fun(fu:Nat) (ab:Int) (fb:Int) (vs1:List Int) (e1:Int) (x1:Int) (me1:List Int) (cl1:List D.Event) (st1:Int) (na1:Nat) (n1:Bool) (vc1:Value)=>⟨vs1.length=topN f∧me1.length≤4096∧(0≤st1∧st1≤1000000)∧cl1.length≤st1∧(na1:Int)≤st1∧IntKind.i32.wrap x1=x1∧(0≤e1∧e1≤3)∧Run4 f i n1 e1 x1 me1 cl1 st1 (0<fu∧runF f i=outF (blocksF f.Blocks i.Steps fu ab fb ⟨valV vs1,0,x1,me1,cl1,st1,i.Answers.drop na1⟩)∧(0≤ab∧ab<f.Blocks.length)∧(∀p∈(ix f.Blocks (Int.toNat ab)).Phis,fb∈p.In.map (fun x=>x.From))∧i.Steps-st1<fu),[da rFunc (vFunc f a0) f,da rInput (vInput i (a1a,a1b,a1c)) i],[gl X.n rEvent 74 vc1 cl1,bx g25 122 [(.slice (some ⟨g22,0,none⟩) (Int.toNat (max (top3 f) f.Params)) (Int.toNat (max (top3 f) f.Params))),.int .i64 e1,.int .i32 x1,v28,vc1,.int .i64 st1,a1a,a1b,a1c,.int .i64 i.Steps,.int .i64 (↑na1),.bool n1],gl X.n (rI .i32) 21 v28 me1,gl X.n (rI .i32) 21 (.slice (some ⟨g22,0,none⟩) (Int.toNat (max (top3 f) f.Params)) (Int.toNat (max (top3 f) f.Params))) vs1,bx g4 37 [.int .i64 0,.int .i32 0,.slice none 0 0,.slice none 0 0,.int .i64 0],bx g2 49 [.int .i64 f.Params,a0]],[(2,.pointer (some ⟨g2,0,none⟩)),(4,.pointer (some ⟨g4,0,none⟩)),(5,.pointer (some ⟨g25,0,none⟩)),(7,.int .i64 fb),(8,.int .i64 ab)],fu⟩) (Int.toNat i.Steps+1,0,(-1),vs0,0,0,memM i,[],0,0,false,.slice none 0 0) ⟨by dsimp only;exact hvl0,by dsimp only;exact memM_len i,by dsimp only;omega,by dsimp only;simp,by dsimp only;omega,by dsimp only;decide,by dsimp only;omega,.inr ⟨rfl,rfl,by dsimp only;omega,by dsimp only;rw[hvv];exact run4_beg (by omega),by dsimp only;omega,hG.phi0,by dsimp only;omega⟩⟩ (dc d0 (dc d1 dn)) (kd (kd (kc k0 (kc k1 kn)))) ⟨Z,Z,Z,Z,Z,trivial⟩ ?_
 rintro⟨fu,ab,fb,vs1,e1,x1,me1,cl1,st1,na1,n1,vc1⟩;dsimp only[u12];rintro⟨hvl1,hml1,hst1,hcl1,hna1,hx1,he1,hR1⟩
 refine cgo k0 fun w9=>jq (jq (jr (jm Z (js (jnil Z) (js (jf F122_4 Z) (js (jl k1 O4 Z Z) (js (jnot Z) (jn (jx ?_)))))))))
 refine jif Z (fun hc3=>?_) (fun hc3=>?_)
 have hn1f:n1=false:=by simpa using hc3
 obtain⟨he0,hfu,hrun,hab,hph,hfs⟩:=hR1.on hn1f
 subst hn1f;subst he0
 have hbb:Int.toNat ab<f.Blocks.length:=by omega
 have hv4:=good_v4 hG hbb hph
 rw[←hvl1] at hv4
 refine jsk (jx (jb (jq (jr (js (jf F49_1 Z) (js (jl k5 O47 Z Z) (jm Z (jdq (rFunc.cB d0) fun q10 w10=>js (jix (i:=(Int.toNat ab)) U47 Z62 (rFunc.cB d0) Z Z (by omega) (by omega)) (jA4 sBlock (jlA (dix (rFunc.cB d0) (Int.toNat ab) (by omega)) A62 Z62 Z) fun c65a c65b c65c c65d=>jalc J62 Z fun g9=>?_)))))))))
 refine jdq (rBlock.cP d0) fun q12 w12=>jdq (rBlock.cI d0) fun q13 w13=>jdq (rBlock.c_Term_Args d0) fun q14 w14=>jdq (rBlock.c_Term_To d0) fun q15 w15=>jsta k0 Z62 Z Z Z ⟨w12.one,w13.one,Z,w14.one,w15.one,Z,trivial⟩ (saf Z) (jn (jx (jq (jr (jm Z (js (jf F62_0 Z) (js (jl k0 O57 Z Z) ?_)))))))
 refine jm Z (jc E55 Z Z (r4Phis_ct _ w8.one w9.one w4.one w5.one w6.one hv4) (dc (rBlock.cP d0) dn) (kc k2 (kc k3 kn)) (fun _=>p0) (fun _=>p2) fun _=>jn (jx (jq (jq (jr (ja Z (jn (jx (jb ?_)))))))))
 refine jlp (u10 fun(j:Nat) (vs2:List Int) (e2:Int) (x2:Int) (me2:List Int) (cl2:List D.Event) (st2:Int) (na2:Nat) (n2:Bool) (vc2:Value)=>⟨j≤(ix f.Blocks (Int.toNat ab)).Ins.length∧st1≤st2∧vs2.length=topN f∧me2.length≤4096∧(0≤st2∧st2≤1000000)∧cl2.length≤st2∧(na2:Int)≤st2∧IntKind.i32.wrap x2=x2∧(0≤e2∧e2≤3)∧Run4 f i n2 e2 x2 me2 cl2 st2 (lisF i.Steps (ix f.Blocks (Int.toNat ab)).Ins (phisF fb (ix f.Blocks (Int.toNat ab)).Phis ⟨valV vs1,0,x1,me1,cl1,st1,i.Answers.drop na1⟩)=lisF i.Steps ((ix f.Blocks (Int.toNat ab)).Ins.drop j) ⟨valV vs2,0,x2,me2,cl2,st2,i.Answers.drop na2⟩),[da rBlock (vBlock (ix f.Blocks (Int.toNat ab)) (c65a,c65b,c65c,c65d)) (ix f.Blocks (Int.toNat ab)),da rFunc (vFunc f a0) f,da rInput (vInput i (a1a,a1b,a1c)) i],[bx g25 122 [(.slice (some ⟨g22,0,none⟩) (Int.toNat (max (top3 f) f.Params)) (Int.toNat (max (top3 f) f.Params))),.int .i64 e2,.int .i32 x2,v28,vc2,.int .i64 st2,a1a,a1b,a1c,.int .i64 i.Steps,.int .i64 (↑na2),.bool n2],gl X.n (rI .i32) 21 (.slice (some ⟨g22,0,none⟩) (Int.toNat (max (top3 f) f.Params)) (Int.toNat (max (top3 f) f.Params))) vs2,bx g9 62 [c65a,c65b,.int .i64 (((ix f.Blocks (Int.toNat ab)).Term).Kind),c65c,c65d,.int .i32 (((ix f.Blocks (Int.toNat ab)).Term).Imm)],gl X.n rEvent 74 vc2 cl2,gl X.n (rI .i32) 21 v28 me2,bx g4 37 [.int .i64 0,.int .i32 0,.slice none 0 0,.slice none 0 0,.int .i64 0],bx g2 49 [.int .i64 f.Params,a0]],[(2,.pointer (some ⟨g2,0,none⟩)),(4,.pointer (some ⟨g4,0,none⟩)),(5,.pointer (some ⟨g25,0,none⟩)),(7,.int .i64 fb),(8,.int .i64 ab),(9,.pointer (some ⟨g9,0,none⟩)),(10,.int .i64 (↑j))],(ix f.Blocks (Int.toNat ab)).Ins.length-j⟩) (0,phisM ((ix f.Blocks (Int.toNat ab)).Phis) fb vs1,0,x1,me1,cl1,st1,na1,false,vc1) ⟨Nat.zero_le _,by dsimp only;omega,by dsimp only;rw[phisM_len];exact hvl1,hml1,hst1,hcl1,hna1,hx1,by dsimp only;omega,.inr ⟨rfl,rfl,by dsimp only;rw[valV_phis (fun p hp=>(hv4 p hp).1)];rfl⟩⟩ (dc d0 (dc d1 (dc d2 dn))) (kd (kd (kd (kc k0 kn)))) ⟨Z,Z,Z,Z,Z,Z,eqI (by omega),trivial⟩ ?_
 rintro⟨j,vs2,e2,x2,me2,cl2,st2,na2,n2,vc2⟩;dsimp only[u10];rintro⟨hj,hs12,hvl2,hml2,hst2,hcl2,hna2,hx2,he2,hR2⟩
 refine cgo k3 fun w16=>jq (jq (jr (jm Z (js (jf F62_1 Z) (js (jl k2 O58 Z Z) (js (jln U58 (rBlock.cI d0) Z) (js (jlss Z Z) (jm Z (jg Z Z (.t _) (fun hg=>jmv Z) (jg Z Z (.t _) (fun hg=>jnil (evg Z hg)) ?_))))))))))
 refine jg Z Z (.t _) (fun hg=>jf F122_4 (evg Z hg)) (jg Z Z (.t _) (fun hg=>jl k0 O4 (evg Z hg) Z) (jg Z Z (.t _) (fun hg=>jnot (evg Z hg)) (js (jand Z Z) (jn (jx ?_)))))
 refine jif Z (fun hc4=>?_) (fun hc4=>?_)
 have hn2f:n2=false:=by have h9:=hc4;(try simp at h9);exact h9.2
 obtain⟨he0,hlis⟩:=hR2.on hn2f
 subst hn2f;subst he0
 have ha4:=good_a4 hG hbb (j:=j) (by omega)
 rw[←hvl2] at ha4
 refine jsk (jx (jq (jb (jq (jr (jm Z (jc E56 Z Z (r4Step_ct Z w8.one w16.one w4.one w5.one w6.one (by omega)) dn (kc k0 kn) (fun _=>p0) (fun _=>p1) fun _=>ja Z (jn (jx (jq ?_))))))))))
 refine jr (jm Z (jn (jx ?_)))
 refine jif Z (fun hc5=>?_) (fun hc5=>?_)
 have hst9:st2<i.Steps:=by rcases Int.lt_or_le st2 i.Steps with h|h;(· exact h);(· have h9:=(st_no (x:=x2) h).2.2.2;simp_all)
 obtain⟨sE9,sV9,sS9,sB9⟩:=st_yes (x:=x2) hst9
 rw[sE9,sV9,sS9,sB9]
 simp only[Bool.not_true]
 refine jr (jm Z (js (jf F62_1 Z) (js (jl k2 O58 Z Z) (jm Z (js (jix U58 Z67 (rBlock.cI d0) Z Z Z (by omega)) (jA sIns (jlA (dix (rBlock.cI d0) j (by omega)) A67 Z67 Z) fun c93=>jc E57 Z Z (r4Ins_ct (i:=(ix ((ix f.Blocks (Int.toNat ab)).Ins) j)) w4.one w5.one (hG.op _ hbb _ (ix_mem (l:=(ix f.Blocks (Int.toNat ab)).Ins) (i:=j) (by omega))) ha4.1 ha4.2 (by omega) (by omega) (by omega)) (dc (rInput.c_Answers d3) (dc d0 dn)) (kd (kc k2 (kc k1 kn))) (fun _=>p1) (fun _=>p4) fun c94=>jgo k3 fun w19=>jn (jbn (jx ?_))))))))
 refine jr (jm Z (js (jadd Z Z (by omega)) (ja Z (jn ?_))))
 exact jag (j+1,c94.1.2,inzE (ix ((ix f.Blocks (Int.toNat ab)).Ins) j) (valV vs2) me2 0,inzX (ix ((ix f.Blocks (Int.toNat ab)).Ins) j) (valV vs2) me2 x2,inzM (ix ((ix f.Blocks (Int.toNat ab)).Ins) j) (valV vs2) me2,inzC (ix ((ix f.Blocks (Int.toNat ab)).Ins) j) (valV vs2) cl2,st2+1,(nA (ix ((ix f.Blocks (Int.toNat ab)).Ins) j) na2),!decide (inzT (ix ((ix f.Blocks (Int.toNat ab)).Ins) j) (valV vs2) me2=0),c94.1.1) ⟨by dsimp only;omega,by dsimp only;omega,by dsimp only;rw[c94.2.1];exact hvl2,by dsimp only;rw[inzM_len];exact hml2,by dsimp only;omega,by have h9:=inzC_len (ix (ix f.Blocks (Int.toNat ab)).Ins j) (valV vs2) cl2;dsimp only;omega,by have h9:=nA_le (ix (ix f.Blocks (Int.toNat ab)).Ins j) na2;dsimp only;omega,by dsimp only;exact inzX_wr hx2,by dsimp only;exact inzE_rng (by omega),by dsimp only;(by_cases hz:inzT (ix (ix f.Blocks (Int.toNat ab)).Ins j) (valV vs2) me2=0;(· exact .inr ⟨by simp[hz],inzX_no (va:=0) hz,by have h9:=lis_ok4 hlis (by omega) (by omega);rw[inzX_no (va:=0) hz,inzA_na,←c94.2.2 hz] at h9;exact h9⟩);(· exact .inl ⟨by simp[hz],run4_trap hrun hfu hlis (by omega) (by omega) hz⟩))⟩ (dc d2 (dc d3 (dc d4 dn))) (kd (kc k2 (kc k1 (kd (kc k0 kn))))) ⟨Z,Z,Z,Z,Z,Z,eqI (by omega),trivial⟩
 have hst9:i.Steps≤st2:=by rcases Int.lt_or_le st2 i.Steps with h|h;(· have h9:=(st_yes (x:=x2) h).2.2.2;simp_all);(· exact h)
 obtain⟨sE9,sV9,sS9,sB9⟩:=st_no (x:=x2) hst9
 rw[sE9,sV9,sS9,sB9]
 simp only[Bool.not_false]
 refine jsk (jbn (jx (jr (jm Z (js (jadd Z Z (by omega)) (ja Z (jn ?_)))))))
 exact jag (j+1,vs2,3,0,me2,cl2,st2,na2,true,vc2) ⟨by dsimp only;omega,by dsimp only;omega,hvl2,hml2,hst2,hcl2,hna2,by dsimp only;decide,by dsimp only;omega,.inl ⟨rfl,run4_no hrun hfu hlis (by omega) (by omega)⟩⟩ (dc d0 (dc d1 (dc d2 dn))) (kd (kd (kd (kc k0 kn)))) ⟨Z,Z,Z,Z,Z,Z,eqI (by omega),trivial⟩
 refine jex (jtx (jtx (jbh (jx (jq (jq (jr (jm Z (js (jnil Z) (js (jf F122_4 Z) (js (jl k0 O4 Z Z) ?_)))))))))))
 refine jn (jx ?_)
 refine jif Z (fun hc6=>?_) (fun hc6=>?_)
 refine jex (jtx (jbo (jtx (jbh (jx (jq (jr (jm Z (js (jnil Z) (js (jf F122_1 Z) (js (jla k0 A37 Z37 Z Z Z) ?_)))))))))))
 refine jsta k5 Z37 Z Z Z ⟨Z,Z,w8.one,w16.one,Z,trivial⟩ (saf Z) (jn (jx (jrt (qfz k5 (by omega) (qfz k4 (by omega) ?_)))))
 exact jrcA (val:=vOutcome) (b:=⟨e2,x2,me2,cl2,st2⟩) (c:=(v28,vc2)) Z Z k0 A37 Z37 Z (by rw[runR_yes hr1];exact hR2.out (by simpa using hc6)) (rOutcome.M (m:=⟨e2,x2,me2,cl2,st2⟩) (c:=(v28,vc2)) d1 d0 (wp (IntWalk.i64_in e2 (by omega))) (wp hx2) (wp (IntWalk.i64_in st2 (by omega))))
 have hn2f:n2=false:=by simpa using hc6
 obtain⟨he0,hlis⟩:=hR2.on hn2f
 subst hn2f;subst he0
 have hje:(ix f.Blocks (Int.toNat ab)).Ins.length≤j:=by have h9:=hc4;(try simp at h9);omega
 have ht4:=good_t4 hG hbb
 rw[←hvl2] at ht4
 refine jsk (jx (jq (jr (jm Z (jc E56 Z Z (r4Step_ct Z w8.one w16.one w4.one w5.one w6.one (by omega)) dn (kc k0 kn) (fun _=>p0) (fun _=>p1) fun _=>ja Z (jn (jx (jq (jr (jm Z ?_))))))))))
 refine jn (jx ?_)
 refine jif Z (fun hc7=>?_) (fun hc7=>?_)
 have hst9:st2<i.Steps:=by rcases Int.lt_or_le st2 i.Steps with h|h;(· exact h);(· have h9:=(st_no (x:=x2) h).2.2.2;simp_all)
 obtain⟨sE9,sV9,sS9,sB9⟩:=st_yes (x:=x2) hst9
 rw[sE9,sV9,sS9,sB9]
 simp only[Bool.not_true]
 refine jq (jr (jm Z (ja Z (jn (jx (jr (jm Z (js (jf F62_2 Z) (js (jla k2 A60 Z60 Z Z Z) (jwr (rBlock.W_Term_Imm d0) fun w22=>jc E58 Z Z (r4Term_ct (t:=((ix f.Blocks (Int.toNat ab)).Term)) w8.one w16.one w4.one w5.one w6.one (hG.tm _ hbb) ht4) (dc (rBlock.P_Term d0) dn) (kd kn) (fun _=>p0) (fun _=>p2) fun _=>?_))))))))))
 refine jrw k1 fun hvw23=>ja Z (jn (jbn ?_))
 exact jag (if termE (ix f.Blocks (Int.toNat ab)).Term 0=0 then fu-1 else 0,termB ((ix f.Blocks (Int.toNat ab)).Term) (valV vs2),ab,vs2,termE ((ix f.Blocks (Int.toNat ab)).Term) 0,termV ((ix f.Blocks (Int.toNat ab)).Term) (valV vs2) x2,me2,cl2,st2+1,na2,!decide (termE ((ix f.Blocks (Int.toNat ab)).Term) 0=0),vc2) ⟨hvl2,hml2,by dsimp only;omega,by dsimp only;omega,by dsimp only;omega,by dsimp only;exact termV_wr hx2 hvw23 w22,by dsimp only;exact termE_rng (by omega),by dsimp only;(by_cases hz:termE (ix f.Blocks (Int.toNat ab)).Term 0=0;(· have htm:=hG.tm _ hbb;have htr:=hG.to _ hbb _ (term_to (V:=valV vs2) htm hz);exact .inr ⟨by simp[hz],hz,by rw[if_pos hz];omega,by rw[if_pos hz];exact run4_go hrun hfu hlis (by omega) (by omega) hz,by omega,(by have h9:=hG.phi_from hbb (term_to (V:=valV vs2) htm hz);rwa[Int.toNat_of_nonneg hab.1] at h9),by rw[if_pos hz];omega⟩);(· exact .inl ⟨by simp[hz],run4_end hrun hfu hlis (by omega) (by omega) hz⟩))⟩ (dc d1 (dc d2 dn)) (kc k3 (kc k0 (kc k2 (kc k0 (kc k1 (kc k1 kn)))))) ⟨Z,Z,Z,Z,Z,trivial⟩ (by dsimp only[u12];(try split)<;>omega)
 have hst9:i.Steps≤st2:=by rcases Int.lt_or_le st2 i.Steps with h|h;(· have h9:=(st_yes (x:=x2) h).2.2.2;simp_all);(· exact h)
 obtain⟨sE9,sV9,sS9,sB9⟩:=st_no (x:=x2) hst9
 rw[sE9,sV9,sS9,sB9]
 simp only[Bool.not_false]
 refine jsk (jbn ?_)
 exact jag (0,ab,fb,vs2,3,0,me2,cl2,st2,na2,true,vc2) ⟨hvl2,hml2,hst2,hcl2,hna2,by dsimp only;decide,by dsimp only;omega,.inl ⟨rfl,run4_step hrun hfu hlis (by omega) (by omega)⟩⟩ (dc d1 (dc d2 dn)) (kc k3 (kc k0 (kc k2 (kc k0 (kc k1 (kc k1 kn)))))) ⟨Z,Z,Z,Z,Z,trivial⟩ (by dsimp only[u12];(try split)<;>omega)
 refine jex (jtx (jtx (jbh (jx (jq (jr (jm Z (js (jnil Z) (js (jf F122_1 Z) (js (jla k1 A37 Z37 Z Z Z) (jsta k4 Z37 Z Z Z ⟨Z,Z,w8.one,w9.one,Z,trivial⟩ (saf Z) ?_)))))))))))
 refine jn (jx (jrt (qfz k3 (by omega) (qfz k1 (by omega) ?_))))
 exact jrcA (val:=vOutcome) (b:=⟨e1,x1,me1,cl1,st1⟩) (c:=(v28,vc1)) Z Z k0 A37 Z37 Z (by rw[runR_yes hr1];exact hR1.out (by simpa using hc3)) (rOutcome.M (m:=⟨e1,x1,me1,cl1,st1⟩) (c:=(v28,vc1)) d1 d0 (wp (IntWalk.i64_in e1 (by omega))) (wp hx1) (wp (IntWalk.i64_in st1 (by omega))))
end Go.Proofs.YtmfkkodnghambaaGreat
namespace Go.Proofs.YtmfkkodnghambaaGreat
open Go.JE
abbrev U173:=@Tryz.underlying173
set_option maxRecDepth 4000
theorem mem_nx{P:Int→Prop}{l:List Int}{k:Nat}(hk:k<l.length)(h:∀n∈l.take k,P n)(h2:P (ix l k)):∀n∈l.take (k+1),P n:=fun n hn=>by
 rw[take_ix hk,List.mem_append] at hn
 rcases hn with h3|h3
 ·exact h n h3
 ·simp at h3;subst h3;exact h2
theorem nodup_nx{l:List Int}{k:Nat}(hk:k<l.length)(h:(l.take k).Nodup)(h2:ix l k∉l.take k):(l.take (k+1)).Nodup:=by
 rw[take_ix hk,List.nodup_append]
 exact⟨h,by simp,fun x hx y hy e=>by simp at hy;subst hy;subst e;exact h2 hx⟩
theorem ins_none{b p:Int}{l:List Int}{L:List (Int×Value)}{n:Int}(h:lkM (insA b p l L) n=none):n∉l∧lkM L n=none:=by
 rw[lk_insA] at h
 split at h
 ·cases h
 ·rename_i h1;exact⟨h1,h⟩
def Tch(c:Chn):Prop:=∃e b p:Int,e≠0∧c=[{ v := .iface 173 (.agg #[.int .i64 e,.int .i64 b,.int .i64 p]),recovered:=false }]
theorem mustX_ct(ok:Bool)(er:Int)(b:Int)(p:Int)(he:er≠0):Trx Tryz.prog 113 #[.bool ok,.int .i64 er,.int .i64 b,.int .i64 p] [] [] (fun _:PLift (ok=true) => .tuple #[]) (fun _=>[]) (fun _ _=>[]) (fun c=>ok=false∧Tch c):=by
 refine xenter (args:=[.bool ok,.int .i64 er,.int .i64 b,.int .i64 p]) Tryz.func113 rfl rfl rfl fun w0 X=>?_
 refine jq (jr (jm Z (js (jnot Z) (jn (jx ?_)))))
 refine jif Z (fun hc1=>?_) (fun hc1=>?_)
 exact jr (jm Z (jm Z (jm Z (js (jbu (v := .agg #[.int .i64 er,.int .i64 b,.int .i64 p]) Z (fun _=>by kernel_rfl)) (js (jmif U173 rfl Z) (jpan Z (xpan ⟨by simpa using hc1,er,b,p,he,rfl⟩)))))))
 refine jsk ?_
 exact xnor (jd0 Z ⟨by simpa using hc1⟩ Z dn (fun _ _=>kn))
theorem kMakeX_ct{g0 gm:Nat}{cf:Value}{f:D.Func}{L:List (Int×Value)}(n:Int)(b:Int)(p:Int):Trx Tryz.prog 179 #[.pointer (some ⟨g0,0,none⟩),.int .i64 n,.int .i64 b,.int .i64 p] [da rFunc (vFunc f cf) f] [bx g0 179 [.int .i64 f.Params,cf,.map (some gm)],im gm L] (fun _:PLift (withinM n f.Params 8191=true) => .tuple #[]) (fun _=>[]) (fun _ _=>[bx g0 179 [.int .i64 f.Params,cf,.map (some gm)],im gm L]) (fun c=>withinM n f.Params 8191=false∧Tch c):=by
 refine xenter (args:=[.pointer (some ⟨g0,0,none⟩),.int .i64 n,.int .i64 b,.int .i64 p]) Tryz.func179 rfl rfl rfl fun w0 X=>?_
 refine jr (jm Z (jm Z (js (jnil Z) (js (jf F179_0 Z) (js (jf F49_0 Z) (js (jl k0 O3 Z Z) (jcv E114 Z Z (within_ct n f.Params 8191) dn kn (jm Z (jm Z (jcy E113 Z Z (mustX_ct _ _ _ _ (by decide)) dn kn (fun _=>p0) (fun _=>p0) (fun c hc=>⟨hc.1,hc.2⟩) fun hm17=>jn ?_))))))))))
 exact xnor (jd0 Z ⟨hm17.down⟩ Z dn (fun _ _=>(kd kn)))
theorem kOnceX_ct{g0 gm:Nat}{cf:Value}{f:D.Func}{L:List (Int×Value)}(n:Int)(b:Int)(p:Int)(hwv:WV L):Trx Tryz.prog 180 #[.pointer (some ⟨g0,0,none⟩),.int .i64 n,.int .i64 b,.int .i64 p] [da rFunc (vFunc f cf) f] [bx g0 179 [.int .i64 f.Params,cf,.map (some gm)],im gm L] (fun _:PLift (lkM L n=none) => .tuple #[]) (fun _=>[]) (fun _ _=>[bx g0 179 [.int .i64 f.Params,cf,.map (some gm)],im gm (upM L n (wv b p))]) (fun c=>lkM L n≠none∧Tch c):=by
 refine xenter (args:=[.pointer (some ⟨g0,0,none⟩),.int .i64 n,.int .i64 b,.int .i64 p]) Tryz.func180 rfl rfl rfl fun w0 X=>?_
 obtain⟨zb,zp,hz9⟩:=hwv.get n
 refine jq (jr (jm Z (js (jnil Z) (js (jf F179_1 Z) (js (jl k0 O177 Z Z) (jm Z (js (jlkoG U177 U3 J219 k1 Z Z hz9) (jm Z (js (jex' Z Z) (js (jex' Z Z) (jalc J219 Z fun g8=>?_)))))))))))
 refine jsta k0 Z219 Z Z Z ⟨Z,Z,trivial⟩ (saf Z) (ja Z (jn (jx (jq (jr (jm Z (js (jnot Z) (jm Z (jm Z (jcy E113 Z Z (mustX_ct _ _ _ _ (by decide)) dn kn (fun _=>p0) (fun _=>p0) (fun c hc=>⟨(by have h9:=hc.1;intro h8;rw[h8] at h9;simp at h9),hc.2⟩) fun hm23=>jn ?_))))))))))
 refine jx (jr (jm Z (js (jnil Z) (js (jf F179_1 Z) (js (jl k1 O177 Z Z) (jm Z (jm Z (jm Z (js (jbu (v := .agg #[.int .i64 b,.int .i64 p]) Z (fun _=>by kernel_rfl)) (jup U177 U3 k2 Z Z Z Z (jn ?_)))))))))))
 exact xnor (jd0 Z ⟨by have h9:=hm23.down;cases h8:lkM L n with
  | none=>rfl
  | some v=>rw[h8] at h9;cases h9⟩ Z dn (fun _ _=>(kc k2 (kc k0 kn))))
theorem kAllX_ct{g0 gm:Nat}{cf:Value}{f:D.Func}{L:List (Int×Value)}{a1:Value}{l:List Int}(b:Int)(p:Int)(hwv:WV L):Trx Tryz.prog 161 #[.pointer (some ⟨g0,0,none⟩),a1,.int .i64 b,.int .i64 p] [da rFunc (vFunc f cf) f,dv (rL (rI .i64)) a1 l] [bx g0 179 [.int .i64 f.Params,cf,.map (some gm)],im gm L] (fun _:PLift (AllOk f.Params L l) => .tuple #[]) (fun _=>[]) (fun _ _=>[bx g0 179 [.int .i64 f.Params,cf,.map (some gm)],im gm (insA b p l L)]) (fun c=>¬AllOk f.Params L l∧Tch c):=by
 refine xenter (args:=[.pointer (some ⟨g0,0,none⟩),a1,.int .i64 b,.int .i64 p]) Tryz.func161 rfl rfl rfl fun w0 X=>?_
 refine jq (jq (jr (jm Z (jdq d1 fun q1 w1=>js (jln U22 d1 Z) (jm Z (jn (jx (jb ?_))))))))
 refine jlp (fun(k:Nat)=>⟨k≤l.length∧∀n∈l.take k,withinM n f.Params 8191=true,[da rFunc (vFunc f cf) f,dv (rL (rI .i64)) a1 l],[bx g0 179 [.int .i64 f.Params,cf,.map (some gm)],im gm L],[(0,.pointer (some ⟨g0,0,none⟩)),(1,a1),(2,.int .i64 b),(3,.int .i64 p),(12,a1),(13,.int .i64 (↑(List.length l))),(14,.int .i64 (↑k))],l.length-k⟩) 0 ⟨Nat.zero_le _,(fun n h=>by cases h)⟩ (dc d0 (dc d1 dn)) (kd kn) ⟨Z,Z,Z,Z,Z,Z,eqI (by omega),trivial⟩ ?_
 rintro k;dsimp only;rintro⟨hk,hw9⟩
 refine jq (jr (js (jlss Z Z) (jn (jx (jq ?_)))))
 refine jif Z (fun hc1=>?_) (fun hc1=>?_)
 refine jsk (jx (jq (jb (jq (jr (js (jix U22 Z3 d1 Z Z Z (by omega)) (js (jlI (dix d1 k (by omega)) O3 Z) (ja Z (jn (jx (jr ?_)))))))))))
 refine jm Z (jm Z (jm Z (jm Z (jcy E179 Z Z (kMakeX_ct (f:=f) _ _ _) (dc d0 dn) (kd kn) (fun _=>p0) (fun _=>p2) (fun c hc=>⟨(fun h9=>absurd (h9.1 _ (ix_mem (l:=l) (i:=k) (by omega))) (by rw[hc.1];decide)),hc.2⟩) fun hm22=>jn (jbn (jx (jr (js (jadd Z Z (by omega)) (jm Z (jn ?_))))))))))
 exact jag (k+1) ⟨by omega,mem_nx (by omega) hw9 hm22.down⟩ (dc d0 (dc d1 dn)) (kd kn) ⟨Z,Z,Z,Z,Z,Z,eqI (by omega),trivial⟩
 refine jex (jtx (jtx (jbh (jx (jq (jr (jm Z (js (jln U22 d1 Z) (jm Z (jn (jx ?_)))))))))))
 refine jb ?_
 refine jlp (u2 fun(k:Nat) (L2:List (Int×Value))=>⟨k≤l.length∧L2=insA b p (l.take k) L∧(l.take k).Nodup∧∀n∈l.take k,lkM L n=none,[da rFunc (vFunc f cf) f,dv (rL (rI .i64)) a1 l],[bx g0 179 [.int .i64 f.Params,cf,.map (some gm)],im gm L2],[(0,.pointer (some ⟨g0,0,none⟩)),(2,.int .i64 b),(3,.int .i64 p),(24,a1),(25,.int .i64 (↑(List.length l))),(26,.int .i64 (↑k))],l.length-k⟩) (0,L) ⟨by dsimp only;omega,rfl,List.nodup_nil,(fun n h=>by cases h)⟩ (dc d0 (dc d1 dn)) (kd kn) ⟨Z,Z,Z,Z,Z,eqI (by omega),trivial⟩ ?_
 rintro⟨k,L2⟩;dsimp only[u2];rintro⟨hk,hL2,hnd,hno⟩
 have hm9:k<l.length→lkM L2 (ix l k)=none→ix l k∉l.take k∧lkM L (ix l k)=none:=fun h8 h9=>by rw[hL2] at h9;exact ins_none h9
 refine jq (jr (js (jlss Z Z) (jn (jx (jq ?_)))))
 refine jif Z (fun hc2=>?_) (fun hc2=>?_)
 refine jsk (jx (jq (jb (jq (jr (js (jix U22 Z3 d1 Z Z Z (by omega)) (js (jlI (dix d1 k (by omega)) O3 Z) (ja Z (jn (jx (jr ?_)))))))))))
 refine jm Z (jm Z (jm Z (jm Z (jcy E180 Z Z (kOnceX_ct (f:=f) _ _ _ (by rw[hL2];exact hwv.insA)) (dc d0 dn) (kd kn) (fun _=>p0) (fun _=>p2) (fun c hc=>⟨(fun h9=>hc.1 (by rw[hL2];exact ins_free (by omega) h9.2.1 h9.2.2)),hc.2⟩) fun hm34=>jn (jbn (jx (jr (js (jadd Z Z (by omega)) (jm Z (jn ?_))))))))))
 exact jag (k+1,upM L2 (ix l k) (wv b p)) ⟨by dsimp only;omega,by dsimp only;rw[hL2,ins_nx (by omega)],nodup_nx (by omega) hnd (hm9 (by omega) hm34.down).1,mem_nx (by omega) hno (hm9 (by omega) hm34.down).2⟩ (dc d0 (dc d1 dn)) (kd kn) ⟨Z,Z,Z,Z,Z,eqI (by omega),trivial⟩
 refine jex (jtx (jtx (jbh ?_)))
 obtain rfl:L2=insA b p l L:=by rw[hL2,List.take_of_length_le (by omega)]
 exact xnor (jd0 Z ⟨⟨by have h9:=hw9;rwa[List.take_of_length_le (by omega)] at h9,by have h9:=hnd;rwa[List.take_of_length_le (by omega)] at h9,by have h9:=hno;rwa[List.take_of_length_le (by omega)] at h9⟩⟩ Z dn (fun _ _=>(kd kn)))
end Go.Proofs.YtmfkkodnghambaaGreat
