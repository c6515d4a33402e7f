/- Lemmas that the claim is made of. Conditions: each lemma names its own. -/
import Derived.Test.YtehhjlkmbdhckaaGreatKH5
import Derived.Test.YtehhjlkmbdhckaaGreatKH3
set_option linter.unusedSectionVars false
set_option linter.unusedSimpArgs false
set_option linter.unusedVariables false
namespace Go.Proofs.YtehhjlkmbdhckaaGreat
open Go.JE
set_option maxRecDepth 4000
theorem rNeedsG_ct{a0:Value}{e:D.End}:Tg Tryz.prog 43 #[vEnd e a0] [da rEnd (vEnd e a0) e] [] (rI .i64) 3 (nM9 e):=by
 refine jenter (args:=[vEnd e a0]) Tryz.func43 rfl rfl rfl fun w0 X=>?_
 refine jq (jr (jbox Z Z fun g1=>ja Z (jn (jx (jq (jq (jr (js (jf F35_0 Z) (js (jl k0 O3 Z Z) (jn ?_))))))))))
 refine jx (jb (jq (jq (jr (js (jeql Z Z) (ja Z (jn (jx ?_))))))))
 refine jif Z (fun hc1=>?_) (fun hc1=>?_)
 refine jsk (jx ?_)
 refine jif Z (fun hc2=>?_) (fun hc2=>?_)
 refine jq (jr (js (jf F35_1 Z) (js (jl k0 O3 Z Z) (jlit (r:=(rI .i64)) (l:=[e.A]) U22 I3 (by decide) Z Z Z (lV Z Z (wI (rEnd.W_A d0)) ln) fun g10=>ja Z (jn (jx (jrt (jbr (jtr ?_)))))))))
 exact jrG Z Z (by first|(simp[nM9,hc1,hc2];done)|(unfold nM9;(repeat' split)<;>first|rfl|(exfalso;omega)|(simp[nM9,hc1,hc2];done))) k0
 exact absurd hc2 (by simp[hc1])
 refine jr (js (jeql Z Z) (ja Z (jn (jx ?_))))
 refine jif Z (fun hc3=>?_) (fun hc3=>?_)
 refine jq (jr (js (jf F35_1 Z) (js (jl k0 O3 Z Z) (jlit (r:=(rI .i64)) (l:=[e.A]) U22 I3 (by decide) Z Z Z (lV Z Z (wI (rEnd.W_A d0)) ln) fun g10_1=>ja Z (jn (jx (jrt (jbr (jtr ?_)))))))))
 exact jrG Z Z (by first|(simp[nM9,hc1,hc3];done)|(unfold nM9;(repeat' split)<;>first|rfl|(exfalso;omega)|(simp[nM9,hc1,hc3];done))) k0
 refine jq (jq (jr (js (jeql Z Z) (ja Z (jn (jx ?_))))))
 refine jif Z (fun hc4=>?_) (fun hc4=>?_)
 refine jsk (jx ?_)
 refine jif Z (fun hc5=>?_) (fun hc5=>?_)
 refine jq (jr (js (jf F35_1 Z) (js (jl k0 O3 Z Z) (js (jf F35_2 Z) (js (jl k0 O3 Z Z) (jlit (r:=(rI .i64)) (l:=[e.A,e.B]) U22 I3 (by decide) Z Z Z (lV Z Z (wI (rEnd.W_A d0)) (lV Z Z (wI (rEnd.W_B d0)) ln)) fun g19=>ja Z (jn (jx (jrt (jbr ?_))))))))))
 refine jtr ?_
 exact jrG Z Z (by first|(simp[nM9,hc1,hc3,hc4,hc5];done)|(unfold nM9;(repeat' split)<;>first|rfl|(exfalso;omega)|(simp[nM9,hc1,hc3,hc4,hc5];done))) k0
 exact absurd hc5 (by simp[hc1,hc3,hc4])
 refine jq (jr (js (jeql Z Z) (ja Z (jn (jx ?_)))))
 refine jif Z (fun hc6=>?_) (fun hc6=>?_)
 refine jsk (jx ?_)
 refine jif Z (fun hc7=>?_) (fun hc7=>?_)
 refine jq (jr (js (jf F35_1 Z) (js (jl k0 O3 Z Z) (js (jf F35_2 Z) (js (jl k0 O3 Z Z) (jlit (r:=(rI .i64)) (l:=[e.A,e.B]) U22 I3 (by decide) Z Z Z (lV Z Z (wI (rEnd.W_A d0)) (lV Z Z (wI (rEnd.W_B d0)) ln)) fun g19_2=>ja Z (jn (jx (jrt (jbr ?_))))))))))
 refine jtr ?_
 exact jrG Z Z (by first|(simp[nM9,hc1,hc3,hc4,hc6,hc7];done)|(unfold nM9;(repeat' split)<;>first|rfl|(exfalso;omega)|(simp[nM9,hc1,hc3,hc4,hc6,hc7];done))) k0
 exact absurd hc7 (by simp[hc1,hc3,hc4,hc6])
 refine jr (js (jeql Z Z) (ja Z (jn (jx ?_))))
 refine jif Z (fun hc8=>?_) (fun hc8=>?_)
 refine jq (jr (js (jf F35_1 Z) (js (jl k0 O3 Z Z) (js (jf F35_2 Z) (js (jl k0 O3 Z Z) (jlit (r:=(rI .i64)) (l:=[e.A,e.B]) U22 I3 (by decide) Z Z Z (lV Z Z (wI (rEnd.W_A d0)) (lV Z Z (wI (rEnd.W_B d0)) ln)) fun g19_3=>ja Z (jn (jx (jrt (jbr ?_))))))))))
 refine jtr ?_
 exact jrG Z Z (by first|(simp[nM9,hc1,hc3,hc4,hc6,hc8];done)|(unfold nM9;(repeat' split)<;>first|rfl|(exfalso;omega)|(simp[nM9,hc1,hc3,hc4,hc6,hc8];done))) k0
 refine jq (jr (js (jeql Z Z) (ja Z (jn (jx ?_)))))
 refine jif Z (fun hc9=>?_) (fun hc9=>?_)
 refine jq (jr (js (jf F35_1 Z) (js (jl k0 O3 Z Z) (js (jgeq Z Z) (jn (jx ?_))))))
 refine jif Z (fun hc10=>?_) (fun hc10=>?_)
 refine jq (jr (js (jf F35_1 Z) (js (jl k0 O3 Z Z) (jlit (r:=(rI .i64)) (l:=[e.A]) U22 I3 (by decide) Z Z Z (lV Z Z (wI (rEnd.W_A d0)) ln) fun g27=>ja Z (jn (jx (jrt (jbr (jtr ?_)))))))))
 exact jrG Z Z (by first|(simp[nM9,hc1,hc3,hc4,hc6,hc8,hc9,hc10];done)|(unfold nM9;(repeat' split)<;>first|rfl|(exfalso;omega)|(simp[nM9,hc1,hc3,hc4,hc6,hc8,hc9,hc10];done))) k0
 refine jsk (jbn (jx (jq (jr (ja Z (jn (jx (jrt (qnl (r:=(rI .i64)) (E:=3) ?_)))))))))
 exact jrG Z Z (by first|(simp[nM9,hc1,hc3,hc4,hc6,hc8,hc9,hc10];done)|(unfold nM9;(repeat' split)<;>first|rfl|(exfalso;omega)|(simp[nM9,hc1,hc3,hc4,hc6,hc8,hc9,hc10];done))) k0
 refine jsk (jbn (jx (jq (jr (ja Z (jn (jx (jrt (qnl (r:=(rI .i64)) (E:=3) ?_)))))))))
 exact jrG Z Z (by first|(simp[nM9,hc1,hc3,hc4,hc6,hc8,hc9];done)|(unfold nM9;(repeat' split)<;>first|rfl|(exfalso;omega)|(simp[nM9,hc1,hc3,hc4,hc6,hc8,hc9];done))) k0
theorem regs_ct{a0:Value}{m:D.MFunc}(hr:rightM m=true):Td Tryz.prog 20 #[vMFunc m a0] [da rMFunc (vMFunc m a0) m] [] (rL (rI .i64)) (regsM m):=by
 refine jenter (args:=[vMFunc m a0]) Tryz.func20 rfl rfl rfl fun w0 X=>?_
 have hw:=right_wl hr
 have hn0:=(right_wf hr).n0
 have hnP:=(right_wf hr).p0
 refine jq (jr (jbox Z Z fun g1=>ja Z (jn (jx (jq (jr (jmk (m:=8192) (r:=rB) U93 I4 Z Z Z Z Z (by omega) wB Z fun g14=>ja Z (jn (jx ?_)))))))))
 refine jq (jq (jr (ja Z (jn (jx (jb ?_))))))
 refine jlp (u2 fun(i:Nat) (m1:List Bool)=>⟨i≤Int.toNat m.Params∧MK ((List.range i).map (fun k:Nat=>(k:Int))) m1,[da rMFunc (vMFunc m a0) m],[gl X.n rB 4 (.slice (some ⟨g14,0,none⟩) 8192 8192) m1,bx g1 28 [.int .i64 m.Params,a0]],[(1,.pointer (some ⟨g1,0,none⟩)),(2,.slice none 0 0),(3,(.slice (some ⟨g14,0,none⟩) 8192 8192)),(4,.int .i64 (↑i))],Int.toNat m.Params-i⟩) (0,List.replicate 8192 false) ⟨by dsimp only;omega,MK.beg⟩ (dc d0 dn) (kd kn) ⟨Z,Z,Z,eqI (by omega),trivial⟩ ?_
 rintro⟨i,m1⟩;dsimp only[u2];rintro⟨hi,hm1⟩
 have hl1:=hm1.n
 refine jq (jq (jr (jm Z (js (jf F28_0 Z) (js (jl k1 O3 Z Z) (js (jlss Z Z) (jn (jx ?_))))))))
 refine jif Z (fun hc1=>?_) (fun hc1=>?_)
 refine jsk (jx (jq (jb (jr (jm Z (jm Z (js (jig U93 Z4 k0 Z Z Z (by omega)) (jsg k0 Z Z4 Z Z Z (by omega) wB (jn (jbn (jx ?_)))))))))))
 refine jr (jm Z (js (jadd Z Z (by omega)) (ja Z (jn ?_))))
 exact jag (i+1,List.set m1 i true) ⟨by dsimp only;omega,by dsimp only;exact(hm1.set (r:=(i:Int)) (by unfold Rg;omega)).of (by rw[List.range_succ,List.map_append];rfl)⟩ (dc d0 dn) (kd kn) ⟨Z,Z,Z,eqI (by omega),trivial⟩
 refine jex (jtx (jtx (jbh (jx (jq (jq (jr (ja Z (jn (jx (jb ?_)))))))))))
 have hm19:MK (parB m) m1:=hm1.of (by rw[show i=Int.toNat m.Params by omega];rfl)
 refine jlp (u2 fun(b:Nat) (m2:List Bool)=>⟨b≤m.Blocks.length∧MK (parB m++(m.Blocks.take b).flatMap regB) m2,[da rMFunc (vMFunc m a0) m],[gl X.n rB 4 (.slice (some ⟨g14,0,none⟩) 8192 8192) m2,bx g1 28 [.int .i64 m.Params,a0]],[(1,.pointer (some ⟨g1,0,none⟩)),(2,.slice none 0 0),(3,(.slice (some ⟨g14,0,none⟩) 8192 8192)),(5,.int .i64 (↑b))],m.Blocks.length-b⟩) (0,m1) ⟨by dsimp only;omega,by dsimp only;exact hm19.of (by simp)⟩ (dc d0 dn) (kd kn) ⟨Z,Z,Z,eqI (by omega),trivial⟩ ?_
 rintro⟨b,m2⟩;dsimp only[u2];rintro⟨hb,hm2⟩
 have hl2:=hm2.n
 refine jq (jq (jr (jm Z (js (jf F28_1 Z) (js (jl k1 O26 Z Z) (jdq (rMFunc.cB d0) fun q1 w1=>js (jln U26 (rMFunc.cB d0) Z) (js (jlss Z Z) (jn (jx ?_)))))))))
 refine jif Z (fun hc2=>?_) (fun hc2=>?_)
 refine jsk (jx (jq (jb (jq (jr (js (jf F28_1 Z) (js (jl k1 O26 Z Z) (jm Z (js (jix U26 Z37 (rMFunc.cB d0) Z Z Z (by omega)) (js (jf F37_2 Z) (jA sEnd (jlA (rMBlock.A_End (dix (rMFunc.cB d0) b (by omega))) A35 Z35 Z) fun c36=>?_)))))))))))
 refine jcg E43 Z Z rNeedsG_ct (dc d0 dn) kn fun v37 w3=>ja Z (jn (jx (jq (jq (jr (ja Z (jn (jx (jb ?_)))))))))
 have hbb:b<m.Blocks.length:=by omega
 have hnl:=needs_len (e:=(ix m.Blocks b).End)
 have hpk:=right_phis hr hbb
 refine jlp (u3 fun(k:Nat) (l3:List Int) (v3:Value)=>⟨k≤(ix m.Blocks b).Phis.length∧l3=nM9 (ix m.Blocks b).End++((ix m.Blocks b).Phis.take k).flatMap phiB,[da rMFunc (vMFunc m a0) m],[gl X.n (rI .i64) 3 v3 l3,gl X.n rB 4 (.slice (some ⟨g14,0,none⟩) 8192 8192) m2,bx g1 28 [.int .i64 m.Params,a0]],[(1,.pointer (some ⟨g1,0,none⟩)),(2,.slice none 0 0),(3,(.slice (some ⟨g14,0,none⟩) 8192 8192)),(5,.int .i64 (↑b)),(6,v3),(7,.int .i64 (↑k))],(ix m.Blocks b).Phis.length-k⟩) (0,nM9 ((ix m.Blocks b).End),v37) ⟨by dsimp only;omega,by dsimp only;simp⟩ (dc d1 dn) (kd (kc k0 kn)) ⟨Z,Z,Z,Z,Z,eqI (by omega),trivial⟩ ?_
 rintro⟨k,l3,v3⟩;dsimp only[u3];rintro⟨hk,hl3⟩
 refine cgo k0 fun w4=>?_
 have hl3l:l3.length≤9000000:=by have:=phiB_len hr hbb k;rw[hl3,List.length_append];omega
 refine jq (jq (jr (jm Z (js (jf F28_1 Z) (js (jl k2 O26 Z Z) (jm Z (js (jix U26 Z37 (rMFunc.cB d0) Z Z Z (by omega)) (js (jf F37_0 Z) (jev (jlV (rMBlock.A_Phis (dix (rMFunc.cB d0) b (by omega))) O32 Z Z) fun v44 q5 w5=>js (jln U32 d0 Z) (js (jlss Z Z) ?_))))))))))
 refine jn (jx ?_)
 refine jif Z (fun hc3=>?_) (fun hc3=>?_)
 refine jsk (jx (jq (jb (jq (jr (js (jf F28_1 Z) (js (jl k2 O26 Z Z) (jm Z (js (jix U26 Z37 (rMFunc.cB d1) Z Z Z (by omega)) (js (jf F37_0 Z) (jev (jlV (rMBlock.A_Phis (dix (rMFunc.cB d1) b (by omega))) O32 Z Z) fun v54 q7 w7=>?_)))))))))))
 refine jm Z (js (jix U32 Z62 d0 Z Z Z (by omega)) (jA sPhi (jlA (dix d0 k (by omega)) A62 Z62 Z) fun c57=>jalc J62 Z fun g8=>jdq (rPhi.c_In d0) fun q10 w10=>jsta k0 Z62 Z Z Z ⟨Z,w10.one,trivial⟩ (saf Z) (jn (jx (jq (jr (jm Z (js (jf F62_0 Z) ?_))))))))
 refine js (jl k0 O3 Z Z) (japv U22 I3 (by decide) Z Z k1 Z (wI (rPhi.W_Dst d0)) (by omega) (fun _=>Z) fun v62 _ w11=>ja Z (jn (jx (jq (jr (ja Z (jn (jx (jb ?_)))))))))
 have hkk:k<(ix m.Blocks b).Phis.length:=by omega
 have hin:=right_in hr hbb _ (ix_mem hkk)
 refine jlp (u3 fun(j:Nat) (l4:List Int) (v4:Value)=>⟨j≤(ix (ix m.Blocks b).Phis k).In.length∧l4=l3++((ix (ix m.Blocks b).Phis k).Dst::((ix (ix m.Blocks b).Phis k).In.take j).map (fun y=>y.Val)),[da rPhi (vPhi (ix ((ix m.Blocks b).Phis) k) c57) (ix ((ix m.Blocks b).Phis) k),da rMFunc (vMFunc m a0) m],[gl X.n (rI .i64) 3 v4 l4,bx g8 62 [.int .i64 ((ix ((ix m.Blocks b).Phis) k).Dst),c57],gl X.n rB 4 (.slice (some ⟨g14,0,none⟩) 8192 8192) m2,bx g1 28 [.int .i64 m.Params,a0]],[(1,.pointer (some ⟨g1,0,none⟩)),(2,.slice none 0 0),(3,(.slice (some ⟨g14,0,none⟩) 8192 8192)),(5,.int .i64 (↑b)),(6,v4),(7,.int .i64 (↑k)),(8,.pointer (some ⟨g8,0,none⟩)),(9,.int .i64 (↑j))],(ix (ix m.Blocks b).Phis k).In.length-j⟩) (0,l3++[(ix ((ix m.Blocks b).Phis) k).Dst],v62) ⟨by dsimp only;omega,rfl⟩ (dc d0 (dc d3 dn)) (kd (kd kn)) ⟨Z,Z,Z,Z,Z,Z,Z,eqI (by omega),trivial⟩ ?_
 rintro⟨j,l4,v4⟩;dsimp only[u3];rintro⟨hj,hl4⟩
 refine cgo k0 fun w12=>?_
 have hl4l:l4.length≤9001000:=by rw[hl4];simp only[List.length_append,List.length_cons,List.length_map,List.length_take];omega
 refine jq (jq (jr (jm Z (js (jf F62_1 Z) (js (jl k1 O60 Z Z) (js (jln U60 (rPhi.c_In d0) Z) (js (jlss Z Z) (jn (jx ?_)))))))))
 refine jif Z (fun hc4=>?_) (fun hc4=>?_)
 refine jsk (jx (jq (jb (jr (jm Z (js (jf F62_1 Z) (js (jl k1 O60 Z Z) (jm Z (js (jix U60 Z64 (rPhi.c_In d0) Z Z Z (by omega)) (js (jf F64_1 Z) (js (jlI (rIn.A_Val (dix (rPhi.c_In d0) j (by omega))) O3 Z) ?_)))))))))))
 refine japv U22 I3 (by decide) Z Z k0 Z (wI (wad (rIn.A_Val (dix (rPhi.c_In d0) j (by omega))))) (by omega) (fun _=>Z) fun v78 _ w13=>ja Z (jn (jbn (jx (jr (jm Z (js (jadd Z Z (by omega)) (ja Z (jn ?_))))))))
 exact jag (j+1,l4++[(ix ((ix ((ix m.Blocks b).Phis) k).In) j).Val],v78) ⟨by dsimp only;omega,by dsimp only;rw[hl4,take_ix (by omega),List.map_append,←List.cons_append,List.append_assoc];rfl⟩ (dc d0 (dc d1 dn)) (kd (kd kn)) ⟨Z,Z,Z,Z,Z,Z,Z,eqI (by omega),trivial⟩
 refine jex (jtx (jtx (jbh (jbn (jx (jr (jm Z (js (jadd Z Z (by omega)) (ja Z (jn ?_))))))))))
 exact jag (k+1,l4,v4) ⟨by dsimp only;omega,by dsimp only;rw[hl4,hl3,List.take_of_length_le (l:=(ix (ix m.Blocks b).Phis k).In) (by omega),flat_next (by omega),List.append_assoc];rfl⟩ (dc d1 dn) (kc k0 (kc k1 (kc k1 kn))) ⟨Z,Z,Z,Z,Z,eqI (by omega),trivial⟩
 refine jex (jtx (jtx (jbh (jx (jq (jq (jr (ja Z (jn (jx (jb ?_)))))))))))
 refine jlp (u3 fun(i5:Nat) (l5:List Int) (v5:Value)=>⟨i5≤(ix m.Blocks b).Ins.length∧l5=nM9 (ix m.Blocks b).End++(ix m.Blocks b).Phis.flatMap phiB++((ix m.Blocks b).Ins.take i5).flatMap insB,[da rMFunc (vMFunc m a0) m],[gl X.n (rI .i64) 3 v5 l5,gl X.n rB 4 (.slice (some ⟨g14,0,none⟩) 8192 8192) m2,bx g1 28 [.int .i64 m.Params,a0]],[(1,.pointer (some ⟨g1,0,none⟩)),(2,.slice none 0 0),(3,(.slice (some ⟨g14,0,none⟩) 8192 8192)),(5,.int .i64 (↑b)),(6,v5),(10,.int .i64 (↑i5))],(ix m.Blocks b).Ins.length-i5⟩) (0,l3,v3) ⟨by dsimp only;omega,by dsimp only;rw[hl3,List.take_of_length_le (by omega)];simp⟩ (dc d1 dn) (kd (kc k0 kn)) ⟨Z,Z,Z,Z,Z,eqI (by omega),trivial⟩ ?_
 rintro⟨i5,l5,v5⟩;dsimp only[u3];rintro⟨hi5,hl5⟩
 refine cgo k0 fun w14=>?_
 have hl5l:l5.length≤9500000:=by have:=phiB_len hr hbb (ix m.Blocks b).Phis.length;rw[List.take_length] at this;have:=insB_len hr hbb i5;rw[hl5];simp only[List.length_append];omega
 refine jq (jq (jr (jm Z (js (jf F28_1 Z) (js (jl k2 O26 Z Z) (jm Z (js (jix U26 Z37 (rMFunc.cB d0) Z Z Z (by omega)) (js (jf F37_1 Z) (jev (jlV (rMBlock.A_Ins (dix (rMFunc.cB d0) b (by omega))) O33 Z Z) fun v85 q15 w15=>js (jln U33 d0 Z) (js (jlss Z Z) ?_))))))))))
 refine jn (jx ?_)
 refine jif Z (fun hc5=>?_) (fun hc5=>?_)
 refine jsk (jx (jq (jb (jany false (.a 0 (.a 1 (.a 2 (.a 3 (.a 4 (.a 5 (.a 6 (.a 7 (.a 8 (.a 9 (.a 12 (.a 13 (.a 14 (.a 15 (.a 16 (.a 17 (.a 18 (.a 19 (.a 20 (.o 10 (.o 11 (.o 21 (.o 22 (.a 23 .e)))))))))))))))))))))))) Mixed (by kernel_rfl) (kc k2 kn) fun F17=>jy Z (jmv Z) (jy Z (jf F28_1 Z) (jy Z (jl k0 O26 Z Z) (jy Z (jmv Z) (jy Z (jix U26 Z37 (rMFunc.cB d1) Z Z Z (by omega)) (jy Z (jf F37_1 Z) (jye (q:=fun v=>dv (rL rMach) v ((ix m.Blocks b).Ins)) Z (xlV (rMBlock.A_Ins (dix (rMFunc.cB d1) b (by omega))) O33 Z Z) fun v96=>?_))))))))))
 refine jy Z (jmv Z) (adq d0 fun q19 w19=>jy Z (jix U33 Z69 d0 Z Z Z (by omega)) (jyA sMach Z (xlA (dix d0 i5 (by omega)) A69 Z69 Z) fun c99=>jy Z (jf F28_1 Z) (jy Z (jl k0 O26 Z Z) (jy Z (jmv Z) (jy Z (jix U26 Z37 (rMFunc.cB d3) Z Z Z (by omega)) (jy Z (jf F37_1 Z) (jye (q:=fun v=>dv (rL rMach) v ((ix m.Blocks b).Ins)) Z (xlV (rMBlock.A_Ins (dix (rMFunc.cB d3) b (by omega))) O33 Z Z) fun v107=>jy Z (jmv Z) (adq d0 fun q22 w22=>?_))))))))
 refine jy Z (jix U33 Z69 d0 Z Z Z (by omega)) (jyA sMach Z (xlA (dix d0 i5 (by omega)) A69 Z69 Z) fun c110=>jyo Z (jcd E44 Z Z rTakes_ct (dc d3 dn) kn fun v100 q25 w25=>jyn d1 (kc k2 kn) (jyo Z (japl U22 I3 (by decide) Z k0 Z Z d1 (by(try simp)<;>omega) fun v101 w28=>jyn d0 (kc k2 kn) (jyo Z (jcd E45 Z Z rMakes_ct (dc d4 dn) kn fun v111 q30 w30=>jyn d1 (kc k2 kn) (jyo Z ?_)))))))
 refine japl U22 I3 (by decide) Z k0 Z Z d1 (by(try simp)<;>omega) fun v112 w33=>jyn d0 (kc k2 kn) (jy Z (jas Z) (jyd (jbn (jx (jr (jm Z (js (jadd Z Z (by omega)) (ja Z (jn ?_)))))))))
 exact jag (i5+1,(l5++(takesM (ix ((ix m.Blocks b).Ins) i5)))++(makesM (ix ((ix m.Blocks b).Ins) i5)),v112) ⟨by dsimp only;omega,by dsimp only;rw[hl5,flat_next (by omega)];simp only[insB,List.append_assoc]⟩ (dc d11 dn) (kd (kc k0 kn)) ⟨Z,Z,Z,Z,Z,eqI (by omega),trivial⟩
 refine jex (jtx (jtx (jbh (jx (jq (jr (ja Z (jn (jx (jb ?_))))))))))
 have hl59:l5=regB (ix m.Blocks b):=by rw[hl5,List.take_of_length_le (by omega)];rfl
 have hrg:∀r∈l5,Rg r:=by rw[hl59];exact regB_rg hr hbb
 refine jlp (u2 fun(j6:Nat) (m6:List Bool)=>⟨j6≤l5.length∧MK ((parB m++(m.Blocks.take b).flatMap regB)++l5.take j6) m6,[da rMFunc (vMFunc m a0) m],[gl X.n (rI .i64) 3 v5 l5,gl X.n rB 4 (.slice (some ⟨g14,0,none⟩) 8192 8192) m6,bx g1 28 [.int .i64 m.Params,a0]],[(1,.pointer (some ⟨g1,0,none⟩)),(2,.slice none 0 0),(3,(.slice (some ⟨g14,0,none⟩) 8192 8192)),(5,.int .i64 (↑b)),(6,v5),(11,.int .i64 (↑j6))],l5.length-j6⟩) (0,m2) ⟨by dsimp only;omega,by dsimp only;exact hm2.of (by simp)⟩ (dc d1 dn) (kd (kc k0 kn)) ⟨Z,Z,Z,Z,Z,eqI (by omega),trivial⟩ ?_
 rintro⟨j6,m6⟩;dsimp only[u2];rintro⟨hj6,hm6⟩
 have hl6:=hm6.n
 refine jq (jq (jr (jm Z (jm Z (js (jlg U22 k0 Z) (js (jlss Z Z) (jn (jx ?_))))))))
 refine jif Z (fun hc6=>?_) (fun hc6=>?_)
 have hrj:Rg (ix l5 j6):=hrg _ (ix_mem (by omega))
 have hrj2:0≤ix l5 j6∧ix l5 j6<8192:=hrj
 refine jsk (jx (jq (jb (jr (jm Z (jm Z (jm Z (js (jig U22 Z3 k0 Z Z Z (by omega)) (js (jgI k0 (by omega) O3 Z) (js (jig (i:=(Int.toNat (ix l5 j6))) U93 Z4 k1 Z Z (by omega) (by omega)) (jsg k1 Z Z4 Z Z Z (by omega) wB ?_)))))))))))
 refine jn (jbn (jx (jr (jm Z (js (jadd Z Z (by omega)) (ja Z (jn ?_)))))))
 exact jag (j6+1,List.set m6 (Int.toNat (ix l5 j6)) true) ⟨by dsimp only;omega,by dsimp only;exact(hm6.set hrj).of (by rw[take_ix (by omega),List.append_assoc])⟩ (dc d0 dn) (kc k1 (kd kn)) ⟨Z,Z,Z,Z,Z,eqI (by omega),trivial⟩
 refine jex (jtx (jtx (jbh (jbn (jx (jr (jm Z (js (jadd Z Z (by omega)) (ja Z (jn ?_))))))))))
 exact jag (b+1,m6) ⟨by dsimp only;omega,by dsimp only;exact hm6.of (by rw[flat_next hbb,List.take_of_length_le (l:=l5) (by omega),hl59,List.append_assoc])⟩ (dc d0 dn) (kc k1 (kc k1 kn)) ⟨Z,Z,Z,eqI (by omega),trivial⟩
 refine jex (jtx (jtx (jbh (jx (jq (jr (jlit (r:=(rI .i64)) (l:=[]) U22 I3 (by decide) Z Z Z ln fun g125=>ja Z (jn (jx (jq ?_))))))))))
 refine jq (jr (ja Z (jn (jx (jb ?_)))))
 have hm29:MK (regA m) m2:=hm2.of (by rw[List.take_of_length_le (by omega)];rfl)
 refine jlp (u3 fun(k7:Nat) (rs:List Int) (vr:Value)=>⟨k7≤8192∧rs=((List.range k7).filter (fun k:Nat=>decide ((k:Int)∈regA m))).map (fun k:Nat=>(k:Int)),[],[gl X.n (rI .i64) 3 vr rs,gl X.n rB 4 (.slice (some ⟨g14,0,none⟩) 8192 8192) m2],[(2,.slice none 0 0),(3,(.slice (some ⟨g14,0,none⟩) 8192 8192)),(12,vr),(13,.int .i64 (↑k7))],8192-k7⟩) (0,[],(.slice (some ⟨g125,0,none⟩) 0 0)) ⟨by dsimp only;omega,rfl⟩ dn (kd kn) ⟨Z,Z,Z,eqI (by omega),trivial⟩ ?_
 rintro⟨k7,rs,vr⟩;dsimp only[u3];rintro⟨hk7,hrs⟩
 refine cgo k0 fun w34=>?_
 have hrl:rs.length≤8192:=by rw[hrs,List.length_map];exact Nat.le_trans (List.length_filter_le _ _) (by rw[List.length_range];exact hk7)
 refine jq (jq (jr (jm Z (jm Z (js (jlg U93 k1 Z) (js (jlss Z Z) (jn (jx ?_))))))))
 refine jif Z (fun hc7=>?_) (fun hc7=>?_)
 refine jsk (jx (jq (jb (jq (jr (jm Z (jm Z (js (jig U93 Z4 k1 Z Z Z (by omega)) (js (jgB k1 (by omega) O4 Z) (jn (jx ?_)))))))))))
 refine jif Z (fun hc8=>?_) (fun hc8=>?_)
 refine jr (jm Z (jm Z (japv U22 I3 (by decide) Z Z k0 Z (wI (wp (IntWalk.i64_in _ (by omega)))) (by omega) (fun _=>Z) fun v139 _ w35=>ja Z (jn (jbn (jx (jr (jm Z (js (jadd Z Z (by omega)) (ja Z ?_))))))))))
 refine jn ?_
 exact jag (k7+1,rs++[((k7:Nat):Int)],v139) ⟨by dsimp only;omega,by dsimp only;rw[filt_next,←hrs];rw[if_pos (by rw[←hm29.s k7 (by omega)];exact hc8)]⟩ dn (kd kn) ⟨Z,Z,Z,eqI (by omega),trivial⟩
 refine jsk (jbn (jx (jr (jm Z (js (jadd Z Z (by omega)) (ja Z (jn ?_)))))))
 exact jag (k7+1,rs,vr) ⟨by dsimp only;omega,by dsimp only;rw[filt_next,←hrs];rw[if_neg (by rw[←hm29.s k7 (by omega)];simp[hc8]),List.append_nil]⟩ dn (kd kn) ⟨Z,Z,Z,eqI (by omega),trivial⟩
 refine jex (jtx (jtx (jbh (jx (jq (jr (jm Z (ja Z (jn (jx (jrt ?_)))))))))))
 refine qfz k0 (by omega) ?_
 exact jrD Z Z (by rw[regsM,hrs,show k7=8192 by omega]) d0
end Go.Proofs.YtehhjlkmbdhckaaGreat
namespace Go.Proofs.YtehhjlkmbdhckaaGreat
open Go.JE
theorem E20:Ent Tryz.prog 20:=⟨_,Tryz.func20,by kernel_rfl,by kernel_rfl⟩
set_option maxRecDepth 4000
end Go.Proofs.YtehhjlkmbdhckaaGreat
namespace Go.Proofs.YtehhjlkmbdhckaaGreat
open Go.JE
set_option maxRecDepth 4000
end Go.Proofs.YtehhjlkmbdhckaaGreat
namespace Go.Proofs.YtehhjlkmbdhckaaGreat
open Go.JE
set_option maxRecDepth 4000
theorem GR.one{m:D.MFunc}{b i c:Nat}{f:Nat→Int→Bool}{rs:List (List Int)}(h:GR m b i f rs)(hc:c<m.Blocks.length):(rs.getD c []).length≤8192:=by
 have h3:=h.s c hc
 have h1:=List.length_filter_le (f c) ((regsM m).take (if c<b then i+1 else i))
 have h2:=regs_len (m:=m)
 rw[List.length_take] at h1
 have h4:(ix rs c).length≤8192:=by rw[h3];omega
 exact h4
end Go.Proofs.YtehhjlkmbdhckaaGreat
namespace Go.Proofs.YtehhjlkmbdhckaaGreat
open Go.JE
theorem A47:∃d,Tryz.prog.underlying 47=some d∧(match d with | .struct _ | .array _ _=>true|_=>false)=true:=⟨_,Tryz.underlying47,rfl⟩
theorem E18:Ent Tryz.prog 18:=⟨_,Tryz.func18,by kernel_rfl,by kernel_rfl⟩
theorem E21:Ent Tryz.prog 21:=⟨_,Tryz.func21,by kernel_rfl,by kernel_rfl⟩
theorem E22:Ent Tryz.prog 22:=⟨_,Tryz.func22,by kernel_rfl,by kernel_rfl⟩
theorem E24:Ent Tryz.prog 24:=⟨_,Tryz.func24,by kernel_rfl,by kernel_rfl⟩
theorem E36:Ent Tryz.prog 36:=⟨_,Tryz.func36,by kernel_rfl,by kernel_rfl⟩
theorem E37:Ent Tryz.prog 37:=⟨_,Tryz.func37,by kernel_rfl,by kernel_rfl⟩
theorem S2_47:St2q Tryz.prog 47 .i64:=⟨⟨_,_,Tryz.underlying47,by decide,by decide,rfl,rfl,Tryz.underlying3,Tryz.underlying3⟩,by kernel_rfl,by kernel_rfl⟩
set_option maxRecDepth 8000
theorem lawRanges_ct{a0:Value}{a:List D.Range}{a1:Value}{b:List D.Range}:Tv Tryz.prog 36 #[a0,a1] [dv (rL rRange) a0 a,dv (rL rRange) a1 b] [] (.bool (rangesQ a b)):=by
 refine jenter (args:=[a0,a1]) Tryz.func36 rfl rfl rfl fun w0 X=>?_
 refine jq (jr (ja Z (jn (jx (jq (jq (jr (jm Z (jdq d0 fun q1 w1=>js (jln U44 d0 Z) (jm Z ?_))))))))))
 refine jdq d1 fun q2 w2=>js (jln U44 d1 Z) (js (jneq Z Z) (jn (jx ?_)))
 refine jif Z (fun hc1=>?_) (fun hc1=>?_)
 refine jq (jr (ja Z (jn (jx (jrt (jtr ?_))))))
 exact jrB Z Z (by first|(exact decide_eq_true (rng_ix (by omega) (fun j hj=>hall j (by omega))))|(exact decide_eq_false (fun h9=>by subst h9;simp at hc3))|(exact decide_eq_false (fun h9=>by subst h9;exact hc1 rfl)))
 refine jsk (jx (jq (jq (jr (ja Z (jn (jx (jb ?_))))))))
 refine jlp (fun(k:Nat)=>⟨k≤a.length∧∀j,j<k→ix a j=ix b j,[dv (rL rRange) a0 a,dv (rL rRange) a1 b],[],[(0,a0),(1,a1),(5,.int .i64 (↑k))],a.length-k⟩) 0 ⟨by omega,fun j hj=>by omega⟩ (dc d0 (dc d1 dn)) kn ⟨Z,Z,eqI (by omega),trivial⟩ ?_
 rintro k;dsimp only;rintro⟨hk,hall⟩
 refine jq (jq (jr (jm Z (jm Z (js (jln U44 d0 Z) (js (jlss Z Z) (jn (jx ?_))))))))
 refine jif Z (fun hc2=>?_) (fun hc2=>?_)
 refine jsk (jx (jq (jb (jq (jstl Mixed (by kernel_rfl) (jt (jmv Z) (jt (jmv Z) (jt (jix U44 Z47 d0 Z Z Z (by omega)) (jtA sRange (jlA (dix d0 k (by omega)) A47 Z47 Z) fun _=>jt (jmv Z) (jt (jmv Z) ?_))))))))))
 refine jt (jix U44 Z47 d2 Z Z Z (by omega)) (jtA sRange (jlA (dix d2 k (by omega)) A47 Z47 Z) fun _=>jt (jneqSt S2_47 Z Z) (jdn (jx ?_)))
 refine jif Z (fun hc3=>?_) (fun hc3=>?_)
 refine jq (jr (ja Z (jn (jx (jrt (jbr (jtr (jtr (jbr (jtr ?_))))))))))
 exact jrB Z Z (by first|(exact decide_eq_true (rng_ix (by omega) (fun j hj=>hall j (by omega))))|(exact decide_eq_false (fun h9=>by subst h9;simp at hc3))|(exact decide_eq_false (fun h9=>by subst h9;exact hc1 rfl)))
 refine jsk (jbn (jx (jr (jm Z (js (jadd Z Z (by omega)) (ja Z (jn ?_)))))))
 exact jag (k+1) ⟨by omega,fun j hj=>by rcases Nat.lt_or_ge j k with h7|h7;(exact hall j h7);(rw[show j=k by omega];exact rng_ext (by simpa using hc3))⟩ (dc d2 (dc d3 dn)) kn ⟨Z,Z,eqI (by omega),trivial⟩
 refine jex (jtx (jtx (jbh (jx (jq (jr (ja Z (jn (jx (jrt ?_))))))))))
 exact jrB Z Z (by first|(exact decide_eq_true (rng_ix (by omega) (fun j hj=>hall j (by omega))))|(exact decide_eq_false (fun h9=>by subst h9;simp at hc3))|(exact decide_eq_false (fun h9=>by subst h9;exact hc1 rfl)))
theorem shown_ct  : Tv Tryz.prog 11 #[] [] [] (.bool true):=by
 refine jenter (args:=[]) Tryz.func11 rfl rfl rfl fun w0 X=>?_
 refine jq (jr (ja Z (jn (jx (jq (jr (js (jbu (v := .agg #[.int .i64 5,.int .i64 2,.int .i64 0,.int .i64 0,.int .i64 1,.int .i64 0,.int .i32 0,.slice none 0 0]) Z (fun _=>by kernel_rfl)) (js (jbu (v := .agg #[.int .i64 5,.int .i64 3,.int .i64 0,.int .i64 2,.int .i64 0,.int .i64 0,.int .i32 0,.slice none 0 0]) Z (fun _=>by kernel_rfl)) (jlit (r:=rMach) (l:=[⟨5,2,0,0,1,0,0,[]⟩,⟨5,3,0,2,0,0,0,[]⟩]) U33 I69 (by decide) Z Z Z (lA (rMach.M (m:=⟨5,2,0,0,1,0,0,[]⟩) (c:=(.slice none 0 0)) wN (wl 5) (wl 2) (wl 0) (wl 0) (wl 1) (wl 0) (wl 0)) (lA (rMach.M (m:=⟨5,3,0,2,0,0,0,[]⟩) (c:=(.slice none 0 0)) wN (wl 5) (wl 3) (wl 0) (wl 2) (wl 0) (wl 0) (wl 0)) ln)) fun g4=>js (jbu (v := .agg #[.int .i64 7,.int .i64 3,.int .i64 0,.slice none 0 0,.int .i32 0]) Z (fun _=>by kernel_rfl)) (js (jbu (v := .agg #[.slice none 0 0,(.slice (some ⟨g4,0,none⟩) 2 2),.int .i64 7,.int .i64 3,.int .i64 0,.slice none 0 0,.int .i32 0]) Z (fun _=>by kernel_rfl)) ?_))))))))))
 refine jfz k0 (by(try simp)<;>omega) (jlit (r:=rMBlock) (l:=[⟨[],[⟨5,2,0,0,1,0,0,[]⟩,⟨5,3,0,2,0,0,0,[]⟩],⟨7,3,0,[],0⟩⟩]) U26 I37 (by decide) Z Z Z (lA (rMBlock.M (m:=⟨[],[⟨5,2,0,0,1,0,0,[]⟩,⟨5,3,0,2,0,0,0,[]⟩],⟨7,3,0,[],0⟩⟩) (c:=(.slice none 0 0,(.slice (some ⟨g4,0,none⟩) 2 2),.slice none 0 0)) wN d0 wN (wl 7) (wl 3) (wl 0) (wl 0)) ln) fun g7=>js (jbu (v := .agg #[.int .i64 2,(.slice (some ⟨g7,0,none⟩) 1 1)]) Z (fun _=>by kernel_rfl)) (jalc J28 Z fun g1=>jsta k0 Z28 Z Z Z ⟨Z,Z,trivial⟩ (saf Z) (jn (jx (jq (jr (js (jla k0 A28 Z28 Z Z Z) (jfz k1 (by(try simp)<;>omega) (jcd E18 Z Z (at_ct (m:=⟨2,[⟨[],[⟨5,2,0,0,1,0,0,[]⟩,⟨5,3,0,2,0,0,0,[]⟩],⟨7,3,0,[],0⟩⟩]⟩) 0 1) (dc (rMFunc.M (m:=⟨2,[⟨[],[⟨5,2,0,0,1,0,0,[]⟩,⟨5,3,0,2,0,0,0,[]⟩],⟨7,3,0,[],0⟩⟩]⟩) (c:=(.slice (some ⟨g7,0,none⟩) 1 1)) d0 (wl 2)) dn) kn fun v10 q3 w3=>?_)))))))))
 refine jlit (r:=(rI .i64)) (l:=[0,2]) U22 I3 (by decide) Z Z Z (lV Z Z (wI (wl 0)) (lV Z Z (wI (wl 2)) ln)) fun g11=>jc E17 Z Z (Tv.temp1 1073741824 row_ct (by(try simp)<;>omega)) (dc d0 dn) (kc k0 kn) (fun _=>p0) (fun _=>p1) fun _=>?_
 rw[show rowQ (atM (⟨2,[⟨[],[⟨5,2,0,0,1,0,0,[]⟩,⟨5,3,0,2,0,0,0,[]⟩],⟨7,3,0,[],0⟩⟩]⟩) 0 1) ([0,2])=true from shL_row]
 refine jm Z (jk Z Z (.t _) (jla k1 A28 Z28 Z Z Z) (jgk Z Z (.t _) (jcd E21 Z Z (ranges_ct (m:=⟨2,[⟨[],[⟨5,2,0,0,1,0,0,[]⟩,⟨5,3,0,2,0,0,0,[]⟩],⟨7,3,0,[],0⟩⟩]⟩) 0) (dc (rMFunc.M (m:=⟨2,[⟨[],[⟨5,2,0,0,1,0,0,[]⟩,⟨5,3,0,2,0,0,0,[]⟩],⟨7,3,0,[],0⟩⟩]⟩) (c:=(.slice (some ⟨g7,0,none⟩) 1 1)) d1 (wl 2)) dn) kn fun v15 q5 w5=>jk Z Z (.t _) (jbu (v := .agg #[.int .i64 0,.int .i64 2]) Z (fun _=>by kernel_rfl)) (jgk Z Z (.t _) (jlit (r:=rRange) (l:=[⟨0,2⟩]) U44 I47 (by decide) Z Z Z (lA (rRange.M (m:=⟨0,2⟩) (c:=()) (wl 0) (wl 2)) ln) fun g17=>jgk Z Z (.t _) (jc E36 Z Z (Tv.temp1 1073741824 lawRanges_ct (by(try simp)<;>omega)) (dc d0 dn) (kc k0 kn) (fun _=>p0) (fun _=>p1) fun _=>?_))))))
 rw[show rangesQ (rangesM (⟨2,[⟨[],[⟨5,2,0,0,1,0,0,[]⟩,⟨5,3,0,2,0,0,0,[]⟩],⟨7,3,0,[],0⟩⟩]⟩) 0) ([⟨0,2⟩])=true from shL_rng]
 refine js (jand Z Z) (jm Z (jk Z Z (.t _) (jla k2 A28 Z28 Z Z Z) (jgk Z Z (.t _) (jcv E22 Z Z (together_ct (m:=⟨2,[⟨[],[⟨5,2,0,0,1,0,0,[]⟩,⟨5,3,0,2,0,0,0,[]⟩],⟨7,3,0,[],0⟩⟩]⟩) 0 2) (dc (rMFunc.M (m:=⟨2,[⟨[],[⟨5,2,0,0,1,0,0,[]⟩,⟨5,3,0,2,0,0,0,[]⟩],⟨7,3,0,[],0⟩⟩]⟩) (c:=(.slice (some ⟨g7,0,none⟩) 1 1)) d2 (wl 2)) dn) kn ?_))))
 rw[show togM (⟨2,[⟨[],[⟨5,2,0,0,1,0,0,[]⟩,⟨5,3,0,2,0,0,0,[]⟩],⟨7,3,0,[],0⟩⟩]⟩) 0 2=true from shL_tog1]
 refine js (jand Z Z) (jm Z (jk Z Z (.t _) (jla k2 A28 Z28 Z Z Z) (jgk Z Z (.t _) (jcv E22 Z Z (together_ct (m:=⟨2,[⟨[],[⟨5,2,0,0,1,0,0,[]⟩,⟨5,3,0,2,0,0,0,[]⟩],⟨7,3,0,[],0⟩⟩]⟩) 0 3) (dc (rMFunc.M (m:=⟨2,[⟨[],[⟨5,2,0,0,1,0,0,[]⟩,⟨5,3,0,2,0,0,0,[]⟩],⟨7,3,0,[],0⟩⟩]⟩) (c:=(.slice (some ⟨g7,0,none⟩) 1 1)) d2 (wl 2)) dn) kn ?_))))
 rw[show togM (⟨2,[⟨[],[⟨5,2,0,0,1,0,0,[]⟩,⟨5,3,0,2,0,0,0,[]⟩],⟨7,3,0,[],0⟩⟩]⟩) 0 3=false from shL_tog2]
 refine jk Z Z (.t _) (jnot Z) (js (jand Z Z) (jm Z (jk Z Z (.t _) (jla k2 A28 Z28 Z Z Z) (jgk Z Z (.t _) (jcv E24 Z Z (most_ct (m:=⟨2,[⟨[],[⟨5,2,0,0,1,0,0,[]⟩,⟨5,3,0,2,0,0,0,[]⟩],⟨7,3,0,[],0⟩⟩]⟩)) (dc (rMFunc.M (m:=⟨2,[⟨[],[⟨5,2,0,0,1,0,0,[]⟩,⟨5,3,0,2,0,0,0,[]⟩],⟨7,3,0,[],0⟩⟩]⟩) (c:=(.slice (some ⟨g7,0,none⟩) 1 1)) d2 (wl 2)) dn) kn ?_)))))
 rw[show mostM (⟨2,[⟨[],[⟨5,2,0,0,1,0,0,[]⟩,⟨5,3,0,2,0,0,0,[]⟩],⟨7,3,0,[],0⟩⟩]⟩)=2 from shL_most]
 refine jk Z Z (.t _) (jeql Z Z) (js (jand Z Z) (ja Z (jn (jx (jrt ?_)))))
 exact jrB Z Z (by first|rfl|decide)
theorem made10_ct{a0:Value}{s:List Int}{N0:Nat}:Ts Tryz.prog 12 #[a0] [dv (rLn N0 (rI .i64)) a0 s] [] rMFunc vMFunc (made10 s):=by
 refine jenter (args:=[a0]) Tryz.func12 rfl rfl rfl fun w0 X=>?_
 refine jq (jr (jalc J28 Z fun g2=>jn (jx (jq (jr (jm Z (jm Z (jdq d0 fun q1 w1=>js (jln U22 d0 Z) (js (jmin Z Z) ?_)))))))))
 refine js (jshi (hi:=(Int.toNat (min (↑(List.length s)) 200))) U22 Z3 d0 Z Z (by omega) (by omega)) (jdq (dhi d0 (Int.toNat (min (↑(List.length s)) 200)) (by omega) (by omega)) fun q2 w2=>jcs E37 Z Z r7made_ct (dc (dhi d0 (Int.toNat (min (↑(List.length s)) 200)) (by omega) (by omega)) dn) kn fun c8=>jdq (rMFunc.cB d0) fun q4 w4=>jsta k0 Z28 Z Z Z ⟨Z,w4.one,trivial⟩ (saf Z) (jn (jx (jrt ?_))))
 exact jrcA (val:=vMFunc) (b:=made7 (List.take (Int.toNat (min (↑(List.length s)) 200)) s)) (c:=c8) Z Z k0 A28 Z28 Z (by rw[←take_min s 200 200 rfl];rfl) d0
end Go.Proofs.YtehhjlkmbdhckaaGreat
namespace Go.Proofs.YtehhjlkmbdhckaaGreat
open Go.JE
theorem E11:Ent Tryz.prog 11:=⟨_,Tryz.func11,by kernel_rfl,by kernel_rfl⟩
theorem E12:Ent Tryz.prog 12:=⟨_,Tryz.func12,by kernel_rfl,by kernel_rfl⟩
theorem E14:Ent Tryz.prog 14:=⟨_,Tryz.func14,by kernel_rfl,by kernel_rfl⟩
set_option maxRecDepth 8000
theorem rest_in{n k:Int}(h:0<k):0≤restM n k∧restM n k<k:=by
 have h1:=tmod_in (n:=n) h
 have h2:=tmod_in (n:=Int.tmod n k+k) h
 have h3:0≤Int.tmod (Int.tmod n k+k) k:=Int.tmod_nonneg k (by omega)
 unfold restM;omega
theorem made10_pos(s:List Int):0<(made10 s).Blocks.length:=by
 obtain⟨nx,h,hl,_⟩:=made7_mb (s.take 200)
 have h1:=h.n1
 show 0<(made7 (s.take 200)).Blocks.length
 rw[hl];omega
attribute [local irreducible] made10
end Go.Proofs.YtehhjlkmbdhckaaGreat
namespace Go.JE
variable{P:Program}{D Ds:List Dt}{L M Ls:List Res}{e:Env}{X:Cx}{n:Fs}{w0:World}{Q:Exit→Act→World→Prop}{FS:PH}
variable{ops:Array Oper}{op:Op}{d:Nat}{ty:TypeId}{pos:String}{af:Array Edge}{rest l:List Oper}{z:Bool}{is:Od}{i:Nat}
end Go.JE
namespace Go.Proofs.YtehhjlkmbdhckaaGreat
open Go.JE
theorem E28:Ent Tryz.prog 28:=⟨_,Tryz.func28,by kernel_rfl,by kernel_rfl⟩
set_option maxRecDepth 8000
attribute [local irreducible] made10
end Go.Proofs.YtehhjlkmbdhckaaGreat
namespace Go.Proofs.YtehhjlkmbdhckaaGreat
open Go.JE
abbrev U71:=@Tryz.underlying71
theorem E32:Ent Tryz.prog 32:=⟨_,Tryz.func32,by kernel_rfl,by kernel_rfl⟩
theorem E33:Ent Tryz.prog 33:=⟨_,Tryz.func33,by kernel_rfl,by kernel_rfl⟩
theorem E35:Ent Tryz.prog 35:=⟨_,Tryz.func35,by kernel_rfl,by kernel_rfl⟩
set_option maxRecDepth 8000
theorem putMI{Γ:List Dt}{L:List Res}{m:D.MBlock}{u:Value}{l:List D.Mach}(h:Nd Γ L (dv (rL rMach) u l)):Go.JE.PO Γ L rMBlock m 1 [u] { m with Ins:=l }:=fun F H a b c f hf =>
 ⟨(rL rPhi).ext (fun i hi=>by rw[show i=0 from Nat.lt_one_iff.1 hi];rfl) hf.1,(rL rMach).ext (fun i hi=>by rw[show i=0 from Nat.lt_one_iff.1 hi];rfl) (show(rL rMach).rv F u l from h F H a b c),rEnd.ext (fun i _=>by show _=putf 1 [u] f (i+1+1);unfold putf;rw[if_neg (by simp)];rfl) hf.2.2⟩
theorem dead_fin{A B:D.Outcome}{r:Bool}(hm:r=true)(h:A.End=3∨sameO A B=true):true=((true&&r)&&(decide (A.End=3)||sameO A B)):=by
 rw[hm]
 rcases h with h|h
 ·rw[decide_eq_true h];rfl
 ·rw[h];simp
theorem at_ints{m:D.MFunc}(hr:rightM m=true){b p:Int}(hb:0≤b∧b<m.Blocks.length)(hp:0≤p∧p<((ix m.Blocks (Int.toNat b)).Ins.length:Int)+1):atM m b p=atE m.Blocks (Int.toNat b) (Int.toNat p):=by
 have:=atM_nat hr (b:=Int.toNat b) (p:=Int.toNat p) (by omega) (by omega)
 rwa[Int.toNat_of_nonneg hb.1,Int.toNat_of_nonneg hp.1] at this
attribute [local irreducible] made10 runM input3
set_option maxRecDepth 20000 in
set_option maxHeartbeats 4000000 in
theorem liveDead_ct{a0:Value}{s:List Int}{N0:Nat}{a1:Value}{h:List Int}{N1:Nat}(y0 y1 y2 y3:Int)(wy0:IntKind.i64.wrap y0=y0)(wy1:IntKind.i64.wrap y1=y1)(wy2:IntKind.i64.wrap y2=y2)(wy3:IntKind.i64.wrap y3=y3):Tv Tryz.prog 10 #[a0,a1,.agg #[.int .i64 y0,.int .i64 y1,.int .i64 y2,.int .i64 y3]] [dv (rLn N0 (rI .i64)) a0 s,dv (rLn N1 (rI .i64)) a1 h] [] (.bool true):=by
 refine jenter (args:=[a0,a1,.agg #[.int .i64 y0,.int .i64 y1,.int .i64 y2,.int .i64 y3]]) Tryz.func10 rfl rfl rfl fun w0 X=>?_
 have hr:rightM (made10 s)=true:=by unfold made10;exact made7_right _
 have hps:=made10_pos s
 have hq9:=right_ins hr
 refine jq (jr (jbox Z Z fun g5=>ja Z (jn (jx (jq (jr (jcv E11 Z Z shown_ct dn kn (ja Z (jn (jx ?_))))))))))
 refine jq (jr (jm Z (jdq d0 fun q1 w1=>jcs E12 Z Z made10_ct (dc d0 dn) kn fun c20=>?_)))
 generalize hma:made10 s=ma at hr hps hq9 ⊢
 refine jalc J28 Z fun g8=>jdq (rMFunc.cB d0) fun q3 w3=>jsta k0 Z28 Z Z Z ⟨Z,w3.one,trivial⟩ (saf Z) (jn (jx (jq (jr (js (jixa (i:=0) U71 Z3 Z Z Z (by omega)) (js (jl k1 O3 Z Z) (js (jf F28_1 Z) (js (jl k0 O26 Z Z) (js (jln U26 (rMFunc.cB d0) Z) ?_)))))))))
 refine jcv E14 Z Z (rest_ct y0 (↑(List.length ma.Blocks)) (by omega) (by omega)) dn kn ?_
 have hr0:=rest_in (n:=y0) (k:=(ma.Blocks.length:Int)) (by omega)
 generalize hb9:restM y0 (↑(List.length ma.Blocks))=b9 at hr0 ⊢
 have hq8:=hq9 (Int.toNat b9) (by omega)
 refine ja Z (jn (jx (jq (jany false (.a 0 (.a 1 (.a 2 (.a 3 (.a 4 (.a 5 (.a 6 (.a 7 (.a 8 (.a 9 (.o 10 (.a 11 .e)))))))))))) Mixed (by kernel_rfl) (kd kn) fun F4=>jy Z (jixa (i:=1) U71 Z3 Z Z Z (by omega)) (jy Z (jl k1 O3 Z Z) (jy Z (jf F28_1 Z) (jy Z (jl k0 O26 Z Z) (jy Z (jmv Z) (jy Z (jix (i:=(Int.toNat b9)) U26 Z37 (rMFunc.cB d0) Z Z (by omega) (by omega)) (jy Z (jf F37_1 Z) ?_))))))))))
 refine jye (q:=fun v=>dv (rL rMach) v ((ix ma.Blocks (Int.toNat b9)).Ins)) Z (xlV (rMBlock.A_Ins (dix (rMFunc.cB d0) (Int.toNat b9) (by omega))) O33 Z Z) fun v34=>adq d0 fun q6 w6=>jy Z (jln U33 d0 Z) (jy Z (jadd Z Z (by omega)) (jyo Z (jcv E14 Z Z (rest_ct y1 ((((List.length ((ix ma.Blocks (Int.toNat b9)).Ins):Nat):Int))+1) (by omega) (by omega)) dn kn ?_)))
 have hr1:=rest_in (n:=y1) (k:=((ix ma.Blocks (Int.toNat b9)).Ins.length:Int)+1) (by omega)
 generalize hp9:restM y1 ((↑(List.length ((ix ma.Blocks (Int.toNat b9)).Ins)))+1)=p9 at hr1 ⊢
 refine jyn d0 (kd kn) (jy Z (jas Z) (jyd (jx (jq (jr (js (jla k0 A28 Z28 Z Z Z) (jcd E20 Z Z (regs_ct hr) (dc d2 dn) kn fun v39 q8 w8=>ja Z (jn (jx (jq ?_))))))))))
 refine jr (js (jixa (i:=2) U71 Z3 Z Z Z (by omega)) (js (jl k1 O3 Z Z) (jcv E14 Z Z (rest_ct y2 8192 (by decide) (by decide)) dn kn ?_)))
 have hr2:=rest_in (n:=y2) (k:=8192) (by decide)
 generalize hr9:restM y2 8192=r9 at hr2 ⊢
 refine ja Z (jn (jx (jq (jq (jr (jm Z (js (jln U22 d0 Z) (js (jgtr Z Z) (jm Z (jg Z Z (.t _) (fun hg=>jixa (i:=2) U71 Z3 Z Z Z (by first|omega|(simp at hg;omega))) (jg Z Z (.t _) (fun hg=>jl k1 O3 (evg Z hg) Z) ?_)))))))))))
 refine jg Z Z (.t _) (fun hg=>jrem (evg Z hg) Z (by decide)) (jg Z Z (.t _) (fun hg=>jneq (evg Z hg) Z) (js (jand Z Z) (jn (jx ?_))))
 refine jjo (fun(rr:Int)=>⟨0≤rr∧rr<8192,[da rMFunc (vMFunc ma c20) ma,dv (rLn N1 (rI .i64)) a1 h],[bx g8 28 [.int .i64 ma.Params,c20],bx g5 71 [.int .i64 y0,.int .i64 y1,.int .i64 y2,.int .i64 y3]],[(1,a1),(5,.pointer (some ⟨g5,0,none⟩)),(6,.bool false),(7,.bool true),(8,.pointer (some ⟨g8,0,none⟩)),(9,.int .i64 b9),(10,.int .i64 p9),(12,.int .i64 rr)]⟩) ?_ ?_
 refine jif Z (fun hc1=>?_) (fun hc1=>?_)
 have hr3:=rest_in (n:=y2) (k:=((regsM ma).length:Int)) (by omega)
 refine jr (jm Z (js (jixa (i:=2) U71 Z3 Z Z Z (by omega)) (js (jl k1 O3 Z Z) (jm Z (js (jln U22 d0 Z) (jcv E14 Z Z (rest_ct y2 (↑(List.length (regsM ma))) (by omega) (by omega)) dn kn (js (jix (i:=(Int.toNat (restM y2 (↑(List.length (regsM ma)))))) U22 Z3 d0 Z Z (by omega) (by omega)) (js (jlI (dix d0 (Int.toNat (restM y2 (↑(List.length (regsM ma))))) (by omega)) O3 Z) (ja Z (jn ?_))))))))))
 exact jje (ix (regsM ma) (Int.toNat (restM y2 (((List.length (regsM ma):Nat):Int))))) (by first|exact hr2|exact((regs_mem (m:=ma)).1 (ix_mem (by omega))).1) (dc d3 (dc d5 dn)) (kd kn) ⟨Z,Z,Z,Z,Z,Z,Z,eqI (by omega),trivial⟩
 refine jsk ?_
 exact jje r9 (by first|exact hr2|exact((regs_mem (m:=ma)).1 (ix_mem (by omega))).1) (dc d3 (dc d5 dn)) (kd kn) ⟨Z,Z,Z,Z,Z,Z,Z,eqI (by omega),trivial⟩
 rintro rr;dsimp only;rintro hrr
 refine jx (jq (jq (jr (js (jla k0 A28 Z28 Z Z Z) (jm Z (jm Z (jcd E18 Z Z (at_ct b9 p9) (dc d0 dn) kn fun v63 q11 w11=>jm Z (jcv E28 Z Z (lawIn_ct rr) (dc d0 dn) kn (jn (jx ?_))))))))))
 refine jif Z (fun hc2=>?_) (fun hc2=>?_)
 refine jq (jr (jm Z (ja Z (jn (jx (jrt (jtr ?_)))))))
 exact jrB Z Z (by rfl)
 refine jsk (jx (jq (jany false (.a 0 (.a 1 (.a 3 (.a 4 (.w 2 7 (.w 5 7 (.a 6 (.o 7 (.o 8 .e))) (.o 5 (.a 6 (.o 8 .e)))) (.o 2 (.o 5 (.a 6 (.o 8 .e))))))))) Mixed (by kernel_rfl) (kc k0 kn) fun F13=>jy Z (jf F28_0 Z) (jy Z (jl k0 O3 Z Z) (jy Z (jf F28_1 Z) (jy Z (jl k0 O26 Z Z) ?_))))))
 refine jyw Z Z ?_ ?_
 refine jlit (r:=rMBlock) (l:=[]) U26 I37 (by decide) Z Z Z ln fun g69=>jyn d0 (kc k1 kn) ?_
 refine jyw Z Z ?_ ?_
 refine japlz U26 I37 (by decide) Z k0 Z Z (rMFunc.cB d3) (by omega) fun v72 w16=>jyn d0 (kc k1 kn) (jy Z (jbu (v := .agg #[.int .i64 ma.Params,v72]) Z (fun _=>by obtain⟨_,_,_,rfl⟩:=w16;kernel_rfl)) (jyo Z (jalc J28 Z fun g13=>jyn d0 (kc k2 kn) (jyo Z (jsta k0 Z28 Z Z Z ⟨Z,w16.one,trivial⟩ (saf Z) (jyn d0 (kc k2 kn) (jyd (jx (jq ?_)))))))))
 refine jr (jlit (r:=rMach) (l:=[]) U33 I69 (by decide) Z Z Z ln fun g74=>js (jf F28_1 Z) (js (jl k3 O26 Z Z) (jm Z (js (jix (i:=(Int.toNat b9)) U26 Z37 (rMFunc.cB d5) Z Z (by omega) (by omega)) (js (jf F37_1 Z) (jev (jlV (rMBlock.A_Ins (dix (rMFunc.cB d5) (Int.toNat b9) (by omega))) O33 Z Z) fun v80 q19 w19=>jm Z (js (jshi (hi:=(Int.toNat p9)) U33 Z69 d0 Z Z (by omega) (by omega)) (jdq (dhi d0 (Int.toNat p9) (by omega) (by omega)) fun q21 w21=>japlz U33 I69 (by decide) Z k0 Z Z (dhi d0 (Int.toNat p9) (by omega) (by omega)) (by(try simp)<;>omega) fun v83 w22=>?_))))))))
 refine ja Z (jn (jx (jq (jr (jm Z (jm Z (js (jixa (i:=3) U71 Z3 Z Z Z (by omega)) (js (jl k4 O3 Z Z) (js (jco U3 U21 Z Z) (js (jbu (v := .agg #[.int .i64 4,.int .i64 rr,.int .i64 0,.int .i64 0,.int .i64 0,.int .i64 0,.int .i32 (IntKind.i32.wrap y3),.slice none 0 0]) Z (fun _=>by kernel_rfl)) (jap U33 I69 (by decide) Z k0 Z (rMach.M (m:=⟨4,rr,0,0,0,0,IntKind.i32.wrap y3,[]⟩) (c:=(.slice none 0 0)) wN (wl 4) (wp (IntWalk.i64_in rr (by omega))) (wl 0) (wl 0) (wl 0) (wl 0) (wp (JE.wrap_wrap _ _))) (by(try simp)<;>omega) (fun _=>Z) fun v91 _ w23=>?_)))))))))))
 refine ja Z (jn (jx (jq (jany false (.a 0 (.a 1 (.a 2 (.a 3 (.a 4 (.a 5 (.a 6 (.a 7 (.a 8 (.a 9 (.a 10 (.a 11 (.o 12 (.o 13 (.a 14 (.o 15 .e)))))))))))))))) Mixed (by kernel_rfl) (kc k1 (kc k2 kn)) fun F24=>jy Z (jf F28_1 Z) (jy Z (jl k0 O26 Z Z) (jy Z (jmv Z) (jy Z (jmv Z) (jy Z (jf F28_1 Z) (jy Z (jl k1 O26 Z Z) (jy Z (jmv Z) ?_))))))))))
 refine jy Z (jix (i:=(Int.toNat b9)) U26 Z37 (rMFunc.cB d6) Z Z (by omega) (by omega)) (jy Z (jf F37_1 Z) (jye (q:=fun v=>dv (rL rMach) v ((ix ma.Blocks (Int.toNat b9)).Ins)) Z (xlV (rMBlock.A_Ins (dix (rMFunc.cB d6) (Int.toNat b9) (by omega))) O33 Z Z) fun v101=>jy Z (jmv Z) (adq d0 fun q26 w26=>jy Z (jslo (lo:=(Int.toNat p9)) U33 Z69 d0 Z Z (by omega) (by omega)) (jyo Z (jdq (dlo d1 (Int.toNat p9) (by omega) (by omega)) fun q28 w28=>japl U33 I69 (by decide) Z k0 Z Z (dlo d1 (Int.toNat p9) (by omega) (by omega)) (by(try simp)<;>omega) fun v104 w29=>jyn d0 (kc k1 (kc k2 kn)) (jyo Z (js (jig (i:=(Int.toNat b9)) U26 Z37 k2 Z Z (by omega) (by omega)) ?_)))))))
 refine jyn d0 (kc k1 (kc k2 kn)) (jy Z (jf F37_1 Z) (jyo Z (jfz k0 (by simp only[List.length_append,List.length_take,List.length_drop,List.length_singleton];omega) (jsp (i:=(Int.toNat b9)) (off:=1) (a:={ ix ma.Blocks (Int.toNat b9) with Ins:=((List.take (Int.toNat p9) ((ix ma.Blocks (Int.toNat b9)).Ins))++[⟨4,rr,0,0,0,0,IntKind.i32.wrap y3,[]⟩])++(List.drop (Int.toNat p9) ((ix ma.Blocks (Int.toNat b9)).Ins)) }) k1 (by omega) Z33 Z (by omega) Z w29.one (putMI d0) (jyn d1 (kc k1 (kc k1 kn)) (jyd (jx (jq (jr (jm Z (jm Z ?_)))))))))))
 refine jdq d12 fun q33 w33=>js (jln U22 d12 Z) (js (jmin Z Z) (js (jshi (hi:=(Int.toNat (min (↑(List.length h)) 60))) U22 Z3 d12 Z Z (by omega) (by omega)) (jdq (dhi d12 (Int.toNat (min (↑(List.length h)) 60)) (by omega) (by omega)) fun q34 w34=>jcs3 E32 Z Z r3input_ct (dc (dhi d12 (Int.toNat (min (↑(List.length h)) 60)) (by omega) (by omega)) dn) kn fun c112a c112b c112c=>jalc J74 Z fun g15=>jdq (rInput.c_Args d0) fun q36 w36=>jdq (rInput.c_Mem d0) fun q37 w37=>jdq (rInput.c_Answers d0) fun q38 w38=>jsta k0 Z74 Z Z Z ⟨w36.one,w37.one,w38.one,Z,trivial⟩ (saf Z) (jn ?_))))
 refine jx (jq (jr (js (jf F74_3 Z) (jst k0 Z3 Z Z Z s3 (jn (jx (jq (jr (js (jla k3 A28 Z28 Z Z Z) (js (jla k0 A74 Z74 Z Z Z) (jcs2 E33 Z Z (pRun_ct (a1a:=c112a) (a1b:=c112b) (a1c:=c112c) (i:=⟨(input3 (List.take (Int.toNat (min (↑(List.length h)) 60)) h)).Args,(input3 (List.take (Int.toNat (min (↑(List.length h)) 60)) h)).Mem,(input3 (List.take (Int.toNat (min (↑(List.length h)) 60)) h)).Answers,400⟩) (show(400:Int)≤1000000 by decide)) (dc d12 (dc (rInput.M (m:=⟨(input3 (List.take (Int.toNat (min (↑(List.length h)) 60)) h)).Args,(input3 (List.take (Int.toNat (min (↑(List.length h)) 60)) h)).Mem,(input3 (List.take (Int.toNat (min (↑(List.length h)) 60)) h)).Answers,400⟩) (c:=(c112a,c112b,c112c)) (rInput.c_Args (m:=input3 (List.take (Int.toNat (min (↑(List.length h)) 60)) h)) (c:=(c112a,c112b,c112c)) d0) (rInput.c_Mem (m:=input3 (List.take (Int.toNat (min (↑(List.length h)) 60)) h)) (c:=(c112a,c112b,c112c)) d0) (rInput.c_Answers (m:=input3 (List.take (Int.toNat (min (↑(List.length h)) 60)) h)) (c:=(c112a,c112b,c112c)) d0) (wl 400)) dn)) kn fun c116a c116b=>?_)))))))))))
 refine jalc J78 Z fun g16=>jdq (rOutcome.c_Mem d0) fun q40 w40=>jdq (rOutcome.c_Calls d0) fun q41 w41=>jsta k0 Z78 Z Z Z ⟨Z,Z,w40.one,w41.one,Z,trivial⟩ (saf Z) (jn (jx (jq (jr (js (jf F74_3 Z) (jst k1 Z3 Z Z Z s3 (jn (jx ?_))))))))
 refine jq (jr (js (jla k3 A28 Z28 Z Z Z) (js (jla k0 A74 Z74 Z Z Z) (jfz k2 (by(try simp)<;>omega) (jcs2 E33 Z Z (pRun_ct (a1a:=c112a) (a1b:=c112b) (a1c:=c112c) (i:=⟨(input3 (List.take (Int.toNat (min (↑(List.length h)) 60)) h)).Args,(input3 (List.take (Int.toNat (min (↑(List.length h)) 60)) h)).Mem,(input3 (List.take (Int.toNat (min (↑(List.length h)) 60)) h)).Answers,1000⟩) (a0:=v72) (m:=⟨ma.Params,List.set ma.Blocks (Int.toNat b9) ({ ix ma.Blocks (Int.toNat b9) with Ins:=((List.take (Int.toNat p9) ((ix ma.Blocks (Int.toNat b9)).Ins))++[⟨4,rr,0,0,0,0,IntKind.i32.wrap y3,[]⟩])++(List.drop (Int.toNat p9) ((ix ma.Blocks (Int.toNat b9)).Ins)) })⟩) (show(1000:Int)≤1000000 by decide)) (dc (rMFunc.M (m:=⟨ma.Params,List.set ma.Blocks (Int.toNat b9) ({ ix ma.Blocks (Int.toNat b9) with Ins:=((List.take (Int.toNat p9) ((ix ma.Blocks (Int.toNat b9)).Ins))++[⟨4,rr,0,0,0,0,IntKind.i32.wrap y3,[]⟩])++(List.drop (Int.toNat p9) ((ix ma.Blocks (Int.toNat b9)).Ins)) })⟩) (c:=v72) d0 (rMFunc.W_Params (m:=ma) d14)) (dc (rInput.M (m:=⟨(input3 (List.take (Int.toNat (min (↑(List.length h)) 60)) h)).Args,(input3 (List.take (Int.toNat (min (↑(List.length h)) 60)) h)).Mem,(input3 (List.take (Int.toNat (min (↑(List.length h)) 60)) h)).Answers,1000⟩) (c:=(c112a,c112b,c112c)) (rInput.c_Args (m:=input3 (List.take (Int.toNat (min (↑(List.length h)) 60)) h)) (c:=(c112a,c112b,c112c)) d2) (rInput.c_Mem (m:=input3 (List.take (Int.toNat (min (↑(List.length h)) 60)) h)) (c:=(c112a,c112b,c112c)) d2) (rInput.c_Answers (m:=input3 (List.take (Int.toNat (min (↑(List.length h)) 60)) h)) (c:=(c112a,c112b,c112c)) d2) (wl 1000)) dn)) kn fun c120a c120b=>jalc J78 Z fun g17=>jdq (rOutcome.c_Mem d0) fun q44 w44=>jdq (rOutcome.c_Calls d0) fun q45 w45=>jsta k0 Z78 Z Z Z ⟨Z,Z,w44.one,w45.one,Z,trivial⟩ (saf Z) (jn (jx ?_)))))))
 refine jq (jr (jm Z (jm Z (jk Z Z (.t _) (jla k3 A28 Z28 Z Z Z) (jgk Z Z (.t _) (jcv E34 Z Z (pRight_ct (a0:=v72) (m:=⟨ma.Params,List.set ma.Blocks (Int.toNat b9) ({ ix ma.Blocks (Int.toNat b9) with Ins:=((List.take (Int.toNat p9) ((ix ma.Blocks (Int.toNat b9)).Ins))++[⟨4,rr,0,0,0,0,IntKind.i32.wrap y3,[]⟩])++(List.drop (Int.toNat p9) ((ix ma.Blocks (Int.toNat b9)).Ins)) })⟩)) (dc (rMFunc.M (m:=⟨ma.Params,List.set ma.Blocks (Int.toNat b9) ({ ix ma.Blocks (Int.toNat b9) with Ins:=((List.take (Int.toNat p9) ((ix ma.Blocks (Int.toNat b9)).Ins))++[⟨4,rr,0,0,0,0,IntKind.i32.wrap y3,[]⟩])++(List.drop (Int.toNat p9) ((ix ma.Blocks (Int.toNat b9)).Ins)) })⟩) (c:=v72) d1 (rMFunc.W_Params (m:=ma) d15)) dn) kn (js (jand Z Z) (jm Z (jg Z Z (.t _) (fun hg=>jf F78_0 Z) (jg Z Z (.t _) (fun hg=>jl k2 O3 (evg Z hg) Z) (jg Z Z (.t _) (fun hg=>jeql (evg Z hg) Z) ?_)))))))))))
 refine jg Z Z (.t _) (fun hg=>jmv (evg Z hg)) (jg Z Z (.gf _ _) (fun hg=>jla k2 A78 Z78 Z Z Z) (jg Z Z (.gf _ _) (fun hg=>jla k0 A78 Z78 Z Z Z) (jgc Z Z (.gf _ _) E35 Z (fun hg=>evl2 (evg Z hg) (evg Z hg)) (fun hg=>iSame_ct) (fun hg=>(dc d2 (dc d0 dn))) kn p0 (jg Z Z (.t _) (fun hg=>jor2 hg Z Z) (js (jand Z Z) (ja Z (jn (jx (jrt ?_)))))))))
 exact jrB Z Z (by rw[at_ints hr hr0 hr1] at hc2;subst hma;exact dead_fin (dead_right (by omega) (by omega) hrr) (dead_same (by omega) (by omega) hrr (of_decide_eq_false hc2) (by decide) (by decide)))
 refine jalc J28 Z fun g13=>jyn d0 (kc k2 kn) (jyo Z (japlz U26 I37 (by decide) Z k1 Z Z (rMFunc.cB d4) (by omega) fun v72 w17=>jyn d0 (kc k2 kn) (jy Z (jbu (v := .agg #[.int .i64 ma.Params,v72]) Z (fun _=>by obtain⟨_,_,_,rfl⟩:=w17;kernel_rfl)) (jyo Z (jsta k1 Z28 Z Z Z ⟨Z,w17.one,trivial⟩ (saf Z) (jyn d0 (kc k2 kn) (jyd (jx (jq ?_)))))))))
 refine jr (jlit (r:=rMach) (l:=[]) U33 I69 (by decide) Z Z Z ln fun g74=>js (jf F28_1 Z) (js (jl k3 O26 Z Z) (jm Z (js (jix (i:=(Int.toNat b9)) U26 Z37 (rMFunc.cB d5) Z Z (by omega) (by omega)) (js (jf F37_1 Z) (jev (jlV (rMBlock.A_Ins (dix (rMFunc.cB d5) (Int.toNat b9) (by omega))) O33 Z Z) fun v80 q19 w19=>jm Z (js (jshi (hi:=(Int.toNat p9)) U33 Z69 d0 Z Z (by omega) (by omega)) (jdq (dhi d0 (Int.toNat p9) (by omega) (by omega)) fun q21 w21=>japlz U33 I69 (by decide) Z k0 Z Z (dhi d0 (Int.toNat p9) (by omega) (by omega)) (by(try simp)<;>omega) fun v83 w22=>?_))))))))
 refine ja Z (jn (jx (jq (jr (jm Z (jm Z (js (jixa (i:=3) U71 Z3 Z Z Z (by omega)) (js (jl k4 O3 Z Z) (js (jco U3 U21 Z Z) (js (jbu (v := .agg #[.int .i64 4,.int .i64 rr,.int .i64 0,.int .i64 0,.int .i64 0,.int .i64 0,.int .i32 (IntKind.i32.wrap y3),.slice none 0 0]) Z (fun _=>by kernel_rfl)) (jap U33 I69 (by decide) Z k0 Z (rMach.M (m:=⟨4,rr,0,0,0,0,IntKind.i32.wrap y3,[]⟩) (c:=(.slice none 0 0)) wN (wl 4) (wp (IntWalk.i64_in rr (by omega))) (wl 0) (wl 0) (wl 0) (wl 0) (wp (JE.wrap_wrap _ _))) (by(try simp)<;>omega) (fun _=>Z) fun v91 _ w23=>?_)))))))))))
 refine ja Z (jn (jx (jq (jany false (.a 0 (.a 1 (.a 2 (.a 3 (.a 4 (.a 5 (.a 6 (.a 7 (.a 8 (.a 9 (.a 10 (.a 11 (.o 12 (.o 13 (.a 14 (.o 15 .e)))))))))))))))) Mixed (by kernel_rfl) (kc k1 (kc k2 kn)) fun F24=>jy Z (jf F28_1 Z) (jy Z (jl k0 O26 Z Z) (jy Z (jmv Z) (jy Z (jmv Z) (jy Z (jf F28_1 Z) (jy Z (jl k1 O26 Z Z) (jy Z (jmv Z) ?_))))))))))
 refine jy Z (jix (i:=(Int.toNat b9)) U26 Z37 (rMFunc.cB d6) Z Z (by omega) (by omega)) (jy Z (jf F37_1 Z) (jye (q:=fun v=>dv (rL rMach) v ((ix ma.Blocks (Int.toNat b9)).Ins)) Z (xlV (rMBlock.A_Ins (dix (rMFunc.cB d6) (Int.toNat b9) (by omega))) O33 Z Z) fun v101=>jy Z (jmv Z) (adq d0 fun q26 w26=>jy Z (jslo (lo:=(Int.toNat p9)) U33 Z69 d0 Z Z (by omega) (by omega)) (jyo Z (jdq (dlo d1 (Int.toNat p9) (by omega) (by omega)) fun q28 w28=>japl U33 I69 (by decide) Z k0 Z Z (dlo d1 (Int.toNat p9) (by omega) (by omega)) (by(try simp)<;>omega) fun v104 w29=>jyn d0 (kc k1 (kc k2 kn)) (jyo Z (js (jig (i:=(Int.toNat b9)) U26 Z37 k2 Z Z (by omega) (by omega)) ?_)))))))
 refine jyn d0 (kc k1 (kc k2 kn)) (jy Z (jf F37_1 Z) (jyo Z (jfz k0 (by simp only[List.length_append,List.length_take,List.length_drop,List.length_singleton];omega) (jsp (i:=(Int.toNat b9)) (off:=1) (a:={ ix ma.Blocks (Int.toNat b9) with Ins:=((List.take (Int.toNat p9) ((ix ma.Blocks (Int.toNat b9)).Ins))++[⟨4,rr,0,0,0,0,IntKind.i32.wrap y3,[]⟩])++(List.drop (Int.toNat p9) ((ix ma.Blocks (Int.toNat b9)).Ins)) }) k1 (by omega) Z33 Z (by omega) Z w29.one (putMI d0) (jyn d1 (kc k1 (kc k1 kn)) (jyd (jx (jq (jr (jm Z (jm Z ?_)))))))))))
 refine jdq d12 fun q33 w33=>js (jln U22 d12 Z) (js (jmin Z Z) (js (jshi (hi:=(Int.toNat (min (↑(List.length h)) 60))) U22 Z3 d12 Z Z (by omega) (by omega)) (jdq (dhi d12 (Int.toNat (min (↑(List.length h)) 60)) (by omega) (by omega)) fun q34 w34=>jcs3 E32 Z Z r3input_ct (dc (dhi d12 (Int.toNat (min (↑(List.length h)) 60)) (by omega) (by omega)) dn) kn fun c112a c112b c112c=>jalc J74 Z fun g15=>jdq (rInput.c_Args d0) fun q36 w36=>jdq (rInput.c_Mem d0) fun q37 w37=>jdq (rInput.c_Answers d0) fun q38 w38=>jsta k0 Z74 Z Z Z ⟨w36.one,w37.one,w38.one,Z,trivial⟩ (saf Z) (jn ?_))))
 refine jx (jq (jr (js (jf F74_3 Z) (jst k0 Z3 Z Z Z s3 (jn (jx (jq (jr (js (jla k3 A28 Z28 Z Z Z) (js (jla k0 A74 Z74 Z Z Z) (jcs2 E33 Z Z (pRun_ct (a1a:=c112a) (a1b:=c112b) (a1c:=c112c) (i:=⟨(input3 (List.take (Int.toNat (min (↑(List.length h)) 60)) h)).Args,(input3 (List.take (Int.toNat (min (↑(List.length h)) 60)) h)).Mem,(input3 (List.take (Int.toNat (min (↑(List.length h)) 60)) h)).Answers,400⟩) (show(400:Int)≤1000000 by decide)) (dc d12 (dc (rInput.M (m:=⟨(input3 (List.take (Int.toNat (min (↑(List.length h)) 60)) h)).Args,(input3 (List.take (Int.toNat (min (↑(List.length h)) 60)) h)).Mem,(input3 (List.take (Int.toNat (min (↑(List.length h)) 60)) h)).Answers,400⟩) (c:=(c112a,c112b,c112c)) (rInput.c_Args (m:=input3 (List.take (Int.toNat (min (↑(List.length h)) 60)) h)) (c:=(c112a,c112b,c112c)) d0) (rInput.c_Mem (m:=input3 (List.take (Int.toNat (min (↑(List.length h)) 60)) h)) (c:=(c112a,c112b,c112c)) d0) (rInput.c_Answers (m:=input3 (List.take (Int.toNat (min (↑(List.length h)) 60)) h)) (c:=(c112a,c112b,c112c)) d0) (wl 400)) dn)) kn fun c116a c116b=>?_)))))))))))
 refine jalc J78 Z fun g16=>jdq (rOutcome.c_Mem d0) fun q40 w40=>jdq (rOutcome.c_Calls d0) fun q41 w41=>jsta k0 Z78 Z Z Z ⟨Z,Z,w40.one,w41.one,Z,trivial⟩ (saf Z) (jn (jx (jq (jr (js (jf F74_3 Z) (jst k1 Z3 Z Z Z s3 (jn (jx ?_))))))))
 refine jq (jr (js (jla k3 A28 Z28 Z Z Z) (js (jla k0 A74 Z74 Z Z Z) (jfz k2 (by(try simp)<;>omega) (jcs2 E33 Z Z (pRun_ct (a1a:=c112a) (a1b:=c112b) (a1c:=c112c) (i:=⟨(input3 (List.take (Int.toNat (min (↑(List.length h)) 60)) h)).Args,(input3 (List.take (Int.toNat (min (↑(List.length h)) 60)) h)).Mem,(input3 (List.take (Int.toNat (min (↑(List.length h)) 60)) h)).Answers,1000⟩) (a0:=v72) (m:=⟨ma.Params,List.set ma.Blocks (Int.toNat b9) ({ ix ma.Blocks (Int.toNat b9) with Ins:=((List.take (Int.toNat p9) ((ix ma.Blocks (Int.toNat b9)).Ins))++[⟨4,rr,0,0,0,0,IntKind.i32.wrap y3,[]⟩])++(List.drop (Int.toNat p9) ((ix ma.Blocks (Int.toNat b9)).Ins)) })⟩) (show(1000:Int)≤1000000 by decide)) (dc (rMFunc.M (m:=⟨ma.Params,List.set ma.Blocks (Int.toNat b9) ({ ix ma.Blocks (Int.toNat b9) with Ins:=((List.take (Int.toNat p9) ((ix ma.Blocks (Int.toNat b9)).Ins))++[⟨4,rr,0,0,0,0,IntKind.i32.wrap y3,[]⟩])++(List.drop (Int.toNat p9) ((ix ma.Blocks (Int.toNat b9)).Ins)) })⟩) (c:=v72) d0 (rMFunc.W_Params (m:=ma) d14)) (dc (rInput.M (m:=⟨(input3 (List.take (Int.toNat (min (↑(List.length h)) 60)) h)).Args,(input3 (List.take (Int.toNat (min (↑(List.length h)) 60)) h)).Mem,(input3 (List.take (Int.toNat (min (↑(List.length h)) 60)) h)).Answers,1000⟩) (c:=(c112a,c112b,c112c)) (rInput.c_Args (m:=input3 (List.take (Int.toNat (min (↑(List.length h)) 60)) h)) (c:=(c112a,c112b,c112c)) d2) (rInput.c_Mem (m:=input3 (List.take (Int.toNat (min (↑(List.length h)) 60)) h)) (c:=(c112a,c112b,c112c)) d2) (rInput.c_Answers (m:=input3 (List.take (Int.toNat (min (↑(List.length h)) 60)) h)) (c:=(c112a,c112b,c112c)) d2) (wl 1000)) dn)) kn fun c120a c120b=>jalc J78 Z fun g17=>jdq (rOutcome.c_Mem d0) fun q44 w44=>jdq (rOutcome.c_Calls d0) fun q45 w45=>jsta k0 Z78 Z Z Z ⟨Z,Z,w44.one,w45.one,Z,trivial⟩ (saf Z) (jn (jx ?_)))))))
 refine jq (jr (jm Z (jm Z (jk Z Z (.t _) (jla k3 A28 Z28 Z Z Z) (jgk Z Z (.t _) (jcv E34 Z Z (pRight_ct (a0:=v72) (m:=⟨ma.Params,List.set ma.Blocks (Int.toNat b9) ({ ix ma.Blocks (Int.toNat b9) with Ins:=((List.take (Int.toNat p9) ((ix ma.Blocks (Int.toNat b9)).Ins))++[⟨4,rr,0,0,0,0,IntKind.i32.wrap y3,[]⟩])++(List.drop (Int.toNat p9) ((ix ma.Blocks (Int.toNat b9)).Ins)) })⟩)) (dc (rMFunc.M (m:=⟨ma.Params,List.set ma.Blocks (Int.toNat b9) ({ ix ma.Blocks (Int.toNat b9) with Ins:=((List.take (Int.toNat p9) ((ix ma.Blocks (Int.toNat b9)).Ins))++[⟨4,rr,0,0,0,0,IntKind.i32.wrap y3,[]⟩])++(List.drop (Int.toNat p9) ((ix ma.Blocks (Int.toNat b9)).Ins)) })⟩) (c:=v72) d1 (rMFunc.W_Params (m:=ma) d15)) dn) kn (js (jand Z Z) (jm Z (jg Z Z (.t _) (fun hg=>jf F78_0 Z) (jg Z Z (.t _) (fun hg=>jl k2 O3 (evg Z hg) Z) (jg Z Z (.t _) (fun hg=>jeql (evg Z hg) Z) ?_)))))))))))
 refine jg Z Z (.t _) (fun hg=>jmv (evg Z hg)) (jg Z Z (.gf _ _) (fun hg=>jla k2 A78 Z78 Z Z Z) (jg Z Z (.gf _ _) (fun hg=>jla k0 A78 Z78 Z Z Z) (jgc Z Z (.gf _ _) E35 Z (fun hg=>evl2 (evg Z hg) (evg Z hg)) (fun hg=>iSame_ct) (fun hg=>(dc d2 (dc d0 dn))) kn p0 (jg Z Z (.t _) (fun hg=>jor2 hg Z Z) (js (jand Z Z) (ja Z (jn (jx (jrt ?_)))))))))
 exact jrB Z Z (by rw[at_ints hr hr0 hr1] at hc2;subst hma;exact dead_fin (dead_right (by omega) (by omega) hrr) (dead_same (by omega) (by omega) hrr (of_decide_eq_false hc2) (by decide) (by decide)))
 refine jalc J28 Z fun g13=>jyn d0 (kc k1 kn) (jyo Z (jlit (r:=rMBlock) (l:=[]) U26 I37 (by decide) Z Z Z ln fun g69=>jyn d0 (kc k2 kn) (jyo Z (japlz U26 I37 (by decide) Z k0 Z Z (rMFunc.cB d4) (by omega) fun v72 w17=>jyn d0 (kc k2 kn) (jy Z (jbu (v := .agg #[.int .i64 ma.Params,v72]) Z (fun _=>by obtain⟨_,_,_,rfl⟩:=w17;kernel_rfl)) (jyo Z (jsta k1 Z28 Z Z Z ⟨Z,w17.one,trivial⟩ (saf Z) (jyn d0 (kc k2 kn) ?_))))))))
 refine jyd (jx (jq (jr (jlit (r:=rMach) (l:=[]) U33 I69 (by decide) Z Z Z ln fun g74=>js (jf F28_1 Z) (js (jl k3 O26 Z Z) (jm Z (js (jix (i:=(Int.toNat b9)) U26 Z37 (rMFunc.cB d5) Z Z (by omega) (by omega)) (js (jf F37_1 Z) (jev (jlV (rMBlock.A_Ins (dix (rMFunc.cB d5) (Int.toNat b9) (by omega))) O33 Z Z) fun v80 q19 w19=>jm Z ?_)))))))))
 refine js (jshi (hi:=(Int.toNat p9)) U33 Z69 d0 Z Z (by omega) (by omega)) (jdq (dhi d0 (Int.toNat p9) (by omega) (by omega)) fun q21 w21=>japlz U33 I69 (by decide) Z k0 Z Z (dhi d0 (Int.toNat p9) (by omega) (by omega)) (by(try simp)<;>omega) fun v83 w22=>ja Z (jn (jx (jq (jr (jm Z (jm Z (js (jixa (i:=3) U71 Z3 Z Z Z (by omega)) (js (jl k4 O3 Z Z) ?_)))))))))
 refine js (jco U3 U21 Z Z) (js (jbu (v := .agg #[.int .i64 4,.int .i64 rr,.int .i64 0,.int .i64 0,.int .i64 0,.int .i64 0,.int .i32 (IntKind.i32.wrap y3),.slice none 0 0]) Z (fun _=>by kernel_rfl)) (jap U33 I69 (by decide) Z k0 Z (rMach.M (m:=⟨4,rr,0,0,0,0,IntKind.i32.wrap y3,[]⟩) (c:=(.slice none 0 0)) wN (wl 4) (wp (IntWalk.i64_in rr (by omega))) (wl 0) (wl 0) (wl 0) (wl 0) (wp (JE.wrap_wrap _ _))) (by(try simp)<;>omega) (fun _=>Z) fun v91 _ w23=>ja Z (jn (jx (jq (jany false (.a 0 (.a 1 (.a 2 (.a 3 (.a 4 (.a 5 (.a 6 (.a 7 (.a 8 (.a 9 (.a 10 (.a 11 (.o 12 (.o 13 (.a 14 (.o 15 .e)))))))))))))))) Mixed (by kernel_rfl) (kc k1 (kc k2 kn)) fun F24=>jy Z (jf F28_1 Z) (jy Z (jl k0 O26 Z Z) (jy Z (jmv Z) (jy Z (jmv Z) ?_)))))))))
 refine jy Z (jf F28_1 Z) (jy Z (jl k1 O26 Z Z) (jy Z (jmv Z) (jy Z (jix (i:=(Int.toNat b9)) U26 Z37 (rMFunc.cB d6) Z Z (by omega) (by omega)) (jy Z (jf F37_1 Z) (jye (q:=fun v=>dv (rL rMach) v ((ix ma.Blocks (Int.toNat b9)).Ins)) Z (xlV (rMBlock.A_Ins (dix (rMFunc.cB d6) (Int.toNat b9) (by omega))) O33 Z Z) fun v101=>jy Z (jmv Z) (adq d0 fun q26 w26=>jy Z (jslo (lo:=(Int.toNat p9)) U33 Z69 d0 Z Z (by omega) (by omega)) (jyo Z (jdq (dlo d1 (Int.toNat p9) (by omega) (by omega)) fun q28 w28=>japl U33 I69 (by decide) Z k0 Z Z (dlo d1 (Int.toNat p9) (by omega) (by omega)) (by(try simp)<;>omega) fun v104 w29=>?_))))))))
 refine jyn d0 (kc k1 (kc k2 kn)) (jyo Z (js (jig (i:=(Int.toNat b9)) U26 Z37 k2 Z Z (by omega) (by omega)) (jyn d0 (kc k1 (kc k2 kn)) (jy Z (jf F37_1 Z) (jyo Z (jfz k0 (by simp only[List.length_append,List.length_take,List.length_drop,List.length_singleton];omega) (jsp (i:=(Int.toNat b9)) (off:=1) (a:={ ix ma.Blocks (Int.toNat b9) with Ins:=((List.take (Int.toNat p9) ((ix ma.Blocks (Int.toNat b9)).Ins))++[⟨4,rr,0,0,0,0,IntKind.i32.wrap y3,[]⟩])++(List.drop (Int.toNat p9) ((ix ma.Blocks (Int.toNat b9)).Ins)) }) k1 (by omega) Z33 Z (by omega) Z w29.one (putMI d0) (jyn d1 (kc k1 (kc k1 kn)) (jyd (jx (jq ?_)))))))))))
 refine jr (jm Z (jm Z (jdq d12 fun q33 w33=>js (jln U22 d12 Z) (js (jmin Z Z) (js (jshi (hi:=(Int.toNat (min (↑(List.length h)) 60))) U22 Z3 d12 Z Z (by omega) (by omega)) (jdq (dhi d12 (Int.toNat (min (↑(List.length h)) 60)) (by omega) (by omega)) fun q34 w34=>jcs3 E32 Z Z r3input_ct (dc (dhi d12 (Int.toNat (min (↑(List.length h)) 60)) (by omega) (by omega)) dn) kn fun c112a c112b c112c=>jalc J74 Z fun g15=>jdq (rInput.c_Args d0) fun q36 w36=>jdq (rInput.c_Mem d0) fun q37 w37=>?_))))))
 refine jdq (rInput.c_Answers d0) fun q38 w38=>jsta k0 Z74 Z Z Z ⟨w36.one,w37.one,w38.one,Z,trivial⟩ (saf Z) (jn (jx (jq (jr (js (jf F74_3 Z) (jst k0 Z3 Z Z Z s3 (jn (jx (jq (jr ?_))))))))))
 refine js (jla k3 A28 Z28 Z Z Z) (js (jla k0 A74 Z74 Z Z Z) (jcs2 E33 Z Z (pRun_ct (a1a:=c112a) (a1b:=c112b) (a1c:=c112c) (i:=⟨(input3 (List.take (Int.toNat (min (↑(List.length h)) 60)) h)).Args,(input3 (List.take (Int.toNat (min (↑(List.length h)) 60)) h)).Mem,(input3 (List.take (Int.toNat (min (↑(List.length h)) 60)) h)).Answers,400⟩) (show(400:Int)≤1000000 by decide)) (dc d12 (dc (rInput.M (m:=⟨(input3 (List.take (Int.toNat (min (↑(List.length h)) 60)) h)).Args,(input3 (List.take (Int.toNat (min (↑(List.length h)) 60)) h)).Mem,(input3 (List.take (Int.toNat (min (↑(List.length h)) 60)) h)).Answers,400⟩) (c:=(c112a,c112b,c112c)) (rInput.c_Args (m:=input3 (List.take (Int.toNat (min (↑(List.length h)) 60)) h)) (c:=(c112a,c112b,c112c)) d0) (rInput.c_Mem (m:=input3 (List.take (Int.toNat (min (↑(List.length h)) 60)) h)) (c:=(c112a,c112b,c112c)) d0) (rInput.c_Answers (m:=input3 (List.take (Int.toNat (min (↑(List.length h)) 60)) h)) (c:=(c112a,c112b,c112c)) d0) (wl 400)) dn)) kn fun c116a c116b=>jalc J78 Z fun g16=>jdq (rOutcome.c_Mem d0) fun q40 w40=>jdq (rOutcome.c_Calls d0) fun q41 w41=>jsta k0 Z78 Z Z Z ⟨Z,Z,w40.one,w41.one,Z,trivial⟩ (saf Z) (jn (jx (jq (jr (js (jf F74_3 Z) ?_)))))))
 refine jst k1 Z3 Z Z Z s3 (jn (jx (jq (jr (js (jla k3 A28 Z28 Z Z Z) (js (jla k0 A74 Z74 Z Z Z) (jfz k2 (by(try simp)<;>omega) (jcs2 E33 Z Z (pRun_ct (a1a:=c112a) (a1b:=c112b) (a1c:=c112c) (i:=⟨(input3 (List.take (Int.toNat (min (↑(List.length h)) 60)) h)).Args,(input3 (List.take (Int.toNat (min (↑(List.length h)) 60)) h)).Mem,(input3 (List.take (Int.toNat (min (↑(List.length h)) 60)) h)).Answers,1000⟩) (a0:=v72) (m:=⟨ma.Params,List.set ma.Blocks (Int.toNat b9) ({ ix ma.Blocks (Int.toNat b9) with Ins:=((List.take (Int.toNat p9) ((ix ma.Blocks (Int.toNat b9)).Ins))++[⟨4,rr,0,0,0,0,IntKind.i32.wrap y3,[]⟩])++(List.drop (Int.toNat p9) ((ix ma.Blocks (Int.toNat b9)).Ins)) })⟩) (show(1000:Int)≤1000000 by decide)) (dc (rMFunc.M (m:=⟨ma.Params,List.set ma.Blocks (Int.toNat b9) ({ ix ma.Blocks (Int.toNat b9) with Ins:=((List.take (Int.toNat p9) ((ix ma.Blocks (Int.toNat b9)).Ins))++[⟨4,rr,0,0,0,0,IntKind.i32.wrap y3,[]⟩])++(List.drop (Int.toNat p9) ((ix ma.Blocks (Int.toNat b9)).Ins)) })⟩) (c:=v72) d0 (rMFunc.W_Params (m:=ma) d14)) (dc (rInput.M (m:=⟨(input3 (List.take (Int.toNat (min (↑(List.length h)) 60)) h)).Args,(input3 (List.take (Int.toNat (min (↑(List.length h)) 60)) h)).Mem,(input3 (List.take (Int.toNat (min (↑(List.length h)) 60)) h)).Answers,1000⟩) (c:=(c112a,c112b,c112c)) (rInput.c_Args (m:=input3 (List.take (Int.toNat (min (↑(List.length h)) 60)) h)) (c:=(c112a,c112b,c112c)) d2) (rInput.c_Mem (m:=input3 (List.take (Int.toNat (min (↑(List.length h)) 60)) h)) (c:=(c112a,c112b,c112c)) d2) (rInput.c_Answers (m:=input3 (List.take (Int.toNat (min (↑(List.length h)) 60)) h)) (c:=(c112a,c112b,c112c)) d2) (wl 1000)) dn)) kn fun c120a c120b=>jalc J78 Z fun g17=>jdq (rOutcome.c_Mem d0) fun q44 w44=>jdq (rOutcome.c_Calls d0) fun q45 w45=>?_))))))))
 refine jsta k0 Z78 Z Z Z ⟨Z,Z,w44.one,w45.one,Z,trivial⟩ (saf Z) (jn (jx (jq (jr (jm Z (jm Z (jk Z Z (.t _) (jla k3 A28 Z28 Z Z Z) (jgk Z Z (.t _) (jcv E34 Z Z (pRight_ct (a0:=v72) (m:=⟨ma.Params,List.set ma.Blocks (Int.toNat b9) ({ ix ma.Blocks (Int.toNat b9) with Ins:=((List.take (Int.toNat p9) ((ix ma.Blocks (Int.toNat b9)).Ins))++[⟨4,rr,0,0,0,0,IntKind.i32.wrap y3,[]⟩])++(List.drop (Int.toNat p9) ((ix ma.Blocks (Int.toNat b9)).Ins)) })⟩)) (dc (rMFunc.M (m:=⟨ma.Params,List.set ma.Blocks (Int.toNat b9) ({ ix ma.Blocks (Int.toNat b9) with Ins:=((List.take (Int.toNat p9) ((ix ma.Blocks (Int.toNat b9)).Ins))++[⟨4,rr,0,0,0,0,IntKind.i32.wrap y3,[]⟩])++(List.drop (Int.toNat p9) ((ix ma.Blocks (Int.toNat b9)).Ins)) })⟩) (c:=v72) d1 (rMFunc.W_Params (m:=ma) d15)) dn) kn (js (jand Z Z) (jm Z ?_)))))))))))
 refine jg Z Z (.t _) (fun hg=>jf F78_0 Z) (jg Z Z (.t _) (fun hg=>jl k2 O3 (evg Z hg) Z) (jg Z Z (.t _) (fun hg=>jeql (evg Z hg) Z) (jg Z Z (.t _) (fun hg=>jmv (evg Z hg)) (jg Z Z (.gf _ _) (fun hg=>jla k2 A78 Z78 Z Z Z) (jg Z Z (.gf _ _) (fun hg=>jla k0 A78 Z78 Z Z Z) (jgc Z Z (.gf _ _) E35 Z (fun hg=>evl2 (evg Z hg) (evg Z hg)) (fun hg=>iSame_ct) (fun hg=>(dc d2 (dc d0 dn))) kn p0 (jg Z Z (.t _) (fun hg=>jor2 hg Z Z) (js (jand Z Z) (ja Z (jn (jx ?_)))))))))))
 refine jrt ?_
 exact jrB Z Z (by rw[at_ints hr hr0 hr1] at hc2;subst hma;exact dead_fin (dead_right (by omega) (by omega) hrr) (dead_same (by omega) (by omega) hrr (of_decide_eq_false hc2) (by decide) (by decide)))
end Go.Proofs.YtehhjlkmbdhckaaGreat
