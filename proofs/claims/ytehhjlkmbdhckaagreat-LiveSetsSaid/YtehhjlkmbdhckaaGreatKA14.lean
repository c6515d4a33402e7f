/- Lemmas that the claim is made of. Conditions: each lemma names its own. -/
import Derived.Test.YtehhjlkmbdhckaaGreatKA13
import Derived.Test.YtehhjlkmbdhckaaGreatKA11
import Derived.Test.YtehhjlkmbdhckaaGreatKA12
set_option linter.unusedSectionVars false
set_option linter.unusedSimpArgs false
set_option linter.unusedVariables false
namespace Go.Proofs.YtehhjlkmbdhckaaGreat
open Go.JE
set_option maxRecDepth 4000
theorem rNeedsG_ct {a0 : Value} {e : D.End} : Tg Tryz.prog 43 #[vEnd e a0] [da rEnd (vEnd e a0) e] [] (rI .i64) 3 (nM9 e) := by
 refine jenter (args := [vEnd e a0]) Tryz.func43 rfl rfl rfl fun w0 X => ?_
 refine jq (jr (jbox Z Z fun g1 => ja Z (jn (jx (jq (jq (jr (js (jf F35_0 Z) (js (jl k0 O3 Z Z) (jn ?_))))))))))
 refine jx (jb (jq (jq (jr (js (jeql Z Z) (ja Z (jn (jx ?_))))))))
 refine jif Z (fun hc1 => ?_) (fun hc1 => ?_)
 refine jsk (jx ?_)
 refine jif Z (fun hc2 => ?_) (fun hc2 => ?_)
 refine jq (jr (js (jf F35_1 Z) (js (jl k0 O3 Z Z) (jlit (r := (rI .i64)) (l := [e.A]) U22 I3 (by decide) Z Z Z (lV Z Z (wI (rEnd.W_A d0)) ln) fun g10 => ja Z (jn (jx (jrt (jbr (jtr ?_)))))))))
 exact jrG Z Z (by first | (simp [nM9,hc1,hc2]; done) | (unfold nM9; (repeat' split) <;> first | rfl | (exfalso; omega) | (simp [nM9,hc1,hc2]; done))) k0
 exact absurd hc2 (by simp [hc1])
 refine jr (js (jeql Z Z) (ja Z (jn (jx ?_))))
 refine jif Z (fun hc3 => ?_) (fun hc3 => ?_)
 refine jq (jr (js (jf F35_1 Z) (js (jl k0 O3 Z Z) (jlit (r := (rI .i64)) (l := [e.A]) U22 I3 (by decide) Z Z Z (lV Z Z (wI (rEnd.W_A d0)) ln) fun g10_1 => ja Z (jn (jx (jrt (jbr (jtr ?_)))))))))
 exact jrG Z Z (by first | (simp [nM9,hc1,hc3]; done) | (unfold nM9; (repeat' split) <;> first | rfl | (exfalso; omega) | (simp [nM9,hc1,hc3]; done))) k0
 refine jq (jq (jr (js (jeql Z Z) (ja Z (jn (jx ?_))))))
 refine jif Z (fun hc4 => ?_) (fun hc4 => ?_)
 refine jsk (jx ?_)
 refine jif Z (fun hc5 => ?_) (fun hc5 => ?_)
 refine jq (jr (js (jf F35_1 Z) (js (jl k0 O3 Z Z) (js (jf F35_2 Z) (js (jl k0 O3 Z Z) (jlit (r := (rI .i64)) (l := [e.A,e.B]) U22 I3 (by decide) Z Z Z (lV Z Z (wI (rEnd.W_A d0)) (lV Z Z (wI (rEnd.W_B d0)) ln)) fun g19 => ja Z (jn (jx (jrt (jbr ?_))))))))))
 refine jtr ?_
 exact jrG Z Z (by first | (simp [nM9,hc1,hc3,hc4,hc5]; done) | (unfold nM9; (repeat' split) <;> first | rfl | (exfalso; omega) | (simp [nM9,hc1,hc3,hc4,hc5]; done))) k0
 exact absurd hc5 (by simp [hc1,hc3,hc4])
 refine jq (jr (js (jeql Z Z) (ja Z (jn (jx ?_)))))
 refine jif Z (fun hc6 => ?_) (fun hc6 => ?_)
 refine jsk (jx ?_)
 refine jif Z (fun hc7 => ?_) (fun hc7 => ?_)
 refine jq (jr (js (jf F35_1 Z) (js (jl k0 O3 Z Z) (js (jf F35_2 Z) (js (jl k0 O3 Z Z) (jlit (r := (rI .i64)) (l := [e.A,e.B]) U22 I3 (by decide) Z Z Z (lV Z Z (wI (rEnd.W_A d0)) (lV Z Z (wI (rEnd.W_B d0)) ln)) fun g19_2 => ja Z (jn (jx (jrt (jbr ?_))))))))))
 refine jtr ?_
 exact jrG Z Z (by first | (simp [nM9,hc1,hc3,hc4,hc6,hc7]; done) | (unfold nM9; (repeat' split) <;> first | rfl | (exfalso; omega) | (simp [nM9,hc1,hc3,hc4,hc6,hc7]; done))) k0
 exact absurd hc7 (by simp [hc1,hc3,hc4,hc6])
 refine jr (js (jeql Z Z) (ja Z (jn (jx ?_))))
 refine jif Z (fun hc8 => ?_) (fun hc8 => ?_)
 refine jq (jr (js (jf F35_1 Z) (js (jl k0 O3 Z Z) (js (jf F35_2 Z) (js (jl k0 O3 Z Z) (jlit (r := (rI .i64)) (l := [e.A,e.B]) U22 I3 (by decide) Z Z Z (lV Z Z (wI (rEnd.W_A d0)) (lV Z Z (wI (rEnd.W_B d0)) ln)) fun g19_3 => ja Z (jn (jx (jrt (jbr ?_))))))))))
 refine jtr ?_
 exact jrG Z Z (by first | (simp [nM9,hc1,hc3,hc4,hc6,hc8]; done) | (unfold nM9; (repeat' split) <;> first | rfl | (exfalso; omega) | (simp [nM9,hc1,hc3,hc4,hc6,hc8]; done))) k0
 refine jq (jr (js (jeql Z Z) (ja Z (jn (jx ?_)))))
 refine jif Z (fun hc9 => ?_) (fun hc9 => ?_)
 refine jq (jr (js (jf F35_1 Z) (js (jl k0 O3 Z Z) (js (jgeq Z Z) (jn (jx ?_))))))
 refine jif Z (fun hc10 => ?_) (fun hc10 => ?_)
 refine jq (jr (js (jf F35_1 Z) (js (jl k0 O3 Z Z) (jlit (r := (rI .i64)) (l := [e.A]) U22 I3 (by decide) Z Z Z (lV Z Z (wI (rEnd.W_A d0)) ln) fun g27 => ja Z (jn (jx (jrt (jbr (jtr ?_)))))))))
 exact jrG Z Z (by first | (simp [nM9,hc1,hc3,hc4,hc6,hc8,hc9,hc10]; done) | (unfold nM9; (repeat' split) <;> first | rfl | (exfalso; omega) | (simp [nM9,hc1,hc3,hc4,hc6,hc8,hc9,hc10]; done))) k0
 refine jsk (jbn (jx (jq (jr (ja Z (jn (jx (jrt (qnl (r := (rI .i64)) (E := 3) ?_)))))))))
 exact jrG Z Z (by first | (simp [nM9,hc1,hc3,hc4,hc6,hc8,hc9,hc10]; done) | (unfold nM9; (repeat' split) <;> first | rfl | (exfalso; omega) | (simp [nM9,hc1,hc3,hc4,hc6,hc8,hc9,hc10]; done))) k0
 refine jsk (jbn (jx (jq (jr (ja Z (jn (jx (jrt (qnl (r := (rI .i64)) (E := 3) ?_)))))))))
 exact jrG Z Z (by first | (simp [nM9,hc1,hc3,hc4,hc6,hc8,hc9]; done) | (unfold nM9; (repeat' split) <;> first | rfl | (exfalso; omega) | (simp [nM9,hc1,hc3,hc4,hc6,hc8,hc9]; done))) k0
theorem regs_ct {a0 : Value} {m : D.MFunc} (hr : rightM m = true) : Td Tryz.prog 20 #[vMFunc m a0] [da rMFunc (vMFunc m a0) m] [] (rL (rI .i64)) (regsM m) := by
 refine jenter (args := [vMFunc m a0]) Tryz.func20 rfl rfl rfl fun w0 X => ?_
 have hw := right_wl hr
 have hn0 := (right_wf hr).n0
 have hnP := (right_wf hr).p0
 refine jq (jr (jbox Z Z fun g1 => ja Z (jn (jx (jq (jr (jmk (m := 8192) (r := rB) U93 I4 Z Z Z Z Z (by omega) wB Z fun g14 => ja Z (jn (jx ?_)))))))))
 refine jq (jq (jr (ja Z (jn (jx (jb ?_))))))
 refine jlp (u2 fun (i : Nat) (m1 : List Bool) => ⟨i ≤ Int.toNat m.Params ∧ MK ((List.range i).map (fun k : Nat => (k : Int))) m1,[da rMFunc (vMFunc m a0) m],[gl X.n rB 4 (.slice (some ⟨g14,0,none⟩) 8192 8192) m1,bx g1 28 [.int .i64 m.Params,a0]],[(1,.pointer (some ⟨g1,0,none⟩)),(2,.slice none 0 0),(3,(.slice (some ⟨g14,0,none⟩) 8192 8192)),(4,.int .i64 (↑i))],Int.toNat m.Params - i⟩) (0,List.replicate 8192 false) ⟨by dsimp only; omega,MK.beg⟩ (dc d0 dn) (kd kn) ⟨Z,Z,Z,eqI (by omega),trivial⟩ ?_
 rintro ⟨i,m1⟩; dsimp only [u2]; rintro ⟨hi,hm1⟩
 have hl1 := hm1.n
 refine jq (jq (jr (jm Z (js (jf F28_0 Z) (js (jl k1 O3 Z Z) (js (jlss Z Z) (jn (jx ?_))))))))
 refine jif Z (fun hc1 => ?_) (fun hc1 => ?_)
 refine jsk (jx (jq (jb (jr (jm Z (jm Z (js (jig U93 Z4 k0 Z Z Z (by omega)) (jsg k0 Z Z4 Z Z Z (by omega) wB (jn (jbn (jx ?_)))))))))))
 refine jr (jm Z (js (jadd Z Z (by omega)) (ja Z (jn ?_))))
 exact jag (i + 1,List.set m1 i true) ⟨by dsimp only; omega,by dsimp only; exact (hm1.set (r := (i : Int)) (by unfold Rg; omega)).of (by rw [List.range_succ,List.map_append]; rfl)⟩ (dc d0 dn) (kd kn) ⟨Z,Z,Z,eqI (by omega),trivial⟩
 refine jex (jtx (jtx (jbh (jx (jq (jq (jr (ja Z (jn (jx (jb ?_)))))))))))
 have hm19 : MK (parB m) m1 := hm1.of (by rw [show i = Int.toNat m.Params by omega]; rfl)
 refine jlp (u2 fun (b : Nat) (m2 : List Bool) => ⟨b ≤ m.Blocks.length ∧ MK (parB m ++ (m.Blocks.take b).flatMap regB) m2,[da rMFunc (vMFunc m a0) m],[gl X.n rB 4 (.slice (some ⟨g14,0,none⟩) 8192 8192) m2,bx g1 28 [.int .i64 m.Params,a0]],[(1,.pointer (some ⟨g1,0,none⟩)),(2,.slice none 0 0),(3,(.slice (some ⟨g14,0,none⟩) 8192 8192)),(5,.int .i64 (↑b))],m.Blocks.length - b⟩) (0,m1) ⟨by dsimp only; omega,by dsimp only; exact hm19.of (by simp)⟩ (dc d0 dn) (kd kn) ⟨Z,Z,Z,eqI (by omega),trivial⟩ ?_
 rintro ⟨b,m2⟩; dsimp only [u2]; rintro ⟨hb,hm2⟩
 have hl2 := hm2.n
 refine jq (jq (jr (jm Z (js (jf F28_1 Z) (js (jl k1 O26 Z Z) (jdq (rMFunc.cB d0) fun q1 w1 => js (jln U26 (rMFunc.cB d0) Z) (js (jlss Z Z) (jn (jx ?_)))))))))
 refine jif Z (fun hc2 => ?_) (fun hc2 => ?_)
 refine jsk (jx (jq (jb (jq (jr (js (jf F28_1 Z) (js (jl k1 O26 Z Z) (jm Z (js (jix U26 Z37 (rMFunc.cB d0) Z Z Z (by omega)) (js (jf F37_2 Z) (jA sEnd (jlA (rMBlock.A_End (dix (rMFunc.cB d0) b (by omega))) A35 Z35 Z) fun c36 => ?_)))))))))))
 refine jcg E43 Z Z rNeedsG_ct (dc d0 dn) kn fun v37 w3 => ja Z (jn (jx (jq (jq (jr (ja Z (jn (jx (jb ?_)))))))))
 have hbb : b < m.Blocks.length := by omega
 have hnl := needs_len (e := (ix m.Blocks b).End)
 have hpk := right_phis hr hbb
 refine jlp (u3 fun (k : Nat) (l3 : List Int) (v3 : Value) => ⟨k ≤ (ix m.Blocks b).Phis.length ∧ l3 = nM9 (ix m.Blocks b).End ++ ((ix m.Blocks b).Phis.take k).flatMap phiB,[da rMFunc (vMFunc m a0) m],[gl X.n (rI .i64) 3 v3 l3,gl X.n rB 4 (.slice (some ⟨g14,0,none⟩) 8192 8192) m2,bx g1 28 [.int .i64 m.Params,a0]],[(1,.pointer (some ⟨g1,0,none⟩)),(2,.slice none 0 0),(3,(.slice (some ⟨g14,0,none⟩) 8192 8192)),(5,.int .i64 (↑b)),(6,v3),(7,.int .i64 (↑k))],(ix m.Blocks b).Phis.length - k⟩) (0,nM9 ((ix m.Blocks b).End),v37) ⟨by dsimp only; omega,by dsimp only; simp⟩ (dc d1 dn) (kd (kc k0 kn)) ⟨Z,Z,Z,Z,Z,eqI (by omega),trivial⟩ ?_
 rintro ⟨k,l3,v3⟩; dsimp only [u3]; rintro ⟨hk,hl3⟩
 refine cgo k0 fun w4 => ?_
 have hl3l : l3.length ≤ 9000000 := by have := phiB_len hr hbb k; rw [hl3,List.length_append]; omega
 refine jq (jq (jr (jm Z (js (jf F28_1 Z) (js (jl k2 O26 Z Z) (jm Z (js (jix U26 Z37 (rMFunc.cB d0) Z Z Z (by omega)) (js (jf F37_0 Z) (jev (jlV (rMBlock.A_Phis (dix (rMFunc.cB d0) b (by omega))) O32 Z Z) fun v44 q5 w5 => js (jln U32 d0 Z) (js (jlss Z Z) ?_))))))))))
 refine jn (jx ?_)
 refine jif Z (fun hc3 => ?_) (fun hc3 => ?_)
 refine jsk (jx (jq (jb (jq (jr (js (jf F28_1 Z) (js (jl k2 O26 Z Z) (jm Z (js (jix U26 Z37 (rMFunc.cB d1) Z Z Z (by omega)) (js (jf F37_0 Z) (jev (jlV (rMBlock.A_Phis (dix (rMFunc.cB d1) b (by omega))) O32 Z Z) fun v54 q7 w7 => ?_)))))))))))
 refine jm Z (js (jix U32 Z62 d0 Z Z Z (by omega)) (jA sPhi (jlA (dix d0 k (by omega)) A62 Z62 Z) fun c57 => jalc J62 Z fun g8 => jdq (rPhi.c_In d0) fun q10 w10 => jsta k0 Z62 Z Z Z ⟨Z,w10.one,trivial⟩ (saf Z) (jn (jx (jq (jr (jm Z (js (jf F62_0 Z) ?_))))))))
 refine js (jl k0 O3 Z Z) (japv U22 I3 (by decide) Z Z k1 Z (wI (rPhi.W_Dst d0)) (by omega) (fun _ => Z) fun v62 _ w11 => ja Z (jn (jx (jq (jr (ja Z (jn (jx (jb ?_)))))))))
 have hkk : k < (ix m.Blocks b).Phis.length := by omega
 have hin := right_in hr hbb _ (ix_mem hkk)
 refine jlp (u3 fun (j : Nat) (l4 : List Int) (v4 : Value) => ⟨j ≤ (ix (ix m.Blocks b).Phis k).In.length ∧ l4 = l3 ++ ((ix (ix m.Blocks b).Phis k).Dst :: ((ix (ix m.Blocks b).Phis k).In.take j).map (fun y => y.Val)),[da rPhi (vPhi (ix ((ix m.Blocks b).Phis) k) c57) (ix ((ix m.Blocks b).Phis) k),da rMFunc (vMFunc m a0) m],[gl X.n (rI .i64) 3 v4 l4,bx g8 62 [.int .i64 ((ix ((ix m.Blocks b).Phis) k).Dst),c57],gl X.n rB 4 (.slice (some ⟨g14,0,none⟩) 8192 8192) m2,bx g1 28 [.int .i64 m.Params,a0]],[(1,.pointer (some ⟨g1,0,none⟩)),(2,.slice none 0 0),(3,(.slice (some ⟨g14,0,none⟩) 8192 8192)),(5,.int .i64 (↑b)),(6,v4),(7,.int .i64 (↑k)),(8,.pointer (some ⟨g8,0,none⟩)),(9,.int .i64 (↑j))],(ix (ix m.Blocks b).Phis k).In.length - j⟩) (0,l3 ++ [(ix ((ix m.Blocks b).Phis) k).Dst],v62) ⟨by dsimp only; omega,rfl⟩ (dc d0 (dc d3 dn)) (kd (kd kn)) ⟨Z,Z,Z,Z,Z,Z,Z,eqI (by omega),trivial⟩ ?_
 rintro ⟨j,l4,v4⟩; dsimp only [u3]; rintro ⟨hj,hl4⟩
 refine cgo k0 fun w12 => ?_
 have hl4l : l4.length ≤ 9001000 := by rw [hl4]; simp only [List.length_append,List.length_cons,List.length_map,List.length_take]; omega
 refine jq (jq (jr (jm Z (js (jf F62_1 Z) (js (jl k1 O60 Z Z) (js (jln U60 (rPhi.c_In d0) Z) (js (jlss Z Z) (jn (jx ?_)))))))))
 refine jif Z (fun hc4 => ?_) (fun hc4 => ?_)
 refine jsk (jx (jq (jb (jr (jm Z (js (jf F62_1 Z) (js (jl k1 O60 Z Z) (jm Z (js (jix U60 Z64 (rPhi.c_In d0) Z Z Z (by omega)) (js (jf F64_1 Z) (js (jlI (rIn.A_Val (dix (rPhi.c_In d0) j (by omega))) O3 Z) ?_)))))))))))
 refine japv U22 I3 (by decide) Z Z k0 Z (wI (wad (rIn.A_Val (dix (rPhi.c_In d0) j (by omega))))) (by omega) (fun _ => Z) fun v78 _ w13 => ja Z (jn (jbn (jx (jr (jm Z (js (jadd Z Z (by omega)) (ja Z (jn ?_))))))))
 exact jag (j + 1,l4 ++ [(ix ((ix ((ix m.Blocks b).Phis) k).In) j).Val],v78) ⟨by dsimp only; omega,by dsimp only; rw [hl4,take_ix (by omega),List.map_append,← List.cons_append,List.append_assoc]; rfl⟩ (dc d0 (dc d1 dn)) (kd (kd kn)) ⟨Z,Z,Z,Z,Z,Z,Z,eqI (by omega),trivial⟩
 refine jex (jtx (jtx (jbh (jbn (jx (jr (jm Z (js (jadd Z Z (by omega)) (ja Z (jn ?_))))))))))
 exact jag (k + 1,l4,v4) ⟨by dsimp only; omega,by dsimp only; rw [hl4,hl3,List.take_of_length_le (l := (ix (ix m.Blocks b).Phis k).In) (by omega),flat_next (by omega),List.append_assoc]; rfl⟩ (dc d1 dn) (kc k0 (kc k1 (kc k1 kn))) ⟨Z,Z,Z,Z,Z,eqI (by omega),trivial⟩
 refine jex (jtx (jtx (jbh (jx (jq (jq (jr (ja Z (jn (jx (jb ?_)))))))))))
 refine jlp (u3 fun (i5 : Nat) (l5 : List Int) (v5 : Value) => ⟨i5 ≤ (ix m.Blocks b).Ins.length ∧ l5 = nM9 (ix m.Blocks b).End ++ (ix m.Blocks b).Phis.flatMap phiB ++ ((ix m.Blocks b).Ins.take i5).flatMap insB,[da rMFunc (vMFunc m a0) m],[gl X.n (rI .i64) 3 v5 l5,gl X.n rB 4 (.slice (some ⟨g14,0,none⟩) 8192 8192) m2,bx g1 28 [.int .i64 m.Params,a0]],[(1,.pointer (some ⟨g1,0,none⟩)),(2,.slice none 0 0),(3,(.slice (some ⟨g14,0,none⟩) 8192 8192)),(5,.int .i64 (↑b)),(6,v5),(10,.int .i64 (↑i5))],(ix m.Blocks b).Ins.length - i5⟩) (0,l3,v3) ⟨by dsimp only; omega,by dsimp only; rw [hl3,List.take_of_length_le (by omega)]; simp⟩ (dc d1 dn) (kd (kc k0 kn)) ⟨Z,Z,Z,Z,Z,eqI (by omega),trivial⟩ ?_
 rintro ⟨i5,l5,v5⟩; dsimp only [u3]; rintro ⟨hi5,hl5⟩
 refine cgo k0 fun w14 => ?_
 have hl5l : l5.length ≤ 9500000 := by have := phiB_len hr hbb (ix m.Blocks b).Phis.length; rw [List.take_length] at this; have := insB_len hr hbb i5; rw [hl5]; simp only [List.length_append]; omega
 refine jq (jq (jr (jm Z (js (jf F28_1 Z) (js (jl k2 O26 Z Z) (jm Z (js (jix U26 Z37 (rMFunc.cB d0) Z Z Z (by omega)) (js (jf F37_1 Z) (jev (jlV (rMBlock.A_Ins (dix (rMFunc.cB d0) b (by omega))) O33 Z Z) fun v85 q15 w15 => js (jln U33 d0 Z) (js (jlss Z Z) ?_))))))))))
 refine jn (jx ?_)
 refine jif Z (fun hc5 => ?_) (fun hc5 => ?_)
 refine jsk (jx (jq (jb (jany false (.a 0 (.a 1 (.a 2 (.a 3 (.a 4 (.a 5 (.a 6 (.a 7 (.a 8 (.a 9 (.a 12 (.a 13 (.a 14 (.a 15 (.a 16 (.a 17 (.a 18 (.a 19 (.a 20 (.o 10 (.o 11 (.o 21 (.o 22 (.a 23 .e)))))))))))))))))))))))) Mixed (by kernel_rfl) (kc k2 kn) fun F17 => jy Z (jmv Z) (jy Z (jf F28_1 Z) (jy Z (jl k0 O26 Z Z) (jy Z (jmv Z) (jy Z (jix U26 Z37 (rMFunc.cB d1) Z Z Z (by omega)) (jy Z (jf F37_1 Z) (jye (q := fun v => dv (rL rMach) v ((ix m.Blocks b).Ins)) Z (xlV (rMBlock.A_Ins (dix (rMFunc.cB d1) b (by omega))) O33 Z Z) fun v96 => ?_))))))))))
 refine jy Z (jmv Z) (adq d0 fun q19 w19 => jy Z (jix U33 Z69 d0 Z Z Z (by omega)) (jyA sMach Z (xlA (dix d0 i5 (by omega)) A69 Z69 Z) fun c99 => jy Z (jf F28_1 Z) (jy Z (jl k0 O26 Z Z) (jy Z (jmv Z) (jy Z (jix U26 Z37 (rMFunc.cB d3) Z Z Z (by omega)) (jy Z (jf F37_1 Z) (jye (q := fun v => dv (rL rMach) v ((ix m.Blocks b).Ins)) Z (xlV (rMBlock.A_Ins (dix (rMFunc.cB d3) b (by omega))) O33 Z Z) fun v107 => jy Z (jmv Z) (adq d0 fun q22 w22 => ?_))))))))
 refine jy Z (jix U33 Z69 d0 Z Z Z (by omega)) (jyA sMach Z (xlA (dix d0 i5 (by omega)) A69 Z69 Z) fun c110 => jyo Z (jcd E44 Z Z rTakes_ct (dc d3 dn) kn fun v100 q25 w25 => jyn d1 (kc k2 kn) (jyo Z (japl U22 I3 (by decide) Z k0 Z Z d1 (by (try simp) <;> omega) fun v101 w28 => jyn d0 (kc k2 kn) (jyo Z (jcd E45 Z Z rMakes_ct (dc d4 dn) kn fun v111 q30 w30 => jyn d1 (kc k2 kn) (jyo Z ?_)))))))
 refine japl U22 I3 (by decide) Z k0 Z Z d1 (by (try simp) <;> omega) fun v112 w33 => jyn d0 (kc k2 kn) (jy Z (jas Z) (jyd (jbn (jx (jr (jm Z (js (jadd Z Z (by omega)) (ja Z (jn ?_)))))))))
 exact jag (i5 + 1,(l5 ++ (takesM (ix ((ix m.Blocks b).Ins) i5))) ++ (makesM (ix ((ix m.Blocks b).Ins) i5)),v112) ⟨by dsimp only; omega,by dsimp only; rw [hl5,flat_next (by omega)]; simp only [insB,List.append_assoc]⟩ (dc d11 dn) (kd (kc k0 kn)) ⟨Z,Z,Z,Z,Z,eqI (by omega),trivial⟩
 refine jex (jtx (jtx (jbh (jx (jq (jr (ja Z (jn (jx (jb ?_))))))))))
 have hl59 : l5 = regB (ix m.Blocks b) := by rw [hl5,List.take_of_length_le (by omega)]; rfl
 have hrg : ∀ r ∈ l5,Rg r := by rw [hl59]; exact regB_rg hr hbb
 refine jlp (u2 fun (j6 : Nat) (m6 : List Bool) => ⟨j6 ≤ l5.length ∧ MK ((parB m ++ (m.Blocks.take b).flatMap regB) ++ l5.take j6) m6,[da rMFunc (vMFunc m a0) m],[gl X.n (rI .i64) 3 v5 l5,gl X.n rB 4 (.slice (some ⟨g14,0,none⟩) 8192 8192) m6,bx g1 28 [.int .i64 m.Params,a0]],[(1,.pointer (some ⟨g1,0,none⟩)),(2,.slice none 0 0),(3,(.slice (some ⟨g14,0,none⟩) 8192 8192)),(5,.int .i64 (↑b)),(6,v5),(11,.int .i64 (↑j6))],l5.length - j6⟩) (0,m2) ⟨by dsimp only; omega,by dsimp only; exact hm2.of (by simp)⟩ (dc d1 dn) (kd (kc k0 kn)) ⟨Z,Z,Z,Z,Z,eqI (by omega),trivial⟩ ?_
 rintro ⟨j6,m6⟩; dsimp only [u2]; rintro ⟨hj6,hm6⟩
 have hl6 := hm6.n
 refine jq (jq (jr (jm Z (jm Z (js (jlg U22 k0 Z) (js (jlss Z Z) (jn (jx ?_))))))))
 refine jif Z (fun hc6 => ?_) (fun hc6 => ?_)
 have hrj : Rg (ix l5 j6) := hrg _ (ix_mem (by omega))
 have hrj2 : 0 ≤ ix l5 j6 ∧ ix l5 j6 < 8192 := hrj
 refine jsk (jx (jq (jb (jr (jm Z (jm Z (jm Z (js (jig U22 Z3 k0 Z Z Z (by omega)) (js (jgI k0 (by omega) O3 Z) (js (jig (i := (Int.toNat (ix l5 j6))) U93 Z4 k1 Z Z (by omega) (by omega)) (jsg k1 Z Z4 Z Z Z (by omega) wB ?_)))))))))))
 refine jn (jbn (jx (jr (jm Z (js (jadd Z Z (by omega)) (ja Z (jn ?_)))))))
 exact jag (j6 + 1,List.set m6 (Int.toNat (ix l5 j6)) true) ⟨by dsimp only; omega,by dsimp only; exact (hm6.set hrj).of (by rw [take_ix (by omega),List.append_assoc])⟩ (dc d0 dn) (kc k1 (kd kn)) ⟨Z,Z,Z,Z,Z,eqI (by omega),trivial⟩
 refine jex (jtx (jtx (jbh (jbn (jx (jr (jm Z (js (jadd Z Z (by omega)) (ja Z (jn ?_))))))))))
 exact jag (b + 1,m6) ⟨by dsimp only; omega,by dsimp only; exact hm6.of (by rw [flat_next hbb,List.take_of_length_le (l := l5) (by omega),hl59,List.append_assoc])⟩ (dc d0 dn) (kc k1 (kc k1 kn)) ⟨Z,Z,Z,eqI (by omega),trivial⟩
 refine jex (jtx (jtx (jbh (jx (jq (jr (jlit (r := (rI .i64)) (l := []) U22 I3 (by decide) Z Z Z ln fun g125 => ja Z (jn (jx (jq ?_))))))))))
 refine jq (jr (ja Z (jn (jx (jb ?_)))))
 have hm29 : MK (regA m) m2 := hm2.of (by rw [List.take_of_length_le (by omega)]; rfl)
 refine jlp (u3 fun (k7 : Nat) (rs : List Int) (vr : Value) => ⟨k7 ≤ 8192 ∧ rs = ((List.range k7).filter (fun k : Nat => decide ((k : Int) ∈ regA m))).map (fun k : Nat => (k : Int)),[],[gl X.n (rI .i64) 3 vr rs,gl X.n rB 4 (.slice (some ⟨g14,0,none⟩) 8192 8192) m2],[(2,.slice none 0 0),(3,(.slice (some ⟨g14,0,none⟩) 8192 8192)),(12,vr),(13,.int .i64 (↑k7))],8192 - k7⟩) (0,[],(.slice (some ⟨g125,0,none⟩) 0 0)) ⟨by dsimp only; omega,rfl⟩ dn (kd kn) ⟨Z,Z,Z,eqI (by omega),trivial⟩ ?_
 rintro ⟨k7,rs,vr⟩; dsimp only [u3]; rintro ⟨hk7,hrs⟩
 refine cgo k0 fun w34 => ?_
 have hrl : rs.length ≤ 8192 := by rw [hrs,List.length_map]; exact Nat.le_trans (List.length_filter_le _ _) (by rw [List.length_range]; exact hk7)
 refine jq (jq (jr (jm Z (jm Z (js (jlg U93 k1 Z) (js (jlss Z Z) (jn (jx ?_))))))))
 refine jif Z (fun hc7 => ?_) (fun hc7 => ?_)
 refine jsk (jx (jq (jb (jq (jr (jm Z (jm Z (js (jig U93 Z4 k1 Z Z Z (by omega)) (js (jgB k1 (by omega) O4 Z) (jn (jx ?_)))))))))))
 refine jif Z (fun hc8 => ?_) (fun hc8 => ?_)
 refine jr (jm Z (jm Z (japv U22 I3 (by decide) Z Z k0 Z (wI (wp (IntWalk.i64_in _ (by omega)))) (by omega) (fun _ => Z) fun v139 _ w35 => ja Z (jn (jbn (jx (jr (jm Z (js (jadd Z Z (by omega)) (ja Z ?_))))))))))
 refine jn ?_
 exact jag (k7 + 1,rs ++ [((k7 : Nat) : Int)],v139) ⟨by dsimp only; omega,by dsimp only; rw [filt_next,← hrs]; rw [if_pos (by rw [← hm29.s k7 (by omega)]; exact hc8)]⟩ dn (kd kn) ⟨Z,Z,Z,eqI (by omega),trivial⟩
 refine jsk (jbn (jx (jr (jm Z (js (jadd Z Z (by omega)) (ja Z (jn ?_)))))))
 exact jag (k7 + 1,rs,vr) ⟨by dsimp only; omega,by dsimp only; rw [filt_next,← hrs]; rw [if_neg (by rw [← hm29.s k7 (by omega)]; simp [hc8]),List.append_nil]⟩ dn (kd kn) ⟨Z,Z,Z,eqI (by omega),trivial⟩
 refine jex (jtx (jtx (jbh (jx (jq (jr (jm Z (ja Z (jn (jx (jrt ?_)))))))))))
 refine qfz k0 (by omega) ?_
 exact jrD Z Z (by rw [regsM,hrs,show k7 = 8192 by omega]) d0
end Go.Proofs.YtehhjlkmbdhckaaGreat
namespace Go.Proofs.YtehhjlkmbdhckaaGreat
open Go.JE
theorem at_f {m : D.MFunc} {b p : Nat} {r : Int} : backB (ix m.Blocks b) p r (decide (r ∈ ix (loE m.Blocks) b)) = decide (r ∈ atE m.Blocks b p) := by
 rw [Bool.eq_iff_iff,decide_eq_true_eq]; unfold atE; exact sAt_back.symm
theorem at_all {m : D.MFunc} (hr : rightM m = true) {b p : Nat} (hb : b < m.Blocks.length) : (regsM m).filter (fun r => decide (r ∈ atE m.Blocks b p)) = atE m.Blocks b p :=
 regs_filter (at_ok (right_wl hr) hb).r (fun r h => ⟨(at_ok (right_wl hr) hb).g r h,at_regs (right_wl hr) hb h⟩) (fun _ => rfl)
theorem lo_all {m : D.MFunc} (hr : rightM m = true) {b : Nat} (hb : b < m.Blocks.length) : (regsM m).filter (fun r => decide (r ∈ ix (loE m.Blocks) b)) = ix (loE m.Blocks) b :=
 regs_filter (loE_ok (right_wl hr) hb).r (fun r h => ⟨(loE_ok (right_wl hr) hb).g r h,((loE_mem (right_wl hr) hb).1 h).regs (right_wl hr) hb⟩) (fun _ => rfl)
theorem filter_next {l : List Int} {f : Int → Bool} {k : Nat} (h : k < l.length) : (l.take (k + 1)).filter f = (l.take k).filter f ++ if f (ix l k) = true then [ix l k] else [] := by
 rw [take_ix h,List.filter_append]
 congr 1
 by_cases h9 : f (ix l k) = true
 · simp [h9]
 · simp [h9]
def bothM (m : D.MFunc) : D.Bo9 := ⟨setsI m,setsO m⟩
structure GR (m : D.MFunc) (b i : Nat) (f : Nat → Int → Bool) (rs : List (List Int)) : Prop where
 n : rs.length = m.Blocks.length
 s : ∀ j,j < m.Blocks.length → ix rs j = ((regsM m).take (if j < b then i + 1 else i)).filter (f j)
theorem GR.beg {m : D.MFunc} {f : Nat → Int → Bool} : GR m 0 0 f (List.replicate m.Blocks.length []) := ⟨by simp,fun j hj => by rw [ix_eq (by simpa using hj)]; simp⟩
theorem GR.blk {m : D.MFunc} {b i : Nat} {f : Nat → Int → Bool} {rs : List (List Int)} (h : GR m b i f rs) (hb : m.Blocks.length ≤ b) : GR m 0 (i + 1) f rs := ⟨h.n,fun j hj => by rw [h.s j hj,if_pos (by omega),if_neg (by omega)]⟩
theorem GR.yes {m : D.MFunc} {b i : Nat} {f : Nat → Int → Bool} {rs : List (List Int)} (h : GR m b i f rs) (hb : b < m.Blocks.length) (hi : i < (regsM m).length) (hf : f b (ix (regsM m) i) = true) : GR m (b + 1) i f (rs.set b (rs.getD b [] ++ [ix (regsM m) i])) := by
 refine ⟨by rw [List.length_set]; exact h.n,fun j hj => ?_⟩
 rw [ix_set (by rw [h.n]; exact hb)]
 split
 · rename_i e; subst e
   rw [if_pos (by omega),filter_next hi,if_pos hf]
   congr 1
   have := h.s j hj
   rw [if_neg (by omega)] at this
   rw [← this]; rfl
 · rename_i e
   rw [h.s j hj]
   by_cases h9 : j < b
   · rw [if_pos h9,if_pos (by omega)]
   · rw [if_neg h9,if_neg (by omega)]
theorem GR.no {m : D.MFunc} {b i : Nat} {f : Nat → Int → Bool} {rs : List (List Int)} (h : GR m b i f rs) (hi : i < (regsM m).length) (hf : f b (ix (regsM m) i) = false) : GR m (b + 1) i f rs := ⟨h.n,fun j hj => by
 rw [h.s j hj]
 by_cases h9 : j < b
 · rw [if_pos h9,if_pos (by omega)]
 · rw [if_neg h9]
   split
   · have e : j = b := by omega
     subst e
     rw [filter_next hi,hf]; simp
   · rfl⟩
theorem GR.len {m : D.MFunc} {b i : Nat} {f : Nat → Int → Bool} {rs : List (List Int)} (h : GR m b i f rs) : ∀ l ∈ rs,l.length < 1073741824 := mem_ix fun k hk => by
 rw [h.s k (by rw [← h.n]; exact hk)]
 have h1 := List.length_filter_le (f k) ((regsM m).take (if k < b then i + 1 else i))
 have h2 := regs_len (m := m)
 rw [List.length_take] at h1; omega
theorem GR.in_eq {m : D.MFunc} {i : Nat} {rs : List (List Int)} (hr : rightM m = true) (h : GR m 0 i (fun j r => decide (r ∈ atE m.Blocks j 0)) rs) (hi : (regsM m).length ≤ i) : rs = setsI m := by
 unfold setsI; rw [if_pos hr]
 refine List.ext_getElem (by rw [h.n]; simp) fun j h1 h2 => ?_
 have hj : j < m.Blocks.length := by rw [← h.n]; exact h1
 have h3 := h.s j hj
 rw [if_neg (by omega),List.take_of_length_le hi,at_all hr hj,ix_eq h1] at h3
 rw [h3]; simp
theorem GR.out_eq {m : D.MFunc} {i : Nat} {rs : List (List Int)} (hr : rightM m = true) (h : GR m 0 i (fun j r => decide (r ∈ ix (loE m.Blocks) j)) rs) (hi : (regsM m).length ≤ i) : rs = setsO m := by
 unfold setsO; rw [if_pos hr]
 refine List.ext_getElem (by rw [h.n,loE_len (right_wl hr)]) fun j h1 h2 => ?_
 have hj : j < m.Blocks.length := by rw [← h.n]; exact h1
 have h3 := h.s j hj
 rw [if_neg (by omega),List.take_of_length_le hi,lo_all hr hj,ix_eq h1,ix_eq h2] at h3
 exact h3
theorem E20 : Ent Tryz.prog 20 := ⟨_,Tryz.func20,by kernel_rfl,by kernel_rfl⟩
theorem E41 : Ent Tryz.prog 41 := ⟨_,Tryz.func41,by kernel_rfl,by kernel_rfl⟩
set_option maxRecDepth 4000
end Go.Proofs.YtehhjlkmbdhckaaGreat
namespace Go.Proofs.YtehhjlkmbdhckaaGreat
open Go.JE
set_option maxRecDepth 4000
end Go.Proofs.YtehhjlkmbdhckaaGreat
namespace Go.Proofs.YtehhjlkmbdhckaaGreat
open Go.JE
theorem A56 : ∃ d,Tryz.prog.underlying 56 = some d ∧ (match d with | .struct _ | .array _ _ => true | _ => false) = true := ⟨_,Tryz.underlying56,rfl⟩
theorem F56_0 : Fld Tryz.prog 56 0 0 := ⟨_,_,Tryz.underlying56,rfl,rfl,1,(by unfold Sz; kernel_rfl),by decide⟩
theorem F56_1 : Fld Tryz.prog 56 1 1 := ⟨_,_,Tryz.underlying56,rfl,rfl,1,(by unfold Sz; kernel_rfl),by decide⟩
theorem O52 : One Tryz.prog 52 := ⟨_,Tryz.underlying52,rfl⟩
theorem Z56 : Sz Tryz.prog 56 2 := by unfold Sz; kernel_rfl
theorem J56 : (Tryz.prog.info? 56).bind (·.zero) = some (.agg #[.slice none 0 0,.slice none 0 0]) := by kernel_rfl
set_option maxRecDepth 4000
theorem GR.one {m : D.MFunc} {b i c : Nat} {f : Nat → Int → Bool} {rs : List (List Int)} (h : GR m b i f rs) (hc : c < m.Blocks.length) : (rs.getD c []).length ≤ 8192 := by
 have h3 := h.s c hc
 have h1 := List.length_filter_le (f c) ((regsM m).take (if c < b then i + 1 else i))
 have h2 := regs_len (m := m)
 rw [List.length_take] at h1
 have h4 : (ix rs c).length ≤ 8192 := by rw [h3]; omega
 exact h4
theorem both_wrong {m : D.MFunc} (h : ¬ rightM m = true) : bothM m = ⟨[],[]⟩ := by unfold bothM setsI setsO; rw [if_neg h,if_neg h]
set_option maxHeartbeats 4000000 in
theorem rSets_ct {a0 : Value} {m : D.MFunc} : Ts Tryz.prog 26 #[vMFunc m a0] [da rMFunc (vMFunc m a0) m] [] rBo9 vBo9 (bothM m) := by
 refine jenter (args := [vMFunc m a0]) Tryz.func26 rfl rfl rfl fun w0 X => ?_
 refine jq (jr (jbox Z Z fun g1 => jalc J56 Z fun g2 => jn (jx (jq (jq (jr (js (jla k1 A28 Z28 Z Z Z) (jcv E51 Z Z rRight_ct (dc d0 dn) kn (js (jnot Z) ?_)))))))))
 refine jn (jx ?_)
 refine jif Z (fun hc1 => ?_) (fun hc1 => ?_)
 refine jq (jr (js (jbu (v := .agg #[.slice none 0 0,.slice none 0 0]) Z (fun _ => by kernel_rfl)) (jsta k0 Z56 Z Z Z ⟨Z,Z,trivial⟩ (saf Z) (jn (jx (jrt (jtr ?_)))))))
 exact jrcA (val := vBo9) (b := ⟨[],[]⟩) (c := (.slice none 0 0,.slice none 0 0)) Z Z k0 A56 Z56 Z (by first | (rw [both_wrong (by simpa using hc1)]; done) | rfl) (rBo9.M (m := ⟨[],[]⟩) (c := (.slice none 0 0,.slice none 0 0)) wN wN)
 have hrt : rightM m = true := by simpa using hc1
 have hq := right_ins hrt
 have hn0 := (right_wf hrt).n0
 refine jsk (jx (jq ?_))
 refine jjo (u3 fun (gI : Nat) (gO : Nat) (gB : Nat) => ⟨0 ≤ gI,[da rMFunc (vMFunc m a0) m],[rw' X.n (rI .i64) 3 (List.replicate m.Blocks.length (.slice none 0 0)) (List.replicate m.Blocks.length []),rw' X.n (rI .i64) 3 (List.replicate m.Blocks.length (.slice none 0 0)) (List.replicate m.Blocks.length []),bx gB 56 [(.slice (some ⟨gI,0,none⟩) m.Blocks.length m.Blocks.length),(.slice (some ⟨gO,0,none⟩) m.Blocks.length m.Blocks.length)],gl X.n rV 22 (.slice (some ⟨gO,0,none⟩) m.Blocks.length m.Blocks.length) (List.replicate m.Blocks.length (.slice none 0 0)),gl X.n rV 22 (.slice (some ⟨gI,0,none⟩) m.Blocks.length m.Blocks.length) (List.replicate m.Blocks.length (.slice none 0 0)),bx g2 56 [.slice none 0 0,.slice none 0 0],bx g1 28 [.int .i64 m.Params,a0]],[(1,.pointer (some ⟨g1,0,none⟩)),(2,.pointer (some ⟨g2,0,none⟩)),(3,.pointer (some ⟨gB,0,none⟩))]⟩) ?_ ?_
 refine jany false (.a 0 (.a 1 (.a 2 (.a 4 (.a 5 (.a 6 (.w3 3 7 9 (.w 7 9 (.a 8 (.o 9 (.o 10 .e))) (.o 7 (.a 8 (.o 10 .e)))) (.w 3 9 (.a 8 (.o 9 (.o 10 .e))) (.o 3 (.a 8 (.o 10 .e)))) (.w 3 7 (.o 7 (.a 8 (.o 10 .e))) (.o 3 (.a 8 (.o 10 .e))))))))))) Mixed (by kernel_rfl) (kc k1 kn) fun F2 => jy Z (jf F28_1 Z) (jy Z (jl k0 O26 Z Z) (adq (rMFunc.cB d0) fun q3 w3 => jy Z (jln U26 (rMFunc.cB d0) Z) (jy Z (jf F28_1 Z) (jy Z (jl k0 O26 Z Z) (jy Z (jln U26 (rMFunc.cB d0) Z) ?_)))))
 refine jyw3 Z Z Z ?_ ?_ ?_
 refine jmk (m := (List.length m.Blocks)) (r := rV) U52 I22 Z Z Z Z Z (by omega) (wV Z) Z fun g15 => jrn (r := (rI .i64)) (T := 3) (List.length m.Blocks) (jyn d0 (kc k3 kn) ?_)
 refine jyw Z Z ?_ ?_
 refine jmk (m := (List.length m.Blocks)) (r := rV) U52 I22 Z Z Z Z Z (by omega) (wV Z) Z fun g19 => jrn (r := (rI .i64)) (T := 3) (List.length m.Blocks) (jyn d0 (kc k5 kn) (jy Z (jbu (v := .agg #[(.slice (some ⟨g15,0,none⟩) (List.length m.Blocks) (List.length m.Blocks)),(.slice (some ⟨g19,0,none⟩) (List.length m.Blocks) (List.length m.Blocks))]) Z (fun _ => by kernel_rfl)) (jyo Z (jalc J56 Z fun g3 => jyn d0 (kc k6 kn) (jyo Z (jsta k0 Z56 Z Z Z ⟨Z,Z,trivial⟩ (saf Z) (jyn d0 (kc k6 kn) (jyd ?_))))))))
 exact jje (g15,g19,g3) (Nat.zero_le _) (dc d4 dn) (kc k1 (kc k2 (kd (kd (kc k0 kn))))) ⟨Z,Z,Z,trivial⟩
 refine jalc J56 Z fun g3 => jyn d0 (kc k4 kn) (jyo Z (jmk (m := (List.length m.Blocks)) (r := rV) U52 I22 Z Z Z Z Z (by omega) (wV Z) Z fun g19 => jrn (r := (rI .i64)) (T := 3) (List.length m.Blocks) (jyn d0 (kc k6 kn) (jy Z (jbu (v := .agg #[(.slice (some ⟨g15,0,none⟩) (List.length m.Blocks) (List.length m.Blocks)),(.slice (some ⟨g19,0,none⟩) (List.length m.Blocks) (List.length m.Blocks))]) Z (fun _ => by kernel_rfl)) (jyo Z (jsta k2 Z56 Z Z Z ⟨Z,Z,trivial⟩ (saf Z) (jyn d0 (kc k6 kn) (jyd ?_))))))))
 exact jje (g15,g19,g3) (Nat.zero_le _) (dc d4 dn) (kc k1 (kc k2 (kd (kd (kc k0 kn))))) ⟨Z,Z,Z,trivial⟩
 refine jmk (m := (List.length m.Blocks)) (r := rV) U52 I22 Z Z Z Z Z (by omega) (wV Z) Z fun g19 => jrn (r := (rI .i64)) (T := 3) (List.length m.Blocks) (jyn d0 (kc k3 kn) ?_)
 refine jyw Z Z ?_ ?_
 refine jmk (m := (List.length m.Blocks)) (r := rV) U52 I22 Z Z Z Z Z (by omega) (wV Z) Z fun g15 => jrn (r := (rI .i64)) (T := 3) (List.length m.Blocks) (jyn d0 (kc k5 kn) (jy Z (jbu (v := .agg #[(.slice (some ⟨g15,0,none⟩) (List.length m.Blocks) (List.length m.Blocks)),(.slice (some ⟨g19,0,none⟩) (List.length m.Blocks) (List.length m.Blocks))]) Z (fun _ => by kernel_rfl)) (jyo Z (jalc J56 Z fun g3 => jyn d0 (kc k6 kn) (jyo Z (jsta k0 Z56 Z Z Z ⟨Z,Z,trivial⟩ (saf Z) (jyn d0 (kc k6 kn) (jyd ?_))))))))
 exact jje (g15,g19,g3) (Nat.zero_le _) (dc d4 dn) (kc k3 (kc k1 (kc k0 (kc k1 (kd (kc k0 kn)))))) ⟨Z,Z,Z,trivial⟩
 refine jalc J56 Z fun g3 => jyn d0 (kc k4 kn) (jyo Z (jmk (m := (List.length m.Blocks)) (r := rV) U52 I22 Z Z Z Z Z (by omega) (wV Z) Z fun g15 => jrn (r := (rI .i64)) (T := 3) (List.length m.Blocks) (jyn d0 (kc k6 kn) (jy Z (jbu (v := .agg #[(.slice (some ⟨g15,0,none⟩) (List.length m.Blocks) (List.length m.Blocks)),(.slice (some ⟨g19,0,none⟩) (List.length m.Blocks) (List.length m.Blocks))]) Z (fun _ => by kernel_rfl)) (jyo Z (jsta k2 Z56 Z Z Z ⟨Z,Z,trivial⟩ (saf Z) (jyn d0 (kc k6 kn) (jyd ?_))))))))
 exact jje (g15,g19,g3) (Nat.zero_le _) (dc d4 dn) (kc k3 (kc k1 (kc k0 (kc k1 (kd (kc k0 kn)))))) ⟨Z,Z,Z,trivial⟩
 refine jalc J56 Z fun g3 => jyn d0 (kc k2 kn) ?_
 refine jyw Z Z ?_ ?_
 refine jmk (m := (List.length m.Blocks)) (r := rV) U52 I22 Z Z Z Z Z (by omega) (wV Z) Z fun g15 => jrn (r := (rI .i64)) (T := 3) (List.length m.Blocks) (jyn d0 (kc k4 kn) (jyo Z (jmk (m := (List.length m.Blocks)) (r := rV) U52 I22 Z Z Z Z Z (by omega) (wV Z) Z fun g19 => jrn (r := (rI .i64)) (T := 3) (List.length m.Blocks) (jyn d0 (kc k6 kn) (jy Z (jbu (v := .agg #[(.slice (some ⟨g15,0,none⟩) (List.length m.Blocks) (List.length m.Blocks)),(.slice (some ⟨g19,0,none⟩) (List.length m.Blocks) (List.length m.Blocks))]) Z (fun _ => by kernel_rfl)) (jyo Z (jsta k4 Z56 Z Z Z ⟨Z,Z,trivial⟩ (saf Z) (jyn d0 (kc k6 kn) (jyd ?_)))))))))
 exact jje (g15,g19,g3) (Nat.zero_le _) (dc d4 dn) (kc k1 (kc k2 (kd (kd (kc k0 kn))))) ⟨Z,Z,Z,trivial⟩
 refine jmk (m := (List.length m.Blocks)) (r := rV) U52 I22 Z Z Z Z Z (by omega) (wV Z) Z fun g19 => jrn (r := (rI .i64)) (T := 3) (List.length m.Blocks) (jyn d0 (kc k4 kn) (jyo Z (jmk (m := (List.length m.Blocks)) (r := rV) U52 I22 Z Z Z Z Z (by omega) (wV Z) Z fun g15 => jrn (r := (rI .i64)) (T := 3) (List.length m.Blocks) (jyn d0 (kc k6 kn) (jy Z (jbu (v := .agg #[(.slice (some ⟨g15,0,none⟩) (List.length m.Blocks) (List.length m.Blocks)),(.slice (some ⟨g19,0,none⟩) (List.length m.Blocks) (List.length m.Blocks))]) Z (fun _ => by kernel_rfl)) (jyo Z (jsta k4 Z56 Z Z Z ⟨Z,Z,trivial⟩ (saf Z) (jyn d0 (kc k6 kn) (jyd ?_)))))))))
 exact jje (g15,g19,g3) (Nat.zero_le _) (dc d4 dn) (kc k3 (kc k1 (kc k0 (kc k1 (kd (kc k0 kn)))))) ⟨Z,Z,Z,trivial⟩
 rintro ⟨gI,gO,gB⟩; dsimp only [u3]; rintro hg9
 refine qgo k4 fun w8 => qgo k3 fun w9 => jx (jq (jr (js (jla k6 A28 Z28 Z Z Z) (jcd E20 Z Z (regs_ct hrt) (dc d0 dn) kn fun v22 q10 w10 => ja Z (jn (jx (jq (jq ?_))))))))
 refine jr (ja Z (jn (jx (jb ?_))))
 refine jlp (u5 fun (i : Nat) (VI : List Value) (RI : List (List Int)) (VO : List Value) (RO : List (List Int)) => ⟨i ≤ (regsM m).length ∧ GR m 0 i (fun j r => decide (r ∈ atE m.Blocks j 0)) RI ∧ GR m 0 i (fun j r => decide (r ∈ ix (loE m.Blocks) j)) RO ∧ VI.length = m.Blocks.length ∧ VO.length = m.Blocks.length,[dv (rL (rI .i64)) v22 (regsM m),da rMFunc (vMFunc m a0) m],[rw' X.n (rI .i64) 3 VO RO,rw' X.n (rI .i64) 3 VI RI,bx gB 56 [(.slice (some ⟨gI,0,none⟩) m.Blocks.length m.Blocks.length),(.slice (some ⟨gO,0,none⟩) m.Blocks.length m.Blocks.length)],gl X.n rV 22 (.slice (some ⟨gO,0,none⟩) m.Blocks.length m.Blocks.length) VO,gl X.n rV 22 (.slice (some ⟨gI,0,none⟩) m.Blocks.length m.Blocks.length) VI,bx g2 56 [.slice none 0 0,.slice none 0 0],bx g1 28 [.int .i64 m.Params,a0]],[(1,.pointer (some ⟨g1,0,none⟩)),(2,.pointer (some ⟨g2,0,none⟩)),(3,.pointer (some ⟨gB,0,none⟩)),(4,v22),(5,.int .i64 (↑i))],(regsM m).length - i⟩) (0,List.replicate m.Blocks.length (.slice none 0 0),List.replicate m.Blocks.length [],List.replicate m.Blocks.length (.slice none 0 0),List.replicate m.Blocks.length []) ⟨by dsimp only; omega,GR.beg,GR.beg,by simp,by simp⟩ (dc d0 (dc d1 dn)) (kd (kd (kd (kc k0 kn)))) ⟨Z,Z,Z,Z,eqI (by omega),trivial⟩ ?_
 rintro ⟨i,VI,RI,VO,RO⟩; dsimp only [u5]; rintro ⟨hi,hGI,hGO,hvI,hvO⟩
 refine jq (jq (jr (jm Z (jm Z (js (jln U22 d0 Z) (js (jlss Z Z) (jn (jx ?_))))))))
 refine jif Z (fun hc2 => ?_) (fun hc2 => ?_)
 have hol := outs_len (m := m) (r := ix (regsM m) i)
 refine jsk (jx (jq (jb (jq (jtl 5 Mixed (by kernel_rfl) (jt (jla k6 A28 Z28 Z Z Z) (jt (jmv Z) (jt (jmv Z) (jt (jix U22 Z3 d0 Z Z Z (by omega)) (jt (jlI (dix d0 i (by omega)) O3 Z) (jtt ?_)))))))))))
 refine jcd E41 Z Z (outs_ct (ix (regsM m) i) hrt) (dc d1 dn) kn fun v34 q12 w12 => ja Z (jn (jx (jq (jr (ja Z (jn (jx (jb ?_))))))))
 have hii : i < (regsM m).length := by omega
 refine jlp (u5 fun (b : Nat) (UI : List Value) (QI : List (List Int)) (UO : List Value) (QO : List (List Int)) => ⟨b ≤ m.Blocks.length ∧ GR m b i (fun j r => decide (r ∈ atE m.Blocks j 0)) QI ∧ GR m b i (fun j r => decide (r ∈ ix (loE m.Blocks) j)) QO ∧ UI.length = m.Blocks.length ∧ UO.length = m.Blocks.length,[dv (rL rB) v34 (outsM m (ix (regsM m) i)),dv (rL (rI .i64)) v22 (regsM m),da rMFunc (vMFunc m a0) m],[rw' X.n (rI .i64) 3 UO QO,rw' X.n (rI .i64) 3 UI QI,bx gB 56 [(.slice (some ⟨gI,0,none⟩) m.Blocks.length m.Blocks.length),(.slice (some ⟨gO,0,none⟩) m.Blocks.length m.Blocks.length)],gl X.n rV 22 (.slice (some ⟨gO,0,none⟩) m.Blocks.length m.Blocks.length) UO,gl X.n rV 22 (.slice (some ⟨gI,0,none⟩) m.Blocks.length m.Blocks.length) UI,bx g2 56 [.slice none 0 0,.slice none 0 0],bx g1 28 [.int .i64 m.Params,a0]],[(1,.pointer (some ⟨g1,0,none⟩)),(2,.pointer (some ⟨g2,0,none⟩)),(3,.pointer (some ⟨gB,0,none⟩)),(4,v22),(5,.int .i64 (↑i)),(6,v34),(7,.int .i64 (↑b))],m.Blocks.length - b⟩) (0,VI,RI,VO,RO) ⟨by dsimp only; omega,hGI,hGO,hvI,hvO⟩ (dc d0 (dc d1 (dc d2 dn))) (kd (kd (kd (kc k0 kn)))) ⟨Z,Z,Z,Z,Z,Z,eqI (by omega),trivial⟩ ?_
 rintro ⟨b,UI,QI,UO,QO⟩; dsimp only [u5]; rintro ⟨hb,hHI,hHO,hUI,hUO⟩
 have hnI := hHI.n
 have hnO := hHO.n
 refine jq (jq (jr (jm Z (js (jf F28_1 Z) (js (jl k6 O26 Z Z) (jdq (rMFunc.cB d2) fun q14 w14 => js (jln U26 (rMFunc.cB d2) Z) (js (jlss Z Z) (jn (jx ?_)))))))))
 refine jif Z (fun hc3 => ?_) (fun hc3 => ?_)
 have hbb : b < m.Blocks.length := by omega
 have hoI := hHI.one hbb
 have hoO := hHO.one hbb
 have hoI2 : (QI[b]?.getD []).length ≤ 8192 := by simpa using hoI
 have hoO2 : (QO[b]?.getD []).length ≤ 8192 := by simpa using hoO
 refine jsk (jx (jq (jb (jq (jq (jr (jm Z (jm Z (js (jix U93 Z4 d0 Z Z Z (by omega)) (js (jlB (dix d0 b (by omega)) O4 Z) (jn ?_)))))))))))
 refine jx ?_
 refine jif Z (fun hc4 => ?_) (fun hc4 => ?_)
 have hfO : (fun j r => decide (r ∈ ix (loE m.Blocks) j)) b (ix (regsM m) i) = true := by show decide _ = _; rw [← outs_ix hbb]; exact hc4
 refine jany false (.a 0 (.a 1 (.a 2 (.a 3 (.a 4 (.a 5 (.a 8 (.a 9 (.a 10 (.a 11 (.w 6 12 (.w 7 12 (.o 12 (.o 13 (.o 14 (.o 15 .e)))) (.o 7 (.o 13 (.o 14 (.o 15 .e))))) (.o 6 (.o 7 (.o 13 (.o 14 (.o 15 .e)))))))))))))))) Mixed (by kernel_rfl) (kc k2 kn) fun F15 => jy Z (jf F56_1 Z) (jy Z (jl k0 O52 Z Z) (jy Z (jmv Z) (jy Z (jf F56_1 Z) (jy Z (jl k0 O52 Z Z) (jy Z (jmv Z) (jy Z (jmv Z) (jy Z (jmv Z) (jy Z (jix U22 Z3 d1 Z Z Z (by omega)) (jy Z (jlI (dix d1 i (by omega)) O3 Z) ?_)))))))))
 refine jyw Z Z ?_ ?_
 refine js (jig U52 Z22 k3 Z Z Z (by omega)) (jyn d0 (kc k2 kn) ?_)
 refine jyw Z Z ?_ ?_
 refine js (jgW k3 (by omega) O22 Z) (jyn d0 (kc k2 kn) (jyo Z (jlit (r := (rI .i64)) (l := [ix (regsM m) i]) U22 I3 (by decide) Z Z Z (lV Z Z (wI (wad (dix d4 i (by omega)))) ln) fun g58 => jyn d0 (kc k3 kn) (jyo Z (jfz k0 (by (try simp) <;> omega) (jro b k0 (by omega) (by omega) (jgo k0 fun w22 => japl U22 I3 (by decide) Z k0 Z Z d0 (by (try simp) <;> omega) fun v59 w23 => jyn d1 (kc k3 kn) (jyo Z ?_))))))))
 refine js (jig U52 Z22 k4 Z Z Z (by omega)) (jyn d0 (kc k3 kn) (jyo Z (jsg k4 Z Z22 Z Z w23.one (by omega) (wV w23.one) (jru k1 k1 (by omega) (by omega) (jyn d0 (kc k3 kn) (jyd (jx (jq (jtl 13 Mixed (by kernel_rfl) (jt (jf F28_1 Z) (jt (jl k6 O26 Z Z) ?_)))))))))))
 refine jt (jmv Z) (jt (jix U26 Z37 (rMFunc.cB d9) Z Z Z (by omega)) (jtA3 sMBlock (jlA (dix (rMFunc.cB d9) b (by omega)) A37 Z37 Z) fun c65a c65b c65c => jt (jmv Z) (jt (jmv Z) (jt (jix U22 Z3 d9 Z Z Z (by omega)) (jt (jlI (dix d9 i (by omega)) O3 Z) (jt (jmv Z) (jt (jmv Z) (jt (jix U93 Z4 d8 Z Z Z (by omega)) (jt (jlB (dix d8 b (by omega)) O4 Z) (jtt ?_))))))))))
 refine jcv E42 Z Z (back_ct 0 (ix (regsM m) i) (ix (outsM m (ix (regsM m) i)) b) ⟨by omega,by omega⟩) (dc d0 dn) kn (jn (jx ?_))
 refine jif Z (fun hc5 => ?_) (fun hc5 => ?_)
 have hfI : (fun j r => decide (r ∈ atE m.Blocks j 0)) b (ix (regsM m) i) = true := by show decide _ = _; rw [← at_f,← outs_ix hbb]; exact hc5
 refine jany false (.a 0 (.a 1 (.a 2 (.a 3 (.a 4 (.a 5 (.a 8 (.a 9 (.a 10 (.a 11 (.w 6 12 (.w 7 12 (.o 12 (.o 13 (.o 14 (.o 15 .e)))) (.o 7 (.o 13 (.o 14 (.o 15 .e))))) (.o 6 (.o 7 (.o 13 (.o 14 (.o 15 .e)))))))))))))))) Mixed (by kernel_rfl) (kc k3 kn) fun F27 => jy Z (jf F56_0 Z) (jy Z (jl k0 O52 Z Z) (jy Z (jmv Z) (jy Z (jf F56_0 Z) (jy Z (jl k0 O52 Z Z) (jy Z (jmv Z) (jy Z (jmv Z) (jy Z (jmv Z) (jy Z (jix U22 Z3 d9 Z Z Z (by omega)) (jy Z (jlI (dix d9 i (by omega)) O3 Z) ?_)))))))))
 refine jyw Z Z ?_ ?_
 refine js (jig U52 Z22 k4 Z Z Z (by omega)) (jyn d0 (kc k3 kn) ?_)
 refine jyw Z Z ?_ ?_
 refine js (jgW k4 (by omega) O22 Z) (jyn d0 (kc k3 kn) (jyo Z (jlit (r := (rI .i64)) (l := [ix (regsM m) i]) U22 I3 (by decide) Z Z Z (lV Z Z (wI (wad (dix d12 i (by omega)))) ln) fun g87 => jyn d0 (kc k4 kn) (jyo Z (jfz k0 (by (try simp) <;> omega) (jro b k2 (by omega) (by omega) (jgo k0 fun w34 => japl U22 I3 (by decide) Z k0 Z Z d0 (by (try simp) <;> omega) fun v88 w35 => jyn d1 (kc k4 kn) (jyo Z ?_))))))))
 refine js (jig U52 Z22 k5 Z Z Z (by omega)) (jyn d0 (kc k4 kn) (jyo Z (jsg k5 Z Z22 Z Z w35.one (by omega) (wV w35.one) (jru k1 k1 (by omega) (by omega) (jyn d0 (kc k4 kn) (jyd (jbn (jx (jr (jm Z (js (jadd Z Z (by omega)) ?_)))))))))))
 refine ja Z (jn ?_)
 exact jag (b + 1,List.set UI b v88,List.set QI b ((List.getD QI b []) ++ ([ix (regsM m) i])),List.set UO b v59,List.set QO b ((List.getD QO b []) ++ ([ix (regsM m) i]))) ⟨by dsimp only; omega,hHI.yes hbb hii hfI,hHO.yes hbb hii hfO,by dsimp only; (try rw [List.length_set]); exact hUI,by dsimp only; (try rw [List.length_set]); exact hUO⟩ (dc d15 (dc d16 (dc d17 dn))) (kc k2 (kc k0 (kc k2 (kc k1 (kd (kc k0 kn)))))) ⟨Z,Z,Z,Z,Z,Z,eqI (by omega),trivial⟩
 refine jlit (r := (rI .i64)) (l := [ix (regsM m) i]) U22 I3 (by decide) Z Z Z (lV Z Z (wI (wad (dix d11 i (by omega)))) ln) fun g87 => jyn d0 (kc k4 kn) (jyo Z (js (jgW k5 (by omega) O22 Z) (jyn d0 (kc k4 kn) (jyo Z (jfz k0 (by (try simp) <;> omega) (jro b k2 (by omega) (by omega) (jgo k0 fun w34 => japl U22 I3 (by decide) Z k0 Z Z d0 (by (try simp) <;> omega) fun v88 w35 => jyn d1 (kc k4 kn) (jyo Z ?_))))))))
 refine js (jig U52 Z22 k5 Z Z Z (by omega)) (jyn d0 (kc k4 kn) (jyo Z (jsg k5 Z Z22 Z Z w35.one (by omega) (wV w35.one) (jru k1 k1 (by omega) (by omega) (jyn d0 (kc k4 kn) (jyd (jbn (jx (jr (jm Z (js (jadd Z Z (by omega)) ?_)))))))))))
 refine ja Z (jn ?_)
 exact jag (b + 1,List.set UI b v88,List.set QI b ((List.getD QI b []) ++ ([ix (regsM m) i])),List.set UO b v59,List.set QO b ((List.getD QO b []) ++ ([ix (regsM m) i]))) ⟨by dsimp only; omega,hHI.yes hbb hii hfI,hHO.yes hbb hii hfO,by dsimp only; (try rw [List.length_set]); exact hUI,by dsimp only; (try rw [List.length_set]); exact hUO⟩ (dc d15 (dc d16 (dc d17 dn))) (kc k2 (kc k0 (kc k2 (kc k1 (kd (kc k0 kn)))))) ⟨Z,Z,Z,Z,Z,Z,eqI (by omega),trivial⟩
 refine jlit (r := (rI .i64)) (l := [ix (regsM m) i]) U22 I3 (by decide) Z Z Z (lV Z Z (wI (wad (dix d10 i (by omega)))) ln) fun g87 => jyn d0 (kc k4 kn) (jyo Z (js (jig U52 Z22 k5 Z Z Z (by omega)) (jyn d0 (kc k4 kn) (jyo Z (js (jgW k5 (by omega) O22 Z) (jyn d0 (kc k4 kn) (jyo Z (jfz k0 (by (try simp) <;> omega) (jro b k2 (by omega) (by omega) (jgo k0 fun w34 => ?_))))))))))
 refine japl U22 I3 (by decide) Z k0 Z Z d0 (by (try simp) <;> omega) fun v88 w35 => jyn d1 (kc k4 kn) (jyo Z (js (jig U52 Z22 k5 Z Z Z (by omega)) (jyn d0 (kc k4 kn) (jyo Z (jsg k5 Z Z22 Z Z w35.one (by omega) (wV w35.one) (jru k1 k1 (by omega) (by omega) (jyn d0 (kc k4 kn) (jyd (jbn (jx ?_))))))))))
 refine jr (jm Z (js (jadd Z Z (by omega)) (ja Z (jn ?_))))
 exact jag (b + 1,List.set UI b v88,List.set QI b ((List.getD QI b []) ++ ([ix (regsM m) i])),List.set UO b v59,List.set QO b ((List.getD QO b []) ++ ([ix (regsM m) i]))) ⟨by dsimp only; omega,hHI.yes hbb hii hfI,hHO.yes hbb hii hfO,by dsimp only; (try rw [List.length_set]); exact hUI,by dsimp only; (try rw [List.length_set]); exact hUO⟩ (dc d15 (dc d16 (dc d17 dn))) (kc k2 (kc k0 (kc k2 (kc k1 (kd (kc k0 kn)))))) ⟨Z,Z,Z,Z,Z,Z,eqI (by omega),trivial⟩
 have hfI : (fun j r => decide (r ∈ atE m.Blocks j 0)) b (ix (regsM m) i) = false := by show decide _ = _; rw [← at_f,← outs_ix hbb]; simpa [backM] using hc5
 refine jsk (jbn (jx (jr (jm Z (js (jadd Z Z (by omega)) (ja Z (jn ?_)))))))
 exact jag (b + 1,UI,QI,List.set UO b v59,List.set QO b ((List.getD QO b []) ++ ([ix (regsM m) i]))) ⟨by dsimp only; omega,hHI.no hii hfI,hHO.yes hbb hii hfO,by dsimp only; (try rw [List.length_set]); exact hUI,by dsimp only; (try rw [List.length_set]); exact hUO⟩ (dc d8 (dc d9 (dc d10 dn))) (kc k0 (kc k1 (kc k1 (kd (kd kn))))) ⟨Z,Z,Z,Z,Z,Z,eqI (by omega),trivial⟩
 refine jlit (r := (rI .i64)) (l := [ix (regsM m) i]) U22 I3 (by decide) Z Z Z (lV Z Z (wI (wad (dix d3 i (by omega)))) ln) fun g58 => jyn d0 (kc k3 kn) (jyo Z (js (jgW k4 (by omega) O22 Z) (jyn d0 (kc k3 kn) (jyo Z (jfz k0 (by (try simp) <;> omega) (jro b k0 (by omega) (by omega) (jgo k0 fun w22 => japl U22 I3 (by decide) Z k0 Z Z d0 (by (try simp) <;> omega) fun v59 w23 => jyn d1 (kc k3 kn) (jyo Z ?_))))))))
 refine js (jig U52 Z22 k4 Z Z Z (by omega)) (jyn d0 (kc k3 kn) (jyo Z (jsg k4 Z Z22 Z Z w23.one (by omega) (wV w23.one) (jru k1 k1 (by omega) (by omega) (jyn d0 (kc k3 kn) (jyd (jx (jq (jtl 13 Mixed (by kernel_rfl) (jt (jf F28_1 Z) (jt (jl k6 O26 Z Z) ?_)))))))))))
 refine jt (jmv Z) (jt (jix U26 Z37 (rMFunc.cB d9) Z Z Z (by omega)) (jtA3 sMBlock (jlA (dix (rMFunc.cB d9) b (by omega)) A37 Z37 Z) fun c65a c65b c65c => jt (jmv Z) (jt (jmv Z) (jt (jix U22 Z3 d9 Z Z Z (by omega)) (jt (jlI (dix d9 i (by omega)) O3 Z) (jt (jmv Z) (jt (jmv Z) (jt (jix U93 Z4 d8 Z Z Z (by omega)) (jt (jlB (dix d8 b (by omega)) O4 Z) (jtt ?_))))))))))
 refine jcv E42 Z Z (back_ct 0 (ix (regsM m) i) (ix (outsM m (ix (regsM m) i)) b) ⟨by omega,by omega⟩) (dc d0 dn) kn (jn (jx ?_))
 refine jif Z (fun hc5 => ?_) (fun hc5 => ?_)
 have hfI : (fun j r => decide (r ∈ atE m.Blocks j 0)) b (ix (regsM m) i) = true := by show decide _ = _; rw [← at_f,← outs_ix hbb]; exact hc5
 refine jany false (.a 0 (.a 1 (.a 2 (.a 3 (.a 4 (.a 5 (.a 8 (.a 9 (.a 10 (.a 11 (.w 6 12 (.w 7 12 (.o 12 (.o 13 (.o 14 (.o 15 .e)))) (.o 7 (.o 13 (.o 14 (.o 15 .e))))) (.o 6 (.o 7 (.o 13 (.o 14 (.o 15 .e)))))))))))))))) Mixed (by kernel_rfl) (kc k3 kn) fun F27 => jy Z (jf F56_0 Z) (jy Z (jl k0 O52 Z Z) (jy Z (jmv Z) (jy Z (jf F56_0 Z) (jy Z (jl k0 O52 Z Z) (jy Z (jmv Z) (jy Z (jmv Z) (jy Z (jmv Z) (jy Z (jix U22 Z3 d9 Z Z Z (by omega)) (jy Z (jlI (dix d9 i (by omega)) O3 Z) ?_)))))))))
 refine jyw Z Z ?_ ?_
 refine js (jig U52 Z22 k4 Z Z Z (by omega)) (jyn d0 (kc k3 kn) ?_)
 refine jyw Z Z ?_ ?_
 refine js (jgW k4 (by omega) O22 Z) (jyn d0 (kc k3 kn) (jyo Z (jlit (r := (rI .i64)) (l := [ix (regsM m) i]) U22 I3 (by decide) Z Z Z (lV Z Z (wI (wad (dix d12 i (by omega)))) ln) fun g87 => jyn d0 (kc k4 kn) (jyo Z (jfz k0 (by (try simp) <;> omega) (jro b k2 (by omega) (by omega) (jgo k0 fun w34 => japl U22 I3 (by decide) Z k0 Z Z d0 (by (try simp) <;> omega) fun v88 w35 => jyn d1 (kc k4 kn) (jyo Z ?_))))))))
 refine js (jig U52 Z22 k5 Z Z Z (by omega)) (jyn d0 (kc k4 kn) (jyo Z (jsg k5 Z Z22 Z Z w35.one (by omega) (wV w35.one) (jru k1 k1 (by omega) (by omega) (jyn d0 (kc k4 kn) (jyd (jbn (jx (jr (jm Z (js (jadd Z Z (by omega)) ?_)))))))))))
 refine ja Z (jn ?_)
 exact jag (b + 1,List.set UI b v88,List.set QI b ((List.getD QI b []) ++ ([ix (regsM m) i])),List.set UO b v59,List.set QO b ((List.getD QO b []) ++ ([ix (regsM m) i]))) ⟨by dsimp only; omega,hHI.yes hbb hii hfI,hHO.yes hbb hii hfO,by dsimp only; (try rw [List.length_set]); exact hUI,by dsimp only; (try rw [List.length_set]); exact hUO⟩ (dc d15 (dc d16 (dc d17 dn))) (kc k2 (kc k0 (kc k2 (kc k1 (kd (kc k0 kn)))))) ⟨Z,Z,Z,Z,Z,Z,eqI (by omega),trivial⟩
 refine jlit (r := (rI .i64)) (l := [ix (regsM m) i]) U22 I3 (by decide) Z Z Z (lV Z Z (wI (wad (dix d11 i (by omega)))) ln) fun g87 => jyn d0 (kc k4 kn) (jyo Z (js (jgW k5 (by omega) O22 Z) (jyn d0 (kc k4 kn) (jyo Z (jfz k0 (by (try simp) <;> omega) (jro b k2 (by omega) (by omega) (jgo k0 fun w34 => japl U22 I3 (by decide) Z k0 Z Z d0 (by (try simp) <;> omega) fun v88 w35 => jyn d1 (kc k4 kn) (jyo Z ?_))))))))
 refine js (jig U52 Z22 k5 Z Z Z (by omega)) (jyn d0 (kc k4 kn) (jyo Z (jsg k5 Z Z22 Z Z w35.one (by omega) (wV w35.one) (jru k1 k1 (by omega) (by omega) (jyn d0 (kc k4 kn) (jyd (jbn (jx (jr (jm Z (js (jadd Z Z (by omega)) ?_)))))))))))
 refine ja Z (jn ?_)
 exact jag (b + 1,List.set UI b v88,List.set QI b ((List.getD QI b []) ++ ([ix (regsM m) i])),List.set UO b v59,List.set QO b ((List.getD QO b []) ++ ([ix (regsM m) i]))) ⟨by dsimp only; omega,hHI.yes hbb hii hfI,hHO.yes hbb hii hfO,by dsimp only; (try rw [List.length_set]); exact hUI,by dsimp only; (try rw [List.length_set]); exact hUO⟩ (dc d15 (dc d16 (dc d17 dn))) (kc k2 (kc k0 (kc k2 (kc k1 (kd (kc k0 kn)))))) ⟨Z,Z,Z,Z,Z,Z,eqI (by omega),trivial⟩
 refine jlit (r := (rI .i64)) (l := [ix (regsM m) i]) U22 I3 (by decide) Z Z Z (lV Z Z (wI (wad (dix d10 i (by omega)))) ln) fun g87 => jyn d0 (kc k4 kn) (jyo Z (js (jig U52 Z22 k5 Z Z Z (by omega)) (jyn d0 (kc k4 kn) (jyo Z (js (jgW k5 (by omega) O22 Z) (jyn d0 (kc k4 kn) (jyo Z (jfz k0 (by (try simp) <;> omega) (jro b k2 (by omega) (by omega) (jgo k0 fun w34 => ?_))))))))))
 refine japl U22 I3 (by decide) Z k0 Z Z d0 (by (try simp) <;> omega) fun v88 w35 => jyn d1 (kc k4 kn) (jyo Z (js (jig U52 Z22 k5 Z Z Z (by omega)) (jyn d0 (kc k4 kn) (jyo Z (jsg k5 Z Z22 Z Z w35.one (by omega) (wV w35.one) (jru k1 k1 (by omega) (by omega) (jyn d0 (kc k4 kn) (jyd (jbn (jx ?_))))))))))
 refine jr (jm Z (js (jadd Z Z (by omega)) (ja Z (jn ?_))))
 exact jag (b + 1,List.set UI b v88,List.set QI b ((List.getD QI b []) ++ ([ix (regsM m) i])),List.set UO b v59,List.set QO b ((List.getD QO b []) ++ ([ix (regsM m) i]))) ⟨by dsimp only; omega,hHI.yes hbb hii hfI,hHO.yes hbb hii hfO,by dsimp only; (try rw [List.length_set]); exact hUI,by dsimp only; (try rw [List.length_set]); exact hUO⟩ (dc d15 (dc d16 (dc d17 dn))) (kc k2 (kc k0 (kc k2 (kc k1 (kd (kc k0 kn)))))) ⟨Z,Z,Z,Z,Z,Z,eqI (by omega),trivial⟩
 have hfI : (fun j r => decide (r ∈ atE m.Blocks j 0)) b (ix (regsM m) i) = false := by show decide _ = _; rw [← at_f,← outs_ix hbb]; simpa [backM] using hc5
 refine jsk (jbn (jx (jr (jm Z (js (jadd Z Z (by omega)) (ja Z (jn ?_)))))))
 exact jag (b + 1,UI,QI,List.set UO b v59,List.set QO b ((List.getD QO b []) ++ ([ix (regsM m) i]))) ⟨by dsimp only; omega,hHI.no hii hfI,hHO.yes hbb hii hfO,by dsimp only; (try rw [List.length_set]); exact hUI,by dsimp only; (try rw [List.length_set]); exact hUO⟩ (dc d8 (dc d9 (dc d10 dn))) (kc k0 (kc k1 (kc k1 (kd (kd kn))))) ⟨Z,Z,Z,Z,Z,Z,eqI (by omega),trivial⟩
 refine jlit (r := (rI .i64)) (l := [ix (regsM m) i]) U22 I3 (by decide) Z Z Z (lV Z Z (wI (wad (dix d2 i (by omega)))) ln) fun g58 => jyn d0 (kc k3 kn) (jyo Z (js (jig U52 Z22 k4 Z Z Z (by omega)) (jyn d0 (kc k3 kn) (jyo Z (js (jgW k4 (by omega) O22 Z) (jyn d0 (kc k3 kn) (jyo Z (jfz k0 (by (try simp) <;> omega) (jro b k0 (by omega) (by omega) (jgo k0 fun w22 => ?_))))))))))
 refine japl U22 I3 (by decide) Z k0 Z Z d0 (by (try simp) <;> omega) fun v59 w23 => jyn d1 (kc k3 kn) (jyo Z (js (jig U52 Z22 k4 Z Z Z (by omega)) (jyn d0 (kc k3 kn) (jyo Z (jsg k4 Z Z22 Z Z w23.one (by omega) (wV w23.one) (jru k1 k1 (by omega) (by omega) (jyn d0 (kc k3 kn) (jyd (jx (jq ?_))))))))))
 refine jtl 13 Mixed (by kernel_rfl) (jt (jf F28_1 Z) (jt (jl k6 O26 Z Z) (jt (jmv Z) (jt (jix U26 Z37 (rMFunc.cB d9) Z Z Z (by omega)) (jtA3 sMBlock (jlA (dix (rMFunc.cB d9) b (by omega)) A37 Z37 Z) fun c65a c65b c65c => jt (jmv Z) (jt (jmv Z) (jt (jix U22 Z3 d9 Z Z Z (by omega)) (jt (jlI (dix d9 i (by omega)) O3 Z) (jt (jmv Z) (jt (jmv Z) ?_))))))))))
 refine jt (jix U93 Z4 d8 Z Z Z (by omega)) (jt (jlB (dix d8 b (by omega)) O4 Z) (jtt (jcv E42 Z Z (back_ct 0 (ix (regsM m) i) (ix (outsM m (ix (regsM m) i)) b) ⟨by omega,by omega⟩) (dc d0 dn) kn (jn (jx ?_)))))
 refine jif Z (fun hc5 => ?_) (fun hc5 => ?_)
 have hfI : (fun j r => decide (r ∈ atE m.Blocks j 0)) b (ix (regsM m) i) = true := by show decide _ = _; rw [← at_f,← outs_ix hbb]; exact hc5
 refine jany false (.a 0 (.a 1 (.a 2 (.a 3 (.a 4 (.a 5 (.a 8 (.a 9 (.a 10 (.a 11 (.w 6 12 (.w 7 12 (.o 12 (.o 13 (.o 14 (.o 15 .e)))) (.o 7 (.o 13 (.o 14 (.o 15 .e))))) (.o 6 (.o 7 (.o 13 (.o 14 (.o 15 .e)))))))))))))))) Mixed (by kernel_rfl) (kc k3 kn) fun F27 => jy Z (jf F56_0 Z) (jy Z (jl k0 O52 Z Z) (jy Z (jmv Z) (jy Z (jf F56_0 Z) (jy Z (jl k0 O52 Z Z) (jy Z (jmv Z) (jy Z (jmv Z) (jy Z (jmv Z) (jy Z (jix U22 Z3 d9 Z Z Z (by omega)) (jy Z (jlI (dix d9 i (by omega)) O3 Z) ?_)))))))))
 refine jyw Z Z ?_ ?_
 refine js (jig U52 Z22 k4 Z Z Z (by omega)) (jyn d0 (kc k3 kn) ?_)
 refine jyw Z Z ?_ ?_
 refine js (jgW k4 (by omega) O22 Z) (jyn d0 (kc k3 kn) (jyo Z (jlit (r := (rI .i64)) (l := [ix (regsM m) i]) U22 I3 (by decide) Z Z Z (lV Z Z (wI (wad (dix d12 i (by omega)))) ln) fun g87 => jyn d0 (kc k4 kn) (jyo Z (jfz k0 (by (try simp) <;> omega) (jro b k2 (by omega) (by omega) (jgo k0 fun w34 => japl U22 I3 (by decide) Z k0 Z Z d0 (by (try simp) <;> omega) fun v88 w35 => jyn d1 (kc k4 kn) (jyo Z ?_))))))))
 refine js (jig U52 Z22 k5 Z Z Z (by omega)) (jyn d0 (kc k4 kn) (jyo Z (jsg k5 Z Z22 Z Z w35.one (by omega) (wV w35.one) (jru k1 k1 (by omega) (by omega) (jyn d0 (kc k4 kn) (jyd (jbn (jx (jr (jm Z (js (jadd Z Z (by omega)) ?_)))))))))))
 refine ja Z (jn ?_)
 exact jag (b + 1,List.set UI b v88,List.set QI b ((List.getD QI b []) ++ ([ix (regsM m) i])),List.set UO b v59,List.set QO b ((List.getD QO b []) ++ ([ix (regsM m) i]))) ⟨by dsimp only; omega,hHI.yes hbb hii hfI,hHO.yes hbb hii hfO,by dsimp only; (try rw [List.length_set]); exact hUI,by dsimp only; (try rw [List.length_set]); exact hUO⟩ (dc d15 (dc d16 (dc d17 dn))) (kc k2 (kc k0 (kc k2 (kc k1 (kd (kc k0 kn)))))) ⟨Z,Z,Z,Z,Z,Z,eqI (by omega),trivial⟩
 refine jlit (r := (rI .i64)) (l := [ix (regsM m) i]) U22 I3 (by decide) Z Z Z (lV Z Z (wI (wad (dix d11 i (by omega)))) ln) fun g87 => jyn d0 (kc k4 kn) (jyo Z (js (jgW k5 (by omega) O22 Z) (jyn d0 (kc k4 kn) (jyo Z (jfz k0 (by (try simp) <;> omega) (jro b k2 (by omega) (by omega) (jgo k0 fun w34 => japl U22 I3 (by decide) Z k0 Z Z d0 (by (try simp) <;> omega) fun v88 w35 => jyn d1 (kc k4 kn) (jyo Z ?_))))))))
 refine js (jig U52 Z22 k5 Z Z Z (by omega)) (jyn d0 (kc k4 kn) (jyo Z (jsg k5 Z Z22 Z Z w35.one (by omega) (wV w35.one) (jru k1 k1 (by omega) (by omega) (jyn d0 (kc k4 kn) (jyd (jbn (jx (jr (jm Z (js (jadd Z Z (by omega)) ?_)))))))))))
 refine ja Z (jn ?_)
 exact jag (b + 1,List.set UI b v88,List.set QI b ((List.getD QI b []) ++ ([ix (regsM m) i])),List.set UO b v59,List.set QO b ((List.getD QO b []) ++ ([ix (regsM m) i]))) ⟨by dsimp only; omega,hHI.yes hbb hii hfI,hHO.yes hbb hii hfO,by dsimp only; (try rw [List.length_set]); exact hUI,by dsimp only; (try rw [List.length_set]); exact hUO⟩ (dc d15 (dc d16 (dc d17 dn))) (kc k2 (kc k0 (kc k2 (kc k1 (kd (kc k0 kn)))))) ⟨Z,Z,Z,Z,Z,Z,eqI (by omega),trivial⟩
 refine jlit (r := (rI .i64)) (l := [ix (regsM m) i]) U22 I3 (by decide) Z Z Z (lV Z Z (wI (wad (dix d10 i (by omega)))) ln) fun g87 => jyn d0 (kc k4 kn) (jyo Z (js (jig U52 Z22 k5 Z Z Z (by omega)) (jyn d0 (kc k4 kn) (jyo Z (js (jgW k5 (by omega) O22 Z) (jyn d0 (kc k4 kn) (jyo Z (jfz k0 (by (try simp) <;> omega) (jro b k2 (by omega) (by omega) (jgo k0 fun w34 => ?_))))))))))
 refine japl U22 I3 (by decide) Z k0 Z Z d0 (by (try simp) <;> omega) fun v88 w35 => jyn d1 (kc k4 kn) (jyo Z (js (jig U52 Z22 k5 Z Z Z (by omega)) (jyn d0 (kc k4 kn) (jyo Z (jsg k5 Z Z22 Z Z w35.one (by omega) (wV w35.one) (jru k1 k1 (by omega) (by omega) (jyn d0 (kc k4 kn) (jyd (jbn (jx ?_))))))))))
 refine jr (jm Z (js (jadd Z Z (by omega)) (ja Z (jn ?_))))
 exact jag (b + 1,List.set UI b v88,List.set QI b ((List.getD QI b []) ++ ([ix (regsM m) i])),List.set UO b v59,List.set QO b ((List.getD QO b []) ++ ([ix (regsM m) i]))) ⟨by dsimp only; omega,hHI.yes hbb hii hfI,hHO.yes hbb hii hfO,by dsimp only; (try rw [List.length_set]); exact hUI,by dsimp only; (try rw [List.length_set]); exact hUO⟩ (dc d15 (dc d16 (dc d17 dn))) (kc k2 (kc k0 (kc k2 (kc k1 (kd (kc k0 kn)))))) ⟨Z,Z,Z,Z,Z,Z,eqI (by omega),trivial⟩
 have hfI : (fun j r => decide (r ∈ atE m.Blocks j 0)) b (ix (regsM m) i) = false := by show decide _ = _; rw [← at_f,← outs_ix hbb]; simpa [backM] using hc5
 refine jsk (jbn (jx (jr (jm Z (js (jadd Z Z (by omega)) (ja Z (jn ?_)))))))
 exact jag (b + 1,UI,QI,List.set UO b v59,List.set QO b ((List.getD QO b []) ++ ([ix (regsM m) i]))) ⟨by dsimp only; omega,hHI.no hii hfI,hHO.yes hbb hii hfO,by dsimp only; (try rw [List.length_set]); exact hUI,by dsimp only; (try rw [List.length_set]); exact hUO⟩ (dc d8 (dc d9 (dc d10 dn))) (kc k0 (kc k1 (kc k1 (kd (kd kn))))) ⟨Z,Z,Z,Z,Z,Z,eqI (by omega),trivial⟩
 have hfO : (fun j r => decide (r ∈ ix (loE m.Blocks) j)) b (ix (regsM m) i) = false := by show decide _ = _; rw [← outs_ix hbb]; simpa using hc4
 refine jsk (jx (jq (jtl 13 Mixed (by kernel_rfl) (jt (jf F28_1 Z) (jt (jl k6 O26 Z Z) (jt (jmv Z) (jt (jix U26 Z37 (rMFunc.cB d2) Z Z Z (by omega)) (jtA3 sMBlock (jlA (dix (rMFunc.cB d2) b (by omega)) A37 Z37 Z) fun c65a_38 c65b_39 c65c_40 => jt (jmv Z) (jt (jmv Z) (jt (jix U22 Z3 d2 Z Z Z (by omega)) ?_))))))))))
 refine jt (jlI (dix d2 i (by omega)) O3 Z) (jt (jmv Z) (jt (jmv Z) (jt (jix U93 Z4 d1 Z Z Z (by omega)) (jt (jlB (dix d1 b (by omega)) O4 Z) (jtt (jcv E42 Z Z (back_ct 0 (ix (regsM m) i) (ix (outsM m (ix (regsM m) i)) b) ⟨by omega,by omega⟩) (dc d0 dn) kn (jn (jx ?_))))))))
 refine jif Z (fun hc6 => ?_) (fun hc6 => ?_)
 have hfI : (fun j r => decide (r ∈ atE m.Blocks j 0)) b (ix (regsM m) i) = true := by show decide _ = _; rw [← at_f,← outs_ix hbb]; exact hc6
 refine jany false (.a 0 (.a 1 (.a 2 (.a 3 (.a 4 (.a 5 (.a 8 (.a 9 (.a 10 (.a 11 (.w 6 12 (.w 7 12 (.o 12 (.o 13 (.o 14 (.o 15 .e)))) (.o 7 (.o 13 (.o 14 (.o 15 .e))))) (.o 6 (.o 7 (.o 13 (.o 14 (.o 15 .e)))))))))))))))) Mixed (by kernel_rfl) (kc k2 kn) fun F42 => jy Z (jf F56_0 Z) (jy Z (jl k0 O52 Z Z) (jy Z (jmv Z) (jy Z (jf F56_0 Z) (jy Z (jl k0 O52 Z Z) (jy Z (jmv Z) (jy Z (jmv Z) (jy Z (jmv Z) (jy Z (jix U22 Z3 d2 Z Z Z (by omega)) (jy Z (jlI (dix d2 i (by omega)) O3 Z) ?_)))))))))
 refine jyw Z Z ?_ ?_
 refine js (jig U52 Z22 k4 Z Z Z (by omega)) (jyn d0 (kc k2 kn) ?_)
 refine jyw Z Z ?_ ?_
 refine js (jgW k4 (by omega) O22 Z) (jyn d0 (kc k2 kn) (jyo Z (jlit (r := (rI .i64)) (l := [ix (regsM m) i]) U22 I3 (by decide) Z Z Z (lV Z Z (wI (wad (dix d5 i (by omega)))) ln) fun g87_46 => jyn d0 (kc k3 kn) (jyo Z (jfz k0 (by (try simp) <;> omega) (jro b k1 (by omega) (by omega) (jgo k0 fun w50 => japl U22 I3 (by decide) Z k0 Z Z d0 (by (try simp) <;> omega) fun v88_51 w52 => jyn d1 (kc k3 kn) (jyo Z ?_))))))))
 refine js (jig U52 Z22 k5 Z Z Z (by omega)) (jyn d0 (kc k3 kn) (jyo Z (jsg k5 Z Z22 Z Z w52.one (by omega) (wV w52.one) (jru k1 k1 (by omega) (by omega) (jyn d0 (kc k3 kn) (jyd (jbn (jx (jr (jm Z (js (jadd Z Z (by omega)) ?_)))))))))))
 refine ja Z (jn ?_)
 exact jag (b + 1,List.set UI b v88_51,List.set QI b ((List.getD QI b []) ++ ([ix (regsM m) i])),UO,QO) ⟨by dsimp only; omega,hHI.yes hbb hii hfI,hHO.no hii hfO,by dsimp only; (try rw [List.length_set]); exact hUI,by dsimp only; (try rw [List.length_set]); exact hUO⟩ (dc d8 (dc d9 (dc d10 dn))) (kc k2 (kc k0 (kc k1 (kc k1 (kd (kc k0 kn)))))) ⟨Z,Z,Z,Z,Z,Z,eqI (by omega),trivial⟩
 refine jlit (r := (rI .i64)) (l := [ix (regsM m) i]) U22 I3 (by decide) Z Z Z (lV Z Z (wI (wad (dix d4 i (by omega)))) ln) fun g87_45 => jyn d0 (kc k3 kn) (jyo Z (js (jgW k5 (by omega) O22 Z) (jyn d0 (kc k3 kn) (jyo Z (jfz k0 (by (try simp) <;> omega) (jro b k1 (by omega) (by omega) (jgo k0 fun w50 => japl U22 I3 (by decide) Z k0 Z Z d0 (by (try simp) <;> omega) fun v88_51 w52 => jyn d1 (kc k3 kn) (jyo Z ?_))))))))
 refine js (jig U52 Z22 k5 Z Z Z (by omega)) (jyn d0 (kc k3 kn) (jyo Z (jsg k5 Z Z22 Z Z w52.one (by omega) (wV w52.one) (jru k1 k1 (by omega) (by omega) (jyn d0 (kc k3 kn) (jyd (jbn (jx (jr (jm Z (js (jadd Z Z (by omega)) ?_)))))))))))
 refine ja Z (jn ?_)
 exact jag (b + 1,List.set UI b v88_51,List.set QI b ((List.getD QI b []) ++ ([ix (regsM m) i])),UO,QO) ⟨by dsimp only; omega,hHI.yes hbb hii hfI,hHO.no hii hfO,by dsimp only; (try rw [List.length_set]); exact hUI,by dsimp only; (try rw [List.length_set]); exact hUO⟩ (dc d8 (dc d9 (dc d10 dn))) (kc k2 (kc k0 (kc k1 (kc k1 (kd (kc k0 kn)))))) ⟨Z,Z,Z,Z,Z,Z,eqI (by omega),trivial⟩
 refine jlit (r := (rI .i64)) (l := [ix (regsM m) i]) U22 I3 (by decide) Z Z Z (lV Z Z (wI (wad (dix d3 i (by omega)))) ln) fun g87_44 => jyn d0 (kc k3 kn) (jyo Z (js (jig U52 Z22 k5 Z Z Z (by omega)) (jyn d0 (kc k3 kn) (jyo Z (js (jgW k5 (by omega) O22 Z) (jyn d0 (kc k3 kn) (jyo Z (jfz k0 (by (try simp) <;> omega) (jro b k1 (by omega) (by omega) (jgo k0 fun w50 => ?_))))))))))
 refine japl U22 I3 (by decide) Z k0 Z Z d0 (by (try simp) <;> omega) fun v88_51 w52 => jyn d1 (kc k3 kn) (jyo Z (js (jig U52 Z22 k5 Z Z Z (by omega)) (jyn d0 (kc k3 kn) (jyo Z (jsg k5 Z Z22 Z Z w52.one (by omega) (wV w52.one) (jru k1 k1 (by omega) (by omega) (jyn d0 (kc k3 kn) (jyd (jbn (jx ?_))))))))))
 refine jr (jm Z (js (jadd Z Z (by omega)) (ja Z (jn ?_))))
 exact jag (b + 1,List.set UI b v88_51,List.set QI b ((List.getD QI b []) ++ ([ix (regsM m) i])),UO,QO) ⟨by dsimp only; omega,hHI.yes hbb hii hfI,hHO.no hii hfO,by dsimp only; (try rw [List.length_set]); exact hUI,by dsimp only; (try rw [List.length_set]); exact hUO⟩ (dc d8 (dc d9 (dc d10 dn))) (kc k2 (kc k0 (kc k1 (kc k1 (kd (kc k0 kn)))))) ⟨Z,Z,Z,Z,Z,Z,eqI (by omega),trivial⟩
 have hfI : (fun j r => decide (r ∈ atE m.Blocks j 0)) b (ix (regsM m) i) = false := by show decide _ = _; rw [← at_f,← outs_ix hbb]; simpa [backM] using hc6
 refine jsk (jbn (jx (jr (jm Z (js (jadd Z Z (by omega)) (ja Z (jn ?_)))))))
 exact jag (b + 1,UI,QI,UO,QO) ⟨by dsimp only; omega,hHI.no hii hfI,hHO.no hii hfO,by dsimp only; (try rw [List.length_set]); exact hUI,by dsimp only; (try rw [List.length_set]); exact hUO⟩ (dc d1 (dc d2 (dc d3 dn))) (kd (kd (kd (kc k0 kn)))) ⟨Z,Z,Z,Z,Z,Z,eqI (by omega),trivial⟩
 refine jex (jtx (jtx (jbh (jbn (jx (jr (jm Z (js (jadd Z Z (by omega)) (ja Z (jn ?_))))))))))
 exact jag (i + 1,UI,QI,UO,QO) ⟨by dsimp only; omega,hHI.blk (by omega),hHO.blk (by omega),hUI,hUO⟩ (dc d1 (dc d2 dn)) (kd (kd (kd (kc k0 kn)))) ⟨Z,Z,Z,Z,eqI (by omega),trivial⟩
 refine jex (jtx (jtx (jbh (jx (jq (jr ?_))))))
 have e1 := hGI.in_eq hrt (by omega)
 have e2 := hGO.out_eq hrt (by omega)
 have hlI := hGI.len
 have hlO := hGO.len
 have hnI := hGI.n
 have hnO := hGO.n
 subst e1
 subst e2
 refine jfr k4 k1 (by omega) (by omega) hlI (jfr k2 k0 (by omega) (by omega) hlO (js (jla k0 A56 Z56 Z Z Z) (jsta k1 Z56 Z Z Z ⟨Z,Z,trivial⟩ (saf Z) (jn (jx (jrt ?_))))))
 exact jrcA (val := vBo9) (b := ⟨(setsI m),(setsO m)⟩) (c := ((.slice (some ⟨gI,0,none⟩) m.Blocks.length m.Blocks.length),(.slice (some ⟨gO,0,none⟩) m.Blocks.length m.Blocks.length))) Z Z k0 A56 Z56 Z (by first | (rw [both_wrong (by simpa using hc1)]; done) | rfl) (rBo9.M (m := ⟨(setsI m),(setsO m)⟩) (c := ((.slice (some ⟨gI,0,none⟩) m.Blocks.length m.Blocks.length),(.slice (some ⟨gO,0,none⟩) m.Blocks.length m.Blocks.length))) d1 d0)
end Go.Proofs.YtehhjlkmbdhckaaGreat
namespace Go.Proofs.YtehhjlkmbdhckaaGreat
open Go.JE
def shL : D.MFunc := ⟨2,[⟨[],[⟨5,2,0,0,1,0,0,[]⟩,⟨5,3,0,2,0,0,0,[]⟩],⟨7,3,0,[],0⟩⟩]⟩
theorem shL_right : rightM shL = true := by decide
theorem shL_lo : loE shL.Blocks = [[]] := by
 have hw := right_wl shL_right
 have h1 : (loE shL.Blocks).length = 1 := loE_len hw
 have h2 : ix (loE shL.Blocks) 0 = [] := by
   apply List.eq_nil_iff_forall_not_mem.2
   intro r hr
   have h3 := (loE_mem hw (b := 0) (by decide)).1 hr
   cases h3 with
   | phi h _ => cases h
   | gen h _ _ => cases h
   | thru h _ _ _ => cases h
 match hl : loE shL.Blocks,h1,h2 with
 | [x],_,h2 =>
   have h4 : x = [] := h2
   rw [h4]
theorem shL_at : atM shL 0 1 = [0,2] := by
 unfold atM atE; rw [shL_lo]; decide
theorem shL_row : rowQ (atM shL 0 1) [0,2] = true := by rw [shL_at]; decide
theorem shL_tog1 : togM shL 0 2 = true := by
 unfold togM stM togS hasE atE; rw [shL_lo]; decide
theorem shL_tog2 : togM shL 0 3 = false := by
 unfold togM stM togS hasE atE; rw [shL_lo]; decide
theorem shL_most : mostM shL = 2 := by
 unfold mostM stM mostS hasE atE; rw [shL_lo]; decide
def rangesQ (a b : List D.Range) : Bool := decide (a = b)
theorem shL_rng : rangesQ (rangesM shL 0) [⟨0,2⟩] = true := by
 unfold rangesM stM rngS hasE atE; rw [shL_lo]; decide
theorem rng_ix {a b : List D.Range} (hl : a.length = b.length) (h : ∀ j,j < a.length → ix a j = ix b j) : a = b := List.ext_getElem hl fun j h1 h2 => by
 have := h j h1; rw [ix_eq h1,ix_eq h2] at this; exact this
theorem rng_ext {x y : D.Range} (h : x.From = y.From ∧ x.To = y.To) : x = y := by
 cases x; cases y; obtain ⟨h1,h2⟩ := h; dsimp only at h1 h2; subst h1; subst h2; rfl
def made10 (s : List Int) : D.MFunc := made7 (s.take 200)
theorem A47 : ∃ d,Tryz.prog.underlying 47 = some d ∧ (match d with | .struct _ | .array _ _ => true | _ => false) = true := ⟨_,Tryz.underlying47,rfl⟩
theorem E18 : Ent Tryz.prog 18 := ⟨_,Tryz.func18,by kernel_rfl,by kernel_rfl⟩
theorem E21 : Ent Tryz.prog 21 := ⟨_,Tryz.func21,by kernel_rfl,by kernel_rfl⟩
theorem E22 : Ent Tryz.prog 22 := ⟨_,Tryz.func22,by kernel_rfl,by kernel_rfl⟩
theorem E24 : Ent Tryz.prog 24 := ⟨_,Tryz.func24,by kernel_rfl,by kernel_rfl⟩
theorem E36 : Ent Tryz.prog 36 := ⟨_,Tryz.func36,by kernel_rfl,by kernel_rfl⟩
theorem E37 : Ent Tryz.prog 37 := ⟨_,Tryz.func37,by kernel_rfl,by kernel_rfl⟩
theorem S2_47 : St2 Tryz.prog 47 .i64 := ⟨⟨_,_,Tryz.underlying47,by decide,by decide,rfl,rfl,Tryz.underlying3,Tryz.underlying3⟩,by kernel_rfl,by kernel_rfl⟩
set_option maxRecDepth 8000
theorem lawRanges_ct {a0 : Value} {a : List D.Range} {a1 : Value} {b : List D.Range} : Tv Tryz.prog 36 #[a0,a1] [dv (rL rRange) a0 a,dv (rL rRange) a1 b] [] (.bool (rangesQ a b)) := by
 refine jenter (args := [a0,a1]) Tryz.func36 rfl rfl rfl fun w0 X => ?_
 refine jq (jr (ja Z (jn (jx (jq (jq (jr (jm Z (jdq d0 fun q1 w1 => js (jln U44 d0 Z) (jm Z ?_))))))))))
 refine jdq d1 fun q2 w2 => js (jln U44 d1 Z) (js (jneq Z Z) (jn (jx ?_)))
 refine jif Z (fun hc1 => ?_) (fun hc1 => ?_)
 refine jq (jr (ja Z (jn (jx (jrt (jtr ?_))))))
 exact jrB Z Z (by first | (exact decide_eq_true (rng_ix (by omega) (fun j hj => hall j (by omega)))) | (exact decide_eq_false (fun h9 => by subst h9; simp at hc3)) | (exact decide_eq_false (fun h9 => by subst h9; exact hc1 rfl)))
 refine jsk (jx (jq (jq (jr (ja Z (jn (jx (jb ?_))))))))
 refine jlp (fun (k : Nat) => ⟨k ≤ a.length ∧ ∀ j,j < k → ix a j = ix b j,[dv (rL rRange) a0 a,dv (rL rRange) a1 b],[],[(0,a0),(1,a1),(5,.int .i64 (↑k))],a.length - k⟩) 0 ⟨by omega,fun j hj => by omega⟩ (dc d0 (dc d1 dn)) kn ⟨Z,Z,eqI (by omega),trivial⟩ ?_
 rintro k; dsimp only; rintro ⟨hk,hall⟩
 refine jq (jq (jr (jm Z (jm Z (js (jln U44 d0 Z) (js (jlss Z Z) (jn (jx ?_))))))))
 refine jif Z (fun hc2 => ?_) (fun hc2 => ?_)
 refine jsk (jx (jq (jb (jq (jstl Mixed (by kernel_rfl) (jt (jmv Z) (jt (jmv Z) (jt (jix U44 Z47 d0 Z Z Z (by omega)) (jtA sRange (jlA (dix d0 k (by omega)) A47 Z47 Z) fun _ => jt (jmv Z) (jt (jmv Z) ?_))))))))))
 refine jt (jix U44 Z47 d2 Z Z Z (by omega)) (jtA sRange (jlA (dix d2 k (by omega)) A47 Z47 Z) fun _ => jt (jneqSt S2_47 Z Z) (jdn (jx ?_)))
 refine jif Z (fun hc3 => ?_) (fun hc3 => ?_)
 refine jq (jr (ja Z (jn (jx (jrt (jbr (jtr (jtr (jbr (jtr ?_))))))))))
 exact jrB Z Z (by first | (exact decide_eq_true (rng_ix (by omega) (fun j hj => hall j (by omega)))) | (exact decide_eq_false (fun h9 => by subst h9; simp at hc3)) | (exact decide_eq_false (fun h9 => by subst h9; exact hc1 rfl)))
 refine jsk (jbn (jx (jr (jm Z (js (jadd Z Z (by omega)) (ja Z (jn ?_)))))))
 exact jag (k + 1) ⟨by omega,fun j hj => by rcases Nat.lt_or_ge j k with h7 | h7; (exact hall j h7); (rw [show j = k by omega]; exact rng_ext (by simpa using hc3))⟩ (dc d2 (dc d3 dn)) kn ⟨Z,Z,eqI (by omega),trivial⟩
 refine jex (jtx (jtx (jbh (jx (jq (jr (ja Z (jn (jx (jrt ?_))))))))))
 exact jrB Z Z (by first | (exact decide_eq_true (rng_ix (by omega) (fun j hj => hall j (by omega)))) | (exact decide_eq_false (fun h9 => by subst h9; simp at hc3)) | (exact decide_eq_false (fun h9 => by subst h9; exact hc1 rfl)))
theorem shown_ct  : Tv Tryz.prog 11 #[] [] [] (.bool true) := by
 refine jenter (args := []) Tryz.func11 rfl rfl rfl fun w0 X => ?_
 refine jq (jr (ja Z (jn (jx (jq (jr (js (jbu (v := .agg #[.int .i64 5,.int .i64 2,.int .i64 0,.int .i64 0,.int .i64 1,.int .i64 0,.int .i32 0,.slice none 0 0]) Z (fun _ => by kernel_rfl)) (js (jbu (v := .agg #[.int .i64 5,.int .i64 3,.int .i64 0,.int .i64 2,.int .i64 0,.int .i64 0,.int .i32 0,.slice none 0 0]) Z (fun _ => by kernel_rfl)) (jlit (r := rMach) (l := [⟨5,2,0,0,1,0,0,[]⟩,⟨5,3,0,2,0,0,0,[]⟩]) U33 I69 (by decide) Z Z Z (lA (rMach.M (m := ⟨5,2,0,0,1,0,0,[]⟩) (c := (.slice none 0 0)) wN (wl 5) (wl 2) (wl 0) (wl 0) (wl 1) (wl 0) (wl 0)) (lA (rMach.M (m := ⟨5,3,0,2,0,0,0,[]⟩) (c := (.slice none 0 0)) wN (wl 5) (wl 3) (wl 0) (wl 2) (wl 0) (wl 0) (wl 0)) ln)) fun g4 => js (jbu (v := .agg #[.int .i64 7,.int .i64 3,.int .i64 0,.slice none 0 0,.int .i32 0]) Z (fun _ => by kernel_rfl)) (js (jbu (v := .agg #[.slice none 0 0,(.slice (some ⟨g4,0,none⟩) 2 2),.int .i64 7,.int .i64 3,.int .i64 0,.slice none 0 0,.int .i32 0]) Z (fun _ => by kernel_rfl)) ?_))))))))))
 refine jfz k0 (by (try simp) <;> omega) (jlit (r := rMBlock) (l := [⟨[],[⟨5,2,0,0,1,0,0,[]⟩,⟨5,3,0,2,0,0,0,[]⟩],⟨7,3,0,[],0⟩⟩]) U26 I37 (by decide) Z Z Z (lA (rMBlock.M (m := ⟨[],[⟨5,2,0,0,1,0,0,[]⟩,⟨5,3,0,2,0,0,0,[]⟩],⟨7,3,0,[],0⟩⟩) (c := (.slice none 0 0,(.slice (some ⟨g4,0,none⟩) 2 2),.slice none 0 0)) wN d0 wN (wl 7) (wl 3) (wl 0) (wl 0)) ln) fun g7 => js (jbu (v := .agg #[.int .i64 2,(.slice (some ⟨g7,0,none⟩) 1 1)]) Z (fun _ => by kernel_rfl)) (jalc J28 Z fun g1 => jsta k0 Z28 Z Z Z ⟨Z,Z,trivial⟩ (saf Z) (jn (jx (jq (jr (js (jla k0 A28 Z28 Z Z Z) (jfz k1 (by (try simp) <;> omega) (jcd E18 Z Z (at_ct (m := ⟨2,[⟨[],[⟨5,2,0,0,1,0,0,[]⟩,⟨5,3,0,2,0,0,0,[]⟩],⟨7,3,0,[],0⟩⟩]⟩) 0 1) (dc (rMFunc.M (m := ⟨2,[⟨[],[⟨5,2,0,0,1,0,0,[]⟩,⟨5,3,0,2,0,0,0,[]⟩],⟨7,3,0,[],0⟩⟩]⟩) (c := (.slice (some ⟨g7,0,none⟩) 1 1)) d0 (wl 2)) dn) kn fun v10 q3 w3 => ?_)))))))))
 refine jlit (r := (rI .i64)) (l := [0,2]) U22 I3 (by decide) Z Z Z (lV Z Z (wI (wl 0)) (lV Z Z (wI (wl 2)) ln)) fun g11 => jc E17 Z Z (Tv.temp1 1073741824 row_ct (by (try simp) <;> omega)) (dc d0 dn) (kc k0 kn) (fun _ => p0) (fun _ => p1) fun _ => ?_
 rw [show rowQ (atM (⟨2,[⟨[],[⟨5,2,0,0,1,0,0,[]⟩,⟨5,3,0,2,0,0,0,[]⟩],⟨7,3,0,[],0⟩⟩]⟩) 0 1) ([0,2]) = true from shL_row]
 refine jm Z (jk Z Z (.t _) (jla k1 A28 Z28 Z Z Z) (jgk Z Z (.t _) (jcd E21 Z Z (ranges_ct (m := ⟨2,[⟨[],[⟨5,2,0,0,1,0,0,[]⟩,⟨5,3,0,2,0,0,0,[]⟩],⟨7,3,0,[],0⟩⟩]⟩) 0) (dc (rMFunc.M (m := ⟨2,[⟨[],[⟨5,2,0,0,1,0,0,[]⟩,⟨5,3,0,2,0,0,0,[]⟩],⟨7,3,0,[],0⟩⟩]⟩) (c := (.slice (some ⟨g7,0,none⟩) 1 1)) d1 (wl 2)) dn) kn fun v15 q5 w5 => jk Z Z (.t _) (jbu (v := .agg #[.int .i64 0,.int .i64 2]) Z (fun _ => by kernel_rfl)) (jgk Z Z (.t _) (jlit (r := rRange) (l := [⟨0,2⟩]) U44 I47 (by decide) Z Z Z (lA (rRange.M (m := ⟨0,2⟩) (c := ()) (wl 0) (wl 2)) ln) fun g17 => jgk Z Z (.t _) (jc E36 Z Z (Tv.temp1 1073741824 lawRanges_ct (by (try simp) <;> omega)) (dc d0 dn) (kc k0 kn) (fun _ => p0) (fun _ => p1) fun _ => ?_))))))
 rw [show rangesQ (rangesM (⟨2,[⟨[],[⟨5,2,0,0,1,0,0,[]⟩,⟨5,3,0,2,0,0,0,[]⟩],⟨7,3,0,[],0⟩⟩]⟩) 0) ([⟨0,2⟩]) = true from shL_rng]
 refine js (jand Z Z) (jm Z (jk Z Z (.t _) (jla k2 A28 Z28 Z Z Z) (jgk Z Z (.t _) (jcv E22 Z Z (together_ct (m := ⟨2,[⟨[],[⟨5,2,0,0,1,0,0,[]⟩,⟨5,3,0,2,0,0,0,[]⟩],⟨7,3,0,[],0⟩⟩]⟩) 0 2) (dc (rMFunc.M (m := ⟨2,[⟨[],[⟨5,2,0,0,1,0,0,[]⟩,⟨5,3,0,2,0,0,0,[]⟩],⟨7,3,0,[],0⟩⟩]⟩) (c := (.slice (some ⟨g7,0,none⟩) 1 1)) d2 (wl 2)) dn) kn ?_))))
 rw [show togM (⟨2,[⟨[],[⟨5,2,0,0,1,0,0,[]⟩,⟨5,3,0,2,0,0,0,[]⟩],⟨7,3,0,[],0⟩⟩]⟩) 0 2 = true from shL_tog1]
 refine js (jand Z Z) (jm Z (jk Z Z (.t _) (jla k2 A28 Z28 Z Z Z) (jgk Z Z (.t _) (jcv E22 Z Z (together_ct (m := ⟨2,[⟨[],[⟨5,2,0,0,1,0,0,[]⟩,⟨5,3,0,2,0,0,0,[]⟩],⟨7,3,0,[],0⟩⟩]⟩) 0 3) (dc (rMFunc.M (m := ⟨2,[⟨[],[⟨5,2,0,0,1,0,0,[]⟩,⟨5,3,0,2,0,0,0,[]⟩],⟨7,3,0,[],0⟩⟩]⟩) (c := (.slice (some ⟨g7,0,none⟩) 1 1)) d2 (wl 2)) dn) kn ?_))))
 rw [show togM (⟨2,[⟨[],[⟨5,2,0,0,1,0,0,[]⟩,⟨5,3,0,2,0,0,0,[]⟩],⟨7,3,0,[],0⟩⟩]⟩) 0 3 = false from shL_tog2]
 refine jk Z Z (.t _) (jnot Z) (js (jand Z Z) (jm Z (jk Z Z (.t _) (jla k2 A28 Z28 Z Z Z) (jgk Z Z (.t _) (jcv E24 Z Z (most_ct (m := ⟨2,[⟨[],[⟨5,2,0,0,1,0,0,[]⟩,⟨5,3,0,2,0,0,0,[]⟩],⟨7,3,0,[],0⟩⟩]⟩)) (dc (rMFunc.M (m := ⟨2,[⟨[],[⟨5,2,0,0,1,0,0,[]⟩,⟨5,3,0,2,0,0,0,[]⟩],⟨7,3,0,[],0⟩⟩]⟩) (c := (.slice (some ⟨g7,0,none⟩) 1 1)) d2 (wl 2)) dn) kn ?_)))))
 rw [show mostM (⟨2,[⟨[],[⟨5,2,0,0,1,0,0,[]⟩,⟨5,3,0,2,0,0,0,[]⟩],⟨7,3,0,[],0⟩⟩]⟩) = 2 from shL_most]
 refine jk Z Z (.t _) (jeql Z Z) (js (jand Z Z) (ja Z (jn (jx (jrt ?_)))))
 exact jrB Z Z (by first | rfl | decide)
theorem made10_ct {a0 : Value} {s : List Int} {N0 : Nat} : Ts Tryz.prog 12 #[a0] [dv (rLn N0 (rI .i64)) a0 s] [] rMFunc vMFunc (made10 s) := by
 refine jenter (args := [a0]) Tryz.func12 rfl rfl rfl fun w0 X => ?_
 refine jq (jr (jalc J28 Z fun g2 => jn (jx (jq (jr (jm Z (jm Z (jdq d0 fun q1 w1 => js (jln U22 d0 Z) (js (jmin Z Z) ?_)))))))))
 refine js (jshi (hi := (Int.toNat (min (↑(List.length s)) 200))) U22 Z3 d0 Z Z (by omega) (by omega)) (jdq (dhi d0 (Int.toNat (min (↑(List.length s)) 200)) (by omega) (by omega)) fun q2 w2 => jcs E37 Z Z r7made_ct (dc (dhi d0 (Int.toNat (min (↑(List.length s)) 200)) (by omega) (by omega)) dn) kn fun c8 => jdq (rMFunc.cB d0) fun q4 w4 => jsta k0 Z28 Z Z Z ⟨Z,w4.one,trivial⟩ (saf Z) (jn (jx (jrt ?_))))
 exact jrcA (val := vMFunc) (b := made7 (List.take (Int.toNat (min (↑(List.length s)) 200)) s)) (c := c8) Z Z k0 A28 Z28 Z (by rw [← take_min s 200 200 rfl]; rfl) d0
end Go.Proofs.YtehhjlkmbdhckaaGreat
namespace Go.Proofs.YtehhjlkmbdhckaaGreat
open Go.JE
theorem A23 : ∃ d,Tryz.prog.underlying 23 = some d ∧ (match d with | .struct _ | .array _ _ => true | _ => false) = true := ⟨_,Tryz.underlying23,rfl⟩
theorem E11 : Ent Tryz.prog 11 := ⟨_,Tryz.func11,by kernel_rfl,by kernel_rfl⟩
theorem E12 : Ent Tryz.prog 12 := ⟨_,Tryz.func12,by kernel_rfl,by kernel_rfl⟩
theorem E13 : Ent Tryz.prog 13 := ⟨_,Tryz.func13,by kernel_rfl,by kernel_rfl⟩
theorem E25 : Ent Tryz.prog 25 := ⟨_,Tryz.func25,by kernel_rfl,by kernel_rfl⟩
theorem E26 : Ent Tryz.prog 26 := ⟨_,Tryz.func26,by kernel_rfl,by kernel_rfl⟩
theorem E27 : Ent Tryz.prog 27 := ⟨_,Tryz.func27,by kernel_rfl,by kernel_rfl⟩
set_option maxRecDepth 8000
attribute [local irreducible] made10
theorem liveSets_ct {a0 : Value} {s : List Int} {N0 : Nat} (y0 y1 y2 : Int) (wy0 : IntKind.i64.wrap y0 = y0) (wy1 : IntKind.i64.wrap y1 = y1) (wy2 : IntKind.i64.wrap y2 = y2) : Tv Tryz.prog 7 #[a0,.agg #[.int .i64 y0,.int .i64 y1,.int .i64 y2]] [dv (rLn N0 (rI .i64)) a0 s] [] (.bool true) := by
 refine jenter (args := [a0,.agg #[.int .i64 y0,.int .i64 y1,.int .i64 y2]]) Tryz.func7 rfl rfl rfl fun w0 X => ?_
 have hsm : SmallF 8000 (made10 s) := by unfold made10; exact made7_small _
 refine jq (jr (jbox Z Z fun g3 => ja Z (jn (jx (jq (jr (jcv E11 Z Z shown_ct dn kn (ja Z (jn (jx ?_))))))))))
 refine jq (jr (jm Z (jdq d0 fun q1 w1 => jcs E12 Z Z made10_ct (dc d0 dn) kn fun c16 => jalc J28 Z fun g6 => jdq (rMFunc.cB d0) fun q3 w3 => jsta k0 Z28 Z Z Z ⟨Z,w3.one,trivial⟩ (saf Z) (jn (jx (jq (jr ?_)))))))
 refine js (jla k0 A28 Z28 Z Z Z) (js (jla k1 A23 Z23 Z Z Z) (jc E13 Z Z (r7turned_ct (y0) (y1) (y2) 8000 hsm (by omega)) (dc d0 dn) kn (fun _ => p1) (fun _ => p0) fun T4 => jalc J28 Z fun g7 => jdq (rMFunc.cB d0) fun q6 w6 => jsta k0 Z28 Z Z Z ⟨Z,w6.one,trivial⟩ (saf Z) (jn (jx (jq (jr (js (jla k1 A28 Z28 Z Z Z) (jc E25 Z Z sets_ct (dc d1 dn) kn (fun _ => p2) (fun _ => p0) fun c22 => ?_))))))))
 refine jm Z (js (jex' Z Z) (js (jex' Z Z) (ja Z (ja Z (jn (jx (jq (jr (js (jla k1 A28 Z28 Z Z Z) (jcs2 E26 Z Z rSets_ct (dc d3 dn) kn fun c26a c26b => jalc J56 Z fun g10 => ?_))))))))))
 refine jdq (rBo9.c_In d0) fun q10 w10 => jdq (rBo9.c_Out d0) fun q11 w11 => jsta k0 Z56 Z Z Z ⟨w10.one,w11.one,trivial⟩ (saf Z) (jn (jx (jq (jr (js (jla k1 A28 Z28 Z Z Z) (jc E25 Z Z sets_ct (dc d3 dn) kn (fun _ => p2) (fun _ => p0) fun c29 => jm Z (js (jex' Z Z) (js (jex' Z Z) ?_))))))))
 refine ja Z (ja Z (jn (jx (jq (jr (js (jla k1 A28 Z28 Z Z Z) (jcs2 E26 Z Z rSets_ct (dc d5 dn) kn fun c33a c33b => jalc J56 Z fun g13 => jdq (rBo9.c_In d0) fun q15 w15 => jdq (rBo9.c_Out d0) fun q16 w16 => jsta k0 Z56 Z Z Z ⟨w15.one,w16.one,trivial⟩ (saf Z) ?_)))))))
 refine jn (jx (jq (jr (jm Z (jm Z (jk Z Z (.t _) (jmv Z) (jk Z Z (.t _) (jf F56_0 Z) (jk Z Z (.t _) (jl k1 O52 Z Z) (jgk Z Z (.t _) (jdq d4 fun q17 w17 => jcv E27 Z Z rows_ct (dc d4 (dc (rBo9.c_In d3) dn)) kn ?_))))))))))
 rw [show (rowsQ (setsI (made10 s)) ((bothM (made10 s)).In)) = true from decide_eq_true rfl]
 refine js (jand Z Z) (jm Z (jk Z Z (.t _) (jmv Z) (jk Z Z (.t _) (jf F56_1 Z) (jk Z Z (.t _) (jl k1 O52 Z Z) (jgk Z Z (.t _) (jdq d5 fun q18 w18 => jcv E27 Z Z rows_ct (dc d5 (dc (rBo9.c_Out d3) dn)) kn ?_))))))
 rw [show (rowsQ (setsO (made10 s)) ((bothM (made10 s)).Out)) = true from decide_eq_true rfl]
 refine js (jand Z Z) (jm Z (jk Z Z (.t _) (jmv Z) (jk Z Z (.t _) (jf F56_0 Z) (jk Z Z (.t _) (jl k0 O52 Z Z) (jgk Z Z (.t _) (jdq d1 fun q19 w19 => jcv E27 Z Z rows_ct (dc d1 (dc (rBo9.c_In d0) dn)) kn ?_))))))
 rw [show (rowsQ (setsI T4.1.1) ((bothM T4.1.1).In)) = true from decide_eq_true rfl]
 refine js (jand Z Z) (jm Z (jk Z Z (.t _) (jmv Z) (jk Z Z (.t _) (jf F56_1 Z) (jk Z Z (.t _) (jl k0 O52 Z Z) (jgk Z Z (.t _) (jdq d2 fun q20 w20 => jcv E27 Z Z rows_ct (dc d2 (dc (rBo9.c_Out d0) dn)) kn ?_))))))
 rw [show (rowsQ (setsO T4.1.1) ((bothM T4.1.1).Out)) = true from decide_eq_true rfl]
 refine js (jand Z Z) (ja Z (jn (jx (jrt ?_))))
 exact jrB Z Z (by rfl)
end Go.Proofs.YtehhjlkmbdhckaaGreat
