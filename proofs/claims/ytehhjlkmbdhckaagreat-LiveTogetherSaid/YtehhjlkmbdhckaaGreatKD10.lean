/- Lemmas that the claim is made of. Conditions: each lemma names its own. -/
import Derived.Test.YtehhjlkmbdhckaaGreatKD9
import Derived.Test.YtehhjlkmbdhckaaGreatKD6
set_option linter.unusedSectionVars false
set_option linter.unusedSimpArgs false
set_option linter.unusedVariables false
namespace Go.Proofs.YtehhjlkmbdhckaaGreat
open Go.JE
theorem E94 : Ent Tryz.prog 94 := ⟨_,Tryz.func94,by kernel_rfl,by kernel_rfl⟩
theorem E95 : Ent Tryz.prog 95 := ⟨_,Tryz.func95,by kernel_rfl,by kernel_rfl⟩
theorem E96 : Ent Tryz.prog 96 := ⟨_,Tryz.func96,by kernel_rfl,by kernel_rfl⟩
theorem I37 : (Tryz.prog.info? 37).map (fun i => (i.zero,i.size,i.bytes)) = some (some (.agg #[.slice none 0 0,.slice none 0 0,.int .i64 0,.int .i64 0,.int .i64 0,.slice none 0 0,.int .i32 0]),7,104) := by kernel_rfl
theorem Z26 : Sz Tryz.prog 26 1 := by unfold Sz; kernel_rfl
theorem J28 : (Tryz.prog.info? 28).bind (·.zero) = some (.agg #[.int .i64 0,.slice none 0 0]) := by kernel_rfl
set_option maxRecDepth 8000 in
set_option maxHeartbeats 2000000 in
theorem r7of_ct {a0 : Value} {f : D.Func} {a1 : Value} {s : List Int} (hgf : goodF f) (hsz : cntT f.Blocks ≤ 50000) (hpr : 0 ≤ f.Params ∧ f.Params ≤ 1000) : Ts Tryz.prog 65 #[vFunc f a0,a1] [da rFunc (vFunc f a0) f,dv (rL (rI .i64)) a1 s] [] rMFunc vMFunc (of7 f s) := by
 refine jenter (args := [vFunc f a0,a1]) Tryz.func65 rfl rfl rfl fun w0 X => ?_
 have htr := top3_rng f
 refine jq (jr (jbox Z Z fun g2 => jalc J28 Z fun g4 => jn (jx (jq (jany false (.a 0 (.a 1 (.a 3 (.a 4 (.o 2 (.a 5 (.a 6 (.o 7 (.a 8 .e))))))))) Mixed (by kernel_rfl) (kc k1 kn) fun F1 => jy Z (jmv Z) (jy Z (jla k0 A104 Z104 Z Z Z) (jy Z (jf F104_0 Z) (jy Z (jl k0 O3 Z Z) ?_))))))))
 refine jyo Z (jcv E94 Z Z (r3top_ct (by first | decide | omega | assumption)) (dc d1 dn) kn (jyn d0 (kc k1 kn) (jy Z (jmax Z Z) (adq d2 fun q3 w3 => jy Z (jbu (v := .agg #[a1,.int .i64 0,.int .i64 (max (top3 f) f.Params),.slice none 0 0]) Z (fun _ => by obtain ⟨_,_,_,rfl⟩ := w3; kernel_rfl)) (jyo Z (jbox Z Z fun g19 => jnl (r := rMach) (E := 69) (jzn (c := 0) ⟨s,0,max (top3 f) f.Params,[]⟩ (kc k1 (kc k0 kn)) ⟨okQ0 (nb := 10000) (by omega) (by omega),Z⟩ fun mm0 hmm0 omm0 bmm0 => jyn d0 (kc k3 kn) (jy Z (jas Z) ?_))))))))
 refine jyd (jx (jq (jr (js (jf F104_0 Z) (js (jl k3 O3 Z Z) (js (jbu (v := .agg #[.int .i64 f.Params,.slice none 0 0]) Z (fun _ => by kernel_rfl)) (jalc J28 Z fun g6 => jsta k0 Z28 Z Z Z ⟨Z,Z,trivial⟩ (saf Z) (jn (jx (jq ?_))))))))))
 refine jq (jr (ja Z (jn (jx (jb (cnl (r := rMBlock) (E := 37) ?_))))))
 refine jlp (u5 fun (b : Nat) (ma : Mq) (bl : List D.MBlock) (vb : Value) (la : Value) => ⟨b ≤ f.Blocks.length ∧ bl.length = b ∧ ofQ f.Blocks mm0 = bl ++ ofQ (f.Blocks.drop b) ma ∧ okSq 10000 (16 * cntT (f.Blocks.take b)) s ma,[da rFunc (vFunc f a0) f,dv (rL (rI .i64)) a1 s],[gl X.n rMBlock 37 vb bl,bx g6 28 [.int .i64 f.Params,vb],bx g19 155 [a1,.int .i64 ma.k,.int .i64 ma.nx,la],bx g4 28 [.int .i64 0,.slice none 0 0],bx g2 104 [.int .i64 f.Params,a0]],[(2,.pointer (some ⟨g2,0,none⟩)),(4,.pointer (some ⟨g4,0,none⟩)),(5,.pointer (some ⟨g19,0,none⟩)),(6,.pointer (some ⟨g6,0,none⟩)),(7,.int .i64 (↑b))],f.Blocks.length - b⟩) (0,mm0,[],.slice none 0 0,.slice none 0 0) ⟨Nat.zero_le _,rfl,rfl,omm0.mono (by omega)⟩ (dc d2 (dc d3 dn)) (kd (kc k0 (kc k1 (kc k1 kn)))) ⟨Z,Z,Z,Z,eqI (by omega),trivial⟩ ?_
 rintro ⟨b,ma,bl,vb,la⟩; dsimp only [u5]; rintro ⟨hb,hbn,hOf,okL1⟩
 refine cgo k0 fun w5 => ?_
 have bdL1 := okQ.bnd okL1.1
 clear bmm0
 have hct := cntT_le f.Blocks b
 have hct1 := cntT_le f.Blocks (b + 1)
 refine jq (jq (jr (jm Z (js (jf F104_1 Z) (js (jl k4 O102 Z Z) (jdq (rFunc.cB d0) fun q6 w6 => js (jln U102 (rFunc.cB d0) Z) (js (jlss Z Z) (jn (jx ?_)))))))))
 refine jif Z (fun hc1 => ?_) (fun hc1 => ?_)
 have hct9 := cntT_take (l := f.Blocks) (k := b) (by omega)
 refine jsk (jx (jq (jb (jq (jr (js (jbu (v := .agg #[.slice none 0 0,.slice none 0 0,.int .i64 0,.int .i64 0,.int .i64 0,.slice none 0 0,.int .i32 0]) Z (fun _ => by kernel_rfl)) (jalc J37 Z fun g8 => jsta k0 Z37 Z Z Z ⟨Z,Z,Z,Z,Z,Z,Z,trivial⟩ (saf Z) (jn (jx (jq ?_))))))))))
 refine jq (jr (ja Z (jn (jx (jb (cnl (r := rPhi) (E := 62) ?_))))))
 refine jlp (u3 fun (i : Nat) (pl : List D.Phi) (vp : Value) => ⟨i ≤ (ix f.Blocks b).Phis.length ∧ pl = (ix f.Blocks b).Phis.take i ∧ okSq 10000 (16 * cntT (f.Blocks.take b)) s ma,[da rFunc (vFunc f a0) f,dv (rL (rI .i64)) a1 s],[gl X.n rPhi 62 vp pl,bx g8 37 [vp,.slice none 0 0,.int .i64 0,.int .i64 0,.int .i64 0,.slice none 0 0,.int .i32 0],gl X.n rMBlock 37 vb bl,bx g6 28 [.int .i64 f.Params,vb],bx g19 155 [a1,.int .i64 ma.k,.int .i64 ma.nx,la],bx g4 28 [.int .i64 0,.slice none 0 0],bx g2 104 [.int .i64 f.Params,a0]],[(2,.pointer (some ⟨g2,0,none⟩)),(4,.pointer (some ⟨g4,0,none⟩)),(5,.pointer (some ⟨g19,0,none⟩)),(6,.pointer (some ⟨g6,0,none⟩)),(7,.int .i64 (↑b)),(8,.pointer (some ⟨g8,0,none⟩)),(9,.int .i64 (↑i))],(ix f.Blocks b).Phis.length - i⟩) (0,[],.slice none 0 0) ⟨Nat.zero_le _,rfl,okL1.mono (Nat.le_refl _)⟩ (dc d0 (dc d1 dn)) (kd (kd (kd (kc k0 kn)))) ⟨Z,Z,Z,Z,Z,Z,eqI (by omega),trivial⟩ ?_
 rintro ⟨i,pl,vp⟩; dsimp only [u3]; rintro ⟨hi,hpl,okL2⟩
 refine cgo k0 fun w7 => ?_
 have bdL2 := okQ.bnd okL2.1
 clear bdL1
 have hpn : pl.length = i := by rw [hpl,List.length_take]; omega
 refine jq (jq (jr (jm Z (js (jf F104_1 Z) (js (jl k6 O102 Z Z) (jm Z (js (jix U102 Z160 (rFunc.cB d0) Z Z Z (by omega)) (js (jf F160_0 Z) (jev (jlV (rBlock.A_Phis (dix (rFunc.cB d0) b (by omega))) O32 Z Z) fun v37 q8 w8 => js (jln U32 d0 Z) (js (jlss Z Z) ?_))))))))))
 refine jn (jx ?_)
 refine jif Z (fun hc2 => ?_) (fun hc2 => ?_)
 refine jsk (jx (jq (jb (jq (jr (js (jf F104_1 Z) (js (jl k6 O102 Z Z) (jm Z (js (jix U102 Z160 (rFunc.cB d1) Z Z Z (by omega)) (js (jf F160_0 Z) (jev (jlV (rBlock.A_Phis (dix (rFunc.cB d1) b (by omega))) O32 Z Z) fun v47 q10 w10 => ?_)))))))))))
 refine jm Z (js (jix U32 Z62 d0 Z Z Z (by omega)) (jA sPhi (jlA (dix d0 i (by omega)) A62 Z62 Z) fun c50 => jalc J62 Z fun g10 => jdq (rPhi.c_In d0) fun q13 w13 => jsta k0 Z62 Z Z Z ⟨Z,w13.one,trivial⟩ (saf Z) (jn (jx (jany true (.a 0 (.a 1 (.a 2 (.a 3 (.a 5 (.a 6 (.o 4 (.o 7 (.a 8 (.o 9 (.o 10 (.a 11 (.o 12 .e))))))))))))) Mixed (by kernel_rfl) (kc k0 (kc k1 kn)) fun F14 => jy Z (jf F37_0 Z) (jy Z (jl k1 O32 Z Z) (jy Z (jf F62_0 Z) ?_)))))))
 refine jy Z (jl k0 O3 Z Z) (jy Z (jf F62_1 Z) (jy Z (jl k0 O60 Z Z) (jyo Z (jlit (r := rIn) (l := []) U60 I64 (by decide) Z Z Z ln fun g55 => jyn d0 (kc k1 (kc k2 kn)) (jyo Z (japlz U60 I64 (by decide) Z k0 Z Z (rPhi.c_In d2) (by (try simp) <;> omega) fun v58 w17 => jyn d0 (kc k1 (kc k2 kn)) (jy Z (jbu (v := .agg #[.int .i64 ((ix ((ix f.Blocks b).Phis) i).Dst),v58]) Z (fun _ => by obtain ⟨_,_,_,rfl⟩ := w17; kernel_rfl)) (jyo Z (jfz k0 (by (try simp) <;> omega) ?_)))))))))
 refine jlit (r := rPhi) (l := [⟨(ix ((ix f.Blocks b).Phis) i).Dst,(ix ((ix f.Blocks b).Phis) i).In⟩]) U32 I62 (by decide) Z Z Z (lA (rPhi.M (m := ⟨(ix ((ix f.Blocks b).Phis) i).Dst,(ix ((ix f.Blocks b).Phis) i).In⟩) (c := v58) d0 (rPhi.W_Dst d4)) ln) fun g60 => jyn d1 (kc k1 (kc k2 kn)) (jyo Z (jfz k0 (by (try simp) <;> omega) (japl U32 I62 (by decide) Z k1 Z Z d0 (by (try simp) <;> omega) fun v61 w22 => jyn d1 (kc k1 (kc k1 kn)) (jy Z (jf F37_0 Z) (jyo Z (jst k2 Z32 Z Z w22.one s0 (jyz d0 (jyd (jbn ?_)))))))))
 refine jx (jr (jm Z (js (jadd Z Z (by omega)) (ja Z (jn ?_)))))
 exact jag (i + 1,pl ++ ([⟨(ix ((ix f.Blocks b).Phis) i).Dst,(ix ((ix f.Blocks b).Phis) i).In⟩]),v61) ⟨by dsimp only; omega,by dsimp only; rw [hpl,take_ix (by omega)],okL2.mono (Nat.le_refl _)⟩ (dc d10 (dc d11 dn)) (kc k1 (kc k0 (kc k1 (kc k1 (kc k1 (kc k1 (kc k1 kn))))))) ⟨Z,Z,Z,Z,Z,Z,eqI (by omega),trivial⟩
 have hpl9 : (ix f.Blocks b).Phis = pl := by rw [hpl,List.take_of_length_le (by omega)]
 refine jex (jtx (jtx (jbh (jx (jq (jr (jm Z (js (jnil Z) (js (jf F155_3 Z) (jst k4 Z33 Z Z Z s3 (jnl (r := rMach) (E := 69) ?_)))))))))))
 refine jzn (c := 16 * cntT (f.Blocks.take b)) ({ ma with l := [] }) (kc k1 (kc k0 kn)) ⟨(okQ.setl okL2.1 (Nat.zero_le _) (Nat.le_refl _)),okL2.2⟩ fun ms25 hms25 oms25 bms25 => ?_
 clear bdL2
 refine jn (jx (jq (jq (jr (ja Z (jn (jx (jb ?_))))))))
 refine jlp (u3 fun (j : Nat) (mb : Mq) (al3 : Value) => ⟨j ≤ (ix f.Blocks b).Ins.length ∧ insQs (ix f.Blocks b).Ins (resQ ma) = insQs ((ix f.Blocks b).Ins.drop j) mb ∧ okSq 10000 (16 * cntT (f.Blocks.take b) + 12 * j) s mb,[da rFunc (vFunc f a0) f,dv (rL (rI .i64)) a1 s],[bx g19 155 [a1,.int .i64 mb.k,.int .i64 mb.nx,al3],gl X.n rMach 69 al3 mb.l,gl X.n rPhi 62 vp pl,bx g8 37 [vp,.slice none 0 0,.int .i64 0,.int .i64 0,.int .i64 0,.slice none 0 0,.int .i32 0],gl X.n rMBlock 37 vb bl,bx g6 28 [.int .i64 f.Params,vb],bx g4 28 [.int .i64 0,.slice none 0 0],bx g2 104 [.int .i64 f.Params,a0]],[(2,.pointer (some ⟨g2,0,none⟩)),(4,.pointer (some ⟨g4,0,none⟩)),(5,.pointer (some ⟨g19,0,none⟩)),(6,.pointer (some ⟨g6,0,none⟩)),(7,.int .i64 (↑b)),(8,.pointer (some ⟨g8,0,none⟩)),(11,.int .i64 (↑j))],(ix f.Blocks b).Ins.length - j⟩) (0,ms25,(.slice none 0 0)) ⟨Nat.zero_le _,by dsimp only; rw [hms25]; rfl,oms25.mono (Nat.le_refl _)⟩ (dc d1 (dc d2 dn)) (kd (kd (kd (kd kn)))) ⟨Z,Z,Z,Z,Z,Z,eqI (by omega),trivial⟩ ?_
 rintro ⟨j,mb,al3⟩; dsimp only [u3]; rintro ⟨hj,hIn,okL3⟩
 refine cgo k1 fun w26 => ?_
 have bdL3 := okQ.bnd okL3.1
 clear bms25
 refine jq (jq (jr (jm Z (js (jf F104_1 Z) (js (jl k7 O102 Z Z) (jm Z (js (jix U102 Z160 (rFunc.cB d0) Z Z Z (by omega)) (js (jf F160_1 Z) (jev (jlV (rBlock.A_Ins (dix (rFunc.cB d0) b (by omega))) O156 Z Z) fun v72 q27 w27 => js (jln U156 d0 Z) (js (jlss Z Z) ?_))))))))))
 refine jn (jx ?_)
 refine jif Z (fun hc3 => ?_) (fun hc3 => ?_)
 have hgi := hgf.ins (b := b) (j := j) (by omega) (by omega)
 refine jsk (jx (jq (jb (jr (jm Z (js (jf F104_1 Z) (js (jl k7 O102 Z Z) (jm Z (js (jix U102 Z160 (rFunc.cB d1) Z Z Z (by omega)) (js (jf F160_1 Z) (jev (jlV (rBlock.A_Ins (dix (rFunc.cB d1) b (by omega))) O156 Z Z) fun v83 q29 w29 => ?_)))))))))))
 refine jm Z (js (jix U156 Z163 d0 Z Z Z (by omega)) (jA sIns (jlA (dix d0 j (by omega)) A163 Z163 Z) fun c86 => jzb E95 Z Z (m7ins_ct okL3 (by omega) (by first | decide | omega | assumption) (by first | decide | omega | assumption)) (dc d4 (dc d0 dn)) (kd kn) ⟨insQ_ok okL3.1,(insQ_s.trans okL3.2)⟩ p0 fun m87 hm87 om87 bm87 ua87 w32 => ?_))
 clear bdL3
 refine jn (jbn (jx (jr (jm Z (js (jadd Z Z (by omega)) (ja Z (jn ?_)))))))
 exact jag (j + 1,m87,ua87) ⟨by dsimp only; omega,by dsimp only; rw [hIn,drop_ix (l := (ix f.Blocks b).Ins) (i := j) (by omega),insQs,hm87],om87.mono (by omega)⟩ (dc d3 (dc d4 dn)) (kd (kd (kd (kd kn)))) ⟨Z,Z,Z,Z,Z,Z,eqI (by omega),trivial⟩
 have hgt := hgf.term (b := b) (by omega)
 have hmb : mb = blkQm (ix f.Blocks b) ma := by unfold blkQm; rw [hIn,List.drop_of_length_le (show (ix f.Blocks b).Ins.length ≤ j by omega)]; rfl
 refine jex (jtx (jtx (jbh (jx (jq (jr (jm Z (js (jf F104_1 Z) (js (jl k7 O102 Z Z) (jm Z (js (jix U102 Z160 (rFunc.cB d1) Z Z Z (by omega)) ?_)))))))))))
 refine js (jf F160_2 Z) (jA2 sTerm (jlA (rBlock.A_Term (dix (rFunc.cB d1) b (by omega))) A158 Z158 Z) fun c94a c94b => jze E96 Z Z (m7end_ct okL3 (by omega) (by first | decide | omega | assumption)) (dc d3 (dc d0 dn)) (kd kn) ⟨endQ_ok okL3.1,(endQ_s.trans okL3.2)⟩ fun m95 hm95 om95 bm95 ua95 ce95 w34 => ?_)
 clear bdL3
 refine js (jf F37_2 Z) (jdq (rEnd.c_To d0) fun q36 w36 => jsta k3 Z35 Z Z Z ⟨Z,Z,Z,w36.one,Z,trivial⟩ sa.c.c.c.c.c.s.s (jn (jx (jq (jr (jm Z (js (jnil Z) (js (jf F155_3 Z) (js (jl k1 O33 Z Z) (js (jf F37_1 Z) ?_))))))))))
 refine jst k0 Z33 Z Z w34.one s1 (jn (jx (jr (js (jf F28_1 Z) (js (jl k5 O26 Z Z) (js (jla k0 A37 Z37 Z Z Z) (jfz k3 (by omega) (jfz k2 (by omega) (jap U26 I37 (by decide) Z k2 Z (rMBlock.M (m := ⟨pl,m95.l,endV ((ix f.Blocks b).Term) mb⟩) (c := (vp,ua95,ce95)) d1 d0 (rEnd.c_To d2) (rEnd.W_Op d2) (rEnd.W_A d2) (rEnd.W_B d2) (rEnd.W_Imm d2)) (by omega) (fun _ => Z) fun v106 _ w39 => js (jf F28_1 Z) (jst k3 Z26 Z Z w39.one s1 ?_))))))))))
 refine jn (jbn (jx (jr (jm Z (js (jadd Z Z (by omega)) (ja Z (jn ?_)))))))
 exact jag (b + 1,m95,bl ++ [⟨pl,m95.l,endV ((ix f.Blocks b).Term) mb⟩],v106,ua95) ⟨by dsimp only; omega,by dsimp only; rw [List.length_append,hbn]; rfl,by dsimp only; rw [hOf,drop_ix (l := f.Blocks) (i := b) (by omega),ofQ,List.append_assoc,blkQv,blkQt,← hmb,← hm95,hpl9]; rfl,om95.mono (by dsimp only; omega)⟩ (dc d5 (dc d6 dn)) (kc k1 (kc k0 (kc k1 (kc k1 (kc k1 kn))))) ⟨Z,Z,Z,Z,eqI (by omega),trivial⟩
 refine jex (jtx (jtx (jbh (jx (jq (jr (js (jla k1 A28 Z28 Z Z Z) (jsta k3 Z28 Z Z Z ⟨Z,w5.one,trivial⟩ (saf Z) (jn (jx (jrt ?_)))))))))))
 refine qfz k1 (by omega) ?_
 exact jrcA (val := vMFunc) (b := ⟨f.Params,bl⟩) (c := vb) Z Z k0 A28 Z28 Z (by unfold of7; rw [← hmm0,hOf,List.drop_of_length_le (show f.Blocks.length ≤ b by omega)]; simp [ofQ]) (rMFunc.M (m := ⟨f.Params,bl⟩) (c := vb) d0 (rFunc.W_Params d1))
def goodM (m : Mk) : Prop := ∀ b ∈ m.bs,goodB b
theorem goodB0 : goodB default := ⟨fun _ h => (List.not_mem_nil h).elim,⟨.inl (by decide),.inl (by decide)⟩⟩
theorem goodM.ix {m : Mk} (h : goodM m) (j : Nat) : goodB (ix m.bs j) := by
 by_cases hj : j < m.bs.length
 · exact h _ (ix_mem hj)
 · have : JE.ix m.bs j = default := by simp [JE.ix,hj]
   rw [this]; exact goodB0
theorem goodM.set {m : Mk} (h : goodM m) {j : Nat} {x : D.Block} (hx : goodB x) : goodM { m with bs := m.bs.set j x } := fun b hb => by
 rcases List.mem_or_eq_of_mem_set hb with h1 | h1
 · exact h b h1
 · exact h1 ▸ hx
theorem goodI2 {op d t a b n : Int} (h : 0 ≤ op ∧ op ≤ 1000) : goodI ⟨op,d,t,[a,b],n⟩ := ⟨h,.inr (.inr (.inr (by show 2 ≤ 2; omega)))⟩
section
variable {m : Mk} {b : Int}
theorem add_good {i : D.Ins} (h : goodM m) (hi : goodI i) : goodM (addS b i m) := by
 refine goodM.set (m := { m with lv := m.lv ++ makes3 i }) h ⟨fun x hx => ?_,(h.ix _).2⟩
 rcases List.mem_append.1 hx with h1 | h1
 · exact (h.ix b.toNat).1 _ h1
 · rw [List.mem_singleton.1 h1]; exact hi
theorem const_good {n : Int} (h : goodM m) : goodM (constS b n m) := add_good (m := freshS m) h ⟨(by dsimp only; omega),.inl rfl⟩
theorem value_good (h : goodM m) : goodM (valueS m) := by unfold valueS; split <;> exact h
theorem some0_good (h : goodM m) : goodM (someM0 m) := by unfold someM0; split <;> exact value_good h
theorem some_good (h : goodM m) : goodM (sS9 b m) := by
 unfold sS9; split
 · exact const_good (m := wordS (someM0 m)) (some0_good h)
 · exact some0_good h
theorem mem1_good (h : goodM m) : goodM (mem1 b m).2 := by
 unfold mem1; dsimp only; split
 · exact add_good (m := freshS _) (add_good (m := freshS _) (const_good (some_good (m := tSS _) (const_good (m := tSS m) h))) (goodI2 (by decide))) (goodI2 (by decide))
 · exact const_good (m := tSS m) h
theorem mem2_good (h : goodM m) : goodM (mem2 m).2 := by unfold mem2; dsimp only; split <;> exact h
theorem mem_good {s : Bool} (h : goodM m) : goodM (memS b s m) := by
 unfold memS; dsimp only; split
 · exact add_good (some_good (mem2_good (mem1_good h))) (goodI2 (by decide))
 · exact add_good (m := freshS _) (mem2_good (mem1_good h)) ⟨(by dsimp only; omega),.inr (.inr (.inl ⟨rfl,by show 1 ≤ 1; omega⟩))⟩
theorem args_good : ∀ (n : Nat) (l : List Int) (m : Mk),goodM m → goodM (argsL b n l m).2
 | 0,_,_,h => h
 | n + 1,_,_,h => args_good n _ _ (some_good h)
theorem op_rng {k : Int} (h : 0 ≤ k ∧ k < 12) : 0 ≤ ix [(2 : Int),2,3,4,5,6,7,8,9,10,12,11] k.toNat ∧ ix [(2 : Int),2,3,4,5,6,7,8,9,10,12,11] k.toNat ≤ 1000 := by
 obtain ⟨n,rfl⟩ : ∃ n : Nat,k = n := ⟨k.toNat,by omega⟩
 have : n = 0 ∨ n = 1 ∨ n = 2 ∨ n = 3 ∨ n = 4 ∨ n = 5 ∨ n = 6 ∨ n = 7 ∨ n = 8 ∨ n = 9 ∨ n = 10 ∨ n = 11 := by omega
 rcases this with rfl | rfl | rfl | rfl | rfl | rfl | rfl | rfl | rfl | rfl | rfl | rfl <;> decide
theorem op3_rng {k : Int} (h : 0 ≤ k ∧ k < 3) : 0 ≤ ix [(11 : Int),12,13] k.toNat ∧ ix [(11 : Int),12,13] k.toNat ≤ 1000 := by
 obtain ⟨n,rfl⟩ : ∃ n : Nat,k = n := ⟨k.toNat,by omega⟩
 have : n = 0 ∨ n = 1 ∨ n = 2 := by omega
 rcases this with rfl | rfl | rfl <;> decide
theorem ins_good (h : goodM m) : goodM (insS b m) := by
 have h20 := tV9 (n := 20) (by omega) m
 have h2 : goodM (sS9 b (tSS m)) := some_good (m := tSS m) h
 have h3 := some_good (b := b) h2
 unfold insS; dsimp only
 split
 · rename_i hk
   split
   · exact add_good (m := freshS _) (const_good (m := tSS (tSS _)) h3) (goodI2 (op_rng ⟨h20.1,hk⟩))
   · exact add_good (m := freshS (tSS _)) h3 (goodI2 (op_rng ⟨h20.1,hk⟩))
 split
 · exact add_good (m := freshS _) h3 (goodI2 (by decide))
 split
 · split
   · exact add_good (m := freshS _) (const_good (m := tSS (tSS _)) (const_good (m := tSS _) h2)) (goodI2 (by decide))
   · exact add_good (m := freshS (tSS _)) (const_good (m := tSS _) h2) (goodI2 (by decide))
 split
 · exact mem_good (m := tSS m) h
 split
 · exact add_good (m := tSS (freshS _)) (args_good _ _ (tSS (tSS m)) h) ⟨(by dsimp only; omega),.inr (.inl rfl)⟩
 split
 · exact add_good (m := freshS (freshS _)) h3 (goodI2 (by decide))
 · exact const_good (m := wordS (tSS m)) h
theorem setT_good {t : D.Term} (h : goodM m) (ht : goodT t) : goodM (setT b t m) := h.set ⟨(h.ix _).1,ht⟩
theorem end_good {l : List Int} (h : goodM m) : goodM (endS b l m) := by
 have hA : ∀ (t : D.Term),t.Kind ≠ 2 → t.Kind ≠ 3 → goodT t := fun t h1 h2 => ⟨.inl h1,.inl h2⟩
 unfold endS; dsimp only
 split
 · split
   · exact setT_good (m := tSS (tSS m)) h (hA _ (by dsimp only; omega) (by dsimp only; omega))
   split
   · exact setT_good (some_good (m := tSS m) h) (hA _ (by dsimp only; omega) (by dsimp only; omega))
   · exact setT_good (m := tSS m) h (hA _ (by dsimp only; omega) (by dsimp only; omega))
 split
 · exact setT_good h (hA _ (by dsimp only; omega) (by dsimp only; omega))
 split
 · rename_i hl
   have hB : ∀ a : Int,goodT ⟨2,[a],l,0⟩ := fun a => ⟨.inr ⟨by show 1 ≤ 1; omega,by show 2 ≤ l.length; omega⟩,.inl (by dsimp only; omega)⟩
   have h1 : goodM (sS9 b m) := some_good h
   split
   · exact setT_good (add_good (m := tSS (freshS _)) (some_good (m := tSS _) h1) (goodI2 (op3_rng (tV9 (by omega) _)))) (hB _)
   · exact setT_good (m := tSS _) h1 (hB _)
 · exact setT_good (add_good (m := freshS _) (const_good (some_good h)) (goodI2 (by decide))) ⟨.inl (by dsimp only; omega),.inr (by show 1 ≤ 1; omega)⟩
end
def fgM (nb c : Nat) (m : Mk) : Prop := okM nb c m ∧ goodM m
theorem fgM.mono {nb c c' : Nat} {m : Mk} (h : fgM nb c m) (hc : c ≤ c') : fgM nb c' m := ⟨h.1.mono hc,h.2⟩
def kzB (b : D.Block) : Prop := b.Ins = [] ∧ b.Term.Kind = 0
theorem kzB.good {b : D.Block} (h : kzB b) : goodB b := ⟨fun i hi => (by rw [h.1] at hi; cases hi),⟨.inl (by rw [h.2]; decide),.inl (by rw [h.2]; decide)⟩⟩
theorem fg_toS {nb c : Nat} {to : List (List Int)} : ∀ (k b : Nat) (m : Mk),okM nb c m → (∀ x ∈ m.bs,kzB x) → fgM nb c (toS to k b m)
 | 0,_,_,h,h2 => ⟨h,fun x hx => (h2 x hx).good⟩
 | k + 1,b,m,h,h2 => by
   refine fg_toS k (b + 1) _ (okM.setb (d := 0) h (Nat.le_refl _)) (fun x hx => ?_)
   rcases List.mem_or_eq_of_mem_set hx with h1 | h1
   · exact h2 x h1
   · subst h1
     by_cases hj : b < m.bs.length
     · have h3 := h2 _ (ix_mem hj)
       exact ⟨h3.1,h3.2⟩
     · have : ix m.bs b = default := by simp [ix,hj]
       rw [this]; exact ⟨rfl,rfl⟩
theorem fg_addP {nb c b : Nat} {m : Mk} (h : fgM nb c m) : fgM nb (c + 2) (addP b m) :=
 ⟨okM.setb (d := 1) (fresh_ok h.1) (by dsimp only; rw [List.length_append]; simp only [List.length_cons,List.length_nil]; exact Nat.le_of_eq (by show _ + 1 + _ = _ + _ + 1; omega)),goodM.set (m := freshS m) h.2 ⟨(h.2.ix b).1,(h.2.ix b).2⟩⟩
theorem fg_phiN {nb b : Nat} : ∀ (k : Nat) {c : Nat} {m : Mk},fgM nb c m → fgM nb (c + 2 * k) (phiN b k m)
 | 0,_,_,h => h
 | k + 1,_,_,h => (fg_phiN k (fg_addP h)).mono (by omega)
theorem fg_take {nb c : Nat} {m : Mk} (h : fgM nb c m) : fgM nb (c + 1) (tSS m) := ⟨tO9 h.1,h.2⟩
theorem fg_phiS {nb : Nat} : ∀ (k b : Nat) (ph : List Int) {c : Nat} {m : Mk},fgM nb c m → (∀ j,0 ≤ ix ph j ∧ ix ph j ≤ 3) → fgM nb (c + 7 * k) (phiS k b ph m).2 ∧ ∀ j,0 ≤ ix (phiS k b ph m).1 j ∧ ix (phiS k b ph m).1 j ≤ 3
 | 0,_,_,_,_,h,h2 => ⟨h,h2⟩
 | k + 1,b,ph,c,m,h,h2 => by
   have h3 := phiR_rng (b := b) (m := m) h2
   have h4 := h3 b
   have h5 := fg_phiN (b := b) (ix (phiR b ph m) b).toNat (fg_take h)
   have h6 := fg_phiS k (b + 1) (phiR b ph m) (h5.mono (c' := c + 7) (by omega)) h3
   exact ⟨h6.1.mono (by omega),h6.2⟩
theorem fg_insN {nb b : Nat} (hb : b < nb) : ∀ (k : Nat) {c : Nat} {m : Mk},fgM nb c m → fgM nb (c + 60 * k) (insN b k m)
 | 0,_,_,h => h
 | k + 1,_,_,h => (fg_insN hb k ⟨ins3_ok h.1 (by omega),ins_good h.2⟩).mono (by omega)
theorem fg_blk {nb n b c : Nat} {to : List (List Int)} {dn : List Bool} {m : Mk} (h : fgM nb c m) (hn : n ≤ nb) (hb : b < nb) : fgM nb (c + 410) (blkM n to b dn m) := by
 have h7 := tV9 (n := 7) (by omega) (lvM n b dn m)
 have hl : fgM nb c (lvM n b dn m) := ⟨okM.setlv h.1 (by
   have h1 := lvF_len (f := fnM m) (dn := dn) (b := b) (a := n) (by show n ≤ m.bs.length; rw [h.1.2.2.2.2.1]; exact hn)
   have h2 := cntT_le m.bs n
   have h3 := h.1.bnd
   have h4 : (fnM m).Params = m.par := rfl
   have h5 : (fnM m).Blocks = m.bs := rfl
   rw [h4,h5] at h1; omega) (Nat.le_refl _),h.2⟩
 have h1 := fg_insN hb (tVV 7 (lvM n b dn m)).toNat (fg_take hl)
 exact ⟨(end_ok (l := ix to b) h1.1 (by omega)).mono (by omega),end_good h1.2⟩
theorem fg_row {nb n : Nat} {to : List (List Int)} (hn : n ≤ nb) : ∀ (k b : Nat) (dn : List Bool) {c : Nat} {m : Mk},b + k ≤ nb → fgM nb c m → fgM nb (c + 410 * k) (rowS n to k b dn m).2
 | 0,_,_,_,_,_,h => h
 | k + 1,b,dn,c,m,hb,h => by
   unfold rowS; split
   · exact (fg_row hn k (b + 1) _ (by omega) (fg_blk h hn (by omega))).mono (by omega)
   · exact (fg_row hn k (b + 1) _ (by omega) h).mono (by omega)
theorem fg_turn {nb n : Nat} {to : List (List Int)} (hn : n ≤ nb) (h9 : n ≤ 9) : ∀ (k : Nat) (dn : List Bool) {c : Nat} {m : Mk},fgM nb c m → fgM nb (c + 3690 * k) (turnS n to k dn m).2
 | 0,_,_,_,h => h
 | k + 1,dn,c,m,h => by
   unfold turnS
   exact (fg_turn hn h9 k _ ((fg_row (to := to) hn n 0 dn (by omega) h).mono (c' := c + 3690) (by omega))).mono (by omega)
theorem fg_inX {nb c : Nat} {p : Int} {m : Mk} (h : fgM nb c m) (hp : p.toNat < nb) : fgM nb (c + 6) (inX p m).2 := by
 unfold inX; split
 · exact ⟨tO9 (const_ok (word_ok h.1) hp),const_good (m := wordS m) h.2⟩
 · exact (fg_take h).mono (by omega)
theorem fg_inS {nb : Nat} {p : List Int} (hp : ∀ x ∈ p,0 ≤ x ∧ x < nb) (h0 : 0 < nb) : ∀ (k i : Nat) (l : List D.In) {c : Nat} {m : Mk},fgM nb c m → fgM nb (c + 6 * k) (inS p k i l m).2
 | 0,_,_,_,_,h => h
 | k + 1,i,l,c,m,h => by
   unfold inS
   have h1 : (ix p i).toNat < nb := by
     by_cases hi : i < p.length
     · have := hp _ (ix_mem hi); omega
     · have : ix p i = 0 := by simp [ix,hi]
       rw [this]; exact h0
   exact (fg_inS hp h0 k (i + 1) _ (fg_inX h h1)).mono (by omega)
theorem fg_putIn {nb c b i : Nat} {l : List D.In} {m : Mk} (h : fgM nb c m) : fgM nb c (putIn b i l m) := ⟨okM.setb (d := 0) h.1 (by dsimp only; rw [List.length_set]; exact Nat.le_refl _),h.2.set ⟨(h.2.ix b).1,(h.2.ix b).2⟩⟩
theorem fg_inP {nb b : Nat} {p : List Int} (hp : ∀ x ∈ p,0 ≤ x ∧ x < nb) (h0 : 0 < nb) (h9 : p.length ≤ 9) : ∀ (k i : Nat) {c : Nat} {m : Mk},fgM nb c m → fgM nb (c + 54 * k) (inP p b k i m)
 | 0,_,_,_,h => h
 | k + 1,i,c,m,h => by
   unfold inP
   exact (fg_inP hp h0 h9 k (i + 1) (fg_putIn ((fg_inS hp h0 p.length 0 [] h).mono (c' := c + 54) (by omega)))).mono (by omega)
theorem fg_fin {nb : Nat} {ph : List Int} (h0 : 0 < nb) (h9 : nb ≤ 9) (hph : ∀ j,0 ≤ ix ph j ∧ ix ph j ≤ 3) : ∀ (k b : Nat) {c : Nat} {m : Mk},fgM nb c m → fgM nb (c + 200 * k) (finS ph k b m)
 | 0,_,_,_,h => h
 | k + 1,b,c,m,h => by
   unfold finS
   have hl : (fnM m).Blocks.length = nb := h.1.2.2.2.2.1
   have h1 : ∀ x ∈ pd3 (fnM m) b,0 ≤ x ∧ x < nb := fun x hx => by have := preds3_rng x hx; rw [hl] at this; exact this
   have h2 := preds3_len (fnM m) b
   rw [hl] at h2
   have h3 := hph b
   exact (fg_fin h0 h9 hph k (b + 1) ((fg_inP h1 h0 (by omega) (b := b) (ix ph b).toNat 0 h).mono (c' := c + 200) (by omega))).mono (by omega)
theorem mdF_fg (s : List Int) : fgM (mdN s).toNat 36000 (mdF s) := by
 have h0 : okM 0 10 (md0 s) := by
   have h5 := tV9 (n := 5) (by omega) ⟨s,0,0,[],0,[]⟩
   have h1 : okM 0 1 (mdP ⟨s,0,0,[],0,[]⟩) := okM.setpar (tO9 (okM0 s)) (by omega) (Nat.le_refl _)
   exact okM.setnx h1 (by show 0 ≤ tVV 5 _ ∧ tVV 5 _ ≤ _; omega) (by omega)
 have h9 := tV9 (n := 9) (by omega) (md0 s)
 have hN : 1 ≤ mdN s ∧ mdN s ≤ 9 := by unfold mdN; omega
 have h1 : okM 0 81 (mdT s).2 := targ_ok (tO9 h0) hN.2
 have h2 : okM (mdN s).toNat 90 { (mdT s).2 with bs := List.replicate (mdN s).toNat default } := okM.mono (okM.setbs h1) (by omega)
 have h3 : fgM (mdN s).toNat 90 (mdB s) := fg_toS _ _ _ h2 (fun x hx => by rw [List.eq_of_mem_replicate hx]; exact ⟨rfl,rfl⟩)
 have h4 := fg_phiS ((mdN s).toNat - 1) 1 (List.replicate (mdN s).toNat 0) h3 (fun j => by have := rng_rep (n := (mdN s).toNat) j; omega)
 have h5 : fgM (mdN s).toNat 200 (mdH s).2 := h4.1.mono (by omega)
 have h6 : fgM (mdN s).toNat (200 + 3690 * 9) (mdD s).2 := (fg_turn (Nat.le_refl _) (by omega) (mdN s).toNat _ h5).mono (by omega)
 exact (fg_fin (by omega) (by omega) h4.2 ((mdN s).toNat - 1) 1 h6).mono (by omega)
theorem made3_good (s : List Int) : goodF (made3 s) := (mdF_fg s).2
theorem made3_cnt (s : List Int) : cntT (made3 s).Blocks ≤ 50000 := Nat.le_trans (mdF_fg s).1.2.2.2.2.2 (by omega)
theorem made3_par (s : List Int) : 0 ≤ (made3 s).Params ∧ (made3 s).Params ≤ 4 := (mdF_fg s).1.2.2.1
def made7 (s : List Int) : D.MFunc := of7 (made3 s) s.reverse
theorem rev_step {s : List Int} {k : Nat} (h : k < s.length) : (s.drop (s.length - k)).reverse ++ [ix s (s.length - 1 - k)] = (s.drop (s.length - (k + 1))).reverse := by
 have h1 : s.drop (s.length - (k + 1)) = ix s (s.length - 1 - k) :: s.drop (s.length - k) := by
   rw [drop_ix (l := s) (i := s.length - (k + 1)) (by omega)]
   rw [show s.length - (k + 1) = s.length - 1 - k by omega,show s.length - 1 - k + 1 = s.length - k by omega]
 rw [h1,List.reverse_cons]
theorem E65 : Ent Tryz.prog 65 := ⟨_,Tryz.func65,by kernel_rfl,by kernel_rfl⟩
theorem E66 : Ent Tryz.prog 66 := ⟨_,Tryz.func66,by kernel_rfl,by kernel_rfl⟩
set_option maxRecDepth 4000 in
theorem r7made_ct {a0 : Value} {s : List Int} : Ts Tryz.prog 37 #[a0] [dv (rL (rI .i64)) a0 s] [] rMFunc vMFunc (made7 s) := by
 refine jenter (args := [a0]) Tryz.func37 rfl rfl rfl fun w0 X => ?_
 refine jq (jr (jalc J28 Z fun g2 => jn (jx (jq (jr (jlit (r := (rI .i64)) (l := []) U22 I3 (by decide) Z Z Z ln fun g5 => ja Z (jn (jx (jq ?_)))))))))
 refine jq (jr (jm Z (jdq d0 fun q1 w1 => js (jln U22 d0 Z) (js (jsub Z Z (by omega)) (ja Z (jn (jx (jb ?_))))))))
 refine jlp (u3 fun (k : Nat) (vo : Value) (rl : List Int) => ⟨k ≤ s.length ∧ rl = (s.drop (s.length - k)).reverse,[dv (rL (rI .i64)) a0 s],[gl X.n (rI .i64) 3 vo rl,bx g2 28 [.int .i64 0,.slice none 0 0]],[(0,a0),(2,.pointer (some ⟨g2,0,none⟩)),(3,vo),(4,.int .i64 ((s.length : Int) - 1 - ↑k))],s.length - k⟩) (0,(.slice (some ⟨g5,0,none⟩) 0 0),[]) ⟨Nat.zero_le _,by simp⟩ (dc d0 dn) (kd kn) ⟨Z,Z,Z,eqI (by omega),trivial⟩ ?_
 rintro ⟨k,vo,rl⟩; dsimp only [u3]; rintro ⟨hk,hrl⟩
 refine cgo k0 fun w2 => ?_
 have hrn : rl.length = k := by rw [hrl]; simp; omega
 refine jq (jq (jr (jm Z (js (jgeq Z Z) (jn (jx ?_))))))
 refine jif Z (fun hc1 => ?_) (fun hc1 => ?_)
 refine jsk (jx (jq (jb (jr (jm Z (jm Z (jm Z (js (jix (i := (s.length - 1 - k)) U22 Z3 d0 Z Z (by omega) (by omega)) (js (jlI (dix d0 (s.length - 1 - k) (by omega)) O3 Z) (japv U22 I3 (by decide) Z Z k0 Z (wI (wad (dix d0 (s.length - 1 - k) (by omega)))) (by omega) (fun _ => Z) fun v19 _ w3 => ja Z ?_))))))))))
 refine jn (jbn (jx (jr (jm Z (js (jsub Z Z (by omega)) (ja Z (jn ?_)))))))
 exact jag (k + 1,v19,rl ++ [ix s (s.length - 1 - k)]) ⟨by dsimp only; omega,by dsimp only; rw [← rev_step (by omega),hrl]⟩ (dc d0 dn) (kd kn) ⟨Z,Z,Z,eqI (by omega),trivial⟩
 refine jex (jtx (jtx (jbh (jx (jq (jr (jm Z (jcs E66 Z Z r3made_ct (dc d0 dn) kn fun c21 => jfz k0 (by omega) (jm Z (jcs E65 Z Z (r7of_ct (by first | exact made3_good _ | exact made3_cnt _ | (have h9 := made3_par s; omega) | omega) (by first | exact made3_good _ | exact made3_cnt _ | (have h9 := made3_par s; omega) | omega) (by first | exact made3_good _ | exact made3_cnt _ | (have h9 := made3_par s; omega) | omega)) (dc d1 (dc d0 dn)) kn fun c23 => ?_))))))))))
 refine jdq (rMFunc.cB d0) fun q7 w7 => jsta k0 Z28 Z Z Z ⟨Z,w7.one,trivial⟩ (saf Z) (jn (jx (jrt ?_)))
 exact jrcA (val := vMFunc) (b := of7 (made3 s) rl) (c := c23) Z Z k0 A28 Z28 Z (by unfold made7; rw [hrl,show s.length - k = 0 by omega]; rfl) d0
end Go.Proofs.YtehhjlkmbdhckaaGreat
namespace Go.JE
variable {P : Program} {D D0 : List Dt} {L M : List Res} {e : Env} {X : Cx} {n : Fs} {w0 : World} {Q : Exit → Act → World → Prop}
section
variable {ops : Array Oper} {op : Op} {d : Nat} {ty : TypeId} {pos : String} {af : Array Edge} {rest : List Oper} {f : FuncId} {g : Operand} {xs : List Operand} {vs cs : List Value} {ts : Array TypeId}
theorem jgk {j t : Nat} {want : Bool} {u : Value} (hj : (ops[j]?).bind (·.dst) = some t) (hu : lk e t = some u) (hB : Gd u want true) (h : LH P n w0 ops Q X D L e (⟨some d,op,ty,pos,af,none⟩ :: rest)) (ht : Nat.blt t n.sz = true := by rfl) : LH P n w0 ops Q X D L e (⟨some d,op,ty,pos,af,some (j,want)⟩ :: rest) := fun F H hp a w hf hw => by
 have hwt := wanted_gd (o := ⟨some d,op,ty,pos,af,some (j,want)⟩) rfl hj ht hf hu hB
 have h1 := h F H hp a w hf hw
 unfold wpList at h1 ⊢
 rw [if_pos hwt]
 rw [if_pos (by simp [Region.wanted])] at h1
 exact h1
instance : Inhabited Value := ⟨undef⟩
end
section
open Go
variable {fn : Func} {m : Nat} {ι : Type} {val : ι → Value} {dr : ι → List Dt} {lr : Nat → ι → List Res}
end
end Go.JE
namespace Go.Proofs.YtehhjlkmbdhckaaGreat
open Go.JE
def oneM (p : Int) (e : D.End) (l : List D.Mach) : D.MFunc := ⟨p,[⟨[],l,e⟩]⟩
attribute [local irreducible] runM funcM oneM
end Go.Proofs.YtehhjlkmbdhckaaGreat
namespace Go.Proofs.YtehhjlkmbdhckaaGreat
open Go.JE
end Go.Proofs.YtehhjlkmbdhckaaGreat
namespace Go.JE
open Go
variable {P : Program} {D D0 : List Dt} {L M : List Res} {e : Env} {X : Cx} {n : Fs} {w0 : World} {Q : Exit → Act → World → Prop}
section
variable {α : Type} {r : Rp α} {F : PH} {H : Heap} {x y : Operand} {T E : TypeId} {z : Value} {bytes B : Nat} {w2 : Value} {l m : List α} {N N2 : Nat} {ad : Addr}
end
section
variable {α : Type} {r : Rp α} {ops : Array Oper} {d : Nat} {ty : TypeId} {pos : String} {af : Array Edge} {rest : List Oper} {x y hx' mx' : Operand} {T E : TypeId} {z v w2 : Value} {bytes : Nat} {l m : List α} {k k' : IntKind} {I J : Int} {hi N : Nat}
end
section
variable {α : Type} {r : Rp α} {ops : Array Oper} {d : Nat} {ty : TypeId} {pos : String} {af : Array Edge} {rest : List Oper} {x y : Operand} {T E : TypeId} {z v w2 : Value} {bytes : Nat} {l m : List α} {N : Nat}
end
section
variable {α : Type} {r : Rp α} {x hx' mx' : Operand} {T E : TypeId} {v : Value} {l : List α} {k k' : IntKind} {I J : Int} {hi N : Nat}
end
end Go.JE
namespace Go.Proofs.YtehhjlkmbdhckaaGreat
open Go.JE
end Go.Proofs.YtehhjlkmbdhckaaGreat
