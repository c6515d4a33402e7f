/- Lemmas that the claim is made of. Conditions: each lemma names its own. -/
import Derived.Test.YtehhjlkmbdhckaaGreatKD4
set_option linter.unusedSectionVars false
set_option linter.unusedSimpArgs false
set_option linter.unusedVariables false
namespace Go.Proofs.YtehhjlkmbdhckaaGreat
open Go.JE
abbrev U26 := @Tryz.underlying26
abbrev U52 := @Tryz.underlying52
theorem A37 : ∃ d,Tryz.prog.underlying 37 = some d ∧ (match d with | .struct _ | .array _ _ => true | _ => false) = true := ⟨_,Tryz.underlying37,rfl⟩
theorem E136 : Ent Tryz.prog 136 := ⟨_,Tryz.func136,by kernel_rfl,by kernel_rfl⟩
theorem E137 : Ent Tryz.prog 137 := ⟨_,Tryz.func137,by kernel_rfl,by kernel_rfl⟩
theorem E138 : Ent Tryz.prog 138 := ⟨_,Tryz.func138,by kernel_rfl,by kernel_rfl⟩
theorem F28_1 : Fld Tryz.prog 28 1 1 := ⟨_,_,Tryz.underlying28,rfl,rfl,1,(by unfold Sz; kernel_rfl),by decide⟩
theorem F37_0 : Fld Tryz.prog 37 0 0 := ⟨_,_,Tryz.underlying37,rfl,rfl,1,(by unfold Sz; kernel_rfl),by decide⟩
theorem F37_2 : Fld Tryz.prog 37 2 2 := ⟨_,_,Tryz.underlying37,rfl,rfl,5,(by unfold Sz; kernel_rfl),by decide⟩
theorem I22 : (Tryz.prog.info? 22).map (fun i => (i.zero,i.size,i.bytes)) = some (some (.slice none 0 0),1,24) := by kernel_rfl
theorem I4 : (Tryz.prog.info? 4).map (fun i => (i.zero,i.size,i.bytes)) = some (some (.bool false),1,1) := by kernel_rfl
theorem O26 : One Tryz.prog 26 := ⟨_,Tryz.underlying26,rfl⟩
theorem O32 : One Tryz.prog 32 := ⟨_,Tryz.underlying32,rfl⟩
theorem Z22 : Sz Tryz.prog 22 1 := by unfold Sz; kernel_rfl
theorem Z37 : Sz Tryz.prog 37 7 := by unfold Sz; kernel_rfl
theorem J37 : (Tryz.prog.info? 37).bind (·.zero) = some (.agg #[.slice none 0 0,.slice none 0 0,.int .i64 0,.int .i64 0,.int .i64 0,.slice none 0 0,.int .i32 0]) := by kernel_rfl
theorem J62 : (Tryz.prog.info? 62).bind (·.zero) = some (.agg #[.int .i64 0,.slice none 0 0]) := by kernel_rfl
theorem bad_yes {bs : List D.MBlock} {ls : List (List Int)} {k : Nat} {p : D.Phi} (hk : k < bs.length) (hls : ∀ b : Nat,b < bs.length → ls.getD b [] = predsT bs bs.length b) (h : (k : Int) = 0 ∨ eqfM p.In (ix ls k) = false) : badPhi bs k p = true := by
 have h1 : ix ls k = predsM bs k := hls k hk
 unfold badPhi
 rcases h with h | h
 · rw [decide_eq_true (by omega)]; rfl
 · rw [h1] at h; unfold eqfM at h; rw [h]; simp
theorem bad_no {bs : List D.MBlock} {ls : List (List Int)} {k : Nat} {p : D.Phi} (hk : k < bs.length) (hls : ∀ b : Nat,b < bs.length → ls.getD b [] = predsT bs bs.length b) (h : ¬ (k : Int) = 0 ∧ eqfM p.In (ix ls k) = true) : badPhi bs k p = false := by
 have h1 : ix ls k = predsM bs k := hls k hk
 unfold badPhi
 obtain ⟨h,h2⟩ := h
 rw [h1] at h2; unfold eqfM at h2; rw [h2,decide_eq_false (by omega)]; rfl
section
variable {m : D.MFunc} {f : Nat} {se : List Bool} {q : List Int}
theorem graph_re (hb : reachedM m.Blocks = bfs m.Blocks f se q) (hq : q = []) : reachedM m.Blocks = se := by rw [hb,hq,bfs_nil]
theorem graph_15 (hb : reachedM m.Blocks = bfs m.Blocks f se q) (hq : q = []) (h : 0 ≤ idxBool se false) : graphM m = (15,idxBool se false,0) := by
 unfold graphM; rw [graph_re hb hq]; unfold idxBool at h ⊢; rw [if_pos h]
theorem graph_no (hb : reachedM m.Blocks = bfs m.Blocks f se q) (hq : q = []) (h : ¬ 0 ≤ idxBool se false) : graphM m = graphPhis m.Blocks 0 m.Blocks := by
 unfold graphM; rw [graph_re hb hq]; unfold idxBool at h; rw [if_neg h]
theorem graph_16 (hb : reachedM m.Blocks = bfs m.Blocks f se q) (hq : q = []) (h : ¬ 0 ≤ idxBool se false) {k i : Nat} (hk : k < m.Blocks.length) (hi : i < (ix m.Blocks k).Phis.length) (hG : graphPhis m.Blocks 0 m.Blocks = graphPhis m.Blocks k (m.Blocks.drop k)) (hno : ∀ p ∈ (ix m.Blocks k).Phis.take i,badPhi m.Blocks k p = false) (h2 : badPhi m.Blocks k (ix (ix m.Blocks k).Phis i) = true) : graphM m = (16,(k : Int),-1 - (i : Int)) := by
 rw [graph_no hb hq h]; exact phis_bad hk hi hG hno h2
theorem graph_0 (hb : reachedM m.Blocks = bfs m.Blocks f se q) (hq : q = []) (h : ¬ 0 ≤ idxBool se false) {k : Nat} (hk : m.Blocks.length ≤ k) (hG : graphPhis m.Blocks 0 m.Blocks = graphPhis m.Blocks k (m.Blocks.drop k)) : graphM m = (0,0,0) := by
 rw [graph_no hb hq h,hG,List.drop_of_length_le hk]; rfl
end
set_option maxRecDepth 4000 in
theorem pGraph_ct {a0 : Value} {m : D.MFunc} (hn : 0 < m.Blocks.length) (hT : ∀ x ∈ m.Blocks,∀ t ∈ x.End.To,1 ≤ t ∧ t < m.Blocks.length) : Tv Tryz.prog 93 #[vMFunc m a0] [da rMFunc (vMFunc m a0) m] [] (.tuple #[.int .i64 ((graphM m).1),.int .i64 ((graphM m).2.1),.int .i64 ((graphM m).2.2)]) := by
 refine jenter (args := [vMFunc m a0]) Tryz.func93 rfl rfl rfl fun w0 X => ?_
 refine jq (jr (jbox Z Z fun g1 => ja Z (ja Z (ja Z (jn (jx (jq (jr (js (jf F28_1 Z) (js (jl k0 O26 Z Z) ?_))))))))))
 refine jdq (rMFunc.cB d0) fun q1 w1 => js (jln U26 (rMFunc.cB d0) Z) (jmk (m := (List.length m.Blocks)) (r := rV) U52 I22 Z Z Z Z Z (by omega) (wV Z) Z fun g22 => jrn (r := (rI .i64)) (T := 3) (List.length m.Blocks) (ja Z (jn (jx (jq (jr (js (jf F28_1 Z) (js (jl k2 O26 Z Z) (js (jln U26 (rMFunc.cB d0) Z) ?_)))))))))
 refine jmk (m := (List.length m.Blocks)) (r := rB) U93 I4 Z Z Z Z Z (by omega) wB Z fun g26 => ja Z (jn (jx (jq (jq (jr (js (jf F28_1 Z) (js (jl k3 O26 Z Z) (js (jln U26 (rMFunc.cB d0) Z) (jm Z (jn ?_))))))))))
 refine jx (jb ?_)
 refine jlp (u3 fun (k : Nat) (vs : List Value) (ls : List (List Int)) => ⟨k ≤ m.Blocks.length ∧ vs.length = m.Blocks.length ∧ ls.length = m.Blocks.length ∧ (∀ b : Nat,b < m.Blocks.length → ls.getD b [] = predsT m.Blocks k b),[da rMFunc (vMFunc m a0) m],[gl X.n rB 4 (.slice (some ⟨g26,0,none⟩) (List.length m.Blocks) (List.length m.Blocks)) (List.replicate (List.length m.Blocks) false),rw' X.n (rI .i64) 3 vs ls,gl X.n rV 22 (.slice (some ⟨g22,0,none⟩) (List.length m.Blocks) (List.length m.Blocks)) vs,bx g1 28 [.int .i64 m.Params,a0]],[(1,.pointer (some ⟨g1,0,none⟩)),(2,.int .i64 0),(3,.int .i64 0),(4,.int .i64 0),(5,(.slice (some ⟨g22,0,none⟩) (List.length m.Blocks) (List.length m.Blocks))),(6,(.slice (some ⟨g26,0,none⟩) (List.length m.Blocks) (List.length m.Blocks))),(28,a0),(29,.int .i64 (↑(List.length m.Blocks))),(30,.int .i64 (↑k))],m.Blocks.length - k⟩) (0,List.replicate (List.length m.Blocks) (.slice none 0 0),List.replicate (List.length m.Blocks) []) ⟨by dsimp only; omega,by simp,by simp,by intro b hb; simp [predsT,List.getD,hb]⟩ (dc d0 dn) (kd (kd kn)) ⟨Z,Z,Z,Z,Z,Z,Z,Z,eqI (by omega),trivial⟩ ?_
 rintro ⟨k,vs,ls⟩; dsimp only [u3]; rintro ⟨hk,hv,hl,hls⟩
 refine jq (jr (js (jlss Z Z) (jn (jx (jq ?_)))))
 refine jif Z (fun hc1 => ?_) (fun hc1 => ?_)
 refine jsk (jx (jq (jb (jq (jr (jm Z (js (jix U26 Z37 (rMFunc.cB d0) Z Z Z (by omega)) (jA3 sMBlock (jlA (dix (rMFunc.cB d0) k (by omega)) A37 Z37 Z) fun c34a c34b c34c => jalc J37 Z fun g8 => ja Z (jdq (rMBlock.cP d0) fun q3 w3 => ?_)))))))))
 refine jdq (rMBlock.cI d0) fun q4 w4 => jdq (rMBlock.cT d0) fun q5 w5 => jsta k0 Z37 Z Z Z ⟨w3.one,w4.one,Z,Z,Z,w5.one,Z,trivial⟩ (saf Z) (jn (jx (jq (jr (js (jf F37_2 Z) (js (jf F35_3 Z) (js (jl k0 O22 Z Z) (js (jln U22 (rMBlock.cT d0) Z) (jm Z ?_)))))))))
 refine jn (jx (jb ?_))
 refine jlp (u3 fun (j : Nat) (vs2 : List Value) (ls2 : List (List Int)) => ⟨j ≤ (ix m.Blocks k).End.To.length ∧ vs2.length = m.Blocks.length ∧ ls2.length = m.Blocks.length ∧ (∀ b : Nat,b < m.Blocks.length → ls2.getD b [] = predsJ m.Blocks k j b),[da rMBlock (vMBlock (ix m.Blocks k) (c34a,c34b,c34c)) (ix m.Blocks k),da rMFunc (vMFunc m a0) m],[gl X.n rB 4 (.slice (some ⟨g26,0,none⟩) (List.length m.Blocks) (List.length m.Blocks)) (List.replicate (List.length m.Blocks) false),rw' X.n (rI .i64) 3 vs2 ls2,gl X.n rV 22 (.slice (some ⟨g22,0,none⟩) (List.length m.Blocks) (List.length m.Blocks)) vs2,bx g1 28 [.int .i64 m.Params,a0]],[(1,.pointer (some ⟨g1,0,none⟩)),(2,.int .i64 0),(3,.int .i64 0),(4,.int .i64 0),(5,(.slice (some ⟨g22,0,none⟩) (List.length m.Blocks) (List.length m.Blocks))),(6,(.slice (some ⟨g26,0,none⟩) (List.length m.Blocks) (List.length m.Blocks))),(7,.int .i64 (↑k)),(28,a0),(29,.int .i64 (↑(List.length m.Blocks))),(30,.int .i64 (↑k)),(37,c34c),(38,.int .i64 (↑(List.length (((ix m.Blocks k).End).To)))),(39,.int .i64 (↑j))],(ix m.Blocks k).End.To.length - j⟩) (0,vs,ls) ⟨by dsimp only; omega,hv,hl,by dsimp only; intro b hb; rw [predsJ_zero]; exact hls b hb⟩ (dc d0 (dc d1 dn)) (kc k1 (kc k1 (kc k1 (kc k1 kn)))) ⟨Z,Z,Z,Z,Z,Z,Z,Z,Z,Z,Z,Z,eqI (by omega),trivial⟩ ?_
 rintro ⟨j,vs2,ls2⟩; dsimp only [u3]; rintro ⟨hj,hv2,hl2,hls2⟩
 refine jq (jr (js (jlss Z Z) (jn (jx (jq ?_)))))
 refine jif Z (fun hc2 => ?_) (fun hc2 => ?_)
 have htj := hT _ (ix_mem (l := m.Blocks) (i := k) (by omega)) _ (ix_mem (l := (ix m.Blocks k).End.To) (i := j) (by omega))
 have hrl := row_len (by omega) hls2 (by omega) (show (ix (ix m.Blocks k).End.To j).toNat < m.Blocks.length by omega)
 refine jsk (jx (jq (jb (jq (jr (js (jix U22 Z3 (rMBlock.cT d0) Z Z Z (by omega)) (js (jlI (dix (rMBlock.cT d0) j (by omega)) O3 Z) (ja Z (jn (jx (jq ?_)))))))))))
 refine jr (jm Z (jm Z (js (jig (i := (Int.toNat (ix (((ix m.Blocks k).End).To) j))) U52 Z22 k2 Z Z (by omega) (by omega)) (js (jgW k2 (by omega) O22 Z) (jm Z (jro (Int.toNat (ix (((ix m.Blocks k).End).To) j)) k1 (by omega) (by omega) (jgo k0 fun w7 => jc E136 Z Z (Tv.temp 4294967296 (has_ct ↑k) (by omega)) dn (kc k0 kn) (fun _ => p0) (fun _ => p1) fun _ => jrx k0 k0 (by omega) (by omega) (js (jnot Z) (jn ?_)))))))))
 refine jx ?_
 refine jif Z (fun hc3 => ?_) (fun hc3 => ?_)
 refine jr (jm Z (jm Z (jm Z (jm Z (js (jig (i := (Int.toNat (ix (((ix m.Blocks k).End).To) j))) U52 Z22 k2 Z Z (by omega) (by omega)) (js (jgW k2 (by omega) O22 Z) (jm Z (jro (Int.toNat (ix (((ix m.Blocks k).End).To) j)) k0 (by omega) (by omega) (jgo k0 fun w9 => japv U22 I3 (by decide) Z Z k0 Z (wI (wp (IntWalk.i64_in _ (by omega)))) (by omega) (fun _ => Z) fun v58 _ w10 => js (jig (i := (Int.toNat (ix (((ix m.Blocks k).End).To) j))) U52 Z22 k3 Z Z (by omega) (by omega)) ?_)))))))))
 refine jsg k3 Z Z22 Z Z w10.one (by omega) (wV w10.one) (jru k1 k1 (by omega) (by omega) (jn (jbn (jx (jr (js (jadd Z Z (by omega)) (jm Z (jn ?_))))))))
 exact jag (j + 1,List.set vs2 (Int.toNat (ix (((ix m.Blocks k).End).To) j)) v58,List.set ls2 (Int.toNat (ix (((ix m.Blocks k).End).To) j)) ((List.getD ls2 (Int.toNat (ix (((ix m.Blocks k).End).To) j)) []) ++ [((k : Nat) : Int)])) ⟨by dsimp only; omega,by dsimp only; first | exact hv2 | (rw [List.length_set]; exact hv2),by dsimp only; first | exact hl2 | (rw [List.length_set]; exact hl2),by dsimp only; first | exact stepOld (by omega) hls2 (by omega) hc3 | exact stepNew (by omega) hls2 (by omega) hl2 hc3⟩ (dc d0 (dc d1 dn)) (kc k2 (kd (kc k0 kn))) ⟨Z,Z,Z,Z,Z,Z,Z,Z,Z,Z,Z,Z,eqI (by omega),trivial⟩
 refine jsk (jbn (jx (jr (js (jadd Z Z (by omega)) (jm Z (jn ?_))))))
 exact jag (j + 1,vs2,ls2) ⟨by dsimp only; omega,by dsimp only; first | exact hv2 | (rw [List.length_set]; exact hv2),by dsimp only; first | exact hl2 | (rw [List.length_set]; exact hl2),by dsimp only; first | exact stepOld (by omega) hls2 (by omega) hc3 | exact stepNew (by omega) hls2 (by omega) hl2 hc3⟩ (dc d0 (dc d1 dn)) (kc k1 (kd (kc k0 kn))) ⟨Z,Z,Z,Z,Z,Z,Z,Z,Z,Z,Z,Z,eqI (by omega),trivial⟩
 refine jex (jtx (jtx (jbh (jbn (jx (jr (js (jadd Z Z (by omega)) (jm Z (jn ?_)))))))))
 exact jag (k + 1,vs2,ls2) ⟨by dsimp only; omega,by dsimp only; exact hv2,by dsimp only; exact hl2,by dsimp only; intro b hb; rw [hls2 b hb,predsJ_end _ _ _ _ (by omega)]⟩ (dc d1 dn) (kd (kd kn)) ⟨Z,Z,Z,Z,Z,Z,Z,Z,eqI (by omega),trivial⟩
 refine jex (jtx (jtx (jbh (jx (jq (cfr k2 k1 (by omega) (by omega) (rows_len hl (by omega) hls hk) (jr (jm Z (js (jig (i := 0) U93 Z4 k0 Z Z Z (by rw [lrep]; omega)) (jsg k0 Z Z4 Z Z Z (by rw [lrep]; omega) wB (jn ?_)))))))))))
 refine jx (jq (jq (jr (jlit (r := (rI .i64)) (l := [0]) U22 I3 (by decide) Z Z Z (lV Z Z (wI (wl 0)) ln) fun g64 => ja Z (jn (jx (jb (jgw k0 Z (by simp) ?_))))))))
 refine jlp (u4 fun (f : Nat) (se : List Bool) (q : List Int) (vq : Value) => ⟨reachedM m.Blocks = bfs m.Blocks f se q ∧ cntF se + q.length ≤ f ∧ f ≤ m.Blocks.length ∧ se.length = m.Blocks.length ∧ (∀ x ∈ q,0 ≤ x ∧ x < m.Blocks.length),[dv (rL (rL (rI .i64))) (.slice (some ⟨g22,0,none⟩) (List.length m.Blocks) (List.length m.Blocks)) ls,da rMFunc (vMFunc m a0) m],[wn X.n (rI .i64) 3 vq q,gl X.n rB 4 (.slice (some ⟨g26,0,none⟩) (List.length m.Blocks) (List.length m.Blocks)) se,bx g1 28 [.int .i64 m.Params,a0]],[(1,.pointer (some ⟨g1,0,none⟩)),(2,.int .i64 0),(3,.int .i64 0),(4,.int .i64 0),(5,(.slice (some ⟨g22,0,none⟩) (List.length m.Blocks) (List.length m.Blocks))),(6,(.slice (some ⟨g26,0,none⟩) (List.length m.Blocks) (List.length m.Blocks))),(11,vq)],f⟩) (m.Blocks.length,List.set (List.replicate (List.length m.Blocks) false) 0 true,[0],(.slice (some ⟨g64,0,none⟩) 1 1)) ⟨rfl,cnt_start hn,Nat.le_refl _,by simp,by simp; omega⟩ (dc d0 (dc d1 dn)) (kd (kc k0 kn)) ⟨Z,Z,Z,Z,Z,Z,Z,trivial⟩ ?_
 rintro ⟨f,se,q,vq⟩; dsimp only [u4]; rintro ⟨hb,hcn,hfn,hse,hq⟩
 refine cgw k0 fun w12 => jq (jq (jr (jm Z (js (jlw U22 k0 Z) (js (jgtr Z Z) (jn (jx ?_)))))))
 refine jif Z (fun hc4 => ?_) (fun hc4 => ?_)
 have hq1 := hq _ (ix_mem (l := q) (i := 0) (by omega))
 refine jsk (jx (jq (jb (jq (jstl Mixed (by kernel_rfl) (jt (jf F28_1 Z) (jt (jl k2 O26 Z Z) (jt (jmv Z) (jt (jiw (i := 0) U22 Z3 k0 Z Z Z (by omega)) (jt (jwI k0 (by omega) O3 Z) (jt (jix (i := (Int.toNat (ix q 0))) U26 Z37 (rMFunc.cB d1) Z Z (by omega) (by omega)) ?_)))))))))))
 refine jt (jf F37_2 Z) (jt (jf F35_3 Z) (jtv (jlV (rEnd.A_To (rMBlock.A_End (dix (rMFunc.cB d1) (Int.toNat (ix q 0)) (by omega)))) O22 Z Z) fun v78 q13 w13 => jt (jln U22 d0 Z) (jt (jmv Z) (jdn (jx (jb ?_))))))
 refine jlp (u4 fun (j : Nat) (se2 : List Bool) (q2 : List Int) (vq2 : Value) => ⟨j ≤ (ix m.Blocks (Int.toNat (ix q 0))).End.To.length ∧ bfsIn se2 q2 ((ix m.Blocks (Int.toNat (ix q 0))).End.To.drop j) = bfsIn se q (ix m.Blocks (Int.toNat (ix q 0))).End.To ∧ cntF se2 + q2.length = cntF se + q.length ∧ se2.length = m.Blocks.length ∧ (∀ x ∈ q2,0 ≤ x ∧ x < m.Blocks.length) ∧ 0 < q2.length,[dv (rL (rI .i64)) v78 (((ix m.Blocks (Int.toNat (ix q 0))).End).To),dv (rL (rL (rI .i64))) (.slice (some ⟨g22,0,none⟩) (List.length m.Blocks) (List.length m.Blocks)) ls,da rMFunc (vMFunc m a0) m],[wn X.n (rI .i64) 3 vq2 q2,gl X.n rB 4 (.slice (some ⟨g26,0,none⟩) (List.length m.Blocks) (List.length m.Blocks)) se2,bx g1 28 [.int .i64 m.Params,a0]],[(1,.pointer (some ⟨g1,0,none⟩)),(2,.int .i64 0),(3,.int .i64 0),(4,.int .i64 0),(5,(.slice (some ⟨g22,0,none⟩) (List.length m.Blocks) (List.length m.Blocks))),(6,(.slice (some ⟨g26,0,none⟩) (List.length m.Blocks) (List.length m.Blocks))),(11,vq2),(78,v78),(79,.int .i64 (↑(List.length (((ix m.Blocks (Int.toNat (ix q 0))).End).To)))),(80,.int .i64 (↑j))],(ix m.Blocks (Int.toNat (ix q 0))).End.To.length - j⟩) (0,se,q,vq) ⟨by dsimp only; omega,rfl,rfl,hse,hq,by dsimp only; omega⟩ (dc d0 (dc d1 (dc d2 dn))) (kd (kc k0 kn)) ⟨Z,Z,Z,Z,Z,Z,Z,Z,Z,eqI (by omega),trivial⟩ ?_
 rintro ⟨j,se2,q2,vq2⟩; dsimp only [u4]; rintro ⟨hj,hIn,hcn2,hse2,hq2,hq0⟩
 refine cgw k0 fun w15 => jq (jr (js (jlss Z Z) (jn (jx (jq ?_)))))
 refine jif Z (fun hc5 => ?_) (fun hc5 => ?_)
 have htq := hT _ (ix_mem (l := m.Blocks) (i := Int.toNat (ix q 0)) (by omega)) _ (ix_mem (l := (ix m.Blocks (Int.toNat (ix q 0))).End.To) (i := j) (by omega))
 refine jsk (jx (jq (jb (jq (jr (js (jix U22 Z3 d0 Z Z Z (by omega)) (js (jlI (dix d0 j (by omega)) O3 Z) (ja Z (jn (jx (jq ?_)))))))))))
 refine jr (jm Z (jm Z (js (jig (i := (Int.toNat (ix (((ix m.Blocks (Int.toNat (ix q 0))).End).To) j))) U93 Z4 k1 Z Z (by omega) (by omega)) (js (jgB k1 (by omega) O4 Z) (js (jnot Z) (jn (jx ?_)))))))
 refine jif Z (fun hc6 => ?_) (fun hc6 => ?_)
 refine jq (jr (jm Z (jm Z (js (jig (i := (Int.toNat (ix (((ix m.Blocks (Int.toNat (ix q 0))).End).To) j))) U93 Z4 k1 Z Z (by omega) (by omega)) (jsg k1 Z Z4 Z Z Z (by omega) wB (jn (jx (jr (jm Z (jm Z (jlit (r := (rI .i64)) (l := [ix (((ix m.Blocks (Int.toNat (ix q 0))).End).To) j]) U22 I3 (by decide) Z Z Z (lV Z Z (wI (wad (dix d0 j (by omega)))) ln) fun g94 => ?_)))))))))))
 refine jaw U22 I3 (by decide) Z Z k2 k0 Z Z (by omega) fun v95 w16 => ja Z (jn (jbn (jx (jr (js (jadd Z Z (by omega)) (jm Z (jn ?_)))))))
 exact jag (j + 1,List.set se2 (Int.toNat (ix (((ix m.Blocks (Int.toNat (ix q 0))).End).To) j)) true,q2 ++ [ix (((ix m.Blocks (Int.toNat (ix q 0))).End).To) j],v95) ⟨by dsimp only; omega,by dsimp only; rw [← hIn,drop_ix (l := (ix m.Blocks (Int.toNat (ix q 0))).End.To) (i := j) (by omega)]; simp only [bfsIn]; rw [if_neg (by rw [hc6]; decide)],by dsimp only; have h9 := cntF_set (l := se2) (i := Int.toNat (ix (ix m.Blocks (Int.toNat (ix q 0))).End.To j)) (by omega) (by rw [hc6]; decide); rw [List.length_append]; simp; omega,by dsimp only; rw [List.length_set]; exact hse2,by dsimp only; intro x hx9; rcases List.mem_append.1 hx9 with h9 | h9; (· exact hq2 x h9); (simp at h9; subst h9; omega),by dsimp only; rw [List.length_append]; simp⟩ (dc d0 (dc d1 (dc d2 dn))) (kd (kc k0 kn)) ⟨Z,Z,Z,Z,Z,Z,Z,Z,Z,eqI (by omega),trivial⟩
 refine jsk (jbn (jx (jr (js (jadd Z Z (by omega)) (jm Z (jn ?_))))))
 exact jag (j + 1,se2,q2,vq2) ⟨by dsimp only; omega,by dsimp only; rw [← hIn,drop_ix (l := (ix m.Blocks (Int.toNat (ix q 0))).End.To) (i := j) (by omega)]; simp only [bfsIn]; rw [if_pos hc6],hcn2,hse2,hq2,hq0⟩ (dc d0 (dc d1 (dc d2 dn))) (kd (kc k0 kn)) ⟨Z,Z,Z,Z,Z,Z,Z,Z,Z,eqI (by omega),trivial⟩
 refine jex (jtx (jtx (jbh (jbn (jx (jr (jm Z (jsw (lo := 1) U22 Z3 k0 Z Z Z (by omega) fun v69 w17 => ja Z (jn ?_)))))))))
 exact jag (f - 1,se2,List.drop 1 q2,v69) ⟨by dsimp only; rw [hb,bfs_step (by omega) (by omega),← hIn,List.drop_of_length_le (by omega)]; rfl,by dsimp only; rw [List.length_drop]; omega,by dsimp only; omega,hse2,by dsimp only; intro x hx9; exact hq2 x (List.mem_of_mem_drop hx9)⟩ (dc d1 (dc d2 dn)) (kd (kc k0 kn)) ⟨Z,Z,Z,Z,Z,Z,Z,trivial⟩
 have hq9 : q = [] := List.eq_nil_of_length_eq_zero (by omega)
 refine jex (jtx (jtx (jbh (jx (jq (jq (jr (jm Z (jc E137 Z Z (Tv.temp 4294967296 (idxBool_ct false) (by omega)) dn (kc k1 kn) (fun _ => p0) (fun _ => p1) fun _ => ja Z (jn ?_))))))))))
 refine jx (jq (jr (jm Z (js (jgeq Z Z) (jn (jx ?_))))))
 refine jif Z (fun hc7 => ?_) (fun hc7 => ?_)
 refine jq (jr (jm Z (ja Z (ja Z (ja Z (jn (jx (jrt (jtr ?_)))))))))
 exact jr3 Z Z Z Z () (tIII (by first | exact graph_15 hb hq9 hc7 | exact graph_16 hb hq9 hc7 (by omega) (by omega) hG hno (bad_yes (by omega) hls hc10) | exact graph_0 hb hq9 hc7 (by omega) hG)) dn (fun _ _ => kn)
 rw [show k = m.Blocks.length by omega] at hls
 refine jsk (jx (jq (jq (jr (js (jf F28_1 Z) (js (jl k2 O26 Z Z) (js (jln U26 (rMFunc.cB d1) Z) (jm Z (jn (jx (jb ?_)))))))))))
 refine jlp (fun (k5 : Nat) => ⟨k5 ≤ m.Blocks.length ∧ graphPhis m.Blocks 0 m.Blocks = graphPhis m.Blocks k5 (m.Blocks.drop k5),[dv (rL (rL (rI .i64))) (.slice (some ⟨g22,0,none⟩) (List.length m.Blocks) (List.length m.Blocks)) ls,da rMFunc (vMFunc m a0) m],[],[(5,(.slice (some ⟨g22,0,none⟩) (List.length m.Blocks) (List.length m.Blocks))),(103,a0),(104,.int .i64 (↑(List.length m.Blocks))),(105,.int .i64 (↑k5))],m.Blocks.length - k5⟩) 0 ⟨by omega,rfl⟩ (dc d0 (dc d1 dn)) kn ⟨Z,Z,Z,eqI (by omega),trivial⟩ ?_
 rintro k5; dsimp only; rintro ⟨hk5,hG⟩
 refine jq (jr (js (jlss Z Z) (jn (jx (jq ?_)))))
 refine jif Z (fun hc8 => ?_) (fun hc8 => ?_)
 refine jsk (jx (jq (jb (jq (jr (jm Z (js (jix U26 Z37 (rMFunc.cB d1) Z Z Z (by omega)) (jA3 sMBlock (jlA (dix (rMFunc.cB d1) k5 (by omega)) A37 Z37 Z) fun c109a c109b c109c => jalc J37 Z fun g16 => ja Z (jdq (rMBlock.cP d0) fun q19 w19 => ?_)))))))))
 refine jdq (rMBlock.cI d0) fun q20 w20 => jdq (rMBlock.cT d0) fun q21 w21 => jsta k0 Z37 Z Z Z ⟨w19.one,w20.one,Z,Z,Z,w21.one,Z,trivial⟩ (saf Z) (jn (jx (jq (jr (js (jf F37_0 Z) (js (jl k0 O32 Z Z) (js (jln U32 (rMBlock.cP d0) Z) (jm Z (jn ?_)))))))))
 refine jx (jb ?_)
 refine jlp (fun (i6 : Nat) => ⟨i6 ≤ (ix m.Blocks k5).Phis.length ∧ (∀ p ∈ (ix m.Blocks k5).Phis.take i6,badPhi m.Blocks k5 p = false),[da rMBlock (vMBlock (ix m.Blocks k5) (c109a,c109b,c109c)) (ix m.Blocks k5),dv (rL (rL (rI .i64))) (.slice (some ⟨g22,0,none⟩) (List.length m.Blocks) (List.length m.Blocks)) ls,da rMFunc (vMFunc m a0) m],[],[(5,(.slice (some ⟨g22,0,none⟩) (List.length m.Blocks) (List.length m.Blocks))),(15,.int .i64 (↑k5)),(103,a0),(104,.int .i64 (↑(List.length m.Blocks))),(105,.int .i64 (↑k5)),(111,c109a),(112,.int .i64 (↑(List.length ((ix m.Blocks k5).Phis)))),(113,.int .i64 (↑i6))],(ix m.Blocks k5).Phis.length - i6⟩) 0 ⟨by omega,by simp⟩ (dc d0 (dc d1 (dc d2 dn))) kn ⟨Z,Z,Z,Z,Z,Z,Z,eqI (by omega),trivial⟩ ?_
 rintro i6; dsimp only; rintro ⟨hi6,hno⟩
 refine jq (jr (js (jlss Z Z) (jn (jx (jq ?_)))))
 refine jif Z (fun hc9 => ?_) (fun hc9 => ?_)
 refine jsk (jx (jq (jb (jq (jr (jm Z (js (jix U32 Z62 (rMBlock.cP d0) Z Z Z (by omega)) (jA sPhi (jlA (dix (rMBlock.cP d0) i6 (by omega)) A62 Z62 Z) fun c117 => jalc J62 Z fun g18 => ja Z (jdq (rPhi.c_In d0) fun q23 w23 => ?_)))))))))
 refine jsta k0 Z62 Z Z Z ⟨Z,w23.one,trivial⟩ (saf Z) (jn (jx (jq (jany false (.a 0 (.a 1 (.a 2 (.a 3 (.a 4 (.a 5 (.a 6 (.a 7 (.a 8 (.o 9 (.a 10 (.a 11 .e)))))))))))) Mixed (by kernel_rfl) (kc k0 kn) fun F24 => jy Z (jmv Z) (jy Z (jeql Z Z) (jy Z (jmv Z) (jyg Z Z Z (.f _) (fun hg => jf F62_1 Z) (jyg Z Z Z (.f _) (fun hg => jl k0 O60 (evg Z hg) Z) (jyg Z Z Z (.f _) (fun hg => jmv Z) (jyg Z Z Z (.f _) (fun hg => jmv Z) ?_))))))))))
 refine adq d2 fun q25 w25 => jyg Z Z Z (.f _) (fun hg => jix U52 Z22 d2 (evg Z hg) (evg Z hg) Z (by first | omega | (simp at hg; omega) | (simp only [List.length_set]; omega))) (jyge (q := fun v => dv (rL (rI .i64)) v (ix ls k5)) Z Z Z (.f _) (fun hg => xlV (dix d2 k5 (by first | omega | (simp at hg; omega) | (simp only [List.length_set]; omega))) O22 Z (evg Z hg)) fun v126 => jyo Z (jgc Z Z (.f _) E138 Z (fun hg => evl3 (evg Z hg) (evg Z hg) Z) (fun hg => eqf_ct) (fun hg => (dc (rPhi.c_In d2) (dc (d1.on hg) dn))) kn p0 (jyn d0 (kc k0 kn) (jyg Z Z Z (.f _) (fun hg => jnot (evg Z hg)) (jy Z (jor Z Z) (jyd (jx ?_)))))))
 refine jif Z (fun hc10 => ?_) (fun hc10 => ?_)
 refine jq (jr (jm Z (jm Z (js (jsub Z Z (by omega)) (ja Z (ja Z (ja Z (jn (jx (jrt (jbr ?_)))))))))))
 refine jtr (jtr (jbr (jbr (jtr (jtr (jbr (jtr ?_)))))))
 exact jr3 Z Z Z Z () (tIII (by first | exact graph_15 hb hq9 hc7 | exact graph_16 hb hq9 hc7 (by omega) (by omega) hG hno (bad_yes (by omega) hls hc10) | exact graph_0 hb hq9 hc7 (by omega) hG)) dn (fun _ _ => kn)
 refine jsk (jbn (jx (jr (js (jadd Z Z (by omega)) (jm Z (jn ?_))))))
 exact jag (i6 + 1) ⟨by omega,no_snoc (by omega) hno (bad_no (by omega) hls hc10)⟩ (dc d3 (dc d4 (dc d5 dn))) kn ⟨Z,Z,Z,Z,Z,Z,Z,eqI (by omega),trivial⟩
 refine jex (jtx (jtx (jbh (jbn (jx (jr (js (jadd Z Z (by omega)) (jm Z (jn ?_)))))))))
 exact jag (k5 + 1) ⟨by omega,phis_good (by omega) (by omega) hG hno⟩ (dc d1 (dc d2 dn)) kn ⟨Z,Z,Z,eqI (by omega),trivial⟩
 refine jex (jtx (jtx (jbh (jx (jq (jr (ja Z (ja Z (ja Z (jn (jx ?_)))))))))))
 refine jrt ?_
 exact jr3 Z Z Z Z () (tIII (by first | exact graph_15 hb hq9 hc7 | exact graph_16 hb hq9 hc7 (by omega) (by omega) hG hno (bad_yes (by omega) hls hc10) | exact graph_0 hb hq9 hc7 (by omega) hG)) dn (fun _ _ => kn)
abbrev U33 := @Tryz.underlying33
theorem A28 : ∃ d,Tryz.prog.underlying 28 = some d ∧ (match d with | .struct _ | .array _ _ => true | _ => false) = true := ⟨_,Tryz.underlying28,rfl⟩
theorem E61 : Ent Tryz.prog 61 := ⟨_,Tryz.func61,by kernel_rfl,by kernel_rfl⟩
theorem E90 : Ent Tryz.prog 90 := ⟨_,Tryz.func90,by kernel_rfl,by kernel_rfl⟩
theorem E91 : Ent Tryz.prog 91 := ⟨_,Tryz.func91,by kernel_rfl,by kernel_rfl⟩
theorem E92 : Ent Tryz.prog 92 := ⟨_,Tryz.func92,by kernel_rfl,by kernel_rfl⟩
theorem E93 : Ent Tryz.prog 93 := ⟨_,Tryz.func93,by kernel_rfl,by kernel_rfl⟩
theorem F28_0 : Fld Tryz.prog 28 0 0 := ⟨_,_,Tryz.underlying28,rfl,rfl,1,(by unfold Sz; kernel_rfl),by decide⟩
theorem F37_1 : Fld Tryz.prog 37 1 1 := ⟨_,_,Tryz.underlying37,rfl,rfl,1,(by unfold Sz; kernel_rfl),by decide⟩
theorem O33 : One Tryz.prog 33 := ⟨_,Tryz.underlying33,rfl⟩
theorem Z28 : Sz Tryz.prog 28 2 := by unfold Sz; kernel_rfl
theorem J69 : (Tryz.prog.info? 69).bind (·.zero) = some (.agg #[.int .i64 0,.int .i64 0,.int .i64 0,.int .i64 0,.int .i64 0,.int .i64 0,.int .i32 0,.slice none 0 0]) := by kernel_rfl
def insW : Nat → List D.Mach → Option (Int × Int)
 | _,[] => none
 | i,y :: l => if insE y = 0 then insW (i + 1) l else some (insE y,(i : Int))
def phiW (all : List D.Phi) : Nat → List D.Phi → Option (Int × Int)
 | _,[] => none
 | i,p :: l => if phiE p (all.take i) = 0 then phiW all (i + 1) l else some (phiE p (all.take i),-1 - (i : Int))
def blockW (n : Int) (x : D.MBlock) : Option (Int × Int) :=
 match phiW x.Phis 0 x.Phis with
 | some t => some t
 | none => match insW 0 x.Ins with
   | some t => some t
   | none => if endE x.End n = 0 then none else some (endE x.End n,(x.Ins.length : Int))
def thingsW (n : Int) : Nat → List D.MBlock → Option (Int × Int × Int)
 | _,[] => none
 | b,x :: l => match blockW n x with
   | some t => some (t.1,(b : Int),t.2)
   | none => thingsW n (b + 1) l
def cntB : List D.MBlock → Int
 | [] => 0
 | x :: l => x.Phis.length + x.Ins.length + 1 + cntB l
def funcM (m : D.MFunc) : Int × Int × Int :=
 if m.Params < 0 ∨ 4 < m.Params then (1,0,0)
 else if m.Blocks.length = 0 then (14,0,0)
 else if 512 < m.Blocks.length ∨ 16384 < cntB m.Blocks then (2,0,0)
 else match thingsW m.Blocks.length 0 m.Blocks with
   | some t => t
   | none => graphM m
def rightM (m : D.MFunc) : Bool := decide ((funcM m).1 = 0)
section
variable {n : Int} {bs : List D.MBlock} {k i : Nat}
theorem phiW_end {P : List D.Phi} (hi : P.length ≤ i) (h : phiW P 0 P = phiW P i (P.drop i)) : phiW P 0 P = none := by rw [h,List.drop_of_length_le hi]; rfl
theorem insW_end {P : List D.Mach} (hi : P.length ≤ i) (h : insW 0 P = insW i (P.drop i)) : insW 0 P = none := by rw [h,List.drop_of_length_le hi]; rfl
theorem phiW_next {P : List D.Phi} (hi : i < P.length) (h : phiW P 0 P = phiW P i (P.drop i)) (h0 : phiE (ix P i) (P.take i) = 0) : phiW P 0 P = phiW P (i + 1) (P.drop (i + 1)) := by rw [h,drop_ix hi,phiW,if_pos h0]
theorem insW_next {P : List D.Mach} (hi : i < P.length) (h : insW 0 P = insW i (P.drop i)) (h0 : insE (ix P i) = 0) : insW 0 P = insW (i + 1) (P.drop (i + 1)) := by rw [h,drop_ix hi,insW,if_pos h0]
theorem things_phi (hk : k < bs.length) (hB : thingsW n 0 bs = thingsW n k (bs.drop k)) (hi : i < (ix bs k).Phis.length) (hP : phiW (ix bs k).Phis 0 (ix bs k).Phis = phiW (ix bs k).Phis i ((ix bs k).Phis.drop i)) (h : ¬ phiE (ix (ix bs k).Phis i) ((ix bs k).Phis.take i) = 0) :
   thingsW n 0 bs = some (phiE (ix (ix bs k).Phis i) ((ix bs k).Phis.take i),(k : Int),-1 - (i : Int)) := by
 rw [drop_ix hi,phiW,if_neg h] at hP
 rw [hB,drop_ix hk,thingsW,blockW,hP]
theorem things_ins (hk : k < bs.length) (hB : thingsW n 0 bs = thingsW n k (bs.drop k)) (hP : phiW (ix bs k).Phis 0 (ix bs k).Phis = none) (hi : i < (ix bs k).Ins.length) (hI : insW 0 (ix bs k).Ins = insW i ((ix bs k).Ins.drop i)) (h : ¬ insE (ix (ix bs k).Ins i) = 0) :
   thingsW n 0 bs = some (insE (ix (ix bs k).Ins i),(k : Int),(i : Int)) := by
 rw [drop_ix hi,insW,if_neg h] at hI
 rw [hB,drop_ix hk,thingsW,blockW,hP,hI]
theorem things_end (hk : k < bs.length) (hB : thingsW n 0 bs = thingsW n k (bs.drop k)) (hP : phiW (ix bs k).Phis 0 (ix bs k).Phis = none) (hI : insW 0 (ix bs k).Ins = none) (h : ¬ endE (ix bs k).End n = 0) :
   thingsW n 0 bs = some (endE (ix bs k).End n,(k : Int),((ix bs k).Ins.length : Int)) := by
 rw [hB,drop_ix hk,thingsW,blockW,hP,hI]
 simp only [if_neg h]
theorem things_next (hk : k < bs.length) (hB : thingsW n 0 bs = thingsW n k (bs.drop k)) (hP : phiW (ix bs k).Phis 0 (ix bs k).Phis = none) (hI : insW 0 (ix bs k).Ins = none) (h : endE (ix bs k).End n = 0) :
   thingsW n 0 bs = thingsW n (k + 1) (bs.drop (k + 1)) := by
 rw [hB,drop_ix hk,thingsW,blockW,hP,hI]
 simp only [if_pos h]
theorem things_done (hk : bs.length ≤ k) (hB : thingsW n 0 bs = thingsW n k (bs.drop k)) : thingsW n 0 bs = none := by rw [hB,List.drop_of_length_le hk]; rfl
theorem things_none : ∀ (bs : List D.MBlock) (b : Nat),thingsW n b bs = none → ∀ x ∈ bs,phiW x.Phis 0 x.Phis = none ∧ insW 0 x.Ins = none ∧ endE x.End n = 0
 | [],_,_,x,hx => by cases hx
 | y :: l,b,h,x,hx => by
   rw [thingsW] at h
   cases hb : blockW n y with
   | some t => rw [hb] at h; cases h
   | none =>
     rw [hb] at h
     rcases List.mem_cons.1 hx with rfl | hx
     · unfold blockW at hb
       cases h1 : phiW x.Phis 0 x.Phis with
       | some t => rw [h1] at hb; cases hb
       | none =>
         rw [h1] at hb
         cases h2 : insW 0 x.Ins with
         | some t => rw [h2] at hb; cases hb
         | none =>
           rw [h2] at hb
           refine ⟨rfl,rfl,?_⟩
           by_cases h3 : endE x.End n = 0
           · exact h3
           · simp only [if_neg h3] at hb; cases hb
     · exact things_none l _ h x hx
theorem end_to {e : D.End} (h : endE e n = 0) : toM e = true ∧ regM (nM9 e) = true ∧ ∀ t ∈ e.To,1 ≤ t ∧ t < n := by
 unfold endE at h
 split at h
 · cases h
 · split at h
   · cases h
   · split at h
     · cases h
     · rename_i h1 h2 h3
       refine ⟨by simpa using h1,by simpa using h2,fun t ht => ?_⟩
       have := (List.any_eq_false.1 (by simpa [anyM] using h3)) t ht
       unfold badB at this; simp at this; omega
theorem things_to (h : thingsW n 0 bs = none) : ∀ x ∈ bs,∀ t ∈ x.End.To,1 ≤ t ∧ t < n := fun x hx => (end_to (things_none bs 0 h x hx).2.2).2.2
end
section
variable {m : D.MFunc}
theorem func_arg (h : m.Params < 0 ∨ 4 < m.Params) : funcM m = (1,0,0) := by unfold funcM; rw [if_pos h]
theorem func_block (h : ¬ m.Params < 0 ∧ ¬ 4 < m.Params) (h2 : (m.Blocks.length : Int) = 0) : funcM m = (14,0,0) := by unfold funcM; rw [if_neg (by omega),if_pos (by omega)]
theorem func_many (h : ¬ m.Params < 0 ∧ ¬ 4 < m.Params) (h2 : ¬ (m.Blocks.length : Int) = 0) (h3 : 512 < (m.Blocks.length : Int) ∨ 16384 < cntB m.Blocks) : funcM m = (2,0,0) := by unfold funcM; rw [if_neg (by omega),if_neg (by omega),if_pos (by omega)]
theorem func_some (h : ¬ m.Params < 0 ∧ ¬ 4 < m.Params) (h2 : ¬ (m.Blocks.length : Int) = 0) (h3 : ¬ 512 < (m.Blocks.length : Int) ∧ ¬ 16384 < cntB m.Blocks) {t : Int × Int × Int} (h4 : thingsW m.Blocks.length 0 m.Blocks = some t) : funcM m = t := by
 unfold funcM; rw [if_neg (by omega),if_neg (by omega),if_neg (by omega),h4]
theorem func_graph (h : ¬ m.Params < 0 ∧ ¬ 4 < m.Params) (h2 : ¬ (m.Blocks.length : Int) = 0) (h3 : ¬ 512 < (m.Blocks.length : Int) ∧ ¬ 16384 < cntB m.Blocks) (h4 : thingsW m.Blocks.length 0 m.Blocks = none) : funcM m = graphM m := by
 unfold funcM; rw [if_neg (by omega),if_neg (by omega),if_neg (by omega),h4]
end
set_option maxRecDepth 4000 in
theorem pFunc_ct {a0 : Value} {m : D.MFunc} : Tv Tryz.prog 61 #[vMFunc m a0] [da rMFunc (vMFunc m a0) m] [] (.tuple #[.int .i64 ((funcM m).1),.int .i64 ((funcM m).2.1),.int .i64 ((funcM m).2.2)]) := by
 refine jenter (args := [vMFunc m a0]) Tryz.func61 rfl rfl rfl fun w0 X => ?_
 refine jq (jr (jbox Z Z fun g1 => ja Z (ja Z (ja Z (jn (jx (jq (jr (ja Z (jn ?_))))))))))
 refine jx (jq (jq (jr (js (jf F28_1 Z) (js (jl k0 O26 Z Z) (jdq (rMFunc.cB d0) fun q1 w1 => js (jln U26 (rMFunc.cB d0) Z) (jm Z (jn (jx (jb ?_))))))))))
 refine jlp (u2 fun (k : Nat) (c : Int) => ⟨k ≤ m.Blocks.length ∧ c + cntB (m.Blocks.drop k) = cntB m.Blocks ∧ 0 ≤ c ∧ c ≤ 2147483649 * k,[da rMFunc (vMFunc m a0) m],[bx g1 28 [.int .i64 m.Params,a0]],[(1,.pointer (some ⟨g1,0,none⟩)),(2,.int .i64 0),(3,.int .i64 0),(4,.int .i64 0),(5,.int .i64 c),(18,a0),(19,.int .i64 (↑(List.length m.Blocks))),(20,.int .i64 (↑k))],m.Blocks.length - k⟩) (0,0) ⟨by dsimp only; omega,by simp,by simp,by simp⟩ (dc d0 dn) (kc k0 kn) ⟨Z,Z,Z,Z,eqI (by omega),Z,Z,eqI (by omega),trivial⟩ ?_
 rintro ⟨k,c⟩; dsimp only [u2]; rintro ⟨hk,hc,h0,hc9⟩
 refine jq (jr (js (jlss Z Z) (jn (jx (jq ?_)))))
 refine jif Z (fun hc1 => ?_) (fun hc1 => ?_)
 refine jsk (jx (jq (jb (jq (jr (js (jix U26 Z37 (rMFunc.cB d0) Z Z Z (by omega)) (jA3 sMBlock (jlA (dix (rMFunc.cB d0) k (by omega)) A37 Z37 Z) fun c23a c23b c23c => jalc J37 Z fun g7 => jdq (rMBlock.cP d0) fun q3 w3 => jdq (rMBlock.cI d0) fun q4 w4 => jdq (rMBlock.cT d0) fun q5 w5 => ?_)))))))
 refine jsta k0 Z37 Z Z Z ⟨w3.one,w4.one,Z,Z,Z,w5.one,Z,trivial⟩ (saf Z) (jn (jx (jr (jm Z (js (jf F37_0 Z) (js (jl k0 O32 Z Z) (js (jln U32 (rMBlock.cP d0) Z) (js (jf F37_1 Z) (js (jl k0 O33 Z Z) (js (jln U33 (rMBlock.cI d0) Z) (js (jadd Z Z (by omega)) ?_)))))))))))
 refine js (jadd Z Z (by omega)) (js (jadd Z Z (by omega)) (ja Z (jn (jbn (jx (jr (js (jadd Z Z (by omega)) (jm Z (jn ?_)))))))))
 exact jag (k + 1,c + (((((List.length ((ix m.Blocks k).Phis) : Nat) : Int)) + (((List.length ((ix m.Blocks k).Ins) : Nat) : Int))) + 1)) ⟨by dsimp only; omega,by dsimp only; rw [← hc,drop_ix (l := m.Blocks) (i := k) (by omega),cntB]; omega,by dsimp only; omega,by dsimp only; omega⟩ (dc d1 dn) (kc k1 kn) ⟨Z,Z,Z,Z,Z,Z,Z,eqI (by omega),trivial⟩
 have hcnt : c = cntB m.Blocks := by rw [← hc,List.drop_of_length_le (by omega)]; simp [cntB]
 subst hcnt
 refine jex (jtx (jtx (jbh (jx (jq (jb (jq (jr (js (jf F28_0 Z) (js (jl k0 O3 Z Z) (js (jlss Z Z) ?_)))))))))))
 refine jm Z (jg Z Z (.f _) (fun hg => jf F28_0 Z) (jg Z Z (.f _) (fun hg => jl k0 O3 (evg Z hg) Z) (jg Z Z (.f _) (fun hg => jgtr (evg Z hg) Z) (js (jor Z Z) (ja Z (jn (jx ?_)))))))
 refine jif Z (fun hc2 => ?_) (fun hc2 => ?_)
 refine jq (jr (ja Z (ja Z (ja Z (jn (jx (jrt (jbr (jtr ?_)))))))))
 exact jr3 Z Z Z Z () (tIII (by first | exact func_arg hc2 | exact func_block hc2 hc3 | exact func_many hc2 hc3 hc4 | exact func_some hc2 hc3 hc4 (things_phi (by omega) hB (by omega) hP hc7) | exact func_some hc2 hc3 hc4 (things_ins (by omega) hB (phiW_end (by omega) hP) (by omega) hI hc9) | exact func_some hc2 hc3 hc4 (things_end (by omega) hB (phiW_end (by omega) hP) (insW_end (by omega) hI) hc10) | exact func_graph hc2 hc3 hc4 (things_done (by omega) hB))) dn (fun _ _ => kn)
 refine jq (jr (js (jf F28_1 Z) (js (jl k0 O26 Z Z) (js (jln U26 (rMFunc.cB d0) Z) (js (jeql Z Z) (ja Z (jn (jx ?_))))))))
 refine jif Z (fun hc3 => ?_) (fun hc3 => ?_)
 refine jq (jr (ja Z (ja Z (ja Z (jn (jx (jrt (jbr (jtr ?_)))))))))
 exact jr3 Z Z Z Z () (tIII (by first | exact func_arg hc2 | exact func_block hc2 hc3 | exact func_many hc2 hc3 hc4 | exact func_some hc2 hc3 hc4 (things_phi (by omega) hB (by omega) hP hc7) | exact func_some hc2 hc3 hc4 (things_ins (by omega) hB (phiW_end (by omega) hP) (by omega) hI hc9) | exact func_some hc2 hc3 hc4 (things_end (by omega) hB (phiW_end (by omega) hP) (insW_end (by omega) hI) hc10) | exact func_graph hc2 hc3 hc4 (things_done (by omega) hB))) dn (fun _ _ => kn)
 refine jq (jr (js (jf F28_1 Z) (js (jl k0 O26 Z Z) (js (jln U26 (rMFunc.cB d0) Z) (js (jgtr Z Z) (jm Z (jg Z Z (.f _) (fun hg => jmv Z) (jg Z Z (.f _) (fun hg => jgtr (evg Z hg) Z) (js (jor Z Z) (ja Z (jn ?_)))))))))))
 refine jx ?_
 refine jif Z (fun hc4 => ?_) (fun hc4 => ?_)
 refine jq (jr (ja Z (ja Z (ja Z (jn (jx (jrt (jbr (jtr ?_)))))))))
 exact jr3 Z Z Z Z () (tIII (by first | exact func_arg hc2 | exact func_block hc2 hc3 | exact func_many hc2 hc3 hc4 | exact func_some hc2 hc3 hc4 (things_phi (by omega) hB (by omega) hP hc7) | exact func_some hc2 hc3 hc4 (things_ins (by omega) hB (phiW_end (by omega) hP) (by omega) hI hc9) | exact func_some hc2 hc3 hc4 (things_end (by omega) hB (phiW_end (by omega) hP) (insW_end (by omega) hI) hc10) | exact func_graph hc2 hc3 hc4 (things_done (by omega) hB))) dn (fun _ _ => kn)
 refine jsk (jbn (jx (jq (jq (jr (js (jf F28_1 Z) (js (jl k0 O26 Z Z) (js (jln U26 (rMFunc.cB d0) Z) (jm Z (jn (jx ?_)))))))))))
 refine jb ?_
 refine jlp (fun (k : Nat) => ⟨k ≤ m.Blocks.length ∧ thingsW m.Blocks.length 0 m.Blocks = thingsW m.Blocks.length k (m.Blocks.drop k),[da rMFunc (vMFunc m a0) m],[bx g1 28 [.int .i64 m.Params,a0]],[(1,.pointer (some ⟨g1,0,none⟩)),(59,a0),(60,.int .i64 (↑(List.length m.Blocks))),(61,.int .i64 (↑k))],m.Blocks.length - k⟩) 0 ⟨by omega,rfl⟩ (dc d0 dn) (kc k0 kn) ⟨Z,Z,Z,eqI (by omega),trivial⟩ ?_
 rintro k; dsimp only; rintro ⟨hk,hB⟩
 refine jq (jr (js (jlss Z Z) (jn (jx (jq ?_)))))
 refine jif Z (fun hc5 => ?_) (fun hc5 => ?_)
 refine jsk (jx (jq (jb (jq (jr (jm Z (js (jix U26 Z37 (rMFunc.cB d0) Z Z Z (by omega)) (jA3 sMBlock (jlA (dix (rMFunc.cB d0) k (by omega)) A37 Z37 Z) fun c65a c65b c65c => jalc J37 Z fun g9 => ja Z (jdq (rMBlock.cP d0) fun q7 w7 => ?_)))))))))
 refine jdq (rMBlock.cI d0) fun q8 w8 => jdq (rMBlock.cT d0) fun q9 w9 => jsta k0 Z37 Z Z Z ⟨w7.one,w8.one,Z,Z,Z,w9.one,Z,trivial⟩ (saf Z) (jn (jx (jq (jq (jr (js (jf F37_0 Z) (js (jl k0 O32 Z Z) (js (jln U32 (rMBlock.cP d0) Z) (jm Z ?_)))))))))
 refine jn (jx (jb ?_))
 refine jlp (fun (i : Nat) => ⟨i ≤ (ix m.Blocks k).Phis.length ∧ phiW (ix m.Blocks k).Phis 0 (ix m.Blocks k).Phis = phiW (ix m.Blocks k).Phis i ((ix m.Blocks k).Phis.drop i),[da rMBlock (vMBlock (ix m.Blocks k) (c65a,c65b,c65c)) (ix m.Blocks k),da rMFunc (vMFunc m a0) m],[bx g9 37 [c65a,c65b,.int .i64 (((ix m.Blocks k).End).Op),.int .i64 (((ix m.Blocks k).End).A),.int .i64 (((ix m.Blocks k).End).B),c65c,.int .i32 (((ix m.Blocks k).End).Imm)],bx g1 28 [.int .i64 m.Params,a0]],[(1,.pointer (some ⟨g1,0,none⟩)),(8,.int .i64 (↑k)),(9,.pointer (some ⟨g9,0,none⟩)),(59,a0),(60,.int .i64 (↑(List.length m.Blocks))),(61,.int .i64 (↑k)),(67,c65a),(68,.int .i64 (↑(List.length ((ix m.Blocks k).Phis)))),(69,.int .i64 (↑i))],(ix m.Blocks k).Phis.length - i⟩) 0 ⟨by omega,rfl⟩ (dc d0 (dc d1 dn)) (kd kn) ⟨Z,Z,Z,Z,Z,Z,Z,Z,eqI (by omega),trivial⟩ ?_
 rintro i; dsimp only; rintro ⟨hi,hP⟩
 refine jq (jr (js (jlss Z Z) (jn (jx (jq ?_)))))
 refine jif Z (fun hc6 => ?_) (fun hc6 => ?_)
 refine jsk (jx (jq (jb (jq (jr (jm Z (js (jix U32 Z62 (rMBlock.cP d0) Z Z Z (by omega)) (jA sPhi (jlA (dix (rMBlock.cP d0) i (by omega)) A62 Z62 Z) fun c73 => jalc J62 Z fun g11 => ja Z (jdq (rPhi.c_In d0) fun q11 w11 => ?_)))))))))
 refine jsta k0 Z62 Z Z Z ⟨Z,w11.one,trivial⟩ (saf Z) (jn (jx (jq (jtl 5 Mixed (by kernel_rfl) (jt (jla k0 A62 Z62 Z Z Z) (jt (jf F37_0 Z) (jt (jl k1 O32 Z Z) (jt (jmv Z) (jt (jshi (hi := i) U32 Z62 (rMBlock.cP d1) Z Z Z (by omega)) (jtt (jdq (dhi (rMBlock.cP d1) i (by omega) (by omega)) fun q12 w12 => ?_)))))))))))
 refine jcv E90 Z Z pPhi_ct (dc d0 (dc (dhi (rMBlock.cP d1) i (by omega) (by omega)) dn)) kn (ja Z (jn (jx (jq (jr (jm Z (js (jneq Z Z) (jn (jx ?_)))))))))
 refine jif Z (fun hc7 => ?_) (fun hc7 => ?_)
 refine jq (jr (jm Z (jm Z (jm Z (js (jsub Z Z (by omega)) (ja Z (ja Z (ja Z (jn (jx (jrt ?_)))))))))))
 refine jbr (jtr (jtr (jbr (jtr (jbr (jtr (jtr (jbr (jtr ?_)))))))))
 exact jr3 Z Z Z Z () (tIII (by first | exact func_arg hc2 | exact func_block hc2 hc3 | exact func_many hc2 hc3 hc4 | exact func_some hc2 hc3 hc4 (things_phi (by omega) hB (by omega) hP hc7) | exact func_some hc2 hc3 hc4 (things_ins (by omega) hB (phiW_end (by omega) hP) (by omega) hI hc9) | exact func_some hc2 hc3 hc4 (things_end (by omega) hB (phiW_end (by omega) hP) (insW_end (by omega) hI) hc10) | exact func_graph hc2 hc3 hc4 (things_done (by omega) hB))) dn (fun _ _ => kn)
 refine jsk (jbn (jx (jr (js (jadd Z Z (by omega)) (jm Z (jn ?_))))))
 exact jag (i + 1) ⟨by omega,phiW_next (by omega) hP hc7⟩ (dc d1 (dc d2 dn)) (kc k1 (kc k1 kn)) ⟨Z,Z,Z,Z,Z,Z,Z,Z,eqI (by omega),trivial⟩
 refine jex (jtx (jtx (jbh (jx (jq (jq (jr (js (jf F37_1 Z) (js (jl k0 O33 Z Z) (js (jln U33 (rMBlock.cI d0) Z) (jm Z ?_)))))))))))
 refine jn (jx (jb ?_))
 refine jlp (fun (j : Nat) => ⟨j ≤ (ix m.Blocks k).Ins.length ∧ insW 0 (ix m.Blocks k).Ins = insW j ((ix m.Blocks k).Ins.drop j),[da rMBlock (vMBlock (ix m.Blocks k) (c65a,c65b,c65c)) (ix m.Blocks k),da rMFunc (vMFunc m a0) m],[bx g9 37 [c65a,c65b,.int .i64 (((ix m.Blocks k).End).Op),.int .i64 (((ix m.Blocks k).End).A),.int .i64 (((ix m.Blocks k).End).B),c65c,.int .i32 (((ix m.Blocks k).End).Imm)],bx g1 28 [.int .i64 m.Params,a0]],[(1,.pointer (some ⟨g1,0,none⟩)),(8,.int .i64 (↑k)),(9,.pointer (some ⟨g9,0,none⟩)),(59,a0),(60,.int .i64 (↑(List.length m.Blocks))),(61,.int .i64 (↑k)),(88,c65b),(89,.int .i64 (↑(List.length ((ix m.Blocks k).Ins)))),(90,.int .i64 (↑j))],(ix m.Blocks k).Ins.length - j⟩) 0 ⟨by omega,rfl⟩ (dc d0 (dc d1 dn)) (kd kn) ⟨Z,Z,Z,Z,Z,Z,Z,Z,eqI (by omega),trivial⟩ ?_
 rintro j; dsimp only; rintro ⟨hj,hI⟩
 refine jq (jr (js (jlss Z Z) (jn (jx (jq ?_)))))
 refine jif Z (fun hc8 => ?_) (fun hc8 => ?_)
 refine jsk (jx (jq (jb (jq (jr (jm Z (js (jix U33 Z69 (rMBlock.cI d0) Z Z Z (by omega)) (jA sMach (jlA (dix (rMBlock.cI d0) j (by omega)) A69 Z69 Z) fun c94 => jalc J69 Z fun g14 => ja Z (jdq (rMach.c_Args d0) fun q14 w14 => ?_)))))))))
 refine jsta k0 Z69 Z Z Z ⟨Z,Z,Z,Z,Z,Z,Z,w14.one,trivial⟩ (saf Z) (jn (jx (jq (jr (js (jla k0 A69 Z69 Z Z Z) (jcv E91 Z Z pIns_ct (dc d0 dn) kn (ja Z (jn (jx (jq (jr ?_)))))))))))
 refine jm Z (js (jneq Z Z) (jn (jx ?_)))
 refine jif Z (fun hc9 => ?_) (fun hc9 => ?_)
 refine jq (jr (jm Z (jm Z (jm Z (ja Z (ja Z (ja Z (jn (jx (jrt (jbr ?_)))))))))))
 refine jtr (jtr (jbr (jtr (jbr (jtr (jtr (jbr (jtr ?_))))))))
 exact jr3 Z Z Z Z () (tIII (by first | exact func_arg hc2 | exact func_block hc2 hc3 | exact func_many hc2 hc3 hc4 | exact func_some hc2 hc3 hc4 (things_phi (by omega) hB (by omega) hP hc7) | exact func_some hc2 hc3 hc4 (things_ins (by omega) hB (phiW_end (by omega) hP) (by omega) hI hc9) | exact func_some hc2 hc3 hc4 (things_end (by omega) hB (phiW_end (by omega) hP) (insW_end (by omega) hI) hc10) | exact func_graph hc2 hc3 hc4 (things_done (by omega) hB))) dn (fun _ _ => kn)
 refine jsk (jbn (jx (jr (js (jadd Z Z (by omega)) (jm Z (jn ?_))))))
 exact jag (j + 1) ⟨by omega,insW_next (by omega) hI hc9⟩ (dc d1 (dc d2 dn)) (kc k1 (kc k1 kn)) ⟨Z,Z,Z,Z,Z,Z,Z,Z,eqI (by omega),trivial⟩
 refine jex (jtx (jtx (jbh (jx (jq (jr (js (jf F37_2 Z) (js (jla k0 A35 Z35 Z Z Z) (js (jf F28_1 Z) (js (jl k1 O26 Z Z) (js (jln U26 (rMFunc.cB d1) Z) ?_)))))))))))
 refine jcv E92 Z Z (pEnd_ct (↑(List.length m.Blocks))) (dc (rMBlock.P_End d0) dn) kn (ja Z (jn (jx (jq (jr (jm Z (js (jneq Z Z) (jn (jx ?_)))))))))
 refine jif Z (fun hc10 => ?_) (fun hc10 => ?_)
 refine jq (jstl Mixed (by kernel_rfl) (jt (jmv Z) (jt (jmv Z) (jt (jf F37_1 Z) (jt (jl k0 O33 Z Z) (jt (jln U33 (rMBlock.cI d0) Z) (jt (jas Z) (jt (jas Z) (jt (jas Z) (jdn (jx ?_)))))))))))
 refine jrt (jbr (jtr (jtr (jbr (jtr ?_)))))
 exact jr3 Z Z Z Z () (tIII (by first | exact func_arg hc2 | exact func_block hc2 hc3 | exact func_many hc2 hc3 hc4 | exact func_some hc2 hc3 hc4 (things_phi (by omega) hB (by omega) hP hc7) | exact func_some hc2 hc3 hc4 (things_ins (by omega) hB (phiW_end (by omega) hP) (by omega) hI hc9) | exact func_some hc2 hc3 hc4 (things_end (by omega) hB (phiW_end (by omega) hP) (insW_end (by omega) hI) hc10) | exact func_graph hc2 hc3 hc4 (things_done (by omega) hB))) dn (fun _ _ => kn)
 refine jsk (jbn (jx (jr (js (jadd Z Z (by omega)) (jm Z (jn ?_))))))
 exact jag (k + 1) ⟨by omega,things_next (by omega) hB (phiW_end (by omega) hP) (insW_end (by omega) hI) hc10⟩ (dc d1 dn) (kc k1 kn) ⟨Z,Z,Z,eqI (by omega),trivial⟩
 refine jex (jtx (jtx (jbh (jx (jq (jr (js (jla k0 A28 Z28 Z Z Z) (jcv E93 Z Z (pGraph_ct (by first | omega | exact things_to (things_done (by omega) hB)) (by first | omega | exact things_to (things_done (by omega) hB))) (dc d0 dn) kn (js (jex' Z Z) (js (jex' Z Z) (js (jex' Z Z) ?_)))))))))))
 refine ja Z (ja Z (ja Z (jn (jx (jrt ?_)))))
 exact jr3 Z Z Z Z () (tIII (by first | exact func_arg hc2 | exact func_block hc2 hc3 | exact func_many hc2 hc3 hc4 | exact func_some hc2 hc3 hc4 (things_phi (by omega) hB (by omega) hP hc7) | exact func_some hc2 hc3 hc4 (things_ins (by omega) hB (phiW_end (by omega) hP) (by omega) hI hc9) | exact func_some hc2 hc3 hc4 (things_end (by omega) hB (phiW_end (by omega) hP) (insW_end (by omega) hI) hc10) | exact func_graph hc2 hc3 hc4 (things_done (by omega) hB))) dn (fun _ _ => kn)
theorem pRight_ct {a0 : Value} {m : D.MFunc} : Tv Tryz.prog 34 #[vMFunc m a0] [da rMFunc (vMFunc m a0) m] [] (.bool (rightM m)) := by
 refine jenter (args := [vMFunc m a0]) Tryz.func34 rfl rfl rfl fun w0 X => ?_
 refine jq (jr (jbox Z Z fun g1 => ja Z (jn (jx (jq (jr (js (jla k0 A28 Z28 Z Z Z) (jcv E61 Z Z pFunc_ct (dc d0 dn) kn (jm Z (js (jex' Z Z) ?_))))))))))
 refine js (jex' Z Z) (js (jex' Z Z) (ja Z (ja Z (ja Z (jn (jx (jq (jr (jm Z (js (jeql Z Z) (ja Z ?_)))))))))))
 refine jn (jx (jrt ?_))
 exact jrB Z Z (by rfl)
def isFrom (from' : Int) (x : D.In) : Bool := decide (x.From = from')
def phiVal (from' : Int) (regs : List Int) (p : D.Phi) : Int := ix regs (Int.toNat (ix p.In (Int.toNat (idxM p.In (isFrom from')))).Val)
def setP : List Int → List D.Phi → List Int → List Int
 | rs,p :: l,v :: vs => setP (rs.set (Int.toNat p.Dst) v) l vs
 | rs,_,_ => rs
def phisM (l : List D.Phi) (from' : Int) (regs : List Int) : List Int := setP regs l (l.map (phiVal from' regs))
theorem idx_lt {α : Type} (l : List α) (q : α → Bool) : idxM l q < l.length := by
 unfold idxM
 cases h : l.findIdx? q with
 | none => simp only; omega
 | some i => obtain ⟨hi,_⟩ := List.findIdx?_eq_some_iff_getElem.1 h; simp only; omega
def phiOk (from' : Int) (n : Nat) (p : D.Phi) : Prop := 0 ≤ p.Dst ∧ p.Dst < n ∧ 0 ≤ idxM p.In (isFrom from') ∧ ∀ x ∈ p.In,0 ≤ x.Val ∧ x.Val < n
theorem phiOk.v {from' : Int} {n : Nat} {p : D.Phi} (h : phiOk from' n p) : 0 ≤ (ix p.In (Int.toNat (idxM p.In (isFrom from')))).Val ∧ (ix p.In (Int.toNat (idxM p.In (isFrom from')))).Val < n := by
 have := idx_lt p.In (isFrom from')
 exact h.2.2.2 _ (ix_mem (by have := h.2.2.1; omega))
def callR (rs : List Int) (d : Int) (an : List Int) : List Int := rs.set (Int.toNat d) (ix an 0)
def insRun (N : Int) (K : List Int → List Int → List D.Event → List Int → Int → D.Outcome) : List D.Mach → List Int → List Int → List D.Event → List Int → Int → D.Outcome
 | [],rs,me,cl,an,s => K rs me cl an s
 | i :: l,rs,me,cl,an,s =>
   if N ≤ s then ⟨3,0,me,cl,s⟩
   else if i.Op = 28 then insRun N K l (callR rs i.D an) me (cl ++ [⟨i.Imm,i.Args.map (fun r => ix rs (Int.toNat r))⟩]) (an.drop 1) (s + 1)
   else if (stepM i rs me).1.2 = false then ⟨2,(stepM i rs me).1.1,(stepM i rs me).2.2,cl,s + 1⟩
   else insRun N K l (stepM i rs me).2.1 (stepM i rs me).2.2 cl an (s + 1)
def endRun (N : Int) (e : D.End) (go : Int → List Int → List Int → List D.Event → List Int → Int → D.Outcome) (rs me : List Int) (cl : List D.Event) (an : List Int) (s : Int) : D.Outcome :=
 if N ≤ s then ⟨3,0,me,cl,s⟩
 else if e.Op = 7 then ⟨1,getM rs e.A,me,cl,s + 1⟩
 else if e.Op = 8 then ⟨2,e.Imm,me,cl,s + 1⟩
 else go (ix e.To (Int.toNat (goesM e rs))) rs me cl an (s + 1)
def blockRun (bs : List D.MBlock) (N : Int) : Nat → Int → Int → List Int → List Int → List D.Event → List Int → Int → D.Outcome
 | 0,_,_,_,me,cl,_,s => ⟨3,0,me,cl,s⟩
 | f + 1,at',from',rs,me,cl,an,s => insRun N (endRun N (ix bs (Int.toNat at')).End (fun t => blockRun bs N f t at')) (ix bs (Int.toNat at')).Ins (phisM (ix bs (Int.toNat at')).Phis from' rs) me cl an s
def startR (m : D.MFunc) (i : D.Input) : List Int := List.take (min (Int.toNat m.Params) i.Args.length) i.Args ++ List.drop (min (Int.toNat m.Params) i.Args.length) (List.replicate 8192 0)
def runM (m : D.MFunc) (i : D.Input) : D.Outcome := if rightM m = false then ⟨4,0,[],[],0⟩ else blockRun m.Blocks i.Steps (Int.toNat i.Steps + 1) 0 (-1) (startR m i) (memM i) [] i.Answers 0
structure WFm (m : D.MFunc) : Prop where
 p0 : 0 ≤ m.Params ∧ m.Params ≤ 4
 n0 : 0 < m.Blocks.length ∧ m.Blocks.length ≤ 512
 ins : ∀ x ∈ m.Blocks,∀ i ∈ x.Ins,i.Op = 28 → 0 ≤ i.D ∧ i.D < 8192 ∧ i.Args.length ≤ 4 ∧ ∀ r ∈ i.Args,0 ≤ r ∧ r < 8192
 to : ∀ x ∈ m.Blocks,toM x.End = true ∧ ∀ t ∈ x.End.To,1 ≤ t ∧ t < m.Blocks.length
 phi : ∀ k : Nat,k < m.Blocks.length → ∀ p ∈ (ix m.Blocks k).Phis,0 < k ∧ p.In.map (·.From) = predsM m.Blocks k ∧ 0 ≤ p.Dst ∧ p.Dst < 8192 ∧ ∀ x ∈ p.In,0 ≤ x.Val ∧ x.Val < 8192
theorem regM_all : ∀ {l : List Int},regM l = true → ∀ r ∈ l,0 ≤ r ∧ r < 8192
 | [],_,r,hr => by cases hr
 | x :: l,h,r,hr => by
   rw [regM] at h
   split at h
   · cases h
   · rcases List.mem_cons.1 hr with rfl | hr
     · omega
     · exact regM_all h r hr
theorem insW_none : ∀ {l : List D.Mach} {k : Nat},insW k l = none → ∀ i ∈ l,insE i = 0
 | [],_,_,i,hi => by cases hi
 | y :: l,k,h,i,hi => by
   rw [insW] at h
   split at h
   · rcases List.mem_cons.1 hi with rfl | hi
     · assumption
     · exact insW_none h i hi
   · cases h
theorem phiW_none {P : List D.Phi} : ∀ {l : List D.Phi} {k : Nat},phiW P k l = none → ∀ p ∈ l,∃ j,phiE p (P.take j) = 0
 | [],_,_,i,hi => by cases hi
 | y :: l,k,h,i,hi => by
   rw [phiW] at h
   split at h
   · rcases List.mem_cons.1 hi with rfl | hi
     · exact ⟨_,by assumption⟩
     · exact phiW_none h i hi
   · cases h
theorem graph_none : ∀ {l : List D.MBlock} {k : Nat} {bs : List D.MBlock},(graphPhis bs k l).1 = 0 → ∀ j : Nat,j < l.length → ∀ p ∈ (ix l j).Phis,badPhi bs (k + j) p = false
 | [],_,_,_,j,hj => by cases hj
 | x :: l,k,bs,h,j,hj => by
   rw [graphPhis] at h
   cases hf : x.Phis.findIdx? (badPhi bs k) with
   | some i => rw [hf] at h; cases h
   | none =>
     rw [hf] at h
     intro p hp
     cases j with
     | zero => exact (List.findIdx?_eq_none_iff.1 hf) p hp
     | succ j =>
       have := graph_none h j (by simpa using hj) p (by simpa [ix] using hp)
       rw [show k + 1 + j = k + (j + 1) by omega] at this
       exact this
theorem right_wf {m : D.MFunc} (h : rightM m = true) : WFm m := by
  unfold rightM at h
  rw [decide_eq_true_eq] at h
  unfold funcM at h
  split at h
  · cases h
  split at h
  · cases h
  split at h
  · cases h
  rename_i h1 h2 h3
  cases ht : thingsW m.Blocks.length 0 m.Blocks with
  | some t =>
    rw [ht] at h
    exfalso
    have : ∀ (bs : List D.MBlock) (b : Nat) (n : Int) (t : Int × Int × Int),thingsW n b bs = some t → t.1 ≠ 0 := by
      intro bs
      induction bs with
      | nil => intro b n t h; cases h
      | cons x l ih =>
        intro b n t h
        rw [thingsW] at h
        cases hb : blockW n x with
        | none => rw [hb] at h; exact ih _ _ _ h
        | some u =>
          rw [hb] at h
          cases h
          show u.1 ≠ 0
          unfold blockW at hb
          have hp : ∀ (P l : List D.Phi) (k : Nat) (u : Int × Int),phiW P k l = some u → u.1 ≠ 0 := by
            intro P l
            induction l with
            | nil => intro k u h; cases h
            | cons p l ih2 => intro k u h; rw [phiW] at h; split at h; (· exact ih2 _ _ h); cases h; assumption
          have hi : ∀ (l : List D.Mach) (k : Nat) (u : Int × Int),insW k l = some u → u.1 ≠ 0 := by
            intro l
            induction l with
            | nil => intro k u h; cases h
            | cons p l ih2 => intro k u h; rw [insW] at h; split at h; (· exact ih2 _ _ h); cases h; assumption
          cases h1 : phiW x.Phis 0 x.Phis with
          | some t => rw [h1] at hb; cases hb; exact hp _ _ _ _ h1
          | none =>
            rw [h1] at hb
            cases h2 : insW 0 x.Ins with
            | some t => rw [h2] at hb; cases hb; exact hi _ _ _ h2
            | none =>
              rw [h2] at hb
              by_cases h3 : endE x.End n = 0
              · simp only [if_pos h3] at hb; cases hb
              · simp only [if_neg h3] at hb; cases hb; exact h3
    exact this _ _ _ _ ht h
  | none =>
    rw [ht] at h
    replace h : (graphM m).1 = 0 := h
    have hg : (graphPhis m.Blocks 0 m.Blocks).1 = 0 := by
      unfold graphM at h; split at h
      · cases h
      · exact h
    have hN := things_none _ _ ht
    refine ⟨by omega,⟨by omega,by omega⟩,?_,fun x hx => ?_,?_⟩
    · intro x hx i hi h28
      have h9 := insW_none (hN x hx).2.1 i hi
      unfold insE at h9
      split at h9
      · cases h9
      split at h9
      · cases h9
      rename_i ha hb
      have hm : makesM i = [i.D] := by unfold makesM; repeat rw [if_neg (by omega)]
      have htk : takesM i = i.Args := by unfold takesM; repeat rw [if_neg (by omega)]
                                         rw [if_pos h28]
      rw [hm,htk] at hb
      simp only [not_or,Bool.not_eq_false] at hb
      have hD := regM_all hb.1 i.D (by simp)
      exact ⟨hD.1,hD.2,by omega,regM_all hb.2⟩
    · have := end_to (hN x hx).2.2
      exact ⟨this.1,this.2.2⟩
    · intro k hk p hp
      have hb := graph_none hg k hk p hp
      rw [Nat.zero_add] at hb
      unfold badPhi at hb
      simp only [Bool.or_eq_false_iff,decide_eq_false_iff_not,Bool.not_eq_false',decide_eq_true_eq] at hb
      obtain ⟨j,hj⟩ := phiW_none (hN _ (ix_mem hk)).1 p hp
      unfold phiE at hj
      split at hj
      · cases hj
      rename_i h5
      simp only [not_or,Bool.not_eq_false,Bool.not_eq_true] at h5
      have hD := regM_all h5.1 p.Dst (by simp)
      refine ⟨by omega,hb.2,hD.1,hD.2,fun x hx => ?_⟩
      have h6 := h5.2
      unfold anyM at h6
      rw [List.any_eq_false] at h6
      have h7 := h6 x hx
      simp only [Bool.not_eq_true,Bool.not_eq_false'] at h7
      exact regM_all h7 x.Val (by simp)
section
variable {m : D.MFunc} (hw : WFm m)
include hw
theorem WFm.goes {at' : Int} (ha : 0 ≤ at' ∧ at' < m.Blocks.length) (rs : List Int) (h7 : ¬ (ix m.Blocks (Int.toNat at')).End.Op = 7) (h8 : ¬ (ix m.Blocks (Int.toNat at')).End.Op = 8) :
   0 ≤ goesM (ix m.Blocks (Int.toNat at')).End rs ∧ goesM (ix m.Blocks (Int.toNat at')).End rs < (ix m.Blocks (Int.toNat at')).End.To.length := by
 have h1 := (hw.to _ (ix_mem (l := m.Blocks) (i := Int.toNat at') (by omega))).1
 generalize (ix m.Blocks (Int.toNat at')).End = e at *
 unfold toM at h1
 rw [decide_eq_true_eq] at h1
 obtain ⟨ho1,ho2,hl1,hl2⟩ := h1
 have hu : 0 ≤ u32 (getM rs e.A) := by unfold u32; rw [IntKind.wrap_u32]; omega
 unfold limLo at hl1
 unfold limHi at hl2
 unfold goesM
 have hc : e.Op = 1 ∨ e.Op = 2 ∨ e.Op = 3 ∨ e.Op = 4 ∨ e.Op = 5 ∨ e.Op = 6 := by omega
 rcases hc with h | h | h | h | h | h <;> simp only [h] at hl1 hl2 ⊢ <;> simp at hl1 hl2 ⊢ <;> (repeat' split) <;> omega
end
section
variable {N : Int} {K : List Int → List Int → List D.Event → List Int → Int → D.Outcome} {O : D.Outcome} {I : List D.Mach} {k j : Nat} {rs me an ea : List Int} {cl : List D.Event} {s : Int}
end
section
variable {N : Int} {go : Int → List Int → List Int → List D.Event → List Int → Int → D.Outcome} {O : D.Outcome} {I : List D.Mach} {k : Nat} {rs me an : List Int} {cl : List D.Event} {s : Int} {e : D.End}
end
end Go.Proofs.YtehhjlkmbdhckaaGreat
namespace Go.JE
variable {P : Program} {D D0 D1 : List Dt} {L M N Ls L0 Rs : List Res} {e : Env} {X : Cx} {n : Fs} {w0 : World} {Q : Exit → Act → World → Prop}
section
variable {ops : Array Oper} {d : Nat} {ty : TypeId} {pos : String} {af : Array Edge} {rest : List Oper} {v u z w2 : Value} {x y : Operand} {T T' E : TypeId} {bytes B hi N' : Nat} {α : Type} {r : Rp α} {l m : List α} {a : α}
end
end Go.JE
namespace Go.Proofs.YtehhjlkmbdhckaaGreat
open Go.JE
theorem E34 : Ent Tryz.prog 34 := ⟨_,Tryz.func34,by kernel_rfl,by kernel_rfl⟩
theorem A133 : ∃ d,Tryz.prog.underlying 133 = some d ∧ (match d with | .struct _ | .array _ _ => true | _ => false) = true := ⟨_,Tryz.underlying133,rfl⟩
theorem E111 : Ent Tryz.prog 111 := ⟨_,Tryz.func111,by kernel_rfl,by kernel_rfl⟩
theorem E112 : Ent Tryz.prog 112 := ⟨_,Tryz.func112,by kernel_rfl,by kernel_rfl⟩
theorem E113 : Ent Tryz.prog 113 := ⟨_,Tryz.func113,by kernel_rfl,by kernel_rfl⟩
theorem E162 : Ent Tryz.prog 162 := ⟨_,Tryz.func162,by kernel_rfl,by kernel_rfl⟩
theorem E163 : Ent Tryz.prog 163 := ⟨_,Tryz.func163,by kernel_rfl,by kernel_rfl⟩
theorem E164 : Ent Tryz.prog 164 := ⟨_,Tryz.func164,by kernel_rfl,by kernel_rfl⟩
theorem E179 : Ent Tryz.prog 179 := ⟨_,Tryz.func179,by kernel_rfl,by kernel_rfl⟩
theorem E43 : Ent Tryz.prog 43 := ⟨_,Tryz.func43,by kernel_rfl,by kernel_rfl⟩
theorem E73 : Ent Tryz.prog 73 := ⟨_,Tryz.func73,by kernel_rfl,by kernel_rfl⟩
theorem F133_0 : Fld Tryz.prog 133 0 0 := ⟨_,_,Tryz.underlying133,rfl,rfl,1,(by unfold Sz; kernel_rfl),by decide⟩
theorem G133_0 : ∃ fs f,Tryz.prog.underlying 133 = some (.struct fs) ∧ fs[0]? = some f ∧ f.offset = 0 ∧ f.type = 118 := ⟨_,_,Tryz.underlying133,rfl,rfl,rfl⟩
theorem O118 : One Tryz.prog 118 := ⟨_,Tryz.underlying118,rfl⟩
theorem Z133 : Sz Tryz.prog 133 3 := by unfold Sz; kernel_rfl
theorem J133 : (Tryz.prog.info? 133).bind (·.zero) = some (.agg #[.int .i64 0,.int .i64 0,.int .i64 0]) := by kernel_rfl
theorem any_snoc {α : Type} [Inhabited α] {l : List α} {q : α → Bool} {k : Nat} (hk : k < l.length) : (l.take (k + 1)).any q = ((l.take k).any q || q (ix l k)) := by rw [take_ix hk,List.any_append]; simp
theorem badB_f {n b : Int} (h : ¬ b < 1 ∧ ¬ n ≤ b) : badB n b = false := by unfold badB; rw [decide_eq_false h.1,decide_eq_false h.2]; rfl
theorem badB_t {n b : Int} (h : b < 1 ∨ n ≤ b) : badB n b = true := by unfold badB; rcases h with h | h <;> simp [h]
section
variable {e : D.End} {n : Int}
theorem endE_1 (h : toM e = false) : endE e n = 30 := by unfold endE; rw [if_pos h]
theorem endE_2 (h : toM e = true) (h2 : regM (nM9 e) = false) : endE e n = 31 := by unfold endE; rw [if_neg (by rw [h]; decide),if_pos h2]
theorem endE_3 (h : toM e = true) (h2 : regM (nM9 e) = true) {i : Nat} (hi : i < e.To.length) (h3 : badB n (ix e.To i) = true) : endE e n = 14 := by
 unfold endE; rw [if_neg (by rw [h]; decide),if_neg (by rw [h2]; decide),if_pos (any_hit hi h3)]
theorem endE_4 (h : toM e = true) (h2 : regM (nM9 e) = true) {i : Nat} (hi : e.To.length ≤ i) (h3 : ∀ x ∈ e.To.take i,badB n x = false) : endE e n = 0 := by
 rw [List.take_of_length_le hi] at h3
 unfold endE; rw [if_neg (by rw [h]; decide),if_neg (by rw [h2]; decide),if_neg (by rw [any_no h3]; decide)]
end
def rPredsM (m : D.MFunc) (b : Int) : List Int := predsM m.Blocks b
def rReachM (m : D.MFunc) : List Bool := reachedM m.Blocks
def thM (m : D.MFunc) : D.Go7 := match thingsW m.Blocks.length 0 m.Blocks with
 | some t => ⟨t.1,t.2.1,t.2.2⟩
 | none => ⟨0,0,0⟩
def gotM (m : D.MFunc) : D.Go7 := ⟨(funcM m).1,(funcM m).2.1,(funcM m).2.2⟩
section
variable {m : D.MFunc} {a b c : Int}
theorem th_some (h : thingsW m.Blocks.length 0 m.Blocks = some (a,b,c)) : thM m = ⟨a,b,c⟩ := by unfold thM; rw [h]
theorem th_none (h : thingsW m.Blocks.length 0 m.Blocks = none) : thM m = ⟨0,0,0⟩ := by unfold thM; rw [h]
theorem got_of (h : funcM m = (a,b,c)) : gotM m = ⟨a,b,c⟩ := by unfold gotM; rw [h]
theorem th_bad (h : ¬ (thM m).E = 0) : ∃ t,thingsW m.Blocks.length 0 m.Blocks = some t ∧ thM m = ⟨t.1,t.2.1,t.2.2⟩ := by
 unfold thM at h ⊢
 cases h1 : thingsW m.Blocks.length 0 m.Blocks with
 | some t => exact ⟨t,rfl,rfl⟩
 | none => rw [h1] at h; exact absurd rfl h
theorem things_pos : ∀ (bs : List D.MBlock) (k : Nat) (n : Int) (t : Int × Int × Int),thingsW n k bs = some t → t.1 ≠ 0 := by
 intro bs
 induction bs with
 | nil => intro b n t h; cases h
 | cons x l ih =>
   intro b n t h
   rw [thingsW] at h
   cases hb : blockW n x with
   | none => rw [hb] at h; exact ih _ _ _ h
   | some u =>
     rw [hb] at h
     cases h
     show u.1 ≠ 0
     unfold blockW at hb
     have hp : ∀ (P l : List D.Phi) (k : Nat) (u : Int × Int),phiW P k l = some u → u.1 ≠ 0 := by
       intro P l
       induction l with
       | nil => intro k u h; cases h
       | cons p l ih2 => intro k u h; rw [phiW] at h; split at h; (· exact ih2 _ _ h); cases h; assumption
     have hi : ∀ (l : List D.Mach) (k : Nat) (u : Int × Int),insW k l = some u → u.1 ≠ 0 := by
       intro l
       induction l with
       | nil => intro k u h; cases h
       | cons p l ih2 => intro k u h; rw [insW] at h; split at h; (· exact ih2 _ _ h); cases h; assumption
     cases h1 : phiW x.Phis 0 x.Phis with
     | some t => rw [h1] at hb; cases hb; exact hp _ _ _ _ h1
     | none =>
       rw [h1] at hb
       cases h2 : insW 0 x.Ins with
       | some t => rw [h2] at hb; cases hb; exact hi _ _ _ h2
       | none =>
         rw [h2] at hb
         by_cases h3 : endE x.End n = 0
         · simp only [if_pos h3] at hb; cases hb
         · simp only [if_neg h3] at hb; cases hb; exact h3
theorem th_good (h : (thM m).E = 0) : thingsW m.Blocks.length 0 m.Blocks = none := by
 unfold thM at h
 cases h1 : thingsW m.Blocks.length 0 m.Blocks with
 | some t => rw [h1] at h; exact absurd h (things_pos _ _ _ _ h1)
 | none => rfl
end
theorem preds_step {bs : List D.MBlock} {k j : Nat} {b : Bool} {x : Int} (hb : b = ((ix bs k).End.To.take j).any (fun y => decide (y = x))) (hj : (ix bs k).End.To.length ≤ j) : predsT bs (k + 1) x = predsT bs k x ++ if b = true then [(k : Int)] else [] := by
 rw [predsT_succ]
 congr 1
 rw [List.take_of_length_le hj] at hb
 by_cases h : x ∈ (ix bs k).End.To
 · rw [if_pos h,if_pos]
   rw [hb,List.any_eq_true]; exact ⟨x,h,by simp⟩
 · rw [if_neg h,if_neg]
   intro h1
   rw [hb,List.any_eq_true] at h1
   obtain ⟨y,hy,h2⟩ := h1
   simp at h2; subst h2; exact h hy
section
variable {bs : List D.MBlock} {i j : Nat} {se se2 : List Bool} {l l2 : List Int}
theorem ix_drop0 (h : i < l.length) : ix (l.drop i) 0 = ix l i := by rw [drop_ix h]; rfl
theorem rb_step (hi : i < l.length) (hf : 0 < bs.length - i) (hb : reachedM bs = bfs bs (bs.length - i) se (l.drop i))
   (hIn : bfsIn se2 (l2.drop i) ((ix bs (ix l i).toNat).End.To.drop j) = bfsIn se (l.drop i) (ix bs (ix l i).toNat).End.To) (hj : (ix bs (ix l i).toNat).End.To.length ≤ j) : reachedM bs = bfs bs (bs.length - (i + 1)) se2 (l2.drop (i + 1)) := by
 rw [List.drop_of_length_le hj] at hIn
 rw [hb,bfs_step hf (by rw [List.length_drop]; omega),ix_drop0 hi,← hIn,show bs.length - i - 1 = bs.length - (i + 1) by omega]
 show bfs bs _ se2 ((l2.drop i).drop 1) = _
 rw [List.drop_drop]
theorem rb_end (hb : reachedM bs = bfs bs (bs.length - i) se (l.drop i)) (hi : l.length ≤ i) : reachedM bs = se := by rw [hb,List.drop_of_length_le hi,bfs_nil]
theorem rb_old {T : List Int} (hj : j < T.length) (hIn : bfsIn se2 (l2.drop i) (T.drop j) = bfsIn se (l.drop i) T) (h : ix se2 (Int.toNat (ix T j)) = true) : bfsIn se2 (l2.drop i) (T.drop (j + 1)) = bfsIn se (l.drop i) T := by
 rw [← hIn,drop_ix hj,bfsIn,if_pos h]
theorem rb_new {T : List Int} (hj : j < T.length) (hi : i ≤ l2.length) (hIn : bfsIn se2 (l2.drop i) (T.drop j) = bfsIn se (l.drop i) T) (h : ix se2 (Int.toNat (ix T j)) = false) : bfsIn (List.set se2 (Int.toNat (ix T j)) true) ((l2 ++ [ix T j]).drop i) (T.drop (j + 1)) = bfsIn se (l.drop i) T := by
 rw [← hIn,drop_ix hj,bfsIn,if_neg (by rw [h]; decide),List.drop_append_of_le_length hi]
end
section
variable {m : D.MFunc} {k : Nat}
theorem rg_15 (hk : k < (rReachM m).length) (hR : ∀ x ∈ (rReachM m).take k,(false == x) = false) (h : ix (rReachM m) k = false) : graphM m = (15,(k : Int),0) := by
 have := idx_hit (q := fun x => false == x) hk hR (by simp [h])
 unfold graphM; unfold rReachM at this; rw [this,if_pos (by omega)]
theorem rg_no (hk : (rReachM m).length ≤ k) (hR : ∀ x ∈ (rReachM m).take k,(false == x) = false) : graphM m = graphPhis m.Blocks 0 m.Blocks := by
 have := idx_none (q := fun x => false == x) hk hR
 unfold graphM; unfold rReachM at this; rw [this,if_neg (by decide)]
def EqIn (bs : List D.MBlock) (b : Nat) (p : D.Phi) (k : Nat) (ok : Bool) : Prop :=
 (ok = true ∧ 0 < b ∧ p.In.length = (predsM bs b).length ∧ k ≤ p.In.length ∧ (p.In.take k).map (·.From) = (predsM bs b).take k) ∨ (ok = false ∧ badPhi bs b p = true)
theorem eqIn_start {bs : List D.MBlock} {b : Nat} {p : D.Phi} : EqIn bs b p 0 (decide (0 < (b : Int)) && decide ((p.In.length : Int) = ((predsM bs b).length : Int))) := by
 unfold EqIn
 by_cases h : 0 < b
 · by_cases h2 : p.In.length = (predsM bs b).length
   · refine .inl ⟨by simp [h,h2],h,h2,by omega,by simp⟩
   · refine .inr ⟨by rw [Bool.and_eq_false_iff]; exact .inr (decide_eq_false (by omega)),?_⟩
     unfold badPhi
     have : ¬ p.In.map (·.From) = predsM bs b := by intro h3; have := congrArg List.length h3; simp at this; exact h2 this
     simp [this]
 · refine .inr ⟨by rw [Bool.and_eq_false_iff]; exact .inl (decide_eq_false (by omega)),?_⟩
   unfold badPhi
   simp [show b = 0 by omega]
theorem eqIn_next {bs : List D.MBlock} {b k : Nat} {p : D.Phi} {ok : Bool} (h : EqIn bs b p k ok) (hc : ok = true ∧ (k : Int) < ((predsM bs b).length : Int)) : EqIn bs b p (k + 1) (decide ((ix p.In k).From = ix (predsM bs b) k)) := by
 rcases h with ⟨h1,h2,h3,h4,h5⟩ | ⟨h1,_⟩
 · have hk : k < (predsM bs b).length := by omega
   by_cases h6 : (ix p.In k).From = ix (predsM bs b) k
   · refine .inl ⟨by simp [h6],h2,h3,by omega,?_⟩
     rw [take_ix (by omega),take_ix hk,List.map_append,h5]
     simp [h6]
   · refine .inr ⟨by simp [h6],?_⟩
     unfold badPhi
     have : ¬ p.In.map (·.From) = predsM bs b := by
       intro h7; apply h6; rw [← h7,ix_eq (by omega),ix_eq (by simpa using (by omega : k < p.In.length))]; simp
     simp [this]
 · rw [h1] at hc; exact absurd hc.1 (by decide)
theorem eqIn_ok {bs : List D.MBlock} {b k : Nat} {p : D.Phi} {ok : Bool} (h : EqIn bs b p k ok) (hc : ok = false ∨ ¬ (k : Int) < ((predsM bs b).length : Int)) (hok : ok = true) : badPhi bs b p = false := by
 rcases h with ⟨_,h2,h3,h4,h5⟩ | ⟨h1,_⟩
 · have h6 : (predsM bs b).length ≤ k := by
     have : ¬ (k : Int) < ((predsM bs b).length : Int) := hc.resolve_left (by rw [hok]; decide)
     omega
   rw [List.take_of_length_le (by omega),List.take_of_length_le h6] at h5
   unfold badPhi
   simp [h5,show ¬ b = 0 by omega]
 · rw [h1] at hok; cases hok
theorem eqIn_bad {bs : List D.MBlock} {b k : Nat} {p : D.Phi} {ok : Bool} (h : EqIn bs b p k ok) (hok : ok = false) : badPhi bs b p = true := by
 rcases h with ⟨h1,_⟩ | ⟨_,h2⟩
 · rw [hok] at h1; cases h1
 · exact h2
end
theorem phiE_wr (l : List D.Phi) (n : Int) : IntKind.i64.wrap (rPhiM l n) = rPhiM l n := IntWalk.i64_in _ (by unfold rPhiM phiE; (repeat' split) <;> omega)
theorem insE_wr (i : D.Mach) : IntKind.i64.wrap (insE i) = insE i := IntWalk.i64_in _ (by unfold insE; (repeat' split) <;> omega)
theorem endE_wr (e : D.End) (n : Int) : IntKind.i64.wrap (endE e n) = endE e n := IntWalk.i64_in _ (by unfold endE; (repeat' split) <;> omega)
theorem rEnd_ct {a0 : Value} {e : D.End} (n : Int) : Tv Tryz.prog 164 #[vEnd e a0,.int .i64 n] [da rEnd (vEnd e a0) e] [] (.int .i64 (endE e n)) := by
 refine jenter (args := [vEnd e a0,.int .i64 n]) Tryz.func164 rfl rfl rfl fun w0 X => ?_
 refine jq (jr (jbox Z Z fun g2 => ja Z (jn (jx (jq (jq (jr (js (jla k0 A35 Z35 Z Z Z) (jcv E179 Z Z rTo_ct (dc d0 dn) kn (js (jnot Z) ?_))))))))))
 refine jn (jx ?_)
 refine jif Z (fun hc1 => ?_) (fun hc1 => ?_)
 refine jq (jr (ja Z (jn (jx (jrt (jtr ?_))))))
 exact jrI Z Z (by first | exact endE_1 hc1 | exact endE_2 hc1 hc2 | exact endE_3 hc1 hc2 (by omega) (badB_t hc4) | exact endE_4 hc1 hc2 (by omega) hno)
 refine jsk (jx (jq (jq (jr (js (jla k0 A35 Z35 Z Z Z) (jcd E43 Z Z rNeeds_ct (dc d0 dn) kn fun v10 q1 w1 => jcv E177 Z Z rReg_ct (dc d0 dn) kn (js (jnot Z) (jn (jx ?_)))))))))
 refine jif Z (fun hc2 => ?_) (fun hc2 => ?_)
 refine jq (jr (ja Z (jn (jx (jrt (jtr ?_))))))
 exact jrI Z Z (by first | exact endE_1 hc1 | exact endE_2 hc1 hc2 | exact endE_3 hc1 hc2 (by omega) (badB_t hc4) | exact endE_4 hc1 hc2 (by omega) hno)
 refine jsk (jx (jq (jq (jr (ja Z (jn (jx (jb ?_))))))))
 refine jlp (fun (i : Nat) => ⟨i ≤ e.To.length ∧ (∀ x ∈ e.To.take i,badB n x = false),[da rEnd (vEnd e a0) e],[bx g2 35 [.int .i64 e.Op,.int .i64 e.A,.int .i64 e.B,a0,.int .i32 e.Imm]],[(1,.int .i64 n),(2,.pointer (some ⟨g2,0,none⟩)),(5,.int .i64 (↑i))],e.To.length - i⟩) 0 ⟨by omega,by simp⟩ (dc d1 dn) (kc k0 kn) ⟨Z,Z,eqI (by omega),trivial⟩ ?_
 rintro i; dsimp only; rintro ⟨hi,hno⟩
 refine jq (jq (jr (jm Z (js (jf F35_3 Z) (js (jl k0 O22 Z Z) (jdq (rEnd.c_To d0) fun q3 w3 => js (jln U22 (rEnd.c_To d0) Z) (js (jlss Z Z) (jn (jx ?_)))))))))
 refine jif Z (fun hc3 => ?_) (fun hc3 => ?_)
 refine jsk (jx (jq (jb (jq (jr (js (jf F35_3 Z) (js (jl k0 O22 Z Z) (jm Z (js (jix U22 Z3 (rEnd.c_To d0) Z Z Z (by omega)) (js (jlI (dix (rEnd.c_To d0) i (by omega)) O3 Z) (js (jlss Z Z) ?_)))))))))))
 refine jm Z (jg Z Z (.f _) (fun hg => jf F35_3 Z) (jg Z Z (.f _) (fun hg => jl k0 O22 (evg Z hg) Z) (jg Z Z (.f _) (fun hg => jmv Z) (jg Z Z (.f _) (fun hg => jix U22 Z3 (rEnd.c_To d0) (evg Z hg) (evg Z hg) Z (by first | omega | (simp at hg; omega) | (simp only [List.length_set]; omega))) (jg Z Z (.f _) (fun hg => jlI (dix (rEnd.c_To d0) i (by first | omega | (simp at hg; omega) | (simp only [List.length_set]; omega))) O3 (evg Z hg)) (jg Z Z (.f _) (fun hg => jmv Z) (jg Z Z (.f _) (fun hg => jgeq (evg Z hg) (evg Z hg)) (js (jor Z Z) (jn (jx ?_))))))))))
 refine jif Z (fun hc4 => ?_) (fun hc4 => ?_)
 refine jq (jr (ja Z (jn (jx (jrt (jbr (jtr (jtr (jbr (jtr ?_))))))))))
 exact jrI Z Z (by first | exact endE_1 hc1 | exact endE_2 hc1 hc2 | exact endE_3 hc1 hc2 (by omega) (badB_t hc4) | exact endE_4 hc1 hc2 (by omega) hno)
 refine jsk (jbn (jx (jr (jm Z (js (jadd Z Z (by omega)) (ja Z (jn ?_)))))))
 exact jag (i + 1) ⟨by omega,no_snoc (by omega) hno (badB_f hc4)⟩ (dc d0 dn) (kc k0 kn) ⟨Z,Z,eqI (by omega),trivial⟩
 refine jex (jtx (jtx (jbh (jx (jq (jr (ja Z (jn (jx (jrt ?_))))))))))
 exact jrI Z Z (by first | exact endE_1 hc1 | exact endE_2 hc1 hc2 | exact endE_3 hc1 hc2 (by omega) (badB_t hc4) | exact endE_4 hc1 hc2 (by omega) hno)
set_option maxRecDepth 4000 in
theorem rThings_ct {a0 : Value} {m : D.MFunc} : Ts Tryz.prog 111 #[vMFunc m a0] [da rMFunc (vMFunc m a0) m] [] rGo7 vGo7 (thM m) := by
 refine jenter (args := [vMFunc m a0]) Tryz.func111 rfl rfl rfl fun w0 X => ?_
 refine jq (jr (jbox Z Z fun g1 => jalc J133 Z fun g2 => jn (jx (jq (jq (jr (ja Z (jn (jx ?_)))))))))
 refine jb ?_
 refine jlp (fun (k : Nat) => ⟨k ≤ m.Blocks.length ∧ thingsW m.Blocks.length 0 m.Blocks = thingsW m.Blocks.length k (m.Blocks.drop k),[da rMFunc (vMFunc m a0) m],[bx g2 133 [.int .i64 0,.int .i64 0,.int .i64 0],bx g1 28 [.int .i64 m.Params,a0]],[(1,.pointer (some ⟨g1,0,none⟩)),(2,.pointer (some ⟨g2,0,none⟩)),(3,.int .i64 (↑k))],m.Blocks.length - k⟩) 0 ⟨by omega,rfl⟩ (dc d0 dn) (kd kn) ⟨Z,Z,eqI (by omega),trivial⟩ ?_
 rintro k; dsimp only; rintro ⟨hk,hB⟩
 refine jq (jq (jr (jm Z (js (jf F28_1 Z) (js (jl k1 O26 Z Z) (jdq (rMFunc.cB d0) fun q1 w1 => js (jln U26 (rMFunc.cB d0) Z) (js (jlss Z Z) (jn (jx ?_)))))))))
 refine jif Z (fun hc1 => ?_) (fun hc1 => ?_)
 refine jsk (jx (jq (jb (jq (jr (js (jf F28_1 Z) (js (jl k1 O26 Z Z) (jm Z (js (jix U26 Z37 (rMFunc.cB d0) Z Z Z (by omega)) (jA3 sMBlock (jlA (dix (rMFunc.cB d0) k (by omega)) A37 Z37 Z) fun c21a c21b c21c => jalc J37 Z fun g4 => ?_))))))))))
 refine jdq (rMBlock.cP d0) fun q3 w3 => jdq (rMBlock.cI d0) fun q4 w4 => jdq (rMBlock.cT d0) fun q5 w5 => jsta k0 Z37 Z Z Z ⟨w3.one,w4.one,Z,Z,Z,w5.one,Z,trivial⟩ (saf Z) (jn (jx (jq (jq (jr (ja Z (jn (jx ?_))))))))
 refine jb ?_
 refine jlp (fun (i : Nat) => ⟨i ≤ (ix m.Blocks k).Phis.length ∧ phiW (ix m.Blocks k).Phis 0 (ix m.Blocks k).Phis = phiW (ix m.Blocks k).Phis i ((ix m.Blocks k).Phis.drop i),[da rMBlock (vMBlock (ix m.Blocks k) (c21a,c21b,c21c)) (ix m.Blocks k),da rMFunc (vMFunc m a0) m],[bx g4 37 [c21a,c21b,.int .i64 (((ix m.Blocks k).End).Op),.int .i64 (((ix m.Blocks k).End).A),.int .i64 (((ix m.Blocks k).End).B),c21c,.int .i32 (((ix m.Blocks k).End).Imm)],bx g2 133 [.int .i64 0,.int .i64 0,.int .i64 0],bx g1 28 [.int .i64 m.Params,a0]],[(1,.pointer (some ⟨g1,0,none⟩)),(2,.pointer (some ⟨g2,0,none⟩)),(3,.int .i64 (↑k)),(4,.pointer (some ⟨g4,0,none⟩)),(5,.int .i64 (↑i))],(ix m.Blocks k).Phis.length - i⟩) 0 ⟨by omega,rfl⟩ (dc d0 (dc d1 dn)) (kd (kc k0 kn)) ⟨Z,Z,Z,Z,eqI (by omega),trivial⟩ ?_
 rintro i; dsimp only; rintro ⟨hi,hP⟩
 refine jq (jq (jr (jm Z (js (jf F37_0 Z) (js (jl k0 O32 Z Z) (js (jln U32 (rMBlock.cP d0) Z) (js (jlss Z Z) (jn (jx ?_)))))))))
 refine jif Z (fun hc2 => ?_) (fun hc2 => ?_)
 refine jsk (jx (jq (jb (jq (jr (js (jf F37_0 Z) (js (jl k0 O32 Z Z) (jm Z (jcv E162 Z Z (rPhi_ct ↑i (by omega)) (dc (rMBlock.cP d0) dn) kn (ja Z (jn ?_)))))))))))
 refine jx (jq (jr (jm Z (js (jneq Z Z) (jn (jx ?_))))))
 refine jif Z (fun hc3 => ?_) (fun hc3 => ?_)
 refine jq (jr (jm Z (jm Z (jm Z (js (jsub Z Z (by omega)) (js (jbu (v := .agg #[.int .i64 (rPhiM ((ix m.Blocks k).Phis) ↑i),.int .i64 (↑k),.int .i64 ((-1) - ↑i)]) Z (fun _ => by kernel_rfl)) (jsta k1 Z133 Z Z Z ⟨Z,Z,Z,trivial⟩ (saf Z) (jn (jx (jrt (jbr ?_)))))))))))
 refine jtr (jtr (jbr (jtr (jbr (jtr (jtr (jbr (jtr ?_))))))))
 exact jrcA (val := vGo7) (b := ⟨rPhiM ((ix m.Blocks k).Phis) ↑i,↑k,(-1) - ↑i⟩) (c := ()) Z Z k0 A133 Z133 Z (by first | exact th_some (things_phi (by omega) hB (by omega) hP hc3) | exact th_some (things_ins (by omega) hB (phiW_end (by omega) hP) (by omega) hI hc5) | exact th_some (things_end (by omega) hB (phiW_end (by omega) hP) (insW_end (by omega) hI) hc6) | exact th_none (things_done (by omega) hB)) (rGo7.M (m := ⟨rPhiM ((ix m.Blocks k).Phis) ↑i,↑k,(-1) - ↑i⟩) (c := ()) (wp (phiE_wr _ _)) (wp (IntWalk.i64_in ↑k (by omega))) (wp (IntWalk.i64_in ((-1) - ↑i) (by omega))))
 refine jsk (jbn (jx (jr (jm Z (js (jadd Z Z (by omega)) (ja Z (jn ?_)))))))
 exact jag (i + 1) ⟨by omega,phiW_next (by omega) hP hc3⟩ (dc d0 (dc d1 dn)) (kd (kc k0 kn)) ⟨Z,Z,Z,Z,eqI (by omega),trivial⟩
 refine jex (jtx (jtx (jbh (jx (jq (jq (jr (ja Z (jn (jx (jb ?_)))))))))))
 refine jlp (fun (j : Nat) => ⟨j ≤ (ix m.Blocks k).Ins.length ∧ insW 0 (ix m.Blocks k).Ins = insW j ((ix m.Blocks k).Ins.drop j),[da rMBlock (vMBlock (ix m.Blocks k) (c21a,c21b,c21c)) (ix m.Blocks k),da rMFunc (vMFunc m a0) m],[bx g4 37 [c21a,c21b,.int .i64 (((ix m.Blocks k).End).Op),.int .i64 (((ix m.Blocks k).End).A),.int .i64 (((ix m.Blocks k).End).B),c21c,.int .i32 (((ix m.Blocks k).End).Imm)],bx g2 133 [.int .i64 0,.int .i64 0,.int .i64 0],bx g1 28 [.int .i64 m.Params,a0]],[(1,.pointer (some ⟨g1,0,none⟩)),(2,.pointer (some ⟨g2,0,none⟩)),(3,.int .i64 (↑k)),(4,.pointer (some ⟨g4,0,none⟩)),(7,.int .i64 (↑j))],(ix m.Blocks k).Ins.length - j⟩) 0 ⟨by omega,rfl⟩ (dc d0 (dc d1 dn)) (kd (kc k0 kn)) ⟨Z,Z,Z,Z,eqI (by omega),trivial⟩ ?_
 rintro j; dsimp only; rintro ⟨hj,hI⟩
 refine jq (jq (jr (jm Z (js (jf F37_1 Z) (js (jl k0 O33 Z Z) (js (jln U33 (rMBlock.cI d0) Z) (js (jlss Z Z) (jn (jx ?_)))))))))
 refine jif Z (fun hc4 => ?_) (fun hc4 => ?_)
 refine jsk (jx (jq (jb (jq (jr (js (jf F37_1 Z) (js (jl k0 O33 Z Z) (jm Z (js (jix U33 Z69 (rMBlock.cI d0) Z Z Z (by omega)) (jA sMach (jlA (dix (rMBlock.cI d0) j (by omega)) A69 Z69 Z) fun c51 => jcv E163 Z Z rIns_ct (dc d0 dn) kn ?_))))))))))
 refine ja Z (jn (jx (jq (jr (jm Z (js (jneq Z Z) (jn (jx ?_))))))))
 refine jif Z (fun hc5 => ?_) (fun hc5 => ?_)
 refine jq (jr (jm Z (jm Z (jm Z (js (jbu (v := .agg #[.int .i64 (insE (ix ((ix m.Blocks k).Ins) j)),.int .i64 (↑k),.int .i64 (↑j)]) Z (fun _ => by kernel_rfl)) (jsta k1 Z133 Z Z Z ⟨Z,Z,Z,trivial⟩ (saf Z) (jn (jx (jrt (jbr (jtr ?_)))))))))))
 refine jtr (jbr (jtr (jbr (jtr (jtr (jbr (jtr ?_)))))))
 exact jrcA (val := vGo7) (b := ⟨insE (ix ((ix m.Blocks k).Ins) j),↑k,↑j⟩) (c := ()) Z Z k0 A133 Z133 Z (by first | exact th_some (things_phi (by omega) hB (by omega) hP hc3) | exact th_some (things_ins (by omega) hB (phiW_end (by omega) hP) (by omega) hI hc5) | exact th_some (things_end (by omega) hB (phiW_end (by omega) hP) (insW_end (by omega) hI) hc6) | exact th_none (things_done (by omega) hB)) (rGo7.M (m := ⟨insE (ix ((ix m.Blocks k).Ins) j),↑k,↑j⟩) (c := ()) (wp (insE_wr _)) (wp (IntWalk.i64_in ↑k (by omega))) (wp (IntWalk.i64_in ↑j (by omega))))
 refine jsk (jbn (jx (jr (jm Z (js (jadd Z Z (by omega)) (ja Z (jn ?_)))))))
 exact jag (j + 1) ⟨by omega,insW_next (by omega) hI hc5⟩ (dc d1 (dc d2 dn)) (kd (kc k0 kn)) ⟨Z,Z,Z,Z,eqI (by omega),trivial⟩
 refine jex (jtx (jtx (jbh (jx (jq (jr (js (jf F37_2 Z) (js (jla k0 A35 Z35 Z Z Z) (js (jf F28_1 Z) (js (jl k2 O26 Z Z) (js (jln U26 (rMFunc.cB d1) Z) ?_)))))))))))
 refine jcv E164 Z Z (rEnd_ct (↑(List.length m.Blocks))) (dc (rMBlock.P_End d0) dn) kn (ja Z (jn (jx (jq (jr (jm Z (js (jneq Z Z) (jn (jx ?_)))))))))
 refine jif Z (fun hc6 => ?_) (fun hc6 => ?_)
 refine jq (jr (jm Z (jm Z (js (jf F37_1 Z) (js (jl k0 O33 Z Z) (js (jln U33 (rMBlock.cI d0) Z) (js (jbu (v := .agg #[.int .i64 (endE ((ix m.Blocks k).End) (↑(List.length m.Blocks))),.int .i64 (↑k),.int .i64 (↑(List.length ((ix m.Blocks k).Ins)))]) Z (fun _ => by kernel_rfl)) (jsta k1 Z133 Z Z Z ⟨Z,Z,Z,trivial⟩ (saf Z) (jn (jx (jrt ?_)))))))))))
 refine jbr (jtr (jtr (jbr (jtr ?_))))
 exact jrcA (val := vGo7) (b := ⟨endE ((ix m.Blocks k).End) (↑(List.length m.Blocks)),↑k,↑(List.length ((ix m.Blocks k).Ins))⟩) (c := ()) Z Z k0 A133 Z133 Z (by first | exact th_some (things_phi (by omega) hB (by omega) hP hc3) | exact th_some (things_ins (by omega) hB (phiW_end (by omega) hP) (by omega) hI hc5) | exact th_some (things_end (by omega) hB (phiW_end (by omega) hP) (insW_end (by omega) hI) hc6) | exact th_none (things_done (by omega) hB)) (rGo7.M (m := ⟨endE ((ix m.Blocks k).End) (↑(List.length m.Blocks)),↑k,↑(List.length ((ix m.Blocks k).Ins))⟩) (c := ()) (wp (endE_wr _ _)) (wp (IntWalk.i64_in ↑k (by omega))) (wp (IntWalk.i64_in (↑(List.length ((ix m.Blocks k).Ins))) (by omega))))
 refine jsk (jbn (jx (jr (jm Z (js (jadd Z Z (by omega)) (ja Z (jn ?_)))))))
 exact jag (k + 1) ⟨by omega,things_next (by omega) hB (phiW_end (by omega) hP) (insW_end (by omega) hI) hc6⟩ (dc d1 dn) (kc k1 (kc k1 kn)) ⟨Z,Z,eqI (by omega),trivial⟩
 refine jex (jtx (jtx (jbh (jx (jq (jr (js (jbu (v := .agg #[.int .i64 0,.int .i64 0,.int .i64 0]) Z (fun _ => by kernel_rfl)) (jsta k0 Z133 Z Z Z ⟨Z,Z,Z,trivial⟩ (saf Z) (jn (jx (jrt ?_)))))))))))
 exact jrcA (val := vGo7) (b := ⟨0,0,0⟩) (c := ()) Z Z k0 A133 Z133 Z (by first | exact th_some (things_phi (by omega) hB (by omega) hP hc3) | exact th_some (things_ins (by omega) hB (phiW_end (by omega) hP) (by omega) hI hc5) | exact th_some (things_end (by omega) hB (phiW_end (by omega) hP) (insW_end (by omega) hI) hc6) | exact th_none (things_done (by omega) hB)) (rGo7.M (m := ⟨0,0,0⟩) (c := ()) (wl 0) (wl 0) (wl 0))
theorem rPreds_ct {a0 : Value} {m : D.MFunc} (block : Int) (hn9 : m.Blocks.length < 1073741824) : Td Tryz.prog 113 #[vMFunc m a0,.int .i64 block] [da rMFunc (vMFunc m a0) m] [] (rL (rI .i64)) (rPredsM m block) := by
 refine jenter (args := [vMFunc m a0,.int .i64 block]) Tryz.func113 rfl rfl rfl fun w0 X => ?_
 refine jq (jr (jbox Z Z fun g2 => ja Z (jn (jx (jq (jr (jlit (r := (rI .i64)) (l := []) U22 I3 (by decide) Z Z Z ln fun g9 => ja Z (jn (jx ?_)))))))))
 refine jq (jq (jr (ja Z (jn (jx (jb ?_))))))
 refine jlp (u3 fun (k : Nat) (vo : Value) (lo : List Int) => ⟨k ≤ m.Blocks.length ∧ lo = predsT m.Blocks k block,[da rMFunc (vMFunc m a0) m],[gl X.n (rI .i64) 3 vo lo,bx g2 28 [.int .i64 m.Params,a0]],[(1,.int .i64 block),(2,.pointer (some ⟨g2,0,none⟩)),(4,.slice none 0 0),(5,vo),(6,.int .i64 (↑k))],m.Blocks.length - k⟩) (0,(.slice (some ⟨g9,0,none⟩) 0 0),[]) ⟨by dsimp only; omega,rfl⟩ (dc d0 dn) (kd kn) ⟨Z,Z,Z,Z,eqI (by omega),trivial⟩ ?_
 rintro ⟨k,vo,lo⟩; dsimp only [u3]; rintro ⟨hk,hlo⟩
 refine cgo k0 fun w1 => ?_
 have hll : lo.length ≤ k := by rw [hlo]; exact predsT_len _ _ _
 refine jq (jq (jr (jm Z (js (jf F28_1 Z) (js (jl k1 O26 Z Z) (jdq (rMFunc.cB d0) fun q2 w2 => js (jln U26 (rMFunc.cB d0) Z) (js (jlss Z Z) (jn (jx ?_)))))))))
 refine jif Z (fun hc1 => ?_) (fun hc1 => ?_)
 refine jsk (jx (jq (jb (jq (jr (ja Z (jn (jx (jq (jq (jr ?_)))))))))))
 refine ja Z (jn (jx (jb ?_)))
 refine jlp (u2 fun (j : Nat) (b : Bool) => ⟨j ≤ (ix m.Blocks k).End.To.length ∧ b = ((ix m.Blocks k).End.To.take j).any (fun y => decide (y = block)),[da rMFunc (vMFunc m a0) m],[gl X.n (rI .i64) 3 vo lo,bx g2 28 [.int .i64 m.Params,a0]],[(1,.int .i64 block),(2,.pointer (some ⟨g2,0,none⟩)),(4,.slice none 0 0),(5,vo),(6,.int .i64 (↑k)),(7,.bool b),(8,.int .i64 (↑j))],(ix m.Blocks k).End.To.length - j⟩) (0,false) ⟨by dsimp only; omega,rfl⟩ (dc d0 dn) (kd kn) ⟨Z,Z,Z,Z,Z,Z,eqI (by omega),trivial⟩ ?_
 rintro ⟨j,b⟩; dsimp only [u2]; rintro ⟨hj,hb⟩
 refine jq (jq (jr (jm Z (js (jf F28_1 Z) (js (jl k1 O26 Z Z) (jm Z (js (jix U26 Z37 (rMFunc.cB d0) Z Z Z (by omega)) (js (jf F37_2 Z) (js (jf F35_3 Z) (jev (jlV (rEnd.A_To (rMBlock.A_End (dix (rMFunc.cB d0) k (by omega)))) O22 Z Z) fun v24 q3 w3 => js (jln U22 d0 Z) ?_))))))))))
 refine js (jlss Z Z) (jn (jx ?_))
 refine jif Z (fun hc2 => ?_) (fun hc2 => ?_)
 refine jsk (jx (jq (jb (jr (jm Z (jm Z (jg Z Z (.f _) (fun hg => jf F28_1 Z) (jg Z Z (.f _) (fun hg => jl k1 O26 (evg Z hg) Z) (jg Z Z (.f _) (fun hg => jmv Z) (jg Z Z (.f _) (fun hg => jix U26 Z37 (rMFunc.cB d1) (evg Z hg) (evg Z hg) Z (by first | omega | (simp at hg; omega) | (simp only [List.length_set]; omega))) (jg Z Z (.f _) (fun hg => jf F37_2 (evg Z hg)) ?_)))))))))))
 refine jg Z Z (.f _) (fun hg => jf F35_3 (evg Z hg)) (jge (q := fun v => dv (rL (rI .i64)) v (((ix m.Blocks k).End).To)) Z Z (.f _) (fun hg => jlV (rEnd.A_To (rMBlock.A_End (dix (rMFunc.cB d1) k (by first | omega | (simp at hg; omega) | (simp only [List.length_set]; omega))))) O22 Z (evg Z hg)) fun v37 => jg Z Z (.f _) (fun hg => jmv Z) (jg Z Z (.f _) (fun hg => jix U22 Z3 (d0.on hg) (evg Z hg) (evg Z hg) Z (by first | omega | (simp at hg; omega) | (simp only [List.length_set]; omega))) (jg Z Z (.f _) (fun hg => jlI (dix (d0.on hg) j (by first | omega | (simp at hg; omega) | (simp only [List.length_set]; omega))) O3 (evg Z hg)) (jg Z Z (.f _) (fun hg => jmv Z) (jg Z Z (.f _) (fun hg => jeql (evg Z hg) (evg Z hg)) (js (jor Z Z) (ja Z (jn (jbn (jx ?_))))))))))
 refine jr (jm Z (js (jadd Z Z (by omega)) (ja Z (jn ?_))))
 exact jag (j + 1,b || (decide (ix (((ix m.Blocks k).End).To) j = block))) ⟨by dsimp only; omega,by dsimp only; rw [any_snoc (by omega),← hb]⟩ (dc d2 dn) (kd kn) ⟨Z,Z,Z,Z,Z,Z,eqI (by omega),trivial⟩
 refine jex (jtx (jtx (jbh (jx (jq (jr (jm Z (jn (jx ?_)))))))))
 refine jif Z (fun hc3 => ?_) (fun hc3 => ?_)
 refine jr (jm Z (jm Z (japv U22 I3 (by decide) Z Z k0 Z (wI (wp (IntWalk.i64_in _ (by omega)))) (by omega) (fun _ => Z) fun v48 _ w6 => ja Z (jn (jbn (jx (jr (jm Z (js (jadd Z Z (by omega)) (ja Z ?_))))))))))
 refine jn ?_
 exact jag (k + 1,v48,lo ++ [((k : Nat) : Int)]) ⟨by dsimp only; omega,by dsimp only; rw [preds_step hb (by omega),hc3,← hlo]; simp⟩ (dc d1 dn) (kd kn) ⟨Z,Z,Z,Z,eqI (by omega),trivial⟩
 refine jsk (jbn (jx (jr (jm Z (js (jadd Z Z (by omega)) (ja Z (jn ?_)))))))
 exact jag (k + 1,vo,lo) ⟨by dsimp only; omega,by dsimp only; rw [preds_step hb (by omega),hc3,← hlo]; simp⟩ (dc d1 dn) (kd kn) ⟨Z,Z,Z,Z,eqI (by omega),trivial⟩
 refine jex (jtx (jtx (jbh (jx (jq (jr (jm Z (ja Z (jn (jx (jrt ?_)))))))))))
 refine qfz k0 (by omega) ?_
 exact jrD Z Z (by have e9 : k = m.Blocks.length := (by omega); subst e9; exact hlo.symm) d0
set_option maxRecDepth 4000 in
theorem rReached_ct {a0 : Value} {m : D.MFunc} (hn : 0 < m.Blocks.length) (hT : ∀ x ∈ m.Blocks,∀ t ∈ x.End.To,1 ≤ t ∧ t < m.Blocks.length) : Td Tryz.prog 112 #[vMFunc m a0] [da rMFunc (vMFunc m a0) m] [] (rL rB) (rReachM m) := by
 refine jenter (args := [vMFunc m a0]) Tryz.func112 rfl rfl rfl fun w0 X => ?_
 refine jq (jr (jbox Z Z fun g1 => ja Z (jn (jx (jq (jr (js (jf F28_1 Z) (js (jl k0 O26 Z Z) (jdq (rMFunc.cB d0) fun q1 w1 => js (jln U26 (rMFunc.cB d0) Z) ?_)))))))))
 refine jmk (m := (List.length m.Blocks)) (r := rB) U93 I4 Z Z Z Z Z (by omega) wB Z fun g11 => ja Z (jn (jx (jq (jr (jlit (r := (rI .i64)) (l := [0]) U22 I3 (by decide) Z Z Z (lV Z Z (wI (wl 0)) ln) fun g12 => ja Z (jn (jx (jq (jr ?_)))))))))
 refine jm Z (js (jig (i := 0) U93 Z4 k1 Z Z Z (by rw [lrep]; omega)) (jsg k1 Z Z4 Z Z Z (by rw [lrep]; omega) wB (jn (jx (jq (jq (jr (ja Z (jn (jx (jb ?_)))))))))))
 refine jlp (u4 fun (i : Nat) (se : List Bool) (l : List Int) (vl : Value) => ⟨reachedM m.Blocks = bfs m.Blocks (m.Blocks.length - i) se (l.drop i) ∧ cntF se + l.length ≤ m.Blocks.length ∧ i ≤ l.length ∧ se.length = m.Blocks.length ∧ (∀ x ∈ l,0 ≤ x ∧ x < m.Blocks.length),[da rMFunc (vMFunc m a0) m],[gl X.n rB 4 (.slice (some ⟨g11,0,none⟩) (List.length m.Blocks) (List.length m.Blocks)) se,gl X.n (rI .i64) 3 vl l,bx g1 28 [.int .i64 m.Params,a0]],[(1,.pointer (some ⟨g1,0,none⟩)),(2,.slice none 0 0),(3,(.slice (some ⟨g11,0,none⟩) (List.length m.Blocks) (List.length m.Blocks))),(4,vl),(5,.int .i64 (↑i))],m.Blocks.length - i⟩) (0,List.set (List.replicate (List.length m.Blocks) false) 0 true,[0],(.slice (some ⟨g12,0,none⟩) 1 1)) ⟨rfl,cnt_start hn,by simp,by simp,by simp; omega⟩ (dc d0 dn) (kd (kc k0 kn)) ⟨Z,Z,Z,Z,eqI (by omega),trivial⟩ ?_
 rintro ⟨i,se,l,vl⟩; dsimp only [u4]; rintro ⟨hb,hcn,hil,hse,hq⟩
 refine cgo k1 fun w2 => jq (jq (jr (jm Z (jm Z (js (jlg U22 k1 Z) (js (jlss Z Z) (jn (jx ?_))))))))
 refine jif Z (fun hc1 => ?_) (fun hc1 => ?_)
 have hqi := hq _ (ix_mem (l := l) (i := i) (by omega))
 refine jsk (jx (jq (jb (jq (jstl Mixed (by kernel_rfl) (jt (jf F28_1 Z) (jt (jl k2 O26 Z Z) (jt (jmv Z) (jt (jmv Z) (jt (jig U22 Z3 k1 Z Z Z (by omega)) (jt (jgI k1 (by omega) O3 Z) ?_)))))))))))
 refine jt (jix (i := (Int.toNat (ix l i))) U26 Z37 (rMFunc.cB d0) Z Z (by omega) (by omega)) (jt (jf F37_2 Z) (jt (jf F35_3 Z) (jtv (jlV (rEnd.A_To (rMBlock.A_End (dix (rMFunc.cB d0) (Int.toNat (ix l i)) (by omega)))) O22 Z Z) fun v30 q3 w3 => jt (jas Z) (jdn (jx (jq (jr (ja Z (jn (jx ?_))))))))))
 refine jb ?_
 refine jlp (u4 fun (j : Nat) (se2 : List Bool) (l2 : List Int) (vl2 : Value) => ⟨j ≤ (ix m.Blocks (Int.toNat (ix l i))).End.To.length ∧ bfsIn se2 (l2.drop i) ((ix m.Blocks (Int.toNat (ix l i))).End.To.drop j) = bfsIn se (l.drop i) (ix m.Blocks (Int.toNat (ix l i))).End.To ∧ cntF se2 + l2.length ≤ m.Blocks.length ∧ se2.length = m.Blocks.length ∧ (∀ x ∈ l2,0 ≤ x ∧ x < m.Blocks.length) ∧ i < l2.length,[dv (rL (rI .i64)) v30 (((ix m.Blocks (Int.toNat (ix l i))).End).To),da rMFunc (vMFunc m a0) m],[gl X.n rB 4 (.slice (some ⟨g11,0,none⟩) (List.length m.Blocks) (List.length m.Blocks)) se2,gl X.n (rI .i64) 3 vl2 l2,bx g1 28 [.int .i64 m.Params,a0]],[(1,.pointer (some ⟨g1,0,none⟩)),(2,.slice none 0 0),(3,(.slice (some ⟨g11,0,none⟩) (List.length m.Blocks) (List.length m.Blocks))),(4,vl2),(5,.int .i64 (↑i)),(6,v30),(7,.int .i64 (↑j))],(ix m.Blocks (Int.toNat (ix l i))).End.To.length - j⟩) (0,se,l,vl) ⟨by dsimp only; omega,rfl,hcn,hse,hq,by dsimp only; omega⟩ (dc d0 (dc d1 dn)) (kd (kc k0 kn)) ⟨Z,Z,Z,Z,Z,Z,eqI (by omega),trivial⟩ ?_
 rintro ⟨j,se2,l2,vl2⟩; dsimp only [u4]; rintro ⟨hj,hIn,hcn2,hse2,hq2,hi2⟩
 refine cgo k1 fun w5 => jq (jq (jr (jm Z (jm Z (js (jln U22 d0 Z) (js (jlss Z Z) (jn (jx ?_))))))))
 refine jif Z (fun hc2 => ?_) (fun hc2 => ?_)
 have htq := hT _ (ix_mem (l := m.Blocks) (i := Int.toNat (ix l i)) (by omega)) _ (ix_mem (l := (ix m.Blocks (Int.toNat (ix l i))).End.To) (i := j) (by omega))
 refine jsk (jx (jq (jb (jq (jr (jm Z (jm Z (jm Z (js (jix U22 Z3 d0 Z Z Z (by omega)) (js (jlI (dix d0 j (by omega)) O3 Z) (js (jig (i := (Int.toNat (ix (((ix m.Blocks (Int.toNat (ix l i))).End).To) j))) U93 Z4 k0 Z Z (by omega) (by omega)) ?_)))))))))))
 refine js (jgB k0 (by omega) O4 Z) (js (jnot Z) (jn (jx ?_)))
 refine jif Z (fun hc3 => ?_) (fun hc3 => ?_)
 refine jq (jr (jm Z (jm Z (jm Z (js (jix U22 Z3 d0 Z Z Z (by omega)) (js (jlI (dix d0 j (by omega)) O3 Z) (js (jig (i := (Int.toNat (ix (((ix m.Blocks (Int.toNat (ix l i))).End).To) j))) U93 Z4 k0 Z Z (by omega) (by omega)) (jsg k0 Z Z4 Z Z Z (by omega) wB (jn (jx (jr ?_)))))))))))
 refine jm Z (jm Z (jm Z (js (jix U22 Z3 d0 Z Z Z (by omega)) (js (jlI (dix d0 j (by omega)) O3 Z) (japv U22 I3 (by decide) Z Z k1 Z (wI (wad (dix d0 j (by omega)))) (by omega) (fun _ => Z) fun v57 _ w6 => ja Z (jn (jbn (jx (jr (jm Z ?_))))))))))
 refine js (jadd Z Z (by omega)) (ja Z (jn ?_))
 exact jag (j + 1,List.set se2 (Int.toNat (ix (((ix m.Blocks (Int.toNat (ix l i))).End).To) j)) true,l2 ++ [ix (((ix m.Blocks (Int.toNat (ix l i))).End).To) j],v57) ⟨by dsimp only; omega,rb_new (by omega) (by omega) hIn hc3,by dsimp only; have h9 := cntF_set (l := se2) (i := Int.toNat (ix (ix m.Blocks (Int.toNat (ix l i))).End.To j)) (by omega) (by rw [hc3]; decide); rw [List.length_append]; simp; omega,by dsimp only; rw [List.length_set]; exact hse2,by dsimp only; intro x hx9; rcases List.mem_append.1 hx9 with h9 | h9; (· exact hq2 x h9); (simp at h9; subst h9; omega),by dsimp only; rw [List.length_append]; omega⟩ (dc d0 (dc d1 dn)) (kc k1 (kd kn)) ⟨Z,Z,Z,Z,Z,Z,eqI (by omega),trivial⟩
 refine jsk (jbn (jx (jr (jm Z (js (jadd Z Z (by omega)) (ja Z (jn ?_)))))))
 exact jag (j + 1,se2,l2,vl2) ⟨by dsimp only; omega,rb_old (by omega) hIn hc3,hcn2,hse2,hq2,hi2⟩ (dc d0 (dc d1 dn)) (kd (kc k0 kn)) ⟨Z,Z,Z,Z,Z,Z,eqI (by omega),trivial⟩
 refine jex (jtx (jtx (jbh (jbn (jx (jr (jm Z (js (jadd Z Z (by omega)) (ja Z (jn ?_))))))))))
 exact jag (i + 1,se2,l2,vl2) ⟨rb_step (by omega) (by omega) hb hIn (by omega),by dsimp only; omega,by dsimp only; omega,hse2,hq2⟩ (dc d1 dn) (kd (kc k0 kn)) ⟨Z,Z,Z,Z,eqI (by omega),trivial⟩
 refine jex (jtx (jtx (jbh (jx (jq (jr (jm Z (ja Z (jn (jx (jrt ?_)))))))))))
 refine qfz k0 (by omega) ?_
 exact jrD Z Z (rb_end hb (by omega)) d0
set_option maxRecDepth 4000 in
set_option maxHeartbeats 1000000 in
theorem rFunc_ct {a0 : Value} {m : D.MFunc} : Ts Tryz.prog 73 #[vMFunc m a0] [da rMFunc (vMFunc m a0) m] [] rGo7 vGo7 (gotM m) := by
 refine jenter (args := [vMFunc m a0]) Tryz.func73 rfl rfl rfl fun w0 X => ?_
 refine jq (jr (jbox Z Z fun g1 => jalc J133 Z fun g2 => jn (jx (jq (jq (jr (js (jf F28_0 Z) (js (jl k1 O3 Z Z) (js (jlss Z Z) ?_)))))))))
 refine jm Z (jg Z Z (.f _) (fun hg => jf F28_0 Z) (jg Z Z (.f _) (fun hg => jl k1 O3 (evg Z hg) Z) (jg Z Z (.f _) (fun hg => jgtr (evg Z hg) Z) (js (jor Z Z) (jn (jx ?_))))))
 refine jif Z (fun hc1 => ?_) (fun hc1 => ?_)
 refine jq (jr (js (jbu (v := .agg #[.int .i64 1,.int .i64 0,.int .i64 0]) Z (fun _ => by kernel_rfl)) (jsta k0 Z133 Z Z Z ⟨Z,Z,Z,trivial⟩ (saf Z) (jn (jx (jrt (jtr ?_)))))))
 exact jrcA (val := vGo7) (b := ⟨1,0,0⟩) (c := ()) Z Z k0 A133 Z133 Z (by first | exact got_of (func_arg hc1) | exact got_of (func_block hc1 hc2) | exact got_of (func_many hc1 hc2 hc4) | (obtain ⟨t9,h8,h9⟩ := th_bad hc5; rw [got_of (func_some hc1 hc2 hc4 h8),h9]; done) | (rw [got_of ((func_graph hc1 hc2 hc4 (th_good hc5)).trans (rg_15 (by omega) hR hc7))]; done) | exact got_of ((func_graph hc1 hc2 hc4 (th_good hc5)).trans ((rg_no (by omega) hR).trans (phis_bad (by omega) (by omega) hG hno (eqIn_bad hEq hc11)))) | exact got_of ((func_graph hc1 hc2 hc4 (th_good hc5)).trans ((rg_no (by omega) hR).trans (by rw [hG,List.drop_of_length_le (by omega)]; rfl)))) (rGo7.M (m := ⟨1,0,0⟩) (c := ()) (wl 1) (wl 0) (wl 0))
 refine jsk (jx (jq (jq (jr (js (jf F28_1 Z) (js (jl k1 O26 Z Z) (jdq (rMFunc.cB d0) fun q1 w1 => js (jln U26 (rMFunc.cB d0) Z) (js (jeql Z Z) (jn (jx ?_))))))))))
 refine jif Z (fun hc2 => ?_) (fun hc2 => ?_)
 refine jq (jr (js (jbu (v := .agg #[.int .i64 14,.int .i64 0,.int .i64 0]) Z (fun _ => by kernel_rfl)) (jsta k0 Z133 Z Z Z ⟨Z,Z,Z,trivial⟩ (saf Z) (jn (jx (jrt (jtr ?_)))))))
 exact jrcA (val := vGo7) (b := ⟨14,0,0⟩) (c := ()) Z Z k0 A133 Z133 Z (by first | exact got_of (func_arg hc1) | exact got_of (func_block hc1 hc2) | exact got_of (func_many hc1 hc2 hc4) | (obtain ⟨t9,h8,h9⟩ := th_bad hc5; rw [got_of (func_some hc1 hc2 hc4 h8),h9]; done) | (rw [got_of ((func_graph hc1 hc2 hc4 (th_good hc5)).trans (rg_15 (by omega) hR hc7))]; done) | exact got_of ((func_graph hc1 hc2 hc4 (th_good hc5)).trans ((rg_no (by omega) hR).trans (phis_bad (by omega) (by omega) hG hno (eqIn_bad hEq hc11)))) | exact got_of ((func_graph hc1 hc2 hc4 (th_good hc5)).trans ((rg_no (by omega) hR).trans (by rw [hG,List.drop_of_length_le (by omega)]; rfl)))) (rGo7.M (m := ⟨14,0,0⟩) (c := ()) (wl 14) (wl 0) (wl 0))
 refine jsk (jx (jq (jr (ja Z (jn (jx (jq (jq (jr (ja Z (jn ?_)))))))))))
 refine jx (jb ?_)
 refine jlp (u2 fun (k : Nat) (c : Int) => ⟨k ≤ m.Blocks.length ∧ c + cntB (m.Blocks.drop k) = cntB m.Blocks ∧ 0 ≤ c ∧ c ≤ 2147483649 * k,[da rMFunc (vMFunc m a0) m],[bx g2 133 [.int .i64 0,.int .i64 0,.int .i64 0],bx g1 28 [.int .i64 m.Params,a0]],[(1,.pointer (some ⟨g1,0,none⟩)),(2,.pointer (some ⟨g2,0,none⟩)),(3,.int .i64 c),(4,.int .i64 (↑k))],m.Blocks.length - k⟩) (0,0) ⟨by dsimp only; omega,by simp,by simp,by simp⟩ (dc d0 dn) (kd kn) ⟨Z,Z,eqI (by omega),eqI (by omega),trivial⟩ ?_
 rintro ⟨k,c⟩; dsimp only [u2]; rintro ⟨hk,hc,h0,hc9⟩
 refine jq (jq (jr (jm Z (js (jf F28_1 Z) (js (jl k1 O26 Z Z) (js (jln U26 (rMFunc.cB d0) Z) (js (jlss Z Z) (jn (jx ?_)))))))))
 refine jif Z (fun hc3 => ?_) (fun hc3 => ?_)
 refine jsk (jx (jq (jb (jstl Mixed (by kernel_rfl) (jt (jmv Z) (jt (jf F28_1 Z) (jt (jl k1 O26 Z Z) (jt (jmv Z) (jt (jix U26 Z37 (rMFunc.cB d0) Z Z Z (by omega)) (jt (jf F37_0 Z) (jtv (jlV (rMBlock.A_Phis (dix (rMFunc.cB d0) k (by omega))) O32 Z Z) fun v41 q2 w2 => ?_)))))))))))
 refine jt (jln U32 d0 Z) (jt (jadd Z Z (by omega)) (jt (jf F28_1 Z) (jt (jl k1 O26 Z Z) (jt (jmv Z) (jt (jix U26 Z37 (rMFunc.cB d1) Z Z Z (by omega)) (jt (jf F37_1 Z) (jtv (jlV (rMBlock.A_Ins (dix (rMFunc.cB d1) k (by omega))) O33 Z Z) fun v49 q4 w4 => jt (jln U33 d0 Z) (jt (jadd Z Z (by omega)) (jt (jadd Z Z (by omega)) (jt (jas Z) ?_))))))))))
 refine jdn (jbn (jx (jr (jm Z (js (jadd Z Z (by omega)) (ja Z (jn ?_)))))))
 exact jag (k + 1,((c + (((List.length ((ix m.Blocks k).Phis) : Nat) : Int))) + (((List.length ((ix m.Blocks k).Ins) : Nat) : Int))) + 1) ⟨by dsimp only; omega,by dsimp only; rw [← hc,drop_ix (l := m.Blocks) (i := k) (by omega),cntB]; omega,by dsimp only; omega,by dsimp only; omega⟩ (dc d2 dn) (kd kn) ⟨Z,Z,Z,eqI (by omega),trivial⟩
 have hcnt : c = cntB m.Blocks := by rw [← hc,List.drop_of_length_le (by omega)]; simp [cntB]
 subst hcnt
 refine jex (jtx (jtx (jbh (jx (jq (jq (jr (js (jf F28_1 Z) (js (jl k1 O26 Z Z) (js (jln U26 (rMFunc.cB d0) Z) (js (jgtr Z Z) ?_)))))))))))
 refine jm Z (jg Z Z (.f _) (fun hg => jmv Z) (jg Z Z (.f _) (fun hg => jgtr (evg Z hg) Z) (js (jor Z Z) (jn (jx ?_)))))
 refine jif Z (fun hc4 => ?_) (fun hc4 => ?_)
 refine jq (jr (js (jbu (v := .agg #[.int .i64 2,.int .i64 0,.int .i64 0]) Z (fun _ => by kernel_rfl)) (jsta k0 Z133 Z Z Z ⟨Z,Z,Z,trivial⟩ (saf Z) (jn (jx (jrt (jtr ?_)))))))
 exact jrcA (val := vGo7) (b := ⟨2,0,0⟩) (c := ()) Z Z k0 A133 Z133 Z (by first | exact got_of (func_arg hc1) | exact got_of (func_block hc1 hc2) | exact got_of (func_many hc1 hc2 hc4) | (obtain ⟨t9,h8,h9⟩ := th_bad hc5; rw [got_of (func_some hc1 hc2 hc4 h8),h9]; done) | (rw [got_of ((func_graph hc1 hc2 hc4 (th_good hc5)).trans (rg_15 (by omega) hR hc7))]; done) | exact got_of ((func_graph hc1 hc2 hc4 (th_good hc5)).trans ((rg_no (by omega) hR).trans (phis_bad (by omega) (by omega) hG hno (eqIn_bad hEq hc11)))) | exact got_of ((func_graph hc1 hc2 hc4 (th_good hc5)).trans ((rg_no (by omega) hR).trans (by rw [hG,List.drop_of_length_le (by omega)]; rfl)))) (rGo7.M (m := ⟨2,0,0⟩) (c := ()) (wl 2) (wl 0) (wl 0))
 refine jsk (jx (jq (jr (js (jla k1 A28 Z28 Z Z Z) (jcs E111 Z Z rThings_ct (dc d0 dn) kn fun _ => jalc J133 Z fun g5 => jsta k0 Z133 Z Z Z ⟨Z,Z,Z,trivial⟩ (saf Z) (jn (jx (jq (jq ?_)))))))))
 refine jr (js (jf F133_0 Z) (js (jl k0 O118 Z Z) (js (jneq Z Z) (jn (jx ?_)))))
 refine jif Z (fun hc5 => ?_) (fun hc5 => ?_)
 refine jq (jr (js (jla k0 A133 Z133 Z Z Z) (jsta k1 Z133 Z Z Z ⟨Z,Z,Z,trivial⟩ (saf Z) (jn (jx (jrt (jtr ?_)))))))
 exact jrcA (val := vGo7) (b := thM m) (c := ()) Z Z k0 A133 Z133 Z (by first | exact got_of (func_arg hc1) | exact got_of (func_block hc1 hc2) | exact got_of (func_many hc1 hc2 hc4) | (obtain ⟨t9,h8,h9⟩ := th_bad hc5; rw [got_of (func_some hc1 hc2 hc4 h8),h9]; done) | (rw [got_of ((func_graph hc1 hc2 hc4 (th_good hc5)).trans (rg_15 (by omega) hR hc7))]; done) | exact got_of ((func_graph hc1 hc2 hc4 (th_good hc5)).trans ((rg_no (by omega) hR).trans (phis_bad (by omega) (by omega) hG hno (eqIn_bad hEq hc11)))) | exact got_of ((func_graph hc1 hc2 hc4 (th_good hc5)).trans ((rg_no (by omega) hR).trans (by rw [hG,List.drop_of_length_le (by omega)]; rfl)))) d0
 refine jsk (jx (jq (jr (js (jla k2 A28 Z28 Z Z Z) (jcd E112 Z Z (rReached_ct (by first | omega | exact things_to (th_good hc5)) (by first | omega | exact things_to (th_good hc5))) (dc d1 dn) kn fun v69 q7 w7 => ja Z (jn (jx (jq (jq (jr ?_))))))))))
 refine ja Z (jn (jx (jb ?_)))
 refine jlp (fun (k2 : Nat) => ⟨k2 ≤ (rReachM m).length ∧ (∀ x ∈ (rReachM m).take k2,(false == x) = false),[dv (rL rB) v69 (rReachM m),da rMFunc (vMFunc m a0) m],[bx g2 133 [.int .i64 0,.int .i64 0,.int .i64 0],bx g1 28 [.int .i64 m.Params,a0]],[(1,.pointer (some ⟨g1,0,none⟩)),(2,.pointer (some ⟨g2,0,none⟩)),(6,v69),(7,.int .i64 (↑k2))],(rReachM m).length - k2⟩) 0 ⟨by omega,by simp⟩ (dc d0 (dc d2 dn)) (kc k1 (kc k1 kn)) ⟨Z,Z,Z,eqI (by omega),trivial⟩ ?_
 rintro k2; dsimp only; rintro ⟨hk2,hR⟩
 refine jq (jq (jr (jm Z (jm Z (js (jln U93 d0 Z) (js (jlss Z Z) (jn (jx ?_))))))))
 refine jif Z (fun hc6 => ?_) (fun hc6 => ?_)
 refine jsk (jx (jq (jb (jq (jr (jm Z (jm Z (js (jix U93 Z4 d0 Z Z Z (by omega)) (js (jlB (dix d0 k2 (by omega)) O4 Z) (js (jnot Z) (jn ?_)))))))))))
 refine jx ?_
 refine jif Z (fun hc7 => ?_) (fun hc7 => ?_)
 refine jq (jr (jm Z (js (jbu (v := .agg #[.int .i64 15,.int .i64 (↑k2),.int .i64 0]) Z (fun _ => by kernel_rfl)) (jsta k0 Z133 Z Z Z ⟨Z,Z,Z,trivial⟩ (saf Z) (jn (jx (jrt (jbr (jtr (jtr (jbr ?_)))))))))))
 refine jtr ?_
 exact jrcA (val := vGo7) (b := ⟨15,↑k2,0⟩) (c := ()) Z Z k0 A133 Z133 Z (by first | exact got_of (func_arg hc1) | exact got_of (func_block hc1 hc2) | exact got_of (func_many hc1 hc2 hc4) | (obtain ⟨t9,h8,h9⟩ := th_bad hc5; rw [got_of (func_some hc1 hc2 hc4 h8),h9]; done) | (rw [got_of ((func_graph hc1 hc2 hc4 (th_good hc5)).trans (rg_15 (by omega) hR hc7))]; done) | exact got_of ((func_graph hc1 hc2 hc4 (th_good hc5)).trans ((rg_no (by omega) hR).trans (phis_bad (by omega) (by omega) hG hno (eqIn_bad hEq hc11)))) | exact got_of ((func_graph hc1 hc2 hc4 (th_good hc5)).trans ((rg_no (by omega) hR).trans (by rw [hG,List.drop_of_length_le (by omega)]; rfl)))) (rGo7.M (m := ⟨15,↑k2,0⟩) (c := ()) (wl 15) (wp (IntWalk.i64_in ↑k2 (by omega))) (wl 0))
 refine jsk (jbn (jx (jr (jm Z (js (jadd Z Z (by omega)) (ja Z (jn ?_)))))))
 exact jag (k2 + 1) ⟨by omega,no_snoc (q := fun x => false == x) (by omega) hR (by simp [hc7])⟩ (dc d0 (dc d1 dn)) (kd kn) ⟨Z,Z,Z,eqI (by omega),trivial⟩
 refine jex (jtx (jtx (jbh (jx (jq (jq (jr (ja Z (jn (jx (jb ?_)))))))))))
 refine jlp (fun (k5 : Nat) => ⟨k5 ≤ m.Blocks.length ∧ graphPhis m.Blocks 0 m.Blocks = graphPhis m.Blocks k5 (m.Blocks.drop k5),[da rMFunc (vMFunc m a0) m],[bx g2 133 [.int .i64 0,.int .i64 0,.int .i64 0],bx g1 28 [.int .i64 m.Params,a0]],[(1,.pointer (some ⟨g1,0,none⟩)),(2,.pointer (some ⟨g2,0,none⟩)),(8,.int .i64 (↑k5))],m.Blocks.length - k5⟩) 0 ⟨by omega,rfl⟩ (dc d1 dn) (kd kn) ⟨Z,Z,eqI (by omega),trivial⟩ ?_
 rintro k5; dsimp only; rintro ⟨hk5,hG⟩
 refine jq (jq (jr (jm Z (js (jf F28_1 Z) (js (jl k1 O26 Z Z) (js (jln U26 (rMFunc.cB d0) Z) (js (jlss Z Z) (jn (jx ?_)))))))))
 refine jif Z (fun hc8 => ?_) (fun hc8 => ?_)
 refine jsk (jx (jq (jb (jq (jr (js (jla k1 A28 Z28 Z Z Z) (jm Z (jcd E113 Z Z (rPreds_ct ↑k5 (by first | omega | exact things_to (th_good hc5))) (dc d0 dn) kn fun v92 q9 w9 => ja Z (jn (jx ?_))))))))))
 refine jq (jr (ja Z (jn (jx (jb ?_)))))
 refine jlp (fun (i6 : Nat) => ⟨i6 ≤ (ix m.Blocks k5).Phis.length ∧ (∀ p ∈ (ix m.Blocks k5).Phis.take i6,badPhi m.Blocks k5 p = false),[dv (rL (rI .i64)) v92 (rPredsM m ↑k5),da rMFunc (vMFunc m a0) m],[bx g2 133 [.int .i64 0,.int .i64 0,.int .i64 0],bx g1 28 [.int .i64 m.Params,a0]],[(1,.pointer (some ⟨g1,0,none⟩)),(2,.pointer (some ⟨g2,0,none⟩)),(8,.int .i64 (↑k5)),(9,v92),(10,.int .i64 (↑i6))],(ix m.Blocks k5).Phis.length - i6⟩) 0 ⟨by omega,by simp⟩ (dc d0 (dc d1 dn)) (kd kn) ⟨Z,Z,Z,Z,eqI (by omega),trivial⟩ ?_
 rintro i6; dsimp only; rintro ⟨hi6,hno⟩
 refine jq (jq (jr (jm Z (js (jf F28_1 Z) (js (jl k1 O26 Z Z) (jm Z (js (jix U26 Z37 (rMFunc.cB d1) Z Z Z (by omega)) (js (jf F37_0 Z) (jev (jlV (rMBlock.A_Phis (dix (rMFunc.cB d1) k5 (by omega))) O32 Z Z) fun v99 q11 w11 => js (jln U32 d0 Z) (js (jlss Z Z) ?_))))))))))
 refine jn (jx ?_)
 refine jif Z (fun hc9 => ?_) (fun hc9 => ?_)
 refine jsk (jx (jq (jb (jq (jr (js (jf F28_1 Z) (js (jl k1 O26 Z Z) (jm Z (js (jix U26 Z37 (rMFunc.cB d2) Z Z Z (by omega)) (js (jf F37_0 Z) (jev (jlV (rMBlock.A_Phis (dix (rMFunc.cB d2) k5 (by omega))) O32 Z Z) fun v109 q13 w13 => ?_)))))))))))
 refine jm Z (js (jix U32 Z62 d0 Z Z Z (by omega)) (js (jf F62_1 Z) (jev (jlV (rPhi.A_In (dix d0 i6 (by omega))) O60 Z Z) fun v113 q15 w15 => ja Z (jn (jx (jq (jr (jm Z (js (jgtr Z Z) (jm Z ?_))))))))))
 refine jg Z Z (.t _) (fun hg => jmv Z) (jg Z Z (.t _) (fun hg => jln U60 d0 (evg Z hg)) (jg Z Z (.t _) (fun hg => jmv Z) (jg Z Z (.t _) (fun hg => jln U22 d3 (evg Z hg)) (jg Z Z (.t _) (fun hg => jeql (evg Z hg) (evg Z hg)) (js (jand Z Z) (ja Z (jn (jx (jq (jq (jr ?_)))))))))))
 refine ja Z (jn (jx (jb ?_)))
 refine jlp (u2 fun (k7 : Nat) (ok : Bool) => ⟨EqIn m.Blocks k5 (ix (ix m.Blocks k5).Phis i6) k7 ok ∧ k7 ≤ (ix (ix m.Blocks k5).Phis i6).In.length,[dv (rL rIn) v113 ((ix ((ix m.Blocks k5).Phis) i6).In),dv (rL (rI .i64)) v92 (rPredsM m ↑k5),da rMFunc (vMFunc m a0) m],[bx g2 133 [.int .i64 0,.int .i64 0,.int .i64 0],bx g1 28 [.int .i64 m.Params,a0]],[(1,.pointer (some ⟨g1,0,none⟩)),(2,.pointer (some ⟨g2,0,none⟩)),(8,.int .i64 (↑k5)),(9,v92),(10,.int .i64 (↑i6)),(11,v113),(12,.bool ok),(13,.int .i64 (↑k7))],(ix (ix m.Blocks k5).Phis i6).In.length + 1 - k7⟩) (0,(decide (0 < ((k5 : Nat) : Int))) && (decide (((List.length ((ix ((ix m.Blocks k5).Phis) i6).In) : Nat) : Int) = ((List.length (rPredsM m ((k5 : Nat) : Int)) : Nat) : Int)))) ⟨eqIn_start,by dsimp only; omega⟩ (dc d0 (dc d3 (dc d4 dn))) (kd kn) ⟨Z,Z,Z,Z,Z,Z,Z,eqI (by omega),trivial⟩ ?_
 rintro ⟨k7,ok⟩; dsimp only [u2]; rintro ⟨hEq,hk7⟩
 refine jq (jq (jr (jm Z (jm Z (jg Z Z (.t _) (fun hg => jmv Z) (jg Z Z (.t _) (fun hg => jmv Z) (jg Z Z (.t _) (fun hg => jln U22 d1 (evg Z hg)) (jg Z Z (.t _) (fun hg => jlss (evg Z hg) (evg Z hg)) (js (jand Z Z) (jn (jx ?_)))))))))))
 refine jif Z (fun hc10 => ?_) (fun hc10 => ?_)
 have hlt7 : k7 < (ix (ix m.Blocks k5).Phis i6).In.length := by have h10 : (k7 : Int) < ((predsM m.Blocks k5).length : Int) := hc10.2; rcases hEq with ⟨_,_,h9,_⟩ | ⟨h9,_⟩; (· omega); (rw [h9] at hc10; exact absurd hc10.1 (by decide))
 refine jsk (jx (jq (jb (jstl Mixed (by kernel_rfl) (jt (jmv Z) (jt (jmv Z) (jt (jix U60 Z64 d0 Z Z Z (by omega)) (jt (jf F64_0 Z) (jt (jlI (rIn.A_From (dix d0 k7 (by omega))) O3 Z) (jt (jmv Z) (jt (jmv Z) ?_)))))))))))
 refine jt (jix U22 Z3 d1 Z Z Z (by omega)) (jt (jlI (dix d1 k7 (by omega)) O3 Z) (jt (jeql Z Z) (jt (jas Z) (jdn (jbn (jx (jr (jm Z (js (jadd Z Z (by omega)) (ja Z (jn ?_)))))))))))
 exact jag (k7 + 1,decide ((ix ((ix ((ix m.Blocks k5).Phis) i6).In) k7).From = ix (rPredsM m ((k5 : Nat) : Int)) k7)) ⟨eqIn_next hEq hc10,by dsimp only; omega⟩ (dc d0 (dc d1 (dc d2 dn))) (kd kn) ⟨Z,Z,Z,Z,Z,Z,Z,eqI (by omega),trivial⟩
 refine jex (jtx (jtx (jbh (jx (jq (jr (jm Z (js (jnot Z) (jn (jx ?_))))))))))
 refine jif Z (fun hc11 => ?_) (fun hc11 => ?_)
 refine jq (jr (jm Z (jm Z (js (jsub Z Z (by omega)) (js (jbu (v := .agg #[.int .i64 16,.int .i64 (↑k5),.int .i64 ((-1) - ↑i6)]) Z (fun _ => by kernel_rfl)) (jsta k0 Z133 Z Z Z ⟨Z,Z,Z,trivial⟩ (saf Z) (jn (jx (jrt (jbr (jtr ?_)))))))))))
 refine jtr (jbr (jbr (jtr (jtr (jbr (jtr ?_))))))
 exact jrcA (val := vGo7) (b := ⟨16,↑k5,(-1) - ↑i6⟩) (c := ()) Z Z k0 A133 Z133 Z (by first | exact got_of (func_arg hc1) | exact got_of (func_block hc1 hc2) | exact got_of (func_many hc1 hc2 hc4) | (obtain ⟨t9,h8,h9⟩ := th_bad hc5; rw [got_of (func_some hc1 hc2 hc4 h8),h9]; done) | (rw [got_of ((func_graph hc1 hc2 hc4 (th_good hc5)).trans (rg_15 (by omega) hR hc7))]; done) | exact got_of ((func_graph hc1 hc2 hc4 (th_good hc5)).trans ((rg_no (by omega) hR).trans (phis_bad (by omega) (by omega) hG hno (eqIn_bad hEq hc11)))) | exact got_of ((func_graph hc1 hc2 hc4 (th_good hc5)).trans ((rg_no (by omega) hR).trans (by rw [hG,List.drop_of_length_le (by omega)]; rfl)))) (rGo7.M (m := ⟨16,↑k5,(-1) - ↑i6⟩) (c := ()) (wl 16) (wp (IntWalk.i64_in ↑k5 (by omega))) (wp (IntWalk.i64_in ((-1) - ↑i6) (by omega))))
 refine jsk (jbn (jx (jr (jm Z (js (jadd Z Z (by omega)) (ja Z (jn ?_)))))))
 exact jag (i6 + 1) ⟨by omega,no_snoc (by omega) hno (eqIn_ok hEq hc10 hc11)⟩ (dc d1 (dc d2 dn)) (kd kn) ⟨Z,Z,Z,Z,eqI (by omega),trivial⟩
 refine jex (jtx (jtx (jbh (jbn (jx (jr (jm Z (js (jadd Z Z (by omega)) (ja Z (jn ?_))))))))))
 exact jag (k5 + 1) ⟨by omega,phis_good (by omega) (by omega) hG hno⟩ (dc d2 dn) (kd kn) ⟨Z,Z,eqI (by omega),trivial⟩
 refine jex (jtx (jtx (jbh (jx (jq (jr (js (jbu (v := .agg #[.int .i64 0,.int .i64 0,.int .i64 0]) Z (fun _ => by kernel_rfl)) (jsta k0 Z133 Z Z Z ⟨Z,Z,Z,trivial⟩ (saf Z) (jn (jx (jrt ?_)))))))))))
 exact jrcA (val := vGo7) (b := ⟨0,0,0⟩) (c := ()) Z Z k0 A133 Z133 Z (by first | exact got_of (func_arg hc1) | exact got_of (func_block hc1 hc2) | exact got_of (func_many hc1 hc2 hc4) | (obtain ⟨t9,h8,h9⟩ := th_bad hc5; rw [got_of (func_some hc1 hc2 hc4 h8),h9]; done) | (rw [got_of ((func_graph hc1 hc2 hc4 (th_good hc5)).trans (rg_15 (by omega) hR hc7))]; done) | exact got_of ((func_graph hc1 hc2 hc4 (th_good hc5)).trans ((rg_no (by omega) hR).trans (phis_bad (by omega) (by omega) hG hno (eqIn_bad hEq hc11)))) | exact got_of ((func_graph hc1 hc2 hc4 (th_good hc5)).trans ((rg_no (by omega) hR).trans (by rw [hG,List.drop_of_length_le (by omega)]; rfl)))) (rGo7.M (m := ⟨0,0,0⟩) (c := ()) (wl 0) (wl 0) (wl 0))
theorem rRight_ct {a0 : Value} {m : D.MFunc} : Tv Tryz.prog 51 #[vMFunc m a0] [da rMFunc (vMFunc m a0) m] [] (.bool (rightM m)) := by
 refine jenter (args := [vMFunc m a0]) Tryz.func51 rfl rfl rfl fun w0 X => ?_
 refine jq (jr (jbox Z Z fun g1 => ja Z (jn (jx (jq (jr (js (jla k0 A28 Z28 Z Z Z) (jcs E73 Z Z rFunc_ct (dc d0 dn) kn fun _ => js (jfo G133_0 O118 Z Z) (js (jeql Z Z) ?_)))))))))
 refine ja Z (jn (jx (jrt ?_)))
 exact jrB Z Z (by rfl)
theorem predsT_nodup (bs : List D.MBlock) (k : Nat) (b : Int) : (predsT bs k b).Nodup := by
 unfold predsT
 exact List.Pairwise.map _ (fun a b hab h => hab (Int.ofNat_inj.1 h)) (List.Pairwise.filter _ List.nodup_range)
theorem WFm.nodup {m : D.MFunc} (hw : WFm m) {k : Nat} (hk : k < m.Blocks.length) : ∀ p ∈ (ix m.Blocks k).Phis,(p.In.map (·.From)).Nodup := by
 intro p hp
 obtain ⟨_,h3,_⟩ := hw.phi k hk p hp
 rw [h3]; exact predsT_nodup _ _ _
section
variable {N : Int} {K : List Int → List Int → List D.Event → List Int → Int → D.Outcome} {O : D.Outcome} {I : List D.Mach} {k j na : Nat} {rs me A ea : List Int} {cl : List D.Event} {s : Int}
end
section
variable {a b : D.Outcome}
end
end Go.Proofs.YtehhjlkmbdhckaaGreat
