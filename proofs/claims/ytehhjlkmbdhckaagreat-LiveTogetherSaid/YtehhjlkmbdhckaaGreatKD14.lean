/- Lemmas that the claim is made of. Conditions: each lemma names its own. -/
import Derived.Test.YtehhjlkmbdhckaaGreatKD13
import Derived.Test.YtehhjlkmbdhckaaGreatKD11
import Derived.Test.YtehhjlkmbdhckaaGreatKD12
set_option linter.unusedSectionVars false
set_option linter.unusedSimpArgs false
set_option linter.unusedVariables false
namespace Go.Proofs.YtehhjlkmbdhckaaGreat
open Go.JE
theorem E20 : Ent Tryz.prog 20 := ⟨_,Tryz.func20,by kernel_rfl,by kernel_rfl⟩
theorem E41 : Ent Tryz.prog 41 := ⟨_,Tryz.func41,by kernel_rfl,by kernel_rfl⟩
set_option maxRecDepth 4000
theorem dst_yes {x : D.MBlock} {r : Int} {k : Nat} (hk : k < x.Phis.length) (h : (ix x.Phis k).Dst = r) : hasL (dsts x) r = true := decide_eq_true (List.mem_map.2 ⟨_,ix_mem hk,h⟩)
theorem dst_no {x : D.MBlock} {r : Int} (h : ∀ j,j < x.Phis.length → ¬ (ix x.Phis j).Dst = r) : hasL (dsts x) r = false := decide_eq_false fun h9 => by
 obtain ⟨p,hp,e⟩ := List.mem_map.1 h9
 exact mem_ix (P := fun p => ¬ p.Dst = r) h p hp e
theorem made_ct {a0 : Value} {m : D.MFunc} (b : Int) (p : Int) (r : Int) (hb : 0 ≤ b ∧ b < m.Blocks.length) (hp : 0 ≤ p ∧ p ≤ (ix m.Blocks (Int.toNat b)).Ins.length) (hp9 : p ≤ 1000000) : Tv Tryz.prog 72 #[vMFunc m a0,.int .i64 b,.int .i64 p,.int .i64 r] [da rMFunc (vMFunc m a0) m] [] (.bool (madeM m b p r)) := by
 refine jenter (args := [vMFunc m a0,.int .i64 b,.int .i64 p,.int .i64 r]) Tryz.func72 rfl rfl rfl fun w0 X => ?_
 refine jq (jr (jbox Z Z fun g4 => ja Z (jn (jx (jq (jq (jr (jm Z (js (jgtr Z Z) (jn ?_))))))))))
 refine jx ?_
 refine jif Z (fun hc1 => ?_) (fun hc1 => ?_)
 refine jq (jr (js (jf F28_1 Z) (js (jl k0 O26 Z Z) (jm Z (jdq (rMFunc.cB d0) fun q1 w1 => js (jix (i := (Int.toNat b)) U26 Z37 (rMFunc.cB d0) Z Z (by omega) (by omega)) (js (jf F37_1 Z) (jev (jlV (rMBlock.A_Ins (dix (rMFunc.cB d0) (Int.toNat b) (by omega))) O33 Z Z) fun v18 q2 w2 => jm Z (js (jsub Z Z (by omega)) (js (jix (i := (Int.toNat (p - 1))) U33 Z69 d0 Z Z (by omega) (by omega)) ?_)))))))))
 refine jA sMach (jlA (dix d0 (Int.toNat (p - 1)) (by omega)) A69 Z69 Z) fun c22 => jcd E45 Z Z rMakes_ct (dc d0 dn) kn fun v23 q5 w5 => jm Z (jcv E70 Z Z (rHas_ct r) (dc d0 dn) kn (ja Z (jn (jx (jrt (jtr ?_))))))
 exact jrB Z Z (by first | (rw [madeM,if_pos (by omega)]; done) | (rw [madeM,if_neg (by omega),dst_yes (by omega) hc3,Bool.true_or]; done) | (rw [madeM,if_neg (by omega),dst_no (fun j hj => hno j (by omega)),Bool.false_or]; done))
 refine jsk (jx (jq (jr (js (jf F28_1 Z) (js (jl k0 O26 Z Z) (jm Z (jdq (rMFunc.cB d0) fun q7 w7 => js (jix (i := (Int.toNat b)) U26 Z37 (rMFunc.cB d0) Z Z (by omega) (by omega)) (js (jf F37_0 Z) (jev (jlV (rMBlock.A_Phis (dix (rMFunc.cB d0) (Int.toNat b) (by omega))) O32 Z Z) fun v31 q8 w8 => ja Z ?_)))))))))
 refine jn (jx (jq (jq (jr (ja Z (jn (jx (jb ?_))))))))
 refine jlp (fun (k : Nat) => ⟨k ≤ (ix m.Blocks (Int.toNat b)).Phis.length ∧ ∀ j,j < k → ¬ (ix (ix m.Blocks (Int.toNat b)).Phis j).Dst = r,[dv (rL rPhi) v31 ((ix m.Blocks (Int.toNat b)).Phis),da rMFunc (vMFunc m a0) m],[bx g4 28 [.int .i64 m.Params,a0]],[(1,.int .i64 b),(3,.int .i64 r),(4,.pointer (some ⟨g4,0,none⟩)),(9,v31),(10,.int .i64 (↑k))],(ix m.Blocks (Int.toNat b)).Phis.length - k⟩) 0 ⟨by omega,fun j hj => by omega⟩ (dc d0 (dc d1 dn)) (kc k0 kn) ⟨Z,Z,Z,Z,eqI (by omega),trivial⟩ ?_
 rintro k; dsimp only; rintro ⟨hk,hno⟩
 refine jq (jq (jr (jm Z (jm Z (js (jln U32 d0 Z) (js (jlss Z Z) (jn (jx ?_))))))))
 refine jif Z (fun hc2 => ?_) (fun hc2 => ?_)
 refine jsk (jx (jq (jb (jq (jr (jm Z (jm Z (js (jix U32 Z62 d0 Z Z Z (by omega)) (js (jf F62_0 Z) (js (jlI (rPhi.A_Dst (dix d0 k (by omega))) O3 Z) (jm Z ?_)))))))))))
 refine js (jeql Z Z) (jn (jx ?_))
 refine jif Z (fun hc3 => ?_) (fun hc3 => ?_)
 refine jq (jr (ja Z (jn (jx (jrt (jbr (jtr (jtr (jbr (jtr ?_))))))))))
 exact jrB Z Z (by first | (rw [madeM,if_pos (by omega)]; done) | (rw [madeM,if_neg (by omega),dst_yes (by omega) hc3,Bool.true_or]; done) | (rw [madeM,if_neg (by omega),dst_no (fun j hj => hno j (by omega)),Bool.false_or]; done))
 refine jsk (jbn (jx (jr (jm Z (js (jadd Z Z (by omega)) (ja Z (jn ?_)))))))
 exact jag (k + 1) ⟨by omega,fun j hj => by rcases Nat.lt_or_ge j k with h7 | h7; (exact hno j h7); (rw [show j = k by omega]; exact hc3)⟩ (dc d0 (dc d1 dn)) (kc k0 kn) ⟨Z,Z,Z,Z,eqI (by omega),trivial⟩
 refine jex (jtx (jtx (jbh (jx (jq (jr (jm Z (js (jeql Z Z) (jm Z (jg Z Z (.t _) (fun hg => jmv Z) (jg Z Z (.t _) (fun hg => jgeq (evg Z hg) Z) ?_)))))))))))
 refine js (jand Z Z) (jm Z (jg Z Z (.t _) (fun hg => jmv Z) (jg Z Z (.t _) (fun hg => jf F28_0 Z) (jg Z Z (.t _) (fun hg => jl k0 O3 (evg Z hg) Z) (jg Z Z (.t _) (fun hg => jlss (evg Z hg) (evg Z hg)) (js (jand Z Z) (ja Z (jn (jx (jrt ?_))))))))))
 exact jrB Z Z (by first | (rw [madeM,if_pos (by omega)]; done) | (rw [madeM,if_neg (by omega),dst_yes (by omega) hc3,Bool.true_or]; done) | (rw [madeM,if_neg (by omega),dst_no (fun j hj => hno j (by omega)),Bool.false_or]; done))
end Go.Proofs.YtehhjlkmbdhckaaGreat
namespace Go.Proofs.YtehhjlkmbdhckaaGreat
open Go.JE
theorem E49 : Ent Tryz.prog 49 := ⟨_,Tryz.func49,by kernel_rfl,by kernel_rfl⟩
theorem E72 : Ent Tryz.prog 72 := ⟨_,Tryz.func72,by kernel_rfl,by kernel_rfl⟩
set_option maxRecDepth 4000
theorem rHas2_ct {a0 : Value} {m : D.MFunc} (r : Int) : Td Tryz.prog 49 #[vMFunc m a0,.int .i64 r] [da rMFunc (vMFunc m a0) m] [] (rL rB) (hasesM m r) := by
 refine jenter (args := [vMFunc m a0,.int .i64 r]) Tryz.func49 rfl rfl rfl fun w0 X => ?_
 refine jq (jr (jbox Z Z fun g2 => ja Z (jn (jx (jq (jr (jlit (r := rB) (l := []) U93 I4 (by decide) Z Z Z ln fun g10 => ja Z (jn (jx ?_)))))))))
 refine jq (jq (jr (js (jla k1 A28 Z28 Z Z Z) (jcv E51 Z Z rRight_ct (dc d0 dn) kn (js (jnot Z) (jn (jx ?_)))))))
 refine jif Z (fun hc1 => ?_) (fun hc1 => ?_)
 refine jq (jr (jm Z (ja Z (jn (jx (jrt (jtr (qfz k0 (by first | (simp; done) | (have := preP_all hq hn0.2; rw [hl,List.length_map,show b = m.Blocks.length by omega]; omega)) ?_))))))))
 exact jrD Z Z (by first | (rw [hasesM,if_neg (by simpa using hc1)]; done) | (rw [hasesM,if_pos hrt,hl,show b = m.Blocks.length by omega]; done)) d0
 have hrt : rightM m = true := by simpa using hc1
 have hq := right_ins hrt
 have hn0 := (right_wf hrt).n0
 have hol := outs_len (m := m) (r := r)
 refine jsk (jx (jq (jr (js (jla k1 A28 Z28 Z Z Z) (jm Z (jcd E41 Z Z (outs_ct r (by simpa using hc1)) (dc d0 dn) kn fun v17 q2 w2 => ja Z (jn (jx (jq (jq ?_))))))))))
 refine jr (ja Z (jn (jx (jb ?_))))
 refine jlp (u3 fun (b : Nat) (l : List Bool) (v : Value) => ⟨b ≤ m.Blocks.length ∧ l = (preP m b 0).map (fun x : Nat × Nat => decide (r ∈ hasE m x.1 x.2)),[dv (rL rB) v17 (outsM m r),da rMFunc (vMFunc m a0) m],[gl X.n rB 4 v l,bx g2 28 [.int .i64 m.Params,a0]],[(1,.int .i64 r),(2,.pointer (some ⟨g2,0,none⟩)),(4,.slice none 0 0),(5,v),(6,v17),(7,.int .i64 (↑b))],m.Blocks.length - b⟩) (0,[],(.slice (some ⟨g10,0,none⟩) 0 0)) ⟨by dsimp only; omega,rfl⟩ (dc d0 (dc d1 dn)) (kd kn) ⟨Z,Z,Z,Z,Z,eqI (by omega),trivial⟩ ?_
 rintro ⟨b,l,v⟩; dsimp only [u3]; rintro ⟨hb,hl⟩
 refine cgo k0 fun w4 => jq (jq (jr (jm Z (js (jf F28_1 Z) (js (jl k1 O26 Z Z) (jdq (rMFunc.cB d1) fun q5 w5 => js (jln U26 (rMFunc.cB d1) Z) (js (jlss Z Z) (jn (jx ?_)))))))))
 refine jif Z (fun hc2 => ?_) (fun hc2 => ?_)
 refine jsk (jx (jq (jb (jq (jr (ja Z (jn (jx (jb ?_)))))))))
 have hbb : b < m.Blocks.length := by omega
 have hqb := hq b hbb
 refine jlp (u3 fun (p : Nat) (l2 : List Bool) (v2 : Value) => ⟨p ≤ (ix m.Blocks b).Ins.length + 1 ∧ l2 = (preP m b p).map (fun x : Nat × Nat => decide (r ∈ hasE m x.1 x.2)),[dv (rL rB) v17 (outsM m r),da rMFunc (vMFunc m a0) m],[gl X.n rB 4 v2 l2,bx g2 28 [.int .i64 m.Params,a0]],[(1,.int .i64 r),(2,.pointer (some ⟨g2,0,none⟩)),(4,.slice none 0 0),(5,v2),(6,v17),(7,.int .i64 (↑b)),(8,.int .i64 (↑p))],(ix m.Blocks b).Ins.length + 1 - p⟩) (0,l,v) ⟨by dsimp only; omega,hl⟩ (dc d0 (dc d1 dn)) (kd kn) ⟨Z,Z,Z,Z,Z,Z,eqI (by omega),trivial⟩ ?_
 rintro ⟨p,l2,v2⟩; dsimp only [u3]; rintro ⟨hp,hl2⟩
 refine cgo k0 fun w6 => ?_
 have hll : l2.length ≤ 1000000000 := by rw [hl2,List.length_map]; exact preP_bd2 hq hbb (by omega) (by omega)
 refine jq (jq (jr (jm Z (js (jf F28_1 Z) (js (jl k1 O26 Z Z) (jm Z (js (jix U26 Z37 (rMFunc.cB d1) Z Z Z (by omega)) (js (jf F37_1 Z) (jev (jlV (rMBlock.A_Ins (dix (rMFunc.cB d1) b (by omega))) O33 Z Z) fun v31 q7 w7 => js (jln U33 d0 Z) (js (jleq Z Z) ?_))))))))))
 refine jn (jx ?_)
 refine jif Z (fun hc3 => ?_) (fun hc3 => ?_)
 have hpp : p ≤ (ix m.Blocks b).Ins.length := by omega
 refine jsk (jx (jq (jb (jq (jany false (.a 0 (.a 1 (.a 2 (.a 3 (.a 4 (.a 5 (.a 6 (.a 7 (.a 8 (.a 9 (.a 10 (.o 11 (.a 12 (.a 13 (.a 14 (.a 15 (.a 16 (.o 17 (.a 18 (.a 19 .e)))))))))))))))))))) Mixed (by kernel_rfl) (kc k1 kn) fun F9 => jy Z (jf F28_1 Z) (jy Z (jl k0 O26 Z Z) (jy Z (jmv Z) (jy Z (jix U26 Z37 (rMFunc.cB d2) Z Z Z (by omega)) (jyA sMBlock Z (xlA (dix (rMFunc.cB d2) b (by omega)) A37 Z37 Z) fun c40 => jy Z (jmv Z) ?_)))))))))
 refine jy Z (jmv Z) (jy Z (jmv Z) (jy Z (jmv Z) (jy Z (jix U93 Z4 d2 Z Z Z (by omega)) (jy Z (jlB (dix d2 b (by omega)) O4 Z) (jyo Z (jcv E42 Z Z (back_ct ↑p r (ix (outsM m r) b) ⟨by omega,by omega⟩) (dc d1 dn) kn (jyn d0 (kc k1 kn) (jy Z (jmv Z) (jyg Z Z Z (.f _) (fun hg => jla k0 A28 Z28 Z Z Z) (jyg Z Z Z (.f _) (fun hg => jmv Z) (jyg Z Z Z (.f _) (fun hg => jmv Z) ?_)))))))))))
 refine jyg Z Z Z (.f _) (fun hg => jmv Z) (jyo Z (jgc Z Z (.f _) E72 Z (fun hg => evl4 (evg Z hg) (evg Z hg) (evg Z hg) (evg Z hg)) (fun hg => (made_ct ↑b ↑p r ⟨by omega,by omega⟩ ⟨by omega,by rw [Int.toNat_natCast]; omega⟩ (by omega))) (fun hg => (dc d5 dn)) kn p0 (jyn d0 (kc k1 kn) (jy Z (jor Z Z) (jy Z (jas Z) (jyd (jx (jr (jm Z (jm Z (japv U93 I4 (by decide) Z Z k0 Z wB (by omega) (fun _ => Z) fun v58 _ w13 => ?_)))))))))))
 refine ja Z (jn (jbn (jx (jr (jm Z (js (jadd Z Z (by omega)) (ja Z (jn ?_))))))))
 exact jag (p + 1,l2 ++ [(backM (ix m.Blocks b) ((p : Nat) : Int) r (ix (outsM m r) b)) || (madeM m ((b : Nat) : Int) ((p : Nat) : Int) r)],v58) ⟨by dsimp only; omega,by dsimp only; rw [preP_next,List.map_append,← hl2]; congr 1; show _ = [decide (r ∈ hasE m b p)]; rw [← has_f,← outs_ix hbb]; rfl⟩ (dc d4 (dc d5 dn)) (kd kn) ⟨Z,Z,Z,Z,Z,Z,eqI (by omega),trivial⟩
 refine jex (jtx (jtx (jbh (jbn (jx (jr (jm Z (js (jadd Z Z (by omega)) (ja Z (jn ?_))))))))))
 exact jag (b + 1,l2,v2) ⟨by dsimp only; omega,by dsimp only; rw [preP_blk,hl2,show p = (ix m.Blocks b).Ins.length + 1 by omega]⟩ (dc d1 (dc d2 dn)) (kd kn) ⟨Z,Z,Z,Z,Z,eqI (by omega),trivial⟩
 refine jex (jtx (jtx (jbh (jx (jq (jr (jm Z (ja Z (jn (jx (jrt ?_)))))))))))
 refine qfz k0 (by first | (simp; done) | (have := preP_all hq hn0.2; rw [hl,List.length_map,show b = m.Blocks.length by omega]; omega)) ?_
 exact jrD Z Z (by first | (rw [hasesM,if_neg (by simpa using hc1)]; done) | (rw [hasesM,if_pos hrt,hl,show b = m.Blocks.length by omega]; done)) d0
theorem rTogether_ct {a0 : Value} {m : D.MFunc} (a : Int) (b : Int) : Tv Tryz.prog 23 #[vMFunc m a0,.int .i64 a,.int .i64 b] [da rMFunc (vMFunc m a0) m] [] (.bool (togM m a b)) := by
 refine jenter (args := [vMFunc m a0,.int .i64 a,.int .i64 b]) Tryz.func23 rfl rfl rfl fun w0 X => ?_
 refine jq (jr (jbox Z Z fun g3 => ja Z (jn (jx (jq (jr (js (jla k0 A28 Z28 Z Z Z) (jm Z (jcd E49 Z Z (rHas2_ct a) (dc d0 dn) kn fun v12 q1 w1 => ja Z ?_)))))))))
 refine jn (jx (jq (jr (js (jla k0 A28 Z28 Z Z Z) (jm Z (jcd E49 Z Z (rHas2_ct b) (dc d1 dn) kn fun v15 q3 w3 => ja Z (jn (jx (jq (jq ?_))))))))))
 refine jr (ja Z (jn (jx (jb ?_))))
 refine jlp (fun (k : Nat) => ⟨k ≤ (hasesM m a).length ∧ ∀ j,j < k → ¬ (ix (hasesM m a) j = true ∧ ix (hasesM m b) j = true),[dv (rL rB) v15 (hasesM m b),dv (rL rB) v12 (hasesM m a)],[],[(7,v12),(8,v15),(9,.int .i64 (↑k))],(hasesM m a).length - k⟩) 0 ⟨by omega,fun j hj => by omega⟩ (dc d0 (dc d1 dn)) kn ⟨Z,Z,eqI (by omega),trivial⟩ ?_
 rintro k; dsimp only; rintro ⟨hk,hno⟩
 have hll := hases_len (m := m) (r := a) (r' := b)
 refine jq (jq (jr (jm Z (jm Z (js (jln U93 d1 Z) (js (jlss Z Z) (jn (jx ?_))))))))
 refine jif Z (fun hc1 => ?_) (fun hc1 => ?_)
 refine jsk (jx (jq (jb (jq (jr (jm Z (jm Z (js (jix U93 Z4 d1 Z Z Z (by omega)) (js (jlB (dix d1 k (by omega)) O4 Z) (jm Z (jg Z Z (.t _) (fun hg => jmv Z) ?_)))))))))))
 refine jg Z Z (.t _) (fun hg => jmv Z) (jg Z Z (.t _) (fun hg => jix U93 Z4 d0 (evg Z hg) (evg Z hg) Z (by first | omega | (simp at hg; omega) | (simp only [List.length_set]; omega))) (jg Z Z (.t _) (fun hg => jlB (dix d0 k (by first | omega | (simp at hg; omega) | (simp only [List.length_set]; omega))) O4 (evg Z hg)) (js (jand Z Z) (jn (jx ?_)))))
 refine jif Z (fun hc2 => ?_) (fun hc2 => ?_)
 refine jq (jr (ja Z (jn (jx (jrt (jbr (jtr (jtr (jbr (jtr ?_))))))))))
 exact jrB Z Z (by first | (exact tog_yes (k := k) (by omega) (by simpa using hc2)) | (exact tog_no (fun j hj => hno j (by omega))))
 refine jsk (jbn (jx (jr (jm Z (js (jadd Z Z (by omega)) (ja Z (jn ?_)))))))
 exact jag (k + 1) ⟨by omega,fun j hj => by rcases Nat.lt_or_ge j k with h7 | h7; (exact hno j h7); (rw [show j = k by omega]; exact fun h9 => by simp [h9.1,h9.2] at hc2)⟩ (dc d0 (dc d1 dn)) kn ⟨Z,Z,eqI (by omega),trivial⟩
 refine jex (jtx (jtx (jbh (jx (jq (jr (ja Z (jn (jx (jrt ?_))))))))))
 exact jrB Z Z (by first | (exact tog_yes (k := k) (by omega) (by simpa using hc2)) | (exact tog_no (fun j hj => hno j (by omega))))
end Go.Proofs.YtehhjlkmbdhckaaGreat
namespace Go.Proofs.YtehhjlkmbdhckaaGreat
open Go.JE
set_option maxRecDepth 4000
theorem GR.one {m : D.MFunc} {b i c : Nat} {f : Nat → Int → Bool} {rs : List (List Int)} (h : GR m b i f rs) (hc : c < m.Blocks.length) : (rs.getD c []).length ≤ 8192 := by
 have h3 := h.s c hc
 have h1 := List.length_filter_le (f c) ((regsM m).take (if c < b then i + 1 else i))
 have h2 := regs_len (m := m)
 rw [List.length_take] at h1
 have h4 : (ix rs c).length ≤ 8192 := by rw [h3]; omega
 exact h4
end Go.Proofs.YtehhjlkmbdhckaaGreat
namespace Go.Proofs.YtehhjlkmbdhckaaGreat
open Go.JE
def shL : D.MFunc := ⟨2,[⟨[],[⟨5,2,0,0,1,0,0,[]⟩,⟨5,3,0,2,0,0,0,[]⟩],⟨7,3,0,[],0⟩⟩]⟩
theorem shL_right : rightM shL = true := by decide
theorem shL_lo : loE shL.Blocks = [[]] := by
 have hw := right_wl shL_right
 have h1 : (loE shL.Blocks).length = 1 := loE_len hw
 have h2 : ix (loE shL.Blocks) 0 = [] := by
   apply List.eq_nil_iff_forall_not_mem.2
   intro r hr
   have h3 := (loE_mem hw (b := 0) (by decide)).1 hr
   cases h3 with
   | phi h _ => cases h
   | gen h _ _ => cases h
   | thru h _ _ _ => cases h
 match hl : loE shL.Blocks,h1,h2 with
 | [x],_,h2 =>
   have h4 : x = [] := h2
   rw [h4]
theorem shL_at : atM shL 0 1 = [0,2] := by
 unfold atM atE; rw [shL_lo]; decide
theorem shL_row : rowQ (atM shL 0 1) [0,2] = true := by rw [shL_at]; decide
theorem shL_tog1 : togM shL 0 2 = true := by
 unfold togM stM togS hasE atE; rw [shL_lo]; decide
theorem shL_tog2 : togM shL 0 3 = false := by
 unfold togM stM togS hasE atE; rw [shL_lo]; decide
theorem shL_most : mostM shL = 2 := by
 unfold mostM stM mostS hasE atE; rw [shL_lo]; decide
def rangesQ (a b : List D.Range) : Bool := decide (a = b)
theorem shL_rng : rangesQ (rangesM shL 0) [⟨0,2⟩] = true := by
 unfold rangesM stM rngS hasE atE; rw [shL_lo]; decide
theorem rng_ix {a b : List D.Range} (hl : a.length = b.length) (h : ∀ j,j < a.length → ix a j = ix b j) : a = b := List.ext_getElem hl fun j h1 h2 => by
 have := h j h1; rw [ix_eq h1,ix_eq h2] at this; exact this
theorem rng_ext {x y : D.Range} (h : x.From = y.From ∧ x.To = y.To) : x = y := by
 cases x; cases y; obtain ⟨h1,h2⟩ := h; dsimp only at h1 h2; subst h1; subst h2; rfl
def made10 (s : List Int) : D.MFunc := made7 (s.take 200)
theorem A47 : ∃ d,Tryz.prog.underlying 47 = some d ∧ (match d with | .struct _ | .array _ _ => true | _ => false) = true := ⟨_,Tryz.underlying47,rfl⟩
theorem E18 : Ent Tryz.prog 18 := ⟨_,Tryz.func18,by kernel_rfl,by kernel_rfl⟩
theorem E21 : Ent Tryz.prog 21 := ⟨_,Tryz.func21,by kernel_rfl,by kernel_rfl⟩
theorem E22 : Ent Tryz.prog 22 := ⟨_,Tryz.func22,by kernel_rfl,by kernel_rfl⟩
theorem E24 : Ent Tryz.prog 24 := ⟨_,Tryz.func24,by kernel_rfl,by kernel_rfl⟩
theorem E36 : Ent Tryz.prog 36 := ⟨_,Tryz.func36,by kernel_rfl,by kernel_rfl⟩
theorem E37 : Ent Tryz.prog 37 := ⟨_,Tryz.func37,by kernel_rfl,by kernel_rfl⟩
theorem S2_47 : St2 Tryz.prog 47 .i64 := ⟨⟨_,_,Tryz.underlying47,by decide,by decide,rfl,rfl,Tryz.underlying3,Tryz.underlying3⟩,by kernel_rfl,by kernel_rfl⟩
set_option maxRecDepth 8000
theorem lawRanges_ct {a0 : Value} {a : List D.Range} {a1 : Value} {b : List D.Range} : Tv Tryz.prog 36 #[a0,a1] [dv (rL rRange) a0 a,dv (rL rRange) a1 b] [] (.bool (rangesQ a b)) := by
 refine jenter (args := [a0,a1]) Tryz.func36 rfl rfl rfl fun w0 X => ?_
 refine jq (jr (ja Z (jn (jx (jq (jq (jr (jm Z (jdq d0 fun q1 w1 => js (jln U44 d0 Z) (jm Z ?_))))))))))
 refine jdq d1 fun q2 w2 => js (jln U44 d1 Z) (js (jneq Z Z) (jn (jx ?_)))
 refine jif Z (fun hc1 => ?_) (fun hc1 => ?_)
 refine jq (jr (ja Z (jn (jx (jrt (jtr ?_))))))
 exact jrB Z Z (by first | (exact decide_eq_true (rng_ix (by omega) (fun j hj => hall j (by omega)))) | (exact decide_eq_false (fun h9 => by subst h9; simp at hc3)) | (exact decide_eq_false (fun h9 => by subst h9; exact hc1 rfl)))
 refine jsk (jx (jq (jq (jr (ja Z (jn (jx (jb ?_))))))))
 refine jlp (fun (k : Nat) => ⟨k ≤ a.length ∧ ∀ j,j < k → ix a j = ix b j,[dv (rL rRange) a0 a,dv (rL rRange) a1 b],[],[(0,a0),(1,a1),(5,.int .i64 (↑k))],a.length - k⟩) 0 ⟨by omega,fun j hj => by omega⟩ (dc d0 (dc d1 dn)) kn ⟨Z,Z,eqI (by omega),trivial⟩ ?_
 rintro k; dsimp only; rintro ⟨hk,hall⟩
 refine jq (jq (jr (jm Z (jm Z (js (jln U44 d0 Z) (js (jlss Z Z) (jn (jx ?_))))))))
 refine jif Z (fun hc2 => ?_) (fun hc2 => ?_)
 refine jsk (jx (jq (jb (jq (jstl Mixed (by kernel_rfl) (jt (jmv Z) (jt (jmv Z) (jt (jix U44 Z47 d0 Z Z Z (by omega)) (jtA sRange (jlA (dix d0 k (by omega)) A47 Z47 Z) fun _ => jt (jmv Z) (jt (jmv Z) ?_))))))))))
 refine jt (jix U44 Z47 d2 Z Z Z (by omega)) (jtA sRange (jlA (dix d2 k (by omega)) A47 Z47 Z) fun _ => jt (jneqSt S2_47 Z Z) (jdn (jx ?_)))
 refine jif Z (fun hc3 => ?_) (fun hc3 => ?_)
 refine jq (jr (ja Z (jn (jx (jrt (jbr (jtr (jtr (jbr (jtr ?_))))))))))
 exact jrB Z Z (by first | (exact decide_eq_true (rng_ix (by omega) (fun j hj => hall j (by omega)))) | (exact decide_eq_false (fun h9 => by subst h9; simp at hc3)) | (exact decide_eq_false (fun h9 => by subst h9; exact hc1 rfl)))
 refine jsk (jbn (jx (jr (jm Z (js (jadd Z Z (by omega)) (ja Z (jn ?_)))))))
 exact jag (k + 1) ⟨by omega,fun j hj => by rcases Nat.lt_or_ge j k with h7 | h7; (exact hall j h7); (rw [show j = k by omega]; exact rng_ext (by simpa using hc3))⟩ (dc d2 (dc d3 dn)) kn ⟨Z,Z,eqI (by omega),trivial⟩
 refine jex (jtx (jtx (jbh (jx (jq (jr (ja Z (jn (jx (jrt ?_))))))))))
 exact jrB Z Z (by first | (exact decide_eq_true (rng_ix (by omega) (fun j hj => hall j (by omega)))) | (exact decide_eq_false (fun h9 => by subst h9; simp at hc3)) | (exact decide_eq_false (fun h9 => by subst h9; exact hc1 rfl)))
theorem shown_ct  : Tv Tryz.prog 11 #[] [] [] (.bool true) := by
 refine jenter (args := []) Tryz.func11 rfl rfl rfl fun w0 X => ?_
 refine jq (jr (ja Z (jn (jx (jq (jr (js (jbu (v := .agg #[.int .i64 5,.int .i64 2,.int .i64 0,.int .i64 0,.int .i64 1,.int .i64 0,.int .i32 0,.slice none 0 0]) Z (fun _ => by kernel_rfl)) (js (jbu (v := .agg #[.int .i64 5,.int .i64 3,.int .i64 0,.int .i64 2,.int .i64 0,.int .i64 0,.int .i32 0,.slice none 0 0]) Z (fun _ => by kernel_rfl)) (jlit (r := rMach) (l := [⟨5,2,0,0,1,0,0,[]⟩,⟨5,3,0,2,0,0,0,[]⟩]) U33 I69 (by decide) Z Z Z (lA (rMach.M (m := ⟨5,2,0,0,1,0,0,[]⟩) (c := (.slice none 0 0)) wN (wl 5) (wl 2) (wl 0) (wl 0) (wl 1) (wl 0) (wl 0)) (lA (rMach.M (m := ⟨5,3,0,2,0,0,0,[]⟩) (c := (.slice none 0 0)) wN (wl 5) (wl 3) (wl 0) (wl 2) (wl 0) (wl 0) (wl 0)) ln)) fun g4 => js (jbu (v := .agg #[.int .i64 7,.int .i64 3,.int .i64 0,.slice none 0 0,.int .i32 0]) Z (fun _ => by kernel_rfl)) (js (jbu (v := .agg #[.slice none 0 0,(.slice (some ⟨g4,0,none⟩) 2 2),.int .i64 7,.int .i64 3,.int .i64 0,.slice none 0 0,.int .i32 0]) Z (fun _ => by kernel_rfl)) ?_))))))))))
 refine jfz k0 (by (try simp) <;> omega) (jlit (r := rMBlock) (l := [⟨[],[⟨5,2,0,0,1,0,0,[]⟩,⟨5,3,0,2,0,0,0,[]⟩],⟨7,3,0,[],0⟩⟩]) U26 I37 (by decide) Z Z Z (lA (rMBlock.M (m := ⟨[],[⟨5,2,0,0,1,0,0,[]⟩,⟨5,3,0,2,0,0,0,[]⟩],⟨7,3,0,[],0⟩⟩) (c := (.slice none 0 0,(.slice (some ⟨g4,0,none⟩) 2 2),.slice none 0 0)) wN d0 wN (wl 7) (wl 3) (wl 0) (wl 0)) ln) fun g7 => js (jbu (v := .agg #[.int .i64 2,(.slice (some ⟨g7,0,none⟩) 1 1)]) Z (fun _ => by kernel_rfl)) (jalc J28 Z fun g1 => jsta k0 Z28 Z Z Z ⟨Z,Z,trivial⟩ (saf Z) (jn (jx (jq (jr (js (jla k0 A28 Z28 Z Z Z) (jfz k1 (by (try simp) <;> omega) (jcd E18 Z Z (at_ct (m := ⟨2,[⟨[],[⟨5,2,0,0,1,0,0,[]⟩,⟨5,3,0,2,0,0,0,[]⟩],⟨7,3,0,[],0⟩⟩]⟩) 0 1) (dc (rMFunc.M (m := ⟨2,[⟨[],[⟨5,2,0,0,1,0,0,[]⟩,⟨5,3,0,2,0,0,0,[]⟩],⟨7,3,0,[],0⟩⟩]⟩) (c := (.slice (some ⟨g7,0,none⟩) 1 1)) d0 (wl 2)) dn) kn fun v10 q3 w3 => ?_)))))))))
 refine jlit (r := (rI .i64)) (l := [0,2]) U22 I3 (by decide) Z Z Z (lV Z Z (wI (wl 0)) (lV Z Z (wI (wl 2)) ln)) fun g11 => jc E17 Z Z (Tv.temp1 1073741824 row_ct (by (try simp) <;> omega)) (dc d0 dn) (kc k0 kn) (fun _ => p0) (fun _ => p1) fun _ => ?_
 rw [show rowQ (atM (⟨2,[⟨[],[⟨5,2,0,0,1,0,0,[]⟩,⟨5,3,0,2,0,0,0,[]⟩],⟨7,3,0,[],0⟩⟩]⟩) 0 1) ([0,2]) = true from shL_row]
 refine jm Z (jk Z Z (.t _) (jla k1 A28 Z28 Z Z Z) (jgk Z Z (.t _) (jcd E21 Z Z (ranges_ct (m := ⟨2,[⟨[],[⟨5,2,0,0,1,0,0,[]⟩,⟨5,3,0,2,0,0,0,[]⟩],⟨7,3,0,[],0⟩⟩]⟩) 0) (dc (rMFunc.M (m := ⟨2,[⟨[],[⟨5,2,0,0,1,0,0,[]⟩,⟨5,3,0,2,0,0,0,[]⟩],⟨7,3,0,[],0⟩⟩]⟩) (c := (.slice (some ⟨g7,0,none⟩) 1 1)) d1 (wl 2)) dn) kn fun v15 q5 w5 => jk Z Z (.t _) (jbu (v := .agg #[.int .i64 0,.int .i64 2]) Z (fun _ => by kernel_rfl)) (jgk Z Z (.t _) (jlit (r := rRange) (l := [⟨0,2⟩]) U44 I47 (by decide) Z Z Z (lA (rRange.M (m := ⟨0,2⟩) (c := ()) (wl 0) (wl 2)) ln) fun g17 => jgk Z Z (.t _) (jc E36 Z Z (Tv.temp1 1073741824 lawRanges_ct (by (try simp) <;> omega)) (dc d0 dn) (kc k0 kn) (fun _ => p0) (fun _ => p1) fun _ => ?_))))))
 rw [show rangesQ (rangesM (⟨2,[⟨[],[⟨5,2,0,0,1,0,0,[]⟩,⟨5,3,0,2,0,0,0,[]⟩],⟨7,3,0,[],0⟩⟩]⟩) 0) ([⟨0,2⟩]) = true from shL_rng]
 refine js (jand Z Z) (jm Z (jk Z Z (.t _) (jla k2 A28 Z28 Z Z Z) (jgk Z Z (.t _) (jcv E22 Z Z (together_ct (m := ⟨2,[⟨[],[⟨5,2,0,0,1,0,0,[]⟩,⟨5,3,0,2,0,0,0,[]⟩],⟨7,3,0,[],0⟩⟩]⟩) 0 2) (dc (rMFunc.M (m := ⟨2,[⟨[],[⟨5,2,0,0,1,0,0,[]⟩,⟨5,3,0,2,0,0,0,[]⟩],⟨7,3,0,[],0⟩⟩]⟩) (c := (.slice (some ⟨g7,0,none⟩) 1 1)) d2 (wl 2)) dn) kn ?_))))
 rw [show togM (⟨2,[⟨[],[⟨5,2,0,0,1,0,0,[]⟩,⟨5,3,0,2,0,0,0,[]⟩],⟨7,3,0,[],0⟩⟩]⟩) 0 2 = true from shL_tog1]
 refine js (jand Z Z) (jm Z (jk Z Z (.t _) (jla k2 A28 Z28 Z Z Z) (jgk Z Z (.t _) (jcv E22 Z Z (together_ct (m := ⟨2,[⟨[],[⟨5,2,0,0,1,0,0,[]⟩,⟨5,3,0,2,0,0,0,[]⟩],⟨7,3,0,[],0⟩⟩]⟩) 0 3) (dc (rMFunc.M (m := ⟨2,[⟨[],[⟨5,2,0,0,1,0,0,[]⟩,⟨5,3,0,2,0,0,0,[]⟩],⟨7,3,0,[],0⟩⟩]⟩) (c := (.slice (some ⟨g7,0,none⟩) 1 1)) d2 (wl 2)) dn) kn ?_))))
 rw [show togM (⟨2,[⟨[],[⟨5,2,0,0,1,0,0,[]⟩,⟨5,3,0,2,0,0,0,[]⟩],⟨7,3,0,[],0⟩⟩]⟩) 0 3 = false from shL_tog2]
 refine jk Z Z (.t _) (jnot Z) (js (jand Z Z) (jm Z (jk Z Z (.t _) (jla k2 A28 Z28 Z Z Z) (jgk Z Z (.t _) (jcv E24 Z Z (most_ct (m := ⟨2,[⟨[],[⟨5,2,0,0,1,0,0,[]⟩,⟨5,3,0,2,0,0,0,[]⟩],⟨7,3,0,[],0⟩⟩]⟩)) (dc (rMFunc.M (m := ⟨2,[⟨[],[⟨5,2,0,0,1,0,0,[]⟩,⟨5,3,0,2,0,0,0,[]⟩],⟨7,3,0,[],0⟩⟩]⟩) (c := (.slice (some ⟨g7,0,none⟩) 1 1)) d2 (wl 2)) dn) kn ?_)))))
 rw [show mostM (⟨2,[⟨[],[⟨5,2,0,0,1,0,0,[]⟩,⟨5,3,0,2,0,0,0,[]⟩],⟨7,3,0,[],0⟩⟩]⟩) = 2 from shL_most]
 refine jk Z Z (.t _) (jeql Z Z) (js (jand Z Z) (ja Z (jn (jx (jrt ?_)))))
 exact jrB Z Z (by first | rfl | decide)
theorem made10_ct {a0 : Value} {s : List Int} {N0 : Nat} : Ts Tryz.prog 12 #[a0] [dv (rLn N0 (rI .i64)) a0 s] [] rMFunc vMFunc (made10 s) := by
 refine jenter (args := [a0]) Tryz.func12 rfl rfl rfl fun w0 X => ?_
 refine jq (jr (jalc J28 Z fun g2 => jn (jx (jq (jr (jm Z (jm Z (jdq d0 fun q1 w1 => js (jln U22 d0 Z) (js (jmin Z Z) ?_)))))))))
 refine js (jshi (hi := (Int.toNat (min (↑(List.length s)) 200))) U22 Z3 d0 Z Z (by omega) (by omega)) (jdq (dhi d0 (Int.toNat (min (↑(List.length s)) 200)) (by omega) (by omega)) fun q2 w2 => jcs E37 Z Z r7made_ct (dc (dhi d0 (Int.toNat (min (↑(List.length s)) 200)) (by omega) (by omega)) dn) kn fun c8 => jdq (rMFunc.cB d0) fun q4 w4 => jsta k0 Z28 Z Z Z ⟨Z,w4.one,trivial⟩ (saf Z) (jn (jx (jrt ?_))))
 exact jrcA (val := vMFunc) (b := made7 (List.take (Int.toNat (min (↑(List.length s)) 200)) s)) (c := c8) Z Z k0 A28 Z28 Z (by rw [← take_min s 200 200 rfl]; rfl) d0
end Go.Proofs.YtehhjlkmbdhckaaGreat
namespace Go.Proofs.YtehhjlkmbdhckaaGreat
open Go.JE
def prvT (l : List D.Range) (i : Nat) : Int := if i = 0 then -1 else (ix l (i - 1)).To
structure RS (l : List D.Range) (n : Int) : Prop where
 s : ∀ i,i < l.length → prvT l i < (ix l i).From ∧ (ix l i).From < (ix l i).To ∧ (ix l i).To ≤ n
theorem RS.step {r : Int} {l : List D.Range} {n : Nat} {S : List Int} (h : RS l n) : RS (rngS r l n S) ((n : Int) + 1) := by
 unfold rngS
 split
 · split
   · rename_i h2
     refine ⟨fun i hi => ?_⟩
     rw [List.length_set] at hi
     have h3 := h.s i hi
     have e : ∀ j,j < l.length → ix (l.set (l.length - 1) { ix l (l.length - 1) with To := (n : Int) + 1 }) j = if j = l.length - 1 then { ix l (l.length - 1) with To := (n : Int) + 1 } else ix l j := fun j hj => by
       rw [ix_set (by omega)]
     have e1 : prvT (l.set (l.length - 1) { ix l (l.length - 1) with To := (n : Int) + 1 }) i = prvT l i := by
       unfold prvT
       by_cases h0 : i = 0
       · rw [if_pos h0,if_pos h0]
       · rw [if_neg h0,if_neg h0,e (i - 1) (by omega),if_neg (by omega)]
     rw [e1,e i hi]
     by_cases h0 : i = l.length - 1
     · rw [if_pos h0]; subst h0; dsimp only; have := h2.2; omega
     · rw [if_neg h0]; omega
   · rename_i h2
     refine ⟨fun i hi => ?_⟩
     simp only [List.length_append,List.length_cons,List.length_nil] at hi
     have e : ∀ j,j < l.length → ix (l ++ [⟨(n : Int),(n : Int) + 1⟩]) j = ix l j := fun j hj => by
       rw [ix_eq (by simp; omega),ix_eq hj,List.getElem_append_left]
     by_cases h0 : i < l.length
     · have h3 := h.s i h0
       have e1 : prvT (l ++ [⟨(n : Int),(n : Int) + 1⟩]) i = prvT l i := by
         unfold prvT
         by_cases h0 : i = 0
         · rw [if_pos h0,if_pos h0]
         · rw [if_neg h0,if_neg h0,e (i - 1) (by omega)]
       rw [e1,e i h0]; omega
     · have h4 : i = l.length := by omega
       have e2 : ix (l ++ [(⟨(n : Int),(n : Int) + 1⟩ : D.Range)]) i = ⟨(n : Int),(n : Int) + 1⟩ := by
         rw [ix_eq (by simp; omega)]; simp [h4]
       rw [e2]
       have e1 : prvT (l ++ [⟨(n : Int),(n : Int) + 1⟩]) i < n := by
         unfold prvT
         by_cases h5 : i = 0
         · rw [if_pos h5]; omega
         · rw [if_neg h5,e (i - 1) (by omega)]
           have h6 := h.s (i - 1) (by omega)
           have h7 : ¬ (ix l (i - 1)).To = n := fun h8 => h2 ⟨by omega,by rw [← h4]; exact h8⟩
           omega
       dsimp only; omega
 · exact ⟨fun i hi => by have := h.s i hi; omega⟩
theorem RS.fold {m : D.MFunc} {r : Int} : ∀ (q : List (Nat × Nat)) (l : List D.Range) (k : Nat),RS l k → RS ((q.zipIdx k).foldl (fun s x => rngS r s x.2 (hasE m x.1.1 x.1.2)) l) ((k : Int) + q.length)
 | [],l,k,h => by simpa using h
 | x :: q,l,k,h => by
   rw [List.zipIdx_cons,List.foldl_cons]
   have h1 := RS.fold (m := m) (r := r) q (rngS r l k (hasE m x.1 x.2)) (k + 1) h.step
   rw [List.length_cons]
   have e : ((k + 1 : Nat) : Int) + (q.length : Int) = (k : Int) + ((q.length + 1 : Nat) : Int) := by omega
   rw [← e]; exact h1
theorem ranges_rs {m : D.MFunc} (hr : rightM m = true) (r : Int) : RS (rangesM m r) (preP m m.Blocks.length 0).length := by
 unfold rangesM stM
 rw [if_pos hr]
 have := RS.fold (m := m) (r := r) (preP m m.Blocks.length 0) [] 0 ⟨fun i hi => by cases hi⟩
 simpa using this
def rgX (x : D.Range) (n : Int) : Bool := decide (x.From ≤ n) && decide (n < x.To)
def rgS (l : List D.Range) (n : Int) : Bool := l.any (fun x => rgX x n)
theorem inS_iff {l : List D.Range} {n : Int} : rgS l n = true ↔ ∃ j,j < l.length ∧ (ix l j).From ≤ n ∧ n < (ix l j).To := by
 unfold rgS rgX
 rw [List.any_eq_true]
 constructor
 · rintro ⟨x,hx,h⟩
   obtain ⟨j,hj,e⟩ := List.getElem_of_mem hx
   refine ⟨j,hj,?_⟩
   rw [ix_eq hj,e]; simpa using h
 · rintro ⟨j,hj,h⟩
   exact ⟨_,ix_mem hj,by simpa using h⟩
theorem RS.above {l : List D.Range} {k n : Int} (h : RS l k) (hn : k ≤ n) : rgS l n = false := by
 cases h9 : rgS l n with
 | false => rfl
 | true =>
   obtain ⟨j,hj,h1,h2⟩ := inS_iff.1 h9
   have := h.s j hj; omega
theorem RS.put {r : Int} {l : List D.Range} {k : Nat} {S : List Int} (h : RS l k) {n : Int} : rgS (rngS r l k S) n = if n = k then decide (r ∈ S) else rgS l n := by
 have h0 := h.above (n := k) (Int.le_refl _)
 unfold rngS
 by_cases hr : r ∈ S
 · rw [if_pos hr]
   split
   · rename_i h2
     have hl : l.length - 1 < l.length := by omega
     have hlast := h.s (l.length - 1) hl
     rw [Bool.eq_iff_iff,inS_iff]
     have e : ∀ j,j < l.length → ix (l.set (l.length - 1) { ix l (l.length - 1) with To := (k : Int) + 1 }) j = if j = l.length - 1 then { ix l (l.length - 1) with To := (k : Int) + 1 } else ix l j := fun j hj => by rw [ix_set (by omega)]
     rw [List.length_set]
     by_cases hn : n = k
     · rw [if_pos hn,decide_eq_true_eq]
       refine ⟨fun _ => hr,fun _ => ⟨l.length - 1,hl,?_⟩⟩
       rw [e _ hl,if_pos rfl]; dsimp only; omega
     · rw [if_neg hn,inS_iff]
       constructor
       · rintro ⟨j,hj,h3⟩
         rw [e j hj] at h3
         split at h3
         · rename_i h4; subst h4; dsimp only at h3; exact ⟨_,hl,by omega,by omega⟩
         · exact ⟨j,hj,h3⟩
       · rintro ⟨j,hj,h3⟩
         refine ⟨j,hj,?_⟩
         rw [e j hj]
         split
         · rename_i h4; subst h4; dsimp only; omega
         · exact h3
   · rw [Bool.eq_iff_iff]
     unfold rgS
     rw [List.any_append,Bool.or_eq_true]
     by_cases hn : n = k
     · rw [if_pos hn,decide_eq_true_eq]
       exact ⟨fun _ => hr,fun _ => .inr (by subst hn; simp [rgX]; omega)⟩
     · rw [if_neg hn]
       constructor
       · rintro (h3 | h3)
         · exact h3
         · simp [rgX] at h3; omega
       · exact .inl
 · rw [if_neg hr]
   by_cases hn : n = k
   · rw [if_pos hn,hn,h0,decide_eq_false hr]
   · rw [if_neg hn]
theorem cover_fold {m : D.MFunc} {r : Int} : ∀ (q : List (Nat × Nat)) (l : List D.Range) (k : Nat),RS l k → ∀ n : Int,rgS ((q.zipIdx k).foldl (fun s x => rngS r s x.2 (hasE m x.1.1 x.1.2)) l) n = if n < k then rgS l n else decide (∃ j,j < q.length ∧ n = k + j ∧ r ∈ hasE m (ix q j).1 (ix q j).2)
 | [],l,k,h,n => by
   rw [List.zipIdx_nil,List.foldl_nil]
   split
   · rfl
   · rw [h.above (by omega)]
     exact (decide_eq_false (by rintro ⟨j,hj,_⟩; cases hj)).symm
 | x :: q,l,k,h,n => by
   rw [List.zipIdx_cons,List.foldl_cons]
   have h1 := cover_fold (m := m) (r := r) q (rngS r l k (hasE m x.1 x.2)) (k + 1) h.step n
   rw [h1,h.put]
   by_cases hk : n < k
   · rw [if_pos (by omega),if_neg (by omega),if_pos hk]
   · rw [if_neg hk]
     by_cases hn : n = k
     · rw [if_pos (by omega),if_pos hn,decide_eq_decide]
       constructor
       · intro h3; exact ⟨0,by simp,by omega,h3⟩
       · rintro ⟨j,hj,e,h3⟩
         have : j = 0 := by omega
         subst this; exact h3
     · rw [if_neg (by omega),decide_eq_decide]
       constructor
       · rintro ⟨j,hj,e,h3⟩
         exact ⟨j + 1,by simpa using hj,by omega,by rw [show ix (x :: q) (j + 1) = ix q j from by simp [ix]]; exact h3⟩
       · rintro ⟨j,hj,e,h3⟩
         obtain ⟨i,rfl⟩ : ∃ i,j = i + 1 := ⟨j - 1,by omega⟩
         exact ⟨i,by simpa using hj,by omega,by rw [show ix (x :: q) (i + 1) = ix q i from by simp [ix]] at h3; exact h3⟩
theorem cover {m : D.MFunc} (hr : rightM m = true) (r n : Int) : rgS (rangesM m r) n = decide (∃ j,j < (preP m m.Blocks.length 0).length ∧ n = j ∧ r ∈ hasE m (ix (preP m m.Blocks.length 0) j).1 (ix (preP m m.Blocks.length 0) j).2) := by
 unfold rangesM stM
 rw [if_pos hr,cover_fold _ [] 0 ⟨fun i hi => by cases hi⟩ n]
 by_cases h : n < (0 : Nat)
 · rw [if_pos h]
   exact (decide_eq_false (by rintro ⟨j,_,e,_⟩; omega)).symm
 · rw [if_neg h,decide_eq_decide]; simp
def overX (x y : D.Range) : Bool := decide (x.From < y.To) && decide (y.From < x.To)
def overS (a b : List D.Range) : Bool := a.any (fun x => b.any (fun y => overX x y))
theorem over_iff {a b : List D.Range} {k : Int} (ha : RS a k) (hb : RS b k) : overS a b = true ↔ ∃ n,rgS a n = true ∧ rgS b n = true := by
 unfold overS overX
 rw [List.any_eq_true]
 constructor
 · rintro ⟨x,hx,h⟩
   rw [List.any_eq_true] at h
   obtain ⟨y,hy,h⟩ := h
   obtain ⟨i,hi,ex⟩ := List.getElem_of_mem hx
   obtain ⟨j,hj,ey⟩ := List.getElem_of_mem hy
   have h1 := ha.s i hi
   have h2 := hb.s j hj
   rw [ix_eq hi,ex] at h1
   rw [ix_eq hj,ey] at h2
   simp only [Bool.and_eq_true,decide_eq_true_eq] at h
   refine ⟨max x.From y.From,inS_iff.2 ⟨i,hi,?_⟩,inS_iff.2 ⟨j,hj,?_⟩⟩
   · rw [ix_eq hi,ex]; omega
   · rw [ix_eq hj,ey]; omega
 · rintro ⟨n,h1,h2⟩
   obtain ⟨i,hi,h3⟩ := inS_iff.1 h1
   obtain ⟨j,hj,h4⟩ := inS_iff.1 h2
   refine ⟨_,ix_mem hi,List.any_eq_true.2 ⟨_,ix_mem hj,?_⟩⟩
   simp only [Bool.and_eq_true,decide_eq_true_eq]; omega
theorem tog_over {m : D.MFunc} (hr : rightM m = true) (a b : Int) : togM m a b = overS (rangesM m a) (rangesM m b) := by
 rw [Bool.eq_iff_iff,over_iff (ranges_rs hr a) (ranges_rs hr b),togM_any hr,List.any_eq_true]
 constructor
 · rintro ⟨x,hx,h⟩
   obtain ⟨j,hj,e⟩ := List.getElem_of_mem hx
   simp only [Bool.and_eq_true,decide_eq_true_eq] at h
   refine ⟨j,?_,?_⟩
   · rw [cover hr,decide_eq_true_eq]; exact ⟨j,hj,rfl,by rw [ix_eq hj,e]; exact h.1⟩
   · rw [cover hr,decide_eq_true_eq]; exact ⟨j,hj,rfl,by rw [ix_eq hj,e]; exact h.2⟩
 · rintro ⟨n,h1,h2⟩
   rw [cover hr,decide_eq_true_eq] at h1 h2
   obtain ⟨j,hj,e,h1⟩ := h1
   obtain ⟨i,hi,e2,h2⟩ := h2
   have : i = j := by omega
   subst this
   exact ⟨_,ix_mem hj,by simp [h1,h2]⟩
theorem tog_comm {m : D.MFunc} {a b : Int} : togM m a b = togM m b a := by
 cases hr : rightM m with
 | false => rw [tog_wrong hr,tog_wrong hr]
 | true => rw [togM_any hr,togM_any hr]; congr 1; funext x; exact Bool.and_comm _ _
theorem E11 : Ent Tryz.prog 11 := ⟨_,Tryz.func11,by kernel_rfl,by kernel_rfl⟩
theorem E12 : Ent Tryz.prog 12 := ⟨_,Tryz.func12,by kernel_rfl,by kernel_rfl⟩
theorem E14 : Ent Tryz.prog 14 := ⟨_,Tryz.func14,by kernel_rfl,by kernel_rfl⟩
set_option maxRecDepth 8000
theorem rest_in {n k : Int} (h : 0 < k) : 0 ≤ restM n k ∧ restM n k < k := by
 have h1 := tmod_in (n := n) h
 have h2 := tmod_in (n := Int.tmod n k + k) h
 have h3 : 0 ≤ Int.tmod (Int.tmod n k + k) k := Int.tmod_nonneg k (by omega)
 unfold restM; omega
attribute [local irreducible] made10
end Go.Proofs.YtehhjlkmbdhckaaGreat
namespace Go.Proofs.YtehhjlkmbdhckaaGreat
open Go.JE
abbrev U43 := @Tryz.underlying43
theorem E23 : Ent Tryz.prog 23 := ⟨_,Tryz.func23,by kernel_rfl,by kernel_rfl⟩
theorem F47_0 : Fld Tryz.prog 47 0 0 := ⟨_,_,Tryz.underlying47,rfl,rfl,1,(by unfold Sz; kernel_rfl),by decide⟩
theorem Z43 : Sz Tryz.prog 43 4 := by unfold Sz; kernel_rfl
theorem J43 : (Tryz.prog.info? 43).bind (·.zero) = some (.agg #[.int .i64 0,.int .i64 0,.int .i64 0,.int .i64 0]) := by kernel_rfl
set_option maxRecDepth 8000
attribute [local irreducible] made10
set_option maxRecDepth 20000 in
set_option maxHeartbeats 4000000 in
theorem liveTogether_ct {a0 : Value} {s : List Int} {N0 : Nat} (a : Int) (b : Int) : Tv Tryz.prog 4 #[a0,.int .i64 a,.int .i64 b] [dv (rLn N0 (rI .i64)) a0 s] [] (.bool true) := by
 refine jenter (args := [a0,.int .i64 a,.int .i64 b]) Tryz.func4 rfl rfl rfl fun w0 X => ?_
 have hr : rightM (made10 s) = true := by unfold made10; exact made7_right _
 refine jq (jr (ja Z (jn (jx (jq (jr (jcv E11 Z Z shown_ct dn kn (ja Z (jn (jx (jq ?_)))))))))))
 refine jr (jm Z (jdq d0 fun q1 w1 => jcs E12 Z Z made10_ct (dc d0 dn) kn fun c20 => ?_))
 generalize hma : made10 s = ma at hr ⊢
 have hq := right_ins hr
 refine jalc J28 Z fun g8 => jdq (rMFunc.cB d0) fun q3 w3 => jsta k0 Z28 Z Z Z ⟨Z,w3.one,trivial⟩ (saf Z) (jn (jx (jq (jr (js (jla k0 A28 Z28 Z Z Z) (jcd E20 Z Z (regs_ct hr) (dc d0 dn) kn fun v22 q4 w4 => ja Z (jn (jx ?_))))))))
 refine jq (jr (jm Z (jm Z (js (jbu (v := .agg #[.int .i64 a,.int .i64 b]) Z (fun _ => by kernel_rfl)) (jm Z (jm Z (js (jbu (v := .agg #[.int .i64 a,.int .i64 b]) Z (fun _ => by kernel_rfl)) (js (jbu (v := .agg #[.int .i64 a,.int .i64 b,.int .i64 a,.int .i64 b]) Z (fun _ => by kernel_rfl)) (jalc J43 Z fun g10 => jsta k0 Z43 Z Z Z ⟨Z,Z,Z,Z,trivial⟩ (saf Z) (jn ?_))))))))))
 refine jx (jq (jq (jr (jm Z (js (jln U22 d0 Z) (js (jgtr Z Z) (jn (jx ?_))))))))
 refine jjo (u2 fun (xa : Int) (xb : Int) => ⟨xa = xa,[da rMFunc (vMFunc ma c20) ma],[bx g10 43 [.int .i64 a,.int .i64 b,.int .i64 xa,.int .i64 xb],bx g8 28 [.int .i64 ma.Params,c20]],[(6,.bool false),(7,.bool true),(8,.pointer (some ⟨g8,0,none⟩)),(10,.pointer (some ⟨g10,0,none⟩))]⟩) ?_ ?_
 refine jif Z (fun hc1 => ?_) (fun hc1 => ?_)
 refine jany false (.a 0 (.a 1 (.a 2 (.a 3 (.a 7 (.a 8 (.a 9 (.a 10 (.o 4 (.a 5 (.a 6 (.o 11 (.a 12 (.a 13 (.a 14 (.a 15 (.o 16 .e))))))))))))))))) Mixed (by kernel_rfl) kn fun F7 => jy Z (jmv Z) (jy Z (jmv Z) (jy Z (jmv Z) (jy Z (jln U22 d0 Z) (jy Z (jmv Z) (jy Z (jmv Z) (jy Z (jmv Z) (jy Z (jln U22 d0 Z) (jyo Z (jcv E14 Z Z (rest_ct a (↑(List.length (regsM ma))) (by omega) (by omega)) dn kn ?_)))))))))
 have hr0 := rest_in (n := a) (k := ((regsM ma).length : Int)) (by omega)
 refine jyn d0 kn (jy Z (jix (i := (Int.toNat (restM a (↑(List.length (regsM ma)))))) U22 Z3 d0 Z Z (by omega) (by omega)) (jy Z (jlI (dix d0 (Int.toNat (restM a (↑(List.length (regsM ma))))) (by omega)) O3 Z) (jyo Z (jcv E14 Z Z (rest_ct b (↑(List.length (regsM ma))) (by omega) (by omega)) dn kn ?_))))
 have hr1 := rest_in (n := b) (k := ((regsM ma).length : Int)) (by omega)
 refine jyn d0 kn (jy Z (jix (i := (Int.toNat (restM b (↑(List.length (regsM ma)))))) U22 Z3 d0 Z Z (by omega) (by omega)) (jy Z (jlI (dix d0 (Int.toNat (restM b (↑(List.length (regsM ma))))) (by omega)) O3 Z) (jy Z (jbu (v := .agg #[.int .i64 (ix (regsM ma) (Int.toNat (restM a (↑(List.length (regsM ma)))))),.int .i64 (ix (regsM ma) (Int.toNat (restM b (↑(List.length (regsM ma))))))]) Z (fun _ => by kernel_rfl)) (jy Z (jixa (i := 1) U43 Z24 Z Z Z (by omega)) (jyo Z (jsta k0 Z24 Z Z Z ⟨Z,Z,trivial⟩ sa.c.c.s.s (jyn d0 kn (jyd ?_))))))))
 exact jje (ix (regsM ma) (Int.toNat (restM a (((List.length (regsM ma) : Nat) : Int)))),ix (regsM ma) (Int.toNat (restM b (((List.length (regsM ma) : Nat) : Int))))) (rfl) (dc d4 dn) (kd kn) ⟨Z,Z,Z,Z,trivial⟩
 refine jsk ?_
 exact jje (a,b) (rfl) (dc d1 dn) (kd kn) ⟨Z,Z,Z,Z,trivial⟩
 rintro ⟨xa,xb⟩; dsimp only [u2]; rintro hx9
 refine jx (jq (jq (jr (ja Z (jn (jx (jb ?_)))))))
 refine jlp (fun (kq : Nat) => ⟨kq ≤ 2,[da rMFunc (vMFunc ma c20) ma],[bx g10 43 [.int .i64 a,.int .i64 b,.int .i64 xa,.int .i64 xb],bx g8 28 [.int .i64 ma.Params,c20]],[(7,.bool true),(8,.pointer (some ⟨g8,0,none⟩)),(10,.pointer (some ⟨g10,0,none⟩)),(11,.int .i64 (↑kq))],2 - kq⟩) 0 (by omega) (dc d0 dn) (kd kn) ⟨Z,Z,Z,eqI (by omega),trivial⟩ ?_
 rintro kq; dsimp only; rintro hkq
 refine jq (jq (jr ?_))
 rcases (by omega : kq = 0 ∨ kq = 1 ∨ kq = 2) with rfl | rfl | rfl
 refine jm Z (js (jlss Z Z) (jn (jx ?_)))
 refine jif Z (fun hc2 => ?_) (fun hc2 => ?_)
 refine jsk (jx (jq (jb (jq (jtl 5 Mixed (by kernel_rfl) (jt (jla k1 A28 Z28 Z Z Z) (jt (jmv Z) (jt (jixa (i := 0) U43 Z24 Z Z Z (by omega)) (jt (jixa (i := 0) U24 Z3 Z Z Z (by omega)) (jt (jl k0 O3 Z Z) (jtt ?_)))))))))))
 refine jcd E21 Z Z (ranges_ct a) (dc d0 dn) kn fun v58 q11 w11 => ja Z (jn (jx (jq (jtl 5 Mixed (by kernel_rfl) (jt (jla k1 A28 Z28 Z Z Z) (jt (jmv Z) (jt (jixa (i := 0) U43 Z24 Z Z Z (by omega)) (jt (jixa (i := 1) U24 Z3 Z Z Z (by omega)) (jt (jl k0 O3 Z Z) (jtt ?_))))))))))
 refine jcd E21 Z Z (ranges_ct b) (dc d1 dn) kn fun v64 q13 w13 => ja Z (jn (jx (jq (jr (ja Z (jn (jx (jq (jq (jr ?_))))))))))
 refine ja Z (jn (jx (jb ?_)))
 refine jlp (u2 fun (i : Nat) (o1 : Bool) => ⟨i ≤ (rangesM ma a).length ∧ o1 = ((rangesM ma a).take i).any (fun x => (rangesM ma b).any (fun y => overX x y)),[dv (rL rRange) v64 (rangesM ma b),dv (rL rRange) v58 (rangesM ma a),da rMFunc (vMFunc ma c20) ma],[bx g10 43 [.int .i64 a,.int .i64 b,.int .i64 xa,.int .i64 xb],bx g8 28 [.int .i64 ma.Params,c20]],[(7,.bool true),(8,.pointer (some ⟨g8,0,none⟩)),(10,.pointer (some ⟨g10,0,none⟩)),(11,.int .i64 0),(12,v58),(13,v64),(14,.bool o1),(15,.int .i64 (↑i))],(rangesM ma a).length - i⟩) (0,false) ⟨by dsimp only; omega,by dsimp only; simp⟩ (dc d0 (dc d1 (dc d2 dn))) (kd kn) ⟨Z,Z,Z,Z,Z,Z,Z,eqI (by omega),trivial⟩ ?_
 rintro ⟨i,o1⟩; dsimp only [u2]; rintro ⟨hi,ho1⟩
 refine jq (jq (jr (jm Z (jm Z (js (jln U44 d1 Z) (js (jlss Z Z) (jn (jx ?_))))))))
 refine jif Z (fun hc3 => ?_) (fun hc3 => ?_)
 refine jsk (jx (jq (jb (jq (jr (ja Z (jn (jx (jb ?_)))))))))
 refine jlp (u2 fun (j : Nat) (o2 : Bool) => ⟨j ≤ (rangesM ma b).length ∧ o2 = (o1 || ((rangesM ma b).take j).any (fun y => overX (ix (rangesM ma a) i) y)),[dv (rL rRange) v64 (rangesM ma b),dv (rL rRange) v58 (rangesM ma a),da rMFunc (vMFunc ma c20) ma],[bx g10 43 [.int .i64 a,.int .i64 b,.int .i64 xa,.int .i64 xb],bx g8 28 [.int .i64 ma.Params,c20]],[(7,.bool true),(8,.pointer (some ⟨g8,0,none⟩)),(10,.pointer (some ⟨g10,0,none⟩)),(11,.int .i64 0),(12,v58),(13,v64),(14,.bool o2),(15,.int .i64 (↑i)),(16,.int .i64 (↑j))],(rangesM ma b).length - j⟩) (0,o1) ⟨by dsimp only; omega,by dsimp only; simp⟩ (dc d0 (dc d1 (dc d2 dn))) (kd kn) ⟨Z,Z,Z,Z,Z,Z,Z,Z,eqI (by omega),trivial⟩ ?_
 rintro ⟨j,o2⟩; dsimp only [u2]; rintro ⟨hj,ho2⟩
 refine jq (jq (jr (jm Z (jm Z (js (jln U44 d0 Z) (js (jlss Z Z) (jn (jx ?_))))))))
 refine jif Z (fun hc4 => ?_) (fun hc4 => ?_)
 refine jsk (jx (jq (jb (jstl Mixed (by kernel_rfl) (jt (jmv Z) (jt (jmv Z) (jtg Z Z (.f _) (fun hg => jmv Z) (jtg Z Z (.f _) (fun hg => jmv Z) (jtg Z Z (.f _) (fun hg => jix U44 Z47 d1 (evg Z hg) (evg Z hg) Z (by first | omega | (simp at hg; omega) | (simp only [List.length_set]; omega))) (jtg Z Z (.f _) (fun hg => jf F47_0 (evg Z hg)) (jtg Z Z (.f _) (fun hg => jlI (rRange.A_From (dix d1 i (by first | omega | (simp at hg; omega) | (simp only [List.length_set]; omega)))) O3 (evg Z hg)) ?_)))))))))))
 refine jtg Z Z (.f _) (fun hg => jmv Z) (jtg Z Z (.f _) (fun hg => jmv Z) (jtg Z Z (.f _) (fun hg => jix U44 Z47 d0 (evg Z hg) (evg Z hg) Z (by first | omega | (simp at hg; omega) | (simp only [List.length_set]; omega))) (jtg Z Z (.f _) (fun hg => jf F47_1 (evg Z hg)) (jtg Z Z (.f _) (fun hg => jlI (rRange.A_To (dix d0 j (by first | omega | (simp at hg; omega) | (simp only [List.length_set]; omega)))) O3 (evg Z hg)) (jtg Z Z (.f _) (fun hg => jlss (evg Z hg) (evg Z hg)) (jtg Z Z (.f _) (fun hg => jmv (evg Z hg)) (jtg Z Z (.gt _ _) (fun hg => jmv Z) (jtg Z Z (.gt _ _) (fun hg => jmv Z) (jtg Z Z (.gt _ _) (fun hg => jix U44 Z47 d0 (evg Z hg) (evg Z hg) Z (by first | omega | (simp at hg; omega) | (simp only [List.length_set]; omega))) (jtg Z Z (.gt _ _) (fun hg => jf F47_0 (evg Z hg)) (jtg Z Z (.gt _ _) (fun hg => jlI (rRange.A_From (dix d0 j (by first | omega | (simp at hg; omega) | (simp only [List.length_set]; omega)))) O3 (evg Z hg)) ?_)))))))))))
 refine jtg Z Z (.gt _ _) (fun hg => jmv Z) (jtg Z Z (.gt _ _) (fun hg => jmv Z) (jtg Z Z (.gt _ _) (fun hg => jix U44 Z47 d1 (evg Z hg) (evg Z hg) Z (by first | omega | (simp at hg; omega) | (simp only [List.length_set]; omega))) (jtg Z Z (.gt _ _) (fun hg => jf F47_1 (evg Z hg)) (jtg Z Z (.gt _ _) (fun hg => jlI (rRange.A_To (dix d1 i (by first | omega | (simp at hg; omega) | (simp only [List.length_set]; omega)))) O3 (evg Z hg)) (jtg Z Z (.gt _ _) (fun hg => jlss (evg Z hg) (evg Z hg)) (jtg Z Z (.f _) (fun hg => jand2 hg Z Z) (jt (jor Z Z) (jt (jas Z) (jdn (jbn (jx ?_)))))))))))
 refine jr (jm Z (js (jadd Z Z (by omega)) (ja Z (jn ?_))))
 exact jag (j + 1,o2 || ((decide ((ix (rangesM ma a) i).From < (ix (rangesM ma b) j).To)) && (decide ((ix (rangesM ma b) j).From < (ix (rangesM ma a) i).To)))) ⟨by dsimp only; omega,by dsimp only; rw [any_next (by omega),← Bool.or_assoc,← ho2]; rfl⟩ (dc d0 (dc d1 (dc d2 dn))) (kd kn) ⟨Z,Z,Z,Z,Z,Z,Z,Z,eqI (by omega),trivial⟩
 refine jex (jtx (jtx (jbh (jbn (jx (jr (jm Z (js (jadd Z Z (by omega)) (ja Z (jn ?_))))))))))
 exact jag (i + 1,o2) ⟨by dsimp only; omega,by dsimp only; rw [any_next (by omega),← ho1,ho2,List.take_of_length_le (l := (rangesM ma b)) (by omega)]⟩ (dc d0 (dc d1 (dc d2 dn))) (kd kn) ⟨Z,Z,Z,Z,Z,Z,Z,eqI (by omega),trivial⟩
 refine jex (jtx (jtx (jbh (jx (jq (jtl 9 Mixed (by kernel_rfl) (jt (jla k1 A28 Z28 Z Z Z) (jt (jmv Z) (jt (jixa (i := 0) U43 Z24 Z Z Z (by omega)) (jt (jixa (i := 0) U24 Z3 Z Z Z (by omega)) (jt (jl k0 O3 Z Z) ?_)))))))))))
 refine jt (jmv Z) (jt (jixa (i := 0) U43 Z24 Z Z Z (by omega)) (jt (jixa (i := 1) U24 Z3 Z Z Z (by omega)) (jt (jl k0 O3 Z Z) (jtt (jcv E22 Z Z (together_ct a b) (dc d2 dn) kn (ja Z (jn (jx (jq (jany false (.a 0 (.a 1 (.a 2 (.a 3 (.a 4 (.a 5 (.a 6 (.a 7 (.a 8 (.a 9 (.a 10 (.a 11 (.a 12 (.a 13 (.o 14 (.a 15 (.a 16 (.a 17 (.a 18 (.a 19 (.a 20 (.a 21 (.a 22 (.a 23 (.a 24 (.a 25 (.a 26 (.a 27 (.o 28 (.a 29 (.a 30 .e))))))))))))))))))))))))))))))) Mixed (by kernel_rfl) (kd kn) fun F15 => jy Z (jmv Z) ?_))))))))))
 refine jy Z (jmv Z) (jy Z (jneqB U4 Z Z) ?_)
 rw [show (!((togM ma a b) == o1)) = false from by rw [tog_over hr,ho1,List.take_of_length_le (by omega)]; simp [overS]]
 refine jy Z (jmv Z) (jyk Z Z Z (.f _) (jmv Z) (jyk Z Z Z (.f _) (jla k1 A28 Z28 Z Z Z) (jyk Z Z Z (.f _) (jmv Z) (jyk Z Z Z (.f _) (jixa (i := 0) U43 Z24 Z Z Z (by omega)) (jyk Z Z Z (.f _) (jixa (i := 1) U24 Z3 Z Z Z (by omega)) (jyk Z Z Z (.f _) (jl k0 O3 Z Z) (jyk Z Z Z (.f _) (jmv Z) (jyk Z Z Z (.f _) (jixa (i := 0) U43 Z24 Z Z Z (by omega)) (jyk Z Z Z (.f _) (jixa (i := 0) U24 Z3 Z Z Z (by omega)) (jyk Z Z Z (.f _) (jl k0 O3 Z Z) (jyo Z ?_)))))))))))
 refine jgk Z Z (.f _) (jcv E22 Z Z (together_ct b a) (dc d3 dn) kn (jyn d0 (kd kn) (jyk Z Z Z (.f _) (jneqB U4 Z Z) ?_)))
 rw [show (!((togM ma a b) == (togM ma b a))) = false from by rw [tog_comm]; simp]
 refine jy Z (jor Z Z) (jy Z (jmv Z) (jyk Z Z Z (.f _) (jmv Z) (jyk Z Z Z (.f _) (jla k1 A28 Z28 Z Z Z) (jyk Z Z Z (.f _) (jmv Z) (jyk Z Z Z (.f _) (jixa (i := 0) U43 Z24 Z Z Z (by omega)) (jyk Z Z Z (.f _) (jixa (i := 0) U24 Z3 Z Z Z (by omega)) (jyk Z Z Z (.f _) (jl k0 O3 Z Z) (jyk Z Z Z (.f _) (jmv Z) (jyk Z Z Z (.f _) (jixa (i := 0) U43 Z24 Z Z Z (by omega)) (jyk Z Z Z (.f _) (jixa (i := 1) U24 Z3 Z Z Z (by omega)) (jyk Z Z Z (.f _) (jl k0 O3 Z Z) ?_)))))))))))
 refine jyo Z (jgk Z Z (.f _) (jcv E23 Z Z (rTogether_ct a b) (dc d4 dn) kn (jyn d0 (kd kn) (jyk Z Z Z (.f _) (jneqB U4 Z Z) ?_))))
 rw [show (!((togM ma a b) == (togM ma a b))) = false from by simp]
 refine jy Z (jor Z Z) (jyd (jx ?_))
 refine jif Z (fun hc5 => ?_) (fun hc5 => ?_)
 exact absurd hc5 (by simp)
 refine jsk (jbn (jx (jr (jm Z (js (jadd Z Z (by omega)) (ja Z (jn ?_)))))))
 exact jag 1 (by omega) (dc d4 dn) (kd kn) ⟨Z,Z,Z,eqI (by omega),trivial⟩
 exact absurd hc2 (by simp)
 refine jm Z (js (jlss Z Z) (jn (jx ?_)))
 refine jif Z (fun hc6 => ?_) (fun hc6 => ?_)
 refine jsk (jx (jq (jb (jq (jtl 5 Mixed (by kernel_rfl) (jt (jla k1 A28 Z28 Z Z Z) (jt (jmv Z) (jt (jixa (i := 1) U43 Z24 Z Z Z (by omega)) (jt (jixa (i := 0) U24 Z3 Z Z Z (by omega)) (jt (jl k0 O3 Z Z) (jtt ?_)))))))))))
 refine jcd E21 Z Z (ranges_ct xa) (dc d0 dn) kn fun v58_18 q19 w19 => ja Z (jn (jx (jq (jtl 5 Mixed (by kernel_rfl) (jt (jla k1 A28 Z28 Z Z Z) (jt (jmv Z) (jt (jixa (i := 1) U43 Z24 Z Z Z (by omega)) (jt (jixa (i := 1) U24 Z3 Z Z Z (by omega)) (jt (jl k0 O3 Z Z) (jtt ?_))))))))))
 refine jcd E21 Z Z (ranges_ct xb) (dc d1 dn) kn fun v64_21 q22 w22 => ja Z (jn (jx (jq (jr (ja Z (jn (jx (jq (jq (jr ?_))))))))))
 refine ja Z (jn (jx (jb ?_)))
 refine jlp (u2 fun (i : Nat) (o1 : Bool) => ⟨i ≤ (rangesM ma xa).length ∧ o1 = ((rangesM ma xa).take i).any (fun x => (rangesM ma xb).any (fun y => overX x y)),[dv (rL rRange) v64_21 (rangesM ma xb),dv (rL rRange) v58_18 (rangesM ma xa),da rMFunc (vMFunc ma c20) ma],[bx g10 43 [.int .i64 a,.int .i64 b,.int .i64 xa,.int .i64 xb],bx g8 28 [.int .i64 ma.Params,c20]],[(7,.bool true),(8,.pointer (some ⟨g8,0,none⟩)),(10,.pointer (some ⟨g10,0,none⟩)),(11,.int .i64 1),(12,v58_18),(13,v64_21),(14,.bool o1),(15,.int .i64 (↑i))],(rangesM ma xa).length - i⟩) (0,false) ⟨by dsimp only; omega,by dsimp only; simp⟩ (dc d0 (dc d1 (dc d2 dn))) (kd kn) ⟨Z,Z,Z,Z,Z,Z,Z,eqI (by omega),trivial⟩ ?_
 rintro ⟨i,o1⟩; dsimp only [u2]; rintro ⟨hi,ho1⟩
 refine jq (jq (jr (jm Z (jm Z (js (jln U44 d1 Z) (js (jlss Z Z) (jn (jx ?_))))))))
 refine jif Z (fun hc7 => ?_) (fun hc7 => ?_)
 refine jsk (jx (jq (jb (jq (jr (ja Z (jn (jx (jb ?_)))))))))
 refine jlp (u2 fun (j : Nat) (o2 : Bool) => ⟨j ≤ (rangesM ma xb).length ∧ o2 = (o1 || ((rangesM ma xb).take j).any (fun y => overX (ix (rangesM ma xa) i) y)),[dv (rL rRange) v64_21 (rangesM ma xb),dv (rL rRange) v58_18 (rangesM ma xa),da rMFunc (vMFunc ma c20) ma],[bx g10 43 [.int .i64 a,.int .i64 b,.int .i64 xa,.int .i64 xb],bx g8 28 [.int .i64 ma.Params,c20]],[(7,.bool true),(8,.pointer (some ⟨g8,0,none⟩)),(10,.pointer (some ⟨g10,0,none⟩)),(11,.int .i64 1),(12,v58_18),(13,v64_21),(14,.bool o2),(15,.int .i64 (↑i)),(16,.int .i64 (↑j))],(rangesM ma xb).length - j⟩) (0,o1) ⟨by dsimp only; omega,by dsimp only; simp⟩ (dc d0 (dc d1 (dc d2 dn))) (kd kn) ⟨Z,Z,Z,Z,Z,Z,Z,Z,eqI (by omega),trivial⟩ ?_
 rintro ⟨j,o2⟩; dsimp only [u2]; rintro ⟨hj,ho2⟩
 refine jq (jq (jr (jm Z (jm Z (js (jln U44 d0 Z) (js (jlss Z Z) (jn (jx ?_))))))))
 refine jif Z (fun hc8 => ?_) (fun hc8 => ?_)
 refine jsk (jx (jq (jb (jstl Mixed (by kernel_rfl) (jt (jmv Z) (jt (jmv Z) (jtg Z Z (.f _) (fun hg => jmv Z) (jtg Z Z (.f _) (fun hg => jmv Z) (jtg Z Z (.f _) (fun hg => jix U44 Z47 d1 (evg Z hg) (evg Z hg) Z (by first | omega | (simp at hg; omega) | (simp only [List.length_set]; omega))) (jtg Z Z (.f _) (fun hg => jf F47_0 (evg Z hg)) (jtg Z Z (.f _) (fun hg => jlI (rRange.A_From (dix d1 i (by first | omega | (simp at hg; omega) | (simp only [List.length_set]; omega)))) O3 (evg Z hg)) ?_)))))))))))
 refine jtg Z Z (.f _) (fun hg => jmv Z) (jtg Z Z (.f _) (fun hg => jmv Z) (jtg Z Z (.f _) (fun hg => jix U44 Z47 d0 (evg Z hg) (evg Z hg) Z (by first | omega | (simp at hg; omega) | (simp only [List.length_set]; omega))) (jtg Z Z (.f _) (fun hg => jf F47_1 (evg Z hg)) (jtg Z Z (.f _) (fun hg => jlI (rRange.A_To (dix d0 j (by first | omega | (simp at hg; omega) | (simp only [List.length_set]; omega)))) O3 (evg Z hg)) (jtg Z Z (.f _) (fun hg => jlss (evg Z hg) (evg Z hg)) (jtg Z Z (.f _) (fun hg => jmv (evg Z hg)) (jtg Z Z (.gt _ _) (fun hg => jmv Z) (jtg Z Z (.gt _ _) (fun hg => jmv Z) (jtg Z Z (.gt _ _) (fun hg => jix U44 Z47 d0 (evg Z hg) (evg Z hg) Z (by first | omega | (simp at hg; omega) | (simp only [List.length_set]; omega))) (jtg Z Z (.gt _ _) (fun hg => jf F47_0 (evg Z hg)) (jtg Z Z (.gt _ _) (fun hg => jlI (rRange.A_From (dix d0 j (by first | omega | (simp at hg; omega) | (simp only [List.length_set]; omega)))) O3 (evg Z hg)) ?_)))))))))))
 refine jtg Z Z (.gt _ _) (fun hg => jmv Z) (jtg Z Z (.gt _ _) (fun hg => jmv Z) (jtg Z Z (.gt _ _) (fun hg => jix U44 Z47 d1 (evg Z hg) (evg Z hg) Z (by first | omega | (simp at hg; omega) | (simp only [List.length_set]; omega))) (jtg Z Z (.gt _ _) (fun hg => jf F47_1 (evg Z hg)) (jtg Z Z (.gt _ _) (fun hg => jlI (rRange.A_To (dix d1 i (by first | omega | (simp at hg; omega) | (simp only [List.length_set]; omega)))) O3 (evg Z hg)) (jtg Z Z (.gt _ _) (fun hg => jlss (evg Z hg) (evg Z hg)) (jtg Z Z (.f _) (fun hg => jand2 hg Z Z) (jt (jor Z Z) (jt (jas Z) (jdn (jbn (jx ?_)))))))))))
 refine jr (jm Z (js (jadd Z Z (by omega)) (ja Z (jn ?_))))
 exact jag (j + 1,o2 || ((decide ((ix (rangesM ma xa) i).From < (ix (rangesM ma xb) j).To)) && (decide ((ix (rangesM ma xb) j).From < (ix (rangesM ma xa) i).To)))) ⟨by dsimp only; omega,by dsimp only; rw [any_next (by omega),← Bool.or_assoc,← ho2]; rfl⟩ (dc d0 (dc d1 (dc d2 dn))) (kd kn) ⟨Z,Z,Z,Z,Z,Z,Z,Z,eqI (by omega),trivial⟩
 refine jex (jtx (jtx (jbh (jbn (jx (jr (jm Z (js (jadd Z Z (by omega)) (ja Z (jn ?_))))))))))
 exact jag (i + 1,o2) ⟨by dsimp only; omega,by dsimp only; rw [any_next (by omega),← ho1,ho2,List.take_of_length_le (l := (rangesM ma xb)) (by omega)]⟩ (dc d0 (dc d1 (dc d2 dn))) (kd kn) ⟨Z,Z,Z,Z,Z,Z,Z,eqI (by omega),trivial⟩
 refine jex (jtx (jtx (jbh (jx (jq (jtl 9 Mixed (by kernel_rfl) (jt (jla k1 A28 Z28 Z Z Z) (jt (jmv Z) (jt (jixa (i := 1) U43 Z24 Z Z Z (by omega)) (jt (jixa (i := 0) U24 Z3 Z Z Z (by omega)) (jt (jl k0 O3 Z Z) ?_)))))))))))
 refine jt (jmv Z) (jt (jixa (i := 1) U43 Z24 Z Z Z (by omega)) (jt (jixa (i := 1) U24 Z3 Z Z Z (by omega)) (jt (jl k0 O3 Z Z) (jtt (jcv E22 Z Z (together_ct xa xb) (dc d2 dn) kn (ja Z (jn (jx (jq (jany false (.a 0 (.a 1 (.a 2 (.a 3 (.a 4 (.a 5 (.a 6 (.a 7 (.a 8 (.a 9 (.a 10 (.a 11 (.a 12 (.a 13 (.o 14 (.a 15 (.a 16 (.a 17 (.a 18 (.a 19 (.a 20 (.a 21 (.a 22 (.a 23 (.a 24 (.a 25 (.a 26 (.a 27 (.o 28 (.a 29 (.a 30 .e))))))))))))))))))))))))))))))) Mixed (by kernel_rfl) (kd kn) fun F24 => jy Z (jmv Z) ?_))))))))))
 refine jy Z (jmv Z) (jy Z (jneqB U4 Z Z) ?_)
 rw [show (!((togM ma xa xb) == o1)) = false from by rw [tog_over hr,ho1,List.take_of_length_le (by omega)]; simp [overS]]
 refine jy Z (jmv Z) (jyk Z Z Z (.f _) (jmv Z) (jyk Z Z Z (.f _) (jla k1 A28 Z28 Z Z Z) (jyk Z Z Z (.f _) (jmv Z) (jyk Z Z Z (.f _) (jixa (i := 1) U43 Z24 Z Z Z (by omega)) (jyk Z Z Z (.f _) (jixa (i := 1) U24 Z3 Z Z Z (by omega)) (jyk Z Z Z (.f _) (jl k0 O3 Z Z) (jyk Z Z Z (.f _) (jmv Z) (jyk Z Z Z (.f _) (jixa (i := 1) U43 Z24 Z Z Z (by omega)) (jyk Z Z Z (.f _) (jixa (i := 0) U24 Z3 Z Z Z (by omega)) (jyk Z Z Z (.f _) (jl k0 O3 Z Z) (jyo Z ?_)))))))))))
 refine jgk Z Z (.f _) (jcv E22 Z Z (together_ct xb xa) (dc d3 dn) kn (jyn d0 (kd kn) (jyk Z Z Z (.f _) (jneqB U4 Z Z) ?_)))
 rw [show (!((togM ma xa xb) == (togM ma xb xa))) = false from by rw [tog_comm]; simp]
 refine jy Z (jor Z Z) (jy Z (jmv Z) (jyk Z Z Z (.f _) (jmv Z) (jyk Z Z Z (.f _) (jla k1 A28 Z28 Z Z Z) (jyk Z Z Z (.f _) (jmv Z) (jyk Z Z Z (.f _) (jixa (i := 1) U43 Z24 Z Z Z (by omega)) (jyk Z Z Z (.f _) (jixa (i := 0) U24 Z3 Z Z Z (by omega)) (jyk Z Z Z (.f _) (jl k0 O3 Z Z) (jyk Z Z Z (.f _) (jmv Z) (jyk Z Z Z (.f _) (jixa (i := 1) U43 Z24 Z Z Z (by omega)) (jyk Z Z Z (.f _) (jixa (i := 1) U24 Z3 Z Z Z (by omega)) (jyk Z Z Z (.f _) (jl k0 O3 Z Z) ?_)))))))))))
 refine jyo Z (jgk Z Z (.f _) (jcv E23 Z Z (rTogether_ct xa xb) (dc d4 dn) kn (jyn d0 (kd kn) (jyk Z Z Z (.f _) (jneqB U4 Z Z) ?_))))
 rw [show (!((togM ma xa xb) == (togM ma xa xb))) = false from by simp]
 refine jy Z (jor Z Z) (jyd (jx ?_))
 refine jif Z (fun hc9 => ?_) (fun hc9 => ?_)
 exact absurd hc9 (by simp)
 refine jsk (jbn (jx (jr (jm Z (js (jadd Z Z (by omega)) (ja Z (jn ?_)))))))
 exact jag 2 (by omega) (dc d4 dn) (kd kn) ⟨Z,Z,Z,eqI (by omega),trivial⟩
 exact absurd hc6 (by simp)
 refine jm Z (js (jlss Z Z) (jn (jx ?_)))
 refine jif Z (fun hc10 => ?_) (fun hc10 => ?_)
 exact absurd hc10 (by simp)
 refine jex (jtx (jtx (jbh (jx (jq (jr (jm Z (ja Z (jn (jx (jrt ?_)))))))))))
 exact jrB Z Z (by rfl)
end Go.Proofs.YtehhjlkmbdhckaaGreat
