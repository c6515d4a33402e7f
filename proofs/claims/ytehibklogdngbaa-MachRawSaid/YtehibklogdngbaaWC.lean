/- Walks. Conditions: each contract names its own. -/
import Derived.Test.YtehibklogdngbaaWB
namespace Go.Proofs.Ytehibklogdngbaa
set_option linter.unusedVariables false
set_option linter.unusedSimpArgs false
set_option linter.unusedSectionVars false
open Go.JE

theorem Try.agg61 : ∃ d, Try.prog.underlying 61 = some d ∧ (match d with | .struct _ | .array _ _ => true | _ => false) = true := ⟨_, Try.underlying61, rfl⟩
theorem Try.ent88 : Ent Try.prog 88 := ⟨_, Try.func88, by kernel_rfl, by kernel_rfl⟩
theorem Try.ent89 : Ent Try.prog 89 := ⟨_, Try.func89, by kernel_rfl, by kernel_rfl⟩
theorem Try.ent90 : Ent Try.prog 90 := ⟨_, Try.func90, by kernel_rfl, by kernel_rfl⟩
theorem Try.fld24_1 : Fld Try.prog 24 1 1 := ⟨_, _, Try.underlying24, rfl, rfl, 1, (by unfold Sz; kernel_rfl), by decide⟩
theorem Try.fld61_0 : Fld Try.prog 61 0 0 := ⟨_, _, Try.underlying61, rfl, rfl, 1, (by unfold Sz; kernel_rfl), by decide⟩
theorem Try.fld61_2 : Fld Try.prog 61 2 2 := ⟨_, _, Try.underlying61, rfl, rfl, 5, (by unfold Sz; kernel_rfl), by decide⟩
theorem Try.info38 : (Try.prog.info? 38).map (fun i => (i.zero, i.size, i.bytes)) = some (some (.slice none 0 0), 1, 24) := by kernel_rfl
theorem Try.info4 : (Try.prog.info? 4).map (fun i => (i.zero, i.size, i.bytes)) = some (some (.bool false), 1, 1) := by kernel_rfl
theorem Try.one22 : One Try.prog 22 := ⟨_, Try.underlying22, rfl⟩
theorem Try.one58 : One Try.prog 58 := ⟨_, Try.underlying58, rfl⟩
theorem Try.sz38 : Sz Try.prog 38 1 := by unfold Sz; kernel_rfl
theorem Try.sz61 : Sz Try.prog 61 7 := by unfold Sz; kernel_rfl
theorem Try.zero61 : (Try.prog.info? 61).bind (·.zero) = some (.agg #[.slice none 0 0, .slice none 0 0, .int .i64 0, .int .i64 0, .int .i64 0, .slice none 0 0, .int .i32 0]) := by kernel_rfl
theorem Try.zero70 : (Try.prog.info? 70).bind (·.zero) = some (.agg #[.int .i64 0, .slice none 0 0]) := by kernel_rfl
theorem bad_yes {bs : List D.MBlock} {ls : List (List Int)} {k : Nat} {p : D.Phi} (hk : k < bs.length) (hls : ∀ b : Nat, b < bs.length → ls.getD b [] = predsT bs bs.length b) (h : (k : Int) = 0 ∨ eqfM p.In (ix ls k) = false) : badPhi bs k p = true := by
  have h1 : ix ls k = predsM bs k := hls k hk
  unfold badPhi
  rcases h with h | h
  · rw [decide_eq_true (by omega)]; rfl
  · rw [h1] at h; unfold eqfM at h; rw [h]; simp
theorem bad_no {bs : List D.MBlock} {ls : List (List Int)} {k : Nat} {p : D.Phi} (hk : k < bs.length) (hls : ∀ b : Nat, b < bs.length → ls.getD b [] = predsT bs bs.length b) (h : ¬ (k : Int) = 0 ∧ eqfM p.In (ix ls k) = true) : badPhi bs k p = false := by
  have h1 : ix ls k = predsM bs k := hls k hk
  unfold badPhi
  obtain ⟨h, h2⟩ := h
  rw [h1] at h2; unfold eqfM at h2; rw [h2, decide_eq_false (by omega)]; rfl
section
variable {m : D.MFunc} {f : Nat} {se : List Bool} {q : List Int}
theorem graph_re (hb : reachedM m.Blocks = bfs m.Blocks f se q) (hq : q = []) : reachedM m.Blocks = se := by rw [hb, hq, bfs_nil]
theorem graph_15 (hb : reachedM m.Blocks = bfs m.Blocks f se q) (hq : q = []) (h : 0 ≤ idxBool se false) : graphM m = (15, idxBool se false, 0) := by
  unfold graphM; rw [graph_re hb hq]; unfold idxBool at h ⊢; rw [if_pos h]
theorem graph_no (hb : reachedM m.Blocks = bfs m.Blocks f se q) (hq : q = []) (h : ¬ 0 ≤ idxBool se false) : graphM m = graphPhis m.Blocks 0 m.Blocks := by
  unfold graphM; rw [graph_re hb hq]; unfold idxBool at h; rw [if_neg h]
theorem graph_16 (hb : reachedM m.Blocks = bfs m.Blocks f se q) (hq : q = []) (h : ¬ 0 ≤ idxBool se false) {k i : Nat} (hk : k < m.Blocks.length) (hi : i < (ix m.Blocks k).Phis.length) (hG : graphPhis m.Blocks 0 m.Blocks = graphPhis m.Blocks k (m.Blocks.drop k)) (hno : ∀ p ∈ (ix m.Blocks k).Phis.take i, badPhi m.Blocks k p = false) (h2 : badPhi m.Blocks k (ix (ix m.Blocks k).Phis i) = true) : graphM m = (16, (k : Int), -1 - (i : Int)) := by
  rw [graph_no hb hq h]; exact phis_bad hk hi hG hno h2
theorem graph_0 (hb : reachedM m.Blocks = bfs m.Blocks f se q) (hq : q = []) (h : ¬ 0 ≤ idxBool se false) {k : Nat} (hk : m.Blocks.length ≤ k) (hG : graphPhis m.Blocks 0 m.Blocks = graphPhis m.Blocks k (m.Blocks.drop k)) : graphM m = (0, 0, 0) := by
  rw [graph_no hb hq h, hG, List.drop_of_length_le hk]; rfl
end

-- jacquard/mach.graph: function 59
set_option maxRecDepth 4000 in
theorem pGraph_ct {F : PH} {H : Heap} (hin : InH F H) {a0 : Value} {m : D.MFunc} (p0 : rMFunc.ra F a0 m) (hn : 0 < m.Blocks.length) (hT : ∀ x ∈ m.Blocks, ∀ t ∈ x.End.To, 1 ≤ t ∧ t < m.Blocks.length) :
    Ct Try.prog 59 #[a0] H (fun v H' => v = .tuple #[.int .i64 ((graphM m).1), .int .i64 ((graphM m).2.1), .int .i64 ((graphM m).2.2)] ∧ Kp H.size H H') := by
  have p0k := rMFunc.any p0
  obtain ⟨a0c1, rfl, p0c1⟩ := rMFunc.open p0
  have p0c1q := rL.len2 p0c1
  have hkp := Kp.refl H.size H
  have hx := PH.ext.refl (H := H) F
  refine Ct.enter (args := [.agg #[.int .i64 m.Params, a0c1]]) Try.func59 rfl rfl rfl (fun w0 hw0 => ?_)
  refine CF.seq (CF.region ?_)
  refine LF.chg (OpCh.boxB rfl rfl) ?_
  rintro _ H1 ⟨g1, rfl, eg1, sg1, kg1, hb1⟩
  have ng1 := hin.nope (Nat.le_of_eq eg1.symm)
  have lg1 := hkp.1
  have zkg1 := kg1.1
  replace hin := hin.kp kg1
  replace hkp := hkp.trans (kg1.mono hkp.1)
  clear kg1
  refine LF.step (OpOk.assign rfl) (LF.step (OpOk.assign rfl) (LF.step (OpOk.assign rfl) (LF.nil (PF.next (CF.seq (CF.region ?_))))))
  refine LF.step (OpOk.fieldAddr (Try.fld24_1) rfl) ?_
  refine LF.step (OpOk.ldBx hb1 Try.one22 rfl rfl) ?_
  refine LF.step (OpOk.lenL Try.underlying22 p0c1 rfl) ?_
  refine LF.chg (OpCh.makeMx (r := (rI .i64)) (T := 3) (F := F) (n := (List.length m.Blocks)) Try.underlying116 Try.info38 rfl rfl rfl rfl (by omega) (by omega)) ?_
  rintro _ H22 ⟨g22, rfl, e22, s22, k22, x22⟩
  replace x22 := x22 hin
  have l22 := hkp.1
  have zk22 := k22.1
  replace hin := hin.kp k22
  replace hkp := hkp.trans (k22.mono hkp.1)
  replace hb1 := hb1.kp k22
  replace x22 := x22.base l22
  refine LF.step (OpOk.assign rfl) (LF.nil (PF.next (CF.seq (CF.region ?_))))
  refine LF.step (OpOk.fieldAddr (Try.fld24_1) rfl) ?_
  refine LF.step (OpOk.ldBx hb1 Try.one22 rfl rfl) ?_
  refine LF.step (OpOk.lenL Try.underlying22 p0c1 rfl) ?_
  refine LF.chg (OpCh.makeL (F := F) (r := rB) (n := (List.length m.Blocks)) (a := false) Try.underlying98 Try.info4 rfl rfl rfl rfl rfl (by omega) (by omega) rfl) ?_
  rintro _ H26 ⟨g26, rfl, e26, s26, k26, x26⟩
  have l26 := hkp.1
  replace x26 := (x26 hin).base l26
  have zk26 := k26.1
  replace hin := hin.kp k26
  replace hkp := hkp.trans (k26.mono hkp.1)
  replace hb1 := hb1.kp k26
  replace x22 := x22.kp k26
  refine LF.step (OpOk.assign rfl) (LF.nil (PF.next (CF.seq (CF.seq (CF.region ?_)))))
  refine LF.step (OpOk.fieldAddr (Try.fld24_1) rfl) ?_
  refine LF.step (OpOk.ldBx hb1 Try.one22 rfl rfl) ?_
  refine LF.step (OpOk.lenL Try.underlying22 p0c1 rfl) ?_
  refine LF.step (OpOk.move rfl) (LF.nil (PF.next (CF.block ?_)))
  refine CF.loop (ι := Nat × List Value × List (List Int)) (fun z9 H1 => z9.1 ≤ m.Blocks.length ∧ z9.2.2.length = m.Blocks.length ∧ (∀ b : Nat, b < m.Blocks.length → z9.2.2.getD b [] = predsT m.Blocks z9.1 b) ∧ InH F H1 ∧ Kp H.size H H1 ∧ Bx H1 g1 24 [.int .i64 m.Params, a0c1] ∧ Gl rB 4 F H1 H.size (.slice (some ⟨g26, 0, none⟩) (List.length m.Blocks) (List.length m.Blocks)) (List.replicate (List.length m.Blocks) false) ∧ Mx (rI .i64) 3 38 F H1 H.size (.slice (some ⟨g22, 0, none⟩) (List.length m.Blocks) (List.length m.Blocks)) z9.2.1 z9.2.2) (fun z9 => [(1, .pointer (some ⟨g1, 0, none⟩)), (2, .int .i64 0), (3, .int .i64 0), (4, .int .i64 0), (5, .slice (some ⟨g22, 0, none⟩) (List.length m.Blocks) (List.length m.Blocks)), (6, .slice (some ⟨g26, 0, none⟩) (List.length m.Blocks) (List.length m.Blocks)), (28, a0c1), (29, .int .i64 (↑(List.length m.Blocks))), (30, .int .i64 (↑z9.1))]) (fun z9 => m.Blocks.length - z9.1) (0, (List.replicate (List.length m.Blocks) (.slice none 0 0)), (List.replicate (List.length m.Blocks) [])) ⟨by dsimp only; omega, by simp, by intro b hb; simp [predsT, List.getD, hb], hin, hkp, hb1, x26, x22⟩ ⟨rfl, rfl, rfl, rfl, rfl, rfl, rfl, rfl, eqI (by omega), trivial⟩ ?_
  clear hin hkp hb1 x26 x22
  rintro ⟨k, vs, ls⟩ H1 ⟨hk, hl, hls, hin, hkp, hb1, x26, x22⟩
  dsimp only at hk hl hls hb1 x26 x22 ⊢
  refine CF.seq (CF.region ?_)
  refine LF.step (OpOk.lss rfl rfl) ?_
  refine LF.nil (PF.next (CF.seq ?_))
  refine CF.if rfl (fun hc1 => ?_) (fun hc1 => ?_)
  refine CF.skip (PF.next (CF.seq (CF.block (CF.seq (CF.region (LF.step (OpOk.move rfl) ?_))))))
  refine LF.step (OpOk.idxL (i := k) Try.underlying22 Try.sz61 p0c1 rfl rfl rfl (by omega)) ?_
  refine LF.stepE (OpOk.ldA hin (rL.ix p0c1 k (by omega)) Try.agg61 Try.sz61 rfl) ?_
  intro v34 h34
  have h34k := rMBlock.any h34
  obtain ⟨v34c0, v34c1, v34c5, rfl, h34c0, h34c1, h34c5⟩ := rMBlock.open h34
  have h34c0q := rL.len2 h34c0
  have h34c1q := rL.len2 h34c1
  have h34c5q := rL.len2 h34c5
  refine LF.chg (OpCh.allocB Try.zero61 rfl) ?_
  rintro _ H8 ⟨g8, rfl, eg8, sg8, kg8, hb8⟩
  have ng8 := hin.nope (Nat.le_of_eq eg8.symm)
  have lg8 := hkp.1
  have zkg8 := kg8.1
  replace hin := hin.kp kg8
  replace hkp := hkp.trans (kg8.mono hkp.1)
  replace hb1 := hb1.kp kg8
  replace x26 := x26.kp kg8
  replace x22 := x22.kp kg8
  clear kg8
  refine LF.step (OpOk.assign rfl) ?_
  refine LF.chg0 (OpCh.storeBA hb8 Try.sz61 rfl rfl rfl (allOne.mem (l := [v34c0, v34c1, .int .i64 (((ix m.Blocks k).End).Op), .int .i64 (((ix m.Blocks k).End).A), .int .i64 (((ix m.Blocks k).End).B), v34c5, .int .i32 (((ix m.Blocks k).End).Imm)]) ⟨(h34c0.one1), (h34c1.one1), rfl, rfl, rfl, (h34c5.one1), rfl, trivial⟩) (by decide)) ?_
  rintro _ Hw1 ⟨tw1, bw1⟩
  have ztw1 := tw1.1
  replace hin := hin.tw tw1 ng8
  replace hkp := Tw.kp' hkp tw1 (by omega)
  replace hb1 := hb1.tw tw1 (Bx.ne hb1 hb8 (by decide))
  replace x26 := x26.tw tw1 (x26.neBx hb8 (by decide))
  replace x22 := x22.tw tw1 hb8 (by decide) (by decide)
  replace hb8 : Bx _ _ _ [v34c0, v34c1, .int .i64 (((ix m.Blocks k).End).Op), .int .i64 (((ix m.Blocks k).End).A), .int .i64 (((ix m.Blocks k).End).B), v34c5, .int .i32 (((ix m.Blocks k).End).Imm)] := bw1
  clear bw1 tw1
  refine LF.nil (PF.next (CF.seq (CF.region ?_)))
  refine LF.step (OpOk.fieldAddr (Try.fld61_2) rfl) ?_
  refine LF.step (OpOk.fieldAddr (Try.fld55_3) rfl) ?_
  refine LF.step (OpOk.ldBx hb8 Try.one38 rfl rfl) ?_
  refine LF.step (OpOk.lenL Try.underlying38 h34c5 rfl) ?_
  refine LF.step (OpOk.move rfl) (LF.nil (PF.next (CF.block ?_)))
  refine CF.loop (ι := Nat × List Value × List (List Int)) (fun z9 H1 => z9.1 ≤ (ix m.Blocks k).End.To.length ∧ z9.2.2.length = m.Blocks.length ∧ (∀ b : Nat, b < m.Blocks.length → z9.2.2.getD b [] = predsJ m.Blocks k z9.1 b) ∧ InH F H1 ∧ Kp H.size H H1 ∧ Bx H1 g1 24 [.int .i64 m.Params, a0c1] ∧ Bx H1 g8 61 [v34c0, v34c1, .int .i64 (((ix m.Blocks k).End).Op), .int .i64 (((ix m.Blocks k).End).A), .int .i64 (((ix m.Blocks k).End).B), v34c5, .int .i32 (((ix m.Blocks k).End).Imm)] ∧ Gl rB 4 F H1 H.size (.slice (some ⟨g26, 0, none⟩) (List.length m.Blocks) (List.length m.Blocks)) (List.replicate (List.length m.Blocks) false) ∧ Mx (rI .i64) 3 38 F H1 H.size (.slice (some ⟨g22, 0, none⟩) (List.length m.Blocks) (List.length m.Blocks)) z9.2.1 z9.2.2) (fun z9 => [(1, .pointer (some ⟨g1, 0, none⟩)), (2, .int .i64 0), (3, .int .i64 0), (4, .int .i64 0), (5, .slice (some ⟨g22, 0, none⟩) (List.length m.Blocks) (List.length m.Blocks)), (6, .slice (some ⟨g26, 0, none⟩) (List.length m.Blocks) (List.length m.Blocks)), (7, .int .i64 (↑k)), (28, a0c1), (29, .int .i64 (↑(List.length m.Blocks))), (30, .int .i64 (↑k)), (37, v34c5), (38, .int .i64 (↑(List.length (((ix m.Blocks k).End).To)))), (39, .int .i64 (↑z9.1))]) (fun z9 => (ix m.Blocks k).End.To.length - z9.1) (0, vs, ls) ⟨by dsimp only; omega, hl, by dsimp only; intro b hb; rw [predsJ_zero]; exact hls b hb, hin, hkp, hb1, hb8, x26, x22⟩ ⟨rfl, rfl, rfl, rfl, rfl, rfl, rfl, rfl, rfl, rfl, rfl, rfl, eqI (by omega), trivial⟩ ?_
  clear hin hkp hb1 hb8 x26 x22
  rintro ⟨j, vs2, ls2⟩ H1 ⟨hj, hl2, hls2, hin, hkp, hb1, hb8, x26, x22⟩
  dsimp only at hj hl2 hls2 hb1 hb8 x26 x22 ⊢
  refine CF.seq (CF.region ?_)
  refine LF.step (OpOk.lss rfl rfl) ?_
  refine LF.nil (PF.next (CF.seq ?_))
  refine CF.if rfl (fun hc2 => ?_) (fun hc2 => ?_)
  have htj := hT _ (ix_mem (l := m.Blocks) (i := k) (by omega)) _ (ix_mem (l := (ix m.Blocks k).End.To) (i := j) (by omega))
  have hrl := row_len (by omega) hls2 (by omega) (show (ix (ix m.Blocks k).End.To j).toNat < m.Blocks.length by omega)
  refine CF.skip (PF.next (CF.seq (CF.block (CF.seq (CF.region ?_)))))
  refine LF.step (OpOk.idxL (i := j) Try.underlying38 Try.sz3 h34c5 rfl rfl rfl (by omega)) ?_
  refine LF.step (OpOk.ldI hin (rL.ix h34c5 j (by omega)) Try.one3 rfl) ?_
  refine LF.step (OpOk.assign rfl) (LF.nil (PF.next (CF.seq (CF.region (LF.step (OpOk.move rfl) (LF.step (OpOk.move rfl) ?_))))))
  refine LF.step (OpOk.idxMx (i := (Int.toNat (ix (((ix m.Blocks k).End).To) j))) Try.underlying116 Try.sz38 x22 rfl rfl (by omega) (by omega)) ?_
  refine LF.step (OpOk.ldMx x22 (by omega) Try.one38 rfl) ?_
  refine LF.step (OpOk.move rfl) ?_
  refine LF.call (OpCall.fn Try.ent88 rfl rfl) ((x22.row (Int.toNat (ix (((ix m.Blocks k).End).To) j)) (by omega)).temp 4294967296 hin (by first | (simp only [List.length_append, List.length_take, List.length_drop, List.length_nil, List.length_cons, List.length_set, List.length_replicate]; omega) | (simp; done) | (simp; omega) | omega) (fun G1 lg1 hin1 hr1 => has_ct hin1 hr1 ↑k)) ?_
  rintro _ _ ⟨rfl, rfl⟩
  refine LF.step (OpOk.not rfl) ?_
  refine LF.nil (PF.next ?_)
  refine CF.if rfl (fun hc3 => ?_) (fun hc3 => ?_)
  refine CF.region (LF.step (OpOk.move rfl) (LF.step (OpOk.move rfl) (LF.step (OpOk.move rfl) (LF.step (OpOk.move rfl) ?_))))
  refine LF.step (OpOk.idxMx (i := (Int.toNat (ix (((ix m.Blocks k).End).To) j))) Try.underlying116 Try.sz38 x22 rfl rfl (by omega) (by omega)) ?_
  refine LF.step (OpOk.ldMx x22 (by omega) Try.one38 rfl) ?_
  refine LF.step (OpOk.move rfl) ?_
  refine LF.appV (r := (rI .i64)) (a := ↑k) Try.underlying38 Try.info3 (by decide) rfl rfl rfl ⟨rfl, (IntWalk.i64_in ↑k (by omega))⟩ (x22.row (Int.toNat (ix (((ix m.Blocks k).End).To) j)) (by omega)) hin (by first | (simp only [List.length_append, List.length_take, List.length_drop, List.length_nil, List.length_cons, List.length_set, List.length_replicate]; omega) | (simp; done) | (simp; omega) | omega) rfl ?_ hkp.1
  intro v58 H58 x58 gb58 nn58 ob58
  replace hin := hin.grown gb58 (x22.row (Int.toNat (ix (((ix m.Blocks k).End).To) j)) (by omega)).no
  replace hkp := gb58.kp hkp (Nat.le_refl _) (fun k0 hk0 => ((x22.row (Int.toNat (ix (((ix m.Blocks k).End).To) j)) (by omega)).blk k0 hk0).1)
  replace hb1 := hb1.of (gb58.2 _ hb1.lt (Ne.symm (by first | exact (x22.row (Int.toNat (ix (((ix m.Blocks k).End).To) j)) (by omega)).neBx hb1 (by decide) | exact nqmxr_1)))
  replace hb8 := hb8.of (gb58.2 _ hb8.lt (Ne.symm (by first | exact (x22.row (Int.toNat (ix (((ix m.Blocks k).End).To) j)) (by omega)).neBx hb8 (by decide) | exact nqmxr_8)))
  replace x26 := x26.of (fun k0 hk0 => gb58.2 k0 (x26.blk k0 hk0).2 (fun e9 => Gl.neGl (x22.row (Int.toNat (ix (((ix m.Blocks k).End).To) j)) (by omega)) x26 (by decide) k0 e9.symm hk0))
  refine LF.step (OpOk.idxMx (i := (Int.toNat (ix (((ix m.Blocks k).End).To) j))) Try.underlying116 Try.sz38 x22 rfl rfl (by omega) (by omega)) ?_
  refine LF.chg0 (OpCh.storeMx x22 (by omega) (by decide) x58 gb58 ob58 Try.sz38 rfl rfl) ?_
  rintro _ Hw2 ⟨gw2, curw2, qw2, nFw2, gew2, hcw2, tw2, xw2⟩
  have ztw2 := tw2.1
  replace hin := hin.tw tw2 nFw2
  replace hkp := Tw.kp' hkp tw2 gew2
  replace hb1 := hb1.tw tw2 (hb1.neCells hcw2 (by decide))
  replace hb8 := hb8.tw tw2 (hb8.neCells hcw2 (by decide))
  replace x26 := x26.tw tw2 (x26.neCells hcw2 (by decide))
  refine LF.nil (PF.blockNormal (PF.next (CF.region ?_)))
  refine LF.step (OpOk.add rfl rfl (by omega)) ?_
  refine LF.step (OpOk.move rfl) (LF.nil ?_)
  exact PF.again (j + 1, (vs2.set (Int.toNat (ix (((ix m.Blocks k).End).To) j)) v58), (ls2.set (Int.toNat (ix (((ix m.Blocks k).End).To) j)) ((ls2.getD (Int.toNat (ix (((ix m.Blocks k).End).To) j)) []) ++ [((k : Nat) : Int)]))) ⟨by dsimp only; omega, by dsimp only; first | exact hl2 | (rw [List.length_set]; exact hl2), by dsimp only; first | exact stepOld (by omega) hls2 (by omega) hc3 | exact stepNew (by omega) hls2 (by omega) hl2 hc3, hin, hkp, hb1, hb8, x26, xw2⟩ ⟨rfl, rfl, rfl, rfl, rfl, rfl, rfl, rfl, rfl, rfl, rfl, rfl, eqI (by omega), trivial⟩ (by omega)
  refine CF.skip (PF.blockNormal (PF.next (CF.region ?_)))
  refine LF.step (OpOk.add rfl rfl (by omega)) ?_
  refine LF.step (OpOk.move rfl) (LF.nil ?_)
  exact PF.again (j + 1, vs2, ls2) ⟨by dsimp only; omega, by dsimp only; first | exact hl2 | (rw [List.length_set]; exact hl2), by dsimp only; first | exact stepOld (by omega) hls2 (by omega) hc3 | exact stepNew (by omega) hls2 (by omega) hl2 hc3, hin, hkp, hb1, hb8, x26, x22⟩ ⟨rfl, rfl, rfl, rfl, rfl, rfl, rfl, rfl, rfl, rfl, rfl, rfl, eqI (by omega), trivial⟩ (by omega)
  refine CF.exit (PF.thenExit (PF.thenExit (PF.blockHere (PF.blockNormal (PF.next (CF.region ?_))))))
  refine LF.step (OpOk.add rfl rfl (by omega)) ?_
  refine LF.step (OpOk.move rfl) (LF.nil ?_)
  exact PF.again (k + 1, vs2, ls2) ⟨by dsimp only; omega, by dsimp only; exact hl2, by dsimp only; intro b hb; rw [hls2 b hb, predsJ_end _ _ _ _ (by omega)], hin, hkp, hb1, x26, x22⟩ ⟨rfl, rfl, rfl, rfl, rfl, rfl, rfl, rfl, eqI (by omega), trivial⟩ (by omega)
  refine CF.exit (PF.thenExit (PF.thenExit (PF.blockHere (PF.next (CF.seq ?_)))))
  obtain ⟨Fz, hxz, lez, hinz, noz, hrz⟩ := x22.freeze (by decide) hin hx (Nat.le_refl _) (rows_len hl (by omega) hls hk)
  replace ng1 := (noz _ (x22.neBx hb1 (by decide)) (fun i hi => (x22.row i hi).neBx hb1 (by decide))).trans ng1
  replace x26 := x26.gext lez (fun k9 hk9 => noz k9 (x22.neG x26 (by decide) (by decide) k9 hk9).1 (x22.neG x26 (by decide) (by decide) k9 hk9).2)
  replace hin := hinz
  replace hx := hxz
  have le0 := lez
  refine CF.region (LF.step (OpOk.move rfl) ?_)
  refine LF.step (OpOk.idxG (i := 0) Try.underlying98 Try.sz4 x26 rfl rfl (by omega) (by first | omega | (simp only [List.length_replicate, List.length_set, List.length_append, List.length_cons, List.length_nil]; omega))) ?_
  refine LF.chg0 (OpCh.storeG x26 rfl Try.sz4 rfl rfl rfl (by first | omega | (simp only [List.length_replicate, List.length_set, List.length_append, List.length_cons, List.length_nil]; omega)) rfl) ?_
  rintro _ Hw3 ⟨gw3, qw3, tw3, xw3⟩
  have ztw3 := tw3.1
  replace hin := hin.tw tw3 (x26.no _ qw3)
  replace hkp := Tw.kp' hkp tw3 (x26.blk _ qw3).1
  replace hb1 := hb1.tw tw3 (ne_of_own qw3 (x26.neBx hb1 (by decide)))
  replace x26 := xw3
  refine LF.nil (PF.next (CF.seq (CF.seq (CF.region ?_))))
  refine LF.chg (OpCh.litL (F := Fz) (r := (rI .i64)) (l := [0]) (us := [.int .i64 0]) (cs := [[.int .i64 0]]) Try.underlying38 Try.info3 (by decide) rfl rfl rfl ⟨rfl, rfl, ⟨rfl, (by decide : IntKind.i64.wrap 0 = 0)⟩, trivial⟩) ?_
  rintro _ H64 ⟨g64, rfl, e64, s64, k64, x64⟩
  have l64 := hkp.1
  have ap26_64 := ap_new x26.lt (x64 hin).ge
  replace x64 := (x64 hin).base l64
  have zk64 := k64.1
  replace hin := hin.kp k64
  replace hkp := hkp.trans (k64.mono hkp.1)
  replace hb1 := hb1.kp k64
  replace x26 := x26.kp k64
  have ap64_26 := ap_sym ap26_64
  refine LF.step (OpOk.assign rfl) (LF.nil (PF.next (CF.block ?_)))
  have hw := x64.wn rfl (by simp)
  refine CF.loop (ι := Nat × List Bool × List Int × Value) (fun z9 H1 => reachedM m.Blocks = bfs m.Blocks z9.1 z9.2.1 z9.2.2.1 ∧ cntF z9.2.1 + z9.2.2.1.length ≤ z9.1 ∧ z9.1 ≤ m.Blocks.length ∧ z9.2.1.length = m.Blocks.length ∧ (∀ x ∈ z9.2.2.1, 0 ≤ x ∧ x < m.Blocks.length) ∧ InH Fz H1 ∧ Kp H.size H H1 ∧ Bx H1 g1 24 [.int .i64 m.Params, a0c1] ∧ Gl rB 4 Fz H1 H.size (.slice (some ⟨g26, 0, none⟩) (List.length m.Blocks) (List.length m.Blocks)) z9.2.1 ∧ Wn (rI .i64) 3 Fz H1 H.size z9.2.2.2 z9.2.2.1) (fun z9 => [(1, .pointer (some ⟨g1, 0, none⟩)), (2, .int .i64 0), (3, .int .i64 0), (4, .int .i64 0), (5, .slice (some ⟨g22, 0, none⟩) (List.length m.Blocks) (List.length m.Blocks)), (6, .slice (some ⟨g26, 0, none⟩) (List.length m.Blocks) (List.length m.Blocks)), (11, z9.2.2.2)]) (fun z9 => z9.1) (m.Blocks.length, List.set (List.replicate (List.length m.Blocks) false) 0 true, [0], .slice (some ⟨g64, 0, none⟩) 1 1) ⟨rfl, cnt_start hn, Nat.le_refl _, by simp, by simp; omega, hin, hkp, hb1, x26, hw⟩ ⟨rfl, rfl, rfl, rfl, rfl, rfl, rfl, trivial⟩ ?_
  clear hin hkp hb1 x26 hw
  rintro ⟨f, se, q, vq⟩ H1 ⟨hb, hcn, hfn, hse, hq, hin, hkp, hb1, x26, hw⟩
  dsimp only at hb hcn hfn hse hq hb1 x26 hw ⊢
  refine CF.seq (CF.seq (CF.region (LF.step (OpOk.move rfl) ?_)))
  refine LF.step (OpOk.lenW Try.underlying38 hw rfl) ?_
  refine LF.step (OpOk.gtr rfl rfl) ?_
  refine LF.nil (PF.next ?_)
  refine CF.if rfl (fun hc4 => ?_) (fun hc4 => ?_)
  have hq1 := hq _ (ix_mem (l := q) (i := 0) (by omega))
  refine CF.skip (PF.next (CF.seq (CF.block (CF.seq ?_))))
  refine CF.still Try.mixed (by kernel_rfl) ?_
  refine LS.step (OpOk.fieldAddr (Try.fld24_1) rfl) ?_
  refine LS.step (OpOk.ldBx hb1 Try.one22 rfl rfl) ?_
  refine LS.step (OpOk.move rfl) ?_
  refine LS.step (OpOk.idxW (i := 0) Try.underlying38 Try.sz3 hw rfl rfl (by omega) (by omega)) ?_
  refine LS.step (OpOk.ldWI hw (by omega) Try.one3 rfl) ?_
  refine LS.step (OpOk.idxL (i := (Int.toNat (ix q 0))) Try.underlying22 Try.sz61 (p0c1.up le0) rfl rfl (by omega) (by omega)) ?_
  refine LS.step (OpOk.fieldAddr (Try.fld61_2) rfl) ?_
  refine LS.step (OpOk.fieldAddr (Try.fld55_3) rfl) ?_
  refine LS.stepE (OpOk.ldV hin (rEnd.at_To (rMBlock.at_End (rL.ix (p0c1.up le0) (Int.toNat (ix q 0)) (by omega)))) Try.one38 rfl rfl) ?_
  intro v78 h78
  have h78q := rL.len2 h78
  refine LS.step (OpOk.lenL Try.underlying38 h78 rfl) ?_
  refine LS.step (OpOk.move rfl) ?_
  refine LS.done ?_
  refine PF.next (CF.block ?_)
  refine CF.loop (ι := Nat × List Bool × List Int × Value) (fun z9 H1 => z9.1 ≤ (ix m.Blocks (Int.toNat (ix q 0))).End.To.length ∧ bfsIn z9.2.1 z9.2.2.1 ((ix m.Blocks (Int.toNat (ix q 0))).End.To.drop z9.1) = bfsIn se q (ix m.Blocks (Int.toNat (ix q 0))).End.To ∧ cntF z9.2.1 + z9.2.2.1.length = cntF se + q.length ∧ z9.2.1.length = m.Blocks.length ∧ (∀ x ∈ z9.2.2.1, 0 ≤ x ∧ x < m.Blocks.length) ∧ 0 < z9.2.2.1.length ∧ InH Fz H1 ∧ Kp H.size H H1 ∧ Bx H1 g1 24 [.int .i64 m.Params, a0c1] ∧ Gl rB 4 Fz H1 H.size (.slice (some ⟨g26, 0, none⟩) (List.length m.Blocks) (List.length m.Blocks)) z9.2.1 ∧ Wn (rI .i64) 3 Fz H1 H.size z9.2.2.2 z9.2.2.1) (fun z9 => [(1, .pointer (some ⟨g1, 0, none⟩)), (2, .int .i64 0), (3, .int .i64 0), (4, .int .i64 0), (5, .slice (some ⟨g22, 0, none⟩) (List.length m.Blocks) (List.length m.Blocks)), (6, .slice (some ⟨g26, 0, none⟩) (List.length m.Blocks) (List.length m.Blocks)), (11, z9.2.2.2), (78, v78), (79, .int .i64 (↑(List.length (((ix m.Blocks (Int.toNat (ix q 0))).End).To)))), (80, .int .i64 (↑z9.1))]) (fun z9 => (ix m.Blocks (Int.toNat (ix q 0))).End.To.length - z9.1) (0, se, q, vq) ⟨by dsimp only; omega, rfl, rfl, hse, hq, by dsimp only; omega, hin, hkp, hb1, x26, hw⟩ ⟨rfl, rfl, rfl, rfl, rfl, rfl, rfl, rfl, rfl, eqI (by omega), trivial⟩ ?_
  clear hin hkp hb1 x26 hw
  rintro ⟨j, se2, q2, vq2⟩ H1 ⟨hj, hIn, hcn2, hse2, hq2, hq0, hin, hkp, hb1, x26, hw⟩
  dsimp only at hj hIn hcn2 hse2 hq2 hq0 hb1 x26 hw ⊢
  refine CF.seq (CF.region ?_)
  refine LF.step (OpOk.lss rfl rfl) ?_
  refine LF.nil (PF.next (CF.seq ?_))
  refine CF.if rfl (fun hc5 => ?_) (fun hc5 => ?_)
  have htq := hT _ (ix_mem (l := m.Blocks) (i := Int.toNat (ix q 0)) (by omega)) _ (ix_mem (l := (ix m.Blocks (Int.toNat (ix q 0))).End.To) (i := j) (by omega))
  refine CF.skip (PF.next (CF.seq (CF.block (CF.seq (CF.region ?_)))))
  refine LF.step (OpOk.idxL (i := j) Try.underlying38 Try.sz3 h78 rfl rfl rfl (by omega)) ?_
  refine LF.step (OpOk.ldI hin (rL.ix h78 j (by omega)) Try.one3 rfl) ?_
  refine LF.step (OpOk.assign rfl) (LF.nil (PF.next (CF.seq (CF.region (LF.step (OpOk.move rfl) (LF.step (OpOk.move rfl) ?_))))))
  refine LF.step (OpOk.idxG (i := (Int.toNat (ix (((ix m.Blocks (Int.toNat (ix q 0))).End).To) j))) Try.underlying98 Try.sz4 x26 rfl rfl (by omega) (by first | omega | (simp only [List.length_replicate, List.length_set, List.length_append, List.length_cons, List.length_nil]; omega))) ?_
  refine LF.step (OpOk.ldGB x26 (by first | omega | (simp only [List.length_replicate, List.length_set, List.length_append, List.length_cons, List.length_nil]; omega)) Try.one4 rfl) ?_
  refine LF.step (OpOk.not rfl) ?_
  refine LF.nil (PF.next ?_)
  refine CF.if rfl (fun hc6 => ?_) (fun hc6 => ?_)
  refine CF.seq (CF.region (LF.step (OpOk.move rfl) (LF.step (OpOk.move rfl) ?_)))
  refine LF.step (OpOk.idxG (i := (Int.toNat (ix (((ix m.Blocks (Int.toNat (ix q 0))).End).To) j))) Try.underlying98 Try.sz4 x26 rfl rfl (by omega) (by first | omega | (simp only [List.length_replicate, List.length_set, List.length_append, List.length_cons, List.length_nil]; omega))) ?_
  refine LF.chg0 (OpCh.storeG x26 rfl Try.sz4 rfl rfl rfl (by first | omega | (simp only [List.length_replicate, List.length_set, List.length_append, List.length_cons, List.length_nil]; omega)) rfl) ?_
  rintro _ Hw4 ⟨gw4, qw4, tw4, xw4⟩
  have ztw4 := tw4.1
  replace hin := hin.tw tw4 (x26.no _ qw4)
  replace hkp := Tw.kp' hkp tw4 (x26.blk _ qw4).1
  replace hb1 := hb1.tw tw4 (ne_of_own qw4 (x26.neBx hb1 (by decide)))
  replace hw := hw.tw tw4 (fun e9 => hw.neGl x26 (by decide) _ e9 qw4)
  replace x26 := xw4
  refine LF.nil (PF.next (CF.region (LF.step (OpOk.move rfl) (LF.step (OpOk.move rfl) ?_))))
  refine LF.chg (OpCh.litL (F := Fz) (r := (rI .i64)) (l := [ix (((ix m.Blocks (Int.toNat (ix q 0))).End).To) j]) (us := [.int .i64 (ix (((ix m.Blocks (Int.toNat (ix q 0))).End).To) j)]) (cs := [[.int .i64 (ix (((ix m.Blocks (Int.toNat (ix q 0))).End).To) j)]]) Try.underlying38 Try.info3 (by decide) rfl rfl rfl ⟨rfl, rfl, ⟨rfl, (At.wr (rL.ix h78 j (by omega)))⟩, trivial⟩) ?_
  rintro _ H94 ⟨g94, rfl, e94, s94, k94, x94⟩
  replace x94 := x94 hin
  have zk94 := k94.1
  replace hin := hin.kp k94
  replace hkp := hkp.trans (k94.mono hkp.1)
  replace hb1 := hb1.kp k94
  replace x26 := x26.kp k94
  replace hw := hw.kp k94
  obtain ⟨u94, hu94, hr94⟩ := x94.cell0 (i := 0) (by simp) rfl
  refine LF.chg (OpCh.appW (r := (rI .i64)) (a := ix (((ix m.Blocks (Int.toNat (ix q 0))).End).To) j) Try.underlying38 Try.info3 (by decide) rfl rfl rfl rfl hu94 hr94 hw hin (by first | (simp only [List.length_append, List.length_take, List.length_drop, List.length_nil, List.length_cons, List.length_set, List.length_replicate]; omega) | (simp; done) | (simp; omega) | omega) hkp.1) ?_
  rintro v95 H95 ⟨x95, gb95, ob95⟩
  replace hin := hin.grown gb95 hw.no
  replace hkp := gb95.kp hkp (Nat.le_refl _) hw.ge
  replace hb1 := hb1.of (gb95.2 _ hb1.lt (Ne.symm (hw.neBx hb1 (by decide))))
  replace x26 := x26.of (fun k0 hk0 => gb95.2 k0 (x26.blk k0 hk0).2 (fun e9 => hw.neGl x26 (by decide) k0 e9.symm hk0))
  refine LF.step (OpOk.assign rfl) (LF.nil (PF.blockNormal (PF.next (CF.region ?_))))
  refine LF.step (OpOk.add rfl rfl (by omega)) ?_
  refine LF.step (OpOk.move rfl) (LF.nil ?_)
  exact PF.again (j + 1, List.set se2 (Int.toNat (ix (((ix m.Blocks (Int.toNat (ix q 0))).End).To) j)) true, q2 ++ [ix (((ix m.Blocks (Int.toNat (ix q 0))).End).To) j], v95) ⟨by dsimp only; omega, by dsimp only; rw [← hIn, drop_ix (l := (ix m.Blocks (Int.toNat (ix q 0))).End.To) (i := j) (by omega)]; simp only [bfsIn]; rw [if_neg (by rw [hc6]; decide)], by dsimp only; have h9 := cntF_set (l := se2) (i := Int.toNat (ix (ix m.Blocks (Int.toNat (ix q 0))).End.To j)) (by omega) (by rw [hc6]; decide); rw [List.length_append]; simp; omega, by dsimp only; rw [List.length_set]; exact hse2, by dsimp only; intro x hx9; rcases List.mem_append.1 hx9 with h9 | h9; (· exact hq2 x h9); (simp at h9; subst h9; omega), by dsimp only; rw [List.length_append]; simp, hin, hkp, hb1, x26, x95⟩ ⟨rfl, rfl, rfl, rfl, rfl, rfl, rfl, rfl, rfl, eqI (by omega), trivial⟩ (by omega)
  refine CF.skip (PF.blockNormal (PF.next (CF.region ?_)))
  refine LF.step (OpOk.add rfl rfl (by omega)) ?_
  refine LF.step (OpOk.move rfl) (LF.nil ?_)
  exact PF.again (j + 1, se2, q2, vq2) ⟨by dsimp only; omega, by dsimp only; rw [← hIn, drop_ix (l := (ix m.Blocks (Int.toNat (ix q 0))).End.To) (i := j) (by omega)]; simp only [bfsIn]; rw [if_pos hc6], hcn2, hse2, hq2, hq0, hin, hkp, hb1, x26, hw⟩ ⟨rfl, rfl, rfl, rfl, rfl, rfl, rfl, rfl, rfl, eqI (by omega), trivial⟩ (by omega)
  refine CF.exit (PF.thenExit (PF.thenExit (PF.blockHere (PF.blockNormal (PF.next (CF.region (LF.step (OpOk.move rfl) ?_)))))))
  refine LF.stepE (OpOk.sliceW (lo := 1) Try.underlying38 Try.sz3 hw rfl rfl rfl (by omega)) ?_
  rintro v69 ⟨ob69, x69⟩
  refine LF.step (OpOk.assign rfl) (LF.nil ?_)
  exact PF.again (f - 1, se2, List.drop 1 q2, v69) ⟨by dsimp only; rw [hb, bfs_step (by omega) (by omega), ← hIn, List.drop_of_length_le (by omega)]; rfl, by dsimp only; rw [List.length_drop]; omega, by dsimp only; omega, hse2, by dsimp only; intro x hx9; exact hq2 x (List.mem_of_mem_drop hx9), hin, hkp, hb1, x26, x69⟩ ⟨rfl, rfl, rfl, rfl, rfl, rfl, rfl, trivial⟩ (by omega)
  have hq9 : q = [] := List.eq_nil_of_length_eq_zero (by omega)
  refine CF.exit (PF.thenExit (PF.thenExit (PF.blockHere (PF.next (CF.seq (CF.seq (CF.region (LF.step (OpOk.move rfl) ?_))))))))
  refine LF.call (OpCall.fn Try.ent89 rfl rfl) (x26.temp 4294967296 hin (by first | (simp only [List.length_append, List.length_take, List.length_drop, List.length_nil, List.length_cons, List.length_set, List.length_replicate]; omega) | (simp; done) | (simp; omega) | omega) (fun G1 lg1 hin1 hr1 => idxBool_ct hin1 hr1 false)) ?_
  rintro _ _ ⟨rfl, rfl⟩
  refine LF.step (OpOk.assign rfl) (LF.nil (PF.next (CF.seq (CF.region (LF.step (OpOk.move rfl) ?_)))))
  refine LF.step (OpOk.geq rfl rfl) ?_
  refine LF.nil (PF.next ?_)
  refine CF.if rfl (fun hc7 => ?_) (fun hc7 => ?_)
  refine CF.seq (CF.region (LF.step (OpOk.move rfl) (LF.step (OpOk.assign rfl) (LF.step (OpOk.assign rfl) (LF.step (OpOk.assign rfl) (LF.nil (PF.next (CF.ret (PF.thenRet ?_)))))))))
  have hm : graphM m = (15, idxBool se false, 0) := by
    first | exact graph_15 hb hq9 hc7 | exact graph_16 hb hq9 hc7 (by omega) (by omega) hG hno (bad_yes (by omega) hls hc10) | exact graph_0 hb hq9 hc7 (by omega) hG
  exact PF.ret3 rfl rfl rfl rfl ⟨by rw [hm] <;> rfl, hkp⟩
  rw [show k = m.Blocks.length by omega] at hls
  refine CF.skip (PF.next (CF.seq (CF.seq (CF.region ?_))))
  refine LF.step (OpOk.fieldAddr (Try.fld24_1) rfl) ?_
  refine LF.step (OpOk.ldBx hb1 Try.one22 rfl rfl) ?_
  refine LF.step (OpOk.lenL Try.underlying22 (p0c1.up le0) rfl) ?_
  refine LF.step (OpOk.move rfl) (LF.nil (PF.next (CF.block ?_)))
  refine CF.loop (ι := Nat) (fun k5 H1 => k5 ≤ m.Blocks.length ∧ graphPhis m.Blocks 0 m.Blocks = graphPhis m.Blocks k5 (m.Blocks.drop k5) ∧ InH Fz H1 ∧ Kp H.size H H1 ∧ Bx H1 g1 24 [.int .i64 m.Params, a0c1] ∧ Gl rB 4 Fz H1 H.size (.slice (some ⟨g26, 0, none⟩) (List.length m.Blocks) (List.length m.Blocks)) se ∧ Wn (rI .i64) 3 Fz H1 H.size vq q) (fun k5 => [(5, .slice (some ⟨g22, 0, none⟩) (List.length m.Blocks) (List.length m.Blocks)), (103, a0c1), (104, .int .i64 (↑(List.length m.Blocks))), (105, .int .i64 (↑k5))]) (fun k5 => m.Blocks.length - k5) 0 ⟨by omega, rfl, hin, hkp, hb1, x26, hw⟩ ⟨rfl, rfl, rfl, eqI (by omega), trivial⟩ ?_
  clear hin hkp hb1 x26 hw
  rintro k5 H1 ⟨hk5, hG, hin, hkp, hb1, x26, hw⟩
  refine CF.seq (CF.region ?_)
  refine LF.step (OpOk.lss rfl rfl) ?_
  refine LF.nil (PF.next (CF.seq ?_))
  refine CF.if rfl (fun hc8 => ?_) (fun hc8 => ?_)
  refine CF.skip (PF.next (CF.seq (CF.block (CF.seq (CF.region (LF.step (OpOk.move rfl) ?_))))))
  refine LF.step (OpOk.idxL (i := k5) Try.underlying22 Try.sz61 (p0c1.up le0) rfl rfl rfl (by omega)) ?_
  refine LF.stepE (OpOk.ldA hin (rL.ix (p0c1.up le0) k5 (by omega)) Try.agg61 Try.sz61 rfl) ?_
  intro v109 h109
  have h109k := rMBlock.any h109
  obtain ⟨v109c0, v109c1, v109c5, rfl, h109c0, h109c1, h109c5⟩ := rMBlock.open h109
  have h109c0q := rL.len2 h109c0
  have h109c1q := rL.len2 h109c1
  have h109c5q := rL.len2 h109c5
  refine LF.chg (OpCh.allocB Try.zero61 rfl) ?_
  rintro _ H16 ⟨g16, rfl, eg16, sg16, kg16, hb16⟩
  have ng16 := hin.nope (Nat.le_of_eq eg16.symm)
  have lg16 := hkp.1
  have zkg16 := kg16.1
  replace hin := hin.kp kg16
  replace hkp := hkp.trans (kg16.mono hkp.1)
  replace hb1 := hb1.kp kg16
  replace x26 := x26.kp kg16
  replace hw := hw.kp kg16
  clear kg16
  refine LF.step (OpOk.assign rfl) ?_
  refine LF.chg0 (OpCh.storeBA hb16 Try.sz61 rfl rfl rfl (allOne.mem (l := [v109c0, v109c1, .int .i64 (((ix m.Blocks k5).End).Op), .int .i64 (((ix m.Blocks k5).End).A), .int .i64 (((ix m.Blocks k5).End).B), v109c5, .int .i32 (((ix m.Blocks k5).End).Imm)]) ⟨(h109c0.one1), (h109c1.one1), rfl, rfl, rfl, (h109c5.one1), rfl, trivial⟩) (by decide)) ?_
  rintro _ Hw5 ⟨tw5, bw5⟩
  have ztw5 := tw5.1
  replace hin := hin.tw tw5 ng16
  replace hkp := Tw.kp' hkp tw5 (by omega)
  replace hb1 := hb1.tw tw5 (Bx.ne hb1 hb16 (by decide))
  replace x26 := x26.tw tw5 (x26.neBx hb16 (by decide))
  replace hw := hw.tw tw5 (hw.neBx hb16 (by decide))
  replace hb16 : Bx _ _ _ [v109c0, v109c1, .int .i64 (((ix m.Blocks k5).End).Op), .int .i64 (((ix m.Blocks k5).End).A), .int .i64 (((ix m.Blocks k5).End).B), v109c5, .int .i32 (((ix m.Blocks k5).End).Imm)] := bw5
  clear bw5 tw5
  refine LF.nil (PF.next (CF.seq (CF.region ?_)))
  refine LF.step (OpOk.fieldAddr (Try.fld61_0) rfl) ?_
  refine LF.step (OpOk.ldBx hb16 Try.one58 rfl rfl) ?_
  refine LF.step (OpOk.lenL Try.underlying58 h109c0 rfl) ?_
  refine LF.step (OpOk.move rfl) (LF.nil (PF.next (CF.block ?_)))
  refine CF.loop (ι := Nat) (fun i6 H1 => i6 ≤ (ix m.Blocks k5).Phis.length ∧ (∀ p ∈ (ix m.Blocks k5).Phis.take i6, badPhi m.Blocks k5 p = false) ∧ InH Fz H1 ∧ Kp H.size H H1 ∧ Bx H1 g1 24 [.int .i64 m.Params, a0c1] ∧ Bx H1 g16 61 [v109c0, v109c1, .int .i64 (((ix m.Blocks k5).End).Op), .int .i64 (((ix m.Blocks k5).End).A), .int .i64 (((ix m.Blocks k5).End).B), v109c5, .int .i32 (((ix m.Blocks k5).End).Imm)] ∧ Gl rB 4 Fz H1 H.size (.slice (some ⟨g26, 0, none⟩) (List.length m.Blocks) (List.length m.Blocks)) se ∧ Wn (rI .i64) 3 Fz H1 H.size vq q) (fun i6 => [(5, .slice (some ⟨g22, 0, none⟩) (List.length m.Blocks) (List.length m.Blocks)), (15, .int .i64 (↑k5)), (103, a0c1), (104, .int .i64 (↑(List.length m.Blocks))), (105, .int .i64 (↑k5)), (111, v109c0), (112, .int .i64 (↑(List.length ((ix m.Blocks k5).Phis)))), (113, .int .i64 (↑i6))]) (fun i6 => (ix m.Blocks k5).Phis.length - i6) 0 ⟨by omega, by simp, hin, hkp, hb1, hb16, x26, hw⟩ ⟨rfl, rfl, rfl, rfl, rfl, rfl, rfl, eqI (by omega), trivial⟩ ?_
  clear hin hkp hb1 hb16 x26 hw
  rintro i6 H1 ⟨hi6, hno, hin, hkp, hb1, hb16, x26, hw⟩
  refine CF.seq (CF.region ?_)
  refine LF.step (OpOk.lss rfl rfl) ?_
  refine LF.nil (PF.next (CF.seq ?_))
  refine CF.if rfl (fun hc9 => ?_) (fun hc9 => ?_)
  refine CF.skip (PF.next (CF.seq (CF.block (CF.seq (CF.region (LF.step (OpOk.move rfl) ?_))))))
  refine LF.step (OpOk.idxL (i := i6) Try.underlying58 Try.sz70 h109c0 rfl rfl rfl (by omega)) ?_
  refine LF.stepE (OpOk.ldA hin (rL.ix h109c0 i6 (by omega)) Try.agg70 Try.sz70 rfl) ?_
  intro v117 h117
  have h117k := rPhi.any h117
  obtain ⟨v117c1, rfl, h117c1⟩ := rPhi.open h117
  have h117c1q := rL.len2 h117c1
  refine LF.chg (OpCh.allocB Try.zero70 rfl) ?_
  rintro _ H18 ⟨g18, rfl, eg18, sg18, kg18, hb18⟩
  have ng18 := hin.nope (Nat.le_of_eq eg18.symm)
  have lg18 := hkp.1
  have zkg18 := kg18.1
  replace hin := hin.kp kg18
  replace hkp := hkp.trans (kg18.mono hkp.1)
  replace hb1 := hb1.kp kg18
  replace hb16 := hb16.kp kg18
  replace x26 := x26.kp kg18
  replace hw := hw.kp kg18
  clear kg18
  refine LF.step (OpOk.assign rfl) ?_
  refine LF.chg0 (OpCh.storeBA hb18 Try.sz70 rfl rfl rfl (allOne.mem (l := [.int .i64 ((ix ((ix m.Blocks k5).Phis) i6).Dst), v117c1]) ⟨rfl, (h117c1.one1), trivial⟩) (by decide)) ?_
  rintro _ Hw6 ⟨tw6, bw6⟩
  have ztw6 := tw6.1
  replace hin := hin.tw tw6 ng18
  replace hkp := Tw.kp' hkp tw6 (by omega)
  replace hb1 := hb1.tw tw6 (Bx.ne hb1 hb18 (by decide))
  replace hb16 := hb16.tw tw6 (Bx.ne hb16 hb18 (by decide))
  replace x26 := x26.tw tw6 (x26.neBx hb18 (by decide))
  replace hw := hw.tw tw6 (hw.neBx hb18 (by decide))
  replace hb18 : Bx _ _ _ [.int .i64 ((ix ((ix m.Blocks k5).Phis) i6).Dst), v117c1] := bw6
  clear bw6 tw6
  refine LF.nil (PF.next (CF.seq ?_))
  refine CF.any (fun H' => InH Fz H' ∧ Bx H' g1 24 [.int .i64 m.Params, a0c1] ∧ Bx H' g16 61 [v109c0, v109c1, .int .i64 (((ix m.Blocks k5).End).Op), .int .i64 (((ix m.Blocks k5).End).A), .int .i64 (((ix m.Blocks k5).End).B), v109c5, .int .i32 (((ix m.Blocks k5).End).Imm)] ∧ Bx H' g18 70 [.int .i64 ((ix ((ix m.Blocks k5).Phis) i6).Dst), v117c1] ∧ True) Try.mixed ?_
  refine AF.take 0 rfl (by kernel_rfl) (by kernel_rfl) (by kernel_rfl) ⟨hin, hb1, hb16, hb18, trivial⟩ (fun _ ⟨hin, hb1, hb16, hb18, _⟩ => OpOk.move rfl) ?_
  refine AF.take 1 rfl (by kernel_rfl) (by kernel_rfl) (by kernel_rfl) ⟨hin, hb1, hb16, hb18, trivial⟩ (fun _ ⟨hin, hb1, hb16, hb18, _⟩ => OpOk.eql rfl rfl) ?_
  refine AF.take 2 rfl (by kernel_rfl) (by kernel_rfl) (by kernel_rfl) ⟨hin, hb1, hb16, hb18, trivial⟩ (fun _ ⟨hin, hb1, hb16, hb18, _⟩ => OpOk.move rfl) ?_
  refine AF.gtake 3 rfl (by kernel_rfl) (by kernel_rfl) (by kernel_rfl) ⟨hin, hb1, hb16, hb18, trivial⟩ rfl rfl (.f _) (fun hg _ ⟨hin, hb1, hb16, hb18, _⟩ => OpOk.fieldAddr (Try.fld70_1) rfl) ?_
  refine AF.gtake 4 rfl (by kernel_rfl) (by kernel_rfl) (by kernel_rfl) ⟨hin, hb1, hb16, hb18, trivial⟩ rfl rfl (.f _) (fun hg _ ⟨hin, hb1, hb16, hb18, _⟩ => OpOk.ldBx hb18 Try.one68 (evg rfl hg) rfl) ?_
  refine AF.gtake 5 rfl (by kernel_rfl) (by kernel_rfl) (by kernel_rfl) ⟨hin, hb1, hb16, hb18, trivial⟩ rfl rfl (.f _) (fun hg _ ⟨hin, hb1, hb16, hb18, _⟩ => OpOk.move rfl) ?_
  refine AF.gtake 6 rfl (by kernel_rfl) (by kernel_rfl) (by kernel_rfl) ⟨hin, hb1, hb16, hb18, trivial⟩ rfl rfl (.f _) (fun hg _ ⟨hin, hb1, hb16, hb18, _⟩ => OpOk.move rfl) ?_
  refine AF.gtake 7 rfl (by kernel_rfl) (by kernel_rfl) (by kernel_rfl) ⟨hin, hb1, hb16, hb18, trivial⟩ rfl rfl (.f _) (fun hg _ ⟨hin, hb1, hb16, hb18, _⟩ => OpOk.idxL (i := k5) Try.underlying116 Try.sz38 hrz (evg rfl hg) (evg rfl hg) rfl (by omega)) ?_
  refine AF.gtakeE 8 rfl (by kernel_rfl) (by kernel_rfl) (by kernel_rfl) ⟨hin, hb1, hb16, hb18, trivial⟩ rfl rfl (.f _) (fun hg => OpOk.ldVS (rL.ix hrz k5 (by omega)) Try.one38 rfl (evg rfl hg) (fun _ h => h.1)) ?_
  intro v126 h126
  refine AF.gcallR 9 rfl (by kernel_rfl) rfl rfl (.f _) (fun hg => OpCall.fn Try.ent90 rfl (evl3 (evg rfl hg) (evg rfl hg) rfl)) (fun hg => eqf_ct hin h117c1 (h126 hg)) (fun _ _ h => h.1) (by rintro _ _ ⟨_, k⟩; exact ⟨(hin.kp k), (hb1.kp k), (hb16.kp k), (hb18.kp k), trivial⟩) ⟨hin, hb1, hb16, hb18, trivial⟩ ?_
  intro Hq7 zq7
  have kq7 := gkp2 zq7
  have zkq7 := kq7.1
  replace hin := hin.kp kq7
  replace hkp := hkp.trans (kq7.mono hkp.1)
  replace hb1 := hb1.kp kq7
  replace hb16 := hb16.kp kq7
  replace hb18 := hb18.kp kq7
  replace x26 := x26.kp kq7
  replace hw := hw.kp kq7
  clear zq7
  refine AF.gtake 10 rfl (by kernel_rfl) (by kernel_rfl) (by kernel_rfl) ⟨hin, hb1, hb16, hb18, trivial⟩ rfl rfl (.f _) (fun hg _ ⟨hin, hb1, hb16, hb18, _⟩ => OpOk.not (evg rfl hg)) ?_
  refine AF.take 11 rfl (by kernel_rfl) (by kernel_rfl) (by kernel_rfl) ⟨hin, hb1, hb16, hb18, trivial⟩ (fun _ ⟨hin, hb1, hb16, hb18, _⟩ => OpOk.pickOr rfl rfl) ?_
  refine AF.done (by kernel_rfl) ?_
  refine PF.next ?_
  refine CF.if rfl (fun hc10 => ?_) (fun hc10 => ?_)
  refine CF.seq (CF.region (LF.step (OpOk.move rfl) (LF.step (OpOk.move rfl) ?_)))
  refine LF.step (OpOk.sub rfl rfl (by omega)) ?_
  refine LF.step (OpOk.assign rfl) (LF.step (OpOk.assign rfl) (LF.step (OpOk.assign rfl) (LF.nil (PF.next (CF.ret (PF.blockRet (PF.thenRet (PF.thenRet (PF.blockRet (PF.blockRet (PF.thenRet ?_)))))))))))
  refine PF.thenRet (PF.blockRet (PF.thenRet ?_))
  have hm : graphM m = (16, ((k5 : Nat) : Int), (-1) - ((i6 : Nat) : Int)) := by
    first | exact graph_15 hb hq9 hc7 | exact graph_16 hb hq9 hc7 (by omega) (by omega) hG hno (bad_yes (by omega) hls hc10) | exact graph_0 hb hq9 hc7 (by omega) hG
  exact PF.ret3 rfl rfl rfl rfl ⟨by rw [hm] <;> rfl, hkp⟩
  refine CF.skip (PF.blockNormal (PF.next (CF.region ?_)))
  refine LF.step (OpOk.add rfl rfl (by omega)) ?_
  refine LF.step (OpOk.move rfl) (LF.nil ?_)
  exact PF.again (i6 + 1) ⟨by omega, no_snoc (by omega) hno (bad_no (by omega) hls hc10), hin, hkp, hb1, hb16, x26, hw⟩ ⟨rfl, rfl, rfl, rfl, rfl, rfl, rfl, eqI (by omega), trivial⟩ (by omega)
  refine CF.exit (PF.thenExit (PF.thenExit (PF.blockHere (PF.blockNormal (PF.next (CF.region ?_))))))
  refine LF.step (OpOk.add rfl rfl (by omega)) ?_
  refine LF.step (OpOk.move rfl) (LF.nil ?_)
  exact PF.again (k5 + 1) ⟨by omega, phis_good (by omega) (by omega) hG hno, hin, hkp, hb1, x26, hw⟩ ⟨rfl, rfl, rfl, eqI (by omega), trivial⟩ (by omega)
  refine CF.exit (PF.thenExit (PF.thenExit (PF.blockHere (PF.next (CF.seq (CF.region (LF.step (OpOk.assign rfl) (LF.step (OpOk.assign rfl) (LF.step (OpOk.assign rfl) (LF.nil (PF.next ?_)))))))))))
  refine CF.ret ?_
  have hm : graphM m = (0, 0, 0) := by
    first | exact graph_15 hb hq9 hc7 | exact graph_16 hb hq9 hc7 (by omega) (by omega) hG hno (bad_yes (by omega) hls hc10) | exact graph_0 hb hq9 hc7 (by omega) hG
  exact PF.ret3 rfl rfl rfl rfl ⟨by rw [hm] <;> rfl, hkp⟩

end Go.Proofs.Ytehibklogdngbaa
