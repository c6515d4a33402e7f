/- Walks. Conditions: each contract names its own. -/
import Derived.Test.YtehibklogdngbaaWN
namespace Go.Proofs.Ytehibklogdngbaa
set_option linter.unusedVariables false
set_option linter.unusedSimpArgs false
set_option linter.unusedSectionVars false
open Go.JE

theorem Try.ent33 : Ent Try.prog 33 := ⟨_, Try.func33, by kernel_rfl, by kernel_rfl⟩
theorem Try.ent34 : Ent Try.prog 34 := ⟨_, Try.func34, by kernel_rfl, by kernel_rfl⟩
theorem Try.ent35 : Ent Try.prog 35 := ⟨_, Try.func35, by kernel_rfl, by kernel_rfl⟩
theorem Try.ent37 : Ent Try.prog 37 := ⟨_, Try.func37, by kernel_rfl, by kernel_rfl⟩
/- ---------------------------------------------- the document's answer: how code runs -/
def lastV (from' : Int) (rs : List Int) : Int → List D.In → Int
  | v, [] => v
  | v, x :: l => lastV from' rs (if x.From = from' then ix rs (Int.toNat x.Val) else v) l
theorem lastV_snoc (from' : Int) (rs : List Int) : ∀ (l : List D.In) (v : Int) (x : D.In), lastV from' rs v (l ++ [x]) = if x.From = from' then ix rs (Int.toNat x.Val) else lastV from' rs v l
  | [], _, _ => rfl
  | y :: l, v, x => by rw [List.cons_append, lastV, lastV_snoc from' rs l]; rfl
theorem lastV_none (from' : Int) (rs : List Int) : ∀ (l : List D.In) (v : Int), (∀ x ∈ l, x.From ≠ from') → lastV from' rs v l = v
  | [], _, _ => rfl
  | y :: l, v, h => by rw [lastV, if_neg (h y (by simp)), lastV_none from' rs l v (fun x hx => h x (by simp [hx]))]
theorem lastV_idx (from' : Int) (rs : List Int) : ∀ (l : List D.In) (v : Int), (l.map (·.From)).Nodup → 0 ≤ idxM l (isFrom from') → lastV from' rs v l = ix rs (Int.toNat (ix l (Int.toNat (idxM l (isFrom from')))).Val)
  | [], _, _, h => absurd h (by show ¬ (0 : Int) ≤ -1; decide)
  | x :: l, v, hn, h => by
    rw [List.map_cons, List.nodup_cons] at hn
    rw [lastV]
    by_cases h1 : x.From = from'
    · have e1 : idxM (x :: l) (isFrom from') = 0 := by unfold idxM; rw [List.findIdx?_cons, if_pos (by simp [isFrom, h1])]; rfl
      rw [if_pos h1, e1, lastV_none]
      · rfl
      · intro y hy e2; exact hn.1 (by rw [h1, ← e2]; exact List.mem_map.2 ⟨y, hy, rfl⟩)
    · have e1 : ∃ i : Nat, l.findIdx? (isFrom from') = some i := by
        unfold idxM at h
        rw [List.findIdx?_cons, if_neg (by simp [isFrom, h1])] at h
        cases h2 : l.findIdx? (isFrom from') with
        | none => rw [h2] at h; exact absurd h (by decide)
        | some i => exact ⟨i, rfl⟩
      obtain ⟨i, e1⟩ := e1
      have e2 : idxM l (isFrom from') = i := by unfold idxM; rw [e1]
      have e3 : idxM (x :: l) (isFrom from') = i + 1 := by unfold idxM; rw [List.findIdx?_cons, if_neg (by simp [isFrom, h1]), e1]; rfl
      rw [if_neg h1, lastV_idx from' rs l v hn.2 (by omega), e2, e3]
      rw [show Int.toNat ((i : Int) + 1) = i + 1 by omega, ix_cons]; rfl
theorem predsT_nodup (bs : List D.MBlock) (k : Nat) (b : Int) : (predsT bs k b).Nodup := by
  unfold predsT
  exact List.Pairwise.map _ (fun a b hab h => hab (Int.ofNat_inj.1 h)) (List.Pairwise.filter _ List.nodup_range)
theorem WFm.nodup {m : D.MFunc} (hw : WFm m) {k : Nat} (hk : k < m.Blocks.length) : ∀ p ∈ (ix m.Blocks k).Phis, (p.In.map (·.From)).Nodup := by
  intro p hp
  obtain ⟨_, h3, _⟩ := hw.phi k hk p hp
  rw [h3]; exact predsT_nodup _ _ _
theorem start_set {A Z : List Int} {k : Nat} (h1 : k < A.length) (h2 : k < Z.length) : List.set (A.take k ++ Z.drop k) k (ix A k) = A.take (k + 1) ++ Z.drop (k + 1) := by
  have e : (A.take k).length = k := by simp; omega
  rw [List.set_append_right _ _ (by omega), e, Nat.sub_self, drop_ix h2, List.set_cons_zero, take_ix h1, List.append_assoc]; rfl
theorem start_done {m : D.MFunc} {i : D.Input} {k : Nat} {rs : List Int} (h : rs = i.Args.take k ++ (List.replicate 8192 0).drop k) (h1 : (k : Int) ≤ m.Params ∧ k ≤ i.Args.length) (h2 : ¬ (k : Int) < m.Params ∨ ¬ (k : Int) < (i.Args.length : Int)) : rs = startR m i := by
  have : k = min (Int.toNat m.Params) i.Args.length := by omega
  rw [h, this]; rfl
section
variable {N : Int} {K : List Int → List Int → List D.Event → List Int → Int → D.Outcome} {O : D.Outcome} {I : List D.Mach} {k j na : Nat} {rs me A ea : List Int} {cl : List D.Event} {s : Int}
theorem rins_callA (hI : O = insRun N K (I.drop k) rs me cl (A.drop na) s) (hk : k < I.length) (h : ¬ N ≤ s) (h2 : (ix I k).Op = 28) (hj : (ix I k).Args.length ≤ j) (hea : ea = ((ix I k).Args.take j).map (fun r => ix rs (Int.toNat r))) (h3 : ¬ (na : Int) < (A.length : Int)) :
    O = insRun N K (I.drop (k + 1)) (List.set rs (Int.toNat (ix I k).D) 0) me (cl ++ [⟨(ix I k).Imm, ea⟩]) (A.drop (na + 1)) (s + 1) := by
  have e1 : A.drop na = [] := List.drop_of_length_le (by omega)
  have e2 : A.drop (na + 1) = [] := List.drop_of_length_le (by omega)
  rw [e2]
  refine ins_callA (an := []) (j := j) ?_ hk h h2 hj hea (by simp)
  rw [e1] at hI; exact hI
theorem rins_callB (hI : O = insRun N K (I.drop k) rs me cl (A.drop na) s) (hk : k < I.length) (h : ¬ N ≤ s) (h2 : (ix I k).Op = 28) (hj : (ix I k).Args.length ≤ j) (hea : ea = ((ix I k).Args.take j).map (fun r => ix rs (Int.toNat r))) (h3 : (na : Int) < (A.length : Int)) :
    O = insRun N K (I.drop (k + 1)) (List.set (List.set rs (Int.toNat (ix I k).D) 0) (Int.toNat (ix I k).D) (ix A na)) me (cl ++ [⟨(ix I k).Imm, ea⟩]) (A.drop (na + 1)) (s + 1) := by
  have := ins_callB (an := A.drop na) (j := j) hI hk h h2 hj hea
  rw [drop_ix (l := A) (i := na) (by omega)] at this
  rw [this]; rfl
end
theorem rins_stop {N : Int} {go : Int → List Int → List Int → List D.Event → List Int → Int → D.Outcome} {O : D.Outcome} {I : List D.Mach} {k : Nat} {rs me an : List Int} {cl : List D.Event} {s : Int} {e : D.End} (hI : O = insRun N (endRun N e go) (I.drop k) rs me cl an s) (h : N ≤ s) : O = ⟨3, 0, me, cl, s⟩ := by
  rcases Nat.lt_or_ge k I.length with hk | hk
  · exact ins_stop hI hk h
  · exact end_stop hI hk h
theorem phi_val {from' : Int} {rs : List Int} {p : D.Phi} {q : Nat} {v : Int} (hv : v = lastV from' rs 0 (p.In.take q)) (hq : p.In.length ≤ q) (hn : (p.In.map (·.From)).Nodup) (h0 : 0 ≤ idxM p.In (isFrom from')) : v = phiVal from' rs p := by
  rw [hv, List.take_of_length_le hq, lastV_idx _ _ _ _ hn h0]; rfl
/- ---------------------------------------------- outcomes -/
def sameO (a b : D.Outcome) : Bool := decide (a.End = b.End ∧ a.Val = b.Val ∧ a.Mem = b.Mem ∧ a.Calls = b.Calls)
def alikeO (a b : D.Outcome) : Bool := sameO a b && decide (a.Steps = b.Steps)
theorem alike_refl (a : D.Outcome) : alikeO a a = true := by simp [alikeO, sameO]
section
variable {a b : D.Outcome}
theorem same_no (h : ((¬ a.End = b.End ∨ ¬ a.Val = b.Val) ∨ rowsM a.Mem b.Mem = false) ∨ ¬ (a.Calls.length : Int) = (b.Calls.length : Int)) : sameO a b = false := by
  unfold sameO
  rw [decide_eq_false_iff_not]
  rintro ⟨h1, h2, h3, h4⟩
  rcases h with ((h | h) | h) | h
  · exact h h1
  · exact h h2
  · rw [h3] at h; simp [rowsM] at h
  · rw [h4] at h; exact h rfl
theorem same_head (h : (((a.End = b.End) ∧ a.Val = b.Val) ∧ rowsM a.Mem b.Mem = true) ∧ (a.Calls.length : Int) = (b.Calls.length : Int)) : a.End = b.End ∧ a.Val = b.Val ∧ a.Mem = b.Mem ∧ a.Calls.length = b.Calls.length := by
  refine ⟨h.1.1.1, h.1.1.2, ?_, by omega⟩
  have := h.1.2
  unfold rowsM at this; simpa using this
theorem same_ev {k : Nat} (hk : k < a.Calls.length) (hl : a.Calls.length = b.Calls.length) (h : ¬ (ix a.Calls k).Callee = (ix b.Calls k).Callee ∨ rowsM (ix a.Calls k).Args (ix b.Calls k).Args = false) : sameO a b = false := by
  unfold sameO
  rw [decide_eq_false_iff_not]
  rintro ⟨h1, h2, h3, h4⟩
  rw [h4] at h
  rcases h with h | h
  · exact h rfl
  · simp [rowsM] at h
theorem same_next {k : Nat} (hk : k < a.Calls.length) (hl : a.Calls.length = b.Calls.length) (hT : a.Calls.take k = b.Calls.take k) (h : (ix a.Calls k).Callee = (ix b.Calls k).Callee ∧ rowsM (ix a.Calls k).Args (ix b.Calls k).Args = true) : a.Calls.take (k + 1) = b.Calls.take (k + 1) := by
  rw [take_ix hk, take_ix (by omega), hT]
  congr 1
  have e : ix a.Calls k = ix b.Calls k := by
    obtain ⟨h1, h2⟩ := h
    unfold rowsM at h2
    rw [decide_eq_true_eq] at h2
    generalize ix a.Calls k = x at *
    generalize ix b.Calls k = y at *
    cases x; cases y; simp_all
  rw [e]
theorem same_yes {k : Nat} (h : a.End = b.End ∧ a.Val = b.Val ∧ a.Mem = b.Mem ∧ a.Calls.length = b.Calls.length) (hk : a.Calls.length ≤ k) (hT : a.Calls.take k = b.Calls.take k) : sameO a b = true := by
  rw [List.take_of_length_le hk, List.take_of_length_le (by omega)] at hT
  unfold sameO; rw [decide_eq_true_eq]; exact ⟨h.1, h.2.1, h.2.2.1, hT⟩
end
/- ---------------------------------------------- raw code -/
def rawE (e : D.End) : D.End := ⟨e.Op, e.A, e.B, e.To.take 8, e.Imm⟩
def rawP (p : D.Phi) : D.Phi := ⟨p.Dst, p.In.take 8⟩
def rawB (x : D.MBlock) : D.MBlock := ⟨(x.Phis.take 4).map rawP, (x.Ins.take 8).map fewM, rawE x.End⟩
def rawM (m : D.MFunc) : D.MFunc := ⟨m.Params, (m.Blocks.take 5).map rawB⟩
theorem take_full {α : Type} {l : List α} {k n : Nat} {q : Int} (h : ¬ (k : Int) < (l.length : Int) ∨ ¬ (k : Int) < q) (h2 : k ≤ l.length ∧ k ≤ n) (hq : q = n := by rfl) : l.take k = l.take n := by
  rcases Nat.lt_or_ge k n with h3 | h3
  · rw [List.take_of_length_le (by omega), List.take_of_length_le (by omega)]
  · rw [show k = n by omega]
theorem ins_end4 {N : Int} {K : List Int → List Int → List D.Event → List Int → Int → D.Outcome} (hK : ∀ rs me cl an s, (K rs me cl an s).End ≠ 4) : ∀ (l : List D.Mach) (rs me : List Int) (cl : List D.Event) (an : List Int) (s : Int), (insRun N K l rs me cl an s).End ≠ 4
  | [], rs, me, cl, an, s => hK rs me cl an s
  | i :: l, rs, me, cl, an, s => by
    rw [insRun]
    split
    · show (3 : Int) ≠ 4; decide
    split
    · exact ins_end4 hK l _ _ _ _ _
    split
    · show (2 : Int) ≠ 4; decide
    · exact ins_end4 hK l _ _ _ _ _
theorem block_end4 (bs : List D.MBlock) (N : Int) : ∀ (f : Nat) (at' from' : Int) (rs me : List Int) (cl : List D.Event) (an : List Int) (s : Int), (blockRun bs N f at' from' rs me cl an s).End ≠ 4
  | 0, _, _, _, _, _, _, _ => by show (3 : Int) ≠ 4; decide
  | f + 1, at', from', rs, me, cl, an, s => by
    rw [blockRun]
    refine ins_end4 (fun rs me cl an s => ?_) _ _ _ _ _ _
    rw [endRun]
    split
    · show (3 : Int) ≠ 4; decide
    split
    · show (1 : Int) ≠ 4; decide
    split
    · show (2 : Int) ≠ 4; decide
    · exact block_end4 bs N f _ _ _ _ _ _ _
theorem run_end4 (m : D.MFunc) (i : D.Input) : decide ((runM m i).End = 4) = !rightM m := by
  cases h : rightM m with
  | true => rw [run_right h, decide_eq_false (block_end4 _ _ _ _ _ _ _ _ _ _)]; rfl
  | false => rw [run_wrong h]; rfl

theorem phis_fin {l : List D.Phi} {from' : Int} {rs rs2 vs : List Int} {p p2 : Nat} (hS : setP rs l vs = setP rs2 (l.drop p2) (vs.drop p2)) (hvs : vs = (l.take p).map (phiVal from' rs)) (hp : l.length ≤ p) (hp2 : l.length ≤ p2) : phisM l from' rs = rs2 := by
  rw [List.take_of_length_le hp] at hvs
  unfold phisM; rw [← hvs, hS, List.drop_of_length_le hp2, setP_end]

-- jacquard/jacquardref07.Run: function 14
set_option maxRecDepth 8000 in
set_option maxHeartbeats 4000000 in
theorem rRun_ct {F : PH} {H : Heap} (hin : InH F H) {a0 : Value} {m : D.MFunc} (p0 : rMFunc.ra F a0 m) {a1 : Value} {i : D.Input} (p1 : rInput.ra F a1 i) (hstp : i.Steps ≤ 1000000) :
    Ct Try.prog 14 #[a0, a1] H (fun v H' => ∃ F', PH.ext H F F' ∧ InH F' H' ∧ Kp H.size H H' ∧ rOutcome.ra F' v (runM m i)) := by
  have p0k := rMFunc.any p0
  obtain ⟨a0c1, rfl, p0c1⟩ := rMFunc.open p0
  have p0c1q := rL.len2 p0c1
  have p1k := rInput.any p1
  obtain ⟨a1c0, a1c1, a1c2, rfl, p1c0, p1c1, p1c2⟩ := rInput.open p1
  have p1c0q := rL.len2 p1c0
  have p1c1q := rL.len2 p1c1
  have p1c2q := rL.len2 p1c2
  have hkp := Kp.refl H.size H
  have hx := PH.ext.refl (H := H) F
  refine Ct.enter (args := [.agg #[.int .i64 m.Params, a0c1], .agg #[a1c0, a1c1, a1c2, .int .i64 i.Steps]]) Try.func14 rfl rfl rfl (fun w0 hw0 => ?_)
  refine CF.seq (CF.region ?_)
  refine LF.chg (OpCh.boxB rfl rfl) ?_
  rintro _ H2 ⟨g2, rfl, eg2, sg2, kg2, hb2⟩
  have ng2 := hin.nope (Nat.le_of_eq eg2.symm)
  have lg2 := hkp.1
  have zkg2 := kg2.1
  replace hin := hin.kp kg2
  replace hkp := hkp.trans (kg2.mono hkp.1)
  clear kg2
  refine LF.chg (OpCh.boxB rfl rfl) ?_
  rintro _ H3 ⟨g3, rfl, eg3, sg3, kg3, hb3⟩
  have ng3 := hin.nope (Nat.le_of_eq eg3.symm)
  have lg3 := hkp.1
  have zkg3 := kg3.1
  replace hin := hin.kp kg3
  replace hkp := hkp.trans (kg3.mono hkp.1)
  replace hb2 := hb2.kp kg3
  clear kg3
  refine LF.chg (OpCh.allocB Try.zero33 rfl) ?_
  rintro _ H4 ⟨g4, rfl, eg4, sg4, kg4, hb4⟩
  have ng4 := hin.nope (Nat.le_of_eq eg4.symm)
  have lg4 := hkp.1
  have zkg4 := kg4.1
  replace hin := hin.kp kg4
  replace hkp := hkp.trans (kg4.mono hkp.1)
  replace hb2 := hb2.kp kg4
  replace hb3 := hb3.kp kg4
  clear kg4
  refine LF.nil (PF.next (CF.seq (CF.seq (CF.region ?_))))
  refine LF.step (OpOk.ldBxA hb2 Try.agg24 Try.sz24 rfl rfl rfl) ?_
  refine LF.call (OpCall.fn Try.ent33 rfl rfl) (rRight_ct hin p0) ?_
  rintro _ H24 ⟨rfl, k24⟩
  have zk24 := k24.1
  replace hin := hin.kp k24
  replace hkp := hkp.trans (k24.mono hkp.1)
  replace hb2 := hb2.kp k24
  replace hb3 := hb3.kp k24
  replace hb4 := hb4.kp k24
  refine LF.step (OpOk.not rfl) ?_
  refine LF.nil (PF.next ?_)
  refine CF.if rfl (fun hc1 => ?_) (fun hc1 => ?_)
  refine CF.seq (CF.region ?_)
  refine LF.step (OpOk.build (v := .agg #[.int .i64 4, .int .i32 0, .slice none 0 0, .slice none 0 0, .int .i64 0]) rfl (fun w => by kernel_rfl)) ?_
  refine LF.chg0 (OpCh.storeBA hb4 Try.sz33 rfl rfl rfl (allOne.mem (l := [.int .i64 4, .int .i32 0, .slice none 0 0, .slice none 0 0, .int .i64 0]) ⟨rfl, rfl, rfl, rfl, rfl, trivial⟩) (by decide)) ?_
  rintro _ Hw1 ⟨tw1, bw1⟩
  have ztw1 := tw1.1
  replace hin := hin.tw tw1 ng4
  replace hkp := Tw.kp' hkp tw1 (by omega)
  replace hb2 := hb2.tw tw1 (Bx.ne hb2 hb4 (by decide))
  replace hb3 := hb3.tw tw1 (Bx.ne hb3 hb4 (by decide))
  replace hb4 : Bx _ _ _ [.int .i64 4, .int .i32 0, .slice none 0 0, .slice none 0 0, .int .i64 0] := bw1
  clear bw1 tw1
  refine LF.nil (PF.next (CF.ret (PF.thenRet ?_)))
  have hm : runM m i = (⟨4, 0, [], [], 0⟩) := by
    first | exact run_wrong (by simpa using hc1) | exact rins_stop hI hc8 | exact ins_trap hI (by omega) hc8 hc12 (by simpa using hc15) | exact end_ret hI (by omega) hc8 hc10 | exact end_trap hI (by omega) hc8 hc10 hc11
  exact PF.retC rfl rfl hb4 Try.agg33 Try.sz33 ⟨_, hx, hin, hkp, by rw [hm]; exact (rOutcome.mk (m := ⟨4, 0, [], [], 0⟩) (rL.nil _) (rL.nil _) (by decide : IntKind.i64.wrap 4 = 4) (by decide : IntKind.i32.wrap 0 = 0) (by decide : IntKind.i64.wrap 0 = 0))⟩
  have hR : rightM m = true := by simpa using hc1
  have hW := right_wf hR
  have hp0 := hW.p0
  have hn0 := hW.n0
  refine CF.skip (PF.next (CF.seq (CF.region ?_)))
  refine LF.step (OpOk.ldBxA hb3 Try.agg27 Try.sz27 rfl rfl rfl) ?_
  refine LF.call (OpCall.fn Try.ent34 rfl rfl) (rMem_ct hin p1) ?_
  rintro v28 H28 ⟨x28, k28⟩
  replace x28 := x28.base hkp.1
  have zk28 := k28.1
  replace hin := hin.kp k28
  replace hkp := hkp.trans (k28.mono hkp.1)
  replace hb2 := hb2.kp k28
  replace hb3 := hb3.kp k28
  replace hb4 := hb4.kp k28
  refine LF.step (OpOk.build (v := .agg #[.int .i64 0, .int .i32 0, v28, .slice none 0 0, .int .i64 0]) rfl (fun w => by obtain ⟨xs9, h9, _⟩ := x28; obtain ⟨a29, c29, e29⟩ := h9.len; rw [show (v28 : Value) = _ from e29]; kernel_rfl)) ?_
  refine LF.chg (OpCh.allocB Try.zero33 rfl) ?_
  rintro _ H5 ⟨g5, rfl, eg5, sg5, kg5, hb5⟩
  have ng5 := hin.nope (Nat.le_of_eq eg5.symm)
  have lg5 := hkp.1
  have nb5_4 : g4 ≠ g5 := by have := hb4.lt; omega
  have zkg5 := kg5.1
  replace hin := hin.kp kg5
  replace hkp := hkp.trans (kg5.mono hkp.1)
  replace hb2 := hb2.kp kg5
  replace hb3 := hb3.kp kg5
  replace hb4 := hb4.kp kg5
  replace x28 := x28.kp kg5
  clear kg5
  refine LF.chg0 (OpCh.storeBA hb5 Try.sz33 rfl rfl rfl (allOne.mem (l := [.int .i64 0, .int .i32 0, v28, .slice none 0 0, .int .i64 0]) ⟨rfl, rfl, x28.one1, rfl, rfl, trivial⟩) (by decide)) ?_
  rintro _ Hw2 ⟨tw2, bw2⟩
  have ztw2 := tw2.1
  replace hin := hin.tw tw2 ng5
  replace hkp := Tw.kp' hkp tw2 (by omega)
  replace hb2 := hb2.tw tw2 (Bx.ne hb2 hb5 (by decide))
  replace hb3 := hb3.tw tw2 (Bx.ne hb3 hb5 (by decide))
  replace hb4 := hb4.tw tw2 (by first | omega | assumption | exact Ne.symm (by assumption))
  replace x28 := x28.tw tw2 (x28.neBx hb5 (by decide))
  replace hb5 : Bx _ _ _ [.int .i64 0, .int .i32 0, v28, .slice none 0 0, .int .i64 0] := bw2
  clear bw2 tw2
  refine LF.nil (PF.next (CF.seq (CF.region ?_)))
  refine LF.chg (OpCh.makeL (F := F) (r := (rI .i32)) (n := 8192) (a := 0) Try.underlying25 Try.info21 rfl rfl rfl (by omega) (by omega) (by omega) (by omega) ⟨rfl, (by decide : IntKind.i32.wrap 0 = 0)⟩) ?_
  rintro _ H30 ⟨g30, rfl, e30, s30, k30, x30⟩
  have l30 := hkp.1
  have ap28_30 := ap_new x28.lt (x30 hin).ge
  replace x30 := (x30 hin).base l30
  have zk30 := k30.1
  replace hin := hin.kp k30
  replace hkp := hkp.trans (k30.mono hkp.1)
  replace hb2 := hb2.kp k30
  replace hb3 := hb3.kp k30
  replace hb4 := hb4.kp k30
  replace hb5 := hb5.kp k30
  replace x28 := x28.kp k30
  have ap30_28 := ap_sym ap28_30
  refine LF.step (OpOk.assign rfl) (LF.nil (PF.next (CF.seq (CF.seq (CF.region (LF.step (OpOk.assign rfl) (LF.nil (PF.next (CF.block ?_)))))))))
  refine CF.loop (ι := Nat × List Int) (fun z9 H1 => z9.2 = i.Args.take z9.1 ++ (List.replicate 8192 0).drop z9.1 ∧ ((z9.1 : Int) ≤ m.Params ∧ z9.1 ≤ i.Args.length) ∧ z9.2.length = 8192 ∧ InH F H1 ∧ Kp H.size H H1 ∧ Bx H1 g2 24 [.int .i64 m.Params, a0c1] ∧ Bx H1 g3 27 [a1c0, a1c1, a1c2, .int .i64 i.Steps] ∧ Bx H1 g4 33 [.int .i64 0, .int .i32 0, .slice none 0 0, .slice none 0 0, .int .i64 0] ∧ Bx H1 g5 33 [.int .i64 0, .int .i32 0, v28, .slice none 0 0, .int .i64 0] ∧ Gl (rI .i32) 21 F H1 H.size v28 (memM i) ∧ Gl (rI .i32) 21 F H1 H.size (.slice (some ⟨g30, 0, none⟩) 8192 8192) z9.2) (fun z9 => [(2, .pointer (some ⟨g2, 0, none⟩)), (3, .pointer (some ⟨g3, 0, none⟩)), (4, .pointer (some ⟨g4, 0, none⟩)), (5, .pointer (some ⟨g5, 0, none⟩)), (6, .slice (some ⟨g30, 0, none⟩) 8192 8192), (7, .int .i64 (↑z9.1))]) (fun z9 => 5 - z9.1) (0, List.replicate 8192 0) ⟨rfl, by dsimp only; omega, by dsimp only; rw [List.length_replicate], hin, hkp, hb2, hb3, hb4, hb5, x28, x30⟩ ⟨rfl, rfl, rfl, rfl, rfl, eqI (by omega), trivial⟩ ?_
  clear hin hkp hb2 hb3 hb4 hb5 x28 x30
  rintro ⟨k, rs⟩ H1 ⟨hrs, hk, hrl, hin, hkp, hb2, hb3, hb4, hb5, x28, x30⟩
  dsimp only at hrs hk hrl hb2 hb3 hb4 hb5 x28 x30 ⊢
  refine CF.seq (CF.seq (CF.region (LF.step (OpOk.move rfl) ?_)))
  refine LF.step (OpOk.fieldAddr (Try.fld24_0) rfl) ?_
  refine LF.step (OpOk.ldBx hb2 Try.one3 rfl rfl) ?_
  refine LF.step (OpOk.lss rfl rfl) ?_
  refine LF.step (OpOk.move rfl) ?_
  refine LF.gstep rfl rfl (.t _) (fun hg => OpOk.move rfl) ?_
  refine LF.gstep rfl rfl (.t _) (fun hg => OpOk.fieldAddr (Try.fld27_0) rfl) ?_
  refine LF.gstep rfl rfl (.t _) (fun hg => OpOk.ldBx hb3 Try.one25 (evg rfl hg) rfl) ?_
  refine LF.gstep rfl rfl (.t _) (fun hg => OpOk.lenL Try.underlying25 p1c0 (evg rfl hg)) ?_
  refine LF.gstep rfl rfl (.t _) (fun hg => OpOk.lss (evg rfl hg) (evg rfl hg)) ?_
  refine LF.step (OpOk.pickAnd rfl rfl) ?_
  refine LF.nil (PF.next ?_)
  refine CF.if rfl (fun hc2 => ?_) (fun hc2 => ?_)
  refine CF.skip (PF.next (CF.seq (CF.block (CF.region (LF.step (OpOk.move rfl) (LF.step (OpOk.move rfl) ?_))))))
  refine LF.step (OpOk.fieldAddr (Try.fld27_0) rfl) ?_
  refine LF.step (OpOk.ldBx hb3 Try.one25 rfl rfl) ?_
  refine LF.step (OpOk.move rfl) ?_
  refine LF.step (OpOk.idxL (i := k) Try.underlying25 Try.sz21 p1c0 rfl rfl rfl (by omega)) ?_
  refine LF.step (OpOk.ldI hin (rL.ix p1c0 k (by omega)) Try.one21 rfl) ?_
  refine LF.step (OpOk.idxG (i := k) Try.underlying25 Try.sz21 x30 rfl rfl rfl (by first | omega | (simp only [List.length_replicate, List.length_set, List.length_append, List.length_cons, List.length_nil]; omega))) ?_
  refine LF.chg0 (OpCh.storeG x30 rfl Try.sz21 rfl rfl rfl (by first | omega | (simp only [List.length_replicate, List.length_set, List.length_append, List.length_cons, List.length_nil]; omega)) ⟨rfl, (At.wr (rL.ix p1c0 k (by omega)))⟩) ?_
  rintro _ Hw3 ⟨gw3, qw3, tw3, xw3⟩
  have ztw3 := tw3.1
  replace hin := hin.tw tw3 (x30.no _ qw3)
  replace hkp := Tw.kp' hkp tw3 (x30.blk _ qw3).1
  replace hb2 := hb2.tw tw3 (ne_of_own qw3 (x30.neBx hb2 (by decide)))
  replace hb3 := hb3.tw tw3 (ne_of_own qw3 (x30.neBx hb3 (by decide)))
  replace hb4 := hb4.tw tw3 (ne_of_own qw3 (x30.neBx hb4 (by decide)))
  replace hb5 := hb5.tw tw3 (ne_of_own qw3 (x30.neBx hb5 (by decide)))
  replace x28 := x28.tw tw3 (ap30_28 _ qw3)
  replace x30 := xw3
  refine LF.nil (PF.blockNormal (PF.next (CF.region (LF.step (OpOk.move rfl) ?_))))
  refine LF.step (OpOk.add rfl rfl (by omega)) ?_
  refine LF.step (OpOk.assign rfl) (LF.nil ?_)
  exact PF.again (k + 1, List.set rs k (ix i.Args k)) ⟨by dsimp only; rw [hrs, start_set (by omega) (by rw [List.length_replicate]; omega)], by dsimp only; omega, by dsimp only; rw [List.length_set]; exact hrl, hin, hkp, hb2, hb3, hb4, hb5, x28, x30⟩ ⟨rfl, rfl, rfl, rfl, rfl, eqI (by omega), trivial⟩ (by omega)
  refine CF.exit (PF.thenExit (PF.thenExit (PF.blockHere (PF.next (CF.seq (CF.region (LF.step (OpOk.assign rfl) (LF.nil (PF.next (CF.seq (CF.region ?_)))))))))))
  refine LF.step (OpOk.assign rfl) (LF.nil (PF.next (CF.seq (CF.region (LF.step (OpOk.assign rfl) (LF.nil (PF.next (CF.block ?_))))))))
  have x9003 := (fun (H9 : Heap) (_ : InH F H9) => (Gl.nil F H9 H.size : Gl rEvent 75 F H9 H.size (.slice none 0 0) [])) _ hin
  have ap9003_28 : ∀ k9, (Value.slice none 0 0).ownBlock = some k9 → (v28 : Value).ownBlock ≠ some k9 := fun _ h9 => by cases h9
  have ap28_9003 := ap_sym ap9003_28
  have ap9003_30 : ∀ k9, (Value.slice none 0 0).ownBlock = some k9 → (.slice (some ⟨g30, 0, none⟩) 8192 8192 : Value).ownBlock ≠ some k9 := fun _ h9 => by cases h9
  have ap30_9003 := ap_sym ap9003_30
  refine CF.loop (ι := Nat × Nat × Int × Int × List Int × List Int × List D.Event × Int × Value × PH) (fun z9 H1 => 0 < z9.1 ∧ runM m i = blockRun m.Blocks i.Steps z9.1 z9.2.2.1 z9.2.2.2.1 z9.2.2.2.2.1 z9.2.2.2.2.2.1 z9.2.2.2.2.2.2.1 (i.Answers.drop z9.2.1) z9.2.2.2.2.2.2.2.1 ∧ (0 ≤ z9.2.2.1 ∧ z9.2.2.1 < m.Blocks.length) ∧ (∀ p ∈ (ix m.Blocks (Int.toNat z9.2.2.1)).Phis, phiOk z9.2.2.2.1 8192 p) ∧ z9.2.2.2.2.1.length = 8192 ∧ z9.2.2.2.2.2.1.length ≤ 4096 ∧ 0 ≤ z9.2.2.2.2.2.2.2.1 ∧ z9.2.2.2.2.2.2.1.length ≤ z9.2.2.2.2.2.2.2.1 ∧ (z9.2.2.2.2.2.2.2.1 ≤ i.Steps ∨ z9.2.2.2.2.2.2.2.1 = 0) ∧ i.Steps - z9.2.2.2.2.2.2.2.1 < z9.1 ∧ z9.2.1 = z9.2.2.2.2.2.2.1.length ∧ PH.ext H F z9.2.2.2.2.2.2.2.2.2 ∧ PH.le F z9.2.2.2.2.2.2.2.2.2 ∧ InH z9.2.2.2.2.2.2.2.2.2 H1 ∧ Kp H.size H H1 ∧ Bx H1 g2 24 [.int .i64 m.Params, a0c1] ∧ z9.2.2.2.2.2.2.2.2.2 g2 = none ∧ Bx H1 g3 27 [a1c0, a1c1, a1c2, .int .i64 i.Steps] ∧ z9.2.2.2.2.2.2.2.2.2 g3 = none ∧ Bx H1 g4 33 [.int .i64 0, .int .i32 0, .slice none 0 0, .slice none 0 0, .int .i64 0] ∧ z9.2.2.2.2.2.2.2.2.2 g4 = none ∧ Bx H1 g5 33 [.int .i64 0, .int .i32 0, v28, z9.2.2.2.2.2.2.2.2.1, .int .i64 z9.2.2.2.2.2.2.2.1] ∧ z9.2.2.2.2.2.2.2.2.2 g5 = none ∧ Gl (rI .i32) 21 z9.2.2.2.2.2.2.2.2.2 H1 H.size v28 z9.2.2.2.2.2.1 ∧ Gl (rI .i32) 21 z9.2.2.2.2.2.2.2.2.2 H1 H.size (.slice (some ⟨g30, 0, none⟩) 8192 8192) z9.2.2.2.2.1 ∧ Gl rEvent 75 z9.2.2.2.2.2.2.2.2.2 H1 H.size z9.2.2.2.2.2.2.2.2.1 z9.2.2.2.2.2.2.1 ∧ (∀ k9, (v28 : Value).ownBlock = some k9 → (z9.2.2.2.2.2.2.2.2.1 : Value).ownBlock ≠ some k9) ∧ (∀ k9, (.slice (some ⟨g30, 0, none⟩) 8192 8192 : Value).ownBlock = some k9 → (z9.2.2.2.2.2.2.2.2.1 : Value).ownBlock ≠ some k9)) (fun z9 => [(2, .pointer (some ⟨g2, 0, none⟩)), (3, .pointer (some ⟨g3, 0, none⟩)), (4, .pointer (some ⟨g4, 0, none⟩)), (5, .pointer (some ⟨g5, 0, none⟩)), (6, .slice (some ⟨g30, 0, none⟩) 8192 8192), (8, .int .i64 (↑z9.2.1)), (9, .int .i64 z9.2.2.1), (10, .int .i64 z9.2.2.2.1)]) (fun z9 => z9.1) (Int.toNat i.Steps + 1, 0, 0, (-1), rs, memM i, [], 0, Value.slice none 0 0, F) ⟨by dsimp only; omega, (run_right hR).trans (by rw [start_done hrs hk hc2]; rfl), by dsimp only; omega, hW.from0, hrl, memM_len i, Int.le_refl _, by simp, by dsimp only; omega, by dsimp only; omega, rfl, hx, PH.le.refl _, hin, hkp, hb2, ng2, hb3, ng3, hb4, ng4, hb5, ng5, x28, x30, x9003, ap28_9003, ap30_9003⟩ ⟨rfl, rfl, rfl, rfl, rfl, rfl, rfl, rfl, trivial⟩ ?_
  clear hx hin hkp hb2 ng2 hb3 ng3 hb4 ng4 hb5 ng5 x28 x30 x9003 ap28_9003 ap30_9003
  rintro ⟨f, na, ab, fb, rs, me, cl, s9, vc, Fl⟩ H1 ⟨hf, hrun, hat, hfr, hrl, hml, hs0, hcl, hst, hfu, hna, hx, le0, hin, hkp, hb2, ng2, hb3, ng3, hb4, ng4, hb5, ng5, x28, x30, x9003, ap28_9003, ap30_9003⟩
  dsimp only at hf hrun hat hfr hrl hml hs0 hcl hst hfu hna hin hkp hb2 ng2 hb3 ng3 hb4 ng4 hb5 ng5 x28 x30 x9003 ap28_9003 ap30_9003 ⊢
  have ap9003_28 := ap_sym ap28_9003
  have ap9003_30 := ap_sym ap30_9003
  refine CF.block (CF.seq (CF.region ?_))
  refine LF.step (OpOk.fieldAddr (Try.fld24_1) rfl) ?_
  refine LF.step (OpOk.ldBx hb2 Try.one22 rfl rfl) ?_
  refine LF.step (OpOk.move rfl) ?_
  refine LF.step (OpOk.idxL (i := (Int.toNat ab)) Try.underlying22 Try.sz61 (p0c1.up le0) rfl rfl (by omega) (by omega)) ?_
  refine LF.stepE (OpOk.ldA hin (rL.ix (p0c1.up le0) (Int.toNat ab) (by omega)) Try.agg61 Try.sz61 rfl) ?_
  intro v56 h56
  have h56k := rMBlock.any h56
  obtain ⟨v56c0, v56c1, v56c5, rfl, h56c0, h56c1, h56c5⟩ := rMBlock.open h56
  have h56c0q := rL.len2 h56c0
  have h56c1q := rL.len2 h56c1
  have h56c5q := rL.len2 h56c5
  refine LF.chg (OpCh.allocB Try.zero61 rfl) ?_
  rintro _ H11 ⟨g11, rfl, eg11, sg11, kg11, hb11⟩
  have ng11 := hin.nope (Nat.le_of_eq eg11.symm)
  have lg11 := hkp.1
  have zkg11 := kg11.1
  replace hin := hin.kp kg11
  replace hkp := hkp.trans (kg11.mono hkp.1)
  replace hb2 := hb2.kp kg11
  replace hb3 := hb3.kp kg11
  replace hb4 := hb4.kp kg11
  replace hb5 := hb5.kp kg11
  replace x28 := x28.kp kg11
  replace x30 := x30.kp kg11
  replace x9003 := x9003.kp kg11
  clear kg11
  refine LF.chg0 (OpCh.storeBA hb11 Try.sz61 rfl rfl rfl (allOne.mem (l := [v56c0, v56c1, .int .i64 (((ix m.Blocks (Int.toNat ab)).End).Op), .int .i64 (((ix m.Blocks (Int.toNat ab)).End).A), .int .i64 (((ix m.Blocks (Int.toNat ab)).End).B), v56c5, .int .i32 (((ix m.Blocks (Int.toNat ab)).End).Imm)]) ⟨(h56c0.one1), (h56c1.one1), rfl, rfl, rfl, (h56c5.one1), rfl, trivial⟩) (by decide)) ?_
  rintro _ Hw4 ⟨tw4, bw4⟩
  have ztw4 := tw4.1
  replace hin := hin.tw tw4 ng11
  replace hkp := Tw.kp' hkp tw4 (by omega)
  replace hb2 := hb2.tw tw4 (Bx.ne hb2 hb11 (by decide))
  replace hb3 := hb3.tw tw4 (Bx.ne hb3 hb11 (by decide))
  replace hb4 := hb4.tw tw4 (Bx.ne hb4 hb11 (by decide))
  replace hb5 := hb5.tw tw4 (Bx.ne hb5 hb11 (by decide))
  replace x28 := x28.tw tw4 (x28.neBx hb11 (by decide))
  replace x30 := x30.tw tw4 (x30.neBx hb11 (by decide))
  replace x9003 := x9003.tw tw4 (x9003.neBx hb11 (by decide))
  replace hb11 : Bx _ _ _ [v56c0, v56c1, .int .i64 (((ix m.Blocks (Int.toNat ab)).End).Op), .int .i64 (((ix m.Blocks (Int.toNat ab)).End).A), .int .i64 (((ix m.Blocks (Int.toNat ab)).End).B), v56c5, .int .i32 (((ix m.Blocks (Int.toNat ab)).End).Imm)] := bw4
  clear bw4 tw4
  refine LF.nil (PF.next (CF.seq (CF.region ?_)))
  refine LF.chg (OpCh.litL (F := Fl) (r := (rI .i32)) (l := []) (us := []) (cs := []) Try.underlying25 Try.info21 (by decide) rfl rfl rfl trivial) ?_
  rintro _ H57 ⟨g57, rfl, e57, s57, k57, x57⟩
  have l57 := hkp.1
  have ap28_57 := ap_new x28.lt (x57 hin).ge
  have ap30_57 := ap_new x30.lt (x57 hin).ge
  have ap9003_57 := ap_new x9003.lt (x57 hin).ge
  replace x57 := (x57 hin).base l57
  have zk57 := k57.1
  replace hin := hin.kp k57
  replace hkp := hkp.trans (k57.mono hkp.1)
  replace hb2 := hb2.kp k57
  replace hb3 := hb3.kp k57
  replace hb4 := hb4.kp k57
  replace hb5 := hb5.kp k57
  replace hb11 := hb11.kp k57
  replace x28 := x28.kp k57
  replace x30 := x30.kp k57
  replace x9003 := x9003.kp k57
  have ap57_28 := ap_sym ap28_57
  have ap57_30 := ap_sym ap30_57
  have ap57_9003 := ap_sym ap9003_57
  refine LF.step (OpOk.assign rfl) (LF.nil (PF.next (CF.seq (CF.seq (CF.region (LF.step (OpOk.assign rfl) (LF.nil (PF.next (CF.block ?_)))))))))
  refine CF.loop (ι := Nat × List Int × Value) (fun z9 H1 => z9.1 ≤ (ix m.Blocks (Int.toNat ab)).Phis.length ∧ z9.2.1 = ((ix m.Blocks (Int.toNat ab)).Phis.take z9.1).map (phiVal fb rs) ∧ InH Fl H1 ∧ Kp H.size H H1 ∧ Bx H1 g2 24 [.int .i64 m.Params, a0c1] ∧ Bx H1 g3 27 [a1c0, a1c1, a1c2, .int .i64 i.Steps] ∧ Bx H1 g4 33 [.int .i64 0, .int .i32 0, .slice none 0 0, .slice none 0 0, .int .i64 0] ∧ Bx H1 g5 33 [.int .i64 0, .int .i32 0, v28, vc, .int .i64 s9] ∧ Bx H1 g11 61 [v56c0, v56c1, .int .i64 (((ix m.Blocks (Int.toNat ab)).End).Op), .int .i64 (((ix m.Blocks (Int.toNat ab)).End).A), .int .i64 (((ix m.Blocks (Int.toNat ab)).End).B), v56c5, .int .i32 (((ix m.Blocks (Int.toNat ab)).End).Imm)] ∧ Gl (rI .i32) 21 Fl H1 H.size v28 me ∧ Gl (rI .i32) 21 Fl H1 H.size (.slice (some ⟨g30, 0, none⟩) 8192 8192) rs ∧ Gl rEvent 75 Fl H1 H.size vc cl ∧ Gl (rI .i32) 21 Fl H1 H.size z9.2.2 z9.2.1 ∧ (∀ k9, (v28 : Value).ownBlock = some k9 → (z9.2.2 : Value).ownBlock ≠ some k9) ∧ (∀ k9, (.slice (some ⟨g30, 0, none⟩) 8192 8192 : Value).ownBlock = some k9 → (z9.2.2 : Value).ownBlock ≠ some k9) ∧ (∀ k9, (vc : Value).ownBlock = some k9 → (z9.2.2 : Value).ownBlock ≠ some k9)) (fun z9 => [(2, .pointer (some ⟨g2, 0, none⟩)), (3, .pointer (some ⟨g3, 0, none⟩)), (4, .pointer (some ⟨g4, 0, none⟩)), (5, .pointer (some ⟨g5, 0, none⟩)), (6, .slice (some ⟨g30, 0, none⟩) 8192 8192), (8, .int .i64 (↑na)), (9, .int .i64 ab), (10, .int .i64 fb), (11, .pointer (some ⟨g11, 0, none⟩)), (12, z9.2.2), (13, .int .i64 (↑z9.1))]) (fun z9 => (ix m.Blocks (Int.toNat ab)).Phis.length - z9.1) (0, [], .slice (some ⟨g57, 0, none⟩) 0 0) ⟨by dsimp only; omega, rfl, hin, hkp, hb2, hb3, hb4, hb5, hb11, x28, x30, x9003, x57, ap28_57, ap30_57, ap9003_57⟩ ⟨rfl, rfl, rfl, rfl, rfl, rfl, rfl, rfl, rfl, rfl, eqI (by omega), trivial⟩ ?_
  clear hin hkp hb2 hb3 hb4 hb5 hb11 x28 x30 x9003 x57 ap28_57 ap30_57 ap9003_57
  rintro ⟨p, vs, vv⟩ H1 ⟨hp, hvs, hin, hkp, hb2, hb3, hb4, hb5, hb11, x28, x30, x9003, x57, ap28_57, ap30_57, ap9003_57⟩
  dsimp only at hp hvs hb2 hb3 hb4 hb5 hb11 x28 x30 x9003 x57 ap28_57 ap30_57 ap9003_57 ⊢
  have ap57_28 := ap_sym ap28_57
  have ap57_30 := ap_sym ap30_57
  have ap57_9003 := ap_sym ap9003_57
  have hvl : vs.length = p := by rw [hvs]; simp; omega
  refine CF.seq (CF.seq (CF.region (LF.step (OpOk.move rfl) ?_)))
  refine LF.step (OpOk.fieldAddr (Try.fld61_0) rfl) ?_
  refine LF.step (OpOk.ldBx hb11 Try.one58 rfl rfl) ?_
  refine LF.step (OpOk.lenL Try.underlying58 h56c0 rfl) ?_
  refine LF.step (OpOk.lss rfl rfl) ?_
  refine LF.nil (PF.next ?_)
  refine CF.if rfl (fun hc3 => ?_) (fun hc3 => ?_)
  have hpo := hfr _ (ix_mem (l := (ix m.Blocks (Int.toNat ab)).Phis) (i := p) (by omega))
  have hnd := hW.nodup (k := Int.toNat ab) (by omega) _ (ix_mem (l := (ix m.Blocks (Int.toNat ab)).Phis) (i := p) (by omega))
  refine CF.skip (PF.next (CF.seq (CF.block (CF.seq (CF.region (LF.step (OpOk.assign rfl) (LF.nil (PF.next (CF.seq (CF.seq (CF.region ?_)))))))))))
  refine LF.step (OpOk.assign rfl) (LF.nil (PF.next (CF.block ?_)))
  refine CF.loop (ι := Nat × Int) (fun z9 H1 => z9.1 ≤ (ix (ix m.Blocks (Int.toNat ab)).Phis p).In.length ∧ z9.2 = lastV fb rs 0 ((ix (ix m.Blocks (Int.toNat ab)).Phis p).In.take z9.1) ∧ IntKind.i32.wrap z9.2 = z9.2 ∧ InH Fl H1 ∧ Kp H.size H H1 ∧ Bx H1 g2 24 [.int .i64 m.Params, a0c1] ∧ Bx H1 g3 27 [a1c0, a1c1, a1c2, .int .i64 i.Steps] ∧ Bx H1 g4 33 [.int .i64 0, .int .i32 0, .slice none 0 0, .slice none 0 0, .int .i64 0] ∧ Bx H1 g5 33 [.int .i64 0, .int .i32 0, v28, vc, .int .i64 s9] ∧ Bx H1 g11 61 [v56c0, v56c1, .int .i64 (((ix m.Blocks (Int.toNat ab)).End).Op), .int .i64 (((ix m.Blocks (Int.toNat ab)).End).A), .int .i64 (((ix m.Blocks (Int.toNat ab)).End).B), v56c5, .int .i32 (((ix m.Blocks (Int.toNat ab)).End).Imm)] ∧ Gl (rI .i32) 21 Fl H1 H.size v28 me ∧ Gl (rI .i32) 21 Fl H1 H.size (.slice (some ⟨g30, 0, none⟩) 8192 8192) rs ∧ Gl rEvent 75 Fl H1 H.size vc cl ∧ Gl (rI .i32) 21 Fl H1 H.size vv vs) (fun z9 => [(2, .pointer (some ⟨g2, 0, none⟩)), (3, .pointer (some ⟨g3, 0, none⟩)), (4, .pointer (some ⟨g4, 0, none⟩)), (5, .pointer (some ⟨g5, 0, none⟩)), (6, .slice (some ⟨g30, 0, none⟩) 8192 8192), (8, .int .i64 (↑na)), (9, .int .i64 ab), (10, .int .i64 fb), (11, .pointer (some ⟨g11, 0, none⟩)), (12, vv), (13, .int .i64 (↑p)), (14, .int .i32 z9.2), (15, .int .i64 (↑z9.1))]) (fun z9 => (ix (ix m.Blocks (Int.toNat ab)).Phis p).In.length - z9.1) (0, 0) ⟨by dsimp only; omega, rfl, by decide, hin, hkp, hb2, hb3, hb4, hb5, hb11, x28, x30, x9003, x57⟩ ⟨rfl, rfl, rfl, rfl, rfl, rfl, rfl, rfl, rfl, rfl, rfl, eqI (by omega), eqI (by omega), trivial⟩ ?_
  clear hin hkp hb2 hb3 hb4 hb5 hb11 x28 x30 x9003 x57
  rintro ⟨q, v⟩ H1 ⟨hq, hv, hvw, hin, hkp, hb2, hb3, hb4, hb5, hb11, x28, x30, x9003, x57⟩
  dsimp only at hq hv hvw hb2 hb3 hb4 hb5 hb11 x28 x30 x9003 x57 ⊢
  refine CF.seq (CF.seq (CF.region (LF.step (OpOk.move rfl) ?_)))
  refine LF.step (OpOk.fieldAddr (Try.fld61_0) rfl) ?_
  refine LF.step (OpOk.ldBx hb11 Try.one58 rfl rfl) ?_
  refine LF.step (OpOk.move rfl) ?_
  refine LF.step (OpOk.idxL (i := p) Try.underlying58 Try.sz70 h56c0 rfl rfl rfl (by omega)) ?_
  refine LF.step (OpOk.fieldAddr (Try.fld70_1) rfl) ?_
  refine LF.stepE (OpOk.ldV hin (rPhi.at_In (rL.ix h56c0 p (by omega))) Try.one68 rfl rfl) ?_
  intro v71 h71
  have h71q := rL.len2 h71
  refine LF.step (OpOk.lenL Try.underlying68 h71 rfl) ?_
  refine LF.step (OpOk.lss rfl rfl) ?_
  refine LF.nil (PF.next ?_)
  refine CF.if rfl (fun hc4 => ?_) (fun hc4 => ?_)
  refine CF.skip (PF.next (CF.seq (CF.block (CF.seq (CF.region ?_)))))
  refine LF.step (OpOk.fieldAddr (Try.fld61_0) rfl) ?_
  refine LF.step (OpOk.ldBx hb11 Try.one58 rfl rfl) ?_
  refine LF.step (OpOk.move rfl) ?_
  refine LF.step (OpOk.idxL (i := p) Try.underlying58 Try.sz70 h56c0 rfl rfl rfl (by omega)) ?_
  refine LF.step (OpOk.fieldAddr (Try.fld70_1) rfl) ?_
  refine LF.stepE (OpOk.ldV hin (rPhi.at_In (rL.ix h56c0 p (by omega))) Try.one68 rfl rfl) ?_
  intro v81 h81
  have h81q := rL.len2 h81
  refine LF.step (OpOk.move rfl) ?_
  refine LF.step (OpOk.idxL (i := q) Try.underlying68 Try.sz82 h81 rfl rfl rfl (by omega)) ?_
  refine LF.step (OpOk.fieldAddr (Try.fld82_0) rfl) ?_
  refine LF.step (OpOk.ldI hin (rIn.at_From (rL.ix h81 q (by omega))) Try.one3 rfl) ?_
  refine LF.step (OpOk.move rfl) ?_
  refine LF.step (OpOk.eql rfl rfl) ?_
  refine LF.nil (PF.next ?_)
  refine CF.if rfl (fun hc5 => ?_) (fun hc5 => ?_)
  have hvr := hpo.2.2.2 _ (ix_mem (l := (ix (ix m.Blocks (Int.toNat ab)).Phis p).In) (i := q) (by omega))
  refine CF.region (LF.step (OpOk.move rfl) ?_)
  refine LF.step (OpOk.fieldAddr (Try.fld61_0) rfl) ?_
  refine LF.step (OpOk.ldBx hb11 Try.one58 rfl rfl) ?_
  refine LF.step (OpOk.move rfl) ?_
  refine LF.step (OpOk.idxL (i := p) Try.underlying58 Try.sz70 h56c0 rfl rfl rfl (by omega)) ?_
  refine LF.step (OpOk.fieldAddr (Try.fld70_1) rfl) ?_
  refine LF.stepE (OpOk.ldV hin (rPhi.at_In (rL.ix h56c0 p (by omega))) Try.one68 rfl rfl) ?_
  intro v94 h94
  have h94q := rL.len2 h94
  refine LF.step (OpOk.move rfl) ?_
  refine LF.step (OpOk.idxL (i := q) Try.underlying68 Try.sz82 h94 rfl rfl rfl (by omega)) ?_
  refine LF.step (OpOk.fieldAddr (Try.fld82_1) rfl) ?_
  refine LF.step (OpOk.ldI hin (rIn.at_Val (rL.ix h94 q (by omega))) Try.one3 rfl) ?_
  refine LF.step (OpOk.idxG (i := (Int.toNat ((ix ((ix ((ix m.Blocks (Int.toNat ab)).Phis) p).In) q).Val))) Try.underlying25 Try.sz21 x30 rfl rfl (by omega) (by first | omega | (simp only [List.length_replicate, List.length_set, List.length_append, List.length_cons, List.length_nil]; omega))) ?_
  refine LF.step (OpOk.ldGI x30 (by first | omega | (simp only [List.length_replicate, List.length_set, List.length_append, List.length_cons, List.length_nil]; omega)) Try.one21 rfl) ?_
  refine LF.step (OpOk.assign rfl) (LF.nil (PF.blockNormal (PF.next (CF.region (LF.step (OpOk.move rfl) ?_)))))
  refine LF.step (OpOk.add rfl rfl (by omega)) ?_
  refine LF.step (OpOk.assign rfl) (LF.nil ?_)
  exact PF.again (q + 1, ix rs (Int.toNat ((ix ((ix ((ix m.Blocks (Int.toNat ab)).Phis) p).In) q).Val))) ⟨by dsimp only; omega, by dsimp only; rw [take_ix (by omega), lastV_snoc]; first | (rw [if_pos hc5]; done) | (rw [if_neg hc5]; exact hv), by dsimp only; exact (Gl.wr x30 (by omega)), hin, hkp, hb2, hb3, hb4, hb5, hb11, x28, x30, x9003, x57⟩ ⟨rfl, rfl, rfl, rfl, rfl, rfl, rfl, rfl, rfl, rfl, rfl, rfl, eqI (by omega), trivial⟩ (by omega)
  refine CF.skip (PF.blockNormal (PF.next (CF.region (LF.step (OpOk.move rfl) ?_))))
  refine LF.step (OpOk.add rfl rfl (by omega)) ?_
  refine LF.step (OpOk.assign rfl) (LF.nil ?_)
  exact PF.again (q + 1, v) ⟨by dsimp only; omega, by dsimp only; rw [take_ix (by omega), lastV_snoc]; first | (rw [if_pos hc5]; done) | (rw [if_neg hc5]; exact hv), by dsimp only; exact hvw, hin, hkp, hb2, hb3, hb4, hb5, hb11, x28, x30, x9003, x57⟩ ⟨rfl, rfl, rfl, rfl, rfl, rfl, rfl, rfl, rfl, rfl, rfl, rfl, eqI (by omega), trivial⟩ (by omega)
  refine CF.exit (PF.thenExit (PF.thenExit (PF.blockHere (PF.next (CF.region (LF.step (OpOk.move rfl) (LF.step (OpOk.move rfl) ?_)))))))
  refine LF.appV (r := (rI .i32)) (a := v) Try.underlying25 Try.info21 (by decide) rfl rfl rfl ⟨rfl, hvw⟩ x57 hin (by first | (simp only [List.length_append, List.length_take, List.length_drop, List.length_nil, List.length_cons, List.length_set, List.length_replicate]; omega) | (simp; done) | (simp; omega) | omega) rfl ?_ hkp.1
  intro v104 H104 x104 gb104 nn104 ob104
  replace hin := hin.grown gb104 x57.no
  replace hkp := gb104.kp hkp (Nat.le_refl _) (fun k0 hk0 => (x57.blk k0 hk0).1)
  replace hb2 := hb2.of (gb104.2 _ hb2.lt (Ne.symm (by first | exact x57.neBx hb2 (by decide) | exact nq57_2)))
  replace hb3 := hb3.of (gb104.2 _ hb3.lt (Ne.symm (by first | exact x57.neBx hb3 (by decide) | exact nq57_3)))
  replace hb4 := hb4.of (gb104.2 _ hb4.lt (Ne.symm (by first | exact x57.neBx hb4 (by decide) | exact nq57_4)))
  replace hb5 := hb5.of (gb104.2 _ hb5.lt (Ne.symm (by first | exact x57.neBx hb5 (by decide) | exact nq57_5)))
  replace hb11 := hb11.of (gb104.2 _ hb11.lt (Ne.symm (by first | exact x57.neBx hb11 (by decide) | exact nq57_11)))
  have ap104_28 := ap_grow ap57_28 x28.lt ob104
  have ap28_104 := ap_sym ap104_28
  replace x28 := x28.of (fun k0 hk0 => gb104.2 k0 (x28.blk k0 hk0).2 (fun e9 => ap57_28 _ e9.symm hk0))
  have ap104_30 := ap_grow ap57_30 x30.lt ob104
  have ap30_104 := ap_sym ap104_30
  replace x30 := x30.of (fun k0 hk0 => gb104.2 k0 (x30.blk k0 hk0).2 (fun e9 => ap57_30 _ e9.symm hk0))
  have ap104_9003 := ap_grow ap57_9003 x9003.lt ob104
  have ap9003_104 := ap_sym ap104_9003
  replace x9003 := x9003.of (fun k0 hk0 => gb104.2 k0 (x9003.blk k0 hk0).2 (fun e9 => ap57_9003 _ e9.symm hk0))
  refine LF.step (OpOk.assign rfl) (LF.nil (PF.blockNormal (PF.next (CF.region (LF.step (OpOk.move rfl) ?_)))))
  refine LF.step (OpOk.add rfl rfl (by omega)) ?_
  refine LF.step (OpOk.assign rfl) (LF.nil ?_)
  exact PF.again (p + 1, vs ++ [v], v104) ⟨by dsimp only; omega, by dsimp only; rw [hvs, take_ix (l := (ix m.Blocks (Int.toNat ab)).Phis) (by omega), List.map_append, phi_val hv (by omega) hnd hpo.2.2.1]; rfl, hin, hkp, hb2, hb3, hb4, hb5, hb11, x28, x30, x9003, x104, ap28_104, ap30_104, ap9003_104⟩ ⟨rfl, rfl, rfl, rfl, rfl, rfl, rfl, rfl, rfl, rfl, eqI (by omega), trivial⟩ (by omega)
  refine CF.exit (PF.thenExit (PF.thenExit (PF.blockHere (PF.next (CF.seq (CF.seq (CF.region (LF.step (OpOk.assign rfl) (LF.nil (PF.next (CF.block ?_)))))))))))
  refine CF.loop (ι := Nat × List Int) (fun z9 H1 => z9.1 ≤ (ix m.Blocks (Int.toNat ab)).Phis.length ∧ setP rs (ix m.Blocks (Int.toNat ab)).Phis vs = setP z9.2 ((ix m.Blocks (Int.toNat ab)).Phis.drop z9.1) (vs.drop z9.1) ∧ z9.2.length = 8192 ∧ InH Fl H1 ∧ Kp H.size H H1 ∧ Bx H1 g2 24 [.int .i64 m.Params, a0c1] ∧ Bx H1 g3 27 [a1c0, a1c1, a1c2, .int .i64 i.Steps] ∧ Bx H1 g4 33 [.int .i64 0, .int .i32 0, .slice none 0 0, .slice none 0 0, .int .i64 0] ∧ Bx H1 g5 33 [.int .i64 0, .int .i32 0, v28, vc, .int .i64 s9] ∧ Bx H1 g11 61 [v56c0, v56c1, .int .i64 (((ix m.Blocks (Int.toNat ab)).End).Op), .int .i64 (((ix m.Blocks (Int.toNat ab)).End).A), .int .i64 (((ix m.Blocks (Int.toNat ab)).End).B), v56c5, .int .i32 (((ix m.Blocks (Int.toNat ab)).End).Imm)] ∧ Gl (rI .i32) 21 Fl H1 H.size v28 me ∧ Gl (rI .i32) 21 Fl H1 H.size (.slice (some ⟨g30, 0, none⟩) 8192 8192) z9.2 ∧ Gl rEvent 75 Fl H1 H.size vc cl ∧ Gl (rI .i32) 21 Fl H1 H.size vv vs) (fun z9 => [(2, .pointer (some ⟨g2, 0, none⟩)), (3, .pointer (some ⟨g3, 0, none⟩)), (4, .pointer (some ⟨g4, 0, none⟩)), (5, .pointer (some ⟨g5, 0, none⟩)), (6, .slice (some ⟨g30, 0, none⟩) 8192 8192), (8, .int .i64 (↑na)), (9, .int .i64 ab), (10, .int .i64 fb), (11, .pointer (some ⟨g11, 0, none⟩)), (12, vv), (16, .int .i64 (↑z9.1))]) (fun z9 => (ix m.Blocks (Int.toNat ab)).Phis.length - z9.1) (0, rs) ⟨by dsimp only; omega, rfl, hrl, hin, hkp, hb2, hb3, hb4, hb5, hb11, x28, x30, x9003, x57⟩ ⟨rfl, rfl, rfl, rfl, rfl, rfl, rfl, rfl, rfl, rfl, eqI (by omega), trivial⟩ ?_
  clear hin hkp hb2 hb3 hb4 hb5 hb11 x28 x30 x9003 x57
  rintro ⟨p2, rs2⟩ H1 ⟨hp2, hS, hrl2a, hin, hkp, hb2, hb3, hb4, hb5, hb11, x28, x30, x9003, x57⟩
  dsimp only at hp2 hS hrl2a hb2 hb3 hb4 hb5 hb11 x28 x30 x9003 x57 ⊢
  refine CF.seq (CF.seq (CF.region (LF.step (OpOk.move rfl) ?_)))
  refine LF.step (OpOk.fieldAddr (Try.fld61_0) rfl) ?_
  refine LF.step (OpOk.ldBx hb11 Try.one58 rfl rfl) ?_
  refine LF.step (OpOk.lenL Try.underlying58 h56c0 rfl) ?_
  refine LF.step (OpOk.lss rfl rfl) ?_
  refine LF.nil (PF.next ?_)
  refine CF.if rfl (fun hc6 => ?_) (fun hc6 => ?_)
  have hpo2 := hfr _ (ix_mem (l := (ix m.Blocks (Int.toNat ab)).Phis) (i := p2) (by omega))
  obtain ⟨hd0, hd1, _, _⟩ := hpo2
  refine CF.skip (PF.next (CF.seq (CF.block ?_)))
  refine CF.tail 12 Try.mixed (by kernel_rfl) ?_
  refine LS.step (OpOk.move rfl) ?_
  refine LS.step (OpOk.fieldAddr (Try.fld61_0) rfl) ?_
  refine LS.step (OpOk.ldBx hb11 Try.one58 rfl rfl) ?_
  refine LS.step (OpOk.move rfl) ?_
  refine LS.step (OpOk.idxL (i := p2) Try.underlying58 Try.sz70 h56c0 rfl rfl rfl (by omega)) ?_
  refine LS.step (OpOk.fieldAddr (Try.fld70_0) rfl) ?_
  refine LS.step (OpOk.ldI hin (rPhi.at_Dst (rL.ix h56c0 p2 (by omega))) Try.one3 rfl) ?_
  refine LS.step (OpOk.move rfl) (LS.step (OpOk.move rfl) ?_)
  refine LS.step (OpOk.idxG (i := p2) Try.underlying25 Try.sz21 x57 rfl rfl rfl (by first | omega | (simp only [List.length_replicate, List.length_set, List.length_append, List.length_cons, List.length_nil]; omega))) ?_
  refine LS.step (OpOk.ldGI x57 (by first | omega | (simp only [List.length_replicate, List.length_set, List.length_append, List.length_cons, List.length_nil]; omega)) Try.one21 rfl) ?_
  refine LS.step (OpOk.idxG (i := (Int.toNat ((ix ((ix m.Blocks (Int.toNat ab)).Phis) p2).Dst))) Try.underlying25 Try.sz21 x30 rfl rfl (by omega) (by first | omega | (simp only [List.length_replicate, List.length_set, List.length_append, List.length_cons, List.length_nil]; omega))) ?_
  refine LS.tail ?_
  refine LF.chg0 (OpCh.storeG x30 rfl Try.sz21 rfl rfl rfl (by first | omega | (simp only [List.length_replicate, List.length_set, List.length_append, List.length_cons, List.length_nil]; omega)) ⟨rfl, (Gl.wr x57 (by omega))⟩) ?_
  rintro _ Hw5 ⟨gw5, qw5, tw5, xw5⟩
  have ztw5 := tw5.1
  replace hin := hin.tw tw5 (x30.no _ qw5)
  replace hkp := Tw.kp' hkp tw5 (x30.blk _ qw5).1
  replace hb2 := hb2.tw tw5 (ne_of_own qw5 (x30.neBx hb2 (by decide)))
  replace hb3 := hb3.tw tw5 (ne_of_own qw5 (x30.neBx hb3 (by decide)))
  replace hb4 := hb4.tw tw5 (ne_of_own qw5 (x30.neBx hb4 (by decide)))
  replace hb5 := hb5.tw tw5 (ne_of_own qw5 (x30.neBx hb5 (by decide)))
  replace hb11 := hb11.tw tw5 (ne_of_own qw5 (x30.neBx hb11 (by decide)))
  replace x28 := x28.tw tw5 (ap30_28 _ qw5)
  replace x9003 := x9003.tw tw5 (ap30_9003 _ qw5)
  replace x57 := x57.tw tw5 (ap30_57 _ qw5)
  replace x30 := xw5
  refine LF.nil (PF.blockNormal (PF.next (CF.region (LF.step (OpOk.move rfl) ?_))))
  refine LF.step (OpOk.add rfl rfl (by omega)) ?_
  refine LF.step (OpOk.assign rfl) (LF.nil ?_)
  exact PF.again (p2 + 1, List.set rs2 (Int.toNat ((ix ((ix m.Blocks (Int.toNat ab)).Phis) p2).Dst)) (ix vs p2)) ⟨by dsimp only; omega, setP_next (by omega) (by omega) hS, by dsimp only; rw [List.length_set]; exact hrl2a, hin, hkp, hb2, hb3, hb4, hb5, hb11, x28, x30, x9003, x57⟩ ⟨rfl, rfl, rfl, rfl, rfl, rfl, rfl, rfl, rfl, rfl, eqI (by omega), trivial⟩ (by omega)
  refine CF.exit (PF.thenExit (PF.thenExit (PF.blockHere (PF.next (CF.seq (CF.seq (CF.region (LF.step (OpOk.assign rfl) (LF.nil (PF.next (CF.block ?_)))))))))))
  refine CF.loop (ι := Nat × Nat × List Int × List Int × List D.Event × Int × Value × PH) (fun z9 H1 => z9.1 ≤ (ix m.Blocks (Int.toNat ab)).Ins.length ∧ runM m i = insRun i.Steps (endRun i.Steps (ix m.Blocks (Int.toNat ab)).End (fun t => blockRun m.Blocks i.Steps (f - 1) t ab)) ((ix m.Blocks (Int.toNat ab)).Ins.drop z9.1) z9.2.2.1 z9.2.2.2.1 z9.2.2.2.2.1 (i.Answers.drop z9.2.1) z9.2.2.2.2.2.1 ∧ z9.2.2.1.length = 8192 ∧ z9.2.2.2.1.length ≤ 4096 ∧ s9 ≤ z9.2.2.2.2.2.1 ∧ z9.2.2.2.2.1.length ≤ z9.2.2.2.2.2.1 ∧ (z9.2.2.2.2.2.1 ≤ i.Steps ∨ z9.2.2.2.2.2.1 = 0) ∧ z9.2.1 = z9.2.2.2.2.1.length ∧ PH.ext H F z9.2.2.2.2.2.2.2 ∧ PH.le Fl z9.2.2.2.2.2.2.2 ∧ InH z9.2.2.2.2.2.2.2 H1 ∧ Kp H.size H H1 ∧ Bx H1 g2 24 [.int .i64 m.Params, a0c1] ∧ z9.2.2.2.2.2.2.2 g2 = none ∧ Bx H1 g3 27 [a1c0, a1c1, a1c2, .int .i64 i.Steps] ∧ z9.2.2.2.2.2.2.2 g3 = none ∧ Bx H1 g4 33 [.int .i64 0, .int .i32 0, .slice none 0 0, .slice none 0 0, .int .i64 0] ∧ z9.2.2.2.2.2.2.2 g4 = none ∧ Bx H1 g5 33 [.int .i64 0, .int .i32 0, v28, z9.2.2.2.2.2.2.1, .int .i64 z9.2.2.2.2.2.1] ∧ z9.2.2.2.2.2.2.2 g5 = none ∧ Bx H1 g11 61 [v56c0, v56c1, .int .i64 (((ix m.Blocks (Int.toNat ab)).End).Op), .int .i64 (((ix m.Blocks (Int.toNat ab)).End).A), .int .i64 (((ix m.Blocks (Int.toNat ab)).End).B), v56c5, .int .i32 (((ix m.Blocks (Int.toNat ab)).End).Imm)] ∧ z9.2.2.2.2.2.2.2 g11 = none ∧ Gl (rI .i32) 21 z9.2.2.2.2.2.2.2 H1 H.size v28 z9.2.2.2.1 ∧ Gl (rI .i32) 21 z9.2.2.2.2.2.2.2 H1 H.size (.slice (some ⟨g30, 0, none⟩) 8192 8192) z9.2.2.1 ∧ Gl rEvent 75 z9.2.2.2.2.2.2.2 H1 H.size z9.2.2.2.2.2.2.1 z9.2.2.2.2.1 ∧ Gl (rI .i32) 21 z9.2.2.2.2.2.2.2 H1 H.size vv vs ∧ (∀ k9, (v28 : Value).ownBlock = some k9 → (z9.2.2.2.2.2.2.1 : Value).ownBlock ≠ some k9) ∧ (∀ k9, (.slice (some ⟨g30, 0, none⟩) 8192 8192 : Value).ownBlock = some k9 → (z9.2.2.2.2.2.2.1 : Value).ownBlock ≠ some k9) ∧ (∀ k9, (z9.2.2.2.2.2.2.1 : Value).ownBlock = some k9 → (vv : Value).ownBlock ≠ some k9)) (fun z9 => [(2, .pointer (some ⟨g2, 0, none⟩)), (3, .pointer (some ⟨g3, 0, none⟩)), (4, .pointer (some ⟨g4, 0, none⟩)), (5, .pointer (some ⟨g5, 0, none⟩)), (6, .slice (some ⟨g30, 0, none⟩) 8192 8192), (8, .int .i64 (↑z9.2.1)), (9, .int .i64 ab), (10, .int .i64 fb), (11, .pointer (some ⟨g11, 0, none⟩)), (17, .int .i64 (↑z9.1))]) (fun z9 => (ix m.Blocks (Int.toNat ab)).Ins.length - z9.1) (0, na, rs2, me, cl, s9, vc, Fl) ⟨by dsimp only; omega, by dsimp only; rw [hrun, blockRun_pos hf, phis_fin hS hvs (by omega) (by omega)]; rfl, by dsimp only; exact hrl2a, hml, by dsimp only; omega, hcl, hst, hna, hx, PH.le.refl _, hin, hkp, hb2, ng2, hb3, ng3, hb4, ng4, hb5, ng5, hb11, ng11, x28, x30, x9003, x57, ap28_9003, ap30_9003, ap9003_57⟩ ⟨rfl, rfl, rfl, rfl, rfl, rfl, rfl, rfl, rfl, eqI (by omega), trivial⟩ ?_
  clear hx hin hkp hb2 ng2 hb3 ng3 hb4 ng4 hb5 ng5 hb11 ng11 x28 x30 x9003 x57 ap28_9003 ap30_9003 ap9003_57
  rintro ⟨k, na2, rs3, me2, cl2, s2, vc2, Fm⟩ H1 ⟨hk9, hI, hrl2, hml2, hss, hcl2, hst2, hna2, hx, le1, hin, hkp, hb2, ng2, hb3, ng3, hb4, ng4, hb5, ng5, hb11, ng11, x28, x30, x9003, x57, ap28_9003, ap30_9003, ap9003_57⟩
  dsimp only at hk9 hI hrl2 hml2 hss hcl2 hst2 hna2 hin hkp hb2 ng2 hb3 ng3 hb4 ng4 hb5 ng5 hb11 ng11 x28 x30 x9003 x57 ap28_9003 ap30_9003 ap9003_57 ⊢
  replace le0 := le0.trans le1
  have ap9003_28 := ap_sym ap28_9003
  have ap9003_30 := ap_sym ap30_9003
  have ap57_9003 := ap_sym ap9003_57
  refine CF.seq (CF.seq (CF.region (LF.step (OpOk.move rfl) ?_)))
  refine LF.step (OpOk.fieldAddr (Try.fld61_1) rfl) ?_
  refine LF.step (OpOk.ldBx hb11 Try.one59 rfl rfl) ?_
  refine LF.step (OpOk.lenL Try.underlying59 (h56c1.up le1) rfl) ?_
  refine LF.step (OpOk.leq rfl rfl) ?_
  refine LF.nil (PF.next ?_)
  refine CF.if rfl (fun hc7 => ?_) (fun hc7 => ?_)
  refine CF.skip (PF.next (CF.seq (CF.block (CF.seq (CF.seq (CF.region ?_))))))
  refine LF.step (OpOk.fieldAddr (Try.fld33_4) rfl) ?_
  refine LF.step (OpOk.ldBx hb5 Try.one3 rfl rfl) ?_
  refine LF.step (OpOk.fieldAddr (Try.fld27_3) rfl) ?_
  refine LF.step (OpOk.ldBx hb3 Try.one3 rfl rfl) ?_
  refine LF.step (OpOk.geq rfl rfl) ?_
  refine LF.nil (PF.next ?_)
  refine CF.if rfl (fun hc8 => ?_) (fun hc8 => ?_)
  refine CF.seq (CF.region ?_)
  refine LF.step (OpOk.fieldAddr (Try.fld33_0) rfl) ?_
  refine LF.chg0 (OpCh.storeB hb5 Try.sz3 rfl rfl rfl (by first | decide | (simp; done))) ?_
  rintro _ Hw6 ⟨tw6, bw6⟩
  have ztw6 := tw6.1
  replace hin := hin.tw tw6 ng5
  replace hkp := Tw.kp' hkp tw6 (by omega)
  replace hb2 := hb2.tw tw6 (Bx.ne hb2 hb5 (by decide))
  replace hb3 := hb3.tw tw6 (Bx.ne hb3 hb5 (by decide))
  replace hb4 := hb4.tw tw6 (by first | omega | assumption | exact Ne.symm (by assumption))
  replace hb11 := hb11.tw tw6 (Bx.ne hb11 hb5 (by decide))
  replace x28 := x28.tw tw6 (x28.neBx hb5 (by decide))
  replace x30 := x30.tw tw6 (x30.neBx hb5 (by decide))
  replace x9003 := x9003.tw tw6 (x9003.neBx hb5 (by decide))
  replace x57 := x57.tw tw6 (x57.neBx hb5 (by decide))
  replace hb5 : Bx _ _ _ [.int .i64 3, .int .i32 0, v28, vc2, .int .i64 s2] := bw6
  clear bw6 tw6
  refine LF.nil (PF.next (CF.seq (CF.region ?_)))
  refine LF.step (OpOk.ldBxA hb5 Try.agg33 Try.sz33 rfl rfl rfl) ?_
  refine LF.chg0 (OpCh.storeBA hb4 Try.sz33 rfl rfl rfl (allOne.mem (l := [.int .i64 3, .int .i32 0, v28, vc2, .int .i64 s2]) ⟨rfl, rfl, x28.one1, x9003.one1, rfl, trivial⟩) (by decide)) ?_
  rintro _ Hw7 ⟨tw7, bw7⟩
  have ztw7 := tw7.1
  replace hin := hin.tw tw7 ng4
  replace hkp := Tw.kp' hkp tw7 (by omega)
  replace hb2 := hb2.tw tw7 (Bx.ne hb2 hb4 (by decide))
  replace hb3 := hb3.tw tw7 (Bx.ne hb3 hb4 (by decide))
  replace hb5 := hb5.tw tw7 (by first | omega | assumption | exact Ne.symm (by assumption))
  replace hb11 := hb11.tw tw7 (Bx.ne hb11 hb4 (by decide))
  replace x28 := x28.tw tw7 (x28.neBx hb4 (by decide))
  replace x30 := x30.tw tw7 (x30.neBx hb4 (by decide))
  replace x9003 := x9003.tw tw7 (x9003.neBx hb4 (by decide))
  replace x57 := x57.tw tw7 (x57.neBx hb4 (by decide))
  replace hb4 : Bx _ _ _ [.int .i64 3, .int .i32 0, v28, vc2, .int .i64 s2] := bw7
  clear bw7 tw7
  refine LF.nil (PF.next (CF.ret (PF.thenRet (PF.blockRet (PF.thenRet (PF.thenRet (PF.blockRet (PF.thenRet (PF.blockRet (PF.thenRet (PF.blockRet ?_)))))))))))
  obtain ⟨Fz8, hxz8, lez8, hinz8, noz8, hrz8⟩ := x28.freezeX hin hx (Nat.le_refl _) (by first | omega | (rw [(stepM_len _ _ _).2]; omega))
  replace hin := hinz8
  replace hx := hxz8
  replace le0 := le0.trans lez8
  replace le1 := le1.trans lez8
  have le2 := lez8
  replace ng2 := (noz8 _ (x28.neBx hb2 (by decide))).trans ng2
  replace ng3 := (noz8 _ (x28.neBx hb3 (by decide))).trans ng3
  replace ng4 := (noz8 _ (x28.neBx hb4 (by decide))).trans ng4
  replace ng5 := (noz8 _ (x28.neBx hb5 (by decide))).trans ng5
  replace ng11 := (noz8 _ (x28.neBx hb11 (by decide))).trans ng11
  replace x30 := x30.frozen lez8 noz8 ap30_28
  replace x9003 := x9003.frozen lez8 noz8 ap9003_28
  replace x57 := x57.frozen lez8 noz8 ap57_28
  obtain ⟨Fz9, hxz9, lez9, hinz9, noz9, hrz9⟩ := x9003.freezeX hin hx (Nat.le_refl _) (by first | (simp only [List.length_append, List.length_take, List.length_drop, List.length_nil, List.length_cons, List.length_set, List.length_replicate]; omega) | (simp; done) | (simp; omega) | omega)
  replace hin := hinz9
  replace hx := hxz9
  replace le0 := le0.trans lez9
  replace le1 := le1.trans lez9
  replace le2 := le2.trans lez9
  have le3 := lez9
  replace ng2 := (noz9 _ (x9003.neBx hb2 (by decide))).trans ng2
  replace ng3 := (noz9 _ (x9003.neBx hb3 (by decide))).trans ng3
  replace ng4 := (noz9 _ (x9003.neBx hb4 (by decide))).trans ng4
  replace ng5 := (noz9 _ (x9003.neBx hb5 (by decide))).trans ng5
  replace ng11 := (noz9 _ (x9003.neBx hb11 (by decide))).trans ng11
  replace x30 := x30.frozen lez9 noz9 ap30_9003
  replace x57 := x57.frozen lez9 noz9 ap57_9003
  have hm : runM m i = (⟨3, 0, me2, cl2, s2⟩) := by
    first | exact run_wrong (by simpa using hc1) | exact rins_stop hI hc8 | exact ins_trap hI (by omega) hc8 hc12 (by simpa using hc15) | exact end_ret hI (by omega) hc8 hc10 | exact end_trap hI (by omega) hc8 hc10 hc11
  exact PF.retC rfl rfl hb4 Try.agg33 Try.sz33 ⟨_, hx, hin, hkp, by rw [hm]; exact (rOutcome.mk (m := ⟨3, 0, me2, cl2, s2⟩) (hrz8.up le3) hrz9 (by decide : IntKind.i64.wrap 3 = 3) (by decide : IntKind.i32.wrap 0 = 0) (IntWalk.i64_in s2 (by omega)))⟩
  have hNi := hc8
  have hNe := hc8
  refine CF.skip (PF.next (CF.seq (CF.region ?_)))
  refine LF.step (OpOk.fieldAddr (Try.fld33_4) rfl) ?_
  refine LF.step (OpOk.ldBx hb5 Try.one3 rfl rfl) ?_
  refine LF.step (OpOk.add rfl rfl (by omega)) ?_
  refine LF.step (OpOk.fieldAddr (Try.fld33_4) rfl) ?_
  refine LF.chg0 (OpCh.storeB hb5 Try.sz3 rfl rfl rfl (by first | decide | (simp; done))) ?_
  rintro _ Hw10 ⟨tw10, bw10⟩
  have ztw10 := tw10.1
  replace hin := hin.tw tw10 ng5
  replace hkp := Tw.kp' hkp tw10 (by omega)
  replace hb2 := hb2.tw tw10 (Bx.ne hb2 hb5 (by decide))
  replace hb3 := hb3.tw tw10 (Bx.ne hb3 hb5 (by decide))
  replace hb4 := hb4.tw tw10 (by first | omega | assumption | exact Ne.symm (by assumption))
  replace hb11 := hb11.tw tw10 (Bx.ne hb11 hb5 (by decide))
  replace x28 := x28.tw tw10 (x28.neBx hb5 (by decide))
  replace x30 := x30.tw tw10 (x30.neBx hb5 (by decide))
  replace x9003 := x9003.tw tw10 (x9003.neBx hb5 (by decide))
  replace x57 := x57.tw tw10 (x57.neBx hb5 (by decide))
  replace hb5 : Bx _ _ _ [.int .i64 0, .int .i32 0, v28, vc2, .int .i64 (s2 + 1)] := bw10
  clear bw10 tw10
  refine LF.nil (PF.next (CF.seq (CF.seq (CF.region (LF.step (OpOk.move rfl) ?_)))))
  refine LF.step (OpOk.fieldAddr (Try.fld61_1) rfl) ?_
  refine LF.step (OpOk.ldBx hb11 Try.one59 rfl rfl) ?_
  refine LF.step (OpOk.lenL Try.underlying59 (h56c1.up le1) rfl) ?_
  refine LF.step (OpOk.eql rfl rfl) ?_
  refine LF.nil (PF.next ?_)
  refine CF.if rfl (fun hc9 => ?_) (fun hc9 => ?_)
  refine CF.exit (PF.thenExit (PF.blockOther (PF.thenExit (PF.thenExit (PF.blockHere (PF.next (CF.seq (CF.seq (CF.region ?_)))))))))
  refine LF.step (OpOk.fieldAddr (Try.fld61_2) rfl) ?_
  refine LF.step (OpOk.fieldAddr (Try.fld55_0) rfl) ?_
  refine LF.step (OpOk.ldBx hb11 Try.one3 rfl rfl) ?_
  refine LF.nil (PF.next (CF.block (CF.seq (CF.region ?_))))
  refine LF.step (OpOk.eql rfl rfl) ?_
  refine LF.step (OpOk.assign rfl) (LF.nil (PF.next ?_))
  refine CF.if rfl (fun hc10 => ?_) (fun hc10 => ?_)
  refine CF.seq (CF.region ?_)
  refine LF.step (OpOk.fieldAddr (Try.fld33_0) rfl) ?_
  refine LF.chg0 (OpCh.storeB hb5 Try.sz3 rfl rfl rfl (by first | decide | (simp; done))) ?_
  rintro _ Hw11 ⟨tw11, bw11⟩
  have ztw11 := tw11.1
  replace hin := hin.tw tw11 ng5
  replace hkp := Tw.kp' hkp tw11 (by omega)
  replace hb2 := hb2.tw tw11 (Bx.ne hb2 hb5 (by decide))
  replace hb3 := hb3.tw tw11 (Bx.ne hb3 hb5 (by decide))
  replace hb4 := hb4.tw tw11 (by first | omega | assumption | exact Ne.symm (by assumption))
  replace hb11 := hb11.tw tw11 (Bx.ne hb11 hb5 (by decide))
  replace x28 := x28.tw tw11 (x28.neBx hb5 (by decide))
  replace x30 := x30.tw tw11 (x30.neBx hb5 (by decide))
  replace x9003 := x9003.tw tw11 (x9003.neBx hb5 (by decide))
  replace x57 := x57.tw tw11 (x57.neBx hb5 (by decide))
  replace hb5 : Bx _ _ _ [.int .i64 1, .int .i32 0, v28, vc2, .int .i64 (s2 + 1)] := bw11
  clear bw11 tw11
  refine LF.nil (PF.next (CF.seq (CF.region (LF.step (OpOk.move rfl) ?_))))
  refine LF.step (OpOk.fieldAddr (Try.fld61_2) rfl) ?_
  refine LF.step (OpOk.fieldAddr (Try.fld55_1) rfl) ?_
  refine LF.step (OpOk.ldBx hb11 Try.one3 rfl rfl) ?_
  refine LF.call (OpCall.fn Try.ent36 rfl rfl) (x30.temp 1073741824 hin (by first | (simp only [List.length_append, List.length_take, List.length_drop, List.length_nil, List.length_cons, List.length_set, List.length_replicate]; omega) | (simp; done) | (simp; omega) | omega) (fun G1 lg1 hin1 hr1 => rGet_ct hin1 hr1 (((ix m.Blocks (Int.toNat ab)).End).A))) ?_
  rintro _ _ ⟨rfl, rfl⟩
  have w228_0 : IntKind.i32.wrap (getM rs3 (((ix m.Blocks (Int.toNat ab)).End).A)) = getM rs3 (((ix m.Blocks (Int.toNat ab)).End).A) := getM_wrG x30 _
  refine LF.step (OpOk.fieldAddr (Try.fld33_1) rfl) ?_
  refine LF.chg0 (OpCh.storeB hb5 Try.sz21 rfl rfl rfl (by first | decide | (simp; done))) ?_
  rintro _ Hw12 ⟨tw12, bw12⟩
  have ztw12 := tw12.1
  replace hin := hin.tw tw12 ng5
  replace hkp := Tw.kp' hkp tw12 (by omega)
  replace hb2 := hb2.tw tw12 (Bx.ne hb2 hb5 (by decide))
  replace hb3 := hb3.tw tw12 (Bx.ne hb3 hb5 (by decide))
  replace hb4 := hb4.tw tw12 (by first | omega | assumption | exact Ne.symm (by assumption))
  replace hb11 := hb11.tw tw12 (Bx.ne hb11 hb5 (by decide))
  replace x28 := x28.tw tw12 (x28.neBx hb5 (by decide))
  replace x30 := x30.tw tw12 (x30.neBx hb5 (by decide))
  replace x9003 := x9003.tw tw12 (x9003.neBx hb5 (by decide))
  replace x57 := x57.tw tw12 (x57.neBx hb5 (by decide))
  replace hb5 : Bx _ _ _ [.int .i64 1, .int .i32 (getM rs3 (((ix m.Blocks (Int.toNat ab)).End).A)), v28, vc2, .int .i64 (s2 + 1)] := bw12
  clear bw12 tw12
  refine LF.nil (PF.next (CF.seq (CF.region ?_)))
  refine LF.step (OpOk.ldBxA hb5 Try.agg33 Try.sz33 rfl rfl rfl) ?_
  refine LF.chg0 (OpCh.storeBA hb4 Try.sz33 rfl rfl rfl (allOne.mem (l := [.int .i64 1, .int .i32 (getM rs3 (((ix m.Blocks (Int.toNat ab)).End).A)), v28, vc2, .int .i64 (s2 + 1)]) ⟨rfl, rfl, x28.one1, x9003.one1, rfl, trivial⟩) (by decide)) ?_
  rintro _ Hw13 ⟨tw13, bw13⟩
  have ztw13 := tw13.1
  replace hin := hin.tw tw13 ng4
  replace hkp := Tw.kp' hkp tw13 (by omega)
  replace hb2 := hb2.tw tw13 (Bx.ne hb2 hb4 (by decide))
  replace hb3 := hb3.tw tw13 (Bx.ne hb3 hb4 (by decide))
  replace hb5 := hb5.tw tw13 (by first | omega | assumption | exact Ne.symm (by assumption))
  replace hb11 := hb11.tw tw13 (Bx.ne hb11 hb4 (by decide))
  replace x28 := x28.tw tw13 (x28.neBx hb4 (by decide))
  replace x30 := x30.tw tw13 (x30.neBx hb4 (by decide))
  replace x9003 := x9003.tw tw13 (x9003.neBx hb4 (by decide))
  replace x57 := x57.tw tw13 (x57.neBx hb4 (by decide))
  replace hb4 : Bx _ _ _ [.int .i64 1, .int .i32 (getM rs3 (((ix m.Blocks (Int.toNat ab)).End).A)), v28, vc2, .int .i64 (s2 + 1)] := bw13
  clear bw13 tw13
  refine LF.nil (PF.next (CF.ret (PF.blockRet (PF.thenRet (PF.blockRet (PF.thenRet (PF.blockRet ?_)))))))
  obtain ⟨Fz14, hxz14, lez14, hinz14, noz14, hrz14⟩ := x28.freezeX hin hx (Nat.le_refl _) (by first | omega | (rw [(stepM_len _ _ _).2]; omega))
  replace hin := hinz14
  replace hx := hxz14
  replace le0 := le0.trans lez14
  replace le1 := le1.trans lez14
  have le2 := lez14
  replace ng2 := (noz14 _ (x28.neBx hb2 (by decide))).trans ng2
  replace ng3 := (noz14 _ (x28.neBx hb3 (by decide))).trans ng3
  replace ng4 := (noz14 _ (x28.neBx hb4 (by decide))).trans ng4
  replace ng5 := (noz14 _ (x28.neBx hb5 (by decide))).trans ng5
  replace ng11 := (noz14 _ (x28.neBx hb11 (by decide))).trans ng11
  replace x30 := x30.frozen lez14 noz14 ap30_28
  replace x9003 := x9003.frozen lez14 noz14 ap9003_28
  replace x57 := x57.frozen lez14 noz14 ap57_28
  obtain ⟨Fz15, hxz15, lez15, hinz15, noz15, hrz15⟩ := x9003.freezeX hin hx (Nat.le_refl _) (by first | (simp only [List.length_append, List.length_take, List.length_drop, List.length_nil, List.length_cons, List.length_set, List.length_replicate]; omega) | (simp; done) | (simp; omega) | omega)
  replace hin := hinz15
  replace hx := hxz15
  replace le0 := le0.trans lez15
  replace le1 := le1.trans lez15
  replace le2 := le2.trans lez15
  have le3 := lez15
  replace ng2 := (noz15 _ (x9003.neBx hb2 (by decide))).trans ng2
  replace ng3 := (noz15 _ (x9003.neBx hb3 (by decide))).trans ng3
  replace ng4 := (noz15 _ (x9003.neBx hb4 (by decide))).trans ng4
  replace ng5 := (noz15 _ (x9003.neBx hb5 (by decide))).trans ng5
  replace ng11 := (noz15 _ (x9003.neBx hb11 (by decide))).trans ng11
  replace x30 := x30.frozen lez15 noz15 ap30_9003
  replace x57 := x57.frozen lez15 noz15 ap57_9003
  have hm : runM m i = (⟨1, getM rs3 (((ix m.Blocks (Int.toNat ab)).End).A), me2, cl2, s2 + 1⟩) := by
    first | exact run_wrong (by simpa using hc1) | exact rins_stop hI hc8 | exact ins_trap hI (by omega) hc8 hc12 (by simpa using hc15) | exact end_ret hI (by omega) hc8 hc10 | exact end_trap hI (by omega) hc8 hc10 hc11
  exact PF.retC rfl rfl hb4 Try.agg33 Try.sz33 ⟨_, hx, hin, hkp, by rw [hm]; exact (rOutcome.mk (m := ⟨1, getM rs3 (((ix m.Blocks (Int.toNat ab)).End).A), me2, cl2, s2 + 1⟩) (hrz14.up le3) hrz15 (by decide : IntKind.i64.wrap 1 = 1) w228_0 (IntWalk.i64_in (s2 + 1) (by omega)))⟩
  have h7 := hc10
  refine CF.seq (CF.region ?_)
  refine LF.step (OpOk.eql rfl rfl) ?_
  refine LF.step (OpOk.assign rfl) (LF.nil (PF.next ?_))
  refine CF.if rfl (fun hc11 => ?_) (fun hc11 => ?_)
  refine CF.seq (CF.region ?_)
  refine LF.step (OpOk.fieldAddr (Try.fld33_0) rfl) ?_
  refine LF.chg0 (OpCh.storeB hb5 Try.sz3 rfl rfl rfl (by first | decide | (simp; done))) ?_
  rintro _ Hw16 ⟨tw16, bw16⟩
  have ztw16 := tw16.1
  replace hin := hin.tw tw16 ng5
  replace hkp := Tw.kp' hkp tw16 (by omega)
  replace hb2 := hb2.tw tw16 (Bx.ne hb2 hb5 (by decide))
  replace hb3 := hb3.tw tw16 (Bx.ne hb3 hb5 (by decide))
  replace hb4 := hb4.tw tw16 (by first | omega | assumption | exact Ne.symm (by assumption))
  replace hb11 := hb11.tw tw16 (Bx.ne hb11 hb5 (by decide))
  replace x28 := x28.tw tw16 (x28.neBx hb5 (by decide))
  replace x30 := x30.tw tw16 (x30.neBx hb5 (by decide))
  replace x9003 := x9003.tw tw16 (x9003.neBx hb5 (by decide))
  replace x57 := x57.tw tw16 (x57.neBx hb5 (by decide))
  replace hb5 : Bx _ _ _ [.int .i64 2, .int .i32 0, v28, vc2, .int .i64 (s2 + 1)] := bw16
  clear bw16 tw16
  refine LF.nil (PF.next (CF.seq (CF.region ?_)))
  refine LF.step (OpOk.fieldAddr (Try.fld61_2) rfl) ?_
  refine LF.step (OpOk.fieldAddr (Try.fld55_4) rfl) ?_
  refine LF.step (OpOk.ldBx hb11 Try.one21 rfl rfl) ?_
  refine LF.step (OpOk.fieldAddr (Try.fld33_1) rfl) ?_
  refine LF.chg0 (OpCh.storeB hb5 Try.sz21 rfl rfl rfl (by first | decide | (simp; done))) ?_
  rintro _ Hw17 ⟨tw17, bw17⟩
  have ztw17 := tw17.1
  replace hin := hin.tw tw17 ng5
  replace hkp := Tw.kp' hkp tw17 (by omega)
  replace hb2 := hb2.tw tw17 (Bx.ne hb2 hb5 (by decide))
  replace hb3 := hb3.tw tw17 (Bx.ne hb3 hb5 (by decide))
  replace hb4 := hb4.tw tw17 (by first | omega | assumption | exact Ne.symm (by assumption))
  replace hb11 := hb11.tw tw17 (Bx.ne hb11 hb5 (by decide))
  replace x28 := x28.tw tw17 (x28.neBx hb5 (by decide))
  replace x30 := x30.tw tw17 (x30.neBx hb5 (by decide))
  replace x9003 := x9003.tw tw17 (x9003.neBx hb5 (by decide))
  replace x57 := x57.tw tw17 (x57.neBx hb5 (by decide))
  replace hb5 : Bx _ _ _ [.int .i64 2, .int .i32 (((ix m.Blocks (Int.toNat ab)).End).Imm), v28, vc2, .int .i64 (s2 + 1)] := bw17
  clear bw17 tw17
  refine LF.nil (PF.next (CF.seq (CF.region ?_)))
  refine LF.step (OpOk.ldBxA hb5 Try.agg33 Try.sz33 rfl rfl rfl) ?_
  refine LF.chg0 (OpCh.storeBA hb4 Try.sz33 rfl rfl rfl (allOne.mem (l := [.int .i64 2, .int .i32 (((ix m.Blocks (Int.toNat ab)).End).Imm), v28, vc2, .int .i64 (s2 + 1)]) ⟨rfl, rfl, x28.one1, x9003.one1, rfl, trivial⟩) (by decide)) ?_
  rintro _ Hw18 ⟨tw18, bw18⟩
  have ztw18 := tw18.1
  replace hin := hin.tw tw18 ng4
  replace hkp := Tw.kp' hkp tw18 (by omega)
  replace hb2 := hb2.tw tw18 (Bx.ne hb2 hb4 (by decide))
  replace hb3 := hb3.tw tw18 (Bx.ne hb3 hb4 (by decide))
  replace hb5 := hb5.tw tw18 (by first | omega | assumption | exact Ne.symm (by assumption))
  replace hb11 := hb11.tw tw18 (Bx.ne hb11 hb4 (by decide))
  replace x28 := x28.tw tw18 (x28.neBx hb4 (by decide))
  replace x30 := x30.tw tw18 (x30.neBx hb4 (by decide))
  replace x9003 := x9003.tw tw18 (x9003.neBx hb4 (by decide))
  replace x57 := x57.tw tw18 (x57.neBx hb4 (by decide))
  replace hb4 : Bx _ _ _ [.int .i64 2, .int .i32 (((ix m.Blocks (Int.toNat ab)).End).Imm), v28, vc2, .int .i64 (s2 + 1)] := bw18
  clear bw18 tw18
  refine LF.nil (PF.next (CF.ret (PF.blockRet (PF.thenRet (PF.blockRet (PF.thenRet (PF.blockRet ?_)))))))
  obtain ⟨Fz19, hxz19, lez19, hinz19, noz19, hrz19⟩ := x28.freezeX hin hx (Nat.le_refl _) (by first | omega | (rw [(stepM_len _ _ _).2]; omega))
  replace hin := hinz19
  replace hx := hxz19
  replace le0 := le0.trans lez19
  replace le1 := le1.trans lez19
  have le2 := lez19
  replace ng2 := (noz19 _ (x28.neBx hb2 (by decide))).trans ng2
  replace ng3 := (noz19 _ (x28.neBx hb3 (by decide))).trans ng3
  replace ng4 := (noz19 _ (x28.neBx hb4 (by decide))).trans ng4
  replace ng5 := (noz19 _ (x28.neBx hb5 (by decide))).trans ng5
  replace ng11 := (noz19 _ (x28.neBx hb11 (by decide))).trans ng11
  replace x30 := x30.frozen lez19 noz19 ap30_28
  replace x9003 := x9003.frozen lez19 noz19 ap9003_28
  replace x57 := x57.frozen lez19 noz19 ap57_28
  obtain ⟨Fz20, hxz20, lez20, hinz20, noz20, hrz20⟩ := x9003.freezeX hin hx (Nat.le_refl _) (by first | (simp only [List.length_append, List.length_take, List.length_drop, List.length_nil, List.length_cons, List.length_set, List.length_replicate]; omega) | (simp; done) | (simp; omega) | omega)
  replace hin := hinz20
  replace hx := hxz20
  replace le0 := le0.trans lez20
  replace le1 := le1.trans lez20
  replace le2 := le2.trans lez20
  have le3 := lez20
  replace ng2 := (noz20 _ (x9003.neBx hb2 (by decide))).trans ng2
  replace ng3 := (noz20 _ (x9003.neBx hb3 (by decide))).trans ng3
  replace ng4 := (noz20 _ (x9003.neBx hb4 (by decide))).trans ng4
  replace ng5 := (noz20 _ (x9003.neBx hb5 (by decide))).trans ng5
  replace ng11 := (noz20 _ (x9003.neBx hb11 (by decide))).trans ng11
  replace x30 := x30.frozen lez20 noz20 ap30_9003
  replace x57 := x57.frozen lez20 noz20 ap57_9003
  have hm : runM m i = (⟨2, ((ix m.Blocks (Int.toNat ab)).End).Imm, me2, cl2, s2 + 1⟩) := by
    first | exact run_wrong (by simpa using hc1) | exact rins_stop hI hc8 | exact ins_trap hI (by omega) hc8 hc12 (by simpa using hc15) | exact end_ret hI (by omega) hc8 hc10 | exact end_trap hI (by omega) hc8 hc10 hc11
  exact PF.retC rfl rfl hb4 Try.agg33 Try.sz33 ⟨_, hx, hin, hkp, by rw [hm]; exact (rOutcome.mk (m := ⟨2, ((ix m.Blocks (Int.toNat ab)).End).Imm, me2, cl2, s2 + 1⟩) (hrz19.up le3) hrz20 (by decide : IntKind.i64.wrap 2 = 2) (rEnd.w_Imm (m := ((ix m.Blocks (Int.toNat ab)).End)) (rMBlock.k_End h56k)) (IntWalk.i64_in (s2 + 1) (by omega)))⟩
  have h8 := hc11
  have htm := ix_mem (l := (ix m.Blocks (Int.toNat ab)).End.To) (i := Int.toNat (goesM (ix m.Blocks (Int.toNat ab)).End rs3)) (by have := hW.goes hat rs3 hc10 hc11; omega)
  refine CF.skip (PF.blockNormal (PF.next (CF.seq (CF.region (LF.step (OpOk.move rfl) (LF.step (OpOk.assign rfl) (LF.nil (PF.next ?_))))))))
  refine CF.any (fun H' => InH Fm H' ∧ Bx H' g2 24 [.int .i64 m.Params, a0c1] ∧ Bx H' g3 27 [a1c0, a1c1, a1c2, .int .i64 i.Steps] ∧ Bx H' g4 33 [.int .i64 0, .int .i32 0, .slice none 0 0, .slice none 0 0, .int .i64 0] ∧ Bx H' g5 33 [.int .i64 0, .int .i32 0, v28, vc2, .int .i64 (s2 + 1)] ∧ Bx H' g11 61 [v56c0, v56c1, .int .i64 (((ix m.Blocks (Int.toNat ab)).End).Op), .int .i64 (((ix m.Blocks (Int.toNat ab)).End).A), .int .i64 (((ix m.Blocks (Int.toNat ab)).End).B), v56c5, .int .i32 (((ix m.Blocks (Int.toNat ab)).End).Imm)] ∧ True) Try.mixed ?_
  refine AF.take 0 rfl (by kernel_rfl) (by kernel_rfl) (by kernel_rfl) ⟨hin, hb2, hb3, hb4, hb5, hb11, trivial⟩ (fun _ ⟨hin, hb2, hb3, hb4, hb5, hb11, _⟩ => OpOk.fieldAddr (Try.fld61_2) rfl) ?_
  refine AF.take 1 rfl (by kernel_rfl) (by kernel_rfl) (by kernel_rfl) ⟨hin, hb2, hb3, hb4, hb5, hb11, trivial⟩ (fun _ ⟨hin, hb2, hb3, hb4, hb5, hb11, _⟩ => OpOk.fieldAddr (Try.fld55_3) rfl) ?_
  refine AF.take 2 rfl (by kernel_rfl) (by kernel_rfl) (by kernel_rfl) ⟨hin, hb2, hb3, hb4, hb5, hb11, trivial⟩ (fun _ ⟨hin, hb2, hb3, hb4, hb5, hb11, _⟩ => OpOk.ldBx hb11 Try.one38 rfl rfl) ?_
  refine AF.take 3 rfl (by kernel_rfl) (by kernel_rfl) (by kernel_rfl) ⟨hin, hb2, hb3, hb4, hb5, hb11, trivial⟩ (fun _ ⟨hin, hb2, hb3, hb4, hb5, hb11, _⟩ => OpOk.fieldAddr (Try.fld61_2) rfl) ?_
  refine AF.take 4 rfl (by kernel_rfl) (by kernel_rfl) (by kernel_rfl) ⟨hin, hb2, hb3, hb4, hb5, hb11, trivial⟩ (fun _ ⟨hin, hb2, hb3, hb4, hb5, hb11, _⟩ => OpOk.ldBxA hb11 Try.agg55 Try.sz55 rfl rfl rfl) ?_
  refine AF.take 5 rfl (by kernel_rfl) (by kernel_rfl) (by kernel_rfl) ⟨hin, hb2, hb3, hb4, hb5, hb11, trivial⟩ (fun _ ⟨hin, hb2, hb3, hb4, hb5, hb11, _⟩ => OpOk.move rfl) ?_
  refine AF.call 6 rfl (by kernel_rfl) (OpCall.fn Try.ent37 rfl rfl) (x30.temp 1073741824 hin (by first | (simp only [List.length_append, List.length_take, List.length_drop, List.length_nil, List.length_cons, List.length_set, List.length_replicate]; omega) | (simp; done) | (simp; omega) | omega) (fun G1 lg1 hin1 hr1 => rGoes_ct hin1 ((rEnd.mk (m := ⟨((ix m.Blocks (Int.toNat ab)).End).Op, ((ix m.Blocks (Int.toNat ab)).End).A, ((ix m.Blocks (Int.toNat ab)).End).B, ((ix m.Blocks (Int.toNat ab)).End).To, ((ix m.Blocks (Int.toNat ab)).End).Imm⟩) (h56c5.up le1) (rEnd.w_Op (m := ((ix m.Blocks (Int.toNat ab)).End)) (rMBlock.k_End h56k)) (rEnd.w_A (m := ((ix m.Blocks (Int.toNat ab)).End)) (rMBlock.k_End h56k)) (rEnd.w_B (m := ((ix m.Blocks (Int.toNat ab)).End)) (rMBlock.k_End h56k)) (rEnd.w_Imm (m := ((ix m.Blocks (Int.toNat ab)).End)) (rMBlock.k_End h56k))).up lg1) hr1)) (by rintro _ _ ⟨_, k⟩; exact ⟨(hin.kp k), (hb2.kp k), (hb3.kp k), (hb4.kp k), (hb5.kp k), (hb11.kp k), trivial⟩) ?_
  rintro _ H246 ⟨rfl, k246⟩
  have zk246 := k246.1
  replace hin := hin.kp k246
  replace hkp := hkp.trans (k246.mono hkp.1)
  replace hb2 := hb2.kp k246
  replace hb3 := hb3.kp k246
  replace hb4 := hb4.kp k246
  replace hb5 := hb5.kp k246
  replace hb11 := hb11.kp k246
  replace x28 := x28.kp k246
  replace x30 := x30.kp k246
  replace x9003 := x9003.kp k246
  replace x57 := x57.kp k246
  have hgo : 0 ≤ goesM (⟨((ix m.Blocks (Int.toNat ab)).End).Op, ((ix m.Blocks (Int.toNat ab)).End).A, ((ix m.Blocks (Int.toNat ab)).End).B, ((ix m.Blocks (Int.toNat ab)).End).To, ((ix m.Blocks (Int.toNat ab)).End).Imm⟩) rs3 ∧ goesM (⟨((ix m.Blocks (Int.toNat ab)).End).Op, ((ix m.Blocks (Int.toNat ab)).End).A, ((ix m.Blocks (Int.toNat ab)).End).B, ((ix m.Blocks (Int.toNat ab)).End).To, ((ix m.Blocks (Int.toNat ab)).End).Imm⟩) rs3 < (ix m.Blocks (Int.toNat ab)).End.To.length := hW.goes hat rs3 hc10 hc11
  refine AF.take 7 rfl (by kernel_rfl) (by kernel_rfl) (by kernel_rfl) ⟨hin, hb2, hb3, hb4, hb5, hb11, trivial⟩ (fun _ ⟨hin, hb2, hb3, hb4, hb5, hb11, _⟩ => OpOk.idxL (i := (Int.toNat (goesM (⟨((ix m.Blocks (Int.toNat ab)).End).Op, ((ix m.Blocks (Int.toNat ab)).End).A, ((ix m.Blocks (Int.toNat ab)).End).B, ((ix m.Blocks (Int.toNat ab)).End).To, ((ix m.Blocks (Int.toNat ab)).End).Imm⟩) rs3))) Try.underlying38 Try.sz3 (h56c5.up le1) rfl rfl (by omega) (by omega)) ?_
  refine AF.take 8 rfl (by kernel_rfl) (by kernel_rfl) (by kernel_rfl) ⟨hin, hb2, hb3, hb4, hb5, hb11, trivial⟩ (fun _ ⟨hin, hb2, hb3, hb4, hb5, hb11, _⟩ => OpOk.ldI hin (rL.ix (h56c5.up le1) (Int.toNat (goesM (⟨((ix m.Blocks (Int.toNat ab)).End).Op, ((ix m.Blocks (Int.toNat ab)).End).A, ((ix m.Blocks (Int.toNat ab)).End).B, ((ix m.Blocks (Int.toNat ab)).End).To, ((ix m.Blocks (Int.toNat ab)).End).Imm⟩) rs3)) (by omega)) Try.one3 rfl) ?_
  refine AF.take 9 rfl (by kernel_rfl) (by kernel_rfl) (by kernel_rfl) ⟨hin, hb2, hb3, hb4, hb5, hb11, trivial⟩ (fun _ ⟨hin, hb2, hb3, hb4, hb5, hb11, _⟩ => OpOk.assign rfl) ?_
  refine AF.done (by kernel_rfl) ?_
  refine PF.blockNormal ?_
  exact PF.again (f - 1, na2, ix (((ix m.Blocks (Int.toNat ab)).End).To) (Int.toNat (goesM (⟨((ix m.Blocks (Int.toNat ab)).End).Op, ((ix m.Blocks (Int.toNat ab)).End).A, ((ix m.Blocks (Int.toNat ab)).End).B, ((ix m.Blocks (Int.toNat ab)).End).To, ((ix m.Blocks (Int.toNat ab)).End).Imm⟩) rs3)), ab, rs3, me2, cl2, s2 + 1, vc2, Fm) ⟨by dsimp only; omega, end_go hI (by omega) hNe h7 h8, by dsimp only; exact (hW.from1 hat htm).1, by dsimp only; exact (hW.from1 hat htm).2, hrl2, hml2, by dsimp only; omega, by dsimp only; omega, by dsimp only; omega, by dsimp only; omega, hna2, hx, le0, hin, hkp, hb2, ng2, hb3, ng3, hb4, ng4, hb5, ng5, x28, x30, x9003, ap28_9003, ap30_9003⟩ ⟨rfl, rfl, rfl, rfl, rfl, rfl, rfl, rfl, trivial⟩ (by omega)
  refine CF.skip (PF.next (CF.seq (CF.region ?_)))
  refine LF.step (OpOk.fieldAddr (Try.fld61_1) rfl) ?_
  refine LF.step (OpOk.ldBx hb11 Try.one59 rfl rfl) ?_
  refine LF.step (OpOk.move rfl) ?_
  refine LF.step (OpOk.idxL (i := k) Try.underlying59 Try.sz40 (h56c1.up le1) rfl rfl rfl (by omega)) ?_
  refine LF.stepE (OpOk.ldA hin (rL.ix (h56c1.up le1) k (by omega)) Try.agg40 Try.sz40 rfl) ?_
  intro v151 h151
  have h151k := rMach.any h151
  obtain ⟨v151c7, rfl, h151c7⟩ := rMach.open h151
  have h151c7q := rL.len2 h151c7
  refine LF.chg (OpCh.allocB Try.zero40 rfl) ?_
  rintro _ H18 ⟨g18, rfl, eg18, sg18, kg18, hb18⟩
  have ng18 := hin.nope (Nat.le_of_eq eg18.symm)
  have lg18 := hkp.1
  have zkg18 := kg18.1
  replace hin := hin.kp kg18
  replace hkp := hkp.trans (kg18.mono hkp.1)
  replace hb2 := hb2.kp kg18
  replace hb3 := hb3.kp kg18
  replace hb4 := hb4.kp kg18
  replace hb5 := hb5.kp kg18
  replace hb11 := hb11.kp kg18
  replace x28 := x28.kp kg18
  replace x30 := x30.kp kg18
  replace x9003 := x9003.kp kg18
  replace x57 := x57.kp kg18
  clear kg18
  refine LF.chg0 (OpCh.storeBA hb18 Try.sz40 rfl rfl rfl (allOne.mem (l := [.int .i64 ((ix ((ix m.Blocks (Int.toNat ab)).Ins) k).Op), .int .i64 ((ix ((ix m.Blocks (Int.toNat ab)).Ins) k).D), .int .i64 ((ix ((ix m.Blocks (Int.toNat ab)).Ins) k).E), .int .i64 ((ix ((ix m.Blocks (Int.toNat ab)).Ins) k).A), .int .i64 ((ix ((ix m.Blocks (Int.toNat ab)).Ins) k).B), .int .i64 ((ix ((ix m.Blocks (Int.toNat ab)).Ins) k).C), .int .i32 ((ix ((ix m.Blocks (Int.toNat ab)).Ins) k).Imm), v151c7]) ⟨rfl, rfl, rfl, rfl, rfl, rfl, rfl, (h151c7.one1), trivial⟩) (by decide)) ?_
  rintro _ Hw21 ⟨tw21, bw21⟩
  have ztw21 := tw21.1
  replace hin := hin.tw tw21 ng18
  replace hkp := Tw.kp' hkp tw21 (by omega)
  replace hb2 := hb2.tw tw21 (Bx.ne hb2 hb18 (by decide))
  replace hb3 := hb3.tw tw21 (Bx.ne hb3 hb18 (by decide))
  replace hb4 := hb4.tw tw21 (Bx.ne hb4 hb18 (by decide))
  replace hb5 := hb5.tw tw21 (Bx.ne hb5 hb18 (by decide))
  replace hb11 := hb11.tw tw21 (Bx.ne hb11 hb18 (by decide))
  replace x28 := x28.tw tw21 (x28.neBx hb18 (by decide))
  replace x30 := x30.tw tw21 (x30.neBx hb18 (by decide))
  replace x9003 := x9003.tw tw21 (x9003.neBx hb18 (by decide))
  replace x57 := x57.tw tw21 (x57.neBx hb18 (by decide))
  replace hb18 : Bx _ _ _ [.int .i64 ((ix ((ix m.Blocks (Int.toNat ab)).Ins) k).Op), .int .i64 ((ix ((ix m.Blocks (Int.toNat ab)).Ins) k).D), .int .i64 ((ix ((ix m.Blocks (Int.toNat ab)).Ins) k).E), .int .i64 ((ix ((ix m.Blocks (Int.toNat ab)).Ins) k).A), .int .i64 ((ix ((ix m.Blocks (Int.toNat ab)).Ins) k).B), .int .i64 ((ix ((ix m.Blocks (Int.toNat ab)).Ins) k).C), .int .i32 ((ix ((ix m.Blocks (Int.toNat ab)).Ins) k).Imm), v151c7] := bw21
  clear bw21 tw21
  refine LF.nil (PF.next (CF.seq (CF.seq (CF.region ?_))))
  refine LF.step (OpOk.fieldAddr (Try.fld40_0) rfl) ?_
  refine LF.step (OpOk.ldBx hb18 Try.one3 rfl rfl) ?_
  refine LF.step (OpOk.eql rfl rfl) ?_
  refine LF.nil (PF.next ?_)
  refine CF.if rfl (fun hc12 => ?_) (fun hc12 => ?_)
  have h28 := hc12
  have hi28 := hW.ins _ (ix_mem (l := m.Blocks) (i := Int.toNat ab) (by omega)) _ (ix_mem (l := (ix m.Blocks (Int.toNat ab)).Ins) (i := k) (by omega)) hc12
  obtain ⟨hD0, hD1, hA4, hAr⟩ := hi28
  refine CF.seq (CF.region ?_)
  refine LF.step (OpOk.fieldAddr (Try.fld40_6) rfl) ?_
  refine LF.step (OpOk.ldBx hb18 Try.one21 rfl rfl) ?_
  refine LF.step (OpOk.build (v := .agg #[.int .i32 ((ix ((ix m.Blocks (Int.toNat ab)).Ins) k).Imm), .slice none 0 0]) rfl (fun w => by kernel_rfl)) ?_
  refine LF.chg (OpCh.allocB Try.zero75 rfl) ?_
  rintro _ H19 ⟨g19, rfl, eg19, sg19, kg19, hb19⟩
  have ng19 := hin.nope (Nat.le_of_eq eg19.symm)
  have lg19 := hkp.1
  have nq9003_19 : (vc2 : Value).ownBlock ≠ some g19 := fun h9 => by have := x9003.lt _ h9; omega
  have zkg19 := kg19.1
  replace hin := hin.kp kg19
  replace hkp := hkp.trans (kg19.mono hkp.1)
  replace hb2 := hb2.kp kg19
  replace hb3 := hb3.kp kg19
  replace hb4 := hb4.kp kg19
  replace hb5 := hb5.kp kg19
  replace hb11 := hb11.kp kg19
  replace hb18 := hb18.kp kg19
  replace x28 := x28.kp kg19
  replace x30 := x30.kp kg19
  replace x9003 := x9003.kp kg19
  replace x57 := x57.kp kg19
  clear kg19
  refine LF.chg0 (OpCh.storeBA hb19 Try.sz75 rfl rfl rfl (allOne.mem (l := [.int .i32 ((ix ((ix m.Blocks (Int.toNat ab)).Ins) k).Imm), .slice none 0 0]) ⟨rfl, rfl, trivial⟩) (by decide)) ?_
  rintro _ Hw22 ⟨tw22, bw22⟩
  have ztw22 := tw22.1
  replace hin := hin.tw tw22 ng19
  replace hkp := Tw.kp' hkp tw22 (by omega)
  replace hb2 := hb2.tw tw22 (Bx.ne hb2 hb19 (by decide))
  replace hb3 := hb3.tw tw22 (Bx.ne hb3 hb19 (by decide))
  replace hb4 := hb4.tw tw22 (Bx.ne hb4 hb19 (by decide))
  replace hb5 := hb5.tw tw22 (Bx.ne hb5 hb19 (by decide))
  replace hb11 := hb11.tw tw22 (Bx.ne hb11 hb19 (by decide))
  replace hb18 := hb18.tw tw22 (Bx.ne hb18 hb19 (by decide))
  replace x28 := x28.tw tw22 (x28.neBx hb19 (by decide))
  replace x30 := x30.tw tw22 (x30.neBx hb19 (by decide))
  replace x9003 := x9003.tw tw22 (by first | exact x9003.neLt (by omega) | exact nq9003_19)
  replace x57 := x57.tw tw22 (x57.neBx hb19 (by decide))
  replace hb19 : Bx _ _ _ [.int .i32 ((ix ((ix m.Blocks (Int.toNat ab)).Ins) k).Imm), .slice none 0 0] := bw22
  clear bw22 tw22
  refine LF.nil (PF.next (CF.seq (CF.seq (CF.region (LF.step (OpOk.assign rfl) (LF.nil (PF.next (CF.block ?_))))))))
  have x9019 := (fun (H9 : Heap) (_ : InH Fm H9) => (Gl.nil Fm H9 H.size : Gl (rI .i32) 21 Fm H9 H.size (.slice none 0 0) [])) _ hin
  have ap9019_28 : ∀ k9, (Value.slice none 0 0).ownBlock = some k9 → (v28 : Value).ownBlock ≠ some k9 := fun _ h9 => by cases h9
  have ap28_9019 := ap_sym ap9019_28
  have ap9019_30 : ∀ k9, (Value.slice none 0 0).ownBlock = some k9 → (.slice (some ⟨g30, 0, none⟩) 8192 8192 : Value).ownBlock ≠ some k9 := fun _ h9 => by cases h9
  have ap30_9019 := ap_sym ap9019_30
  have ap9019_9003 : ∀ k9, (Value.slice none 0 0).ownBlock = some k9 → (vc2 : Value).ownBlock ≠ some k9 := fun _ h9 => by cases h9
  have ap9003_9019 := ap_sym ap9019_9003
  have ap9019_57 : ∀ k9, (Value.slice none 0 0).ownBlock = some k9 → (vv : Value).ownBlock ≠ some k9 := fun _ h9 => by cases h9
  have ap57_9019 := ap_sym ap9019_57
  refine CF.loop (ι := Nat × List Int × Value) (fun z9 H1 => z9.1 ≤ (ix (ix m.Blocks (Int.toNat ab)).Ins k).Args.length ∧ z9.2.1 = ((ix (ix m.Blocks (Int.toNat ab)).Ins k).Args.take z9.1).map (fun r => ix rs3 (Int.toNat r)) ∧ InH Fm H1 ∧ Kp H.size H H1 ∧ Bx H1 g2 24 [.int .i64 m.Params, a0c1] ∧ Bx H1 g3 27 [a1c0, a1c1, a1c2, .int .i64 i.Steps] ∧ Bx H1 g4 33 [.int .i64 0, .int .i32 0, .slice none 0 0, .slice none 0 0, .int .i64 0] ∧ Bx H1 g5 33 [.int .i64 0, .int .i32 0, v28, vc2, .int .i64 (s2 + 1)] ∧ Bx H1 g11 61 [v56c0, v56c1, .int .i64 (((ix m.Blocks (Int.toNat ab)).End).Op), .int .i64 (((ix m.Blocks (Int.toNat ab)).End).A), .int .i64 (((ix m.Blocks (Int.toNat ab)).End).B), v56c5, .int .i32 (((ix m.Blocks (Int.toNat ab)).End).Imm)] ∧ Bx H1 g18 40 [.int .i64 ((ix ((ix m.Blocks (Int.toNat ab)).Ins) k).Op), .int .i64 ((ix ((ix m.Blocks (Int.toNat ab)).Ins) k).D), .int .i64 ((ix ((ix m.Blocks (Int.toNat ab)).Ins) k).E), .int .i64 ((ix ((ix m.Blocks (Int.toNat ab)).Ins) k).A), .int .i64 ((ix ((ix m.Blocks (Int.toNat ab)).Ins) k).B), .int .i64 ((ix ((ix m.Blocks (Int.toNat ab)).Ins) k).C), .int .i32 ((ix ((ix m.Blocks (Int.toNat ab)).Ins) k).Imm), v151c7] ∧ Bx H1 g19 75 [.int .i32 ((ix ((ix m.Blocks (Int.toNat ab)).Ins) k).Imm), z9.2.2] ∧ Gl (rI .i32) 21 Fm H1 H.size v28 me2 ∧ Gl (rI .i32) 21 Fm H1 H.size (.slice (some ⟨g30, 0, none⟩) 8192 8192) rs3 ∧ Gl rEvent 75 Fm H1 H.size vc2 cl2 ∧ Gl (rI .i32) 21 Fm H1 H.size vv vs ∧ Gl (rI .i32) 21 Fm H1 H.size z9.2.2 z9.2.1 ∧ (∀ k9, (v28 : Value).ownBlock = some k9 → (z9.2.2 : Value).ownBlock ≠ some k9) ∧ (∀ k9, (.slice (some ⟨g30, 0, none⟩) 8192 8192 : Value).ownBlock = some k9 → (z9.2.2 : Value).ownBlock ≠ some k9) ∧ (∀ k9, (vc2 : Value).ownBlock = some k9 → (z9.2.2 : Value).ownBlock ≠ some k9) ∧ (∀ k9, (vv : Value).ownBlock = some k9 → (z9.2.2 : Value).ownBlock ≠ some k9)) (fun z9 => [(2, .pointer (some ⟨g2, 0, none⟩)), (3, .pointer (some ⟨g3, 0, none⟩)), (4, .pointer (some ⟨g4, 0, none⟩)), (5, .pointer (some ⟨g5, 0, none⟩)), (6, .slice (some ⟨g30, 0, none⟩) 8192 8192), (8, .int .i64 (↑na2)), (9, .int .i64 ab), (10, .int .i64 fb), (11, .pointer (some ⟨g11, 0, none⟩)), (17, .int .i64 (↑k)), (18, .pointer (some ⟨g18, 0, none⟩)), (19, .pointer (some ⟨g19, 0, none⟩)), (20, .int .i64 (↑z9.1))]) (fun z9 => (ix (ix m.Blocks (Int.toNat ab)).Ins k).Args.length - z9.1) (0, [], .slice none 0 0) ⟨by dsimp only; omega, rfl, hin, hkp, hb2, hb3, hb4, hb5, hb11, hb18, hb19, x28, x30, x9003, x57, x9019, ap28_9019, ap30_9019, ap9003_9019, ap57_9019⟩ ⟨rfl, rfl, rfl, rfl, rfl, rfl, rfl, rfl, rfl, rfl, rfl, rfl, eqI (by omega), trivial⟩ ?_
  clear hin hkp hb2 hb3 hb4 hb5 hb11 hb18 hb19 x28 x30 x9003 x57 x9019 ap28_9019 ap30_9019 ap9003_9019 ap57_9019
  rintro ⟨j, ea, ve⟩ H1 ⟨hj, hea, hin, hkp, hb2, hb3, hb4, hb5, hb11, hb18, hb19, x28, x30, x9003, x57, x9019, ap28_9019, ap30_9019, ap9003_9019, ap57_9019⟩
  dsimp only at hj hea hb2 hb3 hb4 hb5 hb11 hb18 hb19 x28 x30 x9003 x57 x9019 ap28_9019 ap30_9019 ap9003_9019 ap57_9019 ⊢
  have ap9019_28 := ap_sym ap28_9019
  have ap9019_30 := ap_sym ap30_9019
  have ap9019_9003 := ap_sym ap9003_9019
  have ap9019_57 := ap_sym ap57_9019
  have hel : ea.length = j := by rw [hea]; simp; omega
  refine CF.seq (CF.seq (CF.region (LF.step (OpOk.move rfl) ?_)))
  refine LF.step (OpOk.fieldAddr (Try.fld40_7) rfl) ?_
  refine LF.step (OpOk.ldBx hb18 Try.one38 rfl rfl) ?_
  refine LF.step (OpOk.lenL Try.underlying38 h151c7 rfl) ?_
  refine LF.step (OpOk.lss rfl rfl) ?_
  refine LF.nil (PF.next ?_)
  refine CF.if rfl (fun hc13 => ?_) (fun hc13 => ?_)
  have har := hAr _ (ix_mem (l := (ix (ix m.Blocks (Int.toNat ab)).Ins k).Args) (i := j) (by omega))
  refine CF.skip (PF.next (CF.seq (CF.block ?_)))
  refine CF.any (fun H' => InH Fm H' ∧ Bx H' g2 24 [.int .i64 m.Params, a0c1] ∧ Bx H' g3 27 [a1c0, a1c1, a1c2, .int .i64 i.Steps] ∧ Bx H' g4 33 [.int .i64 0, .int .i32 0, .slice none 0 0, .slice none 0 0, .int .i64 0] ∧ Bx H' g5 33 [.int .i64 0, .int .i32 0, v28, vc2, .int .i64 (s2 + 1)] ∧ Bx H' g11 61 [v56c0, v56c1, .int .i64 (((ix m.Blocks (Int.toNat ab)).End).Op), .int .i64 (((ix m.Blocks (Int.toNat ab)).End).A), .int .i64 (((ix m.Blocks (Int.toNat ab)).End).B), v56c5, .int .i32 (((ix m.Blocks (Int.toNat ab)).End).Imm)] ∧ Bx H' g18 40 [.int .i64 ((ix ((ix m.Blocks (Int.toNat ab)).Ins) k).Op), .int .i64 ((ix ((ix m.Blocks (Int.toNat ab)).Ins) k).D), .int .i64 ((ix ((ix m.Blocks (Int.toNat ab)).Ins) k).E), .int .i64 ((ix ((ix m.Blocks (Int.toNat ab)).Ins) k).A), .int .i64 ((ix ((ix m.Blocks (Int.toNat ab)).Ins) k).B), .int .i64 ((ix ((ix m.Blocks (Int.toNat ab)).Ins) k).C), .int .i32 ((ix ((ix m.Blocks (Int.toNat ab)).Ins) k).Imm), v151c7] ∧ True) Try.mixed ?_
  refine AF.take 0 rfl (by kernel_rfl) (by kernel_rfl) (by kernel_rfl) ⟨hin, hb2, hb3, hb4, hb5, hb11, hb18, trivial⟩ (fun _ ⟨hin, hb2, hb3, hb4, hb5, hb11, hb18, _⟩ => OpOk.fieldAddr (Try.fld75_1) rfl) ?_
  refine AF.take 2 rfl (by kernel_rfl) (by kernel_rfl) (by kernel_rfl) ⟨hin, hb2, hb3, hb4, hb5, hb11, hb18, trivial⟩ (fun _ ⟨hin, hb2, hb3, hb4, hb5, hb11, hb18, _⟩ => OpOk.move rfl) ?_
  refine AF.take 3 rfl (by kernel_rfl) (by kernel_rfl) (by kernel_rfl) ⟨hin, hb2, hb3, hb4, hb5, hb11, hb18, trivial⟩ (fun _ ⟨hin, hb2, hb3, hb4, hb5, hb11, hb18, _⟩ => OpOk.fieldAddr (Try.fld40_7) rfl) ?_
  refine AF.take 4 rfl (by kernel_rfl) (by kernel_rfl) (by kernel_rfl) ⟨hin, hb2, hb3, hb4, hb5, hb11, hb18, trivial⟩ (fun _ ⟨hin, hb2, hb3, hb4, hb5, hb11, hb18, _⟩ => OpOk.ldBx hb18 Try.one38 rfl rfl) ?_
  refine AF.take 5 rfl (by kernel_rfl) (by kernel_rfl) (by kernel_rfl) ⟨hin, hb2, hb3, hb4, hb5, hb11, hb18, trivial⟩ (fun _ ⟨hin, hb2, hb3, hb4, hb5, hb11, hb18, _⟩ => OpOk.move rfl) ?_
  refine AF.take 6 rfl (by kernel_rfl) (by kernel_rfl) (by kernel_rfl) ⟨hin, hb2, hb3, hb4, hb5, hb11, hb18, trivial⟩ (fun _ ⟨hin, hb2, hb3, hb4, hb5, hb11, hb18, _⟩ => OpOk.idxL (i := j) Try.underlying38 Try.sz3 h151c7 rfl rfl rfl (by omega)) ?_
  refine AF.take 7 rfl (by kernel_rfl) (by kernel_rfl) (by kernel_rfl) ⟨hin, hb2, hb3, hb4, hb5, hb11, hb18, trivial⟩ (fun _ ⟨hin, hb2, hb3, hb4, hb5, hb11, hb18, _⟩ => OpOk.ldI hin (rL.ix h151c7 j (by omega)) Try.one3 rfl) ?_
  refine AF.two 1 8 (by kernel_rfl) ?_ ?_
  refine AFN.step rfl (OpOk.ldBx hb19 Try.one25 rfl rfl) ⟨hin, hb2, hb3, hb4, hb5, hb11, hb18, trivial⟩ ?_
  refine AF.one 8 (by kernel_rfl) ?_
  refine AFN.step rfl (OpOk.idxG (i := (Int.toNat (ix ((ix ((ix m.Blocks (Int.toNat ab)).Ins) k).Args) j))) Try.underlying25 Try.sz21 x30 rfl rfl (by omega) (by first | omega | (simp only [List.length_replicate, List.length_set, List.length_append, List.length_cons, List.length_nil]; omega))) ⟨hin, hb2, hb3, hb4, hb5, hb11, hb18, trivial⟩ ?_
  refine AF.one 9 (by kernel_rfl) ?_
  refine AFN.step rfl (OpOk.ldGI x30 (by first | omega | (simp only [List.length_replicate, List.length_set, List.length_append, List.length_cons, List.length_nil]; omega)) Try.one21 rfl) ⟨hin, hb2, hb3, hb4, hb5, hb11, hb18, trivial⟩ ?_
  refine AF.one 10 (by kernel_rfl) ?_
  refine AFN.chg rfl (OpCh.litL (F := Fm) (r := (rI .i32)) (l := [ix rs3 (Int.toNat (ix ((ix ((ix m.Blocks (Int.toNat ab)).Ins) k).Args) j))]) (us := [.int .i32 (ix rs3 (Int.toNat (ix ((ix ((ix m.Blocks (Int.toNat ab)).Ins) k).Args) j)))]) (cs := [[.int .i32 (ix rs3 (Int.toNat (ix ((ix ((ix m.Blocks (Int.toNat ab)).Ins) k).Args) j)))]]) Try.underlying25 Try.info21 (by decide) rfl rfl rfl ⟨rfl, rfl, ⟨rfl, (Gl.wr x30 (by omega))⟩, trivial⟩) ?_
  rintro _ H175 ⟨g175, rfl, e175, s175, k175, x175⟩
  have l175 := hkp.1
  have ap28_175 := ap_new x28.lt (x175 hin).ge
  have ap30_175 := ap_new x30.lt (x175 hin).ge
  have ap9003_175 := ap_new x9003.lt (x175 hin).ge
  have ap57_175 := ap_new x57.lt (x175 hin).ge
  have ap9019_175 := ap_new x9019.lt (x175 hin).ge
  replace x175 := (x175 hin).base l175
  have zk175 := k175.1
  replace hin := hin.kp k175
  replace hkp := hkp.trans (k175.mono hkp.1)
  replace hb2 := hb2.kp k175
  replace hb3 := hb3.kp k175
  replace hb4 := hb4.kp k175
  replace hb5 := hb5.kp k175
  replace hb11 := hb11.kp k175
  replace hb18 := hb18.kp k175
  replace hb19 := hb19.kp k175
  replace x28 := x28.kp k175
  replace x30 := x30.kp k175
  replace x9003 := x9003.kp k175
  replace x57 := x57.kp k175
  replace x9019 := x9019.kp k175
  have ap175_28 := ap_sym ap28_175
  have ap175_30 := ap_sym ap30_175
  have ap175_9003 := ap_sym ap9003_175
  have ap175_57 := ap_sym ap57_175
  have ap175_9019 := ap_sym ap9019_175
  refine ⟨⟨hin, hb2, hb3, hb4, hb5, hb11, hb18, trivial⟩, ?_⟩
  refine AF.one 11 (by kernel_rfl) ?_
  obtain ⟨u176, hu176, hr176⟩ := x175.cell0 (i := 0) (by simp) rfl
  refine AFN.chg rfl (OpCh.appG1 (r := (rI .i32)) (a := ix rs3 (Int.toNat (ix ((ix ((ix m.Blocks (Int.toNat ab)).Ins) k).Args) j))) Try.underlying25 Try.info21 (by decide) rfl rfl rfl rfl hu176 hr176 x9019 hin (by first | (simp only [List.length_append, List.length_take, List.length_drop, List.length_nil, List.length_cons, List.length_set, List.length_replicate]; omega) | (simp; done) | (simp; omega) | omega) (by omega)) ?_
  rintro v176 H176 ⟨x176, gb176, ob176⟩
  replace hin := hin.grown gb176 x9019.no
  replace hkp := gb176.kp hkp (Nat.le_refl _) (fun k0 hk0 => (x9019.blk k0 hk0).1)
  replace hb2 := hb2.of (gb176.2 _ hb2.lt (Ne.symm (by first | exact x9019.neBx hb2 (by decide) | exact nq9019_2)))
  replace hb3 := hb3.of (gb176.2 _ hb3.lt (Ne.symm (by first | exact x9019.neBx hb3 (by decide) | exact nq9019_3)))
  replace hb4 := hb4.of (gb176.2 _ hb4.lt (Ne.symm (by first | exact x9019.neBx hb4 (by decide) | exact nq9019_4)))
  replace hb5 := hb5.of (gb176.2 _ hb5.lt (Ne.symm (by first | exact x9019.neBx hb5 (by decide) | exact nq9019_5)))
  replace hb11 := hb11.of (gb176.2 _ hb11.lt (Ne.symm (by first | exact x9019.neBx hb11 (by decide) | exact nq9019_11)))
  replace hb18 := hb18.of (gb176.2 _ hb18.lt (Ne.symm (by first | exact x9019.neBx hb18 (by decide) | exact nq9019_18)))
  replace hb19 := hb19.of (gb176.2 _ hb19.lt (Ne.symm (by first | exact x9019.neBx hb19 (by decide) | exact nq9019_19)))
  have ap176_28 := ap_grow ap9019_28 x28.lt (ob_some ob176)
  have ap28_176 := ap_sym ap176_28
  replace x28 := x28.of (fun k0 hk0 => gb176.2 k0 (x28.blk k0 hk0).2 (fun e9 => ap9019_28 _ e9.symm hk0))
  have ap176_30 := ap_grow ap9019_30 x30.lt (ob_some ob176)
  have ap30_176 := ap_sym ap176_30
  replace x30 := x30.of (fun k0 hk0 => gb176.2 k0 (x30.blk k0 hk0).2 (fun e9 => ap9019_30 _ e9.symm hk0))
  have ap176_9003 := ap_grow ap9019_9003 x9003.lt (ob_some ob176)
  have ap9003_176 := ap_sym ap176_9003
  replace x9003 := x9003.of (fun k0 hk0 => gb176.2 k0 (x9003.blk k0 hk0).2 (fun e9 => ap9019_9003 _ e9.symm hk0))
  have ap176_57 := ap_grow ap9019_57 x57.lt (ob_some ob176)
  have ap57_176 := ap_sym ap176_57
  replace x57 := x57.of (fun k0 hk0 => gb176.2 k0 (x57.blk k0 hk0).2 (fun e9 => ap9019_57 _ e9.symm hk0))
  refine ⟨⟨hin, hb2, hb3, hb4, hb5, hb11, hb18, trivial⟩, ?_⟩
  refine AF.take 12 rfl (by kernel_rfl) (by kernel_rfl) (by kernel_rfl) ⟨hin, hb2, hb3, hb4, hb5, hb11, hb18, trivial⟩ (fun _ ⟨hin, hb2, hb3, hb4, hb5, hb11, hb18, _⟩ => OpOk.fieldAddr (Try.fld75_1) rfl) ?_
  refine AF.one 13 (by kernel_rfl) ?_
  refine AFN.chg0 rfl (OpCh.storeB hb19 Try.sz25 rfl rfl x176.one1 (by first | decide | (simp; done))) ?_
  rintro _ Hw23 ⟨tw23, bw23⟩
  have ztw23 := tw23.1
  replace hin := hin.tw tw23 ng19
  replace hkp := Tw.kp' hkp tw23 (by omega)
  replace hb2 := hb2.tw tw23 (Bx.ne hb2 hb19 (by decide))
  replace hb3 := hb3.tw tw23 (Bx.ne hb3 hb19 (by decide))
  replace hb4 := hb4.tw tw23 (Bx.ne hb4 hb19 (by decide))
  replace hb5 := hb5.tw tw23 (Bx.ne hb5 hb19 (by decide))
  replace hb11 := hb11.tw tw23 (Bx.ne hb11 hb19 (by decide))
  replace hb18 := hb18.tw tw23 (Bx.ne hb18 hb19 (by decide))
  replace x28 := x28.tw tw23 (x28.neBx hb19 (by decide))
  replace x30 := x30.tw tw23 (x30.neBx hb19 (by decide))
  replace x9003 := x9003.tw tw23 (by first | exact x9003.neLt (by omega) | exact nq9003_19)
  replace x57 := x57.tw tw23 (x57.neBx hb19 (by decide))
  replace x176 := x176.tw tw23 (x176.neBx hb19 (by decide))
  replace hb19 : Bx _ _ _ [.int .i32 ((ix ((ix m.Blocks (Int.toNat ab)).Ins) k).Imm), v176] := bw23
  clear bw23 tw23
  refine ⟨⟨hin, hb2, hb3, hb4, hb5, hb11, hb18, trivial⟩, ?_⟩
  refine AF.done (by kernel_rfl) ?_
  refine PF.blockNormal (PF.next (CF.region (LF.step (OpOk.move rfl) ?_)))
  refine LF.step (OpOk.add rfl rfl (by omega)) ?_
  refine LF.step (OpOk.assign rfl) (LF.nil ?_)
  exact PF.again (j + 1, ea ++ ([ix rs3 (Int.toNat (ix ((ix ((ix m.Blocks (Int.toNat ab)).Ins) k).Args) j))]), v176) ⟨by dsimp only; omega, by dsimp only; rw [hea, take_ix (by omega), List.map_append]; rfl, hin, hkp, hb2, hb3, hb4, hb5, hb11, hb18, hb19, x28, x30, x9003, x57, x176, ap28_176, ap30_176, ap9003_176, ap57_176⟩ ⟨rfl, rfl, rfl, rfl, rfl, rfl, rfl, rfl, rfl, rfl, rfl, rfl, eqI (by omega), trivial⟩ (by omega)
  refine AFN.step rfl (OpOk.idxG (i := (Int.toNat (ix ((ix ((ix m.Blocks (Int.toNat ab)).Ins) k).Args) j))) Try.underlying25 Try.sz21 x30 rfl rfl (by omega) (by first | omega | (simp only [List.length_replicate, List.length_set, List.length_append, List.length_cons, List.length_nil]; omega))) ⟨hin, hb2, hb3, hb4, hb5, hb11, hb18, trivial⟩ ?_
  refine AF.two 1 9 (by kernel_rfl) ?_ ?_
  refine AFN.step rfl (OpOk.ldBx hb19 Try.one25 rfl rfl) ⟨hin, hb2, hb3, hb4, hb5, hb11, hb18, trivial⟩ ?_
  refine AF.one 9 (by kernel_rfl) ?_
  refine AFN.step rfl (OpOk.ldGI x30 (by first | omega | (simp only [List.length_replicate, List.length_set, List.length_append, List.length_cons, List.length_nil]; omega)) Try.one21 rfl) ⟨hin, hb2, hb3, hb4, hb5, hb11, hb18, trivial⟩ ?_
  refine AF.one 10 (by kernel_rfl) ?_
  refine AFN.chg rfl (OpCh.litL (F := Fm) (r := (rI .i32)) (l := [ix rs3 (Int.toNat (ix ((ix ((ix m.Blocks (Int.toNat ab)).Ins) k).Args) j))]) (us := [.int .i32 (ix rs3 (Int.toNat (ix ((ix ((ix m.Blocks (Int.toNat ab)).Ins) k).Args) j)))]) (cs := [[.int .i32 (ix rs3 (Int.toNat (ix ((ix ((ix m.Blocks (Int.toNat ab)).Ins) k).Args) j)))]]) Try.underlying25 Try.info21 (by decide) rfl rfl rfl ⟨rfl, rfl, ⟨rfl, (Gl.wr x30 (by omega))⟩, trivial⟩) ?_
  rintro _ H175 ⟨g175, rfl, e175, s175, k175, x175⟩
  have l175 := hkp.1
  have ap28_175 := ap_new x28.lt (x175 hin).ge
  have ap30_175 := ap_new x30.lt (x175 hin).ge
  have ap9003_175 := ap_new x9003.lt (x175 hin).ge
  have ap57_175 := ap_new x57.lt (x175 hin).ge
  have ap9019_175 := ap_new x9019.lt (x175 hin).ge
  replace x175 := (x175 hin).base l175
  have zk175 := k175.1
  replace hin := hin.kp k175
  replace hkp := hkp.trans (k175.mono hkp.1)
  replace hb2 := hb2.kp k175
  replace hb3 := hb3.kp k175
  replace hb4 := hb4.kp k175
  replace hb5 := hb5.kp k175
  replace hb11 := hb11.kp k175
  replace hb18 := hb18.kp k175
  replace hb19 := hb19.kp k175
  replace x28 := x28.kp k175
  replace x30 := x30.kp k175
  replace x9003 := x9003.kp k175
  replace x57 := x57.kp k175
  replace x9019 := x9019.kp k175
  have ap175_28 := ap_sym ap28_175
  have ap175_30 := ap_sym ap30_175
  have ap175_9003 := ap_sym ap9003_175
  have ap175_57 := ap_sym ap57_175
  have ap175_9019 := ap_sym ap9019_175
  refine ⟨⟨hin, hb2, hb3, hb4, hb5, hb11, hb18, trivial⟩, ?_⟩
  refine AF.one 11 (by kernel_rfl) ?_
  obtain ⟨u176, hu176, hr176⟩ := x175.cell0 (i := 0) (by simp) rfl
  refine AFN.chg rfl (OpCh.appG1 (r := (rI .i32)) (a := ix rs3 (Int.toNat (ix ((ix ((ix m.Blocks (Int.toNat ab)).Ins) k).Args) j))) Try.underlying25 Try.info21 (by decide) rfl rfl rfl rfl hu176 hr176 x9019 hin (by first | (simp only [List.length_append, List.length_take, List.length_drop, List.length_nil, List.length_cons, List.length_set, List.length_replicate]; omega) | (simp; done) | (simp; omega) | omega) (by omega)) ?_
  rintro v176 H176 ⟨x176, gb176, ob176⟩
  replace hin := hin.grown gb176 x9019.no
  replace hkp := gb176.kp hkp (Nat.le_refl _) (fun k0 hk0 => (x9019.blk k0 hk0).1)
  replace hb2 := hb2.of (gb176.2 _ hb2.lt (Ne.symm (by first | exact x9019.neBx hb2 (by decide) | exact nq9019_2)))
  replace hb3 := hb3.of (gb176.2 _ hb3.lt (Ne.symm (by first | exact x9019.neBx hb3 (by decide) | exact nq9019_3)))
  replace hb4 := hb4.of (gb176.2 _ hb4.lt (Ne.symm (by first | exact x9019.neBx hb4 (by decide) | exact nq9019_4)))
  replace hb5 := hb5.of (gb176.2 _ hb5.lt (Ne.symm (by first | exact x9019.neBx hb5 (by decide) | exact nq9019_5)))
  replace hb11 := hb11.of (gb176.2 _ hb11.lt (Ne.symm (by first | exact x9019.neBx hb11 (by decide) | exact nq9019_11)))
  replace hb18 := hb18.of (gb176.2 _ hb18.lt (Ne.symm (by first | exact x9019.neBx hb18 (by decide) | exact nq9019_18)))
  replace hb19 := hb19.of (gb176.2 _ hb19.lt (Ne.symm (by first | exact x9019.neBx hb19 (by decide) | exact nq9019_19)))
  have ap176_28 := ap_grow ap9019_28 x28.lt (ob_some ob176)
  have ap28_176 := ap_sym ap176_28
  replace x28 := x28.of (fun k0 hk0 => gb176.2 k0 (x28.blk k0 hk0).2 (fun e9 => ap9019_28 _ e9.symm hk0))
  have ap176_30 := ap_grow ap9019_30 x30.lt (ob_some ob176)
  have ap30_176 := ap_sym ap176_30
  replace x30 := x30.of (fun k0 hk0 => gb176.2 k0 (x30.blk k0 hk0).2 (fun e9 => ap9019_30 _ e9.symm hk0))
  have ap176_9003 := ap_grow ap9019_9003 x9003.lt (ob_some ob176)
  have ap9003_176 := ap_sym ap176_9003
  replace x9003 := x9003.of (fun k0 hk0 => gb176.2 k0 (x9003.blk k0 hk0).2 (fun e9 => ap9019_9003 _ e9.symm hk0))
  have ap176_57 := ap_grow ap9019_57 x57.lt (ob_some ob176)
  have ap57_176 := ap_sym ap176_57
  replace x57 := x57.of (fun k0 hk0 => gb176.2 k0 (x57.blk k0 hk0).2 (fun e9 => ap9019_57 _ e9.symm hk0))
  refine ⟨⟨hin, hb2, hb3, hb4, hb5, hb11, hb18, trivial⟩, ?_⟩
  refine AF.take 12 rfl (by kernel_rfl) (by kernel_rfl) (by kernel_rfl) ⟨hin, hb2, hb3, hb4, hb5, hb11, hb18, trivial⟩ (fun _ ⟨hin, hb2, hb3, hb4, hb5, hb11, hb18, _⟩ => OpOk.fieldAddr (Try.fld75_1) rfl) ?_
  refine AF.one 13 (by kernel_rfl) ?_
  refine AFN.chg0 rfl (OpCh.storeB hb19 Try.sz25 rfl rfl x176.one1 (by first | decide | (simp; done))) ?_
  rintro _ Hw24 ⟨tw24, bw24⟩
  have ztw24 := tw24.1
  replace hin := hin.tw tw24 ng19
  replace hkp := Tw.kp' hkp tw24 (by omega)
  replace hb2 := hb2.tw tw24 (Bx.ne hb2 hb19 (by decide))
  replace hb3 := hb3.tw tw24 (Bx.ne hb3 hb19 (by decide))
  replace hb4 := hb4.tw tw24 (Bx.ne hb4 hb19 (by decide))
  replace hb5 := hb5.tw tw24 (Bx.ne hb5 hb19 (by decide))
  replace hb11 := hb11.tw tw24 (Bx.ne hb11 hb19 (by decide))
  replace hb18 := hb18.tw tw24 (Bx.ne hb18 hb19 (by decide))
  replace x28 := x28.tw tw24 (x28.neBx hb19 (by decide))
  replace x30 := x30.tw tw24 (x30.neBx hb19 (by decide))
  replace x9003 := x9003.tw tw24 (by first | exact x9003.neLt (by omega) | exact nq9003_19)
  replace x57 := x57.tw tw24 (x57.neBx hb19 (by decide))
  replace x176 := x176.tw tw24 (x176.neBx hb19 (by decide))
  replace hb19 : Bx _ _ _ [.int .i32 ((ix ((ix m.Blocks (Int.toNat ab)).Ins) k).Imm), v176] := bw24
  clear bw24 tw24
  refine ⟨⟨hin, hb2, hb3, hb4, hb5, hb11, hb18, trivial⟩, ?_⟩
  refine AF.done (by kernel_rfl) ?_
  refine PF.blockNormal (PF.next (CF.region (LF.step (OpOk.move rfl) ?_)))
  refine LF.step (OpOk.add rfl rfl (by omega)) ?_
  refine LF.step (OpOk.assign rfl) (LF.nil ?_)
  exact PF.again (j + 1, ea ++ ([ix rs3 (Int.toNat (ix ((ix ((ix m.Blocks (Int.toNat ab)).Ins) k).Args) j))]), v176) ⟨by dsimp only; omega, by dsimp only; rw [hea, take_ix (by omega), List.map_append]; rfl, hin, hkp, hb2, hb3, hb4, hb5, hb11, hb18, hb19, x28, x30, x9003, x57, x176, ap28_176, ap30_176, ap9003_176, ap57_176⟩ ⟨rfl, rfl, rfl, rfl, rfl, rfl, rfl, rfl, rfl, rfl, rfl, rfl, eqI (by omega), trivial⟩ (by omega)
  refine AFN.step rfl (OpOk.ldGI x30 (by first | omega | (simp only [List.length_replicate, List.length_set, List.length_append, List.length_cons, List.length_nil]; omega)) Try.one21 rfl) ⟨hin, hb2, hb3, hb4, hb5, hb11, hb18, trivial⟩ ?_
  refine AF.two 1 10 (by kernel_rfl) ?_ ?_
  refine AFN.step rfl (OpOk.ldBx hb19 Try.one25 rfl rfl) ⟨hin, hb2, hb3, hb4, hb5, hb11, hb18, trivial⟩ ?_
  refine AF.one 10 (by kernel_rfl) ?_
  refine AFN.chg rfl (OpCh.litL (F := Fm) (r := (rI .i32)) (l := [ix rs3 (Int.toNat (ix ((ix ((ix m.Blocks (Int.toNat ab)).Ins) k).Args) j))]) (us := [.int .i32 (ix rs3 (Int.toNat (ix ((ix ((ix m.Blocks (Int.toNat ab)).Ins) k).Args) j)))]) (cs := [[.int .i32 (ix rs3 (Int.toNat (ix ((ix ((ix m.Blocks (Int.toNat ab)).Ins) k).Args) j)))]]) Try.underlying25 Try.info21 (by decide) rfl rfl rfl ⟨rfl, rfl, ⟨rfl, (Gl.wr x30 (by omega))⟩, trivial⟩) ?_
  rintro _ H175 ⟨g175, rfl, e175, s175, k175, x175⟩
  have l175 := hkp.1
  have ap28_175 := ap_new x28.lt (x175 hin).ge
  have ap30_175 := ap_new x30.lt (x175 hin).ge
  have ap9003_175 := ap_new x9003.lt (x175 hin).ge
  have ap57_175 := ap_new x57.lt (x175 hin).ge
  have ap9019_175 := ap_new x9019.lt (x175 hin).ge
  replace x175 := (x175 hin).base l175
  have zk175 := k175.1
  replace hin := hin.kp k175
  replace hkp := hkp.trans (k175.mono hkp.1)
  replace hb2 := hb2.kp k175
  replace hb3 := hb3.kp k175
  replace hb4 := hb4.kp k175
  replace hb5 := hb5.kp k175
  replace hb11 := hb11.kp k175
  replace hb18 := hb18.kp k175
  replace hb19 := hb19.kp k175
  replace x28 := x28.kp k175
  replace x30 := x30.kp k175
  replace x9003 := x9003.kp k175
  replace x57 := x57.kp k175
  replace x9019 := x9019.kp k175
  have ap175_28 := ap_sym ap28_175
  have ap175_30 := ap_sym ap30_175
  have ap175_9003 := ap_sym ap9003_175
  have ap175_57 := ap_sym ap57_175
  have ap175_9019 := ap_sym ap9019_175
  refine ⟨⟨hin, hb2, hb3, hb4, hb5, hb11, hb18, trivial⟩, ?_⟩
  refine AF.one 11 (by kernel_rfl) ?_
  obtain ⟨u176, hu176, hr176⟩ := x175.cell0 (i := 0) (by simp) rfl
  refine AFN.chg rfl (OpCh.appG1 (r := (rI .i32)) (a := ix rs3 (Int.toNat (ix ((ix ((ix m.Blocks (Int.toNat ab)).Ins) k).Args) j))) Try.underlying25 Try.info21 (by decide) rfl rfl rfl rfl hu176 hr176 x9019 hin (by first | (simp only [List.length_append, List.length_take, List.length_drop, List.length_nil, List.length_cons, List.length_set, List.length_replicate]; omega) | (simp; done) | (simp; omega) | omega) (by omega)) ?_
  rintro v176 H176 ⟨x176, gb176, ob176⟩
  replace hin := hin.grown gb176 x9019.no
  replace hkp := gb176.kp hkp (Nat.le_refl _) (fun k0 hk0 => (x9019.blk k0 hk0).1)
  replace hb2 := hb2.of (gb176.2 _ hb2.lt (Ne.symm (by first | exact x9019.neBx hb2 (by decide) | exact nq9019_2)))
  replace hb3 := hb3.of (gb176.2 _ hb3.lt (Ne.symm (by first | exact x9019.neBx hb3 (by decide) | exact nq9019_3)))
  replace hb4 := hb4.of (gb176.2 _ hb4.lt (Ne.symm (by first | exact x9019.neBx hb4 (by decide) | exact nq9019_4)))
  replace hb5 := hb5.of (gb176.2 _ hb5.lt (Ne.symm (by first | exact x9019.neBx hb5 (by decide) | exact nq9019_5)))
  replace hb11 := hb11.of (gb176.2 _ hb11.lt (Ne.symm (by first | exact x9019.neBx hb11 (by decide) | exact nq9019_11)))
  replace hb18 := hb18.of (gb176.2 _ hb18.lt (Ne.symm (by first | exact x9019.neBx hb18 (by decide) | exact nq9019_18)))
  replace hb19 := hb19.of (gb176.2 _ hb19.lt (Ne.symm (by first | exact x9019.neBx hb19 (by decide) | exact nq9019_19)))
  have ap176_28 := ap_grow ap9019_28 x28.lt (ob_some ob176)
  have ap28_176 := ap_sym ap176_28
  replace x28 := x28.of (fun k0 hk0 => gb176.2 k0 (x28.blk k0 hk0).2 (fun e9 => ap9019_28 _ e9.symm hk0))
  have ap176_30 := ap_grow ap9019_30 x30.lt (ob_some ob176)
  have ap30_176 := ap_sym ap176_30
  replace x30 := x30.of (fun k0 hk0 => gb176.2 k0 (x30.blk k0 hk0).2 (fun e9 => ap9019_30 _ e9.symm hk0))
  have ap176_9003 := ap_grow ap9019_9003 x9003.lt (ob_some ob176)
  have ap9003_176 := ap_sym ap176_9003
  replace x9003 := x9003.of (fun k0 hk0 => gb176.2 k0 (x9003.blk k0 hk0).2 (fun e9 => ap9019_9003 _ e9.symm hk0))
  have ap176_57 := ap_grow ap9019_57 x57.lt (ob_some ob176)
  have ap57_176 := ap_sym ap176_57
  replace x57 := x57.of (fun k0 hk0 => gb176.2 k0 (x57.blk k0 hk0).2 (fun e9 => ap9019_57 _ e9.symm hk0))
  refine ⟨⟨hin, hb2, hb3, hb4, hb5, hb11, hb18, trivial⟩, ?_⟩
  refine AF.take 12 rfl (by kernel_rfl) (by kernel_rfl) (by kernel_rfl) ⟨hin, hb2, hb3, hb4, hb5, hb11, hb18, trivial⟩ (fun _ ⟨hin, hb2, hb3, hb4, hb5, hb11, hb18, _⟩ => OpOk.fieldAddr (Try.fld75_1) rfl) ?_
  refine AF.one 13 (by kernel_rfl) ?_
  refine AFN.chg0 rfl (OpCh.storeB hb19 Try.sz25 rfl rfl x176.one1 (by first | decide | (simp; done))) ?_
  rintro _ Hw25 ⟨tw25, bw25⟩
  have ztw25 := tw25.1
  replace hin := hin.tw tw25 ng19
  replace hkp := Tw.kp' hkp tw25 (by omega)
  replace hb2 := hb2.tw tw25 (Bx.ne hb2 hb19 (by decide))
  replace hb3 := hb3.tw tw25 (Bx.ne hb3 hb19 (by decide))
  replace hb4 := hb4.tw tw25 (Bx.ne hb4 hb19 (by decide))
  replace hb5 := hb5.tw tw25 (Bx.ne hb5 hb19 (by decide))
  replace hb11 := hb11.tw tw25 (Bx.ne hb11 hb19 (by decide))
  replace hb18 := hb18.tw tw25 (Bx.ne hb18 hb19 (by decide))
  replace x28 := x28.tw tw25 (x28.neBx hb19 (by decide))
  replace x30 := x30.tw tw25 (x30.neBx hb19 (by decide))
  replace x9003 := x9003.tw tw25 (by first | exact x9003.neLt (by omega) | exact nq9003_19)
  replace x57 := x57.tw tw25 (x57.neBx hb19 (by decide))
  replace x176 := x176.tw tw25 (x176.neBx hb19 (by decide))
  replace hb19 : Bx _ _ _ [.int .i32 ((ix ((ix m.Blocks (Int.toNat ab)).Ins) k).Imm), v176] := bw25
  clear bw25 tw25
  refine ⟨⟨hin, hb2, hb3, hb4, hb5, hb11, hb18, trivial⟩, ?_⟩
  refine AF.done (by kernel_rfl) ?_
  refine PF.blockNormal (PF.next (CF.region (LF.step (OpOk.move rfl) ?_)))
  refine LF.step (OpOk.add rfl rfl (by omega)) ?_
  refine LF.step (OpOk.assign rfl) (LF.nil ?_)
  exact PF.again (j + 1, ea ++ ([ix rs3 (Int.toNat (ix ((ix ((ix m.Blocks (Int.toNat ab)).Ins) k).Args) j))]), v176) ⟨by dsimp only; omega, by dsimp only; rw [hea, take_ix (by omega), List.map_append]; rfl, hin, hkp, hb2, hb3, hb4, hb5, hb11, hb18, hb19, x28, x30, x9003, x57, x176, ap28_176, ap30_176, ap9003_176, ap57_176⟩ ⟨rfl, rfl, rfl, rfl, rfl, rfl, rfl, rfl, rfl, rfl, rfl, rfl, eqI (by omega), trivial⟩ (by omega)
  refine AFN.chg rfl (OpCh.litL (F := Fm) (r := (rI .i32)) (l := [ix rs3 (Int.toNat (ix ((ix ((ix m.Blocks (Int.toNat ab)).Ins) k).Args) j))]) (us := [.int .i32 (ix rs3 (Int.toNat (ix ((ix ((ix m.Blocks (Int.toNat ab)).Ins) k).Args) j)))]) (cs := [[.int .i32 (ix rs3 (Int.toNat (ix ((ix ((ix m.Blocks (Int.toNat ab)).Ins) k).Args) j)))]]) Try.underlying25 Try.info21 (by decide) rfl rfl rfl ⟨rfl, rfl, ⟨rfl, (Gl.wr x30 (by omega))⟩, trivial⟩) ?_
  rintro _ H175 ⟨g175, rfl, e175, s175, k175, x175⟩
  have l175 := hkp.1
  have ap28_175 := ap_new x28.lt (x175 hin).ge
  have ap30_175 := ap_new x30.lt (x175 hin).ge
  have ap9003_175 := ap_new x9003.lt (x175 hin).ge
  have ap57_175 := ap_new x57.lt (x175 hin).ge
  have ap9019_175 := ap_new x9019.lt (x175 hin).ge
  replace x175 := (x175 hin).base l175
  have zk175 := k175.1
  replace hin := hin.kp k175
  replace hkp := hkp.trans (k175.mono hkp.1)
  replace hb2 := hb2.kp k175
  replace hb3 := hb3.kp k175
  replace hb4 := hb4.kp k175
  replace hb5 := hb5.kp k175
  replace hb11 := hb11.kp k175
  replace hb18 := hb18.kp k175
  replace hb19 := hb19.kp k175
  replace x28 := x28.kp k175
  replace x30 := x30.kp k175
  replace x9003 := x9003.kp k175
  replace x57 := x57.kp k175
  replace x9019 := x9019.kp k175
  have ap175_28 := ap_sym ap28_175
  have ap175_30 := ap_sym ap30_175
  have ap175_9003 := ap_sym ap9003_175
  have ap175_57 := ap_sym ap57_175
  have ap175_9019 := ap_sym ap9019_175
  refine ⟨⟨hin, hb2, hb3, hb4, hb5, hb11, hb18, trivial⟩, ?_⟩
  refine AF.one 1 (by kernel_rfl) ?_
  refine AFN.step rfl (OpOk.ldBx hb19 Try.one25 rfl rfl) ⟨hin, hb2, hb3, hb4, hb5, hb11, hb18, trivial⟩ ?_
  refine AF.one 11 (by kernel_rfl) ?_
  obtain ⟨u176, hu176, hr176⟩ := x175.cell0 (i := 0) (by simp) rfl
  refine AFN.chg rfl (OpCh.appG1 (r := (rI .i32)) (a := ix rs3 (Int.toNat (ix ((ix ((ix m.Blocks (Int.toNat ab)).Ins) k).Args) j))) Try.underlying25 Try.info21 (by decide) rfl rfl rfl rfl hu176 hr176 x9019 hin (by first | (simp only [List.length_append, List.length_take, List.length_drop, List.length_nil, List.length_cons, List.length_set, List.length_replicate]; omega) | (simp; done) | (simp; omega) | omega) (by omega)) ?_
  rintro v176 H176 ⟨x176, gb176, ob176⟩
  replace hin := hin.grown gb176 x9019.no
  replace hkp := gb176.kp hkp (Nat.le_refl _) (fun k0 hk0 => (x9019.blk k0 hk0).1)
  replace hb2 := hb2.of (gb176.2 _ hb2.lt (Ne.symm (by first | exact x9019.neBx hb2 (by decide) | exact nq9019_2)))
  replace hb3 := hb3.of (gb176.2 _ hb3.lt (Ne.symm (by first | exact x9019.neBx hb3 (by decide) | exact nq9019_3)))
  replace hb4 := hb4.of (gb176.2 _ hb4.lt (Ne.symm (by first | exact x9019.neBx hb4 (by decide) | exact nq9019_4)))
  replace hb5 := hb5.of (gb176.2 _ hb5.lt (Ne.symm (by first | exact x9019.neBx hb5 (by decide) | exact nq9019_5)))
  replace hb11 := hb11.of (gb176.2 _ hb11.lt (Ne.symm (by first | exact x9019.neBx hb11 (by decide) | exact nq9019_11)))
  replace hb18 := hb18.of (gb176.2 _ hb18.lt (Ne.symm (by first | exact x9019.neBx hb18 (by decide) | exact nq9019_18)))
  replace hb19 := hb19.of (gb176.2 _ hb19.lt (Ne.symm (by first | exact x9019.neBx hb19 (by decide) | exact nq9019_19)))
  have ap176_28 := ap_grow ap9019_28 x28.lt (ob_some ob176)
  have ap28_176 := ap_sym ap176_28
  replace x28 := x28.of (fun k0 hk0 => gb176.2 k0 (x28.blk k0 hk0).2 (fun e9 => ap9019_28 _ e9.symm hk0))
  have ap176_30 := ap_grow ap9019_30 x30.lt (ob_some ob176)
  have ap30_176 := ap_sym ap176_30
  replace x30 := x30.of (fun k0 hk0 => gb176.2 k0 (x30.blk k0 hk0).2 (fun e9 => ap9019_30 _ e9.symm hk0))
  have ap176_9003 := ap_grow ap9019_9003 x9003.lt (ob_some ob176)
  have ap9003_176 := ap_sym ap176_9003
  replace x9003 := x9003.of (fun k0 hk0 => gb176.2 k0 (x9003.blk k0 hk0).2 (fun e9 => ap9019_9003 _ e9.symm hk0))
  have ap176_57 := ap_grow ap9019_57 x57.lt (ob_some ob176)
  have ap57_176 := ap_sym ap176_57
  replace x57 := x57.of (fun k0 hk0 => gb176.2 k0 (x57.blk k0 hk0).2 (fun e9 => ap9019_57 _ e9.symm hk0))
  refine ⟨⟨hin, hb2, hb3, hb4, hb5, hb11, hb18, trivial⟩, ?_⟩
  refine AF.take 12 rfl (by kernel_rfl) (by kernel_rfl) (by kernel_rfl) ⟨hin, hb2, hb3, hb4, hb5, hb11, hb18, trivial⟩ (fun _ ⟨hin, hb2, hb3, hb4, hb5, hb11, hb18, _⟩ => OpOk.fieldAddr (Try.fld75_1) rfl) ?_
  refine AF.one 13 (by kernel_rfl) ?_
  refine AFN.chg0 rfl (OpCh.storeB hb19 Try.sz25 rfl rfl x176.one1 (by first | decide | (simp; done))) ?_
  rintro _ Hw26 ⟨tw26, bw26⟩
  have ztw26 := tw26.1
  replace hin := hin.tw tw26 ng19
  replace hkp := Tw.kp' hkp tw26 (by omega)
  replace hb2 := hb2.tw tw26 (Bx.ne hb2 hb19 (by decide))
  replace hb3 := hb3.tw tw26 (Bx.ne hb3 hb19 (by decide))
  replace hb4 := hb4.tw tw26 (Bx.ne hb4 hb19 (by decide))
  replace hb5 := hb5.tw tw26 (Bx.ne hb5 hb19 (by decide))
  replace hb11 := hb11.tw tw26 (Bx.ne hb11 hb19 (by decide))
  replace hb18 := hb18.tw tw26 (Bx.ne hb18 hb19 (by decide))
  replace x28 := x28.tw tw26 (x28.neBx hb19 (by decide))
  replace x30 := x30.tw tw26 (x30.neBx hb19 (by decide))
  replace x9003 := x9003.tw tw26 (by first | exact x9003.neLt (by omega) | exact nq9003_19)
  replace x57 := x57.tw tw26 (x57.neBx hb19 (by decide))
  replace x176 := x176.tw tw26 (x176.neBx hb19 (by decide))
  replace hb19 : Bx _ _ _ [.int .i32 ((ix ((ix m.Blocks (Int.toNat ab)).Ins) k).Imm), v176] := bw26
  clear bw26 tw26
  refine ⟨⟨hin, hb2, hb3, hb4, hb5, hb11, hb18, trivial⟩, ?_⟩
  refine AF.done (by kernel_rfl) ?_
  refine PF.blockNormal (PF.next (CF.region (LF.step (OpOk.move rfl) ?_)))
  refine LF.step (OpOk.add rfl rfl (by omega)) ?_
  refine LF.step (OpOk.assign rfl) (LF.nil ?_)
  exact PF.again (j + 1, ea ++ ([ix rs3 (Int.toNat (ix ((ix ((ix m.Blocks (Int.toNat ab)).Ins) k).Args) j))]), v176) ⟨by dsimp only; omega, by dsimp only; rw [hea, take_ix (by omega), List.map_append]; rfl, hin, hkp, hb2, hb3, hb4, hb5, hb11, hb18, hb19, x28, x30, x9003, x57, x176, ap28_176, ap30_176, ap9003_176, ap57_176⟩ ⟨rfl, rfl, rfl, rfl, rfl, rfl, rfl, rfl, rfl, rfl, rfl, rfl, eqI (by omega), trivial⟩ (by omega)
  have hja : (ix (ix m.Blocks (Int.toNat ab)).Ins k).Args.length ≤ j := by omega
  refine CF.exit (PF.thenExit (PF.thenExit (PF.blockHere (PF.next (CF.seq (CF.region ?_))))))
  refine LF.step (OpOk.fieldAddr (Try.fld33_3) rfl) ?_
  refine LF.step (OpOk.ldBx hb5 Try.one31 rfl rfl) ?_
  refine LF.step (OpOk.ldBxA hb19 Try.agg75 Try.sz75 rfl rfl rfl) ?_
  obtain ⟨Fz27, hxz27, lez27, hinz27, noz27, hrz27⟩ := x9019.freezeX hin hx (Nat.le_refl _) (by first | (simp only [List.length_append, List.length_take, List.length_drop, List.length_nil, List.length_cons, List.length_set, List.length_replicate]; omega) | (simp; done) | (simp; omega) | omega)
  replace hin := hinz27
  replace hx := hxz27
  replace le0 := le0.trans lez27
  replace le1 := le1.trans lez27
  have le2 := lez27
  replace ng2 := (noz27 _ (x9019.neBx hb2 (by decide))).trans ng2
  replace ng3 := (noz27 _ (x9019.neBx hb3 (by decide))).trans ng3
  replace ng4 := (noz27 _ (x9019.neBx hb4 (by decide))).trans ng4
  replace ng5 := (noz27 _ (x9019.neBx hb5 (by decide))).trans ng5
  replace ng11 := (noz27 _ (x9019.neBx hb11 (by decide))).trans ng11
  replace ng18 := (noz27 _ (x9019.neBx hb18 (by decide))).trans ng18
  replace ng19 := (noz27 _ (x9019.neBx hb19 (by decide))).trans ng19
  replace x28 := x28.frozen lez27 noz27 ap28_9019
  replace x30 := x30.frozen lez27 noz27 ap30_9019
  replace x9003 := x9003.frozen lez27 noz27 ap9003_9019
  replace x57 := x57.frozen lez27 noz27 ap57_9019
  refine LF.appA (r := rEvent) (a := ⟨(ix ((ix m.Blocks (Int.toNat ab)).Ins) k).Imm, ea⟩) Try.underlying31 Try.info75 (by decide) rfl rfl (rEvent.mk (m := ⟨(ix ((ix m.Blocks (Int.toNat ab)).Ins) k).Imm, ea⟩) hrz27 (rMach.w_Imm (m := (ix ((ix m.Blocks (Int.toNat ab)).Ins) k)) h151k)) x9003 hin (by first | (simp only [List.length_append, List.length_take, List.length_drop, List.length_nil, List.length_cons, List.length_set, List.length_replicate]; omega) | (simp; done) | (simp; omega) | omega) rfl ?_ hkp.1
  intro v182 H182 x182 gb182 nn182 ob182
  replace hin := hin.grown gb182 x9003.no
  replace hkp := gb182.kp hkp (Nat.le_refl _) (fun k0 hk0 => (x9003.blk k0 hk0).1)
  replace hb2 := hb2.of (gb182.2 _ hb2.lt (Ne.symm (by first | exact x9003.neBx hb2 (by decide) | exact nq9003_2)))
  replace hb3 := hb3.of (gb182.2 _ hb3.lt (Ne.symm (by first | exact x9003.neBx hb3 (by decide) | exact nq9003_3)))
  replace hb4 := hb4.of (gb182.2 _ hb4.lt (Ne.symm (by first | exact x9003.neBx hb4 (by decide) | exact nq9003_4)))
  replace hb5 := hb5.of (gb182.2 _ hb5.lt (Ne.symm (by first | exact x9003.neBx hb5 (by decide) | exact nq9003_5)))
  replace hb11 := hb11.of (gb182.2 _ hb11.lt (Ne.symm (by first | exact x9003.neBx hb11 (by decide) | exact nq9003_11)))
  replace hb18 := hb18.of (gb182.2 _ hb18.lt (Ne.symm (by first | exact x9003.neBx hb18 (by decide) | exact nq9003_18)))
  replace hb19 := hb19.of (gb182.2 _ hb19.lt (Ne.symm (by first | exact x9003.neBx hb19 (by decide) | exact nq9003_19)))
  have ap182_28 := ap_grow ap9003_28 x28.lt ob182
  have ap28_182 := ap_sym ap182_28
  replace x28 := x28.of (fun k0 hk0 => gb182.2 k0 (x28.blk k0 hk0).2 (fun e9 => ap9003_28 _ e9.symm hk0))
  have ap182_30 := ap_grow ap9003_30 x30.lt ob182
  have ap30_182 := ap_sym ap182_30
  replace x30 := x30.of (fun k0 hk0 => gb182.2 k0 (x30.blk k0 hk0).2 (fun e9 => ap9003_30 _ e9.symm hk0))
  have ap182_57 := ap_grow ap9003_57 x57.lt ob182
  have ap57_182 := ap_sym ap182_57
  replace x57 := x57.of (fun k0 hk0 => gb182.2 k0 (x57.blk k0 hk0).2 (fun e9 => ap9003_57 _ e9.symm hk0))
  refine LF.step (OpOk.fieldAddr (Try.fld33_3) rfl) ?_
  refine LF.chg0 (OpCh.storeB hb5 Try.sz31 rfl rfl x182.one1 (by first | decide | (simp; done))) ?_
  rintro _ Hw28 ⟨tw28, bw28⟩
  have ztw28 := tw28.1
  replace hin := hin.tw tw28 ng5
  replace hkp := Tw.kp' hkp tw28 (by omega)
  replace hb2 := hb2.tw tw28 (Bx.ne hb2 hb5 (by decide))
  replace hb3 := hb3.tw tw28 (Bx.ne hb3 hb5 (by decide))
  replace hb4 := hb4.tw tw28 (by first | omega | assumption | exact Ne.symm (by assumption))
  replace hb11 := hb11.tw tw28 (Bx.ne hb11 hb5 (by decide))
  replace hb18 := hb18.tw tw28 (Bx.ne hb18 hb5 (by decide))
  replace hb19 := hb19.tw tw28 (Bx.ne hb19 hb5 (by decide))
  replace x28 := x28.tw tw28 (x28.neBx hb5 (by decide))
  replace x30 := x30.tw tw28 (x30.neBx hb5 (by decide))
  replace x57 := x57.tw tw28 (x57.neBx hb5 (by decide))
  replace x182 := x182.tw tw28 (x182.neBx hb5 (by decide))
  replace hb5 : Bx _ _ _ [.int .i64 0, .int .i32 0, v28, v182, .int .i64 (s2 + 1)] := bw28
  clear bw28 tw28
  refine LF.nil (PF.next (CF.seq (CF.region (LF.step (OpOk.move rfl) ?_))))
  refine LF.step (OpOk.fieldAddr (Try.fld40_1) rfl) ?_
  refine LF.step (OpOk.ldBx hb18 Try.one3 rfl rfl) ?_
  refine LF.step (OpOk.idxG (i := (Int.toNat ((ix ((ix m.Blocks (Int.toNat ab)).Ins) k).D))) Try.underlying25 Try.sz21 x30 rfl rfl (by omega) (by first | omega | (simp only [List.length_replicate, List.length_set, List.length_append, List.length_cons, List.length_nil]; omega))) ?_
  refine LF.chg0 (OpCh.storeG x30 rfl Try.sz21 rfl rfl rfl (by first | omega | (simp only [List.length_replicate, List.length_set, List.length_append, List.length_cons, List.length_nil]; omega)) ⟨rfl, (by decide : IntKind.i32.wrap 0 = 0)⟩) ?_
  rintro _ Hw29 ⟨gw29, qw29, tw29, xw29⟩
  have ztw29 := tw29.1
  replace hin := hin.tw tw29 (x30.no _ qw29)
  replace hkp := Tw.kp' hkp tw29 (x30.blk _ qw29).1
  replace hb2 := hb2.tw tw29 (ne_of_own qw29 (x30.neBx hb2 (by decide)))
  replace hb3 := hb3.tw tw29 (ne_of_own qw29 (x30.neBx hb3 (by decide)))
  replace hb4 := hb4.tw tw29 (ne_of_own qw29 (x30.neBx hb4 (by decide)))
  replace hb5 := hb5.tw tw29 (ne_of_own qw29 (x30.neBx hb5 (by decide)))
  replace hb11 := hb11.tw tw29 (ne_of_own qw29 (x30.neBx hb11 (by decide)))
  replace hb18 := hb18.tw tw29 (ne_of_own qw29 (x30.neBx hb18 (by decide)))
  replace hb19 := hb19.tw tw29 (ne_of_own qw29 (x30.neBx hb19 (by decide)))
  replace x28 := x28.tw tw29 (ap30_28 _ qw29)
  replace x57 := x57.tw tw29 (ap30_57 _ qw29)
  replace x182 := x182.tw tw29 (ap30_182 _ qw29)
  replace x30 := xw29
  refine LF.nil (PF.next (CF.seq (CF.seq (CF.region (LF.step (OpOk.move rfl) ?_)))))
  refine LF.step (OpOk.fieldAddr (Try.fld27_2) rfl) ?_
  refine LF.step (OpOk.ldBx hb3 Try.one25 rfl rfl) ?_
  refine LF.step (OpOk.lenL Try.underlying25 (p1c2.up le0) rfl) ?_
  refine LF.step (OpOk.lss rfl rfl) ?_
  refine LF.nil (PF.next ?_)
  refine CF.if rfl (fun hc14 => ?_) (fun hc14 => ?_)
  refine CF.tail 9 Try.mixed (by kernel_rfl) ?_
  refine LS.step (OpOk.move rfl) ?_
  refine LS.step (OpOk.fieldAddr (Try.fld40_1) rfl) ?_
  refine LS.step (OpOk.ldBx hb18 Try.one3 rfl rfl) ?_
  refine LS.step (OpOk.fieldAddr (Try.fld27_2) rfl) ?_
  refine LS.step (OpOk.ldBx hb3 Try.one25 rfl rfl) ?_
  refine LS.step (OpOk.move rfl) ?_
  refine LS.step (OpOk.idxL (i := na2) Try.underlying25 Try.sz21 (p1c2.up le0) rfl rfl rfl (by omega)) ?_
  refine LS.step (OpOk.ldI hin (rL.ix (p1c2.up le0) na2 (by omega)) Try.one21 rfl) ?_
  refine LS.step (OpOk.idxG (i := (Int.toNat ((ix ((ix m.Blocks (Int.toNat ab)).Ins) k).D))) Try.underlying25 Try.sz21 x30 rfl rfl (by omega) (by first | omega | (simp only [List.length_replicate, List.length_set, List.length_append, List.length_cons, List.length_nil]; omega))) ?_
  refine LS.tail ?_
  refine LF.chg0 (OpCh.storeG x30 rfl Try.sz21 rfl rfl rfl (by first | omega | (simp only [List.length_replicate, List.length_set, List.length_append, List.length_cons, List.length_nil]; omega)) ⟨rfl, (At.wr (rL.ix (p1c2.up le0) na2 (by omega)))⟩) ?_
  rintro _ Hw30 ⟨gw30, qw30, tw30, xw30⟩
  have ztw30 := tw30.1
  replace hin := hin.tw tw30 (x30.no _ qw30)
  replace hkp := Tw.kp' hkp tw30 (x30.blk _ qw30).1
  replace hb2 := hb2.tw tw30 (ne_of_own qw30 (x30.neBx hb2 (by decide)))
  replace hb3 := hb3.tw tw30 (ne_of_own qw30 (x30.neBx hb3 (by decide)))
  replace hb4 := hb4.tw tw30 (ne_of_own qw30 (x30.neBx hb4 (by decide)))
  replace hb5 := hb5.tw tw30 (ne_of_own qw30 (x30.neBx hb5 (by decide)))
  replace hb11 := hb11.tw tw30 (ne_of_own qw30 (x30.neBx hb11 (by decide)))
  replace hb18 := hb18.tw tw30 (ne_of_own qw30 (x30.neBx hb18 (by decide)))
  replace hb19 := hb19.tw tw30 (ne_of_own qw30 (x30.neBx hb19 (by decide)))
  replace x28 := x28.tw tw30 (ap30_28 _ qw30)
  replace x57 := x57.tw tw30 (ap30_57 _ qw30)
  replace x182 := x182.tw tw30 (ap30_182 _ qw30)
  replace x30 := xw30
  refine LF.nil (PF.next (CF.seq (CF.region (LF.step (OpOk.move rfl) ?_))))
  refine LF.step (OpOk.add rfl rfl (by omega)) ?_
  refine LF.step (OpOk.assign rfl) (LF.nil (PF.next (CF.exit (PF.thenExit (PF.blockHere (PF.next (CF.region (LF.step (OpOk.move rfl) ?_))))))))
  refine LF.step (OpOk.add rfl rfl (by omega)) ?_
  refine LF.step (OpOk.assign rfl) (LF.nil ?_)
  exact PF.again (k + 1, na2 + 1, List.set (List.set rs3 (Int.toNat ((ix ((ix m.Blocks (Int.toNat ab)).Ins) k).D)) 0) (Int.toNat ((ix ((ix m.Blocks (Int.toNat ab)).Ins) k).D)) (ix i.Answers na2), me2, cl2 ++ [⟨(ix ((ix m.Blocks (Int.toNat ab)).Ins) k).Imm, ea⟩], s2 + 1, v182, Fz27) ⟨by dsimp only; omega, by dsimp only; first | exact rins_callA hI (by omega) hNi h28 hja hea (by omega) | exact rins_callB hI (by omega) hNi h28 hja hea (by omega) | exact ins_ok hI (by omega) hNi h28 hdo, by dsimp only; first | (rw [List.length_set, List.length_set]; exact hrl2) | (rw [List.length_set]; exact hrl2) | (rw [(stepM_len _ _ _).1]; exact hrl2), by dsimp only; first | exact hml2 | (rw [(stepM_len _ _ _).2]; exact hml2), by dsimp only; omega, by dsimp only; first | (rw [List.length_append]; simp; omega) | omega, by dsimp only; omega, by dsimp only; first | (rw [List.length_append, hna2]; rfl) | exact hna2, hx, le1, hin, hkp, hb2, ng2, hb3, ng3, hb4, ng4, hb5, ng5, hb11, ng11, x28, x30, x182, x57, ap28_182, ap30_182, ap182_57⟩ ⟨rfl, rfl, rfl, rfl, rfl, eqI (by dsimp only; omega), rfl, rfl, rfl, eqI (by omega), trivial⟩ (by omega)
  refine CF.skip (PF.next (CF.seq (CF.region (LF.step (OpOk.move rfl) ?_))))
  refine LF.step (OpOk.add rfl rfl (by omega)) ?_
  refine LF.step (OpOk.assign rfl) (LF.nil (PF.next (CF.exit (PF.thenExit (PF.blockHere (PF.next (CF.region (LF.step (OpOk.move rfl) ?_))))))))
  refine LF.step (OpOk.add rfl rfl (by omega)) ?_
  refine LF.step (OpOk.assign rfl) (LF.nil ?_)
  exact PF.again (k + 1, na2 + 1, List.set rs3 (Int.toNat ((ix ((ix m.Blocks (Int.toNat ab)).Ins) k).D)) 0, me2, cl2 ++ [⟨(ix ((ix m.Blocks (Int.toNat ab)).Ins) k).Imm, ea⟩], s2 + 1, v182, Fz27) ⟨by dsimp only; omega, by dsimp only; first | exact rins_callA hI (by omega) hNi h28 hja hea (by omega) | exact rins_callB hI (by omega) hNi h28 hja hea (by omega) | exact ins_ok hI (by omega) hNi h28 hdo, by dsimp only; first | (rw [List.length_set, List.length_set]; exact hrl2) | (rw [List.length_set]; exact hrl2) | (rw [(stepM_len _ _ _).1]; exact hrl2), by dsimp only; first | exact hml2 | (rw [(stepM_len _ _ _).2]; exact hml2), by dsimp only; omega, by dsimp only; first | (rw [List.length_append]; simp; omega) | omega, by dsimp only; omega, by dsimp only; first | (rw [List.length_append, hna2]; rfl) | exact hna2, hx, le1, hin, hkp, hb2, ng2, hb3, ng3, hb4, ng4, hb5, ng5, hb11, ng11, x28, x30, x182, x57, ap28_182, ap30_182, ap182_57⟩ ⟨rfl, rfl, rfl, rfl, rfl, eqI (by dsimp only; omega), rfl, rfl, rfl, eqI (by omega), trivial⟩ (by omega)
  have h28 := hc12
  refine CF.skip (PF.next (CF.seq (CF.region ?_)))
  refine LF.step (OpOk.ldBxA hb18 Try.agg40 Try.sz40 rfl rfl rfl) ?_
  refine LF.step (OpOk.move rfl) ?_
  refine LF.step (OpOk.fieldAddr (Try.fld33_2) rfl) ?_
  refine LF.step (OpOk.ldBx hb5 Try.one25 rfl rfl) ?_
  refine LF.call (OpCall.fn Try.ent35 rfl rfl) (rDoM_ct hin h151 x30 x28 (by omega) (by omega) ap30_28) ?_
  rintro _ H209 ⟨rfl, k209, x209_1, x209_2⟩
  have zk209 := k209.1
  replace hin := hin.kw k209 (by intro k0 hk0; rcases hk0 with hk0 | hk0; exact x30.no k0 hk0; exact x28.no k0 hk0)
  replace hb2 := hb2.kw k209 (by rintro (hk0 | hk0); exact x30.neBx hb2 (by decide) hk0; exact x28.neBx hb2 (by decide) hk0)
  replace hb3 := hb3.kw k209 (by rintro (hk0 | hk0); exact x30.neBx hb3 (by decide) hk0; exact x28.neBx hb3 (by decide) hk0)
  replace hb4 := hb4.kw k209 (by rintro (hk0 | hk0); exact x30.neBx hb4 (by decide) hk0; exact x28.neBx hb4 (by decide) hk0)
  replace hb5 := hb5.kw k209 (by rintro (hk0 | hk0); exact x30.neBx hb5 (by decide) hk0; exact x28.neBx hb5 (by decide) hk0)
  replace hb11 := hb11.kw k209 (by rintro (hk0 | hk0); exact x30.neBx hb11 (by decide) hk0; exact x28.neBx hb11 (by decide) hk0)
  replace hb18 := hb18.kw k209 (by rintro (hk0 | hk0); exact x30.neBx hb18 (by decide) hk0; exact x28.neBx hb18 (by decide) hk0)
  replace x9003 := x9003.kw k209 (by intro k0 hk0; rintro (h9 | h9); exact ap9003_30 k0 hk0 h9; exact ap9003_28 k0 hk0 h9)
  replace x57 := x57.kw k209 (by intro k0 hk0; rintro (h9 | h9); exact ap57_30 k0 hk0 h9; exact ap57_28 k0 hk0 h9)
  replace hkp := hkp.kw k209 (by rintro k0 (hk0 | hk0); exact x30.ge k0 hk0; exact x28.ge k0 hk0)
  replace x30 := x209_1
  replace x28 := x209_2
  have w209_0 : IntKind.i32.wrap ((stepM (ix ((ix m.Blocks (Int.toNat ab)).Ins) k) rs3 me2).1.1) = (stepM (ix ((ix m.Blocks (Int.toNat ab)).Ins) k) rs3 me2).1.1 := stepM_wr _ _ _
  refine LF.step (OpOk.move rfl) ?_
  refine LF.step (OpOk.extract (v := .int .i32 ((stepM (ix ((ix m.Blocks (Int.toNat ab)).Ins) k) rs3 me2).1.1)) rfl rfl) ?_
  refine LF.step (OpOk.extract (v := .bool ((stepM (ix ((ix m.Blocks (Int.toNat ab)).Ins) k) rs3 me2).1.2)) rfl rfl) ?_
  refine LF.step (OpOk.assign rfl) (LF.step (OpOk.assign rfl) (LF.nil (PF.next (CF.seq (CF.region (LF.step (OpOk.move rfl) ?_))))))
  refine LF.step (OpOk.not rfl) ?_
  refine LF.nil (PF.next ?_)
  refine CF.if rfl (fun hc15 => ?_) (fun hc15 => ?_)
  refine CF.seq (CF.region ?_)
  refine LF.step (OpOk.fieldAddr (Try.fld33_0) rfl) ?_
  refine LF.chg0 (OpCh.storeB hb5 Try.sz3 rfl rfl rfl (by first | decide | (simp; done))) ?_
  rintro _ Hw31 ⟨tw31, bw31⟩
  have ztw31 := tw31.1
  replace hin := hin.tw tw31 ng5
  replace hkp := Tw.kp' hkp tw31 (by omega)
  replace hb2 := hb2.tw tw31 (Bx.ne hb2 hb5 (by decide))
  replace hb3 := hb3.tw tw31 (Bx.ne hb3 hb5 (by decide))
  replace hb4 := hb4.tw tw31 (by first | omega | assumption | exact Ne.symm (by assumption))
  replace hb11 := hb11.tw tw31 (Bx.ne hb11 hb5 (by decide))
  replace hb18 := hb18.tw tw31 (Bx.ne hb18 hb5 (by decide))
  replace x28 := x28.tw tw31 (x28.neBx hb5 (by decide))
  replace x30 := x30.tw tw31 (x30.neBx hb5 (by decide))
  replace x9003 := x9003.tw tw31 (x9003.neBx hb5 (by decide))
  replace x57 := x57.tw tw31 (x57.neBx hb5 (by decide))
  replace hb5 : Bx _ _ _ [.int .i64 2, .int .i32 0, v28, vc2, .int .i64 (s2 + 1)] := bw31
  clear bw31 tw31
  refine LF.nil (PF.next (CF.seq (CF.region (LF.step (OpOk.move rfl) ?_))))
  refine LF.step (OpOk.fieldAddr (Try.fld33_1) rfl) ?_
  refine LF.chg0 (OpCh.storeB hb5 Try.sz21 rfl rfl rfl (by first | decide | (simp; done))) ?_
  rintro _ Hw32 ⟨tw32, bw32⟩
  have ztw32 := tw32.1
  replace hin := hin.tw tw32 ng5
  replace hkp := Tw.kp' hkp tw32 (by omega)
  replace hb2 := hb2.tw tw32 (Bx.ne hb2 hb5 (by decide))
  replace hb3 := hb3.tw tw32 (Bx.ne hb3 hb5 (by decide))
  replace hb4 := hb4.tw tw32 (by first | omega | assumption | exact Ne.symm (by assumption))
  replace hb11 := hb11.tw tw32 (Bx.ne hb11 hb5 (by decide))
  replace hb18 := hb18.tw tw32 (Bx.ne hb18 hb5 (by decide))
  replace x28 := x28.tw tw32 (x28.neBx hb5 (by decide))
  replace x30 := x30.tw tw32 (x30.neBx hb5 (by decide))
  replace x9003 := x9003.tw tw32 (x9003.neBx hb5 (by decide))
  replace x57 := x57.tw tw32 (x57.neBx hb5 (by decide))
  replace hb5 : Bx _ _ _ [.int .i64 2, .int .i32 ((stepM (ix ((ix m.Blocks (Int.toNat ab)).Ins) k) rs3 me2).1.1), v28, vc2, .int .i64 (s2 + 1)] := bw32
  clear bw32 tw32
  refine LF.nil (PF.next (CF.seq (CF.region ?_)))
  refine LF.step (OpOk.ldBxA hb5 Try.agg33 Try.sz33 rfl rfl rfl) ?_
  refine LF.chg0 (OpCh.storeBA hb4 Try.sz33 rfl rfl rfl (allOne.mem (l := [.int .i64 2, .int .i32 ((stepM (ix ((ix m.Blocks (Int.toNat ab)).Ins) k) rs3 me2).1.1), v28, vc2, .int .i64 (s2 + 1)]) ⟨rfl, rfl, x28.one1, x9003.one1, rfl, trivial⟩) (by decide)) ?_
  rintro _ Hw33 ⟨tw33, bw33⟩
  have ztw33 := tw33.1
  replace hin := hin.tw tw33 ng4
  replace hkp := Tw.kp' hkp tw33 (by omega)
  replace hb2 := hb2.tw tw33 (Bx.ne hb2 hb4 (by decide))
  replace hb3 := hb3.tw tw33 (Bx.ne hb3 hb4 (by decide))
  replace hb5 := hb5.tw tw33 (by first | omega | assumption | exact Ne.symm (by assumption))
  replace hb11 := hb11.tw tw33 (Bx.ne hb11 hb4 (by decide))
  replace hb18 := hb18.tw tw33 (Bx.ne hb18 hb4 (by decide))
  replace x28 := x28.tw tw33 (x28.neBx hb4 (by decide))
  replace x30 := x30.tw tw33 (x30.neBx hb4 (by decide))
  replace x9003 := x9003.tw tw33 (x9003.neBx hb4 (by decide))
  replace x57 := x57.tw tw33 (x57.neBx hb4 (by decide))
  replace hb4 : Bx _ _ _ [.int .i64 2, .int .i32 ((stepM (ix ((ix m.Blocks (Int.toNat ab)).Ins) k) rs3 me2).1.1), v28, vc2, .int .i64 (s2 + 1)] := bw33
  clear bw33 tw33
  refine LF.nil (PF.next (CF.ret (PF.blockRet (PF.thenRet (PF.thenRet (PF.blockRet (PF.thenRet (PF.blockRet (PF.thenRet (PF.blockRet ?_))))))))))
  obtain ⟨Fz34, hxz34, lez34, hinz34, noz34, hrz34⟩ := x28.freezeX hin hx (Nat.le_refl _) (by first | omega | (rw [(stepM_len _ _ _).2]; omega))
  replace hin := hinz34
  replace hx := hxz34
  replace le0 := le0.trans lez34
  replace le1 := le1.trans lez34
  have le2 := lez34
  replace ng2 := (noz34 _ (x28.neBx hb2 (by decide))).trans ng2
  replace ng3 := (noz34 _ (x28.neBx hb3 (by decide))).trans ng3
  replace ng4 := (noz34 _ (x28.neBx hb4 (by decide))).trans ng4
  replace ng5 := (noz34 _ (x28.neBx hb5 (by decide))).trans ng5
  replace ng11 := (noz34 _ (x28.neBx hb11 (by decide))).trans ng11
  replace ng18 := (noz34 _ (x28.neBx hb18 (by decide))).trans ng18
  replace x30 := x30.frozen lez34 noz34 ap30_28
  replace x9003 := x9003.frozen lez34 noz34 ap9003_28
  replace x57 := x57.frozen lez34 noz34 ap57_28
  obtain ⟨Fz35, hxz35, lez35, hinz35, noz35, hrz35⟩ := x9003.freezeX hin hx (Nat.le_refl _) (by first | (simp only [List.length_append, List.length_take, List.length_drop, List.length_nil, List.length_cons, List.length_set, List.length_replicate]; omega) | (simp; done) | (simp; omega) | omega)
  replace hin := hinz35
  replace hx := hxz35
  replace le0 := le0.trans lez35
  replace le1 := le1.trans lez35
  replace le2 := le2.trans lez35
  have le3 := lez35
  replace ng2 := (noz35 _ (x9003.neBx hb2 (by decide))).trans ng2
  replace ng3 := (noz35 _ (x9003.neBx hb3 (by decide))).trans ng3
  replace ng4 := (noz35 _ (x9003.neBx hb4 (by decide))).trans ng4
  replace ng5 := (noz35 _ (x9003.neBx hb5 (by decide))).trans ng5
  replace ng11 := (noz35 _ (x9003.neBx hb11 (by decide))).trans ng11
  replace ng18 := (noz35 _ (x9003.neBx hb18 (by decide))).trans ng18
  replace x30 := x30.frozen lez35 noz35 ap30_9003
  replace x57 := x57.frozen lez35 noz35 ap57_9003
  have hm : runM m i = (⟨2, (stepM (ix ((ix m.Blocks (Int.toNat ab)).Ins) k) rs3 me2).1.1, (stepM (ix ((ix m.Blocks (Int.toNat ab)).Ins) k) rs3 me2).2.2, cl2, s2 + 1⟩) := by
    first | exact run_wrong (by simpa using hc1) | exact rins_stop hI hc8 | exact ins_trap hI (by omega) hc8 hc12 (by simpa using hc15) | exact end_ret hI (by omega) hc8 hc10 | exact end_trap hI (by omega) hc8 hc10 hc11
  exact PF.retC rfl rfl hb4 Try.agg33 Try.sz33 ⟨_, hx, hin, hkp, by rw [hm]; exact (rOutcome.mk (m := ⟨2, (stepM (ix ((ix m.Blocks (Int.toNat ab)).Ins) k) rs3 me2).1.1, (stepM (ix ((ix m.Blocks (Int.toNat ab)).Ins) k) rs3 me2).2.2, cl2, s2 + 1⟩) (hrz34.up le3) hrz35 (by decide : IntKind.i64.wrap 2 = 2) w209_0 (IntWalk.i64_in (s2 + 1) (by omega)))⟩
  have hdo : (stepM (ix (ix m.Blocks (Int.toNat ab)).Ins k) rs3 me2).1.2 = true := by simpa using hc15
  refine CF.skip (PF.blockNormal (PF.next (CF.region (LF.step (OpOk.move rfl) ?_))))
  refine LF.step (OpOk.add rfl rfl (by omega)) ?_
  refine LF.step (OpOk.assign rfl) (LF.nil ?_)
  exact PF.again (k + 1, na2, (stepM (ix ((ix m.Blocks (Int.toNat ab)).Ins) k) rs3 me2).2.1, (stepM (ix ((ix m.Blocks (Int.toNat ab)).Ins) k) rs3 me2).2.2, cl2, s2 + 1, vc2, Fm) ⟨by dsimp only; omega, by dsimp only; first | exact rins_callA hI (by omega) hNi h28 hja hea (by omega) | exact rins_callB hI (by omega) hNi h28 hja hea (by omega) | exact ins_ok hI (by omega) hNi h28 hdo, by dsimp only; first | (rw [List.length_set, List.length_set]; exact hrl2) | (rw [List.length_set]; exact hrl2) | (rw [(stepM_len _ _ _).1]; exact hrl2), by dsimp only; first | exact hml2 | (rw [(stepM_len _ _ _).2]; exact hml2), by dsimp only; omega, by dsimp only; first | (rw [List.length_append]; simp; omega) | omega, by dsimp only; omega, by dsimp only; first | (rw [List.length_append, hna2]; rfl) | exact hna2, hx, le1, hin, hkp, hb2, ng2, hb3, ng3, hb4, ng4, hb5, ng5, hb11, ng11, x28, x30, x9003, x57, ap28_9003, ap30_9003, ap9003_57⟩ ⟨rfl, rfl, rfl, rfl, rfl, rfl, rfl, rfl, rfl, eqI (by omega), trivial⟩ (by omega)
  exfalso; omega

end Go.Proofs.Ytehibklogdngbaa
