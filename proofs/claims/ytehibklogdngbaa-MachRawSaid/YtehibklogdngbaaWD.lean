/- Walks. Conditions: each contract names its own. -/
import Derived.Test.YtehibklogdngbaaWC
namespace Go.Proofs.Ytehibklogdngbaa
set_option linter.unusedVariables false
set_option linter.unusedSimpArgs false
set_option linter.unusedSectionVars false
open Go.JE

theorem Try.agg24 : ∃ d, Try.prog.underlying 24 = some d ∧ (match d with | .struct _ | .array _ _ => true | _ => false) = true := ⟨_, Try.underlying24, rfl⟩
theorem Try.ent24 : Ent Try.prog 24 := ⟨_, Try.func24, by kernel_rfl, by kernel_rfl⟩
theorem Try.ent56 : Ent Try.prog 56 := ⟨_, Try.func56, by kernel_rfl, by kernel_rfl⟩
theorem Try.ent57 : Ent Try.prog 57 := ⟨_, Try.func57, by kernel_rfl, by kernel_rfl⟩
theorem Try.ent58 : Ent Try.prog 58 := ⟨_, Try.func58, by kernel_rfl, by kernel_rfl⟩
theorem Try.ent59 : Ent Try.prog 59 := ⟨_, Try.func59, by kernel_rfl, by kernel_rfl⟩
theorem Try.fld24_0 : Fld Try.prog 24 0 0 := ⟨_, _, Try.underlying24, rfl, rfl, 1, (by unfold Sz; kernel_rfl), by decide⟩
theorem Try.fld61_1 : Fld Try.prog 61 1 1 := ⟨_, _, Try.underlying61, rfl, rfl, 1, (by unfold Sz; kernel_rfl), by decide⟩
theorem Try.one59 : One Try.prog 59 := ⟨_, Try.underlying59, rfl⟩
theorem Try.sz24 : Sz Try.prog 24 2 := by unfold Sz; kernel_rfl
theorem Try.zero40 : (Try.prog.info? 40).bind (·.zero) = some (.agg #[.int .i64 0, .int .i64 0, .int .i64 0, .int .i64 0, .int .i64 0, .int .i64 0, .int .i32 0, .slice none 0 0]) := by kernel_rfl
/- ---------------------------------------------- what is wrong first -/
def insW : Nat → List D.Mach → Option (Int × Int)
  | _, [] => none
  | i, y :: l => if insE y = 0 then insW (i + 1) l else some (insE y, (i : Int))
def phiW (all : List D.Phi) : Nat → List D.Phi → Option (Int × Int)
  | _, [] => none
  | i, p :: l => if phiE p (all.take i) = 0 then phiW all (i + 1) l else some (phiE p (all.take i), -1 - (i : Int))
def blockW (n : Int) (x : D.MBlock) : Option (Int × Int) :=
  match phiW x.Phis 0 x.Phis with
  | some t => some t
  | none => match insW 0 x.Ins with
    | some t => some t
    | none => if endE x.End n = 0 then none else some (endE x.End n, (x.Ins.length : Int))
def thingsW (n : Int) : Nat → List D.MBlock → Option (Int × Int × Int)
  | _, [] => none
  | b, x :: l => match blockW n x with
    | some t => some (t.1, (b : Int), t.2)
    | none => thingsW n (b + 1) l
def cntB : List D.MBlock → Int
  | [] => 0
  | x :: l => x.Phis.length + x.Ins.length + 1 + cntB l
def funcM (m : D.MFunc) : Int × Int × Int :=
  if m.Params < 0 ∨ 4 < m.Params then (1, 0, 0)
  else if m.Blocks.length = 0 then (14, 0, 0)
  else if 512 < m.Blocks.length ∨ 16384 < cntB m.Blocks then (2, 0, 0)
  else match thingsW m.Blocks.length 0 m.Blocks with
    | some t => t
    | none => graphM m
def rightM (m : D.MFunc) : Bool := decide ((funcM m).1 = 0)
section
variable {n : Int} {bs : List D.MBlock} {k i : Nat}
theorem phiW_end {P : List D.Phi} (hi : P.length ≤ i) (h : phiW P 0 P = phiW P i (P.drop i)) : phiW P 0 P = none := by rw [h, List.drop_of_length_le hi]; rfl
theorem insW_end {P : List D.Mach} (hi : P.length ≤ i) (h : insW 0 P = insW i (P.drop i)) : insW 0 P = none := by rw [h, List.drop_of_length_le hi]; rfl
theorem phiW_next {P : List D.Phi} (hi : i < P.length) (h : phiW P 0 P = phiW P i (P.drop i)) (h0 : phiE (ix P i) (P.take i) = 0) : phiW P 0 P = phiW P (i + 1) (P.drop (i + 1)) := by rw [h, drop_ix hi, phiW, if_pos h0]
theorem insW_next {P : List D.Mach} (hi : i < P.length) (h : insW 0 P = insW i (P.drop i)) (h0 : insE (ix P i) = 0) : insW 0 P = insW (i + 1) (P.drop (i + 1)) := by rw [h, drop_ix hi, insW, if_pos h0]
theorem things_phi (hk : k < bs.length) (hB : thingsW n 0 bs = thingsW n k (bs.drop k)) (hi : i < (ix bs k).Phis.length) (hP : phiW (ix bs k).Phis 0 (ix bs k).Phis = phiW (ix bs k).Phis i ((ix bs k).Phis.drop i)) (h : ¬ phiE (ix (ix bs k).Phis i) ((ix bs k).Phis.take i) = 0) :
    thingsW n 0 bs = some (phiE (ix (ix bs k).Phis i) ((ix bs k).Phis.take i), (k : Int), -1 - (i : Int)) := by
  rw [drop_ix hi, phiW, if_neg h] at hP
  rw [hB, drop_ix hk, thingsW, blockW, hP]
theorem things_ins (hk : k < bs.length) (hB : thingsW n 0 bs = thingsW n k (bs.drop k)) (hP : phiW (ix bs k).Phis 0 (ix bs k).Phis = none) (hi : i < (ix bs k).Ins.length) (hI : insW 0 (ix bs k).Ins = insW i ((ix bs k).Ins.drop i)) (h : ¬ insE (ix (ix bs k).Ins i) = 0) :
    thingsW n 0 bs = some (insE (ix (ix bs k).Ins i), (k : Int), (i : Int)) := by
  rw [drop_ix hi, insW, if_neg h] at hI
  rw [hB, drop_ix hk, thingsW, blockW, hP, hI]
theorem things_end (hk : k < bs.length) (hB : thingsW n 0 bs = thingsW n k (bs.drop k)) (hP : phiW (ix bs k).Phis 0 (ix bs k).Phis = none) (hI : insW 0 (ix bs k).Ins = none) (h : ¬ endE (ix bs k).End n = 0) :
    thingsW n 0 bs = some (endE (ix bs k).End n, (k : Int), ((ix bs k).Ins.length : Int)) := by
  rw [hB, drop_ix hk, thingsW, blockW, hP, hI]
  simp only [if_neg h]
theorem things_next (hk : k < bs.length) (hB : thingsW n 0 bs = thingsW n k (bs.drop k)) (hP : phiW (ix bs k).Phis 0 (ix bs k).Phis = none) (hI : insW 0 (ix bs k).Ins = none) (h : endE (ix bs k).End n = 0) :
    thingsW n 0 bs = thingsW n (k + 1) (bs.drop (k + 1)) := by
  rw [hB, drop_ix hk, thingsW, blockW, hP, hI]
  simp only [if_pos h]
theorem things_done (hk : bs.length ≤ k) (hB : thingsW n 0 bs = thingsW n k (bs.drop k)) : thingsW n 0 bs = none := by rw [hB, List.drop_of_length_le hk]; rfl
theorem things_none : ∀ (bs : List D.MBlock) (b : Nat), thingsW n b bs = none → ∀ x ∈ bs, phiW x.Phis 0 x.Phis = none ∧ insW 0 x.Ins = none ∧ endE x.End n = 0
  | [], _, _, x, hx => by cases hx
  | y :: l, b, h, x, hx => by
    rw [thingsW] at h
    cases hb : blockW n y with
    | some t => rw [hb] at h; cases h
    | none =>
      rw [hb] at h
      rcases List.mem_cons.1 hx with rfl | hx
      · unfold blockW at hb
        cases h1 : phiW x.Phis 0 x.Phis with
        | some t => rw [h1] at hb; cases hb
        | none =>
          rw [h1] at hb
          cases h2 : insW 0 x.Ins with
          | some t => rw [h2] at hb; cases hb
          | none =>
            rw [h2] at hb
            refine ⟨rfl, rfl, ?_⟩
            by_cases h3 : endE x.End n = 0
            · exact h3
            · simp only [if_neg h3] at hb; cases hb
      · exact things_none l _ h x hx
theorem end_to {e : D.End} (h : endE e n = 0) : toM e = true ∧ regM (needsM e) = true ∧ ∀ t ∈ e.To, 1 ≤ t ∧ t < n := by
  unfold endE at h
  split at h
  · cases h
  · split at h
    · cases h
    · split at h
      · cases h
      · rename_i h1 h2 h3
        refine ⟨by simpa using h1, by simpa using h2, fun t ht => ?_⟩
        have := (List.any_eq_false.1 (by simpa [anyM] using h3)) t ht
        unfold badB at this; simp at this; omega
theorem things_to (h : thingsW n 0 bs = none) : ∀ x ∈ bs, ∀ t ∈ x.End.To, 1 ≤ t ∧ t < n := fun x hx => (end_to (things_none bs 0 h x hx).2.2).2.2
end
section
variable {m : D.MFunc}
theorem func_arg (h : m.Params < 0 ∨ 4 < m.Params) : funcM m = (1, 0, 0) := by unfold funcM; rw [if_pos h]
theorem func_block (h : ¬ m.Params < 0 ∧ ¬ 4 < m.Params) (h2 : (m.Blocks.length : Int) = 0) : funcM m = (14, 0, 0) := by unfold funcM; rw [if_neg (by omega), if_pos (by omega)]
theorem func_many (h : ¬ m.Params < 0 ∧ ¬ 4 < m.Params) (h2 : ¬ (m.Blocks.length : Int) = 0) (h3 : 512 < (m.Blocks.length : Int) ∨ 16384 < cntB m.Blocks) : funcM m = (2, 0, 0) := by unfold funcM; rw [if_neg (by omega), if_neg (by omega), if_pos (by omega)]
theorem func_some (h : ¬ m.Params < 0 ∧ ¬ 4 < m.Params) (h2 : ¬ (m.Blocks.length : Int) = 0) (h3 : ¬ 512 < (m.Blocks.length : Int) ∧ ¬ 16384 < cntB m.Blocks) {t : Int × Int × Int} (h4 : thingsW m.Blocks.length 0 m.Blocks = some t) : funcM m = t := by
  unfold funcM; rw [if_neg (by omega), if_neg (by omega), if_neg (by omega), h4]
theorem func_graph (h : ¬ m.Params < 0 ∧ ¬ 4 < m.Params) (h2 : ¬ (m.Blocks.length : Int) = 0) (h3 : ¬ 512 < (m.Blocks.length : Int) ∧ ¬ 16384 < cntB m.Blocks) (h4 : thingsW m.Blocks.length 0 m.Blocks = none) : funcM m = graphM m := by
  unfold funcM; rw [if_neg (by omega), if_neg (by omega), if_neg (by omega), h4]
end

-- jacquard/mach.Func: function 24
set_option maxRecDepth 4000 in
theorem pFunc_ct {F : PH} {H : Heap} (hin : InH F H) {a0 : Value} {m : D.MFunc} (p0 : rMFunc.ra F a0 m) :
    Ct Try.prog 24 #[a0] H (fun v H' => v = .tuple #[.int .i64 ((funcM m).1), .int .i64 ((funcM m).2.1), .int .i64 ((funcM m).2.2)] ∧ Kp H.size H H') := by
  have p0k := rMFunc.any p0
  obtain ⟨a0c1, rfl, p0c1⟩ := rMFunc.open p0
  have p0c1q := rL.len2 p0c1
  have hkp := Kp.refl H.size H
  have hx := PH.ext.refl (H := H) F
  refine Ct.enter (args := [.agg #[.int .i64 m.Params, a0c1]]) Try.func24 rfl rfl rfl (fun w0 hw0 => ?_)
  refine CF.seq (CF.region ?_)
  refine LF.chg (OpCh.boxB rfl rfl) ?_
  rintro _ H1 ⟨g1, rfl, eg1, sg1, kg1, hb1⟩
  have ng1 := hin.nope (Nat.le_of_eq eg1.symm)
  have lg1 := hkp.1
  have zkg1 := kg1.1
  replace hin := hin.kp kg1
  replace hkp := hkp.trans (kg1.mono hkp.1)
  clear kg1
  refine LF.step (OpOk.assign rfl) (LF.step (OpOk.assign rfl) (LF.step (OpOk.assign rfl) (LF.nil (PF.next (CF.seq (CF.region (LF.step (OpOk.assign rfl) (LF.nil (PF.next (CF.seq (CF.seq ?_)))))))))))
  refine CF.region ?_
  refine LF.step (OpOk.fieldAddr (Try.fld24_1) rfl) ?_
  refine LF.step (OpOk.ldBx hb1 Try.one22 rfl rfl) ?_
  refine LF.step (OpOk.lenL Try.underlying22 p0c1 rfl) ?_
  refine LF.step (OpOk.move rfl) (LF.nil (PF.next (CF.block ?_)))
  refine CF.loop (ι := Nat × Int) (fun z9 H1 => z9.1 ≤ m.Blocks.length ∧ z9.2 + cntB (m.Blocks.drop z9.1) = cntB m.Blocks ∧ 0 ≤ z9.2 ∧ z9.2 ≤ 2147483649 * z9.1 ∧ InH F H1 ∧ Kp H.size H H1 ∧ Bx H1 g1 24 [.int .i64 m.Params, a0c1]) (fun z9 => [(1, .pointer (some ⟨g1, 0, none⟩)), (2, .int .i64 0), (3, .int .i64 0), (4, .int .i64 0), (5, .int .i64 z9.2), (18, a0c1), (19, .int .i64 (↑(List.length m.Blocks))), (20, .int .i64 (↑z9.1))]) (fun z9 => m.Blocks.length - z9.1) (0, 0) ⟨by dsimp only; omega, by simp, by simp, by simp, hin, hkp, hb1⟩ ⟨rfl, rfl, rfl, rfl, eqI (by omega), rfl, rfl, eqI (by omega), trivial⟩ ?_
  clear hin hkp hb1
  rintro ⟨k, c⟩ H1 ⟨hk, hc, h0, hc9, hin, hkp, hb1⟩
  dsimp only at hk hc h0 hc9 hb1 ⊢
  refine CF.seq (CF.region ?_)
  refine LF.step (OpOk.lss rfl rfl) ?_
  refine LF.nil (PF.next (CF.seq ?_))
  refine CF.if rfl (fun hc1 => ?_) (fun hc1 => ?_)
  refine CF.skip (PF.next (CF.seq (CF.block (CF.seq (CF.region ?_)))))
  refine LF.step (OpOk.idxL (i := k) Try.underlying22 Try.sz61 p0c1 rfl rfl rfl (by omega)) ?_
  refine LF.stepE (OpOk.ldA hin (rL.ix p0c1 k (by omega)) Try.agg61 Try.sz61 rfl) ?_
  intro v23 h23
  have h23k := rMBlock.any h23
  obtain ⟨v23c0, v23c1, v23c5, rfl, h23c0, h23c1, h23c5⟩ := rMBlock.open h23
  have h23c0q := rL.len2 h23c0
  have h23c1q := rL.len2 h23c1
  have h23c5q := rL.len2 h23c5
  refine LF.chg (OpCh.allocB Try.zero61 rfl) ?_
  rintro _ H7 ⟨g7, rfl, eg7, sg7, kg7, hb7⟩
  have ng7 := hin.nope (Nat.le_of_eq eg7.symm)
  have lg7 := hkp.1
  have zkg7 := kg7.1
  replace hin := hin.kp kg7
  replace hkp := hkp.trans (kg7.mono hkp.1)
  replace hb1 := hb1.kp kg7
  clear kg7
  refine LF.chg0 (OpCh.storeBA hb7 Try.sz61 rfl rfl rfl (allOne.mem (l := [v23c0, v23c1, .int .i64 (((ix m.Blocks k).End).Op), .int .i64 (((ix m.Blocks k).End).A), .int .i64 (((ix m.Blocks k).End).B), v23c5, .int .i32 (((ix m.Blocks k).End).Imm)]) ⟨(h23c0.one1), (h23c1.one1), rfl, rfl, rfl, (h23c5.one1), rfl, trivial⟩) (by decide)) ?_
  rintro _ Hw1 ⟨tw1, bw1⟩
  have ztw1 := tw1.1
  replace hin := hin.tw tw1 ng7
  replace hkp := Tw.kp' hkp tw1 (by omega)
  replace hb1 := hb1.tw tw1 (Bx.ne hb1 hb7 (by decide))
  replace hb7 : Bx _ _ _ [v23c0, v23c1, .int .i64 (((ix m.Blocks k).End).Op), .int .i64 (((ix m.Blocks k).End).A), .int .i64 (((ix m.Blocks k).End).B), v23c5, .int .i32 (((ix m.Blocks k).End).Imm)] := bw1
  clear bw1 tw1
  refine LF.nil (PF.next (CF.region (LF.step (OpOk.move rfl) ?_)))
  refine LF.step (OpOk.fieldAddr (Try.fld61_0) rfl) ?_
  refine LF.step (OpOk.ldBx hb7 Try.one58 rfl rfl) ?_
  refine LF.step (OpOk.lenL Try.underlying58 h23c0 rfl) ?_
  refine LF.step (OpOk.fieldAddr (Try.fld61_1) rfl) ?_
  refine LF.step (OpOk.ldBx hb7 Try.one59 rfl rfl) ?_
  refine LF.step (OpOk.lenL Try.underlying59 h23c1 rfl) ?_
  refine LF.step (OpOk.add rfl rfl (by omega)) ?_
  refine LF.step (OpOk.add rfl rfl (by omega)) ?_
  refine LF.step (OpOk.add rfl rfl (by omega)) ?_
  refine LF.step (OpOk.assign rfl) (LF.nil (PF.blockNormal (PF.next (CF.region ?_))))
  refine LF.step (OpOk.add rfl rfl (by omega)) ?_
  refine LF.step (OpOk.move rfl) (LF.nil ?_)
  exact PF.again (k + 1, c + (((((List.length ((ix m.Blocks k).Phis) : Nat) : Int)) + (((List.length ((ix m.Blocks k).Ins) : Nat) : Int))) + 1)) ⟨by dsimp only; omega, by dsimp only; rw [← hc, drop_ix (l := m.Blocks) (i := k) (by omega), cntB]; omega, by dsimp only; omega, by dsimp only; omega, hin, hkp, hb1⟩ ⟨rfl, rfl, rfl, rfl, rfl, rfl, rfl, eqI (by omega), trivial⟩ (by omega)
  have hcnt : c = cntB m.Blocks := by rw [← hc, List.drop_of_length_le (by omega)]; simp [cntB]
  subst hcnt
  refine CF.exit (PF.thenExit (PF.thenExit (PF.blockHere (PF.next (CF.seq (CF.block (CF.seq (CF.region ?_))))))))
  refine LF.step (OpOk.fieldAddr (Try.fld24_0) rfl) ?_
  refine LF.step (OpOk.ldBx hb1 Try.one3 rfl rfl) ?_
  refine LF.step (OpOk.lss rfl rfl) ?_
  refine LF.step (OpOk.move rfl) ?_
  refine LF.gstep rfl rfl (.f _) (fun hg => OpOk.fieldAddr (Try.fld24_0) rfl) ?_
  refine LF.gstep rfl rfl (.f _) (fun hg => OpOk.ldBx hb1 Try.one3 (evg rfl hg) rfl) ?_
  refine LF.gstep rfl rfl (.f _) (fun hg => OpOk.gtr (evg rfl hg) rfl) ?_
  refine LF.step (OpOk.pickOr rfl rfl) ?_
  refine LF.step (OpOk.assign rfl) (LF.nil (PF.next ?_))
  refine CF.if rfl (fun hc2 => ?_) (fun hc2 => ?_)
  refine CF.seq (CF.region (LF.step (OpOk.assign rfl) (LF.step (OpOk.assign rfl) (LF.step (OpOk.assign rfl) (LF.nil (PF.next (CF.ret (PF.blockRet (PF.thenRet ?_)))))))))
  have hm : funcM m = (1, 0, 0) := by
    first | exact func_arg hc2 | exact func_block hc2 hc3 | exact func_many hc2 hc3 hc4 | exact func_some hc2 hc3 hc4 (things_phi (by omega) hB (by omega) hP hc7) | exact func_some hc2 hc3 hc4 (things_ins (by omega) hB (phiW_end (by omega) hP) (by omega) hI hc9) | exact func_some hc2 hc3 hc4 (things_end (by omega) hB (phiW_end (by omega) hP) (insW_end (by omega) hI) hc10) | exact func_graph hc2 hc3 hc4 (things_done (by omega) hB)
  exact PF.ret3 rfl rfl rfl rfl ⟨by rw [hm] <;> rfl, hkp⟩
  refine CF.seq (CF.region ?_)
  refine LF.step (OpOk.fieldAddr (Try.fld24_1) rfl) ?_
  refine LF.step (OpOk.ldBx hb1 Try.one22 rfl rfl) ?_
  refine LF.step (OpOk.lenL Try.underlying22 p0c1 rfl) ?_
  refine LF.step (OpOk.eql rfl rfl) ?_
  refine LF.step (OpOk.assign rfl) (LF.nil (PF.next ?_))
  refine CF.if rfl (fun hc3 => ?_) (fun hc3 => ?_)
  refine CF.seq (CF.region (LF.step (OpOk.assign rfl) (LF.step (OpOk.assign rfl) (LF.step (OpOk.assign rfl) (LF.nil (PF.next (CF.ret (PF.blockRet (PF.thenRet ?_)))))))))
  have hm : funcM m = (14, 0, 0) := by
    first | exact func_arg hc2 | exact func_block hc2 hc3 | exact func_many hc2 hc3 hc4 | exact func_some hc2 hc3 hc4 (things_phi (by omega) hB (by omega) hP hc7) | exact func_some hc2 hc3 hc4 (things_ins (by omega) hB (phiW_end (by omega) hP) (by omega) hI hc9) | exact func_some hc2 hc3 hc4 (things_end (by omega) hB (phiW_end (by omega) hP) (insW_end (by omega) hI) hc10) | exact func_graph hc2 hc3 hc4 (things_done (by omega) hB)
  exact PF.ret3 rfl rfl rfl rfl ⟨by rw [hm] <;> rfl, hkp⟩
  refine CF.seq (CF.region ?_)
  refine LF.step (OpOk.fieldAddr (Try.fld24_1) rfl) ?_
  refine LF.step (OpOk.ldBx hb1 Try.one22 rfl rfl) ?_
  refine LF.step (OpOk.lenL Try.underlying22 p0c1 rfl) ?_
  refine LF.step (OpOk.gtr rfl rfl) ?_
  refine LF.step (OpOk.move rfl) ?_
  refine LF.gstep rfl rfl (.f _) (fun hg => OpOk.move rfl) ?_
  refine LF.gstep rfl rfl (.f _) (fun hg => OpOk.gtr (evg rfl hg) rfl) ?_
  refine LF.step (OpOk.pickOr rfl rfl) ?_
  refine LF.step (OpOk.assign rfl) (LF.nil (PF.next ?_))
  refine CF.if rfl (fun hc4 => ?_) (fun hc4 => ?_)
  refine CF.seq (CF.region (LF.step (OpOk.assign rfl) (LF.step (OpOk.assign rfl) (LF.step (OpOk.assign rfl) (LF.nil (PF.next (CF.ret (PF.blockRet (PF.thenRet ?_)))))))))
  have hm : funcM m = (2, 0, 0) := by
    first | exact func_arg hc2 | exact func_block hc2 hc3 | exact func_many hc2 hc3 hc4 | exact func_some hc2 hc3 hc4 (things_phi (by omega) hB (by omega) hP hc7) | exact func_some hc2 hc3 hc4 (things_ins (by omega) hB (phiW_end (by omega) hP) (by omega) hI hc9) | exact func_some hc2 hc3 hc4 (things_end (by omega) hB (phiW_end (by omega) hP) (insW_end (by omega) hI) hc10) | exact func_graph hc2 hc3 hc4 (things_done (by omega) hB)
  exact PF.ret3 rfl rfl rfl rfl ⟨by rw [hm] <;> rfl, hkp⟩
  refine CF.skip (PF.blockNormal (PF.next (CF.seq (CF.seq (CF.region ?_)))))
  refine LF.step (OpOk.fieldAddr (Try.fld24_1) rfl) ?_
  refine LF.step (OpOk.ldBx hb1 Try.one22 rfl rfl) ?_
  refine LF.step (OpOk.lenL Try.underlying22 p0c1 rfl) ?_
  refine LF.step (OpOk.move rfl) (LF.nil (PF.next (CF.block ?_)))
  refine CF.loop (ι := Nat) (fun k H1 => k ≤ m.Blocks.length ∧ thingsW m.Blocks.length 0 m.Blocks = thingsW m.Blocks.length k (m.Blocks.drop k) ∧ InH F H1 ∧ Kp H.size H H1 ∧ Bx H1 g1 24 [.int .i64 m.Params, a0c1]) (fun k => [(1, .pointer (some ⟨g1, 0, none⟩)), (59, a0c1), (60, .int .i64 (↑(List.length m.Blocks))), (61, .int .i64 (↑k))]) (fun k => m.Blocks.length - k) 0 ⟨by omega, rfl, hin, hkp, hb1⟩ ⟨rfl, rfl, rfl, eqI (by omega), trivial⟩ ?_
  clear hin hkp hb1
  rintro k H1 ⟨hk, hB, hin, hkp, hb1⟩
  refine CF.seq (CF.region ?_)
  refine LF.step (OpOk.lss rfl rfl) ?_
  refine LF.nil (PF.next (CF.seq ?_))
  refine CF.if rfl (fun hc5 => ?_) (fun hc5 => ?_)
  refine CF.skip (PF.next (CF.seq (CF.block (CF.seq (CF.region (LF.step (OpOk.move rfl) ?_))))))
  refine LF.step (OpOk.idxL (i := k) Try.underlying22 Try.sz61 p0c1 rfl rfl rfl (by omega)) ?_
  refine LF.stepE (OpOk.ldA hin (rL.ix p0c1 k (by omega)) Try.agg61 Try.sz61 rfl) ?_
  intro v65 h65
  have h65k := rMBlock.any h65
  obtain ⟨v65c0, v65c1, v65c5, rfl, h65c0, h65c1, h65c5⟩ := rMBlock.open h65
  have h65c0q := rL.len2 h65c0
  have h65c1q := rL.len2 h65c1
  have h65c5q := rL.len2 h65c5
  refine LF.chg (OpCh.allocB Try.zero61 rfl) ?_
  rintro _ H9 ⟨g9, rfl, eg9, sg9, kg9, hb9⟩
  have ng9 := hin.nope (Nat.le_of_eq eg9.symm)
  have lg9 := hkp.1
  have zkg9 := kg9.1
  replace hin := hin.kp kg9
  replace hkp := hkp.trans (kg9.mono hkp.1)
  replace hb1 := hb1.kp kg9
  clear kg9
  refine LF.step (OpOk.assign rfl) ?_
  refine LF.chg0 (OpCh.storeBA hb9 Try.sz61 rfl rfl rfl (allOne.mem (l := [v65c0, v65c1, .int .i64 (((ix m.Blocks k).End).Op), .int .i64 (((ix m.Blocks k).End).A), .int .i64 (((ix m.Blocks k).End).B), v65c5, .int .i32 (((ix m.Blocks k).End).Imm)]) ⟨(h65c0.one1), (h65c1.one1), rfl, rfl, rfl, (h65c5.one1), rfl, trivial⟩) (by decide)) ?_
  rintro _ Hw2 ⟨tw2, bw2⟩
  have ztw2 := tw2.1
  replace hin := hin.tw tw2 ng9
  replace hkp := Tw.kp' hkp tw2 (by omega)
  replace hb1 := hb1.tw tw2 (Bx.ne hb1 hb9 (by decide))
  replace hb9 : Bx _ _ _ [v65c0, v65c1, .int .i64 (((ix m.Blocks k).End).Op), .int .i64 (((ix m.Blocks k).End).A), .int .i64 (((ix m.Blocks k).End).B), v65c5, .int .i32 (((ix m.Blocks k).End).Imm)] := bw2
  clear bw2 tw2
  refine LF.nil (PF.next (CF.seq (CF.seq (CF.region ?_))))
  refine LF.step (OpOk.fieldAddr (Try.fld61_0) rfl) ?_
  refine LF.step (OpOk.ldBx hb9 Try.one58 rfl rfl) ?_
  refine LF.step (OpOk.lenL Try.underlying58 h65c0 rfl) ?_
  refine LF.step (OpOk.move rfl) (LF.nil (PF.next (CF.block ?_)))
  refine CF.loop (ι := Nat) (fun i H1 => i ≤ (ix m.Blocks k).Phis.length ∧ phiW (ix m.Blocks k).Phis 0 (ix m.Blocks k).Phis = phiW (ix m.Blocks k).Phis i ((ix m.Blocks k).Phis.drop i) ∧ InH F H1 ∧ Kp H.size H H1 ∧ Bx H1 g1 24 [.int .i64 m.Params, a0c1] ∧ Bx H1 g9 61 [v65c0, v65c1, .int .i64 (((ix m.Blocks k).End).Op), .int .i64 (((ix m.Blocks k).End).A), .int .i64 (((ix m.Blocks k).End).B), v65c5, .int .i32 (((ix m.Blocks k).End).Imm)]) (fun i => [(1, .pointer (some ⟨g1, 0, none⟩)), (8, .int .i64 (↑k)), (9, .pointer (some ⟨g9, 0, none⟩)), (59, a0c1), (60, .int .i64 (↑(List.length m.Blocks))), (61, .int .i64 (↑k)), (67, v65c0), (68, .int .i64 (↑(List.length ((ix m.Blocks k).Phis)))), (69, .int .i64 (↑i))]) (fun i => (ix m.Blocks k).Phis.length - i) 0 ⟨by omega, rfl, hin, hkp, hb1, hb9⟩ ⟨rfl, rfl, rfl, rfl, rfl, rfl, rfl, rfl, eqI (by omega), trivial⟩ ?_
  clear hin hkp hb1 hb9
  rintro i H1 ⟨hi, hP, hin, hkp, hb1, hb9⟩
  refine CF.seq (CF.region ?_)
  refine LF.step (OpOk.lss rfl rfl) ?_
  refine LF.nil (PF.next (CF.seq ?_))
  refine CF.if rfl (fun hc6 => ?_) (fun hc6 => ?_)
  refine CF.skip (PF.next (CF.seq (CF.block (CF.seq (CF.region (LF.step (OpOk.move rfl) ?_))))))
  refine LF.step (OpOk.idxL (i := i) Try.underlying58 Try.sz70 h65c0 rfl rfl rfl (by omega)) ?_
  refine LF.stepE (OpOk.ldA hin (rL.ix h65c0 i (by omega)) Try.agg70 Try.sz70 rfl) ?_
  intro v73 h73
  have h73k := rPhi.any h73
  obtain ⟨v73c1, rfl, h73c1⟩ := rPhi.open h73
  have h73c1q := rL.len2 h73c1
  refine LF.chg (OpCh.allocB Try.zero70 rfl) ?_
  rintro _ H11 ⟨g11, rfl, eg11, sg11, kg11, hb11⟩
  have ng11 := hin.nope (Nat.le_of_eq eg11.symm)
  have lg11 := hkp.1
  have zkg11 := kg11.1
  replace hin := hin.kp kg11
  replace hkp := hkp.trans (kg11.mono hkp.1)
  replace hb1 := hb1.kp kg11
  replace hb9 := hb9.kp kg11
  clear kg11
  refine LF.step (OpOk.assign rfl) ?_
  refine LF.chg0 (OpCh.storeBA hb11 Try.sz70 rfl rfl rfl (allOne.mem (l := [.int .i64 ((ix ((ix m.Blocks k).Phis) i).Dst), v73c1]) ⟨rfl, (h73c1.one1), trivial⟩) (by decide)) ?_
  rintro _ Hw3 ⟨tw3, bw3⟩
  have ztw3 := tw3.1
  replace hin := hin.tw tw3 ng11
  replace hkp := Tw.kp' hkp tw3 (by omega)
  replace hb1 := hb1.tw tw3 (Bx.ne hb1 hb11 (by decide))
  replace hb9 := hb9.tw tw3 (Bx.ne hb9 hb11 (by decide))
  replace hb11 : Bx _ _ _ [.int .i64 ((ix ((ix m.Blocks k).Phis) i).Dst), v73c1] := bw3
  clear bw3 tw3
  refine LF.nil (PF.next (CF.seq ?_))
  refine CF.tail 5 Try.mixed (by kernel_rfl) ?_
  refine LS.step (OpOk.ldBxA hb11 Try.agg70 Try.sz70 rfl rfl rfl) ?_
  refine LS.step (OpOk.fieldAddr (Try.fld61_0) rfl) ?_
  refine LS.step (OpOk.ldBx hb9 Try.one58 rfl rfl) ?_
  refine LS.step (OpOk.move rfl) ?_
  refine LS.step (OpOk.sliceHiL (hi := i) Try.underlying58 Try.sz70 h65c0 hin rfl rfl rfl (by omega)) ?_
  refine LS.tail ?_
  refine LF.call (OpCall.fn Try.ent56 rfl rfl) (pPhi_ct hin h73 (rL.hi h65c0 i (by omega) (by omega))) ?_
  rintro _ H79 ⟨rfl, k79⟩
  have zk79 := k79.1
  replace hin := hin.kp k79
  replace hkp := hkp.trans (k79.mono hkp.1)
  replace hb1 := hb1.kp k79
  replace hb9 := hb9.kp k79
  replace hb11 := hb11.kp k79
  refine LF.step (OpOk.assign rfl) (LF.nil (PF.next (CF.seq (CF.region (LF.step (OpOk.move rfl) ?_)))))
  refine LF.step (OpOk.neq rfl rfl) ?_
  refine LF.nil (PF.next ?_)
  refine CF.if rfl (fun hc7 => ?_) (fun hc7 => ?_)
  refine CF.seq (CF.region (LF.step (OpOk.move rfl) (LF.step (OpOk.move rfl) (LF.step (OpOk.move rfl) ?_))))
  refine LF.step (OpOk.sub rfl rfl (by omega)) ?_
  refine LF.step (OpOk.assign rfl) (LF.step (OpOk.assign rfl) (LF.step (OpOk.assign rfl) (LF.nil (PF.next (CF.ret (PF.blockRet (PF.thenRet (PF.thenRet (PF.blockRet (PF.thenRet (PF.blockRet ?_)))))))))))
  refine PF.thenRet (PF.thenRet (PF.blockRet (PF.thenRet ?_)))
  have hm : funcM m = (phiE (ix ((ix m.Blocks k).Phis) i) (List.take i ((ix m.Blocks k).Phis)), ((k : Nat) : Int), (-1) - ((i : Nat) : Int)) := by
    first | exact func_arg hc2 | exact func_block hc2 hc3 | exact func_many hc2 hc3 hc4 | exact func_some hc2 hc3 hc4 (things_phi (by omega) hB (by omega) hP hc7) | exact func_some hc2 hc3 hc4 (things_ins (by omega) hB (phiW_end (by omega) hP) (by omega) hI hc9) | exact func_some hc2 hc3 hc4 (things_end (by omega) hB (phiW_end (by omega) hP) (insW_end (by omega) hI) hc10) | exact func_graph hc2 hc3 hc4 (things_done (by omega) hB)
  exact PF.ret3 rfl rfl rfl rfl ⟨by rw [hm] <;> rfl, hkp⟩
  refine CF.skip (PF.blockNormal (PF.next (CF.region ?_)))
  refine LF.step (OpOk.add rfl rfl (by omega)) ?_
  refine LF.step (OpOk.move rfl) (LF.nil ?_)
  exact PF.again (i + 1) ⟨by omega, phiW_next (by omega) hP hc7, hin, hkp, hb1, hb9⟩ ⟨rfl, rfl, rfl, rfl, rfl, rfl, rfl, rfl, eqI (by omega), trivial⟩ (by omega)
  refine CF.exit (PF.thenExit (PF.thenExit (PF.blockHere (PF.next (CF.seq (CF.seq (CF.region ?_)))))))
  refine LF.step (OpOk.fieldAddr (Try.fld61_1) rfl) ?_
  refine LF.step (OpOk.ldBx hb9 Try.one59 rfl rfl) ?_
  refine LF.step (OpOk.lenL Try.underlying59 h65c1 rfl) ?_
  refine LF.step (OpOk.move rfl) (LF.nil (PF.next (CF.block ?_)))
  refine CF.loop (ι := Nat) (fun j H1 => j ≤ (ix m.Blocks k).Ins.length ∧ insW 0 (ix m.Blocks k).Ins = insW j ((ix m.Blocks k).Ins.drop j) ∧ InH F H1 ∧ Kp H.size H H1 ∧ Bx H1 g1 24 [.int .i64 m.Params, a0c1] ∧ Bx H1 g9 61 [v65c0, v65c1, .int .i64 (((ix m.Blocks k).End).Op), .int .i64 (((ix m.Blocks k).End).A), .int .i64 (((ix m.Blocks k).End).B), v65c5, .int .i32 (((ix m.Blocks k).End).Imm)]) (fun j => [(1, .pointer (some ⟨g1, 0, none⟩)), (8, .int .i64 (↑k)), (9, .pointer (some ⟨g9, 0, none⟩)), (59, a0c1), (60, .int .i64 (↑(List.length m.Blocks))), (61, .int .i64 (↑k)), (88, v65c1), (89, .int .i64 (↑(List.length ((ix m.Blocks k).Ins)))), (90, .int .i64 (↑j))]) (fun j => (ix m.Blocks k).Ins.length - j) 0 ⟨by omega, rfl, hin, hkp, hb1, hb9⟩ ⟨rfl, rfl, rfl, rfl, rfl, rfl, rfl, rfl, eqI (by omega), trivial⟩ ?_
  clear hin hkp hb1 hb9
  rintro j H1 ⟨hj, hI, hin, hkp, hb1, hb9⟩
  refine CF.seq (CF.region ?_)
  refine LF.step (OpOk.lss rfl rfl) ?_
  refine LF.nil (PF.next (CF.seq ?_))
  refine CF.if rfl (fun hc8 => ?_) (fun hc8 => ?_)
  refine CF.skip (PF.next (CF.seq (CF.block (CF.seq (CF.region (LF.step (OpOk.move rfl) ?_))))))
  refine LF.step (OpOk.idxL (i := j) Try.underlying59 Try.sz40 h65c1 rfl rfl rfl (by omega)) ?_
  refine LF.stepE (OpOk.ldA hin (rL.ix h65c1 j (by omega)) Try.agg40 Try.sz40 rfl) ?_
  intro v94 h94
  have h94k := rMach.any h94
  obtain ⟨v94c7, rfl, h94c7⟩ := rMach.open h94
  have h94c7q := rL.len2 h94c7
  refine LF.chg (OpCh.allocB Try.zero40 rfl) ?_
  rintro _ H14 ⟨g14, rfl, eg14, sg14, kg14, hb14⟩
  have ng14 := hin.nope (Nat.le_of_eq eg14.symm)
  have lg14 := hkp.1
  have zkg14 := kg14.1
  replace hin := hin.kp kg14
  replace hkp := hkp.trans (kg14.mono hkp.1)
  replace hb1 := hb1.kp kg14
  replace hb9 := hb9.kp kg14
  clear kg14
  refine LF.step (OpOk.assign rfl) ?_
  refine LF.chg0 (OpCh.storeBA hb14 Try.sz40 rfl rfl rfl (allOne.mem (l := [.int .i64 ((ix ((ix m.Blocks k).Ins) j).Op), .int .i64 ((ix ((ix m.Blocks k).Ins) j).D), .int .i64 ((ix ((ix m.Blocks k).Ins) j).E), .int .i64 ((ix ((ix m.Blocks k).Ins) j).A), .int .i64 ((ix ((ix m.Blocks k).Ins) j).B), .int .i64 ((ix ((ix m.Blocks k).Ins) j).C), .int .i32 ((ix ((ix m.Blocks k).Ins) j).Imm), v94c7]) ⟨rfl, rfl, rfl, rfl, rfl, rfl, rfl, (h94c7.one1), trivial⟩) (by decide)) ?_
  rintro _ Hw4 ⟨tw4, bw4⟩
  have ztw4 := tw4.1
  replace hin := hin.tw tw4 ng14
  replace hkp := Tw.kp' hkp tw4 (by omega)
  replace hb1 := hb1.tw tw4 (Bx.ne hb1 hb14 (by decide))
  replace hb9 := hb9.tw tw4 (Bx.ne hb9 hb14 (by decide))
  replace hb14 : Bx _ _ _ [.int .i64 ((ix ((ix m.Blocks k).Ins) j).Op), .int .i64 ((ix ((ix m.Blocks k).Ins) j).D), .int .i64 ((ix ((ix m.Blocks k).Ins) j).E), .int .i64 ((ix ((ix m.Blocks k).Ins) j).A), .int .i64 ((ix ((ix m.Blocks k).Ins) j).B), .int .i64 ((ix ((ix m.Blocks k).Ins) j).C), .int .i32 ((ix ((ix m.Blocks k).Ins) j).Imm), v94c7] := bw4
  clear bw4 tw4
  refine LF.nil (PF.next (CF.seq (CF.region ?_)))
  refine LF.step (OpOk.ldBxA hb14 Try.agg40 Try.sz40 rfl rfl rfl) ?_
  refine LF.call (OpCall.fn Try.ent57 rfl rfl) (pIns_ct hin h94) ?_
  rintro _ H96 ⟨rfl, k96⟩
  have zk96 := k96.1
  replace hin := hin.kp k96
  replace hkp := hkp.trans (k96.mono hkp.1)
  replace hb1 := hb1.kp k96
  replace hb9 := hb9.kp k96
  replace hb14 := hb14.kp k96
  refine LF.step (OpOk.assign rfl) (LF.nil (PF.next (CF.seq (CF.region (LF.step (OpOk.move rfl) ?_)))))
  refine LF.step (OpOk.neq rfl rfl) ?_
  refine LF.nil (PF.next ?_)
  refine CF.if rfl (fun hc9 => ?_) (fun hc9 => ?_)
  refine CF.seq (CF.region (LF.step (OpOk.move rfl) (LF.step (OpOk.move rfl) (LF.step (OpOk.move rfl) (LF.step (OpOk.assign rfl) (LF.step (OpOk.assign rfl) (LF.step (OpOk.assign rfl) (LF.nil (PF.next (CF.ret (PF.blockRet ?_)))))))))))
  refine PF.thenRet (PF.thenRet (PF.blockRet (PF.thenRet (PF.blockRet (PF.thenRet (PF.thenRet (PF.blockRet (PF.thenRet ?_))))))))
  have hm : funcM m = (insE (ix ((ix m.Blocks k).Ins) j), ((k : Nat) : Int), ((j : Nat) : Int)) := by
    first | exact func_arg hc2 | exact func_block hc2 hc3 | exact func_many hc2 hc3 hc4 | exact func_some hc2 hc3 hc4 (things_phi (by omega) hB (by omega) hP hc7) | exact func_some hc2 hc3 hc4 (things_ins (by omega) hB (phiW_end (by omega) hP) (by omega) hI hc9) | exact func_some hc2 hc3 hc4 (things_end (by omega) hB (phiW_end (by omega) hP) (insW_end (by omega) hI) hc10) | exact func_graph hc2 hc3 hc4 (things_done (by omega) hB)
  exact PF.ret3 rfl rfl rfl rfl ⟨by rw [hm] <;> rfl, hkp⟩
  refine CF.skip (PF.blockNormal (PF.next (CF.region ?_)))
  refine LF.step (OpOk.add rfl rfl (by omega)) ?_
  refine LF.step (OpOk.move rfl) (LF.nil ?_)
  exact PF.again (j + 1) ⟨by omega, insW_next (by omega) hI hc9, hin, hkp, hb1, hb9⟩ ⟨rfl, rfl, rfl, rfl, rfl, rfl, rfl, rfl, eqI (by omega), trivial⟩ (by omega)
  refine CF.exit (PF.thenExit (PF.thenExit (PF.blockHere (PF.next (CF.seq (CF.region ?_))))))
  refine LF.step (OpOk.fieldAddr (Try.fld61_2) rfl) ?_
  refine LF.step (OpOk.ldBxA hb9 Try.agg55 Try.sz55 rfl rfl rfl) ?_
  refine LF.step (OpOk.fieldAddr (Try.fld24_1) rfl) ?_
  refine LF.step (OpOk.ldBx hb1 Try.one22 rfl rfl) ?_
  refine LF.step (OpOk.lenL Try.underlying22 p0c1 rfl) ?_
  refine LF.call (OpCall.fn Try.ent58 rfl rfl) (pEnd_ct hin (rEnd.mk (m := ⟨((ix m.Blocks k).End).Op, ((ix m.Blocks k).End).A, ((ix m.Blocks k).End).B, ((ix m.Blocks k).End).To, ((ix m.Blocks k).End).Imm⟩) h65c5 (rEnd.w_Op (m := ((ix m.Blocks k).End)) (rMBlock.k_End h65k)) (rEnd.w_A (m := ((ix m.Blocks k).End)) (rMBlock.k_End h65k)) (rEnd.w_B (m := ((ix m.Blocks k).End)) (rMBlock.k_End h65k)) (rEnd.w_Imm (m := ((ix m.Blocks k).End)) (rMBlock.k_End h65k))) (↑(List.length m.Blocks))) ?_
  rintro _ H108 ⟨rfl, k108⟩
  have zk108 := k108.1
  replace hin := hin.kp k108
  replace hkp := hkp.trans (k108.mono hkp.1)
  replace hb1 := hb1.kp k108
  replace hb9 := hb9.kp k108
  refine LF.step (OpOk.assign rfl) (LF.nil (PF.next (CF.seq (CF.region (LF.step (OpOk.move rfl) ?_)))))
  refine LF.step (OpOk.neq rfl rfl) ?_
  refine LF.nil (PF.next ?_)
  refine CF.if rfl (fun hc10 => ?_) (fun hc10 => ?_)
  refine CF.seq ?_
  refine CF.still Try.mixed (by kernel_rfl) ?_
  refine LS.step (OpOk.move rfl) (LS.step (OpOk.move rfl) ?_)
  refine LS.step (OpOk.fieldAddr (Try.fld61_1) rfl) ?_
  refine LS.step (OpOk.ldBx hb9 Try.one59 rfl rfl) ?_
  refine LS.step (OpOk.lenL Try.underlying59 h65c1 rfl) ?_
  refine LS.step (OpOk.assign rfl) (LS.step (OpOk.assign rfl) (LS.step (OpOk.assign rfl) ?_))
  refine LS.done ?_
  refine PF.next (CF.ret (PF.blockRet (PF.thenRet (PF.thenRet (PF.blockRet (PF.thenRet ?_))))))
  have hm : funcM m = (endE (⟨((ix m.Blocks k).End).Op, ((ix m.Blocks k).End).A, ((ix m.Blocks k).End).B, ((ix m.Blocks k).End).To, ((ix m.Blocks k).End).Imm⟩) (((List.length m.Blocks : Nat) : Int)), ((k : Nat) : Int), ((List.length ((ix m.Blocks k).Ins) : Nat) : Int)) := by
    first | exact func_arg hc2 | exact func_block hc2 hc3 | exact func_many hc2 hc3 hc4 | exact func_some hc2 hc3 hc4 (things_phi (by omega) hB (by omega) hP hc7) | exact func_some hc2 hc3 hc4 (things_ins (by omega) hB (phiW_end (by omega) hP) (by omega) hI hc9) | exact func_some hc2 hc3 hc4 (things_end (by omega) hB (phiW_end (by omega) hP) (insW_end (by omega) hI) hc10) | exact func_graph hc2 hc3 hc4 (things_done (by omega) hB)
  exact PF.ret3 rfl rfl rfl rfl ⟨by rw [hm] <;> rfl, hkp⟩
  refine CF.skip (PF.blockNormal (PF.next (CF.region ?_)))
  refine LF.step (OpOk.add rfl rfl (by omega)) ?_
  refine LF.step (OpOk.move rfl) (LF.nil ?_)
  exact PF.again (k + 1) ⟨by omega, things_next (by omega) hB (phiW_end (by omega) hP) (insW_end (by omega) hI) hc10, hin, hkp, hb1⟩ ⟨rfl, rfl, rfl, eqI (by omega), trivial⟩ (by omega)
  refine CF.exit (PF.thenExit (PF.thenExit (PF.blockHere (PF.next (CF.seq (CF.region ?_))))))
  refine LF.step (OpOk.ldBxA hb1 Try.agg24 Try.sz24 rfl rfl rfl) ?_
  refine LF.call (OpCall.fn Try.ent59 rfl rfl) (pGraph_ct hin p0 (by first | omega | exact things_to (things_done (by omega) hB)) (by first | omega | exact things_to (things_done (by omega) hB))) ?_
  rintro _ H118 ⟨rfl, k118⟩
  have zk118 := k118.1
  replace hin := hin.kp k118
  replace hkp := hkp.trans (k118.mono hkp.1)
  replace hb1 := hb1.kp k118
  refine LF.step (OpOk.extract (v := .int .i64 ((graphM m).1)) rfl rfl) ?_
  refine LF.step (OpOk.extract (v := .int .i64 ((graphM m).2.1)) rfl rfl) ?_
  refine LF.step (OpOk.extract (v := .int .i64 ((graphM m).2.2)) rfl rfl) ?_
  refine LF.step (OpOk.assign rfl) (LF.step (OpOk.assign rfl) (LF.step (OpOk.assign rfl) (LF.nil (PF.next (CF.ret ?_)))))
  have hm : funcM m = ((graphM m).1, (graphM m).2.1, (graphM m).2.2) := by
    first | exact func_arg hc2 | exact func_block hc2 hc3 | exact func_many hc2 hc3 hc4 | exact func_some hc2 hc3 hc4 (things_phi (by omega) hB (by omega) hP hc7) | exact func_some hc2 hc3 hc4 (things_ins (by omega) hB (phiW_end (by omega) hP) (by omega) hI hc9) | exact func_some hc2 hc3 hc4 (things_end (by omega) hB (phiW_end (by omega) hP) (insW_end (by omega) hI) hc10) | exact func_graph hc2 hc3 hc4 (things_done (by omega) hB)
  exact PF.ret3 rfl rfl rfl rfl ⟨by rw [hm] <;> rfl, hkp⟩

-- jacquard/mach.Right: function 15
theorem pRight_ct {F : PH} {H : Heap} (hin : InH F H) {a0 : Value} {m : D.MFunc} (p0 : rMFunc.ra F a0 m) :
    Ct Try.prog 15 #[a0] H (fun v H' => v = .bool (rightM m) ∧ Kp H.size H H') := by
  have p0k := rMFunc.any p0
  obtain ⟨a0c1, rfl, p0c1⟩ := rMFunc.open p0
  have p0c1q := rL.len2 p0c1
  have hkp := Kp.refl H.size H
  have hx := PH.ext.refl (H := H) F
  refine Ct.enter (args := [.agg #[.int .i64 m.Params, a0c1]]) Try.func15 rfl rfl rfl (fun w0 hw0 => ?_)
  refine CF.seq (CF.region ?_)
  refine LF.chg (OpCh.boxB rfl rfl) ?_
  rintro _ H1 ⟨g1, rfl, eg1, sg1, kg1, hb1⟩
  have ng1 := hin.nope (Nat.le_of_eq eg1.symm)
  have lg1 := hkp.1
  have zkg1 := kg1.1
  replace hin := hin.kp kg1
  replace hkp := hkp.trans (kg1.mono hkp.1)
  clear kg1
  refine LF.step (OpOk.assign rfl) (LF.nil (PF.next (CF.seq (CF.region ?_))))
  refine LF.step (OpOk.ldBxA hb1 Try.agg24 Try.sz24 rfl rfl rfl) ?_
  refine LF.call (OpCall.fn Try.ent24 rfl rfl) (pFunc_ct hin p0) ?_
  rintro _ H8 ⟨rfl, k8⟩
  have zk8 := k8.1
  replace hin := hin.kp k8
  replace hkp := hkp.trans (k8.mono hkp.1)
  replace hb1 := hb1.kp k8
  refine LF.step (OpOk.move rfl) ?_
  refine LF.step (OpOk.extract (v := .int .i64 ((funcM m).1)) rfl rfl) ?_
  refine LF.step (OpOk.extract (v := .int .i64 ((funcM m).2.1)) rfl rfl) ?_
  refine LF.step (OpOk.extract (v := .int .i64 ((funcM m).2.2)) rfl rfl) ?_
  refine LF.step (OpOk.assign rfl) (LF.step (OpOk.assign rfl) (LF.step (OpOk.assign rfl) (LF.nil (PF.next (CF.seq (CF.region (LF.step (OpOk.move rfl) ?_)))))))
  refine LF.step (OpOk.eql rfl rfl) ?_
  refine LF.step (OpOk.assign rfl) (LF.nil (PF.next (CF.ret ?_)))
  have hm : rightM m = (decide ((funcM m).1 = 0)) := by
    rfl
  exact PF.ret1 rfl rfl ⟨by rw [hm] <;> rfl, hkp⟩

end Go.Proofs.Ytehibklogdngbaa
