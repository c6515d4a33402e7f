/- Walks. Conditions: each contract names its own. -/
import Derived.Test.YtehibklogdngbaaWT
namespace Go.Proofs.Ytehibklogdngbaa
set_option linter.unusedVariables false
set_option linter.unusedSimpArgs false
set_option linter.unusedSectionVars false
open Go.JE

theorem Try.agg79 : ∃ d, Try.prog.underlying 79 = some d ∧ (match d with | .struct _ | .array _ _ => true | _ => false) = true := ⟨_, Try.underlying79, rfl⟩
theorem Try.ent105 : Ent Try.prog 105 := ⟨_, Try.func105, by kernel_rfl, by kernel_rfl⟩
theorem Try.ent106 : Ent Try.prog 106 := ⟨_, Try.func106, by kernel_rfl, by kernel_rfl⟩
theorem Try.ent31 : Ent Try.prog 31 := ⟨_, Try.func31, by kernel_rfl, by kernel_rfl⟩
theorem Try.ent63 : Ent Try.prog 63 := ⟨_, Try.func63, by kernel_rfl, by kernel_rfl⟩
theorem Try.ent64 : Ent Try.prog 64 := ⟨_, Try.func64, by kernel_rfl, by kernel_rfl⟩
theorem Try.ent65 : Ent Try.prog 65 := ⟨_, Try.func65, by kernel_rfl, by kernel_rfl⟩
theorem Try.ent92 : Ent Try.prog 92 := ⟨_, Try.func92, by kernel_rfl, by kernel_rfl⟩
theorem Try.ent93 : Ent Try.prog 93 := ⟨_, Try.func93, by kernel_rfl, by kernel_rfl⟩
theorem Try.ent94 : Ent Try.prog 94 := ⟨_, Try.func94, by kernel_rfl, by kernel_rfl⟩
theorem Try.fld79_0 : Fld Try.prog 79 0 0 := ⟨_, _, Try.underlying79, rfl, rfl, 1, (by unfold Sz; kernel_rfl), by decide⟩
theorem Try.fone79_0 : ∃ fs f, Try.prog.underlying 79 = some (.struct fs) ∧ fs[0]? = some f ∧ f.offset = 0 ∧ f.type = 56 := ⟨_, _, Try.underlying79, rfl, rfl, rfl⟩
theorem Try.one56 : One Try.prog 56 := ⟨_, Try.underlying56, rfl⟩
theorem Try.sz79 : Sz Try.prog 79 3 := by unfold Sz; kernel_rfl
theorem Try.zero79 : (Try.prog.info? 79).bind (·.zero) = some (.agg #[.int .i64 0, .int .i64 0, .int .i64 0]) := by kernel_rfl
/- ---------------------------------------------- the document's answer: which code may be -/
theorem badB_f {n b : Int} (h : ¬ b < 1 ∧ ¬ n ≤ b) : badB n b = false := by unfold badB; rw [decide_eq_false h.1, decide_eq_false h.2]; rfl
theorem badB_t {n b : Int} (h : b < 1 ∨ n ≤ b) : badB n b = true := by unfold badB; rcases h with h | h <;> simp [h]
section
variable {e : D.End} {n : Int}
theorem endE_1 (h : toM e = false) : endE e n = 30 := by unfold endE; rw [if_pos h]
theorem endE_2 (h : toM e = true) (h2 : regM (needsM e) = false) : endE e n = 31 := by unfold endE; rw [if_neg (by rw [h]; decide), if_pos h2]
theorem endE_3 (h : toM e = true) (h2 : regM (needsM e) = true) {i : Nat} (hi : i < e.To.length) (h3 : badB n (ix e.To i) = true) : endE e n = 14 := by
  unfold endE; rw [if_neg (by rw [h]; decide), if_neg (by rw [h2]; decide), if_pos (any_hit hi h3)]
theorem endE_4 (h : toM e = true) (h2 : regM (needsM e) = true) {i : Nat} (hi : e.To.length ≤ i) (h3 : ∀ x ∈ e.To.take i, badB n x = false) : endE e n = 0 := by
  rw [List.take_of_length_le hi] at h3
  unfold endE; rw [if_neg (by rw [h]; decide), if_neg (by rw [h2]; decide), if_neg (by rw [any_no h3]; decide)]
end
def rPredsM (m : D.MFunc) (b : Int) : List Int := predsM m.Blocks b
def rReachM (m : D.MFunc) : List Bool := reachedM m.Blocks
def thM (m : D.MFunc) : D.jacquardref07_Got := match thingsW m.Blocks.length 0 m.Blocks with
  | some t => ⟨t.1, t.2.1, t.2.2⟩
  | none => ⟨0, 0, 0⟩
def gotM (m : D.MFunc) : D.jacquardref07_Got := ⟨(funcM m).1, (funcM m).2.1, (funcM m).2.2⟩
section
variable {m : D.MFunc} {a b c : Int}
theorem th_some (h : thingsW m.Blocks.length 0 m.Blocks = some (a, b, c)) : thM m = ⟨a, b, c⟩ := by unfold thM; rw [h]
theorem th_none (h : thingsW m.Blocks.length 0 m.Blocks = none) : thM m = ⟨0, 0, 0⟩ := by unfold thM; rw [h]
theorem got_of (h : funcM m = (a, b, c)) : gotM m = ⟨a, b, c⟩ := by unfold gotM; rw [h]
theorem th_bad (h : ¬ (thM m).E = 0) : ∃ t, thingsW m.Blocks.length 0 m.Blocks = some t ∧ thM m = ⟨t.1, t.2.1, t.2.2⟩ := by
  unfold thM at h ⊢
  cases h1 : thingsW m.Blocks.length 0 m.Blocks with
  | some t => exact ⟨t, rfl, rfl⟩
  | none => rw [h1] at h; exact absurd rfl h
theorem things_pos : ∀ (bs : List D.MBlock) (k : Nat) (n : Int) (t : Int × Int × Int), thingsW n k bs = some t → t.1 ≠ 0 := by
  intro bs
  induction bs with
  | nil => intro b n t h; cases h
  | cons x l ih =>
    intro b n t h
    rw [thingsW] at h
    cases hb : blockW n x with
    | none => rw [hb] at h; exact ih _ _ _ h
    | some u =>
      rw [hb] at h
      cases h
      show u.1 ≠ 0
      unfold blockW at hb
      have hp : ∀ (P l : List D.Phi) (k : Nat) (u : Int × Int), phiW P k l = some u → u.1 ≠ 0 := by
        intro P l
        induction l with
        | nil => intro k u h; cases h
        | cons p l ih2 => intro k u h; rw [phiW] at h; split at h; (· exact ih2 _ _ h); cases h; assumption
      have hi : ∀ (l : List D.Mach) (k : Nat) (u : Int × Int), insW k l = some u → u.1 ≠ 0 := by
        intro l
        induction l with
        | nil => intro k u h; cases h
        | cons p l ih2 => intro k u h; rw [insW] at h; split at h; (· exact ih2 _ _ h); cases h; assumption
      cases h1 : phiW x.Phis 0 x.Phis with
      | some t => rw [h1] at hb; cases hb; exact hp _ _ _ _ h1
      | none =>
        rw [h1] at hb
        cases h2 : insW 0 x.Ins with
        | some t => rw [h2] at hb; cases hb; exact hi _ _ _ h2
        | none =>
          rw [h2] at hb
          by_cases h3 : endE x.End n = 0
          · simp only [if_pos h3] at hb; cases hb
          · simp only [if_neg h3] at hb; cases hb; exact h3
theorem th_good (h : (thM m).E = 0) : thingsW m.Blocks.length 0 m.Blocks = none := by
  unfold thM at h
  cases h1 : thingsW m.Blocks.length 0 m.Blocks with
  | some t => rw [h1] at h; exact absurd h (things_pos _ _ _ _ h1)
  | none => rfl
end
theorem preds_step {bs : List D.MBlock} {k j : Nat} {b : Bool} {x : Int} (hb : b = ((ix bs k).End.To.take j).any (fun y => decide (y = x))) (hj : (ix bs k).End.To.length ≤ j) : predsT bs (k + 1) x = predsT bs k x ++ if b = true then [(k : Int)] else [] := by
  rw [predsT_succ]
  congr 1
  rw [List.take_of_length_le hj] at hb
  by_cases h : x ∈ (ix bs k).End.To
  · rw [if_pos h, if_pos]
    rw [hb, List.any_eq_true]; exact ⟨x, h, by simp⟩
  · rw [if_neg h, if_neg]
    intro h1
    rw [hb, List.any_eq_true] at h1
    obtain ⟨y, hy, h2⟩ := h1
    simp at h2; subst h2; exact h hy
section
variable {bs : List D.MBlock} {i j : Nat} {se se2 : List Bool} {l l2 : List Int}
theorem ix_drop0 (h : i < l.length) : ix (l.drop i) 0 = ix l i := by rw [drop_ix h]; rfl
theorem rb_step (hi : i < l.length) (hf : 0 < bs.length - i) (hb : reachedM bs = bfs bs (bs.length - i) se (l.drop i))
    (hIn : bfsIn se2 (l2.drop i) ((ix bs (ix l i).toNat).End.To.drop j) = bfsIn se (l.drop i) (ix bs (ix l i).toNat).End.To) (hj : (ix bs (ix l i).toNat).End.To.length ≤ j) : reachedM bs = bfs bs (bs.length - (i + 1)) se2 (l2.drop (i + 1)) := by
  rw [List.drop_of_length_le hj] at hIn
  rw [hb, bfs_step hf (by rw [List.length_drop]; omega), ix_drop0 hi, ← hIn, show bs.length - i - 1 = bs.length - (i + 1) by omega]
  show bfs bs _ se2 ((l2.drop i).drop 1) = _
  rw [List.drop_drop]
theorem rb_end (hb : reachedM bs = bfs bs (bs.length - i) se (l.drop i)) (hi : l.length ≤ i) : reachedM bs = se := by rw [hb, List.drop_of_length_le hi, bfs_nil]
theorem rb_old {T : List Int} (hj : j < T.length) (hIn : bfsIn se2 (l2.drop i) (T.drop j) = bfsIn se (l.drop i) T) (h : ix se2 (Int.toNat (ix T j)) = true) : bfsIn se2 (l2.drop i) (T.drop (j + 1)) = bfsIn se (l.drop i) T := by
  rw [← hIn, drop_ix hj, bfsIn, if_pos h]
theorem rb_new {T : List Int} (hj : j < T.length) (hi : i ≤ l2.length) (hIn : bfsIn se2 (l2.drop i) (T.drop j) = bfsIn se (l.drop i) T) (h : ix se2 (Int.toNat (ix T j)) = false) : bfsIn (List.set se2 (Int.toNat (ix T j)) true) ((l2 ++ [ix T j]).drop i) (T.drop (j + 1)) = bfsIn se (l.drop i) T := by
  rw [← hIn, drop_ix hj, bfsIn, if_neg (by rw [h]; decide), List.drop_append_of_le_length hi]
end
section
variable {m : D.MFunc} {k : Nat}
theorem rg_15 (hk : k < (rReachM m).length) (hR : ∀ x ∈ (rReachM m).take k, (false == x) = false) (h : ix (rReachM m) k = false) : graphM m = (15, (k : Int), 0) := by
  have := idx_hit (q := fun x => false == x) hk hR (by simp [h])
  unfold graphM; unfold rReachM at this; rw [this, if_pos (by omega)]
theorem rg_no (hk : (rReachM m).length ≤ k) (hR : ∀ x ∈ (rReachM m).take k, (false == x) = false) : graphM m = graphPhis m.Blocks 0 m.Blocks := by
  have := idx_none (q := fun x => false == x) hk hR
  unfold graphM; unfold rReachM at this; rw [this, if_neg (by decide)]
def EqIn (bs : List D.MBlock) (b : Nat) (p : D.Phi) (k : Nat) (ok : Bool) : Prop :=
  (ok = true ∧ 0 < b ∧ p.In.length = (predsM bs b).length ∧ k ≤ p.In.length ∧ (p.In.take k).map (·.From) = (predsM bs b).take k) ∨ (ok = false ∧ badPhi bs b p = true)
theorem eqIn_start {bs : List D.MBlock} {b : Nat} {p : D.Phi} : EqIn bs b p 0 (decide (0 < (b : Int)) && decide ((p.In.length : Int) = ((predsM bs b).length : Int))) := by
  unfold EqIn
  by_cases h : 0 < b
  · by_cases h2 : p.In.length = (predsM bs b).length
    · refine .inl ⟨by simp [h, h2], h, h2, by omega, by simp⟩
    · refine .inr ⟨by rw [Bool.and_eq_false_iff]; exact .inr (decide_eq_false (by omega)), ?_⟩
      unfold badPhi
      have : ¬ p.In.map (·.From) = predsM bs b := by intro h3; have := congrArg List.length h3; simp at this; exact h2 this
      simp [this]
  · refine .inr ⟨by rw [Bool.and_eq_false_iff]; exact .inl (decide_eq_false (by omega)), ?_⟩
    unfold badPhi
    simp [show b = 0 by omega]
theorem eqIn_next {bs : List D.MBlock} {b k : Nat} {p : D.Phi} {ok : Bool} (h : EqIn bs b p k ok) (hc : ok = true ∧ (k : Int) < ((predsM bs b).length : Int)) : EqIn bs b p (k + 1) (decide ((ix p.In k).From = ix (predsM bs b) k)) := by
  rcases h with ⟨h1, h2, h3, h4, h5⟩ | ⟨h1, _⟩
  · have hk : k < (predsM bs b).length := by omega
    by_cases h6 : (ix p.In k).From = ix (predsM bs b) k
    · refine .inl ⟨by simp [h6], h2, h3, by omega, ?_⟩
      rw [take_ix (by omega), take_ix hk, List.map_append, h5]
      simp [h6]
    · refine .inr ⟨by simp [h6], ?_⟩
      unfold badPhi
      have : ¬ p.In.map (·.From) = predsM bs b := by
        intro h7; apply h6; rw [← h7, ix_eq (by omega), ix_eq (by simpa using (by omega : k < p.In.length))]; simp
      simp [this]
  · rw [h1] at hc; exact absurd hc.1 (by decide)
theorem eqIn_ok {bs : List D.MBlock} {b k : Nat} {p : D.Phi} {ok : Bool} (h : EqIn bs b p k ok) (hc : ok = false ∨ ¬ (k : Int) < ((predsM bs b).length : Int)) (hok : ok = true) : badPhi bs b p = false := by
  rcases h with ⟨_, h2, h3, h4, h5⟩ | ⟨h1, _⟩
  · have h6 : (predsM bs b).length ≤ k := by
      have : ¬ (k : Int) < ((predsM bs b).length : Int) := hc.resolve_left (by rw [hok]; decide)
      omega
    rw [List.take_of_length_le (by omega), List.take_of_length_le h6] at h5
    unfold badPhi
    simp [h5, show ¬ b = 0 by omega]
  · rw [h1] at hok; cases hok
theorem eqIn_bad {bs : List D.MBlock} {b k : Nat} {p : D.Phi} {ok : Bool} (h : EqIn bs b p k ok) (hok : ok = false) : badPhi bs b p = true := by
  rcases h with ⟨h1, _⟩ | ⟨_, h2⟩
  · rw [hok] at h1; cases h1
  · exact h2
end
theorem phiE_wr (l : List D.Phi) (n : Int) : IntKind.i64.wrap (rPhiM l n) = rPhiM l n := IntWalk.i64_in _ (by unfold rPhiM phiE; (repeat' split) <;> omega)
theorem insE_wr (i : D.Mach) : IntKind.i64.wrap (insE i) = insE i := IntWalk.i64_in _ (by unfold insE; (repeat' split) <;> omega)
theorem endE_wr (e : D.End) (n : Int) : IntKind.i64.wrap (endE e n) = endE e n := IntWalk.i64_in _ (by unfold endE; (repeat' split) <;> omega)

-- jacquard/jacquardref07.End: function 94
theorem rEnd_ct {F : PH} {H : Heap} (hin : InH F H) {a0 : Value} {e : D.End} (p0 : rEnd.ra F a0 e) (n : Int) :
    Ct Try.prog 94 #[a0, .int .i64 n] H (fun v H' => v = .int .i64 (endE e n) ∧ Kp H.size H H') := by
  have p0k := rEnd.any p0
  obtain ⟨a0c3, rfl, p0c3⟩ := rEnd.open p0
  have p0c3q := rL.len2 p0c3
  have hkp := Kp.refl H.size H
  have hx := PH.ext.refl (H := H) F
  refine Ct.enter (args := [.agg #[.int .i64 e.Op, .int .i64 e.A, .int .i64 e.B, a0c3, .int .i32 e.Imm], .int .i64 n]) Try.func94 rfl rfl rfl (fun w0 hw0 => ?_)
  refine CF.seq (CF.region ?_)
  refine LF.chg (OpCh.boxB rfl rfl) ?_
  rintro _ H2 ⟨g2, rfl, eg2, sg2, kg2, hb2⟩
  have ng2 := hin.nope (Nat.le_of_eq eg2.symm)
  have lg2 := hkp.1
  have zkg2 := kg2.1
  replace hin := hin.kp kg2
  replace hkp := hkp.trans (kg2.mono hkp.1)
  clear kg2
  refine LF.step (OpOk.assign rfl) (LF.nil (PF.next (CF.seq (CF.seq (CF.region ?_)))))
  refine LF.step (OpOk.ldBxA hb2 Try.agg55 Try.sz55 rfl rfl rfl) ?_
  refine LF.call (OpCall.fn Try.ent105 rfl rfl) (rTo_ct hin p0) ?_
  rintro _ H7 ⟨rfl, k7⟩
  have zk7 := k7.1
  replace hin := hin.kp k7
  replace hkp := hkp.trans (k7.mono hkp.1)
  replace hb2 := hb2.kp k7
  refine LF.step (OpOk.not rfl) ?_
  refine LF.nil (PF.next ?_)
  refine CF.if rfl (fun hc1 => ?_) (fun hc1 => ?_)
  refine CF.seq (CF.region (LF.step (OpOk.assign rfl) (LF.nil (PF.next (CF.ret (PF.thenRet ?_))))))
  have hm : endE e n = 30 := by
    first | exact endE_1 hc1 | exact endE_2 hc1 hc2 | exact endE_3 hc1 hc2 (by omega) (badB_t hc4) | exact endE_4 hc1 hc2 (by omega) hno
  exact PF.ret1 rfl rfl ⟨by rw [hm] <;> rfl, hkp⟩
  refine CF.skip (PF.next (CF.seq (CF.seq (CF.region ?_))))
  refine LF.step (OpOk.ldBxA hb2 Try.agg55 Try.sz55 rfl rfl rfl) ?_
  refine LF.call (OpCall.fn Try.ent106 rfl rfl) (rNeeds_ct hin p0) ?_
  rintro v10 H10 ⟨F10, x10, i10, k10, h10⟩
  have zk10 := k10.1
  replace hx := hx.trans x10 hkp.1
  replace hkp := hkp.trans (k10.mono hkp.1)
  have l10 := hkp.1
  replace ng2 := x10.no ng2 hb2.lt
  replace hb2 := hb2.kp k10
  have le0 := x10.1
  have hin := i10
  have h10q := rL.len2 h10
  refine LF.call (OpCall.fn Try.ent101 rfl rfl) (rReg_ct hin h10) ?_
  rintro _ _ ⟨rfl, rfl⟩
  refine LF.step (OpOk.not rfl) ?_
  refine LF.nil (PF.next ?_)
  refine CF.if rfl (fun hc2 => ?_) (fun hc2 => ?_)
  refine CF.seq (CF.region (LF.step (OpOk.assign rfl) (LF.nil (PF.next (CF.ret (PF.thenRet ?_))))))
  have hm : endE e n = 31 := by
    first | exact endE_1 hc1 | exact endE_2 hc1 hc2 | exact endE_3 hc1 hc2 (by omega) (badB_t hc4) | exact endE_4 hc1 hc2 (by omega) hno
  exact PF.ret1 rfl rfl ⟨by rw [hm] <;> rfl, hkp⟩
  refine CF.skip (PF.next (CF.seq (CF.seq (CF.region (LF.step (OpOk.assign rfl) (LF.nil (PF.next (CF.block ?_))))))))
  refine CF.loop (ι := Nat) (fun i H1 => i ≤ e.To.length ∧ (∀ x ∈ e.To.take i, badB n x = false) ∧ InH F10 H1 ∧ Kp H.size H H1 ∧ Bx H1 g2 55 [.int .i64 e.Op, .int .i64 e.A, .int .i64 e.B, a0c3, .int .i32 e.Imm]) (fun i => [(1, .int .i64 n), (2, .pointer (some ⟨g2, 0, none⟩)), (5, .int .i64 (↑i))]) (fun i => e.To.length - i) 0 ⟨by omega, by simp, hin, hkp, hb2⟩ ⟨rfl, rfl, eqI (by omega), trivial⟩ ?_
  clear hin hkp hb2
  rintro i H1 ⟨hi, hno, hin, hkp, hb2⟩
  refine CF.seq (CF.seq (CF.region (LF.step (OpOk.move rfl) ?_)))
  refine LF.step (OpOk.fieldAddr (Try.fld55_3) rfl) ?_
  refine LF.step (OpOk.ldBx hb2 Try.one38 rfl rfl) ?_
  refine LF.step (OpOk.lenL Try.underlying38 (p0c3.up le0) rfl) ?_
  refine LF.step (OpOk.lss rfl rfl) ?_
  refine LF.nil (PF.next ?_)
  refine CF.if rfl (fun hc3 => ?_) (fun hc3 => ?_)
  refine CF.skip (PF.next (CF.seq (CF.block (CF.seq (CF.region ?_)))))
  refine LF.step (OpOk.fieldAddr (Try.fld55_3) rfl) ?_
  refine LF.step (OpOk.ldBx hb2 Try.one38 rfl rfl) ?_
  refine LF.step (OpOk.move rfl) ?_
  refine LF.step (OpOk.idxL (i := i) Try.underlying38 Try.sz3 (p0c3.up le0) rfl rfl rfl (by omega)) ?_
  refine LF.step (OpOk.ldI hin (rL.ix (p0c3.up le0) i (by omega)) Try.one3 rfl) ?_
  refine LF.step (OpOk.lss rfl rfl) ?_
  refine LF.step (OpOk.move rfl) ?_
  refine LF.gstep rfl rfl (.f _) (fun hg => OpOk.fieldAddr (Try.fld55_3) rfl) ?_
  refine LF.gstep rfl rfl (.f _) (fun hg => OpOk.ldBx hb2 Try.one38 (evg rfl hg) rfl) ?_
  refine LF.gstep rfl rfl (.f _) (fun hg => OpOk.move rfl) ?_
  refine LF.gstep rfl rfl (.f _) (fun hg => OpOk.idxL (i := i) Try.underlying38 Try.sz3 (p0c3.up le0) (evg rfl hg) (evg rfl hg) rfl (by omega)) ?_
  refine LF.gstep rfl rfl (.f _) (fun hg => OpOk.ldI hin (rL.ix (p0c3.up le0) i (by omega)) Try.one3 (evg rfl hg)) ?_
  refine LF.gstep rfl rfl (.f _) (fun hg => OpOk.move rfl) ?_
  refine LF.gstep rfl rfl (.f _) (fun hg => OpOk.geq (evg rfl hg) (evg rfl hg)) ?_
  refine LF.step (OpOk.pickOr rfl rfl) ?_
  refine LF.nil (PF.next ?_)
  refine CF.if rfl (fun hc4 => ?_) (fun hc4 => ?_)
  refine CF.seq (CF.region (LF.step (OpOk.assign rfl) (LF.nil (PF.next (CF.ret (PF.blockRet (PF.thenRet (PF.thenRet (PF.blockRet (PF.thenRet ?_))))))))))
  have hm : endE e n = 14 := by
    first | exact endE_1 hc1 | exact endE_2 hc1 hc2 | exact endE_3 hc1 hc2 (by omega) (badB_t hc4) | exact endE_4 hc1 hc2 (by omega) hno
  exact PF.ret1 rfl rfl ⟨by rw [hm] <;> rfl, hkp⟩
  refine CF.skip (PF.blockNormal (PF.next (CF.region (LF.step (OpOk.move rfl) ?_))))
  refine LF.step (OpOk.add rfl rfl (by omega)) ?_
  refine LF.step (OpOk.assign rfl) (LF.nil ?_)
  exact PF.again (i + 1) ⟨by omega, no_snoc (by omega) hno (badB_f hc4), hin, hkp, hb2⟩ ⟨rfl, rfl, eqI (by omega), trivial⟩ (by omega)
  refine CF.exit (PF.thenExit (PF.thenExit (PF.blockHere (PF.next (CF.seq (CF.region (LF.step (OpOk.assign rfl) (LF.nil (PF.next (CF.ret ?_))))))))))
  have hm : endE e n = 0 := by
    first | exact endE_1 hc1 | exact endE_2 hc1 hc2 | exact endE_3 hc1 hc2 (by omega) (badB_t hc4) | exact endE_4 hc1 hc2 (by omega) hno
  exact PF.ret1 rfl rfl ⟨by rw [hm] <;> rfl, hkp⟩

-- jacquard/jacquardref07.things: function 63
set_option maxRecDepth 4000 in
theorem rThings_ct {F : PH} {H : Heap} (hin : InH F H) {a0 : Value} {m : D.MFunc} (p0 : rMFunc.ra F a0 m) :
    Ct Try.prog 63 #[a0] H (fun v H' => ∃ F', PH.ext H F F' ∧ InH F' H' ∧ Kp H.size H H' ∧ rjacquardref07_Got.ra F' v (thM m)) := by
  have p0k := rMFunc.any p0
  obtain ⟨a0c1, rfl, p0c1⟩ := rMFunc.open p0
  have p0c1q := rL.len2 p0c1
  have hkp := Kp.refl H.size H
  have hx := PH.ext.refl (H := H) F
  refine Ct.enter (args := [.agg #[.int .i64 m.Params, a0c1]]) Try.func63 rfl rfl rfl (fun w0 hw0 => ?_)
  refine CF.seq (CF.region ?_)
  refine LF.chg (OpCh.boxB rfl rfl) ?_
  rintro _ H1 ⟨g1, rfl, eg1, sg1, kg1, hb1⟩
  have ng1 := hin.nope (Nat.le_of_eq eg1.symm)
  have lg1 := hkp.1
  have zkg1 := kg1.1
  replace hin := hin.kp kg1
  replace hkp := hkp.trans (kg1.mono hkp.1)
  clear kg1
  refine LF.chg (OpCh.allocB Try.zero79 rfl) ?_
  rintro _ H2 ⟨g2, rfl, eg2, sg2, kg2, hb2⟩
  have ng2 := hin.nope (Nat.le_of_eq eg2.symm)
  have lg2 := hkp.1
  have zkg2 := kg2.1
  replace hin := hin.kp kg2
  replace hkp := hkp.trans (kg2.mono hkp.1)
  replace hb1 := hb1.kp kg2
  clear kg2
  refine LF.nil (PF.next (CF.seq (CF.seq (CF.region (LF.step (OpOk.assign rfl) (LF.nil (PF.next (CF.block ?_))))))))
  refine CF.loop (ι := Nat) (fun k H1 => k ≤ m.Blocks.length ∧ thingsW m.Blocks.length 0 m.Blocks = thingsW m.Blocks.length k (m.Blocks.drop k) ∧ InH F H1 ∧ Kp H.size H H1 ∧ Bx H1 g1 24 [.int .i64 m.Params, a0c1] ∧ Bx H1 g2 79 [.int .i64 0, .int .i64 0, .int .i64 0]) (fun k => [(1, .pointer (some ⟨g1, 0, none⟩)), (2, .pointer (some ⟨g2, 0, none⟩)), (3, .int .i64 (↑k))]) (fun k => m.Blocks.length - k) 0 ⟨by omega, rfl, hin, hkp, hb1, hb2⟩ ⟨rfl, rfl, eqI (by omega), trivial⟩ ?_
  clear hin hkp hb1 hb2
  rintro k H1 ⟨hk, hB, hin, hkp, hb1, hb2⟩
  refine CF.seq (CF.seq (CF.region (LF.step (OpOk.move rfl) ?_)))
  refine LF.step (OpOk.fieldAddr (Try.fld24_1) rfl) ?_
  refine LF.step (OpOk.ldBx hb1 Try.one22 rfl rfl) ?_
  refine LF.step (OpOk.lenL Try.underlying22 p0c1 rfl) ?_
  refine LF.step (OpOk.lss rfl rfl) ?_
  refine LF.nil (PF.next ?_)
  refine CF.if rfl (fun hc1 => ?_) (fun hc1 => ?_)
  refine CF.skip (PF.next (CF.seq (CF.block (CF.seq (CF.region ?_)))))
  refine LF.step (OpOk.fieldAddr (Try.fld24_1) rfl) ?_
  refine LF.step (OpOk.ldBx hb1 Try.one22 rfl rfl) ?_
  refine LF.step (OpOk.move rfl) ?_
  refine LF.step (OpOk.idxL (i := k) Try.underlying22 Try.sz61 p0c1 rfl rfl rfl (by omega)) ?_
  refine LF.stepE (OpOk.ldA hin (rL.ix p0c1 k (by omega)) Try.agg61 Try.sz61 rfl) ?_
  intro v21 h21
  have h21k := rMBlock.any h21
  obtain ⟨v21c0, v21c1, v21c5, rfl, h21c0, h21c1, h21c5⟩ := rMBlock.open h21
  have h21c0q := rL.len2 h21c0
  have h21c1q := rL.len2 h21c1
  have h21c5q := rL.len2 h21c5
  refine LF.chg (OpCh.allocB Try.zero61 rfl) ?_
  rintro _ H4 ⟨g4, rfl, eg4, sg4, kg4, hb4⟩
  have ng4 := hin.nope (Nat.le_of_eq eg4.symm)
  have lg4 := hkp.1
  have zkg4 := kg4.1
  replace hin := hin.kp kg4
  replace hkp := hkp.trans (kg4.mono hkp.1)
  replace hb1 := hb1.kp kg4
  replace hb2 := hb2.kp kg4
  clear kg4
  refine LF.chg0 (OpCh.storeBA hb4 Try.sz61 rfl rfl rfl (allOne.mem (l := [v21c0, v21c1, .int .i64 (((ix m.Blocks k).End).Op), .int .i64 (((ix m.Blocks k).End).A), .int .i64 (((ix m.Blocks k).End).B), v21c5, .int .i32 (((ix m.Blocks k).End).Imm)]) ⟨(h21c0.one1), (h21c1.one1), rfl, rfl, rfl, (h21c5.one1), rfl, trivial⟩) (by decide)) ?_
  rintro _ Hw1 ⟨tw1, bw1⟩
  have ztw1 := tw1.1
  replace hin := hin.tw tw1 ng4
  replace hkp := Tw.kp' hkp tw1 (by omega)
  replace hb1 := hb1.tw tw1 (Bx.ne hb1 hb4 (by decide))
  replace hb2 := hb2.tw tw1 (Bx.ne hb2 hb4 (by decide))
  replace hb4 : Bx _ _ _ [v21c0, v21c1, .int .i64 (((ix m.Blocks k).End).Op), .int .i64 (((ix m.Blocks k).End).A), .int .i64 (((ix m.Blocks k).End).B), v21c5, .int .i32 (((ix m.Blocks k).End).Imm)] := bw1
  clear bw1 tw1
  refine LF.nil (PF.next (CF.seq (CF.seq (CF.region (LF.step (OpOk.assign rfl) (LF.nil (PF.next (CF.block ?_))))))))
  refine CF.loop (ι := Nat) (fun i H1 => i ≤ (ix m.Blocks k).Phis.length ∧ phiW (ix m.Blocks k).Phis 0 (ix m.Blocks k).Phis = phiW (ix m.Blocks k).Phis i ((ix m.Blocks k).Phis.drop i) ∧ InH F H1 ∧ Kp H.size H H1 ∧ Bx H1 g1 24 [.int .i64 m.Params, a0c1] ∧ Bx H1 g2 79 [.int .i64 0, .int .i64 0, .int .i64 0] ∧ Bx H1 g4 61 [v21c0, v21c1, .int .i64 (((ix m.Blocks k).End).Op), .int .i64 (((ix m.Blocks k).End).A), .int .i64 (((ix m.Blocks k).End).B), v21c5, .int .i32 (((ix m.Blocks k).End).Imm)]) (fun i => [(1, .pointer (some ⟨g1, 0, none⟩)), (2, .pointer (some ⟨g2, 0, none⟩)), (3, .int .i64 (↑k)), (4, .pointer (some ⟨g4, 0, none⟩)), (5, .int .i64 (↑i))]) (fun i => (ix m.Blocks k).Phis.length - i) 0 ⟨by omega, rfl, hin, hkp, hb1, hb2, hb4⟩ ⟨rfl, rfl, rfl, rfl, eqI (by omega), trivial⟩ ?_
  clear hin hkp hb1 hb2 hb4
  rintro i H1 ⟨hi, hP, hin, hkp, hb1, hb2, hb4⟩
  refine CF.seq (CF.seq (CF.region (LF.step (OpOk.move rfl) ?_)))
  refine LF.step (OpOk.fieldAddr (Try.fld61_0) rfl) ?_
  refine LF.step (OpOk.ldBx hb4 Try.one58 rfl rfl) ?_
  refine LF.step (OpOk.lenL Try.underlying58 h21c0 rfl) ?_
  refine LF.step (OpOk.lss rfl rfl) ?_
  refine LF.nil (PF.next ?_)
  refine CF.if rfl (fun hc2 => ?_) (fun hc2 => ?_)
  refine CF.skip (PF.next (CF.seq (CF.block (CF.seq (CF.region ?_)))))
  refine LF.step (OpOk.fieldAddr (Try.fld61_0) rfl) ?_
  refine LF.step (OpOk.ldBx hb4 Try.one58 rfl rfl) ?_
  refine LF.step (OpOk.move rfl) ?_
  refine LF.call (OpCall.fn Try.ent92 rfl rfl) (rPhi_ct hin h21c0 ↑i (by omega)) ?_
  rintro _ H32 ⟨rfl, k32⟩
  have zk32 := k32.1
  replace hin := hin.kp k32
  replace hkp := hkp.trans (k32.mono hkp.1)
  replace hb1 := hb1.kp k32
  replace hb2 := hb2.kp k32
  replace hb4 := hb4.kp k32
  have w32_0 : IntKind.i64.wrap (rPhiM ((ix m.Blocks k).Phis) ↑i) = rPhiM ((ix m.Blocks k).Phis) ↑i := phiE_wr _ _
  refine LF.step (OpOk.assign rfl) (LF.nil (PF.next (CF.seq (CF.region (LF.step (OpOk.move rfl) ?_)))))
  refine LF.step (OpOk.neq rfl rfl) ?_
  refine LF.nil (PF.next ?_)
  refine CF.if rfl (fun hc3 => ?_) (fun hc3 => ?_)
  refine CF.seq (CF.region (LF.step (OpOk.move rfl) (LF.step (OpOk.move rfl) (LF.step (OpOk.move rfl) ?_))))
  refine LF.step (OpOk.sub rfl rfl (by omega)) ?_
  refine LF.step (OpOk.build (v := .agg #[.int .i64 (rPhiM ((ix m.Blocks k).Phis) ↑i), .int .i64 (↑k), .int .i64 ((-1) - ↑i)]) rfl (fun w => by kernel_rfl)) ?_
  refine LF.chg0 (OpCh.storeBA hb2 Try.sz79 rfl rfl rfl (allOne.mem (l := [.int .i64 (rPhiM ((ix m.Blocks k).Phis) ↑i), .int .i64 (↑k), .int .i64 ((-1) - ↑i)]) ⟨rfl, rfl, rfl, trivial⟩) (by decide)) ?_
  rintro _ Hw2 ⟨tw2, bw2⟩
  have ztw2 := tw2.1
  replace hin := hin.tw tw2 ng2
  replace hkp := Tw.kp' hkp tw2 (by omega)
  replace hb1 := hb1.tw tw2 (Bx.ne hb1 hb2 (by decide))
  replace hb4 := hb4.tw tw2 (Bx.ne hb4 hb2 (by decide))
  replace hb2 : Bx _ _ _ [.int .i64 (rPhiM ((ix m.Blocks k).Phis) ↑i), .int .i64 (↑k), .int .i64 ((-1) - ↑i)] := bw2
  clear bw2 tw2
  refine LF.nil (PF.next (CF.ret (PF.blockRet (PF.thenRet (PF.thenRet (PF.blockRet (PF.thenRet (PF.blockRet (PF.thenRet (PF.thenRet (PF.blockRet ?_)))))))))))
  refine PF.thenRet ?_
  have hm : thM m = (⟨rPhiM ((ix m.Blocks k).Phis) ((i : Nat) : Int), ((k : Nat) : Int), (-1) - ((i : Nat) : Int)⟩) := by
    first | exact th_some (things_phi (by omega) hB (by omega) hP hc3) | exact th_some (things_ins (by omega) hB (phiW_end (by omega) hP) (by omega) hI hc5) | exact th_some (things_end (by omega) hB (phiW_end (by omega) hP) (insW_end (by omega) hI) hc6) | exact th_none (things_done (by omega) hB)
  exact PF.retC rfl rfl hb2 Try.agg79 Try.sz79 ⟨_, hx, hin, hkp, by rw [hm]; exact (rjacquardref07_Got.mk (m := ⟨rPhiM ((ix m.Blocks k).Phis) ↑i, ↑k, (-1) - ↑i⟩) w32_0 (IntWalk.i64_in ↑k (by omega)) (IntWalk.i64_in ((-1) - ↑i) (by omega)))⟩
  refine CF.skip (PF.blockNormal (PF.next (CF.region (LF.step (OpOk.move rfl) ?_))))
  refine LF.step (OpOk.add rfl rfl (by omega)) ?_
  refine LF.step (OpOk.assign rfl) (LF.nil ?_)
  exact PF.again (i + 1) ⟨by omega, phiW_next (by omega) hP hc3, hin, hkp, hb1, hb2, hb4⟩ ⟨rfl, rfl, rfl, rfl, eqI (by omega), trivial⟩ (by omega)
  refine CF.exit (PF.thenExit (PF.thenExit (PF.blockHere (PF.next (CF.seq (CF.seq (CF.region (LF.step (OpOk.assign rfl) (LF.nil (PF.next (CF.block ?_)))))))))))
  refine CF.loop (ι := Nat) (fun j H1 => j ≤ (ix m.Blocks k).Ins.length ∧ insW 0 (ix m.Blocks k).Ins = insW j ((ix m.Blocks k).Ins.drop j) ∧ InH F H1 ∧ Kp H.size H H1 ∧ Bx H1 g1 24 [.int .i64 m.Params, a0c1] ∧ Bx H1 g2 79 [.int .i64 0, .int .i64 0, .int .i64 0] ∧ Bx H1 g4 61 [v21c0, v21c1, .int .i64 (((ix m.Blocks k).End).Op), .int .i64 (((ix m.Blocks k).End).A), .int .i64 (((ix m.Blocks k).End).B), v21c5, .int .i32 (((ix m.Blocks k).End).Imm)]) (fun j => [(1, .pointer (some ⟨g1, 0, none⟩)), (2, .pointer (some ⟨g2, 0, none⟩)), (3, .int .i64 (↑k)), (4, .pointer (some ⟨g4, 0, none⟩)), (7, .int .i64 (↑j))]) (fun j => (ix m.Blocks k).Ins.length - j) 0 ⟨by omega, rfl, hin, hkp, hb1, hb2, hb4⟩ ⟨rfl, rfl, rfl, rfl, eqI (by omega), trivial⟩ ?_
  clear hin hkp hb1 hb2 hb4
  rintro j H1 ⟨hj, hI, hin, hkp, hb1, hb2, hb4⟩
  refine CF.seq (CF.seq (CF.region (LF.step (OpOk.move rfl) ?_)))
  refine LF.step (OpOk.fieldAddr (Try.fld61_1) rfl) ?_
  refine LF.step (OpOk.ldBx hb4 Try.one59 rfl rfl) ?_
  refine LF.step (OpOk.lenL Try.underlying59 h21c1 rfl) ?_
  refine LF.step (OpOk.lss rfl rfl) ?_
  refine LF.nil (PF.next ?_)
  refine CF.if rfl (fun hc4 => ?_) (fun hc4 => ?_)
  refine CF.skip (PF.next (CF.seq (CF.block (CF.seq (CF.region ?_)))))
  refine LF.step (OpOk.fieldAddr (Try.fld61_1) rfl) ?_
  refine LF.step (OpOk.ldBx hb4 Try.one59 rfl rfl) ?_
  refine LF.step (OpOk.move rfl) ?_
  refine LF.step (OpOk.idxL (i := j) Try.underlying59 Try.sz40 h21c1 rfl rfl rfl (by omega)) ?_
  refine LF.stepE (OpOk.ldA hin (rL.ix h21c1 j (by omega)) Try.agg40 Try.sz40 rfl) ?_
  intro v51 h51
  have h51k := rMach.any h51
  obtain ⟨v51c7, rfl, h51c7⟩ := rMach.open h51
  have h51c7q := rL.len2 h51c7
  refine LF.call (OpCall.fn Try.ent93 rfl rfl) (rIns_ct hin h51) ?_
  rintro _ H52 ⟨rfl, k52⟩
  have zk52 := k52.1
  replace hin := hin.kp k52
  replace hkp := hkp.trans (k52.mono hkp.1)
  replace hb1 := hb1.kp k52
  replace hb2 := hb2.kp k52
  replace hb4 := hb4.kp k52
  have w52_0 : IntKind.i64.wrap (insE (ix ((ix m.Blocks k).Ins) j)) = insE (ix ((ix m.Blocks k).Ins) j) := insE_wr _
  refine LF.step (OpOk.assign rfl) (LF.nil (PF.next (CF.seq (CF.region (LF.step (OpOk.move rfl) ?_)))))
  refine LF.step (OpOk.neq rfl rfl) ?_
  refine LF.nil (PF.next ?_)
  refine CF.if rfl (fun hc5 => ?_) (fun hc5 => ?_)
  refine CF.seq (CF.region (LF.step (OpOk.move rfl) (LF.step (OpOk.move rfl) (LF.step (OpOk.move rfl) ?_))))
  refine LF.step (OpOk.build (v := .agg #[.int .i64 (insE (ix ((ix m.Blocks k).Ins) j)), .int .i64 (↑k), .int .i64 (↑j)]) rfl (fun w => by kernel_rfl)) ?_
  refine LF.chg0 (OpCh.storeBA hb2 Try.sz79 rfl rfl rfl (allOne.mem (l := [.int .i64 (insE (ix ((ix m.Blocks k).Ins) j)), .int .i64 (↑k), .int .i64 (↑j)]) ⟨rfl, rfl, rfl, trivial⟩) (by decide)) ?_
  rintro _ Hw3 ⟨tw3, bw3⟩
  have ztw3 := tw3.1
  replace hin := hin.tw tw3 ng2
  replace hkp := Tw.kp' hkp tw3 (by omega)
  replace hb1 := hb1.tw tw3 (Bx.ne hb1 hb2 (by decide))
  replace hb4 := hb4.tw tw3 (Bx.ne hb4 hb2 (by decide))
  replace hb2 : Bx _ _ _ [.int .i64 (insE (ix ((ix m.Blocks k).Ins) j)), .int .i64 (↑k), .int .i64 (↑j)] := bw3
  clear bw3 tw3
  refine LF.nil (PF.next (CF.ret (PF.blockRet (PF.thenRet (PF.thenRet (PF.blockRet (PF.thenRet (PF.blockRet (PF.thenRet (PF.thenRet (PF.blockRet ?_)))))))))))
  refine PF.thenRet ?_
  have hm : thM m = (⟨insE (ix ((ix m.Blocks k).Ins) j), ((k : Nat) : Int), ((j : Nat) : Int)⟩) := by
    first | exact th_some (things_phi (by omega) hB (by omega) hP hc3) | exact th_some (things_ins (by omega) hB (phiW_end (by omega) hP) (by omega) hI hc5) | exact th_some (things_end (by omega) hB (phiW_end (by omega) hP) (insW_end (by omega) hI) hc6) | exact th_none (things_done (by omega) hB)
  exact PF.retC rfl rfl hb2 Try.agg79 Try.sz79 ⟨_, hx, hin, hkp, by rw [hm]; exact (rjacquardref07_Got.mk (m := ⟨insE (ix ((ix m.Blocks k).Ins) j), ↑k, ↑j⟩) w52_0 (IntWalk.i64_in ↑k (by omega)) (IntWalk.i64_in ↑j (by omega)))⟩
  refine CF.skip (PF.blockNormal (PF.next (CF.region (LF.step (OpOk.move rfl) ?_))))
  refine LF.step (OpOk.add rfl rfl (by omega)) ?_
  refine LF.step (OpOk.assign rfl) (LF.nil ?_)
  exact PF.again (j + 1) ⟨by omega, insW_next (by omega) hI hc5, hin, hkp, hb1, hb2, hb4⟩ ⟨rfl, rfl, rfl, rfl, eqI (by omega), trivial⟩ (by omega)
  refine CF.exit (PF.thenExit (PF.thenExit (PF.blockHere (PF.next (CF.seq (CF.region ?_))))))
  refine LF.step (OpOk.fieldAddr (Try.fld61_2) rfl) ?_
  refine LF.step (OpOk.ldBxA hb4 Try.agg55 Try.sz55 rfl rfl rfl) ?_
  refine LF.step (OpOk.fieldAddr (Try.fld24_1) rfl) ?_
  refine LF.step (OpOk.ldBx hb1 Try.one22 rfl rfl) ?_
  refine LF.step (OpOk.lenL Try.underlying22 p0c1 rfl) ?_
  refine LF.call (OpCall.fn Try.ent94 rfl rfl) (rEnd_ct hin (rEnd.mk (m := ⟨((ix m.Blocks k).End).Op, ((ix m.Blocks k).End).A, ((ix m.Blocks k).End).B, ((ix m.Blocks k).End).To, ((ix m.Blocks k).End).Imm⟩) h21c5 (rEnd.w_Op (m := ((ix m.Blocks k).End)) (rMBlock.k_End h21k)) (rEnd.w_A (m := ((ix m.Blocks k).End)) (rMBlock.k_End h21k)) (rEnd.w_B (m := ((ix m.Blocks k).End)) (rMBlock.k_End h21k)) (rEnd.w_Imm (m := ((ix m.Blocks k).End)) (rMBlock.k_End h21k))) (↑(List.length m.Blocks))) ?_
  rintro _ H64 ⟨rfl, k64⟩
  have zk64 := k64.1
  replace hin := hin.kp k64
  replace hkp := hkp.trans (k64.mono hkp.1)
  replace hb1 := hb1.kp k64
  replace hb2 := hb2.kp k64
  replace hb4 := hb4.kp k64
  have w64_0 : IntKind.i64.wrap (endE (⟨((ix m.Blocks k).End).Op, ((ix m.Blocks k).End).A, ((ix m.Blocks k).End).B, ((ix m.Blocks k).End).To, ((ix m.Blocks k).End).Imm⟩) (↑(List.length m.Blocks))) = endE (⟨((ix m.Blocks k).End).Op, ((ix m.Blocks k).End).A, ((ix m.Blocks k).End).B, ((ix m.Blocks k).End).To, ((ix m.Blocks k).End).Imm⟩) (↑(List.length m.Blocks)) := endE_wr _ _
  refine LF.step (OpOk.assign rfl) (LF.nil (PF.next (CF.seq (CF.region (LF.step (OpOk.move rfl) ?_)))))
  refine LF.step (OpOk.neq rfl rfl) ?_
  refine LF.nil (PF.next ?_)
  refine CF.if rfl (fun hc6 => ?_) (fun hc6 => ?_)
  refine CF.seq (CF.region (LF.step (OpOk.move rfl) (LF.step (OpOk.move rfl) ?_)))
  refine LF.step (OpOk.fieldAddr (Try.fld61_1) rfl) ?_
  refine LF.step (OpOk.ldBx hb4 Try.one59 rfl rfl) ?_
  refine LF.step (OpOk.lenL Try.underlying59 h21c1 rfl) ?_
  refine LF.step (OpOk.build (v := .agg #[.int .i64 (endE (⟨((ix m.Blocks k).End).Op, ((ix m.Blocks k).End).A, ((ix m.Blocks k).End).B, ((ix m.Blocks k).End).To, ((ix m.Blocks k).End).Imm⟩) (↑(List.length m.Blocks))), .int .i64 (↑k), .int .i64 (↑(List.length ((ix m.Blocks k).Ins)))]) rfl (fun w => by kernel_rfl)) ?_
  refine LF.chg0 (OpCh.storeBA hb2 Try.sz79 rfl rfl rfl (allOne.mem (l := [.int .i64 (endE (⟨((ix m.Blocks k).End).Op, ((ix m.Blocks k).End).A, ((ix m.Blocks k).End).B, ((ix m.Blocks k).End).To, ((ix m.Blocks k).End).Imm⟩) (↑(List.length m.Blocks))), .int .i64 (↑k), .int .i64 (↑(List.length ((ix m.Blocks k).Ins)))]) ⟨rfl, rfl, rfl, trivial⟩) (by decide)) ?_
  rintro _ Hw4 ⟨tw4, bw4⟩
  have ztw4 := tw4.1
  replace hin := hin.tw tw4 ng2
  replace hkp := Tw.kp' hkp tw4 (by omega)
  replace hb1 := hb1.tw tw4 (Bx.ne hb1 hb2 (by decide))
  replace hb4 := hb4.tw tw4 (Bx.ne hb4 hb2 (by decide))
  replace hb2 : Bx _ _ _ [.int .i64 (endE (⟨((ix m.Blocks k).End).Op, ((ix m.Blocks k).End).A, ((ix m.Blocks k).End).B, ((ix m.Blocks k).End).To, ((ix m.Blocks k).End).Imm⟩) (↑(List.length m.Blocks))), .int .i64 (↑k), .int .i64 (↑(List.length ((ix m.Blocks k).Ins)))] := bw4
  clear bw4 tw4
  refine LF.nil (PF.next (CF.ret (PF.blockRet (PF.thenRet (PF.thenRet (PF.blockRet (PF.thenRet ?_)))))))
  have hm : thM m = (⟨endE (⟨((ix m.Blocks k).End).Op, ((ix m.Blocks k).End).A, ((ix m.Blocks k).End).B, ((ix m.Blocks k).End).To, ((ix m.Blocks k).End).Imm⟩) (((List.length m.Blocks : Nat) : Int)), ((k : Nat) : Int), ((List.length ((ix m.Blocks k).Ins) : Nat) : Int)⟩) := by
    first | exact th_some (things_phi (by omega) hB (by omega) hP hc3) | exact th_some (things_ins (by omega) hB (phiW_end (by omega) hP) (by omega) hI hc5) | exact th_some (things_end (by omega) hB (phiW_end (by omega) hP) (insW_end (by omega) hI) hc6) | exact th_none (things_done (by omega) hB)
  exact PF.retC rfl rfl hb2 Try.agg79 Try.sz79 ⟨_, hx, hin, hkp, by rw [hm]; exact (rjacquardref07_Got.mk (m := ⟨endE (⟨((ix m.Blocks k).End).Op, ((ix m.Blocks k).End).A, ((ix m.Blocks k).End).B, ((ix m.Blocks k).End).To, ((ix m.Blocks k).End).Imm⟩) (↑(List.length m.Blocks)), ↑k, ↑(List.length ((ix m.Blocks k).Ins))⟩) w64_0 (IntWalk.i64_in ↑k (by omega)) (IntWalk.i64_in (↑(List.length ((ix m.Blocks k).Ins))) (by omega)))⟩
  refine CF.skip (PF.blockNormal (PF.next (CF.region (LF.step (OpOk.move rfl) ?_))))
  refine LF.step (OpOk.add rfl rfl (by omega)) ?_
  refine LF.step (OpOk.assign rfl) (LF.nil ?_)
  exact PF.again (k + 1) ⟨by omega, things_next (by omega) hB (phiW_end (by omega) hP) (insW_end (by omega) hI) hc6, hin, hkp, hb1, hb2⟩ ⟨rfl, rfl, eqI (by omega), trivial⟩ (by omega)
  refine CF.exit (PF.thenExit (PF.thenExit (PF.blockHere (PF.next (CF.seq (CF.region ?_))))))
  refine LF.step (OpOk.build (v := .agg #[.int .i64 0, .int .i64 0, .int .i64 0]) rfl (fun w => by kernel_rfl)) ?_
  refine LF.chg0 (OpCh.storeBA hb2 Try.sz79 rfl rfl rfl (allOne.mem (l := [.int .i64 0, .int .i64 0, .int .i64 0]) ⟨rfl, rfl, rfl, trivial⟩) (by decide)) ?_
  rintro _ Hw5 ⟨tw5, bw5⟩
  have ztw5 := tw5.1
  replace hin := hin.tw tw5 ng2
  replace hkp := Tw.kp' hkp tw5 (by omega)
  replace hb1 := hb1.tw tw5 (Bx.ne hb1 hb2 (by decide))
  replace hb2 : Bx _ _ _ [.int .i64 0, .int .i64 0, .int .i64 0] := bw5
  clear bw5 tw5
  refine LF.nil (PF.next (CF.ret ?_))
  have hm : thM m = (⟨0, 0, 0⟩) := by
    first | exact th_some (things_phi (by omega) hB (by omega) hP hc3) | exact th_some (things_ins (by omega) hB (phiW_end (by omega) hP) (by omega) hI hc5) | exact th_some (things_end (by omega) hB (phiW_end (by omega) hP) (insW_end (by omega) hI) hc6) | exact th_none (things_done (by omega) hB)
  exact PF.retC rfl rfl hb2 Try.agg79 Try.sz79 ⟨_, hx, hin, hkp, by rw [hm]; exact (rjacquardref07_Got.mk (m := ⟨0, 0, 0⟩) (by decide : IntKind.i64.wrap 0 = 0) (by decide : IntKind.i64.wrap 0 = 0) (by decide : IntKind.i64.wrap 0 = 0))⟩

-- jacquard/jacquardref07.Preds: function 65
theorem rPreds_ct {F : PH} {H : Heap} (hin : InH F H) {a0 : Value} {m : D.MFunc} (p0 : rMFunc.ra F a0 m) (block : Int) (hn9 : m.Blocks.length < 1073741824) :
    Ct Try.prog 65 #[a0, .int .i64 block] H (fun v H' => ∃ F', PH.ext H F F' ∧ InH F' H' ∧ Kp H.size H H' ∧ (rL (rI .i64)).rv F' v (rPredsM m block)) := by
  have p0k := rMFunc.any p0
  obtain ⟨a0c1, rfl, p0c1⟩ := rMFunc.open p0
  have p0c1q := rL.len2 p0c1
  have hkp := Kp.refl H.size H
  have hx := PH.ext.refl (H := H) F
  refine Ct.enter (args := [.agg #[.int .i64 m.Params, a0c1], .int .i64 block]) Try.func65 rfl rfl rfl (fun w0 hw0 => ?_)
  refine CF.seq (CF.region ?_)
  refine LF.chg (OpCh.boxB rfl rfl) ?_
  rintro _ H2 ⟨g2, rfl, eg2, sg2, kg2, hb2⟩
  have ng2 := hin.nope (Nat.le_of_eq eg2.symm)
  have lg2 := hkp.1
  have zkg2 := kg2.1
  replace hin := hin.kp kg2
  replace hkp := hkp.trans (kg2.mono hkp.1)
  clear kg2
  refine LF.step (OpOk.assign rfl) (LF.nil (PF.next (CF.seq (CF.region ?_))))
  refine LF.chg (OpCh.litL (F := F) (r := (rI .i64)) (l := []) (us := []) (cs := []) Try.underlying38 Try.info3 (by decide) rfl rfl rfl trivial) ?_
  rintro _ H9 ⟨g9, rfl, e9, s9, k9, x9⟩
  have l9 := hkp.1
  replace x9 := (x9 hin).base l9
  have zk9 := k9.1
  replace hin := hin.kp k9
  replace hkp := hkp.trans (k9.mono hkp.1)
  replace hb2 := hb2.kp k9
  refine LF.step (OpOk.assign rfl) (LF.nil (PF.next (CF.seq (CF.seq (CF.region (LF.step (OpOk.assign rfl) (LF.nil (PF.next (CF.block ?_)))))))))
  refine CF.loop (ι := Nat × Value × List Int) (fun z9 H1 => z9.1 ≤ m.Blocks.length ∧ z9.2.2 = predsT m.Blocks z9.1 block ∧ InH F H1 ∧ Kp H.size H H1 ∧ Bx H1 g2 24 [.int .i64 m.Params, a0c1] ∧ Gl (rI .i64) 3 F H1 H.size z9.2.1 z9.2.2) (fun z9 => [(1, .int .i64 block), (2, .pointer (some ⟨g2, 0, none⟩)), (4, .slice none 0 0), (5, z9.2.1), (6, .int .i64 (↑z9.1))]) (fun z9 => m.Blocks.length - z9.1) (0, .slice (some ⟨g9, 0, none⟩) 0 0, []) ⟨by dsimp only; omega, rfl, hin, hkp, hb2, x9⟩ ⟨rfl, rfl, rfl, rfl, eqI (by omega), trivial⟩ ?_
  clear hin hkp hb2 x9
  rintro ⟨k, vo, lo⟩ H1 ⟨hk, hlo, hin, hkp, hb2, x9⟩
  dsimp only at hk hlo hb2 x9 ⊢
  have hll : lo.length ≤ k := by rw [hlo]; exact predsT_len _ _ _
  refine CF.seq (CF.seq (CF.region (LF.step (OpOk.move rfl) ?_)))
  refine LF.step (OpOk.fieldAddr (Try.fld24_1) rfl) ?_
  refine LF.step (OpOk.ldBx hb2 Try.one22 rfl rfl) ?_
  refine LF.step (OpOk.lenL Try.underlying22 p0c1 rfl) ?_
  refine LF.step (OpOk.lss rfl rfl) ?_
  refine LF.nil (PF.next ?_)
  refine CF.if rfl (fun hc1 => ?_) (fun hc1 => ?_)
  refine CF.skip (PF.next (CF.seq (CF.block (CF.seq (CF.region (LF.step (OpOk.assign rfl) (LF.nil (PF.next (CF.seq (CF.seq (CF.region ?_)))))))))))
  refine LF.step (OpOk.assign rfl) (LF.nil (PF.next (CF.block ?_)))
  refine CF.loop (ι := Nat × Bool) (fun z9 H1 => z9.1 ≤ (ix m.Blocks k).End.To.length ∧ z9.2 = ((ix m.Blocks k).End.To.take z9.1).any (fun y => decide (y = block)) ∧ InH F H1 ∧ Kp H.size H H1 ∧ Bx H1 g2 24 [.int .i64 m.Params, a0c1] ∧ Gl (rI .i64) 3 F H1 H.size vo lo) (fun z9 => [(1, .int .i64 block), (2, .pointer (some ⟨g2, 0, none⟩)), (4, .slice none 0 0), (5, vo), (6, .int .i64 (↑k)), (7, .bool z9.2), (8, .int .i64 (↑z9.1))]) (fun z9 => (ix m.Blocks k).End.To.length - z9.1) (0, false) ⟨by dsimp only; omega, rfl, hin, hkp, hb2, x9⟩ ⟨rfl, rfl, rfl, rfl, rfl, rfl, eqI (by omega), trivial⟩ ?_
  clear hin hkp hb2 x9
  rintro ⟨j, b⟩ H1 ⟨hj, hb, hin, hkp, hb2, x9⟩
  dsimp only at hj hb hb2 x9 ⊢
  refine CF.seq (CF.seq (CF.region (LF.step (OpOk.move rfl) ?_)))
  refine LF.step (OpOk.fieldAddr (Try.fld24_1) rfl) ?_
  refine LF.step (OpOk.ldBx hb2 Try.one22 rfl rfl) ?_
  refine LF.step (OpOk.move rfl) ?_
  refine LF.step (OpOk.idxL (i := k) Try.underlying22 Try.sz61 p0c1 rfl rfl rfl (by omega)) ?_
  refine LF.step (OpOk.fieldAddr (Try.fld61_2) rfl) ?_
  refine LF.step (OpOk.fieldAddr (Try.fld55_3) rfl) ?_
  refine LF.stepE (OpOk.ldV hin (rEnd.at_To (rMBlock.at_End (rL.ix p0c1 k (by omega)))) Try.one38 rfl rfl) ?_
  intro v24 h24
  have h24q := rL.len2 h24
  refine LF.step (OpOk.lenL Try.underlying38 h24 rfl) ?_
  refine LF.step (OpOk.lss rfl rfl) ?_
  refine LF.nil (PF.next ?_)
  refine CF.if rfl (fun hc2 => ?_) (fun hc2 => ?_)
  refine CF.skip (PF.next (CF.seq (CF.block (CF.region (LF.step (OpOk.move rfl) (LF.step (OpOk.move rfl) ?_))))))
  refine LF.gstep rfl rfl (.f _) (fun hg => OpOk.fieldAddr (Try.fld24_1) rfl) ?_
  refine LF.gstep rfl rfl (.f _) (fun hg => OpOk.ldBx hb2 Try.one22 (evg rfl hg) rfl) ?_
  refine LF.gstep rfl rfl (.f _) (fun hg => OpOk.move rfl) ?_
  refine LF.gstep rfl rfl (.f _) (fun hg => OpOk.idxL (i := k) Try.underlying22 Try.sz61 p0c1 (evg rfl hg) (evg rfl hg) rfl (by omega)) ?_
  refine LF.gstep rfl rfl (.f _) (fun hg => OpOk.fieldAddr (Try.fld61_2) (evg rfl hg)) ?_
  refine LF.gstep rfl rfl (.f _) (fun hg => OpOk.fieldAddr (Try.fld55_3) (evg rfl hg)) ?_
  refine LF.gstepE rfl rfl (.f _) (fun hg => OpOk.ldV hin (rEnd.at_To (rMBlock.at_End (rL.ix p0c1 k (by omega)))) Try.one38 rfl (evg rfl hg)) ?_
  intro v37 h37
  refine LF.gstep rfl rfl (.f _) (fun hg => OpOk.move rfl) ?_
  refine LF.gstep rfl rfl (.f _) (fun hg => OpOk.idxL (i := j) Try.underlying38 Try.sz3 (h37 hg) (evg rfl hg) (evg rfl hg) rfl (by omega)) ?_
  refine LF.gstep rfl rfl (.f _) (fun hg => OpOk.ldI hin (rL.ix (h37 hg) j (by omega)) Try.one3 (evg rfl hg)) ?_
  refine LF.gstep rfl rfl (.f _) (fun hg => OpOk.move rfl) ?_
  refine LF.gstep rfl rfl (.f _) (fun hg => OpOk.eql (evg rfl hg) (evg rfl hg)) ?_
  refine LF.step (OpOk.pickOr rfl rfl) ?_
  refine LF.step (OpOk.assign rfl) (LF.nil (PF.blockNormal (PF.next (CF.region (LF.step (OpOk.move rfl) ?_)))))
  refine LF.step (OpOk.add rfl rfl (by omega)) ?_
  refine LF.step (OpOk.assign rfl) (LF.nil ?_)
  exact PF.again (j + 1, b || (decide (ix (((ix m.Blocks k).End).To) j = block))) ⟨by dsimp only; omega, by dsimp only; rw [any_snoc (by omega), ← hb], hin, hkp, hb2, x9⟩ ⟨rfl, rfl, rfl, rfl, rfl, rfl, eqI (by omega), trivial⟩ (by omega)
  refine CF.exit (PF.thenExit (PF.thenExit (PF.blockHere (PF.next (CF.seq (CF.region (LF.step (OpOk.move rfl) (LF.nil (PF.next ?_)))))))))
  refine CF.if rfl (fun hc3 => ?_) (fun hc3 => ?_)
  refine CF.region (LF.step (OpOk.move rfl) (LF.step (OpOk.move rfl) ?_))
  refine LF.appV (r := (rI .i64)) (a := ↑k) Try.underlying38 Try.info3 (by decide) rfl rfl rfl ⟨rfl, (IntWalk.i64_in ↑k (by omega))⟩ x9 hin (by first | (simp only [List.length_append, List.length_take, List.length_drop, List.length_nil, List.length_cons, List.length_set, List.length_replicate]; omega) | (simp; done) | (simp; omega) | omega) rfl ?_ hkp.1
  intro v48 H48 x48 gb48 nn48 ob48
  replace hin := hin.grown gb48 x9.no
  replace hkp := gb48.kp hkp (Nat.le_refl _) (fun k0 hk0 => (x9.blk k0 hk0).1)
  replace hb2 := hb2.of (gb48.2 _ hb2.lt (Ne.symm (by first | exact x9.neBx hb2 (by decide) | exact nq9_2)))
  refine LF.step (OpOk.assign rfl) (LF.nil (PF.blockNormal (PF.next (CF.region (LF.step (OpOk.move rfl) ?_)))))
  refine LF.step (OpOk.add rfl rfl (by omega)) ?_
  refine LF.step (OpOk.assign rfl) (LF.nil ?_)
  exact PF.again (k + 1, v48, lo ++ [((k : Nat) : Int)]) ⟨by dsimp only; omega, by dsimp only; rw [preds_step hb (by omega), hc3, ← hlo]; simp, hin, hkp, hb2, x48⟩ ⟨rfl, rfl, rfl, rfl, eqI (by omega), trivial⟩ (by omega)
  refine CF.skip (PF.blockNormal (PF.next (CF.region (LF.step (OpOk.move rfl) ?_))))
  refine LF.step (OpOk.add rfl rfl (by omega)) ?_
  refine LF.step (OpOk.assign rfl) (LF.nil ?_)
  exact PF.again (k + 1, vo, lo) ⟨by dsimp only; omega, by dsimp only; rw [preds_step hb (by omega), hc3, ← hlo]; simp, hin, hkp, hb2, x9⟩ ⟨rfl, rfl, rfl, rfl, eqI (by omega), trivial⟩ (by omega)
  refine CF.exit (PF.thenExit (PF.thenExit (PF.blockHere (PF.next (CF.seq (CF.region (LF.step (OpOk.move rfl) (LF.step (OpOk.assign rfl) (LF.nil (PF.next (CF.ret ?_)))))))))))
  obtain ⟨Fz1, hxz1, lez1, hinz1, _, hrz1⟩ := x9.freezeX hin hx (Nat.le_refl _) (by first | (simp only [List.length_append, List.length_take, List.length_drop, List.length_nil, List.length_cons, List.length_set, List.length_replicate]; omega) | (simp; done) | (simp; omega) | omega)
  replace hin := hinz1
  replace hx := hxz1
  have le0 := lez1
  have hm : rPredsM m block = lo := by
    have e9 : k = m.Blocks.length := by omega
    subst e9
    exact hlo.symm
  exact PF.ret1 rfl rfl ⟨_, hx, hin, hkp, by rw [hm]; exact hrz1⟩

-- jacquard/jacquardref07.reached: function 64
set_option maxRecDepth 4000 in
theorem rReached_ct {F : PH} {H : Heap} (hin : InH F H) {a0 : Value} {m : D.MFunc} (p0 : rMFunc.ra F a0 m) (hn : 0 < m.Blocks.length) (hT : ∀ x ∈ m.Blocks, ∀ t ∈ x.End.To, 1 ≤ t ∧ t < m.Blocks.length) :
    Ct Try.prog 64 #[a0] H (fun v H' => ∃ F', PH.ext H F F' ∧ InH F' H' ∧ Kp H.size H H' ∧ (rL rB).rv F' v (rReachM m)) := by
  have p0k := rMFunc.any p0
  obtain ⟨a0c1, rfl, p0c1⟩ := rMFunc.open p0
  have p0c1q := rL.len2 p0c1
  have hkp := Kp.refl H.size H
  have hx := PH.ext.refl (H := H) F
  refine Ct.enter (args := [.agg #[.int .i64 m.Params, a0c1]]) Try.func64 rfl rfl rfl (fun w0 hw0 => ?_)
  refine CF.seq (CF.region ?_)
  refine LF.chg (OpCh.boxB rfl rfl) ?_
  rintro _ H1 ⟨g1, rfl, eg1, sg1, kg1, hb1⟩
  have ng1 := hin.nope (Nat.le_of_eq eg1.symm)
  have lg1 := hkp.1
  have zkg1 := kg1.1
  replace hin := hin.kp kg1
  replace hkp := hkp.trans (kg1.mono hkp.1)
  clear kg1
  refine LF.step (OpOk.assign rfl) (LF.nil (PF.next (CF.seq (CF.region ?_))))
  refine LF.step (OpOk.fieldAddr (Try.fld24_1) rfl) ?_
  refine LF.step (OpOk.ldBx hb1 Try.one22 rfl rfl) ?_
  refine LF.step (OpOk.lenL Try.underlying22 p0c1 rfl) ?_
  refine LF.chg (OpCh.makeL (F := F) (r := rB) (n := (List.length m.Blocks)) (a := false) Try.underlying98 Try.info4 rfl rfl rfl rfl rfl (by omega) (by omega) rfl) ?_
  rintro _ H11 ⟨g11, rfl, e11, s11, k11, x11⟩
  have l11 := hkp.1
  replace x11 := (x11 hin).base l11
  have zk11 := k11.1
  replace hin := hin.kp k11
  replace hkp := hkp.trans (k11.mono hkp.1)
  replace hb1 := hb1.kp k11
  refine LF.step (OpOk.assign rfl) (LF.nil (PF.next (CF.seq (CF.region ?_))))
  refine LF.chg (OpCh.litL (F := F) (r := (rI .i64)) (l := [0]) (us := [.int .i64 0]) (cs := [[.int .i64 0]]) Try.underlying38 Try.info3 (by decide) rfl rfl rfl ⟨rfl, rfl, ⟨rfl, (by decide : IntKind.i64.wrap 0 = 0)⟩, trivial⟩) ?_
  rintro _ H12 ⟨g12, rfl, e12, s12, k12, x12⟩
  have l12 := hkp.1
  have ap11_12 := ap_new x11.lt (x12 hin).ge
  replace x12 := (x12 hin).base l12
  have zk12 := k12.1
  replace hin := hin.kp k12
  replace hkp := hkp.trans (k12.mono hkp.1)
  replace hb1 := hb1.kp k12
  replace x11 := x11.kp k12
  have ap12_11 := ap_sym ap11_12
  refine LF.step (OpOk.assign rfl) (LF.nil (PF.next (CF.seq (CF.region (LF.step (OpOk.move rfl) ?_)))))
  refine LF.step (OpOk.idxG (i := 0) Try.underlying98 Try.sz4 x11 rfl rfl (by omega) (by first | omega | (simp only [List.length_replicate, List.length_set, List.length_append, List.length_cons, List.length_nil]; omega))) ?_
  refine LF.chg0 (OpCh.storeG x11 rfl Try.sz4 rfl rfl rfl (by first | omega | (simp only [List.length_replicate, List.length_set, List.length_append, List.length_cons, List.length_nil]; omega)) rfl) ?_
  rintro _ Hw1 ⟨gw1, qw1, tw1, xw1⟩
  have ztw1 := tw1.1
  replace hin := hin.tw tw1 (x11.no _ qw1)
  replace hkp := Tw.kp' hkp tw1 (x11.blk _ qw1).1
  replace hb1 := hb1.tw tw1 (ne_of_own qw1 (x11.neBx hb1 (by decide)))
  replace x12 := x12.tw tw1 (ap11_12 _ qw1)
  replace x11 := xw1
  refine LF.nil (PF.next (CF.seq (CF.seq (CF.region (LF.step (OpOk.assign rfl) (LF.nil (PF.next (CF.block ?_))))))))
  refine CF.loop (ι := Nat × List Bool × List Int × Value) (fun z9 H1 => reachedM m.Blocks = bfs m.Blocks (m.Blocks.length - z9.1) z9.2.1 (z9.2.2.1.drop z9.1) ∧ cntF z9.2.1 + z9.2.2.1.length ≤ m.Blocks.length ∧ z9.1 ≤ z9.2.2.1.length ∧ z9.2.1.length = m.Blocks.length ∧ (∀ x ∈ z9.2.2.1, 0 ≤ x ∧ x < m.Blocks.length) ∧ InH F H1 ∧ Kp H.size H H1 ∧ Bx H1 g1 24 [.int .i64 m.Params, a0c1] ∧ Gl rB 4 F H1 H.size (.slice (some ⟨g11, 0, none⟩) (List.length m.Blocks) (List.length m.Blocks)) z9.2.1 ∧ Gl (rI .i64) 3 F H1 H.size z9.2.2.2 z9.2.2.1 ∧ (∀ k9, (.slice (some ⟨g11, 0, none⟩) (List.length m.Blocks) (List.length m.Blocks) : Value).ownBlock = some k9 → (z9.2.2.2 : Value).ownBlock ≠ some k9)) (fun z9 => [(1, .pointer (some ⟨g1, 0, none⟩)), (2, .slice none 0 0), (3, .slice (some ⟨g11, 0, none⟩) (List.length m.Blocks) (List.length m.Blocks)), (4, z9.2.2.2), (5, .int .i64 (↑z9.1))]) (fun z9 => m.Blocks.length - z9.1) (0, List.set (List.replicate (List.length m.Blocks) false) 0 true, [0], .slice (some ⟨g12, 0, none⟩) 1 1) ⟨rfl, cnt_start hn, by simp, by simp, by simp; omega, hin, hkp, hb1, x11, x12, ap11_12⟩ ⟨rfl, rfl, rfl, rfl, eqI (by omega), trivial⟩ ?_
  clear hin hkp hb1 x11 x12 ap11_12
  rintro ⟨i, se, l, vl⟩ H1 ⟨hb, hcn, hil, hse, hq, hin, hkp, hb1, x11, x12, ap11_12⟩
  dsimp only at hb hcn hil hse hq hb1 x11 x12 ap11_12 ⊢
  have ap12_11 := ap_sym ap11_12
  refine CF.seq (CF.seq (CF.region (LF.step (OpOk.move rfl) (LF.step (OpOk.move rfl) ?_))))
  refine LF.step (OpOk.lenG Try.underlying38 x12 rfl) ?_
  refine LF.step (OpOk.lss rfl rfl) ?_
  refine LF.nil (PF.next ?_)
  refine CF.if rfl (fun hc1 => ?_) (fun hc1 => ?_)
  have hqi := hq _ (ix_mem (l := l) (i := i) (by omega))
  refine CF.skip (PF.next (CF.seq (CF.block (CF.seq ?_))))
  refine CF.still Try.mixed (by kernel_rfl) ?_
  refine LS.step (OpOk.fieldAddr (Try.fld24_1) rfl) ?_
  refine LS.step (OpOk.ldBx hb1 Try.one22 rfl rfl) ?_
  refine LS.step (OpOk.move rfl) (LS.step (OpOk.move rfl) ?_)
  refine LS.step (OpOk.idxG (i := i) Try.underlying38 Try.sz3 x12 rfl rfl rfl (by first | omega | (simp only [List.length_replicate, List.length_set, List.length_append, List.length_cons, List.length_nil]; omega))) ?_
  refine LS.step (OpOk.ldGI x12 (by first | omega | (simp only [List.length_replicate, List.length_set, List.length_append, List.length_cons, List.length_nil]; omega)) Try.one3 rfl) ?_
  refine LS.step (OpOk.idxL (i := (Int.toNat (ix l i))) Try.underlying22 Try.sz61 p0c1 rfl rfl (by omega) (by omega)) ?_
  refine LS.step (OpOk.fieldAddr (Try.fld61_2) rfl) ?_
  refine LS.step (OpOk.fieldAddr (Try.fld55_3) rfl) ?_
  refine LS.stepE (OpOk.ldV hin (rEnd.at_To (rMBlock.at_End (rL.ix p0c1 (Int.toNat (ix l i)) (by omega)))) Try.one38 rfl rfl) ?_
  intro v30 h30
  have h30q := rL.len2 h30
  refine LS.step (OpOk.assign rfl) ?_
  refine LS.done ?_
  refine PF.next (CF.seq (CF.region (LF.step (OpOk.assign rfl) (LF.nil (PF.next (CF.block ?_))))))
  refine CF.loop (ι := Nat × List Bool × List Int × Value) (fun z9 H1 => z9.1 ≤ (ix m.Blocks (Int.toNat (ix l i))).End.To.length ∧ bfsIn z9.2.1 (z9.2.2.1.drop i) ((ix m.Blocks (Int.toNat (ix l i))).End.To.drop z9.1) = bfsIn se (l.drop i) (ix m.Blocks (Int.toNat (ix l i))).End.To ∧ cntF z9.2.1 + z9.2.2.1.length ≤ m.Blocks.length ∧ z9.2.1.length = m.Blocks.length ∧ (∀ x ∈ z9.2.2.1, 0 ≤ x ∧ x < m.Blocks.length) ∧ i < z9.2.2.1.length ∧ InH F H1 ∧ Kp H.size H H1 ∧ Bx H1 g1 24 [.int .i64 m.Params, a0c1] ∧ Gl rB 4 F H1 H.size (.slice (some ⟨g11, 0, none⟩) (List.length m.Blocks) (List.length m.Blocks)) z9.2.1 ∧ Gl (rI .i64) 3 F H1 H.size z9.2.2.2 z9.2.2.1 ∧ (∀ k9, (.slice (some ⟨g11, 0, none⟩) (List.length m.Blocks) (List.length m.Blocks) : Value).ownBlock = some k9 → (z9.2.2.2 : Value).ownBlock ≠ some k9)) (fun z9 => [(1, .pointer (some ⟨g1, 0, none⟩)), (2, .slice none 0 0), (3, .slice (some ⟨g11, 0, none⟩) (List.length m.Blocks) (List.length m.Blocks)), (4, z9.2.2.2), (5, .int .i64 (↑i)), (6, v30), (7, .int .i64 (↑z9.1))]) (fun z9 => (ix m.Blocks (Int.toNat (ix l i))).End.To.length - z9.1) (0, se, l, vl) ⟨by dsimp only; omega, rfl, hcn, hse, hq, by dsimp only; omega, hin, hkp, hb1, x11, x12, ap11_12⟩ ⟨rfl, rfl, rfl, rfl, rfl, rfl, eqI (by omega), trivial⟩ ?_
  clear hin hkp hb1 x11 x12 ap11_12
  rintro ⟨j, se2, l2, vl2⟩ H1 ⟨hj, hIn, hcn2, hse2, hq2, hi2, hin, hkp, hb1, x11, x12, ap11_12⟩
  dsimp only at hj hIn hcn2 hse2 hq2 hi2 hb1 x11 x12 ap11_12 ⊢
  have ap12_11 := ap_sym ap11_12
  refine CF.seq (CF.seq (CF.region (LF.step (OpOk.move rfl) (LF.step (OpOk.move rfl) ?_))))
  refine LF.step (OpOk.lenL Try.underlying38 h30 rfl) ?_
  refine LF.step (OpOk.lss rfl rfl) ?_
  refine LF.nil (PF.next ?_)
  refine CF.if rfl (fun hc2 => ?_) (fun hc2 => ?_)
  have htq := hT _ (ix_mem (l := m.Blocks) (i := Int.toNat (ix l i)) (by omega)) _ (ix_mem (l := (ix m.Blocks (Int.toNat (ix l i))).End.To) (i := j) (by omega))
  refine CF.skip (PF.next (CF.seq (CF.block (CF.seq (CF.region (LF.step (OpOk.move rfl) (LF.step (OpOk.move rfl) (LF.step (OpOk.move rfl) ?_))))))))
  refine LF.step (OpOk.idxL (i := j) Try.underlying38 Try.sz3 h30 rfl rfl rfl (by omega)) ?_
  refine LF.step (OpOk.ldI hin (rL.ix h30 j (by omega)) Try.one3 rfl) ?_
  refine LF.step (OpOk.idxG (i := (Int.toNat (ix (((ix m.Blocks (Int.toNat (ix l i))).End).To) j))) Try.underlying98 Try.sz4 x11 rfl rfl (by omega) (by first | omega | (simp only [List.length_replicate, List.length_set, List.length_append, List.length_cons, List.length_nil]; omega))) ?_
  refine LF.step (OpOk.ldGB x11 (by first | omega | (simp only [List.length_replicate, List.length_set, List.length_append, List.length_cons, List.length_nil]; omega)) Try.one4 rfl) ?_
  refine LF.step (OpOk.not rfl) ?_
  refine LF.nil (PF.next ?_)
  refine CF.if rfl (fun hc3 => ?_) (fun hc3 => ?_)
  refine CF.seq (CF.region (LF.step (OpOk.move rfl) (LF.step (OpOk.move rfl) (LF.step (OpOk.move rfl) ?_))))
  refine LF.step (OpOk.idxL (i := j) Try.underlying38 Try.sz3 h30 rfl rfl rfl (by omega)) ?_
  refine LF.step (OpOk.ldI hin (rL.ix h30 j (by omega)) Try.one3 rfl) ?_
  refine LF.step (OpOk.idxG (i := (Int.toNat (ix (((ix m.Blocks (Int.toNat (ix l i))).End).To) j))) Try.underlying98 Try.sz4 x11 rfl rfl (by omega) (by first | omega | (simp only [List.length_replicate, List.length_set, List.length_append, List.length_cons, List.length_nil]; omega))) ?_
  refine LF.chg0 (OpCh.storeG x11 rfl Try.sz4 rfl rfl rfl (by first | omega | (simp only [List.length_replicate, List.length_set, List.length_append, List.length_cons, List.length_nil]; omega)) rfl) ?_
  rintro _ Hw2 ⟨gw2, qw2, tw2, xw2⟩
  have ztw2 := tw2.1
  replace hin := hin.tw tw2 (x11.no _ qw2)
  replace hkp := Tw.kp' hkp tw2 (x11.blk _ qw2).1
  replace hb1 := hb1.tw tw2 (ne_of_own qw2 (x11.neBx hb1 (by decide)))
  replace x12 := x12.tw tw2 (ap11_12 _ qw2)
  replace x11 := xw2
  refine LF.nil (PF.next (CF.region (LF.step (OpOk.move rfl) (LF.step (OpOk.move rfl) (LF.step (OpOk.move rfl) ?_)))))
  refine LF.step (OpOk.idxL (i := j) Try.underlying38 Try.sz3 h30 rfl rfl rfl (by omega)) ?_
  refine LF.step (OpOk.ldI hin (rL.ix h30 j (by omega)) Try.one3 rfl) ?_
  refine LF.appV (r := (rI .i64)) (a := ix (((ix m.Blocks (Int.toNat (ix l i))).End).To) j) Try.underlying38 Try.info3 (by decide) rfl rfl rfl ⟨rfl, (At.wr (rL.ix h30 j (by omega)))⟩ x12 hin (by first | (simp only [List.length_append, List.length_take, List.length_drop, List.length_nil, List.length_cons, List.length_set, List.length_replicate]; omega) | (simp; done) | (simp; omega) | omega) rfl ?_ hkp.1
  intro v57 H57 x57 gb57 nn57 ob57
  replace hin := hin.grown gb57 x12.no
  replace hkp := gb57.kp hkp (Nat.le_refl _) (fun k0 hk0 => (x12.blk k0 hk0).1)
  replace hb1 := hb1.of (gb57.2 _ hb1.lt (Ne.symm (by first | exact x12.neBx hb1 (by decide) | exact nq12_1)))
  have ap57_11 := ap_grow ap12_11 x11.lt ob57
  have ap11_57 := ap_sym ap57_11
  replace x11 := x11.of (fun k0 hk0 => gb57.2 k0 (x11.blk k0 hk0).2 (fun e9 => ap12_11 _ e9.symm hk0))
  refine LF.step (OpOk.assign rfl) (LF.nil (PF.blockNormal (PF.next (CF.region (LF.step (OpOk.move rfl) ?_)))))
  refine LF.step (OpOk.add rfl rfl (by omega)) ?_
  refine LF.step (OpOk.assign rfl) (LF.nil ?_)
  exact PF.again (j + 1, List.set se2 (Int.toNat (ix (((ix m.Blocks (Int.toNat (ix l i))).End).To) j)) true, l2 ++ [ix (((ix m.Blocks (Int.toNat (ix l i))).End).To) j], v57) ⟨by dsimp only; omega, rb_new (by omega) (by omega) hIn hc3, by dsimp only; have h9 := cntF_set (l := se2) (i := Int.toNat (ix (ix m.Blocks (Int.toNat (ix l i))).End.To j)) (by omega) (by rw [hc3]; decide); rw [List.length_append]; simp; omega, by dsimp only; rw [List.length_set]; exact hse2, by dsimp only; intro x hx9; rcases List.mem_append.1 hx9 with h9 | h9; (· exact hq2 x h9); (simp at h9; subst h9; omega), by dsimp only; rw [List.length_append]; omega, hin, hkp, hb1, x11, x57, ap11_57⟩ ⟨rfl, rfl, rfl, rfl, rfl, rfl, eqI (by omega), trivial⟩ (by omega)
  refine CF.skip (PF.blockNormal (PF.next (CF.region (LF.step (OpOk.move rfl) ?_))))
  refine LF.step (OpOk.add rfl rfl (by omega)) ?_
  refine LF.step (OpOk.assign rfl) (LF.nil ?_)
  exact PF.again (j + 1, se2, l2, vl2) ⟨by dsimp only; omega, rb_old (by omega) hIn hc3, hcn2, hse2, hq2, hi2, hin, hkp, hb1, x11, x12, ap11_12⟩ ⟨rfl, rfl, rfl, rfl, rfl, rfl, eqI (by omega), trivial⟩ (by omega)
  refine CF.exit (PF.thenExit (PF.thenExit (PF.blockHere (PF.blockNormal (PF.next (CF.region (LF.step (OpOk.move rfl) ?_)))))))
  refine LF.step (OpOk.add rfl rfl (by omega)) ?_
  refine LF.step (OpOk.assign rfl) (LF.nil ?_)
  exact PF.again (i + 1, se2, l2, vl2) ⟨rb_step (by omega) (by omega) hb hIn (by omega), by dsimp only; omega, by dsimp only; omega, hse2, hq2, hin, hkp, hb1, x11, x12, ap11_12⟩ ⟨rfl, rfl, rfl, rfl, eqI (by omega), trivial⟩ (by omega)
  refine CF.exit (PF.thenExit (PF.thenExit (PF.blockHere (PF.next (CF.seq (CF.region (LF.step (OpOk.move rfl) (LF.step (OpOk.assign rfl) (LF.nil (PF.next (CF.ret ?_)))))))))))
  obtain ⟨Fz3, hxz3, lez3, hinz3, _, hrz3⟩ := x11.freezeX hin hx (Nat.le_refl _) (by omega)
  replace hin := hinz3
  replace hx := hxz3
  have le0 := lez3
  have hm : rReachM m = se := by
    exact rb_end hb (by omega)
  exact PF.ret1 rfl rfl ⟨_, hx, hin, hkp, by rw [hm]; exact hrz3⟩

-- jacquard/jacquardref07.Func: function 31
set_option maxRecDepth 4000 in
set_option maxHeartbeats 1000000 in
theorem rFunc_ct {F : PH} {H : Heap} (hin : InH F H) {a0 : Value} {m : D.MFunc} (p0 : rMFunc.ra F a0 m) :
    Ct Try.prog 31 #[a0] H (fun v H' => ∃ F', PH.ext H F F' ∧ InH F' H' ∧ Kp H.size H H' ∧ rjacquardref07_Got.ra F' v (gotM m)) := by
  have p0k := rMFunc.any p0
  obtain ⟨a0c1, rfl, p0c1⟩ := rMFunc.open p0
  have p0c1q := rL.len2 p0c1
  have hkp := Kp.refl H.size H
  have hx := PH.ext.refl (H := H) F
  refine Ct.enter (args := [.agg #[.int .i64 m.Params, a0c1]]) Try.func31 rfl rfl rfl (fun w0 hw0 => ?_)
  refine CF.seq (CF.region ?_)
  refine LF.chg (OpCh.boxB rfl rfl) ?_
  rintro _ H1 ⟨g1, rfl, eg1, sg1, kg1, hb1⟩
  have ng1 := hin.nope (Nat.le_of_eq eg1.symm)
  have lg1 := hkp.1
  have zkg1 := kg1.1
  replace hin := hin.kp kg1
  replace hkp := hkp.trans (kg1.mono hkp.1)
  clear kg1
  refine LF.chg (OpCh.allocB Try.zero79 rfl) ?_
  rintro _ H2 ⟨g2, rfl, eg2, sg2, kg2, hb2⟩
  have ng2 := hin.nope (Nat.le_of_eq eg2.symm)
  have lg2 := hkp.1
  have zkg2 := kg2.1
  replace hin := hin.kp kg2
  replace hkp := hkp.trans (kg2.mono hkp.1)
  replace hb1 := hb1.kp kg2
  clear kg2
  refine LF.nil (PF.next (CF.seq (CF.seq (CF.region ?_))))
  refine LF.step (OpOk.fieldAddr (Try.fld24_0) rfl) ?_
  refine LF.step (OpOk.ldBx hb1 Try.one3 rfl rfl) ?_
  refine LF.step (OpOk.lss rfl rfl) ?_
  refine LF.step (OpOk.move rfl) ?_
  refine LF.gstep rfl rfl (.f _) (fun hg => OpOk.fieldAddr (Try.fld24_0) rfl) ?_
  refine LF.gstep rfl rfl (.f _) (fun hg => OpOk.ldBx hb1 Try.one3 (evg rfl hg) rfl) ?_
  refine LF.gstep rfl rfl (.f _) (fun hg => OpOk.gtr (evg rfl hg) rfl) ?_
  refine LF.step (OpOk.pickOr rfl rfl) ?_
  refine LF.nil (PF.next ?_)
  refine CF.if rfl (fun hc1 => ?_) (fun hc1 => ?_)
  refine CF.seq (CF.region ?_)
  refine LF.step (OpOk.build (v := .agg #[.int .i64 1, .int .i64 0, .int .i64 0]) rfl (fun w => by kernel_rfl)) ?_
  refine LF.chg0 (OpCh.storeBA hb2 Try.sz79 rfl rfl rfl (allOne.mem (l := [.int .i64 1, .int .i64 0, .int .i64 0]) ⟨rfl, rfl, rfl, trivial⟩) (by decide)) ?_
  rintro _ Hw1 ⟨tw1, bw1⟩
  have ztw1 := tw1.1
  replace hin := hin.tw tw1 ng2
  replace hkp := Tw.kp' hkp tw1 (by omega)
  replace hb1 := hb1.tw tw1 (Bx.ne hb1 hb2 (by decide))
  replace hb2 : Bx _ _ _ [.int .i64 1, .int .i64 0, .int .i64 0] := bw1
  clear bw1 tw1
  refine LF.nil (PF.next (CF.ret (PF.thenRet ?_)))
  have hm : gotM m = (⟨1, 0, 0⟩) := by
    first | exact got_of (func_arg hc1) | exact got_of (func_block hc1 hc2) | exact got_of (func_many hc1 hc2 hc4) | (obtain ⟨t9, h8, h9⟩ := th_bad hc5; rw [got_of (func_some hc1 hc2 hc4 h8), h9]; done) | (rw [got_of ((func_graph hc1 hc2 hc4 (th_good hc5)).trans (rg_15 (by omega) hR hc7))]; done) | exact got_of ((func_graph hc1 hc2 hc4 (th_good hc5)).trans ((rg_no (by omega) hR).trans (phis_bad (by omega) (by omega) hG hno (eqIn_bad hEq hc11)))) | exact got_of ((func_graph hc1 hc2 hc4 (th_good hc5)).trans ((rg_no (by omega) hR).trans (by rw [hG, List.drop_of_length_le (by omega)]; rfl)))
  exact PF.retC rfl rfl hb2 Try.agg79 Try.sz79 ⟨_, hx, hin, hkp, by rw [hm]; exact (rjacquardref07_Got.mk (m := ⟨1, 0, 0⟩) (by decide : IntKind.i64.wrap 1 = 1) (by decide : IntKind.i64.wrap 0 = 0) (by decide : IntKind.i64.wrap 0 = 0))⟩
  refine CF.skip (PF.next (CF.seq (CF.seq (CF.region ?_))))
  refine LF.step (OpOk.fieldAddr (Try.fld24_1) rfl) ?_
  refine LF.step (OpOk.ldBx hb1 Try.one22 rfl rfl) ?_
  refine LF.step (OpOk.lenL Try.underlying22 p0c1 rfl) ?_
  refine LF.step (OpOk.eql rfl rfl) ?_
  refine LF.nil (PF.next ?_)
  refine CF.if rfl (fun hc2 => ?_) (fun hc2 => ?_)
  refine CF.seq (CF.region ?_)
  refine LF.step (OpOk.build (v := .agg #[.int .i64 14, .int .i64 0, .int .i64 0]) rfl (fun w => by kernel_rfl)) ?_
  refine LF.chg0 (OpCh.storeBA hb2 Try.sz79 rfl rfl rfl (allOne.mem (l := [.int .i64 14, .int .i64 0, .int .i64 0]) ⟨rfl, rfl, rfl, trivial⟩) (by decide)) ?_
  rintro _ Hw2 ⟨tw2, bw2⟩
  have ztw2 := tw2.1
  replace hin := hin.tw tw2 ng2
  replace hkp := Tw.kp' hkp tw2 (by omega)
  replace hb1 := hb1.tw tw2 (Bx.ne hb1 hb2 (by decide))
  replace hb2 : Bx _ _ _ [.int .i64 14, .int .i64 0, .int .i64 0] := bw2
  clear bw2 tw2
  refine LF.nil (PF.next (CF.ret (PF.thenRet ?_)))
  have hm : gotM m = (⟨14, 0, 0⟩) := by
    first | exact got_of (func_arg hc1) | exact got_of (func_block hc1 hc2) | exact got_of (func_many hc1 hc2 hc4) | (obtain ⟨t9, h8, h9⟩ := th_bad hc5; rw [got_of (func_some hc1 hc2 hc4 h8), h9]; done) | (rw [got_of ((func_graph hc1 hc2 hc4 (th_good hc5)).trans (rg_15 (by omega) hR hc7))]; done) | exact got_of ((func_graph hc1 hc2 hc4 (th_good hc5)).trans ((rg_no (by omega) hR).trans (phis_bad (by omega) (by omega) hG hno (eqIn_bad hEq hc11)))) | exact got_of ((func_graph hc1 hc2 hc4 (th_good hc5)).trans ((rg_no (by omega) hR).trans (by rw [hG, List.drop_of_length_le (by omega)]; rfl)))
  exact PF.retC rfl rfl hb2 Try.agg79 Try.sz79 ⟨_, hx, hin, hkp, by rw [hm]; exact (rjacquardref07_Got.mk (m := ⟨14, 0, 0⟩) (by decide : IntKind.i64.wrap 14 = 14) (by decide : IntKind.i64.wrap 0 = 0) (by decide : IntKind.i64.wrap 0 = 0))⟩
  refine CF.skip (PF.next (CF.seq (CF.region (LF.step (OpOk.assign rfl) (LF.nil (PF.next (CF.seq (CF.seq (CF.region (LF.step (OpOk.assign rfl) (LF.nil ?_)))))))))))
  refine PF.next (CF.block ?_)
  refine CF.loop (ι := Nat × Int) (fun z9 H1 => z9.1 ≤ m.Blocks.length ∧ z9.2 + cntB (m.Blocks.drop z9.1) = cntB m.Blocks ∧ 0 ≤ z9.2 ∧ z9.2 ≤ 2147483649 * z9.1 ∧ InH F H1 ∧ Kp H.size H H1 ∧ Bx H1 g1 24 [.int .i64 m.Params, a0c1] ∧ Bx H1 g2 79 [.int .i64 0, .int .i64 0, .int .i64 0]) (fun z9 => [(1, .pointer (some ⟨g1, 0, none⟩)), (2, .pointer (some ⟨g2, 0, none⟩)), (3, .int .i64 z9.2), (4, .int .i64 (↑z9.1))]) (fun z9 => m.Blocks.length - z9.1) (0, 0) ⟨by dsimp only; omega, by simp, by simp, by simp, hin, hkp, hb1, hb2⟩ ⟨rfl, rfl, eqI (by omega), eqI (by omega), trivial⟩ ?_
  clear hin hkp hb1 hb2
  rintro ⟨k, c⟩ H1 ⟨hk, hc, h0, hc9, hin, hkp, hb1, hb2⟩
  dsimp only at hk hc h0 hc9 hb1 hb2 ⊢
  refine CF.seq (CF.seq (CF.region (LF.step (OpOk.move rfl) ?_)))
  refine LF.step (OpOk.fieldAddr (Try.fld24_1) rfl) ?_
  refine LF.step (OpOk.ldBx hb1 Try.one22 rfl rfl) ?_
  refine LF.step (OpOk.lenL Try.underlying22 p0c1 rfl) ?_
  refine LF.step (OpOk.lss rfl rfl) ?_
  refine LF.nil (PF.next ?_)
  refine CF.if rfl (fun hc3 => ?_) (fun hc3 => ?_)
  refine CF.skip (PF.next (CF.seq (CF.block ?_)))
  refine CF.still Try.mixed (by kernel_rfl) ?_
  refine LS.step (OpOk.move rfl) ?_
  refine LS.step (OpOk.fieldAddr (Try.fld24_1) rfl) ?_
  refine LS.step (OpOk.ldBx hb1 Try.one22 rfl rfl) ?_
  refine LS.step (OpOk.move rfl) ?_
  refine LS.step (OpOk.idxL (i := k) Try.underlying22 Try.sz61 p0c1 rfl rfl rfl (by omega)) ?_
  refine LS.step (OpOk.fieldAddr (Try.fld61_0) rfl) ?_
  refine LS.stepE (OpOk.ldV hin (rMBlock.at_Phis (rL.ix p0c1 k (by omega))) Try.one58 rfl rfl) ?_
  intro v41 h41
  have h41q := rL.len2 h41
  refine LS.step (OpOk.lenL Try.underlying58 h41 rfl) ?_
  refine LS.step (OpOk.add rfl rfl (by omega)) ?_
  refine LS.step (OpOk.fieldAddr (Try.fld24_1) rfl) ?_
  refine LS.step (OpOk.ldBx hb1 Try.one22 rfl rfl) ?_
  refine LS.step (OpOk.move rfl) ?_
  refine LS.step (OpOk.idxL (i := k) Try.underlying22 Try.sz61 p0c1 rfl rfl rfl (by omega)) ?_
  refine LS.step (OpOk.fieldAddr (Try.fld61_1) rfl) ?_
  refine LS.stepE (OpOk.ldV hin (rMBlock.at_Ins (rL.ix p0c1 k (by omega))) Try.one59 rfl rfl) ?_
  intro v49 h49
  have h49q := rL.len2 h49
  refine LS.step (OpOk.lenL Try.underlying59 h49 rfl) ?_
  refine LS.step (OpOk.add rfl rfl (by omega)) ?_
  refine LS.step (OpOk.add rfl rfl (by omega)) ?_
  refine LS.step (OpOk.assign rfl) ?_
  refine LS.done ?_
  refine PF.blockNormal (PF.next (CF.region (LF.step (OpOk.move rfl) ?_)))
  refine LF.step (OpOk.add rfl rfl (by omega)) ?_
  refine LF.step (OpOk.assign rfl) (LF.nil ?_)
  exact PF.again (k + 1, ((c + (((List.length ((ix m.Blocks k).Phis) : Nat) : Int))) + (((List.length ((ix m.Blocks k).Ins) : Nat) : Int))) + 1) ⟨by dsimp only; omega, by dsimp only; rw [← hc, drop_ix (l := m.Blocks) (i := k) (by omega), cntB]; omega, by dsimp only; omega, by dsimp only; omega, hin, hkp, hb1, hb2⟩ ⟨rfl, rfl, rfl, eqI (by omega), trivial⟩ (by omega)
  have hcnt : c = cntB m.Blocks := by rw [← hc, List.drop_of_length_le (by omega)]; simp [cntB]
  subst hcnt
  refine CF.exit (PF.thenExit (PF.thenExit (PF.blockHere (PF.next (CF.seq (CF.seq (CF.region ?_)))))))
  refine LF.step (OpOk.fieldAddr (Try.fld24_1) rfl) ?_
  refine LF.step (OpOk.ldBx hb1 Try.one22 rfl rfl) ?_
  refine LF.step (OpOk.lenL Try.underlying22 p0c1 rfl) ?_
  refine LF.step (OpOk.gtr rfl rfl) ?_
  refine LF.step (OpOk.move rfl) ?_
  refine LF.gstep rfl rfl (.f _) (fun hg => OpOk.move rfl) ?_
  refine LF.gstep rfl rfl (.f _) (fun hg => OpOk.gtr (evg rfl hg) rfl) ?_
  refine LF.step (OpOk.pickOr rfl rfl) ?_
  refine LF.nil (PF.next ?_)
  refine CF.if rfl (fun hc4 => ?_) (fun hc4 => ?_)
  refine CF.seq (CF.region ?_)
  refine LF.step (OpOk.build (v := .agg #[.int .i64 2, .int .i64 0, .int .i64 0]) rfl (fun w => by kernel_rfl)) ?_
  refine LF.chg0 (OpCh.storeBA hb2 Try.sz79 rfl rfl rfl (allOne.mem (l := [.int .i64 2, .int .i64 0, .int .i64 0]) ⟨rfl, rfl, rfl, trivial⟩) (by decide)) ?_
  rintro _ Hw3 ⟨tw3, bw3⟩
  have ztw3 := tw3.1
  replace hin := hin.tw tw3 ng2
  replace hkp := Tw.kp' hkp tw3 (by omega)
  replace hb1 := hb1.tw tw3 (Bx.ne hb1 hb2 (by decide))
  replace hb2 : Bx _ _ _ [.int .i64 2, .int .i64 0, .int .i64 0] := bw3
  clear bw3 tw3
  refine LF.nil (PF.next (CF.ret (PF.thenRet ?_)))
  have hm : gotM m = (⟨2, 0, 0⟩) := by
    first | exact got_of (func_arg hc1) | exact got_of (func_block hc1 hc2) | exact got_of (func_many hc1 hc2 hc4) | (obtain ⟨t9, h8, h9⟩ := th_bad hc5; rw [got_of (func_some hc1 hc2 hc4 h8), h9]; done) | (rw [got_of ((func_graph hc1 hc2 hc4 (th_good hc5)).trans (rg_15 (by omega) hR hc7))]; done) | exact got_of ((func_graph hc1 hc2 hc4 (th_good hc5)).trans ((rg_no (by omega) hR).trans (phis_bad (by omega) (by omega) hG hno (eqIn_bad hEq hc11)))) | exact got_of ((func_graph hc1 hc2 hc4 (th_good hc5)).trans ((rg_no (by omega) hR).trans (by rw [hG, List.drop_of_length_le (by omega)]; rfl)))
  exact PF.retC rfl rfl hb2 Try.agg79 Try.sz79 ⟨_, hx, hin, hkp, by rw [hm]; exact (rjacquardref07_Got.mk (m := ⟨2, 0, 0⟩) (by decide : IntKind.i64.wrap 2 = 2) (by decide : IntKind.i64.wrap 0 = 0) (by decide : IntKind.i64.wrap 0 = 0))⟩
  refine CF.skip (PF.next (CF.seq (CF.region ?_)))
  refine LF.step (OpOk.ldBxA hb1 Try.agg24 Try.sz24 rfl rfl rfl) ?_
  refine LF.call (OpCall.fn Try.ent63 rfl rfl) (rThings_ct hin p0) ?_
  rintro v63 H63 ⟨F63, x63, i63, k63, h63⟩
  have zk63 := k63.1
  replace hx := hx.trans x63 hkp.1
  replace hkp := hkp.trans (k63.mono hkp.1)
  have l63 := hkp.1
  replace ng1 := x63.no ng1 hb1.lt
  replace hb1 := hb1.kp k63
  replace ng2 := x63.no ng2 hb2.lt
  replace hb2 := hb2.kp k63
  have le0 := x63.1
  have hin := i63
  have h63k := rjacquardref07_Got.any h63
  obtain rfl := rjacquardref07_Got.open h63
  refine LF.chg (OpCh.allocB Try.zero79 rfl) ?_
  rintro _ H5 ⟨g5, rfl, eg5, sg5, kg5, hb5⟩
  have ng5 := hin.nope (Nat.le_of_eq eg5.symm)
  have lg5 := hkp.1
  have nb5_2 : g2 ≠ g5 := by have := hb2.lt; omega
  have zkg5 := kg5.1
  replace hin := hin.kp kg5
  replace hkp := hkp.trans (kg5.mono hkp.1)
  replace hb1 := hb1.kp kg5
  replace hb2 := hb2.kp kg5
  clear kg5
  refine LF.chg0 (OpCh.storeBA hb5 Try.sz79 rfl rfl rfl (allOne.mem (l := [.int .i64 ((thM m).E), .int .i64 ((thM m).Block), .int .i64 ((thM m).Place)]) ⟨rfl, rfl, rfl, trivial⟩) (by decide)) ?_
  rintro _ Hw4 ⟨tw4, bw4⟩
  have ztw4 := tw4.1
  replace hin := hin.tw tw4 ng5
  replace hkp := Tw.kp' hkp tw4 (by omega)
  replace hb1 := hb1.tw tw4 (Bx.ne hb1 hb5 (by decide))
  replace hb2 := hb2.tw tw4 (by first | omega | assumption | exact Ne.symm (by assumption))
  replace hb5 : Bx _ _ _ [.int .i64 ((thM m).E), .int .i64 ((thM m).Block), .int .i64 ((thM m).Place)] := bw4
  clear bw4 tw4
  refine LF.nil (PF.next (CF.seq (CF.seq (CF.region ?_))))
  refine LF.step (OpOk.fieldAddr (Try.fld79_0) rfl) ?_
  refine LF.step (OpOk.ldBx hb5 Try.one56 rfl rfl) ?_
  refine LF.step (OpOk.neq rfl rfl) ?_
  refine LF.nil (PF.next ?_)
  refine CF.if rfl (fun hc5 => ?_) (fun hc5 => ?_)
  refine CF.seq (CF.region ?_)
  refine LF.step (OpOk.ldBxA hb5 Try.agg79 Try.sz79 rfl rfl rfl) ?_
  refine LF.chg0 (OpCh.storeBA hb2 Try.sz79 rfl rfl rfl (allOne.mem (l := [.int .i64 ((thM m).E), .int .i64 ((thM m).Block), .int .i64 ((thM m).Place)]) ⟨rfl, rfl, rfl, trivial⟩) (by decide)) ?_
  rintro _ Hw5 ⟨tw5, bw5⟩
  have ztw5 := tw5.1
  replace hin := hin.tw tw5 ng2
  replace hkp := Tw.kp' hkp tw5 (by omega)
  replace hb1 := hb1.tw tw5 (Bx.ne hb1 hb2 (by decide))
  replace hb5 := hb5.tw tw5 (by first | omega | assumption | exact Ne.symm (by assumption))
  replace hb2 : Bx _ _ _ [.int .i64 ((thM m).E), .int .i64 ((thM m).Block), .int .i64 ((thM m).Place)] := bw5
  clear bw5 tw5
  refine LF.nil (PF.next (CF.ret (PF.thenRet ?_)))
  have hm : gotM m = (thM m) := by
    first | exact got_of (func_arg hc1) | exact got_of (func_block hc1 hc2) | exact got_of (func_many hc1 hc2 hc4) | (obtain ⟨t9, h8, h9⟩ := th_bad hc5; rw [got_of (func_some hc1 hc2 hc4 h8), h9]; done) | (rw [got_of ((func_graph hc1 hc2 hc4 (th_good hc5)).trans (rg_15 (by omega) hR hc7))]; done) | exact got_of ((func_graph hc1 hc2 hc4 (th_good hc5)).trans ((rg_no (by omega) hR).trans (phis_bad (by omega) (by omega) hG hno (eqIn_bad hEq hc11)))) | exact got_of ((func_graph hc1 hc2 hc4 (th_good hc5)).trans ((rg_no (by omega) hR).trans (by rw [hG, List.drop_of_length_le (by omega)]; rfl)))
  exact PF.retC rfl rfl hb2 Try.agg79 Try.sz79 ⟨_, hx, hin, hkp, by rw [hm]; exact h63⟩
  refine CF.skip (PF.next (CF.seq (CF.region ?_)))
  refine LF.step (OpOk.ldBxA hb1 Try.agg24 Try.sz24 rfl rfl rfl) ?_
  refine LF.call (OpCall.fn Try.ent64 rfl rfl) (rReached_ct hin (p0.up le0) (by first | omega | exact things_to (th_good hc5)) (by first | omega | exact things_to (th_good hc5))) ?_
  rintro v69 H69 ⟨F69, x69, i69, k69, h69⟩
  have zk69 := k69.1
  replace hx := hx.trans x69 hkp.1
  replace hkp := hkp.trans (k69.mono hkp.1)
  have l69 := hkp.1
  replace ng1 := x69.no ng1 hb1.lt
  replace hb1 := hb1.kp k69
  replace ng2 := x69.no ng2 hb2.lt
  replace hb2 := hb2.kp k69
  replace ng5 := x69.no ng5 hb5.lt
  replace hb5 := hb5.kp k69
  replace le0 := le0.trans x69.1
  have le1 := x69.1
  have hin := i69
  have h69q := rL.len2 h69
  refine LF.step (OpOk.assign rfl) (LF.nil (PF.next (CF.seq (CF.seq (CF.region (LF.step (OpOk.assign rfl) (LF.nil (PF.next (CF.block ?_)))))))))
  refine CF.loop (ι := Nat) (fun k2 H1 => k2 ≤ (rReachM m).length ∧ (∀ x ∈ (rReachM m).take k2, (false == x) = false) ∧ InH F69 H1 ∧ Kp H.size H H1 ∧ Bx H1 g1 24 [.int .i64 m.Params, a0c1] ∧ Bx H1 g2 79 [.int .i64 0, .int .i64 0, .int .i64 0] ∧ Bx H1 g5 79 [.int .i64 ((thM m).E), .int .i64 ((thM m).Block), .int .i64 ((thM m).Place)]) (fun k2 => [(1, .pointer (some ⟨g1, 0, none⟩)), (2, .pointer (some ⟨g2, 0, none⟩)), (6, v69), (7, .int .i64 (↑k2))]) (fun k2 => (rReachM m).length - k2) 0 ⟨by omega, by simp, hin, hkp, hb1, hb2, hb5⟩ ⟨rfl, rfl, rfl, eqI (by omega), trivial⟩ ?_
  clear hin hkp hb1 hb2 hb5
  rintro k2 H1 ⟨hk2, hR, hin, hkp, hb1, hb2, hb5⟩
  refine CF.seq (CF.seq (CF.region (LF.step (OpOk.move rfl) (LF.step (OpOk.move rfl) ?_))))
  refine LF.step (OpOk.lenL Try.underlying98 h69 rfl) ?_
  refine LF.step (OpOk.lss rfl rfl) ?_
  refine LF.nil (PF.next ?_)
  refine CF.if rfl (fun hc6 => ?_) (fun hc6 => ?_)
  refine CF.skip (PF.next (CF.seq (CF.block (CF.seq (CF.region (LF.step (OpOk.move rfl) (LF.step (OpOk.move rfl) ?_)))))))
  refine LF.step (OpOk.idxL (i := k2) Try.underlying98 Try.sz4 h69 rfl rfl rfl (by omega)) ?_
  refine LF.step (OpOk.ldB hin (rL.ix h69 k2 (by omega)) Try.one4 rfl) ?_
  refine LF.step (OpOk.not rfl) ?_
  refine LF.nil (PF.next ?_)
  refine CF.if rfl (fun hc7 => ?_) (fun hc7 => ?_)
  refine CF.seq (CF.region (LF.step (OpOk.move rfl) ?_))
  refine LF.step (OpOk.build (v := .agg #[.int .i64 15, .int .i64 (↑k2), .int .i64 0]) rfl (fun w => by kernel_rfl)) ?_
  refine LF.chg0 (OpCh.storeBA hb2 Try.sz79 rfl rfl rfl (allOne.mem (l := [.int .i64 15, .int .i64 (↑k2), .int .i64 0]) ⟨rfl, rfl, rfl, trivial⟩) (by decide)) ?_
  rintro _ Hw6 ⟨tw6, bw6⟩
  have ztw6 := tw6.1
  replace hin := hin.tw tw6 ng2
  replace hkp := Tw.kp' hkp tw6 (by omega)
  replace hb1 := hb1.tw tw6 (Bx.ne hb1 hb2 (by decide))
  replace hb5 := hb5.tw tw6 (by first | omega | assumption | exact Ne.symm (by assumption))
  replace hb2 : Bx _ _ _ [.int .i64 15, .int .i64 (↑k2), .int .i64 0] := bw6
  clear bw6 tw6
  refine LF.nil (PF.next (CF.ret (PF.blockRet (PF.thenRet (PF.thenRet (PF.blockRet (PF.thenRet ?_)))))))
  have hm : gotM m = (⟨15, ((k2 : Nat) : Int), 0⟩) := by
    first | exact got_of (func_arg hc1) | exact got_of (func_block hc1 hc2) | exact got_of (func_many hc1 hc2 hc4) | (obtain ⟨t9, h8, h9⟩ := th_bad hc5; rw [got_of (func_some hc1 hc2 hc4 h8), h9]; done) | (rw [got_of ((func_graph hc1 hc2 hc4 (th_good hc5)).trans (rg_15 (by omega) hR hc7))]; done) | exact got_of ((func_graph hc1 hc2 hc4 (th_good hc5)).trans ((rg_no (by omega) hR).trans (phis_bad (by omega) (by omega) hG hno (eqIn_bad hEq hc11)))) | exact got_of ((func_graph hc1 hc2 hc4 (th_good hc5)).trans ((rg_no (by omega) hR).trans (by rw [hG, List.drop_of_length_le (by omega)]; rfl)))
  exact PF.retC rfl rfl hb2 Try.agg79 Try.sz79 ⟨_, hx, hin, hkp, by rw [hm]; exact (rjacquardref07_Got.mk (m := ⟨15, ↑k2, 0⟩) (by decide : IntKind.i64.wrap 15 = 15) (IntWalk.i64_in ↑k2 (by omega)) (by decide : IntKind.i64.wrap 0 = 0))⟩
  refine CF.skip (PF.blockNormal (PF.next (CF.region (LF.step (OpOk.move rfl) ?_))))
  refine LF.step (OpOk.add rfl rfl (by omega)) ?_
  refine LF.step (OpOk.assign rfl) (LF.nil ?_)
  exact PF.again (k2 + 1) ⟨by omega, no_snoc (q := fun x => false == x) (by omega) hR (by simp [hc7]), hin, hkp, hb1, hb2, hb5⟩ ⟨rfl, rfl, rfl, eqI (by omega), trivial⟩ (by omega)
  refine CF.exit (PF.thenExit (PF.thenExit (PF.blockHere (PF.next (CF.seq (CF.seq (CF.region (LF.step (OpOk.assign rfl) (LF.nil (PF.next (CF.block ?_)))))))))))
  refine CF.loop (ι := Nat × PH) (fun z9 H1 => z9.1 ≤ m.Blocks.length ∧ graphPhis m.Blocks 0 m.Blocks = graphPhis m.Blocks z9.1 (m.Blocks.drop z9.1) ∧ PH.ext H F z9.2 ∧ PH.le F69 z9.2 ∧ InH z9.2 H1 ∧ Kp H.size H H1 ∧ Bx H1 g1 24 [.int .i64 m.Params, a0c1] ∧ z9.2 g1 = none ∧ Bx H1 g2 79 [.int .i64 0, .int .i64 0, .int .i64 0] ∧ z9.2 g2 = none ∧ Bx H1 g5 79 [.int .i64 ((thM m).E), .int .i64 ((thM m).Block), .int .i64 ((thM m).Place)] ∧ z9.2 g5 = none) (fun z9 => [(1, .pointer (some ⟨g1, 0, none⟩)), (2, .pointer (some ⟨g2, 0, none⟩)), (8, .int .i64 (↑z9.1))]) (fun z9 => m.Blocks.length - z9.1) (0, F69) ⟨by omega, rfl, hx, PH.le.refl _, hin, hkp, hb1, ng1, hb2, ng2, hb5, ng5⟩ ⟨rfl, rfl, eqI (by omega), trivial⟩ ?_
  clear hx hin hkp hb1 ng1 hb2 ng2 hb5 ng5
  rintro ⟨k5, Fg⟩ H1 ⟨hk5, hG, hx, le2, hin, hkp, hb1, ng1, hb2, ng2, hb5, ng5⟩
  dsimp only at hk5 hG hin hkp hb1 ng1 hb2 ng2 hb5 ng5 ⊢
  replace le0 := le0.trans le2
  replace le1 := le1.trans le2
  refine CF.seq (CF.seq (CF.region (LF.step (OpOk.move rfl) ?_)))
  refine LF.step (OpOk.fieldAddr (Try.fld24_1) rfl) ?_
  refine LF.step (OpOk.ldBx hb1 Try.one22 rfl rfl) ?_
  refine LF.step (OpOk.lenL Try.underlying22 (p0c1.up le0) rfl) ?_
  refine LF.step (OpOk.lss rfl rfl) ?_
  refine LF.nil (PF.next ?_)
  refine CF.if rfl (fun hc8 => ?_) (fun hc8 => ?_)
  refine CF.skip (PF.next (CF.seq (CF.block (CF.seq (CF.region ?_)))))
  refine LF.step (OpOk.ldBxA hb1 Try.agg24 Try.sz24 rfl rfl rfl) ?_
  refine LF.step (OpOk.move rfl) ?_
  refine LF.call (OpCall.fn Try.ent65 rfl rfl) (rPreds_ct hin (p0.up le0) ↑k5 (by first | omega | exact things_to (th_good hc5))) ?_
  rintro v92 H92 ⟨F92, x92, i92, k92, h92⟩
  have zk92 := k92.1
  replace hx := hx.trans x92 hkp.1
  replace hkp := hkp.trans (k92.mono hkp.1)
  have l92 := hkp.1
  replace ng1 := x92.no ng1 hb1.lt
  replace hb1 := hb1.kp k92
  replace ng2 := x92.no ng2 hb2.lt
  replace hb2 := hb2.kp k92
  replace ng5 := x92.no ng5 hb5.lt
  replace hb5 := hb5.kp k92
  replace le0 := le0.trans x92.1
  replace le1 := le1.trans x92.1
  replace le2 := le2.trans x92.1
  have le3 := x92.1
  have hin := i92
  have h92q := rL.len2 h92
  refine LF.step (OpOk.assign rfl) (LF.nil (PF.next (CF.seq (CF.region (LF.step (OpOk.assign rfl) (LF.nil (PF.next (CF.block ?_))))))))
  refine CF.loop (ι := Nat) (fun i6 H1 => i6 ≤ (ix m.Blocks k5).Phis.length ∧ (∀ p ∈ (ix m.Blocks k5).Phis.take i6, badPhi m.Blocks k5 p = false) ∧ InH F92 H1 ∧ Kp H.size H H1 ∧ Bx H1 g1 24 [.int .i64 m.Params, a0c1] ∧ Bx H1 g2 79 [.int .i64 0, .int .i64 0, .int .i64 0] ∧ Bx H1 g5 79 [.int .i64 ((thM m).E), .int .i64 ((thM m).Block), .int .i64 ((thM m).Place)]) (fun i6 => [(1, .pointer (some ⟨g1, 0, none⟩)), (2, .pointer (some ⟨g2, 0, none⟩)), (8, .int .i64 (↑k5)), (9, v92), (10, .int .i64 (↑i6))]) (fun i6 => (ix m.Blocks k5).Phis.length - i6) 0 ⟨by omega, by simp, hin, hkp, hb1, hb2, hb5⟩ ⟨rfl, rfl, rfl, rfl, eqI (by omega), trivial⟩ ?_
  clear hin hkp hb1 hb2 hb5
  rintro i6 H1 ⟨hi6, hno, hin, hkp, hb1, hb2, hb5⟩
  refine CF.seq (CF.seq (CF.region (LF.step (OpOk.move rfl) ?_)))
  refine LF.step (OpOk.fieldAddr (Try.fld24_1) rfl) ?_
  refine LF.step (OpOk.ldBx hb1 Try.one22 rfl rfl) ?_
  refine LF.step (OpOk.move rfl) ?_
  refine LF.step (OpOk.idxL (i := k5) Try.underlying22 Try.sz61 (p0c1.up le0) rfl rfl rfl (by omega)) ?_
  refine LF.step (OpOk.fieldAddr (Try.fld61_0) rfl) ?_
  refine LF.stepE (OpOk.ldV hin (rMBlock.at_Phis (rL.ix (p0c1.up le0) k5 (by omega))) Try.one58 rfl rfl) ?_
  intro v99 h99
  have h99q := rL.len2 h99
  refine LF.step (OpOk.lenL Try.underlying58 h99 rfl) ?_
  refine LF.step (OpOk.lss rfl rfl) ?_
  refine LF.nil (PF.next ?_)
  refine CF.if rfl (fun hc9 => ?_) (fun hc9 => ?_)
  refine CF.skip (PF.next (CF.seq (CF.block (CF.seq (CF.region ?_)))))
  refine LF.step (OpOk.fieldAddr (Try.fld24_1) rfl) ?_
  refine LF.step (OpOk.ldBx hb1 Try.one22 rfl rfl) ?_
  refine LF.step (OpOk.move rfl) ?_
  refine LF.step (OpOk.idxL (i := k5) Try.underlying22 Try.sz61 (p0c1.up le0) rfl rfl rfl (by omega)) ?_
  refine LF.step (OpOk.fieldAddr (Try.fld61_0) rfl) ?_
  refine LF.stepE (OpOk.ldV hin (rMBlock.at_Phis (rL.ix (p0c1.up le0) k5 (by omega))) Try.one58 rfl rfl) ?_
  intro v109 h109
  have h109q := rL.len2 h109
  refine LF.step (OpOk.move rfl) ?_
  refine LF.step (OpOk.idxL (i := i6) Try.underlying58 Try.sz70 h109 rfl rfl rfl (by omega)) ?_
  refine LF.step (OpOk.fieldAddr (Try.fld70_1) rfl) ?_
  refine LF.stepE (OpOk.ldV hin (rPhi.at_In (rL.ix h109 i6 (by omega))) Try.one68 rfl rfl) ?_
  intro v113 h113
  have h113q := rL.len2 h113
  refine LF.step (OpOk.assign rfl) (LF.nil (PF.next (CF.seq (CF.region (LF.step (OpOk.move rfl) ?_)))))
  refine LF.step (OpOk.gtr rfl rfl) ?_
  refine LF.step (OpOk.move rfl) ?_
  refine LF.gstep rfl rfl (.t _) (fun hg => OpOk.move rfl) ?_
  refine LF.gstep rfl rfl (.t _) (fun hg => OpOk.lenL Try.underlying68 h113 (evg rfl hg)) ?_
  refine LF.gstep rfl rfl (.t _) (fun hg => OpOk.move rfl) ?_
  refine LF.gstep rfl rfl (.t _) (fun hg => OpOk.lenL Try.underlying38 h92 (evg rfl hg)) ?_
  refine LF.gstep rfl rfl (.t _) (fun hg => OpOk.eql (evg rfl hg) (evg rfl hg)) ?_
  refine LF.step (OpOk.pickAnd rfl rfl) ?_
  refine LF.step (OpOk.assign rfl) (LF.nil (PF.next (CF.seq (CF.seq (CF.region (LF.step (OpOk.assign rfl) (LF.nil (PF.next (CF.block ?_)))))))))
  refine CF.loop (ι := Nat × Bool) (fun z9 H1 => EqIn m.Blocks k5 (ix (ix m.Blocks k5).Phis i6) z9.1 z9.2 ∧ z9.1 ≤ (ix (ix m.Blocks k5).Phis i6).In.length ∧ InH F92 H1 ∧ Kp H.size H H1 ∧ Bx H1 g1 24 [.int .i64 m.Params, a0c1] ∧ Bx H1 g2 79 [.int .i64 0, .int .i64 0, .int .i64 0] ∧ Bx H1 g5 79 [.int .i64 ((thM m).E), .int .i64 ((thM m).Block), .int .i64 ((thM m).Place)]) (fun z9 => [(1, .pointer (some ⟨g1, 0, none⟩)), (2, .pointer (some ⟨g2, 0, none⟩)), (8, .int .i64 (↑k5)), (9, v92), (10, .int .i64 (↑i6)), (11, v113), (12, .bool z9.2), (13, .int .i64 (↑z9.1))]) (fun z9 => (ix (ix m.Blocks k5).Phis i6).In.length + 1 - z9.1) (0, (decide (0 < ((k5 : Nat) : Int))) && (decide (((List.length ((ix ((ix m.Blocks k5).Phis) i6).In) : Nat) : Int) = ((List.length (rPredsM m ((k5 : Nat) : Int)) : Nat) : Int)))) ⟨eqIn_start, by dsimp only; omega, hin, hkp, hb1, hb2, hb5⟩ ⟨rfl, rfl, rfl, rfl, rfl, rfl, rfl, eqI (by omega), trivial⟩ ?_
  clear hin hkp hb1 hb2 hb5
  rintro ⟨k7, ok⟩ H1 ⟨hEq, hk7, hin, hkp, hb1, hb2, hb5⟩
  dsimp only at hEq hk7 hb1 hb2 hb5 ⊢
  refine CF.seq (CF.seq (CF.region (LF.step (OpOk.move rfl) (LF.step (OpOk.move rfl) ?_))))
  refine LF.gstep rfl rfl (.t _) (fun hg => OpOk.move rfl) ?_
  refine LF.gstep rfl rfl (.t _) (fun hg => OpOk.move rfl) ?_
  refine LF.gstep rfl rfl (.t _) (fun hg => OpOk.lenL Try.underlying38 h92 (evg rfl hg)) ?_
  refine LF.gstep rfl rfl (.t _) (fun hg => OpOk.lss (evg rfl hg) (evg rfl hg)) ?_
  refine LF.step (OpOk.pickAnd rfl rfl) ?_
  refine LF.nil (PF.next ?_)
  refine CF.if rfl (fun hc10 => ?_) (fun hc10 => ?_)
  have hlt7 : k7 < (ix (ix m.Blocks k5).Phis i6).In.length := by have h10 : (k7 : Int) < ((predsM m.Blocks k5).length : Int) := hc10.2; rcases hEq with ⟨_, _, h9, _⟩ | ⟨h9, _⟩; (· omega); (rw [h9] at hc10; exact absurd hc10.1 (by decide))
  refine CF.skip (PF.next (CF.seq (CF.block ?_)))
  refine CF.still Try.mixed (by kernel_rfl) ?_
  refine LS.step (OpOk.move rfl) (LS.step (OpOk.move rfl) ?_)
  refine LS.step (OpOk.idxL (i := k7) Try.underlying68 Try.sz82 h113 rfl rfl rfl (by omega)) ?_
  refine LS.step (OpOk.fieldAddr (Try.fld82_0) rfl) ?_
  refine LS.step (OpOk.ldI hin (rIn.at_From (rL.ix h113 k7 (by omega))) Try.one3 rfl) ?_
  refine LS.step (OpOk.move rfl) (LS.step (OpOk.move rfl) ?_)
  refine LS.step (OpOk.idxL (i := k7) Try.underlying38 Try.sz3 h92 rfl rfl rfl (by omega)) ?_
  refine LS.step (OpOk.ldI hin (rL.ix h92 k7 (by omega)) Try.one3 rfl) ?_
  refine LS.step (OpOk.eql rfl rfl) ?_
  refine LS.step (OpOk.assign rfl) ?_
  refine LS.done ?_
  refine PF.blockNormal (PF.next (CF.region (LF.step (OpOk.move rfl) ?_)))
  refine LF.step (OpOk.add rfl rfl (by omega)) ?_
  refine LF.step (OpOk.assign rfl) (LF.nil ?_)
  exact PF.again (k7 + 1, decide ((ix ((ix ((ix m.Blocks k5).Phis) i6).In) k7).From = ix (rPredsM m ((k5 : Nat) : Int)) k7)) ⟨eqIn_next hEq hc10, by dsimp only; omega, hin, hkp, hb1, hb2, hb5⟩ ⟨rfl, rfl, rfl, rfl, rfl, rfl, rfl, eqI (by omega), trivial⟩ (by omega)
  refine CF.exit (PF.thenExit (PF.thenExit (PF.blockHere (PF.next (CF.seq (CF.region (LF.step (OpOk.move rfl) ?_)))))))
  refine LF.step (OpOk.not rfl) ?_
  refine LF.nil (PF.next ?_)
  refine CF.if rfl (fun hc11 => ?_) (fun hc11 => ?_)
  refine CF.seq (CF.region (LF.step (OpOk.move rfl) (LF.step (OpOk.move rfl) ?_)))
  refine LF.step (OpOk.sub rfl rfl (by omega)) ?_
  refine LF.step (OpOk.build (v := .agg #[.int .i64 16, .int .i64 (↑k5), .int .i64 ((-1) - ↑i6)]) rfl (fun w => by kernel_rfl)) ?_
  refine LF.chg0 (OpCh.storeBA hb2 Try.sz79 rfl rfl rfl (allOne.mem (l := [.int .i64 16, .int .i64 (↑k5), .int .i64 ((-1) - ↑i6)]) ⟨rfl, rfl, rfl, trivial⟩) (by decide)) ?_
  rintro _ Hw7 ⟨tw7, bw7⟩
  have ztw7 := tw7.1
  replace hin := hin.tw tw7 ng2
  replace hkp := Tw.kp' hkp tw7 (by omega)
  replace hb1 := hb1.tw tw7 (Bx.ne hb1 hb2 (by decide))
  replace hb5 := hb5.tw tw7 (by first | omega | assumption | exact Ne.symm (by assumption))
  replace hb2 : Bx _ _ _ [.int .i64 16, .int .i64 (↑k5), .int .i64 ((-1) - ↑i6)] := bw7
  clear bw7 tw7
  refine LF.nil (PF.next (CF.ret (PF.blockRet (PF.thenRet (PF.thenRet (PF.blockRet (PF.blockRet (PF.thenRet (PF.thenRet (PF.blockRet (PF.thenRet ?_)))))))))))
  have hm : gotM m = (⟨16, ((k5 : Nat) : Int), (-1) - ((i6 : Nat) : Int)⟩) := by
    first | exact got_of (func_arg hc1) | exact got_of (func_block hc1 hc2) | exact got_of (func_many hc1 hc2 hc4) | (obtain ⟨t9, h8, h9⟩ := th_bad hc5; rw [got_of (func_some hc1 hc2 hc4 h8), h9]; done) | (rw [got_of ((func_graph hc1 hc2 hc4 (th_good hc5)).trans (rg_15 (by omega) hR hc7))]; done) | exact got_of ((func_graph hc1 hc2 hc4 (th_good hc5)).trans ((rg_no (by omega) hR).trans (phis_bad (by omega) (by omega) hG hno (eqIn_bad hEq hc11)))) | exact got_of ((func_graph hc1 hc2 hc4 (th_good hc5)).trans ((rg_no (by omega) hR).trans (by rw [hG, List.drop_of_length_le (by omega)]; rfl)))
  exact PF.retC rfl rfl hb2 Try.agg79 Try.sz79 ⟨_, hx, hin, hkp, by rw [hm]; exact (rjacquardref07_Got.mk (m := ⟨16, ↑k5, (-1) - ↑i6⟩) (by decide : IntKind.i64.wrap 16 = 16) (IntWalk.i64_in ↑k5 (by omega)) (IntWalk.i64_in ((-1) - ↑i6) (by omega)))⟩
  refine CF.skip (PF.blockNormal (PF.next (CF.region (LF.step (OpOk.move rfl) ?_))))
  refine LF.step (OpOk.add rfl rfl (by omega)) ?_
  refine LF.step (OpOk.assign rfl) (LF.nil ?_)
  exact PF.again (i6 + 1) ⟨by omega, no_snoc (by omega) hno (eqIn_ok hEq hc10 hc11), hin, hkp, hb1, hb2, hb5⟩ ⟨rfl, rfl, rfl, rfl, eqI (by omega), trivial⟩ (by omega)
  refine CF.exit (PF.thenExit (PF.thenExit (PF.blockHere (PF.blockNormal (PF.next (CF.region (LF.step (OpOk.move rfl) ?_)))))))
  refine LF.step (OpOk.add rfl rfl (by omega)) ?_
  refine LF.step (OpOk.assign rfl) (LF.nil ?_)
  exact PF.again (k5 + 1, F92) ⟨by omega, phis_good (by omega) (by omega) hG hno, hx, le2, hin, hkp, hb1, ng1, hb2, ng2, hb5, ng5⟩ ⟨rfl, rfl, eqI (by omega), trivial⟩ (by omega)
  refine CF.exit (PF.thenExit (PF.thenExit (PF.blockHere (PF.next (CF.seq (CF.region ?_))))))
  refine LF.step (OpOk.build (v := .agg #[.int .i64 0, .int .i64 0, .int .i64 0]) rfl (fun w => by kernel_rfl)) ?_
  refine LF.chg0 (OpCh.storeBA hb2 Try.sz79 rfl rfl rfl (allOne.mem (l := [.int .i64 0, .int .i64 0, .int .i64 0]) ⟨rfl, rfl, rfl, trivial⟩) (by decide)) ?_
  rintro _ Hw8 ⟨tw8, bw8⟩
  have ztw8 := tw8.1
  replace hin := hin.tw tw8 ng2
  replace hkp := Tw.kp' hkp tw8 (by omega)
  replace hb1 := hb1.tw tw8 (Bx.ne hb1 hb2 (by decide))
  replace hb5 := hb5.tw tw8 (by first | omega | assumption | exact Ne.symm (by assumption))
  replace hb2 : Bx _ _ _ [.int .i64 0, .int .i64 0, .int .i64 0] := bw8
  clear bw8 tw8
  refine LF.nil (PF.next (CF.ret ?_))
  have hm : gotM m = (⟨0, 0, 0⟩) := by
    first | exact got_of (func_arg hc1) | exact got_of (func_block hc1 hc2) | exact got_of (func_many hc1 hc2 hc4) | (obtain ⟨t9, h8, h9⟩ := th_bad hc5; rw [got_of (func_some hc1 hc2 hc4 h8), h9]; done) | (rw [got_of ((func_graph hc1 hc2 hc4 (th_good hc5)).trans (rg_15 (by omega) hR hc7))]; done) | exact got_of ((func_graph hc1 hc2 hc4 (th_good hc5)).trans ((rg_no (by omega) hR).trans (phis_bad (by omega) (by omega) hG hno (eqIn_bad hEq hc11)))) | exact got_of ((func_graph hc1 hc2 hc4 (th_good hc5)).trans ((rg_no (by omega) hR).trans (by rw [hG, List.drop_of_length_le (by omega)]; rfl)))
  exact PF.retC rfl rfl hb2 Try.agg79 Try.sz79 ⟨_, hx, hin, hkp, by rw [hm]; exact (rjacquardref07_Got.mk (m := ⟨0, 0, 0⟩) (by decide : IntKind.i64.wrap 0 = 0) (by decide : IntKind.i64.wrap 0 = 0) (by decide : IntKind.i64.wrap 0 = 0))⟩

-- jacquard/jacquardref07.Right: function 33
theorem rRight_ct {F : PH} {H : Heap} (hin : InH F H) {a0 : Value} {m : D.MFunc} (p0 : rMFunc.ra F a0 m) :
    Ct Try.prog 33 #[a0] H (fun v H' => v = .bool (rightM m) ∧ Kp H.size H H') := by
  have p0k := rMFunc.any p0
  obtain ⟨a0c1, rfl, p0c1⟩ := rMFunc.open p0
  have p0c1q := rL.len2 p0c1
  have hkp := Kp.refl H.size H
  have hx := PH.ext.refl (H := H) F
  refine Ct.enter (args := [.agg #[.int .i64 m.Params, a0c1]]) Try.func33 rfl rfl rfl (fun w0 hw0 => ?_)
  refine CF.seq (CF.region ?_)
  refine LF.chg (OpCh.boxB rfl rfl) ?_
  rintro _ H1 ⟨g1, rfl, eg1, sg1, kg1, hb1⟩
  have ng1 := hin.nope (Nat.le_of_eq eg1.symm)
  have lg1 := hkp.1
  have zkg1 := kg1.1
  replace hin := hin.kp kg1
  replace hkp := hkp.trans (kg1.mono hkp.1)
  clear kg1
  refine LF.step (OpOk.assign rfl) (LF.nil (PF.next (CF.seq (CF.region ?_))))
  refine LF.step (OpOk.ldBxA hb1 Try.agg24 Try.sz24 rfl rfl rfl) ?_
  refine LF.call (OpCall.fn Try.ent31 rfl rfl) (rFunc_ct hin p0) ?_
  rintro v4 H4 ⟨F4, x4, i4, k4, h4⟩
  have zk4 := k4.1
  replace hx := hx.trans x4 hkp.1
  replace hkp := hkp.trans (k4.mono hkp.1)
  have l4 := hkp.1
  replace ng1 := x4.no ng1 hb1.lt
  replace hb1 := hb1.kp k4
  have le0 := x4.1
  have hin := i4
  have h4k := rjacquardref07_Got.any h4
  obtain rfl := rjacquardref07_Got.open h4
  refine LF.step (OpOk.fieldOne (Try.fone79_0) Try.one56 rfl rfl) ?_
  refine LF.step (OpOk.eql rfl rfl) ?_
  refine LF.step (OpOk.assign rfl) (LF.nil (PF.next (CF.ret ?_)))
  have hm : rightM m = (decide ((gotM m).E = 0)) := by
    rfl
  exact PF.ret1 rfl rfl ⟨by rw [hm] <;> rfl, hkp⟩

end Go.Proofs.Ytehibklogdngbaa
