/- Walks. Conditions: each contract names its own. -/
import Derived.Test.YtehibklogdngbaaWE
namespace Go.Proofs.Ytehibklogdngbaa
set_option linter.unusedVariables false
set_option linter.unusedSimpArgs false
set_option linter.unusedSectionVars false
open Go.JE


/- ---------------------------------------------- how code runs -/
def callR (rs : List Int) (d : Int) (an : List Int) : List Int := rs.set (Int.toNat d) (ix an 0)
def insRun (N : Int) (K : List Int → List Int → List D.Event → List Int → Int → D.Outcome) : List D.Mach → List Int → List Int → List D.Event → List Int → Int → D.Outcome
  | [], rs, me, cl, an, s => K rs me cl an s
  | i :: l, rs, me, cl, an, s =>
    if N ≤ s then ⟨3, 0, me, cl, s⟩
    else if i.Op = 28 then insRun N K l (callR rs i.D an) me (cl ++ [⟨i.Imm, i.Args.map (fun r => ix rs (Int.toNat r))⟩]) (an.drop 1) (s + 1)
    else if (stepM i rs me).1.2 = false then ⟨2, (stepM i rs me).1.1, (stepM i rs me).2.2, cl, s + 1⟩
    else insRun N K l (stepM i rs me).2.1 (stepM i rs me).2.2 cl an (s + 1)
def endRun (N : Int) (e : D.End) (go : Int → List Int → List Int → List D.Event → List Int → Int → D.Outcome) (rs me : List Int) (cl : List D.Event) (an : List Int) (s : Int) : D.Outcome :=
  if N ≤ s then ⟨3, 0, me, cl, s⟩
  else if e.Op = 7 then ⟨1, getM rs e.A, me, cl, s + 1⟩
  else if e.Op = 8 then ⟨2, e.Imm, me, cl, s + 1⟩
  else go (ix e.To (Int.toNat (goesM e rs))) rs me cl an (s + 1)
def blockRun (bs : List D.MBlock) (N : Int) : Nat → Int → Int → List Int → List Int → List D.Event → List Int → Int → D.Outcome
  | 0, _, _, _, me, cl, _, s => ⟨3, 0, me, cl, s⟩
  | f + 1, at', from', rs, me, cl, an, s => insRun N (endRun N (ix bs (Int.toNat at')).End (fun t => blockRun bs N f t at')) (ix bs (Int.toNat at')).Ins (phisM (ix bs (Int.toNat at')).Phis from' rs) me cl an s
def startR (m : D.MFunc) (i : D.Input) : List Int := List.take (min (Int.toNat m.Params) i.Args.length) i.Args ++ List.drop (min (Int.toNat m.Params) i.Args.length) (List.replicate 8192 0)
def runM (m : D.MFunc) (i : D.Input) : D.Outcome := if rightM m = false then ⟨4, 0, [], [], 0⟩ else blockRun m.Blocks i.Steps (Int.toNat i.Steps + 1) 0 (-1) (startR m i) (memM i) [] i.Answers 0
theorem blockRun_pos {bs : List D.MBlock} {N : Int} {f : Nat} (hf : 0 < f) (at' from' : Int) (rs me : List Int) (cl : List D.Event) (an : List Int) (s : Int) :
    blockRun bs N f at' from' rs me cl an s = insRun N (endRun N (ix bs (Int.toNat at')).End (fun t => blockRun bs N (f - 1) t at')) (ix bs (Int.toNat at')).Ins (phisM (ix bs (Int.toNat at')).Phis from' rs) me cl an s := by
  obtain ⟨f, rfl⟩ : ∃ g, f = g + 1 := ⟨f - 1, by omega⟩
  rfl
theorem phisM_len (l : List D.Phi) (from' : Int) (rs : List Int) : (phisM l from' rs).length = rs.length := setP_len _ _ _
theorem memM_len (i : D.Input) : (memM i).length ≤ 4096 := by unfold memM; simp; omega
theorem setAllM_len : ∀ (rs l : List Int) (v : Int), (setAllM rs l v).length = rs.length
  | rs, [], v => rfl
  | rs, r :: l, v => by rw [setAllM, setAllM_len, setM_len]
def StepOk (rs me : List Int) (r : (Int × Bool) × List Int × List Int) : Prop := r.2.1.length = rs.length ∧ r.2.2.length = me.length
theorem StepOk.ite {rs me : List Int} {c : Prop} [Decidable c] {a b : (Int × Bool) × List Int × List Int} (h1 : StepOk rs me a) (h2 : StepOk rs me b) : StepOk rs me (if c then a else b) := by split <;> assumption
theorem stepM_ok (i : D.Mach) (rs me : List Int) : StepOk rs me (stepM i rs me) := by
  unfold stepM
  repeat' apply StepOk.ite
  all_goals (constructor <;> (try simp only [setM_len, storeM_len]))
theorem stepM_len (i : D.Mach) (rs me : List Int) : (stepM i rs me).2.1.length = rs.length ∧ (stepM i rs me).2.2.length = me.length := stepM_ok i rs me
/-- what right code has -/
structure WFm (m : D.MFunc) : Prop where
  p0 : 0 ≤ m.Params ∧ m.Params ≤ 4
  n0 : 0 < m.Blocks.length ∧ m.Blocks.length ≤ 512
  ins : ∀ x ∈ m.Blocks, ∀ i ∈ x.Ins, i.Op = 28 → 0 ≤ i.D ∧ i.D < 8192 ∧ i.Args.length ≤ 4 ∧ ∀ r ∈ i.Args, 0 ≤ r ∧ r < 8192
  to : ∀ x ∈ m.Blocks, toM x.End = true ∧ ∀ t ∈ x.End.To, 1 ≤ t ∧ t < m.Blocks.length
  phi : ∀ k : Nat, k < m.Blocks.length → ∀ p ∈ (ix m.Blocks k).Phis, 0 < k ∧ p.In.map (·.From) = predsM m.Blocks k ∧ 0 ≤ p.Dst ∧ p.Dst < 8192 ∧ ∀ x ∈ p.In, 0 ≤ x.Val ∧ x.Val < 8192
theorem regM_all : ∀ {l : List Int}, regM l = true → ∀ r ∈ l, 0 ≤ r ∧ r < 8192
  | [], _, r, hr => by cases hr
  | x :: l, h, r, hr => by
    rw [regM] at h
    split at h
    · cases h
    · rcases List.mem_cons.1 hr with rfl | hr
      · omega
      · exact regM_all h r hr
theorem insW_none : ∀ {l : List D.Mach} {k : Nat}, insW k l = none → ∀ i ∈ l, insE i = 0
  | [], _, _, i, hi => by cases hi
  | y :: l, k, h, i, hi => by
    rw [insW] at h
    split at h
    · rcases List.mem_cons.1 hi with rfl | hi
      · assumption
      · exact insW_none h i hi
    · cases h
theorem phiW_none {P : List D.Phi} : ∀ {l : List D.Phi} {k : Nat}, phiW P k l = none → ∀ p ∈ l, ∃ j, phiE p (P.take j) = 0
  | [], _, _, i, hi => by cases hi
  | y :: l, k, h, i, hi => by
    rw [phiW] at h
    split at h
    · rcases List.mem_cons.1 hi with rfl | hi
      · exact ⟨_, by assumption⟩
      · exact phiW_none h i hi
    · cases h
theorem graph_none : ∀ {l : List D.MBlock} {k : Nat} {bs : List D.MBlock}, (graphPhis bs k l).1 = 0 → ∀ j : Nat, j < l.length → ∀ p ∈ (ix l j).Phis, badPhi bs (k + j) p = false
  | [], _, _, _, j, hj => by cases hj
  | x :: l, k, bs, h, j, hj => by
    rw [graphPhis] at h
    cases hf : x.Phis.findIdx? (badPhi bs k) with
    | some i => rw [hf] at h; cases h
    | none =>
      rw [hf] at h
      intro p hp
      cases j with
      | zero => exact (List.findIdx?_eq_none_iff.1 hf) p hp
      | succ j =>
        have := graph_none h j (by simpa using hj) p (by simpa [ix] using hp)
        rw [show k + 1 + j = k + (j + 1) by omega] at this
        exact this
theorem right_wf {m : D.MFunc} (h : rightM m = true) : WFm m := by
  unfold rightM at h
  rw [decide_eq_true_eq] at h
  unfold funcM at h
  split at h
  · cases h
  split at h
  · cases h
  split at h
  · cases h
  rename_i h1 h2 h3
  cases ht : thingsW m.Blocks.length 0 m.Blocks with
  | some t =>
    rw [ht] at h
    exfalso
    have : ∀ (bs : List D.MBlock) (b : Nat) (n : Int) (t : Int × Int × Int), thingsW n b bs = some t → t.1 ≠ 0 := by
      intro bs
      induction bs with
      | nil => intro b n t h; cases h
      | cons x l ih =>
        intro b n t h
        rw [thingsW] at h
        cases hb : blockW n x with
        | none => rw [hb] at h; exact ih _ _ _ h
        | some u =>
          rw [hb] at h
          cases h
          show u.1 ≠ 0
          unfold blockW at hb
          have hp : ∀ (P l : List D.Phi) (k : Nat) (u : Int × Int), phiW P k l = some u → u.1 ≠ 0 := by
            intro P l
            induction l with
            | nil => intro k u h; cases h
            | cons p l ih2 => intro k u h; rw [phiW] at h; split at h; (· exact ih2 _ _ h); cases h; assumption
          have hi : ∀ (l : List D.Mach) (k : Nat) (u : Int × Int), insW k l = some u → u.1 ≠ 0 := by
            intro l
            induction l with
            | nil => intro k u h; cases h
            | cons p l ih2 => intro k u h; rw [insW] at h; split at h; (· exact ih2 _ _ h); cases h; assumption
          cases h1 : phiW x.Phis 0 x.Phis with
          | some t => rw [h1] at hb; cases hb; exact hp _ _ _ _ h1
          | none =>
            rw [h1] at hb
            cases h2 : insW 0 x.Ins with
            | some t => rw [h2] at hb; cases hb; exact hi _ _ _ h2
            | none =>
              rw [h2] at hb
              by_cases h3 : endE x.End n = 0
              · simp only [if_pos h3] at hb; cases hb
              · simp only [if_neg h3] at hb; cases hb; exact h3
    exact this _ _ _ _ ht h
  | none =>
    rw [ht] at h
    replace h : (graphM m).1 = 0 := h
    have hg : (graphPhis m.Blocks 0 m.Blocks).1 = 0 := by
      unfold graphM at h; split at h
      · cases h
      · exact h
    have hN := things_none _ _ ht
    refine ⟨by omega, ⟨by omega, by omega⟩, ?_, fun x hx => ?_, ?_⟩
    · intro x hx i hi h28
      have h9 := insW_none (hN x hx).2.1 i hi
      unfold insE at h9
      split at h9
      · cases h9
      split at h9
      · cases h9
      rename_i ha hb
      have hm : makesM i = [i.D] := by unfold makesM; repeat rw [if_neg (by omega)]
      have htk : takesM i = i.Args := by unfold takesM; repeat rw [if_neg (by omega)]
                                         rw [if_pos h28]
      rw [hm, htk] at hb
      simp only [not_or, Bool.not_eq_false] at hb
      have hD := regM_all hb.1 i.D (by simp)
      exact ⟨hD.1, hD.2, by omega, regM_all hb.2⟩
    · have := end_to (hN x hx).2.2
      exact ⟨this.1, this.2.2⟩
    · intro k hk p hp
      have hb := graph_none hg k hk p hp
      rw [Nat.zero_add] at hb
      unfold badPhi at hb
      simp only [Bool.or_eq_false_iff, decide_eq_false_iff_not, Bool.not_eq_false', decide_eq_true_eq] at hb
      obtain ⟨j, hj⟩ := phiW_none (hN _ (ix_mem hk)).1 p hp
      unfold phiE at hj
      split at hj
      · cases hj
      rename_i h5
      simp only [not_or, Bool.not_eq_false, Bool.not_eq_true] at h5
      have hD := regM_all h5.1 p.Dst (by simp)
      refine ⟨by omega, hb.2, hD.1, hD.2, fun x hx => ?_⟩
      have h6 := h5.2
      unfold anyM at h6
      rw [List.any_eq_false] at h6
      have h7 := h6 x hx
      simp only [Bool.not_eq_true, Bool.not_eq_false'] at h7
      exact regM_all h7 x.Val (by simp)
section
variable {m : D.MFunc} (hw : WFm m)
include hw
theorem WFm.from0 : ∀ p ∈ (ix m.Blocks (Int.toNat 0)).Phis, phiOk (-1) 8192 p := by
  intro p hp
  have := hw.phi 0 hw.n0.1 p hp
  omega
theorem WFm.from1 {at' t : Int} (ha : 0 ≤ at' ∧ at' < m.Blocks.length) (ht : t ∈ (ix m.Blocks (Int.toNat at')).End.To) : (0 ≤ t ∧ t < m.Blocks.length) ∧ ∀ p ∈ (ix m.Blocks (Int.toNat t)).Phis, phiOk at' 8192 p := by
  have h1 := (hw.to _ (ix_mem (l := m.Blocks) (i := Int.toNat at') (by omega))).2 t ht
  refine ⟨by omega, fun p hp => ?_⟩
  obtain ⟨h2, h3, h4, h5, h6⟩ := hw.phi (Int.toNat t) (by omega) p hp
  refine ⟨h4, h5, ?_, h6⟩
  have h7 : at' ∈ p.In.map (·.From) := by
    rw [h3]
    unfold predsM predsT
    refine List.mem_map.2 ⟨Int.toNat at', List.mem_filter.2 ⟨List.mem_range.2 (by omega), ?_⟩, by omega⟩
    rw [decide_eq_true_eq, show ((Int.toNat t : Nat) : Int) = t by omega]; exact ht
  obtain ⟨x, hx, hx2⟩ := List.mem_map.1 h7
  have h8 := idx_any p.In (isFrom at')
  have h9 : anyM p.In (isFrom at') = true := List.any_eq_true.2 ⟨x, hx, by unfold isFrom; rw [decide_eq_true_eq]; exact hx2⟩
  rw [h9, decide_eq_true_eq] at h8
  exact h8
theorem WFm.goes {at' : Int} (ha : 0 ≤ at' ∧ at' < m.Blocks.length) (rs : List Int) (h7 : ¬ (ix m.Blocks (Int.toNat at')).End.Op = 7) (h8 : ¬ (ix m.Blocks (Int.toNat at')).End.Op = 8) :
    0 ≤ goesM (ix m.Blocks (Int.toNat at')).End rs ∧ goesM (ix m.Blocks (Int.toNat at')).End rs < (ix m.Blocks (Int.toNat at')).End.To.length := by
  have h1 := (hw.to _ (ix_mem (l := m.Blocks) (i := Int.toNat at') (by omega))).1
  generalize (ix m.Blocks (Int.toNat at')).End = e at *
  unfold toM at h1
  rw [decide_eq_true_eq] at h1
  obtain ⟨ho1, ho2, hl1, hl2⟩ := h1
  have hu : 0 ≤ u32 (getM rs e.A) := by unfold u32; rw [IntKind.wrap_u32]; omega
  unfold limLo at hl1
  unfold limHi at hl2
  unfold goesM
  have hc : e.Op = 1 ∨ e.Op = 2 ∨ e.Op = 3 ∨ e.Op = 4 ∨ e.Op = 5 ∨ e.Op = 6 := by omega
  rcases hc with h | h | h | h | h | h <;> simp only [h] at hl1 hl2 ⊢ <;> simp at hl1 hl2 ⊢ <;> (repeat' split) <;> omega
end
theorem startR_len {m : D.MFunc} (hw : WFm m) (i : D.Input) : (startR m i).length = 8192 := by
  have := hw.p0
  unfold startR
  simp only [List.length_append, List.length_take, List.length_drop, List.length_replicate]; omega
theorem stepM_wr (i : D.Mach) (rs me : List Int) : IntKind.i32.wrap (stepM i rs me).1.1 = (stepM i rs me).1.1 := by
  have : ∀ (c : Prop) [Decidable c] (a b : (Int × Bool) × List Int × List Int), IntKind.i32.wrap a.1.1 = a.1.1 → IntKind.i32.wrap b.1.1 = b.1.1 → IntKind.i32.wrap (if c then a else b).1.1 = (if c then a else b).1.1 := by intro c _ a b h1 h2; split <;> assumption
  unfold stepM
  repeat' apply this
  all_goals first | exact (by decide : IntKind.i32.wrap 0 = 0) | exact (by decide : IntKind.i32.wrap (-1) = -1) | exact (by decide : IntKind.i32.wrap (-2) = -2) | (dsimp only; split <;> decide)
section
variable {N : Int} {K : List Int → List Int → List D.Event → List Int → Int → D.Outcome} {O : D.Outcome} {I : List D.Mach} {k j : Nat} {rs me an ea : List Int} {cl : List D.Event} {s : Int}
theorem ins_end (hI : O = insRun N K (I.drop k) rs me cl an s) (hk : I.length ≤ k) : O = K rs me cl an s := by rw [hI, List.drop_of_length_le hk]; rfl
theorem ins_stop (hI : O = insRun N K (I.drop k) rs me cl an s) (hk : k < I.length) (h : N ≤ s) : O = ⟨3, 0, me, cl, s⟩ := by rw [hI, drop_ix hk, insRun, if_pos h]
theorem ins_trap (hI : O = insRun N K (I.drop k) rs me cl an s) (hk : k < I.length) (h : ¬ N ≤ s) (h2 : ¬ (ix I k).Op = 28) (h3 : (stepM (ix I k) rs me).1.2 = false) :
    O = ⟨2, (stepM (ix I k) rs me).1.1, (stepM (ix I k) rs me).2.2, cl, s + 1⟩ := by rw [hI, drop_ix hk, insRun, if_neg h, if_neg h2, if_pos h3]
theorem ins_ok (hI : O = insRun N K (I.drop k) rs me cl an s) (hk : k < I.length) (h : ¬ N ≤ s) (h2 : ¬ (ix I k).Op = 28) (h3 : (stepM (ix I k) rs me).1.2 = true) :
    O = insRun N K (I.drop (k + 1)) (stepM (ix I k) rs me).2.1 (stepM (ix I k) rs me).2.2 cl an (s + 1) := by rw [hI, drop_ix hk, insRun, if_neg h, if_neg h2, if_neg (by rw [h3]; decide)]
theorem ins_callA (hI : O = insRun N K (I.drop k) rs me cl an s) (hk : k < I.length) (h : ¬ N ≤ s) (h2 : (ix I k).Op = 28) (hj : (ix I k).Args.length ≤ j) (hea : ea = ((ix I k).Args.take j).map (fun r => ix rs (Int.toNat r))) (h3 : ¬ 0 < (an.length : Int)) :
    O = insRun N K (I.drop (k + 1)) (List.set rs (Int.toNat (ix I k).D) 0) me (cl ++ [⟨(ix I k).Imm, ea⟩]) an (s + 1) := by
  have : an = [] := List.eq_nil_of_length_eq_zero (by omega)
  subst this
  rw [hI, drop_ix hk, insRun, if_neg h, if_pos h2, hea, List.take_of_length_le hj]; rfl
theorem ins_callB (hI : O = insRun N K (I.drop k) rs me cl an s) (hk : k < I.length) (h : ¬ N ≤ s) (h2 : (ix I k).Op = 28) (hj : (ix I k).Args.length ≤ j) (hea : ea = ((ix I k).Args.take j).map (fun r => ix rs (Int.toNat r))) :
    O = insRun N K (I.drop (k + 1)) (List.set (List.set rs (Int.toNat (ix I k).D) 0) (Int.toNat (ix I k).D) (ix an 0)) me (cl ++ [⟨(ix I k).Imm, ea⟩]) (an.drop 1) (s + 1) := by
  rw [hI, drop_ix hk, insRun, if_neg h, if_pos h2, hea, List.take_of_length_le hj, List.set_set]; rfl
end
section
variable {N : Int} {go : Int → List Int → List Int → List D.Event → List Int → Int → D.Outcome} {O : D.Outcome} {I : List D.Mach} {k : Nat} {rs me an : List Int} {cl : List D.Event} {s : Int} {e : D.End}
theorem end_stop (hI : O = insRun N (endRun N e go) (I.drop k) rs me cl an s) (hk : I.length ≤ k) (h : N ≤ s) : O = ⟨3, 0, me, cl, s⟩ := by rw [ins_end hI hk, endRun, if_pos h]
theorem end_ret (hI : O = insRun N (endRun N e go) (I.drop k) rs me cl an s) (hk : I.length ≤ k) (h : ¬ N ≤ s) (h7 : e.Op = 7) : O = ⟨1, getM rs e.A, me, cl, s + 1⟩ := by rw [ins_end hI hk, endRun, if_neg h, if_pos h7]
theorem end_trap (hI : O = insRun N (endRun N e go) (I.drop k) rs me cl an s) (hk : I.length ≤ k) (h : ¬ N ≤ s) (h7 : ¬ e.Op = 7) (h8 : e.Op = 8) : O = ⟨2, e.Imm, me, cl, s + 1⟩ := by rw [ins_end hI hk, endRun, if_neg h, if_neg h7, if_pos h8]
theorem end_go (hI : O = insRun N (endRun N e go) (I.drop k) rs me cl an s) (hk : I.length ≤ k) (h : ¬ N ≤ s) (h7 : ¬ e.Op = 7) (h8 : ¬ e.Op = 8) : O = go (ix e.To (Int.toNat (goesM e rs))) rs me cl an (s + 1) := by rw [ins_end hI hk, endRun, if_neg h, if_neg h7, if_neg h8]
end
theorem run_wrong {m : D.MFunc} {i : D.Input} (h : rightM m = false) : runM m i = ⟨4, 0, [], [], 0⟩ := by unfold runM; rw [if_pos h]
theorem run_right {m : D.MFunc} {i : D.Input} (h : rightM m = true) : runM m i = blockRun m.Blocks i.Steps (Int.toNat i.Steps + 1) 0 (-1) (startR m i) (memM i) [] i.Answers 0 := by unfold runM; rw [if_neg (by rw [h]; decide)]

end Go.Proofs.Ytehibklogdngbaa
