/- Lemmas that the claim is made of. Conditions: each lemma names its own. -/
import Derived.Test.YtmfkkodnghambaaGreatKI5
import Derived.Test.YtmfkkodnghambaaGreatKI3
set_option linter.unusedSectionVars false
set_option linter.unusedSimpArgs false
set_option linter.unusedVariables false
namespace Go.Proofs.YtmfkkodnghambaaGreat
open Go.JE
def callR (rs : List Int) (d : Int) (an : List Int) : List Int := rs.set (Int.toNat d) (ix an 0)
def insRun (N : Int) (K : List Int → List Int → List D.Event → List Int → Int → D.Outcome) : List D.Mach → List Int → List Int → List D.Event → List Int → Int → D.Outcome
 | [],rs,me,cl,an,s => K rs me cl an s
 | i :: l,rs,me,cl,an,s =>
   if N ≤ s then ⟨3,0,me,cl,s⟩
   else if i.Op = 28 then insRun N K l (callR rs i.D an) me (cl ++ [⟨i.Imm,i.Args.map (fun r => ix rs (Int.toNat r))⟩]) (an.drop 1) (s + 1)
   else if (stepM i rs me).1.2 = false then ⟨2,(stepM i rs me).1.1,(stepM i rs me).2.2,cl,s + 1⟩
   else insRun N K l (stepM i rs me).2.1 (stepM i rs me).2.2 cl an (s + 1)
def endRun (N : Int) (e : D.End) (go : Int → List Int → List Int → List D.Event → List Int → Int → D.Outcome) (rs me : List Int) (cl : List D.Event) (an : List Int) (s : Int) : D.Outcome :=
 if N ≤ s then ⟨3,0,me,cl,s⟩
 else if e.Op = 7 then ⟨1,getM rs e.A,me,cl,s + 1⟩
 else if e.Op = 8 then ⟨2,e.Imm,me,cl,s + 1⟩
 else go (ix e.To (Int.toNat (goesM e rs))) rs me cl an (s + 1)
def blockRun (bs : List D.MBlock) (N : Int) : Nat → Int → Int → List Int → List Int → List D.Event → List Int → Int → D.Outcome
 | 0,_,_,_,me,cl,_,s => ⟨3,0,me,cl,s⟩
 | f + 1,at',from',rs,me,cl,an,s => insRun N (endRun N (ix bs (Int.toNat at')).End (fun t => blockRun bs N f t at')) (ix bs (Int.toNat at')).Ins (phisM (ix bs (Int.toNat at')).Phis from' rs) me cl an s
def startR (m : D.MFunc) (i : D.Input) : List Int := List.take (min (Int.toNat m.Params) i.Args.length) i.Args ++ List.drop (min (Int.toNat m.Params) i.Args.length) (List.replicate 8192 0)
def runM (m : D.MFunc) (i : D.Input) : D.Outcome := if rightM m = false then ⟨4,0,[],[],0⟩ else blockRun m.Blocks i.Steps (Int.toNat i.Steps + 1) 0 (-1) (startR m i) (memM i) [] i.Answers 0
theorem blockRun_pos {bs : List D.MBlock} {N : Int} {f : Nat} (hf : 0 < f) (at' from' : Int) (rs me : List Int) (cl : List D.Event) (an : List Int) (s : Int) :
   blockRun bs N f at' from' rs me cl an s = insRun N (endRun N (ix bs (Int.toNat at')).End (fun t => blockRun bs N (f - 1) t at')) (ix bs (Int.toNat at')).Ins (phisM (ix bs (Int.toNat at')).Phis from' rs) me cl an s := by
 obtain ⟨f,rfl⟩ : ∃ g,f = g + 1 := ⟨f - 1,by omega⟩
 rfl
theorem phisM_len (l : List D.Phi) (from' : Int) (rs : List Int) : (phisM l from' rs).length = rs.length := setP_len _ _ _
theorem memM_len (i : D.Input) : (memM i).length ≤ 4096 := by unfold memM; simp; omega
def StepOk (rs me : List Int) (r : (Int × Bool) × List Int × List Int) : Prop := r.2.1.length = rs.length ∧ r.2.2.length = me.length
theorem StepOk.ite {rs me : List Int} {c : Prop} [Decidable c] {a b : (Int × Bool) × List Int × List Int} (h1 : StepOk rs me a) (h2 : StepOk rs me b) : StepOk rs me (if c then a else b) := by split <;> assumption
theorem stepM_ok (i : D.Mach) (rs me : List Int) : StepOk rs me (stepM i rs me) := by
 unfold stepM
 repeat' apply StepOk.ite
 all_goals (constructor <;> (try simp only [setM_len,storeM_len]))
theorem stepM_len (i : D.Mach) (rs me : List Int) : (stepM i rs me).2.1.length = rs.length ∧ (stepM i rs me).2.2.length = me.length := stepM_ok i rs me
structure WFm (m : D.MFunc) : Prop where
 p0 : 0 ≤ m.Params ∧ m.Params ≤ 4
 n0 : 0 < m.Blocks.length ∧ m.Blocks.length ≤ 512
 ins : ∀ x ∈ m.Blocks,∀ i ∈ x.Ins,i.Op = 28 → 0 ≤ i.D ∧ i.D < 8192 ∧ i.Args.length ≤ 4 ∧ ∀ r ∈ i.Args,0 ≤ r ∧ r < 8192
 to : ∀ x ∈ m.Blocks,toM x.End = true ∧ ∀ t ∈ x.End.To,1 ≤ t ∧ t < m.Blocks.length
 phi : ∀ k : Nat,k < m.Blocks.length → ∀ p ∈ (ix m.Blocks k).Phis,0 < k ∧ p.In.map (·.From) = predsM m.Blocks k ∧ 0 ≤ p.Dst ∧ p.Dst < 8192 ∧ ∀ x ∈ p.In,0 ≤ x.Val ∧ x.Val < 8192
theorem regM_all : ∀ {l : List Int},regM l = true → ∀ r ∈ l,0 ≤ r ∧ r < 8192
 | [],_,r,hr => by cases hr
 | x :: l,h,r,hr => by
   rw [regM] at h
   split at h
   · cases h
   · rcases List.mem_cons.1 hr with rfl | hr
     · omega
     · exact regM_all h r hr
theorem insW_none : ∀ {l : List D.Mach} {k : Nat},insW k l = none → ∀ i ∈ l,insE i = 0
 | [],_,_,i,hi => by cases hi
 | y :: l,k,h,i,hi => by
   rw [insW] at h
   split at h
   · rcases List.mem_cons.1 hi with rfl | hi
     · assumption
     · exact insW_none h i hi
   · cases h
theorem phiW_none {P : List D.Phi} : ∀ {l : List D.Phi} {k : Nat},phiW P k l = none → ∀ p ∈ l,∃ j,phiE p (P.take j) = 0
 | [],_,_,i,hi => by cases hi
 | y :: l,k,h,i,hi => by
   rw [phiW] at h
   split at h
   · rcases List.mem_cons.1 hi with rfl | hi
     · exact ⟨_,by assumption⟩
     · exact phiW_none h i hi
   · cases h
theorem graph_none : ∀ {l : List D.MBlock} {k : Nat} {bs : List D.MBlock},(graphPhis bs k l).1 = 0 → ∀ j : Nat,j < l.length → ∀ p ∈ (ix l j).Phis,badPhi bs (k + j) p = false
 | [],_,_,_,j,hj => by cases hj
 | x :: l,k,bs,h,j,hj => by
   rw [graphPhis] at h
   cases hf : x.Phis.findIdx? (badPhi bs k) with
   | some i => rw [hf] at h; cases h
   | none =>
     rw [hf] at h
     intro p hp
     cases j with
     | zero => exact (List.findIdx?_eq_none_iff.1 hf) p hp
     | succ j =>
       have := graph_none h j (by simpa using hj) p (by simpa [ix] using hp)
       rw [show k + 1 + j = k + (j + 1) by omega] at this
       exact this
theorem right_wf {m : D.MFunc} (h : rightM m = true) : WFm m := by
  unfold rightM at h
  rw [decide_eq_true_eq] at h
  unfold funcM at h
  split at h
  · cases h
  split at h
  · cases h
  split at h
  · cases h
  rename_i h1 h2 h3
  cases ht : thingsW m.Blocks.length 0 m.Blocks with
  | some t =>
    rw [ht] at h
    exfalso
    have : ∀ (bs : List D.MBlock) (b : Nat) (n : Int) (t : Int × Int × Int),thingsW n b bs = some t → t.1 ≠ 0 := by
      intro bs
      induction bs with
      | nil => intro b n t h; cases h
      | cons x l ih =>
        intro b n t h
        rw [thingsW] at h
        cases hb : blockW n x with
        | none => rw [hb] at h; exact ih _ _ _ h
        | some u =>
          rw [hb] at h
          cases h
          show u.1 ≠ 0
          unfold blockW at hb
          have hp : ∀ (P l : List D.Phi) (k : Nat) (u : Int × Int),phiW P k l = some u → u.1 ≠ 0 := by
            intro P l
            induction l with
            | nil => intro k u h; cases h
            | cons p l ih2 => intro k u h; rw [phiW] at h; split at h; (· exact ih2 _ _ h); cases h; assumption
          have hi : ∀ (l : List D.Mach) (k : Nat) (u : Int × Int),insW k l = some u → u.1 ≠ 0 := by
            intro l
            induction l with
            | nil => intro k u h; cases h
            | cons p l ih2 => intro k u h; rw [insW] at h; split at h; (· exact ih2 _ _ h); cases h; assumption
          cases h1 : phiW x.Phis 0 x.Phis with
          | some t => rw [h1] at hb; cases hb; exact hp _ _ _ _ h1
          | none =>
            rw [h1] at hb
            cases h2 : insW 0 x.Ins with
            | some t => rw [h2] at hb; cases hb; exact hi _ _ _ h2
            | none =>
              rw [h2] at hb
              by_cases h3 : endE x.End n = 0
              · simp only [if_pos h3] at hb; cases hb
              · simp only [if_neg h3] at hb; cases hb; exact h3
    exact this _ _ _ _ ht h
  | none =>
    rw [ht] at h
    replace h : (graphM m).1 = 0 := h
    have hg : (graphPhis m.Blocks 0 m.Blocks).1 = 0 := by
      unfold graphM at h; split at h
      · cases h
      · exact h
    have hN := things_none _ _ ht
    refine ⟨by omega,⟨by omega,by omega⟩,?_,fun x hx => ?_,?_⟩
    · intro x hx i hi h28
      have h9 := insW_none (hN x hx).2.1 i hi
      unfold insE at h9
      split at h9
      · cases h9
      split at h9
      · cases h9
      rename_i ha hb
      have hm : makesM i = [i.D] := by unfold makesM; repeat rw [if_neg (by omega)]
      have htk : takesM i = i.Args := by unfold takesM; repeat rw [if_neg (by omega)]
                                         rw [if_pos h28]
      rw [hm,htk] at hb
      simp only [not_or,Bool.not_eq_false] at hb
      have hD := regM_all hb.1 i.D (by simp)
      exact ⟨hD.1,hD.2,by omega,regM_all hb.2⟩
    · have := end_to (hN x hx).2.2
      exact ⟨this.1,this.2.2⟩
    · intro k hk p hp
      have hb := graph_none hg k hk p hp
      rw [Nat.zero_add] at hb
      unfold badPhi at hb
      simp only [Bool.or_eq_false_iff,decide_eq_false_iff_not,Bool.not_eq_false',decide_eq_true_eq] at hb
      obtain ⟨j,hj⟩ := phiW_none (hN _ (ix_mem hk)).1 p hp
      unfold phiE at hj
      split at hj
      · cases hj
      rename_i h5
      simp only [not_or,Bool.not_eq_false,Bool.not_eq_true] at h5
      have hD := regM_all h5.1 p.Dst (by simp)
      refine ⟨by omega,hb.2,hD.1,hD.2,fun x hx => ?_⟩
      have h6 := h5.2
      unfold anyM at h6
      rw [List.any_eq_false] at h6
      have h7 := h6 x hx
      simp only [Bool.not_eq_true,Bool.not_eq_false'] at h7
      exact regM_all h7 x.Val (by simp)
section
variable {m : D.MFunc} (hw : WFm m)
include hw
theorem WFm.from0 : ∀ p ∈ (ix m.Blocks (Int.toNat 0)).Phis,phiOk (-1) 8192 p := by
 intro p hp
 have := hw.phi 0 hw.n0.1 p hp
 omega
theorem WFm.from1 {at' t : Int} (ha : 0 ≤ at' ∧ at' < m.Blocks.length) (ht : t ∈ (ix m.Blocks (Int.toNat at')).End.To) : (0 ≤ t ∧ t < m.Blocks.length) ∧ ∀ p ∈ (ix m.Blocks (Int.toNat t)).Phis,phiOk at' 8192 p := by
 have h1 := (hw.to _ (ix_mem (l := m.Blocks) (i := Int.toNat at') (by omega))).2 t ht
 refine ⟨by omega,fun p hp => ?_⟩
 obtain ⟨h2,h3,h4,h5,h6⟩ := hw.phi (Int.toNat t) (by omega) p hp
 refine ⟨h4,h5,?_,h6⟩
 have h7 : at' ∈ p.In.map (·.From) := by
   rw [h3]
   unfold predsM predsT
   refine List.mem_map.2 ⟨Int.toNat at',List.mem_filter.2 ⟨List.mem_range.2 (by omega),?_⟩,by omega⟩
   rw [decide_eq_true_eq,show ((Int.toNat t : Nat) : Int) = t by omega]; exact ht
 obtain ⟨x,hx,hx2⟩ := List.mem_map.1 h7
 have h8 := idx_any p.In (isFrom at')
 have h9 : anyM p.In (isFrom at') = true := List.any_eq_true.2 ⟨x,hx,by unfold isFrom; rw [decide_eq_true_eq]; exact hx2⟩
 rw [h9,decide_eq_true_eq] at h8
 exact h8
theorem WFm.goes {at' : Int} (ha : 0 ≤ at' ∧ at' < m.Blocks.length) (rs : List Int) (h7 : ¬ (ix m.Blocks (Int.toNat at')).End.Op = 7) (h8 : ¬ (ix m.Blocks (Int.toNat at')).End.Op = 8) :
   0 ≤ goesM (ix m.Blocks (Int.toNat at')).End rs ∧ goesM (ix m.Blocks (Int.toNat at')).End rs < (ix m.Blocks (Int.toNat at')).End.To.length := by
 have h1 := (hw.to _ (ix_mem (l := m.Blocks) (i := Int.toNat at') (by omega))).1
 generalize (ix m.Blocks (Int.toNat at')).End = e at *
 unfold toM at h1
 rw [decide_eq_true_eq] at h1
 obtain ⟨ho1,ho2,hl1,hl2⟩ := h1
 have hu : 0 ≤ u32 (getM rs e.A) := by unfold u32; rw [IntKind.wrap_u32]; omega
 unfold limLo at hl1
 unfold limHi at hl2
 unfold goesM
 have hc : e.Op = 1 ∨ e.Op = 2 ∨ e.Op = 3 ∨ e.Op = 4 ∨ e.Op = 5 ∨ e.Op = 6 := by omega
 rcases hc with h | h | h | h | h | h <;> simp only [h] at hl1 hl2 ⊢ <;> simp at hl1 hl2 ⊢ <;> (repeat' split) <;> omega
end
theorem startR_len {m : D.MFunc} (hw : WFm m) (i : D.Input) : (startR m i).length = 8192 := by
 have := hw.p0
 unfold startR
 simp only [List.length_append,List.length_take,List.length_drop,List.length_replicate]; omega
theorem stepM_wr (i : D.Mach) (rs me : List Int) : IntKind.i32.wrap (stepM i rs me).1.1 = (stepM i rs me).1.1 := by
 have : ∀ (c : Prop) [Decidable c] (a b : (Int × Bool) × List Int × List Int),IntKind.i32.wrap a.1.1 = a.1.1 → IntKind.i32.wrap b.1.1 = b.1.1 → IntKind.i32.wrap (if c then a else b).1.1 = (if c then a else b).1.1 := by intro c _ a b h1 h2; split <;> assumption
 unfold stepM
 repeat' apply this
 all_goals first | exact (by decide : IntKind.i32.wrap 0 = 0) | exact (by decide : IntKind.i32.wrap (-1) = -1) | exact (by decide : IntKind.i32.wrap (-2) = -2) | (dsimp only; split <;> decide)
section
variable {N : Int} {K : List Int → List Int → List D.Event → List Int → Int → D.Outcome} {O : D.Outcome} {I : List D.Mach} {k j : Nat} {rs me an ea : List Int} {cl : List D.Event} {s : Int}
theorem ins_end (hI : O = insRun N K (I.drop k) rs me cl an s) (hk : I.length ≤ k) : O = K rs me cl an s := by rw [hI,List.drop_of_length_le hk]; rfl
theorem ins_stop (hI : O = insRun N K (I.drop k) rs me cl an s) (hk : k < I.length) (h : N ≤ s) : O = ⟨3,0,me,cl,s⟩ := by rw [hI,drop_ix hk,insRun,if_pos h]
theorem ins_trap (hI : O = insRun N K (I.drop k) rs me cl an s) (hk : k < I.length) (h : ¬ N ≤ s) (h2 : ¬ (ix I k).Op = 28) (h3 : (stepM (ix I k) rs me).1.2 = false) :
   O = ⟨2,(stepM (ix I k) rs me).1.1,(stepM (ix I k) rs me).2.2,cl,s + 1⟩ := by rw [hI,drop_ix hk,insRun,if_neg h,if_neg h2,if_pos h3]
theorem ins_ok (hI : O = insRun N K (I.drop k) rs me cl an s) (hk : k < I.length) (h : ¬ N ≤ s) (h2 : ¬ (ix I k).Op = 28) (h3 : (stepM (ix I k) rs me).1.2 = true) :
   O = insRun N K (I.drop (k + 1)) (stepM (ix I k) rs me).2.1 (stepM (ix I k) rs me).2.2 cl an (s + 1) := by rw [hI,drop_ix hk,insRun,if_neg h,if_neg h2,if_neg (by rw [h3]; decide)]
theorem ins_callA (hI : O = insRun N K (I.drop k) rs me cl an s) (hk : k < I.length) (h : ¬ N ≤ s) (h2 : (ix I k).Op = 28) (hj : (ix I k).Args.length ≤ j) (hea : ea = ((ix I k).Args.take j).map (fun r => ix rs (Int.toNat r))) (h3 : ¬ 0 < (an.length : Int)) :
   O = insRun N K (I.drop (k + 1)) (List.set rs (Int.toNat (ix I k).D) 0) me (cl ++ [⟨(ix I k).Imm,ea⟩]) an (s + 1) := by
 have : an = [] := List.eq_nil_of_length_eq_zero (by omega)
 subst this
 rw [hI,drop_ix hk,insRun,if_neg h,if_pos h2,hea,List.take_of_length_le hj]; rfl
theorem ins_callB (hI : O = insRun N K (I.drop k) rs me cl an s) (hk : k < I.length) (h : ¬ N ≤ s) (h2 : (ix I k).Op = 28) (hj : (ix I k).Args.length ≤ j) (hea : ea = ((ix I k).Args.take j).map (fun r => ix rs (Int.toNat r))) :
   O = insRun N K (I.drop (k + 1)) (List.set (List.set rs (Int.toNat (ix I k).D) 0) (Int.toNat (ix I k).D) (ix an 0)) me (cl ++ [⟨(ix I k).Imm,ea⟩]) (an.drop 1) (s + 1) := by
 rw [hI,drop_ix hk,insRun,if_neg h,if_pos h2,hea,List.take_of_length_le hj,List.set_set]; rfl
end
section
variable {N : Int} {go : Int → List Int → List Int → List D.Event → List Int → Int → D.Outcome} {O : D.Outcome} {I : List D.Mach} {k : Nat} {rs me an : List Int} {cl : List D.Event} {s : Int} {e : D.End}
theorem end_stop (hI : O = insRun N (endRun N e go) (I.drop k) rs me cl an s) (hk : I.length ≤ k) (h : N ≤ s) : O = ⟨3,0,me,cl,s⟩ := by rw [ins_end hI hk,endRun,if_pos h]
theorem end_ret (hI : O = insRun N (endRun N e go) (I.drop k) rs me cl an s) (hk : I.length ≤ k) (h : ¬ N ≤ s) (h7 : e.Op = 7) : O = ⟨1,getM rs e.A,me,cl,s + 1⟩ := by rw [ins_end hI hk,endRun,if_neg h,if_pos h7]
theorem end_trap (hI : O = insRun N (endRun N e go) (I.drop k) rs me cl an s) (hk : I.length ≤ k) (h : ¬ N ≤ s) (h7 : ¬ e.Op = 7) (h8 : e.Op = 8) : O = ⟨2,e.Imm,me,cl,s + 1⟩ := by rw [ins_end hI hk,endRun,if_neg h,if_neg h7,if_pos h8]
theorem end_go (hI : O = insRun N (endRun N e go) (I.drop k) rs me cl an s) (hk : I.length ≤ k) (h : ¬ N ≤ s) (h7 : ¬ e.Op = 7) (h8 : ¬ e.Op = 8) : O = go (ix e.To (Int.toNat (goesM e rs))) rs me cl an (s + 1) := by rw [ins_end hI hk,endRun,if_neg h,if_neg h7,if_neg h8]
end
theorem run_wrong {m : D.MFunc} {i : D.Input} (h : rightM m = false) : runM m i = ⟨4,0,[],[],0⟩ := by unfold runM; rw [if_pos h]
theorem run_right {m : D.MFunc} {i : D.Input} (h : rightM m = true) : runM m i = blockRun m.Blocks i.Steps (Int.toNat i.Steps + 1) 0 (-1) (startR m i) (memM i) [] i.Answers 0 := by unfold runM; rw [if_neg (by rw [h]; decide)]
abbrev U35 := @Tryz.underlying35
theorem A31 : ∃ d,Tryz.prog.underlying 31 = some d ∧ (match d with | .struct _ | .array _ _ => true | _ => false) = true := ⟨_,Tryz.underlying31,rfl⟩
theorem A37 : ∃ d,Tryz.prog.underlying 37 = some d ∧ (match d with | .struct _ | .array _ _ => true | _ => false) = true := ⟨_,Tryz.underlying37,rfl⟩
theorem A74 : ∃ d,Tryz.prog.underlying 74 = some d ∧ (match d with | .struct _ | .array _ _ => true | _ => false) = true := ⟨_,Tryz.underlying74,rfl⟩
theorem E28 : Ent Tryz.prog 28 := ⟨_,Tryz.func28,by kernel_rfl,by kernel_rfl⟩
theorem E35 : Ent Tryz.prog 35 := ⟨_,Tryz.func35,by kernel_rfl,by kernel_rfl⟩
theorem E39 : Ent Tryz.prog 39 := ⟨_,Tryz.func39,by kernel_rfl,by kernel_rfl⟩
theorem E40 : Ent Tryz.prog 40 := ⟨_,Tryz.func40,by kernel_rfl,by kernel_rfl⟩
theorem E41 : Ent Tryz.prog 41 := ⟨_,Tryz.func41,by kernel_rfl,by kernel_rfl⟩
theorem E43 : Ent Tryz.prog 43 := ⟨_,Tryz.func43,by kernel_rfl,by kernel_rfl⟩
theorem F31_0 : Fld Tryz.prog 31 0 0 := ⟨_,_,Tryz.underlying31,rfl,rfl,1,(by unfold Sz; kernel_rfl),by decide⟩
theorem F31_2 : Fld Tryz.prog 31 2 2 := ⟨_,_,Tryz.underlying31,rfl,rfl,1,(by unfold Sz; kernel_rfl),by decide⟩
theorem F31_3 : Fld Tryz.prog 31 3 3 := ⟨_,_,Tryz.underlying31,rfl,rfl,1,(by unfold Sz; kernel_rfl),by decide⟩
theorem F37_0 : Fld Tryz.prog 37 0 0 := ⟨_,_,Tryz.underlying37,rfl,rfl,1,(by unfold Sz; kernel_rfl),by decide⟩
theorem F37_1 : Fld Tryz.prog 37 1 1 := ⟨_,_,Tryz.underlying37,rfl,rfl,1,(by unfold Sz; kernel_rfl),by decide⟩
theorem F37_2 : Fld Tryz.prog 37 2 2 := ⟨_,_,Tryz.underlying37,rfl,rfl,1,(by unfold Sz; kernel_rfl),by decide⟩
theorem F37_3 : Fld Tryz.prog 37 3 3 := ⟨_,_,Tryz.underlying37,rfl,rfl,1,(by unfold Sz; kernel_rfl),by decide⟩
theorem F37_4 : Fld Tryz.prog 37 4 4 := ⟨_,_,Tryz.underlying37,rfl,rfl,1,(by unfold Sz; kernel_rfl),by decide⟩
theorem F74_1 : Fld Tryz.prog 74 1 1 := ⟨_,_,Tryz.underlying74,rfl,rfl,1,(by unfold Sz; kernel_rfl),by decide⟩
theorem F88_4 : Fld Tryz.prog 88 4 4 := ⟨_,_,Tryz.underlying88,rfl,rfl,1,(by unfold Sz; kernel_rfl),by decide⟩
theorem I74 : (Tryz.prog.info? 74).map (fun i => (i.zero,i.size,i.bytes)) = some (some (.agg #[.int .i32 0,.slice none 0 0]),2,32) := by kernel_rfl
theorem O35 : One Tryz.prog 35 := ⟨_,Tryz.underlying35,rfl⟩
theorem Z29 : Sz Tryz.prog 29 1 := by unfold Sz; kernel_rfl
theorem Z31 : Sz Tryz.prog 31 4 := by unfold Sz; kernel_rfl
theorem Z35 : Sz Tryz.prog 35 1 := by unfold Sz; kernel_rfl
theorem Z37 : Sz Tryz.prog 37 5 := by unfold Sz; kernel_rfl
theorem Z74 : Sz Tryz.prog 74 2 := by unfold Sz; kernel_rfl
theorem J37 : (Tryz.prog.info? 37).bind (·.zero) = some (.agg #[.int .i64 0,.int .i32 0,.slice none 0 0,.slice none 0 0,.int .i64 0]) := by kernel_rfl
theorem J74 : (Tryz.prog.info? 74).bind (·.zero) = some (.agg #[.int .i32 0,.slice none 0 0]) := by kernel_rfl
theorem pStop_ct (kd : Int) (x : Int) {e0 v0 z0 : Int} {m0 c0 : Value} {g2 : Nat} (om : m0.oneCell' = true) (oc : c0.oneCell' = true) : Tr Tryz.prog 39 #[.int .i64 kd,.int .i32 x,.pointer (some ⟨g2,0,none⟩)] [] [bx g2 37 [.int .i64 e0,.int .i32 v0,m0,c0,.int .i64 z0]] (fun _ : Unit => .agg #[.int .i64 kd,.int .i32 x,m0,c0,.int .i64 z0]) (fun _ => []) (fun _ _ => [bx g2 37 [.int .i64 kd,.int .i32 x,m0,c0,.int .i64 z0]]) := by
 refine jenter (args := [.int .i64 kd,.int .i32 x,.pointer (some ⟨g2,0,none⟩)]) Tryz.func39 rfl rfl rfl fun w0 X => ?_
 refine jq (jr (jalc J37 Z fun g5 => jn (jx (jq (jr (jm Z (jm Z (js (jf F37_0 Z) (jst k1 Z3 Z Z Z s0 (js (jf F37_1 Z) ?_))))))))))
 refine jst k0 Z21 Z Z Z s1 (jn (jx (jq (jr (js (jla k0 A37 Z37 Z Z Z) (jsta k1 Z37 Z Z Z ⟨Z,Z,om,oc,Z,trivial⟩ (saf Z) (jn (jx (jrt ?_)))))))))
 exact jrc Z Z k0 A37 Z37 () Z dn (fun _ _ => (kc k1 kn))
set_option maxRecDepth 8000 in
set_option maxHeartbeats 4000000 in
theorem pRun_ct {a0 : Value} {m : D.MFunc} {a1a a1b a1c : Value} {i : D.Input} (hstp : i.Steps ≤ 1000000) : Ts Tryz.prog 12 #[vMFunc m a0,vInput i (a1a,a1b,a1c)] [da rMFunc (vMFunc m a0) m,da rInput (vInput i (a1a,a1b,a1c)) i] [] rOutcome vOutcome (runM m i) := by
 refine jenter (args := [vMFunc m a0,vInput i (a1a,a1b,a1c)]) Tryz.func12 rfl rfl rfl fun w0 X => ?_
 refine jq (jr (jbox Z Z fun g2 => jbox Z Z fun g3 => jalc J37 Z fun g4 => jn (jx (jsc (jq (jq (jr (js (jla k2 A28 Z28 Z Z Z) ?_))))))))
 refine jcv E35 Z Z pRight_ct (dc d0 dn) kn (js (jnot Z) (jn (jx ?_)))
 refine jif Z (fun hc1 => ?_) (fun hc1 => ?_)
 refine jq (jr (js (jbu (v := .agg #[.int .i64 4,.int .i32 0,.slice none 0 0,.slice none 0 0,.int .i64 0]) Z (fun _ => by kernel_rfl)) (jsta k0 Z37 Z Z Z ⟨Z,Z,Z,Z,Z,trivial⟩ (saf Z) (jn (jx (jrt (jtr (jso ?_))))))))
 exact jrcA (val := vOutcome) (b := ⟨4,0,[],[],0⟩) (c := (.slice none 0 0,.slice none 0 0)) Z Z k0 A37 Z37 Z (by first | exact run_wrong (by simpa using hc1) | exact ins_stop hI (by omega) hc3 | exact ins_trap hI (by omega) hc3 hc4 (by simpa using hc7) | exact end_stop hI (by omega) hc8 | exact end_ret hI (by omega) hc8 hc9 | exact end_trap hI (by omega) hc8 hc9 hc10) (rOutcome.M (m := ⟨4,0,[],[],0⟩) (c := (.slice none 0 0,.slice none 0 0)) wN wN (wl 4) (wl 0) (wl 0))
 have hR : rightM m = true := by simpa using hc1
 have hW := right_wf hR
 have hp0 := hW.p0
 have hn0 := hW.n0
 refine jsk (jx (jq (jr (js (jla k1 A31 Z31 Z Z Z) (jcg E28 Z Z pMem_ct (dc d1 dn) kn fun v24 w1 => js (jbu (v := .agg #[.int .i64 0,.int .i32 0,v24,.slice none 0 0,.int .i64 0]) Z (fun _ => by obtain ⟨_,_,_,rfl⟩ := w1; kernel_rfl)) (jalc J37 Z fun g5 => jsta k0 Z37 Z Z Z ⟨Z,Z,w1.one,Z,Z,trivial⟩ (saf Z) (jn (jx (jq ?_)))))))))
 refine jr (jmk (m := 8192) (r := (rI .i32)) U29 I21 Z Z Z Z Z (by omega) (wI (wp (by decide))) Z fun g26 => ja Z (jn (jx (jq (jtl 6 Mixed (by kernel_rfl) (jt (jmv Z) (jt (jf F28_0 Z) (jt (jl k5 O3 Z Z) (jt (jshg (hi := (Int.toNat m.Params)) U29 Z21 k0 Z Z (by omega) (by rw [lrep]; omega)) (jt (jf F31_0 Z) ?_))))))))))
 refine jt (jl k4 O29 Z Z) (jtt (jdq (rInput.c_Args d1) fun q2 w2 => jcpy U29 I21 Z Z Z k0 (by rw [lrep]; omega) (rInput.c_Args d1) (jn (jx (jq (jr (js (jf F31_2 Z) (js (jl k4 O29 Z Z) (ja Z (jn ?_))))))))))
 refine jx (jq (jr (js (jmf1 Z) (ja Z (jn (jx (jq (jr (ja Z (ja Z (jn ?_)))))))))))
 refine jx (jq (jlab (jx (jq (jb (cnl (r := rEvent) (E := 74) ?_))))))
 refine jlp (u10 fun (f : Nat) (ab : Int) (fb : Int) (rs : List Int) (me : List Int) (cl : List D.Event) (an : List Int) (s9 : Int) (vc : Value) (va : Value) => ⟨0 < f ∧ runM m i = blockRun m.Blocks i.Steps f ab fb rs me cl an s9 ∧ (0 ≤ ab ∧ ab < m.Blocks.length) ∧ (∀ p ∈ (ix m.Blocks (Int.toNat ab)).Phis,phiOk fb 8192 p) ∧ rs.length = 8192 ∧ me.length ≤ 4096 ∧ 0 ≤ s9 ∧ cl.length ≤ s9 ∧ (s9 ≤ i.Steps ∨ s9 = 0) ∧ i.Steps - s9 < f,[da rMFunc (vMFunc m a0) m,da rInput (vInput i (a1a,a1b,a1c)) i,dv (rL (rI .i32)) va an],[gl X.n rEvent 74 vc cl,gl X.n (rI .i32) 21 (.slice (some ⟨g26,0,none⟩) 8192 8192) rs,bx g5 37 [.int .i64 0,.int .i32 0,v24,vc,.int .i64 s9],gl X.n (rI .i32) 21 v24 me,bx g4 37 [.int .i64 0,.int .i32 0,.slice none 0 0,.slice none 0 0,.int .i64 0],bx g3 31 [a1a,a1b,a1c,.int .i64 i.Steps],bx g2 28 [.int .i64 m.Params,a0]],[(2,.pointer (some ⟨g2,0,none⟩)),(3,.pointer (some ⟨g3,0,none⟩)),(4,.pointer (some ⟨g4,0,none⟩)),(5,.pointer (some ⟨g5,0,none⟩)),(6,(.slice (some ⟨g26,0,none⟩) 8192 8192)),(7,va),(8,.func (.func 39) #[] #[.pointer (some ⟨g5,0,none⟩)]),(9,.int .i64 ab),(10,.int .i64 fb)],f⟩) (Int.toNat i.Steps + 1,0,(-1),startR m i,memM i,[],i.Answers,0,.slice none 0 0,a1c) ⟨by dsimp only; omega,run_right hR,by dsimp only; omega,hW.from0,startR_len hW i,memM_len i,Int.le_refl _,by simp,by dsimp only; omega,by dsimp only; omega⟩ (dc d0 (dc d1 (dc (rInput.c_Answers d1) dn))) (kd (kd (kd (kc k0 kn)))) ⟨Z,Z,Z,Z,Z,Z,Z,Z,Z,trivial⟩ ?_
 rintro ⟨f,ab,fb,rs,me,cl,an,s9,vc,va⟩; dsimp only [u10]; rintro ⟨hf,hrun,hat,hfr,hrl,hml,hs0,hcl,hst,hfu⟩
 refine cgo k0 fun w4 => cdq d2 fun q5 w5 => jb (jq (jr (js (jf F28_1 Z) (js (jl k6 O26 Z Z) (jm Z (jdq (rMFunc.cB d0) fun q6 w6 => js (jix (i := (Int.toNat ab)) U26 Z95 (rMFunc.cB d0) Z Z (by omega) (by omega)) (jA3 sMBlock (jlA (dix (rMFunc.cB d0) (Int.toNat ab) (by omega)) A95 Z95 Z) fun c41a c41b c41c => jalc J95 Z fun g11 => ?_)))))))
 refine jdq (rMBlock.cP d0) fun q8 w8 => jdq (rMBlock.cI d0) fun q9 w9 => jdq (rMBlock.cT d0) fun q10 w10 => jsta k0 Z95 Z Z Z ⟨w8.one,w9.one,Z,Z,Z,w10.one,Z,trivial⟩ (saf Z) (jn (jx (jq (jr (js (jf F95_0 Z) (js (jl k0 O57 Z Z) (jm Z (jm Z ?_))))))))
 refine jc E40 Z Z (pPhis_ct fb (by omega) (by rw [hrl]; exact hfr)) (dc (rMBlock.cP d0) dn) (kc k2 kn) (fun _ => p0) (fun _ => p1) fun _ => jn (jx (jq (jq (jr (js (jf F95_1 Z) (js (jl k1 O93 Z Z) (js (jln U93 (rMBlock.cI d0) Z) (jm Z (jn (jx ?_))))))))))
 refine jb ?_
 refine jlp (u8 fun (k : Nat) (rs2 : List Int) (me2 : List Int) (cl2 : List D.Event) (an2 : List Int) (s2 : Int) (vc2 : Value) (va2 : Value) => ⟨k ≤ (ix m.Blocks (Int.toNat ab)).Ins.length ∧ runM m i = insRun i.Steps (endRun i.Steps (ix m.Blocks (Int.toNat ab)).End (fun t => blockRun m.Blocks i.Steps (f - 1) t ab)) ((ix m.Blocks (Int.toNat ab)).Ins.drop k) rs2 me2 cl2 an2 s2 ∧ rs2.length = 8192 ∧ me2.length ≤ 4096 ∧ s9 ≤ s2 ∧ cl2.length ≤ s2 ∧ (s2 ≤ i.Steps ∨ s2 = 0),[da rMBlock (vMBlock (ix m.Blocks (Int.toNat ab)) (c41a,c41b,c41c)) (ix m.Blocks (Int.toNat ab)),da rMFunc (vMFunc m a0) m,da rInput (vInput i (a1a,a1b,a1c)) i,dv (rL (rI .i32)) va2 an2],[gl X.n (rI .i32) 21 (.slice (some ⟨g26,0,none⟩) 8192 8192) rs2,bx g11 95 [c41a,c41b,.int .i64 (((ix m.Blocks (Int.toNat ab)).End).Op),.int .i64 (((ix m.Blocks (Int.toNat ab)).End).A),.int .i64 (((ix m.Blocks (Int.toNat ab)).End).B),c41c,.int .i32 (((ix m.Blocks (Int.toNat ab)).End).Imm)],gl X.n rEvent 74 vc2 cl2,bx g5 37 [.int .i64 0,.int .i32 0,v24,vc2,.int .i64 s2],gl X.n (rI .i32) 21 v24 me2,bx g4 37 [.int .i64 0,.int .i32 0,.slice none 0 0,.slice none 0 0,.int .i64 0],bx g3 31 [a1a,a1b,a1c,.int .i64 i.Steps],bx g2 28 [.int .i64 m.Params,a0]],[(2,.pointer (some ⟨g2,0,none⟩)),(3,.pointer (some ⟨g3,0,none⟩)),(4,.pointer (some ⟨g4,0,none⟩)),(5,.pointer (some ⟨g5,0,none⟩)),(6,(.slice (some ⟨g26,0,none⟩) 8192 8192)),(7,va2),(8,.func (.func 39) #[] #[.pointer (some ⟨g5,0,none⟩)]),(9,.int .i64 ab),(10,.int .i64 fb),(11,.pointer (some ⟨g11,0,none⟩)),(48,c41b),(49,.int .i64 (↑(List.length ((ix m.Blocks (Int.toNat ab)).Ins)))),(50,.int .i64 (↑k))],(ix m.Blocks (Int.toNat ab)).Ins.length - k⟩) (0,phisM ((ix m.Blocks (Int.toNat ab)).Phis) fb rs,me,cl,an,s9,vc,va) ⟨by dsimp only; omega,by dsimp only; rw [hrun,blockRun_pos hf]; rfl,by dsimp only; rw [phisM_len]; exact hrl,hml,by dsimp only; omega,hcl,hst⟩ (dc d0 (dc d1 (dc d2 (dc d3 dn)))) (kd (kd (kd (kd kn)))) ⟨Z,Z,Z,Z,Z,Z,Z,Z,Z,Z,Z,Z,eqI (by omega),trivial⟩ ?_
 rintro ⟨k,rs2,me2,cl2,an2,s2,vc2,va2⟩; dsimp only [u8]; rintro ⟨hk,hI,hrl2,hml2,hss,hcl2,hst2⟩
 refine cgo k2 fun w12 => cdq d3 fun q13 w13 => jq (jr (js (jlss Z Z) (jn (jx (jq ?_)))))
 refine jif Z (fun hc2 => ?_) (fun hc2 => ?_)
 refine jsk (jx (jq (jb (jq (jr (js (jix U93 Z24 (rMBlock.cI d0) Z Z Z (by omega)) (jA sMach (jlA (dix (rMBlock.cI d0) k (by omega)) A24 Z24 Z) fun c53 => jalc J24 Z fun g13 => jdq (rMach.c_Args d0) fun q15 w15 => jsta k0 Z24 Z Z Z ⟨Z,Z,Z,Z,Z,Z,Z,w15.one,trivial⟩ (saf Z) (jn ?_))))))))
 refine jx (jq (jq (jr (js (jf F37_4 Z) (js (jl k4 O3 Z Z) (js (jf F31_3 Z) (js (jl k7 O3 Z Z) (js (jgeq Z Z) (jn (jx ?_))))))))))
 refine jif Z (fun hc3 => ?_) (fun hc3 => ?_)
 refine jex (jtx (jbo (jtx (jtx (jbo (jtx (jbo (jtx (jbh (jx (jq ?_)))))))))))
 refine jr (jm Z (jc E39 Z Z (pStop_ct 3 0 w1.one w12.one) dn (kc k4 kn) (fun _ => p0) (fun _ => p1) fun _ => jsta k6 Z37 Z Z Z ⟨Z,Z,w1.one,w12.one,Z,trivial⟩ (saf Z) (jn (jx (jrt (jso (qfz k6 (by first | omega | (rw [(stepM_len _ _ _).2]; omega)) (qfz k5 (by omega) ?_))))))))
 exact jrcA (val := vOutcome) (b := ⟨3,0,me2,cl2,s2⟩) (c := (v24,vc2)) Z Z k0 A37 Z37 Z (by first | exact run_wrong (by simpa using hc1) | exact ins_stop hI (by omega) hc3 | exact ins_trap hI (by omega) hc3 hc4 (by simpa using hc7) | exact end_stop hI (by omega) hc8 | exact end_ret hI (by omega) hc8 hc9 | exact end_trap hI (by omega) hc8 hc9 hc10) (rOutcome.M (m := ⟨3,0,me2,cl2,s2⟩) (c := (v24,vc2)) d1 d0 (wl 3) (wl 0) (wp (IntWalk.i64_in s2 (by omega))))
 have hNi := hc3
 refine jsk (jx (jq (jr (js (jf F37_4 Z) (js (jl k4 O3 Z Z) (js (jadd Z Z (by omega)) (js (jf F37_4 Z) (jst k4 Z3 Z Z Z s4 (jn (jx (jq ?_)))))))))))
 refine jq (jr (js (jf F24_0 Z) (js (jl k1 O3 Z Z) (js (jeql Z Z) (jn (jx ?_))))))
 refine jif Z (fun hc4 => ?_) (fun hc4 => ?_)
 have h28 := hc4
 have hi28 := hW.ins _ (ix_mem (l := m.Blocks) (i := Int.toNat ab) (by omega)) _ (ix_mem (l := (ix m.Blocks (Int.toNat ab)).Ins) (i := k) (by omega)) hc4
 obtain ⟨hD0,hD1,hA4,hAr⟩ := hi28
 refine jq (jr (js (jf F24_6 Z) (js (jl k1 O21 Z Z) (js (jbu (v := .agg #[.int .i32 ((ix ((ix m.Blocks (Int.toNat ab)).Ins) k).Imm),.slice none 0 0]) Z (fun _ => by kernel_rfl)) (jalc J74 Z fun g14 => jsta k0 Z74 Z Z Z ⟨Z,Z,trivial⟩ (saf Z) (jn (jx (jq (jq (jr ?_))))))))))
 refine js (jf F24_7 Z) (js (jl k2 O22 Z Z) (js (jln U22 (rMach.c_Args d0) Z) (jm Z (jn (jx (jb (cnl (r := (rI .i32)) (E := 21) ?_)))))))
 refine jlp (u3 fun (j : Nat) (ea : List Int) (ve : Value) => ⟨j ≤ (ix (ix m.Blocks (Int.toNat ab)).Ins k).Args.length ∧ ea = ((ix (ix m.Blocks (Int.toNat ab)).Ins k).Args.take j).map (fun r => ix rs2 (Int.toNat r)),[da rMach (vMach (ix ((ix m.Blocks (Int.toNat ab)).Ins) k) c53) (ix ((ix m.Blocks (Int.toNat ab)).Ins) k),da rMBlock (vMBlock (ix m.Blocks (Int.toNat ab)) (c41a,c41b,c41c)) (ix m.Blocks (Int.toNat ab)),da rMFunc (vMFunc m a0) m,da rInput (vInput i (a1a,a1b,a1c)) i,dv (rL (rI .i32)) va2 an2],[gl X.n (rI .i32) 21 ve ea,bx g14 74 [.int .i32 ((ix ((ix m.Blocks (Int.toNat ab)).Ins) k).Imm),ve],bx g5 37 [.int .i64 0,.int .i32 0,v24,vc2,.int .i64 (s2 + 1)],bx g13 24 [.int .i64 ((ix ((ix m.Blocks (Int.toNat ab)).Ins) k).Op),.int .i64 ((ix ((ix m.Blocks (Int.toNat ab)).Ins) k).D),.int .i64 ((ix ((ix m.Blocks (Int.toNat ab)).Ins) k).E),.int .i64 ((ix ((ix m.Blocks (Int.toNat ab)).Ins) k).A),.int .i64 ((ix ((ix m.Blocks (Int.toNat ab)).Ins) k).B),.int .i64 ((ix ((ix m.Blocks (Int.toNat ab)).Ins) k).C),.int .i32 ((ix ((ix m.Blocks (Int.toNat ab)).Ins) k).Imm),c53],gl X.n (rI .i32) 21 (.slice (some ⟨g26,0,none⟩) 8192 8192) rs2,bx g11 95 [c41a,c41b,.int .i64 (((ix m.Blocks (Int.toNat ab)).End).Op),.int .i64 (((ix m.Blocks (Int.toNat ab)).End).A),.int .i64 (((ix m.Blocks (Int.toNat ab)).End).B),c41c,.int .i32 (((ix m.Blocks (Int.toNat ab)).End).Imm)],gl X.n rEvent 74 vc2 cl2,gl X.n (rI .i32) 21 v24 me2,bx g4 37 [.int .i64 0,.int .i32 0,.slice none 0 0,.slice none 0 0,.int .i64 0],bx g3 31 [a1a,a1b,a1c,.int .i64 i.Steps],bx g2 28 [.int .i64 m.Params,a0]],[(2,.pointer (some ⟨g2,0,none⟩)),(3,.pointer (some ⟨g3,0,none⟩)),(4,.pointer (some ⟨g4,0,none⟩)),(5,.pointer (some ⟨g5,0,none⟩)),(6,(.slice (some ⟨g26,0,none⟩) 8192 8192)),(7,va2),(8,.func (.func 39) #[] #[.pointer (some ⟨g5,0,none⟩)]),(9,.int .i64 ab),(10,.int .i64 fb),(11,.pointer (some ⟨g11,0,none⟩)),(13,.pointer (some ⟨g13,0,none⟩)),(14,.pointer (some ⟨g14,0,none⟩)),(48,c41b),(49,.int .i64 (↑(List.length ((ix m.Blocks (Int.toNat ab)).Ins)))),(50,.int .i64 (↑k)),(70,c53),(71,.int .i64 (↑(List.length ((ix ((ix m.Blocks (Int.toNat ab)).Ins) k).Args)))),(72,.int .i64 (↑j))],(ix (ix m.Blocks (Int.toNat ab)).Ins k).Args.length - j⟩) (0,[],.slice none 0 0) ⟨by dsimp only; omega,rfl⟩ (dc d0 (dc d1 (dc d2 (dc d3 (dc d4 dn))))) (kd (kd (kd (kd (kd (kc k0 kn)))))) ⟨Z,Z,Z,Z,Z,Z,Z,Z,Z,Z,Z,Z,Z,Z,Z,Z,Z,eqI (by omega),trivial⟩ ?_
 rintro ⟨j,ea,ve⟩; dsimp only [u3]; rintro ⟨hj,hea⟩
 refine cgo k0 fun w18 => ?_
 have hel : ea.length = j := by rw [hea]; simp; omega
 refine jq (jr (js (jlss Z Z) (jn (jx (jq ?_)))))
 refine jif Z (fun hc5 => ?_) (fun hc5 => ?_)
 have har := hAr _ (ix_mem (l := (ix (ix m.Blocks (Int.toNat ab)).Ins k).Args) (i := j) (by omega))
 refine jsk (jx (jq (jb (jq (jr (js (jix U22 Z3 (rMach.c_Args d0) Z Z Z (by omega)) (js (jlI (dix (rMach.c_Args d0) j (by omega)) O3 Z) (ja Z (jn (jx (jany true (.a 0 (.a 1 (.a 2 (.a 3 (.a 4 (.a 5 (.o 6 (.o 7 (.a 8 (.o 9 .e)))))))))) Mixed (by kernel_rfl) (kc k1 (kc k3 kn)) fun F19 => ?_)))))))))))
 refine jy Z (jf F74_1 Z) (jy Z (jl k0 O29 Z Z) (jy Z (jmv Z) (jy Z (jmv Z) (jy Z (jig (i := (Int.toNat (ix ((ix ((ix m.Blocks (Int.toNat ab)).Ins) k).Args) j))) U29 Z21 k1 Z Z (by omega) (by omega)) (jy Z (jgI k1 (by omega) O21 Z) (jyo Z (jlit (r := (rI .i32)) (l := [ix rs2 (Int.toNat (ix ((ix ((ix m.Blocks (Int.toNat ab)).Ins) k).Args) j))]) U29 I21 (by decide) Z Z Z (lV Z Z (wI (wgl k4 (by omega))) ln) fun g82 => jyn d0 (kc k2 (kc k4 kn)) (jyo Z (jfz k0 (by (try simp) <;> omega) (japl U29 I21 (by decide) Z k0 Z Z d0 (by (try simp) <;> omega) fun v83 w23 => ?_))))))))))
 refine jyn d1 (kc k1 (kc k3 kn)) (jy Z (jf F74_1 Z) (jyo Z (jst k1 Z29 Z Z w23.one s1 (jyz d0 (jyd (jbn (jx (jr (js (jadd Z Z (by omega)) (jm Z (jn ?_)))))))))))
 exact jag (j + 1,ea ++ ([ix rs2 (Int.toNat (ix ((ix ((ix m.Blocks (Int.toNat ab)).Ins) k).Args) j))]),v83) ⟨by dsimp only; omega,by dsimp only; rw [hea,take_ix (by omega),List.map_append]; rfl⟩ (dc d4 (dc d5 (dc d6 (dc d7 (dc d8 dn))))) (kc k1 (kd (kd (kd (kd (kd kn)))))) ⟨Z,Z,Z,Z,Z,Z,Z,Z,Z,Z,Z,Z,Z,Z,Z,Z,Z,eqI (by omega),trivial⟩
 have hja : (ix (ix m.Blocks (Int.toNat ab)).Ins k).Args.length ≤ j := by omega
 refine jex (jtx (jtx (jbh (jx (jq (jr (js (jf F37_3 Z) (js (jl k2 O35 Z Z) (js (jla k1 A74 Z74 Z Z Z) (jfz k0 (by omega) (jap U35 I74 (by decide) Z k5 Z (rEvent.M (m := ⟨(ix ((ix m.Blocks (Int.toNat ab)).Ins) k).Imm,ea⟩) (c := ve) d0 (rMach.W_Imm d1)) (by omega) (fun _ => Z) fun v90 _ w26 => ?_)))))))))))
 refine js (jf F37_3 Z) (jst k2 Z35 Z Z w26.one s3 (jn (jx (jq (jr (jm Z (js (jf F24_1 Z) (js (jl k3 O3 Z Z) (js (jig (i := (Int.toNat ((ix ((ix m.Blocks (Int.toNat ab)).Ins) k).D))) U29 Z21 k4 Z Z (by omega) (by omega)) (jsg k4 Z Z21 Z Z Z (by omega) (wI (wl 0)) (jn ?_)))))))))))
 refine jx (jq (jq (jr (jm Z (js (jln U29 d5 Z) (js (jgtr Z Z) (jn (jx ?_))))))))
 refine jif Z (fun hc6 => ?_) (fun hc6 => ?_)
 refine jany false (.a 0 (.a 1 (.a 2 (.a 3 (.a 4 (.a 5 (.a 6 (.a 7 (.o 8 (.o 9 (.a 10 .e))))))))))) Mixed (by kernel_rfl) (kc k4 kn) fun F27 => jy Z (jmv Z) (jy Z (jf F24_1 Z) (jy Z (jl k0 O3 Z Z) (jy Z (jmv Z) (jy Z (jix (i := 0) U29 Z21 d5 Z Z Z (by omega)) (jy Z (jlI (dix d5 0 (by omega)) O21 Z) (jy Z (jmv Z) (jy Z (jslo (lo := 1) U29 Z21 d5 Z Z Z (by omega)) (jyo Z (js (jig (i := (Int.toNat ((ix ((ix m.Blocks (Int.toNat ab)).Ins) k).D))) U29 Z21 k0 Z Z (by omega) (by first | omega | (simp <;> omega))) (jyn d0 (kc k4 kn) ?_))))))))))
 refine jyo Z (jsg k0 Z Z21 Z Z Z (by first | omega | (simp <;> omega)) (wI (wad (dix d7 0 (by omega)))) (jyn d0 (kc k4 kn) (jy Z (jas Z) (jyd (jx (jex (jtx (jbh (jx (jr (js (jadd Z Z (by omega)) ?_)))))))))))
 refine jm Z (jn ?_)
 exact jag (k + 1,List.set (List.set rs2 (Int.toNat ((ix ((ix m.Blocks (Int.toNat ab)).Ins) k).D)) 0) (Int.toNat ((ix ((ix m.Blocks (Int.toNat ab)).Ins) k).D)) (ix an2 0),me2,cl2 ++ [⟨(ix ((ix m.Blocks (Int.toNat ab)).Ins) k).Imm,ea⟩],List.drop 1 an2,s2 + 1,v90,(resl 1 va2 1 (List.length an2))) ⟨by dsimp only; omega,by dsimp only; first | exact ins_callA hI (by omega) hNi h28 hja hea (by omega) | exact ins_callB hI (by omega) hNi h28 hja hea | exact ins_ok hI (by omega) hNi h28 hdo,by dsimp only; first | (rw [List.length_set,List.length_set]; exact hrl2) | (rw [List.length_set]; exact hrl2) | (rw [(stepM_len _ _ _).1]; exact hrl2),by dsimp only; first | exact hml2 | (rw [(stepM_len _ _ _).2]; exact hml2),by dsimp only; omega,by dsimp only; first | (rw [List.length_append]; simp; omega) | omega,by dsimp only; omega⟩ (dc d4 (dc d5 (dc d6 (dc (dlo d7 1 (by omega) (by omega)) dn)))) (kc k0 (kc k4 (kc k1 (kc k0 (kc k2 (kc k2 (kc k2 (kc k2 kn)))))))) ⟨Z,Z,Z,Z,Z,Z,Z,Z,Z,Z,Z,Z,eqI (by omega),trivial⟩
 refine jsk (jx (jex (jtx (jbh (jx (jr (js (jadd Z Z (by omega)) (jm Z (jn ?_)))))))))
 exact jag (k + 1,List.set rs2 (Int.toNat ((ix ((ix m.Blocks (Int.toNat ab)).Ins) k).D)) 0,me2,cl2 ++ [⟨(ix ((ix m.Blocks (Int.toNat ab)).Ins) k).Imm,ea⟩],an2,s2 + 1,v90,va2) ⟨by dsimp only; omega,by dsimp only; first | exact ins_callA hI (by omega) hNi h28 hja hea (by omega) | exact ins_callB hI (by omega) hNi h28 hja hea | exact ins_ok hI (by omega) hNi h28 hdo,by dsimp only; first | (rw [List.length_set,List.length_set]; exact hrl2) | (rw [List.length_set]; exact hrl2) | (rw [(stepM_len _ _ _).1]; exact hrl2),by dsimp only; first | exact hml2 | (rw [(stepM_len _ _ _).2]; exact hml2),by dsimp only; omega,by dsimp only; first | (rw [List.length_append]; simp; omega) | omega,by dsimp only; omega⟩ (dc d2 (dc d3 (dc d4 (dc d5 dn)))) (kc k0 (kc k4 (kc k1 (kc k0 (kc k2 (kc k2 (kc k2 (kc k2 kn)))))))) ⟨Z,Z,Z,Z,Z,Z,Z,Z,Z,Z,Z,Z,eqI (by omega),trivial⟩
 have h28 := hc4
 refine jsk (jx (jq (jr (js (jla k1 A24 Z24 Z Z Z) (jm Z (js (jf F37_2 Z) (js (jl k0 O29 Z Z) (jc E41 Z Z (pDoM_ct (by omega) (by omega)) (dc d0 dn) (kc k2 (kc k4 kn)) (fun _ => p0) (fun _ => p2) fun _ => jm Z (js (jex' Z Z) (js (jex' Z Z) ?_))))))))))
 refine ja Z (ja Z (jn (jx (jq (jr (jm Z (js (jnot Z) (jn (jx ?_)))))))))
 refine jif Z (fun hc7 => ?_) (fun hc7 => ?_)
 refine jq (jr (jm Z (jm Z (jc E39 Z Z (pStop_ct 2 ((stepM (ix ((ix m.Blocks (Int.toNat ab)).Ins) k) rs2 me2).1.1) w1.one w12.one) dn (kc k2 kn) (fun _ => p0) (fun _ => p1) fun _ => jsta k6 Z37 Z Z Z ⟨Z,Z,w1.one,w12.one,Z,trivial⟩ (saf Z) (jn (jx (jrt (jbr (jtr (jtr ?_))))))))))
 refine jbr (jtr (jbr (jtr (jbr (jtr (jso (qfz k3 (by first | omega | (rw [(stepM_len _ _ _).2]; omega)) (qfz k5 (by omega) ?_))))))))
 exact jrcA (val := vOutcome) (b := ⟨2,(stepM (ix ((ix m.Blocks (Int.toNat ab)).Ins) k) rs2 me2).1.1,(stepM (ix ((ix m.Blocks (Int.toNat ab)).Ins) k) rs2 me2).2.2,cl2,s2 + 1⟩) (c := (v24,vc2)) Z Z k0 A37 Z37 Z (by first | exact run_wrong (by simpa using hc1) | exact ins_stop hI (by omega) hc3 | exact ins_trap hI (by omega) hc3 hc4 (by simpa using hc7) | exact end_stop hI (by omega) hc8 | exact end_ret hI (by omega) hc8 hc9 | exact end_trap hI (by omega) hc8 hc9 hc10) (rOutcome.M (m := ⟨2,(stepM (ix ((ix m.Blocks (Int.toNat ab)).Ins) k) rs2 me2).1.1,(stepM (ix ((ix m.Blocks (Int.toNat ab)).Ins) k) rs2 me2).2.2,cl2,s2 + 1⟩) (c := (v24,vc2)) d1 d0 (wl 2) (wp (stepM_wr (ix ((ix m.Blocks (Int.toNat ab)).Ins) k) rs2 me2)) (wp (IntWalk.i64_in (s2 + 1) (by omega))))
 have hdo : (stepM (ix (ix m.Blocks (Int.toNat ab)).Ins k) rs2 me2).1.2 = true := by simpa using hc7
 refine jsk (jbn (jx (jr (js (jadd Z Z (by omega)) (jm Z (jn ?_))))))
 exact jag (k + 1,(stepM (ix ((ix m.Blocks (Int.toNat ab)).Ins) k) rs2 me2).2.1,(stepM (ix ((ix m.Blocks (Int.toNat ab)).Ins) k) rs2 me2).2.2,cl2,an2,s2 + 1,vc2,va2) ⟨by dsimp only; omega,by dsimp only; first | exact ins_callA hI (by omega) hNi h28 hja hea (by omega) | exact ins_callB hI (by omega) hNi h28 hja hea | exact ins_ok hI (by omega) hNi h28 hdo,by dsimp only; first | (rw [List.length_set,List.length_set]; exact hrl2) | (rw [List.length_set]; exact hrl2) | (rw [(stepM_len _ _ _).1]; exact hrl2),by dsimp only; first | exact hml2 | (rw [(stepM_len _ _ _).2]; exact hml2),by dsimp only; omega,by dsimp only; first | (rw [List.length_append]; simp; omega) | omega,by dsimp only; omega⟩ (dc d1 (dc d2 (dc d3 (dc d4 dn)))) (kc k0 (kc k3 (kc k3 (kc k1 (kc k0 (kc k1 (kc k1 (kc k1 kn)))))))) ⟨Z,Z,Z,Z,Z,Z,Z,Z,Z,Z,Z,Z,eqI (by omega),trivial⟩
 refine jex (jtx (jtx (jbh (jx (jq (jq (jr (js (jf F37_4 Z) (js (jl k3 O3 Z Z) (js (jf F31_3 Z) (js (jl k6 O3 Z Z) ?_)))))))))))
 refine js (jgeq Z Z) (jn (jx ?_))
 refine jif Z (fun hc8 => ?_) (fun hc8 => ?_)
 refine jex (jtx (jbo (jtx (jbh (jx (jq (jr (jm Z (jc E39 Z Z (pStop_ct 3 0 w1.one w12.one) dn (kc k3 kn) (fun _ => p0) (fun _ => p1) fun _ => jsta k5 Z37 Z Z Z ⟨Z,Z,w1.one,w12.one,Z,trivial⟩ (saf Z) (jn ?_))))))))))
 refine jx (jrt (jso (qfz k5 (by first | omega | (rw [(stepM_len _ _ _).2]; omega)) (qfz k4 (by omega) ?_))))
 exact jrcA (val := vOutcome) (b := ⟨3,0,me2,cl2,s2⟩) (c := (v24,vc2)) Z Z k0 A37 Z37 Z (by first | exact run_wrong (by simpa using hc1) | exact ins_stop hI (by omega) hc3 | exact ins_trap hI (by omega) hc3 hc4 (by simpa using hc7) | exact end_stop hI (by omega) hc8 | exact end_ret hI (by omega) hc8 hc9 | exact end_trap hI (by omega) hc8 hc9 hc10) (rOutcome.M (m := ⟨3,0,me2,cl2,s2⟩) (c := (v24,vc2)) d1 d0 (wl 3) (wl 0) (wp (IntWalk.i64_in s2 (by omega))))
 have hNe := hc8
 refine jsk (jx (jq (jr (js (jf F37_4 Z) (js (jl k3 O3 Z Z) (js (jadd Z Z (by omega)) (js (jf F37_4 Z) (jst k3 Z3 Z Z Z s4 (jn (jx (jq ?_)))))))))))
 refine jq (jr (js (jf F95_2 Z) (js (jf F88_0 Z) (js (jl k2 O3 Z Z) (jn (jx (jb (jq (jr (js (jeql Z Z) (ja Z ?_)))))))))))
 refine jn (jx ?_)
 refine jif Z (fun hc9 => ?_) (fun hc9 => ?_)
 refine jq (jr (jm Z (jm Z (js (jf F95_2 Z) (js (jf F88_1 Z) (js (jl k2 O3 Z Z) (jc E42 Z Z (Tv.temp 1073741824 (pGet_ct (((ix m.Blocks (Int.toNat ab)).End).A)) (by omega)) dn (kc k1 kn) (fun _ => p0) (fun _ => p1) fun _ => jc E39 Z Z (pStop_ct 1 (getM rs2 (((ix m.Blocks (Int.toNat ab)).End).A)) w1.one w12.one) dn (kc k1 kn) (fun _ => p0) (fun _ => p1) fun _ => jsta k5 Z37 Z Z Z ⟨Z,Z,w1.one,w12.one,Z,trivial⟩ (saf Z) (jn (jx ?_)))))))))
 refine jrt (jbr (jtr (jbr (jtr (jbr (jtr (jso (qfz k5 (by first | omega | (rw [(stepM_len _ _ _).2]; omega)) (qfz k4 (by omega) ?_)))))))))
 exact jrcA (val := vOutcome) (b := ⟨1,getM rs2 (((ix m.Blocks (Int.toNat ab)).End).A),me2,cl2,s2 + 1⟩) (c := (v24,vc2)) Z Z k0 A37 Z37 Z (by first | exact run_wrong (by simpa using hc1) | exact ins_stop hI (by omega) hc3 | exact ins_trap hI (by omega) hc3 hc4 (by simpa using hc7) | exact end_stop hI (by omega) hc8 | exact end_ret hI (by omega) hc8 hc9 | exact end_trap hI (by omega) hc8 hc9 hc10) (rOutcome.M (m := ⟨1,getM rs2 (((ix m.Blocks (Int.toNat ab)).End).A),me2,cl2,s2 + 1⟩) (c := (v24,vc2)) d1 d0 (wl 1) (wgt k2 (((ix m.Blocks (Int.toNat ab)).End).A)) (wp (IntWalk.i64_in (s2 + 1) (by omega))))
 have h7 := hc9
 refine jq (jr (js (jeql Z Z) (ja Z (jn (jx ?_)))))
 refine jif Z (fun hc10 => ?_) (fun hc10 => ?_)
 refine jq (jr (jm Z (js (jf F95_2 Z) (js (jf F88_4 Z) (js (jl k2 O21 Z Z) (jc E39 Z Z (pStop_ct 2 (((ix m.Blocks (Int.toNat ab)).End).Imm) w1.one w12.one) dn (kc k0 kn) (fun _ => p0) (fun _ => p1) fun _ => jsta k5 Z37 Z Z Z ⟨Z,Z,w1.one,w12.one,Z,trivial⟩ (saf Z) (jn (jx (jrt (jbr ?_))))))))))
 refine jtr (jbr (jtr (jbr (jtr (jso (qfz k5 (by first | omega | (rw [(stepM_len _ _ _).2]; omega)) (qfz k4 (by omega) ?_)))))))
 exact jrcA (val := vOutcome) (b := ⟨2,((ix m.Blocks (Int.toNat ab)).End).Imm,me2,cl2,s2 + 1⟩) (c := (v24,vc2)) Z Z k0 A37 Z37 Z (by first | exact run_wrong (by simpa using hc1) | exact ins_stop hI (by omega) hc3 | exact ins_trap hI (by omega) hc3 hc4 (by simpa using hc7) | exact end_stop hI (by omega) hc8 | exact end_ret hI (by omega) hc8 hc9 | exact end_trap hI (by omega) hc8 hc9 hc10) (rOutcome.M (m := ⟨2,((ix m.Blocks (Int.toNat ab)).End).Imm,me2,cl2,s2 + 1⟩) (c := (v24,vc2)) d1 d0 (wl 2) (rMBlock.W_End_Imm d2) (wp (IntWalk.i64_in (s2 + 1) (by omega))))
 have h8 := hc10
 have htm := ix_mem (l := (ix m.Blocks (Int.toNat ab)).End.To) (i := Int.toNat (goesM (ix m.Blocks (Int.toNat ab)).End rs2)) (by have := hW.goes hat rs2 hc9 hc10; omega)
 refine jsk (jbn (jx (jany false (.a 0 (.a 1 (.a 2 (.a 3 (.a 4 (.a 5 (.a 6 (.o 7 (.a 8 (.a 9 (.a 10 (.a 11 .e)))))))))))) Mixed (by kernel_rfl) (kc k2 kn) fun F38 => jy Z (jmv Z) (jy Z (jf F95_2 Z) (jy Z (jf F88_3 Z) (jy Z (jl k0 O22 Z Z) (jy Z (jf F95_2 Z) (jy Z (jla k0 A88 Z88 Z Z Z) (jy Z (jmv Z) (jyo Z ?_))))))))))
 refine jc E43 Z Z (Tv.temp1 1073741824 pGoes_ct (by omega)) (dc (rMBlock.P_End d1) dn) (kc k1 kn) (fun _ => p0) (fun _ => p1) fun _ => jyn d0 (kc k2 kn) ?_
 have hgo : 0 ≤ goesM ((ix m.Blocks (Int.toNat ab)).End) rs2 ∧ goesM ((ix m.Blocks (Int.toNat ab)).End) rs2 < (ix m.Blocks (Int.toNat ab)).End.To.length := hW.goes hat rs2 hc9 hc10
 refine jy Z (jix (i := (Int.toNat (goesM ((ix m.Blocks (Int.toNat ab)).End) rs2))) U22 Z3 (rMBlock.cT d0) Z Z (by omega) (by omega)) (jy Z (jlI (dix (rMBlock.cT d0) (Int.toNat (goesM ((ix m.Blocks (Int.toNat ab)).End) rs2)) (by omega)) O3 Z) (jy Z (jas Z) (jy Z (jas Z) (jyd (jbn ?_)))))
 exact jag (f - 1,ix (((ix m.Blocks (Int.toNat ab)).End).To) (Int.toNat (goesM ((ix m.Blocks (Int.toNat ab)).End) rs2)),ab,rs2,me2,cl2,an2,s2 + 1,vc2,va2) ⟨by dsimp only; omega,end_go hI (by omega) hNe h7 h8,by dsimp only; exact (hW.from1 hat htm).1,by dsimp only; exact (hW.from1 hat htm).2,hrl2,hml2,by dsimp only; omega,by dsimp only; omega,by dsimp only; omega,by dsimp only; omega⟩ (dc d2 (dc d3 (dc d4 dn))) (kc k3 (kd (kc k1 (kc k1 (kc k1 (kc k1 kn)))))) ⟨Z,Z,Z,Z,Z,Z,Z,Z,Z,trivial⟩
structure D.Go7 where
 E : Int
 Block : Int
 Place : Int
deriving DecidableEq
instance : Inhabited D.Go7 := ⟨⟨0,0,0⟩⟩
section
variable {e : D.End} {n : Int}
end
section
variable {m : D.MFunc} {a b c : Int}
end
section
variable {bs : List D.MBlock} {i j : Nat} {se se2 : List Bool} {l l2 : List Int}
end
section
variable {m : D.MFunc} {k : Nat}
end
theorem predsT_nodup (bs : List D.MBlock) (k : Nat) (b : Int) : (predsT bs k b).Nodup := by
 unfold predsT
 exact List.Pairwise.map _ (fun a b hab h => hab (Int.ofNat_inj.1 h)) (List.Pairwise.filter _ List.nodup_range)
theorem WFm.nodup {m : D.MFunc} (hw : WFm m) {k : Nat} (hk : k < m.Blocks.length) : ∀ p ∈ (ix m.Blocks k).Phis,(p.In.map (·.From)).Nodup := by
 intro p hp
 obtain ⟨_,h3,_⟩ := hw.phi k hk p hp
 rw [h3]; exact predsT_nodup _ _ _
section
variable {N : Int} {K : List Int → List Int → List D.Event → List Int → Int → D.Outcome} {O : D.Outcome} {I : List D.Mach} {k j na : Nat} {rs me A ea : List Int} {cl : List D.Event} {s : Int}
end
section
variable {a b : D.Outcome}
end
theorem E15 : Ent Tryz.prog 15 := ⟨_,Tryz.func15,by kernel_rfl,by kernel_rfl⟩
structure BV where
 P : Value
 I : Value
 T : D.Term
instance : Inhabited BV := ⟨⟨.slice none 0 0,.slice none 0 0,default⟩⟩
def rBV : Rp BV := rM (rP rV (rP rV rTerm)) (fun m => (m.P,m.I,m.T))
abbrev bkL (B : Nat) (v : Value) (qs : List BV) (bs : List D.Block) : List Res := [gl B rBV 62 v qs,rw' B rPhi 65 (qs.map BV.P) (bs.map D.Block.Phis),rw' B rIns 67 (qs.map BV.I) (bs.map D.Block.Ins)]
abbrev bkF (qs : List BV) (bs : List D.Block) : Prop := qs.length = bs.length ∧ qs.map BV.T = bs.map D.Block.Term
def bk (B : Nat) (v : Value) (qs : List BV) (bs : List D.Block) : Res where
 sat F H := bkF qs bs ∧ Ok F H (bkL B v qs bs)
 own := Own (bkL B v qs bs)
 lt := fun h => Ok.lt h.2
 no := fun h => Ok.no h.2
 st := fun hl hs h1 h2 h => ⟨h.1,Ok.st hl hs h1 h2 h.2⟩
section
variable {P : Program} {D0 Γ : List Dt} {L M N L0 : List Res} {e : Env} {X : Cx} {n : Fs} {w0 : World} {Q : Exit → Act → World → Prop} {F G : PH} {H : Heap} {B j i o : Nat} {v u v' : Value} {qs : List BV} {bs : List D.Block} {q' : BV} {b' : D.Block}
theorem hp_bko (h : Hp X Γ (bk B v qs bs :: M) F H) : bkF qs bs ∧ Hp X Γ (bkL B v qs bs ++ M) F H :=
 ⟨h.ok.1.1,⟨h.hx,h.hin,h.hw,h.hd,Ok.app h.ok.1.2 h.ok.2.2 h.ok.2.1,fun k hk => h.ge k ((Own.app.1 hk).imp id id)⟩⟩
theorem hp_bkc (hf : bkF qs bs) (h : Hp X Γ (bkL B v qs bs ++ M) F H) : Hp X Γ (bk B v qs bs :: M) F H := by
 obtain ⟨a,b,c⟩ := Ok.un.2 h.ok
 exact ⟨h.hx,h.hin,h.hw,h.hd,⟨⟨hf,a⟩,b,c⟩,fun k hk => h.ge k (Own.app.2 (hk.imp id id))⟩
theorem ix_map {α β : Type} [Inhabited α] [Inhabited β] (f : α → β) {l : List α} {i : Nat} (h : i < l.length) (z : β) : (l.map f).getD i z = f (ix l i) := by simp [ix,List.getD,h]
theorem map_same {α β : Type} [Inhabited α] (f : α → β) {l : List α} {i : Nat} {a : α} (h : i < l.length) (e : f a = f (ix l i)) : (l.set i a).map f = l.map f := by
 rw [List.map_set,e]
 apply List.ext_getElem (by simp)
 intro k h1 h2
 by_cases h3 : i = k
 · subst h3; simp [ix_eq h]
 · rw [List.getElem_set_ne h3]
theorem jbh0 {T : TypeId} {x : Operand} (hk : Tk L (bk B v qs bs) M) (h1 : j < bs.length) (hT : One P T) (hx : ev e x = some (.pointer (some ⟨vblk v,o,none⟩))) (ho : o = voff v + j * 6 + 0) : OH P Γ L e (.load T x) (ix qs j).P := fun F H _ _ h => by
 have h2 := (hk.ok h).1
 obtain ⟨f,h3,h4⟩ := h2.2.1.1.cellP (off := 0) (i := j) (by rw [h2.1.1]; exact h1) (by decide)
 have h5 : f 0 = (ix qs j).P := h3.1.1
 rw [h5] at h4
 exact OpOk.load hT hx rfl (by rw [ho]; exact h4)
theorem jbh1 {T : TypeId} {x : Operand} (hk : Tk L (bk B v qs bs) M) (h1 : j < bs.length) (hT : One P T) (hx : ev e x = some (.pointer (some ⟨vblk v,o,none⟩))) (ho : o = voff v + j * 6 + 1) : OH P Γ L e (.load T x) (ix qs j).I := fun F H _ _ h => by
 have h2 := (hk.ok h).1
 obtain ⟨f,h3,h4⟩ := h2.2.1.1.cellP (off := 1) (i := j) (by rw [h2.1.1]; exact h1) (by decide)
 have h5 : f 1 = (ix qs j).I := h3.2.1.1
 rw [h5] at h4
 exact OpOk.load hT hx rfl (by rw [ho]; exact h4)
def hole0 (j B : Nat) (v : Value) (qs : List BV) (bs : List D.Block) : Res where
 sat F H := bkF qs bs ∧ Ok F H [gl B rBV 62 v qs,hole j B rPhi 65 (qs.map BV.P) (bs.map D.Block.Phis),rw' B rIns 67 (qs.map BV.I) (bs.map D.Block.Ins)]
 own := Own [gl B rBV 62 v qs,hole j B rPhi 65 (qs.map BV.P) (bs.map D.Block.Phis),rw' B rIns 67 (qs.map BV.I) (bs.map D.Block.Ins)]
 lt := fun h => Ok.lt h.2
 no := fun h => Ok.no h.2
 st := fun hl hs h1 h2 h => ⟨h.1,Ok.st hl hs h1 h2 h.2⟩
def hole1 (j B : Nat) (v : Value) (qs : List BV) (bs : List D.Block) : Res where
 sat F H := bkF qs bs ∧ Ok F H [gl B rBV 62 v qs,rw' B rPhi 65 (qs.map BV.P) (bs.map D.Block.Phis),hole j B rIns 67 (qs.map BV.I) (bs.map D.Block.Ins)]
 own := Own [gl B rBV 62 v qs,rw' B rPhi 65 (qs.map BV.P) (bs.map D.Block.Phis),hole j B rIns 67 (qs.map BV.I) (bs.map D.Block.Ins)]
 lt := fun h => Ok.lt h.2
 no := fun h => Ok.no h.2
 st := fun hl hs h1 h2 h => ⟨h.1,Ok.st hl hs h1 h2 h.2⟩
theorem hp_re {L2 : List Res} (h : Hp X Γ L F H) (ho : Ok F H L → Ok F H L2) (hw : ∀ k,Own L2 k → Own L k) : Hp X Γ L2 F H := ⟨h.hx,h.hin,h.hw,h.hd,ho h.ok,fun k hk => h.ge k (hw k hk)⟩
theorem hp_tks {Ls : List Res} (h : Hp X Γ L F H) (hk : Tks L Ls M) : Hp X Γ (Ls ++ M) F H := hp_re h (fun o => by obtain ⟨a,b,c⟩ := hk.ok o; exact Ok.app a b c) (fun k hk' => hk.own (Own.app.1 hk'))
theorem hp_box {R : Res} {Ls : List Res} (h : Hp X Γ (R :: (Ls ++ M)) F H) : Hp X Γ (R :: it Ls :: M) F H := by
 obtain ⟨a,b,c⟩ := h.ok
 exact ⟨h.hx,h.hin,h.hw,h.hd,⟨a,fun k hk ho => b k hk (Own.app.2 ho),Ok.un.2 c⟩,fun k hk => h.ge k (hk.imp id Own.app.2)⟩
theorem hp_unbox {R : Res} {Ls : List Res} (h : Hp X Γ (R :: it Ls :: M) F H) : Hp X Γ (R :: (Ls ++ M)) F H := by
 obtain ⟨a,b,c⟩ := h.ok
 exact ⟨h.hx,h.hin,h.hw,h.hd,⟨a,fun k hk ho => b k hk (Own.app.1 ho),Ok.un.1 c⟩,fun k hk => h.ge k (hk.imp id Own.app.1)⟩
variable {ops : Array Oper} {rest : List Oper} {ty : TypeId} {pos : String} {af : Array Edge}
theorem jbf0 (j : Nat) (hk : Tk L (bk B v qs bs) M) (h1 : j < bs.length) (k : LH P n w0 ops Q X Γ (gl B rPhi 65 (ix qs j).P (ix bs j).Phis :: hole0 j B v qs bs :: M) e rest) : LH P n w0 ops Q X Γ L e rest := fun F H hp => by
 obtain ⟨hf,h2⟩ := hp_bko (hp.front hk)
 have hl : j < qs.length := by rw [hf.1]; exact h1
 have h3 := h2.row (k1 : Tk _ (rw' B rPhi 65 (qs.map BV.P) (bs.map D.Block.Phis)) _) (i := j) (by simpa using hl) (by simpa using h1)
 rw [ix_map BV.P hl,ix_map D.Block.Phis h1] at h3
 have h4 := hp_tks h3 (kc k0 (kc k1 (kd kn)))
 obtain ⟨a,b,x,y,z⟩ := (hp_box (Ls := [_,_,_]) h4).ok
 exact k F H ⟨h4.hx,h4.hin,h4.hw,h4.hd,⟨a,b,⟨hf,x⟩,y,z⟩,(hp_box (Ls := [_,_,_]) h4).ge⟩
theorem jbf1 (j : Nat) (hk : Tk L (bk B v qs bs) M) (h1 : j < bs.length) (k : LH P n w0 ops Q X Γ (gl B rIns 67 (ix qs j).I (ix bs j).Ins :: hole1 j B v qs bs :: M) e rest) : LH P n w0 ops Q X Γ L e rest := fun F H hp => by
 obtain ⟨hf,h2⟩ := hp_bko (hp.front hk)
 have hl : j < qs.length := by rw [hf.1]; exact h1
 have h3 := h2.row (k2 : Tk _ (rw' B rIns 67 (qs.map BV.I) (bs.map D.Block.Ins)) _) (i := j) (by simpa using hl) (by simpa using h1)
 rw [ix_map BV.I hl,ix_map D.Block.Ins h1] at h3
 have h4 := hp_tks h3 (kc k0 (kc k1 (kc k1 (kc k0 kn))))
 obtain ⟨a,b,x,y,z⟩ := (hp_box (Ls := [_,_,_]) h4).ok
 exact k F H ⟨h4.hx,h4.hin,h4.hw,h4.hd,⟨a,b,⟨hf,x⟩,y,z⟩,(hp_box (Ls := [_,_,_]) h4).ge⟩
theorem putP {m : BV} {f : Nat → Value} (h1 : u.oneCell' = true) (h : rBV.ok F m f) : rBV.ok F { m with P := u } (putf 0 [u] f) :=
 ⟨⟨rfl,h1⟩,⟨h.2.1.1,h.2.1.2⟩,rTerm.ext (fun i _ => by show _ = putf 0 [u] f (i + 1 + 1); unfold putf; rw [if_neg (by simp)]; rfl) h.2.2⟩
theorem putI {m : BV} {f : Nat → Value} (h1 : u.oneCell' = true) (h : rBV.ok F m f) : rBV.ok F { m with I := u } (putf 1 [u] f) :=
 ⟨⟨h.1.1,h.1.2⟩,⟨rfl,h1⟩,rTerm.ext (fun i _ => by show _ = putf 1 [u] f (i + 1 + 1); unfold putf; rw [if_neg (by simp)]; rfl) h.2.2⟩
theorem putT {m : BV} {f : Nat → Value} {us : List Value} {t : D.Term} (hl : us.length = 4) (ht : rTerm.ok F t (fun i => us.getD i undef)) (h : rBV.ok F m f) : rBV.ok F { m with T := t } (putf 2 us f) :=
 ⟨⟨by show putf 2 us f 0 = _; unfold putf; rw [if_neg (by simp)]; exact h.1.1,h.1.2⟩,⟨by show putf 2 us f 1 = _; unfold putf; rw [if_neg (by simp)]; exact h.2.1.1,h.2.1.2⟩,
  rTerm.ext (fun i hi => by
   have hi : i < 4 := hi
   show _ = putf 2 us f (i + 1 + 1); unfold putf; rw [if_pos (by omega)]; rfl) ht⟩
theorem putTo {m : BV} {f : Nat → Value} {l : List Int} (hu : (rL (rI .i64)).rv F u l) (h : rBV.ok F m f) : rBV.ok F { m with T := { m.T with To := l } } (putf 4 [u] f) :=
 ⟨⟨h.1.1,h.1.2⟩,⟨h.2.1.1,h.2.1.2⟩,⟨h.2.2.1.1,h.2.2.1.2⟩,(rL (rI .i64)).ext (fun i hi => by rw [show i = 0 from Nat.lt_one_iff.1 hi]; rfl) h.2.2.2.1,(rL (rI .i64)).ext (fun i hi => by rw [show i = 0 from Nat.lt_one_iff.1 hi]; rfl) hu,⟨h.2.2.2.2.2.1,h.2.2.2.2.2.2⟩⟩
theorem bkF_set (hf : bkF qs bs) (h1 : j < bs.length) (e : q'.T = b'.Term) : bkF (qs.set j q') (bs.set j b') := ⟨by simp [hf.1],by rw [List.map_set,List.map_set,hf.2,e]⟩
theorem jbs1 {T : TypeId} {x y : Operand} {l' : List D.Ins} (hk : Tk L (gl B rIns 67 v' l') M) (hk2 : Tk M (hole1 j B v qs bs) N) (h1 : j < bs.length) (hT : Sz P T 1) (hx : ev e x = some (.pointer (some ⟨vblk v,o,none⟩))) (ho : o = voff v + j * 6 + 1) (hy : ev e y = some v') (hv : v'.oneCell' = true)
   (k : LH P n w0 ops Q X Γ (bk B v (qs.set j { (ix qs j) with I := v' }) (bs.set j { (ix bs j) with Ins := l' }) :: N) e rest) : LH P n w0 ops Q X Γ L e (⟨none,.store T x y,ty,pos,af,none⟩ :: rest) := fun F H hp => by
 have h3 := hp_tks hp (kc hk (kc hk2 kn))
 have hf : bkF qs bs := h3.ok.2.2.1.1
 have h4 : Hp X Γ (gl B rIns 67 v' l' :: gl B rBV 62 v qs :: rw' B rPhi 65 (qs.map BV.P) (bs.map D.Block.Phis) :: hole j B rIns 67 (qs.map BV.I) (bs.map D.Block.Ins) :: N) F H :=
   hp_unbox (Ls := [_,_,_]) ⟨h3.hx,h3.hin,h3.hw,h3.hd,⟨h3.ok.1,h3.ok.2.1,h3.ok.2.2.1.2,h3.ok.2.2.2⟩,h3.ge⟩
 have hl : j < qs.length := by rw [hf.1]; exact h1
 refine LF.chg0 (OpCh.storeP (h4.at k1).1 hl hT hx ho hy hv (by decide) (fun f => putI hv)) ?_
 rintro _ H' ⟨g,hg,t,hb⟩
 have h5 := h4.set (R' := gl B rBV 62 v (qs.set j { (ix qs j) with I := v' })) k1 ⟨Nat.le_of_eq t.1.symm,fun k _ h2 => t.2 k (fun e1 => h2 (e1 ▸ hg))⟩ ⟨hb,by rw [t.1]; exact hp1 h4 k1⟩ (fun k h => .inr h)
 have h6 := (hp_tks h5 (kc k1 (kc k2 (kd kn)))).unrow (by simpa using hl) (by simpa using h1)
 rw [show (List.map BV.I qs).set j v' = List.map BV.I (qs.set j { (ix qs j) with I := v' }) by rw [List.map_set],show (List.map D.Block.Ins bs).set j l' = List.map D.Block.Ins (bs.set j { (ix bs j) with Ins := l' }) by rw [List.map_set],
   ← map_same BV.P (a := { (ix qs j) with I := v' }) hl rfl,← map_same D.Block.Phis (a := { (ix bs j) with Ins := l' }) h1 rfl] at h6
 exact k F H' (hp_bkc (bkF_set hf h1 (by
   have := congrArg (fun l => l.getD j default) hf.2
   rwa [ix_map BV.T hl,ix_map D.Block.Term h1] at this)) (hp_tks h6 (kc k1 (kc k1 (kc k0 kn)))))
theorem jbs0 {T : TypeId} {x y : Operand} {l' : List D.Phi} (hk : Tk L (gl B rPhi 65 v' l') M) (hk2 : Tk M (hole0 j B v qs bs) N) (h1 : j < bs.length) (hT : Sz P T 1) (hx : ev e x = some (.pointer (some ⟨vblk v,o,none⟩))) (ho : o = voff v + j * 6 + 0) (hy : ev e y = some v') (hv : v'.oneCell' = true)
   (k : LH P n w0 ops Q X Γ (bk B v (qs.set j { (ix qs j) with P := v' }) (bs.set j { (ix bs j) with Phis := l' }) :: N) e rest) : LH P n w0 ops Q X Γ L e (⟨none,.store T x y,ty,pos,af,none⟩ :: rest) := fun F H hp => by
 have h3 := hp_tks hp (kc hk (kc hk2 kn))
 have hf : bkF qs bs := h3.ok.2.2.1.1
 have h4 : Hp X Γ (gl B rPhi 65 v' l' :: gl B rBV 62 v qs :: hole j B rPhi 65 (qs.map BV.P) (bs.map D.Block.Phis) :: rw' B rIns 67 (qs.map BV.I) (bs.map D.Block.Ins) :: N) F H :=
   hp_unbox (Ls := [_,_,_]) ⟨h3.hx,h3.hin,h3.hw,h3.hd,⟨h3.ok.1,h3.ok.2.1,h3.ok.2.2.1.2,h3.ok.2.2.2⟩,h3.ge⟩
 have hl : j < qs.length := by rw [hf.1]; exact h1
 refine LF.chg0 (OpCh.storeP (h4.at k1).1 hl hT hx ho hy hv (by decide) (fun f => putP hv)) ?_
 rintro _ H' ⟨g,hg,t,hb⟩
 have h5 := h4.set (R' := gl B rBV 62 v (qs.set j { (ix qs j) with P := v' })) k1 ⟨Nat.le_of_eq t.1.symm,fun k _ h2 => t.2 k (fun e1 => h2 (e1 ▸ hg))⟩ ⟨hb,by rw [t.1]; exact hp1 h4 k1⟩ (fun k h => .inr h)
 have h6 := (hp_tks h5 (kc k1 (kc k1 (kd kn)))).unrow (by simpa using hl) (by simpa using h1)
 rw [show (List.map BV.P qs).set j v' = List.map BV.P (qs.set j { (ix qs j) with P := v' }) by rw [List.map_set],show (List.map D.Block.Phis bs).set j l' = List.map D.Block.Phis (bs.set j { (ix bs j) with Phis := l' }) by rw [List.map_set],
   ← map_same BV.I (a := { (ix qs j) with P := v' }) hl rfl,← map_same D.Block.Ins (a := { (ix bs j) with Phis := l' }) h1 rfl] at h6
 exact k F H' (hp_bkc (bkF_set hf h1 (by
   have := congrArg (fun l => l.getD j default) hf.2
   rwa [ix_map BV.T hl,ix_map D.Block.Term h1] at this)) (hp_tks h6 (kc k1 (kd kn))))
theorem jbw0 {c : LH P n w0 ops Q X Γ (bk B v qs (bs.set j b') :: N) e rest} (hk : Tk L (gl B rPhi 65 (ix qs j).P b'.Phis) M) (hk2 : Tk M (hole0 j B v qs bs) N) (h1 : j < bs.length) (hI : b'.Ins = (ix bs j).Ins) (hT : b'.Term = (ix bs j).Term) : LH P n w0 ops Q X Γ L e rest := fun F H hp => by
 have h3 := hp_tks hp (kc hk (kc hk2 kn))
 have hf : bkF qs bs := h3.ok.2.2.1.1
 have h4 : Hp X Γ (gl B rPhi 65 (ix qs j).P b'.Phis :: gl B rBV 62 v qs :: hole j B rPhi 65 (qs.map BV.P) (bs.map D.Block.Phis) :: rw' B rIns 67 (qs.map BV.I) (bs.map D.Block.Ins) :: N) F H :=
   hp_unbox (Ls := [_,_,_]) ⟨h3.hx,h3.hin,h3.hw,h3.hd,⟨h3.ok.1,h3.ok.2.1,h3.ok.2.2.1.2,h3.ok.2.2.2⟩,h3.ge⟩
 have hl : j < qs.length := by rw [hf.1]; exact h1
 have h6 := (hp_tks h4 (kc k0 (kc k1 (kd kn)))).unrow (by simpa using hl) (by simpa using h1)
 rw [← ix_map BV.P hl undef,set_same,show (List.map D.Block.Phis bs).set j b'.Phis = List.map D.Block.Phis (bs.set j b') by rw [List.map_set],
   ← map_same D.Block.Ins (a := b') h1 hI] at h6
 exact c F H (hp_bkc ⟨by simp [hf.1],by rw [hf.2,map_same D.Block.Term h1 hT]⟩ (hp_tks h6 (kc k1 (kd kn))))
theorem hp_term {H' : Heap} {t : D.Term} (hp : Hp X Γ L F H) (hk : Tk L (bk B v qs bs) M) (h1 : j < bs.length)
   (hs : Gl rBV 62 F H B v qs → ∃ g,v.ownBlock = some g ∧ Tw g H H' ∧ Gl rBV 62 F H' B v (qs.set j { (ix qs j) with T := t })) : Hp X Γ (bk B v (qs.set j { (ix qs j) with T := t }) (bs.set j { (ix bs j) with Term := t }) :: M) F H' := by
 obtain ⟨hf,h4⟩ := hp_bko (hp.front hk)
 have hl : j < qs.length := by rw [hf.1]; exact h1
 obtain ⟨g,hg,t',hb⟩ := hs (h4.at k0).1
 have h5 := h4.set (R' := gl B rBV 62 v (qs.set j { (ix qs j) with T := t })) k0 ⟨Nat.le_of_eq t'.1.symm,fun k _ h2 => t'.2 k (fun e1 => h2 (e1 ▸ hg))⟩ ⟨hb,by rw [t'.1]; exact hp1 h4 k0⟩ (fun k h => .inr h)
 rw [← map_same BV.P (a := { (ix qs j) with T := t }) hl rfl,← map_same BV.I (a := { (ix qs j) with T := t }) hl rfl,← map_same D.Block.Phis (a := { (ix bs j) with Term := t }) h1 rfl,← map_same D.Block.Ins (a := { (ix bs j) with Term := t }) h1 rfl] at h5
 exact hp_bkc (bkF_set hf h1 rfl) h5
theorem jbT {T : TypeId} {x y : Operand} {us : List Value} {t : D.Term} (hk : Tk L (bk B v qs bs) M) (h1 : j < bs.length) (hT : Sz P T 4) (hx : ev e x = some (.pointer (some ⟨vblk v,o,none⟩))) (ho : o = voff v + j * 6 + 2) (hy : ev e y = some (.agg us.toArray)) (hu : us.length = 4) (hv : allOne us) (ht : Nd Γ L (da rTerm (.agg us.toArray) t))
   (k : LH P n w0 ops Q X Γ (bk B v (qs.set j { (ix qs j) with T := t }) (bs.set j { (ix bs j) with Term := t }) :: M) e rest) : LH P n w0 ops Q X Γ L e (⟨none,.store T x y,ty,pos,af,none⟩ :: rest) := fun F H hp => by
 have hq := (hp.at hk)
 have ht' := ht F H hp.hin hp.hd hp.ok
 obtain ⟨l',e1,_,h3⟩ := ht'
 injection e1 with e1; have e1 : us = l' := by simpa using e1
 subst e1
 exact LF.chg0 (OpCh.storePA hq.2.1.1 (by rw [hq.1.1]; exact h1) hT hx ho hy hu hv.mem (by decide) (by rw [hu]; decide) (fun f => putT hu h3)) (by rintro _ H' h4; exact k F H' (hp_term hp hk h1 fun _ => h4))
theorem jbTo {T : TypeId} {x y : Operand} {l : List Int} (hk : Tk L (bk B v qs bs) M) (h1 : j < bs.length) (hT : Sz P T 1) (hx : ev e x = some (.pointer (some ⟨vblk v,o,none⟩))) (ho : o = voff v + j * 6 + 2 + 2) (hy : ev e y = some u) (hv : u.oneCell' = true) (ht : Nd Γ L (dv (rL (rI .i64)) u l))
   (k : LH P n w0 ops Q X Γ (bk B v (qs.set j { (ix qs j) with T := { (ix bs j).Term with To := l } }) (bs.set j { (ix bs j) with Term := { (ix bs j).Term with To := l } }) :: M) e rest) : LH P n w0 ops Q X Γ L e (⟨none,.store T x y,ty,pos,af,none⟩ :: rest) := fun F H hp => by
 have hq := (hp.at hk)
 have hl : j < qs.length := by rw [hq.1.1]; exact h1
 have he : (ix qs j).T = (ix bs j).Term := by
   have := congrArg (fun l => l.getD j default) hq.1.2
   rwa [ix_map BV.T hl,ix_map D.Block.Term h1] at this
 exact LF.chg0 (OpCh.storeP hq.2.1.1 hl hT hx (off := 4) (by rw [ho,Nat.add_assoc]; rfl) hy hv (by decide) (fun f h => he ▸ putTo (ht F H hp.hin hp.hd hp.ok) h)) (by rintro _ H' h4; exact k F H' (hp_term hp hk h1 fun _ => h4))
theorem own_rep {α : Type} {r : Rp α} {T k : Nat} {B : Nat} : ∀ m,¬ Own (rws B r T (List.replicate m (.slice none 0 0)) (List.replicate m [])) k
 | 0 => id
 | m + 1 => fun h => h.elim (fun h => by cases h) (own_rep m)
theorem ok_rep {α : Type} {r : Rp α} {T : Nat} {B : Nat} (hB : B ≤ H.size) : ∀ m,Ok F H (rws B r T (List.replicate m (.slice none 0 0)) (List.replicate m []))
 | 0 => trivial
 | m + 1 => ⟨⟨Gl.nil _ _ _,hB⟩,(fun k h => by cases h),ok_rep hB m⟩
theorem jbmk {T : TypeId} {x y : Operand} {z : Value} {bytes m d : Nat} {I J : Int} (hT : P.underlying T = some (.slice 62)) (hE : (P.info? 62).map (fun i => (i.zero,i.size,i.bytes)) = some (some z,6,bytes)) (hz : z.cells = #[.slice none 0 0,.slice none 0 0,.int .i64 0,.slice none 0 0,.slice none 0 0,.int .i32 0])
   (hx : ev e x = some (.int .i64 I)) (hy : ev e y = some (.int .i64 J)) (hI : I = m) (hJ : J = m) (h1 : bytes * m ≤ 281474976710656 ∧ m ≤ 140737488355328)
   (k : ∀ g,LH P n w0 ops Q X Γ (bk X.n (.slice (some ⟨g,0,none⟩) m m) (List.replicate m default) (List.replicate m default) :: L) ((d,.slice (some ⟨g,0,none⟩) m m) :: e) rest) (hd : Nat.blt d n.sz = true := by rfl) : LH P n w0 ops Q X Γ L e (⟨some d,.makeSlice T x y,ty,pos,af,none⟩ :: rest) := fun F H hp =>
 LF.chg (OpCh.makeN (F := F) (r := rBV) (n := m) (a := default) hT hE (by rw [hz]; rfl) (by decide) hx hy hI hJ h1.1 h1.2 (by rw [hz]; exact ⟨⟨rfl,rfl⟩,⟨rfl,rfl⟩,⟨rfl,rfl⟩,rL.nil _,rL.nil _,rfl,rfl⟩)) (by
   rintro _ H' ⟨g,rfl,eg,sg,kg,hb⟩
   refine k g F H' (hp.new (R := bk X.n (.slice (some ⟨g,0,none⟩) m m) (List.replicate m default) (List.replicate m default)) kg ⟨⟨by simp,by simp; exact .inr rfl⟩,?_⟩ ?_)
   · have hB : X.n ≤ H'.size := Nat.le_trans hp.hw.1 kg.1
     refine ⟨⟨(hb hp.hin).base hp.hw.1,hB⟩,fun k _ ho => ?_,?_,fun k ho => ?_,?_,fun _ _ h => h,trivial⟩
     · simp only [List.map_replicate] at ho
       exact ho.elim (fun h => own_rep m h) (fun h => h.elim (fun h => own_rep m h) id)
     · rw [List.map_replicate,List.map_replicate]; exact ok_rep hB m
     · rw [List.map_replicate,List.map_replicate] at ho; exact (own_rep m ho).elim
     · rw [List.map_replicate,List.map_replicate]; exact ok_rep hB m
   · rintro k (h | h | h | h)
     · exact ((hb hp.hin).blk k h).1
     · rw [List.map_replicate,List.map_replicate] at h; exact (own_rep m h).elim
     · rw [List.map_replicate,List.map_replicate] at h; exact (own_rep m h).elim
     · exact h.elim) hd
abbrev lensB (bs : List D.Block) : Prop := bs.length < 1073741824 ∧ ∀ b ∈ bs,b.Phis.length < 1073741824 ∧ b.Ins.length < 1073741824
theorem bk_freeze (hin : InH F H) (h : (bk B v qs bs).sat F H) (hl : lensB bs) : ∃ G,F.le G ∧ InH G H ∧ (∀ k,k < B → G k = F k) ∧ (∀ k,¬ (bk B v qs bs).own k → G k = F k) ∧ (rL rBlock).rv G v bs := by
 obtain ⟨hf,o1,o2,o3,o4,o5,_⟩ := h
 have o1' : Gl rBV 62 F H B v qs := o1.1
 obtain ⟨G,f1,f2,f3,f4,f5⟩ := o1'.freeze (N := 1073741824) hin (by rw [hf.1]; exact hl.1)
 have q3 : Ok G H (rws B rPhi 65 (qs.map BV.P) (bs.map D.Block.Phis)) := Ok.st f1 (Nat.le_refl _) (fun k hk => (f4 k (fun e1 => o2 k e1 (.inl hk))).trans (Ok.no (L := rws B rPhi 65 (qs.map BV.P) (bs.map D.Block.Phis)) o3 hk)) (fun _ _ => rfl) o3
 obtain ⟨K,g1,g2,g3,g4,g5⟩ := rws_freeze f2 q3 (by simp [hf.1]) (fun l hl' => by obtain ⟨b,hb,rfl⟩ := List.mem_map.1 hl'; exact (hl.2 b hb).1)
 have q5 : Ok K H (rws B rIns 67 (qs.map BV.I) (bs.map D.Block.Ins)) := Ok.st (f1.trans g1) (Nat.le_refl _) (fun k hk => ((g4 k (fun h => o4 k h (.inl hk))).trans (f4 k (fun e1 => o2 k e1 (.inr (.inl hk))))).trans (Ok.no (L := rws B rIns 67 (qs.map BV.I) (bs.map D.Block.Ins)) o5 hk)) (fun _ _ => rfl) o5
 obtain ⟨J,i1,i2,i3,i4,i5⟩ := rws_freeze g2 q5 (by simp [hf.1]) (fun l hl' => by obtain ⟨b,hb,rfl⟩ := List.mem_map.1 hl'; exact (hl.2 b hb).2)
 refine ⟨J,(f1.trans g1).trans i1,i2,fun k hk => (i3 k hk).trans ((g3 k hk).trans (f3 k hk)),fun k hk => (i4 k (fun h => hk (.inr (.inr (.inl h))))).trans ((g4 k (fun h => hk (.inr (.inl h)))).trans (f4 k (fun h => hk (.inl h)))),?_⟩
 obtain ⟨a,b,c,d,f,g,g',x,y⟩ := Rp.rv.up f5 (g1.trans i1)
 refine ⟨hf.1 ▸ a,b,c,hf.1 ▸ d,hf.1 ▸ f,fun i hi => g i (by rw [hf.1]; exact hi),g',fun i hi => x i (by rw [hf.1]; exact hi),fun i hi => ?_⟩
 have hi' : i < qs.length := by rw [hf.1]; exact hi
 have h2 := y i hi'
 have h3 := Rp.rv.up (g5 i (by simpa using hi') (by simpa using hi)) i1
 have h4 := i5 i (by simpa using hi') (by simpa using hi)
 simp only [List.getElem_map] at h3 h4
 have h5 : qs[i].T = bs[i].Term := by
   have := congrArg (fun l => l[i]?) hf.2
   simpa [hi,hi'] using this
 have h6 : rTerm.ok J qs[i].T (fun q => g' (i * 6 + (q + 1 + 1))) := h2.2.2
 rw [h5] at h6
 refine ⟨(rL rPhi).ext (fun j hj => ?_) h3,(rL rIns).ext (fun j hj => ?_) h4,h6⟩
 · rw [show j = 0 from Nat.lt_one_iff.1 hj]; exact h2.1.1.symm
 · rw [show j = 0 from Nat.lt_one_iff.1 hj]; exact h2.2.1.1.symm
theorem hp_bfz (hp : Hp X Γ L F H) (hk : Tk L (bk X.n v qs bs) M) (hl : lensB bs) : ∃ G,Hp X (dv (rL rBlock) v bs :: Γ) M G H := by
 obtain ⟨o1,o2,o3⟩ := hk.ok hp.ok
 obtain ⟨G,h1,h2,h3,h4,h5⟩ := bk_freeze hp.hin o1 hl
 have h6 : ∀ k,Own M k → G k = F k := fun k hk1 => h4 k (fun e1 => o2 k e1 hk1)
 exact ⟨G,⟨⟨hp.hx.1.trans h1,fun k hk1 => (h3 k hk1).trans (hp.hx.2 k hk1)⟩,h2,hp.hw,⟨h5,hp.hd.up h1⟩,o3.st h1 (Nat.le_refl _) (fun k hk1 => (h6 k hk1).trans (o3.no hk1)) (fun _ _ => rfl),fun k hk1 => hp.ge k (hk.own (.inr hk1))⟩⟩
theorem qbfz {x : Exit} (hk : Tk L (bk X.n v qs bs) M) (hl : lensB bs) (k : QH n w0 Q X (dv (rL rBlock) v bs :: Γ) M e x) : QH n w0 Q X Γ L e x := fun F H hp => by
 obtain ⟨G,h⟩ := hp_bfz hp hk hl; exact k G H h
variable {f : FuncId} {args : Array Value} {x : Value}
theorem glflatB {T : TypeId} {F G : PH} {H : Heap} {B : Nat} {v : Value} {l : List Bool} (h : Gl rB T G H B v l) (hl : F.le G) : Gl rB T F H B v l := by
 obtain ⟨xs,h1,h2,h3⟩ := h
 refine ⟨xs,h1,fun b hb => ?_,h3⟩
 cases hF : F b with
 | none => rfl
 | some o => have := hl b o hF; rw [h2 b hb] at this; cases this
theorem Tg_bt {kd : IntKind} {T2 : TypeId} {m : List Int} (h : Tg P f args (dv (rL rBlock) v bs :: D0) [] (rI kd) T2 m) (hl : lensB bs) : Tr P f args D0 [bk B v qs bs] (fun v : Value => v) (fun _ => []) (fun B' u => [gl B' (rI kd) T2 u m,bk B v qs bs]) := fun F H hin hd ho => by
 obtain ⟨G,g1,g2,g3,g4,g5⟩ := bk_freeze hin ho.1 hl
 refine (h G H g2 ⟨g5,hd.up g1⟩ trivial).mono ?_
 rintro u H' ⟨_,F',rfl,h2⟩
 refine ⟨u,F,rfl,fun B' hB => ?_⟩
 have h3 := h2 B' hB
 obtain ⟨a,b,c⟩ := h3.less hin g1
 have hu : ∀ k,u.ownBlock = some k → H.size ≤ k := fun k hk => (h3.ge k (.inl hk)).resolve_right id
 refine ⟨a,b,⟨c.1,fun k hk hn => c.2 k hk id⟩,trivial,⟨⟨h3.ok.1.1.flatI (g1.trans h3.hx.1),h3.ok.1.2⟩,fun k hk ho' => ?_,⟨Res.st _ (PH.le.refl F) c.1 (fun k hk => Res.no _ ho.1 hk) (fun k hk => c.2 k (Res.lt _ ho.1 hk) id) ho.1,fun _ _ => id,trivial⟩⟩,fun k hk => ?_⟩
 · have h4 := Res.lt _ ho.1 (ho'.resolve_right id)
   have h5 := hu k hk
   omega
 · rcases hk with hk | hk
   · exact .inl (hu k hk)
   · exact .inr hk
theorem Tg_btB {T2 : TypeId} {m : List Bool} (h : Tg P f args (dv (rL rBlock) v bs :: D0) [] rB T2 m) (hl : lensB bs) : Tr P f args D0 [bk B v qs bs] (fun v : Value => v) (fun _ => []) (fun B' u => [gl B' rB T2 u m,bk B v qs bs]) := fun F H hin hd ho => by
 obtain ⟨G,g1,g2,g3,g4,g5⟩ := bk_freeze hin ho.1 hl
 refine (h G H g2 ⟨g5,hd.up g1⟩ trivial).mono ?_
 rintro u H' ⟨_,F',rfl,h2⟩
 refine ⟨u,F,rfl,fun B' hB => ?_⟩
 have h3 := h2 B' hB
 obtain ⟨a,b,c⟩ := h3.less hin g1
 have hu : ∀ k,u.ownBlock = some k → H.size ≤ k := fun k hk => (h3.ge k (.inl hk)).resolve_right id
 refine ⟨a,b,⟨c.1,fun k hk hn => c.2 k hk id⟩,trivial,⟨⟨glflatB h3.ok.1.1 (g1.trans h3.hx.1),h3.ok.1.2⟩,fun k hk ho' => ?_,⟨Res.st _ (PH.le.refl F) c.1 (fun k hk => Res.no _ ho.1 hk) (fun k hk => c.2 k (Res.lt _ ho.1 hk) id) ho.1,fun _ _ => id,trivial⟩⟩,fun k hk => ?_⟩
 · have h4 := Res.lt _ ho.1 (ho'.resolve_right id)
   have h5 := hu k hk
   omega
 · rcases hk with hk | hk
   · exact .inl (hu k hk)
   · exact .inr hk
end
section
variable {P : Program} {Γ : List Dt} {L M : List Res} {e : Env} {F : PH} {H : Heap} {B j i o : Nat} {v u : Value} {qs : List BV} {bs : List D.Block} {T : TypeId} {x y : Operand} {kd : IntKind} {I : Int}
theorem bk_row0 (h : (bk B v qs bs).sat F H) (h1 : j < bs.length) : Gl rPhi 65 F H B (ix qs j).P (ix bs j).Phis := by
 have hl : j < qs.length := by rw [h.1.1]; exact h1
 obtain ⟨h3,h4⟩ := rws_ix (B := B) (r := rPhi) (T := 65) (vs := qs.map BV.P) (ls := bs.map D.Block.Phis) (i := j) (by simpa using hl) (by simpa using h1)
 have h5 := ((Ok.focus h3).1 h.2.2.2.1).1
 rw [h4,ix_map BV.P hl,ix_map D.Block.Phis h1] at h5; exact h5.1
theorem bk_row1 (h : (bk B v qs bs).sat F H) (h1 : j < bs.length) : Gl rIns 67 F H B (ix qs j).I (ix bs j).Ins := by
 have hl : j < qs.length := by rw [h.1.1]; exact h1
 obtain ⟨h3,h4⟩ := rws_ix (B := B) (r := rIns) (T := 67) (vs := qs.map BV.I) (ls := bs.map D.Block.Ins) (i := j) (by simpa using hl) (by simpa using h1)
 have h5 := ((Ok.focus h3).1 h.2.2.2.2.2.1).1
 rw [h4,ix_map BV.I hl,ix_map D.Block.Ins h1] at h5; exact h5.1
theorem jbn0 (hT : P.underlying T = some (.slice 65)) (hk : Tk L (bk B v qs bs) M) (h1 : j < bs.length) (hx : ev e x = some (ix qs j).P) : OH P Γ L e (.call { callee := .builtin .len,args := #[x],argTypes := #[T] }) (.int .i64 ((ix bs j).Phis.length : Nat)) := fun F H _ _ h => OpOk.lenG hT (bk_row0 (hk.ok h).1 h1) hx
theorem jbn1 (hT : P.underlying T = some (.slice 67)) (hk : Tk L (bk B v qs bs) M) (h1 : j < bs.length) (hx : ev e x = some (ix qs j).I) : OH P Γ L e (.call { callee := .builtin .len,args := #[x],argTypes := #[T] }) (.int .i64 ((ix bs j).Ins.length : Nat)) := fun F H _ _ h => OpOk.lenG hT (bk_row1 (hk.ok h).1 h1) hx
theorem jbi0 (hT : P.underlying T = some (.slice 65)) (hE : Sz P 65 2) (hk : Tk L (bk B v qs bs) M) (h1 : j < bs.length) (hx : ev e x = some (ix qs j).P) (hi : ev e y = some (.int kd I)) (hI : I = i) (h2 : i < (ix bs j).Phis.length) : OH P Γ L e (.indexAddr T x y) (.pointer (some ⟨vblk (ix qs j).P,voff (ix qs j).P + i * 2,none⟩)) := fun F H _ _ h => OpOk.idxG hT hE (bk_row0 (hk.ok h).1 h1) hx hi hI h2 (by decide)
theorem jbi1 (hT : P.underlying T = some (.slice 67)) (hE : Sz P 67 5) (hk : Tk L (bk B v qs bs) M) (h1 : j < bs.length) (hx : ev e x = some (ix qs j).I) (hi : ev e y = some (.int kd I)) (hI : I = i) (h2 : i < (ix bs j).Ins.length) : OH P Γ L e (.indexAddr T x y) (.pointer (some ⟨vblk (ix qs j).I,voff (ix qs j).I + i * 5,none⟩)) := fun F H _ _ h => OpOk.idxG hT hE (bk_row1 (hk.ok h).1 h1) hx hi hI h2 (by decide)
theorem jbd0 (hk : Tk L (bk B v qs bs) M) (h1 : j < bs.length) (h2 : i < (ix bs j).Phis.length) (hT : One P T) (hx : ev e x = some (.pointer (some ⟨vblk (ix qs j).P,o,none⟩))) (ho : o = voff (ix qs j).P + i * 2 + 0) : OH P Γ L e (.load T x) (.int .i64 (ix (ix bs j).Phis i).Dst) := fun F H _ _ h => by
 obtain ⟨f,h3,h4⟩ := (bk_row0 (hk.ok h).1 h1).cellP (off := 0) h2 (by decide)
 rw [show f 0 = .int .i64 (ix (ix bs j).Phis i).Dst from h3.1.1] at h4
 exact OpOk.load hT hx rfl (by rw [ho]; exact h4)
theorem wbd0 (hk : Tk L (bk B v qs bs) M) (h1 : j < bs.length) (h2 : i < (ix bs j).Phis.length) : Wr Γ L .i64 (ix (ix bs j).Phis i).Dst := fun F H _ _ h => by
 obtain ⟨f,h3,_⟩ := (bk_row0 (hk.ok h).1 h1).cellP (off := 0) h2 (by decide)
 exact h3.1.2
theorem jbA1 (hk : Tk L (bk B v qs bs) M) (h1 : j < bs.length) (h2 : i < (ix bs j).Ins.length) (hT : ∃ d,P.underlying T = some d ∧ (match d with | .struct _ | .array _ _ => true | _ => false) = true) (hS : Sz P T 5) (hx : ev e x = some (.pointer (some ⟨vblk (ix qs j).I,voff (ix qs j).I + i * 5,none⟩))) : OE P Γ L e (.load T x) (fun u F => (da rIns u (ix (ix bs j).Ins i)).sat F) := fun F H _ _ h => OpOk.ldGA (bk_row1 (hk.ok h).1 h1) h2 hT hS hx
theorem bkn (hB : B ≤ H.size) : (bk B (.slice none 0 0) [] []).sat F H := ⟨⟨rfl,rfl⟩,⟨Gl.nil _ _ _,hB⟩,(fun k h => by cases h),trivial,(fun _ h => h.elim),trivial,(fun _ h => h.elim),trivial⟩
end
theorem jbnil {P : Program} {Γ : List Dt} {L : List Res} {e : Env} {X : Cx} {n : Fs} {w0 : World} {Q : Exit → Act → World → Prop} {ops : Array Oper} {rest : List Oper} (k : LH P n w0 ops Q X Γ (bk X.n (.slice none 0 0) [] [] :: L) e rest) : LH P n w0 ops Q X Γ L e rest := fun F H hp => k F H (hp.new (R := bk X.n (.slice none 0 0) [] []) (Kp.refl _ _) (bkn hp.hw.1) (fun k h => by rcases h with h | h | h | h; (· cases h); (· exact h.elim); (· exact h.elim); exact h.elim))
def SlB (v : Value) (m : Nat) : Prop := ∃ a c,v = .slice a m c ∧ (0 < m → ∃ g,a = some ⟨g,0,none⟩)
section
variable {P : Program} {Γ : List Dt} {L M : List Res} {e : Env} {X : Cx} {n : Fs} {w0 : World} {Q : Exit → Act → World → Prop} {B j m : Nat} {v : Value} {qs : List BV} {bs : List D.Block} {T : TypeId} {x y : Operand} {k : IntKind} {I : Int} {c : Code} {ops : Array Oper} {rest : List Oper}
theorem bk_slb {F : PH} {H : Heap} (h : (bk B v qs bs).sat F H) (hm : bs.length = m) : SlB v m := by
 obtain ⟨xs,g1,_⟩ := h.2.1.1
 rw [h.1.1,hm] at g1
 rcases g1.2 with ⟨h9,h8⟩ | ⟨g,cap,cur,h9,_⟩
 · subst h8; exact ⟨_,_,h9,fun h => absurd h (Nat.lt_irrefl 0)⟩
 · exact ⟨_,_,h9,fun _ => ⟨g,rfl⟩⟩
theorem cbk (hk : Tk L (bk B v qs bs) M) (hm : bs.length = m) (kk : SlB v m → CH P n w0 Q X Γ L e c) : CH P n w0 Q X Γ L e c := fun F H hp => kk (bk_slb (hp.at hk) hm) F H hp
theorem lbk (hk : Tk L (bk B v qs bs) M) (hm : bs.length = m) (kk : SlB v m → LH P n w0 ops Q X Γ L e rest) : LH P n w0 ops Q X Γ L e rest := fun F H hp => kk (bk_slb (hp.at hk) hm) F H hp
theorem jbi' (hT : P.underlying T = some (.slice 62)) (hE : Sz P 62 6) (hv : SlB v m) (hx : ev e x = some v) (hi : ev e y = some (.int k I)) (hI : I = j) (h1 : j < m) : OH P Γ L e (.indexAddr T x y) (.pointer (some ⟨vblk v,voff v + j * 6,none⟩)) := fun F H _ _ _ => by
 obtain ⟨a,cap,rfl,hg⟩ := hv
 obtain ⟨g,rfl⟩ := hg (by omega)
 subst hI
 have := OpOk.indexA (H := H) hT hE hx hi (by omega) (by omega)
 simpa [vblk,voff] using this
end
theorem ix_w {k : IntKind} {l : List Int} (h : ∀ x ∈ l,k.wrap x = x) (h0 : k.wrap 0 = 0) (i : Nat) : k.wrap (ix l i) = ix l i := by
 by_cases hi : i < l.length
 · exact h _ (ix_mem hi)
 · simp only [ix,List.getD,List.getElem?_eq_none (Nat.le_of_not_lt hi),Option.getD_none]; exact h0
theorem fn_dd {F : PH} {v : Value} {m : D.Func} (hw : IntKind.i64.wrap m.Params = m.Params) (h : AllD F [dv (rL rBlock) v m.Blocks]) : AllD F [da rFunc (vFunc m v) m] := ⟨rFunc.mk h.1 hw,trivial⟩
structure Mk where
 s : List Int
 k : Int
 par : Int
 bs : List D.Block
 nx : Int
 lv : List Int
def tVV (n : Int) (m : Mk) : Int := Int.tmod (Int.tmod (if m.k < m.s.length then ix m.s m.k.toNat else 0) n + n) n
def tSS (m : Mk) : Mk := { m with k := m.k + 1 }
def wordV (m : Mk) : Int :=
 if tVV 8 (tSS m) = 0 then IntKind.i32.wrap (tVV 1048576 m * 4099)
 else if tVV 8 (tSS m) = 1 then -tVV 1048576 m
 else if tVV 8 (tSS m) = 2 then -2147483648
 else if tVV 8 (tSS m) = 3 then Int.tmod (tVV 1048576 m) 70000
 else Int.tmod (tVV 1048576 m) 20 - 4
def wordS (m : Mk) : Mk := tSS (tSS m)
def valueB (m : Mk) : Bool := !decide (m.lv.length = 0)
def valueI (m : Mk) : Int := if tVV 3 (tSS m) = 0 then (m.lv.length : Int) - 1 else tVV m.lv.length m
def valueV (m : Mk) : Int := if m.lv.length = 0 then 0 else ix m.lv (valueI m).toNat
def valueS (m : Mk) : Mk := if m.lv.length = 0 then m else tSS (tSS m)
def freshS (m : Mk) : Mk := { m with nx := m.nx + 1 }
def makes3 (i : D.Ins) : List Int := if i.Op = 16 then [] else if i.Op = 18 then [i.Dst,i.Two] else [i.Dst]
def addS (b : Int) (i : D.Ins) (m : Mk) : Mk := { m with bs := m.bs.set b.toNat { (ix m.bs b.toNat) with Ins := (ix m.bs b.toNat).Ins ++ [i] },lv := m.lv ++ makes3 i }
def constS (b n : Int) (m : Mk) : Mk := addS b ⟨1,m.nx,0,[],n⟩ (freshS m)
def someC (m : Mk) : Bool := !valueB m || decide (tVV 9 (valueS m) = 0)
def someM0 (m : Mk) : Mk := if valueB m then tSS (valueS m) else valueS m
def sV9 (m : Mk) : Int := if someC m then (wordS (someM0 m)).nx else valueV m
def sS9 (b : Int) (m : Mk) : Mk := if someC m then constS b (wordV (someM0 m)) (wordS (someM0 m)) else someM0 m
def cntT : List D.Block → Nat
 | [] => 0
 | x :: l => x.Phis.length + x.Ins.length + 1 + cntT l
theorem cntT_ix : ∀ {l : List D.Block} {j : Nat},j < l.length → (ix l j).Phis.length + (ix l j).Ins.length ≤ cntT l
 | x :: l,0,_ => by rw [ix_zero,cntT]; omega
 | x :: l,j + 1,h => by rw [ix_cons,cntT]; have := cntT_ix (l := l) (j := j) (by simpa using h); omega
theorem cntT_set : ∀ {l : List D.Block} {j d : Nat} {b : D.Block},b.Phis.length + b.Ins.length ≤ (ix l j).Phis.length + (ix l j).Ins.length + d → cntT (l.set j b) ≤ cntT l + d
 | [],_,_,_,_ => by simp [cntT]
 | x :: l,0,_,b,h => by rw [ix_zero] at h; rw [List.set_cons_zero,cntT,cntT]; omega
 | x :: l,j + 1,d,b,h => by rw [ix_cons] at h; rw [List.set_cons_succ,cntT,cntT]; have := cntT_set (l := l) h; omega
theorem cntT_rep (n : Nat) : cntT (List.replicate n default) = n := by
 induction n with
 | zero => rfl
 | succ n ih => rw [List.replicate_succ,cntT,ih]; show 0 + 0 + 1 + n = n + 1; omega
def okM (nb c : Nat) (m : Mk) : Prop := (0 ≤ m.k ∧ m.k ≤ c) ∧ (0 ≤ m.nx ∧ m.nx ≤ c) ∧ (0 ≤ m.par ∧ m.par ≤ 4) ∧ m.lv.length ≤ 2 * c + 4 ∧ m.bs.length = nb ∧ cntT m.bs ≤ c
theorem okM.bnd {nb c : Nat} {m : Mk} (h : okM nb c m) : 0 ≤ m.k ∧ m.k ≤ c ∧ 0 ≤ m.nx ∧ m.nx ≤ c ∧ 0 ≤ m.par ∧ m.par ≤ 4 ∧ m.lv.length ≤ 2 * c + 4 ∧ m.bs.length = nb ∧ cntT m.bs ≤ c := ⟨h.1.1,h.1.2,h.2.1.1,h.2.1.2,h.2.2.1.1,h.2.2.1.2,h.2.2.2.1,h.2.2.2.2.1,h.2.2.2.2.2⟩
theorem okM.row {nb c : Nat} {m : Mk} (h : okM nb c m) {j : Nat} (hj : j < nb) : (ix m.bs j).Phis.length ≤ c ∧ (ix m.bs j).Ins.length ≤ c := by
 have h1 := cntT_ix (l := m.bs) (j := j) (by rw [h.2.2.2.2.1]; exact hj)
 have h2 := h.2.2.2.2.2
 omega
theorem okM.mono {nb c c' : Nat} {m : Mk} (h : okM nb c m) (hc : c ≤ c') : okM nb c' m := ⟨⟨h.1.1,by have := h.1.2; omega⟩,⟨h.2.1.1,by have := h.2.1.2; omega⟩,h.2.2.1,by have := h.2.2.2.1; omega,h.2.2.2.2.1,by have := h.2.2.2.2.2; omega⟩
theorem okM.setk {nb c c' : Nat} {m : Mk} {x : Int} (h : okM nb c m) (hx : 0 ≤ x ∧ x ≤ c') (hc : c ≤ c') : okM nb c' { m with k := x } := ⟨hx,(h.mono hc).2⟩
theorem okM.setnx {nb c c' : Nat} {m : Mk} {x : Int} (h : okM nb c m) (hx : 0 ≤ x ∧ x ≤ c') (hc : c ≤ c') : okM nb c' { m with nx := x } := ⟨(h.mono hc).1,hx,(h.mono hc).2.2⟩
theorem okM.setpar {nb c c' : Nat} {m : Mk} {x : Int} (h : okM nb c m) (hx : 0 ≤ x ∧ x ≤ 4) (hc : c ≤ c') : okM nb c' { m with par := x } := ⟨(h.mono hc).1,(h.mono hc).2.1,hx,(h.mono hc).2.2.2⟩
theorem okM.setlv {nb c c' : Nat} {m : Mk} {x : List Int} (h : okM nb c m) (hx : x.length ≤ 2 * c' + 4) (hc : c ≤ c') : okM nb c' { m with lv := x } := ⟨(h.mono hc).1,(h.mono hc).2.1,(h.mono hc).2.2.1,hx,(h.mono hc).2.2.2.2⟩
theorem okM.setb {nb c d : Nat} {m : Mk} {j : Nat} {b : D.Block} (h : okM nb c m) (hx : b.Phis.length + b.Ins.length ≤ (ix m.bs j).Phis.length + (ix m.bs j).Ins.length + d) : okM nb (c + d) { m with bs := m.bs.set j b } := by
 have h1 : cntT (m.bs.set j b) ≤ cntT m.bs + d := cntT_set (l := m.bs) hx
 have h2 := h.2.2.2.2.2
 have h3 : okM nb (c + d) m := h.mono (Nat.le_add_right _ _)
 exact ⟨h3.1,h3.2.1,h3.2.2.1,h3.2.2.2.1,by simpa using h3.2.2.2.2.1,Nat.le_trans h1 (by omega)⟩
theorem okM.setbs {nb c n : Nat} {m : Mk} (h : okM nb c m) : okM n (c + n) { m with bs := List.replicate n default } := by
 have h3 : okM nb (c + n) m := h.mono (Nat.le_add_right _ _)
 exact ⟨h3.1,h3.2.1,h3.2.2.1,h3.2.2.2.1,by simp,by show cntT (List.replicate n default) ≤ _; rw [cntT_rep]; omega⟩
section
variable {nb c : Nat} {m : Mk}
theorem tO9 (h : okM nb c m) : okM nb (c + 1) (tSS m) := h.setk (by have := h.bnd; omega) (by omega)
theorem word_ok (h : okM nb c m) : okM nb (c + 2) (wordS m) := tO9 (tO9 h)
theorem value_ok (h : okM nb c m) : okM nb (c + 2) (valueS m) := by unfold valueS; split; exact h.mono (by omega); exact tO9 (tO9 h)
theorem fresh_ok (h : okM nb c m) : okM nb (c + 1) (freshS m) := h.setnx (by have := h.bnd; omega) (by omega)
theorem makes3_len (i : D.Ins) : (makes3 i).length ≤ 2 := by unfold makes3; (repeat' split) <;> simp
theorem add_ok {b : Int} {i : D.Ins} (h : okM nb c m) (hb : b.toNat < nb) : okM nb (c + 2) (addS b i m) :=
 okM.setlv (m := { m with bs := m.bs.set b.toNat { (ix m.bs b.toNat) with Ins := (ix m.bs b.toNat).Ins ++ [i] } }) (c := c + 1) (h.setb (d := 1) (by dsimp only; rw [List.length_append]; simp only [List.length_cons,List.length_nil]; omega)) (by have := h.bnd; have := makes3_len i; simp only [List.length_append]; omega) (by omega)
theorem const_ok {b n : Int} (h : okM nb c m) (hb : b.toNat < nb) : okM nb (c + 3) (constS b n m) := add_ok (fresh_ok h) hb
theorem some0_ok (h : okM nb c m) : okM nb (c + 3) (someM0 m) := by unfold someM0; split; exact tO9 (value_ok h); exact (value_ok h).mono (by omega)
theorem some_ok {b : Int} (h : okM nb c m) (hb : b.toNat < nb) : okM nb (c + 8) (sS9 b m) := by
 unfold sS9; split
 · exact (const_ok (word_ok (some0_ok h)) hb).mono (by omega)
 · exact (some0_ok h).mono (by omega)
theorem tV9 {n : Int} (hn : 0 < n) (m : Mk) : 0 ≤ tVV n m ∧ tVV n m < n := by
 unfold tVV
 generalize (if m.k < m.s.length then ix m.s m.k.toNat else 0) = x
 have h1 := Int.lt_tmod_of_pos x hn
 exact ⟨Int.tmod_nonneg _ (by omega),Int.tmod_lt_of_pos _ hn⟩
theorem word_w (m : Mk) : IntKind.i32.wrap (wordV m) = wordV m := by
 have h := tV9 (n := 1048576) (by omega) m
 have h2 := Int.tmod_nonneg 70000 h.1
 have h3 := Int.tmod_lt_of_pos (tVV 1048576 m) (b := 70000) (by omega)
 have h4 := Int.tmod_nonneg 20 h.1
 have h5 := Int.tmod_lt_of_pos (tVV 1048576 m) (b := 20) (by omega)
 unfold wordV
 repeat' split
 · exact JE.wrap_wrap _ _
 all_goals exact IntWalk.i32_in _ (by omega)
theorem valueS_s : (valueS m).s = m.s := by unfold valueS; split <;> rfl
theorem addS_s {b : Int} {i : D.Ins} : (addS b i m).s = m.s := rfl
theorem constS_s {b n : Int} : (constS b n m).s = m.s := rfl
theorem someS_s {b : Int} : (sS9 b m).s = m.s := by unfold sS9 someM0; (repeat' split) <;> first | rfl | exact valueS_s
end
theorem okM.lens {nb c : Nat} {m : Mk} (h : okM nb c m) (hc : c < 1073741824) : ∀ b ∈ m.bs,b.Phis.length < 1073741824 ∧ b.Ins.length < 1073741824 := fun b hb => by
 obtain ⟨j,hj,rfl⟩ := List.getElem_of_mem hb
 have h1 := h.row (j := j) (by rw [← h.2.2.2.2.1]; exact hj)
 rw [ix_eq hj] at h1
 omega
theorem okM.s (nb c : Nat) (m : Mk) : True := trivial
abbrev okS (nb c : Nat) (S : List Int) (m : Mk) : Prop := okM nb c m ∧ m.s = S
abbrev bnd (nb c : Nat) (m : Mk) : Prop := 0 ≤ m.k ∧ m.k ≤ c ∧ 0 ≤ m.nx ∧ m.nx ≤ c ∧ 0 ≤ m.par ∧ m.par ≤ 4 ∧ m.lv.length ≤ 2 * c + 4 ∧ m.bs.length = nb ∧ cntT m.bs ≤ c
theorem okS.mono {nb c c' : Nat} {S : List Int} {m : Mk} (h : okS nb c S m) (hc : c ≤ c') : okS nb c' S m := ⟨okM.mono h.1 hc,h.2⟩
theorem okS.lens {nb c : Nat} {S : List Int} {m : Mk} (h : okS nb c S m) (hc : c < 1073741824) (hn : nb < 1073741824) : lensB m.bs := ⟨by rw [(okM.bnd h.1).2.2.2.2.2.2.2.1]; exact hn,okM.lens h.1 hc⟩
abbrev mc (m : Mk) (vs vb al : Value) : List Value := [vs,.int .i64 m.k,.int .i64 m.par,vb,.int .i64 m.nx,al]
abbrev KA (P : Program) (f : FuncId) (args : List Value) (D0 : List Dt) (g : Nat) (vs vb al : Value) (S : List Int) (m st : Mk) (val : Value) : Prop :=
 Tr P f (.pointer (some ⟨g,0,none⟩) :: args).toArray (dv (rL (rI .i64)) vs S :: D0) [bx g 108 (mc m vs vb al)] (fun _ : Unit => val) (fun _ => []) (fun _ _ => [bx g 108 (mc st vs vb al)])
abbrev KB (P : Program) (f : FuncId) (args : List Value) (D0 : List Dt) (g : Nat) (vs vb al : Value) (S : List Int) (B B2 : Nat) (qs : List BV) (E : List Dt) (m st : Mk) (val : Value) : Prop :=
 Tr P f (.pointer (some ⟨g,0,none⟩) :: args).toArray (dv (rL (rI .i64)) vs S :: D0) [bx g 108 (mc m vs vb al),gl B (rI .i64) 3 al m.lv,bk B2 vb qs m.bs] (fun _ : Value × List BV => val) (fun _ => E) (fun _ p => [bx g 108 (mc st vs vb p.1),gl B (rI .i64) 3 p.1 st.lv,bk B2 vb p.2 st.bs])
abbrev KD {α : Type} (P : Program) (f : FuncId) (args : List Value) (D0 : List Dt) (g : Nat) (vs vb al : Value) (S : List Int) (r : Rp α) (a : α) (m st : Mk) : Prop :=
 Tr P f (.pointer (some ⟨g,0,none⟩) :: args).toArray (dv (rL (rI .i64)) vs S :: D0) [bx g 108 (mc m vs vb al)] (fun v : Value => v) (fun v => [dv r v a]) (fun _ _ => [bx g 108 (mc st vs vb al)])
def wf (k : IntKind) (n : Int) : Dt := ⟨fun _ => k.wrap n = n,fun _ h => h⟩
theorem wca {Γ : List Dt} {L : List Res} {k : IntKind} {a b : Int} (e : a = b) (h : Wr Γ L k b) : Nd Γ L (wf k a) := e ▸ h
theorem wfw {Γ : List Dt} {L : List Res} {k : IntKind} {a : Int} (h : Nd Γ L (wf k a)) : Wr Γ L k a := h
theorem kck {L M N Ls : List Res} {B : Nat} {v : Value} {qs : List BV} {bs bs' : List D.Block} (e : bs' = bs) (h : Tk L (bk B v qs bs) M) (h' : Tks M Ls N) : Tks L (bk B v qs bs' :: Ls) N := e ▸ kc h h'
section
variable {P : Program} {Γ Γ' E D0 : List Dt} {L M N : List Res} {e : Env} {X : Cx} {n : Fs} {w0 : World} {Q : Exit → Act → World → Prop} {ops : Array Oper} {d : Nat} {ty : TypeId} {pos : String} {af : Array Edge} {rest : List Oper} {f : FuncId} {h : Operand} {xs : List Operand} {ws : List Value} {ts : Array TypeId} {g B B2 nb c : Nat} {vs vb al val : Value} {S : List Int} {m st : Mk} {qs : List BV}
theorem ka_n (h : KA P f ws D0 g vs vb al S m st val) : KA P f (ws ++ []) D0 g vs vb al S m st val := by rw [List.append_nil]; exact h
theorem kb_n (h : KB P f ws D0 g vs vb al S B B2 qs E m st val) : KB P f (ws ++ []) D0 g vs vb al S B B2 qs E m st val := by rw [List.append_nil]; exact h
theorem jka (hE : Ent P f) (hf : ev e h = some (.func (.func f) #[] #[])) (hl : evl e xs = some (.pointer (some ⟨g,0,none⟩) :: ws)) (hT : KA P f ws D0 g vs vb al S m st val) (hd : Sd Γ L (dv (rL (rI .i64)) vs S :: D0)) (hk : Tk L (bx g 108 (mc m vs vb al)) M) (ok : okS nb c S st)
   (k : ∀ x,x = st → okS nb c S x → bnd nb c x → LH P n w0 ops Q X Γ (bx g 108 (mc x vs vb al) :: M) ((d,val) :: e) rest) (hd1 : Nat.blt d n.sz = true := by rfl) : LH P n w0 ops Q X Γ L e (⟨some d,.call { callee := .value h,args := xs.toArray,argTypes := ts },ty,pos,af,none⟩ :: rest) :=
 jc (cs := []) hE hf hl (ka_n hT) hd (kc hk kn) (fun _ => rfl) (fun _ => rfl) (fun _ => k st rfl ok (okM.bnd ok.1)) hd1
theorem tks1 {A : Res} {Ls : List Res} (h : Tks L (A :: Ls) M) : Tks L [A] (Ls ++ M) where
 ok := fun o => by
   obtain ⟨⟨a,b,c⟩,m,dj⟩ := h.ok o
   exact ⟨⟨a,fun _ _ => id,trivial⟩,Ok.app c m (fun k hk => dj k (.inr hk)),fun k hk ho => (Own.app.1 ho).elim (fun h2 => b k (hk.resolve_right id) h2) (dj k (.inl (hk.resolve_right id)))⟩
 own := fun ho => h.own (ho.elim (fun h => .inl (.inl (h.resolve_right id))) (fun h => (Own.app.1 h).imp .inr id))
theorem jkr (hE : Ent P f) (hf : ev e h = some (.func (.func f) #[] #[])) (hl : evl e xs = some (.pointer (some ⟨g,0,none⟩) :: ws)) (hT : KA P f ws D0 g vs vb al S m st val) (hd : Sd Γ L (dv (rL (rI .i64)) vs S :: D0)) (hk : Tks L [bx g 108 (mc m vs vb al),gl B (rI .i64) 3 al m.lv,bk B2 vb qs m.bs] M) (ok : okS nb c S st)
   (k : ∀ x,x = st → okS nb c S x → bnd nb c x → LH P n w0 ops Q X Γ (bx g 108 (mc x vs vb al) :: gl B (rI .i64) 3 al x.lv :: bk B2 vb qs x.bs :: M) ((d,val) :: e) rest) (h1 : st.lv = m.lv := by rfl) (h2 : st.bs = m.bs := by rfl) (hd1 : Nat.blt d n.sz = true := by rfl) : LH P n w0 ops Q X Γ L e (⟨some d,.call { callee := .value h,args := xs.toArray,argTypes := ts },ty,pos,af,none⟩ :: rest) :=
 jc (cs := []) hE hf hl (ka_n hT) hd (tks1 hk) (fun _ => rfl) (fun _ => rfl) (fun _ => by have := k st rfl ok (okM.bnd ok.1); rw [h1,h2] at this; exact this) hd1
theorem jkb (hE : Ent P f) (hf : ev e h = some (.func (.func f) #[] #[])) (hl : evl e xs = some (.pointer (some ⟨g,0,none⟩) :: ws)) (hT : KB P f ws D0 g vs vb al S B B2 qs E m st val) (hd : Sd Γ L (dv (rL (rI .i64)) vs S :: D0)) (hk : Tks L [bx g 108 (mc m vs vb al),gl B (rI .i64) 3 al m.lv,bk B2 vb qs m.bs] M) (ok : okS nb c S st) (hp : Ap E Γ Γ')
   (k : ∀ x,x = st → okS nb c S x → bnd nb c x → ∀ al' qs',Sv al' → LH P n w0 ops Q X Γ' (bx g 108 (mc x vs vb al') :: gl B (rI .i64) 3 al' x.lv :: bk B2 vb qs' x.bs :: M) ((d,val) :: e) rest) (hd1 : Nat.blt d n.sz = true := by rfl) : LH P n w0 ops Q X Γ L e (⟨some d,.call { callee := .value h,args := xs.toArray,argTypes := ts },ty,pos,af,none⟩ :: rest) :=
 jc (cs := []) hE hf hl (kb_n hT) hd hk (fun _ => hp) (fun _ => rfl) (fun p => jgo k1 fun h9 => k st rfl ok (okM.bnd ok.1) p.1 p.2 h9) hd1
theorem jkg {j t : Nat} {want Bb : Bool} {u : Value} (hj : (ops[j]?).bind (·.dst) = some t) (hu : lk e t = some u) (hB : Gd u want Bb) (hE : Ent P f) (hf : ev e h = some (.func (.func f) #[] #[])) (hl : Bb = true → evl e xs = some (.pointer (some ⟨g,0,none⟩) :: ws)) (hT : KA P f ws D0 g vs vb al S m st val) (hd : Sd Γ L (dv (rL (rI .i64)) vs S :: D0)) (hk : Tks L [bx g 108 (mc m vs vb al),gl B (rI .i64) 3 al m.lv,bk B2 vb qs m.bs] M) (ok : okS nb c S (if Bb then st else m))
   (k : ∀ x,x = (if Bb then st else m) → okS nb c S x → bnd nb c x → LH P n w0 ops Q X Γ (bx g 108 (mc x vs vb al) :: gl B (rI .i64) 3 al x.lv :: bk B2 vb qs x.bs :: M) ((d,gv Bb val) :: e) rest) (h1 : st.lv = m.lv := by rfl) (h2 : st.bs = m.bs := by rfl) (hd1 : Nat.blt d n.sz = true := by rfl) (ht : Nat.blt t n.sz = true := by rfl) : LH P n w0 ops Q X Γ L e (⟨some d,.call { callee := .value h,args := xs.toArray,argTypes := ts },ty,pos,af,some (j,want)⟩ :: rest) := fun F H hp => by
 have hk1 := tks1 hk
 refine LF.gcallF hj hu hB (fun hb => OpCall.fnc (cs := []) hE hf (hl hb)) (fun _ => (ka_n hT).run hp hd hk1) (fun v' H' hz => ?_) hd1 ht
 rcases hz with ⟨hb,_,F',rfl,h9⟩ | ⟨hb,rfl⟩
 · subst hb
   have := k st (by simp) (by simpa using ok) (okM.bnd (by simpa using ok.1))
   rw [h1,h2] at this
   exact this F' H' h9
 · subst hb
   have := k m (by simp) (by simpa using ok) (okM.bnd (by simpa using ok.1))
   exact this F _ (hp_tks hp hk)
theorem jkga {j t : Nat} {want Bb : Bool} {u : Value} (hj : (ops[j]?).bind (·.dst) = some t) (hu : lk e t = some u) (hB : Gd u want Bb) (hE : Ent P f) (hf : ev e h = some (.func (.func f) #[] #[])) (hl : Bb = true → evl e xs = some (.pointer (some ⟨g,0,none⟩) :: ws)) (hT : KA P f ws D0 g vs vb al S m st val) (hd : Sd Γ L (dv (rL (rI .i64)) vs S :: D0)) (hk : Tk L (bx g 108 (mc m vs vb al)) M) (ok : okS nb c S (if Bb then st else m))
   (k : ∀ x,x = (if Bb then st else m) → okS nb c S x → bnd nb c x → LH P n w0 ops Q X Γ (bx g 108 (mc x vs vb al) :: M) ((d,gv Bb val) :: e) rest) (hd1 : Nat.blt d n.sz = true := by rfl) (ht : Nat.blt t n.sz = true := by rfl) : LH P n w0 ops Q X Γ L e (⟨some d,.call { callee := .value h,args := xs.toArray,argTypes := ts },ty,pos,af,some (j,want)⟩ :: rest) := fun F H hp => by
 refine LF.gcallF hj hu hB (fun hb => OpCall.fnc (cs := []) hE hf (hl hb)) (fun _ => (ka_n hT).run hp hd hk.tks) (fun v' H' hz => ?_) hd1 ht
 rcases hz with ⟨hb,_,F',rfl,h9⟩ | ⟨hb,rfl⟩
 · subst hb
   exact k st (by simp) (by simpa using ok) (okM.bnd (by simpa using ok.1)) F' H' h9
 · subst hb
   exact k m (by simp) (by simpa using ok) (okM.bnd (by simpa using ok.1)) F _ (hp.front hk)
theorem jkd {α : Type} {r : Rp α} {N' : Nat} {a : List α} (hE : Ent P f) (hf : ev e h = some (.func (.func f) #[] #[])) (hl : evl e xs = some (.pointer (some ⟨g,0,none⟩) :: ws)) (hT : KD P f (ws ++ []) D0 g vs vb al S (rLn N' r) a m st) (hd : Sd Γ L (dv (rL (rI .i64)) vs S :: D0)) (hk : Tks L [bx g 108 (mc m vs vb al),gl B (rI .i64) 3 al m.lv,bk B2 vb qs m.bs] M) (ok : okS nb c S st)
   (k : ∀ x,x = st → okS nb c S x → bnd nb c x → ∀ v,Qn N' a.length → Sv v → LH P n w0 ops Q X (dv (rLn N' r) v a :: Γ) (bx g 108 (mc x vs vb al) :: gl B (rI .i64) 3 al x.lv :: bk B2 vb qs x.bs :: M) ((d,v) :: e) rest) (h1 : st.lv = m.lv := by rfl) (h2 : st.bs = m.bs := by rfl) (hd1 : Nat.blt d n.sz = true := by rfl) : LH P n w0 ops Q X Γ L e (⟨some d,.call { callee := .value h,args := xs.toArray,argTypes := ts },ty,pos,af,none⟩ :: rest) :=
 jc (cs := []) hE hf hl hT hd (tks1 hk) (fun _ => rfl) (fun _ => rfl) (fun v => jdq d0 fun h8 h9 => by have := k st rfl ok (okM.bnd ok.1) v h8 h9; rw [h1,h2] at this; exact this) hd1
theorem jkn (st : Mk) (hk : Tks L [bx g 108 (mc st vs vb al),gl B (rI .i64) 3 al st.lv,bk B2 vb qs st.bs] M) (ok : okS nb c S st)
   (k : ∀ x,x = st → okS nb c S x → bnd nb c x → LH P n w0 ops Q X Γ (bx g 108 (mc x vs vb al) :: gl B (rI .i64) 3 al x.lv :: bk B2 vb qs x.bs :: M) e rest) : LH P n w0 ops Q X Γ L e rest := fun F H hp => k st rfl ok (okM.bnd ok.1) F H (hp_tks hp hk)
theorem jkna (st : Mk) (hk : Tk L (bx g 108 (mc st vs vb al)) M) (ok : okS nb c S st)
   (k : ∀ x,x = st → okS nb c S x → bnd nb c x → LH P n w0 ops Q X Γ (bx g 108 (mc x vs vb al) :: M) e rest) : LH P n w0 ops Q X Γ L e rest := fun F H hp => k st rfl ok (okM.bnd ok.1) F H (hp.front hk)
end
theorem F108_0 : Fld Tryz.prog 108 0 0 := ⟨_,_,Tryz.underlying108,rfl,rfl,1,(by unfold Sz; kernel_rfl),by decide⟩
theorem F108_1 : Fld Tryz.prog 108 1 1 := ⟨_,_,Tryz.underlying108,rfl,rfl,1,(by unfold Sz; kernel_rfl),by decide⟩
set_option maxRecDepth 4000 in
theorem m3take_ct {vs vb al : Value} {m : Mk} {nb c : Nat} {S : List Int} {g0 : Nat} (hok : okS nb c S m) (hc : c ≤ 1000000) (n : Int) (hn9 : 0 < n ∧ n ≤ 1000000000) : KA Tryz.prog 47 [.int .i64 n] [] g0 vs vb al S m (tSS m) (.int .i64 (tVV n m)) := by
 refine jenter (args := [.pointer (some ⟨g0,0,none⟩),.int .i64 n]) Tryz.func47 rfl rfl rfl fun w0 X => ?_
 have bd0 := okM.bnd hok.1
 refine jq (jr (ja Z (jn (jx (jq (jr (ja Z (jn (jx (jq (jq ?_)))))))))))
 refine jstl Mixed (by kernel_rfl) (jt (jmv Z) (jt (jnil Z) (jt (jf F108_1 Z) (jt (jl k0 O3 Z Z) (jt (jmv Z) (jt (jnil Z) (jt (jf F108_0 Z) (jt (jl k0 O22 Z Z) (tdq d0 fun q1 w1 => jt (jln U22 d0 Z) (jt (jlss Z Z) ?_))))))))))
 refine jdn (jx ?_)
 refine jif Z (fun hc1 => ?_) (fun hc1 => ?_)
 refine jstl Mixed (by kernel_rfl) (jt (jmv Z) (jt (jnil Z) (jt (jf F108_0 Z) (jt (jl k0 O22 Z Z) (jt (jmv Z) (jt (jnil Z) (jt (jf F108_1 Z) (jt (jl k0 O3 Z Z) (jt (jix (i := (Int.toNat m.k)) U22 Z3 d0 Z Z (by omega) (by omega)) (jt (jlI (dix d0 (Int.toNat m.k) (by omega)) O3 Z) (jt (jas Z) ?_)))))))))))
 refine jdn (jx (jq (jr (jm Z (jm Z (js (jnil Z) (js (jf F108_1 Z) (js (jl k0 O3 Z Z) (js (jadd Z Z (by omega)) (js (jnil Z) (js (jf F108_1 Z) ?_)))))))))))
 refine jst k0 Z3 Z Z Z s1 (jkna (c := c + 1) ({ m with k := m.k + 1 }) k0 ⟨(okM.setk hok.1 (by omega) (by omega)),hok.2⟩ fun ms2 hms2 oms2 bms2 => ?_)
 clear bd0
 refine jn (jx (jq (jr (jm Z (jm Z (js (jrem Z Z (by omega)) (jm Z ?_)))))))
 have hz1 := Int.tmod_lt_of_pos (ix S (Int.toNat m.k)) hn9.1
 have hz2 := Int.lt_tmod_of_pos (ix S (Int.toNat m.k)) hn9.1
 refine js (jadd Z Z (by omega)) (jm Z (js (jrem Z Z (by omega)) (ja Z (jn (jx (jrt ?_))))))
 have hv0 : tVV n m = (Int.tmod ((Int.tmod (ix S (Int.toNat m.k)) n) + n) n) := (by (try simp only [hms2] at hc1); (try simp only [hms2]); simp only [tVV,hok.2]; simp [*])
 have hst : ms2 = tSS m := (by (try simp only [hms2] at hc1); (try simp only [hms2]); all_goals first | rfl | (simp [tVV,tSS,hc1]; done) | (simp [tVV,tSS,hc1]; rfl) | (unfold tVV tSS; (repeat' split) <;> first | rfl | (exfalso; omega) | (simp [hc1] at *; done) | (simp_all; done)))
 exact jr1 Z Z () (by rw [hv0] <;> rfl) dn (fun _ _ => (kcb (by rw [← hst]) k0 kn))
 refine jsk (jx (jq (jr (jm Z (jm Z (js (jnil Z) (js (jf F108_1 Z) (js (jl k0 O3 Z Z) (js (jadd Z Z (by omega)) (js (jnil Z) (js (jf F108_1 Z) ?_)))))))))))
 refine jst k0 Z3 Z Z Z s1 (jkna (c := c + 1) ({ m with k := m.k + 1 }) k0 ⟨(okM.setk hok.1 (by omega) (by omega)),hok.2⟩ fun ms3 hms3 oms3 bms3 => ?_)
 clear bd0
 refine jn (jx (jq (jr (jm Z (jm Z (js (jrem Z Z (by omega)) (jm Z ?_)))))))
 have hz1 := Int.tmod_lt_of_pos 0 hn9.1
 have hz2 := Int.lt_tmod_of_pos 0 hn9.1
 refine js (jadd Z Z (by omega)) (jm Z (js (jrem Z Z (by omega)) (ja Z (jn (jx (jrt ?_))))))
 have hv0 : tVV n m = (Int.tmod ((Int.tmod 0 n) + n) n) := (by (try simp only [hms3] at hc1); (try simp only [hms3]); simp only [tVV,hok.2]; simp [*])
 have hst : ms3 = tSS m := (by (try simp only [hms3] at hc1); (try simp only [hms3]); all_goals first | rfl | (simp [tVV,tSS,hc1]; done) | (simp [tVV,tSS,hc1]; rfl) | (unfold tVV tSS; (repeat' split) <;> first | rfl | (exfalso; omega) | (simp [hc1] at *; done) | (simp_all; done)))
 exact jr1 Z Z () (by rw [hv0] <;> rfl) dn (fun _ _ => (kcb (by rw [← hst]) k0 kn))
end Go.Proofs.YtmfkkodnghambaaGreat
