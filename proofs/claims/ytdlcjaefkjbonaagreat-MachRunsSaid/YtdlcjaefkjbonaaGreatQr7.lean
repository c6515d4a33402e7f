/- Lemmas that the claim is made of. Conditions: each lemma names its own. -/
import Derived.Test.YtdlcjaefkjbonaaGreatQr6
namespace Go.Proofs.YtdlcjaefkjbonaaGreat
set_option linter.unusedVariables false
set_option linter.unusedSimpArgs false
set_option linter.unusedSectionVars false
open Go.JE
abbrev U69 := @Tryz.underlying69
theorem A28 : ∃ d, Tryz.prog.underlying 28 = some d ∧ (match d with | .struct _ | .array _ _ => true | _ => false) = true := ⟨_, Tryz.underlying28, rfl⟩
theorem E24 : Ent Tryz.prog 24 := ⟨_, Tryz.func24, by kernel_rfl, by kernel_rfl⟩
theorem E46 : Ent Tryz.prog 46 := ⟨_, Tryz.func46, by kernel_rfl, by kernel_rfl⟩
theorem E47 : Ent Tryz.prog 47 := ⟨_, Tryz.func47, by kernel_rfl, by kernel_rfl⟩
theorem E48 : Ent Tryz.prog 48 := ⟨_, Tryz.func48, by kernel_rfl, by kernel_rfl⟩
theorem E49 : Ent Tryz.prog 49 := ⟨_, Tryz.func49, by kernel_rfl, by kernel_rfl⟩
theorem F28_0 : Fld Tryz.prog 28 0 0 := ⟨_, _, Tryz.underlying28, rfl, rfl, 1, (by unfold Sz; kernel_rfl), by decide⟩
theorem F71_1 : Fld Tryz.prog 71 1 1 := ⟨_, _, Tryz.underlying71, rfl, rfl, 1, (by unfold Sz; kernel_rfl), by decide⟩
theorem O69 : One Tryz.prog 69 := ⟨_, Tryz.underlying69, rfl⟩
theorem Z28 : Sz Tryz.prog 28 2 := by unfold Sz; kernel_rfl
theorem J46 : (Tryz.prog.info? 46).bind (·.zero) = some (.agg #[.int .i64 0, .int .i64 0, .int .i64 0, .int .i64 0, .int .i64 0, .int .i64 0, .int .i32 0, .slice none 0 0]) := by kernel_rfl
def insW : Nat → List D.Mach → Option (Int × Int)
  | _, [] => none
  | i, y :: l => if insE y = 0 then insW (i + 1) l else some (insE y, (i : Int))
def phiW (all : List D.Phi) : Nat → List D.Phi → Option (Int × Int)
  | _, [] => none
  | i, p :: l => if phiE p (all.take i) = 0 then phiW all (i + 1) l else some (phiE p (all.take i), -1 - (i : Int))
def blockW (n : Int) (x : D.MBlock) : Option (Int × Int) :=
  match phiW x.Phis 0 x.Phis with
  | some t => some t
  | none => match insW 0 x.Ins with
    | some t => some t
    | none => if endE x.End n = 0 then none else some (endE x.End n, (x.Ins.length : Int))
def thingsW (n : Int) : Nat → List D.MBlock → Option (Int × Int × Int)
  | _, [] => none
  | b, x :: l => match blockW n x with
    | some t => some (t.1, (b : Int), t.2)
    | none => thingsW n (b + 1) l
def cntB : List D.MBlock → Int
  | [] => 0
  | x :: l => x.Phis.length + x.Ins.length + 1 + cntB l
def funcM (m : D.MFunc) : Int × Int × Int :=
  if m.Params < 0 ∨ 4 < m.Params then (1, 0, 0)
  else if m.Blocks.length = 0 then (14, 0, 0)
  else if 512 < m.Blocks.length ∨ 16384 < cntB m.Blocks then (2, 0, 0)
  else match thingsW m.Blocks.length 0 m.Blocks with
    | some t => t
    | none => graphM m
def rightM (m : D.MFunc) : Bool := decide ((funcM m).1 = 0)
section
variable {n : Int} {bs : List D.MBlock} {k i : Nat}
theorem phiW_end {P : List D.Phi} (hi : P.length ≤ i) (h : phiW P 0 P = phiW P i (P.drop i)) : phiW P 0 P = none := by rw [h, List.drop_of_length_le hi]; rfl
theorem insW_end {P : List D.Mach} (hi : P.length ≤ i) (h : insW 0 P = insW i (P.drop i)) : insW 0 P = none := by rw [h, List.drop_of_length_le hi]; rfl
theorem phiW_next {P : List D.Phi} (hi : i < P.length) (h : phiW P 0 P = phiW P i (P.drop i)) (h0 : phiE (ix P i) (P.take i) = 0) : phiW P 0 P = phiW P (i + 1) (P.drop (i + 1)) := by rw [h, drop_ix hi, phiW, if_pos h0]
theorem insW_next {P : List D.Mach} (hi : i < P.length) (h : insW 0 P = insW i (P.drop i)) (h0 : insE (ix P i) = 0) : insW 0 P = insW (i + 1) (P.drop (i + 1)) := by rw [h, drop_ix hi, insW, if_pos h0]
theorem things_phi (hk : k < bs.length) (hB : thingsW n 0 bs = thingsW n k (bs.drop k)) (hi : i < (ix bs k).Phis.length) (hP : phiW (ix bs k).Phis 0 (ix bs k).Phis = phiW (ix bs k).Phis i ((ix bs k).Phis.drop i)) (h : ¬ phiE (ix (ix bs k).Phis i) ((ix bs k).Phis.take i) = 0) :
    thingsW n 0 bs = some (phiE (ix (ix bs k).Phis i) ((ix bs k).Phis.take i), (k : Int), -1 - (i : Int)) := by
  rw [drop_ix hi, phiW, if_neg h] at hP
  rw [hB, drop_ix hk, thingsW, blockW, hP]
theorem things_ins (hk : k < bs.length) (hB : thingsW n 0 bs = thingsW n k (bs.drop k)) (hP : phiW (ix bs k).Phis 0 (ix bs k).Phis = none) (hi : i < (ix bs k).Ins.length) (hI : insW 0 (ix bs k).Ins = insW i ((ix bs k).Ins.drop i)) (h : ¬ insE (ix (ix bs k).Ins i) = 0) :
    thingsW n 0 bs = some (insE (ix (ix bs k).Ins i), (k : Int), (i : Int)) := by
  rw [drop_ix hi, insW, if_neg h] at hI
  rw [hB, drop_ix hk, thingsW, blockW, hP, hI]
theorem things_end (hk : k < bs.length) (hB : thingsW n 0 bs = thingsW n k (bs.drop k)) (hP : phiW (ix bs k).Phis 0 (ix bs k).Phis = none) (hI : insW 0 (ix bs k).Ins = none) (h : ¬ endE (ix bs k).End n = 0) :
    thingsW n 0 bs = some (endE (ix bs k).End n, (k : Int), ((ix bs k).Ins.length : Int)) := by
  rw [hB, drop_ix hk, thingsW, blockW, hP, hI]
  simp only [if_neg h]
theorem things_next (hk : k < bs.length) (hB : thingsW n 0 bs = thingsW n k (bs.drop k)) (hP : phiW (ix bs k).Phis 0 (ix bs k).Phis = none) (hI : insW 0 (ix bs k).Ins = none) (h : endE (ix bs k).End n = 0) :
    thingsW n 0 bs = thingsW n (k + 1) (bs.drop (k + 1)) := by
  rw [hB, drop_ix hk, thingsW, blockW, hP, hI]
  simp only [if_pos h]
theorem things_done (hk : bs.length ≤ k) (hB : thingsW n 0 bs = thingsW n k (bs.drop k)) : thingsW n 0 bs = none := by rw [hB, List.drop_of_length_le hk]; rfl
theorem things_none : ∀ (bs : List D.MBlock) (b : Nat), thingsW n b bs = none → ∀ x ∈ bs, phiW x.Phis 0 x.Phis = none ∧ insW 0 x.Ins = none ∧ endE x.End n = 0
  | [], _, _, x, hx => by cases hx
  | y :: l, b, h, x, hx => by
    rw [thingsW] at h
    cases hb : blockW n y with
    | some t => rw [hb] at h; cases h
    | none =>
      rw [hb] at h
      rcases List.mem_cons.1 hx with rfl | hx
      · unfold blockW at hb
        cases h1 : phiW x.Phis 0 x.Phis with
        | some t => rw [h1] at hb; cases hb
        | none =>
          rw [h1] at hb
          cases h2 : insW 0 x.Ins with
          | some t => rw [h2] at hb; cases hb
          | none =>
            rw [h2] at hb
            refine ⟨rfl, rfl, ?_⟩
            by_cases h3 : endE x.End n = 0
            · exact h3
            · simp only [if_neg h3] at hb; cases hb
      · exact things_none l _ h x hx
theorem end_to {e : D.End} (h : endE e n = 0) : toM e = true ∧ regM (needsM e) = true ∧ ∀ t ∈ e.To, 1 ≤ t ∧ t < n := by
  unfold endE at h
  split at h
  · cases h
  · split at h
    · cases h
    · split at h
      · cases h
      · rename_i h1 h2 h3
        refine ⟨by simpa using h1, by simpa using h2, fun t ht => ?_⟩
        have := (List.any_eq_false.1 (by simpa [anyM] using h3)) t ht
        unfold badB at this; simp at this; omega
theorem things_to (h : thingsW n 0 bs = none) : ∀ x ∈ bs, ∀ t ∈ x.End.To, 1 ≤ t ∧ t < n := fun x hx => (end_to (things_none bs 0 h x hx).2.2).2.2
end
section
variable {m : D.MFunc}
theorem func_arg (h : m.Params < 0 ∨ 4 < m.Params) : funcM m = (1, 0, 0) := by unfold funcM; rw [if_pos h]
theorem func_block (h : ¬ m.Params < 0 ∧ ¬ 4 < m.Params) (h2 : (m.Blocks.length : Int) = 0) : funcM m = (14, 0, 0) := by unfold funcM; rw [if_neg (by omega), if_pos (by omega)]
theorem func_many (h : ¬ m.Params < 0 ∧ ¬ 4 < m.Params) (h2 : ¬ (m.Blocks.length : Int) = 0) (h3 : 512 < (m.Blocks.length : Int) ∨ 16384 < cntB m.Blocks) : funcM m = (2, 0, 0) := by unfold funcM; rw [if_neg (by omega), if_neg (by omega), if_pos (by omega)]
theorem func_some (h : ¬ m.Params < 0 ∧ ¬ 4 < m.Params) (h2 : ¬ (m.Blocks.length : Int) = 0) (h3 : ¬ 512 < (m.Blocks.length : Int) ∧ ¬ 16384 < cntB m.Blocks) {t : Int × Int × Int} (h4 : thingsW m.Blocks.length 0 m.Blocks = some t) : funcM m = t := by
  unfold funcM; rw [if_neg (by omega), if_neg (by omega), if_neg (by omega), h4]
theorem func_graph (h : ¬ m.Params < 0 ∧ ¬ 4 < m.Params) (h2 : ¬ (m.Blocks.length : Int) = 0) (h3 : ¬ 512 < (m.Blocks.length : Int) ∧ ¬ 16384 < cntB m.Blocks) (h4 : thingsW m.Blocks.length 0 m.Blocks = none) : funcM m = graphM m := by
  unfold funcM; rw [if_neg (by omega), if_neg (by omega), if_neg (by omega), h4]
end
set_option maxRecDepth 4000 in
theorem pFunc_ct {a0 : Value} {m : D.MFunc} : Tv Tryz.prog 24 #[vMFunc m a0] [da rMFunc (vMFunc m a0) m] [] (.tuple #[.int .i64 ((funcM m).1), .int .i64 ((funcM m).2.1), .int .i64 ((funcM m).2.2)]) := by
  refine jenter (args := [vMFunc m a0]) Tryz.func24 rfl rfl rfl fun w0 X => ?_
  refine jq (jr (jbox ζ ζ fun g1 => ja ζ (ja ζ (ja ζ (jn (jx (jq (jr (ja ζ (jn ?_))))))))))
  refine jx (jq (jq (jr (js (jf F28_1 ζ) (js (jl k0 O26 ζ ζ) (jdq (rMFunc.c_Blocks d0) fun q1 w1 => js (jln U26 (rMFunc.c_Blocks d0) ζ) (jm ζ (jn (jx (jb ?_))))))))))
  refine jlp (u2 fun (k : Nat) (c : Int) => ⟨k ≤ m.Blocks.length ∧ c + cntB (m.Blocks.drop k) = cntB m.Blocks ∧ 0 ≤ c ∧ c ≤ 2147483649 * k, [da rMFunc (vMFunc m a0) m], [bx g1 28 [.int .i64 m.Params, a0]], [(1, .pointer (some ⟨g1, 0, none⟩)), (2, .int .i64 0), (3, .int .i64 0), (4, .int .i64 0), (5, .int .i64 c), (18, a0), (19, .int .i64 (↑(List.length m.Blocks))), (20, .int .i64 (↑k))], m.Blocks.length - k⟩) (0, 0) ⟨by dsimp only; omega, by simp, by simp, by simp⟩ (dc d0 dn) (kc k0 kn) ⟨ζ, ζ, ζ, ζ, eqI (by omega), ζ, ζ, eqI (by omega), trivial⟩ ?_
  rintro ⟨k, c⟩; dsimp only [u2]; rintro ⟨hk, hc, h0, hc9⟩
  refine jq (jr (js (jlss ζ ζ) (jn (jx (jq ?_)))))
  refine jif ζ (fun hc1 => ?_) (fun hc1 => ?_)
  refine jsk (jx (jq (jb (jq (jr (js (jix U26 Z71 (rMFunc.c_Blocks d0) ζ ζ ζ (by omega)) (jA3 sMBlock (jlA (dix (rMFunc.c_Blocks d0) k (by omega)) A71 Z71 ζ) fun c23a c23b c23c => jalc J71 ζ fun g7 => jdq (rMBlock.c_Phis d0) fun q3 w3 => jdq (rMBlock.c_Ins d0) fun q4 w4 => jdq (rMBlock.c_End_To d0) fun q5 w5 => ?_)))))))
  refine jsta k0 Z71 ζ ζ ζ ⟨w3.one, w4.one, ζ, ζ, ζ, w5.one, ζ, trivial⟩ (saf ζ) (jn (jx (jr (jm ζ (js (jf F71_0 ζ) (js (jl k0 O68 ζ ζ) (js (jln U68 (rMBlock.c_Phis d0) ζ) (js (jf F71_1 ζ) (js (jl k0 O69 ζ ζ) (js (jln U69 (rMBlock.c_Ins d0) ζ) (js (jadd ζ ζ (by omega)) ?_)))))))))))
  refine js (jadd ζ ζ (by omega)) (js (jadd ζ ζ (by omega)) (ja ζ (jn (jbn (jx (jr (js (jadd ζ ζ (by omega)) (jm ζ (jn ?_)))))))))
  exact jag (k + 1, c + (((((List.length ((ix m.Blocks k).Phis) : Nat) : Int)) + (((List.length ((ix m.Blocks k).Ins) : Nat) : Int))) + 1)) ⟨by dsimp only; omega, by dsimp only; rw [← hc, drop_ix (l := m.Blocks) (i := k) (by omega), cntB]; omega, by dsimp only; omega, by dsimp only; omega⟩ (dc d1 dn) (kc k1 kn) ⟨ζ, ζ, ζ, ζ, ζ, ζ, ζ, eqI (by omega), trivial⟩
  have hcnt : c = cntB m.Blocks := by rw [← hc, List.drop_of_length_le (by omega)]; simp [cntB]
  subst hcnt
  refine jex (jtx (jtx (jbh (jx (jq (jb (jq (jr (js (jf F28_0 ζ) (js (jl k0 O3 ζ ζ) (js (jlss ζ ζ) ?_)))))))))))
  refine jm ζ (jg ζ ζ (.f _) (fun hg => jf F28_0 ζ) (jg ζ ζ (.f _) (fun hg => jl k0 O3 (evg ζ hg) ζ) (jg ζ ζ (.f _) (fun hg => jgtr (evg ζ hg) ζ) (js (jor ζ ζ) (ja ζ (jn (jx ?_)))))))
  refine jif ζ (fun hc2 => ?_) (fun hc2 => ?_)
  refine jq (jr (ja ζ (ja ζ (ja ζ (jn (jx (jrt (jbr (jtr ?_)))))))))
  exact jr3 ζ ζ ζ ζ () (tIII (by first | exact func_arg hc2 | exact func_block hc2 hc3 | exact func_many hc2 hc3 hc4 | exact func_some hc2 hc3 hc4 (things_phi (by omega) hB (by omega) hP hc7) | exact func_some hc2 hc3 hc4 (things_ins (by omega) hB (phiW_end (by omega) hP) (by omega) hI hc9) | exact func_some hc2 hc3 hc4 (things_end (by omega) hB (phiW_end (by omega) hP) (insW_end (by omega) hI) hc10) | exact func_graph hc2 hc3 hc4 (things_done (by omega) hB))) dn (fun _ _ => kn)
  refine jq (jr (js (jf F28_1 ζ) (js (jl k0 O26 ζ ζ) (js (jln U26 (rMFunc.c_Blocks d0) ζ) (js (jeql ζ ζ) (ja ζ (jn (jx ?_))))))))
  refine jif ζ (fun hc3 => ?_) (fun hc3 => ?_)
  refine jq (jr (ja ζ (ja ζ (ja ζ (jn (jx (jrt (jbr (jtr ?_)))))))))
  exact jr3 ζ ζ ζ ζ () (tIII (by first | exact func_arg hc2 | exact func_block hc2 hc3 | exact func_many hc2 hc3 hc4 | exact func_some hc2 hc3 hc4 (things_phi (by omega) hB (by omega) hP hc7) | exact func_some hc2 hc3 hc4 (things_ins (by omega) hB (phiW_end (by omega) hP) (by omega) hI hc9) | exact func_some hc2 hc3 hc4 (things_end (by omega) hB (phiW_end (by omega) hP) (insW_end (by omega) hI) hc10) | exact func_graph hc2 hc3 hc4 (things_done (by omega) hB))) dn (fun _ _ => kn)
  refine jq (jr (js (jf F28_1 ζ) (js (jl k0 O26 ζ ζ) (js (jln U26 (rMFunc.c_Blocks d0) ζ) (js (jgtr ζ ζ) (jm ζ (jg ζ ζ (.f _) (fun hg => jmv ζ) (jg ζ ζ (.f _) (fun hg => jgtr (evg ζ hg) ζ) (js (jor ζ ζ) (ja ζ (jn ?_)))))))))))
  refine jx ?_
  refine jif ζ (fun hc4 => ?_) (fun hc4 => ?_)
  refine jq (jr (ja ζ (ja ζ (ja ζ (jn (jx (jrt (jbr (jtr ?_)))))))))
  exact jr3 ζ ζ ζ ζ () (tIII (by first | exact func_arg hc2 | exact func_block hc2 hc3 | exact func_many hc2 hc3 hc4 | exact func_some hc2 hc3 hc4 (things_phi (by omega) hB (by omega) hP hc7) | exact func_some hc2 hc3 hc4 (things_ins (by omega) hB (phiW_end (by omega) hP) (by omega) hI hc9) | exact func_some hc2 hc3 hc4 (things_end (by omega) hB (phiW_end (by omega) hP) (insW_end (by omega) hI) hc10) | exact func_graph hc2 hc3 hc4 (things_done (by omega) hB))) dn (fun _ _ => kn)
  refine jsk (jbn (jx (jq (jq (jr (js (jf F28_1 ζ) (js (jl k0 O26 ζ ζ) (js (jln U26 (rMFunc.c_Blocks d0) ζ) (jm ζ (jn (jx ?_)))))))))))
  refine jb ?_
  refine jlp (fun (k : Nat) => ⟨k ≤ m.Blocks.length ∧ thingsW m.Blocks.length 0 m.Blocks = thingsW m.Blocks.length k (m.Blocks.drop k), [da rMFunc (vMFunc m a0) m], [bx g1 28 [.int .i64 m.Params, a0]], [(1, .pointer (some ⟨g1, 0, none⟩)), (59, a0), (60, .int .i64 (↑(List.length m.Blocks))), (61, .int .i64 (↑k))], m.Blocks.length - k⟩) 0 ⟨by omega, rfl⟩ (dc d0 dn) (kc k0 kn) ⟨ζ, ζ, ζ, eqI (by omega), trivial⟩ ?_
  rintro k; dsimp only; rintro ⟨hk, hB⟩
  refine jq (jr (js (jlss ζ ζ) (jn (jx (jq ?_)))))
  refine jif ζ (fun hc5 => ?_) (fun hc5 => ?_)
  refine jsk (jx (jq (jb (jq (jr (jm ζ (js (jix U26 Z71 (rMFunc.c_Blocks d0) ζ ζ ζ (by omega)) (jA3 sMBlock (jlA (dix (rMFunc.c_Blocks d0) k (by omega)) A71 Z71 ζ) fun c65a c65b c65c => jalc J71 ζ fun g9 => ja ζ (jdq (rMBlock.c_Phis d0) fun q7 w7 => ?_)))))))))
  refine jdq (rMBlock.c_Ins d0) fun q8 w8 => jdq (rMBlock.c_End_To d0) fun q9 w9 => jsta k0 Z71 ζ ζ ζ ⟨w7.one, w8.one, ζ, ζ, ζ, w9.one, ζ, trivial⟩ (saf ζ) (jn (jx (jq (jq (jr (js (jf F71_0 ζ) (js (jl k0 O68 ζ ζ) (js (jln U68 (rMBlock.c_Phis d0) ζ) (jm ζ ?_)))))))))
  refine jn (jx (jb ?_))
  refine jlp (fun (i : Nat) => ⟨i ≤ (ix m.Blocks k).Phis.length ∧ phiW (ix m.Blocks k).Phis 0 (ix m.Blocks k).Phis = phiW (ix m.Blocks k).Phis i ((ix m.Blocks k).Phis.drop i), [da rMBlock (vMBlock (ix m.Blocks k) (c65a, c65b, c65c)) (ix m.Blocks k), da rMFunc (vMFunc m a0) m], [bx g9 71 [c65a, c65b, .int .i64 (((ix m.Blocks k).End).Op), .int .i64 (((ix m.Blocks k).End).A), .int .i64 (((ix m.Blocks k).End).B), c65c, .int .i32 (((ix m.Blocks k).End).Imm)], bx g1 28 [.int .i64 m.Params, a0]], [(1, .pointer (some ⟨g1, 0, none⟩)), (8, .int .i64 (↑k)), (9, .pointer (some ⟨g9, 0, none⟩)), (59, a0), (60, .int .i64 (↑(List.length m.Blocks))), (61, .int .i64 (↑k)), (67, c65a), (68, .int .i64 (↑(List.length ((ix m.Blocks k).Phis)))), (69, .int .i64 (↑i))], (ix m.Blocks k).Phis.length - i⟩) 0 ⟨by omega, rfl⟩ (dc d0 (dc d1 dn)) (kc k0 (kc k0 kn)) ⟨ζ, ζ, ζ, ζ, ζ, ζ, ζ, ζ, eqI (by omega), trivial⟩ ?_
  rintro i; dsimp only; rintro ⟨hi, hP⟩
  refine jq (jr (js (jlss ζ ζ) (jn (jx (jq ?_)))))
  refine jif ζ (fun hc6 => ?_) (fun hc6 => ?_)
  refine jsk (jx (jq (jb (jq (jr (jm ζ (js (jix U68 Z76 (rMBlock.c_Phis d0) ζ ζ ζ (by omega)) (jA sPhi (jlA (dix (rMBlock.c_Phis d0) i (by omega)) A76 Z76 ζ) fun c73 => jalc J76 ζ fun g11 => ja ζ (jdq (rPhi.c_In d0) fun q11 w11 => ?_)))))))))
  refine jsta k0 Z76 ζ ζ ζ ⟨ζ, w11.one, trivial⟩ (saf ζ) (jn (jx (jq (jtl 5 Mixed (by kernel_rfl) (jt (jla k0 A76 Z76 ζ ζ ζ) (jt (jf F71_0 ζ) (jt (jl k1 O68 ζ ζ) (jt (jmv ζ) (jt (jshi (hi := i) U68 Z76 (rMBlock.c_Phis d1) ζ ζ ζ (by omega)) (jtt (jdq (dhi (rMBlock.c_Phis d1) i (by omega) (by omega)) fun q12 w12 => ?_)))))))))))
  refine jcv E46 ζ ζ pPhi_ct (dc d0 (dc (dhi (rMBlock.c_Phis d1) i (by omega) (by omega)) dn)) kn (ja ζ (jn (jx (jq (jr (jm ζ (js (jneq ζ ζ) (jn (jx ?_)))))))))
  refine jif ζ (fun hc7 => ?_) (fun hc7 => ?_)
  refine jq (jr (jm ζ (jm ζ (jm ζ (js (jsub ζ ζ (by omega)) (ja ζ (ja ζ (ja ζ (jn (jx (jrt ?_)))))))))))
  refine jbr (jtr (jtr (jbr (jtr (jbr (jtr (jtr (jbr (jtr ?_)))))))))
  exact jr3 ζ ζ ζ ζ () (tIII (by first | exact func_arg hc2 | exact func_block hc2 hc3 | exact func_many hc2 hc3 hc4 | exact func_some hc2 hc3 hc4 (things_phi (by omega) hB (by omega) hP hc7) | exact func_some hc2 hc3 hc4 (things_ins (by omega) hB (phiW_end (by omega) hP) (by omega) hI hc9) | exact func_some hc2 hc3 hc4 (things_end (by omega) hB (phiW_end (by omega) hP) (insW_end (by omega) hI) hc10) | exact func_graph hc2 hc3 hc4 (things_done (by omega) hB))) dn (fun _ _ => kn)
  refine jsk (jbn (jx (jr (js (jadd ζ ζ (by omega)) (jm ζ (jn ?_))))))
  exact jag (i + 1) ⟨by omega, phiW_next (by omega) hP hc7⟩ (dc d1 (dc d2 dn)) (kc k1 (kc k1 kn)) ⟨ζ, ζ, ζ, ζ, ζ, ζ, ζ, ζ, eqI (by omega), trivial⟩
  refine jex (jtx (jtx (jbh (jx (jq (jq (jr (js (jf F71_1 ζ) (js (jl k0 O69 ζ ζ) (js (jln U69 (rMBlock.c_Ins d0) ζ) (jm ζ ?_)))))))))))
  refine jn (jx (jb ?_))
  refine jlp (fun (j : Nat) => ⟨j ≤ (ix m.Blocks k).Ins.length ∧ insW 0 (ix m.Blocks k).Ins = insW j ((ix m.Blocks k).Ins.drop j), [da rMBlock (vMBlock (ix m.Blocks k) (c65a, c65b, c65c)) (ix m.Blocks k), da rMFunc (vMFunc m a0) m], [bx g9 71 [c65a, c65b, .int .i64 (((ix m.Blocks k).End).Op), .int .i64 (((ix m.Blocks k).End).A), .int .i64 (((ix m.Blocks k).End).B), c65c, .int .i32 (((ix m.Blocks k).End).Imm)], bx g1 28 [.int .i64 m.Params, a0]], [(1, .pointer (some ⟨g1, 0, none⟩)), (8, .int .i64 (↑k)), (9, .pointer (some ⟨g9, 0, none⟩)), (59, a0), (60, .int .i64 (↑(List.length m.Blocks))), (61, .int .i64 (↑k)), (88, c65b), (89, .int .i64 (↑(List.length ((ix m.Blocks k).Ins)))), (90, .int .i64 (↑j))], (ix m.Blocks k).Ins.length - j⟩) 0 ⟨by omega, rfl⟩ (dc d0 (dc d1 dn)) (kc k0 (kc k0 kn)) ⟨ζ, ζ, ζ, ζ, ζ, ζ, ζ, ζ, eqI (by omega), trivial⟩ ?_
  rintro j; dsimp only; rintro ⟨hj, hI⟩
  refine jq (jr (js (jlss ζ ζ) (jn (jx (jq ?_)))))
  refine jif ζ (fun hc8 => ?_) (fun hc8 => ?_)
  refine jsk (jx (jq (jb (jq (jr (jm ζ (js (jix U69 Z46 (rMBlock.c_Ins d0) ζ ζ ζ (by omega)) (jA sMach (jlA (dix (rMBlock.c_Ins d0) j (by omega)) A46 Z46 ζ) fun c94 => jalc J46 ζ fun g14 => ja ζ (jdq (rMach.c_Args d0) fun q14 w14 => ?_)))))))))
  refine jsta k0 Z46 ζ ζ ζ ⟨ζ, ζ, ζ, ζ, ζ, ζ, ζ, w14.one, trivial⟩ (saf ζ) (jn (jx (jq (jr (js (jla k0 A46 Z46 ζ ζ ζ) (jcv E47 ζ ζ pIns_ct (dc d0 dn) kn (ja ζ (jn (jx (jq (jr ?_)))))))))))
  refine jm ζ (js (jneq ζ ζ) (jn (jx ?_)))
  refine jif ζ (fun hc9 => ?_) (fun hc9 => ?_)
  refine jq (jr (jm ζ (jm ζ (jm ζ (ja ζ (ja ζ (ja ζ (jn (jx (jrt (jbr ?_)))))))))))
  refine jtr (jtr (jbr (jtr (jbr (jtr (jtr (jbr (jtr ?_))))))))
  exact jr3 ζ ζ ζ ζ () (tIII (by first | exact func_arg hc2 | exact func_block hc2 hc3 | exact func_many hc2 hc3 hc4 | exact func_some hc2 hc3 hc4 (things_phi (by omega) hB (by omega) hP hc7) | exact func_some hc2 hc3 hc4 (things_ins (by omega) hB (phiW_end (by omega) hP) (by omega) hI hc9) | exact func_some hc2 hc3 hc4 (things_end (by omega) hB (phiW_end (by omega) hP) (insW_end (by omega) hI) hc10) | exact func_graph hc2 hc3 hc4 (things_done (by omega) hB))) dn (fun _ _ => kn)
  refine jsk (jbn (jx (jr (js (jadd ζ ζ (by omega)) (jm ζ (jn ?_))))))
  exact jag (j + 1) ⟨by omega, insW_next (by omega) hI hc9⟩ (dc d1 (dc d2 dn)) (kc k1 (kc k1 kn)) ⟨ζ, ζ, ζ, ζ, ζ, ζ, ζ, ζ, eqI (by omega), trivial⟩
  refine jex (jtx (jtx (jbh (jx (jq (jr (js (jf F71_2 ζ) (js (jla k0 A59 Z59 ζ ζ ζ) (js (jf F28_1 ζ) (js (jl k1 O26 ζ ζ) (js (jln U26 (rMFunc.c_Blocks d1) ζ) ?_)))))))))))
  refine jcv E48 ζ ζ (pEnd_ct (↑(List.length m.Blocks))) (dc (rMBlock.P_End d0) dn) kn (ja ζ (jn (jx (jq (jr (jm ζ (js (jneq ζ ζ) (jn (jx ?_)))))))))
  refine jif ζ (fun hc10 => ?_) (fun hc10 => ?_)
  refine jq (jstl Mixed (by kernel_rfl) (jt (jmv ζ) (jt (jmv ζ) (jt (jf F71_1 ζ) (jt (jl k0 O69 ζ ζ) (jt (jln U69 (rMBlock.c_Ins d0) ζ) (jt (jas ζ) (jt (jas ζ) (jt (jas ζ) (jdn (jx ?_)))))))))))
  refine jrt (jbr (jtr (jtr (jbr (jtr ?_)))))
  exact jr3 ζ ζ ζ ζ () (tIII (by first | exact func_arg hc2 | exact func_block hc2 hc3 | exact func_many hc2 hc3 hc4 | exact func_some hc2 hc3 hc4 (things_phi (by omega) hB (by omega) hP hc7) | exact func_some hc2 hc3 hc4 (things_ins (by omega) hB (phiW_end (by omega) hP) (by omega) hI hc9) | exact func_some hc2 hc3 hc4 (things_end (by omega) hB (phiW_end (by omega) hP) (insW_end (by omega) hI) hc10) | exact func_graph hc2 hc3 hc4 (things_done (by omega) hB))) dn (fun _ _ => kn)
  refine jsk (jbn (jx (jr (js (jadd ζ ζ (by omega)) (jm ζ (jn ?_))))))
  exact jag (k + 1) ⟨by omega, things_next (by omega) hB (phiW_end (by omega) hP) (insW_end (by omega) hI) hc10⟩ (dc d1 dn) (kc k1 kn) ⟨ζ, ζ, ζ, eqI (by omega), trivial⟩
  refine jex (jtx (jtx (jbh (jx (jq (jr (js (jla k0 A28 Z28 ζ ζ ζ) (jcv E49 ζ ζ (pGraph_ct (by first | omega | exact things_to (things_done (by omega) hB)) (by first | omega | exact things_to (things_done (by omega) hB))) (dc d0 dn) kn (js (jex' ζ ζ) (js (jex' ζ ζ) (js (jex' ζ ζ) ?_)))))))))))
  refine ja ζ (ja ζ (ja ζ (jn (jx (jrt ?_)))))
  exact jr3 ζ ζ ζ ζ () (tIII (by first | exact func_arg hc2 | exact func_block hc2 hc3 | exact func_many hc2 hc3 hc4 | exact func_some hc2 hc3 hc4 (things_phi (by omega) hB (by omega) hP hc7) | exact func_some hc2 hc3 hc4 (things_ins (by omega) hB (phiW_end (by omega) hP) (by omega) hI hc9) | exact func_some hc2 hc3 hc4 (things_end (by omega) hB (phiW_end (by omega) hP) (insW_end (by omega) hI) hc10) | exact func_graph hc2 hc3 hc4 (things_done (by omega) hB))) dn (fun _ _ => kn)
theorem pRight_ct {a0 : Value} {m : D.MFunc} : Tv Tryz.prog 11 #[vMFunc m a0] [da rMFunc (vMFunc m a0) m] [] (.bool (rightM m)) := by
  refine jenter (args := [vMFunc m a0]) Tryz.func11 rfl rfl rfl fun w0 X => ?_
  refine jq (jr (jbox ζ ζ fun g1 => ja ζ (jn (jx (jq (jr (js (jla k0 A28 Z28 ζ ζ ζ) (jcv E24 ζ ζ pFunc_ct (dc d0 dn) kn (jm ζ (js (jex' ζ ζ) ?_))))))))))
  refine js (jex' ζ ζ) (js (jex' ζ ζ) (ja ζ (ja ζ (ja ζ (jn (jx (jq (jr (jm ζ (js (jeql ζ ζ) (ja ζ ?_)))))))))))
  refine jn (jx (jrt ?_))
  exact jrB ζ ζ (by rfl)
end Go.Proofs.YtdlcjaefkjbonaaGreat
namespace Go.Proofs.YtdlcjaefkjbonaaGreat
set_option linter.unusedVariables false
set_option linter.unusedSimpArgs false
set_option linter.unusedSectionVars false
open Go.JE
theorem E69 : Ent Tryz.prog 69 := ⟨_, Tryz.func69, by kernel_rfl, by kernel_rfl⟩
def isFrom (from' : Int) (x : D.In) : Bool := decide (x.From = from')
def phiVal (from' : Int) (regs : List Int) (p : D.Phi) : Int := ix regs (Int.toNat (ix p.In (Int.toNat (idxM p.In (isFrom from')))).Val)
def setP : List Int → List D.Phi → List Int → List Int
  | rs, p :: l, v :: vs => setP (rs.set (Int.toNat p.Dst) v) l vs
  | rs, _, _ => rs
def phisM (l : List D.Phi) (from' : Int) (regs : List Int) : List Int := setP regs l (l.map (phiVal from' regs))
theorem idx_lt {α : Type} (l : List α) (q : α → Bool) : idxM l q < l.length := by
  unfold idxM
  cases h : l.findIdx? q with
  | none => simp only; omega
  | some i => obtain ⟨hi, _⟩ := List.findIdx?_eq_some_iff_getElem.1 h; simp only; omega
theorem setP_len : ∀ (rs : List Int) (l : List D.Phi) (vs : List Int), (setP rs l vs).length = rs.length
  | rs, p :: l, v :: vs => by rw [setP, setP_len]; simp
  | rs, [], _ => by cases ‹List Int› <;> rfl
  | rs, _ :: _, [] => rfl
theorem setP_end (rs : List Int) (vs : List Int) : setP rs [] vs = rs := by cases vs <;> rfl
theorem setP_next {rs rs2 : List Int} {l : List D.Phi} {vs : List Int} {k : Nat} (h1 : k < l.length) (h2 : k < vs.length) (h : setP rs l vs = setP rs2 (l.drop k) (vs.drop k)) : setP rs l vs = setP (rs2.set (Int.toNat (ix l k).Dst) (ix vs k)) (l.drop (k + 1)) (vs.drop (k + 1)) := by
  rw [h, drop_ix (l := l) h1, drop_ix (l := vs) h2, setP]
def phiOk (from' : Int) (n : Nat) (p : D.Phi) : Prop := 0 ≤ p.Dst ∧ p.Dst < n ∧ 0 ≤ idxM p.In (isFrom from') ∧ ∀ x ∈ p.In, 0 ≤ x.Val ∧ x.Val < n
theorem phiOk.v {from' : Int} {n : Nat} {p : D.Phi} (h : phiOk from' n p) : 0 ≤ (ix p.In (Int.toNat (idxM p.In (isFrom from')))).Val ∧ (ix p.In (Int.toNat (idxM p.In (isFrom from')))).Val < n := by
  have := idx_lt p.In (isFrom from')
  exact h.2.2.2 _ (ix_mem (by have := h.2.2.1; omega))
theorem pPhis1_ct {x : D.In} {c : Int} {g1 : Nat} : Tr Tryz.prog 69 #[vIn x (), .pointer (some ⟨g1, 0, none⟩)] [da rIn (vIn x ()) x] [bx g1 3 [.int .i64 c]] (fun _ : Unit => .bool (isFrom c x)) (fun _ => []) (fun _ _ => [bx g1 3 [.int .i64 c]]) := by
  refine jenter (args := [vIn x (), .pointer (some ⟨g1, 0, none⟩)]) Tryz.func69 rfl rfl rfl fun w0 X => ?_
  refine jq (jr (jbox ζ ζ fun g2 => ja ζ (jn (jx (jq (jr (js (jf F73_0 ζ) (js (jl k0 O3 ζ ζ) (js (jl k1 O3 ζ ζ) (js (jeql ζ ζ) ?_))))))))))
  refine ja ζ (jn (jx (jrt ?_)))
  exact jr1 ζ ζ () (congrArg Value.bool (Eq.symm (by rfl))) dn (fun _ _ => (kc k1 kn))
set_option maxRecDepth 4000 in
theorem pPhis_ct {a0 : Value} {l : List D.Phi} (from' : Int) {a2 : Value} {regs : List Int} {B2 : Nat} (hrl0 : regs.length < 1073741824) (hp : ∀ p ∈ l, phiOk from' regs.length p) : Tr Tryz.prog 32 #[a0, .int .i64 from', a2] [dv (rL rPhi) a0 l] [gl B2 (rI .i32) 21 a2 regs] (fun _ : Unit => .tuple #[]) (fun _ => []) (fun _ _ => [gl B2 (rI .i32) 21 a2 (phisM l (from') regs)]) := by
  refine jenter (args := [a0, .int .i64 from', a2]) Tryz.func32 rfl rfl rfl fun w0 X => ?_
  refine cgo k0 fun w1 => jq (jr (jbox ζ ζ fun g4 => jn (jx (jq (jr (ja ζ (jn (jx (jq ?_)))))))))
  refine jq (jr (jm ζ (jdq d0 fun q2 w2 => js (jln U68 d0 ζ) (jm ζ (jn (jx (jb (cnl (r := (rI .i32)) (E := 21) ?_))))))))
  refine jlp (u3 fun (k : Nat) (vo : Value) (vs : List Int) => ⟨k ≤ l.length ∧ vs = (l.take k).map (phiVal from' regs), [dv (rL rPhi) a0 l], [gl X.n (rI .i32) 21 vo vs, bx g4 3 [.int .i64 (from')], gl B2 (rI .i32) 21 a2 regs], [(0, a0), (2, a2), (4, .pointer (some ⟨g4, 0, none⟩)), (6, vo), (12, a0), (13, .int .i64 (↑(List.length l))), (14, .int .i64 (↑k))], l.length - k⟩) (0, .slice none 0 0, []) ⟨by dsimp only; omega, rfl⟩ (dc d0 dn) (kc k0 (kc k0 (kc k0 kn))) ⟨ζ, ζ, ζ, ζ, ζ, ζ, eqI (by omega), trivial⟩ ?_
  rintro ⟨k, vo, vs⟩; dsimp only [u3]; rintro ⟨hk, hvs⟩
  refine cgo k0 fun w3 => ?_
  have hvl : vs.length = k := by rw [hvs]; simp; omega
  refine jq (jr (js (jlss ζ ζ) (jn (jx (jq ?_)))))
  refine jif ζ (fun hc1 => ?_) (fun hc1 => ?_)
  have hpk := hp _ (ix_mem (l := l) (i := k) (by omega))
  have hpv := hpk.v
  have hpi := idx_lt (ix l k).In (isFrom from')
  obtain ⟨hd0, hd1, hi0, _⟩ := hpk
  refine jsk (jx (jq (jb (jq (jr (js (jix U68 Z76 d0 ζ ζ ζ (by omega)) (jA sPhi (jlA (dix d0 k (by omega)) A76 Z76 ζ) fun c17 => jalc J76 ζ fun g8 => jdq (rPhi.c_In d0) fun q5 w5 => jsta k0 Z76 ζ ζ ζ ⟨ζ, w5.one, trivial⟩ (saf ζ) (jn ?_))))))))
  refine jx (jq (jr (js (jf F76_1 ζ) (js (jl k0 O74 ζ ζ) (js (jmf1 ζ) (jcp E68 ζ ζ (idxFIn_ct (isFrom from') E69 (fun x _ c => Tr.it pPhis1_ct ir)) (dc (rPhi.c_In d0) (dc (db dn) dn)) (kc k2 kn) p1 (ja ζ (jn (jx (jr (jm ζ ?_)))))))))))
  refine jm ζ (js (jf F76_1 ζ) (js (jl k1 O74 ζ ζ) (jm ζ (js (jix (i := (Int.toNat (idxM ((ix l k).In) (isFrom from')))) U74 Z73 (rPhi.c_In d0) ζ ζ (by omega) (by omega)) (js (jf F73_1 ζ) (js (jlI (rIn.A_Val (dix (rPhi.c_In d0) (Int.toNat (idxM ((ix l k).In) (isFrom from'))) (by omega))) O3 ζ) (js (jig (i := (Int.toNat ((ix ((ix l k).In) (Int.toNat (idxM ((ix l k).In) (isFrom from')))).Val))) U34 Z21 k3 ζ ζ (by omega) (by omega)) (js (jgI k3 (by omega) O21 ζ) (japv U34 I21 (by decide) ζ ζ k2 ζ (wI (wgl k3 (by omega))) (by omega) (fun _ => ζ) fun v33 _ w6 => ja ζ (jn ?_))))))))))
  refine jbn (jx (jr (js (jadd ζ ζ (by omega)) (jm ζ (jn ?_)))))
  exact jag (k + 1, v33, vs ++ [ix regs (Int.toNat ((ix ((ix l k).In) (Int.toNat (idxM ((ix l k).In) (isFrom from')))).Val))]) ⟨by dsimp only; omega, by dsimp only; rw [hvs, take_ix (by omega), List.map_append]; rfl⟩ (dc d1 dn) (kc k0 (kc k0 (kc k1 kn))) ⟨ζ, ζ, ζ, ζ, ζ, ζ, eqI (by omega), trivial⟩
  have hvl2 : vs.length = l.length := by omega
  refine jex (jtx (jtx (jbh (jx (jq (jr (jm ζ (js (jln U68 d0 ζ) (jm ζ (jn (jx ?_)))))))))))
  refine jb ?_
  refine jlp (u2 fun (k : Nat) (rs : List Int) => ⟨k ≤ l.length ∧ setP regs l vs = setP rs (l.drop k) (vs.drop k) ∧ rs.length = regs.length, [dv (rL rPhi) a0 l], [gl X.n (rI .i32) 21 vo vs, gl B2 (rI .i32) 21 a2 rs], [(2, a2), (6, vo), (35, a0), (36, .int .i64 (↑(List.length l))), (37, .int .i64 (↑k))], l.length - k⟩) (0, regs) ⟨by dsimp only; omega, rfl, rfl⟩ (dc d0 dn) (kc k0 (kc k1 kn)) ⟨ζ, ζ, ζ, ζ, eqI (by omega), trivial⟩ ?_
  rintro ⟨k, rs⟩; dsimp only [u2]; rintro ⟨hk, hS, hrl⟩
  refine jq (jr (js (jlss ζ ζ) (jn (jx (jq ?_)))))
  refine jif ζ (fun hc2 => ?_) (fun hc2 => ?_)
  have hpk := hp _ (ix_mem (l := l) (i := k) (by omega))
  obtain ⟨hd0, hd1, hi0, _⟩ := hpk
  refine jsk (jx (jq (jb (jq (jr (jm ζ (js (jix U68 Z76 d0 ζ ζ ζ (by omega)) (jA sPhi (jlA (dix d0 k (by omega)) A76 Z76 ζ) fun c41 => jalc J76 ζ fun g11 => ja ζ (jdq (rPhi.c_In d0) fun q8 w8 => ?_)))))))))
  refine jsta k0 Z76 ζ ζ ζ ⟨ζ, w8.one, trivial⟩ (saf ζ) (jn (jx (jtl 8 Mixed (by kernel_rfl) (jt (jmv ζ) (jt (jf F76_0 ζ) (jt (jl k0 O3 ζ ζ) (jt (jmv ζ) (jt (jmv ζ) (jt (jig U34 Z21 k1 ζ ζ ζ (by omega)) (jt (jgI k1 (by omega) O21 ζ) (jt (jig (i := (Int.toNat ((ix l k).Dst))) U34 Z21 k2 ζ ζ (by omega) (by omega)) ?_)))))))))))
  refine jtt (jsg k2 ζ Z21 ζ ζ ζ (by omega) (wI (wgl k1 (by omega))) (jn (jbn (jx (jr (js (jadd ζ ζ (by omega)) (jm ζ (jn ?_))))))))
  exact jag (k + 1, List.set rs (Int.toNat ((ix l k).Dst)) (ix vs k)) ⟨by dsimp only; omega, setP_next (by omega) (by omega) hS, by dsimp only; rw [List.length_set]; exact hrl⟩ (dc d1 dn) (kc k2 (kc k0 kn)) ⟨ζ, ζ, ζ, ζ, eqI (by omega), trivial⟩
  refine jex (jtx (jtx (jbh ?_)))
  exact jd0 ζ () ζ dn (fun _ _ => (kcg (by have e1 : k = l.length := (by omega); unfold phisM; rw [List.take_of_length_le (by omega)] at hvs; rw [← hvs, hS, List.drop_of_length_le (by omega), setP_end]) k1 kn))
end Go.Proofs.YtdlcjaefkjbonaaGreat
namespace Go.Proofs.YtdlcjaefkjbonaaGreat
set_option linter.unusedVariables false
set_option linter.unusedSimpArgs false
set_option linter.unusedSectionVars false
open Go.JE
def callR (rs : List Int) (d : Int) (an : List Int) : List Int := rs.set (Int.toNat d) (ix an 0)
def insRun (N : Int) (K : List Int → List Int → List D.Event → List Int → Int → D.Outcome) : List D.Mach → List Int → List Int → List D.Event → List Int → Int → D.Outcome
  | [], rs, me, cl, an, s => K rs me cl an s
  | i :: l, rs, me, cl, an, s =>
    if N ≤ s then ⟨3, 0, me, cl, s⟩
    else if i.Op = 28 then insRun N K l (callR rs i.D an) me (cl ++ [⟨i.Imm, i.Args.map (fun r => ix rs (Int.toNat r))⟩]) (an.drop 1) (s + 1)
    else if (stepM i rs me).1.2 = false then ⟨2, (stepM i rs me).1.1, (stepM i rs me).2.2, cl, s + 1⟩
    else insRun N K l (stepM i rs me).2.1 (stepM i rs me).2.2 cl an (s + 1)
def endRun (N : Int) (e : D.End) (go : Int → List Int → List Int → List D.Event → List Int → Int → D.Outcome) (rs me : List Int) (cl : List D.Event) (an : List Int) (s : Int) : D.Outcome :=
  if N ≤ s then ⟨3, 0, me, cl, s⟩
  else if e.Op = 7 then ⟨1, getM rs e.A, me, cl, s + 1⟩
  else if e.Op = 8 then ⟨2, e.Imm, me, cl, s + 1⟩
  else go (ix e.To (Int.toNat (goesM e rs))) rs me cl an (s + 1)
def blockRun (bs : List D.MBlock) (N : Int) : Nat → Int → Int → List Int → List Int → List D.Event → List Int → Int → D.Outcome
  | 0, _, _, _, me, cl, _, s => ⟨3, 0, me, cl, s⟩
  | f + 1, at', from', rs, me, cl, an, s => insRun N (endRun N (ix bs (Int.toNat at')).End (fun t => blockRun bs N f t at')) (ix bs (Int.toNat at')).Ins (phisM (ix bs (Int.toNat at')).Phis from' rs) me cl an s
def startR (m : D.MFunc) (i : D.Input) : List Int := List.take (min (Int.toNat m.Params) i.Args.length) i.Args ++ List.drop (min (Int.toNat m.Params) i.Args.length) (List.replicate 8192 0)
def runM (m : D.MFunc) (i : D.Input) : D.Outcome := if rightM m = false then ⟨4, 0, [], [], 0⟩ else blockRun m.Blocks i.Steps (Int.toNat i.Steps + 1) 0 (-1) (startR m i) (memM i) [] i.Answers 0
theorem blockRun_pos {bs : List D.MBlock} {N : Int} {f : Nat} (hf : 0 < f) (at' from' : Int) (rs me : List Int) (cl : List D.Event) (an : List Int) (s : Int) :
    blockRun bs N f at' from' rs me cl an s = insRun N (endRun N (ix bs (Int.toNat at')).End (fun t => blockRun bs N (f - 1) t at')) (ix bs (Int.toNat at')).Ins (phisM (ix bs (Int.toNat at')).Phis from' rs) me cl an s := by
  obtain ⟨f, rfl⟩ : ∃ g, f = g + 1 := ⟨f - 1, by omega⟩
  rfl
theorem phisM_len (l : List D.Phi) (from' : Int) (rs : List Int) : (phisM l from' rs).length = rs.length := setP_len _ _ _
theorem memM_len (i : D.Input) : (memM i).length ≤ 4096 := by unfold memM; simp; omega
def StepOk (rs me : List Int) (r : (Int × Bool) × List Int × List Int) : Prop := r.2.1.length = rs.length ∧ r.2.2.length = me.length
theorem StepOk.ite {rs me : List Int} {c : Prop} [Decidable c] {a b : (Int × Bool) × List Int × List Int} (h1 : StepOk rs me a) (h2 : StepOk rs me b) : StepOk rs me (if c then a else b) := by split <;> assumption
theorem stepM_ok (i : D.Mach) (rs me : List Int) : StepOk rs me (stepM i rs me) := by
  unfold stepM
  repeat' apply StepOk.ite
  all_goals (constructor <;> (try simp only [setM_len, storeM_len]))
theorem stepM_len (i : D.Mach) (rs me : List Int) : (stepM i rs me).2.1.length = rs.length ∧ (stepM i rs me).2.2.length = me.length := stepM_ok i rs me
structure WFm (m : D.MFunc) : Prop where
  p0 : 0 ≤ m.Params ∧ m.Params ≤ 4
  n0 : 0 < m.Blocks.length ∧ m.Blocks.length ≤ 512
  ins : ∀ x ∈ m.Blocks, ∀ i ∈ x.Ins, i.Op = 28 → 0 ≤ i.D ∧ i.D < 8192 ∧ i.Args.length ≤ 4 ∧ ∀ r ∈ i.Args, 0 ≤ r ∧ r < 8192
  to : ∀ x ∈ m.Blocks, toM x.End = true ∧ ∀ t ∈ x.End.To, 1 ≤ t ∧ t < m.Blocks.length
  phi : ∀ k : Nat, k < m.Blocks.length → ∀ p ∈ (ix m.Blocks k).Phis, 0 < k ∧ p.In.map (·.From) = predsM m.Blocks k ∧ 0 ≤ p.Dst ∧ p.Dst < 8192 ∧ ∀ x ∈ p.In, 0 ≤ x.Val ∧ x.Val < 8192
theorem regM_all : ∀ {l : List Int}, regM l = true → ∀ r ∈ l, 0 ≤ r ∧ r < 8192
  | [], _, r, hr => by cases hr
  | x :: l, h, r, hr => by
    rw [regM] at h
    split at h
    · cases h
    · rcases List.mem_cons.1 hr with rfl | hr
      · omega
      · exact regM_all h r hr
theorem insW_none : ∀ {l : List D.Mach} {k : Nat}, insW k l = none → ∀ i ∈ l, insE i = 0
  | [], _, _, i, hi => by cases hi
  | y :: l, k, h, i, hi => by
    rw [insW] at h
    split at h
    · rcases List.mem_cons.1 hi with rfl | hi
      · assumption
      · exact insW_none h i hi
    · cases h
theorem phiW_none {P : List D.Phi} : ∀ {l : List D.Phi} {k : Nat}, phiW P k l = none → ∀ p ∈ l, ∃ j, phiE p (P.take j) = 0
  | [], _, _, i, hi => by cases hi
  | y :: l, k, h, i, hi => by
    rw [phiW] at h
    split at h
    · rcases List.mem_cons.1 hi with rfl | hi
      · exact ⟨_, by assumption⟩
      · exact phiW_none h i hi
    · cases h
theorem graph_none : ∀ {l : List D.MBlock} {k : Nat} {bs : List D.MBlock}, (graphPhis bs k l).1 = 0 → ∀ j : Nat, j < l.length → ∀ p ∈ (ix l j).Phis, badPhi bs (k + j) p = false
  | [], _, _, _, j, hj => by cases hj
  | x :: l, k, bs, h, j, hj => by
    rw [graphPhis] at h
    cases hf : x.Phis.findIdx? (badPhi bs k) with
    | some i => rw [hf] at h; cases h
    | none =>
      rw [hf] at h
      intro p hp
      cases j with
      | zero => exact (List.findIdx?_eq_none_iff.1 hf) p hp
      | succ j =>
        have := graph_none h j (by simpa using hj) p (by simpa [ix] using hp)
        rw [show k + 1 + j = k + (j + 1) by omega] at this
        exact this
theorem right_wf {m : D.MFunc} (h : rightM m = true) : WFm m := by
  unfold rightM at h
  rw [decide_eq_true_eq] at h
  unfold funcM at h
  split at h
  · cases h
  split at h
  · cases h
  split at h
  · cases h
  rename_i h1 h2 h3
  cases ht : thingsW m.Blocks.length 0 m.Blocks with
  | some t =>
    rw [ht] at h
    exfalso
    have : ∀ (bs : List D.MBlock) (b : Nat) (n : Int) (t : Int × Int × Int), thingsW n b bs = some t → t.1 ≠ 0 := by
      intro bs
      induction bs with
      | nil => intro b n t h; cases h
      | cons x l ih =>
        intro b n t h
        rw [thingsW] at h
        cases hb : blockW n x with
        | none => rw [hb] at h; exact ih _ _ _ h
        | some u =>
          rw [hb] at h
          cases h
          show u.1 ≠ 0
          unfold blockW at hb
          have hp : ∀ (P l : List D.Phi) (k : Nat) (u : Int × Int), phiW P k l = some u → u.1 ≠ 0 := by
            intro P l
            induction l with
            | nil => intro k u h; cases h
            | cons p l ih2 => intro k u h; rw [phiW] at h; split at h; (· exact ih2 _ _ h); cases h; assumption
          have hi : ∀ (l : List D.Mach) (k : Nat) (u : Int × Int), insW k l = some u → u.1 ≠ 0 := by
            intro l
            induction l with
            | nil => intro k u h; cases h
            | cons p l ih2 => intro k u h; rw [insW] at h; split at h; (· exact ih2 _ _ h); cases h; assumption
          cases h1 : phiW x.Phis 0 x.Phis with
          | some t => rw [h1] at hb; cases hb; exact hp _ _ _ _ h1
          | none =>
            rw [h1] at hb
            cases h2 : insW 0 x.Ins with
            | some t => rw [h2] at hb; cases hb; exact hi _ _ _ h2
            | none =>
              rw [h2] at hb
              by_cases h3 : endE x.End n = 0
              · simp only [if_pos h3] at hb; cases hb
              · simp only [if_neg h3] at hb; cases hb; exact h3
    exact this _ _ _ _ ht h
  | none =>
    rw [ht] at h
    replace h : (graphM m).1 = 0 := h
    have hg : (graphPhis m.Blocks 0 m.Blocks).1 = 0 := by
      unfold graphM at h; split at h
      · cases h
      · exact h
    have hN := things_none _ _ ht
    refine ⟨by omega, ⟨by omega, by omega⟩, ?_, fun x hx => ?_, ?_⟩
    · intro x hx i hi h28
      have h9 := insW_none (hN x hx).2.1 i hi
      unfold insE at h9
      split at h9
      · cases h9
      split at h9
      · cases h9
      rename_i ha hb
      have hm : makesM i = [i.D] := by unfold makesM; repeat rw [if_neg (by omega)]
      have htk : takesM i = i.Args := by unfold takesM; repeat rw [if_neg (by omega)]
                                         rw [if_pos h28]
      rw [hm, htk] at hb
      simp only [not_or, Bool.not_eq_false] at hb
      have hD := regM_all hb.1 i.D (by simp)
      exact ⟨hD.1, hD.2, by omega, regM_all hb.2⟩
    · have := end_to (hN x hx).2.2
      exact ⟨this.1, this.2.2⟩
    · intro k hk p hp
      have hb := graph_none hg k hk p hp
      rw [Nat.zero_add] at hb
      unfold badPhi at hb
      simp only [Bool.or_eq_false_iff, decide_eq_false_iff_not, Bool.not_eq_false', decide_eq_true_eq] at hb
      obtain ⟨j, hj⟩ := phiW_none (hN _ (ix_mem hk)).1 p hp
      unfold phiE at hj
      split at hj
      · cases hj
      rename_i h5
      simp only [not_or, Bool.not_eq_false, Bool.not_eq_true] at h5
      have hD := regM_all h5.1 p.Dst (by simp)
      refine ⟨by omega, hb.2, hD.1, hD.2, fun x hx => ?_⟩
      have h6 := h5.2
      unfold anyM at h6
      rw [List.any_eq_false] at h6
      have h7 := h6 x hx
      simp only [Bool.not_eq_true, Bool.not_eq_false'] at h7
      exact regM_all h7 x.Val (by simp)
section
variable {m : D.MFunc} (hw : WFm m)
include hw
theorem WFm.from0 : ∀ p ∈ (ix m.Blocks (Int.toNat 0)).Phis, phiOk (-1) 8192 p := by
  intro p hp
  have := hw.phi 0 hw.n0.1 p hp
  omega
theorem WFm.from1 {at' t : Int} (ha : 0 ≤ at' ∧ at' < m.Blocks.length) (ht : t ∈ (ix m.Blocks (Int.toNat at')).End.To) : (0 ≤ t ∧ t < m.Blocks.length) ∧ ∀ p ∈ (ix m.Blocks (Int.toNat t)).Phis, phiOk at' 8192 p := by
  have h1 := (hw.to _ (ix_mem (l := m.Blocks) (i := Int.toNat at') (by omega))).2 t ht
  refine ⟨by omega, fun p hp => ?_⟩
  obtain ⟨h2, h3, h4, h5, h6⟩ := hw.phi (Int.toNat t) (by omega) p hp
  refine ⟨h4, h5, ?_, h6⟩
  have h7 : at' ∈ p.In.map (·.From) := by
    rw [h3]
    unfold predsM predsT
    refine List.mem_map.2 ⟨Int.toNat at', List.mem_filter.2 ⟨List.mem_range.2 (by omega), ?_⟩, by omega⟩
    rw [decide_eq_true_eq, show ((Int.toNat t : Nat) : Int) = t by omega]; exact ht
  obtain ⟨x, hx, hx2⟩ := List.mem_map.1 h7
  have h8 := idx_any p.In (isFrom at')
  have h9 : anyM p.In (isFrom at') = true := List.any_eq_true.2 ⟨x, hx, by unfold isFrom; rw [decide_eq_true_eq]; exact hx2⟩
  rw [h9, decide_eq_true_eq] at h8
  exact h8
theorem WFm.goes {at' : Int} (ha : 0 ≤ at' ∧ at' < m.Blocks.length) (rs : List Int) (h7 : ¬ (ix m.Blocks (Int.toNat at')).End.Op = 7) (h8 : ¬ (ix m.Blocks (Int.toNat at')).End.Op = 8) :
    0 ≤ goesM (ix m.Blocks (Int.toNat at')).End rs ∧ goesM (ix m.Blocks (Int.toNat at')).End rs < (ix m.Blocks (Int.toNat at')).End.To.length := by
  have h1 := (hw.to _ (ix_mem (l := m.Blocks) (i := Int.toNat at') (by omega))).1
  generalize (ix m.Blocks (Int.toNat at')).End = e at *
  unfold toM at h1
  rw [decide_eq_true_eq] at h1
  obtain ⟨ho1, ho2, hl1, hl2⟩ := h1
  have hu : 0 ≤ u32 (getM rs e.A) := by unfold u32; rw [IntKind.wrap_u32]; omega
  unfold limLo at hl1
  unfold limHi at hl2
  unfold goesM
  have hc : e.Op = 1 ∨ e.Op = 2 ∨ e.Op = 3 ∨ e.Op = 4 ∨ e.Op = 5 ∨ e.Op = 6 := by omega
  rcases hc with h | h | h | h | h | h <;> simp only [h] at hl1 hl2 ⊢ <;> simp at hl1 hl2 ⊢ <;> (repeat' split) <;> omega
end
theorem startR_len {m : D.MFunc} (hw : WFm m) (i : D.Input) : (startR m i).length = 8192 := by
  have := hw.p0
  unfold startR
  simp only [List.length_append, List.length_take, List.length_drop, List.length_replicate]; omega
theorem stepM_wr (i : D.Mach) (rs me : List Int) : IntKind.i32.wrap (stepM i rs me).1.1 = (stepM i rs me).1.1 := by
  have : ∀ (c : Prop) [Decidable c] (a b : (Int × Bool) × List Int × List Int), IntKind.i32.wrap a.1.1 = a.1.1 → IntKind.i32.wrap b.1.1 = b.1.1 → IntKind.i32.wrap (if c then a else b).1.1 = (if c then a else b).1.1 := by intro c _ a b h1 h2; split <;> assumption
  unfold stepM
  repeat' apply this
  all_goals first | exact (by decide : IntKind.i32.wrap 0 = 0) | exact (by decide : IntKind.i32.wrap (-1) = -1) | exact (by decide : IntKind.i32.wrap (-2) = -2) | (dsimp only; split <;> decide)
section
variable {N : Int} {K : List Int → List Int → List D.Event → List Int → Int → D.Outcome} {O : D.Outcome} {I : List D.Mach} {k j : Nat} {rs me an ea : List Int} {cl : List D.Event} {s : Int}
theorem ins_end (hI : O = insRun N K (I.drop k) rs me cl an s) (hk : I.length ≤ k) : O = K rs me cl an s := by rw [hI, List.drop_of_length_le hk]; rfl
theorem ins_stop (hI : O = insRun N K (I.drop k) rs me cl an s) (hk : k < I.length) (h : N ≤ s) : O = ⟨3, 0, me, cl, s⟩ := by rw [hI, drop_ix hk, insRun, if_pos h]
theorem ins_trap (hI : O = insRun N K (I.drop k) rs me cl an s) (hk : k < I.length) (h : ¬ N ≤ s) (h2 : ¬ (ix I k).Op = 28) (h3 : (stepM (ix I k) rs me).1.2 = false) :
    O = ⟨2, (stepM (ix I k) rs me).1.1, (stepM (ix I k) rs me).2.2, cl, s + 1⟩ := by rw [hI, drop_ix hk, insRun, if_neg h, if_neg h2, if_pos h3]
theorem ins_ok (hI : O = insRun N K (I.drop k) rs me cl an s) (hk : k < I.length) (h : ¬ N ≤ s) (h2 : ¬ (ix I k).Op = 28) (h3 : (stepM (ix I k) rs me).1.2 = true) :
    O = insRun N K (I.drop (k + 1)) (stepM (ix I k) rs me).2.1 (stepM (ix I k) rs me).2.2 cl an (s + 1) := by rw [hI, drop_ix hk, insRun, if_neg h, if_neg h2, if_neg (by rw [h3]; decide)]
theorem ins_callA (hI : O = insRun N K (I.drop k) rs me cl an s) (hk : k < I.length) (h : ¬ N ≤ s) (h2 : (ix I k).Op = 28) (hj : (ix I k).Args.length ≤ j) (hea : ea = ((ix I k).Args.take j).map (fun r => ix rs (Int.toNat r))) (h3 : ¬ 0 < (an.length : Int)) :
    O = insRun N K (I.drop (k + 1)) (List.set rs (Int.toNat (ix I k).D) 0) me (cl ++ [⟨(ix I k).Imm, ea⟩]) an (s + 1) := by
  have : an = [] := List.eq_nil_of_length_eq_zero (by omega)
  subst this
  rw [hI, drop_ix hk, insRun, if_neg h, if_pos h2, hea, List.take_of_length_le hj]; rfl
theorem ins_callB (hI : O = insRun N K (I.drop k) rs me cl an s) (hk : k < I.length) (h : ¬ N ≤ s) (h2 : (ix I k).Op = 28) (hj : (ix I k).Args.length ≤ j) (hea : ea = ((ix I k).Args.take j).map (fun r => ix rs (Int.toNat r))) :
    O = insRun N K (I.drop (k + 1)) (List.set (List.set rs (Int.toNat (ix I k).D) 0) (Int.toNat (ix I k).D) (ix an 0)) me (cl ++ [⟨(ix I k).Imm, ea⟩]) (an.drop 1) (s + 1) := by
  rw [hI, drop_ix hk, insRun, if_neg h, if_pos h2, hea, List.take_of_length_le hj, List.set_set]; rfl
end
section
variable {N : Int} {go : Int → List Int → List Int → List D.Event → List Int → Int → D.Outcome} {O : D.Outcome} {I : List D.Mach} {k : Nat} {rs me an : List Int} {cl : List D.Event} {s : Int} {e : D.End}
theorem end_stop (hI : O = insRun N (endRun N e go) (I.drop k) rs me cl an s) (hk : I.length ≤ k) (h : N ≤ s) : O = ⟨3, 0, me, cl, s⟩ := by rw [ins_end hI hk, endRun, if_pos h]
theorem end_ret (hI : O = insRun N (endRun N e go) (I.drop k) rs me cl an s) (hk : I.length ≤ k) (h : ¬ N ≤ s) (h7 : e.Op = 7) : O = ⟨1, getM rs e.A, me, cl, s + 1⟩ := by rw [ins_end hI hk, endRun, if_neg h, if_pos h7]
theorem end_trap (hI : O = insRun N (endRun N e go) (I.drop k) rs me cl an s) (hk : I.length ≤ k) (h : ¬ N ≤ s) (h7 : ¬ e.Op = 7) (h8 : e.Op = 8) : O = ⟨2, e.Imm, me, cl, s + 1⟩ := by rw [ins_end hI hk, endRun, if_neg h, if_neg h7, if_pos h8]
theorem end_go (hI : O = insRun N (endRun N e go) (I.drop k) rs me cl an s) (hk : I.length ≤ k) (h : ¬ N ≤ s) (h7 : ¬ e.Op = 7) (h8 : ¬ e.Op = 8) : O = go (ix e.To (Int.toNat (goesM e rs))) rs me cl an (s + 1) := by rw [ins_end hI hk, endRun, if_neg h, if_neg h7, if_neg h8]
end
theorem run_wrong {m : D.MFunc} {i : D.Input} (h : rightM m = false) : runM m i = ⟨4, 0, [], [], 0⟩ := by unfold runM; rw [if_pos h]
theorem run_right {m : D.MFunc} {i : D.Input} (h : rightM m = true) : runM m i = blockRun m.Blocks i.Steps (Int.toNat i.Steps + 1) 0 (-1) (startR m i) (memM i) [] i.Answers 0 := by unfold runM; rw [if_neg (by rw [h]; decide)]
end Go.Proofs.YtdlcjaefkjbonaaGreat
namespace Go.JE
set_option linter.unusedVariables false
set_option linter.unusedSimpArgs false
set_option linter.unusedSectionVars false
variable {P : Program} {D D0 D1 : List Dt} {L M N Ls L0 Rs : List Res} {e : Env} {X : Cx} {n : Fs} {w0 : World} {Q : Exit → Act → World → Prop}
section
variable {ops : Array Oper} {d : Nat} {ty : TypeId} {pos : String} {af : Array Edge} {rest : List Oper} {v u z w2 : Value} {x y : Operand} {T T' E : TypeId} {bytes B hi N' : Nat} {α : Type} {r : Rp α} {l m : List α} {a : α}
theorem jcpy (hT : P.underlying T = some (.slice E)) (hE : (P.info? E).map (fun i => (i.zero, i.size, i.bytes)) = some (some z, 1, bytes)) (hs : r.sz = 1) (hx : ev e x = some (JE.resl 1 v 0 hi)) (hy : ev e y = some w2) (hk : Tk L (gl B r E v l) M) (h2 : hi ≤ l.length) (hm : Nd D L (dv (rLn N' r) w2 m))
    (k : LH P n w0 ops Q X D (gl B r E v (m.take (min hi m.length) ++ l.drop (min hi m.length)) :: M) ((d, .int .i64 (min hi m.length : Nat)) :: e) rest) (hd : Nat.blt d n.sz = true := by rfl) : LH P n w0 ops Q X D L e (⟨some d, .call { callee := .builtin .copy, args := #[x, y], argTypes := #[T, T'] }, ty, pos, af, none⟩ :: rest) := fun F H hp =>
  LF.chg (OpCh.copyG hT hE hs hx hy (hp.at hk).1 h2 (hm F H hp.hin hp.hd hp.ok) hp.hin) (by
    rintro _ H' ⟨rfl, h3, h4⟩
    exact k F H' (hp.set (R' := gl B r E v (m.take (min hi m.length) ++ l.drop (min hi m.length))) hk h3 ⟨h4, Nat.le_trans (hp1 hp hk) h3.1⟩ (fun k h => .inr h))) hd
end
end Go.JE
namespace Go.Proofs.YtdlcjaefkjbonaaGreat
set_option linter.unusedVariables false
set_option linter.unusedSimpArgs false
set_option linter.unusedSectionVars false
open Go.JE
abbrev U40 := @Tryz.underlying40
theorem A36 : ∃ d, Tryz.prog.underlying 36 = some d ∧ (match d with | .struct _ | .array _ _ => true | _ => false) = true := ⟨_, Tryz.underlying36, rfl⟩
theorem A42 : ∃ d, Tryz.prog.underlying 42 = some d ∧ (match d with | .struct _ | .array _ _ => true | _ => false) = true := ⟨_, Tryz.underlying42, rfl⟩
theorem A85 : ∃ d, Tryz.prog.underlying 85 = some d ∧ (match d with | .struct _ | .array _ _ => true | _ => false) = true := ⟨_, Tryz.underlying85, rfl⟩
theorem E11 : Ent Tryz.prog 11 := ⟨_, Tryz.func11, by kernel_rfl, by kernel_rfl⟩
theorem E30 : Ent Tryz.prog 30 := ⟨_, Tryz.func30, by kernel_rfl, by kernel_rfl⟩
theorem E31 : Ent Tryz.prog 31 := ⟨_, Tryz.func31, by kernel_rfl, by kernel_rfl⟩
theorem E32 : Ent Tryz.prog 32 := ⟨_, Tryz.func32, by kernel_rfl, by kernel_rfl⟩
theorem E33 : Ent Tryz.prog 33 := ⟨_, Tryz.func33, by kernel_rfl, by kernel_rfl⟩
theorem E35 : Ent Tryz.prog 35 := ⟨_, Tryz.func35, by kernel_rfl, by kernel_rfl⟩
theorem F36_0 : Fld Tryz.prog 36 0 0 := ⟨_, _, Tryz.underlying36, rfl, rfl, 1, (by unfold Sz; kernel_rfl), by decide⟩
theorem F36_2 : Fld Tryz.prog 36 2 2 := ⟨_, _, Tryz.underlying36, rfl, rfl, 1, (by unfold Sz; kernel_rfl), by decide⟩
theorem F36_3 : Fld Tryz.prog 36 3 3 := ⟨_, _, Tryz.underlying36, rfl, rfl, 1, (by unfold Sz; kernel_rfl), by decide⟩
theorem F42_0 : Fld Tryz.prog 42 0 0 := ⟨_, _, Tryz.underlying42, rfl, rfl, 1, (by unfold Sz; kernel_rfl), by decide⟩
theorem F42_1 : Fld Tryz.prog 42 1 1 := ⟨_, _, Tryz.underlying42, rfl, rfl, 1, (by unfold Sz; kernel_rfl), by decide⟩
theorem F42_2 : Fld Tryz.prog 42 2 2 := ⟨_, _, Tryz.underlying42, rfl, rfl, 1, (by unfold Sz; kernel_rfl), by decide⟩
theorem F42_3 : Fld Tryz.prog 42 3 3 := ⟨_, _, Tryz.underlying42, rfl, rfl, 1, (by unfold Sz; kernel_rfl), by decide⟩
theorem F42_4 : Fld Tryz.prog 42 4 4 := ⟨_, _, Tryz.underlying42, rfl, rfl, 1, (by unfold Sz; kernel_rfl), by decide⟩
theorem F59_4 : Fld Tryz.prog 59 4 4 := ⟨_, _, Tryz.underlying59, rfl, rfl, 1, (by unfold Sz; kernel_rfl), by decide⟩
theorem F85_1 : Fld Tryz.prog 85 1 1 := ⟨_, _, Tryz.underlying85, rfl, rfl, 1, (by unfold Sz; kernel_rfl), by decide⟩
theorem I85 : (Tryz.prog.info? 85).map (fun i => (i.zero, i.size, i.bytes)) = some (some (.agg #[.int .i32 0, .slice none 0 0]), 2, 32) := by kernel_rfl
theorem O40 : One Tryz.prog 40 := ⟨_, Tryz.underlying40, rfl⟩
theorem Z34 : Sz Tryz.prog 34 1 := by unfold Sz; kernel_rfl
theorem Z36 : Sz Tryz.prog 36 4 := by unfold Sz; kernel_rfl
theorem Z40 : Sz Tryz.prog 40 1 := by unfold Sz; kernel_rfl
theorem Z42 : Sz Tryz.prog 42 5 := by unfold Sz; kernel_rfl
theorem Z85 : Sz Tryz.prog 85 2 := by unfold Sz; kernel_rfl
theorem J42 : (Tryz.prog.info? 42).bind (·.zero) = some (.agg #[.int .i64 0, .int .i32 0, .slice none 0 0, .slice none 0 0, .int .i64 0]) := by kernel_rfl
theorem J85 : (Tryz.prog.info? 85).bind (·.zero) = some (.agg #[.int .i32 0, .slice none 0 0]) := by kernel_rfl
theorem pStop_ct (kd : Int) (x : Int) {e0 v0 z0 : Int} {m0 c0 : Value} {g2 : Nat} (om : m0.oneCell' = true) (oc : c0.oneCell' = true) : Tr Tryz.prog 31 #[.int .i64 kd, .int .i32 x, .pointer (some ⟨g2, 0, none⟩)] [] [bx g2 42 [.int .i64 e0, .int .i32 v0, m0, c0, .int .i64 z0]] (fun _ : Unit => .agg #[.int .i64 kd, .int .i32 x, m0, c0, .int .i64 z0]) (fun _ => []) (fun _ _ => [bx g2 42 [.int .i64 kd, .int .i32 x, m0, c0, .int .i64 z0]]) := by
  refine jenter (args := [.int .i64 kd, .int .i32 x, .pointer (some ⟨g2, 0, none⟩)]) Tryz.func31 rfl rfl rfl fun w0 X => ?_
  refine jq (jr (jalc J42 ζ fun g5 => jn (jx (jq (jr (jm ζ (jm ζ (js (jf F42_0 ζ) (jst k1 Z3 ζ ζ ζ s0 (js (jf F42_1 ζ) ?_))))))))))
  refine jst k0 Z21 ζ ζ ζ s1 (jn (jx (jq (jr (js (jla k0 A42 Z42 ζ ζ ζ) (jsta k1 Z42 ζ ζ ζ ⟨ζ, ζ, om, oc, ζ, trivial⟩ (saf ζ) (jn (jx (jrt ?_)))))))))
  exact jrc ζ ζ k0 A42 Z42 () ζ dn (fun _ _ => (kc k1 kn))
set_option maxRecDepth 8000 in
set_option maxHeartbeats 4000000 in
theorem pRun_ct {a0 : Value} {m : D.MFunc} {a1a a1b a1c : Value} {i : D.Input} (hstp : i.Steps ≤ 1000000) : Ts Tryz.prog 14 #[vMFunc m a0, vInput i (a1a, a1b, a1c)] [da rMFunc (vMFunc m a0) m, da rInput (vInput i (a1a, a1b, a1c)) i] [] rOutcome vOutcome (runM m i) := by
  refine jenter (args := [vMFunc m a0, vInput i (a1a, a1b, a1c)]) Tryz.func14 rfl rfl rfl fun w0 X => ?_
  refine jq (jr (jbox ζ ζ fun g2 => jbox ζ ζ fun g3 => jalc J42 ζ fun g4 => jn (jx (jsc (jq (jq (jr (js (jla k2 A28 Z28 ζ ζ ζ) ?_))))))))
  refine jcv E11 ζ ζ pRight_ct (dc d0 dn) kn (js (jnot ζ) (jn (jx ?_)))
  refine jif ζ (fun hc1 => ?_) (fun hc1 => ?_)
  refine jq (jr (js (jbu (v := .agg #[.int .i64 4, .int .i32 0, .slice none 0 0, .slice none 0 0, .int .i64 0]) ζ (fun _ => by kernel_rfl)) (jsta k0 Z42 ζ ζ ζ ⟨ζ, ζ, ζ, ζ, ζ, trivial⟩ (saf ζ) (jn (jx (jrt (jtr (jso ?_))))))))
  exact jrcA (val := vOutcome) (b := ⟨4, 0, [], [], 0⟩) (c := (.slice none 0 0, .slice none 0 0)) ζ ζ k0 A42 Z42 ζ (by first | exact run_wrong (by simpa using hc1) | exact ins_stop hI (by omega) hc3 | exact ins_trap hI (by omega) hc3 hc4 (by simpa using hc7) | exact end_stop hI (by omega) hc8 | exact end_ret hI (by omega) hc8 hc9 | exact end_trap hI (by omega) hc8 hc9 hc10) (rOutcome.M (m := ⟨4, 0, [], [], 0⟩) (c := (.slice none 0 0, .slice none 0 0)) wN wN (wl 4) (wl 0) (wl 0))
  have hR : rightM m = true := by simpa using hc1
  have hW := right_wf hR
  have hp0 := hW.p0
  have hn0 := hW.n0
  refine jsk (jx (jq (jr (js (jla k1 A36 Z36 ζ ζ ζ) (jcg E30 ζ ζ pMem_ct (dc d1 dn) kn fun v24 w1 => js (jbu (v := .agg #[.int .i64 0, .int .i32 0, v24, .slice none 0 0, .int .i64 0]) ζ (fun _ => by obtain ⟨_, _, _, rfl⟩ := w1; kernel_rfl)) (jalc J42 ζ fun g5 => jsta k0 Z42 ζ ζ ζ ⟨ζ, ζ, w1.one, ζ, ζ, trivial⟩ (saf ζ) (jn (jx (jq ?_)))))))))
  refine jr (jmk (m := 8192) (r := (rI .i32)) U34 I21 ζ ζ ζ ζ ζ (by omega) (wI (wp (by decide))) ζ fun g26 => ja ζ (jn (jx (jq (jtl 6 Mixed (by kernel_rfl) (jt (jmv ζ) (jt (jf F28_0 ζ) (jt (jl k5 O3 ζ ζ) (jt (jshg (hi := (Int.toNat m.Params)) U34 Z21 k0 ζ ζ (by omega) (by rw [lrep]; omega)) (jt (jf F36_0 ζ) ?_))))))))))
  refine jt (jl k4 O34 ζ ζ) (jtt (jdq (rInput.c_Args d1) fun q2 w2 => jcpy U34 I21 ζ ζ ζ k0 (by rw [lrep]; omega) (rInput.c_Args d1) (jn (jx (jq (jr (js (jf F36_2 ζ) (js (jl k4 O34 ζ ζ) (ja ζ (jn ?_))))))))))
  refine jx (jq (jr (js (jmf1 ζ) (ja ζ (jn (jx (jq (jr (ja ζ (ja ζ (jn ?_)))))))))))
  refine jx (jq (jlab (jx (jq (jb (cnl (r := rEvent) (E := 85) ?_))))))
  refine jlp (u10 fun (f : Nat) (ab : Int) (fb : Int) (rs : List Int) (me : List Int) (cl : List D.Event) (an : List Int) (s9 : Int) (vc : Value) (va : Value) => ⟨0 < f ∧ runM m i = blockRun m.Blocks i.Steps f ab fb rs me cl an s9 ∧ (0 ≤ ab ∧ ab < m.Blocks.length) ∧ (∀ p ∈ (ix m.Blocks (Int.toNat ab)).Phis, phiOk fb 8192 p) ∧ rs.length = 8192 ∧ me.length ≤ 4096 ∧ 0 ≤ s9 ∧ cl.length ≤ s9 ∧ (s9 ≤ i.Steps ∨ s9 = 0) ∧ i.Steps - s9 < f, [da rMFunc (vMFunc m a0) m, da rInput (vInput i (a1a, a1b, a1c)) i, dv (rL (rI .i32)) va an], [gl X.n rEvent 85 vc cl, gl X.n (rI .i32) 21 (.slice (some ⟨g26, 0, none⟩) 8192 8192) rs, bx g5 42 [.int .i64 0, .int .i32 0, v24, vc, .int .i64 s9], gl X.n (rI .i32) 21 v24 me, bx g4 42 [.int .i64 0, .int .i32 0, .slice none 0 0, .slice none 0 0, .int .i64 0], bx g3 36 [a1a, a1b, a1c, .int .i64 i.Steps], bx g2 28 [.int .i64 m.Params, a0]], [(2, .pointer (some ⟨g2, 0, none⟩)), (3, .pointer (some ⟨g3, 0, none⟩)), (4, .pointer (some ⟨g4, 0, none⟩)), (5, .pointer (some ⟨g5, 0, none⟩)), (6, (.slice (some ⟨g26, 0, none⟩) 8192 8192)), (7, va), (8, .func (.func 31) #[] #[.pointer (some ⟨g5, 0, none⟩)]), (9, .int .i64 ab), (10, .int .i64 fb)], f⟩) (Int.toNat i.Steps + 1, 0, (-1), startR m i, memM i, [], i.Answers, 0, .slice none 0 0, a1c) ⟨by dsimp only; omega, run_right hR, by dsimp only; omega, hW.from0, startR_len hW i, memM_len i, Int.le_refl _, by simp, by dsimp only; omega, by dsimp only; omega⟩ (dc d0 (dc d1 (dc (rInput.c_Answers d1) dn))) (kc k0 (kc k0 (kc k0 (kc k0 (kc k0 (kc k0 (kc k0 kn))))))) ⟨ζ, ζ, ζ, ζ, ζ, ζ, ζ, ζ, ζ, trivial⟩ ?_
  rintro ⟨f, ab, fb, rs, me, cl, an, s9, vc, va⟩; dsimp only [u10]; rintro ⟨hf, hrun, hat, hfr, hrl, hml, hs0, hcl, hst, hfu⟩
  refine cgo k0 fun w4 => cdq d2 fun q5 w5 => jb (jq (jr (js (jf F28_1 ζ) (js (jl k6 O26 ζ ζ) (jm ζ (jdq (rMFunc.c_Blocks d0) fun q6 w6 => js (jix (i := (Int.toNat ab)) U26 Z71 (rMFunc.c_Blocks d0) ζ ζ (by omega) (by omega)) (jA3 sMBlock (jlA (dix (rMFunc.c_Blocks d0) (Int.toNat ab) (by omega)) A71 Z71 ζ) fun c41a c41b c41c => jalc J71 ζ fun g11 => ?_)))))))
  refine jdq (rMBlock.c_Phis d0) fun q8 w8 => jdq (rMBlock.c_Ins d0) fun q9 w9 => jdq (rMBlock.c_End_To d0) fun q10 w10 => jsta k0 Z71 ζ ζ ζ ⟨w8.one, w9.one, ζ, ζ, ζ, w10.one, ζ, trivial⟩ (saf ζ) (jn (jx (jq (jr (js (jf F71_0 ζ) (js (jl k0 O68 ζ ζ) (jm ζ (jm ζ ?_))))))))
  refine jc E32 ζ ζ (pPhis_ct fb (by omega) (by rw [hrl]; exact hfr)) (dc (rMBlock.c_Phis d0) dn) (kc k2 kn) (fun _ => p0) (fun _ => p1) fun _ => jn (jx (jq (jq (jr (js (jf F71_1 ζ) (js (jl k1 O69 ζ ζ) (js (jln U69 (rMBlock.c_Ins d0) ζ) (jm ζ (jn (jx ?_))))))))))
  refine jb ?_
  refine jlp (u8 fun (k : Nat) (rs2 : List Int) (me2 : List Int) (cl2 : List D.Event) (an2 : List Int) (s2 : Int) (vc2 : Value) (va2 : Value) => ⟨k ≤ (ix m.Blocks (Int.toNat ab)).Ins.length ∧ runM m i = insRun i.Steps (endRun i.Steps (ix m.Blocks (Int.toNat ab)).End (fun t => blockRun m.Blocks i.Steps (f - 1) t ab)) ((ix m.Blocks (Int.toNat ab)).Ins.drop k) rs2 me2 cl2 an2 s2 ∧ rs2.length = 8192 ∧ me2.length ≤ 4096 ∧ s9 ≤ s2 ∧ cl2.length ≤ s2 ∧ (s2 ≤ i.Steps ∨ s2 = 0), [da rMBlock (vMBlock (ix m.Blocks (Int.toNat ab)) (c41a, c41b, c41c)) (ix m.Blocks (Int.toNat ab)), da rMFunc (vMFunc m a0) m, da rInput (vInput i (a1a, a1b, a1c)) i, dv (rL (rI .i32)) va2 an2], [gl X.n (rI .i32) 21 (.slice (some ⟨g26, 0, none⟩) 8192 8192) rs2, bx g11 71 [c41a, c41b, .int .i64 (((ix m.Blocks (Int.toNat ab)).End).Op), .int .i64 (((ix m.Blocks (Int.toNat ab)).End).A), .int .i64 (((ix m.Blocks (Int.toNat ab)).End).B), c41c, .int .i32 (((ix m.Blocks (Int.toNat ab)).End).Imm)], gl X.n rEvent 85 vc2 cl2, bx g5 42 [.int .i64 0, .int .i32 0, v24, vc2, .int .i64 s2], gl X.n (rI .i32) 21 v24 me2, bx g4 42 [.int .i64 0, .int .i32 0, .slice none 0 0, .slice none 0 0, .int .i64 0], bx g3 36 [a1a, a1b, a1c, .int .i64 i.Steps], bx g2 28 [.int .i64 m.Params, a0]], [(2, .pointer (some ⟨g2, 0, none⟩)), (3, .pointer (some ⟨g3, 0, none⟩)), (4, .pointer (some ⟨g4, 0, none⟩)), (5, .pointer (some ⟨g5, 0, none⟩)), (6, (.slice (some ⟨g26, 0, none⟩) 8192 8192)), (7, va2), (8, .func (.func 31) #[] #[.pointer (some ⟨g5, 0, none⟩)]), (9, .int .i64 ab), (10, .int .i64 fb), (11, .pointer (some ⟨g11, 0, none⟩)), (48, c41b), (49, .int .i64 (↑(List.length ((ix m.Blocks (Int.toNat ab)).Ins)))), (50, .int .i64 (↑k))], (ix m.Blocks (Int.toNat ab)).Ins.length - k⟩) (0, phisM ((ix m.Blocks (Int.toNat ab)).Phis) fb rs, me, cl, an, s9, vc, va) ⟨by dsimp only; omega, by dsimp only; rw [hrun, blockRun_pos hf]; rfl, by dsimp only; rw [phisM_len]; exact hrl, hml, by dsimp only; omega, hcl, hst⟩ (dc d0 (dc d1 (dc d2 (dc d3 dn)))) (kc k0 (kc k0 (kc k0 (kc k0 (kc k0 (kc k0 (kc k0 (kc k0 kn)))))))) ⟨ζ, ζ, ζ, ζ, ζ, ζ, ζ, ζ, ζ, ζ, ζ, ζ, eqI (by omega), trivial⟩ ?_
  rintro ⟨k, rs2, me2, cl2, an2, s2, vc2, va2⟩; dsimp only [u8]; rintro ⟨hk, hI, hrl2, hml2, hss, hcl2, hst2⟩
  refine cgo k2 fun w12 => cdq d3 fun q13 w13 => jq (jr (js (jlss ζ ζ) (jn (jx (jq ?_)))))
  refine jif ζ (fun hc2 => ?_) (fun hc2 => ?_)
  refine jsk (jx (jq (jb (jq (jr (js (jix U69 Z46 (rMBlock.c_Ins d0) ζ ζ ζ (by omega)) (jA sMach (jlA (dix (rMBlock.c_Ins d0) k (by omega)) A46 Z46 ζ) fun c53 => jalc J46 ζ fun g13 => jdq (rMach.c_Args d0) fun q15 w15 => jsta k0 Z46 ζ ζ ζ ⟨ζ, ζ, ζ, ζ, ζ, ζ, ζ, w15.one, trivial⟩ (saf ζ) (jn ?_))))))))
  refine jx (jq (jq (jr (js (jf F42_4 ζ) (js (jl k4 O3 ζ ζ) (js (jf F36_3 ζ) (js (jl k7 O3 ζ ζ) (js (jgeq ζ ζ) (jn (jx ?_))))))))))
  refine jif ζ (fun hc3 => ?_) (fun hc3 => ?_)
  refine jex (jtx (jbo (jtx (jtx (jbo (jtx (jbo (jtx (jbh (jx (jq ?_)))))))))))
  refine jr (jm ζ (jc E31 ζ ζ (pStop_ct 3 0 w1.one w12.one) dn (kc k4 kn) (fun _ => p0) (fun _ => p1) fun _ => jsta k6 Z42 ζ ζ ζ ⟨ζ, ζ, w1.one, w12.one, ζ, trivial⟩ (saf ζ) (jn (jx (jrt (jso (qfz k6 (by first | omega | (rw [(stepM_len _ _ _).2]; omega)) (qfz k5 (by omega) ?_))))))))
  exact jrcA (val := vOutcome) (b := ⟨3, 0, me2, cl2, s2⟩) (c := (v24, vc2)) ζ ζ k0 A42 Z42 ζ (by first | exact run_wrong (by simpa using hc1) | exact ins_stop hI (by omega) hc3 | exact ins_trap hI (by omega) hc3 hc4 (by simpa using hc7) | exact end_stop hI (by omega) hc8 | exact end_ret hI (by omega) hc8 hc9 | exact end_trap hI (by omega) hc8 hc9 hc10) (rOutcome.M (m := ⟨3, 0, me2, cl2, s2⟩) (c := (v24, vc2)) d1 d0 (wl 3) (wl 0) (wp (IntWalk.i64_in s2 (by omega))))
  have hNi := hc3
  refine jsk (jx (jq (jr (js (jf F42_4 ζ) (js (jl k4 O3 ζ ζ) (js (jadd ζ ζ (by omega)) (js (jf F42_4 ζ) (jst k4 Z3 ζ ζ ζ s4 (jn (jx (jq ?_)))))))))))
  refine jq (jr (js (jf F46_0 ζ) (js (jl k1 O3 ζ ζ) (js (jeql ζ ζ) (jn (jx ?_))))))
  refine jif ζ (fun hc4 => ?_) (fun hc4 => ?_)
  have h28 := hc4
  have hi28 := hW.ins _ (ix_mem (l := m.Blocks) (i := Int.toNat ab) (by omega)) _ (ix_mem (l := (ix m.Blocks (Int.toNat ab)).Ins) (i := k) (by omega)) hc4
  obtain ⟨hD0, hD1, hA4, hAr⟩ := hi28
  refine jq (jr (js (jf F46_6 ζ) (js (jl k1 O21 ζ ζ) (js (jbu (v := .agg #[.int .i32 ((ix ((ix m.Blocks (Int.toNat ab)).Ins) k).Imm), .slice none 0 0]) ζ (fun _ => by kernel_rfl)) (jalc J85 ζ fun g14 => jsta k0 Z85 ζ ζ ζ ⟨ζ, ζ, trivial⟩ (saf ζ) (jn (jx (jq (jq (jr ?_))))))))))
  refine js (jf F46_7 ζ) (js (jl k2 O22 ζ ζ) (js (jln U22 (rMach.c_Args d0) ζ) (jm ζ (jn (jx (jb (cnl (r := (rI .i32)) (E := 21) ?_)))))))
  refine jlp (u3 fun (j : Nat) (ea : List Int) (ve : Value) => ⟨j ≤ (ix (ix m.Blocks (Int.toNat ab)).Ins k).Args.length ∧ ea = ((ix (ix m.Blocks (Int.toNat ab)).Ins k).Args.take j).map (fun r => ix rs2 (Int.toNat r)), [da rMach (vMach (ix ((ix m.Blocks (Int.toNat ab)).Ins) k) c53) (ix ((ix m.Blocks (Int.toNat ab)).Ins) k), da rMBlock (vMBlock (ix m.Blocks (Int.toNat ab)) (c41a, c41b, c41c)) (ix m.Blocks (Int.toNat ab)), da rMFunc (vMFunc m a0) m, da rInput (vInput i (a1a, a1b, a1c)) i, dv (rL (rI .i32)) va2 an2], [gl X.n (rI .i32) 21 ve ea, bx g14 85 [.int .i32 ((ix ((ix m.Blocks (Int.toNat ab)).Ins) k).Imm), ve], bx g5 42 [.int .i64 0, .int .i32 0, v24, vc2, .int .i64 (s2 + 1)], bx g13 46 [.int .i64 ((ix ((ix m.Blocks (Int.toNat ab)).Ins) k).Op), .int .i64 ((ix ((ix m.Blocks (Int.toNat ab)).Ins) k).D), .int .i64 ((ix ((ix m.Blocks (Int.toNat ab)).Ins) k).E), .int .i64 ((ix ((ix m.Blocks (Int.toNat ab)).Ins) k).A), .int .i64 ((ix ((ix m.Blocks (Int.toNat ab)).Ins) k).B), .int .i64 ((ix ((ix m.Blocks (Int.toNat ab)).Ins) k).C), .int .i32 ((ix ((ix m.Blocks (Int.toNat ab)).Ins) k).Imm), c53], gl X.n (rI .i32) 21 (.slice (some ⟨g26, 0, none⟩) 8192 8192) rs2, bx g11 71 [c41a, c41b, .int .i64 (((ix m.Blocks (Int.toNat ab)).End).Op), .int .i64 (((ix m.Blocks (Int.toNat ab)).End).A), .int .i64 (((ix m.Blocks (Int.toNat ab)).End).B), c41c, .int .i32 (((ix m.Blocks (Int.toNat ab)).End).Imm)], gl X.n rEvent 85 vc2 cl2, gl X.n (rI .i32) 21 v24 me2, bx g4 42 [.int .i64 0, .int .i32 0, .slice none 0 0, .slice none 0 0, .int .i64 0], bx g3 36 [a1a, a1b, a1c, .int .i64 i.Steps], bx g2 28 [.int .i64 m.Params, a0]], [(2, .pointer (some ⟨g2, 0, none⟩)), (3, .pointer (some ⟨g3, 0, none⟩)), (4, .pointer (some ⟨g4, 0, none⟩)), (5, .pointer (some ⟨g5, 0, none⟩)), (6, (.slice (some ⟨g26, 0, none⟩) 8192 8192)), (7, va2), (8, .func (.func 31) #[] #[.pointer (some ⟨g5, 0, none⟩)]), (9, .int .i64 ab), (10, .int .i64 fb), (11, .pointer (some ⟨g11, 0, none⟩)), (13, .pointer (some ⟨g13, 0, none⟩)), (14, .pointer (some ⟨g14, 0, none⟩)), (48, c41b), (49, .int .i64 (↑(List.length ((ix m.Blocks (Int.toNat ab)).Ins)))), (50, .int .i64 (↑k)), (70, c53), (71, .int .i64 (↑(List.length ((ix ((ix m.Blocks (Int.toNat ab)).Ins) k).Args)))), (72, .int .i64 (↑j))], (ix (ix m.Blocks (Int.toNat ab)).Ins k).Args.length - j⟩) (0, [], .slice none 0 0) ⟨by dsimp only; omega, rfl⟩ (dc d0 (dc d1 (dc d2 (dc d3 (dc d4 dn))))) (kc k0 (kc k0 (kc k0 (kc k0 (kc k0 (kc k0 (kc k0 (kc k0 (kc k0 (kc k0 (kc k0 kn))))))))))) ⟨ζ, ζ, ζ, ζ, ζ, ζ, ζ, ζ, ζ, ζ, ζ, ζ, ζ, ζ, ζ, ζ, ζ, eqI (by omega), trivial⟩ ?_
  rintro ⟨j, ea, ve⟩; dsimp only [u3]; rintro ⟨hj, hea⟩
  refine cgo k0 fun w18 => ?_
  have hel : ea.length = j := by rw [hea]; simp; omega
  refine jq (jr (js (jlss ζ ζ) (jn (jx (jq ?_)))))
  refine jif ζ (fun hc5 => ?_) (fun hc5 => ?_)
  have har := hAr _ (ix_mem (l := (ix (ix m.Blocks (Int.toNat ab)).Ins k).Args) (i := j) (by omega))
  refine jsk (jx (jq (jb (jq (jr (js (jix U22 Z3 (rMach.c_Args d0) ζ ζ ζ (by omega)) (js (jlI (dix (rMach.c_Args d0) j (by omega)) O3 ζ) (ja ζ (jn (jx (jany true (.a 0 (.a 1 (.a 2 (.a 3 (.a 4 (.a 5 (.o 6 (.o 7 (.a 8 (.o 9 .e)))))))))) Mixed (by kernel_rfl) (kc k1 (kc k3 kn)) fun F19 => ?_)))))))))))
  refine jy ζ (jf F85_1 ζ) (jy ζ (jl k0 O34 ζ ζ) (jy ζ (jmv ζ) (jy ζ (jmv ζ) (jy ζ (jig (i := (Int.toNat (ix ((ix ((ix m.Blocks (Int.toNat ab)).Ins) k).Args) j))) U34 Z21 k1 ζ ζ (by omega) (by omega)) (jy ζ (jgI k1 (by omega) O21 ζ) (jyo ζ (jlit (r := (rI .i32)) (l := [ix rs2 (Int.toNat (ix ((ix ((ix m.Blocks (Int.toNat ab)).Ins) k).Args) j))]) U34 I21 (by decide) ζ ζ ζ (lV ζ ζ (wI (wgl k4 (by omega))) ln) fun g82 => jyn d0 (kc k2 (kc k4 kn)) (jyo ζ (jfz k0 (by (try simp) <;> omega) (japl U34 I21 (by decide) ζ k0 ζ ζ d0 (by (try simp) <;> omega) fun v83 w23 => ?_))))))))))
  refine jyn d1 (kc k1 (kc k3 kn)) (jy ζ (jf F85_1 ζ) (jyo ζ (jst k1 Z34 ζ ζ w23.one s1 (jyz d0 (jyd (jbn (jx (jr (js (jadd ζ ζ (by omega)) (jm ζ (jn ?_)))))))))))
  exact jag (j + 1, ea ++ ([ix rs2 (Int.toNat (ix ((ix ((ix m.Blocks (Int.toNat ab)).Ins) k).Args) j))]), v83) ⟨by dsimp only; omega, by dsimp only; rw [hea, take_ix (by omega), List.map_append]; rfl⟩ (dc d4 (dc d5 (dc d6 (dc d7 (dc d8 dn))))) (kc k1 (kc k0 (kc k0 (kc k0 (kc k0 (kc k0 (kc k0 (kc k0 (kc k0 (kc k0 (kc k0 kn))))))))))) ⟨ζ, ζ, ζ, ζ, ζ, ζ, ζ, ζ, ζ, ζ, ζ, ζ, ζ, ζ, ζ, ζ, ζ, eqI (by omega), trivial⟩
  have hja : (ix (ix m.Blocks (Int.toNat ab)).Ins k).Args.length ≤ j := by omega
  refine jex (jtx (jtx (jbh (jx (jq (jr (js (jf F42_3 ζ) (js (jl k2 O40 ζ ζ) (js (jla k1 A85 Z85 ζ ζ ζ) (jfz k0 (by omega) (jap U40 I85 (by decide) ζ k5 ζ (rEvent.M (m := ⟨(ix ((ix m.Blocks (Int.toNat ab)).Ins) k).Imm, ea⟩) (c := ve) d0 (rMach.W_Imm d1)) (by omega) (fun _ => ζ) fun v90 _ w26 => ?_)))))))))))
  refine js (jf F42_3 ζ) (jst k2 Z40 ζ ζ w26.one s3 (jn (jx (jq (jr (jm ζ (js (jf F46_1 ζ) (js (jl k3 O3 ζ ζ) (js (jig (i := (Int.toNat ((ix ((ix m.Blocks (Int.toNat ab)).Ins) k).D))) U34 Z21 k4 ζ ζ (by omega) (by omega)) (jsg k4 ζ Z21 ζ ζ ζ (by omega) (wI (wl 0)) (jn ?_)))))))))))
  refine jx (jq (jq (jr (jm ζ (js (jln U34 d5 ζ) (js (jgtr ζ ζ) (jn (jx ?_))))))))
  refine jif ζ (fun hc6 => ?_) (fun hc6 => ?_)
  refine jany false (.a 0 (.a 1 (.a 2 (.a 3 (.a 4 (.a 5 (.a 6 (.a 7 (.o 8 (.o 9 (.a 10 .e))))))))))) Mixed (by kernel_rfl) (kc k4 kn) fun F27 => jy ζ (jmv ζ) (jy ζ (jf F46_1 ζ) (jy ζ (jl k0 O3 ζ ζ) (jy ζ (jmv ζ) (jy ζ (jix (i := 0) U34 Z21 d5 ζ ζ ζ (by omega)) (jy ζ (jlI (dix d5 0 (by omega)) O21 ζ) (jy ζ (jmv ζ) (jy ζ (jslo (lo := 1) U34 Z21 d5 ζ ζ ζ (by omega)) (jyo ζ (js (jig (i := (Int.toNat ((ix ((ix m.Blocks (Int.toNat ab)).Ins) k).D))) U34 Z21 k0 ζ ζ (by omega) (by first | omega | (simp <;> omega))) (jyn d0 (kc k4 kn) ?_))))))))))
  refine jyo ζ (jsg k0 ζ Z21 ζ ζ ζ (by first | omega | (simp <;> omega)) (wI (wad (dix d7 0 (by omega)))) (jyn d0 (kc k4 kn) (jy ζ (jas ζ) (jyd (jx (jex (jtx (jbh (jx (jr (js (jadd ζ ζ (by omega)) ?_)))))))))))
  refine jm ζ (jn ?_)
  exact jag (k + 1, List.set (List.set rs2 (Int.toNat ((ix ((ix m.Blocks (Int.toNat ab)).Ins) k).D)) 0) (Int.toNat ((ix ((ix m.Blocks (Int.toNat ab)).Ins) k).D)) (ix an2 0), me2, cl2 ++ [⟨(ix ((ix m.Blocks (Int.toNat ab)).Ins) k).Imm, ea⟩], List.drop 1 an2, s2 + 1, v90, (resl 1 va2 1 (List.length an2))) ⟨by dsimp only; omega, by dsimp only; first | exact ins_callA hI (by omega) hNi h28 hja hea (by omega) | exact ins_callB hI (by omega) hNi h28 hja hea | exact ins_ok hI (by omega) hNi h28 hdo, by dsimp only; first | (rw [List.length_set, List.length_set]; exact hrl2) | (rw [List.length_set]; exact hrl2) | (rw [(stepM_len _ _ _).1]; exact hrl2), by dsimp only; first | exact hml2 | (rw [(stepM_len _ _ _).2]; exact hml2), by dsimp only; omega, by dsimp only; first | (rw [List.length_append]; simp; omega) | omega, by dsimp only; omega⟩ (dc d4 (dc d5 (dc d6 (dc (dlo d7 1 (by omega) (by omega)) dn)))) (kc k0 (kc k4 (kc k1 (kc k0 (kc k2 (kc k2 (kc k2 (kc k2 kn)))))))) ⟨ζ, ζ, ζ, ζ, ζ, ζ, ζ, ζ, ζ, ζ, ζ, ζ, eqI (by omega), trivial⟩
  refine jsk (jx (jex (jtx (jbh (jx (jr (js (jadd ζ ζ (by omega)) (jm ζ (jn ?_)))))))))
  exact jag (k + 1, List.set rs2 (Int.toNat ((ix ((ix m.Blocks (Int.toNat ab)).Ins) k).D)) 0, me2, cl2 ++ [⟨(ix ((ix m.Blocks (Int.toNat ab)).Ins) k).Imm, ea⟩], an2, s2 + 1, v90, va2) ⟨by dsimp only; omega, by dsimp only; first | exact ins_callA hI (by omega) hNi h28 hja hea (by omega) | exact ins_callB hI (by omega) hNi h28 hja hea | exact ins_ok hI (by omega) hNi h28 hdo, by dsimp only; first | (rw [List.length_set, List.length_set]; exact hrl2) | (rw [List.length_set]; exact hrl2) | (rw [(stepM_len _ _ _).1]; exact hrl2), by dsimp only; first | exact hml2 | (rw [(stepM_len _ _ _).2]; exact hml2), by dsimp only; omega, by dsimp only; first | (rw [List.length_append]; simp; omega) | omega, by dsimp only; omega⟩ (dc d2 (dc d3 (dc d4 (dc d5 dn)))) (kc k0 (kc k4 (kc k1 (kc k0 (kc k2 (kc k2 (kc k2 (kc k2 kn)))))))) ⟨ζ, ζ, ζ, ζ, ζ, ζ, ζ, ζ, ζ, ζ, ζ, ζ, eqI (by omega), trivial⟩
  have h28 := hc4
  refine jsk (jx (jq (jr (js (jla k1 A46 Z46 ζ ζ ζ) (jm ζ (js (jf F42_2 ζ) (js (jl k0 O34 ζ ζ) (jc E33 ζ ζ (pDoM_ct (by omega) (by omega)) (dc d0 dn) (kc k2 (kc k4 kn)) (fun _ => p0) (fun _ => p2) fun _ => jm ζ (js (jex' ζ ζ) (js (jex' ζ ζ) ?_))))))))))
  refine ja ζ (ja ζ (jn (jx (jq (jr (jm ζ (js (jnot ζ) (jn (jx ?_)))))))))
  refine jif ζ (fun hc7 => ?_) (fun hc7 => ?_)
  refine jq (jr (jm ζ (jm ζ (jc E31 ζ ζ (pStop_ct 2 ((stepM (ix ((ix m.Blocks (Int.toNat ab)).Ins) k) rs2 me2).1.1) w1.one w12.one) dn (kc k2 kn) (fun _ => p0) (fun _ => p1) fun _ => jsta k6 Z42 ζ ζ ζ ⟨ζ, ζ, w1.one, w12.one, ζ, trivial⟩ (saf ζ) (jn (jx (jrt (jbr (jtr (jtr ?_))))))))))
  refine jbr (jtr (jbr (jtr (jbr (jtr (jso (qfz k3 (by first | omega | (rw [(stepM_len _ _ _).2]; omega)) (qfz k5 (by omega) ?_))))))))
  exact jrcA (val := vOutcome) (b := ⟨2, (stepM (ix ((ix m.Blocks (Int.toNat ab)).Ins) k) rs2 me2).1.1, (stepM (ix ((ix m.Blocks (Int.toNat ab)).Ins) k) rs2 me2).2.2, cl2, s2 + 1⟩) (c := (v24, vc2)) ζ ζ k0 A42 Z42 ζ (by first | exact run_wrong (by simpa using hc1) | exact ins_stop hI (by omega) hc3 | exact ins_trap hI (by omega) hc3 hc4 (by simpa using hc7) | exact end_stop hI (by omega) hc8 | exact end_ret hI (by omega) hc8 hc9 | exact end_trap hI (by omega) hc8 hc9 hc10) (rOutcome.M (m := ⟨2, (stepM (ix ((ix m.Blocks (Int.toNat ab)).Ins) k) rs2 me2).1.1, (stepM (ix ((ix m.Blocks (Int.toNat ab)).Ins) k) rs2 me2).2.2, cl2, s2 + 1⟩) (c := (v24, vc2)) d1 d0 (wl 2) (wp (stepM_wr (ix ((ix m.Blocks (Int.toNat ab)).Ins) k) rs2 me2)) (wp (IntWalk.i64_in (s2 + 1) (by omega))))
  have hdo : (stepM (ix (ix m.Blocks (Int.toNat ab)).Ins k) rs2 me2).1.2 = true := by simpa using hc7
  refine jsk (jbn (jx (jr (js (jadd ζ ζ (by omega)) (jm ζ (jn ?_))))))
  exact jag (k + 1, (stepM (ix ((ix m.Blocks (Int.toNat ab)).Ins) k) rs2 me2).2.1, (stepM (ix ((ix m.Blocks (Int.toNat ab)).Ins) k) rs2 me2).2.2, cl2, an2, s2 + 1, vc2, va2) ⟨by dsimp only; omega, by dsimp only; first | exact ins_callA hI (by omega) hNi h28 hja hea (by omega) | exact ins_callB hI (by omega) hNi h28 hja hea | exact ins_ok hI (by omega) hNi h28 hdo, by dsimp only; first | (rw [List.length_set, List.length_set]; exact hrl2) | (rw [List.length_set]; exact hrl2) | (rw [(stepM_len _ _ _).1]; exact hrl2), by dsimp only; first | exact hml2 | (rw [(stepM_len _ _ _).2]; exact hml2), by dsimp only; omega, by dsimp only; first | (rw [List.length_append]; simp; omega) | omega, by dsimp only; omega⟩ (dc d1 (dc d2 (dc d3 (dc d4 dn)))) (kc k0 (kc k3 (kc k3 (kc k1 (kc k0 (kc k1 (kc k1 (kc k1 kn)))))))) ⟨ζ, ζ, ζ, ζ, ζ, ζ, ζ, ζ, ζ, ζ, ζ, ζ, eqI (by omega), trivial⟩
  refine jex (jtx (jtx (jbh (jx (jq (jq (jr (js (jf F42_4 ζ) (js (jl k3 O3 ζ ζ) (js (jf F36_3 ζ) (js (jl k6 O3 ζ ζ) ?_)))))))))))
  refine js (jgeq ζ ζ) (jn (jx ?_))
  refine jif ζ (fun hc8 => ?_) (fun hc8 => ?_)
  refine jex (jtx (jbo (jtx (jbh (jx (jq (jr (jm ζ (jc E31 ζ ζ (pStop_ct 3 0 w1.one w12.one) dn (kc k3 kn) (fun _ => p0) (fun _ => p1) fun _ => jsta k5 Z42 ζ ζ ζ ⟨ζ, ζ, w1.one, w12.one, ζ, trivial⟩ (saf ζ) (jn ?_))))))))))
  refine jx (jrt (jso (qfz k5 (by first | omega | (rw [(stepM_len _ _ _).2]; omega)) (qfz k4 (by omega) ?_))))
  exact jrcA (val := vOutcome) (b := ⟨3, 0, me2, cl2, s2⟩) (c := (v24, vc2)) ζ ζ k0 A42 Z42 ζ (by first | exact run_wrong (by simpa using hc1) | exact ins_stop hI (by omega) hc3 | exact ins_trap hI (by omega) hc3 hc4 (by simpa using hc7) | exact end_stop hI (by omega) hc8 | exact end_ret hI (by omega) hc8 hc9 | exact end_trap hI (by omega) hc8 hc9 hc10) (rOutcome.M (m := ⟨3, 0, me2, cl2, s2⟩) (c := (v24, vc2)) d1 d0 (wl 3) (wl 0) (wp (IntWalk.i64_in s2 (by omega))))
  have hNe := hc8
  refine jsk (jx (jq (jr (js (jf F42_4 ζ) (js (jl k3 O3 ζ ζ) (js (jadd ζ ζ (by omega)) (js (jf F42_4 ζ) (jst k3 Z3 ζ ζ ζ s4 (jn (jx (jq ?_)))))))))))
  refine jq (jr (js (jf F71_2 ζ) (js (jf F59_0 ζ) (js (jl k2 O3 ζ ζ) (jn (jx (jb (jq (jr (js (jeql ζ ζ) (ja ζ ?_)))))))))))
  refine jn (jx ?_)
  refine jif ζ (fun hc9 => ?_) (fun hc9 => ?_)
  refine jq (jr (jm ζ (jm ζ (js (jf F71_2 ζ) (js (jf F59_1 ζ) (js (jl k2 O3 ζ ζ) (jc E34 ζ ζ (Tv.temp 1073741824 (pGet_ct (((ix m.Blocks (Int.toNat ab)).End).A)) (by omega)) dn (kc k1 kn) (fun _ => p0) (fun _ => p1) fun _ => jc E31 ζ ζ (pStop_ct 1 (getM rs2 (((ix m.Blocks (Int.toNat ab)).End).A)) w1.one w12.one) dn (kc k1 kn) (fun _ => p0) (fun _ => p1) fun _ => jsta k5 Z42 ζ ζ ζ ⟨ζ, ζ, w1.one, w12.one, ζ, trivial⟩ (saf ζ) (jn (jx ?_)))))))))
  refine jrt (jbr (jtr (jbr (jtr (jbr (jtr (jso (qfz k5 (by first | omega | (rw [(stepM_len _ _ _).2]; omega)) (qfz k4 (by omega) ?_)))))))))
  exact jrcA (val := vOutcome) (b := ⟨1, getM rs2 (((ix m.Blocks (Int.toNat ab)).End).A), me2, cl2, s2 + 1⟩) (c := (v24, vc2)) ζ ζ k0 A42 Z42 ζ (by first | exact run_wrong (by simpa using hc1) | exact ins_stop hI (by omega) hc3 | exact ins_trap hI (by omega) hc3 hc4 (by simpa using hc7) | exact end_stop hI (by omega) hc8 | exact end_ret hI (by omega) hc8 hc9 | exact end_trap hI (by omega) hc8 hc9 hc10) (rOutcome.M (m := ⟨1, getM rs2 (((ix m.Blocks (Int.toNat ab)).End).A), me2, cl2, s2 + 1⟩) (c := (v24, vc2)) d1 d0 (wl 1) (wgt k2 (((ix m.Blocks (Int.toNat ab)).End).A)) (wp (IntWalk.i64_in (s2 + 1) (by omega))))
  have h7 := hc9
  refine jq (jr (js (jeql ζ ζ) (ja ζ (jn (jx ?_)))))
  refine jif ζ (fun hc10 => ?_) (fun hc10 => ?_)
  refine jq (jr (jm ζ (js (jf F71_2 ζ) (js (jf F59_4 ζ) (js (jl k2 O21 ζ ζ) (jc E31 ζ ζ (pStop_ct 2 (((ix m.Blocks (Int.toNat ab)).End).Imm) w1.one w12.one) dn (kc k0 kn) (fun _ => p0) (fun _ => p1) fun _ => jsta k5 Z42 ζ ζ ζ ⟨ζ, ζ, w1.one, w12.one, ζ, trivial⟩ (saf ζ) (jn (jx (jrt (jbr ?_))))))))))
  refine jtr (jbr (jtr (jbr (jtr (jso (qfz k5 (by first | omega | (rw [(stepM_len _ _ _).2]; omega)) (qfz k4 (by omega) ?_)))))))
  exact jrcA (val := vOutcome) (b := ⟨2, ((ix m.Blocks (Int.toNat ab)).End).Imm, me2, cl2, s2 + 1⟩) (c := (v24, vc2)) ζ ζ k0 A42 Z42 ζ (by first | exact run_wrong (by simpa using hc1) | exact ins_stop hI (by omega) hc3 | exact ins_trap hI (by omega) hc3 hc4 (by simpa using hc7) | exact end_stop hI (by omega) hc8 | exact end_ret hI (by omega) hc8 hc9 | exact end_trap hI (by omega) hc8 hc9 hc10) (rOutcome.M (m := ⟨2, ((ix m.Blocks (Int.toNat ab)).End).Imm, me2, cl2, s2 + 1⟩) (c := (v24, vc2)) d1 d0 (wl 2) (rMBlock.W_End_Imm d2) (wp (IntWalk.i64_in (s2 + 1) (by omega))))
  have h8 := hc10
  have htm := ix_mem (l := (ix m.Blocks (Int.toNat ab)).End.To) (i := Int.toNat (goesM (ix m.Blocks (Int.toNat ab)).End rs2)) (by have := hW.goes hat rs2 hc9 hc10; omega)
  refine jsk (jbn (jx (jany false (.a 0 (.a 1 (.a 2 (.a 3 (.a 4 (.a 5 (.a 6 (.o 7 (.a 8 (.a 9 (.a 10 (.a 11 .e)))))))))))) Mixed (by kernel_rfl) (kc k2 kn) fun F38 => jy ζ (jmv ζ) (jy ζ (jf F71_2 ζ) (jy ζ (jf F59_3 ζ) (jy ζ (jl k0 O22 ζ ζ) (jy ζ (jf F71_2 ζ) (jy ζ (jla k0 A59 Z59 ζ ζ ζ) (jy ζ (jmv ζ) (jyo ζ ?_))))))))))
  refine jc E35 ζ ζ (Tv.temp1 1073741824 pGoes_ct (by omega)) (dc (rMBlock.P_End d1) dn) (kc k1 kn) (fun _ => p0) (fun _ => p1) fun _ => jyn d0 (kc k2 kn) ?_
  have hgo : 0 ≤ goesM ((ix m.Blocks (Int.toNat ab)).End) rs2 ∧ goesM ((ix m.Blocks (Int.toNat ab)).End) rs2 < (ix m.Blocks (Int.toNat ab)).End.To.length := hW.goes hat rs2 hc9 hc10
  refine jy ζ (jix (i := (Int.toNat (goesM ((ix m.Blocks (Int.toNat ab)).End) rs2))) U22 Z3 (rMBlock.c_End_To d0) ζ ζ (by omega) (by omega)) (jy ζ (jlI (dix (rMBlock.c_End_To d0) (Int.toNat (goesM ((ix m.Blocks (Int.toNat ab)).End) rs2)) (by omega)) O3 ζ) (jy ζ (jas ζ) (jy ζ (jas ζ) (jyd (jbn ?_)))))
  exact jag (f - 1, ix (((ix m.Blocks (Int.toNat ab)).End).To) (Int.toNat (goesM ((ix m.Blocks (Int.toNat ab)).End) rs2)), ab, rs2, me2, cl2, an2, s2 + 1, vc2, va2) ⟨by dsimp only; omega, end_go hI (by omega) hNe h7 h8, by dsimp only; exact (hW.from1 hat htm).1, by dsimp only; exact (hW.from1 hat htm).2, hrl2, hml2, by dsimp only; omega, by dsimp only; omega, by dsimp only; omega, by dsimp only; omega⟩ (dc d2 (dc d3 (dc d4 dn))) (kc k3 (kc k0 (kc k0 (kc k1 (kc k1 (kc k1 (kc k1 kn))))))) ⟨ζ, ζ, ζ, ζ, ζ, ζ, ζ, ζ, ζ, trivial⟩
end Go.Proofs.YtdlcjaefkjbonaaGreat
