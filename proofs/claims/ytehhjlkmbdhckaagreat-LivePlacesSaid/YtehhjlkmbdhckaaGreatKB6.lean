/- Lemmas that the claim is made of. Conditions: each lemma names its own. -/
import Derived.Test.YtehhjlkmbdhckaaGreatKB5
set_option linter.unusedSectionVars false
set_option linter.unusedSimpArgs false
set_option linter.unusedVariables false
namespace Go.Proofs.YtehhjlkmbdhckaaGreat
open Go.JE
theorem A133 : ∃ d, Tryz.prog.underlying 133 = some d ∧ (match d with | .struct _ | .array _ _ => true | _ => false) = true := ⟨_, Tryz.underlying133, rfl⟩
theorem E111 : Ent Tryz.prog 111 := ⟨_, Tryz.func111, by kernel_rfl, by kernel_rfl⟩
theorem E112 : Ent Tryz.prog 112 := ⟨_, Tryz.func112, by kernel_rfl, by kernel_rfl⟩
theorem E113 : Ent Tryz.prog 113 := ⟨_, Tryz.func113, by kernel_rfl, by kernel_rfl⟩
theorem E162 : Ent Tryz.prog 162 := ⟨_, Tryz.func162, by kernel_rfl, by kernel_rfl⟩
theorem E163 : Ent Tryz.prog 163 := ⟨_, Tryz.func163, by kernel_rfl, by kernel_rfl⟩
theorem E164 : Ent Tryz.prog 164 := ⟨_, Tryz.func164, by kernel_rfl, by kernel_rfl⟩
theorem E179 : Ent Tryz.prog 179 := ⟨_, Tryz.func179, by kernel_rfl, by kernel_rfl⟩
theorem E43 : Ent Tryz.prog 43 := ⟨_, Tryz.func43, by kernel_rfl, by kernel_rfl⟩
theorem E73 : Ent Tryz.prog 73 := ⟨_, Tryz.func73, by kernel_rfl, by kernel_rfl⟩
theorem F133_0 : Fld Tryz.prog 133 0 0 := ⟨_, _, Tryz.underlying133, rfl, rfl, 1, (by unfold Sz; kernel_rfl), by decide⟩
theorem G133_0 : ∃ fs f, Tryz.prog.underlying 133 = some (.struct fs) ∧ fs[0]? = some f ∧ f.offset = 0 ∧ f.type = 118 := ⟨_, _, Tryz.underlying133, rfl, rfl, rfl⟩
theorem O118 : One Tryz.prog 118 := ⟨_, Tryz.underlying118, rfl⟩
theorem Z133 : Sz Tryz.prog 133 3 := by unfold Sz; kernel_rfl
theorem J133 : (Tryz.prog.info? 133).bind (·.zero) = some (.agg #[.int .i64 0, .int .i64 0, .int .i64 0]) := by kernel_rfl
theorem any_snoc {α : Type} [Inhabited α] {l : List α} {q : α → Bool} {k : Nat} (hk : k < l.length) : (l.take (k + 1)).any q = ((l.take k).any q || q (ix l k)) := by rw [take_ix hk, List.any_append]; simp
theorem badB_f {n b : Int} (h : ¬ b < 1 ∧ ¬ n ≤ b) : badB n b = false := by unfold badB; rw [decide_eq_false h.1, decide_eq_false h.2]; rfl
theorem badB_t {n b : Int} (h : b < 1 ∨ n ≤ b) : badB n b = true := by unfold badB; rcases h with h | h <;> simp [h]
section
variable {e : D.End} {n : Int}
theorem endE_1 (h : toM e = false) : endE e n = 30 := by unfold endE; rw [if_pos h]
theorem endE_2 (h : toM e = true) (h2 : regM (needsM e) = false) : endE e n = 31 := by unfold endE; rw [if_neg (by rw [h]; decide), if_pos h2]
theorem endE_3 (h : toM e = true) (h2 : regM (needsM e) = true) {i : Nat} (hi : i < e.To.length) (h3 : badB n (ix e.To i) = true) : endE e n = 14 := by
  unfold endE; rw [if_neg (by rw [h]; decide), if_neg (by rw [h2]; decide), if_pos (any_hit hi h3)]
theorem endE_4 (h : toM e = true) (h2 : regM (needsM e) = true) {i : Nat} (hi : e.To.length ≤ i) (h3 : ∀ x ∈ e.To.take i, badB n x = false) : endE e n = 0 := by
  rw [List.take_of_length_le hi] at h3
  unfold endE; rw [if_neg (by rw [h]; decide), if_neg (by rw [h2]; decide), if_neg (by rw [any_no h3]; decide)]
end
def rPredsM (m : D.MFunc) (b : Int) : List Int := predsM m.Blocks b
def rReachM (m : D.MFunc) : List Bool := reachedM m.Blocks
def thM (m : D.MFunc) : D.jacquardref07_Got := match thingsW m.Blocks.length 0 m.Blocks with
  | some t => ⟨t.1, t.2.1, t.2.2⟩
  | none => ⟨0, 0, 0⟩
def gotM (m : D.MFunc) : D.jacquardref07_Got := ⟨(funcM m).1, (funcM m).2.1, (funcM m).2.2⟩
section
variable {m : D.MFunc} {a b c : Int}
theorem th_some (h : thingsW m.Blocks.length 0 m.Blocks = some (a, b, c)) : thM m = ⟨a, b, c⟩ := by unfold thM; rw [h]
theorem th_none (h : thingsW m.Blocks.length 0 m.Blocks = none) : thM m = ⟨0, 0, 0⟩ := by unfold thM; rw [h]
theorem got_of (h : funcM m = (a, b, c)) : gotM m = ⟨a, b, c⟩ := by unfold gotM; rw [h]
theorem th_bad (h : ¬ (thM m).E = 0) : ∃ t, thingsW m.Blocks.length 0 m.Blocks = some t ∧ thM m = ⟨t.1, t.2.1, t.2.2⟩ := by
  unfold thM at h ⊢
  cases h1 : thingsW m.Blocks.length 0 m.Blocks with
  | some t => exact ⟨t, rfl, rfl⟩
  | none => rw [h1] at h; exact absurd rfl h
theorem things_pos : ∀ (bs : List D.MBlock) (k : Nat) (n : Int) (t : Int × Int × Int), thingsW n k bs = some t → t.1 ≠ 0 := by
  intro bs
  induction bs with
  | nil => intro b n t h; cases h
  | cons x l ih =>
    intro b n t h
    rw [thingsW] at h
    cases hb : blockW n x with
    | none => rw [hb] at h; exact ih _ _ _ h
    | some u =>
      rw [hb] at h
      cases h
      show u.1 ≠ 0
      unfold blockW at hb
      have hp : ∀ (P l : List D.Phi) (k : Nat) (u : Int × Int), phiW P k l = some u → u.1 ≠ 0 := by
        intro P l
        induction l with
        | nil => intro k u h; cases h
        | cons p l ih2 => intro k u h; rw [phiW] at h; split at h; (· exact ih2 _ _ h); cases h; assumption
      have hi : ∀ (l : List D.Mach) (k : Nat) (u : Int × Int), insW k l = some u → u.1 ≠ 0 := by
        intro l
        induction l with
        | nil => intro k u h; cases h
        | cons p l ih2 => intro k u h; rw [insW] at h; split at h; (· exact ih2 _ _ h); cases h; assumption
      cases h1 : phiW x.Phis 0 x.Phis with
      | some t => rw [h1] at hb; cases hb; exact hp _ _ _ _ h1
      | none =>
        rw [h1] at hb
        cases h2 : insW 0 x.Ins with
        | some t => rw [h2] at hb; cases hb; exact hi _ _ _ h2
        | none =>
          rw [h2] at hb
          by_cases h3 : endE x.End n = 0
          · simp only [if_pos h3] at hb; cases hb
          · simp only [if_neg h3] at hb; cases hb; exact h3
theorem th_good (h : (thM m).E = 0) : thingsW m.Blocks.length 0 m.Blocks = none := by
  unfold thM at h
  cases h1 : thingsW m.Blocks.length 0 m.Blocks with
  | some t => rw [h1] at h; exact absurd h (things_pos _ _ _ _ h1)
  | none => rfl
end
theorem preds_step {bs : List D.MBlock} {k j : Nat} {b : Bool} {x : Int} (hb : b = ((ix bs k).End.To.take j).any (fun y => decide (y = x))) (hj : (ix bs k).End.To.length ≤ j) : predsT bs (k + 1) x = predsT bs k x ++ if b = true then [(k : Int)] else [] := by
  rw [predsT_succ]
  congr 1
  rw [List.take_of_length_le hj] at hb
  by_cases h : x ∈ (ix bs k).End.To
  · rw [if_pos h, if_pos]
    rw [hb, List.any_eq_true]; exact ⟨x, h, by simp⟩
  · rw [if_neg h, if_neg]
    intro h1
    rw [hb, List.any_eq_true] at h1
    obtain ⟨y, hy, h2⟩ := h1
    simp at h2; subst h2; exact h hy
section
variable {bs : List D.MBlock} {i j : Nat} {se se2 : List Bool} {l l2 : List Int}
theorem ix_drop0 (h : i < l.length) : ix (l.drop i) 0 = ix l i := by rw [drop_ix h]; rfl
theorem rb_step (hi : i < l.length) (hf : 0 < bs.length - i) (hb : reachedM bs = bfs bs (bs.length - i) se (l.drop i))
    (hIn : bfsIn se2 (l2.drop i) ((ix bs (ix l i).toNat).End.To.drop j) = bfsIn se (l.drop i) (ix bs (ix l i).toNat).End.To) (hj : (ix bs (ix l i).toNat).End.To.length ≤ j) : reachedM bs = bfs bs (bs.length - (i + 1)) se2 (l2.drop (i + 1)) := by
  rw [List.drop_of_length_le hj] at hIn
  rw [hb, bfs_step hf (by rw [List.length_drop]; omega), ix_drop0 hi, ← hIn, show bs.length - i - 1 = bs.length - (i + 1) by omega]
  show bfs bs _ se2 ((l2.drop i).drop 1) = _
  rw [List.drop_drop]
theorem rb_end (hb : reachedM bs = bfs bs (bs.length - i) se (l.drop i)) (hi : l.length ≤ i) : reachedM bs = se := by rw [hb, List.drop_of_length_le hi, bfs_nil]
theorem rb_old {T : List Int} (hj : j < T.length) (hIn : bfsIn se2 (l2.drop i) (T.drop j) = bfsIn se (l.drop i) T) (h : ix se2 (Int.toNat (ix T j)) = true) : bfsIn se2 (l2.drop i) (T.drop (j + 1)) = bfsIn se (l.drop i) T := by
  rw [← hIn, drop_ix hj, bfsIn, if_pos h]
theorem rb_new {T : List Int} (hj : j < T.length) (hi : i ≤ l2.length) (hIn : bfsIn se2 (l2.drop i) (T.drop j) = bfsIn se (l.drop i) T) (h : ix se2 (Int.toNat (ix T j)) = false) : bfsIn (List.set se2 (Int.toNat (ix T j)) true) ((l2 ++ [ix T j]).drop i) (T.drop (j + 1)) = bfsIn se (l.drop i) T := by
  rw [← hIn, drop_ix hj, bfsIn, if_neg (by rw [h]; decide), List.drop_append_of_le_length hi]
end
section
variable {m : D.MFunc} {k : Nat}
theorem rg_15 (hk : k < (rReachM m).length) (hR : ∀ x ∈ (rReachM m).take k, (false == x) = false) (h : ix (rReachM m) k = false) : graphM m = (15, (k : Int), 0) := by
  have := idx_hit (q := fun x => false == x) hk hR (by simp [h])
  unfold graphM; unfold rReachM at this; rw [this, if_pos (by omega)]
theorem rg_no (hk : (rReachM m).length ≤ k) (hR : ∀ x ∈ (rReachM m).take k, (false == x) = false) : graphM m = graphPhis m.Blocks 0 m.Blocks := by
  have := idx_none (q := fun x => false == x) hk hR
  unfold graphM; unfold rReachM at this; rw [this, if_neg (by decide)]
def EqIn (bs : List D.MBlock) (b : Nat) (p : D.Phi) (k : Nat) (ok : Bool) : Prop :=
  (ok = true ∧ 0 < b ∧ p.In.length = (predsM bs b).length ∧ k ≤ p.In.length ∧ (p.In.take k).map (·.From) = (predsM bs b).take k) ∨ (ok = false ∧ badPhi bs b p = true)
theorem eqIn_start {bs : List D.MBlock} {b : Nat} {p : D.Phi} : EqIn bs b p 0 (decide (0 < (b : Int)) && decide ((p.In.length : Int) = ((predsM bs b).length : Int))) := by
  unfold EqIn
  by_cases h : 0 < b
  · by_cases h2 : p.In.length = (predsM bs b).length
    · refine .inl ⟨by simp [h, h2], h, h2, by omega, by simp⟩
    · refine .inr ⟨by rw [Bool.and_eq_false_iff]; exact .inr (decide_eq_false (by omega)), ?_⟩
      unfold badPhi
      have : ¬ p.In.map (·.From) = predsM bs b := by intro h3; have := congrArg List.length h3; simp at this; exact h2 this
      simp [this]
  · refine .inr ⟨by rw [Bool.and_eq_false_iff]; exact .inl (decide_eq_false (by omega)), ?_⟩
    unfold badPhi
    simp [show b = 0 by omega]
theorem eqIn_next {bs : List D.MBlock} {b k : Nat} {p : D.Phi} {ok : Bool} (h : EqIn bs b p k ok) (hc : ok = true ∧ (k : Int) < ((predsM bs b).length : Int)) : EqIn bs b p (k + 1) (decide ((ix p.In k).From = ix (predsM bs b) k)) := by
  rcases h with ⟨h1, h2, h3, h4, h5⟩ | ⟨h1, _⟩
  · have hk : k < (predsM bs b).length := by omega
    by_cases h6 : (ix p.In k).From = ix (predsM bs b) k
    · refine .inl ⟨by simp [h6], h2, h3, by omega, ?_⟩
      rw [take_ix (by omega), take_ix hk, List.map_append, h5]
      simp [h6]
    · refine .inr ⟨by simp [h6], ?_⟩
      unfold badPhi
      have : ¬ p.In.map (·.From) = predsM bs b := by
        intro h7; apply h6; rw [← h7, ix_eq (by omega), ix_eq (by simpa using (by omega : k < p.In.length))]; simp
      simp [this]
  · rw [h1] at hc; exact absurd hc.1 (by decide)
theorem eqIn_ok {bs : List D.MBlock} {b k : Nat} {p : D.Phi} {ok : Bool} (h : EqIn bs b p k ok) (hc : ok = false ∨ ¬ (k : Int) < ((predsM bs b).length : Int)) (hok : ok = true) : badPhi bs b p = false := by
  rcases h with ⟨_, h2, h3, h4, h5⟩ | ⟨h1, _⟩
  · have h6 : (predsM bs b).length ≤ k := by
      have : ¬ (k : Int) < ((predsM bs b).length : Int) := hc.resolve_left (by rw [hok]; decide)
      omega
    rw [List.take_of_length_le (by omega), List.take_of_length_le h6] at h5
    unfold badPhi
    simp [h5, show ¬ b = 0 by omega]
  · rw [h1] at hok; cases hok
theorem eqIn_bad {bs : List D.MBlock} {b k : Nat} {p : D.Phi} {ok : Bool} (h : EqIn bs b p k ok) (hok : ok = false) : badPhi bs b p = true := by
  rcases h with ⟨h1, _⟩ | ⟨_, h2⟩
  · rw [hok] at h1; cases h1
  · exact h2
end
theorem phiE_wr (l : List D.Phi) (n : Int) : IntKind.i64.wrap (rPhiM l n) = rPhiM l n := IntWalk.i64_in _ (by unfold rPhiM phiE; (repeat' split) <;> omega)
theorem insE_wr (i : D.Mach) : IntKind.i64.wrap (insE i) = insE i := IntWalk.i64_in _ (by unfold insE; (repeat' split) <;> omega)
theorem endE_wr (e : D.End) (n : Int) : IntKind.i64.wrap (endE e n) = endE e n := IntWalk.i64_in _ (by unfold endE; (repeat' split) <;> omega)
theorem rEnd_ct {a0 : Value} {e : D.End} (n : Int) : Tv Tryz.prog 164 #[vEnd e a0, .int .i64 n] [da rEnd (vEnd e a0) e] [] (.int .i64 (endE e n)) := by
  refine jenter (args := [vEnd e a0, .int .i64 n]) Tryz.func164 rfl rfl rfl fun w0 X => ?_
  refine jq (jr (jbox Z Z fun g2 => ja Z (jn (jx (jq (jq (jr (js (jla k0 A35 Z35 Z Z Z) (jcv E179 Z Z rTo_ct (dc d0 dn) kn (js (jnot Z) ?_))))))))))
  refine jn (jx ?_)
  refine jif Z (fun hc1 => ?_) (fun hc1 => ?_)
  refine jq (jr (ja Z (jn (jx (jrt (jtr ?_))))))
  exact jrI Z Z (by first | exact endE_1 hc1 | exact endE_2 hc1 hc2 | exact endE_3 hc1 hc2 (by omega) (badB_t hc4) | exact endE_4 hc1 hc2 (by omega) hno)
  refine jsk (jx (jq (jq (jr (js (jla k0 A35 Z35 Z Z Z) (jcd E43 Z Z rNeeds_ct (dc d0 dn) kn fun v10 q1 w1 => jcv E177 Z Z rReg_ct (dc d0 dn) kn (js (jnot Z) (jn (jx ?_)))))))))
  refine jif Z (fun hc2 => ?_) (fun hc2 => ?_)
  refine jq (jr (ja Z (jn (jx (jrt (jtr ?_))))))
  exact jrI Z Z (by first | exact endE_1 hc1 | exact endE_2 hc1 hc2 | exact endE_3 hc1 hc2 (by omega) (badB_t hc4) | exact endE_4 hc1 hc2 (by omega) hno)
  refine jsk (jx (jq (jq (jr (ja Z (jn (jx (jb ?_))))))))
  refine jlp (fun (i : Nat) => ⟨i ≤ e.To.length ∧ (∀ x ∈ e.To.take i, badB n x = false), [da rEnd (vEnd e a0) e], [bx g2 35 [.int .i64 e.Op, .int .i64 e.A, .int .i64 e.B, a0, .int .i32 e.Imm]], [(1, .int .i64 n), (2, .pointer (some ⟨g2, 0, none⟩)), (5, .int .i64 (↑i))], e.To.length - i⟩) 0 ⟨by omega, by simp⟩ (dc d1 dn) (kc k0 kn) ⟨Z, Z, eqI (by omega), trivial⟩ ?_
  rintro i; dsimp only; rintro ⟨hi, hno⟩
  refine jq (jq (jr (jm Z (js (jf F35_3 Z) (js (jl k0 O22 Z Z) (jdq (rEnd.c_To d0) fun q3 w3 => js (jln U22 (rEnd.c_To d0) Z) (js (jlss Z Z) (jn (jx ?_)))))))))
  refine jif Z (fun hc3 => ?_) (fun hc3 => ?_)
  refine jsk (jx (jq (jb (jq (jr (js (jf F35_3 Z) (js (jl k0 O22 Z Z) (jm Z (js (jix U22 Z3 (rEnd.c_To d0) Z Z Z (by omega)) (js (jlI (dix (rEnd.c_To d0) i (by omega)) O3 Z) (js (jlss Z Z) ?_)))))))))))
  refine jm Z (jg Z Z (.f _) (fun hg => jf F35_3 Z) (jg Z Z (.f _) (fun hg => jl k0 O22 (evg Z hg) Z) (jg Z Z (.f _) (fun hg => jmv Z) (jg Z Z (.f _) (fun hg => jix U22 Z3 (rEnd.c_To d0) (evg Z hg) (evg Z hg) Z (by first | omega | (simp at hg; omega) | (simp only [List.length_set]; omega))) (jg Z Z (.f _) (fun hg => jlI (dix (rEnd.c_To d0) i (by first | omega | (simp at hg; omega) | (simp only [List.length_set]; omega))) O3 (evg Z hg)) (jg Z Z (.f _) (fun hg => jmv Z) (jg Z Z (.f _) (fun hg => jgeq (evg Z hg) (evg Z hg)) (js (jor Z Z) (jn (jx ?_))))))))))
  refine jif Z (fun hc4 => ?_) (fun hc4 => ?_)
  refine jq (jr (ja Z (jn (jx (jrt (jbr (jtr (jtr (jbr (jtr ?_))))))))))
  exact jrI Z Z (by first | exact endE_1 hc1 | exact endE_2 hc1 hc2 | exact endE_3 hc1 hc2 (by omega) (badB_t hc4) | exact endE_4 hc1 hc2 (by omega) hno)
  refine jsk (jbn (jx (jr (jm Z (js (jadd Z Z (by omega)) (ja Z (jn ?_)))))))
  exact jag (i + 1) ⟨by omega, no_snoc (by omega) hno (badB_f hc4)⟩ (dc d0 dn) (kc k0 kn) ⟨Z, Z, eqI (by omega), trivial⟩
  refine jex (jtx (jtx (jbh (jx (jq (jr (ja Z (jn (jx (jrt ?_))))))))))
  exact jrI Z Z (by first | exact endE_1 hc1 | exact endE_2 hc1 hc2 | exact endE_3 hc1 hc2 (by omega) (badB_t hc4) | exact endE_4 hc1 hc2 (by omega) hno)
set_option maxRecDepth 4000 in
theorem rThings_ct {a0 : Value} {m : D.MFunc} : Ts Tryz.prog 111 #[vMFunc m a0] [da rMFunc (vMFunc m a0) m] [] rjacquardref07_Got vjacquardref07_Got (thM m) := by
  refine jenter (args := [vMFunc m a0]) Tryz.func111 rfl rfl rfl fun w0 X => ?_
  refine jq (jr (jbox Z Z fun g1 => jalc J133 Z fun g2 => jn (jx (jq (jq (jr (ja Z (jn (jx ?_)))))))))
  refine jb ?_
  refine jlp (fun (k : Nat) => ⟨k ≤ m.Blocks.length ∧ thingsW m.Blocks.length 0 m.Blocks = thingsW m.Blocks.length k (m.Blocks.drop k), [da rMFunc (vMFunc m a0) m], [bx g2 133 [.int .i64 0, .int .i64 0, .int .i64 0], bx g1 28 [.int .i64 m.Params, a0]], [(1, .pointer (some ⟨g1, 0, none⟩)), (2, .pointer (some ⟨g2, 0, none⟩)), (3, .int .i64 (↑k))], m.Blocks.length - k⟩) 0 ⟨by omega, rfl⟩ (dc d0 dn) (kd kn) ⟨Z, Z, eqI (by omega), trivial⟩ ?_
  rintro k; dsimp only; rintro ⟨hk, hB⟩
  refine jq (jq (jr (jm Z (js (jf F28_1 Z) (js (jl k1 O26 Z Z) (jdq (rMFunc.c_Blocks d0) fun q1 w1 => js (jln U26 (rMFunc.c_Blocks d0) Z) (js (jlss Z Z) (jn (jx ?_)))))))))
  refine jif Z (fun hc1 => ?_) (fun hc1 => ?_)
  refine jsk (jx (jq (jb (jq (jr (js (jf F28_1 Z) (js (jl k1 O26 Z Z) (jm Z (js (jix U26 Z37 (rMFunc.c_Blocks d0) Z Z Z (by omega)) (jA3 sMBlock (jlA (dix (rMFunc.c_Blocks d0) k (by omega)) A37 Z37 Z) fun c21a c21b c21c => jalc J37 Z fun g4 => ?_))))))))))
  refine jdq (rMBlock.c_Phis d0) fun q3 w3 => jdq (rMBlock.c_Ins d0) fun q4 w4 => jdq (rMBlock.c_End_To d0) fun q5 w5 => jsta k0 Z37 Z Z Z ⟨w3.one, w4.one, Z, Z, Z, w5.one, Z, trivial⟩ (saf Z) (jn (jx (jq (jq (jr (ja Z (jn (jx ?_))))))))
  refine jb ?_
  refine jlp (fun (i : Nat) => ⟨i ≤ (ix m.Blocks k).Phis.length ∧ phiW (ix m.Blocks k).Phis 0 (ix m.Blocks k).Phis = phiW (ix m.Blocks k).Phis i ((ix m.Blocks k).Phis.drop i), [da rMBlock (vMBlock (ix m.Blocks k) (c21a, c21b, c21c)) (ix m.Blocks k), da rMFunc (vMFunc m a0) m], [bx g4 37 [c21a, c21b, .int .i64 (((ix m.Blocks k).End).Op), .int .i64 (((ix m.Blocks k).End).A), .int .i64 (((ix m.Blocks k).End).B), c21c, .int .i32 (((ix m.Blocks k).End).Imm)], bx g2 133 [.int .i64 0, .int .i64 0, .int .i64 0], bx g1 28 [.int .i64 m.Params, a0]], [(1, .pointer (some ⟨g1, 0, none⟩)), (2, .pointer (some ⟨g2, 0, none⟩)), (3, .int .i64 (↑k)), (4, .pointer (some ⟨g4, 0, none⟩)), (5, .int .i64 (↑i))], (ix m.Blocks k).Phis.length - i⟩) 0 ⟨by omega, rfl⟩ (dc d0 (dc d1 dn)) (kd (kc k0 kn)) ⟨Z, Z, Z, Z, eqI (by omega), trivial⟩ ?_
  rintro i; dsimp only; rintro ⟨hi, hP⟩
  refine jq (jq (jr (jm Z (js (jf F37_0 Z) (js (jl k0 O32 Z Z) (js (jln U32 (rMBlock.c_Phis d0) Z) (js (jlss Z Z) (jn (jx ?_)))))))))
  refine jif Z (fun hc2 => ?_) (fun hc2 => ?_)
  refine jsk (jx (jq (jb (jq (jr (js (jf F37_0 Z) (js (jl k0 O32 Z Z) (jm Z (jcv E162 Z Z (rPhi_ct ↑i (by omega)) (dc (rMBlock.c_Phis d0) dn) kn (ja Z (jn ?_)))))))))))
  refine jx (jq (jr (jm Z (js (jneq Z Z) (jn (jx ?_))))))
  refine jif Z (fun hc3 => ?_) (fun hc3 => ?_)
  refine jq (jr (jm Z (jm Z (jm Z (js (jsub Z Z (by omega)) (js (jbu (v := .agg #[.int .i64 (rPhiM ((ix m.Blocks k).Phis) ↑i), .int .i64 (↑k), .int .i64 ((-1) - ↑i)]) Z (fun _ => by kernel_rfl)) (jsta k1 Z133 Z Z Z ⟨Z, Z, Z, trivial⟩ (saf Z) (jn (jx (jrt (jbr ?_)))))))))))
  refine jtr (jtr (jbr (jtr (jbr (jtr (jtr (jbr (jtr ?_))))))))
  exact jrcA (val := vjacquardref07_Got) (b := ⟨rPhiM ((ix m.Blocks k).Phis) ↑i, ↑k, (-1) - ↑i⟩) (c := ()) Z Z k0 A133 Z133 Z (by first | exact th_some (things_phi (by omega) hB (by omega) hP hc3) | exact th_some (things_ins (by omega) hB (phiW_end (by omega) hP) (by omega) hI hc5) | exact th_some (things_end (by omega) hB (phiW_end (by omega) hP) (insW_end (by omega) hI) hc6) | exact th_none (things_done (by omega) hB)) (rjacquardref07_Got.M (m := ⟨rPhiM ((ix m.Blocks k).Phis) ↑i, ↑k, (-1) - ↑i⟩) (c := ()) (wp (phiE_wr _ _)) (wp (IntWalk.i64_in ↑k (by omega))) (wp (IntWalk.i64_in ((-1) - ↑i) (by omega))))
  refine jsk (jbn (jx (jr (jm Z (js (jadd Z Z (by omega)) (ja Z (jn ?_)))))))
  exact jag (i + 1) ⟨by omega, phiW_next (by omega) hP hc3⟩ (dc d0 (dc d1 dn)) (kd (kc k0 kn)) ⟨Z, Z, Z, Z, eqI (by omega), trivial⟩
  refine jex (jtx (jtx (jbh (jx (jq (jq (jr (ja Z (jn (jx (jb ?_)))))))))))
  refine jlp (fun (j : Nat) => ⟨j ≤ (ix m.Blocks k).Ins.length ∧ insW 0 (ix m.Blocks k).Ins = insW j ((ix m.Blocks k).Ins.drop j), [da rMBlock (vMBlock (ix m.Blocks k) (c21a, c21b, c21c)) (ix m.Blocks k), da rMFunc (vMFunc m a0) m], [bx g4 37 [c21a, c21b, .int .i64 (((ix m.Blocks k).End).Op), .int .i64 (((ix m.Blocks k).End).A), .int .i64 (((ix m.Blocks k).End).B), c21c, .int .i32 (((ix m.Blocks k).End).Imm)], bx g2 133 [.int .i64 0, .int .i64 0, .int .i64 0], bx g1 28 [.int .i64 m.Params, a0]], [(1, .pointer (some ⟨g1, 0, none⟩)), (2, .pointer (some ⟨g2, 0, none⟩)), (3, .int .i64 (↑k)), (4, .pointer (some ⟨g4, 0, none⟩)), (7, .int .i64 (↑j))], (ix m.Blocks k).Ins.length - j⟩) 0 ⟨by omega, rfl⟩ (dc d0 (dc d1 dn)) (kd (kc k0 kn)) ⟨Z, Z, Z, Z, eqI (by omega), trivial⟩ ?_
  rintro j; dsimp only; rintro ⟨hj, hI⟩
  refine jq (jq (jr (jm Z (js (jf F37_1 Z) (js (jl k0 O33 Z Z) (js (jln U33 (rMBlock.c_Ins d0) Z) (js (jlss Z Z) (jn (jx ?_)))))))))
  refine jif Z (fun hc4 => ?_) (fun hc4 => ?_)
  refine jsk (jx (jq (jb (jq (jr (js (jf F37_1 Z) (js (jl k0 O33 Z Z) (jm Z (js (jix U33 Z69 (rMBlock.c_Ins d0) Z Z Z (by omega)) (jA sMach (jlA (dix (rMBlock.c_Ins d0) j (by omega)) A69 Z69 Z) fun c51 => jcv E163 Z Z rIns_ct (dc d0 dn) kn ?_))))))))))
  refine ja Z (jn (jx (jq (jr (jm Z (js (jneq Z Z) (jn (jx ?_))))))))
  refine jif Z (fun hc5 => ?_) (fun hc5 => ?_)
  refine jq (jr (jm Z (jm Z (jm Z (js (jbu (v := .agg #[.int .i64 (insE (ix ((ix m.Blocks k).Ins) j)), .int .i64 (↑k), .int .i64 (↑j)]) Z (fun _ => by kernel_rfl)) (jsta k1 Z133 Z Z Z ⟨Z, Z, Z, trivial⟩ (saf Z) (jn (jx (jrt (jbr (jtr ?_)))))))))))
  refine jtr (jbr (jtr (jbr (jtr (jtr (jbr (jtr ?_)))))))
  exact jrcA (val := vjacquardref07_Got) (b := ⟨insE (ix ((ix m.Blocks k).Ins) j), ↑k, ↑j⟩) (c := ()) Z Z k0 A133 Z133 Z (by first | exact th_some (things_phi (by omega) hB (by omega) hP hc3) | exact th_some (things_ins (by omega) hB (phiW_end (by omega) hP) (by omega) hI hc5) | exact th_some (things_end (by omega) hB (phiW_end (by omega) hP) (insW_end (by omega) hI) hc6) | exact th_none (things_done (by omega) hB)) (rjacquardref07_Got.M (m := ⟨insE (ix ((ix m.Blocks k).Ins) j), ↑k, ↑j⟩) (c := ()) (wp (insE_wr _)) (wp (IntWalk.i64_in ↑k (by omega))) (wp (IntWalk.i64_in ↑j (by omega))))
  refine jsk (jbn (jx (jr (jm Z (js (jadd Z Z (by omega)) (ja Z (jn ?_)))))))
  exact jag (j + 1) ⟨by omega, insW_next (by omega) hI hc5⟩ (dc d1 (dc d2 dn)) (kd (kc k0 kn)) ⟨Z, Z, Z, Z, eqI (by omega), trivial⟩
  refine jex (jtx (jtx (jbh (jx (jq (jr (js (jf F37_2 Z) (js (jla k0 A35 Z35 Z Z Z) (js (jf F28_1 Z) (js (jl k2 O26 Z Z) (js (jln U26 (rMFunc.c_Blocks d1) Z) ?_)))))))))))
  refine jcv E164 Z Z (rEnd_ct (↑(List.length m.Blocks))) (dc (rMBlock.P_End d0) dn) kn (ja Z (jn (jx (jq (jr (jm Z (js (jneq Z Z) (jn (jx ?_)))))))))
  refine jif Z (fun hc6 => ?_) (fun hc6 => ?_)
  refine jq (jr (jm Z (jm Z (js (jf F37_1 Z) (js (jl k0 O33 Z Z) (js (jln U33 (rMBlock.c_Ins d0) Z) (js (jbu (v := .agg #[.int .i64 (endE ((ix m.Blocks k).End) (↑(List.length m.Blocks))), .int .i64 (↑k), .int .i64 (↑(List.length ((ix m.Blocks k).Ins)))]) Z (fun _ => by kernel_rfl)) (jsta k1 Z133 Z Z Z ⟨Z, Z, Z, trivial⟩ (saf Z) (jn (jx (jrt ?_)))))))))))
  refine jbr (jtr (jtr (jbr (jtr ?_))))
  exact jrcA (val := vjacquardref07_Got) (b := ⟨endE ((ix m.Blocks k).End) (↑(List.length m.Blocks)), ↑k, ↑(List.length ((ix m.Blocks k).Ins))⟩) (c := ()) Z Z k0 A133 Z133 Z (by first | exact th_some (things_phi (by omega) hB (by omega) hP hc3) | exact th_some (things_ins (by omega) hB (phiW_end (by omega) hP) (by omega) hI hc5) | exact th_some (things_end (by omega) hB (phiW_end (by omega) hP) (insW_end (by omega) hI) hc6) | exact th_none (things_done (by omega) hB)) (rjacquardref07_Got.M (m := ⟨endE ((ix m.Blocks k).End) (↑(List.length m.Blocks)), ↑k, ↑(List.length ((ix m.Blocks k).Ins))⟩) (c := ()) (wp (endE_wr _ _)) (wp (IntWalk.i64_in ↑k (by omega))) (wp (IntWalk.i64_in (↑(List.length ((ix m.Blocks k).Ins))) (by omega))))
  refine jsk (jbn (jx (jr (jm Z (js (jadd Z Z (by omega)) (ja Z (jn ?_)))))))
  exact jag (k + 1) ⟨by omega, things_next (by omega) hB (phiW_end (by omega) hP) (insW_end (by omega) hI) hc6⟩ (dc d1 dn) (kc k1 (kc k1 kn)) ⟨Z, Z, eqI (by omega), trivial⟩
  refine jex (jtx (jtx (jbh (jx (jq (jr (js (jbu (v := .agg #[.int .i64 0, .int .i64 0, .int .i64 0]) Z (fun _ => by kernel_rfl)) (jsta k0 Z133 Z Z Z ⟨Z, Z, Z, trivial⟩ (saf Z) (jn (jx (jrt ?_)))))))))))
  exact jrcA (val := vjacquardref07_Got) (b := ⟨0, 0, 0⟩) (c := ()) Z Z k0 A133 Z133 Z (by first | exact th_some (things_phi (by omega) hB (by omega) hP hc3) | exact th_some (things_ins (by omega) hB (phiW_end (by omega) hP) (by omega) hI hc5) | exact th_some (things_end (by omega) hB (phiW_end (by omega) hP) (insW_end (by omega) hI) hc6) | exact th_none (things_done (by omega) hB)) (rjacquardref07_Got.M (m := ⟨0, 0, 0⟩) (c := ()) (wl 0) (wl 0) (wl 0))
theorem rPreds_ct {a0 : Value} {m : D.MFunc} (block : Int) (hn9 : m.Blocks.length < 1073741824) : Td Tryz.prog 113 #[vMFunc m a0, .int .i64 block] [da rMFunc (vMFunc m a0) m] [] (rL (rI .i64)) (rPredsM m block) := by
  refine jenter (args := [vMFunc m a0, .int .i64 block]) Tryz.func113 rfl rfl rfl fun w0 X => ?_
  refine jq (jr (jbox Z Z fun g2 => ja Z (jn (jx (jq (jr (jlit (r := (rI .i64)) (l := []) U22 I3 (by decide) Z Z Z ln fun g9 => ja Z (jn (jx ?_)))))))))
  refine jq (jq (jr (ja Z (jn (jx (jb ?_))))))
  refine jlp (u3 fun (k : Nat) (vo : Value) (lo : List Int) => ⟨k ≤ m.Blocks.length ∧ lo = predsT m.Blocks k block, [da rMFunc (vMFunc m a0) m], [gl X.n (rI .i64) 3 vo lo, bx g2 28 [.int .i64 m.Params, a0]], [(1, .int .i64 block), (2, .pointer (some ⟨g2, 0, none⟩)), (4, .slice none 0 0), (5, vo), (6, .int .i64 (↑k))], m.Blocks.length - k⟩) (0, (.slice (some ⟨g9, 0, none⟩) 0 0), []) ⟨by dsimp only; omega, rfl⟩ (dc d0 dn) (kd kn) ⟨Z, Z, Z, Z, eqI (by omega), trivial⟩ ?_
  rintro ⟨k, vo, lo⟩; dsimp only [u3]; rintro ⟨hk, hlo⟩
  refine cgo k0 fun w1 => ?_
  have hll : lo.length ≤ k := by rw [hlo]; exact predsT_len _ _ _
  refine jq (jq (jr (jm Z (js (jf F28_1 Z) (js (jl k1 O26 Z Z) (jdq (rMFunc.c_Blocks d0) fun q2 w2 => js (jln U26 (rMFunc.c_Blocks d0) Z) (js (jlss Z Z) (jn (jx ?_)))))))))
  refine jif Z (fun hc1 => ?_) (fun hc1 => ?_)
  refine jsk (jx (jq (jb (jq (jr (ja Z (jn (jx (jq (jq (jr ?_)))))))))))
  refine ja Z (jn (jx (jb ?_)))
  refine jlp (u2 fun (j : Nat) (b : Bool) => ⟨j ≤ (ix m.Blocks k).End.To.length ∧ b = ((ix m.Blocks k).End.To.take j).any (fun y => decide (y = block)), [da rMFunc (vMFunc m a0) m], [gl X.n (rI .i64) 3 vo lo, bx g2 28 [.int .i64 m.Params, a0]], [(1, .int .i64 block), (2, .pointer (some ⟨g2, 0, none⟩)), (4, .slice none 0 0), (5, vo), (6, .int .i64 (↑k)), (7, .bool b), (8, .int .i64 (↑j))], (ix m.Blocks k).End.To.length - j⟩) (0, false) ⟨by dsimp only; omega, rfl⟩ (dc d0 dn) (kd kn) ⟨Z, Z, Z, Z, Z, Z, eqI (by omega), trivial⟩ ?_
  rintro ⟨j, b⟩; dsimp only [u2]; rintro ⟨hj, hb⟩
  refine jq (jq (jr (jm Z (js (jf F28_1 Z) (js (jl k1 O26 Z Z) (jm Z (js (jix U26 Z37 (rMFunc.c_Blocks d0) Z Z Z (by omega)) (js (jf F37_2 Z) (js (jf F35_3 Z) (jev (jlV (rEnd.A_To (rMBlock.A_End (dix (rMFunc.c_Blocks d0) k (by omega)))) O22 Z Z) fun v24 q3 w3 => js (jln U22 d0 Z) ?_))))))))))
  refine js (jlss Z Z) (jn (jx ?_))
  refine jif Z (fun hc2 => ?_) (fun hc2 => ?_)
  refine jsk (jx (jq (jb (jr (jm Z (jm Z (jg Z Z (.f _) (fun hg => jf F28_1 Z) (jg Z Z (.f _) (fun hg => jl k1 O26 (evg Z hg) Z) (jg Z Z (.f _) (fun hg => jmv Z) (jg Z Z (.f _) (fun hg => jix U26 Z37 (rMFunc.c_Blocks d1) (evg Z hg) (evg Z hg) Z (by first | omega | (simp at hg; omega) | (simp only [List.length_set]; omega))) (jg Z Z (.f _) (fun hg => jf F37_2 (evg Z hg)) ?_)))))))))))
  refine jg Z Z (.f _) (fun hg => jf F35_3 (evg Z hg)) (jge (q := fun v => dv (rL (rI .i64)) v (((ix m.Blocks k).End).To)) Z Z (.f _) (fun hg => jlV (rEnd.A_To (rMBlock.A_End (dix (rMFunc.c_Blocks d1) k (by first | omega | (simp at hg; omega) | (simp only [List.length_set]; omega))))) O22 Z (evg Z hg)) fun v37 => jg Z Z (.f _) (fun hg => jmv Z) (jg Z Z (.f _) (fun hg => jix U22 Z3 (d0.on hg) (evg Z hg) (evg Z hg) Z (by first | omega | (simp at hg; omega) | (simp only [List.length_set]; omega))) (jg Z Z (.f _) (fun hg => jlI (dix (d0.on hg) j (by first | omega | (simp at hg; omega) | (simp only [List.length_set]; omega))) O3 (evg Z hg)) (jg Z Z (.f _) (fun hg => jmv Z) (jg Z Z (.f _) (fun hg => jeql (evg Z hg) (evg Z hg)) (js (jor Z Z) (ja Z (jn (jbn (jx ?_))))))))))
  refine jr (jm Z (js (jadd Z Z (by omega)) (ja Z (jn ?_))))
  exact jag (j + 1, b || (decide (ix (((ix m.Blocks k).End).To) j = block))) ⟨by dsimp only; omega, by dsimp only; rw [any_snoc (by omega), ← hb]⟩ (dc d2 dn) (kd kn) ⟨Z, Z, Z, Z, Z, Z, eqI (by omega), trivial⟩
  refine jex (jtx (jtx (jbh (jx (jq (jr (jm Z (jn (jx ?_)))))))))
  refine jif Z (fun hc3 => ?_) (fun hc3 => ?_)
  refine jr (jm Z (jm Z (japv U22 I3 (by decide) Z Z k0 Z (wI (wp (IntWalk.i64_in _ (by omega)))) (by omega) (fun _ => Z) fun v48 _ w6 => ja Z (jn (jbn (jx (jr (jm Z (js (jadd Z Z (by omega)) (ja Z ?_))))))))))
  refine jn ?_
  exact jag (k + 1, v48, lo ++ [((k : Nat) : Int)]) ⟨by dsimp only; omega, by dsimp only; rw [preds_step hb (by omega), hc3, ← hlo]; simp⟩ (dc d1 dn) (kd kn) ⟨Z, Z, Z, Z, eqI (by omega), trivial⟩
  refine jsk (jbn (jx (jr (jm Z (js (jadd Z Z (by omega)) (ja Z (jn ?_)))))))
  exact jag (k + 1, vo, lo) ⟨by dsimp only; omega, by dsimp only; rw [preds_step hb (by omega), hc3, ← hlo]; simp⟩ (dc d1 dn) (kd kn) ⟨Z, Z, Z, Z, eqI (by omega), trivial⟩
  refine jex (jtx (jtx (jbh (jx (jq (jr (jm Z (ja Z (jn (jx (jrt ?_)))))))))))
  refine qfz k0 (by omega) ?_
  exact jrD Z Z (by have e9 : k = m.Blocks.length := (by omega); subst e9; exact hlo.symm) d0
set_option maxRecDepth 4000 in
theorem rReached_ct {a0 : Value} {m : D.MFunc} (hn : 0 < m.Blocks.length) (hT : ∀ x ∈ m.Blocks, ∀ t ∈ x.End.To, 1 ≤ t ∧ t < m.Blocks.length) : Td Tryz.prog 112 #[vMFunc m a0] [da rMFunc (vMFunc m a0) m] [] (rL rB) (rReachM m) := by
  refine jenter (args := [vMFunc m a0]) Tryz.func112 rfl rfl rfl fun w0 X => ?_
  refine jq (jr (jbox Z Z fun g1 => ja Z (jn (jx (jq (jr (js (jf F28_1 Z) (js (jl k0 O26 Z Z) (jdq (rMFunc.c_Blocks d0) fun q1 w1 => js (jln U26 (rMFunc.c_Blocks d0) Z) ?_)))))))))
  refine jmk (m := (List.length m.Blocks)) (r := rB) U93 I4 Z Z Z Z Z (by omega) wB Z fun g11 => ja Z (jn (jx (jq (jr (jlit (r := (rI .i64)) (l := [0]) U22 I3 (by decide) Z Z Z (lV Z Z (wI (wl 0)) ln) fun g12 => ja Z (jn (jx (jq (jr ?_)))))))))
  refine jm Z (js (jig (i := 0) U93 Z4 k1 Z Z Z (by rw [lrep]; omega)) (jsg k1 Z Z4 Z Z Z (by rw [lrep]; omega) wB (jn (jx (jq (jq (jr (ja Z (jn (jx (jb ?_)))))))))))
  refine jlp (u4 fun (i : Nat) (se : List Bool) (l : List Int) (vl : Value) => ⟨reachedM m.Blocks = bfs m.Blocks (m.Blocks.length - i) se (l.drop i) ∧ cntF se + l.length ≤ m.Blocks.length ∧ i ≤ l.length ∧ se.length = m.Blocks.length ∧ (∀ x ∈ l, 0 ≤ x ∧ x < m.Blocks.length), [da rMFunc (vMFunc m a0) m], [gl X.n rB 4 (.slice (some ⟨g11, 0, none⟩) (List.length m.Blocks) (List.length m.Blocks)) se, gl X.n (rI .i64) 3 vl l, bx g1 28 [.int .i64 m.Params, a0]], [(1, .pointer (some ⟨g1, 0, none⟩)), (2, .slice none 0 0), (3, (.slice (some ⟨g11, 0, none⟩) (List.length m.Blocks) (List.length m.Blocks))), (4, vl), (5, .int .i64 (↑i))], m.Blocks.length - i⟩) (0, List.set (List.replicate (List.length m.Blocks) false) 0 true, [0], (.slice (some ⟨g12, 0, none⟩) 1 1)) ⟨rfl, cnt_start hn, by simp, by simp, by simp; omega⟩ (dc d0 dn) (kd (kc k0 kn)) ⟨Z, Z, Z, Z, eqI (by omega), trivial⟩ ?_
  rintro ⟨i, se, l, vl⟩; dsimp only [u4]; rintro ⟨hb, hcn, hil, hse, hq⟩
  refine cgo k1 fun w2 => jq (jq (jr (jm Z (jm Z (js (jlg U22 k1 Z) (js (jlss Z Z) (jn (jx ?_))))))))
  refine jif Z (fun hc1 => ?_) (fun hc1 => ?_)
  have hqi := hq _ (ix_mem (l := l) (i := i) (by omega))
  refine jsk (jx (jq (jb (jq (jstl Mixed (by kernel_rfl) (jt (jf F28_1 Z) (jt (jl k2 O26 Z Z) (jt (jmv Z) (jt (jmv Z) (jt (jig U22 Z3 k1 Z Z Z (by omega)) (jt (jgI k1 (by omega) O3 Z) ?_)))))))))))
  refine jt (jix (i := (Int.toNat (ix l i))) U26 Z37 (rMFunc.c_Blocks d0) Z Z (by omega) (by omega)) (jt (jf F37_2 Z) (jt (jf F35_3 Z) (jtv (jlV (rEnd.A_To (rMBlock.A_End (dix (rMFunc.c_Blocks d0) (Int.toNat (ix l i)) (by omega)))) O22 Z Z) fun v30 q3 w3 => jt (jas Z) (jdn (jx (jq (jr (ja Z (jn (jx ?_))))))))))
  refine jb ?_
  refine jlp (u4 fun (j : Nat) (se2 : List Bool) (l2 : List Int) (vl2 : Value) => ⟨j ≤ (ix m.Blocks (Int.toNat (ix l i))).End.To.length ∧ bfsIn se2 (l2.drop i) ((ix m.Blocks (Int.toNat (ix l i))).End.To.drop j) = bfsIn se (l.drop i) (ix m.Blocks (Int.toNat (ix l i))).End.To ∧ cntF se2 + l2.length ≤ m.Blocks.length ∧ se2.length = m.Blocks.length ∧ (∀ x ∈ l2, 0 ≤ x ∧ x < m.Blocks.length) ∧ i < l2.length, [dv (rL (rI .i64)) v30 (((ix m.Blocks (Int.toNat (ix l i))).End).To), da rMFunc (vMFunc m a0) m], [gl X.n rB 4 (.slice (some ⟨g11, 0, none⟩) (List.length m.Blocks) (List.length m.Blocks)) se2, gl X.n (rI .i64) 3 vl2 l2, bx g1 28 [.int .i64 m.Params, a0]], [(1, .pointer (some ⟨g1, 0, none⟩)), (2, .slice none 0 0), (3, (.slice (some ⟨g11, 0, none⟩) (List.length m.Blocks) (List.length m.Blocks))), (4, vl2), (5, .int .i64 (↑i)), (6, v30), (7, .int .i64 (↑j))], (ix m.Blocks (Int.toNat (ix l i))).End.To.length - j⟩) (0, se, l, vl) ⟨by dsimp only; omega, rfl, hcn, hse, hq, by dsimp only; omega⟩ (dc d0 (dc d1 dn)) (kd (kc k0 kn)) ⟨Z, Z, Z, Z, Z, Z, eqI (by omega), trivial⟩ ?_
  rintro ⟨j, se2, l2, vl2⟩; dsimp only [u4]; rintro ⟨hj, hIn, hcn2, hse2, hq2, hi2⟩
  refine cgo k1 fun w5 => jq (jq (jr (jm Z (jm Z (js (jln U22 d0 Z) (js (jlss Z Z) (jn (jx ?_))))))))
  refine jif Z (fun hc2 => ?_) (fun hc2 => ?_)
  have htq := hT _ (ix_mem (l := m.Blocks) (i := Int.toNat (ix l i)) (by omega)) _ (ix_mem (l := (ix m.Blocks (Int.toNat (ix l i))).End.To) (i := j) (by omega))
  refine jsk (jx (jq (jb (jq (jr (jm Z (jm Z (jm Z (js (jix U22 Z3 d0 Z Z Z (by omega)) (js (jlI (dix d0 j (by omega)) O3 Z) (js (jig (i := (Int.toNat (ix (((ix m.Blocks (Int.toNat (ix l i))).End).To) j))) U93 Z4 k0 Z Z (by omega) (by omega)) ?_)))))))))))
  refine js (jgB k0 (by omega) O4 Z) (js (jnot Z) (jn (jx ?_)))
  refine jif Z (fun hc3 => ?_) (fun hc3 => ?_)
  refine jq (jr (jm Z (jm Z (jm Z (js (jix U22 Z3 d0 Z Z Z (by omega)) (js (jlI (dix d0 j (by omega)) O3 Z) (js (jig (i := (Int.toNat (ix (((ix m.Blocks (Int.toNat (ix l i))).End).To) j))) U93 Z4 k0 Z Z (by omega) (by omega)) (jsg k0 Z Z4 Z Z Z (by omega) wB (jn (jx (jr ?_)))))))))))
  refine jm Z (jm Z (jm Z (js (jix U22 Z3 d0 Z Z Z (by omega)) (js (jlI (dix d0 j (by omega)) O3 Z) (japv U22 I3 (by decide) Z Z k1 Z (wI (wad (dix d0 j (by omega)))) (by omega) (fun _ => Z) fun v57 _ w6 => ja Z (jn (jbn (jx (jr (jm Z ?_))))))))))
  refine js (jadd Z Z (by omega)) (ja Z (jn ?_))
  exact jag (j + 1, List.set se2 (Int.toNat (ix (((ix m.Blocks (Int.toNat (ix l i))).End).To) j)) true, l2 ++ [ix (((ix m.Blocks (Int.toNat (ix l i))).End).To) j], v57) ⟨by dsimp only; omega, rb_new (by omega) (by omega) hIn hc3, by dsimp only; have h9 := cntF_set (l := se2) (i := Int.toNat (ix (ix m.Blocks (Int.toNat (ix l i))).End.To j)) (by omega) (by rw [hc3]; decide); rw [List.length_append]; simp; omega, by dsimp only; rw [List.length_set]; exact hse2, by dsimp only; intro x hx9; rcases List.mem_append.1 hx9 with h9 | h9; (· exact hq2 x h9); (simp at h9; subst h9; omega), by dsimp only; rw [List.length_append]; omega⟩ (dc d0 (dc d1 dn)) (kc k1 (kd kn)) ⟨Z, Z, Z, Z, Z, Z, eqI (by omega), trivial⟩
  refine jsk (jbn (jx (jr (jm Z (js (jadd Z Z (by omega)) (ja Z (jn ?_)))))))
  exact jag (j + 1, se2, l2, vl2) ⟨by dsimp only; omega, rb_old (by omega) hIn hc3, hcn2, hse2, hq2, hi2⟩ (dc d0 (dc d1 dn)) (kd (kc k0 kn)) ⟨Z, Z, Z, Z, Z, Z, eqI (by omega), trivial⟩
  refine jex (jtx (jtx (jbh (jbn (jx (jr (jm Z (js (jadd Z Z (by omega)) (ja Z (jn ?_))))))))))
  exact jag (i + 1, se2, l2, vl2) ⟨rb_step (by omega) (by omega) hb hIn (by omega), by dsimp only; omega, by dsimp only; omega, hse2, hq2⟩ (dc d1 dn) (kd (kc k0 kn)) ⟨Z, Z, Z, Z, eqI (by omega), trivial⟩
  refine jex (jtx (jtx (jbh (jx (jq (jr (jm Z (ja Z (jn (jx (jrt ?_)))))))))))
  refine qfz k0 (by omega) ?_
  exact jrD Z Z (rb_end hb (by omega)) d0
set_option maxRecDepth 4000 in
set_option maxHeartbeats 1000000 in
theorem rFunc_ct {a0 : Value} {m : D.MFunc} : Ts Tryz.prog 73 #[vMFunc m a0] [da rMFunc (vMFunc m a0) m] [] rjacquardref07_Got vjacquardref07_Got (gotM m) := by
  refine jenter (args := [vMFunc m a0]) Tryz.func73 rfl rfl rfl fun w0 X => ?_
  refine jq (jr (jbox Z Z fun g1 => jalc J133 Z fun g2 => jn (jx (jq (jq (jr (js (jf F28_0 Z) (js (jl k1 O3 Z Z) (js (jlss Z Z) ?_)))))))))
  refine jm Z (jg Z Z (.f _) (fun hg => jf F28_0 Z) (jg Z Z (.f _) (fun hg => jl k1 O3 (evg Z hg) Z) (jg Z Z (.f _) (fun hg => jgtr (evg Z hg) Z) (js (jor Z Z) (jn (jx ?_))))))
  refine jif Z (fun hc1 => ?_) (fun hc1 => ?_)
  refine jq (jr (js (jbu (v := .agg #[.int .i64 1, .int .i64 0, .int .i64 0]) Z (fun _ => by kernel_rfl)) (jsta k0 Z133 Z Z Z ⟨Z, Z, Z, trivial⟩ (saf Z) (jn (jx (jrt (jtr ?_)))))))
  exact jrcA (val := vjacquardref07_Got) (b := ⟨1, 0, 0⟩) (c := ()) Z Z k0 A133 Z133 Z (by first | exact got_of (func_arg hc1) | exact got_of (func_block hc1 hc2) | exact got_of (func_many hc1 hc2 hc4) | (obtain ⟨t9, h8, h9⟩ := th_bad hc5; rw [got_of (func_some hc1 hc2 hc4 h8), h9]; done) | (rw [got_of ((func_graph hc1 hc2 hc4 (th_good hc5)).trans (rg_15 (by omega) hR hc7))]; done) | exact got_of ((func_graph hc1 hc2 hc4 (th_good hc5)).trans ((rg_no (by omega) hR).trans (phis_bad (by omega) (by omega) hG hno (eqIn_bad hEq hc11)))) | exact got_of ((func_graph hc1 hc2 hc4 (th_good hc5)).trans ((rg_no (by omega) hR).trans (by rw [hG, List.drop_of_length_le (by omega)]; rfl)))) (rjacquardref07_Got.M (m := ⟨1, 0, 0⟩) (c := ()) (wl 1) (wl 0) (wl 0))
  refine jsk (jx (jq (jq (jr (js (jf F28_1 Z) (js (jl k1 O26 Z Z) (jdq (rMFunc.c_Blocks d0) fun q1 w1 => js (jln U26 (rMFunc.c_Blocks d0) Z) (js (jeql Z Z) (jn (jx ?_))))))))))
  refine jif Z (fun hc2 => ?_) (fun hc2 => ?_)
  refine jq (jr (js (jbu (v := .agg #[.int .i64 14, .int .i64 0, .int .i64 0]) Z (fun _ => by kernel_rfl)) (jsta k0 Z133 Z Z Z ⟨Z, Z, Z, trivial⟩ (saf Z) (jn (jx (jrt (jtr ?_)))))))
  exact jrcA (val := vjacquardref07_Got) (b := ⟨14, 0, 0⟩) (c := ()) Z Z k0 A133 Z133 Z (by first | exact got_of (func_arg hc1) | exact got_of (func_block hc1 hc2) | exact got_of (func_many hc1 hc2 hc4) | (obtain ⟨t9, h8, h9⟩ := th_bad hc5; rw [got_of (func_some hc1 hc2 hc4 h8), h9]; done) | (rw [got_of ((func_graph hc1 hc2 hc4 (th_good hc5)).trans (rg_15 (by omega) hR hc7))]; done) | exact got_of ((func_graph hc1 hc2 hc4 (th_good hc5)).trans ((rg_no (by omega) hR).trans (phis_bad (by omega) (by omega) hG hno (eqIn_bad hEq hc11)))) | exact got_of ((func_graph hc1 hc2 hc4 (th_good hc5)).trans ((rg_no (by omega) hR).trans (by rw [hG, List.drop_of_length_le (by omega)]; rfl)))) (rjacquardref07_Got.M (m := ⟨14, 0, 0⟩) (c := ()) (wl 14) (wl 0) (wl 0))
  refine jsk (jx (jq (jr (ja Z (jn (jx (jq (jq (jr (ja Z (jn ?_)))))))))))
  refine jx (jb ?_)
  refine jlp (u2 fun (k : Nat) (c : Int) => ⟨k ≤ m.Blocks.length ∧ c + cntB (m.Blocks.drop k) = cntB m.Blocks ∧ 0 ≤ c ∧ c ≤ 2147483649 * k, [da rMFunc (vMFunc m a0) m], [bx g2 133 [.int .i64 0, .int .i64 0, .int .i64 0], bx g1 28 [.int .i64 m.Params, a0]], [(1, .pointer (some ⟨g1, 0, none⟩)), (2, .pointer (some ⟨g2, 0, none⟩)), (3, .int .i64 c), (4, .int .i64 (↑k))], m.Blocks.length - k⟩) (0, 0) ⟨by dsimp only; omega, by simp, by simp, by simp⟩ (dc d0 dn) (kd kn) ⟨Z, Z, eqI (by omega), eqI (by omega), trivial⟩ ?_
  rintro ⟨k, c⟩; dsimp only [u2]; rintro ⟨hk, hc, h0, hc9⟩
  refine jq (jq (jr (jm Z (js (jf F28_1 Z) (js (jl k1 O26 Z Z) (js (jln U26 (rMFunc.c_Blocks d0) Z) (js (jlss Z Z) (jn (jx ?_)))))))))
  refine jif Z (fun hc3 => ?_) (fun hc3 => ?_)
  refine jsk (jx (jq (jb (jstl Mixed (by kernel_rfl) (jt (jmv Z) (jt (jf F28_1 Z) (jt (jl k1 O26 Z Z) (jt (jmv Z) (jt (jix U26 Z37 (rMFunc.c_Blocks d0) Z Z Z (by omega)) (jt (jf F37_0 Z) (jtv (jlV (rMBlock.A_Phis (dix (rMFunc.c_Blocks d0) k (by omega))) O32 Z Z) fun v41 q2 w2 => ?_)))))))))))
  refine jt (jln U32 d0 Z) (jt (jadd Z Z (by omega)) (jt (jf F28_1 Z) (jt (jl k1 O26 Z Z) (jt (jmv Z) (jt (jix U26 Z37 (rMFunc.c_Blocks d1) Z Z Z (by omega)) (jt (jf F37_1 Z) (jtv (jlV (rMBlock.A_Ins (dix (rMFunc.c_Blocks d1) k (by omega))) O33 Z Z) fun v49 q4 w4 => jt (jln U33 d0 Z) (jt (jadd Z Z (by omega)) (jt (jadd Z Z (by omega)) (jt (jas Z) ?_))))))))))
  refine jdn (jbn (jx (jr (jm Z (js (jadd Z Z (by omega)) (ja Z (jn ?_)))))))
  exact jag (k + 1, ((c + (((List.length ((ix m.Blocks k).Phis) : Nat) : Int))) + (((List.length ((ix m.Blocks k).Ins) : Nat) : Int))) + 1) ⟨by dsimp only; omega, by dsimp only; rw [← hc, drop_ix (l := m.Blocks) (i := k) (by omega), cntB]; omega, by dsimp only; omega, by dsimp only; omega⟩ (dc d2 dn) (kd kn) ⟨Z, Z, Z, eqI (by omega), trivial⟩
  have hcnt : c = cntB m.Blocks := by rw [← hc, List.drop_of_length_le (by omega)]; simp [cntB]
  subst hcnt
  refine jex (jtx (jtx (jbh (jx (jq (jq (jr (js (jf F28_1 Z) (js (jl k1 O26 Z Z) (js (jln U26 (rMFunc.c_Blocks d0) Z) (js (jgtr Z Z) ?_)))))))))))
  refine jm Z (jg Z Z (.f _) (fun hg => jmv Z) (jg Z Z (.f _) (fun hg => jgtr (evg Z hg) Z) (js (jor Z Z) (jn (jx ?_)))))
  refine jif Z (fun hc4 => ?_) (fun hc4 => ?_)
  refine jq (jr (js (jbu (v := .agg #[.int .i64 2, .int .i64 0, .int .i64 0]) Z (fun _ => by kernel_rfl)) (jsta k0 Z133 Z Z Z ⟨Z, Z, Z, trivial⟩ (saf Z) (jn (jx (jrt (jtr ?_)))))))
  exact jrcA (val := vjacquardref07_Got) (b := ⟨2, 0, 0⟩) (c := ()) Z Z k0 A133 Z133 Z (by first | exact got_of (func_arg hc1) | exact got_of (func_block hc1 hc2) | exact got_of (func_many hc1 hc2 hc4) | (obtain ⟨t9, h8, h9⟩ := th_bad hc5; rw [got_of (func_some hc1 hc2 hc4 h8), h9]; done) | (rw [got_of ((func_graph hc1 hc2 hc4 (th_good hc5)).trans (rg_15 (by omega) hR hc7))]; done) | exact got_of ((func_graph hc1 hc2 hc4 (th_good hc5)).trans ((rg_no (by omega) hR).trans (phis_bad (by omega) (by omega) hG hno (eqIn_bad hEq hc11)))) | exact got_of ((func_graph hc1 hc2 hc4 (th_good hc5)).trans ((rg_no (by omega) hR).trans (by rw [hG, List.drop_of_length_le (by omega)]; rfl)))) (rjacquardref07_Got.M (m := ⟨2, 0, 0⟩) (c := ()) (wl 2) (wl 0) (wl 0))
  refine jsk (jx (jq (jr (js (jla k1 A28 Z28 Z Z Z) (jcs E111 Z Z rThings_ct (dc d0 dn) kn fun _ => jalc J133 Z fun g5 => jsta k0 Z133 Z Z Z ⟨Z, Z, Z, trivial⟩ (saf Z) (jn (jx (jq (jq ?_)))))))))
  refine jr (js (jf F133_0 Z) (js (jl k0 O118 Z Z) (js (jneq Z Z) (jn (jx ?_)))))
  refine jif Z (fun hc5 => ?_) (fun hc5 => ?_)
  refine jq (jr (js (jla k0 A133 Z133 Z Z Z) (jsta k1 Z133 Z Z Z ⟨Z, Z, Z, trivial⟩ (saf Z) (jn (jx (jrt (jtr ?_)))))))
  exact jrcA (val := vjacquardref07_Got) (b := thM m) (c := ()) Z Z k0 A133 Z133 Z (by first | exact got_of (func_arg hc1) | exact got_of (func_block hc1 hc2) | exact got_of (func_many hc1 hc2 hc4) | (obtain ⟨t9, h8, h9⟩ := th_bad hc5; rw [got_of (func_some hc1 hc2 hc4 h8), h9]; done) | (rw [got_of ((func_graph hc1 hc2 hc4 (th_good hc5)).trans (rg_15 (by omega) hR hc7))]; done) | exact got_of ((func_graph hc1 hc2 hc4 (th_good hc5)).trans ((rg_no (by omega) hR).trans (phis_bad (by omega) (by omega) hG hno (eqIn_bad hEq hc11)))) | exact got_of ((func_graph hc1 hc2 hc4 (th_good hc5)).trans ((rg_no (by omega) hR).trans (by rw [hG, List.drop_of_length_le (by omega)]; rfl)))) d0
  refine jsk (jx (jq (jr (js (jla k2 A28 Z28 Z Z Z) (jcd E112 Z Z (rReached_ct (by first | omega | exact things_to (th_good hc5)) (by first | omega | exact things_to (th_good hc5))) (dc d1 dn) kn fun v69 q7 w7 => ja Z (jn (jx (jq (jq (jr ?_))))))))))
  refine ja Z (jn (jx (jb ?_)))
  refine jlp (fun (k2 : Nat) => ⟨k2 ≤ (rReachM m).length ∧ (∀ x ∈ (rReachM m).take k2, (false == x) = false), [dv (rL rB) v69 (rReachM m), da rMFunc (vMFunc m a0) m], [bx g2 133 [.int .i64 0, .int .i64 0, .int .i64 0], bx g1 28 [.int .i64 m.Params, a0]], [(1, .pointer (some ⟨g1, 0, none⟩)), (2, .pointer (some ⟨g2, 0, none⟩)), (6, v69), (7, .int .i64 (↑k2))], (rReachM m).length - k2⟩) 0 ⟨by omega, by simp⟩ (dc d0 (dc d2 dn)) (kc k1 (kc k1 kn)) ⟨Z, Z, Z, eqI (by omega), trivial⟩ ?_
  rintro k2; dsimp only; rintro ⟨hk2, hR⟩
  refine jq (jq (jr (jm Z (jm Z (js (jln U93 d0 Z) (js (jlss Z Z) (jn (jx ?_))))))))
  refine jif Z (fun hc6 => ?_) (fun hc6 => ?_)
  refine jsk (jx (jq (jb (jq (jr (jm Z (jm Z (js (jix U93 Z4 d0 Z Z Z (by omega)) (js (jlB (dix d0 k2 (by omega)) O4 Z) (js (jnot Z) (jn ?_)))))))))))
  refine jx ?_
  refine jif Z (fun hc7 => ?_) (fun hc7 => ?_)
  refine jq (jr (jm Z (js (jbu (v := .agg #[.int .i64 15, .int .i64 (↑k2), .int .i64 0]) Z (fun _ => by kernel_rfl)) (jsta k0 Z133 Z Z Z ⟨Z, Z, Z, trivial⟩ (saf Z) (jn (jx (jrt (jbr (jtr (jtr (jbr ?_)))))))))))
  refine jtr ?_
  exact jrcA (val := vjacquardref07_Got) (b := ⟨15, ↑k2, 0⟩) (c := ()) Z Z k0 A133 Z133 Z (by first | exact got_of (func_arg hc1) | exact got_of (func_block hc1 hc2) | exact got_of (func_many hc1 hc2 hc4) | (obtain ⟨t9, h8, h9⟩ := th_bad hc5; rw [got_of (func_some hc1 hc2 hc4 h8), h9]; done) | (rw [got_of ((func_graph hc1 hc2 hc4 (th_good hc5)).trans (rg_15 (by omega) hR hc7))]; done) | exact got_of ((func_graph hc1 hc2 hc4 (th_good hc5)).trans ((rg_no (by omega) hR).trans (phis_bad (by omega) (by omega) hG hno (eqIn_bad hEq hc11)))) | exact got_of ((func_graph hc1 hc2 hc4 (th_good hc5)).trans ((rg_no (by omega) hR).trans (by rw [hG, List.drop_of_length_le (by omega)]; rfl)))) (rjacquardref07_Got.M (m := ⟨15, ↑k2, 0⟩) (c := ()) (wl 15) (wp (IntWalk.i64_in ↑k2 (by omega))) (wl 0))
  refine jsk (jbn (jx (jr (jm Z (js (jadd Z Z (by omega)) (ja Z (jn ?_)))))))
  exact jag (k2 + 1) ⟨by omega, no_snoc (q := fun x => false == x) (by omega) hR (by simp [hc7])⟩ (dc d0 (dc d1 dn)) (kd kn) ⟨Z, Z, Z, eqI (by omega), trivial⟩
  refine jex (jtx (jtx (jbh (jx (jq (jq (jr (ja Z (jn (jx (jb ?_)))))))))))
  refine jlp (fun (k5 : Nat) => ⟨k5 ≤ m.Blocks.length ∧ graphPhis m.Blocks 0 m.Blocks = graphPhis m.Blocks k5 (m.Blocks.drop k5), [da rMFunc (vMFunc m a0) m], [bx g2 133 [.int .i64 0, .int .i64 0, .int .i64 0], bx g1 28 [.int .i64 m.Params, a0]], [(1, .pointer (some ⟨g1, 0, none⟩)), (2, .pointer (some ⟨g2, 0, none⟩)), (8, .int .i64 (↑k5))], m.Blocks.length - k5⟩) 0 ⟨by omega, rfl⟩ (dc d1 dn) (kd kn) ⟨Z, Z, eqI (by omega), trivial⟩ ?_
  rintro k5; dsimp only; rintro ⟨hk5, hG⟩
  refine jq (jq (jr (jm Z (js (jf F28_1 Z) (js (jl k1 O26 Z Z) (js (jln U26 (rMFunc.c_Blocks d0) Z) (js (jlss Z Z) (jn (jx ?_)))))))))
  refine jif Z (fun hc8 => ?_) (fun hc8 => ?_)
  refine jsk (jx (jq (jb (jq (jr (js (jla k1 A28 Z28 Z Z Z) (jm Z (jcd E113 Z Z (rPreds_ct ↑k5 (by first | omega | exact things_to (th_good hc5))) (dc d0 dn) kn fun v92 q9 w9 => ja Z (jn (jx ?_))))))))))
  refine jq (jr (ja Z (jn (jx (jb ?_)))))
  refine jlp (fun (i6 : Nat) => ⟨i6 ≤ (ix m.Blocks k5).Phis.length ∧ (∀ p ∈ (ix m.Blocks k5).Phis.take i6, badPhi m.Blocks k5 p = false), [dv (rL (rI .i64)) v92 (rPredsM m ↑k5), da rMFunc (vMFunc m a0) m], [bx g2 133 [.int .i64 0, .int .i64 0, .int .i64 0], bx g1 28 [.int .i64 m.Params, a0]], [(1, .pointer (some ⟨g1, 0, none⟩)), (2, .pointer (some ⟨g2, 0, none⟩)), (8, .int .i64 (↑k5)), (9, v92), (10, .int .i64 (↑i6))], (ix m.Blocks k5).Phis.length - i6⟩) 0 ⟨by omega, by simp⟩ (dc d0 (dc d1 dn)) (kd kn) ⟨Z, Z, Z, Z, eqI (by omega), trivial⟩ ?_
  rintro i6; dsimp only; rintro ⟨hi6, hno⟩
  refine jq (jq (jr (jm Z (js (jf F28_1 Z) (js (jl k1 O26 Z Z) (jm Z (js (jix U26 Z37 (rMFunc.c_Blocks d1) Z Z Z (by omega)) (js (jf F37_0 Z) (jev (jlV (rMBlock.A_Phis (dix (rMFunc.c_Blocks d1) k5 (by omega))) O32 Z Z) fun v99 q11 w11 => js (jln U32 d0 Z) (js (jlss Z Z) ?_))))))))))
  refine jn (jx ?_)
  refine jif Z (fun hc9 => ?_) (fun hc9 => ?_)
  refine jsk (jx (jq (jb (jq (jr (js (jf F28_1 Z) (js (jl k1 O26 Z Z) (jm Z (js (jix U26 Z37 (rMFunc.c_Blocks d2) Z Z Z (by omega)) (js (jf F37_0 Z) (jev (jlV (rMBlock.A_Phis (dix (rMFunc.c_Blocks d2) k5 (by omega))) O32 Z Z) fun v109 q13 w13 => ?_)))))))))))
  refine jm Z (js (jix U32 Z62 d0 Z Z Z (by omega)) (js (jf F62_1 Z) (jev (jlV (rPhi.A_In (dix d0 i6 (by omega))) O60 Z Z) fun v113 q15 w15 => ja Z (jn (jx (jq (jr (jm Z (js (jgtr Z Z) (jm Z ?_))))))))))
  refine jg Z Z (.t _) (fun hg => jmv Z) (jg Z Z (.t _) (fun hg => jln U60 d0 (evg Z hg)) (jg Z Z (.t _) (fun hg => jmv Z) (jg Z Z (.t _) (fun hg => jln U22 d3 (evg Z hg)) (jg Z Z (.t _) (fun hg => jeql (evg Z hg) (evg Z hg)) (js (jand Z Z) (ja Z (jn (jx (jq (jq (jr ?_)))))))))))
  refine ja Z (jn (jx (jb ?_)))
  refine jlp (u2 fun (k7 : Nat) (ok : Bool) => ⟨EqIn m.Blocks k5 (ix (ix m.Blocks k5).Phis i6) k7 ok ∧ k7 ≤ (ix (ix m.Blocks k5).Phis i6).In.length, [dv (rL rIn) v113 ((ix ((ix m.Blocks k5).Phis) i6).In), dv (rL (rI .i64)) v92 (rPredsM m ↑k5), da rMFunc (vMFunc m a0) m], [bx g2 133 [.int .i64 0, .int .i64 0, .int .i64 0], bx g1 28 [.int .i64 m.Params, a0]], [(1, .pointer (some ⟨g1, 0, none⟩)), (2, .pointer (some ⟨g2, 0, none⟩)), (8, .int .i64 (↑k5)), (9, v92), (10, .int .i64 (↑i6)), (11, v113), (12, .bool ok), (13, .int .i64 (↑k7))], (ix (ix m.Blocks k5).Phis i6).In.length + 1 - k7⟩) (0, (decide (0 < ((k5 : Nat) : Int))) && (decide (((List.length ((ix ((ix m.Blocks k5).Phis) i6).In) : Nat) : Int) = ((List.length (rPredsM m ((k5 : Nat) : Int)) : Nat) : Int)))) ⟨eqIn_start, by dsimp only; omega⟩ (dc d0 (dc d3 (dc d4 dn))) (kd kn) ⟨Z, Z, Z, Z, Z, Z, Z, eqI (by omega), trivial⟩ ?_
  rintro ⟨k7, ok⟩; dsimp only [u2]; rintro ⟨hEq, hk7⟩
  refine jq (jq (jr (jm Z (jm Z (jg Z Z (.t _) (fun hg => jmv Z) (jg Z Z (.t _) (fun hg => jmv Z) (jg Z Z (.t _) (fun hg => jln U22 d1 (evg Z hg)) (jg Z Z (.t _) (fun hg => jlss (evg Z hg) (evg Z hg)) (js (jand Z Z) (jn (jx ?_)))))))))))
  refine jif Z (fun hc10 => ?_) (fun hc10 => ?_)
  have hlt7 : k7 < (ix (ix m.Blocks k5).Phis i6).In.length := by have h10 : (k7 : Int) < ((predsM m.Blocks k5).length : Int) := hc10.2; rcases hEq with ⟨_, _, h9, _⟩ | ⟨h9, _⟩; (· omega); (rw [h9] at hc10; exact absurd hc10.1 (by decide))
  refine jsk (jx (jq (jb (jstl Mixed (by kernel_rfl) (jt (jmv Z) (jt (jmv Z) (jt (jix U60 Z64 d0 Z Z Z (by omega)) (jt (jf F64_0 Z) (jt (jlI (rIn.A_From (dix d0 k7 (by omega))) O3 Z) (jt (jmv Z) (jt (jmv Z) ?_)))))))))))
  refine jt (jix U22 Z3 d1 Z Z Z (by omega)) (jt (jlI (dix d1 k7 (by omega)) O3 Z) (jt (jeql Z Z) (jt (jas Z) (jdn (jbn (jx (jr (jm Z (js (jadd Z Z (by omega)) (ja Z (jn ?_)))))))))))
  exact jag (k7 + 1, decide ((ix ((ix ((ix m.Blocks k5).Phis) i6).In) k7).From = ix (rPredsM m ((k5 : Nat) : Int)) k7)) ⟨eqIn_next hEq hc10, by dsimp only; omega⟩ (dc d0 (dc d1 (dc d2 dn))) (kd kn) ⟨Z, Z, Z, Z, Z, Z, Z, eqI (by omega), trivial⟩
  refine jex (jtx (jtx (jbh (jx (jq (jr (jm Z (js (jnot Z) (jn (jx ?_))))))))))
  refine jif Z (fun hc11 => ?_) (fun hc11 => ?_)
  refine jq (jr (jm Z (jm Z (js (jsub Z Z (by omega)) (js (jbu (v := .agg #[.int .i64 16, .int .i64 (↑k5), .int .i64 ((-1) - ↑i6)]) Z (fun _ => by kernel_rfl)) (jsta k0 Z133 Z Z Z ⟨Z, Z, Z, trivial⟩ (saf Z) (jn (jx (jrt (jbr (jtr ?_)))))))))))
  refine jtr (jbr (jbr (jtr (jtr (jbr (jtr ?_))))))
  exact jrcA (val := vjacquardref07_Got) (b := ⟨16, ↑k5, (-1) - ↑i6⟩) (c := ()) Z Z k0 A133 Z133 Z (by first | exact got_of (func_arg hc1) | exact got_of (func_block hc1 hc2) | exact got_of (func_many hc1 hc2 hc4) | (obtain ⟨t9, h8, h9⟩ := th_bad hc5; rw [got_of (func_some hc1 hc2 hc4 h8), h9]; done) | (rw [got_of ((func_graph hc1 hc2 hc4 (th_good hc5)).trans (rg_15 (by omega) hR hc7))]; done) | exact got_of ((func_graph hc1 hc2 hc4 (th_good hc5)).trans ((rg_no (by omega) hR).trans (phis_bad (by omega) (by omega) hG hno (eqIn_bad hEq hc11)))) | exact got_of ((func_graph hc1 hc2 hc4 (th_good hc5)).trans ((rg_no (by omega) hR).trans (by rw [hG, List.drop_of_length_le (by omega)]; rfl)))) (rjacquardref07_Got.M (m := ⟨16, ↑k5, (-1) - ↑i6⟩) (c := ()) (wl 16) (wp (IntWalk.i64_in ↑k5 (by omega))) (wp (IntWalk.i64_in ((-1) - ↑i6) (by omega))))
  refine jsk (jbn (jx (jr (jm Z (js (jadd Z Z (by omega)) (ja Z (jn ?_)))))))
  exact jag (i6 + 1) ⟨by omega, no_snoc (by omega) hno (eqIn_ok hEq hc10 hc11)⟩ (dc d1 (dc d2 dn)) (kd kn) ⟨Z, Z, Z, Z, eqI (by omega), trivial⟩
  refine jex (jtx (jtx (jbh (jbn (jx (jr (jm Z (js (jadd Z Z (by omega)) (ja Z (jn ?_))))))))))
  exact jag (k5 + 1) ⟨by omega, phis_good (by omega) (by omega) hG hno⟩ (dc d2 dn) (kd kn) ⟨Z, Z, eqI (by omega), trivial⟩
  refine jex (jtx (jtx (jbh (jx (jq (jr (js (jbu (v := .agg #[.int .i64 0, .int .i64 0, .int .i64 0]) Z (fun _ => by kernel_rfl)) (jsta k0 Z133 Z Z Z ⟨Z, Z, Z, trivial⟩ (saf Z) (jn (jx (jrt ?_)))))))))))
  exact jrcA (val := vjacquardref07_Got) (b := ⟨0, 0, 0⟩) (c := ()) Z Z k0 A133 Z133 Z (by first | exact got_of (func_arg hc1) | exact got_of (func_block hc1 hc2) | exact got_of (func_many hc1 hc2 hc4) | (obtain ⟨t9, h8, h9⟩ := th_bad hc5; rw [got_of (func_some hc1 hc2 hc4 h8), h9]; done) | (rw [got_of ((func_graph hc1 hc2 hc4 (th_good hc5)).trans (rg_15 (by omega) hR hc7))]; done) | exact got_of ((func_graph hc1 hc2 hc4 (th_good hc5)).trans ((rg_no (by omega) hR).trans (phis_bad (by omega) (by omega) hG hno (eqIn_bad hEq hc11)))) | exact got_of ((func_graph hc1 hc2 hc4 (th_good hc5)).trans ((rg_no (by omega) hR).trans (by rw [hG, List.drop_of_length_le (by omega)]; rfl)))) (rjacquardref07_Got.M (m := ⟨0, 0, 0⟩) (c := ()) (wl 0) (wl 0) (wl 0))
theorem rRight_ct {a0 : Value} {m : D.MFunc} : Tv Tryz.prog 51 #[vMFunc m a0] [da rMFunc (vMFunc m a0) m] [] (.bool (rightM m)) := by
  refine jenter (args := [vMFunc m a0]) Tryz.func51 rfl rfl rfl fun w0 X => ?_
  refine jq (jr (jbox Z Z fun g1 => ja Z (jn (jx (jq (jr (js (jla k0 A28 Z28 Z Z Z) (jcs E73 Z Z rFunc_ct (dc d0 dn) kn fun _ => js (jfo G133_0 O118 Z Z) (js (jeql Z Z) ?_)))))))))
  refine ja Z (jn (jx (jrt ?_)))
  exact jrB Z Z (by rfl)
theorem predsT_nodup (bs : List D.MBlock) (k : Nat) (b : Int) : (predsT bs k b).Nodup := by
  unfold predsT
  exact List.Pairwise.map _ (fun a b hab h => hab (Int.ofNat_inj.1 h)) (List.Pairwise.filter _ List.nodup_range)
theorem WFm.nodup {m : D.MFunc} (hw : WFm m) {k : Nat} (hk : k < m.Blocks.length) : ∀ p ∈ (ix m.Blocks k).Phis, (p.In.map (·.From)).Nodup := by
  intro p hp
  obtain ⟨_, h3, _⟩ := hw.phi k hk p hp
  rw [h3]; exact predsT_nodup _ _ _
section
variable {N : Int} {K : List Int → List Int → List D.Event → List Int → Int → D.Outcome} {O : D.Outcome} {I : List D.Mach} {k j na : Nat} {rs me A ea : List Int} {cl : List D.Event} {s : Int}
end
section
variable {a b : D.Outcome}
end
end Go.Proofs.YtehhjlkmbdhckaaGreat
namespace Go.JE
variable {P : Program} {D D0 D1 : List Dt} {L M N Ls L0 Rs : List Res} {e : Env} {X : Cx} {n : Fs} {w0 : World} {Q : Exit → Act → World → Prop}
def putf (off : Nat) (us : List Value) (f : Nat → Value) : Nat → Value := fun j => if off ≤ j ∧ j < off + us.length then us.getD (j - off) undef else f j
section
variable {α : Type} [Inhabited α] {r : Rp α} {E T : TypeId} {F : PH} {H : Heap} {B i off m o g : Nat} {v u : Value} {us : List Value} {l : List α} {a : α} {x y : Operand}
theorem ix_lt {l : List α} {i : Nat} (h : i < l.length) : ix l i = l[i] := by simp [ix, List.getD, h]
omit [Inhabited α] in
theorem setAt_getD {cs l : List Value} {o i : Nat} (ho : o + l.length ≤ cs.length) : (setAt cs o l).getD i undef = if o ≤ i ∧ i < o + l.length then l.getD (i - o) undef else cs.getD i undef := setAt_get l cs o i ho
theorem Gl.putl (h : Gl r E F H B v l) (hi : i < l.length) (hg : v.ownBlock = some g) (ho : off + us.length ≤ r.sz) (hok : ∀ f, r.ok F (ix l i) f → r.ok F a (putf off us f)) : Gl r E F (setl H g (i * r.sz + off) us) B v (l.set i a) := by
  obtain ⟨xs, h1, h2, h3⟩ := h
  have hb : (i + 1) * r.sz ≤ l.length * r.sz := Nat.mul_le_mul_right _ hi
  rw [Nat.add_mul] at hb
  have hlen : i * r.sz + off + us.length ≤ xs.length := by rw [h1.1]; omega
  refine ⟨setAt xs (i * r.sz + off) us, by rw [List.length_set]; exact Gr.setl us _ h1 ⟨g, hg⟩ g hg, h2, fun j hj => ?_⟩
  rw [List.length_set] at hj
  by_cases e1 : j = i
  · subst e1
    rw [List.getElem_set_self]
    refine r.ext (fun q hq => ?_) (hok _ (by rw [ix_lt hi]; exact h3 j hi))
    rw [setAt_getD hlen]
    unfold putf
    by_cases h5 : off ≤ q ∧ q < off + us.length
    · rw [if_pos h5, if_pos (by omega), show j * r.sz + q - (j * r.sz + off) = q - off by omega]
    · rw [if_neg h5, if_neg (by omega)]
  · rw [List.getElem_set_ne (Ne.symm e1)]
    refine r.ext (fun q hq => ?_) (h3 j hj)
    rw [setAt_getD hlen, if_neg]
    rintro ⟨h5, h6⟩
    rcases Nat.lt_or_gt_of_ne e1 with h7 | h7
    · have : (j + 1) * r.sz ≤ i * r.sz := Nat.mul_le_mul_right _ h7
      rw [Nat.add_mul] at this; omega
    · have : (i + 1) * r.sz ≤ j * r.sz := Nat.mul_le_mul_right _ h7
      rw [Nat.add_mul] at this; omega
omit [Inhabited α] in
theorem Gl.rw (h : Gl r E F H B v l) (hi : i < l.length) (hs : 0 < r.sz) : ∃ g c n, v = .slice (some ⟨g, 0, none⟩) l.length c ∧ (∃ f, Rw H g E n f) ∧ l.length * r.sz ≤ n := by
  obtain ⟨xs, g1, g2, g3⟩ := h
  rcases g1.2 with ⟨h9, h8⟩ | ⟨g, cap, cur, h9, hb, hg, hc1, hc2, hc3, hc4⟩
  · omega
  · exact ⟨g, cap, cur.size, h9, ⟨fun j => cur.getD j undef, cur, hg, rfl, fun j hj => by simp [Array.getD, hj]⟩, by rw [hc3]; exact Nat.mul_le_mul_right _ hc1⟩
theorem OpCh.storeP (h : Gl r E F H B v l) (hi : i < l.length) (hT : Sz P T 1) (hx : ev e x = some (.pointer (some ⟨vblk v, o, none⟩))) (hoo : o = voff v + i * r.sz + off) (hy : ev e y = some u) (h1 : u.oneCell' = true) (ho : off < r.sz) (hok : ∀ f, r.ok F (ix l i) f → r.ok F a (putf off [u] f)) :
    OpCh P e (.store T x y) H (fun _ H' => ∃ g, v.ownBlock = some g ∧ Tw g H H' ∧ Gl r E F H' B v (l.set i a)) := by
  obtain ⟨g, c, n, rfl, ⟨f, hr⟩, hn⟩ := h.rw hi (by omega)
  have hb : (i + 1) * r.sz ≤ l.length * r.sz := Nat.mul_le_mul_right _ hi
  rw [Nat.add_mul] at hb
  intro ρ oo w hoo' hev hw
  have hx' : ev e x = some (.pointer (some ⟨g, i * r.sz + off, none⟩)) := by rw [hx, hoo]; simp [vblk, voff]
  obtain ⟨v', w', k1, k2, k3, k4, k5⟩ := OpCh.store (P := P) hT hx' hy h1 hr (by omega) ρ oo w hoo' hev hw
  refine ⟨v', w', k1, k2, k3, k4, g, rfl, by rw [k5]; exact ⟨size_setc, fun k hk => setc_other hk⟩, ?_⟩
  rw [k5]
  exact h.putl (us := [u]) hi rfl (by simp only [List.length_cons, List.length_nil]; omega) hok
theorem OpCh.storePA (h : Gl r E F H B v l) (hi : i < l.length) (hT : Sz P T m) (hx : ev e x = some (.pointer (some ⟨vblk v, o, none⟩))) (hoo : o = voff v + i * r.sz + off) (hy : ev e y = some (.agg us.toArray)) (hl : us.length = m) (h1 : ∀ u ∈ us, u.oneCell' = true) (hs : 0 < r.sz) (ho : off + us.length ≤ r.sz) (hok : ∀ f, r.ok F (ix l i) f → r.ok F a (putf off us f)) :
    OpCh P e (.store T x y) H (fun _ H' => ∃ g, v.ownBlock = some g ∧ Tw g H H' ∧ Gl r E F H' B v (l.set i a)) := by
  obtain ⟨g, c, n, rfl, ⟨f, hr⟩, hn⟩ := h.rw hi hs
  have hb : (i + 1) * r.sz ≤ l.length * r.sz := Nat.mul_le_mul_right _ hi
  rw [Nat.add_mul] at hb
  intro ρ oo w hoo' hev hw
  have hx' : ev e x = some (.pointer (some ⟨g, i * r.sz + off, none⟩)) := by rw [hx, hoo]; simp [vblk, voff]
  obtain ⟨v', w', k1, k2, k3, k4, k5⟩ := OpCh.storeAgg (P := P) hT hx' hy hl h1 hr (by omega) ρ oo w hoo' hev hw
  refine ⟨v', w', k1, k2, k3, k4, g, rfl, by rw [k5]; exact ⟨size_setl _ _ _ _, fun k hk => setl_other hk _ _ _⟩, ?_⟩
  rw [k5]
  exact h.putl hi rfl ho hok
theorem Gl.cellP (h : Gl r E F H B v l) (hi : i < l.length) (ho : off < r.sz) : ∃ f, r.ok F (ix l i) f ∧ hc H (vblk v) (voff v + i * r.sz + off) = some (f off) := by
  obtain ⟨xs, g1, g2, g3⟩ := h
  have hb : (i + 1) * r.sz ≤ l.length * r.sz := Nat.mul_le_mul_right _ hi
  rw [Nat.add_mul] at hb
  refine ⟨fun j => xs.getD (i * r.sz + j) undef, by rw [ix_lt hi]; exact g3 i hi, ?_⟩
  rcases g1.2 with ⟨h9, h8⟩ | ⟨g, cap, cur, rfl, hb', hg, hc1, hc2, hc3, hc4⟩
  · omega
  · have h5 : i * r.sz + off < cur.size := by
      rw [hc3]
      have : l.length * r.sz ≤ cap * r.sz := Nat.mul_le_mul_right _ hc1
      omega
    have h6 : i * r.sz + off < l.length * r.sz := by omega
    simp only [vblk, voff, Nat.zero_add, hc, hg]
    rw [← hc4]
    simp [List.getD, h5, h6, List.getElem?_take]
section
variable {ops : Array Oper} {d : Nat} {ty : TypeId} {pos : String} {af : Array Edge} {rest : List Oper}
def PO (D : List Dt) (L : List Res) (r : Rp α) (a : α) (off : Nat) (us : List Value) (b : α) : Prop := ∀ F H, InH F H → AllD F D → Ok F H L → ∀ f, r.ok F a f → r.ok F b (putf off us f)
theorem jsp (hk : Tk L (gl B r E v l) M) (hi : i < l.length) (hT : Sz P T 1) (hx : ev e x = some (.pointer (some ⟨vblk v, o, none⟩))) (hoo : o = voff v + i * r.sz + off) (hy : ev e y = some u) (h1 : u.oneCell' = true) (hok : PO D L r (ix l i) off [u] a)
    (k : LH P n w0 ops Q X D (gl B r E v (l.set i a) :: M) e rest) (ho : off < r.sz := by exact Nat.le_of_ble_eq_true rfl) : LH P n w0 ops Q X D L e (⟨none, .store T x y, ty, pos, af, none⟩ :: rest) := fun F H hp =>
  LF.chg0 (OpCh.storeP (hp.at hk).1 hi hT hx hoo hy h1 ho (hok F H hp.hin hp.hd hp.ok)) (by
    rintro _ H' ⟨g, hg, t, hb⟩
    exact k F H' (hp.set (R' := gl B r E v (l.set i a)) hk ⟨Nat.le_of_eq t.1.symm, fun k _ h2 => t.2 k (fun e1 => h2 (e1 ▸ hg))⟩ ⟨hb, by rw [t.1]; exact hp1 hp hk⟩ (fun k h => .inr h)))
theorem jspA (hk : Tk L (gl B r E v l) M) (hi : i < l.length) (hT : Sz P T m) (hx : ev e x = some (.pointer (some ⟨vblk v, o, none⟩))) (hoo : o = voff v + i * r.sz + off) (hy : ev e y = some (.agg us.toArray)) (hl : us.length = m) (h1 : allOne us) (hok : PO D L r (ix l i) off us a)
    (k : LH P n w0 ops Q X D (gl B r E v (l.set i a) :: M) e rest) (ho : off + us.length ≤ r.sz := by exact Nat.le_of_ble_eq_true rfl) (hs : 0 < r.sz := by exact Nat.le_of_ble_eq_true rfl) : LH P n w0 ops Q X D L e (⟨none, .store T x y, ty, pos, af, none⟩ :: rest) := fun F H hp =>
  LF.chg0 (OpCh.storePA (hp.at hk).1 hi hT hx hoo hy hl h1.mem hs ho (hok F H hp.hin hp.hd hp.ok)) (by
    rintro _ H' ⟨g, hg, t, hb⟩
    exact k F H' (hp.set (R' := gl B r E v (l.set i a)) hk ⟨Nat.le_of_eq t.1.symm, fun k _ h2 => t.2 k (fun e1 => h2 (e1 ▸ hg))⟩ ⟨hb, by rw [t.1]; exact hp1 hp hk⟩ (fun k h => .inr h)))
end
theorem OpCh.makeN {z : Value} {bytes n : Nat} {I J : Int} (hT : P.underlying T = some (.slice E)) (hE : (P.info? E).map (fun i => (i.zero, i.size, i.bytes)) = some (some z, r.sz, bytes)) (hz : z.cells.size = r.sz) (hs : 0 < r.sz)
    (hx : ev e x = some (.int .i64 I)) (hy : ev e y = some (.int .i64 J)) (hI : I = n) (hJ : J = n) (h1 : bytes * n ≤ 281474976710656) (h2 : n ≤ 140737488355328) (hok : r.ok F a (fun j => z.cells.getD j undef)) :
    OpCh P e (.makeSlice T x y) H (fun u H' => ∃ g, u = .slice (some ⟨g, 0, none⟩) n n ∧ g = H.size ∧ H'.size = H.size + 1 ∧ Kp H.size H H' ∧ (InH F H → Gl r E F H' H.size (.slice (some ⟨g, 0, none⟩) n n) (List.replicate n a))) := by
  subst hI; subst hJ
  intro ρ o w ho hev hw
  obtain ⟨i, hi, hzz⟩ := Option.map_eq_some_iff.1 hE
  simp only [Prod.mk.injEq] at hzz
  obtain ⟨hz0, hs', hb⟩ := hzz
  have hb' : (i.bytes : Int) * (n : Int) ≤ 281474976710656 := by
    have h9 : ((i.bytes * n : Nat) : Int) ≤ 281474976710656 := by rw [hb]; omega
    rwa [Int.natCast_mul] at h9
  have hr := run_make (P := P) w T E i z hT hi hz0 .i64 .i64 n n (by omega) (Int.le_refl _) hb' (by omega)
  refine ⟨.slice (some ⟨w.heap.size, 0, none⟩) n n, w.alloc (.cells (madeCells z.cells (n * i.size)) E), .inl ?_, rfl, rfl, rfl, H.size, ?_⟩
  · simp only [Int.toNat_natCast] at hr
    simp [execOp, ho, hev _ _ hx, hev _ _ hy, hr]
  · subst hw
    refine ⟨rfl, rfl, by show (w.heap.push _).size = _; simp, ⟨by show _ ≤ (w.heap.push _).size; simp, fun k hk => push_old hk⟩, fun hin => ?_⟩
    refine Gl.ofRow (cs := (madeCells z.cells (n * r.sz)).toList) ?_ (hin.nope (Nat.le_refl _)) (Nat.le_refl _) (by simp [madeCells]) (by simp) (by unfold maxLen; omega) (fun j hj => ?_)
    · show (w.heap.push _)[w.heap.size]? = _
      rw [push_new, hs']
    · simp only [List.length_replicate] at hj
      simp only [List.getElem_replicate]
      refine r.ext (fun q hq => ?_) hok
      have h3 : j * r.sz + q < n * r.sz := by
        have : (j + 1) * r.sz ≤ n * r.sz := Nat.mul_le_mul_right _ hj
        rw [Nat.add_mul] at this; omega
      have h4 : (j * r.sz + q) % r.sz = q := by rw [Nat.add_comm, Nat.add_mul_mod_self_right, Nat.mod_eq_of_lt hq]
      simp [List.getD, madeCells, hz, h3, h4, hq]
end
end Go.JE
namespace Go.Proofs.YtehhjlkmbdhckaaGreat
open Go.JE
structure BV where
  P : Value
  I : Value
  T : D.Term
instance : Inhabited BV := ⟨⟨.slice none 0 0, .slice none 0 0, default⟩⟩
def rBV : Rp BV := rM (rP rV (rP rV rTerm)) (fun m => (m.P, m.I, m.T))
abbrev bkL (B : Nat) (v : Value) (qs : List BV) (bs : List D.Block) : List Res := [gl B rBV 160 v qs, rw' B rPhi 62 (qs.map BV.P) (bs.map D.Block.Phis), rw' B rIns 163 (qs.map BV.I) (bs.map D.Block.Ins)]
abbrev bkF (qs : List BV) (bs : List D.Block) : Prop := qs.length = bs.length ∧ qs.map BV.T = bs.map D.Block.Term
def bk (B : Nat) (v : Value) (qs : List BV) (bs : List D.Block) : Res where
  sat F H := bkF qs bs ∧ Ok F H (bkL B v qs bs)
  own := Own (bkL B v qs bs)
  lt := fun h => Ok.lt h.2
  no := fun h => Ok.no h.2
  st := fun hl hs h1 h2 h => ⟨h.1, Ok.st hl hs h1 h2 h.2⟩
section
variable {P : Program} {D0 Γ : List Dt} {L M N L0 : List Res} {e : Env} {X : Cx} {n : Fs} {w0 : World} {Q : Exit → Act → World → Prop} {F G : PH} {H : Heap} {B j i o : Nat} {v u v' : Value} {qs : List BV} {bs : List D.Block} {q' : BV} {b' : D.Block}
theorem hp_bko (h : Hp X Γ (bk B v qs bs :: M) F H) : bkF qs bs ∧ Hp X Γ (bkL B v qs bs ++ M) F H :=
  ⟨h.ok.1.1, ⟨h.hx, h.hin, h.hw, h.hd, Ok.app h.ok.1.2 h.ok.2.2 h.ok.2.1, fun k hk => h.ge k ((Own.app.1 hk).imp id id)⟩⟩
theorem hp_bkc (hf : bkF qs bs) (h : Hp X Γ (bkL B v qs bs ++ M) F H) : Hp X Γ (bk B v qs bs :: M) F H := by
  obtain ⟨a, b, c⟩ := Ok.un.2 h.ok
  exact ⟨h.hx, h.hin, h.hw, h.hd, ⟨⟨hf, a⟩, b, c⟩, fun k hk => h.ge k (Own.app.2 (hk.imp id id))⟩
theorem ix_map {α β : Type} [Inhabited α] [Inhabited β] (f : α → β) {l : List α} {i : Nat} (h : i < l.length) (z : β) : (l.map f).getD i z = f (ix l i) := by simp [ix, List.getD, h]
theorem map_same {α β : Type} [Inhabited α] (f : α → β) {l : List α} {i : Nat} {a : α} (h : i < l.length) (e : f a = f (ix l i)) : (l.set i a).map f = l.map f := by
  rw [List.map_set, e]
  apply List.ext_getElem (by simp)
  intro k h1 h2
  by_cases h3 : i = k
  · subst h3; simp [ix_eq h]
  · rw [List.getElem_set_ne h3]
theorem jbh0 {T : TypeId} {x : Operand} (hk : Tk L (bk B v qs bs) M) (h1 : j < bs.length) (hT : One P T) (hx : ev e x = some (.pointer (some ⟨vblk v, o, none⟩))) (ho : o = voff v + j * 6 + 0) : OH P Γ L e (.load T x) (ix qs j).P := fun F H _ _ h => by
  have h2 := (hk.ok h).1
  obtain ⟨f, h3, h4⟩ := h2.2.1.1.cellP (off := 0) (i := j) (by rw [h2.1.1]; exact h1) (by decide)
  have h5 : f 0 = (ix qs j).P := h3.1.1
  rw [h5] at h4
  exact OpOk.load hT hx rfl (by rw [ho]; exact h4)
theorem jbh1 {T : TypeId} {x : Operand} (hk : Tk L (bk B v qs bs) M) (h1 : j < bs.length) (hT : One P T) (hx : ev e x = some (.pointer (some ⟨vblk v, o, none⟩))) (ho : o = voff v + j * 6 + 1) : OH P Γ L e (.load T x) (ix qs j).I := fun F H _ _ h => by
  have h2 := (hk.ok h).1
  obtain ⟨f, h3, h4⟩ := h2.2.1.1.cellP (off := 1) (i := j) (by rw [h2.1.1]; exact h1) (by decide)
  have h5 : f 1 = (ix qs j).I := h3.2.1.1
  rw [h5] at h4
  exact OpOk.load hT hx rfl (by rw [ho]; exact h4)
def hole0 (j B : Nat) (v : Value) (qs : List BV) (bs : List D.Block) : Res where
  sat F H := bkF qs bs ∧ Ok F H [gl B rBV 160 v qs, hole j B rPhi 62 (qs.map BV.P) (bs.map D.Block.Phis), rw' B rIns 163 (qs.map BV.I) (bs.map D.Block.Ins)]
  own := Own [gl B rBV 160 v qs, hole j B rPhi 62 (qs.map BV.P) (bs.map D.Block.Phis), rw' B rIns 163 (qs.map BV.I) (bs.map D.Block.Ins)]
  lt := fun h => Ok.lt h.2
  no := fun h => Ok.no h.2
  st := fun hl hs h1 h2 h => ⟨h.1, Ok.st hl hs h1 h2 h.2⟩
def hole1 (j B : Nat) (v : Value) (qs : List BV) (bs : List D.Block) : Res where
  sat F H := bkF qs bs ∧ Ok F H [gl B rBV 160 v qs, rw' B rPhi 62 (qs.map BV.P) (bs.map D.Block.Phis), hole j B rIns 163 (qs.map BV.I) (bs.map D.Block.Ins)]
  own := Own [gl B rBV 160 v qs, rw' B rPhi 62 (qs.map BV.P) (bs.map D.Block.Phis), hole j B rIns 163 (qs.map BV.I) (bs.map D.Block.Ins)]
  lt := fun h => Ok.lt h.2
  no := fun h => Ok.no h.2
  st := fun hl hs h1 h2 h => ⟨h.1, Ok.st hl hs h1 h2 h.2⟩
theorem hp_re {L2 : List Res} (h : Hp X Γ L F H) (ho : Ok F H L → Ok F H L2) (hw : ∀ k, Own L2 k → Own L k) : Hp X Γ L2 F H := ⟨h.hx, h.hin, h.hw, h.hd, ho h.ok, fun k hk => h.ge k (hw k hk)⟩
theorem hp_tks {Ls : List Res} (h : Hp X Γ L F H) (hk : Tks L Ls M) : Hp X Γ (Ls ++ M) F H := hp_re h (fun o => by obtain ⟨a, b, c⟩ := hk.ok o; exact Ok.app a b c) (fun k hk' => hk.own (Own.app.1 hk'))
theorem hp_box {R : Res} {Ls : List Res} (h : Hp X Γ (R :: (Ls ++ M)) F H) : Hp X Γ (R :: it Ls :: M) F H := by
  obtain ⟨a, b, c⟩ := h.ok
  exact ⟨h.hx, h.hin, h.hw, h.hd, ⟨a, fun k hk ho => b k hk (Own.app.2 ho), Ok.un.2 c⟩, fun k hk => h.ge k (hk.imp id Own.app.2)⟩
theorem hp_unbox {R : Res} {Ls : List Res} (h : Hp X Γ (R :: it Ls :: M) F H) : Hp X Γ (R :: (Ls ++ M)) F H := by
  obtain ⟨a, b, c⟩ := h.ok
  exact ⟨h.hx, h.hin, h.hw, h.hd, ⟨a, fun k hk ho => b k hk (Own.app.1 ho), Ok.un.1 c⟩, fun k hk => h.ge k (hk.imp id Own.app.1)⟩
variable {ops : Array Oper} {rest : List Oper} {ty : TypeId} {pos : String} {af : Array Edge}
theorem jbf0 (j : Nat) (hk : Tk L (bk B v qs bs) M) (h1 : j < bs.length) (k : LH P n w0 ops Q X Γ (gl B rPhi 62 (ix qs j).P (ix bs j).Phis :: hole0 j B v qs bs :: M) e rest) : LH P n w0 ops Q X Γ L e rest := fun F H hp => by
  obtain ⟨hf, h2⟩ := hp_bko (hp.front hk)
  have hl : j < qs.length := by rw [hf.1]; exact h1
  have h3 := h2.row (k1 : Tk _ (rw' B rPhi 62 (qs.map BV.P) (bs.map D.Block.Phis)) _) (i := j) (by simpa using hl) (by simpa using h1)
  rw [ix_map BV.P hl, ix_map D.Block.Phis h1] at h3
  have h4 := hp_tks h3 (kc k0 (kc k1 (kd kn)))
  obtain ⟨a, b, x, y, z⟩ := (hp_box (Ls := [_, _, _]) h4).ok
  exact k F H ⟨h4.hx, h4.hin, h4.hw, h4.hd, ⟨a, b, ⟨hf, x⟩, y, z⟩, (hp_box (Ls := [_, _, _]) h4).ge⟩
theorem jbf1 (j : Nat) (hk : Tk L (bk B v qs bs) M) (h1 : j < bs.length) (k : LH P n w0 ops Q X Γ (gl B rIns 163 (ix qs j).I (ix bs j).Ins :: hole1 j B v qs bs :: M) e rest) : LH P n w0 ops Q X Γ L e rest := fun F H hp => by
  obtain ⟨hf, h2⟩ := hp_bko (hp.front hk)
  have hl : j < qs.length := by rw [hf.1]; exact h1
  have h3 := h2.row (k2 : Tk _ (rw' B rIns 163 (qs.map BV.I) (bs.map D.Block.Ins)) _) (i := j) (by simpa using hl) (by simpa using h1)
  rw [ix_map BV.I hl, ix_map D.Block.Ins h1] at h3
  have h4 := hp_tks h3 (kc k0 (kc k1 (kc k1 (kc k0 kn))))
  obtain ⟨a, b, x, y, z⟩ := (hp_box (Ls := [_, _, _]) h4).ok
  exact k F H ⟨h4.hx, h4.hin, h4.hw, h4.hd, ⟨a, b, ⟨hf, x⟩, y, z⟩, (hp_box (Ls := [_, _, _]) h4).ge⟩
theorem putP {m : BV} {f : Nat → Value} (h1 : u.oneCell' = true) (h : rBV.ok F m f) : rBV.ok F { m with P := u } (putf 0 [u] f) :=
  ⟨⟨rfl, h1⟩, ⟨h.2.1.1, h.2.1.2⟩, rTerm.ext (fun i _ => by show _ = putf 0 [u] f (i + 1 + 1); unfold putf; rw [if_neg (by simp)]; rfl) h.2.2⟩
theorem putI {m : BV} {f : Nat → Value} (h1 : u.oneCell' = true) (h : rBV.ok F m f) : rBV.ok F { m with I := u } (putf 1 [u] f) :=
  ⟨⟨h.1.1, h.1.2⟩, ⟨rfl, h1⟩, rTerm.ext (fun i _ => by show _ = putf 1 [u] f (i + 1 + 1); unfold putf; rw [if_neg (by simp)]; rfl) h.2.2⟩
theorem putT {m : BV} {f : Nat → Value} {us : List Value} {t : D.Term} (hl : us.length = 4) (ht : rTerm.ok F t (fun i => us.getD i undef)) (h : rBV.ok F m f) : rBV.ok F { m with T := t } (putf 2 us f) :=
  ⟨⟨by show putf 2 us f 0 = _; unfold putf; rw [if_neg (by simp)]; exact h.1.1, h.1.2⟩, ⟨by show putf 2 us f 1 = _; unfold putf; rw [if_neg (by simp)]; exact h.2.1.1, h.2.1.2⟩,
   rTerm.ext (fun i hi => by
    have hi : i < 4 := hi
    show _ = putf 2 us f (i + 1 + 1); unfold putf; rw [if_pos (by omega)]; rfl) ht⟩
theorem putTo {m : BV} {f : Nat → Value} {l : List Int} (hu : (rL (rI .i64)).rv F u l) (h : rBV.ok F m f) : rBV.ok F { m with T := { m.T with To := l } } (putf 4 [u] f) :=
  ⟨⟨h.1.1, h.1.2⟩, ⟨h.2.1.1, h.2.1.2⟩, ⟨h.2.2.1.1, h.2.2.1.2⟩, (rL (rI .i64)).ext (fun i hi => by rw [show i = 0 from Nat.lt_one_iff.1 hi]; rfl) h.2.2.2.1, (rL (rI .i64)).ext (fun i hi => by rw [show i = 0 from Nat.lt_one_iff.1 hi]; rfl) hu, ⟨h.2.2.2.2.2.1, h.2.2.2.2.2.2⟩⟩
theorem bkF_set (hf : bkF qs bs) (h1 : j < bs.length) (e : q'.T = b'.Term) : bkF (qs.set j q') (bs.set j b') := ⟨by simp [hf.1], by rw [List.map_set, List.map_set, hf.2, e]⟩
theorem jbs1 {T : TypeId} {x y : Operand} {l' : List D.Ins} (hk : Tk L (gl B rIns 163 v' l') M) (hk2 : Tk M (hole1 j B v qs bs) N) (h1 : j < bs.length) (hT : Sz P T 1) (hx : ev e x = some (.pointer (some ⟨vblk v, o, none⟩))) (ho : o = voff v + j * 6 + 1) (hy : ev e y = some v') (hv : v'.oneCell' = true)
    (k : LH P n w0 ops Q X Γ (bk B v (qs.set j { (ix qs j) with I := v' }) (bs.set j { (ix bs j) with Ins := l' }) :: N) e rest) : LH P n w0 ops Q X Γ L e (⟨none, .store T x y, ty, pos, af, none⟩ :: rest) := fun F H hp => by
  have h3 := hp_tks hp (kc hk (kc hk2 kn))
  have hf : bkF qs bs := h3.ok.2.2.1.1
  have h4 : Hp X Γ (gl B rIns 163 v' l' :: gl B rBV 160 v qs :: rw' B rPhi 62 (qs.map BV.P) (bs.map D.Block.Phis) :: hole j B rIns 163 (qs.map BV.I) (bs.map D.Block.Ins) :: N) F H :=
    hp_unbox (Ls := [_, _, _]) ⟨h3.hx, h3.hin, h3.hw, h3.hd, ⟨h3.ok.1, h3.ok.2.1, h3.ok.2.2.1.2, h3.ok.2.2.2⟩, h3.ge⟩
  have hl : j < qs.length := by rw [hf.1]; exact h1
  refine LF.chg0 (OpCh.storeP (h4.at k1).1 hl hT hx ho hy hv (by decide) (fun f => putI hv)) ?_
  rintro _ H' ⟨g, hg, t, hb⟩
  have h5 := h4.set (R' := gl B rBV 160 v (qs.set j { (ix qs j) with I := v' })) k1 ⟨Nat.le_of_eq t.1.symm, fun k _ h2 => t.2 k (fun e1 => h2 (e1 ▸ hg))⟩ ⟨hb, by rw [t.1]; exact hp1 h4 k1⟩ (fun k h => .inr h)
  have h6 := (hp_tks h5 (kc k1 (kc k2 (kd kn)))).unrow (by simpa using hl) (by simpa using h1)
  rw [show (List.map BV.I qs).set j v' = List.map BV.I (qs.set j { (ix qs j) with I := v' }) by rw [List.map_set], show (List.map D.Block.Ins bs).set j l' = List.map D.Block.Ins (bs.set j { (ix bs j) with Ins := l' }) by rw [List.map_set],
    ← map_same BV.P (a := { (ix qs j) with I := v' }) hl rfl, ← map_same D.Block.Phis (a := { (ix bs j) with Ins := l' }) h1 rfl] at h6
  exact k F H' (hp_bkc (bkF_set hf h1 (by
    have := congrArg (fun l => l.getD j default) hf.2
    rwa [ix_map BV.T hl, ix_map D.Block.Term h1] at this)) (hp_tks h6 (kc k1 (kc k1 (kc k0 kn)))))
theorem jbs0 {T : TypeId} {x y : Operand} {l' : List D.Phi} (hk : Tk L (gl B rPhi 62 v' l') M) (hk2 : Tk M (hole0 j B v qs bs) N) (h1 : j < bs.length) (hT : Sz P T 1) (hx : ev e x = some (.pointer (some ⟨vblk v, o, none⟩))) (ho : o = voff v + j * 6 + 0) (hy : ev e y = some v') (hv : v'.oneCell' = true)
    (k : LH P n w0 ops Q X Γ (bk B v (qs.set j { (ix qs j) with P := v' }) (bs.set j { (ix bs j) with Phis := l' }) :: N) e rest) : LH P n w0 ops Q X Γ L e (⟨none, .store T x y, ty, pos, af, none⟩ :: rest) := fun F H hp => by
  have h3 := hp_tks hp (kc hk (kc hk2 kn))
  have hf : bkF qs bs := h3.ok.2.2.1.1
  have h4 : Hp X Γ (gl B rPhi 62 v' l' :: gl B rBV 160 v qs :: hole j B rPhi 62 (qs.map BV.P) (bs.map D.Block.Phis) :: rw' B rIns 163 (qs.map BV.I) (bs.map D.Block.Ins) :: N) F H :=
    hp_unbox (Ls := [_, _, _]) ⟨h3.hx, h3.hin, h3.hw, h3.hd, ⟨h3.ok.1, h3.ok.2.1, h3.ok.2.2.1.2, h3.ok.2.2.2⟩, h3.ge⟩
  have hl : j < qs.length := by rw [hf.1]; exact h1
  refine LF.chg0 (OpCh.storeP (h4.at k1).1 hl hT hx ho hy hv (by decide) (fun f => putP hv)) ?_
  rintro _ H' ⟨g, hg, t, hb⟩
  have h5 := h4.set (R' := gl B rBV 160 v (qs.set j { (ix qs j) with P := v' })) k1 ⟨Nat.le_of_eq t.1.symm, fun k _ h2 => t.2 k (fun e1 => h2 (e1 ▸ hg))⟩ ⟨hb, by rw [t.1]; exact hp1 h4 k1⟩ (fun k h => .inr h)
  have h6 := (hp_tks h5 (kc k1 (kc k1 (kd kn)))).unrow (by simpa using hl) (by simpa using h1)
  rw [show (List.map BV.P qs).set j v' = List.map BV.P (qs.set j { (ix qs j) with P := v' }) by rw [List.map_set], show (List.map D.Block.Phis bs).set j l' = List.map D.Block.Phis (bs.set j { (ix bs j) with Phis := l' }) by rw [List.map_set],
    ← map_same BV.I (a := { (ix qs j) with P := v' }) hl rfl, ← map_same D.Block.Ins (a := { (ix bs j) with Phis := l' }) h1 rfl] at h6
  exact k F H' (hp_bkc (bkF_set hf h1 (by
    have := congrArg (fun l => l.getD j default) hf.2
    rwa [ix_map BV.T hl, ix_map D.Block.Term h1] at this)) (hp_tks h6 (kc k1 (kd kn))))
theorem jbw0 {c : LH P n w0 ops Q X Γ (bk B v qs (bs.set j b') :: N) e rest} (hk : Tk L (gl B rPhi 62 (ix qs j).P b'.Phis) M) (hk2 : Tk M (hole0 j B v qs bs) N) (h1 : j < bs.length) (hI : b'.Ins = (ix bs j).Ins) (hT : b'.Term = (ix bs j).Term) : LH P n w0 ops Q X Γ L e rest := fun F H hp => by
  have h3 := hp_tks hp (kc hk (kc hk2 kn))
  have hf : bkF qs bs := h3.ok.2.2.1.1
  have h4 : Hp X Γ (gl B rPhi 62 (ix qs j).P b'.Phis :: gl B rBV 160 v qs :: hole j B rPhi 62 (qs.map BV.P) (bs.map D.Block.Phis) :: rw' B rIns 163 (qs.map BV.I) (bs.map D.Block.Ins) :: N) F H :=
    hp_unbox (Ls := [_, _, _]) ⟨h3.hx, h3.hin, h3.hw, h3.hd, ⟨h3.ok.1, h3.ok.2.1, h3.ok.2.2.1.2, h3.ok.2.2.2⟩, h3.ge⟩
  have hl : j < qs.length := by rw [hf.1]; exact h1
  have h6 := (hp_tks h4 (kc k0 (kc k1 (kd kn)))).unrow (by simpa using hl) (by simpa using h1)
  rw [← ix_map BV.P hl undef, set_same, show (List.map D.Block.Phis bs).set j b'.Phis = List.map D.Block.Phis (bs.set j b') by rw [List.map_set],
    ← map_same D.Block.Ins (a := b') h1 hI] at h6
  exact c F H (hp_bkc ⟨by simp [hf.1], by rw [hf.2, map_same D.Block.Term h1 hT]⟩ (hp_tks h6 (kc k1 (kd kn))))
theorem hp_term {H' : Heap} {t : D.Term} (hp : Hp X Γ L F H) (hk : Tk L (bk B v qs bs) M) (h1 : j < bs.length)
    (hs : Gl rBV 160 F H B v qs → ∃ g, v.ownBlock = some g ∧ Tw g H H' ∧ Gl rBV 160 F H' B v (qs.set j { (ix qs j) with T := t })) : Hp X Γ (bk B v (qs.set j { (ix qs j) with T := t }) (bs.set j { (ix bs j) with Term := t }) :: M) F H' := by
  obtain ⟨hf, h4⟩ := hp_bko (hp.front hk)
  have hl : j < qs.length := by rw [hf.1]; exact h1
  obtain ⟨g, hg, t', hb⟩ := hs (h4.at k0).1
  have h5 := h4.set (R' := gl B rBV 160 v (qs.set j { (ix qs j) with T := t })) k0 ⟨Nat.le_of_eq t'.1.symm, fun k _ h2 => t'.2 k (fun e1 => h2 (e1 ▸ hg))⟩ ⟨hb, by rw [t'.1]; exact hp1 h4 k0⟩ (fun k h => .inr h)
  rw [← map_same BV.P (a := { (ix qs j) with T := t }) hl rfl, ← map_same BV.I (a := { (ix qs j) with T := t }) hl rfl, ← map_same D.Block.Phis (a := { (ix bs j) with Term := t }) h1 rfl, ← map_same D.Block.Ins (a := { (ix bs j) with Term := t }) h1 rfl] at h5
  exact hp_bkc (bkF_set hf h1 rfl) h5
theorem jbT {T : TypeId} {x y : Operand} {us : List Value} {t : D.Term} (hk : Tk L (bk B v qs bs) M) (h1 : j < bs.length) (hT : Sz P T 4) (hx : ev e x = some (.pointer (some ⟨vblk v, o, none⟩))) (ho : o = voff v + j * 6 + 2) (hy : ev e y = some (.agg us.toArray)) (hu : us.length = 4) (hv : allOne us) (ht : Nd Γ L (da rTerm (.agg us.toArray) t))
    (k : LH P n w0 ops Q X Γ (bk B v (qs.set j { (ix qs j) with T := t }) (bs.set j { (ix bs j) with Term := t }) :: M) e rest) : LH P n w0 ops Q X Γ L e (⟨none, .store T x y, ty, pos, af, none⟩ :: rest) := fun F H hp => by
  have hq := (hp.at hk)
  have ht' := ht F H hp.hin hp.hd hp.ok
  obtain ⟨l', e1, _, h3⟩ := ht'
  injection e1 with e1; have e1 : us = l' := by simpa using e1
  subst e1
  exact LF.chg0 (OpCh.storePA hq.2.1.1 (by rw [hq.1.1]; exact h1) hT hx ho hy hu hv.mem (by decide) (by rw [hu]; decide) (fun f => putT hu h3)) (by rintro _ H' h4; exact k F H' (hp_term hp hk h1 fun _ => h4))
theorem jbTo {T : TypeId} {x y : Operand} {l : List Int} (hk : Tk L (bk B v qs bs) M) (h1 : j < bs.length) (hT : Sz P T 1) (hx : ev e x = some (.pointer (some ⟨vblk v, o, none⟩))) (ho : o = voff v + j * 6 + 2 + 2) (hy : ev e y = some u) (hv : u.oneCell' = true) (ht : Nd Γ L (dv (rL (rI .i64)) u l))
    (k : LH P n w0 ops Q X Γ (bk B v (qs.set j { (ix qs j) with T := { (ix bs j).Term with To := l } }) (bs.set j { (ix bs j) with Term := { (ix bs j).Term with To := l } }) :: M) e rest) : LH P n w0 ops Q X Γ L e (⟨none, .store T x y, ty, pos, af, none⟩ :: rest) := fun F H hp => by
  have hq := (hp.at hk)
  have hl : j < qs.length := by rw [hq.1.1]; exact h1
  have he : (ix qs j).T = (ix bs j).Term := by
    have := congrArg (fun l => l.getD j default) hq.1.2
    rwa [ix_map BV.T hl, ix_map D.Block.Term h1] at this
  exact LF.chg0 (OpCh.storeP hq.2.1.1 hl hT hx (off := 4) (by rw [ho, Nat.add_assoc]; rfl) hy hv (by decide) (fun f h => he ▸ putTo (ht F H hp.hin hp.hd hp.ok) h)) (by rintro _ H' h4; exact k F H' (hp_term hp hk h1 fun _ => h4))
theorem own_rep {α : Type} {r : Rp α} {T k : Nat} {B : Nat} : ∀ m, ¬ Own (rws B r T (List.replicate m (.slice none 0 0)) (List.replicate m [])) k
  | 0 => id
  | m + 1 => fun h => h.elim (fun h => by cases h) (own_rep m)
theorem ok_rep {α : Type} {r : Rp α} {T : Nat} {B : Nat} (hB : B ≤ H.size) : ∀ m, Ok F H (rws B r T (List.replicate m (.slice none 0 0)) (List.replicate m []))
  | 0 => trivial
  | m + 1 => ⟨⟨Gl.nil _ _ _, hB⟩, (fun k h => by cases h), ok_rep hB m⟩
theorem jbmk {T : TypeId} {x y : Operand} {z : Value} {bytes m d : Nat} {I J : Int} (hT : P.underlying T = some (.slice 160)) (hE : (P.info? 160).map (fun i => (i.zero, i.size, i.bytes)) = some (some z, 6, bytes)) (hz : z.cells = #[.slice none 0 0, .slice none 0 0, .int .i64 0, .slice none 0 0, .slice none 0 0, .int .i32 0])
    (hx : ev e x = some (.int .i64 I)) (hy : ev e y = some (.int .i64 J)) (hI : I = m) (hJ : J = m) (h1 : bytes * m ≤ 281474976710656 ∧ m ≤ 140737488355328)
    (k : ∀ g, LH P n w0 ops Q X Γ (bk X.n (.slice (some ⟨g, 0, none⟩) m m) (List.replicate m default) (List.replicate m default) :: L) ((d, .slice (some ⟨g, 0, none⟩) m m) :: e) rest) (hd : Nat.blt d n.sz = true := by rfl) : LH P n w0 ops Q X Γ L e (⟨some d, .makeSlice T x y, ty, pos, af, none⟩ :: rest) := fun F H hp =>
  LF.chg (OpCh.makeN (F := F) (r := rBV) (n := m) (a := default) hT hE (by rw [hz]; rfl) (by decide) hx hy hI hJ h1.1 h1.2 (by rw [hz]; exact ⟨⟨rfl, rfl⟩, ⟨rfl, rfl⟩, ⟨rfl, rfl⟩, rL.nil _, rL.nil _, rfl, rfl⟩)) (by
    rintro _ H' ⟨g, rfl, eg, sg, kg, hb⟩
    refine k g F H' (hp.new (R := bk X.n (.slice (some ⟨g, 0, none⟩) m m) (List.replicate m default) (List.replicate m default)) kg ⟨⟨by simp, by simp; exact .inr rfl⟩, ?_⟩ ?_)
    · have hB : X.n ≤ H'.size := Nat.le_trans hp.hw.1 kg.1
      refine ⟨⟨(hb hp.hin).base hp.hw.1, hB⟩, fun k _ ho => ?_, ?_, fun k ho => ?_, ?_, fun _ _ h => h, trivial⟩
      · simp only [List.map_replicate] at ho
        exact ho.elim (fun h => own_rep m h) (fun h => h.elim (fun h => own_rep m h) id)
      · rw [List.map_replicate, List.map_replicate]; exact ok_rep hB m
      · rw [List.map_replicate, List.map_replicate] at ho; exact (own_rep m ho).elim
      · rw [List.map_replicate, List.map_replicate]; exact ok_rep hB m
    · rintro k (h | h | h | h)
      · exact ((hb hp.hin).blk k h).1
      · rw [List.map_replicate, List.map_replicate] at h; exact (own_rep m h).elim
      · rw [List.map_replicate, List.map_replicate] at h; exact (own_rep m h).elim
      · exact h.elim) hd
abbrev lensB (bs : List D.Block) : Prop := bs.length < 1073741824 ∧ ∀ b ∈ bs, b.Phis.length < 1073741824 ∧ b.Ins.length < 1073741824
theorem bk_freeze (hin : InH F H) (h : (bk B v qs bs).sat F H) (hl : lensB bs) : ∃ G, F.le G ∧ InH G H ∧ (∀ k, k < B → G k = F k) ∧ (∀ k, ¬ (bk B v qs bs).own k → G k = F k) ∧ (rL rBlock).rv G v bs := by
  obtain ⟨hf, o1, o2, o3, o4, o5, _⟩ := h
  have o1' : Gl rBV 160 F H B v qs := o1.1
  obtain ⟨G, f1, f2, f3, f4, f5⟩ := o1'.freeze (N := 1073741824) hin (by rw [hf.1]; exact hl.1)
  have q3 : Ok G H (rws B rPhi 62 (qs.map BV.P) (bs.map D.Block.Phis)) := Ok.st f1 (Nat.le_refl _) (fun k hk => (f4 k (fun e1 => o2 k e1 (.inl hk))).trans (Ok.no (L := rws B rPhi 62 (qs.map BV.P) (bs.map D.Block.Phis)) o3 hk)) (fun _ _ => rfl) o3
  obtain ⟨K, g1, g2, g3, g4, g5⟩ := rws_freeze f2 q3 (by simp [hf.1]) (fun l hl' => by obtain ⟨b, hb, rfl⟩ := List.mem_map.1 hl'; exact (hl.2 b hb).1)
  have q5 : Ok K H (rws B rIns 163 (qs.map BV.I) (bs.map D.Block.Ins)) := Ok.st (f1.trans g1) (Nat.le_refl _) (fun k hk => ((g4 k (fun h => o4 k h (.inl hk))).trans (f4 k (fun e1 => o2 k e1 (.inr (.inl hk))))).trans (Ok.no (L := rws B rIns 163 (qs.map BV.I) (bs.map D.Block.Ins)) o5 hk)) (fun _ _ => rfl) o5
  obtain ⟨J, i1, i2, i3, i4, i5⟩ := rws_freeze g2 q5 (by simp [hf.1]) (fun l hl' => by obtain ⟨b, hb, rfl⟩ := List.mem_map.1 hl'; exact (hl.2 b hb).2)
  refine ⟨J, (f1.trans g1).trans i1, i2, fun k hk => (i3 k hk).trans ((g3 k hk).trans (f3 k hk)), fun k hk => (i4 k (fun h => hk (.inr (.inr (.inl h))))).trans ((g4 k (fun h => hk (.inr (.inl h)))).trans (f4 k (fun h => hk (.inl h)))), ?_⟩
  obtain ⟨a, b, c, d, f, g, g', x, y⟩ := Rp.rv.up f5 (g1.trans i1)
  refine ⟨hf.1 ▸ a, b, c, hf.1 ▸ d, hf.1 ▸ f, fun i hi => g i (by rw [hf.1]; exact hi), g', fun i hi => x i (by rw [hf.1]; exact hi), fun i hi => ?_⟩
  have hi' : i < qs.length := by rw [hf.1]; exact hi
  have h2 := y i hi'
  have h3 := Rp.rv.up (g5 i (by simpa using hi') (by simpa using hi)) i1
  have h4 := i5 i (by simpa using hi') (by simpa using hi)
  simp only [List.getElem_map] at h3 h4
  have h5 : qs[i].T = bs[i].Term := by
    have := congrArg (fun l => l[i]?) hf.2
    simpa [hi, hi'] using this
  have h6 : rTerm.ok J qs[i].T (fun q => g' (i * 6 + (q + 1 + 1))) := h2.2.2
  rw [h5] at h6
  refine ⟨(rL rPhi).ext (fun j hj => ?_) h3, (rL rIns).ext (fun j hj => ?_) h4, h6⟩
  · rw [show j = 0 from Nat.lt_one_iff.1 hj]; exact h2.1.1.symm
  · rw [show j = 0 from Nat.lt_one_iff.1 hj]; exact h2.2.1.1.symm
theorem hp_bfz (hp : Hp X Γ L F H) (hk : Tk L (bk X.n v qs bs) M) (hl : lensB bs) : ∃ G, Hp X (dv (rL rBlock) v bs :: Γ) M G H := by
  obtain ⟨o1, o2, o3⟩ := hk.ok hp.ok
  obtain ⟨G, h1, h2, h3, h4, h5⟩ := bk_freeze hp.hin o1 hl
  have h6 : ∀ k, Own M k → G k = F k := fun k hk1 => h4 k (fun e1 => o2 k e1 hk1)
  exact ⟨G, ⟨⟨hp.hx.1.trans h1, fun k hk1 => (h3 k hk1).trans (hp.hx.2 k hk1)⟩, h2, hp.hw, ⟨h5, hp.hd.up h1⟩, o3.st h1 (Nat.le_refl _) (fun k hk1 => (h6 k hk1).trans (o3.no hk1)) (fun _ _ => rfl), fun k hk1 => hp.ge k (hk.own (.inr hk1))⟩⟩
theorem qbfz {x : Exit} (hk : Tk L (bk X.n v qs bs) M) (hl : lensB bs) (k : QH n w0 Q X (dv (rL rBlock) v bs :: Γ) M e x) : QH n w0 Q X Γ L e x := fun F H hp => by
  obtain ⟨G, h⟩ := hp_bfz hp hk hl; exact k G H h
variable {f : FuncId} {args : Array Value} {x : Value}
theorem glflatB {T : TypeId} {F G : PH} {H : Heap} {B : Nat} {v : Value} {l : List Bool} (h : Gl rB T G H B v l) (hl : F.le G) : Gl rB T F H B v l := by
  obtain ⟨xs, h1, h2, h3⟩ := h
  refine ⟨xs, h1, fun b hb => ?_, h3⟩
  cases hF : F b with
  | none => rfl
  | some o => have := hl b o hF; rw [h2 b hb] at this; cases this
theorem Tg_bt {kd : IntKind} {T2 : TypeId} {m : List Int} (h : Tg P f args (dv (rL rBlock) v bs :: D0) [] (rI kd) T2 m) (hl : lensB bs) : Tr P f args D0 [bk B v qs bs] (fun v : Value => v) (fun _ => []) (fun B' u => [gl B' (rI kd) T2 u m, bk B v qs bs]) := fun F H hin hd ho => by
  obtain ⟨G, g1, g2, g3, g4, g5⟩ := bk_freeze hin ho.1 hl
  refine (h G H g2 ⟨g5, hd.up g1⟩ trivial).mono ?_
  rintro u H' ⟨_, F', rfl, h2⟩
  refine ⟨u, F, rfl, fun B' hB => ?_⟩
  have h3 := h2 B' hB
  obtain ⟨a, b, c⟩ := h3.less hin g1
  have hu : ∀ k, u.ownBlock = some k → H.size ≤ k := fun k hk => (h3.ge k (.inl hk)).resolve_right id
  refine ⟨a, b, ⟨c.1, fun k hk hn => c.2 k hk id⟩, trivial, ⟨⟨h3.ok.1.1.flatI (g1.trans h3.hx.1), h3.ok.1.2⟩, fun k hk ho' => ?_, ⟨Res.st _ (PH.le.refl F) c.1 (fun k hk => Res.no _ ho.1 hk) (fun k hk => c.2 k (Res.lt _ ho.1 hk) id) ho.1, fun _ _ => id, trivial⟩⟩, fun k hk => ?_⟩
  · have h4 := Res.lt _ ho.1 (ho'.resolve_right id)
    have h5 := hu k hk
    omega
  · rcases hk with hk | hk
    · exact .inl (hu k hk)
    · exact .inr hk
theorem Tg_btB {T2 : TypeId} {m : List Bool} (h : Tg P f args (dv (rL rBlock) v bs :: D0) [] rB T2 m) (hl : lensB bs) : Tr P f args D0 [bk B v qs bs] (fun v : Value => v) (fun _ => []) (fun B' u => [gl B' rB T2 u m, bk B v qs bs]) := fun F H hin hd ho => by
  obtain ⟨G, g1, g2, g3, g4, g5⟩ := bk_freeze hin ho.1 hl
  refine (h G H g2 ⟨g5, hd.up g1⟩ trivial).mono ?_
  rintro u H' ⟨_, F', rfl, h2⟩
  refine ⟨u, F, rfl, fun B' hB => ?_⟩
  have h3 := h2 B' hB
  obtain ⟨a, b, c⟩ := h3.less hin g1
  have hu : ∀ k, u.ownBlock = some k → H.size ≤ k := fun k hk => (h3.ge k (.inl hk)).resolve_right id
  refine ⟨a, b, ⟨c.1, fun k hk hn => c.2 k hk id⟩, trivial, ⟨⟨glflatB h3.ok.1.1 (g1.trans h3.hx.1), h3.ok.1.2⟩, fun k hk ho' => ?_, ⟨Res.st _ (PH.le.refl F) c.1 (fun k hk => Res.no _ ho.1 hk) (fun k hk => c.2 k (Res.lt _ ho.1 hk) id) ho.1, fun _ _ => id, trivial⟩⟩, fun k hk => ?_⟩
  · have h4 := Res.lt _ ho.1 (ho'.resolve_right id)
    have h5 := hu k hk
    omega
  · rcases hk with hk | hk
    · exact .inl (hu k hk)
    · exact .inr hk
end
section
variable {P : Program} {Γ : List Dt} {L M : List Res} {e : Env} {F : PH} {H : Heap} {B j i o : Nat} {v u : Value} {qs : List BV} {bs : List D.Block} {T : TypeId} {x y : Operand} {kd : IntKind} {I : Int}
theorem bk_row0 (h : (bk B v qs bs).sat F H) (h1 : j < bs.length) : Gl rPhi 62 F H B (ix qs j).P (ix bs j).Phis := by
  have hl : j < qs.length := by rw [h.1.1]; exact h1
  obtain ⟨h3, h4⟩ := rws_ix (B := B) (r := rPhi) (T := 62) (vs := qs.map BV.P) (ls := bs.map D.Block.Phis) (i := j) (by simpa using hl) (by simpa using h1)
  have h5 := ((Ok.focus h3).1 h.2.2.2.1).1
  rw [h4, ix_map BV.P hl, ix_map D.Block.Phis h1] at h5; exact h5.1
theorem bk_row1 (h : (bk B v qs bs).sat F H) (h1 : j < bs.length) : Gl rIns 163 F H B (ix qs j).I (ix bs j).Ins := by
  have hl : j < qs.length := by rw [h.1.1]; exact h1
  obtain ⟨h3, h4⟩ := rws_ix (B := B) (r := rIns) (T := 163) (vs := qs.map BV.I) (ls := bs.map D.Block.Ins) (i := j) (by simpa using hl) (by simpa using h1)
  have h5 := ((Ok.focus h3).1 h.2.2.2.2.2.1).1
  rw [h4, ix_map BV.I hl, ix_map D.Block.Ins h1] at h5; exact h5.1
theorem jbn0 (hT : P.underlying T = some (.slice 62)) (hk : Tk L (bk B v qs bs) M) (h1 : j < bs.length) (hx : ev e x = some (ix qs j).P) : OH P Γ L e (.call { callee := .builtin .len, args := #[x], argTypes := #[T] }) (.int .i64 ((ix bs j).Phis.length : Nat)) := fun F H _ _ h => OpOk.lenG hT (bk_row0 (hk.ok h).1 h1) hx
theorem jbn1 (hT : P.underlying T = some (.slice 163)) (hk : Tk L (bk B v qs bs) M) (h1 : j < bs.length) (hx : ev e x = some (ix qs j).I) : OH P Γ L e (.call { callee := .builtin .len, args := #[x], argTypes := #[T] }) (.int .i64 ((ix bs j).Ins.length : Nat)) := fun F H _ _ h => OpOk.lenG hT (bk_row1 (hk.ok h).1 h1) hx
theorem jbi0 (hT : P.underlying T = some (.slice 62)) (hE : Sz P 62 2) (hk : Tk L (bk B v qs bs) M) (h1 : j < bs.length) (hx : ev e x = some (ix qs j).P) (hi : ev e y = some (.int kd I)) (hI : I = i) (h2 : i < (ix bs j).Phis.length) : OH P Γ L e (.indexAddr T x y) (.pointer (some ⟨vblk (ix qs j).P, voff (ix qs j).P + i * 2, none⟩)) := fun F H _ _ h => OpOk.idxG hT hE (bk_row0 (hk.ok h).1 h1) hx hi hI h2 (by decide)
theorem jbi1 (hT : P.underlying T = some (.slice 163)) (hE : Sz P 163 5) (hk : Tk L (bk B v qs bs) M) (h1 : j < bs.length) (hx : ev e x = some (ix qs j).I) (hi : ev e y = some (.int kd I)) (hI : I = i) (h2 : i < (ix bs j).Ins.length) : OH P Γ L e (.indexAddr T x y) (.pointer (some ⟨vblk (ix qs j).I, voff (ix qs j).I + i * 5, none⟩)) := fun F H _ _ h => OpOk.idxG hT hE (bk_row1 (hk.ok h).1 h1) hx hi hI h2 (by decide)
theorem jbd0 (hk : Tk L (bk B v qs bs) M) (h1 : j < bs.length) (h2 : i < (ix bs j).Phis.length) (hT : One P T) (hx : ev e x = some (.pointer (some ⟨vblk (ix qs j).P, o, none⟩))) (ho : o = voff (ix qs j).P + i * 2 + 0) : OH P Γ L e (.load T x) (.int .i64 (ix (ix bs j).Phis i).Dst) := fun F H _ _ h => by
  obtain ⟨f, h3, h4⟩ := (bk_row0 (hk.ok h).1 h1).cellP (off := 0) h2 (by decide)
  rw [show f 0 = .int .i64 (ix (ix bs j).Phis i).Dst from h3.1.1] at h4
  exact OpOk.load hT hx rfl (by rw [ho]; exact h4)
theorem wbd0 (hk : Tk L (bk B v qs bs) M) (h1 : j < bs.length) (h2 : i < (ix bs j).Phis.length) : Wr Γ L .i64 (ix (ix bs j).Phis i).Dst := fun F H _ _ h => by
  obtain ⟨f, h3, _⟩ := (bk_row0 (hk.ok h).1 h1).cellP (off := 0) h2 (by decide)
  exact h3.1.2
theorem jbA1 (hk : Tk L (bk B v qs bs) M) (h1 : j < bs.length) (h2 : i < (ix bs j).Ins.length) (hT : ∃ d, P.underlying T = some d ∧ (match d with | .struct _ | .array _ _ => true | _ => false) = true) (hS : Sz P T 5) (hx : ev e x = some (.pointer (some ⟨vblk (ix qs j).I, voff (ix qs j).I + i * 5, none⟩))) : OE P Γ L e (.load T x) (fun u F => (da rIns u (ix (ix bs j).Ins i)).sat F) := fun F H _ _ h => OpOk.ldGA (bk_row1 (hk.ok h).1 h1) h2 hT hS hx
theorem bkn (hB : B ≤ H.size) : (bk B (.slice none 0 0) [] []).sat F H := ⟨⟨rfl, rfl⟩, ⟨Gl.nil _ _ _, hB⟩, (fun k h => by cases h), trivial, (fun _ h => h.elim), trivial, (fun _ h => h.elim), trivial⟩
end
theorem jbnil {P : Program} {Γ : List Dt} {L : List Res} {e : Env} {X : Cx} {n : Fs} {w0 : World} {Q : Exit → Act → World → Prop} {ops : Array Oper} {rest : List Oper} (k : LH P n w0 ops Q X Γ (bk X.n (.slice none 0 0) [] [] :: L) e rest) : LH P n w0 ops Q X Γ L e rest := fun F H hp => k F H (hp.new (R := bk X.n (.slice none 0 0) [] []) (Kp.refl _ _) (bkn hp.hw.1) (fun k h => by rcases h with h | h | h | h; (· cases h); (· exact h.elim); (· exact h.elim); exact h.elim))
def SlB (v : Value) (m : Nat) : Prop := ∃ a c, v = .slice a m c ∧ (0 < m → ∃ g, a = some ⟨g, 0, none⟩)
section
variable {P : Program} {Γ : List Dt} {L M : List Res} {e : Env} {X : Cx} {n : Fs} {w0 : World} {Q : Exit → Act → World → Prop} {B j m : Nat} {v : Value} {qs : List BV} {bs : List D.Block} {T : TypeId} {x y : Operand} {k : IntKind} {I : Int} {c : Code} {ops : Array Oper} {rest : List Oper}
theorem bk_slb {F : PH} {H : Heap} (h : (bk B v qs bs).sat F H) (hm : bs.length = m) : SlB v m := by
  obtain ⟨xs, g1, _⟩ := h.2.1.1
  rw [h.1.1, hm] at g1
  rcases g1.2 with ⟨h9, h8⟩ | ⟨g, cap, cur, h9, _⟩
  · subst h8; exact ⟨_, _, h9, fun h => absurd h (Nat.lt_irrefl 0)⟩
  · exact ⟨_, _, h9, fun _ => ⟨g, rfl⟩⟩
theorem cbk (hk : Tk L (bk B v qs bs) M) (hm : bs.length = m) (kk : SlB v m → CH P n w0 Q X Γ L e c) : CH P n w0 Q X Γ L e c := fun F H hp => kk (bk_slb (hp.at hk) hm) F H hp
theorem lbk (hk : Tk L (bk B v qs bs) M) (hm : bs.length = m) (kk : SlB v m → LH P n w0 ops Q X Γ L e rest) : LH P n w0 ops Q X Γ L e rest := fun F H hp => kk (bk_slb (hp.at hk) hm) F H hp
theorem jbi' (hT : P.underlying T = some (.slice 160)) (hE : Sz P 160 6) (hv : SlB v m) (hx : ev e x = some v) (hi : ev e y = some (.int k I)) (hI : I = j) (h1 : j < m) : OH P Γ L e (.indexAddr T x y) (.pointer (some ⟨vblk v, voff v + j * 6, none⟩)) := fun F H _ _ _ => by
  obtain ⟨a, cap, rfl, hg⟩ := hv
  obtain ⟨g, rfl⟩ := hg (by omega)
  subst hI
  have := OpOk.indexA (H := H) hT hE hx hi (by omega) (by omega)
  simpa [vblk, voff] using this
end
theorem ix_w {k : IntKind} {l : List Int} (h : ∀ x ∈ l, k.wrap x = x) (h0 : k.wrap 0 = 0) (i : Nat) : k.wrap (ix l i) = ix l i := by
  by_cases hi : i < l.length
  · exact h _ (ix_mem hi)
  · simp only [ix, List.getD, List.getElem?_eq_none (Nat.le_of_not_lt hi), Option.getD_none]; exact h0
theorem fn_dd {F : PH} {v : Value} {m : D.Func} (hw : IntKind.i64.wrap m.Params = m.Params) (h : AllD F [dv (rL rBlock) v m.Blocks]) : AllD F [da rFunc (vFunc m v) m] := ⟨rFunc.mk h.1 hw, trivial⟩
end Go.Proofs.YtehhjlkmbdhckaaGreat
