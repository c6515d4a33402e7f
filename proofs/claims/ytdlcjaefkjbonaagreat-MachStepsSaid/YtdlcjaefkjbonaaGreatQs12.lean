/- Lemmas that the claim is made of. Conditions: each lemma names its own. -/
import Derived.Test.YtdlcjaefkjbonaaGreatQs11
import Derived.Test.YtdlcjaefkjbonaaGreatQs7
namespace Go.Proofs.YtdlcjaefkjbonaaGreat
set_option linter.unusedVariables false
set_option linter.unusedSimpArgs false
set_option linter.unusedSectionVars false
open Go.JE
def goodM (m : Mk) : Prop := ∀ b ∈ m.bs, goodB b
theorem goodB0 : goodB default := ⟨fun _ h => (List.not_mem_nil h).elim, ⟨.inl (by decide), .inl (by decide)⟩⟩
theorem goodM.ix {m : Mk} (h : goodM m) (j : Nat) : goodB (ix m.bs j) := by
  by_cases hj : j < m.bs.length
  · exact h _ (ix_mem hj)
  · have : JE.ix m.bs j = default := by simp [JE.ix, hj]
    rw [this]; exact goodB0
theorem goodM.set {m : Mk} (h : goodM m) {j : Nat} {x : D.Block} (hx : goodB x) : goodM { m with bs := m.bs.set j x } := fun b hb => by
  rcases List.mem_or_eq_of_mem_set hb with h1 | h1
  · exact h b h1
  · exact h1 ▸ hx
theorem goodI2 {op d t a b n : Int} (h : 0 ≤ op ∧ op ≤ 1000) : goodI ⟨op, d, t, [a, b], n⟩ := ⟨h, .inr (.inr (.inr (by show 2 ≤ 2; omega)))⟩
section
variable {m : Mk} {b : Int}
theorem add_good {i : D.Ins} (h : goodM m) (hi : goodI i) : goodM (addS b i m) := by
  refine goodM.set (m := { m with lv := m.lv ++ makes3 i }) h ⟨fun x hx => ?_, (h.ix _).2⟩
  rcases List.mem_append.1 hx with h1 | h1
  · exact (h.ix b.toNat).1 _ h1
  · rw [List.mem_singleton.1 h1]; exact hi
theorem const_good {n : Int} (h : goodM m) : goodM (constS b n m) := add_good (m := freshS m) h ⟨(by dsimp only; omega), .inl rfl⟩
theorem value_good (h : goodM m) : goodM (valueS m) := by unfold valueS; split <;> exact h
theorem some0_good (h : goodM m) : goodM (someM0 m) := by unfold someM0; split <;> exact value_good h
theorem some_good (h : goodM m) : goodM (someS b m) := by
  unfold someS; split
  · exact const_good (m := wordS (someM0 m)) (some0_good h)
  · exact some0_good h
theorem mem1_good (h : goodM m) : goodM (mem1 b m).2 := by
  unfold mem1; dsimp only; split
  · exact add_good (m := freshS _) (add_good (m := freshS _) (const_good (some_good (m := takeS _) (const_good (m := takeS m) h))) (goodI2 (by decide))) (goodI2 (by decide))
  · exact const_good (m := takeS m) h
theorem mem2_good (h : goodM m) : goodM (mem2 m).2 := by unfold mem2; dsimp only; split <;> exact h
theorem mem_good {s : Bool} (h : goodM m) : goodM (memS b s m) := by
  unfold memS; dsimp only; split
  · exact add_good (some_good (mem2_good (mem1_good h))) (goodI2 (by decide))
  · exact add_good (m := freshS _) (mem2_good (mem1_good h)) ⟨(by dsimp only; omega), .inr (.inr (.inl ⟨rfl, by show 1 ≤ 1; omega⟩))⟩
theorem args_good : ∀ (n : Nat) (l : List Int) (m : Mk), goodM m → goodM (argsL b n l m).2
  | 0, _, _, h => h
  | n + 1, _, _, h => args_good n _ _ (some_good h)
theorem op_rng {k : Int} (h : 0 ≤ k ∧ k < 12) : 0 ≤ ix [(2 : Int), 2, 3, 4, 5, 6, 7, 8, 9, 10, 12, 11] k.toNat ∧ ix [(2 : Int), 2, 3, 4, 5, 6, 7, 8, 9, 10, 12, 11] k.toNat ≤ 1000 := by
  obtain ⟨n, rfl⟩ : ∃ n : Nat, k = n := ⟨k.toNat, by omega⟩
  have : n = 0 ∨ n = 1 ∨ n = 2 ∨ n = 3 ∨ n = 4 ∨ n = 5 ∨ n = 6 ∨ n = 7 ∨ n = 8 ∨ n = 9 ∨ n = 10 ∨ n = 11 := by omega
  rcases this with rfl | rfl | rfl | rfl | rfl | rfl | rfl | rfl | rfl | rfl | rfl | rfl <;> decide
theorem op3_rng {k : Int} (h : 0 ≤ k ∧ k < 3) : 0 ≤ ix [(11 : Int), 12, 13] k.toNat ∧ ix [(11 : Int), 12, 13] k.toNat ≤ 1000 := by
  obtain ⟨n, rfl⟩ : ∃ n : Nat, k = n := ⟨k.toNat, by omega⟩
  have : n = 0 ∨ n = 1 ∨ n = 2 := by omega
  rcases this with rfl | rfl | rfl <;> decide
theorem ins_good (h : goodM m) : goodM (insS b m) := by
  have h20 := takeV_rng (n := 20) (by omega) m
  have h2 : goodM (someS b (takeS m)) := some_good (m := takeS m) h
  have h3 := some_good (b := b) h2
  unfold insS; dsimp only
  split
  · rename_i hk
    split
    · exact add_good (m := freshS _) (const_good (m := takeS (takeS _)) h3) (goodI2 (op_rng ⟨h20.1, hk⟩))
    · exact add_good (m := freshS (takeS _)) h3 (goodI2 (op_rng ⟨h20.1, hk⟩))
  split
  · exact add_good (m := freshS _) h3 (goodI2 (by decide))
  split
  · split
    · exact add_good (m := freshS _) (const_good (m := takeS (takeS _)) (const_good (m := takeS _) h2)) (goodI2 (by decide))
    · exact add_good (m := freshS (takeS _)) (const_good (m := takeS _) h2) (goodI2 (by decide))
  split
  · exact mem_good (m := takeS m) h
  split
  · exact add_good (m := takeS (freshS _)) (args_good _ _ (takeS (takeS m)) h) ⟨(by dsimp only; omega), .inr (.inl rfl)⟩
  split
  · exact add_good (m := freshS (freshS _)) h3 (goodI2 (by decide))
  · exact const_good (m := wordS (takeS m)) h
theorem setT_good {t : D.Term} (h : goodM m) (ht : goodT t) : goodM (setT b t m) := h.set ⟨(h.ix _).1, ht⟩
theorem end_good {l : List Int} (h : goodM m) : goodM (endS b l m) := by
  have hA : ∀ (t : D.Term), t.Kind ≠ 2 → t.Kind ≠ 3 → goodT t := fun t h1 h2 => ⟨.inl h1, .inl h2⟩
  unfold endS; dsimp only
  split
  · split
    · exact setT_good (m := takeS (takeS m)) h (hA _ (by dsimp only; omega) (by dsimp only; omega))
    split
    · exact setT_good (some_good (m := takeS m) h) (hA _ (by dsimp only; omega) (by dsimp only; omega))
    · exact setT_good (m := takeS m) h (hA _ (by dsimp only; omega) (by dsimp only; omega))
  split
  · exact setT_good h (hA _ (by dsimp only; omega) (by dsimp only; omega))
  split
  · rename_i hl
    have hB : ∀ a : Int, goodT ⟨2, [a], l, 0⟩ := fun a => ⟨.inr ⟨by show 1 ≤ 1; omega, by show 2 ≤ l.length; omega⟩, .inl (by dsimp only; omega)⟩
    have h1 : goodM (someS b m) := some_good h
    split
    · exact setT_good (add_good (m := takeS (freshS _)) (some_good (m := takeS _) h1) (goodI2 (op3_rng (takeV_rng (by omega) _)))) (hB _)
    · exact setT_good (m := takeS _) h1 (hB _)
  · exact setT_good (add_good (m := freshS _) (const_good (some_good h)) (goodI2 (by decide))) ⟨.inl (by dsimp only; omega), .inr (by show 1 ≤ 1; omega)⟩
end
def fgM (nb c : Nat) (m : Mk) : Prop := okM nb c m ∧ goodM m
theorem fgM.mono {nb c c' : Nat} {m : Mk} (h : fgM nb c m) (hc : c ≤ c') : fgM nb c' m := ⟨h.1.mono hc, h.2⟩
def kzB (b : D.Block) : Prop := b.Ins = [] ∧ b.Term.Kind = 0
theorem kzB.good {b : D.Block} (h : kzB b) : goodB b := ⟨fun i hi => (by rw [h.1] at hi; cases hi), ⟨.inl (by rw [h.2]; decide), .inl (by rw [h.2]; decide)⟩⟩
theorem fg_toS {nb c : Nat} {to : List (List Int)} : ∀ (k b : Nat) (m : Mk), okM nb c m → (∀ x ∈ m.bs, kzB x) → fgM nb c (toS to k b m)
  | 0, _, _, h, h2 => ⟨h, fun x hx => (h2 x hx).good⟩
  | k + 1, b, m, h, h2 => by
    refine fg_toS k (b + 1) _ (okM.setb (d := 0) h (Nat.le_refl _)) (fun x hx => ?_)
    rcases List.mem_or_eq_of_mem_set hx with h1 | h1
    · exact h2 x h1
    · subst h1
      by_cases hj : b < m.bs.length
      · have h3 := h2 _ (ix_mem hj)
        exact ⟨h3.1, h3.2⟩
      · have : ix m.bs b = default := by simp [ix, hj]
        rw [this]; exact ⟨rfl, rfl⟩
theorem fg_addP {nb c b : Nat} {m : Mk} (h : fgM nb c m) : fgM nb (c + 2) (addP b m) :=
  ⟨okM.setb (d := 1) (fresh_ok h.1) (by dsimp only; rw [List.length_append]; simp only [List.length_cons, List.length_nil]; exact Nat.le_of_eq (by show _ + 1 + _ = _ + _ + 1; omega)), goodM.set (m := freshS m) h.2 ⟨(h.2.ix b).1, (h.2.ix b).2⟩⟩
theorem fg_phiN {nb b : Nat} : ∀ (k : Nat) {c : Nat} {m : Mk}, fgM nb c m → fgM nb (c + 2 * k) (phiN b k m)
  | 0, _, _, h => h
  | k + 1, _, _, h => (fg_phiN k (fg_addP h)).mono (by omega)
theorem fg_take {nb c : Nat} {m : Mk} (h : fgM nb c m) : fgM nb (c + 1) (takeS m) := ⟨take_ok h.1, h.2⟩
theorem fg_phiS {nb : Nat} : ∀ (k b : Nat) (ph : List Int) {c : Nat} {m : Mk}, fgM nb c m → (∀ j, 0 ≤ ix ph j ∧ ix ph j ≤ 3) → fgM nb (c + 7 * k) (phiS k b ph m).2 ∧ ∀ j, 0 ≤ ix (phiS k b ph m).1 j ∧ ix (phiS k b ph m).1 j ≤ 3
  | 0, _, _, _, _, h, h2 => ⟨h, h2⟩
  | k + 1, b, ph, c, m, h, h2 => by
    have h3 := phiR_rng (b := b) (m := m) h2
    have h4 := h3 b
    have h5 := fg_phiN (b := b) (ix (phiR b ph m) b).toNat (fg_take h)
    have h6 := fg_phiS k (b + 1) (phiR b ph m) (h5.mono (c' := c + 7) (by omega)) h3
    exact ⟨h6.1.mono (by omega), h6.2⟩
theorem fg_insN {nb b : Nat} (hb : b < nb) : ∀ (k : Nat) {c : Nat} {m : Mk}, fgM nb c m → fgM nb (c + 60 * k) (insN b k m)
  | 0, _, _, h => h
  | k + 1, _, _, h => (fg_insN hb k ⟨ins3_ok h.1 (by omega), ins_good h.2⟩).mono (by omega)
theorem fg_blk {nb n b c : Nat} {to : List (List Int)} {dn : List Bool} {m : Mk} (h : fgM nb c m) (hn : n ≤ nb) (hb : b < nb) : fgM nb (c + 410) (blkM n to b dn m) := by
  have h7 := takeV_rng (n := 7) (by omega) (lvM n b dn m)
  have hl : fgM nb c (lvM n b dn m) := ⟨okM.setlv h.1 (by
    have h1 := lvF_len (f := fnM m) (dn := dn) (b := b) (a := n) (by show n ≤ m.bs.length; rw [h.1.2.2.2.2.1]; exact hn)
    have h2 := cntT_le m.bs n
    have h3 := h.1.bnd
    have h4 : (fnM m).Params = m.par := rfl
    have h5 : (fnM m).Blocks = m.bs := rfl
    rw [h4, h5] at h1; omega) (Nat.le_refl _), h.2⟩
  have h1 := fg_insN hb (takeV 7 (lvM n b dn m)).toNat (fg_take hl)
  exact ⟨(end_ok (l := ix to b) h1.1 (by omega)).mono (by omega), end_good h1.2⟩
theorem fg_row {nb n : Nat} {to : List (List Int)} (hn : n ≤ nb) : ∀ (k b : Nat) (dn : List Bool) {c : Nat} {m : Mk}, b + k ≤ nb → fgM nb c m → fgM nb (c + 410 * k) (rowS n to k b dn m).2
  | 0, _, _, _, _, _, h => h
  | k + 1, b, dn, c, m, hb, h => by
    unfold rowS; split
    · exact (fg_row hn k (b + 1) _ (by omega) (fg_blk h hn (by omega))).mono (by omega)
    · exact (fg_row hn k (b + 1) _ (by omega) h).mono (by omega)
theorem fg_turn {nb n : Nat} {to : List (List Int)} (hn : n ≤ nb) (h9 : n ≤ 9) : ∀ (k : Nat) (dn : List Bool) {c : Nat} {m : Mk}, fgM nb c m → fgM nb (c + 3690 * k) (turnS n to k dn m).2
  | 0, _, _, _, h => h
  | k + 1, dn, c, m, h => by
    unfold turnS
    exact (fg_turn hn h9 k _ ((fg_row (to := to) hn n 0 dn (by omega) h).mono (c' := c + 3690) (by omega))).mono (by omega)
theorem fg_inX {nb c : Nat} {p : Int} {m : Mk} (h : fgM nb c m) (hp : p.toNat < nb) : fgM nb (c + 6) (inX p m).2 := by
  unfold inX; split
  · exact ⟨take_ok (const_ok (word_ok h.1) hp), const_good (m := wordS m) h.2⟩
  · exact (fg_take h).mono (by omega)
theorem fg_inS {nb : Nat} {p : List Int} (hp : ∀ x ∈ p, 0 ≤ x ∧ x < nb) (h0 : 0 < nb) : ∀ (k i : Nat) (l : List D.In) {c : Nat} {m : Mk}, fgM nb c m → fgM nb (c + 6 * k) (inS p k i l m).2
  | 0, _, _, _, _, h => h
  | k + 1, i, l, c, m, h => by
    unfold inS
    have h1 : (ix p i).toNat < nb := by
      by_cases hi : i < p.length
      · have := hp _ (ix_mem hi); omega
      · have : ix p i = 0 := by simp [ix, hi]
        rw [this]; exact h0
    exact (fg_inS hp h0 k (i + 1) _ (fg_inX h h1)).mono (by omega)
theorem fg_putIn {nb c b i : Nat} {l : List D.In} {m : Mk} (h : fgM nb c m) : fgM nb c (putIn b i l m) := ⟨okM.setb (d := 0) h.1 (by dsimp only; rw [List.length_set]; exact Nat.le_refl _), h.2.set ⟨(h.2.ix b).1, (h.2.ix b).2⟩⟩
theorem fg_inP {nb b : Nat} {p : List Int} (hp : ∀ x ∈ p, 0 ≤ x ∧ x < nb) (h0 : 0 < nb) (h9 : p.length ≤ 9) : ∀ (k i : Nat) {c : Nat} {m : Mk}, fgM nb c m → fgM nb (c + 54 * k) (inP p b k i m)
  | 0, _, _, _, h => h
  | k + 1, i, c, m, h => by
    unfold inP
    exact (fg_inP hp h0 h9 k (i + 1) (fg_putIn ((fg_inS hp h0 p.length 0 [] h).mono (c' := c + 54) (by omega)))).mono (by omega)
theorem fg_fin {nb : Nat} {ph : List Int} (h0 : 0 < nb) (h9 : nb ≤ 9) (hph : ∀ j, 0 ≤ ix ph j ∧ ix ph j ≤ 3) : ∀ (k b : Nat) {c : Nat} {m : Mk}, fgM nb c m → fgM nb (c + 200 * k) (finS ph k b m)
  | 0, _, _, _, h => h
  | k + 1, b, c, m, h => by
    unfold finS
    have hl : (fnM m).Blocks.length = nb := h.1.2.2.2.2.1
    have h1 : ∀ x ∈ preds3 (fnM m) b, 0 ≤ x ∧ x < nb := fun x hx => by have := preds3_rng x hx; rw [hl] at this; exact this
    have h2 := preds3_len (fnM m) b
    rw [hl] at h2
    have h3 := hph b
    exact (fg_fin h0 h9 hph k (b + 1) ((fg_inP h1 h0 (by omega) (b := b) (ix ph b).toNat 0 h).mono (c' := c + 200) (by omega))).mono (by omega)
theorem mdF_fg (s : List Int) : fgM (mdN s).toNat 36000 (mdF s) := by
  have h0 : okM 0 10 (md0 s) := by
    have h5 := takeV_rng (n := 5) (by omega) ⟨s, 0, 0, [], 0, []⟩
    have h1 : okM 0 1 (mdP ⟨s, 0, 0, [], 0, []⟩) := okM.setpar (take_ok (okM0 s)) (by omega) (Nat.le_refl _)
    exact okM.setnx h1 (by show 0 ≤ takeV 5 _ ∧ takeV 5 _ ≤ _; omega) (by omega)
  have h9 := takeV_rng (n := 9) (by omega) (md0 s)
  have hN : 1 ≤ mdN s ∧ mdN s ≤ 9 := by unfold mdN; omega
  have h1 : okM 0 81 (mdT s).2 := targ_ok (take_ok h0) hN.2
  have h2 : okM (mdN s).toNat 90 { (mdT s).2 with bs := List.replicate (mdN s).toNat default } := okM.mono (okM.setbs h1) (by omega)
  have h3 : fgM (mdN s).toNat 90 (mdB s) := fg_toS _ _ _ h2 (fun x hx => by rw [List.eq_of_mem_replicate hx]; exact ⟨rfl, rfl⟩)
  have h4 := fg_phiS ((mdN s).toNat - 1) 1 (List.replicate (mdN s).toNat 0) h3 (fun j => by have := rng_rep (n := (mdN s).toNat) j; omega)
  have h5 : fgM (mdN s).toNat 200 (mdH s).2 := h4.1.mono (by omega)
  have h6 : fgM (mdN s).toNat (200 + 3690 * 9) (mdD s).2 := (fg_turn (Nat.le_refl _) (by omega) (mdN s).toNat _ h5).mono (by omega)
  exact (fg_fin (by omega) (by omega) h4.2 ((mdN s).toNat - 1) 1 h6).mono (by omega)
theorem made3_good (s : List Int) : goodF (made3 s) := (mdF_fg s).2
theorem made3_cnt (s : List Int) : cntT (made3 s).Blocks ≤ 50000 := Nat.le_trans (mdF_fg s).1.2.2.2.2.2 (by omega)
theorem made3_par (s : List Int) : 0 ≤ (made3 s).Params ∧ (made3 s).Params ≤ 4 := (mdF_fg s).1.2.2.1
end Go.Proofs.YtdlcjaefkjbonaaGreat
namespace Go.Proofs.YtdlcjaefkjbonaaGreat
set_option linter.unusedVariables false
set_option linter.unusedSimpArgs false
set_option linter.unusedSectionVars false
open Go.JE
def made7 (s : List Int) : D.MFunc := of7 (made3 s) s.reverse
theorem rev_step {s : List Int} {k : Nat} (h : k < s.length) : (s.drop (s.length - k)).reverse ++ [ix s (s.length - 1 - k)] = (s.drop (s.length - (k + 1))).reverse := by
  have h1 : s.drop (s.length - (k + 1)) = ix s (s.length - 1 - k) :: s.drop (s.length - k) := by
    rw [drop_ix (l := s) (i := s.length - (k + 1)) (by omega)]
    rw [show s.length - (k + 1) = s.length - 1 - k by omega, show s.length - 1 - k + 1 = s.length - k by omega]
  rw [h1, List.reverse_cons]
end Go.Proofs.YtdlcjaefkjbonaaGreat
namespace Go.Proofs.YtdlcjaefkjbonaaGreat
set_option linter.unusedVariables false
set_option linter.unusedSimpArgs false
set_option linter.unusedSectionVars false
open Go.JE
theorem E25 : Ent Tryz.prog 25 := ⟨_, Tryz.func25, by kernel_rfl, by kernel_rfl⟩
theorem E26 : Ent Tryz.prog 26 := ⟨_, Tryz.func26, by kernel_rfl, by kernel_rfl⟩
set_option maxRecDepth 4000 in
theorem r7made_ct {a0 : Value} {s : List Int} : Ts Tryz.prog 8 #[a0] [dv (rL (rI .i64)) a0 s] [] rMFunc vMFunc (made7 s) := by
  refine jenter (args := [a0]) Tryz.func8 rfl rfl rfl fun w0 X => ?_
  refine jq (jr (jalc J28 ζ fun g2 => jn (jx (jq (jr (jlit (r := (rI .i64)) (l := []) U22 I3 (by decide) ζ ζ ζ ln fun g5 => ja ζ (jn (jx (jq ?_)))))))))
  refine jq (jr (jm ζ (jdq d0 fun q1 w1 => js (jln U22 d0 ζ) (js (jsub ζ ζ (by omega)) (ja ζ (jn (jx (jb ?_))))))))
  refine jlp (u3 fun (k : Nat) (vo : Value) (rl : List Int) => ⟨k ≤ s.length ∧ rl = (s.drop (s.length - k)).reverse, [dv (rL (rI .i64)) a0 s], [gl X.n (rI .i64) 3 vo rl, bx g2 28 [.int .i64 0, .slice none 0 0]], [(0, a0), (2, .pointer (some ⟨g2, 0, none⟩)), (3, vo), (4, .int .i64 ((s.length : Int) - 1 - ↑k))], s.length - k⟩) (0, (.slice (some ⟨g5, 0, none⟩) 0 0), []) ⟨Nat.zero_le _, by simp⟩ (dc d0 dn) (kc k0 (kc k0 kn)) ⟨ζ, ζ, ζ, eqI (by omega), trivial⟩ ?_
  rintro ⟨k, vo, rl⟩; dsimp only [u3]; rintro ⟨hk, hrl⟩
  refine cgo k0 fun w2 => ?_
  have hrn : rl.length = k := by rw [hrl]; simp; omega
  refine jq (jq (jr (jm ζ (js (jgeq ζ ζ) (jn (jx ?_))))))
  refine jif ζ (fun hc1 => ?_) (fun hc1 => ?_)
  refine jsk (jx (jq (jb (jr (jm ζ (jm ζ (jm ζ (js (jix (i := (s.length - 1 - k)) U22 Z3 d0 ζ ζ (by omega) (by omega)) (js (jlI (dix d0 (s.length - 1 - k) (by omega)) O3 ζ) (japv U22 I3 (by decide) ζ ζ k0 ζ (wI (wad (dix d0 (s.length - 1 - k) (by omega)))) (by omega) (fun _ => ζ) fun v19 _ w3 => ja ζ ?_))))))))))
  refine jn (jbn (jx (jr (jm ζ (js (jsub ζ ζ (by omega)) (ja ζ (jn ?_)))))))
  exact jag (k + 1, v19, rl ++ [ix s (s.length - 1 - k)]) ⟨by dsimp only; omega, by dsimp only; rw [← rev_step (by omega), hrl]⟩ (dc d0 dn) (kc k0 (kc k0 kn)) ⟨ζ, ζ, ζ, eqI (by omega), trivial⟩
  refine jex (jtx (jtx (jbh (jx (jq (jr (jm ζ (jcs E26 ζ ζ r3made_ct (dc d0 dn) kn fun c21 => jfz k0 (by omega) (jm ζ (jcs E25 ζ ζ (r7of_ct (by first | exact made3_good _ | exact made3_cnt _ | (have h9 := made3_par s; omega) | omega) (by first | exact made3_good _ | exact made3_cnt _ | (have h9 := made3_par s; omega) | omega) (by first | exact made3_good _ | exact made3_cnt _ | (have h9 := made3_par s; omega) | omega)) (dc d1 (dc d0 dn)) kn fun c23 => ?_))))))))))
  refine jdq (rMFunc.c_Blocks d0) fun q7 w7 => jsta k0 Z28 ζ ζ ζ ⟨ζ, w7.one, trivial⟩ (saf ζ) (jn (jx (jrt ?_)))
  exact jrcA (val := vMFunc) (b := of7 (made3 s) rl) (c := c23) ζ ζ k0 A28 Z28 ζ (by unfold made7; rw [hrl, show s.length - k = 0 by omega]; rfl) d0
end Go.Proofs.YtdlcjaefkjbonaaGreat
namespace Go.JE
set_option linter.unusedVariables false
set_option linter.unusedSimpArgs false
set_option linter.unusedSectionVars false
variable {P : Program} {D D0 : List Dt} {L M : List Res} {e : Env} {X : Cx} {n : Fs} {w0 : World} {Q : Exit → Act → World → Prop}
section
variable {ops : Array Oper} {op : Op} {d : Nat} {ty : TypeId} {pos : String} {af : Array Edge} {rest : List Oper} {f : FuncId} {g : Operand} {xs : List Operand} {vs cs : List Value} {ts : Array TypeId}
theorem jgk {j t : Nat} {want : Bool} {u : Value} (hj : (ops[j]?).bind (·.dst) = some t) (hu : lk e t = some u) (hB : Gd u want true) (h : LH P n w0 ops Q X D L e (⟨some d, op, ty, pos, af, none⟩ :: rest)) (ht : Nat.blt t n.sz = true := by rfl) : LH P n w0 ops Q X D L e (⟨some d, op, ty, pos, af, some (j, want)⟩ :: rest) := fun F H hp a w hf hw => by
  have hwt := wanted_gd (o := ⟨some d, op, ty, pos, af, some (j, want)⟩) rfl hj ht hf hu hB
  have h1 := h F H hp a w hf hw
  unfold wpList at h1 ⊢
  rw [if_pos hwt]
  rw [if_pos (by simp [Region.wanted])] at h1
  exact h1
instance : Inhabited Value := ⟨undef⟩
end
section
open Go
theorem results_cell2 {P : Program} {fn : Func} {p q : Tmp} {ty ty' : TypeId} (h : fn.results = #[.cell p ty, .cell q ty']) (tmps : Array Value) (w : World) (g g' : Nat) (t t' : TypeId) (cs cs' : Array Value) (fr fr' : Nat × Nat) (d d' : TypeDesc)
    (hp : tmps.getD p undef = .pointer (some ⟨g, 0, none⟩)) (hg : w.heap[g]? = some (.cells cs t fr)) (hu : P.underlying ty = some d) (hd : (match d with | .struct _ | .array _ _ => true | _ => false) = true) (hi : (P.info? ty).map (·.size) = some cs.size)
    (hp' : tmps.getD q undef = .pointer (some ⟨g', 0, none⟩)) (hg' : w.heap[g']? = some (.cells cs' t' fr')) (hu' : P.underlying ty' = some d') (hd' : (match d' with | .struct _ | .array _ _ => true | _ => false) = true) (hi' : (P.info? ty').map (·.size) = some cs'.size) :
    (results fn tmps).run P w = .ok (.tuple #[.agg cs, .agg cs']) w := by
  have h1 : tmps[p]?.getD undef = .pointer (some ⟨g, 0, none⟩) := by simpa using hp
  have h2 : tmps[q]?.getD undef = .pointer (some ⟨g', 0, none⟩) := by simpa using hp'
  simp [results, h, h1, h2, asAddr, run_loadVar_row w g t ty cs fr d hg hu hd hi, run_loadVar_row w g' t' ty' cs' fr' d' hg' hu' hd' hi']
variable {fn : Func} {m : Nat} {ι : Type} {val : ι → Value} {dr : ι → List Dt} {lr : Nat → ι → List Res}
theorem PF.retC2 {H : Heap} {R : Value → Heap → Prop} {p q g g' : Nat} {ty T ty' T' : TypeId} {l l' : List Value} (hr : fn.results = #[.cell p ty, .cell q ty']) (hv : lk e p = some (.pointer (some ⟨g, 0, none⟩))) (hb : Bx H g T l) (hv' : lk e q = some (.pointer (some ⟨g', 0, none⟩))) (hb' : Bx H g' T' l')
    (hd : ∃ d, P.underlying ty = some d ∧ (match d with | .struct _ | .array _ _ => true | _ => false) = true) (hS : Sz P ty l.length) (hd' : ∃ d, P.underlying ty' = some d ∧ (match d with | .struct _ | .array _ _ => true | _ => false) = true) (hS' : Sz P ty' l'.length) (hR : R (.tuple #[.agg l.toArray, .agg l'.toArray]) H) : PF ⟨m, []⟩ w0 (BQ P fn w0 R) e .ret H := by
  intro a w hf hw
  obtain ⟨d, hd1, hd2⟩ := hd
  obtain ⟨d', hd1', hd2'⟩ := hd'
  refine bodyPost_ret (results_cell2 hr _ w g g' T T' l.toArray l'.toArray (0, 0) (0, 0) d d' (hf.get p _ hv) (by rw [hw.heap]; exact hb) hd1 (by cases d <;> first | rfl | cases hd2) (by unfold Sz at hS; simpa using hS) (hf.get q _ hv') (by rw [hw.heap]; exact hb') hd1' (by cases d' <;> first | rfl | cases hd2') (by unfold Sz at hS'; simpa using hS')) hf.defers ⟨_, rfl, hw.os, hw.tape, hw.output, hw.heap ▸ hR⟩
theorem jrc2 {p g q g' : Nat} {ty T ty' T' : TypeId} {cs cs' : List Value} {N N' : List Res} (hr : fn.results = #[.cell p ty, .cell q ty']) (hv : lk e p = some (.pointer (some ⟨g, 0, none⟩))) (hv' : lk e q = some (.pointer (some ⟨g', 0, none⟩))) (hb : Tk L (bx g T cs) N) (hb' : Tk L (bx g' T' cs') N') (hA : ∃ d, P.underlying ty = some d ∧ (match d with | .struct _ | .array _ _ => true | _ => false) = true) (hS : Sz P ty cs.length) (hA' : ∃ d, P.underlying ty' = some d ∧ (match d with | .struct _ | .array _ _ => true | _ => false) = true) (hS' : Sz P ty' cs'.length)
    (i : ι) (hm : .tuple #[.agg cs.toArray, .agg cs'.toArray] = val i) (hd : Sd D L (dr i)) (hk : ∀ B, B ≤ X.n → Tks L (lr B i) M) : QH ⟨m, []⟩ w0 (RQ2 P fn w0 X val dr lr) X D L e .ret := fun F H hp => PF.retC2 hr hv (hp.at hb).1 hv' (hp.at hb').1 hA hS hA' hS' ⟨i, F, hm, fun B hB => hp.sub hd (hk B hB)⟩
end
end Go.JE
namespace Go.Proofs.YtdlcjaefkjbonaaGreat
set_option linter.unusedVariables false
set_option linter.unusedSimpArgs false
set_option linter.unusedSectionVars false
open Go.JE
theorem E14 : Ent Tryz.prog 14 := ⟨_, Tryz.func14, by kernel_rfl, by kernel_rfl⟩
theorem E23 : Ent Tryz.prog 23 := ⟨_, Tryz.func23, by kernel_rfl, by kernel_rfl⟩
def oneM (p : Int) (e : D.End) (l : List D.Mach) : D.MFunc := ⟨p, [⟨[], l, e⟩]⟩
theorem one_ct (p : Int) {a1 : Value} {e : D.End} {a2 : Value} {l : List D.Mach} (ww0 : IntKind.i64.wrap p = p) : Ts Tryz.prog 23 #[.int .i64 p, vEnd e a1, a2] [da rEnd (vEnd e a1) e, dv (rL rMach) a2 l] [] rMFunc vMFunc (oneM p e l) := by
  refine jenter (args := [.int .i64 p, vEnd e a1, a2]) Tryz.func23 rfl rfl rfl fun w0 X => ?_
  refine jq (jr (jbox ζ ζ fun g4 => jalc J28 ζ fun g6 => jn (jx (jq (jr (jm ζ (jm ζ (js (jla k1 A59 Z59 ζ ζ ζ) (jdq d1 fun q1 w1 => ?_)))))))))
  refine jdq (rEnd.c_To d0) fun q2 w2 => js (jbu (v := .agg #[.slice none 0 0, a2, .int .i64 e.Op, .int .i64 e.A, .int .i64 e.B, a1, .int .i32 e.Imm]) ζ (fun _ => by obtain ⟨_, _, _, rfl⟩ := w1; obtain ⟨_, _, _, rfl⟩ := w2; kernel_rfl)) (jlit (r := rMBlock) (l := [⟨[], l, e⟩]) U26 I71 (by decide) ζ ζ ζ (lA (rMBlock.M (m := ⟨[], l, e⟩) (c := (.slice none 0 0, a2, a1)) wN d1 (rEnd.c_To d0) (rEnd.W_Op d0) (rEnd.W_A d0) (rEnd.W_B d0) (rEnd.W_Imm d0)) ln) fun g11 => js (jbu (v := .agg #[.int .i64 p, (.slice (some ⟨g11, 0, none⟩) 1 1)]) ζ (fun _ => by kernel_rfl)) (jsta k1 Z28 ζ ζ ζ ⟨ζ, ζ, trivial⟩ (saf ζ) (jn (jx (jrt (qfz k1 (by (try simp) <;> omega) ?_))))))
  exact jrcA (val := vMFunc) (b := ⟨p, [⟨[], l, e⟩]⟩) (c := (.slice (some ⟨g11, 0, none⟩) 1 1)) ζ ζ k0 A28 Z28 ζ (by rfl) (rMFunc.M (m := ⟨p, [⟨[], l, e⟩]⟩) (c := (.slice (some ⟨g11, 0, none⟩) 1 1)) d0 (wp ww0))
def shF : D.MFunc := oneM 1 ⟨7, 1, 0, [], 0⟩ [⟨18, 1, 0, 0, 0, 0, (-3), []⟩]
theorem sh_right : rightM shF = true := by decide
theorem sh_start : startR shF ⟨[5], [], [], 9⟩ = 5 :: List.replicate 8191 0 := by
  unfold startR
  show List.take 1 [5] ++ List.drop 1 (List.replicate 8192 0) = _
  rw [List.drop_replicate]; rfl
theorem sh_get : getM (5 :: List.replicate 8191 0) 0 = 5 := by
  unfold getM; rw [if_neg (by simp only [List.length_cons, List.length_replicate]; omega)]; rfl
theorem sh_set : setM (5 :: List.replicate 8191 0) 1 2 = 5 :: 2 :: List.replicate 8190 0 := by
  unfold setM; rw [if_pos (by simp only [List.length_cons, List.length_replicate]; omega)]
  show 5 :: List.set (List.replicate 8191 0) 0 2 = _
  rw [show (8191 : Nat) = 8190 + 1 from rfl, List.replicate_succ]; rfl
theorem sh_get1 : getM (5 :: 2 :: List.replicate 8190 0) 1 = 2 := by
  unfold getM; rw [if_neg (by simp only [List.length_cons, List.length_replicate]; omega)]; rfl
theorem sh_run : runM shF ⟨[5], [], [], 9⟩ = ⟨1, 2, [], [], 2⟩ := by
  rw [run_right sh_right, sh_start, blockRun_pos (by decide), show memM ⟨[5], [], [], 9⟩ = [] from rfl]
  have e1 : phisM (ix shF.Blocks (Int.toNat 0)).Phis (-1) (5 :: List.replicate 8191 0) = 5 :: List.replicate 8191 0 := rfl
  have e2 : (ix shF.Blocks (Int.toNat 0)).Ins = [⟨18, 1, 0, 0, 0, 0, (-3), []⟩] := rfl
  have e3 : (ix shF.Blocks (Int.toNat 0)).End = ⟨7, 1, 0, [], 0⟩ := rfl
  have e4 : stepM ⟨18, 1, 0, 0, 0, 0, (-3), []⟩ (5 :: List.replicate 8191 0) [] = ((0, true), 5 :: 2 :: List.replicate 8190 0, []) := by
    have : stepM ⟨18, 1, 0, 0, 0, 0, (-3), []⟩ (5 :: List.replicate 8191 0) [] = ((0, true), setM (5 :: List.replicate 8191 0) 1 (doM 2 (getM (5 :: List.replicate 8191 0) 0) (-3)).1, []) := rfl
    rw [this, sh_get, show (doM 2 5 (-3)).1 = 2 by decide, sh_set]
  rw [e1, e2, e3, insRun, if_neg (by decide), if_neg (by decide), e4, if_neg (by decide), insRun, endRun, if_neg (by decide), if_pos (by rfl), sh_get1]
  rfl
theorem sh_law : ((((decide ((runM shF ⟨[5], [], [], 9⟩).End = 1)) && (decide ((runM shF ⟨[5], [], [], 9⟩).Val = 2))) && (decide ((runM shF ⟨[5], [], [], 9⟩).Steps = 2))) && (decide ((funcM (oneM 1 ⟨7, 1, 0, [], 0⟩ [⟨18, 1, 0, 0, 0, 0, 128, []⟩])).1 = 32))) = true := by
  rw [sh_run, show (funcM (oneM 1 ⟨7, 1, 0, [], 0⟩ [⟨18, 1, 0, 0, 0, 0, 128, []⟩])).1 = 32 by decide]; rfl
attribute [local irreducible] runM funcM oneM
theorem shown_ct  : Tv Tryz.prog 7 #[] [] [] (.bool true) := by
  refine jenter (args := []) Tryz.func7 rfl rfl rfl fun w0 X => ?_
  refine jq (jr (ja ζ (jn (jx (jq (jr (js (jbu (v := .agg #[.int .i64 7, .int .i64 1, .int .i64 0, .slice none 0 0, .int .i32 0]) ζ (fun _ => by kernel_rfl)) (js (jbu (v := .agg #[.int .i64 18, .int .i64 1, .int .i64 0, .int .i64 0, .int .i64 0, .int .i64 0, .int .i32 ((-3)), .slice none 0 0]) ζ (fun _ => by kernel_rfl)) (jlit (r := rMach) (l := [⟨18, 1, 0, 0, 0, 0, (-3), []⟩]) U69 I46 (by decide) ζ ζ ζ (lA (rMach.M (m := ⟨18, 1, 0, 0, 0, 0, (-3), []⟩) (c := (.slice none 0 0)) wN (wl 18) (wl 1) (wl 0) (wl 0) (wl 0) (wl 0) (wl (-3))) ln) fun g7 => jfz k0 (by (try simp) <;> omega) (jdq d0 fun q2 w2 => ?_))))))))))
  refine jcs E23 ζ ζ (one_ct (e := ⟨7, 1, 0, [], 0⟩) 1 (by decide)) (dc (rEnd.M (m := ⟨7, 1, 0, [], 0⟩) (c := (.slice none 0 0)) wN (wl 7) (wl 1) (wl 0) (wl 0)) (dc d0 dn)) kn fun c8 => jlit (r := (rI .i32)) (l := [5]) U34 I21 (by decide) ζ ζ ζ (lV ζ ζ (wI (wl 5)) ln) fun g9 => js (jbu (v := .agg #[(.slice (some ⟨g9, 0, none⟩) 1 1), .slice none 0 0, .slice none 0 0, .int .i64 9]) ζ (fun _ => by kernel_rfl)) (jfz k0 (by (try simp) <;> omega) (jcs2 E14 ζ ζ (pRun_ct (i := ⟨[5], [], [], 9⟩) (by decide)) (dc d1 (dc (rInput.M (m := ⟨[5], [], [], 9⟩) (c := ((.slice (some ⟨g9, 0, none⟩) 1 1), .slice none 0 0, .slice none 0 0)) d0 wN wN (wl 9)) dn)) kn fun c11a c11b => jalc J42 ζ fun g1 => jdq (rOutcome.c_Mem d0) fun q6 w6 => jdq (rOutcome.c_Calls d0) fun q7 w7 => jsta k0 Z42 ζ ζ ζ ⟨ζ, ζ, w6.one, w7.one, ζ, trivial⟩ (saf ζ) (jn (jx (jq ?_)))))
  refine jr (js (jbu (v := .agg #[.int .i64 7, .int .i64 1, .int .i64 0, .slice none 0 0, .int .i32 0]) ζ (fun _ => by kernel_rfl)) (js (jbu (v := .agg #[.int .i64 18, .int .i64 1, .int .i64 0, .int .i64 0, .int .i64 0, .int .i64 0, .int .i32 128, .slice none 0 0]) ζ (fun _ => by kernel_rfl)) (jlit (r := rMach) (l := [⟨18, 1, 0, 0, 0, 0, 128, []⟩]) U69 I46 (by decide) ζ ζ ζ (lA (rMach.M (m := ⟨18, 1, 0, 0, 0, 0, 128, []⟩) (c := (.slice none 0 0)) wN (wl 18) (wl 1) (wl 0) (wl 0) (wl 0) (wl 0) (wl 128)) ln) fun g15 => jfz k0 (by (try simp) <;> omega) (jdq d0 fun q9 w9 => jcs E23 ζ ζ (one_ct (e := ⟨7, 1, 0, [], 0⟩) 1 (by decide)) (dc (rEnd.M (m := ⟨7, 1, 0, [], 0⟩) (c := (.slice none 0 0)) wN (wl 7) (wl 1) (wl 0) (wl 0)) (dc d0 dn)) kn fun c16 => jcv E24 ζ ζ pFunc_ct (dc d0 dn) kn (jm ζ (js (jex' ζ ζ) (js (jex' ζ ζ) (js (jex' ζ ζ) ?_))))))))
  refine ja ζ (ja ζ (ja ζ (jn (jx (jq (jr (js (jf F42_0 ζ) (js (jl k0 O3 ζ ζ) (js (jeql ζ ζ) (jm ζ (jg ζ ζ (.t _) (fun hg => jf F42_1 ζ) ?_)))))))))))
  refine jg ζ ζ (.t _) (fun hg => jl k0 O21 (evg ζ hg) ζ) (jg ζ ζ (.t _) (fun hg => jeql (evg ζ hg) ζ) (js (jand ζ ζ) (jm ζ (jg ζ ζ (.t _) (fun hg => jf F42_4 ζ) (jg ζ ζ (.t _) (fun hg => jl k0 O3 (evg ζ hg) ζ) (jg ζ ζ (.t _) (fun hg => jeql (evg ζ hg) ζ) (js (jand ζ ζ) (jm ζ (jg ζ ζ (.t _) (fun hg => jmv ζ) (jg ζ ζ (.t _) (fun hg => jeql (evg ζ hg) ζ) (js (jand ζ ζ) ?_)))))))))))
  refine ja ζ (jn (jx (jrt ?_)))
  exact jrB ζ ζ (sh_law.symm)
end Go.Proofs.YtdlcjaefkjbonaaGreat
namespace Go.Proofs.YtdlcjaefkjbonaaGreat
set_option linter.unusedVariables false
set_option linter.unusedSimpArgs false
set_option linter.unusedSectionVars false
open Go.JE
theorem E28 : Ent Tryz.prog 28 := ⟨_, Tryz.func28, by kernel_rfl, by kernel_rfl⟩
theorem E8 : Ent Tryz.prog 8 := ⟨_, Tryz.func8, by kernel_rfl, by kernel_rfl⟩
def lawMade (l by' : List Int) (q : Int) : D.MFunc × D.Input := (made7 (l.take 200), { input3 (by'.take 60) with Steps := min (max q (-1)) 500 })
theorem lawMade_ct {a0 : Value} {l : List Int} {N0 : Nat} {a1 : Value} {b : List Int} {N1 : Nat} (q : Int) : Tr Tryz.prog 12 #[a0, a1, .int .i64 q] [dv (rLn N0 (rI .i64)) a0 l, dv (rLn N1 (rI .i64)) a1 b] [] (fun c : Value × (Value × Value × Value) => .tuple #[vMFunc ((lawMade l b q).1) c.1, vInput ((lawMade l b q).2) c.2]) (fun c => [da rMFunc (vMFunc ((lawMade l b q).1) c.1) ((lawMade l b q).1), da rInput (vInput ((lawMade l b q).2) c.2) ((lawMade l b q).2)]) (fun _ _ => []) := by
  refine jenter (args := [a0, a1, .int .i64 q]) Tryz.func12 rfl rfl rfl fun w0 X => ?_
  refine jq (jr (jalc J28 ζ fun g6 => jalc J36 ζ fun g7 => jn (jx (jq (jr (jm ζ (jm ζ (jdq d0 fun q1 w1 => js (jln U22 d0 ζ) ?_))))))))
  refine js (jmin ζ ζ) (js (jshi (hi := (Int.toNat (min (↑(List.length l)) 200))) U22 Z3 d0 ζ ζ (by omega) (by omega)) (jdq (dhi d0 (Int.toNat (min (↑(List.length l)) 200)) (by omega) (by omega)) fun q2 w2 => jcs E8 ζ ζ r7made_ct (dc (dhi d0 (Int.toNat (min (↑(List.length l)) 200)) (by omega) (by omega)) dn) kn fun c15 => jalc J28 ζ fun g8 => jdq (rMFunc.c_Blocks d0) fun q4 w4 => jsta k0 Z28 ζ ζ ζ ⟨ζ, w4.one, trivial⟩ (saf ζ) (jn (jx (jq (jr (jm ζ ?_)))))))
  refine jm ζ (jdq d2 fun q5 w5 => js (jln U22 d2 ζ) (js (jmin ζ ζ) (js (jshi (hi := (Int.toNat (min (↑(List.length b)) 60))) U22 Z3 d2 ζ ζ (by omega) (by omega)) (jdq (dhi d2 (Int.toNat (min (↑(List.length b)) 60)) (by omega) (by omega)) fun q6 w6 => jcs3 E28 ζ ζ r3input_ct (dc (dhi d2 (Int.toNat (min (↑(List.length b)) 60)) (by omega) (by omega)) dn) kn fun c21a c21b c21c => jalc J36 ζ fun g9 => jdq (rInput.c_Args d0) fun q8 w8 => jdq (rInput.c_Mem d0) fun q9 w9 => jdq (rInput.c_Answers d0) fun q10 w10 => jsta k0 Z36 ζ ζ ζ ⟨w8.one, w9.one, w10.one, ζ, trivial⟩ (saf ζ) ?_))))
  refine jn (jx (jq (jr (jm ζ (js (jmax ζ ζ) (js (jmin ζ ζ) (js (jf F36_3 ζ) (jst k0 Z3 ζ ζ ζ s3 (jn (jx (jq ?_)))))))))))
  refine jany true (.a 0 (.a 1 (.o 2 (.o 3 .e)))) Mixed (by kernel_rfl) (kc k0 (kc k0 kn)) fun F11 => jy ζ (jla k1 A28 Z28 ζ ζ ζ) (jy ζ (jla k0 A36 Z36 ζ ζ ζ) (jyo ζ (jsta k3 Z28 ζ ζ ζ ⟨ζ, w4.one, trivial⟩ (saf ζ) (jyn d0 (kc k1 (kc k1 kn)) (jyo ζ (jsta k3 Z36 ζ ζ ζ ⟨w8.one, w9.one, w10.one, ζ, trivial⟩ (saf ζ) (jyz d0 (jyd (jx (jrt ?_))))))))))
  have hm : lawMade l b q = (made7 (List.take (Int.toNat (min (((List.length l : Nat) : Int)) 200)) l), ⟨(input3 (List.take (Int.toNat (min (((List.length b : Nat) : Int)) 60)) b)).Args, (input3 (List.take (Int.toNat (min (((List.length b : Nat) : Int)) 60)) b)).Mem, (input3 (List.take (Int.toNat (min (((List.length b : Nat) : Int)) 60)) b)).Answers, min (max q (-1)) 500⟩) := (by rw [← take_min l 200 200 rfl, ← take_min b 60 60 rfl]; rfl)
  exact jrc2 ζ ζ ζ k1 k0 A28 Z28 A36 Z36 (c15, (c21a, c21b, c21c)) (by rw [hm]; rfl) (by rw [hm]; exact (dc d3 (dc (rInput.M (m := ⟨(input3 (List.take (Int.toNat (min (↑(List.length b)) 60)) b)).Args, (input3 (List.take (Int.toNat (min (↑(List.length b)) 60)) b)).Mem, (input3 (List.take (Int.toNat (min (↑(List.length b)) 60)) b)).Answers, min (max q (-1)) 500⟩) (c := (c21a, c21b, c21c)) (rInput.c_Args (m := input3 (List.take (Int.toNat (min (↑(List.length b)) 60)) b)) (c := (c21a, c21b, c21c)) d2) (rInput.c_Mem (m := input3 (List.take (Int.toNat (min (↑(List.length b)) 60)) b)) (c := (c21a, c21b, c21c)) d2) (rInput.c_Answers (m := input3 (List.take (Int.toNat (min (↑(List.length b)) 60)) b)) (c := (c21a, c21b, c21c)) d2) (wp (IntWalk.i64_in (min (max q (-1)) 500) (by omega)))) dn))) (fun _ _ => kn)
end Go.Proofs.YtdlcjaefkjbonaaGreat
namespace Go.JE
open Go
set_option linter.unusedVariables false
set_option linter.unusedSimpArgs false
set_option linter.unusedSectionVars false
variable {P : Program} {D D0 : List Dt} {L M : List Res} {e : Env} {X : Cx} {n : Fs} {w0 : World} {Q : Exit → Act → World → Prop}
section
variable {α : Type} {r : Rp α} {F : PH} {H : Heap} {x y : Operand} {T E : TypeId} {z : Value} {bytes B : Nat} {w2 : Value} {l m : List α} {N N2 : Nat} {ad : Addr}
end
section
variable {α : Type} {r : Rp α} {ops : Array Oper} {d : Nat} {ty : TypeId} {pos : String} {af : Array Edge} {rest : List Oper} {x y hx' mx' : Operand} {T E : TypeId} {z v w2 : Value} {bytes : Nat} {l m : List α} {k k' : IntKind} {I J : Int} {hi N : Nat}
end
section
variable {α : Type} {r : Rp α} {ops : Array Oper} {d : Nat} {ty : TypeId} {pos : String} {af : Array Edge} {rest : List Oper} {x y : Operand} {T E : TypeId} {z v w2 : Value} {bytes : Nat} {l m : List α} {N : Nat}
end
section
variable {α : Type} {r : Rp α} {x hx' mx' : Operand} {T E : TypeId} {v : Value} {l : List α} {k k' : IntKind} {I J : Int} {hi N : Nat}
end
end Go.JE
namespace Go.Proofs.YtdlcjaefkjbonaaGreat
set_option linter.unusedVariables false
set_option linter.unusedSimpArgs false
set_option linter.unusedSectionVars false
open Go.JE
theorem E43 : Ent Tryz.prog 43 := ⟨_, Tryz.func43, by kernel_rfl, by kernel_rfl⟩
theorem E44 : Ent Tryz.prog 44 := ⟨_, Tryz.func44, by kernel_rfl, by kernel_rfl⟩
theorem E45 : Ent Tryz.prog 45 := ⟨_, Tryz.func45, by kernel_rfl, by kernel_rfl⟩
def evB (x y : D.Event) : Bool := decide (x.Callee = y.Callee) && rowsM x.Args y.Args
def evsB (a b : List D.Event) : Bool := decide (a = b)
theorem evB_yes {x y : D.Event} (h : evB x y = true) : x = y := by
  unfold evB rowsM at h
  cases x; cases y; simp_all
theorem evB_self (x : D.Event) : evB x x = true := by simp [evB, rowsM]
theorem evsB_len {a b : List D.Event} (h : ¬ a.length = b.length) : evsB a b = false := by simp only [evsB, decide_eq_false_iff_not]; rintro rfl; exact h rfl
theorem evsB_at {a b : List D.Event} {k : Nat} (h1 : k < a.length) (h2 : a.length = b.length) (h : evB (ix a k) (ix b k) = false) : evsB a b = false := by
  simp only [evsB, decide_eq_false_iff_not]; rintro rfl; rw [evB_self] at h; cases h
theorem evsB_yes {a b : List D.Event} {k : Nat} (h1 : a.length ≤ k) (h2 : a.length = b.length) (h : a.take k = b.take k) : evsB a b = true := by
  rw [List.take_of_length_le h1, List.take_of_length_le (by omega)] at h
  simp only [evsB, h, decide_true]
theorem sameO_b (a b : D.Outcome) : sameO a b = (((decide (a.End = b.End) && decide (a.Val = b.Val)) && rowsM a.Mem b.Mem) && evsB a.Calls b.Calls) := by
  unfold sameO rowsM evsB
  simp [Bool.decide_and, Bool.and_assoc]
theorem seq_ct {a0 : Value} {a : List Int} {a1 : Value} {b : List Int} : Tv Tryz.prog 43 #[a0, a1] [dv (rL (rI .i32)) a0 a, dv (rL (rI .i32)) a1 b] [] (.bool (rowsM a b)) := by
  refine jenter (args := [a0, a1]) Tryz.func43 rfl rfl rfl fun w0 X => ?_
  refine jq (jr (ja ζ (jn (jx (jq (jq (jr (jm ζ (jdq d0 fun q1 w1 => js (jln U34 d0 ζ) (jm ζ ?_))))))))))
  refine jdq d1 fun q2 w2 => js (jln U34 d1 ζ) (js (jneq ζ ζ) (jn (jx ?_)))
  refine jif ζ (fun hc1 => ?_) (fun hc1 => ?_)
  refine jq (jr (ja ζ (jn (jx (jrt (jtr ?_))))))
  exact jrB ζ ζ (rowsM_len (by omega))
  refine jsk (jx (jq (jq (jr (jm ζ (js (jln U34 d0 ζ) (jm ζ (jn (jx (jb ?_))))))))))
  refine jlp (fun (k : Nat) => ⟨k ≤ a.length ∧ a.take k = b.take k, [dv (rL (rI .i32)) a0 a, dv (rL (rI .i32)) a1 b], [], [(0, a0), (1, a1), (12, .int .i64 (↑(List.length a))), (13, .int .i64 (↑k))], a.length - k⟩) 0 ⟨by omega, rfl⟩ (dc d0 (dc d1 dn)) kn ⟨ζ, ζ, ζ, eqI (by omega), trivial⟩ ?_
  rintro k; dsimp only; rintro ⟨hk, hR⟩
  refine jq (jr (js (jlss ζ ζ) (jn (jx (jq ?_)))))
  refine jif ζ (fun hc2 => ?_) (fun hc2 => ?_)
  refine jsk (jx (jq (jb (jq (jr (jm ζ (ja ζ (jn (jx (jq (jstl Mixed (by kernel_rfl) ?_)))))))))))
  refine jt (jmv ζ) (jt (jmv ζ) (jt (jix U34 Z21 d0 ζ ζ ζ (by omega)) (jt (jlI (dix d0 k (by omega)) O21 ζ) (jt (jmv ζ) (jt (jmv ζ) (jt (jix U34 Z21 d1 ζ ζ ζ (by omega)) (jt (jlI (dix d1 k (by omega)) O21 ζ) (jt (jneq ζ ζ) (jdn (jx ?_))))))))))
  refine jif ζ (fun hc3 => ?_) (fun hc3 => ?_)
  refine jq (jr (ja ζ (jn (jx (jrt (jbr (jtr (jtr (jbr (jtr ?_))))))))))
  exact jrB ζ ζ (rowsM_at (k := k) (by omega) (by omega) hc3)
  refine jsk (jbn (jx (jr (js (jadd ζ ζ (by omega)) (jm ζ (jn ?_))))))
  exact jag (k + 1) ⟨by omega, by rw [take_ix (by omega), take_ix (by omega), hR, hc3]⟩ (dc d0 (dc d1 dn)) kn ⟨ζ, ζ, ζ, eqI (by omega), trivial⟩
  refine jex (jtx (jtx (jbh (jx (jq (jr (ja ζ (jn (jx (jrt ?_))))))))))
  exact jrB ζ ζ (rowsM_yes (k := k) (by omega) (by omega) hR)
theorem same1_ct {a0 : Value} {x : D.Event} {a1 : Value} {y : D.Event} : Tv Tryz.prog 45 #[vEvent x a0, vEvent y a1] [da rEvent (vEvent x a0) x, da rEvent (vEvent y a1) y] [] (.bool (evB x y)) := by
  refine jenter (args := [vEvent x a0, vEvent y a1]) Tryz.func45 rfl rfl rfl fun w0 X => ?_
  refine jq (jr (jbox ζ ζ fun g2 => jbox ζ ζ fun g3 => ja ζ (jn (jx (jq (jr (js (jf F85_0 ζ) (js (jl k1 O21 ζ ζ) (js (jf F85_0 ζ) ?_)))))))))
  refine js (jl k0 O21 ζ ζ) (js (jeql ζ ζ) (jm ζ (jg ζ ζ (.t _) (fun hg => jf F85_1 ζ) (jg ζ ζ (.t _) (fun hg => jl k1 O34 (evg ζ hg) ζ) (jg ζ ζ (.t _) (fun hg => jf F85_1 ζ) (jg ζ ζ (.t _) (fun hg => jl k0 O34 (evg ζ hg) ζ) (jdq (rEvent.c_Args d0) fun q1 w1 => jdq (rEvent.c_Args d1) fun q2 w2 => jgc ζ ζ (.t _) E43 ζ (fun hg => evl2 (evg ζ hg) (evg ζ hg)) (fun hg => seq_ct) (fun hg => (dc (rEvent.c_Args d0) (dc (rEvent.c_Args d1) dn))) kn p0 (js (jand ζ ζ) (ja ζ ?_)))))))))
  refine jn (jx (jrt ?_))
  exact jrB ζ ζ (by rfl)
theorem evs_ct {a0 : Value} {a : List D.Event} {a1 : Value} {b : List D.Event} : Tv Tryz.prog 44 #[a0, a1, .func (.func 45) #[] #[]] [dv (rL rEvent) a0 a, dv (rL rEvent) a1 b] [] (.bool (evsB a b )) := by
  refine jenter (args := [a0, a1, .func (.func 45) #[] #[]]) Tryz.func44 rfl rfl rfl fun w0 X => ?_
  refine jq (jr (ja ζ (jn (jx (jq (jq (jr (jm ζ (jdq d0 fun q1 w1 => js (jln U40 d0 ζ) (jm ζ ?_))))))))))
  refine jdq d1 fun q2 w2 => js (jln U40 d1 ζ) (js (jneq ζ ζ) (jn (jx ?_)))
  refine jif ζ (fun hc1 => ?_) (fun hc1 => ?_)
  refine jq (jr (ja ζ (jn (jx (jrt (jtr ?_))))))
  exact jrB ζ ζ (evsB_len (by omega))
  refine jsk (jx (jq (jq (jr (jm ζ (js (jln U40 d0 ζ) (jm ζ (jn (jx (jb ?_))))))))))
  refine jlp (fun (k : Nat) => ⟨k ≤ a.length ∧ a.take k = b.take k, [dv (rL rEvent) a0 a, dv (rL rEvent) a1 b], [], [(1, a1), (2, .func (.func 45) #[] #[]), (15, a0), (16, .int .i64 (↑(List.length a))), (17, .int .i64 (↑k))], a.length - k⟩) 0 ⟨by omega, rfl⟩ (dc d0 (dc d1 dn)) kn ⟨ζ, ζ, ζ, ζ, eqI (by omega), trivial⟩ ?_
  rintro k; dsimp only; rintro ⟨hk, hR⟩
  refine jq (jr (js (jlss ζ ζ) (jn (jx (jq ?_)))))
  refine jif ζ (fun hc2 => ?_) (fun hc2 => ?_)
  refine jsk (jx (jq (jb (jq (jr (jm ζ (js (jix U40 Z85 d0 ζ ζ ζ (by omega)) (jA sEvent (jlA (dix d0 k (by omega)) A85 Z85 ζ) fun c21 => jalc J85 ζ fun g8 => ja ζ (jdq (rEvent.c_Args d0) fun q4 w4 => ?_)))))))))
  refine jsta k0 Z85 ζ ζ ζ ⟨ζ, w4.one, trivial⟩ (saf ζ) (jn (jx (jq (jr (jm ζ (jm ζ (js (jix U40 Z85 d2 ζ ζ ζ (by omega)) (jA sEvent (jlA (dix d2 k (by omega)) A85 Z85 ζ) fun c25 => jalc J85 ζ fun g9 => jdq (rEvent.c_Args d0) fun q6 w6 => jsta k0 Z85 ζ ζ ζ ⟨ζ, w6.one, trivial⟩ (saf ζ) ?_))))))))
  refine jn (jx (jq (jr (jm ζ (js (jla k1 A85 Z85 ζ ζ ζ) (js (jla k0 A85 Z85 ζ ζ ζ) (jcv E45 ζ ζ same1_ct (dc d1 (dc d0 dn)) kn (js (jnot ζ) (jn (jx ?_))))))))))
  refine jif ζ (fun hc3 => ?_) (fun hc3 => ?_)
  refine jq (jr (ja ζ (jn (jx (jrt (jbr (jtr (jtr (jbr (jtr ?_))))))))))
  exact jrB ζ ζ (evsB_at (k := k) (by omega) (by omega) hc3)
  refine jsk (jbn (jx (jr (js (jadd ζ ζ (by omega)) (jm ζ (jn ?_))))))
  exact jag (k + 1) ⟨by omega, by rw [take_ix (by omega), take_ix (by omega), hR, evB_yes hc3]⟩ (dc d2 (dc d3 dn)) kn ⟨ζ, ζ, ζ, ζ, eqI (by omega), trivial⟩
  refine jex (jtx (jtx (jbh (jx (jq (jr (ja ζ (jn (jx (jrt ?_))))))))))
  exact jrB ζ ζ (evsB_yes (k := k) (by omega) (by omega) hR)
theorem iSame_ct {a0a a0b : Value} {a : D.Outcome} {a1a a1b : Value} {b : D.Outcome} : Tv Tryz.prog 22 #[vOutcome a (a0a, a0b), vOutcome b (a1a, a1b)] [da rOutcome (vOutcome a (a0a, a0b)) a, da rOutcome (vOutcome b (a1a, a1b)) b] [] (.bool (sameO a b)) := by
  refine jenter (args := [vOutcome a (a0a, a0b), vOutcome b (a1a, a1b)]) Tryz.func22 rfl rfl rfl fun w0 X => ?_
  refine jq (jr (jbox ζ ζ fun g2 => jbox ζ ζ fun g3 => ja ζ (jn (jx (jq (jr (js (jf F42_0 ζ) (js (jl k1 O3 ζ ζ) (js (jf F42_0 ζ) ?_)))))))))
  refine js (jl k0 O3 ζ ζ) (js (jeql ζ ζ) (jm ζ (jg ζ ζ (.t _) (fun hg => jf F42_1 ζ) (jg ζ ζ (.t _) (fun hg => jl k1 O21 (evg ζ hg) ζ) (jg ζ ζ (.t _) (fun hg => jf F42_1 ζ) (jg ζ ζ (.t _) (fun hg => jl k0 O21 (evg ζ hg) ζ) (jg ζ ζ (.t _) (fun hg => jeql (evg ζ hg) (evg ζ hg)) (js (jand ζ ζ) (jm ζ (jg ζ ζ (.t _) (fun hg => jf F42_2 ζ) (jg ζ ζ (.t _) (fun hg => jl k1 O34 (evg ζ hg) ζ) ?_)))))))))))
  refine jg ζ ζ (.t _) (fun hg => jf F42_2 ζ) (jg ζ ζ (.t _) (fun hg => jl k0 O34 (evg ζ hg) ζ) (jdq (rOutcome.c_Mem d0) fun q1 w1 => jdq (rOutcome.c_Mem d1) fun q2 w2 => jgc ζ ζ (.t _) E43 ζ (fun hg => evl2 (evg ζ hg) (evg ζ hg)) (fun hg => seq_ct) (fun hg => (dc (rOutcome.c_Mem d0) (dc (rOutcome.c_Mem d1) dn))) kn p0 (js (jand ζ ζ) (jm ζ (jg ζ ζ (.t _) (fun hg => jf F42_3 ζ) (jg ζ ζ (.t _) (fun hg => jl k1 O40 (evg ζ hg) ζ) (jg ζ ζ (.t _) (fun hg => jf F42_3 ζ) (jg ζ ζ (.t _) (fun hg => jl k0 O40 (evg ζ hg) ζ) (jdq (rOutcome.c_Calls d0) fun q3 w3 => ?_)))))))))
  refine jdq (rOutcome.c_Calls d1) fun q4 w4 => jgc ζ ζ (.t _) E44 ζ (fun hg => evl3 (evg ζ hg) (evg ζ hg) ζ) (fun hg => evs_ct) (fun hg => (dc (rOutcome.c_Calls d0) (dc (rOutcome.c_Calls d1) dn))) kn p0 (js (jand ζ ζ) (ja ζ (jn (jx (jrt ?_)))))
  exact jrB ζ ζ ((sameO_b a b))
end Go.Proofs.YtdlcjaefkjbonaaGreat
namespace Go.Proofs.YtdlcjaefkjbonaaGreat
set_option linter.unusedVariables false
set_option linter.unusedSimpArgs false
set_option linter.unusedSectionVars false
open Go.JE
abbrev U54 := @Tryz.underlying54
abbrev U55 := @Tryz.underlying55
theorem E12 : Ent Tryz.prog 12 := ⟨_, Tryz.func12, by kernel_rfl, by kernel_rfl⟩
theorem E13 : Ent Tryz.prog 13 := ⟨_, Tryz.func13, by kernel_rfl, by kernel_rfl⟩
theorem E22 : Ent Tryz.prog 22 := ⟨_, Tryz.func22, by kernel_rfl, by kernel_rfl⟩
theorem E7 : Ent Tryz.prog 7 := ⟨_, Tryz.func7, by kernel_rfl, by kernel_rfl⟩
theorem O54 : One Tryz.prog 54 := ⟨_, Tryz.underlying54, rfl⟩
theorem Z54 : Sz Tryz.prog 54 1 := by unfold Sz; kernel_rfl
def GrO (b : D.Outcome) (me : List Int) (cl : List D.Event) (s : Int) : Prop := s ≤ b.Steps ∧ b.Mem.length = me.length ∧ ∃ t, b.Calls = cl ++ t
def PreO (N : Int) (a b : D.Outcome) : Prop := (a.End ≠ 3 ∧ b = a) ∨ (a.End = 3 ∧ a.Steps = N ∧ a.Val = 0 ∧ GrO b a.Mem a.Calls N)
abbrev KO := List Int → List Int → List D.Event → List Int → Int → D.Outcome
theorem GrO.refl {e v s : Int} {me : List Int} {cl : List D.Event} : GrO ⟨e, v, me, cl, s⟩ me cl s := ⟨Int.le_refl _, rfl, [], (List.append_nil _).symm⟩
theorem GrO.up {b : D.Outcome} {me me' : List Int} {cl t : List D.Event} {s s' : Int} (h : GrO b me' (cl ++ t) s') (h1 : s ≤ s') (h2 : me'.length = me.length) : GrO b me cl s := by
  obtain ⟨a, b, u, c⟩ := h
  exact ⟨by omega, by omega, t ++ u, by rw [c, List.append_assoc]⟩
theorem GrO.up0 {b : D.Outcome} {me me' : List Int} {cl : List D.Event} {s s' : Int} (h : GrO b me' cl s') (h1 : s ≤ s') (h2 : me'.length = me.length) : GrO b me cl s := by
  obtain ⟨a, b, u, c⟩ := h
  exact ⟨by omega, by omega, u, c⟩
theorem ins_grow {N : Int} {K : KO} (hK : ∀ rs me cl an s, GrO (K rs me cl an s) me cl s) : ∀ (l : List D.Mach) (rs me : List Int) (cl : List D.Event) (an : List Int) (s : Int), GrO (insRun N K l rs me cl an s) me cl s
  | [], rs, me, cl, an, s => hK _ _ _ _ _
  | i :: l, rs, me, cl, an, s => by
    rw [insRun]
    split
    · exact GrO.refl
    split
    · exact (ins_grow hK l _ _ _ _ _).up (by omega) rfl
    split
    · exact ⟨by dsimp only; omega, (stepM_len _ _ _).2, [], (List.append_nil _).symm⟩
    · exact (ins_grow hK l _ _ _ _ _).up0 (by omega) (stepM_len _ _ _).2
theorem end_grow {N : Int} {e : D.End} {go : Int → KO} (hK : ∀ t rs me cl an s, GrO (go t rs me cl an s) me cl s) (rs me : List Int) (cl : List D.Event) (an : List Int) (s : Int) : GrO (endRun N e go rs me cl an s) me cl s := by
  unfold endRun
  split
  · exact GrO.refl
  split
  · exact ⟨by dsimp only; omega, rfl, [], (List.append_nil _).symm⟩
  split
  · exact ⟨by dsimp only; omega, rfl, [], (List.append_nil _).symm⟩
  · exact (hK _ _ _ _ _ _).up0 (by omega) rfl
theorem block_grow (bs : List D.MBlock) (N : Int) : ∀ (f : Nat) (a b : Int) (rs me : List Int) (cl : List D.Event) (an : List Int) (s : Int), GrO (blockRun bs N f a b rs me cl an s) me cl s
  | 0, _, _, _, _, _, _, _ => GrO.refl
  | f + 1, a, b, rs, me, cl, an, s => ins_grow (fun rs me cl an s => end_grow (fun t rs me cl an s => block_grow bs N f t a rs me cl an s) rs me cl an s) _ _ _ _ _ _
theorem PreO.stop {N s : Int} {me : List Int} {cl : List D.Event} {b : D.Outcome} (h : s = N) (hb : GrO b me cl s) : PreO N ⟨3, 0, me, cl, s⟩ b := .inr ⟨rfl, h, rfl, h ▸ hb⟩
theorem PreO.same {N : Int} {a : D.Outcome} (h : a.End ≠ 3) : PreO N a a := .inl ⟨h, rfl⟩
theorem ins_pre {N N' : Int} (hN : N ≤ N') {K K' : KO} {s0 : Int} (hK : ∀ rs me cl an s, s0 ≤ s → s ≤ N → PreO N (K rs me cl an s) (K' rs me cl an s)) (hG : ∀ rs me cl an s, GrO (K' rs me cl an s) me cl s) :
    ∀ (l : List D.Mach) (rs me : List Int) (cl : List D.Event) (an : List Int) (s : Int), s0 ≤ s → s ≤ N → PreO N (insRun N K l rs me cl an s) (insRun N' K' l rs me cl an s)
  | [], rs, me, cl, an, s, h0, hs => hK _ _ _ _ _ h0 hs
  | i :: l, rs, me, cl, an, s, h0, hs => by
    by_cases h1 : N ≤ s
    · have e : insRun N K (i :: l) rs me cl an s = ⟨3, 0, me, cl, s⟩ := by rw [insRun, if_pos h1]
      rw [e]
      exact PreO.stop (by omega) (ins_grow hG _ _ _ _ _ _)
    · rw [insRun, insRun, if_neg h1, if_neg (show ¬ N' ≤ s by omega)]
      by_cases h2 : i.Op = 28
      · rw [if_pos h2, if_pos h2]; exact ins_pre hN hK hG l _ _ _ _ _ (by omega) (by omega)
      · rw [if_neg h2, if_neg h2]
        by_cases h3 : (stepM i rs me).1.2 = false
        · rw [if_pos h3, if_pos h3]; exact PreO.same (by intro h; cases h)
        · rw [if_neg h3, if_neg h3]; exact ins_pre hN hK hG l _ _ _ _ _ (by omega) (by omega)
theorem end_pre {N N' : Int} (hN : N ≤ N') {e : D.End} {go go' : Int → KO} {s0 : Int} (hK : ∀ t rs me cl an s, s0 < s → s ≤ N → PreO N (go t rs me cl an s) (go' t rs me cl an s)) (hG : ∀ t rs me cl an s, GrO (go' t rs me cl an s) me cl s)
    (rs me : List Int) (cl : List D.Event) (an : List Int) (s : Int) (h0 : s0 ≤ s) (hs : s ≤ N) : PreO N (endRun N e go rs me cl an s) (endRun N' e go' rs me cl an s) := by
  by_cases h1 : N ≤ s
  · have e' : endRun N e go rs me cl an s = ⟨3, 0, me, cl, s⟩ := by rw [endRun, if_pos h1]
    rw [e']
    exact PreO.stop (by omega) (end_grow hG _ _ _ _ _)
  · rw [endRun, endRun, if_neg h1, if_neg (show ¬ N' ≤ s by omega)]
    by_cases h2 : e.Op = 7
    · rw [if_pos h2, if_pos h2]; exact PreO.same (by intro h; cases h)
    · rw [if_neg h2, if_neg h2]
      by_cases h3 : e.Op = 8
      · rw [if_pos h3, if_pos h3]; exact PreO.same (by intro h; cases h)
      · rw [if_neg h3, if_neg h3]; exact hK _ _ _ _ _ _ (by omega) (by omega)
theorem block_pre (bs : List D.MBlock) {N N' : Int} (hN : N ≤ N') : ∀ (f f' : Nat) (a b : Int) (rs me : List Int) (cl : List D.Event) (an : List Int) (s : Int), N - s < f → N' - s < f' → s ≤ N →
    PreO N (blockRun bs N f a b rs me cl an s) (blockRun bs N' f' a b rs me cl an s)
  | 0, _, _, _, _, _, _, _, _, h, _, hs => by omega
  | f + 1, 0, _, _, _, _, _, _, _, _, h, hs => by omega
  | f + 1, f' + 1, a, b, rs, me, cl, an, s, h, h', hs => by
    rw [blockRun, blockRun]
    exact ins_pre hN (s0 := s) (fun rs' me' cl' an' s' h0 h1 => end_pre hN (s0 := s) (fun t rs me cl an s2 h2 h3 => block_pre bs hN f f' t a rs me cl an s2 (by omega) (by omega) h3) (fun t rs me cl an s => block_grow bs N' f' t a rs me cl an s) _ _ _ _ _ h0 h1)
      (fun rs me cl an s => end_grow (fun t rs me cl an s => block_grow bs N' f' t a rs me cl an s) _ _ _ _ _) _ _ _ _ _ _ (Int.le_refl _) hs
theorem run_pre (m : D.MFunc) (i : D.Input) {N N' : Int} (h0 : 0 ≤ N) (hN : N ≤ N') : PreO N (runM m { i with Steps := N }) (runM m { i with Steps := N' }) := by
  unfold runM
  split
  · exact PreO.same (by intro h; cases h)
  · exact block_pre _ hN _ _ _ _ _ _ _ _ _ (by dsimp only; omega) (by dsimp only; omega) h0
theorem u16m {n m : Int} (h : IntKind.u16.wrap n = n) (hm : 0 < m ∧ m ≤ 1000) : 0 ≤ IntKind.i64.wrap (Int.tmod n m) ∧ IntKind.i64.wrap (Int.tmod n m) < m := by
  rw [IntKind.wrap_u16] at h
  rw [Int.tmod_eq_emod_of_nonneg (by omega), IntKind.wrap_i64]
  have := Int.emod_nonneg n (show m ≠ 0 by omega)
  have := Int.emod_lt_of_pos n hm.1
  omega
theorem made_steps (l b : List Int) {q : Int} (h : 0 ≤ q ∧ q ≤ 500) : (lawMade l b q).2.Steps = q := by show min (max q (-1)) 500 = q; omega
theorem steps_end {N : Int} {a b : D.Outcome} (h : PreO N a b) (h1 : ¬ a.End = 3) : alikeO a b = true := by
  rcases h with h | h
  · rw [h.2]; exact alike_refl _
  · exact absurd h.1 h1
theorem steps_no {N : Int} {a b : D.Outcome} (h : PreO N a b) (h1 : a.End = 3) (h2 : (((¬ a.Steps = N ∨ b.Steps < a.Steps) ∨ (b.Calls.length : Int) < (a.Calls.length : Int)) ∨ ¬ a.Val = 0) ∨ ¬ (a.Mem.length : Int) = (b.Mem.length : Int)) : False := by
  rcases h with h | ⟨_, h3, h4, h5, h6, t, h7⟩
  · exact h.1 h1
  · rw [h7] at h2; simp at h2; omega
theorem steps_same {N : Int} {a b : D.Outcome} (h : PreO N a b) (h1 : a.End = 3) (h2 : a.Val = 0) : sameO a ⟨a.End, 0, a.Mem, b.Calls.take a.Calls.length, b.Steps⟩ = true := by
  rcases h with h | ⟨_, h3, h4, h5, h6, t, h7⟩
  · exact absurd h1 h.1
  · unfold sameO; rw [decide_eq_true_eq]; exact ⟨rfl, h2, rfl, by simp [h7]⟩
attribute [local irreducible] runM lawMade
set_option maxRecDepth 20000 in
set_option maxHeartbeats 1000000 in
theorem machSteps_ct {a0 : Value} {l : List Int} {N0 : Nat} {a1 : Value} {b : List Int} {N1 : Nat} (n0 n1 : Int) (wn0 : IntKind.u16.wrap n0 = n0) (wn1 : IntKind.u16.wrap n1 = n1) : Tv Tryz.prog 6 #[a0, a1, .agg #[.int .u16 n0, .int .u16 n1]] [dv (rLn N0 (rI .i64)) a0 l, dv (rLn N1 (rI .i64)) a1 b] [] (.bool true) := by
  refine jenter (args := [a0, a1, .agg #[.int .u16 n0, .int .u16 n1]]) Tryz.func6 rfl rfl rfl fun w0 X => ?_
  have hr0 := u16m (m := 301) wn0 (by decide)
  have hr1 := u16m (m := 200) wn1 (by decide)
  have hS := made_steps l b (q := (IntKind.i64.wrap (Int.tmod n0 301))) (by omega)
  have hP := run_pre (lawMade l b (IntKind.i64.wrap (Int.tmod n0 301))).1 (lawMade l b (IntKind.i64.wrap (Int.tmod n0 301))).2 (N := (lawMade l b (IntKind.i64.wrap (Int.tmod n0 301))).2.Steps) (N' := (lawMade l b (IntKind.i64.wrap (Int.tmod n0 301))).2.Steps + IntKind.i64.wrap (Int.tmod n1 200)) (by omega) (by omega)
  refine jq (jr (jbox ζ ζ fun g5 => ja ζ (jn (jx (jq (jr (jcv E7 ζ ζ shown_ct dn kn (ja ζ (jn (jx ?_))))))))))
  refine jq (jr (jm ζ (jm ζ (js (jixa (i := 0) U55 Z54 ζ ζ ζ (by omega)) (js (jl k0 O54 ζ ζ) (js (jrem ζ ζ (by decide)) (js (jco U54 U3 ζ ζ) (jdq d0 fun q1 w1 => jdq d1 fun q2 w2 => jc E12 ζ ζ (lawMade_ct (IntKind.i64.wrap (Int.tmod n0 301))) (dc d0 (dc d1 dn)) kn (fun _ => p2) (fun _ => p0) fun c21 => ?_))))))))
  generalize hma : lawMade l b (IntKind.i64.wrap (Int.tmod n0 301)) = ma at hS hP ⊢
  refine jm ζ (js (jex' ζ ζ) (js (jex' ζ ζ) (jalc J28 ζ fun g8 => jalc J36 ζ fun g9 => jdq (rMFunc.c_Blocks d0) fun q5 w5 => jsta k1 Z28 ζ ζ ζ ⟨ζ, w5.one, trivial⟩ (saf ζ) (jdq (rInput.c_Args d1) fun q6 w6 => jdq (rInput.c_Mem d1) fun q7 w7 => jdq (rInput.c_Answers d1) fun q8 w8 => jsta k1 Z36 ζ ζ ζ ⟨w6.one, w7.one, w8.one, ζ, trivial⟩ (saf ζ) (jn ?_)))))
  refine jx (jq (jr (js (jla k1 A28 Z28 ζ ζ ζ) (js (jla k0 A36 Z36 ζ ζ ζ) (jcs2 E14 ζ ζ (pRun_ct (by first | omega | (dsimp only; omega))) (dc d0 (dc d1 dn)) kn fun c26a c26b => ?_)))))
  generalize hoa : runM ma.1 ma.2 = oa at hP ⊢
  refine jalc J42 ζ fun g10 => jdq (rOutcome.c_Mem d0) fun q10 w10 => jdq (rOutcome.c_Calls d0) fun q11 w11 => jsta k0 Z42 ζ ζ ζ ⟨ζ, ζ, w10.one, w11.one, ζ, trivial⟩ (saf ζ) (jn (jx (jq (jr (js (jla k1 A36 Z36 ζ ζ ζ) (jalc J36 ζ fun g11 => jsta k0 Z36 ζ ζ ζ ⟨w6.one, w7.one, w8.one, ζ, trivial⟩ (saf ζ) (jn ?_)))))))
  refine jx (jq (jr (js (jf F36_3 ζ) (js (jl k2 O3 ζ ζ) (js (jixa (i := 1) U55 Z54 ζ ζ ζ (by omega)) (js (jl k4 O54 ζ ζ) (js (jrem ζ ζ (by decide)) (js (jco U54 U3 ζ ζ) (js (jadd ζ ζ (by omega)) (js (jf F36_3 ζ) (jst k0 Z3 ζ ζ ζ s3 ?_)))))))))))
  refine jn (jx (jq (jr (js (jla k3 A28 Z28 ζ ζ ζ) (js (jla k0 A36 Z36 ζ ζ ζ) (jcs2 E14 ζ ζ (pRun_ct (a1a := c21.2.1) (a1b := c21.2.2.1) (a1c := c21.2.2.2) (i := ⟨(ma.2).Args, (ma.2).Mem, (ma.2).Answers, ((ma.2).Steps) + (IntKind.i64.wrap (Int.tmod n1 200))⟩) (by first | omega | (dsimp only; omega))) (dc d1 (dc (rInput.M (m := ⟨(ma.2).Args, (ma.2).Mem, (ma.2).Answers, ((ma.2).Steps) + (IntKind.i64.wrap (Int.tmod n1 200))⟩) (c := (c21.2.1, c21.2.2.1, c21.2.2.2)) (rInput.c_Args (m := ma.2) (c := c21.2) d2) (rInput.c_Mem (m := ma.2) (c := c21.2) d2) (rInput.c_Answers (m := ma.2) (c := c21.2) d2) (wp (IntWalk.i64_in (((ma.2).Steps) + (IntKind.i64.wrap (Int.tmod n1 200))) (by omega)))) dn)) kn fun c38a c38b => ?_))))))
  generalize hob : runM ma.1 (⟨(ma.2).Args, (ma.2).Mem, (ma.2).Answers, ((ma.2).Steps) + (IntKind.i64.wrap (Int.tmod n1 200))⟩) = ob at hP ⊢
  refine jalc J42 ζ fun g12 => jdq (rOutcome.c_Mem d0) fun q13 w13 => jdq (rOutcome.c_Calls d0) fun q14 w14 => jsta k0 Z42 ζ ζ ζ ⟨ζ, ζ, w13.one, w14.one, ζ, trivial⟩ (saf ζ) (jn (jx (jq (jq (jr (js (jf F42_0 ζ) (js (jl k2 O3 ζ ζ) (js (jneq ζ ζ) ?_))))))))
  refine jn (jx ?_)
  refine jif ζ (fun hc1 => ?_) (fun hc1 => ?_)
  refine jq (jr (jm ζ (jm ζ (jk ζ ζ (.t _) (jla k2 A42 Z42 ζ ζ ζ) (jk ζ ζ (.t _) (jla k0 A42 Z42 ζ ζ ζ) (jgk ζ ζ (.t _) (jcv E13 ζ ζ rAlike_ct (dc d1 (dc d0 dn)) kn (js (jand ζ ζ) (ja ζ (jn (jx ?_)))))))))))
  refine jrt (jtr ?_)
  exact jrB ζ ζ (by first | (rw [steps_end hP hc1]; rfl) | exact (steps_no hP hc1 hc2).elim | (rw [steps_same hP hc1 (by omega)]; rfl))
  refine jsk (jx (jq (jq (jr (js (jf F42_4 ζ) (js (jl k2 O3 ζ ζ) (js (jf F36_3 ζ) (js (jl k3 O3 ζ ζ) (js (jneq ζ ζ) (jm ζ (jg ζ ζ (.f _) (fun hg => jf F42_4 ζ) ?_)))))))))))
  refine jg ζ ζ (.f _) (fun hg => jl k0 O3 (evg ζ hg) ζ) (jg ζ ζ (.f _) (fun hg => jf F42_4 ζ) (jg ζ ζ (.f _) (fun hg => jl k2 O3 (evg ζ hg) ζ) (jg ζ ζ (.f _) (fun hg => jlss (evg ζ hg) (evg ζ hg)) (js (jor ζ ζ) (jm ζ (jg ζ ζ (.f _) (fun hg => jf F42_3 ζ) (jg ζ ζ (.f _) (fun hg => jl k0 O40 (evg ζ hg) ζ) (jg ζ ζ (.f _) (fun hg => jln U40 (rOutcome.c_Calls d0) (evg ζ hg)) (jg ζ ζ (.f _) (fun hg => jf F42_3 ζ) (jg ζ ζ (.f _) (fun hg => jl k2 O40 (evg ζ hg) ζ) (jg ζ ζ (.f _) (fun hg => jln U40 (rOutcome.c_Calls d1) (evg ζ hg)) ?_)))))))))))
  refine jg ζ ζ (.f _) (fun hg => jlss (evg ζ hg) (evg ζ hg)) (js (jor ζ ζ) (jm ζ (jg ζ ζ (.f _) (fun hg => jf F42_1 ζ) (jg ζ ζ (.f _) (fun hg => jl k2 O21 (evg ζ hg) ζ) (jg ζ ζ (.f _) (fun hg => jneq (evg ζ hg) ζ) (js (jor ζ ζ) (jm ζ (jg ζ ζ (.f _) (fun hg => jf F42_2 ζ) (jg ζ ζ (.f _) (fun hg => jl k2 O34 (evg ζ hg) ζ) (jg ζ ζ (.f _) (fun hg => jln U34 (rOutcome.c_Mem d1) (evg ζ hg)) (jg ζ ζ (.f _) (fun hg => jf F42_2 ζ) ?_)))))))))))
  refine jg ζ ζ (.f _) (fun hg => jl k0 O34 (evg ζ hg) ζ) (jg ζ ζ (.f _) (fun hg => jln U34 (rOutcome.c_Mem d0) (evg ζ hg)) (jg ζ ζ (.f _) (fun hg => jneq (evg ζ hg) (evg ζ hg)) (js (jor ζ ζ) (jn (jx ?_)))))
  refine jif ζ (fun hc2 => ?_) (fun hc2 => ?_)
  refine jq (jr (ja ζ (jn (jx (jrt (jtr ?_))))))
  exact jrB ζ ζ (by first | (rw [steps_end hP hc1]; rfl) | exact (steps_no hP hc1 hc2).elim | (rw [steps_same hP hc1 (by omega)]; rfl))
  refine jsk (jx (jq (jr (js (jf F42_3 ζ) (js (jl k0 O40 ζ ζ) (js (jf F42_3 ζ) (js (jl k2 O40 ζ ζ) (js (jln U40 (rOutcome.c_Calls d1) ζ) (js (jshi (hi := (List.length oa.Calls)) U40 Z85 (rOutcome.c_Calls d0) ζ ζ ζ (by omega)) (js (jf F42_3 ζ) (jdq (dhi (rOutcome.c_Calls d0) (List.length oa.Calls) (by omega) (by omega)) fun q15 w15 => ?_)))))))))))
  refine jst k0 Z40 ζ ζ w15.one s3 (jn (jx (jq (jr (js (jf F42_0 ζ) (js (jl k2 O3 ζ ζ) (js (jf F42_0 ζ) (jst k0 Z3 ζ ζ ζ s0 (jn (jx (jq ?_)))))))))))
  refine jr (js (jf F42_1 ζ) (jst k0 Z21 ζ ζ ζ s1 (jn (jx (jq (jr (js (jf F42_2 ζ) (js (jl k2 O34 ζ ζ) (js (jf F42_2 ζ) (jst k0 Z34 ζ ζ w10.one s2 (jn ?_)))))))))))
  refine jx (jq (jr (jm ζ (jm ζ (jk ζ ζ (.t _) (jla k2 A42 Z42 ζ ζ ζ) (jk ζ ζ (.t _) (jla k0 A42 Z42 ζ ζ ζ) (jgk ζ ζ (.t _) (jcv E22 ζ ζ (iSame_ct (a1a := c26a) (a1b := (resl 2 c38b 0 (List.length oa.Calls))) (b := ⟨oa.End, 0, oa.Mem, List.take (List.length oa.Calls) ob.Calls, ob.Steps⟩)) (dc d1 (dc (rOutcome.M (m := ⟨oa.End, 0, oa.Mem, List.take (List.length oa.Calls) ob.Calls, ob.Steps⟩) (c := (c26a, (resl 2 c38b 0 (List.length oa.Calls)))) (rOutcome.c_Mem (m := oa) (c := (c26a, c26b)) d1) (dhi (rOutcome.c_Calls d0) (List.length oa.Calls) (by omega) (by omega)) (rOutcome.W_End (m := oa) d1) (wl 0) (rOutcome.W_Steps (m := ob) d0)) dn)) kn (js (jand ζ ζ) (ja ζ (jn ?_)))))))))))
  refine jx (jrt ?_)
  exact jrB ζ ζ (by first | (rw [steps_end hP hc1]; rfl) | exact (steps_no hP hc1 hc2).elim | (rw [steps_same hP hc1 (by omega)]; rfl))
end Go.Proofs.YtdlcjaefkjbonaaGreat
