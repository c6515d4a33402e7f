/- Lemmas that the claim is made of. Conditions: each lemma names its own. -/
import Derived.Test.YtehhjlkmbdhckaaGreatKC9
import Derived.Test.YtehhjlkmbdhckaaGreatKC5
namespace Go.Proofs.YtehhjlkmbdhckaaGreat
set_option linter.unusedVariables false
set_option linter.unusedSimpArgs false
set_option linter.unusedSectionVars false
open Go.JE
def goodM (m : Mk) : Prop := ∀ b ∈ m.bs, goodB b
theorem goodB0 : goodB default := ⟨fun _ h => (List.not_mem_nil h).elim, ⟨.inl (by decide), .inl (by decide)⟩⟩
theorem goodM.ix {m : Mk} (h : goodM m) (j : Nat) : goodB (ix m.bs j) := by
  by_cases hj : j < m.bs.length
  · exact h _ (ix_mem hj)
  · have : JE.ix m.bs j = default := by simp [JE.ix, hj]
    rw [this]; exact goodB0
theorem goodM.set {m : Mk} (h : goodM m) {j : Nat} {x : D.Block} (hx : goodB x) : goodM { m with bs := m.bs.set j x } := fun b hb => by
  rcases List.mem_or_eq_of_mem_set hb with h1 | h1
  · exact h b h1
  · exact h1 ▸ hx
theorem goodI2 {op d t a b n : Int} (h : 0 ≤ op ∧ op ≤ 1000) : goodI ⟨op, d, t, [a, b], n⟩ := ⟨h, .inr (.inr (.inr (by show 2 ≤ 2; omega)))⟩
section
variable {m : Mk} {b : Int}
theorem add_good {i : D.Ins} (h : goodM m) (hi : goodI i) : goodM (addS b i m) := by
  refine goodM.set (m := { m with lv := m.lv ++ makes3 i }) h ⟨fun x hx => ?_, (h.ix _).2⟩
  rcases List.mem_append.1 hx with h1 | h1
  · exact (h.ix b.toNat).1 _ h1
  · rw [List.mem_singleton.1 h1]; exact hi
theorem const_good {n : Int} (h : goodM m) : goodM (constS b n m) := add_good (m := freshS m) h ⟨(by dsimp only; omega), .inl rfl⟩
theorem value_good (h : goodM m) : goodM (valueS m) := by unfold valueS; split <;> exact h
theorem some0_good (h : goodM m) : goodM (someM0 m) := by unfold someM0; split <;> exact value_good h
theorem some_good (h : goodM m) : goodM (someS b m) := by
  unfold someS; split
  · exact const_good (m := wordS (someM0 m)) (some0_good h)
  · exact some0_good h
theorem mem1_good (h : goodM m) : goodM (mem1 b m).2 := by
  unfold mem1; dsimp only; split
  · exact add_good (m := freshS _) (add_good (m := freshS _) (const_good (some_good (m := takeS _) (const_good (m := takeS m) h))) (goodI2 (by decide))) (goodI2 (by decide))
  · exact const_good (m := takeS m) h
theorem mem2_good (h : goodM m) : goodM (mem2 m).2 := by unfold mem2; dsimp only; split <;> exact h
theorem mem_good {s : Bool} (h : goodM m) : goodM (memS b s m) := by
  unfold memS; dsimp only; split
  · exact add_good (some_good (mem2_good (mem1_good h))) (goodI2 (by decide))
  · exact add_good (m := freshS _) (mem2_good (mem1_good h)) ⟨(by dsimp only; omega), .inr (.inr (.inl ⟨rfl, by show 1 ≤ 1; omega⟩))⟩
theorem args_good : ∀ (n : Nat) (l : List Int) (m : Mk), goodM m → goodM (argsL b n l m).2
  | 0, _, _, h => h
  | n + 1, _, _, h => args_good n _ _ (some_good h)
theorem op_rng {k : Int} (h : 0 ≤ k ∧ k < 12) : 0 ≤ ix [(2 : Int), 2, 3, 4, 5, 6, 7, 8, 9, 10, 12, 11] k.toNat ∧ ix [(2 : Int), 2, 3, 4, 5, 6, 7, 8, 9, 10, 12, 11] k.toNat ≤ 1000 := by
  obtain ⟨n, rfl⟩ : ∃ n : Nat, k = n := ⟨k.toNat, by omega⟩
  have : n = 0 ∨ n = 1 ∨ n = 2 ∨ n = 3 ∨ n = 4 ∨ n = 5 ∨ n = 6 ∨ n = 7 ∨ n = 8 ∨ n = 9 ∨ n = 10 ∨ n = 11 := by omega
  rcases this with rfl | rfl | rfl | rfl | rfl | rfl | rfl | rfl | rfl | rfl | rfl | rfl <;> decide
theorem op3_rng {k : Int} (h : 0 ≤ k ∧ k < 3) : 0 ≤ ix [(11 : Int), 12, 13] k.toNat ∧ ix [(11 : Int), 12, 13] k.toNat ≤ 1000 := by
  obtain ⟨n, rfl⟩ : ∃ n : Nat, k = n := ⟨k.toNat, by omega⟩
  have : n = 0 ∨ n = 1 ∨ n = 2 := by omega
  rcases this with rfl | rfl | rfl <;> decide
theorem ins_good (h : goodM m) : goodM (insS b m) := by
  have h20 := takeV_rng (n := 20) (by omega) m
  have h2 : goodM (someS b (takeS m)) := some_good (m := takeS m) h
  have h3 := some_good (b := b) h2
  unfold insS; dsimp only
  split
  · rename_i hk
    split
    · exact add_good (m := freshS _) (const_good (m := takeS (takeS _)) h3) (goodI2 (op_rng ⟨h20.1, hk⟩))
    · exact add_good (m := freshS (takeS _)) h3 (goodI2 (op_rng ⟨h20.1, hk⟩))
  split
  · exact add_good (m := freshS _) h3 (goodI2 (by decide))
  split
  · split
    · exact add_good (m := freshS _) (const_good (m := takeS (takeS _)) (const_good (m := takeS _) h2)) (goodI2 (by decide))
    · exact add_good (m := freshS (takeS _)) (const_good (m := takeS _) h2) (goodI2 (by decide))
  split
  · exact mem_good (m := takeS m) h
  split
  · exact add_good (m := takeS (freshS _)) (args_good _ _ (takeS (takeS m)) h) ⟨(by dsimp only; omega), .inr (.inl rfl)⟩
  split
  · exact add_good (m := freshS (freshS _)) h3 (goodI2 (by decide))
  · exact const_good (m := wordS (takeS m)) h
theorem setT_good {t : D.Term} (h : goodM m) (ht : goodT t) : goodM (setT b t m) := h.set ⟨(h.ix _).1, ht⟩
theorem end_good {l : List Int} (h : goodM m) : goodM (endS b l m) := by
  have hA : ∀ (t : D.Term), t.Kind ≠ 2 → t.Kind ≠ 3 → goodT t := fun t h1 h2 => ⟨.inl h1, .inl h2⟩
  unfold endS; dsimp only
  split
  · split
    · exact setT_good (m := takeS (takeS m)) h (hA _ (by dsimp only; omega) (by dsimp only; omega))
    split
    · exact setT_good (some_good (m := takeS m) h) (hA _ (by dsimp only; omega) (by dsimp only; omega))
    · exact setT_good (m := takeS m) h (hA _ (by dsimp only; omega) (by dsimp only; omega))
  split
  · exact setT_good h (hA _ (by dsimp only; omega) (by dsimp only; omega))
  split
  · rename_i hl
    have hB : ∀ a : Int, goodT ⟨2, [a], l, 0⟩ := fun a => ⟨.inr ⟨by show 1 ≤ 1; omega, by show 2 ≤ l.length; omega⟩, .inl (by dsimp only; omega)⟩
    have h1 : goodM (someS b m) := some_good h
    split
    · exact setT_good (add_good (m := takeS (freshS _)) (some_good (m := takeS _) h1) (goodI2 (op3_rng (takeV_rng (by omega) _)))) (hB _)
    · exact setT_good (m := takeS _) h1 (hB _)
  · exact setT_good (add_good (m := freshS _) (const_good (some_good h)) (goodI2 (by decide))) ⟨.inl (by dsimp only; omega), .inr (by show 1 ≤ 1; omega)⟩
end
def fgM (nb c : Nat) (m : Mk) : Prop := okM nb c m ∧ goodM m
theorem fgM.mono {nb c c' : Nat} {m : Mk} (h : fgM nb c m) (hc : c ≤ c') : fgM nb c' m := ⟨h.1.mono hc, h.2⟩
def kzB (b : D.Block) : Prop := b.Ins = [] ∧ b.Term.Kind = 0
theorem kzB.good {b : D.Block} (h : kzB b) : goodB b := ⟨fun i hi => (by rw [h.1] at hi; cases hi), ⟨.inl (by rw [h.2]; decide), .inl (by rw [h.2]; decide)⟩⟩
theorem fg_toS {nb c : Nat} {to : List (List Int)} : ∀ (k b : Nat) (m : Mk), okM nb c m → (∀ x ∈ m.bs, kzB x) → fgM nb c (toS to k b m)
  | 0, _, _, h, h2 => ⟨h, fun x hx => (h2 x hx).good⟩
  | k + 1, b, m, h, h2 => by
    refine fg_toS k (b + 1) _ (okM.setb (d := 0) h (Nat.le_refl _)) (fun x hx => ?_)
    rcases List.mem_or_eq_of_mem_set hx with h1 | h1
    · exact h2 x h1
    · subst h1
      by_cases hj : b < m.bs.length
      · have h3 := h2 _ (ix_mem hj)
        exact ⟨h3.1, h3.2⟩
      · have : ix m.bs b = default := by simp [ix, hj]
        rw [this]; exact ⟨rfl, rfl⟩
theorem fg_addP {nb c b : Nat} {m : Mk} (h : fgM nb c m) : fgM nb (c + 2) (addP b m) :=
  ⟨okM.setb (d := 1) (fresh_ok h.1) (by dsimp only; rw [List.length_append]; simp only [List.length_cons, List.length_nil]; exact Nat.le_of_eq (by show _ + 1 + _ = _ + _ + 1; omega)), goodM.set (m := freshS m) h.2 ⟨(h.2.ix b).1, (h.2.ix b).2⟩⟩
theorem fg_phiN {nb b : Nat} : ∀ (k : Nat) {c : Nat} {m : Mk}, fgM nb c m → fgM nb (c + 2 * k) (phiN b k m)
  | 0, _, _, h => h
  | k + 1, _, _, h => (fg_phiN k (fg_addP h)).mono (by omega)
theorem fg_take {nb c : Nat} {m : Mk} (h : fgM nb c m) : fgM nb (c + 1) (takeS m) := ⟨take_ok h.1, h.2⟩
theorem fg_phiS {nb : Nat} : ∀ (k b : Nat) (ph : List Int) {c : Nat} {m : Mk}, fgM nb c m → (∀ j, 0 ≤ ix ph j ∧ ix ph j ≤ 3) → fgM nb (c + 7 * k) (phiS k b ph m).2 ∧ ∀ j, 0 ≤ ix (phiS k b ph m).1 j ∧ ix (phiS k b ph m).1 j ≤ 3
  | 0, _, _, _, _, h, h2 => ⟨h, h2⟩
  | k + 1, b, ph, c, m, h, h2 => by
    have h3 := phiR_rng (b := b) (m := m) h2
    have h4 := h3 b
    have h5 := fg_phiN (b := b) (ix (phiR b ph m) b).toNat (fg_take h)
    have h6 := fg_phiS k (b + 1) (phiR b ph m) (h5.mono (c' := c + 7) (by omega)) h3
    exact ⟨h6.1.mono (by omega), h6.2⟩
theorem fg_insN {nb b : Nat} (hb : b < nb) : ∀ (k : Nat) {c : Nat} {m : Mk}, fgM nb c m → fgM nb (c + 60 * k) (insN b k m)
  | 0, _, _, h => h
  | k + 1, _, _, h => (fg_insN hb k ⟨ins3_ok h.1 (by omega), ins_good h.2⟩).mono (by omega)
theorem fg_blk {nb n b c : Nat} {to : List (List Int)} {dn : List Bool} {m : Mk} (h : fgM nb c m) (hn : n ≤ nb) (hb : b < nb) : fgM nb (c + 410) (blkM n to b dn m) := by
  have h7 := takeV_rng (n := 7) (by omega) (lvM n b dn m)
  have hl : fgM nb c (lvM n b dn m) := ⟨okM.setlv h.1 (by
    have h1 := lvF_len (f := fnM m) (dn := dn) (b := b) (a := n) (by show n ≤ m.bs.length; rw [h.1.2.2.2.2.1]; exact hn)
    have h2 := cntT_le m.bs n
    have h3 := h.1.bnd
    have h4 : (fnM m).Params = m.par := rfl
    have h5 : (fnM m).Blocks = m.bs := rfl
    rw [h4, h5] at h1; omega) (Nat.le_refl _), h.2⟩
  have h1 := fg_insN hb (takeV 7 (lvM n b dn m)).toNat (fg_take hl)
  exact ⟨(end_ok (l := ix to b) h1.1 (by omega)).mono (by omega), end_good h1.2⟩
theorem fg_row {nb n : Nat} {to : List (List Int)} (hn : n ≤ nb) : ∀ (k b : Nat) (dn : List Bool) {c : Nat} {m : Mk}, b + k ≤ nb → fgM nb c m → fgM nb (c + 410 * k) (rowS n to k b dn m).2
  | 0, _, _, _, _, _, h => h
  | k + 1, b, dn, c, m, hb, h => by
    unfold rowS; split
    · exact (fg_row hn k (b + 1) _ (by omega) (fg_blk h hn (by omega))).mono (by omega)
    · exact (fg_row hn k (b + 1) _ (by omega) h).mono (by omega)
theorem fg_turn {nb n : Nat} {to : List (List Int)} (hn : n ≤ nb) (h9 : n ≤ 9) : ∀ (k : Nat) (dn : List Bool) {c : Nat} {m : Mk}, fgM nb c m → fgM nb (c + 3690 * k) (turnS n to k dn m).2
  | 0, _, _, _, h => h
  | k + 1, dn, c, m, h => by
    unfold turnS
    exact (fg_turn hn h9 k _ ((fg_row (to := to) hn n 0 dn (by omega) h).mono (c' := c + 3690) (by omega))).mono (by omega)
theorem fg_inX {nb c : Nat} {p : Int} {m : Mk} (h : fgM nb c m) (hp : p.toNat < nb) : fgM nb (c + 6) (inX p m).2 := by
  unfold inX; split
  · exact ⟨take_ok (const_ok (word_ok h.1) hp), const_good (m := wordS m) h.2⟩
  · exact (fg_take h).mono (by omega)
theorem fg_inS {nb : Nat} {p : List Int} (hp : ∀ x ∈ p, 0 ≤ x ∧ x < nb) (h0 : 0 < nb) : ∀ (k i : Nat) (l : List D.In) {c : Nat} {m : Mk}, fgM nb c m → fgM nb (c + 6 * k) (inS p k i l m).2
  | 0, _, _, _, _, h => h
  | k + 1, i, l, c, m, h => by
    unfold inS
    have h1 : (ix p i).toNat < nb := by
      by_cases hi : i < p.length
      · have := hp _ (ix_mem hi); omega
      · have : ix p i = 0 := by simp [ix, hi]
        rw [this]; exact h0
    exact (fg_inS hp h0 k (i + 1) _ (fg_inX h h1)).mono (by omega)
theorem fg_putIn {nb c b i : Nat} {l : List D.In} {m : Mk} (h : fgM nb c m) : fgM nb c (putIn b i l m) := ⟨okM.setb (d := 0) h.1 (by dsimp only; rw [List.length_set]; exact Nat.le_refl _), h.2.set ⟨(h.2.ix b).1, (h.2.ix b).2⟩⟩
theorem fg_inP {nb b : Nat} {p : List Int} (hp : ∀ x ∈ p, 0 ≤ x ∧ x < nb) (h0 : 0 < nb) (h9 : p.length ≤ 9) : ∀ (k i : Nat) {c : Nat} {m : Mk}, fgM nb c m → fgM nb (c + 54 * k) (inP p b k i m)
  | 0, _, _, _, h => h
  | k + 1, i, c, m, h => by
    unfold inP
    exact (fg_inP hp h0 h9 k (i + 1) (fg_putIn ((fg_inS hp h0 p.length 0 [] h).mono (c' := c + 54) (by omega)))).mono (by omega)
theorem fg_fin {nb : Nat} {ph : List Int} (h0 : 0 < nb) (h9 : nb ≤ 9) (hph : ∀ j, 0 ≤ ix ph j ∧ ix ph j ≤ 3) : ∀ (k b : Nat) {c : Nat} {m : Mk}, fgM nb c m → fgM nb (c + 200 * k) (finS ph k b m)
  | 0, _, _, _, h => h
  | k + 1, b, c, m, h => by
    unfold finS
    have hl : (fnM m).Blocks.length = nb := h.1.2.2.2.2.1
    have h1 : ∀ x ∈ preds3 (fnM m) b, 0 ≤ x ∧ x < nb := fun x hx => by have := preds3_rng x hx; rw [hl] at this; exact this
    have h2 := preds3_len (fnM m) b
    rw [hl] at h2
    have h3 := hph b
    exact (fg_fin h0 h9 hph k (b + 1) ((fg_inP h1 h0 (by omega) (b := b) (ix ph b).toNat 0 h).mono (c' := c + 200) (by omega))).mono (by omega)
theorem mdF_fg (s : List Int) : fgM (mdN s).toNat 36000 (mdF s) := by
  have h0 : okM 0 10 (md0 s) := by
    have h5 := takeV_rng (n := 5) (by omega) ⟨s, 0, 0, [], 0, []⟩
    have h1 : okM 0 1 (mdP ⟨s, 0, 0, [], 0, []⟩) := okM.setpar (take_ok (okM0 s)) (by omega) (Nat.le_refl _)
    exact okM.setnx h1 (by show 0 ≤ takeV 5 _ ∧ takeV 5 _ ≤ _; omega) (by omega)
  have h9 := takeV_rng (n := 9) (by omega) (md0 s)
  have hN : 1 ≤ mdN s ∧ mdN s ≤ 9 := by unfold mdN; omega
  have h1 : okM 0 81 (mdT s).2 := targ_ok (take_ok h0) hN.2
  have h2 : okM (mdN s).toNat 90 { (mdT s).2 with bs := List.replicate (mdN s).toNat default } := okM.mono (okM.setbs h1) (by omega)
  have h3 : fgM (mdN s).toNat 90 (mdB s) := fg_toS _ _ _ h2 (fun x hx => by rw [List.eq_of_mem_replicate hx]; exact ⟨rfl, rfl⟩)
  have h4 := fg_phiS ((mdN s).toNat - 1) 1 (List.replicate (mdN s).toNat 0) h3 (fun j => by have := rng_rep (n := (mdN s).toNat) j; omega)
  have h5 : fgM (mdN s).toNat 200 (mdH s).2 := h4.1.mono (by omega)
  have h6 : fgM (mdN s).toNat (200 + 3690 * 9) (mdD s).2 := (fg_turn (Nat.le_refl _) (by omega) (mdN s).toNat _ h5).mono (by omega)
  exact (fg_fin (by omega) (by omega) h4.2 ((mdN s).toNat - 1) 1 h6).mono (by omega)
theorem made3_good (s : List Int) : goodF (made3 s) := (mdF_fg s).2
theorem made3_cnt (s : List Int) : cntT (made3 s).Blocks ≤ 50000 := Nat.le_trans (mdF_fg s).1.2.2.2.2.2 (by omega)
theorem made3_par (s : List Int) : 0 ≤ (made3 s).Params ∧ (made3 s).Params ≤ 4 := (mdF_fg s).1.2.2.1
end Go.Proofs.YtehhjlkmbdhckaaGreat
namespace Go.Proofs.YtehhjlkmbdhckaaGreat
set_option linter.unusedVariables false
set_option linter.unusedSimpArgs false
set_option linter.unusedSectionVars false
open Go.JE
def made7 (s : List Int) : D.MFunc := of7 (made3 s) s.reverse
theorem rev_step {s : List Int} {k : Nat} (h : k < s.length) : (s.drop (s.length - k)).reverse ++ [ix s (s.length - 1 - k)] = (s.drop (s.length - (k + 1))).reverse := by
  have h1 : s.drop (s.length - (k + 1)) = ix s (s.length - 1 - k) :: s.drop (s.length - k) := by
    rw [drop_ix (l := s) (i := s.length - (k + 1)) (by omega)]
    rw [show s.length - (k + 1) = s.length - 1 - k by omega, show s.length - 1 - k + 1 = s.length - k by omega]
  rw [h1, List.reverse_cons]
end Go.Proofs.YtehhjlkmbdhckaaGreat
namespace Go.Proofs.YtehhjlkmbdhckaaGreat
set_option linter.unusedVariables false
set_option linter.unusedSimpArgs false
set_option linter.unusedSectionVars false
open Go.JE
theorem E65 : Ent Tryz.prog 65 := ⟨_, Tryz.func65, by kernel_rfl, by kernel_rfl⟩
theorem E66 : Ent Tryz.prog 66 := ⟨_, Tryz.func66, by kernel_rfl, by kernel_rfl⟩
set_option maxRecDepth 4000 in
theorem r7made_ct {a0 : Value} {s : List Int} : Ts Tryz.prog 37 #[a0] [dv (rL (rI .i64)) a0 s] [] rMFunc vMFunc (made7 s) := by
  refine jenter (args := [a0]) Tryz.func37 rfl rfl rfl fun w0 X => ?_
  refine jq (jr (jalc J28 Z fun g2 => jn (jx (jq (jr (jlit (r := (rI .i64)) (l := []) U22 I3 (by decide) Z Z Z ln fun g5 => ja Z (jn (jx (jq ?_)))))))))
  refine jq (jr (jm Z (jdq d0 fun q1 w1 => js (jln U22 d0 Z) (js (jsub Z Z (by omega)) (ja Z (jn (jx (jb ?_))))))))
  refine jlp (u3 fun (k : Nat) (vo : Value) (rl : List Int) => ⟨k ≤ s.length ∧ rl = (s.drop (s.length - k)).reverse, [dv (rL (rI .i64)) a0 s], [gl X.n (rI .i64) 3 vo rl, bx g2 28 [.int .i64 0, .slice none 0 0]], [(0, a0), (2, .pointer (some ⟨g2, 0, none⟩)), (3, vo), (4, .int .i64 ((s.length : Int) - 1 - ↑k))], s.length - k⟩) (0, (.slice (some ⟨g5, 0, none⟩) 0 0), []) ⟨Nat.zero_le _, by simp⟩ (dc d0 dn) (kc k0 (kc k0 kn)) ⟨Z, Z, Z, eqI (by omega), trivial⟩ ?_
  rintro ⟨k, vo, rl⟩; dsimp only [u3]; rintro ⟨hk, hrl⟩
  refine cgo k0 fun w2 => ?_
  have hrn : rl.length = k := by rw [hrl]; simp; omega
  refine jq (jq (jr (jm Z (js (jgeq Z Z) (jn (jx ?_))))))
  refine jif Z (fun hc1 => ?_) (fun hc1 => ?_)
  refine jsk (jx (jq (jb (jr (jm Z (jm Z (jm Z (js (jix (i := (s.length - 1 - k)) U22 Z3 d0 Z Z (by omega) (by omega)) (js (jlI (dix d0 (s.length - 1 - k) (by omega)) O3 Z) (japv U22 I3 (by decide) Z Z k0 Z (wI (wad (dix d0 (s.length - 1 - k) (by omega)))) (by omega) (fun _ => Z) fun v19 _ w3 => ja Z ?_))))))))))
  refine jn (jbn (jx (jr (jm Z (js (jsub Z Z (by omega)) (ja Z (jn ?_)))))))
  exact jag (k + 1, v19, rl ++ [ix s (s.length - 1 - k)]) ⟨by dsimp only; omega, by dsimp only; rw [← rev_step (by omega), hrl]⟩ (dc d0 dn) (kc k0 (kc k0 kn)) ⟨Z, Z, Z, eqI (by omega), trivial⟩
  refine jex (jtx (jtx (jbh (jx (jq (jr (jm Z (jcs E66 Z Z r3made_ct (dc d0 dn) kn fun c21 => jfz k0 (by omega) (jm Z (jcs E65 Z Z (r7of_ct (by first | exact made3_good _ | exact made3_cnt _ | (have h9 := made3_par s; omega) | omega) (by first | exact made3_good _ | exact made3_cnt _ | (have h9 := made3_par s; omega) | omega) (by first | exact made3_good _ | exact made3_cnt _ | (have h9 := made3_par s; omega) | omega)) (dc d1 (dc d0 dn)) kn fun c23 => ?_))))))))))
  refine jdq (rMFunc.c_Blocks d0) fun q7 w7 => jsta k0 Z28 Z Z Z ⟨Z, w7.one, trivial⟩ (saf Z) (jn (jx (jrt ?_)))
  exact jrcA (val := vMFunc) (b := of7 (made3 s) rl) (c := c23) Z Z k0 A28 Z28 Z (by unfold made7; rw [hrl, show s.length - k = 0 by omega]; rfl) d0
end Go.Proofs.YtehhjlkmbdhckaaGreat
namespace Go.JE
set_option linter.unusedVariables false
set_option linter.unusedSimpArgs false
set_option linter.unusedSectionVars false
variable {P : Program} {D D0 : List Dt} {L M : List Res} {e : Env} {X : Cx} {n : Fs} {w0 : World} {Q : Exit → Act → World → Prop}
section
variable {ops : Array Oper} {op : Op} {d : Nat} {ty : TypeId} {pos : String} {af : Array Edge} {rest : List Oper} {f : FuncId} {g : Operand} {xs : List Operand} {vs cs : List Value} {ts : Array TypeId}
theorem jgk {j t : Nat} {want : Bool} {u : Value} (hj : (ops[j]?).bind (·.dst) = some t) (hu : lk e t = some u) (hB : Gd u want true) (h : LH P n w0 ops Q X D L e (⟨some d, op, ty, pos, af, none⟩ :: rest)) (ht : Nat.blt t n.sz = true := by rfl) : LH P n w0 ops Q X D L e (⟨some d, op, ty, pos, af, some (j, want)⟩ :: rest) := fun F H hp a w hf hw => by
  have hwt := wanted_gd (o := ⟨some d, op, ty, pos, af, some (j, want)⟩) rfl hj ht hf hu hB
  have h1 := h F H hp a w hf hw
  unfold wpList at h1 ⊢
  rw [if_pos hwt]
  rw [if_pos (by simp [Region.wanted])] at h1
  exact h1
instance : Inhabited Value := ⟨undef⟩
end
section
open Go
variable {fn : Func} {m : Nat} {ι : Type} {val : ι → Value} {dr : ι → List Dt} {lr : Nat → ι → List Res}
end
end Go.JE
namespace Go.Proofs.YtehhjlkmbdhckaaGreat
set_option linter.unusedVariables false
set_option linter.unusedSimpArgs false
set_option linter.unusedSectionVars false
open Go.JE
def oneM (p : Int) (e : D.End) (l : List D.Mach) : D.MFunc := ⟨p, [⟨[], l, e⟩]⟩
attribute [local irreducible] runM funcM oneM
end Go.Proofs.YtehhjlkmbdhckaaGreat
namespace Go.Proofs.YtehhjlkmbdhckaaGreat
set_option linter.unusedVariables false
set_option linter.unusedSimpArgs false
set_option linter.unusedSectionVars false
open Go.JE
end Go.Proofs.YtehhjlkmbdhckaaGreat
namespace Go.JE
open Go
set_option linter.unusedVariables false
set_option linter.unusedSimpArgs false
set_option linter.unusedSectionVars false
variable {P : Program} {D D0 : List Dt} {L M : List Res} {e : Env} {X : Cx} {n : Fs} {w0 : World} {Q : Exit → Act → World → Prop}
section
variable {α : Type} {r : Rp α} {F : PH} {H : Heap} {x y : Operand} {T E : TypeId} {z : Value} {bytes B : Nat} {w2 : Value} {l m : List α} {N N2 : Nat} {ad : Addr}
end
section
variable {α : Type} {r : Rp α} {ops : Array Oper} {d : Nat} {ty : TypeId} {pos : String} {af : Array Edge} {rest : List Oper} {x y hx' mx' : Operand} {T E : TypeId} {z v w2 : Value} {bytes : Nat} {l m : List α} {k k' : IntKind} {I J : Int} {hi N : Nat}
end
section
variable {α : Type} {r : Rp α} {ops : Array Oper} {d : Nat} {ty : TypeId} {pos : String} {af : Array Edge} {rest : List Oper} {x y : Operand} {T E : TypeId} {z v w2 : Value} {bytes : Nat} {l m : List α} {N : Nat}
end
section
variable {α : Type} {r : Rp α} {x hx' mx' : Operand} {T E : TypeId} {v : Value} {l : List α} {k k' : IntKind} {I J : Int} {hi N : Nat}
end
end Go.JE
namespace Go.Proofs.YtehhjlkmbdhckaaGreat
set_option linter.unusedVariables false
set_option linter.unusedSimpArgs false
set_option linter.unusedSectionVars false
open Go.JE
end Go.Proofs.YtehhjlkmbdhckaaGreat
