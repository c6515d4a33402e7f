/- Lemmas that the claim is made of. Conditions: each lemma names its own. -/
import Derived.Test.YtehhjlkmbdhckaaGreatKB8
set_option linter.unusedSectionVars false
set_option linter.unusedSimpArgs false
set_option linter.unusedVariables false
namespace Go.Proofs.YtehhjlkmbdhckaaGreat
open Go.JE
theorem poIn {Γ : List Dt} {L : List Res} {m : D.Phi} {u : Value} {l : List D.In} (h : Nd Γ L (dv (rL rIn) u l)) : PO Γ L rPhi m 1 [u] { m with In := l } := fun F H a b c f hf =>
  ⟨⟨hf.1.1, hf.1.2⟩, (rL rIn).ext (fun i hi => by rw [show i = 0 from Nat.lt_one_iff.1 hi]; rfl) (show (rL rIn).ok F l (fun _ => u) from h F H a b c)⟩
theorem ix_set {α : Type} [Inhabited α] {l : List α} {i j : Nat} {a : α} (hj : j < l.length) : ix (l.set j a) i = if i = j then a else ix l i := by
  by_cases h : i = j
  · subst h; rw [if_pos rfl]; simp [ix, hj]
  · rw [if_neg h]; simp [ix, List.getElem?_set_ne (Ne.symm h)]
def fnM (m : Mk) : D.Func := ⟨m.par, m.bs⟩
def setTo (b : Nat) (l : List Int) (m : Mk) : Mk := { m with bs := m.bs.set b { (ix m.bs b) with Term := { (ix m.bs b).Term with To := l } } }
def toS (to : List (List Int)) : Nat → Nat → Mk → Mk
  | 0, _, m => m
  | k + 1, b, m => toS to k (b + 1) (setTo b (ix to b) m)
def addP (b : Nat) (m : Mk) : Mk := { (freshS m) with bs := (freshS m).bs.set b { (ix (freshS m).bs b) with Phis := (ix (freshS m).bs b).Phis ++ [⟨m.nx, []⟩] } }
def phiN (b : Nat) : Nat → Mk → Mk
  | 0, m => m
  | k + 1, m => phiN b k (addP b m)
def phiR (b : Nat) (ph : List Int) (m : Mk) : List Int :=
  if 1 < (preds3 (fnM m) b).length then ph.set b (takeV 4 m) else if takeV 6 m = 0 then ph.set b 1 else ph
def phiS : Nat → Nat → List Int → Mk → List Int × Mk
  | 0, _, ph, m => (ph, m)
  | k + 1, b, ph, m => phiS k (b + 1) (phiR b ph m) (phiN b (ix (phiR b ph m) b).toNat (takeS m))
def awayL (f : D.Func) (a : Nat) : List (List Bool) := (List.range a).map (fun (i : Nat) => reach3 f (i : Int))
def okA (f : D.Func) (dn : List Bool) (b a : Nat) : Bool := decide (a = b) || (ix dn a || ix (reach3 f (a : Int)) b)
def readyF (f : D.Func) (dn : List Bool) (b a : Nat) : Bool := !(ix dn b) && (List.range a).all (fun i => okA f dn b i)
def skipA (f : D.Func) (dn : List Bool) (b a : Nat) : Bool := !(decide (a = b)) && (!(ix dn a) || ix (reach3 f (a : Int)) b)
def lvB (f : D.Func) (dn : List Bool) (b a : Nat) : List Int := if skipA f dn b a then [] else (ix f.Blocks a).Phis.map (·.Dst) ++ (ix f.Blocks a).Ins.flatMap makes3
def lvF (f : D.Func) (dn : List Bool) (b a : Nat) : List Int := numsL f.Params.toNat ++ (List.range a).flatMap (fun i => lvB f dn b i)
def insN (b : Nat) : Nat → Mk → Mk
  | 0, m => m
  | k + 1, m => insN b k (insS b m)
def lvM (n b : Nat) (dn : List Bool) (m : Mk) : Mk := { m with lv := lvF (fnM m) dn b n }
def blkM (n : Nat) (to : List (List Int)) (b : Nat) (dn : List Bool) (m : Mk) : Mk := endS b (ix to b) (insN b (takeV 7 (lvM n b dn m)).toNat (takeS (lvM n b dn m)))
def rowS (n : Nat) (to : List (List Int)) : Nat → Nat → List Bool → Mk → List Bool × Mk
  | 0, _, dn, m => (dn, m)
  | k + 1, b, dn, m => if readyF (fnM m) dn b n then rowS n to k (b + 1) (dn.set b true) (blkM n to b (dn.set b true) m) else rowS n to k (b + 1) dn m
def turnS (n : Nat) (to : List (List Int)) : Nat → List Bool → Mk → List Bool × Mk
  | 0, dn, m => (dn, m)
  | k + 1, dn, m => turnS n to k (rowS n to n 0 dn m).1 (rowS n to n 0 dn m).2
def inX (p : Int) (m : Mk) : D.In × Mk :=
  if (stand3 (fnM m) p).length = 0 then (⟨p, ix [(wordS m).nx] (takeV 1 (constS p (wordV m) (wordS m))).toNat⟩, takeS (constS p (wordV m) (wordS m)))
  else (⟨p, ix (stand3 (fnM m) p) (takeV (stand3 (fnM m) p).length m).toNat⟩, takeS m)
def inS (p : List Int) : Nat → Nat → List D.In → Mk → List D.In × Mk
  | 0, _, l, m => (l, m)
  | c + 1, k, l, m => inS p c (k + 1) (l ++ [(inX (ix p k) m).1]) (inX (ix p k) m).2
def putIn (b i : Nat) (l : List D.In) (m : Mk) : Mk := { m with bs := m.bs.set b { (ix m.bs b) with Phis := (ix m.bs b).Phis.set i { (ix (ix m.bs b).Phis i) with In := l } } }
def inP (p : List Int) (b : Nat) : Nat → Nat → Mk → Mk
  | 0, _, m => m
  | c + 1, i, m => inP p b c (i + 1) (putIn b i (inS p p.length 0 [] m).1 (inS p p.length 0 [] m).2)
def finS (ph : List Int) : Nat → Nat → Mk → Mk
  | 0, _, m => m
  | c + 1, b, m => finS ph c (b + 1) (inP (preds3 (fnM m) b) b (ix ph b).toNat 0 m)
def mdP (m : Mk) : Mk := { (takeS m) with par := takeV 5 m }
def mdX (m : Mk) : Mk := { (mdP m) with nx := (mdP m).par }
def md0 (s : List Int) : Mk := mdX ⟨s, 0, 0, [], 0, []⟩
def mdN (s : List Int) : Int := 1 + takeV 9 (md0 s)
def mdT (s : List Int) : List (List Int) × Mk := targM (mdN s) (takeS (md0 s))
def mdB (s : List Int) : Mk := toS (mdT s).1 (mdN s).toNat 0 { (mdT s).2 with bs := List.replicate (mdN s).toNat default }
def mdH (s : List Int) : List Int × Mk := phiS ((mdN s).toNat - 1) 1 (List.replicate (mdN s).toNat 0) (mdB s)
def mdD (s : List Int) : List Bool × Mk := turnS (mdN s).toNat (mdT s).1 (mdN s).toNat (List.replicate (mdN s).toNat false) (mdH s).2
def mdF (s : List Int) : Mk := finS (mdH s).1 ((mdN s).toNat - 1) 1 (mdD s).2
def made3 (s : List Int) : D.Func := fnM (mdF s)
theorem awayL_s (f : D.Func) (a : Nat) : awayL f (a + 1) = awayL f a ++ [reach3 f (a : Int)] := by simp [awayL, List.range_succ]
theorem awayL_len (f : D.Func) (a : Nat) : (awayL f a).length = a := by simp [awayL]
theorem awayL_ix (f : D.Func) {n a : Nat} (h : a < n) : ix (awayL f n) a = reach3 f (a : Int) := by rw [ix_eq (by rw [awayL_len]; exact h)]; simp [awayL]
theorem readyF_s (f : D.Func) (dn : List Bool) (b a : Nat) : readyF f dn b (a + 1) = (readyF f dn b a && okA f dn b a) := by simp [readyF, List.range_succ, Bool.and_assoc]
theorem lvF_s (f : D.Func) (dn : List Bool) (b a : Nat) : lvF f dn b (a + 1) = lvF f dn b a ++ lvB f dn b a := by simp [lvF, List.range_succ]
theorem fm_len {l : List D.Ins} : (l.flatMap makes3).length ≤ 2 * l.length := by
  induction l with
  | nil => simp
  | cons x l ih => rw [List.flatMap_cons, List.length_append, List.length_cons]; have := makes3_len x; omega
theorem cntT_take : ∀ {l : List D.Block} {k : Nat}, k < l.length → cntT (l.take (k + 1)) = cntT (l.take k) + ((ix l k).Phis.length + (ix l k).Ins.length + 1)
  | x :: l, 0, _ => by simp [cntT, ix_zero]
  | x :: l, k + 1, h => by rw [List.take_succ_cons, List.take_succ_cons, cntT, cntT, ix_cons, cntT_take (l := l) (k := k) (by simpa using h)]; omega
theorem cntT_le : ∀ (l : List D.Block) (k : Nat), cntT (l.take k) ≤ cntT l
  | [], k => by simp [cntT]
  | x :: l, 0 => by simp [cntT]
  | x :: l, k + 1 => by rw [List.take_succ_cons, cntT, cntT]; have := cntT_le l k; omega
theorem lvF_len {f : D.Func} {dn : List Bool} {b : Nat} : ∀ {a : Nat}, a ≤ f.Blocks.length → (lvF f dn b a).length ≤ f.Params.toNat + 2 * cntT (f.Blocks.take a)
  | 0, _ => by simp [lvF, numsL_len, cntT]
  | a + 1, h => by
    have h1 := lvF_len (f := f) (dn := dn) (b := b) (a := a) (by omega)
    rw [lvF_s, List.length_append, cntT_take (by omega)]
    have h2 : (lvB f dn b a).length ≤ (ix f.Blocks a).Phis.length + 2 * (ix f.Blocks a).Ins.length := by
      unfold lvB; split
      · simp
      · rw [List.length_append, List.length_map]; have := fm_len (l := (ix f.Blocks a).Ins); omega
    omega
theorem rng_set {ph : List Int} {b : Nat} {x : Int} (h : ∀ j, 0 ≤ ix ph j ∧ ix ph j ≤ 3) (hx : 0 ≤ x ∧ x ≤ 3) : ∀ j, 0 ≤ ix (ph.set b x) j ∧ ix (ph.set b x) j ≤ 3 := by
  intro j
  by_cases e : b < ph.length
  · rw [ix_set e]; split
    · exact hx
    · exact h j
  · rw [List.set_eq_of_length_le (by omega)]; exact h j
theorem rng_rep {n : Nat} : ∀ j, 0 ≤ ix (List.replicate n (0 : Int)) j ∧ ix (List.replicate n (0 : Int)) j ≤ 3 := by
  intro j; by_cases h : j < n <;> simp [ix, h]
def pl (m : Mk) : List Nat := m.bs.map (fun x => x.Phis.length)
theorem pl_set {m : Mk} {j : Nat} {b : D.Block} (h : b.Phis.length = (ix m.bs j).Phis.length) : (m.bs.set j b).map (fun x => x.Phis.length) = pl m := by
  unfold pl
  by_cases hj : j < m.bs.length
  · rw [List.map_set]
    refine List.ext_getElem (by simp) (fun i h1 h2 => ?_)
    rw [List.getElem_set]
    split
    · rename_i e; subst e; rw [h, ix_eq hj]; simp
    · rfl
  · rw [List.set_eq_of_length_le (by omega)]
theorem pl_add {b : Int} {i : D.Ins} {m : Mk} : pl (addS b i m) = pl m := pl_set (m := m) rfl
theorem pl_const {b n : Int} {m : Mk} : pl (constS b n m) = pl m := pl_add (m := freshS m)
theorem pl_value {m : Mk} : pl (valueS m) = pl m := by unfold valueS; split <;> rfl
theorem pl_some {b : Int} {m : Mk} : pl (someS b m) = pl m := by
  have h0 : pl (someM0 m) = pl m := by unfold someM0; split; exact pl_value; exact pl_value
  unfold someS; split
  · exact pl_const.trans h0
  · exact h0
theorem pl_mem1 {b : Int} {m : Mk} : pl (mem1 b m).2 = pl m := by
  unfold mem1; dsimp only; split
  · exact pl_add.trans (pl_add.trans (pl_const.trans (pl_some.trans (pl_const (m := takeS m)))))
  · exact pl_const (m := takeS m)
theorem pl_mem2 {m : Mk} : pl (mem2 m).2 = pl m := by unfold mem2; dsimp only; split <;> rfl
theorem pl_mem {b : Int} {s : Bool} {m : Mk} : pl (memS b s m) = pl m := by
  unfold memS; dsimp only; split
  · exact pl_add.trans (pl_some.trans (pl_mem2.trans pl_mem1))
  · exact (pl_add (m := freshS _)).trans (pl_mem2.trans pl_mem1)
theorem pl_args {b : Int} : ∀ (n : Nat) (l : List Int) (m : Mk), pl (argsL b n l m).2 = pl m
  | 0, _, _ => rfl
  | n + 1, l, m => (pl_args n _ _).trans pl_some
theorem pl_ins {b : Int} {m : Mk} : pl (insS b m) = pl m := by
  have h2 : pl (someS b (someS b (takeS m))) = pl m := pl_some.trans (pl_some (m := takeS m))
  unfold insS; dsimp only
  repeat' split
  · exact (pl_add (m := freshS _)).trans ((pl_const (m := takeS (takeS _))).trans h2)
  · exact (pl_add (m := freshS (takeS _))).trans h2
  · exact (pl_add (m := freshS _)).trans h2
  · exact (pl_add (m := freshS _)).trans ((pl_const (m := takeS (takeS _))).trans ((pl_const (m := takeS _)).trans (pl_some (m := takeS m))))
  · exact (pl_add (m := freshS (takeS _))).trans ((pl_const (m := takeS _)).trans (pl_some (m := takeS m)))
  · exact pl_mem (m := takeS m)
  · exact (pl_add (m := takeS (freshS _))).trans (pl_args _ _ _)
  · exact (pl_add (m := freshS (freshS _))).trans h2
  · exact pl_const (m := wordS (takeS m))
theorem pl_setT {b : Int} {t : D.Term} {m : Mk} : pl (setT b t m) = pl m := pl_set (m := m) rfl
theorem pl_end {b : Int} {l : List Int} {m : Mk} : pl (endS b l m) = pl m := by
  unfold endS; dsimp only
  repeat' split
  · exact pl_setT (m := takeS (takeS m))
  · exact pl_setT.trans (pl_some (m := takeS m))
  · exact pl_setT (m := takeS m)
  · exact pl_setT
  · exact pl_setT.trans ((pl_add (m := takeS (freshS _))).trans ((pl_some (m := takeS _)).trans pl_some))
  · exact (pl_setT (m := takeS _)).trans pl_some
  · exact pl_setT.trans ((pl_add (m := freshS _)).trans (pl_const.trans pl_some))
theorem pl_insN {b : Nat} : ∀ (n : Nat) (m : Mk), pl (insN b n m) = pl m
  | 0, _ => rfl
  | n + 1, m => (pl_insN n _).trans pl_ins
theorem pl_putIn {b i : Nat} {l : List D.In} {m : Mk} : pl (putIn b i l m) = pl m := pl_set (m := m) (by simp)
theorem pl_get {m m' : Mk} (h : pl m = pl m') (j : Nat) : (ix m.bs j).Phis.length = (ix m'.bs j).Phis.length := by
  have hl : m.bs.length = m'.bs.length := by have := congrArg List.length h; simpa [pl] using this
  by_cases hj : j < m.bs.length
  · have h1 : (pl m).getD j 0 = (pl m').getD j 0 := by rw [h]
    simpa [pl, List.getD, hj, hl ▸ hj, ix] using h1
  · have hj' : ¬ j < m'.bs.length := by omega
    simp [ix, hj, hj']
theorem preds3_rng {f : D.Func} {b : Int} : ∀ x ∈ preds3 f b, 0 ≤ x ∧ x < f.Blocks.length := by
  have : ∀ k, ∀ x ∈ predsT3 f.Blocks k b, 0 ≤ x ∧ x < k := by
    intro k
    induction k with
    | zero => intro x hx; cases hx
    | succ k ih =>
      intro x hx
      rw [predsT3] at hx
      rcases List.mem_append.1 hx with h | h
      · have := ih x h; omega
      · split at h
        · simp at h; subst h; omega
        · cases h
  exact this _
theorem preds3_len (f : D.Func) (b : Int) : (preds3 f b).length ≤ f.Blocks.length := predsT3_len _ _ _
theorem fm_snoc {l : List D.Ins} {k : Nat} (hk : k < l.length) : (l.take (k + 1)).flatMap makes3 = (l.take k).flatMap makes3 ++ makes3 (ix l k) := by rw [take_ix hk]; simp
def phiOK (b : Nat) (ph : List Int) (m : Mk) : Prop := (∀ j, (ix m.bs j).Phis.length = if j < b then (ix ph j).toNat else 0) ∧ ∀ j, b ≤ j → ix ph j = 0
theorem phi_start {m m' : Mk} {n : Nat} (h : pl m = pl m') (h2 : m'.bs = List.replicate n default) : phiOK 1 (List.replicate n 0) m := by
  have h0 : ∀ j, ix (List.replicate n (0 : Int)) j = 0 := fun j => by by_cases hj : j < n <;> simp [ix, hj]
  refine ⟨fun j => ?_, fun j _ => h0 j⟩
  rw [pl_get h, h2, h0]
  have : (ix (List.replicate n (default : D.Block)) j) = default := by by_cases hj : j < n <;> simp [ix, hj]
  rw [this]; split <;> rfl
theorem addP_len {b : Nat} {m : Mk} (hb : b < m.bs.length) (j : Nat) : (ix (addP b m).bs j).Phis.length = (ix m.bs j).Phis.length + if j = b then 1 else 0 := by
  show (ix (m.bs.set b _) j).Phis.length = _
  rw [ix_set hb]
  split
  · rename_i e; subst e; simp [freshS]
  · rfl
theorem phiN_len {b : Nat} : ∀ (k : Nat) (m : Mk), b < m.bs.length → ∀ j, (ix (phiN b k m).bs j).Phis.length = (ix m.bs j).Phis.length + if j = b then k else 0
  | 0, m, _, j => by simp [phiN]
  | k + 1, m, hb, j => by
    rw [phiN, phiN_len k (addP b m) (by simpa [addP, freshS] using hb) j, addP_len hb]
    split <;> omega
theorem phi_step {b : Nat} {ph ph' : List Int} {m : Mk} (h : phiOK b ph m) (hb : b < m.bs.length) (hl : b < ph.length) (hp : ph' = phiR b ph m) : phiOK (b + 1) ph' (phiN b (ix ph' b).toNat (takeS m)) := by
  have hne : ∀ j, j ≠ b → ix ph' j = ix ph j := fun j hj => by
    rw [hp]; unfold phiR; (repeat' split) <;> first | rfl | (rw [ix_set hl, if_neg hj])
  refine ⟨fun j => ?_, fun j hj => by rw [hne j (by omega)]; exact h.2 j (by omega)⟩
  rw [phiN_len _ _ (by exact hb) j]
  show (ix m.bs j).Phis.length + _ = _
  rw [h.1 j]
  by_cases e : j = b
  · subst e; rw [if_neg (by omega), if_pos rfl, if_pos (by omega)]; omega
  · rw [if_neg e, hne j e]
    by_cases e2 : j < b
    · rw [if_pos e2, if_pos (by omega)]; rfl
    · rw [if_neg e2, if_neg (by omega)]
theorem pl_setTo {b : Nat} {l : List Int} {m : Mk} : pl (setTo b l m) = pl m := pl_set (m := m) rfl
theorem stand3_len (f : D.Func) (b : Int) : (stand3 f b).length ≤ f.Params.toNat + 2 * cntT f.Blocks := by
  have h : ∀ l : List D.jacquardref03_Thing, (∀ t ∈ l, t.Makes.length ≤ 2) → (standL f b l).length ≤ 2 * l.length := by
    intro l
    induction l with
    | nil => intro _; simp [standL]
    | cons x l ih =>
      intro hl
      have h1 := ih (fun t ht => hl t (List.mem_cons_of_mem _ ht))
      have h2 := hl x (List.mem_cons_self ..)
      unfold standL at h1 ⊢
      rw [List.flatMap_cons, List.length_append, List.length_cons]
      split
      · omega
      · simp only [List.length_nil]; omega
  have h3 := h (things3 f) (things3_mk f)
  rw [things3_len] at h3
  unfold stand3
  rw [List.length_append, numsL_len]; omega
theorem phiR_rng {b : Nat} {ph : List Int} {m : Mk} (h : ∀ j, 0 ≤ ix ph j ∧ ix ph j ≤ 3) : ∀ j, 0 ≤ ix (phiR b ph m) j ∧ ix (phiR b ph m) j ≤ 3 := by
  have h4 := takeV_rng (n := 4) (by omega) m
  unfold phiR; split
  · exact rng_set h (by omega)
  split
  · exact rng_set h (by omega)
  · exact h
theorem phiR_len {b : Nat} {ph : List Int} {m : Mk} : (phiR b ph m).length = ph.length := by unfold phiR; (repeat' split) <;> simp
structure Mq where
  s : List Int
  k : Int
  nx : Int
  l : List D.Mach
def takeQV (n : Int) (m : Mq) : Int := Int.tmod (Int.tmod (if m.k < m.s.length then ix m.s m.k.toNat else 0) n + n) n
def takeQ (m : Mq) : Mq := { m with k := m.k + 1 }
def tempQ (m : Mq) : Mq := { m with nx := m.nx + 1 }
def putQ (i : D.Mach) (m : Mq) : Mq := { m with l := m.l ++ [i] }
def copV (r : Int) (m : Mq) : Int := if 0 < takeQV 4 m then r else m.nx
def copQ (r : Int) (m : Mq) : Mq := if 0 < takeQV 4 m then takeQ m else putQ ⟨1, m.nx, 0, r, 0, 0, 0, []⟩ (tempQ (takeQ m))
def smallQ (n : Int) : Bool := decide (-32768 ≤ n) && decide (n < 32768)
def wordQ0 (n : Int) (m : Mq) : Mq := if smallQ n then takeQ m else m
def wordQ (d n : Int) (m : Mq) : Mq := if smallQ n = true ∧ takeQV 2 m = 0 then putQ ⟨3, d, 0, 0, 0, 0, n, []⟩ (wordQ0 n m) else putQ ⟨4, d, 0, 0, 0, 0, n, []⟩ (wordQ0 n m)
def opQ (x : D.Ins) (d a b : Int) : D.Mach := ⟨x.Op - 2 + 5, d, 0, a, b, 0, 0, []⟩
def two3 (x : D.Ins) (a b : Int) (m : Mq) : Mq :=
  if takeQV 6 m = 0 then putQ ⟨18, x.Dst, 0, m.nx + 1, 0, 0, -100, []⟩ (putQ ⟨18, m.nx + 1, 0, m.nx, 0, 0, 100, []⟩ (putQ (opQ x m.nx a b) (tempQ (tempQ (takeQ m)))))
  else if takeQV 6 m = 1 then putQ ⟨20, x.Dst, 0, m.nx, 0, 0, 0, []⟩ (putQ (opQ x m.nx a b) (tempQ (takeQ m)))
  else if takeQV 6 m = 2 ∧ x.Op = 4 then putQ ⟨23, x.Dst, 0, a, b, m.nx, 0, []⟩ (wordQ m.nx 0 (tempQ (takeQ m)))
  else putQ (opQ x x.Dst a b) (takeQ m)
def twoQ (x : D.Ins) (m : Mq) : Mq := two3 x (copV (ix x.Args 0) m) (copV (ix x.Args 1) (copQ (ix x.Args 0) m)) (copQ (ix x.Args 1) (copQ (ix x.Args 0) m))
def byteQ (n : Int) : Bool := decide (0 ≤ n) && decide (n ≤ 255)
def memQ0 (n : Int) (m : Mq) : Mq := if byteQ n then takeQ m else m
def mem2Q (x : D.Ins) (a : Int) (m : Mq) : Mq :=
  if byteQ x.Imm = true ∧ 0 < takeQV 3 m then (if x.Op = 15 then putQ ⟨24, x.Dst, 0, a, 0, 0, x.Imm, []⟩ (takeQ m) else putQ ⟨26, 0, 0, a, ix x.Args 1, 0, x.Imm, []⟩ (takeQ m))
  else if x.Op = 15 then putQ ⟨25, x.Dst, 0, a, m.nx, 0, 0, []⟩ (wordQ m.nx x.Imm (tempQ (memQ0 x.Imm m)))
  else putQ ⟨27, 0, 0, a, m.nx, ix x.Args 1, 0, []⟩ (wordQ m.nx x.Imm (tempQ (memQ0 x.Imm m)))
def memQ (x : D.Ins) (m : Mq) : Mq := mem2Q x (copV (ix x.Args 0) m) (copQ (ix x.Args 0) m)
def insQ (x : D.Ins) (m : Mq) : Mq :=
  if x.Op = 1 then wordQ x.Dst x.Imm m
  else if x.Op = 15 ∨ x.Op = 16 then memQ x m
  else if x.Op = 17 then putQ ⟨28, x.Dst, 0, 0, 0, 0, x.Imm, x.Args⟩ m
  else if x.Op = 18 then putQ ⟨29, x.Dst, x.Two, ix x.Args 0, ix x.Args 1, 0, 0, []⟩ m
  else twoQ x m
def endV (t : D.Term) (m : Mq) : D.End :=
  if t.Kind = 1 then ⟨1, 0, 0, t.To, t.Imm⟩
  else if t.Kind = 2 then
    (if 1 < takeQV 4 m then ⟨2, ix t.Args 0, 0, t.To, t.Imm⟩
    else if takeQV 4 m = 1 then ⟨3, m.nx, ix t.Args 0, [ix t.To 1, ix t.To 0], t.Imm⟩
    else ⟨5, m.nx, ix t.Args 0, t.To, t.Imm⟩)
  else if t.Kind = 3 then ⟨6, ix t.Args 0, 0, t.To, t.Imm⟩
  else if t.Kind = 4 then (if t.Args.length = 0 then ⟨7, -1, 0, t.To, t.Imm⟩ else ⟨7, copV (ix t.Args 0) m, 0, t.To, t.Imm⟩)
  else ⟨8, 0, 0, t.To, t.Imm⟩
def endQ (t : D.Term) (m : Mq) : Mq :=
  if t.Kind = 2 then (if 1 < takeQV 4 m then takeQ m else wordQ m.nx 0 (tempQ (takeQ m)))
  else if t.Kind = 4 ∧ t.Args.length ≠ 0 then copQ (ix t.Args 0) m
  else m
def okQ (nb c : Nat) (m : Mq) : Prop := (0 ≤ m.k ∧ m.k ≤ c) ∧ (0 ≤ m.nx ∧ m.nx ≤ nb + c) ∧ m.l.length ≤ c ∧ nb ≤ 1000000
theorem okQ.bnd {nb c : Nat} {m : Mq} (h : okQ nb c m) : 0 ≤ m.k ∧ m.k ≤ c ∧ 0 ≤ m.nx ∧ m.nx ≤ nb + c ∧ m.l.length ≤ c ∧ nb ≤ 1000000 := ⟨h.1.1, h.1.2, h.2.1.1, h.2.1.2, h.2.2.1, h.2.2.2⟩
theorem okQ.mono {nb c c' : Nat} {m : Mq} (h : okQ nb c m) (hc : c ≤ c') : okQ nb c' m := by unfold okQ at *; omega
theorem okQ.setk {nb c c' : Nat} {m : Mq} {x : Int} (h : okQ nb c m) (hx : 0 ≤ x ∧ x ≤ c') (hc : c ≤ c') : okQ nb c' { m with k := x } := ⟨hx, (h.mono hc).2⟩
theorem okQ.setnx {nb c c' : Nat} {m : Mq} {x : Int} (h : okQ nb c m) (hx : 0 ≤ x ∧ x ≤ nb + c') (hc : c ≤ c') : okQ nb c' { m with nx := x } := ⟨(h.mono hc).1, hx, (h.mono hc).2.2⟩
theorem okQ.setl {nb c c' : Nat} {m : Mq} {x : List D.Mach} (h : okQ nb c m) (hx : x.length ≤ c') (hc : c ≤ c') : okQ nb c' { m with l := x } := ⟨(h.mono hc).1, (h.mono hc).2.1, hx, h.2.2.2⟩
theorem okQ0 {s : List Int} {n : Int} {nb : Nat} (h : 0 ≤ n ∧ n ≤ nb) (hb : nb ≤ 1000000) : okQ nb 0 ⟨s, 0, n, []⟩ := by unfold okQ; simp; omega
section
variable {nb c : Nat} {m : Mq}
theorem takeQ_ok (h : okQ nb c m) : okQ nb (c + 1) (takeQ m) := h.setk (by have := h.bnd; omega) (by omega)
theorem tempQ_ok (h : okQ nb c m) : okQ nb (c + 1) (tempQ m) := h.setnx (by have := h.bnd; omega) (by omega)
theorem putQ_ok {i : D.Mach} (h : okQ nb c m) : okQ nb (c + 1) (putQ i m) := h.setl (by have := h.bnd; simp; omega) (by omega)
theorem copQ_ok {r : Int} (h : okQ nb c m) : okQ nb (c + 3) (copQ r m) := by
  unfold copQ; split
  · exact (takeQ_ok h).mono (by omega)
  · exact putQ_ok (tempQ_ok (takeQ_ok h))
theorem wordQ0_ok {n : Int} (h : okQ nb c m) : okQ nb (c + 1) (wordQ0 n m) := by unfold wordQ0; split; exact takeQ_ok h; exact h.mono (by omega)
theorem wordQ_ok {d n : Int} (h : okQ nb c m) : okQ nb (c + 2) (wordQ d n m) := by
  unfold wordQ; split <;> exact putQ_ok (wordQ0_ok h)
theorem two3_ok {x : D.Ins} {a b : Int} (h : okQ nb c m) : okQ nb (c + 6) (two3 x a b m) := by
  unfold two3
  repeat' split
  · exact putQ_ok (putQ_ok (putQ_ok (tempQ_ok (tempQ_ok (takeQ_ok h)))))
  · exact (putQ_ok (putQ_ok (tempQ_ok (takeQ_ok h)))).mono (by omega)
  · exact (putQ_ok (wordQ_ok (tempQ_ok (takeQ_ok h)))).mono (by omega)
  · exact (putQ_ok (takeQ_ok h)).mono (by omega)
theorem twoQ_ok {x : D.Ins} (h : okQ nb c m) : okQ nb (c + 12) (twoQ x m) := two3_ok (copQ_ok (copQ_ok h))
theorem mem2Q_ok {x : D.Ins} {a : Int} (h : okQ nb c m) : okQ nb (c + 5) (mem2Q x a m) := by
  have h1 : okQ nb (c + 1) (memQ0 x.Imm m) := by unfold memQ0; split; exact takeQ_ok h; exact h.mono (by omega)
  unfold mem2Q
  repeat' split
  · exact (putQ_ok (takeQ_ok h)).mono (by omega)
  · exact (putQ_ok (takeQ_ok h)).mono (by omega)
  all_goals exact putQ_ok (wordQ_ok (tempQ_ok h1))
theorem memQ_ok {x : D.Ins} (h : okQ nb c m) : okQ nb (c + 8) (memQ x m) := mem2Q_ok (copQ_ok h)
theorem insQ_ok {x : D.Ins} (h : okQ nb c m) : okQ nb (c + 12) (insQ x m) := by
  unfold insQ
  repeat' split
  · exact (wordQ_ok h).mono (by omega)
  · exact (memQ_ok h).mono (by omega)
  · exact (putQ_ok h).mono (by omega)
  · exact (putQ_ok h).mono (by omega)
  · exact twoQ_ok h
theorem endQ_ok {t : D.Term} (h : okQ nb c m) : okQ nb (c + 4) (endQ t m) := by
  unfold endQ
  repeat' split
  · exact (takeQ_ok h).mono (by omega)
  · exact wordQ_ok (tempQ_ok (takeQ_ok h))
  · exact (copQ_ok h).mono (by omega)
  · exact h.mono (by omega)
theorem takeQV_rng {n : Int} (hn : 0 < n) (m : Mq) : 0 ≤ takeQV n m ∧ takeQV n m < n := by
  unfold takeQV
  generalize (if m.k < m.s.length then ix m.s m.k.toNat else 0) = x
  have h1 := Int.lt_tmod_of_pos x hn
  exact ⟨Int.tmod_nonneg _ (by omega), Int.tmod_lt_of_pos _ hn⟩
theorem takeQ_s : (takeQ m).s = m.s := rfl
theorem tempQ_s : (tempQ m).s = m.s := rfl
theorem putQ_s {i : D.Mach} : (putQ i m).s = m.s := rfl
theorem copQ_s {r : Int} : (copQ r m).s = m.s := by unfold copQ; split <;> rfl
theorem wordQ0_s {n : Int} : (wordQ0 n m).s = m.s := by unfold wordQ0; split <;> rfl
theorem wordQ_s {d n : Int} : (wordQ d n m).s = m.s := by unfold wordQ; split <;> exact wordQ0_s
theorem two3_s {x : D.Ins} {a b : Int} : (two3 x a b m).s = m.s := by
  unfold two3; (repeat' split) <;> first | rfl | (simp only [putQ_s, wordQ_s, tempQ_s, takeQ_s])
theorem twoQ_s {x : D.Ins} : (twoQ x m).s = m.s := two3_s.trans (copQ_s.trans copQ_s)
theorem memQ0_s {n : Int} : (memQ0 n m).s = m.s := by unfold memQ0; split <;> rfl
theorem mem2Q_s {x : D.Ins} {a : Int} : (mem2Q x a m).s = m.s := by
  unfold mem2Q; (repeat' split) <;> first | rfl | (simp only [putQ_s, wordQ_s, tempQ_s, takeQ_s, memQ0_s])
theorem memQ_s {x : D.Ins} : (memQ x m).s = m.s := mem2Q_s.trans copQ_s
theorem insQ_s {x : D.Ins} : (insQ x m).s = m.s := by
  unfold insQ; (repeat' split) <;> first | rfl | exact wordQ_s | exact memQ_s | exact twoQ_s
theorem endQ_s {t : D.Term} : (endQ t m).s = m.s := by
  unfold endQ; (repeat' split) <;> first | rfl | exact copQ_s | (simp only [putQ_s, wordQ_s, tempQ_s, takeQ_s])
end
theorem dacv {Γ : List Dt} {L : List Res} {α β : Type} {r : Rp α} (vl : α → β → Value) {a a' : α} {c : β} (e : a' = a) (h : Nd Γ L (da r (vl a c) a)) : Nd Γ L (da r (vl a' c) a') := by subst e; exact h
abbrev okSq (nb c : Nat) (S : List Int) (m : Mq) : Prop := okQ nb c m ∧ m.s = S
abbrev bndq (nb c : Nat) (m : Mq) : Prop := 0 ≤ m.k ∧ m.k ≤ c ∧ 0 ≤ m.nx ∧ m.nx ≤ nb + c ∧ m.l.length ≤ c ∧ nb ≤ 1000000
theorem okSq.mono {nb c c' : Nat} {S : List Int} {m : Mq} (h : okSq nb c S m) (hc : c ≤ c') : okSq nb c' S m := ⟨okQ.mono h.1 hc, h.2⟩
abbrev mcq (m : Mq) (vs al : Value) : List Value := [vs, .int .i64 m.k, .int .i64 m.nx, al]
abbrev KAq (P : Program) (f : FuncId) (args : List Value) (D0 : List Dt) (g : Nat) (vs al : Value) (S : List Int) (m st : Mq) (val : Value) : Prop :=
  Tr P f (.pointer (some ⟨g, 0, none⟩) :: args).toArray (dv (rL (rI .i64)) vs S :: D0) [bx g 155 (mcq m vs al)] (fun _ : Unit => val) (fun _ => []) (fun _ _ => [bx g 155 (mcq st vs al)])
abbrev KEq {α β : Type} (P : Program) (f : FuncId) (args : List Value) (D0 : List Dt) (g : Nat) (vs al : Value) (S : List Int) (B : Nat) (r : Rp α) (vl : α → β → Value) (a : α) (m st : Mq) : Prop :=
  Tr P f (.pointer (some ⟨g, 0, none⟩) :: args).toArray (dv (rL (rI .i64)) vs S :: D0) [bx g 155 (mcq m vs al), gl B rMach 69 al m.l] (fun p : Value × β => vl a p.2) (fun p => [da r (vl a p.2) a]) (fun _ p => [bx g 155 (mcq st vs p.1), gl B rMach 69 p.1 st.l])
abbrev KBq (P : Program) (f : FuncId) (args : List Value) (D0 : List Dt) (g : Nat) (vs al : Value) (S : List Int) (B : Nat) (E : List Dt) (m st : Mq) (val : Value) : Prop :=
  Tr P f (.pointer (some ⟨g, 0, none⟩) :: args).toArray (dv (rL (rI .i64)) vs S :: D0) [bx g 155 (mcq m vs al), gl B rMach 69 al m.l] (fun _ : Value => val) (fun _ => E) (fun _ p => [bx g 155 (mcq st vs p), gl B rMach 69 p st.l])
section
variable {P : Program} {Γ Γ' E D0 : List Dt} {L M N : List Res} {e : Env} {X : Cx} {n : Fs} {w0 : World} {Q : Exit → Act → World → Prop} {ops : Array Oper} {d : Nat} {ty : TypeId} {pos : String} {af : Array Edge} {rest : List Oper} {f : FuncId} {h : Operand} {xs : List Operand} {ws : List Value} {ts : Array TypeId} {g B nb c : Nat} {vs al val : Value} {S : List Int} {m st : Mq}
theorem ka_nq (h : KAq P f ws D0 g vs al S m st val) : KAq P f (ws ++ []) D0 g vs al S m st val := by rw [List.append_nil]; exact h
theorem kb_nq (h : KBq P f ws D0 g vs al S B E m st val) : KBq P f (ws ++ []) D0 g vs al S B E m st val := by rw [List.append_nil]; exact h
theorem jzr (hE : Ent P f) (hf : ev e h = some (.func (.func f) #[] #[])) (hl : evl e xs = some (.pointer (some ⟨g, 0, none⟩) :: ws)) (hT : KAq P f ws D0 g vs al S m st val) (hd : Sd Γ L (dv (rL (rI .i64)) vs S :: D0)) (hk : Tks L [bx g 155 (mcq m vs al), gl B rMach 69 al m.l] M) (ok : okSq nb c S st)
    (k : ∀ x, x = st → okSq nb c S x → bndq nb c x → LH P n w0 ops Q X Γ (bx g 155 (mcq x vs al) :: gl B rMach 69 al x.l :: M) ((d, val) :: e) rest) (h1 : st.l = m.l := by rfl) (hd1 : Nat.blt d n.sz = true := by rfl) : LH P n w0 ops Q X Γ L e (⟨some d, .call { callee := .value h, args := xs.toArray, argTypes := ts }, ty, pos, af, none⟩ :: rest) :=
  jc (cs := []) hE hf hl (ka_nq hT) hd (tks1 hk) (fun _ => rfl) (fun _ => rfl) (fun _ => by have := k st rfl ok (okQ.bnd ok.1); rw [h1] at this; exact this) hd1
theorem jzb (hE : Ent P f) (hf : ev e h = some (.func (.func f) #[] #[])) (hl : evl e xs = some (.pointer (some ⟨g, 0, none⟩) :: ws)) (hT : KBq P f ws D0 g vs al S B E m st val) (hd : Sd Γ L (dv (rL (rI .i64)) vs S :: D0)) (hk : Tks L [bx g 155 (mcq m vs al), gl B rMach 69 al m.l] M) (ok : okSq nb c S st) (hp : Ap E Γ Γ')
    (k : ∀ x, x = st → okSq nb c S x → bndq nb c x → ∀ al', Sv al' → LH P n w0 ops Q X Γ' (bx g 155 (mcq x vs al') :: gl B rMach 69 al' x.l :: M) ((d, val) :: e) rest) (hd1 : Nat.blt d n.sz = true := by rfl) : LH P n w0 ops Q X Γ L e (⟨some d, .call { callee := .value h, args := xs.toArray, argTypes := ts }, ty, pos, af, none⟩ :: rest) :=
  jc (cs := []) hE hf hl (kb_nq hT) hd hk (fun _ => hp) (fun _ => rfl) (fun p => jgo k1 fun h9 => k st rfl ok (okQ.bnd ok.1) p h9) hd1
theorem jze {α β : Type} {r : Rp α} {vl : α → β → Value} {a : α} (hE : Ent P f) (hf : ev e h = some (.func (.func f) #[] #[])) (hl : evl e xs = some (.pointer (some ⟨g, 0, none⟩) :: ws)) (hT : KEq P f (ws ++ []) D0 g vs al S B r vl a m st) (hd : Sd Γ L (dv (rL (rI .i64)) vs S :: D0)) (hk : Tks L [bx g 155 (mcq m vs al), gl B rMach 69 al m.l] M) (ok : okSq nb c S st)
    (k : ∀ x, x = st → okSq nb c S x → bndq nb c x → ∀ al' cc, Sv al' → LH P n w0 ops Q X (da r (vl a cc) a :: Γ) (bx g 155 (mcq x vs al') :: gl B rMach 69 al' x.l :: M) ((d, vl a cc) :: e) rest) (hd1 : Nat.blt d n.sz = true := by rfl) : LH P n w0 ops Q X Γ L e (⟨some d, .call { callee := .value h, args := xs.toArray, argTypes := ts }, ty, pos, af, none⟩ :: rest) :=
  jc (cs := []) hE hf hl hT hd hk (fun _ => rfl) (fun _ => rfl) (fun p => jgo k1 fun h9 => k st rfl ok (okQ.bnd ok.1) p.1 p.2 h9) hd1
theorem jzg {j t : Nat} {want Bb : Bool} {u : Value} (hj : (ops[j]?).bind (·.dst) = some t) (hu : lk e t = some u) (hB : Gd u want Bb) (hE : Ent P f) (hf : ev e h = some (.func (.func f) #[] #[])) (hl : Bb = true → evl e xs = some (.pointer (some ⟨g, 0, none⟩) :: ws)) (hT : KAq P f ws D0 g vs al S m st val) (hd : Sd Γ L (dv (rL (rI .i64)) vs S :: D0)) (hk : Tks L [bx g 155 (mcq m vs al), gl B rMach 69 al m.l] M) (ok : okSq nb c S (if Bb then st else m))
    (k : ∀ x, x = (if Bb then st else m) → okSq nb c S x → bndq nb c x → LH P n w0 ops Q X Γ (bx g 155 (mcq x vs al) :: gl B rMach 69 al x.l :: M) ((d, gv Bb val) :: e) rest) (h1 : st.l = m.l := by rfl) (hd1 : Nat.blt d n.sz = true := by rfl) (ht : Nat.blt t n.sz = true := by rfl) : LH P n w0 ops Q X Γ L e (⟨some d, .call { callee := .value h, args := xs.toArray, argTypes := ts }, ty, pos, af, some (j, want)⟩ :: rest) := fun F H hp => by
  have hk1 := tks1 hk
  refine LF.gcallF hj hu hB (fun hb => OpCall.fnc (cs := []) hE hf (hl hb)) (fun _ => (ka_nq hT).run hp hd hk1) (fun v' H' hz => ?_) hd1 ht
  rcases hz with ⟨hb, _, F', rfl, h9⟩ | ⟨hb, rfl⟩
  · subst hb
    have := k st (by simp) (by simpa using ok) (okQ.bnd (by simpa using ok.1))
    rw [h1] at this
    exact this F' H' h9
  · subst hb
    have := k m (by simp) (by simpa using ok) (okQ.bnd (by simpa using ok.1))
    exact this F _ (hp_tks hp hk)
theorem jzn (st : Mq) (hk : Tks L [bx g 155 (mcq st vs al), gl B rMach 69 al st.l] M) (ok : okSq nb c S st)
    (k : ∀ x, x = st → okSq nb c S x → bndq nb c x → LH P n w0 ops Q X Γ (bx g 155 (mcq x vs al) :: gl B rMach 69 al x.l :: M) e rest) : LH P n w0 ops Q X Γ L e rest := fun F H hp => k st rfl ok (okQ.bnd ok.1) F H (hp_tks hp hk)
theorem jzna (st : Mq) (hk : Tk L (bx g 155 (mcq st vs al)) M) (ok : okSq nb c S st)
    (k : ∀ x, x = st → okSq nb c S x → bndq nb c x → LH P n w0 ops Q X Γ (bx g 155 (mcq x vs al) :: M) e rest) : LH P n w0 ops Q X Γ L e rest := fun F H hp => k st rfl ok (okQ.bnd ok.1) F H (hp.front hk)
end
theorem F155_0 : Fld Tryz.prog 155 0 0 := ⟨_, _, Tryz.underlying155, rfl, rfl, 1, (by unfold Sz; kernel_rfl), by decide⟩
theorem F155_1 : Fld Tryz.prog 155 1 1 := ⟨_, _, Tryz.underlying155, rfl, rfl, 1, (by unfold Sz; kernel_rfl), by decide⟩
theorem F155_2 : Fld Tryz.prog 155 2 2 := ⟨_, _, Tryz.underlying155, rfl, rfl, 1, (by unfold Sz; kernel_rfl), by decide⟩
theorem F155_3 : Fld Tryz.prog 155 3 3 := ⟨_, _, Tryz.underlying155, rfl, rfl, 1, (by unfold Sz; kernel_rfl), by decide⟩
theorem I69 : (Tryz.prog.info? 69).map (fun i => (i.zero, i.size, i.bytes)) = some (some (.agg #[.int .i64 0, .int .i64 0, .int .i64 0, .int .i64 0, .int .i64 0, .int .i64 0, .int .i32 0, .slice none 0 0]), 8, 80) := by kernel_rfl
theorem Z33 : Sz Tryz.prog 33 1 := by unfold Sz; kernel_rfl
set_option maxRecDepth 4000 in
theorem m7take_ct {vs al : Value} {m : Mq} {nb c : Nat} {S : List Int} {g0 : Nat} (hok : okSq nb c S m) (hc : c ≤ 1000000) (n : Int) (hn9 : 0 < n ∧ n ≤ 1000000000) : KAq Tryz.prog 145 [.int .i64 n] [] g0 vs al S m (takeQ m) (.int .i64 (takeQV n m)) := by
  refine jenter (args := [.pointer (some ⟨g0, 0, none⟩), .int .i64 n]) Tryz.func145 rfl rfl rfl fun w0 X => ?_
  have bd0 := okQ.bnd hok.1
  refine jq (jr (ja Z (jn (jx (jq (jr (ja Z (jn (jx (jq (jq ?_)))))))))))
  refine jstl Mixed (by kernel_rfl) (jt (jmv Z) (jt (jnil Z) (jt (jf F155_1 Z) (jt (jl k0 O3 Z Z) (jt (jmv Z) (jt (jnil Z) (jt (jf F155_0 Z) (jt (jl k0 O22 Z Z) (tdq d0 fun q1 w1 => jt (jln U22 d0 Z) (jt (jlss Z Z) ?_))))))))))
  refine jdn (jx ?_)
  refine jif Z (fun hc1 => ?_) (fun hc1 => ?_)
  refine jstl Mixed (by kernel_rfl) (jt (jmv Z) (jt (jnil Z) (jt (jf F155_0 Z) (jt (jl k0 O22 Z Z) (jt (jmv Z) (jt (jnil Z) (jt (jf F155_1 Z) (jt (jl k0 O3 Z Z) (jt (jix (i := (Int.toNat m.k)) U22 Z3 d0 Z Z (by omega) (by omega)) (jt (jlI (dix d0 (Int.toNat m.k) (by omega)) O3 Z) (jt (jas Z) ?_)))))))))))
  refine jdn (jx (jq (jr (jm Z (js (jnil Z) (js (jf F155_1 Z) (js (jl k0 O3 Z Z) (js (jadd Z Z (by omega)) (js (jnil Z) (js (jf F155_1 Z) (jst k0 Z3 Z Z Z s1 ?_)))))))))))
  refine jzna (c := c + 1) ({ m with k := m.k + 1 }) k0 ⟨(okQ.setk hok.1 (by omega) (by omega)), hok.2⟩ fun ms2 hms2 oms2 bms2 => ?_
  clear bd0
  refine jn (jx (jq (jr (jm Z (jm Z (js (jrem Z Z (by omega)) (jm Z ?_)))))))
  have hz1 := Int.tmod_lt_of_pos (ix S (Int.toNat m.k)) hn9.1
  have hz2 := Int.lt_tmod_of_pos (ix S (Int.toNat m.k)) hn9.1
  refine js (jadd Z Z (by omega)) (jm Z (js (jrem Z Z (by omega)) (ja Z (jn (jx (jrt ?_))))))
  have hv0 : takeQV n m = (Int.tmod ((Int.tmod (ix S (Int.toNat m.k)) n) + n) n) := (by (try simp only [hms2] at hc1); (try simp only [hms2]); simp only [takeQV, hok.2]; simp [*])
  have hst : ms2 = takeQ m := (by (try simp only [hms2] at hc1); (try simp only [hms2]); all_goals first | rfl | (simp [takeQV, takeQ, hc1]; done) | (simp [takeQV, takeQ, hc1]; rfl) | (unfold takeQV takeQ; (repeat' split) <;> first | rfl | (exfalso; omega) | (simp [hc1] at *; done) | (simp_all; done)))
  exact jr1 Z Z () (by rw [hv0] <;> rfl) dn (fun _ _ => (kcb (by rw [← hst]) k0 kn))
  refine jsk (jx (jq (jr (jm Z (js (jnil Z) (js (jf F155_1 Z) (js (jl k0 O3 Z Z) (js (jadd Z Z (by omega)) (js (jnil Z) (js (jf F155_1 Z) (jst k0 Z3 Z Z Z s1 ?_)))))))))))
  refine jzna (c := c + 1) ({ m with k := m.k + 1 }) k0 ⟨(okQ.setk hok.1 (by omega) (by omega)), hok.2⟩ fun ms3 hms3 oms3 bms3 => ?_
  clear bd0
  refine jn (jx (jq (jr (jm Z (jm Z (js (jrem Z Z (by omega)) (jm Z ?_)))))))
  have hz1 := Int.tmod_lt_of_pos 0 hn9.1
  have hz2 := Int.lt_tmod_of_pos 0 hn9.1
  refine js (jadd Z Z (by omega)) (jm Z (js (jrem Z Z (by omega)) (ja Z (jn (jx (jrt ?_))))))
  have hv0 : takeQV n m = (Int.tmod ((Int.tmod 0 n) + n) n) := (by (try simp only [hms3] at hc1); (try simp only [hms3]); simp only [takeQV, hok.2]; simp [*])
  have hst : ms3 = takeQ m := (by (try simp only [hms3] at hc1); (try simp only [hms3]); all_goals first | rfl | (simp [takeQV, takeQ, hc1]; done) | (simp [takeQV, takeQ, hc1]; rfl) | (unfold takeQV takeQ; (repeat' split) <;> first | rfl | (exfalso; omega) | (simp [hc1] at *; done) | (simp_all; done)))
  exact jr1 Z Z () (by rw [hv0] <;> rfl) dn (fun _ _ => (kcb (by rw [← hst]) k0 kn))
set_option maxRecDepth 4000 in
theorem m7temp_ct {vs al : Value} {m : Mq} {nb c : Nat} {S : List Int} {g0 : Nat} (hok : okSq nb c S m) (hc : c ≤ 1000000) : KAq Tryz.prog 146 [] [] g0 vs al S m (tempQ m) (.int .i64 m.nx) := by
  refine jenter (args := [.pointer (some ⟨g0, 0, none⟩)]) Tryz.func146 rfl rfl rfl fun w0 X => ?_
  have bd0 := okQ.bnd hok.1
  refine jq (jr (ja Z (jn (jx (jq (jr (jm Z (js (jnil Z) (js (jf F155_2 Z) (js (jl k0 O3 Z Z) (js (jadd Z Z (by omega)) ?_)))))))))))
  refine js (jnil Z) (js (jf F155_2 Z) (jst k0 Z3 Z Z Z s2 (jzna (c := c + 1) ({ m with nx := m.nx + 1 }) k0 ⟨(okQ.setnx hok.1 (by omega) (by omega)), hok.2⟩ fun ms1 hms1 oms1 bms1 => ?_)))
  clear bd0
  refine jn (jx (jq (jr (jm Z (js (jnil Z) (js (jf F155_2 Z) (js (jl k0 O3 Z Z) (js (jsub Z Z (by omega)) (ja Z (jn (jx ?_)))))))))))
  refine jrt ?_
  have hv0 : m.nx = (ms1.nx - 1) := (by (try simp only [hms1]); simp)
  have hst : ms1 = tempQ m := (by (try simp only [hms1]); all_goals first | rfl | (simp [tempQ]; done) | (simp [tempQ]; rfl) | (unfold tempQ; (repeat' split) <;> first | rfl | (exfalso; omega) | (simp [] at *; done) | (simp_all; done)))
  exact jr1 Z Z () (by rw [hv0] <;> rfl) dn (fun _ _ => (kcb (by rw [← hst]) k0 kn))
set_option maxRecDepth 4000 in
theorem m7put_ct {vs al : Value} {m : Mq} {nb c : Nat} {S : List Int} {g0 : Nat} {B0 : Nat} (hok : okSq nb c S m) (hc : c ≤ 1000000) {a1 : Value} {i : D.Mach} : KBq Tryz.prog 143 [vMach i a1] [da rMach (vMach i a1) i] g0 vs al S B0 [] m (putQ i m) (.tuple #[]) := by
  refine jenter (args := [.pointer (some ⟨g0, 0, none⟩), vMach i a1]) Tryz.func143 rfl rfl rfl fun w0 X => ?_
  refine cgo k1 fun w1 => ?_
  have bd0 := okQ.bnd hok.1
  refine jq (jr (jbox Z Z fun g3 => jn (jx (jany true (.a 0 (.a 1 (.a 2 (.a 3 (.a 4 (.a 5 (.o 6 (.o 7 (.a 8 (.a 9 (.o 10 .e))))))))))) Mixed (by kernel_rfl) (kd kn) fun F2 => jy Z (jmv Z) (jy Z (jmv Z) (jy Z (jnil Z) (jy Z (jf F155_3 Z) (jy Z (jl k1 O33 Z Z) (jy Z (jla k0 A69 Z69 Z Z Z) ?_)))))))))
  refine jyo Z (jlit (r := rMach) (l := [i]) U33 I69 (by decide) Z Z Z (lA d2 ln) fun g10 => jyn d0 (kc k1 (kc k1 kn)) (jyo Z (jfz k0 (by (try simp) <;> omega) (japl U33 I69 (by decide) Z k2 Z Z d0 (by (try simp) <;> omega) fun v11 w6 => jyn d1 (kc k1 (kc k1 kn)) (jy Z (jnil Z) (jy Z (jf F155_3 Z) (jyo Z (jst k2 Z33 Z Z w6.one s3 (jzn (c := c + 1) ({ m with l := m.l ++ ([i]) }) (kd kn) ⟨(okQ.setl hok.1 (by simp only [List.length_append, List.length_cons, List.length_nil]; omega) (by omega)), hok.2⟩ fun ms8 hms8 oms8 bms8 => ?_)))))))))
  clear bd0
  refine jyz d0 (jyd ?_)
  have hst : ms8 = putQ i m := (by (try simp only [hms8]); all_goals first | rfl | (simp [putQ]; done) | (simp [putQ]; rfl) | (unfold putQ; (repeat' split) <;> first | rfl | (exfalso; omega) | (simp [] at *; done) | (simp_all; done)))
  exact jd0 Z v11 Z dn (fun _ _ => (kcb (by rw [← hst]) k0 (kcg (by rw [← hst]) k0 kn)))
theorem E143 : Ent Tryz.prog 143 := ⟨_, Tryz.func143, by kernel_rfl, by kernel_rfl⟩
theorem E145 : Ent Tryz.prog 145 := ⟨_, Tryz.func145, by kernel_rfl, by kernel_rfl⟩
theorem E146 : Ent Tryz.prog 146 := ⟨_, Tryz.func146, by kernel_rfl, by kernel_rfl⟩
set_option maxRecDepth 4000 in
theorem m7cop_ct {vs al : Value} {m : Mq} {nb c : Nat} {S : List Int} {g0 : Nat} {B0 : Nat} (hok : okSq nb c S m) (hc : c ≤ 990000) (r : Int) (ww1 : IntKind.i64.wrap r = r) : KBq Tryz.prog 147 [.int .i64 r] [] g0 vs al S B0 [wf .i64 (copV r m)] m (copQ r m) (.int .i64 (copV r m)) := by
  refine jenter (args := [.pointer (some ⟨g0, 0, none⟩), .int .i64 r]) Tryz.func147 rfl rfl rfl fun w0 X => ?_
  refine cgo k1 fun w1 => ?_
  have bd0 := okQ.bnd hok.1
  refine jq (jr (ja Z (jn (jx (jq (jq (jr (jm Z (jzr E145 Z Z (m7take_ct hok (by omega) 4 (by omega)) (dc d0 dn) (kd kn) ⟨takeQ_ok hok.1, hok.2⟩ fun m7 hm7 om7 bm7 => ?_)))))))))
  have w7_0 : IntKind.i64.wrap (takeQV 4 m) = takeQV 4 m := (IntWalk.i64_in _ (by have h9 := @takeQV_rng 4 (by omega) m; omega))
  have tr7 := @takeQV_rng 4 (by omega) m
  clear bd0
  refine js (jgtr Z Z) (jn (jx ?_))
  refine jif Z (fun hc1 => ?_) (fun hc1 => ?_)
  refine jq (jr (jm Z (ja Z (jn (jx (jrt (jtr ?_)))))))
  have hv0 : copV r m = r := (by (try simp only [hm7] at hc1); (try simp only [hm7]); all_goals first | rfl | (simp [copQ, copV, hc1]; done) | (simp [copQ, copV, hc1]; rfl) | (unfold copQ copV; (repeat' split) <;> first | rfl | (exfalso; omega) | (simp [hc1] at *; done) | (simp_all; done)))
  have hst : m7 = copQ r m := (by (try simp only [hm7] at hc1); (try simp only [hm7]); all_goals first | rfl | (simp [copQ, copV, hc1]; done) | (simp [copQ, copV, hc1]; rfl) | (unfold copQ copV; (repeat' split) <;> first | rfl | (exfalso; omega) | (simp [hc1] at *; done) | (simp_all; done)))
  exact jr1 Z Z al (by rw [hv0] <;> rfl) (dc (wca hv0 (wp ww1)) dn) (fun _ _ => (kcb (by rw [← hst]) k0 (kcg (by rw [← hst]) k0 kn)))
  refine jsk (jx (jq (jr (jm Z (jzr E146 Z Z (m7temp_ct om7 (by omega)) (dc d0 dn) (kd kn) ⟨tempQ_ok om7.1, om7.2⟩ fun m11 hm11 om11 bm11 => ?_)))))
  have w11_0 : IntKind.i64.wrap (m7.nx) = m7.nx := (IntWalk.i64_in _ (by omega))
  clear bm7
  refine ja Z (jn (jx (jq (jr (jm Z (jm Z (jm Z (js (jbu (v := .agg #[.int .i64 1, .int .i64 m7.nx, .int .i64 0, .int .i64 r, .int .i64 0, .int .i64 0, .int .i32 0, .slice none 0 0]) Z (fun _ => by kernel_rfl)) (jzb E143 Z Z (m7put_ct (i := ⟨1, m7.nx, 0, r, 0, 0, 0, []⟩) om11 (by omega)) (dc d0 (dc (rMach.M (m := ⟨1, m7.nx, 0, r, 0, 0, 0, []⟩) (c := (.slice none 0 0)) wN (wl 1) (wp w11_0) (wl 0) (wp ww1) (wl 0) (wl 0) (wl 0)) dn)) (kd kn) ⟨putQ_ok om11.1, (putQ_s.trans om11.2)⟩ p0 fun m16 hm16 om16 bm16 ua16 w2 => ?_)))))))))
  clear bm11
  refine jn (jx (jq (jr (jm Z (ja Z (jn (jx (jrt ?_))))))))
  have hv0 : copV r m = m7.nx := (by (try simp only [hm7, hm11, hm16] at hc1); (try simp only [hm7, hm11, hm16]); all_goals first | rfl | (simp [copQ, copV, hc1]; done) | (simp [copQ, copV, hc1]; rfl) | (unfold copQ copV; (repeat' split) <;> first | rfl | (exfalso; omega) | (simp [hc1] at *; done) | (simp_all; done)))
  have hst : m16 = copQ r m := (by (try simp only [hm7, hm11, hm16] at hc1); (try simp only [hm7, hm11, hm16]); all_goals first | rfl | (simp [copQ, copV, hc1]; done) | (simp [copQ, copV, hc1]; rfl) | (unfold copQ copV; (repeat' split) <;> first | rfl | (exfalso; omega) | (simp [hc1] at *; done) | (simp_all; done)))
  exact jr1 Z Z ua16 (by rw [hv0] <;> rfl) (dc (wca hv0 (wp w11_0)) dn) (fun _ _ => (kcb (by rw [← hst]) k0 (kcg (by rw [← hst]) k0 kn)))
set_option maxRecDepth 4000 in
theorem m7word_ct {vs al : Value} {m : Mq} {nb c : Nat} {S : List Int} {g0 : Nat} {B0 : Nat} (hok : okSq nb c S m) (hc : c ≤ 990000) (d : Int) (n : Int) (ww1 : IntKind.i64.wrap d = d) (ww2 : IntKind.i32.wrap n = n) : KBq Tryz.prog 141 [.int .i64 d, .int .i32 n] [] g0 vs al S B0 [] m (wordQ d n m) (.tuple #[]) := by
  refine jenter (args := [.pointer (some ⟨g0, 0, none⟩), .int .i64 d, .int .i32 n]) Tryz.func141 rfl rfl rfl fun w0 X => ?_
  refine cgo k1 fun w1 => ?_
  have bd0 := okQ.bnd hok.1
  refine jq (jq (jr (jm Z (js (jgeq Z Z) (jm Z (jg Z Z (.t _) (fun hg => jmv Z) (jg Z Z (.t _) (fun hg => jlss (evg Z hg) Z) (js (jand Z Z) (jm Z (jg Z Z (.t _) (fun hg => jmv Z) (jzg Z Z (.t _) E145 Z (fun hg => evl2 (evg Z hg) Z) (m7take_ct hok (by omega) 2 (by omega)) (dc d0 dn) (kd kn) (by split; exact ⟨takeQ_ok hok.1, hok.2⟩; exact hok.mono (by omega)) fun m14 hm14 om14 bm14 => ?_)))))))))))
  have w14_0 : IntKind.i64.wrap (takeQV 2 m) = takeQV 2 m := (IntWalk.i64_in _ (by have h9 := @takeQV_rng 2 (by omega) m; omega))
  have tr14 := @takeQV_rng 2 (by omega) m
  clear bd0
  refine jg Z Z (.t _) (fun hg => jeql (evg Z hg) Z) (js (jand Z Z) (jn (jx ?_)))
  refine jif Z (fun hc1 => ?_) (fun hc1 => ?_)
  refine jq (jr (jm Z (jm Z (jm Z (js (jbu (v := .agg #[.int .i64 3, .int .i64 d, .int .i64 0, .int .i64 0, .int .i64 0, .int .i64 0, .int .i32 n, .slice none 0 0]) Z (fun _ => by kernel_rfl)) (jzb E143 Z Z (m7put_ct (i := ⟨3, d, 0, 0, 0, 0, n, []⟩) om14 (by omega)) (dc d0 (dc (rMach.M (m := ⟨3, d, 0, 0, 0, 0, n, []⟩) (c := (.slice none 0 0)) wN (wl 3) (wp ww1) (wl 0) (wl 0) (wl 0) (wl 0) (wp ww2)) dn)) (kd kn) ⟨putQ_ok om14.1, (putQ_s.trans om14.2)⟩ p0 fun m21 hm21 om21 bm21 ua21 w2 => ?_))))))
  clear bm14
  refine jn (jx (jrt (jtr ?_)))
  have hst : m21 = wordQ d n m := (by (try simp only [hm14, hm21] at hc1); (try simp only [hm14, hm21]); unfold wordQ wordQ0 smallQ; by_cases h1 : -32768 ≤ n <;> by_cases h2 : n < 32768 <;> by_cases h3 : takeQV 2 m = 0 <;> simp [h1, h2, h3] at hc1 ⊢)
  exact jr0 Z ua21 Z dn (fun _ _ => (kcb (by rw [← hst]) k0 (kcg (by rw [← hst]) k0 kn)))
  refine jsk (jx (jr (jm Z (jm Z (jm Z (js (jbu (v := .agg #[.int .i64 4, .int .i64 d, .int .i64 0, .int .i64 0, .int .i64 0, .int .i64 0, .int .i32 n, .slice none 0 0]) Z (fun _ => by kernel_rfl)) (jzb E143 Z Z (m7put_ct (i := ⟨4, d, 0, 0, 0, 0, n, []⟩) om14 (by omega)) (dc d0 (dc (rMach.M (m := ⟨4, d, 0, 0, 0, 0, n, []⟩) (c := (.slice none 0 0)) wN (wl 4) (wp ww1) (wl 0) (wl 0) (wl 0) (wl 0) (wp ww2)) dn)) (kd kn) ⟨putQ_ok om14.1, (putQ_s.trans om14.2)⟩ p0 fun m26 hm26 om26 bm26 ua26 w3 => ?_)))))))
  clear bm14
  refine jn ?_
  have hst : m26 = wordQ d n m := (by (try simp only [hm14, hm26] at hc1); (try simp only [hm14, hm26]); unfold wordQ wordQ0 smallQ; by_cases h1 : -32768 ≤ n <;> by_cases h2 : n < 32768 <;> by_cases h3 : takeQV 2 m = 0 <;> simp [h1, h2, h3] at hc1 ⊢)
  exact jd0 Z ua26 Z dn (fun _ _ => (kcb (by rw [← hst]) k0 (kcg (by rw [← hst]) k0 kn)))
theorem E141 : Ent Tryz.prog 141 := ⟨_, Tryz.func141, by kernel_rfl, by kernel_rfl⟩
theorem E147 : Ent Tryz.prog 147 := ⟨_, Tryz.func147, by kernel_rfl, by kernel_rfl⟩
theorem F163_4 : Fld Tryz.prog 163 4 4 := ⟨_, _, Tryz.underlying163, rfl, rfl, 1, (by unfold Sz; kernel_rfl), by decide⟩
set_option maxRecDepth 4000 in
theorem m7two_ct {vs al : Value} {m : Mq} {nb c : Nat} {S : List Int} {g0 : Nat} {B0 : Nat} (hok : okSq nb c S m) (hc : c ≤ 980000) {a1 : Value} {x : D.Ins} (hop : 0 ≤ x.Op ∧ x.Op ≤ 1000) (hl2 : 2 ≤ x.Args.length) : KBq Tryz.prog 144 [vIns x a1] [da rIns (vIns x a1) x] g0 vs al S B0 [] m (twoQ x m) (.tuple #[]) := by
  refine jenter (args := [.pointer (some ⟨g0, 0, none⟩), vIns x a1]) Tryz.func144 rfl rfl rfl fun w0 X => ?_
  refine cgo k1 fun w1 => ?_
  have bd0 := okQ.bnd hok.1
  refine jq (jr (jbox Z Z fun g3 => jn (jx (jq (jr (js (jf F163_0 Z) (js (jl k0 O3 Z Z) (js (jsub Z Z (by omega)) (js (jadd Z Z (by omega)) (ja Z ?_))))))))))
  refine jn (jx (jq (jr (jm Z (js (jf F163_3 Z) (js (jl k0 O22 Z Z) (jdq (rIns.c_Args d1) fun q2 w2 => js (jix (i := 0) U22 Z3 (rIns.c_Args d1) Z Z Z (by omega)) (js (jlI (dix (rIns.c_Args d1) 0 (by omega)) O3 Z) (jwr (wad (dix (rIns.c_Args d1) 0 (by omega))) fun w3 => jzb E147 Z Z (m7cop_ct hok (by omega) (ix x.Args 0) w3) (dc d0 dn) (kc k1 (kc k1 kn)) ⟨copQ_ok hok.1, (copQ_s.trans hok.2)⟩ p1 fun m20 hm20 om20 bm20 ua20 w4 => ?_)))))))))
  clear bd0
  refine ja Z (jn (jx (jq (jr (jm Z (js (jf F163_3 Z) (js (jl k2 O22 Z Z) (js (jix (i := 1) U22 Z3 (rIns.c_Args d2) Z Z Z (by omega)) (js (jlI (dix (rIns.c_Args d2) 1 (by omega)) O3 Z) (jwr (wad (dix (rIns.c_Args d2) 1 (by omega))) fun w6 => jzb E147 Z Z (m7cop_ct om20 (by omega) (ix x.Args 1) w6) (dc d1 dn) (kd kn) ⟨copQ_ok om20.1, (copQ_s.trans om20.2)⟩ p1 fun m26 hm26 om26 bm26 ua26 w7 => ?_))))))))))
  clear bm20
  refine ja Z (jn (jx (jq (jr (jm Z (jzr E145 Z Z (m7take_ct om26 (by omega) 6 (by first | decide | omega | assumption)) (dc d2 dn) (kd kn) ⟨takeQ_ok om26.1, om26.2⟩ fun m28 hm28 om28 bm28 => ?_))))))
  have w28_0 : IntKind.i64.wrap (takeQV 6 m26) = takeQV 6 m26 := (IntWalk.i64_in _ (by have h9 := @takeQV_rng 6 (by omega) m26; omega))
  have tr28 := @takeQV_rng 6 (by omega) m26
  clear bm26
  refine jn (jx (jb (jq (jr (js (jeql Z Z) (ja Z (jn (jx ?_))))))))
  refine jif Z (fun hc1 => ?_) (fun hc1 => ?_)
  refine jq (jr (jm Z (jzr E146 Z Z (m7temp_ct om28 (by omega)) (dc d2 dn) (kd kn) ⟨tempQ_ok om28.1, om28.2⟩ fun m40 hm40 om40 bm40 => ?_)))
  have w40_0 : IntKind.i64.wrap (m28.nx) = m28.nx := (IntWalk.i64_in _ (by omega))
  clear bm28
  refine ja Z (jn (jx (jq (jr (jm Z (jzr E146 Z Z (m7temp_ct om40 (by omega)) (dc d2 dn) (kd kn) ⟨tempQ_ok om40.1, om40.2⟩ fun m42 hm42 om42 bm42 => ?_))))))
  have w42_0 : IntKind.i64.wrap (m40.nx) = m40.nx := (IntWalk.i64_in _ (by omega))
  clear bm40
  refine ja Z (jn (jx (jq (jr (jm Z (jm Z (jm Z (jm Z (jm Z (js (jbu (v := .agg #[.int .i64 ((x.Op - 2) + 5), .int .i64 m28.nx, .int .i64 0, .int .i64 (copV (ix x.Args 0) m), .int .i64 (copV (ix x.Args 1) m20), .int .i64 0, .int .i32 0, .slice none 0 0]) Z (fun _ => by kernel_rfl)) (jzb E143 Z Z (m7put_ct (i := ⟨(x.Op - 2) + 5, m28.nx, 0, copV (ix x.Args 0) m, copV (ix x.Args 1) m20, 0, 0, []⟩) om42 (by omega)) (dc d2 (dc (rMach.M (m := ⟨(x.Op - 2) + 5, m28.nx, 0, copV (ix x.Args 0) m, copV (ix x.Args 1) m20, 0, 0, []⟩) (c := (.slice none 0 0)) wN (wp (IntWalk.i64_in ((x.Op - 2) + 5) (by omega))) (wp w40_0) (wl 0) ((wfw d1)) ((wfw d0)) (wl 0) (wl 0)) dn)) (kd kn) ⟨putQ_ok om42.1, (putQ_s.trans om42.2)⟩ p0 fun m49 hm49 om49 bm49 ua49 w9 => ?_)))))))))))
  clear bm42
  refine jn (jx (jq (jr (jm Z (jm Z (jm Z (js (jbu (v := .agg #[.int .i64 18, .int .i64 m40.nx, .int .i64 0, .int .i64 m28.nx, .int .i64 0, .int .i64 0, .int .i32 100, .slice none 0 0]) Z (fun _ => by kernel_rfl)) (jzb E143 Z Z (m7put_ct (i := ⟨18, m40.nx, 0, m28.nx, 0, 0, 100, []⟩) om49 (by omega)) (dc d2 (dc (rMach.M (m := ⟨18, m40.nx, 0, m28.nx, 0, 0, 100, []⟩) (c := (.slice none 0 0)) wN (wl 18) (wp w42_0) (wl 0) (wp w40_0) (wl 0) (wl 0) (wl 100)) dn)) (kd kn) ⟨putQ_ok om49.1, (putQ_s.trans om49.2)⟩ p0 fun m54 hm54 om54 bm54 ua54 w10 => ?_))))))))
  clear bm49
  refine jn (jx (jr (jm Z (js (jf F163_1 Z) (js (jl k2 O3 Z Z) (jm Z (js (jbu (v := .agg #[.int .i64 18, .int .i64 x.Dst, .int .i64 0, .int .i64 m40.nx, .int .i64 0, .int .i64 0, .int .i32 ((-100)), .slice none 0 0]) Z (fun _ => by kernel_rfl)) (jzb E143 Z Z (m7put_ct (i := ⟨18, x.Dst, 0, m40.nx, 0, 0, (-100), []⟩) om54 (by omega)) (dc d2 (dc (rMach.M (m := ⟨18, x.Dst, 0, m40.nx, 0, 0, (-100), []⟩) (c := (.slice none 0 0)) wN (wl 18) (rIns.W_Dst d3) (wl 0) (wp w42_0) (wl 0) (wl 0) (wl (-100))) dn)) (kd kn) ⟨putQ_ok om54.1, (putQ_s.trans om54.2)⟩ p0 fun m60 hm60 om60 bm60 ua60 w11 => ?_))))))))
  clear bm54
  refine jn (jbn ?_)
  have hst : m60 = twoQ x m := (by (try simp only [hm20, hm26, hm28, hm40, hm42, hm49, hm54, hm60] at hc1); (try simp only [hm20, hm26, hm28, hm40, hm42, hm49, hm54, hm60]); all_goals first | rfl | (simp [twoQ, two3, opQ, hc1]; done) | (simp [twoQ, two3, opQ, hc1]; rfl) | (unfold twoQ two3 opQ; (repeat' split) <;> first | rfl | (exfalso; omega) | (simp [hc1] at *; done) | (simp_all; done)))
  exact jd0 Z ua60 Z dn (fun _ _ => (kcb (by rw [← hst]) k0 (kcg (by rw [← hst]) k0 kn)))
  refine jq (jr (js (jeql Z Z) (ja Z (jn (jx ?_)))))
  refine jif Z (fun hc2 => ?_) (fun hc2 => ?_)
  refine jq (jr (jm Z (jzr E146 Z Z (m7temp_ct om28 (by omega)) (dc d2 dn) (kd kn) ⟨tempQ_ok om28.1, om28.2⟩ fun m64 hm64 om64 bm64 => ?_)))
  have w64_0 : IntKind.i64.wrap (m28.nx) = m28.nx := (IntWalk.i64_in _ (by omega))
  clear bm28
  refine ja Z (jn (jx (jq (jr (jm Z (jm Z (jm Z (jm Z (jm Z (js (jbu (v := .agg #[.int .i64 ((x.Op - 2) + 5), .int .i64 m28.nx, .int .i64 0, .int .i64 (copV (ix x.Args 0) m), .int .i64 (copV (ix x.Args 1) m20), .int .i64 0, .int .i32 0, .slice none 0 0]) Z (fun _ => by kernel_rfl)) (jzb E143 Z Z (m7put_ct (i := ⟨(x.Op - 2) + 5, m28.nx, 0, copV (ix x.Args 0) m, copV (ix x.Args 1) m20, 0, 0, []⟩) om64 (by omega)) (dc d2 (dc (rMach.M (m := ⟨(x.Op - 2) + 5, m28.nx, 0, copV (ix x.Args 0) m, copV (ix x.Args 1) m20, 0, 0, []⟩) (c := (.slice none 0 0)) wN (wp (IntWalk.i64_in ((x.Op - 2) + 5) (by omega))) (wp w64_0) (wl 0) ((wfw d1)) ((wfw d0)) (wl 0) (wl 0)) dn)) (kd kn) ⟨putQ_ok om64.1, (putQ_s.trans om64.2)⟩ p0 fun m71 hm71 om71 bm71 ua71 w12 => ?_)))))))))))
  clear bm64
  refine jn (jx (jr (jm Z (js (jf F163_1 Z) (js (jl k2 O3 Z Z) (jm Z (js (jbu (v := .agg #[.int .i64 20, .int .i64 x.Dst, .int .i64 0, .int .i64 m28.nx, .int .i64 0, .int .i64 0, .int .i32 0, .slice none 0 0]) Z (fun _ => by kernel_rfl)) (jzb E143 Z Z (m7put_ct (i := ⟨20, x.Dst, 0, m28.nx, 0, 0, 0, []⟩) om71 (by omega)) (dc d2 (dc (rMach.M (m := ⟨20, x.Dst, 0, m28.nx, 0, 0, 0, []⟩) (c := (.slice none 0 0)) wN (wl 20) (rIns.W_Dst d3) (wl 0) (wp w64_0) (wl 0) (wl 0) (wl 0)) dn)) (kd kn) ⟨putQ_ok om71.1, (putQ_s.trans om71.2)⟩ p0 fun m77 hm77 om77 bm77 ua77 w13 => ?_))))))))
  clear bm71
  refine jn (jbn ?_)
  have hst : m77 = twoQ x m := (by (try simp only [hm20, hm26, hm28, hm64, hm71, hm77] at hc1 hc2); (try simp only [hm20, hm26, hm28, hm64, hm71, hm77]); all_goals first | rfl | (simp [twoQ, two3, opQ, hc1, hc2]; done) | (simp [twoQ, two3, opQ, hc1, hc2]; rfl) | (unfold twoQ two3 opQ; (repeat' split) <;> first | rfl | (exfalso; omega) | (simp [hc1, hc2] at *; done) | (simp_all; done)))
  exact jd0 Z ua77 Z dn (fun _ _ => (kcb (by rw [← hst]) k0 (kcg (by rw [← hst]) k0 kn)))
  refine jq (jr (js (jeql Z Z) (ja Z (jn (jx ?_)))))
  refine jif Z (fun hc3 => ?_) (fun hc3 => ?_)
  refine jq (jq (jr (js (jf F163_0 Z) (js (jl k2 O3 Z Z) (js (jeql Z Z) (jn (jx ?_)))))))
  refine jif Z (fun hc4 => ?_) (fun hc4 => ?_)
  refine jq (jr (jm Z (jzr E146 Z Z (m7temp_ct om28 (by omega)) (dc d2 dn) (kd kn) ⟨tempQ_ok om28.1, om28.2⟩ fun m84 hm84 om84 bm84 => ?_)))
  have w84_0 : IntKind.i64.wrap (m28.nx) = m28.nx := (IntWalk.i64_in _ (by omega))
  clear bm28
  refine ja Z (jn (jx (jq (jr (jm Z (jm Z (jzb E141 Z Z (m7word_ct om84 (by omega) m28.nx 0 w84_0 (by decide)) (dc d2 dn) (kd kn) ⟨wordQ_ok om84.1, (wordQ_s.trans om84.2)⟩ p0 fun m87 hm87 om87 bm87 ua87 w14 => ?_)))))))
  clear bm84
  refine jn (jx (jq (jr (jm Z (js (jf F163_1 Z) (js (jl k2 O3 Z Z) (jm Z (jm Z (jm Z (js (jbu (v := .agg #[.int .i64 23, .int .i64 x.Dst, .int .i64 0, .int .i64 (copV (ix x.Args 0) m), .int .i64 (copV (ix x.Args 1) m20), .int .i64 m28.nx, .int .i32 0, .slice none 0 0]) Z (fun _ => by kernel_rfl)) (jzb E143 Z Z (m7put_ct (i := ⟨23, x.Dst, 0, copV (ix x.Args 0) m, copV (ix x.Args 1) m20, m28.nx, 0, []⟩) om87 (by omega)) (dc d2 (dc (rMach.M (m := ⟨23, x.Dst, 0, copV (ix x.Args 0) m, copV (ix x.Args 1) m20, m28.nx, 0, []⟩) (c := (.slice none 0 0)) wN (wl 23) (rIns.W_Dst d3) (wl 0) ((wfw d1)) ((wfw d0)) (wp w84_0) (wl 0)) dn)) (kd kn) ⟨putQ_ok om87.1, (putQ_s.trans om87.2)⟩ p0 fun m95 hm95 om95 bm95 ua95 w15 => ?_)))))))))))
  clear bm87
  refine jn (jx (jrt (jtr (jbr ?_))))
  have hst : m95 = twoQ x m := (by (try simp only [hm20, hm26, hm28, hm84, hm87, hm95] at hc1 hc2 hc3 hc4); (try simp only [hm20, hm26, hm28, hm84, hm87, hm95]); all_goals first | rfl | (simp [twoQ, two3, opQ, hc1, hc2, hc3, hc4]; done) | (simp [twoQ, two3, opQ, hc1, hc2, hc3, hc4]; rfl) | (unfold twoQ two3 opQ; (repeat' split) <;> first | rfl | (exfalso; omega) | (simp [hc1, hc2, hc3, hc4] at *; done) | (simp_all; done)))
  exact jr0 Z ua95 Z dn (fun _ _ => (kcb (by rw [← hst]) k0 (kcg (by rw [← hst]) k0 kn)))
  refine jsk (jx (jr (jm Z (jm Z (js (jf F163_1 Z) (js (jl k2 O3 Z Z) (jm Z (jm Z (js (jbu (v := .agg #[.int .i64 ((x.Op - 2) + 5), .int .i64 x.Dst, .int .i64 0, .int .i64 (copV (ix x.Args 0) m), .int .i64 (copV (ix x.Args 1) m20), .int .i64 0, .int .i32 0, .slice none 0 0]) Z (fun _ => by kernel_rfl)) (jzb E143 Z Z (m7put_ct (i := ⟨(x.Op - 2) + 5, x.Dst, 0, copV (ix x.Args 0) m, copV (ix x.Args 1) m20, 0, 0, []⟩) om28 (by omega)) (dc d2 (dc (rMach.M (m := ⟨(x.Op - 2) + 5, x.Dst, 0, copV (ix x.Args 0) m, copV (ix x.Args 1) m20, 0, 0, []⟩) (c := (.slice none 0 0)) wN (wp (IntWalk.i64_in ((x.Op - 2) + 5) (by omega))) (rIns.W_Dst d3) (wl 0) ((wfw d1)) ((wfw d0)) (wl 0) (wl 0)) dn)) (kd kn) ⟨putQ_ok om28.1, (putQ_s.trans om28.2)⟩ p0 fun m103 hm103 om103 bm103 ua103 w16 => ?_))))))))))
  clear bm28
  refine jn (jbn ?_)
  have hst : m103 = twoQ x m := (by (try simp only [hm20, hm26, hm28, hm103] at hc1 hc2 hc3 hc4); (try simp only [hm20, hm26, hm28, hm103]); all_goals first | rfl | (simp [twoQ, two3, opQ, hc1, hc2, hc3, hc4]; done) | (simp [twoQ, two3, opQ, hc1, hc2, hc3, hc4]; rfl) | (unfold twoQ two3 opQ; (repeat' split) <;> first | rfl | (exfalso; omega) | (simp [hc1, hc2, hc3, hc4] at *; done) | (simp_all; done)))
  exact jd0 Z ua103 Z dn (fun _ _ => (kcb (by rw [← hst]) k0 (kcg (by rw [← hst]) k0 kn)))
  refine jr (jm Z (jm Z (js (jf F163_1 Z) (js (jl k2 O3 Z Z) (jm Z (jm Z (js (jbu (v := .agg #[.int .i64 ((x.Op - 2) + 5), .int .i64 x.Dst, .int .i64 0, .int .i64 (copV (ix x.Args 0) m), .int .i64 (copV (ix x.Args 1) m20), .int .i64 0, .int .i32 0, .slice none 0 0]) Z (fun _ => by kernel_rfl)) (jzb E143 Z Z (m7put_ct (i := ⟨(x.Op - 2) + 5, x.Dst, 0, copV (ix x.Args 0) m, copV (ix x.Args 1) m20, 0, 0, []⟩) om28 (by omega)) (dc d2 (dc (rMach.M (m := ⟨(x.Op - 2) + 5, x.Dst, 0, copV (ix x.Args 0) m, copV (ix x.Args 1) m20, 0, 0, []⟩) (c := (.slice none 0 0)) wN (wp (IntWalk.i64_in ((x.Op - 2) + 5) (by omega))) (rIns.W_Dst d3) (wl 0) ((wfw d1)) ((wfw d0)) (wl 0) (wl 0)) dn)) (kd kn) ⟨putQ_ok om28.1, (putQ_s.trans om28.2)⟩ p0 fun m36 hm36 om36 bm36 ua36 w17 => ?_))))))))
  clear bm28
  refine jn (jbn ?_)
  have hst : m36 = twoQ x m := (by (try simp only [hm20, hm26, hm28, hm36] at hc1 hc2 hc3); (try simp only [hm20, hm26, hm28, hm36]); all_goals first | rfl | (simp [twoQ, two3, opQ, hc1, hc2, hc3]; done) | (simp [twoQ, two3, opQ, hc1, hc2, hc3]; rfl) | (unfold twoQ two3 opQ; (repeat' split) <;> first | rfl | (exfalso; omega) | (simp [hc1, hc2, hc3] at *; done) | (simp_all; done)))
  exact jd0 Z ua36 Z dn (fun _ _ => (kcb (by rw [← hst]) k0 (kcg (by rw [← hst]) k0 kn)))
set_option maxRecDepth 4000 in
theorem m7mem_ct {vs al : Value} {m : Mq} {nb c : Nat} {S : List Int} {g0 : Nat} {B0 : Nat} (hok : okSq nb c S m) (hc : c ≤ 980000) {a1 : Value} {x : D.Ins} (hl1 : 1 ≤ x.Args.length) (hl2 : x.Op = 15 ∨ 2 ≤ x.Args.length) : KBq Tryz.prog 142 [vIns x a1] [da rIns (vIns x a1) x] g0 vs al S B0 [] m (memQ x m) (.tuple #[]) := by
  refine jenter (args := [.pointer (some ⟨g0, 0, none⟩), vIns x a1]) Tryz.func142 rfl rfl rfl fun w0 X => ?_
  refine cgo k1 fun w1 => ?_
  have bd0 := okQ.bnd hok.1
  refine jq (jr (jbox Z Z fun g3 => jn (jx (jq (jr (jm Z (js (jf F163_3 Z) (js (jl k0 O22 Z Z) (jdq (rIns.c_Args d1) fun q2 w2 => js (jix (i := 0) U22 Z3 (rIns.c_Args d1) Z Z Z (by omega)) ?_)))))))))
  refine js (jlI (dix (rIns.c_Args d1) 0 (by omega)) O3 Z) (jwr (wad (dix (rIns.c_Args d1) 0 (by omega))) fun w3 => jzb E147 Z Z (m7cop_ct hok (by omega) (ix x.Args 0) w3) (dc d0 dn) (kc k1 (kc k1 kn)) ⟨copQ_ok hok.1, (copQ_s.trans hok.2)⟩ p1 fun m11 hm11 om11 bm11 ua11 w4 => ?_)
  clear bd0
  refine ja Z (jn (jx (jq (jq (jr (js (jf F163_4 Z) (js (jl k2 O21 Z Z) (js (jgeq Z Z) (jm Z (jg Z Z (.t _) (fun hg => jf F163_4 Z) (jg Z Z (.t _) (fun hg => jl k2 O21 (evg Z hg) Z) ?_)))))))))))
  refine jg Z Z (.t _) (fun hg => jleq (evg Z hg) Z) (js (jand Z Z) (jm Z (jg Z Z (.t _) (fun hg => jmv Z) (jzg Z Z (.t _) E145 Z (fun hg => evl2 (evg Z hg) Z) (m7take_ct om11 (by omega) 3 (by first | decide | omega | assumption)) (dc d1 dn) (kd kn) (by split; exact ⟨takeQ_ok om11.1, om11.2⟩; exact om11.mono (by omega)) fun m22 hm22 om22 bm22 => ?_))))
  have w22_0 : IntKind.i64.wrap (takeQV 3 m11) = takeQV 3 m11 := (IntWalk.i64_in _ (by have h9 := @takeQV_rng 3 (by omega) m11; omega))
  have tr22 := @takeQV_rng 3 (by omega) m11
  clear bm11
  refine jg Z Z (.t _) (fun hg => jgtr (evg Z hg) Z) (js (jand Z Z) (jn (jx ?_)))
  refine jif Z (fun hc1 => ?_) (fun hc1 => ?_)
  refine jq (jq (jr (js (jf F163_0 Z) (js (jl k2 O3 Z Z) (js (jeql Z Z) (jn (jx ?_)))))))
  refine jif Z (fun hc2 => ?_) (fun hc2 => ?_)
  refine jq (jr (jm Z (js (jf F163_1 Z) (js (jl k2 O3 Z Z) (jm Z (js (jf F163_4 Z) (js (jl k2 O21 Z Z) (js (jbu (v := .agg #[.int .i64 24, .int .i64 x.Dst, .int .i64 0, .int .i64 (copV (ix x.Args 0) m), .int .i64 0, .int .i64 0, .int .i32 x.Imm, .slice none 0 0]) Z (fun _ => by kernel_rfl)) (jzb E143 Z Z (m7put_ct (i := ⟨24, x.Dst, 0, copV (ix x.Args 0) m, 0, 0, x.Imm, []⟩) om22 (by omega)) (dc d1 (dc (rMach.M (m := ⟨24, x.Dst, 0, copV (ix x.Args 0) m, 0, 0, x.Imm, []⟩) (c := (.slice none 0 0)) wN (wl 24) (rIns.W_Dst d2) (wl 0) ((wfw d0)) (wl 0) (wl 0) (rIns.W_Imm d2)) dn)) (kd kn) ⟨putQ_ok om22.1, (putQ_s.trans om22.2)⟩ p0 fun m35 hm35 om35 bm35 ua35 w6 => ?_)))))))))
  clear bm22
  refine jn (jx (jrt (jtr (jtr ?_))))
  have hst : m35 = memQ x m := (by (try simp only [hm11, hm22, hm35] at hc1 hc2); (try simp only [hm11, hm22, hm35]); unfold memQ mem2Q memQ0 byteQ; by_cases h1 : 0 ≤ x.Imm <;> by_cases h2 : x.Imm ≤ 255 <;> by_cases h3 : 0 < takeQV 3 (copQ (ix x.Args 0) m) <;> by_cases h4 : x.Op = 15 <;> simp [h1, h2, h3, h4] at hc1 hc2 ⊢ <;> rfl)
  exact jr0 Z ua35 Z dn (fun _ _ => (kcb (by rw [← hst]) k0 (kcg (by rw [← hst]) k0 kn)))
  refine jsk (jx (jq (jtl 9 Mixed (by kernel_rfl) (jt (jmv Z) (jt (jmv Z) (jt (jf F163_3 Z) (jt (jl k2 O22 Z Z) (jt (jix (i := 1) U22 Z3 (rIns.c_Args d2) Z Z Z (by omega)) (jt (jlI (dix (rIns.c_Args d2) 1 (by omega)) O3 Z) (jt (jf F163_4 Z) (jt (jl k2 O21 Z Z) ?_)))))))))))
  refine jt (jbu (v := .agg #[.int .i64 26, .int .i64 0, .int .i64 0, .int .i64 (copV (ix x.Args 0) m), .int .i64 (ix x.Args 1), .int .i64 0, .int .i32 x.Imm, .slice none 0 0]) Z (fun _ => by kernel_rfl)) (jtt (jzb E143 Z Z (m7put_ct (i := ⟨26, 0, 0, copV (ix x.Args 0) m, ix x.Args 1, 0, x.Imm, []⟩) om22 (by omega)) (dc d1 (dc (rMach.M (m := ⟨26, 0, 0, copV (ix x.Args 0) m, ix x.Args 1, 0, x.Imm, []⟩) (c := (.slice none 0 0)) wN (wl 26) (wl 0) (wl 0) ((wfw d0)) (wad (dix (rIns.c_Args d2) 1 (by omega))) (wl 0) (rIns.W_Imm d2)) dn)) (kd kn) ⟨putQ_ok om22.1, (putQ_s.trans om22.2)⟩ p0 fun m45 hm45 om45 bm45 ua45 w7 => ?_))
  clear bm22
  refine jn (jx (jrt (jtr ?_)))
  have hst : m45 = memQ x m := (by (try simp only [hm11, hm22, hm45] at hc1 hc2); (try simp only [hm11, hm22, hm45]); unfold memQ mem2Q memQ0 byteQ; by_cases h1 : 0 ≤ x.Imm <;> by_cases h2 : x.Imm ≤ 255 <;> by_cases h3 : 0 < takeQV 3 (copQ (ix x.Args 0) m) <;> by_cases h4 : x.Op = 15 <;> simp [h1, h2, h3, h4] at hc1 hc2 ⊢ <;> rfl)
  exact jr0 Z ua45 Z dn (fun _ _ => (kcb (by rw [← hst]) k0 (kcg (by rw [← hst]) k0 kn)))
  refine jsk (jx (jq (jr (jm Z (jzr E146 Z Z (m7temp_ct om22 (by omega)) (dc d1 dn) (kd kn) ⟨tempQ_ok om22.1, om22.2⟩ fun m47 hm47 om47 bm47 => ?_)))))
  have w47_0 : IntKind.i64.wrap (m22.nx) = m22.nx := (IntWalk.i64_in _ (by omega))
  clear bm22
  refine ja Z (jn (jx (jq (jr (jm Z (jm Z (js (jf F163_4 Z) (js (jl k2 O21 Z Z) (jwr (rIns.W_Imm d2) fun w8 => jzb E141 Z Z (m7word_ct om47 (by omega) m22.nx x.Imm w47_0 w8) (dc d1 dn) (kd kn) ⟨wordQ_ok om47.1, (wordQ_s.trans om47.2)⟩ p0 fun m52 hm52 om52 bm52 ua52 w9 => ?_)))))))))
  clear bm47
  refine jn (jx (jq (jq (jr (js (jf F163_0 Z) (js (jl k2 O3 Z Z) (js (jeql Z Z) (jn (jx ?_)))))))))
  refine jif Z (fun hc3 => ?_) (fun hc3 => ?_)
  refine jq (jr (jm Z (js (jf F163_1 Z) (js (jl k2 O3 Z Z) (jm Z (jm Z (js (jbu (v := .agg #[.int .i64 25, .int .i64 x.Dst, .int .i64 0, .int .i64 (copV (ix x.Args 0) m), .int .i64 m22.nx, .int .i64 0, .int .i32 0, .slice none 0 0]) Z (fun _ => by kernel_rfl)) (jzb E143 Z Z (m7put_ct (i := ⟨25, x.Dst, 0, copV (ix x.Args 0) m, m22.nx, 0, 0, []⟩) om52 (by omega)) (dc d1 (dc (rMach.M (m := ⟨25, x.Dst, 0, copV (ix x.Args 0) m, m22.nx, 0, 0, []⟩) (c := (.slice none 0 0)) wN (wl 25) (rIns.W_Dst d2) (wl 0) ((wfw d0)) (wp w47_0) (wl 0) (wl 0)) dn)) (kd kn) ⟨putQ_ok om52.1, (putQ_s.trans om52.2)⟩ p0 fun m62 hm62 om62 bm62 ua62 w10 => ?_))))))))
  clear bm52
  refine jn (jx (jrt (jtr ?_)))
  have hst : m62 = memQ x m := (by (try simp only [hm11, hm22, hm47, hm52, hm62] at hc1 hc3); (try simp only [hm11, hm22, hm47, hm52, hm62]); unfold memQ mem2Q memQ0 byteQ; by_cases h1 : 0 ≤ x.Imm <;> by_cases h2 : x.Imm ≤ 255 <;> by_cases h3 : 0 < takeQV 3 (copQ (ix x.Args 0) m) <;> by_cases h4 : x.Op = 15 <;> simp [h1, h2, h3, h4] at hc1 hc3 ⊢ <;> rfl)
  exact jr0 Z ua62 Z dn (fun _ _ => (kcb (by rw [← hst]) k0 (kcg (by rw [← hst]) k0 kn)))
  refine jsk (jx (jr (jm Z (jm Z (jm Z (js (jf F163_3 Z) (js (jl k2 O22 Z Z) (js (jix (i := 1) U22 Z3 (rIns.c_Args d2) Z Z Z (by omega)) (js (jlI (dix (rIns.c_Args d2) 1 (by omega)) O3 Z) (js (jbu (v := .agg #[.int .i64 27, .int .i64 0, .int .i64 0, .int .i64 (copV (ix x.Args 0) m), .int .i64 m22.nx, .int .i64 (ix x.Args 1), .int .i32 0, .slice none 0 0]) Z (fun _ => by kernel_rfl)) (jzb E143 Z Z (m7put_ct (i := ⟨27, 0, 0, copV (ix x.Args 0) m, m22.nx, ix x.Args 1, 0, []⟩) om52 (by omega)) (dc d1 (dc (rMach.M (m := ⟨27, 0, 0, copV (ix x.Args 0) m, m22.nx, ix x.Args 1, 0, []⟩) (c := (.slice none 0 0)) wN (wl 27) (wl 0) (wl 0) ((wfw d0)) (wp w47_0) (wad (dix (rIns.c_Args d2) 1 (by omega))) (wl 0)) dn)) (kd kn) ⟨putQ_ok om52.1, (putQ_s.trans om52.2)⟩ p0 fun m71 hm71 om71 bm71 ua71 w11 => ?_)))))))))))
  clear bm52
  refine jn ?_
  have hst : m71 = memQ x m := (by (try simp only [hm11, hm22, hm47, hm52, hm71] at hc1 hc3); (try simp only [hm11, hm22, hm47, hm52, hm71]); unfold memQ mem2Q memQ0 byteQ; by_cases h1 : 0 ≤ x.Imm <;> by_cases h2 : x.Imm ≤ 255 <;> by_cases h3 : 0 < takeQV 3 (copQ (ix x.Args 0) m) <;> by_cases h4 : x.Op = 15 <;> simp [h1, h2, h3, h4] at hc1 hc3 ⊢ <;> rfl)
  exact jd0 Z ua71 Z dn (fun _ _ => (kcb (by rw [← hst]) k0 (kcg (by rw [← hst]) k0 kn)))
theorem E142 : Ent Tryz.prog 142 := ⟨_, Tryz.func142, by kernel_rfl, by kernel_rfl⟩
theorem E144 : Ent Tryz.prog 144 := ⟨_, Tryz.func144, by kernel_rfl, by kernel_rfl⟩
set_option maxRecDepth 4000 in
theorem m7ins_ct {vs al : Value} {m : Mq} {nb c : Nat} {S : List Int} {g0 : Nat} {B0 : Nat} (hok : okSq nb c S m) (hc : c ≤ 970000) {a1 : Value} {x : D.Ins} (hop : 0 ≤ x.Op ∧ x.Op ≤ 1000) (hl9 : x.Op = 1 ∨ x.Op = 17 ∨ (x.Op = 15 ∧ 1 ≤ x.Args.length) ∨ 2 ≤ x.Args.length) : KBq Tryz.prog 95 [vIns x a1] [da rIns (vIns x a1) x] g0 vs al S B0 [] m (insQ x m) (.tuple #[]) := by
  refine jenter (args := [.pointer (some ⟨g0, 0, none⟩), vIns x a1]) Tryz.func95 rfl rfl rfl fun w0 X => ?_
  refine cgo k1 fun w1 => ?_
  have bd0 := okQ.bnd hok.1
  refine jq (jr (jbox Z Z fun g3 => jn (jx (jq (jr (js (jf F163_0 Z) (js (jl k0 O3 Z Z) (jn (jx (jb ?_))))))))))
  refine jq (jr (js (jeql Z Z) (ja Z (jn (jx ?_)))))
  refine jif Z (fun hc1 => ?_) (fun hc1 => ?_)
  refine jr (jm Z (js (jf F163_1 Z) (js (jl k0 O3 Z Z) (js (jf F163_4 Z) (js (jl k0 O21 Z Z) (jwr (rIns.W_Dst d1) fun w2 => jwr (rIns.W_Imm d1) fun w3 => jzb E141 Z Z (m7word_ct hok (by omega) x.Dst x.Imm w2 w3) (dc d0 dn) (kc k1 (kc k1 kn)) ⟨wordQ_ok hok.1, (wordQ_s.trans hok.2)⟩ p0 fun m16 hm16 om16 bm16 ua16 w4 => ?_))))))
  clear bd0
  refine jn (jbn ?_)
  have hst : m16 = insQ x m := (by (try simp only [hm16] at hc1); (try simp only [hm16]); all_goals first | rfl | (simp [insQ, hc1]; done) | (simp [insQ, hc1]; rfl) | (unfold insQ; (repeat' split) <;> first | rfl | (exfalso; omega) | (simp [hc1] at *; done) | (simp_all; done)))
  exact jd0 Z ua16 Z dn (fun _ _ => (kcb (by rw [← hst]) k0 (kcg (by rw [← hst]) k0 kn)))
  refine jq (jq (jr (js (jeql Z Z) (ja Z (jn (jx ?_))))))
  refine jif Z (fun hc2 => ?_) (fun hc2 => ?_)
  refine jsk (jx ?_)
  refine jif Z (fun hc3 => ?_) (fun hc3 => ?_)
  refine jr (jm Z (js (jla k0 A163 Z163 Z Z Z) (jzb E142 Z Z (m7mem_ct hok (by omega) (by first | decide | omega | assumption) (by first | decide | omega | assumption)) (dc d0 (dc d1 dn)) (kc k1 (kc k1 kn)) ⟨memQ_ok hok.1, (memQ_s.trans hok.2)⟩ p0 fun m22 hm22 om22 bm22 ua22 w5 => ?_)))
  clear bd0
  refine jn (jbn ?_)
  have hst : m22 = insQ x m := (by (try simp only [hm22] at hc1 hc2 hc3); (try simp only [hm22]); all_goals first | rfl | (simp [insQ, hc1, hc2, hc3]; done) | (simp [insQ, hc1, hc2, hc3]; rfl) | (unfold insQ; (repeat' split) <;> first | rfl | (exfalso; omega) | (simp [hc1, hc2, hc3] at *; done) | (simp_all; done)))
  exact jd0 Z ua22 Z dn (fun _ _ => (kcb (by rw [← hst]) k0 (kcg (by rw [← hst]) k0 kn)))
  exact absurd hc3 (by simp [hc1, hc2])
  refine jr (js (jeql Z Z) (ja Z (jn (jx ?_))))
  refine jif Z (fun hc4 => ?_) (fun hc4 => ?_)
  refine jr (jm Z (js (jla k0 A163 Z163 Z Z Z) (jzb E142 Z Z (m7mem_ct hok (by omega) (by first | decide | omega | assumption) (by first | decide | omega | assumption)) (dc d0 (dc d1 dn)) (kc k1 (kc k1 kn)) ⟨memQ_ok hok.1, (memQ_s.trans hok.2)⟩ p0 fun m22 hm22 om22 bm22 ua22 w6 => ?_)))
  clear bd0
  refine jn (jbn ?_)
  have hst : m22 = insQ x m := (by (try simp only [hm22] at hc1 hc2 hc4); (try simp only [hm22]); all_goals first | rfl | (simp [insQ, hc1, hc2, hc4]; done) | (simp [insQ, hc1, hc2, hc4]; rfl) | (unfold insQ; (repeat' split) <;> first | rfl | (exfalso; omega) | (simp [hc1, hc2, hc4] at *; done) | (simp_all; done)))
  exact jd0 Z ua22 Z dn (fun _ _ => (kcb (by rw [← hst]) k0 (kcg (by rw [← hst]) k0 kn)))
  refine jq (jr (js (jeql Z Z) (ja Z (jn (jx ?_)))))
  refine jif Z (fun hc5 => ?_) (fun hc5 => ?_)
  refine jany true (.a 0 (.a 1 (.a 2 (.a 3 (.a 4 (.a 6 (.a 7 (.o 5 (.o 8 (.a 9 (.o 10 .e))))))))))) Mixed (by kernel_rfl) (kc k0 kn) fun F7 => jy Z (jmv Z) (jy Z (jf F163_1 Z) (jy Z (jl k0 O3 Z Z) (jy Z (jf F163_4 Z) (jy Z (jl k0 O21 Z Z) (jy Z (jf F163_3 Z) (jy Z (jl k0 O22 Z Z) (jyo Z (jlit (r := (rI .i64)) (l := []) U22 I3 (by decide) Z Z Z ln fun g30 => jyn d0 (kc k1 kn) (jyo Z ?_)))))))))
  refine jdq (rIns.c_Args d3) fun q10 w10 => japlz U22 I3 (by decide) Z k0 Z Z (rIns.c_Args d3) (by omega) fun v33 w11 => jyn d0 (kc k1 kn) (jy Z (jbu (v := .agg #[.int .i64 28, .int .i64 x.Dst, .int .i64 0, .int .i64 0, .int .i64 0, .int .i64 0, .int .i32 x.Imm, v33]) Z (fun _ => by obtain ⟨_, _, _, rfl⟩ := w11; kernel_rfl)) (jyo Z (jfz k0 (by omega) (jzb E143 Z Z (m7put_ct (i := ⟨28, x.Dst, 0, 0, 0, 0, x.Imm, x.Args⟩) hok (by omega)) (dc d4 (dc (rMach.M (m := ⟨28, x.Dst, 0, 0, 0, 0, x.Imm, x.Args⟩) (c := v33) d0 (wl 28) (rIns.W_Dst d5) (wl 0) (wl 0) (wl 0) (wl 0) (rIns.W_Imm d5)) dn)) (kc k1 (kc k1 kn)) ⟨putQ_ok hok.1, (putQ_s.trans hok.2)⟩ p0 fun m35 hm35 om35 bm35 ua35 w14 => ?_))))
  clear bd0
  refine jyz d1 (jyd (jbn ?_))
  have hst : m35 = insQ x m := (by (try simp only [hm35] at hc1 hc2 hc4 hc5); (try simp only [hm35]); all_goals first | rfl | (simp [insQ, hc1, hc2, hc4, hc5]; done) | (simp [insQ, hc1, hc2, hc4, hc5]; rfl) | (unfold insQ; (repeat' split) <;> first | rfl | (exfalso; omega) | (simp [hc1, hc2, hc4, hc5] at *; done) | (simp_all; done)))
  exact jd0 Z ua35 Z dn (fun _ _ => (kcb (by rw [← hst]) k0 (kcg (by rw [← hst]) k0 kn)))
  refine jq (jr (js (jeql Z Z) (ja Z (jn (jx ?_)))))
  refine jif Z (fun hc6 => ?_) (fun hc6 => ?_)
  refine jtl 14 Mixed (by kernel_rfl) (jt (jmv Z) (jt (jf F163_1 Z) (jt (jl k0 O3 Z Z) (jt (jf F163_2 Z) (jt (jl k0 O3 Z Z) (jt (jf F163_3 Z) (jt (jl k0 O22 Z Z) (tdq (rIns.c_Args d1) fun q15 w15 => jt (jix (i := 0) U22 Z3 (rIns.c_Args d1) Z Z Z (by omega)) (jt (jlI (dix (rIns.c_Args d1) 0 (by omega)) O3 Z) (jt (jf F163_3 Z) ?_))))))))))
  refine jt (jl k0 O22 Z Z) (jt (jix (i := 1) U22 Z3 (rIns.c_Args d1) Z Z Z (by omega)) (jt (jlI (dix (rIns.c_Args d1) 1 (by omega)) O3 Z) (jt (jbu (v := .agg #[.int .i64 29, .int .i64 x.Dst, .int .i64 x.Two, .int .i64 (ix x.Args 0), .int .i64 (ix x.Args 1), .int .i64 0, .int .i32 0, .slice none 0 0]) Z (fun _ => by kernel_rfl)) (jtt (jzb E143 Z Z (m7put_ct (i := ⟨29, x.Dst, x.Two, ix x.Args 0, ix x.Args 1, 0, 0, []⟩) hok (by omega)) (dc d0 (dc (rMach.M (m := ⟨29, x.Dst, x.Two, ix x.Args 0, ix x.Args 1, 0, 0, []⟩) (c := (.slice none 0 0)) wN (wl 29) (rIns.W_Dst d1) (rIns.W_Two d1) (wad (dix (rIns.c_Args d1) 0 (by omega))) (wad (dix (rIns.c_Args d1) 1 (by omega))) (wl 0) (wl 0)) dn)) (kc k1 (kc k1 kn)) ⟨putQ_ok hok.1, (putQ_s.trans hok.2)⟩ p0 fun m52 hm52 om52 bm52 ua52 w16 => ?_)))))
  clear bd0
  refine jn (jbn ?_)
  have hst : m52 = insQ x m := (by (try simp only [hm52] at hc1 hc2 hc4 hc5 hc6); (try simp only [hm52]); all_goals first | rfl | (simp [insQ, hc1, hc2, hc4, hc5, hc6]; done) | (simp [insQ, hc1, hc2, hc4, hc5, hc6]; rfl) | (unfold insQ; (repeat' split) <;> first | rfl | (exfalso; omega) | (simp [hc1, hc2, hc4, hc5, hc6] at *; done) | (simp_all; done)))
  exact jd0 Z ua52 Z dn (fun _ _ => (kcb (by rw [← hst]) k0 (kcg (by rw [← hst]) k0 kn)))
  refine jr (jm Z (js (jla k0 A163 Z163 Z Z Z) (jzb E144 Z Z (m7two_ct hok (by omega) (by first | decide | omega | assumption) (by first | decide | omega | assumption)) (dc d0 (dc d1 dn)) (kc k1 (kc k1 kn)) ⟨twoQ_ok hok.1, (twoQ_s.trans hok.2)⟩ p0 fun m8 hm8 om8 bm8 ua8 w17 => ?_)))
  clear bd0
  refine jn (jbn ?_)
  have hst : m8 = insQ x m := (by (try simp only [hm8] at hc1 hc2 hc4 hc5 hc6); (try simp only [hm8]); all_goals first | rfl | (simp [insQ, hc1, hc2, hc4, hc5, hc6]; done) | (simp [insQ, hc1, hc2, hc4, hc5, hc6]; rfl) | (unfold insQ; (repeat' split) <;> first | rfl | (exfalso; omega) | (simp [hc1, hc2, hc4, hc5, hc6] at *; done) | (simp_all; done)))
  exact jd0 Z ua8 Z dn (fun _ _ => (kcb (by rw [← hst]) k0 (kcg (by rw [← hst]) k0 kn)))
theorem J35 : (Tryz.prog.info? 35).bind (·.zero) = some (.agg #[.int .i64 0, .int .i64 0, .int .i64 0, .slice none 0 0, .int .i32 0]) := by kernel_rfl
set_option maxRecDepth 4000 in
theorem m7end_ct {vs al : Value} {m : Mq} {nb c : Nat} {S : List Int} {g0 : Nat} {B0 : Nat} (hok : okSq nb c S m) (hc : c ≤ 970000) {a1a a1b : Value} {t : D.Term} (hT : (t.Kind ≠ 2 ∨ (1 ≤ t.Args.length ∧ 2 ≤ t.To.length)) ∧ (t.Kind ≠ 3 ∨ 1 ≤ t.Args.length)) : KEq Tryz.prog 96 [vTerm t (a1a, a1b)] [da rTerm (vTerm t (a1a, a1b)) t] g0 vs al S B0 rEnd vEnd (endV t m) m (endQ t m) := by
  refine jenter (args := [.pointer (some ⟨g0, 0, none⟩), vTerm t (a1a, a1b)]) Tryz.func96 rfl rfl rfl fun w0 X => ?_
  refine cgo k1 fun w1 => ?_
  have bd0 := okQ.bnd hok.1
  refine jq (jr (jbox Z Z fun g3 => jalc J35 Z fun g4 => jn (jx (jq ?_))))
  refine jjo (u2 fun (g9 : Nat) (v9 : Value) => ⟨IntKind.i32.wrap t.Imm = t.Imm ∧ t.To.length < 1073741824, [dv (rL (rI .i64)) vs S, da rTerm (vTerm t (a1a, a1b)) t], [bx g9 35 [.int .i64 0, .int .i64 0, .int .i64 0, v9, .int .i32 t.Imm], gl X.n (rI .i64) 3 v9 t.To, bx g4 35 [.int .i64 0, .int .i64 0, .int .i64 0, .slice none 0 0, .int .i32 0], bx g3 158 [.int .i64 t.Kind, a1a, a1b, .int .i32 t.Imm], bx g0 155 [vs, .int .i64 m.k, .int .i64 m.nx, al], gl B0 rMach 69 al m.l], [(0, .pointer (some ⟨g0, 0, none⟩)), (3, .pointer (some ⟨g3, 0, none⟩)), (4, .pointer (some ⟨g4, 0, none⟩)), (5, .pointer (some ⟨g9, 0, none⟩))]⟩) ?_ ?_
  refine jany false (.a 1 (.a 2 (.a 4 (.a 5 (.w 0 7 (.w 3 7 (.a 6 (.o 7 (.o 8 .e))) (.o 3 (.a 6 (.o 8 .e)))) (.o 0 (.o 3 (.a 6 (.o 8 .e))))))))) Mixed (by kernel_rfl) (kc k1 kn) fun F3 => jy Z (jf F158_2 Z) (jy Z (jl k0 O22 Z Z) (jy Z (jf F158_3 Z) (jy Z (jl k0 O21 Z Z) ?_)))
  refine jyw Z Z ?_ ?_
  refine jlit (r := (rI .i64)) (l := []) U22 I3 (by decide) Z Z Z ln fun g8 => jyn d0 (kc k2 kn) ?_
  refine jyw Z Z ?_ ?_
  refine jdq (rTerm.c_To d3) fun q6 w6 => japlz U22 I3 (by decide) Z k0 Z Z (rTerm.c_To d3) (by omega) fun v11 w7 => jyn d0 (kc k2 kn) (jy Z (jbu (v := .agg #[.int .i64 0, .int .i64 0, .int .i64 0, v11, .int .i32 t.Imm]) Z (fun _ => by obtain ⟨_, _, _, rfl⟩ := w7; kernel_rfl)) (jyo Z (jalc J35 Z fun g5 => jyn d0 (kc k3 kn) (jyo Z (jsta k0 Z35 Z Z Z ⟨Z, Z, Z, w7.one, Z, trivial⟩ (saf Z) (jyn d0 (kc k3 kn) (jyd (qwr (rTerm.W_Imm d5) fun w10 => ?_))))))))
  exact jje (g5, v11) ⟨w10, by omega⟩ (dc d4 (dc d5 dn)) (kd (kd (kd kn))) ⟨Z, Z, Z, Z, trivial⟩
  refine jalc J35 Z fun g5 => jyn d0 (kc k3 kn) (jyo Z (jdq (rTerm.c_To d4) fun q7 w7 => japlz U22 I3 (by decide) Z k1 Z Z (rTerm.c_To d4) (by omega) fun v11 w8 => jyn d0 (kc k3 kn) (jy Z (jbu (v := .agg #[.int .i64 0, .int .i64 0, .int .i64 0, v11, .int .i32 t.Imm]) Z (fun _ => by obtain ⟨_, _, _, rfl⟩ := w8; kernel_rfl)) (jyo Z (jsta k1 Z35 Z Z Z ⟨Z, Z, Z, w8.one, Z, trivial⟩ (saf Z) (jyn d0 (kc k3 kn) (jyd (qwr (rTerm.W_Imm d5) fun w10 => ?_))))))))
  exact jje (g5, v11) ⟨w10, by omega⟩ (dc d4 (dc d5 dn)) (kd (kd (kd kn))) ⟨Z, Z, Z, Z, trivial⟩
  refine jalc J35 Z fun g5 => jyn d0 (kc k2 kn) (jyo Z (jlit (r := (rI .i64)) (l := []) U22 I3 (by decide) Z Z Z ln fun g8 => jyn d0 (kc k3 kn) (jyo Z (jdq (rTerm.c_To d4) fun q7 w7 => japlz U22 I3 (by decide) Z k0 Z Z (rTerm.c_To d4) (by omega) fun v11 w8 => jyn d0 (kc k3 kn) (jy Z (jbu (v := .agg #[.int .i64 0, .int .i64 0, .int .i64 0, v11, .int .i32 t.Imm]) Z (fun _ => by obtain ⟨_, _, _, rfl⟩ := w8; kernel_rfl)) (jyo Z (jsta k1 Z35 Z Z Z ⟨Z, Z, Z, w8.one, Z, trivial⟩ (saf Z) ?_)))))))
  refine jyn d0 (kc k3 kn) (jyd (qwr (rTerm.W_Imm d5) fun w10 => ?_))
  exact jje (g5, v11) ⟨w10, by omega⟩ (dc d4 (dc d5 dn)) (kd (kd (kd kn))) ⟨Z, Z, Z, Z, trivial⟩
  rintro ⟨g9, v9⟩; dsimp only [u2]; rintro ⟨ww9, ln9⟩
  refine qgo k1 fun w11 => jx (jq (jq (jr (js (jf F158_0 Z) (js (jl k3 O3 Z Z) (jn (jx (jb (jq (jr ?_))))))))))
  refine js (jeql Z Z) (ja Z (jn (jx ?_)))
  refine jif Z (fun hc1 => ?_) (fun hc1 => ?_)
  refine jr (js (jf F35_0 Z) (jst k0 Z3 Z Z Z s0 (jn (jbn (jx (jq (jr (js (jla k0 A35 Z35 Z Z Z) (jsta k2 Z35 Z Z Z ⟨Z, Z, Z, w11.one, Z, trivial⟩ (saf Z) (jn (jx ?_)))))))))))
  refine jrt (qfz k2 (by omega) ?_)
  have hv0 : endV t m = (⟨1, 0, 0, t.To, t.Imm⟩) := (by all_goals first | rfl | ((first | unfold endV | unfold endQ); (repeat' split) <;> first | rfl | (exfalso; omega) | (simp_all; done)))
  have hst : m = endQ t m := (by all_goals first | rfl | ((first | unfold endV | unfold endQ); (repeat' split) <;> first | rfl | (exfalso; omega) | (simp_all; done)))
  exact jrc Z Z k0 A35 Z35 (al, v9) (by rw [hv0] <;> rfl) (dc (dacv vEnd hv0 (rEnd.M (m := ⟨1, 0, 0, t.To, t.Imm⟩) (c := v9) d0 (wl 1) (wl 0) (wl 0) (wp ww9))) dn) (fun _ _ => (kcb (by rw [← hst]) k3 (kcg (by rw [← hst]) k3 kn)))
  refine jq (jr (js (jeql Z Z) (ja Z (jn (jx ?_)))))
  refine jif Z (fun hc2 => ?_) (fun hc2 => ?_)
  refine jq (jr (js (jf F35_0 Z) (jst k0 Z3 Z Z Z s0 (jn (jx (jq (jr (js (jf F158_1 Z) (js (jl k3 O22 Z Z) (jdq (rTerm.c_Args d1) fun q13 w13 => js (jix (i := 0) U22 Z3 (rTerm.c_Args d1) Z Z Z (by omega)) ?_))))))))))
  refine js (jlI (dix (rTerm.c_Args d1) 0 (by omega)) O3 Z) (js (jf F35_1 Z) (jst k0 Z3 Z Z Z s1 (jn (jx (jq (jr (jm Z (jzr E145 Z Z (m7take_ct hok (by omega) 4 (by first | decide | omega | assumption)) (dc d0 dn) (kc k4 (kc k4 kn)) ⟨takeQ_ok hok.1, hok.2⟩ fun m30 hm30 om30 bm30 => ?_))))))))
  have w30_0 : IntKind.i64.wrap (takeQV 4 m) = takeQV 4 m := (IntWalk.i64_in _ (by have h9 := @takeQV_rng 4 (by omega) m; omega))
  have tr30 := @takeQV_rng 4 (by omega) m
  clear bd0
  refine ja Z (jn (jx (jq (jq (jr (jm Z (js (jgtr Z Z) (jn (jx ?_)))))))))
  refine jif Z (fun hc3 => ?_) (fun hc3 => ?_)
  refine jq (jr (js (jla k2 A35 Z35 Z Z Z) (jsta k4 Z35 Z Z Z ⟨Z, Z, Z, w11.one, Z, trivial⟩ (saf Z) (jn (jx (jrt (jtr (jbr (jtr (qfz k4 (by omega) ?_))))))))))
  have hv0 : endV t m = (⟨2, ix t.Args 0, 0, t.To, t.Imm⟩) := (by (try simp only [hm30] at hc1 hc2 hc3); (try simp only [hm30]); all_goals first | rfl | ((first | unfold endV | unfold endQ); (repeat' split) <;> first | rfl | (exfalso; omega) | (simp_all; done)))
  have hst : m30 = endQ t m := (by (try simp only [hm30] at hc1 hc2 hc3); (try simp only [hm30]); all_goals first | rfl | ((first | unfold endV | unfold endQ); (repeat' split) <;> first | rfl | (exfalso; omega) | (simp_all; done)))
  exact jrc Z Z k0 A35 Z35 (al, v9) (by rw [hv0] <;> rfl) (dc (dacv vEnd hv0 (rEnd.M (m := ⟨2, ix t.Args 0, 0, t.To, t.Imm⟩) (c := v9) d0 (wl 2) (wad (dix (rTerm.c_Args d2) 0 (by omega))) (wl 0) (wp ww9))) dn) (fun _ _ => (kcb (by rw [← hst]) k1 (kcg (by rw [← hst]) k1 kn)))
  refine jsk (jx (jq (jr (jm Z (jzr E146 Z Z (m7temp_ct om30 (by omega)) (dc d0 dn) (kd kn) ⟨tempQ_ok om30.1, om30.2⟩ fun m35 hm35 om35 bm35 => ?_)))))
  have w35_0 : IntKind.i64.wrap (m30.nx) = m30.nx := (IntWalk.i64_in _ (by omega))
  clear bm30
  refine ja Z (jn (jx (jq (jr (jm Z (jm Z (jzb E141 Z Z (m7word_ct om35 (by omega) m30.nx 0 w35_0 (by decide)) (dc d0 dn) (kd kn) ⟨wordQ_ok om35.1, (wordQ_s.trans om35.2)⟩ p0 fun m38 hm38 om38 bm38 ua38 w15 => ?_)))))))
  clear bm35
  refine jn (jx (jq (jr (js (jf F35_0 Z) (jst k2 Z3 Z Z Z s0 (jn (jx (jq (jr (jm Z (js (jf F35_1 Z) ?_)))))))))))
  refine jst k0 Z3 Z Z Z s1 (jn (jx (jq (jr (js (jf F158_1 Z) (js (jl k5 O22 Z Z) (js (jix (i := 0) U22 Z3 (rTerm.c_Args d1) Z Z Z (by omega)) (js (jlI (dix (rTerm.c_Args d1) 0 (by omega)) O3 Z) (js (jf F35_2 Z) (jst k0 Z3 Z Z Z s2 (jn ?_)))))))))))
  refine jx (jq (jr (jm Z (js (jeql Z Z) (jn (jx ?_))))))
  refine jif Z (fun hc4 => ?_) (fun hc4 => ?_)
  refine jq (jr (js (jf F35_0 Z) (jst k0 Z3 Z Z Z s0 (jn (jx (jany true (.a 0 (.a 1 (.a 2 (.a 3 (.a 4 (.a 5 (.a 6 (.a 7 (.o 8 (.a 9 (.o 10 .e))))))))))) Mixed (by kernel_rfl) (kc k5 kn) fun F16 => jy Z (jf F158_2 Z) (jy Z (jl k0 O22 Z Z) (adq (rTerm.c_To d1) fun q17 w17 => jy Z (jix (i := 1) U22 Z3 (rTerm.c_To d1) Z Z Z (by omega)) (jy Z (jlI (dix (rTerm.c_To d1) 1 (by omega)) O3 Z) ?_)))))))))
  refine jy Z (jf F158_2 Z) (jy Z (jl k0 O22 Z Z) (jy Z (jix (i := 0) U22 Z3 (rTerm.c_To d1) Z Z Z (by omega)) (jy Z (jlI (dix (rTerm.c_To d1) 0 (by omega)) O3 Z) (jyo Z (jlit (r := (rI .i64)) (l := [ix t.To 1, ix t.To 0]) U22 I3 (by decide) Z Z Z (lV Z Z (wI (wad (dix (rTerm.c_To d2) 1 (by omega)))) (lV Z Z (wI (wad (dix (rTerm.c_To d2) 0 (by omega)))) ln)) fun g58 => jyn d0 (kc k6 kn) (jy Z (jf F35_3 Z) (jyo Z (jst k1 Z22 Z Z Z s3 (jyz d0 (jyd ?_))))))))))
  refine jbn (jx (jq (jr (js (jla k0 A35 Z35 Z Z Z) (jsta k5 Z35 Z Z Z ⟨Z, Z, Z, Z, Z, trivial⟩ (saf Z) (jn (jx (jrt (qfz k2 (by (try simp) <;> omega) ?_)))))))))
  have hv0 : endV t m = (⟨3, m30.nx, ix t.Args 0, [ix t.To 1, ix t.To 0], t.Imm⟩) := (by (try simp only [hm30, hm35, hm38] at hc1 hc2 hc3 hc4); (try simp only [hm30, hm35, hm38]); all_goals first | rfl | ((first | unfold endV | unfold endQ); (repeat' split) <;> first | rfl | (exfalso; omega) | (simp_all; done)))
  have hst : m38 = endQ t m := (by (try simp only [hm30, hm35, hm38] at hc1 hc2 hc3 hc4); (try simp only [hm30, hm35, hm38]); all_goals first | rfl | ((first | unfold endV | unfold endQ); (repeat' split) <;> first | rfl | (exfalso; omega) | (simp_all; done)))
  exact jrc Z Z k0 A35 Z35 (ua38, (.slice (some ⟨g58, 0, none⟩) 2 2)) (by rw [hv0] <;> rfl) (dc (dacv vEnd hv0 (rEnd.M (m := ⟨3, m30.nx, ix t.Args 0, [ix t.To 1, ix t.To 0], t.Imm⟩) (c := (.slice (some ⟨g58, 0, none⟩) 2 2)) d0 (wl 3) (wp w35_0) (wad (dix (rTerm.c_Args d4) 0 (by omega))) (wp ww9))) dn) (fun _ _ => (kcb (by rw [← hst]) k2 (kcg (by rw [← hst]) k2 kn)))
  refine jsk (jbn (jx (jq (jr (js (jla k0 A35 Z35 Z Z Z) (jsta k4 Z35 Z Z Z ⟨Z, Z, Z, w11.one, Z, trivial⟩ (saf Z) (jn (jx (jrt (qfz k4 (by omega) ?_))))))))))
  have hv0 : endV t m = (⟨5, m30.nx, ix t.Args 0, t.To, t.Imm⟩) := (by (try simp only [hm30, hm35, hm38] at hc1 hc2 hc3 hc4); (try simp only [hm30, hm35, hm38]); all_goals first | rfl | ((first | unfold endV | unfold endQ); (repeat' split) <;> first | rfl | (exfalso; omega) | (simp_all; done)))
  have hst : m38 = endQ t m := (by (try simp only [hm30, hm35, hm38] at hc1 hc2 hc3 hc4); (try simp only [hm30, hm35, hm38]); all_goals first | rfl | ((first | unfold endV | unfold endQ); (repeat' split) <;> first | rfl | (exfalso; omega) | (simp_all; done)))
  exact jrc Z Z k0 A35 Z35 (ua38, v9) (by rw [hv0] <;> rfl) (dc (dacv vEnd hv0 (rEnd.M (m := ⟨5, m30.nx, ix t.Args 0, t.To, t.Imm⟩) (c := v9) d0 (wl 5) (wp w35_0) (wad (dix (rTerm.c_Args d2) 0 (by omega))) (wp ww9))) dn) (fun _ _ => (kcb (by rw [← hst]) k2 (kcg (by rw [← hst]) k2 kn)))
  refine jq (jr (js (jeql Z Z) (ja Z (jn (jx ?_)))))
  refine jif Z (fun hc5 => ?_) (fun hc5 => ?_)
  refine jq (jr (js (jf F35_0 Z) (jst k0 Z3 Z Z Z s0 (jn (jx (jr (js (jf F158_1 Z) (js (jl k3 O22 Z Z) (jdq (rTerm.c_Args d1) fun q22 w22 => js (jix (i := 0) U22 Z3 (rTerm.c_Args d1) Z Z Z (by omega)) (js (jlI (dix (rTerm.c_Args d1) 0 (by omega)) O3 Z) ?_))))))))))
  refine js (jf F35_1 Z) (jst k0 Z3 Z Z Z s1 (jn (jbn (jx (jq (jr (js (jla k0 A35 Z35 Z Z Z) (jsta k2 Z35 Z Z Z ⟨Z, Z, Z, w11.one, Z, trivial⟩ (saf Z) (jn (jx (jrt ?_)))))))))))
  refine qfz k2 (by omega) ?_
  have hv0 : endV t m = (⟨6, ix t.Args 0, 0, t.To, t.Imm⟩) := (by all_goals first | rfl | ((first | unfold endV | unfold endQ); (repeat' split) <;> first | rfl | (exfalso; omega) | (simp_all; done)))
  have hst : m = endQ t m := (by all_goals first | rfl | ((first | unfold endV | unfold endQ); (repeat' split) <;> first | rfl | (exfalso; omega) | (simp_all; done)))
  exact jrc Z Z k0 A35 Z35 (al, v9) (by rw [hv0] <;> rfl) (dc (dacv vEnd hv0 (rEnd.M (m := ⟨6, ix t.Args 0, 0, t.To, t.Imm⟩) (c := v9) d0 (wl 6) (wad (dix (rTerm.c_Args d2) 0 (by omega))) (wl 0) (wp ww9))) dn) (fun _ _ => (kcb (by rw [← hst]) k3 (kcg (by rw [← hst]) k3 kn)))
  refine jq (jr (js (jeql Z Z) (ja Z (jn (jx ?_)))))
  refine jif Z (fun hc6 => ?_) (fun hc6 => ?_)
  refine jq (jr (js (jf F35_0 Z) (jst k0 Z3 Z Z Z s0 (jn (jx (jq (jr (js (jf F35_1 Z) (jst k0 Z3 Z Z Z s1 (jn (jx ?_)))))))))))
  refine jq (jr (js (jf F158_1 Z) (js (jl k3 O22 Z Z) (jdq (rTerm.c_Args d1) fun q24 w24 => js (jln U22 (rTerm.c_Args d1) Z) (js (jgtr Z Z) (jn (jx ?_)))))))
  refine jif Z (fun hc7 => ?_) (fun hc7 => ?_)
  refine jr (jm Z (js (jf F158_1 Z) (js (jl k3 O22 Z Z) (js (jix (i := 0) U22 Z3 (rTerm.c_Args d1) Z Z Z (by omega)) (js (jlI (dix (rTerm.c_Args d1) 0 (by omega)) O3 Z) (jwr (wad (dix (rTerm.c_Args d1) 0 (by omega))) fun w25 => jzb E147 Z Z (m7cop_ct hok (by omega) (ix t.Args 0) w25) (dc d0 dn) (kc k4 (kc k4 kn)) ⟨copQ_ok hok.1, (copQ_s.trans hok.2)⟩ p1 fun m81 hm81 om81 bm81 ua81 w26 => ?_))))))
  clear bd0
  refine js (jf F35_1 Z) (jst k2 Z3 Z Z Z s1 (jn (jbn (jx (jq (jr (js (jla k0 A35 Z35 Z Z Z) (jsta k4 Z35 Z Z Z ⟨Z, Z, Z, w11.one, Z, trivial⟩ (saf Z) (jn (jx (jrt ?_)))))))))))
  refine qfz k4 (by omega) ?_
  have hv0 : endV t m = (⟨7, copV (ix t.Args 0) m, 0, t.To, t.Imm⟩) := (by (try simp only [hm81] at hc1 hc2 hc5 hc6 hc7); (try simp only [hm81]); all_goals first | rfl | ((first | unfold endV | unfold endQ); (repeat' split) <;> first | rfl | (exfalso; omega) | (simp_all; done)))
  have hst : m81 = endQ t m := (by (try simp only [hm81] at hc1 hc2 hc5 hc6 hc7); (try simp only [hm81]); all_goals first | rfl | ((first | unfold endV | unfold endQ); (repeat' split) <;> first | rfl | (exfalso; omega) | (simp_all; done)))
  exact jrc Z Z k0 A35 Z35 (ua81, v9) (by rw [hv0] <;> rfl) (dc (dacv vEnd hv0 (rEnd.M (m := ⟨7, copV (ix t.Args 0) m, 0, t.To, t.Imm⟩) (c := v9) d0 (wl 7) ((wfw d1)) (wl 0) (wp ww9))) dn) (fun _ _ => (kcb (by rw [← hst]) k2 (kcg (by rw [← hst]) k2 kn)))
  refine jsk (jbn (jx (jq (jr (js (jla k0 A35 Z35 Z Z Z) (jsta k2 Z35 Z Z Z ⟨Z, Z, Z, w11.one, Z, trivial⟩ (saf Z) (jn (jx (jrt (qfz k2 (by omega) ?_))))))))))
  have hv0 : endV t m = (⟨7, (-1), 0, t.To, t.Imm⟩) := (by all_goals first | rfl | ((first | unfold endV | unfold endQ); (repeat' split) <;> first | rfl | (exfalso; omega) | (simp_all; done)))
  have hst : m = endQ t m := (by all_goals first | rfl | ((first | unfold endV | unfold endQ); (repeat' split) <;> first | rfl | (exfalso; omega) | (simp_all; done)))
  exact jrc Z Z k0 A35 Z35 (al, v9) (by rw [hv0] <;> rfl) (dc (dacv vEnd hv0 (rEnd.M (m := ⟨7, (-1), 0, t.To, t.Imm⟩) (c := v9) d0 (wl 7) (wl (-1)) (wl 0) (wp ww9))) dn) (fun _ _ => (kcb (by rw [← hst]) k3 (kcg (by rw [← hst]) k3 kn)))
  refine jr (js (jf F35_0 Z) (jst k0 Z3 Z Z Z s0 (jn (jbn (jx (jq (jr (js (jla k0 A35 Z35 Z Z Z) (jsta k2 Z35 Z Z Z ⟨Z, Z, Z, w11.one, Z, trivial⟩ (saf Z) (jn (jx ?_)))))))))))
  refine jrt (qfz k2 (by omega) ?_)
  have hv0 : endV t m = (⟨8, 0, 0, t.To, t.Imm⟩) := (by all_goals first | rfl | ((first | unfold endV | unfold endQ); (repeat' split) <;> first | rfl | (exfalso; omega) | (simp_all; done)))
  have hst : m = endQ t m := (by all_goals first | rfl | ((first | unfold endV | unfold endQ); (repeat' split) <;> first | rfl | (exfalso; omega) | (simp_all; done)))
  exact jrc Z Z k0 A35 Z35 (al, v9) (by rw [hv0] <;> rfl) (dc (dacv vEnd hv0 (rEnd.M (m := ⟨8, 0, 0, t.To, t.Imm⟩) (c := v9) d0 (wl 8) (wl 0) (wl 0) (wp ww9))) dn) (fun _ _ => (kcb (by rw [← hst]) k3 (kcg (by rw [← hst]) k3 kn)))
end Go.Proofs.YtehhjlkmbdhckaaGreat
