/- Walks. Conditions: each contract names its own. -/
import Derived.Test.YtehibklogdngbaaWI
namespace Go.Proofs.Ytehibklogdngbaa
set_option linter.unusedVariables false
set_option linter.unusedSimpArgs false
set_option linter.unusedSectionVars false
open Go.JE

theorem Try.ent10 : Ent Try.prog 10 := ⟨_, Try.func10, by kernel_rfl, by kernel_rfl⟩
theorem Try.ent16 : Ent Try.prog 16 := ⟨_, Try.func16, by kernel_rfl, by kernel_rfl⟩
theorem Try.ent20 : Ent Try.prog 20 := ⟨_, Try.func20, by kernel_rfl, by kernel_rfl⟩
theorem Try.ent8 : Ent Try.prog 8 := ⟨_, Try.func8, by kernel_rfl, by kernel_rfl⟩
theorem Try.sz41 : Sz Try.prog 41 16 := by unfold Sz; kernel_rfl
/- ---------------------------------------------- what an instruction touches -/
def applyW (rs : List Int) : List (Int × Int) → List Int
  | [] => rs
  | p :: l => applyW (setM rs p.1 p.2) l
def writesM (i : D.Mach) (regs mem : List Int) : List (Int × Int) :=
  if i.Op = 1 then [(i.D, getM regs i.A)]
  else if i.Op = 2 then [(i.A, getM regs i.B), (i.B, getM regs i.A)]
  else if i.Op = 3 ∨ i.Op = 4 then [(i.D, i.Imm)]
  else if 5 ≤ i.Op ∧ i.Op ≤ 17 then (if (doM (i.Op - 5 + 2) (getM regs i.A) (getM regs i.B)).2 = true then [(i.D, (doM (i.Op - 5 + 2) (getM regs i.A) (getM regs i.B)).1)] else [])
  else if 18 ≤ i.Op ∧ i.Op ≤ 22 then [(i.D, (doM (immOp i.Op) (getM regs i.A) i.Imm).1)]
  else if i.Op = 23 then [(i.D, w32 (w32 (getM regs i.A * getM regs i.B) + getM regs i.C))]
  else if i.Op = 24 then (if (loadM mem (w32 (getM regs i.A + i.Imm))).2 = true then [(i.D, (loadM mem (w32 (getM regs i.A + i.Imm))).1)] else [])
  else if i.Op = 25 then (if (loadM mem (w32 (getM regs i.A + getM regs i.B))).2 = true then [(i.D, (loadM mem (w32 (getM regs i.A + getM regs i.B))).1)] else [])
  else if i.Op = 29 then [(i.D, (wideM (getM regs i.A) (getM regs i.B)).1), (i.E, (wideM (getM regs i.A) (getM regs i.B)).2)]
  else []
section
variable {x : D.Mach} {r m : List Int}

theorem st0 (h : x.Op = 1) : stepM x r m = ((0, true), setM r x.D (getM r x.A), m) := by unfold stepM; rw [if_pos h]
theorem wr0 (h : x.Op = 1) : writesM x r m = [(x.D, (getM r x.A))] := by unfold writesM; rw [if_pos h]
theorem tk0 (h : x.Op = 1) : takesM x = [x.A] := by unfold takesM; rw [if_pos (by omega)]
theorem mk0 (h : x.Op = 1) : makesM x = [x.D] := by unfold makesM; rw [if_neg (by omega), if_neg (by omega), if_neg (by omega)]
theorem st1 (h : x.Op = 2) : stepM x r m = ((0, true), setM (setM r x.A (getM r x.B)) x.B (getM r x.A), m) := by unfold stepM; rw [if_neg (by omega), if_pos h]
theorem wr1 (h : x.Op = 2) : writesM x r m = [(x.A, (getM r x.B)), (x.B, (getM r x.A))] := by unfold writesM; rw [if_neg (by omega), if_pos h]
theorem tk1 (h : x.Op = 2) : takesM x = [x.A, x.B] := by unfold takesM; rw [if_neg (by omega), if_pos (by omega)]
theorem mk1 (h : x.Op = 2) : makesM x = [x.A, x.B] := by unfold makesM; rw [if_pos (by omega)]
theorem st2 (h : x.Op = 3 ∨ x.Op = 4) : stepM x r m = ((0, true), setM r x.D x.Imm, m) := by unfold stepM; rw [if_neg (by omega), if_neg (by omega), if_pos h]
theorem wr2 (h : x.Op = 3 ∨ x.Op = 4) : writesM x r m = [(x.D, x.Imm)] := by unfold writesM; rw [if_neg (by omega), if_neg (by omega), if_pos h]
theorem tk2 (h : x.Op = 3 ∨ x.Op = 4) : takesM x = [] := by unfold takesM; rw [if_neg (by omega), if_neg (by omega), if_neg (by omega), if_neg (by omega)]
theorem mk2 (h : x.Op = 3 ∨ x.Op = 4) : makesM x = [x.D] := by unfold makesM; rw [if_neg (by omega), if_neg (by omega), if_neg (by omega)]
theorem st3 (h : 5 ≤ x.Op ∧ x.Op ≤ 17) : stepM x r m = if (doM (x.Op - 5 + 2) (getM r x.A) (getM r x.B)).2 = true then ((0, true), setM r x.D (doM (x.Op - 5 + 2) (getM r x.A) (getM r x.B)).1, m) else ((-1, false), r, m) := by unfold stepM; rw [if_neg (by omega), if_neg (by omega), if_neg (by omega), if_pos h]
theorem wr3 (h : 5 ≤ x.Op ∧ x.Op ≤ 17) : writesM x r m = if (doM (x.Op - 5 + 2) (getM r x.A) (getM r x.B)).2 = true then [(x.D, (doM (x.Op - 5 + 2) (getM r x.A) (getM r x.B)).1)] else [] := by unfold writesM; rw [if_neg (by omega), if_neg (by omega), if_neg (by omega), if_pos h]
theorem tk3 (h : 5 ≤ x.Op ∧ x.Op ≤ 17) : takesM x = [x.A, x.B] := by unfold takesM; rw [if_neg (by omega), if_pos (by omega)]
theorem mk3 (h : 5 ≤ x.Op ∧ x.Op ≤ 17) : makesM x = [x.D] := by unfold makesM; rw [if_neg (by omega), if_neg (by omega), if_neg (by omega)]
theorem st4 (h : 18 ≤ x.Op ∧ x.Op ≤ 22) : stepM x r m = ((0, true), setM r x.D (doM (immOp x.Op) (getM r x.A) x.Imm).1, m) := by unfold stepM; rw [if_neg (by omega), if_neg (by omega), if_neg (by omega), if_neg (by omega), if_pos h]
theorem wr4 (h : 18 ≤ x.Op ∧ x.Op ≤ 22) : writesM x r m = [(x.D, (doM (immOp x.Op) (getM r x.A) x.Imm).1)] := by unfold writesM; rw [if_neg (by omega), if_neg (by omega), if_neg (by omega), if_neg (by omega), if_pos h]
theorem tk4 (h : 18 ≤ x.Op ∧ x.Op ≤ 22) : takesM x = [x.A] := by unfold takesM; rw [if_pos (by omega)]
theorem mk4 (h : 18 ≤ x.Op ∧ x.Op ≤ 22) : makesM x = [x.D] := by unfold makesM; rw [if_neg (by omega), if_neg (by omega), if_neg (by omega)]
theorem st5 (h : x.Op = 23) : stepM x r m = ((0, true), setM r x.D (w32 (w32 (getM r x.A * getM r x.B) + getM r x.C)), m) := by unfold stepM; rw [if_neg (by omega), if_neg (by omega), if_neg (by omega), if_neg (by omega), if_neg (by omega), if_pos h]
theorem wr5 (h : x.Op = 23) : writesM x r m = [(x.D, w32 (w32 (getM r x.A * getM r x.B) + getM r x.C))] := by unfold writesM; rw [if_neg (by omega), if_neg (by omega), if_neg (by omega), if_neg (by omega), if_neg (by omega), if_pos h]
theorem tk5 (h : x.Op = 23) : takesM x = [x.A, x.B, x.C] := by unfold takesM; rw [if_neg (by omega), if_neg (by omega), if_pos (by omega)]
theorem mk5 (h : x.Op = 23) : makesM x = [x.D] := by unfold makesM; rw [if_neg (by omega), if_neg (by omega), if_neg (by omega)]
theorem st6 (h : x.Op = 24) : stepM x r m = if (loadM m (w32 (getM r x.A + x.Imm))).2 = true then ((0, true), setM r x.D (loadM m (w32 (getM r x.A + x.Imm))).1, m) else ((-2, false), r, m) := by unfold stepM; rw [if_neg (by omega), if_neg (by omega), if_neg (by omega), if_neg (by omega), if_neg (by omega), if_neg (by omega), if_pos h]
theorem wr6 (h : x.Op = 24) : writesM x r m = if (loadM m (w32 (getM r x.A + x.Imm))).2 = true then [(x.D, (loadM m (w32 (getM r x.A + x.Imm))).1)] else [] := by unfold writesM; rw [if_neg (by omega), if_neg (by omega), if_neg (by omega), if_neg (by omega), if_neg (by omega), if_neg (by omega), if_pos h]
theorem tk6 (h : x.Op = 24) : takesM x = [x.A] := by unfold takesM; rw [if_pos (by omega)]
theorem mk6 (h : x.Op = 24) : makesM x = [x.D] := by unfold makesM; rw [if_neg (by omega), if_neg (by omega), if_neg (by omega)]
theorem st7 (h : x.Op = 25) : stepM x r m = if (loadM m (w32 (getM r x.A + getM r x.B))).2 = true then ((0, true), setM r x.D (loadM m (w32 (getM r x.A + getM r x.B))).1, m) else ((-2, false), r, m) := by unfold stepM; rw [if_neg (by omega), if_neg (by omega), if_neg (by omega), if_neg (by omega), if_neg (by omega), if_neg (by omega), if_neg (by omega), if_pos h]
theorem wr7 (h : x.Op = 25) : writesM x r m = if (loadM m (w32 (getM r x.A + getM r x.B))).2 = true then [(x.D, (loadM m (w32 (getM r x.A + getM r x.B))).1)] else [] := by unfold writesM; rw [if_neg (by omega), if_neg (by omega), if_neg (by omega), if_neg (by omega), if_neg (by omega), if_neg (by omega), if_neg (by omega), if_pos h]
theorem tk7 (h : x.Op = 25) : takesM x = [x.A, x.B] := by unfold takesM; rw [if_neg (by omega), if_pos (by omega)]
theorem mk7 (h : x.Op = 25) : makesM x = [x.D] := by unfold makesM; rw [if_neg (by omega), if_neg (by omega), if_neg (by omega)]
theorem st8 (h : x.Op = 26) : stepM x r m = ((if storeOk m (w32 (getM r x.A + x.Imm)) (getM r x.B) = true then (0, true) else (-2, false)), r, storeM m (w32 (getM r x.A + x.Imm)) (getM r x.B)) := by unfold stepM; rw [if_neg (by omega), if_neg (by omega), if_neg (by omega), if_neg (by omega), if_neg (by omega), if_neg (by omega), if_neg (by omega), if_neg (by omega), if_pos h]
theorem wr8 (h : x.Op = 26) : writesM x r m = [] := by unfold writesM; rw [if_neg (by omega), if_neg (by omega), if_neg (by omega), if_neg (by omega), if_neg (by omega), if_neg (by omega), if_neg (by omega), if_neg (by omega), if_neg (by omega)]
theorem tk8 (h : x.Op = 26) : takesM x = [x.A, x.B] := by unfold takesM; rw [if_neg (by omega), if_pos (by omega)]
theorem mk8 (h : x.Op = 26) : makesM x = [] := by unfold makesM; rw [if_neg (by omega), if_neg (by omega), if_pos (by omega)]
theorem st9 (h : x.Op = 27) : stepM x r m = ((if storeOk m (w32 (getM r x.A + getM r x.B)) (getM r x.C) = true then (0, true) else (-2, false)), r, storeM m (w32 (getM r x.A + getM r x.B)) (getM r x.C)) := by unfold stepM; rw [if_neg (by omega), if_neg (by omega), if_neg (by omega), if_neg (by omega), if_neg (by omega), if_neg (by omega), if_neg (by omega), if_neg (by omega), if_neg (by omega), if_pos h]
theorem wr9 (h : x.Op = 27) : writesM x r m = [] := by unfold writesM; rw [if_neg (by omega), if_neg (by omega), if_neg (by omega), if_neg (by omega), if_neg (by omega), if_neg (by omega), if_neg (by omega), if_neg (by omega), if_neg (by omega)]
theorem tk9 (h : x.Op = 27) : takesM x = [x.A, x.B, x.C] := by unfold takesM; rw [if_neg (by omega), if_neg (by omega), if_pos (by omega)]
theorem mk9 (h : x.Op = 27) : makesM x = [] := by unfold makesM; rw [if_neg (by omega), if_neg (by omega), if_pos (by omega)]
theorem st10 (h : x.Op = 29) : stepM x r m = ((0, true), setM (setM r x.D (wideM (getM r x.A) (getM r x.B)).1) x.E (wideM (getM r x.A) (getM r x.B)).2, m) := by unfold stepM; rw [if_neg (by omega), if_neg (by omega), if_neg (by omega), if_neg (by omega), if_neg (by omega), if_neg (by omega), if_neg (by omega), if_neg (by omega), if_neg (by omega), if_neg (by omega), if_pos h]
theorem wr10 (h : x.Op = 29) : writesM x r m = [(x.D, (wideM (getM r x.A) (getM r x.B)).1), (x.E, (wideM (getM r x.A) (getM r x.B)).2)] := by unfold writesM; rw [if_neg (by omega), if_neg (by omega), if_neg (by omega), if_neg (by omega), if_neg (by omega), if_neg (by omega), if_neg (by omega), if_neg (by omega), if_pos h]
theorem tk10 (h : x.Op = 29) : takesM x = [x.A, x.B] := by unfold takesM; rw [if_neg (by omega), if_pos (by omega)]
theorem mk10 (h : x.Op = 29) : makesM x = [x.D, x.E] := by unfold makesM; rw [if_neg (by omega), if_pos (by omega)]
theorem st11 (h : x.Op < 1 ∨ x.Op = 28 ∨ 29 < x.Op) : stepM x r m = ((0, true), r, m) := by unfold stepM; rw [if_neg (by omega), if_neg (by omega), if_neg (by omega), if_neg (by omega), if_neg (by omega), if_neg (by omega), if_neg (by omega), if_neg (by omega), if_neg (by omega), if_neg (by omega), if_neg (by omega)]
theorem wr11 (h : x.Op < 1 ∨ x.Op = 28 ∨ 29 < x.Op) : writesM x r m = [] := by unfold writesM; rw [if_neg (by omega), if_neg (by omega), if_neg (by omega), if_neg (by omega), if_neg (by omega), if_neg (by omega), if_neg (by omega), if_neg (by omega), if_neg (by omega)]
theorem op_all (x : D.Mach) : (x.Op = 1) ∨ (x.Op = 2) ∨ (x.Op = 3 ∨ x.Op = 4) ∨ (5 ≤ x.Op ∧ x.Op ≤ 17) ∨ (18 ≤ x.Op ∧ x.Op ≤ 22) ∨ (x.Op = 23) ∨ (x.Op = 24) ∨ (x.Op = 25) ∨ (x.Op = 26) ∨ (x.Op = 27) ∨ (x.Op = 29) ∨ (x.Op < 1 ∨ x.Op = 28 ∨ 29 < x.Op) := by omega
end
section
variable (x : D.Mach) (m : List Int)
theorem step_writes (r : List Int) : (stepM x r m).2.1 = applyW r (writesM x r m) := by
  rcases op_all x with h | h | h | h | h | h | h | h | h | h | h | h
  · rw [st0 h, wr0 h]; rfl
  · rw [st1 h, wr1 h]; rfl
  · rw [st2 h, wr2 h]; rfl
  · rw [st3 h, wr3 h]; split <;> rfl
  · rw [st4 h, wr4 h]; rfl
  · rw [st5 h, wr5 h]; rfl
  · rw [st6 h, wr6 h]; split <;> rfl
  · rw [st7 h, wr7 h]; split <;> rfl
  · rw [st8 h, wr8 h]; rfl
  · rw [st9 h, wr9 h]; rfl
  · rw [st10 h, wr10 h]; rfl
  · rw [st11 h, wr11 h]; rfl
theorem step_agree {a c : List Int} (hg : ∀ r ∈ takesM x, getM c r = getM a r) : (stepM x c m).1 = (stepM x a m).1 ∧ (stepM x c m).2.2 = (stepM x a m).2.2 ∧ writesM x c m = writesM x a m := by
  rcases op_all x with h | h | h | h | h | h | h | h | h | h | h | h
  · rw [st0 h, st0 h, wr0 h, wr0 h, hg x.A (by rw [tk0 h]; simp)]; exact ⟨rfl, rfl, rfl⟩
  · rw [st1 h, st1 h, wr1 h, wr1 h, hg x.A (by rw [tk1 h]; simp), hg x.B (by rw [tk1 h]; simp)]; exact ⟨rfl, rfl, rfl⟩
  · rw [st2 h, st2 h, wr2 h, wr2 h]; exact ⟨rfl, rfl, rfl⟩
  · rw [st3 h, st3 h, wr3 h, wr3 h, hg x.A (by rw [tk3 h]; simp), hg x.B (by rw [tk3 h]; simp)]; split <;> exact ⟨rfl, rfl, rfl⟩
  · rw [st4 h, st4 h, wr4 h, wr4 h, hg x.A (by rw [tk4 h]; simp)]; exact ⟨rfl, rfl, rfl⟩
  · rw [st5 h, st5 h, wr5 h, wr5 h, hg x.A (by rw [tk5 h]; simp), hg x.B (by rw [tk5 h]; simp), hg x.C (by rw [tk5 h]; simp)]; exact ⟨rfl, rfl, rfl⟩
  · rw [st6 h, st6 h, wr6 h, wr6 h, hg x.A (by rw [tk6 h]; simp)]; split <;> exact ⟨rfl, rfl, rfl⟩
  · rw [st7 h, st7 h, wr7 h, wr7 h, hg x.A (by rw [tk7 h]; simp), hg x.B (by rw [tk7 h]; simp)]; split <;> exact ⟨rfl, rfl, rfl⟩
  · rw [st8 h, st8 h, wr8 h, wr8 h, hg x.A (by rw [tk8 h]; simp), hg x.B (by rw [tk8 h]; simp)]; exact ⟨rfl, rfl, rfl⟩
  · rw [st9 h, st9 h, wr9 h, wr9 h, hg x.A (by rw [tk9 h]; simp), hg x.B (by rw [tk9 h]; simp), hg x.C (by rw [tk9 h]; simp)]; exact ⟨rfl, rfl, rfl⟩
  · rw [st10 h, st10 h, wr10 h, wr10 h, hg x.A (by rw [tk10 h]; simp), hg x.B (by rw [tk10 h]; simp)]; exact ⟨rfl, rfl, rfl⟩
  · rw [st11 h, st11 h, wr11 h, wr11 h]; exact ⟨rfl, rfl, rfl⟩
theorem storeM_no {mem : List Int} {a v : Int} (h : ¬ storeOk mem a v = true) : storeM mem a v = mem := by
  unfold storeOk loadM at h
  unfold storeM
  split at h
  · rw [if_pos (by assumption)]
  · exact absurd rfl h
theorem doM_ok {op a b : Int} (h : 2 ≤ op ∧ op < 14) : (doM op a b).2 = true := by
  have hc : op = 2 ∨ op = 3 ∨ op = 4 ∨ op = 5 ∨ op = 6 ∨ op = 7 ∨ op = 8 ∨ op = 9 ∨ op = 10 ∨ op = 11 ∨ op = 12 ∨ op = 13 := by omega
  rcases hc with rfl | rfl | rfl | rfl | rfl | rfl | rfl | rfl | rfl | rfl | rfl | rfl <;> rfl
theorem step_trap {a : List Int} (g : (stepM x a m).1.2 = false) : (stepM x a m).2.2 = m ∧ writesM x a m = [] ∧ ((stepM x a m).1.1 = -1 ∧ x.Op = 17 ∨ (stepM x a m).1.1 = -2 ∧ 24 ≤ x.Op ∧ x.Op ≤ 27) := by
  rcases op_all x with h | h | h | h | h | h | h | h | h | h | h | h
  · rw [st0 h] at g; cases g
  · rw [st1 h] at g; cases g
  · rw [st2 h] at g; cases g
  · rw [st3 h] at g ⊢
    rw [wr3 h]
    split at g
    · cases g
    · rename_i h5
      rw [if_neg h5, if_neg h5]
      refine ⟨rfl, rfl, .inl ⟨rfl, ?_⟩⟩
      by_cases h6 : x.Op = 17
      · exact h6
      · exact absurd (doM_ok (by omega)) h5
  · rw [st4 h] at g; cases g
  · rw [st5 h] at g; cases g
  · rw [st6 h] at g ⊢
    rw [wr6 h]
    split at g
    · cases g
    · rename_i h5
      rw [if_neg h5, if_neg h5]
      exact ⟨rfl, rfl, .inr ⟨rfl, by omega, by omega⟩⟩
  · rw [st7 h] at g ⊢
    rw [wr7 h]
    split at g
    · cases g
    · rename_i h5
      rw [if_neg h5, if_neg h5]
      exact ⟨rfl, rfl, .inr ⟨rfl, by omega, by omega⟩⟩
  · rw [st8 h] at g ⊢
    rw [wr8 h]
    have h10 : ¬ storeOk m (w32 (getM a x.A + x.Imm)) (getM a x.B) = true := by intro h11; rw [if_pos h11] at g; cases g
    rw [if_neg h10, storeM_no h10]
    exact ⟨rfl, rfl, .inr ⟨rfl, by omega, by omega⟩⟩
  · rw [st9 h] at g ⊢
    rw [wr9 h]
    have h10 : ¬ storeOk m (w32 (getM a x.A + getM a x.B)) (getM a x.C) = true := by intro h11; rw [if_pos h11] at g; cases g
    rw [if_neg h10, storeM_no h10]
    exact ⟨rfl, rfl, .inr ⟨rfl, by omega, by omega⟩⟩
  · rw [st10 h] at g; cases g
  · rw [st11 h] at g; cases g
/-- which registers are written -/
theorem writes_keys (a : List Int) : writesM x a m = [] ∨ (writesM x a m).map (·.1) = makesM x := by
  rcases op_all x with h | h | h | h | h | h | h | h | h | h | h | h
  · rw [wr0 h, mk0 h]; exact .inr rfl
  · rw [wr1 h, mk1 h]; exact .inr rfl
  · rw [wr2 h, mk2 h]; exact .inr rfl
  · rw [wr3 h, mk3 h]; split; exact .inr rfl; exact .inl rfl
  · rw [wr4 h, mk4 h]; exact .inr rfl
  · rw [wr5 h, mk5 h]; exact .inr rfl
  · rw [wr6 h, mk6 h]; split; exact .inr rfl; exact .inl rfl
  · rw [wr7 h, mk7 h]; split; exact .inr rfl; exact .inl rfl
  · rw [wr8 h]; exact .inl rfl
  · rw [wr9 h]; exact .inl rfl
  · rw [wr10 h, mk10 h]; exact .inr rfl
  · rw [wr11 h]; exact .inl rfl
theorem writes_all {a : List Int} (g : (stepM x a m).1.2 = true) (h28 : x.Op ≠ 28) (h30 : x.Op ≠ 30) : (writesM x a m).map (·.1) = makesM x := by
  rcases op_all x with h | h | h | h | h | h | h | h | h | h | h | h
  · rw [wr0 h, mk0 h]; rfl
  · rw [wr1 h, mk1 h]; rfl
  · rw [wr2 h, mk2 h]; rfl
  · rw [wr3 h, mk3 h]
    rw [st3 h] at g
    split at g
    · rename_i h5; rw [if_pos h5]; rfl
    · cases g
  · rw [wr4 h, mk4 h]; rfl
  · rw [wr5 h, mk5 h]; rfl
  · rw [wr6 h, mk6 h]
    rw [st6 h] at g
    split at g
    · rename_i h5; rw [if_pos h5]; rfl
    · cases g
  · rw [wr7 h, mk7 h]
    rw [st7 h] at g
    split at g
    · rename_i h5; rw [if_pos h5]; rfl
    · cases g
  · rw [wr8 h, mk8 h]; rfl
  · rw [wr9 h, mk9 h]; rfl
  · rw [wr10 h, mk10 h]; rfl
  · rw [wr11 h]
    unfold makesM
    rw [if_neg (by omega), if_neg (by omega), if_pos (by omega)]; rfl
end
theorem ix_setM {rs : List Int} {r v : Int} {k : Nat} (hk : k < rs.length) : ix (setM rs r v) k = if r = k then v else ix rs k := by
  unfold setM
  by_cases h : 0 ≤ r ∧ r < rs.length
  · rw [if_pos h]
    by_cases h1 : r = k
    · rw [if_pos h1, ix_eq (by simpa using hk)]
      rw [List.getElem_set]; rw [if_pos (by omega)]
    · rw [if_neg h1, ix_eq (by simpa using hk), List.getElem_set, if_neg (by omega), ix_eq hk]
  · rw [if_neg h, if_neg (by omega)]
theorem applyW_not : ∀ {ws : List (Int × Int)} {rs : List Int} {k : Nat}, k < rs.length → ¬ (k : Int) ∈ ws.map (·.1) → ix (applyW rs ws) k = ix rs k
  | [], _, _, _, _ => rfl
  | p :: l, rs, k, hk, h => by
    rw [applyW, applyW_not (by rw [setM_len]; exact hk) (fun h1 => h (by simp at h1 ⊢; exact .inr h1)), ix_setM hk, if_neg (fun e => h (by simp [e]))]
theorem applyW_in : ∀ {ws : List (Int × Int)} {a c : List Int} {k : Nat}, k < a.length → k < c.length → (k : Int) ∈ ws.map (·.1) → ix (applyW a ws) k = ix (applyW c ws) k
  | p :: l, a, c, k, ha, hc, h => by
    rw [applyW, applyW]
    by_cases h1 : (k : Int) ∈ l.map (·.1)
    · exact applyW_in (by rw [setM_len]; exact ha) (by rw [setM_len]; exact hc) h1
    · have h2 : p.1 = k := by
        rw [List.map_cons] at h
        rcases List.mem_cons.1 h with h | h
        · exact h.symm
        · exact absurd h h1
      rw [applyW_not (by rw [setM_len]; exact ha) h1, applyW_not (by rw [setM_len]; exact hc) h1, ix_setM ha, ix_setM hc, if_pos h2, if_pos h2]
def mixM (a : List Int) : List Int → List Int → List Int
  | c, [] => c
  | c, r :: l => mixM a (if 0 ≤ r ∧ r < 16 then c.set (Int.toNat r) (ix a (Int.toNat r)) else c) l
theorem mix_stay {a : List Int} : ∀ {l c : List Int} {k : Nat}, k < c.length → ix c k = ix a k → ix (mixM a c l) k = ix a k
  | [], _, _, _, h => h
  | r :: l, c, k, hk, h => by
    rw [mixM]
    split
    · refine mix_stay (by rw [List.length_set]; exact hk) ?_
      rw [ix_eq (by rw [List.length_set]; exact hk), List.getElem_set]
      split
      · rename_i e; rw [e]
      · rw [← ix_eq hk]; exact h
    · exact mix_stay hk h
theorem mix_len {a : List Int} : ∀ {l c : List Int}, (mixM a c l).length = c.length
  | [], _ => rfl
  | r :: l, c => by rw [mixM, mix_len]; split <;> simp
theorem mix_agree {a : List Int} : ∀ {l c : List Int} {r : Int}, c.length = 16 → r ∈ l → 0 ≤ r → r < 16 → ix (mixM a c l) (Int.toNat r) = ix a (Int.toNat r)
  | q :: l, c, r, hc, hr, h0, h1 => by
    rw [mixM]
    by_cases e : r = q
    · subst e
      rw [if_pos ⟨h0, h1⟩]
      refine mix_stay (by rw [List.length_set]; omega) ?_
      rw [ix_eq (by rw [List.length_set]; omega), List.getElem_set, if_pos rfl]
    · rcases List.mem_cons.1 hr with hr | hr
      · exact absurd hr e
      · exact mix_agree (by split <;> simp [hc]) hr h0 h1
theorem mix_get {a c l : List Int} (ha : a.length = 16) (hc : c.length = 16) : ∀ r ∈ l, getM (mixM a c l) r = getM a r := by
  intro r hr
  unfold getM
  rw [mix_len, ha, hc]
  by_cases h : r < 0 ∨ ((16 : Nat) : Int) ≤ r
  · rw [if_pos h, if_pos h]
  · rw [if_neg h, if_neg h]; exact mix_agree hc hr (by omega) (by omega)
theorem touch1 {x : D.Mach} {a c m : List Int} {k : Nat} (hk : k < 16) (ha : a.length = 16) (hc : c.length = 16) (hag : ∀ r ∈ takesM x, getM c r = getM a r)
    (h : ((¬ (k : Int) ∈ makesM x ∨ (stepM x a m).1.2 = false) ∧ ¬ ix (stepM x a m).2.1 k = ix a k) ∨ ((k : Int) ∈ makesM x ∧ (stepM x a m).1.2 = true ∧ ¬ x.Op = 28 ∧ ¬ x.Op = 30 ∧ ¬ ix (stepM x a m).2.1 k = ix (stepM x c m).2.1 k)) : False := by
  rcases h with ⟨h1, h2⟩ | ⟨h1, h2, h3, h4, h5⟩
  · refine h2 ?_
    rw [step_writes]
    refine applyW_not (by omega) ?_
    rcases h1 with h1 | h1
    · rcases writes_keys x m a with e | e
      · rw [e]; simp
      · rw [e]; exact h1
    · rw [(step_trap x m h1).2.1]; simp
  · refine h5 ?_
    rw [step_writes, step_writes, (step_agree x m hag).2.2]
    refine applyW_in (by omega) (by omega) ?_
    rw [writes_all x m h2 h3 h4]; exact h1
def fewM (i : D.Mach) : D.Mach := ⟨i.Op, i.D, i.E, i.A, i.B, i.C, i.Imm, i.Args.take 7⟩
def someM (l : List Int) : List Int := l.take 20
theorem someM_len (l : List Int) : (someM l).length ≤ 20 := by unfold someM; rw [List.length_take]; omega
theorem any_snoc {α : Type} [Inhabited α] {l : List α} {q : α → Bool} {k : Nat} (hk : k < l.length) : (l.take (k + 1)).any q = ((l.take k).any q || q (ix l k)) := by rw [take_ix hk, List.any_append]; simp
theorem any_mem {l : List Int} {j k : Nat} {b : Bool} (hb : b = (l.take j).any (fun y => decide (y = (k : Int)))) (hj : l.length ≤ j) : b = decide ((k : Int) ∈ l) := by
  rw [hb, List.take_of_length_le hj, Bool.eq_iff_iff, List.any_eq_true, decide_eq_true_eq]
  constructor
  · rintro ⟨y, hy, h⟩; simp at h; subst h; exact hy
  · intro h; exact ⟨_, h, by simp⟩
theorem mix_done {a c cs l : List Int} {k : Nat} (h : mixM a c l = mixM a cs (l.drop k)) (hk : l.length ≤ k) : cs = mixM a c l := by rw [h, List.drop_of_length_le hk]; rfl
theorem mix_next {a c cs l : List Int} {k : Nat} (h : mixM a c l = mixM a cs (l.drop k)) (hk : k < l.length) (h0 : 0 ≤ ix l k ∧ ix l k < 16) : mixM a c l = mixM a (List.set cs (Int.toNat (ix l k)) (ix a (Int.toNat (ix l k)))) (l.drop (k + 1)) := by
  rw [h, drop_ix hk, mixM, if_pos h0]
theorem mix_skip {a c cs l : List Int} {k : Nat} (h : mixM a c l = mixM a cs (l.drop k)) (hk : k < l.length) (h0 : ¬ (0 ≤ ix l k ∧ ix l k < 16)) : mixM a c l = mixM a cs (l.drop (k + 1)) := by
  rw [h, drop_ix hk, mixM, if_neg h0]
theorem touch_same {x : D.Mach} {a c m : List Int} (hag : ∀ r ∈ takesM x, getM c r = getM a r) (h : (¬ (stepM x a m).1.1 = (stepM x c m).1.1 ∨ ((stepM x a m).1.2 == (stepM x c m).1.2) = false) ∨ rowsM (stepM x a m).2.2 (stepM x c m).2.2 = false) : False := by
  obtain ⟨h1, h2, _⟩ := step_agree x m hag
  rw [h1, h2] at h
  rcases h with (h | h) | h
  · exact h rfl
  · simp at h
  · simp [rowsM] at h
theorem touch2 {x : D.Mach} {a c m : List Int} {k : Nat} {b : Bool} (hb : b = decide ((k : Int) ∈ makesM x)) (hk : k < 16) (ha : a.length = 16) (hc : c.length = 16) (hag : ∀ r ∈ takesM x, getM c r = getM a r)
    (h : ((b = false ∨ (stepM x a m).1.2 = false) ∧ ¬ ix (stepM x a m).2.1 k = ix a k) ∨ ((((b = true ∧ (stepM x a m).1.2 = true) ∧ ¬ x.Op = 28) ∧ ¬ x.Op = 30) ∧ ¬ ix (stepM x a m).2.1 k = ix (stepM x c m).2.1 k)) : False := by
  refine touch1 hk ha hc hag (m := m) ?_
  rcases h with ⟨h1, h2⟩ | ⟨⟨⟨⟨h1, h2⟩, h3⟩, h4⟩, h5⟩
  · refine .inl ⟨?_, h2⟩
    rcases h1 with h1 | h1
    · rw [hb, decide_eq_false_iff_not] at h1; exact .inl h1
    · exact .inr h1
  · rw [hb, decide_eq_true_eq] at h1; exact .inr ⟨h1, h2, h3, h4, h5⟩
theorem touch_end (x : D.Mach) (a m : List Int) : ((stepM x a m).1.2 || (rowsM (stepM x a m).2.2 m && ((decide ((stepM x a m).1.1 = -1) && decide (x.Op = 17)) || ((decide ((stepM x a m).1.1 = -2) && decide (24 ≤ x.Op)) && decide (x.Op ≤ 27))))) = true := by
  cases h : (stepM x a m).1.2 with
  | true => rfl
  | false =>
    obtain ⟨h1, _, h2⟩ := step_trap x m h
    rw [h1]
    simp only [rowsM, Bool.false_or, decide_true, Bool.true_and]
    rcases h2 with ⟨h2, h3⟩ | ⟨h2, h3, h4⟩
    · rw [h2, h3]; rfl
    · rw [h2, decide_eq_true h3, decide_eq_true h4]; simp

-- jacquard/jacquardlaw07.few: function 16
theorem few_ct {F : PH} {H : Heap} (hin : InH F H) {a0 : Value} {i : D.Mach} {N0 : Nat} (p0 : (rMachN N0).ra F a0 i) :
    Ct Try.prog 16 #[a0] H (fun v H' => ∃ F', PH.ext H F F' ∧ InH F' H' ∧ Kp H.size H H' ∧ rMach.ra F' v (fewM i)) := by
  have p0k := rMach.any p0
  obtain ⟨a0c7, rfl, p0c7⟩ := rMach.open p0
  have p0c7q := rL.len2 p0c7
  have hkp := Kp.refl H.size H
  have hx := PH.ext.refl (H := H) F
  refine Ct.enter (args := [.agg #[.int .i64 i.Op, .int .i64 i.D, .int .i64 i.E, .int .i64 i.A, .int .i64 i.B, .int .i64 i.C, .int .i32 i.Imm, a0c7]]) Try.func16 rfl rfl rfl (fun w0 hw0 => ?_)
  refine CF.seq ?_
  refine CF.region ?_
  refine LF.chg (OpCh.boxB rfl rfl) ?_
  rintro _ H1 ⟨g1, rfl, eg1, sg1, kg1, hb1⟩
  have ng1 := hin.nope (Nat.le_of_eq eg1.symm)
  have lg1 := hkp.1
  have zkg1 := kg1.1
  replace hin := hin.kp kg1
  replace hkp := hkp.trans (kg1.mono hkp.1)
  clear kg1
  refine LF.chg (OpCh.allocB Try.zero40 rfl) ?_
  rintro _ H2 ⟨g2, rfl, eg2, sg2, kg2, hb2⟩
  have ng2 := hin.nope (Nat.le_of_eq eg2.symm)
  have lg2 := hkp.1
  have nb2_1 : g1 ≠ g2 := by have := hb1.lt; omega
  have zkg2 := kg2.1
  replace hin := hin.kp kg2
  replace hkp := hkp.trans (kg2.mono hkp.1)
  replace hb1 := hb1.kp kg2
  clear kg2
  refine LF.nil ?_
  refine PF.next ?_
  refine CF.seq ?_
  refine CF.region ?_
  refine LF.chg (OpCh.litL (F := F) (r := (rI .i64)) (l := []) (us := []) (cs := []) Try.underlying38 Try.info3 (by decide) rfl rfl rfl trivial) ?_
  rintro _ H3 ⟨g3, rfl, e3, s3, k3, x3⟩
  have l3 := hkp.1
  replace x3 := (x3 hin).base l3
  have zk3 := k3.1
  replace hin := hin.kp k3
  replace hkp := hkp.trans (k3.mono hkp.1)
  replace hb1 := hb1.kp k3
  replace hb2 := hb2.kp k3
  refine LF.step (OpOk.fieldAddr (Try.fld40_7) rfl) ?_
  refine LF.step (OpOk.ldBx hb1 Try.one38 rfl rfl) ?_
  refine LF.step (OpOk.fieldAddr (Try.fld40_7) rfl) ?_
  refine LF.step (OpOk.ldBx hb1 Try.one38 rfl rfl) ?_
  refine LF.step (OpOk.lenL Try.underlying38 p0c7 rfl) ?_
  refine LF.step (OpOk.min3 rfl rfl) ?_
  refine LF.step (OpOk.sliceHiL (hi := (Int.toNat (min (↑(List.length i.Args)) 7))) Try.underlying38 Try.sz3 p0c7 hin rfl rfl (by omega) (by omega)) ?_
  refine LF.chg (OpCh.appL (r := (rI .i64)) Try.underlying38 Try.info3 (by decide) rfl rfl rfl x3 (rL.hi p0c7 (Int.toNat (min (↑(List.length i.Args)) 7)) (by omega) (by omega)) hin (by first | (simp only [List.length_append, List.length_take, List.length_drop, List.length_nil, List.length_cons, List.length_set, List.length_replicate]; omega) | (simp; done) | (simp; omega) | omega) (by omega)) ?_
  rintro v11 H11 ⟨x11, gb11, ob11⟩
  replace hin := hin.grown gb11 x3.no
  replace hkp := gb11.kp hkp (Nat.le_refl _) (fun k0 hk0 => (x3.blk k0 hk0).1)
  replace hb1 := hb1.of (gb11.2 _ hb1.lt (Ne.symm (by first | exact x3.neBx hb1 (by decide) | exact nq3_1)))
  replace hb2 := hb2.of (gb11.2 _ hb2.lt (Ne.symm (by first | exact x3.neBx hb2 (by decide) | exact nq3_2)))
  rw [List.nil_append] at x11
  refine LF.step (OpOk.fieldAddr (Try.fld40_7) rfl) ?_
  refine LF.chg0 (OpCh.storeB hb1 Try.sz38 rfl rfl x11.one1 (by first | decide | (simp; done))) ?_
  rintro _ Hw1 ⟨tw1, bw1⟩
  have ztw1 := tw1.1
  replace hin := hin.tw tw1 ng1
  replace hkp := Tw.kp' hkp tw1 (by omega)
  replace hb2 := hb2.tw tw1 (by first | omega | exact Bx.ne hb2 hb1 (by decide) | assumption | exact Ne.symm (by assumption))
  replace x11 := x11.tw tw1 (by first | exact x11.neBx hb1 (by decide) | exact x11.neLt (by omega) | exact nq11_1)
  replace hb1 : Bx _ _ _ [.int .i64 i.Op, .int .i64 i.D, .int .i64 i.E, .int .i64 i.A, .int .i64 i.B, .int .i64 i.C, .int .i32 i.Imm, v11] := bw1
  clear bw1 tw1
  refine LF.nil ?_
  refine PF.next ?_
  refine CF.seq ?_
  refine CF.region ?_
  refine LF.step (OpOk.ldBxA hb1 Try.agg40 Try.sz40 rfl rfl rfl) ?_
  refine LF.chg0 (OpCh.storeBA hb2 Try.sz40 rfl rfl rfl (allOne.mem (l := [.int .i64 i.Op, .int .i64 i.D, .int .i64 i.E, .int .i64 i.A, .int .i64 i.B, .int .i64 i.C, .int .i32 i.Imm, v11]) ⟨rfl, rfl, rfl, rfl, rfl, rfl, rfl, x11.one1, trivial⟩) (by decide)) ?_
  rintro _ Hw2 ⟨tw2, bw2⟩
  have ztw2 := tw2.1
  replace hin := hin.tw tw2 ng2
  replace hkp := Tw.kp' hkp tw2 (by omega)
  replace hb1 := hb1.tw tw2 (by first | omega | exact Bx.ne hb1 hb2 (by decide) | assumption | exact Ne.symm (by assumption))
  replace x11 := x11.tw tw2 (by first | exact x11.neBx hb2 (by decide) | exact x11.neLt (by omega) | exact nq11_2)
  replace hb2 : Bx _ _ _ [.int .i64 i.Op, .int .i64 i.D, .int .i64 i.E, .int .i64 i.A, .int .i64 i.B, .int .i64 i.C, .int .i32 i.Imm, v11] := bw2
  clear bw2 tw2
  refine LF.nil ?_
  refine PF.next ?_
  refine CF.ret ?_
  obtain ⟨Fz3, hxz3, lez3, hinz3, noz3, hrz3⟩ := x11.freezeX hin hx (Nat.le_refl _) (by first | (simp only [List.length_append, List.length_take, List.length_drop, List.length_nil, List.length_cons, List.length_set, List.length_replicate]; omega) | (simp; done) | (simp; omega) | omega)
  replace hin := hinz3
  replace hx := hxz3
  have le0 := lez3
  replace ng1 := (noz3 _ (x11.neBx hb1 (by decide))).trans ng1
  replace ng2 := (noz3 _ (x11.neBx hb2 (by decide))).trans ng2
  have hm : fewM i = (⟨i.Op, i.D, i.E, i.A, i.B, i.C, i.Imm, List.take (Int.toNat (min (((List.length i.Args : Nat) : Int)) 7)) i.Args⟩) := by
    unfold fewM; congr 1; exact take_min _ 7 _ rfl
  exact PF.retC rfl rfl hb2 Try.agg40 Try.sz40 ⟨_, hx, hin, hkp, by rw [hm]; exact (rMach.mk (m := ⟨i.Op, i.D, i.E, i.A, i.B, i.C, i.Imm, List.take (Int.toNat (min (↑(List.length i.Args)) 7)) i.Args⟩) hrz3 (rMach.w_Op (m := i) p0k) (rMach.w_D (m := i) p0k) (rMach.w_E (m := i) p0k) (rMach.w_A (m := i) p0k) (rMach.w_B (m := i) p0k) (rMach.w_C (m := i) p0k) (rMach.w_Imm (m := i) p0k))⟩

-- jacquard/jacquardlaw07.some: function 10
theorem someF_ct {F : PH} {H : Heap} (hin : InH F H) {a0 : Value} {l : List Int} {N0 : Nat} (p0 : (rLn N0 (rI .i32)).rv F a0 l) :
    Ct Try.prog 10 #[a0] H (fun v H' => ∃ F', PH.ext H F F' ∧ InH F' H' ∧ Kp H.size H H' ∧ (rL (rI .i32)).rv F' v (someM l)) := by
  have q0 := rL.len2 p0
  have hkp := Kp.refl H.size H
  have hx := PH.ext.refl (H := H) F
  refine Ct.enter (args := [a0]) Try.func10 rfl rfl rfl (fun w0 hw0 => ?_)
  refine CF.seq ?_
  refine CF.region ?_
  refine LF.step (OpOk.assign rfl) ?_
  refine LF.nil ?_
  refine PF.next ?_
  refine CF.seq ?_
  refine CF.region ?_
  refine LF.chg (OpCh.litL (F := F) (r := (rI .i32)) (l := []) (us := []) (cs := []) Try.underlying25 Try.info21 (by decide) rfl rfl rfl trivial) ?_
  rintro _ H3 ⟨g3, rfl, e3, s3, k3, x3⟩
  have l3 := hkp.1
  replace x3 := (x3 hin).base l3
  have zk3 := k3.1
  replace hin := hin.kp k3
  replace hkp := hkp.trans (k3.mono hkp.1)
  refine LF.step (OpOk.move rfl) ?_
  refine LF.step (OpOk.move rfl) ?_
  refine LF.step (OpOk.lenL Try.underlying25 p0 rfl) ?_
  refine LF.step (OpOk.min3 rfl rfl) ?_
  refine LF.step (OpOk.sliceHiL (hi := (Int.toNat (min (↑(List.length l)) 20))) Try.underlying25 Try.sz21 p0 hin rfl rfl (by omega) (by omega)) ?_
  refine LF.chg (OpCh.appL (r := (rI .i32)) Try.underlying25 Try.info21 (by decide) rfl rfl rfl x3 (rL.hi p0 (Int.toNat (min (↑(List.length l)) 20)) (by omega) (by omega)) hin (by first | (simp only [List.length_append, List.length_take, List.length_drop, List.length_nil, List.length_cons, List.length_set, List.length_replicate]; omega) | (simp; done) | (simp; omega) | omega) (by omega)) ?_
  rintro v9 H9 ⟨x9, gb9, ob9⟩
  replace hin := hin.grown gb9 x3.no
  replace hkp := gb9.kp hkp (Nat.le_refl _) (fun k0 hk0 => (x3.blk k0 hk0).1)
  rw [List.nil_append] at x9
  refine LF.step (OpOk.assign rfl) ?_
  refine LF.nil ?_
  refine PF.next ?_
  refine CF.ret ?_
  obtain ⟨Fz1, hxz1, lez1, hinz1, _, hrz1⟩ := x9.freezeX hin hx (Nat.le_refl _) (by first | (simp only [List.length_append, List.length_take, List.length_drop, List.length_nil, List.length_cons, List.length_set, List.length_replicate]; omega) | (simp; done) | (simp; omega) | omega)
  replace hin := hinz1
  replace hx := hxz1
  have le0 := lez1
  have hm : someM l = (List.take (Int.toNat (min (((List.length l : Nat) : Int)) 20)) l) := by
    exact take_min _ 20 _ rfl
  exact PF.ret1 rfl rfl ⟨_, hx, hin, hkp, by rw [hm]; exact hrz1⟩

-- jacquard/jacquardlaw07.some: function 10
theorem some_ct {F : PH} {H : Heap} (hin : InH F H) {a0 : Value} {l : List Int} {N0 : Nat} (p0 : (rLn N0 (rI .i32)).rv F a0 l) :
    Ct Try.prog 10 #[a0] H (fun v H' => Gl (rI .i32) 21 F H' H.size v (someM l) ∧ Kp H.size H H') := by
  have q0 := rL.len2 p0
  have hkp := Kp.refl H.size H
  have hx := PH.ext.refl (H := H) F
  refine Ct.enter (args := [a0]) Try.func10 rfl rfl rfl (fun w0 hw0 => ?_)
  refine CF.seq ?_
  refine CF.region ?_
  refine LF.step (OpOk.assign rfl) ?_
  refine LF.nil ?_
  refine PF.next ?_
  refine CF.seq ?_
  refine CF.region ?_
  refine LF.chg (OpCh.litL (F := F) (r := (rI .i32)) (l := []) (us := []) (cs := []) Try.underlying25 Try.info21 (by decide) rfl rfl rfl trivial) ?_
  rintro _ H3 ⟨g3, rfl, e3, s3, k3, x3⟩
  have l3 := hkp.1
  replace x3 := (x3 hin).base l3
  have zk3 := k3.1
  replace hin := hin.kp k3
  replace hkp := hkp.trans (k3.mono hkp.1)
  refine LF.step (OpOk.move rfl) ?_
  refine LF.step (OpOk.move rfl) ?_
  refine LF.step (OpOk.lenL Try.underlying25 p0 rfl) ?_
  refine LF.step (OpOk.min3 rfl rfl) ?_
  refine LF.step (OpOk.sliceHiL (hi := (Int.toNat (min (↑(List.length l)) 20))) Try.underlying25 Try.sz21 p0 hin rfl rfl (by omega) (by omega)) ?_
  refine LF.chg (OpCh.appL (r := (rI .i32)) Try.underlying25 Try.info21 (by decide) rfl rfl rfl x3 (rL.hi p0 (Int.toNat (min (↑(List.length l)) 20)) (by omega) (by omega)) hin (by first | (simp only [List.length_append, List.length_take, List.length_drop, List.length_nil, List.length_cons, List.length_set, List.length_replicate]; omega) | (simp; done) | (simp; omega) | omega) (by omega)) ?_
  rintro v9 H9 ⟨x9, gb9, ob9⟩
  replace hin := hin.grown gb9 x3.no
  replace hkp := gb9.kp hkp (Nat.le_refl _) (fun k0 hk0 => (x3.blk k0 hk0).1)
  rw [List.nil_append] at x9
  refine LF.step (OpOk.assign rfl) ?_
  refine LF.nil ?_
  refine PF.next ?_
  refine CF.ret ?_
  have hm : someM l = (List.take (Int.toNat (min (((List.length l : Nat) : Int)) 20)) l) := by
    exact take_min _ 20 _ rfl
  exact PF.ret1 rfl rfl ⟨by rw [hm]; exact x9, hkp⟩

-- jacquard/jacquardlaw07.MachTouches: function 4
set_option maxHeartbeats 4000000 in
theorem machTouches_ct {F : PH} {H : Heap} (hin : InH F H) {a0 : Value} {i : D.Mach} {N0 : Nat} (p0 : (rMachN N0).ra F a0 i) {a1 : Value} {regs : List (List Int)} (p1 : (rA 2 (rA 16 (rI .i32))).ra F a1 regs) {a2 : Value} {mem : List Int} {N2 : Nat} (p2 : (rLn N2 (rI .i32)).rv F a2 mem) :
    Ct Try.prog 4 #[a0, a1, a2] H (fun v H' => v = .bool ((fun _ _ _ => true) i regs mem) ∧ Kp H.size H H') := by
  have p0k := rMach.any p0
  obtain ⟨a0c7, rfl, p0c7⟩ := rMach.open p0
  have p0c7q := rL.len2 p0c7
  obtain ⟨la1, rfl, hla1, hok1⟩ := p1
  have q2 := rL.len2 p2
  have hkp := Kp.refl H.size H
  have hx := PH.ext.refl (H := H) F
  refine Ct.enter (args := [.agg #[.int .i64 i.Op, .int .i64 i.D, .int .i64 i.E, .int .i64 i.A, .int .i64 i.B, .int .i64 i.C, .int .i32 i.Imm, a0c7], .agg la1.toArray, a2]) Try.func4 rfl rfl rfl (fun w0 hw0 => ?_)
  refine CF.seq ?_
  refine CF.region ?_
  refine LF.chg (OpCh.boxB rfl rfl) ?_
  rintro _ H3 ⟨g3, rfl, eg3, sg3, kg3, hb3⟩
  have ng3 := hin.nope (Nat.le_of_eq eg3.symm)
  have lg3 := hkp.1
  have zkg3 := kg3.1
  replace hin := hin.kp kg3
  replace hkp := hkp.trans (kg3.mono hkp.1)
  clear kg3
  refine LF.chg (OpCh.boxB (cs := la1) rfl rfl) ?_
  rintro _ H4 ⟨g4, rfl, eg4, sg4, kg4, hb4⟩
  have ng4 := hin.nope (Nat.le_of_eq eg4.symm)
  have lg4 := hkp.1
  have ne4_3 : g3 ≠ g4 := by have := hb3.lt; omega
  have zkg4 := kg4.1
  replace hin := hin.kp kg4
  replace hkp := hkp.trans (kg4.mono hkp.1)
  replace hb3 := hb3.kp kg4
  clear kg4
  obtain ⟨Fz1, hxz1, lez1, hinz1, noz1, hatz1⟩ := hb4.freeze (r := (rA 2 (rA 16 (rI .i32)))) hin hx (by omega) ng4 hok1 hla1
  replace hin := hinz1
  replace hx := hxz1
  have le0 := lez1
  replace ng3 := (noz1 _ ne4_3).trans ng3
  have hr0 : (ix regs 0).length = 16 := At.alen (At.arr hatz1 0 (by decide))
  have hr1 : (ix regs 1).length = 16 := At.alen (At.arr hatz1 1 (by decide))
  have hsl := someM_len mem
  refine LF.step (OpOk.assign rfl) ?_
  refine LF.nil ?_
  refine PF.next ?_
  refine CF.seq ?_
  refine CF.region ?_
  refine LF.call (OpCall.fn Try.ent8 rfl rfl) (shown_ct hin ) ?_
  rintro _ H24 ⟨rfl, k24⟩
  have zk24 := k24.1
  replace hin := hin.kp k24
  replace hkp := hkp.trans (k24.mono hkp.1)
  replace hb3 := hb3.kp k24
  refine LF.step (OpOk.assign rfl) ?_
  refine LF.nil ?_
  refine PF.next ?_
  refine CF.seq ?_
  refine CF.region ?_
  refine LF.step (OpOk.ldBxA hb3 Try.agg40 Try.sz40 rfl rfl rfl) ?_
  refine LF.call (OpCall.fn Try.ent16 rfl rfl) (few_ct hin (p0.up le0)) ?_
  rintro v26 H26 ⟨F26, x26, i26, k26, h26⟩
  have zk26 := k26.1
  replace hx := hx.trans x26 hkp.1
  replace hkp := hkp.trans (k26.mono hkp.1)
  have l26 := hkp.1
  replace ng3 := x26.no ng3 hb3.lt
  replace hb3 := hb3.kp k26
  replace le0 := le0.trans x26.1
  have le1 := x26.1
  have hin := i26
  have h26k := rMach.any h26
  obtain ⟨v26c7, rfl, h26c7⟩ := rMach.open h26
  have h26c7q := rL.len2 h26c7
  refine LF.chg (OpCh.allocB Try.zero40 rfl) ?_
  rintro _ H8 ⟨g8, rfl, eg8, sg8, kg8, hb8⟩
  have ng8 := hin.nope (Nat.le_of_eq eg8.symm)
  have lg8 := hkp.1
  have nb8_3 : g3 ≠ g8 := by have := hb3.lt; omega
  have zkg8 := kg8.1
  replace hin := hin.kp kg8
  replace hkp := hkp.trans (kg8.mono hkp.1)
  replace hb3 := hb3.kp kg8
  clear kg8
  refine LF.chg0 (OpCh.storeBA hb8 Try.sz40 rfl rfl rfl (allOne.mem (l := [.int .i64 ((fewM i).Op), .int .i64 ((fewM i).D), .int .i64 ((fewM i).E), .int .i64 ((fewM i).A), .int .i64 ((fewM i).B), .int .i64 ((fewM i).C), .int .i32 ((fewM i).Imm), v26c7]) ⟨rfl, rfl, rfl, rfl, rfl, rfl, rfl, (h26c7.one1), trivial⟩) (by decide)) ?_
  rintro _ Hw2 ⟨tw2, bw2⟩
  have ztw2 := tw2.1
  replace hin := hin.tw tw2 ng8
  replace hkp := Tw.kp' hkp tw2 (by omega)
  replace hb3 := hb3.tw tw2 (by first | omega | exact Bx.ne hb3 hb8 (by decide) | assumption | exact Ne.symm (by assumption))
  replace hb8 : Bx _ _ _ [.int .i64 ((fewM i).Op), .int .i64 ((fewM i).D), .int .i64 ((fewM i).E), .int .i64 ((fewM i).A), .int .i64 ((fewM i).B), .int .i64 ((fewM i).C), .int .i32 ((fewM i).Imm), v26c7] := bw2
  clear bw2 tw2
  refine LF.nil ?_
  refine PF.next ?_
  refine CF.seq ?_
  refine CF.region ?_
  refine LF.step (OpOk.fieldAddr (Try.fld40_1) rfl) ?_
  refine LF.step (OpOk.ldBx hb8 Try.one3 rfl rfl) ?_
  refine LF.step (OpOk.andw rfl rfl) ?_
  refine LF.step (OpOk.fieldAddr (Try.fld40_1) rfl) ?_
  refine LF.chg0 (OpCh.storeB hb8 Try.sz3 rfl rfl rfl (by first | decide | (simp; done))) ?_
  rintro _ Hw3 ⟨tw3, bw3⟩
  have ztw3 := tw3.1
  replace hin := hin.tw tw3 ng8
  replace hkp := Tw.kp' hkp tw3 (by omega)
  replace hb3 := hb3.tw tw3 (by first | omega | exact Bx.ne hb3 hb8 (by decide) | assumption | exact Ne.symm (by assumption))
  replace hb8 : Bx _ _ _ [.int .i64 ((fewM i).Op), .int .i64 (andI .i64 ((fewM i).D) 15), .int .i64 ((fewM i).E), .int .i64 ((fewM i).A), .int .i64 ((fewM i).B), .int .i64 ((fewM i).C), .int .i32 ((fewM i).Imm), v26c7] := bw3
  clear bw3 tw3
  refine LF.nil ?_
  refine PF.next ?_
  refine CF.seq ?_
  refine CF.region ?_
  refine LF.step (OpOk.fieldAddr (Try.fld40_2) rfl) ?_
  refine LF.step (OpOk.ldBx hb8 Try.one3 rfl rfl) ?_
  refine LF.step (OpOk.andw rfl rfl) ?_
  refine LF.step (OpOk.fieldAddr (Try.fld40_2) rfl) ?_
  refine LF.chg0 (OpCh.storeB hb8 Try.sz3 rfl rfl rfl (by first | decide | (simp; done))) ?_
  rintro _ Hw4 ⟨tw4, bw4⟩
  have ztw4 := tw4.1
  replace hin := hin.tw tw4 ng8
  replace hkp := Tw.kp' hkp tw4 (by omega)
  replace hb3 := hb3.tw tw4 (by first | omega | exact Bx.ne hb3 hb8 (by decide) | assumption | exact Ne.symm (by assumption))
  replace hb8 : Bx _ _ _ [.int .i64 ((fewM i).Op), .int .i64 (andI .i64 ((fewM i).D) 15), .int .i64 (andI .i64 ((fewM i).E) 15), .int .i64 ((fewM i).A), .int .i64 ((fewM i).B), .int .i64 ((fewM i).C), .int .i32 ((fewM i).Imm), v26c7] := bw4
  clear bw4 tw4
  refine LF.nil ?_
  refine PF.next ?_
  refine CF.seq ?_
  refine CF.region ?_
  refine LF.step (OpOk.fieldAddr (Try.fld40_3) rfl) ?_
  refine LF.step (OpOk.ldBx hb8 Try.one3 rfl rfl) ?_
  refine LF.step (OpOk.andw rfl rfl) ?_
  refine LF.step (OpOk.fieldAddr (Try.fld40_3) rfl) ?_
  refine LF.chg0 (OpCh.storeB hb8 Try.sz3 rfl rfl rfl (by first | decide | (simp; done))) ?_
  rintro _ Hw5 ⟨tw5, bw5⟩
  have ztw5 := tw5.1
  replace hin := hin.tw tw5 ng8
  replace hkp := Tw.kp' hkp tw5 (by omega)
  replace hb3 := hb3.tw tw5 (by first | omega | exact Bx.ne hb3 hb8 (by decide) | assumption | exact Ne.symm (by assumption))
  replace hb8 : Bx _ _ _ [.int .i64 ((fewM i).Op), .int .i64 (andI .i64 ((fewM i).D) 15), .int .i64 (andI .i64 ((fewM i).E) 15), .int .i64 (andI .i64 ((fewM i).A) 15), .int .i64 ((fewM i).B), .int .i64 ((fewM i).C), .int .i32 ((fewM i).Imm), v26c7] := bw5
  clear bw5 tw5
  refine LF.nil ?_
  refine PF.next ?_
  refine CF.seq ?_
  refine CF.region ?_
  refine LF.step (OpOk.fieldAddr (Try.fld40_4) rfl) ?_
  refine LF.step (OpOk.ldBx hb8 Try.one3 rfl rfl) ?_
  refine LF.step (OpOk.andw rfl rfl) ?_
  refine LF.step (OpOk.fieldAddr (Try.fld40_4) rfl) ?_
  refine LF.chg0 (OpCh.storeB hb8 Try.sz3 rfl rfl rfl (by first | decide | (simp; done))) ?_
  rintro _ Hw6 ⟨tw6, bw6⟩
  have ztw6 := tw6.1
  replace hin := hin.tw tw6 ng8
  replace hkp := Tw.kp' hkp tw6 (by omega)
  replace hb3 := hb3.tw tw6 (by first | omega | exact Bx.ne hb3 hb8 (by decide) | assumption | exact Ne.symm (by assumption))
  replace hb8 : Bx _ _ _ [.int .i64 ((fewM i).Op), .int .i64 (andI .i64 ((fewM i).D) 15), .int .i64 (andI .i64 ((fewM i).E) 15), .int .i64 (andI .i64 ((fewM i).A) 15), .int .i64 (andI .i64 ((fewM i).B) 15), .int .i64 ((fewM i).C), .int .i32 ((fewM i).Imm), v26c7] := bw6
  clear bw6 tw6
  refine LF.nil ?_
  refine PF.next ?_
  refine CF.seq ?_
  refine CF.region ?_
  refine LF.step (OpOk.fieldAddr (Try.fld40_5) rfl) ?_
  refine LF.step (OpOk.ldBx hb8 Try.one3 rfl rfl) ?_
  refine LF.step (OpOk.andw rfl rfl) ?_
  refine LF.step (OpOk.fieldAddr (Try.fld40_5) rfl) ?_
  refine LF.chg0 (OpCh.storeB hb8 Try.sz3 rfl rfl rfl (by first | decide | (simp; done))) ?_
  rintro _ Hw7 ⟨tw7, bw7⟩
  have ztw7 := tw7.1
  replace hin := hin.tw tw7 ng8
  replace hkp := Tw.kp' hkp tw7 (by omega)
  replace hb3 := hb3.tw tw7 (by first | omega | exact Bx.ne hb3 hb8 (by decide) | assumption | exact Ne.symm (by assumption))
  replace hb8 : Bx _ _ _ [.int .i64 ((fewM i).Op), .int .i64 (andI .i64 ((fewM i).D) 15), .int .i64 (andI .i64 ((fewM i).E) 15), .int .i64 (andI .i64 ((fewM i).A) 15), .int .i64 (andI .i64 ((fewM i).B) 15), .int .i64 (andI .i64 ((fewM i).C) 15), .int .i32 ((fewM i).Imm), v26c7] := bw7
  clear bw7 tw7
  refine LF.nil ?_
  refine PF.next ?_
  refine CF.seq ?_
  refine CF.region ?_
  refine LF.step (OpOk.ldBxA hb8 Try.agg40 Try.sz40 rfl rfl rfl) ?_
  refine LF.call (OpCall.fn Try.ent17 rfl rfl) (pTakes_ct hin (rMach.mk (m := ⟨(fewM i).Op, andI .i64 ((fewM i).D) 15, andI .i64 ((fewM i).E) 15, andI .i64 ((fewM i).A) 15, andI .i64 ((fewM i).B) 15, andI .i64 ((fewM i).C) 15, (fewM i).Imm, (fewM i).Args⟩) h26c7 (rMach.w_Op (m := (fewM i)) h26k) (wrap_wrap _ _) (wrap_wrap _ _) (wrap_wrap _ _) (wrap_wrap _ _) (wrap_wrap _ _) (rMach.w_Imm (m := (fewM i)) h26k))) ?_
  rintro v48 H48 ⟨F48, x48, i48, k48, h48⟩
  have zk48 := k48.1
  replace hx := hx.trans x48 hkp.1
  replace hkp := hkp.trans (k48.mono hkp.1)
  have l48 := hkp.1
  replace ng3 := x48.no ng3 hb3.lt
  replace hb3 := hb3.kp k48
  replace ng8 := x48.no ng8 hb8.lt
  replace hb8 := hb8.kp k48
  replace le0 := le0.trans x48.1
  replace le1 := le1.trans x48.1
  have le2 := x48.1
  have hin := i48
  have h48q := rL.len2 h48
  refine LF.step (OpOk.assign rfl) ?_
  refine LF.nil ?_
  refine PF.next ?_
  refine CF.seq ?_
  refine CF.region ?_
  refine LF.step (OpOk.ldBxA hb8 Try.agg40 Try.sz40 rfl rfl rfl) ?_
  refine LF.call (OpCall.fn Try.ent18 rfl rfl) (pMakes_ct hin (rMach.mk (m := ⟨(fewM i).Op, andI .i64 ((fewM i).D) 15, andI .i64 ((fewM i).E) 15, andI .i64 ((fewM i).A) 15, andI .i64 ((fewM i).B) 15, andI .i64 ((fewM i).C) 15, (fewM i).Imm, (fewM i).Args⟩) (h26c7.up le2) (rMach.w_Op (m := (fewM i)) h26k) (wrap_wrap _ _) (wrap_wrap _ _) (wrap_wrap _ _) (wrap_wrap _ _) (wrap_wrap _ _) (rMach.w_Imm (m := (fewM i)) h26k))) ?_
  rintro v50 H50 ⟨F50, x50, i50, k50, h50⟩
  have zk50 := k50.1
  replace hx := hx.trans x50 hkp.1
  replace hkp := hkp.trans (k50.mono hkp.1)
  have l50 := hkp.1
  replace ng3 := x50.no ng3 hb3.lt
  replace hb3 := hb3.kp k50
  replace ng8 := x50.no ng8 hb8.lt
  replace hb8 := hb8.kp k50
  replace le0 := le0.trans x50.1
  replace le1 := le1.trans x50.1
  replace le2 := le2.trans x50.1
  have le3 := x50.1
  have hin := i50
  have h50q := rL.len2 h50
  refine LF.step (OpOk.assign rfl) ?_
  refine LF.nil ?_
  refine PF.next ?_
  refine CF.seq ?_
  refine CF.region ?_
  refine LF.chg (OpCh.litL (F := F50) (r := (rI .i32)) (l := []) (us := []) (cs := []) Try.underlying25 Try.info21 (by decide) rfl rfl rfl trivial) ?_
  rintro _ H51 ⟨g51, rfl, e51, s51, k51, x51⟩
  have l51 := hkp.1
  replace x51 := (x51 hin).base l51
  have zk51 := k51.1
  replace hin := hin.kp k51
  replace hkp := hkp.trans (k51.mono hkp.1)
  replace hb3 := hb3.kp k51
  replace hb8 := hb8.kp k51
  refine LF.step (OpOk.indexArr (i := 0) Try.underlying42 Try.sz41 rfl rfl rfl (by omega)) ?_
  refine LF.step (OpOk.sliceArr Try.underlying41 Try.sz21 rfl) ?_
  refine LF.chg (OpCh.appL (r := (rI .i32)) Try.underlying25 Try.info21 (by decide) rfl rfl rfl x51 (rL.ofArr ((At.arr hatz1 0 (by omega)).up le1) (by decide)) hin (by first | (simp only [List.length_append, List.length_take, List.length_drop, List.length_nil, List.length_cons, List.length_set, List.length_replicate]; omega) | (simp; done) | (simp; omega) | omega) (by omega)) ?_
  rintro v54 H54 ⟨x54, gb54, ob54⟩
  replace hin := hin.grown gb54 x51.no
  replace hkp := gb54.kp hkp (Nat.le_refl _) (fun k0 hk0 => (x51.blk k0 hk0).1)
  replace hb3 := hb3.of (gb54.2 _ hb3.lt (Ne.symm (by first | exact x51.neBx hb3 (by decide) | exact nq51_3)))
  replace hb8 := hb8.of (gb54.2 _ hb8.lt (Ne.symm (by first | exact x51.neBx hb8 (by decide) | exact nq51_8)))
  rw [List.nil_append] at x54
  refine LF.step (OpOk.assign rfl) ?_
  refine LF.nil ?_
  refine PF.next ?_
  refine CF.seq ?_
  refine CF.region ?_
  refine LF.chg (OpCh.litL (F := F50) (r := (rI .i32)) (l := []) (us := []) (cs := []) Try.underlying25 Try.info21 (by decide) rfl rfl rfl trivial) ?_
  rintro _ H55 ⟨g55, rfl, e55, s55, k55, x55⟩
  have l55 := hkp.1
  have ap54_55 := ap_new x54.lt (x55 hin).ge
  replace x55 := (x55 hin).base l55
  have zk55 := k55.1
  replace hin := hin.kp k55
  replace hkp := hkp.trans (k55.mono hkp.1)
  replace hb3 := hb3.kp k55
  replace hb8 := hb8.kp k55
  replace x54 := x54.kp k55
  have ap55_54 := ap_sym ap54_55
  refine LF.step (OpOk.indexArr (i := 1) Try.underlying42 Try.sz41 rfl rfl rfl (by omega)) ?_
  refine LF.step (OpOk.sliceArr Try.underlying41 Try.sz21 rfl) ?_
  refine LF.chg (OpCh.appL (r := (rI .i32)) Try.underlying25 Try.info21 (by decide) rfl rfl rfl x55 (rL.ofArr ((At.arr hatz1 1 (by omega)).up le1) (by decide)) hin (by first | (simp only [List.length_append, List.length_take, List.length_drop, List.length_nil, List.length_cons, List.length_set, List.length_replicate]; omega) | (simp; done) | (simp; omega) | omega) (by omega)) ?_
  rintro v58 H58 ⟨x58, gb58, ob58⟩
  replace hin := hin.grown gb58 x55.no
  replace hkp := gb58.kp hkp (Nat.le_refl _) (fun k0 hk0 => (x55.blk k0 hk0).1)
  replace hb3 := hb3.of (gb58.2 _ hb3.lt (Ne.symm (by first | exact x55.neBx hb3 (by decide) | exact nq55_3)))
  replace hb8 := hb8.of (gb58.2 _ hb8.lt (Ne.symm (by first | exact x55.neBx hb8 (by decide) | exact nq55_8)))
  have ap58_54 := ap_grow ap55_54 x54.lt (ob_some ob58)
  have ap54_58 := ap_sym ap58_54
  replace x54 := x54.of (fun k0 hk0 => gb58.2 k0 (x54.blk k0 hk0).2 (fun e9 => ap55_54 _ e9.symm hk0))
  rw [List.nil_append] at x58
  refine LF.step (OpOk.assign rfl) ?_
  refine LF.nil ?_
  refine PF.next ?_
  refine CF.seq ?_
  refine CF.seq ?_
  refine CF.region ?_
  refine LF.step (OpOk.assign rfl) ?_
  refine LF.nil ?_
  refine PF.next ?_
  refine CF.block ?_
  refine CF.loop (ι := Nat × List Int) (fun z9 H1 => z9.1 ≤ (takesM (⟨(fewM i).Op, andI .i64 ((fewM i).D) 15, andI .i64 ((fewM i).E) 15, andI .i64 ((fewM i).A) 15, andI .i64 ((fewM i).B) 15, andI .i64 ((fewM i).C) 15, (fewM i).Imm, (fewM i).Args⟩)).length ∧ mixM (ix regs 0) (ix regs 1) (takesM (⟨(fewM i).Op, andI .i64 ((fewM i).D) 15, andI .i64 ((fewM i).E) 15, andI .i64 ((fewM i).A) 15, andI .i64 ((fewM i).B) 15, andI .i64 ((fewM i).C) 15, (fewM i).Imm, (fewM i).Args⟩)) = mixM (ix regs 0) z9.2 ((takesM (⟨(fewM i).Op, andI .i64 ((fewM i).D) 15, andI .i64 ((fewM i).E) 15, andI .i64 ((fewM i).A) 15, andI .i64 ((fewM i).B) 15, andI .i64 ((fewM i).C) 15, (fewM i).Imm, (fewM i).Args⟩)).drop z9.1) ∧ z9.2.length = 16 ∧ InH F50 H1 ∧ Kp H.size H H1 ∧ Bx H1 g3 40 [.int .i64 i.Op, .int .i64 i.D, .int .i64 i.E, .int .i64 i.A, .int .i64 i.B, .int .i64 i.C, .int .i32 i.Imm, a0c7] ∧ Bx H1 g8 40 [.int .i64 ((fewM i).Op), .int .i64 (andI .i64 ((fewM i).D) 15), .int .i64 (andI .i64 ((fewM i).E) 15), .int .i64 (andI .i64 ((fewM i).A) 15), .int .i64 (andI .i64 ((fewM i).B) 15), .int .i64 (andI .i64 ((fewM i).C) 15), .int .i32 ((fewM i).Imm), v26c7] ∧ Gl (rI .i32) 21 F50 H1 H.size v54 (ix regs 0) ∧ Gl (rI .i32) 21 F50 H1 H.size v58 z9.2) (fun z9 => [(2, a2), (6, .bool false), (7, .bool true), (8, .pointer (some ⟨g8, 0, none⟩)), (9, v48), (10, v50), (11, v54), (12, v58), (13, .int .i64 (↑z9.1))]) (fun z9 => (takesM (⟨(fewM i).Op, andI .i64 ((fewM i).D) 15, andI .i64 ((fewM i).E) 15, andI .i64 ((fewM i).A) 15, andI .i64 ((fewM i).B) 15, andI .i64 ((fewM i).C) 15, (fewM i).Imm, (fewM i).Args⟩)).length - z9.1) (0, (ix regs 1)) ⟨by dsimp only; omega, rfl, hr1, hin, hkp, hb3, hb8, x54, x58⟩ ⟨rfl, rfl, rfl, rfl, rfl, rfl, rfl, rfl, eqI (by omega), trivial⟩ ?_
  clear hin hkp hb3 hb8 x54 x58
  rintro ⟨k, cs⟩ H1 ⟨hk, hmx, hcl, hin, hkp, hb3, hb8, x54, x58⟩
  dsimp only at hk hmx hcl hb3 hb8 x54 x58 ⊢
  refine CF.seq ?_
  refine CF.seq ?_
  refine CF.region ?_
  refine LF.step (OpOk.move rfl) ?_
  refine LF.step (OpOk.move rfl) ?_
  refine LF.step (OpOk.lenL Try.underlying38 (h48.up le3) rfl) ?_
  refine LF.step (OpOk.lss rfl rfl) ?_
  refine LF.nil ?_
  refine PF.next ?_
  refine CF.if rfl (fun hc1 => ?_) (fun hc1 => ?_)
  · refine CF.skip ?_
    refine PF.next ?_
    refine CF.seq ?_
    refine CF.block ?_
    refine CF.seq ?_
    refine CF.region ?_
    refine LF.step (OpOk.move rfl) ?_
    refine LF.step (OpOk.move rfl) ?_
    refine LF.step (OpOk.idxL (i := k) Try.underlying38 Try.sz3 (h48.up le3) rfl rfl rfl (by omega)) ?_
    refine LF.step (OpOk.ldI hin (rL.ix (h48.up le3) k (by omega)) Try.one3 rfl) ?_
    refine LF.step (OpOk.geq rfl rfl) ?_
    refine LF.step (OpOk.move rfl) ?_
    refine LF.gstep rfl rfl (.t _) (fun hg => OpOk.move rfl) ?_
    refine LF.gstep rfl rfl (.t _) (fun hg => OpOk.move rfl) ?_
    refine LF.gstep rfl rfl (.t _) (fun hg => OpOk.idxL (i := k) Try.underlying38 Try.sz3 (h48.up le3) (evg rfl hg) (evg rfl hg) rfl (by omega)) ?_
    refine LF.gstep rfl rfl (.t _) (fun hg => OpOk.ldI hin (rL.ix (h48.up le3) k (by omega)) Try.one3 (evg rfl hg)) ?_
    refine LF.gstep rfl rfl (.t _) (fun hg => OpOk.lss (evg rfl hg) rfl) ?_
    refine LF.step (OpOk.pickAnd rfl rfl) ?_
    refine LF.nil ?_
    refine PF.next ?_
    refine CF.if rfl (fun hc2 => ?_) (fun hc2 => ?_)
    · refine CF.tail 13 Try.mixed (by kernel_rfl) ?_
      refine LS.step (OpOk.move rfl) ?_
      refine LS.step (OpOk.move rfl) ?_
      refine LS.step (OpOk.move rfl) ?_
      refine LS.step (OpOk.idxL (i := k) Try.underlying38 Try.sz3 (h48.up le3) rfl rfl rfl (by omega)) ?_
      refine LS.step (OpOk.ldI hin (rL.ix (h48.up le3) k (by omega)) Try.one3 rfl) ?_
      refine LS.step (OpOk.move rfl) ?_
      refine LS.step (OpOk.move rfl) ?_
      refine LS.step (OpOk.move rfl) ?_
      refine LS.step (OpOk.idxL (i := k) Try.underlying38 Try.sz3 (h48.up le3) rfl rfl rfl (by omega)) ?_
      refine LS.step (OpOk.ldI hin (rL.ix (h48.up le3) k (by omega)) Try.one3 rfl) ?_
      refine LS.step (OpOk.idxG (i := (Int.toNat (ix (takesM (⟨(fewM i).Op, andI .i64 ((fewM i).D) 15, andI .i64 ((fewM i).E) 15, andI .i64 ((fewM i).A) 15, andI .i64 ((fewM i).B) 15, andI .i64 ((fewM i).C) 15, (fewM i).Imm, (fewM i).Args⟩)) k))) Try.underlying25 Try.sz21 x54 rfl rfl (by omega) (by first | omega | (simp only [List.length_replicate, List.length_set, List.length_append, List.length_cons, List.length_nil]; omega))) ?_
      refine LS.step (OpOk.ldGI x54 (by first | omega | (simp only [List.length_replicate, List.length_set, List.length_append, List.length_cons, List.length_nil]; omega)) Try.one21 rfl) ?_
      refine LS.step (OpOk.idxG (i := (Int.toNat (ix (takesM (⟨(fewM i).Op, andI .i64 ((fewM i).D) 15, andI .i64 ((fewM i).E) 15, andI .i64 ((fewM i).A) 15, andI .i64 ((fewM i).B) 15, andI .i64 ((fewM i).C) 15, (fewM i).Imm, (fewM i).Args⟩)) k))) Try.underlying25 Try.sz21 x58 rfl rfl (by omega) (by first | omega | (simp only [List.length_replicate, List.length_set, List.length_append, List.length_cons, List.length_nil]; omega))) ?_
      refine LS.tail ?_
      refine LF.chg0 (OpCh.storeG x58 rfl Try.sz21 rfl rfl rfl (by first | omega | (simp only [List.length_replicate, List.length_set, List.length_append, List.length_cons, List.length_nil]; omega)) ⟨rfl, (Gl.wr x54 (by omega))⟩) ?_
      rintro _ Hw8 ⟨gw8, qw8, tw8, xw8⟩
      have ztw8 := tw8.1
      replace hin := hin.tw tw8 (x58.no _ qw8)
      replace hkp := Tw.kp' hkp tw8 (x58.blk _ qw8).1
      replace hb3 := hb3.tw tw8 (ne_of_own qw8 (x58.neBx hb3 (by decide)))
      replace hb8 := hb8.tw tw8 (ne_of_own qw8 (x58.neBx hb8 (by decide)))
      replace x54 := x54.tw tw8 (ap58_54 _ qw8)
      replace x58 := xw8
      refine LF.nil ?_
      refine PF.blockNormal ?_
      refine PF.next ?_
      refine CF.region ?_
      refine LF.step (OpOk.move rfl) ?_
      refine LF.step (OpOk.add rfl rfl (by omega)) ?_
      refine LF.step (OpOk.assign rfl) ?_
      refine LF.nil ?_
      exact PF.again (k + 1, List.set cs (Int.toNat (ix (takesM (⟨(fewM i).Op, andI .i64 ((fewM i).D) 15, andI .i64 ((fewM i).E) 15, andI .i64 ((fewM i).A) 15, andI .i64 ((fewM i).B) 15, andI .i64 ((fewM i).C) 15, (fewM i).Imm, (fewM i).Args⟩)) k)) (ix (ix regs 0) (Int.toNat (ix (takesM (⟨(fewM i).Op, andI .i64 ((fewM i).D) 15, andI .i64 ((fewM i).E) 15, andI .i64 ((fewM i).A) 15, andI .i64 ((fewM i).B) 15, andI .i64 ((fewM i).C) 15, (fewM i).Imm, (fewM i).Args⟩)) k)))) ⟨by dsimp only; omega, by dsimp only; first | exact mix_next hmx (by omega) hc2 | exact mix_skip hmx (by omega) (by omega), by dsimp only; first | exact hcl | (rw [List.length_set]; exact hcl), hin, hkp, hb3, hb8, x54, x58⟩ ⟨rfl, rfl, rfl, rfl, rfl, rfl, rfl, rfl, eqI (by omega), trivial⟩ (by omega)
    refine CF.skip ?_
    refine PF.blockNormal ?_
    refine PF.next ?_
    refine CF.region ?_
    refine LF.step (OpOk.move rfl) ?_
    refine LF.step (OpOk.add rfl rfl (by omega)) ?_
    refine LF.step (OpOk.assign rfl) ?_
    refine LF.nil ?_
    exact PF.again (k + 1, cs) ⟨by dsimp only; omega, by dsimp only; first | exact mix_next hmx (by omega) hc2 | exact mix_skip hmx (by omega) (by omega), by dsimp only; first | exact hcl | (rw [List.length_set]; exact hcl), hin, hkp, hb3, hb8, x54, x58⟩ ⟨rfl, rfl, rfl, rfl, rfl, rfl, rfl, rfl, eqI (by omega), trivial⟩ (by omega)
  have hcs := mix_done hmx (by omega)
  have hag : ∀ r ∈ takesM (⟨(fewM i).Op, andI .i64 ((fewM i).D) 15, andI .i64 ((fewM i).E) 15, andI .i64 ((fewM i).A) 15, andI .i64 ((fewM i).B) 15, andI .i64 ((fewM i).C) 15, (fewM i).Imm, (fewM i).Args⟩), getM cs r = getM (ix regs 0) r := by rw [hcs]; exact mix_get hr0 hr1
  refine CF.exit ?_
  refine PF.thenExit ?_
  refine PF.thenExit ?_
  refine PF.blockHere ?_
  refine PF.next ?_
  refine CF.seq ?_
  refine CF.region ?_
  refine LF.step (OpOk.move rfl) ?_
  refine LF.call (OpCall.fn Try.ent10 rfl rfl) (some_ct hin (p2.up le0)) ?_
  rintro v91 H91 ⟨x91, k91⟩
  have ap54_91 := ap_new x54.lt x91.ge
  have ap91_54 := ap_sym ap54_91
  have ap58_91 := ap_new x58.lt x91.ge
  have ap91_58 := ap_sym ap58_91
  replace x91 := x91.base hkp.1
  have zk91 := k91.1
  replace hin := hin.kp k91
  replace hkp := hkp.trans (k91.mono hkp.1)
  replace hb3 := hb3.kp k91
  replace hb8 := hb8.kp k91
  replace x54 := x54.kp k91
  replace x58 := x58.kp k91
  refine LF.step (OpOk.assign rfl) ?_
  refine LF.nil ?_
  refine PF.next ?_
  refine CF.seq ?_
  refine CF.region ?_
  refine LF.step (OpOk.move rfl) ?_
  refine LF.call (OpCall.fn Try.ent10 rfl rfl) (some_ct hin (p2.up le0)) ?_
  rintro v93 H93 ⟨x93, k93⟩
  have ap54_93 := ap_new x54.lt x93.ge
  have ap93_54 := ap_sym ap54_93
  have ap58_93 := ap_new x58.lt x93.ge
  have ap93_58 := ap_sym ap58_93
  have ap91_93 := ap_new x91.lt x93.ge
  have ap93_91 := ap_sym ap91_93
  replace x93 := x93.base hkp.1
  have zk93 := k93.1
  replace hin := hin.kp k93
  replace hkp := hkp.trans (k93.mono hkp.1)
  replace hb3 := hb3.kp k93
  replace hb8 := hb8.kp k93
  replace x54 := x54.kp k93
  replace x58 := x58.kp k93
  replace x91 := x91.kp k93
  refine LF.step (OpOk.assign rfl) ?_
  refine LF.nil ?_
  refine PF.next ?_
  refine CF.seq ?_
  refine CF.region ?_
  refine LF.chg (OpCh.litL (F := F50) (r := (rI .i32)) (l := []) (us := []) (cs := []) Try.underlying25 Try.info21 (by decide) rfl rfl rfl trivial) ?_
  rintro _ H94 ⟨g94, rfl, e94, s94, k94, x94⟩
  have l94 := hkp.1
  have ap54_94 := ap_new x54.lt (x94 hin).ge
  have ap58_94 := ap_new x58.lt (x94 hin).ge
  have ap91_94 := ap_new x91.lt (x94 hin).ge
  have ap93_94 := ap_new x93.lt (x94 hin).ge
  replace x94 := (x94 hin).base l94
  have zk94 := k94.1
  replace hin := hin.kp k94
  replace hkp := hkp.trans (k94.mono hkp.1)
  replace hb3 := hb3.kp k94
  replace hb8 := hb8.kp k94
  replace x54 := x54.kp k94
  replace x58 := x58.kp k94
  replace x91 := x91.kp k94
  replace x93 := x93.kp k94
  have ap94_54 := ap_sym ap54_94
  have ap94_58 := ap_sym ap58_94
  have ap94_91 := ap_sym ap91_94
  have ap94_93 := ap_sym ap93_94
  refine LF.step (OpOk.move rfl) ?_
  obtain ⟨Gt, lt96, hint96, _, not96, hrt96⟩ := x54.freeze (N := 1073741824) hin (by first | (simp only [List.length_append, List.length_take, List.length_drop, List.length_nil, List.length_cons, List.length_set, List.length_replicate]; omega) | (simp; done) | (simp; omega) | omega)
  refine LF.chg (OpCh.appL (r := (rI .i32)) Try.underlying25 Try.info21 (by decide) rfl rfl rfl (x94.frozen lt96 not96 ap94_54) hrt96 hint96 (by first | (simp only [List.length_append, List.length_take, List.length_drop, List.length_nil, List.length_cons, List.length_set, List.length_replicate]; omega) | (simp; done) | (simp; omega) | omega) (by omega)) ?_
  rintro v96 H96 ⟨x96, gb96, ob96⟩
  replace x96 := x96.flatI lt96
  replace hin := hin.grown gb96 x94.no
  replace hkp := gb96.kp hkp (Nat.le_refl _) (fun k0 hk0 => (x94.blk k0 hk0).1)
  replace hb3 := hb3.of (gb96.2 _ hb3.lt (Ne.symm (by first | exact x94.neBx hb3 (by decide) | exact nq94_3)))
  replace hb8 := hb8.of (gb96.2 _ hb8.lt (Ne.symm (by first | exact x94.neBx hb8 (by decide) | exact nq94_8)))
  have ap96_54 := ap_grow ap94_54 x54.lt (ob_some ob96)
  have ap54_96 := ap_sym ap96_54
  replace x54 := x54.of (fun k0 hk0 => gb96.2 k0 (x54.blk k0 hk0).2 (fun e9 => ap94_54 _ e9.symm hk0))
  have ap96_58 := ap_grow ap94_58 x58.lt (ob_some ob96)
  have ap58_96 := ap_sym ap96_58
  replace x58 := x58.of (fun k0 hk0 => gb96.2 k0 (x58.blk k0 hk0).2 (fun e9 => ap94_58 _ e9.symm hk0))
  have ap96_91 := ap_grow ap94_91 x91.lt (ob_some ob96)
  have ap91_96 := ap_sym ap96_91
  replace x91 := x91.of (fun k0 hk0 => gb96.2 k0 (x91.blk k0 hk0).2 (fun e9 => ap94_91 _ e9.symm hk0))
  have ap96_93 := ap_grow ap94_93 x93.lt (ob_some ob96)
  have ap93_96 := ap_sym ap96_93
  replace x93 := x93.of (fun k0 hk0 => gb96.2 k0 (x93.blk k0 hk0).2 (fun e9 => ap94_93 _ e9.symm hk0))
  rw [List.nil_append] at x96
  refine LF.step (OpOk.assign rfl) ?_
  refine LF.nil ?_
  refine PF.next ?_
  refine CF.seq ?_
  refine CF.region ?_
  refine LF.step (OpOk.ldBxA hb8 Try.agg40 Try.sz40 rfl rfl rfl) ?_
  refine LF.step (OpOk.move rfl) ?_
  refine LF.step (OpOk.move rfl) ?_
  refine LF.call (OpCall.fn Try.ent19 rfl rfl) (pDoM_ct hin (rMach.mk (m := ⟨(fewM i).Op, andI .i64 ((fewM i).D) 15, andI .i64 ((fewM i).E) 15, andI .i64 ((fewM i).A) 15, andI .i64 ((fewM i).B) 15, andI .i64 ((fewM i).C) 15, (fewM i).Imm, (fewM i).Args⟩) (h26c7.up le2) (rMach.w_Op (m := (fewM i)) h26k) (wrap_wrap _ _) (wrap_wrap _ _) (wrap_wrap _ _) (wrap_wrap _ _) (wrap_wrap _ _) (rMach.w_Imm (m := (fewM i)) h26k)) x54 x91 (by first | omega | (have := someM_len mem; omega)) (by first | omega | (have := someM_len mem; omega)) ap54_91) ?_
  rintro _ H101 ⟨rfl, k101, x101_1, x101_2⟩
  have zk101 := k101.1
  replace hin := hin.kw k101 (by intro k0 hk0; rcases hk0 with hk0 | hk0; exact x54.no k0 hk0; exact x91.no k0 hk0)
  replace hb3 := hb3.kw k101 (by rintro (hk0 | hk0); exact x54.neBx hb3 (by decide) hk0; exact x91.neBx hb3 (by decide) hk0)
  replace hb8 := hb8.kw k101 (by rintro (hk0 | hk0); exact x54.neBx hb8 (by decide) hk0; exact x91.neBx hb8 (by decide) hk0)
  replace x58 := x58.kw k101 (by intro k0 hk0; rintro (h9 | h9); exact ap58_54 k0 hk0 h9; exact ap58_91 k0 hk0 h9)
  replace x93 := x93.kw k101 (by intro k0 hk0; rintro (h9 | h9); exact ap93_54 k0 hk0 h9; exact ap93_91 k0 hk0 h9)
  replace x96 := x96.kw k101 (by intro k0 hk0; rintro (h9 | h9); exact ap96_54 k0 hk0 h9; exact ap96_91 k0 hk0 h9)
  replace hkp := hkp.kw k101 (by rintro k0 (hk0 | hk0); exact x54.ge k0 hk0; exact x91.ge k0 hk0)
  replace x54 := x101_1
  replace x91 := x101_2
  have w101_0 : IntKind.i32.wrap ((stepM (⟨(fewM i).Op, andI .i64 ((fewM i).D) 15, andI .i64 ((fewM i).E) 15, andI .i64 ((fewM i).A) 15, andI .i64 ((fewM i).B) 15, andI .i64 ((fewM i).C) 15, (fewM i).Imm, (fewM i).Args⟩) (ix regs 0) (someM mem)).1.1) = (stepM (⟨(fewM i).Op, andI .i64 ((fewM i).D) 15, andI .i64 ((fewM i).E) 15, andI .i64 ((fewM i).A) 15, andI .i64 ((fewM i).B) 15, andI .i64 ((fewM i).C) 15, (fewM i).Imm, (fewM i).Args⟩) (ix regs 0) (someM mem)).1.1 := stepM_wr _ _ _
  have hl101 := stepM_len (⟨(fewM i).Op, andI .i64 ((fewM i).D) 15, andI .i64 ((fewM i).E) 15, andI .i64 ((fewM i).A) 15, andI .i64 ((fewM i).B) 15, andI .i64 ((fewM i).C) 15, (fewM i).Imm, (fewM i).Args⟩) (ix regs 0) (someM mem)
  refine LF.step (OpOk.move rfl) ?_
  refine LF.step (OpOk.extract (v := .int .i32 ((stepM (⟨(fewM i).Op, andI .i64 ((fewM i).D) 15, andI .i64 ((fewM i).E) 15, andI .i64 ((fewM i).A) 15, andI .i64 ((fewM i).B) 15, andI .i64 ((fewM i).C) 15, (fewM i).Imm, (fewM i).Args⟩) (ix regs 0) (someM mem)).1.1)) rfl rfl) ?_
  refine LF.step (OpOk.extract (v := .bool ((stepM (⟨(fewM i).Op, andI .i64 ((fewM i).D) 15, andI .i64 ((fewM i).E) 15, andI .i64 ((fewM i).A) 15, andI .i64 ((fewM i).B) 15, andI .i64 ((fewM i).C) 15, (fewM i).Imm, (fewM i).Args⟩) (ix regs 0) (someM mem)).1.2)) rfl rfl) ?_
  refine LF.step (OpOk.assign rfl) ?_
  refine LF.step (OpOk.assign rfl) ?_
  refine LF.nil ?_
  refine PF.next ?_
  refine CF.seq ?_
  refine CF.region ?_
  refine LF.step (OpOk.ldBxA hb8 Try.agg40 Try.sz40 rfl rfl rfl) ?_
  refine LF.step (OpOk.move rfl) ?_
  refine LF.step (OpOk.move rfl) ?_
  refine LF.call (OpCall.fn Try.ent19 rfl rfl) (pDoM_ct hin (rMach.mk (m := ⟨(fewM i).Op, andI .i64 ((fewM i).D) 15, andI .i64 ((fewM i).E) 15, andI .i64 ((fewM i).A) 15, andI .i64 ((fewM i).B) 15, andI .i64 ((fewM i).C) 15, (fewM i).Imm, (fewM i).Args⟩) (h26c7.up le2) (rMach.w_Op (m := (fewM i)) h26k) (wrap_wrap _ _) (wrap_wrap _ _) (wrap_wrap _ _) (wrap_wrap _ _) (wrap_wrap _ _) (rMach.w_Imm (m := (fewM i)) h26k)) x58 x93 (by first | omega | (have := someM_len mem; omega)) (by first | omega | (have := someM_len mem; omega)) ap58_93) ?_
  rintro _ H108 ⟨rfl, k108, x108_1, x108_2⟩
  have zk108 := k108.1
  replace hin := hin.kw k108 (by intro k0 hk0; rcases hk0 with hk0 | hk0; exact x58.no k0 hk0; exact x93.no k0 hk0)
  replace hb3 := hb3.kw k108 (by rintro (hk0 | hk0); exact x58.neBx hb3 (by decide) hk0; exact x93.neBx hb3 (by decide) hk0)
  replace hb8 := hb8.kw k108 (by rintro (hk0 | hk0); exact x58.neBx hb8 (by decide) hk0; exact x93.neBx hb8 (by decide) hk0)
  replace x54 := x54.kw k108 (by intro k0 hk0; rintro (h9 | h9); exact ap54_58 k0 hk0 h9; exact ap54_93 k0 hk0 h9)
  replace x91 := x91.kw k108 (by intro k0 hk0; rintro (h9 | h9); exact ap91_58 k0 hk0 h9; exact ap91_93 k0 hk0 h9)
  replace x96 := x96.kw k108 (by intro k0 hk0; rintro (h9 | h9); exact ap96_58 k0 hk0 h9; exact ap96_93 k0 hk0 h9)
  replace hkp := hkp.kw k108 (by rintro k0 (hk0 | hk0); exact x58.ge k0 hk0; exact x93.ge k0 hk0)
  replace x58 := x108_1
  replace x93 := x108_2
  have w108_0 : IntKind.i32.wrap ((stepM (⟨(fewM i).Op, andI .i64 ((fewM i).D) 15, andI .i64 ((fewM i).E) 15, andI .i64 ((fewM i).A) 15, andI .i64 ((fewM i).B) 15, andI .i64 ((fewM i).C) 15, (fewM i).Imm, (fewM i).Args⟩) cs (someM mem)).1.1) = (stepM (⟨(fewM i).Op, andI .i64 ((fewM i).D) 15, andI .i64 ((fewM i).E) 15, andI .i64 ((fewM i).A) 15, andI .i64 ((fewM i).B) 15, andI .i64 ((fewM i).C) 15, (fewM i).Imm, (fewM i).Args⟩) cs (someM mem)).1.1 := stepM_wr _ _ _
  have hl108 := stepM_len (⟨(fewM i).Op, andI .i64 ((fewM i).D) 15, andI .i64 ((fewM i).E) 15, andI .i64 ((fewM i).A) 15, andI .i64 ((fewM i).B) 15, andI .i64 ((fewM i).C) 15, (fewM i).Imm, (fewM i).Args⟩) cs (someM mem)
  refine LF.step (OpOk.move rfl) ?_
  refine LF.step (OpOk.extract (v := .int .i32 ((stepM (⟨(fewM i).Op, andI .i64 ((fewM i).D) 15, andI .i64 ((fewM i).E) 15, andI .i64 ((fewM i).A) 15, andI .i64 ((fewM i).B) 15, andI .i64 ((fewM i).C) 15, (fewM i).Imm, (fewM i).Args⟩) cs (someM mem)).1.1)) rfl rfl) ?_
  refine LF.step (OpOk.extract (v := .bool ((stepM (⟨(fewM i).Op, andI .i64 ((fewM i).D) 15, andI .i64 ((fewM i).E) 15, andI .i64 ((fewM i).A) 15, andI .i64 ((fewM i).B) 15, andI .i64 ((fewM i).C) 15, (fewM i).Imm, (fewM i).Args⟩) cs (someM mem)).1.2)) rfl rfl) ?_
  refine LF.step (OpOk.assign rfl) ?_
  refine LF.step (OpOk.assign rfl) ?_
  refine LF.nil ?_
  refine PF.next ?_
  refine CF.seq ?_
  refine CF.seq ?_
  obtain ⟨Fz9, hxz9, lez9, hinz9, noz9, hrz9⟩ := x91.freezeX hin hx (Nat.le_refl _) (by first | (simp only [List.length_append, List.length_take, List.length_drop, List.length_nil, List.length_cons, List.length_set, List.length_replicate]; omega) | (simp; done) | (simp; omega) | omega)
  replace hin := hinz9
  replace hx := hxz9
  replace le0 := le0.trans lez9
  replace le1 := le1.trans lez9
  replace le2 := le2.trans lez9
  replace le3 := le3.trans lez9
  have le4 := lez9
  replace ng3 := (noz9 _ (x91.neBx hb3 (by decide))).trans ng3
  replace ng8 := (noz9 _ (x91.neBx hb8 (by decide))).trans ng8
  replace x54 := x54.frozen lez9 noz9 ap54_91
  replace x58 := x58.frozen lez9 noz9 ap58_91
  replace x93 := x93.frozen lez9 noz9 ap93_91
  replace x96 := x96.frozen lez9 noz9 ap96_91
  obtain ⟨Fz10, hxz10, lez10, hinz10, noz10, hrz10⟩ := x93.freezeX hin hx (Nat.le_refl _) (by first | (simp only [List.length_append, List.length_take, List.length_drop, List.length_nil, List.length_cons, List.length_set, List.length_replicate]; omega) | (simp; done) | (simp; omega) | omega)
  replace hin := hinz10
  replace hx := hxz10
  replace le0 := le0.trans lez10
  replace le1 := le1.trans lez10
  replace le2 := le2.trans lez10
  replace le3 := le3.trans lez10
  replace le4 := le4.trans lez10
  have le5 := lez10
  replace ng3 := (noz10 _ (x93.neBx hb3 (by decide))).trans ng3
  replace ng8 := (noz10 _ (x93.neBx hb8 (by decide))).trans ng8
  replace x54 := x54.frozen lez10 noz10 ap54_93
  replace x58 := x58.frozen lez10 noz10 ap58_93
  replace x96 := x96.frozen lez10 noz10 ap96_93
  refine CF.region ?_
  refine LF.step (OpOk.move rfl) ?_
  refine LF.step (OpOk.move rfl) ?_
  refine LF.step (OpOk.neq rfl rfl) ?_
  refine LF.step (OpOk.move rfl) ?_
  refine LF.gstep rfl rfl (.f _) (fun hg => OpOk.move rfl) ?_
  refine LF.gstep rfl rfl (.f _) (fun hg => OpOk.move rfl) ?_
  refine LF.gstep rfl rfl (.f _) (fun hg => OpOk.neqB Try.underlying4 (evg rfl hg) (evg rfl hg)) ?_
  refine LF.step (OpOk.pickOr rfl rfl) ?_
  refine LF.step (OpOk.move rfl) ?_
  refine LF.gstep rfl rfl (.f _) (fun hg => OpOk.move rfl) ?_
  refine LF.gstep rfl rfl (.f _) (fun hg => OpOk.move rfl) ?_
  refine LF.gcall rfl rfl (.f _) (fun hg => OpCall.fn Try.ent20 rfl (evl2 (evg rfl hg) (evg rfl hg))) (fun hg => words_ct hin (hrz9.up le5) hrz10) (fun _ _ h => h) ?_
  refine LF.gstep rfl rfl (.f _) (fun hg => OpOk.not (evg rfl hg)) ?_
  refine LF.step (OpOk.pickOr rfl rfl) ?_
  refine LF.nil ?_
  refine PF.next ?_
  refine CF.if rfl (fun hc3 => ?_) (fun hc3 => ?_)
  · exact (touch_same hag hc3).elim
  refine CF.skip ?_
  refine PF.next ?_
  refine CF.seq ?_
  refine CF.seq ?_
  refine CF.region ?_
  refine LF.step (OpOk.assign rfl) ?_
  refine LF.nil ?_
  refine PF.next ?_
  refine CF.block ?_
  refine CF.loop (ι := Nat) (fun k2 H1 => k2 ≤ 16 ∧ InH Fz10 H1 ∧ Kp H.size H H1 ∧ Bx H1 g3 40 [.int .i64 i.Op, .int .i64 i.D, .int .i64 i.E, .int .i64 i.A, .int .i64 i.B, .int .i64 i.C, .int .i32 i.Imm, a0c7] ∧ Bx H1 g8 40 [.int .i64 ((fewM i).Op), .int .i64 (andI .i64 ((fewM i).D) 15), .int .i64 (andI .i64 ((fewM i).E) 15), .int .i64 (andI .i64 ((fewM i).A) 15), .int .i64 (andI .i64 ((fewM i).B) 15), .int .i64 (andI .i64 ((fewM i).C) 15), .int .i32 ((fewM i).Imm), v26c7] ∧ Gl (rI .i32) 21 Fz10 H1 H.size v54 ((stepM (⟨(fewM i).Op, andI .i64 ((fewM i).D) 15, andI .i64 ((fewM i).E) 15, andI .i64 ((fewM i).A) 15, andI .i64 ((fewM i).B) 15, andI .i64 ((fewM i).C) 15, (fewM i).Imm, (fewM i).Args⟩) (ix regs 0) (someM mem)).2.1) ∧ Gl (rI .i32) 21 Fz10 H1 H.size v58 ((stepM (⟨(fewM i).Op, andI .i64 ((fewM i).D) 15, andI .i64 ((fewM i).E) 15, andI .i64 ((fewM i).A) 15, andI .i64 ((fewM i).B) 15, andI .i64 ((fewM i).C) 15, (fewM i).Imm, (fewM i).Args⟩) cs (someM mem)).2.1) ∧ Gl (rI .i32) 21 Fz10 H1 H.size v96 (ix regs 0)) (fun k2 => [(2, a2), (7, .bool true), (8, .pointer (some ⟨g8, 0, none⟩)), (10, v50), (11, v54), (12, v58), (14, v91), (16, v96), (17, .int .i32 ((stepM (⟨(fewM i).Op, andI .i64 ((fewM i).D) 15, andI .i64 ((fewM i).E) 15, andI .i64 ((fewM i).A) 15, andI .i64 ((fewM i).B) 15, andI .i64 ((fewM i).C) 15, (fewM i).Imm, (fewM i).Args⟩) (ix regs 0) (someM mem)).1.1)), (18, .bool ((stepM (⟨(fewM i).Op, andI .i64 ((fewM i).D) 15, andI .i64 ((fewM i).E) 15, andI .i64 ((fewM i).A) 15, andI .i64 ((fewM i).B) 15, andI .i64 ((fewM i).C) 15, (fewM i).Imm, (fewM i).Args⟩) (ix regs 0) (someM mem)).1.2)), (21, .int .i64 (↑k2))]) (fun k2 => 16 - k2) 0 ⟨by omega, hin, hkp, hb3, hb8, x54, x58, x96⟩ ⟨rfl, rfl, rfl, rfl, rfl, rfl, rfl, rfl, rfl, rfl, eqI (by omega), trivial⟩ ?_
  clear hin hkp hb3 hb8 x54 x58 x96
  rintro k2 H1 ⟨hk2, hin, hkp, hb3, hb8, x54, x58, x96⟩
  refine CF.seq ?_
  refine CF.seq ?_
  refine CF.region ?_
  refine LF.step (OpOk.move rfl) ?_
  refine LF.step (OpOk.lss rfl rfl) ?_
  refine LF.nil ?_
  refine PF.next ?_
  refine CF.if rfl (fun hc4 => ?_) (fun hc4 => ?_)
  · refine CF.skip ?_
    refine PF.next ?_
    refine CF.seq ?_
    refine CF.block ?_
    refine CF.seq ?_
    refine CF.region ?_
    refine LF.step (OpOk.assign rfl) ?_
    refine LF.nil ?_
    refine PF.next ?_
    refine CF.seq ?_
    refine CF.seq ?_
    refine CF.region ?_
    refine LF.step (OpOk.assign rfl) ?_
    refine LF.nil ?_
    refine PF.next ?_
    refine CF.block ?_
    refine CF.loop (ι := Nat × Bool) (fun z9 H1 => z9.1 ≤ (makesM (⟨(fewM i).Op, andI .i64 ((fewM i).D) 15, andI .i64 ((fewM i).E) 15, andI .i64 ((fewM i).A) 15, andI .i64 ((fewM i).B) 15, andI .i64 ((fewM i).C) 15, (fewM i).Imm, (fewM i).Args⟩)).length ∧ z9.2 = ((makesM (⟨(fewM i).Op, andI .i64 ((fewM i).D) 15, andI .i64 ((fewM i).E) 15, andI .i64 ((fewM i).A) 15, andI .i64 ((fewM i).B) 15, andI .i64 ((fewM i).C) 15, (fewM i).Imm, (fewM i).Args⟩)).take z9.1).any (fun y => decide (y = (k2 : Int))) ∧ InH Fz10 H1 ∧ Kp H.size H H1 ∧ Bx H1 g3 40 [.int .i64 i.Op, .int .i64 i.D, .int .i64 i.E, .int .i64 i.A, .int .i64 i.B, .int .i64 i.C, .int .i32 i.Imm, a0c7] ∧ Bx H1 g8 40 [.int .i64 ((fewM i).Op), .int .i64 (andI .i64 ((fewM i).D) 15), .int .i64 (andI .i64 ((fewM i).E) 15), .int .i64 (andI .i64 ((fewM i).A) 15), .int .i64 (andI .i64 ((fewM i).B) 15), .int .i64 (andI .i64 ((fewM i).C) 15), .int .i32 ((fewM i).Imm), v26c7] ∧ Gl (rI .i32) 21 Fz10 H1 H.size v54 ((stepM (⟨(fewM i).Op, andI .i64 ((fewM i).D) 15, andI .i64 ((fewM i).E) 15, andI .i64 ((fewM i).A) 15, andI .i64 ((fewM i).B) 15, andI .i64 ((fewM i).C) 15, (fewM i).Imm, (fewM i).Args⟩) (ix regs 0) (someM mem)).2.1) ∧ Gl (rI .i32) 21 Fz10 H1 H.size v58 ((stepM (⟨(fewM i).Op, andI .i64 ((fewM i).D) 15, andI .i64 ((fewM i).E) 15, andI .i64 ((fewM i).A) 15, andI .i64 ((fewM i).B) 15, andI .i64 ((fewM i).C) 15, (fewM i).Imm, (fewM i).Args⟩) cs (someM mem)).2.1) ∧ Gl (rI .i32) 21 Fz10 H1 H.size v96 (ix regs 0)) (fun z9 => [(2, a2), (7, .bool true), (8, .pointer (some ⟨g8, 0, none⟩)), (10, v50), (11, v54), (12, v58), (14, v91), (16, v96), (17, .int .i32 ((stepM (⟨(fewM i).Op, andI .i64 ((fewM i).D) 15, andI .i64 ((fewM i).E) 15, andI .i64 ((fewM i).A) 15, andI .i64 ((fewM i).B) 15, andI .i64 ((fewM i).C) 15, (fewM i).Imm, (fewM i).Args⟩) (ix regs 0) (someM mem)).1.1)), (18, .bool ((stepM (⟨(fewM i).Op, andI .i64 ((fewM i).D) 15, andI .i64 ((fewM i).E) 15, andI .i64 ((fewM i).A) 15, andI .i64 ((fewM i).B) 15, andI .i64 ((fewM i).C) 15, (fewM i).Imm, (fewM i).Args⟩) (ix regs 0) (someM mem)).1.2)), (21, .int .i64 (↑k2)), (22, .bool z9.2), (23, .int .i64 (↑z9.1))]) (fun z9 => (makesM (⟨(fewM i).Op, andI .i64 ((fewM i).D) 15, andI .i64 ((fewM i).E) 15, andI .i64 ((fewM i).A) 15, andI .i64 ((fewM i).B) 15, andI .i64 ((fewM i).C) 15, (fewM i).Imm, (fewM i).Args⟩)).length - z9.1) (0, false) ⟨by dsimp only; omega, rfl, hin, hkp, hb3, hb8, x54, x58, x96⟩ ⟨rfl, rfl, rfl, rfl, rfl, rfl, rfl, rfl, rfl, rfl, rfl, rfl, eqI (by omega), trivial⟩ ?_
    clear hin hkp hb3 hb8 x54 x58 x96
    rintro ⟨j, b⟩ H1 ⟨hj, hb, hin, hkp, hb3, hb8, x54, x58, x96⟩
    dsimp only at hj hb hb3 hb8 x54 x58 x96 ⊢
    refine CF.seq ?_
    refine CF.seq ?_
    refine CF.region ?_
    refine LF.step (OpOk.move rfl) ?_
    refine LF.step (OpOk.move rfl) ?_
    refine LF.step (OpOk.lenL Try.underlying38 (h50.up le4) rfl) ?_
    refine LF.step (OpOk.lss rfl rfl) ?_
    refine LF.nil ?_
    refine PF.next ?_
    refine CF.if rfl (fun hc5 => ?_) (fun hc5 => ?_)
    · refine CF.skip ?_
      refine PF.next ?_
      refine CF.seq ?_
      refine CF.block ?_
      refine CF.region ?_
      refine LF.step (OpOk.move rfl) ?_
      refine LF.step (OpOk.move rfl) ?_
      refine LF.gstep rfl rfl (.f _) (fun hg => OpOk.move rfl) ?_
      refine LF.gstep rfl rfl (.f _) (fun hg => OpOk.move rfl) ?_
      refine LF.gstep rfl rfl (.f _) (fun hg => OpOk.idxL (i := j) Try.underlying38 Try.sz3 (h50.up le4) (evg rfl hg) (evg rfl hg) rfl (by omega)) ?_
      refine LF.gstep rfl rfl (.f _) (fun hg => OpOk.ldI hin (rL.ix (h50.up le4) j (by omega)) Try.one3 (evg rfl hg)) ?_
      refine LF.gstep rfl rfl (.f _) (fun hg => OpOk.move rfl) ?_
      refine LF.gstep rfl rfl (.f _) (fun hg => OpOk.eql (evg rfl hg) (evg rfl hg)) ?_
      refine LF.step (OpOk.pickOr rfl rfl) ?_
      refine LF.step (OpOk.assign rfl) ?_
      refine LF.nil ?_
      refine PF.blockNormal ?_
      refine PF.next ?_
      refine CF.region ?_
      refine LF.step (OpOk.move rfl) ?_
      refine LF.step (OpOk.add rfl rfl (by omega)) ?_
      refine LF.step (OpOk.assign rfl) ?_
      refine LF.nil ?_
      exact PF.again (j + 1, b || (decide (ix (makesM (⟨(fewM i).Op, andI .i64 ((fewM i).D) 15, andI .i64 ((fewM i).E) 15, andI .i64 ((fewM i).A) 15, andI .i64 ((fewM i).B) 15, andI .i64 ((fewM i).C) 15, (fewM i).Imm, (fewM i).Args⟩)) j = ((k2 : Nat) : Int)))) ⟨by dsimp only; omega, by dsimp only; rw [any_snoc (by omega), ← hb], hin, hkp, hb3, hb8, x54, x58, x96⟩ ⟨rfl, rfl, rfl, rfl, rfl, rfl, rfl, rfl, rfl, rfl, rfl, rfl, eqI (by omega), trivial⟩ (by omega)
    have hbm := any_mem hb (by omega)
    refine CF.exit ?_
    refine PF.thenExit ?_
    refine PF.thenExit ?_
    refine PF.blockHere ?_
    refine PF.next ?_
    refine CF.seq ?_
    refine CF.still Try.mixed (by kernel_rfl) ?_
    refine LS.step (OpOk.move rfl) ?_
    refine LS.step (OpOk.not rfl) ?_
    refine LS.step (OpOk.move rfl) ?_
    refine LS.gstep rfl rfl (.f _) (fun hg => OpOk.move rfl) ?_
    refine LS.gstep rfl rfl (.f _) (fun hg => OpOk.not (evg rfl hg)) ?_
    refine LS.step (OpOk.pickOr rfl rfl) ?_
    refine LS.step (OpOk.move rfl) ?_
    refine LS.gstep rfl rfl (.t _) (fun hg => OpOk.move rfl) ?_
    refine LS.gstep rfl rfl (.t _) (fun hg => OpOk.move rfl) ?_
    refine LS.gstep rfl rfl (.t _) (fun hg => OpOk.idxG (i := k2) Try.underlying25 Try.sz21 x54 (evg rfl hg) (evg rfl hg) rfl (by first | omega | (simp only [List.length_replicate, List.length_set, List.length_append, List.length_cons, List.length_nil]; omega))) ?_
    refine LS.gstep rfl rfl (.t _) (fun hg => OpOk.ldGI x54 (by first | omega | (simp only [List.length_replicate, List.length_set, List.length_append, List.length_cons, List.length_nil]; omega)) Try.one21 (evg rfl hg)) ?_
    refine LS.gstep rfl rfl (.t _) (fun hg => OpOk.move rfl) ?_
    refine LS.gstep rfl rfl (.t _) (fun hg => OpOk.move rfl) ?_
    refine LS.gstep rfl rfl (.t _) (fun hg => OpOk.idxG (i := k2) Try.underlying25 Try.sz21 x96 (evg rfl hg) (evg rfl hg) rfl (by first | omega | (simp only [List.length_replicate, List.length_set, List.length_append, List.length_cons, List.length_nil]; omega))) ?_
    refine LS.gstep rfl rfl (.t _) (fun hg => OpOk.ldGI x96 (by first | omega | (simp only [List.length_replicate, List.length_set, List.length_append, List.length_cons, List.length_nil]; omega)) Try.one21 (evg rfl hg)) ?_
    refine LS.gstep rfl rfl (.t _) (fun hg => OpOk.neq (evg rfl hg) (evg rfl hg)) ?_
    refine LS.step (OpOk.pickAnd rfl rfl) ?_
    refine LS.step (OpOk.move rfl) ?_
    refine LS.gstep rfl rfl (.f _) (fun hg => OpOk.move rfl) ?_
    refine LS.gstep rfl rfl (.f _) (fun hg => OpOk.move (evg rfl hg)) ?_
    refine LS.gstep rfl rfl (.gt _ _) (fun hg => OpOk.move rfl) ?_
    refine LS.gstep rfl rfl (.f _) (fun hg => OpOk.pickAnd2 hg rfl rfl) ?_
    refine LS.gstep rfl rfl (.f _) (fun hg => OpOk.move (evg rfl hg)) ?_
    refine LS.gstep rfl rfl (.gt _ _) (fun hg => OpOk.fieldAddr (Try.fld40_0) rfl) ?_
    refine LS.gstep rfl rfl (.gt _ _) (fun hg => OpOk.ldBx hb8 Try.one3 (evg rfl hg) rfl) ?_
    refine LS.gstep rfl rfl (.gt _ _) (fun hg => OpOk.neq (evg rfl hg) rfl) ?_
    refine LS.gstep rfl rfl (.f _) (fun hg => OpOk.pickAnd2 hg rfl rfl) ?_
    refine LS.gstep rfl rfl (.f _) (fun hg => OpOk.move (evg rfl hg)) ?_
    refine LS.gstep rfl rfl (.gt _ _) (fun hg => OpOk.fieldAddr (Try.fld40_0) rfl) ?_
    refine LS.gstep rfl rfl (.gt _ _) (fun hg => OpOk.ldBx hb8 Try.one3 (evg rfl hg) rfl) ?_
    refine LS.gstep rfl rfl (.gt _ _) (fun hg => OpOk.neq (evg rfl hg) rfl) ?_
    refine LS.gstep rfl rfl (.f _) (fun hg => OpOk.pickAnd2 hg rfl rfl) ?_
    refine LS.gstep rfl rfl (.f _) (fun hg => OpOk.move (evg rfl hg)) ?_
    refine LS.gstep rfl rfl (.gt _ _) (fun hg => OpOk.move rfl) ?_
    refine LS.gstep rfl rfl (.gt _ _) (fun hg => OpOk.move rfl) ?_
    refine LS.gstep rfl rfl (.gt _ _) (fun hg => OpOk.idxG (i := k2) Try.underlying25 Try.sz21 x54 (evg rfl hg) (evg rfl hg) rfl (by first | omega | (simp only [List.length_replicate, List.length_set, List.length_append, List.length_cons, List.length_nil]; omega))) ?_
    refine LS.gstep rfl rfl (.gt _ _) (fun hg => OpOk.ldGI x54 (by first | omega | (simp only [List.length_replicate, List.length_set, List.length_append, List.length_cons, List.length_nil]; omega)) Try.one21 (evg rfl hg)) ?_
    refine LS.gstep rfl rfl (.gt _ _) (fun hg => OpOk.move rfl) ?_
    refine LS.gstep rfl rfl (.gt _ _) (fun hg => OpOk.move rfl) ?_
    refine LS.gstep rfl rfl (.gt _ _) (fun hg => OpOk.idxG (i := k2) Try.underlying25 Try.sz21 x58 (evg rfl hg) (evg rfl hg) rfl (by first | omega | (simp only [List.length_replicate, List.length_set, List.length_append, List.length_cons, List.length_nil]; omega))) ?_
    refine LS.gstep rfl rfl (.gt _ _) (fun hg => OpOk.ldGI x58 (by first | omega | (simp only [List.length_replicate, List.length_set, List.length_append, List.length_cons, List.length_nil]; omega)) Try.one21 (evg rfl hg)) ?_
    refine LS.gstep rfl rfl (.gt _ _) (fun hg => OpOk.neq (evg rfl hg) (evg rfl hg)) ?_
    refine LS.gstep rfl rfl (.f _) (fun hg => OpOk.pickAnd2 hg rfl rfl) ?_
    refine LS.step (OpOk.pickOr rfl rfl) ?_
    refine LS.done ?_
    refine PF.next ?_
    refine CF.if rfl (fun hc6 => ?_) (fun hc6 => ?_)
    · exact (touch2 hbm (by omega) hr0 hcl hag hc6).elim
    refine CF.skip ?_
    refine PF.blockNormal ?_
    refine PF.next ?_
    refine CF.region ?_
    refine LF.step (OpOk.move rfl) ?_
    refine LF.step (OpOk.add rfl rfl (by omega)) ?_
    refine LF.step (OpOk.assign rfl) ?_
    refine LF.nil ?_
    exact PF.again (k2 + 1) ⟨by omega, hin, hkp, hb3, hb8, x54, x58, x96⟩ ⟨rfl, rfl, rfl, rfl, rfl, rfl, rfl, rfl, rfl, rfl, eqI (by omega), trivial⟩ (by omega)
  refine CF.exit ?_
  refine PF.thenExit ?_
  refine PF.thenExit ?_
  refine PF.blockHere ?_
  refine PF.next ?_
  refine CF.seq ?_
  refine CF.region ?_
  refine LF.step (OpOk.move rfl) ?_
  refine LF.step (OpOk.move rfl) ?_
  refine LF.gstepK rfl rfl (.t _) (OpOk.move rfl) ?_
  refine LF.gstepK rfl rfl (.t _) (OpOk.move rfl) ?_
  refine LF.gstep rfl rfl (.f _) (fun hg => OpOk.move rfl) ?_
  refine LF.gstep rfl rfl (.f _) (fun hg => OpOk.move rfl) ?_
  refine LF.gcallF rfl rfl (.f _) (fun hg => OpCall.fn Try.ent10 rfl (evl1 (evg rfl hg))) (fun hg => someF_ct hin (p2.up le0)) ?_
  intro v194 H194 z194
  obtain ⟨F194, x194, i194, k194, h194⟩ := gfresh (v := v194) (p := fun G u => (rL (rI .i32)).rv G u (someM mem)) hin z194
  clear z194
  have zk194 := k194.1
  replace hx := hx.trans x194 hkp.1
  replace hkp := hkp.trans (k194.mono hkp.1)
  have l194 := hkp.1
  replace ng3 := x194.no ng3 hb3.lt
  replace hb3 := hb3.kp k194
  replace ng8 := x194.no ng8 hb8.lt
  replace hb8 := hb8.kp k194
  replace x54 := (x54.ext x194).kp k194
  replace x58 := (x58.ext x194).kp k194
  replace x96 := (x96.ext x194).kp k194
  replace le0 := le0.trans x194.1
  replace le1 := le1.trans x194.1
  replace le2 := le2.trans x194.1
  replace le3 := le3.trans x194.1
  replace le4 := le4.trans x194.1
  replace le5 := le5.trans x194.1
  have le6 := x194.1
  have hin := i194
  refine LF.gcall rfl rfl (.f _) (fun hg => OpCall.fn Try.ent20 rfl (evl2 (evg rfl hg) (evg rfl hg))) (fun hg => words_ct hin (hrz9.up le5) (h194 hg)) (fun _ _ h => h) ?_
  refine LF.gstep rfl rfl (.f _) (fun hg => OpOk.move (evg rfl hg)) ?_
  refine LF.gstep rfl rfl (.gt _ _) (fun hg => OpOk.move rfl) ?_
  refine LF.gstep rfl rfl (.gt _ _) (fun hg => OpOk.eql (evg rfl hg) rfl) ?_
  refine LF.gstep rfl rfl (.gt _ _) (fun hg => OpOk.move (evg rfl hg)) ?_
  refine LF.gstep rfl rfl (.gt _ _) (fun hg => OpOk.fieldAddr (Try.fld40_0) rfl) ?_
  refine LF.gstep rfl rfl (.gt _ _) (fun hg => OpOk.ldBx hb8 Try.one3 (evg rfl hg) rfl) ?_
  refine LF.gstep rfl rfl (.gt _ _) (fun hg => OpOk.eql (evg rfl hg) rfl) ?_
  refine LF.gstep rfl rfl (.gt _ _) (fun hg => OpOk.pickAnd2 hg rfl rfl) ?_
  refine LF.gstep rfl rfl (.gt _ _) (fun hg => OpOk.move (evg rfl hg)) ?_
  refine LF.gstep rfl rfl (.gf _ _) (fun hg => OpOk.move rfl) ?_
  refine LF.gstep rfl rfl (.gf _ _) (fun hg => OpOk.eql (evg rfl hg) rfl) ?_
  refine LF.gstep rfl rfl (.gf _ _) (fun hg => OpOk.move (evg rfl hg)) ?_
  refine LF.gstep rfl rfl (.gt _ _) (fun hg => OpOk.fieldAddr (Try.fld40_0) rfl) ?_
  refine LF.gstep rfl rfl (.gt _ _) (fun hg => OpOk.ldBx hb8 Try.one3 (evg rfl hg) rfl) ?_
  refine LF.gstep rfl rfl (.gt _ _) (fun hg => OpOk.geq (evg rfl hg) rfl) ?_
  refine LF.gstep rfl rfl (.gf _ _) (fun hg => OpOk.pickAnd2 hg rfl rfl) ?_
  refine LF.gstep rfl rfl (.gf _ _) (fun hg => OpOk.move (evg rfl hg)) ?_
  refine LF.gstep rfl rfl (.gt _ _) (fun hg => OpOk.fieldAddr (Try.fld40_0) rfl) ?_
  refine LF.gstep rfl rfl (.gt _ _) (fun hg => OpOk.ldBx hb8 Try.one3 (evg rfl hg) rfl) ?_
  refine LF.gstep rfl rfl (.gt _ _) (fun hg => OpOk.leq (evg rfl hg) rfl) ?_
  refine LF.gstep rfl rfl (.gf _ _) (fun hg => OpOk.pickAnd2 hg rfl rfl) ?_
  refine LF.gstep rfl rfl (.gt _ _) (fun hg => OpOk.pickOr2 hg rfl rfl) ?_
  refine LF.gstep rfl rfl (.f _) (fun hg => OpOk.pickAnd2 hg rfl rfl) ?_
  refine LF.gstepK rfl rfl (.t _) (OpOk.pickOr rfl rfl) ?_
  refine LF.step (OpOk.pickAnd rfl rfl) ?_
  refine LF.step (OpOk.assign rfl) ?_
  refine LF.nil ?_
  refine PF.next ?_
  refine CF.ret ?_
  have hm : (fun _ _ _ => true) i regs mem = (((stepM (⟨(fewM i).Op, andI .i64 ((fewM i).D) 15, andI .i64 ((fewM i).E) 15, andI .i64 ((fewM i).A) 15, andI .i64 ((fewM i).B) 15, andI .i64 ((fewM i).C) 15, (fewM i).Imm, (fewM i).Args⟩) (ix regs 0) (someM mem)).1.2) || ((rowsM ((stepM (⟨(fewM i).Op, andI .i64 ((fewM i).D) 15, andI .i64 ((fewM i).E) 15, andI .i64 ((fewM i).A) 15, andI .i64 ((fewM i).B) 15, andI .i64 ((fewM i).C) 15, (fewM i).Imm, (fewM i).Args⟩) (ix regs 0) (someM mem)).2.2) (someM mem)) && (((decide ((stepM (⟨(fewM i).Op, andI .i64 ((fewM i).D) 15, andI .i64 ((fewM i).E) 15, andI .i64 ((fewM i).A) 15, andI .i64 ((fewM i).B) 15, andI .i64 ((fewM i).C) 15, (fewM i).Imm, (fewM i).Args⟩) (ix regs 0) (someM mem)).1.1 = (-1))) && (decide ((fewM i).Op = 17))) || (((decide ((stepM (⟨(fewM i).Op, andI .i64 ((fewM i).D) 15, andI .i64 ((fewM i).E) 15, andI .i64 ((fewM i).A) 15, andI .i64 ((fewM i).B) 15, andI .i64 ((fewM i).C) 15, (fewM i).Imm, (fewM i).Args⟩) (ix regs 0) (someM mem)).1.1 = (-2))) && (decide (24 ≤ (fewM i).Op))) && (decide ((fewM i).Op ≤ 27)))))) := by
    exact (touch_end (⟨(fewM i).Op, andI .i64 ((fewM i).D) 15, andI .i64 ((fewM i).E) 15, andI .i64 ((fewM i).A) 15, andI .i64 ((fewM i).B) 15, andI .i64 ((fewM i).C) 15, (fewM i).Imm, (fewM i).Args⟩) (ix regs 0) (someM mem)).symm
  exact PF.ret1 rfl rfl ⟨by first | (rw [hm] <;> rfl) | exact (congrArg Value.bool hm).symm, hkp⟩

end Go.Proofs.Ytehibklogdngbaa
