/- Words. Conditions: none; plain mathematics. -/
import Derived.Test.YtehibklogdngbaaFb
namespace Go.Proofs.Ytehibklogdngbaa
set_option linter.unusedVariables false
set_option linter.unusedSimpArgs false
set_option linter.unusedSectionVars false
open Go.JE


/- ---------------------------------------------- words -/
def bitM (b : Bool) : Int := if b then 1 else 0
abbrev w32 (n : Int) : Int := IntKind.i32.wrap n
abbrev u32 (n : Int) : Int := IntKind.u32.wrap n
def shlM (a b : Int) : Int := w32 (a * 2 ^ (b % 32).toNat)
def shrM (a b : Int) : Int := w32 ((u32 a).fdiv (2 ^ (b % 32).toNat))
def sarM (a b : Int) : Int := a.fdiv (2 ^ (b % 32).toNat)
def divM (a b : Int) : Int := w32 (a.tdiv b)
def doM (op a b : Int) : Int × Bool :=
  if op = 2 then (w32 (a + b), true)
  else if op = 3 then (w32 (a - b), true)
  else if op = 4 then (w32 (a * b), true)
  else if op = 5 then (andI .i32 a b, true)
  else if op = 6 then (orI .i32 a b, true)
  else if op = 7 then (xorI .i32 a b, true)
  else if op = 8 then (shlM a b, true)
  else if op = 9 then (shrM a b, true)
  else if op = 10 then (sarM a b, true)
  else if op = 11 then (bitM (decide (a = b)), true)
  else if op = 12 then (bitM (decide (a < b)), true)
  else if op = 13 then (bitM (decide (u32 a < u32 b)), true)
  else if op = 14 then (if b = 0 then (0, false) else (divM a b, true))
  else (0, false)
def wideM (a b : Int) : Int × Int := (w32 (a * b), w32 ((a * b).fdiv 4294967296))
def fitsM (n bits : Int) : Bool := if bits < 1 then decide (n = 0) else if 32 < bits then true else decide (-(2 ^ (bits - 1).toNat) ≤ n ∧ n < 2 ^ (bits - 1).toNat)

theorem w32_congr {x y : Int} (h : x % 4294967296 = y % 4294967296) : w32 x = w32 y := by
  simp only [w32, IntKind.wrap_i32]; omega
theorem u32_mod (n : Int) : u32 n = n % 4294967296 := by simp only [u32, IntKind.wrap_u32]
theorem b32 (b : Int) : IntKind.u32.wrap b % 32 = b % 32 := by rw [IntKind.wrap_u32]; omega
theorem and32 (b : Int) : andI .u32 (IntKind.u32.wrap b) 31 = b % 32 := by rw [and31 _ (u32_nn b), b32]
theorem tmod32 (b : Int) : Int.tmod (IntKind.u32.wrap b) 32 = b % 32 := by rw [Int.tmod_eq_emod_of_nonneg (u32_nn b), b32]
theorem min32 (b : Int) : min (b % 32).toNat 32 = (b % 32).toNat := by omega
theorem mul_mod32 (a m : Int) : u32 a * m % 4294967296 = a * m % 4294967296 := by
  rw [u32_mod, Int.mul_emod, Int.emod_emod_of_dvd _ (Int.dvd_refl _), ← Int.mul_emod]
theorem shl_ref (a b : Int) : IntKind.i32.wrap (shlI .u32 (IntKind.u32.wrap a) (andI .u32 (IntKind.u32.wrap b) 31)) = shlM a b := by
  rw [and32]; unfold shlI shlM
  show w32 (u32 (u32 a * 2 ^ (min (b % 32).toNat 32))) = _
  rw [min32]
  apply w32_congr
  rw [u32_mod, Int.emod_emod_of_dvd _ (Int.dvd_refl _), mul_mod32]
theorem shl_prog (a b : Int) : shlI .i32 a (Int.tmod (IntKind.u32.wrap b) 32) = shlM a b := by
  rw [tmod32]; unfold shlI shlM
  show w32 (a * 2 ^ (min (b % 32).toNat 32)) = _
  rw [min32]
theorem shr_ref (a b : Int) : IntKind.i32.wrap (shrI .u32 (IntKind.u32.wrap a) (andI .u32 (IntKind.u32.wrap b) 31)) = shrM a b := by
  rw [and32]; unfold shrI shrM
  show w32 ((u32 a).fdiv (2 ^ (min (b % 32).toNat 32))) = _
  rw [min32]
theorem shr_prog (a b : Int) : IntKind.i32.wrap (shrI .u32 (IntKind.u32.wrap a) (Int.tmod (IntKind.u32.wrap b) 32)) = shrM a b := by
  rw [tmod32]; unfold shrI shrM
  show w32 ((u32 a).fdiv (2 ^ (min (b % 32).toNat 32))) = _
  rw [min32]
theorem sar_ref (a b : Int) : shrI .i32 a (andI .u32 (IntKind.u32.wrap b) 31) = sarM a b := by
  rw [and32]; unfold shrI sarM
  show a.fdiv (2 ^ (min (b % 32).toNat 32)) = _
  rw [min32]
theorem sar_prog (a b : Int) : shrI .i32 a (Int.tmod (IntKind.u32.wrap b) 32) = sarM a b := by
  rw [tmod32]; unfold shrI sarM
  show a.fdiv (2 ^ (min (b % 32).toNat 32)) = _
  rw [min32]
theorem tdiv_rng {a b : Int} (ha : -2147483648 ≤ a ∧ a ≤ 2147483647) : -2147483648 ≤ a.tdiv b ∧ a.tdiv b ≤ 2147483648 := by
  have h := Int.natAbs_tdiv a b
  have h2 : a.natAbs / b.natAbs ≤ a.natAbs := Nat.div_le_self _ _
  have h3 : (a.tdiv b).natAbs = a.natAbs / b.natAbs := h
  omega
theorem div_ref {a : Int} (b : Int) (ha : IntKind.i32.wrap a = a) : IntKind.i32.wrap (IntKind.i64.wrap (Int.tdiv a b)) = divM a b := by
  have h1 := i32_rng ha
  have h3 := tdiv_rng (b := b) h1
  rw [IntWalk.i64_in _ (by omega)]
  rfl
theorem mul_rng {a b : Int} (ha : -2147483648 ≤ a ∧ a ≤ 2147483647) (hb : -2147483648 ≤ b ∧ b ≤ 2147483647) : -4611686018427387904 ≤ a * b ∧ a * b ≤ 4611686018427387904 := by
  have h1 : (a * b).natAbs = a.natAbs * b.natAbs := Int.natAbs_mul a b
  have h2 : a.natAbs * b.natAbs ≤ 2147483648 * 2147483648 := Nat.mul_le_mul (by omega) (by omega)
  omega
theorem fits_prog {n bits : Int} (hn : IntKind.i32.wrap n = n) (h1 : ¬ bits < 1) (h2 : ¬ 32 < bits) : decide (shrI .i32 (shlI .i32 n (32 - bits)) (32 - bits) = n) = fitsM n bits := by
  unfold fitsM
  rw [if_neg h1, if_neg h2]
  have hb : bits = 32 - (32 - bits).toNat := by omega
  have hs : (32 - bits).toNat ≤ 31 := by omega
  have hr := i32_rng hn
  have h5 : (bits - 1).toNat = 31 - (32 - bits).toNat := by omega
  rw [h5]
  generalize hk : (32 - bits).toNat = k at hs ⊢
  have h6 : 32 - bits = (k : Int) := by omega
  rw [h6]
  have hmin : min k 32 = k := by omega
  have e1 : shrI .i32 (shlI .i32 n k) k = (IntKind.i32.wrap (n * 2 ^ k)).fdiv (2 ^ k) := by
    show (IntKind.i32.wrap (n * 2 ^ (min k 32))).fdiv (2 ^ (min k 32)) = _
    rw [hmin]
  simp only [e1, IntKind.wrap_i32]
  clear h6 h5 hb h1 h2 hk hmin e1
  have hk : k = 0 ∨ k = 1 ∨ k = 2 ∨ k = 3 ∨ k = 4 ∨ k = 5 ∨ k = 6 ∨ k = 7 ∨ k = 8 ∨ k = 9 ∨ k = 10 ∨ k = 11 ∨ k = 12 ∨ k = 13 ∨ k = 14 ∨ k = 15 ∨ k = 16 ∨ k = 17 ∨ k = 18 ∨ k = 19 ∨ k = 20 ∨ k = 21 ∨ k = 22 ∨ k = 23 ∨ k = 24 ∨ k = 25 ∨ k = 26 ∨ k = 27 ∨ k = 28 ∨ k = 29 ∨ k = 30 ∨ k = 31 := by omega
  rcases hk with rfl | rfl | rfl | rfl | rfl | rfl | rfl | rfl | rfl | rfl | rfl | rfl | rfl | rfl | rfl | rfl | rfl | rfl | rfl | rfl | rfl | rfl | rfl | rfl | rfl | rfl | rfl | rfl | rfl | rfl | rfl | rfl <;>
    (rw [Int.fdiv_eq_ediv_of_nonneg _ (by decide), decide_eq_decide]; simp only [Int.reducePow, Nat.reduceSub]; omega)
theorem fits_ref {n bits : Int} (hn : IntKind.i32.wrap n = n) (h1 : ¬ bits < 1) (h2 : ¬ 32 < bits) :
    (decide (IntKind.i64.wrap (0 - shlI .i64 1 (bits - 1)) ≤ n) && decide (n < shlI .i64 1 (bits - 1))) = fitsM n bits := by
  have hr := i32_rng hn
  unfold fitsM
  rw [if_neg h1, if_neg h2]
  unfold shlI
  have hs : (bits - 1).toNat ≤ 31 := by omega
  generalize (bits - 1).toNat = k at hs ⊢
  have hmin : min k IntKind.i64.bits = k := by show min k 64 = k; omega
  rw [hmin]
  have hpn : 2 ^ k ≤ 2 ^ 31 := Nat.pow_le_pow_right (by decide) hs
  have hp : (2 : Int) ^ k ≤ 2 ^ 31 := by exact_mod_cast hpn
  have hp0 : (0 : Int) < 2 ^ k := Int.pow_pos (by decide)
  have h31 : (2 : Int) ^ 31 = 2147483648 := by decide
  rw [Int.one_mul, IntWalk.i64_in (2 ^ k) (by omega), IntWalk.i64_in (0 - 2 ^ k) (by omega)]
  rw [Bool.eq_iff_iff]
  simp only [Bool.and_eq_true, decide_eq_true_eq]
  omega

end Go.Proofs.Ytehibklogdngbaa
