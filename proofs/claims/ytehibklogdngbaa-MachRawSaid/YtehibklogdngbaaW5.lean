/- Walks. Conditions: each contract names its own. -/
import Derived.Test.YtehibklogdngbaaW4
namespace Go.Proofs.Ytehibklogdngbaa
set_option linter.unusedVariables false
set_option linter.unusedSimpArgs false
set_option linter.unusedSectionVars false
open Go.JE

theorem Try.ent40 : Ent Try.prog 40 := ⟨_, Try.func40, by kernel_rfl, by kernel_rfl⟩
theorem Try.sz21 : Sz Try.prog 21 1 := by unfold Sz; kernel_rfl
/- ---------------------------------------------- registers and memory -/
def getM (regs : List Int) (r : Int) : Int := if r < 0 ∨ regs.length ≤ r then 0 else ix regs r.toNat
def setM (regs : List Int) (r v : Int) : List Int := if 0 ≤ r ∧ r < regs.length then regs.set r.toNat v else regs
def loadM (mem : List Int) (at' : Int) : Int × Bool := if at' < 0 ∨ mem.length ≤ at' then (0, false) else (ix mem at'.toNat, true)
def storeM (mem : List Int) (at' v : Int) : List Int := if at' < 0 ∨ mem.length ≤ at' then mem else mem.set at'.toNat v
theorem loadM_ok {mem : List Int} {a : Int} (h : (loadM mem a).2 = true) : 0 ≤ a ∧ a < mem.length := by
  unfold loadM at h; split at h
  · cases h
  · omega
theorem loadM_no {mem : List Int} {a : Int} (h : (loadM mem a).2 = false) : a < 0 ∨ mem.length ≤ a := by
  unfold loadM at h; split at h
  · assumption
  · cases h
def storeOk (mem : List Int) (at' _x : Int) : Bool := (loadM mem at').2
def memM (i : D.Input) : List Int := i.Mem.take 4096
def goesM (e : D.End) (regs : List Int) : Int :=
  if e.Op = 1 then 0
  else if e.Op = 2 then (if getM regs e.A ≠ 0 then 0 else 1)
  else if e.Op = 3 then (if getM regs e.A = getM regs e.B then 0 else 1)
  else if e.Op = 4 then (if getM regs e.A < getM regs e.B then 0 else 1)
  else if e.Op = 5 then (if u32 (getM regs e.A) < u32 (getM regs e.B) then 0 else 1)
  else if e.Op = 6 then (if u32 (getM regs e.A) < e.To.length - 1 then u32 (getM regs e.A) else e.To.length - 1)
  else -1
def immOp (op : Int) : Int := ix [2, 5, 8, 9, 10] (op - 18).toNat
/-- what an instruction does: its trap, and whether there is none; registers; memory -/
def stepM (i : D.Mach) (regs mem : List Int) : (Int × Bool) × List Int × List Int :=
  if i.Op = 1 then ((0, true), setM regs i.D (getM regs i.A), mem)
  else if i.Op = 2 then ((0, true), setM (setM regs i.A (getM regs i.B)) i.B (getM regs i.A), mem)
  else if i.Op = 3 ∨ i.Op = 4 then ((0, true), setM regs i.D i.Imm, mem)
  else if 5 ≤ i.Op ∧ i.Op ≤ 17 then
    if (doM (i.Op - 5 + 2) (getM regs i.A) (getM regs i.B)).2 = true then ((0, true), setM regs i.D (doM (i.Op - 5 + 2) (getM regs i.A) (getM regs i.B)).1, mem) else ((-1, false), regs, mem)
  else if 18 ≤ i.Op ∧ i.Op ≤ 22 then ((0, true), setM regs i.D (doM (immOp i.Op) (getM regs i.A) i.Imm).1, mem)
  else if i.Op = 23 then ((0, true), setM regs i.D (w32 (w32 (getM regs i.A * getM regs i.B) + getM regs i.C)), mem)
  else if i.Op = 24 then
    if (loadM mem (w32 (getM regs i.A + i.Imm))).2 = true then ((0, true), setM regs i.D (loadM mem (w32 (getM regs i.A + i.Imm))).1, mem) else ((-2, false), regs, mem)
  else if i.Op = 25 then
    if (loadM mem (w32 (getM regs i.A + getM regs i.B))).2 = true then ((0, true), setM regs i.D (loadM mem (w32 (getM regs i.A + getM regs i.B))).1, mem) else ((-2, false), regs, mem)
  else if i.Op = 26 then
    ((if storeOk mem (w32 (getM regs i.A + i.Imm)) (getM regs i.B) = true then (0, true) else (-2, false)), regs, storeM mem (w32 (getM regs i.A + i.Imm)) (getM regs i.B))
  else if i.Op = 27 then
    ((if storeOk mem (w32 (getM regs i.A + getM regs i.B)) (getM regs i.C) = true then (0, true) else (-2, false)), regs, storeM mem (w32 (getM regs i.A + getM regs i.B)) (getM regs i.C))
  else if i.Op = 29 then ((0, true), setM (setM regs i.D (wideM (getM regs i.A) (getM regs i.B)).1) i.E (wideM (getM regs i.A) (getM regs i.B)).2, mem)
  else ((0, true), regs, mem)
theorem wide_ref {a b : Int} (ha : IntKind.i32.wrap a = a) (hb : IntKind.i32.wrap b = b) :
    wideM a b = (IntKind.i32.wrap (IntKind.u32.wrap (IntKind.u64.wrap (a * b))), IntKind.i32.wrap (IntKind.u32.wrap (shrI .u64 (IntKind.u64.wrap (a * b)) 32))) := by
  have h1 := i32_rng ha
  have h2 := i32_rng hb
  have h3 := mul_rng h1 h2
  unfold wideM shrI
  generalize a * b = x at h3 ⊢
  have e1 : (2 : Int) ^ (min (32 : Int).toNat IntKind.u64.bits) = 4294967296 := by decide
  rw [e1, Int.fdiv_eq_ediv_of_nonneg _ (by decide), Int.fdiv_eq_ediv_of_nonneg _ (by decide)]
  simp only [w32, IntKind.wrap_i32, IntKind.wrap_u32, IntKind.wrap_u64, Prod.mk.injEq]
  omega
theorem wide_prog {a b : Int} (ha : IntKind.i32.wrap a = a) (hb : IntKind.i32.wrap b = b) :
    wideM a b = (IntKind.i32.wrap (a * b), IntKind.i32.wrap (shrI .i64 (a * b) 32)) := by
  have h1 := i32_rng ha
  have h2 := i32_rng hb
  have h3 := mul_rng h1 h2
  unfold wideM shrI
  have e1 : (2 : Int) ^ (min (32 : Int).toNat IntKind.i64.bits) = 4294967296 := by decide
  rw [e1]
def setAllM : List Int → List Int → Int → List Int
  | rs, [], _ => rs
  | rs, r :: l, v => setAllM (setM rs r v) l v
theorem setM_len (rs : List Int) (r v : Int) : (setM rs r v).length = rs.length := by unfold setM; split <;> simp
theorem storeM_len (rs : List Int) (r v : Int) : (storeM rs r v).length = rs.length := by unfold storeM; split <;> simp
theorem take_min {α : Type} (l : List α) (n : Nat) (m : Int) (h : m = n) : l.take n = l.take (Int.toNat (min (↑l.length) m)) := by
  subst h
  rcases Nat.le_total l.length n with h | h
  · rw [List.take_of_length_le h, List.take_of_length_le (by omega)]
  · congr 1; omega
def rowsM (a b : List Int) : Bool := decide (a = b)
theorem rowsM_len {a b : List Int} (h : ¬ a.length = b.length) : rowsM a b = false := by simp only [rowsM, decide_eq_false_iff_not]; rintro rfl; exact h rfl
theorem rowsM_at {a b : List Int} {k : Nat} (h1 : k < a.length) (h2 : a.length = b.length) (h : ¬ ix a k = ix b k) : rowsM a b = false := by simp only [rowsM, decide_eq_false_iff_not]; rintro rfl; exact h rfl
theorem rowsM_yes {a b : List Int} {k : Nat} (h1 : a.length ≤ k) (h2 : a.length = b.length) (h : a.take k = b.take k) : rowsM a b = true := by
  rw [List.take_of_length_le h1, List.take_of_length_le (by omega)] at h
  simp only [rowsM, h, decide_true]
theorem getM_wrG {E B : Nat} {F : PH} {H : Heap} {v : Value} {l : List Int} (h : Gl (rI .i32) E F H B v l) (r : Int) : IntKind.i32.wrap (getM l r) = getM l r := by
  unfold getM; split
  · decide
  · exact h.wr (by omega)
theorem loadM_wrG {E B : Nat} {F : PH} {H : Heap} {v : Value} {l : List Int} (h : Gl (rI .i32) E F H B v l) (r : Int) : IntKind.i32.wrap (loadM l r).1 = (loadM l r).1 := by
  unfold loadM; split
  · decide
  · exact h.wr (by omega)
theorem sar_wr {a : Int} (b : Int) (ha : IntKind.i32.wrap a = a) : IntKind.i32.wrap (sarM a b) = sarM a b := by
  have h1 := i32_rng ha
  unfold sarM
  have h2 : (0 : Int) < 2 ^ (b % 32).toNat := Int.pow_pos (by decide)
  rw [Int.fdiv_eq_ediv_of_nonneg _ (by omega)]
  refine IntWalk.i32_in _ ⟨?_, ?_⟩
  · rw [Int.le_ediv_iff_mul_le h2]
    have : (-2147483648 : Int) * 2 ^ (b % 32).toNat ≤ -2147483648 * 1 := by
      have := Int.mul_le_mul_of_nonneg_left (show (1 : Int) ≤ 2 ^ (b % 32).toNat by omega) (show (0 : Int) ≤ 2147483648 by decide)
      omega
    omega
  · have := Int.ediv_le_self (b := 2 ^ (b % 32).toNat) (a := a)
    by_cases h : 0 ≤ a
    · have := this h; omega
    · have := Int.ediv_neg_of_neg_of_pos (a := a) (b := 2 ^ (b % 32).toNat) (by omega) h2
      omega
theorem bit_wr (b : Bool) : IntKind.i32.wrap (bitM b) = bitM b := by cases b <;> decide
theorem doM_wr (op : Int) {a : Int} (b : Int) (ha : IntKind.i32.wrap a = a) : IntKind.i32.wrap (doM op a b).1 = (doM op a b).1 := by
  by_cases h : 2 ≤ op ∧ op ≤ 14
  · have hc : op = 2 ∨ op = 3 ∨ op = 4 ∨ op = 5 ∨ op = 6 ∨ op = 7 ∨ op = 8 ∨ op = 9 ∨ op = 10 ∨ op = 11 ∨ op = 12 ∨ op = 13 ∨ op = 14 := by omega
    rcases hc with rfl | rfl | rfl | rfl | rfl | rfl | rfl | rfl | rfl | rfl | rfl | rfl | rfl
    · exact wrap_wrap _ _
    · exact wrap_wrap _ _
    · exact wrap_wrap _ _
    · exact wrap_wrap _ _
    · exact wrap_wrap _ _
    · exact wrap_wrap _ _
    · exact wrap_wrap _ _
    · exact wrap_wrap _ _
    · exact sar_wr b ha
    · exact bit_wr _
    · exact bit_wr _
    · exact bit_wr _
    · have e1 : doM 14 a b = if b = 0 then (0, false) else (divM a b, true) := rfl
      rw [e1]; split
      · decide
      · exact wrap_wrap _ _
  · have e1 : doM op a b = (0, false) := by unfold doM; repeat rw [if_neg (by omega)]
    rw [e1]; decide

-- jacquard/jacquardref01.Wide: function 70
theorem rWide_ct {F : PH} {H : Heap} (hin : InH F H) (a : Int) (b : Int) (ww0 : IntKind.i32.wrap a = a) (ww1 : IntKind.i32.wrap b = b) :
    Ct Try.prog 70 #[.int .i32 a, .int .i32 b] H (fun v H' => v = .tuple #[.int .i32 ((wideM a b).1), .int .i32 ((wideM a b).2)] ∧ H' = H) := by
  have hkp := Kp.refl H.size H
  have hx := PH.ext.refl (H := H) F
  have b0 := i32_rng ww0
  have b1 := i32_rng ww1
  have b2 := mul_rng b0 b1
  have c0 := IntWalk.i64_in a (by omega)
  have c1 := IntWalk.i64_in b (by omega)
  refine Ct.enter (args := [.int .i32 a, .int .i32 b]) Try.func70 rfl rfl rfl (fun w0 hw0 => ?_)
  refine CF.seq (CF.region (LF.step (OpOk.assign rfl) (LF.step (OpOk.assign rfl) (LF.nil (PF.next (CF.seq (CF.region (LF.step (OpOk.move rfl) ?_))))))))
  refine LF.step (OpOk.convI Try.underlying21 Try.underlying2 rfl (up_i32_i64 ww0)) ?_
  refine LF.step (OpOk.move rfl) ?_
  refine LF.step (OpOk.convI Try.underlying21 Try.underlying2 rfl (up_i32_i64 ww1)) ?_
  refine LF.step (OpOk.mul rfl rfl (by omega)) ?_
  refine LF.step (OpOk.assign rfl) (LF.nil (PF.next (CF.seq (CF.region (LF.step (OpOk.move rfl) ?_)))))
  refine LF.step (OpOk.convI Try.underlying2 Try.underlying122 rfl rfl) ?_
  refine LF.step (OpOk.convI Try.underlying122 Try.underlying66 rfl rfl) ?_
  refine LF.step (OpOk.convI Try.underlying66 Try.underlying21 rfl rfl) ?_
  refine LF.step (OpOk.move rfl) ?_
  refine LF.step (OpOk.convI Try.underlying2 Try.underlying122 rfl rfl) ?_
  refine LF.step (OpOk.shrw rfl rfl (by decide)) ?_
  refine LF.step (OpOk.convI Try.underlying122 Try.underlying66 rfl rfl) ?_
  refine LF.step (OpOk.convI Try.underlying66 Try.underlying21 rfl rfl) ?_
  refine LF.step (OpOk.assign rfl) (LF.step (OpOk.assign rfl) (LF.nil (PF.next (CF.ret ?_))))
  have hm : wideM a b = (IntKind.i32.wrap (IntKind.u32.wrap (IntKind.u64.wrap (a * b))), IntKind.i32.wrap (IntKind.u32.wrap (shrI .u64 (IntKind.u64.wrap (a * b)) 32))) := by
    exact wide_ref ww0 ww1
  exact PF.ret2 rfl rfl rfl ⟨by rw [hm] <;> rfl, rfl⟩

-- jacquard/word.Wide: function 22
theorem wWide_ct {F : PH} {H : Heap} (hin : InH F H) (a : Int) (b : Int) (ww0 : IntKind.i32.wrap a = a) (ww1 : IntKind.i32.wrap b = b) :
    Ct Try.prog 22 #[.int .i32 a, .int .i32 b] H (fun v H' => v = .tuple #[.int .i32 ((wideM a b).1), .int .i32 ((wideM a b).2)] ∧ H' = H) := by
  have hkp := Kp.refl H.size H
  have hx := PH.ext.refl (H := H) F
  have b0 := i32_rng ww0
  have b1 := i32_rng ww1
  have b2 := mul_rng b0 b1
  have c0 := IntWalk.i64_in a (by omega)
  have c1 := IntWalk.i64_in b (by omega)
  refine Ct.enter (args := [.int .i32 a, .int .i32 b]) Try.func22 rfl rfl rfl (fun w0 hw0 => ?_)
  refine CF.seq (CF.region (LF.step (OpOk.assign rfl) (LF.step (OpOk.assign rfl) (LF.nil (PF.next (CF.seq (CF.region (LF.step (OpOk.move rfl) ?_))))))))
  refine LF.step (OpOk.convI Try.underlying21 Try.underlying2 rfl (up_i32_i64 ww0)) ?_
  refine LF.step (OpOk.move rfl) ?_
  refine LF.step (OpOk.convI Try.underlying21 Try.underlying2 rfl (up_i32_i64 ww1)) ?_
  refine LF.step (OpOk.mul rfl rfl (by omega)) ?_
  refine LF.step (OpOk.assign rfl) (LF.nil (PF.next (CF.seq (CF.region (LF.step (OpOk.move rfl) ?_)))))
  refine LF.step (OpOk.convI Try.underlying2 Try.underlying21 rfl rfl) ?_
  refine LF.step (OpOk.move rfl) ?_
  refine LF.step (OpOk.shrw rfl rfl (by decide)) ?_
  refine LF.step (OpOk.convI Try.underlying2 Try.underlying21 rfl rfl) ?_
  refine LF.step (OpOk.assign rfl) (LF.step (OpOk.assign rfl) (LF.nil (PF.next (CF.ret ?_))))
  have hm : wideM a b = (IntKind.i32.wrap (a * b), IntKind.i32.wrap (shrI .i64 (a * b) 32)) := by
    exact wide_prog ww0 ww1
  exact PF.ret2 rfl rfl rfl ⟨by rw [hm] <;> rfl, rfl⟩

-- jacquard/mach.get: function 29
theorem pGet_ct {F : PH} {H : Heap} (hin : InH F H) {a0 : Value} {regs : List Int} (p0 : (rL (rI .i32)).rv F a0 regs) (r : Int) :
    Ct Try.prog 29 #[a0, .int .i64 r] H (fun v H' => v = .int .i32 (getM regs r) ∧ H' = H) := by
  have q0 := rL.len2 p0
  have hkp := Kp.refl H.size H
  have hx := PH.ext.refl (H := H) F
  refine Ct.enter (args := [a0, .int .i64 r]) Try.func29 rfl rfl rfl (fun w0 hw0 => ?_)
  refine CF.seq (CF.region (LF.step (OpOk.assign rfl) (LF.nil (PF.next (CF.seq (CF.seq (CF.region (LF.step (OpOk.move rfl) ?_))))))))
  refine LF.step (OpOk.lss rfl rfl) ?_
  refine LF.step (OpOk.move rfl) ?_
  refine LF.gstep rfl rfl (.f _) (fun hg => OpOk.move rfl) ?_
  refine LF.gstep rfl rfl (.f _) (fun hg => OpOk.move rfl) ?_
  refine LF.gstep rfl rfl (.f _) (fun hg => OpOk.lenL Try.underlying25 p0 (evg rfl hg)) ?_
  refine LF.gstep rfl rfl (.f _) (fun hg => OpOk.geq (evg rfl hg) (evg rfl hg)) ?_
  refine LF.step (OpOk.pickOr rfl rfl) ?_
  refine LF.nil (PF.next ?_)
  refine CF.if rfl (fun hc1 => ?_) (fun hc1 => ?_)
  refine CF.seq (CF.region (LF.step (OpOk.assign rfl) (LF.nil (PF.next (CF.ret (PF.thenRet ?_))))))
  have hm : getM regs r = 0 := by
    first | (simp [getM, hc1]; done) | (unfold getM; (repeat' split) <;> first | rfl | (exfalso; omega) | (simp [getM, hc1]; done))
  exact PF.ret1 rfl rfl ⟨by rw [hm] <;> rfl, rfl⟩
  refine CF.skip (PF.next (CF.seq (CF.region (LF.step (OpOk.move rfl) (LF.step (OpOk.move rfl) ?_)))))
  refine LF.step (OpOk.idxL (i := (Int.toNat r)) Try.underlying25 Try.sz21 p0 rfl rfl (by omega) (by omega)) ?_
  refine LF.step (OpOk.ldI hin (rL.ix p0 (Int.toNat r) (by omega)) Try.one21 rfl) ?_
  refine LF.step (OpOk.assign rfl) (LF.nil (PF.next (CF.ret ?_)))
  have hm : getM regs r = (ix regs (Int.toNat r)) := by
    first | (simp [getM, hc1]; done) | (unfold getM; (repeat' split) <;> first | rfl | (exfalso; omega) | (simp [getM, hc1]; done))
  exact PF.ret1 rfl rfl ⟨by rw [hm] <;> rfl, rfl⟩

-- jacquard/jacquardref07.get: function 36
theorem rGet_ct {F : PH} {H : Heap} (hin : InH F H) {a0 : Value} {regs : List Int} (p0 : (rL (rI .i32)).rv F a0 regs) (r : Int) :
    Ct Try.prog 36 #[a0, .int .i64 r] H (fun v H' => v = .int .i32 (getM regs r) ∧ H' = H) := by
  have q0 := rL.len2 p0
  have hkp := Kp.refl H.size H
  have hx := PH.ext.refl (H := H) F
  refine Ct.enter (args := [a0, .int .i64 r]) Try.func36 rfl rfl rfl (fun w0 hw0 => ?_)
  refine CF.seq (CF.region (LF.step (OpOk.assign rfl) (LF.nil (PF.next (CF.seq (CF.seq (CF.region (LF.step (OpOk.move rfl) ?_))))))))
  refine LF.step (OpOk.lss rfl rfl) ?_
  refine LF.step (OpOk.move rfl) ?_
  refine LF.gstep rfl rfl (.f _) (fun hg => OpOk.move rfl) ?_
  refine LF.gstep rfl rfl (.f _) (fun hg => OpOk.move rfl) ?_
  refine LF.gstep rfl rfl (.f _) (fun hg => OpOk.lenL Try.underlying25 p0 (evg rfl hg)) ?_
  refine LF.gstep rfl rfl (.f _) (fun hg => OpOk.geq (evg rfl hg) (evg rfl hg)) ?_
  refine LF.step (OpOk.pickOr rfl rfl) ?_
  refine LF.nil (PF.next ?_)
  refine CF.if rfl (fun hc1 => ?_) (fun hc1 => ?_)
  refine CF.seq (CF.region (LF.step (OpOk.assign rfl) (LF.nil (PF.next (CF.ret (PF.thenRet ?_))))))
  have hm : getM regs r = 0 := by
    first | (simp [getM, hc1]; done) | (unfold getM; (repeat' split) <;> first | rfl | (exfalso; omega) | (simp [getM, hc1]; done))
  exact PF.ret1 rfl rfl ⟨by rw [hm] <;> rfl, rfl⟩
  refine CF.skip (PF.next (CF.seq (CF.region (LF.step (OpOk.move rfl) (LF.step (OpOk.move rfl) ?_)))))
  refine LF.step (OpOk.idxL (i := (Int.toNat r)) Try.underlying25 Try.sz21 p0 rfl rfl (by omega) (by omega)) ?_
  refine LF.step (OpOk.ldI hin (rL.ix p0 (Int.toNat r) (by omega)) Try.one21 rfl) ?_
  refine LF.step (OpOk.assign rfl) (LF.nil (PF.next (CF.ret ?_)))
  have hm : getM regs r = (ix regs (Int.toNat r)) := by
    first | (simp [getM, hc1]; done) | (unfold getM; (repeat' split) <;> first | rfl | (exfalso; omega) | (simp [getM, hc1]; done))
  exact PF.ret1 rfl rfl ⟨by rw [hm] <;> rfl, rfl⟩

-- jacquard/interp.Load: function 40
theorem pLoad_ct {F : PH} {H : Heap} (hin : InH F H) {a0 : Value} {mem : List Int} (p0 : (rL (rI .i32)).rv F a0 mem) (at' : Int) (ww1 : IntKind.i32.wrap at' = at') :
    Ct Try.prog 40 #[a0, .int .i32 at'] H (fun v H' => v = .tuple #[.int .i32 ((loadM mem at').1), .bool ((loadM mem at').2)] ∧ H' = H) := by
  have q0 := rL.len2 p0
  have hkp := Kp.refl H.size H
  have hx := PH.ext.refl (H := H) F
  refine Ct.enter (args := [a0, .int .i32 (at')]) Try.func40 rfl rfl rfl (fun w0 hw0 => ?_)
  refine CF.seq (CF.region (LF.step (OpOk.assign rfl) (LF.step (OpOk.assign rfl) (LF.nil (PF.next (CF.seq (CF.seq (CF.region (LF.step (OpOk.move rfl) ?_)))))))))
  refine LF.step (OpOk.lss rfl rfl) ?_
  refine LF.step (OpOk.move rfl) ?_
  refine LF.gstep rfl rfl (.f _) (fun hg => OpOk.move rfl) ?_
  refine LF.gstep rfl rfl (.f _) (fun hg => OpOk.convI Try.underlying21 Try.underlying3 (evg rfl hg) (up_i32_i64 ww1)) ?_
  refine LF.gstep rfl rfl (.f _) (fun hg => OpOk.move rfl) ?_
  refine LF.gstep rfl rfl (.f _) (fun hg => OpOk.lenL Try.underlying25 p0 (evg rfl hg)) ?_
  refine LF.gstep rfl rfl (.f _) (fun hg => OpOk.geq (evg rfl hg) (evg rfl hg)) ?_
  refine LF.step (OpOk.pickOr rfl rfl) ?_
  refine LF.nil (PF.next ?_)
  refine CF.if rfl (fun hc1 => ?_) (fun hc1 => ?_)
  refine CF.seq (CF.region (LF.step (OpOk.assign rfl) (LF.step (OpOk.assign rfl) (LF.nil (PF.next (CF.ret (PF.thenRet ?_)))))))
  have hm : loadM mem at' = (0, false) := by
    first | (simp [loadM, hc1]; done) | (unfold loadM; (repeat' split) <;> first | rfl | (exfalso; omega) | (simp [loadM, hc1]; done))
  exact PF.ret2 rfl rfl rfl ⟨by rw [hm] <;> rfl, rfl⟩
  refine CF.skip (PF.next (CF.seq (CF.region (LF.step (OpOk.move rfl) (LF.step (OpOk.move rfl) ?_)))))
  refine LF.step (OpOk.idxL (i := (Int.toNat (at'))) Try.underlying25 Try.sz21 p0 rfl rfl (by omega) (by omega)) ?_
  refine LF.step (OpOk.ldI hin (rL.ix p0 (Int.toNat (at')) (by omega)) Try.one21 rfl) ?_
  refine LF.step (OpOk.assign rfl) (LF.step (OpOk.assign rfl) (LF.nil (PF.next (CF.ret ?_))))
  have hm : loadM mem at' = (ix mem (Int.toNat (at')), true) := by
    first | (simp [loadM, hc1]; done) | (unfold loadM; (repeat' split) <;> first | rfl | (exfalso; omega) | (simp [loadM, hc1]; done))
  exact PF.ret2 rfl rfl rfl ⟨by rw [hm] <;> rfl, rfl⟩

-- jacquard/jacquardref04.Load: function 68
theorem rLoad_ct {F : PH} {H : Heap} (hin : InH F H) {a0 : Value} {mem : List Int} (p0 : (rL (rI .i32)).rv F a0 mem) (at' : Int) (ww1 : IntKind.i32.wrap at' = at') :
    Ct Try.prog 68 #[a0, .int .i32 at'] H (fun v H' => v = .tuple #[.int .i32 ((loadM mem at').1), .bool ((loadM mem at').2)] ∧ H' = H) := by
  have q0 := rL.len2 p0
  have hkp := Kp.refl H.size H
  have hx := PH.ext.refl (H := H) F
  refine Ct.enter (args := [a0, .int .i32 (at')]) Try.func68 rfl rfl rfl (fun w0 hw0 => ?_)
  refine CF.seq (CF.region (LF.step (OpOk.assign rfl) (LF.step (OpOk.assign rfl) (LF.nil (PF.next (CF.seq (CF.seq (CF.region (LF.step (OpOk.move rfl) ?_)))))))))
  refine LF.step (OpOk.lss rfl rfl) ?_
  refine LF.step (OpOk.move rfl) ?_
  refine LF.gstep rfl rfl (.f _) (fun hg => OpOk.move rfl) ?_
  refine LF.gstep rfl rfl (.f _) (fun hg => OpOk.convI Try.underlying21 Try.underlying3 (evg rfl hg) (up_i32_i64 ww1)) ?_
  refine LF.gstep rfl rfl (.f _) (fun hg => OpOk.move rfl) ?_
  refine LF.gstep rfl rfl (.f _) (fun hg => OpOk.lenL Try.underlying25 p0 (evg rfl hg)) ?_
  refine LF.gstep rfl rfl (.f _) (fun hg => OpOk.geq (evg rfl hg) (evg rfl hg)) ?_
  refine LF.step (OpOk.pickOr rfl rfl) ?_
  refine LF.nil (PF.next ?_)
  refine CF.if rfl (fun hc1 => ?_) (fun hc1 => ?_)
  refine CF.seq (CF.region (LF.step (OpOk.assign rfl) (LF.step (OpOk.assign rfl) (LF.nil (PF.next (CF.ret (PF.thenRet ?_)))))))
  have hm : loadM mem at' = (0, false) := by
    first | (simp [loadM, hc1]; done) | (unfold loadM; (repeat' split) <;> first | rfl | (exfalso; omega) | (simp [loadM, hc1]; done))
  exact PF.ret2 rfl rfl rfl ⟨by rw [hm] <;> rfl, rfl⟩
  refine CF.skip (PF.next (CF.seq (CF.region (LF.step (OpOk.move rfl) (LF.step (OpOk.move rfl) ?_)))))
  refine LF.step (OpOk.idxL (i := (Int.toNat (at'))) Try.underlying25 Try.sz21 p0 rfl rfl (by omega) (by omega)) ?_
  refine LF.step (OpOk.ldI hin (rL.ix p0 (Int.toNat (at')) (by omega)) Try.one21 rfl) ?_
  refine LF.step (OpOk.assign rfl) (LF.step (OpOk.assign rfl) (LF.nil (PF.next (CF.ret ?_))))
  have hm : loadM mem at' = (ix mem (Int.toNat (at')), true) := by
    first | (simp [loadM, hc1]; done) | (unfold loadM; (repeat' split) <;> first | rfl | (exfalso; omega) | (simp [loadM, hc1]; done))
  exact PF.ret2 rfl rfl rfl ⟨by rw [hm] <;> rfl, rfl⟩

-- jacquard/jacquardref04.Store: function 69
theorem rStore_ct {F : PH} {H : Heap} (hin : InH F H) {a0 : Value} {mem : List Int} {B0 : Nat} (p0 : Gl (rI .i32) 21 F H B0 a0 mem) (at' : Int) (x : Int) (hl : mem.length < 1073741824) (ww1 : IntKind.i32.wrap at' = at') (ww2 : IntKind.i32.wrap x = x) :
    Ct Try.prog 69 #[a0, .int .i32 at', .int .i32 x] H (fun v H' => v = .bool (storeOk mem at' x) ∧ Kw (own1 a0) H H' ∧ Gl (rI .i32) 21 F H' B0 a0 (storeM mem (at') x)) := by
  have hkp := Kw.refl (own1 a0) H
  have hx := PH.ext.refl (H := H) F
  refine Ct.enter (args := [a0, .int .i32 (at'), .int .i32 x]) Try.func69 rfl rfl rfl (fun w0 hw0 => ?_)
  refine CF.seq (CF.region (LF.step (OpOk.assign rfl) (LF.nil (PF.next (CF.seq (CF.seq (CF.region (LF.step (OpOk.move rfl) ?_))))))))
  refine LF.step (OpOk.lss rfl rfl) ?_
  refine LF.step (OpOk.move rfl) ?_
  refine LF.gstep rfl rfl (.f _) (fun hg => OpOk.move rfl) ?_
  refine LF.gstep rfl rfl (.f _) (fun hg => OpOk.convI Try.underlying21 Try.underlying3 (evg rfl hg) (up_i32_i64 ww1)) ?_
  refine LF.gstep rfl rfl (.f _) (fun hg => OpOk.move rfl) ?_
  refine LF.gstep rfl rfl (.f _) (fun hg => OpOk.lenG Try.underlying25 p0 (evg rfl hg)) ?_
  refine LF.gstep rfl rfl (.f _) (fun hg => OpOk.geq (evg rfl hg) (evg rfl hg)) ?_
  refine LF.step (OpOk.pickOr rfl rfl) ?_
  refine LF.nil (PF.next ?_)
  refine CF.if rfl (fun hc1 => ?_) (fun hc1 => ?_)
  refine CF.seq (CF.region (LF.step (OpOk.assign rfl) (LF.nil (PF.next (CF.ret (PF.thenRet ?_))))))
  have hm : storeOk mem at' x = false := by
    first | (simp [storeOk, loadM, *]; done) | (unfold storeOk loadM; rw [if_neg (by omega)])
  have hm0 : storeM mem (at') x = mem := by
    first | (simp [storeM, *]; done) | (unfold storeM; rw [if_neg (by omega)])
  exact PF.ret1 rfl rfl ⟨by rw [hm], hkp, by rw [hm0]; exact p0⟩
  refine CF.skip (PF.next (CF.seq (CF.region (LF.step (OpOk.move rfl) (LF.step (OpOk.move rfl) (LF.step (OpOk.move rfl) ?_))))))
  refine LF.step (OpOk.idxG (i := (Int.toNat (at'))) Try.underlying25 Try.sz21 p0 rfl rfl (by omega) (by first | omega | (simp only [List.length_replicate, List.length_set, List.length_append, List.length_cons, List.length_nil]; omega))) ?_
  refine LF.chg0 (OpCh.storeG p0 rfl Try.sz21 rfl rfl rfl (by first | omega | (simp only [List.length_replicate, List.length_set, List.length_append, List.length_cons, List.length_nil]; omega)) ⟨rfl, ww2⟩) ?_
  rintro _ Hw1 ⟨gw1, qw1, tw1, xw1⟩
  have ztw1 := tw1.1
  replace hin := hin.tw tw1 (p0.no _ qw1)
  replace hkp := hkp.tw tw1 (.inr qw1)
  replace p0 := xw1
  refine LF.nil (PF.next (CF.seq (CF.region (LF.step (OpOk.assign rfl) (LF.nil (PF.next (CF.ret ?_)))))))
  have hm : storeOk mem at' x = true := by
    first | (simp [storeOk, loadM, *]; done) | (unfold storeOk loadM; rw [if_neg (by omega)])
  have hm0 : storeM mem (at') x = (List.set mem (Int.toNat (at')) x) := by
    first | (simp [storeM, *]; done) | (unfold storeM; rw [if_neg (by omega)])
  exact PF.ret1 rfl rfl ⟨by rw [hm], hkp, by rw [hm0]; exact p0⟩

-- jacquard/interp.Store: function 41
theorem pStore_ct {F : PH} {H : Heap} (hin : InH F H) {a0 : Value} {mem : List Int} {B0 : Nat} (p0 : Gl (rI .i32) 21 F H B0 a0 mem) (at' : Int) (x : Int) (hl : mem.length < 1073741824) (ww1 : IntKind.i32.wrap at' = at') (ww2 : IntKind.i32.wrap x = x) :
    Ct Try.prog 41 #[a0, .int .i32 at', .int .i32 x] H (fun v H' => v = .bool (storeOk mem at' x) ∧ Kw (own1 a0) H H' ∧ Gl (rI .i32) 21 F H' B0 a0 (storeM mem (at') x)) := by
  have hkp := Kw.refl (own1 a0) H
  have hx := PH.ext.refl (H := H) F
  refine Ct.enter (args := [a0, .int .i32 (at'), .int .i32 x]) Try.func41 rfl rfl rfl (fun w0 hw0 => ?_)
  refine CF.seq (CF.region (LF.step (OpOk.assign rfl) (LF.nil (PF.next (CF.seq (CF.region (LF.step (OpOk.move rfl) (LF.step (OpOk.move rfl) ?_))))))))
  refine LF.call (OpCall.fn Try.ent40 rfl rfl) (p0.temp 1073741824 hin (by first | (simp only [List.length_append, List.length_take, List.length_drop, List.length_nil, List.length_cons, List.length_set, List.length_replicate]; omega) | (simp; done) | (simp; omega) | omega) (fun G1 lg1 hin1 hr1 => pLoad_ct hin1 hr1 (at') ww1)) ?_
  rintro _ _ ⟨rfl, rfl⟩
  refine LF.step (OpOk.move rfl) ?_
  refine LF.step (OpOk.extract (v := .int .i32 ((loadM mem (at')).1)) rfl rfl) ?_
  refine LF.step (OpOk.extract (v := .bool ((loadM mem (at')).2)) rfl rfl) ?_
  refine LF.step (OpOk.assign rfl) (LF.step (OpOk.assign rfl) (LF.nil (PF.next (CF.seq (CF.seq (CF.region (LF.step (OpOk.move rfl) (LF.nil (PF.next ?_)))))))))
  refine CF.if rfl (fun hc1 => ?_) (fun hc1 => ?_)
  have hb := loadM_ok hc1
  refine CF.region (LF.step (OpOk.move rfl) (LF.step (OpOk.move rfl) (LF.step (OpOk.move rfl) ?_)))
  refine LF.step (OpOk.idxG (i := (Int.toNat (at'))) Try.underlying25 Try.sz21 p0 rfl rfl (by omega) (by first | omega | (simp only [List.length_replicate, List.length_set, List.length_append, List.length_cons, List.length_nil]; omega))) ?_
  refine LF.chg0 (OpCh.storeG p0 rfl Try.sz21 rfl rfl rfl (by first | omega | (simp only [List.length_replicate, List.length_set, List.length_append, List.length_cons, List.length_nil]; omega)) ⟨rfl, ww2⟩) ?_
  rintro _ Hw1 ⟨gw1, qw1, tw1, xw1⟩
  have ztw1 := tw1.1
  replace hin := hin.tw tw1 (p0.no _ qw1)
  replace hkp := hkp.tw tw1 (.inr qw1)
  replace p0 := xw1
  refine LF.nil (PF.next (CF.seq (CF.region (LF.step (OpOk.move rfl) (LF.step (OpOk.assign rfl) (LF.nil (PF.next (CF.ret ?_))))))))
  have hm : storeOk mem at' x = ((loadM mem (at')).2) := by
    first | (simp [storeOk, *]; done)
  have hm0 : storeM mem (at') x = (List.set mem (Int.toNat (at')) x) := by
    first | (simp [storeM, *]; done) | (unfold storeM; rw [if_neg (by omega)]; done) | (unfold storeM; rw [if_pos (by omega)]; done)
  exact PF.ret1 rfl rfl ⟨by rw [hm], hkp, by rw [hm0]; exact p0⟩
  have hb := loadM_no hc1
  refine CF.skip (PF.next (CF.seq (CF.region (LF.step (OpOk.move rfl) (LF.step (OpOk.assign rfl) (LF.nil (PF.next (CF.ret ?_))))))))
  have hm : storeOk mem at' x = ((loadM mem (at')).2) := by
    first | (simp [storeOk, *]; done)
  have hm0 : storeM mem (at') x = mem := by
    first | (simp [storeM, *]; done) | (unfold storeM; rw [if_neg (by omega)]; done) | (unfold storeM; rw [if_pos (by omega)]; done)
  exact PF.ret1 rfl rfl ⟨by rw [hm], hkp, by rw [hm0]; exact p0⟩

end Go.Proofs.Ytehibklogdngbaa
