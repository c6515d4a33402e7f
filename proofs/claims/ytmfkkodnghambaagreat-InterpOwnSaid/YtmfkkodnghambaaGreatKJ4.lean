/- Lemmas that the claim is made of. Conditions: each lemma names its own. -/
import Derived.Test.YtmfkkodnghambaaGreatKJ3
import Derived.Test.YtmfkkodnghambaaGreatKJ2
set_option linter.unusedSectionVars false
set_option linter.unusedSimpArgs false
set_option linter.unusedVariables false
namespace Go.Proofs.YtmfkkodnghambaaGreat
open Go.JE
abbrev U29 := @Tryz.underlying29
theorem E85 : Ent Tryz.prog 85 := ⟨_,Tryz.func85,by kernel_rfl,by kernel_rfl⟩
theorem Z21 : Sz Tryz.prog 21 1 := by unfold Sz; kernel_rfl
def getM (regs : List Int) (r : Int) : Int := if r < 0 ∨ regs.length ≤ r then 0 else ix regs r.toNat
def setM (regs : List Int) (r v : Int) : List Int := if 0 ≤ r ∧ r < regs.length then regs.set r.toNat v else regs
def loadM (mem : List Int) (at' : Int) : Int × Bool := if at' < 0 ∨ mem.length ≤ at' then (0,false) else (ix mem at'.toNat,true)
def storeM (mem : List Int) (at' v : Int) : List Int := if at' < 0 ∨ mem.length ≤ at' then mem else mem.set at'.toNat v
theorem loadM_ok {mem : List Int} {a : Int} (h : (loadM mem a).2 = true) : 0 ≤ a ∧ a < mem.length := by
 unfold loadM at h; split at h
 · cases h
 · omega
theorem loadM_no {mem : List Int} {a : Int} (h : (loadM mem a).2 = false) : a < 0 ∨ mem.length ≤ a := by
 unfold loadM at h; split at h
 · assumption
 · cases h
def storeOk (mem : List Int) (at' _x : Int) : Bool := (loadM mem at').2
def memM (i : D.Input) : List Int := i.Mem.take 4096
def goesM (e : D.End) (regs : List Int) : Int :=
 if e.Op = 1 then 0
 else if e.Op = 2 then (if getM regs e.A ≠ 0 then 0 else 1)
 else if e.Op = 3 then (if getM regs e.A = getM regs e.B then 0 else 1)
 else if e.Op = 4 then (if getM regs e.A < getM regs e.B then 0 else 1)
 else if e.Op = 5 then (if u32 (getM regs e.A) < u32 (getM regs e.B) then 0 else 1)
 else if e.Op = 6 then (if u32 (getM regs e.A) < e.To.length - 1 then u32 (getM regs e.A) else e.To.length - 1)
 else -1
def immOp (op : Int) : Int := ix [2,5,8,9,10] (op - 18).toNat
def stepM (i : D.Mach) (regs mem : List Int) : (Int × Bool) × List Int × List Int :=
 if i.Op = 1 then ((0,true),setM regs i.D (getM regs i.A),mem)
 else if i.Op = 2 then ((0,true),setM (setM regs i.A (getM regs i.B)) i.B (getM regs i.A),mem)
 else if i.Op = 3 ∨ i.Op = 4 then ((0,true),setM regs i.D i.Imm,mem)
 else if 5 ≤ i.Op ∧ i.Op ≤ 17 then
   if (doM (i.Op - 5 + 2) (getM regs i.A) (getM regs i.B)).2 = true then ((0,true),setM regs i.D (doM (i.Op - 5 + 2) (getM regs i.A) (getM regs i.B)).1,mem) else ((-1,false),regs,mem)
 else if 18 ≤ i.Op ∧ i.Op ≤ 22 then ((0,true),setM regs i.D (doM (immOp i.Op) (getM regs i.A) i.Imm).1,mem)
 else if i.Op = 23 then ((0,true),setM regs i.D (w32 (w32 (getM regs i.A * getM regs i.B) + getM regs i.C)),mem)
 else if i.Op = 24 then
   if (loadM mem (w32 (getM regs i.A + i.Imm))).2 = true then ((0,true),setM regs i.D (loadM mem (w32 (getM regs i.A + i.Imm))).1,mem) else ((-2,false),regs,mem)
 else if i.Op = 25 then
   if (loadM mem (w32 (getM regs i.A + getM regs i.B))).2 = true then ((0,true),setM regs i.D (loadM mem (w32 (getM regs i.A + getM regs i.B))).1,mem) else ((-2,false),regs,mem)
 else if i.Op = 26 then
   ((if storeOk mem (w32 (getM regs i.A + i.Imm)) (getM regs i.B) = true then (0,true) else (-2,false)),regs,storeM mem (w32 (getM regs i.A + i.Imm)) (getM regs i.B))
 else if i.Op = 27 then
   ((if storeOk mem (w32 (getM regs i.A + getM regs i.B)) (getM regs i.C) = true then (0,true) else (-2,false)),regs,storeM mem (w32 (getM regs i.A + getM regs i.B)) (getM regs i.C))
 else if i.Op = 29 then ((0,true),setM (setM regs i.D (wideM (getM regs i.A) (getM regs i.B)).1) i.E (wideM (getM regs i.A) (getM regs i.B)).2,mem)
 else ((0,true),regs,mem)
theorem wide_prog {a b : Int} (ha : IntKind.i32.wrap a = a) (hb : IntKind.i32.wrap b = b) :
   wideM a b = (IntKind.i32.wrap (a * b),IntKind.i32.wrap (shrI .i64 (a * b) 32)) := by
 have h1 := i32_rng ha
 have h2 := i32_rng hb
 have h3 := mul_rng h1 h2
 unfold wideM shrI
 have e1 : (2 : Int) ^ (min (32 : Int).toNat IntKind.i64.bits) = 4294967296 := by decide
 rw [e1]
theorem storeM_len (rs : List Int) (r v : Int) : (storeM rs r v).length = rs.length := by unfold storeM; split <;> simp
theorem take_min {α : Type} (l : List α) (n : Nat) (m : Int) (h : m = n) : l.take n = l.take (Int.toNat (min (↑l.length) m)) := by
 subst h
 rcases Nat.le_total l.length n with h | h
 · rw [List.take_of_length_le h,List.take_of_length_le (by omega)]
 · congr 1; omega
def rowsM (a b : List Int) : Bool := decide (a = b)
theorem rowsM_len {a b : List Int} (h : ¬ a.length = b.length) : rowsM a b = false := by simp only [rowsM,decide_eq_false_iff_not]; rintro rfl; exact h rfl
theorem rowsM_at {a b : List Int} {k : Nat} (h1 : k < a.length) (h2 : a.length = b.length) (h : ¬ ix a k = ix b k) : rowsM a b = false := by simp only [rowsM,decide_eq_false_iff_not]; rintro rfl; exact h rfl
theorem rowsM_yes {a b : List Int} {k : Nat} (h1 : a.length ≤ k) (h2 : a.length = b.length) (h : a.take k = b.take k) : rowsM a b = true := by
 rw [List.take_of_length_le h1,List.take_of_length_le (by omega)] at h
 simp only [rowsM,h,decide_true]
theorem loadM_wrG {E B : Nat} {F : PH} {H : Heap} {v : Value} {l : List Int} (h : Gl (rI .i32) E F H B v l) (r : Int) : IntKind.i32.wrap (loadM l r).1 = (loadM l r).1 := by
 unfold loadM; split
 · decide
 · exact h.wr (by omega)
theorem sar_wr {a : Int} (b : Int) (ha : IntKind.i32.wrap a = a) : IntKind.i32.wrap (sarM a b) = sarM a b := by
 have h1 := i32_rng ha
 unfold sarM
 have h2 : (0 : Int) < 2 ^ (b % 32).toNat := Int.pow_pos (by decide)
 rw [Int.fdiv_eq_ediv_of_nonneg _ (by omega)]
 refine IntWalk.i32_in _ ⟨?_,?_⟩
 · rw [Int.le_ediv_iff_mul_le h2]
   have : (-2147483648 : Int) * 2 ^ (b % 32).toNat ≤ -2147483648 * 1 := by
     have := Int.mul_le_mul_of_nonneg_left (show (1 : Int) ≤ 2 ^ (b % 32).toNat by omega) (show (0 : Int) ≤ 2147483648 by decide)
     omega
   omega
 · have := Int.ediv_le_self (b := 2 ^ (b % 32).toNat) (a := a)
   by_cases h : 0 ≤ a
   · have := this h; omega
   · have := Int.ediv_neg_of_neg_of_pos (a := a) (b := 2 ^ (b % 32).toNat) (by omega) h2
     omega
theorem bit_wr (b : Bool) : IntKind.i32.wrap (bitM b) = bitM b := by cases b <;> decide
theorem doM_wr (op : Int) {a : Int} (b : Int) (ha : IntKind.i32.wrap a = a) : IntKind.i32.wrap (doM op a b).1 = (doM op a b).1 := by
 by_cases h : 2 ≤ op ∧ op ≤ 14
 · have hc : op = 2 ∨ op = 3 ∨ op = 4 ∨ op = 5 ∨ op = 6 ∨ op = 7 ∨ op = 8 ∨ op = 9 ∨ op = 10 ∨ op = 11 ∨ op = 12 ∨ op = 13 ∨ op = 14 := by omega
   rcases hc with rfl | rfl | rfl | rfl | rfl | rfl | rfl | rfl | rfl | rfl | rfl | rfl | rfl
   · exact JE.wrap_wrap _ _
   · exact JE.wrap_wrap _ _
   · exact JE.wrap_wrap _ _
   · exact JE.wrap_wrap _ _
   · exact JE.wrap_wrap _ _
   · exact JE.wrap_wrap _ _
   · exact JE.wrap_wrap _ _
   · exact JE.wrap_wrap _ _
   · exact sar_wr b ha
   · exact bit_wr _
   · exact bit_wr _
   · exact bit_wr _
   · have e1 : doM 14 a b = if b = 0 then (0,false) else (divM a b,true) := rfl
     rw [e1]; split
     · decide
     · exact JE.wrap_wrap _ _
 · have e1 : doM op a b = (0,false) := by unfold doM; repeat rw [if_neg (by omega)]
   rw [e1]; decide
theorem wld {D : List Dt} {L M : List Res} {B E : Nat} {v : Value} {l : List Int} (hk : Tk L (gl B (rI .i32) E v l) M) (r : Int) : Wr D L .i32 (loadM l r).1 := fun _ _ _ _ z => loadM_wrG (hk.ok z).1.1 r
theorem wdo {D : List Dt} {L : List Res} {op a b : Int} (h : Wr D L .i32 a) : Wr D L .i32 (doM op a b).1 := fun F H x y z => doM_wr _ _ (h F H x y z)
theorem wWide_ct (a : Int) (b : Int) (ww0 : IntKind.i32.wrap a = a) (ww1 : IntKind.i32.wrap b = b) : Tv Tryz.prog 87 #[.int .i32 a,.int .i32 b] [] [] (.tuple #[.int .i32 ((wideM a b).1),.int .i32 ((wideM a b).2)]) := by
 refine jenter (args := [.int .i32 a,.int .i32 b]) Tryz.func87 rfl rfl rfl fun w0 X => ?_
 have b0 := i32_rng ww0
 have b1 := i32_rng ww1
 have b2 := mul_rng b0 b1
 have c0 := IntWalk.i64_in a (by omega)
 have c1 := IntWalk.i64_in b (by omega)
 refine jq (jr (ja Z (ja Z (jn (jx (jq (jr (jm Z (js (jco U21 U2 Z (up_i32_i64 ww0)) (jm Z (js (jco U21 U2 Z (up_i32_i64 ww1)) ?_)))))))))))
 refine js (jmul Z Z (by omega)) (ja Z (jn (jx (jq (jr (jm Z (js (jco U2 U21 Z Z) (jm Z (js (jshr Z Z (by decide)) (js (jco U2 U21 Z Z) (ja Z ?_)))))))))))
 refine ja Z (jn (jx (jrt ?_)))
 exact jr2 Z Z Z () (tII (wide_prog ww0 ww1)) dn (fun _ _ => kn)
theorem pLoad_ct {a0 : Value} {mem : List Int} (at' : Int) (ww1 : IntKind.i32.wrap at' = at') : Tv Tryz.prog 85 #[a0,.int .i32 at'] [dv (rL (rI .i32)) a0 mem] [] (.tuple #[.int .i32 ((loadM mem at').1),.bool ((loadM mem at').2)]) := by
 refine jenter (args := [a0,.int .i32 at']) Tryz.func85 rfl rfl rfl fun w0 X => ?_
 refine jq (jr (ja Z (ja Z (jn (jx (jq (jq (jr (jm Z (js (jlss Z Z) (jm Z ?_)))))))))))
 refine jg Z Z (.f _) (fun hg => jmv Z) (jg Z Z (.f _) (fun hg => jco U21 U3 (evg Z hg) (up_i32_i64 ww1)) (jg Z Z (.f _) (fun hg => jmv Z) (jdq d0 fun q1 w1 => jg Z Z (.f _) (fun hg => jln U29 d0 (evg Z hg)) (jg Z Z (.f _) (fun hg => jgeq (evg Z hg) (evg Z hg)) (js (jor Z Z) (jn (jx ?_)))))))
 refine jif Z (fun hc1 => ?_) (fun hc1 => ?_)
 refine jq (jr (ja Z (ja Z (jn (jx (jrt (jtr ?_)))))))
 exact jr2 Z Z Z () (tIB (by first | (simp [loadM,hc1]; done) | (unfold loadM; (repeat' split) <;> first | rfl | (exfalso; omega) | (simp [loadM,hc1]; done)))) dn (fun _ _ => kn)
 refine jsk (jx (jq (jr (jm Z (jm Z (js (jix (i := (Int.toNat (at'))) U29 Z21 d0 Z Z (by omega) (by omega)) (js (jlI (dix d0 (Int.toNat (at')) (by omega)) O21 Z) (ja Z (ja Z (jn (jx ?_)))))))))))
 refine jrt ?_
 exact jr2 Z Z Z () (tIB (by first | (simp [loadM,hc1]; done) | (unfold loadM; (repeat' split) <;> first | rfl | (exfalso; omega) | (simp [loadM,hc1]; done)))) dn (fun _ _ => kn)
theorem pStore_ct {a0 : Value} {mem : List Int} {B0 : Nat} (at' : Int) (x : Int) (hl : mem.length < 1073741824) (ww1 : IntKind.i32.wrap at' = at') (ww2 : IntKind.i32.wrap x = x) : Tr Tryz.prog 86 #[a0,.int .i32 at',.int .i32 x] [] [gl B0 (rI .i32) 21 a0 mem] (fun _ : Unit => .bool (storeOk mem at' x)) (fun _ => []) (fun _ _ => [gl B0 (rI .i32) 21 a0 (storeM mem (at') x)]) := by
 refine jenter (args := [a0,.int .i32 at',.int .i32 x]) Tryz.func86 rfl rfl rfl fun w0 X => ?_
 refine cgo k0 fun w1 => jq (jr (ja Z (jn (jx (jq (jr (jm Z (jm Z (jc E85 Z Z (Tv.temp 1073741824 (pLoad_ct (at') ww1) (by omega)) dn (kc k0 kn) (fun _ => p0) (fun _ => p1) fun _ => jm Z ?_)))))))))
 refine js (jex' Z Z) (js (jex' Z Z) (ja Z (ja Z (jn (jx (jq (jq (jr (jm Z (jn (jx ?_)))))))))))
 refine jif Z (fun hc1 => ?_) (fun hc1 => ?_)
 have hb := loadM_ok hc1
 refine jr (jm Z (jm Z (jm Z (js (jig (i := (Int.toNat (at'))) U29 Z21 k0 Z Z (by omega) (by omega)) (jsg k0 Z Z21 Z Z Z (by omega) (wI (wp ww2)) (jn (jx (jq (jr (jm Z (ja Z ?_)))))))))))
 refine jn (jx (jrt ?_))
 exact jr1 Z Z () (congrArg Value.bool (Eq.symm (by first | (simp [storeOk, *]; done)))) dn (fun _ _ => (kcg (by first | (simp [storeM, *]; done) | (unfold storeM; rw [if_neg (by omega)]; done) | (unfold storeM; rw [if_pos (by omega)]; done)) k0 kn))
 have hb := loadM_no hc1
 refine jsk (jx (jq (jr (jm Z (ja Z (jn (jx (jrt ?_))))))))
 exact jr1 Z Z () (congrArg Value.bool (Eq.symm (by first | (simp [storeOk, *]; done)))) dn (fun _ _ => (kcg (by first | (simp [storeM, *]; done) | (unfold storeM; rw [if_neg (by omega)]; done) | (unfold storeM; rw [if_pos (by omega)]; done)) k0 kn))
theorem E60 : Ent Tryz.prog 60 := ⟨_,Tryz.func60,by kernel_rfl,by kernel_rfl⟩
theorem F31_1 : Fld Tryz.prog 31 1 1 := ⟨_,_,Tryz.underlying31,rfl,rfl,1,(by unfold Sz; kernel_rfl),by decide⟩
theorem I21 : (Tryz.prog.info? 21).map (fun i => (i.zero,i.size,i.bytes)) = some (some (.int .i32 0),1,4) := by kernel_rfl
theorem O29 : One Tryz.prog 29 := ⟨_,Tryz.underlying29,rfl⟩
theorem Z3 : Sz Tryz.prog 3 1 := by unfold Sz; kernel_rfl
theorem clone32_ct {a0 : Value} {l : List Int} : Tg Tryz.prog 60 #[a0] [dv (rL (rI .i32)) a0 l] [] (rI .i32) 21 l := by
 refine jenter (args := [a0]) Tryz.func60 rfl rfl rfl fun w0 X => ?_
 refine jq (jr (ja Z (jn (jx (jq (jq (jr (jm Z (jeb (jeqlNil U29 d0 Z Z) fun b4 hnil4 => jn (jx ?_))))))))))
 refine jif Z (fun hc1 => ?_) (fun hc1 => ?_)
 refine jq (jr (ja Z (jn (jx (jrt (jtr (qnl (r := (rI .i32)) (E := 21) ?_)))))))
 exact jrG Z Z (by first | rfl | exact hnil4 hc1) k0
 refine jsk (jx (jq (jr (jlit (r := (rI .i32)) (l := []) U29 I21 (by decide) Z Z Z ln fun g5 => jm Z (jdq d0 fun q2 w2 => japlz U29 I21 (by decide) Z k0 Z Z d0 (by omega) fun v7 w3 => ja Z (jn (jx (jrt ?_))))))))
 exact jrG Z Z (by first | rfl | exact hnil4 hc1) k0
theorem pMem_ct {a0a a0b a0c : Value} {i : D.Input} : Tg Tryz.prog 28 #[vInput i (a0a,a0b,a0c)] [da rInput (vInput i (a0a,a0b,a0c)) i] [] (rI .i32) 21 (memM i) := by
 refine jenter (args := [vInput i (a0a,a0b,a0c)]) Tryz.func28 rfl rfl rfl fun w0 X => ?_
 refine jq (jr (jbox Z Z fun g1 => ja Z (jn (jx (jq (jr (js (jf F31_1 Z) (js (jl k0 O29 Z Z) (js (jf F31_1 Z) (js (jl k0 O29 Z Z) ?_))))))))))
 refine jdq (rInput.c_Mem d0) fun q1 w1 => js (jln U29 (rInput.c_Mem d0) Z) (js (jmin Z Z) (js (jshi (hi := (Int.toNat (min (↑(List.length i.Mem)) 4096))) U29 Z21 (rInput.c_Mem d0) Z Z (by omega) (by omega)) (jdq (dhi (rInput.c_Mem d0) (Int.toNat (min (↑(List.length i.Mem)) 4096)) (by omega) (by omega)) fun q2 w2 => jcg E60 Z Z clone32_ct (dc (dhi (rInput.c_Mem d0) (Int.toNat (min (↑(List.length i.Mem)) 4096)) (by omega) (by omega)) dn) kn fun v10 w3 => ja Z (jn (jx (jrt ?_))))))
 exact jrG Z Z (take_min _ 4096 _ rfl) k0
theorem words_ct {a0 : Value} {a : List Int} {a1 : Value} {b : List Int} : Tv Tryz.prog 15 #[a0,a1] [dv (rL (rI .i32)) a0 a,dv (rL (rI .i32)) a1 b] [] (.bool (rowsM a b)) := by
 refine jenter (args := [a0,a1]) Tryz.func15 rfl rfl rfl fun w0 X => ?_
 refine jq (jr (ja Z (jn (jx (jq (jq (jr (jm Z (jdq d0 fun q1 w1 => js (jln U29 d0 Z) (jm Z ?_))))))))))
 refine jdq d1 fun q2 w2 => js (jln U29 d1 Z) (js (jneq Z Z) (jn (jx ?_)))
 refine jif Z (fun hc1 => ?_) (fun hc1 => ?_)
 refine jq (jr (ja Z (jn (jx (jrt (jtr ?_))))))
 exact jrB Z Z (rowsM_len (by omega))
 refine jsk (jx (jq (jq (jr (ja Z (jn (jx (jb ?_))))))))
 refine jlp (fun (k : Nat) => ⟨k ≤ a.length ∧ a.take k = b.take k,[dv (rL (rI .i32)) a0 a,dv (rL (rI .i32)) a1 b],[],[(0,a0),(1,a1),(5,.int .i64 (↑k))],a.length - k⟩) 0 ⟨by omega,rfl⟩ (dc d0 (dc d1 dn)) kn ⟨Z,Z,eqI (by omega),trivial⟩ ?_
 rintro k; dsimp only; rintro ⟨hk,hR⟩
 refine jq (jq (jr (jm Z (jm Z (js (jln U29 d0 Z) (js (jlss Z Z) (jn (jx ?_))))))))
 refine jif Z (fun hc2 => ?_) (fun hc2 => ?_)
 refine jsk (jx (jq (jb (jq (jstl Mixed (by kernel_rfl) (jt (jmv Z) (jt (jmv Z) (jt (jix U29 Z21 d0 Z Z Z (by omega)) (jt (jlI (dix d0 k (by omega)) O21 Z) (jt (jmv Z) (jt (jmv Z) ?_)))))))))))
 refine jt (jix U29 Z21 d1 Z Z Z (by omega)) (jt (jlI (dix d1 k (by omega)) O21 Z) (jt (jneq Z Z) (jdn (jx ?_))))
 refine jif Z (fun hc3 => ?_) (fun hc3 => ?_)
 refine jq (jr (ja Z (jn (jx (jrt (jbr (jtr (jtr (jbr (jtr ?_))))))))))
 exact jrB Z Z (by first | exact rowsM_at (k := k) (by omega) (by omega) hc3 | exact rowsM_yes (k := k) (by omega) (by omega) hR)
 refine jsk (jbn (jx (jr (jm Z (js (jadd Z Z (by omega)) (ja Z (jn ?_)))))))
 exact jag (k + 1) ⟨by omega,by rw [take_ix (by omega),take_ix (by omega),hR,hc3]⟩ (dc d0 (dc d1 dn)) kn ⟨Z,Z,eqI (by omega),trivial⟩
 refine jex (jtx (jtx (jbh (jx (jq (jr (ja Z (jn (jx (jrt ?_))))))))))
 exact jrB Z Z (by first | exact rowsM_at (k := k) (by omega) (by omega) hc3 | exact rowsM_yes (k := k) (by omega) (by omega) hR)
theorem E84 : Ent Tryz.prog 84 := ⟨_,Tryz.func84,by kernel_rfl,by kernel_rfl⟩
theorem E86 : Ent Tryz.prog 86 := ⟨_,Tryz.func86,by kernel_rfl,by kernel_rfl⟩
theorem E87 : Ent Tryz.prog 87 := ⟨_,Tryz.func87,by kernel_rfl,by kernel_rfl⟩
abbrev U57 := @Tryz.underlying57
abbrev U63 := @Tryz.underlying63
theorem A111 : ∃ d,Tryz.prog.underlying 111 = some d ∧ (match d with | .struct _ | .array _ _ => true | _ => false) = true := ⟨_,Tryz.underlying111,rfl⟩
theorem A65 : ∃ d,Tryz.prog.underlying 65 = some d ∧ (match d with | .struct _ | .array _ _ => true | _ => false) = true := ⟨_,Tryz.underlying65,rfl⟩
theorem E81 : Ent Tryz.prog 81 := ⟨_,Tryz.func81,by kernel_rfl,by kernel_rfl⟩
theorem Z111 : Sz Tryz.prog 111 2 := by unfold Sz; kernel_rfl
theorem Z65 : Sz Tryz.prog 65 2 := by unfold Sz; kernel_rfl
def idxM {α : Type} (l : List α) (q : α → Bool) : Int := match l.findIdx? q with
 | some i => i
 | none => -1
def anyM {α : Type} (l : List α) (q : α → Bool) : Bool := l.any q
theorem idx_hit {α : Type} [Inhabited α] {l : List α} {q : α → Bool} {k : Nat} (hk : k < l.length) (h : ∀ x ∈ l.take k,q x = false) (h1 : q (ix l k) = true) : idxM l q = k := by
 have : l.findIdx? q = some k := by
   rw [List.findIdx?_eq_some_iff_getElem]
   refine ⟨hk,by rw [← ix_eq hk]; exact h1,fun j hj => ?_⟩
   have := h l[j] (by rw [List.mem_take_iff_getElem]; exact ⟨j,by omega,rfl⟩)
   simp [this]
 simp [idxM,this]
theorem idx_none {α : Type} {l : List α} {q : α → Bool} {k : Nat} (hk : l.length ≤ k) (h : ∀ x ∈ l.take k,q x = false) : idxM l q = -1 := by
 rw [List.take_of_length_le hk] at h
 have : l.findIdx? q = none := by rw [List.findIdx?_eq_none_iff]; exact h
 simp [idxM,this]
theorem no_snoc {α : Type} [Inhabited α] {l : List α} {q : α → Bool} {k : Nat} (hk : k < l.length) (h : ∀ x ∈ l.take k,q x = false) (h1 : q (ix l k) = false) : ∀ x ∈ l.take (k + 1),q x = false := by
 intro x hx
 rw [take_ix hk] at hx
 rcases List.mem_append.1 hx with hx | hx
 · exact h x hx
 · simp at hx; subst hx; exact h1
theorem Ct.kp {P : Program} {f : FuncId} {args : Array Value} {H : Heap} {u : Value} (h : Ct P f args H (fun v H' => v = u ∧ H' = H)) : Ct P f args H (fun v H' => v = u ∧ Kp H.size H H') := h.mono fun _ _ ⟨a,b⟩ => ⟨a,b ▸ Kp.refl _ _⟩
theorem idxFIn_ct {a0 : Value} {l : List D.In} {fp : Nat} {cp : List Value} {D1 : List Dt} {L1 : List Res} (q : D.In → Bool) (hE : Ent Tryz.prog fp) (hq : ∀ x,x ∈ l → ∀ c : Unit,Pd Tryz.prog fp (vIn x c :: cp).toArray [da rIn (vIn x c) x,dl D1] L1 (q x)) : Tr Tryz.prog 81 #[a0,.func (.func fp) #[] cp.toArray] [dv (rL rIn) a0 l,dl D1] [it L1] (fun _ : Unit => .int .i64 (idxM l q)) (fun _ => []) (fun _ _ => [it L1]) := by
 refine jenter (args := [a0,.func (.func fp) #[] cp.toArray]) Tryz.func81 rfl rfl rfl fun w0 X => ?_
 refine jq (jr (ja Z (jn (jx (jq (jq (jr (jm Z (jdq d0 fun q1 w1 => js (jln U63 d0 Z) (jm Z ?_))))))))))
 refine jn (jx (jb ?_))
 refine jlp (fun (k : Nat) => ⟨k ≤ l.length ∧ (∀ x ∈ l.take k,q x = false),[dv (rL rIn) a0 l,dl D1],[it L1],[(0,a0),(1,.func (.func fp) #[] cp.toArray),(7,.int .i64 (↑(List.length l))),(8,.int .i64 (↑k))],l.length - k⟩) 0 ⟨by omega,by simp⟩ (dc d0 (dc d1 dn)) (kc k0 kn) ⟨Z,Z,Z,eqI (by omega),trivial⟩ ?_
 rintro k; dsimp only; rintro ⟨hk,hR⟩
 refine jq (jr (js (jlss Z Z) (jn (jx (jq ?_)))))
 refine jif Z (fun hc1 => ?_) (fun hc1 => ?_)
 refine jsk (jx (jq (jb (jq (jr (jm Z (ja Z (jn (jx (jq (jr ?_)))))))))))
 refine jm Z (jm Z (jm Z (js (jix U63 Z111 d0 Z Z Z (by omega)) (jA sIn (jlA (dix d0 k (by omega)) A111 Z111 Z) fun _ => jc hE Z Z (hq (ix l k) (ix_mem (by omega)) ()) (dc d0 (dc d2 dn)) (kc k0 kn) (fun _ => p0) (fun _ => p1) fun _ => jn (jx ?_)))))
 refine jif Z (fun hc2 => ?_) (fun hc2 => ?_)
 refine jq (jr (jm Z (ja Z (jn (jx (jrt (jbr (jtr (jtr (jbr (jtr ?_)))))))))))
 exact jr1 Z Z () (congrArg (Value.int .i64) (Eq.symm (idx_hit (by omega) hR hc2))) dn (fun _ _ => (kc k0 kn))
 refine jsk (jbn (jx (jr (js (jadd Z Z (by omega)) (jm Z (jn ?_))))))
 exact jag (k + 1) ⟨by omega,no_snoc (by omega) hR hc2⟩ (dc d1 (dc d2 dn)) (kc k0 kn) ⟨Z,Z,Z,eqI (by omega),trivial⟩
 refine jex (jtx (jtx (jbh (jx (jq (jr (ja Z (jn (jx (jrt ?_))))))))))
 exact jr1 Z Z () (congrArg (Value.int .i64) (Eq.symm (idx_none (by omega) hR))) dn (fun _ _ => (kc k0 kn))
def immM (i : D.Mach) : Bool :=
 if i.Op = 3 then fitsM i.Imm 16
 else if i.Op = 18 ∨ i.Op = 19 then fitsM i.Imm 8
 else if i.Op = 20 ∨ i.Op = 21 ∨ i.Op = 22 then decide (0 ≤ i.Imm ∧ i.Imm ≤ 31)
 else if i.Op = 24 ∨ i.Op = 26 then decide (0 ≤ i.Imm ∧ i.Imm ≤ 255)
 else true
def insE (i : D.Mach) : Int :=
 if i.Op < 1 ∨ 29 < i.Op ∨ i.Op = 2 ∨ (i.Op = 28 ∧ 4 < i.Args.length) then 30
 else if regM (makesM i) = false ∨ regM (takesM i) = false then 31
 else if i.Op = 29 ∧ i.D = i.E then 12
 else if immM i = false then 32
 else 0
def limLo (op : Int) : Int := if op = 1 then 1 else if op = 7 ∨ op = 8 then 0 else 2
def limHi (op : Int) : Int := if op = 1 then 1 else if op = 7 ∨ op = 8 then 0 else if op = 6 then 65 else 2
def toM (e : D.End) : Bool := decide (1 ≤ e.Op ∧ e.Op ≤ 8 ∧ limLo e.Op ≤ e.To.length ∧ e.To.length ≤ limHi e.Op)
def badB (n b : Int) : Bool := decide (b < 1) || decide (n ≤ b)
def endE (e : D.End) (n : Int) : Int := if toM e = false then 30 else if regM (nM9 e) = false then 31 else if anyM e.To (badB n) = true then 14 else 0
def phiE (p : D.Phi) (ahead : List D.Phi) : Int :=
 if regM [p.Dst] = false ∨ anyM p.In (fun x => !regM [x.Val]) = true then 31
 else if anyM ahead (fun x => decide (x.Dst = p.Dst)) = true then 12
 else 0
theorem F111_1 : Fld Tryz.prog 111 1 1 := ⟨_,_,Tryz.underlying111,rfl,rfl,1,(by unfold Sz; kernel_rfl),by decide⟩
theorem F65_0 : Fld Tryz.prog 65 0 0 := ⟨_,_,Tryz.underlying65,rfl,rfl,1,(by unfold Sz; kernel_rfl),by decide⟩
theorem F65_1 : Fld Tryz.prog 65 1 1 := ⟨_,_,Tryz.underlying65,rfl,rfl,1,(by unfold Sz; kernel_rfl),by decide⟩
theorem O63 : One Tryz.prog 63 := ⟨_,Tryz.underlying63,rfl⟩
abbrev U129 := @Tryz.underlying129
theorem E176 : Ent Tryz.prog 176 := ⟨_,Tryz.func176,by kernel_rfl,by kernel_rfl⟩
theorem F111_0 : Fld Tryz.prog 111 0 0 := ⟨_,_,Tryz.underlying111,rfl,rfl,1,(by unfold Sz; kernel_rfl),by decide⟩
theorem O4 : One Tryz.prog 4 := ⟨_,Tryz.underlying4,rfl⟩
theorem Z4 : Sz Tryz.prog 4 1 := by unfold Sz; kernel_rfl
theorem J111 : (Tryz.prog.info? 111).bind (·.zero) = some (.agg #[.int .i64 0,.int .i64 0]) := by kernel_rfl
def predsT (bs : List D.MBlock) (k : Nat) (b : Int) : List Int := ((List.range k).filter (fun a : Nat => decide (b ∈ (ix bs a).End.To))).map (fun a : Nat => (a : Int))
def predsM (bs : List D.MBlock) (b : Int) : List Int := predsT bs bs.length b
def bfsIn : List Bool → List Int → List Int → List Bool × List Int
 | seen,q,[] => (seen,q)
 | seen,q,t :: ts => if ix seen t.toNat = true then bfsIn seen q ts else bfsIn (seen.set t.toNat true) (q ++ [t]) ts
def bfs (bs : List D.MBlock) : Nat → List Bool → List Int → List Bool
 | 0,seen,_ => seen
 | _ + 1,seen,[] => seen
 | f + 1,seen,x :: q => bfs bs f (bfsIn seen (x :: q) (ix bs x.toNat).End.To).1 ((bfsIn seen (x :: q) (ix bs x.toNat).End.To).2.drop 1)
def reachedM (bs : List D.MBlock) : List Bool := bfs bs bs.length ((List.replicate bs.length false).set 0 true) [0]
def badPhi (bs : List D.MBlock) (b : Nat) (p : D.Phi) : Bool := decide (b = 0) || !decide (p.In.map (·.From) = predsM bs b)
def graphPhis (bs : List D.MBlock) : Nat → List D.MBlock → Int × Int × Int
 | _,[] => (0,0,0)
 | b,x :: l => match x.Phis.findIdx? (badPhi bs b) with
   | some i => (16,b,-1 - i)
   | none => graphPhis bs (b + 1) l
def graphM (m : D.MFunc) : Int × Int × Int := if 0 ≤ idxM (reachedM m.Blocks) (fun x => false == x) then (15,idxM (reachedM m.Blocks) (fun x => false == x),0) else graphPhis m.Blocks 0 m.Blocks
section
variable {bs : List D.MBlock} {k j n : Nat} {ls : List (List Int)}
end
abbrev U125 := @Tryz.underlying125
theorem E138 : Ent Tryz.prog 138 := ⟨_,Tryz.func138,by kernel_rfl,by kernel_rfl⟩
theorem I22 : (Tryz.prog.info? 22).map (fun i => (i.zero,i.size,i.bytes)) = some (some (.slice none 0 0),1,24) := by kernel_rfl
theorem I4 : (Tryz.prog.info? 4).map (fun i => (i.zero,i.size,i.bytes)) = some (some (.bool false),1,1) := by kernel_rfl
theorem O57 : One Tryz.prog 57 := ⟨_,Tryz.underlying57,rfl⟩
theorem Z22 : Sz Tryz.prog 22 1 := by unfold Sz; kernel_rfl
theorem J65 : (Tryz.prog.info? 65).bind (·.zero) = some (.agg #[.int .i64 0,.slice none 0 0]) := by kernel_rfl
section
variable {m : D.MFunc} {f : Nat} {se : List Bool} {q : List Int}
end
def insW : Nat → List D.Mach → Option (Int × Int)
 | _,[] => none
 | i,y :: l => if insE y = 0 then insW (i + 1) l else some (insE y,(i : Int))
def phiW (all : List D.Phi) : Nat → List D.Phi → Option (Int × Int)
 | _,[] => none
 | i,p :: l => if phiE p (all.take i) = 0 then phiW all (i + 1) l else some (phiE p (all.take i),-1 - (i : Int))
def blockW (n : Int) (x : D.MBlock) : Option (Int × Int) :=
 match phiW x.Phis 0 x.Phis with
 | some t => some t
 | none => match insW 0 x.Ins with
   | some t => some t
   | none => if endE x.End n = 0 then none else some (endE x.End n,(x.Ins.length : Int))
def thingsW (n : Int) : Nat → List D.MBlock → Option (Int × Int × Int)
 | _,[] => none
 | b,x :: l => match blockW n x with
   | some t => some (t.1,(b : Int),t.2)
   | none => thingsW n (b + 1) l
def cntB : List D.MBlock → Int
 | [] => 0
 | x :: l => x.Phis.length + x.Ins.length + 1 + cntB l
def funcM (m : D.MFunc) : Int × Int × Int :=
 if m.Params < 0 ∨ 4 < m.Params then (1,0,0)
 else if m.Blocks.length = 0 then (14,0,0)
 else if 512 < m.Blocks.length ∨ 16384 < cntB m.Blocks then (2,0,0)
 else match thingsW m.Blocks.length 0 m.Blocks with
   | some t => t
   | none => graphM m
def rightM (m : D.MFunc) : Bool := decide ((funcM m).1 = 0)
section
variable {n : Int} {bs : List D.MBlock} {k i : Nat}
end
section
variable {m : D.MFunc}
end
def isFrom (from' : Int) (x : D.In) : Bool := decide (x.From = from')
def phiVal (from' : Int) (regs : List Int) (p : D.Phi) : Int := ix regs (Int.toNat (ix p.In (Int.toNat (idxM p.In (isFrom from')))).Val)
def setP : List Int → List D.Phi → List Int → List Int
 | rs,p :: l,v :: vs => setP (rs.set (Int.toNat p.Dst) v) l vs
 | rs,_,_ => rs
def phisM (l : List D.Phi) (from' : Int) (regs : List Int) : List Int := setP regs l (l.map (phiVal from' regs))
theorem idx_lt {α : Type} (l : List α) (q : α → Bool) : idxM l q < l.length := by
 unfold idxM
 cases h : l.findIdx? q with
 | none => simp only; omega
 | some i => obtain ⟨hi,_⟩ := List.findIdx?_eq_some_iff_getElem.1 h; simp only; omega
def phiOk (from' : Int) (n : Nat) (p : D.Phi) : Prop := 0 ≤ p.Dst ∧ p.Dst < n ∧ 0 ≤ idxM p.In (isFrom from') ∧ ∀ x ∈ p.In,0 ≤ x.Val ∧ x.Val < n
theorem phiOk.v {from' : Int} {n : Nat} {p : D.Phi} (h : phiOk from' n p) : 0 ≤ (ix p.In (Int.toNat (idxM p.In (isFrom from')))).Val ∧ (ix p.In (Int.toNat (idxM p.In (isFrom from')))).Val < n := by
 have := idx_lt p.In (isFrom from')
 exact h.2.2.2 _ (ix_mem (by have := h.2.2.1; omega))
def callR (rs : List Int) (d : Int) (an : List Int) : List Int := rs.set (Int.toNat d) (ix an 0)
def insRun (N : Int) (K : List Int → List Int → List D.Event → List Int → Int → D.Outcome) : List D.Mach → List Int → List Int → List D.Event → List Int → Int → D.Outcome
 | [],rs,me,cl,an,s => K rs me cl an s
 | i :: l,rs,me,cl,an,s =>
   if N ≤ s then ⟨3,0,me,cl,s⟩
   else if i.Op = 28 then insRun N K l (callR rs i.D an) me (cl ++ [⟨i.Imm,i.Args.map (fun r => ix rs (Int.toNat r))⟩]) (an.drop 1) (s + 1)
   else if (stepM i rs me).1.2 = false then ⟨2,(stepM i rs me).1.1,(stepM i rs me).2.2,cl,s + 1⟩
   else insRun N K l (stepM i rs me).2.1 (stepM i rs me).2.2 cl an (s + 1)
def endRun (N : Int) (e : D.End) (go : Int → List Int → List Int → List D.Event → List Int → Int → D.Outcome) (rs me : List Int) (cl : List D.Event) (an : List Int) (s : Int) : D.Outcome :=
 if N ≤ s then ⟨3,0,me,cl,s⟩
 else if e.Op = 7 then ⟨1,getM rs e.A,me,cl,s + 1⟩
 else if e.Op = 8 then ⟨2,e.Imm,me,cl,s + 1⟩
 else go (ix e.To (Int.toNat (goesM e rs))) rs me cl an (s + 1)
def blockRun (bs : List D.MBlock) (N : Int) : Nat → Int → Int → List Int → List Int → List D.Event → List Int → Int → D.Outcome
 | 0,_,_,_,me,cl,_,s => ⟨3,0,me,cl,s⟩
 | f + 1,at',from',rs,me,cl,an,s => insRun N (endRun N (ix bs (Int.toNat at')).End (fun t => blockRun bs N f t at')) (ix bs (Int.toNat at')).Ins (phisM (ix bs (Int.toNat at')).Phis from' rs) me cl an s
def startR (m : D.MFunc) (i : D.Input) : List Int := List.take (min (Int.toNat m.Params) i.Args.length) i.Args ++ List.drop (min (Int.toNat m.Params) i.Args.length) (List.replicate 8192 0)
def runM (m : D.MFunc) (i : D.Input) : D.Outcome := if rightM m = false then ⟨4,0,[],[],0⟩ else blockRun m.Blocks i.Steps (Int.toNat i.Steps + 1) 0 (-1) (startR m i) (memM i) [] i.Answers 0
theorem memM_len (i : D.Input) : (memM i).length ≤ 4096 := by unfold memM; simp; omega
structure WFm (m : D.MFunc) : Prop where
 p0 : 0 ≤ m.Params ∧ m.Params ≤ 4
 n0 : 0 < m.Blocks.length ∧ m.Blocks.length ≤ 512
 ins : ∀ x ∈ m.Blocks,∀ i ∈ x.Ins,i.Op = 28 → 0 ≤ i.D ∧ i.D < 8192 ∧ i.Args.length ≤ 4 ∧ ∀ r ∈ i.Args,0 ≤ r ∧ r < 8192
 to : ∀ x ∈ m.Blocks,toM x.End = true ∧ ∀ t ∈ x.End.To,1 ≤ t ∧ t < m.Blocks.length
 phi : ∀ k : Nat,k < m.Blocks.length → ∀ p ∈ (ix m.Blocks k).Phis,0 < k ∧ p.In.map (·.From) = predsM m.Blocks k ∧ 0 ≤ p.Dst ∧ p.Dst < 8192 ∧ ∀ x ∈ p.In,0 ≤ x.Val ∧ x.Val < 8192
section
variable {m : D.MFunc} (hw : WFm m)
include hw
theorem WFm.goes {at' : Int} (ha : 0 ≤ at' ∧ at' < m.Blocks.length) (rs : List Int) (h7 : ¬ (ix m.Blocks (Int.toNat at')).End.Op = 7) (h8 : ¬ (ix m.Blocks (Int.toNat at')).End.Op = 8) :
   0 ≤ goesM (ix m.Blocks (Int.toNat at')).End rs ∧ goesM (ix m.Blocks (Int.toNat at')).End rs < (ix m.Blocks (Int.toNat at')).End.To.length := by
 have h1 := (hw.to _ (ix_mem (l := m.Blocks) (i := Int.toNat at') (by omega))).1
 generalize (ix m.Blocks (Int.toNat at')).End = e at *
 unfold toM at h1
 rw [decide_eq_true_eq] at h1
 obtain ⟨ho1,ho2,hl1,hl2⟩ := h1
 have hu : 0 ≤ u32 (getM rs e.A) := by unfold u32; rw [IntKind.wrap_u32]; omega
 unfold limLo at hl1
 unfold limHi at hl2
 unfold goesM
 have hc : e.Op = 1 ∨ e.Op = 2 ∨ e.Op = 3 ∨ e.Op = 4 ∨ e.Op = 5 ∨ e.Op = 6 := by omega
 rcases hc with h | h | h | h | h | h <;> simp only [h] at hl1 hl2 ⊢ <;> simp at hl1 hl2 ⊢ <;> (repeat' split) <;> omega
end
section
variable {N : Int} {K : List Int → List Int → List D.Event → List Int → Int → D.Outcome} {O : D.Outcome} {I : List D.Mach} {k j : Nat} {rs me an ea : List Int} {cl : List D.Event} {s : Int}
end
section
variable {N : Int} {go : Int → List Int → List Int → List D.Event → List Int → Int → D.Outcome} {O : D.Outcome} {I : List D.Mach} {k : Nat} {rs me an : List Int} {cl : List D.Event} {s : Int} {e : D.End}
end
abbrev U35 := @Tryz.underlying35
theorem A31 : ∃ d,Tryz.prog.underlying 31 = some d ∧ (match d with | .struct _ | .array _ _ => true | _ => false) = true := ⟨_,Tryz.underlying31,rfl⟩
theorem A37 : ∃ d,Tryz.prog.underlying 37 = some d ∧ (match d with | .struct _ | .array _ _ => true | _ => false) = true := ⟨_,Tryz.underlying37,rfl⟩
theorem E28 : Ent Tryz.prog 28 := ⟨_,Tryz.func28,by kernel_rfl,by kernel_rfl⟩
theorem F31_0 : Fld Tryz.prog 31 0 0 := ⟨_,_,Tryz.underlying31,rfl,rfl,1,(by unfold Sz; kernel_rfl),by decide⟩
theorem F31_2 : Fld Tryz.prog 31 2 2 := ⟨_,_,Tryz.underlying31,rfl,rfl,1,(by unfold Sz; kernel_rfl),by decide⟩
theorem F31_3 : Fld Tryz.prog 31 3 3 := ⟨_,_,Tryz.underlying31,rfl,rfl,1,(by unfold Sz; kernel_rfl),by decide⟩
theorem F37_0 : Fld Tryz.prog 37 0 0 := ⟨_,_,Tryz.underlying37,rfl,rfl,1,(by unfold Sz; kernel_rfl),by decide⟩
theorem F37_1 : Fld Tryz.prog 37 1 1 := ⟨_,_,Tryz.underlying37,rfl,rfl,1,(by unfold Sz; kernel_rfl),by decide⟩
theorem F37_2 : Fld Tryz.prog 37 2 2 := ⟨_,_,Tryz.underlying37,rfl,rfl,1,(by unfold Sz; kernel_rfl),by decide⟩
theorem F37_3 : Fld Tryz.prog 37 3 3 := ⟨_,_,Tryz.underlying37,rfl,rfl,1,(by unfold Sz; kernel_rfl),by decide⟩
theorem F37_4 : Fld Tryz.prog 37 4 4 := ⟨_,_,Tryz.underlying37,rfl,rfl,1,(by unfold Sz; kernel_rfl),by decide⟩
theorem F74_1 : Fld Tryz.prog 74 1 1 := ⟨_,_,Tryz.underlying74,rfl,rfl,1,(by unfold Sz; kernel_rfl),by decide⟩
theorem I74 : (Tryz.prog.info? 74).map (fun i => (i.zero,i.size,i.bytes)) = some (some (.agg #[.int .i32 0,.slice none 0 0]),2,32) := by kernel_rfl
theorem O35 : One Tryz.prog 35 := ⟨_,Tryz.underlying35,rfl⟩
theorem Z29 : Sz Tryz.prog 29 1 := by unfold Sz; kernel_rfl
theorem Z31 : Sz Tryz.prog 31 4 := by unfold Sz; kernel_rfl
theorem Z35 : Sz Tryz.prog 35 1 := by unfold Sz; kernel_rfl
theorem Z37 : Sz Tryz.prog 37 5 := by unfold Sz; kernel_rfl
theorem Z74 : Sz Tryz.prog 74 2 := by unfold Sz; kernel_rfl
theorem J37 : (Tryz.prog.info? 37).bind (·.zero) = some (.agg #[.int .i64 0,.int .i32 0,.slice none 0 0,.slice none 0 0,.int .i64 0]) := by kernel_rfl
structure D.Go7 where
 E : Int
 Block : Int
 Place : Int
deriving DecidableEq
instance : Inhabited D.Go7 := ⟨⟨0,0,0⟩⟩
section
variable {e : D.End} {n : Int}
end
section
variable {m : D.MFunc} {a b c : Int}
end
section
variable {bs : List D.MBlock} {i j : Nat} {se se2 : List Bool} {l l2 : List Int}
end
section
variable {m : D.MFunc} {k : Nat}
end
theorem predsT_nodup (bs : List D.MBlock) (k : Nat) (b : Int) : (predsT bs k b).Nodup := by
 unfold predsT
 exact List.Pairwise.map _ (fun a b hab h => hab (Int.ofNat_inj.1 h)) (List.Pairwise.filter _ List.nodup_range)
theorem WFm.nodup {m : D.MFunc} (hw : WFm m) {k : Nat} (hk : k < m.Blocks.length) : ∀ p ∈ (ix m.Blocks k).Phis,(p.In.map (·.From)).Nodup := by
 intro p hp
 obtain ⟨_,h3,_⟩ := hw.phi k hk p hp
 rw [h3]; exact predsT_nodup _ _ _
section
variable {N : Int} {K : List Int → List Int → List D.Event → List Int → Int → D.Outcome} {O : D.Outcome} {I : List D.Mach} {k j na : Nat} {rs me A ea : List Int} {cl : List D.Event} {s : Int}
end
def sameO (a b : D.Outcome) : Bool := decide (a.End = b.End ∧ a.Val = b.Val ∧ a.Mem = b.Mem ∧ a.Calls = b.Calls)
section
variable {a b : D.Outcome}
theorem same_no (h : ((¬ a.End = b.End ∨ ¬ a.Val = b.Val) ∨ rowsM a.Mem b.Mem = false) ∨ ¬ (a.Calls.length : Int) = (b.Calls.length : Int)) : sameO a b = false := by
 unfold sameO
 rw [decide_eq_false_iff_not]
 rintro ⟨h1,h2,h3,h4⟩
 rcases h with ((h | h) | h) | h
 · exact h h1
 · exact h h2
 · rw [h3] at h; simp [rowsM] at h
 · rw [h4] at h; exact h rfl
theorem same_head (h : (((a.End = b.End) ∧ a.Val = b.Val) ∧ rowsM a.Mem b.Mem = true) ∧ (a.Calls.length : Int) = (b.Calls.length : Int)) : a.End = b.End ∧ a.Val = b.Val ∧ a.Mem = b.Mem ∧ a.Calls.length = b.Calls.length := by
 refine ⟨h.1.1.1,h.1.1.2,?_,by omega⟩
 have := h.1.2
 unfold rowsM at this; simpa using this
theorem same_ev {k : Nat} (hk : k < a.Calls.length) (hl : a.Calls.length = b.Calls.length) (h : ¬ (ix a.Calls k).Callee = (ix b.Calls k).Callee ∨ rowsM (ix a.Calls k).Args (ix b.Calls k).Args = false) : sameO a b = false := by
 unfold sameO
 rw [decide_eq_false_iff_not]
 rintro ⟨h1,h2,h3,h4⟩
 rw [h4] at h
 rcases h with h | h
 · exact h rfl
 · simp [rowsM] at h
theorem same_next {k : Nat} (hk : k < a.Calls.length) (hl : a.Calls.length = b.Calls.length) (hT : a.Calls.take k = b.Calls.take k) (h : (ix a.Calls k).Callee = (ix b.Calls k).Callee ∧ rowsM (ix a.Calls k).Args (ix b.Calls k).Args = true) : a.Calls.take (k + 1) = b.Calls.take (k + 1) := by
 rw [take_ix hk,take_ix (by omega),hT]
 congr 1
 have e : ix a.Calls k = ix b.Calls k := by
   obtain ⟨h1,h2⟩ := h
   unfold rowsM at h2
   rw [decide_eq_true_eq] at h2
   generalize ix a.Calls k = x at *
   generalize ix b.Calls k = y at *
   cases x; cases y; simp_all
 rw [e]
theorem same_yes {k : Nat} (h : a.End = b.End ∧ a.Val = b.Val ∧ a.Mem = b.Mem ∧ a.Calls.length = b.Calls.length) (hk : a.Calls.length ≤ k) (hT : a.Calls.take k = b.Calls.take k) : sameO a b = true := by
 rw [List.take_of_length_le hk,List.take_of_length_le (by omega)] at hT
 unfold sameO; rw [decide_eq_true_eq]; exact ⟨h.1,h.2.1,h.2.2.1,hT⟩
end
theorem E15 : Ent Tryz.prog 15 := ⟨_,Tryz.func15,by kernel_rfl,by kernel_rfl⟩
theorem E32 : Ent Tryz.prog 32 := ⟨_,Tryz.func32,by kernel_rfl,by kernel_rfl⟩
theorem F74_0 : Fld Tryz.prog 74 0 0 := ⟨_,_,Tryz.underlying74,rfl,rfl,1,(by unfold Sz; kernel_rfl),by decide⟩
theorem rSame_ct {a0a a0b : Value} {a : D.Outcome} {a1a a1b : Value} {b : D.Outcome} : Tv Tryz.prog 32 #[vOutcome a (a0a,a0b),vOutcome b (a1a,a1b)] [da rOutcome (vOutcome a (a0a,a0b)) a,da rOutcome (vOutcome b (a1a,a1b)) b] [] (.bool (sameO a b)) := by
 refine jenter (args := [vOutcome a (a0a,a0b),vOutcome b (a1a,a1b)]) Tryz.func32 rfl rfl rfl fun w0 X => ?_
 refine jq (jr (jbox Z Z fun g2 => jbox Z Z fun g3 => ja Z (jn (jx (jq (jq (jr (js (jf F37_0 Z) (js (jl k1 O3 Z Z) ?_)))))))))
 refine js (jf F37_0 Z) (js (jl k0 O3 Z Z) (js (jneq Z Z) (jm Z (jg Z Z (.f _) (fun hg => jf F37_1 Z) (jg Z Z (.f _) (fun hg => jl k1 O21 (evg Z hg) Z) (jg Z Z (.f _) (fun hg => jf F37_1 Z) (jg Z Z (.f _) (fun hg => jl k0 O21 (evg Z hg) Z) (jg Z Z (.f _) (fun hg => jneq (evg Z hg) (evg Z hg)) (js (jor Z Z) (jm Z (jg Z Z (.f _) (fun hg => jf F37_2 Z) ?_)))))))))))
 refine jg Z Z (.f _) (fun hg => jl k1 O29 (evg Z hg) Z) (jg Z Z (.f _) (fun hg => jf F37_2 Z) (jg Z Z (.f _) (fun hg => jl k0 O29 (evg Z hg) Z) (jdq (rOutcome.c_Mem d0) fun q1 w1 => jdq (rOutcome.c_Mem d1) fun q2 w2 => jgc Z Z (.f _) E15 Z (fun hg => evl2 (evg Z hg) (evg Z hg)) (fun hg => words_ct) (fun hg => (dc (rOutcome.c_Mem d0) (dc (rOutcome.c_Mem d1) dn))) kn p0 (jg Z Z (.f _) (fun hg => jnot (evg Z hg)) (js (jor Z Z) (jm Z (jg Z Z (.f _) (fun hg => jf F37_3 Z) (jg Z Z (.f _) (fun hg => jl k1 O35 (evg Z hg) Z) (jdq (rOutcome.c_Calls d0) fun q3 w3 => ?_)))))))))
 refine jg Z Z (.f _) (fun hg => jln U35 (rOutcome.c_Calls d0) (evg Z hg)) (jg Z Z (.f _) (fun hg => jf F37_3 Z) (jg Z Z (.f _) (fun hg => jl k0 O35 (evg Z hg) Z) (jdq (rOutcome.c_Calls d1) fun q4 w4 => jg Z Z (.f _) (fun hg => jln U35 (rOutcome.c_Calls d1) (evg Z hg)) (jg Z Z (.f _) (fun hg => jneq (evg Z hg) (evg Z hg)) (js (jor Z Z) (jn (jx ?_)))))))
 refine jif Z (fun hc1 => ?_) (fun hc1 => ?_)
 refine jq (jr (ja Z (jn (jx (jrt (jtr ?_))))))
 exact jrB Z Z (by first | exact same_no hc1 | exact same_ev (by omega) hsh.2.2.2 hc3 | exact same_yes hsh (by omega) hT)
 have hsh := same_head hc1
 refine jsk (jx (jq (jq (jr (ja Z (jn (jx (jb ?_))))))))
 refine jlp (fun (k : Nat) => ⟨k ≤ a.Calls.length ∧ a.Calls.take k = b.Calls.take k,[da rOutcome (vOutcome a (a0a,a0b)) a,da rOutcome (vOutcome b (a1a,a1b)) b],[bx g3 37 [.int .i64 b.End,.int .i32 b.Val,a1a,a1b,.int .i64 b.Steps],bx g2 37 [.int .i64 a.End,.int .i32 a.Val,a0a,a0b,.int .i64 a.Steps]],[(2,.pointer (some ⟨g2,0,none⟩)),(3,.pointer (some ⟨g3,0,none⟩)),(5,.int .i64 (↑k))],a.Calls.length - k⟩) 0 ⟨by omega,rfl⟩ (dc d0 (dc d1 dn)) (kd kn) ⟨Z,Z,eqI (by omega),trivial⟩ ?_
 rintro k; dsimp only; rintro ⟨hk,hT⟩
 refine jq (jq (jr (jm Z (js (jf F37_3 Z) (js (jl k1 O35 Z Z) (js (jln U35 (rOutcome.c_Calls d0) Z) (js (jlss Z Z) (jn (jx ?_)))))))))
 refine jif Z (fun hc2 => ?_) (fun hc2 => ?_)
 refine jsk (jx (jq (jb (jq (jany false (.a 0 (.a 1 (.a 2 (.a 3 (.a 4 (.a 5 (.a 6 (.a 7 (.a 8 (.a 9 (.a 10 (.a 11 (.a 12 (.a 13 (.a 14 (.a 15 (.a 16 (.a 17 (.a 18 (.a 19 (.a 20 (.a 21 (.a 22 (.a 23 (.a 24 (.a 25 (.o 26 (.a 27 (.a 28 .e))))))))))))))))))))))))))))) Mixed (by kernel_rfl) (kd kn) fun F5 => jy Z (jf F37_3 Z) (jy Z (jl k1 O35 Z Z) (jy Z (jmv Z) (jy Z (jix U35 Z74 (rOutcome.c_Calls d0) Z Z Z (by omega)) (jy Z (jf F74_0 Z) (jy Z (jlI (rEvent.A_Callee (dix (rOutcome.c_Calls d0) k (by omega))) O21 Z) ?_))))))))))
 refine jy Z (jf F37_3 Z) (jy Z (jl k0 O35 Z Z) (jy Z (jmv Z) (jy Z (jix U35 Z74 (rOutcome.c_Calls d1) Z Z Z (by omega)) (jy Z (jf F74_0 Z) (jy Z (jlI (rEvent.A_Callee (dix (rOutcome.c_Calls d1) k (by omega))) O21 Z) (jy Z (jneq Z Z) (jy Z (jmv Z) (jyg Z Z Z (.f _) (fun hg => jf F37_3 Z) (jyg Z Z Z (.f _) (fun hg => jl k1 O35 (evg Z hg) Z) (jyg Z Z Z (.f _) (fun hg => jmv Z) (jyg Z Z Z (.f _) (fun hg => jix U35 Z74 (rOutcome.c_Calls d0) (evg Z hg) (evg Z hg) Z (by first | omega | (simp at hg; omega) | (simp only [List.length_set]; omega) | (simp; done))) ?_)))))))))))
 refine jyg Z Z Z (.f _) (fun hg => jf F74_1 (evg Z hg)) (jyge (q := fun v => dv (rL (rI .i32)) v ((ix a.Calls k).Args)) Z Z Z (.f _) (fun hg => xlV (rEvent.A_Args (dix (rOutcome.c_Calls d0) k (by first | omega | (simp at hg; omega) | (simp only [List.length_set]; omega) | (simp; done)))) O29 Z (evg Z hg)) fun v61 => jyg Z Z Z (.f _) (fun hg => jf F37_3 Z) (jyg Z Z Z (.f _) (fun hg => jl k0 O35 (evg Z hg) Z) (jyg Z Z Z (.f _) (fun hg => jmv Z) (jyg Z Z Z (.f _) (fun hg => jix U35 Z74 (rOutcome.c_Calls d2) (evg Z hg) (evg Z hg) Z (by first | omega | (simp at hg; omega) | (simp only [List.length_set]; omega) | (simp; done))) (jyg Z Z Z (.f _) (fun hg => jf F74_1 (evg Z hg)) (jyge (q := fun v => dv (rL (rI .i32)) v ((ix b.Calls k).Args)) Z Z Z (.f _) (fun hg => xlV (rEvent.A_Args (dix (rOutcome.c_Calls d2) k (by first | omega | (simp at hg; omega) | (simp only [List.length_set]; omega) | (simp; done)))) O29 Z (evg Z hg)) fun v67 => jyo Z (jgc Z Z (.f _) E15 Z (fun hg => evl2 (evg Z hg) (evg Z hg)) (fun hg => words_ct) (fun hg => (dc (d2.on hg) (dc (d1.on hg) dn))) kn p0 (jyn d0 (kd kn) (jyg Z Z Z (.f _) (fun hg => jnot (evg Z hg)) ?_)))))))))
 refine jy Z (jor Z Z) (jyd (jx ?_))
 refine jif Z (fun hc3 => ?_) (fun hc3 => ?_)
 refine jq (jr (ja Z (jn (jx (jrt (jbr (jtr (jtr (jbr (jtr ?_))))))))))
 exact jrB Z Z (by first | exact same_no hc1 | exact same_ev (by omega) hsh.2.2.2 hc3 | exact same_yes hsh (by omega) hT)
 refine jsk (jbn (jx (jr (jm Z (js (jadd Z Z (by omega)) (ja Z (jn ?_)))))))
 exact jag (k + 1) ⟨by omega,same_next (by omega) hsh.2.2.2 hT hc3⟩ (dc d3 (dc d4 dn)) (kd kn) ⟨Z,Z,eqI (by omega),trivial⟩
 refine jex (jtx (jtx (jbh (jx (jq (jr (ja Z (jn (jx (jrt ?_))))))))))
 exact jrB Z Z (by first | exact same_no hc1 | exact same_ev (by omega) hsh.2.2.2 hc3 | exact same_yes hsh (by omega) hT)
structure BV where
 P : Value
 I : Value
 T : D.Term
instance : Inhabited BV := ⟨⟨.slice none 0 0,.slice none 0 0,default⟩⟩
def rBV : Rp BV := rM (rP rV (rP rV rTerm)) (fun m => (m.P,m.I,m.T))
abbrev bkL (B : Nat) (v : Value) (qs : List BV) (bs : List D.Block) : List Res := [gl B rBV 62 v qs,rw' B rPhi 65 (qs.map BV.P) (bs.map D.Block.Phis),rw' B rIns 67 (qs.map BV.I) (bs.map D.Block.Ins)]
abbrev bkF (qs : List BV) (bs : List D.Block) : Prop := qs.length = bs.length ∧ qs.map BV.T = bs.map D.Block.Term
def bk (B : Nat) (v : Value) (qs : List BV) (bs : List D.Block) : Res where
 sat F H := bkF qs bs ∧ Ok F H (bkL B v qs bs)
 own := Own (bkL B v qs bs)
 lt := fun h => Ok.lt h.2
 no := fun h => Ok.no h.2
 st := fun hl hs h1 h2 h => ⟨h.1,Ok.st hl hs h1 h2 h.2⟩
section
variable {P : Program} {D0 Γ : List Dt} {L M N L0 : List Res} {e : Env} {X : Cx} {n : Fs} {w0 : World} {Q : Exit → Act → World → Prop} {F G : PH} {H : Heap} {B j i o : Nat} {v u v' : Value} {qs : List BV} {bs : List D.Block} {q' : BV} {b' : D.Block}
theorem hp_bko (h : Hp X Γ (bk B v qs bs :: M) F H) : bkF qs bs ∧ Hp X Γ (bkL B v qs bs ++ M) F H :=
 ⟨h.ok.1.1,⟨h.hx,h.hin,h.hw,h.hd,Ok.app h.ok.1.2 h.ok.2.2 h.ok.2.1,fun k hk => h.ge k ((Own.app.1 hk).imp id id)⟩⟩
theorem hp_bkc (hf : bkF qs bs) (h : Hp X Γ (bkL B v qs bs ++ M) F H) : Hp X Γ (bk B v qs bs :: M) F H := by
 obtain ⟨a,b,c⟩ := Ok.un.2 h.ok
 exact ⟨h.hx,h.hin,h.hw,h.hd,⟨⟨hf,a⟩,b,c⟩,fun k hk => h.ge k (Own.app.2 (hk.imp id id))⟩
theorem ix_map {α β : Type} [Inhabited α] [Inhabited β] (f : α → β) {l : List α} {i : Nat} (h : i < l.length) (z : β) : (l.map f).getD i z = f (ix l i) := by simp [ix,List.getD,h]
theorem map_same {α β : Type} [Inhabited α] (f : α → β) {l : List α} {i : Nat} {a : α} (h : i < l.length) (e : f a = f (ix l i)) : (l.set i a).map f = l.map f := by
 rw [List.map_set,e]
 apply List.ext_getElem (by simp)
 intro k h1 h2
 by_cases h3 : i = k
 · subst h3; simp [ix_eq h]
 · rw [List.getElem_set_ne h3]
theorem jbh0 {T : TypeId} {x : Operand} (hk : Tk L (bk B v qs bs) M) (h1 : j < bs.length) (hT : One P T) (hx : ev e x = some (.pointer (some ⟨vblk v,o,none⟩))) (ho : o = voff v + j * 6 + 0) : OH P Γ L e (.load T x) (ix qs j).P := fun F H _ _ h => by
 have h2 := (hk.ok h).1
 obtain ⟨f,h3,h4⟩ := h2.2.1.1.cellP (off := 0) (i := j) (by rw [h2.1.1]; exact h1) (by decide)
 have h5 : f 0 = (ix qs j).P := h3.1.1
 rw [h5] at h4
 exact OpOk.load hT hx rfl (by rw [ho]; exact h4)
theorem jbh1 {T : TypeId} {x : Operand} (hk : Tk L (bk B v qs bs) M) (h1 : j < bs.length) (hT : One P T) (hx : ev e x = some (.pointer (some ⟨vblk v,o,none⟩))) (ho : o = voff v + j * 6 + 1) : OH P Γ L e (.load T x) (ix qs j).I := fun F H _ _ h => by
 have h2 := (hk.ok h).1
 obtain ⟨f,h3,h4⟩ := h2.2.1.1.cellP (off := 1) (i := j) (by rw [h2.1.1]; exact h1) (by decide)
 have h5 : f 1 = (ix qs j).I := h3.2.1.1
 rw [h5] at h4
 exact OpOk.load hT hx rfl (by rw [ho]; exact h4)
def hole0 (j B : Nat) (v : Value) (qs : List BV) (bs : List D.Block) : Res where
 sat F H := bkF qs bs ∧ Ok F H [gl B rBV 62 v qs,hole j B rPhi 65 (qs.map BV.P) (bs.map D.Block.Phis),rw' B rIns 67 (qs.map BV.I) (bs.map D.Block.Ins)]
 own := Own [gl B rBV 62 v qs,hole j B rPhi 65 (qs.map BV.P) (bs.map D.Block.Phis),rw' B rIns 67 (qs.map BV.I) (bs.map D.Block.Ins)]
 lt := fun h => Ok.lt h.2
 no := fun h => Ok.no h.2
 st := fun hl hs h1 h2 h => ⟨h.1,Ok.st hl hs h1 h2 h.2⟩
def hole1 (j B : Nat) (v : Value) (qs : List BV) (bs : List D.Block) : Res where
 sat F H := bkF qs bs ∧ Ok F H [gl B rBV 62 v qs,rw' B rPhi 65 (qs.map BV.P) (bs.map D.Block.Phis),hole j B rIns 67 (qs.map BV.I) (bs.map D.Block.Ins)]
 own := Own [gl B rBV 62 v qs,rw' B rPhi 65 (qs.map BV.P) (bs.map D.Block.Phis),hole j B rIns 67 (qs.map BV.I) (bs.map D.Block.Ins)]
 lt := fun h => Ok.lt h.2
 no := fun h => Ok.no h.2
 st := fun hl hs h1 h2 h => ⟨h.1,Ok.st hl hs h1 h2 h.2⟩
theorem hp_re {L2 : List Res} (h : Hp X Γ L F H) (ho : Ok F H L → Ok F H L2) (hw : ∀ k,Own L2 k → Own L k) : Hp X Γ L2 F H := ⟨h.hx,h.hin,h.hw,h.hd,ho h.ok,fun k hk => h.ge k (hw k hk)⟩
theorem hp_tks {Ls : List Res} (h : Hp X Γ L F H) (hk : Tks L Ls M) : Hp X Γ (Ls ++ M) F H := hp_re h (fun o => by obtain ⟨a,b,c⟩ := hk.ok o; exact Ok.app a b c) (fun k hk' => hk.own (Own.app.1 hk'))
theorem hp_box {R : Res} {Ls : List Res} (h : Hp X Γ (R :: (Ls ++ M)) F H) : Hp X Γ (R :: it Ls :: M) F H := by
 obtain ⟨a,b,c⟩ := h.ok
 exact ⟨h.hx,h.hin,h.hw,h.hd,⟨a,fun k hk ho => b k hk (Own.app.2 ho),Ok.un.2 c⟩,fun k hk => h.ge k (hk.imp id Own.app.2)⟩
theorem hp_unbox {R : Res} {Ls : List Res} (h : Hp X Γ (R :: it Ls :: M) F H) : Hp X Γ (R :: (Ls ++ M)) F H := by
 obtain ⟨a,b,c⟩ := h.ok
 exact ⟨h.hx,h.hin,h.hw,h.hd,⟨a,fun k hk ho => b k hk (Own.app.1 ho),Ok.un.1 c⟩,fun k hk => h.ge k (hk.imp id Own.app.1)⟩
variable {ops : Array Oper} {rest : List Oper} {ty : TypeId} {pos : String} {af : Array Edge}
theorem jbf0 (j : Nat) (hk : Tk L (bk B v qs bs) M) (h1 : j < bs.length) (k : LH P n w0 ops Q X Γ (gl B rPhi 65 (ix qs j).P (ix bs j).Phis :: hole0 j B v qs bs :: M) e rest) : LH P n w0 ops Q X Γ L e rest := fun F H hp => by
 obtain ⟨hf,h2⟩ := hp_bko (hp.front hk)
 have hl : j < qs.length := by rw [hf.1]; exact h1
 have h3 := h2.row (k1 : Tk _ (rw' B rPhi 65 (qs.map BV.P) (bs.map D.Block.Phis)) _) (i := j) (by simpa using hl) (by simpa using h1)
 rw [ix_map BV.P hl,ix_map D.Block.Phis h1] at h3
 have h4 := hp_tks h3 (kc k0 (kc k1 (kd kn)))
 obtain ⟨a,b,x,y,z⟩ := (hp_box (Ls := [_,_,_]) h4).ok
 exact k F H ⟨h4.hx,h4.hin,h4.hw,h4.hd,⟨a,b,⟨hf,x⟩,y,z⟩,(hp_box (Ls := [_,_,_]) h4).ge⟩
theorem jbf1 (j : Nat) (hk : Tk L (bk B v qs bs) M) (h1 : j < bs.length) (k : LH P n w0 ops Q X Γ (gl B rIns 67 (ix qs j).I (ix bs j).Ins :: hole1 j B v qs bs :: M) e rest) : LH P n w0 ops Q X Γ L e rest := fun F H hp => by
 obtain ⟨hf,h2⟩ := hp_bko (hp.front hk)
 have hl : j < qs.length := by rw [hf.1]; exact h1
 have h3 := h2.row (k2 : Tk _ (rw' B rIns 67 (qs.map BV.I) (bs.map D.Block.Ins)) _) (i := j) (by simpa using hl) (by simpa using h1)
 rw [ix_map BV.I hl,ix_map D.Block.Ins h1] at h3
 have h4 := hp_tks h3 (kc k0 (kc k1 (kc k1 (kc k0 kn))))
 obtain ⟨a,b,x,y,z⟩ := (hp_box (Ls := [_,_,_]) h4).ok
 exact k F H ⟨h4.hx,h4.hin,h4.hw,h4.hd,⟨a,b,⟨hf,x⟩,y,z⟩,(hp_box (Ls := [_,_,_]) h4).ge⟩
theorem putP {m : BV} {f : Nat → Value} (h1 : u.oneCell' = true) (h : rBV.ok F m f) : rBV.ok F { m with P := u } (putf 0 [u] f) :=
 ⟨⟨rfl,h1⟩,⟨h.2.1.1,h.2.1.2⟩,rTerm.ext (fun i _ => by show _ = putf 0 [u] f (i + 1 + 1); unfold putf; rw [if_neg (by simp)]; rfl) h.2.2⟩
theorem putI {m : BV} {f : Nat → Value} (h1 : u.oneCell' = true) (h : rBV.ok F m f) : rBV.ok F { m with I := u } (putf 1 [u] f) :=
 ⟨⟨h.1.1,h.1.2⟩,⟨rfl,h1⟩,rTerm.ext (fun i _ => by show _ = putf 1 [u] f (i + 1 + 1); unfold putf; rw [if_neg (by simp)]; rfl) h.2.2⟩
theorem putT {m : BV} {f : Nat → Value} {us : List Value} {t : D.Term} (hl : us.length = 4) (ht : rTerm.ok F t (fun i => us.getD i undef)) (h : rBV.ok F m f) : rBV.ok F { m with T := t } (putf 2 us f) :=
 ⟨⟨by show putf 2 us f 0 = _; unfold putf; rw [if_neg (by simp)]; exact h.1.1,h.1.2⟩,⟨by show putf 2 us f 1 = _; unfold putf; rw [if_neg (by simp)]; exact h.2.1.1,h.2.1.2⟩,
  rTerm.ext (fun i hi => by
   have hi : i < 4 := hi
   show _ = putf 2 us f (i + 1 + 1); unfold putf; rw [if_pos (by omega)]; rfl) ht⟩
theorem putTo {m : BV} {f : Nat → Value} {l : List Int} (hu : (rL (rI .i64)).rv F u l) (h : rBV.ok F m f) : rBV.ok F { m with T := { m.T with To := l } } (putf 4 [u] f) :=
 ⟨⟨h.1.1,h.1.2⟩,⟨h.2.1.1,h.2.1.2⟩,⟨h.2.2.1.1,h.2.2.1.2⟩,(rL (rI .i64)).ext (fun i hi => by rw [show i = 0 from Nat.lt_one_iff.1 hi]; rfl) h.2.2.2.1,(rL (rI .i64)).ext (fun i hi => by rw [show i = 0 from Nat.lt_one_iff.1 hi]; rfl) hu,⟨h.2.2.2.2.2.1,h.2.2.2.2.2.2⟩⟩
theorem bkF_set (hf : bkF qs bs) (h1 : j < bs.length) (e : q'.T = b'.Term) : bkF (qs.set j q') (bs.set j b') := ⟨by simp [hf.1],by rw [List.map_set,List.map_set,hf.2,e]⟩
theorem jbs1 {T : TypeId} {x y : Operand} {l' : List D.Ins} (hk : Tk L (gl B rIns 67 v' l') M) (hk2 : Tk M (hole1 j B v qs bs) N) (h1 : j < bs.length) (hT : Sz P T 1) (hx : ev e x = some (.pointer (some ⟨vblk v,o,none⟩))) (ho : o = voff v + j * 6 + 1) (hy : ev e y = some v') (hv : v'.oneCell' = true)
   (k : LH P n w0 ops Q X Γ (bk B v (qs.set j { (ix qs j) with I := v' }) (bs.set j { (ix bs j) with Ins := l' }) :: N) e rest) : LH P n w0 ops Q X Γ L e (⟨none,.store T x y,ty,pos,af,none⟩ :: rest) := fun F H hp => by
 have h3 := hp_tks hp (kc hk (kc hk2 kn))
 have hf : bkF qs bs := h3.ok.2.2.1.1
 have h4 : Hp X Γ (gl B rIns 67 v' l' :: gl B rBV 62 v qs :: rw' B rPhi 65 (qs.map BV.P) (bs.map D.Block.Phis) :: hole j B rIns 67 (qs.map BV.I) (bs.map D.Block.Ins) :: N) F H :=
   hp_unbox (Ls := [_,_,_]) ⟨h3.hx,h3.hin,h3.hw,h3.hd,⟨h3.ok.1,h3.ok.2.1,h3.ok.2.2.1.2,h3.ok.2.2.2⟩,h3.ge⟩
 have hl : j < qs.length := by rw [hf.1]; exact h1
 refine LF.chg0 (OpCh.storeP (h4.at k1).1 hl hT hx ho hy hv (by decide) (fun f => putI hv)) ?_
 rintro _ H' ⟨g,hg,t,hb⟩
 have h5 := h4.set (R' := gl B rBV 62 v (qs.set j { (ix qs j) with I := v' })) k1 ⟨Nat.le_of_eq t.1.symm,fun k _ h2 => t.2 k (fun e1 => h2 (e1 ▸ hg))⟩ ⟨hb,by rw [t.1]; exact hp1 h4 k1⟩ (fun k h => .inr h)
 have h6 := (hp_tks h5 (kc k1 (kc k2 (kd kn)))).unrow (by simpa using hl) (by simpa using h1)
 rw [show (List.map BV.I qs).set j v' = List.map BV.I (qs.set j { (ix qs j) with I := v' }) by rw [List.map_set],show (List.map D.Block.Ins bs).set j l' = List.map D.Block.Ins (bs.set j { (ix bs j) with Ins := l' }) by rw [List.map_set],
   ← map_same BV.P (a := { (ix qs j) with I := v' }) hl rfl,← map_same D.Block.Phis (a := { (ix bs j) with Ins := l' }) h1 rfl] at h6
 exact k F H' (hp_bkc (bkF_set hf h1 (by
   have := congrArg (fun l => l.getD j default) hf.2
   rwa [ix_map BV.T hl,ix_map D.Block.Term h1] at this)) (hp_tks h6 (kc k1 (kc k1 (kc k0 kn)))))
theorem jbs0 {T : TypeId} {x y : Operand} {l' : List D.Phi} (hk : Tk L (gl B rPhi 65 v' l') M) (hk2 : Tk M (hole0 j B v qs bs) N) (h1 : j < bs.length) (hT : Sz P T 1) (hx : ev e x = some (.pointer (some ⟨vblk v,o,none⟩))) (ho : o = voff v + j * 6 + 0) (hy : ev e y = some v') (hv : v'.oneCell' = true)
   (k : LH P n w0 ops Q X Γ (bk B v (qs.set j { (ix qs j) with P := v' }) (bs.set j { (ix bs j) with Phis := l' }) :: N) e rest) : LH P n w0 ops Q X Γ L e (⟨none,.store T x y,ty,pos,af,none⟩ :: rest) := fun F H hp => by
 have h3 := hp_tks hp (kc hk (kc hk2 kn))
 have hf : bkF qs bs := h3.ok.2.2.1.1
 have h4 : Hp X Γ (gl B rPhi 65 v' l' :: gl B rBV 62 v qs :: hole j B rPhi 65 (qs.map BV.P) (bs.map D.Block.Phis) :: rw' B rIns 67 (qs.map BV.I) (bs.map D.Block.Ins) :: N) F H :=
   hp_unbox (Ls := [_,_,_]) ⟨h3.hx,h3.hin,h3.hw,h3.hd,⟨h3.ok.1,h3.ok.2.1,h3.ok.2.2.1.2,h3.ok.2.2.2⟩,h3.ge⟩
 have hl : j < qs.length := by rw [hf.1]; exact h1
 refine LF.chg0 (OpCh.storeP (h4.at k1).1 hl hT hx ho hy hv (by decide) (fun f => putP hv)) ?_
 rintro _ H' ⟨g,hg,t,hb⟩
 have h5 := h4.set (R' := gl B rBV 62 v (qs.set j { (ix qs j) with P := v' })) k1 ⟨Nat.le_of_eq t.1.symm,fun k _ h2 => t.2 k (fun e1 => h2 (e1 ▸ hg))⟩ ⟨hb,by rw [t.1]; exact hp1 h4 k1⟩ (fun k h => .inr h)
 have h6 := (hp_tks h5 (kc k1 (kc k1 (kd kn)))).unrow (by simpa using hl) (by simpa using h1)
 rw [show (List.map BV.P qs).set j v' = List.map BV.P (qs.set j { (ix qs j) with P := v' }) by rw [List.map_set],show (List.map D.Block.Phis bs).set j l' = List.map D.Block.Phis (bs.set j { (ix bs j) with Phis := l' }) by rw [List.map_set],
   ← map_same BV.I (a := { (ix qs j) with P := v' }) hl rfl,← map_same D.Block.Ins (a := { (ix bs j) with Phis := l' }) h1 rfl] at h6
 exact k F H' (hp_bkc (bkF_set hf h1 (by
   have := congrArg (fun l => l.getD j default) hf.2
   rwa [ix_map BV.T hl,ix_map D.Block.Term h1] at this)) (hp_tks h6 (kc k1 (kd kn))))
theorem jbw0 {c : LH P n w0 ops Q X Γ (bk B v qs (bs.set j b') :: N) e rest} (hk : Tk L (gl B rPhi 65 (ix qs j).P b'.Phis) M) (hk2 : Tk M (hole0 j B v qs bs) N) (h1 : j < bs.length) (hI : b'.Ins = (ix bs j).Ins) (hT : b'.Term = (ix bs j).Term) : LH P n w0 ops Q X Γ L e rest := fun F H hp => by
 have h3 := hp_tks hp (kc hk (kc hk2 kn))
 have hf : bkF qs bs := h3.ok.2.2.1.1
 have h4 : Hp X Γ (gl B rPhi 65 (ix qs j).P b'.Phis :: gl B rBV 62 v qs :: hole j B rPhi 65 (qs.map BV.P) (bs.map D.Block.Phis) :: rw' B rIns 67 (qs.map BV.I) (bs.map D.Block.Ins) :: N) F H :=
   hp_unbox (Ls := [_,_,_]) ⟨h3.hx,h3.hin,h3.hw,h3.hd,⟨h3.ok.1,h3.ok.2.1,h3.ok.2.2.1.2,h3.ok.2.2.2⟩,h3.ge⟩
 have hl : j < qs.length := by rw [hf.1]; exact h1
 have h6 := (hp_tks h4 (kc k0 (kc k1 (kd kn)))).unrow (by simpa using hl) (by simpa using h1)
 rw [← ix_map BV.P hl undef,set_same,show (List.map D.Block.Phis bs).set j b'.Phis = List.map D.Block.Phis (bs.set j b') by rw [List.map_set],
   ← map_same D.Block.Ins (a := b') h1 hI] at h6
 exact c F H (hp_bkc ⟨by simp [hf.1],by rw [hf.2,map_same D.Block.Term h1 hT]⟩ (hp_tks h6 (kc k1 (kd kn))))
theorem hp_term {H' : Heap} {t : D.Term} (hp : Hp X Γ L F H) (hk : Tk L (bk B v qs bs) M) (h1 : j < bs.length)
   (hs : Gl rBV 62 F H B v qs → ∃ g,v.ownBlock = some g ∧ Tw g H H' ∧ Gl rBV 62 F H' B v (qs.set j { (ix qs j) with T := t })) : Hp X Γ (bk B v (qs.set j { (ix qs j) with T := t }) (bs.set j { (ix bs j) with Term := t }) :: M) F H' := by
 obtain ⟨hf,h4⟩ := hp_bko (hp.front hk)
 have hl : j < qs.length := by rw [hf.1]; exact h1
 obtain ⟨g,hg,t',hb⟩ := hs (h4.at k0).1
 have h5 := h4.set (R' := gl B rBV 62 v (qs.set j { (ix qs j) with T := t })) k0 ⟨Nat.le_of_eq t'.1.symm,fun k _ h2 => t'.2 k (fun e1 => h2 (e1 ▸ hg))⟩ ⟨hb,by rw [t'.1]; exact hp1 h4 k0⟩ (fun k h => .inr h)
 rw [← map_same BV.P (a := { (ix qs j) with T := t }) hl rfl,← map_same BV.I (a := { (ix qs j) with T := t }) hl rfl,← map_same D.Block.Phis (a := { (ix bs j) with Term := t }) h1 rfl,← map_same D.Block.Ins (a := { (ix bs j) with Term := t }) h1 rfl] at h5
 exact hp_bkc (bkF_set hf h1 rfl) h5
theorem jbT {T : TypeId} {x y : Operand} {us : List Value} {t : D.Term} (hk : Tk L (bk B v qs bs) M) (h1 : j < bs.length) (hT : Sz P T 4) (hx : ev e x = some (.pointer (some ⟨vblk v,o,none⟩))) (ho : o = voff v + j * 6 + 2) (hy : ev e y = some (.agg us.toArray)) (hu : us.length = 4) (hv : allOne us) (ht : Nd Γ L (da rTerm (.agg us.toArray) t))
   (k : LH P n w0 ops Q X Γ (bk B v (qs.set j { (ix qs j) with T := t }) (bs.set j { (ix bs j) with Term := t }) :: M) e rest) : LH P n w0 ops Q X Γ L e (⟨none,.store T x y,ty,pos,af,none⟩ :: rest) := fun F H hp => by
 have hq := (hp.at hk)
 have ht' := ht F H hp.hin hp.hd hp.ok
 obtain ⟨l',e1,_,h3⟩ := ht'
 injection e1 with e1; have e1 : us = l' := by simpa using e1
 subst e1
 exact LF.chg0 (OpCh.storePA hq.2.1.1 (by rw [hq.1.1]; exact h1) hT hx ho hy hu hv.mem (by decide) (by rw [hu]; decide) (fun f => putT hu h3)) (by rintro _ H' h4; exact k F H' (hp_term hp hk h1 fun _ => h4))
theorem jbTo {T : TypeId} {x y : Operand} {l : List Int} (hk : Tk L (bk B v qs bs) M) (h1 : j < bs.length) (hT : Sz P T 1) (hx : ev e x = some (.pointer (some ⟨vblk v,o,none⟩))) (ho : o = voff v + j * 6 + 2 + 2) (hy : ev e y = some u) (hv : u.oneCell' = true) (ht : Nd Γ L (dv (rL (rI .i64)) u l))
   (k : LH P n w0 ops Q X Γ (bk B v (qs.set j { (ix qs j) with T := { (ix bs j).Term with To := l } }) (bs.set j { (ix bs j) with Term := { (ix bs j).Term with To := l } }) :: M) e rest) : LH P n w0 ops Q X Γ L e (⟨none,.store T x y,ty,pos,af,none⟩ :: rest) := fun F H hp => by
 have hq := (hp.at hk)
 have hl : j < qs.length := by rw [hq.1.1]; exact h1
 have he : (ix qs j).T = (ix bs j).Term := by
   have := congrArg (fun l => l.getD j default) hq.1.2
   rwa [ix_map BV.T hl,ix_map D.Block.Term h1] at this
 exact LF.chg0 (OpCh.storeP hq.2.1.1 hl hT hx (off := 4) (by rw [ho,Nat.add_assoc]; rfl) hy hv (by decide) (fun f h => he ▸ putTo (ht F H hp.hin hp.hd hp.ok) h)) (by rintro _ H' h4; exact k F H' (hp_term hp hk h1 fun _ => h4))
theorem own_rep {α : Type} {r : Rp α} {T k : Nat} {B : Nat} : ∀ m,¬ Own (rws B r T (List.replicate m (.slice none 0 0)) (List.replicate m [])) k
 | 0 => id
 | m + 1 => fun h => h.elim (fun h => by cases h) (own_rep m)
theorem ok_rep {α : Type} {r : Rp α} {T : Nat} {B : Nat} (hB : B ≤ H.size) : ∀ m,Ok F H (rws B r T (List.replicate m (.slice none 0 0)) (List.replicate m []))
 | 0 => trivial
 | m + 1 => ⟨⟨Gl.nil _ _ _,hB⟩,(fun k h => by cases h),ok_rep hB m⟩
theorem jbmk {T : TypeId} {x y : Operand} {z : Value} {bytes m d : Nat} {I J : Int} (hT : P.underlying T = some (.slice 62)) (hE : (P.info? 62).map (fun i => (i.zero,i.size,i.bytes)) = some (some z,6,bytes)) (hz : z.cells = #[.slice none 0 0,.slice none 0 0,.int .i64 0,.slice none 0 0,.slice none 0 0,.int .i32 0])
   (hx : ev e x = some (.int .i64 I)) (hy : ev e y = some (.int .i64 J)) (hI : I = m) (hJ : J = m) (h1 : bytes * m ≤ 281474976710656 ∧ m ≤ 140737488355328)
   (k : ∀ g,LH P n w0 ops Q X Γ (bk X.n (.slice (some ⟨g,0,none⟩) m m) (List.replicate m default) (List.replicate m default) :: L) ((d,.slice (some ⟨g,0,none⟩) m m) :: e) rest) (hd : Nat.blt d n.sz = true := by rfl) : LH P n w0 ops Q X Γ L e (⟨some d,.makeSlice T x y,ty,pos,af,none⟩ :: rest) := fun F H hp =>
 LF.chg (OpCh.makeN (F := F) (r := rBV) (n := m) (a := default) hT hE (by rw [hz]; rfl) (by decide) hx hy hI hJ h1.1 h1.2 (by rw [hz]; exact ⟨⟨rfl,rfl⟩,⟨rfl,rfl⟩,⟨rfl,rfl⟩,rL.nil _,rL.nil _,rfl,rfl⟩)) (by
   rintro _ H' ⟨g,rfl,eg,sg,kg,hb⟩
   refine k g F H' (hp.new (R := bk X.n (.slice (some ⟨g,0,none⟩) m m) (List.replicate m default) (List.replicate m default)) kg ⟨⟨by simp,by simp; exact .inr rfl⟩,?_⟩ ?_)
   · have hB : X.n ≤ H'.size := Nat.le_trans hp.hw.1 kg.1
     refine ⟨⟨(hb hp.hin).base hp.hw.1,hB⟩,fun k _ ho => ?_,?_,fun k ho => ?_,?_,fun _ _ h => h,trivial⟩
     · simp only [List.map_replicate] at ho
       exact ho.elim (fun h => own_rep m h) (fun h => h.elim (fun h => own_rep m h) id)
     · rw [List.map_replicate,List.map_replicate]; exact ok_rep hB m
     · rw [List.map_replicate,List.map_replicate] at ho; exact (own_rep m ho).elim
     · rw [List.map_replicate,List.map_replicate]; exact ok_rep hB m
   · rintro k (h | h | h | h)
     · exact ((hb hp.hin).blk k h).1
     · rw [List.map_replicate,List.map_replicate] at h; exact (own_rep m h).elim
     · rw [List.map_replicate,List.map_replicate] at h; exact (own_rep m h).elim
     · exact h.elim) hd
abbrev lensB (bs : List D.Block) : Prop := bs.length < 1073741824 ∧ ∀ b ∈ bs,b.Phis.length < 1073741824 ∧ b.Ins.length < 1073741824
theorem bk_freeze (hin : InH F H) (h : (bk B v qs bs).sat F H) (hl : lensB bs) : ∃ G,F.le G ∧ InH G H ∧ (∀ k,k < B → G k = F k) ∧ (∀ k,¬ (bk B v qs bs).own k → G k = F k) ∧ (rL rBlock).rv G v bs := by
 obtain ⟨hf,o1,o2,o3,o4,o5,_⟩ := h
 have o1' : Gl rBV 62 F H B v qs := o1.1
 obtain ⟨G,f1,f2,f3,f4,f5⟩ := o1'.freeze (N := 1073741824) hin (by rw [hf.1]; exact hl.1)
 have q3 : Ok G H (rws B rPhi 65 (qs.map BV.P) (bs.map D.Block.Phis)) := Ok.st f1 (Nat.le_refl _) (fun k hk => (f4 k (fun e1 => o2 k e1 (.inl hk))).trans (Ok.no (L := rws B rPhi 65 (qs.map BV.P) (bs.map D.Block.Phis)) o3 hk)) (fun _ _ => rfl) o3
 obtain ⟨K,g1,g2,g3,g4,g5⟩ := rws_freeze f2 q3 (by simp [hf.1]) (fun l hl' => by obtain ⟨b,hb,rfl⟩ := List.mem_map.1 hl'; exact (hl.2 b hb).1)
 have q5 : Ok K H (rws B rIns 67 (qs.map BV.I) (bs.map D.Block.Ins)) := Ok.st (f1.trans g1) (Nat.le_refl _) (fun k hk => ((g4 k (fun h => o4 k h (.inl hk))).trans (f4 k (fun e1 => o2 k e1 (.inr (.inl hk))))).trans (Ok.no (L := rws B rIns 67 (qs.map BV.I) (bs.map D.Block.Ins)) o5 hk)) (fun _ _ => rfl) o5
 obtain ⟨J,i1,i2,i3,i4,i5⟩ := rws_freeze g2 q5 (by simp [hf.1]) (fun l hl' => by obtain ⟨b,hb,rfl⟩ := List.mem_map.1 hl'; exact (hl.2 b hb).2)
 refine ⟨J,(f1.trans g1).trans i1,i2,fun k hk => (i3 k hk).trans ((g3 k hk).trans (f3 k hk)),fun k hk => (i4 k (fun h => hk (.inr (.inr (.inl h))))).trans ((g4 k (fun h => hk (.inr (.inl h)))).trans (f4 k (fun h => hk (.inl h)))),?_⟩
 obtain ⟨a,b,c,d,f,g,g',x,y⟩ := Rp.rv.up f5 (g1.trans i1)
 refine ⟨hf.1 ▸ a,b,c,hf.1 ▸ d,hf.1 ▸ f,fun i hi => g i (by rw [hf.1]; exact hi),g',fun i hi => x i (by rw [hf.1]; exact hi),fun i hi => ?_⟩
 have hi' : i < qs.length := by rw [hf.1]; exact hi
 have h2 := y i hi'
 have h3 := Rp.rv.up (g5 i (by simpa using hi') (by simpa using hi)) i1
 have h4 := i5 i (by simpa using hi') (by simpa using hi)
 simp only [List.getElem_map] at h3 h4
 have h5 : qs[i].T = bs[i].Term := by
   have := congrArg (fun l => l[i]?) hf.2
   simpa [hi,hi'] using this
 have h6 : rTerm.ok J qs[i].T (fun q => g' (i * 6 + (q + 1 + 1))) := h2.2.2
 rw [h5] at h6
 refine ⟨(rL rPhi).ext (fun j hj => ?_) h3,(rL rIns).ext (fun j hj => ?_) h4,h6⟩
 · rw [show j = 0 from Nat.lt_one_iff.1 hj]; exact h2.1.1.symm
 · rw [show j = 0 from Nat.lt_one_iff.1 hj]; exact h2.2.1.1.symm
theorem hp_bfz (hp : Hp X Γ L F H) (hk : Tk L (bk X.n v qs bs) M) (hl : lensB bs) : ∃ G,Hp X (dv (rL rBlock) v bs :: Γ) M G H := by
 obtain ⟨o1,o2,o3⟩ := hk.ok hp.ok
 obtain ⟨G,h1,h2,h3,h4,h5⟩ := bk_freeze hp.hin o1 hl
 have h6 : ∀ k,Own M k → G k = F k := fun k hk1 => h4 k (fun e1 => o2 k e1 hk1)
 exact ⟨G,⟨⟨hp.hx.1.trans h1,fun k hk1 => (h3 k hk1).trans (hp.hx.2 k hk1)⟩,h2,hp.hw,⟨h5,hp.hd.up h1⟩,o3.st h1 (Nat.le_refl _) (fun k hk1 => (h6 k hk1).trans (o3.no hk1)) (fun _ _ => rfl),fun k hk1 => hp.ge k (hk.own (.inr hk1))⟩⟩
theorem qbfz {x : Exit} (hk : Tk L (bk X.n v qs bs) M) (hl : lensB bs) (k : QH n w0 Q X (dv (rL rBlock) v bs :: Γ) M e x) : QH n w0 Q X Γ L e x := fun F H hp => by
 obtain ⟨G,h⟩ := hp_bfz hp hk hl; exact k G H h
variable {f : FuncId} {args : Array Value} {x : Value}
theorem glflatB {T : TypeId} {F G : PH} {H : Heap} {B : Nat} {v : Value} {l : List Bool} (h : Gl rB T G H B v l) (hl : F.le G) : Gl rB T F H B v l := by
 obtain ⟨xs,h1,h2,h3⟩ := h
 refine ⟨xs,h1,fun b hb => ?_,h3⟩
 cases hF : F b with
 | none => rfl
 | some o => have := hl b o hF; rw [h2 b hb] at this; cases this
theorem Tg_bt {kd : IntKind} {T2 : TypeId} {m : List Int} (h : Tg P f args (dv (rL rBlock) v bs :: D0) [] (rI kd) T2 m) (hl : lensB bs) : Tr P f args D0 [bk B v qs bs] (fun v : Value => v) (fun _ => []) (fun B' u => [gl B' (rI kd) T2 u m,bk B v qs bs]) := fun F H hin hd ho => by
 obtain ⟨G,g1,g2,g3,g4,g5⟩ := bk_freeze hin ho.1 hl
 refine (h G H g2 ⟨g5,hd.up g1⟩ trivial).mono ?_
 rintro u H' ⟨_,F',rfl,h2⟩
 refine ⟨u,F,rfl,fun B' hB => ?_⟩
 have h3 := h2 B' hB
 obtain ⟨a,b,c⟩ := h3.less hin g1
 have hu : ∀ k,u.ownBlock = some k → H.size ≤ k := fun k hk => (h3.ge k (.inl hk)).resolve_right id
 refine ⟨a,b,⟨c.1,fun k hk hn => c.2 k hk id⟩,trivial,⟨⟨h3.ok.1.1.flatI (g1.trans h3.hx.1),h3.ok.1.2⟩,fun k hk ho' => ?_,⟨Res.st _ (PH.le.refl F) c.1 (fun k hk => Res.no _ ho.1 hk) (fun k hk => c.2 k (Res.lt _ ho.1 hk) id) ho.1,fun _ _ => id,trivial⟩⟩,fun k hk => ?_⟩
 · have h4 := Res.lt _ ho.1 (ho'.resolve_right id)
   have h5 := hu k hk
   omega
 · rcases hk with hk | hk
   · exact .inl (hu k hk)
   · exact .inr hk
theorem Tg_btB {T2 : TypeId} {m : List Bool} (h : Tg P f args (dv (rL rBlock) v bs :: D0) [] rB T2 m) (hl : lensB bs) : Tr P f args D0 [bk B v qs bs] (fun v : Value => v) (fun _ => []) (fun B' u => [gl B' rB T2 u m,bk B v qs bs]) := fun F H hin hd ho => by
 obtain ⟨G,g1,g2,g3,g4,g5⟩ := bk_freeze hin ho.1 hl
 refine (h G H g2 ⟨g5,hd.up g1⟩ trivial).mono ?_
 rintro u H' ⟨_,F',rfl,h2⟩
 refine ⟨u,F,rfl,fun B' hB => ?_⟩
 have h3 := h2 B' hB
 obtain ⟨a,b,c⟩ := h3.less hin g1
 have hu : ∀ k,u.ownBlock = some k → H.size ≤ k := fun k hk => (h3.ge k (.inl hk)).resolve_right id
 refine ⟨a,b,⟨c.1,fun k hk hn => c.2 k hk id⟩,trivial,⟨⟨glflatB h3.ok.1.1 (g1.trans h3.hx.1),h3.ok.1.2⟩,fun k hk ho' => ?_,⟨Res.st _ (PH.le.refl F) c.1 (fun k hk => Res.no _ ho.1 hk) (fun k hk => c.2 k (Res.lt _ ho.1 hk) id) ho.1,fun _ _ => id,trivial⟩⟩,fun k hk => ?_⟩
 · have h4 := Res.lt _ ho.1 (ho'.resolve_right id)
   have h5 := hu k hk
   omega
 · rcases hk with hk | hk
   · exact .inl (hu k hk)
   · exact .inr hk
end
section
variable {P : Program} {Γ : List Dt} {L M : List Res} {e : Env} {F : PH} {H : Heap} {B j i o : Nat} {v u : Value} {qs : List BV} {bs : List D.Block} {T : TypeId} {x y : Operand} {kd : IntKind} {I : Int}
theorem bk_row0 (h : (bk B v qs bs).sat F H) (h1 : j < bs.length) : Gl rPhi 65 F H B (ix qs j).P (ix bs j).Phis := by
 have hl : j < qs.length := by rw [h.1.1]; exact h1
 obtain ⟨h3,h4⟩ := rws_ix (B := B) (r := rPhi) (T := 65) (vs := qs.map BV.P) (ls := bs.map D.Block.Phis) (i := j) (by simpa using hl) (by simpa using h1)
 have h5 := ((Ok.focus h3).1 h.2.2.2.1).1
 rw [h4,ix_map BV.P hl,ix_map D.Block.Phis h1] at h5; exact h5.1
theorem bk_row1 (h : (bk B v qs bs).sat F H) (h1 : j < bs.length) : Gl rIns 67 F H B (ix qs j).I (ix bs j).Ins := by
 have hl : j < qs.length := by rw [h.1.1]; exact h1
 obtain ⟨h3,h4⟩ := rws_ix (B := B) (r := rIns) (T := 67) (vs := qs.map BV.I) (ls := bs.map D.Block.Ins) (i := j) (by simpa using hl) (by simpa using h1)
 have h5 := ((Ok.focus h3).1 h.2.2.2.2.2.1).1
 rw [h4,ix_map BV.I hl,ix_map D.Block.Ins h1] at h5; exact h5.1
theorem jbn0 (hT : P.underlying T = some (.slice 65)) (hk : Tk L (bk B v qs bs) M) (h1 : j < bs.length) (hx : ev e x = some (ix qs j).P) : OH P Γ L e (.call { callee := .builtin .len,args := #[x],argTypes := #[T] }) (.int .i64 ((ix bs j).Phis.length : Nat)) := fun F H _ _ h => OpOk.lenG hT (bk_row0 (hk.ok h).1 h1) hx
theorem jbn1 (hT : P.underlying T = some (.slice 67)) (hk : Tk L (bk B v qs bs) M) (h1 : j < bs.length) (hx : ev e x = some (ix qs j).I) : OH P Γ L e (.call { callee := .builtin .len,args := #[x],argTypes := #[T] }) (.int .i64 ((ix bs j).Ins.length : Nat)) := fun F H _ _ h => OpOk.lenG hT (bk_row1 (hk.ok h).1 h1) hx
theorem jbi0 (hT : P.underlying T = some (.slice 65)) (hE : Sz P 65 2) (hk : Tk L (bk B v qs bs) M) (h1 : j < bs.length) (hx : ev e x = some (ix qs j).P) (hi : ev e y = some (.int kd I)) (hI : I = i) (h2 : i < (ix bs j).Phis.length) : OH P Γ L e (.indexAddr T x y) (.pointer (some ⟨vblk (ix qs j).P,voff (ix qs j).P + i * 2,none⟩)) := fun F H _ _ h => OpOk.idxG hT hE (bk_row0 (hk.ok h).1 h1) hx hi hI h2 (by decide)
theorem jbi1 (hT : P.underlying T = some (.slice 67)) (hE : Sz P 67 5) (hk : Tk L (bk B v qs bs) M) (h1 : j < bs.length) (hx : ev e x = some (ix qs j).I) (hi : ev e y = some (.int kd I)) (hI : I = i) (h2 : i < (ix bs j).Ins.length) : OH P Γ L e (.indexAddr T x y) (.pointer (some ⟨vblk (ix qs j).I,voff (ix qs j).I + i * 5,none⟩)) := fun F H _ _ h => OpOk.idxG hT hE (bk_row1 (hk.ok h).1 h1) hx hi hI h2 (by decide)
theorem jbd0 (hk : Tk L (bk B v qs bs) M) (h1 : j < bs.length) (h2 : i < (ix bs j).Phis.length) (hT : One P T) (hx : ev e x = some (.pointer (some ⟨vblk (ix qs j).P,o,none⟩))) (ho : o = voff (ix qs j).P + i * 2 + 0) : OH P Γ L e (.load T x) (.int .i64 (ix (ix bs j).Phis i).Dst) := fun F H _ _ h => by
 obtain ⟨f,h3,h4⟩ := (bk_row0 (hk.ok h).1 h1).cellP (off := 0) h2 (by decide)
 rw [show f 0 = .int .i64 (ix (ix bs j).Phis i).Dst from h3.1.1] at h4
 exact OpOk.load hT hx rfl (by rw [ho]; exact h4)
theorem wbd0 (hk : Tk L (bk B v qs bs) M) (h1 : j < bs.length) (h2 : i < (ix bs j).Phis.length) : Wr Γ L .i64 (ix (ix bs j).Phis i).Dst := fun F H _ _ h => by
 obtain ⟨f,h3,_⟩ := (bk_row0 (hk.ok h).1 h1).cellP (off := 0) h2 (by decide)
 exact h3.1.2
theorem jbA1 (hk : Tk L (bk B v qs bs) M) (h1 : j < bs.length) (h2 : i < (ix bs j).Ins.length) (hT : ∃ d,P.underlying T = some d ∧ (match d with | .struct _ | .array _ _ => true | _ => false) = true) (hS : Sz P T 5) (hx : ev e x = some (.pointer (some ⟨vblk (ix qs j).I,voff (ix qs j).I + i * 5,none⟩))) : OE P Γ L e (.load T x) (fun u F => (da rIns u (ix (ix bs j).Ins i)).sat F) := fun F H _ _ h => OpOk.ldGA (bk_row1 (hk.ok h).1 h1) h2 hT hS hx
theorem bkn (hB : B ≤ H.size) : (bk B (.slice none 0 0) [] []).sat F H := ⟨⟨rfl,rfl⟩,⟨Gl.nil _ _ _,hB⟩,(fun k h => by cases h),trivial,(fun _ h => h.elim),trivial,(fun _ h => h.elim),trivial⟩
end
theorem jbnil {P : Program} {Γ : List Dt} {L : List Res} {e : Env} {X : Cx} {n : Fs} {w0 : World} {Q : Exit → Act → World → Prop} {ops : Array Oper} {rest : List Oper} (k : LH P n w0 ops Q X Γ (bk X.n (.slice none 0 0) [] [] :: L) e rest) : LH P n w0 ops Q X Γ L e rest := fun F H hp => k F H (hp.new (R := bk X.n (.slice none 0 0) [] []) (Kp.refl _ _) (bkn hp.hw.1) (fun k h => by rcases h with h | h | h | h; (· cases h); (· exact h.elim); (· exact h.elim); exact h.elim))
def SlB (v : Value) (m : Nat) : Prop := ∃ a c,v = .slice a m c ∧ (0 < m → ∃ g,a = some ⟨g,0,none⟩)
section
variable {P : Program} {Γ : List Dt} {L M : List Res} {e : Env} {X : Cx} {n : Fs} {w0 : World} {Q : Exit → Act → World → Prop} {B j m : Nat} {v : Value} {qs : List BV} {bs : List D.Block} {T : TypeId} {x y : Operand} {k : IntKind} {I : Int} {c : Code} {ops : Array Oper} {rest : List Oper}
theorem bk_slb {F : PH} {H : Heap} (h : (bk B v qs bs).sat F H) (hm : bs.length = m) : SlB v m := by
 obtain ⟨xs,g1,_⟩ := h.2.1.1
 rw [h.1.1,hm] at g1
 rcases g1.2 with ⟨h9,h8⟩ | ⟨g,cap,cur,h9,_⟩
 · subst h8; exact ⟨_,_,h9,fun h => absurd h (Nat.lt_irrefl 0)⟩
 · exact ⟨_,_,h9,fun _ => ⟨g,rfl⟩⟩
theorem cbk (hk : Tk L (bk B v qs bs) M) (hm : bs.length = m) (kk : SlB v m → CH P n w0 Q X Γ L e c) : CH P n w0 Q X Γ L e c := fun F H hp => kk (bk_slb (hp.at hk) hm) F H hp
theorem lbk (hk : Tk L (bk B v qs bs) M) (hm : bs.length = m) (kk : SlB v m → LH P n w0 ops Q X Γ L e rest) : LH P n w0 ops Q X Γ L e rest := fun F H hp => kk (bk_slb (hp.at hk) hm) F H hp
theorem jbi' (hT : P.underlying T = some (.slice 62)) (hE : Sz P 62 6) (hv : SlB v m) (hx : ev e x = some v) (hi : ev e y = some (.int k I)) (hI : I = j) (h1 : j < m) : OH P Γ L e (.indexAddr T x y) (.pointer (some ⟨vblk v,voff v + j * 6,none⟩)) := fun F H _ _ _ => by
 obtain ⟨a,cap,rfl,hg⟩ := hv
 obtain ⟨g,rfl⟩ := hg (by omega)
 subst hI
 have := OpOk.indexA (H := H) hT hE hx hi (by omega) (by omega)
 simpa [vblk,voff] using this
end
theorem ix_w {k : IntKind} {l : List Int} (h : ∀ x ∈ l,k.wrap x = x) (h0 : k.wrap 0 = 0) (i : Nat) : k.wrap (ix l i) = ix l i := by
 by_cases hi : i < l.length
 · exact h _ (ix_mem hi)
 · simp only [ix,List.getD,List.getElem?_eq_none (Nat.le_of_not_lt hi),Option.getD_none]; exact h0
theorem fn_dd {F : PH} {v : Value} {m : D.Func} (hw : IntKind.i64.wrap m.Params = m.Params) (h : AllD F [dv (rL rBlock) v m.Blocks]) : AllD F [da rFunc (vFunc m v) m] := ⟨rFunc.mk h.1 hw,trivial⟩
structure Mk where
 s : List Int
 k : Int
 par : Int
 bs : List D.Block
 nx : Int
 lv : List Int
def tVV (n : Int) (m : Mk) : Int := Int.tmod (Int.tmod (if m.k < m.s.length then ix m.s m.k.toNat else 0) n + n) n
def tSS (m : Mk) : Mk := { m with k := m.k + 1 }
def wordV (m : Mk) : Int :=
 if tVV 8 (tSS m) = 0 then IntKind.i32.wrap (tVV 1048576 m * 4099)
 else if tVV 8 (tSS m) = 1 then -tVV 1048576 m
 else if tVV 8 (tSS m) = 2 then -2147483648
 else if tVV 8 (tSS m) = 3 then Int.tmod (tVV 1048576 m) 70000
 else Int.tmod (tVV 1048576 m) 20 - 4
def wordS (m : Mk) : Mk := tSS (tSS m)
def valueB (m : Mk) : Bool := !decide (m.lv.length = 0)
def valueI (m : Mk) : Int := if tVV 3 (tSS m) = 0 then (m.lv.length : Int) - 1 else tVV m.lv.length m
def valueV (m : Mk) : Int := if m.lv.length = 0 then 0 else ix m.lv (valueI m).toNat
def valueS (m : Mk) : Mk := if m.lv.length = 0 then m else tSS (tSS m)
def freshS (m : Mk) : Mk := { m with nx := m.nx + 1 }
def makes3 (i : D.Ins) : List Int := if i.Op = 16 then [] else if i.Op = 18 then [i.Dst,i.Two] else [i.Dst]
def addS (b : Int) (i : D.Ins) (m : Mk) : Mk := { m with bs := m.bs.set b.toNat { (ix m.bs b.toNat) with Ins := (ix m.bs b.toNat).Ins ++ [i] },lv := m.lv ++ makes3 i }
def constS (b n : Int) (m : Mk) : Mk := addS b ⟨1,m.nx,0,[],n⟩ (freshS m)
def someC (m : Mk) : Bool := !valueB m || decide (tVV 9 (valueS m) = 0)
def someM0 (m : Mk) : Mk := if valueB m then tSS (valueS m) else valueS m
def sV9 (m : Mk) : Int := if someC m then (wordS (someM0 m)).nx else valueV m
def sS9 (b : Int) (m : Mk) : Mk := if someC m then constS b (wordV (someM0 m)) (wordS (someM0 m)) else someM0 m
def cntT : List D.Block → Nat
 | [] => 0
 | x :: l => x.Phis.length + x.Ins.length + 1 + cntT l
theorem cntT_ix : ∀ {l : List D.Block} {j : Nat},j < l.length → (ix l j).Phis.length + (ix l j).Ins.length ≤ cntT l
 | x :: l,0,_ => by rw [ix_zero,cntT]; omega
 | x :: l,j + 1,h => by rw [ix_cons,cntT]; have := cntT_ix (l := l) (j := j) (by simpa using h); omega
theorem cntT_set : ∀ {l : List D.Block} {j d : Nat} {b : D.Block},b.Phis.length + b.Ins.length ≤ (ix l j).Phis.length + (ix l j).Ins.length + d → cntT (l.set j b) ≤ cntT l + d
 | [],_,_,_,_ => by simp [cntT]
 | x :: l,0,_,b,h => by rw [ix_zero] at h; rw [List.set_cons_zero,cntT,cntT]; omega
 | x :: l,j + 1,d,b,h => by rw [ix_cons] at h; rw [List.set_cons_succ,cntT,cntT]; have := cntT_set (l := l) h; omega
theorem cntT_rep (n : Nat) : cntT (List.replicate n default) = n := by
 induction n with
 | zero => rfl
 | succ n ih => rw [List.replicate_succ,cntT,ih]; show 0 + 0 + 1 + n = n + 1; omega
def okM (nb c : Nat) (m : Mk) : Prop := (0 ≤ m.k ∧ m.k ≤ c) ∧ (0 ≤ m.nx ∧ m.nx ≤ c) ∧ (0 ≤ m.par ∧ m.par ≤ 4) ∧ m.lv.length ≤ 2 * c + 4 ∧ m.bs.length = nb ∧ cntT m.bs ≤ c
theorem okM.bnd {nb c : Nat} {m : Mk} (h : okM nb c m) : 0 ≤ m.k ∧ m.k ≤ c ∧ 0 ≤ m.nx ∧ m.nx ≤ c ∧ 0 ≤ m.par ∧ m.par ≤ 4 ∧ m.lv.length ≤ 2 * c + 4 ∧ m.bs.length = nb ∧ cntT m.bs ≤ c := ⟨h.1.1,h.1.2,h.2.1.1,h.2.1.2,h.2.2.1.1,h.2.2.1.2,h.2.2.2.1,h.2.2.2.2.1,h.2.2.2.2.2⟩
theorem okM.row {nb c : Nat} {m : Mk} (h : okM nb c m) {j : Nat} (hj : j < nb) : (ix m.bs j).Phis.length ≤ c ∧ (ix m.bs j).Ins.length ≤ c := by
 have h1 := cntT_ix (l := m.bs) (j := j) (by rw [h.2.2.2.2.1]; exact hj)
 have h2 := h.2.2.2.2.2
 omega
theorem okM.mono {nb c c' : Nat} {m : Mk} (h : okM nb c m) (hc : c ≤ c') : okM nb c' m := ⟨⟨h.1.1,by have := h.1.2; omega⟩,⟨h.2.1.1,by have := h.2.1.2; omega⟩,h.2.2.1,by have := h.2.2.2.1; omega,h.2.2.2.2.1,by have := h.2.2.2.2.2; omega⟩
theorem okM.setk {nb c c' : Nat} {m : Mk} {x : Int} (h : okM nb c m) (hx : 0 ≤ x ∧ x ≤ c') (hc : c ≤ c') : okM nb c' { m with k := x } := ⟨hx,(h.mono hc).2⟩
theorem okM.setnx {nb c c' : Nat} {m : Mk} {x : Int} (h : okM nb c m) (hx : 0 ≤ x ∧ x ≤ c') (hc : c ≤ c') : okM nb c' { m with nx := x } := ⟨(h.mono hc).1,hx,(h.mono hc).2.2⟩
theorem okM.setpar {nb c c' : Nat} {m : Mk} {x : Int} (h : okM nb c m) (hx : 0 ≤ x ∧ x ≤ 4) (hc : c ≤ c') : okM nb c' { m with par := x } := ⟨(h.mono hc).1,(h.mono hc).2.1,hx,(h.mono hc).2.2.2⟩
theorem okM.setlv {nb c c' : Nat} {m : Mk} {x : List Int} (h : okM nb c m) (hx : x.length ≤ 2 * c' + 4) (hc : c ≤ c') : okM nb c' { m with lv := x } := ⟨(h.mono hc).1,(h.mono hc).2.1,(h.mono hc).2.2.1,hx,(h.mono hc).2.2.2.2⟩
theorem okM.setb {nb c d : Nat} {m : Mk} {j : Nat} {b : D.Block} (h : okM nb c m) (hx : b.Phis.length + b.Ins.length ≤ (ix m.bs j).Phis.length + (ix m.bs j).Ins.length + d) : okM nb (c + d) { m with bs := m.bs.set j b } := by
 have h1 : cntT (m.bs.set j b) ≤ cntT m.bs + d := cntT_set (l := m.bs) hx
 have h2 := h.2.2.2.2.2
 have h3 : okM nb (c + d) m := h.mono (Nat.le_add_right _ _)
 exact ⟨h3.1,h3.2.1,h3.2.2.1,h3.2.2.2.1,by simpa using h3.2.2.2.2.1,Nat.le_trans h1 (by omega)⟩
theorem okM.setbs {nb c n : Nat} {m : Mk} (h : okM nb c m) : okM n (c + n) { m with bs := List.replicate n default } := by
 have h3 : okM nb (c + n) m := h.mono (Nat.le_add_right _ _)
 exact ⟨h3.1,h3.2.1,h3.2.2.1,h3.2.2.2.1,by simp,by show cntT (List.replicate n default) ≤ _; rw [cntT_rep]; omega⟩
section
variable {nb c : Nat} {m : Mk}
theorem tO9 (h : okM nb c m) : okM nb (c + 1) (tSS m) := h.setk (by have := h.bnd; omega) (by omega)
theorem word_ok (h : okM nb c m) : okM nb (c + 2) (wordS m) := tO9 (tO9 h)
theorem value_ok (h : okM nb c m) : okM nb (c + 2) (valueS m) := by unfold valueS; split; exact h.mono (by omega); exact tO9 (tO9 h)
theorem fresh_ok (h : okM nb c m) : okM nb (c + 1) (freshS m) := h.setnx (by have := h.bnd; omega) (by omega)
theorem makes3_len (i : D.Ins) : (makes3 i).length ≤ 2 := by unfold makes3; (repeat' split) <;> simp
theorem add_ok {b : Int} {i : D.Ins} (h : okM nb c m) (hb : b.toNat < nb) : okM nb (c + 2) (addS b i m) :=
 okM.setlv (m := { m with bs := m.bs.set b.toNat { (ix m.bs b.toNat) with Ins := (ix m.bs b.toNat).Ins ++ [i] } }) (c := c + 1) (h.setb (d := 1) (by dsimp only; rw [List.length_append]; simp only [List.length_cons,List.length_nil]; omega)) (by have := h.bnd; have := makes3_len i; simp only [List.length_append]; omega) (by omega)
theorem const_ok {b n : Int} (h : okM nb c m) (hb : b.toNat < nb) : okM nb (c + 3) (constS b n m) := add_ok (fresh_ok h) hb
theorem some0_ok (h : okM nb c m) : okM nb (c + 3) (someM0 m) := by unfold someM0; split; exact tO9 (value_ok h); exact (value_ok h).mono (by omega)
theorem some_ok {b : Int} (h : okM nb c m) (hb : b.toNat < nb) : okM nb (c + 8) (sS9 b m) := by
 unfold sS9; split
 · exact (const_ok (word_ok (some0_ok h)) hb).mono (by omega)
 · exact (some0_ok h).mono (by omega)
theorem tV9 {n : Int} (hn : 0 < n) (m : Mk) : 0 ≤ tVV n m ∧ tVV n m < n := by
 unfold tVV
 generalize (if m.k < m.s.length then ix m.s m.k.toNat else 0) = x
 have h1 := Int.lt_tmod_of_pos x hn
 exact ⟨Int.tmod_nonneg _ (by omega),Int.tmod_lt_of_pos _ hn⟩
theorem word_w (m : Mk) : IntKind.i32.wrap (wordV m) = wordV m := by
 have h := tV9 (n := 1048576) (by omega) m
 have h2 := Int.tmod_nonneg 70000 h.1
 have h3 := Int.tmod_lt_of_pos (tVV 1048576 m) (b := 70000) (by omega)
 have h4 := Int.tmod_nonneg 20 h.1
 have h5 := Int.tmod_lt_of_pos (tVV 1048576 m) (b := 20) (by omega)
 unfold wordV
 repeat' split
 · exact JE.wrap_wrap _ _
 all_goals exact IntWalk.i32_in _ (by omega)
theorem valueS_s : (valueS m).s = m.s := by unfold valueS; split <;> rfl
theorem addS_s {b : Int} {i : D.Ins} : (addS b i m).s = m.s := rfl
theorem constS_s {b n : Int} : (constS b n m).s = m.s := rfl
theorem someS_s {b : Int} : (sS9 b m).s = m.s := by unfold sS9 someM0; (repeat' split) <;> first | rfl | exact valueS_s
end
theorem okM.lens {nb c : Nat} {m : Mk} (h : okM nb c m) (hc : c < 1073741824) : ∀ b ∈ m.bs,b.Phis.length < 1073741824 ∧ b.Ins.length < 1073741824 := fun b hb => by
 obtain ⟨j,hj,rfl⟩ := List.getElem_of_mem hb
 have h1 := h.row (j := j) (by rw [← h.2.2.2.2.1]; exact hj)
 rw [ix_eq hj] at h1
 omega
theorem okM.s (nb c : Nat) (m : Mk) : True := trivial
abbrev okS (nb c : Nat) (S : List Int) (m : Mk) : Prop := okM nb c m ∧ m.s = S
abbrev bnd (nb c : Nat) (m : Mk) : Prop := 0 ≤ m.k ∧ m.k ≤ c ∧ 0 ≤ m.nx ∧ m.nx ≤ c ∧ 0 ≤ m.par ∧ m.par ≤ 4 ∧ m.lv.length ≤ 2 * c + 4 ∧ m.bs.length = nb ∧ cntT m.bs ≤ c
theorem okS.mono {nb c c' : Nat} {S : List Int} {m : Mk} (h : okS nb c S m) (hc : c ≤ c') : okS nb c' S m := ⟨okM.mono h.1 hc,h.2⟩
theorem okS.lens {nb c : Nat} {S : List Int} {m : Mk} (h : okS nb c S m) (hc : c < 1073741824) (hn : nb < 1073741824) : lensB m.bs := ⟨by rw [(okM.bnd h.1).2.2.2.2.2.2.2.1]; exact hn,okM.lens h.1 hc⟩
abbrev mc (m : Mk) (vs vb al : Value) : List Value := [vs,.int .i64 m.k,.int .i64 m.par,vb,.int .i64 m.nx,al]
abbrev KA (P : Program) (f : FuncId) (args : List Value) (D0 : List Dt) (g : Nat) (vs vb al : Value) (S : List Int) (m st : Mk) (val : Value) : Prop :=
 Tr P f (.pointer (some ⟨g,0,none⟩) :: args).toArray (dv (rL (rI .i64)) vs S :: D0) [bx g 108 (mc m vs vb al)] (fun _ : Unit => val) (fun _ => []) (fun _ _ => [bx g 108 (mc st vs vb al)])
abbrev KB (P : Program) (f : FuncId) (args : List Value) (D0 : List Dt) (g : Nat) (vs vb al : Value) (S : List Int) (B B2 : Nat) (qs : List BV) (E : List Dt) (m st : Mk) (val : Value) : Prop :=
 Tr P f (.pointer (some ⟨g,0,none⟩) :: args).toArray (dv (rL (rI .i64)) vs S :: D0) [bx g 108 (mc m vs vb al),gl B (rI .i64) 3 al m.lv,bk B2 vb qs m.bs] (fun _ : Value × List BV => val) (fun _ => E) (fun _ p => [bx g 108 (mc st vs vb p.1),gl B (rI .i64) 3 p.1 st.lv,bk B2 vb p.2 st.bs])
abbrev KD {α : Type} (P : Program) (f : FuncId) (args : List Value) (D0 : List Dt) (g : Nat) (vs vb al : Value) (S : List Int) (r : Rp α) (a : α) (m st : Mk) : Prop :=
 Tr P f (.pointer (some ⟨g,0,none⟩) :: args).toArray (dv (rL (rI .i64)) vs S :: D0) [bx g 108 (mc m vs vb al)] (fun v : Value => v) (fun v => [dv r v a]) (fun _ _ => [bx g 108 (mc st vs vb al)])
def wf (k : IntKind) (n : Int) : Dt := ⟨fun _ => k.wrap n = n,fun _ h => h⟩
theorem wca {Γ : List Dt} {L : List Res} {k : IntKind} {a b : Int} (e : a = b) (h : Wr Γ L k b) : Nd Γ L (wf k a) := e ▸ h
theorem wfw {Γ : List Dt} {L : List Res} {k : IntKind} {a : Int} (h : Nd Γ L (wf k a)) : Wr Γ L k a := h
theorem kck {L M N Ls : List Res} {B : Nat} {v : Value} {qs : List BV} {bs bs' : List D.Block} (e : bs' = bs) (h : Tk L (bk B v qs bs) M) (h' : Tks M Ls N) : Tks L (bk B v qs bs' :: Ls) N := e ▸ kc h h'
section
variable {P : Program} {Γ Γ' E D0 : List Dt} {L M N : List Res} {e : Env} {X : Cx} {n : Fs} {w0 : World} {Q : Exit → Act → World → Prop} {ops : Array Oper} {d : Nat} {ty : TypeId} {pos : String} {af : Array Edge} {rest : List Oper} {f : FuncId} {h : Operand} {xs : List Operand} {ws : List Value} {ts : Array TypeId} {g B B2 nb c : Nat} {vs vb al val : Value} {S : List Int} {m st : Mk} {qs : List BV}
theorem ka_n (h : KA P f ws D0 g vs vb al S m st val) : KA P f (ws ++ []) D0 g vs vb al S m st val := by rw [List.append_nil]; exact h
theorem kb_n (h : KB P f ws D0 g vs vb al S B B2 qs E m st val) : KB P f (ws ++ []) D0 g vs vb al S B B2 qs E m st val := by rw [List.append_nil]; exact h
theorem jka (hE : Ent P f) (hf : ev e h = some (.func (.func f) #[] #[])) (hl : evl e xs = some (.pointer (some ⟨g,0,none⟩) :: ws)) (hT : KA P f ws D0 g vs vb al S m st val) (hd : Sd Γ L (dv (rL (rI .i64)) vs S :: D0)) (hk : Tk L (bx g 108 (mc m vs vb al)) M) (ok : okS nb c S st)
   (k : ∀ x,x = st → okS nb c S x → bnd nb c x → LH P n w0 ops Q X Γ (bx g 108 (mc x vs vb al) :: M) ((d,val) :: e) rest) (hd1 : Nat.blt d n.sz = true := by rfl) : LH P n w0 ops Q X Γ L e (⟨some d,.call { callee := .value h,args := xs.toArray,argTypes := ts },ty,pos,af,none⟩ :: rest) :=
 jc (cs := []) hE hf hl (ka_n hT) hd (kc hk kn) (fun _ => rfl) (fun _ => rfl) (fun _ => k st rfl ok (okM.bnd ok.1)) hd1
theorem tks1 {A : Res} {Ls : List Res} (h : Tks L (A :: Ls) M) : Tks L [A] (Ls ++ M) where
 ok := fun o => by
   obtain ⟨⟨a,b,c⟩,m,dj⟩ := h.ok o
   exact ⟨⟨a,fun _ _ => id,trivial⟩,Ok.app c m (fun k hk => dj k (.inr hk)),fun k hk ho => (Own.app.1 ho).elim (fun h2 => b k (hk.resolve_right id) h2) (dj k (.inl (hk.resolve_right id)))⟩
 own := fun ho => h.own (ho.elim (fun h => .inl (.inl (h.resolve_right id))) (fun h => (Own.app.1 h).imp .inr id))
theorem jkr (hE : Ent P f) (hf : ev e h = some (.func (.func f) #[] #[])) (hl : evl e xs = some (.pointer (some ⟨g,0,none⟩) :: ws)) (hT : KA P f ws D0 g vs vb al S m st val) (hd : Sd Γ L (dv (rL (rI .i64)) vs S :: D0)) (hk : Tks L [bx g 108 (mc m vs vb al),gl B (rI .i64) 3 al m.lv,bk B2 vb qs m.bs] M) (ok : okS nb c S st)
   (k : ∀ x,x = st → okS nb c S x → bnd nb c x → LH P n w0 ops Q X Γ (bx g 108 (mc x vs vb al) :: gl B (rI .i64) 3 al x.lv :: bk B2 vb qs x.bs :: M) ((d,val) :: e) rest) (h1 : st.lv = m.lv := by rfl) (h2 : st.bs = m.bs := by rfl) (hd1 : Nat.blt d n.sz = true := by rfl) : LH P n w0 ops Q X Γ L e (⟨some d,.call { callee := .value h,args := xs.toArray,argTypes := ts },ty,pos,af,none⟩ :: rest) :=
 jc (cs := []) hE hf hl (ka_n hT) hd (tks1 hk) (fun _ => rfl) (fun _ => rfl) (fun _ => by have := k st rfl ok (okM.bnd ok.1); rw [h1,h2] at this; exact this) hd1
theorem jkb (hE : Ent P f) (hf : ev e h = some (.func (.func f) #[] #[])) (hl : evl e xs = some (.pointer (some ⟨g,0,none⟩) :: ws)) (hT : KB P f ws D0 g vs vb al S B B2 qs E m st val) (hd : Sd Γ L (dv (rL (rI .i64)) vs S :: D0)) (hk : Tks L [bx g 108 (mc m vs vb al),gl B (rI .i64) 3 al m.lv,bk B2 vb qs m.bs] M) (ok : okS nb c S st) (hp : Ap E Γ Γ')
   (k : ∀ x,x = st → okS nb c S x → bnd nb c x → ∀ al' qs',Sv al' → LH P n w0 ops Q X Γ' (bx g 108 (mc x vs vb al') :: gl B (rI .i64) 3 al' x.lv :: bk B2 vb qs' x.bs :: M) ((d,val) :: e) rest) (hd1 : Nat.blt d n.sz = true := by rfl) : LH P n w0 ops Q X Γ L e (⟨some d,.call { callee := .value h,args := xs.toArray,argTypes := ts },ty,pos,af,none⟩ :: rest) :=
 jc (cs := []) hE hf hl (kb_n hT) hd hk (fun _ => hp) (fun _ => rfl) (fun p => jgo k1 fun h9 => k st rfl ok (okM.bnd ok.1) p.1 p.2 h9) hd1
theorem jkg {j t : Nat} {want Bb : Bool} {u : Value} (hj : (ops[j]?).bind (·.dst) = some t) (hu : lk e t = some u) (hB : Gd u want Bb) (hE : Ent P f) (hf : ev e h = some (.func (.func f) #[] #[])) (hl : Bb = true → evl e xs = some (.pointer (some ⟨g,0,none⟩) :: ws)) (hT : KA P f ws D0 g vs vb al S m st val) (hd : Sd Γ L (dv (rL (rI .i64)) vs S :: D0)) (hk : Tks L [bx g 108 (mc m vs vb al),gl B (rI .i64) 3 al m.lv,bk B2 vb qs m.bs] M) (ok : okS nb c S (if Bb then st else m))
   (k : ∀ x,x = (if Bb then st else m) → okS nb c S x → bnd nb c x → LH P n w0 ops Q X Γ (bx g 108 (mc x vs vb al) :: gl B (rI .i64) 3 al x.lv :: bk B2 vb qs x.bs :: M) ((d,gv Bb val) :: e) rest) (h1 : st.lv = m.lv := by rfl) (h2 : st.bs = m.bs := by rfl) (hd1 : Nat.blt d n.sz = true := by rfl) (ht : Nat.blt t n.sz = true := by rfl) : LH P n w0 ops Q X Γ L e (⟨some d,.call { callee := .value h,args := xs.toArray,argTypes := ts },ty,pos,af,some (j,want)⟩ :: rest) := fun F H hp => by
 have hk1 := tks1 hk
 refine LF.gcallF hj hu hB (fun hb => OpCall.fnc (cs := []) hE hf (hl hb)) (fun _ => (ka_n hT).run hp hd hk1) (fun v' H' hz => ?_) hd1 ht
 rcases hz with ⟨hb,_,F',rfl,h9⟩ | ⟨hb,rfl⟩
 · subst hb
   have := k st (by simp) (by simpa using ok) (okM.bnd (by simpa using ok.1))
   rw [h1,h2] at this
   exact this F' H' h9
 · subst hb
   have := k m (by simp) (by simpa using ok) (okM.bnd (by simpa using ok.1))
   exact this F _ (hp_tks hp hk)
theorem jkga {j t : Nat} {want Bb : Bool} {u : Value} (hj : (ops[j]?).bind (·.dst) = some t) (hu : lk e t = some u) (hB : Gd u want Bb) (hE : Ent P f) (hf : ev e h = some (.func (.func f) #[] #[])) (hl : Bb = true → evl e xs = some (.pointer (some ⟨g,0,none⟩) :: ws)) (hT : KA P f ws D0 g vs vb al S m st val) (hd : Sd Γ L (dv (rL (rI .i64)) vs S :: D0)) (hk : Tk L (bx g 108 (mc m vs vb al)) M) (ok : okS nb c S (if Bb then st else m))
   (k : ∀ x,x = (if Bb then st else m) → okS nb c S x → bnd nb c x → LH P n w0 ops Q X Γ (bx g 108 (mc x vs vb al) :: M) ((d,gv Bb val) :: e) rest) (hd1 : Nat.blt d n.sz = true := by rfl) (ht : Nat.blt t n.sz = true := by rfl) : LH P n w0 ops Q X Γ L e (⟨some d,.call { callee := .value h,args := xs.toArray,argTypes := ts },ty,pos,af,some (j,want)⟩ :: rest) := fun F H hp => by
 refine LF.gcallF hj hu hB (fun hb => OpCall.fnc (cs := []) hE hf (hl hb)) (fun _ => (ka_n hT).run hp hd hk.tks) (fun v' H' hz => ?_) hd1 ht
 rcases hz with ⟨hb,_,F',rfl,h9⟩ | ⟨hb,rfl⟩
 · subst hb
   exact k st (by simp) (by simpa using ok) (okM.bnd (by simpa using ok.1)) F' H' h9
 · subst hb
   exact k m (by simp) (by simpa using ok) (okM.bnd (by simpa using ok.1)) F _ (hp.front hk)
theorem jkd {α : Type} {r : Rp α} {N' : Nat} {a : List α} (hE : Ent P f) (hf : ev e h = some (.func (.func f) #[] #[])) (hl : evl e xs = some (.pointer (some ⟨g,0,none⟩) :: ws)) (hT : KD P f (ws ++ []) D0 g vs vb al S (rLn N' r) a m st) (hd : Sd Γ L (dv (rL (rI .i64)) vs S :: D0)) (hk : Tks L [bx g 108 (mc m vs vb al),gl B (rI .i64) 3 al m.lv,bk B2 vb qs m.bs] M) (ok : okS nb c S st)
   (k : ∀ x,x = st → okS nb c S x → bnd nb c x → ∀ v,Qn N' a.length → Sv v → LH P n w0 ops Q X (dv (rLn N' r) v a :: Γ) (bx g 108 (mc x vs vb al) :: gl B (rI .i64) 3 al x.lv :: bk B2 vb qs x.bs :: M) ((d,v) :: e) rest) (h1 : st.lv = m.lv := by rfl) (h2 : st.bs = m.bs := by rfl) (hd1 : Nat.blt d n.sz = true := by rfl) : LH P n w0 ops Q X Γ L e (⟨some d,.call { callee := .value h,args := xs.toArray,argTypes := ts },ty,pos,af,none⟩ :: rest) :=
 jc (cs := []) hE hf hl hT hd (tks1 hk) (fun _ => rfl) (fun _ => rfl) (fun v => jdq d0 fun h8 h9 => by have := k st rfl ok (okM.bnd ok.1) v h8 h9; rw [h1,h2] at this; exact this) hd1
theorem jkn (st : Mk) (hk : Tks L [bx g 108 (mc st vs vb al),gl B (rI .i64) 3 al st.lv,bk B2 vb qs st.bs] M) (ok : okS nb c S st)
   (k : ∀ x,x = st → okS nb c S x → bnd nb c x → LH P n w0 ops Q X Γ (bx g 108 (mc x vs vb al) :: gl B (rI .i64) 3 al x.lv :: bk B2 vb qs x.bs :: M) e rest) : LH P n w0 ops Q X Γ L e rest := fun F H hp => k st rfl ok (okM.bnd ok.1) F H (hp_tks hp hk)
theorem jkna (st : Mk) (hk : Tk L (bx g 108 (mc st vs vb al)) M) (ok : okS nb c S st)
   (k : ∀ x,x = st → okS nb c S x → bnd nb c x → LH P n w0 ops Q X Γ (bx g 108 (mc x vs vb al) :: M) e rest) : LH P n w0 ops Q X Γ L e rest := fun F H hp => k st rfl ok (okM.bnd ok.1) F H (hp.front hk)
end
theorem F108_0 : Fld Tryz.prog 108 0 0 := ⟨_,_,Tryz.underlying108,rfl,rfl,1,(by unfold Sz; kernel_rfl),by decide⟩
theorem F108_1 : Fld Tryz.prog 108 1 1 := ⟨_,_,Tryz.underlying108,rfl,rfl,1,(by unfold Sz; kernel_rfl),by decide⟩
set_option maxRecDepth 4000 in
theorem m3take_ct {vs vb al : Value} {m : Mk} {nb c : Nat} {S : List Int} {g0 : Nat} (hok : okS nb c S m) (hc : c ≤ 1000000) (n : Int) (hn9 : 0 < n ∧ n ≤ 1000000000) : KA Tryz.prog 47 [.int .i64 n] [] g0 vs vb al S m (tSS m) (.int .i64 (tVV n m)) := by
 refine jenter (args := [.pointer (some ⟨g0,0,none⟩),.int .i64 n]) Tryz.func47 rfl rfl rfl fun w0 X => ?_
 have bd0 := okM.bnd hok.1
 refine jq (jr (ja Z (jn (jx (jq (jr (ja Z (jn (jx (jq (jq ?_)))))))))))
 refine jstl Mixed (by kernel_rfl) (jt (jmv Z) (jt (jnil Z) (jt (jf F108_1 Z) (jt (jl k0 O3 Z Z) (jt (jmv Z) (jt (jnil Z) (jt (jf F108_0 Z) (jt (jl k0 O22 Z Z) (tdq d0 fun q1 w1 => jt (jln U22 d0 Z) (jt (jlss Z Z) ?_))))))))))
 refine jdn (jx ?_)
 refine jif Z (fun hc1 => ?_) (fun hc1 => ?_)
 refine jstl Mixed (by kernel_rfl) (jt (jmv Z) (jt (jnil Z) (jt (jf F108_0 Z) (jt (jl k0 O22 Z Z) (jt (jmv Z) (jt (jnil Z) (jt (jf F108_1 Z) (jt (jl k0 O3 Z Z) (jt (jix (i := (Int.toNat m.k)) U22 Z3 d0 Z Z (by omega) (by omega)) (jt (jlI (dix d0 (Int.toNat m.k) (by omega)) O3 Z) (jt (jas Z) ?_)))))))))))
 refine jdn (jx (jq (jr (jm Z (jm Z (js (jnil Z) (js (jf F108_1 Z) (js (jl k0 O3 Z Z) (js (jadd Z Z (by omega)) (js (jnil Z) (js (jf F108_1 Z) ?_)))))))))))
 refine jst k0 Z3 Z Z Z s1 (jkna (c := c + 1) ({ m with k := m.k + 1 }) k0 ⟨(okM.setk hok.1 (by omega) (by omega)),hok.2⟩ fun ms2 hms2 oms2 bms2 => ?_)
 clear bd0
 refine jn (jx (jq (jr (jm Z (jm Z (js (jrem Z Z (by omega)) (jm Z ?_)))))))
 have hz1 := Int.tmod_lt_of_pos (ix S (Int.toNat m.k)) hn9.1
 have hz2 := Int.lt_tmod_of_pos (ix S (Int.toNat m.k)) hn9.1
 refine js (jadd Z Z (by omega)) (jm Z (js (jrem Z Z (by omega)) (ja Z (jn (jx (jrt ?_))))))
 have hv0 : tVV n m = (Int.tmod ((Int.tmod (ix S (Int.toNat m.k)) n) + n) n) := (by (try simp only [hms2] at hc1); (try simp only [hms2]); simp only [tVV,hok.2]; simp [*])
 have hst : ms2 = tSS m := (by (try simp only [hms2] at hc1); (try simp only [hms2]); all_goals first | rfl | (simp [tVV,tSS,hc1]; done) | (simp [tVV,tSS,hc1]; rfl) | (unfold tVV tSS; (repeat' split) <;> first | rfl | (exfalso; omega) | (simp [hc1] at *; done) | (simp_all; done)))
 exact jr1 Z Z () (by rw [hv0] <;> rfl) dn (fun _ _ => (kcb (by rw [← hst]) k0 kn))
 refine jsk (jx (jq (jr (jm Z (jm Z (js (jnil Z) (js (jf F108_1 Z) (js (jl k0 O3 Z Z) (js (jadd Z Z (by omega)) (js (jnil Z) (js (jf F108_1 Z) ?_)))))))))))
 refine jst k0 Z3 Z Z Z s1 (jkna (c := c + 1) ({ m with k := m.k + 1 }) k0 ⟨(okM.setk hok.1 (by omega) (by omega)),hok.2⟩ fun ms3 hms3 oms3 bms3 => ?_)
 clear bd0
 refine jn (jx (jq (jr (jm Z (jm Z (js (jrem Z Z (by omega)) (jm Z ?_)))))))
 have hz1 := Int.tmod_lt_of_pos 0 hn9.1
 have hz2 := Int.lt_tmod_of_pos 0 hn9.1
 refine js (jadd Z Z (by omega)) (jm Z (js (jrem Z Z (by omega)) (ja Z (jn (jx (jrt ?_))))))
 have hv0 : tVV n m = (Int.tmod ((Int.tmod 0 n) + n) n) := (by (try simp only [hms3] at hc1); (try simp only [hms3]); simp only [tVV,hok.2]; simp [*])
 have hst : ms3 = tSS m := (by (try simp only [hms3] at hc1); (try simp only [hms3]); all_goals first | rfl | (simp [tVV,tSS,hc1]; done) | (simp [tVV,tSS,hc1]; rfl) | (unfold tVV tSS; (repeat' split) <;> first | rfl | (exfalso; omega) | (simp [hc1] at *; done) | (simp_all; done)))
 exact jr1 Z Z () (by rw [hv0] <;> rfl) dn (fun _ _ => (kcb (by rw [← hst]) k0 kn))
end Go.Proofs.YtmfkkodnghambaaGreat
