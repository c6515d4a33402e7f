/- The walking engine: words, shifts, conversions, functions held against nil; maps that are made. Conditions: each rule names its own; lemmas over any program. -/
import Derived.Test.YtcceglmmpbdhiaaJv
import Derived.Laws.Rows
namespace Go.JE
set_option linter.unusedVariables false
set_option linter.unusedSimpArgs false
set_option linter.unusedSectionVars false
variable {P : Program} {e : Env} {H : Heap}

def shlI (k : IntKind) (x n : Int) : Int := k.wrap (x * 2 ^ (min n.toNat k.bits))
def shrI (k : IntKind) (x n : Int) : Int := x.fdiv (2 ^ (min n.toNat k.bits))
def andI (k : IntKind) (x y : Int) : Int := k.wrap ((BitVec.ofInt k.bits x &&& BitVec.ofInt k.bits y).toNat : Nat)
def orI (k : IntKind) (x y : Int) : Int := k.wrap ((BitVec.ofInt k.bits x ||| BitVec.ofInt k.bits y).toNat : Nat)
def xorI (k : IntKind) (x y : Int) : Int := k.wrap ((BitVec.ofInt k.bits x ^^^ BitVec.ofInt k.bits y).toNat : Nat)
section
variable {T T' : TypeId} {x y : Operand} {k k' : IntKind} {m n r : Int}
theorem OpOk.andw (hx : ev e x = some (.int k m)) (hy : ev e y = some (.int k n)) : OpOk P e (.binOp .and T x y T') H (.int k (andI k m n)) :=
  binInt hx hy (by simp only [binOp, ne_eq, not_true_eq_false, if_false, Op.intBits]; rfl) (fun _ => rfl)
theorem OpOk.orw (hx : ev e x = some (.int k m)) (hy : ev e y = some (.int k n)) : OpOk P e (.binOp .or T x y T') H (.int k (orI k m n)) :=
  binInt hx hy (by simp only [binOp, ne_eq, not_true_eq_false, if_false, Op.intBits]; rfl) (fun _ => rfl)
theorem OpOk.xorw (hx : ev e x = some (.int k m)) (hy : ev e y = some (.int k n)) : OpOk P e (.binOp .xor T x y T') H (.int k (xorI k m n)) :=
  binInt hx hy (by simp only [binOp, ne_eq, not_true_eq_false, if_false, Op.intBits]; rfl) (fun _ => rfl)
theorem OpOk.shlw (hx : ev e x = some (.int k m)) (hy : ev e y = some (.int k' n)) (h0 : 0 ≤ n) : OpOk P e (.binOp .shl T x y T') H (.int k (shlI k m n)) := by
  intro ρ o w ho hev _
  have hn : ¬ n < 0 := by omega
  have hq : (eqGuard .shl T x y (.int k m) (.int k' n)) = pure () := by unfold eqGuard; split <;> rfl
  have hs : (binOp .shl T (.int k m) (.int k' n)).run P w = .ok (.int k (shlI k m n)) w := by simp only [binOp, Op.shift, if_neg hn]; rfl
  simp only [execOp, ho, hev _ _ hx, hev _ _ hy, hq]
  rw [run_bind_ok (a := .int k (shlI k m n)) (w' := w)]
  · rfl
  · rw [run_bind_ok (a := ()) (w' := w) rfl]; exact hs
theorem OpOk.shrw (hx : ev e x = some (.int k m)) (hy : ev e y = some (.int k' n)) (h0 : 0 ≤ n) : OpOk P e (.binOp .shr T x y T') H (.int k (shrI k m n)) := by
  intro ρ o w ho hev _
  have hn : ¬ n < 0 := by omega
  have hq : (eqGuard .shr T x y (.int k m) (.int k' n)) = pure () := by unfold eqGuard; split <;> rfl
  have hs : (binOp .shr T (.int k m) (.int k' n)).run P w = .ok (.int k (shrI k m n)) w := by simp only [binOp, Op.shift, if_neg hn]; rfl
  simp only [execOp, ho, hev _ _ hx, hev _ _ hy, hq]
  rw [run_bind_ok (a := .int k (shrI k m n)) (w' := w)]
  · rfl
  · rw [run_bind_ok (a := ()) (w' := w) rfl]; exact hs
theorem OpOk.convI {S D : TypeId} {d} (hs : P.underlying S = some d) (hd : P.underlying D = some (.int k')) (hx : ev e x = some (.int k m)) (hk : k'.wrap m = r) : OpOk P e (.convert S D x) H (.int k' r) := by
  intro ρ o w ho hev _
  have h1 : (convert S D (.int k m)).run P w = .ok (.int k' r) w := by
    simp only [convert, Sem.run_bind, run_underlying hs, run_underlying hd, Result.andThen_ok, ← hk]
    cases d <;> rfl
  simp only [execOp, ho, hev _ _ hx]
  rw [run_bind_ok h1]; rfl
theorem equalIn_fn {ps rs : Array TypeId} {vr : Bool} {fn : Fn} {a1 a2 : Array Value} (hT : P.underlying T = some (.func ps rs vr)) (d : Nat) (w : World) : (Op.equalIn (d + 1) T (.func fn a1 a2) .nilFunc).run P w = .ok false w := by
  simp only [Op.equalIn, Sem.run_bind, run_underlying hT, Result.andThen_ok]; rfl
theorem equalIn_fnN {ps rs : Array TypeId} {vr : Bool} (hT : P.underlying T = some (.func ps rs vr)) (d : Nat) (w : World) : (Op.equalIn (d + 1) T .nilFunc .nilFunc).run P w = .ok true w := by
  simp only [Op.equalIn, Sem.run_bind, run_underlying hT, Result.andThen_ok]; rfl
/-- a function held against nil -/
theorem OpOk.eqlF {ps rs : Array TypeId} {vr : Bool} {fn : Fn} {a1 a2 : Array Value} (hT : P.underlying T = some (.func ps rs vr)) (hx : ev e x = some (.func fn a1 a2)) (hy : ev e y = some .nilFunc) : OpOk P e (.binOp .eql T x y T') H (.bool false) := by
  intro ρ o w ho hev _
  have h1 : (Op.equal T (.func fn a1 a2) .nilFunc).run P w = .ok false w := equalIn_fn hT 9999 w
  simp only [execOp, ho, hev _ _ hx, hev _ _ hy, eqGuard, binOp]
  simp [h1]
theorem OpOk.eqlN {ps rs : Array TypeId} {vr : Bool} (hT : P.underlying T = some (.func ps rs vr)) (hx : ev e x = some .nilFunc) (hy : ev e y = some .nilFunc) : OpOk P e (.binOp .eql T x y T') H (.bool true) := by
  intro ρ o w ho hev _
  have h1 : (Op.equal T .nilFunc .nilFunc).run P w = .ok true w := equalIn_fnN hT 9999 w
  simp only [execOp, ho, hev _ _ hx, hev _ _ hy, eqGuard, binOp]
  simp [h1]
theorem OpCh.insert {K E : TypeId} {ix : Operand} {b : Nat} {L : List (Int × Value)} {k : Int} {v : Value} (hT : P.underlying T = some (.map K E)) (hK : P.underlying K = some (.int .i64)) (hm : Im H b L)
    (hx : ev e x = some (.map (some b))) (hi : ev e ix = some (.int .i64 k)) (hy : ev e y = some v) : OpCh P e (.insert T x ix y) H (fun _ H' => Im H' b (upM L k v) ∧ Tw b H H') := by
  intro ρ o w ho hev hw
  have h1 := OpCh.mapUpdate (P := P) hT hK hm hx hi hy ρ { o with op := .mapUpdate T x ix y } w rfl hev hw
  have h2 : (execOp ρ { o with op := .mapUpdate T x ix y }).run P w = (execOp ρ o).run P w := by simp only [execOp, ho]
  rw [h2] at h1
  exact h1
theorem OpCh.makeMapB : OpCh P e (.makeMap T none) H (fun u H' => ∃ g, u = .map (some g) ∧ g = H.size ∧ H'.size = H.size + 1 ∧ Kp H.size H H' ∧ Im H' g []) := by
  intro ρ o w ho hev hw
  obtain ⟨v', w', h1, h2, h3, h4, rfl, h6⟩ := OpCh.makeMap0 (P := P) (T := T) (e := e) ρ o w ho hev hw
  exact ⟨_, w', h1, h2, h3, h4, H.size, rfl, rfl, by rw [h6]; simp, by rw [h6]; exact (Kp.refl _ _).push (Nat.le_refl _) _, by rw [h6]; exact Im.new⟩
end
/-- a slice held against nil: one of two, and where it is nil nothing is in it -/
theorem OpOk.eqlNilS {T T' E : TypeId} {x y : Operand} {α : Type} {r : Rp α} {F : PH} {v : Value} {l : List α} {N : Nat} (hT : P.underlying T = some (.slice E)) (hs : (rLn N r).rv F v l) (hr : 0 < r.sz) (hx : ev e x = some v) (hy : ev e y = some (.slice none 0 0)) :
    ∃ u, OpOk P e (.binOp .eql T x y T') H u ∧ ∃ b : Bool, u = .bool b ∧ (b = true → l = []) := by
  obtain ⟨_, a, cap, rfl, _, h3, _⟩ := hs
  refine ⟨.bool a.isNone, ?_, _, rfl, fun h => ?_⟩
  · intro ρ o w ho hev _
    have h1 : ∀ d, (Op.equalIn (d + 1) T (.slice a l.length cap) (.slice none 0 0)).run P w = .ok a.isNone w := by
      intro d
      cases a <;> (simp only [Op.equalIn, Sem.run_bind, run_underlying hT, Result.andThen_ok]; rfl)
    have h2 : (Op.equal T (.slice a l.length cap) (.slice none 0 0)).run P w = .ok a.isNone w := h1 9999
    simp only [execOp, ho, hev _ _ hx, hev _ _ hy, eqGuard, binOp]
    simp [h2]
  · by_cases h5 : l = []
    · exact h5
    · obtain ⟨b, o, rfl⟩ := h3 0 (Nat.mul_pos (List.length_pos_iff.2 h5) hr)
      cases h
theorem OpOk.indexI {T E : TypeId} {x iy : Operand} {k k' : IntKind} {n : Nat} {l : List Int} {I : Int} (hT : P.underlying T = some (.array n E)) (hE : Sz P E 1) (hO : One P E) (hx : ev e x = some (.agg (l.map (Value.int k)).toArray)) (hi : ev e iy = some (.int k' I)) (h1 : 0 ≤ I ∧ I < n ∧ n = l.length) :
    OpOk P e (.index T x iy) H (.int k (ix l I.toNat)) := by
  intro ρ o w ho hev _
  obtain ⟨h0, h1, rfl⟩ := h1
  have h2 : I.toNat < l.length := by omega
  have h3 : ¬ I < 0 := by omega
  rw [ix_eq h2]
  simp [execOp, ho, hev _ _ hx, hev _ _ hi, Instr.index, asIntOf, run_underlying hT, hE.run, hO.run, asAgg, part, h0, h1, h2]
/-- a result that lies in a box -/
theorem PF.retC {n : Nat} {w0 : World} {fn : Func} {R : Value → Heap → Prop} {p g : Nat} {ty T : TypeId} {l : List Value} (hr : fn.results = #[.cell p ty]) (hv : lk e p = some (.pointer (some ⟨g, 0, none⟩))) (hb : Bx H g T l)
    (hd : ∃ d, P.underlying ty = some d ∧ (match d with | .struct _ | .array _ _ => true | _ => false) = true) (hS : Sz P ty l.length) (hR : R (.agg l.toArray) H) : PF ⟨n, []⟩ w0 (BQ P fn w0 R) e .ret H := by
  intro a w hf hw
  obtain ⟨d, hd1, hd2⟩ := hd
  refine bodyPost_ret (results_cell_row hr _ w g T l.toArray (0, 0) d (hf.get p _ hv) (by rw [hw.heap]; exact hb) hd1 (by cases d <;> first | rfl | cases hd2) (by unfold Sz at hS; simpa using hS)) hf.defers ⟨_, rfl, hw.os, hw.tape, hw.output, hw.heap ▸ hR⟩
section
variable {n' : Fs} {w0 : World} {Q : Exit → Act → World → Prop} {ops : Array Oper} {rest : List Oper}
/-- a guarded call whose value is its own -/
theorem LF.gcallF {op : Op} {ty : TypeId} {pos : String} {af : Array Edge} {d f : Nat} {args : Array Value} {R : Value → Heap → Prop} {e : Env} {H : Heap} {j t : Nat} {want B : Bool} {u : Value} (hj : (ops[j]?).bind (·.dst) = some t) (hu : lk e t = some u) (hB : Gd u want B)
    (h : B = true → OpCall P e op H f args) (hc : B = true → Ct P f args H R)
    (K : ∀ v H', (B = true ∧ R v H') ∨ (B = false ∧ H' = H) → LF P n' w0 ops Q ((d, gv B v) :: e) rest H') (hd : Nat.blt d n'.sz = true := by rfl) (ht : Nat.blt t n'.sz = true := by rfl) : LF P n' w0 ops Q e (⟨some d, op, ty, pos, af, some (j, want)⟩ :: rest) H := by
  intro a w hf hw
  have hwt := wanted_gd (o := ⟨some d, op, ty, pos, af, some (j, want)⟩) rfl hj ht hf hu hB
  refine wpList_step fun K' hK' => ?_
  rw [hwt]
  cases B with
  | true =>
    simp only [if_true]
    unfold Oper.wp
    rw [h rfl a.eval _ w rfl (fun x u hx => hf.ev hx) hw.heap, Oper.upon_enter]
    refine (hc rfl w hw.heap).mono fun x w' ⟨v, hx, h1, h2, h3, hR⟩ => ?_
    subst hx
    exact hK' _ _ (K _ _ (.inl ⟨rfl, hR⟩) _ _ (hf.put hd v) ⟨rfl, h1.trans hw.os, h2.trans hw.tape, h3.trans hw.output⟩)
  | false => exact hK' _ _ (K undef _ (.inr ⟨rfl, rfl⟩) _ _ (hf.put hd undef) hw)
end
theorem gfresh {F : PH} {H H' : Heap} {B : Bool} {v : Value} {p : PH → Value → Prop} (hin : InH F H) (z : (B = true ∧ ∃ F', PH.ext H F F' ∧ InH F' H' ∧ Kp H.size H H' ∧ p F' v) ∨ (B = false ∧ H' = H)) : ∃ F', PH.ext H F F' ∧ InH F' H' ∧ Kp H.size H H' ∧ (B = true → p F' v) := by
  rcases z with ⟨_, F', h1, h2, h3, h4⟩ | ⟨hb, rfl⟩
  · exact ⟨F', h1, h2, h3, fun _ => h4⟩
  · exact ⟨F, PH.ext.refl F, hin, Kp.refl _ _, fun h => by rw [hb] at h; cases h⟩
theorem gkp2 {H H' : Heap} {B : Bool} {p : Prop} (z : (B = true ∧ p ∧ Kp H.size H H') ∨ (B = false ∧ H' = H)) : Kp H.size H H' := by
  rcases z with ⟨_, _, z⟩ | ⟨_, rfl⟩
  · exact z
  · exact Kp.refl _ _
theorem evl3 {e : Env} {x y z : Operand} {v u t : Value} (h : ev e x = some v) (h' : ev e y = some u) (h2 : ev e z = some t) : evl e [x, y, z] = some [v, u, t] := by simp [evl, h, h', h2]
theorem evl4 {e : Env} {x y z q : Operand} {v u t s : Value} (h : ev e x = some v) (h' : ev e y = some u) (h2 : ev e z = some t) (h3 : ev e q = some s) : evl e [x, y, z, q] = some [v, u, t, s] := by simp [evl, h, h', h2, h3]
theorem OpOk.eqv {op : Op} {v v' : Value} (h : OpOk P e op H v) (hv : v = v') : OpOk P e op H v' := hv ▸ h
theorem u32_nn (n : Int) : 0 ≤ IntKind.u32.wrap n := by rw [IntKind.wrap_u32]; omega
theorem up_i32_i64 {n : Int} (h : IntKind.i32.wrap n = n) : IntKind.i64.wrap n = n := by rw [IntKind.wrap_i32] at h; rw [IntKind.wrap_i64]; omega
theorem up_u32_i64 {n : Int} (h : IntKind.u32.wrap n = n) : IntKind.i64.wrap n = n := by rw [IntKind.wrap_u32] at h; rw [IntKind.wrap_i64]; omega
theorem up_u32_u64 {n : Int} (h : IntKind.u32.wrap n = n) : IntKind.u64.wrap n = n := by rw [IntKind.wrap_u32] at h; rw [IntKind.wrap_u64]; omega
theorem up_u8_i64 {n : Int} (h : IntKind.u8.wrap n = n) : IntKind.i64.wrap n = n := by rw [IntKind.wrap_u8] at h; rw [IntKind.wrap_i64]; omega
theorem up_u8_i32 {n : Int} (h : IntKind.u8.wrap n = n) : IntKind.i32.wrap n = n := by rw [IntKind.wrap_u8] at h; rw [IntKind.wrap_i32]; omega
theorem up_u16_i64 {n : Int} (h : IntKind.u16.wrap n = n) : IntKind.i64.wrap n = n := by rw [IntKind.wrap_u16] at h; rw [IntKind.wrap_i64]; omega
theorem up_u16_i32 {n : Int} (h : IntKind.u16.wrap n = n) : IntKind.i32.wrap n = n := by rw [IntKind.wrap_u16] at h; rw [IntKind.wrap_i32]; omega
theorem up_i64_i64 {n : Int} (h : IntKind.i64.wrap n = n) : IntKind.i64.wrap n = n := h
theorem up_i32_i32 {n : Int} (h : IntKind.i32.wrap n = n) : IntKind.i32.wrap n = n := h
theorem u32_lt (n : Int) : IntKind.u32.wrap n < 4294967296 := by rw [IntKind.wrap_u32]; omega
theorem u64_nn (n : Int) : 0 ≤ IntKind.u64.wrap n := by rw [IntKind.wrap_u64]; omega
theorem i32_rng {n : Int} (h : IntKind.i32.wrap n = n) : -2147483648 ≤ n ∧ n ≤ 2147483647 := by rw [IntKind.wrap_i32] at h; omega
theorem i64_rng {n : Int} (h : IntKind.i64.wrap n = n) : -9223372036854775808 ≤ n ∧ n ≤ 9223372036854775807 := by rw [IntKind.wrap_i64] at h; omega
theorem and31 (n : Int) (h : 0 ≤ n) : andI .u32 n 31 = n % 32 := by
  show IntKind.u32.wrap (((BitVec.ofInt 32 n &&& BitVec.ofInt 32 31).toNat : Nat) : Int) = _
  have h1 : (BitVec.ofInt 32 n &&& BitVec.ofInt 32 31).toNat = (BitVec.ofInt 32 n).toNat % 32 := by
    have h2 : (BitVec.ofInt 32 31).toNat = 2 ^ 5 - 1 := by decide
    rw [BitVec.toNat_and, h2, Nat.and_two_pow_sub_one_eq_mod]
  rw [h1, BitVec.toNat_ofInt, IntKind.wrap_u32]
  omega
theorem and15 (n : Int) : andI .i64 n 15 = n % 16 := by
  show IntKind.i64.wrap (((BitVec.ofInt 64 n &&& BitVec.ofInt 64 15).toNat : Nat) : Int) = _
  have h1 : (BitVec.ofInt 64 n &&& BitVec.ofInt 64 15).toNat = (BitVec.ofInt 64 n).toNat % 16 := by
    have h2 : (BitVec.ofInt 64 15).toNat = 2 ^ 4 - 1 := by decide
    rw [BitVec.toNat_and, h2, Nat.and_two_pow_sub_one_eq_mod]
  rw [h1, BitVec.toNat_ofInt, IntKind.wrap_i64]
  omega
end Go.JE
