/- Walks of the functions of chapter 14 that the laws on graphs reach. Conditions: each contract names its own. -/
import Derived.Test.YtkhphpobccnodaaFa
namespace Go.Proofs.Ytkhphpobccnodaa
open Go.JE

theorem rest_eq (x : Int) (n : Int) (hn : 0 < n) : (x.tmod n + n).tmod n = x % n := by
  have h1 := Int.lt_tmod_of_pos x hn
  have h2 := Int.emod_nonneg x (show n ≠ 0 by omega)
  have h3 := Int.emod_lt_of_pos x hn
  rw [Int.tmod_eq_emod_of_nonneg (by omega), Int.add_emod_right, Int.tmod_eq_emod]
  split
  · simp
  · rw [show ((n.natAbs : Int)) = n by omega, show x % n - n = x % n + (-1) * n by omega, Int.add_mul_emod_self_right]
    exact Int.emod_emod_of_dvd x (Int.dvd_refl n)

theorem take_snocD {α : Type} (l : List α) (k : Nat) (d : α) (h : k < l.length) : l.take (k + 1) = l.take k ++ [l.getD k d] := by
  rw [List.take_succ_eq_append_getElem h]; simp [List.getD, h]

theorem pcell_take (l : List (Int × Int)) (m i : Nat) (h : i < m * 2) : pcell (l.take m) i = pcell l i := by
  have h1 : i / 2 < m := by omega
  simp [pcell, List.getD, List.getElem?_take, h1]


theorem rest_ct {H : Heap} (x : Int) (n : Nat) (hn : 1 ≤ n ∧ n ≤ 1000) :
    Ct Try.prog 8 #[.int .i64 x, .int .i64 n] H (fun v H' => v = .int .i64 (x % n) ∧ H' = H) := by
  have b1 := Int.tmod_lt_of_pos x (show (0:Int) < n by omega)
  have b2 := Int.lt_tmod_of_pos x (show (0:Int) < n by omega)
  refine Ct.enter (args := [.int .i64 x, .int .i64 n]) Try.func8 rfl rfl rfl (fun w0 hw0 => ?_)
  refine CF.seq ?_
  refine CF.region ?_
  refine LF.step (OpOk.assign rfl) ?_
  refine LF.nil ?_
  refine PF.next ?_
  refine CF.seq ?_
  refine CF.region ?_
  refine LF.step (OpOk.move rfl) ?_
  refine LF.step (OpOk.move rfl) ?_
  refine LF.step (OpOk.rem rfl rfl (by omega)) ?_
  refine LF.step (OpOk.move rfl) ?_
  refine LF.step (OpOk.add rfl rfl (by omega)) ?_
  refine LF.step (OpOk.move rfl) ?_
  refine LF.step (OpOk.rem rfl rfl (by omega)) ?_
  refine LF.step (OpOk.assign rfl) ?_
  refine LF.nil ?_
  refine PF.next ?_
  refine CF.ret ?_
  have h1 : (x.tmod n + n).tmod n = x % n := rest_eq x n (by omega)
  exact PF.ret1 rfl rfl ⟨congrArg _ h1, rfl⟩


theorem nums_ct {H : Heap} {B : Nat} {va vb : Value} {xs ys : List Int} (hx : Ns H B va xs) (hy : Ns H B vb ys) :
    Ct Try.prog 10 #[va, vb] H (fun v H' => v = .bool (decide (xs = ys)) ∧ H' = H) := by
  have hl := hx.len
  refine Ct.enter (args := [va, vb]) Try.func10 rfl rfl rfl (fun w0 hw0 => ?_)
  refine CF.seq ?_
  refine CF.region ?_
  refine LF.step (OpOk.assign rfl) ?_
  refine LF.nil ?_
  refine PF.next ?_
  refine CF.seq ?_
  refine CF.seq ?_
  refine CF.region ?_
  refine LF.step (OpOk.move rfl) ?_
  refine LF.step (OpOk.lenSl Try.underlying22 hx rfl) ?_
  refine LF.step (OpOk.move rfl) ?_
  refine LF.step (OpOk.lenSl Try.underlying22 hy rfl) ?_
  refine LF.step (OpOk.neq rfl rfl) ?_
  refine LF.nil ?_
  refine PF.next ?_
  refine CF.if rfl (fun hc1 => ?_) (fun hc1 => ?_)
  · refine CF.seq ?_
    refine CF.region ?_
    refine LF.step (OpOk.assign rfl) ?_
    refine LF.nil ?_
    refine PF.next ?_
    refine CF.ret ?_
    refine PF.thenRet ?_
    exact PF.ret1 rfl rfl ⟨congrArg _ (by symm; simp; intro e1; exact hc1 (by rw [e1])), rfl⟩
  · refine CF.skip ?_
    refine PF.next ?_
    refine CF.seq ?_
    refine CF.seq ?_
    refine CF.region ?_
    refine LF.step (OpOk.assign rfl) ?_
    refine LF.nil ?_
    refine PF.next ?_
    refine CF.block ?_
    refine CF.loop (ι := Nat) (fun k H1 => k ≤ xs.length ∧ xs.take k = ys.take k ∧ H1 = H) (fun k => [(0, va), (1, vb), (5, .int .i64 k)]) (fun k => xs.length - k) 0 ⟨by omega, rfl, rfl⟩ ⟨rfl, rfl, rfl, trivial⟩ ?_
    rintro k H1 ⟨hk, ht, rfl⟩
    refine CF.seq ?_
    refine CF.seq ?_
    refine CF.region ?_
    refine LF.step (OpOk.move rfl) ?_
    refine LF.step (OpOk.move rfl) ?_
    refine LF.step (OpOk.lenSl Try.underlying22 hx rfl) ?_
    refine LF.step (OpOk.lss rfl rfl) ?_
    refine LF.nil ?_
    refine PF.next ?_
    refine CF.if rfl (fun hc2 => ?_) (fun hc2 => ?_)
    · refine CF.skip ?_
      refine PF.next ?_
      refine CF.seq ?_
      refine CF.block ?_
      refine CF.seq ?_
      refine CF.still Try.mixed (by kernel_rfl) ?_
      refine LS.step (OpOk.move rfl) ?_
      refine LS.step (OpOk.move rfl) ?_
      refine LS.step (OpOk.idx Try.underlying22 Try.sz3 hx rfl rfl rfl (by omega)) ?_
      refine LS.step (OpOk.load Try.one3 rfl rfl (hx.at (by omega))) ?_
      refine LS.step (OpOk.move rfl) ?_
      refine LS.step (OpOk.move rfl) ?_
      refine LS.step (OpOk.idx Try.underlying22 Try.sz3 hy rfl rfl rfl (by omega)) ?_
      refine LS.step (OpOk.load Try.one3 rfl rfl (hy.at (by omega))) ?_
      refine LS.step (OpOk.neq rfl rfl) ?_
      refine LS.done ?_
      refine PF.next ?_
      refine CF.if rfl (fun hc3 => ?_) (fun hc3 => ?_)
      · refine CF.seq ?_
        refine CF.region ?_
        refine LF.step (OpOk.assign rfl) ?_
        refine LF.nil ?_
        refine PF.next ?_
        refine CF.ret ?_
        refine PF.blockRet ?_
        refine PF.thenRet ?_
        refine PF.thenRet ?_
        refine PF.blockRet ?_
        refine PF.thenRet ?_
        exact PF.ret1 rfl rfl ⟨congrArg _ (by symm; simp; intro e1; exact hc3 (by rw [e1])), rfl⟩
      · refine CF.skip ?_
        refine PF.blockNormal ?_
        refine PF.next ?_
        refine CF.region ?_
        refine LF.step (OpOk.move rfl) ?_
        refine LF.step (OpOk.add rfl rfl (by omega)) ?_
        refine LF.step (OpOk.assign rfl) ?_
        refine LF.nil ?_
        exact PF.again (k + 1) ⟨by omega, by rw [take_snocD xs k 0 (by omega), take_snocD ys k 0 (by omega), ht, hc3], rfl⟩ ⟨rfl, rfl, rfl, trivial⟩ (by omega)
    · refine CF.exit ?_
      refine PF.thenExit ?_
      refine PF.thenExit ?_
      refine PF.blockHere ?_
      refine PF.next ?_
      refine CF.seq ?_
      refine CF.region ?_
      refine LF.step (OpOk.assign rfl) ?_
      refine LF.nil ?_
      refine PF.next ?_
      refine CF.ret ?_
      exact PF.ret1 rfl rfl ⟨congrArg _ (by symm; simp; rw [List.take_of_length_le (by omega), List.take_of_length_le (by omega)] at ht; exact ht), rfl⟩


theorem few_ct {H : Heap} {B : Nat} {v0 : Value} {l : List (Int × Int)} (hx : Ps H B v0 l) :
    Ct Try.prog 13 #[v0] H (fun v H' => Ps H B v (l.take 40) ∧ H' = H) := by
  refine Ct.enter (args := [v0]) Try.func13 rfl rfl rfl (fun w0 hw0 => ?_)
  refine CF.seq ?_
  refine CF.region ?_
  refine LF.step (OpOk.assign rfl) ?_
  refine LF.nil ?_
  refine PF.next ?_
  refine CF.seq ?_
  refine CF.seq ?_
  refine CF.region ?_
  refine LF.step (OpOk.move rfl) ?_
  refine LF.step (OpOk.lenSl Try.underlying23 hx rfl) ?_
  refine LF.step (OpOk.gtr rfl rfl) ?_
  refine LF.nil ?_
  refine PF.next ?_
  refine CF.if rfl (fun hc1 => ?_) (fun hc1 => ?_)
  · refine CF.seq ?_
    refine CF.region ?_
    refine LF.step (OpOk.move rfl) ?_
    refine LF.step (OpOk.sliceHi (hi := 40) Try.underlying23 Try.sz44 hx rfl rfl rfl (by omega)) ?_
    refine LF.step (OpOk.assign rfl) ?_
    refine LF.nil ?_
    refine PF.next ?_
    refine CF.ret ?_
    refine PF.thenRet ?_
    have h1 := Sl.resl hx (Nat.zero_le 40) (by omega)
    have h2 : (l.take 40).length = 40 := by simp; omega
    have h3 : Ps H B (resl 2 v0 0 40) (l.take 40) := by unfold Ps; rw [h2]; exact h1.congr (fun i hi => by rw [Nat.zero_mul, Nat.zero_add, pcell_take l 40 i (by omega)])
    exact PF.ret1 rfl rfl ⟨h3, rfl⟩
  · refine CF.skip ?_
    refine PF.next ?_
    refine CF.seq ?_
    refine CF.region ?_
    refine LF.step (OpOk.move rfl) ?_
    refine LF.step (OpOk.assign rfl) ?_
    refine LF.nil ?_
    refine PF.next ?_
    refine CF.ret ?_
    exact PF.ret1 rfl rfl ⟨by rw [List.take_of_length_le (by omega)]; exact hx, rfl⟩

/-- pairs of plain numbers, of nodes below n -/
def madeT (n : Nat) (l : List Int) (k : Nat) : List (Int × Int) := (List.range k).map fun i => (l.getD (2 * i) 0 % n, l.getD (2 * i + 1) 0 % n)
def madeS (n : Nat) (l : List Int) : List (Int × Int) := madeT n l (min 30 (l.length / 2))
def pflat : List (Int × Int) → List Value
  | [] => []
  | p :: r => .int .i64 p.1 :: .int .i64 p.2 :: pflat r
theorem pflat_append : ∀ (a b : List (Int × Int)), pflat (a ++ b) = pflat a ++ pflat b
  | [], b => rfl
  | p :: r, b => by simp [pflat, pflat_append r b]
theorem pflat_get : ∀ (l : List (Int × Int)) (i : Nat), i < l.length * 2 → (pflat l)[i]? = some (pcell l i)
  | [], i, h => by simp at h
  | p :: r, 0, _ => by simp [pflat, pcell]
  | p :: r, 1, _ => by simp [pflat, pcell]
  | p :: r, i + 2, h => by
    have := pflat_get r i (by simp at h; omega)
    simp only [pflat, List.getElem?_cons_succ, this, pcell]
    rw [show (i + 2) % 2 = i % 2 by omega, show (i + 2) / 2 = i / 2 + 1 by omega]
    simp [List.getD]
theorem madeT_snoc (n : Nat) (l : List Int) (k : Nat) : madeT n l (k + 1) = madeT n l k ++ [(l.getD (2 * k) 0 % n, l.getD (2 * k + 1) 0 % n)] := by
  simp [madeT, List.range_succ]
theorem madeT_len (n : Nat) (l : List Int) (k : Nat) : (madeT n l k).length = k := by simp [madeT]
theorem madeT_in (n : Nat) (hn : 1 ≤ n) (l : List Int) (k : Nat) : ∀ p ∈ madeT n l k, 0 ≤ p.1 ∧ p.1 < n ∧ 0 ≤ p.2 ∧ p.2 < n := by
  intro p hp
  obtain ⟨i, _, rfl⟩ := List.mem_map.1 hp
  have h0 : (n : Int) ≠ 0 := by omega
  have h1 : (0 : Int) < n := by omega
  exact ⟨Int.emod_nonneg _ h0, Int.emod_lt_of_pos _ h1, Int.emod_nonneg _ h0, Int.emod_lt_of_pos _ h1⟩
theorem Gr.ps {H : Heap} {B : Nat} {v : Value} {l : List (Int × Int)} (h : Gr H B 44 2 v l.length (pflat l)) : Ps H H.size v l := h.sl (fun i hi => pflat_get l i hi)

/- ------------------------------------------------ who are neighbours -/
def edgeOk (n : Nat) (e : Int × Int) : Bool := decide (0 ≤ e.1 ∧ e.1 < n ∧ 0 ≤ e.2 ∧ e.2 < n ∧ e.1 ≠ e.2)
def adjT (n : Nat) (es : List (Int × Int)) : Nat → Nat → Nat → Bool
  | 0, _, _ => false
  | j + 1, a, b => bif edgeOk n (es.getD j (0, 0)) then (if a = (es.getD j (0, 0)).2.toNat ∧ b = (es.getD j (0, 0)).1.toNat then true else if a = (es.getD j (0, 0)).1.toNat ∧ b = (es.getD j (0, 0)).2.toNat then true else adjT n es j a b) else adjT n es j a b
def adjS (n : Nat) (es : List (Int × Int)) (a b : Nat) : Bool := adjT n es es.length a b

theorem Mo.snoc {H1 H2 H3 : Heap} {B k n : Nat} {vo v2 : Value} {rb : Nat → Nat} {f : Nat → Nat → Bool} (h : Mo H1 B vo k n rb f) (hB : B ≤ H1.size) (hk12 : ∀ k, k < H1.size → H2[k]? = H1[k]?) (hsz : H2.size = H1.size + 1) (hrw : Rw H2 H1.size 4 n (fun j => .bool (f k j)))
    (hg : Gr H3 B 36 1 v2 (k + 1) (((List.range k).map fun i => .slice (some ⟨rb i, 0, none⟩) n n) ++ [.slice (some ⟨H1.size, 0, none⟩) n n])) (hgb : GrownBy H2 H3 vo.ownBlock) :
    Mo H3 B v2 (k + 1) n (fun i => if i = k then H1.size else rb i) f := by
  refine ⟨?_, fun i hi => ?_, fun i j hi hj e1 => ?_⟩
  · have e1 : ((List.range (k + 1)).map fun i => Value.slice (some ⟨if i = k then H1.size else rb i, 0, none⟩) n n) = (((List.range k).map fun i => .slice (some ⟨rb i, 0, none⟩) n n) ++ [.slice (some ⟨H1.size, 0, none⟩) n n]) := by
      rw [List.range_succ, List.map_append]
      congr 1
      · refine List.map_congr_left fun i hi => ?_
        have : i ≠ k := by have := List.mem_range.1 hi; omega
        rw [if_neg this]
      · simp
    rw [e1]; exact hg
  · by_cases e1 : i = k
    · subst e1
      simp only [if_true]
      refine ⟨hB, hrw.of (hgb.2 _ (by omega) ?_)⟩
      intro e2
      have := (h.outer.blk _ e2.symm).2
      omega
    · simp only [if_neg e1]
      obtain ⟨h1, h2⟩ := h.row i (by omega)
      refine ⟨h1, h2.of ?_⟩
      rw [hgb.2 _ (by have := h2.lt; omega) (fun e2 => h.outer.type_ne h2 (by decide) e2.symm)]
      exact hk12 _ h2.lt
  · by_cases e2 : i = k <;> by_cases e3 : j = k
    · omega
    · simp only [e2, if_true, if_neg e3] at e1
      have := (h.row j (by omega)).2.lt
      omega
    · simp only [e3, if_true, if_neg e2] at e1
      have := (h.row i (by omega)).2.lt
      omega
    · simp only [if_neg e2, if_neg e3] at e1
      exact h.apart i j (by omega) (by omega) e1
theorem Mo.rsl {H : Heap} {B m n i : Nat} {v : Value} {rb : Nat → Nat} {f : Nat → Nat → Bool} (h : Mo H B v m n rb f) (hi : i < m) (hn : n ≤ 9223372036854775807) : Sl H H.size (.slice (some ⟨rb i, 0, none⟩) n n) 1 n (fun j => .bool (f i j)) :=
  (h.row i hi).2.sl (h.row i hi).2.lt (by omega) hn (Nat.le_refl _)
theorem Mo.congr {H : Heap} {B m n : Nat} {v : Value} {rb : Nat → Nat} {f g : Nat → Nat → Bool} (h : Mo H B v m n rb f) (hfg : ∀ a b, f a b = g a b) : Mo H B v m n rb g := by
  have : f = g := funext fun a => funext fun b => hfg a b
  rw [← this]; exact h



theorem made_ct {H : Heap} {B : Nat} {vs : Value} {l : List Int} (n : Nat) (hn : 1 ≤ n ∧ n ≤ 1000) (hx : Ns H B vs l) :
    Ct Try.prog 9 #[.int .i64 n, vs] H (fun v H' => Ps H' H'.size v (madeS n l) ∧ Kp H.size H H') := by
  have hlen := hx.len
  refine Ct.enter (args := [.int .i64 n, vs]) Try.func9 rfl rfl rfl (fun w0 hw0 => ?_)
  refine CF.seq ?_
  refine CF.region ?_
  refine LF.step (OpOk.assign rfl) ?_
  refine LF.nil ?_
  refine PF.next ?_
  refine CF.seq ?_
  refine CF.region ?_
  refine LF.step (OpOk.assign rfl) ?_
  refine LF.nil ?_
  refine PF.next ?_
  refine CF.seq ?_
  refine CF.seq ?_
  refine CF.region ?_
  refine LF.step (OpOk.assign rfl) ?_
  refine LF.nil ?_
  refine PF.next ?_
  refine CF.block ?_
  refine CF.loop (ι := Nat × Value) (fun p H1 => 2 * p.1 ≤ l.length ∧ p.1 ≤ 30 ∧ Gr H1 H.size 44 2 p.2 p.1 (pflat (madeT n l p.1)) ∧ Kp H.size H H1) (fun p => [(0, .int .i64 n), (1, vs), (5, p.2), (6, .int .i64 (2 * p.1 : Nat))]) (fun p => l.length + 1 - 2 * p.1) (0, .slice none 0 0) ⟨by omega, by omega, Gr.nil _ _ _, Kp.refl _ _⟩ ⟨rfl, rfl, rfl, rfl, trivial⟩ ?_
  rintro ⟨k, vo⟩ H1 ⟨hk, hk2, hgr, hkp⟩
  simp only at hk hk2 hgr
  dsimp only
  have hx1 : Ns H1 H.size vs l := hx.up.kp hkp
  have hsz := hkp.1
  refine CF.seq ?_
  refine CF.seq ?_
  refine CF.region ?_
  refine LF.step (OpOk.move rfl) ?_
  refine LF.step (OpOk.add rfl rfl (by omega)) ?_
  refine LF.step (OpOk.move rfl) ?_
  refine LF.step (OpOk.lenSl Try.underlying22 hx1 rfl) ?_
  refine LF.step (OpOk.lss rfl rfl) ?_
  refine LF.step (OpOk.move rfl) ?_
  refine LF.gstep rfl rfl (.t _) (fun hg => OpOk.move rfl) ?_
  refine LF.gstep rfl rfl (.t _) (fun hg => OpOk.lss (evg rfl hg) rfl) ?_
  refine LF.step (OpOk.pickAnd rfl rfl) ?_
  refine LF.nil ?_
  refine PF.next ?_
  refine CF.if rfl (fun hc1 => ?_) (fun hc1 => ?_)
  · refine CF.skip ?_
    refine PF.next ?_
    refine CF.seq ?_
    refine CF.block ?_
    have hx1 := hx.up
    refine CF.any (fun H' => Kp H.size H H') Try.mixed ?_
    refine AF.take 0 rfl (by kernel_rfl) (by kernel_rfl) (by kernel_rfl) hkp (fun H9 hS9 => OpOk.move rfl) ?_
    refine AF.take 1 rfl (by kernel_rfl) (by kernel_rfl) (by kernel_rfl) hkp (fun H9 hS9 => OpOk.move rfl) ?_
    refine AF.take 2 rfl (by kernel_rfl) (by kernel_rfl) (by kernel_rfl) hkp (fun H9 hS9 => OpOk.move rfl) ?_
    refine AF.take 3 rfl (by kernel_rfl) (by kernel_rfl) (by kernel_rfl) hkp (fun H9 hS9 => OpOk.idx Try.underlying22 Try.sz3 (hx1.kp hS9) rfl rfl rfl (by omega)) ?_
    refine AF.take 4 rfl (by kernel_rfl) (by kernel_rfl) (by kernel_rfl) hkp (fun H9 hS9 => OpOk.load Try.one3 rfl rfl ((hx1.kp hS9).at (by omega))) ?_
    refine AF.take 5 rfl (by kernel_rfl) (by kernel_rfl) (by kernel_rfl) hkp (fun H9 hS9 => OpOk.move rfl) ?_
    have b1 := Int.tmod_lt_of_pos (l.getD (2 * k) 0) (show (0:Int) < n by omega)
    have b2 := Int.lt_tmod_of_pos (l.getD (2 * k) 0) (show (0:Int) < n by omega)
    refine AF.take 6 rfl (by kernel_rfl) (by kernel_rfl) (by kernel_rfl) hkp (fun H9 hS9 => OpOk.rem rfl rfl (by omega)) ?_
    refine AF.take 7 rfl (by kernel_rfl) (by kernel_rfl) (by kernel_rfl) hkp (fun H9 hS9 => OpOk.move rfl) ?_
    refine AF.take 8 rfl (by kernel_rfl) (by kernel_rfl) (by kernel_rfl) hkp (fun H9 hS9 => OpOk.add rfl rfl (by omega)) ?_
    refine AF.take 9 rfl (by kernel_rfl) (by kernel_rfl) (by kernel_rfl) hkp (fun H9 hS9 => OpOk.move rfl) ?_
    refine AF.take 10 rfl (by kernel_rfl) (by kernel_rfl) (by kernel_rfl) hkp (fun H9 hS9 => OpOk.rem rfl rfl (by omega)) ?_
    refine AF.take 11 rfl (by kernel_rfl) (by kernel_rfl) (by kernel_rfl) hkp (fun H9 hS9 => OpOk.move rfl) ?_
    refine AF.take 12 rfl (by kernel_rfl) (by kernel_rfl) (by kernel_rfl) hkp (fun H9 hS9 => OpOk.move rfl) ?_
    refine AF.take 13 rfl (by kernel_rfl) (by kernel_rfl) (by kernel_rfl) hkp (fun H9 hS9 => OpOk.add rfl rfl (by omega)) ?_
    refine AF.take 14 rfl (by kernel_rfl) (by kernel_rfl) (by kernel_rfl) hkp (fun H9 hS9 => OpOk.idx (i := 2 * k + 1) Try.underlying22 Try.sz3 (hx1.kp hS9) rfl rfl (by omega) (by omega)) ?_
    refine AF.take 15 rfl (by kernel_rfl) (by kernel_rfl) (by kernel_rfl) hkp (fun H9 hS9 => OpOk.load Try.one3 rfl rfl ((hx1.kp hS9).at (by omega))) ?_
    refine AF.take 16 rfl (by kernel_rfl) (by kernel_rfl) (by kernel_rfl) hkp (fun H9 hS9 => OpOk.move rfl) ?_
    have b3 := Int.tmod_lt_of_pos (l.getD (2 * k + 1) 0) (show (0:Int) < n by omega)
    have b4 := Int.lt_tmod_of_pos (l.getD (2 * k + 1) 0) (show (0:Int) < n by omega)
    refine AF.take 17 rfl (by kernel_rfl) (by kernel_rfl) (by kernel_rfl) hkp (fun H9 hS9 => OpOk.rem rfl rfl (by omega)) ?_
    refine AF.take 18 rfl (by kernel_rfl) (by kernel_rfl) (by kernel_rfl) hkp (fun H9 hS9 => OpOk.move rfl) ?_
    refine AF.take 19 rfl (by kernel_rfl) (by kernel_rfl) (by kernel_rfl) hkp (fun H9 hS9 => OpOk.add rfl rfl (by omega)) ?_
    refine AF.take 20 rfl (by kernel_rfl) (by kernel_rfl) (by kernel_rfl) hkp (fun H9 hS9 => OpOk.move rfl) ?_
    refine AF.take 21 rfl (by kernel_rfl) (by kernel_rfl) (by kernel_rfl) hkp (fun H9 hS9 => OpOk.rem rfl rfl (by omega)) ?_
    refine AF.take 22 rfl (by kernel_rfl) (by kernel_rfl) (by kernel_rfl) hkp (fun H9 hS9 => OpOk.build rfl (Try.build44 _ _)) ?_
    refine AF.chg 23 rfl (by kernel_rfl) (OpCh.lit Try.underlying23 Try.info44 (by decide) (by decide) rfl rfl rfl) (by rintro _ _ ⟨rfl, rfl⟩; exact hkp.push (Nat.le_refl _) _) ?_
    rintro _ _ ⟨rfl, rfl⟩
    have hkp1 := hkp.push (Nat.le_refl _) (.cells [.int .i64 (((l.getD (2 * k) 0).tmod n + n).tmod n), .int .i64 (((l.getD (2 * k + 1) 0).tmod n + n).tmod n)].toArray 44)
    refine AF.chg 24 rfl (by kernel_rfl) (OpCh.append (n := k) (m := 1) (c := 1) Try.underlying23 Try.info44 rfl (by decide) rfl (hgr.push _) rfl rfl (hn_new _) (by simp [Value.oneCell']) (by omega) (by omega) (by simp; omega)) (by rintro v9 H9 ⟨_, h9, _⟩; exact h9.kp hkp1 (Nat.le_refl _) (fun b hb => (hgr.blk b hb).1)) ?_
    rintro v2 H2 ⟨hg2, hgb2, hnn2, hob2⟩
    have hkp2 := hgb2.kp hkp1 (Nat.le_refl _) (fun b hb => (hgr.blk b hb).1)
    refine AF.take 25 rfl (by kernel_rfl) (by kernel_rfl) (by kernel_rfl) hkp2 (fun H9 hS9 => OpOk.assign rfl) ?_
    refine AF.done (by kernel_rfl) ?_
    refine PF.blockNormal ?_
    refine PF.next ?_
    refine CF.region ?_
    refine LF.step (OpOk.move rfl) ?_
    refine LF.step (OpOk.add rfl rfl (by omega)) ?_
    refine LF.step (OpOk.assign rfl) ?_
    refine LF.nil ?_
    rw [rest_eq _ n (by omega), rest_eq _ n (by omega)] at hg2
    have hg3 : Gr H2 H.size 44 2 v2 (k + 1) (pflat (madeT n l (k + 1))) := by rw [madeT_snoc, pflat_append]; exact hg2
    exact PF.again (k + 1, v2) ⟨by simp only; omega, by simp only; omega, hg3, hkp2⟩ ⟨rfl, rfl, rfl, eqI (by omega), trivial⟩ (by simp only; omega)
  · refine CF.exit ?_
    refine PF.thenExit ?_
    refine PF.thenExit ?_
    refine PF.blockHere ?_
    refine PF.next ?_
    refine CF.seq ?_
    refine CF.region ?_
    refine LF.step (OpOk.move rfl) ?_
    refine LF.step (OpOk.assign rfl) ?_
    refine LF.nil ?_
    refine PF.next ?_
    refine CF.ret ?_
    have hke : k = min 30 (l.length / 2) := by omega
    subst hke
    exact PF.ret1 rfl rfl ⟨Gr.ps (by unfold madeS; rw [madeT_len]; exact hgr), hkp⟩


theorem table_ct {H : Heap} {B : Nat} {vq : Value} {es : List (Int × Int)} (n : Nat) (hn : n ≤ 10000) (hq : Ps H B vq es) :
    Ct Try.prog 14 #[.int .i64 n, vq] H (fun v H' => Mt H' H'.size v n (adjS n es) ∧ Kp H.size H H') := by
  have hlen := hq.len
  refine Ct.enter (args := [.int .i64 n, vq]) Try.func14 rfl rfl rfl (fun w0 hw0 => ?_)
  refine CF.seq ?_
  refine CF.region ?_
  refine LF.step (OpOk.assign rfl) ?_
  refine LF.nil ?_
  refine PF.next ?_
  refine CF.seq ?_
  refine CF.region ?_
  refine LF.step (OpOk.assign rfl) ?_
  refine LF.nil ?_
  refine PF.next ?_
  refine CF.seq ?_
  refine CF.seq ?_
  refine CF.region ?_
  refine LF.step (OpOk.assign rfl) ?_
  refine LF.nil ?_
  refine PF.next ?_
  refine CF.block ?_
  refine CF.loop (ι := Nat × Value × (Nat → Nat)) (fun p H1 => p.1 ≤ n ∧ Mo H1 H.size p.2.1 p.1 n p.2.2 (fun _ _ => false) ∧ Kp H.size H H1) (fun p => [(0, .int .i64 n), (1, vq), (5, p.2.1), (6, .int .i64 p.1)]) (fun p => n - p.1) (0, .slice none 0 0, fun _ => 0) ⟨by omega, ⟨Gr.nil _ _ _, by intro i hi; simp only at hi; omega, by intro i j hi; simp only at hi; omega⟩, Kp.refl _ _⟩ ⟨rfl, rfl, rfl, rfl, trivial⟩ ?_
  rintro ⟨k, vo, rb⟩ H1 ⟨hk, hmo, hkp⟩
  simp only at hk hmo
  dsimp only
  have hsz := hkp.1
  refine CF.seq ?_
  refine CF.seq ?_
  refine CF.region ?_
  refine LF.step (OpOk.move rfl) ?_
  refine LF.step (OpOk.move rfl) ?_
  refine LF.step (OpOk.lss rfl rfl) ?_
  refine LF.nil ?_
  refine PF.next ?_
  refine CF.if rfl (fun hc1 => ?_) (fun hc1 => ?_)
  · refine CF.skip ?_
    refine PF.next ?_
    refine CF.seq ?_
    refine CF.block ?_
    refine CF.region ?_
    refine LF.step (OpOk.move rfl) ?_
    refine LF.step (OpOk.move rfl) ?_
    refine LF.chg (OpCh.make Try.underlying36 Try.info4 rfl rfl rfl (by omega) (by omega)) ?_
    rintro _ H2 ⟨rfl, hsz2, hold2, hrw2⟩
    have hmo2 := hmo.outer.kp ⟨by omega, hold2⟩
    refine LF.app Try.underlying33 Try.info36 rfl (by decide) (by decide) rfl rfl rfl (by simp [Value.oneCell']) rfl hmo2 (by omega) (by omega) (by omega) ?_
    intro v2 H3 hg2 hgb2 hnn2 hob2
    refine LF.step (OpOk.assign rfl) ?_
    refine LF.nil ?_
    refine PF.blockNormal ?_
    refine PF.next ?_
    refine CF.region ?_
    refine LF.step (OpOk.move rfl) ?_
    refine LF.step (OpOk.add rfl rfl (by omega)) ?_
    refine LF.step (OpOk.assign rfl) ?_
    refine LF.nil ?_
    have hmo3 := Mo.snoc hmo hkp.1 hold2 hsz2 hrw2 hg2 hgb2
    exact PF.again (k + 1, v2, _) ⟨by simp only; omega, hmo3, hgb2.kp (H := H2) (H0 := H) ⟨by omega, fun b hb => (hold2 b (by omega)).trans (hkp.2 b hb)⟩ (Nat.le_refl _) (fun b hb => (hmo.outer.blk b hb).1)⟩ ⟨rfl, rfl, rfl, rfl, trivial⟩ (by simp only; omega)
  · refine CF.exit ?_
    refine PF.thenExit ?_
    refine PF.thenExit ?_
    refine PF.blockHere ?_
    refine PF.next ?_
    refine CF.seq ?_
    refine CF.seq ?_
    refine CF.region ?_
    refine LF.step (OpOk.assign rfl) ?_
    refine LF.nil ?_
    refine PF.next ?_
    refine CF.block ?_
    obtain rfl : n = k := by omega
    refine CF.loop (ι := Nat) (fun j H4 => j ≤ es.length ∧ Mo H4 H.size vo n n rb (adjT n es j) ∧ Kp H.size H H4) (fun j => [(0, .int .i64 n), (1, vq), (5, vo), (7, .int .i64 j)]) (fun j => es.length - j) 0 ⟨by omega, hmo, hkp⟩ ⟨rfl, rfl, rfl, rfl, trivial⟩ ?_
    clear hmo hkp hsz
    rintro j H1 ⟨hj, hmo, hkp⟩
    have hq1 : Ps H1 H.size vq es := hq.up.kp hkp
    refine CF.seq ?_
    refine CF.seq ?_
    refine CF.region ?_
    refine LF.step (OpOk.move rfl) ?_
    refine LF.step (OpOk.move rfl) ?_
    refine LF.step (OpOk.lenSl Try.underlying23 hq1 rfl) ?_
    refine LF.step (OpOk.lss rfl rfl) ?_
    refine LF.nil ?_
    refine PF.next ?_
    refine CF.if rfl (fun hc2 => ?_) (fun hc2 => ?_)
    · refine CF.skip ?_
      refine PF.next ?_
      refine CF.seq ?_
      refine CF.block ?_
      refine CF.seq ?_
      refine CF.region ?_
      refine LF.step (OpOk.move rfl) ?_
      refine LF.step (OpOk.move rfl) ?_
      refine LF.step (OpOk.idxs Try.underlying23 Try.sz44 hq1 rfl rfl rfl (by omega)) ?_
      refine LF.step (OpOk.indexArr (i := 0) Try.underlying44 Try.sz3 rfl rfl rfl (by omega)) ?_
      refine LF.step (OpOk.load Try.one3 rfl rfl (hq1.fst (by omega))) ?_
      refine LF.step (OpOk.assign rfl) ?_
      refine LF.nil ?_
      refine PF.next ?_
      refine CF.seq ?_
      refine CF.region ?_
      refine LF.step (OpOk.move rfl) ?_
      refine LF.step (OpOk.move rfl) ?_
      refine LF.step (OpOk.idxs Try.underlying23 Try.sz44 hq1 rfl rfl rfl (by omega)) ?_
      refine LF.step (OpOk.indexArr (i := 1) Try.underlying44 Try.sz3 rfl rfl rfl (by omega)) ?_
      refine LF.step (OpOk.load Try.one3 rfl rfl (hq1.snd (by omega))) ?_
      refine LF.step (OpOk.assign rfl) ?_
      refine LF.nil ?_
      refine PF.next ?_
      refine CF.seq ?_
      refine CF.region ?_
      refine LF.step (OpOk.move rfl) ?_
      refine LF.step (OpOk.geq rfl rfl) ?_
      refine LF.step (OpOk.move rfl) ?_
      refine LF.gstep rfl rfl (.t _) (fun hg => OpOk.move rfl) ?_
      refine LF.gstep rfl rfl (.t _) (fun hg => OpOk.move rfl) ?_
      refine LF.gstep rfl rfl (.t _) (fun hg => OpOk.lss (evg rfl hg) (evg rfl hg)) ?_
      refine LF.step (OpOk.pickAnd rfl rfl) ?_
      refine LF.step (OpOk.move rfl) ?_
      refine LF.gstep rfl rfl (.t _) (fun hg => OpOk.move rfl) ?_
      refine LF.gstep rfl rfl (.t _) (fun hg => OpOk.geq (evg rfl hg) rfl) ?_
      refine LF.step (OpOk.pickAnd rfl rfl) ?_
      refine LF.step (OpOk.move rfl) ?_
      refine LF.gstep rfl rfl (.t _) (fun hg => OpOk.move rfl) ?_
      refine LF.gstep rfl rfl (.t _) (fun hg => OpOk.move rfl) ?_
      refine LF.gstep rfl rfl (.t _) (fun hg => OpOk.lss (evg rfl hg) (evg rfl hg)) ?_
      refine LF.step (OpOk.pickAnd rfl rfl) ?_
      refine LF.step (OpOk.move rfl) ?_
      refine LF.gstep rfl rfl (.t _) (fun hg => OpOk.move rfl) ?_
      refine LF.gstep rfl rfl (.t _) (fun hg => OpOk.move rfl) ?_
      refine LF.gstep rfl rfl (.t _) (fun hg => OpOk.neq (evg rfl hg) (evg rfl hg)) ?_
      refine LF.step (OpOk.pickAnd rfl rfl) ?_
      refine LF.nil ?_
      refine PF.next ?_
      refine CF.if rfl (fun hc3 => ?_) (fun hc3 => ?_)
      · refine CF.seq ?_
        refine CF.region ?_
        refine LF.step (OpOk.move rfl) ?_
        refine LF.step (OpOk.move rfl) ?_
        refine LF.step (OpOk.idx (i := (es.getD j (0, 0)).1.toNat) Try.underlying33 Try.sz36 hmo.sl rfl rfl (by omega) (by omega)) ?_
        refine LF.step (OpOk.load Try.one36 rfl rfl (hmo.sl.at (by omega))) ?_
        refine LF.step (OpOk.move rfl) ?_
        refine LF.step (OpOk.idx (i := (es.getD j (0, 0)).2.toNat) Try.underlying36 Try.sz4 (hmo.rsl (by omega) (by omega)) rfl rfl (by omega) (by omega)) ?_
        refine LF.chg0 (OpCh.store (b := rb (es.getD j (0, 0)).1.toNat) (i := 0 + (es.getD j (0, 0)).2.toNat) Try.sz4 rfl rfl rfl (hmo.row _ (by omega)).2 (by omega)) ?_
        rintro _ _ rfl
        have hmo2 := hmo.set (a := (es.getD j (0, 0)).1.toNat) (b := 0 + (es.getD j (0, 0)).2.toNat) (by omega) true
        have hkp2 := hkp.setc (i := 0 + (es.getD j (0, 0)).2.toNat) (v := .bool true) (hmo.row (es.getD j (0, 0)).1.toNat (by omega)).1
        refine LF.nil ?_
        refine PF.next ?_
        refine CF.region ?_
        refine LF.step (OpOk.move rfl) ?_
        refine LF.step (OpOk.move rfl) ?_
        refine LF.step (OpOk.idx (i := (es.getD j (0, 0)).2.toNat) Try.underlying33 Try.sz36 hmo2.sl rfl rfl (by omega) (by omega)) ?_
        refine LF.step (OpOk.load Try.one36 rfl rfl (hmo2.sl.at (by omega))) ?_
        refine LF.step (OpOk.move rfl) ?_
        refine LF.step (OpOk.idx (i := (es.getD j (0, 0)).1.toNat) Try.underlying36 Try.sz4 (hmo2.rsl (by omega) (by omega)) rfl rfl (by omega) (by omega)) ?_
        refine LF.chg0 (OpCh.store (b := rb (es.getD j (0, 0)).2.toNat) (i := 0 + (es.getD j (0, 0)).1.toNat) Try.sz4 rfl rfl rfl (hmo2.row _ (by omega)).2 (by omega)) ?_
        rintro _ _ rfl
        have hmo3 := hmo2.set (a := (es.getD j (0, 0)).2.toNat) (b := 0 + (es.getD j (0, 0)).1.toNat) (by omega) true
        have hkp3 := hkp2.setc (i := 0 + (es.getD j (0, 0)).1.toNat) (v := .bool true) (hmo2.row (es.getD j (0, 0)).2.toNat (by omega)).1
        refine LF.nil ?_
        refine PF.blockNormal ?_
        refine PF.next ?_
        refine CF.region ?_
        refine LF.step (OpOk.move rfl) ?_
        refine LF.step (OpOk.add rfl rfl (by omega)) ?_
        refine LF.step (OpOk.assign rfl) ?_
        refine LF.nil ?_
        have hok : edgeOk n (es.getD j (0, 0)) = true := by simp only [edgeOk, decide_eq_true_eq]; omega
        exact PF.again (j + 1) ⟨by omega, hmo3.congr (fun a b => by simp only [adjT, hok, cond_true, Nat.zero_add]), hkp3⟩ ⟨rfl, rfl, rfl, rfl, trivial⟩ (by omega)
      · refine CF.skip ?_
        refine PF.blockNormal ?_
        refine PF.next ?_
        refine CF.region ?_
        refine LF.step (OpOk.move rfl) ?_
        refine LF.step (OpOk.add rfl rfl (by omega)) ?_
        refine LF.step (OpOk.assign rfl) ?_
        refine LF.nil ?_
        have hok : edgeOk n (es.getD j (0, 0)) = false := by simp only [edgeOk, decide_eq_false_iff_not]; omega
        exact PF.again (j + 1) ⟨by omega, hmo.congr (fun a b => by simp only [adjT, hok, cond_false]), hkp⟩ ⟨rfl, rfl, rfl, rfl, trivial⟩ (by omega)
    · refine CF.exit ?_
      refine PF.thenExit ?_
      refine PF.thenExit ?_
      refine PF.blockHere ?_
      refine PF.next ?_
      refine CF.seq ?_
      refine CF.region ?_
      refine LF.step (OpOk.move rfl) ?_
      refine LF.step (OpOk.assign rfl) ?_
      refine LF.nil ?_
      refine PF.next ?_
      refine CF.ret ?_
      obtain rfl : j = es.length := by omega
      exact PF.ret1 rfl rfl ⟨hmo.mt (by omega), hkp⟩

end Go.Proofs.Ytkhphpobccnodaa
