/- Walks of the functions of chapter 14 that the laws on graphs reach, fifth part. Conditions: each contract names its own. -/
import Derived.Test.YtkhphpobccnodaaFi
namespace Go.Proofs.Ytkhphpobccnodaa
open Go.JE

theorem min_nat (a b : Nat) : (if (b : Int) < a then (b : Int) else a) = ((min a b : Nat) : Int) := by split <;> omega
theorem max_nat (a b : Nat) : (if (b : Int) > a then (b : Int) else a) = ((max a b : Nat) : Int) := by split <;> omega
theorem Gr.nt {H : Heap} {B n : Nat} {v : Value} {g : Nat → Nat} (h : Gr H B 3 1 v n ((List.range n).map fun i => .int .i64 (g i : Nat))) : Nt H H.size v n g :=
  h.sl fun i hi => by simp [show i < n by omega]
theorem evl3 {e : Env} {x y z : Operand} {v u t : Value} (h : ev e x = some v) (h' : ev e y = some u) (h2 : ev e z = some t) : evl e [x, y, z] = some [v, u, t] := by simp [evl, h, h', h2]
theorem evl4 {e : Env} {x y z q : Operand} {v u t s : Value} (h : ev e x = some v) (h' : ev e y = some u) (h2 : ev e z = some t) (h3 : ev e q = some s) : evl e [x, y, z, q] = some [v, u, t, s] := by simp [evl, h, h', h2, h3]
theorem nt_ns {H : Heap} {B n : Nat} {v : Value} {g : Nat → Nat} (h : Nt H B v n g) : Ns H B v ((List.range n).map fun i => (g i : Int)) := by
  unfold Ns
  rw [show ((List.range n).map fun i => (g i : Int)).length = n by simp]
  exact h.congr (fun i hi => by simp [List.getD, show i < n by omega])
theorem fillN (i j : Nat) : (if j = 0 + i then Value.int .i64 (i : Nat) else .int .i64 ((if j < i then j else 0 : Nat) : Int)) = .int .i64 ((if j < i + 1 then j else 0 : Nat) : Int) := by
  by_cases e1 : j = 0 + i
  · rw [if_pos e1, if_pos (show j < i + 1 by omega), show j = i by omega]
  · rw [if_neg e1]
    by_cases e2 : j < i
    · rw [if_pos e2, if_pos (show j < i + 1 by omega)]
    · rw [if_neg e2, if_neg (show ¬ j < i + 1 by omega)]


theorem near_ct {H : Heap} {B Bl : Nat} {vt vl : Value} {n : Nat} {t : Nat → Nat → Bool} {l : Nat → Nat} (ht : Mt H B vt n t) (hl : Nt H Bl vl n l) (a b : Nat) :
    Ct Try.prog 28 #[vt, vl, .int .i64 a, .int .i64 b] H (fun v H' => v = .bool (nearS t l n a b) ∧ H' = H) := by
  obtain ⟨r, ht, hr⟩ := ht
  have hn := ht.len
  refine Ct.enter (args := [vt, vl, .int .i64 a, .int .i64 b]) Try.func28 rfl rfl rfl (fun w0 hw0 => ?_)
  refine CF.seq ?_
  refine CF.region ?_
  refine LF.step (OpOk.assign rfl) ?_
  refine LF.nil ?_
  refine PF.next ?_
  refine CF.seq ?_
  refine CF.seq ?_
  refine CF.region ?_
  refine LF.step (OpOk.assign rfl) ?_
  refine LF.nil ?_
  refine PF.next ?_
  refine CF.block ?_
  refine CF.loop (ι := Nat) (fun i H1 => i ≤ n ∧ anyS (fun i => anyS (fun j => (decide (l i = a) && decide (l j = b)) && t i j) n) i = false ∧ H = H1) (fun i => [(0, vt), (1, vl), (2, .int .i64 a), (3, .int .i64 b), (9, .int .i64 i)]) (fun i => n - i) 0 ⟨by omega, rfl, rfl⟩ ⟨rfl, rfl, rfl, rfl, rfl, trivial⟩ ?_
  rintro i H1 ⟨hi, hno, rfl⟩
  refine CF.seq ?_
  refine CF.seq ?_
  refine CF.region ?_
  refine LF.step (OpOk.move rfl) ?_
  refine LF.step (OpOk.move rfl) ?_
  refine LF.step (OpOk.lenSl Try.underlying22 hl rfl) ?_
  refine LF.step (OpOk.lss rfl rfl) ?_
  refine LF.nil ?_
  refine PF.next ?_
  refine CF.if rfl (fun hc1 => ?_) (fun hc1 => ?_)
  · refine CF.skip ?_
    refine PF.next ?_
    refine CF.seq ?_
    refine CF.block ?_
    refine CF.seq ?_
    refine CF.region ?_
    refine LF.step (OpOk.assign rfl) ?_
    refine LF.nil ?_
    refine PF.next ?_
    refine CF.block ?_
    refine CF.loop (ι := Nat) (fun j H2 => j ≤ n ∧ anyS (fun j => (decide (l i = a) && decide (l j = b)) && t i j) j = false ∧ H = H2) (fun j => [(0, vt), (1, vl), (2, .int .i64 a), (3, .int .i64 b), (9, .int .i64 i), (10, .int .i64 j)]) (fun j => n - j) 0 ⟨by omega, rfl, rfl⟩ ⟨rfl, rfl, rfl, rfl, rfl, rfl, trivial⟩ ?_
    rintro j H2 ⟨hj, hno2, rfl⟩
    refine CF.seq ?_
    refine CF.seq ?_
    refine CF.region ?_
    refine LF.step (OpOk.move rfl) ?_
    refine LF.step (OpOk.move rfl) ?_
    refine LF.step (OpOk.lenSl Try.underlying22 hl rfl) ?_
    refine LF.step (OpOk.lss rfl rfl) ?_
    refine LF.nil ?_
    refine PF.next ?_
    refine CF.if rfl (fun hc2 => ?_) (fun hc2 => ?_)
    · refine CF.skip ?_
      refine PF.next ?_
      refine CF.seq ?_
      refine CF.block ?_
      refine CF.seq ?_
      refine CF.region ?_
      refine LF.step (OpOk.move rfl) ?_
      refine LF.step (OpOk.move rfl) ?_
      refine LF.step (OpOk.idx Try.underlying22 Try.sz3 hl rfl rfl rfl (by omega)) ?_
      refine LF.step (OpOk.load Try.one3 rfl rfl (hl.at (by omega))) ?_
      refine LF.step (OpOk.move rfl) ?_
      refine LF.step (OpOk.eql rfl rfl) ?_
      refine LF.step (OpOk.move rfl) ?_
      refine LF.gstep rfl rfl (.t _) (fun hg => OpOk.move rfl) ?_
      refine LF.gstep rfl rfl (.t _) (fun hg => OpOk.move rfl) ?_
      refine LF.gstep rfl rfl (.t _) (fun hg => OpOk.idx Try.underlying22 Try.sz3 hl (evg rfl hg) (evg rfl hg) rfl (by omega)) ?_
      refine LF.gstep rfl rfl (.t _) (fun hg => OpOk.load Try.one3 (evg rfl hg) rfl (hl.at (by omega))) ?_
      refine LF.gstep rfl rfl (.t _) (fun hg => OpOk.move rfl) ?_
      refine LF.gstep rfl rfl (.t _) (fun hg => OpOk.eql (evg rfl hg) (evg rfl hg)) ?_
      refine LF.step (OpOk.pickAnd rfl rfl) ?_
      refine LF.step (OpOk.move rfl) ?_
      refine LF.gstep rfl rfl (.t _) (fun hg => OpOk.move rfl) ?_
      refine LF.gstep rfl rfl (.t _) (fun hg => OpOk.move rfl) ?_
      refine LF.gstep rfl rfl (.t _) (fun hg => OpOk.idx Try.underlying33 Try.sz36 ht (evg rfl hg) (evg rfl hg) rfl (by omega)) ?_
      refine LF.gstep rfl rfl (.t _) (fun hg => OpOk.load Try.one36 (evg rfl hg) rfl (ht.at (by omega))) ?_
      refine LF.gstep rfl rfl (.t _) (fun hg => OpOk.move rfl) ?_
      refine LF.gstep rfl rfl (.t _) (fun hg => OpOk.idx Try.underlying36 Try.sz4 (hr i (by omega)) (evg rfl hg) (evg rfl hg) rfl (by omega)) ?_
      refine LF.gstep rfl rfl (.t _) (fun hg => OpOk.load Try.one4 (evg rfl hg) rfl ((hr i (by omega)).at (by omega))) ?_
      refine LF.step (OpOk.pickAnd rfl rfl) ?_
      refine LF.nil ?_
      refine PF.next ?_
      refine CF.if rfl (fun hc3 => ?_) (fun hc3 => ?_)
      · refine CF.seq ?_
        refine CF.region ?_
        refine LF.step (OpOk.assign rfl) ?_
        refine LF.nil ?_
        refine PF.next ?_
        refine CF.ret ?_
        refine PF.blockRet ?_
        refine PF.thenRet ?_
        refine PF.thenRet ?_
        refine PF.blockRet ?_
        refine PF.blockRet ?_
        refine PF.thenRet ?_
        refine PF.thenRet ?_
        refine PF.blockRet ?_
        refine PF.thenRet ?_
        exact PF.ret1 rfl rfl ⟨congrArg _ (nearS_iff.2 ⟨i, j, by omega, by omega, by omega, by omega, hc3.2⟩).symm, rfl⟩
      · refine CF.skip ?_
        refine PF.blockNormal ?_
        refine PF.next ?_
        refine CF.region ?_
        refine LF.step (OpOk.move rfl) ?_
        refine LF.step (OpOk.add rfl rfl (by omega)) ?_
        refine LF.step (OpOk.assign rfl) ?_
        refine LF.nil ?_
        exact PF.again (j + 1) ⟨by omega, (by simp only [anyS, hno2, Bool.false_or, Bool.and_eq_false_iff, decide_eq_false_iff_not]; rcases hc3 with (h9 | h9) | h9; (· exact .inl (.inl (by omega))); (· exact .inl (.inr (by omega))); exact .inr h9), rfl⟩ ⟨rfl, rfl, rfl, rfl, rfl, rfl, trivial⟩ (by omega)
    · refine CF.exit ?_
      refine PF.thenExit ?_
      refine PF.thenExit ?_
      refine PF.blockHere ?_
      refine PF.blockNormal ?_
      refine PF.next ?_
      refine CF.region ?_
      refine LF.step (OpOk.move rfl) ?_
      refine LF.step (OpOk.add rfl rfl (by omega)) ?_
      refine LF.step (OpOk.assign rfl) ?_
      refine LF.nil ?_
      obtain rfl : n = j := by omega
      exact PF.again (i + 1) ⟨by omega, (by simp only [anyS] at hno2 ⊢; rw [hno, hno2]; rfl), rfl⟩ ⟨rfl, rfl, rfl, rfl, rfl, trivial⟩ (by omega)
  · refine CF.exit ?_
    refine PF.thenExit ?_
    refine PF.thenExit ?_
    refine PF.blockHere ?_
    refine PF.next ?_
    refine CF.seq ?_
    refine CF.region ?_
    refine LF.step (OpOk.assign rfl) ?_
    refine LF.nil ?_
    refine PF.next ?_
    refine CF.ret ?_
    obtain rfl : n = i := by omega
    exact PF.ret1 rfl rfl ⟨congrArg _ hno.symm, rfl⟩


theorem joined_ct {H : Heap} {Bl : Nat} {vl : Value} {n : Nat} {l : Nat → Nat} (hn : n ≤ 10000) (hl : Nt H Bl vl n l) (a b : Nat) :
    Ct Try.prog 27 #[vl, .int .i64 a, .int .i64 b] H (fun v H' => Nt H' H'.size v n (joinS l a b) ∧ Kp H.size H H') := by
  refine Ct.enter (args := [vl, .int .i64 a, .int .i64 b]) Try.func27 rfl rfl rfl (fun w0 hw0 => ?_)
  refine CF.seq ?_
  refine CF.region ?_
  refine LF.step (OpOk.assign rfl) ?_
  refine LF.nil ?_
  refine PF.next ?_
  refine CF.seq ?_
  refine CF.region ?_
  refine LF.step (OpOk.assign rfl) ?_
  refine LF.nil ?_
  refine PF.next ?_
  refine CF.seq ?_
  refine CF.seq ?_
  refine CF.region ?_
  refine LF.step (OpOk.assign rfl) ?_
  refine LF.nil ?_
  refine PF.next ?_
  refine CF.block ?_
  refine CF.loop (ι := Nat × Value) (fun p H1 => p.1 ≤ n ∧ Gr H1 H.size 3 1 p.2 p.1 ((List.range p.1).map fun i => .int .i64 (joinS l a b i : Nat)) ∧ Kp H.size H H1) (fun p => [(0, vl), (1, .int .i64 a), (2, .int .i64 b), (7, p.2), (8, .int .i64 p.1)]) (fun p => n - p.1) (0, .slice none 0 0) ⟨by simp only; omega, Gr.nil _ _ _, Kp.refl _ _⟩ ⟨rfl, rfl, rfl, rfl, rfl, trivial⟩ ?_
  rintro ⟨i, vo⟩ H1 ⟨hi, hgr, hkp⟩
  simp only at hi hgr
  dsimp only
  have hl1 : Nt H1 H.size vl n l := Sl.kp (Sl.up hl) hkp
  have hkp1 := hkp.1
  refine CF.seq ?_
  refine CF.seq ?_
  refine CF.region ?_
  refine LF.step (OpOk.move rfl) ?_
  refine LF.step (OpOk.move rfl) ?_
  refine LF.step (OpOk.lenSl Try.underlying22 hl1 rfl) ?_
  refine LF.step (OpOk.lss rfl rfl) ?_
  refine LF.nil ?_
  refine PF.next ?_
  refine CF.if rfl (fun hc1 => ?_) (fun hc1 => ?_)
  · refine CF.skip ?_
    refine PF.next ?_
    refine CF.seq ?_
    refine CF.block ?_
    refine CF.seq ?_
    refine CF.region ?_
    refine LF.step (OpOk.move rfl) ?_
    refine LF.step (OpOk.move rfl) ?_
    refine LF.step (OpOk.idx Try.underlying22 Try.sz3 hl1 rfl rfl rfl (by omega)) ?_
    refine LF.step (OpOk.load Try.one3 rfl rfl (hl1.at (by omega))) ?_
    refine LF.step (OpOk.move rfl) ?_
    refine LF.step (OpOk.eql rfl rfl) ?_
    refine LF.step (OpOk.move rfl) ?_
    refine LF.gstep rfl rfl (.f _) (fun hg => OpOk.move rfl) ?_
    refine LF.gstep rfl rfl (.f _) (fun hg => OpOk.move rfl) ?_
    refine LF.gstep rfl rfl (.f _) (fun hg => OpOk.idx Try.underlying22 Try.sz3 hl1 (evg rfl hg) (evg rfl hg) rfl (by omega)) ?_
    refine LF.gstep rfl rfl (.f _) (fun hg => OpOk.load Try.one3 (evg rfl hg) rfl (hl1.at (by omega))) ?_
    refine LF.gstep rfl rfl (.f _) (fun hg => OpOk.move rfl) ?_
    refine LF.gstep rfl rfl (.f _) (fun hg => OpOk.eql (evg rfl hg) (evg rfl hg)) ?_
    refine LF.step (OpOk.pickOr rfl rfl) ?_
    refine LF.nil ?_
    refine PF.next ?_
    refine CF.if rfl (fun hc2 => ?_) (fun hc2 => ?_)
    · refine CF.region ?_
      refine LF.step (OpOk.move rfl) ?_
      refine LF.step (OpOk.move rfl) ?_
      refine LF.step (OpOk.move rfl) ?_
      refine LF.step (OpOk.min rfl rfl) ?_
      refine LF.app Try.underlying22 Try.info3 rfl (by decide) (by decide) rfl rfl rfl (by simp [Value.oneCell']) rfl hgr (by omega) (by omega) (by omega) ?_
      intro v2 H2 hg2 hgb2 hnn2 hob2
      refine LF.step (OpOk.assign rfl) ?_
      refine LF.nil ?_
      refine PF.blockNormal ?_
      refine PF.next ?_
      refine CF.region ?_
      refine LF.step (OpOk.move rfl) ?_
      refine LF.step (OpOk.add rfl rfl (by omega)) ?_
      refine LF.step (OpOk.assign rfl) ?_
      refine LF.nil ?_
      rw [min_nat] at hg2
      have hj : joinS l a b i = min a b := if_pos (by omega)
      have hg3 : Gr H2 H.size 3 1 v2 (i + 1) ((List.range (i + 1)).map fun i => .int .i64 (joinS l a b i : Nat)) := by rw [List.range_succ, List.map_append, List.map_singleton, hj]; exact hg2
      exact PF.again (i + 1, v2) ⟨by simp only; omega, hg3, hgb2.kp hkp (Nat.le_refl _) (fun b hb => (hgr.blk b hb).1)⟩ ⟨rfl, rfl, rfl, rfl, rfl, trivial⟩ (by simp only; omega)
    · refine CF.region ?_
      refine LF.step (OpOk.move rfl) ?_
      refine LF.step (OpOk.move rfl) ?_
      refine LF.step (OpOk.move rfl) ?_
      refine LF.step (OpOk.idx Try.underlying22 Try.sz3 hl1 rfl rfl rfl (by omega)) ?_
      refine LF.step (OpOk.load Try.one3 rfl rfl (hl1.at (by omega))) ?_
      refine LF.app Try.underlying22 Try.info3 rfl (by decide) (by decide) rfl rfl rfl (by simp [Value.oneCell']) rfl hgr (by omega) (by omega) (by omega) ?_
      intro v2 H2 hg2 hgb2 hnn2 hob2
      refine LF.step (OpOk.assign rfl) ?_
      refine LF.nil ?_
      refine PF.blockNormal ?_
      refine PF.next ?_
      refine CF.region ?_
      refine LF.step (OpOk.move rfl) ?_
      refine LF.step (OpOk.add rfl rfl (by omega)) ?_
      refine LF.step (OpOk.assign rfl) ?_
      refine LF.nil ?_
      have hj : joinS l a b i = l i := if_neg (by omega)
      have hg3 : Gr H2 H.size 3 1 v2 (i + 1) ((List.range (i + 1)).map fun i => .int .i64 (joinS l a b i : Nat)) := by rw [List.range_succ, List.map_append, List.map_singleton, hj]; exact hg2
      exact PF.again (i + 1, v2) ⟨by simp only; omega, hg3, hgb2.kp hkp (Nat.le_refl _) (fun b hb => (hgr.blk b hb).1)⟩ ⟨rfl, rfl, rfl, rfl, rfl, trivial⟩ (by simp only; omega)
  · refine CF.exit ?_
    refine PF.thenExit ?_
    refine PF.thenExit ?_
    refine PF.blockHere ?_
    refine PF.next ?_
    refine CF.seq ?_
    refine CF.region ?_
    refine LF.step (OpOk.move rfl) ?_
    refine LF.step (OpOk.assign rfl) ?_
    refine LF.nil ?_
    refine PF.next ?_
    refine CF.ret ?_
    obtain rfl : n = i := by omega
    exact PF.ret1 rfl rfl ⟨Gr.nt hgr, hkp⟩


theorem joins_ct {H : Heap} {B Bl : Nat} {vt vl : Value} {n : Nat} {t : Nat → Nat → Bool} {l : Nat → Nat} (hn : n ≤ 10000) (ht : Mt H B vt n t) (hl : Nt H Bl vl n l) (a b : Nat) (k : Int) :
    Ct Try.prog 26 #[vt, vl, .int .i64 a, .int .i64 b, .int .i64 k] H (fun v H' => v = .bool (mayR t l n k a b) ∧ Kp H.size H H') := by
  refine Ct.enter (args := [vt, vl, .int .i64 a, .int .i64 b, .int .i64 k]) Try.func26 rfl rfl rfl (fun w0 hw0 => ?_)
  refine CF.seq ?_
  refine CF.region ?_
  refine LF.step (OpOk.assign rfl) ?_
  refine LF.nil ?_
  refine PF.next ?_
  refine CF.seq ?_
  refine CF.seq ?_
  refine CF.region ?_
  refine LF.step (OpOk.move rfl) ?_
  refine LF.step (OpOk.move rfl) ?_
  refine LF.step (OpOk.eql rfl rfl) ?_
  refine LF.nil ?_
  refine PF.next ?_
  refine CF.if rfl (fun hc1 => ?_) (fun hc1 => ?_)
  · refine CF.seq ?_
    refine CF.region ?_
    refine LF.step (OpOk.assign rfl) ?_
    refine LF.nil ?_
    refine PF.next ?_
    refine CF.ret ?_
    refine PF.thenRet ?_
    exact PF.ret1 rfl rfl ⟨congrArg _ (by simp only [mayR]; rw [decide_eq_true (show a = b by omega)]; rfl), Kp.refl _ _⟩
  · refine CF.skip ?_
    refine PF.next ?_
    refine CF.seq ?_
    refine CF.region ?_
    refine LF.step (OpOk.move rfl) ?_
    refine LF.step (OpOk.move rfl) ?_
    refine LF.step (OpOk.move rfl) ?_
    refine LF.step (OpOk.move rfl) ?_
    refine LF.call (OpCall.fn Try.ent28 rfl rfl) (near_ct ht hl a b) ?_
    rintro _ H9 ⟨rfl, h9⟩
    obtain rfl : H = H9 := h9.symm
    refine LF.step (OpOk.assign rfl) ?_
    refine LF.nil ?_
    refine PF.next ?_
    refine CF.seq ?_
    refine CF.seq ?_
    refine CF.region ?_
    refine LF.step (OpOk.move rfl) ?_
    refine LF.nil ?_
    refine PF.next ?_
    refine CF.if rfl (fun hc2 => ?_) (fun hc2 => ?_)
    · refine CF.seq ?_
      refine CF.region ?_
      refine LF.step (OpOk.assign rfl) ?_
      refine LF.nil ?_
      refine PF.next ?_
      refine CF.ret ?_
      refine PF.thenRet ?_
      exact PF.ret1 rfl rfl ⟨congrArg _ (by simp only [mayR]; rw [hc2]; simp), Kp.refl _ _⟩
    · refine CF.skip ?_
      refine PF.next ?_
      refine CF.seq ?_
      refine CF.region ?_
      refine LF.step (OpOk.move rfl) ?_
      refine LF.step (OpOk.move rfl) ?_
      refine LF.step (OpOk.move rfl) ?_
      refine LF.call (OpCall.fn Try.ent27 rfl rfl) (joined_ct hn hl a b) ?_
      rintro vm Hm ⟨hm, hkm⟩
      obtain ⟨m, hmd⟩ : ∃ m, m = joinS l a b := ⟨_, rfl⟩
      rw [← hmd] at hm
      have htm : Mt Hm H.size vt n t := Mt.kp (Mt.up ht) hkm
      refine LF.step (OpOk.assign rfl) ?_
      refine LF.nil ?_
      refine PF.next ?_
      refine CF.seq ?_
      refine CF.region ?_
      refine LF.step (OpOk.move rfl) ?_
      refine LF.step (OpOk.move rfl) ?_
      refine LF.step (OpOk.eqv (OpOk.min rfl rfl) (congrArg _ (min_nat a b))) ?_
      obtain ⟨c, hcd⟩ : ∃ c, c = min a b := ⟨_, rfl⟩
      rw [← hcd]
      refine LF.step (OpOk.assign rfl) ?_
      refine LF.nil ?_
      refine PF.next ?_
      refine CF.seq ?_
      refine CF.region ?_
      refine LF.step (OpOk.assign rfl) ?_
      refine LF.nil ?_
      refine PF.next ?_
      refine CF.seq ?_
      refine CF.seq ?_
      refine CF.region ?_
      refine LF.step (OpOk.assign rfl) ?_
      refine LF.nil ?_
      refine PF.next ?_
      refine CF.block ?_
      refine CF.loop (ι := Nat) (fun x H1 => x ≤ n ∧ Hm = H1) (fun x => [(0, vt), (4, .int .i64 k), (12, vm), (13, .int .i64 c), (14, .int .i64 (cntS (fun x => ((decide (m x = x) && !decide (x = c)) && nearS t m n x c) && decide (k ≤ (cntS (fun y => (decide (m y = y) && !decide (y = x)) && nearS t m n x y) n : Nat))) x : Nat)), (15, .int .i64 x)]) (fun x => n - x) 0 ⟨by omega, rfl⟩ ⟨rfl, rfl, rfl, rfl, rfl, rfl, trivial⟩ ?_
      rintro x H1 ⟨hx, rfl⟩
      have hcl := cntS_le (fun x => ((decide (m x = x) && !decide (x = c)) && nearS t m n x c) && decide (k ≤ (cntS (fun y => (decide (m y = y) && !decide (y = x)) && nearS t m n x y) n : Nat))) x
      refine CF.seq ?_
      refine CF.seq ?_
      refine CF.region ?_
      refine LF.step (OpOk.move rfl) ?_
      refine LF.step (OpOk.move rfl) ?_
      refine LF.step (OpOk.lenSl Try.underlying22 hm rfl) ?_
      refine LF.step (OpOk.lss rfl rfl) ?_
      refine LF.nil ?_
      refine PF.next ?_
      refine CF.if rfl (fun hc3 => ?_) (fun hc3 => ?_)
      · refine CF.skip ?_
        refine PF.next ?_
        refine CF.seq ?_
        refine CF.block ?_
        refine CF.seq ?_
        refine CF.region ?_
        refine LF.step (OpOk.move rfl) ?_
        refine LF.step (OpOk.move rfl) ?_
        refine LF.step (OpOk.idx Try.underlying22 Try.sz3 hm rfl rfl rfl (by omega)) ?_
        refine LF.step (OpOk.load Try.one3 rfl rfl (hm.at (by omega))) ?_
        refine LF.step (OpOk.move rfl) ?_
        refine LF.step (OpOk.eql rfl rfl) ?_
        refine LF.step (OpOk.move rfl) ?_
        refine LF.gstep rfl rfl (.t _) (fun hg => OpOk.move rfl) ?_
        refine LF.gstep rfl rfl (.t _) (fun hg => OpOk.move rfl) ?_
        refine LF.gstep rfl rfl (.t _) (fun hg => OpOk.neq (evg rfl hg) (evg rfl hg)) ?_
        refine LF.step (OpOk.pickAnd rfl rfl) ?_
        refine LF.step (OpOk.move rfl) ?_
        refine LF.gstep rfl rfl (.t _) (fun hg => OpOk.move rfl) ?_
        refine LF.gstep rfl rfl (.t _) (fun hg => OpOk.move rfl) ?_
        refine LF.gstep rfl rfl (.t _) (fun hg => OpOk.move rfl) ?_
        refine LF.gstep rfl rfl (.t _) (fun hg => OpOk.move rfl) ?_
        refine LF.gcall rfl rfl (.t _) (fun hg => OpCall.fn Try.ent28 rfl (evl4 (evg rfl hg) (evg rfl hg) (evg rfl hg) (evg rfl hg))) (fun _ => near_ct htm hm x c) (fun _ _ h => h) ?_
        refine LF.step (OpOk.pickAnd rfl rfl) ?_
        refine LF.step (OpOk.assign rfl) ?_
        refine LF.nil ?_
        refine PF.next ?_
        refine CF.seq ?_
        refine CF.seq ?_
        refine CF.region ?_
        refine LF.step (OpOk.move rfl) ?_
        refine LF.step (OpOk.not rfl) ?_
        refine LF.nil ?_
        refine PF.next ?_
        refine CF.if rfl (fun hc4 => ?_) (fun hc4 => ?_)
        · refine CF.exit ?_
          refine PF.thenExit ?_
          refine PF.blockHere ?_
          refine PF.next ?_
          refine CF.region ?_
          refine LF.step (OpOk.move rfl) ?_
          refine LF.step (OpOk.add rfl rfl (by omega)) ?_
          refine LF.step (OpOk.assign rfl) ?_
          refine LF.nil ?_
          have hb9 : ((decide (m x = x) && !decide (x = c)) && nearS t m n x c) = false := by (rcases hc4 with (h9 | h9) | h9; (· rw [decide_eq_false (by omega)]; rfl); (· rw [decide_eq_true (show x = c by omega)]; simp); rw [h9]; simp)
          exact PF.again (x + 1) ⟨by omega, rfl⟩ ⟨rfl, rfl, rfl, rfl, eqI (cntS_no (by simp only [hb9, Bool.false_and])).symm, rfl, trivial⟩ (by omega)
        · refine CF.skip ?_
          refine PF.next ?_
          refine CF.seq ?_
          refine CF.region ?_
          refine LF.step (OpOk.assign rfl) ?_
          refine LF.nil ?_
          refine PF.next ?_
          refine CF.seq ?_
          refine CF.seq ?_
          refine CF.region ?_
          refine LF.step (OpOk.assign rfl) ?_
          refine LF.nil ?_
          refine PF.next ?_
          refine CF.block ?_
          refine CF.loop (ι := Nat) (fun y H2 => y ≤ n ∧ Hm = H2) (fun y => [(0, vt), (4, .int .i64 k), (12, vm), (13, .int .i64 c), (14, .int .i64 (cntS (fun x => ((decide (m x = x) && !decide (x = c)) && nearS t m n x c) && decide (k ≤ (cntS (fun y => (decide (m y = y) && !decide (y = x)) && nearS t m n x y) n : Nat))) x : Nat)), (15, .int .i64 x), (17, .int .i64 (cntS (fun y => (decide (m y = y) && !decide (y = x)) && nearS t m n x y) y : Nat)), (18, .int .i64 y)]) (fun y => n - y) 0 ⟨by omega, rfl⟩ ⟨rfl, rfl, rfl, rfl, rfl, rfl, rfl, rfl, trivial⟩ ?_
          rintro y H2 ⟨hy, rfl⟩
          have hcl2 := cntS_le (fun y => (decide (m y = y) && !decide (y = x)) && nearS t m n x y) y
          refine CF.seq ?_
          refine CF.seq ?_
          refine CF.region ?_
          refine LF.step (OpOk.move rfl) ?_
          refine LF.step (OpOk.move rfl) ?_
          refine LF.step (OpOk.lenSl Try.underlying22 hm rfl) ?_
          refine LF.step (OpOk.lss rfl rfl) ?_
          refine LF.nil ?_
          refine PF.next ?_
          refine CF.if rfl (fun hc5 => ?_) (fun hc5 => ?_)
          · refine CF.skip ?_
            refine PF.next ?_
            refine CF.seq ?_
            refine CF.block ?_
            refine CF.seq ?_
            refine CF.region ?_
            refine LF.step (OpOk.move rfl) ?_
            refine LF.step (OpOk.move rfl) ?_
            refine LF.step (OpOk.idx Try.underlying22 Try.sz3 hm rfl rfl rfl (by omega)) ?_
            refine LF.step (OpOk.load Try.one3 rfl rfl (hm.at (by omega))) ?_
            refine LF.step (OpOk.move rfl) ?_
            refine LF.step (OpOk.eql rfl rfl) ?_
            refine LF.step (OpOk.move rfl) ?_
            refine LF.gstep rfl rfl (.t _) (fun hg => OpOk.move rfl) ?_
            refine LF.gstep rfl rfl (.t _) (fun hg => OpOk.move rfl) ?_
            refine LF.gstep rfl rfl (.t _) (fun hg => OpOk.neq (evg rfl hg) (evg rfl hg)) ?_
            refine LF.step (OpOk.pickAnd rfl rfl) ?_
            refine LF.step (OpOk.move rfl) ?_
            refine LF.gstep rfl rfl (.t _) (fun hg => OpOk.move rfl) ?_
            refine LF.gstep rfl rfl (.t _) (fun hg => OpOk.move rfl) ?_
            refine LF.gstep rfl rfl (.t _) (fun hg => OpOk.move rfl) ?_
            refine LF.gstep rfl rfl (.t _) (fun hg => OpOk.move rfl) ?_
            refine LF.gcall rfl rfl (.t _) (fun hg => OpCall.fn Try.ent28 rfl (evl4 (evg rfl hg) (evg rfl hg) (evg rfl hg) (evg rfl hg))) (fun _ => near_ct htm hm x y) (fun _ _ h => h) ?_
            refine LF.step (OpOk.pickAnd rfl rfl) ?_
            refine LF.step (OpOk.assign rfl) ?_
            refine LF.nil ?_
            refine PF.next ?_
            refine CF.seq ?_
            refine CF.region ?_
            refine LF.step (OpOk.move rfl) ?_
            refine LF.nil ?_
            refine PF.next ?_
            refine CF.if rfl (fun hc6 => ?_) (fun hc6 => ?_)
            · refine CF.region ?_
              refine LF.step (OpOk.move rfl) ?_
              refine LF.step (OpOk.add rfl rfl (by omega)) ?_
              refine LF.step (OpOk.assign rfl) ?_
              refine LF.nil ?_
              refine PF.blockNormal ?_
              refine PF.next ?_
              refine CF.region ?_
              refine LF.step (OpOk.move rfl) ?_
              refine LF.step (OpOk.add rfl rfl (by omega)) ?_
              refine LF.step (OpOk.assign rfl) ?_
              refine LF.nil ?_
              have hb9 : ((decide (m y = y) && !decide (y = x)) && nearS t m n x y) = true := by rw [decide_eq_true (show m y = y by omega), decide_eq_false (show ¬ y = x by omega), hc6.2]; rfl
              exact PF.again (y + 1) ⟨by omega, rfl⟩ ⟨rfl, rfl, rfl, rfl, rfl, rfl, eqI (cntS_yes hb9).symm, rfl, trivial⟩ (by omega)
            · refine CF.skip ?_
              refine PF.blockNormal ?_
              refine PF.next ?_
              refine CF.region ?_
              refine LF.step (OpOk.move rfl) ?_
              refine LF.step (OpOk.add rfl rfl (by omega)) ?_
              refine LF.step (OpOk.assign rfl) ?_
              refine LF.nil ?_
              have hb9 : ((decide (m y = y) && !decide (y = x)) && nearS t m n x y) = false := by (rcases hc6 with (h9 | h9) | h9; (· rw [decide_eq_false (by omega)]; rfl); (· rw [decide_eq_true (show y = x by omega)]; simp); rw [h9]; simp)
              exact PF.again (y + 1) ⟨by omega, rfl⟩ ⟨rfl, rfl, rfl, rfl, rfl, rfl, eqI (cntS_no hb9).symm, rfl, trivial⟩ (by omega)
          · refine CF.exit ?_
            refine PF.thenExit ?_
            refine PF.thenExit ?_
            refine PF.blockHere ?_
            refine PF.next ?_
            refine CF.seq ?_
            refine CF.region ?_
            refine LF.step (OpOk.move rfl) ?_
            refine LF.step (OpOk.move rfl) ?_
            refine LF.step (OpOk.geq rfl rfl) ?_
            refine LF.nil ?_
            refine PF.next ?_
            refine CF.if rfl (fun hc7 => ?_) (fun hc7 => ?_)
            · refine CF.region ?_
              refine LF.step (OpOk.move rfl) ?_
              refine LF.step (OpOk.add rfl rfl (by omega)) ?_
              refine LF.step (OpOk.assign rfl) ?_
              refine LF.nil ?_
              refine PF.blockNormal ?_
              refine PF.next ?_
              refine CF.region ?_
              refine LF.step (OpOk.move rfl) ?_
              refine LF.step (OpOk.add rfl rfl (by omega)) ?_
              refine LF.step (OpOk.assign rfl) ?_
              refine LF.nil ?_
              obtain rfl : n = y := by omega
              have hb9 : ((decide (m x = x) && !decide (x = c)) && nearS t m n x c) = true := by rw [decide_eq_true (show m x = x by omega), decide_eq_false (show ¬ x = c by omega), hc4.2]; rfl
              exact PF.again (x + 1) ⟨by omega, rfl⟩ ⟨rfl, rfl, rfl, rfl, eqI (cntS_yes (by simp only [hb9, Bool.true_and]; exact decide_eq_true hc7)).symm, rfl, trivial⟩ (by omega)
            · refine CF.skip ?_
              refine PF.blockNormal ?_
              refine PF.next ?_
              refine CF.region ?_
              refine LF.step (OpOk.move rfl) ?_
              refine LF.step (OpOk.add rfl rfl (by omega)) ?_
              refine LF.step (OpOk.assign rfl) ?_
              refine LF.nil ?_
              obtain rfl : n = y := by omega
              exact PF.again (x + 1) ⟨by omega, rfl⟩ ⟨rfl, rfl, rfl, rfl, eqI (cntS_no (by rw [Bool.and_eq_false_iff]; exact .inr (decide_eq_false hc7))).symm, rfl, trivial⟩ (by omega)
      · refine CF.exit ?_
        refine PF.thenExit ?_
        refine PF.thenExit ?_
        refine PF.blockHere ?_
        refine PF.next ?_
        refine CF.seq ?_
        refine CF.region ?_
        refine LF.step (OpOk.move rfl) ?_
        refine LF.step (OpOk.move rfl) ?_
        refine LF.step (OpOk.lss rfl rfl) ?_
        refine LF.step (OpOk.assign rfl) ?_
        refine LF.nil ?_
        refine PF.next ?_
        refine CF.ret ?_
        obtain rfl : n = x := by omega
        exact PF.ret1 rfl rfl ⟨congrArg _ (by simp only [mayR, manyR]; rw [decide_eq_false (show ¬ a = b by omega), hc2, ← hmd, ← hcd]; rfl), hkm⟩


theorem refMerged_ct {H : Heap} {B Bm : Nat} {vq vm : Value} {es ms : List (Int × Int)} (n : Nat) (hn : n ≤ 8192) (k : Int) (hq : Ps H B vq es) (hm : Ps H Bm vm ms) :
    Ct Try.prog 16 #[.int .i64 n, vq, vm, .int .i64 k] H (fun v H' => Ns H' H'.size v (mergedS (adjS n es) n k ms) ∧ Kp H.size H H') := by
  have hsym : ∀ i j, adjS n es i j = adjS n es j i := fun i j => adjT_sym _ _ _ _ _
  have hml := hm.len
  refine Ct.enter (args := [.int .i64 n, vq, vm, .int .i64 k]) Try.func16 rfl rfl rfl (fun w0 hw0 => ?_)
  refine CF.seq ?_
  refine CF.region ?_
  refine LF.step (OpOk.assign rfl) ?_
  refine LF.nil ?_
  refine PF.next ?_
  refine CF.seq ?_
  refine CF.seq ?_
  refine CF.region ?_
  refine LF.step (OpOk.move rfl) ?_
  refine LF.step (OpOk.lss rfl rfl) ?_
  refine LF.step (OpOk.move rfl) ?_
  refine LF.gstep rfl rfl (.f _) (fun hg => OpOk.move rfl) ?_
  refine LF.gstep rfl rfl (.f _) (fun hg => OpOk.gtr (evg rfl hg) rfl) ?_
  refine LF.step (OpOk.pickOr rfl rfl) ?_
  refine LF.nil ?_
  refine PF.next ?_
  refine CF.if rfl (fun hc1 => ?_) (fun hc1 => ?_)
  · omega
  · refine CF.skip ?_
    refine PF.next ?_
    refine CF.seq ?_
    refine CF.region ?_
    refine LF.step (OpOk.move rfl) ?_
    refine LF.step (OpOk.move rfl) ?_
    refine LF.call (OpCall.fn Try.ent14 rfl rfl) (table_ct n (by omega) hq) ?_
    rintro vt Ht ⟨hmt, hkt⟩
    refine LF.step (OpOk.assign rfl) ?_
    refine LF.nil ?_
    refine PF.next ?_
    refine CF.seq ?_
    refine CF.region ?_
    refine LF.step (OpOk.move rfl) ?_
    refine LF.chg (OpCh.make Try.underlying22 Try.info3 rfl rfl rfl (by omega) (by omega)) ?_
    rintro _ Ho ⟨rfl, hszo, holdo, hrwo⟩
    refine LF.step (OpOk.assign rfl) ?_
    refine LF.nil ?_
    refine PF.next ?_
    refine CF.seq ?_
    refine CF.seq ?_
    refine CF.region ?_
    refine LF.step (OpOk.assign rfl) ?_
    refine LF.nil ?_
    refine PF.next ?_
    refine CF.block ?_
    refine CF.loop (ι := Nat) (fun i H1 => i ≤ n ∧ Rw H1 Ht.size 3 n (fun j => .int .i64 ((if j < i then j else 0 : Nat) : Int)) ∧ Kp Ht.size Ht H1) (fun i => [(0, .int .i64 n), (2, vm), (3, .int .i64 k), (9, vt), (10, .slice (some ⟨Ht.size, 0, none⟩) n n), (11, .int .i64 i)]) (fun i => n - i) 0 ⟨by omega, hrwo.congr (fun i hi => by simp), ⟨by omega, holdo⟩⟩ ⟨rfl, rfl, rfl, rfl, rfl, rfl, trivial⟩ ?_
    rintro i H1 ⟨hi, hou, hkp⟩
    have hous := hou.sl hou.lt (show n * 1 ≤ n by omega) (by omega) (Nat.le_refl n)
    refine CF.seq ?_
    refine CF.seq ?_
    refine CF.region ?_
    refine LF.step (OpOk.move rfl) ?_
    refine LF.step (OpOk.move rfl) ?_
    refine LF.step (OpOk.lss rfl rfl) ?_
    refine LF.nil ?_
    refine PF.next ?_
    refine CF.if rfl (fun hc2 => ?_) (fun hc2 => ?_)
    · refine CF.skip ?_
      refine PF.next ?_
      refine CF.seq ?_
      refine CF.block ?_
      refine CF.region ?_
      refine LF.step (OpOk.move rfl) ?_
      refine LF.step (OpOk.move rfl) ?_
      refine LF.step (OpOk.move rfl) ?_
      refine LF.step (OpOk.idx Try.underlying22 Try.sz3 hous rfl rfl rfl (by omega)) ?_
      refine LF.chg0 (OpCh.store (b := Ht.size) (i := 0 + i) Try.sz3 rfl rfl rfl hou (by omega)) ?_
      rintro _ _ rfl
      refine LF.nil ?_
      refine PF.blockNormal ?_
      refine PF.next ?_
      refine CF.region ?_
      refine LF.step (OpOk.move rfl) ?_
      refine LF.step (OpOk.add rfl rfl (by omega)) ?_
      refine LF.step (OpOk.assign rfl) ?_
      refine LF.nil ?_
      exact PF.again (i + 1) ⟨by omega, hou.set.congr (fun j hj => fillN i j), hkp.setc (Nat.le_refl _)⟩ ⟨rfl, rfl, rfl, rfl, rfl, rfl, trivial⟩ (by omega)
    · refine CF.exit ?_
      refine PF.thenExit ?_
      refine PF.thenExit ?_
      refine PF.blockHere ?_
      refine PF.next ?_
      refine CF.seq ?_
      refine CF.region ?_
      refine LF.step (OpOk.assign rfl) ?_
      refine LF.nil ?_
      refine PF.next ?_
      refine CF.seq ?_
      refine CF.block ?_
      obtain rfl : n = i := by omega
      refine CF.loop (ι := (Nat → Nat) × Value × Bool × Nat) (fun p H1 => Ok (adjS n es) n p.1 ∧ Nt H1 H1.size p.2.1 n p.1 ∧ Kp Ht.size Ht H1 ∧ repsS p.1 n < p.2.2.2 + (bif p.2.2.1 then 0 else n + 1) ∧ (bif p.2.2.1 then runS (adjS n es) n k ms p.2.2.2 p.1 = mergedF (adjS n es) n k ms else p.1 = mergedF (adjS n es) n k ms)) (fun p => [(0, .int .i64 n), (2, vm), (3, .int .i64 k), (9, vt), (10, p.2.1), (12, .bool p.2.2.1)]) (fun p => (bif p.2.2.1 then p.2.2.2 + 1 else 0)) ((fun i => i), .slice (some ⟨Ht.size, 0, none⟩) n n, true, n + 1) ⟨ok_id (fun a => adjT_irr _ _ _ a), (hous.congr (fun j hj => by simp [show j < n by omega])), hkp, (Nat.lt_of_le_of_lt (cntS_le _ n) (by simp)), rfl⟩ ⟨rfl, rfl, rfl, rfl, rfl, rfl, trivial⟩ ?_
      rintro ⟨l, vo, ag, fu⟩ H1 ⟨hok, hnt, hkp, hre, hfi⟩
      simp only at hok hnt hre hfi
      dsimp only
      refine CF.seq ?_
      refine CF.seq ?_
      refine CF.region ?_
      refine LF.step (OpOk.move rfl) ?_
      refine LF.nil ?_
      refine PF.next ?_
      refine CF.if rfl (fun hc3 => ?_) (fun hc3 => ?_)
      · refine CF.skip ?_
        refine PF.next ?_
        refine CF.block ?_
        refine CF.seq ?_
        refine CF.region ?_
        refine LF.step (OpOk.assign rfl) ?_
        refine LF.nil ?_
        refine PF.next ?_
        refine CF.seq ?_
        refine CF.region ?_
        refine LF.step (OpOk.assign rfl) ?_
        refine LF.nil ?_
        refine PF.next ?_
        refine CF.block ?_
        refine CF.loop (ι := (Nat → Nat) × Value × Bool × Nat) (fun p H3 => p.2.2.2 ≤ ms.length ∧ (p.1, p.2.2.1) = passT (adjS n es) n k ms l p.2.2.2 ∧ Nt H3 H3.size p.2.1 n p.1 ∧ Kp Ht.size Ht H3) (fun p => [(0, .int .i64 n), (2, vm), (3, .int .i64 k), (9, vt), (10, p.2.1), (12, .bool p.2.2.1), (13, .int .i64 p.2.2.2)]) (fun p => ms.length - p.2.2.2) (l, vo, false, 0) ⟨by simp only; omega, rfl, hnt, hkp⟩ ⟨rfl, rfl, rfl, rfl, rfl, rfl, rfl, trivial⟩ ?_
        clear hnt hkp
        rintro ⟨l3, vo3, ag3, j⟩ H3 ⟨hj, hpa, hnt, hkp⟩
        simp only at hj hpa hnt
        dsimp only
        have hm3 : Ps H3 Ht.size vm ms := Sl.kp (Sl.kp (Sl.up hm) hkt |>.up) hkp
        have htm : Mt H3 Ht.size vt n (adjS n es) := Mt.kp hmt hkp
        refine CF.seq ?_
        refine CF.seq ?_
        refine CF.region ?_
        refine LF.step (OpOk.move rfl) ?_
        refine LF.step (OpOk.move rfl) ?_
        refine LF.step (OpOk.lenSl Try.underlying23 hm3 rfl) ?_
        refine LF.step (OpOk.lss rfl rfl) ?_
        refine LF.nil ?_
        refine PF.next ?_
        refine CF.if rfl (fun hc4 => ?_) (fun hc4 => ?_)
        · refine CF.skip ?_
          refine PF.next ?_
          refine CF.seq ?_
          refine CF.block ?_
          refine CF.seq ?_
          refine CF.region ?_
          refine LF.step (OpOk.move rfl) ?_
          refine LF.step (OpOk.move rfl) ?_
          refine LF.step (OpOk.idxs (i := j) Try.underlying23 Try.sz44 hm3 rfl rfl rfl (by omega)) ?_
          refine LF.step (OpOk.indexArr (i := 0) Try.underlying44 Try.sz3 rfl rfl rfl (by omega)) ?_
          refine LF.step (OpOk.load Try.one3 rfl rfl (hm3.fst (by omega))) ?_
          refine LF.step (OpOk.assign rfl) ?_
          refine LF.nil ?_
          refine PF.next ?_
          refine CF.seq ?_
          refine CF.region ?_
          refine LF.step (OpOk.move rfl) ?_
          refine LF.step (OpOk.move rfl) ?_
          refine LF.step (OpOk.idxs (i := j) Try.underlying23 Try.sz44 hm3 rfl rfl rfl (by omega)) ?_
          refine LF.step (OpOk.indexArr (i := 1) Try.underlying44 Try.sz3 rfl rfl rfl (by omega)) ?_
          refine LF.step (OpOk.load Try.one3 rfl rfl (hm3.snd (by omega))) ?_
          refine LF.step (OpOk.assign rfl) ?_
          refine LF.nil ?_
          refine PF.next ?_
          refine CF.seq ?_
          refine CF.seq ?_
          refine CF.region ?_
          refine LF.step (OpOk.move rfl) ?_
          refine LF.step (OpOk.lss rfl rfl) ?_
          refine LF.step (OpOk.move rfl) ?_
          refine LF.gstep rfl rfl (.f _) (fun hg => OpOk.move rfl) ?_
          refine LF.gstep rfl rfl (.f _) (fun hg => OpOk.move rfl) ?_
          refine LF.gstep rfl rfl (.f _) (fun hg => OpOk.geq (evg rfl hg) (evg rfl hg)) ?_
          refine LF.step (OpOk.pickOr rfl rfl) ?_
          refine LF.step (OpOk.move rfl) ?_
          refine LF.gstep rfl rfl (.f _) (fun hg => OpOk.move rfl) ?_
          refine LF.gstep rfl rfl (.f _) (fun hg => OpOk.lss (evg rfl hg) rfl) ?_
          refine LF.step (OpOk.pickOr rfl rfl) ?_
          refine LF.step (OpOk.move rfl) ?_
          refine LF.gstep rfl rfl (.f _) (fun hg => OpOk.move rfl) ?_
          refine LF.gstep rfl rfl (.f _) (fun hg => OpOk.move rfl) ?_
          refine LF.gstep rfl rfl (.f _) (fun hg => OpOk.geq (evg rfl hg) (evg rfl hg)) ?_
          refine LF.step (OpOk.pickOr rfl rfl) ?_
          refine LF.nil ?_
          refine PF.next ?_
          refine CF.if rfl (fun hc5 => ?_) (fun hc5 => ?_)
          · refine CF.exit ?_
            refine PF.thenExit ?_
            refine PF.blockHere ?_
            refine PF.next ?_
            refine CF.region ?_
            refine LF.step (OpOk.move rfl) ?_
            refine LF.step (OpOk.add rfl rfl (by omega)) ?_
            refine LF.step (OpOk.assign rfl) ?_
            refine LF.nil ?_
            have hst : stepS (adjS n es) n k (l3, ag3) (ms.getD j (0, 0)) = (l3, ag3) := if_neg (by omega)
            exact PF.again (l3, vo3, ag3, j + 1) ⟨by simp only; omega, (by simp only; rw [passT_snoc _ _ _ _ _ _ (by omega), ← hpa, hst]), hnt, hkp⟩ ⟨rfl, rfl, rfl, rfl, rfl, rfl, rfl, trivial⟩ (by simp only; omega)
          · refine CF.skip ?_
            refine PF.next ?_
            refine CF.seq ?_
            refine CF.tail 11 Try.mixed (by kernel_rfl) ?_
            refine LS.step (OpOk.move rfl) ?_
            refine LS.step (OpOk.move rfl) ?_
            refine LS.step (OpOk.move rfl) ?_
            refine LS.step (OpOk.move rfl) ?_
            refine LS.step (OpOk.idx (i := (ms.getD j (0, 0)).1.toNat) Try.underlying22 Try.sz3 hnt rfl rfl (by omega) (by omega)) ?_
            refine LS.step (OpOk.load Try.one3 rfl rfl (hnt.at (by omega))) ?_
            refine LS.step (OpOk.move rfl) ?_
            refine LS.step (OpOk.move rfl) ?_
            refine LS.step (OpOk.idx (i := (ms.getD j (0, 0)).2.toNat) Try.underlying22 Try.sz3 hnt rfl rfl (by omega) (by omega)) ?_
            refine LS.step (OpOk.load Try.one3 rfl rfl (hnt.at (by omega))) ?_
            refine LS.step (OpOk.move rfl) ?_
            refine LS.tail ?_
            refine LF.call (OpCall.fn Try.ent26 rfl rfl) (joins_ct (by omega) htm (hnt) _ _ k) ?_
            rintro _ H9 ⟨rfl, hk9⟩
            refine LF.step (OpOk.assign rfl) ?_
            refine LF.nil ?_
            refine PF.next ?_
            refine CF.seq ?_
            refine CF.region ?_
            refine LF.step (OpOk.move rfl) ?_
            refine LF.nil ?_
            refine PF.next ?_
            refine CF.if rfl (fun hc6 => ?_) (fun hc6 => ?_)
            · refine CF.seq ?_
              refine CF.tail 9 Try.mixed (by kernel_rfl) ?_
              refine LS.step (OpOk.move rfl) ?_
              refine LS.step (OpOk.move rfl) ?_
              refine LS.step (OpOk.move rfl) ?_
              refine LS.step (OpOk.idx (i := (ms.getD j (0, 0)).1.toNat) Try.underlying22 Try.sz3 (Sl.kp (Sl.up hnt) hk9) rfl rfl (by omega) (by omega)) ?_
              refine LS.step (OpOk.load Try.one3 rfl rfl ((Sl.kp (Sl.up hnt) hk9).at (by omega))) ?_
              refine LS.step (OpOk.move rfl) ?_
              refine LS.step (OpOk.move rfl) ?_
              refine LS.step (OpOk.idx (i := (ms.getD j (0, 0)).2.toNat) Try.underlying22 Try.sz3 (Sl.kp (Sl.up hnt) hk9) rfl rfl (by omega) (by omega)) ?_
              refine LS.step (OpOk.load Try.one3 rfl rfl ((Sl.kp (Sl.up hnt) hk9).at (by omega))) ?_
              refine LS.tail ?_
              refine LF.call (OpCall.fn Try.ent27 rfl rfl) (joined_ct (by omega) (Sl.kp (Sl.up hnt) hk9) _ _) ?_
              rintro v2 H8 ⟨hnt8, hk8⟩
              refine LF.step (OpOk.assign rfl) ?_
              refine LF.nil ?_
              refine PF.next ?_
              refine CF.region ?_
              refine LF.step (OpOk.assign rfl) ?_
              refine LF.nil ?_
              refine PF.blockNormal ?_
              refine PF.next ?_
              refine CF.region ?_
              refine LF.step (OpOk.move rfl) ?_
              refine LF.step (OpOk.add rfl rfl (by omega)) ?_
              refine LF.step (OpOk.assign rfl) ?_
              refine LF.nil ?_
              have hst : stepS (adjS n es) n k (l3, ag3) (ms.getD j (0, 0)) = (joinS l3 (l3 (ms.getD j (0, 0)).1.toNat) (l3 (ms.getD j (0, 0)).2.toNat), true) := if_pos ⟨by omega, hc6⟩
              exact PF.again (joinS l3 (l3 (ms.getD j (0, 0)).1.toNat) (l3 (ms.getD j (0, 0)).2.toNat), v2, true, j + 1) ⟨by simp only; omega, (by simp only; rw [passT_snoc _ _ _ _ _ _ (by omega), ← hpa, hst]), hnt8, (hkp.trans (hk9.mono hkp.1)).trans (hk8.mono (by have := hkp.1; have := hk9.1; omega))⟩ ⟨rfl, rfl, rfl, rfl, rfl, rfl, rfl, trivial⟩ (by simp only; omega)
            · refine CF.skip ?_
              refine PF.blockNormal ?_
              refine PF.next ?_
              refine CF.region ?_
              refine LF.step (OpOk.move rfl) ?_
              refine LF.step (OpOk.add rfl rfl (by omega)) ?_
              refine LF.step (OpOk.assign rfl) ?_
              refine LF.nil ?_
              have hst : stepS (adjS n es) n k (l3, ag3) (ms.getD j (0, 0)) = (l3, ag3) := if_neg (fun h9 => by rw [hc6] at h9; exact absurd h9.2 (by simp))
              exact PF.again (l3, vo3, ag3, j + 1) ⟨by simp only; omega, (by simp only; rw [passT_snoc _ _ _ _ _ _ (by omega), ← hpa, hst]), Sl.kpu hnt hk9, hkp.trans (hk9.mono hkp.1)⟩ ⟨rfl, rfl, rfl, rfl, rfl, rfl, rfl, trivial⟩ (by simp only; omega)
        · refine CF.exit ?_
          refine PF.thenExit ?_
          refine PF.thenExit ?_
          refine PF.blockHere ?_
          refine PF.blockNormal ?_
          obtain rfl : j = ms.length := by omega
          subst hc3
          simp only [cond_true] at hre hfi
          obtain ⟨hok3, hle3, hlt3⟩ := passT_ok (k := k) (ms := ms) hok hsym ms.length (Nat.le_refl _)
          rw [← hpa] at hok3 hle3 hlt3
          simp only at hok3 hle3 hlt3
          obtain ⟨f2, rfl⟩ : ∃ f2, fu = f2 + 1 := ⟨fu - 1, by omega⟩
          have hps : passS (adjS n es) n k ms l = (l3, ag3) := hpa.symm
          simp only [runS, hps] at hfi
          refine PF.again (l3, vo3, ag3, f2) ⟨hok3, hnt, hkp, ?_, ?_⟩ ⟨rfl, rfl, rfl, rfl, rfl, rfl, trivial⟩ ?_
          · cases ag3 with
            | true => have := hlt3 rfl; simp only [cond_true]; omega
            | false => have := cntS_le (fun i => decide (l3 i = i)) n; simp only [cond_false, repsS]; omega
          · cases ag3 <;> exact hfi
          · cases ag3 <;> simp only [cond_true, cond_false] <;> omega
      · refine CF.exit ?_
        refine PF.thenExit ?_
        refine PF.thenExit ?_
        refine PF.blockHere ?_
        refine PF.next ?_
        refine CF.seq ?_
        refine CF.region ?_
        refine LF.step (OpOk.move rfl) ?_
        refine LF.step (OpOk.assign rfl) ?_
        refine LF.nil ?_
        refine PF.next ?_
        refine CF.ret ?_
        subst hc3
        simp only [cond_false] at hfi
        exact PF.ret1 rfl rfl ⟨nt_ns (by rw [← hfi]; exact hnt), hkt.trans (hkp.mono hkt.1)⟩

end Go.Proofs.Ytkhphpobccnodaa
