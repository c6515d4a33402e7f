/- Walk of the law of chapter 14 that merging makes nothing harder. Conditions: each contract names its own. -/
import Derived.Test.YtkhphpobccnodaaWB
import Derived.Test.YtkhphpobccnodaaWA
import Derived.Test.YtkhphpobccnodaaFn
namespace Go.Proofs.Ytkhphpobccnodaa
set_option linter.unusedVariables false
set_option linter.unusedSimpArgs false
open Go.JE

theorem easy_fill (l : Nat → Nat) (i j : Nat) : (if j = 0 + i then Value.bool (decide (((l i : Nat) : Int) = ((i : Nat) : Int))) else .bool (decide (j < i) && decide (l j = j))) = .bool (decide (j < i + 1) && decide (l j = j)) := by
  by_cases e : j = i
  · subst e
    rw [if_pos (by omega), decide_eq_true (show j < j + 1 by omega), Bool.true_and]
    congr 1
    rw [decide_eq_decide]; omega
  · rw [if_neg (by omega)]
    congr 2
    rw [decide_eq_decide]; omega

theorem easy_ct {H : Heap} {B Bl : Nat} {vq vl : Value} {es : List (Int × Int)} {l : Nat → Nat} (n : Nat) (hn : n ≤ 8192) (k : Int) (hq : Ps H B vq es) (hl : Nt H Bl vl n l) :
    Ct Try.prog 17 #[.int .i64 n, vq, vl, .int .i64 k] H (fun v H' => v = .bool (easyS (adjS n es) n l k) ∧ Kp H.size H H') := by
  refine Ct.enter (args := [.int .i64 n, vq, vl, .int .i64 k]) Try.func17 rfl rfl rfl (fun w0 hw0 => ?_)
  refine CF.seq ?_
  refine CF.region ?_
  refine LF.step (OpOk.assign rfl) ?_
  refine LF.nil ?_
  refine PF.next ?_
  refine CF.seq ?_
  refine CF.region ?_
  refine LF.step (OpOk.move rfl) ?_
  refine LF.step (OpOk.move rfl) ?_
  refine LF.call (OpCall.fn Try.ent14 rfl rfl) (table_ct n (by omega) hq) ?_
  rintro vt Ht ⟨hmt, hkt⟩
  refine LF.step (OpOk.assign rfl) ?_
  refine LF.nil ?_
  refine PF.next ?_
  refine CF.seq ?_
  refine CF.region ?_
  refine LF.step (OpOk.move rfl) ?_
  refine LF.chg (OpCh.make Try.underlying36 Try.info4 rfl rfl rfl (by omega) (by omega)) ?_
  rintro _ H2 ⟨rfl, hsz2, hold2, hrw2⟩
  have hk2 : Kp Ht.size Ht H2 := ⟨by omega, hold2⟩
  refine LF.step (OpOk.assign rfl) ?_
  refine LF.nil ?_
  refine PF.next ?_
  refine CF.seq ?_
  refine CF.seq ?_
  refine CF.region ?_
  refine LF.step (OpOk.assign rfl) ?_
  refine LF.nil ?_
  refine PF.next ?_
  refine CF.block ?_
  refine CF.loop (ι := Nat) (fun i H1 => i ≤ n ∧ Rw H1 Ht.size 4 n (fun j => .bool (decide (j < i) && decide (l j = j))) ∧ Kp Ht.size Ht H1) (fun i => [(0, .int .i64 n), (2, vl), (3, .int .i64 k), (9, vt), (10, .slice (some ⟨Ht.size, 0, none⟩) n n), (11, .int .i64 i)]) (fun i => n - i) 0 ⟨by omega, hrw2.congr (fun i hi => by simp), hk2⟩ ⟨rfl, rfl, rfl, rfl, rfl, rfl, trivial⟩ ?_
  rintro i H1 ⟨hi, hth, hkp⟩
  have hths := hth.sl hth.lt (show n * 1 ≤ n by omega) (by omega) (Nat.le_refl n)
  have hl1 : Nt H1 Ht.size vl n l := Sl.kp (Sl.kp (Sl.up hl) hkt |>.up) hkp
  refine CF.seq ?_
  refine CF.seq ?_
  refine CF.region ?_
  refine LF.step (OpOk.move rfl) ?_
  refine LF.step (OpOk.move rfl) ?_
  refine LF.step (OpOk.lss rfl rfl) ?_
  refine LF.nil ?_
  refine PF.next ?_
  refine CF.if rfl (fun hc1 => ?_) (fun hc1 => ?_)
  · refine CF.skip ?_
    refine PF.next ?_
    refine CF.seq ?_
    refine CF.block ?_
    refine CF.region ?_
    refine LF.step (OpOk.move rfl) ?_
    refine LF.step (OpOk.move rfl) ?_
    refine LF.step (OpOk.move rfl) ?_
    refine LF.step (OpOk.move rfl) ?_
    refine LF.step (OpOk.idx Try.underlying22 Try.sz3 hl1 rfl rfl rfl (by omega)) ?_
    refine LF.step (OpOk.load Try.one3 rfl rfl (hl1.at (by omega))) ?_
    refine LF.step (OpOk.move rfl) ?_
    refine LF.step (OpOk.eql rfl rfl) ?_
    refine LF.step (OpOk.idx Try.underlying36 Try.sz4 hths rfl rfl rfl (by omega)) ?_
    refine LF.chg0 (OpCh.store (b := Ht.size) (i := 0 + i) Try.sz4 rfl rfl rfl hth (by omega)) ?_
    rintro _ _ rfl
    refine LF.nil ?_
    refine PF.blockNormal ?_
    refine PF.next ?_
    refine CF.region ?_
    refine LF.step (OpOk.move rfl) ?_
    refine LF.step (OpOk.add rfl rfl (by omega)) ?_
    refine LF.step (OpOk.assign rfl) ?_
    refine LF.nil ?_
    exact PF.again (i + 1) ⟨by omega, hth.set.congr (fun j hj => easy_fill l i j), hkp.setc (Nat.le_refl _)⟩ ⟨rfl, rfl, rfl, rfl, rfl, rfl, trivial⟩ (by omega)
  · refine CF.exit ?_
    refine PF.thenExit ?_
    refine PF.thenExit ?_
    refine PF.blockHere ?_
    refine PF.next ?_
    refine CF.seq ?_
    refine CF.seq ?_
    refine CF.region ?_
    refine LF.step (OpOk.assign rfl) ?_
    refine LF.nil ?_
    refine PF.next ?_
    refine CF.block ?_
    obtain rfl : n = i := by omega
    refine CF.loop (ι := Nat) (fun r H1 => r ≤ n ∧ Rw H1 Ht.size 4 n (fun j => .bool ((roundT (nearS (adjS n es) l n) n k (fun i => decide (l i = i)) r) j)) ∧ Kp Ht.size Ht H1) (fun r => [(0, .int .i64 n), (2, vl), (3, .int .i64 k), (9, vt), (10, .slice (some ⟨Ht.size, 0, none⟩) n n), (12, .int .i64 r)]) (fun r => n - r) 0 ⟨by omega, hth.congr (fun j hj => by simp [roundT, hj]), hkp⟩ ⟨rfl, rfl, rfl, rfl, rfl, rfl, trivial⟩ ?_
    clear hths hl1 hth hkp
    rintro r H1 ⟨hr, hth, hkp⟩
    refine CF.seq ?_
    refine CF.seq ?_
    refine CF.region ?_
    refine LF.step (OpOk.move rfl) ?_
    refine LF.step (OpOk.move rfl) ?_
    refine LF.step (OpOk.lss rfl rfl) ?_
    refine LF.nil ?_
    refine PF.next ?_
    refine CF.if rfl (fun hc2 => ?_) (fun hc2 => ?_)
    · refine CF.skip ?_
      refine PF.next ?_
      refine CF.seq ?_
      refine CF.block ?_
      refine CF.seq ?_
      refine CF.region ?_
      refine LF.step (OpOk.assign rfl) ?_
      refine LF.nil ?_
      refine PF.next ?_
      refine CF.block ?_
      refine CF.loop (ι := Nat) (fun a H1 => a ≤ n ∧ Rw H1 Ht.size 4 n (fun j => .bool ((sweepT (nearS (adjS n es) l n) n k (roundT (nearS (adjS n es) l n) n k (fun i => decide (l i = i)) r) a) j)) ∧ Kp Ht.size Ht H1) (fun a => [(0, .int .i64 n), (2, vl), (3, .int .i64 k), (9, vt), (10, .slice (some ⟨Ht.size, 0, none⟩) n n), (12, .int .i64 r), (13, .int .i64 a)]) (fun a => n - a) 0 ⟨by omega, hth, hkp⟩ ⟨rfl, rfl, rfl, rfl, rfl, rfl, rfl, trivial⟩ ?_
      clear hth hkp
      rintro a H1 ⟨ha, hth, hkp⟩
      have hths := hth.sl hth.lt (show n * 1 ≤ n by omega) (by omega) (Nat.le_refl n)
      have hl3 : Nt H1 Ht.size vl n l := Sl.kp (Sl.kp (Sl.up hl) hkt |>.up) hkp
      have htm : Mt H1 Ht.size vt n (adjS n es) := Mt.kp hmt hkp
      obtain ⟨th, hthd⟩ : ∃ th, th = (sweepT (nearS (adjS n es) l n) n k (roundT (nearS (adjS n es) l n) n k (fun i => decide (l i = i)) r) a) := ⟨_, rfl⟩
      rw [← hthd] at hth hths
      refine CF.seq ?_
      refine CF.seq ?_
      refine CF.region ?_
      refine LF.step (OpOk.move rfl) ?_
      refine LF.step (OpOk.move rfl) ?_
      refine LF.step (OpOk.lss rfl rfl) ?_
      refine LF.nil ?_
      refine PF.next ?_
      refine CF.if rfl (fun hc3 => ?_) (fun hc3 => ?_)
      · refine CF.skip ?_
        refine PF.next ?_
        refine CF.seq ?_
        refine CF.block ?_
        refine CF.seq ?_
        refine CF.region ?_
        refine LF.step (OpOk.assign rfl) ?_
        refine LF.nil ?_
        refine PF.next ?_
        refine CF.seq ?_
        refine CF.seq ?_
        refine CF.region ?_
        refine LF.step (OpOk.assign rfl) ?_
        refine LF.nil ?_
        refine PF.next ?_
        refine CF.block ?_
        refine CF.loop (ι := Nat) (fun b H3 => b ≤ n ∧ H1 = H3) (fun b => [(0, .int .i64 n), (2, vl), (3, .int .i64 k), (9, vt), (10, .slice (some ⟨Ht.size, 0, none⟩) n n), (12, .int .i64 r), (13, .int .i64 a), (14, .int .i64 (cntS (fun b => ((th a && th b) && !decide (a = b)) && (nearS (adjS n es) l n) a b) b : Nat)), (15, .int .i64 b)]) (fun b => n - b) 0 ⟨by omega, rfl⟩ ⟨rfl, rfl, rfl, rfl, rfl, rfl, rfl, rfl, rfl, trivial⟩ ?_
        rintro b H3 ⟨hb, rfl⟩
        have hcl := cntS_le (fun b => ((th a && th b) && !decide (a = b)) && (nearS (adjS n es) l n) a b) b
        refine CF.seq ?_
        refine CF.seq ?_
        refine CF.region ?_
        refine LF.step (OpOk.move rfl) ?_
        refine LF.step (OpOk.move rfl) ?_
        refine LF.step (OpOk.lss rfl rfl) ?_
        refine LF.nil ?_
        refine PF.next ?_
        refine CF.if rfl (fun hc4 => ?_) (fun hc4 => ?_)
        · refine CF.skip ?_
          refine PF.next ?_
          refine CF.seq ?_
          refine CF.block ?_
          refine CF.seq ?_
          refine CF.region ?_
          refine LF.step (OpOk.move rfl) ?_
          refine LF.step (OpOk.move rfl) ?_
          refine LF.step (OpOk.idx Try.underlying36 Try.sz4 hths rfl rfl rfl (by omega)) ?_
          refine LF.step (OpOk.load Try.one4 rfl rfl (hths.at (by omega))) ?_
          refine LF.step (OpOk.move rfl) ?_
          refine LF.gstep rfl rfl (.t _) (fun hg => OpOk.move rfl) ?_
          refine LF.gstep rfl rfl (.t _) (fun hg => OpOk.move rfl) ?_
          refine LF.gstep rfl rfl (.t _) (fun hg => OpOk.idx Try.underlying36 Try.sz4 hths (evg rfl hg) (evg rfl hg) rfl (by omega)) ?_
          refine LF.gstep rfl rfl (.t _) (fun hg => OpOk.load Try.one4 (evg rfl hg) rfl (hths.at (by omega))) ?_
          refine LF.step (OpOk.pickAnd rfl rfl) ?_
          refine LF.step (OpOk.move rfl) ?_
          refine LF.gstep rfl rfl (.t _) (fun hg => OpOk.move rfl) ?_
          refine LF.gstep rfl rfl (.t _) (fun hg => OpOk.move rfl) ?_
          refine LF.gstep rfl rfl (.t _) (fun hg => OpOk.neq (evg rfl hg) (evg rfl hg)) ?_
          refine LF.step (OpOk.pickAnd rfl rfl) ?_
          refine LF.step (OpOk.move rfl) ?_
          refine LF.gstep rfl rfl (.t _) (fun hg => OpOk.move rfl) ?_
          refine LF.gstep rfl rfl (.t _) (fun hg => OpOk.move rfl) ?_
          refine LF.gstep rfl rfl (.t _) (fun hg => OpOk.move rfl) ?_
          refine LF.gstep rfl rfl (.t _) (fun hg => OpOk.move rfl) ?_
          refine LF.gcall rfl rfl (.t _) (fun hg => OpCall.fn Try.ent28 rfl (evl4 (evg rfl hg) (evg rfl hg) (evg rfl hg) (evg rfl hg))) (fun _ => near_ct htm hl3 a b) (fun _ _ h => h) ?_
          refine LF.step (OpOk.pickAnd rfl rfl) ?_
          refine LF.step (OpOk.assign rfl) ?_
          refine LF.nil ?_
          refine PF.next ?_
          refine CF.seq ?_
          refine CF.region ?_
          refine LF.step (OpOk.move rfl) ?_
          refine LF.nil ?_
          refine PF.next ?_
          refine CF.if rfl (fun hc5 => ?_) (fun hc5 => ?_)
          · refine CF.region ?_
            refine LF.step (OpOk.move rfl) ?_
            refine LF.step (OpOk.add rfl rfl (by omega)) ?_
            refine LF.step (OpOk.assign rfl) ?_
            refine LF.nil ?_
            refine PF.blockNormal ?_
            refine PF.next ?_
            refine CF.region ?_
            refine LF.step (OpOk.move rfl) ?_
            refine LF.step (OpOk.add rfl rfl (by omega)) ?_
            refine LF.step (OpOk.assign rfl) ?_
            refine LF.nil ?_
            have hb9 : (((th a && th b) && !decide (a = b)) && (nearS (adjS n es) l n) a b) = true := by rw [hc5.1.1.1, hc5.1.1.2, decide_eq_false (show ¬ a = b by omega), hc5.2]; rfl
            exact PF.again (b + 1) ⟨by omega, rfl⟩ ⟨rfl, rfl, rfl, rfl, rfl, rfl, rfl, eqI (cntS_yes hb9).symm, rfl, trivial⟩ (by omega)
          · refine CF.skip ?_
            refine PF.blockNormal ?_
            refine PF.next ?_
            refine CF.region ?_
            refine LF.step (OpOk.move rfl) ?_
            refine LF.step (OpOk.add rfl rfl (by omega)) ?_
            refine LF.step (OpOk.assign rfl) ?_
            refine LF.nil ?_
            have hb9 : (((th a && th b) && !decide (a = b)) && (nearS (adjS n es) l n) a b) = false := by (rcases hc5 with ((h9 | h9) | h9) | h9; (· rw [h9]; rfl); (· rw [h9]; simp); (· rw [decide_eq_true (show a = b by omega)]; simp); rw [h9]; simp)
            exact PF.again (b + 1) ⟨by omega, rfl⟩ ⟨rfl, rfl, rfl, rfl, rfl, rfl, rfl, eqI (cntS_no hb9).symm, rfl, trivial⟩ (by omega)
        · refine CF.exit ?_
          refine PF.thenExit ?_
          refine PF.thenExit ?_
          refine PF.blockHere ?_
          refine PF.next ?_
          refine CF.seq ?_
          refine CF.region ?_
          refine LF.step (OpOk.move rfl) ?_
          refine LF.step (OpOk.move rfl) ?_
          refine LF.step (OpOk.idx Try.underlying36 Try.sz4 hths rfl rfl rfl (by omega)) ?_
          refine LF.step (OpOk.load Try.one4 rfl rfl (hths.at (by omega))) ?_
          refine LF.step (OpOk.move rfl) ?_
          refine LF.gstep rfl rfl (.t _) (fun hg => OpOk.move rfl) ?_
          refine LF.gstep rfl rfl (.t _) (fun hg => OpOk.move rfl) ?_
          refine LF.gstep rfl rfl (.t _) (fun hg => OpOk.lss (evg rfl hg) (evg rfl hg)) ?_
          refine LF.step (OpOk.pickAnd rfl rfl) ?_
          refine LF.nil ?_
          refine PF.next ?_
          refine CF.if rfl (fun hc6 => ?_) (fun hc6 => ?_)
          · refine CF.region ?_
            refine LF.step (OpOk.move rfl) ?_
            refine LF.step (OpOk.move rfl) ?_
            refine LF.step (OpOk.idx Try.underlying36 Try.sz4 hths rfl rfl rfl (by omega)) ?_
            refine LF.chg0 (OpCh.store (b := Ht.size) (i := 0 + a) Try.sz4 rfl rfl rfl hth (by omega)) ?_
            rintro _ _ rfl
            refine LF.nil ?_
            refine PF.blockNormal ?_
            refine PF.next ?_
            refine CF.region ?_
            refine LF.step (OpOk.move rfl) ?_
            refine LF.step (OpOk.add rfl rfl (by omega)) ?_
            refine LF.step (OpOk.assign rfl) ?_
            refine LF.nil ?_
            obtain rfl : n = b := by omega
            have hlow : lowS (nearS (adjS n es) l n) n k th a = true := decide_eq_true hc6.2
            have hsw : sweepT (nearS (adjS n es) l n) n k (roundT (nearS (adjS n es) l n) n k (fun i => decide (l i = i)) r) (a + 1) = fun x => if x = a then false else th x := by rw [sweepT, ← hthd, if_pos ⟨hc6.1, hlow⟩]
            exact PF.again (a + 1) ⟨by omega, hth.set.congr (fun j hj => by rw [hsw]; by_cases e1 : j = a <;> simp [e1]), hkp.setc (Nat.le_refl _)⟩ ⟨rfl, rfl, rfl, rfl, rfl, rfl, rfl, trivial⟩ (by omega)
          · refine CF.skip ?_
            refine PF.blockNormal ?_
            refine PF.next ?_
            refine CF.region ?_
            refine LF.step (OpOk.move rfl) ?_
            refine LF.step (OpOk.add rfl rfl (by omega)) ?_
            refine LF.step (OpOk.assign rfl) ?_
            refine LF.nil ?_
            obtain rfl : n = b := by omega
            have hlow : ¬ (th a = true ∧ lowS (nearS (adjS n es) l n) n k th a = true) := by rintro ⟨h8, h9⟩; (have h7 := of_decide_eq_true h9); (rcases hc6 with h6 | h6; (· rw [h6] at h8; cases h8); exact h6 h7)
            exact PF.again (a + 1) ⟨by omega, hth.congr (fun j hj => by rw [sweepT, ← hthd, if_neg hlow]), hkp⟩ ⟨rfl, rfl, rfl, rfl, rfl, rfl, rfl, trivial⟩ (by omega)
      · refine CF.exit ?_
        refine PF.thenExit ?_
        refine PF.thenExit ?_
        refine PF.blockHere ?_
        refine PF.blockNormal ?_
        refine PF.next ?_
        refine CF.region ?_
        refine LF.step (OpOk.move rfl) ?_
        refine LF.step (OpOk.add rfl rfl (by omega)) ?_
        refine LF.step (OpOk.assign rfl) ?_
        refine LF.nil ?_
        obtain rfl : n = a := by omega
        rw [hthd] at hth
        exact PF.again (r + 1) ⟨by omega, hth, hkp⟩ ⟨rfl, rfl, rfl, rfl, rfl, rfl, trivial⟩ (by omega)
    · refine CF.exit ?_
      refine PF.thenExit ?_
      refine PF.thenExit ?_
      refine PF.blockHere ?_
      refine PF.next ?_
      refine CF.seq ?_
      refine CF.seq ?_
      refine CF.region ?_
      refine LF.step (OpOk.assign rfl) ?_
      refine LF.nil ?_
      refine PF.next ?_
      refine CF.block ?_
      obtain rfl : n = r := by omega
      have hths := hth.sl hth.lt (show n * 1 ≤ n by omega) (by omega) (Nat.le_refl n)
      refine CF.loop (ι := Nat) (fun i2 H6 => i2 ≤ n ∧ (∀ j, j < i2 → easyF (adjS n es) n l k j = false) ∧ H1 = H6) (fun i2 => [(0, .int .i64 n), (10, .slice (some ⟨Ht.size, 0, none⟩) n n), (17, .int .i64 i2)]) (fun i2 => n - i2) 0 ⟨by omega, by intro j hj; omega, rfl⟩ ⟨rfl, rfl, rfl, trivial⟩ ?_
      rintro i2 H6 ⟨hi2, hno, rfl⟩
      refine CF.seq ?_
      refine CF.seq ?_
      refine CF.region ?_
      refine LF.step (OpOk.move rfl) ?_
      refine LF.step (OpOk.move rfl) ?_
      refine LF.step (OpOk.lss rfl rfl) ?_
      refine LF.nil ?_
      refine PF.next ?_
      refine CF.if rfl (fun hc7 => ?_) (fun hc7 => ?_)
      · refine CF.skip ?_
        refine PF.next ?_
        refine CF.seq ?_
        refine CF.block ?_
        refine CF.seq ?_
        refine CF.region ?_
        refine LF.step (OpOk.move rfl) ?_
        refine LF.step (OpOk.move rfl) ?_
        refine LF.step (OpOk.idx Try.underlying36 Try.sz4 hths rfl rfl rfl (by omega)) ?_
        refine LF.step (OpOk.load Try.one4 rfl rfl (hths.at (by omega))) ?_
        refine LF.nil ?_
        refine PF.next ?_
        refine CF.if rfl (fun hc8 => ?_) (fun hc8 => ?_)
        · refine CF.seq ?_
          refine CF.region ?_
          refine LF.step (OpOk.assign rfl) ?_
          refine LF.nil ?_
          refine PF.next ?_
          refine CF.ret ?_
          refine PF.blockRet ?_
          refine PF.thenRet ?_
          refine PF.thenRet ?_
          refine PF.blockRet ?_
          refine PF.thenRet ?_
          have he : easyS (adjS n es) n l k = false := by unfold easyS; rw [Bool.not_eq_false', anyS_iff]; exact ⟨i2, by omega, hc8⟩
          exact PF.ret1 rfl rfl ⟨congrArg _ he.symm, hkt.trans (hkp.mono hkt.1)⟩
        · refine CF.skip ?_
          refine PF.blockNormal ?_
          refine PF.next ?_
          refine CF.region ?_
          refine LF.step (OpOk.move rfl) ?_
          refine LF.step (OpOk.add rfl rfl (by omega)) ?_
          refine LF.step (OpOk.assign rfl) ?_
          refine LF.nil ?_
          exact PF.again (i2 + 1) ⟨by omega, fun j hj => (by by_cases e1 : j = i2; (· subst e1; exact hc8); exact hno j (by omega)), rfl⟩ ⟨rfl, rfl, rfl, trivial⟩ (by omega)
      · refine CF.exit ?_
        refine PF.thenExit ?_
        refine PF.thenExit ?_
        refine PF.blockHere ?_
        refine PF.next ?_
        refine CF.seq ?_
        refine CF.region ?_
        refine LF.step (OpOk.assign rfl) ?_
        refine LF.nil ?_
        refine PF.next ?_
        refine CF.ret ?_
        obtain rfl : n = i2 := by omega
        have he : easyS (adjS n es) n l k = true := by unfold easyS; rw [Bool.not_eq_true', anyS_false]; exact hno
        exact PF.ret1 rfl rfl ⟨congrArg _ he.symm, hkt.trans (hkp.mono hkt.1)⟩

theorem nt_cl {H : Heap} {B n : Nat} {v : Value} {g : Nat → Nat} (h : Ns H B v ((List.range n).map fun i => ((g i : Nat) : Int))) : Nt H B v n g := ns_cl (g := fun i => ((g i : Nat) : Int)) h
theorem madeS_in (n : Nat) (hn : 1 ≤ n) (l : List Int) : ∀ p ∈ madeS n l, 0 ≤ p.1 ∧ p.1 < n ∧ 0 ≤ p.2 ∧ p.2 < n := madeT_in n hn l _
theorem madeS_len (n : Nat) (l : List Int) : (madeS n l).length ≤ 30 := by unfold madeS; rw [madeT_len]; omega
theorem range_snoc (a : Nat) : ((List.range (a + 1)).map fun i => Value.int .i64 ((i : Nat) : Int)) = ((List.range a).map fun i => Value.int .i64 ((i : Nat) : Int)) ++ [.int .i64 (a : Nat)] := by rw [List.range_succ, List.map_append]; rfl


theorem mergedSafe_ct {H : Heap} {B0 B1 : Nat} {s0 s1 : Value} {l0 l1 : List Int} (N k : Int) (hs0 : Ns H B0 s0 l0) (hs1 : Ns H B1 s1 l1) :
    Ct Try.prog 6 #[.int .i64 N, .agg #[s0, s1], .int .i64 k] H (fun v H' => v = .bool true ∧ Kp H.size H H') := by
  refine Ct.enter (args := [.int .i64 N, .agg #[s0, s1], .int .i64 k]) Try.func6 rfl rfl rfl (fun w0 hw0 => ?_)
  refine CF.seq ?_
  refine CF.region ?_
  refine LF.chg (OpCh.box rfl) ?_
  rintro _ _ ⟨rfl, rfl⟩
  refine LF.step (OpOk.assign rfl) ?_
  refine LF.nil ?_
  refine PF.next ?_
  refine CF.seq ?_
  refine CF.region ?_
  have kb : Kp H.size H (H.push (.cells (Value.agg #[s0, s1]).cells 38)) := (Kp.refl _ _).push (Nat.le_refl _) _
  have hbx := hn_new (H := H) (E := 38) [s0, s1]
  change ∀ j u, _ → hc (H.push (.cells (Value.agg #[s0, s1]).cells 38)) H.size (0 + j) = some u at hbx
  have hsb : (H.push (.cells (Value.agg #[s0, s1]).cells 38)).size = H.size + 1 := Array.size_push ..
  generalize H.push (.cells (Value.agg #[s0, s1]).cells 38) = Hb at kb hbx hsb ⊢
  refine LF.call (OpCall.fn Try.ent7 rfl rfl) (awake_ct) ?_
  rintro _ H1 ⟨rfl, k1⟩
  have kb1 := kb.trans (k1.mono kb.1)
  have hbx1 : ∀ j u, [s0, s1][j]? = some u → hc H1 H.size (0 + j) = some u := fun j u h => (hc_of (k1.2 _ (by omega))).trans (hbx j u h)
  refine LF.step (OpOk.assign rfl) ?_
  refine LF.nil ?_
  refine PF.next ?_
  refine CF.seq ?_
  refine CF.region ?_
  refine LF.step (OpOk.move rfl) ?_
  refine LF.call (OpCall.fn Try.ent8 rfl rfl) (rest_ct N 10 (by omega)) ?_
  rintro _ H9 ⟨rfl, h9⟩
  obtain rfl : H1 = H9 := h9.symm
  obtain ⟨n, hnn⟩ : ∃ n : Nat, 1 + N % ((10 : Nat) : Int) = n := ⟨(1 + N % 10).toNat, by omega⟩
  have hn1 : 1 ≤ n ∧ n ≤ 10 := by omega
  refine LF.step (OpOk.eqv (OpOk.add rfl rfl (by omega)) (congrArg _ hnn)) ?_
  refine LF.step (OpOk.assign rfl) ?_
  refine LF.nil ?_
  refine PF.next ?_
  refine CF.seq ?_
  refine CF.region ?_
  refine LF.step (OpOk.move rfl) ?_
  refine LF.step (OpOk.indexArr (i := 0) Try.underlying38 Try.sz22 rfl rfl rfl (by omega)) ?_
  refine LF.step (OpOk.load Try.one22 rfl rfl (show hc H1 H.size (0 + 0 * 1) = some s0 from hbx1 0 _ rfl)) ?_
  refine LF.call (OpCall.fn Try.ent9 rfl rfl) (made_ct n (by omega) (Sl.kp (Sl.up hs0) kb1)) ?_
  rintro ve He ⟨hpe, ke⟩
  have kbe := kb1.trans (ke.mono kb1.1)
  have hg1 := k1.1
  refine LF.step (OpOk.assign rfl) ?_
  refine LF.nil ?_
  refine PF.next ?_
  refine CF.seq ?_
  refine CF.region ?_
  refine LF.step (OpOk.move rfl) ?_
  refine LF.step (OpOk.indexArr (i := 1) Try.underlying38 Try.sz22 rfl rfl rfl (by omega)) ?_
  refine LF.step (OpOk.load Try.one22 rfl rfl (show hc He H.size (0 + 1 * 1) = some s1 from (hc_of (ke.2 _ (by omega))).trans (hbx1 1 _ rfl))) ?_
  refine LF.call (OpCall.fn Try.ent9 rfl rfl) (made_ct n (by omega) (Sl.kp (Sl.up hs1) kbe)) ?_
  rintro vm Hm ⟨hpm, km⟩
  have kbm := kbe.trans (km.mono kbe.1)
  refine LF.step (OpOk.assign rfl) ?_
  refine LF.nil ?_
  refine PF.next ?_
  refine CF.seq ?_
  refine CF.region ?_
  refine LF.step (OpOk.move rfl) ?_
  refine LF.call (OpCall.fn Try.ent8 rfl rfl) (rest_ct k 6 (by omega)) ?_
  rintro _ H9 ⟨rfl, h9⟩
  obtain rfl : Hm = H9 := h9.symm
  obtain ⟨c, hcc⟩ : ∃ c, 1 + k % ((6 : Nat) : Int) = c := ⟨_, rfl⟩
  have hcb : 1 ≤ c ∧ c ≤ 6 := by omega
  refine LF.step (OpOk.eqv (OpOk.add rfl rfl (by omega)) (congrArg _ hcc)) ?_
  refine LF.step (OpOk.assign rfl) ?_
  refine LF.nil ?_
  refine PF.next ?_
  refine CF.seq ?_
  refine CF.region ?_
  refine LF.step (OpOk.move rfl) ?_
  refine LF.step (OpOk.move rfl) ?_
  refine LF.call (OpCall.fn Try.ent14 rfl rfl) (table_ct n (by omega) (Sl.kp hpe km)) ?_
  rintro vt Ht ⟨hmt, kt⟩
  have kbt := kbm.trans (kt.mono kbm.1)
  have kmt := km.trans (kt.mono km.1)
  refine LF.step (OpOk.assign rfl) ?_
  refine LF.nil ?_
  refine PF.next ?_
  refine CF.seq ?_
  refine CF.region ?_
  refine LF.step (OpOk.move rfl) ?_
  refine LF.step (OpOk.move rfl) ?_
  refine LF.step (OpOk.move rfl) ?_
  refine LF.step (OpOk.move rfl) ?_
  refine LF.call (OpCall.fn Try.ent15 rfl rfl) (merged_ct n (by omega) c (Sl.kp hpe kmt) (Sl.kp hpm kt)) ?_
  rintro vl Hl ⟨hvl, kl⟩
  have kbl := kbt.trans (kl.mono kbt.1)
  have kel := kmt.trans (kl.mono kmt.1)
  have hsym : ∀ i j, (adjS n (madeS n l0)) i j = (adjS n (madeS n l0)) j i := fun i j => adjT_sym _ _ _ _ _
  obtain ⟨hok, hdg⟩ := merged_ok (t := (adjS n (madeS n l0))) (n := n) (k := c) hsym (by omega) (madeS n l1) (fun i => adjT_irr _ _ _ _)
  have hnl := nt_cl hvl
  clear hvl
  obtain ⟨lf, hlf⟩ : ∃ lf, lf = mergedF (adjS n (madeS n l0)) n c (madeS n l1) := ⟨_, rfl⟩
  rw [← hlf] at hok hdg hnl
  clear hlf
  have hmi := madeS_in n (by omega) l0
  have hml := madeS_len n l0
  obtain ⟨es, hes⟩ : ∃ es, es = madeS n l0 := ⟨_, rfl⟩
  rw [← hes] at hok hdg hmi hml hsym hpe hmt
  clear hes
  refine LF.step (OpOk.assign rfl) ?_
  refine LF.nil ?_
  refine PF.next ?_
  refine CF.seq ?_
  refine CF.seq ?_
  refine CF.region ?_
  refine LF.step (OpOk.move rfl) ?_
  refine LF.step (OpOk.lenSl Try.underlying22 hnl rfl) ?_
  refine LF.step (OpOk.move rfl) ?_
  refine LF.step (OpOk.neq rfl rfl) ?_
  refine LF.nil ?_
  refine PF.next ?_
  refine CF.if rfl (fun hc1 => ?_) (fun hc1 => ?_)
  · omega
  · refine CF.skip ?_
    refine PF.next ?_
    refine CF.seq ?_
    refine CF.region ?_
    refine LF.step (OpOk.assign rfl) ?_
    refine LF.nil ?_
    refine PF.next ?_
    refine CF.seq ?_
    refine CF.seq ?_
    refine CF.region ?_
    refine LF.step (OpOk.assign rfl) ?_
    refine LF.nil ?_
    refine PF.next ?_
    refine CF.block ?_
    refine CF.loop (ι := Nat × Value) (fun p H1 => p.1 ≤ n ∧ Gr H1 Hl.size 3 1 p.2 p.1 ((List.range p.1).map fun i => .int .i64 ((i : Nat) : Int)) ∧ Kp Hl.size Hl H1) (fun p => [(7, .bool true), (8, .int .i64 n), (9, ve), (11, .int .i64 c), (12, vt), (13, vl), (14, p.2), (15, .int .i64 p.1)]) (fun p => n - p.1) (0, .slice none 0 0) ⟨by simp only; omega, Gr.nil _ _ _, Kp.refl _ _⟩ ⟨rfl, rfl, rfl, rfl, rfl, rfl, rfl, rfl, trivial⟩ ?_
    rintro ⟨a, vo⟩ H1 ⟨ha, hgr, hkp⟩
    simp only at ha hgr
    dsimp only
    have hkp1 := hkp.1
    refine CF.seq ?_
    refine CF.seq ?_
    refine CF.region ?_
    refine LF.step (OpOk.move rfl) ?_
    refine LF.step (OpOk.move rfl) ?_
    refine LF.step (OpOk.lss rfl rfl) ?_
    refine LF.nil ?_
    refine PF.next ?_
    refine CF.if rfl (fun hc2 => ?_) (fun hc2 => ?_)
    · refine CF.skip ?_
      refine PF.next ?_
      refine CF.seq ?_
      refine CF.block ?_
      refine CF.seq ?_
      refine CF.region ?_
      refine LF.step (OpOk.move rfl) ?_
      refine LF.step (OpOk.move rfl) ?_
      refine LF.app Try.underlying22 Try.info3 rfl (by decide) (by decide) rfl rfl rfl (by simp [Value.oneCell']) rfl hgr (by omega) (by omega) (by omega) ?_
      intro v2 H2 hg2 hgb2 hnn2 hob2
      refine LF.step (OpOk.assign rfl) ?_
      refine LF.nil ?_
      refine PF.next ?_
      refine CF.seq ?_
      refine CF.seq ?_
      have kp2 := hgb2.kp hkp (Nat.le_refl _) (fun b hb => (hgr.blk b hb).1)
      have hl2 : Nt H2 Hl.size vl n lf := Sl.kp hnl kp2
      have hle := hok.le a (by omega)
      refine CF.still Try.mixed (by kernel_rfl) ?_
      refine LS.step (OpOk.move rfl) ?_
      refine LS.step (OpOk.move rfl) ?_
      refine LS.step (OpOk.idx (i := a) Try.underlying22 Try.sz3 hl2 rfl rfl rfl (by omega)) ?_
      refine LS.step (OpOk.load Try.one3 rfl rfl (hl2.at (i := a) (by omega))) ?_
      refine LS.step (OpOk.lss rfl rfl) ?_
      refine LS.step (OpOk.move rfl) ?_
      refine LS.gstep rfl rfl (.f _) (fun hg => OpOk.move rfl) ?_
      refine LS.gstep rfl rfl (.f _) (fun hg => OpOk.move rfl) ?_
      refine LS.gstep rfl rfl (.f _) (fun hg => OpOk.idx (i := a) Try.underlying22 Try.sz3 hl2 (evg rfl hg) (evg rfl hg) rfl (by omega)) ?_
      refine LS.gstep rfl rfl (.f _) (fun hg => OpOk.load Try.one3 (evg rfl hg) rfl (hl2.at (i := a) (by omega))) ?_
      refine LS.gstep rfl rfl (.f _) (fun hg => OpOk.move rfl) ?_
      refine LS.gstep rfl rfl (.f _) (fun hg => OpOk.gtr (evg rfl hg) (evg rfl hg)) ?_
      refine LS.step (OpOk.pickOr rfl rfl) ?_
      refine LS.step (OpOk.move rfl) ?_
      refine LS.gstep rfl rfl (.f _) (fun hg => OpOk.move rfl) ?_
      refine LS.gstep rfl rfl (.f _) (fun hg => OpOk.move rfl) ?_
      refine LS.gstep rfl rfl (.f _) (fun hg => OpOk.move rfl) ?_
      refine LS.gstep rfl rfl (.f _) (fun hg => OpOk.idx (i := a) Try.underlying22 Try.sz3 hl2 (evg rfl hg) (evg rfl hg) rfl (by omega)) ?_
      refine LS.gstep rfl rfl (.f _) (fun hg => OpOk.load Try.one3 (evg rfl hg) rfl (hl2.at (i := a) (by omega))) ?_
      refine LS.gstep rfl rfl (.f _) (fun hg => OpOk.idx (i := lf a) Try.underlying22 Try.sz3 hl2 (evg rfl hg) (evg rfl hg) rfl (by omega)) ?_
      refine LS.gstep rfl rfl (.f _) (fun hg => OpOk.load Try.one3 (evg rfl hg) rfl (hl2.at (i := lf a) (by omega))) ?_
      refine LS.gstep rfl rfl (.f _) (fun hg => OpOk.move rfl) ?_
      refine LS.gstep rfl rfl (.f _) (fun hg => OpOk.move rfl) ?_
      refine LS.gstep rfl rfl (.f _) (fun hg => OpOk.idx (i := a) Try.underlying22 Try.sz3 hl2 (evg rfl hg) (evg rfl hg) rfl (by omega)) ?_
      refine LS.gstep rfl rfl (.f _) (fun hg => OpOk.load Try.one3 (evg rfl hg) rfl (hl2.at (i := a) (by omega))) ?_
      refine LS.gstep rfl rfl (.f _) (fun hg => OpOk.neq (evg rfl hg) (evg rfl hg)) ?_
      refine LS.step (OpOk.pickOr rfl rfl) ?_
      refine LS.done ?_
      refine PF.next ?_
      refine CF.if rfl (fun hc3 => ?_) (fun hc3 => ?_)
      · exfalso
        have h9 := hok.idem a (by omega)
        omega
      · refine CF.skip ?_
        refine PF.next ?_
        refine CF.seq ?_
        refine CF.region ?_
        refine LF.step (OpOk.assign rfl) ?_
        refine LF.nil ?_
        refine PF.next ?_
        refine CF.block ?_
        refine CF.loop (ι := Nat) (fun b H3 => b ≤ n ∧ H2 = H3) (fun b => [(7, .bool true), (8, .int .i64 n), (9, ve), (11, .int .i64 c), (12, vt), (13, vl), (14, v2), (15, .int .i64 a), (16, .int .i64 b)]) (fun b => n - b) 0 ⟨by omega, rfl⟩ ⟨rfl, rfl, rfl, rfl, rfl, rfl, rfl, rfl, rfl, trivial⟩ ?_
        rintro b H3 ⟨hb, rfl⟩
        have hl3 := hl2
        obtain ⟨r, ht2, hr2⟩ := (hmt.kp kl).up.kp kp2
        refine CF.seq ?_
        refine CF.seq ?_
        refine CF.region ?_
        refine LF.step (OpOk.move rfl) ?_
        refine LF.step (OpOk.move rfl) ?_
        refine LF.step (OpOk.lss rfl rfl) ?_
        refine LF.nil ?_
        refine PF.next ?_
        refine CF.if rfl (fun hc4 => ?_) (fun hc4 => ?_)
        · refine CF.skip ?_
          refine PF.next ?_
          refine CF.seq ?_
          refine CF.block ?_
          refine CF.seq ?_
          refine CF.still Try.mixed (by kernel_rfl) ?_
          refine LS.step (OpOk.move rfl) ?_
          refine LS.step (OpOk.move rfl) ?_
          refine LS.step (OpOk.idx (i := a) Try.underlying33 Try.sz36 ht2 rfl rfl rfl (by omega)) ?_
          refine LS.step (OpOk.load Try.one36 rfl rfl (ht2.at (i := a) (by omega))) ?_
          refine LS.step (OpOk.move rfl) ?_
          refine LS.step (OpOk.idx (i := b) Try.underlying36 Try.sz4 (hr2 a (by omega)) rfl rfl rfl (by omega)) ?_
          refine LS.step (OpOk.load Try.one4 rfl rfl ((hr2 a (by omega)).at (i := b) (by omega))) ?_
          refine LS.step (OpOk.move rfl) ?_
          refine LS.gstep rfl rfl (.t _) (fun hg => OpOk.move rfl) ?_
          refine LS.gstep rfl rfl (.t _) (fun hg => OpOk.move rfl) ?_
          refine LS.gstep rfl rfl (.t _) (fun hg => OpOk.idx (i := a) Try.underlying22 Try.sz3 hl3 (evg rfl hg) (evg rfl hg) rfl (by omega)) ?_
          refine LS.gstep rfl rfl (.t _) (fun hg => OpOk.load Try.one3 (evg rfl hg) rfl (hl3.at (i := a) (by omega))) ?_
          refine LS.gstep rfl rfl (.t _) (fun hg => OpOk.move rfl) ?_
          refine LS.gstep rfl rfl (.t _) (fun hg => OpOk.move rfl) ?_
          refine LS.gstep rfl rfl (.t _) (fun hg => OpOk.idx (i := b) Try.underlying22 Try.sz3 hl3 (evg rfl hg) (evg rfl hg) rfl (by omega)) ?_
          refine LS.gstep rfl rfl (.t _) (fun hg => OpOk.load Try.one3 (evg rfl hg) rfl (hl3.at (i := b) (by omega))) ?_
          refine LS.gstep rfl rfl (.t _) (fun hg => OpOk.eql (evg rfl hg) (evg rfl hg)) ?_
          refine LS.step (OpOk.pickAnd rfl rfl) ?_
          refine LS.done ?_
          refine PF.next ?_
          refine CF.if rfl (fun hc5 => ?_) (fun hc5 => ?_)
          · exfalso
            have h9 := hok.sep a b (by omega) (by omega) hc5.1
            omega
          · refine CF.skip ?_
            refine PF.blockNormal ?_
            refine PF.next ?_
            refine CF.region ?_
            refine LF.step (OpOk.move rfl) ?_
            refine LF.step (OpOk.add rfl rfl (by omega)) ?_
            refine LF.step (OpOk.assign rfl) ?_
            refine LF.nil ?_
            exact PF.again (b + 1) ⟨by omega, rfl⟩ ⟨rfl, rfl, rfl, rfl, rfl, rfl, rfl, rfl, rfl, trivial⟩ (by omega)
        · refine CF.exit ?_
          refine PF.thenExit ?_
          refine PF.thenExit ?_
          refine PF.blockHere ?_
          refine PF.blockNormal ?_
          refine PF.next ?_
          refine CF.region ?_
          refine LF.step (OpOk.move rfl) ?_
          refine LF.step (OpOk.add rfl rfl (by omega)) ?_
          refine LF.step (OpOk.assign rfl) ?_
          refine LF.nil ?_
          exact PF.again (a + 1, v2) ⟨by simp only; omega, by simp only; rw [range_snoc]; exact hg2, kp2⟩ ⟨rfl, rfl, rfl, rfl, rfl, rfl, rfl, rfl, trivial⟩ (by simp only; omega)
    · refine CF.exit ?_
      refine PF.thenExit ?_
      refine PF.thenExit ?_
      refine PF.blockHere ?_
      refine PF.next ?_
      refine CF.seq ?_
      obtain rfl : n = a := by omega
      refine CF.region ?_
      refine LF.step (OpOk.move rfl) ?_
      refine LF.step (OpOk.move rfl) ?_
      refine LF.step (OpOk.move rfl) ?_
      refine LF.step (OpOk.move rfl) ?_
      refine LF.call (OpCall.fn Try.ent17 rfl rfl) (easy_ct n (by omega) c (Sl.kp hpe (kel.trans (hkp.mono kel.1))) (Gr.nt hgr)) ?_
      rintro _ H7 ⟨rfl, k7⟩
      have kp7 := hkp.trans (k7.mono hkp.1)
      refine LF.step (OpOk.assign rfl) ?_
      refine LF.nil ?_
      refine PF.next ?_
      refine CF.seq ?_
      refine CF.region ?_
      refine LF.step (OpOk.move rfl) ?_
      refine LF.step (OpOk.move rfl) ?_
      refine LF.step (OpOk.move rfl) ?_
      refine LF.step (OpOk.move rfl) ?_
      refine LF.call (OpCall.fn Try.ent17 rfl rfl) (easy_ct n (by omega) c (Sl.kp hpe (kel.trans (kp7.mono kel.1))) (Sl.kp hnl kp7)) ?_
      rintro _ H8 ⟨rfl, k8⟩
      have kp8 := kp7.trans (k8.mono kp7.1)
      have kbz := kbl.trans (kp8.mono kbl.1)
      refine LF.step (OpOk.assign rfl) ?_
      refine LF.nil ?_
      refine PF.next ?_
      refine CF.seq ?_
      refine CF.seq ?_
      refine CF.region ?_
      refine LF.step (OpOk.move rfl) ?_
      refine LF.step (OpOk.not rfl) ?_
      refine LF.nil ?_
      refine PF.next ?_
      refine CF.if rfl (fun hc6 => ?_) (fun hc6 => ?_)
      · refine CF.seq ?_
        refine CF.region ?_
        refine LF.step (OpOk.move rfl) ?_
        refine LF.step (OpOk.assign rfl) ?_
        refine LF.nil ?_
        refine PF.next ?_
        refine CF.ret ?_
        refine PF.thenRet ?_
        exact PF.ret1 rfl rfl ⟨rfl, kbz⟩
      · have hdw : Dg (nearS (adjS n es) (fun i => i) n) n c := (easy_dg hsym (ok_id (fun i => adjT_irr _ _ _ _)) (by omega)).1 (by simpa using hc6)
        have hdl := hdg hdw
        have his : easyS (adjS n es) n lf c = true := (easy_dg hsym hok (by omega)).2 hdl
        have hdP : Dg (adjS n (mapP lf es)) n c := hdl.congr (fun x y _ _ => (adj_map hok hmi x y).symm)
        refine CF.skip ?_
        refine PF.next ?_
        refine CF.seq ?_
        refine CF.region ?_
        refine LF.step (OpOk.assign rfl) ?_
        refine LF.nil ?_
        refine PF.next ?_
        refine CF.seq ?_
        refine CF.seq ?_
        refine CF.region ?_
        refine LF.step (OpOk.assign rfl) ?_
        refine LF.nil ?_
        refine PF.next ?_
        refine CF.block ?_
        refine CF.loop (ι := Nat × Value) (fun p H1 => p.1 ≤ es.length ∧ Gr H1 Hl.size 44 2 p.2 p.1 (pflat (mapP lf (es.take p.1))) ∧ Kp Hl.size Hl H1) (fun p => [(7, .bool true), (8, .int .i64 n), (9, ve), (11, .int .i64 c), (13, vl), (18, .bool true), (19, p.2), (20, .int .i64 p.1)]) (fun p => es.length - p.1) (0, .slice none 0 0) ⟨by simp only; omega, Gr.nil _ _ _, kp8⟩ ⟨rfl, rfl, rfl, rfl, rfl, congrArg (fun b => some (Value.bool b)) his, rfl, rfl, trivial⟩ ?_
        rintro ⟨i5, vp⟩ H1 ⟨hi5, hgp, kp9⟩
        simp only at hi5 hgp
        dsimp only
        have hkp1 := kp9.1
        have hp5 : Ps H1 He.size ve es := Sl.kp hpe (kel.trans (kp9.mono kel.1))
        have hl5 : Nt H1 Hl.size vl n lf := Sl.kp hnl kp9
        refine CF.seq ?_
        refine CF.seq ?_
        refine CF.region ?_
        refine LF.step (OpOk.move rfl) ?_
        refine LF.step (OpOk.move rfl) ?_
        refine LF.step (OpOk.lenSl Try.underlying23 hp5 rfl) ?_
        refine LF.step (OpOk.lss rfl rfl) ?_
        refine LF.nil ?_
        refine PF.next ?_
        refine CF.if rfl (fun hc7 => ?_) (fun hc7 => ?_)
        · refine CF.skip ?_
          refine PF.next ?_
          refine CF.seq ?_
          refine CF.block ?_
          have hr5 := hmi (es.getD i5 (0, 0)) (by simp [List.getD, show i5 < es.length by omega])
          refine CF.any (fun H' => Kp Hl.size Hl H') Try.mixed ?_
          refine AF.take 0 rfl (by kernel_rfl) (by kernel_rfl) (by kernel_rfl) kp9 (fun H9 hS9 => OpOk.move rfl) ?_
          refine AF.take 1 rfl (by kernel_rfl) (by kernel_rfl) (by kernel_rfl) kp9 (fun H9 hS9 => OpOk.move rfl) ?_
          refine AF.take 2 rfl (by kernel_rfl) (by kernel_rfl) (by kernel_rfl) kp9 (fun H9 hS9 => OpOk.move rfl) ?_
          refine AF.take 3 rfl (by kernel_rfl) (by kernel_rfl) (by kernel_rfl) kp9 (fun H9 hS9 => OpOk.move rfl) ?_
          refine AF.take 4 rfl (by kernel_rfl) (by kernel_rfl) (by kernel_rfl) kp9 (fun H9 hS9 => OpOk.idxs (i := i5) Try.underlying23 Try.sz44 (show Ps H9 He.size ve es from Sl.kp hpe (kel.trans (hS9.mono kel.1))) rfl rfl rfl (by omega)) ?_
          refine AF.take 5 rfl (by kernel_rfl) (by kernel_rfl) (by kernel_rfl) kp9 (fun H9 hS9 => OpOk.indexArr (i := 0) Try.underlying44 Try.sz3 rfl rfl rfl (by omega)) ?_
          refine AF.take 6 rfl (by kernel_rfl) (by kernel_rfl) (by kernel_rfl) kp9 (fun H9 hS9 => OpOk.load Try.one3 rfl rfl ((show Ps H9 He.size ve es from Sl.kp hpe (kel.trans (hS9.mono kel.1))).fst (by omega))) ?_
          refine AF.take 7 rfl (by kernel_rfl) (by kernel_rfl) (by kernel_rfl) kp9 (fun H9 hS9 => OpOk.idx (i := (es.getD i5 (0, 0)).1.toNat) Try.underlying22 Try.sz3 (show Nt H9 Hl.size vl n lf from Sl.kp hnl hS9) rfl rfl (by omega) (by omega)) ?_
          refine AF.take 8 rfl (by kernel_rfl) (by kernel_rfl) (by kernel_rfl) kp9 (fun H9 hS9 => OpOk.load Try.one3 rfl rfl ((show Nt H9 Hl.size vl n lf from Sl.kp hnl hS9).at (by omega))) ?_
          refine AF.take 9 rfl (by kernel_rfl) (by kernel_rfl) (by kernel_rfl) kp9 (fun H9 hS9 => OpOk.move rfl) ?_
          refine AF.take 10 rfl (by kernel_rfl) (by kernel_rfl) (by kernel_rfl) kp9 (fun H9 hS9 => OpOk.move rfl) ?_
          refine AF.take 11 rfl (by kernel_rfl) (by kernel_rfl) (by kernel_rfl) kp9 (fun H9 hS9 => OpOk.move rfl) ?_
          refine AF.take 12 rfl (by kernel_rfl) (by kernel_rfl) (by kernel_rfl) kp9 (fun H9 hS9 => OpOk.idxs (i := i5) Try.underlying23 Try.sz44 (show Ps H9 He.size ve es from Sl.kp hpe (kel.trans (hS9.mono kel.1))) rfl rfl rfl (by omega)) ?_
          refine AF.take 13 rfl (by kernel_rfl) (by kernel_rfl) (by kernel_rfl) kp9 (fun H9 hS9 => OpOk.indexArr (i := 1) Try.underlying44 Try.sz3 rfl rfl rfl (by omega)) ?_
          refine AF.take 14 rfl (by kernel_rfl) (by kernel_rfl) (by kernel_rfl) kp9 (fun H9 hS9 => OpOk.load Try.one3 rfl rfl ((show Ps H9 He.size ve es from Sl.kp hpe (kel.trans (hS9.mono kel.1))).snd (by omega))) ?_
          refine AF.take 15 rfl (by kernel_rfl) (by kernel_rfl) (by kernel_rfl) kp9 (fun H9 hS9 => OpOk.idx (i := (es.getD i5 (0, 0)).2.toNat) Try.underlying22 Try.sz3 (show Nt H9 Hl.size vl n lf from Sl.kp hnl hS9) rfl rfl (by omega) (by omega)) ?_
          refine AF.take 16 rfl (by kernel_rfl) (by kernel_rfl) (by kernel_rfl) kp9 (fun H9 hS9 => OpOk.load Try.one3 rfl rfl ((show Nt H9 Hl.size vl n lf from Sl.kp hnl hS9).at (by omega))) ?_
          refine AF.take 17 rfl (by kernel_rfl) (by kernel_rfl) (by kernel_rfl) kp9 (fun H9 hS9 => OpOk.build rfl (Try.build44 _ _)) ?_
          refine AF.chg 18 rfl (by kernel_rfl) (OpCh.lit Try.underlying23 Try.info44 (by decide) (by decide) rfl rfl rfl) (by rintro _ _ ⟨rfl, rfl⟩; exact kp9.push (Nat.le_refl _) _) ?_
          rintro _ _ ⟨rfl, rfl⟩
          have kpp := kp9.push (Nat.le_refl _) (.cells [.int .i64 ((lf (es.getD i5 (0, 0)).1.toNat : Nat) : Int), .int .i64 ((lf (es.getD i5 (0, 0)).2.toNat : Nat) : Int)].toArray 44)
          refine AF.chg 19 rfl (by kernel_rfl) (OpCh.append (n := i5) (m := 1) (c := 1) Try.underlying23 Try.info44 rfl (by decide) rfl (hgp.push _) rfl rfl (hn_new _) (by simp [Value.oneCell']) (by omega) (by omega) (by simp; omega)) (by rintro v9 H9 ⟨_, h9, _⟩; exact h9.kp kpp (Nat.le_refl _) (fun b hb => (hgp.blk b hb).1)) ?_
          rintro v2 H2 ⟨hg2, hgb2, hnn2, hob2⟩
          have kp10 := hgb2.kp kpp (Nat.le_refl _) (fun b hb => (hgp.blk b hb).1)
          refine AF.take 20 rfl (by kernel_rfl) (by kernel_rfl) (by kernel_rfl) kp10 (fun H9 hS9 => OpOk.assign rfl) ?_
          refine AF.done (by kernel_rfl) ?_
          refine PF.blockNormal ?_
          refine PF.next ?_
          refine CF.region ?_
          refine LF.step (OpOk.move rfl) ?_
          refine LF.step (OpOk.add rfl rfl (by omega)) ?_
          refine LF.step (OpOk.assign rfl) ?_
          refine LF.nil ?_
          exact PF.again (i5 + 1, v2) ⟨by simp only; omega, by simp only; rw [mapP_snoc (by omega), pflat_append]; exact hg2, kp10⟩ ⟨rfl, rfl, rfl, rfl, rfl, rfl, rfl, rfl, trivial⟩ (by simp only; omega)
        · refine CF.exit ?_
          refine PF.thenExit ?_
          refine PF.thenExit ?_
          refine PF.blockHere ?_
          refine PF.next ?_
          refine CF.seq ?_
          rw [show i5 = es.length by omega, List.take_length] at hgp
          refine CF.region ?_
          refine LF.step (OpOk.move rfl) ?_
          refine LF.step (OpOk.move rfl) ?_
          refine LF.step (OpOk.move rfl) ?_
          refine LF.call (OpCall.fn Try.ent11 rfl rfl) (colours_ct n (by omega) c (by omega) (Gr.ps (by rw [show (mapP lf es).length = es.length by simp [mapP]]; exact hgp))) ?_
          rintro vc Hc ⟨hvc, kc⟩
          have kpc := kp9.trans (kc.mono kp9.1)
          refine LF.step (OpOk.assign rfl) ?_
          refine LF.nil ?_
          refine PF.next ?_
          refine CF.seq ?_
          refine CF.seq ?_
          refine CF.region ?_
          refine LF.step (OpOk.assign rfl) ?_
          refine LF.nil ?_
          refine PF.next ?_
          refine CF.block ?_
          refine CF.loop (ι := Nat) (fun i6 H6 => i6 ≤ (coloursS (adjS n (mapP lf es)) n c).length ∧ Hc = H6) (fun i6 => [(7, .bool true), (8, .int .i64 n), (18, .bool true), (21, vc), (22, .int .i64 i6)]) (fun i6 => (coloursS (adjS n (mapP lf es)) n c).length - i6) 0 ⟨by omega, rfl⟩ ⟨rfl, rfl, rfl, rfl, rfl, trivial⟩ ?_
          rintro i6 H6 ⟨hi6, rfl⟩
          have hvc6 : Ns Hc Hc.size vc (coloursS (adjS n (mapP lf es)) n c) := hvc
          have hcl : (coloursS (adjS n (mapP lf es)) n c).length = n := by simp [coloursS]
          refine CF.seq ?_
          refine CF.seq ?_
          refine CF.region ?_
          refine LF.step (OpOk.move rfl) ?_
          refine LF.step (OpOk.move rfl) ?_
          refine LF.step (OpOk.lenSl Try.underlying22 hvc6 rfl) ?_
          refine LF.step (OpOk.lss rfl rfl) ?_
          refine LF.nil ?_
          refine PF.next ?_
          refine CF.if rfl (fun hc8 => ?_) (fun hc8 => ?_)
          · refine CF.skip ?_
            refine PF.next ?_
            refine CF.seq ?_
            refine CF.block ?_
            refine CF.seq ?_
            refine CF.region ?_
            refine LF.step (OpOk.move rfl) ?_
            refine LF.step (OpOk.move rfl) ?_
            refine LF.step (OpOk.idx (i := i6) Try.underlying22 Try.sz3 hvc6 rfl rfl rfl (by omega)) ?_
            refine LF.step (OpOk.load Try.one3 rfl rfl (hvc6.at (i := i6) (by omega))) ?_
            refine LF.step (OpOk.lss rfl rfl) ?_
            refine LF.nil ?_
            refine PF.next ?_
            refine CF.if rfl (fun hc9 => ?_) (fun hc9 => ?_)
            · exfalso
              have h9 := colours_all (f := adjS n (mapP lf es)) (k := c) (n := n) (fun i j => adjT_sym _ _ _ _ _) (fun i => adjT_irr _ _ _ _) hdP _ (List.getElem_mem (l := coloursS (adjS n (mapP lf es)) n c) (n := i6) (by omega))
              have h8 : (coloursS (adjS n (mapP lf es)) n c).getD i6 0 = (coloursS (adjS n (mapP lf es)) n c)[i6]'(by omega) := by simp [List.getD, show i6 < (coloursS (adjS n (mapP lf es)) n c).length by omega]
              omega
            · refine CF.skip ?_
              refine PF.blockNormal ?_
              refine PF.next ?_
              refine CF.region ?_
              refine LF.step (OpOk.move rfl) ?_
              refine LF.step (OpOk.add rfl rfl (by omega)) ?_
              refine LF.step (OpOk.assign rfl) ?_
              refine LF.nil ?_
              exact PF.again (i6 + 1) ⟨by omega, rfl⟩ ⟨rfl, rfl, rfl, rfl, rfl, trivial⟩ (by omega)
          · refine CF.exit ?_
            refine PF.thenExit ?_
            refine PF.thenExit ?_
            refine PF.blockHere ?_
            refine PF.next ?_
            refine CF.seq ?_
            refine CF.region ?_
            refine LF.step (OpOk.move rfl) ?_
            refine LF.step (OpOk.move rfl) ?_
            refine LF.gstep rfl rfl (.t _) (fun hg => OpOk.move rfl) ?_
            refine LF.step (OpOk.pickAnd rfl rfl) ?_
            refine LF.step (OpOk.move rfl) ?_
            refine LF.gstep rfl rfl (.t _) (fun hg => OpOk.move rfl) ?_
            refine LF.gstep rfl rfl (.t _) (fun hg => OpOk.lenSl Try.underlying22 hvc6 (evg rfl hg)) ?_
            refine LF.gstep rfl rfl (.t _) (fun hg => OpOk.move rfl) ?_
            refine LF.gstep rfl rfl (.t _) (fun hg => OpOk.eql (evg rfl hg) (evg rfl hg)) ?_
            refine LF.step (OpOk.pickAnd rfl rfl) ?_
            refine LF.step (OpOk.assign rfl) ?_
            refine LF.nil ?_
            refine PF.next ?_
            refine CF.ret ?_
            exact PF.ret1 rfl rfl ⟨congrArg _ (by simp [hcl]), kbl.trans (kpc.mono kbl.1)⟩

end Go.Proofs.Ytkhphpobccnodaa
