/- Walks of the functions of chapter 14 that the laws on graphs reach, second part. Conditions: each contract names its own. -/
import Derived.Test.YtkhphpobccnodaaW1
import Derived.Test.YtkhphpobccnodaaFc
namespace Go.Proofs.Ytkhphpobccnodaa
open Go.JE

theorem Mt.kp {H H' : Heap} {B : Nat} {v : Value} {n : Nat} {f : Nat → Nat → Bool} (h : Mt H B v n f) (hk : Kp B H H') : Mt H' B v n f := by
  obtain ⟨r, h1, h2⟩ := h
  exact ⟨r, h1.kp hk, fun i hi => (h2 i hi).kp hk⟩
theorem Gr.nats {H : Heap} {B n : Nat} {v : Value} {l : List Nat} (h : Gr H B 3 1 v n (l.map fun a : Nat => .int .i64 (a : Int))) : Sl H H.size v 1 n (fun i => .int .i64 ((l.getD i 0 : Nat) : Int)) := by
  have hl : l.length = n := by have := h.1; simpa using this
  refine h.sl fun i hi => ?_
  have : i < l.length := by omega
  simp [List.getD, this]
theorem Rw.ns {H : Heap} {b n : Nat} {g : Nat → Int} (h : Rw H b 3 n (fun x => .int .i64 (g x))) (hn : n ≤ 9223372036854775807) : Ns H H.size (.slice (some ⟨b, 0, none⟩) n n) ((List.range n).map g) := by
  unfold Ns
  rw [show ((List.range n).map g).length = n by simp]
  exact (h.congr (fun i hi => by simp [List.getD, hi])).sl h.lt (by omega) hn (Nat.le_refl _)

theorem Mt.up {H : Heap} {B : Nat} {v : Value} {n : Nat} {f : Nat → Nat → Bool} (h : Mt H B v n f) : Mt H H.size v n f := by
  obtain ⟨r, h1, h2⟩ := h
  exact ⟨r, h1.up, fun i hi => (h2 i hi).up⟩
theorem fill_cell (i j : Nat) : (if j = 0 + i then Value.int .i64 (-1) else .int .i64 (if j < i then -1 else 0)) = .int .i64 (if j < i + 1 then -1 else 0) := by
  by_cases e1 : j = 0 + i
  · rw [if_pos e1, if_pos (show j < i + 1 by omega)]
  · rw [if_neg e1]
    by_cases e2 : j < i
    · rw [if_pos e2, if_pos (show j < i + 1 by omega)]
    · rw [if_neg e2, if_neg (show ¬ j < i + 1 by omega)]
theorem colT_cons (f : Nat → Nat → Bool) (k : Int) (n a : Nat) (l : List Nat) : colT f k n (a :: l) = paintS f k n a (colT f k n l) := rfl



theorem degree_ct {H : Heap} {B : Nat} {vt vth : Value} {n a : Nat} {f : Nat → Nat → Bool} {g : Nat → Bool} (ht : Mt H B vt n f) (hth : Bs H B vth n g) (ha : a < n) :
    Ct Try.prog 21 #[vt, vth, .int .i64 a] H (fun v H' => v = .int .i64 (degS f g a n) ∧ H' = H) := by
  obtain ⟨r, ht, hr⟩ := ht
  have hn := ht.len
  refine Ct.enter (args := [vt, vth, .int .i64 a]) Try.func21 rfl rfl rfl (fun w0 hw0 => ?_)
  refine CF.seq ?_
  refine CF.region ?_
  refine LF.step (OpOk.assign rfl) ?_
  refine LF.nil ?_
  refine PF.next ?_
  refine CF.seq ?_
  refine CF.region ?_
  refine LF.step (OpOk.assign rfl) ?_
  refine LF.nil ?_
  refine PF.next ?_
  refine CF.seq ?_
  refine CF.seq ?_
  refine CF.region ?_
  refine LF.step (OpOk.assign rfl) ?_
  refine LF.nil ?_
  refine PF.next ?_
  refine CF.block ?_
  refine CF.loop (ι := Nat) (fun k H1 => k ≤ n ∧ H1 = H) (fun k => [(0, vt), (1, vth), (2, .int .i64 a), (7, .int .i64 (degS f g a k)), (8, .int .i64 k)]) (fun k => n - k) 0 ⟨by omega, rfl⟩ ⟨rfl, rfl, rfl, rfl, rfl, trivial⟩ ?_
  rintro k H1 ⟨hk, rfl⟩
  have hd := degS_le f g a k
  refine CF.seq ?_
  refine CF.seq ?_
  refine CF.region ?_
  refine LF.step (OpOk.move rfl) ?_
  refine LF.step (OpOk.move rfl) ?_
  refine LF.step (OpOk.lenSl Try.underlying33 ht rfl) ?_
  refine LF.step (OpOk.lss rfl rfl) ?_
  refine LF.nil ?_
  refine PF.next ?_
  refine CF.if rfl (fun hc1 => ?_) (fun hc1 => ?_)
  · refine CF.skip ?_
    refine PF.next ?_
    refine CF.seq ?_
    refine CF.block ?_
    refine CF.seq ?_
    refine CF.region ?_
    refine LF.step (OpOk.move rfl) ?_
    refine LF.step (OpOk.move rfl) ?_
    refine LF.step (OpOk.idx Try.underlying36 Try.sz4 hth rfl rfl rfl (by omega)) ?_
    refine LF.step (OpOk.load Try.one4 rfl rfl (hth.at (by omega))) ?_
    refine LF.step (OpOk.move rfl) ?_
    refine LF.gstep rfl rfl (.t _) (fun hg => OpOk.move rfl) ?_
    refine LF.gstep rfl rfl (.t _) (fun hg => OpOk.move rfl) ?_
    refine LF.gstep rfl rfl (.t _) (fun hg => OpOk.idx Try.underlying33 Try.sz36 ht (evg rfl hg) (evg rfl hg) rfl (by omega)) ?_
    refine LF.gstep rfl rfl (.t _) (fun hg => OpOk.load Try.one36 (evg rfl hg) rfl (ht.at (by omega))) ?_
    refine LF.gstep rfl rfl (.t _) (fun hg => OpOk.move rfl) ?_
    refine LF.gstep rfl rfl (.t _) (fun hg => OpOk.idx Try.underlying36 Try.sz4 (hr a ha) (evg rfl hg) (evg rfl hg) rfl (by omega)) ?_
    refine LF.gstep rfl rfl (.t _) (fun hg => OpOk.load Try.one4 (evg rfl hg) rfl ((hr a ha).at (by omega))) ?_
    refine LF.step (OpOk.pickAnd rfl rfl) ?_
    refine LF.nil ?_
    refine PF.next ?_
    refine CF.if rfl (fun hc2 => ?_) (fun hc2 => ?_)
    · refine CF.region ?_
      refine LF.step (OpOk.move rfl) ?_
      refine LF.step (OpOk.add rfl rfl (by omega)) ?_
      refine LF.step (OpOk.assign rfl) ?_
      refine LF.nil ?_
      refine PF.blockNormal ?_
      refine PF.next ?_
      refine CF.region ?_
      refine LF.step (OpOk.move rfl) ?_
      refine LF.step (OpOk.add rfl rfl (by omega)) ?_
      refine LF.step (OpOk.assign rfl) ?_
      refine LF.nil ?_
      exact PF.again (k + 1) ⟨by omega, rfl⟩ ⟨rfl, rfl, rfl, eqI (by simp [degS, hc2]), rfl, trivial⟩ (by omega)
    · refine CF.skip ?_
      refine PF.blockNormal ?_
      refine PF.next ?_
      refine CF.region ?_
      refine LF.step (OpOk.move rfl) ?_
      refine LF.step (OpOk.add rfl rfl (by omega)) ?_
      refine LF.step (OpOk.assign rfl) ?_
      refine LF.nil ?_
      exact PF.again (k + 1) ⟨by omega, rfl⟩ ⟨rfl, rfl, rfl, eqI (by rcases hc2 with e1 | e1 <;> simp [degS, e1]), rfl, trivial⟩ (by omega)
  · refine CF.exit ?_
    refine PF.thenExit ?_
    refine PF.thenExit ?_
    refine PF.blockHere ?_
    refine PF.next ?_
    refine CF.seq ?_
    refine CF.region ?_
    refine LF.step (OpOk.move rfl) ?_
    refine LF.step (OpOk.assign rfl) ?_
    refine LF.nil ?_
    refine PF.next ?_
    refine CF.ret ?_
    obtain rfl : k = n := by omega
    exact PF.ret1 rfl rfl ⟨rfl, rfl⟩


theorem refColours_ct {H : Heap} {B : Nat} {vq : Value} {es : List (Int × Int)} (n : Nat) (hn : n ≤ 8192) (k : Int) (hk8 : k ≤ 8192) (hq : Ps H B vq es) :
    Ct Try.prog 12 #[.int .i64 n, vq, .int .i64 k] H (fun v H' => Ns H' H'.size v (coloursS (adjS n es) n k) ∧ Kp H.size H H') := by
  refine Ct.enter (args := [.int .i64 n, vq, .int .i64 k]) Try.func12 rfl rfl rfl (fun w0 hw0 => ?_)
  refine CF.seq ?_
  refine CF.region ?_
  refine LF.step (OpOk.assign rfl) ?_
  refine LF.nil ?_
  refine PF.next ?_
  refine CF.seq ?_
  refine CF.seq ?_
  refine CF.region ?_
  refine LF.step (OpOk.move rfl) ?_
  refine LF.step (OpOk.lss rfl rfl) ?_
  refine LF.step (OpOk.move rfl) ?_
  refine LF.gstep rfl rfl (.f _) (fun hg => OpOk.move rfl) ?_
  refine LF.gstep rfl rfl (.f _) (fun hg => OpOk.gtr (evg rfl hg) rfl) ?_
  refine LF.step (OpOk.pickOr rfl rfl) ?_
  refine LF.nil ?_
  refine PF.next ?_
  refine CF.if rfl (fun hc1 => ?_) (fun hc1 => ?_)
  · omega
  · refine CF.skip ?_
    refine PF.next ?_
    refine CF.seq ?_
    refine CF.region ?_
    refine LF.step (OpOk.move rfl) ?_
    refine LF.step (OpOk.move rfl) ?_
    refine LF.call (OpCall.fn Try.ent14 rfl rfl) (table_ct n (by omega) hq) ?_
    rintro vt Ht ⟨hmt, hkt⟩
    refine LF.step (OpOk.assign rfl) ?_
    refine LF.nil ?_
    refine PF.next ?_
    refine CF.seq ?_
    refine CF.region ?_
    refine LF.step (OpOk.move rfl) ?_
    refine LF.chg (OpCh.make Try.underlying36 Try.info4 rfl rfl rfl (by omega) (by omega)) ?_
    rintro _ H2 ⟨rfl, hsz2, hold2, hrw2⟩
    have hk2 : Kp Ht.size Ht H2 := ⟨by omega, hold2⟩
    refine LF.step (OpOk.assign rfl) ?_
    refine LF.nil ?_
    refine PF.next ?_
    refine CF.seq ?_
    refine CF.seq ?_
    refine CF.region ?_
    refine LF.step (OpOk.assign rfl) ?_
    refine LF.nil ?_
    refine PF.next ?_
    refine CF.block ?_
    refine CF.loop (ι := Nat) (fun i H1 => i ≤ n ∧ Rw H1 Ht.size 4 n (fun j => .bool (decide (j < i))) ∧ Kp Ht.size Ht H1) (fun i => [(0, .int .i64 n), (2, .int .i64 k), (7, vt), (8, .slice (some ⟨Ht.size, 0, none⟩) n n), (9, .int .i64 i)]) (fun i => n - i) 0 ⟨by omega, hrw2.congr (fun i hi => by simp), hk2⟩ ⟨rfl, rfl, rfl, rfl, rfl, trivial⟩ ?_
    rintro i H1 ⟨hi, hth, hkp⟩
    have hths := hth.sl hth.lt (show n * 1 ≤ n by omega) (by omega) (Nat.le_refl n)
    refine CF.seq ?_
    refine CF.seq ?_
    refine CF.region ?_
    refine LF.step (OpOk.move rfl) ?_
    refine LF.step (OpOk.move rfl) ?_
    refine LF.step (OpOk.lss rfl rfl) ?_
    refine LF.nil ?_
    refine PF.next ?_
    refine CF.if rfl (fun hc2 => ?_) (fun hc2 => ?_)
    · refine CF.skip ?_
      refine PF.next ?_
      refine CF.seq ?_
      refine CF.block ?_
      refine CF.region ?_
      refine LF.step (OpOk.move rfl) ?_
      refine LF.step (OpOk.move rfl) ?_
      refine LF.step (OpOk.idx Try.underlying36 Try.sz4 hths rfl rfl rfl (by omega)) ?_
      refine LF.chg0 (OpCh.store (b := Ht.size) (i := 0 + i) Try.sz4 rfl rfl rfl hth (by omega)) ?_
      rintro _ _ rfl
      refine LF.nil ?_
      refine PF.blockNormal ?_
      refine PF.next ?_
      refine CF.region ?_
      refine LF.step (OpOk.move rfl) ?_
      refine LF.step (OpOk.add rfl rfl (by omega)) ?_
      refine LF.step (OpOk.assign rfl) ?_
      refine LF.nil ?_
      exact PF.again (i + 1) ⟨by omega, hth.set.congr (fun j hj => by by_cases e1 : j = 0 + i <;> by_cases e2 : j < i <;> simp [e1, e2] <;> omega), hkp.setc (Nat.le_refl _)⟩ ⟨rfl, rfl, rfl, rfl, rfl, trivial⟩ (by omega)
    · refine CF.exit ?_
      refine PF.thenExit ?_
      refine PF.thenExit ?_
      refine PF.blockHere ?_
      refine PF.next ?_
      refine CF.seq ?_
      refine CF.region ?_
      refine LF.step (OpOk.assign rfl) ?_
      refine LF.nil ?_
      refine PF.next ?_
      refine CF.seq ?_
      refine CF.block ?_
      obtain rfl : n = i := by omega
      refine CF.loop (ι := Nat × Value) (fun p H1 => p.1 ≤ n ∧ Rw H1 Ht.size 4 n (fun a => .bool (thereT (adjS n es) k n p.1 a)) ∧ Gr H1 Ht.size 3 1 p.2 p.1 ((orderT (adjS n es) k n p.1).map fun a : Nat => .int .i64 (a : Int)) ∧ Kp Ht.size Ht H1) (fun p => [(0, .int .i64 n), (2, .int .i64 k), (7, vt), (8, .slice (some ⟨Ht.size, 0, none⟩) n n), (10, p.2)]) (fun p => n - p.1) (0, .slice none 0 0) ⟨by omega, hth.congr (fun a ha => by simp [thereT, orderT, ha]), Gr.nil _ _ _, hkp⟩ ⟨rfl, rfl, rfl, rfl, rfl, trivial⟩ ?_
      rintro ⟨j, vg⟩ H1 ⟨hj, hth, hgr, hkp⟩
      simp only at hj hth hgr
      dsimp only
      have hgs := Gr.nats hgr
      have hths := hth.sl hth.lt (show n * 1 ≤ n by omega) (by omega) (Nat.le_refl n)
      have hkp1 := hkp.1
      refine CF.seq ?_
      refine CF.seq ?_
      refine CF.region ?_
      refine LF.step (OpOk.move rfl) ?_
      refine LF.step (OpOk.lenSl Try.underlying22 hgs rfl) ?_
      refine LF.step (OpOk.move rfl) ?_
      refine LF.step (OpOk.lss rfl rfl) ?_
      refine LF.nil ?_
      refine PF.next ?_
      refine CF.if rfl (fun hc3 => ?_) (fun hc3 => ?_)
      · refine CF.skip ?_
        refine PF.next ?_
        refine CF.block ?_
        refine CF.seq ?_
        refine CF.region ?_
        refine LF.step (OpOk.assign rfl) ?_
        refine LF.nil ?_
        refine PF.next ?_
        refine CF.seq ?_
        refine CF.region ?_
        refine LF.step (OpOk.assign rfl) ?_
        refine LF.nil ?_
        refine PF.next ?_
        refine CF.seq ?_
        refine CF.seq ?_
        refine CF.region ?_
        refine LF.step (OpOk.assign rfl) ?_
        refine LF.nil ?_
        refine PF.next ?_
        refine CF.block ?_
        refine CF.loop (ι := Nat) (fun a H3 => a ≤ n ∧ (∀ i, i < a → ((thereT (adjS n es) k n j) i && decide ((degS (adjS n es) (thereT (adjS n es) k n j) i n : Int) < k)) = false) ∧ H1 = H3) (fun a => [(0, .int .i64 n), (2, .int .i64 k), (7, vt), (8, .slice (some ⟨Ht.size, 0, none⟩) n n), (10, vg), (11, .int .i64 (bestS (adjS n es) (thereT (adjS n es) k n j) n a).1), (12, .int .i64 (bestS (adjS n es) (thereT (adjS n es) k n j) n a).2), (13, .int .i64 a)]) (fun a => n - a) 0 ⟨by omega, by intro i hi; omega, rfl⟩ ⟨rfl, rfl, rfl, rfl, rfl, rfl, rfl, rfl, trivial⟩ ?_
        rintro a H3 ⟨ha, hno, rfl⟩
        have hdl := fun x => degS_le (adjS n es) (thereT (adjS n es) k n j) x n
        refine CF.seq ?_
        refine CF.seq ?_
        refine CF.region ?_
        refine LF.step (OpOk.move rfl) ?_
        refine LF.step (OpOk.move rfl) ?_
        refine LF.step (OpOk.lss rfl rfl) ?_
        refine LF.nil ?_
        refine PF.next ?_
        refine CF.if rfl (fun hc4 => ?_) (fun hc4 => ?_)
        · have ha2 : a < n := by omega
          refine CF.skip ?_
          refine PF.next ?_
          refine CF.seq ?_
          refine CF.block ?_
          refine CF.seq ?_
          refine CF.seq ?_
          refine CF.region ?_
          refine LF.step (OpOk.move rfl) ?_
          refine LF.step (OpOk.move rfl) ?_
          refine LF.step (OpOk.idx Try.underlying36 Try.sz4 hths rfl rfl rfl (by omega)) ?_
          refine LF.step (OpOk.load Try.one4 rfl rfl (hths.at (by omega))) ?_
          refine LF.step (OpOk.not rfl) ?_
          refine LF.nil ?_
          refine PF.next ?_
          refine CF.if rfl (fun hc5 => ?_) (fun hc5 => ?_)
          · refine CF.exit ?_
            refine PF.thenExit ?_
            refine PF.blockHere ?_
            refine PF.next ?_
            refine CF.region ?_
            refine LF.step (OpOk.move rfl) ?_
            refine LF.step (OpOk.add rfl rfl (by omega)) ?_
            refine LF.step (OpOk.assign rfl) ?_
            refine LF.nil ?_
            exact PF.again (a + 1) ⟨by omega, fun i hi => (by by_cases e1 : i = a; (· subst e1; simp [hc5]); exact hno i (by omega)), rfl⟩ ⟨rfl, rfl, rfl, rfl, rfl, eqI (by simp [bestS, hc5]), eqI (by simp [bestS, hc5]), rfl, trivial⟩ (by omega)
          · refine CF.skip ?_
            refine PF.next ?_
            refine CF.seq ?_
            refine CF.region ?_
            refine LF.step (OpOk.move rfl) ?_
            refine LF.step (OpOk.move rfl) ?_
            refine LF.step (OpOk.move rfl) ?_
            refine LF.call (OpCall.fn Try.ent21 rfl rfl) (degree_ct (Mt.up (hmt.kp hkp)) hths ha2) ?_
            rintro _ _ ⟨rfl, rfl⟩
            refine LF.step (OpOk.assign rfl) ?_
            refine LF.nil ?_
            refine PF.next ?_
            refine CF.seq ?_
            refine CF.seq ?_
            refine CF.region ?_
            refine LF.step (OpOk.move rfl) ?_
            refine LF.step (OpOk.move rfl) ?_
            refine LF.step (OpOk.lss rfl rfl) ?_
            refine LF.nil ?_
            refine PF.next ?_
            refine CF.if rfl (fun hc6 => ?_) (fun hc6 => ?_)
            · obtain ⟨p, hp, hpn, hpm⟩ := orderT_pick (f := (adjS n es)) (k := k) (show j < n by omega)
              have hp0 : pickS (adjS n es) (thereT (adjS n es) k n j) n k = (a : Int) := by unfold pickS; rw [fstS_some (a := a) (by omega) (by simp only [Bool.and_eq_true, decide_eq_true_eq]; exact ⟨hc5, hc6⟩) hno]
              have hval : (a : Int) = p := hp0.symm.trans hp
              refine CF.seq ?_
              refine CF.region ?_
              refine LF.step (OpOk.move rfl) ?_
              refine LF.step (OpOk.assign rfl) ?_
              refine LF.nil ?_
              refine PF.next ?_
              refine CF.exit ?_
              refine PF.thenExit ?_
              refine PF.blockOther ?_
              refine PF.thenExit ?_
              refine PF.thenExit ?_
              refine PF.blockHere ?_
              refine PF.next ?_
              refine CF.seq ?_
              refine CF.region ?_
              refine LF.step (OpOk.move rfl) ?_
              refine LF.step (OpOk.move rfl) ?_
              refine LF.step (OpOk.idx (i := p) Try.underlying36 Try.sz4 hths rfl rfl hval hpn) ?_
              refine LF.chg0 (OpCh.store (b := Ht.size) (i := 0 + p) Try.sz4 rfl rfl rfl hth (by omega)) ?_
              rintro _ _ rfl
              have hth2 := hth.set (i := 0 + p) (v := .bool false)
              have hgr2 := hgr.setOther (i := 0 + p) (u := .bool false) (hgr.type_ne hth (by decide))
              have hkp2 := hkp.setc (b := Ht.size) (i := 0 + p) (v := .bool false) (Nat.le_refl _)
              have hkp3 := hkp2.1
              refine LF.nil ?_
              refine PF.next ?_
              refine CF.region ?_
              refine LF.step (OpOk.move rfl) ?_
              refine LF.step (OpOk.move rfl) ?_
              refine LF.app Try.underlying22 Try.info3 rfl (by decide) (by decide) rfl rfl rfl (by simp [Value.oneCell']) rfl hgr2 (by omega) (by omega) (by omega) ?_
              intro v2 H2 hg2 hgb2 hnn2 hob2
              refine LF.step (OpOk.assign rfl) ?_
              refine LF.nil ?_
              refine PF.blockNormal ?_
              rw [hval] at hg2
              have hg3 : Gr H2 Ht.size 3 1 v2 (j + 1) ((orderT (adjS n es) k n (j + 1)).map fun a : Nat => .int .i64 (a : Int)) := by rw [orderT_snoc hp, List.map_append]; exact hg2
              have hth3 := (hth2.of (hgb2.2 _ hth2.lt (fun e1 => hgr2.type_ne hth2 (by decide) e1.symm))).congr (g := fun a => .bool (thereT (adjS n es) k n (j + 1) a)) (fun a ha => by rw [thereT_snoc hp]; by_cases e1 : a = p <;> simp [e1])
              exact PF.again (j + 1, v2) ⟨by simp only; omega, hth3, hg3, hgb2.kp hkp2 (Nat.le_refl _) (fun b hb => (hgr2.blk b hb).1)⟩ ⟨rfl, rfl, rfl, rfl, rfl, trivial⟩ (by simp only; omega)
            · refine CF.skip ?_
              refine PF.next ?_
              refine CF.seq ?_
              refine CF.region ?_
              refine LF.step (OpOk.move rfl) ?_
              refine LF.step (OpOk.move rfl) ?_
              refine LF.step (OpOk.gtr rfl rfl) ?_
              refine LF.nil ?_
              refine PF.next ?_
              refine CF.if rfl (fun hc7 => ?_) (fun hc7 => ?_)
              · refine CF.seq ?_
                refine CF.region ?_
                refine LF.step (OpOk.move rfl) ?_
                refine LF.step (OpOk.assign rfl) ?_
                refine LF.nil ?_
                refine PF.next ?_
                refine CF.region ?_
                refine LF.step (OpOk.move rfl) ?_
                refine LF.step (OpOk.assign rfl) ?_
                refine LF.nil ?_
                refine PF.blockNormal ?_
                refine PF.next ?_
                refine CF.region ?_
                refine LF.step (OpOk.move rfl) ?_
                refine LF.step (OpOk.add rfl rfl (by omega)) ?_
                refine LF.step (OpOk.assign rfl) ?_
                refine LF.nil ?_
                exact PF.again (a + 1) ⟨by omega, fun i hi => (by by_cases e1 : i = a; (· subst e1; simp; intro _; omega); exact hno i (by omega)), rfl⟩ ⟨rfl, rfl, rfl, rfl, rfl, eqI (by simp [bestS, hc5, hc7]), eqI (by simp [bestS, hc5, hc7]), rfl, trivial⟩ (by omega)
              · refine CF.skip ?_
                refine PF.blockNormal ?_
                refine PF.next ?_
                refine CF.region ?_
                refine LF.step (OpOk.move rfl) ?_
                refine LF.step (OpOk.add rfl rfl (by omega)) ?_
                refine LF.step (OpOk.assign rfl) ?_
                refine LF.nil ?_
                exact PF.again (a + 1) ⟨by omega, fun i hi => (by by_cases e1 : i = a; (· subst e1; simp; intro _; omega); exact hno i (by omega)), rfl⟩ ⟨rfl, rfl, rfl, rfl, rfl, eqI (by rw [bestS, if_neg (fun h => hc7 h.2)]), eqI (by rw [bestS, if_neg (fun h => hc7 h.2)]), rfl, trivial⟩ (by omega)
        · obtain rfl : n = a := by omega
          obtain ⟨p, hp, hpn, hpm⟩ := orderT_pick (f := (adjS n es)) (k := k) (show j < n by omega)
          have hp0 : pickS (adjS n es) (thereT (adjS n es) k n j) n k = (bestS (adjS n es) (thereT (adjS n es) k n j) n n).1 := by unfold pickS; rw [fstS_none hno]
          have hval : (bestS (adjS n es) (thereT (adjS n es) k n j) n n).1 = p := hp0.symm.trans hp
          refine CF.exit ?_
          refine PF.thenExit ?_
          refine PF.thenExit ?_
          refine PF.blockHere ?_
          refine PF.next ?_
          refine CF.seq ?_
          refine CF.region ?_
          refine LF.step (OpOk.move rfl) ?_
          refine LF.step (OpOk.move rfl) ?_
          refine LF.step (OpOk.idx (i := p) Try.underlying36 Try.sz4 hths rfl rfl hval hpn) ?_
          refine LF.chg0 (OpCh.store (b := Ht.size) (i := 0 + p) Try.sz4 rfl rfl rfl hth (by omega)) ?_
          rintro _ _ rfl
          have hth2 := hth.set (i := 0 + p) (v := .bool false)
          have hgr2 := hgr.setOther (i := 0 + p) (u := .bool false) (hgr.type_ne hth (by decide))
          have hkp2 := hkp.setc (b := Ht.size) (i := 0 + p) (v := .bool false) (Nat.le_refl _)
          have hkp3 := hkp2.1
          refine LF.nil ?_
          refine PF.next ?_
          refine CF.region ?_
          refine LF.step (OpOk.move rfl) ?_
          refine LF.step (OpOk.move rfl) ?_
          refine LF.app Try.underlying22 Try.info3 rfl (by decide) (by decide) rfl rfl rfl (by simp [Value.oneCell']) rfl hgr2 (by omega) (by omega) (by omega) ?_
          intro v2 H2 hg2 hgb2 hnn2 hob2
          refine LF.step (OpOk.assign rfl) ?_
          refine LF.nil ?_
          refine PF.blockNormal ?_
          rw [hval] at hg2
          have hg3 : Gr H2 Ht.size 3 1 v2 (j + 1) ((orderT (adjS n es) k n (j + 1)).map fun a : Nat => .int .i64 (a : Int)) := by rw [orderT_snoc hp, List.map_append]; exact hg2
          have hth3 := (hth2.of (hgb2.2 _ hth2.lt (fun e1 => hgr2.type_ne hth2 (by decide) e1.symm))).congr (g := fun a => .bool (thereT (adjS n es) k n (j + 1) a)) (fun a ha => by rw [thereT_snoc hp]; by_cases e1 : a = p <;> simp [e1])
          exact PF.again (j + 1, v2) ⟨by simp only; omega, hth3, hg3, hgb2.kp hkp2 (Nat.le_refl _) (fun b hb => (hgr2.blk b hb).1)⟩ ⟨rfl, rfl, rfl, rfl, rfl, trivial⟩ (by simp only; omega)
      · refine CF.exit ?_
        refine PF.thenExit ?_
        refine PF.thenExit ?_
        refine PF.blockHere ?_
        refine PF.next ?_
        refine CF.seq ?_
        refine CF.region ?_
        refine LF.step (OpOk.move rfl) ?_
        refine LF.chg (OpCh.make Try.underlying22 Try.info3 rfl rfl rfl (by omega) (by omega)) ?_
        rintro _ Ho ⟨rfl, hszo, holdo, hrwo⟩
        refine LF.step (OpOk.assign rfl) ?_
        refine LF.nil ?_
        refine PF.next ?_
        refine CF.seq ?_
        refine CF.seq ?_
        refine CF.region ?_
        refine LF.step (OpOk.assign rfl) ?_
        refine LF.nil ?_
        refine PF.next ?_
        refine CF.block ?_
        obtain rfl : n = j := by omega
        refine CF.loop (ι := Nat) (fun i H5 => i ≤ n ∧ Rw H5 H1.size 3 n (fun j => .int .i64 (if j < i then -1 else 0)) ∧ Kp H1.size H1 H5) (fun i => [(0, .int .i64 n), (2, .int .i64 k), (7, vt), (10, vg), (15, .slice (some ⟨H1.size, 0, none⟩) n n), (16, .int .i64 i)]) (fun i => n - i) 0 ⟨by omega, hrwo.congr (fun i hi => by simp), ⟨by omega, holdo⟩⟩ ⟨rfl, rfl, rfl, rfl, rfl, rfl, trivial⟩ ?_
        rintro i H5 ⟨hi, hou, hko⟩
        have hous := hou.sl hou.lt (show n * 1 ≤ n by omega) (by omega) (Nat.le_refl n)
        refine CF.seq ?_
        refine CF.seq ?_
        refine CF.region ?_
        refine LF.step (OpOk.move rfl) ?_
        refine LF.step (OpOk.move rfl) ?_
        refine LF.step (OpOk.lss rfl rfl) ?_
        refine LF.nil ?_
        refine PF.next ?_
        refine CF.if rfl (fun hc8 => ?_) (fun hc8 => ?_)
        · refine CF.skip ?_
          refine PF.next ?_
          refine CF.seq ?_
          refine CF.block ?_
          refine CF.region ?_
          refine LF.step (OpOk.move rfl) ?_
          refine LF.step (OpOk.move rfl) ?_
          refine LF.step (OpOk.idx Try.underlying22 Try.sz3 hous rfl rfl rfl (by omega)) ?_
          refine LF.chg0 (OpCh.store (b := H1.size) (i := 0 + i) Try.sz3 rfl rfl rfl hou (by omega)) ?_
          rintro _ _ rfl
          refine LF.nil ?_
          refine PF.blockNormal ?_
          refine PF.next ?_
          refine CF.region ?_
          refine LF.step (OpOk.move rfl) ?_
          refine LF.step (OpOk.add rfl rfl (by omega)) ?_
          refine LF.step (OpOk.assign rfl) ?_
          refine LF.nil ?_
          exact PF.again (i + 1) ⟨by omega, hou.set.congr (fun j hj => fill_cell i j), hko.setc (Nat.le_refl _)⟩ ⟨rfl, rfl, rfl, rfl, rfl, rfl, trivial⟩ (by omega)
        · refine CF.exit ?_
          refine PF.thenExit ?_
          refine PF.thenExit ?_
          refine PF.blockHere ?_
          refine PF.next ?_
          refine CF.seq ?_
          refine CF.seq ?_
          refine CF.region ?_
          refine LF.step (OpOk.move rfl) ?_
          refine LF.step (OpOk.sub rfl rfl (by omega)) ?_
          refine LF.step (OpOk.assign rfl) ?_
          refine LF.nil ?_
          refine PF.next ?_
          refine CF.block ?_
          obtain rfl : n = i := by omega
          have hol := orderT_len (adjS n es) k n n
          refine CF.loop (ι := Nat) (fun m H6 => m ≤ n ∧ Rw H6 H1.size 3 n (fun x => .int .i64 (colT (adjS n es) k n ((orderT (adjS n es) k n n).drop m) x)) ∧ Kp H1.size H1 H6) (fun m => [(0, .int .i64 n), (2, .int .i64 k), (7, vt), (10, vg), (15, .slice (some ⟨H1.size, 0, none⟩) n n), (17, .int .i64 ((m : Int) - 1))]) (fun m => m) n ⟨by omega, hou.congr (fun i hi => by rw [List.drop_of_length_le (by omega)]; simp [colT, hi]), hko⟩ ⟨rfl, rfl, rfl, rfl, rfl, rfl, trivial⟩ ?_
          rintro m H6 ⟨hm, hou, hko⟩
          have hous := hou.sl hou.lt (show n * 1 ≤ n by omega) (by omega) (Nat.le_refl n)
          have hgs6 := hgs.kp hko
          have hkt6 : Kp Ht.size Ht H6 := hkp.trans (hko.mono hkp.1)
          obtain ⟨r, htr, hrr⟩ := hmt.kp hkt6
          refine CF.seq ?_
          refine CF.seq ?_
          refine CF.region ?_
          refine LF.step (OpOk.move rfl) ?_
          refine LF.step (OpOk.geq rfl rfl) ?_
          refine LF.nil ?_
          refine PF.next ?_
          refine CF.if rfl (fun hc9 => ?_) (fun hc9 => ?_)
          · refine CF.skip ?_
            refine PF.next ?_
            refine CF.seq ?_
            refine CF.block ?_
            refine CF.seq ?_
            refine CF.region ?_
            refine LF.step (OpOk.move rfl) ?_
            refine LF.step (OpOk.move rfl) ?_
            refine LF.step (OpOk.idx (i := m - 1) Try.underlying22 Try.sz3 hgs6 rfl rfl (by omega) (by omega)) ?_
            refine LF.step (OpOk.load Try.one3 rfl rfl (hgs6.at (by omega))) ?_
            refine LF.step (OpOk.assign rfl) ?_
            refine LF.nil ?_
            refine PF.next ?_
            refine CF.seq ?_
            have ha2 : (orderT (adjS n es) k n n).getD (m - 1) 0 < n := orderT_in (Nat.le_refl n) _ (by rw [List.getD_eq_getElem?_getD, List.getElem?_eq_getElem (by omega)]; exact List.getElem_mem _)
            have hdr : (orderT (adjS n es) k n n).drop (m - 1) = (orderT (adjS n es) k n n).getD (m - 1) 0 :: (orderT (adjS n es) k n n).drop m := by rw [List.drop_eq_getElem_cons (by omega), List.getD_eq_getElem?_getD, List.getElem?_eq_getElem (by omega), show m - 1 + 1 = m by omega]; rfl
            generalize (orderT (adjS n es) k n n).getD (m - 1) 0 = a at ha2 hdr ⊢
            refine CF.region ?_
            refine LF.step (OpOk.assign rfl) ?_
            refine LF.nil ?_
            refine PF.next ?_
            refine CF.block ?_
            refine CF.loop (ι := Nat) (fun c H7 => c ≤ k.toNat ∧ (∀ i : Nat, i < c → (!usedS (adjS n es) (colT (adjS n es) k n ((orderT (adjS n es) k n n).drop m)) a i n) = false) ∧ H6 = H7) (fun c => [(0, .int .i64 n), (2, .int .i64 k), (7, vt), (10, vg), (15, .slice (some ⟨H1.size, 0, none⟩) n n), (17, .int .i64 ((m : Int) - 1)), (18, .int .i64 (a : Nat)), (19, .int .i64 c)]) (fun c => k.toNat - c) 0 ⟨by omega, by intro i hi; omega, rfl⟩ ⟨rfl, rfl, rfl, rfl, rfl, rfl, rfl, rfl, trivial⟩ ?_
            rintro c H7 ⟨hc, hno, rfl⟩
            refine CF.seq ?_
            refine CF.seq ?_
            refine CF.region ?_
            refine LF.step (OpOk.move rfl) ?_
            refine LF.step (OpOk.move rfl) ?_
            refine LF.step (OpOk.lss rfl rfl) ?_
            refine LF.nil ?_
            refine PF.next ?_
            refine CF.if rfl (fun hc10 => ?_) (fun hc10 => ?_)
            · refine CF.skip ?_
              refine PF.next ?_
              refine CF.seq ?_
              refine CF.block ?_
              refine CF.seq ?_
              refine CF.region ?_
              refine LF.step (OpOk.assign rfl) ?_
              refine LF.nil ?_
              refine PF.next ?_
              refine CF.seq ?_
              refine CF.seq ?_
              refine CF.region ?_
              refine LF.step (OpOk.assign rfl) ?_
              refine LF.nil ?_
              refine PF.next ?_
              refine CF.block ?_
              refine CF.loop (ι := Nat) (fun b H8 => b ≤ n ∧ H6 = H8) (fun b => [(0, .int .i64 n), (2, .int .i64 k), (7, vt), (10, vg), (15, .slice (some ⟨H1.size, 0, none⟩) n n), (17, .int .i64 ((m : Int) - 1)), (18, .int .i64 (a : Nat)), (19, .int .i64 c), (20, .bool (usedS (adjS n es) (colT (adjS n es) k n ((orderT (adjS n es) k n n).drop m)) a c b)), (21, .int .i64 b)]) (fun b => n - b) 0 ⟨by omega, rfl⟩ ⟨rfl, rfl, rfl, rfl, rfl, rfl, rfl, rfl, rfl, rfl, trivial⟩ ?_
              rintro b H8 ⟨hb, rfl⟩
              refine CF.seq ?_
              refine CF.seq ?_
              refine CF.region ?_
              refine LF.step (OpOk.move rfl) ?_
              refine LF.step (OpOk.move rfl) ?_
              refine LF.step (OpOk.lss rfl rfl) ?_
              refine LF.nil ?_
              refine PF.next ?_
              refine CF.if rfl (fun hc11 => ?_) (fun hc11 => ?_)
              · refine CF.skip ?_
                refine PF.next ?_
                refine CF.seq ?_
                refine CF.block ?_
                refine CF.region ?_
                refine LF.step (OpOk.move rfl) ?_
                refine LF.step (OpOk.move rfl) ?_
                refine LF.gstep rfl rfl (.f _) (fun hg => OpOk.move rfl) ?_
                refine LF.gstep rfl rfl (.f _) (fun hg => OpOk.move rfl) ?_
                refine LF.gstep rfl rfl (.f _) (fun hg => OpOk.idx Try.underlying33 Try.sz36 htr (evg rfl hg) (evg rfl hg) rfl (by omega)) ?_
                refine LF.gstep rfl rfl (.f _) (fun hg => OpOk.load Try.one36 (evg rfl hg) rfl (htr.at (by omega))) ?_
                refine LF.gstep rfl rfl (.f _) (fun hg => OpOk.move rfl) ?_
                refine LF.gstep rfl rfl (.f _) (fun hg => OpOk.idx Try.underlying36 Try.sz4 (hrr a ha2) (evg rfl hg) (evg rfl hg) rfl (by omega)) ?_
                refine LF.gstep rfl rfl (.f _) (fun hg => OpOk.load Try.one4 (evg rfl hg) rfl ((hrr a ha2).at (by omega))) ?_
                refine LF.gstep rfl rfl (.f _) (fun hg => OpOk.move (evg rfl hg)) ?_
                refine LF.gstep rfl rfl (.gt _ _) (fun hg => OpOk.move rfl) ?_
                refine LF.gstep rfl rfl (.gt _ _) (fun hg => OpOk.move rfl) ?_
                refine LF.gstep rfl rfl (.gt _ _) (fun hg => OpOk.idx Try.underlying22 Try.sz3 hous (evg rfl hg) (evg rfl hg) rfl (by omega)) ?_
                refine LF.gstep rfl rfl (.gt _ _) (fun hg => OpOk.load Try.one3 (evg rfl hg) rfl (hous.at (by omega))) ?_
                refine LF.gstep rfl rfl (.gt _ _) (fun hg => OpOk.move rfl) ?_
                refine LF.gstep rfl rfl (.gt _ _) (fun hg => OpOk.eql (evg rfl hg) (evg rfl hg)) ?_
                refine LF.gstep rfl rfl (.f _) (fun hg => OpOk.pickAnd2 hg rfl rfl) ?_
                refine LF.step (OpOk.pickOr rfl rfl) ?_
                refine LF.step (OpOk.assign rfl) ?_
                refine LF.nil ?_
                refine PF.blockNormal ?_
                refine PF.next ?_
                refine CF.region ?_
                refine LF.step (OpOk.move rfl) ?_
                refine LF.step (OpOk.add rfl rfl (by omega)) ?_
                refine LF.step (OpOk.assign rfl) ?_
                refine LF.nil ?_
                exact PF.again (b + 1) ⟨by omega, rfl⟩ ⟨rfl, rfl, rfl, rfl, rfl, rfl, rfl, rfl, rfl, rfl, trivial⟩ (by omega)
              · refine CF.exit ?_
                refine PF.thenExit ?_
                refine PF.thenExit ?_
                refine PF.blockHere ?_
                refine PF.next ?_
                refine CF.seq ?_
                refine CF.region ?_
                refine LF.step (OpOk.move rfl) ?_
                refine LF.step (OpOk.not rfl) ?_
                refine LF.nil ?_
                refine PF.next ?_
                refine CF.if rfl (fun hc12 => ?_) (fun hc12 => ?_)
                · refine CF.seq ?_
                  refine CF.region ?_
                  refine LF.step (OpOk.move rfl) ?_
                  refine LF.step (OpOk.move rfl) ?_
                  refine LF.step (OpOk.move rfl) ?_
                  refine LF.step (OpOk.idx Try.underlying22 Try.sz3 hous rfl rfl rfl (by omega)) ?_
                  refine LF.chg0 (OpCh.store (b := H1.size) (i := 0 + a) Try.sz3 rfl rfl rfl hou (by omega)) ?_
                  rintro _ _ rfl
                  refine LF.nil ?_
                  refine PF.next ?_
                  refine CF.exit ?_
                  refine PF.blockOther ?_
                  refine PF.thenExit ?_
                  refine PF.thenExit ?_
                  refine PF.blockHere ?_
                  refine PF.blockNormal ?_
                  refine PF.next ?_
                  refine CF.region ?_
                  refine LF.step (OpOk.move rfl) ?_
                  refine LF.step (OpOk.sub rfl rfl (by omega)) ?_
                  refine LF.step (OpOk.assign rfl) ?_
                  refine LF.nil ?_
                  obtain rfl : n = b := by omega
                  exact PF.again (m - 1) ⟨by omega, hou.set.congr (fun x hx => by rw [hdr, colT_cons]; unfold paintS; rw [fstS_some (a := c) (by omega) (by simp [hc12]) hno]; by_cases e1 : x = a <;> simp [e1]), hko.setc (Nat.le_refl _)⟩ ⟨rfl, rfl, rfl, rfl, rfl, eqI (by omega), trivial⟩ (by omega)
                · refine CF.skip ?_
                  refine PF.blockNormal ?_
                  refine PF.next ?_
                  refine CF.region ?_
                  refine LF.step (OpOk.move rfl) ?_
                  refine LF.step (OpOk.add rfl rfl (by omega)) ?_
                  refine LF.step (OpOk.assign rfl) ?_
                  refine LF.nil ?_
                  obtain rfl : n = b := by omega
                  exact PF.again (c + 1) ⟨by omega, fun i hi => (by by_cases e1 : i = c; (· subst e1; simp [hc12]); exact hno i (by omega)), rfl⟩ ⟨rfl, rfl, rfl, rfl, rfl, rfl, rfl, rfl, trivial⟩ (by omega)
            · refine CF.exit ?_
              refine PF.thenExit ?_
              refine PF.thenExit ?_
              refine PF.blockHere ?_
              refine PF.blockNormal ?_
              refine PF.next ?_
              refine CF.region ?_
              refine LF.step (OpOk.move rfl) ?_
              refine LF.step (OpOk.sub rfl rfl (by omega)) ?_
              refine LF.step (OpOk.assign rfl) ?_
              refine LF.nil ?_
              obtain rfl : c = k.toNat := by omega
              exact PF.again (m - 1) ⟨by omega, hou.congr (fun x hx => by rw [hdr, colT_cons]; unfold paintS; rw [fstS_none hno]), hko⟩ ⟨rfl, rfl, rfl, rfl, rfl, eqI (by omega), trivial⟩ (by omega)
          · refine CF.exit ?_
            refine PF.thenExit ?_
            refine PF.thenExit ?_
            refine PF.blockHere ?_
            refine PF.next ?_
            refine CF.seq ?_
            refine CF.region ?_
            refine LF.step (OpOk.move rfl) ?_
            refine LF.step (OpOk.assign rfl) ?_
            refine LF.nil ?_
            refine PF.next ?_
            refine CF.ret ?_
            obtain rfl : m = 0 := by omega
            exact PF.ret1 rfl rfl ⟨Rw.ns hou (by omega), hkt.trans (hkt6.mono hkt.1)⟩

end Go.Proofs.Ytkhphpobccnodaa
