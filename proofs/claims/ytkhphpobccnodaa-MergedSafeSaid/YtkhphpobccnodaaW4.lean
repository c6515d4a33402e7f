/- Walks of the functions of chapter 14 that the laws on graphs reach, fourth part. Conditions: each contract names its own. -/
import Derived.Test.YtkhphpobccnodaaFh
namespace Go.Proofs.Ytkhphpobccnodaa
open Go.JE


theorem pick_ct {H : Heap} {b0 b1 b2 b3 Bd Bg : Nat} {vg vd : Value} {n : Nat} {k : Int} {f : Nat → Nat → Bool} {g : Nat → Bool} (hn : n ≤ 8192) (h0 : hc H b0 0 = some (.int .i64 n)) (h1 : hc H b1 0 = some vg) (h2 : hc H b2 0 = some vd) (h3 : hc H b3 0 = some (.int .i64 k))
    (hg : Sl H Bg vg 1 n (fun a => .bool (!g a))) (hd : Sl H Bd vd 1 n (fun a => .int .i64 (degS f g a n : Nat))) :
    Ct Try.prog 19 #[.pointer (some ⟨b0, 0, none⟩), .pointer (some ⟨b1, 0, none⟩), .pointer (some ⟨b2, 0, none⟩), .pointer (some ⟨b3, 0, none⟩)] H (fun v H' => v = .int .i64 (pickS f g n k) ∧ H' = H) := by
  refine Ct.enter (args := [.pointer (some ⟨b0, 0, none⟩), .pointer (some ⟨b1, 0, none⟩), .pointer (some ⟨b2, 0, none⟩), .pointer (some ⟨b3, 0, none⟩)]) Try.func19 rfl rfl rfl (fun w0 hw0 => ?_)
  refine CF.seq ?_
  refine CF.region ?_
  refine LF.step (OpOk.assign rfl) ?_
  refine LF.nil ?_
  refine PF.next ?_
  refine CF.seq ?_
  refine CF.region ?_
  refine LF.step (OpOk.assign rfl) ?_
  refine LF.nil ?_
  refine PF.next ?_
  refine CF.seq ?_
  refine CF.seq ?_
  refine CF.region ?_
  refine LF.step (OpOk.load Try.one3 rfl rfl h0) ?_
  refine LF.step (OpOk.move rfl) ?_
  refine LF.nil ?_
  refine PF.next ?_
  refine CF.block ?_
  refine CF.loop (ι := Nat) (fun a H1 => a ≤ n ∧ (∀ i, i < a → (g i && decide ((degS f g i n : Int) < k)) = false) ∧ H = H1) (fun a => [(1, .pointer (some ⟨b1, 0, none⟩)), (2, .pointer (some ⟨b2, 0, none⟩)), (3, .pointer (some ⟨b3, 0, none⟩)), (5, .int .i64 (bestS f g n a).1), (7, .int .i64 n), (8, .int .i64 a)]) (fun a => n - a) 0 ⟨by omega, by intro i hi; omega, rfl⟩ ⟨rfl, rfl, rfl, rfl, rfl, rfl, trivial⟩ ?_
  rintro a H1 ⟨ha, hno, rfl⟩
  refine CF.seq ?_
  refine CF.region ?_
  refine LF.step (OpOk.lss rfl rfl) ?_
  refine LF.nil ?_
  refine PF.next ?_
  refine CF.seq ?_
  refine CF.if rfl (fun hc1 => ?_) (fun hc1 => ?_)
  · refine CF.skip ?_
    refine PF.next ?_
    refine CF.seq ?_
    refine CF.block ?_
    refine CF.seq ?_
    refine CF.region ?_
    refine LF.step (OpOk.move rfl) ?_
    refine LF.step (OpOk.assign rfl) ?_
    refine LF.nil ?_
    refine PF.next ?_
    refine CF.block ?_
    refine CF.seq ?_
    refine CF.region ?_
    refine LF.step (OpOk.load Try.one36 rfl rfl h1) ?_
    refine LF.step (OpOk.move rfl) ?_
    refine LF.step (OpOk.idx (i := a) Try.underlying36 Try.sz4 hg rfl rfl rfl (by omega)) ?_
    refine LF.step (OpOk.load Try.one4 rfl rfl (hg.at (by omega))) ?_
    refine LF.step (OpOk.assign rfl) ?_
    refine LF.nil ?_
    refine PF.next ?_
    refine CF.if rfl (fun hc2 => ?_) (fun hc2 => ?_)
    · refine CF.skip ?_
      refine PF.blockNormal ?_
      refine PF.blockNormal ?_
      refine PF.next ?_
      refine CF.region ?_
      refine LF.step (OpOk.add rfl rfl (by omega)) ?_
      refine LF.step (OpOk.move rfl) ?_
      refine LF.nil ?_
      exact PF.again (a + 1) ⟨by omega, fun i hi => (by by_cases e1 : i = a; (· subst e1; simp [hc2]); exact hno i (by omega)), rfl⟩ ⟨rfl, rfl, rfl, eqI (by simp [bestS, hc2]), rfl, rfl, trivial⟩ (by omega)
    · refine CF.seq ?_
      refine CF.still Try.mixed (by kernel_rfl) ?_
      refine LS.step (OpOk.load Try.one22 rfl rfl h2) ?_
      refine LS.step (OpOk.move rfl) ?_
      refine LS.step (OpOk.idx (i := a) Try.underlying22 Try.sz3 hd rfl rfl rfl (by omega)) ?_
      refine LS.step (OpOk.load Try.one3 rfl rfl (hd.at (by omega))) ?_
      refine LS.step (OpOk.load Try.one3 rfl rfl h3) ?_
      refine LS.step (OpOk.lss rfl rfl) ?_
      refine LS.step (OpOk.assign rfl) ?_
      refine LS.done ?_
      refine PF.next ?_
      refine CF.if rfl (fun hc3 => ?_) (fun hc3 => ?_)
      · refine CF.seq ?_
        refine CF.region ?_
        refine LF.step (OpOk.move rfl) ?_
        refine LF.step (OpOk.assign rfl) ?_
        refine LF.nil ?_
        refine PF.next ?_
        refine CF.ret ?_
        refine PF.blockRet ?_
        refine PF.blockRet ?_
        refine PF.thenRet ?_
        refine PF.thenRet ?_
        refine PF.blockRet ?_
        refine PF.thenRet ?_
        exact PF.ret1 rfl rfl ⟨congrArg _ (by unfold pickS; rw [fstS_some (a := a) (by omega) (by simp only [Bool.and_eq_true, decide_eq_true_eq]; exact ⟨hc2, hc3⟩) hno]), rfl⟩
      · refine CF.seq ?_
        have hbp : (!decide ((bestS f g n a).1 < 0)) = true → 0 ≤ (bestS f g n a).1 ∧ (bestS f g n a).1.toNat < n := fun h9 => by (have h8 : ¬ (bestS f g n a).1 < 0 := by simpa using h9); have := (bestS_pos h8).1; omega
        refine CF.still Try.mixed (by kernel_rfl) ?_
        refine LS.step (OpOk.move rfl) ?_
        refine LS.step (OpOk.lss rfl rfl) ?_
        refine LS.step (OpOk.move rfl) ?_
        refine LS.gstep rfl rfl (.f _) (fun hg => OpOk.load Try.one22 rfl rfl h2) ?_
        refine LS.gstep rfl rfl (.f _) (fun hg => OpOk.move rfl) ?_
        refine LS.gstep rfl rfl (.f _) (fun hg => OpOk.idx (i := a) Try.underlying22 Try.sz3 hd (evg rfl hg) (evg rfl hg) rfl (by omega)) ?_
        refine LS.gstep rfl rfl (.f _) (fun hg => OpOk.load Try.one3 (evg rfl hg) rfl (hd.at (by omega))) ?_
        refine LS.gstep rfl rfl (.f _) (fun hg => OpOk.load Try.one22 rfl rfl h2) ?_
        refine LS.gstep rfl rfl (.f _) (fun hg => OpOk.move rfl) ?_
        refine LS.gstep rfl rfl (.f _) (fun hg => OpOk.idx (i := (bestS f g n a).1.toNat) Try.underlying22 Try.sz3 hd (evg rfl hg) (evg rfl hg) (by have := hbp hg; omega) (by have := hbp hg; omega)) ?_
        refine LS.gstep rfl rfl (.f _) (fun hg => OpOk.load Try.one3 (evg rfl hg) rfl (hd.at (by have := hbp hg; omega))) ?_
        refine LS.gstep rfl rfl (.f _) (fun hg => OpOk.gtr (evg rfl hg) (evg rfl hg)) ?_
        refine LS.step (OpOk.pickOr rfl rfl) ?_
        refine LS.step (OpOk.assign rfl) ?_
        refine LS.done ?_
        refine PF.next ?_
        refine CF.if rfl (fun hc4 => ?_) (fun hc4 => ?_)
        · refine CF.region ?_
          refine LF.step (OpOk.move rfl) ?_
          refine LF.step (OpOk.assign rfl) ?_
          refine LF.nil ?_
          refine PF.blockNormal ?_
          refine PF.blockNormal ?_
          refine PF.next ?_
          refine CF.region ?_
          refine LF.step (OpOk.add rfl rfl (by omega)) ?_
          refine LF.step (OpOk.move rfl) ?_
          refine LF.nil ?_
          have hb9 : (bestS f g n a).2 < (degS f g a n : Int) := by (rcases hc4 with h9 | h9; (· rw [bestS_neg h9]; omega); by_cases h8 : (bestS f g n a).1 < 0; (· rw [bestS_neg h8]; omega); rw [(bestS_pos h8).2]; exact h9)
          exact PF.again (a + 1) ⟨by omega, fun i hi => (by by_cases e1 : i = a; (· subst e1; simp; intro _; omega); exact hno i (by omega)), rfl⟩ ⟨rfl, rfl, rfl, eqI (by rw [bestS, if_pos ⟨hc2, hb9⟩]), rfl, rfl, trivial⟩ (by omega)
        · refine CF.skip ?_
          refine PF.blockNormal ?_
          refine PF.blockNormal ?_
          refine PF.next ?_
          refine CF.region ?_
          refine LF.step (OpOk.add rfl rfl (by omega)) ?_
          refine LF.step (OpOk.move rfl) ?_
          refine LF.nil ?_
          have hb9 : ¬ (bestS f g n a).2 < (degS f g a n : Int) := by rw [(bestS_pos hc4.1).2]; exact hc4.2
          exact PF.again (a + 1) ⟨by omega, fun i hi => (by by_cases e1 : i = a; (· subst e1; simp; intro _; omega); exact hno i (by omega)), rfl⟩ ⟨rfl, rfl, rfl, eqI (by rw [bestS, if_neg (fun h => hb9 h.2)]), rfl, rfl, trivial⟩ (by omega)
  · refine CF.exit ?_
    refine PF.thenExit ?_
    refine PF.thenExit ?_
    refine PF.blockHere ?_
    refine PF.next ?_
    refine CF.seq ?_
    refine CF.region ?_
    refine LF.step (OpOk.move rfl) ?_
    refine LF.step (OpOk.assign rfl) ?_
    refine LF.nil ?_
    refine PF.next ?_
    refine CF.ret ?_
    obtain rfl : n = a := by omega
    exact PF.ret1 rfl rfl ⟨congrArg _ (by unfold pickS; rw [fstS_none hno]), rfl⟩


theorem backward_ct {H : Heap} {v0 : Value} (hv : v0.cells = #[v0]) :
    Ct Try.prog 20 #[v0] H (fun v H' => v = .func (.func 30) #[] #[.pointer (some ⟨H.size, 0, none⟩)] ∧ H' = H.push (.cells #[v0] 22)) := by
  refine Ct.enter (args := [v0]) Try.func20 rfl rfl rfl (fun w0 hw0 => ?_)
  refine CF.seq ?_
  refine CF.region ?_
  refine LF.chg (OpCh.box rfl) ?_
  rw [hv]
  rintro _ _ ⟨rfl, rfl⟩
  refine LF.step (OpOk.assign rfl) ?_
  refine LF.nil ?_
  refine PF.next ?_
  refine CF.seq ?_
  refine CF.region ?_
  refine LF.step (OpOk.makeFunc1 rfl) ?_
  refine LF.step (OpOk.assign rfl) ?_
  refine LF.nil ?_
  refine PF.next ?_
  refine CF.ret ?_
  exact PF.ret1 rfl rfl ⟨rfl, rfl⟩


theorem colours_ct {H : Heap} {B : Nat} {vq : Value} {es : List (Int × Int)} (n : Nat) (hn : n ≤ 8192) (k : Int) (hk8 : k ≤ 8192) (hq : Ps H B vq es) :
    Ct Try.prog 11 #[.int .i64 n, vq, .int .i64 k] H (fun v H' => Ns H' H'.size v (coloursS (adjS n es) n k) ∧ Kp H.size H H') := by
  refine Ct.enterM (args := [.int .i64 n, vq, .int .i64 k]) Try.func11 rfl rfl rfl (fun w0 hw0 => ?_)
  refine CF.seq ?_
  refine CF.region ?_
  refine LF.chg (OpCh.box rfl) ?_
  rintro _ _ ⟨rfl, rfl⟩
  refine LF.chg (OpCh.box rfl) ?_
  rintro _ _ ⟨rfl, rfl⟩
  refine LF.step (OpOk.assign rfl) ?_
  refine LF.nil ?_
  refine PF.next ?_
  refine CF.seq ?_
  refine CF.seq ?_
  refine CF.region ?_
  rw [Array.size_push]
  have hbn : Rw ((H.push (.cells (Value.int .i64 n).cells 3)).push (.cells (Value.int .i64 k).cells 3)) H.size 3 1 (fun _ => .int .i64 n) := Rw.new1.push _
  have hbk : Rw ((H.push (.cells (Value.int .i64 n).cells 3)).push (.cells (Value.int .i64 k).cells 3)) (H.size + 1) 3 1 (fun _ => .int .i64 k) := by have := Rw.new1 (H := H.push (.cells (Value.int .i64 n).cells 3)) (T := 3) (v := .int .i64 k); rwa [Array.size_push] at this
  have hkb : Kp H.size H ((H.push (.cells (Value.int .i64 n).cells 3)).push (.cells (Value.int .i64 k).cells 3)) := ((Kp.refl _ _).push (Nat.le_refl _) _).push (Nat.le_refl _) _
  generalize (H.push (.cells (Value.int .i64 n).cells 3)).push (.cells (Value.int .i64 k).cells 3) = Hb at hbn hbk hkb ⊢
  have hb1 := hbk.lt
  refine LF.step (OpOk.load Try.one3 rfl rfl (hbn.cell (i := 0) (by omega))) ?_
  refine LF.step (OpOk.lss rfl rfl) ?_
  refine LF.step (OpOk.move rfl) ?_
  refine LF.gstep rfl rfl (.f _) (fun hg => OpOk.load Try.one3 rfl rfl (hbn.cell (i := 0) (by omega))) ?_
  refine LF.gstep rfl rfl (.f _) (fun hg => OpOk.gtr (evg rfl hg) rfl) ?_
  refine LF.step (OpOk.pickOr rfl rfl) ?_
  refine LF.nil ?_
  refine PF.next ?_
  refine CF.if rfl (fun hc1 => ?_) (fun hc1 => ?_)
  · omega
  · refine CF.skip ?_
    refine PF.next ?_
    refine CF.seq ?_
    refine CF.region ?_
    refine LF.step (OpOk.load Try.one3 rfl rfl (hbn.cell (i := 0) (by omega))) ?_
    refine LF.step (OpOk.move rfl) ?_
    refine LF.call (OpCall.fn Try.ent18 rfl rfl) (neighbours_ct n (by omega) (Sl.kp (Sl.up hq) hkb)) ?_
    rintro _ Hn ⟨gb, r, rfl, hnw, hkn⟩
    have hsn := hnw.out.lt
    have hkn1 := hkn.1
    refine LF.chg (OpCh.alloc Try.zero46) ?_
    rintro _ _ ⟨rfl, rfl⟩
    refine LF.chg0 (OpCh.store (b := Hn.size) (i := 0) Try.sz46 rfl rfl rfl Rw.new (by decide)) ?_
    rintro _ _ rfl
    obtain ⟨hbg, hkg, hsg⟩ := boxNew (H := Hn) (T := 46) (z := .slice none 0 0) (v := .slice (some ⟨gb, 0, none⟩) n n) rfl
    generalize setc (Hn.push (.cells (Value.slice none 0 0).cells 46)) Hn.size 0 (.slice (some ⟨gb, 0, none⟩) n n) = Hg at hbg hkg hsg ⊢
    have hbn1 := (hbn.kp hkn hbn.lt).kp hkg (by omega)
    refine LF.nil ?_
    refine PF.next ?_
    refine CF.seq ?_
    refine CF.region ?_
    refine LF.step (OpOk.load Try.one3 rfl rfl (hbn1.cell (i := 0) (by omega))) ?_
    refine LF.chg (OpCh.make Try.underlying22 Try.info3 rfl rfl rfl (by omega) (by omega)) ?_
    rintro _ Hd1 ⟨rfl, hszd, holdd, hrwd⟩
    have hkd1 : Kp Hg.size Hg Hd1 := ⟨by omega, holdd⟩
    refine LF.chg (OpCh.alloc Try.zero22) ?_
    rintro _ _ ⟨rfl, rfl⟩
    refine LF.chg0 (OpCh.store (b := Hd1.size) (i := 0) Try.sz22 rfl rfl rfl Rw.new (by decide)) ?_
    rintro _ _ rfl
    obtain ⟨hbd, hkd, hsd⟩ := boxNew (H := Hd1) (T := 22) (z := .slice none 0 0) (v := .slice (some ⟨Hg.size, 0, none⟩) n n) rfl
    generalize setc (Hd1.push (.cells (Value.slice none 0 0).cells 22)) Hd1.size 0 (.slice (some ⟨Hg.size, 0, none⟩) n n) = Hd at hbd hkd hsd ⊢
    have hbn2 := (hbn1.kp hkd1 hbn1.lt).kp hkd (by have := hbn1.lt; omega)
    refine LF.nil ?_
    refine PF.next ?_
    refine CF.seq ?_
    refine CF.region ?_
    refine LF.step (OpOk.load Try.one3 rfl rfl (hbn2.cell (i := 0) (by omega))) ?_
    refine LF.chg (OpCh.make Try.underlying22 Try.info3 rfl rfl rfl (by omega) (by omega)) ?_
    rintro _ Ho1 ⟨rfl, hszo, holdo, hrwo⟩
    have hko1 : Kp Hd.size Hd Ho1 := ⟨by omega, holdo⟩
    refine LF.chg (OpCh.alloc Try.zero22) ?_
    rintro _ _ ⟨rfl, rfl⟩
    refine LF.chg0 (OpCh.store (b := Ho1.size) (i := 0) Try.sz22 rfl rfl rfl Rw.new (by decide)) ?_
    rintro _ _ rfl
    obtain ⟨hbo, hko, hso⟩ := boxNew (H := Ho1) (T := 22) (z := .slice none 0 0) (v := .slice (some ⟨Hd.size, 0, none⟩) n n) rfl
    generalize setc (Ho1.push (.cells (Value.slice none 0 0).cells 22)) Ho1.size 0 (.slice (some ⟨Hd.size, 0, none⟩) n n) = Ho at hbo hko hso ⊢
    have hbn3 := (hbn2.kp hko1 hbn2.lt).kp hko (by have := hbn2.lt; omega)
    refine LF.nil ?_
    refine PF.next ?_
    refine CF.seq ?_
    refine CF.region ?_
    refine LF.step (OpOk.load Try.one3 rfl rfl (hbn3.cell (i := 0) (by omega))) ?_
    refine LF.chg (OpCh.make Try.underlying36 Try.info4 rfl rfl rfl (by omega) (by omega)) ?_
    rintro _ Hq1 ⟨rfl, hszq, holdq, hrwq⟩
    have hkq1 : Kp Ho.size Ho Hq1 := ⟨by omega, holdq⟩
    refine LF.chg (OpCh.alloc Try.zero36) ?_
    rintro _ _ ⟨rfl, rfl⟩
    refine LF.chg0 (OpCh.store (b := Hq1.size) (i := 0) Try.sz36 rfl rfl rfl Rw.new (by decide)) ?_
    rintro _ _ rfl
    obtain ⟨hbq, hkq, hsq⟩ := boxNew (H := Hq1) (T := 36) (z := .slice none 0 0) (v := .slice (some ⟨Ho.size, 0, none⟩) n n) rfl
    generalize setc (Hq1.push (.cells (Value.slice none 0 0).cells 36)) Hq1.size 0 (.slice (some ⟨Ho.size, 0, none⟩) n n) = Hq at hbq hkq hsq ⊢
    have hbn4 := (hbn3.kp hkq1 hbn3.lt).kp hkq (by have := hbn3.lt; omega)
    refine LF.nil ?_
    refine PF.next ?_
    refine CF.seq ?_
    refine CF.seq ?_
    refine CF.region ?_
    refine LF.step (OpOk.load Try.one3 rfl rfl (hbn4.cell (i := 0) (by omega))) ?_
    refine LF.step (OpOk.move rfl) ?_
    refine LF.nil ?_
    refine PF.next ?_
    refine CF.block ?_
    have k1 := hkg
    have k2 := (hkd1.trans (hkd.mono (by omega)))
    have k3 := (hko1.trans (hko.mono (by omega)))
    have k4 := (hkq1.trans (hkq.mono (by omega)))
    have k34 := k3.trans (k4.mono k3.1)
    have k234 := k2.trans (k34.mono k2.1)
    have k1234 := k1.trans (k234.mono k1.1)
    have hst : CS Hq H.size ⟨H.size, H.size + 1, Hn.size, Hd1.size, Ho1.size, Hq1.size, gb, Hg.size, Hd.size, Ho.size⟩ n k r (adjS n es) (fun _ => 0) (fun _ => 0) (fun _ => false) :=
      ⟨hbn4, ((hbk.kp hkn hbk.lt).kp k1234 (by omega)), hbg.kp k234 (by omega), (hnw.base hkb.1).kp k1234, hbd.kp (k34.mono (by omega : Hd.size ≤ Hd.size)) (by omega), hbo.kp (k4.mono (Nat.le_refl _)) (by omega), hbq, (hrwd.kp hkd (by omega)).kp k34 (by omega), (hrwo.kp hko (by omega)).kp k4 (by omega), hrwq.kp hkq (by omega), by have := hkb.1; refine ⟨?_, ?_, ?_, ?_, ?_, ?_, ?_, ?_⟩ <;> simp only <;> omega⟩
    have hkH : Kp H.size H Hq := (hkb.trans (hkn.mono hkb.1)).trans (k1234.mono (by have := hkb.1; omega))
    refine CF.loop (ι := Bl × Nat) (fun p H1 => p.2 ≤ n ∧ CS H1 H.size p.1 n k r (adjS n es) (fun x => if x < p.2 then ((degS (adjS n es) (fun _ => true) x n : Nat) : Int) else 0) (fun x => if x < p.2 then -1 else 0) (fun _ => false) ∧ Kp H.size H H1) (fun p => [(3, .pointer (some ⟨p.1.bn, 0, none⟩)), (5, .pointer (some ⟨p.1.bk, 0, none⟩)), (7, .pointer (some ⟨p.1.bg, 0, none⟩)), (8, .pointer (some ⟨p.1.bd, 0, none⟩)), (9, .pointer (some ⟨p.1.bo, 0, none⟩)), (10, .pointer (some ⟨p.1.bq, 0, none⟩)), (36, .int .i64 n), (37, .int .i64 p.2)]) (fun p => n - p.2) (⟨H.size, H.size + 1, Hn.size, Hd1.size, Ho1.size, Hq1.size, gb, Hg.size, Hd.size, Ho.size⟩, 0) ⟨by simp only; omega, hst.congr (fun a ha => by simp) (fun a ha => by simp) (fun a ha => rfl), hkH⟩ ⟨rfl, rfl, rfl, rfl, rfl, rfl, rfl, rfl, trivial⟩ ?_
    rintro ⟨z, a⟩ H1 ⟨ha, hcs, hkp⟩
    simp only at ha hcs
    dsimp only
    refine CF.seq ?_
    refine CF.region ?_
    refine LF.step (OpOk.lss rfl rfl) ?_
    refine LF.nil ?_
    refine PF.next ?_
    refine CF.seq ?_
    refine CF.if rfl (fun hc2 => ?_) (fun hc2 => ?_)
    · refine CF.skip ?_
      refine PF.next ?_
      refine CF.seq ?_
      refine CF.block ?_
      refine CF.seq ?_
      refine CF.region ?_
      refine LF.step (OpOk.move rfl) ?_
      refine LF.step (OpOk.assign rfl) ?_
      refine LF.nil ?_
      refine PF.next ?_
      refine CF.any (fun H' => CE H' H.size z n k r (adjS n es) (fun _ => false)) Try.mixed ?_
      refine AF.take 0 rfl (by kernel_rfl) (by kernel_rfl) (by kernel_rfl) hcs.ce (fun H9 hS9 => OpOk.load Try.one22 rfl rfl hS9.bd) ?_
      refine AF.take 1 rfl (by kernel_rfl) (by kernel_rfl) (by kernel_rfl) hcs.ce (fun H9 hS9 => OpOk.move rfl) ?_
      refine AF.take 2 rfl (by kernel_rfl) (by kernel_rfl) (by kernel_rfl) hcs.ce (fun H9 hS9 => OpOk.load Try.one22 rfl rfl hS9.bo) ?_
      refine AF.take 3 rfl (by kernel_rfl) (by kernel_rfl) (by kernel_rfl) hcs.ce (fun H9 hS9 => OpOk.move rfl) ?_
      refine AF.take 4 rfl (by kernel_rfl) (by kernel_rfl) (by kernel_rfl) hcs.ce (fun H9 hS9 => OpOk.load Try.one46 rfl rfl hS9.bg) ?_
      refine AF.take 5 rfl (by kernel_rfl) (by kernel_rfl) (by kernel_rfl) hcs.ce (fun H9 hS9 => OpOk.move rfl) ?_
      refine AF.take 6 rfl (by kernel_rfl) (by kernel_rfl) (by kernel_rfl) hcs.ce (fun H9 hS9 => OpOk.idx (i := a) Try.underlying46 Try.sz35 (hS9.sg hn) rfl rfl rfl (by omega)) ?_
      refine AF.take 7 rfl (by kernel_rfl) (by kernel_rfl) (by kernel_rfl) hcs.ce (fun H9 hS9 => OpOk.load Try.one35 rfl rfl ((hS9.sg hn).at (i := a) (by omega))) ?_
      refine AF.take 8 rfl (by kernel_rfl) (by kernel_rfl) (by kernel_rfl) hcs.ce (fun H9 hS9 => len_ad (hS9.ad (by omega)) rfl) ?_
      refine AF.take 9 rfl (by kernel_rfl) (by kernel_rfl) (by kernel_rfl) hcs.ce (fun H9 hS9 => OpOk.idxE (i := a) Try.underlying22 Try.sz3 (hS9.sd hn) rfl rfl rfl (by omega)) ?_
      refine AF.one 10 (by kernel_rfl) (AF.next0 10 rfl (OpCh.store (b := z.d) (i := 0 + a) Try.sz3 rfl rfl rfl hcs.rd (by omega)) (by rintro _ _ rfl; exact hcs.setD.ce) ?_)
      rintro _ _ rfl
      have hcs1 := hcs.setD (a := 0 + a) (v := (degS (adjS n es) (fun _ => true) a n : Nat))
      refine AF.take 11 rfl (by kernel_rfl) (by kernel_rfl) (by kernel_rfl) hcs1.ce (fun H9 hS9 => OpOk.idxE (i := a) Try.underlying22 Try.sz3 (hS9.so hn) rfl rfl rfl (by omega)) ?_
      refine AF.one 12 (by kernel_rfl) (AF.next0 12 rfl (OpCh.store (b := z.o) (i := 0 + a) Try.sz3 rfl rfl rfl hcs1.ro (by omega)) (by rintro _ _ rfl; exact hcs1.setO.ce) ?_)
      rintro _ _ rfl
      have hcs2 := hcs1.setO (a := 0 + a) (v := -1)
      refine AF.done (by kernel_rfl) ?_
      refine PF.blockNormal ?_
      refine PF.next ?_
      refine CF.region ?_
      refine LF.step (OpOk.add rfl rfl (by omega)) ?_
      refine LF.step (OpOk.move rfl) ?_
      refine LF.nil ?_
      refine PF.again (z, a + 1) ⟨by simp only; omega, hcs2.congr (fun x hx => ?_) (fun x hx => ?_) (fun x hx => rfl), ?_⟩ ⟨rfl, rfl, rfl, rfl, rfl, rfl, rfl, rfl, trivial⟩ (by simp only; omega)
      · by_cases e1 : x = 0 + a
        · subst e1; simp
        · rw [if_neg e1]; by_cases e2 : x < a
          · rw [if_pos e2, if_pos (show x < a + 1 by omega)]
          · rw [if_neg e2, if_neg (show ¬ x < a + 1 by omega)]
      · by_cases e1 : x = 0 + a
        · subst e1; simp
        · rw [if_neg e1]; by_cases e2 : x < a
          · rw [if_pos e2, if_pos (show x < a + 1 by omega)]
          · rw [if_neg e2, if_neg (show ¬ x < a + 1 by omega)]
      · have := hcs.ord; exact (hkp.setc (by omega)).setc (by omega)
    · refine CF.exit ?_
      refine PF.thenExit ?_
      refine PF.thenExit ?_
      refine PF.blockHere ?_
      refine PF.next ?_
      refine CF.seq ?_
      refine CF.region ?_
      refine LF.step (OpOk.makeFunc4 rfl rfl rfl rfl) ?_
      refine LF.step (OpOk.assign rfl) ?_
      refine LF.nil ?_
      refine PF.next ?_
      refine CF.seq ?_
      refine CF.region ?_
      refine LF.step (OpOk.assign rfl) ?_
      refine LF.nil ?_
      refine PF.next ?_
      refine CF.seq ?_
      refine CF.seq ?_
      refine CF.region ?_
      refine LF.step (OpOk.load Try.one3 rfl rfl (hcs.hn.cell (i := 0) (by omega))) ?_
      refine LF.step (OpOk.move rfl) ?_
      refine LF.nil ?_
      refine PF.next ?_
      refine CF.block ?_
      obtain rfl : n = a := by omega
      obtain ⟨Bz, hBz⟩ : ∃ Bz, Bz = H1.size := ⟨_, rfl⟩
      have hlt := hcs.lt
      rw [← hBz] at hlt
      obtain ⟨z1, z2, z3, z4, z5, z6, z7, z8, z9, z10⟩ := hlt.bs
      have hBH : H.size ≤ Bz := by rw [hBz]; exact hkp.1
      have hg0 : thereT (adjS n es) k n 0 = (fun _ => true) := funext fun a => by simp [thereT, orderT]
      refine CF.loop (ι := Nat × Value) (fun p H1 => p.1 ≤ n ∧ CS H1 H.size z n k r (adjS n es) (fun x => ((degS (adjS n es) (thereT (adjS n es) k n p.1) x n : Nat) : Int)) (fun _ => -1) (fun x => !thereT (adjS n es) k n p.1 x) ∧ Gr H1 Bz 3 1 p.2 p.1 ((orderT (adjS n es) k n p.1).map fun a : Nat => .int .i64 (a : Int)) ∧ Kp H.size H H1 ∧ Bz ≤ H1.size) (fun p => [(5, .pointer (some ⟨z.bk, 0, none⟩)), (7, .pointer (some ⟨z.bg, 0, none⟩)), (8, .pointer (some ⟨z.bd, 0, none⟩)), (9, .pointer (some ⟨z.bo, 0, none⟩)), (10, .pointer (some ⟨z.bq, 0, none⟩)), (12, .func (.func 19) #[] #[.pointer (some ⟨z.bn, 0, none⟩), .pointer (some ⟨z.bq, 0, none⟩), .pointer (some ⟨z.bd, 0, none⟩), .pointer (some ⟨z.bk, 0, none⟩)]), (13, p.2), (53, .int .i64 n), (54, .int .i64 p.1)]) (fun p => n - p.1) (0, .slice none 0 0) ⟨by simp only; omega, hcs.congr (fun a ha => by simp only [if_pos ha, hg0]) (fun a ha => by simp only [if_pos ha]) (fun a ha => by simp [hg0]), Gr.nil _ _ _, hkp, by omega⟩ ⟨rfl, rfl, rfl, rfl, rfl, rfl, rfl, rfl, rfl, trivial⟩ ?_
      clear hcs hkp hBz
      rintro ⟨j, vg⟩ H1 ⟨hj, hcs, hgr, hkp, hBH1⟩
      simp only at hj hcs hgr
      dsimp only
      have hgne : ∀ b, b < Bz → vg.ownBlock ≠ some b := fun b hb e1 => by have := (hgr.blk b e1).1; omega
      have hord := hcs.ord
      refine CF.seq ?_
      refine CF.region ?_
      refine LF.step (OpOk.lss rfl rfl) ?_
      refine LF.nil ?_
      refine PF.next ?_
      refine CF.seq ?_
      refine CF.if rfl (fun hc3 => ?_) (fun hc3 => ?_)
      · refine CF.skip ?_
        refine PF.next ?_
        refine CF.seq ?_
        refine CF.block ?_
        refine CF.seq ?_
        refine CF.region ?_
        refine LF.step (OpOk.move rfl) ?_
        refine LF.call (OpCall.fnc Try.ent19 rfl rfl) (pick_ct hn (hcs.hn.cell (i := 0) (by omega)) (hcs.hq.cell (i := 0) (by omega)) (hcs.hd.cell (i := 0) (by omega)) (hcs.hk.cell (i := 0) (by omega)) (hcs.sq hn) (hcs.sd hn)) ?_
        rintro _ H9 ⟨rfl, h9⟩
        obtain rfl : H1 = H9 := h9.symm
        obtain ⟨p, hp, hpn, hpm⟩ := orderT_pick (f := (adjS n es)) (k := k) (show j < n by omega)
        refine LF.step (OpOk.assign rfl) ?_
        refine LF.nil ?_
        refine PF.next ?_
        refine CF.seq ?_
        refine CF.region ?_
        refine LF.step (OpOk.load Try.one36 rfl rfl (hcs.hq.cell (i := 0) (by omega))) ?_
        refine LF.step (OpOk.move rfl) ?_
        refine LF.step (OpOk.idx (i := p) Try.underlying36 Try.sz4 (hcs.sq hn) rfl rfl hp hpn) ?_
        refine LF.chg0 (OpCh.store (b := z.q) (i := 0 + p) Try.sz4 rfl rfl rfl hcs.rq (by omega)) ?_
        rintro _ _ rfl
        have hcs2 := hcs.setQ (a := 0 + p) (v := true)
        have hgr2 := hgr.setOther (b := z.q) (i := 0 + p) (u := .bool true) (hgne z.q (by omega))
        have hkp2 := hkp.setc (b := z.q) (i := 0 + p) (v := .bool true) (by have := hcs.ord; omega)
        have hsz2 : (setc H1 z.q (0 + p) (.bool true)).size = H1.size := size_setc
        refine LF.nil ?_
        refine PF.next ?_
        refine CF.seq ?_
        refine CF.region ?_
        refine LF.step (OpOk.move rfl) ?_
        refine LF.step (OpOk.move rfl) ?_
        refine LF.app Try.underlying22 Try.info3 rfl (by decide) (by decide) rfl rfl rfl (by simp [Value.oneCell']) rfl hgr2 (by omega) (by omega) (by omega) ?_
        intro v2 H3 hg2 hgb2 hnn2 hob2
        rw [hp] at hg2
        have hg3 : Gr H3 Bz 3 1 v2 (j + 1) ((orderT (adjS n es) k n (j + 1)).map fun a : Nat => .int .i64 (a : Int)) := by rw [orderT_snoc hp, List.map_append]; exact hg2
        have hcs3 := hcs2.kpB hlt (fun b hb => hgb2.2 b (by omega) (fun e1 => hgne b hb e1.symm))
        have hkp3 := hgb2.kp hkp2 (Nat.le_refl _) (fun b hb => by have := (hgr2.blk b hb).1; omega)
        have hsz3 := hgb2.1
        refine LF.step (OpOk.assign rfl) ?_
        refine LF.nil ?_
        refine PF.next ?_
        refine CF.seq ?_
        refine CF.region ?_
        refine LF.step (OpOk.load Try.one46 rfl rfl (hcs3.hg.cell (i := 0) (by omega))) ?_
        refine LF.step (OpOk.move rfl) ?_
        refine LF.step (OpOk.idx (i := p) Try.underlying46 Try.sz35 (hcs3.sg hn) rfl rfl hp hpn) ?_
        refine LF.step (OpOk.load Try.one35 rfl rfl ((hcs3.sg hn).at (i := p) (by omega))) ?_
        obtain ⟨L, him, hla⟩ := (hcs3.nw.row p hpn).2
        refine LF.chg (OpCh.range Try.underlying35 him rfl) ?_
        rintro _ H4 ⟨rfl, hit, hsz4, hold4⟩
        have hk4 : Kp H3.size H3 H4 := ⟨by omega, hold4⟩
        refine LF.nil ?_
        refine PF.next ?_
        refine CF.block ?_
        obtain ⟨rb, hrb0⟩ : ∃ rb, rb = H3.size := ⟨_, rfl⟩
        rw [← hrb0] at hit ⊢
        have hrp := hlt.rs p hpn
        have hrbz : Bz ≤ rb := by omega
        have hrb : rb ≠ r p := by omega
        have hv2 : ∀ b, b < Bz ∨ b = rb → v2.ownBlock ≠ some b := fun b hb e1 => by have := hg3.blk b e1; omega
        refine CF.loop (ι := List Int) (fun vis H4 => It H4 rb (r p) L vis ∧ CS H4 H.size z n k r (adjS n es) (fun x => ((degS (adjS n es) (thereT (adjS n es) k n j) x n : Nat) : Int) - (if (x : Int) ∈ vis then 1 else 0)) (fun _ => -1) (fun x => if x = p then true else !(thereT (adjS n es) k n j) x) ∧ Gr H4 Bz 3 1 v2 (j + 1) ((orderT (adjS n es) k n (j + 1)).map fun a : Nat => .int .i64 (a : Int)) ∧ Kp H.size H H4 ∧ rb < H4.size) (fun vis => [(5, .pointer (some ⟨z.bk, 0, none⟩)), (7, .pointer (some ⟨z.bg, 0, none⟩)), (8, .pointer (some ⟨z.bd, 0, none⟩)), (9, .pointer (some ⟨z.bo, 0, none⟩)), (10, .pointer (some ⟨z.bq, 0, none⟩)), (12, .func (.func 19) #[] #[.pointer (some ⟨z.bn, 0, none⟩), .pointer (some ⟨z.bq, 0, none⟩), .pointer (some ⟨z.bd, 0, none⟩), .pointer (some ⟨z.bk, 0, none⟩)]), (13, v2), (53, .int .i64 n), (54, .int .i64 j), (69, .pointer (some ⟨rb, 0, none⟩))]) (fun vis => L.length - vis.length) [] ⟨hit, (hcs3.kp hk4).congr (fun a ha => by simp) (fun a ha => rfl) (fun a ha => by by_cases e1 : a = p <;> simp [e1]), hg3.kp hk4, hkp3.trans (hk4.mono hkp3.1), by omega⟩ ⟨rfl, rfl, rfl, rfl, rfl, rfl, rfl, rfl, rfl, rfl, trivial⟩ ?_
        have him0 := him.nodup
        clear hcs hgr hkp hit hcs2 hgr2 hkp2 hcs3 hg3 hkp3 him
        rintro vis H4 ⟨hit, hcs4, hgr4, hkp4, hrb4⟩
        have hvl := hit.len
        refine CF.seq ?_
        refine CF.region ?_
        refine LF.chg (OpCh.next1 hrb hit rfl) ?_
        rintro _ H5 ⟨more, vs, rfl, hvs0, hfin, hgo⟩
        refine LF.step (OpOk.extract rfl hvs0) ?_
        refine LF.nil ?_
        refine PF.next ?_
        refine CF.seq ?_
        refine CF.if rfl (fun hc4 => ?_) (fun hc4 => ?_)
        · obtain ⟨kk, vv, hkv, hnv, hit5, htw⟩ := hgo hc4
          obtain ⟨b, rfl, hbn, hfb⟩ := hla.mem him0 hkv
          have hcs5 := hcs4.kpB hlt (fun b9 hb9 => htw.2 b9 (by omega))
          refine CF.skip ?_
          refine PF.next ?_
          refine CF.block ?_
          refine CF.seq ?_
          refine CF.region ?_
          refine LF.step (OpOk.entry hit5 hkv rfl) ?_
          refine LF.step (OpOk.extract rfl rfl) ?_
          refine LF.step (OpOk.assign rfl) ?_
          refine LF.nil ?_
          refine PF.next ?_
          have hcell : hc H5 z.d (0 + b) = some (.int .i64 ((degS (adjS n es) (thereT (adjS n es) k n j) b n : Nat) : Int)) := by have := hcs5.rd.cell (i := b) hbn; rw [Nat.zero_add, this, if_neg hnv]; simp
          have hdl := degS_le (adjS n es) (thereT (adjS n es) k n j) b n
          refine CF.region ?_
          refine LF.step (OpOk.load Try.one22 rfl rfl (hcs5.hd.cell (i := 0) (by omega))) ?_
          refine LF.step (OpOk.move rfl) ?_
          refine LF.step (OpOk.idx (i := b) Try.underlying22 Try.sz3 (hcs5.sd hn) rfl rfl rfl hbn) ?_
          refine LF.step (OpOk.load Try.one3 rfl rfl hcell) ?_
          refine LF.step (OpOk.sub rfl rfl (by omega)) ?_
          refine LF.step (OpOk.idx (i := b) Try.underlying22 Try.sz3 (hcs5.sd hn) rfl rfl rfl hbn) ?_
          refine LF.chg0 (OpCh.store (b := z.d) (i := 0 + b) Try.sz3 rfl rfl rfl hcs5.rd (by omega)) ?_
          rintro _ _ rfl
          refine LF.nil ?_
          refine PF.blockNormal ?_
          have hord5 := hcs5.ord
          have hrd5 := hcs5.rne hpn
          refine PF.again (vis ++ [(b : Int)]) ⟨hit5.of (setc_other (by omega)) (setc_other hrd5), hcs5.setD.congr (fun x hx => ?_) (fun x hx => rfl) (fun x hx => rfl), ?_, ?_, ?_⟩ ⟨rfl, rfl, rfl, rfl, rfl, rfl, rfl, rfl, rfl, rfl, trivial⟩ ?_
          · by_cases e1 : x = 0 + b
            · have e2 : x = b := by omega
              subst e2; simp
            · have e2 : ¬ (x : Int) = b := by omega
              rw [if_neg e1]; simp [e2]
          · exact (hgr4.of (fun b9 e9 => htw.2 b9 (fun e8 => hv2 b9 (.inr e8) e9))).setOther (hv2 z.d (.inl (by omega)))
          · exact (hkp4.trans ⟨by rw [htw.1]; exact Nat.le_refl _, fun b9 hb9 => htw.2 b9 (by omega)⟩).setc (by omega)
          · rw [size_setc, htw.1]; exact hrb4
          · have := hit5.len; simp only [List.length_append, List.length_singleton] at this ⊢; omega
        · refine CF.exit ?_
          refine PF.thenExit ?_
          refine PF.thenExit ?_
          refine PF.blockHere ?_
          refine PF.blockNormal ?_
          refine PF.next ?_
          obtain ⟨hall, rfl⟩ := hfin hc4
          refine CF.region ?_
          refine LF.step (OpOk.add rfl rfl (by omega)) ?_
          refine LF.step (OpOk.move rfl) ?_
          refine LF.nil ?_
          refine PF.again (j + 1, v2) ⟨by simp only; omega, hcs4.congr (fun x hx => ?_) (fun x hx => rfl) (fun x hx => ?_), hgr4, hkp4, by omega⟩ ⟨rfl, rfl, rfl, rfl, rfl, rfl, rfl, rfl, rfl, trivial⟩ (by simp only; omega)
          · rw [degS_drop (adjS n es) (thereT (adjS n es) k n j) (thereT (adjS n es) k n (j + 1)) x p (by simpa [thereT] using hpm) (fun a => thereT_snoc hp a) n]
            have hiff : (x : Int) ∈ vis ↔ (p < n ∧ (adjS n es) x p = true) := by
              constructor
              · intro h9
                obtain ⟨⟨k8, v8⟩, hp9, hp8⟩ := List.mem_map.1 (hit.sub _ h9)
                simp only at hp8
                subst hp8
                obtain ⟨b9, h1, h2, h3⟩ := hla.mem him0 hp9
                have h4 : x = b9 := by omega
                subst h4
                refine ⟨hpn, ?_⟩
                rw [show (adjS n es) x p = (adjS n es) p x from adjT_sym _ _ _ _ _]; exact h3
              · intro h9
                refine hall _ (hla.key hx ?_)
                rw [show (adjS n es) p x = (adjS n es) x p from adjT_sym _ _ _ _ _]; exact h9.2
            by_cases e1 : (x : Int) ∈ vis
            · rw [if_pos e1, if_pos (hiff.1 e1)]
            · rw [if_neg e1, if_neg (fun h9 => e1 (hiff.2 h9))]
          · rw [thereT_snoc hp]; by_cases e1 : x = p <;> simp [e1]
      · refine CF.exit ?_
        refine PF.thenExit ?_
        refine PF.thenExit ?_
        refine PF.blockHere ?_
        refine PF.next ?_
        refine CF.seq ?_
        refine CF.seq ?_
        refine CF.region ?_
        refine LF.step (OpOk.move rfl) ?_
        refine LF.call (OpCall.fn Try.ent20 rfl rfl) (backward_ct (Gr.cells1 hgr)) ?_
        rintro _ _ ⟨rfl, rfl⟩
        refine LF.nil ?_
        refine PF.next ?_
        refine CF.block ?_
        obtain rfl : n = j := by omega
        obtain ⟨l, hl⟩ := exFin (n := n) (orderT (adjS n es) k n n) (fun a ha => orderT_in (Nat.le_refl n) a ha)
        have hll : l.length = n := by have := congrArg List.length hl; simpa [orderT_len] using this
        obtain ⟨Hf, hHf⟩ : ∃ Hf, Hf = H1 := ⟨_, rfl⟩
        subst hHf
        have hkf : Kp Hf.size Hf (Hf.push (.cells #[vg] 22)) := (Kp.refl _ _).push (Nat.le_refl _) _
        have hsf : (Hf.push (.cells #[vg] 22)).size = Hf.size + 1 := Array.size_push ..
        have hbx : Rw (Hf.push (.cells #[vg] 22)) Hf.size 22 1 (fun _ => vg) := Rw.new1
        have hslv := Sl.kp (Gr.nats hgr) hkf
        have hcsf := hcs.kp hkf
        have hvlt := Gr.vblk_lt hgr (by have := hcs.hn.lt; omega)
        generalize Hf.push (.cells #[vg] 22) = Hl at hkf hsf hbx hslv hcsf ⊢
        refine CF.rangeFunc (ps := [83, 84]) (bl := [Hf.size, vblk vg]) (xs := revT l l.length) (encs := backEnc) (fun x => [(5, .pointer (some ⟨z.bk, 0, none⟩)), (7, .pointer (some ⟨z.bg, 0, none⟩)), (9, .pointer (some ⟨z.bo, 0, none⟩)), (17, .int .i64 (x.2.val : Int))]) (fun (pre : List (Nat × Fin n)) H9 => CS H9 H.size z n k r (adjS n es) (fun x => ((degS (adjS n es) (thereT (adjS n es) k n n) x n : Nat) : Int)) (colT (adjS n es) k n (pre.map sndv).reverse) (fun x => !thereT (adjS n es) k n n x) ∧ Kp H.size H H9) rfl Try.ent30 (backward_iter hbx (by rw [hl, hll]; exact hslv)) (by intro k9 hk9; simp only [List.mem_cons, List.not_mem_nil, or_false] at hk9; rcases hk9 with rfl | rfl <;> omega) (fun _ => rfl) rfl (fun pre H8 H9 h9 hs9 hk9 => ⟨h9.1.kpB hlt (fun b hb => hk9 b (by omega)), h9.2.trans ⟨hs9, fun b hb => hk9 b (by omega)⟩⟩) ⟨hcsf, hkp.trans (hkf.mono hkp.1)⟩ ?_ ?_ ?_
        · intro lx x Hx
          refine RCF.region ?_
          refine LF.step (OpOk.assign rfl) ?_
          refine RLF.nil ?_
          exact PF.assigned ⟨rfl, rfl, rfl, rfl, trivial⟩
        · rintro lx pre x Hs ⟨hcs, hkp⟩ _ hsz
          refine RCF.block ?_
          refine RCF.seq ?_
          refine RCF.region ?_
          refine LF.chg OpCh.makeMap0 ?_
          rintro _ _ ⟨rfl, rfl⟩
          have hiu0 := Im.new (H := Hs)
          have hku0 : Kp Hs.size Hs (Hs.push (.map #[] 0)) := (Kp.refl _ _).push (Nat.le_refl _) _
          have hsu0 : (Hs.push (.map #[] 0)).size = Hs.size + 1 := Array.size_push ..
          generalize Hs.push (.map #[] 0) = Hu at hiu0 hku0 hsu0 ⊢
          have hcs0 := hcs.kp hku0
          refine LF.step (OpOk.assign rfl) ?_
          refine RLF.nil ?_
          refine RPF.next ?_
          refine RCF.seq ?_
          refine RCF.seq ?_
          refine RCF.region ?_
          refine LF.step (OpOk.load Try.one46 rfl rfl (hcs0.hg.cell (i := 0) (by omega))) ?_
          refine LF.step (OpOk.move rfl) ?_
          refine LF.step (OpOk.idx (i := x.2.val) Try.underlying46 Try.sz35 (hcs0.sg hn) rfl rfl rfl x.2.isLt) ?_
          refine LF.step (OpOk.load Try.one35 rfl rfl ((hcs0.sg hn).at (i := x.2.val) (by have := x.2.isLt; omega))) ?_
          obtain ⟨L, him, hla⟩ := (hcs0.nw.row x.2.val x.2.isLt).2
          refine LF.chg (OpCh.range Try.underlying35 him rfl) ?_
          rintro _ H4 ⟨rfl, hit, hsz4, hold4⟩
          have hk4 : Kp Hu.size Hu H4 := ⟨by omega, hold4⟩
          refine RLF.nil ?_
          refine RPF.next ?_
          refine RCF.block ?_
          obtain ⟨rb, hrb0⟩ : ∃ rb, rb = Hu.size := ⟨_, rfl⟩
          obtain ⟨ub, hub0⟩ : ∃ ub, ub = Hs.size := ⟨_, rfl⟩
          rw [← hub0] at hiu0 ⊢
          rw [← hrb0] at hit ⊢
          have hrp := hcs.nw.lt x.2.isLt
          have hrb : rb ≠ r x.2.val := by omega
          obtain ⟨outS, houtS⟩ : ∃ o, o = colT (adjS n es) k n (pre.map sndv).reverse := ⟨_, rfl⟩
          rw [← houtS] at hcs
          refine RCF.loop (ι := List Int) (fun vis H4 => It H4 rb (r x.2.val) L vis ∧ (∃ U, Im H4 ub U ∧ ∀ c : Int, lkM U c = if usedV outS vis c = true then some (.bool true) else none) ∧ Kp Hs.size Hs H4 ∧ rb < H4.size ∧ ub < H4.size) (fun vis => [(5, .pointer (some ⟨z.bk, 0, none⟩)), (9, .pointer (some ⟨z.bo, 0, none⟩)), (17, .int .i64 (x.2.val : Int)), (18, .map (some ub)), (90, .pointer (some ⟨rb, 0, none⟩))]) (fun vis => L.length - vis.length) [] ⟨hit, ⟨[], hiu0.kp hk4 (by omega), fun c => by simp [lkM, usedV]⟩, (hku0.trans (hk4.mono hku0.1)), by omega, by omega⟩ ⟨rfl, rfl, rfl, rfl, rfl, trivial⟩ ?_
          have him0 := him.nodup
          clear him hit
          rintro vis H4 ⟨hit, ⟨U, hiu, hul⟩, hkp4, hrb4, hub4⟩
          have hvl := hit.len
          refine RCF.seq ?_
          refine RCF.region ?_
          refine LF.chg (OpCh.next1 hrb hit rfl) ?_
          rintro _ H5 ⟨more, vs, rfl, hvs0, hfin, hgo⟩
          refine LF.step (OpOk.extract rfl hvs0) ?_
          refine RLF.nil ?_
          refine RPF.next ?_
          refine RCF.seq ?_
          refine RCF.if rfl (fun hc5 => ?_) (fun hc5 => ?_)
          · obtain ⟨kk, vv, hkv, hnv, hit5, htw⟩ := hgo hc5
            obtain ⟨b, rfl, hbn, hfb⟩ := hla.mem him0 hkv
            have hkp5 : Kp Hs.size Hs H5 := hkp4.trans ⟨by rw [htw.1]; exact Nat.le_refl _, fun k9 hk9 => htw.2 k9 (by omega)⟩
            have hcs5 := hcs.kp hkp5
            have hiu5 := hiu.of (htw.2 ub (by omega))
            refine RCF.skip ?_
            refine RPF.next ?_
            refine RCF.block ?_
            refine RCF.seq ?_
            refine RCF.region ?_
            refine LF.step (OpOk.entry hit5 hkv rfl) ?_
            refine LF.step (OpOk.extract rfl rfl) ?_
            refine LF.step (OpOk.assign rfl) ?_
            refine RLF.nil ?_
            refine RPF.next ?_
            refine RCF.region ?_
            refine LF.step (OpOk.move rfl) ?_
            refine LF.step (OpOk.load Try.one22 rfl rfl (hcs5.ho.cell (i := 0) (by omega))) ?_
            refine LF.step (OpOk.move rfl) ?_
            refine LF.step (OpOk.idx (i := b) Try.underlying22 Try.sz3 (hcs5.so hn) rfl rfl rfl hbn) ?_
            refine LF.step (OpOk.load Try.one3 rfl rfl ((hcs5.so hn).at (i := b) (by omega))) ?_
            refine LF.chg0 (OpCh.mapUpdate Try.underlying35 Try.underlying3 hiu5 rfl rfl rfl) ?_
            rintro _ H6 ⟨hiu6, htw6⟩
            refine RLF.nil ?_
            refine PF.blockNormal ?_
            refine PF.again (vis ++ [(b : Int)]) ⟨hit5.of (htw6.2 rb (by omega)) (htw6.2 _ (by omega)), ⟨_, hiu6, fun c => ?_⟩, ?_, ?_, ?_⟩ ⟨rfl, rfl, rfl, rfl, rfl, trivial⟩ ?_
            · rw [upM_lk, hul, usedV_snoc]; by_cases e1 : c = outS b
              · subst e1; simp
              · have e2 : (outS b == c) = false := by simp; exact fun h9 => e1 h9.symm
                rw [if_neg e1]; simp [e2]
            · exact hkp5.trans ⟨by rw [htw6.1]; exact Nat.le_refl _, fun b9 hb9 => htw6.2 b9 (by omega)⟩
            · rw [htw6.1, htw.1]; exact hrb4
            · rw [htw6.1, htw.1]; exact hub4
            · have := hit5.len; simp only [List.length_append, List.length_singleton] at this ⊢; omega
          · refine RCF.exit ?_
            refine PF.thenExit ?_
            refine PF.thenExit ?_
            refine PF.blockHere ?_
            refine RPF.next ?_
            refine RCF.seq ?_
            obtain ⟨hall, h9⟩ := hfin hc5
            obtain rfl : H4 = H5 := h9.symm
            have hcs4 := hcs.kp hkp4
            have hul2 : ∀ c : Nat, (lkM U c).getD (.bool false) = .bool (usedS (adjS n es) outS x.2.val c n) := fun c => by rw [hul, ← usedV_S (vis := vis) (fun k9 hk9 => by obtain ⟨p9, hp9, hp8⟩ := List.mem_map.1 (hit.sub k9 hk9); obtain ⟨k8, v8⟩ := p9; subst hp8; exact hla.mem him0 hp9) (fun b hb hf => hall _ (hla.key hb hf))]; cases usedV outS vis c <;> rfl
            refine RCF.region ?_
            refine LF.step (OpOk.load Try.one3 rfl rfl (hcs4.hk.cell (i := 0) (by omega))) ?_
            refine LF.step (OpOk.max rfl rfl) ?_
            refine LF.step (OpOk.move rfl) ?_
            refine RLF.nil ?_
            refine RPF.next ?_
            refine RCF.block ?_
            have hmx : (if (0 : Int) > k then 0 else k) = ((k.toNat : Nat) : Int) := by split <;> omega
            refine RCF.loop (ι := Nat) (fun c H7 => c ≤ k.toNat ∧ (∀ i : Nat, i < c → (!usedS (adjS n es) outS x.2.val i n) = false) ∧ H4 = H7) (fun c => [(9, .pointer (some ⟨z.bo, 0, none⟩)), (17, .int .i64 (x.2.val : Int)), (18, .map (some ub)), (101, .int .i64 (k.toNat : Nat)), (102, .int .i64 c)]) (fun c => k.toNat - c) 0 ⟨by omega, by intro i hi; omega, rfl⟩ ⟨rfl, rfl, rfl, eqI hmx, rfl, trivial⟩ ?_
            rintro c H7 ⟨hc, hno, rfl⟩
            refine RCF.seq ?_
            refine RCF.region ?_
            refine LF.step (OpOk.lss rfl rfl) ?_
            refine RLF.nil ?_
            refine RPF.next ?_
            refine RCF.seq ?_
            refine RCF.if rfl (fun hc6 => ?_) (fun hc6 => ?_)
            · refine RCF.skip ?_
              refine RPF.next ?_
              refine RCF.seq ?_
              refine RCF.block ?_
              refine RCF.seq ?_
              refine RCF.region ?_
              refine LF.step (OpOk.move rfl) ?_
              refine LF.step (OpOk.assign rfl) ?_
              refine RLF.nil ?_
              refine RPF.next ?_
              refine RCF.seq ?_
              refine RCF.region ?_
              refine LF.step (OpOk.move rfl) ?_
              refine LF.step (OpOk.move rfl) ?_
              refine LF.step (OpOk.eqv (OpOk.lookup Try.underlying35 Try.underlying3 Try.zero4 hiu rfl rfl) (hul2 c)) ?_
              refine LF.step (OpOk.not rfl) ?_
              refine RLF.nil ?_
              refine RPF.next ?_
              refine RCF.if rfl (fun hc7 => ?_) (fun hc7 => ?_)
              · refine RCF.seq ?_
                refine RCF.region ?_
                refine LF.step (OpOk.load Try.one22 rfl rfl (hcs4.ho.cell (i := 0) (by omega))) ?_
                refine LF.step (OpOk.move rfl) ?_
                refine LF.step (OpOk.move rfl) ?_
                refine LF.step (OpOk.idx (i := x.2.val) Try.underlying22 Try.sz3 (hcs4.so hn) rfl rfl rfl x.2.isLt) ?_
                refine LF.chg0 (OpCh.store (b := z.o) (i := 0 + x.2.val) Try.sz3 rfl rfl rfl hcs4.ro (by have := x.2.isLt; omega)) ?_
                rintro _ _ rfl
                refine RLF.nil ?_
                refine RPF.next ?_
                refine RCF.exit ?_
                refine PF.blockOther ?_
                refine PF.thenExit ?_
                refine PF.thenExit ?_
                refine PF.blockHere ?_
                refine PF.blockNormal ?_
                have hpre : (((pre ++ [x]).map sndv).reverse) = x.2.val :: (pre.map sndv).reverse := by simp [sndv]
                have hx := x.2.isLt
                refine PF.round (by rw [size_setc]; exact hkp4.1) (fun k9 hk9 hk8 => (setc_other (by omega)).trans (hkp4.2 k9 hk8)) (fun k9 hk9 => ?_) ⟨?_, ?_⟩
                · simp only [List.mem_cons, List.not_mem_nil, or_false] at hk9
                  refine (setc_other ?_).trans (hkp4.2 k9 ?_)
                  · rcases hk9 with rfl | rfl; (· omega); have := Gr.vblk_ge hgr (by omega); omega
                  · rcases hk9 with rfl | rfl <;> omega
                · rw [hpre, colT_cons]; refine hcs4.setO.congr (fun a ha => rfl) (fun a ha => ?_) (fun a ha => rfl)
                  unfold paintS; rw [← houtS, fstS_some (a := c) (by omega) (by simp [hc7]) hno]; by_cases e1 : a = x.2.val <;> simp [e1]
                · exact (hkp.trans (hkp4.mono hkp.1)).setc (by omega)
              · refine RCF.skip ?_
                refine PF.blockNormal ?_
                refine RPF.next ?_
                refine RCF.region ?_
                refine LF.step (OpOk.add rfl rfl (by omega)) ?_
                refine LF.step (OpOk.move rfl) ?_
                refine RLF.nil ?_
                exact PF.again (c + 1) ⟨by omega, fun i hi => (by by_cases e1 : i = c; (· subst e1; simp [hc7]); exact hno i (by omega)), rfl⟩ ⟨rfl, rfl, rfl, rfl, rfl, trivial⟩ (by omega)
            · refine RCF.exit ?_
              refine PF.thenExit ?_
              refine PF.thenExit ?_
              refine PF.blockHere ?_
              refine PF.blockNormal ?_
              have hpre : (((pre ++ [x]).map sndv).reverse) = x.2.val :: (pre.map sndv).reverse := by simp [sndv]
              obtain rfl : c = k.toNat := by omega
              refine PF.round hkp4.1 (fun k9 hk9 hk8 => hkp4.2 k9 hk8) (fun k9 hk9 => ?_) ⟨?_, hkp.trans (hkp4.mono hkp.1)⟩
              · simp only [List.mem_cons, List.not_mem_nil, or_false] at hk9
                refine hkp4.2 k9 ?_
                rcases hk9 with rfl | rfl <;> omega
              · rw [hpre, colT_cons]; refine hcs4.congr (fun a ha => rfl) (fun a ha => ?_) (fun a ha => rfl)
                unfold paintS; rw [← houtS, fstS_none hno]
        · intro D H9 ⟨hcs, hkp⟩ hD hsz hdef
          refine PF.blockNormal ?_
          refine PF.next ?_
          refine CF.seq ?_
          refine CF.region ?_
          refine LF.step (OpOk.load Try.one22 rfl rfl (hcs.ho.cell (i := 0) (by omega))) ?_
          refine LF.step (OpOk.assign rfl) ?_
          refine LF.nil ?_
          refine PF.next ?_
          refine CF.ret ?_
          have hrev : ((revT l l.length).map sndv).reverse = orderT (adjS n es) k n n := by rw [← hl]; have := revT_snd l l.length (Nat.le_refl _); rw [List.take_length] at this; rw [show (sndv : Nat × Fin n → Nat) = (·.val) ∘ (·.2) from rfl, ← List.map_map, this]; simp
          rw [hrev] at hcs
          have hDz : ∀ b, b < Hf.size → (puto H9 D (.deferred none))[b]? = H9[b]? := fun b hb => Array.getElem?_setIfInBounds_ne (by omega)
          exact PF.ret1M rfl rfl hdef ⟨Rw.ns (hcs.ro.of (hDz _ (by omega))) (by omega), hkp.trans ⟨by simp [puto], fun b hb => hDz b (by omega)⟩⟩

end Go.Proofs.Ytkhphpobccnodaa
