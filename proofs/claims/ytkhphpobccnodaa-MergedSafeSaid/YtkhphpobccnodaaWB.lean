/- Walk of the law of chapter 14 that colours differ. Conditions: each contract names its own. -/
import Derived.Test.YtkhphpobccnodaaFm
namespace Go.Proofs.Ytkhphpobccnodaa
open Go.JE

theorem ns_cl {H : Heap} {B n : Nat} {v : Value} {g : Nat → Int} (h : Ns H B v ((List.range n).map g)) : Sl H B v 1 n (fun i => .int .i64 (g i)) := by
  unfold Ns at h
  rw [show ((List.range n).map g).length = n by simp] at h
  exact h.congr (fun i hi => by simp [List.getD, show i < n by omega])
theorem seen_snoc (f : Nat → Nat → Bool) (out : Nat → Int) (a b : Nat) (c : Int) : seenS f out a (b + 1) c = (seenS f out a b c || ((f a b && decide (0 ≤ out b)) && decide (out b = c))) := rfl

theorem coloursDiffer_ct {H : Heap} {B : Nat} {vs : Value} {l : List Int} (N k : Int) (hs : Ns H B vs l) :
    Ct Try.prog 4 #[.int .i64 N, vs, .int .i64 k] H (fun v H' => v = .bool true ∧ Kp H.size H H') := by
  refine Ct.enter (args := [.int .i64 N, vs, .int .i64 k]) Try.func4 rfl rfl rfl (fun w0 hw0 => ?_)
  refine CF.seq ?_
  refine CF.region ?_
  refine LF.step (OpOk.assign rfl) ?_
  refine LF.nil ?_
  refine PF.next ?_
  refine CF.seq ?_
  refine CF.region ?_
  refine LF.call (OpCall.fn Try.ent7 rfl rfl) (awake_ct) ?_
  rintro _ H1 ⟨rfl, k1⟩
  refine LF.step (OpOk.assign rfl) ?_
  refine LF.nil ?_
  refine PF.next ?_
  refine CF.seq ?_
  refine CF.region ?_
  refine LF.step (OpOk.move rfl) ?_
  refine LF.call (OpCall.fn Try.ent8 rfl rfl) (rest_ct N 14 (by omega)) ?_
  rintro _ H9 ⟨rfl, h9⟩
  obtain rfl : H1 = H9 := h9.symm
  obtain ⟨n, hnn⟩ : ∃ n : Nat, 1 + N % ((14 : Nat) : Int) = n := ⟨(1 + N % 14).toNat, by omega⟩
  have hn1 : 1 ≤ n ∧ n ≤ 14 := by omega
  refine LF.step (OpOk.eqv (OpOk.add rfl rfl (by omega)) (congrArg _ hnn)) ?_
  refine LF.step (OpOk.assign rfl) ?_
  refine LF.nil ?_
  refine PF.next ?_
  refine CF.seq ?_
  refine CF.region ?_
  refine LF.step (OpOk.move rfl) ?_
  refine LF.step (OpOk.move rfl) ?_
  refine LF.call (OpCall.fn Try.ent9 rfl rfl) (made_ct n (by omega) (Sl.kp (Sl.up hs) k1)) ?_
  rintro ve He ⟨hpe, ke⟩
  have kbe := k1.trans (ke.mono k1.1)
  refine LF.step (OpOk.assign rfl) ?_
  refine LF.nil ?_
  refine PF.next ?_
  refine CF.seq ?_
  refine CF.region ?_
  refine LF.step (OpOk.move rfl) ?_
  refine LF.call (OpCall.fn Try.ent8 rfl rfl) (rest_ct k 7 (by omega)) ?_
  rintro _ H9 ⟨rfl, h9⟩
  obtain rfl : He = H9 := h9.symm
  obtain ⟨c, hcc⟩ : ∃ c, 1 + k % ((7 : Nat) : Int) = c := ⟨_, rfl⟩
  have hcb : 1 ≤ c ∧ c ≤ 7 := by omega
  refine LF.step (OpOk.eqv (OpOk.add rfl rfl (by omega)) (congrArg _ hcc)) ?_
  refine LF.step (OpOk.assign rfl) ?_
  refine LF.nil ?_
  refine PF.next ?_
  refine CF.seq ?_
  refine CF.region ?_
  refine LF.step (OpOk.move rfl) ?_
  refine LF.step (OpOk.move rfl) ?_
  refine LF.call (OpCall.fn Try.ent14 rfl rfl) (table_ct n (by omega) hpe) ?_
  rintro vt Ht ⟨hmt, kt⟩
  have kbt := kbe.trans (kt.mono kbe.1)
  refine LF.step (OpOk.assign rfl) ?_
  refine LF.nil ?_
  refine PF.next ?_
  refine CF.seq ?_
  refine CF.region ?_
  refine LF.step (OpOk.move rfl) ?_
  refine LF.step (OpOk.move rfl) ?_
  refine LF.step (OpOk.move rfl) ?_
  refine LF.call (OpCall.fn Try.ent11 rfl rfl) (colours_ct n (by omega) c (by omega) (Sl.kp hpe kt)) ?_
  rintro vl Hl ⟨hvl, kl⟩
  have kbl := kbt.trans (kl.mono kbt.1)
  obtain ⟨cl, hcl⟩ : ∃ cl, cl = colT (adjS n (madeS n l)) c n (orderT (adjS n (madeS n l)) c n n) := ⟨_, rfl⟩
  have hpt := painted_all n (madeS n l) c
  rw [← hcl] at hpt
  have hvl2 : Sl Hl Hl.size vl 1 n (fun i => .int .i64 (cl i)) := by rw [hcl]; exact ns_cl hvl
  clear hvl
  have hd1 : ∀ a b, a < n → b < n → (adjS n (madeS n l)) a b = true → 0 ≤ cl a → cl a ≠ cl b := fun a b ha hb hf h0 => hpt.differ a b (orderT_all ha) (orderT_all hb) hf h0
  have hd3 : ∀ a, a < n → cl a < 0 → ∀ c9 : Nat, (c9 : Int) < c → ∃ y, y < n ∧ (adjS n (madeS n l)) a y = true ∧ cl y = c9 := fun a ha h0 c9 hc9 => by obtain ⟨y, h1, h2, h3⟩ := hpt.full a (orderT_all ha) h0 c9 hc9; exact ⟨y, orderT_in (Nat.le_refl n) y h1, h2, h3⟩
  have hd2 := hpt.range
  clear hcl hpt
  refine LF.step (OpOk.assign rfl) ?_
  refine LF.nil ?_
  refine PF.next ?_
  refine CF.seq ?_
  refine CF.seq ?_
  refine CF.region ?_
  refine LF.step (OpOk.move rfl) ?_
  refine LF.step (OpOk.lenSl Try.underlying22 hvl2 rfl) ?_
  refine LF.step (OpOk.move rfl) ?_
  refine LF.step (OpOk.neq rfl rfl) ?_
  refine LF.nil ?_
  refine PF.next ?_
  refine CF.if rfl (fun hc1 => ?_) (fun hc1 => ?_)
  · omega
  · refine CF.skip ?_
    refine PF.next ?_
    refine CF.seq ?_
    refine CF.seq ?_
    refine CF.region ?_
    refine LF.step (OpOk.assign rfl) ?_
    refine LF.nil ?_
    refine PF.next ?_
    refine CF.block ?_
    refine CF.loop (ι := Nat) (fun a H1 => a ≤ n ∧ Kp Hl.size Hl H1) (fun a => [(7, .bool true), (8, .int .i64 n), (10, .int .i64 c), (11, vt), (12, vl), (13, .int .i64 a)]) (fun a => n - a) 0 ⟨by omega, Kp.refl _ _⟩ ⟨rfl, rfl, rfl, rfl, rfl, rfl, trivial⟩ ?_
    rintro a H1 ⟨ha, kp⟩
    refine CF.seq ?_
    refine CF.seq ?_
    refine CF.region ?_
    refine LF.step (OpOk.move rfl) ?_
    refine LF.step (OpOk.move rfl) ?_
    refine LF.step (OpOk.lss rfl rfl) ?_
    refine LF.nil ?_
    refine PF.next ?_
    refine CF.if rfl (fun hc2 => ?_) (fun hc2 => ?_)
    · refine CF.skip ?_
      refine PF.next ?_
      refine CF.seq ?_
      refine CF.block ?_
      refine CF.seq ?_
      refine CF.region ?_
      refine LF.chg OpCh.makeMap0 ?_
      rintro _ _ ⟨rfl, rfl⟩
      have him0 := Im.new (H := H1)
      have km := (Kp.refl H1.size H1).push (Nat.le_refl _) (.map #[] 0)
      have hsm : (H1.push (.map #[] 0)).size = H1.size + 1 := Array.size_push ..
      generalize H1.push (.map #[] 0) = Hm at him0 km hsm ⊢
      refine LF.step (OpOk.assign rfl) ?_
      refine LF.nil ?_
      refine PF.next ?_
      refine CF.seq ?_
      refine CF.region ?_
      refine LF.step (OpOk.assign rfl) ?_
      refine LF.nil ?_
      refine PF.next ?_
      refine CF.seq ?_
      refine CF.seq ?_
      refine CF.region ?_
      refine LF.step (OpOk.assign rfl) ?_
      refine LF.nil ?_
      refine PF.next ?_
      refine CF.block ?_
      refine CF.loop (ι := Nat × List (Int × Value)) (fun p H2 => p.1 ≤ n ∧ Im H2 H1.size p.2 ∧ (∀ c9, lkM p.2 c9 = if seenS (adjS n (madeS n l)) cl a p.1 c9 = true then some (.bool true) else none) ∧ Kp Hl.size Hl H2) (fun p => [(7, .bool true), (8, .int .i64 n), (10, .int .i64 c), (11, vt), (12, vl), (13, .int .i64 a), (14, .map (some H1.size)), (15, .int .i64 (cntS (fun y => (adjS n (madeS n l)) a y) p.1 : Nat)), (16, .int .i64 p.1)]) (fun p => n - p.1) (0, []) ⟨by simp only; omega, him0, fun c9 => by simp [lkM, seenS, anyS], kp.trans (km.mono kp.1)⟩ ⟨rfl, rfl, rfl, rfl, rfl, rfl, rfl, rfl, rfl, trivial⟩ ?_
      have hkp1 := kp.1
      clear him0 km kp
      rintro ⟨b, U⟩ H2 ⟨hb, him, hU, kp2⟩
      simp only at hb him hU
      dsimp only
      have hl2 := hvl2.kp kp2
      obtain ⟨r, ht2, hr2⟩ := (hmt.kp kl).up.kp kp2
      have hcn := cntS_le (fun y => (adjS n (madeS n l)) a y) b
      refine CF.seq ?_
      refine CF.seq ?_
      refine CF.region ?_
      refine LF.step (OpOk.move rfl) ?_
      refine LF.step (OpOk.move rfl) ?_
      refine LF.step (OpOk.lss rfl rfl) ?_
      refine LF.nil ?_
      refine PF.next ?_
      refine CF.if rfl (fun hc3 => ?_) (fun hc3 => ?_)
      · refine CF.skip ?_
        refine PF.next ?_
        refine CF.seq ?_
        refine CF.block ?_
        refine CF.seq ?_
        refine CF.region ?_
        refine LF.step (OpOk.move rfl) ?_
        refine LF.step (OpOk.move rfl) ?_
        refine LF.step (OpOk.idx (i := a) Try.underlying33 Try.sz36 ht2 rfl rfl rfl (by omega)) ?_
        refine LF.step (OpOk.load Try.one36 rfl rfl (ht2.at (i := a) (by omega))) ?_
        refine LF.step (OpOk.move rfl) ?_
        refine LF.step (OpOk.idx (i := b) Try.underlying36 Try.sz4 (hr2 a (by omega)) rfl rfl rfl (by omega)) ?_
        refine LF.step (OpOk.load Try.one4 rfl rfl ((hr2 a (by omega)).at (i := b) (by omega))) ?_
        refine LF.nil ?_
        refine PF.next ?_
        refine CF.if rfl (fun hc4 => ?_) (fun hc4 => ?_)
        · refine CF.seq ?_
          refine CF.region ?_
          refine LF.step (OpOk.move rfl) ?_
          refine LF.step (OpOk.add rfl rfl (by omega)) ?_
          refine LF.step (OpOk.assign rfl) ?_
          refine LF.nil ?_
          refine PF.next ?_
          refine CF.seq ?_
          refine CF.seq ?_
          refine CF.region ?_
          refine LF.step (OpOk.move rfl) ?_
          refine LF.step (OpOk.move rfl) ?_
          refine LF.step (OpOk.idx (i := b) Try.underlying22 Try.sz3 hl2 rfl rfl rfl (by omega)) ?_
          refine LF.step (OpOk.load Try.one3 rfl rfl (hl2.at (i := b) (by omega))) ?_
          refine LF.step (OpOk.geq rfl rfl) ?_
          refine LF.nil ?_
          refine PF.next ?_
          refine CF.if rfl (fun hc5 => ?_) (fun hc5 => ?_)
          · refine CF.region ?_
            refine LF.step (OpOk.move rfl) ?_
            refine LF.step (OpOk.move rfl) ?_
            refine LF.step (OpOk.move rfl) ?_
            refine LF.step (OpOk.idx (i := b) Try.underlying22 Try.sz3 hl2 rfl rfl rfl (by omega)) ?_
            refine LF.step (OpOk.load Try.one3 rfl rfl (hl2.at (i := b) (by omega))) ?_
            refine LF.chg0 (OpCh.mapUpdate Try.underlying35 Try.underlying3 him rfl rfl rfl) ?_
            rintro _ H3 ⟨him3, htw3⟩
            have kp3 : Kp Hl.size Hl H3 := kp2.trans ⟨by rw [htw3.1]; exact Nat.le_refl _, fun b9 hb9 => htw3.2 b9 (by omega)⟩
            have hl3 := hvl2.kp kp3
            have hlx := hl3
            refine LF.nil ?_
            refine PF.next ?_
            refine CF.seq ?_
            refine CF.still Try.mixed (by kernel_rfl) ?_
            refine LS.step (OpOk.move rfl) ?_
            refine LS.step (OpOk.move rfl) ?_
            refine LS.step (OpOk.idx (i := a) Try.underlying22 Try.sz3 hlx rfl rfl rfl (by omega)) ?_
            refine LS.step (OpOk.load Try.one3 rfl rfl (hlx.at (i := a) (by omega))) ?_
            refine LS.step (OpOk.geq rfl rfl) ?_
            refine LS.step (OpOk.move rfl) ?_
            refine LS.gstep rfl rfl (.t _) (fun hg => OpOk.move rfl) ?_
            refine LS.gstep rfl rfl (.t _) (fun hg => OpOk.move rfl) ?_
            refine LS.gstep rfl rfl (.t _) (fun hg => OpOk.idx (i := a) Try.underlying22 Try.sz3 hlx (evg rfl hg) (evg rfl hg) rfl (by omega)) ?_
            refine LS.gstep rfl rfl (.t _) (fun hg => OpOk.load Try.one3 (evg rfl hg) rfl (hlx.at (i := a) (by omega))) ?_
            refine LS.gstep rfl rfl (.t _) (fun hg => OpOk.move rfl) ?_
            refine LS.gstep rfl rfl (.t _) (fun hg => OpOk.move rfl) ?_
            refine LS.gstep rfl rfl (.t _) (fun hg => OpOk.idx (i := b) Try.underlying22 Try.sz3 hlx (evg rfl hg) (evg rfl hg) rfl (by omega)) ?_
            refine LS.gstep rfl rfl (.t _) (fun hg => OpOk.load Try.one3 (evg rfl hg) rfl (hlx.at (i := b) (by omega))) ?_
            refine LS.gstep rfl rfl (.t _) (fun hg => OpOk.eql (evg rfl hg) (evg rfl hg)) ?_
            refine LS.step (OpOk.pickAnd rfl rfl) ?_
            refine LS.done ?_
            refine PF.next ?_
            refine CF.if rfl (fun hc6 => ?_) (fun hc6 => ?_)
            · exact absurd hc6.2 (hd1 a b (by omega) (by omega) hc4 hc6.1)
            · refine CF.skip ?_
              refine PF.blockNormal ?_
              refine PF.next ?_
              refine CF.region ?_
              refine LF.step (OpOk.move rfl) ?_
              refine LF.step (OpOk.add rfl rfl (by omega)) ?_
              refine LF.step (OpOk.assign rfl) ?_
              refine LF.nil ?_
              refine PF.again (b + 1, _) ⟨by simp only; omega, him3, fun c9 => ?_, kp3⟩ ⟨rfl, rfl, rfl, rfl, rfl, rfl, rfl, eqI (cntS_yes hc4).symm, rfl, trivial⟩ (by simp only; omega)
              rw [upM_lk, seen_snoc, hU c9, hc4, decide_eq_true hc5]
              by_cases e1 : c9 = cl b
              · rw [if_pos e1, decide_eq_true e1.symm]; simp
              · rw [if_neg e1, decide_eq_false (fun h => e1 h.symm)]; simp
          · have hlx := hl2
            refine CF.skip ?_
            refine PF.next ?_
            refine CF.seq ?_
            refine CF.still Try.mixed (by kernel_rfl) ?_
            refine LS.step (OpOk.move rfl) ?_
            refine LS.step (OpOk.move rfl) ?_
            refine LS.step (OpOk.idx (i := a) Try.underlying22 Try.sz3 hlx rfl rfl rfl (by omega)) ?_
            refine LS.step (OpOk.load Try.one3 rfl rfl (hlx.at (i := a) (by omega))) ?_
            refine LS.step (OpOk.geq rfl rfl) ?_
            refine LS.step (OpOk.move rfl) ?_
            refine LS.gstep rfl rfl (.t _) (fun hg => OpOk.move rfl) ?_
            refine LS.gstep rfl rfl (.t _) (fun hg => OpOk.move rfl) ?_
            refine LS.gstep rfl rfl (.t _) (fun hg => OpOk.idx (i := a) Try.underlying22 Try.sz3 hlx (evg rfl hg) (evg rfl hg) rfl (by omega)) ?_
            refine LS.gstep rfl rfl (.t _) (fun hg => OpOk.load Try.one3 (evg rfl hg) rfl (hlx.at (i := a) (by omega))) ?_
            refine LS.gstep rfl rfl (.t _) (fun hg => OpOk.move rfl) ?_
            refine LS.gstep rfl rfl (.t _) (fun hg => OpOk.move rfl) ?_
            refine LS.gstep rfl rfl (.t _) (fun hg => OpOk.idx (i := b) Try.underlying22 Try.sz3 hlx (evg rfl hg) (evg rfl hg) rfl (by omega)) ?_
            refine LS.gstep rfl rfl (.t _) (fun hg => OpOk.load Try.one3 (evg rfl hg) rfl (hlx.at (i := b) (by omega))) ?_
            refine LS.gstep rfl rfl (.t _) (fun hg => OpOk.eql (evg rfl hg) (evg rfl hg)) ?_
            refine LS.step (OpOk.pickAnd rfl rfl) ?_
            refine LS.done ?_
            refine PF.next ?_
            refine CF.if rfl (fun hc7 => ?_) (fun hc7 => ?_)
            · exact absurd hc7.2 (hd1 a b (by omega) (by omega) hc4 hc7.1)
            · refine CF.skip ?_
              refine PF.blockNormal ?_
              refine PF.next ?_
              refine CF.region ?_
              refine LF.step (OpOk.move rfl) ?_
              refine LF.step (OpOk.add rfl rfl (by omega)) ?_
              refine LF.step (OpOk.assign rfl) ?_
              refine LF.nil ?_
              refine PF.again (b + 1, U) ⟨by simp only; omega, him, fun c9 => ?_, kp2⟩ ⟨rfl, rfl, rfl, rfl, rfl, rfl, rfl, eqI (cntS_yes hc4).symm, rfl, trivial⟩ (by simp only; omega)
              rw [seen_snoc, hU c9, decide_eq_false hc5]; simp
        · refine CF.skip ?_
          refine PF.blockNormal ?_
          refine PF.next ?_
          refine CF.region ?_
          refine LF.step (OpOk.move rfl) ?_
          refine LF.step (OpOk.add rfl rfl (by omega)) ?_
          refine LF.step (OpOk.assign rfl) ?_
          refine LF.nil ?_
          refine PF.again (b + 1, U) ⟨by simp only; omega, him, fun c9 => ?_, kp2⟩ ⟨rfl, rfl, rfl, rfl, rfl, rfl, rfl, eqI (cntS_no hc4).symm, rfl, trivial⟩ (by simp only; omega)
          rw [seen_snoc, hU c9, hc4]; simp
      · obtain rfl : n = b := by omega
        refine CF.exit ?_
        refine PF.thenExit ?_
        refine PF.thenExit ?_
        refine PF.blockHere ?_
        refine PF.next ?_
        refine CF.seq ?_
        refine CF.region ?_
        refine LF.step (OpOk.move rfl) ?_
        refine LF.step (OpOk.move rfl) ?_
        refine LF.step (OpOk.idx (i := a) Try.underlying22 Try.sz3 hl2 rfl rfl rfl (by omega)) ?_
        refine LF.step (OpOk.load Try.one3 rfl rfl (hl2.at (i := a) (by omega))) ?_
        refine LF.step (OpOk.move rfl) ?_
        refine LF.step (OpOk.geq rfl rfl) ?_
        refine LF.step (OpOk.move rfl) ?_
        refine LF.gstep rfl rfl (.f _) (fun hg => OpOk.move rfl) ?_
        refine LF.gstep rfl rfl (.f _) (fun hg => OpOk.move rfl) ?_
        refine LF.gstep rfl rfl (.f _) (fun hg => OpOk.idx (i := a) Try.underlying22 Try.sz3 hl2 (evg rfl hg) (evg rfl hg) rfl (by omega)) ?_
        refine LF.gstep rfl rfl (.f _) (fun hg => OpOk.load Try.one3 (evg rfl hg) rfl (hl2.at (i := a) (by omega))) ?_
        refine LF.gstep rfl rfl (.f _) (fun hg => OpOk.lss (evg rfl hg) rfl) ?_
        refine LF.step (OpOk.pickOr rfl rfl) ?_
        refine LF.step (OpOk.move rfl) ?_
        refine LF.gstep rfl rfl (.f _) (fun hg => OpOk.move rfl) ?_
        refine LF.gstep rfl rfl (.f _) (fun hg => OpOk.move rfl) ?_
        refine LF.gstep rfl rfl (.f _) (fun hg => OpOk.idx (i := a) Try.underlying22 Try.sz3 hl2 (evg rfl hg) (evg rfl hg) rfl (by omega)) ?_
        refine LF.gstep rfl rfl (.f _) (fun hg => OpOk.load Try.one3 (evg rfl hg) rfl (hl2.at (i := a) (by omega))) ?_
        refine LF.gstep rfl rfl (.f _) (fun hg => OpOk.lss (evg rfl hg) rfl) ?_
        refine LF.gstep rfl rfl (.f _) (fun hg => OpOk.move (evg rfl hg)) ?_
        refine LF.gstep rfl rfl (.gt _ _) (fun hg => OpOk.move rfl) ?_
        refine LF.gstep rfl rfl (.gt _ _) (fun hg => OpOk.len_map Try.underlying35 him (evg rfl hg)) ?_
        refine LF.gstep rfl rfl (.gt _ _) (fun hg => OpOk.move rfl) ?_
        refine LF.gstep rfl rfl (.gt _ _) (fun hg => OpOk.neq (evg rfl hg) (evg rfl hg)) ?_
        refine LF.gstep rfl rfl (.gt _ _) (fun hg => OpOk.move (evg rfl hg)) ?_
        refine LF.gstep rfl rfl (.gf _ _) (fun hg => OpOk.move rfl) ?_
        refine LF.gstep rfl rfl (.gf _ _) (fun hg => OpOk.move rfl) ?_
        refine LF.gstep rfl rfl (.gf _ _) (fun hg => OpOk.lss (evg rfl hg) (evg rfl hg)) ?_
        refine LF.gstep rfl rfl (.gt _ _) (fun hg => OpOk.pickOr2 hg rfl rfl) ?_
        refine LF.gstep rfl rfl (.f _) (fun hg => OpOk.pickAnd2 hg rfl rfl) ?_
        refine LF.step (OpOk.pickOr rfl rfl) ?_
        refine LF.nil ?_
        refine PF.next ?_
        refine CF.if rfl (fun hc8 => ?_) (fun hc8 => ?_)
        · exfalso
          have hda := hd2 a
          have hneg : cl a < 0 := by omega
          have hfull := hd3 a (by omega) hneg
          have hlen := seen_len him.nodup hU (fun x => (hd2 x).2) hfull (by omega)
          have hdeg := deg_full hfull (by omega)
          omega
        · refine CF.skip ?_
          refine PF.blockNormal ?_
          refine PF.next ?_
          refine CF.region ?_
          refine LF.step (OpOk.move rfl) ?_
          refine LF.step (OpOk.add rfl rfl (by omega)) ?_
          refine LF.step (OpOk.assign rfl) ?_
          refine LF.nil ?_
          exact PF.again (a + 1) ⟨by omega, kp2⟩ ⟨rfl, rfl, rfl, rfl, rfl, rfl, trivial⟩ (by omega)
    · refine CF.exit ?_
      refine PF.thenExit ?_
      refine PF.thenExit ?_
      refine PF.blockHere ?_
      refine PF.next ?_
      refine CF.seq ?_
      refine CF.region ?_
      refine LF.step (OpOk.move rfl) ?_
      refine LF.step (OpOk.assign rfl) ?_
      refine LF.nil ?_
      refine PF.next ?_
      refine CF.ret ?_
      exact PF.ret1 rfl rfl ⟨rfl, kbl.trans (kp.mono kbl.1)⟩

end Go.Proofs.Ytkhphpobccnodaa
