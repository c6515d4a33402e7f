/- Walks of the functions of chapter 14 that the laws on graphs reach, eighth part. Conditions: each contract names its own. -/
import Derived.Test.YtkhphpobccnodaaFk
namespace Go.Proofs.Ytkhphpobccnodaa
open Go.JE


theorem merged_ct {H : Heap} {B Bm : Nat} {vq vm : Value} {es ms : List (Int × Int)} (n : Nat) (hn : n ≤ 8192) (k : Int) (hq : Ps H B vq es) (hm : Ps H Bm vm ms) :
    Ct Try.prog 15 #[.int .i64 n, vq, vm, .int .i64 k] H (fun v H' => Ns H' H'.size v (mergedS (adjS n es) n k ms) ∧ Kp H.size H H') := by
  have hsym : ∀ i j, adjS n es i j = adjS n es j i := fun i j => adjT_sym _ _ _ _ _
  have hml := hm.len
  refine Ct.enter (args := [.int .i64 n, vq, vm, .int .i64 k]) Try.func15 rfl rfl rfl (fun w0 hw0 => ?_)
  refine CF.seq ?_
  refine CF.region ?_
  refine LF.chg (OpCh.box rfl) ?_
  rintro _ _ ⟨rfl, rfl⟩
  refine LF.step (OpOk.assign rfl) ?_
  refine LF.nil ?_
  refine PF.next ?_
  refine CF.seq ?_
  refine CF.seq ?_
  refine CF.region ?_
  have hkb : Kp H.size H (H.push (.cells (Value.int .i64 k).cells 3)) := (Kp.refl _ _).push (Nat.le_refl _) _
  have hbk : Rw (H.push (.cells (Value.int .i64 k).cells 3)) H.size 3 1 (fun _ => .int .i64 k) := Rw.new1
  have hsb : (H.push (.cells (Value.int .i64 k).cells 3)).size = H.size + 1 := Array.size_push ..
  generalize H.push (.cells (Value.int .i64 k).cells 3) = Hb at hkb hbk hsb ⊢
  refine LF.step (OpOk.move rfl) ?_
  refine LF.step (OpOk.lss rfl rfl) ?_
  refine LF.step (OpOk.move rfl) ?_
  refine LF.gstep rfl rfl (.f _) (fun hg => OpOk.move rfl) ?_
  refine LF.gstep rfl rfl (.f _) (fun hg => OpOk.gtr (evg rfl hg) rfl) ?_
  refine LF.step (OpOk.pickOr rfl rfl) ?_
  refine LF.nil ?_
  refine PF.next ?_
  refine CF.if rfl (fun hc1 => ?_) (fun hc1 => ?_)
  · omega
  · refine CF.skip ?_
    refine PF.next ?_
    refine CF.seq ?_
    refine CF.region ?_
    refine LF.step (OpOk.move rfl) ?_
    refine LF.step (OpOk.move rfl) ?_
    refine LF.call (OpCall.fn Try.ent18 rfl rfl) (neighbours_ct n (by omega) (Sl.kp (Sl.up hq) hkb)) ?_
    rintro _ Hn ⟨gb, r0, rfl, hnw, hkn⟩
    have hsn := hnw.out.lt
    have hkn1 := hkn.1
    refine LF.chg (OpCh.alloc Try.zero46) ?_
    rintro _ _ ⟨rfl, rfl⟩
    refine LF.chg0 (OpCh.store (b := Hn.size) (i := 0) Try.sz46 rfl rfl rfl Rw.new (by decide)) ?_
    rintro _ _ rfl
    obtain ⟨hbg, hkg, hsg⟩ := boxNew (H := Hn) (T := 46) (z := .slice none 0 0) (v := .slice (some ⟨gb, 0, none⟩) n n) rfl
    generalize setc (Hn.push (.cells (Value.slice none 0 0).cells 46)) Hn.size 0 (.slice (some ⟨gb, 0, none⟩) n n) = Hg at hbg hkg hsg ⊢
    refine LF.nil ?_
    refine PF.next ?_
    refine CF.seq ?_
    refine CF.region ?_
    refine LF.step (OpOk.move rfl) ?_
    refine LF.chg (OpCh.make Try.underlying22 Try.info3 rfl rfl rfl (by omega) (by omega)) ?_
    rintro _ Hd1 ⟨rfl, hszd, holdd, hrwd⟩
    have hkd1 : Kp Hg.size Hg Hd1 := ⟨by omega, holdd⟩
    refine LF.chg (OpCh.alloc Try.zero22) ?_
    rintro _ _ ⟨rfl, rfl⟩
    refine LF.chg0 (OpCh.store (b := Hd1.size) (i := 0) Try.sz22 rfl rfl rfl Rw.new (by decide)) ?_
    rintro _ _ rfl
    obtain ⟨hbd, hkd, hsd⟩ := boxNew (H := Hd1) (T := 22) (z := .slice none 0 0) (v := .slice (some ⟨Hg.size, 0, none⟩) n n) rfl
    generalize setc (Hd1.push (.cells (Value.slice none 0 0).cells 22)) Hd1.size 0 (.slice (some ⟨Hg.size, 0, none⟩) n n) = Hd at hbd hkd hsd ⊢
    refine LF.nil ?_
    refine PF.next ?_
    refine CF.seq ?_
    refine CF.seq ?_
    refine CF.region ?_
    refine LF.step (OpOk.move rfl) ?_
    refine LF.step (OpOk.move rfl) ?_
    refine LF.nil ?_
    refine PF.next ?_
    refine CF.block ?_
    have k2 := (hkd1.trans (hkd.mono (by omega)))
    have k12 := hkg.trans (k2.mono hkg.1)
    have hnw9 := (hnw.base (B' := H.size) (by omega)).kp k12
    have hst : MS Hd H.size ⟨H.size, Hn.size, Hd1.size, gb, Hg.size⟩ n k (fun i => some (r0 i)) (adjS n es) (fun _ => 0) :=
      ⟨(hbk.kp hkn (by omega)).kp k12 (by omega), hbg.kp k2 (by omega), hbd, hnw9.out, hrwd.kp hkd (by omega), fun i hi _ => ⟨r0 i, rfl, (hnw9.row i hi).1, (hnw9.row i hi).2⟩, fun i j b hi hj h1 h2 => hnw9.apart i j hi hj (by injection h1 with h1; injection h2 with h2; omega), by refine ⟨?_, ?_, ?_⟩ <;> simp only <;> (have := hnw9.gB; omega)⟩
    have hkH : Kp H.size H Hd := (hkb.trans (hkn.mono (by omega))).trans (k12.mono (by omega))
    refine CF.loop (ι := Ml × Nat) (fun p H1 => p.2 ≤ n ∧ MA H1 H.size p.1 n k (fun i => some (r0 i)) (adjS n es) (fun x => if x < p.2 then x else 0) ∧ Kp H.size H H1) (fun p => [(0, .int .i64 n), (2, vm), (7, .pointer (some ⟨p.1.bk, 0, none⟩)), (9, .pointer (some ⟨p.1.bg, 0, none⟩)), (10, .pointer (some ⟨p.1.bc, 0, none⟩)), (32, .int .i64 n), (33, .int .i64 p.2)]) (fun p => n - p.2) (⟨H.size, Hn.size, Hd1.size, gb, Hg.size⟩, 0) ⟨by simp only; omega, ⟨⟨hst.hk, hst.hg, hst.hc, hst.rg, hst.rc.congr (fun i hi => by simp), fun i hi _ => ⟨r0 i, rfl, (hnw9.row i hi).1, (hnw9.row i hi).2⟩, hst.apart, hst.ord⟩, fun i hi => ⟨r0 i, rfl, (hnw9.row i hi).1, (hnw9.row i hi).2⟩⟩, hkH⟩ ⟨rfl, rfl, rfl, rfl, rfl, rfl, rfl, trivial⟩ ?_
    rintro ⟨z, a⟩ H1 ⟨ha, hma, hkp⟩
    simp only at ha hma
    dsimp only
    refine CF.seq ?_
    refine CF.region ?_
    refine LF.step (OpOk.lss rfl rfl) ?_
    refine LF.nil ?_
    refine PF.next ?_
    refine CF.seq ?_
    refine CF.if rfl (fun hc2 => ?_) (fun hc2 => ?_)
    · refine CF.skip ?_
      refine PF.next ?_
      refine CF.seq ?_
      refine CF.block ?_
      refine CF.seq ?_
      refine CF.region ?_
      refine LF.step (OpOk.move rfl) ?_
      refine LF.step (OpOk.assign rfl) ?_
      refine LF.nil ?_
      refine PF.next ?_
      refine CF.region ?_
      refine LF.step (OpOk.load Try.one22 rfl rfl (hma.1.hc.cell (i := 0) (by omega))) ?_
      refine LF.step (OpOk.move rfl) ?_
      refine LF.step (OpOk.move rfl) ?_
      refine LF.step (OpOk.idx (i := a) Try.underlying22 Try.sz3 (hma.1.sc hn) rfl rfl rfl (by omega)) ?_
      refine LF.chg0 (OpCh.store (b := z.c) (i := 0 + a) Try.sz3 rfl rfl rfl hma.1.rc (by omega)) ?_
      rintro _ _ rfl
      refine LF.nil ?_
      refine PF.blockNormal ?_
      refine PF.next ?_
      refine CF.region ?_
      refine LF.step (OpOk.add rfl rfl (by omega)) ?_
      refine LF.step (OpOk.move rfl) ?_
      refine LF.nil ?_
      refine PF.again (z, a + 1) ⟨by simp only; omega, ⟨?_, ?_⟩, hkp.setc hma.1.ord.2.2⟩ ⟨rfl, rfl, rfl, rfl, rfl, rfl, rfl, trivial⟩ (by simp only; omega)
      all_goals have h9 := hma.setC (b := a) (v := a)
      all_goals rw [show (fun x => if x = a then a else if x < a then x else 0) = (fun x => if x < a + 1 then x else 0) from funext (fun x => by by_cases e1 : x = a; (· subst e1; simp); rw [if_neg e1]; by_cases e2 : x < a; (· rw [if_pos e2, if_pos (show x < a + 1 by omega)]); rw [if_neg e2, if_neg (show ¬ x < a + 1 by omega)])] at h9
      · exact h9.1
      · exact h9.2
    · refine CF.exit ?_
      refine PF.thenExit ?_
      refine PF.thenExit ?_
      refine PF.blockHere ?_
      refine PF.next ?_
      refine CF.seq ?_
      refine CF.region ?_
      refine LF.step (OpOk.makeFunc1 rfl) ?_
      refine LF.step (OpOk.assign rfl) ?_
      refine LF.nil ?_
      refine PF.next ?_
      refine CF.seq ?_
      refine CF.region ?_
      refine LF.step (OpOk.makeFunc2 rfl rfl) ?_
      refine LF.step (OpOk.assign rfl) ?_
      refine LF.nil ?_
      refine PF.next ?_
      refine CF.seq ?_
      refine CF.region ?_
      refine LF.step (OpOk.makeFunc2 rfl rfl) ?_
      refine LF.step (OpOk.assign rfl) ?_
      refine LF.nil ?_
      refine PF.next ?_
      refine CF.seq ?_
      refine CF.seq ?_
      refine CF.region ?_
      refine LF.step (OpOk.assign rfl) ?_
      refine LF.nil ?_
      refine PF.next ?_
      refine CF.block ?_
      obtain rfl : n = a := by omega
      refine CF.loop (ι := (Nat → Nat) × (Nat → Nat) × (Nat → Option Nat) × Bool × Nat) (fun p H1 => Ok (adjS n es) n p.1 ∧ Cl n p.2.1 p.1 ∧ MS H1 H.size z n k p.2.2.1 (nearS (adjS n es) p.1 n) p.2.1 ∧ Kp H.size H H1 ∧ repsS p.1 n < p.2.2.2.2 + (bif p.2.2.2.1 then 0 else n + 1) ∧ (bif p.2.2.2.1 then runS (adjS n es) n k ms p.2.2.2.2 p.1 = mergedF (adjS n es) n k ms else p.1 = mergedF (adjS n es) n k ms)) (fun p => [(0, .int .i64 n), (2, vm), (9, .pointer (some ⟨z.bg, 0, none⟩)), (10, .pointer (some ⟨z.bc, 0, none⟩)), (12, .func (.func 22) #[] #[.pointer (some ⟨z.bc, 0, none⟩)]), (13, .func (.func 23) #[] #[.pointer (some ⟨z.bg, 0, none⟩), .pointer (some ⟨z.bk, 0, none⟩)]), (14, .func (.func 25) #[] #[.pointer (some ⟨z.bc, 0, none⟩), .pointer (some ⟨z.bg, 0, none⟩)]), (15, .bool p.2.2.2.1)]) (fun p => (bif p.2.2.2.1 then p.2.2.2.2 + 1 else 0)) ((fun i => i), (fun x => if x < n then x else 0), (fun i => some (r0 i)), true, n + 1) ⟨ok_id (fun a => adjT_irr _ _ _ a), ⟨fun i hi => by simp only [if_pos hi]; exact Nat.le_refl _, fun i hi => by simp only [if_pos hi], fun i hi => by simp only [if_pos hi]⟩, hma.1.congr (fun i y hi hy _ => (near_id hi hy).symm), hkp, (Nat.lt_of_le_of_lt (cntS_le _ n) (by simp)), rfl⟩ ⟨rfl, rfl, rfl, rfl, rfl, rfl, rfl, rfl, trivial⟩ ?_
      clear hma hkp
      rintro ⟨l, cls, r, ag, fu⟩ H1 ⟨hok, hcl, hms, hkp, hre, hfi⟩
      simp only at hok hcl hms hre hfi
      dsimp only
      refine CF.seq ?_
      refine CF.seq ?_
      refine CF.region ?_
      refine LF.step (OpOk.move rfl) ?_
      refine LF.nil ?_
      refine PF.next ?_
      refine CF.if rfl (fun hc3 => ?_) (fun hc3 => ?_)
      · refine CF.skip ?_
        refine PF.next ?_
        refine CF.block ?_
        refine CF.seq ?_
        refine CF.region ?_
        refine LF.step (OpOk.assign rfl) ?_
        refine LF.nil ?_
        refine PF.next ?_
        refine CF.seq ?_
        refine CF.region ?_
        refine LF.step (OpOk.move rfl) ?_
        refine LF.step (OpOk.lenSl Try.underlying23 (Sl.kp (Sl.up hm) hkp) rfl) ?_
        refine LF.step (OpOk.move rfl) ?_
        refine LF.nil ?_
        refine PF.next ?_
        refine CF.block ?_
        refine CF.loop (ι := (Nat → Nat) × (Nat → Nat) × (Nat → Option Nat) × Bool × Nat) (fun p H3 => p.2.2.2.2 ≤ ms.length ∧ (p.1, p.2.2.2.1) = passT (adjS n es) n k ms l p.2.2.2.2 ∧ Cl n p.2.1 p.1 ∧ MS H3 H.size z n k p.2.2.1 (nearS (adjS n es) p.1 n) p.2.1 ∧ Kp H.size H H3) (fun p => [(0, .int .i64 n), (2, vm), (9, .pointer (some ⟨z.bg, 0, none⟩)), (10, .pointer (some ⟨z.bc, 0, none⟩)), (12, .func (.func 22) #[] #[.pointer (some ⟨z.bc, 0, none⟩)]), (13, .func (.func 23) #[] #[.pointer (some ⟨z.bg, 0, none⟩), .pointer (some ⟨z.bk, 0, none⟩)]), (14, .func (.func 25) #[] #[.pointer (some ⟨z.bc, 0, none⟩), .pointer (some ⟨z.bg, 0, none⟩)]), (15, .bool p.2.2.2.1), (45, vm), (46, .int .i64 ms.length), (47, .int .i64 p.2.2.2.2)]) (fun p => ms.length - p.2.2.2.2) (l, cls, r, false, 0) ⟨by simp only; omega, rfl, hcl, hms, hkp⟩ ⟨rfl, rfl, rfl, rfl, rfl, rfl, rfl, rfl, rfl, rfl, rfl, trivial⟩ ?_
        clear hms hkp hcl
        rintro ⟨l3, cls3, r3, ag3, j⟩ H3 ⟨hj, hpa, hcl, hms3, hkp⟩
        simp only at hj hpa hcl hms3
        dsimp only
        have hm3 : Ps H3 H.size vm ms := Sl.kp (Sl.up hm) hkp
        have hok3 : Ok (adjS n es) n l3 := by have := (passT_ok (k := k) (ms := ms) hok hsym j hj).1; rw [← hpa] at this; exact this
        refine CF.seq ?_
        refine CF.region ?_
        refine LF.step (OpOk.lss rfl rfl) ?_
        refine LF.nil ?_
        refine PF.next ?_
        refine CF.seq ?_
        refine CF.if rfl (fun hc4 => ?_) (fun hc4 => ?_)
        · refine CF.skip ?_
          refine PF.next ?_
          refine CF.seq ?_
          refine CF.block ?_
          refine CF.seq ?_
          refine CF.region ?_
          refine LF.step (OpOk.idxs (i := j) Try.underlying23 Try.sz44 hm3 rfl rfl rfl (by omega)) ?_
          refine LF.step (OpOk.loadAgg Try.agg44 Try.sz44 rfl rfl (hm3.cells (by omega))) ?_
          refine LF.chg (OpCh.alloc Try.zero44) ?_
          rintro _ _ ⟨rfl, rfl⟩
          refine LF.chg0 (OpCh.storeAgg (b := H3.size) (o := 0) (n := 2) Try.sz44 rfl rfl rfl (by simp [Value.oneCell']) Rw.new (by omega)) ?_
          rintro _ _ rfl
          obtain ⟨heb, hkE, hszE⟩ := pairBox (H := H3) (c := (Value.agg #[Value.int .i64 0, .int .i64 0]).cells) rfl (.int .i64 (ms.getD j (0, 0)).1) (.int .i64 (ms.getD j (0, 0)).2)
          generalize setl (H3.push (.cells (Value.agg #[Value.int .i64 0, .int .i64 0]).cells 44)) H3.size 0 [.int .i64 (ms.getD j (0, 0)).1, .int .i64 (ms.getD j (0, 0)).2] = He at heb hkE hszE ⊢
          have he0 : hc He H3.size (0 + 0 * 1) = some (.int .i64 (ms.getD j (0, 0)).1) := heb.cell (i := 0) (by omega)
          have he1 : hc He H3.size (0 + 1 * 1) = some (.int .i64 (ms.getD j (0, 0)).2) := heb.cell (i := 1) (by omega)
          have hmse := hms3.kp hkE
          have hkpe : Kp H.size H He := hkp.trans (hkE.mono hkp.1)
          refine LF.nil ?_
          refine PF.next ?_
          refine CF.seq ?_
          refine CF.seq ?_
          refine CF.region ?_
          refine LF.step (OpOk.indexArr (i := 0) Try.underlying44 Try.sz3 rfl rfl rfl (by omega)) ?_
          refine LF.step (OpOk.load Try.one3 rfl rfl he0) ?_
          refine LF.step (OpOk.lss rfl rfl) ?_
          refine LF.step (OpOk.move rfl) ?_
          refine LF.gstep rfl rfl (.f _) (fun hg => OpOk.indexArr (i := 0) Try.underlying44 Try.sz3 rfl rfl rfl (by omega)) ?_
          refine LF.gstep rfl rfl (.f _) (fun hg => OpOk.load Try.one3 (evg rfl hg) rfl he0) ?_
          refine LF.gstep rfl rfl (.f _) (fun hg => OpOk.move rfl) ?_
          refine LF.gstep rfl rfl (.f _) (fun hg => OpOk.geq (evg rfl hg) (evg rfl hg)) ?_
          refine LF.step (OpOk.pickOr rfl rfl) ?_
          refine LF.step (OpOk.move rfl) ?_
          refine LF.gstep rfl rfl (.f _) (fun hg => OpOk.indexArr (i := 1) Try.underlying44 Try.sz3 rfl rfl rfl (by omega)) ?_
          refine LF.gstep rfl rfl (.f _) (fun hg => OpOk.load Try.one3 (evg rfl hg) rfl he1) ?_
          refine LF.gstep rfl rfl (.f _) (fun hg => OpOk.lss (evg rfl hg) rfl) ?_
          refine LF.step (OpOk.pickOr rfl rfl) ?_
          refine LF.step (OpOk.move rfl) ?_
          refine LF.gstep rfl rfl (.f _) (fun hg => OpOk.indexArr (i := 1) Try.underlying44 Try.sz3 rfl rfl rfl (by omega)) ?_
          refine LF.gstep rfl rfl (.f _) (fun hg => OpOk.load Try.one3 (evg rfl hg) rfl he1) ?_
          refine LF.gstep rfl rfl (.f _) (fun hg => OpOk.move rfl) ?_
          refine LF.gstep rfl rfl (.f _) (fun hg => OpOk.geq (evg rfl hg) (evg rfl hg)) ?_
          refine LF.step (OpOk.pickOr rfl rfl) ?_
          refine LF.nil ?_
          refine PF.next ?_
          refine CF.if rfl (fun hc5 => ?_) (fun hc5 => ?_)
          · refine CF.exit ?_
            refine PF.thenExit ?_
            refine PF.blockHere ?_
            refine PF.next ?_
            refine CF.region ?_
            refine LF.step (OpOk.add rfl rfl (by omega)) ?_
            refine LF.step (OpOk.move rfl) ?_
            refine LF.nil ?_
            have hst : stepS (adjS n es) n k (l3, ag3) (ms.getD j (0, 0)) = (l3, ag3) := if_neg (by omega)
            exact PF.again (l3, cls3, r3, ag3, j + 1) ⟨by simp only; omega, (by simp only; rw [passT_snoc _ _ _ _ _ _ (by omega), ← hpa, hst]), hcl, hmse, hkpe⟩ ⟨rfl, rfl, rfl, rfl, rfl, rfl, rfl, rfl, rfl, rfl, rfl, trivial⟩ (by simp only; omega)
          · refine CF.skip ?_
            refine PF.next ?_
            refine CF.seq ?_
            obtain ⟨p, hp⟩ : ∃ p : Nat, (ms.getD j (0, 0)).1 = p := ⟨(ms.getD j (0, 0)).1.toNat, by omega⟩
            obtain ⟨q, hq9⟩ : ∃ q : Nat, (ms.getD j (0, 0)).2 = q := ⟨(ms.getD j (0, 0)).2.toNat, by omega⟩
            have he0p := he0
            have he1q := he1
            rw [hp] at he0p
            rw [hq9] at he1q
            have hpn : p < n := by omega
            have hqn : q < n := by omega
            have hlpn : l3 p < n := by have := hok3.le p hpn; omega
            have hlqn : l3 q < n := by have := hok3.le q hqn; omega
            have hlpp := hok3.idem p hpn
            have hlqq := hok3.idem q hqn
            obtain ⟨rp, hrp, _, hap⟩ := hmse.row _ hlpn ((hcl.top _ hlpn).2 hlpp)
            refine CF.any (fun H' => H' = He) Try.mixed ?_
            refine AF.take 0 rfl (by kernel_rfl) (by kernel_rfl) (by kernel_rfl) rfl (fun H9 hS9 => OpOk.move rfl) ?_
            refine AF.take 1 rfl (by kernel_rfl) (by kernel_rfl) (by kernel_rfl) rfl (fun H9 hS9 => OpOk.indexArr (i := 0) Try.underlying44 Try.sz3 rfl rfl rfl (by omega)) ?_
            refine AF.take 2 rfl (by kernel_rfl) (by kernel_rfl) (by kernel_rfl) rfl (fun H9 hS9 => OpOk.load Try.one3 rfl rfl (by rw [hS9]; exact he0p)) ?_
            refine AF.take 4 rfl (by kernel_rfl) (by kernel_rfl) (by kernel_rfl) rfl (fun H9 hS9 => OpOk.move rfl) ?_
            refine AF.take 5 rfl (by kernel_rfl) (by kernel_rfl) (by kernel_rfl) rfl (fun H9 hS9 => OpOk.indexArr (i := 1) Try.underlying44 Try.sz3 rfl rfl rfl (by omega)) ?_
            refine AF.take 6 rfl (by kernel_rfl) (by kernel_rfl) (by kernel_rfl) rfl (fun H9 hS9 => OpOk.load Try.one3 rfl rfl (by rw [hS9]; exact he1q)) ?_
            refine AF.call 3 rfl (by kernel_rfl) (OpCall.fnc Try.ent22 rfl rfl) (find_ct hn hcl (hmse.hc.cell (i := 0) (by omega)) (hmse.sc hn) p hpn) (by rintro _ _ ⟨rfl, rfl⟩; rfl) ?_
            rintro _ H9 ⟨rfl, h9⟩
            obtain rfl : He = H9 := h9.symm
            refine AF.call 7 rfl (by kernel_rfl) (OpCall.fnc Try.ent22 rfl rfl) (find_ct hn hcl (hmse.hc.cell (i := 0) (by omega)) (hmse.sc hn) q hqn) (by rintro _ _ ⟨rfl, rfl⟩; rfl) ?_
            rintro _ H9 ⟨rfl, h9⟩
            obtain rfl : He = H9 := h9.symm
            refine AF.take 8 rfl (by kernel_rfl) (by kernel_rfl) (by kernel_rfl) rfl (fun H9 hS9 => OpOk.assign rfl) ?_
            refine AF.take 9 rfl (by kernel_rfl) (by kernel_rfl) (by kernel_rfl) rfl (fun H9 hS9 => OpOk.assign rfl) ?_
            refine AF.done (by kernel_rfl) ?_
            refine PF.next ?_
            refine CF.seq ?_
            refine CF.seq ?_
            refine CF.region ?_
            refine LF.step (OpOk.move rfl) ?_
            refine LF.step (OpOk.move rfl) ?_
            refine LF.step (OpOk.eql rfl rfl) ?_
            refine LF.step (OpOk.move rfl) ?_
            refine LF.gstep rfl rfl (.f _) (fun hg => OpOk.load Try.one46 rfl rfl (hmse.hg.cell (i := 0) (by omega))) ?_
            refine LF.gstep rfl rfl (.f _) (fun hg => OpOk.move rfl) ?_
            refine LF.gstep rfl rfl (.f _) (fun hg => OpOk.idx (i := l3 p) Try.underlying46 Try.sz35 (hmse.sg hn) (evg rfl hg) (evg rfl hg) rfl hlpn) ?_
            refine LF.gstep rfl rfl (.f _) (fun hg => OpOk.eqv (OpOk.load Try.one35 (evg rfl hg) rfl ((hmse.sg hn).at (i := l3 p) (by omega))) (congrArg _ hrp)) ?_
            refine LF.gstep rfl rfl (.f _) (fun hg => OpOk.move rfl) ?_
            refine LF.gstep rfl rfl (.f _) (fun hg => look_ad hap (evg rfl hg) (evg rfl hg) hlqn) ?_
            refine LF.step (OpOk.pickOr rfl rfl) ?_
            refine LF.step (OpOk.move rfl) ?_
            refine LF.gstep rfl rfl (.f _) (fun hg => OpOk.move rfl) ?_
            refine LF.gstep rfl rfl (.f _) (fun hg => OpOk.move rfl) ?_
            refine LF.gstep rfl rfl (.f _) (fun hg => OpOk.move rfl) ?_
            refine LF.gcallR rfl rfl (.f _) (fun hg => OpCall.fnc Try.ent23 (evg rfl hg) (evl2 (evg rfl hg) (evg rfl hg))) (fun _ => harder_ct hn hmse (fun x y h9 => (hcl.top y (nearS_rep hok3 h9).2).2 (nearS_rep hok3 h9).1) hlpn ((hcl.top _ hlpn).2 hlpp) hlqn ((hcl.top _ hlqn).2 hlqq)) (fun _ _ h => h.1) ?_
            intro H9 h9
            have hk9 : Kp He.size He H9 := by rcases h9 with ⟨_, _, h9⟩ | ⟨_, rfl⟩; exact h9; exact Kp.refl _ _
            clear h9
            have hms9 := hmse.kp hk9
            have hkp9 : Kp H.size H H9 := hkpe.trans (hk9.mono hkpe.1)
            refine LF.step (OpOk.pickOr rfl rfl) ?_
            refine LF.nil ?_
            refine PF.next ?_
            refine CF.if rfl (fun hc6 => ?_) (fun hc6 => ?_)
            · refine CF.exit ?_
              refine PF.thenExit ?_
              refine PF.blockHere ?_
              refine PF.next ?_
              refine CF.region ?_
              refine LF.step (OpOk.add rfl rfl (by omega)) ?_
              refine LF.step (OpOk.move rfl) ?_
              refine LF.nil ?_
              have hst : stepS (adjS n es) n k (l3, ag3) (ms.getD j (0, 0)) = (l3, ag3) := if_neg (fun h9 => may_false hok3 hsym hlpn hlqn hlpp hlqq (by rcases hc6 with (h8 | h8) | h8; (· exact .inl (.inl (by omega))); (· exact .inl (.inr h8)); exact .inr h8) (by have := h9.2; rw [hp, hq9] at this; exact this))
              exact PF.again (l3, cls3, r3, ag3, j + 1) ⟨by simp only; omega, (by simp only; rw [passT_snoc _ _ _ _ _ _ (by omega), ← hpa, hst]), hcl, hms9, hkp9⟩ ⟨rfl, rfl, rfl, rfl, rfl, rfl, rfl, rfl, rfl, rfl, rfl, trivial⟩ (by simp only; omega)
            · refine CF.skip ?_
              refine PF.next ?_
              refine CF.seq ?_
              refine CF.region ?_
              refine LF.step (OpOk.move rfl) ?_
              refine LF.step (OpOk.move rfl) ?_
              refine LF.step (OpOk.move rfl) ?_
              refine LF.step (OpOk.eqv (OpOk.min rfl rfl) (congrArg _ (min_nat (l3 p) (l3 q)))) ?_
              refine LF.step (OpOk.move rfl) ?_
              refine LF.step (OpOk.move rfl) ?_
              refine LF.step (OpOk.eqv (OpOk.max rfl rfl) (congrArg _ (max_nat (l3 p) (l3 q)))) ?_
              obtain ⟨hAB, hBn, hlA, hlB, hnAB, hjAB⟩ := ab_facts hsym hlpn hlqn hlpp hlqq (by omega) hc6.1.2
              refine LF.call (OpCall.fnc Try.ent25 rfl rfl) (join_ct hn hms9 hAB hBn ((hcl.top _ (by omega)).2 hlA) ((hcl.top _ hBn).2 hlB) (fun y hy => by have h9 := nearS_rep hok3 hy; exact ⟨(hcl.top y h9.2).2 h9.1, fun e9 => (by rw [e9, nearS_sym hsym, hnAB] at hy; cases hy), fun e9 => (by rw [e9, nearS_irr hok3] at hy; cases hy)⟩)) ?_
              rintro _ H10 ⟨r10, hms10, hk10⟩
              refine LF.nil ?_
              refine PF.next ?_
              refine CF.region ?_
              refine LF.step (OpOk.assign rfl) ?_
              refine LF.nil ?_
              refine PF.blockNormal ?_
              refine PF.next ?_
              refine CF.region ?_
              refine LF.step (OpOk.add rfl rfl (by omega)) ?_
              refine LF.step (OpOk.move rfl) ?_
              refine LF.nil ?_
              have hmay := may_true hok3 hsym hlpn hlqn hlpp hlqq (by omega) hc6.1.2 hc6.2
              have hst : stepS (adjS n es) n k (l3, ag3) (ms.getD j (0, 0)) = (joinS l3 (min (l3 p) (l3 q)) (max (l3 p) (l3 q)), true) := by unfold stepS; rw [hp, hq9, ← hjAB]; exact if_pos ⟨by omega, hmay⟩
              exact PF.again (joinS l3 (min (l3 p) (l3 q)) (max (l3 p) (l3 q)), (fun x => if x = max (l3 p) (l3 q) then min (l3 p) (l3 q) else cls3 x), r10, true, j + 1) ⟨by simp only; omega, (by simp only; rw [passT_snoc _ _ _ _ _ _ (by omega), ← hpa, hst]), hcl.join hlA hlB hAB hBn, hms10.congr (fun i y hi hy hc => jg_eq hok3 hsym hAB hnAB (fun e9 => by rw [e9, if_pos rfl] at hc; omega)), hkp9.trans hk10⟩ ⟨rfl, rfl, rfl, rfl, rfl, rfl, rfl, rfl, rfl, rfl, rfl, trivial⟩ (by simp only; omega)
        · refine CF.exit ?_
          refine PF.thenExit ?_
          refine PF.thenExit ?_
          refine PF.blockHere ?_
          refine PF.blockNormal ?_
          obtain rfl : j = ms.length := by omega
          subst hc3
          simp only [cond_true] at hre hfi
          obtain ⟨_, hle3, hlt3⟩ := passT_ok (k := k) (ms := ms) hok hsym ms.length (Nat.le_refl _)
          rw [← hpa] at hle3 hlt3
          simp only at hle3 hlt3
          obtain ⟨f2, rfl⟩ : ∃ f2, fu = f2 + 1 := ⟨fu - 1, by omega⟩
          have hps : passS (adjS n es) n k ms l = (l3, ag3) := hpa.symm
          simp only [runS, hps] at hfi
          refine PF.again (l3, cls3, r3, ag3, f2) ⟨hok3, hcl, hms3, hkp, ?_, ?_⟩ ⟨rfl, rfl, rfl, rfl, rfl, rfl, rfl, rfl, trivial⟩ ?_
          · cases ag3 with
            | true => have := hlt3 rfl; simp only [cond_true]; omega
            | false => have := cntS_le (fun i => decide (l3 i = i)) n; simp only [cond_false, repsS]; omega
          · cases ag3 <;> exact hfi
          · cases ag3 <;> simp only [cond_true, cond_false] <;> omega
      · refine CF.exit ?_
        refine PF.thenExit ?_
        refine PF.thenExit ?_
        refine PF.blockHere ?_
        refine PF.next ?_
        refine CF.seq ?_
        refine CF.seq ?_
        subst hc3
        simp only [cond_false] at hfi
        refine CF.region ?_
        refine LF.step (OpOk.move rfl) ?_
        refine LF.step (OpOk.move rfl) ?_
        refine LF.nil ?_
        refine PF.next ?_
        refine CF.block ?_
        refine CF.loop (ι := Nat) (fun a H4 => a ≤ n ∧ Rw H4 z.bc 22 1 (fun _ => .slice (some ⟨z.c, 0, none⟩) n n) ∧ Rw H4 z.c 3 n (fun i => .int .i64 ((if i < a then l i else cls i : Nat) : Int)) ∧ Kp H.size H H4) (fun a => [(10, .pointer (some ⟨z.bc, 0, none⟩)), (12, .func (.func 22) #[] #[.pointer (some ⟨z.bc, 0, none⟩)]), (105, .int .i64 n), (106, .int .i64 a)]) (fun a => n - a) 0 ⟨by omega, hms.hc, hms.rc.congr (fun i hi => by simp), hkp⟩ ⟨rfl, rfl, rfl, rfl, trivial⟩ ?_
        have hord := hms.ord
        have hbcne : z.bc ≠ z.c := Rw.ne hms.hc hms.rc (by decide)
        clear hms hkp
        rintro a H4 ⟨ha, hbc4, hrc4, hkp⟩
        have hmix : Cl n (fun i => if i < a then l i else cls i) l := ⟨fun i hi => by by_cases e1 : i < a <;> simp only [e1, if_true, if_false]; exact hok.le i hi; exact hcl.le i hi, fun i hi => by by_cases e1 : i < a <;> simp only [e1, if_true, if_false]; exact hok.idem i hi; exact hcl.same i hi, fun i hi => by by_cases e1 : i < a <;> simp only [e1, if_true, if_false]; exact hcl.top i hi⟩
        refine CF.seq ?_
        refine CF.region ?_
        refine LF.step (OpOk.lss rfl rfl) ?_
        refine LF.nil ?_
        refine PF.next ?_
        refine CF.seq ?_
        refine CF.if rfl (fun hc7 => ?_) (fun hc7 => ?_)
        · refine CF.skip ?_
          refine PF.next ?_
          refine CF.seq ?_
          refine CF.block ?_
          refine CF.seq ?_
          refine CF.region ?_
          refine LF.step (OpOk.move rfl) ?_
          refine LF.step (OpOk.assign rfl) ?_
          refine LF.nil ?_
          refine PF.next ?_
          have hbc5 : ∀ H9, (H9 = H4 ∨ ∃ v, H9 = setc H4 z.c (0 + a) v) → hc H9 z.bc 0 = some (.slice (some ⟨z.c, 0, none⟩) n n) := by rintro H9 (rfl | ⟨v, rfl⟩); exact hbc4.cell (i := 0) (by omega); exact (hbc4.setOther hbcne).cell (i := 0) (by omega)
          refine CF.any (fun H' => H' = H4 ∨ ∃ v, H' = setc H4 z.c (0 + a) v) Try.mixed ?_
          refine AF.take 0 rfl (by kernel_rfl) (by kernel_rfl) (by kernel_rfl) (.inl rfl) (fun H9 hS9 => OpOk.load Try.one22 rfl rfl (hbc5 H9 hS9)) ?_
          refine AF.take 1 rfl (by kernel_rfl) (by kernel_rfl) (by kernel_rfl) (.inl rfl) (fun H9 hS9 => OpOk.move rfl) ?_
          refine AF.take 2 rfl (by kernel_rfl) (by kernel_rfl) (by kernel_rfl) (.inl rfl) (fun H9 hS9 => OpOk.move rfl) ?_
          refine AF.take 3 rfl (by kernel_rfl) (by kernel_rfl) (by kernel_rfl) (.inl rfl) (fun H9 hS9 => OpOk.move rfl) ?_
          refine AF.call 4 rfl (by kernel_rfl) (OpCall.fnc Try.ent22 rfl rfl) (find_ct hn hmix (hbc4.cell (i := 0) (by omega)) (Rw1 hrc4 (by omega)) a (by omega)) (by rintro _ _ ⟨rfl, rfl⟩; exact .inl rfl) ?_
          rintro _ H9 ⟨rfl, h9⟩
          obtain rfl : H4 = H9 := h9.symm
          refine AF.take 5 rfl (by kernel_rfl) (by kernel_rfl) (by kernel_rfl) (.inl rfl) (fun H9 hS9 => OpOk.idxE (i := a) (B := z.c + 1) Try.underlying22 Try.sz3 (by rcases hS9 with rfl | ⟨v, rfl⟩; exact ⟨_, hrc4.sl (by omega) (by omega) (by omega) (Nat.le_refl n)⟩; exact ⟨_, hrc4.set.sl (by omega) (by omega) (by omega) (Nat.le_refl n)⟩) rfl rfl rfl (by omega)) ?_
          refine AF.one 6 (by kernel_rfl) (AF.next0 6 rfl (OpCh.store (b := z.c) (i := 0 + a) Try.sz3 rfl rfl rfl hrc4 (by omega)) (by rintro _ _ rfl; exact .inr ⟨_, rfl⟩) ?_)
          rintro _ _ rfl
          refine AF.done (by kernel_rfl) ?_
          refine PF.blockNormal ?_
          refine PF.next ?_
          refine CF.region ?_
          refine LF.step (OpOk.add rfl rfl (by omega)) ?_
          refine LF.step (OpOk.move rfl) ?_
          refine LF.nil ?_
          refine PF.again (a + 1) ⟨by omega, hbc4.setOther hbcne, hrc4.set.congr (fun i hi => ?_), hkp.setc hord.2.2⟩ ⟨rfl, rfl, rfl, rfl, trivial⟩ (by omega)
          by_cases e1 : i = 0 + a
          · rw [if_pos e1, if_pos (show i < a + 1 by omega), show i = a by omega]
          · rw [if_neg e1]; by_cases e2 : i < a
            · rw [if_pos e2, if_pos (show i < a + 1 by omega)]
            · rw [if_neg e2, if_neg (show ¬ i < a + 1 by omega)]
        · refine CF.exit ?_
          refine PF.thenExit ?_
          refine PF.thenExit ?_
          refine PF.blockHere ?_
          refine PF.next ?_
          refine CF.seq ?_
          refine CF.region ?_
          refine LF.step (OpOk.load Try.one22 rfl rfl (hbc4.cell (i := 0) (by omega))) ?_
          refine LF.step (OpOk.assign rfl) ?_
          refine LF.nil ?_
          refine PF.next ?_
          refine CF.ret ?_
          obtain rfl : n = a := by omega
          exact PF.ret1 rfl rfl ⟨nt_ns (by rw [← hfi]; exact (Rw1 hrc4 (by omega)).congr (fun i hi => by rw [if_pos (by omega)])), hkp⟩

end Go.Proofs.Ytkhphpobccnodaa
