/- Walks of the functions of chapter 14 that the laws on graphs reach, third part. Conditions: each contract names its own. -/
import Derived.Test.YtkhphpobccnodaaFf
namespace Go.Proofs.Ytkhphpobccnodaa
open Go.JE


theorem in_ct {H : Heap} {b : Nat} (a : Int) (n : Nat) (hb : hc H b 0 = some (.int .i64 n)) :
    Ct Try.prog 29 #[.int .i64 a, .pointer (some ⟨b, 0, none⟩)] H (fun v H' => v = .bool (decide (0 ≤ a) && decide (a < n)) ∧ H' = H) := by
  refine Ct.enter (args := [.int .i64 a, .pointer (some ⟨b, 0, none⟩)]) Try.func29 rfl rfl rfl (fun w0 hw0 => ?_)
  refine CF.seq ?_
  refine CF.region ?_
  refine LF.step (OpOk.assign rfl) ?_
  refine LF.nil ?_
  refine PF.next ?_
  refine CF.seq ?_
  refine CF.region ?_
  refine LF.step (OpOk.move rfl) ?_
  refine LF.step (OpOk.geq rfl rfl) ?_
  refine LF.step (OpOk.move rfl) ?_
  refine LF.gstep rfl rfl (.t _) (fun hg => OpOk.move rfl) ?_
  refine LF.gstep rfl rfl (.t _) (fun hg => OpOk.load Try.one3 rfl rfl hb) ?_
  refine LF.gstep rfl rfl (.t _) (fun hg => OpOk.lss (evg rfl hg) (evg rfl hg)) ?_
  refine LF.step (OpOk.pickAnd rfl rfl) ?_
  refine LF.step (OpOk.assign rfl) ?_
  refine LF.nil ?_
  refine PF.next ?_
  refine CF.ret ?_
  exact PF.ret1 rfl rfl ⟨rfl, rfl⟩


theorem neighbours_ct {H : Heap} {B : Nat} {vq : Value} {es : List (Int × Int)} (n : Nat) (hn : n ≤ 10000) (hq : Ps H B vq es) :
    Ct Try.prog 18 #[.int .i64 n, vq] H (fun v H' => ∃ gb r, v = .slice (some ⟨gb, 0, none⟩) n n ∧ Nw H' H.size gb n r (adjS n es) ∧ Kp H.size H H') := by
  have hlen := hq.len
  have hq1 : Ps (H.push (.cells #[.int .i64 n] 3)) H.size vq es := Sl.kp hq.up ((Kp.refl H.size H).push (Nat.le_refl _) _)
  refine Ct.enter (args := [.int .i64 n, vq]) Try.func18 rfl rfl rfl (fun w0 hw0 => ?_)
  refine CF.seq ?_
  refine CF.region ?_
  refine LF.chg (OpCh.box rfl) ?_
  rintro _ _ ⟨rfl, rfl⟩
  refine LF.step (OpOk.assign rfl) ?_
  refine LF.nil ?_
  refine PF.next ?_
  refine CF.seq ?_
  refine CF.region ?_
  have hbox : Rw (H.push (.cells #[.int .i64 n] 3)) H.size 3 1 (fun _ => .int .i64 n) := Rw.new1
  refine LF.step (OpOk.load Try.one3 rfl rfl (hbox.cell (i := 0) (by omega))) ?_
  refine LF.chg (OpCh.make Try.underlying46 Try.info35 rfl rfl rfl (by omega) (by omega)) ?_
  rintro _ H2 ⟨rfl, hsz2, hold2, hrw2⟩
  rw [Array.size_push] at hsz2 hrw2
  rw [Array.size_push]
  have hbox2 := hbox.of (hold2 H.size (by simp))
  have hkp2 : Kp H.size H H2 := ⟨by omega, fun k hk => (hold2 k (by simp; omega)).trans (push_old hk)⟩
  refine LF.step (OpOk.assign rfl) ?_
  refine LF.nil ?_
  refine PF.next ?_
  refine CF.seq ?_
  refine CF.seq ?_
  refine CF.region ?_
  refine LF.step (OpOk.move rfl) ?_
  refine LF.step (OpOk.lenS Try.underlying46 rfl) ?_
  refine LF.step (OpOk.move rfl) ?_
  refine LF.nil ?_
  refine PF.next ?_
  refine CF.block ?_
  refine CF.loop (ι := Nat × (Nat → Nat)) (fun p H1 => p.1 ≤ n ∧ Rw H1 H.size 3 1 (fun _ => .int .i64 n) ∧ Rw H1 (H.size + 1) 35 n (fun i => .map (if i < p.1 then some (p.2 i) else none)) ∧ (∀ i, i < p.1 → H.size + 2 ≤ p.2 i ∧ Im H1 (p.2 i) []) ∧ (∀ i j, i < p.1 → j < p.1 → p.2 i = p.2 j → i = j) ∧ Kp H.size H H1) (fun p => [(1, vq), (2, .pointer (some ⟨H.size, 0, none⟩)), (5, .slice (some ⟨H.size + 1, 0, none⟩) n n), (13, .int .i64 n), (14, .int .i64 p.1)]) (fun p => n - p.1) (0, fun _ => 0) ⟨by omega, hbox2, hrw2.congr (fun i hi => by simp), by intro i hi; simp only at hi; omega, by intro i j hi; simp only at hi; omega, hkp2⟩ ⟨rfl, rfl, rfl, rfl, rfl, trivial⟩ ?_
  rintro ⟨k, r⟩ H1 ⟨hk, hbox, hop, him, hinj, hkp⟩
  simp only at hk hop him hinj
  dsimp only
  have hsz1 := hop.lt
  refine CF.seq ?_
  refine CF.region ?_
  refine LF.step (OpOk.lss rfl rfl) ?_
  refine LF.nil ?_
  refine PF.next ?_
  refine CF.seq ?_
  refine CF.if rfl (fun hc1 => ?_) (fun hc1 => ?_)
  · refine CF.skip ?_
    refine PF.next ?_
    refine CF.seq ?_
    refine CF.block ?_
    refine CF.seq ?_
    refine CF.region ?_
    refine LF.step (OpOk.move rfl) ?_
    refine LF.step (OpOk.assign rfl) ?_
    refine LF.nil ?_
    refine PF.next ?_
    refine CF.region ?_
    refine LF.step (OpOk.move rfl) ?_
    refine LF.step (OpOk.move rfl) ?_
    refine LF.chg OpCh.makeMap0 ?_
    rintro _ _ ⟨rfl, rfl⟩
    refine LF.step (OpOk.idx (i := k) Try.underlying46 Try.sz35 (Rw1 (hop.push _) (by omega)) rfl rfl rfl (by omega)) ?_
    refine LF.chg0 (OpCh.store (b := H.size + 1) (i := 0 + k) Try.sz35 rfl rfl rfl (hop.push _) (by omega)) ?_
    rintro _ _ rfl
    refine LF.nil ?_
    refine PF.blockNormal ?_
    refine PF.next ?_
    refine CF.region ?_
    refine LF.step (OpOk.add rfl rfl (by omega)) ?_
    refine LF.step (OpOk.move rfl) ?_
    refine LF.nil ?_
    refine PF.again (k + 1, fun i => if i = k then H1.size else r i) ⟨by simp only; omega, ?_, ?_, ?_, ?_, ?_⟩ ⟨rfl, rfl, rfl, rfl, rfl, trivial⟩ (by simp only; omega)
    · exact (hbox.push _).setOther (by omega)
    · refine ((hop.push _).set).congr (fun i hi => ?_)
      by_cases e1 : i = k
      · subst e1; simp
      · have e2 : ¬ i = 0 + k := by omega
        rw [if_neg e2]; simp only [if_neg e1]
        by_cases e3 : i < k
        · rw [if_pos e3, if_pos (show i < k + 1 by omega)]
        · rw [if_neg e3, if_neg (show ¬ i < k + 1 by omega)]
    · intro i hi; simp only at hi ⊢
      by_cases e1 : i = k
      · rw [if_pos e1]; exact ⟨by omega, (Im.new).of (setc_other (by omega))⟩
      · rw [if_neg e1]; have h1 := him i (by omega); exact ⟨h1.1, (h1.2.push _).of (setc_other (by omega))⟩
    · intro i j hi hj; simp only at hi hj ⊢
      by_cases e1 : i = k <;> by_cases e2 : j = k
      · intro _; omega
      · rw [if_pos e1, if_neg e2]; have := (him j (by omega)).2.lt; intro _; omega
      · rw [if_neg e1, if_pos e2]; have := (him i (by omega)).2.lt; intro _; omega
      · rw [if_neg e1, if_neg e2]; exact hinj i j (by omega) (by omega)
    · exact (hkp.push (Nat.le_refl _) _).setc (by omega)
  · refine CF.exit ?_
    refine PF.thenExit ?_
    refine PF.thenExit ?_
    refine PF.blockHere ?_
    refine PF.next ?_
    refine CF.seq ?_
    refine CF.region ?_
    refine LF.step (OpOk.makeFunc1 rfl) ?_
    refine LF.step (OpOk.assign rfl) ?_
    refine LF.nil ?_
    refine PF.next ?_
    refine CF.seq ?_
    refine CF.seq ?_
    refine CF.region ?_
    refine LF.step (OpOk.move rfl) ?_
    refine LF.step (OpOk.lenSl Try.underlying23 (Sl.kp (Sl.up hq) hkp) rfl) ?_
    refine LF.step (OpOk.move rfl) ?_
    refine LF.nil ?_
    refine PF.next ?_
    refine CF.block ?_
    obtain ⟨gb, hgb⟩ : ∃ gb, gb = H.size + 1 := ⟨_, rfl⟩
    obtain rfl : n = k := by omega
    rw [← hgb] at hop ⊢
    have hnw0 : Nw H1 (H.size + 1) gb n r (fun _ _ => false) := ⟨hop.congr (fun i hi => by rw [if_pos hi]), by omega, fun i hi => ⟨by have := (him i hi).1; omega, [], (him i hi).2, by intro k; simp [lkM]⟩, hinj⟩
    refine CF.loop (ι := Nat) (fun j H1 => j ≤ es.length ∧ Nw H1 (H.size + 1) gb n r (adjT n es j) ∧ Rw H1 H.size 3 1 (fun _ => .int .i64 n) ∧ Kp H.size H H1) (fun j => [(2, .pointer (some ⟨H.size, 0, none⟩)), (5, .slice (some ⟨gb, 0, none⟩) n n), (7, .func (.func 29) #[] #[.pointer (some ⟨H.size, 0, none⟩)]), (23, vq), (24, .int .i64 es.length), (25, .int .i64 j)]) (fun j => es.length - j) 0 ⟨by omega, hnw0, hbox, hkp⟩ ⟨rfl, rfl, rfl, rfl, rfl, rfl, trivial⟩ ?_
    clear hnw0 hop him hinj hsz1 hbox hkp
    rintro j H1 ⟨hj, hnw, hbox, hkp⟩
    have hq2 : Ps H1 H.size vq es := hq.up.kp hkp
    have hkp1 := hkp.1
    refine CF.seq ?_
    refine CF.region ?_
    refine LF.step (OpOk.lss rfl rfl) ?_
    refine LF.nil ?_
    refine PF.next ?_
    refine CF.seq ?_
    refine CF.if rfl (fun hc2 => ?_) (fun hc2 => ?_)
    · refine CF.skip ?_
      refine PF.next ?_
      refine CF.seq ?_
      refine CF.block ?_
      refine CF.seq ?_
      refine CF.region ?_
      refine LF.step (OpOk.idxs (i := j) Try.underlying23 Try.sz44 hq2 rfl rfl rfl (by omega)) ?_
      refine LF.step (OpOk.loadAgg Try.agg44 Try.sz44 rfl rfl (hq2.cells (by omega))) ?_
      refine LF.chg (OpCh.alloc Try.zero44) ?_
      rintro _ _ ⟨rfl, rfl⟩
      refine LF.chg0 (OpCh.storeAgg (b := H1.size) (o := 0) (n := 2) Try.sz44 rfl rfl rfl (by simp [Value.oneCell']) Rw.new (by omega)) ?_
      rintro _ _ rfl
      obtain ⟨heb, hkE, hszE⟩ := pairBox (H := H1) (c := (Value.agg #[Value.int .i64 0, .int .i64 0]).cells) rfl (.int .i64 (es.getD j (0, 0)).1) (.int .i64 (es.getD j (0, 0)).2)
      generalize setl (H1.push (.cells (Value.agg #[Value.int .i64 0, .int .i64 0]).cells 44)) H1.size 0 [.int .i64 (es.getD j (0, 0)).1, .int .i64 (es.getD j (0, 0)).2] = He at heb hkE hszE ⊢
      have he0 : hc He H1.size (0 + 0 * 1) = some (.int .i64 (es.getD j (0, 0)).1) := heb.cell (i := 0) (by omega)
      have he1 : hc He H1.size (0 + 1 * 1) = some (.int .i64 (es.getD j (0, 0)).2) := heb.cell (i := 1) (by omega)
      have hnwe := hnw.kp hkE
      have hboxe := (hbox.kp hkE hbox.lt)
      have hkpe : Kp H.size H He := hkp.trans (hkE.mono hkp.1)
      refine LF.nil ?_
      refine PF.next ?_
      refine CF.seq ?_
      refine CF.region ?_
      refine LF.step (OpOk.move rfl) ?_
      refine LF.step (OpOk.indexArr (i := 0) Try.underlying44 Try.sz3 rfl rfl rfl (by omega)) ?_
      refine LF.step (OpOk.load Try.one3 rfl rfl he0) ?_
      refine LF.call (OpCall.fnc Try.ent29 rfl rfl) (in_ct _ n (hboxe.cell (i := 0) (by omega))) ?_
      rintro _ H9 ⟨rfl, h9⟩
      obtain rfl : He = H9 := h9.symm
      refine LF.step (OpOk.move rfl) ?_
      refine LF.gstep rfl rfl (.t _) (fun hg => OpOk.move rfl) ?_
      refine LF.gstep rfl rfl (.t _) (fun hg => OpOk.indexArr (i := 1) Try.underlying44 Try.sz3 rfl rfl rfl (by omega)) ?_
      refine LF.gstep rfl rfl (.t _) (fun hg => OpOk.load Try.one3 (evg rfl hg) rfl he1) ?_
      refine LF.gcall rfl rfl (.t _) (fun hg => OpCall.fnc Try.ent29 (evg rfl hg) (evl1 (evg rfl hg))) (fun _ => in_ct _ n (hboxe.cell (i := 0) (by omega))) (fun _ _ h => h) ?_
      refine LF.step (OpOk.pickAnd rfl rfl) ?_
      refine LF.step (OpOk.move rfl) ?_
      refine LF.gstep rfl rfl (.t _) (fun hg => OpOk.indexArr (i := 0) Try.underlying44 Try.sz3 rfl rfl rfl (by omega)) ?_
      refine LF.gstep rfl rfl (.t _) (fun hg => OpOk.load Try.one3 (evg rfl hg) rfl he0) ?_
      refine LF.gstep rfl rfl (.t _) (fun hg => OpOk.indexArr (i := 1) Try.underlying44 Try.sz3 rfl rfl rfl (by omega)) ?_
      refine LF.gstep rfl rfl (.t _) (fun hg => OpOk.load Try.one3 (evg rfl hg) rfl he1) ?_
      refine LF.gstep rfl rfl (.t _) (fun hg => OpOk.neq (evg rfl hg) (evg rfl hg)) ?_
      refine LF.step (OpOk.pickAnd rfl rfl) ?_
      refine LF.nil ?_
      refine PF.next ?_
      refine CF.if rfl (fun hc3 => ?_) (fun hc3 => ?_)
      · have ha : (es.getD j (0, 0)).1.toNat < n := by omega
        have hb : (es.getD j (0, 0)).2.toNat < n := by omega
        have hS0 : He[H1.size]? = He[H1.size]? ∧ He[gb]? = He[gb]? := ⟨rfl, rfl⟩
        refine CF.any (fun H' => H'[H1.size]? = He[H1.size]? ∧ H'[gb]? = He[gb]?) Try.mixed ?_
        refine AF.take 0 rfl (by kernel_rfl) (by kernel_rfl) (by kernel_rfl) hS0 (fun H9 hS9 => OpOk.move rfl) ?_
        refine AF.take 1 rfl (by kernel_rfl) (by kernel_rfl) (by kernel_rfl) hS0 (fun H9 hS9 => OpOk.indexArr (i := 0) Try.underlying44 Try.sz3 rfl rfl rfl (by omega)) ?_
        refine AF.take 2 rfl (by kernel_rfl) (by kernel_rfl) (by kernel_rfl) hS0 (fun H9 hS9 => OpOk.load Try.one3 rfl rfl ((hc_of hS9.1).trans he0)) ?_
        refine AF.take 3 rfl (by kernel_rfl) (by kernel_rfl) (by kernel_rfl) hS0 (fun H9 hS9 => OpOk.idx (i := (es.getD j (0, 0)).1.toNat) Try.underlying46 Try.sz35 (Rw1 (hnwe.out.of hS9.2) (by omega)) rfl rfl (by omega) (by omega)) ?_
        refine AF.take 4 rfl (by kernel_rfl) (by kernel_rfl) (by kernel_rfl) hS0 (fun H9 hS9 => OpOk.load Try.one35 rfl rfl ((Rw1 (hnwe.out.of hS9.2) (by omega)).at (i := (es.getD j (0, 0)).1.toNat) (by omega))) ?_
        refine AF.take 5 rfl (by kernel_rfl) (by kernel_rfl) (by kernel_rfl) hS0 (fun H9 hS9 => OpOk.indexArr (i := 1) Try.underlying44 Try.sz3 rfl rfl rfl (by omega)) ?_
        refine AF.take 6 rfl (by kernel_rfl) (by kernel_rfl) (by kernel_rfl) hS0 (fun H9 hS9 => OpOk.load Try.one3 rfl rfl ((hc_of hS9.1).trans he1)) ?_
        refine AF.take 7 rfl (by kernel_rfl) (by kernel_rfl) (by kernel_rfl) hS0 (fun H9 hS9 => OpOk.move rfl) ?_
        refine AF.take 8 rfl (by kernel_rfl) (by kernel_rfl) (by kernel_rfl) hS0 (fun H9 hS9 => OpOk.indexArr (i := 1) Try.underlying44 Try.sz3 rfl rfl rfl (by omega)) ?_
        refine AF.take 9 rfl (by kernel_rfl) (by kernel_rfl) (by kernel_rfl) hS0 (fun H9 hS9 => OpOk.load Try.one3 rfl rfl ((hc_of hS9.1).trans he1)) ?_
        refine AF.take 10 rfl (by kernel_rfl) (by kernel_rfl) (by kernel_rfl) hS0 (fun H9 hS9 => OpOk.idx (i := (es.getD j (0, 0)).2.toNat) Try.underlying46 Try.sz35 (Rw1 (hnwe.out.of hS9.2) (by omega)) rfl rfl (by omega) (by omega)) ?_
        refine AF.take 11 rfl (by kernel_rfl) (by kernel_rfl) (by kernel_rfl) hS0 (fun H9 hS9 => OpOk.load Try.one35 rfl rfl ((Rw1 (hnwe.out.of hS9.2) (by omega)).at (i := (es.getD j (0, 0)).2.toNat) (by omega))) ?_
        refine AF.take 12 rfl (by kernel_rfl) (by kernel_rfl) (by kernel_rfl) hS0 (fun H9 hS9 => OpOk.indexArr (i := 0) Try.underlying44 Try.sz3 rfl rfl rfl (by omega)) ?_
        refine AF.take 13 rfl (by kernel_rfl) (by kernel_rfl) (by kernel_rfl) hS0 (fun H9 hS9 => OpOk.load Try.one3 rfl rfl ((hc_of hS9.1).trans he0)) ?_
        obtain ⟨hra, La, hma, hla⟩ := hnwe.row _ ha
        have hxy : (((es.getD j (0, 0)).1.toNat : Nat) : Int) = (es.getD j (0, 0)).1 := by omega
        have hyx : (((es.getD j (0, 0)).2.toNat : Nat) : Int) = (es.getD j (0, 0)).2 := by omega
        have hne1 : ∀ i, i < n → r i ≠ H1.size := fun i hi e1 => by have := hnw.lt hi; omega
        refine AF.chg 14 rfl (by kernel_rfl) (OpCh.mapEntry Try.underlying35 Try.underlying3 Try.zero4 hma rfl rfl) (by rintro _ _ ⟨st, rfl, him, htw⟩; exact ⟨htw.2 _ (hne1 _ ha).symm, htw.2 _ (hnwe.ne ha).symm⟩) ?_
        rintro _ H5 ⟨st5, rfl, him5, htw5⟩
        have hS5 : H5[H1.size]? = He[H1.size]? ∧ H5[gb]? = He[gb]? := ⟨htw5.2 _ (hne1 _ ha).symm, htw5.2 _ (hnwe.ne ha).symm⟩
        refine AF.take 15 rfl (by kernel_rfl) (by kernel_rfl) (by kernel_rfl) hS5 (fun H9 hS9 => OpOk.extract rfl rfl) ?_
        refine AF.one 16 (by kernel_rfl) (AF.next0 16 rfl (OpCh.entryStore him5 rfl rfl rfl) (by rintro _ _ ⟨him, htw⟩; exact ⟨(htw.2 _ (hne1 _ ha).symm).trans hS5.1, (htw.2 _ (hnwe.ne ha).symm).trans hS5.2⟩) ?_)
        rintro _ H6 ⟨him6, htw6⟩
        have hS6 : H6[H1.size]? = He[H1.size]? ∧ H6[gb]? = He[gb]? := ⟨(htw6.2 _ (hne1 _ ha).symm).trans hS5.1, (htw6.2 _ (hnwe.ne ha).symm).trans hS5.2⟩
        rw [upM_ins, ← hyx] at him6
        have htw56 : Tw (r (es.getD j (0, 0)).1.toNat) He H6 := ⟨htw6.1.trans htw5.1, fun k hk => (htw6.2 k hk).trans (htw5.2 k hk)⟩
        have hnw6 := hnwe.set ha hb hla him6 htw56
        obtain ⟨hrb, Lb, hmb, hlb⟩ := hnw6.row _ hb
        refine AF.chg 17 rfl (by kernel_rfl) (OpCh.mapEntry Try.underlying35 Try.underlying3 Try.zero4 hmb rfl rfl) (by rintro _ _ ⟨st, rfl, him, htw⟩; exact ⟨(htw.2 _ (hne1 _ hb).symm).trans hS6.1, (htw.2 _ (hnwe.ne hb).symm).trans hS6.2⟩) ?_
        rintro _ H7 ⟨st7, rfl, him7, htw7⟩
        have hS7 : H7[H1.size]? = He[H1.size]? ∧ H7[gb]? = He[gb]? := ⟨(htw7.2 _ (hne1 _ hb).symm).trans hS6.1, (htw7.2 _ (hnwe.ne hb).symm).trans hS6.2⟩
        refine AF.take 18 rfl (by kernel_rfl) (by kernel_rfl) (by kernel_rfl) hS7 (fun H9 hS9 => OpOk.extract rfl rfl) ?_
        refine AF.one 19 (by kernel_rfl) (AF.next0 19 rfl (OpCh.entryStore him7 rfl rfl rfl) (by rintro _ _ ⟨him, htw⟩; exact ⟨(htw.2 _ (hne1 _ hb).symm).trans hS7.1, (htw.2 _ (hnwe.ne hb).symm).trans hS7.2⟩) ?_)
        rintro _ H8 ⟨him8, htw8⟩
        rw [upM_ins, ← hxy] at him8
        have htw78 : Tw (r (es.getD j (0, 0)).2.toNat) H6 H8 := ⟨htw8.1.trans htw7.1, fun k hk => (htw8.2 k hk).trans (htw7.2 k hk)⟩
        have hnw8 := hnw6.set hb ha hlb him8 htw78
        have hkp8 : Kp H.size H H8 := Tw.kp (Tw.kp hkpe htw56 (by omega)) htw78 (by omega)
        have hbox8 := (hboxe.of (htw56.2 H.size (by have := hnw.row _ ha; omega))).of (htw78.2 H.size (by have := hnw.row _ hb; omega))
        refine AF.done (by kernel_rfl) ?_
        refine PF.blockNormal ?_
        refine PF.next ?_
        refine CF.region ?_
        refine LF.step (OpOk.add rfl rfl (by omega)) ?_
        refine LF.step (OpOk.move rfl) ?_
        refine LF.nil ?_
        have hok : edgeOk n (es.getD j (0, 0)) = true := by simp only [edgeOk, decide_eq_true_eq]; omega
        exact PF.again (j + 1) ⟨by omega, hnw8.congr (fun a b => by simp only [adjT, hok, cond_true]), hbox8, hkp8⟩ ⟨rfl, rfl, rfl, rfl, rfl, rfl, trivial⟩ (by omega)
      · refine CF.skip ?_
        refine PF.blockNormal ?_
        refine PF.next ?_
        refine CF.region ?_
        refine LF.step (OpOk.add rfl rfl (by omega)) ?_
        refine LF.step (OpOk.move rfl) ?_
        refine LF.nil ?_
        have hok : edgeOk n (es.getD j (0, 0)) = false := by simp only [edgeOk, decide_eq_false_iff_not]; omega
        exact PF.again (j + 1) ⟨by omega, hnwe.congr (fun a b => by simp only [adjT, hok, cond_false]), hboxe, hkpe⟩ ⟨rfl, rfl, rfl, rfl, rfl, rfl, trivial⟩ (by omega)
    · refine CF.exit ?_
      refine PF.thenExit ?_
      refine PF.thenExit ?_
      refine PF.blockHere ?_
      refine PF.next ?_
      refine CF.seq ?_
      refine CF.region ?_
      refine LF.step (OpOk.move rfl) ?_
      refine LF.step (OpOk.assign rfl) ?_
      refine LF.nil ?_
      refine PF.next ?_
      refine CF.ret ?_
      obtain rfl : j = es.length := by omega
      exact PF.ret1 rfl rfl ⟨gb, r, rfl, hnw.base (by omega), hkp⟩

end Go.Proofs.Ytkhphpobccnodaa
