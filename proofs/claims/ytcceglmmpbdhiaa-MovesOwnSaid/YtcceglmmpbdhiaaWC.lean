/- Walks. Conditions: each contract names its own. -/
import Derived.Test.YtcceglmmpbdhiaaWB
namespace Go.Proofs.Ytcceglmmpbdhiaa
set_option linter.unusedVariables false
set_option linter.unusedSimpArgs false
set_option linter.unusedSectionVars false
set_option maxRecDepth 8000
open Go.JE

theorem Try.ent34 : Ent Try.prog 34 := ⟨_, Try.func34, by kernel_rfl, by kernel_rfl⟩
theorem Try.ent35 : Ent Try.prog 35 := ⟨_, Try.func35, by kernel_rfl, by kernel_rfl⟩
theorem Try.one63 : One Try.prog 63 := ⟨_, Try.underlying63, rfl⟩
theorem Try.zero3 : (Try.prog.info? 3).bind (·.zero) = some (.int .i64 0) := by kernel_rfl
/- ---------------------------------------------- where something is -/
def idxM {α : Type} (l : List α) (q : α → Bool) : Int := match l.findIdx? q with
  | some i => i
  | none => -1
def anyM {α : Type} (l : List α) (q : α → Bool) : Bool := l.any q
theorem idx_hit {α : Type} [Inhabited α] {l : List α} {q : α → Bool} {k : Nat} (hk : k < l.length) (h : ∀ x ∈ l.take k, q x = false) (h1 : q (ix l k) = true) : idxM l q = k := by
  have : l.findIdx? q = some k := by
    rw [List.findIdx?_eq_some_iff_getElem]
    refine ⟨hk, by rw [← ix_eq hk]; exact h1, fun j hj => ?_⟩
    have := h l[j] (by rw [List.mem_take_iff_getElem]; exact ⟨j, by omega, rfl⟩)
    simp [this]
  simp [idxM, this]
theorem idx_none {α : Type} {l : List α} {q : α → Bool} {k : Nat} (hk : l.length ≤ k) (h : ∀ x ∈ l.take k, q x = false) : idxM l q = -1 := by
  rw [List.take_of_length_le hk] at h
  have : l.findIdx? q = none := by rw [List.findIdx?_eq_none_iff]; exact h
  simp [idxM, this]
theorem idx_any {α : Type} (l : List α) (q : α → Bool) : decide (0 ≤ idxM l q) = anyM l q := by
  unfold idxM anyM
  cases h : l.findIdx? q with
  | none =>
    rw [List.findIdx?_eq_none_iff] at h
    have : l.any q = false := by rw [List.any_eq_false]; intro x hx; simp [h x hx]
    rw [this]; rfl
  | some i =>
    obtain ⟨hi, h1, _⟩ := List.findIdx?_eq_some_iff_getElem.1 h
    have : l.any q = true := List.any_eq_true.2 ⟨_, List.getElem_mem hi, h1⟩
    rw [this]; simp
theorem no_snoc {α : Type} [Inhabited α] {l : List α} {q : α → Bool} {k : Nat} (hk : k < l.length) (h : ∀ x ∈ l.take k, q x = false) (h1 : q (ix l k) = false) : ∀ x ∈ l.take (k + 1), q x = false := by
  intro x hx
  rw [take_ix hk] at hx
  rcases List.mem_append.1 hx with hx | hx
  · exact h x hx
  · simp at hx; subst hx; exact h1
theorem Ct.kp {P : Program} {f : FuncId} {args : Array Value} {H : Heap} {u : Value} (h : Ct P f args H (fun v H' => v = u ∧ H' = H)) : Ct P f args H (fun v H' => v = u ∧ Kp H.size H H') := h.mono fun _ _ ⟨a, b⟩ => ⟨a, b ▸ Kp.refl _ _⟩
def eqB (p x : Int) : Bool := decide (x = p)
def zeroAt (fu : Int → Int) (p : Int) : Bool := decide (fu p = 0)
def dropM (l : List Int) (p : Int) : List Int := l.filter (fun x => !eqB p x)
theorem take_none {α : Type} {l : List α} {q : α → Bool} {i : Nat} (h : l.findIdx? q = some i) : (l.take (i + 1)).filter (fun x => !q x) = l.take i := by
  obtain ⟨hi, h1, h2⟩ := List.findIdx?_eq_some_iff_getElem.1 h
  rw [List.take_succ_eq_append_getElem hi, List.filter_append]
  have e1 : (l.take i).filter (fun x => !q x) = l.take i := by
    rw [List.filter_eq_self]
    intro x hx
    obtain ⟨j, hj, rfl⟩ := List.mem_take_iff_getElem.1 hx
    simp [h2 j (by omega)]
  rw [e1]; simp [h1]
theorem drop_none {l : List Int} {p : Int} (h : idxM l (eqB p) = -1) : dropM l p = l := by
  unfold idxM at h
  cases e : l.findIdx? (eqB p) with
  | some i => rw [e] at h; simp at h
  | none =>
    rw [List.findIdx?_eq_none_iff] at e
    unfold dropM
    rw [List.filter_eq_self]
    intro x hx
    simp [e x hx]
theorem idx_some {l : List Int} {p : Int} (h : ¬ idxM l (eqB p) = -1) : ∃ i : Nat, idxM l (eqB p) = i ∧ i < l.length ∧ (l.take (i + 1)).filter (fun x => !eqB p x) = l.take i := by
  unfold idxM at *
  cases e : l.findIdx? (eqB p) with
  | none => rw [e] at h; exact absurd rfl h
  | some i => exact ⟨i, rfl, (List.findIdx?_eq_some_iff_getElem.1 e).1, take_none e⟩
theorem set_take {α : Type} {l : List α} {i : Nat} {a : α} (h : i < l.length) : (l.set i a).take (i + 1) = l.take i ++ [a] := by
  rw [List.take_succ_eq_append_getElem (by simpa using h)]
  congr 1
  · rw [List.take_set_of_le (Nat.le_refl _)]
  · simp
theorem set_drop {α : Type} {l : List α} {i j : Nat} {a : α} (h : i < j) : (l.set i a).drop j = l.drop j := List.drop_set_of_lt h

-- slices.IndexFunc[[]int,int]: function 35
theorem idxF_ct {F : PH} {H : Heap} (hin : InH F H) {a0 : Value} {l : List Int} (p0 : (rL (rI .i64)).rv F a0 l) (fp : Nat) (cp : List Value) (hE : Ent Try.prog fp) (q : Int → Bool) (hq : ∀ H', Kp H.size H H' → ∀ x : Int, Ct Try.prog fp (.int .i64 x :: cp).toArray H' (fun v H'' => v = .bool (q x) ∧ Kp H'.size H' H'')) :
    Ct Try.prog 35 #[a0, .func (.func fp) #[] cp.toArray] H (fun v H' => v = .int .i64 (idxM l q) ∧ Kp H.size H H') := by
  have q0 := rL.len2 p0
  have hkp := Kp.refl H.size H
  have hx := PH.ext.refl (H := H) F
  refine Ct.enter (args := [a0, .func (.func fp) #[] cp.toArray]) Try.func35 rfl rfl rfl (fun w0 hw0 => ?_)
  refine CF.seq (CF.region (LF.step (OpOk.assign rfl) (LF.nil (PF.next (CF.seq (CF.seq (CF.region (LF.step (OpOk.move rfl) ?_))))))))
  refine LF.step (OpOk.lenL Try.underlying23 p0 rfl) ?_
  refine LF.step (OpOk.move rfl) (LF.nil (PF.next (CF.block ?_)))
  refine CF.loop (ι := Nat) (fun k H1 => k ≤ l.length ∧ (∀ x ∈ l.take k, q x = false) ∧ InH F H1 ∧ Kp H.size H H1) (fun k => [(0, a0), (1, .func (.func fp) #[] cp.toArray), (7, .int .i64 (↑(List.length l))), (8, .int .i64 (↑k))]) (fun k => l.length - k) 0 ⟨by omega, by simp, hin, hkp⟩ ⟨rfl, rfl, rfl, eqI (by omega), trivial⟩ ?_
  clear hin hkp
  rintro k H1 ⟨hk, hR, hin, hkp⟩
  refine CF.seq (CF.region ?_)
  refine LF.step (OpOk.lss rfl rfl) ?_
  refine LF.nil (PF.next (CF.seq ?_))
  refine CF.if rfl (fun hc1 => ?_) (fun hc1 => ?_)
  refine CF.skip (PF.next (CF.seq (CF.block (CF.seq (CF.region (LF.step (OpOk.move rfl) (LF.step (OpOk.assign rfl) (LF.nil (PF.next (CF.seq (CF.region ?_)))))))))))
  refine LF.step (OpOk.move rfl) (LF.step (OpOk.move rfl) (LF.step (OpOk.move rfl) ?_))
  refine LF.step (OpOk.idxL (i := k) Try.underlying23 Try.sz3 p0 rfl rfl rfl (by omega)) ?_
  refine LF.step (OpOk.ldI hin (rL.ix p0 k (by omega)) Try.one3 rfl) ?_
  refine LF.call (OpCall.fnc hE rfl rfl) (hq _ hkp _) ?_
  rintro _ H16 ⟨rfl, k16⟩
  have zk16 := k16.1
  replace hin := hin.kp k16
  replace hkp := hkp.trans (k16.mono hkp.1)
  refine LF.nil (PF.next ?_)
  refine CF.if rfl (fun hc2 => ?_) (fun hc2 => ?_)
  refine CF.seq (CF.region (LF.step (OpOk.move rfl) (LF.step (OpOk.assign rfl) (LF.nil (PF.next (CF.ret (PF.blockRet (PF.thenRet (PF.thenRet (PF.blockRet (PF.thenRet ?_)))))))))))
  have hm : idxM l q = ((k : Nat) : Int) := by
    exact idx_hit (by omega) hR hc2
  exact PF.ret1 rfl rfl ⟨by rw [hm] <;> rfl, hkp⟩
  refine CF.skip (PF.blockNormal (PF.next (CF.region ?_)))
  refine LF.step (OpOk.add rfl rfl (by omega)) ?_
  refine LF.step (OpOk.move rfl) (LF.nil ?_)
  exact PF.again (k + 1) ⟨by omega, no_snoc (by omega) hR hc2, hin, hkp⟩ ⟨rfl, rfl, rfl, eqI (by omega), trivial⟩ (by omega)
  refine CF.exit (PF.thenExit (PF.thenExit (PF.blockHere (PF.next (CF.seq (CF.region (LF.step (OpOk.assign rfl) (LF.nil (PF.next (CF.ret ?_))))))))))
  have hm : idxM l q = (-1) := by
    exact idx_none (by omega) hR
  exact PF.ret1 rfl rfl ⟨by rw [hm] <;> rfl, hkp⟩

-- jacquard/moves.Order$1$1: function 34
theorem eqB_ct {F : PH} {H : Heap} (hin : InH F H) (x : Int) {p : Int} {g1 : Nat} (hb1 : Bx H g1 3 [.int .i64 p]) :
    Ct Try.prog 34 #[.int .i64 x, .pointer (some ⟨g1, 0, none⟩)] H (fun v H' => v = .bool (eqB p x) ∧ Kp H.size H H') := by
  have lt1 := hb1.lt
  have hkp := Kp.refl H.size H
  have hx := PH.ext.refl (H := H) F
  refine Ct.enter (args := [.int .i64 x, .pointer (some ⟨g1, 0, none⟩)]) Try.func34 rfl rfl rfl (fun w0 hw0 => ?_)
  refine CF.seq (CF.region (LF.step (OpOk.assign rfl) (LF.nil (PF.next (CF.seq (CF.region (LF.step (OpOk.move rfl) ?_)))))))
  refine LF.step (OpOk.ldBx hb1 Try.one3 rfl rfl) ?_
  refine LF.step (OpOk.eql rfl rfl) ?_
  refine LF.step (OpOk.assign rfl) (LF.nil (PF.next (CF.ret ?_)))
  have hm : eqB p x = (decide (x = p)) := by
    rfl
  exact PF.ret1 rfl rfl ⟨by rw [hm] <;> rfl, hkp⟩

-- jacquard/moves.Order$2: function 36
theorem zeroAt_ct {F : PH} {H : Heap} (hin : InH F H) (p : Int) {gm : Nat} {fu : Int → Int} (hm : Mf H gm (.int .i64 0) (fun j9 => .int .i64 (fu j9))) {g1 : Nat} (hb1 : Bx H g1 63 [.map (some gm)]) :
    Ct Try.prog 36 #[.int .i64 p, .pointer (some ⟨g1, 0, none⟩)] H (fun v H' => v = .bool (zeroAt fu p) ∧ Kp H.size H H') := by
  have lt1 := hb1.lt
  have hkp := Kp.refl H.size H
  have hx := PH.ext.refl (H := H) F
  refine Ct.enter (args := [.int .i64 p, .pointer (some ⟨g1, 0, none⟩)]) Try.func36 rfl rfl rfl (fun w0 hw0 => ?_)
  refine CF.seq (CF.region (LF.step (OpOk.assign rfl) (LF.nil (PF.next (CF.seq (CF.region ?_))))))
  refine LF.step (OpOk.ldBx hb1 Try.one63 rfl rfl) ?_
  refine LF.step (OpOk.move rfl) ?_
  refine LF.step (OpOk.lookupF Try.underlying63 Try.underlying3 Try.zero3 hm rfl rfl) ?_
  refine LF.step (OpOk.eql rfl rfl) ?_
  refine LF.step (OpOk.assign rfl) (LF.nil (PF.next (CF.ret ?_)))
  have hm : zeroAt fu p = (decide (fu p = 0)) := by
    rfl
  exact PF.ret1 rfl rfl ⟨by rw [hm] <;> rfl, hkp⟩

theorem drop_next {ls l : List Int} {j : Nat} (h1 : ls.length = l.length) (h2 : j < l.length) (h : ls.drop j = l.drop j) : ls.drop (j + 1) = l.drop (j + 1) := by
  have e : ∀ m : List Int, m.drop (j + 1) = (m.drop j).drop 1 := fun m => by rw [List.drop_drop]
  rw [e, e, h]
theorem drop_ixe {ls l : List Int} {j : Nat} (h1 : ls.length = l.length) (h2 : j < l.length) (h : ls.drop j = l.drop j) : ix ls j = ix l j := by
  rw [drop_ix (show j < ls.length by omega), drop_ix h2] at h
  exact (List.cons.inj h).1

-- slices.DeleteFunc[[]int,int]: function 33
set_option maxHeartbeats 1000000 in
theorem delF_ct {F : PH} {H : Heap} (hin : InH F H) {a0 : Value} {l : List Int} {B0 : Nat} (p0 : Gl (rI .i64) 3 F H B0 a0 l) {gp : Nat} {p : Int} (hbp : Bx H gp 3 [.int .i64 p]) (ngp : F gp = none) (nqp0_77 : a0.ownBlock ≠ some gp) (hl9 : l.length < 1073741824) :
    Ct Try.prog 33 #[a0, .func (.func 34) #[] #[.pointer (some ⟨gp, 0, none⟩)]] H (fun v H' => Kw (own1 a0) H H' ∧ Gl (rI .i64) 3 F H' B0 v (dropM l p) ∧ v.ownBlock = a0.ownBlock) := by
  have hkp := Kw.refl (own1 a0) H
  have hx := PH.ext.refl (H := H) F
  refine Ct.enter (args := [a0, .func (.func 34) #[] #[.pointer (some ⟨gp, 0, none⟩)]]) Try.func33 rfl rfl rfl (fun w0 hw0 => ?_)
  refine CF.seq (CF.region (LF.step (OpOk.assign rfl) (LF.nil (PF.next (CF.seq (CF.region (LF.step (OpOk.move rfl) (LF.step (OpOk.move rfl) ?_))))))))
  refine LF.call (OpCall.fn Try.ent35 rfl rfl) (p0.temp 1073741824 hin (by first | (simp only [List.length_append, List.length_take, List.length_drop, List.length_nil, List.length_cons, List.length_set, List.length_replicate]; omega) | (simp; done) | (simp; omega) | omega) (fun G1 lg1 hin1 hr1 => idxF_ct hin1 hr1 34 [.pointer (some ⟨gp, 0, none⟩)] Try.ent34 (eqB p) (fun H' k9 x => eqB_ct (InH.none H') x (hbp.kp k9)))) ?_
  rintro _ H10 ⟨rfl, k10⟩
  have zk10 := k10.1
  replace hin := hin.kp k10
  replace hkp := hkp.trans (k10.mono hkp.1)
  replace hbp := hbp.kp k10
  replace p0 := p0.kp k10
  refine LF.step (OpOk.assign rfl) (LF.nil (PF.next (CF.seq (CF.seq (CF.region (LF.step (OpOk.move rfl) ?_))))))
  refine LF.step (OpOk.eql rfl rfl) ?_
  refine LF.nil (PF.next ?_)
  refine CF.if rfl (fun hc1 => ?_) (fun hc1 => ?_)
  refine CF.seq (CF.region (LF.step (OpOk.move rfl) (LF.step (OpOk.assign rfl) (LF.nil (PF.next (CF.ret (PF.thenRet ?_)))))))
  exact PF.ret1 rfl rfl ⟨hkp, by rw [drop_none hc1]; exact p0, rfl⟩
  obtain ⟨i0, hi0, hi1, hi2⟩ := idx_some hc1
  refine CF.skip (PF.next (CF.seq (CF.seq (CF.region (LF.step (OpOk.move rfl) ?_)))))
  refine LF.step (OpOk.add rfl rfl (by omega)) ?_
  refine LF.step (OpOk.assign rfl) (LF.nil (PF.next (CF.block ?_)))
  refine CF.loop (ι := Nat × Nat × List Int) (fun z9 H1 => z9.2.1 < z9.1 ∧ z9.1 ≤ l.length ∧ z9.2.2.length = l.length ∧ z9.2.2.take z9.2.1 = (l.take z9.1).filter (fun x => !eqB p x) ∧ z9.2.2.drop z9.1 = l.drop z9.1 ∧ InH F H1 ∧ Kw (own1 a0) H H1 ∧ Bx H1 gp 3 [.int .i64 p] ∧ Gl (rI .i64) 3 F H1 B0 a0 z9.2.2) (fun z9 => [(0, a0), (1, .func (.func 34) #[] #[.pointer (some ⟨gp, 0, none⟩)]), (4, .slice none 0 0), (5, .int .i64 (↑z9.2.1)), (6, .int .i64 (↑z9.1))]) (fun z9 => l.length - z9.1) (i0 + 1, i0, l) ⟨by dsimp only; omega, by dsimp only; omega, rfl, by dsimp only; exact hi2.symm, rfl, hin, hkp, hbp, p0⟩ ⟨rfl, rfl, rfl, eqI (by dsimp only; omega), eqI (by dsimp only; omega), trivial⟩ ?_
  clear hin hkp hbp p0
  rintro ⟨j, i, ls⟩ H1 ⟨hij, hj, hll, hT, hD, hin, hkp, hbp, p0⟩
  dsimp only at hij hj hll hT hD hbp p0 ⊢
  refine CF.seq (CF.seq (CF.region (LF.step (OpOk.move rfl) (LF.step (OpOk.move rfl) ?_))))
  refine LF.step (OpOk.lenG Try.underlying23 p0 rfl) ?_
  refine LF.step (OpOk.lss rfl rfl) ?_
  refine LF.nil (PF.next ?_)
  refine CF.if rfl (fun hc2 => ?_) (fun hc2 => ?_)
  have hj1 : j < l.length := by omega
  have hix := drop_ixe hll hj1 hD
  refine CF.skip (PF.next (CF.seq (CF.block (CF.seq (CF.region (LF.step (OpOk.move rfl) (LF.step (OpOk.move rfl) ?_)))))))
  refine LF.step (OpOk.idxG (i := j) Try.underlying23 Try.sz3 p0 rfl rfl rfl (by first | omega | (simp only [List.length_replicate, List.length_set, List.length_append, List.length_cons, List.length_nil]; omega) | (simp only [List.length_append, List.length_take, List.length_replicate]; omega))) ?_
  refine LF.step (OpOk.ldGI p0 (by first | omega | (simp only [List.length_replicate, List.length_set, List.length_append, List.length_cons, List.length_nil]; omega) | (simp only [List.length_append, List.length_take, List.length_replicate]; omega)) Try.one3 rfl) ?_
  refine LF.step (OpOk.assign rfl) (LF.nil (PF.next (CF.seq (CF.region (LF.step (OpOk.move rfl) (LF.step (OpOk.move rfl) ?_))))))
  refine LF.call (OpCall.fnc Try.ent34 rfl rfl) (eqB_ct hin (ix ls j) hbp) ?_
  rintro _ H28 ⟨rfl, k28⟩
  have zk28 := k28.1
  replace hin := hin.kp k28
  replace hkp := hkp.trans (k28.mono hkp.1)
  replace hbp := hbp.kp k28
  replace p0 := p0.kp k28
  refine LF.step (OpOk.not rfl) ?_
  refine LF.nil (PF.next ?_)
  refine CF.if rfl (fun hc3 => ?_) (fun hc3 => ?_)
  refine CF.seq (CF.region (LF.step (OpOk.move rfl) (LF.step (OpOk.move rfl) (LF.step (OpOk.move rfl) ?_))))
  refine LF.step (OpOk.idxG (i := i) Try.underlying23 Try.sz3 p0 rfl rfl rfl (by first | omega | (simp only [List.length_replicate, List.length_set, List.length_append, List.length_cons, List.length_nil]; omega) | (simp only [List.length_append, List.length_take, List.length_replicate]; omega))) ?_
  refine LF.chg0 (OpCh.storeG p0 rfl Try.sz3 rfl rfl rfl (by first | omega | (simp only [List.length_replicate, List.length_set, List.length_append, List.length_cons, List.length_nil]; omega) | (simp only [List.length_append, List.length_take, List.length_replicate]; omega)) ⟨rfl, (Gl.wr p0 (by omega))⟩) ?_
  rintro _ Hw1 ⟨gw1, qw1, tw1, xw1⟩
  have ztw1 := tw1.1
  replace hin := hin.tw tw1 (p0.no _ qw1)
  replace hkp := hkp.tw tw1 (.inr qw1)
  replace hbp := hbp.tw tw1 (ne_of_own qw1 (by first | exact p0.neLt (by omega) | exact nqp0_77))
  replace p0 := xw1
  refine LF.nil (PF.next (CF.region (LF.step (OpOk.move rfl) ?_)))
  refine LF.step (OpOk.add rfl rfl (by omega)) ?_
  refine LF.step (OpOk.assign rfl) (LF.nil (PF.blockNormal (PF.next (CF.region (LF.step (OpOk.move rfl) ?_)))))
  refine LF.step (OpOk.add rfl rfl (by omega)) ?_
  refine LF.step (OpOk.assign rfl) (LF.nil ?_)
  exact PF.again (j + 1, i + 1, List.set ls i (ix ls j)) ⟨by dsimp only; omega, by dsimp only; omega, by dsimp only; rw [List.length_set]; exact hll, by dsimp only; rw [set_take (by omega), hT, take_ix (by omega), List.filter_append, hix]; rw [hix] at hc3; simp [List.filter, hc3], by dsimp only; rw [set_drop (by omega)]; exact drop_next hll hj1 hD, hin, hkp, hbp, p0⟩ ⟨rfl, rfl, rfl, eqI (by dsimp only; omega), eqI (by dsimp only; omega), trivial⟩ (by dsimp only; omega)
  refine CF.skip (PF.blockNormal (PF.next (CF.region (LF.step (OpOk.move rfl) ?_))))
  refine LF.step (OpOk.add rfl rfl (by omega)) ?_
  refine LF.step (OpOk.assign rfl) (LF.nil ?_)
  exact PF.again (j + 1, i, ls) ⟨by dsimp only; omega, by dsimp only; omega, hll, by dsimp only; rw [hT, take_ix (by omega), List.filter_append]; rw [hix] at hc3; simp [List.filter, hc3], by dsimp only; exact drop_next hll hj1 hD, hin, hkp, hbp, p0⟩ ⟨rfl, rfl, rfl, rfl, eqI (by omega), trivial⟩ (by dsimp only; omega)
  refine CF.exit (PF.thenExit (PF.thenExit (PF.blockHere (PF.next (CF.seq (CF.region (LF.step (OpOk.move rfl) (LF.step (OpOk.move rfl) ?_))))))))
  refine LF.step (OpOk.sliceLoG (lo := i) Try.underlying23 Try.sz3 p0 rfl rfl rfl (by first | omega | (simp only [List.length_replicate, List.length_set, List.length_append, List.length_cons, List.length_nil]; omega) | (simp only [List.length_append, List.length_take, List.length_replicate]; omega))) ?_
  refine LF.chg0 (OpCh.clearG (r := (rI .i64)) (z := .int .i64 0) (a0 := 0) Try.underlying23 Try.info3 rfl rfl rfl ⟨rfl, (by decide : IntKind.i64.wrap 0 = 0)⟩ rfl p0 (by first | omega | (simp only [List.length_replicate, List.length_set, List.length_append, List.length_cons, List.length_nil]; omega) | (simp only [List.length_append, List.length_take, List.length_replicate]; omega))) ?_
  rintro _ Hw2 ⟨rfl, kw2, xw2⟩
  have zkw2 := kw2.1
  replace hin := hin.kw kw2 p0.no
  replace hbp := hbp.kw kw2 ((by first | exact p0.neLt (by omega) | exact nqp0_77))
  replace hkp := hkp.kw kw2 (by intro k0 hl hk0; exact hk0)
  replace p0 := xw2
  refine LF.nil (PF.next (CF.seq (CF.region (LF.step (OpOk.move rfl) (LF.step (OpOk.move rfl) ?_)))))
  refine LF.step (OpOk.sliceHiG (hi := i) Try.underlying23 Try.sz3 p0 rfl rfl rfl (by first | omega | (simp only [List.length_replicate, List.length_set, List.length_append, List.length_cons, List.length_nil]; omega) | (simp only [List.length_append, List.length_take, List.length_replicate]; omega))) ?_
  refine LF.step (OpOk.assign rfl) (LF.nil (PF.next (CF.ret ?_)))
  have hlen9 : (List.take i ls ++ List.replicate (ls.length - i) (0 : Int)).length = l.length := by simp; omega
  have hcut := Gl.cut p0 (hi := i) (by rw [hlen9]; omega)
  have hfin : dropM l p = (List.take i ls ++ List.replicate (ls.length - i) (0 : Int)).take i := by unfold dropM; rw [List.take_append_of_le_length (by rw [List.length_take]; omega), List.take_take, Nat.min_self, hT, List.take_of_length_le (by omega)]
  exact PF.ret1 rfl rfl ⟨hkp, by rw [hfin]; exact hcut.1, hcut.2⟩

end Go.Proofs.Ytcceglmmpbdhiaa
