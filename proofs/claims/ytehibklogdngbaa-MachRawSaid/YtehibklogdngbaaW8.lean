/- Walks. Conditions: each contract names its own. -/
import Derived.Test.YtehibklogdngbaaW7
namespace Go.Proofs.Ytehibklogdngbaa
set_option linter.unusedVariables false
set_option linter.unusedSimpArgs false
set_option linter.unusedSectionVars false
open Go.JE

theorem Try.agg70 : ∃ d, Try.prog.underlying 70 = some d ∧ (match d with | .struct _ | .array _ _ => true | _ => false) = true := ⟨_, Try.underlying70, rfl⟩
theorem Try.agg82 : ∃ d, Try.prog.underlying 82 = some d ∧ (match d with | .struct _ | .array _ _ => true | _ => false) = true := ⟨_, Try.underlying82, rfl⟩
theorem Try.ent61 : Ent Try.prog 61 := ⟨_, Try.func61, by kernel_rfl, by kernel_rfl⟩
theorem Try.ent97 : Ent Try.prog 97 := ⟨_, Try.func97, by kernel_rfl, by kernel_rfl⟩
theorem Try.ent99 : Ent Try.prog 99 := ⟨_, Try.func99, by kernel_rfl, by kernel_rfl⟩
theorem Try.sz70 : Sz Try.prog 70 2 := by unfold Sz; kernel_rfl
theorem Try.sz82 : Sz Try.prog 82 2 := by unfold Sz; kernel_rfl
/- ---------------------------------------------- where something is -/
def idxM {α : Type} (l : List α) (q : α → Bool) : Int := match l.findIdx? q with
  | some i => i
  | none => -1
def anyM {α : Type} (l : List α) (q : α → Bool) : Bool := l.any q
theorem idx_hit {α : Type} [Inhabited α] {l : List α} {q : α → Bool} {k : Nat} (hk : k < l.length) (h : ∀ x ∈ l.take k, q x = false) (h1 : q (ix l k) = true) : idxM l q = k := by
  have : l.findIdx? q = some k := by
    rw [List.findIdx?_eq_some_iff_getElem]
    refine ⟨hk, by rw [← ix_eq hk]; exact h1, fun j hj => ?_⟩
    have := h l[j] (by rw [List.mem_take_iff_getElem]; exact ⟨j, by omega, rfl⟩)
    simp [this]
  simp [idxM, this]
theorem idx_none {α : Type} {l : List α} {q : α → Bool} {k : Nat} (hk : l.length ≤ k) (h : ∀ x ∈ l.take k, q x = false) : idxM l q = -1 := by
  rw [List.take_of_length_le hk] at h
  have : l.findIdx? q = none := by rw [List.findIdx?_eq_none_iff]; exact h
  simp [idxM, this]
theorem idx_any {α : Type} (l : List α) (q : α → Bool) : decide (0 ≤ idxM l q) = anyM l q := by
  unfold idxM anyM
  cases h : l.findIdx? q with
  | none =>
    rw [List.findIdx?_eq_none_iff] at h
    have : l.any q = false := by rw [List.any_eq_false]; intro x hx; simp [h x hx]
    rw [this]; rfl
  | some i =>
    obtain ⟨hi, h1, _⟩ := List.findIdx?_eq_some_iff_getElem.1 h
    have : l.any q = true := List.any_eq_true.2 ⟨_, List.getElem_mem hi, h1⟩
    rw [this]; simp
theorem no_snoc {α : Type} [Inhabited α] {l : List α} {q : α → Bool} {k : Nat} (hk : k < l.length) (h : ∀ x ∈ l.take k, q x = false) (h1 : q (ix l k) = false) : ∀ x ∈ l.take (k + 1), q x = false := by
  intro x hx
  rw [take_ix hk] at hx
  rcases List.mem_append.1 hx with hx | hx
  · exact h x hx
  · simp at hx; subst hx; exact h1
theorem Ct.kp {P : Program} {f : FuncId} {args : Array Value} {H : Heap} {u : Value} (h : Ct P f args H (fun v H' => v = u ∧ H' = H)) : Ct P f args H (fun v H' => v = u ∧ Kp H.size H H') := h.mono fun _ _ ⟨a, b⟩ => ⟨a, b ▸ Kp.refl _ _⟩

-- slices.IndexFunc[[]int,int]: function 99
theorem idxFInt_ct {F : PH} {H : Heap} (hin : InH F H) {a0 : Value} {l : List Int} (p0 : (rL (rI .i64)).rv F a0 l) (fp : Nat) (cp : List Value) (hE : Ent Try.prog fp) (q : Int → Bool) (hq : ∀ H', InH F H' → Kp H.size H H' → ∀ x, x ∈ l → Ct Try.prog fp (.int .i64 x :: cp).toArray H' (fun v H'' => v = .bool (q x) ∧ Kp H'.size H' H'')) :
    Ct Try.prog 99 #[a0, .func (.func fp) #[] cp.toArray] H (fun v H' => v = .int .i64 (idxM l q) ∧ Kp H.size H H') := by
  have q0 := rL.len2 p0
  have hkp := Kp.refl H.size H
  have hx := PH.ext.refl (H := H) F
  refine Ct.enter (args := [a0, .func (.func fp) #[] cp.toArray]) Try.func99 rfl rfl rfl (fun w0 hw0 => ?_)
  refine CF.seq (CF.region (LF.step (OpOk.assign rfl) (LF.nil (PF.next (CF.seq (CF.seq (CF.region (LF.step (OpOk.move rfl) ?_))))))))
  refine LF.step (OpOk.lenL Try.underlying38 p0 rfl) ?_
  refine LF.step (OpOk.move rfl) (LF.nil (PF.next (CF.block ?_)))
  refine CF.loop (ι := Nat) (fun k H1 => k ≤ l.length ∧ (∀ x ∈ l.take k, q x = false) ∧ InH F H1 ∧ Kp H.size H H1) (fun k => [(0, a0), (1, .func (.func fp) #[] cp.toArray), (7, .int .i64 (↑(List.length l))), (8, .int .i64 (↑k))]) (fun k => l.length - k) 0 ⟨by omega, by simp, hin, hkp⟩ ⟨rfl, rfl, rfl, eqI (by omega), trivial⟩ ?_
  clear hin hkp
  rintro k H1 ⟨hk, hR, hin, hkp⟩
  refine CF.seq (CF.region ?_)
  refine LF.step (OpOk.lss rfl rfl) ?_
  refine LF.nil (PF.next (CF.seq ?_))
  refine CF.if rfl (fun hc1 => ?_) (fun hc1 => ?_)
  refine CF.skip (PF.next (CF.seq (CF.block (CF.seq (CF.region (LF.step (OpOk.move rfl) (LF.step (OpOk.assign rfl) (LF.nil (PF.next (CF.seq (CF.region ?_)))))))))))
  refine LF.step (OpOk.move rfl) (LF.step (OpOk.move rfl) (LF.step (OpOk.move rfl) ?_))
  refine LF.step (OpOk.idxL (i := k) Try.underlying38 Try.sz3 p0 rfl rfl rfl (by omega)) ?_
  refine LF.step (OpOk.ldI hin (rL.ix p0 k (by omega)) Try.one3 rfl) ?_
  refine LF.call (OpCall.fnc hE rfl rfl) (hq _ hin hkp _ (ix_mem (by omega))) ?_
  rintro _ H16 ⟨rfl, k16⟩
  have zk16 := k16.1
  replace hin := hin.kp k16
  replace hkp := hkp.trans (k16.mono hkp.1)
  refine LF.nil (PF.next ?_)
  refine CF.if rfl (fun hc2 => ?_) (fun hc2 => ?_)
  refine CF.seq (CF.region (LF.step (OpOk.move rfl) (LF.step (OpOk.assign rfl) (LF.nil (PF.next (CF.ret (PF.blockRet (PF.thenRet (PF.thenRet (PF.blockRet (PF.thenRet ?_)))))))))))
  have hm : idxM l q = ((k : Nat) : Int) := by
    exact idx_hit (by omega) hR hc2
  exact PF.ret1 rfl rfl ⟨by rw [hm] <;> rfl, hkp⟩
  refine CF.skip (PF.blockNormal (PF.next (CF.region ?_)))
  refine LF.step (OpOk.add rfl rfl (by omega)) ?_
  refine LF.step (OpOk.move rfl) (LF.nil ?_)
  exact PF.again (k + 1) ⟨by omega, no_snoc (by omega) hR hc2, hin, hkp⟩ ⟨rfl, rfl, rfl, eqI (by omega), trivial⟩ (by omega)
  refine CF.exit (PF.thenExit (PF.thenExit (PF.blockHere (PF.next (CF.seq (CF.region (LF.step (OpOk.assign rfl) (LF.nil (PF.next (CF.ret ?_))))))))))
  have hm : idxM l q = (-1) := by
    exact idx_none (by omega) hR
  exact PF.ret1 rfl rfl ⟨by rw [hm] <;> rfl, hkp⟩

-- slices.ContainsFunc[[]int,int]: function 86
theorem anyFInt_ct {F : PH} {H : Heap} (hin : InH F H) {a0 : Value} {l : List Int} (p0 : (rL (rI .i64)).rv F a0 l) (fp : Nat) (cp : List Value) (hE : Ent Try.prog fp) (q : Int → Bool) (hq : ∀ H', InH F H' → Kp H.size H H' → ∀ x, x ∈ l → Ct Try.prog fp (.int .i64 x :: cp).toArray H' (fun v H'' => v = .bool (q x) ∧ Kp H'.size H' H'')) :
    Ct Try.prog 86 #[a0, .func (.func fp) #[] cp.toArray] H (fun v H' => v = .bool (anyM l q) ∧ Kp H.size H H') := by
  have q0 := rL.len2 p0
  have hkp := Kp.refl H.size H
  have hx := PH.ext.refl (H := H) F
  refine Ct.enter (args := [a0, .func (.func fp) #[] cp.toArray]) Try.func86 rfl rfl rfl (fun w0 hw0 => ?_)
  refine CF.seq (CF.region (LF.step (OpOk.assign rfl) (LF.nil (PF.next (CF.seq (CF.region (LF.step (OpOk.move rfl) (LF.step (OpOk.move rfl) ?_))))))))
  refine LF.call (OpCall.fn Try.ent99 rfl rfl) (idxFInt_ct hin p0 fp cp hE q hq) ?_
  rintro _ H7 ⟨rfl, k7⟩
  have zk7 := k7.1
  replace hin := hin.kp k7
  replace hkp := hkp.trans (k7.mono hkp.1)
  refine LF.step (OpOk.geq rfl rfl) ?_
  refine LF.step (OpOk.assign rfl) (LF.nil (PF.next (CF.ret ?_)))
  have hm : anyM l q = (decide (0 ≤ idxM l q)) := by
    exact (idx_any l q).symm
  exact PF.ret1 rfl rfl ⟨by rw [hm] <;> rfl, hkp⟩

-- slices.IndexFunc[[]jacquard/api.In,jacquard/api.In]: function 61
theorem idxFIn_ct {F : PH} {H : Heap} (hin : InH F H) {a0 : Value} {l : List D.In} (p0 : (rL rIn).rv F a0 l) (fp : Nat) (cp : List Value) (hE : Ent Try.prog fp) (q : D.In → Bool) (hq : ∀ H', InH F H' → Kp H.size H H' → ∀ x, x ∈ l → ∀ u, rIn.ra F u x → Ct Try.prog fp (u :: cp).toArray H' (fun v H'' => v = .bool (q x) ∧ Kp H'.size H' H'')) :
    Ct Try.prog 61 #[a0, .func (.func fp) #[] cp.toArray] H (fun v H' => v = .int .i64 (idxM l q) ∧ Kp H.size H H') := by
  have q0 := rL.len2 p0
  have hkp := Kp.refl H.size H
  have hx := PH.ext.refl (H := H) F
  refine Ct.enter (args := [a0, .func (.func fp) #[] cp.toArray]) Try.func61 rfl rfl rfl (fun w0 hw0 => ?_)
  refine CF.seq (CF.region (LF.step (OpOk.assign rfl) (LF.nil (PF.next (CF.seq (CF.seq (CF.region (LF.step (OpOk.move rfl) ?_))))))))
  refine LF.step (OpOk.lenL Try.underlying68 p0 rfl) ?_
  refine LF.step (OpOk.move rfl) (LF.nil (PF.next (CF.block ?_)))
  refine CF.loop (ι := Nat) (fun k H1 => k ≤ l.length ∧ (∀ x ∈ l.take k, q x = false) ∧ InH F H1 ∧ Kp H.size H H1) (fun k => [(0, a0), (1, .func (.func fp) #[] cp.toArray), (7, .int .i64 (↑(List.length l))), (8, .int .i64 (↑k))]) (fun k => l.length - k) 0 ⟨by omega, by simp, hin, hkp⟩ ⟨rfl, rfl, rfl, eqI (by omega), trivial⟩ ?_
  clear hin hkp
  rintro k H1 ⟨hk, hR, hin, hkp⟩
  refine CF.seq (CF.region ?_)
  refine LF.step (OpOk.lss rfl rfl) ?_
  refine LF.nil (PF.next (CF.seq ?_))
  refine CF.if rfl (fun hc1 => ?_) (fun hc1 => ?_)
  refine CF.skip (PF.next (CF.seq (CF.block (CF.seq (CF.region (LF.step (OpOk.move rfl) (LF.step (OpOk.assign rfl) (LF.nil (PF.next (CF.seq (CF.region ?_)))))))))))
  refine LF.step (OpOk.move rfl) (LF.step (OpOk.move rfl) (LF.step (OpOk.move rfl) ?_))
  refine LF.step (OpOk.idxL (i := k) Try.underlying68 Try.sz82 p0 rfl rfl rfl (by omega)) ?_
  refine LF.stepE (OpOk.ldA hin (rL.ix p0 k (by omega)) Try.agg82 Try.sz82 rfl) ?_
  intro v15 h15
  have h15k := rIn.any h15
  obtain rfl := rIn.open h15
  refine LF.call (OpCall.fnc hE rfl rfl) (hq _ hin hkp _ (ix_mem (by omega)) _ h15) ?_
  rintro _ H16 ⟨rfl, k16⟩
  have zk16 := k16.1
  replace hin := hin.kp k16
  replace hkp := hkp.trans (k16.mono hkp.1)
  refine LF.nil (PF.next ?_)
  refine CF.if rfl (fun hc2 => ?_) (fun hc2 => ?_)
  refine CF.seq (CF.region (LF.step (OpOk.move rfl) (LF.step (OpOk.assign rfl) (LF.nil (PF.next (CF.ret (PF.blockRet (PF.thenRet (PF.thenRet (PF.blockRet (PF.thenRet ?_)))))))))))
  have hm : idxM l q = ((k : Nat) : Int) := by
    exact idx_hit (by omega) hR hc2
  exact PF.ret1 rfl rfl ⟨by rw [hm] <;> rfl, hkp⟩
  refine CF.skip (PF.blockNormal (PF.next (CF.region ?_)))
  refine LF.step (OpOk.add rfl rfl (by omega)) ?_
  refine LF.step (OpOk.move rfl) (LF.nil ?_)
  exact PF.again (k + 1) ⟨by omega, no_snoc (by omega) hR hc2, hin, hkp⟩ ⟨rfl, rfl, rfl, eqI (by omega), trivial⟩ (by omega)
  refine CF.exit (PF.thenExit (PF.thenExit (PF.blockHere (PF.next (CF.seq (CF.region (LF.step (OpOk.assign rfl) (LF.nil (PF.next (CF.ret ?_))))))))))
  have hm : idxM l q = (-1) := by
    exact idx_none (by omega) hR
  exact PF.ret1 rfl rfl ⟨by rw [hm] <;> rfl, hkp⟩

-- slices.ContainsFunc[[]jacquard/api.In,jacquard/api.In]: function 80
theorem anyFIn_ct {F : PH} {H : Heap} (hin : InH F H) {a0 : Value} {l : List D.In} (p0 : (rL rIn).rv F a0 l) (fp : Nat) (cp : List Value) (hE : Ent Try.prog fp) (q : D.In → Bool) (hq : ∀ H', InH F H' → Kp H.size H H' → ∀ x, x ∈ l → ∀ u, rIn.ra F u x → Ct Try.prog fp (u :: cp).toArray H' (fun v H'' => v = .bool (q x) ∧ Kp H'.size H' H'')) :
    Ct Try.prog 80 #[a0, .func (.func fp) #[] cp.toArray] H (fun v H' => v = .bool (anyM l q) ∧ Kp H.size H H') := by
  have q0 := rL.len2 p0
  have hkp := Kp.refl H.size H
  have hx := PH.ext.refl (H := H) F
  refine Ct.enter (args := [a0, .func (.func fp) #[] cp.toArray]) Try.func80 rfl rfl rfl (fun w0 hw0 => ?_)
  refine CF.seq (CF.region (LF.step (OpOk.assign rfl) (LF.nil (PF.next (CF.seq (CF.region (LF.step (OpOk.move rfl) (LF.step (OpOk.move rfl) ?_))))))))
  refine LF.call (OpCall.fn Try.ent61 rfl rfl) (idxFIn_ct hin p0 fp cp hE q hq) ?_
  rintro _ H7 ⟨rfl, k7⟩
  have zk7 := k7.1
  replace hin := hin.kp k7
  replace hkp := hkp.trans (k7.mono hkp.1)
  refine LF.step (OpOk.geq rfl rfl) ?_
  refine LF.step (OpOk.assign rfl) (LF.nil (PF.next (CF.ret ?_)))
  have hm : anyM l q = (decide (0 ≤ idxM l q)) := by
    exact (idx_any l q).symm
  exact PF.ret1 rfl rfl ⟨by rw [hm] <;> rfl, hkp⟩

-- slices.IndexFunc[[]jacquard/api.Phi,jacquard/api.Phi]: function 97
theorem idxFPhi_ct {F : PH} {H : Heap} (hin : InH F H) {a0 : Value} {l : List D.Phi} (p0 : (rL rPhi).rv F a0 l) (fp : Nat) (cp : List Value) (hE : Ent Try.prog fp) (q : D.Phi → Bool) (hq : ∀ H', InH F H' → Kp H.size H H' → ∀ x, x ∈ l → ∀ u, rPhi.ra F u x → Ct Try.prog fp (u :: cp).toArray H' (fun v H'' => v = .bool (q x) ∧ Kp H'.size H' H'')) :
    Ct Try.prog 97 #[a0, .func (.func fp) #[] cp.toArray] H (fun v H' => v = .int .i64 (idxM l q) ∧ Kp H.size H H') := by
  have q0 := rL.len2 p0
  have hkp := Kp.refl H.size H
  have hx := PH.ext.refl (H := H) F
  refine Ct.enter (args := [a0, .func (.func fp) #[] cp.toArray]) Try.func97 rfl rfl rfl (fun w0 hw0 => ?_)
  refine CF.seq (CF.region (LF.step (OpOk.assign rfl) (LF.nil (PF.next (CF.seq (CF.seq (CF.region (LF.step (OpOk.move rfl) ?_))))))))
  refine LF.step (OpOk.lenL Try.underlying58 p0 rfl) ?_
  refine LF.step (OpOk.move rfl) (LF.nil (PF.next (CF.block ?_)))
  refine CF.loop (ι := Nat) (fun k H1 => k ≤ l.length ∧ (∀ x ∈ l.take k, q x = false) ∧ InH F H1 ∧ Kp H.size H H1) (fun k => [(0, a0), (1, .func (.func fp) #[] cp.toArray), (7, .int .i64 (↑(List.length l))), (8, .int .i64 (↑k))]) (fun k => l.length - k) 0 ⟨by omega, by simp, hin, hkp⟩ ⟨rfl, rfl, rfl, eqI (by omega), trivial⟩ ?_
  clear hin hkp
  rintro k H1 ⟨hk, hR, hin, hkp⟩
  refine CF.seq (CF.region ?_)
  refine LF.step (OpOk.lss rfl rfl) ?_
  refine LF.nil (PF.next (CF.seq ?_))
  refine CF.if rfl (fun hc1 => ?_) (fun hc1 => ?_)
  refine CF.skip (PF.next (CF.seq (CF.block (CF.seq (CF.region (LF.step (OpOk.move rfl) (LF.step (OpOk.assign rfl) (LF.nil (PF.next (CF.seq (CF.region ?_)))))))))))
  refine LF.step (OpOk.move rfl) (LF.step (OpOk.move rfl) (LF.step (OpOk.move rfl) ?_))
  refine LF.step (OpOk.idxL (i := k) Try.underlying58 Try.sz70 p0 rfl rfl rfl (by omega)) ?_
  refine LF.stepE (OpOk.ldA hin (rL.ix p0 k (by omega)) Try.agg70 Try.sz70 rfl) ?_
  intro v15 h15
  have h15k := rPhi.any h15
  obtain ⟨v15c1, rfl, h15c1⟩ := rPhi.open h15
  have h15c1q := rL.len2 h15c1
  refine LF.call (OpCall.fnc hE rfl rfl) (hq _ hin hkp _ (ix_mem (by omega)) _ h15) ?_
  rintro _ H16 ⟨rfl, k16⟩
  have zk16 := k16.1
  replace hin := hin.kp k16
  replace hkp := hkp.trans (k16.mono hkp.1)
  refine LF.nil (PF.next ?_)
  refine CF.if rfl (fun hc2 => ?_) (fun hc2 => ?_)
  refine CF.seq (CF.region (LF.step (OpOk.move rfl) (LF.step (OpOk.assign rfl) (LF.nil (PF.next (CF.ret (PF.blockRet (PF.thenRet (PF.thenRet (PF.blockRet (PF.thenRet ?_)))))))))))
  have hm : idxM l q = ((k : Nat) : Int) := by
    exact idx_hit (by omega) hR hc2
  exact PF.ret1 rfl rfl ⟨by rw [hm] <;> rfl, hkp⟩
  refine CF.skip (PF.blockNormal (PF.next (CF.region ?_)))
  refine LF.step (OpOk.add rfl rfl (by omega)) ?_
  refine LF.step (OpOk.move rfl) (LF.nil ?_)
  exact PF.again (k + 1) ⟨by omega, no_snoc (by omega) hR hc2, hin, hkp⟩ ⟨rfl, rfl, rfl, eqI (by omega), trivial⟩ (by omega)
  refine CF.exit (PF.thenExit (PF.thenExit (PF.blockHere (PF.next (CF.seq (CF.region (LF.step (OpOk.assign rfl) (LF.nil (PF.next (CF.ret ?_))))))))))
  have hm : idxM l q = (-1) := by
    exact idx_none (by omega) hR
  exact PF.ret1 rfl rfl ⟨by rw [hm] <;> rfl, hkp⟩

-- slices.ContainsFunc[[]jacquard/api.Phi,jacquard/api.Phi]: function 82
theorem anyFPhi_ct {F : PH} {H : Heap} (hin : InH F H) {a0 : Value} {l : List D.Phi} (p0 : (rL rPhi).rv F a0 l) (fp : Nat) (cp : List Value) (hE : Ent Try.prog fp) (q : D.Phi → Bool) (hq : ∀ H', InH F H' → Kp H.size H H' → ∀ x, x ∈ l → ∀ u, rPhi.ra F u x → Ct Try.prog fp (u :: cp).toArray H' (fun v H'' => v = .bool (q x) ∧ Kp H'.size H' H'')) :
    Ct Try.prog 82 #[a0, .func (.func fp) #[] cp.toArray] H (fun v H' => v = .bool (anyM l q) ∧ Kp H.size H H') := by
  have q0 := rL.len2 p0
  have hkp := Kp.refl H.size H
  have hx := PH.ext.refl (H := H) F
  refine Ct.enter (args := [a0, .func (.func fp) #[] cp.toArray]) Try.func82 rfl rfl rfl (fun w0 hw0 => ?_)
  refine CF.seq (CF.region (LF.step (OpOk.assign rfl) (LF.nil (PF.next (CF.seq (CF.region (LF.step (OpOk.move rfl) (LF.step (OpOk.move rfl) ?_))))))))
  refine LF.call (OpCall.fn Try.ent97 rfl rfl) (idxFPhi_ct hin p0 fp cp hE q hq) ?_
  rintro _ H7 ⟨rfl, k7⟩
  have zk7 := k7.1
  replace hin := hin.kp k7
  replace hkp := hkp.trans (k7.mono hkp.1)
  refine LF.step (OpOk.geq rfl rfl) ?_
  refine LF.step (OpOk.assign rfl) (LF.nil (PF.next (CF.ret ?_)))
  have hm : anyM l q = (decide (0 ≤ idxM l q)) := by
    exact (idx_any l q).symm
  exact PF.ret1 rfl rfl ⟨by rw [hm] <;> rfl, hkp⟩

end Go.Proofs.Ytehibklogdngbaa
