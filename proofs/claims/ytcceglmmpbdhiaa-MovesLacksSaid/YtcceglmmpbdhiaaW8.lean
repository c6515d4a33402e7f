/- Walks. Conditions: each contract names its own. -/
import Derived.Test.YtcceglmmpbdhiaaW7
namespace Go.Proofs.Ytcceglmmpbdhiaa
set_option linter.unusedVariables false
set_option linter.unusedSimpArgs false
set_option linter.unusedSectionVars false
set_option maxRecDepth 8000
open Go.JE

theorem Try.ent52 : Ent Try.prog 52 := ⟨_, Try.func52, by kernel_rfl, by kernel_rfl⟩
theorem Try.ent64 : Ent Try.prog 64 := ⟨_, Try.func64, by kernel_rfl, by kernel_rfl⟩
theorem Try.info3 : (Try.prog.info? 3).map (fun i => (i.zero, i.size, i.bytes)) = some (some (.int .i64 0), 1, 8) := by kernel_rfl
/- ---------------------------------------------- what is wrong first -/
def okM (l : List D.Move) : Bool := l.all (fun m => placeM m.To && placeM m.From)
def nodupM (l : List D.Move) : Bool := decide (l.map (·.To)).Nodup
def namedM (l : List D.Move) (p : Int) : Bool := l.any (fun m => decide (m.To = p ∨ m.From = p))
def wrongM (l : List D.Move) (scr sp : Int) : Int :=
  if okM l = false then 41
  else if nodupM l = false then 12
  else if 15 < scr then 31
  else if 0 ≤ scr ∧ namedM l scr = true then 31
  else if 16382 < sp then 43
  else if 0 ≤ sp ∧ (namedM l (16 + sp) = true ∨ namedM l (17 + sp) = true) then 43
  else 0
theorem all_snoc {α : Type} [Inhabited α] {l : List α} {q : α → Bool} {k : Nat} (hk : k < l.length) : (l.take (k + 1)).all q = ((l.take k).all q && q (ix l k)) := by rw [take_ix hk, List.all_append]; simp
theorem any_snoc {α : Type} [Inhabited α] {l : List α} {q : α → Bool} {k : Nat} (hk : k < l.length) : (l.take (k + 1)).any q = ((l.take k).any q || q (ix l k)) := by rw [take_ix hk, List.any_append]; simp
theorem all_no {α : Type} [Inhabited α] {l : List α} {q : α → Bool} {k : Nat} (hk : k < l.length) (h : q (ix l k) = false) : l.all q = false := by
  rw [List.all_eq_false]; exact ⟨_, ix_mem hk, by simp [h]⟩
theorem any_yes {α : Type} [Inhabited α] {l : List α} {q : α → Bool} {k : Nat} (hk : k < l.length) (h : q (ix l k) = true) : l.any q = true := by
  rw [List.any_eq_true]; exact ⟨_, ix_mem hk, h⟩
theorem ix_map {α β : Type} [Inhabited α] [Inhabited β] {l : List α} {f : α → β} {k : Nat} (hk : k < l.length) : ix (l.map f) k = f (ix l k) := by
  rw [ix_eq (by simpa using hk), ix_eq hk]; simp
theorem nodup_snoc {l : List D.Move} {k : Nat} (hk : k < l.length) (h : ((l.take k).map (·.To)).Nodup) (h2 : ∀ j, j < k → (ix l k).To ≠ (ix l j).To) : ((l.take (k + 1)).map (·.To)).Nodup := by
  rw [take_ix hk, List.map_append, List.nodup_append]
  refine ⟨h, by simp, ?_⟩
  intro a ha b hb
  simp only [List.map_cons, List.map_nil, List.mem_singleton] at hb
  subst hb
  rw [List.mem_map] at ha
  obtain ⟨m, hm, rfl⟩ := ha
  obtain ⟨j, hj, rfl⟩ := List.getElem_of_mem hm
  rw [List.length_take] at hj
  rw [List.getElem_take, ← ix_eq (by omega)]
  exact (h2 j (by omega)).symm
theorem nodup_no {l : List D.Move} {i j : Nat} (hi : i < l.length) (hj : j < i) (h : (ix l i).To = (ix l j).To) : nodupM l = false := by
  simp only [nodupM, decide_eq_false_iff_not]
  intro hn
  rw [List.nodup_iff_pairwise_ne, List.pairwise_iff_getElem] at hn
  have := hn j i (by rw [List.length_map]; omega) (by rw [List.length_map]; omega) hj
  rw [List.getElem_map, List.getElem_map, ← ix_eq hi, ← ix_eq (by omega)] at this
  exact this h.symm
/- ---------------------------------------------- the least that no one takes from -/
def usedM (l : List D.Move) (p : Int) : Bool := l.any (fun m => decide (m.From = p))
def freeF (all : List D.Move) : List D.Move → Int → Int
  | [], best => best
  | m :: r, best => freeF all r (if usedM all m.To = false ∧ (best < 0 ∨ m.To < best) then m.To else best)
def freeM (l : List D.Move) : Int := freeF l l (-1)
def circGo (l : List D.Move) (x : Int) : Nat → Int → List Int
  | 0, _ => []
  | f + 1, p => if p ≠ x ∧ 0 ≤ p then p :: circGo l x f (srcM l p) else []
def circM (l : List D.Move) (x : Int) : List Int := x :: circGo l x l.length (srcM l x)
theorem circGo_step {l : List D.Move} {x p : Int} {n : Nat} (hn : n < l.length) (h : p ≠ x) (h2 : 0 ≤ p) : circGo l x (l.length - n) p = p :: circGo l x (l.length - (n + 1)) (srcM l p) := by
  rw [show l.length - n = (l.length - (n + 1)) + 1 by omega, circGo, if_pos ⟨h, h2⟩]
theorem circGo_end {l : List D.Move} {x p : Int} {n : Nat} (h : l.length ≤ n ∨ p = x ∨ p < 0) : circGo l x (l.length - n) p = [] := by
  cases e : l.length - n with
  | zero => rfl
  | succ m => rw [circGo, if_neg]; omega
theorem okM_mem {l : List D.Move} (h : okM l = true) {m : D.Move} (hm : m ∈ l) : (0 ≤ m.To ∧ m.To < 16400) ∧ 0 ≤ m.From ∧ m.From < 16400 := by
  unfold okM at h
  rw [List.all_eq_true] at h
  have := h m hm
  simp [placeM] at this
  omega
theorem sourceM_cases (p : Int) : ∀ (l : List D.Move) (o : Int), sourceM l p o = o ∨ ∃ m ∈ l, m.To = p ∧ sourceM l p o = m.From
  | [], o => .inl rfl
  | m :: l, o => by
    unfold sourceM
    rcases sourceM_cases p l (if m.To = p then m.From else o) with h | ⟨m', h1, h2, h3⟩
    · by_cases e : m.To = p
      · rw [h, if_pos e]; exact .inr ⟨m, List.mem_cons_self .., e, rfl⟩
      · rw [h, if_neg e]; exact .inl rfl
    · exact .inr ⟨m', List.mem_cons_of_mem _ h1, h2, h3⟩
theorem srcM_rng {l : List D.Move} (h : okM l = true) (p : Int) : -1 ≤ srcM l p ∧ srcM l p < 16400 := by
  unfold srcM
  rcases sourceM_cases p l (-1) with e | ⟨m, h1, _, e⟩
  · rw [e]; omega
  · rw [e]; have := okM_mem h h1; omega

-- jacquard/jacquardref11.free: function 50
theorem free_ct {F : PH} {H : Heap} (hin : InH F H) {a0 : Value} {l : List D.Move} (p0 : (rL rMove).rv F a0 l) :
    Ct Try.prog 50 #[a0] H (fun v H' => v = .int .i64 (freeM l) ∧ Kp H.size H H') := by
  have q0 := rL.len2 p0
  have hkp := Kp.refl H.size H
  have hx := PH.ext.refl (H := H) F
  refine Ct.enter (args := [a0]) Try.func50 rfl rfl rfl (fun w0 hw0 => ?_)
  refine CF.seq (CF.region (LF.step (OpOk.assign rfl) (LF.nil (PF.next (CF.seq (CF.region (LF.step (OpOk.assign rfl) (LF.nil (PF.next (CF.seq (CF.seq ?_)))))))))))
  refine CF.region (LF.step (OpOk.assign rfl) (LF.nil (PF.next (CF.block ?_))))
  refine CF.loop (ι := Nat × Int) (fun z9 H1 => z9.1 ≤ l.length ∧ freeM l = freeF l (l.drop z9.1) z9.2 ∧ InH F H1 ∧ Kp H.size H H1) (fun z9 => [(0, a0), (2, .int .i64 0), (3, .int .i64 z9.2), (4, .int .i64 (↑z9.1))]) (fun z9 => l.length - z9.1) (0, -1) ⟨by dsimp only; omega, rfl, hin, hkp⟩ ⟨rfl, rfl, eqI (by omega), eqI (by omega), trivial⟩ ?_
  clear hin hkp
  rintro ⟨k, o⟩ H1 ⟨hk, hR, hin, hkp⟩
  dsimp only at hk hR ⊢
  refine CF.seq (CF.seq (CF.region (LF.step (OpOk.move rfl) (LF.step (OpOk.move rfl) ?_))))
  refine LF.step (OpOk.lenL Try.underlying22 p0 rfl) ?_
  refine LF.step (OpOk.lss rfl rfl) ?_
  refine LF.nil (PF.next ?_)
  refine CF.if rfl (fun hc1 => ?_) (fun hc1 => ?_)
  refine CF.skip (PF.next (CF.seq (CF.block (CF.seq (CF.region (LF.step (OpOk.assign rfl) (LF.nil (PF.next (CF.seq (CF.seq (CF.region ?_)))))))))))
  refine LF.step (OpOk.assign rfl) (LF.nil (PF.next (CF.block ?_)))
  refine CF.loop (ι := Nat × Bool) (fun z9 H1 => z9.1 ≤ l.length ∧ z9.2 = (l.take z9.1).any (fun m => decide (m.From = (ix l k).To)) ∧ InH F H1 ∧ Kp H.size H H1) (fun z9 => [(0, a0), (2, .int .i64 0), (3, .int .i64 o), (4, .int .i64 (↑k)), (5, .bool z9.2), (6, .int .i64 (↑z9.1))]) (fun z9 => l.length - z9.1) (0, false) ⟨by dsimp only; omega, rfl, hin, hkp⟩ ⟨rfl, rfl, rfl, rfl, rfl, eqI (by omega), trivial⟩ ?_
  clear hin hkp
  rintro ⟨j, u⟩ H1 ⟨hj, hu, hin, hkp⟩
  dsimp only at hj hu ⊢
  refine CF.seq (CF.seq (CF.region (LF.step (OpOk.move rfl) (LF.step (OpOk.move rfl) ?_))))
  refine LF.step (OpOk.lenL Try.underlying22 p0 rfl) ?_
  refine LF.step (OpOk.lss rfl rfl) ?_
  refine LF.nil (PF.next ?_)
  refine CF.if rfl (fun hc2 => ?_) (fun hc2 => ?_)
  refine CF.skip (PF.next (CF.seq (CF.block ?_)))
  refine CF.still Try.mixed (by kernel_rfl) ?_
  refine LS.step (OpOk.move rfl) (LS.step (OpOk.move rfl) ?_)
  refine LS.gstep rfl rfl (.f _) (fun hg => OpOk.move rfl) ?_
  refine LS.gstep rfl rfl (.f _) (fun hg => OpOk.move rfl) ?_
  refine LS.gstep rfl rfl (.f _) (fun hg => OpOk.idxL (i := j) Try.underlying22 Try.sz31 p0 (evg rfl hg) (evg rfl hg) rfl (by omega)) ?_
  refine LS.gstep rfl rfl (.f _) (fun hg => OpOk.fieldAddr (Try.fld31_1) (evg rfl hg)) ?_
  refine LS.gstep rfl rfl (.f _) (fun hg => OpOk.ldI hin (rMove.at_From (rL.ix p0 j (by omega))) Try.one3 (evg rfl hg)) ?_
  refine LS.gstep rfl rfl (.f _) (fun hg => OpOk.move rfl) ?_
  refine LS.gstep rfl rfl (.f _) (fun hg => OpOk.move rfl) ?_
  refine LS.gstep rfl rfl (.f _) (fun hg => OpOk.idxL (i := k) Try.underlying22 Try.sz31 p0 (evg rfl hg) (evg rfl hg) rfl (by omega)) ?_
  refine LS.gstep rfl rfl (.f _) (fun hg => OpOk.fieldAddr (Try.fld31_0) (evg rfl hg)) ?_
  refine LS.gstep rfl rfl (.f _) (fun hg => OpOk.ldI hin (rMove.at_To (rL.ix p0 k (by omega))) Try.one3 (evg rfl hg)) ?_
  refine LS.gstep rfl rfl (.f _) (fun hg => OpOk.eql (evg rfl hg) (evg rfl hg)) ?_
  refine LS.step (OpOk.pickOr rfl rfl) ?_
  refine LS.step (OpOk.assign rfl) ?_
  refine LS.done ?_
  refine PF.blockNormal (PF.next (CF.region (LF.step (OpOk.move rfl) ?_)))
  refine LF.step (OpOk.add rfl rfl (by omega)) ?_
  refine LF.step (OpOk.assign rfl) (LF.nil ?_)
  exact PF.again (j + 1, u || (decide ((ix l j).From = (ix l k).To))) ⟨by dsimp only; omega, by dsimp only; rw [any_snoc (by omega), ← hu] <;> (try first | rfl | (cases u <;> rfl)), hin, hkp⟩ ⟨rfl, rfl, rfl, rfl, rfl, eqI (by omega), trivial⟩ (by omega)
  have hu9 : usedM l (ix l k).To = u := by unfold usedM; rw [hu, List.take_of_length_le (by omega)]
  clear hu
  refine CF.exit (PF.thenExit (PF.thenExit (PF.blockHere (PF.next (CF.seq (CF.region (LF.step (OpOk.move rfl) ?_)))))))
  refine LF.step (OpOk.not rfl) ?_
  refine LF.step (OpOk.move rfl) ?_
  refine LF.gstep rfl rfl (.t _) (fun hg => OpOk.move rfl) ?_
  refine LF.gstep rfl rfl (.t _) (fun hg => OpOk.lss (evg rfl hg) rfl) ?_
  refine LF.gstep rfl rfl (.t _) (fun hg => OpOk.move (evg rfl hg)) ?_
  refine LF.gstep rfl rfl (.gf _ _) (fun hg => OpOk.move rfl) ?_
  refine LF.gstep rfl rfl (.gf _ _) (fun hg => OpOk.move rfl) ?_
  refine LF.gstep rfl rfl (.gf _ _) (fun hg => OpOk.idxL (i := k) Try.underlying22 Try.sz31 p0 (evg rfl hg) (evg rfl hg) rfl (by omega)) ?_
  refine LF.gstep rfl rfl (.gf _ _) (fun hg => OpOk.fieldAddr (Try.fld31_0) (evg rfl hg)) ?_
  refine LF.gstep rfl rfl (.gf _ _) (fun hg => OpOk.ldI hin (rMove.at_To (rL.ix p0 k (by omega))) Try.one3 (evg rfl hg)) ?_
  refine LF.gstep rfl rfl (.gf _ _) (fun hg => OpOk.move rfl) ?_
  refine LF.gstep rfl rfl (.gf _ _) (fun hg => OpOk.lss (evg rfl hg) (evg rfl hg)) ?_
  refine LF.gstep rfl rfl (.t _) (fun hg => OpOk.pickOr2 hg rfl rfl) ?_
  refine LF.step (OpOk.pickAnd rfl rfl) ?_
  refine LF.nil (PF.next ?_)
  refine CF.if rfl (fun hc3 => ?_) (fun hc3 => ?_)
  refine CF.region (LF.step (OpOk.move rfl) (LF.step (OpOk.move rfl) ?_))
  refine LF.step (OpOk.idxL (i := k) Try.underlying22 Try.sz31 p0 rfl rfl rfl (by omega)) ?_
  refine LF.step (OpOk.fieldAddr (Try.fld31_0) rfl) ?_
  refine LF.step (OpOk.ldI hin (rMove.at_To (rL.ix p0 k (by omega))) Try.one3 rfl) ?_
  refine LF.step (OpOk.assign rfl) (LF.nil (PF.blockNormal (PF.next (CF.region (LF.step (OpOk.move rfl) ?_)))))
  refine LF.step (OpOk.add rfl rfl (by omega)) ?_
  refine LF.step (OpOk.assign rfl) (LF.nil ?_)
  exact PF.again (k + 1, (ix l k).To) ⟨by dsimp only; omega, by dsimp only; rw [hR, drop_ix (by omega), freeF]; congr 1; rw [hu9]; clear hR; split <;> rename_i h9 <;> first | rfl | (exfalso; cases u <;> simp at h9 hc3 <;> omega), hin, hkp⟩ ⟨rfl, rfl, eqI (by omega), eqI (by omega), trivial⟩ (by omega)
  refine CF.skip (PF.blockNormal (PF.next (CF.region (LF.step (OpOk.move rfl) ?_))))
  refine LF.step (OpOk.add rfl rfl (by omega)) ?_
  refine LF.step (OpOk.assign rfl) (LF.nil ?_)
  exact PF.again (k + 1, o) ⟨by dsimp only; omega, by dsimp only; rw [hR, drop_ix (by omega), freeF]; congr 1; rw [hu9]; clear hR; split <;> rename_i h9 <;> first | rfl | (exfalso; cases u <;> simp at h9 hc3 <;> omega), hin, hkp⟩ ⟨rfl, rfl, rfl, eqI (by omega), trivial⟩ (by omega)
  refine CF.exit (PF.thenExit (PF.thenExit (PF.blockHere (PF.next (CF.seq (CF.region (LF.step (OpOk.move rfl) (LF.step (OpOk.assign rfl) (LF.nil (PF.next (CF.ret ?_)))))))))))
  have hm : freeM l = o := by
    rw [hR, List.drop_of_length_le (by omega)]; rfl
  exact PF.ret1 rfl rfl ⟨by rw [hm] <;> rfl, hkp⟩

-- jacquard/jacquardref11.circle: function 54
theorem circle_ct {F : PH} {H : Heap} (hin : InH F H) {a0 : Value} {l : List D.Move} (p0 : (rL rMove).rv F a0 l) (x : Int) (hl1 : l.length < 1000) (hok : okM l = true) (hx0 : 0 ≤ x ∧ x < 16400) :
    Ct Try.prog 54 #[a0, .int .i64 x] H (fun v H' => ∃ F', PH.ext H F F' ∧ InH F' H' ∧ Kp H.size H H' ∧ (rL (rI .i64)).rv F' v (circM l x)) := by
  have q0 := rL.len2 p0
  have hkp := Kp.refl H.size H
  have hx := PH.ext.refl (H := H) F
  refine Ct.enter (args := [a0, .int .i64 x]) Try.func54 rfl rfl rfl (fun w0 hw0 => ?_)
  refine CF.seq (CF.region (LF.step (OpOk.assign rfl) (LF.nil (PF.next (CF.seq (CF.region (LF.step (OpOk.move rfl) ?_)))))))
  refine LF.chg (OpCh.litL (F := F) (r := (rI .i64)) (l := [x]) (us := [.int .i64 x]) (cs := [[.int .i64 x]]) Try.underlying23 Try.info3 (by decide) rfl rfl rfl ⟨rfl, rfl, ⟨rfl, (IntWalk.i64_in x (by omega))⟩, trivial⟩) ?_
  rintro _ H8 ⟨g8, rfl, e8, s8, k8, x8⟩
  have l8 := hkp.1
  replace x8 := (x8 hin).base l8
  have zk8 := k8.1
  replace hin := hin.kp k8
  replace hkp := hkp.trans (k8.mono hkp.1)
  refine LF.step (OpOk.assign rfl) (LF.nil (PF.next (CF.seq (CF.seq (CF.region (LF.step (OpOk.move rfl) (LF.step (OpOk.move rfl) ?_)))))))
  refine LF.call (OpCall.fn Try.ent52 rfl rfl) (source_ct hin p0 x) ?_
  rintro _ _ ⟨rfl, rfl⟩
  refine LF.step (OpOk.assign rfl) (LF.nil (PF.next (CF.block ?_)))
  refine CF.loop (ι := Value × List Int × Int) (fun z9 H1 => -1 ≤ z9.2.2 ∧ z9.2.2 < 16400 ∧ 1 ≤ z9.2.1.length ∧ z9.2.1.length ≤ l.length + 1 ∧ circM l x = z9.2.1 ++ circGo l x (l.length - (z9.2.1.length - 1)) z9.2.2 ∧ InH F H1 ∧ Kp H.size H H1 ∧ Gl (rI .i64) 3 F H1 H.size z9.1 z9.2.1) (fun z9 => [(0, a0), (1, .int .i64 x), (4, .slice none 0 0), (5, z9.1), (6, .int .i64 z9.2.2)]) (fun z9 => l.length + 2 - z9.2.1.length) (.slice (some ⟨g8, 0, none⟩) 1 1, [x], srcM l x) ⟨(srcM_rng hok _).1, (srcM_rng hok _).2, by dsimp only; simp, by dsimp only; simp, by dsimp only; simp [circM], hin, hkp, x8⟩ ⟨rfl, rfl, rfl, rfl, rfl, trivial⟩ ?_
  clear hin hkp x8
  rintro ⟨vo, o, q⟩ H1 ⟨hq1, hq2, ho1, ho2, hR, hin, hkp, x8⟩
  dsimp only at hq1 hq2 ho1 ho2 hR x8 ⊢
  refine CF.seq (CF.seq (CF.region (LF.step (OpOk.move rfl) (LF.step (OpOk.move rfl) ?_))))
  refine LF.step (OpOk.neq rfl rfl) ?_
  refine LF.step (OpOk.move rfl) ?_
  refine LF.gstep rfl rfl (.t _) (fun hg => OpOk.move rfl) ?_
  refine LF.gstep rfl rfl (.t _) (fun hg => OpOk.geq (evg rfl hg) rfl) ?_
  refine LF.step (OpOk.pickAnd rfl rfl) ?_
  refine LF.step (OpOk.move rfl) ?_
  refine LF.gstep rfl rfl (.t _) (fun hg => OpOk.move rfl) ?_
  refine LF.gstep rfl rfl (.t _) (fun hg => OpOk.lenG Try.underlying23 x8 (evg rfl hg)) ?_
  refine LF.gstep rfl rfl (.t _) (fun hg => OpOk.move rfl) ?_
  refine LF.gstep rfl rfl (.t _) (fun hg => OpOk.lenL Try.underlying22 p0 (evg rfl hg)) ?_
  refine LF.gstep rfl rfl (.t _) (fun hg => OpOk.leq (evg rfl hg) (evg rfl hg)) ?_
  refine LF.step (OpOk.pickAnd rfl rfl) ?_
  refine LF.nil (PF.next ?_)
  refine CF.if rfl (fun hc1 => ?_) (fun hc1 => ?_)
  refine CF.skip (PF.next (CF.seq (CF.block (CF.region (LF.step (OpOk.move rfl) (LF.step (OpOk.move rfl) ?_))))))
  refine LF.appV (r := (rI .i64)) (a := q) Try.underlying23 Try.info3 (by decide) rfl rfl rfl ⟨rfl, (IntWalk.i64_in q (by omega))⟩ x8 hin (by first | (simp only [List.length_append, List.length_take, List.length_drop, List.length_nil, List.length_cons, List.length_set, List.length_replicate]; omega) | (simp; done) | (simp; omega) | omega) rfl ?_ hkp.1
  intro v32 H32 x32 gb32 nn32 ob32
  replace hin := hin.grown gb32 x8.no
  replace hkp := gb32.kp hkp (Nat.le_refl _) (fun k0 hk0 => (x8.blk k0 hk0).1)
  refine LF.step (OpOk.assign rfl) (LF.nil (PF.blockNormal (PF.next (CF.region (LF.step (OpOk.move rfl) (LF.step (OpOk.move rfl) ?_))))))
  refine LF.call (OpCall.fn Try.ent52 rfl rfl) (source_ct hin p0 q) ?_
  rintro _ _ ⟨rfl, rfl⟩
  refine LF.step (OpOk.assign rfl) (LF.nil ?_)
  exact PF.again (v32, o ++ [q], srcM l q) ⟨(srcM_rng hok _).1, (srcM_rng hok _).2, by dsimp only; rw [List.length_append, List.length_singleton]; omega, by dsimp only; rw [List.length_append, List.length_singleton]; omega, by dsimp only; rw [hR, circGo_step (by omega) (by simp_all) (by simp_all), List.append_assoc, List.length_append, List.length_singleton, show o.length - 1 + 1 = o.length + 1 - 1 by omega]; rfl, hin, hkp, x32⟩ ⟨rfl, rfl, rfl, rfl, rfl, trivial⟩ (by dsimp only; rw [List.length_append, List.length_singleton]; omega)
  refine CF.exit (PF.thenExit (PF.thenExit (PF.blockHere (PF.next (CF.seq (CF.region (LF.step (OpOk.move rfl) (LF.step (OpOk.assign rfl) (LF.nil (PF.next (CF.ret ?_)))))))))))
  obtain ⟨Fz1, hxz1, lez1, hinz1, _, hrz1⟩ := x8.freezeX hin hx (Nat.le_refl _) (by first | (simp only [List.length_append, List.length_take, List.length_drop, List.length_nil, List.length_cons, List.length_set, List.length_replicate]; omega) | (simp; done) | (simp; omega) | omega)
  replace hin := hinz1
  replace hx := hxz1
  have le0 := lez1
  have hm : circM l x = o := by
    rw [hR, circGo_end (by simp at hc1; omega), List.append_nil]
  exact PF.ret1 rfl rfl ⟨_, hx, hin, hkp, by rw [hm]; exact hrz1⟩

-- jacquard/jacquardref11.wrong: function 49
theorem rWrong_ct {F : PH} {H : Heap} (hin : InH F H) {a0 : Value} {l : List D.Move} (p0 : (rL rMove).rv F a0 l) (scr : Int) (sp : Int) (ww2 : IntKind.i64.wrap sp = sp) :
    Ct Try.prog 49 #[a0, .int .i64 scr, .int .i64 sp] H (fun v H' => v = .int .i64 (wrongM l scr sp) ∧ Kp H.size H H') := by
  have q0 := rL.len2 p0
  have hkp := Kp.refl H.size H
  have hx := PH.ext.refl (H := H) F
  have b2 := i64_rng ww2
  refine Ct.enter (args := [a0, .int .i64 scr, .int .i64 sp]) Try.func49 rfl rfl rfl (fun w0 hw0 => ?_)
  refine CF.seq (CF.region (LF.step (OpOk.assign rfl) (LF.nil (PF.next (CF.seq (CF.seq (CF.region (LF.step (OpOk.assign rfl) (LF.nil (PF.next (CF.block ?_)))))))))))
  refine CF.loop (ι := Nat) (fun k H1 => k ≤ l.length ∧ okM (l.take k) = true ∧ InH F H1 ∧ Kp H.size H H1) (fun k => [(0, a0), (1, .int .i64 scr), (2, .int .i64 sp), (7, .int .i64 (↑k))]) (fun k => l.length - k) 0 ⟨by omega, rfl, hin, hkp⟩ ⟨rfl, rfl, rfl, eqI (by omega), trivial⟩ ?_
  clear hin hkp
  rintro k H1 ⟨hk, hR, hin, hkp⟩
  refine CF.seq (CF.seq (CF.region (LF.step (OpOk.move rfl) (LF.step (OpOk.move rfl) ?_))))
  refine LF.step (OpOk.lenL Try.underlying22 p0 rfl) ?_
  refine LF.step (OpOk.lss rfl rfl) ?_
  refine LF.nil (PF.next ?_)
  refine CF.if rfl (fun hc1 => ?_) (fun hc1 => ?_)
  refine CF.skip (PF.next (CF.seq (CF.block (CF.seq (CF.region (LF.step (OpOk.move rfl) (LF.step (OpOk.move rfl) ?_)))))))
  refine LF.step (OpOk.idxL (i := k) Try.underlying22 Try.sz31 p0 rfl rfl rfl (by omega)) ?_
  refine LF.step (OpOk.fieldAddr (Try.fld31_0) rfl) ?_
  refine LF.step (OpOk.ldI hin (rMove.at_To (rL.ix p0 k (by omega))) Try.one3 rfl) ?_
  refine LF.call (OpCall.fn Try.ent64 rfl rfl) (rPlace_ct hin ((ix l k).To)) ?_
  rintro _ _ ⟨rfl, rfl⟩
  refine LF.step (OpOk.assign rfl) (LF.nil (PF.next (CF.seq (CF.region (LF.step (OpOk.move rfl) (LF.step (OpOk.move rfl) ?_))))))
  refine LF.step (OpOk.idxL (i := k) Try.underlying22 Try.sz31 p0 rfl rfl rfl (by omega)) ?_
  refine LF.step (OpOk.fieldAddr (Try.fld31_1) rfl) ?_
  refine LF.step (OpOk.ldI hin (rMove.at_From (rL.ix p0 k (by omega))) Try.one3 rfl) ?_
  refine LF.call (OpCall.fn Try.ent64 rfl rfl) (rPlace_ct hin ((ix l k).From)) ?_
  rintro _ _ ⟨rfl, rfl⟩
  refine LF.step (OpOk.assign rfl) (LF.nil (PF.next (CF.seq (CF.region (LF.step (OpOk.move rfl) ?_)))))
  refine LF.step (OpOk.not rfl) ?_
  refine LF.step (OpOk.move rfl) ?_
  refine LF.gstep rfl rfl (.f _) (fun hg => OpOk.move rfl) ?_
  refine LF.gstep rfl rfl (.f _) (fun hg => OpOk.not (evg rfl hg)) ?_
  refine LF.step (OpOk.pickOr rfl rfl) ?_
  refine LF.nil (PF.next ?_)
  refine CF.if rfl (fun hc2 => ?_) (fun hc2 => ?_)
  refine CF.seq (CF.region (LF.step (OpOk.assign rfl) (LF.nil (PF.next (CF.ret (PF.blockRet (PF.thenRet (PF.thenRet (PF.blockRet (PF.thenRet ?_))))))))))
  exact PF.ret1 rfl rfl ⟨by unfold wrongM; rw [if_pos (show okM l = false from all_no (k := k) (by omega) (by simp only [Bool.and_eq_false_iff]; assumption))], hkp⟩
  refine CF.skip (PF.blockNormal (PF.next (CF.region (LF.step (OpOk.move rfl) ?_))))
  refine LF.step (OpOk.add rfl rfl (by omega)) ?_
  refine LF.step (OpOk.assign rfl) (LF.nil ?_)
  exact PF.again (k + 1) ⟨by omega, by unfold okM at hR ⊢; rw [all_snoc (by omega), hR, hc2.1, hc2.2]; rfl, hin, hkp⟩ ⟨rfl, rfl, rfl, eqI (by omega), trivial⟩ (by omega)
  have hO : okM l = true := by rw [List.take_of_length_le (by omega)] at hR; exact hR
  refine CF.exit (PF.thenExit (PF.thenExit (PF.blockHere (PF.next (CF.seq (CF.seq (CF.region (LF.step (OpOk.assign rfl) (LF.nil (PF.next (CF.block ?_)))))))))))
  refine CF.loop (ι := Nat) (fun k H1 => k ≤ l.length ∧ ((l.take k).map (·.To)).Nodup ∧ InH F H1 ∧ Kp H.size H H1) (fun k => [(0, a0), (1, .int .i64 scr), (2, .int .i64 sp), (10, .int .i64 (↑k))]) (fun k => l.length - k) 0 ⟨by omega, by simp, hin, hkp⟩ ⟨rfl, rfl, rfl, eqI (by omega), trivial⟩ ?_
  clear hin hkp
  rintro k H1 ⟨hk, hN, hin, hkp⟩
  refine CF.seq (CF.seq (CF.region (LF.step (OpOk.move rfl) (LF.step (OpOk.move rfl) ?_))))
  refine LF.step (OpOk.lenL Try.underlying22 p0 rfl) ?_
  refine LF.step (OpOk.lss rfl rfl) ?_
  refine LF.nil (PF.next ?_)
  refine CF.if rfl (fun hc3 => ?_) (fun hc3 => ?_)
  refine CF.skip (PF.next (CF.seq (CF.block (CF.seq (CF.region (LF.step (OpOk.assign rfl) (LF.nil (PF.next (CF.block ?_)))))))))
  refine CF.loop (ι := Nat) (fun j H1 => j ≤ k ∧ (∀ i, i < j → (ix l k).To ≠ (ix l i).To) ∧ InH F H1 ∧ Kp H.size H H1) (fun j => [(0, a0), (1, .int .i64 scr), (2, .int .i64 sp), (10, .int .i64 (↑k)), (11, .int .i64 (↑j))]) (fun j => k - j) 0 ⟨by omega, fun i h => by omega, hin, hkp⟩ ⟨rfl, rfl, rfl, rfl, eqI (by omega), trivial⟩ ?_
  clear hin hkp
  rintro j H1 ⟨hj, hJ, hin, hkp⟩
  refine CF.seq (CF.seq (CF.region (LF.step (OpOk.move rfl) (LF.step (OpOk.move rfl) ?_))))
  refine LF.step (OpOk.lss rfl rfl) ?_
  refine LF.nil (PF.next ?_)
  refine CF.if rfl (fun hc4 => ?_) (fun hc4 => ?_)
  refine CF.skip (PF.next (CF.seq (CF.block (CF.seq ?_))))
  refine CF.still Try.mixed (by kernel_rfl) ?_
  refine LS.step (OpOk.move rfl) (LS.step (OpOk.move rfl) ?_)
  refine LS.step (OpOk.idxL (i := k) Try.underlying22 Try.sz31 p0 rfl rfl rfl (by omega)) ?_
  refine LS.step (OpOk.fieldAddr (Try.fld31_0) rfl) ?_
  refine LS.step (OpOk.ldI hin (rMove.at_To (rL.ix p0 k (by omega))) Try.one3 rfl) ?_
  refine LS.step (OpOk.move rfl) (LS.step (OpOk.move rfl) ?_)
  refine LS.step (OpOk.idxL (i := j) Try.underlying22 Try.sz31 p0 rfl rfl rfl (by omega)) ?_
  refine LS.step (OpOk.fieldAddr (Try.fld31_0) rfl) ?_
  refine LS.step (OpOk.ldI hin (rMove.at_To (rL.ix p0 j (by omega))) Try.one3 rfl) ?_
  refine LS.step (OpOk.eql rfl rfl) ?_
  refine LS.done ?_
  refine PF.next ?_
  refine CF.if rfl (fun hc5 => ?_) (fun hc5 => ?_)
  refine CF.seq (CF.region (LF.step (OpOk.assign rfl) (LF.nil (PF.next (CF.ret (PF.blockRet (PF.thenRet (PF.thenRet (PF.blockRet (PF.blockRet (PF.thenRet ?_)))))))))))
  refine PF.thenRet (PF.blockRet (PF.thenRet ?_))
  exact PF.ret1 rfl rfl ⟨by unfold wrongM; rw [if_neg (by rw [hO]; decide), if_pos (nodup_no (i := k) (j := j) (by omega) (by omega) hc5)], hkp⟩
  refine CF.skip (PF.blockNormal (PF.next (CF.region (LF.step (OpOk.move rfl) ?_))))
  refine LF.step (OpOk.add rfl rfl (by omega)) ?_
  refine LF.step (OpOk.assign rfl) (LF.nil ?_)
  exact PF.again (j + 1) ⟨by omega, fun i9 h9 => by (by_cases e : i9 = j; (· subst e; assumption)); exact hJ i9 (by omega), hin, hkp⟩ ⟨rfl, rfl, rfl, rfl, eqI (by omega), trivial⟩ (by omega)
  refine CF.exit (PF.thenExit (PF.thenExit (PF.blockHere (PF.blockNormal (PF.next (CF.region (LF.step (OpOk.move rfl) ?_)))))))
  refine LF.step (OpOk.add rfl rfl (by omega)) ?_
  refine LF.step (OpOk.assign rfl) (LF.nil ?_)
  exact PF.again (k + 1) ⟨by omega, nodup_snoc (by omega) hN (fun i9 h9 => hJ i9 (by omega)), hin, hkp⟩ ⟨rfl, rfl, rfl, eqI (by omega), trivial⟩ (by omega)
  have hN2 : nodupM l = true := by rw [List.take_of_length_le (by omega)] at hN; simpa [nodupM] using hN
  refine CF.exit (PF.thenExit (PF.thenExit (PF.blockHere (PF.next (CF.seq (CF.seq (CF.region (LF.step (OpOk.move rfl) ?_))))))))
  refine LF.step (OpOk.gtr rfl rfl) ?_
  refine LF.nil (PF.next ?_)
  refine CF.if rfl (fun hc6 => ?_) (fun hc6 => ?_)
  refine CF.seq (CF.region (LF.step (OpOk.assign rfl) (LF.nil (PF.next (CF.ret (PF.thenRet ?_))))))
  exact PF.ret1 rfl rfl ⟨by unfold wrongM; rw [if_neg (by rw [hO]; decide), if_neg (by rw [hN2]; decide), if_pos (by omega)], hkp⟩
  refine CF.skip (PF.next (CF.seq (CF.seq (CF.region (LF.step (OpOk.assign rfl) (LF.nil (PF.next (CF.block ?_))))))))
  refine CF.loop (ι := Nat) (fun k H1 => k ≤ l.length ∧ (0 ≤ scr → namedM (l.take k) scr = false) ∧ InH F H1 ∧ Kp H.size H H1) (fun k => [(0, a0), (1, .int .i64 scr), (2, .int .i64 sp), (12, .int .i64 (↑k))]) (fun k => l.length - k) 0 ⟨by omega, fun _ => rfl, hin, hkp⟩ ⟨rfl, rfl, rfl, eqI (by omega), trivial⟩ ?_
  clear hin hkp
  rintro k H1 ⟨hk, hS, hin, hkp⟩
  refine CF.seq (CF.seq (CF.region (LF.step (OpOk.move rfl) (LF.step (OpOk.move rfl) ?_))))
  refine LF.step (OpOk.lenL Try.underlying22 p0 rfl) ?_
  refine LF.step (OpOk.lss rfl rfl) ?_
  refine LF.nil (PF.next ?_)
  refine CF.if rfl (fun hc7 => ?_) (fun hc7 => ?_)
  refine CF.skip (PF.next (CF.seq (CF.block (CF.seq (CF.region (LF.step (OpOk.move rfl) ?_))))))
  refine LF.step (OpOk.geq rfl rfl) ?_
  refine LF.step (OpOk.move rfl) ?_
  refine LF.gstep rfl rfl (.t _) (fun hg => OpOk.move rfl) ?_
  refine LF.gstep rfl rfl (.t _) (fun hg => OpOk.move rfl) ?_
  refine LF.gstep rfl rfl (.t _) (fun hg => OpOk.idxL (i := k) Try.underlying22 Try.sz31 p0 (evg rfl hg) (evg rfl hg) rfl (by omega)) ?_
  refine LF.gstep rfl rfl (.t _) (fun hg => OpOk.fieldAddr (Try.fld31_0) (evg rfl hg)) ?_
  refine LF.gstep rfl rfl (.t _) (fun hg => OpOk.ldI hin (rMove.at_To (rL.ix p0 k (by omega))) Try.one3 (evg rfl hg)) ?_
  refine LF.gstep rfl rfl (.t _) (fun hg => OpOk.move rfl) ?_
  refine LF.gstep rfl rfl (.t _) (fun hg => OpOk.eql (evg rfl hg) (evg rfl hg)) ?_
  refine LF.gstep rfl rfl (.t _) (fun hg => OpOk.move (evg rfl hg)) ?_
  refine LF.gstep rfl rfl (.gf _ _) (fun hg => OpOk.move rfl) ?_
  refine LF.gstep rfl rfl (.gf _ _) (fun hg => OpOk.move rfl) ?_
  refine LF.gstep rfl rfl (.gf _ _) (fun hg => OpOk.idxL (i := k) Try.underlying22 Try.sz31 p0 (evg rfl hg) (evg rfl hg) rfl (by omega)) ?_
  refine LF.gstep rfl rfl (.gf _ _) (fun hg => OpOk.fieldAddr (Try.fld31_1) (evg rfl hg)) ?_
  refine LF.gstep rfl rfl (.gf _ _) (fun hg => OpOk.ldI hin (rMove.at_From (rL.ix p0 k (by omega))) Try.one3 (evg rfl hg)) ?_
  refine LF.gstep rfl rfl (.gf _ _) (fun hg => OpOk.move rfl) ?_
  refine LF.gstep rfl rfl (.gf _ _) (fun hg => OpOk.eql (evg rfl hg) (evg rfl hg)) ?_
  refine LF.gstep rfl rfl (.t _) (fun hg => OpOk.pickOr2 hg rfl rfl) ?_
  refine LF.step (OpOk.pickAnd rfl rfl) ?_
  refine LF.nil (PF.next ?_)
  refine CF.if rfl (fun hc8 => ?_) (fun hc8 => ?_)
  refine CF.seq (CF.region (LF.step (OpOk.assign rfl) (LF.nil (PF.next (CF.ret (PF.blockRet (PF.thenRet (PF.thenRet (PF.blockRet (PF.thenRet ?_))))))))))
  exact PF.ret1 rfl rfl ⟨by unfold wrongM; rw [if_neg (by rw [hO]; decide), if_neg (by rw [hN2]; decide), if_neg (by omega), if_pos ⟨hc8.1, any_yes (k := k) (by omega) (by simp; omega)⟩], hkp⟩
  refine CF.skip (PF.blockNormal (PF.next (CF.region (LF.step (OpOk.move rfl) ?_))))
  refine LF.step (OpOk.add rfl rfl (by omega)) ?_
  refine LF.step (OpOk.assign rfl) (LF.nil ?_)
  exact PF.again (k + 1) ⟨by omega, fun h0 => by unfold namedM at hS ⊢; rw [any_snoc (by omega), hS h0]; simp; omega, hin, hkp⟩ ⟨rfl, rfl, rfl, eqI (by omega), trivial⟩ (by omega)
  have hS2 : 0 ≤ scr → namedM l scr = false := by rw [List.take_of_length_le (by omega)] at hS; exact hS
  refine CF.exit (PF.thenExit (PF.thenExit (PF.blockHere (PF.next (CF.seq (CF.seq (CF.region (LF.step (OpOk.move rfl) ?_))))))))
  refine LF.step (OpOk.gtr rfl rfl) ?_
  refine LF.nil (PF.next ?_)
  refine CF.if rfl (fun hc9 => ?_) (fun hc9 => ?_)
  refine CF.seq (CF.region (LF.step (OpOk.assign rfl) (LF.nil (PF.next (CF.ret (PF.thenRet ?_))))))
  exact PF.ret1 rfl rfl ⟨by unfold wrongM; rw [if_neg (by rw [hO]; decide), if_neg (by rw [hN2]; decide), if_neg (by omega), if_neg (by rintro ⟨h1, h2⟩; rw [hS2 h1] at h2; cases h2), if_pos (by omega)], hkp⟩
  refine CF.skip (PF.next (CF.seq (CF.seq (CF.region (LF.step (OpOk.assign rfl) (LF.nil (PF.next (CF.block ?_))))))))
  refine CF.loop (ι := Nat) (fun k H1 => k ≤ l.length ∧ (0 ≤ sp → namedM (l.take k) (16 + sp) = false ∧ namedM (l.take k) (17 + sp) = false) ∧ InH F H1 ∧ Kp H.size H H1) (fun k => [(0, a0), (2, .int .i64 sp), (13, .int .i64 (↑k))]) (fun k => l.length - k) 0 ⟨by omega, fun _ => ⟨rfl, rfl⟩, hin, hkp⟩ ⟨rfl, rfl, eqI (by omega), trivial⟩ ?_
  clear hin hkp
  rintro k H1 ⟨hk, hP, hin, hkp⟩
  refine CF.seq (CF.seq (CF.region (LF.step (OpOk.move rfl) (LF.step (OpOk.move rfl) ?_))))
  refine LF.step (OpOk.lenL Try.underlying22 p0 rfl) ?_
  refine LF.step (OpOk.lss rfl rfl) ?_
  refine LF.nil (PF.next ?_)
  refine CF.if rfl (fun hc10 => ?_) (fun hc10 => ?_)
  refine CF.skip (PF.next (CF.seq (CF.block (CF.seq (CF.region (LF.step (OpOk.move rfl) ?_))))))
  refine LF.step (OpOk.add rfl rfl (by omega)) ?_
  refine LF.step (OpOk.assign rfl) (LF.nil (PF.next (CF.block ?_)))
  refine CF.loop (ι := Int) (fun i H1 => 16 + sp ≤ i ∧ i ≤ 18 + sp ∧ (0 ≤ sp → ∀ p, 16 + sp ≤ p → p < i → (ix l k).To ≠ p ∧ (ix l k).From ≠ p) ∧ InH F H1 ∧ Kp H.size H H1) (fun i => [(0, a0), (2, .int .i64 sp), (13, .int .i64 (↑k)), (14, .int .i64 i)]) (fun i => Int.toNat (18 + sp - i)) (16 + sp) ⟨by omega, by omega, fun _ p h1 h2 => by omega, hin, hkp⟩ ⟨rfl, rfl, rfl, eqI (by omega), trivial⟩ ?_
  clear hin hkp
  rintro i H1 ⟨hi, hi2, hQ, hin, hkp⟩
  refine CF.seq (CF.seq (CF.region (LF.step (OpOk.move rfl) (LF.step (OpOk.move rfl) ?_))))
  refine LF.step (OpOk.add rfl rfl (by omega)) ?_
  refine LF.step (OpOk.leq rfl rfl) ?_
  refine LF.step (OpOk.move rfl) ?_
  refine LF.gstep rfl rfl (.t _) (fun hg => OpOk.move rfl) ?_
  refine LF.gstep rfl rfl (.t _) (fun hg => OpOk.geq (evg rfl hg) rfl) ?_
  refine LF.step (OpOk.pickAnd rfl rfl) ?_
  refine LF.nil (PF.next ?_)
  refine CF.if rfl (fun hc11 => ?_) (fun hc11 => ?_)
  refine CF.skip (PF.next (CF.seq (CF.block (CF.seq (CF.region (LF.step (OpOk.move rfl) (LF.step (OpOk.move rfl) ?_)))))))
  refine LF.step (OpOk.idxL (i := k) Try.underlying22 Try.sz31 p0 rfl rfl rfl (by omega)) ?_
  refine LF.step (OpOk.fieldAddr (Try.fld31_0) rfl) ?_
  refine LF.step (OpOk.ldI hin (rMove.at_To (rL.ix p0 k (by omega))) Try.one3 rfl) ?_
  refine LF.step (OpOk.move rfl) ?_
  refine LF.step (OpOk.eql rfl rfl) ?_
  refine LF.step (OpOk.move rfl) ?_
  refine LF.gstep rfl rfl (.f _) (fun hg => OpOk.move rfl) ?_
  refine LF.gstep rfl rfl (.f _) (fun hg => OpOk.move rfl) ?_
  refine LF.gstep rfl rfl (.f _) (fun hg => OpOk.idxL (i := k) Try.underlying22 Try.sz31 p0 (evg rfl hg) (evg rfl hg) rfl (by omega)) ?_
  refine LF.gstep rfl rfl (.f _) (fun hg => OpOk.fieldAddr (Try.fld31_1) (evg rfl hg)) ?_
  refine LF.gstep rfl rfl (.f _) (fun hg => OpOk.ldI hin (rMove.at_From (rL.ix p0 k (by omega))) Try.one3 (evg rfl hg)) ?_
  refine LF.gstep rfl rfl (.f _) (fun hg => OpOk.move rfl) ?_
  refine LF.gstep rfl rfl (.f _) (fun hg => OpOk.eql (evg rfl hg) (evg rfl hg)) ?_
  refine LF.step (OpOk.pickOr rfl rfl) ?_
  refine LF.nil (PF.next ?_)
  refine CF.if rfl (fun hc12 => ?_) (fun hc12 => ?_)
  refine CF.seq (CF.region (LF.step (OpOk.assign rfl) (LF.nil (PF.next (CF.ret (PF.blockRet (PF.thenRet (PF.thenRet (PF.blockRet (PF.blockRet (PF.thenRet ?_)))))))))))
  refine PF.thenRet (PF.blockRet (PF.thenRet ?_))
  exact PF.ret1 rfl rfl ⟨by unfold wrongM; rw [if_neg (by rw [hO]; decide), if_neg (by rw [hN2]; decide), if_neg (by omega), if_neg (by rintro ⟨h1, h2⟩; rw [hS2 h1] at h2; cases h2), if_neg (by omega), if_pos ⟨hc11.2, by rcases (show i = 16 + sp ∨ i = 17 + sp by omega) with e | e; (· left; exact any_yes (k := k) (by omega) (by simp; omega)); (· right; exact any_yes (k := k) (by omega) (by simp; omega))⟩], hkp⟩
  refine CF.skip (PF.blockNormal (PF.next (CF.region (LF.step (OpOk.move rfl) ?_))))
  refine LF.step (OpOk.add rfl rfl (by omega)) ?_
  refine LF.step (OpOk.assign rfl) (LF.nil ?_)
  exact PF.again (i + 1) ⟨by omega, by omega, fun h0 p h1 h2 => by (by_cases e : p = i; (· subst e; omega)); exact hQ h0 p h1 (by omega), hin, hkp⟩ ⟨rfl, rfl, rfl, eqI (by omega), trivial⟩ (by omega)
  refine CF.exit (PF.thenExit (PF.thenExit (PF.blockHere (PF.blockNormal (PF.next (CF.region (LF.step (OpOk.move rfl) ?_)))))))
  refine LF.step (OpOk.add rfl rfl (by omega)) ?_
  refine LF.step (OpOk.assign rfl) (LF.nil ?_)
  exact PF.again (k + 1) ⟨by omega, fun h0 => by obtain ⟨h1, h2⟩ := hP h0; have h3 := hQ h0 (16 + sp) (by omega) (by omega); have h4 := hQ h0 (17 + sp) (by omega) (by omega); unfold namedM at h1 h2 ⊢; rw [any_snoc (by omega), any_snoc (by omega), h1, h2]; simp; omega, hin, hkp⟩ ⟨rfl, rfl, eqI (by omega), trivial⟩ (by omega)
  refine CF.exit (PF.thenExit (PF.thenExit (PF.blockHere (PF.next (CF.seq (CF.region (LF.step (OpOk.assign rfl) (LF.nil (PF.next (CF.ret ?_))))))))))
  exact PF.ret1 rfl rfl ⟨by unfold wrongM; rw [if_neg (by rw [hO]; decide), if_neg (by rw [hN2]; decide), if_neg (by omega), if_neg (by rintro ⟨h1, h2⟩; rw [hS2 h1] at h2; cases h2), if_neg (by omega), if_neg (by rintro ⟨h1, h2⟩; rw [List.take_of_length_le (by omega)] at hP; have := hP h1; rw [this.1, this.2] at h2; simp at h2)], hkp⟩

end Go.Proofs.Ytcceglmmpbdhiaa
