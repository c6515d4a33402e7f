/- Walks. Conditions: each contract names its own. -/
import Derived.Test.YtcceglmmpbdhiaaW8
namespace Go.Proofs.Ytcceglmmpbdhiaa
set_option linter.unusedVariables false
set_option linter.unusedSimpArgs false
set_option linter.unusedSectionVars false
set_option maxRecDepth 8000
open Go.JE

theorem Try.ent51 : Ent Try.prog 51 := ⟨_, Try.func51, by kernel_rfl, by kernel_rfl⟩
/- ---------------------------------------------- circles laid -/
def bringsR (scr sp : Int) : List (Int × Int) → List D.Mach → Int → List D.Mach × Int
  | [], l, e => (l, e)
  | q :: r, l, e => bringsR scr sp r (bringL scr sp q.1 q.2 l e) (bringE scr sp q.1 q.2 e)
def stepsM (c : List Int) : List (Int × Int) := c.zip c.tail
def swapI (q : Int × Int) : D.Mach := ⟨2, 0, 0, q.1, q.2, 0, 0, []⟩
def lowM (c : List Int) : Bool := c.all (fun p => decide (p < 16))
def roundR (scr sp : Int) (c : List Int) (l : List D.Mach) (e : Int) : List D.Mach × Int :=
  if lowM c = true ∧ scr < 0 then (l ++ (stepsM c).map swapI, e)
  else if lowM c = false ∧ sp < 0 then (l, 43)
  else bringsR scr sp (((if lowM c = true then scr else 16 + sp), ix c 0) :: stepsM c ++ [(ix c (c.length - 1), (if lowM c = true then scr else 16 + sp))]) l e
theorem stepsM_len (c : List Int) : (stepsM c).length = c.length - 1 := by simp [stepsM]
theorem stepsM_ix {c : List Int} {k : Nat} (h : k + 1 < c.length) : ix (stepsM c) k = (ix c k, ix c (k + 1)) := by
  rw [ix_eq (by rw [stepsM_len]; omega), ix_eq (show k < c.length by omega), ix_eq h]
  simp [stepsM]
theorem bringsR_app (scr sp : Int) : ∀ (a b : List (Int × Int)) (l : List D.Mach) (e : Int), bringsR scr sp (a ++ b) l e = bringsR scr sp b (bringsR scr sp a l e).1 (bringsR scr sp a l e).2
  | [], _, _, _ => rfl
  | q :: a, b, l, e => by rw [List.cons_append, bringsR, bringsR_app]; rfl
theorem bringsR_len (scr sp : Int) : ∀ (a : List (Int × Int)) (l : List D.Mach) (e : Int), (bringsR scr sp a l e).1.length ≤ l.length + 4 * a.length
  | [], _, _ => by simp [bringsR]
  | q :: a, l, e => by
    have h1 := bringsR_len scr sp a (bringL scr sp q.1 q.2 l e) (bringE scr sp q.1 q.2 e)
    have h2 := bringL_len scr sp q.1 q.2 l e
    rw [bringsR, List.length_cons]; omega
theorem roundR_len {scr sp : Int} {c : List Int} (hc : c ≠ []) (l : List D.Mach) (e : Int) : (roundR scr sp c l e).1.length ≤ l.length + 4 * (c.length + 1) := by
  have hp : 0 < c.length := List.length_pos_iff.2 hc
  unfold roundR
  split
  · show (l ++ _).length ≤ _; rw [List.length_append, List.length_map, stepsM_len]; omega
  · split
    · show l.length ≤ _; omega
    · have := bringsR_len scr sp (((if lowM c = true then scr else 16 + sp), ix c 0) :: stepsM c ++ [(ix c (c.length - 1), (if lowM c = true then scr else 16 + sp))]) l e
      simp only [List.length_cons, List.length_append, List.length_nil, stepsM_len] at this
      omega
def goodC (c : List Int) : Prop := c ≠ [] ∧ c.length ≤ 1000 ∧ ∀ p ∈ c, 0 ≤ p ∧ p < 16400
theorem goodC.ix {c : List Int} (h : goodC c) {k : Nat} (hk : k < c.length) : 0 ≤ ix c k ∧ ix c k < 16400 := h.2.2 _ (ix_mem hk)
theorem roundR_sw {scr sp : Int} {c : List Int} (l : List D.Mach) (e : Int) (h : lowM c = true ∧ scr < 0) : roundR scr sp c l e = (l ++ (stepsM c).map swapI, e) := by unfold roundR; rw [if_pos h]
theorem roundR_no {scr sp : Int} {c : List Int} (l : List D.Mach) (e : Int) (h : lowM c = false ∧ sp < 0) : roundR scr sp c l e = (l, 43) := by
  unfold roundR; rw [if_neg (by rw [h.1]; simp), if_pos h]
theorem roundR_go {scr sp t : Int} {c : List Int} (l : List D.Mach) (e : Int) (h : (lowM c = true ∧ ¬ scr < 0 ∧ t = scr) ∨ (lowM c = false ∧ ¬ sp < 0 ∧ t = 16 + sp)) {o : List D.Mach} {e1 : Int} {k : Nat} (hk : (stepsM c).length ≤ k)
    (hR : bringsR scr sp (stepsM c) (bringL scr sp t (ix c 0) l e) (bringE scr sp t (ix c 0) e) = bringsR scr sp ((stepsM c).drop k) o e1) :
    roundR scr sp c l e = (bringL scr sp (ix c (c.length - 1)) t o e1, bringE scr sp (ix c (c.length - 1)) t e1) := by
  rw [List.drop_of_length_le hk] at hR
  have ht : (if lowM c = true then scr else 16 + sp) = t := by
    rcases h with ⟨h1, _, rfl⟩ | ⟨h1, _, rfl⟩
    · rw [if_pos h1]
    · rw [if_neg (by rw [h1]; decide)]
  unfold roundR
  rw [if_neg (by rcases h with ⟨_, h2, _⟩ | ⟨h1, _⟩; (· exact fun h9 => h2 h9.2); rw [h1]; simp), if_neg (by rcases h with ⟨h1, _⟩ | ⟨_, h2, _⟩; (· rw [h1]; simp); exact fun h9 => h2 h9.2), ht, List.cons_append, bringsR, bringsR_app, hR]
  rfl

theorem any_low {c : List Int} {k : Nat} (h : k < c.length) : (c.take (k + 1)).all (fun p => decide (p < 16)) = ((c.take k).all (fun p => decide (p < 16)) && decide (ix c k < 16)) := all_snoc h

-- (*jacquard/jacquardref11.layer).round: function 55
set_option maxHeartbeats 1000000 in
theorem rRound_ct {F : PH} {H : Heap} (hin : InH F H) {a9 : Value} {l : List D.Mach} {Bp9 : Nat} (p9 : Gl rMach 39 F H Bp9 a9 l) (scr : Int) (sp : Int) (e : Int) (hl9 : l.length < 100000) (hs : -9223372036854775808 ≤ scr ∧ scr < 16) (hsp : -9223372036854775808 ≤ sp ∧ sp < 16383) {g0 : Nat} (hb0 : Bx H g0 84 [a9, .int .i64 scr, .int .i64 sp, .int .i64 e]) (ng0 : F g0 = none) {a1 : Value} {c : List Int} (p1 : (rL (rI .i64)).rv F a1 c) (hc : goodC c) :
    Ct Try.prog 55 #[.pointer (some ⟨g0, 0, none⟩), a1] H (fun v H' => ∃ (F' : PH) (u0 : Value), v = .tuple #[] ∧ PH.ext H F F' ∧ InH F' H' ∧ Kw (fun j9 => j9 = g0 ∨ a9.ownBlock = some j9) H H' ∧ Bx H' g0 84 [u0, .int .i64 scr, .int .i64 sp, .int .i64 ((roundR scr sp c l e).2)] ∧ Gl rMach 39 F' H' 0 u0 ((roundR scr sp c l e).1) ∧ Lnk H.size a9 u0) := by
  replace p9 := p9.base (Nat.zero_le _)
  have lg0 := hb0.lt
  have q1 := rL.len2 p1
  have hkp := Kw.refl (fun j9 => j9 = g0 ∨ a9.ownBlock = some j9) H
  have hx := PH.ext.refl (H := H) F
  have hcp := List.length_pos_iff.2 hc.1
  have hcl := hc.2.1
  have hc0 := hc.ix (k := 0) (by omega)
  have hcz := hc.ix (k := c.length - 1) (by omega)
  refine Ct.enter (args := [.pointer (some ⟨g0, 0, none⟩), a1]) Try.func55 rfl rfl rfl (fun w0 hw0 => ?_)
  refine CF.seq (CF.region (LF.step (OpOk.assign rfl) (LF.nil (PF.next (CF.seq (CF.seq (CF.region (LF.step (OpOk.assign rfl) (LF.nil (PF.next (CF.block ?_)))))))))))
  have wfL1_p9 : ∀ k9, (a9 : Value).ownBlock = some k9 → H.size ≤ k9 ∨ (fun j9 => j9 = g0 ∨ a9.ownBlock = some j9) k9 := fun k9 h9 => (.inr (.inr h9))
  refine CF.loop (ι := Nat) (fun k H1 => k ≤ c.length ∧ InH F H1 ∧ Kw (fun j9 => j9 = g0 ∨ a9.ownBlock = some j9) H H1 ∧ Bx H1 g0 84 [a9, .int .i64 scr, .int .i64 sp, .int .i64 e] ∧ Gl rMach 39 F H1 0 a9 l ∧ (∀ k9, (a9 : Value).ownBlock = some k9 → H.size ≤ k9 ∨ (fun j9 => j9 = g0 ∨ a9.ownBlock = some j9) k9)) (fun k => [(0, .pointer (some ⟨g0, 0, none⟩)), (1, a1), (4, .bool (lowM (c.take k))), (5, .int .i64 (↑k))]) (fun k => c.length - k) 0 ⟨by omega, hin, hkp, hb0, p9, wfL1_p9⟩ ⟨rfl, rfl, rfl, eqI (by omega), trivial⟩ ?_
  clear hin hkp hb0 p9 wfL1_p9
  rintro k H1 ⟨hk, hin, hkp, hb0, p9, wfL1_p9⟩
  refine CF.seq (CF.seq (CF.region (LF.step (OpOk.move rfl) (LF.step (OpOk.move rfl) ?_))))
  refine LF.step (OpOk.lenL Try.underlying23 p1 rfl) ?_
  refine LF.step (OpOk.lss rfl rfl) ?_
  refine LF.nil (PF.next ?_)
  refine CF.if rfl (fun hc1 => ?_) (fun hc1 => ?_)
  refine CF.skip (PF.next (CF.seq (CF.block (CF.region (LF.step (OpOk.move rfl) (LF.step (OpOk.move rfl) ?_))))))
  refine LF.gstep rfl rfl (.t _) (fun hg => OpOk.move rfl) ?_
  refine LF.gstep rfl rfl (.t _) (fun hg => OpOk.move rfl) ?_
  refine LF.gstep rfl rfl (.t _) (fun hg => OpOk.idxL (i := k) Try.underlying23 Try.sz3 p1 (evg rfl hg) (evg rfl hg) rfl (by omega)) ?_
  refine LF.gstep rfl rfl (.t _) (fun hg => OpOk.ldI hin (rL.ix p1 k (by omega)) Try.one3 (evg rfl hg)) ?_
  refine LF.gstep rfl rfl (.t _) (fun hg => OpOk.lss (evg rfl hg) rfl) ?_
  refine LF.step (OpOk.pickAnd rfl rfl) ?_
  refine LF.step (OpOk.assign rfl) (LF.nil (PF.blockNormal (PF.next (CF.region (LF.step (OpOk.move rfl) ?_)))))
  refine LF.step (OpOk.add rfl rfl (by omega)) ?_
  refine LF.step (OpOk.assign rfl) (LF.nil ?_)
  exact PF.again (k + 1) ⟨by omega, hin, hkp, hb0, p9, wfL1_p9⟩ ⟨rfl, rfl, (by unfold lowM; rw [any_low (by omega)]; rfl), eqI (by omega), trivial⟩ (by omega)
  have hlow : lowM (c.take k) = lowM c := by rw [List.take_of_length_le (by omega)]
  rw [hlow]
  refine CF.exit (PF.thenExit (PF.thenExit (PF.blockHere (PF.next (CF.seq (CF.seq (CF.region (LF.step (OpOk.move rfl) (LF.step (OpOk.move rfl) ?_)))))))))
  refine LF.gstep rfl rfl (.t _) (fun hg => OpOk.move rfl) ?_
  refine LF.gstep rfl rfl (.t _) (fun hg => OpOk.nilCheck (evg rfl hg)) ?_
  refine LF.gstep rfl rfl (.t _) (fun hg => OpOk.fieldAddr (Try.fld84_1) (evg rfl hg)) ?_
  refine LF.gstep rfl rfl (.t _) (fun hg => OpOk.ldBx hb0 Try.one3 (evg rfl hg) rfl) ?_
  refine LF.gstep rfl rfl (.t _) (fun hg => OpOk.lss (evg rfl hg) rfl) ?_
  refine LF.step (OpOk.pickAnd rfl rfl) ?_
  refine LF.nil (PF.next ?_)
  refine CF.if rfl (fun hc2 => ?_) (fun hc2 => ?_)
  refine CF.seq (CF.seq (CF.region (LF.step (OpOk.assign rfl) (LF.nil (PF.next (CF.block ?_))))))
  have wfL2_p9 : ∀ k9, (a9 : Value).ownBlock = some k9 → H.size ≤ k9 ∨ (fun j9 => j9 = g0 ∨ a9.ownBlock = some j9) k9 := fun k9 h9 => (wfL1_p9 _ h9)
  refine CF.loop (ι := Nat × Value × List D.Mach × PH) (fun z9 H1 => z9.1 ≤ (stepsM c).length ∧ z9.2.2.1 = l ++ ((stepsM c).take z9.1).map swapI ∧ PH.ext H F z9.2.2.2 ∧ PH.le F z9.2.2.2 ∧ InH z9.2.2.2 H1 ∧ Kw (fun j9 => j9 = g0 ∨ a9.ownBlock = some j9) H H1 ∧ Bx H1 g0 84 [z9.2.1, .int .i64 scr, .int .i64 sp, .int .i64 e] ∧ z9.2.2.2 g0 = none ∧ Gl rMach 39 z9.2.2.2 H1 0 z9.2.1 z9.2.2.1 ∧ (∀ k9, (z9.2.1 : Value).ownBlock = some k9 → H.size ≤ k9 ∨ (fun j9 => j9 = g0 ∨ a9.ownBlock = some j9) k9)) (fun z9 => [(0, .pointer (some ⟨g0, 0, none⟩)), (1, a1), (4, .bool (lowM c)), (6, .int .i64 (↑z9.1))]) (fun z9 => (stepsM c).length - z9.1) (0, a9, l, F) ⟨by dsimp only; omega, by dsimp only; simp, hx, PH.le.refl _, hin, hkp, hb0, ng0, p9, wfL2_p9⟩ ⟨rfl, rfl, rfl, eqI (by omega), trivial⟩ ?_
  clear hx hin hkp hb0 ng0 p9 wfL2_p9
  rintro ⟨k, vo, o, Fl⟩ H1 ⟨hk, hR, hx, le0, hin, hkp, hb0, ng0, p9, wfL2_p9⟩
  dsimp only at hk hR hin hkp hb0 ng0 p9 wfL2_p9 ⊢
  have hol : o.length ≤ l.length + k := by rw [hR]; simp; omega
  have hsl := stepsM_len c
  refine CF.seq (CF.seq (CF.region (LF.step (OpOk.move rfl) ?_)))
  refine LF.step (OpOk.add rfl rfl (by omega)) ?_
  refine LF.step (OpOk.move rfl) ?_
  refine LF.step (OpOk.lenL Try.underlying23 (p1.up le0) rfl) ?_
  refine LF.step (OpOk.lss rfl rfl) ?_
  refine LF.nil (PF.next ?_)
  refine CF.if rfl (fun hc3 => ?_) (fun hc3 => ?_)
  have hk1 := hc.ix (k := k) (by omega)
  have hk2 := hc.ix (k := k + 1) (by omega)
  refine CF.skip (PF.next (CF.seq (CF.block ?_)))
  have leS0 := le0
  refine CF.any (z := true) (fun H' => InH Fl H' ∧ Bx H' g0 84 [vo, .int .i64 scr, .int .i64 sp, .int .i64 e] ∧ True) Try.mixed ?_
  refine AF.take 0 rfl (by kernel_rfl) (by kernel_rfl) (by kernel_rfl) ⟨hin, hb0, trivial⟩ (fun _ ⟨hin, hb0, _⟩ => OpOk.move rfl) ?_
  refine AF.take 1 rfl (by kernel_rfl) (by kernel_rfl) (by kernel_rfl) ⟨hin, hb0, trivial⟩ (fun _ ⟨hin, hb0, _⟩ => OpOk.move rfl) ?_
  refine AF.take 2 rfl (by kernel_rfl) (by kernel_rfl) (by kernel_rfl) ⟨hin, hb0, trivial⟩ (fun _ ⟨hin, hb0, _⟩ => OpOk.nilCheck rfl) ?_
  refine AF.take 3 rfl (by kernel_rfl) (by kernel_rfl) (by kernel_rfl) ⟨hin, hb0, trivial⟩ (fun _ ⟨hin, hb0, _⟩ => OpOk.fieldAddr (Try.fld84_0) rfl) ?_
  refine AF.take 4 rfl (by kernel_rfl) (by kernel_rfl) (by kernel_rfl) ⟨hin, hb0, trivial⟩ (fun _ ⟨hin, hb0, _⟩ => OpOk.ldBx hb0 Try.one34 rfl rfl) ?_
  refine AF.take 5 rfl (by kernel_rfl) (by kernel_rfl) (by kernel_rfl) ⟨hin, hb0, trivial⟩ (fun _ ⟨hin, hb0, _⟩ => OpOk.move rfl) ?_
  refine AF.take 6 rfl (by kernel_rfl) (by kernel_rfl) (by kernel_rfl) ⟨hin, hb0, trivial⟩ (fun _ ⟨hin, hb0, _⟩ => OpOk.move rfl) ?_
  refine AF.take 7 rfl (by kernel_rfl) (by kernel_rfl) (by kernel_rfl) ⟨hin, hb0, trivial⟩ (fun _ ⟨hin, hb0, _⟩ => OpOk.idxL (i := k) Try.underlying23 Try.sz3 (p1.up leS0) rfl rfl rfl (by omega)) ?_
  refine AF.take 8 rfl (by kernel_rfl) (by kernel_rfl) (by kernel_rfl) ⟨hin, hb0, trivial⟩ (fun _ ⟨hin, hb0, _⟩ => OpOk.ldI hin (rL.ix (p1.up leS0) k (by omega)) Try.one3 rfl) ?_
  refine AF.take 9 rfl (by kernel_rfl) (by kernel_rfl) (by kernel_rfl) ⟨hin, hb0, trivial⟩ (fun _ ⟨hin, hb0, _⟩ => OpOk.move rfl) ?_
  refine AF.take 10 rfl (by kernel_rfl) (by kernel_rfl) (by kernel_rfl) ⟨hin, hb0, trivial⟩ (fun _ ⟨hin, hb0, _⟩ => OpOk.move rfl) ?_
  refine AF.take 11 rfl (by kernel_rfl) (by kernel_rfl) (by kernel_rfl) ⟨hin, hb0, trivial⟩ (fun _ ⟨hin, hb0, _⟩ => OpOk.add rfl rfl (by omega)) ?_
  refine AF.take 12 rfl (by kernel_rfl) (by kernel_rfl) (by kernel_rfl) ⟨hin, hb0, trivial⟩ (fun _ ⟨hin, hb0, _⟩ => OpOk.idxL (i := (k + 1)) Try.underlying23 Try.sz3 (p1.up leS0) rfl rfl (by omega) (by omega)) ?_
  refine AF.take 13 rfl (by kernel_rfl) (by kernel_rfl) (by kernel_rfl) ⟨hin, hb0, trivial⟩ (fun _ ⟨hin, hb0, _⟩ => OpOk.ldI hin (rL.ix (p1.up leS0) (k + 1) (by omega)) Try.one3 rfl) ?_
  refine AF.take 14 rfl (by kernel_rfl) (by kernel_rfl) (by kernel_rfl) ⟨hin, hb0, trivial⟩ (fun _ ⟨hin, hb0, _⟩ => OpOk.build (v := .agg #[.int .i64 2, .int .i64 0, .int .i64 0, .int .i64 (ix c k), .int .i64 (ix c (k + 1)), .int .i64 0, .int .i32 0, .slice none 0 0]) rfl (fun w => by kernel_rfl)) ?_
  refine AF.one 15 (by kernel_rfl) ?_
  refine AFN.chg rfl (OpCh.litL (F := Fl) (r := rMach) (l := [⟨2, 0, 0, ix c k, ix c (k + 1), 0, 0, []⟩]) (us := [.agg #[.int .i64 2, .int .i64 0, .int .i64 0, .int .i64 (ix c k), .int .i64 (ix c (k + 1)), .int .i64 0, .int .i32 0, .slice none 0 0]]) (cs := [[.int .i64 2, .int .i64 0, .int .i64 0, .int .i64 (ix c k), .int .i64 (ix c (k + 1)), .int .i64 0, .int .i32 0, .slice none 0 0]]) Try.underlying34 Try.info39 (by decide) rfl rfl rfl ⟨rfl, rfl, (ra_ok (rMach.mk (m := ⟨2, 0, 0, ix c k, ix c (k + 1), 0, 0, []⟩) (rL.nil _) (by decide : IntKind.i64.wrap 2 = 2) (by decide : IntKind.i64.wrap 0 = 0) (by decide : IntKind.i64.wrap 0 = 0) (At.wr (rL.ix (p1.up leS0) k (by omega))) (At.wr (rL.ix (p1.up leS0) (k + 1) (by omega))) (by decide : IntKind.i64.wrap 0 = 0) (by decide : IntKind.i32.wrap 0 = 0))), trivial⟩) ?_
  rintro _ H53 ⟨g53, rfl, e53, s53, k53, x53⟩
  have l53 := hkp.1
  have app9_53 := ap_new p9.lt (x53 hin).ge
  replace x53 := (x53 hin).base l53
  have zk53 := k53.1
  replace hin := hin.kp k53
  replace hkp := hkp.trans (k53.mono hkp.1)
  replace hb0 := hb0.kp k53
  replace p9 := p9.kp k53
  have ap53_p9 := ap_sym app9_53
  refine ⟨⟨hin, hb0, trivial⟩, ?_⟩
  refine AF.one 16 (by kernel_rfl) ?_
  obtain ⟨Fz1, hxz1, lez1, hinz1, noz1, hrz1⟩ := x53.freezeX hin hx (Nat.le_refl _) (by first | (simp only [List.length_append, List.length_take, List.length_drop, List.length_nil, List.length_cons, List.length_set, List.length_replicate]; omega) | (simp; done) | (simp; omega) | omega)
  replace hin := hinz1
  replace hx := hxz1
  replace le0 := le0.trans lez1
  have le1 := lez1
  replace ng0 := (noz1 _ (x53.neBx hb0 (by decide))).trans ng0
  replace p9 := p9.frozen lez1 noz1 app9_53
  refine AFN.chg rfl (OpCh.appL (r := rMach) Try.underlying34 Try.info39 (by decide) rfl rfl rfl p9 hrz1 hin (by first | (simp only [List.length_append, List.length_take, List.length_drop, List.length_nil, List.length_cons, List.length_set, List.length_replicate]; omega) | (simp; done) | (simp; omega) | omega) (by first | omega | exact hkp.1)) ?_
  rintro v54 H54 ⟨x54, gb54, ob54⟩
  replace hin := hin.grown gb54 p9.no
  have wf54 := wf_grow (W := (fun j9 => j9 = g0 ∨ a9.ownBlock = some j9)) (fun k0 hk0 => (wfL2_p9 _ hk0)) hkp.1 (ob_some ob54)
  replace hkp := gb54.kw2 hkp (fun k0 hk0 => (wfL2_p9 _ hk0))
  replace hb0 := hb0.of (gb54.2 _ hb0.lt (Ne.symm (by first | exact p9.neBx hb0 (by decide) | exact nqp9_0)))
  refine ⟨⟨(hin.down le1), hb0, trivial⟩, ?_⟩
  refine AF.take 17 rfl (by kernel_rfl) (by kernel_rfl) (by kernel_rfl) ⟨(hin.down le1), hb0, trivial⟩ (fun _ ⟨hin, hb0, _⟩ => OpOk.nilCheck rfl) ?_
  refine AF.take 18 rfl (by kernel_rfl) (by kernel_rfl) (by kernel_rfl) ⟨(hin.down le1), hb0, trivial⟩ (fun _ ⟨hin, hb0, _⟩ => OpOk.fieldAddr (Try.fld84_0) rfl) ?_
  refine AF.one 19 (by kernel_rfl) ?_
  refine AFN.chg0L rfl (noleft (by kernel_rfl)) rfl (OpCh.storeB hb0 Try.sz34 rfl rfl x54.one1 (by first | decide | (simp; done))) ?_
  rintro _ Hw2 ⟨tw2, bw2⟩
  have ztw2 := tw2.1
  replace hin := hin.tw tw2 ng0
  replace hkp := hkp.tw tw2 (.inr (.inl rfl))
  replace x54 := x54.tw tw2 (x54.neBx hb0 (by decide))
  replace hb0 : Bx _ _ _ [v54, .int .i64 scr, .int .i64 sp, .int .i64 e] := bw2
  clear bw2 tw2
  refine AF.done (by kernel_rfl) ?_
  refine PF.blockNormal (PF.next (CF.region (LF.step (OpOk.move rfl) ?_)))
  refine LF.step (OpOk.add rfl rfl (by omega)) ?_
  refine LF.step (OpOk.assign rfl) (LF.nil ?_)
  exact PF.again (k + 1, v54, o ++ ([⟨2, 0, 0, ix c k, ix c (k + 1), 0, 0, []⟩]), Fz1) ⟨by dsimp only; omega, by dsimp only; rw [hR, take_ix (by omega), List.map_append, stepsM_ix (by omega)]; simp [swapI], hx, le0, hin, hkp, hb0, ng0, x54, wf54⟩ ⟨rfl, rfl, rfl, eqI (by omega), trivial⟩ (by omega)
  refine CF.exit (PF.thenExit (PF.thenExit (PF.blockHere (PF.next (CF.ret (PF.thenRet ?_))))))
  have hm0 : ((roundR scr sp c l e).1) = o := by
    first | (rw [roundR_sw l e hc2] <;> (try rw [hR, List.take_of_length_le (by omega)]); done) | (rw [roundR_no l e ⟨hc4, hc5⟩]; done) | (rw [roundR_go (t := 16 + sp) l e (.inr ⟨hc4, hc5, rfl⟩) (k := k) (by omega) hR]; done) | (rw [roundR_go (t := scr) l e (.inl ⟨hc4, fun h9 => hc2.elim (fun h8 => by rw [hc4] at h8; cases h8) (fun h8 => h8 h9), rfl⟩) (k := k) (by omega) hR]; done)
  have hm3 : ((roundR scr sp c l e).2) = e := by
    first | (rw [roundR_sw l e hc2] <;> (try rw [hR, List.take_of_length_le (by omega)]); done) | (rw [roundR_no l e ⟨hc4, hc5⟩]; done) | (rw [roundR_go (t := 16 + sp) l e (.inr ⟨hc4, hc5, rfl⟩) (k := k) (by omega) hR]; done) | (rw [roundR_go (t := scr) l e (.inl ⟨hc4, fun h9 => hc2.elim (fun h8 => by rw [hc4] at h8; cases h8) (fun h8 => h8 h9), rfl⟩) (k := k) (by omega) hR]; done)
  exact PF.ret0 rfl ⟨_, vo, rfl, hx, hin, hkp, by rw [hm3]; exact hb0, by rw [hm0]; exact (p9.base (Nat.zero_le _)), lnk_of (fun k9 h9 => (wfL2_p9 _ h9)) (p9.neBx hb0 (by decide))⟩
  refine CF.skip (PF.next (CF.seq (CF.region (LF.step (OpOk.move rfl) ?_))))
  refine LF.step (OpOk.nilCheck rfl) ?_
  refine LF.step (OpOk.fieldAddr (Try.fld84_1) rfl) ?_
  refine LF.step (OpOk.ldBx hb0 Try.one3 rfl rfl) ?_
  refine LF.step (OpOk.assign rfl) (LF.nil (PF.next (CF.seq (CF.seq (CF.region (LF.step (OpOk.move rfl) ?_))))))
  refine LF.step (OpOk.not rfl) ?_
  refine LF.nil (PF.next ?_)
  refine CF.if rfl (fun hc4 => ?_) (fun hc4 => ?_)
  refine CF.seq (CF.seq (CF.region (LF.step (OpOk.move rfl) ?_)))
  refine LF.step (OpOk.nilCheck rfl) ?_
  refine LF.step (OpOk.fieldAddr (Try.fld84_2) rfl) ?_
  refine LF.step (OpOk.ldBx hb0 Try.one3 rfl rfl) ?_
  refine LF.step (OpOk.lss rfl rfl) ?_
  refine LF.nil (PF.next ?_)
  refine CF.if rfl (fun hc5 => ?_) (fun hc5 => ?_)
  refine CF.seq (CF.region (LF.step (OpOk.move rfl) ?_))
  refine LF.step (OpOk.nilCheck rfl) ?_
  refine LF.step (OpOk.fieldAddr (Try.fld84_3) rfl) ?_
  refine LF.chg0 (OpCh.storeB hb0 Try.sz35 rfl rfl rfl (by first | decide | (simp; done))) ?_
  rintro _ Hw3 ⟨tw3, bw3⟩
  have ztw3 := tw3.1
  replace hin := hin.tw tw3 ng0
  replace hkp := hkp.tw tw3 (.inr (.inl rfl))
  replace p9 := p9.tw tw3 (p9.neBx hb0 (by decide))
  replace hb0 : Bx _ _ _ [a9, .int .i64 scr, .int .i64 sp, .int .i64 43] := bw3
  clear bw3 tw3
  refine LF.nil (PF.next (CF.ret (PF.thenRet (PF.thenRet ?_))))
  have hm0 : ((roundR scr sp c l e).1) = l := by
    first | (rw [roundR_sw l e hc2] <;> (try rw [hR, List.take_of_length_le (by omega)]); done) | (rw [roundR_no l e ⟨hc4, hc5⟩]; done) | (rw [roundR_go (t := 16 + sp) l e (.inr ⟨hc4, hc5, rfl⟩) (k := k) (by omega) hR]; done) | (rw [roundR_go (t := scr) l e (.inl ⟨hc4, fun h9 => hc2.elim (fun h8 => by rw [hc4] at h8; cases h8) (fun h8 => h8 h9), rfl⟩) (k := k) (by omega) hR]; done)
  have hm3 : ((roundR scr sp c l e).2) = 43 := by
    first | (rw [roundR_sw l e hc2] <;> (try rw [hR, List.take_of_length_le (by omega)]); done) | (rw [roundR_no l e ⟨hc4, hc5⟩]; done) | (rw [roundR_go (t := 16 + sp) l e (.inr ⟨hc4, hc5, rfl⟩) (k := k) (by omega) hR]; done) | (rw [roundR_go (t := scr) l e (.inl ⟨hc4, fun h9 => hc2.elim (fun h8 => by rw [hc4] at h8; cases h8) (fun h8 => h8 h9), rfl⟩) (k := k) (by omega) hR]; done)
  exact PF.ret0 rfl ⟨_, a9, rfl, hx, hin, hkp, by rw [hm3]; exact hb0, by rw [hm0]; exact (p9.base (Nat.zero_le _)), lnk_of (fun k9 h9 => (wfL1_p9 _ h9)) (p9.neBx hb0 (by decide))⟩
  refine CF.skip (PF.next (CF.region (LF.step (OpOk.move rfl) ?_)))
  refine LF.step (OpOk.nilCheck rfl) ?_
  refine LF.step (OpOk.fieldAddr (Try.fld84_2) rfl) ?_
  refine LF.step (OpOk.ldBx hb0 Try.one3 rfl rfl) ?_
  refine LF.step (OpOk.add rfl rfl (by omega)) ?_
  refine LF.step (OpOk.assign rfl) (LF.nil (PF.next (CF.seq (CF.region (LF.step (OpOk.move rfl) (LF.step (OpOk.move rfl) (LF.step (OpOk.move rfl) ?_)))))))
  refine LF.step (OpOk.idxL (i := 0) Try.underlying23 Try.sz3 p1 rfl rfl (by omega) (by omega)) ?_
  refine LF.step (OpOk.ldI hin (rL.ix p1 0 (by omega)) Try.one3 rfl) ?_
  refine LF.call (OpCall.fn Try.ent51 rfl rfl) (rBring_ct hin p9 scr sp e (by first | omega | (refine Nat.lt_of_le_of_lt (bringL_len _ _ _ _ _ _) ?_; omega)) (by first | omega | (refine Nat.lt_of_le_of_lt (bringL_len _ _ _ _ _ _) ?_; omega)) (by first | omega | (refine Nat.lt_of_le_of_lt (bringL_len _ _ _ _ _ _) ?_; omega)) hb0 ng0 (16 + sp) (ix c 0) (by first | omega | (refine Nat.lt_of_le_of_lt (bringL_len _ _ _ _ _ _) ?_; omega)) (by first | omega | (refine Nat.lt_of_le_of_lt (bringL_len _ _ _ _ _ _) ?_; omega))) ?_
  rintro _ H81 ⟨F81, u81_0, rfl, x81, i81, k81, b81, x81_0, lk81_0⟩
  have zk81 := k81.1
  have l81 := hkp.1
  replace hx := hx.trans x81 hkp.1
  have wf81_0 := Lnk.ge (W := (fun j9 => j9 = g0 ∨ a9.ownBlock = some j9)) lk81_0 (fun k0 hk0 => (wfL1_p9 _ hk0)) hkp.1
  replace hkp := hkp.kw k81 (by intro k0 hl; rintro (rfl | hk0); exact (.inl rfl); exact (wfL1_p9 _ hk0).resolve_left (by omega))
  replace ng0 := x81.no ng0 hb0.lt
  have le0 := x81.1
  replace hin := i81
  clear i81
  replace hb0 := b81
  clear b81
  refine LF.nil (PF.next (CF.seq (CF.seq (CF.region (LF.step (OpOk.assign rfl) (LF.nil (PF.next (CF.block ?_))))))))
  have wfL3_20004 : ∀ k9, (u81_0 : Value).ownBlock = some k9 → H.size ≤ k9 ∨ (fun j9 => j9 = g0 ∨ a9.ownBlock = some j9) k9 := fun k9 h9 => (wf81_0 _ h9)
  refine CF.loop (ι := Nat × Value × List D.Mach × Int × PH) (fun z9 H1 => z9.1 ≤ (stepsM c).length ∧ bringsR scr sp (stepsM c) (bringL scr sp (16 + sp) (ix c 0) l e) (bringE scr sp (16 + sp) (ix c 0) e) = bringsR scr sp ((stepsM c).drop z9.1) z9.2.2.1 z9.2.2.2.1 ∧ z9.2.2.1.length ≤ l.length + 4 + 4 * z9.1 ∧ PH.ext H F z9.2.2.2.2 ∧ PH.le F81 z9.2.2.2.2 ∧ InH z9.2.2.2.2 H1 ∧ Kw (fun j9 => j9 = g0 ∨ a9.ownBlock = some j9) H H1 ∧ Bx H1 g0 84 [z9.2.1, .int .i64 scr, .int .i64 sp, .int .i64 z9.2.2.2.1] ∧ z9.2.2.2.2 g0 = none ∧ Gl rMach 39 z9.2.2.2.2 H1 0 z9.2.1 z9.2.2.1 ∧ (∀ k9, (z9.2.1 : Value).ownBlock = some k9 → H.size ≤ k9 ∨ (fun j9 => j9 = g0 ∨ a9.ownBlock = some j9) k9)) (fun z9 => [(0, .pointer (some ⟨g0, 0, none⟩)), (1, a1), (7, .int .i64 (16 + sp)), (8, .int .i64 (↑z9.1))]) (fun z9 => (stepsM c).length - z9.1) (0, u81_0, bringL scr sp (16 + sp) (ix c 0) l e, bringE scr sp (16 + sp) (ix c 0) e, F81) ⟨by dsimp only; omega, rfl, bringL_len _ _ _ _ _ _, hx, PH.le.refl _, hin, hkp, hb0, ng0, x81_0, wfL3_20004⟩ ⟨rfl, rfl, rfl, eqI (by omega), trivial⟩ ?_
  clear hx hin hkp hb0 ng0 x81_0 wfL3_20004
  rintro ⟨k, vo, o, e1, Fl⟩ H1 ⟨hk, hR, hol, hx, le1, hin, hkp, hb0, ng0, x81_0, wfL3_20004⟩
  dsimp only at hk hR hol hin hkp hb0 ng0 x81_0 wfL3_20004 ⊢
  replace le0 := le0.trans le1
  have hsl := stepsM_len c
  refine CF.seq (CF.seq (CF.region (LF.step (OpOk.move rfl) ?_)))
  refine LF.step (OpOk.add rfl rfl (by omega)) ?_
  refine LF.step (OpOk.move rfl) ?_
  refine LF.step (OpOk.lenL Try.underlying23 (p1.up le0) rfl) ?_
  refine LF.step (OpOk.lss rfl rfl) ?_
  refine LF.nil (PF.next ?_)
  refine CF.if rfl (fun hc6 => ?_) (fun hc6 => ?_)
  have hk1 := hc.ix (k := k) (by omega)
  have hk2 := hc.ix (k := k + 1) (by omega)
  refine CF.skip (PF.next (CF.seq (CF.block ?_)))
  refine CF.tail 10 Try.mixed (by kernel_rfl) ?_
  refine LS.step (OpOk.move rfl) (LS.step (OpOk.move rfl) (LS.step (OpOk.move rfl) ?_))
  refine LS.step (OpOk.idxL (i := k) Try.underlying23 Try.sz3 (p1.up le0) rfl rfl rfl (by omega)) ?_
  refine LS.step (OpOk.ldI hin (rL.ix (p1.up le0) k (by omega)) Try.one3 rfl) ?_
  refine LS.step (OpOk.move rfl) (LS.step (OpOk.move rfl) ?_)
  refine LS.step (OpOk.add rfl rfl (by omega)) ?_
  refine LS.step (OpOk.idxL (i := (k + 1)) Try.underlying23 Try.sz3 (p1.up le0) rfl rfl (by omega) (by omega)) ?_
  refine LS.step (OpOk.ldI hin (rL.ix (p1.up le0) (k + 1) (by omega)) Try.one3 rfl) ?_
  refine LS.tail ?_
  refine LF.call (OpCall.fn Try.ent51 rfl rfl) (rBring_ct hin x81_0 scr sp e1 (by first | omega | (refine Nat.lt_of_le_of_lt (bringL_len _ _ _ _ _ _) ?_; omega)) (by first | omega | (refine Nat.lt_of_le_of_lt (bringL_len _ _ _ _ _ _) ?_; omega)) (by first | omega | (refine Nat.lt_of_le_of_lt (bringL_len _ _ _ _ _ _) ?_; omega)) hb0 ng0 (ix c k) (ix c (k + 1)) (by first | omega | (refine Nat.lt_of_le_of_lt (bringL_len _ _ _ _ _ _) ?_; omega)) (by first | omega | (refine Nat.lt_of_le_of_lt (bringL_len _ _ _ _ _ _) ?_; omega))) ?_
  rintro _ H99 ⟨F99, u99_0, rfl, x99, i99, k99, b99, x99_0, lk99_0⟩
  have zk99 := k99.1
  have l99 := hkp.1
  replace hx := hx.trans x99 hkp.1
  have wf99_0 := Lnk.ge (W := (fun j9 => j9 = g0 ∨ a9.ownBlock = some j9)) lk99_0 (fun k0 hk0 => (wfL3_20004 _ hk0)) hkp.1
  replace hkp := hkp.kw k99 (by intro k0 hl; rintro (rfl | hk0); exact (.inl rfl); exact (wfL3_20004 _ hk0).resolve_left (by omega))
  replace ng0 := x99.no ng0 hb0.lt
  replace le0 := le0.trans x99.1
  replace le1 := le1.trans x99.1
  have le2 := x99.1
  replace hin := i99
  clear i99
  replace hb0 := b99
  clear b99
  refine LF.nil (PF.blockNormal (PF.next (CF.region (LF.step (OpOk.move rfl) ?_))))
  refine LF.step (OpOk.add rfl rfl (by omega)) ?_
  refine LF.step (OpOk.assign rfl) (LF.nil ?_)
  exact PF.again (k + 1, u99_0, bringL scr sp (ix c k) (ix c (k + 1)) o e1, bringE scr sp (ix c k) (ix c (k + 1)) e1, F99) ⟨by dsimp only; omega, by dsimp only; rw [hR, drop_ix (by omega), stepsM_ix (by omega)]; rfl, by dsimp only; exact Nat.le_trans (bringL_len _ _ _ _ _ _) (by omega), hx, le1, hin, hkp, hb0, ng0, x99_0, wf99_0⟩ ⟨rfl, rfl, rfl, eqI (by omega), trivial⟩ (by omega)
  refine CF.exit (PF.thenExit (PF.thenExit (PF.blockHere (PF.next (CF.region (LF.step (OpOk.move rfl) (LF.step (OpOk.move rfl) (LF.step (OpOk.move rfl) ?_))))))))
  refine LF.step (OpOk.lenL Try.underlying23 (p1.up le0) rfl) ?_
  refine LF.step (OpOk.sub rfl rfl (by omega)) ?_
  refine LF.step (OpOk.idxL (i := (List.length c - 1)) Try.underlying23 Try.sz3 (p1.up le0) rfl rfl (by omega) (by omega)) ?_
  refine LF.step (OpOk.ldI hin (rL.ix (p1.up le0) (List.length c - 1) (by omega)) Try.one3 rfl) ?_
  refine LF.step (OpOk.move rfl) ?_
  refine LF.call (OpCall.fn Try.ent51 rfl rfl) (rBring_ct hin x81_0 scr sp e1 (by first | omega | (refine Nat.lt_of_le_of_lt (bringL_len _ _ _ _ _ _) ?_; omega)) (by first | omega | (refine Nat.lt_of_le_of_lt (bringL_len _ _ _ _ _ _) ?_; omega)) (by first | omega | (refine Nat.lt_of_le_of_lt (bringL_len _ _ _ _ _ _) ?_; omega)) hb0 ng0 (ix c (List.length c - 1)) (16 + sp) (by first | omega | (refine Nat.lt_of_le_of_lt (bringL_len _ _ _ _ _ _) ?_; omega)) (by first | omega | (refine Nat.lt_of_le_of_lt (bringL_len _ _ _ _ _ _) ?_; omega))) ?_
  rintro _ H108 ⟨F108, u108_0, rfl, x108, i108, k108, b108, x108_0, lk108_0⟩
  have zk108 := k108.1
  have l108 := hkp.1
  replace hx := hx.trans x108 hkp.1
  have wf108_0 := Lnk.ge (W := (fun j9 => j9 = g0 ∨ a9.ownBlock = some j9)) lk108_0 (fun k0 hk0 => (wfL3_20004 _ hk0)) hkp.1
  replace hkp := hkp.kw k108 (by intro k0 hl; rintro (rfl | hk0); exact (.inl rfl); exact (wfL3_20004 _ hk0).resolve_left (by omega))
  replace ng0 := x108.no ng0 hb0.lt
  replace le0 := le0.trans x108.1
  replace le1 := le1.trans x108.1
  have le2 := x108.1
  replace hin := i108
  clear i108
  replace hb0 := b108
  clear b108
  refine LF.nil ?_
  have hm0 : ((roundR scr sp c l e).1) = (bringL scr sp (ix c (List.length c - 1)) (16 + sp) o e1) := by
    first | (rw [roundR_sw l e hc2] <;> (try rw [hR, List.take_of_length_le (by omega)]); done) | (rw [roundR_no l e ⟨hc4, hc5⟩]; done) | (rw [roundR_go (t := 16 + sp) l e (.inr ⟨hc4, hc5, rfl⟩) (k := k) (by omega) hR]; done) | (rw [roundR_go (t := scr) l e (.inl ⟨hc4, fun h9 => hc2.elim (fun h8 => by rw [hc4] at h8; cases h8) (fun h8 => h8 h9), rfl⟩) (k := k) (by omega) hR]; done)
  have hm3 : ((roundR scr sp c l e).2) = (bringE scr sp (ix c (List.length c - 1)) (16 + sp) e1) := by
    first | (rw [roundR_sw l e hc2] <;> (try rw [hR, List.take_of_length_le (by omega)]); done) | (rw [roundR_no l e ⟨hc4, hc5⟩]; done) | (rw [roundR_go (t := 16 + sp) l e (.inr ⟨hc4, hc5, rfl⟩) (k := k) (by omega) hR]; done) | (rw [roundR_go (t := scr) l e (.inl ⟨hc4, fun h9 => hc2.elim (fun h8 => by rw [hc4] at h8; cases h8) (fun h8 => h8 h9), rfl⟩) (k := k) (by omega) hR]; done)
  exact PF.end0 rfl ⟨_, u108_0, rfl, hx, hin, hkp, by rw [hm3]; exact hb0, by rw [hm0]; exact (x108_0.base (Nat.zero_le _)), lnk_of (fun k9 h9 => (wf108_0 _ h9)) (x108_0.neBx hb0 (by decide))⟩
  have hs0 : ¬ scr < 0 := hc2.elim (fun h8 => by rw [hc4] at h8; cases h8) id
  refine CF.skip (PF.next (CF.seq (CF.region (LF.step (OpOk.move rfl) (LF.step (OpOk.move rfl) (LF.step (OpOk.move rfl) ?_))))))
  refine LF.step (OpOk.idxL (i := 0) Try.underlying23 Try.sz3 p1 rfl rfl (by omega) (by omega)) ?_
  refine LF.step (OpOk.ldI hin (rL.ix p1 0 (by omega)) Try.one3 rfl) ?_
  refine LF.call (OpCall.fn Try.ent51 rfl rfl) (rBring_ct hin p9 scr sp e (by first | omega | (refine Nat.lt_of_le_of_lt (bringL_len _ _ _ _ _ _) ?_; omega)) (by first | omega | (refine Nat.lt_of_le_of_lt (bringL_len _ _ _ _ _ _) ?_; omega)) (by first | omega | (refine Nat.lt_of_le_of_lt (bringL_len _ _ _ _ _ _) ?_; omega)) hb0 ng0 scr (ix c 0) (by first | omega | (refine Nat.lt_of_le_of_lt (bringL_len _ _ _ _ _ _) ?_; omega)) (by first | omega | (refine Nat.lt_of_le_of_lt (bringL_len _ _ _ _ _ _) ?_; omega))) ?_
  rintro _ H81 ⟨F81, u81_0, rfl, x81, i81, k81, b81, x81_0, lk81_0⟩
  have zk81 := k81.1
  have l81 := hkp.1
  replace hx := hx.trans x81 hkp.1
  have wf81_0 := Lnk.ge (W := (fun j9 => j9 = g0 ∨ a9.ownBlock = some j9)) lk81_0 (fun k0 hk0 => (wfL1_p9 _ hk0)) hkp.1
  replace hkp := hkp.kw k81 (by intro k0 hl; rintro (rfl | hk0); exact (.inl rfl); exact (wfL1_p9 _ hk0).resolve_left (by omega))
  replace ng0 := x81.no ng0 hb0.lt
  have le0 := x81.1
  replace hin := i81
  clear i81
  replace hb0 := b81
  clear b81
  refine LF.nil (PF.next (CF.seq (CF.seq (CF.region (LF.step (OpOk.assign rfl) (LF.nil (PF.next (CF.block ?_))))))))
  have wfL3_20007 : ∀ k9, (u81_0 : Value).ownBlock = some k9 → H.size ≤ k9 ∨ (fun j9 => j9 = g0 ∨ a9.ownBlock = some j9) k9 := fun k9 h9 => (wf81_0 _ h9)
  refine CF.loop (ι := Nat × Value × List D.Mach × Int × PH) (fun z9 H1 => z9.1 ≤ (stepsM c).length ∧ bringsR scr sp (stepsM c) (bringL scr sp scr (ix c 0) l e) (bringE scr sp scr (ix c 0) e) = bringsR scr sp ((stepsM c).drop z9.1) z9.2.2.1 z9.2.2.2.1 ∧ z9.2.2.1.length ≤ l.length + 4 + 4 * z9.1 ∧ PH.ext H F z9.2.2.2.2 ∧ PH.le F81 z9.2.2.2.2 ∧ InH z9.2.2.2.2 H1 ∧ Kw (fun j9 => j9 = g0 ∨ a9.ownBlock = some j9) H H1 ∧ Bx H1 g0 84 [z9.2.1, .int .i64 scr, .int .i64 sp, .int .i64 z9.2.2.2.1] ∧ z9.2.2.2.2 g0 = none ∧ Gl rMach 39 z9.2.2.2.2 H1 0 z9.2.1 z9.2.2.1 ∧ (∀ k9, (z9.2.1 : Value).ownBlock = some k9 → H.size ≤ k9 ∨ (fun j9 => j9 = g0 ∨ a9.ownBlock = some j9) k9)) (fun z9 => [(0, .pointer (some ⟨g0, 0, none⟩)), (1, a1), (7, .int .i64 scr), (8, .int .i64 (↑z9.1))]) (fun z9 => (stepsM c).length - z9.1) (0, u81_0, bringL scr sp scr (ix c 0) l e, bringE scr sp scr (ix c 0) e, F81) ⟨by dsimp only; omega, rfl, bringL_len _ _ _ _ _ _, hx, PH.le.refl _, hin, hkp, hb0, ng0, x81_0, wfL3_20007⟩ ⟨rfl, rfl, rfl, eqI (by omega), trivial⟩ ?_
  clear hx hin hkp hb0 ng0 x81_0 wfL3_20007
  rintro ⟨k, vo, o, e1, Fl⟩ H1 ⟨hk, hR, hol, hx, le1, hin, hkp, hb0, ng0, x81_0, wfL3_20007⟩
  dsimp only at hk hR hol hin hkp hb0 ng0 x81_0 wfL3_20007 ⊢
  replace le0 := le0.trans le1
  have hsl := stepsM_len c
  refine CF.seq (CF.seq (CF.region (LF.step (OpOk.move rfl) ?_)))
  refine LF.step (OpOk.add rfl rfl (by omega)) ?_
  refine LF.step (OpOk.move rfl) ?_
  refine LF.step (OpOk.lenL Try.underlying23 (p1.up le0) rfl) ?_
  refine LF.step (OpOk.lss rfl rfl) ?_
  refine LF.nil (PF.next ?_)
  refine CF.if rfl (fun hc7 => ?_) (fun hc7 => ?_)
  have hk1 := hc.ix (k := k) (by omega)
  have hk2 := hc.ix (k := k + 1) (by omega)
  refine CF.skip (PF.next (CF.seq (CF.block ?_)))
  refine CF.tail 10 Try.mixed (by kernel_rfl) ?_
  refine LS.step (OpOk.move rfl) (LS.step (OpOk.move rfl) (LS.step (OpOk.move rfl) ?_))
  refine LS.step (OpOk.idxL (i := k) Try.underlying23 Try.sz3 (p1.up le0) rfl rfl rfl (by omega)) ?_
  refine LS.step (OpOk.ldI hin (rL.ix (p1.up le0) k (by omega)) Try.one3 rfl) ?_
  refine LS.step (OpOk.move rfl) (LS.step (OpOk.move rfl) ?_)
  refine LS.step (OpOk.add rfl rfl (by omega)) ?_
  refine LS.step (OpOk.idxL (i := (k + 1)) Try.underlying23 Try.sz3 (p1.up le0) rfl rfl (by omega) (by omega)) ?_
  refine LS.step (OpOk.ldI hin (rL.ix (p1.up le0) (k + 1) (by omega)) Try.one3 rfl) ?_
  refine LS.tail ?_
  refine LF.call (OpCall.fn Try.ent51 rfl rfl) (rBring_ct hin x81_0 scr sp e1 (by first | omega | (refine Nat.lt_of_le_of_lt (bringL_len _ _ _ _ _ _) ?_; omega)) (by first | omega | (refine Nat.lt_of_le_of_lt (bringL_len _ _ _ _ _ _) ?_; omega)) (by first | omega | (refine Nat.lt_of_le_of_lt (bringL_len _ _ _ _ _ _) ?_; omega)) hb0 ng0 (ix c k) (ix c (k + 1)) (by first | omega | (refine Nat.lt_of_le_of_lt (bringL_len _ _ _ _ _ _) ?_; omega)) (by first | omega | (refine Nat.lt_of_le_of_lt (bringL_len _ _ _ _ _ _) ?_; omega))) ?_
  rintro _ H99 ⟨F99, u99_0, rfl, x99, i99, k99, b99, x99_0, lk99_0⟩
  have zk99 := k99.1
  have l99 := hkp.1
  replace hx := hx.trans x99 hkp.1
  have wf99_0 := Lnk.ge (W := (fun j9 => j9 = g0 ∨ a9.ownBlock = some j9)) lk99_0 (fun k0 hk0 => (wfL3_20007 _ hk0)) hkp.1
  replace hkp := hkp.kw k99 (by intro k0 hl; rintro (rfl | hk0); exact (.inl rfl); exact (wfL3_20007 _ hk0).resolve_left (by omega))
  replace ng0 := x99.no ng0 hb0.lt
  replace le0 := le0.trans x99.1
  replace le1 := le1.trans x99.1
  have le2 := x99.1
  replace hin := i99
  clear i99
  replace hb0 := b99
  clear b99
  refine LF.nil (PF.blockNormal (PF.next (CF.region (LF.step (OpOk.move rfl) ?_))))
  refine LF.step (OpOk.add rfl rfl (by omega)) ?_
  refine LF.step (OpOk.assign rfl) (LF.nil ?_)
  exact PF.again (k + 1, u99_0, bringL scr sp (ix c k) (ix c (k + 1)) o e1, bringE scr sp (ix c k) (ix c (k + 1)) e1, F99) ⟨by dsimp only; omega, by dsimp only; rw [hR, drop_ix (by omega), stepsM_ix (by omega)]; rfl, by dsimp only; exact Nat.le_trans (bringL_len _ _ _ _ _ _) (by omega), hx, le1, hin, hkp, hb0, ng0, x99_0, wf99_0⟩ ⟨rfl, rfl, rfl, eqI (by omega), trivial⟩ (by omega)
  refine CF.exit (PF.thenExit (PF.thenExit (PF.blockHere (PF.next (CF.region (LF.step (OpOk.move rfl) (LF.step (OpOk.move rfl) (LF.step (OpOk.move rfl) ?_))))))))
  refine LF.step (OpOk.lenL Try.underlying23 (p1.up le0) rfl) ?_
  refine LF.step (OpOk.sub rfl rfl (by omega)) ?_
  refine LF.step (OpOk.idxL (i := (List.length c - 1)) Try.underlying23 Try.sz3 (p1.up le0) rfl rfl (by omega) (by omega)) ?_
  refine LF.step (OpOk.ldI hin (rL.ix (p1.up le0) (List.length c - 1) (by omega)) Try.one3 rfl) ?_
  refine LF.step (OpOk.move rfl) ?_
  refine LF.call (OpCall.fn Try.ent51 rfl rfl) (rBring_ct hin x81_0 scr sp e1 (by first | omega | (refine Nat.lt_of_le_of_lt (bringL_len _ _ _ _ _ _) ?_; omega)) (by first | omega | (refine Nat.lt_of_le_of_lt (bringL_len _ _ _ _ _ _) ?_; omega)) (by first | omega | (refine Nat.lt_of_le_of_lt (bringL_len _ _ _ _ _ _) ?_; omega)) hb0 ng0 (ix c (List.length c - 1)) scr (by first | omega | (refine Nat.lt_of_le_of_lt (bringL_len _ _ _ _ _ _) ?_; omega)) (by first | omega | (refine Nat.lt_of_le_of_lt (bringL_len _ _ _ _ _ _) ?_; omega))) ?_
  rintro _ H108 ⟨F108, u108_0, rfl, x108, i108, k108, b108, x108_0, lk108_0⟩
  have zk108 := k108.1
  have l108 := hkp.1
  replace hx := hx.trans x108 hkp.1
  have wf108_0 := Lnk.ge (W := (fun j9 => j9 = g0 ∨ a9.ownBlock = some j9)) lk108_0 (fun k0 hk0 => (wfL3_20007 _ hk0)) hkp.1
  replace hkp := hkp.kw k108 (by intro k0 hl; rintro (rfl | hk0); exact (.inl rfl); exact (wfL3_20007 _ hk0).resolve_left (by omega))
  replace ng0 := x108.no ng0 hb0.lt
  replace le0 := le0.trans x108.1
  replace le1 := le1.trans x108.1
  have le2 := x108.1
  replace hin := i108
  clear i108
  replace hb0 := b108
  clear b108
  refine LF.nil ?_
  have hm0 : ((roundR scr sp c l e).1) = (bringL scr sp (ix c (List.length c - 1)) scr o e1) := by
    first | (rw [roundR_sw l e hc2] <;> (try rw [hR, List.take_of_length_le (by omega)]); done) | (rw [roundR_no l e ⟨hc4, hc5⟩]; done) | (rw [roundR_go (t := 16 + sp) l e (.inr ⟨hc4, hc5, rfl⟩) (k := k) (by omega) hR]; done) | (rw [roundR_go (t := scr) l e (.inl ⟨hc4, fun h9 => hc2.elim (fun h8 => by rw [hc4] at h8; cases h8) (fun h8 => h8 h9), rfl⟩) (k := k) (by omega) hR]; done)
  have hm3 : ((roundR scr sp c l e).2) = (bringE scr sp (ix c (List.length c - 1)) scr e1) := by
    first | (rw [roundR_sw l e hc2] <;> (try rw [hR, List.take_of_length_le (by omega)]); done) | (rw [roundR_no l e ⟨hc4, hc5⟩]; done) | (rw [roundR_go (t := 16 + sp) l e (.inr ⟨hc4, hc5, rfl⟩) (k := k) (by omega) hR]; done) | (rw [roundR_go (t := scr) l e (.inl ⟨hc4, fun h9 => hc2.elim (fun h8 => by rw [hc4] at h8; cases h8) (fun h8 => h8 h9), rfl⟩) (k := k) (by omega) hR]; done)
  exact PF.end0 rfl ⟨_, u108_0, rfl, hx, hin, hkp, by rw [hm3]; exact hb0, by rw [hm0]; exact (x108_0.base (Nat.zero_le _)), lnk_of (fun k9 h9 => (wf108_0 _ h9)) (x108_0.neBx hb0 (by decide))⟩

end Go.Proofs.Ytcceglmmpbdhiaa
