/- Walks. Conditions: each contract names its own. -/
import Derived.Test.YtcceglmmpbdhiaaW1
namespace Go.Proofs.Ytcceglmmpbdhiaa
set_option linter.unusedVariables false
set_option linter.unusedSimpArgs false
set_option linter.unusedSectionVars false
set_option maxRecDepth 8000
open Go.JE

theorem Try.agg31 : ∃ d, Try.prog.underlying 31 = some d ∧ (match d with | .struct _ | .array _ _ => true | _ => false) = true := ⟨_, Try.underlying31, rfl⟩
theorem Try.ent40 : Ent Try.prog 40 := ⟨_, Try.func40, by kernel_rfl, by kernel_rfl⟩
theorem Try.ent41 : Ent Try.prog 41 := ⟨_, Try.func41, by kernel_rfl, by kernel_rfl⟩
theorem Try.ent42 : Ent Try.prog 42 := ⟨_, Try.func42, by kernel_rfl, by kernel_rfl⟩
theorem Try.ent47 : Ent Try.prog 47 := ⟨_, Try.func47, by kernel_rfl, by kernel_rfl⟩
theorem Try.fld31_0 : Fld Try.prog 31 0 0 := ⟨_, _, Try.underlying31, rfl, rfl, 1, (by unfold Sz; kernel_rfl), by decide⟩
theorem Try.fld31_1 : Fld Try.prog 31 1 1 := ⟨_, _, Try.underlying31, rfl, rfl, 1, (by unfold Sz; kernel_rfl), by decide⟩
theorem Try.one3 : One Try.prog 3 := ⟨_, Try.underlying3, rfl⟩
theorem Try.sz31 : Sz Try.prog 31 2 := by unfold Sz; kernel_rfl
theorem Try.zero31 : (Try.prog.info? 31).bind (·.zero) = some (.agg #[.int .i64 0, .int .i64 0]) := by kernel_rfl
theorem ext_mach {a b : D.Mach} (h1 : a.Op = b.Op) (h2 : a.D = b.D) (h3 : a.E = b.E) (h4 : a.A = b.A) (h5 : a.B = b.B) (h6 : a.C = b.C) (h7 : a.Imm = b.Imm) (h8 : a.Args = b.Args) : a = b := by
  cases a; cases b; simp_all
theorem sameM_len {a b : List D.Mach} (h : ¬ a.length = b.length) : sameM a b = false := by
  have : ¬ a = b := by rintro rfl; exact h rfl
  simp [sameM, this]
theorem sameM_at {a b : List D.Mach} {k : Nat} (h1 : k < a.length) (h2 : a.length = b.length) (h : ¬ (ix a k = ix b k ∧ (ix a k).Args = [])) : sameM a b = false := by
  simp only [sameM, Bool.and_eq_false_iff, decide_eq_false_iff_not]
  by_cases e : a = b
  · subst e
    right
    rw [List.all_eq_false]
    refine ⟨ix a k, ix_mem h1, ?_⟩
    simpa using h
  · exact .inl e
theorem sameM_yes {a b : List D.Mach} {k : Nat} (h1 : a.length ≤ k) (h2 : a.length = b.length) (h : a.take k = b.take k) (h3 : (a.take k).all (fun i => decide (i.Args = [])) = true) : sameM a b = true := by
  rw [List.take_of_length_le h1] at h h3; rw [List.take_of_length_le (by omega)] at h
  subst h; simp [sameM, h3]
theorem sourceM_drop (l : List D.Move) (p : Int) {k : Nat} (h : k < l.length) (v : Int) : sourceM (l.drop k) p v = sourceM (l.drop (k + 1)) p (if (ix l k).To = p then (ix l k).From else v) := by rw [drop_ix h]; rfl
theorem madeM_drop {s : List Int} {k : Nat} (h : k < s.length) : madeFrom k (s.drop k) = (if 20 ≤ k then [] else if Int.tmod (Int.tmod (ix s k) 24 + 24) 24 < 20 then ⟨spotM k, spotM (Int.tmod (Int.tmod (ix s k) 24 + 24) 24)⟩ :: madeFrom (k + 1) (s.drop (k + 1)) else madeFrom (k + 1) (s.drop (k + 1))) := by rw [drop_ix h]; rfl
theorem madeFrom_nil (k : Nat) : madeFrom k [] = [] := by unfold madeFrom; rfl
theorem madeFrom_end {s : List Int} {k : Nat} (h : s.length ≤ k ∨ 20 ≤ k) : madeFrom k (s.drop k) = [] := by
  rcases h with h | h
  · rw [List.drop_of_length_le h]; exact madeFrom_nil _
  · unfold madeFrom; split
    · rfl
    · rw [if_pos h]
theorem tm24 (x : Int) : 0 ≤ Int.tmod (Int.tmod x 24 + 24) 24 ∧ Int.tmod (Int.tmod x 24 + 24) 24 < 24 := by
  have h1 := Int.tmod_lt_of_pos x (show (0 : Int) < 24 by decide)
  have h2 := Int.lt_tmod_of_pos x (show (0 : Int) < 24 by decide)
  exact ⟨Int.tmod_nonneg _ (by omega), Int.tmod_lt_of_pos _ (by decide)⟩
theorem startM_take (x : Int) (k : Nat) (h : k ≤ 40) (l : List Int) (e : l = (List.range k).map (fun (i : Nat) => IntKind.i32.wrap (x + IntKind.i32.wrap (IntKind.i32.wrap (i : Int) * 1000003)))) : l.length = k := by rw [e]; simp
theorem spotM_rng {n : Int} (h : 0 ≤ n ∧ n < 20) : -9223372036854775808 ≤ spotM n ∧ spotM n ≤ 9223372036854775807 := by unfold spotM; split <;> omega
def srcM (l : List D.Move) (p : Int) : Int := sourceM l p (-1)
theorem _root_.Go.JE.rL.ren {α : Type} {r : Rp α} {N M : Nat} {F : PH} {v : Value} {l : List α} (h : (rLn N r).rv F v l) (hM : l.length < M) : (rLn M r).rv F v l := ⟨⟨hM, h.1.2⟩, h.2⟩

def afterP (l : List D.Move) (places : List Int) : List Int := afterM places l places
-- jacquard/moves.After: function 21
theorem pAfter_ct {F : PH} {H : Heap} (hin : InH F H) {a0 : Value} {l : List D.Move} (p0 : (rL rMove).rv F a0 l) {a1 : Value} {places : List Int} (p1 : (rL (rI .i32)).rv F a1 places) :
    Ct Try.prog 21 #[a0, a1] H (fun v H' => Gl (rI .i32) 21 F H' H.size v (afterP l places) ∧ Kp H.size H H') := by
  have q0 := rL.len2 p0
  have q1 := rL.len2 p1
  have hkp := Kp.refl H.size H
  have hx := PH.ext.refl (H := H) F
  refine Ct.enter (args := [a0, a1]) Try.func21 rfl rfl rfl (fun w0 hw0 => ?_)
  refine CF.seq (CF.region (LF.step (OpOk.assign rfl) (LF.nil (PF.next (CF.seq (CF.region (LF.step (OpOk.move rfl) ?_)))))))
  refine LF.call (OpCall.fn Try.ent40 rfl rfl) (clone32_ct hin p1) ?_
  rintro v9 H9 ⟨x9, k9⟩
  replace x9 := x9.base hkp.1
  have zk9 := k9.1
  replace hin := hin.kp k9
  replace hkp := hkp.trans (k9.mono hkp.1)
  refine LF.step (OpOk.assign rfl) (LF.nil (PF.next (CF.seq (CF.seq (CF.region (LF.step (OpOk.move rfl) ?_))))))
  refine LF.step (OpOk.lenL Try.underlying22 p0 rfl) ?_
  refine LF.step (OpOk.move rfl) (LF.nil (PF.next (CF.block ?_)))
  refine CF.loop (ι := Nat × List Int) (fun z9 H1 => z9.1 ≤ l.length ∧ afterM places l places = afterM places (l.drop z9.1) z9.2 ∧ z9.2.length = places.length ∧ InH F H1 ∧ Kp H.size H H1 ∧ Gl (rI .i32) 21 F H1 H.size v9 z9.2) (fun z9 => [(1, a1), (4, .slice none 0 0), (5, v9), (10, a0), (11, .int .i64 (↑(List.length l))), (12, .int .i64 (↑z9.1))]) (fun z9 => l.length - z9.1) (0, places) ⟨by dsimp only; omega, rfl, rfl, hin, hkp, x9⟩ ⟨rfl, rfl, rfl, rfl, rfl, eqI (by omega), trivial⟩ ?_
  clear hin hkp x9
  rintro ⟨k, o⟩ H1 ⟨hk, hR, hl9, hin, hkp, x9⟩
  dsimp only at hk hR hl9 x9 ⊢
  refine CF.seq (CF.region ?_)
  refine LF.step (OpOk.lss rfl rfl) ?_
  refine LF.nil (PF.next (CF.seq ?_))
  refine CF.if rfl (fun hc1 => ?_) (fun hc1 => ?_)
  refine CF.skip (PF.next (CF.seq (CF.block (CF.seq (CF.region ?_)))))
  refine LF.step (OpOk.idxL (i := k) Try.underlying22 Try.sz31 p0 rfl rfl rfl (by omega)) ?_
  refine LF.stepE (OpOk.ldA hin (rL.ix p0 k (by omega)) Try.agg31 Try.sz31 rfl) ?_
  intro v15 h15
  have h15k := rMove.any h15
  obtain rfl := rMove.open h15
  refine LF.chg (OpCh.allocB Try.zero31 rfl) ?_
  rintro _ H7 ⟨g7, rfl, eg7, sg7, kg7, hb7⟩
  have ng7 := hin.nope (Nat.le_of_eq eg7.symm)
  have lg7 := hkp.1
  have zkg7 := kg7.1
  replace hin := hin.kp kg7
  replace hkp := hkp.trans (kg7.mono hkp.1)
  replace x9 := x9.kp kg7
  clear kg7
  refine LF.chg0 (OpCh.storeBA hb7 Try.sz31 rfl rfl rfl (allOne.mem (l := [.int .i64 ((ix l k).To), .int .i64 ((ix l k).From)]) ⟨rfl, rfl, trivial⟩) (by decide)) ?_
  rintro _ Hw1 ⟨tw1, bw1⟩
  have ztw1 := tw1.1
  replace hin := hin.tw tw1 ng7
  replace hkp := Tw.kp' hkp tw1 (by omega)
  replace x9 := x9.tw tw1 (x9.neBx hb7 (by decide))
  replace hb7 : Bx _ _ _ [.int .i64 ((ix l k).To), .int .i64 ((ix l k).From)] := bw1
  clear bw1 tw1
  refine LF.nil (PF.next ?_)
  refine CF.any (z := false) (fun H' => InH F H' ∧ Bx H' g7 31 [.int .i64 ((ix l k).To), .int .i64 ((ix l k).From)] ∧ True) Try.mixed ?_
  refine AF.take 0 rfl (by kernel_rfl) (by kernel_rfl) (by kernel_rfl) ⟨hin, hb7, trivial⟩ (fun _ ⟨hin, hb7, _⟩ => OpOk.move rfl) ?_
  refine AF.take 1 rfl (by kernel_rfl) (by kernel_rfl) (by kernel_rfl) ⟨hin, hb7, trivial⟩ (fun _ ⟨hin, hb7, _⟩ => OpOk.fieldAddr (Try.fld31_0) rfl) ?_
  refine AF.take 2 rfl (by kernel_rfl) (by kernel_rfl) (by kernel_rfl) ⟨hin, hb7, trivial⟩ (fun _ ⟨hin, hb7, _⟩ => OpOk.ldBx hb7 Try.one3 rfl rfl) ?_
  refine AF.take 3 rfl (by kernel_rfl) (by kernel_rfl) (by kernel_rfl) ⟨hin, hb7, trivial⟩ (fun _ ⟨hin, hb7, _⟩ => OpOk.move rfl) ?_
  refine AF.take 4 rfl (by kernel_rfl) (by kernel_rfl) (by kernel_rfl) ⟨hin, hb7, trivial⟩ (fun _ ⟨hin, hb7, _⟩ => OpOk.fieldAddr (Try.fld31_1) rfl) ?_
  refine AF.take 5 rfl (by kernel_rfl) (by kernel_rfl) (by kernel_rfl) ⟨hin, hb7, trivial⟩ (fun _ ⟨hin, hb7, _⟩ => OpOk.ldBx hb7 Try.one3 rfl rfl) ?_
  refine AF.call 6 rfl (by kernel_rfl) (OpCall.fn Try.ent42 rfl rfl) (pAt_ct hin p1 ((ix l k).From)) (by rintro _ _ ⟨_, rfl⟩; exact ⟨hin, hb7, trivial⟩) ?_
  rintro _ _ ⟨rfl, rfl⟩
  have w22_0 : IntKind.i32.wrap (atM places ((ix l k).From)) = atM places ((ix l k).From) := atM_wrL p1 _
  refine AF.one 7 (by kernel_rfl) ?_
  refine AFN.call rfl (OpCall.fn Try.ent41 rfl rfl) (pPut_ct hin x9 ((ix l k).To) (atM places ((ix l k).From)) (by omega) w22_0) ?_
  rintro _ H23 ⟨rfl, k23, x23_0⟩
  have zk23 := k23.1
  replace hin := hin.kw k23 (by intro k0 hk0; exact x9.no k0 hk0)
  replace hb7 := hb7.kw k23 (x9.neBx hb7 (by decide))
  replace hkp := hkp.kw k23 (by intro k0 hk0; exact x9.ge k0 hk0)
  replace x9 := x23_0
  refine ⟨⟨hin, hb7, trivial⟩, ?_⟩
  refine AF.done (by kernel_rfl) ?_
  refine PF.blockNormal (PF.next (CF.region ?_))
  refine LF.step (OpOk.add rfl rfl (by omega)) ?_
  refine LF.step (OpOk.move rfl) (LF.nil ?_)
  exact PF.again (k + 1, putM o ((ix l k).To) (atM places ((ix l k).From))) ⟨by dsimp only; omega, by dsimp only; rw [hR, drop_ix (by omega)]; simp only [afterM, putM]; try first | rfl | (rw [if_pos (by omega)]; done) | (rw [if_neg (by omega)]; done), by dsimp only; first | exact hl9 | (rw [putM_len]; exact hl9) | (rw [List.length_set]; exact hl9), hin, hkp, x9⟩ ⟨rfl, rfl, rfl, rfl, rfl, eqI (by omega), trivial⟩ (by omega)
  refine CF.exit (PF.thenExit (PF.thenExit (PF.blockHere (PF.next (CF.seq (CF.region (LF.step (OpOk.move rfl) (LF.step (OpOk.assign rfl) (LF.nil (PF.next (CF.ret ?_)))))))))))
  have hm : afterP l places = o := by
    unfold afterP
    first | rfl | (rw [hR, List.drop_of_length_le (by omega)]; rfl)
  exact PF.ret1 rfl rfl ⟨by rw [hm]; exact x9, hkp⟩

-- jacquard/jacquardref11.After: function 25
theorem rAfter_ct {F : PH} {H : Heap} (hin : InH F H) {a0 : Value} {l : List D.Move} (p0 : (rL rMove).rv F a0 l) {a1 : Value} {places : List Int} (p1 : (rL (rI .i32)).rv F a1 places) :
    Ct Try.prog 25 #[a0, a1] H (fun v H' => Gl (rI .i32) 21 F H' H.size v (afterP l places) ∧ Kp H.size H H') := by
  have q0 := rL.len2 p0
  have q1 := rL.len2 p1
  have hkp := Kp.refl H.size H
  have hx := PH.ext.refl (H := H) F
  refine Ct.enter (args := [a0, a1]) Try.func25 rfl rfl rfl (fun w0 hw0 => ?_)
  refine CF.seq (CF.region (LF.step (OpOk.assign rfl) (LF.nil (PF.next (CF.seq (CF.region ?_))))))
  refine LF.chg (OpCh.litL (F := F) (r := (rI .i32)) (l := []) (us := []) (cs := []) Try.underlying44 Try.info21 (by decide) rfl rfl rfl trivial) ?_
  rintro _ H7 ⟨g7, rfl, e7, s7, k7, x7⟩
  have l7 := hkp.1
  replace x7 := (x7 hin).base l7
  have zk7 := k7.1
  replace hin := hin.kp k7
  replace hkp := hkp.trans (k7.mono hkp.1)
  refine LF.step (OpOk.move rfl) ?_
  refine LF.chg (OpCh.appL (r := (rI .i32)) Try.underlying44 Try.info21 (by decide) rfl rfl rfl x7 p1 hin (by first | (simp only [List.length_append, List.length_take, List.length_drop, List.length_nil, List.length_cons, List.length_set, List.length_replicate]; omega) | (simp; done) | (simp; omega) | omega) (by first | omega | exact hkp.1)) ?_
  rintro v9 H9 ⟨x9, gb9, ob9⟩
  replace hin := hin.grown gb9 x7.no
  replace hkp := gb9.kp hkp (Nat.le_refl _) (fun k0 hk0 => (x7.blk k0 hk0).1)
  rw [List.nil_append] at x9
  refine LF.step (OpOk.assign rfl) (LF.nil (PF.next (CF.seq (CF.seq (CF.region (LF.step (OpOk.assign rfl) (LF.nil (PF.next (CF.block ?_)))))))))
  refine CF.loop (ι := Nat × List Int) (fun z9 H1 => z9.1 ≤ l.length ∧ afterM places l places = afterM places (l.drop z9.1) z9.2 ∧ z9.2.length = places.length ∧ InH F H1 ∧ Kp H.size H H1 ∧ Gl (rI .i32) 21 F H1 H.size v9 z9.2) (fun z9 => [(0, a0), (1, a1), (4, .slice none 0 0), (5, v9), (6, .int .i64 (↑z9.1))]) (fun z9 => l.length - z9.1) (0, places) ⟨by dsimp only; omega, rfl, rfl, hin, hkp, x9⟩ ⟨rfl, rfl, rfl, rfl, eqI (by omega), trivial⟩ ?_
  clear hin hkp x9
  rintro ⟨k, o⟩ H1 ⟨hk, hR, hl9, hin, hkp, x9⟩
  dsimp only at hk hR hl9 x9 ⊢
  refine CF.seq (CF.seq (CF.region (LF.step (OpOk.move rfl) (LF.step (OpOk.move rfl) ?_))))
  refine LF.step (OpOk.lenL Try.underlying22 p0 rfl) ?_
  refine LF.step (OpOk.lss rfl rfl) ?_
  refine LF.nil (PF.next ?_)
  refine CF.if rfl (fun hc1 => ?_) (fun hc1 => ?_)
  refine CF.skip (PF.next (CF.seq (CF.block (CF.seq (CF.region (LF.step (OpOk.move rfl) (LF.step (OpOk.move rfl) ?_)))))))
  refine LF.step (OpOk.idxL (i := k) Try.underlying22 Try.sz31 p0 rfl rfl rfl (by omega)) ?_
  refine LF.step (OpOk.fieldAddr (Try.fld31_0) rfl) ?_
  refine LF.step (OpOk.ldI hin (rMove.at_To (rL.ix p0 k (by omega))) Try.one3 rfl) ?_
  refine LF.step (OpOk.geq rfl rfl) ?_
  refine LF.step (OpOk.move rfl) ?_
  refine LF.gstep rfl rfl (.t _) (fun hg => OpOk.move rfl) ?_
  refine LF.gstep rfl rfl (.t _) (fun hg => OpOk.move rfl) ?_
  refine LF.gstep rfl rfl (.t _) (fun hg => OpOk.idxL (i := k) Try.underlying22 Try.sz31 p0 (evg rfl hg) (evg rfl hg) rfl (by omega)) ?_
  refine LF.gstep rfl rfl (.t _) (fun hg => OpOk.fieldAddr (Try.fld31_0) (evg rfl hg)) ?_
  refine LF.gstep rfl rfl (.t _) (fun hg => OpOk.ldI hin (rMove.at_To (rL.ix p0 k (by omega))) Try.one3 (evg rfl hg)) ?_
  refine LF.gstep rfl rfl (.t _) (fun hg => OpOk.move rfl) ?_
  refine LF.gstep rfl rfl (.t _) (fun hg => OpOk.lenG Try.underlying44 x9 (evg rfl hg)) ?_
  refine LF.gstep rfl rfl (.t _) (fun hg => OpOk.lss (evg rfl hg) (evg rfl hg)) ?_
  refine LF.step (OpOk.pickAnd rfl rfl) ?_
  refine LF.nil (PF.next ?_)
  refine CF.if rfl (fun hc2 => ?_) (fun hc2 => ?_)
  refine CF.any (z := false) (fun H' => InH F H' ∧ True) Try.mixed ?_
  refine AF.take 0 rfl (by kernel_rfl) (by kernel_rfl) (by kernel_rfl) ⟨hin, trivial⟩ (fun _ ⟨hin, _⟩ => OpOk.move rfl) ?_
  refine AF.take 1 rfl (by kernel_rfl) (by kernel_rfl) (by kernel_rfl) ⟨hin, trivial⟩ (fun _ ⟨hin, _⟩ => OpOk.move rfl) ?_
  refine AF.take 2 rfl (by kernel_rfl) (by kernel_rfl) (by kernel_rfl) ⟨hin, trivial⟩ (fun _ ⟨hin, _⟩ => OpOk.move rfl) ?_
  refine AF.take 3 rfl (by kernel_rfl) (by kernel_rfl) (by kernel_rfl) ⟨hin, trivial⟩ (fun _ ⟨hin, _⟩ => OpOk.idxL (i := k) Try.underlying22 Try.sz31 p0 rfl rfl rfl (by omega)) ?_
  refine AF.take 4 rfl (by kernel_rfl) (by kernel_rfl) (by kernel_rfl) ⟨hin, trivial⟩ (fun _ ⟨hin, _⟩ => OpOk.fieldAddr (Try.fld31_0) rfl) ?_
  refine AF.take 5 rfl (by kernel_rfl) (by kernel_rfl) (by kernel_rfl) ⟨hin, trivial⟩ (fun _ ⟨hin, _⟩ => OpOk.ldI hin (rMove.at_To (rL.ix p0 k (by omega))) Try.one3 rfl) ?_
  refine AF.take 6 rfl (by kernel_rfl) (by kernel_rfl) (by kernel_rfl) ⟨hin, trivial⟩ (fun _ ⟨hin, _⟩ => OpOk.move rfl) ?_
  refine AF.take 7 rfl (by kernel_rfl) (by kernel_rfl) (by kernel_rfl) ⟨hin, trivial⟩ (fun _ ⟨hin, _⟩ => OpOk.move rfl) ?_
  refine AF.take 8 rfl (by kernel_rfl) (by kernel_rfl) (by kernel_rfl) ⟨hin, trivial⟩ (fun _ ⟨hin, _⟩ => OpOk.move rfl) ?_
  refine AF.take 9 rfl (by kernel_rfl) (by kernel_rfl) (by kernel_rfl) ⟨hin, trivial⟩ (fun _ ⟨hin, _⟩ => OpOk.idxL (i := k) Try.underlying22 Try.sz31 p0 rfl rfl rfl (by omega)) ?_
  refine AF.take 10 rfl (by kernel_rfl) (by kernel_rfl) (by kernel_rfl) ⟨hin, trivial⟩ (fun _ ⟨hin, _⟩ => OpOk.fieldAddr (Try.fld31_1) rfl) ?_
  refine AF.take 11 rfl (by kernel_rfl) (by kernel_rfl) (by kernel_rfl) ⟨hin, trivial⟩ (fun _ ⟨hin, _⟩ => OpOk.ldI hin (rMove.at_From (rL.ix p0 k (by omega))) Try.one3 rfl) ?_
  refine AF.call 12 rfl (by kernel_rfl) (OpCall.fn Try.ent47 rfl rfl) (rAt_ct hin p1 ((ix l k).From)) (by rintro _ _ ⟨_, rfl⟩; exact ⟨hin, trivial⟩) ?_
  rintro _ _ ⟨rfl, rfl⟩
  have w44_0 : IntKind.i32.wrap (atM places ((ix l k).From)) = atM places ((ix l k).From) := atM_wrL p1 _
  refine AF.one 13 (by kernel_rfl) ?_
  refine AFN.step rfl (OpOk.idxG (i := (Int.toNat ((ix l k).To))) Try.underlying44 Try.sz21 x9 rfl rfl (by omega) (by first | omega | (simp only [List.length_replicate, List.length_set, List.length_append, List.length_cons, List.length_nil]; omega) | (simp only [List.length_append, List.length_take, List.length_replicate]; omega))) ⟨hin, trivial⟩ ?_
  refine AF.one 14 (by kernel_rfl) ?_
  refine AFN.chg0 rfl (OpCh.storeG x9 rfl Try.sz21 rfl rfl rfl (by first | omega | (simp only [List.length_replicate, List.length_set, List.length_append, List.length_cons, List.length_nil]; omega) | (simp only [List.length_append, List.length_take, List.length_replicate]; omega)) ⟨rfl, w44_0⟩) ?_
  rintro _ Hw1 ⟨gw1, qw1, tw1, xw1⟩
  have ztw1 := tw1.1
  replace hin := hin.tw tw1 (x9.no _ qw1)
  replace hkp := Tw.kp' hkp tw1 (x9.blk _ qw1).1
  replace x9 := xw1
  refine ⟨⟨hin, trivial⟩, ?_⟩
  refine AF.done (by kernel_rfl) ?_
  refine PF.blockNormal (PF.next (CF.region (LF.step (OpOk.move rfl) ?_)))
  refine LF.step (OpOk.add rfl rfl (by omega)) ?_
  refine LF.step (OpOk.assign rfl) (LF.nil ?_)
  exact PF.again (k + 1, List.set o (Int.toNat ((ix l k).To)) (atM places ((ix l k).From))) ⟨by dsimp only; omega, by dsimp only; rw [hR, drop_ix (by omega)]; simp only [afterM, putM]; try first | rfl | (rw [if_pos (by omega)]; done) | (rw [if_neg (by omega)]; done), by dsimp only; first | exact hl9 | (rw [putM_len]; exact hl9) | (rw [List.length_set]; exact hl9), hin, hkp, x9⟩ ⟨rfl, rfl, rfl, rfl, eqI (by omega), trivial⟩ (by omega)
  refine CF.skip (PF.blockNormal (PF.next (CF.region (LF.step (OpOk.move rfl) ?_))))
  refine LF.step (OpOk.add rfl rfl (by omega)) ?_
  refine LF.step (OpOk.assign rfl) (LF.nil ?_)
  exact PF.again (k + 1, o) ⟨by dsimp only; omega, by dsimp only; rw [hR, drop_ix (by omega)]; simp only [afterM, putM]; try first | rfl | (rw [if_pos (by omega)]; done) | (rw [if_neg (by omega)]; done), by dsimp only; first | exact hl9 | (rw [putM_len]; exact hl9) | (rw [List.length_set]; exact hl9), hin, hkp, x9⟩ ⟨rfl, rfl, rfl, rfl, eqI (by omega), trivial⟩ (by omega)
  refine CF.exit (PF.thenExit (PF.thenExit (PF.blockHere (PF.next (CF.seq (CF.region (LF.step (OpOk.move rfl) (LF.step (OpOk.assign rfl) (LF.nil (PF.next (CF.ret ?_)))))))))))
  have hm : afterP l places = o := by
    unfold afterP
    first | rfl | (rw [hR, List.drop_of_length_le (by omega)]; rfl)
  exact PF.ret1 rfl rfl ⟨by rw [hm]; exact x9, hkp⟩

end Go.Proofs.Ytcceglmmpbdhiaa
