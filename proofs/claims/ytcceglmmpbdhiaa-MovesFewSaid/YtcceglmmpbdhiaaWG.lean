/- Walks. Conditions: each contract names its own. -/
import Derived.Test.YtcceglmmpbdhiaaWF
namespace Go.Proofs.Ytcceglmmpbdhiaa
set_option linter.unusedVariables false
set_option linter.unusedSimpArgs false
set_option linter.unusedSectionVars false
set_option maxRecDepth 8000
open Go.JE

theorem Try.ent37 : Ent Try.prog 37 := ⟨_, Try.func37, by kernel_rfl, by kernel_rfl⟩
theorem Try.ent39 : Ent Try.prog 39 := ⟨_, Try.func39, by kernel_rfl, by kernel_rfl⟩
theorem Try.ent63 : Ent Try.prog 63 := ⟨_, Try.func63, by kernel_rfl, by kernel_rfl⟩
theorem Try.one4 : One Try.prog 4 := ⟨_, Try.underlying4, rfl⟩
theorem Try.one60 : One Try.prog 60 := ⟨_, Try.underlying60, rfl⟩
theorem ring_ix {f : Int → Int} {x0 : Int} {c : List Int} {xs : List (Pl × Pl)} (h : RingOf f x0 c xs) : xs.map plP = c := by
  apply List.ext_getElem (by rw [List.length_map, h.2.1])
  intro k h1 h2
  rw [List.getElem_map, (h.2.2 k (by rw [h.2.1]; exact h2)).1, ix_eq h2]
theorem slotsM_ring {f : Int → Int} {x0 : Int} {c : List Int} {xs : List (Pl × Pl)} (h : RingOf f x0 c xs) : slotsM xs = !lowM c := by
  rw [← ring_ix h]
  unfold slotsM lowM
  rw [List.all_map, List.not_all_eq_any_not]
  congr 1
  funext q
  simp only [Function.comp, ← decide_not, Int.not_lt]
theorem pairs_ring {f : Int → Int} {x0 : Int} {c : List Int} {xs : List (Pl × Pl)} (h : RingOf f x0 c xs) (t : Int) : xs.map (fun q => (plP q, toP t x0 q)) = stepsM c ++ [(ix c (c.length - 1), t)] := by
  obtain ⟨⟨h0, hx, hs, he⟩, hl, hp⟩ := h
  have hsl := stepsM_len c
  apply List.ext_getElem (by simp [hl, hsl]; omega)
  intro k h1 h2
  rw [List.length_map] at h1
  obtain ⟨e1, e2⟩ := hp k h1
  rw [List.getElem_map, e1]
  unfold toP
  rw [e2]
  by_cases hk : k + 1 < c.length
  · obtain ⟨e3, e4⟩ := hs k hk
    rw [if_neg e4, List.getElem_append_left (by omega), ← ix_eq (show k < (stepsM c).length by omega), stepsM_ix hk, e3]
  · have hk2 : k = c.length - 1 := by omega
    subst hk2
    rw [if_pos he, List.getElem_append_right (by omega)]
    simp
theorem swaps_ring {f : Int → Int} {x0 : Int} {c : List Int} {xs : List (Pl × Pl)} (h : RingOf f x0 c xs) : swapsP x0 xs = (stepsM c).map swapI := by
  obtain ⟨⟨h0, hx, hs, he⟩, hl, hp⟩ := h
  have hsl := stepsM_len c
  have key : ∀ n, n + 1 ≤ c.length → swapsP x0 (xs.take n) = ((stepsM c).take n).map swapI := by
    intro n
    induction n with
    | zero => intro _; simp [swapsP]
    | succ n ih =>
      intro hn
      obtain ⟨e1, e2⟩ := hp n (by omega)
      obtain ⟨e3, e4⟩ := hs n (by omega)
      rw [List.take_succ_eq_append_getElem (by omega), swapsP_yes _ (by rw [e2]; exact e4), ih (by omega), take_ix (show n < (stepsM c).length by omega), List.map_append, stepsM_ix (by omega), e1, e2, e3]
      rfl
  have h1 := key (c.length - 1) (by omega)
  rw [List.take_of_length_le (show (stepsM c).length ≤ c.length - 1 by omega)] at h1
  rw [← h1]
  have hlast : c.length - 1 < xs.length := by omega
  obtain ⟨e1, e2⟩ := hp (c.length - 1) hlast
  have : xs = xs.take (c.length - 1) ++ [xs[c.length - 1]] := by
    rw [← List.take_succ_eq_append_getElem hlast, List.take_of_length_le (by omega)]
  conv => lhs; rw [this]
  rw [swapsP_no _ (by rw [e2]; exact he)]
theorem bringsR_all {scr sp : Int} (h : ∀ a b, (bringX scr sp a b).isNone = false) : ∀ (a : List (Int × Int)) (l : List D.Mach), bringsR scr sp a l 0 = (l ++ a.flatMap (fun q => (bringX scr sp q.1 q.2).getD []), 0)
  | [], l => by simp [bringsR]
  | q :: a, l => by
    have he : bringE scr sp q.1 q.2 0 = 0 := by
      unfold bringE
      rw [if_neg (by decide), if_neg]
      rintro ⟨h1, h2, h3, h4⟩
      have := h q.1 q.2
      unfold bringX at this
      rw [if_neg (by omega), if_neg (by omega), if_neg (by omega), if_neg (by omega), if_pos h4] at this
      cases this
    have hl : bringL scr sp q.1 q.2 l 0 = l ++ (bringX scr sp q.1 q.2).getD [] := by unfold bringL; rw [if_neg (by decide)]
    rw [bringsR, he, hl, bringsR_all h, List.flatMap_cons, List.append_assoc]
theorem bringX_is {scr sp : Int} (h : 0 ≤ scr ∨ 0 ≤ sp) (a b : Int) : (bringX scr sp a b).isNone = false := by
  unfold bringX
  (repeat' split) <;> first | rfl | (exfalso; omega)
theorem brings_ring {f : Int → Int} {scr sp x0 : Int} {c : List Int} {xs : List (Pl × Pl)} (h : RingOf f x0 c xs) (t : Int) (l : List D.Mach) (hall : ∀ a b, (bringX scr sp a b).isNone = false) :
    bringsR scr sp ((t, ix c 0) :: stepsM c ++ [(ix c (c.length - 1), t)]) l 0 = (l ++ (bringX scr sp t x0).getD [] ++ bringsP scr sp t x0 xs, 0) := by
  rw [bringsR_all hall, List.cons_append, ← pairs_ring h t, List.flatMap_cons, h.1.2.1, List.append_assoc]
  congr 3
  unfold bringsP
  rw [List.flatMap_map]
theorem roundP_sw {f : Int → Int} {scr sp x0 : Int} {c : List Int} {xs : List (Pl × Pl)} (h : RingOf f x0 c xs) (l : List D.Mach) (h1 : slotsM xs = false) (h2 : scr < 0) : roundR scr sp c l 0 = (l ++ swapsP x0 xs, 0) := by
  rw [roundR_sw l 0 ⟨by rw [slotsM_ring h] at h1; simpa using h1, h2⟩, swaps_ring h]
theorem roundP_no {f : Int → Int} {scr sp x0 : Int} {c : List Int} {xs : List (Pl × Pl)} (h : RingOf f x0 c xs) (l : List D.Mach) (h1 : slotsM xs = true) (h2 : sp < 0) : roundR scr sp c l 0 = (l, 43) :=
  roundR_no l 0 ⟨by rw [slotsM_ring h] at h1; simpa using h1, h2⟩
theorem roundP_s {f : Int → Int} {scr sp x0 : Int} {c : List Int} {xs : List (Pl × Pl)} (h : RingOf f x0 c xs) (l : List D.Mach) (h1 : slotsM xs = true) (h2 : ¬ sp < 0) :
    roundR scr sp c l 0 = (l ++ (bringX scr sp (16 + sp) x0).getD [] ++ bringsP scr sp (16 + sp) x0 xs, 0) := by
  have hl : lowM c = false := by rw [slotsM_ring h] at h1; simpa using h1
  rw [← brings_ring h (16 + sp) l (bringX_is (.inr (by omega)))]
  unfold roundR
  rw [if_neg (by rw [hl]; simp), if_neg (by intro h9; exact h2 h9.2), if_neg (by rw [hl]; decide)]
theorem roundP_r {f : Int → Int} {scr sp x0 : Int} {c : List Int} {xs : List (Pl × Pl)} (h : RingOf f x0 c xs) (l : List D.Mach) (h1 : slotsM xs = false) (h2 : ¬ scr < 0) :
    roundR scr sp c l 0 = (l ++ (bringX scr sp scr x0).getD [] ++ bringsP scr sp scr x0 xs, 0) := by
  have hl : lowM c = true := by rw [slotsM_ring h] at h1; simpa using h1
  rw [← brings_ring h scr l (bringX_is (.inl (by omega)))]
  unfold roundR
  rw [if_neg (by intro h9; exact h2 h9.2), if_neg (by rw [hl]; simp), if_pos hl]

-- (*jacquard/moves.layer).round: function 38
set_option maxHeartbeats 2000000 in
theorem pRound_ct {F : PH} {H : Heap} (hin : InH F H) {a9 : Value} {l : List D.Mach} {Bp9 : Nat} (p9 : Gl rMach 39 F H Bp9 a9 l) (scr : Int) (sp : Int) (hl9 : l.length < 100000) (hs : -9223372036854775808 ≤ scr ∧ scr < 16) (hsp : -9223372036854775808 ≤ sp ∧ sp < 16383) {g0 : Nat} (hb0 : Bx H g0 62 [a9, .int .i64 scr, .int .i64 sp, .bool false]) (ng0 : F g0 = none) {c : List Int} {xs : List (Pl × Pl)} {gm : Nat} {ff : Int → Int} (hm : Mf H gm (.int .i64 0) (fun j9 => .int .i64 (ff j9))) (ngm : F gm = none) (x0 : Int) (hx0r : 0 ≤ x0 ∧ x0 < 16400) (hclen : c.length ≤ 1000) (hring : RingOf ff x0 c xs) (hna : NoArgs l) :
    Ct Try.prog 38 #[.pointer (some ⟨g0, 0, none⟩), .map (some gm), .int .i64 x0] H (fun v H' => ∃ (F' : PH) (u0 : Value), v = .tuple #[] ∧ PH.ext H F F' ∧ InH F' H' ∧ Kw (fun j9 => j9 = g0 ∨ a9.ownBlock = some j9) H H' ∧ Bx H' g0 62 [u0, .int .i64 scr, .int .i64 sp, .bool (decide ((roundR scr sp c l 0).2 ≠ 0))] ∧ Gl rMach 39 F' H' 0 u0 ((roundR scr sp c l 0).1) ∧ Lnk H.size a9 u0) := by
  replace p9 := p9.base (Nat.zero_le _)
  have lg0 := hb0.lt
  have hkp := Kw.refl (fun j9 => j9 = g0 ∨ a9.ownBlock = some j9) H
  have hx := PH.ext.refl (H := H) F
  have hxl : xs.length ≤ 1000 := by rw [hring.2.1]; exact hclen
  refine Ct.enterM (args := [.pointer (some ⟨g0, 0, none⟩), .map (some gm), .int .i64 x0]) Try.func38 rfl rfl rfl (fun w0 hw0 => ?_)
  refine CF.seq (CF.region ?_)
  refine LF.chg (OpCh.boxB rfl rfl) ?_
  rintro _ H3 ⟨g3, rfl, eg3, sg3, kg3, hb3⟩
  have ng3 := hin.nope (Nat.le_of_eq eg3.symm)
  have lg3 := hkp.1
  have zkg3 := kg3.1
  replace hin := hin.kp kg3
  replace hkp := hkp.trans (kg3.mono hkp.1)
  replace hb0 := hb0.kp kg3
  replace p9 := p9.kp kg3
  replace hm := hm.kp kg3 hm.lt
  clear kg3
  refine LF.chg (OpCh.boxB rfl rfl) ?_
  rintro _ H5 ⟨g5, rfl, eg5, sg5, kg5, hb5⟩
  have ng5 := hin.nope (Nat.le_of_eq eg5.symm)
  have lg5 := hkp.1
  have zkg5 := kg5.1
  replace hin := hin.kp kg5
  replace hkp := hkp.trans (kg5.mono hkp.1)
  replace hb0 := hb0.kp kg5
  replace hb3 := hb3.kp kg5
  replace p9 := p9.kp kg5
  replace hm := hm.kp kg5 hm.lt
  clear kg5
  refine LF.nil (PF.next (CF.seq (CF.region ?_)))
  refine LF.chg (OpCh.allocB Try.zero4 rfl) ?_
  rintro _ H6 ⟨g6, rfl, eg6, sg6, kg6, hb6⟩
  have ng6 := hin.nope (Nat.le_of_eq eg6.symm)
  have lg6 := hkp.1
  have zkg6 := kg6.1
  replace hin := hin.kp kg6
  replace hkp := hkp.trans (kg6.mono hkp.1)
  replace hb0 := hb0.kp kg6
  replace hb3 := hb3.kp kg6
  replace hb5 := hb5.kp kg6
  replace p9 := p9.kp kg6
  replace hm := hm.kp kg6 hm.lt
  clear kg6
  refine LF.chg0 (OpCh.storeB hb6 Try.sz4 rfl rfl rfl (by first | decide | (simp; done))) ?_
  rintro _ Hw1 ⟨tw1, bw1⟩
  have ztw1 := tw1.1
  replace hin := hin.tw tw1 ng6
  replace hkp := hkp.tw tw1 (.inl (by omega))
  replace hb0 := hb0.tw tw1 (Bx.ne hb0 hb6 (by decide))
  replace hb3 := hb3.tw tw1 (Bx.ne hb3 hb6 (by decide))
  replace hb5 := hb5.tw tw1 (Bx.ne hb5 hb6 (by decide))
  replace p9 := p9.tw tw1 (p9.neBx hb6 (by decide))
  replace hm := hm.of (tw1.2 _ (hm.neBx hb6))
  replace hb6 : Bx _ _ _ [.bool false] := bw1
  clear bw1 tw1
  refine LF.nil (PF.next (CF.seq (CF.seq (CF.region (LF.step (OpOk.move rfl) ?_)))))
  refine LF.step (OpOk.ldBx hb5 Try.one3 rfl rfl) ?_
  refine LF.call (OpCall.fn Try.ent39 rfl rfl) (ring_ct hin x0) ?_
  rintro _ H15 ⟨gx15, gm15, rfl, sgx15, sgm15, k15, hbgx15, hbgm15⟩
  have ngx15 := hin.nope sgx15
  have ngm15 := hin.nope sgm15
  have l15 := hkp.1
  have nb10015_5 : g5 ≠ gx15 := by have := hb5.lt; omega
  have zk15 := k15.1
  replace hin := hin.kp k15
  replace hkp := hkp.trans (k15.mono hkp.1)
  replace hb0 := hb0.kp k15
  replace hb3 := hb3.kp k15
  replace hb5 := hb5.kp k15
  replace hb6 := hb6.kp k15
  replace p9 := p9.kp k15
  replace hm := hm.kp k15 hm.lt
  refine LF.nil (PF.next (CF.block ?_))
  have hinS1 := hin
  have hsS1 := hkp.1
  have wfR1_p9 : ∀ k9, (a9 : Value).ownBlock = some k9 → H.size ≤ k9 ∨ (fun j9 => j9 = g0 ∨ a9.ownBlock = some j9) k9 := fun k9 h9 => (.inr (.inr h9))
  have ltS1_90 := hm.lt
  refine CF.rangeFuncC (ps := [16, 17]) (bl := [gx15, gm15, gm]) (xs := xs) (encs := plEnc) (fun x => [(1, .map (some gm)), (3, .pointer (some ⟨g3, 0, none⟩)), (5, .pointer (some ⟨g5, 0, none⟩)), (6, .pointer (some ⟨g6, 0, none⟩)), (15, .func (.func 63) #[] #[.pointer (some ⟨gx15, 0, none⟩), .pointer (some ⟨gm15, 0, none⟩)]), (7, .int .i64 (plP x))]) (fun pre H1 => True ∧ InH F H1 ∧ Kw (fun j9 => j9 = g0 ∨ a9.ownBlock = some j9) H H1 ∧ Bx H1 g0 62 [a9, .int .i64 scr, .int .i64 sp, .bool false] ∧ Bx H1 g3 60 [.pointer (some ⟨g0, 0, none⟩)] ∧ Bx H1 g5 3 [.int .i64 x0] ∧ Bx H1 g6 4 [.bool (slotsM pre)] ∧ Bx H1 gx15 3 [.int .i64 x0] ∧ Bx H1 gm15 63 [.map (some gm)] ∧ Gl rMach 39 F H1 0 a9 l ∧ Mf H1 gm (.int .i64 0) (fun j9 => .int .i64 (ff j9)) ∧ (∀ k9, (a9 : Value).ownBlock = some k9 → H.size ≤ k9 ∨ (fun j9 => j9 = g0 ∨ a9.ownBlock = some j9) k9)) rfl Try.ent63 (ring_iter hbgx15 hbgm15 hm hring.1 hring.2.1 hring.2.2) (by intro k0 h0; simp only [List.mem_cons, List.not_mem_nil, or_false] at h0; rcases h0 with rfl | rfl | rfl; exact hbgx15.lt; exact hbgm15.lt; exact hm.lt) (fun _ => rfl) rfl ?_ ⟨trivial, hin, hkp, hb0, hb3, hb5, hb6, hbgx15, hbgm15, p9, hm, wfR1_p9⟩ ?_ ?_ ?_
  · rintro pre H1 H2 ⟨hT, hin, hkp, hb0, hb3, hb5, hb6, hbgx15, hbgm15, p9, hm, wfR1_p9⟩ c9; exact ⟨hT, hin.cg hinS1 c9, hkp.cg hsS1 c9, hb0.cg c9, hb3.cg c9, hb5.cg c9, hb6.cg c9, hbgx15.cg c9, hbgm15.cg c9, p9.cg c9, hm.cg ltS1_90 c9, wfR1_p9⟩
  · intro lx x Hx
    refine RCF.region ?_
    refine LF.step (OpOk.assign rfl) ?_
    refine RLF.nil ?_
    exact PF.assigned ⟨rfl, rfl, rfl, rfl, rfl, rfl, trivial⟩
  · rintro lx pre x Hs ⟨hT, hin, hkp, hb0, hb3, hb5, hb6, hbgx15, hbgm15, p9, hm, wfR1_p9⟩ hlt1 hsz1
    have hpx := plP_rng x
    have sb10015 := hbgx15
    have sb20015 := hbgm15
    have tk90 : Hs[gm]? = Hs[gm]? := rfl
    have hnc := Nc.start hsz1
    refine RCF.block ?_
    refine RCF.region ?_
    refine LF.step (OpOk.ldBx hb6 Try.one4 rfl rfl) ?_
    refine LF.step (OpOk.move rfl) ?_
    refine LF.gstep rfl rfl (.f _) (fun hg => OpOk.move rfl) ?_
    refine LF.gstep rfl rfl (.f _) (fun hg => OpOk.geq (evg rfl hg) rfl) ?_
    refine LF.step (OpOk.pickOr rfl rfl) ?_
    refine LF.chg0 (OpCh.storeB hb6 Try.sz4 rfl rfl rfl (by first | decide | (simp; done))) ?_
    rintro _ Hw2 ⟨tw2, bw2⟩
    have ztw2 := tw2.1
    replace hnc := hnc.tw tw2 hb6
    replace hin := hin.tw tw2 ng6
    replace hkp := hkp.tw tw2 (.inl (by omega))
    replace hb0 := hb0.tw tw2 (Bx.ne hb0 hb6 (by decide))
    replace hb3 := hb3.tw tw2 (Bx.ne hb3 hb6 (by decide))
    replace hb5 := hb5.tw tw2 (Bx.ne hb5 hb6 (by decide))
    replace hbgx15 := hbgx15.tw tw2 (Bx.ne hbgx15 hb6 (by decide))
    replace hbgm15 := hbgm15.tw tw2 (Bx.ne hbgm15 hb6 (by decide))
    replace p9 := p9.tw tw2 (p9.neBx hb6 (by decide))
    replace tk90 := (tw2.2 _ (hm.neBx hb6)).trans tk90
    replace hm := hm.of (tw2.2 _ (hm.neBx hb6))
    replace hb6 : Bx _ _ _ [.bool ((slotsM pre) || (decide (16 ≤ plP x)))] := bw2
    clear bw2 tw2
    refine RLF.nil ?_
    refine PF.blockNormal ?_
    rw [← slotsM_snoc] at hb6
    exact PF.roundC (by omega) hnc (keep3 hbgx15 sb10015 hbgm15 sb20015 tk90) ⟨trivial, hin, hkp, hb0, hb3, hb5, hb6, hbgx15, hbgm15, p9, hm, wfR1_p9⟩
  · rintro D1 HD1 ⟨hT, hin, hkp, hb0, hb3, hb5, hb6, hbgx15, hbgm15, p9, hm, wfR1_p9⟩ hD1 hsz1 hmk1
    have nD1 := hinS1.nope hD1
    refine PF.blockNormal ?_
    refine PF.next ?_
    refine CF.seq ?_
    refine CF.region ?_
    refine LF.step (OpOk.ldBx hb3 Try.one60 rfl rfl) ?_
    refine LF.step (OpOk.nilCheck rfl) ?_
    refine LF.step (OpOk.fieldAddr (Try.fld62_1) rfl) ?_
    refine LF.step (OpOk.ldBx hb0 Try.one3 rfl rfl) ?_
    refine LF.chg (OpCh.allocB Try.zero3 rfl) ?_
    rintro _ H8 ⟨g8, rfl, eg8, sg8, kg8, hb8⟩
    have ng8 := hin.nope (Nat.le_of_eq eg8.symm)
    have lg8 := hkp.1
    have nb8_5 : g5 ≠ g8 := by have := hb5.lt; omega
    have nb8_10015 : gx15 ≠ g8 := by have := hbgx15.lt; omega
    have zkg8 := kg8.1
    replace hin := hin.kp kg8
    replace hkp := hkp.trans (kg8.mono hkp.1)
    replace hb0 := hb0.kp kg8
    replace hb3 := hb3.kp kg8
    replace hb5 := hb5.kp kg8
    replace hb6 := hb6.kp kg8
    replace hbgx15 := hbgx15.kp kg8
    replace hbgm15 := hbgm15.kp kg8
    replace p9 := p9.kp kg8
    replace hm := hm.kp kg8 hm.lt
    replace hmk1 := hmk1.kp kg8 hmk1.lt
    clear kg8
    refine LF.chg0 (OpCh.storeB hb8 Try.sz3 rfl rfl rfl (by first | decide | (simp; done))) ?_
    rintro _ Hw3 ⟨tw3, bw3⟩
    have ztw3 := tw3.1
    replace hin := hin.tw tw3 ng8
    replace hkp := hkp.tw tw3 (.inl (by omega))
    replace hb0 := hb0.tw tw3 (Bx.ne hb0 hb8 (by decide))
    replace hb3 := hb3.tw tw3 (Bx.ne hb3 hb8 (by decide))
    replace hb5 := hb5.tw tw3 (by first | omega | assumption | exact Ne.symm (by assumption))
    replace hb6 := hb6.tw tw3 (Bx.ne hb6 hb8 (by decide))
    replace hbgx15 := hbgx15.tw tw3 (by first | omega | assumption | exact Ne.symm (by assumption))
    replace hbgm15 := hbgm15.tw tw3 (Bx.ne hbgm15 hb8 (by decide))
    replace p9 := p9.tw tw3 (p9.neBx hb8 (by decide))
    replace hm := hm.of (tw3.2 _ (hm.neBx hb8))
    replace hmk1 := hmk1.of (tw3.2 _ (hmk1.neBx hb8))
    replace hb8 : Bx _ _ _ [.int .i64 scr] := bw3
    clear bw3 tw3
    refine LF.nil ?_
    refine PF.next ?_
    refine CF.seq ?_
    refine CF.block ?_
    refine CF.seq ?_
    refine CF.region ?_
    refine LF.step (OpOk.ldBx hb6 Try.one4 rfl rfl) ?_
    refine LF.step (OpOk.move rfl) ?_
    refine LF.gstep rfl rfl (.t _) (fun hg => OpOk.ldBx hb3 Try.one60 rfl rfl) ?_
    refine LF.gstep rfl rfl (.t _) (fun hg => OpOk.nilCheck (evg rfl hg)) ?_
    refine LF.gstep rfl rfl (.t _) (fun hg => OpOk.fieldAddr (Try.fld62_2) (evg rfl hg)) ?_
    refine LF.gstep rfl rfl (.t _) (fun hg => OpOk.ldBx hb0 Try.one3 (evg rfl hg) rfl) ?_
    refine LF.gstep rfl rfl (.t _) (fun hg => OpOk.lss (evg rfl hg) rfl) ?_
    refine LF.step (OpOk.pickAnd rfl rfl) ?_
    refine LF.step (OpOk.assign rfl) ?_
    refine LF.nil ?_
    refine PF.next ?_
    refine CF.if rfl (fun hc1 => ?_) (fun hc1 => ?_)
    refine CF.seq ?_
    refine CF.region ?_
    refine LF.step (OpOk.ldBx hb3 Try.one60 rfl rfl) ?_
    refine LF.step (OpOk.nilCheck rfl) ?_
    refine LF.step (OpOk.fieldAddr (Try.fld62_3) rfl) ?_
    refine LF.chg0 (OpCh.storeB hb0 Try.sz4 rfl rfl rfl (by first | decide | (simp; done))) ?_
    rintro _ Hw4 ⟨tw4, bw4⟩
    have ztw4 := tw4.1
    replace hin := hin.tw tw4 ng0
    replace hkp := hkp.tw tw4 (.inr (.inl rfl))
    replace hb3 := hb3.tw tw4 (Bx.ne hb3 hb0 (by decide))
    replace hb5 := hb5.tw tw4 (Bx.ne hb5 hb0 (by decide))
    replace hb6 := hb6.tw tw4 (Bx.ne hb6 hb0 (by decide))
    replace hbgx15 := hbgx15.tw tw4 (Bx.ne hbgx15 hb0 (by decide))
    replace hbgm15 := hbgm15.tw tw4 (Bx.ne hbgm15 hb0 (by decide))
    replace hb8 := hb8.tw tw4 (Bx.ne hb8 hb0 (by decide))
    replace p9 := p9.tw tw4 (p9.neBx hb0 (by decide))
    replace hm := hm.of (tw4.2 _ (hm.neBx hb0))
    replace hmk1 := hmk1.of (tw4.2 _ (hmk1.neBx hb0))
    replace hb0 : Bx _ _ _ [a9, .int .i64 scr, .int .i64 sp, .bool true] := bw4
    clear bw4 tw4
    refine LF.nil ?_
    refine PF.next ?_
    refine CF.ret ?_
    refine PF.blockRet ?_
    refine PF.thenRet ?_
    have hm0 : ((roundR scr sp c l 0).1) = l := by
      first | (rw [roundP_no hring l hc1.1 hc1.2] <;> first | rfl | decide) | (rw [roundP_s hring l hc2 hsp0] <;> first | rfl | decide) | (rw [roundP_sw hring l hc2 hc4] <;> first | rfl | decide) | (rw [roundP_r hring l hc2 hc4] <;> first | rfl | decide)
    have hm3 : (decide ((roundR scr sp c l 0).2 ≠ 0)) = true := by
      first | (rw [roundP_no hring l hc1.1 hc1.2] <;> first | rfl | decide) | (rw [roundP_s hring l hc2 hsp0] <;> first | rfl | decide) | (rw [roundP_sw hring l hc2 hc4] <;> first | rfl | decide) | (rw [roundP_r hring l hc2 hc4] <;> first | rfl | decide)
    have hMk := (show ∀ D ∈ ([D1] : List Nat), Mk _ D from (all_cons hmk1 all_nil))
    exact PF.ret0Ms (Ds := [D1]) rfl (by simp) hMk ⟨_, a9, rfl, hx, (hin.putos (all_cons nD1 all_nil)), (hkp.putos (all_cons (by omega) all_nil)), by rw [hm3]; exact (hb0.putos hMk), by rw [hm0]; exact ((p9.base (Nat.zero_le _)).putos hMk), lnk_of (fun k9 h9 => (wfR1_p9 _ h9)) (p9.neBx hb0 (by decide))⟩
    refine CF.seq ?_
    refine CF.region ?_
    refine LF.step (OpOk.ldBx hb6 Try.one4 rfl rfl) ?_
    refine LF.step (OpOk.assign rfl) ?_
    refine LF.nil ?_
    refine PF.next ?_
    refine CF.if rfl (fun hc2 => ?_) (fun hc2 => ?_)
    have hsp0 : ¬ sp < 0 := hc1.elim (fun h8 => by rw [hc2] at h8; cases h8) id
    refine CF.region ?_
    refine LF.step (OpOk.ldBx hb3 Try.one60 rfl rfl) ?_
    refine LF.step (OpOk.nilCheck rfl) ?_
    refine LF.step (OpOk.fieldAddr (Try.fld62_2) rfl) ?_
    refine LF.step (OpOk.ldBx hb0 Try.one3 rfl rfl) ?_
    refine LF.step (OpOk.add rfl rfl (by omega)) ?_
    refine LF.chg0 (OpCh.storeB hb8 Try.sz3 rfl rfl rfl (by first | decide | (simp; done))) ?_
    rintro _ Hw5 ⟨tw5, bw5⟩
    have ztw5 := tw5.1
    replace hin := hin.tw tw5 ng8
    replace hkp := hkp.tw tw5 (.inl (by omega))
    replace hb0 := hb0.tw tw5 (Bx.ne hb0 hb8 (by decide))
    replace hb3 := hb3.tw tw5 (Bx.ne hb3 hb8 (by decide))
    replace hb5 := hb5.tw tw5 (by first | omega | assumption | exact Ne.symm (by assumption))
    replace hb6 := hb6.tw tw5 (Bx.ne hb6 hb8 (by decide))
    replace hbgx15 := hbgx15.tw tw5 (by first | omega | assumption | exact Ne.symm (by assumption))
    replace hbgm15 := hbgm15.tw tw5 (Bx.ne hbgm15 hb8 (by decide))
    replace p9 := p9.tw tw5 (p9.neBx hb8 (by decide))
    replace hm := hm.of (tw5.2 _ (hm.neBx hb8))
    replace hmk1 := hmk1.of (tw5.2 _ (hmk1.neBx hb8))
    replace hb8 : Bx _ _ _ [.int .i64 (16 + sp)] := bw5
    clear bw5 tw5
    refine LF.nil ?_
    refine PF.blockNormal ?_
    refine PF.next ?_
    refine CF.seq ?_
    refine CF.region ?_
    refine LF.step (OpOk.ldBx hb3 Try.one60 rfl rfl) ?_
    refine LF.step (OpOk.ldBx hb8 Try.one3 rfl rfl) ?_
    refine LF.step (OpOk.ldBx hb5 Try.one3 rfl rfl) ?_
    refine LF.call (OpCall.fn Try.ent37 rfl rfl) (pBringF_ct hin p9 scr sp false (by first | omega | assumption | (simp only [List.length_cons, List.length_nil]; omega) | exact fun m hm => by simp at hm; subst hm; rfl) (by first | omega | assumption | (simp only [List.length_cons, List.length_nil]; omega) | exact fun m hm => by simp at hm; subst hm; rfl) (by first | omega | assumption | (simp only [List.length_cons, List.length_nil]; omega) | exact fun m hm => by simp at hm; subst hm; rfl) (by first | omega | assumption | (simp only [List.length_cons, List.length_nil]; omega) | exact fun m hm => by simp at hm; subst hm; rfl) hb0 ng0 (16 + sp) x0 (by first | omega | assumption | (simp only [List.length_cons, List.length_nil]; omega) | exact fun m hm => by simp at hm; subst hm; rfl) (by first | omega | assumption | (simp only [List.length_cons, List.length_nil]; omega) | exact fun m hm => by simp at hm; subst hm; rfl)) ?_
    rintro _ H66 ⟨u66_0, rfl, i66, k66, b66, x66_0, lk66_0⟩
    have zk66 := k66.1
    have l66 := hkp.1
    have wf66_0 := Lnk.ge (W := (fun j9 => j9 = g0 ∨ a9.ownBlock = some j9)) lk66_0 (fun k0 hk0 => (wfR1_p9 _ hk0)) hkp.1
    replace hkp := hkp.kw k66 (by intro k0 hl; rintro (rfl | hk0); exact (.inl rfl); exact (wfR1_p9 _ hk0).resolve_left (by omega))
    replace hm := hm.of (k66.2 _ hm.lt (by rintro (h9 | h9); exact hm.neBx hb0 h9; exact hm.neGl p9 h9))
    replace hmk1 := hmk1.of (k66.2 _ hmk1.lt (by rintro (h9 | h9); exact hmk1.neBx hb0 h9; exact hmk1.neGl p9 h9))
    replace hb3 := hb3.kw k66 (by rintro (h9 | h9); exact (Bx.ne hb3 hb0 (by decide)) h9; exact (p9.neBx hb3 (by decide)) h9)
    replace hb5 := hb5.kw k66 (by rintro (h9 | h9); exact (Bx.ne hb5 hb0 (by decide)) h9; exact (p9.neBx hb5 (by decide)) h9)
    replace hb6 := hb6.kw k66 (by rintro (h9 | h9); exact (Bx.ne hb6 hb0 (by decide)) h9; exact (p9.neBx hb6 (by decide)) h9)
    replace hbgx15 := hbgx15.kw k66 (by rintro (h9 | h9); exact (Bx.ne hbgx15 hb0 (by decide)) h9; exact (p9.neBx hbgx15 (by decide)) h9)
    replace hbgm15 := hbgm15.kw k66 (by rintro (h9 | h9); exact (Bx.ne hbgm15 hb0 (by decide)) h9; exact (p9.neBx hbgm15 (by decide)) h9)
    replace hb8 := hb8.kw k66 (by rintro (h9 | h9); exact (Bx.ne hb8 hb0 (by decide)) h9; exact (p9.neBx hb8 (by decide)) h9)
    replace hin := i66
    clear i66
    replace hb0 := b66
    clear b66
    refine LF.nil ?_
    refine PF.next ?_
    refine CF.seq ?_
    refine CF.region ?_
    refine LF.step (OpOk.move rfl) ?_
    refine LF.step (OpOk.ldBx hb5 Try.one3 rfl rfl) ?_
    refine LF.call (OpCall.fn Try.ent39 rfl rfl) (ring_ct hin x0) ?_
    rintro _ H69 ⟨gx69, gm69, rfl, sgx69, sgm69, k69, hbgx69, hbgm69⟩
    have ngx69 := hin.nope sgx69
    have ngm69 := hin.nope sgm69
    have l69 := hkp.1
    have nb10069_5 : g5 ≠ gx69 := by have := hb5.lt; omega
    have nb10069_10015 : gx15 ≠ gx69 := by have := hbgx15.lt; omega
    have nb20069_20015 : gm15 ≠ gm69 := by have := hbgm15.lt; omega
    have nb10069_8 : g8 ≠ gx69 := by have := hb8.lt; omega
    have zk69 := k69.1
    replace hin := hin.kp k69
    replace hkp := hkp.trans (k69.mono hkp.1)
    replace hb0 := hb0.kp k69
    replace hb3 := hb3.kp k69
    replace hb5 := hb5.kp k69
    replace hb6 := hb6.kp k69
    replace hbgx15 := hbgx15.kp k69
    replace hbgm15 := hbgm15.kp k69
    replace hb8 := hb8.kp k69
    replace x66_0 := x66_0.kp k69
    replace hm := hm.kp k69 hm.lt
    replace hmk1 := hmk1.kp k69 hmk1.lt
    refine LF.nil ?_
    refine PF.next ?_
    refine CF.block ?_
    have hall := bringX_is (scr := scr) (sp := sp) (.inr (by omega))
    rw [show (false || (bringX scr sp (16 + sp) x0).isNone) = false from by rw [hall]; rfl] at hb0
    rw [show (l ++ (bringX scr sp (16 + sp) x0).getD []) = (l ++ (bringX scr sp (16 + sp) x0).getD []) ++ bringsP scr sp (16 + sp) x0 [] from (List.append_nil _).symm] at x66_0
    have hinS2 := hin
    have hsS2 := hkp.1
    have wfR2_20006 : ∀ k9, (u66_0 : Value).ownBlock = some k9 → H.size ≤ k9 ∨ (fun j9 => j9 = g0 ∨ a9.ownBlock = some j9) k9 := fun k9 h9 => (wf66_0 _ h9)
    have ltS2_90 := hm.lt
    have ltS2_901 := hmk1.lt
    refine CF.rangeFuncC (ps := [70, 71]) (bl := [gx69, gm69, gm]) (xs := xs) (encs := plEnc) (fun x => [(3, .pointer (some ⟨g3, 0, none⟩)), (5, .pointer (some ⟨g5, 0, none⟩)), (8, .pointer (some ⟨g8, 0, none⟩)), (69, .func (.func 63) #[] #[.pointer (some ⟨gx69, 0, none⟩), .pointer (some ⟨gm69, 0, none⟩)]), (11, .int .i64 (plP x)), (12, .int .i64 (plQ x))]) (fun pre H1 => ∃ (vo : Value), True ∧ InH F H1 ∧ Kw (fun j9 => j9 = g0 ∨ a9.ownBlock = some j9) H H1 ∧ Bx H1 g0 62 [vo, .int .i64 scr, .int .i64 sp, .bool false] ∧ Bx H1 g3 60 [.pointer (some ⟨g0, 0, none⟩)] ∧ Bx H1 g5 3 [.int .i64 x0] ∧ Bx H1 g6 4 [.bool (slotsM xs)] ∧ Bx H1 gx15 3 [.int .i64 x0] ∧ Bx H1 gm15 63 [.map (some gm)] ∧ Bx H1 g8 3 [.int .i64 (16 + sp)] ∧ Bx H1 gx69 3 [.int .i64 x0] ∧ Bx H1 gm69 63 [.map (some gm)] ∧ Gl rMach 39 F H1 0 vo ((l ++ (bringX scr sp (16 + sp) x0).getD []) ++ bringsP scr sp (16 + sp) x0 pre) ∧ Mf H1 gm (.int .i64 0) (fun j9 => .int .i64 (ff j9)) ∧ Mk H1 D1 ∧ (∀ k9, (vo : Value).ownBlock = some k9 → H.size ≤ k9 ∨ (fun j9 => j9 = g0 ∨ a9.ownBlock = some j9) k9)) rfl Try.ent63 (ring_iter hbgx69 hbgm69 hm hring.1 hring.2.1 hring.2.2) (by intro k0 h0; simp only [List.mem_cons, List.not_mem_nil, or_false] at h0; rcases h0 with rfl | rfl | rfl; exact hbgx69.lt; exact hbgm69.lt; exact hm.lt) (fun _ => rfl) rfl ?_ ⟨u66_0, trivial, hin, hkp, hb0, hb3, hb5, hb6, hbgx15, hbgm15, hb8, hbgx69, hbgm69, x66_0, hm, hmk1, wfR2_20006⟩ ?_ ?_ ?_
    · rintro pre H1 H2 ⟨vo, hT, hin, hkp, hb0, hb3, hb5, hb6, hbgx15, hbgm15, hb8, hbgx69, hbgm69, x66_0, hm, hmk1, wfR2_20006⟩ c9; exact ⟨vo, hT, hin.cg hinS2 c9, hkp.cg hsS2 c9, hb0.cg c9, hb3.cg c9, hb5.cg c9, hb6.cg c9, hbgx15.cg c9, hbgm15.cg c9, hb8.cg c9, hbgx69.cg c9, hbgm69.cg c9, x66_0.cg c9, hm.cg ltS2_90 c9, hmk1.cg ltS2_901 c9, wfR2_20006⟩
    · intro lx x Hx
      refine RCF.seq ?_
      refine RCF.region ?_
      refine LF.step (OpOk.assign rfl) ?_
      refine RLF.nil ?_
      refine RPF.next ?_
      refine RCF.region ?_
      refine LF.step (OpOk.assign rfl) ?_
      refine RLF.nil ?_
      exact PF.assigned ⟨rfl, rfl, rfl, rfl, rfl, rfl, trivial⟩
    · rintro lx pre x Hs ⟨vo, hT, hin, hkp, hb0, hb3, hb5, hb6, hbgx15, hbgm15, hb8, hbgx69, hbgm69, x66_0, hm, hmk1, wfR2_20006⟩ hlt2 hsz2
      have hpx := plP_rng x
      have hqx := plQ_rng x
      have hbl := bringsP_len scr sp (16 + sp) x0 pre
      have hlen9 : ((l ++ (bringX scr sp (16 + sp) x0).getD []) ++ bringsP scr sp (16 + sp) x0 pre).length < 1000000 := by have := bringLen scr sp (16 + sp) x0; simp only [List.length_append] at *; omega
      have hna9 : NoArgs ((l ++ (bringX scr sp (16 + sp) x0).getD []) ++ bringsP scr sp (16 + sp) x0 pre) := (hna.app (NoArgs.bringX _ _ _ _)).app (bringsP_args _ _ _ _ _)
      have sb10069 := hbgx69
      have sb20069 := hbgm69
      have tk90 : Hs[gm]? = Hs[gm]? := rfl
      have hnc := Nc.start hsz2
      refine RCF.block ?_
      refine RCF.seq ?_
      refine RCF.seq ?_
      refine RCF.region ?_
      refine LF.step (OpOk.move rfl) ?_
      refine LF.step (OpOk.ldBx hb5 Try.one3 rfl rfl) ?_
      refine LF.step (OpOk.eql rfl rfl) ?_
      refine RLF.nil ?_
      refine RPF.next ?_
      refine RCF.if rfl (fun hc3 => ?_) (fun hc3 => ?_)
      refine RCF.region ?_
      refine LF.step (OpOk.ldBx hb8 Try.one3 rfl rfl) ?_
      refine LF.step (OpOk.assign rfl) ?_
      refine RLF.nil ?_
      refine RPF.next ?_
      refine RCF.region ?_
      refine LF.step (OpOk.ldBx hb3 Try.one60 rfl rfl) ?_
      refine LF.step (OpOk.move rfl) ?_
      refine LF.step (OpOk.move rfl) ?_
      refine LF.call (OpCall.fn Try.ent37 rfl rfl) (pBringF_ct hin x66_0 scr sp false (by first | omega | assumption | (simp only [List.length_cons, List.length_nil]; omega) | exact fun m hm => by simp at hm; subst hm; rfl) (by first | omega | assumption | (simp only [List.length_cons, List.length_nil]; omega) | exact fun m hm => by simp at hm; subst hm; rfl) (by first | omega | assumption | (simp only [List.length_cons, List.length_nil]; omega) | exact fun m hm => by simp at hm; subst hm; rfl) (by first | omega | assumption | (simp only [List.length_cons, List.length_nil]; omega) | exact fun m hm => by simp at hm; subst hm; rfl) hb0 ng0 (plP x) (16 + sp) (by first | omega | assumption | (simp only [List.length_cons, List.length_nil]; omega) | exact fun m hm => by simp at hm; subst hm; rfl) (by first | omega | assumption | (simp only [List.length_cons, List.length_nil]; omega) | exact fun m hm => by simp at hm; subst hm; rfl)) ?_
      rintro _ H79 ⟨u79_0, rfl, i79, k79, b79, x79_0, lk79_0⟩
      have zk79 := k79.1
      have l79 := hkp.1
      replace hnc := hnc.kw k79 (by intro k0 o0 _ h8; rintro (rfl | h9); exact hb0.isc h8; exact x66_0.isc h9 h8)
      have wf79_0 := Lnk.ge (W := (fun j9 => j9 = g0 ∨ a9.ownBlock = some j9)) lk79_0 (fun k0 hk0 => (wfR2_20006 _ hk0)) hkp.1
      replace hkp := hkp.kw k79 (by intro k0 hl; rintro (rfl | hk0); exact (.inl rfl); exact (wfR2_20006 _ hk0).resolve_left (by omega))
      replace tk90 := (k79.2 _ hm.lt (by rintro (h9 | h9); exact hm.neBx hb0 h9; exact hm.neGl x66_0 h9)).trans tk90
      replace hm := hm.of (k79.2 _ hm.lt (by rintro (h9 | h9); exact hm.neBx hb0 h9; exact hm.neGl x66_0 h9))
      replace hmk1 := hmk1.of (k79.2 _ hmk1.lt (by rintro (h9 | h9); exact hmk1.neBx hb0 h9; exact hmk1.neGl x66_0 h9))
      replace hb3 := hb3.kw k79 (by rintro (h9 | h9); exact (Bx.ne hb3 hb0 (by decide)) h9; exact (x66_0.neBx hb3 (by decide)) h9)
      replace hb5 := hb5.kw k79 (by rintro (h9 | h9); exact (Bx.ne hb5 hb0 (by decide)) h9; exact (x66_0.neBx hb5 (by decide)) h9)
      replace hb6 := hb6.kw k79 (by rintro (h9 | h9); exact (Bx.ne hb6 hb0 (by decide)) h9; exact (x66_0.neBx hb6 (by decide)) h9)
      replace hbgx15 := hbgx15.kw k79 (by rintro (h9 | h9); exact (Bx.ne hbgx15 hb0 (by decide)) h9; exact (x66_0.neBx hbgx15 (by decide)) h9)
      replace hbgm15 := hbgm15.kw k79 (by rintro (h9 | h9); exact (Bx.ne hbgm15 hb0 (by decide)) h9; exact (x66_0.neBx hbgm15 (by decide)) h9)
      replace hb8 := hb8.kw k79 (by rintro (h9 | h9); exact (Bx.ne hb8 hb0 (by decide)) h9; exact (x66_0.neBx hb8 (by decide)) h9)
      replace hbgx69 := hbgx69.kw k79 (by rintro (h9 | h9); exact (Bx.ne hbgx69 hb0 (by decide)) h9; exact (x66_0.neBx hbgx69 (by decide)) h9)
      replace hbgm69 := hbgm69.kw k79 (by rintro (h9 | h9); exact (Bx.ne hbgm69 hb0 (by decide)) h9; exact (x66_0.neBx hbgm69 (by decide)) h9)
      replace hin := i79
      clear i79
      replace hb0 := b79
      clear b79
      refine RLF.nil ?_
      refine PF.blockNormal ?_
      rw [show (((l ++ (bringX scr sp (16 + sp) x0).getD []) ++ bringsP scr sp (16 + sp) x0 pre) ++ (bringX scr sp (plP x) (16 + sp)).getD []) = ((l ++ (bringX scr sp (16 + sp) x0).getD []) ++ bringsP scr sp (16 + sp) x0 (pre ++ [x])) from by rw [bringsP_snoc, List.append_assoc]; unfold toP; rw [if_pos hc3]] at x79_0
      rw [show (false || (bringX scr sp (plP x) (16 + sp)).isNone) = false from by rw [hall]; rfl] at hb0
      exact PF.roundC (by omega) hnc (keep3 hbgx69 sb10069 hbgm69 sb20069 tk90) ⟨u79_0, trivial, hin, hkp, hb0, hb3, hb5, hb6, hbgx15, hbgm15, hb8, hbgx69, hbgm69, x79_0, hm, hmk1, wf79_0⟩
      refine RCF.skip ?_
      refine RPF.next ?_
      refine RCF.region ?_
      refine LF.step (OpOk.ldBx hb3 Try.one60 rfl rfl) ?_
      refine LF.step (OpOk.move rfl) ?_
      refine LF.step (OpOk.move rfl) ?_
      refine LF.call (OpCall.fn Try.ent37 rfl rfl) (pBringF_ct hin x66_0 scr sp false (by first | omega | assumption | (simp only [List.length_cons, List.length_nil]; omega) | exact fun m hm => by simp at hm; subst hm; rfl) (by first | omega | assumption | (simp only [List.length_cons, List.length_nil]; omega) | exact fun m hm => by simp at hm; subst hm; rfl) (by first | omega | assumption | (simp only [List.length_cons, List.length_nil]; omega) | exact fun m hm => by simp at hm; subst hm; rfl) (by first | omega | assumption | (simp only [List.length_cons, List.length_nil]; omega) | exact fun m hm => by simp at hm; subst hm; rfl) hb0 ng0 (plP x) (plQ x) (by first | omega | assumption | (simp only [List.length_cons, List.length_nil]; omega) | exact fun m hm => by simp at hm; subst hm; rfl) (by first | omega | assumption | (simp only [List.length_cons, List.length_nil]; omega) | exact fun m hm => by simp at hm; subst hm; rfl)) ?_
      rintro _ H79 ⟨u79_0, rfl, i79, k79, b79, x79_0, lk79_0⟩
      have zk79 := k79.1
      have l79 := hkp.1
      replace hnc := hnc.kw k79 (by intro k0 o0 _ h8; rintro (rfl | h9); exact hb0.isc h8; exact x66_0.isc h9 h8)
      have wf79_0 := Lnk.ge (W := (fun j9 => j9 = g0 ∨ a9.ownBlock = some j9)) lk79_0 (fun k0 hk0 => (wfR2_20006 _ hk0)) hkp.1
      replace hkp := hkp.kw k79 (by intro k0 hl; rintro (rfl | hk0); exact (.inl rfl); exact (wfR2_20006 _ hk0).resolve_left (by omega))
      replace tk90 := (k79.2 _ hm.lt (by rintro (h9 | h9); exact hm.neBx hb0 h9; exact hm.neGl x66_0 h9)).trans tk90
      replace hm := hm.of (k79.2 _ hm.lt (by rintro (h9 | h9); exact hm.neBx hb0 h9; exact hm.neGl x66_0 h9))
      replace hmk1 := hmk1.of (k79.2 _ hmk1.lt (by rintro (h9 | h9); exact hmk1.neBx hb0 h9; exact hmk1.neGl x66_0 h9))
      replace hb3 := hb3.kw k79 (by rintro (h9 | h9); exact (Bx.ne hb3 hb0 (by decide)) h9; exact (x66_0.neBx hb3 (by decide)) h9)
      replace hb5 := hb5.kw k79 (by rintro (h9 | h9); exact (Bx.ne hb5 hb0 (by decide)) h9; exact (x66_0.neBx hb5 (by decide)) h9)
      replace hb6 := hb6.kw k79 (by rintro (h9 | h9); exact (Bx.ne hb6 hb0 (by decide)) h9; exact (x66_0.neBx hb6 (by decide)) h9)
      replace hbgx15 := hbgx15.kw k79 (by rintro (h9 | h9); exact (Bx.ne hbgx15 hb0 (by decide)) h9; exact (x66_0.neBx hbgx15 (by decide)) h9)
      replace hbgm15 := hbgm15.kw k79 (by rintro (h9 | h9); exact (Bx.ne hbgm15 hb0 (by decide)) h9; exact (x66_0.neBx hbgm15 (by decide)) h9)
      replace hb8 := hb8.kw k79 (by rintro (h9 | h9); exact (Bx.ne hb8 hb0 (by decide)) h9; exact (x66_0.neBx hb8 (by decide)) h9)
      replace hbgx69 := hbgx69.kw k79 (by rintro (h9 | h9); exact (Bx.ne hbgx69 hb0 (by decide)) h9; exact (x66_0.neBx hbgx69 (by decide)) h9)
      replace hbgm69 := hbgm69.kw k79 (by rintro (h9 | h9); exact (Bx.ne hbgm69 hb0 (by decide)) h9; exact (x66_0.neBx hbgm69 (by decide)) h9)
      replace hin := i79
      clear i79
      replace hb0 := b79
      clear b79
      refine RLF.nil ?_
      refine PF.blockNormal ?_
      rw [show (((l ++ (bringX scr sp (16 + sp) x0).getD []) ++ bringsP scr sp (16 + sp) x0 pre) ++ (bringX scr sp (plP x) (plQ x)).getD []) = ((l ++ (bringX scr sp (16 + sp) x0).getD []) ++ bringsP scr sp (16 + sp) x0 (pre ++ [x])) from by rw [bringsP_snoc, List.append_assoc]; unfold toP; rw [if_neg hc3]] at x79_0
      rw [show (false || (bringX scr sp (plP x) (plQ x)).isNone) = false from by rw [hall]; rfl] at hb0
      exact PF.roundC (by omega) hnc (keep3 hbgx69 sb10069 hbgm69 sb20069 tk90) ⟨u79_0, trivial, hin, hkp, hb0, hb3, hb5, hb6, hbgx15, hbgm15, hb8, hbgx69, hbgm69, x79_0, hm, hmk1, wf79_0⟩
    · rintro D2 HD2 ⟨vo, hT, hin, hkp, hb0, hb3, hb5, hb6, hbgx15, hbgm15, hb8, hbgx69, hbgm69, x66_0, hm, hmk1, wfR2_20006⟩ hD2 hsz2 hmk2
      have nD2 := hinS2.nope hD2
      refine PF.blockNormal ?_
      have hm0 : ((roundR scr sp c l 0).1) = ((l ++ (bringX scr sp (16 + sp) x0).getD []) ++ bringsP scr sp (16 + sp) x0 xs) := by
        first | (rw [roundP_no hring l hc1.1 hc1.2] <;> first | rfl | decide) | (rw [roundP_s hring l hc2 hsp0] <;> first | rfl | decide) | (rw [roundP_sw hring l hc2 hc4] <;> first | rfl | decide) | (rw [roundP_r hring l hc2 hc4] <;> first | rfl | decide)
      have hm3 : (decide ((roundR scr sp c l 0).2 ≠ 0)) = false := by
        first | (rw [roundP_no hring l hc1.1 hc1.2] <;> first | rfl | decide) | (rw [roundP_s hring l hc2 hsp0] <;> first | rfl | decide) | (rw [roundP_sw hring l hc2 hc4] <;> first | rfl | decide) | (rw [roundP_r hring l hc2 hc4] <;> first | rfl | decide)
      have hMk := (show ∀ D ∈ ([D2, D1] : List Nat), Mk _ D from (all_cons hmk2 (all_cons hmk1 all_nil)))
      exact PF.end0Ms (Ds := [D2, D1]) rfl (by simp; omega) hMk ⟨_, vo, rfl, hx, (hin.putos (all_cons nD2 (all_cons nD1 all_nil))), (hkp.putos (all_cons (by omega) (all_cons (by omega) all_nil))), by rw [hm3]; exact (hb0.putos hMk), by rw [hm0]; exact ((x66_0.base (Nat.zero_le _)).putos hMk), lnk_of (fun k9 h9 => (wfR2_20006 _ h9)) (x66_0.neBx hb0 (by decide))⟩
    refine CF.seq ?_
    refine CF.region ?_
    refine LF.step (OpOk.ldBx hb8 Try.one3 rfl rfl) ?_
    refine LF.step (OpOk.lss rfl rfl) ?_
    refine LF.step (OpOk.assign rfl) ?_
    refine LF.nil ?_
    refine PF.next ?_
    refine CF.if rfl (fun hc4 => ?_) (fun hc4 => ?_)
    refine CF.seq ?_
    refine CF.seq ?_
    refine CF.region ?_
    refine LF.step (OpOk.move rfl) ?_
    refine LF.step (OpOk.ldBx hb5 Try.one3 rfl rfl) ?_
    refine LF.call (OpCall.fn Try.ent39 rfl rfl) (ring_ct hin x0) ?_
    rintro _ H51 ⟨gx51, gm51, rfl, sgx51, sgm51, k51, hbgx51, hbgm51⟩
    have ngx51 := hin.nope sgx51
    have ngm51 := hin.nope sgm51
    have l51 := hkp.1
    have nb10051_5 : g5 ≠ gx51 := by have := hb5.lt; omega
    have nb10051_10015 : gx15 ≠ gx51 := by have := hbgx15.lt; omega
    have nb20051_20015 : gm15 ≠ gm51 := by have := hbgm15.lt; omega
    have nb10051_8 : g8 ≠ gx51 := by have := hb8.lt; omega
    have zk51 := k51.1
    replace hin := hin.kp k51
    replace hkp := hkp.trans (k51.mono hkp.1)
    replace hb0 := hb0.kp k51
    replace hb3 := hb3.kp k51
    replace hb5 := hb5.kp k51
    replace hb6 := hb6.kp k51
    replace hbgx15 := hbgx15.kp k51
    replace hbgm15 := hbgm15.kp k51
    replace hb8 := hb8.kp k51
    replace p9 := p9.kp k51
    replace hm := hm.kp k51 hm.lt
    replace hmk1 := hmk1.kp k51 hmk1.lt
    refine LF.nil ?_
    refine PF.next ?_
    refine CF.block ?_
    rw [show l = l ++ swapsP x0 [] from (List.append_nil _).symm] at p9
    have hinS3 := hin
    have hsS3 := hkp.1
    have wfR3_p9 : ∀ k9, (a9 : Value).ownBlock = some k9 → H.size ≤ k9 ∨ (fun j9 => j9 = g0 ∨ a9.ownBlock = some j9) k9 := fun k9 h9 => (wfR1_p9 _ h9)
    have ltS3_90 := hm.lt
    have ltS3_901 := hmk1.lt
    refine CF.rangeFuncC (ps := [52, 53]) (bl := [gx51, gm51, gm]) (xs := xs) (encs := plEnc) (fun x => [(1, .map (some gm)), (3, .pointer (some ⟨g3, 0, none⟩)), (5, .pointer (some ⟨g5, 0, none⟩)), (8, .pointer (some ⟨g8, 0, none⟩)), (51, .func (.func 63) #[] #[.pointer (some ⟨gx51, 0, none⟩), .pointer (some ⟨gm51, 0, none⟩)]), (9, .int .i64 (plP x)), (10, .int .i64 (plQ x))]) (fun pre H1 => ∃ (vo : Value), True ∧ InH F H1 ∧ Kw (fun j9 => j9 = g0 ∨ a9.ownBlock = some j9) H H1 ∧ Bx H1 g0 62 [vo, .int .i64 scr, .int .i64 sp, .bool false] ∧ Bx H1 g3 60 [.pointer (some ⟨g0, 0, none⟩)] ∧ Bx H1 g5 3 [.int .i64 x0] ∧ Bx H1 g6 4 [.bool (slotsM xs)] ∧ Bx H1 gx15 3 [.int .i64 x0] ∧ Bx H1 gm15 63 [.map (some gm)] ∧ Bx H1 g8 3 [.int .i64 scr] ∧ Bx H1 gx51 3 [.int .i64 x0] ∧ Bx H1 gm51 63 [.map (some gm)] ∧ Gl rMach 39 F H1 0 vo (l ++ swapsP x0 pre) ∧ Mf H1 gm (.int .i64 0) (fun j9 => .int .i64 (ff j9)) ∧ Mk H1 D1 ∧ (∀ k9, (vo : Value).ownBlock = some k9 → H.size ≤ k9 ∨ (fun j9 => j9 = g0 ∨ a9.ownBlock = some j9) k9)) rfl Try.ent63 (ring_iter hbgx51 hbgm51 hm hring.1 hring.2.1 hring.2.2) (by intro k0 h0; simp only [List.mem_cons, List.not_mem_nil, or_false] at h0; rcases h0 with rfl | rfl | rfl; exact hbgx51.lt; exact hbgm51.lt; exact hm.lt) (fun _ => rfl) rfl ?_ ⟨a9, trivial, hin, hkp, hb0, hb3, hb5, hb6, hbgx15, hbgm15, hb8, hbgx51, hbgm51, p9, hm, hmk1, wfR3_p9⟩ ?_ ?_ ?_
    · rintro pre H1 H2 ⟨vo, hT, hin, hkp, hb0, hb3, hb5, hb6, hbgx15, hbgm15, hb8, hbgx51, hbgm51, p9, hm, hmk1, wfR3_p9⟩ c9; exact ⟨vo, hT, hin.cg hinS3 c9, hkp.cg hsS3 c9, hb0.cg c9, hb3.cg c9, hb5.cg c9, hb6.cg c9, hbgx15.cg c9, hbgm15.cg c9, hb8.cg c9, hbgx51.cg c9, hbgm51.cg c9, p9.cg c9, hm.cg ltS3_90 c9, hmk1.cg ltS3_901 c9, wfR3_p9⟩
    · intro lx x Hx
      refine RCF.seq ?_
      refine RCF.region ?_
      refine LF.step (OpOk.assign rfl) ?_
      refine RLF.nil ?_
      refine RPF.next ?_
      refine RCF.region ?_
      refine LF.step (OpOk.assign rfl) ?_
      refine RLF.nil ?_
      exact PF.assigned ⟨rfl, rfl, rfl, rfl, rfl, rfl, rfl, trivial⟩
    · rintro lx pre x Hs ⟨vo, hT, hin, hkp, hb0, hb3, hb5, hb6, hbgx15, hbgm15, hb8, hbgx51, hbgm51, p9, hm, hmk1, wfR3_p9⟩ hlt3 hsz3
      have hpx := plP_rng x
      have hqx := plQ_rng x
      have hbl := swapsP_len x0 pre
      have hlen9 : (l ++ swapsP x0 pre).length < 1000000 := by simp only [List.length_append] at *; omega
      have hna9 : NoArgs (l ++ swapsP x0 pre) := hna.app (swapsP_args _ _)
      have sb10051 := hbgx51
      have sb20051 := hbgm51
      have tk90 : Hs[gm]? = Hs[gm]? := rfl
      have hnc := Nc.start hsz3
      refine RCF.block ?_
      refine RCF.seq ?_
      refine RCF.region ?_
      refine LF.step (OpOk.move rfl) ?_
      refine LF.step (OpOk.ldBx hb5 Try.one3 rfl rfl) ?_
      refine LF.step (OpOk.neq rfl rfl) ?_
      refine RLF.nil ?_
      refine RPF.next ?_
      refine RCF.if rfl (fun hc5 => ?_) (fun hc5 => ?_)
      refine RCF.region ?_
      refine LF.step (OpOk.ldBx hb3 Try.one60 rfl rfl) ?_
      refine LF.step (OpOk.move rfl) ?_
      refine LF.step (OpOk.move rfl) ?_
      refine LF.step (OpOk.build (v := .agg #[.int .i64 2, .int .i64 0, .int .i64 0, .int .i64 (plP x), .int .i64 (plQ x), .int .i64 0, .int .i32 0, .slice none 0 0]) rfl (fun w => by kernel_rfl)) ?_
      refine LF.chg (OpCh.litL (F := F) (r := rMach) (l := [⟨2, 0, 0, plP x, plQ x, 0, 0, []⟩]) (us := [.agg #[.int .i64 2, .int .i64 0, .int .i64 0, .int .i64 (plP x), .int .i64 (plQ x), .int .i64 0, .int .i32 0, .slice none 0 0]]) (cs := [[.int .i64 2, .int .i64 0, .int .i64 0, .int .i64 (plP x), .int .i64 (plQ x), .int .i64 0, .int .i32 0, .slice none 0 0]]) Try.underlying34 Try.info39 (by decide) rfl rfl rfl ⟨rfl, rfl, (ra_ok (rMach.mk (m := ⟨2, 0, 0, plP x, plQ x, 0, 0, []⟩) (rL.nil _) (by decide : IntKind.i64.wrap 2 = 2) (by decide : IntKind.i64.wrap 0 = 0) (by decide : IntKind.i64.wrap 0 = 0) (IntWalk.i64_in (plP x) (by omega)) (IntWalk.i64_in (plQ x) (by omega)) (by decide : IntKind.i64.wrap 0 = 0) (by decide : IntKind.i32.wrap 0 = 0))), trivial⟩) ?_
      rintro _ H61 ⟨g61, rfl, e61, s61, k61, x61⟩
      have l61 := hkp.1
      have app9_61 := ap_new p9.lt (x61 hin).ge
      replace x61 := (x61 hin).base l61
      replace hnc := hnc.kp k61
      have zk61 := k61.1
      replace hin := hin.kp k61
      replace hkp := hkp.trans (k61.mono hkp.1)
      replace hb0 := hb0.kp k61
      replace hb3 := hb3.kp k61
      replace hb5 := hb5.kp k61
      replace hb6 := hb6.kp k61
      replace hbgx15 := hbgx15.kp k61
      replace hbgm15 := hbgm15.kp k61
      replace hb8 := hb8.kp k61
      replace hbgx51 := hbgx51.kp k61
      replace hbgm51 := hbgm51.kp k61
      replace p9 := p9.kp k61
      replace tk90 := (k61.2 _ hm.lt).trans tk90
      replace hm := hm.kp k61 hm.lt
      replace hmk1 := hmk1.kp k61 hmk1.lt
      have ap61_p9 := ap_sym app9_61
      obtain ⟨Fz9, hxz9, lez9, hinz9, noz9, hrz9⟩ := x61.freezeX hin hx (Nat.le_refl _) (by first | (simp only [List.length_append, List.length_take, List.length_drop, List.length_nil, List.length_cons, List.length_set, List.length_replicate]; omega) | (simp; done) | (simp; omega) | omega)
      replace hin := hinz9
      replace hx := hxz9
      have le0 := lez9
      replace ng0 := (noz9 _ (x61.neBx hb0 (by decide))).trans ng0
      replace ng3 := (noz9 _ (x61.neBx hb3 (by decide))).trans ng3
      replace ng5 := (noz9 _ (x61.neBx hb5 (by decide))).trans ng5
      replace ng6 := (noz9 _ (x61.neBx hb6 (by decide))).trans ng6
      replace ngx15 := (noz9 _ (x61.neBx hbgx15 (by decide))).trans ngx15
      replace ngm15 := (noz9 _ (x61.neBx hbgm15 (by decide))).trans ngm15
      replace ng8 := (noz9 _ (x61.neBx hb8 (by decide))).trans ng8
      replace ngx51 := (noz9 _ (x61.neBx hbgx51 (by decide))).trans ngx51
      replace ngm51 := (noz9 _ (x61.neBx hbgm51 (by decide))).trans ngm51
      replace ngm := (noz9 _ (hm.neGl x61)).trans ngm
      replace nD1 := (noz9 _ (hmk1.neGl x61)).trans nD1
      replace p9 := p9.frozen lez9 noz9 app9_61
      refine LF.call (OpCall.fn Try.ent60 rfl rfl) (pLayF_ct hin p9 scr sp false (by first | omega | assumption | (simp only [List.length_cons, List.length_nil]; omega) | exact fun m hm => by simp at hm; subst hm; rfl) (by first | omega | assumption | (simp only [List.length_cons, List.length_nil]; omega) | exact fun m hm => by simp at hm; subst hm; rfl) hb0 ng0 hrz9 (by first | omega | assumption | (simp only [List.length_cons, List.length_nil]; omega) | exact fun m hm => by simp at hm; subst hm; rfl) (by first | omega | assumption | (simp only [List.length_cons, List.length_nil]; omega) | exact fun m hm => by simp at hm; subst hm; rfl)) ?_
      rintro _ H62 ⟨u62_0, rfl, i62, k62, b62, x62_0, lk62_0⟩
      have zk62 := k62.1
      have l62 := hkp.1
      replace hnc := hnc.kw k62 (by intro k0 o0 _ h8; rintro (rfl | h9); exact hb0.isc h8; exact p9.isc h9 h8)
      have wf62_0 := Lnk.ge (W := (fun j9 => j9 = g0 ∨ a9.ownBlock = some j9)) lk62_0 (fun k0 hk0 => (wfR3_p9 _ hk0)) hkp.1
      replace hkp := hkp.kw k62 (by intro k0 hl; rintro (rfl | hk0); exact (.inl rfl); exact (wfR3_p9 _ hk0).resolve_left (by omega))
      replace tk90 := (k62.2 _ hm.lt (by rintro (h9 | h9); exact hm.neBx hb0 h9; exact hm.neGl p9 h9)).trans tk90
      replace hm := hm.of (k62.2 _ hm.lt (by rintro (h9 | h9); exact hm.neBx hb0 h9; exact hm.neGl p9 h9))
      replace hmk1 := hmk1.of (k62.2 _ hmk1.lt (by rintro (h9 | h9); exact hmk1.neBx hb0 h9; exact hmk1.neGl p9 h9))
      replace hb3 := hb3.kw k62 (by rintro (h9 | h9); exact (Bx.ne hb3 hb0 (by decide)) h9; exact (p9.neBx hb3 (by decide)) h9)
      replace hb5 := hb5.kw k62 (by rintro (h9 | h9); exact (Bx.ne hb5 hb0 (by decide)) h9; exact (p9.neBx hb5 (by decide)) h9)
      replace hb6 := hb6.kw k62 (by rintro (h9 | h9); exact (Bx.ne hb6 hb0 (by decide)) h9; exact (p9.neBx hb6 (by decide)) h9)
      replace hbgx15 := hbgx15.kw k62 (by rintro (h9 | h9); exact (Bx.ne hbgx15 hb0 (by decide)) h9; exact (p9.neBx hbgx15 (by decide)) h9)
      replace hbgm15 := hbgm15.kw k62 (by rintro (h9 | h9); exact (Bx.ne hbgm15 hb0 (by decide)) h9; exact (p9.neBx hbgm15 (by decide)) h9)
      replace hb8 := hb8.kw k62 (by rintro (h9 | h9); exact (Bx.ne hb8 hb0 (by decide)) h9; exact (p9.neBx hb8 (by decide)) h9)
      replace hbgx51 := hbgx51.kw k62 (by rintro (h9 | h9); exact (Bx.ne hbgx51 hb0 (by decide)) h9; exact (p9.neBx hbgx51 (by decide)) h9)
      replace hbgm51 := hbgm51.kw k62 (by rintro (h9 | h9); exact (Bx.ne hbgm51 hb0 (by decide)) h9; exact (p9.neBx hbgm51 (by decide)) h9)
      replace hin := i62
      clear i62
      replace hb0 := b62
      clear b62
      refine RLF.nil ?_
      refine PF.blockNormal ?_
      rw [show ((l ++ swapsP x0 pre) ++ ([⟨2, 0, 0, plP x, plQ x, 0, 0, []⟩])) = (l ++ swapsP x0 (pre ++ [x])) from by rw [swapsP_yes _ hc5, List.append_assoc]] at x62_0
      exact PF.roundC (by omega) hnc (keep3 hbgx51 sb10051 hbgm51 sb20051 tk90) ⟨u62_0, trivial, (hin.down le0), hkp, hb0, hb3, hb5, hb6, hbgx15, hbgm15, hb8, hbgx51, hbgm51, (downM x62_0 le0 (hna.app (swapsP_args _ _))), hm, hmk1, wf62_0⟩
      refine RCF.skip ?_
      refine PF.blockNormal ?_
      rw [show (l ++ swapsP x0 pre) = (l ++ swapsP x0 (pre ++ [x])) from by rw [swapsP_no _ hc5]] at p9
      exact PF.roundC (by omega) hnc (keep3 hbgx51 sb10051 hbgm51 sb20051 tk90) ⟨vo, trivial, hin, hkp, hb0, hb3, hb5, hb6, hbgx15, hbgm15, hb8, hbgx51, hbgm51, p9, hm, hmk1, wfR3_p9⟩
    · rintro D3 HD3 ⟨vo, hT, hin, hkp, hb0, hb3, hb5, hb6, hbgx15, hbgm15, hb8, hbgx51, hbgm51, p9, hm, hmk1, wfR3_p9⟩ hD3 hsz3 hmk3
      have nD3 := hinS3.nope hD3
      refine PF.blockNormal ?_
      refine PF.next ?_
      refine CF.ret ?_
      refine PF.blockRet ?_
      refine PF.thenRet ?_
      have hm0 : ((roundR scr sp c l 0).1) = (l ++ swapsP x0 xs) := by
        first | (rw [roundP_no hring l hc1.1 hc1.2] <;> first | rfl | decide) | (rw [roundP_s hring l hc2 hsp0] <;> first | rfl | decide) | (rw [roundP_sw hring l hc2 hc4] <;> first | rfl | decide) | (rw [roundP_r hring l hc2 hc4] <;> first | rfl | decide)
      have hm3 : (decide ((roundR scr sp c l 0).2 ≠ 0)) = false := by
        first | (rw [roundP_no hring l hc1.1 hc1.2] <;> first | rfl | decide) | (rw [roundP_s hring l hc2 hsp0] <;> first | rfl | decide) | (rw [roundP_sw hring l hc2 hc4] <;> first | rfl | decide) | (rw [roundP_r hring l hc2 hc4] <;> first | rfl | decide)
      have hMk := (show ∀ D ∈ ([D3, D1] : List Nat), Mk _ D from (all_cons hmk3 (all_cons hmk1 all_nil)))
      exact PF.ret0Ms (Ds := [D3, D1]) rfl (by simp; omega) hMk ⟨_, vo, rfl, hx, (hin.putos (all_cons nD3 (all_cons nD1 all_nil))), (hkp.putos (all_cons (by omega) (all_cons (by omega) all_nil))), by rw [hm3]; exact (hb0.putos hMk), by rw [hm0]; exact ((p9.base (Nat.zero_le _)).putos hMk), lnk_of (fun k9 h9 => (wfR3_p9 _ h9)) (p9.neBx hb0 (by decide))⟩
    refine CF.skip ?_
    refine PF.blockNormal ?_
    refine PF.next ?_
    refine CF.seq ?_
    refine CF.region ?_
    refine LF.step (OpOk.ldBx hb3 Try.one60 rfl rfl) ?_
    refine LF.step (OpOk.ldBx hb8 Try.one3 rfl rfl) ?_
    refine LF.step (OpOk.ldBx hb5 Try.one3 rfl rfl) ?_
    refine LF.call (OpCall.fn Try.ent37 rfl rfl) (pBringF_ct hin p9 scr sp false (by first | omega | assumption | (simp only [List.length_cons, List.length_nil]; omega) | exact fun m hm => by simp at hm; subst hm; rfl) (by first | omega | assumption | (simp only [List.length_cons, List.length_nil]; omega) | exact fun m hm => by simp at hm; subst hm; rfl) (by first | omega | assumption | (simp only [List.length_cons, List.length_nil]; omega) | exact fun m hm => by simp at hm; subst hm; rfl) (by first | omega | assumption | (simp only [List.length_cons, List.length_nil]; omega) | exact fun m hm => by simp at hm; subst hm; rfl) hb0 ng0 scr x0 (by first | omega | assumption | (simp only [List.length_cons, List.length_nil]; omega) | exact fun m hm => by simp at hm; subst hm; rfl) (by first | omega | assumption | (simp only [List.length_cons, List.length_nil]; omega) | exact fun m hm => by simp at hm; subst hm; rfl)) ?_
    rintro _ H66 ⟨u66_0, rfl, i66, k66, b66, x66_0, lk66_0⟩
    have zk66 := k66.1
    have l66 := hkp.1
    have wf66_0 := Lnk.ge (W := (fun j9 => j9 = g0 ∨ a9.ownBlock = some j9)) lk66_0 (fun k0 hk0 => (wfR1_p9 _ hk0)) hkp.1
    replace hkp := hkp.kw k66 (by intro k0 hl; rintro (rfl | hk0); exact (.inl rfl); exact (wfR1_p9 _ hk0).resolve_left (by omega))
    replace hm := hm.of (k66.2 _ hm.lt (by rintro (h9 | h9); exact hm.neBx hb0 h9; exact hm.neGl p9 h9))
    replace hmk1 := hmk1.of (k66.2 _ hmk1.lt (by rintro (h9 | h9); exact hmk1.neBx hb0 h9; exact hmk1.neGl p9 h9))
    replace hb3 := hb3.kw k66 (by rintro (h9 | h9); exact (Bx.ne hb3 hb0 (by decide)) h9; exact (p9.neBx hb3 (by decide)) h9)
    replace hb5 := hb5.kw k66 (by rintro (h9 | h9); exact (Bx.ne hb5 hb0 (by decide)) h9; exact (p9.neBx hb5 (by decide)) h9)
    replace hb6 := hb6.kw k66 (by rintro (h9 | h9); exact (Bx.ne hb6 hb0 (by decide)) h9; exact (p9.neBx hb6 (by decide)) h9)
    replace hbgx15 := hbgx15.kw k66 (by rintro (h9 | h9); exact (Bx.ne hbgx15 hb0 (by decide)) h9; exact (p9.neBx hbgx15 (by decide)) h9)
    replace hbgm15 := hbgm15.kw k66 (by rintro (h9 | h9); exact (Bx.ne hbgm15 hb0 (by decide)) h9; exact (p9.neBx hbgm15 (by decide)) h9)
    replace hb8 := hb8.kw k66 (by rintro (h9 | h9); exact (Bx.ne hb8 hb0 (by decide)) h9; exact (p9.neBx hb8 (by decide)) h9)
    replace hin := i66
    clear i66
    replace hb0 := b66
    clear b66
    refine LF.nil ?_
    refine PF.next ?_
    refine CF.seq ?_
    refine CF.region ?_
    refine LF.step (OpOk.move rfl) ?_
    refine LF.step (OpOk.ldBx hb5 Try.one3 rfl rfl) ?_
    refine LF.call (OpCall.fn Try.ent39 rfl rfl) (ring_ct hin x0) ?_
    rintro _ H69 ⟨gx69, gm69, rfl, sgx69, sgm69, k69, hbgx69, hbgm69⟩
    have ngx69 := hin.nope sgx69
    have ngm69 := hin.nope sgm69
    have l69 := hkp.1
    have nb10069_5 : g5 ≠ gx69 := by have := hb5.lt; omega
    have nb10069_10015 : gx15 ≠ gx69 := by have := hbgx15.lt; omega
    have nb20069_20015 : gm15 ≠ gm69 := by have := hbgm15.lt; omega
    have nb10069_8 : g8 ≠ gx69 := by have := hb8.lt; omega
    have zk69 := k69.1
    replace hin := hin.kp k69
    replace hkp := hkp.trans (k69.mono hkp.1)
    replace hb0 := hb0.kp k69
    replace hb3 := hb3.kp k69
    replace hb5 := hb5.kp k69
    replace hb6 := hb6.kp k69
    replace hbgx15 := hbgx15.kp k69
    replace hbgm15 := hbgm15.kp k69
    replace hb8 := hb8.kp k69
    replace x66_0 := x66_0.kp k69
    replace hm := hm.kp k69 hm.lt
    replace hmk1 := hmk1.kp k69 hmk1.lt
    refine LF.nil ?_
    refine PF.next ?_
    refine CF.block ?_
    have hall := bringX_is (scr := scr) (sp := sp) (.inl (by omega))
    rw [show (false || (bringX scr sp scr x0).isNone) = false from by rw [hall]; rfl] at hb0
    rw [show (l ++ (bringX scr sp scr x0).getD []) = (l ++ (bringX scr sp scr x0).getD []) ++ bringsP scr sp (scr) x0 [] from (List.append_nil _).symm] at x66_0
    have hinS4 := hin
    have hsS4 := hkp.1
    have wfR4_20011 : ∀ k9, (u66_0 : Value).ownBlock = some k9 → H.size ≤ k9 ∨ (fun j9 => j9 = g0 ∨ a9.ownBlock = some j9) k9 := fun k9 h9 => (wf66_0 _ h9)
    have ltS4_90 := hm.lt
    have ltS4_901 := hmk1.lt
    refine CF.rangeFuncC (ps := [70, 71]) (bl := [gx69, gm69, gm]) (xs := xs) (encs := plEnc) (fun x => [(3, .pointer (some ⟨g3, 0, none⟩)), (5, .pointer (some ⟨g5, 0, none⟩)), (8, .pointer (some ⟨g8, 0, none⟩)), (69, .func (.func 63) #[] #[.pointer (some ⟨gx69, 0, none⟩), .pointer (some ⟨gm69, 0, none⟩)]), (11, .int .i64 (plP x)), (12, .int .i64 (plQ x))]) (fun pre H1 => ∃ (vo : Value), True ∧ InH F H1 ∧ Kw (fun j9 => j9 = g0 ∨ a9.ownBlock = some j9) H H1 ∧ Bx H1 g0 62 [vo, .int .i64 scr, .int .i64 sp, .bool false] ∧ Bx H1 g3 60 [.pointer (some ⟨g0, 0, none⟩)] ∧ Bx H1 g5 3 [.int .i64 x0] ∧ Bx H1 g6 4 [.bool (slotsM xs)] ∧ Bx H1 gx15 3 [.int .i64 x0] ∧ Bx H1 gm15 63 [.map (some gm)] ∧ Bx H1 g8 3 [.int .i64 scr] ∧ Bx H1 gx69 3 [.int .i64 x0] ∧ Bx H1 gm69 63 [.map (some gm)] ∧ Gl rMach 39 F H1 0 vo ((l ++ (bringX scr sp scr x0).getD []) ++ bringsP scr sp (scr) x0 pre) ∧ Mf H1 gm (.int .i64 0) (fun j9 => .int .i64 (ff j9)) ∧ Mk H1 D1 ∧ (∀ k9, (vo : Value).ownBlock = some k9 → H.size ≤ k9 ∨ (fun j9 => j9 = g0 ∨ a9.ownBlock = some j9) k9)) rfl Try.ent63 (ring_iter hbgx69 hbgm69 hm hring.1 hring.2.1 hring.2.2) (by intro k0 h0; simp only [List.mem_cons, List.not_mem_nil, or_false] at h0; rcases h0 with rfl | rfl | rfl; exact hbgx69.lt; exact hbgm69.lt; exact hm.lt) (fun _ => rfl) rfl ?_ ⟨u66_0, trivial, hin, hkp, hb0, hb3, hb5, hb6, hbgx15, hbgm15, hb8, hbgx69, hbgm69, x66_0, hm, hmk1, wfR4_20011⟩ ?_ ?_ ?_
    · rintro pre H1 H2 ⟨vo, hT, hin, hkp, hb0, hb3, hb5, hb6, hbgx15, hbgm15, hb8, hbgx69, hbgm69, x66_0, hm, hmk1, wfR4_20011⟩ c9; exact ⟨vo, hT, hin.cg hinS4 c9, hkp.cg hsS4 c9, hb0.cg c9, hb3.cg c9, hb5.cg c9, hb6.cg c9, hbgx15.cg c9, hbgm15.cg c9, hb8.cg c9, hbgx69.cg c9, hbgm69.cg c9, x66_0.cg c9, hm.cg ltS4_90 c9, hmk1.cg ltS4_901 c9, wfR4_20011⟩
    · intro lx x Hx
      refine RCF.seq ?_
      refine RCF.region ?_
      refine LF.step (OpOk.assign rfl) ?_
      refine RLF.nil ?_
      refine RPF.next ?_
      refine RCF.region ?_
      refine LF.step (OpOk.assign rfl) ?_
      refine RLF.nil ?_
      exact PF.assigned ⟨rfl, rfl, rfl, rfl, rfl, rfl, trivial⟩
    · rintro lx pre x Hs ⟨vo, hT, hin, hkp, hb0, hb3, hb5, hb6, hbgx15, hbgm15, hb8, hbgx69, hbgm69, x66_0, hm, hmk1, wfR4_20011⟩ hlt4 hsz4
      have hpx := plP_rng x
      have hqx := plQ_rng x
      have hbl := bringsP_len scr sp (scr) x0 pre
      have hlen9 : ((l ++ (bringX scr sp scr x0).getD []) ++ bringsP scr sp (scr) x0 pre).length < 1000000 := by have := bringLen scr sp (scr) x0; simp only [List.length_append] at *; omega
      have hna9 : NoArgs ((l ++ (bringX scr sp scr x0).getD []) ++ bringsP scr sp (scr) x0 pre) := (hna.app (NoArgs.bringX _ _ _ _)).app (bringsP_args _ _ _ _ _)
      have sb10069 := hbgx69
      have sb20069 := hbgm69
      have tk90 : Hs[gm]? = Hs[gm]? := rfl
      have hnc := Nc.start hsz4
      refine RCF.block ?_
      refine RCF.seq ?_
      refine RCF.seq ?_
      refine RCF.region ?_
      refine LF.step (OpOk.move rfl) ?_
      refine LF.step (OpOk.ldBx hb5 Try.one3 rfl rfl) ?_
      refine LF.step (OpOk.eql rfl rfl) ?_
      refine RLF.nil ?_
      refine RPF.next ?_
      refine RCF.if rfl (fun hc6 => ?_) (fun hc6 => ?_)
      refine RCF.region ?_
      refine LF.step (OpOk.ldBx hb8 Try.one3 rfl rfl) ?_
      refine LF.step (OpOk.assign rfl) ?_
      refine RLF.nil ?_
      refine RPF.next ?_
      refine RCF.region ?_
      refine LF.step (OpOk.ldBx hb3 Try.one60 rfl rfl) ?_
      refine LF.step (OpOk.move rfl) ?_
      refine LF.step (OpOk.move rfl) ?_
      refine LF.call (OpCall.fn Try.ent37 rfl rfl) (pBringF_ct hin x66_0 scr sp false (by first | omega | assumption | (simp only [List.length_cons, List.length_nil]; omega) | exact fun m hm => by simp at hm; subst hm; rfl) (by first | omega | assumption | (simp only [List.length_cons, List.length_nil]; omega) | exact fun m hm => by simp at hm; subst hm; rfl) (by first | omega | assumption | (simp only [List.length_cons, List.length_nil]; omega) | exact fun m hm => by simp at hm; subst hm; rfl) (by first | omega | assumption | (simp only [List.length_cons, List.length_nil]; omega) | exact fun m hm => by simp at hm; subst hm; rfl) hb0 ng0 (plP x) scr (by first | omega | assumption | (simp only [List.length_cons, List.length_nil]; omega) | exact fun m hm => by simp at hm; subst hm; rfl) (by first | omega | assumption | (simp only [List.length_cons, List.length_nil]; omega) | exact fun m hm => by simp at hm; subst hm; rfl)) ?_
      rintro _ H79 ⟨u79_0, rfl, i79, k79, b79, x79_0, lk79_0⟩
      have zk79 := k79.1
      have l79 := hkp.1
      replace hnc := hnc.kw k79 (by intro k0 o0 _ h8; rintro (rfl | h9); exact hb0.isc h8; exact x66_0.isc h9 h8)
      have wf79_0 := Lnk.ge (W := (fun j9 => j9 = g0 ∨ a9.ownBlock = some j9)) lk79_0 (fun k0 hk0 => (wfR4_20011 _ hk0)) hkp.1
      replace hkp := hkp.kw k79 (by intro k0 hl; rintro (rfl | hk0); exact (.inl rfl); exact (wfR4_20011 _ hk0).resolve_left (by omega))
      replace tk90 := (k79.2 _ hm.lt (by rintro (h9 | h9); exact hm.neBx hb0 h9; exact hm.neGl x66_0 h9)).trans tk90
      replace hm := hm.of (k79.2 _ hm.lt (by rintro (h9 | h9); exact hm.neBx hb0 h9; exact hm.neGl x66_0 h9))
      replace hmk1 := hmk1.of (k79.2 _ hmk1.lt (by rintro (h9 | h9); exact hmk1.neBx hb0 h9; exact hmk1.neGl x66_0 h9))
      replace hb3 := hb3.kw k79 (by rintro (h9 | h9); exact (Bx.ne hb3 hb0 (by decide)) h9; exact (x66_0.neBx hb3 (by decide)) h9)
      replace hb5 := hb5.kw k79 (by rintro (h9 | h9); exact (Bx.ne hb5 hb0 (by decide)) h9; exact (x66_0.neBx hb5 (by decide)) h9)
      replace hb6 := hb6.kw k79 (by rintro (h9 | h9); exact (Bx.ne hb6 hb0 (by decide)) h9; exact (x66_0.neBx hb6 (by decide)) h9)
      replace hbgx15 := hbgx15.kw k79 (by rintro (h9 | h9); exact (Bx.ne hbgx15 hb0 (by decide)) h9; exact (x66_0.neBx hbgx15 (by decide)) h9)
      replace hbgm15 := hbgm15.kw k79 (by rintro (h9 | h9); exact (Bx.ne hbgm15 hb0 (by decide)) h9; exact (x66_0.neBx hbgm15 (by decide)) h9)
      replace hb8 := hb8.kw k79 (by rintro (h9 | h9); exact (Bx.ne hb8 hb0 (by decide)) h9; exact (x66_0.neBx hb8 (by decide)) h9)
      replace hbgx69 := hbgx69.kw k79 (by rintro (h9 | h9); exact (Bx.ne hbgx69 hb0 (by decide)) h9; exact (x66_0.neBx hbgx69 (by decide)) h9)
      replace hbgm69 := hbgm69.kw k79 (by rintro (h9 | h9); exact (Bx.ne hbgm69 hb0 (by decide)) h9; exact (x66_0.neBx hbgm69 (by decide)) h9)
      replace hin := i79
      clear i79
      replace hb0 := b79
      clear b79
      refine RLF.nil ?_
      refine PF.blockNormal ?_
      rw [show (((l ++ (bringX scr sp scr x0).getD []) ++ bringsP scr sp (scr) x0 pre) ++ (bringX scr sp (plP x) scr).getD []) = ((l ++ (bringX scr sp scr x0).getD []) ++ bringsP scr sp (scr) x0 (pre ++ [x])) from by rw [bringsP_snoc, List.append_assoc]; unfold toP; rw [if_pos hc6]] at x79_0
      rw [show (false || (bringX scr sp (plP x) scr).isNone) = false from by rw [hall]; rfl] at hb0
      exact PF.roundC (by omega) hnc (keep3 hbgx69 sb10069 hbgm69 sb20069 tk90) ⟨u79_0, trivial, hin, hkp, hb0, hb3, hb5, hb6, hbgx15, hbgm15, hb8, hbgx69, hbgm69, x79_0, hm, hmk1, wf79_0⟩
      refine RCF.skip ?_
      refine RPF.next ?_
      refine RCF.region ?_
      refine LF.step (OpOk.ldBx hb3 Try.one60 rfl rfl) ?_
      refine LF.step (OpOk.move rfl) ?_
      refine LF.step (OpOk.move rfl) ?_
      refine LF.call (OpCall.fn Try.ent37 rfl rfl) (pBringF_ct hin x66_0 scr sp false (by first | omega | assumption | (simp only [List.length_cons, List.length_nil]; omega) | exact fun m hm => by simp at hm; subst hm; rfl) (by first | omega | assumption | (simp only [List.length_cons, List.length_nil]; omega) | exact fun m hm => by simp at hm; subst hm; rfl) (by first | omega | assumption | (simp only [List.length_cons, List.length_nil]; omega) | exact fun m hm => by simp at hm; subst hm; rfl) (by first | omega | assumption | (simp only [List.length_cons, List.length_nil]; omega) | exact fun m hm => by simp at hm; subst hm; rfl) hb0 ng0 (plP x) (plQ x) (by first | omega | assumption | (simp only [List.length_cons, List.length_nil]; omega) | exact fun m hm => by simp at hm; subst hm; rfl) (by first | omega | assumption | (simp only [List.length_cons, List.length_nil]; omega) | exact fun m hm => by simp at hm; subst hm; rfl)) ?_
      rintro _ H79 ⟨u79_0, rfl, i79, k79, b79, x79_0, lk79_0⟩
      have zk79 := k79.1
      have l79 := hkp.1
      replace hnc := hnc.kw k79 (by intro k0 o0 _ h8; rintro (rfl | h9); exact hb0.isc h8; exact x66_0.isc h9 h8)
      have wf79_0 := Lnk.ge (W := (fun j9 => j9 = g0 ∨ a9.ownBlock = some j9)) lk79_0 (fun k0 hk0 => (wfR4_20011 _ hk0)) hkp.1
      replace hkp := hkp.kw k79 (by intro k0 hl; rintro (rfl | hk0); exact (.inl rfl); exact (wfR4_20011 _ hk0).resolve_left (by omega))
      replace tk90 := (k79.2 _ hm.lt (by rintro (h9 | h9); exact hm.neBx hb0 h9; exact hm.neGl x66_0 h9)).trans tk90
      replace hm := hm.of (k79.2 _ hm.lt (by rintro (h9 | h9); exact hm.neBx hb0 h9; exact hm.neGl x66_0 h9))
      replace hmk1 := hmk1.of (k79.2 _ hmk1.lt (by rintro (h9 | h9); exact hmk1.neBx hb0 h9; exact hmk1.neGl x66_0 h9))
      replace hb3 := hb3.kw k79 (by rintro (h9 | h9); exact (Bx.ne hb3 hb0 (by decide)) h9; exact (x66_0.neBx hb3 (by decide)) h9)
      replace hb5 := hb5.kw k79 (by rintro (h9 | h9); exact (Bx.ne hb5 hb0 (by decide)) h9; exact (x66_0.neBx hb5 (by decide)) h9)
      replace hb6 := hb6.kw k79 (by rintro (h9 | h9); exact (Bx.ne hb6 hb0 (by decide)) h9; exact (x66_0.neBx hb6 (by decide)) h9)
      replace hbgx15 := hbgx15.kw k79 (by rintro (h9 | h9); exact (Bx.ne hbgx15 hb0 (by decide)) h9; exact (x66_0.neBx hbgx15 (by decide)) h9)
      replace hbgm15 := hbgm15.kw k79 (by rintro (h9 | h9); exact (Bx.ne hbgm15 hb0 (by decide)) h9; exact (x66_0.neBx hbgm15 (by decide)) h9)
      replace hb8 := hb8.kw k79 (by rintro (h9 | h9); exact (Bx.ne hb8 hb0 (by decide)) h9; exact (x66_0.neBx hb8 (by decide)) h9)
      replace hbgx69 := hbgx69.kw k79 (by rintro (h9 | h9); exact (Bx.ne hbgx69 hb0 (by decide)) h9; exact (x66_0.neBx hbgx69 (by decide)) h9)
      replace hbgm69 := hbgm69.kw k79 (by rintro (h9 | h9); exact (Bx.ne hbgm69 hb0 (by decide)) h9; exact (x66_0.neBx hbgm69 (by decide)) h9)
      replace hin := i79
      clear i79
      replace hb0 := b79
      clear b79
      refine RLF.nil ?_
      refine PF.blockNormal ?_
      rw [show (((l ++ (bringX scr sp scr x0).getD []) ++ bringsP scr sp (scr) x0 pre) ++ (bringX scr sp (plP x) (plQ x)).getD []) = ((l ++ (bringX scr sp scr x0).getD []) ++ bringsP scr sp (scr) x0 (pre ++ [x])) from by rw [bringsP_snoc, List.append_assoc]; unfold toP; rw [if_neg hc6]] at x79_0
      rw [show (false || (bringX scr sp (plP x) (plQ x)).isNone) = false from by rw [hall]; rfl] at hb0
      exact PF.roundC (by omega) hnc (keep3 hbgx69 sb10069 hbgm69 sb20069 tk90) ⟨u79_0, trivial, hin, hkp, hb0, hb3, hb5, hb6, hbgx15, hbgm15, hb8, hbgx69, hbgm69, x79_0, hm, hmk1, wf79_0⟩
    · rintro D4 HD4 ⟨vo, hT, hin, hkp, hb0, hb3, hb5, hb6, hbgx15, hbgm15, hb8, hbgx69, hbgm69, x66_0, hm, hmk1, wfR4_20011⟩ hD4 hsz4 hmk4
      have nD4 := hinS4.nope hD4
      refine PF.blockNormal ?_
      have hm0 : ((roundR scr sp c l 0).1) = ((l ++ (bringX scr sp scr x0).getD []) ++ bringsP scr sp (scr) x0 xs) := by
        first | (rw [roundP_no hring l hc1.1 hc1.2] <;> first | rfl | decide) | (rw [roundP_s hring l hc2 hsp0] <;> first | rfl | decide) | (rw [roundP_sw hring l hc2 hc4] <;> first | rfl | decide) | (rw [roundP_r hring l hc2 hc4] <;> first | rfl | decide)
      have hm3 : (decide ((roundR scr sp c l 0).2 ≠ 0)) = false := by
        first | (rw [roundP_no hring l hc1.1 hc1.2] <;> first | rfl | decide) | (rw [roundP_s hring l hc2 hsp0] <;> first | rfl | decide) | (rw [roundP_sw hring l hc2 hc4] <;> first | rfl | decide) | (rw [roundP_r hring l hc2 hc4] <;> first | rfl | decide)
      have hMk := (show ∀ D ∈ ([D4, D1] : List Nat), Mk _ D from (all_cons hmk4 (all_cons hmk1 all_nil)))
      exact PF.end0Ms (Ds := [D4, D1]) rfl (by simp; omega) hMk ⟨_, vo, rfl, hx, (hin.putos (all_cons nD4 (all_cons nD1 all_nil))), (hkp.putos (all_cons (by omega) (all_cons (by omega) all_nil))), by rw [hm3]; exact (hb0.putos hMk), by rw [hm0]; exact ((x66_0.base (Nat.zero_le _)).putos hMk), lnk_of (fun k9 h9 => (wfR4_20011 _ h9)) (x66_0.neBx hb0 (by decide))⟩

end Go.Proofs.Ytcceglmmpbdhiaa
