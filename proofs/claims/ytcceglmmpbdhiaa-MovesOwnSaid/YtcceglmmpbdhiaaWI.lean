/- Walks. Conditions: each contract names its own. -/
import Derived.Test.YtcceglmmpbdhiaaFo
namespace Go.Proofs.Ytcceglmmpbdhiaa
set_option linter.unusedVariables false
set_option linter.unusedSimpArgs false
set_option linter.unusedSectionVars false
set_option maxRecDepth 8000
open Go.JE

theorem Try.ent30 : Ent Try.prog 30 := ⟨_, Try.func30, by kernel_rfl, by kernel_rfl⟩
theorem Try.ent31 : Ent Try.prog 31 := ⟨_, Try.func31, by kernel_rfl, by kernel_rfl⟩
theorem Try.ent32 : Ent Try.prog 32 := ⟨_, Try.func32, by kernel_rfl, by kernel_rfl⟩
theorem Try.ent36 : Ent Try.prog 36 := ⟨_, Try.func36, by kernel_rfl, by kernel_rfl⟩
theorem Try.ent38 : Ent Try.prog 38 := ⟨_, Try.func38, by kernel_rfl, by kernel_rfl⟩
theorem Try.one67 : One Try.prog 67 := ⟨_, Try.underlying67, rfl⟩
theorem Try.sz63 : Sz Try.prog 63 1 := by unfold Sz; kernel_rfl
theorem Try.sz67 : Sz Try.prog 67 1 := by unfold Sz; kernel_rfl
theorem Try.zero23 : (Try.prog.info? 23).bind (·.zero) = some (.slice none 0 0) := by kernel_rfl
theorem Try.zero63 : (Try.prog.info? 63).bind (·.zero) = some (.map none) := by kernel_rfl
theorem Try.zero67 : (Try.prog.info? 67).bind (·.zero) = some (.nilFunc) := by kernel_rfl
theorem enc_rng {mv : List D.Move} (h : okM mv = true) {k : Int} {v : Value} (hkv : (k, v) ∈ encM mv) : 0 ≤ k ∧ k < 16400 := by
  obtain ⟨m, hm, he⟩ := List.mem_map.1 hkv
  have := okM_mem h hm
  have e1 : m.To = k := congrArg Prod.fst he
  omega

-- jacquard/moves.Order: function 17
set_option maxHeartbeats 4000000 in
theorem pOrder_ct {F : PH} {H : Heap} (hin : InH F H) {a0 : Value} {l : List D.Move} (p0 : (rL rMove).rv F a0 l) (scr : Int) (sp : Int) (hl9 : l.length ≤ 30) (ww1 : IntKind.i64.wrap scr = scr) (ww2 : IntKind.i64.wrap sp = sp) :
    Ct Try.prog 17 #[a0, .int .i64 scr, .int .i64 sp] H (fun v H' => ∃ F', PH.ext H F F' ∧ InH F' H' ∧ Kp H.size H H' ∧ ∃ u0, v = .tuple #[u0, .int .i64 ((orderR l scr sp).2)] ∧ (rL rMach).rv F' u0 ((orderR l scr sp).1)) := by
  have q0 := rL.len2 p0
  have hkp := Kp.refl H.size H
  have hx := PH.ext.refl (H := H) F
  have b1 := i64_rng ww1
  have b2 := i64_rng ww2
  have hin00 := hin
  refine Ct.enterM (args := [a0, .int .i64 scr, .int .i64 sp]) Try.func17 rfl rfl rfl (fun w0 hw0 => ?_)
  refine CF.seq (CF.region (LF.step (OpOk.assign rfl) (LF.step (OpOk.assign rfl) (LF.nil (PF.next (CF.seq (CF.region (LF.step (OpOk.move rfl) (LF.step (OpOk.move rfl) (LF.step (OpOk.move rfl) ?_))))))))))
  refine LF.call (OpCall.fn Try.ent30 rfl rfl) (pWrong_ct hin p0 scr sp ww2) ?_
  rintro _ H24 ⟨rfl, k24⟩
  have zk24 := k24.1
  replace hin := hin.kp k24
  replace hkp := hkp.trans (k24.mono hkp.1)
  refine LF.step (OpOk.assign rfl) (LF.nil (PF.next (CF.seq (CF.seq (CF.region (LF.step (OpOk.move rfl) ?_))))))
  refine LF.step (OpOk.neq rfl rfl) ?_
  refine LF.nil (PF.next ?_)
  refine CF.if rfl (fun hc1 => ?_) (fun hc1 => ?_)
  refine CF.seq (CF.region (LF.step (OpOk.move rfl) (LF.step (OpOk.assign rfl) (LF.step (OpOk.assign rfl) (LF.nil (PF.next (CF.ret (PF.thenRet ?_))))))))
  exact PF.ret2Ms (Ds := []) rfl rfl rfl List.nodup_nil all_nil ⟨_, hx, hin, hkp, .slice none 0 0, by rw [orderR_e hc1], by rw [orderR_e hc1]; exact rL.nil _⟩
  obtain ⟨hok, hnd, hs16, hsp16⟩ := wrongM_ok hc1
  refine CF.skip (PF.next (CF.seq (CF.region (LF.step (OpOk.move rfl) (LF.step (OpOk.move rfl) ?_)))))
  refine LF.step (OpOk.build (v := .agg #[.slice none 0 0, .int .i64 scr, .int .i64 sp, .bool false]) rfl (fun w => by kernel_rfl)) ?_
  refine LF.chg (OpCh.boxB rfl rfl) ?_
  rintro _ H31 ⟨g31, rfl, eg31, sg31, kg31, hb31⟩
  have ng31 := hin.nope (Nat.le_of_eq eg31.symm)
  have lg31 := hkp.1
  have zkg31 := kg31.1
  replace hin := hin.kp kg31
  replace hkp := hkp.trans (kg31.mono hkp.1)
  clear kg31
  refine LF.step (OpOk.assign rfl) (LF.nil (PF.next (CF.seq (CF.region ?_))))
  refine LF.chg OpCh.makeMapB ?_
  rintro _ H32 ⟨g32, rfl, eg32, sg32, kg32, hm32⟩
  have ng32 := hin.nope (Nat.le_of_eq eg32.symm)
  have lg32 := hkp.1
  have zkg32 := kg32.1
  replace hin := hin.kp kg32
  replace hkp := hkp.trans (kg32.mono hkp.1)
  replace hb31 := hb31.kp kg32
  clear kg32
  refine LF.chg (OpCh.allocB Try.zero63 rfl) ?_
  rintro _ H10 ⟨g10, rfl, eg10, sg10, kg10, hb10⟩
  have ng10 := hin.nope (Nat.le_of_eq eg10.symm)
  have lg10 := hkp.1
  have zkg10 := kg10.1
  replace hin := hin.kp kg10
  replace hkp := hkp.trans (kg10.mono hkp.1)
  replace hb31 := hb31.kp kg10
  replace hm32 := hm32.kp kg10 hm32.lt
  clear kg10
  refine LF.chg0 (OpCh.storeB hb10 Try.sz63 rfl rfl rfl (by first | decide | (simp; done))) ?_
  rintro _ Hw1 ⟨tw1, bw1⟩
  have ztw1 := tw1.1
  replace hin := hin.tw tw1 ng10
  replace hkp := Tw.kp' hkp tw1 (by omega)
  replace hb31 := hb31.tw tw1 (Bx.ne hb31 hb10 (by decide))
  replace hm32 := hm32.of (tw1.2 _ (hm32.neBx hb10))
  replace hb10 : Bx _ _ _ [.map (some g32)] := bw1
  clear bw1 tw1
  refine LF.nil (PF.next (CF.seq (CF.region ?_)))
  refine LF.chg OpCh.makeMapB ?_
  rintro _ H33 ⟨g33, rfl, eg33, sg33, kg33, hm33⟩
  have ng33 := hin.nope (Nat.le_of_eq eg33.symm)
  have lg33 := hkp.1
  have zkg33 := kg33.1
  replace hin := hin.kp kg33
  replace hkp := hkp.trans (kg33.mono hkp.1)
  replace hb31 := hb31.kp kg33
  replace hb10 := hb10.kp kg33
  replace hm32 := hm32.kp kg33 hm32.lt
  clear kg33
  replace hm33 := Mf.new (z := .int .i64 0) hm33
  have nem3233 : g32 ≠ g33 := by omega
  refine LF.chg (OpCh.allocB Try.zero63 rfl) ?_
  rintro _ H11 ⟨g11, rfl, eg11, sg11, kg11, hb11⟩
  have ng11 := hin.nope (Nat.le_of_eq eg11.symm)
  have lg11 := hkp.1
  have nb11_10 : g10 ≠ g11 := by have := hb10.lt; omega
  have zkg11 := kg11.1
  replace hin := hin.kp kg11
  replace hkp := hkp.trans (kg11.mono hkp.1)
  replace hb31 := hb31.kp kg11
  replace hb10 := hb10.kp kg11
  replace hm32 := hm32.kp kg11 hm32.lt
  replace hm33 := hm33.kp kg11 hm33.lt
  clear kg11
  refine LF.chg0 (OpCh.storeB hb11 Try.sz63 rfl rfl rfl (by first | decide | (simp; done))) ?_
  rintro _ Hw2 ⟨tw2, bw2⟩
  have ztw2 := tw2.1
  replace hin := hin.tw tw2 ng11
  replace hkp := Tw.kp' hkp tw2 (by omega)
  replace hb31 := hb31.tw tw2 (Bx.ne hb31 hb11 (by decide))
  replace hb10 := hb10.tw tw2 (by first | omega | assumption | exact Ne.symm (by assumption))
  replace hm32 := hm32.of (tw2.2 _ (hm32.neBx hb11))
  replace hm33 := hm33.of (tw2.2 _ (hm33.neBx hb11))
  replace hb11 : Bx _ _ _ [.map (some g33)] := bw2
  clear bw2 tw2
  refine LF.nil (PF.next (CF.seq (CF.seq (CF.region (LF.step (OpOk.move rfl) ?_)))))
  refine LF.step (OpOk.lenL Try.underlying22 p0 rfl) ?_
  refine LF.step (OpOk.move rfl) (LF.nil (PF.next (CF.block ?_)))
  refine CF.loop (ι := Nat × (Int → Int)) (fun z9 H1 => z9.1 ≤ l.length ∧ (∀ p, z9.2 p = cntM (leftM (l.take z9.1)) p) ∧ InH F H1 ∧ Kp H.size H H1 ∧ Bx H1 g31 62 [.slice none 0 0, .int .i64 scr, .int .i64 sp, .bool false] ∧ Bx H1 g10 63 [.map (some g32)] ∧ Bx H1 g11 63 [.map (some g33)] ∧ Im H1 g32 (encM (leftM (l.take z9.1))) ∧ Mf H1 g33 (.int .i64 0) (fun j9 => .int .i64 (z9.2 j9))) (fun z9 => [(6, .slice none 0 0), (7, .int .i64 0), (9, .pointer (some ⟨g31, 0, none⟩)), (10, .pointer (some ⟨g10, 0, none⟩)), (11, .pointer (some ⟨g11, 0, none⟩)), (34, a0), (35, .int .i64 (↑(List.length l))), (36, .int .i64 (↑z9.1))]) (fun z9 => l.length - z9.1) (0, (fun _ => 0 : Int → Int)) ⟨by dsimp only; omega, fun _ => rfl, hin, hkp, hb31, hb10, hb11, hm32, hm33⟩ ⟨rfl, rfl, rfl, rfl, rfl, rfl, rfl, eqI (by omega), trivial⟩ ?_
  clear hin hkp hb31 hb10 hb11 hm32 hm33
  rintro ⟨k, uu⟩ H1 ⟨hk, hU, hin, hkp, hb31, hb10, hb11, hm32, hm33⟩
  dsimp only at hk hU hb31 hb10 hb11 hm32 hm33 ⊢
  have hle9 := leftM_len (l.take k)
  rw [List.length_take] at hle9
  refine CF.seq (CF.region ?_)
  refine LF.step (OpOk.lss rfl rfl) ?_
  refine LF.nil (PF.next (CF.seq ?_))
  refine CF.if rfl (fun hc2 => ?_) (fun hc2 => ?_)
  refine CF.skip (PF.next (CF.seq (CF.block (CF.seq (CF.region ?_)))))
  refine LF.step (OpOk.idxL (i := k) Try.underlying22 Try.sz31 p0 rfl rfl rfl (by omega)) ?_
  refine LF.stepE (OpOk.ldA hin (rL.ix p0 k (by omega)) Try.agg31 Try.sz31 rfl) ?_
  intro v39 h39
  have h39k := rMove.any h39
  obtain rfl := rMove.open h39
  refine LF.chg (OpCh.allocB Try.zero31 rfl) ?_
  rintro _ H13 ⟨g13, rfl, eg13, sg13, kg13, hb13⟩
  have ng13 := hin.nope (Nat.le_of_eq eg13.symm)
  have lg13 := hkp.1
  have zkg13 := kg13.1
  replace hin := hin.kp kg13
  replace hkp := hkp.trans (kg13.mono hkp.1)
  replace hb31 := hb31.kp kg13
  replace hb10 := hb10.kp kg13
  replace hb11 := hb11.kp kg13
  replace hm32 := hm32.kp kg13 hm32.lt
  replace hm33 := hm33.kp kg13 hm33.lt
  clear kg13
  refine LF.chg0 (OpCh.storeBA hb13 Try.sz31 rfl rfl rfl (allOne.mem (l := [.int .i64 ((ix l k).To), .int .i64 ((ix l k).From)]) ⟨rfl, rfl, trivial⟩) (by decide)) ?_
  rintro _ Hw3 ⟨tw3, bw3⟩
  have ztw3 := tw3.1
  replace hin := hin.tw tw3 ng13
  replace hkp := Tw.kp' hkp tw3 (by omega)
  replace hb31 := hb31.tw tw3 (Bx.ne hb31 hb13 (by decide))
  replace hb10 := hb10.tw tw3 (Bx.ne hb10 hb13 (by decide))
  replace hb11 := hb11.tw tw3 (Bx.ne hb11 hb13 (by decide))
  replace hm32 := hm32.of (tw3.2 _ (hm32.neBx hb13))
  replace hm33 := hm33.of (tw3.2 _ (hm33.neBx hb13))
  replace hb13 : Bx _ _ _ [.int .i64 ((ix l k).To), .int .i64 ((ix l k).From)] := bw3
  clear bw3 tw3
  refine LF.nil (PF.next (CF.seq (CF.region ?_)))
  refine LF.step (OpOk.fieldAddr (Try.fld31_0) rfl) ?_
  refine LF.step (OpOk.ldBx hb13 Try.one3 rfl rfl) ?_
  refine LF.step (OpOk.fieldAddr (Try.fld31_1) rfl) ?_
  refine LF.step (OpOk.ldBx hb13 Try.one3 rfl rfl) ?_
  refine LF.step (OpOk.neq rfl rfl) ?_
  refine LF.nil (PF.next ?_)
  refine CF.if rfl (fun hc3 => ?_) (fun hc3 => ?_)
  refine CF.seq (CF.region ?_)
  refine LF.step (OpOk.ldBx hb10 Try.one63 rfl rfl) ?_
  refine LF.step (OpOk.fieldAddr (Try.fld31_0) rfl) ?_
  refine LF.step (OpOk.ldBx hb13 Try.one3 rfl rfl) ?_
  refine LF.step (OpOk.fieldAddr (Try.fld31_1) rfl) ?_
  refine LF.step (OpOk.ldBx hb13 Try.one3 rfl rfl) ?_
  refine LF.chg0 (OpCh.mapUpdate Try.underlying63 Try.underlying3 hm32 rfl rfl rfl) ?_
  rintro _ Hw4 ⟨mw4, tw4⟩
  have ztw4 := tw4.1
  replace hin := hin.tw tw4 ng32
  replace hkp := Tw.kp' hkp tw4 (by omega)
  replace hb31 := hb31.tw tw4 (hm32.neBx hb31).symm
  replace hb10 := hb10.tw tw4 (hm32.neBx hb10).symm
  replace hb11 := hb11.tw tw4 (hm32.neBx hb11).symm
  replace hb13 := hb13.tw tw4 (hm32.neBx hb13).symm
  replace hm33 := hm33.of (tw4.2 _ (nem3233.symm))
  replace hm32 := mw4
  clear mw4 tw4
  refine LF.nil (PF.next (CF.region ?_))
  refine LF.step (OpOk.ldBx hb11 Try.one63 rfl rfl) ?_
  refine LF.step (OpOk.fieldAddr (Try.fld31_1) rfl) ?_
  refine LF.step (OpOk.ldBx hb13 Try.one3 rfl rfl) ?_
  refine LF.step (OpOk.lookupF Try.underlying63 Try.underlying3 Try.zero3 hm33 rfl rfl) ?_
  have hcr := cntM_rng (leftM (l.take k)) (ix l k).From
  rw [← hU] at hcr
  refine LF.step (OpOk.add rfl rfl (by omega)) ?_
  refine LF.chg0 (OpCh.mapUpdateI Try.underlying63 Try.underlying3 hm33 rfl rfl rfl) ?_
  rintro _ Hw5 ⟨mw5, tw5⟩
  have ztw5 := tw5.1
  replace hin := hin.tw tw5 ng33
  replace hkp := Tw.kp' hkp tw5 (by omega)
  replace hb31 := hb31.tw tw5 (hm33.neBx hb31).symm
  replace hb10 := hb10.tw tw5 (hm33.neBx hb10).symm
  replace hb11 := hb11.tw tw5 (hm33.neBx hb11).symm
  replace hb13 := hb13.tw tw5 (hm33.neBx hb13).symm
  replace hm32 := hm32.of (tw5.2 _ (nem3233))
  replace hm33 := mw5
  clear mw5 tw5
  refine LF.nil (PF.blockNormal (PF.next (CF.region ?_)))
  refine LF.step (OpOk.add rfl rfl (by omega)) ?_
  refine LF.step (OpOk.move rfl) (LF.nil ?_)
  rw [enc_step (l := l) (k := k) (by omega) hnd hc3] at hm32
  exact PF.again (k + 1, upF uu ((ix l k).From) ((uu ((ix l k).From)) + 1)) ⟨by dsimp only; omega, cnt_step (by omega) hU hc3, hin, hkp, hb31, hb10, hb11, hm32, hm33⟩ ⟨rfl, rfl, rfl, rfl, rfl, rfl, rfl, eqI (by omega), trivial⟩ (by omega)
  refine CF.skip (PF.blockNormal (PF.next (CF.region ?_)))
  refine LF.step (OpOk.add rfl rfl (by omega)) ?_
  refine LF.step (OpOk.move rfl) (LF.nil ?_)
  rw [enc_skip (l := l) (k := k) (by omega) hc3] at hm32
  exact PF.again (k + 1, uu) ⟨by dsimp only; omega, cnt_skip (by omega) hU hc3, hin, hkp, hb31, hb10, hb11, hm32, hm33⟩ ⟨rfl, rfl, rfl, rfl, rfl, rfl, rfl, eqI (by omega), trivial⟩ (by omega)
  rw [List.take_of_length_le (show l.length ≤ k by omega)] at hm32 hU
  refine CF.exit (PF.thenExit (PF.thenExit (PF.blockHere (PF.next (CF.seq (CF.region ?_))))))
  refine LF.chg (OpCh.allocB Try.zero23 rfl) ?_
  rintro _ H14 ⟨g14, rfl, eg14, sg14, kg14, hb14⟩
  have ng14 := hin.nope (Nat.le_of_eq eg14.symm)
  have lg14 := hkp.1
  have zkg14 := kg14.1
  replace hin := hin.kp kg14
  replace hkp := hkp.trans (kg14.mono hkp.1)
  replace hb31 := hb31.kp kg14
  replace hb10 := hb10.kp kg14
  replace hb11 := hb11.kp kg14
  replace hm32 := hm32.kp kg14 hm32.lt
  replace hm33 := hm33.kp kg14 hm33.lt
  clear kg14
  refine LF.nil (PF.next (CF.seq (CF.seq (CF.region ?_))))
  refine LF.step (OpOk.ldBx hb10 Try.one63 rfl rfl) ?_
  refine LF.chg (OpCh.rangeB Try.underlying63 hm32 rfl) ?_
  rintro _ H57 ⟨g57, rfl, eg57, sg57, k57, hit⟩
  have ng57 := hin.nope (Nat.le_of_eq eg57.symm)
  have lg57 := hkp.1
  have nem32 : g32 ≠ g57 := by have := hm32.lt; omega
  have nem33 : g33 ≠ g57 := by have := hm33.lt; omega
  have zk57 := k57.1
  replace hin := hin.kp k57
  replace hkp := hkp.trans (k57.mono hkp.1)
  replace hb31 := hb31.kp k57
  replace hb10 := hb10.kp k57
  replace hb11 := hb11.kp k57
  replace hb14 := hb14.kp k57
  replace hm32 := hm32.kp k57 hm32.lt
  replace hm33 := hm33.kp k57 hm33.lt
  have hir57 := hit.ir
  refine LF.nil (PF.next (CF.block ?_))
  have x9014 := (fun (H9 : Heap) (_ : InH F H9) => (Gl.nil F H9 H.size : Gl (rI .i64) 3 F H9 H.size (.slice none 0 0) [])) _ hin
  refine CF.loop (ι := List Int × Value) (fun z9 H1 => It H1 g57 g32 (encM (leftM l)) z9.1 ∧ InH F H1 ∧ Kp H.size H H1 ∧ Bx H1 g31 62 [.slice none 0 0, .int .i64 scr, .int .i64 sp, .bool false] ∧ Bx H1 g10 63 [.map (some g32)] ∧ Bx H1 g11 63 [.map (some g33)] ∧ Bx H1 g14 23 [z9.2] ∧ Gl (rI .i64) 3 F H1 H.size z9.2 z9.1 ∧ Im H1 g32 (encM (leftM l)) ∧ Mf H1 g33 (.int .i64 0) (fun j9 => .int .i64 (uu j9)) ∧ Ir H1 g57) (fun z9 => [(6, .slice none 0 0), (7, .int .i64 0), (9, .pointer (some ⟨g31, 0, none⟩)), (10, .pointer (some ⟨g10, 0, none⟩)), (11, .pointer (some ⟨g11, 0, none⟩)), (14, .pointer (some ⟨g14, 0, none⟩)), (57, .pointer (some ⟨g57, 0, none⟩))]) (fun z9 => (encM (leftM l)).length - z9.1.length) ([], .slice none 0 0) ⟨hit, hin, hkp, hb31, hb10, hb11, hb14, x9014, hm32, hm33, hir57⟩ ⟨rfl, rfl, rfl, rfl, rfl, rfl, rfl, trivial⟩ ?_
  clear hin hkp hb31 hb10 hb11 hb14 x9014 hm32 hm33 hir57
  rintro ⟨vis, vl⟩ H1 ⟨hit, hin, hkp, hb31, hb10, hb11, hb14, x9014, hm32, hm33, hir57⟩
  dsimp only at hit hb31 hb10 hb11 hb14 x9014 hm32 hm33 hir57 ⊢
  have hvl := hit.len
  have hel : (encM (leftM l)).length ≤ 30 := by have := leftM_len l; simp only [encM, List.length_map]; omega
  refine CF.seq (CF.region ?_)
  refine LF.chg (OpCh.next1 (Ne.symm nem32) hit rfl) ?_
  rintro _ H58 ⟨more, vs58, rfl, hvs0, hfin, hgo⟩
  refine LF.step (OpOk.extract rfl hvs0) ?_
  refine LF.nil (PF.next (CF.seq ?_))
  refine CF.if rfl (fun hc4 => ?_) (fun hc4 => ?_)
  obtain ⟨kk, vv, hkv, hnv, hit5, htw⟩ := hgo hc4
  have zhtw := htw.1
  replace hin := hin.tw htw ng57
  replace hkp := Tw.kp' hkp htw (by omega)
  replace hb31 := hb31.tw htw (hir57.neBx hb31).symm
  replace hb10 := hb10.tw htw (hir57.neBx hb10).symm
  replace hb11 := hb11.tw htw (hir57.neBx hb11).symm
  replace hb14 := hb14.tw htw (hir57.neBx hb14).symm
  replace x9014 := x9014.tw htw (hir57.neGl x9014)
  replace hm32 := hm32.of (htw.2 _ (nem32))
  replace hm33 := hm33.of (htw.2 _ (nem33))
  have hir57 := hit5.ir
  have tk32 : H58[g32]? = H58[g32]? := rfl
  have tk57 : H58[g57]? = H58[g57]? := rfl
  have hkr := enc_rng (leftM_ok hok) hkv
  refine CF.skip (PF.next (CF.block (CF.seq (CF.region ?_))))
  refine LF.step (OpOk.entry hit5 hkv rfl) ?_
  refine LF.step (OpOk.extract (v := .int .i64 kk) rfl rfl) ?_
  refine LF.step (OpOk.assign rfl) (LF.nil (PF.next (CF.region ?_)))
  refine LF.step (OpOk.ldBx hb14 Try.one23 rfl rfl) ?_
  refine LF.step (OpOk.move rfl) ?_
  refine LF.appV (r := (rI .i64)) (a := kk) Try.underlying23 Try.info3 (by decide) rfl rfl rfl ⟨rfl, (IntWalk.i64_in kk (by omega))⟩ x9014 hin (by first | (simp only [List.length_append, List.length_take, List.length_drop, List.length_nil, List.length_cons, List.length_set, List.length_replicate]; omega) | (simp; done) | (simp; omega) | omega) rfl ?_ hkp.1
  intro v65 H65 x65 gb65 nn65 ob65
  replace hin := hin.grown gb65 x9014.no
  replace hkp := gb65.kp hkp (Nat.le_refl _) (fun k0 hk0 => (x9014.blk k0 hk0).1)
  replace hb31 := hb31.of (gb65.2 _ hb31.lt (Ne.symm (by first | exact x9014.neBx hb31 (by decide) | exact nq9014_31)))
  replace hb10 := hb10.of (gb65.2 _ hb10.lt (Ne.symm (by first | exact x9014.neBx hb10 (by decide) | exact nq9014_10)))
  replace hb11 := hb11.of (gb65.2 _ hb11.lt (Ne.symm (by first | exact x9014.neBx hb11 (by decide) | exact nq9014_11)))
  replace hb14 := hb14.of (gb65.2 _ hb14.lt (Ne.symm (by first | exact x9014.neBx hb14 (by decide) | exact nq9014_14)))
  replace tk32 := (gb65.2 _ hm32.lt (fun e9 => hm32.neGl x9014 e9.symm)).trans tk32
  replace hm32 := hm32.of (gb65.2 _ hm32.lt (fun e9 => hm32.neGl x9014 e9.symm))
  replace hm33 := hm33.of (gb65.2 _ hm33.lt (fun e9 => hm33.neGl x9014 e9.symm))
  replace tk57 := (gb65.2 _ hir57.lt (fun e9 => hir57.neGl x9014 e9.symm)).trans tk57
  replace hir57 := hir57.of (gb65.2 _ hir57.lt (fun e9 => hir57.neGl x9014 e9.symm))
  refine LF.chg0 (OpCh.storeB hb14 Try.sz23 rfl rfl x65.one1 (by first | decide | (simp; done))) ?_
  rintro _ Hw6 ⟨tw6, bw6⟩
  have ztw6 := tw6.1
  replace hin := hin.tw tw6 ng14
  replace hkp := Tw.kp' hkp tw6 (by omega)
  replace hb31 := hb31.tw tw6 (Bx.ne hb31 hb14 (by decide))
  replace hb10 := hb10.tw tw6 (Bx.ne hb10 hb14 (by decide))
  replace hb11 := hb11.tw tw6 (Bx.ne hb11 hb14 (by decide))
  replace x65 := x65.tw tw6 (x65.neBx hb14 (by decide))
  replace tk32 := (tw6.2 _ (hm32.neBx hb14)).trans tk32
  replace hm32 := hm32.of (tw6.2 _ (hm32.neBx hb14))
  replace hm33 := hm33.of (tw6.2 _ (hm33.neBx hb14))
  replace tk57 := (tw6.2 _ (hir57.neBx hb14)).trans tk57
  replace hir57 := hir57.of (tw6.2 _ (hir57.neBx hb14))
  replace hb14 : Bx _ _ _ [v65] := bw6
  clear bw6 tw6
  refine LF.nil (PF.blockNormal ?_)
  exact PF.again (vis ++ [kk], v65) ⟨hit5.of tk57 tk32, hin, hkp, hb31, hb10, hb11, hb14, x65, hm32, hm33, hir57⟩ ⟨rfl, rfl, rfl, rfl, rfl, rfl, rfl, trivial⟩ (by have := hit5.len; simp only [List.length_append, List.length_singleton] at this ⊢; omega)
  obtain ⟨hall, h9⟩ := hfin hc4
  rw [h9]
  rw [encM_keys] at hall
  have hvp := vis_perm hit.nodup (left_nodup hnd) hall (fun k hk => by have := hit.sub k hk; rw [encM_keys] at this; exact this)
  refine CF.exit (PF.thenExit (PF.thenExit (PF.blockHere (PF.next (CF.seq (CF.region ?_))))))
  refine LF.step (OpOk.ldBx hb14 Try.one23 rfl rfl) ?_
  refine LF.call (OpCall.fn Try.ent31 rfl rfl) (sort_ct hin x9014 (by first | omega | assumption)) ?_
  rintro _ H67 ⟨rfl, k67, x67_0⟩
  have zk67 := k67.1
  replace hin := hin.kw k67 (by intro k0 hk0; exact x9014.no k0 hk0)
  replace hb31 := hb31.kw k67 (x9014.neBx hb31 (by decide))
  replace hb10 := hb10.kw k67 (x9014.neBx hb10 (by decide))
  replace hb11 := hb11.kw k67 (x9014.neBx hb11 (by decide))
  replace hb14 := hb14.kw k67 (x9014.neBx hb14 (by decide))
  replace hm32 := hm32.of (k67.2 _ hm32.lt (hm32.neGl x9014))
  replace hm33 := hm33.of (k67.2 _ hm33.lt (hm33.neGl x9014))
  replace hir57 := hir57.of (k67.2 _ hir57.lt (hir57.neGl x9014))
  replace hkp := hkp.kw k67 (by intro k0 hk0; exact x9014.ge k0 hk0)
  replace x9014 := x67_0
  rw [show sortM vis = leftL (leftM l) from sortM_congr hvp] at x9014
  replace hm32 := Im.toMf (f := fun j9 => .int .i64 (ffM (leftM l) j9)) hm32 (lk_enc (leftM l))
  refine LF.nil (PF.next (CF.seq (CF.region ?_)))
  refine LF.step (OpOk.makeFunc3 rfl rfl rfl) ?_
  refine LF.chg (OpCh.allocB Try.zero67 rfl) ?_
  rintro _ H16 ⟨g16, rfl, eg16, sg16, kg16, hb16⟩
  have ng16 := hin.nope (Nat.le_of_eq eg16.symm)
  have lg16 := hkp.1
  have zkg16 := kg16.1
  replace hin := hin.kp kg16
  replace hkp := hkp.trans (kg16.mono hkp.1)
  replace hb31 := hb31.kp kg16
  replace hb10 := hb10.kp kg16
  replace hb11 := hb11.kp kg16
  replace hb14 := hb14.kp kg16
  replace x9014 := x9014.kp kg16
  replace hm32 := hm32.kp kg16 hm32.lt
  replace hm33 := hm33.kp kg16 hm33.lt
  clear kg16
  refine LF.chg0 (OpCh.storeB hb16 Try.sz67 rfl rfl rfl (by first | decide | (simp; done))) ?_
  rintro _ Hw7 ⟨tw7, bw7⟩
  have ztw7 := tw7.1
  replace hin := hin.tw tw7 ng16
  replace hkp := Tw.kp' hkp tw7 (by omega)
  replace hb31 := hb31.tw tw7 (Bx.ne hb31 hb16 (by decide))
  replace hb10 := hb10.tw tw7 (Bx.ne hb10 hb16 (by decide))
  replace hb11 := hb11.tw tw7 (Bx.ne hb11 hb16 (by decide))
  replace hb14 := hb14.tw tw7 (Bx.ne hb14 hb16 (by decide))
  replace x9014 := x9014.tw tw7 (x9014.neBx hb16 (by decide))
  replace hm32 := hm32.of (tw7.2 _ (hm32.neBx hb16))
  replace hm33 := hm33.of (tw7.2 _ (hm33.neBx hb16))
  replace hb16 : Bx _ _ _ [.func (.func 32) #[] #[.pointer (some ⟨g11, 0, none⟩), .pointer (some ⟨g10, 0, none⟩), .pointer (some ⟨g14, 0, none⟩)]] := bw7
  clear bw7 tw7
  refine LF.nil (PF.next (CF.seq (CF.block ?_)))
  have x9031 := (fun (H9 : Heap) (_ : InH F H9) => (Gl.nil F H9 H.size : Gl rMach 39 F H9 H.size (.slice none 0 0) [])) _ hin
  have ap9031_9014 : ∀ k9, (Value.slice none 0 0).ownBlock = some k9 → (vl : Value).ownBlock ≠ some k9 := fun _ h9 => by cases h9
  have ap9014_9031 := ap_sym ap9031_9014
  refine CF.loopM (ι := Nat × List D.Move × (Int → Int) × Value × Value × List D.Mach × Bool × List Nat × PH) (fun z9 H1 => z9.2.1.length ≤ z9.1 ∧ z9.1 ≤ l.length ∧ okM z9.2.1 = true ∧ (keysM z9.2.1).Nodup ∧ (∀ m ∈ z9.2.1, m ∈ leftM l) ∧ (∀ p, z9.2.2.1 p = cntM z9.2.1 p) ∧ NoArgs z9.2.2.2.2.2.1 ∧ z9.2.2.2.2.2.1.length + 128 * z9.1 ≤ 128 * l.length ∧ orderGo scr sp (leftM l).length (leftM l) [] 0 = orderGo scr sp z9.1 z9.2.1 z9.2.2.2.2.2.1 (eOf z9.2.2.2.2.2.2.1) ∧ z9.2.2.2.2.2.2.2.1.Nodup ∧ (∀ D ∈ z9.2.2.2.2.2.2.2.1, z9.2.2.2.2.2.2.2.2 D = some (.deferred (some [])) ∧ H.size ≤ D) ∧ PH.ext H F z9.2.2.2.2.2.2.2.2 ∧ PH.le F z9.2.2.2.2.2.2.2.2 ∧ InH z9.2.2.2.2.2.2.2.2 H1 ∧ Kp H.size H H1 ∧ Bx H1 g31 62 [z9.2.2.2.2.1, .int .i64 scr, .int .i64 sp, .bool z9.2.2.2.2.2.2.1] ∧ z9.2.2.2.2.2.2.2.2 g31 = none ∧ Bx H1 g10 63 [.map (some g32)] ∧ z9.2.2.2.2.2.2.2.2 g10 = none ∧ Bx H1 g11 63 [.map (some g33)] ∧ z9.2.2.2.2.2.2.2.2 g11 = none ∧ Bx H1 g14 23 [z9.2.2.2.1] ∧ z9.2.2.2.2.2.2.2.2 g14 = none ∧ Bx H1 g16 67 [.func (.func 32) #[] #[.pointer (some ⟨g11, 0, none⟩), .pointer (some ⟨g10, 0, none⟩), .pointer (some ⟨g14, 0, none⟩)]] ∧ z9.2.2.2.2.2.2.2.2 g16 = none ∧ Gl (rI .i64) 3 z9.2.2.2.2.2.2.2.2 H1 H.size z9.2.2.2.1 (leftL z9.2.1) ∧ Gl rMach 39 z9.2.2.2.2.2.2.2.2 H1 H.size z9.2.2.2.2.1 z9.2.2.2.2.2.1 ∧ (∀ k9, (z9.2.2.2.1 : Value).ownBlock = some k9 → (z9.2.2.2.2.1 : Value).ownBlock ≠ some k9) ∧ Mf H1 g32 (.int .i64 0) (fun j9 => .int .i64 ((ffM (leftM l)) j9)) ∧ z9.2.2.2.2.2.2.2.2 g32 = none ∧ Mf H1 g33 (.int .i64 0) (fun j9 => .int .i64 (z9.2.2.1 j9)) ∧ z9.2.2.2.2.2.2.2.2 g33 = none) (fun z9 => [(6, .slice none 0 0), (7, .int .i64 0), (9, .pointer (some ⟨g31, 0, none⟩)), (10, .pointer (some ⟨g10, 0, none⟩)), (11, .pointer (some ⟨g11, 0, none⟩)), (14, .pointer (some ⟨g14, 0, none⟩)), (16, .pointer (some ⟨g16, 0, none⟩))]) (fun z9 => z9.2.2.2.2.2.2.2.1) (fun z9 => z9.1) ((leftM l).length, leftM l, uu, vl, .slice none 0 0, [], false, [], F) ⟨by dsimp only; omega, leftM_len l, leftM_ok hok, left_nodup hnd, fun _ h => h, hU, fun _ h => (by cases h), by dsimp only; have := leftM_len l; simp only [List.length_nil]; omega, rfl, List.nodup_nil, fun _ h => (by cases h), hx, PH.le.refl _, hin, hkp, hb31, ng31, hb10, ng10, hb11, ng11, hb14, ng14, hb16, ng16, x9014, x9031, ap9014_9031, hm32, ng32, hm33, ng33⟩ rfl ⟨rfl, rfl, rfl, rfl, rfl, rfl, rfl, trivial⟩ ?_
  clear hx hin hkp hb31 ng31 hb10 ng10 hb11 ng11 hb14 ng14 hb16 ng16 x9014 x9031 ap9014_9031 hm32 ng32 hm33 ng33
  rintro ⟨f, mv, uv, vl, vo, o, lk, Ds, Fl⟩ H1 ⟨hmf, hfl, hmok, hkn, hsub, hUv, hno, hol, hO, hDn, hDf, hx, le0, hin, hkp, hb31, ng31, hb10, ng10, hb11, ng11, hb14, ng14, hb16, ng16, x9014, x9031, ap9014_9031, hm32, ng32, hm33, ng33⟩
  dsimp only at hmf hfl hmok hkn hsub hUv hno hol hO hDn hDf hin hkp hb31 ng31 hb10 ng10 hb11 ng11 hb14 ng14 hb16 ng16 x9014 x9031 ap9014_9031 hm32 ng32 hm33 ng33 ⊢
  have ap9031_9014 := ap_sym ap9014_9031
  have hll := leftL_len mv
  have hffe : ∀ m ∈ mv, ffM (leftM l) m.To = m.From := fun m hm => ff_eq (left_nodup hnd) (hsub m hm)
  refine CF.seq (CF.seq (CF.region ?_))
  refine LF.step (OpOk.ldBx hb14 Try.one23 rfl rfl) ?_
  refine LF.step (OpOk.lenG Try.underlying23 x9014 rfl) ?_
  refine LF.step (OpOk.gtr rfl rfl) ?_
  refine LF.step (OpOk.move rfl) ?_
  refine LF.gstep rfl rfl (.t _) (fun hg => OpOk.move rfl) ?_
  refine LF.gstep rfl rfl (.t _) (fun hg => OpOk.nilCheck (evg rfl hg)) ?_
  refine LF.gstep rfl rfl (.t _) (fun hg => OpOk.fieldAddr (Try.fld62_3) (evg rfl hg)) ?_
  refine LF.gstep rfl rfl (.t _) (fun hg => OpOk.ldBx hb31 Try.one4 (evg rfl hg) rfl) ?_
  refine LF.gstep rfl rfl (.t _) (fun hg => OpOk.not (evg rfl hg)) ?_
  refine LF.step (OpOk.pickAnd rfl rfl) ?_
  refine LF.nil (PF.next ?_)
  refine CF.if rfl (fun hc5 => ?_) (fun hc5 => ?_)
  obtain ⟨hc5a, hc5b⟩ := hc5
  subst hc5b
  have hmp : 0 < mv.length := by omega
  refine CF.skip (PF.next (CF.block (CF.seq (CF.region ?_))))
  refine LF.step (OpOk.ldBx hb14 Try.one23 rfl rfl) ?_
  refine LF.step (OpOk.makeFunc1 rfl) ?_
  refine LF.call (OpCall.fn Try.ent35 rfl rfl) (x9014.temp 1073741824 hin (by first | (simp only [List.length_append, List.length_take, List.length_drop, List.length_nil, List.length_cons, List.length_set, List.length_replicate]; omega) | (simp; done) | (simp; omega) | omega) (fun G1 lg1 hin1 hr1 => idxF_ct hin1 hr1 36 [.pointer (some ⟨g11, 0, none⟩)] Try.ent36 (zeroAt uv) (fun H' k9 x => zeroAt_ct (InH.none H') x (hm33.kp k9 hm33.lt) (hb11.kp k9)))) ?_
  rintro _ H81 ⟨rfl, k81⟩
  have zk81 := k81.1
  replace hin := hin.kp k81
  replace hkp := hkp.trans (k81.mono hkp.1)
  replace hb31 := hb31.kp k81
  replace hb10 := hb10.kp k81
  replace hb11 := hb11.kp k81
  replace hb14 := hb14.kp k81
  replace hb16 := hb16.kp k81
  replace x9014 := x9014.kp k81
  replace x9031 := x9031.kp k81
  replace hm32 := hm32.kp k81 hm32.lt
  replace hm33 := hm33.kp k81 hm33.lt
  refine LF.step (OpOk.assign rfl) (LF.nil (PF.next (CF.seq (CF.seq (CF.region (LF.step (OpOk.move rfl) ?_))))))
  refine LF.step (OpOk.geq rfl rfl) ?_
  refine LF.nil (PF.next ?_)
  refine CF.if rfl (fun hc6 => ?_) (fun hc6 => ?_)
  obtain ⟨i9, hi9, hil, hix, hf0⟩ := (idx_free hmok hUv).1 hc6
  have hfr := free_rng hmok hf0
  have hex := freeM_ex hf0
  have hff : ffM (leftM l) (freeM mv) = srcM mv (freeM mv) := by obtain ⟨m, hm, he⟩ := hex; rw [← he, hffe m hm, src_eq hkn hm]
  refine CF.seq (CF.region ?_)
  refine LF.step (OpOk.ldBx hb14 Try.one23 rfl rfl) ?_
  refine LF.step (OpOk.move rfl) ?_
  refine LF.step (OpOk.idxG (i := i9) Try.underlying23 Try.sz3 x9014 rfl rfl (by omega) (by first | omega | (simp only [List.length_replicate, List.length_set, List.length_append, List.length_cons, List.length_nil]; omega) | (simp only [List.length_append, List.length_take, List.length_replicate]; omega))) ?_
  refine LF.step (OpOk.ldGI x9014 (by first | omega | (simp only [List.length_replicate, List.length_set, List.length_append, List.length_cons, List.length_nil]; omega) | (simp only [List.length_append, List.length_take, List.length_replicate]; omega)) Try.one3 rfl) ?_
  rw [hix]
  refine LF.step (OpOk.assign rfl) (LF.nil (PF.next (CF.seq (CF.region (LF.step (OpOk.move rfl) (LF.step (OpOk.move rfl) ?_))))))
  refine LF.step (OpOk.ldBx hb10 Try.one63 rfl rfl) ?_
  refine LF.step (OpOk.move rfl) ?_
  refine LF.step (OpOk.lookupF Try.underlying63 Try.underlying3 Try.zero3 hm32 rfl rfl) ?_
  rw [hff]
  refine LF.call (OpCall.fn Try.ent37 rfl rfl) (pBringF_ct hin x9031 scr sp false (by first | omega | assumption) (by first | omega | assumption) (by first | omega | assumption) (by first | omega | assumption) hb31 ng31 (freeM mv) (srcM mv (freeM mv)) (by first | omega | assumption) (by first | omega | assumption)) ?_
  rintro _ H93 ⟨u93_0, rfl, i93, k93, b93, x93_0, lk93_0⟩
  have zk93 := k93.1
  have l93 := hkp.1
  replace x93_0 := x93_0.rebase (fun k0 hk0 => (lk93_0 k0 hk0).elim (fun h9 => (x9031.blk _ h9).1) (fun h9 => by omega))
  have ap20008_9014 := lk93_0.ap ap9031_9014 x9014.lt
  have ap9014_20008 := ap_sym ap20008_9014
  replace hkp := hkp.kw k93 (by rintro k0 (rfl | hk0); omega; exact x9031.ge k0 hk0)
  replace x9014 := (x9014).kw k93 (by intro k0 hk0; rintro (h9 | h9); subst h9; exact (x9014.neBx hb31 (by decide)) hk0; exact ap9014_9031 k0 hk0 h9)
  replace hm32 := hm32.of (k93.2 _ hm32.lt (by rintro (h9 | h9); exact hm32.neBx hb31 h9; exact hm32.neGl x9031 h9))
  replace hm33 := hm33.of (k93.2 _ hm33.lt (by rintro (h9 | h9); exact hm33.neBx hb31 h9; exact hm33.neGl x9031 h9))
  replace hb10 := hb10.kw k93 (by rintro (h9 | h9); exact (Bx.ne hb10 hb31 (by decide)) h9; exact (x9031.neBx hb10 (by decide)) h9)
  replace hb11 := hb11.kw k93 (by rintro (h9 | h9); exact (Bx.ne hb11 hb31 (by decide)) h9; exact (x9031.neBx hb11 (by decide)) h9)
  replace hb14 := hb14.kw k93 (by rintro (h9 | h9); exact (Bx.ne hb14 hb31 (by decide)) h9; exact (x9031.neBx hb14 (by decide)) h9)
  replace hb16 := hb16.kw k93 (by rintro (h9 | h9); exact (Bx.ne hb16 hb31 (by decide)) h9; exact (x9031.neBx hb16 (by decide)) h9)
  replace hin := i93
  clear i93
  replace hb31 := b93
  clear b93
  refine LF.nil (PF.next (CF.seq (CF.region ?_)))
  refine LF.step (OpOk.ldBx hb16 Try.one67 rfl rfl) ?_
  refine LF.step (OpOk.move rfl) ?_
  refine LF.call (OpCall.fnc Try.ent32 rfl rfl) (gone_ct hin (freeM mv) hm33 hm32 ng33 nem3233 hb11 hb10 x9014 hb14 ng14 (by omega) (by have h2 := cntM_rng mv ((ffM (leftM l)) (freeM mv)); rw [← hUv] at h2; omega) (by first | assumption | omega)) ?_
  rintro _ H96 ⟨vz96, rfl, i96, k96, m96, b96, x96, ob96⟩
  have zk96 := k96.1
  replace hin := i96
  replace hkp := hkp.kw k96 (by rintro k0 (rfl | rfl | h9); omega; omega; exact x9014.ge k0 h9)
  replace hb31 := hb31.kw k96 (by rintro (h9 | h9 | h9); exact (Bx.ne hb31 hb14 (by decide)) h9; exact hm33.neBx hb31 h9.symm; exact absurd h9 (x9014.neBx hb31 (by decide)))
  replace hb10 := hb10.kw k96 (by rintro (h9 | h9 | h9); exact (Bx.ne hb10 hb14 (by decide)) h9; exact hm33.neBx hb10 h9.symm; exact absurd h9 (x9014.neBx hb10 (by decide)))
  replace hb11 := hb11.kw k96 (by rintro (h9 | h9 | h9); exact (Bx.ne hb11 hb14 (by decide)) h9; exact hm33.neBx hb11 h9.symm; exact absurd h9 (x9014.neBx hb11 (by decide)))
  replace hb16 := hb16.kw k96 (by rintro (h9 | h9 | h9); exact (Bx.ne hb16 hb14 (by decide)) h9; exact hm33.neBx hb16 h9.symm; exact absurd h9 (x9014.neBx hb16 (by decide)))
  replace x93_0 := x93_0.kw k96 (by intro k0 hk0; rintro (h9 | h9 | h9); subst h9; exact x93_0.neBx hb14 (by decide) hk0; subst h9; exact hm33.neGl x93_0 hk0; exact ap20008_9014 k0 hk0 h9)
  replace hm32 := hm32.of (k96.2 _ hm32.lt (by rintro (h9 | h9 | h9); exact hm32.neBx hb14 h9; exact nem3233 h9; exact hm32.neGl x9014 h9))
  replace hb14 := b96
  replace hm33 := m96
  have ap40009_20008 : ∀ k9, vz96.ownBlock = some k9 → (u93_0 : Value).ownBlock ≠ some k9 := by rw [ob96]; exact ap9014_20008
  have ap20008_40009 := ap_sym ap40009_20008
  rw [← leftL_without] at x96
  refine LF.nil (PF.next (CF.exit (PF.thenExit (PF.blockHere ?_))))
  exact PF.againM (f - 1, withoutM mv (freeM mv), upF uv (ffM (leftM l) (freeM mv)) (uv (ffM (leftM l) (freeM mv)) - 1), vz96, u93_0, o ++ (bringX scr sp (freeM mv) (srcM mv (freeM mv))).getD [], false || (bringX scr sp (freeM mv) (srcM mv (freeM mv))).isNone, Ds, Fl) rfl ⟨by dsimp only; have := withoutM_lt hex; omega, by dsimp only; omega, withoutM_ok hmok _, keys_nodup hkn _, fun m hm => hsub m (List.mem_filter.1 hm).1, fun p => (by dsimp only; obtain ⟨m, hm, he⟩ := hex; rw [← he, hffe m hm, cnt_without hkn hm]; unfold upF; rw [hUv, hUv]), hno.app (NoArgs.bringX _ _ _ _), by dsimp only; have := bringLen scr sp (freeM mv) (srcM mv (freeM mv)); rw [List.length_append]; omega, by dsimp only; rw [hO, show eOf false = 0 from rfl, orderGo_free (by omega) hf0 hmf, bringL_0, bringE_lk], hDn, hDf, hx, le0, hin, hkp, hb31, ng31, hb10, ng10, hb11, ng11, hb14, ng14, hb16, ng16, x96, x93_0, ap40009_20008, hm32, ng32, hm33, ng33⟩ ⟨rfl, rfl, rfl, rfl, rfl, rfl, rfl, trivial⟩ (by dsimp only; omega)
  have hfn := (idx_free hmok hUv).2 (by omega)
  obtain ⟨hr1, hr2, hr3⟩ := circ_ring hmok hkn hfn hmp
  have hcm : ∀ p ∈ (circM mv (leastM mv)), ∃ m ∈ mv, m.To = p := fun p hp => by obtain ⟨m, hm, he⟩ := List.mem_map.1 (hr3 p hp); exact ⟨m, hm, he⟩
  have hring : RingOf (ffM (leftM l)) (leastM mv) (circM mv (leastM mv)) (ringX (ffM (leftM l)) (circM mv (leastM mv))) := ringX_of (ring_congr hr1 (fun p hp => by obtain ⟨m, hm, he⟩ := hcm p hp; rw [← he, hffe m hm, src_eq hkn hm])) (fun p hp => by obtain ⟨m, hm, he⟩ := hcm p hp; have := okM_mem hmok hm; rw [← he, hffe m hm]; exact this)
  have hclen : ((circM mv (leastM mv))).length ≤ mv.length := by have := nodup_len _ _ hr2 hr3; simpa [keysM] using this
  have hcne : (circM mv (leastM mv)) ≠ [] := by simp [circM]
  have hlr := leastM_rng hmok hmp
  refine CF.skip (PF.next (CF.seq (CF.region ?_)))
  refine LF.step (OpOk.ldBx hb14 Try.one23 rfl rfl) ?_
  refine LF.step (OpOk.idxG (i := 0) Try.underlying23 Try.sz3 x9014 rfl rfl (by omega) (by first | omega | (simp only [List.length_replicate, List.length_set, List.length_append, List.length_cons, List.length_nil]; omega) | (simp only [List.length_append, List.length_take, List.length_replicate]; omega))) ?_
  refine LF.step (OpOk.ldGI x9014 (by first | omega | (simp only [List.length_replicate, List.length_set, List.length_append, List.length_cons, List.length_nil]; omega) | (simp only [List.length_append, List.length_take, List.length_replicate]; omega)) Try.one3 rfl) ?_
  rw [head_least hmp]
  refine LF.step (OpOk.assign rfl) (LF.nil (PF.next (CF.seq (CF.region (LF.step (OpOk.move rfl) ?_)))))
  refine LF.step (OpOk.ldBx hb10 Try.one63 rfl rfl) ?_
  refine LF.step (OpOk.move rfl) ?_
  refine LF.call (OpCall.fn Try.ent38 rfl rfl) (pRound_ct hin x9031 scr sp (by first | omega | assumption) (by first | omega | assumption) (by first | omega | assumption) hb31 ng31 hm32 ng32 (leastM mv) hlr (show ((circM mv (leastM mv))).length ≤ 1000 by omega) hring hno) ?_
  rintro _ H103 ⟨F103, u103_0, rfl, x103, i103, k103, b103, x103_0, lk103_0⟩
  have zk103 := k103.1
  have l103 := hkp.1
  replace hx := hx.trans x103 hkp.1
  replace x103_0 := x103_0.rebase (fun k0 hk0 => (lk103_0 k0 hk0).elim (fun h9 => (x9031.blk _ h9).1) (fun h9 => by omega))
  have ap20010_9014 := lk103_0.ap ap9031_9014 x9014.lt
  have ap9014_20010 := ap_sym ap20010_9014
  replace hkp := hkp.kw k103 (by rintro k0 (rfl | hk0); omega; exact x9031.ge k0 hk0)
  replace ng31 := x103.no ng31 hb31.lt
  replace ng10 := x103.no ng10 hb10.lt
  replace ng11 := x103.no ng11 hb11.lt
  replace ng14 := x103.no ng14 hb14.lt
  replace ng16 := x103.no ng16 hb16.lt
  replace ng32 := x103.no ng32 hm32.lt
  replace ng33 := x103.no ng33 hm33.lt
  replace x9014 := (x9014.ext x103).kw k103 (by intro k0 hk0; rintro (h9 | h9); subst h9; exact (x9014.neBx hb31 (by decide)) hk0; exact ap9014_9031 k0 hk0 h9)
  replace hm32 := hm32.of (k103.2 _ hm32.lt (by rintro (h9 | h9); exact hm32.neBx hb31 h9; exact hm32.neGl x9031 h9))
  replace hm33 := hm33.of (k103.2 _ hm33.lt (by rintro (h9 | h9); exact hm33.neBx hb31 h9; exact hm33.neGl x9031 h9))
  replace hb10 := hb10.kw k103 (by rintro (h9 | h9); exact (Bx.ne hb10 hb31 (by decide)) h9; exact (x9031.neBx hb10 (by decide)) h9)
  replace hb11 := hb11.kw k103 (by rintro (h9 | h9); exact (Bx.ne hb11 hb31 (by decide)) h9; exact (x9031.neBx hb11 (by decide)) h9)
  replace hb14 := hb14.kw k103 (by rintro (h9 | h9); exact (Bx.ne hb14 hb31 (by decide)) h9; exact (x9031.neBx hb14 (by decide)) h9)
  replace hb16 := hb16.kw k103 (by rintro (h9 | h9); exact (Bx.ne hb16 hb31 (by decide)) h9; exact (x9031.neBx hb16 (by decide)) h9)
  replace le0 := le0.trans x103.1
  have le1 := x103.1
  replace hin := i103
  clear i103
  replace hb31 := b103
  clear b103
  refine LF.nil (PF.next (CF.seq (CF.region ?_)))
  refine LF.step (OpOk.ldBx hb10 Try.one63 rfl rfl) ?_
  refine LF.step (OpOk.move rfl) ?_
  refine LF.call (OpCall.fn Try.ent39 rfl rfl) (ring_ct hin (leastM mv)) ?_
  rintro _ H106 ⟨gx106, gm106, rfl, sgx106, sgm106, k106, hbgx106, hbgm106⟩
  have ngx106 := hin.nope sgx106
  have ngm106 := hin.nope sgm106
  have l106 := hkp.1
  have nb20106_10 : g10 ≠ gm106 := by have := hb10.lt; omega
  have nb20106_11 : g11 ≠ gm106 := by have := hb11.lt; omega
  have nq9014_10106 : (vl : Value).ownBlock ≠ some gx106 := fun h9 => by have := x9014.lt _ h9; omega
  have zk106 := k106.1
  replace hin := hin.kp k106
  replace hkp := hkp.trans (k106.mono hkp.1)
  replace hb31 := hb31.kp k106
  replace hb10 := hb10.kp k106
  replace hb11 := hb11.kp k106
  replace hb14 := hb14.kp k106
  replace hb16 := hb16.kp k106
  replace x9014 := x9014.kp k106
  replace x103_0 := x103_0.kp k106
  replace hm32 := hm32.kp k106 hm32.lt
  replace hm33 := hm33.kp k106 hm33.lt
  refine LF.nil (PF.next (CF.block ?_))
  have hinS1 := hin
  have hsS1 := hkp.1
  have ltS1_32 := hm32.lt
  have ltS1_33 := hm33.lt
  refine CF.rangeFuncC (ps := [107, 108]) (bl := [gx106, gm106, g32]) (xs := (ringX (ffM (leftM l)) (circM mv (leastM mv)))) (encs := plEnc) (fun x => [(6, .slice none 0 0), (7, .int .i64 0), (9, .pointer (some ⟨g31, 0, none⟩)), (10, .pointer (some ⟨g10, 0, none⟩)), (11, .pointer (some ⟨g11, 0, none⟩)), (14, .pointer (some ⟨g14, 0, none⟩)), (16, .pointer (some ⟨g16, 0, none⟩)), (106, .func (.func 63) #[] #[.pointer (some ⟨gx106, 0, none⟩), .pointer (some ⟨gm106, 0, none⟩)]), (20, .int .i64 (plP x))]) (fun pre H1 => ∃ (vl2 : Value), True ∧ InH F103 H1 ∧ Kp H.size H H1 ∧ Bx H1 g31 62 [u103_0, .int .i64 scr, .int .i64 sp, .bool (decide ((roundR scr sp (circM mv (leastM mv)) o 0).2 ≠ 0))] ∧ Bx H1 g10 63 [.map (some g32)] ∧ Bx H1 g11 63 [.map (some g33)] ∧ Bx H1 g14 23 [vl2] ∧ Bx H1 g16 67 [.func (.func 32) #[] #[.pointer (some ⟨g11, 0, none⟩), .pointer (some ⟨g10, 0, none⟩), .pointer (some ⟨g14, 0, none⟩)]] ∧ Bx H1 gx106 3 [.int .i64 ((leastM mv))] ∧ Bx H1 gm106 63 [.map (some g32)] ∧ Gl (rI .i64) 3 F103 H1 H.size vl2 (goneL (leftL mv) (pre.map plP)) ∧ Gl rMach 39 F103 H1 H.size u103_0 ((roundR scr sp (circM mv (leastM mv)) o 0).1) ∧ (∀ k9, (vl2 : Value).ownBlock = some k9 → (u103_0 : Value).ownBlock ≠ some k9) ∧ (vl2 : Value).ownBlock ≠ some gx106 ∧ Mf H1 g32 (.int .i64 0) (fun j9 => .int .i64 ((ffM (leftM l)) j9)) ∧ Mf H1 g33 (.int .i64 0) (fun j9 => .int .i64 ((goneU (ffM (leftM l)) uv (pre.map plP)) j9))) rfl Try.ent63 (ring_iter hbgx106 hbgm106 hm32 hring.1 hring.2.1 hring.2.2) (by intro k0 h0; simp only [List.mem_cons, List.not_mem_nil, or_false] at h0; rcases h0 with rfl | rfl | rfl; exact hbgx106.lt; exact hbgm106.lt; exact hm32.lt) (fun _ => rfl) rfl ?_ ⟨vl, trivial, hin, hkp, hb31, hb10, hb11, hb14, hb16, hbgx106, hbgm106, x9014, x103_0, ap9014_20010, nq9014_10106, hm32, hm33⟩ ?_ ?_ ?_
  · rintro pre H1 H2 ⟨vl2, hT, hin, hkp, hb31, hb10, hb11, hb14, hb16, hbgx106, hbgm106, x9014, x103_0, ap9014_20010, nq9014_10106, hm32, hm33⟩ c9; exact ⟨vl2, hT, hin.cg hinS1 c9, hkp.cg (Nat.le_refl _) hsS1 c9, hb31.cg c9, hb10.cg c9, hb11.cg c9, hb14.cg c9, hb16.cg c9, hbgx106.cg c9, hbgm106.cg c9, x9014.cg c9, x103_0.cg c9, ap9014_20010, nq9014_10106, hm32.cg ltS1_32 c9, hm33.cg ltS1_33 c9⟩
  · intro lx x Hx
    refine RCF.region ?_
    refine LF.step (OpOk.assign rfl) ?_
    refine RLF.nil ?_
    exact PF.assigned ⟨rfl, rfl, rfl, rfl, rfl, rfl, rfl, rfl, rfl, trivial⟩
  · rintro lx pre x Hs ⟨vl2, hT, hin, hkp, hb31, hb10, hb11, hb14, hb16, hbgx106, hbgm106, x9014, x103_0, ap9014_20010, nq9014_10106, hm32, hm33⟩ hlt1 hsz1
    have ap20010_9014 := ap_sym ap9014_20010
    have hgu := goneU_rng (ffM (leftM l)) (pre.map plP) uv
    have hgl := goneL_len (pre.map plP) (leftL mv)
    have hpx := plP_rng x
    have hxl9 := hring.2.1
    have sb10106 := hbgx106
    have sb20106 := hbgm106
    have tk32 : Hs[g32]? = Hs[g32]? := rfl
    have hnc := Nc.start hsz1
    refine RCF.block ?_
    refine RCF.region ?_
    refine LF.step (OpOk.ldBx hb16 Try.one67 rfl rfl) ?_
    refine LF.step (OpOk.move rfl) ?_
    refine LF.call (OpCall.fnc Try.ent32 rfl rfl) (gone_ct hin (plP x) hm33 hm32 ng33 nem3233 hb11 hb10 x9014 hb14 ng14 (by omega) (by have h1 := hgu ((ffM (leftM l)) (plP x)); rw [hUv] at h1; have h2 := cntM_rng mv ((ffM (leftM l)) (plP x)); simp only [List.length_map] at h1; omega) (by first | assumption | omega)) ?_
    rintro _ H111 ⟨vz111, rfl, i111, k111, m111, b111, x111, ob111⟩
    have zk111 := k111.1
    replace hnc := hnc.kw k111 (by intro k0 o0 hN h8; rintro (rfl | rfl | h9); exact hb14.isc h8; exact absurd hN (by omega); exact x9014.isc h9 h8)
    replace hin := i111
    replace hkp := hkp.kw k111 (by rintro k0 (rfl | rfl | h9); omega; omega; exact x9014.ge k0 h9)
    replace hb31 := hb31.kw k111 (by rintro (h9 | h9 | h9); exact (Bx.ne hb31 hb14 (by decide)) h9; exact hm33.neBx hb31 h9.symm; exact absurd h9 (x9014.neBx hb31 (by decide)))
    replace hb10 := hb10.kw k111 (by rintro (h9 | h9 | h9); exact (Bx.ne hb10 hb14 (by decide)) h9; exact hm33.neBx hb10 h9.symm; exact absurd h9 (x9014.neBx hb10 (by decide)))
    replace hb11 := hb11.kw k111 (by rintro (h9 | h9 | h9); exact (Bx.ne hb11 hb14 (by decide)) h9; exact hm33.neBx hb11 h9.symm; exact absurd h9 (x9014.neBx hb11 (by decide)))
    replace hb16 := hb16.kw k111 (by rintro (h9 | h9 | h9); exact (Bx.ne hb16 hb14 (by decide)) h9; exact hm33.neBx hb16 h9.symm; exact absurd h9 (x9014.neBx hb16 (by decide)))
    replace hbgx106 := hbgx106.kw k111 (by rintro (h9 | h9 | h9); exact (Bx.ne hbgx106 hb14 (by decide)) h9; exact hm33.neBx hbgx106 h9.symm; exact absurd h9 (by first | exact x9014.neLt (by omega) | exact nq9014_10106))
    replace hbgm106 := hbgm106.kw k111 (by rintro (h9 | h9 | h9); exact (Bx.ne hbgm106 hb14 (by decide)) h9; exact hm33.neBx hbgm106 h9.symm; exact absurd h9 (x9014.neBx hbgm106 (by decide)))
    replace x103_0 := x103_0.kw k111 (by intro k0 hk0; rintro (h9 | h9 | h9); subst h9; exact x103_0.neBx hb14 (by decide) hk0; subst h9; exact hm33.neGl x103_0 hk0; exact ap20010_9014 k0 hk0 h9)
    replace tk32 := (k111.2 _ hm32.lt (by rintro (h9 | h9 | h9); exact hm32.neBx hb14 h9; exact nem3233 h9; exact hm32.neGl x9014 h9)).trans tk32
    replace hm32 := hm32.of (k111.2 _ hm32.lt (by rintro (h9 | h9 | h9); exact hm32.neBx hb14 h9; exact nem3233 h9; exact hm32.neGl x9014 h9))
    replace hb14 := b111
    replace hm33 := m111
    have ap40011_20010 : ∀ k9, vz111.ownBlock = some k9 → (u103_0 : Value).ownBlock ≠ some k9 := by rw [ob111]; exact ap9014_20010
    have ap20010_40011 := ap_sym ap40011_20010
    have nq40011_10106 : vz111.ownBlock ≠ some gx106 := by rw [ob111]; exact nq9014_10106
    refine RLF.nil ?_
    refine PF.blockNormal ?_
    rw [← goneL_snoc, show pre.map plP ++ [plP x] = (pre ++ [x]).map plP from by simp] at x111
    rw [← goneU_snoc, show pre.map plP ++ [plP x] = (pre ++ [x]).map plP from by simp] at hm33
    exact PF.roundC (by omega) hnc (keep3 hbgx106 sb10106 hbgm106 sb20106 tk32) ⟨vz111, trivial, hin, hkp, hb31, hb10, hb11, hb14, hb16, hbgx106, hbgm106, x111, x103_0, ap40011_20010, nq40011_10106, hm32, hm33⟩
  · rintro D1 HD1 ⟨vl2, hT, hin, hkp, hb31, hb10, hb11, hb14, hb16, hbgx106, hbgm106, x9014, x103_0, ap9014_20010, nq9014_10106, hm32, hm33⟩ hD1 hsz1 hmk1
    have ap20010_9014 := ap_sym ap9014_20010
    have nD1 := hinS1.nope hD1
    obtain ⟨FD, leD, hinD, hFD, hnD⟩ := markF hin hmk1 nD1
    have le1a := le1
    replace hx := PH.ext.mark hx leD hnD (by omega)
    replace hin := hinD
    replace le0 := le0.trans leD
    replace le1 := le1.trans leD
    have le2 := leD
    replace ng31 := (hnD _ (hmk1.neBx hb31).symm).trans ng31
    replace ng10 := (hnD _ (hmk1.neBx hb10).symm).trans ng10
    replace ng11 := (hnD _ (hmk1.neBx hb11).symm).trans ng11
    replace ng14 := (hnD _ (hmk1.neBx hb14).symm).trans ng14
    replace ng16 := (hnD _ (hmk1.neBx hb16).symm).trans ng16
    replace ngx106 := (hnD _ (hmk1.neBx hbgx106).symm).trans ngx106
    replace ngm106 := (hnD _ (hmk1.neBx hbgm106).symm).trans ngm106
    replace ng32 := (hnD _ (hmk1.neMf hm32).symm).trans ng32
    replace ng33 := (hnD _ (hmk1.neMf hm33).symm).trans ng33
    replace x9014 := x9014.reF leD (fun k9 hk9 => hnD k9 (fun e9 => hmk1.neGl x9014 (e9 ▸ hk9)))
    replace x103_0 := x103_0.reF leD (fun k9 hk9 => hnD k9 (fun e9 => hmk1.neGl x103_0 (e9 ▸ hk9)))
    obtain ⟨hg1, hg2, hg3, hg4⟩ := gone_all (ff := (ffM (leftM l))) (circM mv (leastM mv)) hkn hr2 hr3 hffe hUv
    rw [ring_ix hring] at hm33
    rw [ring_ix hring, hg3] at x9014
    refine PF.blockNormal ?_
    refine PF.blockNormal ?_
    exact PF.againM (f - 1, withoutAll mv (circM mv (leastM mv)), goneU (ffM (leftM l)) uv (circM mv (leastM mv)), vl2, u103_0, (roundR scr sp (circM mv (leastM mv)) o 0).1, decide ((roundR scr sp (circM mv (leastM mv)) o 0).2 ≠ 0), D1 :: Ds, FD) rfl ⟨by dsimp only; have := circ_lt hmp; omega, by dsimp only; omega, withoutAll_ok _ hmok, hg1, fun m hm => hsub m (hg4 m hm), hg2, roundR_args _ _ hno, by dsimp only; have := roundR_len (scr := scr) (sp := sp) hcne o 0; omega, by dsimp only; rw [hO, show eOf false = 0 from rfl, orderGo_circ (by omega) (by omega) hmf, ← roundR_two], List.nodup_cons.2 ⟨fun h9 => (by have h8 := le1a D1 _ (hDf D1 h9).1; rw [nD1] at h8; cases h8), hDn⟩, fun D h9 => (by rcases List.mem_cons.1 h9 with rfl | h9; (· exact ⟨hFD, by omega⟩); exact ⟨le1 _ _ (hDf D h9).1, (hDf D h9).2⟩), hx, le0, hin, hkp, hb31, ng31, hb10, ng10, hb11, ng11, hb14, ng14, hb16, ng16, x9014, x103_0, ap9014_20010, hm32, ng32, hm33, ng33⟩ ⟨rfl, rfl, rfl, rfl, rfl, rfl, rfl, trivial⟩ (by dsimp only; omega)
  refine CF.exit (PF.thenExit (PF.thenExit (PF.blockHere (PF.next (CF.seq (CF.seq (CF.region (LF.step (OpOk.move rfl) ?_))))))))
  refine LF.step (OpOk.nilCheck rfl) ?_
  refine LF.step (OpOk.fieldAddr (Try.fld62_3) rfl) ?_
  refine LF.step (OpOk.ldBx hb31 Try.one4 rfl rfl) ?_
  refine LF.nil (PF.next ?_)
  refine CF.if rfl (fun hc7 => ?_) (fun hc7 => ?_)
  refine CF.seq (CF.region (LF.step (OpOk.assign rfl) (LF.step (OpOk.assign rfl) (LF.nil (PF.next (CF.ret (PF.thenRet ?_)))))))
  have hMk : ∀ D ∈ Ds, Mk _ D := fun D hD => hin D _ (hDf D hD).1
  have hin0 := hin.down le0
  have hF0 : ∀ D ∈ Ds, F D = none := fun D hD => hin00.nope (hDf D hD).2
  have hin1 := hin0.putos hF0
  have hk1 := hkp.putos (fun D hD => (hDf D hD).2)
  have hres : orderR l scr sp = ([], 43) := by have h9 := orderR_end hc1 hO (.inr hc7); rw [hc7] at h9; exact h9
  exact PF.ret2Ms (Ds := Ds) rfl rfl rfl hDn hMk ⟨F, PH.ext.refl F, hin1, hk1, .slice none 0 0, by rw [hres], by rw [hres]; exact rL.nil _⟩
  refine CF.skip (PF.next (CF.seq (CF.region (LF.step (OpOk.move rfl) ?_))))
  refine LF.step (OpOk.nilCheck rfl) ?_
  refine LF.step (OpOk.fieldAddr (Try.fld62_0) rfl) ?_
  refine LF.step (OpOk.ldBx hb31 Try.one34 rfl rfl) ?_
  refine LF.step (OpOk.assign rfl) (LF.step (OpOk.assign rfl) (LF.nil (PF.next (CF.ret ?_))))
  have hMk : ∀ D ∈ Ds, Mk _ D := fun D hD => hin D _ (hDf D hD).1
  have hin0 := hin.down le0
  have hF0 : ∀ D ∈ Ds, F D = none := fun D hD => hin00.nope (hDf D hD).2
  have hin1 := hin0.putos hF0
  have hk1 := hkp.putos (fun D hD => (hDf D hD).2)
  have hres : orderR l scr sp = (o, 0) := by have h9 := orderR_end hc1 hO (hc5.imp (fun h8 => by omega) id); rw [hc7] at h9; exact h9
  have hd := (downM x9031 le0 hno).putos hMk
  obtain ⟨Fz, hxz, lez, hinz, _, hrz⟩ := hd.freezeX hin1 (PH.ext.refl (H := H) F) (Nat.le_refl _) (by omega)
  exact PF.ret2Ms (Ds := Ds) rfl rfl rfl hDn hMk ⟨Fz, hxz, hinz, hk1, _, by rw [hres], by rw [hres]; exact hrz⟩

end Go.Proofs.Ytcceglmmpbdhiaa
