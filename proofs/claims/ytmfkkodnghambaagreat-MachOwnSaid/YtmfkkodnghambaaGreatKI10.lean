/- Lemmas that the claim is made of. Conditions: each lemma names its own. -/
import Derived.Test.YtmfkkodnghambaaGreatKI8
import Derived.Test.YtmfkkodnghambaaGreatKI9
set_option linter.unusedSectionVars false
set_option linter.unusedSimpArgs false
set_option linter.unusedVariables false
namespace Go.Proofs.YtmfkkodnghambaaGreat
open Go.JE
abbrev U130 := @Tryz.underlying130
theorem E62 : Ent Tryz.prog 62 := ⟨_,Tryz.func62,by kernel_rfl,by kernel_rfl⟩
theorem E63 : Ent Tryz.prog 63 := ⟨_,Tryz.func63,by kernel_rfl,by kernel_rfl⟩
theorem E67 : Ent Tryz.prog 67 := ⟨_,Tryz.func67,by kernel_rfl,by kernel_rfl⟩
theorem E68 : Ent Tryz.prog 68 := ⟨_,Tryz.func68,by kernel_rfl,by kernel_rfl⟩
theorem E69 : Ent Tryz.prog 69 := ⟨_,Tryz.func69,by kernel_rfl,by kernel_rfl⟩
theorem I111 : (Tryz.prog.info? 111).map (fun i => (i.zero,i.size,i.bytes)) = some (some (.agg #[.int .i64 0,.int .i64 0]),2,16) := by kernel_rfl
theorem I129 : (Tryz.prog.info? 129).map (fun i => (i.zero,i.size,i.bytes)) = some (some (.slice none 0 0),1,24) := by kernel_rfl
theorem I62 : (Tryz.prog.info? 62).map (fun i => (i.zero,i.size,i.bytes)) = some (some (.agg #[.slice none 0 0,.slice none 0 0,.int .i64 0,.slice none 0 0,.slice none 0 0,.int .i32 0]),6,112) := by kernel_rfl
theorem I65 : (Tryz.prog.info? 65).map (fun i => (i.zero,i.size,i.bytes)) = some (some (.agg #[.int .i64 0,.slice none 0 0]),2,32) := by kernel_rfl
theorem O129 : One Tryz.prog 129 := ⟨_,Tryz.underlying129,rfl⟩
theorem Z129 : Sz Tryz.prog 129 1 := by unfold Sz; kernel_rfl
theorem Z47 : Sz Tryz.prog 47 1 := by unfold Sz; kernel_rfl
theorem Z57 : Sz Tryz.prog 57 1 := by unfold Sz; kernel_rfl
theorem Z63 : Sz Tryz.prog 63 1 := by unfold Sz; kernel_rfl
theorem J49 : (Tryz.prog.info? 49).bind (·.zero) = some (.agg #[.int .i64 0,.slice none 0 0]) := by kernel_rfl
set_option maxRecDepth 8000 in
set_option maxHeartbeats 2000000 in
theorem r3made_ct {a0 : Value} {s : List Int} : Ts Tryz.prog 31 #[a0] [dv (rL (rI .i64)) a0 s] [] rFunc vFunc (made3 s) := by
 refine jenter (args := [a0]) Tryz.func31 rfl rfl rfl fun w0 X => ?_
 refine jq (jr (jalc J49 Z fun g2 => jn (jx (jq (jr (jm Z (jdq d0 fun q1 w1 => js (jbu (v := .agg #[a0,.int .i64 0,.int .i64 0,.slice none 0 0,.int .i64 0,.slice none 0 0]) Z (fun _ => by obtain ⟨_,_,_,rfl⟩ := w1; kernel_rfl)) (jbox Z Z fun g33 => jnl (r := (rI .i64)) (E := 3) ?_))))))))
 refine jbnil (jkn (c := 0) ⟨s,0,0,[],0,[]⟩ (kc k2 (kc k1 (kc k0 kn))) ⟨okM0 _,Z⟩ fun mm0 hmm0 omm0 bmm0 => lbk k2 (okM.bnd omm0.1).2.2.2.2.2.2.2.1 fun hvb => ja Z (jn (jx (jq (jr (jm Z (jm Z (jkr E47 Z Z (m3take_ct omm0 (by omega) 5 (by first | decide | omega | (dsimp only; omega) | (simp only [fnM]; omega))) (dc d0 dn) (kd (kc k0 kn)) ⟨tO9 omm0.1,omm0.2⟩ fun m36 hm36 om36 bm36 => ?_))))))))
 have w36_0 : IntKind.i64.wrap (tVV 5 mm0) = tVV 5 mm0 := (IntWalk.i64_in _ (by have h9 := @tV9 5 (by omega) mm0; omega))
 have tr36 := @tV9 5 (by omega) mm0
 clear bmm0
 refine js (jnil Z) (js (jf F108_2 Z) (js (jf F49_0 Z) (jst k0 Z3 Z Z Z s2 (jkn (c := 1) ({ m36 with par := tVV 5 mm0 }) (kd (kc k0 kn)) ⟨(okM.setpar om36.1 (by omega) (Nat.le_refl _)),om36.2⟩ fun ms2 hms2 oms2 bms2 => ?_))))
 clear bm36
 refine jn (jx (jq (jr (jm Z (jm Z (js (jnil Z) (js (jf F108_2 Z) (js (jf F49_0 Z) (js (jl k0 O3 Z Z) (js (jnil Z) (js (jf F108_3 Z) ?_)))))))))))
 refine jst k0 Z3 Z Z Z s4 (jkn (c := 10) ({ ms2 with nx := ms2.par }) (kd (kc k0 kn)) ⟨(okM.setnx oms2.1 (by omega) (by omega)),oms2.2⟩ fun ms3 hms3 oms3 bms3 => ?_)
 clear bms2
 refine jn (jx (jq (jr (jm Z (jkr E47 Z Z (m3take_ct oms3 (by omega) 9 (by first | decide | omega | (dsimp only; omega) | (simp only [fnM]; omega))) (dc d0 dn) (kd (kc k0 kn)) ⟨tO9 oms3.1,oms3.2⟩ fun m49 hm49 om49 bm49 => ?_)))))
 have w49_0 : IntKind.i64.wrap (tVV 9 ms3) = tVV 9 ms3 := (IntWalk.i64_in _ (by have h9 := @tV9 9 (by omega) ms3; omega))
 have tr49 := @tV9 9 (by omega) ms3
 clear bms3
 refine js (jadd Z Z (by omega)) ?_
 generalize hnn : 1 + (tVV 9 ms3) = nn at ⊢
 refine ja Z (jn (jx (jq (jr (jm Z (jm Z (jkd E62 Z Z (m3targ_ct om49 (by omega) nn (by first | decide | omega | (dsimp only; omega) | (simp only [fnM]; omega))) (dc d0 dn) (kd (kc k0 kn)) ⟨targ_ok om49.1 (by omega),(targM_s.trans om49.2)⟩ (h1 := targM_lv) (h2 := targM_bs) fun m53 hm53 om53 bm53 v53 q4 w4 => ?_)))))))
 clear bm49
 have htl := targM_len nn m49
 refine ja Z (jn (jx (jq (jr (jm Z (jm Z (jbmk (m := (Int.toNat nn)) U47 I62 Z Z Z (by omega) (by omega) (by omega) fun g56 => js (jnil Z) (js (jf F108_2 Z) (js (jf F49_1 Z) (jst k1 Z47 Z Z Z s3 ?_))))))))))
 refine jkn (c := 100) ({ m53 with bs := List.replicate (Int.toNat nn) default }) (kc k0 (kc k1 (kc k0 kn))) ⟨(okM.mono (okM.setbs om53.1) (by omega)),om53.2⟩ fun ms6 hms6 oms6 bms6 => ?_
 clear bm53
 refine lbk k2 (okM.bnd oms6.1).2.2.2.2.2.2.2.1 fun hvb7 => jn (jx (jq (jq (jr (ja Z (jn (jx (jb ?_))))))))
 refine jlp (u4 fun (b1 : Nat) (mq : Mk) (al1 : Value) (qs1 : List BV) => ⟨b1 ≤ (Int.toNat (nn)) ∧ pl mq = pl ms6 ∧ toS ((targM nn m49).1) (Int.toNat (nn)) 0 ms6 = toS ((targM nn m49).1) ((Int.toNat (nn)) - b1) b1 mq ∧ okS (Int.toNat nn) (100) s mq,[dv (rL (rL (rI .i64))) v53 ((targM nn m49).1),dv (rL (rI .i64)) a0 s],[bx g33 108 [a0,.int .i64 mq.k,.int .i64 mq.par,(.slice (some ⟨g56,0,none⟩) (Int.toNat nn) (Int.toNat nn)),.int .i64 mq.nx,al1],gl X.n (rI .i64) 3 al1 mq.lv,bk X.n (.slice (some ⟨g56,0,none⟩) (Int.toNat nn) (Int.toNat nn)) qs1 mq.bs,bx g2 49 [.int .i64 0,.slice none 0 0]],[(2,.pointer (some ⟨g2,0,none⟩)),(3,.pointer (some ⟨g33,0,none⟩)),(4,.int .i64 nn),(5,v53),(6,.int .i64 (↑b1))],(Int.toNat (nn)) - b1⟩) (0,ms6,(.slice none 0 0),List.replicate (Int.toNat nn) default) ⟨Nat.zero_le _,rfl,rfl,oms6.mono (by omega)⟩ (dc d0 (dc d1 dn)) (kd (kc k0 (kc k1 kn))) ⟨Z,Z,Z,Z,eqI (by omega),trivial⟩ ?_
 rintro ⟨b1,mq,al1,qs1⟩; dsimp only [u4]; rintro ⟨hb1,hpq,hR1,okL1⟩
 refine cgo k1 fun w8 => ?_
 have bdL1 := okM.bnd okL1.1
 clear bms6
 refine jq (jq (jr (jm Z (jm Z (js (jlss Z Z) (jn (jx ?_)))))))
 refine jif Z (fun hc1 => ?_) (fun hc1 => ?_)
 refine jsk (jx (jq (jb (jtl 13 Mixed (by kernel_rfl) (jt (jmv Z) (jt (jnil Z) (jt (jf F108_2 Z) (jt (jf F49_1 Z) (jt (jl k0 O47 Z Z) (jt (jmv Z) (jt (jmv Z) ?_)))))))))))
 refine jt (jmv Z) (jt (jix U125 Z22 d0 Z Z Z (by omega)) (jtv (jlV (dix d0 b1 (by omega)) O22 Z Z) fun v74 q9 w9 => jt (jbi' (j := b1) U47 Z62 hvb7 Z Z Z (by omega)) (jt (jf F62_2 Z) (jt (jf F60_2 Z) (jtt (jbTo k2 (by omega) Z22 Z Z Z w9.one d0 (jkn (c := 100) ({ mq with bs := List.set mq.bs b1 { (ix mq.bs b1) with Term := { (ix mq.bs b1).Term with To := ix ((targM nn m49).1) b1 } } }) (kc k1 (kc k1 (kc k0 kn))) ⟨(okM.setb (d := 0) okL1.1 (Nat.le_refl _)),okL1.2⟩ fun ms11 hms11 oms11 bms11 => ?_)))))))
 clear bdL1
 refine jn (jbn (jx (jr (jm Z (js (jadd Z Z (by omega)) (ja Z (jn ?_)))))))
 exact jag (b1 + 1,ms11,al1,List.set qs1 b1 { (ix qs1 b1) with T := { (ix mq.bs b1).Term with To := ix ((targM nn m49).1) b1 } }) ⟨by dsimp only; omega,by dsimp only; rw [hms11]; exact (pl_setTo (b := b1) (m := mq)).trans hpq,by dsimp only; rw [hR1,show (Int.toNat (nn)) - b1 = ((Int.toNat (nn)) - (b1 + 1)) + 1 by omega,toS]; (try simp only [hms11]); rfl,oms11.mono (Nat.le_refl _)⟩ (dc d1 (dc d2 dn)) (kd (kd kn)) ⟨Z,Z,Z,Z,eqI (by omega),trivial⟩
 have hE1 : toS ((targM nn m49).1) (Int.toNat (nn)) 0 ms6 = mq := by rw [hR1,show (Int.toNat (nn)) - b1 = 0 by omega]; rfl
 refine jex (jtx (jtx (jbh (jx (jq (jr (jm Z (jmk (m := (Int.toNat nn)) (r := (rI .i64)) U22 I3 Z Z Z (by omega) (by omega) (by omega) (wI (wp (by decide))) Z fun g79 => ja Z (jn (jx ?_))))))))))
 refine jq (jq (jr (ja Z (jn (jx (jb ?_))))))
 refine jlp (u5 fun (b2 : Nat) (ph : List Int) (mr : Mk) (al2 : Value) (qs2 : List BV) => ⟨(1 ≤ b2 ∧ b2 ≤ (Int.toNat (nn))) ∧ ph.length = (Int.toNat (nn)) ∧ (∀ j,0 ≤ ix ph j ∧ ix ph j ≤ 3) ∧ phiOK b2 ph mr ∧ phiS ((Int.toNat (nn)) - 1) 1 (List.replicate (Int.toNat nn) 0) mq = phiS ((Int.toNat (nn)) - b2) b2 ph mr ∧ okS (Int.toNat nn) (100 + 7 * b2) s mr,[dv (rL (rL (rI .i64))) v53 ((targM nn m49).1),dv (rL (rI .i64)) a0 s],[gl X.n (rI .i64) 3 (.slice (some ⟨g79,0,none⟩) (Int.toNat nn) (Int.toNat nn)) ph,bx g33 108 [a0,.int .i64 mr.k,.int .i64 mr.par,(.slice (some ⟨g56,0,none⟩) (Int.toNat nn) (Int.toNat nn)),.int .i64 mr.nx,al2],gl X.n (rI .i64) 3 al2 mr.lv,bk X.n (.slice (some ⟨g56,0,none⟩) (Int.toNat nn) (Int.toNat nn)) qs2 mr.bs,bx g2 49 [.int .i64 0,.slice none 0 0]],[(2,.pointer (some ⟨g2,0,none⟩)),(3,.pointer (some ⟨g33,0,none⟩)),(4,.int .i64 nn),(5,v53),(7,(.slice (some ⟨g79,0,none⟩) (Int.toNat nn) (Int.toNat nn))),(8,.int .i64 (↑b2))],(Int.toNat (nn)) - b2⟩) (1,List.replicate (Int.toNat nn) 0,mq,al1,qs1) ⟨by omega,by simp,rng_rep,phi_start hpq (by rw [hms6]),rfl,okL1.mono (by omega)⟩ (dc d0 (dc d1 dn)) (kd (kd (kc k0 kn))) ⟨Z,Z,Z,Z,Z,eqI (by omega),trivial⟩ ?_
 rintro ⟨b2,ph,mr,al2,qs2⟩; dsimp only [u5]; rintro ⟨hb2,hpl2,hph,hOK2,hR2,okL2⟩
 refine cgo k2 fun w12 => ?_
 have bdL2 := okM.bnd okL2.1
 clear bdL1
 have hmrl := okL2.1.2.2.2.2.1
 refine jq (jq (jr (jm Z (jm Z (js (jlss Z Z) (jn (jx ?_)))))))
 refine jif Z (fun hc2 => ?_) (fun hc2 => ?_)
 refine jsk (jx (jq (jb (jq (jr (jm Z (js (jnil Z) (js (jf F108_2 Z) (js (jla k1 A49 Z49 Z Z Z) (jm Z (jc E63 Z Z (Tg_bt (Tr.dd (r3preds_ct (f := fnM mr) ↑b2) (fn_dd (IntWalk.i64_in _ (by show _ ≤ mr.par ∧ mr.par ≤ _; omega)))) (okL2.lens (by omega) (by omega))) dn (kc k3 kn) (fun _ => p0) (fun _ => p2) fun v90 => jgo k0 fun w13 => ?_)))))))))))
 refine ja Z (jn (jx (jq (jq (jr (jm Z (js (jlg U22 k0 Z) (js (jgtr Z Z) (jn (jx ?_))))))))))
 refine jjo (u4 fun (qh : List Int) (mz : Mk) (alj14 : Value) (qsj14 : List BV) => ⟨qh = phiR b2 ph mr ∧ mz = tSS mr ∧ okS (Int.toNat nn) (100 + 7 * b2 + 1) s mz,[dv (rL (rL (rI .i64))) v53 ((targM nn m49).1),dv (rL (rI .i64)) a0 s],[bk X.n (.slice (some ⟨g56,0,none⟩) (Int.toNat nn) (Int.toNat nn)) qsj14 mz.bs,gl X.n (rI .i64) 3 (.slice (some ⟨g79,0,none⟩) (Int.toNat nn) (Int.toNat nn)) qh,bx g33 108 [a0,.int .i64 mz.k,.int .i64 mz.par,(.slice (some ⟨g56,0,none⟩) (Int.toNat nn) (Int.toNat nn)),.int .i64 mz.nx,alj14],gl X.n (rI .i64) 3 alj14 mz.lv,bx g2 49 [.int .i64 0,.slice none 0 0]],[(2,.pointer (some ⟨g2,0,none⟩)),(3,.pointer (some ⟨g33,0,none⟩)),(4,.int .i64 nn),(5,v53),(7,(.slice (some ⟨g79,0,none⟩) (Int.toNat nn) (Int.toNat nn))),(8,.int .i64 (((b2 : Nat) : Int)))]⟩) ?_ ?_
 refine jif Z (fun hc3 => ?_) (fun hc3 => ?_)
 refine jr (jm Z (jm Z (jm Z (jkr E47 Z Z (m3take_ct okL2 (by omega) 4 (by first | decide | omega | (dsimp only; omega) | (simp only [fnM]; omega))) (dc d1 dn) (kc k3 (kc k3 (kc k1 kn))) ⟨tO9 okL2.1,okL2.2⟩ fun m97 hm97 om97 bm97 => ?_))))
 have w97_0 : IntKind.i64.wrap (tVV 4 mr) = tVV 4 mr := (IntWalk.i64_in _ (by have h9 := @tV9 4 (by omega) mr; omega))
 have tr97 := @tV9 4 (by omega) mr
 clear bdL2
 refine js (jig U22 Z3 k4 Z Z Z (by omega)) (jsg k4 Z Z3 Z Z Z (by omega) (wI (wp w97_0)) (jn ?_))
 exact jje (List.set ph b2 (tVV 4 mr),m97,al2,qs2) ⟨by dsimp only; exact (show phiR b2 ph mr = List.set ph b2 (tVV 4 mr) from by unfold phiR; first | (rw [if_pos (show 1 < (pd3 (fnM mr) (b2 : Int)).length by omega)]; done) | (rw [if_neg (show ¬ 1 < (pd3 (fnM mr) (b2 : Int)).length by omega),if_pos (show tVV 6 mr = 0 by assumption)]; done) | (rw [if_neg (show ¬ 1 < (pd3 (fnM mr) (b2 : Int)).length by omega),if_neg (show ¬ tVV 6 mr = 0 by assumption)]; done)).symm,by dsimp only; exact hm97,om97.mono (Nat.le_refl _)⟩ (dc d0 (dc d1 dn)) (kc k3 (kd (kc k0 (kc k1 kn)))) ⟨Z,Z,Z,Z,Z,Z,trivial⟩
 refine jq (jr (jm Z (jkr E47 Z Z (m3take_ct okL2 (by omega) 6 (by first | decide | omega | (dsimp only; omega) | (simp only [fnM]; omega))) (dc d1 dn) (kc k3 (kc k3 (kc k1 kn))) ⟨tO9 okL2.1,okL2.2⟩ fun m100 hm100 om100 bm100 => ?_)))
 have w100_0 : IntKind.i64.wrap (tVV 6 mr) = tVV 6 mr := (IntWalk.i64_in _ (by have h9 := @tV9 6 (by omega) mr; omega))
 have tr100 := @tV9 6 (by omega) mr
 clear bdL2
 refine js (jeql Z Z) (jn (jx ?_))
 refine jif Z (fun hc4 => ?_) (fun hc4 => ?_)
 refine jr (jm Z (jm Z (js (jig U22 Z3 k4 Z Z Z (by omega)) (jsg k4 Z Z3 Z Z Z (by omega) (wI (wl 1)) (jn ?_)))))
 exact jje (List.set ph b2 1,m100,al2,qs2) ⟨by dsimp only; exact (show phiR b2 ph mr = List.set ph b2 1 from by unfold phiR; first | (rw [if_pos (show 1 < (pd3 (fnM mr) (b2 : Int)).length by omega)]; done) | (rw [if_neg (show ¬ 1 < (pd3 (fnM mr) (b2 : Int)).length by omega),if_pos (show tVV 6 mr = 0 by assumption)]; done) | (rw [if_neg (show ¬ 1 < (pd3 (fnM mr) (b2 : Int)).length by omega),if_neg (show ¬ tVV 6 mr = 0 by assumption)]; done)).symm,by dsimp only; exact hm100,om100.mono (Nat.le_refl _)⟩ (dc d0 (dc d1 dn)) (kc k3 (kd (kc k0 (kc k1 kn)))) ⟨Z,Z,Z,Z,Z,Z,trivial⟩
 refine jsk ?_
 exact jje (ph,m100,al2,qs2) ⟨by dsimp only; exact (show phiR b2 ph mr = ph from by unfold phiR; first | (rw [if_pos (show 1 < (pd3 (fnM mr) (b2 : Int)).length by omega)]; done) | (rw [if_neg (show ¬ 1 < (pd3 (fnM mr) (b2 : Int)).length by omega),if_pos (show tVV 6 mr = 0 by assumption)]; done) | (rw [if_neg (show ¬ 1 < (pd3 (fnM mr) (b2 : Int)).length by omega),if_neg (show ¬ tVV 6 mr = 0 by assumption)]; done)).symm,by dsimp only; exact hm100,om100.mono (Nat.le_refl _)⟩ (dc d0 (dc d1 dn)) (kc k2 (kc k3 (kd (kc k1 kn)))) ⟨Z,Z,Z,Z,Z,Z,trivial⟩
 rintro ⟨qh,mz,alj14,qsj14⟩; dsimp only [u4]; rintro ⟨hqh,hmz9,okLj14⟩
 refine qgo k3 fun w15 => ?_
 have bdLj14 := okM.bnd okLj14.1
 clear bdL2
 have hql : qh.length = ph.length := by rw [hqh,phiR_len]
 have hp3 : ∀ j,0 ≤ ix qh j ∧ ix qh j ≤ 3 := by rw [hqh]; exact phiR_rng hph
 have hp3b := hp3 b2
 have hPR := hqh.symm
 refine jx (jq (jr (ja Z (jn (jx (jb ?_))))))
 refine jlp (u4 fun (i3 : Nat) (mt : Mk) (al3 : Value) (qs3 : List BV) => ⟨i3 ≤ (Int.toNat (ix qh b2)) ∧ phiN b2 (Int.toNat (ix qh b2)) mz = phiN b2 ((Int.toNat (ix qh b2)) - i3) mt ∧ okS (Int.toNat nn) (100 + 7 * b2 + 1 + 2 * i3) s mt,[dv (rL (rL (rI .i64))) v53 ((targM nn m49).1),dv (rL (rI .i64)) a0 s],[bk X.n (.slice (some ⟨g56,0,none⟩) (Int.toNat nn) (Int.toNat nn)) qs3 mt.bs,gl X.n (rI .i64) 3 (.slice (some ⟨g79,0,none⟩) (Int.toNat nn) (Int.toNat nn)) qh,bx g33 108 [a0,.int .i64 mt.k,.int .i64 mt.par,(.slice (some ⟨g56,0,none⟩) (Int.toNat nn) (Int.toNat nn)),.int .i64 mt.nx,al3],gl X.n (rI .i64) 3 al3 mt.lv,bx g2 49 [.int .i64 0,.slice none 0 0]],[(2,.pointer (some ⟨g2,0,none⟩)),(3,.pointer (some ⟨g33,0,none⟩)),(4,.int .i64 nn),(5,v53),(7,(.slice (some ⟨g79,0,none⟩) (Int.toNat nn) (Int.toNat nn))),(8,.int .i64 (↑b2)),(10,.int .i64 (↑i3))],(Int.toNat (ix qh b2)) - i3⟩) (0,mz,alj14,qsj14) ⟨Nat.zero_le _,rfl,okLj14.mono (by omega)⟩ (dc d0 (dc d1 dn)) (kd (kd (kc k0 kn))) ⟨Z,Z,Z,Z,Z,Z,eqI (by omega),trivial⟩ ?_
 rintro ⟨i3,mt,al3,qs3⟩; dsimp only [u4]; rintro ⟨hi3,hR3,okL3⟩
 refine cgo k3 fun w16 => ?_
 have bdL3 := okM.bnd okL3.1
 clear bdLj14
 refine jq (jq (jr (jm Z (jm Z (jm Z (js (jig U22 Z3 k1 Z Z Z (by omega)) (js (jgI k1 (by omega) O3 Z) (js (jlss Z Z) (jn (jx ?_))))))))))
 refine jif Z (fun hc5 => ?_) (fun hc5 => ?_)
 refine jsk (jx (jq (jb ?_)))
 refine jjo (u3 fun (my9 : Mk) (alj17 : Value) (qsj17 : List BV) => ⟨my9 = addP b2 mt ∧ okS (Int.toNat nn) (100 + 7 * b2 + 1 + 2 * i3 + 2) s my9,[dv (rL (rL (rI .i64))) v53 ((targM nn m49).1),dv (rL (rI .i64)) a0 s],[bk X.n (.slice (some ⟨g56,0,none⟩) (Int.toNat nn) (Int.toNat nn)) qsj17 my9.bs,gl X.n (rI .i64) 3 (.slice (some ⟨g79,0,none⟩) (Int.toNat nn) (Int.toNat nn)) qh,bx g33 108 [a0,.int .i64 my9.k,.int .i64 my9.par,(.slice (some ⟨g56,0,none⟩) (Int.toNat nn) (Int.toNat nn)),.int .i64 my9.nx,alj17],gl X.n (rI .i64) 3 alj17 my9.lv,bx g2 49 [.int .i64 0,.slice none 0 0]],[(2,.pointer (some ⟨g2,0,none⟩)),(3,.pointer (some ⟨g33,0,none⟩)),(4,.int .i64 nn),(5,v53),(7,(.slice (some ⟨g79,0,none⟩) (Int.toNat nn) (Int.toNat nn))),(8,.int .i64 (((b2 : Nat) : Int))),(10,.int .i64 (((i3 : Nat) : Int)))]⟩) ?_ ?_
 refine jany true (.a 0 (.a 1 (.a 2 (.a 3 (.a 4 (.a 5 (.a 6 (.a 7 (.a 8 (.a 9 (.a 10 (.a 11 (.a 12 (.a 13 (.a 15 (.w 14 16 (.o 16 (.a 17 (.o 18 (.o 19 (.a 20 (.a 21 (.o 22 .e))))))) (.a 17 (.w 14 18 (.o 18 (.o 19 (.a 20 (.a 21 (.o 22 .e))))) (.o 14 (.o 19 (.a 20 (.a 21 (.o 22 .e))))))))))))))))))))))) Mixed (by kernel_rfl) (kcv k2 Z kn) fun F18 => jy Z (jmv Z) (jy Z (jnil Z) (jy Z (jf F108_2 Z) (jy Z (jf F49_1 Z) (jy Z (jlv k0 O47 Z) (jy Z (jmv Z) (jy Z (jmv Z) (jy Z (jnil Z) (jy Z (jf F108_2 Z) (jy Z (jf F49_1 Z) (jy Z (jlv k0 O47 Z) ?_))))))))))
 refine jy Z (jmv Z) (jy Z (jbi' (j := b2) U47 Z62 hvb7 Z Z Z (by omega)) (jy Z (jf F62_0 Z) (jy Z (jmv Z) ?_)))
 refine jyw Z Z ?_ ?_
 refine js (jbh0 k0 (by omega) O57 Z Z) (jyn d0 (kcv k2 Z kn) (jyo Z (jkr E64 Z Z (m3fresh_ct okL3 (by omega)) (dc d3 dn) (kc k2 (kc k2 (kc k0 kn))) ⟨fresh_ok okL3.1,okL3.2⟩ fun m129 hm129 om129 bm129 => ?_)))
 have w129_0 : IntKind.i64.wrap (mt.nx) = mt.nx := (IntWalk.i64_in _ (by omega))
 clear bdL3
 refine jyn d0 (kcv k0 Z kn) (jy Z (jbu (v := .agg #[.int .i64 mt.nx,.slice none 0 0]) Z (fun _ => by kernel_rfl)) (jyo Z (jlit (r := rPhi) (l := [⟨mt.nx,[]⟩]) U57 I65 (by decide) Z Z Z (lA (rPhi.M (m := ⟨mt.nx,[]⟩) (c := (.slice none 0 0)) wN (wp w129_0)) ln) fun g131 => jyn d0 (kcv k1 Z kn) (jyo Z (jfz k0 (by (try simp) <;> omega) ?_)))))
 have hrF24 := okM.row om129.1 (j := b2) (by omega)
 refine jbf0 b2 k2 (by omega) (jgo k0 fun w25 => japl U57 I65 (by decide) Z k0 Z Z d0 (by (try simp) <;> omega) fun v132 w26 => jyn d1 (kcv k2 Z kn) (jy Z (jbi' (j := b2) U47 Z62 hvb7 Z Z Z (by omega)) (jy Z (jf F62_0 Z) (jyo Z (jbs0 k0 k0 (by omega) Z57 Z Z Z w26.one (jkn (c := 100 + 7 * b2 + 1 + 2 * i3 + 1 + 1) ({ m129 with bs := List.set m129.bs b2 { (ix m129.bs b2) with Phis := ((ix m129.bs b2).Phis) ++ ([⟨mt.nx,[]⟩]) } }) (kc k1 (kc k1 (kc k0 kn))) ⟨(okM.setb (d := 1) om129.1 (by dsimp only; rw [List.length_append]; simp only [List.length_cons,List.length_nil]; omega)),om129.2⟩ fun ms28 hms28 oms28 bms28 => ?_))))))
 clear bm129
 refine jyz d0 (jyd ?_)
 exact jje (ms28,al3,List.set qs3 b2 { (ix qs3 b2) with P := v132 }) ⟨by dsimp only; (try simp only [hm129,hms28]); rfl,oms28.mono (by omega)⟩ (dc d6 (dc d7 dn)) (kc k2 (kc k2 (kd (kc k0 kn)))) ⟨Z,Z,Z,Z,Z,Z,Z,trivial⟩
 refine jkr E64 Z Z (m3fresh_ct okL3 (by omega)) (dc d2 dn) (kc k2 (kc k2 (kc k0 kn))) ⟨fresh_ok okL3.1,okL3.2⟩ fun m129 hm129 om129 bm129 => ?_
 have w129_0 : IntKind.i64.wrap (mt.nx) = mt.nx := (IntWalk.i64_in _ (by omega))
 clear bdL3
 refine jyn d0 (kcv k0 Z kn) (jy Z (jbu (v := .agg #[.int .i64 mt.nx,.slice none 0 0]) Z (fun _ => by kernel_rfl)) ?_)
 refine jyw Z Z ?_ ?_
 refine js (jbh0 k2 (by omega) O57 Z Z) (jyn d0 (kcv k0 Z kn) (jyo Z (jlit (r := rPhi) (l := [⟨mt.nx,[]⟩]) U57 I65 (by decide) Z Z Z (lA (rPhi.M (m := ⟨mt.nx,[]⟩) (c := (.slice none 0 0)) wN (wp w129_0)) ln) fun g131 => jyn d0 (kcv k1 Z kn) (jyo Z (jfz k0 (by (try simp) <;> omega) ?_)))))
 have hrF24 := okM.row om129.1 (j := b2) (by omega)
 refine jbf0 b2 k2 (by omega) (jgo k0 fun w25 => japl U57 I65 (by decide) Z k0 Z Z d0 (by (try simp) <;> omega) fun v132 w26 => jyn d1 (kcv k2 Z kn) (jy Z (jbi' (j := b2) U47 Z62 hvb7 Z Z Z (by omega)) (jy Z (jf F62_0 Z) (jyo Z (jbs0 k0 k0 (by omega) Z57 Z Z Z w26.one (jkn (c := 100 + 7 * b2 + 1 + 2 * i3 + 1 + 1) ({ m129 with bs := List.set m129.bs b2 { (ix m129.bs b2) with Phis := ((ix m129.bs b2).Phis) ++ ([⟨mt.nx,[]⟩]) } }) (kc k1 (kc k1 (kc k0 kn))) ⟨(okM.setb (d := 1) om129.1 (by dsimp only; rw [List.length_append]; simp only [List.length_cons,List.length_nil]; omega)),om129.2⟩ fun ms28 hms28 oms28 bms28 => ?_))))))
 clear bm129
 refine jyz d0 (jyd ?_)
 exact jje (ms28,al3,List.set qs3 b2 { (ix qs3 b2) with P := v132 }) ⟨by dsimp only; (try simp only [hm129,hms28]); rfl,oms28.mono (by omega)⟩ (dc d6 (dc d7 dn)) (kc k2 (kc k2 (kd (kc k0 kn)))) ⟨Z,Z,Z,Z,Z,Z,Z,trivial⟩
 refine jlit (r := rPhi) (l := [⟨mt.nx,[]⟩]) U57 I65 (by decide) Z Z Z (lA (rPhi.M (m := ⟨mt.nx,[]⟩) (c := (.slice none 0 0)) wN (wp w129_0)) ln) fun g131 => jyn d0 (kcv k1 Z kn) (jyo Z (js (jbh0 k3 (by omega) O57 Z Z) (jyn d0 (kcv k1 Z kn) (jyo Z (jfz k0 (by (try simp) <;> omega) ?_)))))
 have hrF24 := okM.row om129.1 (j := b2) (by omega)
 refine jbf0 b2 k2 (by omega) (jgo k0 fun w25 => japl U57 I65 (by decide) Z k0 Z Z d0 (by (try simp) <;> omega) fun v132 w26 => jyn d1 (kcv k2 Z kn) (jy Z (jbi' (j := b2) U47 Z62 hvb7 Z Z Z (by omega)) (jy Z (jf F62_0 Z) (jyo Z (jbs0 k0 k0 (by omega) Z57 Z Z Z w26.one (jkn (c := 100 + 7 * b2 + 1 + 2 * i3 + 1 + 1) ({ m129 with bs := List.set m129.bs b2 { (ix m129.bs b2) with Phis := ((ix m129.bs b2).Phis) ++ ([⟨mt.nx,[]⟩]) } }) (kc k1 (kc k1 (kc k0 kn))) ⟨(okM.setb (d := 1) om129.1 (by dsimp only; rw [List.length_append]; simp only [List.length_cons,List.length_nil]; omega)),om129.2⟩ fun ms28 hms28 oms28 bms28 => ?_))))))
 clear bm129
 refine jyz d0 (jyd ?_)
 exact jje (ms28,al3,List.set qs3 b2 { (ix qs3 b2) with P := v132 }) ⟨by dsimp only; (try simp only [hm129,hms28]); rfl,oms28.mono (by omega)⟩ (dc d6 (dc d7 dn)) (kc k2 (kc k2 (kd (kc k0 kn)))) ⟨Z,Z,Z,Z,Z,Z,Z,trivial⟩
 rintro ⟨my9,alj17,qsj17⟩; dsimp only [u3]; rintro ⟨hmy9,okLj17⟩
 refine qgo k3 fun w29 => ?_
 have bdLj17 := okM.bnd okLj17.1
 clear bdL3
 refine jbn (jx (jr (jm Z (js (jadd Z Z (by omega)) (ja Z (jn ?_))))))
 exact jag (i3 + 1,my9,alj17,qsj17) ⟨by dsimp only; omega,by dsimp only; rw [hmy9,hR3,show (Int.toNat (ix qh b2)) - i3 = ((Int.toNat (ix qh b2)) - (i3 + 1)) + 1 by omega,phiN],okLj17.mono (by omega)⟩ (dc d0 (dc d1 dn)) (kd (kd (kc k0 kn))) ⟨Z,Z,Z,Z,Z,Z,eqI (by omega),trivial⟩
 have hE3 : phiN b2 (Int.toNat (ix qh b2)) mz = mt := by rw [hR3,show (Int.toNat (ix qh b2)) - i3 = 0 by omega]; rfl
 refine jex (jtx (jtx (jbh (jbn (jx (jr (jm Z (js (jadd Z Z (by omega)) (ja Z (jn ?_))))))))))
 exact jag (b2 + 1,qh,mt,al3,qs3) ⟨by dsimp only; omega,by dsimp only; omega,hp3,by dsimp only; have h9 := phi_step hOK2 (by omega) (by omega) hPR.symm; rw [← hmz9,hE3] at h9; exact h9,by dsimp only; rw [hR2,show (Int.toNat (nn)) - b2 = ((Int.toNat (nn)) - (b2 + 1)) + 1 by omega,phiS,hPR,← hmz9,hE3],okL3.mono (by omega)⟩ (dc d0 (dc d1 dn)) (kc k1 (kc k1 (kc k1 (kd kn)))) ⟨Z,Z,Z,Z,Z,eqI (by omega),trivial⟩
 have hE2 : phiS ((Int.toNat (nn)) - 1) 1 (List.replicate (Int.toNat (nn)) 0) mq = (ph,mr) := by rw [hR2,show (Int.toNat (nn)) - b2 = 0 by omega]; rfl
 refine jex (jtx (jtx (jbh (jx (jq (jr (jm Z (jmk (m := (Int.toNat nn)) (r := rB) U129 I4 Z Z Z (by omega) (by omega) (by omega) wB Z fun g136 => ja Z (jn (jx ?_))))))))))
 refine jq (jq (jr (ja Z (jn (jx (jb ?_))))))
 refine jlp (u5 fun (u : Nat) (dz : List Bool) (mu : Mk) (al4 : Value) (qs4 : List BV) => ⟨u ≤ (Int.toNat (nn)) ∧ dz.length = (Int.toNat (nn)) ∧ pl mu = pl mr ∧ turnS (Int.toNat (nn)) ((targM nn m49).1) (Int.toNat (nn)) (List.replicate (Int.toNat nn) false) mr = turnS (Int.toNat (nn)) ((targM nn m49).1) ((Int.toNat (nn)) - u) dz mu ∧ okS (Int.toNat nn) (200 + 3690 * u) s mu,[dv (rL (rL (rI .i64))) v53 ((targM nn m49).1),dv (rL (rI .i64)) a0 s],[gl X.n rB 4 (.slice (some ⟨g136,0,none⟩) (Int.toNat nn) (Int.toNat nn)) dz,gl X.n (rI .i64) 3 (.slice (some ⟨g79,0,none⟩) (Int.toNat nn) (Int.toNat nn)) ph,bx g33 108 [a0,.int .i64 mu.k,.int .i64 mu.par,(.slice (some ⟨g56,0,none⟩) (Int.toNat nn) (Int.toNat nn)),.int .i64 mu.nx,al4],gl X.n (rI .i64) 3 al4 mu.lv,bk X.n (.slice (some ⟨g56,0,none⟩) (Int.toNat nn) (Int.toNat nn)) qs4 mu.bs,bx g2 49 [.int .i64 0,.slice none 0 0]],[(2,.pointer (some ⟨g2,0,none⟩)),(3,.pointer (some ⟨g33,0,none⟩)),(4,.int .i64 nn),(5,v53),(7,(.slice (some ⟨g79,0,none⟩) (Int.toNat nn) (Int.toNat nn))),(11,(.slice (some ⟨g136,0,none⟩) (Int.toNat nn) (Int.toNat nn))),(12,.int .i64 (↑u))],(Int.toNat (nn)) - u⟩) (0,List.replicate (Int.toNat nn) false,mr,al2,qs2) ⟨Nat.zero_le _,by simp,rfl,rfl,okL2.mono (by omega)⟩ (dc d0 (dc d1 dn)) (kd (kd (kd kn))) ⟨Z,Z,Z,Z,Z,Z,eqI (by omega),trivial⟩ ?_
 rintro ⟨u,dz,mu,al4,qs4⟩; dsimp only [u5]; rintro ⟨hu,hdl,hpu,hR4,okL4⟩
 refine cgo k3 fun w30 => ?_
 have bdL4 := okM.bnd okL4.1
 clear bdL2
 refine jq (jq (jr (jm Z (jm Z (js (jlss Z Z) (jn (jx ?_)))))))
 refine jif Z (fun hc6 => ?_) (fun hc6 => ?_)
 refine jsk (jx (jq (jb (jq (jr (ja Z (jn (jx (jb ?_)))))))))
 refine jlp (u5 fun (b5 : Nat) (dn5 : List Bool) (mv : Mk) (al5 : Value) (qs5 : List BV) => ⟨b5 ≤ (Int.toNat (nn)) ∧ dn5.length = (Int.toNat (nn)) ∧ pl mv = pl mu ∧ rowS (Int.toNat (nn)) ((targM nn m49).1) (Int.toNat (nn)) 0 dz mu = rowS (Int.toNat (nn)) ((targM nn m49).1) ((Int.toNat (nn)) - b5) b5 dn5 mv ∧ okS (Int.toNat nn) (200 + 3690 * u + 410 * b5) s mv,[dv (rL (rL (rI .i64))) v53 ((targM nn m49).1),dv (rL (rI .i64)) a0 s],[gl X.n rB 4 (.slice (some ⟨g136,0,none⟩) (Int.toNat nn) (Int.toNat nn)) dn5,gl X.n (rI .i64) 3 (.slice (some ⟨g79,0,none⟩) (Int.toNat nn) (Int.toNat nn)) ph,bx g33 108 [a0,.int .i64 mv.k,.int .i64 mv.par,(.slice (some ⟨g56,0,none⟩) (Int.toNat nn) (Int.toNat nn)),.int .i64 mv.nx,al5],gl X.n (rI .i64) 3 al5 mv.lv,bk X.n (.slice (some ⟨g56,0,none⟩) (Int.toNat nn) (Int.toNat nn)) qs5 mv.bs,bx g2 49 [.int .i64 0,.slice none 0 0]],[(2,.pointer (some ⟨g2,0,none⟩)),(3,.pointer (some ⟨g33,0,none⟩)),(4,.int .i64 nn),(5,v53),(7,(.slice (some ⟨g79,0,none⟩) (Int.toNat nn) (Int.toNat nn))),(11,(.slice (some ⟨g136,0,none⟩) (Int.toNat nn) (Int.toNat nn))),(12,.int .i64 (↑u)),(13,.int .i64 (↑b5))],(Int.toNat (nn)) - b5⟩) (0,dz,mu,al4,qs4) ⟨Nat.zero_le _,hdl,rfl,rfl,okL4.mono (by omega)⟩ (dc d0 (dc d1 dn)) (kd (kd (kd kn))) ⟨Z,Z,Z,Z,Z,Z,Z,eqI (by omega),trivial⟩ ?_
 rintro ⟨b5,dn5,mv,al5,qs5⟩; dsimp only [u5]; rintro ⟨hb5,hdl5,hpv,hR5,okL5⟩
 refine cgo k3 fun w31 => ?_
 have bdL5 := okM.bnd okL5.1
 clear bdL4
 have hmvl := okL5.1.2.2.2.2.1
 have hmvb := okM.bnd okL5.1
 refine jq (jq (jr (jm Z (jm Z (js (jlss Z Z) (jn (jx ?_)))))))
 refine jif Z (fun hc7 => ?_) (fun hc7 => ?_)
 refine jsk (jx (jq (jb (jq (jr (jm Z (jm Z (js (jig U129 Z4 k0 Z Z Z (by omega)) (js (jgB k0 (by omega) O4 Z) (js (jnot Z) (ja Z ?_)))))))))))
 refine jn (jx (jq (jr (jlit (r := (rL rB)) (l := []) U130 I129 (by decide) Z Z Z ln fun g152 => ja Z (jn (jx (jq (jq (jr (ja Z ?_))))))))))
 refine jn (jx (jb ?_))
 refine jlp (u5 fun (a6 : Nat) (va : Value) (aw : List (List Bool)) (al6 : Value) (qs6 : List BV) => ⟨a6 ≤ (Int.toNat (nn)) ∧ aw = awayL (fnM mv) a6 ∧ okS (Int.toNat nn) (200 + 3690 * u + 410 * b5) s mv,[dv (rL (rL (rI .i64))) v53 ((targM nn m49).1),dv (rL (rI .i64)) a0 s],[gl X.n (rL rB) 129 va aw,gl X.n rB 4 (.slice (some ⟨g136,0,none⟩) (Int.toNat nn) (Int.toNat nn)) dn5,gl X.n (rI .i64) 3 (.slice (some ⟨g79,0,none⟩) (Int.toNat nn) (Int.toNat nn)) ph,bx g33 108 [a0,.int .i64 mv.k,.int .i64 mv.par,(.slice (some ⟨g56,0,none⟩) (Int.toNat nn) (Int.toNat nn)),.int .i64 mv.nx,al6],gl X.n (rI .i64) 3 al6 mv.lv,bk X.n (.slice (some ⟨g56,0,none⟩) (Int.toNat nn) (Int.toNat nn)) qs6 mv.bs,bx g2 49 [.int .i64 0,.slice none 0 0]],[(2,.pointer (some ⟨g2,0,none⟩)),(3,.pointer (some ⟨g33,0,none⟩)),(4,.int .i64 nn),(5,v53),(7,(.slice (some ⟨g79,0,none⟩) (Int.toNat nn) (Int.toNat nn))),(11,(.slice (some ⟨g136,0,none⟩) (Int.toNat nn) (Int.toNat nn))),(12,.int .i64 (↑u)),(13,.int .i64 (↑b5)),(14,.bool (!(ix dn5 b5))),(15,va),(16,.int .i64 (↑a6))],(Int.toNat (nn)) - a6⟩) (0,(.slice (some ⟨g152,0,none⟩) 0 0),[],al5,qs5) ⟨Nat.zero_le _,rfl,okL5.mono (Nat.le_refl _)⟩ (dc d0 (dc d1 dn)) (kd (kd (kd (kc k0 kn)))) ⟨Z,Z,Z,Z,Z,Z,Z,Z,Z,Z,eqI (by omega),trivial⟩ ?_
 rintro ⟨a6,va,aw,al6,qs6⟩; dsimp only [u5]; rintro ⟨ha6,haw,okL6⟩
 refine cgo k0 fun w32 => cgo k4 fun w33 => ?_
 have bdL6 := okM.bnd okL6.1
 clear bdL5
 have hawl : aw.length = a6 := by rw [haw,awayL_len]
 refine jq (jq (jr (jm Z (jm Z (js (jlss Z Z) (jn (jx ?_)))))))
 refine jif Z (fun hc8 => ?_) (fun hc8 => ?_)
 refine jsk (jx (jq (jb (jr (jm Z (jm Z (js (jnil Z) (js (jf F108_2 Z) (js (jla k3 A49 Z49 Z Z Z) (jm Z (jc E65 Z Z (Tg_btB (Tr.dd (r3reach_ct (f := fnM mv) ↑a6) (fn_dd (IntWalk.i64_in _ (by show _ ≤ mv.par ∧ mv.par ≤ _; omega)))) (okL6.lens (by omega) (by omega))) dn (kc k5 kn) (fun _ => p0) (fun _ => p2) fun v164 => jgo k0 fun w34 => ?_)))))))))))
 have hrl6 : (reach3 (fnM mv) (a6 : Int)).length = mv.bs.length := reach3_len _ _
 refine jfz k0 (by (try simp) <;> omega) (japv U130 I129 (by decide) Z Z k1 Z d0 (by omega) (fun _ => Z) fun v166 _ w36 => ja Z (jn (jbn (jx (jr (jm Z (js (jadd Z Z (by omega)) (ja Z (jn ?_)))))))))
 exact jag (a6 + 1,v166,aw ++ [reach3 (fnM mv) ((a6 : Nat) : Int)],al6,qs6) ⟨by dsimp only; omega,by dsimp only; rw [haw,awayL_s],okL6.mono (Nat.le_refl _)⟩ (dc d1 (dc d2 dn)) (kc k0 (kc k1 (kc k1 (kc k1 (kc k1 (kd kn)))))) ⟨Z,Z,Z,Z,Z,Z,Z,Z,Z,Z,eqI (by omega),trivial⟩
 refine jex (jtx (jtx (jbh (jx (jq (jq (jr (ja Z (jn (jx (jb ?_)))))))))))
 refine jlp (u4 fun (a7 : Nat) (r7 : Bool) (al7 : Value) (qs7 : List BV) => ⟨a7 ≤ (Int.toNat (nn)) ∧ r7 = readyF (fnM mv) dn5 b5 a7 ∧ okS (Int.toNat nn) (200 + 3690 * u + 410 * b5) s mv,[dv (rL (rL (rI .i64))) v53 ((targM nn m49).1),dv (rL (rI .i64)) a0 s],[gl X.n (rL rB) 129 va aw,gl X.n rB 4 (.slice (some ⟨g136,0,none⟩) (Int.toNat nn) (Int.toNat nn)) dn5,gl X.n (rI .i64) 3 (.slice (some ⟨g79,0,none⟩) (Int.toNat nn) (Int.toNat nn)) ph,bx g33 108 [a0,.int .i64 mv.k,.int .i64 mv.par,(.slice (some ⟨g56,0,none⟩) (Int.toNat nn) (Int.toNat nn)),.int .i64 mv.nx,al7],gl X.n (rI .i64) 3 al7 mv.lv,bk X.n (.slice (some ⟨g56,0,none⟩) (Int.toNat nn) (Int.toNat nn)) qs7 mv.bs,bx g2 49 [.int .i64 0,.slice none 0 0]],[(2,.pointer (some ⟨g2,0,none⟩)),(3,.pointer (some ⟨g33,0,none⟩)),(4,.int .i64 nn),(5,v53),(7,(.slice (some ⟨g79,0,none⟩) (Int.toNat nn) (Int.toNat nn))),(11,(.slice (some ⟨g136,0,none⟩) (Int.toNat nn) (Int.toNat nn))),(12,.int .i64 (↑u)),(13,.int .i64 (↑b5)),(14,.bool r7),(15,va),(17,.int .i64 (↑a7))],(Int.toNat (nn)) - a7⟩) (0,!(ix dn5 b5),al6,qs6) ⟨Nat.zero_le _,by simp [readyF],okL6.mono (Nat.le_refl _)⟩ (dc d0 (dc d1 dn)) (kd (kd (kd (kc k0 kn)))) ⟨Z,Z,Z,Z,Z,Z,Z,Z,Z,Z,eqI (by omega),trivial⟩ ?_
 rintro ⟨a7,r7,al7,qs7⟩; dsimp only [u4]; rintro ⟨ha7,hr7,okL7⟩
 refine cgo k4 fun w37 => ?_
 have bdL7 := okM.bnd okL7.1
 clear bdL6
 refine jq (jq (jr (jm Z (jm Z (js (jlss Z Z) (jn (jx ?_)))))))
 refine jif Z (fun hc9 => ?_) (fun hc9 => ?_)
 have hax : ix aw a7 = reach3 (fnM mv) (a7 : Int) := by rw [haw]; exact awayL_ix _ (by omega)
 have hala7 : (ix aw a7).length = mv.bs.length := by rw [hax,reach3_len]; rfl
 refine jsk (jx (jq (jb (jr (jm Z (jm Z (jg Z Z (.t _) (fun hg => jmv Z) (jg Z Z (.t _) (fun hg => jmv Z) (jg Z Z (.t _) (fun hg => jeql (evg Z hg) (evg Z hg)) (jg Z Z (.t _) (fun hg => jmv (evg Z hg)) (jg Z Z (.gf _ _) (fun hg => jmv Z) ?_)))))))))))
 refine jg Z Z (.gf _ _) (fun hg => jmv Z) (jg Z Z (.gf _ _) (fun hg => jig U129 Z4 k1 (evg Z hg) (evg Z hg) Z (by first | omega | (simp at hg; omega) | (simp only [List.length_set]; omega) | (simp; done))) (jg Z Z (.gf _ _) (fun hg => jgB k1 (by first | omega | (simp at hg; omega) | (simp only [List.length_set]; omega) | (simp; done)) O4 (evg Z hg)) (jg Z Z (.t _) (fun hg => jor2 hg Z Z) (jg Z Z (.t _) (fun hg => jmv (evg Z hg)) (jg Z Z (.gf _ _) (fun hg => jmv Z) (jg Z Z (.gf _ _) (fun hg => jmv Z) (jg Z Z (.gf _ _) (fun hg => jig U130 Z129 k0 (evg Z hg) (evg Z hg) Z (by first | omega | (simp at hg; omega) | (simp only [List.length_set]; omega) | (simp; done))) (jge (q := fun v => dv (rL rB) v (ix aw a7)) Z Z (.gf _ _) (fun hg => jgV k0 (by first | omega | (simp at hg; omega) | (simp only [List.length_set]; omega) | (simp; done)) O129 Z (evg Z hg)) fun v187 => jg Z Z (.gf _ _) (fun hg => jmv Z) (jg Z Z (.gf _ _) (fun hg => jix U129 Z4 (d0.on hg) (evg Z hg) (evg Z hg) Z (by first | omega | (simp at hg; omega) | (simp only [List.length_set]; omega) | (simp; done))) (jg Z Z (.gf _ _) (fun hg => jlB (dix (d0.on hg) b5 (by first | omega | (simp at hg; omega) | (simp only [List.length_set]; omega) | (simp; done))) O4 (evg Z hg)) ?_))))))))))
 refine jg Z Z (.t _) (fun hg => jor2 hg Z Z) (js (jand Z Z) (ja Z (jn (jbn (jx (jr (jm Z (js (jadd Z Z (by omega)) (ja Z (jn ?_))))))))))
 exact jag (a7 + 1,r7 && (((decide (((a7 : Nat) : Int) = ((b5 : Nat) : Int))) || (ix dn5 a7)) || (ix (ix aw a7) b5)),al7,qs7) ⟨by dsimp only; omega,by dsimp only; rw [readyF_s,← hr7,okA,← hax]; simp [Bool.or_assoc,show ((a7 : Int) = (b5 : Int)) ↔ a7 = b5 by omega],okL7.mono (Nat.le_refl _)⟩ (dc d1 (dc d2 dn)) (kd (kd (kd (kc k0 kn)))) ⟨Z,Z,Z,Z,Z,Z,Z,Z,Z,Z,eqI (by omega),trivial⟩
 have hrF : r7 = readyF (fnM mv) dn5 b5 (Int.toNat (nn)) := by rw [hr7,show a7 = (Int.toNat (nn)) by omega]
 refine jex (jtx (jtx (jbh (jx (jq (jq (jr (jm Z (js (jnot Z) (jn (jx ?_)))))))))))
 refine jif Z (fun hc10 => ?_) (fun hc10 => ?_)
 have hnr : ¬ (readyF (fnM mv) dn5 b5 (Int.toNat (nn)) = true) := by rw [← hrF]; simpa using hc10
 refine jex (jtx (jbh (jx (jr (jm Z (js (jadd Z Z (by omega)) (ja Z (jn ?_))))))))
 exact jag (b5 + 1,dn5,mv,al7,qs7) ⟨by dsimp only; omega,hdl5,hpv,by dsimp only; rw [hR5,show (Int.toNat (nn)) - b5 = ((Int.toNat (nn)) - (b5 + 1)) + 1 by omega,rowS,if_neg hnr],okL7.mono (by omega)⟩ (dc d0 (dc d1 dn)) (kc k1 (kc k1 (kc k1 (kc k1 (kc k1 (kc k1 kn)))))) ⟨Z,Z,Z,Z,Z,Z,Z,eqI (by omega),trivial⟩
 have hrd : readyF (fnM mv) dn5 b5 (Int.toNat (nn)) = true := by rw [← hrF]; simpa using hc10
 refine jsk (jx (jq (jr (jm Z (jm Z (js (jig U129 Z4 k1 Z Z Z (by omega)) (jsg k1 Z Z4 Z Z Z (by omega) wB (jn (jx (jq (jr ?_)))))))))))
 refine jm Z (jlit (r := (rI .i64)) (l := []) U22 I3 (by decide) Z Z Z ln fun g199 => js (jnil Z) (js (jf F108_4 Z) (jst k4 Z22 Z Z Z s5 (jkn (c := 200 + 3690 * u + 410 * b5 + 1) ({ mv with lv := [] }) (kd (kc k4 kn)) ⟨(okM.setlv okL7.1 (by simp only [List.length_append,List.length_cons,List.length_nil]; omega) (by omega)),okL7.2⟩ fun ms40 hms40 oms40 bms40 => ?_))))
 clear bdL7
 refine jn (jx (jq (jq (jr (ja Z (jn (jx (jb ?_))))))))
 refine jlp (u4 fun (i8 : Nat) (mx : Mk) (al8 : Value) (qs8 : List BV) => ⟨i8 ≤ mv.par.toNat ∧ mx = { mv with lv := numsL i8 } ∧ okS (Int.toNat nn) (200 + 3690 * u + 410 * b5 + 1) s mx,[dv (rL (rL (rI .i64))) v53 ((targM nn m49).1),dv (rL (rI .i64)) a0 s],[bx g33 108 [a0,.int .i64 mx.k,.int .i64 mx.par,(.slice (some ⟨g56,0,none⟩) (Int.toNat nn) (Int.toNat nn)),.int .i64 mx.nx,al8],gl X.n (rI .i64) 3 al8 mx.lv,bk X.n (.slice (some ⟨g56,0,none⟩) (Int.toNat nn) (Int.toNat nn)) qs8 mx.bs,gl X.n rB 4 (.slice (some ⟨g136,0,none⟩) (Int.toNat nn) (Int.toNat nn)) (List.set dn5 b5 true),gl X.n (rL rB) 129 va aw,gl X.n (rI .i64) 3 (.slice (some ⟨g79,0,none⟩) (Int.toNat nn) (Int.toNat nn)) ph,bx g2 49 [.int .i64 0,.slice none 0 0]],[(2,.pointer (some ⟨g2,0,none⟩)),(3,.pointer (some ⟨g33,0,none⟩)),(4,.int .i64 nn),(5,v53),(7,(.slice (some ⟨g79,0,none⟩) (Int.toNat nn) (Int.toNat nn))),(11,(.slice (some ⟨g136,0,none⟩) (Int.toNat nn) (Int.toNat nn))),(12,.int .i64 (↑u)),(13,.int .i64 (↑b5)),(15,va),(18,.int .i64 (↑i8))],mv.par.toNat - i8⟩) (0,ms40,(.slice (some ⟨g199,0,none⟩) 0 0),qs7) ⟨Nat.zero_le _,by dsimp only; rw [hms40]; rfl,oms40.mono (Nat.le_refl _)⟩ (dc d0 (dc d1 dn)) (kd (kd (kd (kc k1 kn)))) ⟨Z,Z,Z,Z,Z,Z,Z,Z,Z,eqI (by omega),trivial⟩ ?_
 rintro ⟨i8,mx,al8,qs8⟩; dsimp only [u4]; rintro ⟨hi8,hmx,okL8⟩
 refine cgo k1 fun w41 => ?_
 have bdL8 := okM.bnd okL8.1
 clear bms40
 have hmxl : mx.lv.length = i8 := by rw [hmx]; exact numsL_len _
 have hmxp : mx.par = mv.par := by rw [hmx]
 refine jq (jq (jr (jm Z (jm Z (js (jnil Z) (js (jf F108_2 Z) (js (jf F49_0 Z) (js (jl k0 O3 Z Z) (js (jlss Z Z) (jn (jx ?_)))))))))))
 refine jif Z (fun hc11 => ?_) (fun hc11 => ?_)
 refine jsk (jx (jq (jb (jr (jm Z (jm Z (js (jnil Z) (js (jf F108_4 Z) (js (jl k0 O22 Z Z) (jm Z (japv U22 I3 (by decide) Z Z k1 Z (wI (wp (IntWalk.i64_in _ (by omega)))) (by omega) (fun _ => Z) fun v218 _ w42 => ?_)))))))))))
 refine js (jnil Z) (js (jf F108_4 Z) (jst k1 Z22 Z Z w42.one s5 (jkn (c := 200 + 3690 * u + 410 * b5 + 1) ({ mx with lv := mx.lv ++ [↑i8] }) (kd (kc k0 kn)) ⟨(okM.setlv okL8.1 (by rw [List.length_append]; simp only [List.length_cons,List.length_nil]; omega) (Nat.le_refl _)),okL8.2⟩ fun ms43 hms43 oms43 bms43 => ?_)))
 clear bdL8
 refine jn (jbn (jx (jr (jm Z (js (jadd Z Z (by omega)) (ja Z (jn ?_)))))))
 exact jag (i8 + 1,ms43,v218,qs8) ⟨by dsimp only; omega,by dsimp only; rw [hms43,hmx,numsL_s],oms43.mono (Nat.le_refl _)⟩ (dc d0 (dc d1 dn)) (kd (kd (kd (kc k0 kn)))) ⟨Z,Z,Z,Z,Z,Z,Z,Z,Z,eqI (by omega),trivial⟩
 refine jex (jtx (jtx (jbh (jx (jq (jq (jr (ja Z (jn (jx (jb ?_)))))))))))
 refine jlp (u4 fun (a9 : Nat) (my : Mk) (al9 : Value) (qs9 : List BV) => ⟨a9 ≤ (Int.toNat (nn)) ∧ my = { mv with lv := lvF (fnM mv) (List.set dn5 b5 true) b5 a9 } ∧ okS (Int.toNat nn) (200 + 3690 * u + 410 * b5 + 1) s my,[dv (rL (rL (rI .i64))) v53 ((targM nn m49).1),dv (rL (rI .i64)) a0 s],[bx g33 108 [a0,.int .i64 my.k,.int .i64 my.par,(.slice (some ⟨g56,0,none⟩) (Int.toNat nn) (Int.toNat nn)),.int .i64 my.nx,al9],gl X.n (rI .i64) 3 al9 my.lv,bk X.n (.slice (some ⟨g56,0,none⟩) (Int.toNat nn) (Int.toNat nn)) qs9 my.bs,gl X.n rB 4 (.slice (some ⟨g136,0,none⟩) (Int.toNat nn) (Int.toNat nn)) (List.set dn5 b5 true),gl X.n (rL rB) 129 va aw,gl X.n (rI .i64) 3 (.slice (some ⟨g79,0,none⟩) (Int.toNat nn) (Int.toNat nn)) ph,bx g2 49 [.int .i64 0,.slice none 0 0]],[(2,.pointer (some ⟨g2,0,none⟩)),(3,.pointer (some ⟨g33,0,none⟩)),(4,.int .i64 nn),(5,v53),(7,(.slice (some ⟨g79,0,none⟩) (Int.toNat nn) (Int.toNat nn))),(11,(.slice (some ⟨g136,0,none⟩) (Int.toNat nn) (Int.toNat nn))),(12,.int .i64 (↑u)),(13,.int .i64 (↑b5)),(15,va),(19,.int .i64 (↑a9))],(Int.toNat (nn)) - a9⟩) (0,mx,al8,qs8) ⟨Nat.zero_le _,by dsimp only; rw [hmx,show i8 = mv.par.toNat by omega]; simp [lvF,fnM],okL8.mono (Nat.le_refl _)⟩ (dc d0 (dc d1 dn)) (kd (kd (kd (kc k0 kn)))) ⟨Z,Z,Z,Z,Z,Z,Z,Z,Z,eqI (by omega),trivial⟩ ?_
 rintro ⟨a9,my,al9,qs9⟩; dsimp only [u4]; rintro ⟨ha9,hmy,okL9⟩
 refine cgo k1 fun w44 => ?_
 have bdL9 := okM.bnd okL9.1
 clear bdL8
 have hmyb : my.bs = mv.bs := by rw [hmy]
 have hll9 : a9 ≤ (Int.toNat (nn)) → (lvF (fnM mv) (List.set dn5 b5 true) b5 a9).length ≤ mv.par.toNat + 2 * cntT (mv.bs.take a9) := fun h9 => lvF_len (f := (fnM mv)) (by show a9 ≤ mv.bs.length; rw [← hmyb]; omega)
 have hl9 := hll9 ha9
 have hct := cntT_le mv.bs (a9 + 1)
 have hmp9 : my.par = mv.par := by rw [hmy]
 have hmlv : my.lv.length = (lvF (fnM mv) (List.set dn5 b5 true) b5 a9).length := by rw [hmy]
 refine jq (jq (jr (jm Z (jm Z (js (jlss Z Z) (jn (jx ?_)))))))
 refine jif Z (fun hc12 => ?_) (fun hc12 => ?_)
 have hax9 : ix aw a9 = reach3 (fnM mv) (a9 : Int) := by rw [haw]; exact awayL_ix _ (by omega)
 have hala9 : (ix aw a9).length = mv.bs.length := by rw [hax9,reach3_len]; rfl
 refine jsk (jx (jq (jb (jq (jq (jr (jm Z (jm Z (js (jneq Z Z) (jm Z (jg Z Z (.t _) (fun hg => jmv Z) ?_)))))))))))
 refine jg Z Z (.t _) (fun hg => jmv Z) (jg Z Z (.t _) (fun hg => jig U129 Z4 k3 (evg Z hg) (evg Z hg) Z (by first | omega | (simp at hg; omega) | (simp only [List.length_set]; omega) | (simp; done))) (jg Z Z (.t _) (fun hg => jgB k3 (by first | omega | (simp at hg; omega) | (simp only [List.length_set]; omega) | (simp; done)) O4 (evg Z hg)) (jg Z Z (.t _) (fun hg => jnot (evg Z hg)) (jg Z Z (.t _) (fun hg => jmv (evg Z hg)) (jg Z Z (.gf _ _) (fun hg => jmv Z) (jg Z Z (.gf _ _) (fun hg => jmv Z) (jg Z Z (.gf _ _) (fun hg => jig U130 Z129 k4 (evg Z hg) (evg Z hg) Z (by first | omega | (simp at hg; omega) | (simp only [List.length_set]; omega) | (simp; done))) (jge (q := fun v => dv (rL rB) v (ix aw a9)) Z Z (.gf _ _) (fun hg => jgV k4 (by first | omega | (simp at hg; omega) | (simp only [List.length_set]; omega) | (simp; done)) O129 Z (evg Z hg)) fun v239 => jg Z Z (.gf _ _) (fun hg => jmv Z) (jg Z Z (.gf _ _) (fun hg => jix U129 Z4 (d0.on hg) (evg Z hg) (evg Z hg) Z (by first | omega | (simp at hg; omega) | (simp only [List.length_set]; omega) | (simp; done))) (jg Z Z (.gf _ _) (fun hg => jlB (dix (d0.on hg) b5 (by first | omega | (simp at hg; omega) | (simp only [List.length_set]; omega) | (simp; done))) O4 (evg Z hg)) ?_))))))))))
 refine jg Z Z (.t _) (fun hg => jor2 hg Z Z) (js (jand Z Z) (jn (jx ?_)))
 refine jif Z (fun hc13 => ?_) (fun hc13 => ?_)
 have hsk : skipA (fnM mv) (List.set dn5 b5 true) b5 a9 = true := by unfold skipA; rw [← hax9]; simpa [show ((a9 : Int) = (b5 : Int)) ↔ a9 = b5 by omega] using hc13
 refine jex (jtx (jbh (jx (jr (jm Z (js (jadd Z Z (by omega)) (ja Z (jn ?_))))))))
 exact jag (a9 + 1,my,al9,qs9) ⟨by dsimp only; omega,by dsimp only; rw [hmy,lvF_s,lvB,if_pos hsk,List.append_nil],okL9.mono (Nat.le_refl _)⟩ (dc d1 (dc d2 dn)) (kd (kd (kd (kc k0 kn)))) ⟨Z,Z,Z,Z,Z,Z,Z,Z,Z,eqI (by omega),trivial⟩
 have hsk : ¬ (skipA (fnM mv) (List.set dn5 b5 true) b5 a9 = true) := by unfold skipA; rw [← hax9]; simp [show ((a9 : Int) = (b5 : Int)) ↔ a9 = b5 by omega] at hc13 ⊢; exact fun h9 => hc13.resolve_left h9
 refine jsk (jx (jq (jq (jr (ja Z (jn (jx (jb ?_))))))))
 refine jlp (u4 fun (i10 : Nat) (mz : Mk) (al10 : Value) (qs10 : List BV) => ⟨i10 ≤ (ix mv.bs a9).Phis.length ∧ mz = { mv with lv := lvF (fnM mv) (List.set dn5 b5 true) b5 a9 ++ ((ix mv.bs a9).Phis.take i10).map (·.Dst) } ∧ okS (Int.toNat nn) (200 + 3690 * u + 410 * b5 + 1) s mz,[dv (rL (rL (rI .i64))) v53 ((targM nn m49).1),dv (rL (rI .i64)) a0 s],[bx g33 108 [a0,.int .i64 mz.k,.int .i64 mz.par,(.slice (some ⟨g56,0,none⟩) (Int.toNat nn) (Int.toNat nn)),.int .i64 mz.nx,al10],gl X.n (rI .i64) 3 al10 mz.lv,bk X.n (.slice (some ⟨g56,0,none⟩) (Int.toNat nn) (Int.toNat nn)) qs10 mz.bs,gl X.n rB 4 (.slice (some ⟨g136,0,none⟩) (Int.toNat nn) (Int.toNat nn)) (List.set dn5 b5 true),gl X.n (rL rB) 129 va aw,gl X.n (rI .i64) 3 (.slice (some ⟨g79,0,none⟩) (Int.toNat nn) (Int.toNat nn)) ph,bx g2 49 [.int .i64 0,.slice none 0 0]],[(2,.pointer (some ⟨g2,0,none⟩)),(3,.pointer (some ⟨g33,0,none⟩)),(4,.int .i64 nn),(5,v53),(7,(.slice (some ⟨g79,0,none⟩) (Int.toNat nn) (Int.toNat nn))),(11,(.slice (some ⟨g136,0,none⟩) (Int.toNat nn) (Int.toNat nn))),(12,.int .i64 (↑u)),(13,.int .i64 (↑b5)),(15,va),(19,.int .i64 (↑a9)),(20,.int .i64 (↑i10))],(ix mv.bs a9).Phis.length - i10⟩) (0,my,al9,qs9) ⟨Nat.zero_le _,by dsimp only; rw [hmy]; simp,okL9.mono (Nat.le_refl _)⟩ (dc d1 (dc d2 dn)) (kd (kd (kd (kc k0 kn)))) ⟨Z,Z,Z,Z,Z,Z,Z,Z,Z,Z,eqI (by omega),trivial⟩ ?_
 rintro ⟨i10,mz,al10,qs10⟩; dsimp only [u4]; rintro ⟨hi10,hmz,okL10⟩
 refine cgo k1 fun w46 => ?_
 have bdL10 := okM.bnd okL10.1
 clear bdL9
 have hmzb : mz.bs = mv.bs := by rw [hmz]
 have hmzl : mz.lv.length = (lvF (fnM mv) (List.set dn5 b5 true) b5 a9).length + i10 := by rw [hmz]; simp; omega
 have hmzp : (ix mz.bs a9).Phis.length = (ix mv.bs a9).Phis.length := by rw [hmz]
 have hct9 := cntT_take (l := mv.bs) (k := a9) (by omega)
 have hmpz : mz.par = mv.par := by rw [hmz]
 have hczz : cntT mz.bs = cntT mv.bs := by rw [hmzb]
 refine jq (jq (jr (jm Z (jm Z (js (jnil Z) (js (jf F108_2 Z) (js (jf F49_1 Z) (js (jl k0 O47 Z Z) (jm Z (js (jbi' (j := a9) U47 Z62 hvb7 Z Z Z (by omega)) (js (jf F62_0 Z) ?_)))))))))))
 refine js (jbh0 k2 (by omega) O57 Z Z) (js (jbn0 U57 k2 (by omega) Z) (js (jlss Z Z) (jn (jx ?_))))
 refine jif Z (fun hc14 => ?_) (fun hc14 => ?_)
 refine jsk (jx (jq (jb (jany true (.a 0 (.a 1 (.a 2 (.a 3 (.a 4 (.a 5 (.a 6 (.a 7 (.a 8 (.a 9 (.a 10 (.a 11 (.a 12 (.a 13 (.a 14 (.a 15 (.a 16 (.a 17 (.o 18 (.o 19 (.a 20 (.a 21 (.o 22 .e))))))))))))))))))))))) Mixed (by kernel_rfl) (kc k0 (kc k1 kn)) fun F47 => jy Z (jmv Z) (jy Z (jmv Z) (jy Z (jnil Z) (jy Z (jf F108_4 Z) (jy Z (jl k0 O22 Z Z) (jy Z (jmv Z) (jy Z (jnil Z) ?_))))))))))
 refine jy Z (jf F108_2 Z) (jy Z (jf F49_1 Z) (jy Z (jl k0 O47 Z Z) (jy Z (jmv Z) (jy Z (jbi' (j := a9) U47 Z62 hvb7 Z Z Z (by omega)) (jy Z (jf F62_0 Z) (jy Z (jbh0 k1 (by omega) O57 Z Z) (jy Z (jmv Z) (jy Z (jbi0 (i := i10) U57 Z65 k1 (by omega) Z Z Z (by omega)) (jy Z (jf F65_0 Z) (jy Z (jbd0 k1 (by omega) (by omega) O3 Z Z) (jyo Z ?_)))))))))))
 refine jlit (r := (rI .i64)) (l := [(ix (ix mz.bs a9).Phis i10).Dst]) U22 I3 (by decide) Z Z Z (lV Z Z (wI (wbd0 k2 (by omega) (by omega))) ln) fun g277 => jyn d0 (kc k1 (kc k2 kn)) (jyo Z (jfz k0 (by (try simp) <;> omega) (japl U22 I3 (by decide) Z k1 Z Z d0 (by (try simp) <;> omega) fun v278 w51 => jyn d1 (kc k1 (kc k1 kn)) (jy Z (jnil Z) (jy Z (jf F108_4 Z) (jyo Z (jst k1 Z22 Z Z w51.one s5 (jkn (c := 200 + 3690 * u + 410 * b5 + 1) ({ mz with lv := mz.lv ++ ([(ix (ix mz.bs a9).Phis i10).Dst]) }) (kd (kc k0 kn)) ⟨(okM.setlv okL10.1 (by rw [List.length_append]; simp only [List.length_cons,List.length_nil]; omega) (Nat.le_refl _)),okL10.2⟩ fun ms53 hms53 oms53 bms53 => ?_))))))))
 clear bdL10
 refine jyz d0 (jyd (jbn (jx (jr (jm Z (js (jadd Z Z (by omega)) (ja Z (jn ?_))))))))
 exact jag (i10 + 1,ms53,v278,qs10) ⟨by dsimp only; omega,by dsimp only; rw [hms53,hmz]; dsimp only; rw [map_snoc (by omega),List.append_assoc],oms53.mono (Nat.le_refl _)⟩ (dc d4 (dc d5 dn)) (kd (kd (kd (kc k0 kn)))) ⟨Z,Z,Z,Z,Z,Z,Z,Z,Z,Z,eqI (by omega),trivial⟩
 refine jex (jtx (jtx (jbh (jx (jq (jr (ja Z (jn (jx (jb ?_))))))))))
 refine jlp (u4 fun (i11 : Nat) (mo : Mk) (al11 : Value) (qs11 : List BV) => ⟨i11 ≤ (ix mv.bs a9).Ins.length ∧ mo = { mv with lv := lvF (fnM mv) (List.set dn5 b5 true) b5 a9 ++ ((ix mv.bs a9).Phis.map (·.Dst) ++ ((ix mv.bs a9).Ins.take i11).flatMap makes3) } ∧ okS (Int.toNat nn) (200 + 3690 * u + 410 * b5 + 1) s mo,[dv (rL (rL (rI .i64))) v53 ((targM nn m49).1),dv (rL (rI .i64)) a0 s],[bx g33 108 [a0,.int .i64 mo.k,.int .i64 mo.par,(.slice (some ⟨g56,0,none⟩) (Int.toNat nn) (Int.toNat nn)),.int .i64 mo.nx,al11],gl X.n (rI .i64) 3 al11 mo.lv,bk X.n (.slice (some ⟨g56,0,none⟩) (Int.toNat nn) (Int.toNat nn)) qs11 mo.bs,gl X.n rB 4 (.slice (some ⟨g136,0,none⟩) (Int.toNat nn) (Int.toNat nn)) (List.set dn5 b5 true),gl X.n (rL rB) 129 va aw,gl X.n (rI .i64) 3 (.slice (some ⟨g79,0,none⟩) (Int.toNat nn) (Int.toNat nn)) ph,bx g2 49 [.int .i64 0,.slice none 0 0]],[(2,.pointer (some ⟨g2,0,none⟩)),(3,.pointer (some ⟨g33,0,none⟩)),(4,.int .i64 nn),(5,v53),(7,(.slice (some ⟨g79,0,none⟩) (Int.toNat nn) (Int.toNat nn))),(11,(.slice (some ⟨g136,0,none⟩) (Int.toNat nn) (Int.toNat nn))),(12,.int .i64 (↑u)),(13,.int .i64 (↑b5)),(15,va),(19,.int .i64 (↑a9)),(21,.int .i64 (↑i11))],(ix mv.bs a9).Ins.length - i11⟩) (0,mz,al10,qs10) ⟨Nat.zero_le _,by dsimp only; rw [hmz,List.take_of_length_le (by omega)]; simp,okL10.mono (Nat.le_refl _)⟩ (dc d0 (dc d1 dn)) (kd (kd (kd (kc k0 kn)))) ⟨Z,Z,Z,Z,Z,Z,Z,Z,Z,Z,eqI (by omega),trivial⟩ ?_
 rintro ⟨i11,mo,al11,qs11⟩; dsimp only [u4]; rintro ⟨hi11,hmo,okL11⟩
 refine cgo k1 fun w54 => ?_
 have bdL11 := okM.bnd okL11.1
 clear bdL10
 have hmob : mo.bs = mv.bs := by rw [hmo]
 have hfm := fm_len (l := (ix mv.bs a9).Ins.take i11)
 have hmol : mo.lv.length ≤ (lvF (fnM mv) (List.set dn5 b5 true) b5 a9).length + (ix mv.bs a9).Phis.length + 2 * i11 := by rw [hmo]; rw [List.length_take] at hfm; simp only [List.length_append,List.length_map]; omega
 have hmop : (ix mo.bs a9).Ins.length = (ix mv.bs a9).Ins.length := by rw [hmo]
 have hmpo : mo.par = mv.par := by rw [hmo]
 have hczo : cntT mo.bs = cntT mv.bs := by rw [hmob]
 refine jq (jq (jr (jm Z (jm Z (js (jnil Z) (js (jf F108_2 Z) (js (jf F49_1 Z) (js (jl k0 O47 Z Z) (jm Z (js (jbi' (j := a9) U47 Z62 hvb7 Z Z Z (by omega)) (js (jf F62_1 Z) ?_)))))))))))
 refine js (jbh1 k2 (by omega) O58 Z Z) (js (jbn1 U58 k2 (by omega) Z) (js (jlss Z Z) (jn (jx ?_))))
 refine jif Z (fun hc15 => ?_) (fun hc15 => ?_)
 refine jsk (jx (jq (jb (jq (jr (jm Z (js (jnil Z) (js (jf F108_2 Z) (js (jf F49_1 Z) (js (jl k0 O47 Z Z) (jm Z ?_)))))))))))
 refine js (jbi' (j := a9) U47 Z62 hvb7 Z Z Z (by omega)) (js (jf F62_1 Z) (js (jbh1 k2 (by omega) O58 Z Z) (jm Z (js (jbi1 (i := i11) U58 Z67 k2 (by omega) Z Z Z (by omega)) (jA sIns (jbA1 k2 (by omega) (by omega) A67 Z67 Z) fun c306 => jcd E66 Z Z r3makes_ct (dc d0 dn) kn fun v307 q56 w56 => ja Z (jn (jx (jr (jm Z ?_)))))))))
 refine jm Z (js (jnil Z) (js (jf F108_4 Z) (js (jl k0 O22 Z Z) (jm Z (japl U22 I3 (by decide) Z k1 Z Z d0 (by (try simp) <;> omega) fun v314 w58 => js (jnil Z) (js (jf F108_4 Z) (jst k1 Z22 Z Z w58.one s5 (jkn (c := 200 + 3690 * u + 410 * b5 + 1) ({ mo with lv := mo.lv ++ (makes3 (ix (ix mo.bs a9).Ins i11)) }) (kd (kc k0 kn)) ⟨(okM.setlv okL11.1 (by rw [List.length_append]; have h2 := makes3_len (ix (ix mo.bs a9).Ins i11); omega) (Nat.le_refl _)),okL11.2⟩ fun ms59 hms59 oms59 bms59 => ?_))))))))
 clear bdL11
 refine jn (jbn (jx (jr (jm Z (js (jadd Z Z (by omega)) (ja Z (jn ?_)))))))
 exact jag (i11 + 1,ms59,v314,qs11) ⟨by dsimp only; omega,by dsimp only; rw [hms59,hmo]; dsimp only; rw [fm_snoc (by omega),List.append_assoc,List.append_assoc],oms59.mono (Nat.le_refl _)⟩ (dc d2 (dc d3 dn)) (kd (kd (kd (kc k0 kn)))) ⟨Z,Z,Z,Z,Z,Z,Z,Z,Z,Z,eqI (by omega),trivial⟩
 refine jex (jtx (jtx (jbh (jbn (jx (jr (jm Z (js (jadd Z Z (by omega)) (ja Z (jn ?_))))))))))
 exact jag (a9 + 1,mo,al11,qs11) ⟨by dsimp only; omega,by dsimp only; rw [hmo,lvF_s,lvB,if_neg hsk,List.take_of_length_le (by omega)]; rfl,okL11.mono (Nat.le_refl _)⟩ (dc d0 (dc d1 dn)) (kd (kd (kd (kc k0 kn)))) ⟨Z,Z,Z,Z,Z,Z,Z,Z,Z,eqI (by omega),trivial⟩
 have hlv : my = lvM (Int.toNat (nn)) b5 (List.set dn5 b5 true) mv := by rw [hmy,show a9 = (Int.toNat (nn)) by omega]; rfl
 refine jex (jtx (jtx (jbh (jx (jq (jr (jm Z (jkr E47 Z Z (m3take_ct okL9 (by omega) 7 (by first | decide | omega | (dsimp only; omega) | (simp only [fnM]; omega))) (dc d1 dn) (kd (kc k0 kn)) ⟨tO9 okL9.1,okL9.2⟩ fun m318 hm318 om318 bm318 => ?_))))))))
 have w318_0 : IntKind.i64.wrap (tVV 7 my) = tVV 7 my := (IntWalk.i64_in _ (by have h9 := @tV9 7 (by omega) my; omega))
 have tr318 := @tV9 7 (by omega) my
 clear bdL9
 refine ja Z (jn (jx (jq (jq (jr (ja Z (jn (jx (jb ?_)))))))))
 refine jlp (u4 fun (k12 : Nat) (mp : Mk) (al12 : Value) (qs12 : List BV) => ⟨k12 ≤ (Int.toNat (tVV 7 my)) ∧ pl mp = pl mv ∧ insN b5 (Int.toNat (tVV 7 my)) m318 = insN b5 ((Int.toNat (tVV 7 my)) - k12) mp ∧ okS (Int.toNat nn) (200 + 3690 * u + 410 * b5 + 1 + 1 + 60 * k12) s mp,[dv (rL (rL (rI .i64))) v53 ((targM nn m49).1),dv (rL (rI .i64)) a0 s],[bx g33 108 [a0,.int .i64 mp.k,.int .i64 mp.par,(.slice (some ⟨g56,0,none⟩) (Int.toNat nn) (Int.toNat nn)),.int .i64 mp.nx,al12],gl X.n (rI .i64) 3 al12 mp.lv,bk X.n (.slice (some ⟨g56,0,none⟩) (Int.toNat nn) (Int.toNat nn)) qs12 mp.bs,gl X.n rB 4 (.slice (some ⟨g136,0,none⟩) (Int.toNat nn) (Int.toNat nn)) (List.set dn5 b5 true),gl X.n (rI .i64) 3 (.slice (some ⟨g79,0,none⟩) (Int.toNat nn) (Int.toNat nn)) ph,bx g2 49 [.int .i64 0,.slice none 0 0]],[(2,.pointer (some ⟨g2,0,none⟩)),(3,.pointer (some ⟨g33,0,none⟩)),(4,.int .i64 nn),(5,v53),(7,(.slice (some ⟨g79,0,none⟩) (Int.toNat nn) (Int.toNat nn))),(11,(.slice (some ⟨g136,0,none⟩) (Int.toNat nn) (Int.toNat nn))),(12,.int .i64 (↑u)),(13,.int .i64 (↑b5)),(23,.int .i64 (tVV 7 my)),(24,.int .i64 (↑k12))],(Int.toNat (tVV 7 my)) - k12⟩) (0,m318,al9,qs9) ⟨Nat.zero_le _,by dsimp only; rw [hm318,hmy]; rfl,rfl,om318.mono (by omega)⟩ (dc d0 (dc d1 dn)) (kd (kd (kc k1 (kc k1 kn)))) ⟨Z,Z,Z,Z,Z,Z,Z,Z,Z,eqI (by omega),trivial⟩ ?_
 rintro ⟨k12,mp,al12,qs12⟩; dsimp only [u4]; rintro ⟨hk12,hpp,hR12,okL12⟩
 refine cgo k1 fun w60 => ?_
 have bdL12 := okM.bnd okL12.1
 clear bm318
 refine jq (jq (jr (jm Z (jm Z (js (jlss Z Z) (jn (jx ?_)))))))
 refine jif Z (fun hc16 => ?_) (fun hc16 => ?_)
 refine jsk (jx (jq (jb (jr (jm Z (jm Z (jkb E67 Z Z (m3ins_ct okL12 (by omega) ↑b5 (by first | decide | omega | (dsimp only; omega) | (simp only [fnM]; omega))) (dc d1 dn) (kd (kc k0 kn)) ⟨ins3_ok okL12.1 (by omega),(insS_s.trans okL12.2)⟩ p0 fun m326 hm326 om326 bm326 ua326 qs326 w61 => ?_)))))))
 clear bdL12
 refine jn (jbn (jx (jr (jm Z (js (jadd Z Z (by omega)) (ja Z (jn ?_)))))))
 exact jag (k12 + 1,m326,ua326,qs326) ⟨by dsimp only; omega,by dsimp only; rw [hm326,pl_ins,hpp],by dsimp only; rw [hR12,show (Int.toNat (tVV 7 my)) - k12 = ((Int.toNat (tVV 7 my)) - (k12 + 1)) + 1 by omega,insN,hm326],om326.mono (by omega)⟩ (dc d0 (dc d1 dn)) (kd (kd (kd kn))) ⟨Z,Z,Z,Z,Z,Z,Z,Z,Z,eqI (by omega),trivial⟩
 have hE12 : insN b5 (Int.toNat (tVV 7 my)) m318 = mp := by rw [hR12,show (Int.toNat (tVV 7 my)) - k12 = 0 by omega]; rfl
 refine jex (jtx (jtx (jbh (jx (jr (jm Z (jm Z (jm Z (jm Z (js (jix U125 Z22 d0 Z Z Z (by omega)) (jev (jlV (dix d0 b5 (by omega)) O22 Z Z) fun v332 q62 w62 => ?_)))))))))))
 refine jkb E68 Z Z (m3end_ct okL12 (by omega) ↑b5 (by first | decide | omega | (dsimp only; omega) | (simp only [fnM]; omega))) (dc d2 (dc d0 dn)) (kd (kc k0 kn)) ⟨end_ok okL12.1 (by omega),(endS_s.trans okL12.2)⟩ p0 fun m333 hm333 om333 bm333 ua333 qs333 w64 => ?_
 clear bdL12
 refine jn (jbn (jx (jr (jm Z (js (jadd Z Z (by omega)) (ja Z (jn ?_)))))))
 exact jag (b5 + 1,List.set dn5 b5 true,m333,ua333,qs333) ⟨by dsimp only; omega,by simp [hdl5],by dsimp only; rw [hm333,pl_end,hpp,hpv],by dsimp only; rw [hR5,show (Int.toNat (nn)) - b5 = ((Int.toNat (nn)) - (b5 + 1)) + 1 by omega,rowS,if_pos hrd,blkM,← hlv,← hm318,hE12,hm333],om333.mono (by omega)⟩ (dc d1 (dc d2 dn)) (kc k3 (kc k3 (kd (kd kn)))) ⟨Z,Z,Z,Z,Z,Z,Z,eqI (by omega),trivial⟩
 have hE5 : rowS (Int.toNat (nn)) ((targM nn m49).1) (Int.toNat (nn)) 0 dz mu = (dn5,mv) := by rw [hR5,show (Int.toNat (nn)) - b5 = 0 by omega]; rfl
 refine jex (jtx (jtx (jbh (jbn (jx (jr (jm Z (js (jadd Z Z (by omega)) (ja Z (jn ?_))))))))))
 exact jag (u + 1,dn5,mv,al5,qs5) ⟨by dsimp only; omega,hdl5,by dsimp only; rw [hpv,hpu],by dsimp only; rw [hR4,show (Int.toNat (nn)) - u = ((Int.toNat (nn)) - (u + 1)) + 1 by omega,turnS,hE5],okL5.mono (by omega)⟩ (dc d0 (dc d1 dn)) (kd (kd (kd kn))) ⟨Z,Z,Z,Z,Z,Z,eqI (by omega),trivial⟩
 have hE4 : turnS (Int.toNat (nn)) ((targM nn m49).1) (Int.toNat (nn)) (List.replicate (Int.toNat (nn)) false) mr = (dz,mu) := by rw [hR4,show (Int.toNat (nn)) - u = 0 by omega]; rfl
 refine jex (jtx (jtx (jbh (jx (jq (jq (jr (ja Z (jn (jx (jb ?_)))))))))))
 refine jlp (u4 fun (b13 : Nat) (mf : Mk) (al13 : Value) (qs13 : List BV) => ⟨(1 ≤ b13 ∧ b13 ≤ (Int.toNat (nn))) ∧ pl mf = pl mu ∧ finS ph ((Int.toNat (nn)) - 1) 1 mu = finS ph ((Int.toNat (nn)) - b13) b13 mf ∧ okS (Int.toNat nn) (34000 + 200 * b13) s mf,[dv (rL (rI .i64)) a0 s],[gl X.n (rI .i64) 3 (.slice (some ⟨g79,0,none⟩) (Int.toNat nn) (Int.toNat nn)) ph,bx g33 108 [a0,.int .i64 mf.k,.int .i64 mf.par,(.slice (some ⟨g56,0,none⟩) (Int.toNat nn) (Int.toNat nn)),.int .i64 mf.nx,al13],gl X.n (rI .i64) 3 al13 mf.lv,bk X.n (.slice (some ⟨g56,0,none⟩) (Int.toNat nn) (Int.toNat nn)) qs13 mf.bs,bx g2 49 [.int .i64 0,.slice none 0 0]],[(2,.pointer (some ⟨g2,0,none⟩)),(3,.pointer (some ⟨g33,0,none⟩)),(4,.int .i64 nn),(7,(.slice (some ⟨g79,0,none⟩) (Int.toNat nn) (Int.toNat nn))),(25,.int .i64 (↑b13))],(Int.toNat (nn)) - b13⟩) (1,mu,al4,qs4) ⟨by omega,rfl,rfl,okL4.mono (by omega)⟩ (dc d1 dn) (kc k1 (kc k1 (kc k1 (kc k1 (kc k1 kn))))) ⟨Z,Z,Z,Z,eqI (by omega),trivial⟩ ?_
 rintro ⟨b13,mf,al13,qs13⟩; dsimp only [u4]; rintro ⟨hb13,hpf,hR13,okL13⟩
 refine cgo k2 fun w65 => ?_
 have bdL13 := okM.bnd okL13.1
 clear bdL4
 have hmfl := okL13.1.2.2.2.2.1
 refine jq (jq (jr (jm Z (jm Z (js (jlss Z Z) (jn (jx ?_)))))))
 refine jif Z (fun hc17 => ?_) (fun hc17 => ?_)
 refine jsk (jx (jq (jb (jq (jr (jm Z (js (jnil Z) (js (jf F108_2 Z) (js (jla k1 A49 Z49 Z Z Z) (jm Z (jc E63 Z Z (Tg_bt (Tr.dd (r3preds_ct (f := fnM mf) ↑b13) (fn_dd (IntWalk.i64_in _ (by show _ ≤ mf.par ∧ mf.par ≤ _; omega)))) (okL13.lens (by omega) (by omega))) dn (kc k3 kn) (fun _ => p0) (fun _ => p2) fun v344 => jgo k0 fun w66 => ?_)))))))))))
 have hpl9 : (pd3 (fnM mf) (b13 : Int)).length ≤ mf.bs.length := preds3_len _ _
 refine jfz k0 (by (try simp) <;> omega) (ja Z (jn (jx (jq (jr (ja Z (jn (jx (jb ?_)))))))))
 refine jlp (u4 fun (i14 : Nat) (mg : Mk) (al14 : Value) (qs14 : List BV) => ⟨i14 ≤ (Int.toNat (ix ph b13)) ∧ pl mg = pl mf ∧ inP (pd3 (fnM mf) b13) b13 (Int.toNat (ix ph b13)) 0 mf = inP (pd3 (fnM mf) b13) b13 ((Int.toNat (ix ph b13)) - i14) i14 mg ∧ okS (Int.toNat nn) (34000 + 200 * b13 + 60 * i14) s mg,[dv (rL (rI .i64)) v344 (pd3 (fnM mf) ↑b13),dv (rL (rI .i64)) a0 s],[bk X.n (.slice (some ⟨g56,0,none⟩) (Int.toNat nn) (Int.toNat nn)) qs14 mg.bs,gl X.n (rI .i64) 3 (.slice (some ⟨g79,0,none⟩) (Int.toNat nn) (Int.toNat nn)) ph,bx g33 108 [a0,.int .i64 mg.k,.int .i64 mg.par,(.slice (some ⟨g56,0,none⟩) (Int.toNat nn) (Int.toNat nn)),.int .i64 mg.nx,al14],gl X.n (rI .i64) 3 al14 mg.lv,bx g2 49 [.int .i64 0,.slice none 0 0]],[(2,.pointer (some ⟨g2,0,none⟩)),(3,.pointer (some ⟨g33,0,none⟩)),(4,.int .i64 nn),(7,(.slice (some ⟨g79,0,none⟩) (Int.toNat nn) (Int.toNat nn))),(25,.int .i64 (↑b13)),(26,v344),(27,.int .i64 (↑i14))],(Int.toNat (ix ph b13)) - i14⟩) (0,mf,al13,qs13) ⟨Nat.zero_le _,rfl,rfl,okL13.mono (by omega)⟩ (dc d0 (dc d1 dn)) (kd (kd (kc k0 kn))) ⟨Z,Z,Z,Z,Z,Z,eqI (by omega),trivial⟩ ?_
 rintro ⟨i14,mg,al14,qs14⟩; dsimp only [u4]; rintro ⟨hi14,hpg,hR14,okL14⟩
 refine cgo k3 fun w68 => ?_
 have bdL14 := okM.bnd okL14.1
 clear bdL13
 have hph13 := hph b13
 refine jq (jq (jr (jm Z (jm Z (jm Z (js (jig U22 Z3 k1 Z Z Z (by omega)) (js (jgI k1 (by omega) O3 Z) (js (jlss Z Z) (jn (jx ?_))))))))))
 refine jif Z (fun hc18 => ?_) (fun hc18 => ?_)
 refine jsk (jx (jq (jb (jq (jr (jlit (r := rIn) (l := []) U63 I111 (by decide) Z Z Z ln fun g353 => ja Z (jn (jx (jq (jq ?_))))))))))
 refine jr (ja Z (jn (jx (jb ?_))))
 refine jlp (u6 fun (k15 : Nat) (vi : Value) (li : List D.In) (mh : Mk) (al15 : Value) (qs15 : List BV) => ⟨k15 ≤ (pd3 (fnM mf) b13).length ∧ pl mh = pl mg ∧ li.length = k15 ∧ inS (pd3 (fnM mf) b13) (pd3 (fnM mf) b13).length 0 [] mg = inS (pd3 (fnM mf) b13) ((pd3 (fnM mf) b13).length - k15) k15 li mh ∧ okS (Int.toNat nn) (34000 + 200 * b13 + 60 * i14 + 6 * k15) s mh,[dv (rL (rI .i64)) v344 (pd3 (fnM mf) ↑b13),dv (rL (rI .i64)) a0 s],[gl X.n rIn 111 vi li,bk X.n (.slice (some ⟨g56,0,none⟩) (Int.toNat nn) (Int.toNat nn)) qs15 mh.bs,gl X.n (rI .i64) 3 (.slice (some ⟨g79,0,none⟩) (Int.toNat nn) (Int.toNat nn)) ph,bx g33 108 [a0,.int .i64 mh.k,.int .i64 mh.par,(.slice (some ⟨g56,0,none⟩) (Int.toNat nn) (Int.toNat nn)),.int .i64 mh.nx,al15],gl X.n (rI .i64) 3 al15 mh.lv,bx g2 49 [.int .i64 0,.slice none 0 0]],[(2,.pointer (some ⟨g2,0,none⟩)),(3,.pointer (some ⟨g33,0,none⟩)),(4,.int .i64 nn),(7,(.slice (some ⟨g79,0,none⟩) (Int.toNat nn) (Int.toNat nn))),(25,.int .i64 (↑b13)),(26,v344),(27,.int .i64 (↑i14)),(28,vi),(29,.int .i64 (↑k15))],(pd3 (fnM mf) b13).length - k15⟩) (0,(.slice (some ⟨g353,0,none⟩) 0 0),[],mg,al14,qs14) ⟨Nat.zero_le _,rfl,rfl,rfl,okL14.mono (by omega)⟩ (dc d0 (dc d1 dn)) (kd (kd (kd kn))) ⟨Z,Z,Z,Z,Z,Z,Z,Z,eqI (by omega),trivial⟩ ?_
 rintro ⟨k15,vi,li,mh,al15,qs15⟩; dsimp only [u6]; rintro ⟨hk15,hph15,hlil,hR15,okL15⟩
 refine cgo k0 fun w69 => cgo k4 fun w70 => ?_
 have bdL15 := okM.bnd okL15.1
 clear bdL14
 have hmhl := okL15.1.2.2.2.2.1
 refine jq (jq (jr (jm Z (jm Z (js (jln U22 d0 Z) (js (jlss Z Z) (jn (jx ?_))))))))
 refine jif Z (fun hc19 => ?_) (fun hc19 => ?_)
 have hpr : 0 ≤ ix (pd3 (fnM mf) b13) k15 ∧ ix (pd3 (fnM mf) b13) k15 < (mf.bs.length : Int) := preds3_rng (f := fnM mf) (b := (b13 : Int)) _ (ix_mem (l := (pd3 (fnM mf) b13)) (i := k15) (by omega))
 have hplh := pl_get (hph15.trans hpg) 0
 have hsl : (stand3 (fnM mh) (ix (pd3 (fnM mf) ↑b13) k15)).length ≤ mh.par.toNat + 2 * cntT mh.bs := stand3_len _ _
 refine jsk (jx (jq (jb (jq (jtl 8 Mixed (by kernel_rfl) (jt (jmv Z) (jt (jnil Z) (jt (jf F108_2 Z) (jt (jla k3 A49 Z49 Z Z Z) (jt (jmv Z) (jt (jmv Z) ?_)))))))))))
 refine jt (jix U22 Z3 d0 Z Z Z (by omega)) (jt (jlI (dix d0 k15 (by omega)) O3 Z) (jtt (jc E69 Z Z (Tg_bt (Tr.dd (r3stand_ct (f := fnM mh) (ix (pd3 (fnM mf) ↑b13) k15) (by show 0 ≤ _ ∧ _ < (mh.bs.length : Int); omega) (by show cntT mh.bs < _; omega) (by show 0 ≤ mh.par ∧ mh.par ≤ 4; omega)) (fn_dd (IntWalk.i64_in _ (by show _ ≤ mh.par ∧ mh.par ≤ _; omega)))) (okL15.lens (by omega) (by omega))) dn (kc k1 kn) (fun _ => p0) (fun _ => p2) fun v368 => jgo k0 fun w71 => ja Z (jn (jx (jq (jq (jr (jm Z (js (jlg U22 k0 Z) ?_))))))))))
 refine js (jeql Z Z) (jn (jx ?_))
 refine jif Z (fun hc20 => ?_) (fun hc20 => ?_)
 have hz : (stand3 (fnM mh) (ix (pd3 (fnM mf) b13) k15)).length = 0 := by omega
 refine jany false (.a 0 (.a 1 (.a 2 (.a 3 (.a 4 (.a 5 (.a 6 (.o 7 (.o 8 (.o 9 (.o 10 (.a 11 .e)))))))))))) Mixed (by kernel_rfl) kn fun F72 => jy Z (jmv Z) (jy Z (jmv Z) (jy Z (jmv Z) (jy Z (jmv Z) (jy Z (jix U22 Z3 d0 Z Z Z (by omega)) (jy Z (jlI (dix d0 k15 (by omega)) O3 Z) (jy Z (jmv Z) (jyo Z (jkr E71 Z Z (m3word_ct okL15 (by omega)) (dc d2 dn) (kc k4 (kc k4 (kc k1 kn))) ⟨word_ok okL15.1,okL15.2⟩ fun m379 hm379 om379 bm379 => ?_))))))))
 have w379_0 : IntKind.i32.wrap (wordV mh) = wordV mh := (word_w mh)
 clear bdL15
 refine jyn d0 kn (jyo Z (jkb E70 Z Z (m3const_ct om379 (by omega) (ix (pd3 (fnM mf) ↑b13) k15) (wordV mh) (by first | decide | omega | (dsimp only; omega) | (simp only [fnM]; omega)) w379_0) (dc d3 dn) (kd (kc k0 kn)) ⟨const_ok om379.1 (by omega),(constS_s.trans om379.2)⟩ p1 fun m380 hm380 om380 bm380 ua380 qs380 w75 => ?_))
 clear bm379
 have hal9 : (List.length ((stand3 (fnM mh) (ix (pd3 (fnM mf) ↑b13) k15)) ++ [m379.nx])) = (stand3 (fnM mh) (ix (pd3 (fnM mf) ↑b13) k15)).length + 1 := by simp
 refine jyn d1 kn (jyo Z (jlit (r := (rI .i64)) (l := [m379.nx]) U22 I3 (by decide) Z Z Z (lV Z Z (wI ((wfw d1))) ln) fun g381 => jyn d0 kn (jyo Z (jfz k0 (by (try simp) <;> omega) (japl U22 I3 (by decide) Z k3 Z Z d0 (by (try simp) <;> omega) fun v382 w80 => jyn d1 kn (jy Z (jas Z) (jyd (jx (jany false (.a 0 (.a 1 (.a 2 (.a 3 (.a 4 (.a 5 (.a 6 (.a 7 (.a 8 (.o 9 (.a 10 (.a 11 (.a 12 (.o 13 (.o 14 (.a 15 .e)))))))))))))))) Mixed (by kernel_rfl) (kc k0 kn) fun F81 => ?_)))))))))
 refine jy Z (jmv Z) (jy Z (jmv Z) (jy Z (jmv Z) (jy Z (jix U22 Z3 d6 Z Z Z (by omega)) (jy Z (jlI (dix d6 k15 (by omega)) O3 Z) (jy Z (jmv Z) (jy Z (jmv Z) (jy Z (jmv Z) (jy Z (jlg U22 k0 Z) (jyo Z (jkr E47 Z Z (m3take_ct om380 (by omega) (↑(List.length ((stand3 (fnM mh) (ix (pd3 (fnM mf) ↑b13) k15)) ++ ([m379.nx])))) (by first | decide | omega | (dsimp only; omega) | (simp only [fnM]; omega))) (dc d8 dn) (kc k1 (kc k1 (kc k1 kn))) ⟨tO9 om380.1,om380.2⟩ fun m392 hm392 om392 bm392 => ?_))))))))))
 have w392_0 : IntKind.i64.wrap (tVV (↑(List.length ((stand3 (fnM mh) (ix (pd3 (fnM mf) ↑b13) k15)) ++ ([m379.nx])))) m380) = tVV (↑(List.length ((stand3 (fnM mh) (ix (pd3 (fnM mf) ↑b13) k15)) ++ ([m379.nx])))) m380 := (IntWalk.i64_in _ (by have h9 := @tV9 (↑(List.length ((stand3 (fnM mh) (ix (pd3 (fnM mf) ↑b13) k15)) ++ ([m379.nx])))) (by omega) m380; omega))
 have tr392 := @tV9 (↑(List.length ((stand3 (fnM mh) (ix (pd3 (fnM mf) ↑b13) k15)) ++ ([m379.nx])))) (by omega) m380
 clear bm380
 refine jyn d0 (kc k3 kn) (jy Z (jig (i := (Int.toNat (tVV (↑(List.length ((stand3 (fnM mh) (ix (pd3 (fnM mf) ↑b13) k15)) ++ ([m379.nx])))) m380))) U22 Z3 k0 Z Z (by omega) (by first | omega | (simp <;> omega))) (jy Z (jgI k0 (by first | omega | (simp <;> omega)) O3 Z) (jy Z (jbu (v := .agg #[.int .i64 (ix (pd3 (fnM mf) ↑b13) k15),.int .i64 (ix ((stand3 (fnM mh) (ix (pd3 (fnM mf) ↑b13) k15)) ++ ([m379.nx])) (Int.toNat (tVV (↑(List.length ((stand3 (fnM mh) (ix (pd3 (fnM mf) ↑b13) k15)) ++ ([m379.nx])))) m380)))]) Z (fun _ => by kernel_rfl)) (jyo Z (jlit (r := rIn) (l := [⟨ix (pd3 (fnM mf) ↑b13) k15,ix ((stand3 (fnM mh) (ix (pd3 (fnM mf) ↑b13) k15)) ++ ([m379.nx])) (Int.toNat (tVV (↑(List.length ((stand3 (fnM mh) (ix (pd3 (fnM mf) ↑b13) k15)) ++ ([m379.nx])))) m380))⟩]) U63 I111 (by decide) Z Z Z (lA (rIn.M (m := ⟨ix (pd3 (fnM mf) ↑b13) k15,ix ((stand3 (fnM mh) (ix (pd3 (fnM mf) ↑b13) k15)) ++ ([m379.nx])) (Int.toNat (tVV (↑(List.length ((stand3 (fnM mh) (ix (pd3 (fnM mf) ↑b13) k15)) ++ ([m379.nx])))) m380))⟩) (c := ()) (wad (dix d8 k15 (by omega))) (wgl (i := (Int.toNat (tVV (↑(List.length ((stand3 (fnM mh) (ix (pd3 (fnM mf) ↑b13) k15)) ++ ([m379.nx])))) m380))) k3 (by omega))) ln) fun g396 => jyn d0 (kc k4 kn) (jyo Z (jfz k0 (by (try simp) <;> omega) (japl U63 I111 (by decide) Z k4 Z Z d0 (by (try simp) <;> omega) fun v397 w86 => jyn d1 (kc k4 kn) (jy Z (jas Z) ?_)))))))))
 refine jyd (jbn (jx (jr (jm Z (js (jadd Z Z (by omega)) (ja Z (jn ?_)))))))
 exact jag (k15 + 1,v397,li ++ ([⟨ix (pd3 (fnM mf) ((b13 : Nat) : Int)) k15,ix ((stand3 (fnM mh) (ix (pd3 (fnM mf) ((b13 : Nat) : Int)) k15)) ++ ([m379.nx])) (Int.toNat (tVV (((List.length ((stand3 (fnM mh) (ix (pd3 (fnM mf) ((b13 : Nat) : Int)) k15)) ++ ([m379.nx])) : Nat) : Int)) m380))⟩]),m392,ua380,qs380) ⟨by dsimp only; omega,by dsimp only; simp only [hm379,hm380,hm392]; first | exact hph15 | exact (pl_const (m := wordS mh)).trans hph15,by simp [hlil],by dsimp only; rw [hR15,show (pd3 (fnM mf) b13).length - k15 = ((pd3 (fnM mf) b13).length - (k15 + 1)) + 1 by omega,inS,show inX (ix (pd3 (fnM mf) b13) k15) mh = (⟨ix (pd3 (fnM mf) ((b13 : Nat) : Int)) k15,ix ((stand3 (fnM mh) (ix (pd3 (fnM mf) ((b13 : Nat) : Int)) k15)) ++ ([m379.nx])) (Int.toNat (tVV (((List.length ((stand3 (fnM mh) (ix (pd3 (fnM mf) ((b13 : Nat) : Int)) k15)) ++ ([m379.nx])) : Nat) : Int)) m380))⟩,m392) from by (unfold inX; first | (rw [if_pos hz]; simp [List.eq_nil_of_length_eq_zero hz,hm379,hm380,hm392]; done) | (rw [if_neg hz]; simp only [hm379,hm380,hm392]; done) | (rw [if_neg hz]; simp only [hm379,hm380,hm392]; rfl))],om392.mono (by omega)⟩ (dc d10 (dc d11 dn)) (kc k0 (kc k2 (kc k3 (kd (kc k1 kn))))) ⟨Z,Z,Z,Z,Z,Z,Z,Z,eqI (by omega),trivial⟩
 have hz : ¬ (stand3 (fnM mh) (ix (pd3 (fnM mf) b13) k15)).length = 0 := by omega
 refine jsk (jx (jany false (.a 0 (.a 1 (.a 2 (.a 3 (.a 4 (.a 5 (.a 6 (.a 7 (.a 8 (.o 9 (.a 10 (.a 11 (.a 12 (.o 13 (.o 14 (.a 15 .e)))))))))))))))) Mixed (by kernel_rfl) (kc k0 kn) fun F87 => jy Z (jmv Z) (jy Z (jmv Z) (jy Z (jmv Z) (jy Z (jix U22 Z3 d0 Z Z Z (by omega)) (jy Z (jlI (dix d0 k15 (by omega)) O3 Z) (jy Z (jmv Z) (jy Z (jmv Z) (jy Z (jmv Z) (jy Z (jlg U22 k0 Z) ?_))))))))))
 refine jyo Z (jkr E47 Z Z (m3take_ct okL15 (by omega) (↑(List.length (stand3 (fnM mh) (ix (pd3 (fnM mf) ↑b13) k15)))) (by first | decide | omega | (dsimp only; omega) | (simp only [fnM]; omega))) (dc d2 dn) (kc k4 (kc k4 (kc k1 kn))) ⟨tO9 okL15.1,okL15.2⟩ fun m392 hm392 om392 bm392 => ?_)
 have w392_0 : IntKind.i64.wrap (tVV (↑(List.length (stand3 (fnM mh) (ix (pd3 (fnM mf) ↑b13) k15)))) mh) = tVV (↑(List.length (stand3 (fnM mh) (ix (pd3 (fnM mf) ↑b13) k15)))) mh := (IntWalk.i64_in _ (by have h9 := @tV9 (↑(List.length (stand3 (fnM mh) (ix (pd3 (fnM mf) ↑b13) k15)))) (by omega) mh; omega))
 have tr392 := @tV9 (↑(List.length (stand3 (fnM mh) (ix (pd3 (fnM mf) ↑b13) k15)))) (by omega) mh
 clear bdL15
 refine jyn d0 (kc k3 kn) (jy Z (jig (i := (Int.toNat (tVV (↑(List.length (stand3 (fnM mh) (ix (pd3 (fnM mf) ↑b13) k15)))) mh))) U22 Z3 k0 Z Z (by omega) (by omega)) (jy Z (jgI k0 (by omega) O3 Z) (jy Z (jbu (v := .agg #[.int .i64 (ix (pd3 (fnM mf) ↑b13) k15),.int .i64 (ix (stand3 (fnM mh) (ix (pd3 (fnM mf) ↑b13) k15)) (Int.toNat (tVV (↑(List.length (stand3 (fnM mh) (ix (pd3 (fnM mf) ↑b13) k15)))) mh)))]) Z (fun _ => by kernel_rfl)) (jyo Z (jlit (r := rIn) (l := [⟨ix (pd3 (fnM mf) ↑b13) k15,ix (stand3 (fnM mh) (ix (pd3 (fnM mf) ↑b13) k15)) (Int.toNat (tVV (↑(List.length (stand3 (fnM mh) (ix (pd3 (fnM mf) ↑b13) k15)))) mh))⟩]) U63 I111 (by decide) Z Z Z (lA (rIn.M (m := ⟨ix (pd3 (fnM mf) ↑b13) k15,ix (stand3 (fnM mh) (ix (pd3 (fnM mf) ↑b13) k15)) (Int.toNat (tVV (↑(List.length (stand3 (fnM mh) (ix (pd3 (fnM mf) ↑b13) k15)))) mh))⟩) (c := ()) (wad (dix d2 k15 (by omega))) (wgl (i := (Int.toNat (tVV (↑(List.length (stand3 (fnM mh) (ix (pd3 (fnM mf) ↑b13) k15)))) mh))) k3 (by omega))) ln) fun g396_90 => jyn d0 (kc k4 kn) (jyo Z (jfz k0 (by (try simp) <;> omega) (japl U63 I111 (by decide) Z k4 Z Z d0 (by (try simp) <;> omega) fun v397_93 w94 => jyn d1 (kc k4 kn) (jy Z (jas Z) ?_)))))))))
 refine jyd (jbn (jx (jr (jm Z (js (jadd Z Z (by omega)) (ja Z (jn ?_)))))))
 exact jag (k15 + 1,v397_93,li ++ ([⟨ix (pd3 (fnM mf) ((b13 : Nat) : Int)) k15,ix (stand3 (fnM mh) (ix (pd3 (fnM mf) ((b13 : Nat) : Int)) k15)) (Int.toNat (tVV (((List.length (stand3 (fnM mh) (ix (pd3 (fnM mf) ((b13 : Nat) : Int)) k15)) : Nat) : Int)) mh))⟩]),m392,al15,qs15) ⟨by dsimp only; omega,by dsimp only; simp only [hm392]; first | exact hph15 | exact (pl_const (m := wordS mh)).trans hph15,by simp [hlil],by dsimp only; rw [hR15,show (pd3 (fnM mf) b13).length - k15 = ((pd3 (fnM mf) b13).length - (k15 + 1)) + 1 by omega,inS,show inX (ix (pd3 (fnM mf) b13) k15) mh = (⟨ix (pd3 (fnM mf) ((b13 : Nat) : Int)) k15,ix (stand3 (fnM mh) (ix (pd3 (fnM mf) ((b13 : Nat) : Int)) k15)) (Int.toNat (tVV (((List.length (stand3 (fnM mh) (ix (pd3 (fnM mf) ((b13 : Nat) : Int)) k15)) : Nat) : Int)) mh))⟩,m392) from by (unfold inX; first | (rw [if_pos hz]; simp [List.eq_nil_of_length_eq_zero hz,hm392]; done) | (rw [if_neg hz]; simp only [hm392]; done) | (rw [if_neg hz]; simp only [hm392]; rfl))],om392.mono (by omega)⟩ (dc d4 (dc d5 dn)) (kc k0 (kc k2 (kc k3 (kd (kc k1 kn))))) ⟨Z,Z,Z,Z,Z,Z,Z,Z,eqI (by omega),trivial⟩
 have hE15 : inS (pd3 (fnM mf) b13) (pd3 (fnM mf) b13).length 0 [] mg = (li,mh) := by rw [hR15,show (pd3 (fnM mf) b13).length - k15 = 0 by omega]; rfl
 have hpi : (ix mh.bs b13).Phis.length = (ix ph b13).toNat := by rw [pl_get (hph15.trans (hpg.trans (hpf.trans hpu))) b13,hOK2.1 b13,if_pos (by omega)]
 refine jex (jtx (jtx (jbh (jx (jr (jm Z (js (jnil Z) (js (jf F108_2 Z) (js (jf F49_1 Z) (js (jl k3 O47 Z Z) (jm Z ?_)))))))))))
 refine js (jbi' (j := b13) U47 Z62 hvb7 Z Z Z (by omega)) (js (jf F62_0 Z) (js (jbh0 k1 (by omega) O57 Z Z) (jm Z (jm Z (js (jbi0 (i := i14) U57 Z65 k1 (by omega) Z Z Z (by omega)) (js (jf F65_1 Z) (jfz k0 (by omega) (jbf0 b13 k0 (by omega) (jsp (i := i14) (off := 1) (a := { (ix (ix mh.bs b13).Phis i14) with In := li }) k0 (by omega) Z63 Z Z Z w69.one (poIn d0) ?_)))))))))
 refine jbw0 (b' := { (ix mh.bs b13) with Phis := List.set (ix mh.bs b13).Phis i14 { (ix (ix mh.bs b13).Phis i14) with In := li } }) (c := ?_) k0 k0 (by omega) Z Z
 refine jkn (c := 34000 + 200 * b13 + 60 * i14 + 6 * k15) ({ mh with bs := List.set mh.bs b13 { (ix mh.bs b13) with Phis := List.set (ix mh.bs b13).Phis i14 { (ix (ix mh.bs b13).Phis i14) with In := li } } }) (kc k2 (kc k2 (kc k0 kn))) ⟨(okM.setb (d := 0) okL15.1 (by dsimp only; rw [List.length_set]; exact Nat.le_refl _)),okL15.2⟩ fun ms96 hms96 oms96 bms96 => ?_
 clear bdL15
 refine jn (jbn (jx (jr (jm Z (js (jadd Z Z (by omega)) (ja Z (jn ?_)))))))
 exact jag (i14 + 1,ms96,al15,qs15) ⟨by dsimp only; omega,by dsimp only; rw [hms96]; exact (pl_putIn (b := b13) (i := i14) (l := li) (m := mh)).trans (hph15.trans hpg),by dsimp only; rw [hR14,show (Int.toNat (ix ph b13)) - i14 = ((Int.toNat (ix ph b13)) - (i14 + 1)) + 1 by omega,inP,hE15,hms96]; rfl,oms96.mono (by omega)⟩ (dc d1 (dc d2 dn)) (kc k2 (kc k2 (kd (kc k0 kn)))) ⟨Z,Z,Z,Z,Z,Z,eqI (by omega),trivial⟩
 have hE14 : inP (pd3 (fnM mf) b13) b13 (Int.toNat (ix ph b13)) 0 mf = mg := by rw [hR14,show (Int.toNat (ix ph b13)) - i14 = 0 by omega]; rfl
 refine jex (jtx (jtx (jbh (jbn (jx (jr (jm Z (js (jadd Z Z (by omega)) (ja Z (jn ?_))))))))))
 exact jag (b13 + 1,mg,al14,qs14) ⟨by dsimp only; omega,by dsimp only; rw [hpg,hpf],by dsimp only; rw [hR13,show (Int.toNat (nn)) - b13 = ((Int.toNat (nn)) - (b13 + 1)) + 1 by omega,finS,hE14],okL14.mono (by omega)⟩ (dc d1 dn) (kc k1 (kc k1 (kc k1 (kd kn)))) ⟨Z,Z,Z,Z,eqI (by omega),trivial⟩
 have hE13 : finS ph ((Int.toNat (nn)) - 1) 1 mu = mf := by rw [hR13,show (Int.toNat (nn)) - b13 = 0 by omega]; rfl
 refine jex (jtx (jtx (jbh (jx (jq (jr (jm Z (js (jnil Z) (js (jf F108_2 Z) (js (jla k1 A49 Z49 Z Z Z) (jsta k4 Z49 Z Z Z ⟨Z,Z,trivial⟩ (saf Z) ?_)))))))))))
 refine jn (jx (jrt (qbfz k4 (okL13.lens (by omega) (by omega)) ?_)))
 exact jrcA (val := vFunc) (b := ⟨mf.par,mf.bs⟩) (c := (.slice (some ⟨g56,0,none⟩) (Int.toNat nn) (Int.toNat nn))) Z Z k0 A49 Z49 Z (by have e0 : md0 s = ms3 := (by simp only [hmm0,hm36,hms2,hms3]; rfl); have e1 : mdN s = nn := (by rw [mdN,e0]; exact hnn); have e2 : mdT s = targM nn m49 := (by rw [mdT,e1,e0,← hm49]); have eB : mdB s = mq := (by rw [mdB,e2,e1,← hm53,← hms6]; exact hE1); have eH : mdH s = (ph,mr) := (by rw [mdH,e1,eB]; exact hE2); have eD : mdD s = (dz,mu) := (by rw [mdD,e1,e2,eH]; exact hE4); have eF : mdF s = mf := (by rw [mdF,eH,e1,eD]; exact hE13); show fnM (mdF s) = _; rw [eF]; rfl) (rFunc.M (m := ⟨mf.par,mf.bs⟩) (c := (.slice (some ⟨g56,0,none⟩) (Int.toNat nn) (Int.toNat nn))) d0 (wp (IntWalk.i64_in mf.par (by omega))))
def topL : List Int → Int → Int
 | [],t => t
 | x :: l,t => topL l (if t ≤ x ∧ x < 8192 then x + 1 else t)
def topT : List D.Tg3 → Int → Int
 | [],t => t
 | x :: l,t => topT l (topL x.Makes t)
def top3 (f : D.Func) : Int := topT (things3 f) (min (max f.Params 0) 8192)
theorem topL_rng : ∀ (l : List Int) (t : Int),0 ≤ t ∧ t ≤ 8192 → 0 ≤ topL l t ∧ topL l t ≤ 8192
 | [],_,h => h
 | x :: l,t,h => by
   rw [topL]; refine topL_rng l _ ?_
   split <;> omega
theorem topT_rng : ∀ (l : List D.Tg3) (t : Int),0 ≤ t ∧ t ≤ 8192 → 0 ≤ topT l t ∧ topT l t ≤ 8192
 | [],_,h => h
 | x :: l,t,h => by rw [topT]; exact topT_rng l _ (topL_rng _ _ h)
theorem top3_rng (f : D.Func) : 0 ≤ top3 f ∧ top3 f ≤ 8192 := topT_rng _ _ (by omega)
def insQs : List D.Ins → Mq → Mq
 | [],m => m
 | x :: l,m => insQs l (insQ x m)
def resQ (m : Mq) : Mq := { m with l := [] }
def blkQm (x : D.Block) (m : Mq) : Mq := insQs x.Ins (resQ m)
def blkQt (x : D.Block) (m : Mq) : Mq := endQ x.Term (blkQm x m)
def blkQv (x : D.Block) (m : Mq) : D.MBlock := ⟨x.Phis,(blkQt x m).l,endV x.Term (blkQm x m)⟩
def ofQ : List D.Block → Mq → List D.MBlock
 | [],_ => []
 | x :: l,m => blkQv x m :: ofQ l (blkQt x m)
def of7 (f : D.Func) (s : List Int) : D.MFunc := ⟨f.Params,ofQ f.Blocks ⟨s,0,max (top3 f) f.Params,[]⟩⟩
def goodI (i : D.Ins) : Prop := (0 ≤ i.Op ∧ i.Op ≤ 1000) ∧ (i.Op = 1 ∨ i.Op = 17 ∨ (i.Op = 15 ∧ 1 ≤ i.Args.length) ∨ 2 ≤ i.Args.length)
def goodT (t : D.Term) : Prop := (t.Kind ≠ 2 ∨ (1 ≤ t.Args.length ∧ 2 ≤ t.To.length)) ∧ (t.Kind ≠ 3 ∨ 1 ≤ t.Args.length)
def goodB (b : D.Block) : Prop := (∀ i ∈ b.Ins,goodI i) ∧ goodT b.Term
def goodF (f : D.Func) : Prop := ∀ b ∈ f.Blocks,goodB b
theorem goodF.ins {f : D.Func} (h : goodF f) {b j : Nat} (hb : b < f.Blocks.length) (hj : j < (ix f.Blocks b).Ins.length) : (0 ≤ (ix (ix f.Blocks b).Ins j).Op ∧ (ix (ix f.Blocks b).Ins j).Op ≤ 1000) ∧ ((ix (ix f.Blocks b).Ins j).Op = 1 ∨ (ix (ix f.Blocks b).Ins j).Op = 17 ∨ ((ix (ix f.Blocks b).Ins j).Op = 15 ∧ 1 ≤ (ix (ix f.Blocks b).Ins j).Args.length) ∨ 2 ≤ (ix (ix f.Blocks b).Ins j).Args.length) :=
 (h _ (ix_mem hb)).1 _ (ix_mem hj)
theorem goodF.term {f : D.Func} (h : goodF f) {b : Nat} (hb : b < f.Blocks.length) : ((ix f.Blocks b).Term.Kind ≠ 2 ∨ (1 ≤ (ix f.Blocks b).Term.Args.length ∧ 2 ≤ (ix f.Blocks b).Term.To.length)) ∧ ((ix f.Blocks b).Term.Kind ≠ 3 ∨ 1 ≤ (ix f.Blocks b).Term.Args.length) := (h _ (ix_mem hb)).2
set_option maxRecDepth 4000 in
theorem r3top_ct {a0 : Value} {f : D.Func} (hsz : cntT f.Blocks < 1000000000) : Tv Tryz.prog 53 #[vFunc f a0] [da rFunc (vFunc f a0) f] [] (.int .i64 (top3 f)) := by
 refine jenter (args := [vFunc f a0]) Tryz.func53 rfl rfl rfl fun w0 X => ?_
 have htl := things3_len f
 refine jq (jr (jbox Z Z fun g1 => ja Z (jn (jx (jq (jr (js (jf F49_0 Z) (js (jl k0 O3 Z Z) (js (jmax Z Z) (js (jmin Z Z) ?_))))))))))
 refine ja Z (jn (jx (jq (jr (js (jla k0 A49 Z49 Z Z Z) (jcd E105 Z Z (r3things_ct (by omega)) (dc d0 dn) kn fun v12 q1 w1 => ja Z (jn (jx (jq (jq ?_))))))))))
 refine jr (ja Z (jn (jx (jb ?_))))
 refine jlp (u2 fun (k : Nat) (t : Int) => ⟨k ≤ (things3 f).length ∧ (0 ≤ t ∧ t ≤ 8192) ∧ top3 f = topT ((things3 f).drop k) t,[dv (rL rTg3) v12 (things3 f)],[],[(2,.int .i64 0),(3,.int .i64 t),(4,v12),(5,.int .i64 (↑k))],(things3 f).length - k⟩) (0,min (max f.Params 0) 8192) ⟨Nat.zero_le _,by dsimp only; omega,rfl⟩ (dc d0 dn) kn ⟨Z,eqI (by omega),Z,eqI (by omega),trivial⟩ ?_
 rintro ⟨k,t⟩; dsimp only [u2]; rintro ⟨hk,ht,hT⟩
 refine jq (jq (jr (jm Z (jm Z (js (jln U167 d0 Z) (js (jlss Z Z) (jn (jx ?_))))))))
 refine jif Z (fun hc1 => ?_) (fun hc1 => ?_)
 refine jsk (jx (jq (jb (jq (jr (ja Z (jn (jx (jb ?_)))))))))
 refine jlp (u2 fun (j : Nat) (u : Int) => ⟨j ≤ (ix (things3 f) k).Makes.length ∧ (0 ≤ u ∧ u ≤ 8192) ∧ topL (ix (things3 f) k).Makes t = topL ((ix (things3 f) k).Makes.drop j) u,[dv (rL rTg3) v12 (things3 f)],[],[(2,.int .i64 0),(3,.int .i64 u),(4,v12),(5,.int .i64 (↑k)),(6,.int .i64 (↑j))],(ix (things3 f) k).Makes.length - j⟩) (0,t) ⟨Nat.zero_le _,ht,rfl⟩ (dc d0 dn) kn ⟨Z,eqI (by omega),Z,Z,eqI (by omega),trivial⟩ ?_
 rintro ⟨j,u⟩; dsimp only [u2]; rintro ⟨hj,hu,hU⟩
 refine jq (jq (jr (jm Z (jm Z (jm Z (js (jix U167 Z170 d0 Z Z Z (by omega)) (js (jf F170_2 Z) (jev (jlV (rTg3.A_Makes (dix d0 k (by omega))) O22 Z Z) fun v24 q3 w3 => js (jln U22 d0 Z) (js (jlss Z Z) (jn ?_))))))))))
 refine jx ?_
 refine jif Z (fun hc2 => ?_) (fun hc2 => ?_)
 refine jsk (jx (jq (jb (jq (jr (jm Z (jm Z (js (jix U167 Z170 d1 Z Z Z (by omega)) (js (jf F170_2 Z) (jev (jlV (rTg3.A_Makes (dix d1 k (by omega))) O22 Z Z) fun v33 q5 w5 => jm Z ?_))))))))))
 refine js (jix U22 Z3 d0 Z Z Z (by omega)) (js (jlI (dix d0 j (by omega)) O3 Z) (jm Z (js (jgeq Z Z) (jm Z (jg Z Z (.t _) (fun hg => jmv Z) (jg Z Z (.t _) (fun hg => jmv Z) (jg Z Z (.t _) (fun hg => jix U167 Z170 d2 (evg Z hg) (evg Z hg) Z (by first | omega | (simp at hg; omega) | (simp only [List.length_set]; omega) | (simp; done))) (jg Z Z (.t _) (fun hg => jf F170_2 (evg Z hg)) (jge (q := fun v => dv (rL (rI .i64)) v ((ix (things3 f) k).Makes)) Z Z (.t _) (fun hg => jlV (rTg3.A_Makes (dix d2 k (by first | omega | (simp at hg; omega) | (simp only [List.length_set]; omega) | (simp; done)))) O22 Z (evg Z hg)) fun v44 => jg Z Z (.t _) (fun hg => jmv Z) (jg Z Z (.t _) (fun hg => jix U22 Z3 (d0.on hg) (evg Z hg) (evg Z hg) Z (by first | omega | (simp at hg; omega) | (simp only [List.length_set]; omega) | (simp; done))) ?_))))))))))
 refine jg Z Z (.t _) (fun hg => jlI (dix (d0.on hg) j (by first | omega | (simp at hg; omega) | (simp only [List.length_set]; omega) | (simp; done))) O3 (evg Z hg)) (jg Z Z (.t _) (fun hg => jlss (evg Z hg) Z) (js (jand Z Z) (jn (jx ?_))))
 refine jif Z (fun hc3 => ?_) (fun hc3 => ?_)
 have hcc : (u ≤ ix (ix (things3 f) k).Makes j ∧ ix (ix (things3 f) k).Makes j < 8192) := by simpa using hc3
 refine jr (jm Z (jm Z (js (jix U167 Z170 d3 Z Z Z (by omega)) (js (jf F170_2 Z) (jev (jlV (rTg3.A_Makes (dix d3 k (by omega))) O22 Z Z) fun v54 q8 w8 => jm Z (js (jix U22 Z3 d0 Z Z Z (by omega)) (js (jlI (dix d0 j (by omega)) O3 Z) (js (jadd Z Z (by omega)) (ja Z (jn ?_))))))))))
 refine jbn (jx (jr (jm Z (js (jadd Z Z (by omega)) (ja Z (jn ?_))))))
 exact jag (j + 1,(ix ((ix (things3 f) k).Makes) j) + 1) ⟨by dsimp only; omega,by dsimp only; omega,by dsimp only; rw [hU,drop_ix (l := (ix (things3 f) k).Makes) (i := j) (by omega),topL,if_pos hcc]⟩ (dc d4 dn) kn ⟨Z,eqI (by omega),Z,Z,eqI (by omega),trivial⟩
 have hcc : ¬ (u ≤ ix (ix (things3 f) k).Makes j ∧ ix (ix (things3 f) k).Makes j < 8192) := by intro h9; simp at hc3; omega
 refine jsk (jbn (jx (jr (jm Z (js (jadd Z Z (by omega)) (ja Z (jn ?_)))))))
 exact jag (j + 1,u) ⟨by dsimp only; omega,by dsimp only; omega,by dsimp only; rw [hU,drop_ix (l := (ix (things3 f) k).Makes) (i := j) (by omega),topL,if_neg hcc]⟩ (dc d3 dn) kn ⟨Z,Z,Z,Z,eqI (by omega),trivial⟩
 refine jex (jtx (jtx (jbh (jbn (jx (jr (jm Z (js (jadd Z Z (by omega)) (ja Z (jn ?_))))))))))
 exact jag (k + 1,u) ⟨by dsimp only; omega,hu,by dsimp only; rw [hT,drop_ix (l := (things3 f)) (i := k) (by omega),topT,hU,List.drop_of_length_le (show (ix (things3 f) k).Makes.length ≤ j by omega)]; rfl⟩ (dc d1 dn) kn ⟨Z,eqI (by omega),Z,eqI (by omega),trivial⟩
 refine jex (jtx (jtx (jbh (jx (jq (jr (jm Z (ja Z (jn (jx (jrt ?_)))))))))))
 exact jrI Z Z (by rw [hT,List.drop_of_length_le (by omega)]; rfl)
theorem E53 : Ent Tryz.prog 53 := ⟨_,Tryz.func53,by kernel_rfl,by kernel_rfl⟩
theorem E72 : Ent Tryz.prog 72 := ⟨_,Tryz.func72,by kernel_rfl,by kernel_rfl⟩
theorem E73 : Ent Tryz.prog 73 := ⟨_,Tryz.func73,by kernel_rfl,by kernel_rfl⟩
theorem I95 : (Tryz.prog.info? 95).map (fun i => (i.zero,i.size,i.bytes)) = some (some (.agg #[.slice none 0 0,.slice none 0 0,.int .i64 0,.int .i64 0,.int .i64 0,.slice none 0 0,.int .i32 0]),7,104) := by kernel_rfl
theorem Z26 : Sz Tryz.prog 26 1 := by unfold Sz; kernel_rfl
theorem J28 : (Tryz.prog.info? 28).bind (·.zero) = some (.agg #[.int .i64 0,.slice none 0 0]) := by kernel_rfl
set_option maxRecDepth 8000 in
set_option maxHeartbeats 2000000 in
theorem r7of_ct {a0 : Value} {f : D.Func} {a1 : Value} {s : List Int} (hgf : goodF f) (hsz : cntT f.Blocks ≤ 50000) (hpr : 0 ≤ f.Params ∧ f.Params ≤ 1000) : Ts Tryz.prog 33 #[vFunc f a0,a1] [da rFunc (vFunc f a0) f,dv (rL (rI .i64)) a1 s] [] rMFunc vMFunc (of7 f s) := by
 refine jenter (args := [vFunc f a0,a1]) Tryz.func33 rfl rfl rfl fun w0 X => ?_
 have htr := top3_rng f
 refine jq (jr (jbox Z Z fun g2 => jalc J28 Z fun g4 => jn (jx (jq (jany false (.a 0 (.a 1 (.a 3 (.a 4 (.o 2 (.a 5 (.a 6 (.o 7 (.a 8 .e))))))))) Mixed (by kernel_rfl) (kc k1 kn) fun F1 => jy Z (jmv Z) (jy Z (jla k0 A49 Z49 Z Z Z) (jy Z (jf F49_0 Z) (jy Z (jl k0 O3 Z Z) ?_))))))))
 refine jyo Z (jcv E53 Z Z (r3top_ct (by first | decide | omega | assumption)) (dc d1 dn) kn (jyn d0 (kc k1 kn) (jy Z (jmax Z Z) (adq d2 fun q3 w3 => jy Z (jbu (v := .agg #[a1,.int .i64 0,.int .i64 (max (top3 f) f.Params),.slice none 0 0]) Z (fun _ => by obtain ⟨_,_,_,rfl⟩ := w3; kernel_rfl)) (jyo Z (jbox Z Z fun g19 => jnl (r := rMach) (E := 24) (jzn (c := 0) ⟨s,0,max (top3 f) f.Params,[]⟩ (kc k1 (kc k0 kn)) ⟨okQ0 (nb := 10000) (by omega) (by omega),Z⟩ fun mm0 hmm0 omm0 bmm0 => jyn d0 (kc k3 kn) (jy Z (jas Z) ?_))))))))
 refine jyd (jx (jq (jr (js (jf F49_0 Z) (js (jl k3 O3 Z Z) (js (jbu (v := .agg #[.int .i64 f.Params,.slice none 0 0]) Z (fun _ => by kernel_rfl)) (jalc J28 Z fun g6 => jsta k0 Z28 Z Z Z ⟨Z,Z,trivial⟩ (saf Z) (jn (jx (jq ?_))))))))))
 refine jq (jr (ja Z (jn (jx (jb (cnl (r := rMBlock) (E := 95) ?_))))))
 refine jlp (u5 fun (b : Nat) (ma : Mq) (bl : List D.MBlock) (vb : Value) (la : Value) => ⟨b ≤ f.Blocks.length ∧ bl.length = b ∧ ofQ f.Blocks mm0 = bl ++ ofQ (f.Blocks.drop b) ma ∧ okSq 10000 (16 * cntT (f.Blocks.take b)) s ma,[da rFunc (vFunc f a0) f,dv (rL (rI .i64)) a1 s],[gl X.n rMBlock 95 vb bl,bx g6 28 [.int .i64 f.Params,vb],bx g19 139 [a1,.int .i64 ma.k,.int .i64 ma.nx,la],bx g4 28 [.int .i64 0,.slice none 0 0],bx g2 49 [.int .i64 f.Params,a0]],[(2,.pointer (some ⟨g2,0,none⟩)),(4,.pointer (some ⟨g4,0,none⟩)),(5,.pointer (some ⟨g19,0,none⟩)),(6,.pointer (some ⟨g6,0,none⟩)),(7,.int .i64 (↑b))],f.Blocks.length - b⟩) (0,mm0,[],.slice none 0 0,.slice none 0 0) ⟨Nat.zero_le _,rfl,rfl,omm0.mono (by omega)⟩ (dc d2 (dc d3 dn)) (kd (kc k0 (kc k1 (kc k1 kn)))) ⟨Z,Z,Z,Z,eqI (by omega),trivial⟩ ?_
 rintro ⟨b,ma,bl,vb,la⟩; dsimp only [u5]; rintro ⟨hb,hbn,hOf,okL1⟩
 refine cgo k0 fun w5 => ?_
 have bdL1 := okQ.bnd okL1.1
 clear bmm0
 have hct := cntT_le f.Blocks b
 have hct1 := cntT_le f.Blocks (b + 1)
 refine jq (jq (jr (jm Z (js (jf F49_1 Z) (js (jl k4 O47 Z Z) (jdq (rFunc.cB d0) fun q6 w6 => js (jln U47 (rFunc.cB d0) Z) (js (jlss Z Z) (jn (jx ?_)))))))))
 refine jif Z (fun hc1 => ?_) (fun hc1 => ?_)
 have hct9 := cntT_take (l := f.Blocks) (k := b) (by omega)
 refine jsk (jx (jq (jb (jq (jr (js (jbu (v := .agg #[.slice none 0 0,.slice none 0 0,.int .i64 0,.int .i64 0,.int .i64 0,.slice none 0 0,.int .i32 0]) Z (fun _ => by kernel_rfl)) (jalc J95 Z fun g8 => jsta k0 Z95 Z Z Z ⟨Z,Z,Z,Z,Z,Z,Z,trivial⟩ (saf Z) (jn (jx (jq ?_))))))))))
 refine jq (jr (ja Z (jn (jx (jb (cnl (r := rPhi) (E := 65) ?_))))))
 refine jlp (u3 fun (i : Nat) (pl : List D.Phi) (vp : Value) => ⟨i ≤ (ix f.Blocks b).Phis.length ∧ pl = (ix f.Blocks b).Phis.take i ∧ okSq 10000 (16 * cntT (f.Blocks.take b)) s ma,[da rFunc (vFunc f a0) f,dv (rL (rI .i64)) a1 s],[gl X.n rPhi 65 vp pl,bx g8 95 [vp,.slice none 0 0,.int .i64 0,.int .i64 0,.int .i64 0,.slice none 0 0,.int .i32 0],gl X.n rMBlock 95 vb bl,bx g6 28 [.int .i64 f.Params,vb],bx g19 139 [a1,.int .i64 ma.k,.int .i64 ma.nx,la],bx g4 28 [.int .i64 0,.slice none 0 0],bx g2 49 [.int .i64 f.Params,a0]],[(2,.pointer (some ⟨g2,0,none⟩)),(4,.pointer (some ⟨g4,0,none⟩)),(5,.pointer (some ⟨g19,0,none⟩)),(6,.pointer (some ⟨g6,0,none⟩)),(7,.int .i64 (↑b)),(8,.pointer (some ⟨g8,0,none⟩)),(9,.int .i64 (↑i))],(ix f.Blocks b).Phis.length - i⟩) (0,[],.slice none 0 0) ⟨Nat.zero_le _,rfl,okL1.mono (Nat.le_refl _)⟩ (dc d0 (dc d1 dn)) (kd (kd (kd (kc k0 kn)))) ⟨Z,Z,Z,Z,Z,Z,eqI (by omega),trivial⟩ ?_
 rintro ⟨i,pl,vp⟩; dsimp only [u3]; rintro ⟨hi,hpl,okL2⟩
 refine cgo k0 fun w7 => ?_
 have bdL2 := okQ.bnd okL2.1
 clear bdL1
 have hpn : pl.length = i := by rw [hpl,List.length_take]; omega
 refine jq (jq (jr (jm Z (js (jf F49_1 Z) (js (jl k6 O47 Z Z) (jm Z (js (jix U47 Z62 (rFunc.cB d0) Z Z Z (by omega)) (js (jf F62_0 Z) (jev (jlV (rBlock.A_Phis (dix (rFunc.cB d0) b (by omega))) O57 Z Z) fun v37 q8 w8 => js (jln U57 d0 Z) (js (jlss Z Z) ?_))))))))))
 refine jn (jx ?_)
 refine jif Z (fun hc2 => ?_) (fun hc2 => ?_)
 refine jsk (jx (jq (jb (jq (jr (js (jf F49_1 Z) (js (jl k6 O47 Z Z) (jm Z (js (jix U47 Z62 (rFunc.cB d1) Z Z Z (by omega)) (js (jf F62_0 Z) (jev (jlV (rBlock.A_Phis (dix (rFunc.cB d1) b (by omega))) O57 Z Z) fun v47 q10 w10 => ?_)))))))))))
 refine jm Z (js (jix U57 Z65 d0 Z Z Z (by omega)) (jA sPhi (jlA (dix d0 i (by omega)) A65 Z65 Z) fun c50 => jalc J65 Z fun g10 => jdq (rPhi.c_In d0) fun q13 w13 => jsta k0 Z65 Z Z Z ⟨Z,w13.one,trivial⟩ (saf Z) (jn (jx (jany true (.a 0 (.a 1 (.a 2 (.a 3 (.a 5 (.a 6 (.o 4 (.o 7 (.a 8 (.o 9 (.o 10 (.a 11 (.o 12 .e))))))))))))) Mixed (by kernel_rfl) (kc k0 (kc k1 kn)) fun F14 => jy Z (jf F95_0 Z) (jy Z (jl k1 O57 Z Z) (jy Z (jf F65_0 Z) ?_)))))))
 refine jy Z (jl k0 O3 Z Z) (jy Z (jf F65_1 Z) (jy Z (jl k0 O63 Z Z) (jyo Z (jlit (r := rIn) (l := []) U63 I111 (by decide) Z Z Z ln fun g55 => jyn d0 (kc k1 (kc k2 kn)) (jyo Z (japlz U63 I111 (by decide) Z k0 Z Z (rPhi.c_In d2) (by (try simp) <;> omega) fun v58 w17 => jyn d0 (kc k1 (kc k2 kn)) (jy Z (jbu (v := .agg #[.int .i64 ((ix ((ix f.Blocks b).Phis) i).Dst),v58]) Z (fun _ => by obtain ⟨_,_,_,rfl⟩ := w17; kernel_rfl)) (jyo Z (jfz k0 (by (try simp) <;> omega) ?_)))))))))
 refine jlit (r := rPhi) (l := [⟨(ix ((ix f.Blocks b).Phis) i).Dst,(ix ((ix f.Blocks b).Phis) i).In⟩]) U57 I65 (by decide) Z Z Z (lA (rPhi.M (m := ⟨(ix ((ix f.Blocks b).Phis) i).Dst,(ix ((ix f.Blocks b).Phis) i).In⟩) (c := v58) d0 (rPhi.W_Dst d4)) ln) fun g60 => jyn d1 (kc k1 (kc k2 kn)) (jyo Z (jfz k0 (by (try simp) <;> omega) (japl U57 I65 (by decide) Z k1 Z Z d0 (by (try simp) <;> omega) fun v61 w22 => jyn d1 (kc k1 (kc k1 kn)) (jy Z (jf F95_0 Z) (jyo Z (jst k2 Z57 Z Z w22.one s0 (jyz d0 (jyd (jbn ?_)))))))))
 refine jx (jr (jm Z (js (jadd Z Z (by omega)) (ja Z (jn ?_)))))
 exact jag (i + 1,pl ++ ([⟨(ix ((ix f.Blocks b).Phis) i).Dst,(ix ((ix f.Blocks b).Phis) i).In⟩]),v61) ⟨by dsimp only; omega,by dsimp only; rw [hpl,take_ix (by omega)],okL2.mono (Nat.le_refl _)⟩ (dc d10 (dc d11 dn)) (kc k1 (kc k0 (kc k1 (kc k1 (kc k1 (kc k1 (kc k1 kn))))))) ⟨Z,Z,Z,Z,Z,Z,eqI (by omega),trivial⟩
 have hpl9 : (ix f.Blocks b).Phis = pl := by rw [hpl,List.take_of_length_le (by omega)]
 refine jex (jtx (jtx (jbh (jx (jq (jr (jm Z (js (jnil Z) (js (jf F139_3 Z) (jst k4 Z93 Z Z Z s3 (jnl (r := rMach) (E := 24) ?_)))))))))))
 refine jzn (c := 16 * cntT (f.Blocks.take b)) ({ ma with l := [] }) (kc k1 (kc k0 kn)) ⟨(okQ.setl okL2.1 (Nat.zero_le _) (Nat.le_refl _)),okL2.2⟩ fun ms25 hms25 oms25 bms25 => ?_
 clear bdL2
 refine jn (jx (jq (jq (jr (ja Z (jn (jx (jb ?_))))))))
 refine jlp (u3 fun (j : Nat) (mb : Mq) (al3 : Value) => ⟨j ≤ (ix f.Blocks b).Ins.length ∧ insQs (ix f.Blocks b).Ins (resQ ma) = insQs ((ix f.Blocks b).Ins.drop j) mb ∧ okSq 10000 (16 * cntT (f.Blocks.take b) + 12 * j) s mb,[da rFunc (vFunc f a0) f,dv (rL (rI .i64)) a1 s],[bx g19 139 [a1,.int .i64 mb.k,.int .i64 mb.nx,al3],gl X.n rMach 24 al3 mb.l,gl X.n rPhi 65 vp pl,bx g8 95 [vp,.slice none 0 0,.int .i64 0,.int .i64 0,.int .i64 0,.slice none 0 0,.int .i32 0],gl X.n rMBlock 95 vb bl,bx g6 28 [.int .i64 f.Params,vb],bx g4 28 [.int .i64 0,.slice none 0 0],bx g2 49 [.int .i64 f.Params,a0]],[(2,.pointer (some ⟨g2,0,none⟩)),(4,.pointer (some ⟨g4,0,none⟩)),(5,.pointer (some ⟨g19,0,none⟩)),(6,.pointer (some ⟨g6,0,none⟩)),(7,.int .i64 (↑b)),(8,.pointer (some ⟨g8,0,none⟩)),(11,.int .i64 (↑j))],(ix f.Blocks b).Ins.length - j⟩) (0,ms25,(.slice none 0 0)) ⟨Nat.zero_le _,by dsimp only; rw [hms25]; rfl,oms25.mono (Nat.le_refl _)⟩ (dc d1 (dc d2 dn)) (kd (kd (kd (kd kn)))) ⟨Z,Z,Z,Z,Z,Z,eqI (by omega),trivial⟩ ?_
 rintro ⟨j,mb,al3⟩; dsimp only [u3]; rintro ⟨hj,hIn,okL3⟩
 refine cgo k1 fun w26 => ?_
 have bdL3 := okQ.bnd okL3.1
 clear bms25
 refine jq (jq (jr (jm Z (js (jf F49_1 Z) (js (jl k7 O47 Z Z) (jm Z (js (jix U47 Z62 (rFunc.cB d0) Z Z Z (by omega)) (js (jf F62_1 Z) (jev (jlV (rBlock.A_Ins (dix (rFunc.cB d0) b (by omega))) O58 Z Z) fun v72 q27 w27 => js (jln U58 d0 Z) (js (jlss Z Z) ?_))))))))))
 refine jn (jx ?_)
 refine jif Z (fun hc3 => ?_) (fun hc3 => ?_)
 have hgi := hgf.ins (b := b) (j := j) (by omega) (by omega)
 refine jsk (jx (jq (jb (jr (jm Z (js (jf F49_1 Z) (js (jl k7 O47 Z Z) (jm Z (js (jix U47 Z62 (rFunc.cB d1) Z Z Z (by omega)) (js (jf F62_1 Z) (jev (jlV (rBlock.A_Ins (dix (rFunc.cB d1) b (by omega))) O58 Z Z) fun v83 q29 w29 => ?_)))))))))))
 refine jm Z (js (jix U58 Z67 d0 Z Z Z (by omega)) (jA sIns (jlA (dix d0 j (by omega)) A67 Z67 Z) fun c86 => jzb E72 Z Z (m7ins_ct okL3 (by omega) (by first | decide | omega | assumption) (by first | decide | omega | assumption)) (dc d4 (dc d0 dn)) (kd kn) ⟨insQ_ok okL3.1,(insQ_s.trans okL3.2)⟩ p0 fun m87 hm87 om87 bm87 ua87 w32 => ?_))
 clear bdL3
 refine jn (jbn (jx (jr (jm Z (js (jadd Z Z (by omega)) (ja Z (jn ?_)))))))
 exact jag (j + 1,m87,ua87) ⟨by dsimp only; omega,by dsimp only; rw [hIn,drop_ix (l := (ix f.Blocks b).Ins) (i := j) (by omega),insQs,hm87],om87.mono (by omega)⟩ (dc d3 (dc d4 dn)) (kd (kd (kd (kd kn)))) ⟨Z,Z,Z,Z,Z,Z,eqI (by omega),trivial⟩
 have hgt := hgf.term (b := b) (by omega)
 have hmb : mb = blkQm (ix f.Blocks b) ma := by unfold blkQm; rw [hIn,List.drop_of_length_le (show (ix f.Blocks b).Ins.length ≤ j by omega)]; rfl
 refine jex (jtx (jtx (jbh (jx (jq (jr (jm Z (js (jf F49_1 Z) (js (jl k7 O47 Z Z) (jm Z (js (jix U47 Z62 (rFunc.cB d1) Z Z Z (by omega)) ?_)))))))))))
 refine js (jf F62_2 Z) (jA2 sTerm (jlA (rBlock.A_Term (dix (rFunc.cB d1) b (by omega))) A60 Z60 Z) fun c94a c94b => jze E73 Z Z (m7end_ct okL3 (by omega) (by first | decide | omega | assumption)) (dc d3 (dc d0 dn)) (kd kn) ⟨endQ_ok okL3.1,(endQ_s.trans okL3.2)⟩ fun m95 hm95 om95 bm95 ua95 ce95 w34 => ?_)
 clear bdL3
 refine js (jf F95_2 Z) (jdq (rEnd.c_To d0) fun q36 w36 => jsta k3 Z88 Z Z Z ⟨Z,Z,Z,w36.one,Z,trivial⟩ sa.c.c.c.c.c.s.s (jn (jx (jq (jr (jm Z (js (jnil Z) (js (jf F139_3 Z) (js (jl k1 O93 Z Z) (js (jf F95_1 Z) ?_))))))))))
 refine jst k0 Z93 Z Z w34.one s1 (jn (jx (jr (js (jf F28_1 Z) (js (jl k5 O26 Z Z) (js (jla k0 A95 Z95 Z Z Z) (jfz k3 (by omega) (jfz k2 (by omega) (jap U26 I95 (by decide) Z k2 Z (rMBlock.M (m := ⟨pl,m95.l,endV ((ix f.Blocks b).Term) mb⟩) (c := (vp,ua95,ce95)) d1 d0 (rEnd.c_To d2) (rEnd.W_Op d2) (rEnd.W_A d2) (rEnd.W_B d2) (rEnd.W_Imm d2)) (by omega) (fun _ => Z) fun v106 _ w39 => js (jf F28_1 Z) (jst k3 Z26 Z Z w39.one s1 ?_))))))))))
 refine jn (jbn (jx (jr (jm Z (js (jadd Z Z (by omega)) (ja Z (jn ?_)))))))
 exact jag (b + 1,m95,bl ++ [⟨pl,m95.l,endV ((ix f.Blocks b).Term) mb⟩],v106,ua95) ⟨by dsimp only; omega,by dsimp only; rw [List.length_append,hbn]; rfl,by dsimp only; rw [hOf,drop_ix (l := f.Blocks) (i := b) (by omega),ofQ,List.append_assoc,blkQv,blkQt,← hmb,← hm95,hpl9]; rfl,om95.mono (by dsimp only; omega)⟩ (dc d5 (dc d6 dn)) (kc k1 (kc k0 (kc k1 (kc k1 (kc k1 kn))))) ⟨Z,Z,Z,Z,eqI (by omega),trivial⟩
 refine jex (jtx (jtx (jbh (jx (jq (jr (js (jla k1 A28 Z28 Z Z Z) (jsta k3 Z28 Z Z Z ⟨Z,w5.one,trivial⟩ (saf Z) (jn (jx (jrt ?_)))))))))))
 refine qfz k1 (by omega) ?_
 exact jrcA (val := vMFunc) (b := ⟨f.Params,bl⟩) (c := vb) Z Z k0 A28 Z28 Z (by unfold of7; rw [← hmm0,hOf,List.drop_of_length_le (show f.Blocks.length ≤ b by omega)]; simp [ofQ]) (rMFunc.M (m := ⟨f.Params,bl⟩) (c := vb) d0 (rFunc.W_Params d1))
def goodM (m : Mk) : Prop := ∀ b ∈ m.bs,goodB b
theorem goodB0 : goodB default := ⟨fun _ h => (List.not_mem_nil h).elim,⟨.inl (by decide),.inl (by decide)⟩⟩
theorem goodM.ix {m : Mk} (h : goodM m) (j : Nat) : goodB (ix m.bs j) := by
 by_cases hj : j < m.bs.length
 · exact h _ (ix_mem hj)
 · have : JE.ix m.bs j = default := by simp [JE.ix,hj]
   rw [this]; exact goodB0
theorem goodM.set {m : Mk} (h : goodM m) {j : Nat} {x : D.Block} (hx : goodB x) : goodM { m with bs := m.bs.set j x } := fun b hb => by
 rcases List.mem_or_eq_of_mem_set hb with h1 | h1
 · exact h b h1
 · exact h1 ▸ hx
theorem goodI2 {op d t a b n : Int} (h : 0 ≤ op ∧ op ≤ 1000) : goodI ⟨op,d,t,[a,b],n⟩ := ⟨h,.inr (.inr (.inr (by show 2 ≤ 2; omega)))⟩
section
variable {m : Mk} {b : Int}
theorem add_good {i : D.Ins} (h : goodM m) (hi : goodI i) : goodM (addS b i m) := by
 refine goodM.set (m := { m with lv := m.lv ++ makes3 i }) h ⟨fun x hx => ?_,(h.ix _).2⟩
 rcases List.mem_append.1 hx with h1 | h1
 · exact (h.ix b.toNat).1 _ h1
 · rw [List.mem_singleton.1 h1]; exact hi
theorem const_good {n : Int} (h : goodM m) : goodM (constS b n m) := add_good (m := freshS m) h ⟨(by dsimp only; omega),.inl rfl⟩
theorem value_good (h : goodM m) : goodM (valueS m) := by unfold valueS; split <;> exact h
theorem some0_good (h : goodM m) : goodM (someM0 m) := by unfold someM0; split <;> exact value_good h
theorem some_good (h : goodM m) : goodM (sS9 b m) := by
 unfold sS9; split
 · exact const_good (m := wordS (someM0 m)) (some0_good h)
 · exact some0_good h
theorem mem1_good (h : goodM m) : goodM (mem1 b m).2 := by
 unfold mem1; dsimp only; split
 · exact add_good (m := freshS _) (add_good (m := freshS _) (const_good (some_good (m := tSS _) (const_good (m := tSS m) h))) (goodI2 (by decide))) (goodI2 (by decide))
 · exact const_good (m := tSS m) h
theorem mem2_good (h : goodM m) : goodM (mem2 m).2 := by unfold mem2; dsimp only; split <;> exact h
theorem mem_good {s : Bool} (h : goodM m) : goodM (memS b s m) := by
 unfold memS; dsimp only; split
 · exact add_good (some_good (mem2_good (mem1_good h))) (goodI2 (by decide))
 · exact add_good (m := freshS _) (mem2_good (mem1_good h)) ⟨(by dsimp only; omega),.inr (.inr (.inl ⟨rfl,by show 1 ≤ 1; omega⟩))⟩
theorem args_good : ∀ (n : Nat) (l : List Int) (m : Mk),goodM m → goodM (argsL b n l m).2
 | 0,_,_,h => h
 | n + 1,_,_,h => args_good n _ _ (some_good h)
theorem op_rng {k : Int} (h : 0 ≤ k ∧ k < 12) : 0 ≤ ix [(2 : Int),2,3,4,5,6,7,8,9,10,12,11] k.toNat ∧ ix [(2 : Int),2,3,4,5,6,7,8,9,10,12,11] k.toNat ≤ 1000 := by
 obtain ⟨n,rfl⟩ : ∃ n : Nat,k = n := ⟨k.toNat,by omega⟩
 have : n = 0 ∨ n = 1 ∨ n = 2 ∨ n = 3 ∨ n = 4 ∨ n = 5 ∨ n = 6 ∨ n = 7 ∨ n = 8 ∨ n = 9 ∨ n = 10 ∨ n = 11 := by omega
 rcases this with rfl | rfl | rfl | rfl | rfl | rfl | rfl | rfl | rfl | rfl | rfl | rfl <;> decide
theorem op3_rng {k : Int} (h : 0 ≤ k ∧ k < 3) : 0 ≤ ix [(11 : Int),12,13] k.toNat ∧ ix [(11 : Int),12,13] k.toNat ≤ 1000 := by
 obtain ⟨n,rfl⟩ : ∃ n : Nat,k = n := ⟨k.toNat,by omega⟩
 have : n = 0 ∨ n = 1 ∨ n = 2 := by omega
 rcases this with rfl | rfl | rfl <;> decide
theorem ins_good (h : goodM m) : goodM (insS b m) := by
 have h20 := tV9 (n := 20) (by omega) m
 have h2 : goodM (sS9 b (tSS m)) := some_good (m := tSS m) h
 have h3 := some_good (b := b) h2
 unfold insS; dsimp only
 split
 · rename_i hk
   split
   · exact add_good (m := freshS _) (const_good (m := tSS (tSS _)) h3) (goodI2 (op_rng ⟨h20.1,hk⟩))
   · exact add_good (m := freshS (tSS _)) h3 (goodI2 (op_rng ⟨h20.1,hk⟩))
 split
 · exact add_good (m := freshS _) h3 (goodI2 (by decide))
 split
 · split
   · exact add_good (m := freshS _) (const_good (m := tSS (tSS _)) (const_good (m := tSS _) h2)) (goodI2 (by decide))
   · exact add_good (m := freshS (tSS _)) (const_good (m := tSS _) h2) (goodI2 (by decide))
 split
 · exact mem_good (m := tSS m) h
 split
 · exact add_good (m := tSS (freshS _)) (args_good _ _ (tSS (tSS m)) h) ⟨(by dsimp only; omega),.inr (.inl rfl)⟩
 split
 · exact add_good (m := freshS (freshS _)) h3 (goodI2 (by decide))
 · exact const_good (m := wordS (tSS m)) h
theorem setT_good {t : D.Term} (h : goodM m) (ht : goodT t) : goodM (setT b t m) := h.set ⟨(h.ix _).1,ht⟩
theorem end_good {l : List Int} (h : goodM m) : goodM (endS b l m) := by
 have hA : ∀ (t : D.Term),t.Kind ≠ 2 → t.Kind ≠ 3 → goodT t := fun t h1 h2 => ⟨.inl h1,.inl h2⟩
 unfold endS; dsimp only
 split
 · split
   · exact setT_good (m := tSS (tSS m)) h (hA _ (by dsimp only; omega) (by dsimp only; omega))
   split
   · exact setT_good (some_good (m := tSS m) h) (hA _ (by dsimp only; omega) (by dsimp only; omega))
   · exact setT_good (m := tSS m) h (hA _ (by dsimp only; omega) (by dsimp only; omega))
 split
 · exact setT_good h (hA _ (by dsimp only; omega) (by dsimp only; omega))
 split
 · rename_i hl
   have hB : ∀ a : Int,goodT ⟨2,[a],l,0⟩ := fun a => ⟨.inr ⟨by show 1 ≤ 1; omega,by show 2 ≤ l.length; omega⟩,.inl (by dsimp only; omega)⟩
   have h1 : goodM (sS9 b m) := some_good h
   split
   · exact setT_good (add_good (m := tSS (freshS _)) (some_good (m := tSS _) h1) (goodI2 (op3_rng (tV9 (by omega) _)))) (hB _)
   · exact setT_good (m := tSS _) h1 (hB _)
 · exact setT_good (add_good (m := freshS _) (const_good (some_good h)) (goodI2 (by decide))) ⟨.inl (by dsimp only; omega),.inr (by show 1 ≤ 1; omega)⟩
end
def fgM (nb c : Nat) (m : Mk) : Prop := okM nb c m ∧ goodM m
theorem fgM.mono {nb c c' : Nat} {m : Mk} (h : fgM nb c m) (hc : c ≤ c') : fgM nb c' m := ⟨h.1.mono hc,h.2⟩
def kzB (b : D.Block) : Prop := b.Ins = [] ∧ b.Term.Kind = 0
theorem kzB.good {b : D.Block} (h : kzB b) : goodB b := ⟨fun i hi => (by rw [h.1] at hi; cases hi),⟨.inl (by rw [h.2]; decide),.inl (by rw [h.2]; decide)⟩⟩
theorem fg_toS {nb c : Nat} {to : List (List Int)} : ∀ (k b : Nat) (m : Mk),okM nb c m → (∀ x ∈ m.bs,kzB x) → fgM nb c (toS to k b m)
 | 0,_,_,h,h2 => ⟨h,fun x hx => (h2 x hx).good⟩
 | k + 1,b,m,h,h2 => by
   refine fg_toS k (b + 1) _ (okM.setb (d := 0) h (Nat.le_refl _)) (fun x hx => ?_)
   rcases List.mem_or_eq_of_mem_set hx with h1 | h1
   · exact h2 x h1
   · subst h1
     by_cases hj : b < m.bs.length
     · have h3 := h2 _ (ix_mem hj)
       exact ⟨h3.1,h3.2⟩
     · have : ix m.bs b = default := by simp [ix,hj]
       rw [this]; exact ⟨rfl,rfl⟩
theorem fg_addP {nb c b : Nat} {m : Mk} (h : fgM nb c m) : fgM nb (c + 2) (addP b m) :=
 ⟨okM.setb (d := 1) (fresh_ok h.1) (by dsimp only; rw [List.length_append]; simp only [List.length_cons,List.length_nil]; exact Nat.le_of_eq (by show _ + 1 + _ = _ + _ + 1; omega)),goodM.set (m := freshS m) h.2 ⟨(h.2.ix b).1,(h.2.ix b).2⟩⟩
theorem fg_phiN {nb b : Nat} : ∀ (k : Nat) {c : Nat} {m : Mk},fgM nb c m → fgM nb (c + 2 * k) (phiN b k m)
 | 0,_,_,h => h
 | k + 1,_,_,h => (fg_phiN k (fg_addP h)).mono (by omega)
theorem fg_take {nb c : Nat} {m : Mk} (h : fgM nb c m) : fgM nb (c + 1) (tSS m) := ⟨tO9 h.1,h.2⟩
theorem fg_phiS {nb : Nat} : ∀ (k b : Nat) (ph : List Int) {c : Nat} {m : Mk},fgM nb c m → (∀ j,0 ≤ ix ph j ∧ ix ph j ≤ 3) → fgM nb (c + 7 * k) (phiS k b ph m).2 ∧ ∀ j,0 ≤ ix (phiS k b ph m).1 j ∧ ix (phiS k b ph m).1 j ≤ 3
 | 0,_,_,_,_,h,h2 => ⟨h,h2⟩
 | k + 1,b,ph,c,m,h,h2 => by
   have h3 := phiR_rng (b := b) (m := m) h2
   have h4 := h3 b
   have h5 := fg_phiN (b := b) (ix (phiR b ph m) b).toNat (fg_take h)
   have h6 := fg_phiS k (b + 1) (phiR b ph m) (h5.mono (c' := c + 7) (by omega)) h3
   exact ⟨h6.1.mono (by omega),h6.2⟩
theorem fg_insN {nb b : Nat} (hb : b < nb) : ∀ (k : Nat) {c : Nat} {m : Mk},fgM nb c m → fgM nb (c + 60 * k) (insN b k m)
 | 0,_,_,h => h
 | k + 1,_,_,h => (fg_insN hb k ⟨ins3_ok h.1 (by omega),ins_good h.2⟩).mono (by omega)
theorem fg_blk {nb n b c : Nat} {to : List (List Int)} {dn : List Bool} {m : Mk} (h : fgM nb c m) (hn : n ≤ nb) (hb : b < nb) : fgM nb (c + 410) (blkM n to b dn m) := by
 have h7 := tV9 (n := 7) (by omega) (lvM n b dn m)
 have hl : fgM nb c (lvM n b dn m) := ⟨okM.setlv h.1 (by
   have h1 := lvF_len (f := fnM m) (dn := dn) (b := b) (a := n) (by show n ≤ m.bs.length; rw [h.1.2.2.2.2.1]; exact hn)
   have h2 := cntT_le m.bs n
   have h3 := h.1.bnd
   have h4 : (fnM m).Params = m.par := rfl
   have h5 : (fnM m).Blocks = m.bs := rfl
   rw [h4,h5] at h1; omega) (Nat.le_refl _),h.2⟩
 have h1 := fg_insN hb (tVV 7 (lvM n b dn m)).toNat (fg_take hl)
 exact ⟨(end_ok (l := ix to b) h1.1 (by omega)).mono (by omega),end_good h1.2⟩
theorem fg_row {nb n : Nat} {to : List (List Int)} (hn : n ≤ nb) : ∀ (k b : Nat) (dn : List Bool) {c : Nat} {m : Mk},b + k ≤ nb → fgM nb c m → fgM nb (c + 410 * k) (rowS n to k b dn m).2
 | 0,_,_,_,_,_,h => h
 | k + 1,b,dn,c,m,hb,h => by
   unfold rowS; split
   · exact (fg_row hn k (b + 1) _ (by omega) (fg_blk h hn (by omega))).mono (by omega)
   · exact (fg_row hn k (b + 1) _ (by omega) h).mono (by omega)
theorem fg_turn {nb n : Nat} {to : List (List Int)} (hn : n ≤ nb) (h9 : n ≤ 9) : ∀ (k : Nat) (dn : List Bool) {c : Nat} {m : Mk},fgM nb c m → fgM nb (c + 3690 * k) (turnS n to k dn m).2
 | 0,_,_,_,h => h
 | k + 1,dn,c,m,h => by
   unfold turnS
   exact (fg_turn hn h9 k _ ((fg_row (to := to) hn n 0 dn (by omega) h).mono (c' := c + 3690) (by omega))).mono (by omega)
theorem fg_inX {nb c : Nat} {p : Int} {m : Mk} (h : fgM nb c m) (hp : p.toNat < nb) : fgM nb (c + 6) (inX p m).2 := by
 unfold inX; split
 · exact ⟨tO9 (const_ok (word_ok h.1) hp),const_good (m := wordS m) h.2⟩
 · exact (fg_take h).mono (by omega)
theorem fg_inS {nb : Nat} {p : List Int} (hp : ∀ x ∈ p,0 ≤ x ∧ x < nb) (h0 : 0 < nb) : ∀ (k i : Nat) (l : List D.In) {c : Nat} {m : Mk},fgM nb c m → fgM nb (c + 6 * k) (inS p k i l m).2
 | 0,_,_,_,_,h => h
 | k + 1,i,l,c,m,h => by
   unfold inS
   have h1 : (ix p i).toNat < nb := by
     by_cases hi : i < p.length
     · have := hp _ (ix_mem hi); omega
     · have : ix p i = 0 := by simp [ix,hi]
       rw [this]; exact h0
   exact (fg_inS hp h0 k (i + 1) _ (fg_inX h h1)).mono (by omega)
theorem fg_putIn {nb c b i : Nat} {l : List D.In} {m : Mk} (h : fgM nb c m) : fgM nb c (putIn b i l m) := ⟨okM.setb (d := 0) h.1 (by dsimp only; rw [List.length_set]; exact Nat.le_refl _),h.2.set ⟨(h.2.ix b).1,(h.2.ix b).2⟩⟩
theorem fg_inP {nb b : Nat} {p : List Int} (hp : ∀ x ∈ p,0 ≤ x ∧ x < nb) (h0 : 0 < nb) (h9 : p.length ≤ 9) : ∀ (k i : Nat) {c : Nat} {m : Mk},fgM nb c m → fgM nb (c + 54 * k) (inP p b k i m)
 | 0,_,_,_,h => h
 | k + 1,i,c,m,h => by
   unfold inP
   exact (fg_inP hp h0 h9 k (i + 1) (fg_putIn ((fg_inS hp h0 p.length 0 [] h).mono (c' := c + 54) (by omega)))).mono (by omega)
theorem fg_fin {nb : Nat} {ph : List Int} (h0 : 0 < nb) (h9 : nb ≤ 9) (hph : ∀ j,0 ≤ ix ph j ∧ ix ph j ≤ 3) : ∀ (k b : Nat) {c : Nat} {m : Mk},fgM nb c m → fgM nb (c + 200 * k) (finS ph k b m)
 | 0,_,_,_,h => h
 | k + 1,b,c,m,h => by
   unfold finS
   have hl : (fnM m).Blocks.length = nb := h.1.2.2.2.2.1
   have h1 : ∀ x ∈ pd3 (fnM m) b,0 ≤ x ∧ x < nb := fun x hx => by have := preds3_rng x hx; rw [hl] at this; exact this
   have h2 := preds3_len (fnM m) b
   rw [hl] at h2
   have h3 := hph b
   exact (fg_fin h0 h9 hph k (b + 1) ((fg_inP h1 h0 (by omega) (b := b) (ix ph b).toNat 0 h).mono (c' := c + 200) (by omega))).mono (by omega)
theorem mdF_fg (s : List Int) : fgM (mdN s).toNat 36000 (mdF s) := by
 have h0 : okM 0 10 (md0 s) := by
   have h5 := tV9 (n := 5) (by omega) ⟨s,0,0,[],0,[]⟩
   have h1 : okM 0 1 (mdP ⟨s,0,0,[],0,[]⟩) := okM.setpar (tO9 (okM0 s)) (by omega) (Nat.le_refl _)
   exact okM.setnx h1 (by show 0 ≤ tVV 5 _ ∧ tVV 5 _ ≤ _; omega) (by omega)
 have h9 := tV9 (n := 9) (by omega) (md0 s)
 have hN : 1 ≤ mdN s ∧ mdN s ≤ 9 := by unfold mdN; omega
 have h1 : okM 0 81 (mdT s).2 := targ_ok (tO9 h0) hN.2
 have h2 : okM (mdN s).toNat 90 { (mdT s).2 with bs := List.replicate (mdN s).toNat default } := okM.mono (okM.setbs h1) (by omega)
 have h3 : fgM (mdN s).toNat 90 (mdB s) := fg_toS _ _ _ h2 (fun x hx => by rw [List.eq_of_mem_replicate hx]; exact ⟨rfl,rfl⟩)
 have h4 := fg_phiS ((mdN s).toNat - 1) 1 (List.replicate (mdN s).toNat 0) h3 (fun j => by have := rng_rep (n := (mdN s).toNat) j; omega)
 have h5 : fgM (mdN s).toNat 200 (mdH s).2 := h4.1.mono (by omega)
 have h6 : fgM (mdN s).toNat (200 + 3690 * 9) (mdD s).2 := (fg_turn (Nat.le_refl _) (by omega) (mdN s).toNat _ h5).mono (by omega)
 exact (fg_fin (by omega) (by omega) h4.2 ((mdN s).toNat - 1) 1 h6).mono (by omega)
theorem made3_good (s : List Int) : goodF (made3 s) := (mdF_fg s).2
theorem made3_cnt (s : List Int) : cntT (made3 s).Blocks ≤ 50000 := Nat.le_trans (mdF_fg s).1.2.2.2.2.2 (by omega)
theorem made3_par (s : List Int) : 0 ≤ (made3 s).Params ∧ (made3 s).Params ≤ 4 := (mdF_fg s).1.2.2.1
def made7 (s : List Int) : D.MFunc := of7 (made3 s) s.reverse
theorem rev_step {s : List Int} {k : Nat} (h : k < s.length) : (s.drop (s.length - k)).reverse ++ [ix s (s.length - 1 - k)] = (s.drop (s.length - (k + 1))).reverse := by
 have h1 : s.drop (s.length - (k + 1)) = ix s (s.length - 1 - k) :: s.drop (s.length - k) := by
   rw [drop_ix (l := s) (i := s.length - (k + 1)) (by omega)]
   rw [show s.length - (k + 1) = s.length - 1 - k by omega,show s.length - 1 - k + 1 = s.length - k by omega]
 rw [h1,List.reverse_cons]
end Go.Proofs.YtmfkkodnghambaaGreat
