/- Lemmas that the claim is made of. Conditions: each lemma names its own. -/
import Derived.Test.YtmfkkodnghambaaGreatKJ6
import Derived.Test.YtmfkkodnghambaaGreatKJ3
set_option linter.unusedSectionVars false
set_option linter.unusedSimpArgs false
set_option linter.unusedVariables false
namespace Go.Proofs.YtmfkkodnghambaaGreat
open Go.JE
abbrev U130 := @Tryz.underlying130
theorem E62 : Ent Tryz.prog 62 := ⟨_,Tryz.func62,by kernel_rfl,by kernel_rfl⟩
theorem E63 : Ent Tryz.prog 63 := ⟨_,Tryz.func63,by kernel_rfl,by kernel_rfl⟩
theorem E67 : Ent Tryz.prog 67 := ⟨_,Tryz.func67,by kernel_rfl,by kernel_rfl⟩
theorem E68 : Ent Tryz.prog 68 := ⟨_,Tryz.func68,by kernel_rfl,by kernel_rfl⟩
theorem E69 : Ent Tryz.prog 69 := ⟨_,Tryz.func69,by kernel_rfl,by kernel_rfl⟩
theorem I111 : (Tryz.prog.info? 111).map (fun i => (i.zero,i.size,i.bytes)) = some (some (.agg #[.int .i64 0,.int .i64 0]),2,16) := by kernel_rfl
theorem I129 : (Tryz.prog.info? 129).map (fun i => (i.zero,i.size,i.bytes)) = some (some (.slice none 0 0),1,24) := by kernel_rfl
theorem I62 : (Tryz.prog.info? 62).map (fun i => (i.zero,i.size,i.bytes)) = some (some (.agg #[.slice none 0 0,.slice none 0 0,.int .i64 0,.slice none 0 0,.slice none 0 0,.int .i32 0]),6,112) := by kernel_rfl
theorem I65 : (Tryz.prog.info? 65).map (fun i => (i.zero,i.size,i.bytes)) = some (some (.agg #[.int .i64 0,.slice none 0 0]),2,32) := by kernel_rfl
theorem O129 : One Tryz.prog 129 := ⟨_,Tryz.underlying129,rfl⟩
theorem Z129 : Sz Tryz.prog 129 1 := by unfold Sz; kernel_rfl
theorem Z47 : Sz Tryz.prog 47 1 := by unfold Sz; kernel_rfl
theorem Z57 : Sz Tryz.prog 57 1 := by unfold Sz; kernel_rfl
theorem Z63 : Sz Tryz.prog 63 1 := by unfold Sz; kernel_rfl
theorem J49 : (Tryz.prog.info? 49).bind (·.zero) = some (.agg #[.int .i64 0,.slice none 0 0]) := by kernel_rfl
set_option maxRecDepth 8000 in
set_option maxHeartbeats 2000000 in
theorem r3made_ct {a0 : Value} {s : List Int} : Ts Tryz.prog 31 #[a0] [dv (rL (rI .i64)) a0 s] [] rFunc vFunc (made3 s) := by
 refine jenter (args := [a0]) Tryz.func31 rfl rfl rfl fun w0 X => ?_
 refine jq (jr (jalc J49 Z fun g2 => jn (jx (jq (jr (jm Z (jdq d0 fun q1 w1 => js (jbu (v := .agg #[a0,.int .i64 0,.int .i64 0,.slice none 0 0,.int .i64 0,.slice none 0 0]) Z (fun _ => by obtain ⟨_,_,_,rfl⟩ := w1; kernel_rfl)) (jbox Z Z fun g33 => jnl (r := (rI .i64)) (E := 3) ?_))))))))
 refine jbnil (jkn (c := 0) ⟨s,0,0,[],0,[]⟩ (kc k2 (kc k1 (kc k0 kn))) ⟨okM0 _,Z⟩ fun mm0 hmm0 omm0 bmm0 => lbk k2 (okM.bnd omm0.1).2.2.2.2.2.2.2.1 fun hvb => ja Z (jn (jx (jq (jr (jm Z (jm Z (jkr E47 Z Z (m3take_ct omm0 (by omega) 5 (by first | decide | omega | (dsimp only; omega) | (simp only [fnM]; omega))) (dc d0 dn) (kd (kc k0 kn)) ⟨tO9 omm0.1,omm0.2⟩ fun m36 hm36 om36 bm36 => ?_))))))))
 have w36_0 : IntKind.i64.wrap (tVV 5 mm0) = tVV 5 mm0 := (IntWalk.i64_in _ (by have h9 := @tV9 5 (by omega) mm0; omega))
 have tr36 := @tV9 5 (by omega) mm0
 clear bmm0
 refine js (jnil Z) (js (jf F108_2 Z) (js (jf F49_0 Z) (jst k0 Z3 Z Z Z s2 (jkn (c := 1) ({ m36 with par := tVV 5 mm0 }) (kd (kc k0 kn)) ⟨(okM.setpar om36.1 (by omega) (Nat.le_refl _)),om36.2⟩ fun ms2 hms2 oms2 bms2 => ?_))))
 clear bm36
 refine jn (jx (jq (jr (jm Z (jm Z (js (jnil Z) (js (jf F108_2 Z) (js (jf F49_0 Z) (js (jl k0 O3 Z Z) (js (jnil Z) (js (jf F108_3 Z) ?_)))))))))))
 refine jst k0 Z3 Z Z Z s4 (jkn (c := 10) ({ ms2 with nx := ms2.par }) (kd (kc k0 kn)) ⟨(okM.setnx oms2.1 (by omega) (by omega)),oms2.2⟩ fun ms3 hms3 oms3 bms3 => ?_)
 clear bms2
 refine jn (jx (jq (jr (jm Z (jkr E47 Z Z (m3take_ct oms3 (by omega) 9 (by first | decide | omega | (dsimp only; omega) | (simp only [fnM]; omega))) (dc d0 dn) (kd (kc k0 kn)) ⟨tO9 oms3.1,oms3.2⟩ fun m49 hm49 om49 bm49 => ?_)))))
 have w49_0 : IntKind.i64.wrap (tVV 9 ms3) = tVV 9 ms3 := (IntWalk.i64_in _ (by have h9 := @tV9 9 (by omega) ms3; omega))
 have tr49 := @tV9 9 (by omega) ms3
 clear bms3
 refine js (jadd Z Z (by omega)) ?_
 generalize hnn : 1 + (tVV 9 ms3) = nn at ⊢
 refine ja Z (jn (jx (jq (jr (jm Z (jm Z (jkd E62 Z Z (m3targ_ct om49 (by omega) nn (by first | decide | omega | (dsimp only; omega) | (simp only [fnM]; omega))) (dc d0 dn) (kd (kc k0 kn)) ⟨targ_ok om49.1 (by omega),(targM_s.trans om49.2)⟩ (h1 := targM_lv) (h2 := targM_bs) fun m53 hm53 om53 bm53 v53 q4 w4 => ?_)))))))
 clear bm49
 have htl := targM_len nn m49
 refine ja Z (jn (jx (jq (jr (jm Z (jm Z (jbmk (m := (Int.toNat nn)) U47 I62 Z Z Z (by omega) (by omega) (by omega) fun g56 => js (jnil Z) (js (jf F108_2 Z) (js (jf F49_1 Z) (jst k1 Z47 Z Z Z s3 ?_))))))))))
 refine jkn (c := 100) ({ m53 with bs := List.replicate (Int.toNat nn) default }) (kc k0 (kc k1 (kc k0 kn))) ⟨(okM.mono (okM.setbs om53.1) (by omega)),om53.2⟩ fun ms6 hms6 oms6 bms6 => ?_
 clear bm53
 refine lbk k2 (okM.bnd oms6.1).2.2.2.2.2.2.2.1 fun hvb7 => jn (jx (jq (jq (jr (ja Z (jn (jx (jb ?_))))))))
 refine jlp (u4 fun (b1 : Nat) (mq : Mk) (al1 : Value) (qs1 : List BV) => ⟨b1 ≤ (Int.toNat (nn)) ∧ pl mq = pl ms6 ∧ toS ((targM nn m49).1) (Int.toNat (nn)) 0 ms6 = toS ((targM nn m49).1) ((Int.toNat (nn)) - b1) b1 mq ∧ okS (Int.toNat nn) (100) s mq,[dv (rL (rL (rI .i64))) v53 ((targM nn m49).1),dv (rL (rI .i64)) a0 s],[bx g33 108 [a0,.int .i64 mq.k,.int .i64 mq.par,(.slice (some ⟨g56,0,none⟩) (Int.toNat nn) (Int.toNat nn)),.int .i64 mq.nx,al1],gl X.n (rI .i64) 3 al1 mq.lv,bk X.n (.slice (some ⟨g56,0,none⟩) (Int.toNat nn) (Int.toNat nn)) qs1 mq.bs,bx g2 49 [.int .i64 0,.slice none 0 0]],[(2,.pointer (some ⟨g2,0,none⟩)),(3,.pointer (some ⟨g33,0,none⟩)),(4,.int .i64 nn),(5,v53),(6,.int .i64 (↑b1))],(Int.toNat (nn)) - b1⟩) (0,ms6,(.slice none 0 0),List.replicate (Int.toNat nn) default) ⟨Nat.zero_le _,rfl,rfl,oms6.mono (by omega)⟩ (dc d0 (dc d1 dn)) (kd (kc k0 (kc k1 kn))) ⟨Z,Z,Z,Z,eqI (by omega),trivial⟩ ?_
 rintro ⟨b1,mq,al1,qs1⟩; dsimp only [u4]; rintro ⟨hb1,hpq,hR1,okL1⟩
 refine cgo k1 fun w8 => ?_
 have bdL1 := okM.bnd okL1.1
 clear bms6
 refine jq (jq (jr (jm Z (jm Z (js (jlss Z Z) (jn (jx ?_)))))))
 refine jif Z (fun hc1 => ?_) (fun hc1 => ?_)
 refine jsk (jx (jq (jb (jtl 13 Mixed (by kernel_rfl) (jt (jmv Z) (jt (jnil Z) (jt (jf F108_2 Z) (jt (jf F49_1 Z) (jt (jl k0 O47 Z Z) (jt (jmv Z) (jt (jmv Z) ?_)))))))))))
 refine jt (jmv Z) (jt (jix U125 Z22 d0 Z Z Z (by omega)) (jtv (jlV (dix d0 b1 (by omega)) O22 Z Z) fun v74 q9 w9 => jt (jbi' (j := b1) U47 Z62 hvb7 Z Z Z (by omega)) (jt (jf F62_2 Z) (jt (jf F60_2 Z) (jtt (jbTo k2 (by omega) Z22 Z Z Z w9.one d0 (jkn (c := 100) ({ mq with bs := List.set mq.bs b1 { (ix mq.bs b1) with Term := { (ix mq.bs b1).Term with To := ix ((targM nn m49).1) b1 } } }) (kc k1 (kc k1 (kc k0 kn))) ⟨(okM.setb (d := 0) okL1.1 (Nat.le_refl _)),okL1.2⟩ fun ms11 hms11 oms11 bms11 => ?_)))))))
 clear bdL1
 refine jn (jbn (jx (jr (jm Z (js (jadd Z Z (by omega)) (ja Z (jn ?_)))))))
 exact jag (b1 + 1,ms11,al1,List.set qs1 b1 { (ix qs1 b1) with T := { (ix mq.bs b1).Term with To := ix ((targM nn m49).1) b1 } }) ⟨by dsimp only; omega,by dsimp only; rw [hms11]; exact (pl_setTo (b := b1) (m := mq)).trans hpq,by dsimp only; rw [hR1,show (Int.toNat (nn)) - b1 = ((Int.toNat (nn)) - (b1 + 1)) + 1 by omega,toS]; (try simp only [hms11]); rfl,oms11.mono (Nat.le_refl _)⟩ (dc d1 (dc d2 dn)) (kd (kd kn)) ⟨Z,Z,Z,Z,eqI (by omega),trivial⟩
 have hE1 : toS ((targM nn m49).1) (Int.toNat (nn)) 0 ms6 = mq := by rw [hR1,show (Int.toNat (nn)) - b1 = 0 by omega]; rfl
 refine jex (jtx (jtx (jbh (jx (jq (jr (jm Z (jmk (m := (Int.toNat nn)) (r := (rI .i64)) U22 I3 Z Z Z (by omega) (by omega) (by omega) (wI (wp (by decide))) Z fun g79 => ja Z (jn (jx ?_))))))))))
 refine jq (jq (jr (ja Z (jn (jx (jb ?_))))))
 refine jlp (u5 fun (b2 : Nat) (ph : List Int) (mr : Mk) (al2 : Value) (qs2 : List BV) => ⟨(1 ≤ b2 ∧ b2 ≤ (Int.toNat (nn))) ∧ ph.length = (Int.toNat (nn)) ∧ (∀ j,0 ≤ ix ph j ∧ ix ph j ≤ 3) ∧ phiOK b2 ph mr ∧ phiS ((Int.toNat (nn)) - 1) 1 (List.replicate (Int.toNat nn) 0) mq = phiS ((Int.toNat (nn)) - b2) b2 ph mr ∧ okS (Int.toNat nn) (100 + 7 * b2) s mr,[dv (rL (rL (rI .i64))) v53 ((targM nn m49).1),dv (rL (rI .i64)) a0 s],[gl X.n (rI .i64) 3 (.slice (some ⟨g79,0,none⟩) (Int.toNat nn) (Int.toNat nn)) ph,bx g33 108 [a0,.int .i64 mr.k,.int .i64 mr.par,(.slice (some ⟨g56,0,none⟩) (Int.toNat nn) (Int.toNat nn)),.int .i64 mr.nx,al2],gl X.n (rI .i64) 3 al2 mr.lv,bk X.n (.slice (some ⟨g56,0,none⟩) (Int.toNat nn) (Int.toNat nn)) qs2 mr.bs,bx g2 49 [.int .i64 0,.slice none 0 0]],[(2,.pointer (some ⟨g2,0,none⟩)),(3,.pointer (some ⟨g33,0,none⟩)),(4,.int .i64 nn),(5,v53),(7,(.slice (some ⟨g79,0,none⟩) (Int.toNat nn) (Int.toNat nn))),(8,.int .i64 (↑b2))],(Int.toNat (nn)) - b2⟩) (1,List.replicate (Int.toNat nn) 0,mq,al1,qs1) ⟨by omega,by simp,rng_rep,phi_start hpq (by rw [hms6]),rfl,okL1.mono (by omega)⟩ (dc d0 (dc d1 dn)) (kd (kd (kc k0 kn))) ⟨Z,Z,Z,Z,Z,eqI (by omega),trivial⟩ ?_
 rintro ⟨b2,ph,mr,al2,qs2⟩; dsimp only [u5]; rintro ⟨hb2,hpl2,hph,hOK2,hR2,okL2⟩
 refine cgo k2 fun w12 => ?_
 have bdL2 := okM.bnd okL2.1
 clear bdL1
 have hmrl := okL2.1.2.2.2.2.1
 refine jq (jq (jr (jm Z (jm Z (js (jlss Z Z) (jn (jx ?_)))))))
 refine jif Z (fun hc2 => ?_) (fun hc2 => ?_)
 refine jsk (jx (jq (jb (jq (jr (jm Z (js (jnil Z) (js (jf F108_2 Z) (js (jla k1 A49 Z49 Z Z Z) (jm Z (jc E63 Z Z (Tg_bt (Tr.dd (r3preds_ct (f := fnM mr) ↑b2) (fn_dd (IntWalk.i64_in _ (by show _ ≤ mr.par ∧ mr.par ≤ _; omega)))) (okL2.lens (by omega) (by omega))) dn (kc k3 kn) (fun _ => p0) (fun _ => p2) fun v90 => jgo k0 fun w13 => ?_)))))))))))
 refine ja Z (jn (jx (jq (jq (jr (jm Z (js (jlg U22 k0 Z) (js (jgtr Z Z) (jn (jx ?_))))))))))
 refine jjo (u4 fun (qh : List Int) (mz : Mk) (alj14 : Value) (qsj14 : List BV) => ⟨qh = phiR b2 ph mr ∧ mz = tSS mr ∧ okS (Int.toNat nn) (100 + 7 * b2 + 1) s mz,[dv (rL (rL (rI .i64))) v53 ((targM nn m49).1),dv (rL (rI .i64)) a0 s],[bk X.n (.slice (some ⟨g56,0,none⟩) (Int.toNat nn) (Int.toNat nn)) qsj14 mz.bs,gl X.n (rI .i64) 3 (.slice (some ⟨g79,0,none⟩) (Int.toNat nn) (Int.toNat nn)) qh,bx g33 108 [a0,.int .i64 mz.k,.int .i64 mz.par,(.slice (some ⟨g56,0,none⟩) (Int.toNat nn) (Int.toNat nn)),.int .i64 mz.nx,alj14],gl X.n (rI .i64) 3 alj14 mz.lv,bx g2 49 [.int .i64 0,.slice none 0 0]],[(2,.pointer (some ⟨g2,0,none⟩)),(3,.pointer (some ⟨g33,0,none⟩)),(4,.int .i64 nn),(5,v53),(7,(.slice (some ⟨g79,0,none⟩) (Int.toNat nn) (Int.toNat nn))),(8,.int .i64 (((b2 : Nat) : Int)))]⟩) ?_ ?_
 refine jif Z (fun hc3 => ?_) (fun hc3 => ?_)
 refine jr (jm Z (jm Z (jm Z (jkr E47 Z Z (m3take_ct okL2 (by omega) 4 (by first | decide | omega | (dsimp only; omega) | (simp only [fnM]; omega))) (dc d1 dn) (kc k3 (kc k3 (kc k1 kn))) ⟨tO9 okL2.1,okL2.2⟩ fun m97 hm97 om97 bm97 => ?_))))
 have w97_0 : IntKind.i64.wrap (tVV 4 mr) = tVV 4 mr := (IntWalk.i64_in _ (by have h9 := @tV9 4 (by omega) mr; omega))
 have tr97 := @tV9 4 (by omega) mr
 clear bdL2
 refine js (jig U22 Z3 k4 Z Z Z (by omega)) (jsg k4 Z Z3 Z Z Z (by omega) (wI (wp w97_0)) (jn ?_))
 exact jje (List.set ph b2 (tVV 4 mr),m97,al2,qs2) ⟨by dsimp only; exact (show phiR b2 ph mr = List.set ph b2 (tVV 4 mr) from by unfold phiR; first | (rw [if_pos (show 1 < (pd3 (fnM mr) (b2 : Int)).length by omega)]; done) | (rw [if_neg (show ¬ 1 < (pd3 (fnM mr) (b2 : Int)).length by omega),if_pos (show tVV 6 mr = 0 by assumption)]; done) | (rw [if_neg (show ¬ 1 < (pd3 (fnM mr) (b2 : Int)).length by omega),if_neg (show ¬ tVV 6 mr = 0 by assumption)]; done)).symm,by dsimp only; exact hm97,om97.mono (Nat.le_refl _)⟩ (dc d0 (dc d1 dn)) (kc k3 (kd (kc k0 (kc k1 kn)))) ⟨Z,Z,Z,Z,Z,Z,trivial⟩
 refine jq (jr (jm Z (jkr E47 Z Z (m3take_ct okL2 (by omega) 6 (by first | decide | omega | (dsimp only; omega) | (simp only [fnM]; omega))) (dc d1 dn) (kc k3 (kc k3 (kc k1 kn))) ⟨tO9 okL2.1,okL2.2⟩ fun m100 hm100 om100 bm100 => ?_)))
 have w100_0 : IntKind.i64.wrap (tVV 6 mr) = tVV 6 mr := (IntWalk.i64_in _ (by have h9 := @tV9 6 (by omega) mr; omega))
 have tr100 := @tV9 6 (by omega) mr
 clear bdL2
 refine js (jeql Z Z) (jn (jx ?_))
 refine jif Z (fun hc4 => ?_) (fun hc4 => ?_)
 refine jr (jm Z (jm Z (js (jig U22 Z3 k4 Z Z Z (by omega)) (jsg k4 Z Z3 Z Z Z (by omega) (wI (wl 1)) (jn ?_)))))
 exact jje (List.set ph b2 1,m100,al2,qs2) ⟨by dsimp only; exact (show phiR b2 ph mr = List.set ph b2 1 from by unfold phiR; first | (rw [if_pos (show 1 < (pd3 (fnM mr) (b2 : Int)).length by omega)]; done) | (rw [if_neg (show ¬ 1 < (pd3 (fnM mr) (b2 : Int)).length by omega),if_pos (show tVV 6 mr = 0 by assumption)]; done) | (rw [if_neg (show ¬ 1 < (pd3 (fnM mr) (b2 : Int)).length by omega),if_neg (show ¬ tVV 6 mr = 0 by assumption)]; done)).symm,by dsimp only; exact hm100,om100.mono (Nat.le_refl _)⟩ (dc d0 (dc d1 dn)) (kc k3 (kd (kc k0 (kc k1 kn)))) ⟨Z,Z,Z,Z,Z,Z,trivial⟩
 refine jsk ?_
 exact jje (ph,m100,al2,qs2) ⟨by dsimp only; exact (show phiR b2 ph mr = ph from by unfold phiR; first | (rw [if_pos (show 1 < (pd3 (fnM mr) (b2 : Int)).length by omega)]; done) | (rw [if_neg (show ¬ 1 < (pd3 (fnM mr) (b2 : Int)).length by omega),if_pos (show tVV 6 mr = 0 by assumption)]; done) | (rw [if_neg (show ¬ 1 < (pd3 (fnM mr) (b2 : Int)).length by omega),if_neg (show ¬ tVV 6 mr = 0 by assumption)]; done)).symm,by dsimp only; exact hm100,om100.mono (Nat.le_refl _)⟩ (dc d0 (dc d1 dn)) (kc k2 (kc k3 (kd (kc k1 kn)))) ⟨Z,Z,Z,Z,Z,Z,trivial⟩
 rintro ⟨qh,mz,alj14,qsj14⟩; dsimp only [u4]; rintro ⟨hqh,hmz9,okLj14⟩
 refine qgo k3 fun w15 => ?_
 have bdLj14 := okM.bnd okLj14.1
 clear bdL2
 have hql : qh.length = ph.length := by rw [hqh,phiR_len]
 have hp3 : ∀ j,0 ≤ ix qh j ∧ ix qh j ≤ 3 := by rw [hqh]; exact phiR_rng hph
 have hp3b := hp3 b2
 have hPR := hqh.symm
 refine jx (jq (jr (ja Z (jn (jx (jb ?_))))))
 refine jlp (u4 fun (i3 : Nat) (mt : Mk) (al3 : Value) (qs3 : List BV) => ⟨i3 ≤ (Int.toNat (ix qh b2)) ∧ phiN b2 (Int.toNat (ix qh b2)) mz = phiN b2 ((Int.toNat (ix qh b2)) - i3) mt ∧ okS (Int.toNat nn) (100 + 7 * b2 + 1 + 2 * i3) s mt,[dv (rL (rL (rI .i64))) v53 ((targM nn m49).1),dv (rL (rI .i64)) a0 s],[bk X.n (.slice (some ⟨g56,0,none⟩) (Int.toNat nn) (Int.toNat nn)) qs3 mt.bs,gl X.n (rI .i64) 3 (.slice (some ⟨g79,0,none⟩) (Int.toNat nn) (Int.toNat nn)) qh,bx g33 108 [a0,.int .i64 mt.k,.int .i64 mt.par,(.slice (some ⟨g56,0,none⟩) (Int.toNat nn) (Int.toNat nn)),.int .i64 mt.nx,al3],gl X.n (rI .i64) 3 al3 mt.lv,bx g2 49 [.int .i64 0,.slice none 0 0]],[(2,.pointer (some ⟨g2,0,none⟩)),(3,.pointer (some ⟨g33,0,none⟩)),(4,.int .i64 nn),(5,v53),(7,(.slice (some ⟨g79,0,none⟩) (Int.toNat nn) (Int.toNat nn))),(8,.int .i64 (↑b2)),(10,.int .i64 (↑i3))],(Int.toNat (ix qh b2)) - i3⟩) (0,mz,alj14,qsj14) ⟨Nat.zero_le _,rfl,okLj14.mono (by omega)⟩ (dc d0 (dc d1 dn)) (kd (kd (kc k0 kn))) ⟨Z,Z,Z,Z,Z,Z,eqI (by omega),trivial⟩ ?_
 rintro ⟨i3,mt,al3,qs3⟩; dsimp only [u4]; rintro ⟨hi3,hR3,okL3⟩
 refine cgo k3 fun w16 => ?_
 have bdL3 := okM.bnd okL3.1
 clear bdLj14
 refine jq (jq (jr (jm Z (jm Z (jm Z (js (jig U22 Z3 k1 Z Z Z (by omega)) (js (jgI k1 (by omega) O3 Z) (js (jlss Z Z) (jn (jx ?_))))))))))
 refine jif Z (fun hc5 => ?_) (fun hc5 => ?_)
 refine jsk (jx (jq (jb ?_)))
 refine jjo (u3 fun (my9 : Mk) (alj17 : Value) (qsj17 : List BV) => ⟨my9 = addP b2 mt ∧ okS (Int.toNat nn) (100 + 7 * b2 + 1 + 2 * i3 + 2) s my9,[dv (rL (rL (rI .i64))) v53 ((targM nn m49).1),dv (rL (rI .i64)) a0 s],[bk X.n (.slice (some ⟨g56,0,none⟩) (Int.toNat nn) (Int.toNat nn)) qsj17 my9.bs,gl X.n (rI .i64) 3 (.slice (some ⟨g79,0,none⟩) (Int.toNat nn) (Int.toNat nn)) qh,bx g33 108 [a0,.int .i64 my9.k,.int .i64 my9.par,(.slice (some ⟨g56,0,none⟩) (Int.toNat nn) (Int.toNat nn)),.int .i64 my9.nx,alj17],gl X.n (rI .i64) 3 alj17 my9.lv,bx g2 49 [.int .i64 0,.slice none 0 0]],[(2,.pointer (some ⟨g2,0,none⟩)),(3,.pointer (some ⟨g33,0,none⟩)),(4,.int .i64 nn),(5,v53),(7,(.slice (some ⟨g79,0,none⟩) (Int.toNat nn) (Int.toNat nn))),(8,.int .i64 (((b2 : Nat) : Int))),(10,.int .i64 (((i3 : Nat) : Int)))]⟩) ?_ ?_
 refine jany true (.a 0 (.a 1 (.a 2 (.a 3 (.a 4 (.a 5 (.a 6 (.a 7 (.a 8 (.a 9 (.a 10 (.a 11 (.a 12 (.a 13 (.a 15 (.w 14 16 (.o 16 (.a 17 (.o 18 (.o 19 (.a 20 (.a 21 (.o 22 .e))))))) (.a 17 (.w 14 18 (.o 18 (.o 19 (.a 20 (.a 21 (.o 22 .e))))) (.o 14 (.o 19 (.a 20 (.a 21 (.o 22 .e))))))))))))))))))))))) Mixed (by kernel_rfl) (kcv k2 Z kn) fun F18 => jy Z (jmv Z) (jy Z (jnil Z) (jy Z (jf F108_2 Z) (jy Z (jf F49_1 Z) (jy Z (jlv k0 O47 Z) (jy Z (jmv Z) (jy Z (jmv Z) (jy Z (jnil Z) (jy Z (jf F108_2 Z) (jy Z (jf F49_1 Z) (jy Z (jlv k0 O47 Z) ?_))))))))))
 refine jy Z (jmv Z) (jy Z (jbi' (j := b2) U47 Z62 hvb7 Z Z Z (by omega)) (jy Z (jf F62_0 Z) (jy Z (jmv Z) ?_)))
 refine jyw Z Z ?_ ?_
 refine js (jbh0 k0 (by omega) O57 Z Z) (jyn d0 (kcv k2 Z kn) (jyo Z (jkr E64 Z Z (m3fresh_ct okL3 (by omega)) (dc d3 dn) (kc k2 (kc k2 (kc k0 kn))) ⟨fresh_ok okL3.1,okL3.2⟩ fun m129 hm129 om129 bm129 => ?_)))
 have w129_0 : IntKind.i64.wrap (mt.nx) = mt.nx := (IntWalk.i64_in _ (by omega))
 clear bdL3
 refine jyn d0 (kcv k0 Z kn) (jy Z (jbu (v := .agg #[.int .i64 mt.nx,.slice none 0 0]) Z (fun _ => by kernel_rfl)) (jyo Z (jlit (r := rPhi) (l := [⟨mt.nx,[]⟩]) U57 I65 (by decide) Z Z Z (lA (rPhi.M (m := ⟨mt.nx,[]⟩) (c := (.slice none 0 0)) wN (wp w129_0)) ln) fun g131 => jyn d0 (kcv k1 Z kn) (jyo Z (jfz k0 (by (try simp) <;> omega) ?_)))))
 have hrF24 := okM.row om129.1 (j := b2) (by omega)
 refine jbf0 b2 k2 (by omega) (jgo k0 fun w25 => japl U57 I65 (by decide) Z k0 Z Z d0 (by (try simp) <;> omega) fun v132 w26 => jyn d1 (kcv k2 Z kn) (jy Z (jbi' (j := b2) U47 Z62 hvb7 Z Z Z (by omega)) (jy Z (jf F62_0 Z) (jyo Z (jbs0 k0 k0 (by omega) Z57 Z Z Z w26.one (jkn (c := 100 + 7 * b2 + 1 + 2 * i3 + 1 + 1) ({ m129 with bs := List.set m129.bs b2 { (ix m129.bs b2) with Phis := ((ix m129.bs b2).Phis) ++ ([⟨mt.nx,[]⟩]) } }) (kc k1 (kc k1 (kc k0 kn))) ⟨(okM.setb (d := 1) om129.1 (by dsimp only; rw [List.length_append]; simp only [List.length_cons,List.length_nil]; omega)),om129.2⟩ fun ms28 hms28 oms28 bms28 => ?_))))))
 clear bm129
 refine jyz d0 (jyd ?_)
 exact jje (ms28,al3,List.set qs3 b2 { (ix qs3 b2) with P := v132 }) ⟨by dsimp only; (try simp only [hm129,hms28]); rfl,oms28.mono (by omega)⟩ (dc d6 (dc d7 dn)) (kc k2 (kc k2 (kd (kc k0 kn)))) ⟨Z,Z,Z,Z,Z,Z,Z,trivial⟩
 refine jkr E64 Z Z (m3fresh_ct okL3 (by omega)) (dc d2 dn) (kc k2 (kc k2 (kc k0 kn))) ⟨fresh_ok okL3.1,okL3.2⟩ fun m129 hm129 om129 bm129 => ?_
 have w129_0 : IntKind.i64.wrap (mt.nx) = mt.nx := (IntWalk.i64_in _ (by omega))
 clear bdL3
 refine jyn d0 (kcv k0 Z kn) (jy Z (jbu (v := .agg #[.int .i64 mt.nx,.slice none 0 0]) Z (fun _ => by kernel_rfl)) ?_)
 refine jyw Z Z ?_ ?_
 refine js (jbh0 k2 (by omega) O57 Z Z) (jyn d0 (kcv k0 Z kn) (jyo Z (jlit (r := rPhi) (l := [⟨mt.nx,[]⟩]) U57 I65 (by decide) Z Z Z (lA (rPhi.M (m := ⟨mt.nx,[]⟩) (c := (.slice none 0 0)) wN (wp w129_0)) ln) fun g131 => jyn d0 (kcv k1 Z kn) (jyo Z (jfz k0 (by (try simp) <;> omega) ?_)))))
 have hrF24 := okM.row om129.1 (j := b2) (by omega)
 refine jbf0 b2 k2 (by omega) (jgo k0 fun w25 => japl U57 I65 (by decide) Z k0 Z Z d0 (by (try simp) <;> omega) fun v132 w26 => jyn d1 (kcv k2 Z kn) (jy Z (jbi' (j := b2) U47 Z62 hvb7 Z Z Z (by omega)) (jy Z (jf F62_0 Z) (jyo Z (jbs0 k0 k0 (by omega) Z57 Z Z Z w26.one (jkn (c := 100 + 7 * b2 + 1 + 2 * i3 + 1 + 1) ({ m129 with bs := List.set m129.bs b2 { (ix m129.bs b2) with Phis := ((ix m129.bs b2).Phis) ++ ([⟨mt.nx,[]⟩]) } }) (kc k1 (kc k1 (kc k0 kn))) ⟨(okM.setb (d := 1) om129.1 (by dsimp only; rw [List.length_append]; simp only [List.length_cons,List.length_nil]; omega)),om129.2⟩ fun ms28 hms28 oms28 bms28 => ?_))))))
 clear bm129
 refine jyz d0 (jyd ?_)
 exact jje (ms28,al3,List.set qs3 b2 { (ix qs3 b2) with P := v132 }) ⟨by dsimp only; (try simp only [hm129,hms28]); rfl,oms28.mono (by omega)⟩ (dc d6 (dc d7 dn)) (kc k2 (kc k2 (kd (kc k0 kn)))) ⟨Z,Z,Z,Z,Z,Z,Z,trivial⟩
 refine jlit (r := rPhi) (l := [⟨mt.nx,[]⟩]) U57 I65 (by decide) Z Z Z (lA (rPhi.M (m := ⟨mt.nx,[]⟩) (c := (.slice none 0 0)) wN (wp w129_0)) ln) fun g131 => jyn d0 (kcv k1 Z kn) (jyo Z (js (jbh0 k3 (by omega) O57 Z Z) (jyn d0 (kcv k1 Z kn) (jyo Z (jfz k0 (by (try simp) <;> omega) ?_)))))
 have hrF24 := okM.row om129.1 (j := b2) (by omega)
 refine jbf0 b2 k2 (by omega) (jgo k0 fun w25 => japl U57 I65 (by decide) Z k0 Z Z d0 (by (try simp) <;> omega) fun v132 w26 => jyn d1 (kcv k2 Z kn) (jy Z (jbi' (j := b2) U47 Z62 hvb7 Z Z Z (by omega)) (jy Z (jf F62_0 Z) (jyo Z (jbs0 k0 k0 (by omega) Z57 Z Z Z w26.one (jkn (c := 100 + 7 * b2 + 1 + 2 * i3 + 1 + 1) ({ m129 with bs := List.set m129.bs b2 { (ix m129.bs b2) with Phis := ((ix m129.bs b2).Phis) ++ ([⟨mt.nx,[]⟩]) } }) (kc k1 (kc k1 (kc k0 kn))) ⟨(okM.setb (d := 1) om129.1 (by dsimp only; rw [List.length_append]; simp only [List.length_cons,List.length_nil]; omega)),om129.2⟩ fun ms28 hms28 oms28 bms28 => ?_))))))
 clear bm129
 refine jyz d0 (jyd ?_)
 exact jje (ms28,al3,List.set qs3 b2 { (ix qs3 b2) with P := v132 }) ⟨by dsimp only; (try simp only [hm129,hms28]); rfl,oms28.mono (by omega)⟩ (dc d6 (dc d7 dn)) (kc k2 (kc k2 (kd (kc k0 kn)))) ⟨Z,Z,Z,Z,Z,Z,Z,trivial⟩
 rintro ⟨my9,alj17,qsj17⟩; dsimp only [u3]; rintro ⟨hmy9,okLj17⟩
 refine qgo k3 fun w29 => ?_
 have bdLj17 := okM.bnd okLj17.1
 clear bdL3
 refine jbn (jx (jr (jm Z (js (jadd Z Z (by omega)) (ja Z (jn ?_))))))
 exact jag (i3 + 1,my9,alj17,qsj17) ⟨by dsimp only; omega,by dsimp only; rw [hmy9,hR3,show (Int.toNat (ix qh b2)) - i3 = ((Int.toNat (ix qh b2)) - (i3 + 1)) + 1 by omega,phiN],okLj17.mono (by omega)⟩ (dc d0 (dc d1 dn)) (kd (kd (kc k0 kn))) ⟨Z,Z,Z,Z,Z,Z,eqI (by omega),trivial⟩
 have hE3 : phiN b2 (Int.toNat (ix qh b2)) mz = mt := by rw [hR3,show (Int.toNat (ix qh b2)) - i3 = 0 by omega]; rfl
 refine jex (jtx (jtx (jbh (jbn (jx (jr (jm Z (js (jadd Z Z (by omega)) (ja Z (jn ?_))))))))))
 exact jag (b2 + 1,qh,mt,al3,qs3) ⟨by dsimp only; omega,by dsimp only; omega,hp3,by dsimp only; have h9 := phi_step hOK2 (by omega) (by omega) hPR.symm; rw [← hmz9,hE3] at h9; exact h9,by dsimp only; rw [hR2,show (Int.toNat (nn)) - b2 = ((Int.toNat (nn)) - (b2 + 1)) + 1 by omega,phiS,hPR,← hmz9,hE3],okL3.mono (by omega)⟩ (dc d0 (dc d1 dn)) (kc k1 (kc k1 (kc k1 (kd kn)))) ⟨Z,Z,Z,Z,Z,eqI (by omega),trivial⟩
 have hE2 : phiS ((Int.toNat (nn)) - 1) 1 (List.replicate (Int.toNat (nn)) 0) mq = (ph,mr) := by rw [hR2,show (Int.toNat (nn)) - b2 = 0 by omega]; rfl
 refine jex (jtx (jtx (jbh (jx (jq (jr (jm Z (jmk (m := (Int.toNat nn)) (r := rB) U129 I4 Z Z Z (by omega) (by omega) (by omega) wB Z fun g136 => ja Z (jn (jx ?_))))))))))
 refine jq (jq (jr (ja Z (jn (jx (jb ?_))))))
 refine jlp (u5 fun (u : Nat) (dz : List Bool) (mu : Mk) (al4 : Value) (qs4 : List BV) => ⟨u ≤ (Int.toNat (nn)) ∧ dz.length = (Int.toNat (nn)) ∧ pl mu = pl mr ∧ turnS (Int.toNat (nn)) ((targM nn m49).1) (Int.toNat (nn)) (List.replicate (Int.toNat nn) false) mr = turnS (Int.toNat (nn)) ((targM nn m49).1) ((Int.toNat (nn)) - u) dz mu ∧ okS (Int.toNat nn) (200 + 3690 * u) s mu,[dv (rL (rL (rI .i64))) v53 ((targM nn m49).1),dv (rL (rI .i64)) a0 s],[gl X.n rB 4 (.slice (some ⟨g136,0,none⟩) (Int.toNat nn) (Int.toNat nn)) dz,gl X.n (rI .i64) 3 (.slice (some ⟨g79,0,none⟩) (Int.toNat nn) (Int.toNat nn)) ph,bx g33 108 [a0,.int .i64 mu.k,.int .i64 mu.par,(.slice (some ⟨g56,0,none⟩) (Int.toNat nn) (Int.toNat nn)),.int .i64 mu.nx,al4],gl X.n (rI .i64) 3 al4 mu.lv,bk X.n (.slice (some ⟨g56,0,none⟩) (Int.toNat nn) (Int.toNat nn)) qs4 mu.bs,bx g2 49 [.int .i64 0,.slice none 0 0]],[(2,.pointer (some ⟨g2,0,none⟩)),(3,.pointer (some ⟨g33,0,none⟩)),(4,.int .i64 nn),(5,v53),(7,(.slice (some ⟨g79,0,none⟩) (Int.toNat nn) (Int.toNat nn))),(11,(.slice (some ⟨g136,0,none⟩) (Int.toNat nn) (Int.toNat nn))),(12,.int .i64 (↑u))],(Int.toNat (nn)) - u⟩) (0,List.replicate (Int.toNat nn) false,mr,al2,qs2) ⟨Nat.zero_le _,by simp,rfl,rfl,okL2.mono (by omega)⟩ (dc d0 (dc d1 dn)) (kd (kd (kd kn))) ⟨Z,Z,Z,Z,Z,Z,eqI (by omega),trivial⟩ ?_
 rintro ⟨u,dz,mu,al4,qs4⟩; dsimp only [u5]; rintro ⟨hu,hdl,hpu,hR4,okL4⟩
 refine cgo k3 fun w30 => ?_
 have bdL4 := okM.bnd okL4.1
 clear bdL2
 refine jq (jq (jr (jm Z (jm Z (js (jlss Z Z) (jn (jx ?_)))))))
 refine jif Z (fun hc6 => ?_) (fun hc6 => ?_)
 refine jsk (jx (jq (jb (jq (jr (ja Z (jn (jx (jb ?_)))))))))
 refine jlp (u5 fun (b5 : Nat) (dn5 : List Bool) (mv : Mk) (al5 : Value) (qs5 : List BV) => ⟨b5 ≤ (Int.toNat (nn)) ∧ dn5.length = (Int.toNat (nn)) ∧ pl mv = pl mu ∧ rowS (Int.toNat (nn)) ((targM nn m49).1) (Int.toNat (nn)) 0 dz mu = rowS (Int.toNat (nn)) ((targM nn m49).1) ((Int.toNat (nn)) - b5) b5 dn5 mv ∧ okS (Int.toNat nn) (200 + 3690 * u + 410 * b5) s mv,[dv (rL (rL (rI .i64))) v53 ((targM nn m49).1),dv (rL (rI .i64)) a0 s],[gl X.n rB 4 (.slice (some ⟨g136,0,none⟩) (Int.toNat nn) (Int.toNat nn)) dn5,gl X.n (rI .i64) 3 (.slice (some ⟨g79,0,none⟩) (Int.toNat nn) (Int.toNat nn)) ph,bx g33 108 [a0,.int .i64 mv.k,.int .i64 mv.par,(.slice (some ⟨g56,0,none⟩) (Int.toNat nn) (Int.toNat nn)),.int .i64 mv.nx,al5],gl X.n (rI .i64) 3 al5 mv.lv,bk X.n (.slice (some ⟨g56,0,none⟩) (Int.toNat nn) (Int.toNat nn)) qs5 mv.bs,bx g2 49 [.int .i64 0,.slice none 0 0]],[(2,.pointer (some ⟨g2,0,none⟩)),(3,.pointer (some ⟨g33,0,none⟩)),(4,.int .i64 nn),(5,v53),(7,(.slice (some ⟨g79,0,none⟩) (Int.toNat nn) (Int.toNat nn))),(11,(.slice (some ⟨g136,0,none⟩) (Int.toNat nn) (Int.toNat nn))),(12,.int .i64 (↑u)),(13,.int .i64 (↑b5))],(Int.toNat (nn)) - b5⟩) (0,dz,mu,al4,qs4) ⟨Nat.zero_le _,hdl,rfl,rfl,okL4.mono (by omega)⟩ (dc d0 (dc d1 dn)) (kd (kd (kd kn))) ⟨Z,Z,Z,Z,Z,Z,Z,eqI (by omega),trivial⟩ ?_
 rintro ⟨b5,dn5,mv,al5,qs5⟩; dsimp only [u5]; rintro ⟨hb5,hdl5,hpv,hR5,okL5⟩
 refine cgo k3 fun w31 => ?_
 have bdL5 := okM.bnd okL5.1
 clear bdL4
 have hmvl := okL5.1.2.2.2.2.1
 have hmvb := okM.bnd okL5.1
 refine jq (jq (jr (jm Z (jm Z (js (jlss Z Z) (jn (jx ?_)))))))
 refine jif Z (fun hc7 => ?_) (fun hc7 => ?_)
 refine jsk (jx (jq (jb (jq (jr (jm Z (jm Z (js (jig U129 Z4 k0 Z Z Z (by omega)) (js (jgB k0 (by omega) O4 Z) (js (jnot Z) (ja Z ?_)))))))))))
 refine jn (jx (jq (jr (jlit (r := (rL rB)) (l := []) U130 I129 (by decide) Z Z Z ln fun g152 => ja Z (jn (jx (jq (jq (jr (ja Z ?_))))))))))
 refine jn (jx (jb ?_))
 refine jlp (u5 fun (a6 : Nat) (va : Value) (aw : List (List Bool)) (al6 : Value) (qs6 : List BV) => ⟨a6 ≤ (Int.toNat (nn)) ∧ aw = awayL (fnM mv) a6 ∧ okS (Int.toNat nn) (200 + 3690 * u + 410 * b5) s mv,[dv (rL (rL (rI .i64))) v53 ((targM nn m49).1),dv (rL (rI .i64)) a0 s],[gl X.n (rL rB) 129 va aw,gl X.n rB 4 (.slice (some ⟨g136,0,none⟩) (Int.toNat nn) (Int.toNat nn)) dn5,gl X.n (rI .i64) 3 (.slice (some ⟨g79,0,none⟩) (Int.toNat nn) (Int.toNat nn)) ph,bx g33 108 [a0,.int .i64 mv.k,.int .i64 mv.par,(.slice (some ⟨g56,0,none⟩) (Int.toNat nn) (Int.toNat nn)),.int .i64 mv.nx,al6],gl X.n (rI .i64) 3 al6 mv.lv,bk X.n (.slice (some ⟨g56,0,none⟩) (Int.toNat nn) (Int.toNat nn)) qs6 mv.bs,bx g2 49 [.int .i64 0,.slice none 0 0]],[(2,.pointer (some ⟨g2,0,none⟩)),(3,.pointer (some ⟨g33,0,none⟩)),(4,.int .i64 nn),(5,v53),(7,(.slice (some ⟨g79,0,none⟩) (Int.toNat nn) (Int.toNat nn))),(11,(.slice (some ⟨g136,0,none⟩) (Int.toNat nn) (Int.toNat nn))),(12,.int .i64 (↑u)),(13,.int .i64 (↑b5)),(14,.bool (!(ix dn5 b5))),(15,va),(16,.int .i64 (↑a6))],(Int.toNat (nn)) - a6⟩) (0,(.slice (some ⟨g152,0,none⟩) 0 0),[],al5,qs5) ⟨Nat.zero_le _,rfl,okL5.mono (Nat.le_refl _)⟩ (dc d0 (dc d1 dn)) (kd (kd (kd (kc k0 kn)))) ⟨Z,Z,Z,Z,Z,Z,Z,Z,Z,Z,eqI (by omega),trivial⟩ ?_
 rintro ⟨a6,va,aw,al6,qs6⟩; dsimp only [u5]; rintro ⟨ha6,haw,okL6⟩
 refine cgo k0 fun w32 => cgo k4 fun w33 => ?_
 have bdL6 := okM.bnd okL6.1
 clear bdL5
 have hawl : aw.length = a6 := by rw [haw,awayL_len]
 refine jq (jq (jr (jm Z (jm Z (js (jlss Z Z) (jn (jx ?_)))))))
 refine jif Z (fun hc8 => ?_) (fun hc8 => ?_)
 refine jsk (jx (jq (jb (jr (jm Z (jm Z (js (jnil Z) (js (jf F108_2 Z) (js (jla k3 A49 Z49 Z Z Z) (jm Z (jc E65 Z Z (Tg_btB (Tr.dd (r3reach_ct (f := fnM mv) ↑a6) (fn_dd (IntWalk.i64_in _ (by show _ ≤ mv.par ∧ mv.par ≤ _; omega)))) (okL6.lens (by omega) (by omega))) dn (kc k5 kn) (fun _ => p0) (fun _ => p2) fun v164 => jgo k0 fun w34 => ?_)))))))))))
 have hrl6 : (reach3 (fnM mv) (a6 : Int)).length = mv.bs.length := reach3_len _ _
 refine jfz k0 (by (try simp) <;> omega) (japv U130 I129 (by decide) Z Z k1 Z d0 (by omega) (fun _ => Z) fun v166 _ w36 => ja Z (jn (jbn (jx (jr (jm Z (js (jadd Z Z (by omega)) (ja Z (jn ?_)))))))))
 exact jag (a6 + 1,v166,aw ++ [reach3 (fnM mv) ((a6 : Nat) : Int)],al6,qs6) ⟨by dsimp only; omega,by dsimp only; rw [haw,awayL_s],okL6.mono (Nat.le_refl _)⟩ (dc d1 (dc d2 dn)) (kc k0 (kc k1 (kc k1 (kc k1 (kc k1 (kd kn)))))) ⟨Z,Z,Z,Z,Z,Z,Z,Z,Z,Z,eqI (by omega),trivial⟩
 refine jex (jtx (jtx (jbh (jx (jq (jq (jr (ja Z (jn (jx (jb ?_)))))))))))
 refine jlp (u4 fun (a7 : Nat) (r7 : Bool) (al7 : Value) (qs7 : List BV) => ⟨a7 ≤ (Int.toNat (nn)) ∧ r7 = readyF (fnM mv) dn5 b5 a7 ∧ okS (Int.toNat nn) (200 + 3690 * u + 410 * b5) s mv,[dv (rL (rL (rI .i64))) v53 ((targM nn m49).1),dv (rL (rI .i64)) a0 s],[gl X.n (rL rB) 129 va aw,gl X.n rB 4 (.slice (some ⟨g136,0,none⟩) (Int.toNat nn) (Int.toNat nn)) dn5,gl X.n (rI .i64) 3 (.slice (some ⟨g79,0,none⟩) (Int.toNat nn) (Int.toNat nn)) ph,bx g33 108 [a0,.int .i64 mv.k,.int .i64 mv.par,(.slice (some ⟨g56,0,none⟩) (Int.toNat nn) (Int.toNat nn)),.int .i64 mv.nx,al7],gl X.n (rI .i64) 3 al7 mv.lv,bk X.n (.slice (some ⟨g56,0,none⟩) (Int.toNat nn) (Int.toNat nn)) qs7 mv.bs,bx g2 49 [.int .i64 0,.slice none 0 0]],[(2,.pointer (some ⟨g2,0,none⟩)),(3,.pointer (some ⟨g33,0,none⟩)),(4,.int .i64 nn),(5,v53),(7,(.slice (some ⟨g79,0,none⟩) (Int.toNat nn) (Int.toNat nn))),(11,(.slice (some ⟨g136,0,none⟩) (Int.toNat nn) (Int.toNat nn))),(12,.int .i64 (↑u)),(13,.int .i64 (↑b5)),(14,.bool r7),(15,va),(17,.int .i64 (↑a7))],(Int.toNat (nn)) - a7⟩) (0,!(ix dn5 b5),al6,qs6) ⟨Nat.zero_le _,by simp [readyF],okL6.mono (Nat.le_refl _)⟩ (dc d0 (dc d1 dn)) (kd (kd (kd (kc k0 kn)))) ⟨Z,Z,Z,Z,Z,Z,Z,Z,Z,Z,eqI (by omega),trivial⟩ ?_
 rintro ⟨a7,r7,al7,qs7⟩; dsimp only [u4]; rintro ⟨ha7,hr7,okL7⟩
 refine cgo k4 fun w37 => ?_
 have bdL7 := okM.bnd okL7.1
 clear bdL6
 refine jq (jq (jr (jm Z (jm Z (js (jlss Z Z) (jn (jx ?_)))))))
 refine jif Z (fun hc9 => ?_) (fun hc9 => ?_)
 have hax : ix aw a7 = reach3 (fnM mv) (a7 : Int) := by rw [haw]; exact awayL_ix _ (by omega)
 have hala7 : (ix aw a7).length = mv.bs.length := by rw [hax,reach3_len]; rfl
 refine jsk (jx (jq (jb (jr (jm Z (jm Z (jg Z Z (.t _) (fun hg => jmv Z) (jg Z Z (.t _) (fun hg => jmv Z) (jg Z Z (.t _) (fun hg => jeql (evg Z hg) (evg Z hg)) (jg Z Z (.t _) (fun hg => jmv (evg Z hg)) (jg Z Z (.gf _ _) (fun hg => jmv Z) ?_)))))))))))
 refine jg Z Z (.gf _ _) (fun hg => jmv Z) (jg Z Z (.gf _ _) (fun hg => jig U129 Z4 k1 (evg Z hg) (evg Z hg) Z (by first | omega | (simp at hg; omega) | (simp only [List.length_set]; omega) | (simp; done))) (jg Z Z (.gf _ _) (fun hg => jgB k1 (by first | omega | (simp at hg; omega) | (simp only [List.length_set]; omega) | (simp; done)) O4 (evg Z hg)) (jg Z Z (.t _) (fun hg => jor2 hg Z Z) (jg Z Z (.t _) (fun hg => jmv (evg Z hg)) (jg Z Z (.gf _ _) (fun hg => jmv Z) (jg Z Z (.gf _ _) (fun hg => jmv Z) (jg Z Z (.gf _ _) (fun hg => jig U130 Z129 k0 (evg Z hg) (evg Z hg) Z (by first | omega | (simp at hg; omega) | (simp only [List.length_set]; omega) | (simp; done))) (jge (q := fun v => dv (rL rB) v (ix aw a7)) Z Z (.gf _ _) (fun hg => jgV k0 (by first | omega | (simp at hg; omega) | (simp only [List.length_set]; omega) | (simp; done)) O129 Z (evg Z hg)) fun v187 => jg Z Z (.gf _ _) (fun hg => jmv Z) (jg Z Z (.gf _ _) (fun hg => jix U129 Z4 (d0.on hg) (evg Z hg) (evg Z hg) Z (by first | omega | (simp at hg; omega) | (simp only [List.length_set]; omega) | (simp; done))) (jg Z Z (.gf _ _) (fun hg => jlB (dix (d0.on hg) b5 (by first | omega | (simp at hg; omega) | (simp only [List.length_set]; omega) | (simp; done))) O4 (evg Z hg)) ?_))))))))))
 refine jg Z Z (.t _) (fun hg => jor2 hg Z Z) (js (jand Z Z) (ja Z (jn (jbn (jx (jr (jm Z (js (jadd Z Z (by omega)) (ja Z (jn ?_))))))))))
 exact jag (a7 + 1,r7 && (((decide (((a7 : Nat) : Int) = ((b5 : Nat) : Int))) || (ix dn5 a7)) || (ix (ix aw a7) b5)),al7,qs7) ⟨by dsimp only; omega,by dsimp only; rw [readyF_s,← hr7,okA,← hax]; simp [Bool.or_assoc,show ((a7 : Int) = (b5 : Int)) ↔ a7 = b5 by omega],okL7.mono (Nat.le_refl _)⟩ (dc d1 (dc d2 dn)) (kd (kd (kd (kc k0 kn)))) ⟨Z,Z,Z,Z,Z,Z,Z,Z,Z,Z,eqI (by omega),trivial⟩
 have hrF : r7 = readyF (fnM mv) dn5 b5 (Int.toNat (nn)) := by rw [hr7,show a7 = (Int.toNat (nn)) by omega]
 refine jex (jtx (jtx (jbh (jx (jq (jq (jr (jm Z (js (jnot Z) (jn (jx ?_)))))))))))
 refine jif Z (fun hc10 => ?_) (fun hc10 => ?_)
 have hnr : ¬ (readyF (fnM mv) dn5 b5 (Int.toNat (nn)) = true) := by rw [← hrF]; simpa using hc10
 refine jex (jtx (jbh (jx (jr (jm Z (js (jadd Z Z (by omega)) (ja Z (jn ?_))))))))
 exact jag (b5 + 1,dn5,mv,al7,qs7) ⟨by dsimp only; omega,hdl5,hpv,by dsimp only; rw [hR5,show (Int.toNat (nn)) - b5 = ((Int.toNat (nn)) - (b5 + 1)) + 1 by omega,rowS,if_neg hnr],okL7.mono (by omega)⟩ (dc d0 (dc d1 dn)) (kc k1 (kc k1 (kc k1 (kc k1 (kc k1 (kc k1 kn)))))) ⟨Z,Z,Z,Z,Z,Z,Z,eqI (by omega),trivial⟩
 have hrd : readyF (fnM mv) dn5 b5 (Int.toNat (nn)) = true := by rw [← hrF]; simpa using hc10
 refine jsk (jx (jq (jr (jm Z (jm Z (js (jig U129 Z4 k1 Z Z Z (by omega)) (jsg k1 Z Z4 Z Z Z (by omega) wB (jn (jx (jq (jr ?_)))))))))))
 refine jm Z (jlit (r := (rI .i64)) (l := []) U22 I3 (by decide) Z Z Z ln fun g199 => js (jnil Z) (js (jf F108_4 Z) (jst k4 Z22 Z Z Z s5 (jkn (c := 200 + 3690 * u + 410 * b5 + 1) ({ mv with lv := [] }) (kd (kc k4 kn)) ⟨(okM.setlv okL7.1 (by simp only [List.length_append,List.length_cons,List.length_nil]; omega) (by omega)),okL7.2⟩ fun ms40 hms40 oms40 bms40 => ?_))))
 clear bdL7
 refine jn (jx (jq (jq (jr (ja Z (jn (jx (jb ?_))))))))
 refine jlp (u4 fun (i8 : Nat) (mx : Mk) (al8 : Value) (qs8 : List BV) => ⟨i8 ≤ mv.par.toNat ∧ mx = { mv with lv := numsL i8 } ∧ okS (Int.toNat nn) (200 + 3690 * u + 410 * b5 + 1) s mx,[dv (rL (rL (rI .i64))) v53 ((targM nn m49).1),dv (rL (rI .i64)) a0 s],[bx g33 108 [a0,.int .i64 mx.k,.int .i64 mx.par,(.slice (some ⟨g56,0,none⟩) (Int.toNat nn) (Int.toNat nn)),.int .i64 mx.nx,al8],gl X.n (rI .i64) 3 al8 mx.lv,bk X.n (.slice (some ⟨g56,0,none⟩) (Int.toNat nn) (Int.toNat nn)) qs8 mx.bs,gl X.n rB 4 (.slice (some ⟨g136,0,none⟩) (Int.toNat nn) (Int.toNat nn)) (List.set dn5 b5 true),gl X.n (rL rB) 129 va aw,gl X.n (rI .i64) 3 (.slice (some ⟨g79,0,none⟩) (Int.toNat nn) (Int.toNat nn)) ph,bx g2 49 [.int .i64 0,.slice none 0 0]],[(2,.pointer (some ⟨g2,0,none⟩)),(3,.pointer (some ⟨g33,0,none⟩)),(4,.int .i64 nn),(5,v53),(7,(.slice (some ⟨g79,0,none⟩) (Int.toNat nn) (Int.toNat nn))),(11,(.slice (some ⟨g136,0,none⟩) (Int.toNat nn) (Int.toNat nn))),(12,.int .i64 (↑u)),(13,.int .i64 (↑b5)),(15,va),(18,.int .i64 (↑i8))],mv.par.toNat - i8⟩) (0,ms40,(.slice (some ⟨g199,0,none⟩) 0 0),qs7) ⟨Nat.zero_le _,by dsimp only; rw [hms40]; rfl,oms40.mono (Nat.le_refl _)⟩ (dc d0 (dc d1 dn)) (kd (kd (kd (kc k1 kn)))) ⟨Z,Z,Z,Z,Z,Z,Z,Z,Z,eqI (by omega),trivial⟩ ?_
 rintro ⟨i8,mx,al8,qs8⟩; dsimp only [u4]; rintro ⟨hi8,hmx,okL8⟩
 refine cgo k1 fun w41 => ?_
 have bdL8 := okM.bnd okL8.1
 clear bms40
 have hmxl : mx.lv.length = i8 := by rw [hmx]; exact numsL_len _
 have hmxp : mx.par = mv.par := by rw [hmx]
 refine jq (jq (jr (jm Z (jm Z (js (jnil Z) (js (jf F108_2 Z) (js (jf F49_0 Z) (js (jl k0 O3 Z Z) (js (jlss Z Z) (jn (jx ?_)))))))))))
 refine jif Z (fun hc11 => ?_) (fun hc11 => ?_)
 refine jsk (jx (jq (jb (jr (jm Z (jm Z (js (jnil Z) (js (jf F108_4 Z) (js (jl k0 O22 Z Z) (jm Z (japv U22 I3 (by decide) Z Z k1 Z (wI (wp (IntWalk.i64_in _ (by omega)))) (by omega) (fun _ => Z) fun v218 _ w42 => ?_)))))))))))
 refine js (jnil Z) (js (jf F108_4 Z) (jst k1 Z22 Z Z w42.one s5 (jkn (c := 200 + 3690 * u + 410 * b5 + 1) ({ mx with lv := mx.lv ++ [↑i8] }) (kd (kc k0 kn)) ⟨(okM.setlv okL8.1 (by rw [List.length_append]; simp only [List.length_cons,List.length_nil]; omega) (Nat.le_refl _)),okL8.2⟩ fun ms43 hms43 oms43 bms43 => ?_)))
 clear bdL8
 refine jn (jbn (jx (jr (jm Z (js (jadd Z Z (by omega)) (ja Z (jn ?_)))))))
 exact jag (i8 + 1,ms43,v218,qs8) ⟨by dsimp only; omega,by dsimp only; rw [hms43,hmx,numsL_s],oms43.mono (Nat.le_refl _)⟩ (dc d0 (dc d1 dn)) (kd (kd (kd (kc k0 kn)))) ⟨Z,Z,Z,Z,Z,Z,Z,Z,Z,eqI (by omega),trivial⟩
 refine jex (jtx (jtx (jbh (jx (jq (jq (jr (ja Z (jn (jx (jb ?_)))))))))))
 refine jlp (u4 fun (a9 : Nat) (my : Mk) (al9 : Value) (qs9 : List BV) => ⟨a9 ≤ (Int.toNat (nn)) ∧ my = { mv with lv := lvF (fnM mv) (List.set dn5 b5 true) b5 a9 } ∧ okS (Int.toNat nn) (200 + 3690 * u + 410 * b5 + 1) s my,[dv (rL (rL (rI .i64))) v53 ((targM nn m49).1),dv (rL (rI .i64)) a0 s],[bx g33 108 [a0,.int .i64 my.k,.int .i64 my.par,(.slice (some ⟨g56,0,none⟩) (Int.toNat nn) (Int.toNat nn)),.int .i64 my.nx,al9],gl X.n (rI .i64) 3 al9 my.lv,bk X.n (.slice (some ⟨g56,0,none⟩) (Int.toNat nn) (Int.toNat nn)) qs9 my.bs,gl X.n rB 4 (.slice (some ⟨g136,0,none⟩) (Int.toNat nn) (Int.toNat nn)) (List.set dn5 b5 true),gl X.n (rL rB) 129 va aw,gl X.n (rI .i64) 3 (.slice (some ⟨g79,0,none⟩) (Int.toNat nn) (Int.toNat nn)) ph,bx g2 49 [.int .i64 0,.slice none 0 0]],[(2,.pointer (some ⟨g2,0,none⟩)),(3,.pointer (some ⟨g33,0,none⟩)),(4,.int .i64 nn),(5,v53),(7,(.slice (some ⟨g79,0,none⟩) (Int.toNat nn) (Int.toNat nn))),(11,(.slice (some ⟨g136,0,none⟩) (Int.toNat nn) (Int.toNat nn))),(12,.int .i64 (↑u)),(13,.int .i64 (↑b5)),(15,va),(19,.int .i64 (↑a9))],(Int.toNat (nn)) - a9⟩) (0,mx,al8,qs8) ⟨Nat.zero_le _,by dsimp only; rw [hmx,show i8 = mv.par.toNat by omega]; simp [lvF,fnM],okL8.mono (Nat.le_refl _)⟩ (dc d0 (dc d1 dn)) (kd (kd (kd (kc k0 kn)))) ⟨Z,Z,Z,Z,Z,Z,Z,Z,Z,eqI (by omega),trivial⟩ ?_
 rintro ⟨a9,my,al9,qs9⟩; dsimp only [u4]; rintro ⟨ha9,hmy,okL9⟩
 refine cgo k1 fun w44 => ?_
 have bdL9 := okM.bnd okL9.1
 clear bdL8
 have hmyb : my.bs = mv.bs := by rw [hmy]
 have hll9 : a9 ≤ (Int.toNat (nn)) → (lvF (fnM mv) (List.set dn5 b5 true) b5 a9).length ≤ mv.par.toNat + 2 * cntT (mv.bs.take a9) := fun h9 => lvF_len (f := (fnM mv)) (by show a9 ≤ mv.bs.length; rw [← hmyb]; omega)
 have hl9 := hll9 ha9
 have hct := cntT_le mv.bs (a9 + 1)
 have hmp9 : my.par = mv.par := by rw [hmy]
 have hmlv : my.lv.length = (lvF (fnM mv) (List.set dn5 b5 true) b5 a9).length := by rw [hmy]
 refine jq (jq (jr (jm Z (jm Z (js (jlss Z Z) (jn (jx ?_)))))))
 refine jif Z (fun hc12 => ?_) (fun hc12 => ?_)
 have hax9 : ix aw a9 = reach3 (fnM mv) (a9 : Int) := by rw [haw]; exact awayL_ix _ (by omega)
 have hala9 : (ix aw a9).length = mv.bs.length := by rw [hax9,reach3_len]; rfl
 refine jsk (jx (jq (jb (jq (jq (jr (jm Z (jm Z (js (jneq Z Z) (jm Z (jg Z Z (.t _) (fun hg => jmv Z) ?_)))))))))))
 refine jg Z Z (.t _) (fun hg => jmv Z) (jg Z Z (.t _) (fun hg => jig U129 Z4 k3 (evg Z hg) (evg Z hg) Z (by first | omega | (simp at hg; omega) | (simp only [List.length_set]; omega) | (simp; done))) (jg Z Z (.t _) (fun hg => jgB k3 (by first | omega | (simp at hg; omega) | (simp only [List.length_set]; omega) | (simp; done)) O4 (evg Z hg)) (jg Z Z (.t _) (fun hg => jnot (evg Z hg)) (jg Z Z (.t _) (fun hg => jmv (evg Z hg)) (jg Z Z (.gf _ _) (fun hg => jmv Z) (jg Z Z (.gf _ _) (fun hg => jmv Z) (jg Z Z (.gf _ _) (fun hg => jig U130 Z129 k4 (evg Z hg) (evg Z hg) Z (by first | omega | (simp at hg; omega) | (simp only [List.length_set]; omega) | (simp; done))) (jge (q := fun v => dv (rL rB) v (ix aw a9)) Z Z (.gf _ _) (fun hg => jgV k4 (by first | omega | (simp at hg; omega) | (simp only [List.length_set]; omega) | (simp; done)) O129 Z (evg Z hg)) fun v239 => jg Z Z (.gf _ _) (fun hg => jmv Z) (jg Z Z (.gf _ _) (fun hg => jix U129 Z4 (d0.on hg) (evg Z hg) (evg Z hg) Z (by first | omega | (simp at hg; omega) | (simp only [List.length_set]; omega) | (simp; done))) (jg Z Z (.gf _ _) (fun hg => jlB (dix (d0.on hg) b5 (by first | omega | (simp at hg; omega) | (simp only [List.length_set]; omega) | (simp; done))) O4 (evg Z hg)) ?_))))))))))
 refine jg Z Z (.t _) (fun hg => jor2 hg Z Z) (js (jand Z Z) (jn (jx ?_)))
 refine jif Z (fun hc13 => ?_) (fun hc13 => ?_)
 have hsk : skipA (fnM mv) (List.set dn5 b5 true) b5 a9 = true := by unfold skipA; rw [← hax9]; simpa [show ((a9 : Int) = (b5 : Int)) ↔ a9 = b5 by omega] using hc13
 refine jex (jtx (jbh (jx (jr (jm Z (js (jadd Z Z (by omega)) (ja Z (jn ?_))))))))
 exact jag (a9 + 1,my,al9,qs9) ⟨by dsimp only; omega,by dsimp only; rw [hmy,lvF_s,lvB,if_pos hsk,List.append_nil],okL9.mono (Nat.le_refl _)⟩ (dc d1 (dc d2 dn)) (kd (kd (kd (kc k0 kn)))) ⟨Z,Z,Z,Z,Z,Z,Z,Z,Z,eqI (by omega),trivial⟩
 have hsk : ¬ (skipA (fnM mv) (List.set dn5 b5 true) b5 a9 = true) := by unfold skipA; rw [← hax9]; simp [show ((a9 : Int) = (b5 : Int)) ↔ a9 = b5 by omega] at hc13 ⊢; exact fun h9 => hc13.resolve_left h9
 refine jsk (jx (jq (jq (jr (ja Z (jn (jx (jb ?_))))))))
 refine jlp (u4 fun (i10 : Nat) (mz : Mk) (al10 : Value) (qs10 : List BV) => ⟨i10 ≤ (ix mv.bs a9).Phis.length ∧ mz = { mv with lv := lvF (fnM mv) (List.set dn5 b5 true) b5 a9 ++ ((ix mv.bs a9).Phis.take i10).map (·.Dst) } ∧ okS (Int.toNat nn) (200 + 3690 * u + 410 * b5 + 1) s mz,[dv (rL (rL (rI .i64))) v53 ((targM nn m49).1),dv (rL (rI .i64)) a0 s],[bx g33 108 [a0,.int .i64 mz.k,.int .i64 mz.par,(.slice (some ⟨g56,0,none⟩) (Int.toNat nn) (Int.toNat nn)),.int .i64 mz.nx,al10],gl X.n (rI .i64) 3 al10 mz.lv,bk X.n (.slice (some ⟨g56,0,none⟩) (Int.toNat nn) (Int.toNat nn)) qs10 mz.bs,gl X.n rB 4 (.slice (some ⟨g136,0,none⟩) (Int.toNat nn) (Int.toNat nn)) (List.set dn5 b5 true),gl X.n (rL rB) 129 va aw,gl X.n (rI .i64) 3 (.slice (some ⟨g79,0,none⟩) (Int.toNat nn) (Int.toNat nn)) ph,bx g2 49 [.int .i64 0,.slice none 0 0]],[(2,.pointer (some ⟨g2,0,none⟩)),(3,.pointer (some ⟨g33,0,none⟩)),(4,.int .i64 nn),(5,v53),(7,(.slice (some ⟨g79,0,none⟩) (Int.toNat nn) (Int.toNat nn))),(11,(.slice (some ⟨g136,0,none⟩) (Int.toNat nn) (Int.toNat nn))),(12,.int .i64 (↑u)),(13,.int .i64 (↑b5)),(15,va),(19,.int .i64 (↑a9)),(20,.int .i64 (↑i10))],(ix mv.bs a9).Phis.length - i10⟩) (0,my,al9,qs9) ⟨Nat.zero_le _,by dsimp only; rw [hmy]; simp,okL9.mono (Nat.le_refl _)⟩ (dc d1 (dc d2 dn)) (kd (kd (kd (kc k0 kn)))) ⟨Z,Z,Z,Z,Z,Z,Z,Z,Z,Z,eqI (by omega),trivial⟩ ?_
 rintro ⟨i10,mz,al10,qs10⟩; dsimp only [u4]; rintro ⟨hi10,hmz,okL10⟩
 refine cgo k1 fun w46 => ?_
 have bdL10 := okM.bnd okL10.1
 clear bdL9
 have hmzb : mz.bs = mv.bs := by rw [hmz]
 have hmzl : mz.lv.length = (lvF (fnM mv) (List.set dn5 b5 true) b5 a9).length + i10 := by rw [hmz]; simp; omega
 have hmzp : (ix mz.bs a9).Phis.length = (ix mv.bs a9).Phis.length := by rw [hmz]
 have hct9 := cntT_take (l := mv.bs) (k := a9) (by omega)
 have hmpz : mz.par = mv.par := by rw [hmz]
 have hczz : cntT mz.bs = cntT mv.bs := by rw [hmzb]
 refine jq (jq (jr (jm Z (jm Z (js (jnil Z) (js (jf F108_2 Z) (js (jf F49_1 Z) (js (jl k0 O47 Z Z) (jm Z (js (jbi' (j := a9) U47 Z62 hvb7 Z Z Z (by omega)) (js (jf F62_0 Z) ?_)))))))))))
 refine js (jbh0 k2 (by omega) O57 Z Z) (js (jbn0 U57 k2 (by omega) Z) (js (jlss Z Z) (jn (jx ?_))))
 refine jif Z (fun hc14 => ?_) (fun hc14 => ?_)
 refine jsk (jx (jq (jb (jany true (.a 0 (.a 1 (.a 2 (.a 3 (.a 4 (.a 5 (.a 6 (.a 7 (.a 8 (.a 9 (.a 10 (.a 11 (.a 12 (.a 13 (.a 14 (.a 15 (.a 16 (.a 17 (.o 18 (.o 19 (.a 20 (.a 21 (.o 22 .e))))))))))))))))))))))) Mixed (by kernel_rfl) (kc k0 (kc k1 kn)) fun F47 => jy Z (jmv Z) (jy Z (jmv Z) (jy Z (jnil Z) (jy Z (jf F108_4 Z) (jy Z (jl k0 O22 Z Z) (jy Z (jmv Z) (jy Z (jnil Z) ?_))))))))))
 refine jy Z (jf F108_2 Z) (jy Z (jf F49_1 Z) (jy Z (jl k0 O47 Z Z) (jy Z (jmv Z) (jy Z (jbi' (j := a9) U47 Z62 hvb7 Z Z Z (by omega)) (jy Z (jf F62_0 Z) (jy Z (jbh0 k1 (by omega) O57 Z Z) (jy Z (jmv Z) (jy Z (jbi0 (i := i10) U57 Z65 k1 (by omega) Z Z Z (by omega)) (jy Z (jf F65_0 Z) (jy Z (jbd0 k1 (by omega) (by omega) O3 Z Z) (jyo Z ?_)))))))))))
 refine jlit (r := (rI .i64)) (l := [(ix (ix mz.bs a9).Phis i10).Dst]) U22 I3 (by decide) Z Z Z (lV Z Z (wI (wbd0 k2 (by omega) (by omega))) ln) fun g277 => jyn d0 (kc k1 (kc k2 kn)) (jyo Z (jfz k0 (by (try simp) <;> omega) (japl U22 I3 (by decide) Z k1 Z Z d0 (by (try simp) <;> omega) fun v278 w51 => jyn d1 (kc k1 (kc k1 kn)) (jy Z (jnil Z) (jy Z (jf F108_4 Z) (jyo Z (jst k1 Z22 Z Z w51.one s5 (jkn (c := 200 + 3690 * u + 410 * b5 + 1) ({ mz with lv := mz.lv ++ ([(ix (ix mz.bs a9).Phis i10).Dst]) }) (kd (kc k0 kn)) ⟨(okM.setlv okL10.1 (by rw [List.length_append]; simp only [List.length_cons,List.length_nil]; omega) (Nat.le_refl _)),okL10.2⟩ fun ms53 hms53 oms53 bms53 => ?_))))))))
 clear bdL10
 refine jyz d0 (jyd (jbn (jx (jr (jm Z (js (jadd Z Z (by omega)) (ja Z (jn ?_))))))))
 exact jag (i10 + 1,ms53,v278,qs10) ⟨by dsimp only; omega,by dsimp only; rw [hms53,hmz]; dsimp only; rw [map_snoc (by omega),List.append_assoc],oms53.mono (Nat.le_refl _)⟩ (dc d4 (dc d5 dn)) (kd (kd (kd (kc k0 kn)))) ⟨Z,Z,Z,Z,Z,Z,Z,Z,Z,Z,eqI (by omega),trivial⟩
 refine jex (jtx (jtx (jbh (jx (jq (jr (ja Z (jn (jx (jb ?_))))))))))
 refine jlp (u4 fun (i11 : Nat) (mo : Mk) (al11 : Value) (qs11 : List BV) => ⟨i11 ≤ (ix mv.bs a9).Ins.length ∧ mo = { mv with lv := lvF (fnM mv) (List.set dn5 b5 true) b5 a9 ++ ((ix mv.bs a9).Phis.map (·.Dst) ++ ((ix mv.bs a9).Ins.take i11).flatMap makes3) } ∧ okS (Int.toNat nn) (200 + 3690 * u + 410 * b5 + 1) s mo,[dv (rL (rL (rI .i64))) v53 ((targM nn m49).1),dv (rL (rI .i64)) a0 s],[bx g33 108 [a0,.int .i64 mo.k,.int .i64 mo.par,(.slice (some ⟨g56,0,none⟩) (Int.toNat nn) (Int.toNat nn)),.int .i64 mo.nx,al11],gl X.n (rI .i64) 3 al11 mo.lv,bk X.n (.slice (some ⟨g56,0,none⟩) (Int.toNat nn) (Int.toNat nn)) qs11 mo.bs,gl X.n rB 4 (.slice (some ⟨g136,0,none⟩) (Int.toNat nn) (Int.toNat nn)) (List.set dn5 b5 true),gl X.n (rL rB) 129 va aw,gl X.n (rI .i64) 3 (.slice (some ⟨g79,0,none⟩) (Int.toNat nn) (Int.toNat nn)) ph,bx g2 49 [.int .i64 0,.slice none 0 0]],[(2,.pointer (some ⟨g2,0,none⟩)),(3,.pointer (some ⟨g33,0,none⟩)),(4,.int .i64 nn),(5,v53),(7,(.slice (some ⟨g79,0,none⟩) (Int.toNat nn) (Int.toNat nn))),(11,(.slice (some ⟨g136,0,none⟩) (Int.toNat nn) (Int.toNat nn))),(12,.int .i64 (↑u)),(13,.int .i64 (↑b5)),(15,va),(19,.int .i64 (↑a9)),(21,.int .i64 (↑i11))],(ix mv.bs a9).Ins.length - i11⟩) (0,mz,al10,qs10) ⟨Nat.zero_le _,by dsimp only; rw [hmz,List.take_of_length_le (by omega)]; simp,okL10.mono (Nat.le_refl _)⟩ (dc d0 (dc d1 dn)) (kd (kd (kd (kc k0 kn)))) ⟨Z,Z,Z,Z,Z,Z,Z,Z,Z,Z,eqI (by omega),trivial⟩ ?_
 rintro ⟨i11,mo,al11,qs11⟩; dsimp only [u4]; rintro ⟨hi11,hmo,okL11⟩
 refine cgo k1 fun w54 => ?_
 have bdL11 := okM.bnd okL11.1
 clear bdL10
 have hmob : mo.bs = mv.bs := by rw [hmo]
 have hfm := fm_len (l := (ix mv.bs a9).Ins.take i11)
 have hmol : mo.lv.length ≤ (lvF (fnM mv) (List.set dn5 b5 true) b5 a9).length + (ix mv.bs a9).Phis.length + 2 * i11 := by rw [hmo]; rw [List.length_take] at hfm; simp only [List.length_append,List.length_map]; omega
 have hmop : (ix mo.bs a9).Ins.length = (ix mv.bs a9).Ins.length := by rw [hmo]
 have hmpo : mo.par = mv.par := by rw [hmo]
 have hczo : cntT mo.bs = cntT mv.bs := by rw [hmob]
 refine jq (jq (jr (jm Z (jm Z (js (jnil Z) (js (jf F108_2 Z) (js (jf F49_1 Z) (js (jl k0 O47 Z Z) (jm Z (js (jbi' (j := a9) U47 Z62 hvb7 Z Z Z (by omega)) (js (jf F62_1 Z) ?_)))))))))))
 refine js (jbh1 k2 (by omega) O58 Z Z) (js (jbn1 U58 k2 (by omega) Z) (js (jlss Z Z) (jn (jx ?_))))
 refine jif Z (fun hc15 => ?_) (fun hc15 => ?_)
 refine jsk (jx (jq (jb (jq (jr (jm Z (js (jnil Z) (js (jf F108_2 Z) (js (jf F49_1 Z) (js (jl k0 O47 Z Z) (jm Z ?_)))))))))))
 refine js (jbi' (j := a9) U47 Z62 hvb7 Z Z Z (by omega)) (js (jf F62_1 Z) (js (jbh1 k2 (by omega) O58 Z Z) (jm Z (js (jbi1 (i := i11) U58 Z67 k2 (by omega) Z Z Z (by omega)) (jA sIns (jbA1 k2 (by omega) (by omega) A67 Z67 Z) fun c306 => jcd E66 Z Z r3makes_ct (dc d0 dn) kn fun v307 q56 w56 => ja Z (jn (jx (jr (jm Z ?_)))))))))
 refine jm Z (js (jnil Z) (js (jf F108_4 Z) (js (jl k0 O22 Z Z) (jm Z (japl U22 I3 (by decide) Z k1 Z Z d0 (by (try simp) <;> omega) fun v314 w58 => js (jnil Z) (js (jf F108_4 Z) (jst k1 Z22 Z Z w58.one s5 (jkn (c := 200 + 3690 * u + 410 * b5 + 1) ({ mo with lv := mo.lv ++ (makes3 (ix (ix mo.bs a9).Ins i11)) }) (kd (kc k0 kn)) ⟨(okM.setlv okL11.1 (by rw [List.length_append]; have h2 := makes3_len (ix (ix mo.bs a9).Ins i11); omega) (Nat.le_refl _)),okL11.2⟩ fun ms59 hms59 oms59 bms59 => ?_))))))))
 clear bdL11
 refine jn (jbn (jx (jr (jm Z (js (jadd Z Z (by omega)) (ja Z (jn ?_)))))))
 exact jag (i11 + 1,ms59,v314,qs11) ⟨by dsimp only; omega,by dsimp only; rw [hms59,hmo]; dsimp only; rw [fm_snoc (by omega),List.append_assoc,List.append_assoc],oms59.mono (Nat.le_refl _)⟩ (dc d2 (dc d3 dn)) (kd (kd (kd (kc k0 kn)))) ⟨Z,Z,Z,Z,Z,Z,Z,Z,Z,Z,eqI (by omega),trivial⟩
 refine jex (jtx (jtx (jbh (jbn (jx (jr (jm Z (js (jadd Z Z (by omega)) (ja Z (jn ?_))))))))))
 exact jag (a9 + 1,mo,al11,qs11) ⟨by dsimp only; omega,by dsimp only; rw [hmo,lvF_s,lvB,if_neg hsk,List.take_of_length_le (by omega)]; rfl,okL11.mono (Nat.le_refl _)⟩ (dc d0 (dc d1 dn)) (kd (kd (kd (kc k0 kn)))) ⟨Z,Z,Z,Z,Z,Z,Z,Z,Z,eqI (by omega),trivial⟩
 have hlv : my = lvM (Int.toNat (nn)) b5 (List.set dn5 b5 true) mv := by rw [hmy,show a9 = (Int.toNat (nn)) by omega]; rfl
 refine jex (jtx (jtx (jbh (jx (jq (jr (jm Z (jkr E47 Z Z (m3take_ct okL9 (by omega) 7 (by first | decide | omega | (dsimp only; omega) | (simp only [fnM]; omega))) (dc d1 dn) (kd (kc k0 kn)) ⟨tO9 okL9.1,okL9.2⟩ fun m318 hm318 om318 bm318 => ?_))))))))
 have w318_0 : IntKind.i64.wrap (tVV 7 my) = tVV 7 my := (IntWalk.i64_in _ (by have h9 := @tV9 7 (by omega) my; omega))
 have tr318 := @tV9 7 (by omega) my
 clear bdL9
 refine ja Z (jn (jx (jq (jq (jr (ja Z (jn (jx (jb ?_)))))))))
 refine jlp (u4 fun (k12 : Nat) (mp : Mk) (al12 : Value) (qs12 : List BV) => ⟨k12 ≤ (Int.toNat (tVV 7 my)) ∧ pl mp = pl mv ∧ insN b5 (Int.toNat (tVV 7 my)) m318 = insN b5 ((Int.toNat (tVV 7 my)) - k12) mp ∧ okS (Int.toNat nn) (200 + 3690 * u + 410 * b5 + 1 + 1 + 60 * k12) s mp,[dv (rL (rL (rI .i64))) v53 ((targM nn m49).1),dv (rL (rI .i64)) a0 s],[bx g33 108 [a0,.int .i64 mp.k,.int .i64 mp.par,(.slice (some ⟨g56,0,none⟩) (Int.toNat nn) (Int.toNat nn)),.int .i64 mp.nx,al12],gl X.n (rI .i64) 3 al12 mp.lv,bk X.n (.slice (some ⟨g56,0,none⟩) (Int.toNat nn) (Int.toNat nn)) qs12 mp.bs,gl X.n rB 4 (.slice (some ⟨g136,0,none⟩) (Int.toNat nn) (Int.toNat nn)) (List.set dn5 b5 true),gl X.n (rI .i64) 3 (.slice (some ⟨g79,0,none⟩) (Int.toNat nn) (Int.toNat nn)) ph,bx g2 49 [.int .i64 0,.slice none 0 0]],[(2,.pointer (some ⟨g2,0,none⟩)),(3,.pointer (some ⟨g33,0,none⟩)),(4,.int .i64 nn),(5,v53),(7,(.slice (some ⟨g79,0,none⟩) (Int.toNat nn) (Int.toNat nn))),(11,(.slice (some ⟨g136,0,none⟩) (Int.toNat nn) (Int.toNat nn))),(12,.int .i64 (↑u)),(13,.int .i64 (↑b5)),(23,.int .i64 (tVV 7 my)),(24,.int .i64 (↑k12))],(Int.toNat (tVV 7 my)) - k12⟩) (0,m318,al9,qs9) ⟨Nat.zero_le _,by dsimp only; rw [hm318,hmy]; rfl,rfl,om318.mono (by omega)⟩ (dc d0 (dc d1 dn)) (kd (kd (kc k1 (kc k1 kn)))) ⟨Z,Z,Z,Z,Z,Z,Z,Z,Z,eqI (by omega),trivial⟩ ?_
 rintro ⟨k12,mp,al12,qs12⟩; dsimp only [u4]; rintro ⟨hk12,hpp,hR12,okL12⟩
 refine cgo k1 fun w60 => ?_
 have bdL12 := okM.bnd okL12.1
 clear bm318
 refine jq (jq (jr (jm Z (jm Z (js (jlss Z Z) (jn (jx ?_)))))))
 refine jif Z (fun hc16 => ?_) (fun hc16 => ?_)
 refine jsk (jx (jq (jb (jr (jm Z (jm Z (jkb E67 Z Z (m3ins_ct okL12 (by omega) ↑b5 (by first | decide | omega | (dsimp only; omega) | (simp only [fnM]; omega))) (dc d1 dn) (kd (kc k0 kn)) ⟨ins3_ok okL12.1 (by omega),(insS_s.trans okL12.2)⟩ p0 fun m326 hm326 om326 bm326 ua326 qs326 w61 => ?_)))))))
 clear bdL12
 refine jn (jbn (jx (jr (jm Z (js (jadd Z Z (by omega)) (ja Z (jn ?_)))))))
 exact jag (k12 + 1,m326,ua326,qs326) ⟨by dsimp only; omega,by dsimp only; rw [hm326,pl_ins,hpp],by dsimp only; rw [hR12,show (Int.toNat (tVV 7 my)) - k12 = ((Int.toNat (tVV 7 my)) - (k12 + 1)) + 1 by omega,insN,hm326],om326.mono (by omega)⟩ (dc d0 (dc d1 dn)) (kd (kd (kd kn))) ⟨Z,Z,Z,Z,Z,Z,Z,Z,Z,eqI (by omega),trivial⟩
 have hE12 : insN b5 (Int.toNat (tVV 7 my)) m318 = mp := by rw [hR12,show (Int.toNat (tVV 7 my)) - k12 = 0 by omega]; rfl
 refine jex (jtx (jtx (jbh (jx (jr (jm Z (jm Z (jm Z (jm Z (js (jix U125 Z22 d0 Z Z Z (by omega)) (jev (jlV (dix d0 b5 (by omega)) O22 Z Z) fun v332 q62 w62 => ?_)))))))))))
 refine jkb E68 Z Z (m3end_ct okL12 (by omega) ↑b5 (by first | decide | omega | (dsimp only; omega) | (simp only [fnM]; omega))) (dc d2 (dc d0 dn)) (kd (kc k0 kn)) ⟨end_ok okL12.1 (by omega),(endS_s.trans okL12.2)⟩ p0 fun m333 hm333 om333 bm333 ua333 qs333 w64 => ?_
 clear bdL12
 refine jn (jbn (jx (jr (jm Z (js (jadd Z Z (by omega)) (ja Z (jn ?_)))))))
 exact jag (b5 + 1,List.set dn5 b5 true,m333,ua333,qs333) ⟨by dsimp only; omega,by simp [hdl5],by dsimp only; rw [hm333,pl_end,hpp,hpv],by dsimp only; rw [hR5,show (Int.toNat (nn)) - b5 = ((Int.toNat (nn)) - (b5 + 1)) + 1 by omega,rowS,if_pos hrd,blkM,← hlv,← hm318,hE12,hm333],om333.mono (by omega)⟩ (dc d1 (dc d2 dn)) (kc k3 (kc k3 (kd (kd kn)))) ⟨Z,Z,Z,Z,Z,Z,Z,eqI (by omega),trivial⟩
 have hE5 : rowS (Int.toNat (nn)) ((targM nn m49).1) (Int.toNat (nn)) 0 dz mu = (dn5,mv) := by rw [hR5,show (Int.toNat (nn)) - b5 = 0 by omega]; rfl
 refine jex (jtx (jtx (jbh (jbn (jx (jr (jm Z (js (jadd Z Z (by omega)) (ja Z (jn ?_))))))))))
 exact jag (u + 1,dn5,mv,al5,qs5) ⟨by dsimp only; omega,hdl5,by dsimp only; rw [hpv,hpu],by dsimp only; rw [hR4,show (Int.toNat (nn)) - u = ((Int.toNat (nn)) - (u + 1)) + 1 by omega,turnS,hE5],okL5.mono (by omega)⟩ (dc d0 (dc d1 dn)) (kd (kd (kd kn))) ⟨Z,Z,Z,Z,Z,Z,eqI (by omega),trivial⟩
 have hE4 : turnS (Int.toNat (nn)) ((targM nn m49).1) (Int.toNat (nn)) (List.replicate (Int.toNat (nn)) false) mr = (dz,mu) := by rw [hR4,show (Int.toNat (nn)) - u = 0 by omega]; rfl
 refine jex (jtx (jtx (jbh (jx (jq (jq (jr (ja Z (jn (jx (jb ?_)))))))))))
 refine jlp (u4 fun (b13 : Nat) (mf : Mk) (al13 : Value) (qs13 : List BV) => ⟨(1 ≤ b13 ∧ b13 ≤ (Int.toNat (nn))) ∧ pl mf = pl mu ∧ finS ph ((Int.toNat (nn)) - 1) 1 mu = finS ph ((Int.toNat (nn)) - b13) b13 mf ∧ okS (Int.toNat nn) (34000 + 200 * b13) s mf,[dv (rL (rI .i64)) a0 s],[gl X.n (rI .i64) 3 (.slice (some ⟨g79,0,none⟩) (Int.toNat nn) (Int.toNat nn)) ph,bx g33 108 [a0,.int .i64 mf.k,.int .i64 mf.par,(.slice (some ⟨g56,0,none⟩) (Int.toNat nn) (Int.toNat nn)),.int .i64 mf.nx,al13],gl X.n (rI .i64) 3 al13 mf.lv,bk X.n (.slice (some ⟨g56,0,none⟩) (Int.toNat nn) (Int.toNat nn)) qs13 mf.bs,bx g2 49 [.int .i64 0,.slice none 0 0]],[(2,.pointer (some ⟨g2,0,none⟩)),(3,.pointer (some ⟨g33,0,none⟩)),(4,.int .i64 nn),(7,(.slice (some ⟨g79,0,none⟩) (Int.toNat nn) (Int.toNat nn))),(25,.int .i64 (↑b13))],(Int.toNat (nn)) - b13⟩) (1,mu,al4,qs4) ⟨by omega,rfl,rfl,okL4.mono (by omega)⟩ (dc d1 dn) (kc k1 (kc k1 (kc k1 (kc k1 (kc k1 kn))))) ⟨Z,Z,Z,Z,eqI (by omega),trivial⟩ ?_
 rintro ⟨b13,mf,al13,qs13⟩; dsimp only [u4]; rintro ⟨hb13,hpf,hR13,okL13⟩
 refine cgo k2 fun w65 => ?_
 have bdL13 := okM.bnd okL13.1
 clear bdL4
 have hmfl := okL13.1.2.2.2.2.1
 refine jq (jq (jr (jm Z (jm Z (js (jlss Z Z) (jn (jx ?_)))))))
 refine jif Z (fun hc17 => ?_) (fun hc17 => ?_)
 refine jsk (jx (jq (jb (jq (jr (jm Z (js (jnil Z) (js (jf F108_2 Z) (js (jla k1 A49 Z49 Z Z Z) (jm Z (jc E63 Z Z (Tg_bt (Tr.dd (r3preds_ct (f := fnM mf) ↑b13) (fn_dd (IntWalk.i64_in _ (by show _ ≤ mf.par ∧ mf.par ≤ _; omega)))) (okL13.lens (by omega) (by omega))) dn (kc k3 kn) (fun _ => p0) (fun _ => p2) fun v344 => jgo k0 fun w66 => ?_)))))))))))
 have hpl9 : (pd3 (fnM mf) (b13 : Int)).length ≤ mf.bs.length := preds3_len _ _
 refine jfz k0 (by (try simp) <;> omega) (ja Z (jn (jx (jq (jr (ja Z (jn (jx (jb ?_)))))))))
 refine jlp (u4 fun (i14 : Nat) (mg : Mk) (al14 : Value) (qs14 : List BV) => ⟨i14 ≤ (Int.toNat (ix ph b13)) ∧ pl mg = pl mf ∧ inP (pd3 (fnM mf) b13) b13 (Int.toNat (ix ph b13)) 0 mf = inP (pd3 (fnM mf) b13) b13 ((Int.toNat (ix ph b13)) - i14) i14 mg ∧ okS (Int.toNat nn) (34000 + 200 * b13 + 60 * i14) s mg,[dv (rL (rI .i64)) v344 (pd3 (fnM mf) ↑b13),dv (rL (rI .i64)) a0 s],[bk X.n (.slice (some ⟨g56,0,none⟩) (Int.toNat nn) (Int.toNat nn)) qs14 mg.bs,gl X.n (rI .i64) 3 (.slice (some ⟨g79,0,none⟩) (Int.toNat nn) (Int.toNat nn)) ph,bx g33 108 [a0,.int .i64 mg.k,.int .i64 mg.par,(.slice (some ⟨g56,0,none⟩) (Int.toNat nn) (Int.toNat nn)),.int .i64 mg.nx,al14],gl X.n (rI .i64) 3 al14 mg.lv,bx g2 49 [.int .i64 0,.slice none 0 0]],[(2,.pointer (some ⟨g2,0,none⟩)),(3,.pointer (some ⟨g33,0,none⟩)),(4,.int .i64 nn),(7,(.slice (some ⟨g79,0,none⟩) (Int.toNat nn) (Int.toNat nn))),(25,.int .i64 (↑b13)),(26,v344),(27,.int .i64 (↑i14))],(Int.toNat (ix ph b13)) - i14⟩) (0,mf,al13,qs13) ⟨Nat.zero_le _,rfl,rfl,okL13.mono (by omega)⟩ (dc d0 (dc d1 dn)) (kd (kd (kc k0 kn))) ⟨Z,Z,Z,Z,Z,Z,eqI (by omega),trivial⟩ ?_
 rintro ⟨i14,mg,al14,qs14⟩; dsimp only [u4]; rintro ⟨hi14,hpg,hR14,okL14⟩
 refine cgo k3 fun w68 => ?_
 have bdL14 := okM.bnd okL14.1
 clear bdL13
 have hph13 := hph b13
 refine jq (jq (jr (jm Z (jm Z (jm Z (js (jig U22 Z3 k1 Z Z Z (by omega)) (js (jgI k1 (by omega) O3 Z) (js (jlss Z Z) (jn (jx ?_))))))))))
 refine jif Z (fun hc18 => ?_) (fun hc18 => ?_)
 refine jsk (jx (jq (jb (jq (jr (jlit (r := rIn) (l := []) U63 I111 (by decide) Z Z Z ln fun g353 => ja Z (jn (jx (jq (jq ?_))))))))))
 refine jr (ja Z (jn (jx (jb ?_))))
 refine jlp (u6 fun (k15 : Nat) (vi : Value) (li : List D.In) (mh : Mk) (al15 : Value) (qs15 : List BV) => ⟨k15 ≤ (pd3 (fnM mf) b13).length ∧ pl mh = pl mg ∧ li.length = k15 ∧ inS (pd3 (fnM mf) b13) (pd3 (fnM mf) b13).length 0 [] mg = inS (pd3 (fnM mf) b13) ((pd3 (fnM mf) b13).length - k15) k15 li mh ∧ okS (Int.toNat nn) (34000 + 200 * b13 + 60 * i14 + 6 * k15) s mh,[dv (rL (rI .i64)) v344 (pd3 (fnM mf) ↑b13),dv (rL (rI .i64)) a0 s],[gl X.n rIn 111 vi li,bk X.n (.slice (some ⟨g56,0,none⟩) (Int.toNat nn) (Int.toNat nn)) qs15 mh.bs,gl X.n (rI .i64) 3 (.slice (some ⟨g79,0,none⟩) (Int.toNat nn) (Int.toNat nn)) ph,bx g33 108 [a0,.int .i64 mh.k,.int .i64 mh.par,(.slice (some ⟨g56,0,none⟩) (Int.toNat nn) (Int.toNat nn)),.int .i64 mh.nx,al15],gl X.n (rI .i64) 3 al15 mh.lv,bx g2 49 [.int .i64 0,.slice none 0 0]],[(2,.pointer (some ⟨g2,0,none⟩)),(3,.pointer (some ⟨g33,0,none⟩)),(4,.int .i64 nn),(7,(.slice (some ⟨g79,0,none⟩) (Int.toNat nn) (Int.toNat nn))),(25,.int .i64 (↑b13)),(26,v344),(27,.int .i64 (↑i14)),(28,vi),(29,.int .i64 (↑k15))],(pd3 (fnM mf) b13).length - k15⟩) (0,(.slice (some ⟨g353,0,none⟩) 0 0),[],mg,al14,qs14) ⟨Nat.zero_le _,rfl,rfl,rfl,okL14.mono (by omega)⟩ (dc d0 (dc d1 dn)) (kd (kd (kd kn))) ⟨Z,Z,Z,Z,Z,Z,Z,Z,eqI (by omega),trivial⟩ ?_
 rintro ⟨k15,vi,li,mh,al15,qs15⟩; dsimp only [u6]; rintro ⟨hk15,hph15,hlil,hR15,okL15⟩
 refine cgo k0 fun w69 => cgo k4 fun w70 => ?_
 have bdL15 := okM.bnd okL15.1
 clear bdL14
 have hmhl := okL15.1.2.2.2.2.1
 refine jq (jq (jr (jm Z (jm Z (js (jln U22 d0 Z) (js (jlss Z Z) (jn (jx ?_))))))))
 refine jif Z (fun hc19 => ?_) (fun hc19 => ?_)
 have hpr : 0 ≤ ix (pd3 (fnM mf) b13) k15 ∧ ix (pd3 (fnM mf) b13) k15 < (mf.bs.length : Int) := preds3_rng (f := fnM mf) (b := (b13 : Int)) _ (ix_mem (l := (pd3 (fnM mf) b13)) (i := k15) (by omega))
 have hplh := pl_get (hph15.trans hpg) 0
 have hsl : (stand3 (fnM mh) (ix (pd3 (fnM mf) ↑b13) k15)).length ≤ mh.par.toNat + 2 * cntT mh.bs := stand3_len _ _
 refine jsk (jx (jq (jb (jq (jtl 8 Mixed (by kernel_rfl) (jt (jmv Z) (jt (jnil Z) (jt (jf F108_2 Z) (jt (jla k3 A49 Z49 Z Z Z) (jt (jmv Z) (jt (jmv Z) ?_)))))))))))
 refine jt (jix U22 Z3 d0 Z Z Z (by omega)) (jt (jlI (dix d0 k15 (by omega)) O3 Z) (jtt (jc E69 Z Z (Tg_bt (Tr.dd (r3stand_ct (f := fnM mh) (ix (pd3 (fnM mf) ↑b13) k15) (by show 0 ≤ _ ∧ _ < (mh.bs.length : Int); omega) (by show cntT mh.bs < _; omega) (by show 0 ≤ mh.par ∧ mh.par ≤ 4; omega)) (fn_dd (IntWalk.i64_in _ (by show _ ≤ mh.par ∧ mh.par ≤ _; omega)))) (okL15.lens (by omega) (by omega))) dn (kc k1 kn) (fun _ => p0) (fun _ => p2) fun v368 => jgo k0 fun w71 => ja Z (jn (jx (jq (jq (jr (jm Z (js (jlg U22 k0 Z) ?_))))))))))
 refine js (jeql Z Z) (jn (jx ?_))
 refine jif Z (fun hc20 => ?_) (fun hc20 => ?_)
 have hz : (stand3 (fnM mh) (ix (pd3 (fnM mf) b13) k15)).length = 0 := by omega
 refine jany false (.a 0 (.a 1 (.a 2 (.a 3 (.a 4 (.a 5 (.a 6 (.o 7 (.o 8 (.o 9 (.o 10 (.a 11 .e)))))))))))) Mixed (by kernel_rfl) kn fun F72 => jy Z (jmv Z) (jy Z (jmv Z) (jy Z (jmv Z) (jy Z (jmv Z) (jy Z (jix U22 Z3 d0 Z Z Z (by omega)) (jy Z (jlI (dix d0 k15 (by omega)) O3 Z) (jy Z (jmv Z) (jyo Z (jkr E71 Z Z (m3word_ct okL15 (by omega)) (dc d2 dn) (kc k4 (kc k4 (kc k1 kn))) ⟨word_ok okL15.1,okL15.2⟩ fun m379 hm379 om379 bm379 => ?_))))))))
 have w379_0 : IntKind.i32.wrap (wordV mh) = wordV mh := (word_w mh)
 clear bdL15
 refine jyn d0 kn (jyo Z (jkb E70 Z Z (m3const_ct om379 (by omega) (ix (pd3 (fnM mf) ↑b13) k15) (wordV mh) (by first | decide | omega | (dsimp only; omega) | (simp only [fnM]; omega)) w379_0) (dc d3 dn) (kd (kc k0 kn)) ⟨const_ok om379.1 (by omega),(constS_s.trans om379.2)⟩ p1 fun m380 hm380 om380 bm380 ua380 qs380 w75 => ?_))
 clear bm379
 have hal9 : (List.length ((stand3 (fnM mh) (ix (pd3 (fnM mf) ↑b13) k15)) ++ [m379.nx])) = (stand3 (fnM mh) (ix (pd3 (fnM mf) ↑b13) k15)).length + 1 := by simp
 refine jyn d1 kn (jyo Z (jlit (r := (rI .i64)) (l := [m379.nx]) U22 I3 (by decide) Z Z Z (lV Z Z (wI ((wfw d1))) ln) fun g381 => jyn d0 kn (jyo Z (jfz k0 (by (try simp) <;> omega) (japl U22 I3 (by decide) Z k3 Z Z d0 (by (try simp) <;> omega) fun v382 w80 => jyn d1 kn (jy Z (jas Z) (jyd (jx (jany false (.a 0 (.a 1 (.a 2 (.a 3 (.a 4 (.a 5 (.a 6 (.a 7 (.a 8 (.o 9 (.a 10 (.a 11 (.a 12 (.o 13 (.o 14 (.a 15 .e)))))))))))))))) Mixed (by kernel_rfl) (kc k0 kn) fun F81 => ?_)))))))))
 refine jy Z (jmv Z) (jy Z (jmv Z) (jy Z (jmv Z) (jy Z (jix U22 Z3 d6 Z Z Z (by omega)) (jy Z (jlI (dix d6 k15 (by omega)) O3 Z) (jy Z (jmv Z) (jy Z (jmv Z) (jy Z (jmv Z) (jy Z (jlg U22 k0 Z) (jyo Z (jkr E47 Z Z (m3take_ct om380 (by omega) (↑(List.length ((stand3 (fnM mh) (ix (pd3 (fnM mf) ↑b13) k15)) ++ ([m379.nx])))) (by first | decide | omega | (dsimp only; omega) | (simp only [fnM]; omega))) (dc d8 dn) (kc k1 (kc k1 (kc k1 kn))) ⟨tO9 om380.1,om380.2⟩ fun m392 hm392 om392 bm392 => ?_))))))))))
 have w392_0 : IntKind.i64.wrap (tVV (↑(List.length ((stand3 (fnM mh) (ix (pd3 (fnM mf) ↑b13) k15)) ++ ([m379.nx])))) m380) = tVV (↑(List.length ((stand3 (fnM mh) (ix (pd3 (fnM mf) ↑b13) k15)) ++ ([m379.nx])))) m380 := (IntWalk.i64_in _ (by have h9 := @tV9 (↑(List.length ((stand3 (fnM mh) (ix (pd3 (fnM mf) ↑b13) k15)) ++ ([m379.nx])))) (by omega) m380; omega))
 have tr392 := @tV9 (↑(List.length ((stand3 (fnM mh) (ix (pd3 (fnM mf) ↑b13) k15)) ++ ([m379.nx])))) (by omega) m380
 clear bm380
 refine jyn d0 (kc k3 kn) (jy Z (jig (i := (Int.toNat (tVV (↑(List.length ((stand3 (fnM mh) (ix (pd3 (fnM mf) ↑b13) k15)) ++ ([m379.nx])))) m380))) U22 Z3 k0 Z Z (by omega) (by first | omega | (simp <;> omega))) (jy Z (jgI k0 (by first | omega | (simp <;> omega)) O3 Z) (jy Z (jbu (v := .agg #[.int .i64 (ix (pd3 (fnM mf) ↑b13) k15),.int .i64 (ix ((stand3 (fnM mh) (ix (pd3 (fnM mf) ↑b13) k15)) ++ ([m379.nx])) (Int.toNat (tVV (↑(List.length ((stand3 (fnM mh) (ix (pd3 (fnM mf) ↑b13) k15)) ++ ([m379.nx])))) m380)))]) Z (fun _ => by kernel_rfl)) (jyo Z (jlit (r := rIn) (l := [⟨ix (pd3 (fnM mf) ↑b13) k15,ix ((stand3 (fnM mh) (ix (pd3 (fnM mf) ↑b13) k15)) ++ ([m379.nx])) (Int.toNat (tVV (↑(List.length ((stand3 (fnM mh) (ix (pd3 (fnM mf) ↑b13) k15)) ++ ([m379.nx])))) m380))⟩]) U63 I111 (by decide) Z Z Z (lA (rIn.M (m := ⟨ix (pd3 (fnM mf) ↑b13) k15,ix ((stand3 (fnM mh) (ix (pd3 (fnM mf) ↑b13) k15)) ++ ([m379.nx])) (Int.toNat (tVV (↑(List.length ((stand3 (fnM mh) (ix (pd3 (fnM mf) ↑b13) k15)) ++ ([m379.nx])))) m380))⟩) (c := ()) (wad (dix d8 k15 (by omega))) (wgl (i := (Int.toNat (tVV (↑(List.length ((stand3 (fnM mh) (ix (pd3 (fnM mf) ↑b13) k15)) ++ ([m379.nx])))) m380))) k3 (by omega))) ln) fun g396 => jyn d0 (kc k4 kn) (jyo Z (jfz k0 (by (try simp) <;> omega) (japl U63 I111 (by decide) Z k4 Z Z d0 (by (try simp) <;> omega) fun v397 w86 => jyn d1 (kc k4 kn) (jy Z (jas Z) ?_)))))))))
 refine jyd (jbn (jx (jr (jm Z (js (jadd Z Z (by omega)) (ja Z (jn ?_)))))))
 exact jag (k15 + 1,v397,li ++ ([⟨ix (pd3 (fnM mf) ((b13 : Nat) : Int)) k15,ix ((stand3 (fnM mh) (ix (pd3 (fnM mf) ((b13 : Nat) : Int)) k15)) ++ ([m379.nx])) (Int.toNat (tVV (((List.length ((stand3 (fnM mh) (ix (pd3 (fnM mf) ((b13 : Nat) : Int)) k15)) ++ ([m379.nx])) : Nat) : Int)) m380))⟩]),m392,ua380,qs380) ⟨by dsimp only; omega,by dsimp only; simp only [hm379,hm380,hm392]; first | exact hph15 | exact (pl_const (m := wordS mh)).trans hph15,by simp [hlil],by dsimp only; rw [hR15,show (pd3 (fnM mf) b13).length - k15 = ((pd3 (fnM mf) b13).length - (k15 + 1)) + 1 by omega,inS,show inX (ix (pd3 (fnM mf) b13) k15) mh = (⟨ix (pd3 (fnM mf) ((b13 : Nat) : Int)) k15,ix ((stand3 (fnM mh) (ix (pd3 (fnM mf) ((b13 : Nat) : Int)) k15)) ++ ([m379.nx])) (Int.toNat (tVV (((List.length ((stand3 (fnM mh) (ix (pd3 (fnM mf) ((b13 : Nat) : Int)) k15)) ++ ([m379.nx])) : Nat) : Int)) m380))⟩,m392) from by (unfold inX; first | (rw [if_pos hz]; simp [List.eq_nil_of_length_eq_zero hz,hm379,hm380,hm392]; done) | (rw [if_neg hz]; simp only [hm379,hm380,hm392]; done) | (rw [if_neg hz]; simp only [hm379,hm380,hm392]; rfl))],om392.mono (by omega)⟩ (dc d10 (dc d11 dn)) (kc k0 (kc k2 (kc k3 (kd (kc k1 kn))))) ⟨Z,Z,Z,Z,Z,Z,Z,Z,eqI (by omega),trivial⟩
 have hz : ¬ (stand3 (fnM mh) (ix (pd3 (fnM mf) b13) k15)).length = 0 := by omega
 refine jsk (jx (jany false (.a 0 (.a 1 (.a 2 (.a 3 (.a 4 (.a 5 (.a 6 (.a 7 (.a 8 (.o 9 (.a 10 (.a 11 (.a 12 (.o 13 (.o 14 (.a 15 .e)))))))))))))))) Mixed (by kernel_rfl) (kc k0 kn) fun F87 => jy Z (jmv Z) (jy Z (jmv Z) (jy Z (jmv Z) (jy Z (jix U22 Z3 d0 Z Z Z (by omega)) (jy Z (jlI (dix d0 k15 (by omega)) O3 Z) (jy Z (jmv Z) (jy Z (jmv Z) (jy Z (jmv Z) (jy Z (jlg U22 k0 Z) ?_))))))))))
 refine jyo Z (jkr E47 Z Z (m3take_ct okL15 (by omega) (↑(List.length (stand3 (fnM mh) (ix (pd3 (fnM mf) ↑b13) k15)))) (by first | decide | omega | (dsimp only; omega) | (simp only [fnM]; omega))) (dc d2 dn) (kc k4 (kc k4 (kc k1 kn))) ⟨tO9 okL15.1,okL15.2⟩ fun m392 hm392 om392 bm392 => ?_)
 have w392_0 : IntKind.i64.wrap (tVV (↑(List.length (stand3 (fnM mh) (ix (pd3 (fnM mf) ↑b13) k15)))) mh) = tVV (↑(List.length (stand3 (fnM mh) (ix (pd3 (fnM mf) ↑b13) k15)))) mh := (IntWalk.i64_in _ (by have h9 := @tV9 (↑(List.length (stand3 (fnM mh) (ix (pd3 (fnM mf) ↑b13) k15)))) (by omega) mh; omega))
 have tr392 := @tV9 (↑(List.length (stand3 (fnM mh) (ix (pd3 (fnM mf) ↑b13) k15)))) (by omega) mh
 clear bdL15
 refine jyn d0 (kc k3 kn) (jy Z (jig (i := (Int.toNat (tVV (↑(List.length (stand3 (fnM mh) (ix (pd3 (fnM mf) ↑b13) k15)))) mh))) U22 Z3 k0 Z Z (by omega) (by omega)) (jy Z (jgI k0 (by omega) O3 Z) (jy Z (jbu (v := .agg #[.int .i64 (ix (pd3 (fnM mf) ↑b13) k15),.int .i64 (ix (stand3 (fnM mh) (ix (pd3 (fnM mf) ↑b13) k15)) (Int.toNat (tVV (↑(List.length (stand3 (fnM mh) (ix (pd3 (fnM mf) ↑b13) k15)))) mh)))]) Z (fun _ => by kernel_rfl)) (jyo Z (jlit (r := rIn) (l := [⟨ix (pd3 (fnM mf) ↑b13) k15,ix (stand3 (fnM mh) (ix (pd3 (fnM mf) ↑b13) k15)) (Int.toNat (tVV (↑(List.length (stand3 (fnM mh) (ix (pd3 (fnM mf) ↑b13) k15)))) mh))⟩]) U63 I111 (by decide) Z Z Z (lA (rIn.M (m := ⟨ix (pd3 (fnM mf) ↑b13) k15,ix (stand3 (fnM mh) (ix (pd3 (fnM mf) ↑b13) k15)) (Int.toNat (tVV (↑(List.length (stand3 (fnM mh) (ix (pd3 (fnM mf) ↑b13) k15)))) mh))⟩) (c := ()) (wad (dix d2 k15 (by omega))) (wgl (i := (Int.toNat (tVV (↑(List.length (stand3 (fnM mh) (ix (pd3 (fnM mf) ↑b13) k15)))) mh))) k3 (by omega))) ln) fun g396_90 => jyn d0 (kc k4 kn) (jyo Z (jfz k0 (by (try simp) <;> omega) (japl U63 I111 (by decide) Z k4 Z Z d0 (by (try simp) <;> omega) fun v397_93 w94 => jyn d1 (kc k4 kn) (jy Z (jas Z) ?_)))))))))
 refine jyd (jbn (jx (jr (jm Z (js (jadd Z Z (by omega)) (ja Z (jn ?_)))))))
 exact jag (k15 + 1,v397_93,li ++ ([⟨ix (pd3 (fnM mf) ((b13 : Nat) : Int)) k15,ix (stand3 (fnM mh) (ix (pd3 (fnM mf) ((b13 : Nat) : Int)) k15)) (Int.toNat (tVV (((List.length (stand3 (fnM mh) (ix (pd3 (fnM mf) ((b13 : Nat) : Int)) k15)) : Nat) : Int)) mh))⟩]),m392,al15,qs15) ⟨by dsimp only; omega,by dsimp only; simp only [hm392]; first | exact hph15 | exact (pl_const (m := wordS mh)).trans hph15,by simp [hlil],by dsimp only; rw [hR15,show (pd3 (fnM mf) b13).length - k15 = ((pd3 (fnM mf) b13).length - (k15 + 1)) + 1 by omega,inS,show inX (ix (pd3 (fnM mf) b13) k15) mh = (⟨ix (pd3 (fnM mf) ((b13 : Nat) : Int)) k15,ix (stand3 (fnM mh) (ix (pd3 (fnM mf) ((b13 : Nat) : Int)) k15)) (Int.toNat (tVV (((List.length (stand3 (fnM mh) (ix (pd3 (fnM mf) ((b13 : Nat) : Int)) k15)) : Nat) : Int)) mh))⟩,m392) from by (unfold inX; first | (rw [if_pos hz]; simp [List.eq_nil_of_length_eq_zero hz,hm392]; done) | (rw [if_neg hz]; simp only [hm392]; done) | (rw [if_neg hz]; simp only [hm392]; rfl))],om392.mono (by omega)⟩ (dc d4 (dc d5 dn)) (kc k0 (kc k2 (kc k3 (kd (kc k1 kn))))) ⟨Z,Z,Z,Z,Z,Z,Z,Z,eqI (by omega),trivial⟩
 have hE15 : inS (pd3 (fnM mf) b13) (pd3 (fnM mf) b13).length 0 [] mg = (li,mh) := by rw [hR15,show (pd3 (fnM mf) b13).length - k15 = 0 by omega]; rfl
 have hpi : (ix mh.bs b13).Phis.length = (ix ph b13).toNat := by rw [pl_get (hph15.trans (hpg.trans (hpf.trans hpu))) b13,hOK2.1 b13,if_pos (by omega)]
 refine jex (jtx (jtx (jbh (jx (jr (jm Z (js (jnil Z) (js (jf F108_2 Z) (js (jf F49_1 Z) (js (jl k3 O47 Z Z) (jm Z ?_)))))))))))
 refine js (jbi' (j := b13) U47 Z62 hvb7 Z Z Z (by omega)) (js (jf F62_0 Z) (js (jbh0 k1 (by omega) O57 Z Z) (jm Z (jm Z (js (jbi0 (i := i14) U57 Z65 k1 (by omega) Z Z Z (by omega)) (js (jf F65_1 Z) (jfz k0 (by omega) (jbf0 b13 k0 (by omega) (jsp (i := i14) (off := 1) (a := { (ix (ix mh.bs b13).Phis i14) with In := li }) k0 (by omega) Z63 Z Z Z w69.one (poIn d0) ?_)))))))))
 refine jbw0 (b' := { (ix mh.bs b13) with Phis := List.set (ix mh.bs b13).Phis i14 { (ix (ix mh.bs b13).Phis i14) with In := li } }) (c := ?_) k0 k0 (by omega) Z Z
 refine jkn (c := 34000 + 200 * b13 + 60 * i14 + 6 * k15) ({ mh with bs := List.set mh.bs b13 { (ix mh.bs b13) with Phis := List.set (ix mh.bs b13).Phis i14 { (ix (ix mh.bs b13).Phis i14) with In := li } } }) (kc k2 (kc k2 (kc k0 kn))) ⟨(okM.setb (d := 0) okL15.1 (by dsimp only; rw [List.length_set]; exact Nat.le_refl _)),okL15.2⟩ fun ms96 hms96 oms96 bms96 => ?_
 clear bdL15
 refine jn (jbn (jx (jr (jm Z (js (jadd Z Z (by omega)) (ja Z (jn ?_)))))))
 exact jag (i14 + 1,ms96,al15,qs15) ⟨by dsimp only; omega,by dsimp only; rw [hms96]; exact (pl_putIn (b := b13) (i := i14) (l := li) (m := mh)).trans (hph15.trans hpg),by dsimp only; rw [hR14,show (Int.toNat (ix ph b13)) - i14 = ((Int.toNat (ix ph b13)) - (i14 + 1)) + 1 by omega,inP,hE15,hms96]; rfl,oms96.mono (by omega)⟩ (dc d1 (dc d2 dn)) (kc k2 (kc k2 (kd (kc k0 kn)))) ⟨Z,Z,Z,Z,Z,Z,eqI (by omega),trivial⟩
 have hE14 : inP (pd3 (fnM mf) b13) b13 (Int.toNat (ix ph b13)) 0 mf = mg := by rw [hR14,show (Int.toNat (ix ph b13)) - i14 = 0 by omega]; rfl
 refine jex (jtx (jtx (jbh (jbn (jx (jr (jm Z (js (jadd Z Z (by omega)) (ja Z (jn ?_))))))))))
 exact jag (b13 + 1,mg,al14,qs14) ⟨by dsimp only; omega,by dsimp only; rw [hpg,hpf],by dsimp only; rw [hR13,show (Int.toNat (nn)) - b13 = ((Int.toNat (nn)) - (b13 + 1)) + 1 by omega,finS,hE14],okL14.mono (by omega)⟩ (dc d1 dn) (kc k1 (kc k1 (kc k1 (kd kn)))) ⟨Z,Z,Z,Z,eqI (by omega),trivial⟩
 have hE13 : finS ph ((Int.toNat (nn)) - 1) 1 mu = mf := by rw [hR13,show (Int.toNat (nn)) - b13 = 0 by omega]; rfl
 refine jex (jtx (jtx (jbh (jx (jq (jr (jm Z (js (jnil Z) (js (jf F108_2 Z) (js (jla k1 A49 Z49 Z Z Z) (jsta k4 Z49 Z Z Z ⟨Z,Z,trivial⟩ (saf Z) ?_)))))))))))
 refine jn (jx (jrt (qbfz k4 (okL13.lens (by omega) (by omega)) ?_)))
 exact jrcA (val := vFunc) (b := ⟨mf.par,mf.bs⟩) (c := (.slice (some ⟨g56,0,none⟩) (Int.toNat nn) (Int.toNat nn))) Z Z k0 A49 Z49 Z (by have e0 : md0 s = ms3 := (by simp only [hmm0,hm36,hms2,hms3]; rfl); have e1 : mdN s = nn := (by rw [mdN,e0]; exact hnn); have e2 : mdT s = targM nn m49 := (by rw [mdT,e1,e0,← hm49]); have eB : mdB s = mq := (by rw [mdB,e2,e1,← hm53,← hms6]; exact hE1); have eH : mdH s = (ph,mr) := (by rw [mdH,e1,eB]; exact hE2); have eD : mdD s = (dz,mu) := (by rw [mdD,e1,e2,eH]; exact hE4); have eF : mdF s = mf := (by rw [mdF,eH,e1,eD]; exact hE13); show fnM (mdF s) = _; rw [eF]; rfl) (rFunc.M (m := ⟨mf.par,mf.bs⟩) (c := (.slice (some ⟨g56,0,none⟩) (Int.toNat nn) (Int.toNat nn))) d0 (wp (IntWalk.i64_in mf.par (by omega))))
def goodI (i : D.Ins) : Prop := (0 ≤ i.Op ∧ i.Op ≤ 1000) ∧ (i.Op = 1 ∨ i.Op = 17 ∨ (i.Op = 15 ∧ 1 ≤ i.Args.length) ∨ 2 ≤ i.Args.length)
def goodT (t : D.Term) : Prop := (t.Kind ≠ 2 ∨ (1 ≤ t.Args.length ∧ 2 ≤ t.To.length)) ∧ (t.Kind ≠ 3 ∨ 1 ≤ t.Args.length)
def goodB (b : D.Block) : Prop := (∀ i ∈ b.Ins,goodI i) ∧ goodT b.Term
def goodF (f : D.Func) : Prop := ∀ b ∈ f.Blocks,goodB b
theorem goodF.ins {f : D.Func} (h : goodF f) {b j : Nat} (hb : b < f.Blocks.length) (hj : j < (ix f.Blocks b).Ins.length) : (0 ≤ (ix (ix f.Blocks b).Ins j).Op ∧ (ix (ix f.Blocks b).Ins j).Op ≤ 1000) ∧ ((ix (ix f.Blocks b).Ins j).Op = 1 ∨ (ix (ix f.Blocks b).Ins j).Op = 17 ∨ ((ix (ix f.Blocks b).Ins j).Op = 15 ∧ 1 ≤ (ix (ix f.Blocks b).Ins j).Args.length) ∨ 2 ≤ (ix (ix f.Blocks b).Ins j).Args.length) :=
 (h _ (ix_mem hb)).1 _ (ix_mem hj)
def goodM (m : Mk) : Prop := ∀ b ∈ m.bs,goodB b
theorem goodB0 : goodB default := ⟨fun _ h => (List.not_mem_nil h).elim,⟨.inl (by decide),.inl (by decide)⟩⟩
theorem goodM.ix {m : Mk} (h : goodM m) (j : Nat) : goodB (ix m.bs j) := by
 by_cases hj : j < m.bs.length
 · exact h _ (ix_mem hj)
 · have : JE.ix m.bs j = default := by simp [JE.ix,hj]
   rw [this]; exact goodB0
theorem goodM.set {m : Mk} (h : goodM m) {j : Nat} {x : D.Block} (hx : goodB x) : goodM { m with bs := m.bs.set j x } := fun b hb => by
 rcases List.mem_or_eq_of_mem_set hb with h1 | h1
 · exact h b h1
 · exact h1 ▸ hx
section
variable {m : Mk} {b : Int}
end
def fgM (nb c : Nat) (m : Mk) : Prop := okM nb c m ∧ goodM m
theorem fgM.mono {nb c c' : Nat} {m : Mk} (h : fgM nb c m) (hc : c ≤ c') : fgM nb c' m := ⟨h.1.mono hc,h.2⟩
def kzB (b : D.Block) : Prop := b.Ins = [] ∧ b.Term.Kind = 0
theorem kzB.good {b : D.Block} (h : kzB b) : goodB b := ⟨fun i hi => (by rw [h.1] at hi; cases hi),⟨.inl (by rw [h.2]; decide),.inl (by rw [h.2]; decide)⟩⟩
theorem E31 : Ent Tryz.prog 31 := ⟨_,Tryz.func31,by kernel_rfl,by kernel_rfl⟩
def oneM (p : Int) (e : D.End) (l : List D.Mach) : D.MFunc := ⟨p,[⟨[],l,e⟩]⟩
attribute [local irreducible] runM funcM oneM
end Go.Proofs.YtmfkkodnghambaaGreat
namespace Go.Proofs.YtmfkkodnghambaaGreat
open Go.JE
theorem E34 : Ent Tryz.prog 34 := ⟨_,Tryz.func34,by kernel_rfl,by kernel_rfl⟩
end Go.Proofs.YtmfkkodnghambaaGreat
