/- Walks. Conditions: each contract names its own. -/
import Derived.Test.YtcceglmmpbdhiaaM5
import Derived.Test.YtcceglmmpbdhiaaWO
namespace Go.Proofs.Ytcceglmmpbdhiaa
set_option linter.unusedVariables false
set_option linter.unusedSimpArgs false
set_option linter.unusedSectionVars false
set_option maxRecDepth 8000
open Go.JE

theorem Try.ent18 : Ent Try.prog 18 := ⟨_, Try.func18, by kernel_rfl, by kernel_rfl⟩
-- jacquard/jacquardlaw11.MovesTurned: function 5
theorem movesTurned_ct {F : PH} {H : Heap} (hin : InH F H) {a0 : Value} {s : List Int} {N0 : Nat} (p0 : (rLn N0 (rI .i64)).rv F a0 s) (by_ : Int) (wi : Bool) (ww1 : IntKind.i64.wrap by_ = by_) :
    Ct Try.prog 5 #[a0, .int .i64 by_, .bool wi] H (fun v H' => v = .bool ((fun _ _ _ => true) s by_ wi) ∧ Kp H.size H H') := by
  have q0 := rL.len2 p0
  have hkp := Kp.refl H.size H
  have hx := PH.ext.refl (H := H) F
  refine Ct.enter (args := [a0, .int .i64 by_, .bool wi]) Try.func5 rfl rfl rfl (fun w0 hw0 => ?_)
  refine CF.seq (CF.region (LF.step (OpOk.assign rfl) (LF.nil (PF.next (CF.seq (CF.region ?_))))))
  refine LF.call (OpCall.fn Try.ent12 rfl rfl) (awake_ct hin ) ?_
  rintro _ H16 ⟨rfl, k16⟩
  have zk16 := k16.1
  replace hin := hin.kp k16
  replace hkp := hkp.trans (k16.mono hkp.1)
  refine LF.step (OpOk.assign rfl) (LF.nil (PF.next (CF.seq (CF.region (LF.step (OpOk.move rfl) ?_)))))
  refine LF.call (OpCall.fn Try.ent13 rfl rfl) (made_ct hin p0) ?_
  rintro v18 H18 ⟨F18, x18, i18, k18, h18⟩
  have zk18 := k18.1
  replace hx := hx.trans x18 hkp.1
  replace hkp := hkp.trans (k18.mono hkp.1)
  have l18 := hkp.1
  have le0 := x18.1
  have hin := i18
  have h18q := rL.len2 h18
  refine LF.step (OpOk.assign rfl) (LF.nil (PF.next (CF.seq (CF.seq (CF.region (LF.step (OpOk.move rfl) ?_))))))
  refine LF.step (OpOk.lenL Try.underlying22 h18 rfl) ?_
  refine LF.step (OpOk.eql rfl rfl) ?_
  refine LF.nil (PF.next ?_)
  refine CF.if rfl (fun hc1 => ?_) (fun hc1 => ?_)
  refine CF.seq (CF.region (LF.step (OpOk.move rfl) (LF.step (OpOk.assign rfl) (LF.nil (PF.next (CF.ret (PF.thenRet ?_)))))))
  have hm : (fun _ _ _ => true) s by_ wi = true := by
    first | rfl | exact (turned_law s _ (.inr rfl)).symm | exact (turned_law s _ (.inl (by decide))).symm
  exact PF.ret1 rfl rfl ⟨by first | (rw [hm] <;> rfl) | exact (congrArg Value.bool hm).symm, hkp⟩
  refine CF.skip (PF.next (CF.seq (CF.region (LF.step (OpOk.assign rfl) (LF.nil (PF.next (CF.seq (CF.seq (CF.region (LF.step (OpOk.move rfl) (LF.nil ?_)))))))))))
  refine PF.next ?_
  refine CF.if rfl (fun hc2 => ?_) (fun hc2 => ?_)
  refine CF.region (LF.step (OpOk.assign rfl) (LF.nil (PF.next (CF.seq (CF.region (LF.step (OpOk.move rfl) (LF.step (OpOk.move rfl) ?_)))))))
  refine LF.step (OpOk.lenL Try.underlying22 h18 rfl) ?_
  refine LF.call (OpCall.fn Try.ent18 rfl rfl) (rest_ct hin by_ (↑(List.length (madeM s))) (by first | omega | decide | assumption | (have := made_len s; omega) | (simp only [List.length_append, List.length_drop, List.length_take]; have := made_len s; omega))) ?_
  rintro _ _ ⟨rfl, rfl⟩
  have hml := made_len s
  have hrr := rest_rng (x := by_) (n := ((madeM s).length : Int)) (by omega) (by have := made_len s; omega)
  refine LF.step (OpOk.assign rfl) (LF.nil (PF.next (CF.seq ?_)))
  have leS0 := le0
  refine CF.any (z := false) (fun H' => InH F18 H' ∧ True) Try.mixed ?_
  refine AF.take 1 rfl (by kernel_rfl) (by kernel_rfl) (by kernel_rfl) ⟨hin, trivial⟩ (fun _ ⟨hin, _⟩ => OpOk.move rfl) ?_
  refine AF.take 2 rfl (by kernel_rfl) (by kernel_rfl) (by kernel_rfl) ⟨hin, trivial⟩ (fun _ ⟨hin, _⟩ => OpOk.move rfl) ?_
  refine AF.take 3 rfl (by kernel_rfl) (by kernel_rfl) (by kernel_rfl) ⟨hin, trivial⟩ (fun _ ⟨hin, _⟩ => OpOk.sliceLoL (lo := (Int.toNat (restM by_ (List.length (madeM s) : Int)))) Try.underlying22 Try.sz31 h18 hin rfl rfl (by omega) (by omega)) ?_
  refine AF.take 5 rfl (by kernel_rfl) (by kernel_rfl) (by kernel_rfl) ⟨hin, trivial⟩ (fun _ ⟨hin, _⟩ => OpOk.move rfl) ?_
  refine AF.take 6 rfl (by kernel_rfl) (by kernel_rfl) (by kernel_rfl) ⟨hin, trivial⟩ (fun _ ⟨hin, _⟩ => OpOk.move rfl) ?_
  refine AF.take 7 rfl (by kernel_rfl) (by kernel_rfl) (by kernel_rfl) ⟨hin, trivial⟩ (fun _ ⟨hin, _⟩ => OpOk.sliceHiL (hi := (Int.toNat (restM by_ (List.length (madeM s) : Int)))) Try.underlying22 Try.sz31 h18 hin rfl rfl (by omega) (by omega)) ?_
  refine AF.one 0 (by kernel_rfl) ?_
  refine AFN.chg rfl (OpCh.litL (F := F18) (r := rMove) (l := []) (us := []) (cs := []) Try.underlying22 Try.info31 (by decide) rfl rfl rfl trivial) ?_
  rintro _ H28 ⟨g28, rfl, e28, s28, k28, x28⟩
  have l28 := hkp.1
  replace x28 := (x28 hin).base l28
  have zk28 := k28.1
  replace hin := hin.kp k28
  replace hkp := hkp.trans (k28.mono hkp.1)
  refine ⟨⟨hin, trivial⟩, ?_⟩
  refine AF.one 4 (by kernel_rfl) ?_
  refine AFN.chg rfl (OpCh.appL (r := rMove) Try.underlying22 Try.info31 (by decide) rfl rfl rfl x28 (rL.lo h18 (Int.toNat (restM by_ (List.length (madeM s) : Int))) (by omega) (by omega)) hin (by first | (simp only [List.length_append, List.length_take, List.length_drop, List.length_nil, List.length_cons, List.length_set, List.length_replicate]; omega) | (simp; done) | (simp; omega) | omega) (by first | omega | exact hkp.1)) ?_
  rintro v32 H32 ⟨x32, gb32, ob32⟩
  replace hin := hin.grown gb32 x28.no
  replace hkp := gb32.kp hkp (Nat.le_refl _) (fun k0 hk0 => (x28.blk k0 hk0).1)
  rw [List.nil_append] at x32
  refine ⟨⟨hin, trivial⟩, ?_⟩
  refine AF.one 8 (by kernel_rfl) ?_
  refine AFN.chg rfl (OpCh.appL (r := rMove) Try.underlying22 Try.info31 (by decide) rfl rfl rfl x32 (rL.hi h18 (Int.toNat (restM by_ (List.length (madeM s) : Int))) (by omega) (by omega)) hin (by first | (simp only [List.length_append, List.length_take, List.length_drop, List.length_nil, List.length_cons, List.length_set, List.length_replicate]; omega) | (simp; done) | (simp; omega) | omega) (by first | omega | exact hkp.1)) ?_
  rintro v36 H36 ⟨x36, gb36, ob36⟩
  replace hin := hin.grown gb36 x32.no
  replace hkp := gb36.kp hkp (Nat.le_refl _) (fun k0 hk0 => (x32.blk k0 hk0).1)
  refine ⟨⟨hin, trivial⟩, ?_⟩
  refine AF.take 9 rfl (by kernel_rfl) (by kernel_rfl) (by kernel_rfl) ⟨hin, trivial⟩ (fun _ ⟨hin, _⟩ => OpOk.assign rfl) ?_
  refine AF.done (by kernel_rfl) ?_
  refine PF.next (CF.seq (CF.region (LF.step (OpOk.move rfl) (LF.step (OpOk.move rfl) ?_))))
  refine LF.call (OpCall.fn Try.ent17 rfl rfl) (pOrder_ct hin h18 15 10 (by first | omega | decide | assumption | (have := made_len s; omega) | (simp only [List.length_append, List.length_drop, List.length_take]; have := made_len s; omega)) (by decide : IntKind.i64.wrap 15 = 15) (by decide : IntKind.i64.wrap 10 = 10)) ?_
  rintro _ H40 ⟨F40, x40, i40, k40, v400, rfl, h400⟩
  have zk40 := k40.1
  replace hx := hx.trans x40 hkp.1
  replace hkp := hkp.trans (k40.mono hkp.1)
  have l40 := hkp.1
  replace x36 := (x36.ext x40).kp k40
  replace le0 := le0.trans x40.1
  have le1 := x40.1
  have hin := i40
  have h400q := rL.len2 h400
  refine LF.step (OpOk.move rfl) ?_
  refine LF.step (OpOk.extract (v := v400) rfl rfl) ?_
  refine LF.step (OpOk.extract (v := .int .i64 ((orderR (madeM s) 15 10).2)) rfl rfl) ?_
  refine LF.step (OpOk.assign rfl) (LF.step (OpOk.assign rfl) (LF.nil (PF.next (CF.seq (CF.region (LF.step (OpOk.move rfl) (LF.step (OpOk.move rfl) ?_)))))))
  obtain ⟨Fz1, hxz1, lez1, hinz1, noz1, hrz1⟩ := x36.freezeX hin hx (Nat.le_refl _) (by first | (simp only [List.length_append, List.length_take, List.length_drop, List.length_nil, List.length_cons, List.length_set, List.length_replicate]; omega) | (simp; done) | (simp; omega) | omega)
  replace hin := hinz1
  replace hx := hxz1
  replace le0 := le0.trans lez1
  replace le1 := le1.trans lez1
  have le2 := lez1
  refine LF.call (OpCall.fn Try.ent17 rfl rfl) (pOrder_ct hin hrz1 15 10 (by first | omega | decide | assumption | (have := made_len s; omega) | (simp only [List.length_append, List.length_drop, List.length_take]; have := made_len s; omega)) (by decide : IntKind.i64.wrap 15 = 15) (by decide : IntKind.i64.wrap 10 = 10)) ?_
  rintro _ H46 ⟨F46, x46, i46, k46, v460, rfl, h460⟩
  have zk46 := k46.1
  replace hx := hx.trans x46 hkp.1
  replace hkp := hkp.trans (k46.mono hkp.1)
  have l46 := hkp.1
  replace le0 := le0.trans x46.1
  replace le1 := le1.trans x46.1
  replace le2 := le2.trans x46.1
  have le3 := x46.1
  have hin := i46
  have h460q := rL.len2 h460
  refine LF.step (OpOk.move rfl) ?_
  refine LF.step (OpOk.extract (v := v460) rfl rfl) ?_
  refine LF.step (OpOk.extract (v := .int .i64 ((orderR ((List.drop (Int.toNat (restM by_ (List.length (madeM s) : Int))) (madeM s)) ++ (List.take (Int.toNat (restM by_ (List.length (madeM s) : Int))) (madeM s))) 15 10).2)) rfl rfl) ?_
  refine LF.step (OpOk.assign rfl) (LF.step (OpOk.assign rfl) (LF.nil (PF.next (CF.seq (CF.region (LF.step (OpOk.move rfl) (LF.step (OpOk.move rfl) ?_)))))))
  refine LF.gstepK rfl rfl (.t _) (OpOk.move rfl) ?_
  refine LF.gstepK rfl rfl (.t _) (OpOk.eql rfl rfl) ?_
  refine LF.step (OpOk.pickAnd rfl rfl) ?_
  refine LF.step (OpOk.move rfl) ?_
  refine LF.gstep rfl rfl (.t _) (fun hg => OpOk.move rfl) ?_
  refine LF.gstep rfl rfl (.t _) (fun hg => OpOk.eql (evg rfl hg) rfl) ?_
  refine LF.step (OpOk.pickAnd rfl rfl) ?_
  refine LF.step (OpOk.move rfl) ?_
  refine LF.gstep rfl rfl (.t _) (fun hg => OpOk.move rfl) ?_
  refine LF.gstep rfl rfl (.t _) (fun hg => OpOk.move rfl) ?_
  refine LF.gcallR rfl rfl (.t _) (fun hg => OpCall.fn Try.ent19 rfl (evl2 (evg rfl hg) (evg rfl hg))) (fun hg => same_ct hin (h400.up le2) h460) (fun _ _ h => h.1) ?_
  intro Hq2 zq2
  have kq2 := gkp2 zq2
  have zkq2 := kq2.1
  replace hin := hin.kp kq2
  replace hkp := hkp.trans (kq2.mono hkp.1)
  clear zq2
  refine LF.step (OpOk.pickAnd rfl rfl) ?_
  refine LF.step (OpOk.assign rfl) (LF.nil (PF.next (CF.ret ?_)))
  have hm : (fun _ _ _ => true) s by_ wi = (((decide ((orderR (madeM s) 15 10).2 = 0)) && (decide ((orderR ((List.drop (Int.toNat (restM by_ (List.length (madeM s) : Int))) (madeM s)) ++ (List.take (Int.toNat (restM by_ (List.length (madeM s) : Int))) (madeM s))) 15 10).2 = 0))) && (sameM ((orderR (madeM s) 15 10).1) ((orderR ((List.drop (Int.toNat (restM by_ (List.length (madeM s) : Int))) (madeM s)) ++ (List.take (Int.toNat (restM by_ (List.length (madeM s) : Int))) (madeM s))) 15 10).1))) := by
    first | rfl | exact (turned_law s _ (.inr rfl)).symm | exact (turned_law s _ (.inl (by decide))).symm
  exact PF.ret1 rfl rfl ⟨by first | (rw [hm] <;> rfl) | exact (congrArg Value.bool hm).symm, hkp⟩
  refine CF.skip (PF.next (CF.seq (CF.region (LF.step (OpOk.move rfl) (LF.step (OpOk.move rfl) ?_)))))
  refine LF.step (OpOk.lenL Try.underlying22 h18 rfl) ?_
  refine LF.call (OpCall.fn Try.ent18 rfl rfl) (rest_ct hin by_ (↑(List.length (madeM s))) (by first | omega | decide | assumption | (have := made_len s; omega) | (simp only [List.length_append, List.length_drop, List.length_take]; have := made_len s; omega))) ?_
  rintro _ _ ⟨rfl, rfl⟩
  have hml := made_len s
  have hrr := rest_rng (x := by_) (n := ((madeM s).length : Int)) (by omega) (by have := made_len s; omega)
  refine LF.step (OpOk.assign rfl) (LF.nil (PF.next (CF.seq ?_)))
  have leS0 := le0
  refine CF.any (z := false) (fun H' => InH F18 H' ∧ True) Try.mixed ?_
  refine AF.take 1 rfl (by kernel_rfl) (by kernel_rfl) (by kernel_rfl) ⟨hin, trivial⟩ (fun _ ⟨hin, _⟩ => OpOk.move rfl) ?_
  refine AF.take 2 rfl (by kernel_rfl) (by kernel_rfl) (by kernel_rfl) ⟨hin, trivial⟩ (fun _ ⟨hin, _⟩ => OpOk.move rfl) ?_
  refine AF.take 3 rfl (by kernel_rfl) (by kernel_rfl) (by kernel_rfl) ⟨hin, trivial⟩ (fun _ ⟨hin, _⟩ => OpOk.sliceLoL (lo := (Int.toNat (restM by_ (List.length (madeM s) : Int)))) Try.underlying22 Try.sz31 h18 hin rfl rfl (by omega) (by omega)) ?_
  refine AF.take 5 rfl (by kernel_rfl) (by kernel_rfl) (by kernel_rfl) ⟨hin, trivial⟩ (fun _ ⟨hin, _⟩ => OpOk.move rfl) ?_
  refine AF.take 6 rfl (by kernel_rfl) (by kernel_rfl) (by kernel_rfl) ⟨hin, trivial⟩ (fun _ ⟨hin, _⟩ => OpOk.move rfl) ?_
  refine AF.take 7 rfl (by kernel_rfl) (by kernel_rfl) (by kernel_rfl) ⟨hin, trivial⟩ (fun _ ⟨hin, _⟩ => OpOk.sliceHiL (hi := (Int.toNat (restM by_ (List.length (madeM s) : Int)))) Try.underlying22 Try.sz31 h18 hin rfl rfl (by omega) (by omega)) ?_
  refine AF.one 0 (by kernel_rfl) ?_
  refine AFN.chg rfl (OpCh.litL (F := F18) (r := rMove) (l := []) (us := []) (cs := []) Try.underlying22 Try.info31 (by decide) rfl rfl rfl trivial) ?_
  rintro _ H28 ⟨g28, rfl, e28, s28, k28, x28⟩
  have l28 := hkp.1
  replace x28 := (x28 hin).base l28
  have zk28 := k28.1
  replace hin := hin.kp k28
  replace hkp := hkp.trans (k28.mono hkp.1)
  refine ⟨⟨hin, trivial⟩, ?_⟩
  refine AF.one 4 (by kernel_rfl) ?_
  refine AFN.chg rfl (OpCh.appL (r := rMove) Try.underlying22 Try.info31 (by decide) rfl rfl rfl x28 (rL.lo h18 (Int.toNat (restM by_ (List.length (madeM s) : Int))) (by omega) (by omega)) hin (by first | (simp only [List.length_append, List.length_take, List.length_drop, List.length_nil, List.length_cons, List.length_set, List.length_replicate]; omega) | (simp; done) | (simp; omega) | omega) (by first | omega | exact hkp.1)) ?_
  rintro v32 H32 ⟨x32, gb32, ob32⟩
  replace hin := hin.grown gb32 x28.no
  replace hkp := gb32.kp hkp (Nat.le_refl _) (fun k0 hk0 => (x28.blk k0 hk0).1)
  rw [List.nil_append] at x32
  refine ⟨⟨hin, trivial⟩, ?_⟩
  refine AF.one 8 (by kernel_rfl) ?_
  refine AFN.chg rfl (OpCh.appL (r := rMove) Try.underlying22 Try.info31 (by decide) rfl rfl rfl x32 (rL.hi h18 (Int.toNat (restM by_ (List.length (madeM s) : Int))) (by omega) (by omega)) hin (by first | (simp only [List.length_append, List.length_take, List.length_drop, List.length_nil, List.length_cons, List.length_set, List.length_replicate]; omega) | (simp; done) | (simp; omega) | omega) (by first | omega | exact hkp.1)) ?_
  rintro v36 H36 ⟨x36, gb36, ob36⟩
  replace hin := hin.grown gb36 x32.no
  replace hkp := gb36.kp hkp (Nat.le_refl _) (fun k0 hk0 => (x32.blk k0 hk0).1)
  refine ⟨⟨hin, trivial⟩, ?_⟩
  refine AF.take 9 rfl (by kernel_rfl) (by kernel_rfl) (by kernel_rfl) ⟨hin, trivial⟩ (fun _ ⟨hin, _⟩ => OpOk.assign rfl) ?_
  refine AF.done (by kernel_rfl) ?_
  refine PF.next (CF.seq (CF.region (LF.step (OpOk.move rfl) (LF.step (OpOk.move rfl) ?_))))
  refine LF.call (OpCall.fn Try.ent17 rfl rfl) (pOrder_ct hin h18 (-1) 10 (by first | omega | decide | assumption | (have := made_len s; omega) | (simp only [List.length_append, List.length_drop, List.length_take]; have := made_len s; omega)) (by decide : IntKind.i64.wrap (-1) = (-1)) (by decide : IntKind.i64.wrap 10 = 10)) ?_
  rintro _ H40 ⟨F40, x40, i40, k40, v400, rfl, h400⟩
  have zk40 := k40.1
  replace hx := hx.trans x40 hkp.1
  replace hkp := hkp.trans (k40.mono hkp.1)
  have l40 := hkp.1
  replace x36 := (x36.ext x40).kp k40
  replace le0 := le0.trans x40.1
  have le1 := x40.1
  have hin := i40
  have h400q := rL.len2 h400
  refine LF.step (OpOk.move rfl) ?_
  refine LF.step (OpOk.extract (v := v400) rfl rfl) ?_
  refine LF.step (OpOk.extract (v := .int .i64 ((orderR (madeM s) (-1) 10).2)) rfl rfl) ?_
  refine LF.step (OpOk.assign rfl) (LF.step (OpOk.assign rfl) (LF.nil (PF.next (CF.seq (CF.region (LF.step (OpOk.move rfl) (LF.step (OpOk.move rfl) ?_)))))))
  obtain ⟨Fz3, hxz3, lez3, hinz3, noz3, hrz3⟩ := x36.freezeX hin hx (Nat.le_refl _) (by first | (simp only [List.length_append, List.length_take, List.length_drop, List.length_nil, List.length_cons, List.length_set, List.length_replicate]; omega) | (simp; done) | (simp; omega) | omega)
  replace hin := hinz3
  replace hx := hxz3
  replace le0 := le0.trans lez3
  replace le1 := le1.trans lez3
  have le2 := lez3
  refine LF.call (OpCall.fn Try.ent17 rfl rfl) (pOrder_ct hin hrz3 (-1) 10 (by first | omega | decide | assumption | (have := made_len s; omega) | (simp only [List.length_append, List.length_drop, List.length_take]; have := made_len s; omega)) (by decide : IntKind.i64.wrap (-1) = (-1)) (by decide : IntKind.i64.wrap 10 = 10)) ?_
  rintro _ H46 ⟨F46, x46, i46, k46, v460, rfl, h460⟩
  have zk46 := k46.1
  replace hx := hx.trans x46 hkp.1
  replace hkp := hkp.trans (k46.mono hkp.1)
  have l46 := hkp.1
  replace le0 := le0.trans x46.1
  replace le1 := le1.trans x46.1
  replace le2 := le2.trans x46.1
  have le3 := x46.1
  have hin := i46
  have h460q := rL.len2 h460
  refine LF.step (OpOk.move rfl) ?_
  refine LF.step (OpOk.extract (v := v460) rfl rfl) ?_
  refine LF.step (OpOk.extract (v := .int .i64 ((orderR ((List.drop (Int.toNat (restM by_ (List.length (madeM s) : Int))) (madeM s)) ++ (List.take (Int.toNat (restM by_ (List.length (madeM s) : Int))) (madeM s))) (-1) 10).2)) rfl rfl) ?_
  refine LF.step (OpOk.assign rfl) (LF.step (OpOk.assign rfl) (LF.nil (PF.next (CF.seq (CF.region (LF.step (OpOk.move rfl) (LF.step (OpOk.move rfl) ?_)))))))
  refine LF.gstepK rfl rfl (.t _) (OpOk.move rfl) ?_
  refine LF.gstepK rfl rfl (.t _) (OpOk.eql rfl rfl) ?_
  refine LF.step (OpOk.pickAnd rfl rfl) ?_
  refine LF.step (OpOk.move rfl) ?_
  refine LF.gstep rfl rfl (.t _) (fun hg => OpOk.move rfl) ?_
  refine LF.gstep rfl rfl (.t _) (fun hg => OpOk.eql (evg rfl hg) rfl) ?_
  refine LF.step (OpOk.pickAnd rfl rfl) ?_
  refine LF.step (OpOk.move rfl) ?_
  refine LF.gstep rfl rfl (.t _) (fun hg => OpOk.move rfl) ?_
  refine LF.gstep rfl rfl (.t _) (fun hg => OpOk.move rfl) ?_
  refine LF.gcallR rfl rfl (.t _) (fun hg => OpCall.fn Try.ent19 rfl (evl2 (evg rfl hg) (evg rfl hg))) (fun hg => same_ct hin (h400.up le2) h460) (fun _ _ h => h.1) ?_
  intro Hq4 zq4
  have kq4 := gkp2 zq4
  have zkq4 := kq4.1
  replace hin := hin.kp kq4
  replace hkp := hkp.trans (kq4.mono hkp.1)
  clear zq4
  refine LF.step (OpOk.pickAnd rfl rfl) ?_
  refine LF.step (OpOk.assign rfl) (LF.nil (PF.next (CF.ret ?_)))
  have hm : (fun _ _ _ => true) s by_ wi = (((decide ((orderR (madeM s) (-1) 10).2 = 0)) && (decide ((orderR ((List.drop (Int.toNat (restM by_ (List.length (madeM s) : Int))) (madeM s)) ++ (List.take (Int.toNat (restM by_ (List.length (madeM s) : Int))) (madeM s))) (-1) 10).2 = 0))) && (sameM ((orderR (madeM s) (-1) 10).1) ((orderR ((List.drop (Int.toNat (restM by_ (List.length (madeM s) : Int))) (madeM s)) ++ (List.take (Int.toNat (restM by_ (List.length (madeM s) : Int))) (madeM s))) (-1) 10).1))) := by
    first | rfl | exact (turned_law s _ (.inr rfl)).symm | exact (turned_law s _ (.inl (by decide))).symm
  exact PF.ret1 rfl rfl ⟨by first | (rw [hm] <;> rfl) | exact (congrArg Value.bool hm).symm, hkp⟩

end Go.Proofs.Ytcceglmmpbdhiaa
