/- Walks. Conditions: each contract names its own. -/
import Derived.Test.YtcceglmmpbdhiaaWJ
namespace Go.Proofs.Ytcceglmmpbdhiaa
set_option linter.unusedVariables false
set_option linter.unusedSimpArgs false
set_option linter.unusedSectionVars false
set_option maxRecDepth 8000
open Go.JE

theorem Try.ent12 : Ent Try.prog 12 := ⟨_, Try.func12, by kernel_rfl, by kernel_rfl⟩
theorem Try.ent13 : Ent Try.prog 13 := ⟨_, Try.func13, by kernel_rfl, by kernel_rfl⟩
theorem Try.ent14 : Ent Try.prog 14 := ⟨_, Try.func14, by kernel_rfl, by kernel_rfl⟩
theorem Try.ent15 : Ent Try.prog 15 := ⟨_, Try.func15, by kernel_rfl, by kernel_rfl⟩
-- jacquard/jacquardlaw11.MovesOrders: function 3
theorem movesOrders_ct {F : PH} {H : Heap} (hin : InH F H) {a0 : Value} {l : List D.Move} {N0 : Nat} (p0 : (rLn N0 rMove).rv F a0 l) {a1 : Value} {s : List Int} {N1 : Nat} (p1 : (rLn N1 (rI .i64)).rv F a1 s) {a2 : Value} {q : List Int} (p2 : (rA 2 (rI .i64)).ra F a2 q) :
    Ct Try.prog 3 #[a0, a1, a2] H (fun v H' => v = .bool ((fun _ _ _ => true) l s q) ∧ Kp H.size H H') := by
  have q0 := rL.len2 p0
  have q1 := rL.len2 p1
  obtain ⟨la2, rfl, hla2, hok2⟩ := p2
  have hkp := Kp.refl H.size H
  have hx := PH.ext.refl (H := H) F
  refine Ct.enter (args := [a0, a1, .agg la2.toArray]) Try.func3 rfl rfl rfl (fun w0 hw0 => ?_)
  refine CF.seq (CF.region ?_)
  refine LF.chg (OpCh.boxB (cs := la2) rfl rfl) ?_
  rintro _ H5 ⟨g5, rfl, eg5, sg5, kg5, hb5⟩
  have ng5 := hin.nope (Nat.le_of_eq eg5.symm)
  have lg5 := hkp.1
  have zkg5 := kg5.1
  replace hin := hin.kp kg5
  replace hkp := hkp.trans (kg5.mono hkp.1)
  clear kg5
  obtain ⟨Fz1, hxz1, lez1, hinz1, noz1, hatz1⟩ := hb5.freeze (r := (rA 2 (rI .i64))) hin hx (by omega) ng5 hok2 hla2
  replace hin := hinz1
  replace hx := hxz1
  have le0 := lez1
  refine LF.step (OpOk.assign rfl) (LF.nil (PF.next (CF.seq (CF.region ?_))))
  refine LF.call (OpCall.fn Try.ent12 rfl rfl) (awake_ct hin ) ?_
  rintro _ H10 ⟨rfl, k10⟩
  have zk10 := k10.1
  replace hin := hin.kp k10
  replace hkp := hkp.trans (k10.mono hkp.1)
  refine LF.step (OpOk.assign rfl) (LF.nil (PF.next (CF.seq (CF.region (LF.step (OpOk.move rfl) ?_)))))
  refine LF.call (OpCall.fn Try.ent13 rfl rfl) (made_ct hin (p1.up le0)) ?_
  rintro v12 H12 ⟨F12, x12, i12, k12, h12⟩
  have zk12 := k12.1
  replace hx := hx.trans x12 hkp.1
  replace hkp := hkp.trans (k12.mono hkp.1)
  have l12 := hkp.1
  replace le0 := le0.trans x12.1
  have le1 := x12.1
  have hin := i12
  have h12q := rL.len2 h12
  refine LF.step (OpOk.assign rfl) (LF.nil (PF.next (CF.seq ?_)))
  have leS0 := le0
  have leS1 := le1
  refine CF.any (z := false) (fun H' => InH F12 H' ∧ True) Try.mixed ?_
  refine AF.take 0 rfl (by kernel_rfl) (by kernel_rfl) (by kernel_rfl) ⟨hin, trivial⟩ (fun _ ⟨hin, _⟩ => OpOk.move rfl) ?_
  refine AF.take 2 rfl (by kernel_rfl) (by kernel_rfl) (by kernel_rfl) ⟨hin, trivial⟩ (fun _ ⟨hin, _⟩ => OpOk.indexArr (i := 0) Try.underlying24 Try.sz3 rfl rfl rfl (by omega)) ?_
  refine AF.take 3 rfl (by kernel_rfl) (by kernel_rfl) (by kernel_rfl) ⟨hin, trivial⟩ (fun _ ⟨hin, _⟩ => OpOk.ldI hin ((At.arr hatz1 0 (by omega)).up leS1) Try.one3 rfl) ?_
  refine AF.take 4 rfl (by kernel_rfl) (by kernel_rfl) (by kernel_rfl) ⟨hin, trivial⟩ (fun _ ⟨hin, _⟩ => OpOk.indexArr (i := 1) Try.underlying24 Try.sz3 rfl rfl rfl (by omega)) ?_
  refine AF.take 5 rfl (by kernel_rfl) (by kernel_rfl) (by kernel_rfl) ⟨hin, trivial⟩ (fun _ ⟨hin, _⟩ => OpOk.ldI hin ((At.arr hatz1 1 (by omega)).up leS1) Try.one3 rfl) ?_
  refine AF.call 1 rfl (by kernel_rfl) (OpCall.fn Try.ent15 rfl rfl) (few_ct hin (p0.up le0)) (by rintro _ _ ⟨_, _, _, k, _⟩; exact ⟨(hin.kp k), trivial⟩) ?_
  rintro v14 H14 ⟨F14, x14, i14, k14, h14⟩
  have zk14 := k14.1
  replace hx := hx.trans x14 hkp.1
  replace hkp := hkp.trans (k14.mono hkp.1)
  have l14 := hkp.1
  replace le0 := le0.trans x14.1
  replace le1 := le1.trans x14.1
  have le2 := x14.1
  have hin := i14
  have h14q := rL.len2 h14
  refine AF.call 6 rfl (by kernel_rfl) (OpCall.fn Try.ent14 rfl rfl) (tells_ct hin h14 (ix q 0) (ix q 1) (by first | omega | decide | (simp; done) | (have := few_len l; omega) | (have := made_len s; omega)) (At.wr ((At.arr hatz1 0 (by omega)).up leS1)) (At.wr ((At.arr hatz1 1 (by omega)).up leS1))) (by rintro _ _ ⟨_, k⟩; exact ⟨((hin.down le2).kp k), trivial⟩) ?_
  rintro _ H19 ⟨rfl, k19⟩
  have zk19 := k19.1
  replace hin := hin.kp k19
  replace hkp := hkp.trans (k19.mono hkp.1)
  refine AF.take 7 rfl (by kernel_rfl) (by kernel_rfl) (by kernel_rfl) ⟨(hin.down le2), trivial⟩ (fun _ ⟨hin, _⟩ => OpOk.move rfl) ?_
  refine AF.gtake 8 rfl (by kernel_rfl) (by kernel_rfl) (by kernel_rfl) ⟨(hin.down le2), trivial⟩ rfl rfl (.t _) (fun hg _ ⟨hin, _⟩ => OpOk.move rfl) ?_
  refine AF.gtake 9 rfl (by kernel_rfl) (by kernel_rfl) (by kernel_rfl) ⟨(hin.down le2), trivial⟩ rfl rfl (.t _) (fun hg _ ⟨hin, _⟩ => OpOk.indexArr (i := 0) Try.underlying24 Try.sz3 rfl rfl rfl (by omega)) ?_
  refine AF.gtake 10 rfl (by kernel_rfl) (by kernel_rfl) (by kernel_rfl) ⟨(hin.down le2), trivial⟩ rfl rfl (.t _) (fun hg _ ⟨hin, _⟩ => OpOk.ldI hin ((At.arr hatz1 0 (by omega)).up leS1) Try.one3 (evg rfl hg)) ?_
  refine AF.gtake 11 rfl (by kernel_rfl) (by kernel_rfl) (by kernel_rfl) ⟨(hin.down le2), trivial⟩ rfl rfl (.t _) (fun hg _ ⟨hin, _⟩ => OpOk.indexArr (i := 1) Try.underlying24 Try.sz3 rfl rfl rfl (by omega)) ?_
  refine AF.gtake 12 rfl (by kernel_rfl) (by kernel_rfl) (by kernel_rfl) ⟨(hin.down le2), trivial⟩ rfl rfl (.t _) (fun hg _ ⟨hin, _⟩ => OpOk.ldI hin ((At.arr hatz1 1 (by omega)).up leS1) Try.one3 (evg rfl hg)) ?_
  refine AF.gcallR 13 rfl (by kernel_rfl) rfl rfl (.t _) (fun hg => OpCall.fn Try.ent14 rfl (evl3 (evg rfl hg) (evg rfl hg) (evg rfl hg))) (fun hg => tells_ct hin (h12.up le2) (ix q 0) (ix q 1) (by first | omega | decide | (simp; done) | (have := few_len l; omega) | (have := made_len s; omega)) (At.wr ((At.arr hatz1 0 (by omega)).up leS1)) (At.wr ((At.arr hatz1 1 (by omega)).up leS1))) (fun _ _ h => h.1) (by rintro _ _ ⟨_, k⟩; exact ⟨((hin.down le2).kp k), trivial⟩) ⟨(hin.down le2), trivial⟩ ?_
  intro Hq2 zq2
  have kq2 := gkp2 zq2
  have zkq2 := kq2.1
  replace hin := hin.kp kq2
  replace hkp := hkp.trans (kq2.mono hkp.1)
  clear zq2
  refine AF.take 14 rfl (by kernel_rfl) (by kernel_rfl) (by kernel_rfl) ⟨(hin.down le2), trivial⟩ (fun _ ⟨hin, _⟩ => OpOk.pickAnd rfl rfl) ?_
  refine AF.take 15 rfl (by kernel_rfl) (by kernel_rfl) (by kernel_rfl) ⟨(hin.down le2), trivial⟩ (fun _ ⟨hin, _⟩ => OpOk.assign rfl) ?_
  refine AF.done (by kernel_rfl) ?_
  refine PF.next (CF.seq (CF.region (LF.step (OpOk.move rfl) (LF.step (OpOk.move rfl) ?_))))
  refine LF.gstepK rfl rfl (.t _) (OpOk.move rfl) ?_
  refine LF.step (OpOk.pickAnd rfl rfl) ?_
  refine LF.step (OpOk.move rfl) ?_
  refine LF.gstep rfl rfl (.t _) (fun hg => OpOk.move rfl) ?_
  refine LF.gcallR rfl rfl (.t _) (fun hg => OpCall.fn Try.ent14 rfl (evl3 (evg rfl hg) rfl rfl)) (fun hg => tells_ct hin (h12.up le2) 15 10 (by first | omega | decide | (simp; done) | (have := few_len l; omega) | (have := made_len s; omega)) (by decide : IntKind.i64.wrap 15 = 15) (by decide : IntKind.i64.wrap 10 = 10)) (fun _ _ h => h.1) ?_
  intro Hq3 zq3
  have kq3 := gkp2 zq3
  have zkq3 := kq3.1
  replace hin := hin.kp kq3
  replace hkp := hkp.trans (kq3.mono hkp.1)
  clear zq3
  refine LF.step (OpOk.pickAnd rfl rfl) ?_
  refine LF.step (OpOk.move rfl) ?_
  refine LF.gstep rfl rfl (.t _) (fun hg => OpOk.move rfl) ?_
  refine LF.gcallR rfl rfl (.t _) (fun hg => OpCall.fn Try.ent14 rfl (evl3 (evg rfl hg) rfl rfl)) (fun hg => tells_ct hin (h12.up le2) (-1) 10 (by first | omega | decide | (simp; done) | (have := few_len l; omega) | (have := made_len s; omega)) (by decide : IntKind.i64.wrap (-1) = (-1)) (by decide : IntKind.i64.wrap 10 = 10)) (fun _ _ h => h.1) ?_
  intro Hq4 zq4
  have kq4 := gkp2 zq4
  have zkq4 := kq4.1
  replace hin := hin.kp kq4
  replace hkp := hkp.trans (kq4.mono hkp.1)
  clear zq4
  refine LF.step (OpOk.pickAnd rfl rfl) ?_
  refine LF.step (OpOk.move rfl) ?_
  refine LF.gstep rfl rfl (.t _) (fun hg => OpOk.move rfl) ?_
  refine LF.gcallR rfl rfl (.t _) (fun hg => OpCall.fn Try.ent14 rfl (evl3 (evg rfl hg) rfl rfl)) (fun hg => tells_ct hin (h12.up le2) 15 (-1) (by first | omega | decide | (simp; done) | (have := few_len l; omega) | (have := made_len s; omega)) (by decide : IntKind.i64.wrap 15 = 15) (by decide : IntKind.i64.wrap (-1) = (-1))) (fun _ _ h => h.1) ?_
  intro Hq5 zq5
  have kq5 := gkp2 zq5
  have zkq5 := kq5.1
  replace hin := hin.kp kq5
  replace hkp := hkp.trans (kq5.mono hkp.1)
  clear zq5
  refine LF.step (OpOk.pickAnd rfl rfl) ?_
  refine LF.step (OpOk.move rfl) ?_
  refine LF.gstep rfl rfl (.t _) (fun hg => OpOk.move rfl) ?_
  refine LF.gcallR rfl rfl (.t _) (fun hg => OpCall.fn Try.ent14 rfl (evl3 (evg rfl hg) rfl rfl)) (fun hg => tells_ct hin (h12.up le2) (-1) (-1) (by first | omega | decide | (simp; done) | (have := few_len l; omega) | (have := made_len s; omega)) (by decide : IntKind.i64.wrap (-1) = (-1)) (by decide : IntKind.i64.wrap (-1) = (-1))) (fun _ _ h => h.1) ?_
  intro Hq6 zq6
  have kq6 := gkp2 zq6
  have zkq6 := kq6.1
  replace hin := hin.kp kq6
  replace hkp := hkp.trans (kq6.mono hkp.1)
  clear zq6
  refine LF.step (OpOk.pickAnd rfl rfl) ?_
  refine LF.step (OpOk.assign rfl) (LF.nil (PF.next (CF.ret ?_)))
  have hm : (fun _ _ _ => true) l s q = (((((((fun _ _ _ => true) (fewM l) (ix q 0) (ix q 1)) && ((fun _ _ _ => true) (madeM s) (ix q 0) (ix q 1))) && ((fun _ _ _ => true) (madeM s) 15 10)) && ((fun _ _ _ => true) (madeM s) (-1) 10)) && ((fun _ _ _ => true) (madeM s) 15 (-1))) && ((fun _ _ _ => true) (madeM s) (-1) (-1))) := by
    rfl
  exact PF.ret1 rfl rfl ⟨by rw [hm] <;> rfl, hkp⟩

end Go.Proofs.Ytcceglmmpbdhiaa
