/- Walks. Conditions: each contract names its own. -/
import Derived.Test.YtcceglmmpbdhiaaWG
namespace Go.Proofs.Ytcceglmmpbdhiaa
set_option linter.unusedVariables false
set_option linter.unusedSimpArgs false
set_option linter.unusedSectionVars false
set_option maxRecDepth 8000
open Go.JE

theorem Try.ent33 : Ent Try.prog 33 := ⟨_, Try.func33, by kernel_rfl, by kernel_rfl⟩
theorem Try.sz23 : Sz Try.prog 23 1 := by unfold Sz; kernel_rfl
-- jacquard/moves.Order$1: function 32
set_option maxHeartbeats 1000000 in
theorem gone_ct {F : PH} {H : Heap} (hin : InH F H) (p : Int) {gu gf : Nat} {uu ff : Int → Int} (hmu : Mf H gu (.int .i64 0) (fun j9 => .int .i64 (uu j9))) (hmf : Mf H gf (.int .i64 0) (fun j9 => .int .i64 (ff j9))) (ngu : F gu = none) (hne : gf ≠ gu) {g1 : Nat} (hb1 : Bx H g1 63 [.map (some gu)]) {g2 : Nat} (hb2 : Bx H g2 63 [.map (some gf)]) {a3 : Value} {lf : List Int} {B3 : Nat} (p3 : Gl (rI .i64) 3 F H B3 a3 lf) {g3 : Nat} (hb3 : Bx H g3 23 [a3]) (ng3 : F g3 = none) (hl9 : lf.length < 1073741824) (hub : -1000000 ≤ uu (ff p) ∧ uu (ff p) ≤ 1000000) (nb12 : g1 ≠ g2) :
    Ct Try.prog 32 #[.int .i64 p, .pointer (some ⟨g1, 0, none⟩), .pointer (some ⟨g2, 0, none⟩), .pointer (some ⟨g3, 0, none⟩)] H (fun v H' => ∃ vl', v = .tuple #[] ∧ InH F H' ∧ Kw (fun j9 => j9 = g3 ∨ j9 = gu ∨ a3.ownBlock = some j9) H H' ∧ Mf H' gu (.int .i64 0) (fun j9 => .int .i64 (upF uu (ff p) (uu (ff p) - 1) j9)) ∧ Bx H' g3 23 [vl'] ∧ Gl (rI .i64) 3 F H' B3 vl' (dropM lf p) ∧ vl'.ownBlock = a3.ownBlock) := by
  have lt1 := hb1.lt
  have lt2 := hb2.lt
  have lt3 := hb3.lt
  have hkp := Kw.refl (fun j9 => j9 = g3 ∨ j9 = gu ∨ a3.ownBlock = some j9) H
  have hx := PH.ext.refl (H := H) F
  refine Ct.enter (args := [.int .i64 p, .pointer (some ⟨g1, 0, none⟩), .pointer (some ⟨g2, 0, none⟩), .pointer (some ⟨g3, 0, none⟩)]) Try.func32 rfl rfl rfl (fun w0 hw0 => ?_)
  refine CF.seq (CF.region ?_)
  refine LF.chg (OpCh.boxB rfl rfl) ?_
  rintro _ H4 ⟨g4, rfl, eg4, sg4, kg4, hb4⟩
  have ng4 := hin.nope (Nat.le_of_eq eg4.symm)
  have lg4 := hkp.1
  have nqp3_4 : (a3 : Value).ownBlock ≠ some g4 := fun h9 => by have := p3.lt _ h9; omega
  have zkg4 := kg4.1
  replace hin := hin.kp kg4
  replace hkp := hkp.trans (kg4.mono hkp.1)
  replace hb1 := hb1.kp kg4
  replace hb2 := hb2.kp kg4
  replace hb3 := hb3.kp kg4
  replace p3 := p3.kp kg4
  replace hmu := hmu.kp kg4 hmu.lt
  replace hmf := hmf.kp kg4 hmf.lt
  clear kg4
  refine LF.nil (PF.next (CF.seq (CF.region ?_)))
  refine LF.step (OpOk.ldBx hb1 Try.one63 rfl rfl) ?_
  refine LF.step (OpOk.ldBx hb2 Try.one63 rfl rfl) ?_
  refine LF.step (OpOk.ldBx hb4 Try.one3 rfl rfl) ?_
  refine LF.step (OpOk.lookupF Try.underlying63 Try.underlying3 Try.zero3 hmf rfl rfl) ?_
  refine LF.step (OpOk.lookupF Try.underlying63 Try.underlying3 Try.zero3 hmu rfl rfl) ?_
  refine LF.step (OpOk.sub rfl rfl (by omega)) ?_
  refine LF.chg0 (OpCh.mapUpdateI Try.underlying63 Try.underlying3 hmu rfl rfl rfl) ?_
  rintro _ Hw1 ⟨mw1, tw1⟩
  have ztw1 := tw1.1
  replace hin := hin.tw tw1 ngu
  replace hkp := hkp.tw tw1 (.inr (.inr (.inl rfl)))
  replace hb1 := hb1.tw tw1 (hmu.neBx hb1).symm
  replace hb2 := hb2.tw tw1 (hmu.neBx hb2).symm
  replace hb3 := hb3.tw tw1 (hmu.neBx hb3).symm
  replace hb4 := hb4.tw tw1 (hmu.neBx hb4).symm
  replace p3 := p3.tw tw1 (hmu.neGl p3)
  replace hmf := hmf.of (tw1.2 _ (hne))
  replace hmu := mw1
  clear mw1 tw1
  refine LF.nil (PF.next (CF.region ?_))
  refine LF.step (OpOk.ldBx hb3 Try.one23 rfl rfl) ?_
  refine LF.step (OpOk.makeFunc1 rfl) ?_
  refine LF.call (OpCall.fn Try.ent33 rfl rfl) (delF_ct hin p3 hb4 ng4 (by first | exact p3.neLt (by omega) | exact nqp3_4) hl9) ?_
  rintro v13 H13 ⟨k13, x13, ob13⟩
  have zk13 := k13.1
  replace hin := hin.kw k13 p3.no
  replace hb1 := hb1.kw k13 (p3.neBx hb1 (by decide))
  replace hb2 := hb2.kw k13 (p3.neBx hb2 (by decide))
  replace hb3 := hb3.kw k13 (p3.neBx hb3 (by decide))
  replace hb4 := hb4.kw k13 (by first | exact p3.neLt (by omega) | exact nqp3_4)
  replace hmu := hmu.of (k13.2 _ hmu.lt (hmu.neGl p3))
  replace hmf := hmf.of (k13.2 _ hmf.lt (hmf.neGl p3))
  replace hkp := hkp.kw k13 (by intro k0 hl hk0; exact .inr (.inr hk0))
  refine LF.chg0 (OpCh.storeB hb3 Try.sz23 rfl rfl x13.one1 (by first | decide | (simp; done))) ?_
  rintro _ Hw2 ⟨tw2, bw2⟩
  have ztw2 := tw2.1
  replace hin := hin.tw tw2 ng3
  replace hkp := hkp.tw tw2 (.inr (.inl rfl))
  replace hb1 := hb1.tw tw2 (Bx.ne hb1 hb3 (by decide))
  replace hb2 := hb2.tw tw2 (Bx.ne hb2 hb3 (by decide))
  replace hb4 := hb4.tw tw2 (Bx.ne hb4 hb3 (by decide))
  replace x13 := x13.tw tw2 (x13.neBx hb3 (by decide))
  replace hmu := hmu.of (tw2.2 _ (hmu.neBx hb3))
  replace hmf := hmf.of (tw2.2 _ (hmf.neBx hb3))
  replace hb3 : Bx _ _ _ [v13] := bw2
  clear bw2 tw2
  refine LF.nil ?_
  exact PF.end0 rfl ⟨_, rfl, hin, hkp, hmu, hb3, x13, ob13⟩

end Go.Proofs.Ytcceglmmpbdhiaa
