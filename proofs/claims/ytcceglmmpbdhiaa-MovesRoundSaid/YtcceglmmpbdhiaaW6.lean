/- Walks. Conditions: each contract names its own. -/
import Derived.Test.YtcceglmmpbdhiaaW5
namespace Go.Proofs.Ytcceglmmpbdhiaa
set_option linter.unusedVariables false
set_option linter.unusedSimpArgs false
set_option linter.unusedSectionVars false
set_option maxRecDepth 8000
open Go.JE

theorem Try.fld62_0 : Fld Try.prog 62 0 0 := ⟨_, _, Try.underlying62, rfl, rfl, 1, (by unfold Sz; kernel_rfl), by decide⟩
-- (*jacquard/moves.layer).lay: function 60
theorem pLay_ct {F : PH} {H : Heap} (hin : InH F H) {a9 : Value} {l : List D.Mach} {Bp9 : Nat} (p9 : Gl rMach 39 F H Bp9 a9 l) (scr : Int) (sp : Int) (lk : Bool) (hl9 : l.length < 1000000) {g0 : Nat} (hb0 : Bx H g0 62 [a9, .int .i64 scr, .int .i64 sp, .bool lk]) (ng0 : F g0 = none) {a1 : Value} {x : List D.Mach} (p1 : (rL rMach).rv F a1 x) (hx9 : x.length < 1000000) :
    Ct Try.prog 60 #[.pointer (some ⟨g0, 0, none⟩), a1] H (fun v H' => ∃ (F' : PH) (u0 : Value), v = .tuple #[] ∧ PH.ext H F F' ∧ InH F' H' ∧ Kw (fun j9 => j9 = g0 ∨ a9.ownBlock = some j9) H H' ∧ Bx H' g0 62 [u0, .int .i64 scr, .int .i64 sp, .bool lk] ∧ Gl rMach 39 F' H' 0 u0 (l ++ x) ∧ Lnk H.size a9 u0) := by
  replace p9 := p9.base (Nat.zero_le _)
  have lg0 := hb0.lt
  have q1 := rL.len2 p1
  have hkp := Kw.refl (fun j9 => j9 = g0 ∨ a9.ownBlock = some j9) H
  have hx := PH.ext.refl (H := H) F
  refine Ct.enter (args := [.pointer (some ⟨g0, 0, none⟩), a1]) Try.func60 rfl rfl rfl (fun w0 hw0 => ?_)
  refine CF.region (LF.step (OpOk.move rfl) (LF.step (OpOk.move rfl) ?_))
  refine LF.step (OpOk.nilCheck rfl) ?_
  refine LF.step (OpOk.fieldAddr (Try.fld62_0) rfl) ?_
  refine LF.step (OpOk.ldBx hb0 Try.one34 rfl rfl) ?_
  refine LF.step (OpOk.move rfl) ?_
  refine LF.chg (OpCh.appL (r := rMach) Try.underlying34 Try.info39 (by decide) rfl rfl rfl p9 p1 hin (by first | (simp only [List.length_append, List.length_take, List.length_drop, List.length_nil, List.length_cons, List.length_set, List.length_replicate]; omega) | (simp; done) | (simp; omega) | omega) (by first | omega | exact hkp.1)) ?_
  rintro v10 H10 ⟨x10, gb10, ob10⟩
  replace hin := hin.grown gb10 p9.no
  have wf10 := wf_grow (W := (fun j9 => j9 = g0 ∨ a9.ownBlock = some j9)) (fun k0 hk0 => (.inr (.inr hk0))) hkp.1 (ob_some ob10)
  replace hkp := gb10.kw2 hkp (fun k0 hk0 => (.inr (.inr hk0)))
  replace hb0 := hb0.of (gb10.2 _ hb0.lt (Ne.symm (by first | exact p9.neBx hb0 (by decide) | exact nqp9_0)))
  refine LF.step (OpOk.nilCheck rfl) ?_
  refine LF.step (OpOk.fieldAddr (Try.fld62_0) rfl) ?_
  refine LF.chg0 (OpCh.storeB hb0 Try.sz34 rfl rfl x10.one1 (by first | decide | (simp; done))) ?_
  rintro _ Hw1 ⟨tw1, bw1⟩
  have ztw1 := tw1.1
  replace hin := hin.tw tw1 ng0
  replace hkp := hkp.tw tw1 (.inr (.inl rfl))
  replace x10 := x10.tw tw1 (x10.neBx hb0 (by decide))
  replace hb0 : Bx _ _ _ [v10, .int .i64 scr, .int .i64 sp, .bool lk] := bw1
  clear bw1 tw1
  refine LF.nil ?_
  exact PF.end0 rfl ⟨_, v10, rfl, hx, hin, hkp, hb0, by exact (x10.base (Nat.zero_le _)), lnk_of (fun k9 h9 => (wf10 _ h9)) (x10.neBx hb0 (by decide))⟩

end Go.Proofs.Ytcceglmmpbdhiaa
