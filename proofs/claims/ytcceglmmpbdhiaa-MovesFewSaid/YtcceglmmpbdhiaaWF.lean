/- Walks. Conditions: each contract names its own. -/
import Derived.Test.YtcceglmmpbdhiaaWE
namespace Go.Proofs.Ytcceglmmpbdhiaa
set_option linter.unusedVariables false
set_option linter.unusedSimpArgs false
set_option linter.unusedSectionVars false
set_option maxRecDepth 8000
open Go.JE


def slotsM (pre : List (Pl × Pl)) : Bool := pre.any fun q => decide (16 ≤ plP q)
theorem slotsM_snoc (pre : List (Pl × Pl)) (x : Pl × Pl) : slotsM (pre ++ [x]) = (slotsM pre || decide (16 ≤ plP x)) := by unfold slotsM; simp
def swapsP (x0 : Int) (pre : List (Pl × Pl)) : List D.Mach := (pre.filter fun q => decide (plQ q ≠ x0)).map fun q => ⟨2, 0, 0, plP q, plQ q, 0, 0, []⟩
theorem swapsP_yes {x0 : Int} {x : Pl × Pl} (pre : List (Pl × Pl)) (h : ¬ plQ x = x0) : swapsP x0 (pre ++ [x]) = swapsP x0 pre ++ [⟨2, 0, 0, plP x, plQ x, 0, 0, []⟩] := by unfold swapsP; rw [List.filter_append]; simp [List.filter, h]
theorem swapsP_no {x0 : Int} {x : Pl × Pl} (pre : List (Pl × Pl)) (h : plQ x = x0) : swapsP x0 (pre ++ [x]) = swapsP x0 pre := by unfold swapsP; rw [List.filter_append]; simp [List.filter, h]
theorem swapsP_len (x0 : Int) (pre : List (Pl × Pl)) : (swapsP x0 pre).length ≤ pre.length := by unfold swapsP; rw [List.length_map]; exact List.length_filter_le _ _
theorem swapsP_args (x0 : Int) (pre : List (Pl × Pl)) : NoArgs (swapsP x0 pre) := by
  intro m hm
  unfold swapsP at hm
  obtain ⟨q, _, rfl⟩ := List.mem_map.1 hm
  rfl
def toP (t x0 : Int) (q : Pl × Pl) : Int := if plQ q = x0 then t else plQ q
def bringsP (scr sp t x0 : Int) (pre : List (Pl × Pl)) : List D.Mach := pre.flatMap fun q => (bringX scr sp (plP q) (toP t x0 q)).getD []
theorem bringsP_snoc (scr sp t x0 : Int) (pre : List (Pl × Pl)) (x : Pl × Pl) : bringsP scr sp t x0 (pre ++ [x]) = bringsP scr sp t x0 pre ++ (bringX scr sp (plP x) (toP t x0 x)).getD [] := by unfold bringsP; simp
theorem bringsP_len (scr sp t x0 : Int) : ∀ (pre : List (Pl × Pl)), (bringsP scr sp t x0 pre).length ≤ 4 * pre.length
  | [] => by simp [bringsP]
  | q :: r => by
    have h1 := bringsP_len scr sp t x0 r
    have h2 := bringLen scr sp (plP q) (toP t x0 q)
    unfold bringsP at *
    rw [List.flatMap_cons, List.length_append, List.length_cons]; omega
theorem bringsP_args (scr sp t x0 : Int) (pre : List (Pl × Pl)) : NoArgs (bringsP scr sp t x0 pre) := by
  intro m hm
  unfold bringsP at hm
  obtain ⟨q, _, h⟩ := List.mem_flatMap.1 hm
  exact NoArgs.bringX _ _ _ _ m h
theorem plP_rng (q : Pl × Pl) : 0 ≤ plP q ∧ plP q < 16400 := by unfold plP; have := q.1.isLt; omega
theorem plQ_rng (q : Pl × Pl) : 0 ≤ plQ q ∧ plQ q < 16400 := by unfold plQ; have := q.2.isLt; omega
def bringOk (scr sp : Int) (low : Bool) (a b : Int) : Prop := (low = true ∧ a < 16 ∧ b < 16) ∨ (low = false ∧ 0 ≤ sp)
theorem bringX_some {scr sp : Int} (a b : Int) (h : (a < 16 ∧ b < 16) ∨ 0 ≤ sp) : ∃ o, bringX scr sp a b = some o := by
  unfold bringX
  (repeat' split) <;> first | exact ⟨_, rfl⟩ | (exfalso; omega)
/-- a circle's rows, as they are told one by one -/
def RingOf (f : Int → Int) (x0 : Int) (c : List Int) (xs : List (Pl × Pl)) : Prop := IsRing f x0 c ∧ xs.length = c.length ∧ ∀ k (h : k < xs.length), plP xs[k] = ix c k ∧ plQ xs[k] = f (ix c k)

-- jacquard/moves.ring: function 39
theorem ring_ct {F : PH} {H : Heap} (hin : InH F H) {gm : Nat} (x : Int) :
    Ct Try.prog 39 #[.map (some gm), .int .i64 x] H (fun v H' => ∃ bx bm, v = .func (.func 63) #[] #[.pointer (some ⟨bx, 0, none⟩), .pointer (some ⟨bm, 0, none⟩)] ∧ H.size ≤ bx ∧ H.size ≤ bm ∧ Kp H.size H H' ∧ Bx H' bx 3 [.int .i64 x] ∧ Bx H' bm 63 [.map (some gm)]) := by
  have hkp := Kp.refl H.size H
  have hx := PH.ext.refl (H := H) F
  refine Ct.enter (args := [.map (some gm), .int .i64 x]) Try.func39 rfl rfl rfl (fun w0 hw0 => ?_)
  refine CF.seq (CF.region ?_)
  refine LF.chg (OpCh.boxB rfl rfl) ?_
  rintro _ H2 ⟨g2, rfl, eg2, sg2, kg2, hb2⟩
  have ng2 := hin.nope (Nat.le_of_eq eg2.symm)
  have lg2 := hkp.1
  have zkg2 := kg2.1
  replace hin := hin.kp kg2
  replace hkp := hkp.trans (kg2.mono hkp.1)
  clear kg2
  refine LF.chg (OpCh.boxB rfl rfl) ?_
  rintro _ H3 ⟨g3, rfl, eg3, sg3, kg3, hb3⟩
  have ng3 := hin.nope (Nat.le_of_eq eg3.symm)
  have lg3 := hkp.1
  have zkg3 := kg3.1
  replace hin := hin.kp kg3
  replace hkp := hkp.trans (kg3.mono hkp.1)
  replace hb2 := hb2.kp kg3
  clear kg3
  refine LF.step (OpOk.assign rfl) (LF.nil (PF.next (CF.seq (CF.region ?_))))
  refine LF.step (OpOk.makeFunc2 rfl rfl) ?_
  refine LF.step (OpOk.assign rfl) (LF.nil (PF.next (CF.ret ?_)))
  exact PF.ret1 rfl rfl ⟨g3, g2, rfl, by omega, by omega, hkp, hb3, hb2⟩

end Go.Proofs.Ytcceglmmpbdhiaa
