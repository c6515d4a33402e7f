/- Walks. Conditions: each contract names its own. -/
import Derived.Test.YtcceglmmpbdhiaaFb
namespace Go.Proofs.Ytcceglmmpbdhiaa
set_option linter.unusedVariables false
set_option linter.unusedSimpArgs false
set_option linter.unusedSectionVars false
set_option maxRecDepth 8000
open Go.JE

theorem Try.agg39 : ∃ d, Try.prog.underlying 39 = some d ∧ (match d with | .struct _ | .array _ _ => true | _ => false) = true := ⟨_, Try.underlying39, rfl⟩
theorem Try.info21 : (Try.prog.info? 21).map (fun i => (i.zero, i.size, i.bytes)) = some (some (.int .i32 0), 1, 4) := by kernel_rfl
theorem Try.mixed : Try.prog.follows .mixedOrders = true := Checked.mixed Try.checked
theorem Try.one21 : One Try.prog 21 := ⟨_, Try.underlying21, rfl⟩
theorem Try.sz21 : Sz Try.prog 21 1 := by unfold Sz; kernel_rfl
theorem Try.sz39 : Sz Try.prog 39 8 := by unfold Sz; kernel_rfl
theorem Try.zero39 : (Try.prog.info? 39).bind (·.zero) = some (.agg #[.int .i64 0, .int .i64 0, .int .i64 0, .int .i64 0, .int .i64 0, .int .i64 0, .int .i32 0, .slice none 0 0]) := by kernel_rfl
/- ---------------------------------------------- places, rows of words -/
def placeM (n : Int) : Bool := decide (0 ≤ n) && decide (n < 16400)
def loadM (r p : Int) : D.Mach := ⟨30, r, 0, 0, 0, 0, IntKind.i32.wrap (p - 16), []⟩
def storeM (r p : Int) : D.Mach := ⟨31, 0, 0, r, 0, 0, IntKind.i32.wrap (p - 16), []⟩
def atM (l : List Int) (n : Int) : Int := if n < 0 ∨ l.length ≤ n then 0 else ix l n.toNat
def putM (l : List Int) (n v : Int) : List Int := if 0 ≤ n ∧ n < l.length then l.set n.toNat v else l
theorem putM_len (l : List Int) (n v : Int) : (putM l n v).length = l.length := by unfold putM; split <;> simp
def regR (n : Int) : Int := if n < 0 ∨ 15 < n then -1 else n
def regP (n : Int) : Int := if 16 ≤ n then -1 else n
def slotM (n : Int) : Int := if n < 0 then -1 else 16 + n
def spotM (n : Int) : Int := if n < 12 then n else n + 4
def restM (x n : Int) : Int := Int.tmod (Int.tmod x n + n) n
theorem atM_wrG {E B : Nat} {F : PH} {H : Heap} {v : Value} {l : List Int} (h : Gl (rI .i32) E F H B v l) (r : Int) : IntKind.i32.wrap (atM l r) = atM l r := by
  unfold atM; split
  · decide
  · exact h.wr (by omega)
theorem atM_wrL {N : Nat} {F : PH} {v : Value} {l : List Int} (h : (rLn N (rI .i32)).rv F v l) (r : Int) : IntKind.i32.wrap (atM l r) = atM l r := by
  unfold atM; split
  · decide
  · exact (rL.ix h r.toNat (by omega)).wr
theorem atP (l : List Int) (n : Int) : atM l n = atM l (if n < 0 then -1 else n) := by
  by_cases h : n < 0
  · rw [if_pos h]; unfold atM; rw [if_pos (.inl h), if_pos (.inl (by decide))]
  · rw [if_neg h]
theorem at_regP (l : List Int) (n : Int) : atM l (regP n) = atM l (regR n) := by
  unfold regP regR
  by_cases h : n < 0
  · rw [if_neg (by omega), if_pos (.inl h), atP, if_pos h]
  · by_cases h2 : 16 ≤ n
    · rw [if_pos h2, if_pos (.inr (by omega))]
    · rw [if_neg h2, if_neg (by omega)]
theorem put_regP (l : List Int) (n v : Int) : putM l (regP n) v = putM l (regR n) v := by
  unfold regP regR
  by_cases h : n < 0
  · rw [if_neg (by omega), if_pos (.inl h)]; unfold putM; rw [if_neg (by omega), if_neg (by omega)]
  · by_cases h2 : 16 ≤ n
    · rw [if_pos h2, if_pos (.inr (by omega))]
    · rw [if_neg h2, if_neg (by omega)]
def rowsM (a b : List Int) : Bool := decide (a = b)
theorem rowsM_len {a b : List Int} (h : ¬ a.length = b.length) : rowsM a b = false := by simp only [rowsM, decide_eq_false_iff_not]; rintro rfl; exact h rfl
theorem rowsM_at {a b : List Int} {k : Nat} (h1 : k < a.length) (h2 : a.length = b.length) (h : ¬ ix a k = ix b k) : rowsM a b = false := by simp only [rowsM, decide_eq_false_iff_not]; rintro rfl; exact h rfl
theorem rowsM_yes {a b : List Int} {k : Nat} (h1 : a.length ≤ k) (h2 : a.length = b.length) (h : a.take k = b.take k) : rowsM a b = true := by
  rw [List.take_of_length_le h1, List.take_of_length_le (by omega)] at h
  simp only [rowsM, h, decide_true]
/- all at once -/
def afterM (places : List Int) : List D.Move → List Int → List Int
  | [], out => out
  | m :: l, out => afterM places l (putM out m.To (atM places m.From))
theorem afterM_len (places : List Int) : ∀ (l : List D.Move) (out : List Int), (afterM places l out).length = out.length
  | [], _ => rfl
  | m :: l, out => by rw [afterM, afterM_len, putM_len]
/- one by one -/
def doM1 (i : D.Mach) (s : List Int) : List Int :=
  if i.Op = 1 then putM s (regR i.D) (atM s (regR i.A))
  else if i.Op = 2 then putM (putM s (regR i.A) (atM s (regR i.B))) (regR i.B) (atM s (regR i.A))
  else if i.Op = 30 then putM s (regR i.D) (atM s (slotM i.Imm))
  else if i.Op = 31 then putM s (slotM i.Imm) (atM s (regR i.A))
  else if i.Op = 3 ∨ i.Op = 4 then putM s (regR i.D) i.Imm
  else s
def doM : List D.Mach → List Int → List Int
  | [], s => s
  | i :: l, s => doM l (doM1 i s)
theorem doM1_len (i : D.Mach) (s : List Int) : (doM1 i s).length = s.length := by unfold doM1; (repeat' split) <;> simp [putM_len]
theorem doM_len : ∀ (l : List D.Mach) (s : List Int), (doM l s).length = s.length
  | [], _ => rfl
  | i :: l, s => by rw [doM, doM_len, doM1_len]
/- moves by numbers -/
def madeFrom : Nat → List Int → List D.Move
  | _, [] => []
  | i, x :: l => if 20 ≤ i then [] else if Int.tmod (Int.tmod x 24 + 24) 24 < 20 then ⟨spotM i, spotM (Int.tmod (Int.tmod x 24 + 24) 24)⟩ :: madeFrom (i + 1) l else madeFrom (i + 1) l
def madeM (s : List Int) : List D.Move := madeFrom 0 s
theorem madeFrom_len : ∀ (l : List Int) (i : Nat), (madeFrom i l).length ≤ 20 - i
  | [], _ => by simp [madeFrom]
  | x :: l, i => by
    unfold madeFrom; split
    · simp
    · split
      · have := madeFrom_len l (i + 1); simp only [List.length_cons]; omega
      · have := madeFrom_len l (i + 1); omega
/- instructions that are the same -/
def sameM (a b : List D.Mach) : Bool := decide (a = b) && a.all (fun i => decide (i.Args = []))
/- the place that a place takes from -/
def sourceM : List D.Move → Int → Int → Int
  | [], _, out => out
  | m :: l, p, out => sourceM l p (if m.To = p then m.From else out)
def withoutM (l : List D.Move) (p : Int) : List D.Move := l.filter (fun m => decide (m.To ≠ p))
def fewM (l : List D.Move) : List D.Move := l.take 24
def startM (x : Int) : List Int := (List.range 40).map (fun (i : Nat) => IntKind.i32.wrap (x + IntKind.i32.wrap (IntKind.i32.wrap (i : Int) * 1000003)))

-- jacquard/moves.place: function 57
theorem placeM_ct {F : PH} {H : Heap} (hin : InH F H) (n : Int) :
    Ct Try.prog 57 #[.int .i64 n] H (fun v H' => v = .bool (placeM n) ∧ H' = H) := by
  have hkp := Kp.refl H.size H
  have hx := PH.ext.refl (H := H) F
  refine Ct.enter (args := [.int .i64 n]) Try.func57 rfl rfl rfl (fun w0 hw0 => ?_)
  refine CF.seq (CF.region (LF.step (OpOk.assign rfl) (LF.nil (PF.next (CF.seq (CF.region (LF.step (OpOk.move rfl) ?_)))))))
  refine LF.step (OpOk.geq rfl rfl) ?_
  refine LF.step (OpOk.move rfl) ?_
  refine LF.gstep rfl rfl (.t _) (fun hg => OpOk.move rfl) ?_
  refine LF.gstep rfl rfl (.t _) (fun hg => OpOk.lss (evg rfl hg) rfl) ?_
  refine LF.step (OpOk.pickAnd rfl rfl) ?_
  refine LF.step (OpOk.assign rfl) (LF.nil (PF.next (CF.ret ?_)))
  have hm : placeM n = ((decide (0 ≤ n)) && (decide (n < 16400))) := by
    first | (simp [placeM]; done) | (unfold placeM; (repeat' split) <;> first | rfl | (exfalso; omega) | (simp [placeM]; done))
  exact PF.ret1 rfl rfl ⟨by rw [hm] <;> rfl, rfl⟩

-- jacquard/jacquardref11.Place: function 64
theorem rPlace_ct {F : PH} {H : Heap} (hin : InH F H) (n : Int) :
    Ct Try.prog 64 #[.int .i64 n] H (fun v H' => v = .bool (placeM n) ∧ H' = H) := by
  have hkp := Kp.refl H.size H
  have hx := PH.ext.refl (H := H) F
  refine Ct.enter (args := [.int .i64 n]) Try.func64 rfl rfl rfl (fun w0 hw0 => ?_)
  refine CF.seq (CF.region (LF.step (OpOk.assign rfl) (LF.nil (PF.next (CF.seq (CF.region (LF.step (OpOk.move rfl) ?_)))))))
  refine LF.step (OpOk.geq rfl rfl) ?_
  refine LF.step (OpOk.move rfl) ?_
  refine LF.gstep rfl rfl (.t _) (fun hg => OpOk.move rfl) ?_
  refine LF.gstep rfl rfl (.t _) (fun hg => OpOk.lss (evg rfl hg) rfl) ?_
  refine LF.step (OpOk.pickAnd rfl rfl) ?_
  refine LF.step (OpOk.assign rfl) (LF.nil (PF.next (CF.ret ?_)))
  have hm : placeM n = ((decide (0 ≤ n)) && (decide (n < 16400))) := by
    first | (simp [placeM]; done) | (unfold placeM; (repeat' split) <;> first | rfl | (exfalso; omega) | (simp [placeM]; done))
  exact PF.ret1 rfl rfl ⟨by rw [hm] <;> rfl, rfl⟩

-- jacquard/moves.load: function 61
theorem pLoad_ct {F : PH} {H : Heap} (hin : InH F H) (r : Int) (p : Int) (hp : 0 ≤ p ∧ p < 20000) (ww0 : IntKind.i64.wrap r = r) :
    Ct Try.prog 61 #[.int .i64 r, .int .i64 p] H (fun v H' => ∃ F', PH.ext H F F' ∧ InH F' H' ∧ Kp H.size H H' ∧ rMach.ra F' v (loadM r p)) := by
  have hkp := Kp.refl H.size H
  have hx := PH.ext.refl (H := H) F
  refine Ct.enter (args := [.int .i64 r, .int .i64 p]) Try.func61 rfl rfl rfl (fun w0 hw0 => ?_)
  refine CF.seq (CF.region ?_)
  refine LF.chg (OpCh.allocB Try.zero39 rfl) ?_
  rintro _ H4 ⟨g4, rfl, eg4, sg4, kg4, hb4⟩
  have ng4 := hin.nope (Nat.le_of_eq eg4.symm)
  have lg4 := hkp.1
  have zkg4 := kg4.1
  replace hin := hin.kp kg4
  replace hkp := hkp.trans (kg4.mono hkp.1)
  clear kg4
  refine LF.nil (PF.next (CF.seq (CF.region (LF.step (OpOk.move rfl) (LF.step (OpOk.move rfl) ?_)))))
  refine LF.step (OpOk.sub rfl rfl (by omega)) ?_
  refine LF.step (OpOk.convI Try.underlying3 Try.underlying21 rfl rfl) ?_
  refine LF.step (OpOk.build (v := .agg #[.int .i64 30, .int .i64 r, .int .i64 0, .int .i64 0, .int .i64 0, .int .i64 0, .int .i32 (IntKind.i32.wrap (p - 16)), .slice none 0 0]) rfl (fun w => by kernel_rfl)) ?_
  refine LF.chg0 (OpCh.storeBA hb4 Try.sz39 rfl rfl rfl (allOne.mem (l := [.int .i64 30, .int .i64 r, .int .i64 0, .int .i64 0, .int .i64 0, .int .i64 0, .int .i32 (IntKind.i32.wrap (p - 16)), .slice none 0 0]) ⟨rfl, rfl, rfl, rfl, rfl, rfl, rfl, rfl, trivial⟩) (by decide)) ?_
  rintro _ Hw1 ⟨tw1, bw1⟩
  have ztw1 := tw1.1
  replace hin := hin.tw tw1 ng4
  replace hkp := Tw.kp' hkp tw1 (by omega)
  replace hb4 : Bx _ _ _ [.int .i64 30, .int .i64 r, .int .i64 0, .int .i64 0, .int .i64 0, .int .i64 0, .int .i32 (IntKind.i32.wrap (p - 16)), .slice none 0 0] := bw1
  clear bw1 tw1
  refine LF.nil (PF.next (CF.ret ?_))
  have hm : loadM r p = (⟨30, r, 0, 0, 0, 0, IntKind.i32.wrap (p - 16), []⟩) := by
    rfl
  exact PF.retC rfl rfl hb4 Try.agg39 Try.sz39 ⟨_, hx, hin, hkp, by rw [hm]; exact (rMach.mk (m := ⟨30, r, 0, 0, 0, 0, IntKind.i32.wrap (p - 16), []⟩) (rL.nil _) (by decide : IntKind.i64.wrap 30 = 30) ww0 (by decide : IntKind.i64.wrap 0 = 0) (by decide : IntKind.i64.wrap 0 = 0) (by decide : IntKind.i64.wrap 0 = 0) (by decide : IntKind.i64.wrap 0 = 0) (wrap_wrap _ _))⟩

-- jacquard/jacquardref11.load: function 65
theorem rLoad_ct {F : PH} {H : Heap} (hin : InH F H) (r : Int) (p : Int) (hp : 0 ≤ p ∧ p < 20000) (ww0 : IntKind.i64.wrap r = r) :
    Ct Try.prog 65 #[.int .i64 r, .int .i64 p] H (fun v H' => ∃ F', PH.ext H F F' ∧ InH F' H' ∧ Kp H.size H H' ∧ rMach.ra F' v (loadM r p)) := by
  have hkp := Kp.refl H.size H
  have hx := PH.ext.refl (H := H) F
  refine Ct.enter (args := [.int .i64 r, .int .i64 p]) Try.func65 rfl rfl rfl (fun w0 hw0 => ?_)
  refine CF.seq (CF.region ?_)
  refine LF.chg (OpCh.allocB Try.zero39 rfl) ?_
  rintro _ H4 ⟨g4, rfl, eg4, sg4, kg4, hb4⟩
  have ng4 := hin.nope (Nat.le_of_eq eg4.symm)
  have lg4 := hkp.1
  have zkg4 := kg4.1
  replace hin := hin.kp kg4
  replace hkp := hkp.trans (kg4.mono hkp.1)
  clear kg4
  refine LF.nil (PF.next (CF.seq (CF.region (LF.step (OpOk.move rfl) (LF.step (OpOk.move rfl) ?_)))))
  refine LF.step (OpOk.sub rfl rfl (by omega)) ?_
  refine LF.step (OpOk.convI Try.underlying3 Try.underlying21 rfl rfl) ?_
  refine LF.step (OpOk.build (v := .agg #[.int .i64 30, .int .i64 r, .int .i64 0, .int .i64 0, .int .i64 0, .int .i64 0, .int .i32 (IntKind.i32.wrap (p - 16)), .slice none 0 0]) rfl (fun w => by kernel_rfl)) ?_
  refine LF.chg0 (OpCh.storeBA hb4 Try.sz39 rfl rfl rfl (allOne.mem (l := [.int .i64 30, .int .i64 r, .int .i64 0, .int .i64 0, .int .i64 0, .int .i64 0, .int .i32 (IntKind.i32.wrap (p - 16)), .slice none 0 0]) ⟨rfl, rfl, rfl, rfl, rfl, rfl, rfl, rfl, trivial⟩) (by decide)) ?_
  rintro _ Hw1 ⟨tw1, bw1⟩
  have ztw1 := tw1.1
  replace hin := hin.tw tw1 ng4
  replace hkp := Tw.kp' hkp tw1 (by omega)
  replace hb4 : Bx _ _ _ [.int .i64 30, .int .i64 r, .int .i64 0, .int .i64 0, .int .i64 0, .int .i64 0, .int .i32 (IntKind.i32.wrap (p - 16)), .slice none 0 0] := bw1
  clear bw1 tw1
  refine LF.nil (PF.next (CF.ret ?_))
  have hm : loadM r p = (⟨30, r, 0, 0, 0, 0, IntKind.i32.wrap (p - 16), []⟩) := by
    rfl
  exact PF.retC rfl rfl hb4 Try.agg39 Try.sz39 ⟨_, hx, hin, hkp, by rw [hm]; exact (rMach.mk (m := ⟨30, r, 0, 0, 0, 0, IntKind.i32.wrap (p - 16), []⟩) (rL.nil _) (by decide : IntKind.i64.wrap 30 = 30) ww0 (by decide : IntKind.i64.wrap 0 = 0) (by decide : IntKind.i64.wrap 0 = 0) (by decide : IntKind.i64.wrap 0 = 0) (by decide : IntKind.i64.wrap 0 = 0) (wrap_wrap _ _))⟩

-- jacquard/moves.store: function 62
theorem pStore_ct {F : PH} {H : Heap} (hin : InH F H) (r : Int) (p : Int) (hp : 0 ≤ p ∧ p < 20000) (ww0 : IntKind.i64.wrap r = r) :
    Ct Try.prog 62 #[.int .i64 r, .int .i64 p] H (fun v H' => ∃ F', PH.ext H F F' ∧ InH F' H' ∧ Kp H.size H H' ∧ rMach.ra F' v (storeM r p)) := by
  have hkp := Kp.refl H.size H
  have hx := PH.ext.refl (H := H) F
  refine Ct.enter (args := [.int .i64 r, .int .i64 p]) Try.func62 rfl rfl rfl (fun w0 hw0 => ?_)
  refine CF.seq (CF.region ?_)
  refine LF.chg (OpCh.allocB Try.zero39 rfl) ?_
  rintro _ H4 ⟨g4, rfl, eg4, sg4, kg4, hb4⟩
  have ng4 := hin.nope (Nat.le_of_eq eg4.symm)
  have lg4 := hkp.1
  have zkg4 := kg4.1
  replace hin := hin.kp kg4
  replace hkp := hkp.trans (kg4.mono hkp.1)
  clear kg4
  refine LF.nil (PF.next (CF.seq (CF.region (LF.step (OpOk.move rfl) (LF.step (OpOk.move rfl) ?_)))))
  refine LF.step (OpOk.sub rfl rfl (by omega)) ?_
  refine LF.step (OpOk.convI Try.underlying3 Try.underlying21 rfl rfl) ?_
  refine LF.step (OpOk.build (v := .agg #[.int .i64 31, .int .i64 0, .int .i64 0, .int .i64 r, .int .i64 0, .int .i64 0, .int .i32 (IntKind.i32.wrap (p - 16)), .slice none 0 0]) rfl (fun w => by kernel_rfl)) ?_
  refine LF.chg0 (OpCh.storeBA hb4 Try.sz39 rfl rfl rfl (allOne.mem (l := [.int .i64 31, .int .i64 0, .int .i64 0, .int .i64 r, .int .i64 0, .int .i64 0, .int .i32 (IntKind.i32.wrap (p - 16)), .slice none 0 0]) ⟨rfl, rfl, rfl, rfl, rfl, rfl, rfl, rfl, trivial⟩) (by decide)) ?_
  rintro _ Hw1 ⟨tw1, bw1⟩
  have ztw1 := tw1.1
  replace hin := hin.tw tw1 ng4
  replace hkp := Tw.kp' hkp tw1 (by omega)
  replace hb4 : Bx _ _ _ [.int .i64 31, .int .i64 0, .int .i64 0, .int .i64 r, .int .i64 0, .int .i64 0, .int .i32 (IntKind.i32.wrap (p - 16)), .slice none 0 0] := bw1
  clear bw1 tw1
  refine LF.nil (PF.next (CF.ret ?_))
  have hm : storeM r p = (⟨31, 0, 0, r, 0, 0, IntKind.i32.wrap (p - 16), []⟩) := by
    rfl
  exact PF.retC rfl rfl hb4 Try.agg39 Try.sz39 ⟨_, hx, hin, hkp, by rw [hm]; exact (rMach.mk (m := ⟨31, 0, 0, r, 0, 0, IntKind.i32.wrap (p - 16), []⟩) (rL.nil _) (by decide : IntKind.i64.wrap 31 = 31) (by decide : IntKind.i64.wrap 0 = 0) (by decide : IntKind.i64.wrap 0 = 0) ww0 (by decide : IntKind.i64.wrap 0 = 0) (by decide : IntKind.i64.wrap 0 = 0) (wrap_wrap _ _))⟩

-- jacquard/jacquardref11.store: function 66
theorem rStore_ct {F : PH} {H : Heap} (hin : InH F H) (r : Int) (p : Int) (hp : 0 ≤ p ∧ p < 20000) (ww0 : IntKind.i64.wrap r = r) :
    Ct Try.prog 66 #[.int .i64 r, .int .i64 p] H (fun v H' => ∃ F', PH.ext H F F' ∧ InH F' H' ∧ Kp H.size H H' ∧ rMach.ra F' v (storeM r p)) := by
  have hkp := Kp.refl H.size H
  have hx := PH.ext.refl (H := H) F
  refine Ct.enter (args := [.int .i64 r, .int .i64 p]) Try.func66 rfl rfl rfl (fun w0 hw0 => ?_)
  refine CF.seq (CF.region ?_)
  refine LF.chg (OpCh.allocB Try.zero39 rfl) ?_
  rintro _ H4 ⟨g4, rfl, eg4, sg4, kg4, hb4⟩
  have ng4 := hin.nope (Nat.le_of_eq eg4.symm)
  have lg4 := hkp.1
  have zkg4 := kg4.1
  replace hin := hin.kp kg4
  replace hkp := hkp.trans (kg4.mono hkp.1)
  clear kg4
  refine LF.nil (PF.next (CF.seq (CF.region (LF.step (OpOk.move rfl) (LF.step (OpOk.move rfl) ?_)))))
  refine LF.step (OpOk.sub rfl rfl (by omega)) ?_
  refine LF.step (OpOk.convI Try.underlying3 Try.underlying21 rfl rfl) ?_
  refine LF.step (OpOk.build (v := .agg #[.int .i64 31, .int .i64 0, .int .i64 0, .int .i64 r, .int .i64 0, .int .i64 0, .int .i32 (IntKind.i32.wrap (p - 16)), .slice none 0 0]) rfl (fun w => by kernel_rfl)) ?_
  refine LF.chg0 (OpCh.storeBA hb4 Try.sz39 rfl rfl rfl (allOne.mem (l := [.int .i64 31, .int .i64 0, .int .i64 0, .int .i64 r, .int .i64 0, .int .i64 0, .int .i32 (IntKind.i32.wrap (p - 16)), .slice none 0 0]) ⟨rfl, rfl, rfl, rfl, rfl, rfl, rfl, rfl, trivial⟩) (by decide)) ?_
  rintro _ Hw1 ⟨tw1, bw1⟩
  have ztw1 := tw1.1
  replace hin := hin.tw tw1 ng4
  replace hkp := Tw.kp' hkp tw1 (by omega)
  replace hb4 : Bx _ _ _ [.int .i64 31, .int .i64 0, .int .i64 0, .int .i64 r, .int .i64 0, .int .i64 0, .int .i32 (IntKind.i32.wrap (p - 16)), .slice none 0 0] := bw1
  clear bw1 tw1
  refine LF.nil (PF.next (CF.ret ?_))
  have hm : storeM r p = (⟨31, 0, 0, r, 0, 0, IntKind.i32.wrap (p - 16), []⟩) := by
    rfl
  exact PF.retC rfl rfl hb4 Try.agg39 Try.sz39 ⟨_, hx, hin, hkp, by rw [hm]; exact (rMach.mk (m := ⟨31, 0, 0, r, 0, 0, IntKind.i32.wrap (p - 16), []⟩) (rL.nil _) (by decide : IntKind.i64.wrap 31 = 31) (by decide : IntKind.i64.wrap 0 = 0) (by decide : IntKind.i64.wrap 0 = 0) ww0 (by decide : IntKind.i64.wrap 0 = 0) (by decide : IntKind.i64.wrap 0 = 0) (wrap_wrap _ _))⟩

-- (jacquard/moves.state).at: function 42
theorem pAt_ct {F : PH} {H : Heap} (hin : InH F H) {a0 : Value} {l : List Int} (p0 : (rL (rI .i32)).rv F a0 l) (n : Int) :
    Ct Try.prog 42 #[a0, .int .i64 n] H (fun v H' => v = .int .i32 (atM l n) ∧ H' = H) := by
  have q0 := rL.len2 p0
  have hkp := Kp.refl H.size H
  have hx := PH.ext.refl (H := H) F
  refine Ct.enter (args := [a0, .int .i64 n]) Try.func42 rfl rfl rfl (fun w0 hw0 => ?_)
  refine CF.seq (CF.region (LF.step (OpOk.assign rfl) (LF.nil (PF.next (CF.seq (CF.seq (CF.region (LF.step (OpOk.move rfl) ?_))))))))
  refine LF.step (OpOk.lss rfl rfl) ?_
  refine LF.step (OpOk.move rfl) ?_
  refine LF.gstep rfl rfl (.f _) (fun hg => OpOk.move rfl) ?_
  refine LF.gstep rfl rfl (.f _) (fun hg => OpOk.move rfl) ?_
  refine LF.gstep rfl rfl (.f _) (fun hg => OpOk.lenL Try.underlying75 p0 (evg rfl hg)) ?_
  refine LF.gstep rfl rfl (.f _) (fun hg => OpOk.geq (evg rfl hg) (evg rfl hg)) ?_
  refine LF.step (OpOk.pickOr rfl rfl) ?_
  refine LF.nil (PF.next ?_)
  refine CF.if rfl (fun hc1 => ?_) (fun hc1 => ?_)
  refine CF.seq (CF.region (LF.step (OpOk.assign rfl) (LF.nil (PF.next (CF.ret (PF.thenRet ?_))))))
  have hm : atM l n = 0 := by
    first | (simp [atM, hc1]; done) | (unfold atM; (repeat' split) <;> first | rfl | (exfalso; omega) | (simp [atM, hc1]; done))
  exact PF.ret1 rfl rfl ⟨by rw [hm] <;> rfl, rfl⟩
  refine CF.skip (PF.next (CF.seq (CF.region (LF.step (OpOk.move rfl) (LF.step (OpOk.move rfl) ?_)))))
  refine LF.step (OpOk.idxL (i := (Int.toNat n)) Try.underlying75 Try.sz21 p0 rfl rfl (by omega) (by omega)) ?_
  refine LF.step (OpOk.ldI hin (rL.ix p0 (Int.toNat n) (by omega)) Try.one21 rfl) ?_
  refine LF.step (OpOk.assign rfl) (LF.nil (PF.next (CF.ret ?_)))
  have hm : atM l n = (ix l (Int.toNat n)) := by
    first | (simp [atM, hc1]; done) | (unfold atM; (repeat' split) <;> first | rfl | (exfalso; omega) | (simp [atM, hc1]; done))
  exact PF.ret1 rfl rfl ⟨by rw [hm] <;> rfl, rfl⟩

-- jacquard/jacquardref11.at: function 47
theorem rAt_ct {F : PH} {H : Heap} (hin : InH F H) {a0 : Value} {l : List Int} (p0 : (rL (rI .i32)).rv F a0 l) (n : Int) :
    Ct Try.prog 47 #[a0, .int .i64 n] H (fun v H' => v = .int .i32 (atM l n) ∧ H' = H) := by
  have q0 := rL.len2 p0
  have hkp := Kp.refl H.size H
  have hx := PH.ext.refl (H := H) F
  refine Ct.enter (args := [a0, .int .i64 n]) Try.func47 rfl rfl rfl (fun w0 hw0 => ?_)
  refine CF.seq (CF.region (LF.step (OpOk.assign rfl) (LF.nil (PF.next (CF.seq (CF.seq (CF.region (LF.step (OpOk.move rfl) ?_))))))))
  refine LF.step (OpOk.lss rfl rfl) ?_
  refine LF.step (OpOk.move rfl) ?_
  refine LF.gstep rfl rfl (.f _) (fun hg => OpOk.move rfl) ?_
  refine LF.gstep rfl rfl (.f _) (fun hg => OpOk.move rfl) ?_
  refine LF.gstep rfl rfl (.f _) (fun hg => OpOk.lenL Try.underlying44 p0 (evg rfl hg)) ?_
  refine LF.gstep rfl rfl (.f _) (fun hg => OpOk.geq (evg rfl hg) (evg rfl hg)) ?_
  refine LF.step (OpOk.pickOr rfl rfl) ?_
  refine LF.nil (PF.next ?_)
  refine CF.if rfl (fun hc1 => ?_) (fun hc1 => ?_)
  refine CF.seq (CF.region (LF.step (OpOk.assign rfl) (LF.nil (PF.next (CF.ret (PF.thenRet ?_))))))
  have hm : atM l n = 0 := by
    first | (simp [atM, hc1]; done) | (unfold atM; (repeat' split) <;> first | rfl | (exfalso; omega) | (simp [atM, hc1]; done))
  exact PF.ret1 rfl rfl ⟨by rw [hm] <;> rfl, rfl⟩
  refine CF.skip (PF.next (CF.seq (CF.region (LF.step (OpOk.move rfl) (LF.step (OpOk.move rfl) ?_)))))
  refine LF.step (OpOk.idxL (i := (Int.toNat n)) Try.underlying44 Try.sz21 p0 rfl rfl (by omega) (by omega)) ?_
  refine LF.step (OpOk.ldI hin (rL.ix p0 (Int.toNat n) (by omega)) Try.one21 rfl) ?_
  refine LF.step (OpOk.assign rfl) (LF.nil (PF.next (CF.ret ?_)))
  have hm : atM l n = (ix l (Int.toNat n)) := by
    first | (simp [atM, hc1]; done) | (unfold atM; (repeat' split) <;> first | rfl | (exfalso; omega) | (simp [atM, hc1]; done))
  exact PF.ret1 rfl rfl ⟨by rw [hm] <;> rfl, rfl⟩

-- (jacquard/moves.state).put: function 41
theorem pPut_ct {F : PH} {H : Heap} (hin : InH F H) {a0 : Value} {l : List Int} {B0 : Nat} (p0 : Gl (rI .i32) 21 F H B0 a0 l) (n : Int) (x : Int) (hl : l.length < 1073741824) (ww2 : IntKind.i32.wrap x = x) :
    Ct Try.prog 41 #[a0, .int .i64 n, .int .i32 x] H (fun v H' => v = .tuple #[] ∧ Kw (own1 a0) H H' ∧ Gl (rI .i32) 21 F H' B0 a0 (putM l n x)) := by
  have hkp := Kw.refl (own1 a0) H
  have hx := PH.ext.refl (H := H) F
  refine Ct.enter (args := [a0, .int .i64 n, .int .i32 x]) Try.func41 rfl rfl rfl (fun w0 hw0 => ?_)
  refine CF.seq (CF.region (LF.step (OpOk.move rfl) ?_))
  refine LF.step (OpOk.geq rfl rfl) ?_
  refine LF.step (OpOk.move rfl) ?_
  refine LF.gstep rfl rfl (.t _) (fun hg => OpOk.move rfl) ?_
  refine LF.gstep rfl rfl (.t _) (fun hg => OpOk.move rfl) ?_
  refine LF.gstep rfl rfl (.t _) (fun hg => OpOk.lenG Try.underlying75 p0 (evg rfl hg)) ?_
  refine LF.gstep rfl rfl (.t _) (fun hg => OpOk.lss (evg rfl hg) (evg rfl hg)) ?_
  refine LF.step (OpOk.pickAnd rfl rfl) ?_
  refine LF.nil (PF.next ?_)
  refine CF.if rfl (fun hc1 => ?_) (fun hc1 => ?_)
  refine CF.region (LF.step (OpOk.move rfl) (LF.step (OpOk.move rfl) (LF.step (OpOk.move rfl) ?_)))
  refine LF.step (OpOk.idxG (i := (Int.toNat n)) Try.underlying75 Try.sz21 p0 rfl rfl (by omega) (by first | omega | (simp only [List.length_replicate, List.length_set, List.length_append, List.length_cons, List.length_nil]; omega) | (simp only [List.length_append, List.length_take, List.length_replicate]; omega))) ?_
  refine LF.chg0 (OpCh.storeG p0 rfl Try.sz21 rfl rfl rfl (by first | omega | (simp only [List.length_replicate, List.length_set, List.length_append, List.length_cons, List.length_nil]; omega) | (simp only [List.length_append, List.length_take, List.length_replicate]; omega)) ⟨rfl, ww2⟩) ?_
  rintro _ Hw1 ⟨gw1, qw1, tw1, xw1⟩
  have ztw1 := tw1.1
  replace hin := hin.tw tw1 (p0.no _ qw1)
  replace hkp := hkp.tw tw1 (.inr qw1)
  replace p0 := xw1
  refine LF.nil ?_
  have hm : () = () := by
    rfl
  have hm0 : putM l n x = (List.set l (Int.toNat n) x) := by
    first | (simp [putM, *]; done) | (unfold putM; rw [if_neg (by omega)]; done) | (unfold putM; rw [if_pos (by omega)]; done)
  exact PF.end0 rfl ⟨rfl, hkp, by rw [hm0]; exact p0⟩
  refine CF.skip ?_
  have hm : () = () := by
    rfl
  have hm0 : putM l n x = l := by
    first | (simp [putM, *]; done) | (unfold putM; rw [if_neg (by omega)]; done) | (unfold putM; rw [if_pos (by omega)]; done)
  exact PF.end0 rfl ⟨rfl, hkp, by rw [hm0]; exact p0⟩

-- jacquard/jacquardref11.put: function 45
theorem rPut_ct {F : PH} {H : Heap} (hin : InH F H) {a0 : Value} {l : List Int} {B0 : Nat} (p0 : Gl (rI .i32) 21 F H B0 a0 l) (n : Int) (x : Int) (hl : l.length < 1073741824) (ww2 : IntKind.i32.wrap x = x) :
    Ct Try.prog 45 #[a0, .int .i64 n, .int .i32 x] H (fun v H' => v = .tuple #[] ∧ Kw (own1 a0) H H' ∧ Gl (rI .i32) 21 F H' B0 a0 (putM l n x)) := by
  have hkp := Kw.refl (own1 a0) H
  have hx := PH.ext.refl (H := H) F
  refine Ct.enter (args := [a0, .int .i64 n, .int .i32 x]) Try.func45 rfl rfl rfl (fun w0 hw0 => ?_)
  refine CF.seq (CF.region (LF.step (OpOk.move rfl) ?_))
  refine LF.step (OpOk.geq rfl rfl) ?_
  refine LF.step (OpOk.move rfl) ?_
  refine LF.gstep rfl rfl (.t _) (fun hg => OpOk.move rfl) ?_
  refine LF.gstep rfl rfl (.t _) (fun hg => OpOk.move rfl) ?_
  refine LF.gstep rfl rfl (.t _) (fun hg => OpOk.lenG Try.underlying44 p0 (evg rfl hg)) ?_
  refine LF.gstep rfl rfl (.t _) (fun hg => OpOk.lss (evg rfl hg) (evg rfl hg)) ?_
  refine LF.step (OpOk.pickAnd rfl rfl) ?_
  refine LF.nil (PF.next ?_)
  refine CF.if rfl (fun hc1 => ?_) (fun hc1 => ?_)
  refine CF.region (LF.step (OpOk.move rfl) (LF.step (OpOk.move rfl) (LF.step (OpOk.move rfl) ?_)))
  refine LF.step (OpOk.idxG (i := (Int.toNat n)) Try.underlying44 Try.sz21 p0 rfl rfl (by omega) (by first | omega | (simp only [List.length_replicate, List.length_set, List.length_append, List.length_cons, List.length_nil]; omega) | (simp only [List.length_append, List.length_take, List.length_replicate]; omega))) ?_
  refine LF.chg0 (OpCh.storeG p0 rfl Try.sz21 rfl rfl rfl (by first | omega | (simp only [List.length_replicate, List.length_set, List.length_append, List.length_cons, List.length_nil]; omega) | (simp only [List.length_append, List.length_take, List.length_replicate]; omega)) ⟨rfl, ww2⟩) ?_
  rintro _ Hw1 ⟨gw1, qw1, tw1, xw1⟩
  have ztw1 := tw1.1
  replace hin := hin.tw tw1 (p0.no _ qw1)
  replace hkp := hkp.tw tw1 (.inr qw1)
  replace p0 := xw1
  refine LF.nil ?_
  have hm : () = () := by
    rfl
  have hm0 : putM l n x = (List.set l (Int.toNat n) x) := by
    first | (simp [putM, *]; done) | (unfold putM; rw [if_neg (by omega)]; done) | (unfold putM; rw [if_pos (by omega)]; done)
  exact PF.end0 rfl ⟨rfl, hkp, by rw [hm0]; exact p0⟩
  refine CF.skip ?_
  have hm : () = () := by
    rfl
  have hm0 : putM l n x = l := by
    first | (simp [putM, *]; done) | (unfold putM; rw [if_neg (by omega)]; done) | (unfold putM; rw [if_pos (by omega)]; done)
  exact PF.end0 rfl ⟨rfl, hkp, by rw [hm0]; exact p0⟩

-- jacquard/jacquardref11.reg: function 46
theorem rReg_ct {F : PH} {H : Heap} (hin : InH F H) (n : Int) :
    Ct Try.prog 46 #[.int .i64 n] H (fun v H' => v = .int .i64 (regR n) ∧ H' = H) := by
  have hkp := Kp.refl H.size H
  have hx := PH.ext.refl (H := H) F
  refine Ct.enter (args := [.int .i64 n]) Try.func46 rfl rfl rfl (fun w0 hw0 => ?_)
  refine CF.seq (CF.region (LF.step (OpOk.assign rfl) (LF.nil (PF.next (CF.seq (CF.seq (CF.region (LF.step (OpOk.move rfl) ?_))))))))
  refine LF.step (OpOk.lss rfl rfl) ?_
  refine LF.step (OpOk.move rfl) ?_
  refine LF.gstep rfl rfl (.f _) (fun hg => OpOk.move rfl) ?_
  refine LF.gstep rfl rfl (.f _) (fun hg => OpOk.gtr (evg rfl hg) rfl) ?_
  refine LF.step (OpOk.pickOr rfl rfl) ?_
  refine LF.nil (PF.next ?_)
  refine CF.if rfl (fun hc1 => ?_) (fun hc1 => ?_)
  refine CF.seq (CF.region (LF.step (OpOk.assign rfl) (LF.nil (PF.next (CF.ret (PF.thenRet ?_))))))
  have hm : regR n = (-1) := by
    first | (simp [regR, hc1]; done) | (unfold regR; (repeat' split) <;> first | rfl | (exfalso; omega) | (simp [regR, hc1]; done))
  exact PF.ret1 rfl rfl ⟨by rw [hm] <;> rfl, rfl⟩
  refine CF.skip (PF.next (CF.seq (CF.region (LF.step (OpOk.move rfl) (LF.step (OpOk.assign rfl) (LF.nil (PF.next (CF.ret ?_))))))))
  have hm : regR n = n := by
    first | (simp [regR, hc1]; done) | (unfold regR; (repeat' split) <;> first | rfl | (exfalso; omega) | (simp [regR, hc1]; done))
  exact PF.ret1 rfl rfl ⟨by rw [hm] <;> rfl, rfl⟩

-- jacquard/moves.Do$1: function 43
theorem pReg_ct {F : PH} {H : Heap} (hin : InH F H) (n : Int) :
    Ct Try.prog 43 #[.int .i64 n] H (fun v H' => v = .int .i64 (regP n) ∧ H' = H) := by
  have hkp := Kp.refl H.size H
  have hx := PH.ext.refl (H := H) F
  refine Ct.enter (args := [.int .i64 n]) Try.func43 rfl rfl rfl (fun w0 hw0 => ?_)
  refine CF.seq (CF.region (LF.step (OpOk.assign rfl) (LF.nil (PF.next (CF.seq (CF.seq (CF.region (LF.step (OpOk.move rfl) ?_))))))))
  refine LF.step (OpOk.geq rfl rfl) ?_
  refine LF.nil (PF.next ?_)
  refine CF.if rfl (fun hc1 => ?_) (fun hc1 => ?_)
  refine CF.seq (CF.region (LF.step (OpOk.assign rfl) (LF.nil (PF.next (CF.ret (PF.thenRet ?_))))))
  have hm : regP n = (-1) := by
    first | (simp [regP, hc1]; done) | (unfold regP; (repeat' split) <;> first | rfl | (exfalso; omega) | (simp [regP, hc1]; done))
  exact PF.ret1 rfl rfl ⟨by rw [hm] <;> rfl, rfl⟩
  refine CF.skip (PF.next (CF.seq (CF.region (LF.step (OpOk.move rfl) (LF.step (OpOk.assign rfl) (LF.nil (PF.next (CF.ret ?_))))))))
  have hm : regP n = n := by
    first | (simp [regP, hc1]; done) | (unfold regP; (repeat' split) <;> first | rfl | (exfalso; omega) | (simp [regP, hc1]; done))
  exact PF.ret1 rfl rfl ⟨by rw [hm] <;> rfl, rfl⟩

-- jacquard/jacquardref11.slot: function 48
theorem rSlot_ct {F : PH} {H : Heap} (hin : InH F H) (n : Int) (ww0 : IntKind.i32.wrap n = n) :
    Ct Try.prog 48 #[.int .i32 n] H (fun v H' => v = .int .i64 (slotM n) ∧ H' = H) := by
  have hkp := Kp.refl H.size H
  have hx := PH.ext.refl (H := H) F
  have b0 := i32_rng ww0
  refine Ct.enter (args := [.int .i32 n]) Try.func48 rfl rfl rfl (fun w0 hw0 => ?_)
  refine CF.seq (CF.region (LF.step (OpOk.assign rfl) (LF.nil (PF.next (CF.seq (CF.seq (CF.region (LF.step (OpOk.move rfl) ?_))))))))
  refine LF.step (OpOk.lss rfl rfl) ?_
  refine LF.nil (PF.next ?_)
  refine CF.if rfl (fun hc1 => ?_) (fun hc1 => ?_)
  refine CF.seq (CF.region (LF.step (OpOk.assign rfl) (LF.nil (PF.next (CF.ret (PF.thenRet ?_))))))
  have hm : slotM n = (-1) := by
    first | (simp [slotM, hc1]; done) | (unfold slotM; (repeat' split) <;> first | rfl | (exfalso; omega) | (simp [slotM, hc1]; done))
  exact PF.ret1 rfl rfl ⟨by rw [hm] <;> rfl, rfl⟩
  refine CF.skip (PF.next (CF.seq (CF.region (LF.step (OpOk.move rfl) ?_))))
  refine LF.step (OpOk.convI Try.underlying21 Try.underlying3 rfl (up_i32_i64 ww0)) ?_
  refine LF.step (OpOk.add rfl rfl (by omega)) ?_
  refine LF.step (OpOk.assign rfl) (LF.nil (PF.next (CF.ret ?_)))
  have hm : slotM n = (16 + n) := by
    first | (simp [slotM, hc1]; done) | (unfold slotM; (repeat' split) <;> first | rfl | (exfalso; omega) | (simp [slotM, hc1]; done))
  exact PF.ret1 rfl rfl ⟨by rw [hm] <;> rfl, rfl⟩

-- jacquard/moves.Do$2: function 44
theorem pSlot_ct {F : PH} {H : Heap} (hin : InH F H) (n : Int) (ww0 : IntKind.i32.wrap n = n) :
    Ct Try.prog 44 #[.int .i32 n] H (fun v H' => v = .int .i64 (slotM n) ∧ H' = H) := by
  have hkp := Kp.refl H.size H
  have hx := PH.ext.refl (H := H) F
  have b0 := i32_rng ww0
  refine Ct.enter (args := [.int .i32 n]) Try.func44 rfl rfl rfl (fun w0 hw0 => ?_)
  refine CF.seq (CF.region (LF.step (OpOk.assign rfl) (LF.nil (PF.next (CF.seq (CF.seq (CF.region (LF.step (OpOk.move rfl) ?_))))))))
  refine LF.step (OpOk.lss rfl rfl) ?_
  refine LF.nil (PF.next ?_)
  refine CF.if rfl (fun hc1 => ?_) (fun hc1 => ?_)
  refine CF.seq (CF.region (LF.step (OpOk.assign rfl) (LF.nil (PF.next (CF.ret (PF.thenRet ?_))))))
  have hm : slotM n = (-1) := by
    first | (simp [slotM, hc1]; done) | (unfold slotM; (repeat' split) <;> first | rfl | (exfalso; omega) | (simp [slotM, hc1]; done))
  exact PF.ret1 rfl rfl ⟨by rw [hm] <;> rfl, rfl⟩
  refine CF.skip (PF.next (CF.seq (CF.region (LF.step (OpOk.move rfl) ?_))))
  refine LF.step (OpOk.convI Try.underlying21 Try.underlying3 rfl (up_i32_i64 ww0)) ?_
  refine LF.step (OpOk.add rfl rfl (by omega)) ?_
  refine LF.step (OpOk.assign rfl) (LF.nil (PF.next (CF.ret ?_)))
  have hm : slotM n = (16 + n) := by
    first | (simp [slotM, hc1]; done) | (unfold slotM; (repeat' split) <;> first | rfl | (exfalso; omega) | (simp [slotM, hc1]; done))
  exact PF.ret1 rfl rfl ⟨by rw [hm] <;> rfl, rfl⟩

-- jacquard/jacquardref11.spot: function 27
theorem spot_ct {F : PH} {H : Heap} (hin : InH F H) (n : Int) (hn : 0 ≤ n ∧ n < 20) :
    Ct Try.prog 27 #[.int .i64 n] H (fun v H' => v = .int .i64 (spotM n) ∧ H' = H) := by
  have hkp := Kp.refl H.size H
  have hx := PH.ext.refl (H := H) F
  refine Ct.enter (args := [.int .i64 n]) Try.func27 rfl rfl rfl (fun w0 hw0 => ?_)
  refine CF.seq (CF.region (LF.step (OpOk.assign rfl) (LF.nil (PF.next (CF.seq (CF.seq (CF.region (LF.step (OpOk.move rfl) ?_))))))))
  refine LF.step (OpOk.lss rfl rfl) ?_
  refine LF.nil (PF.next ?_)
  refine CF.if rfl (fun hc1 => ?_) (fun hc1 => ?_)
  refine CF.seq (CF.region (LF.step (OpOk.move rfl) (LF.step (OpOk.assign rfl) (LF.nil (PF.next (CF.ret (PF.thenRet ?_)))))))
  have hm : spotM n = n := by
    first | (simp [spotM, hc1]; done) | (unfold spotM; (repeat' split) <;> first | rfl | (exfalso; omega) | (simp [spotM, hc1]; done))
  exact PF.ret1 rfl rfl ⟨by rw [hm] <;> rfl, rfl⟩
  refine CF.skip (PF.next (CF.seq (CF.region (LF.step (OpOk.move rfl) ?_))))
  refine LF.step (OpOk.add rfl rfl (by omega)) ?_
  refine LF.step (OpOk.assign rfl) (LF.nil (PF.next (CF.ret ?_)))
  have hm : spotM n = (n + 4) := by
    first | (simp [spotM, hc1]; done) | (unfold spotM; (repeat' split) <;> first | rfl | (exfalso; omega) | (simp [spotM, hc1]; done))
  exact PF.ret1 rfl rfl ⟨by rw [hm] <;> rfl, rfl⟩

-- jacquard/jacquardlaw11.rest: function 18
theorem rest_ct {F : PH} {H : Heap} (hin : InH F H) (x : Int) (n : Int) (hn : 0 < n ∧ n < 100) :
    Ct Try.prog 18 #[.int .i64 x, .int .i64 n] H (fun v H' => v = .int .i64 (restM x n) ∧ H' = H) := by
  have hkp := Kp.refl H.size H
  have hx := PH.ext.refl (H := H) F
  have h1 := Int.tmod_lt_of_pos x hn.1
  have h2 := Int.lt_tmod_of_pos x hn.1
  refine Ct.enter (args := [.int .i64 x, .int .i64 n]) Try.func18 rfl rfl rfl (fun w0 hw0 => ?_)
  refine CF.seq (CF.region (LF.step (OpOk.assign rfl) (LF.nil (PF.next (CF.seq (CF.region (LF.step (OpOk.move rfl) (LF.step (OpOk.move rfl) ?_))))))))
  refine LF.step (OpOk.rem rfl rfl (by omega)) ?_
  refine LF.step (OpOk.move rfl) ?_
  refine LF.step (OpOk.add rfl rfl (by omega)) ?_
  refine LF.step (OpOk.move rfl) ?_
  refine LF.step (OpOk.rem rfl rfl (by omega)) ?_
  refine LF.step (OpOk.assign rfl) (LF.nil (PF.next (CF.ret ?_)))
  have hm : restM x n = (Int.tmod ((Int.tmod x n) + n) n) := by
    rfl
  exact PF.ret1 rfl rfl ⟨by rw [hm] <;> rfl, rfl⟩

-- jacquard/jacquardref11.Words: function 22
theorem words_ct {F : PH} {H : Heap} (hin : InH F H) {a0 : Value} {a : List Int} (p0 : (rL (rI .i32)).rv F a0 a) {a1 : Value} {b : List Int} (p1 : (rL (rI .i32)).rv F a1 b) :
    Ct Try.prog 22 #[a0, a1] H (fun v H' => v = .bool (rowsM a b) ∧ H' = H) := by
  have q0 := rL.len2 p0
  have q1 := rL.len2 p1
  have hkp := Kp.refl H.size H
  have hx := PH.ext.refl (H := H) F
  refine Ct.enter (args := [a0, a1]) Try.func22 rfl rfl rfl (fun w0 hw0 => ?_)
  refine CF.seq (CF.region (LF.step (OpOk.assign rfl) (LF.nil (PF.next (CF.seq (CF.seq (CF.region (LF.step (OpOk.move rfl) ?_))))))))
  refine LF.step (OpOk.lenL Try.underlying44 p0 rfl) ?_
  refine LF.step (OpOk.move rfl) ?_
  refine LF.step (OpOk.lenL Try.underlying44 p1 rfl) ?_
  refine LF.step (OpOk.neq rfl rfl) ?_
  refine LF.nil (PF.next ?_)
  refine CF.if rfl (fun hc1 => ?_) (fun hc1 => ?_)
  refine CF.seq (CF.region (LF.step (OpOk.assign rfl) (LF.nil (PF.next (CF.ret (PF.thenRet ?_))))))
  exact PF.ret1 rfl rfl ⟨by rw [rowsM_len (by omega)], rfl⟩
  refine CF.skip (PF.next (CF.seq (CF.seq (CF.region (LF.step (OpOk.assign rfl) (LF.nil (PF.next (CF.block ?_))))))))
  refine CF.loop (ι := Nat) (fun k H1 => k ≤ a.length ∧ a.take k = b.take k ∧ H1 = H) (fun k => [(0, a0), (1, a1), (5, .int .i64 (↑k))]) (fun k => a.length - k) 0 ⟨by omega, rfl, rfl⟩ ⟨rfl, rfl, eqI (by omega), trivial⟩ ?_
  rintro k H1 ⟨hk, hR, rfl⟩
  refine CF.seq (CF.seq (CF.region (LF.step (OpOk.move rfl) (LF.step (OpOk.move rfl) ?_))))
  refine LF.step (OpOk.lenL Try.underlying44 p0 rfl) ?_
  refine LF.step (OpOk.lss rfl rfl) ?_
  refine LF.nil (PF.next ?_)
  refine CF.if rfl (fun hc2 => ?_) (fun hc2 => ?_)
  refine CF.skip (PF.next (CF.seq (CF.block (CF.seq ?_))))
  refine CF.still Try.mixed (by kernel_rfl) ?_
  refine LS.step (OpOk.move rfl) (LS.step (OpOk.move rfl) ?_)
  refine LS.step (OpOk.idxL (i := k) Try.underlying44 Try.sz21 p0 rfl rfl rfl (by omega)) ?_
  refine LS.step (OpOk.ldI hin (rL.ix p0 k (by omega)) Try.one21 rfl) ?_
  refine LS.step (OpOk.move rfl) (LS.step (OpOk.move rfl) ?_)
  refine LS.step (OpOk.idxL (i := k) Try.underlying44 Try.sz21 p1 rfl rfl rfl (by omega)) ?_
  refine LS.step (OpOk.ldI hin (rL.ix p1 k (by omega)) Try.one21 rfl) ?_
  refine LS.step (OpOk.neq rfl rfl) ?_
  refine LS.done ?_
  refine PF.next ?_
  refine CF.if rfl (fun hc3 => ?_) (fun hc3 => ?_)
  refine CF.seq (CF.region (LF.step (OpOk.assign rfl) (LF.nil (PF.next (CF.ret (PF.blockRet (PF.thenRet (PF.thenRet (PF.blockRet (PF.thenRet ?_))))))))))
  exact PF.ret1 rfl rfl ⟨by rw [rowsM_at (k := k) (by omega) (by omega) hc3], rfl⟩
  refine CF.skip (PF.blockNormal (PF.next (CF.region (LF.step (OpOk.move rfl) ?_))))
  refine LF.step (OpOk.add rfl rfl (by omega)) ?_
  refine LF.step (OpOk.assign rfl) (LF.nil ?_)
  exact PF.again (k + 1) ⟨by omega, by rw [take_ix (by omega), take_ix (by omega), hR, hc3], rfl⟩ ⟨rfl, rfl, eqI (by omega), trivial⟩ (by omega)
  refine CF.exit (PF.thenExit (PF.thenExit (PF.blockHere (PF.next (CF.seq (CF.region (LF.step (OpOk.assign rfl) (LF.nil (PF.next (CF.ret ?_))))))))))
  exact PF.ret1 rfl rfl ⟨by rw [rowsM_yes (k := k) (by omega) (by omega) hR], rfl⟩

-- slices.Clone[[]int32,int32]: function 40
theorem clone32_ct {F : PH} {H : Heap} (hin : InH F H) {a0 : Value} {l : List Int} (p0 : (rL (rI .i32)).rv F a0 l) :
    Ct Try.prog 40 #[a0] H (fun v H' => Gl (rI .i32) 21 F H' H.size v (id l) ∧ Kp H.size H H') := by
  have q0 := rL.len2 p0
  have hkp := Kp.refl H.size H
  have hx := PH.ext.refl (H := H) F
  refine Ct.enter (args := [a0]) Try.func40 rfl rfl rfl (fun w0 hw0 => ?_)
  refine CF.seq (CF.region (LF.step (OpOk.assign rfl) (LF.nil (PF.next (CF.seq (CF.seq (CF.region (LF.step (OpOk.move rfl) ?_))))))))
  refine LF.stepE (OpOk.eqlNilS Try.underlying44 p0 (by decide) rfl rfl) ?_
  rintro _ ⟨b4, rfl, hnil4⟩
  refine LF.nil (PF.next ?_)
  refine CF.if rfl (fun hc1 => ?_) (fun hc1 => ?_)
  refine CF.seq (CF.region (LF.step (OpOk.assign rfl) (LF.nil (PF.next (CF.ret (PF.thenRet ?_))))))
  have hm : id l = ([]) := by
    first | rfl | (rw [hnil4 hc1]; rfl) | simp
  exact PF.ret1 rfl rfl ⟨by rw [hm]; exact Gl.nil _ _ _, hkp⟩
  refine CF.skip (PF.next (CF.seq (CF.region ?_)))
  refine LF.chg (OpCh.litL (F := F) (r := (rI .i32)) (l := []) (us := []) (cs := []) Try.underlying44 Try.info21 (by decide) rfl rfl rfl trivial) ?_
  rintro _ H5 ⟨g5, rfl, e5, s5, k5, x5⟩
  have l5 := hkp.1
  replace x5 := (x5 hin).base l5
  have zk5 := k5.1
  replace hin := hin.kp k5
  replace hkp := hkp.trans (k5.mono hkp.1)
  refine LF.step (OpOk.move rfl) ?_
  refine LF.chg (OpCh.appL (r := (rI .i32)) Try.underlying44 Try.info21 (by decide) rfl rfl rfl x5 p0 hin (by first | (simp only [List.length_append, List.length_take, List.length_drop, List.length_nil, List.length_cons, List.length_set, List.length_replicate]; omega) | (simp; done) | (simp; omega) | omega) (by first | omega | exact hkp.1)) ?_
  rintro v7 H7 ⟨x7, gb7, ob7⟩
  replace hin := hin.grown gb7 x5.no
  replace hkp := gb7.kp hkp (Nat.le_refl _) (fun k0 hk0 => (x5.blk k0 hk0).1)
  rw [List.nil_append] at x7
  refine LF.step (OpOk.assign rfl) (LF.nil (PF.next (CF.ret ?_)))
  have hm : id l = l := by
    first | rfl | (rw [hnil4 hc1]; rfl) | simp
  exact PF.ret1 rfl rfl ⟨by rw [hm]; exact x7, hkp⟩

end Go.Proofs.Ytcceglmmpbdhiaa
