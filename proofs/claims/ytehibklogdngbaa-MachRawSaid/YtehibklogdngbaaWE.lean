/- Walks. Conditions: each contract names its own. -/
import Derived.Test.YtehibklogdngbaaWD
namespace Go.Proofs.Ytehibklogdngbaa
set_option linter.unusedVariables false
set_option linter.unusedSimpArgs false
set_option linter.unusedSectionVars false
open Go.JE

theorem Try.ent62 : Ent Try.prog 62 := ⟨_, Try.func62, by kernel_rfl, by kernel_rfl⟩
/- ---------------------------------------------- phis, all at once -/
def isFrom (from' : Int) (x : D.In) : Bool := decide (x.From = from')
def phiVal (from' : Int) (regs : List Int) (p : D.Phi) : Int := ix regs (Int.toNat (ix p.In (Int.toNat (idxM p.In (isFrom from')))).Val)
def setP : List Int → List D.Phi → List Int → List Int
  | rs, p :: l, v :: vs => setP (rs.set (Int.toNat p.Dst) v) l vs
  | rs, _, _ => rs
def phisM (l : List D.Phi) (from' : Int) (regs : List Int) : List Int := setP regs l (l.map (phiVal from' regs))
theorem idx_lt {α : Type} (l : List α) (q : α → Bool) : idxM l q < l.length := by
  unfold idxM
  cases h : l.findIdx? q with
  | none => simp only; omega
  | some i => obtain ⟨hi, _⟩ := List.findIdx?_eq_some_iff_getElem.1 h; simp only; omega
theorem setP_len : ∀ (rs : List Int) (l : List D.Phi) (vs : List Int), (setP rs l vs).length = rs.length
  | rs, p :: l, v :: vs => by rw [setP, setP_len]; simp
  | rs, [], _ => by cases ‹List Int› <;> rfl
  | rs, _ :: _, [] => rfl
theorem setP_end (rs : List Int) (vs : List Int) : setP rs [] vs = rs := by cases vs <;> rfl
theorem setP_next {rs rs2 : List Int} {l : List D.Phi} {vs : List Int} {k : Nat} (h1 : k < l.length) (h2 : k < vs.length) (h : setP rs l vs = setP rs2 (l.drop k) (vs.drop k)) : setP rs l vs = setP (rs2.set (Int.toNat (ix l k).Dst) (ix vs k)) (l.drop (k + 1)) (vs.drop (k + 1)) := by
  rw [h, drop_ix (l := l) h1, drop_ix (l := vs) h2, setP]
def phiOk (from' : Int) (n : Nat) (p : D.Phi) : Prop := 0 ≤ p.Dst ∧ p.Dst < n ∧ 0 ≤ idxM p.In (isFrom from') ∧ ∀ x ∈ p.In, 0 ≤ x.Val ∧ x.Val < n
theorem phiOk.v {from' : Int} {n : Nat} {p : D.Phi} (h : phiOk from' n p) : 0 ≤ (ix p.In (Int.toNat (idxM p.In (isFrom from')))).Val ∧ (ix p.In (Int.toNat (idxM p.In (isFrom from')))).Val < n := by
  have := idx_lt p.In (isFrom from')
  exact h.2.2.2 _ (ix_mem (by have := h.2.2.1; omega))
theorem gl_wrap {E B : Nat} {F : PH} {H : Heap} {v : Value} {l : List Int} (h : Gl (rI .i32) E F H B v l) (i : Nat) (hi : i < l.length) : IntKind.i32.wrap (ix l i) = ix l i := h.wr hi

-- jacquard/mach.phis$1: function 62
theorem pPhis1_ct {F : PH} {H : Heap} (hin : InH F H) {a0 : Value} {x : D.In} (p0 : rIn.ra F a0 x) {c : Int} {g1 : Nat} (hb1 : Bx H g1 3 [.int .i64 c]) :
    Ct Try.prog 62 #[a0, .pointer (some ⟨g1, 0, none⟩)] H (fun v H' => v = .bool (isFrom c x) ∧ Kp H.size H H') := by
  have p0k := rIn.any p0
  obtain rfl := rIn.open p0
  have lt1 := hb1.lt
  have hkp := Kp.refl H.size H
  have hx := PH.ext.refl (H := H) F
  refine Ct.enter (args := [.agg #[.int .i64 x.From, .int .i64 x.Val], .pointer (some ⟨g1, 0, none⟩)]) Try.func62 rfl rfl rfl (fun w0 hw0 => ?_)
  refine CF.seq (CF.region ?_)
  refine LF.chg (OpCh.boxB rfl rfl) ?_
  rintro _ H2 ⟨g2, rfl, eg2, sg2, kg2, hb2⟩
  have ng2 := hin.nope (Nat.le_of_eq eg2.symm)
  have lg2 := hkp.1
  have zkg2 := kg2.1
  replace hin := hin.kp kg2
  replace hkp := hkp.trans (kg2.mono hkp.1)
  replace hb1 := hb1.kp kg2
  clear kg2
  refine LF.step (OpOk.assign rfl) (LF.nil (PF.next (CF.seq (CF.region ?_))))
  refine LF.step (OpOk.fieldAddr (Try.fld82_0) rfl) ?_
  refine LF.step (OpOk.ldBx hb2 Try.one3 rfl rfl) ?_
  refine LF.step (OpOk.ldBx hb1 Try.one3 rfl rfl) ?_
  refine LF.step (OpOk.eql rfl rfl) ?_
  refine LF.step (OpOk.assign rfl) (LF.nil (PF.next (CF.ret ?_)))
  have hm : isFrom c x = (decide (x.From = c)) := by
    rfl
  exact PF.ret1 rfl rfl ⟨by rw [hm] <;> rfl, hkp⟩

-- jacquard/mach.phis: function 28
set_option maxRecDepth 4000 in
theorem pPhis_ct {F : PH} {H : Heap} (hin : InH F H) {a0 : Value} {l : List D.Phi} (p0 : (rL rPhi).rv F a0 l) (from' : Int) {a2 : Value} {regs : List Int} {B2 : Nat} (p2 : Gl (rI .i32) 21 F H B2 a2 regs) (hrl0 : regs.length < 1073741824) (hp : ∀ p ∈ l, phiOk from' regs.length p) :
    Ct Try.prog 28 #[a0, .int .i64 from', a2] H (fun v H' => v = .tuple #[] ∧ Kw (own1 a2) H H' ∧ Gl (rI .i32) 21 F H' B2 a2 (phisM l (from') regs)) := by
  have q0 := rL.len2 p0
  have hkp := Kw.refl (own1 a2) H
  have hx := PH.ext.refl (H := H) F
  refine Ct.enter (args := [a0, .int .i64 (from'), a2]) Try.func28 rfl rfl rfl (fun w0 hw0 => ?_)
  refine CF.seq (CF.region ?_)
  refine LF.chg (OpCh.boxB rfl rfl) ?_
  rintro _ H4 ⟨g4, rfl, eg4, sg4, kg4, hb4⟩
  have ng4 := hin.nope (Nat.le_of_eq eg4.symm)
  have lg4 := hkp.1
  have zkg4 := kg4.1
  replace hin := hin.kp kg4
  replace hkp := hkp.trans (kg4.mono hkp.1)
  replace p2 := p2.kp kg4
  clear kg4
  refine LF.nil (PF.next (CF.seq (CF.region (LF.step (OpOk.assign rfl) (LF.nil (PF.next (CF.seq (CF.seq (CF.region (LF.step (OpOk.move rfl) ?_))))))))))
  refine LF.step (OpOk.lenL Try.underlying58 p0 rfl) ?_
  refine LF.step (OpOk.move rfl) (LF.nil (PF.next (CF.block ?_)))
  have x9006 := (fun (H9 : Heap) (_ : InH F H9) => (Gl.nil F H9 H.size : Gl (rI .i32) 21 F H9 H.size (.slice none 0 0) [])) _ hin
  have ap9006_p2 : ∀ k9, (Value.slice none 0 0).ownBlock = some k9 → (a2 : Value).ownBlock ≠ some k9 := fun _ h9 => by cases h9
  have app2_9006 := ap_sym ap9006_p2
  refine CF.loop (ι := Nat × Value × List Int) (fun z9 H1 => z9.1 ≤ l.length ∧ z9.2.2 = (l.take z9.1).map (phiVal from' regs) ∧ InH F H1 ∧ Kw (own1 a2) H H1 ∧ Bx H1 g4 3 [.int .i64 (from')] ∧ Gl (rI .i32) 21 F H1 B2 a2 regs ∧ Gl (rI .i32) 21 F H1 H.size z9.2.1 z9.2.2 ∧ (∀ k9, (a2 : Value).ownBlock = some k9 → (z9.2.1 : Value).ownBlock ≠ some k9)) (fun z9 => [(0, a0), (2, a2), (4, .pointer (some ⟨g4, 0, none⟩)), (6, z9.2.1), (12, a0), (13, .int .i64 (↑(List.length l))), (14, .int .i64 (↑z9.1))]) (fun z9 => l.length - z9.1) (0, .slice none 0 0, []) ⟨by dsimp only; omega, rfl, hin, hkp, hb4, p2, x9006, app2_9006⟩ ⟨rfl, rfl, rfl, rfl, rfl, rfl, eqI (by omega), trivial⟩ ?_
  clear hin hkp hb4 p2 x9006 app2_9006
  rintro ⟨k, vo, vs⟩ H1 ⟨hk, hvs, hin, hkp, hb4, p2, x9006, app2_9006⟩
  dsimp only at hk hvs hb4 p2 x9006 app2_9006 ⊢
  have ap9006_p2 := ap_sym app2_9006
  have hvl : vs.length = k := by rw [hvs]; simp; omega
  refine CF.seq (CF.region ?_)
  refine LF.step (OpOk.lss rfl rfl) ?_
  refine LF.nil (PF.next (CF.seq ?_))
  refine CF.if rfl (fun hc1 => ?_) (fun hc1 => ?_)
  have hpk := hp _ (ix_mem (l := l) (i := k) (by omega))
  have hpv := hpk.v
  have hpi := idx_lt (ix l k).In (isFrom from')
  obtain ⟨hd0, hd1, hi0, _⟩ := hpk
  refine CF.skip (PF.next (CF.seq (CF.block (CF.seq (CF.region ?_)))))
  refine LF.step (OpOk.idxL (i := k) Try.underlying58 Try.sz70 p0 rfl rfl rfl (by omega)) ?_
  refine LF.stepE (OpOk.ldA hin (rL.ix p0 k (by omega)) Try.agg70 Try.sz70 rfl) ?_
  intro v17 h17
  have h17k := rPhi.any h17
  obtain ⟨v17c1, rfl, h17c1⟩ := rPhi.open h17
  have h17c1q := rL.len2 h17c1
  refine LF.chg (OpCh.allocB Try.zero70 rfl) ?_
  rintro _ H8 ⟨g8, rfl, eg8, sg8, kg8, hb8⟩
  have ng8 := hin.nope (Nat.le_of_eq eg8.symm)
  have lg8 := hkp.1
  have zkg8 := kg8.1
  replace hin := hin.kp kg8
  replace hkp := hkp.trans (kg8.mono hkp.1)
  replace hb4 := hb4.kp kg8
  replace p2 := p2.kp kg8
  replace x9006 := x9006.kp kg8
  clear kg8
  refine LF.chg0 (OpCh.storeBA hb8 Try.sz70 rfl rfl rfl (allOne.mem (l := [.int .i64 ((ix l k).Dst), v17c1]) ⟨rfl, (h17c1.one1), trivial⟩) (by decide)) ?_
  rintro _ Hw1 ⟨tw1, bw1⟩
  have ztw1 := tw1.1
  replace hin := hin.tw tw1 ng8
  replace hkp := hkp.tw tw1 (.inl (by omega))
  replace hb4 := hb4.tw tw1 (Bx.ne hb4 hb8 (by decide))
  replace p2 := p2.tw tw1 (p2.neBx hb8 (by decide))
  replace x9006 := x9006.tw tw1 (x9006.neBx hb8 (by decide))
  replace hb8 : Bx _ _ _ [.int .i64 ((ix l k).Dst), v17c1] := bw1
  clear bw1 tw1
  refine LF.nil (PF.next (CF.seq (CF.region ?_)))
  refine LF.step (OpOk.fieldAddr (Try.fld70_1) rfl) ?_
  refine LF.step (OpOk.ldBx hb8 Try.one68 rfl rfl) ?_
  refine LF.step (OpOk.makeFunc1 rfl) ?_
  refine LF.call (OpCall.fn Try.ent61 rfl rfl) (idxFIn_ct hin h17c1 62 [.pointer (some ⟨g4, 0, none⟩)] Try.ent62 (isFrom from') (fun H' hin' k9 x _ u hu => pPhis1_ct hin' hu (hb4.kp k9))) ?_
  rintro _ H21 ⟨rfl, k21⟩
  have zk21 := k21.1
  replace hin := hin.kp k21
  replace hkp := hkp.trans (k21.mono hkp.1)
  replace hb4 := hb4.kp k21
  replace hb8 := hb8.kp k21
  replace p2 := p2.kp k21
  replace x9006 := x9006.kp k21
  refine LF.step (OpOk.assign rfl) (LF.nil (PF.next (CF.region (LF.step (OpOk.move rfl) (LF.step (OpOk.move rfl) ?_)))))
  refine LF.step (OpOk.fieldAddr (Try.fld70_1) rfl) ?_
  refine LF.step (OpOk.ldBx hb8 Try.one68 rfl rfl) ?_
  refine LF.step (OpOk.move rfl) ?_
  refine LF.step (OpOk.idxL (i := (Int.toNat (idxM ((ix l k).In) (isFrom from')))) Try.underlying68 Try.sz82 h17c1 rfl rfl (by omega) (by omega)) ?_
  refine LF.step (OpOk.fieldAddr (Try.fld82_1) rfl) ?_
  refine LF.step (OpOk.ldI hin (rIn.at_Val (rL.ix h17c1 (Int.toNat (idxM ((ix l k).In) (isFrom from'))) (by omega))) Try.one3 rfl) ?_
  refine LF.step (OpOk.idxG (i := (Int.toNat ((ix ((ix l k).In) (Int.toNat (idxM ((ix l k).In) (isFrom from')))).Val))) Try.underlying25 Try.sz21 p2 rfl rfl (by omega) (by first | omega | (simp only [List.length_replicate, List.length_set, List.length_append, List.length_cons, List.length_nil]; omega))) ?_
  refine LF.step (OpOk.ldGI p2 (by first | omega | (simp only [List.length_replicate, List.length_set, List.length_append, List.length_cons, List.length_nil]; omega)) Try.one21 rfl) ?_
  refine LF.appV (r := (rI .i32)) (a := ix regs (Int.toNat ((ix ((ix l k).In) (Int.toNat (idxM ((ix l k).In) (isFrom from')))).Val))) Try.underlying25 Try.info21 (by decide) rfl rfl rfl ⟨rfl, (Gl.wr p2 (by omega))⟩ x9006 hin (by first | (simp only [List.length_append, List.length_take, List.length_drop, List.length_nil, List.length_cons, List.length_set, List.length_replicate]; omega) | (simp; done) | (simp; omega) | omega) rfl ?_ hkp.1
  intro v33 H33 x33 gb33 nn33 ob33
  replace hin := hin.grown gb33 x9006.no
  replace hkp := gb33.kw hkp (fun k0 hk0 => (x9006.blk k0 hk0).1)
  replace hb4 := hb4.of (gb33.2 _ hb4.lt (Ne.symm (by first | exact x9006.neBx hb4 (by decide) | exact nq9006_4)))
  replace hb8 := hb8.of (gb33.2 _ hb8.lt (Ne.symm (by first | exact x9006.neBx hb8 (by decide) | exact nq9006_8)))
  have ap33_p2 := ap_grow ap9006_p2 p2.lt ob33
  have app2_33 := ap_sym ap33_p2
  replace p2 := p2.of (fun k0 hk0 => gb33.2 k0 (p2.blk k0 hk0).2 (fun e9 => ap9006_p2 _ e9.symm hk0))
  refine LF.step (OpOk.assign rfl) (LF.nil (PF.blockNormal (PF.next (CF.region ?_))))
  refine LF.step (OpOk.add rfl rfl (by omega)) ?_
  refine LF.step (OpOk.move rfl) (LF.nil ?_)
  exact PF.again (k + 1, v33, vs ++ [ix regs (Int.toNat ((ix ((ix l k).In) (Int.toNat (idxM ((ix l k).In) (isFrom from')))).Val))]) ⟨by dsimp only; omega, by dsimp only; rw [hvs, take_ix (by omega), List.map_append]; rfl, hin, hkp, hb4, p2, x33, app2_33⟩ ⟨rfl, rfl, rfl, rfl, rfl, rfl, eqI (by omega), trivial⟩ (by omega)
  have hvl2 : vs.length = l.length := by omega
  refine CF.exit (PF.thenExit (PF.thenExit (PF.blockHere (PF.next (CF.seq (CF.region (LF.step (OpOk.move rfl) ?_)))))))
  refine LF.step (OpOk.lenL Try.underlying58 p0 rfl) ?_
  refine LF.step (OpOk.move rfl) (LF.nil (PF.next (CF.block ?_)))
  refine CF.loop (ι := Nat × List Int) (fun z9 H1 => z9.1 ≤ l.length ∧ setP regs l vs = setP z9.2 (l.drop z9.1) (vs.drop z9.1) ∧ z9.2.length = regs.length ∧ InH F H1 ∧ Kw (own1 a2) H H1 ∧ Bx H1 g4 3 [.int .i64 (from')] ∧ Gl (rI .i32) 21 F H1 B2 a2 z9.2 ∧ Gl (rI .i32) 21 F H1 H.size vo vs) (fun z9 => [(2, a2), (6, vo), (35, a0), (36, .int .i64 (↑(List.length l))), (37, .int .i64 (↑z9.1))]) (fun z9 => l.length - z9.1) (0, regs) ⟨by dsimp only; omega, rfl, rfl, hin, hkp, hb4, p2, x9006⟩ ⟨rfl, rfl, rfl, rfl, eqI (by omega), trivial⟩ ?_
  clear hin hkp hb4 p2 x9006
  rintro ⟨k, rs⟩ H1 ⟨hk, hS, hrl, hin, hkp, hb4, p2, x9006⟩
  dsimp only at hk hS hrl hb4 p2 x9006 ⊢
  refine CF.seq (CF.region ?_)
  refine LF.step (OpOk.lss rfl rfl) ?_
  refine LF.nil (PF.next (CF.seq ?_))
  refine CF.if rfl (fun hc2 => ?_) (fun hc2 => ?_)
  have hpk := hp _ (ix_mem (l := l) (i := k) (by omega))
  obtain ⟨hd0, hd1, hi0, _⟩ := hpk
  refine CF.skip (PF.next (CF.seq (CF.block (CF.seq (CF.region (LF.step (OpOk.move rfl) ?_))))))
  refine LF.step (OpOk.idxL (i := k) Try.underlying58 Try.sz70 p0 rfl rfl rfl (by omega)) ?_
  refine LF.stepE (OpOk.ldA hin (rL.ix p0 k (by omega)) Try.agg70 Try.sz70 rfl) ?_
  intro v41 h41
  have h41k := rPhi.any h41
  obtain ⟨v41c1, rfl, h41c1⟩ := rPhi.open h41
  have h41c1q := rL.len2 h41c1
  refine LF.chg (OpCh.allocB Try.zero70 rfl) ?_
  rintro _ H11 ⟨g11, rfl, eg11, sg11, kg11, hb11⟩
  have ng11 := hin.nope (Nat.le_of_eq eg11.symm)
  have lg11 := hkp.1
  have zkg11 := kg11.1
  replace hin := hin.kp kg11
  replace hkp := hkp.trans (kg11.mono hkp.1)
  replace hb4 := hb4.kp kg11
  replace p2 := p2.kp kg11
  replace x9006 := x9006.kp kg11
  clear kg11
  refine LF.step (OpOk.assign rfl) ?_
  refine LF.chg0 (OpCh.storeBA hb11 Try.sz70 rfl rfl rfl (allOne.mem (l := [.int .i64 ((ix l k).Dst), v41c1]) ⟨rfl, (h41c1.one1), trivial⟩) (by decide)) ?_
  rintro _ Hw2 ⟨tw2, bw2⟩
  have ztw2 := tw2.1
  replace hin := hin.tw tw2 ng11
  replace hkp := hkp.tw tw2 (.inl (by omega))
  replace hb4 := hb4.tw tw2 (Bx.ne hb4 hb11 (by decide))
  replace p2 := p2.tw tw2 (p2.neBx hb11 (by decide))
  replace x9006 := x9006.tw tw2 (x9006.neBx hb11 (by decide))
  replace hb11 : Bx _ _ _ [.int .i64 ((ix l k).Dst), v41c1] := bw2
  clear bw2 tw2
  refine LF.nil (PF.next ?_)
  refine CF.tail 8 Try.mixed (by kernel_rfl) ?_
  refine LS.step (OpOk.move rfl) ?_
  refine LS.step (OpOk.fieldAddr (Try.fld70_0) rfl) ?_
  refine LS.step (OpOk.ldBx hb11 Try.one3 rfl rfl) ?_
  refine LS.step (OpOk.move rfl) (LS.step (OpOk.move rfl) ?_)
  refine LS.step (OpOk.idxG (i := k) Try.underlying25 Try.sz21 x9006 rfl rfl rfl (by first | omega | (simp only [List.length_replicate, List.length_set, List.length_append, List.length_cons, List.length_nil]; omega))) ?_
  refine LS.step (OpOk.ldGI x9006 (by first | omega | (simp only [List.length_replicate, List.length_set, List.length_append, List.length_cons, List.length_nil]; omega)) Try.one21 rfl) ?_
  refine LS.step (OpOk.idxG (i := (Int.toNat ((ix l k).Dst))) Try.underlying25 Try.sz21 p2 rfl rfl (by omega) (by first | omega | (simp only [List.length_replicate, List.length_set, List.length_append, List.length_cons, List.length_nil]; omega))) ?_
  refine LS.tail ?_
  refine LF.chg0 (OpCh.storeG p2 rfl Try.sz21 rfl rfl rfl (by first | omega | (simp only [List.length_replicate, List.length_set, List.length_append, List.length_cons, List.length_nil]; omega)) ⟨rfl, (Gl.wr x9006 (by omega))⟩) ?_
  rintro _ Hw3 ⟨gw3, qw3, tw3, xw3⟩
  have ztw3 := tw3.1
  replace hin := hin.tw tw3 (p2.no _ qw3)
  replace hkp := hkp.tw tw3 (.inr qw3)
  replace hb4 := hb4.tw tw3 (ne_of_own qw3 (p2.neBx hb4 (by decide)))
  replace hb11 := hb11.tw tw3 (ne_of_own qw3 (p2.neBx hb11 (by decide)))
  replace x9006 := x9006.tw tw3 (app2_9006 _ qw3)
  replace p2 := xw3
  refine LF.nil (PF.blockNormal (PF.next (CF.region ?_)))
  refine LF.step (OpOk.add rfl rfl (by omega)) ?_
  refine LF.step (OpOk.move rfl) (LF.nil ?_)
  exact PF.again (k + 1, List.set rs (Int.toNat ((ix l k).Dst)) (ix vs k)) ⟨by dsimp only; omega, setP_next (by omega) (by omega) hS, by dsimp only; rw [List.length_set]; exact hrl, hin, hkp, hb4, p2, x9006⟩ ⟨rfl, rfl, rfl, rfl, eqI (by omega), trivial⟩ (by omega)
  refine CF.exit (PF.thenExit (PF.thenExit (PF.blockHere ?_)))
  have hm : () = () := by
    rfl
  have hm2 : phisM l (from') regs = rs := by
    have e1 : k = l.length := by omega
    unfold phisM
    rw [List.take_of_length_le (by omega)] at hvs
    rw [← hvs, hS, List.drop_of_length_le (by omega), setP_end]
  exact PF.end0 rfl ⟨rfl, hkp, by rw [hm2]; exact p2⟩

end Go.Proofs.Ytehibklogdngbaa
