/- Walks. Conditions: each contract names its own. -/
import Derived.Test.YtcceglmmpbdhiaaW9
namespace Go.Proofs.Ytcceglmmpbdhiaa
set_option linter.unusedVariables false
set_option linter.unusedSimpArgs false
set_option linter.unusedSectionVars false
set_option maxRecDepth 8000
open Go.JE

theorem Try.agg56 : ∃ d, Try.prog.underlying 56 = some d ∧ (match d with | .struct _ | .array _ _ => true | _ => false) = true := ⟨_, Try.underlying56, rfl⟩
theorem Try.ent49 : Ent Try.prog 49 := ⟨_, Try.func49, by kernel_rfl, by kernel_rfl⟩
theorem Try.ent50 : Ent Try.prog 50 := ⟨_, Try.func50, by kernel_rfl, by kernel_rfl⟩
theorem Try.ent53 : Ent Try.prog 53 := ⟨_, Try.func53, by kernel_rfl, by kernel_rfl⟩
theorem Try.ent54 : Ent Try.prog 54 := ⟨_, Try.func54, by kernel_rfl, by kernel_rfl⟩
theorem Try.ent55 : Ent Try.prog 55 := ⟨_, Try.func55, by kernel_rfl, by kernel_rfl⟩
theorem Try.sz56 : Sz Try.prog 56 2 := by unfold Sz; kernel_rfl
theorem Try.zero56 : (Try.prog.info? 56).bind (·.zero) = some (.agg #[.slice none 0 0, .int .i64 0]) := by kernel_rfl
/- ---------------------------------------------- the order -/
def withoutAll : List D.Move → List Int → List D.Move
  | mv, [] => mv
  | mv, p :: c => withoutAll (withoutM mv p) c
def minM : List D.Move → Int → Int
  | [], x => x
  | m :: r, x => minM r (min x m.To)
def leftM (l : List D.Move) : List D.Move := l.filter (fun m => decide (m.To ≠ m.From))
def leastM (mv : List D.Move) : Int := minM mv (ix mv 0).To
def orderGo (scr sp : Int) : Nat → List D.Move → List D.Mach → Int → List D.Mach × Int
  | 0, _, l, e => (l, e)
  | f + 1, mv, l, e =>
    if mv.length = 0 ∨ e ≠ 0 then (l, e)
    else if 0 ≤ freeM mv then orderGo scr sp f (withoutM mv (freeM mv)) (bringL scr sp (freeM mv) (srcM mv (freeM mv)) l e) (bringE scr sp (freeM mv) (srcM mv (freeM mv)) e)
    else orderGo scr sp f (withoutAll mv (circM mv (leastM mv))) (roundR scr sp (circM mv (leastM mv)) l e).1 (roundR scr sp (circM mv (leastM mv)) l e).2
def orderR (l : List D.Move) (scr sp : Int) : List D.Mach × Int :=
  if wrongM l scr sp ≠ 0 then ([], wrongM l scr sp)
  else if (orderGo scr sp (leftM l).length (leftM l) [] 0).2 ≠ 0 then ([], (orderGo scr sp (leftM l).length (leftM l) [] 0).2)
  else ((orderGo scr sp (leftM l).length (leftM l) [] 0).1, 0)
def orderG (l : List D.Move) (scr sp : Int) : D.jacquardref11_Got := ⟨(orderR l scr sp).1, (orderR l scr sp).2⟩
theorem freeF_cases (all : List D.Move) : ∀ (r : List D.Move) (b : Int), freeF all r b = b ∨ ∃ m ∈ r, freeF all r b = m.To ∧ usedM all m.To = false
  | [], _ => .inl rfl
  | m :: r, b => by
    unfold freeF
    split
    · rename_i h
      rcases freeF_cases all r m.To with e | ⟨m', h1, h2, h3⟩
      · exact .inr ⟨m, List.mem_cons_self .., e, h.1⟩
      · exact .inr ⟨m', List.mem_cons_of_mem _ h1, h2, h3⟩
    · rcases freeF_cases all r b with e | ⟨m', h1, h2, h3⟩
      · exact .inl e
      · exact .inr ⟨m', List.mem_cons_of_mem _ h1, h2, h3⟩
theorem freeM_mem {mv : List D.Move} (h : 0 ≤ freeM mv) : ∃ m ∈ mv, m.To = freeM mv ∧ usedM mv m.To = false := by
  unfold freeM at *
  rcases freeF_cases mv mv (-1) with e | ⟨m, h1, h2, h3⟩
  · rw [e] at h; omega
  · exact ⟨m, h1, h2.symm, h3⟩
theorem minM_mem : ∀ (mv : List D.Move) (x : Int), minM mv x = x ∨ ∃ m ∈ mv, m.To = minM mv x
  | [], _ => .inl rfl
  | m :: r, x => by
    unfold minM
    rcases minM_mem r (min x m.To) with e | ⟨m', h1, h2⟩
    · rw [e]
      by_cases h : x ≤ m.To
      · left; omega
      · right; exact ⟨m, List.mem_cons_self .., by omega⟩
    · exact .inr ⟨m', List.mem_cons_of_mem _ h1, h2⟩
theorem leastM_mem {mv : List D.Move} (h : 0 < mv.length) : ∃ m ∈ mv, m.To = leastM mv := by
  rcases minM_mem mv (ix mv 0).To with e | h1
  · exact ⟨ix mv 0, ix_mem h, e.symm⟩
  · exact h1
theorem withoutM_lt {mv : List D.Move} {p : Int} (h : ∃ m ∈ mv, m.To = p) : (withoutM mv p).length < mv.length := by
  obtain ⟨m, hm, e⟩ := h
  unfold withoutM
  refine Nat.lt_of_le_of_ne (List.length_filter_le _ _) fun h9 => ?_
  have := (List.length_filter_eq_length_iff.1 h9) m hm
  simp [e] at this
theorem withoutM_le (mv : List D.Move) (p : Int) : (withoutM mv p).length ≤ mv.length := List.length_filter_le _ _
theorem withoutAll_le : ∀ (c : List Int) (mv : List D.Move), (withoutAll mv c).length ≤ mv.length
  | [], _ => Nat.le_refl _
  | p :: c, mv => Nat.le_trans (withoutAll_le c _) (withoutM_le mv p)
theorem withoutM_ok {mv : List D.Move} (h : okM mv = true) (p : Int) : okM (withoutM mv p) = true := by
  unfold okM withoutM at *
  rw [List.all_eq_true] at *
  intro m hm
  exact h m (List.mem_filter.1 hm).1
theorem withoutAll_ok : ∀ (c : List Int) {mv : List D.Move} (_ : okM mv = true), okM (withoutAll mv c) = true
  | [], _, h => h
  | p :: c, _, h => withoutAll_ok c (withoutM_ok h p)
theorem circGo_good {mv : List D.Move} (h : okM mv = true) (x : Int) : ∀ (f : Nat) (p : Int), p < 16400 → (circGo mv x f p).length ≤ f ∧ ∀ q ∈ circGo mv x f p, 0 ≤ q ∧ q < 16400
  | 0, _, _ => by simp [circGo]
  | f + 1, p, hp => by
    unfold circGo
    split
    · rename_i h1
      obtain ⟨h2, h3⟩ := circGo_good h x f (srcM mv p) (srcM_rng h p).2
      refine ⟨by rw [List.length_cons]; omega, fun q hq => ?_⟩
      rcases List.mem_cons.1 hq with rfl | hq
      · exact ⟨h1.2, hp⟩
      · exact h3 q hq
    · simp
theorem circM_good {mv : List D.Move} (h : okM mv = true) {x : Int} (hx : 0 ≤ x ∧ x < 16400) (hl : mv.length < 999) : goodC (circM mv x) ∧ (circM mv x).length ≤ mv.length + 1 := by
  obtain ⟨h1, h2⟩ := circGo_good h x mv.length (srcM mv x) (srcM_rng h x).2
  refine ⟨⟨by simp [circM], by unfold circM; rw [List.length_cons]; omega, fun q hq => ?_⟩, by unfold circM; rw [List.length_cons]; omega⟩
  rcases List.mem_cons.1 hq with rfl | hq
  · exact hx
  · exact h2 q hq
theorem leftM_ok {l : List D.Move} (h : okM l = true) : okM (leftM l) = true := by
  unfold okM leftM at *
  rw [List.all_eq_true] at *
  intro m hm
  exact h m (List.mem_filter.1 hm).1
theorem leftM_len (l : List D.Move) : (leftM l).length ≤ l.length := List.length_filter_le _ _
theorem wrongM_ok {l : List D.Move} {scr sp : Int} (h : wrongM l scr sp = 0) : okM l = true ∧ nodupM l = true ∧ scr < 16 ∧ sp < 16383 := by
  unfold wrongM at h
  split at h; (· omega)
  split at h; (· omega)
  split at h; (· omega)
  split at h; (· omega)
  split at h; (· omega)
  rename_i h1 h2 h3 h4 h5
  exact ⟨by simpa using h1, by simpa using h2, by omega, by omega⟩
theorem orderGo_free {scr sp : Int} {f : Nat} {mv : List D.Move} {l : List D.Mach} (h1 : mv.length ≠ 0) (h2 : 0 ≤ freeM mv) (hf : mv.length ≤ f) :
    orderGo scr sp f mv l 0 = orderGo scr sp (f - 1) (withoutM mv (freeM mv)) (bringL scr sp (freeM mv) (srcM mv (freeM mv)) l 0) (bringE scr sp (freeM mv) (srcM mv (freeM mv)) 0) := by
  obtain ⟨g, rfl⟩ : ∃ g, f = g + 1 := ⟨f - 1, by omega⟩
  rw [orderGo, if_neg (by omega), if_pos h2]; rfl
theorem orderGo_circ {scr sp : Int} {f : Nat} {mv : List D.Move} {l : List D.Mach} (h1 : mv.length ≠ 0) (h2 : ¬ 0 ≤ freeM mv) (hf : mv.length ≤ f) :
    orderGo scr sp f mv l 0 = orderGo scr sp (f - 1) (withoutAll mv (circM mv (leastM mv))) (roundR scr sp (circM mv (leastM mv)) l 0).1 (roundR scr sp (circM mv (leastM mv)) l 0).2 := by
  obtain ⟨g, rfl⟩ : ∃ g, f = g + 1 := ⟨f - 1, by omega⟩
  rw [orderGo, if_neg (by omega), if_neg h2]; rfl
theorem orderGo_end {scr sp : Int} {f : Nat} {mv : List D.Move} {l : List D.Mach} {e : Int} (h : mv.length = 0 ∨ e ≠ 0) : orderGo scr sp f mv l e = (l, e) := by
  cases f with
  | zero => rfl
  | succ g => rw [orderGo, if_pos h]
theorem withoutAll_step {mv : List D.Move} {c : List Int} {k : Nat} (h : k < c.length) : withoutAll mv (c.drop k) = withoutAll (withoutM mv (ix c k)) (c.drop (k + 1)) := by rw [drop_ix h]; rfl
theorem minM_step {mv : List D.Move} {x : Int} {k : Nat} (h : k < mv.length) : minM (mv.drop k) x = minM (mv.drop (k + 1)) (min x (ix mv k).To) := by rw [drop_ix h]; rfl
theorem leastM_rng {mv : List D.Move} (h : okM mv = true) (h0 : 0 < mv.length) : 0 ≤ leastM mv ∧ leastM mv < 16400 := by
  obtain ⟨m, hm, e⟩ := leastM_mem h0
  have := okM_mem h hm
  omega
theorem circ_lt {mv : List D.Move} (h0 : 0 < mv.length) : (withoutAll mv (circM mv (leastM mv))).length < mv.length := by
  show (withoutAll (withoutM mv (leastM mv)) (circGo mv (leastM mv) mv.length (srcM mv (leastM mv)))).length < _
  exact Nat.lt_of_le_of_lt (withoutAll_le _ _) (withoutM_lt (leastM_mem h0))
theorem free_rng {mv : List D.Move} (h : okM mv = true) (h0 : 0 ≤ freeM mv) : (0 ≤ freeM mv ∧ freeM mv < 16400) ∧ 0 ≤ srcM mv (freeM mv) ∧ srcM mv (freeM mv) < 16400 := by
  obtain ⟨m, hm, e, _⟩ := freeM_mem h0
  have h1 := okM_mem h hm
  refine ⟨by omega, ?_⟩
  unfold srcM
  have key : ∀ (l : List D.Move) (o : Int), (∃ m ∈ l, m.To = freeM mv) → ∃ m ∈ l, sourceM l (freeM mv) o = m.From := by
    intro l
    induction l with
    | nil => rintro _ ⟨m, hm, _⟩; cases hm
    | cons a l ih =>
      rintro o ⟨m, hm, he⟩
      unfold sourceM
      rcases sourceM_cases (freeM mv) l (if a.To = freeM mv then a.From else o) with h9 | ⟨m', h2, _, h3⟩
      · by_cases ha : a.To = freeM mv
        · rw [h9, if_pos ha]; exact ⟨a, List.mem_cons_self .., rfl⟩
        · rcases List.mem_cons.1 hm with rfl | hm
          · exact absurd he ha
          · obtain ⟨m', h2, h3⟩ := ih (if a.To = freeM mv then a.From else o) ⟨m, hm, he⟩
            exact ⟨m', List.mem_cons_of_mem _ h2, h3⟩
      · exact ⟨m', List.mem_cons_of_mem _ h2, h3⟩
  obtain ⟨m', h2, h3⟩ := key mv (-1) ⟨m, hm, e⟩
  have := okM_mem h h2
  omega
theorem wrongM_rng (l : List D.Move) (scr sp : Int) : 0 ≤ wrongM l scr sp ∧ wrongM l scr sp ≤ 43 := by unfold wrongM; (repeat' split) <;> omega
theorem bringE_rng {scr sp a b e : Int} (h : 0 ≤ e ∧ e ≤ 43) : 0 ≤ bringE scr sp a b e ∧ bringE scr sp a b e ≤ 43 := by unfold bringE; (repeat' split) <;> omega
theorem bringsR_rng {scr sp : Int} : ∀ (a : List (Int × Int)) (l : List D.Mach) {e : Int} (_ : 0 ≤ e ∧ e ≤ 43), 0 ≤ (bringsR scr sp a l e).2 ∧ (bringsR scr sp a l e).2 ≤ 43
  | [], _, _, h => h
  | q :: a, l, e, h => bringsR_rng a _ (bringE_rng h)
theorem roundR_rng {scr sp : Int} (c : List Int) (l : List D.Mach) {e : Int} (h : 0 ≤ e ∧ e ≤ 43) : 0 ≤ (roundR scr sp c l e).2 ∧ (roundR scr sp c l e).2 ≤ 43 := by
  unfold roundR; split
  · exact h
  · split
    · show (0 : Int) ≤ 43 ∧ (43 : Int) ≤ 43; omega
    · exact bringsR_rng _ _ h
theorem orderG_e {l : List D.Move} {scr sp : Int} (h : ¬ wrongM l scr sp = 0) : orderG l scr sp = ⟨[], wrongM l scr sp⟩ := by unfold orderG orderR; rw [if_pos h]
theorem orderG_er {l : List D.Move} {scr sp e : Int} {f : Nat} {mv : List D.Move} {o : List D.Mach} (h : wrongM l scr sp = 0) (hO : orderGo scr sp (leftM l).length (leftM l) [] 0 = orderGo scr sp f mv o e) (h4 : ¬ 0 < (mv.length : Int) ∨ ¬ e = 0) (h8 : ¬ e = 0) :
    orderG l scr sp = ⟨[], e⟩ := by
  rw [orderGo_end (f := f) (mv := mv) (l := o) (e := e) (by omega)] at hO
  unfold orderG orderR; rw [if_neg (by omega), hO, if_pos h8]
theorem orderG_ok {l : List D.Move} {scr sp e : Int} {f : Nat} {mv : List D.Move} {o : List D.Mach} (h : wrongM l scr sp = 0) (hO : orderGo scr sp (leftM l).length (leftM l) [] 0 = orderGo scr sp f mv o e) (h4 : ¬ 0 < (mv.length : Int) ∨ ¬ e = 0) (h8 : e = 0) :
    orderG l scr sp = ⟨o, 0⟩ := by
  rw [orderGo_end (f := f) (mv := mv) (l := o) (e := e) (by omega)] at hO
  unfold orderG orderR; rw [if_neg (by omega), hO, if_neg (by simpa using h8)]

theorem freeM_ex {mv : List D.Move} (h : 0 ≤ freeM mv) : ∃ m ∈ mv, m.To = freeM mv := by obtain ⟨m, h1, h2, _⟩ := freeM_mem h; exact ⟨m, h1, h2⟩

-- jacquard/jacquardref11.Order: function 28
set_option maxHeartbeats 1000000 in
theorem rOrder_ct {F : PH} {H : Heap} (hin : InH F H) {a0 : Value} {l : List D.Move} (p0 : (rL rMove).rv F a0 l) (scr : Int) (sp : Int) (hl9 : l.length ≤ 30) (ww1 : IntKind.i64.wrap scr = scr) (ww2 : IntKind.i64.wrap sp = sp) :
    Ct Try.prog 28 #[a0, .int .i64 scr, .int .i64 sp] H (fun v H' => ∃ F', PH.ext H F F' ∧ InH F' H' ∧ Kp H.size H H' ∧ rjacquardref11_Got.ra F' v (orderG l scr sp)) := by
  have q0 := rL.len2 p0
  have hkp := Kp.refl H.size H
  have hx := PH.ext.refl (H := H) F
  have b1 := i64_rng ww1
  have b2 := i64_rng ww2
  refine Ct.enter (args := [a0, .int .i64 scr, .int .i64 sp]) Try.func28 rfl rfl rfl (fun w0 hw0 => ?_)
  refine CF.seq (CF.region ?_)
  refine LF.chg (OpCh.allocB Try.zero56 rfl) ?_
  rintro _ H6 ⟨g6, rfl, eg6, sg6, kg6, hb6⟩
  have ng6 := hin.nope (Nat.le_of_eq eg6.symm)
  have lg6 := hkp.1
  have zkg6 := kg6.1
  replace hin := hin.kp kg6
  replace hkp := hkp.trans (kg6.mono hkp.1)
  clear kg6
  refine LF.nil (PF.next (CF.seq (CF.region (LF.step (OpOk.move rfl) (LF.step (OpOk.move rfl) (LF.step (OpOk.move rfl) ?_))))))
  refine LF.call (OpCall.fn Try.ent49 rfl rfl) (rWrong_ct hin p0 scr sp ww2) ?_
  rintro _ H19 ⟨rfl, k19⟩
  have zk19 := k19.1
  replace hin := hin.kp k19
  replace hkp := hkp.trans (k19.mono hkp.1)
  replace hb6 := hb6.kp k19
  have w19_0 : IntKind.i64.wrap (wrongM l scr sp) = wrongM l scr sp := IntWalk.i64_in _ (by have := wrongM_rng l scr sp; omega)
  refine LF.step (OpOk.assign rfl) (LF.nil (PF.next (CF.seq (CF.seq (CF.region (LF.step (OpOk.move rfl) ?_))))))
  refine LF.step (OpOk.neq rfl rfl) ?_
  refine LF.nil (PF.next ?_)
  refine CF.if rfl (fun hc1 => ?_) (fun hc1 => ?_)
  refine CF.seq (CF.region (LF.step (OpOk.move rfl) ?_))
  refine LF.step (OpOk.build (v := .agg #[.slice none 0 0, .int .i64 (wrongM l scr sp)]) rfl (fun w => by kernel_rfl)) ?_
  refine LF.chg0 (OpCh.storeBA hb6 Try.sz56 rfl rfl rfl (allOne.mem (l := [.slice none 0 0, .int .i64 (wrongM l scr sp)]) ⟨rfl, rfl, trivial⟩) (by decide)) ?_
  rintro _ Hw1 ⟨tw1, bw1⟩
  have ztw1 := tw1.1
  replace hin := hin.tw tw1 ng6
  replace hkp := Tw.kp' hkp tw1 (by omega)
  replace hb6 : Bx _ _ _ [.slice none 0 0, .int .i64 (wrongM l scr sp)] := bw1
  clear bw1 tw1
  refine LF.nil (PF.next (CF.ret (PF.thenRet ?_)))
  have hm : orderG l scr sp = (⟨[], wrongM l scr sp⟩) := by
    first | exact orderG_e hc1 | exact orderG_er hc1 hO hc4 hc8 | exact orderG_ok hc1 hO hc4 hc8
  exact PF.retC rfl rfl hb6 Try.agg56 Try.sz56 ⟨_, hx, hin, hkp, by rw [hm]; exact (rjacquardref11_Got.mk (m := ⟨[], wrongM l scr sp⟩) (rL.nil _) w19_0)⟩
  obtain ⟨hok, hnd, hs16, hsp16⟩ := wrongM_ok hc1
  refine CF.skip (PF.next (CF.seq (CF.region (LF.step (OpOk.move rfl) (LF.step (OpOk.move rfl) ?_)))))
  refine LF.step (OpOk.build (v := .agg #[.slice none 0 0, .int .i64 scr, .int .i64 sp, .int .i64 0]) rfl (fun w => by kernel_rfl)) ?_
  refine LF.chg (OpCh.boxB rfl rfl) ?_
  rintro _ H27 ⟨g27, rfl, eg27, sg27, kg27, hb27⟩
  have ng27 := hin.nope (Nat.le_of_eq eg27.symm)
  have lg27 := hkp.1
  have zkg27 := kg27.1
  replace hin := hin.kp kg27
  replace hkp := hkp.trans (kg27.mono hkp.1)
  replace hb6 := hb6.kp kg27
  clear kg27
  refine LF.step (OpOk.assign rfl) (LF.nil (PF.next (CF.seq (CF.region (LF.step (OpOk.assign rfl) (LF.nil (PF.next (CF.seq (CF.seq (CF.region (LF.step (OpOk.assign rfl) ?_)))))))))))
  refine LF.nil (PF.next (CF.block ?_))
  have x9009 := (fun (H9 : Heap) (_ : InH F H9) => (Gl.nil F H9 H.size : Gl rMove 31 F H9 H.size (.slice none 0 0) [])) _ hin
  refine CF.loop (ι := Nat × Value × List D.Move) (fun z9 H1 => z9.1 ≤ l.length ∧ z9.2.2 = leftM (l.take z9.1) ∧ InH F H1 ∧ Kp H.size H H1 ∧ Bx H1 g6 56 [.slice none 0 0, .int .i64 0] ∧ Bx H1 g27 84 [.slice none 0 0, .int .i64 scr, .int .i64 sp, .int .i64 0] ∧ Gl rMove 31 F H1 H.size z9.2.1 z9.2.2) (fun z9 => [(0, a0), (6, .pointer (some ⟨g6, 0, none⟩)), (8, .pointer (some ⟨g27, 0, none⟩)), (9, z9.2.1), (10, .int .i64 (↑z9.1))]) (fun z9 => l.length - z9.1) (0, .slice none 0 0, []) ⟨by dsimp only; omega, rfl, hin, hkp, hb6, hb27, x9009⟩ ⟨rfl, rfl, rfl, rfl, eqI (by omega), trivial⟩ ?_
  clear hin hkp hb6 hb27 x9009
  rintro ⟨k, va, mv⟩ H1 ⟨hk, hR, hin, hkp, hb6, hb27, x9009⟩
  dsimp only at hk hR hb6 hb27 x9009 ⊢
  have hml : mv.length ≤ k := by rw [hR]; exact Nat.le_trans (leftM_len _) (by simp; omega)
  refine CF.seq (CF.seq (CF.region (LF.step (OpOk.move rfl) (LF.step (OpOk.move rfl) ?_))))
  refine LF.step (OpOk.lenL Try.underlying22 p0 rfl) ?_
  refine LF.step (OpOk.lss rfl rfl) ?_
  refine LF.nil (PF.next ?_)
  refine CF.if rfl (fun hc2 => ?_) (fun hc2 => ?_)
  refine CF.skip (PF.next (CF.seq (CF.block (CF.seq ?_))))
  refine CF.still Try.mixed (by kernel_rfl) ?_
  refine LS.step (OpOk.move rfl) (LS.step (OpOk.move rfl) ?_)
  refine LS.step (OpOk.idxL (i := k) Try.underlying22 Try.sz31 p0 rfl rfl rfl (by omega)) ?_
  refine LS.step (OpOk.fieldAddr (Try.fld31_0) rfl) ?_
  refine LS.step (OpOk.ldI hin (rMove.at_To (rL.ix p0 k (by omega))) Try.one3 rfl) ?_
  refine LS.step (OpOk.move rfl) (LS.step (OpOk.move rfl) ?_)
  refine LS.step (OpOk.idxL (i := k) Try.underlying22 Try.sz31 p0 rfl rfl rfl (by omega)) ?_
  refine LS.step (OpOk.fieldAddr (Try.fld31_1) rfl) ?_
  refine LS.step (OpOk.ldI hin (rMove.at_From (rL.ix p0 k (by omega))) Try.one3 rfl) ?_
  refine LS.step (OpOk.neq rfl rfl) ?_
  refine LS.done ?_
  refine PF.next ?_
  refine CF.if rfl (fun hc3 => ?_) (fun hc3 => ?_)
  refine CF.region (LF.step (OpOk.move rfl) (LF.step (OpOk.move rfl) (LF.step (OpOk.move rfl) ?_)))
  refine LF.step (OpOk.idxL (i := k) Try.underlying22 Try.sz31 p0 rfl rfl rfl (by omega)) ?_
  refine LF.stepE (OpOk.ldA hin (rL.ix p0 k (by omega)) Try.agg31 Try.sz31 rfl) ?_
  intro v49 h49
  have h49k := rMove.any h49
  obtain rfl := rMove.open h49
  refine LF.appA (r := rMove) (a := ix l k) Try.underlying22 Try.info31 (by decide) rfl rfl h49 x9009 hin (by first | (simp only [List.length_append, List.length_take, List.length_drop, List.length_nil, List.length_cons, List.length_set, List.length_replicate]; omega) | (simp; done) | (simp; omega) | omega) rfl ?_ hkp.1
  intro v51 H51 x51 gb51 nn51 ob51
  replace hin := hin.grown gb51 x9009.no
  replace hkp := gb51.kp hkp (Nat.le_refl _) (fun k0 hk0 => (x9009.blk k0 hk0).1)
  replace hb6 := hb6.of (gb51.2 _ hb6.lt (Ne.symm (by first | exact x9009.neBx hb6 (by decide) | exact nq9009_6)))
  replace hb27 := hb27.of (gb51.2 _ hb27.lt (Ne.symm (by first | exact x9009.neBx hb27 (by decide) | exact nq9009_27)))
  refine LF.step (OpOk.assign rfl) (LF.nil (PF.blockNormal (PF.next (CF.region (LF.step (OpOk.move rfl) ?_)))))
  refine LF.step (OpOk.add rfl rfl (by omega)) ?_
  refine LF.step (OpOk.assign rfl) (LF.nil ?_)
  exact PF.again (k + 1, v51, mv ++ [ix l k]) ⟨by dsimp only; omega, by dsimp only; unfold leftM at hR ⊢; rw [hR, take_ix (by omega), List.filter_append]; simp [List.filter, *], hin, hkp, hb6, hb27, x51⟩ ⟨rfl, rfl, rfl, rfl, eqI (by omega), trivial⟩ (by omega)
  refine CF.skip (PF.blockNormal (PF.next (CF.region (LF.step (OpOk.move rfl) ?_))))
  refine LF.step (OpOk.add rfl rfl (by omega)) ?_
  refine LF.step (OpOk.assign rfl) (LF.nil ?_)
  exact PF.again (k + 1, va, mv) ⟨by dsimp only; omega, by dsimp only; unfold leftM at hR ⊢; rw [hR, take_ix (by omega), List.filter_append]; simp [List.filter, *], hin, hkp, hb6, hb27, x9009⟩ ⟨rfl, rfl, rfl, rfl, eqI (by omega), trivial⟩ (by omega)
  refine CF.exit (PF.thenExit (PF.thenExit (PF.blockHere (PF.next (CF.seq (CF.block ?_))))))
  obtain ⟨Fz2, hxz2, lez2, hinz2, noz2, hrz2⟩ := x9009.freezeX hin hx (Nat.le_refl _) (by first | (simp only [List.length_append, List.length_take, List.length_drop, List.length_nil, List.length_cons, List.length_set, List.length_replicate]; omega) | (simp; done) | (simp; omega) | omega)
  replace hin := hinz2
  replace hx := hxz2
  have le0 := lez2
  replace ng6 := (noz2 _ (x9009.neBx hb6 (by decide))).trans ng6
  replace ng27 := (noz2 _ (x9009.neBx hb27 (by decide))).trans ng27
  have x9027 := (fun (H9 : Heap) (_ : InH Fz2 H9) => (Gl.nil Fz2 H9 H.size : Gl rMach 39 Fz2 H9 H.size (.slice none 0 0) [])) _ hin
  refine CF.loop (ι := Nat × Value × List D.Move × Value × List D.Mach × Int × PH) (fun z9 H1 => (0 ≤ z9.2.2.2.2.2.1 ∧ z9.2.2.2.2.2.1 ≤ 43) ∧ z9.2.2.1.length ≤ z9.1 ∧ z9.1 ≤ l.length ∧ okM z9.2.2.1 = true ∧ z9.2.2.2.2.1.length + 128 * z9.1 ≤ 128 * l.length ∧ orderGo scr sp (leftM l).length (leftM l) [] 0 = orderGo scr sp z9.1 z9.2.2.1 z9.2.2.2.2.1 z9.2.2.2.2.2.1 ∧ (rL rMove).rv z9.2.2.2.2.2.2 z9.2.1 z9.2.2.1 ∧ PH.ext H F z9.2.2.2.2.2.2 ∧ PH.le Fz2 z9.2.2.2.2.2.2 ∧ InH z9.2.2.2.2.2.2 H1 ∧ Kp H.size H H1 ∧ Bx H1 g6 56 [.slice none 0 0, .int .i64 0] ∧ z9.2.2.2.2.2.2 g6 = none ∧ Bx H1 g27 84 [z9.2.2.2.1, .int .i64 scr, .int .i64 sp, .int .i64 z9.2.2.2.2.2.1] ∧ z9.2.2.2.2.2.2 g27 = none ∧ Gl rMach 39 z9.2.2.2.2.2.2 H1 H.size z9.2.2.2.1 z9.2.2.2.2.1) (fun z9 => [(6, .pointer (some ⟨g6, 0, none⟩)), (8, .pointer (some ⟨g27, 0, none⟩)), (9, z9.2.1)]) (fun z9 => z9.1) (mv.length, va, mv, .slice none 0 0, [], 0, Fz2) ⟨⟨Int.le_refl _, by dsimp only; omega⟩, by dsimp only; omega, by dsimp only; omega, by dsimp only; rw [hR, List.take_of_length_le (by omega)]; exact leftM_ok hok, by dsimp only; simp only [List.length_nil]; omega, by dsimp only; rw [hR, List.take_of_length_le (by omega)], hrz2, hx, PH.le.refl _, hin, hkp, hb6, ng6, hb27, ng27, x9027⟩ ⟨rfl, rfl, rfl, trivial⟩ ?_
  clear hx hin hkp hb6 ng6 hb27 ng27 x9027
  rintro ⟨f, va, mv, vo, o, e, Fl⟩ H1 ⟨he43, hmf, hfl, hmok, hol, hO, hva, hx, le1, hin, hkp, hb6, ng6, hb27, ng27, x9027⟩
  dsimp only at he43 hmf hfl hmok hol hO hva hin hkp hb6 ng6 hb27 ng27 x9027 ⊢
  replace le0 := le0.trans le1
  have hvaq := rL.len2 hva
  refine CF.seq (CF.seq (CF.region (LF.step (OpOk.move rfl) ?_)))
  refine LF.step (OpOk.lenL Try.underlying22 hva rfl) ?_
  refine LF.step (OpOk.gtr rfl rfl) ?_
  refine LF.step (OpOk.move rfl) ?_
  refine LF.gstep rfl rfl (.t _) (fun hg => OpOk.move rfl) ?_
  refine LF.gstep rfl rfl (.t _) (fun hg => OpOk.nilCheck (evg rfl hg)) ?_
  refine LF.gstep rfl rfl (.t _) (fun hg => OpOk.fieldAddr (Try.fld84_3) (evg rfl hg)) ?_
  refine LF.gstep rfl rfl (.t _) (fun hg => OpOk.ldBx hb27 Try.one35 (evg rfl hg) rfl) ?_
  refine LF.gstep rfl rfl (.t _) (fun hg => OpOk.eql (evg rfl hg) rfl) ?_
  refine LF.step (OpOk.pickAnd rfl rfl) ?_
  refine LF.nil (PF.next ?_)
  refine CF.if rfl (fun hc4 => ?_) (fun hc4 => ?_)
  refine CF.skip (PF.next (CF.block (CF.seq (CF.region (LF.step (OpOk.move rfl) ?_)))))
  refine LF.call (OpCall.fn Try.ent50 rfl rfl) (free_ct hin hva) ?_
  rintro _ H63 ⟨rfl, k63⟩
  have zk63 := k63.1
  replace hin := hin.kp k63
  replace hkp := hkp.trans (k63.mono hkp.1)
  replace hb6 := hb6.kp k63
  replace hb27 := hb27.kp k63
  replace x9027 := x9027.kp k63
  refine LF.step (OpOk.assign rfl) (LF.nil (PF.next (CF.seq (CF.seq (CF.region (LF.step (OpOk.move rfl) ?_))))))
  refine LF.step (OpOk.geq rfl rfl) ?_
  refine LF.nil (PF.next ?_)
  refine CF.if rfl (fun hc5 => ?_) (fun hc5 => ?_)
  have hfr := free_rng hmok hc5
  refine CF.seq (CF.region (LF.step (OpOk.move rfl) (LF.step (OpOk.move rfl) (LF.step (OpOk.move rfl) (LF.step (OpOk.move rfl) ?_)))))
  refine LF.call (OpCall.fn Try.ent52 rfl rfl) (source_ct hin hva (freeM mv)) ?_
  rintro _ _ ⟨rfl, rfl⟩
  refine LF.call (OpCall.fn Try.ent51 rfl rfl) (rBring_ct hin x9027 scr sp e (by first | omega | assumption | exact leastM_rng hmok (by omega)) (by first | omega | assumption | exact leastM_rng hmok (by omega)) (by first | omega | assumption | exact leastM_rng hmok (by omega)) hb27 ng27 (freeM mv) (srcM mv (freeM mv)) (by first | omega | assumption | exact leastM_rng hmok (by omega)) (by first | omega | assumption | exact leastM_rng hmok (by omega))) ?_
  rintro _ H71 ⟨F71, u71_0, rfl, x71, i71, k71, b71, x71_0, lk71_0⟩
  have zk71 := k71.1
  have l71 := hkp.1
  replace hx := hx.trans x71 hkp.1
  replace x71_0 := x71_0.rebase (fun k0 hk0 => (lk71_0 k0 hk0).elim (fun h9 => (x9027.blk _ h9).1) (fun h9 => by omega))
  replace hkp := hkp.kw k71 (by rintro k0 (rfl | hk0); omega; exact x9027.ge k0 hk0)
  replace ng6 := x71.no ng6 hb6.lt
  replace ng27 := x71.no ng27 hb27.lt
  replace hb6 := hb6.kw k71 (by rintro (h9 | h9); exact (Bx.ne hb6 hb27 (by decide)) h9; exact (x9027.neBx hb6 (by decide)) h9)
  replace le0 := le0.trans x71.1
  replace le1 := le1.trans x71.1
  have le2 := x71.1
  replace hin := i71
  clear i71
  replace hb27 := b71
  clear b71
  refine LF.nil (PF.next (CF.seq (CF.region (LF.step (OpOk.move rfl) (LF.step (OpOk.move rfl) ?_)))))
  refine LF.call (OpCall.fn Try.ent53 rfl rfl) (without_ct hin (hva.up le2) (freeM mv)) ?_
  rintro v74 H74 ⟨F74, x74, i74, k74, h74⟩
  have zk74 := k74.1
  replace hx := hx.trans x74 hkp.1
  replace hkp := hkp.trans (k74.mono hkp.1)
  have l74 := hkp.1
  replace ng6 := x74.no ng6 hb6.lt
  replace hb6 := hb6.kp k74
  replace ng27 := x74.no ng27 hb27.lt
  replace hb27 := hb27.kp k74
  replace x71_0 := (x71_0.ext x74).kp k74
  replace le0 := le0.trans x74.1
  replace le1 := le1.trans x74.1
  replace le2 := le2.trans x74.1
  have le3 := x74.1
  have hin := i74
  have h74q := rL.len2 h74
  refine LF.step (OpOk.assign rfl) (LF.nil (PF.next (CF.exit (PF.thenExit (PF.blockHere ?_)))))
  exact PF.again (f - 1, v74, withoutM mv (freeM mv), u71_0, bringL scr sp (freeM mv) (srcM mv (freeM mv)) o e, bringE scr sp (freeM mv) (srcM mv (freeM mv)) e, F74) ⟨bringE_rng he43, by dsimp only; have := withoutM_lt (freeM_ex hc5); omega, by dsimp only; omega, withoutM_ok hmok _, by dsimp only; have := bringL_len scr sp (freeM mv) (srcM mv (freeM mv)) o e; omega, by dsimp only; rw [hO]; rw [show e = 0 from hc4.2]; exact orderGo_free (by omega) hc5 hmf, h74, hx, le1, hin, hkp, hb6, ng6, hb27, ng27, x71_0⟩ ⟨rfl, rfl, rfl, trivial⟩ (by dsimp only; omega)
  have hgc := circM_good hmok (leastM_rng hmok (by omega)) (by omega)
  have hgd := hgc.1
  have hgl := hgc.2
  refine CF.skip (PF.next (CF.seq (CF.region (LF.step (OpOk.move rfl) ?_))))
  refine LF.step (OpOk.idxL (i := 0) Try.underlying22 Try.sz31 hva rfl rfl (by omega) (by omega)) ?_
  refine LF.step (OpOk.fieldAddr (Try.fld31_0) rfl) ?_
  refine LF.step (OpOk.ldI hin (rMove.at_To (rL.ix hva 0 (by omega))) Try.one3 rfl) ?_
  refine LF.step (OpOk.assign rfl) (LF.nil (PF.next (CF.seq (CF.seq (CF.region (LF.step (OpOk.assign rfl) (LF.nil (PF.next (CF.block ?_)))))))))
  refine CF.loop (ι := Nat × Int) (fun z9 H1 => z9.1 ≤ mv.length ∧ leastM mv = minM (mv.drop z9.1) z9.2 ∧ InH Fl H1 ∧ Kp H.size H H1 ∧ Bx H1 g6 56 [.slice none 0 0, .int .i64 0] ∧ Bx H1 g27 84 [vo, .int .i64 scr, .int .i64 sp, .int .i64 e] ∧ Gl rMach 39 Fl H1 H.size vo o) (fun z9 => [(6, .pointer (some ⟨g6, 0, none⟩)), (8, .pointer (some ⟨g27, 0, none⟩)), (9, va), (12, .int .i64 z9.2), (13, .int .i64 (↑z9.1))]) (fun z9 => mv.length - z9.1) (0, (ix mv 0).To) ⟨by dsimp only; omega, rfl, hin, hkp, hb6, hb27, x9027⟩ ⟨rfl, rfl, rfl, rfl, eqI (by omega), trivial⟩ ?_
  clear hin hkp hb6 hb27 x9027
  rintro ⟨k, x⟩ H1 ⟨hk, hX, hin, hkp, hb6, hb27, x9027⟩
  dsimp only at hk hX hb6 hb27 x9027 ⊢
  refine CF.seq (CF.seq (CF.region (LF.step (OpOk.move rfl) (LF.step (OpOk.move rfl) ?_))))
  refine LF.step (OpOk.lenL Try.underlying22 hva rfl) ?_
  refine LF.step (OpOk.lss rfl rfl) ?_
  refine LF.nil (PF.next ?_)
  refine CF.if rfl (fun hc6 => ?_) (fun hc6 => ?_)
  refine CF.skip (PF.next (CF.seq (CF.block (CF.region (LF.step (OpOk.move rfl) (LF.step (OpOk.move rfl) (LF.step (OpOk.move rfl) ?_)))))))
  refine LF.step (OpOk.idxL (i := k) Try.underlying22 Try.sz31 hva rfl rfl rfl (by omega)) ?_
  refine LF.step (OpOk.fieldAddr (Try.fld31_0) rfl) ?_
  refine LF.step (OpOk.ldI hin (rMove.at_To (rL.ix hva k (by omega))) Try.one3 rfl) ?_
  refine LF.step (OpOk.min3 rfl rfl) ?_
  refine LF.step (OpOk.assign rfl) (LF.nil (PF.blockNormal (PF.next (CF.region (LF.step (OpOk.move rfl) ?_)))))
  refine LF.step (OpOk.add rfl rfl (by omega)) ?_
  refine LF.step (OpOk.assign rfl) (LF.nil ?_)
  exact PF.again (k + 1, min x ((ix mv k).To)) ⟨by dsimp only; omega, by dsimp only; rw [hX, minM_step (by omega)], hin, hkp, hb6, hb27, x9027⟩ ⟨rfl, rfl, rfl, rfl, eqI (by omega), trivial⟩ (by omega)
  obtain rfl : x = leastM mv := by rw [hX, List.drop_of_length_le (by omega)]; rfl
  refine CF.exit (PF.thenExit (PF.thenExit (PF.blockHere (PF.next (CF.seq (CF.region (LF.step (OpOk.move rfl) (LF.step (OpOk.move rfl) ?_))))))))
  refine LF.call (OpCall.fn Try.ent54 rfl rfl) (circle_ct hin hva (leastM mv) (by first | omega | assumption | exact leastM_rng hmok (by omega)) (by first | omega | assumption | exact leastM_rng hmok (by omega)) (by first | omega | assumption | exact leastM_rng hmok (by omega))) ?_
  rintro v94 H94 ⟨F94, x94, i94, k94, h94⟩
  have zk94 := k94.1
  replace hx := hx.trans x94 hkp.1
  replace hkp := hkp.trans (k94.mono hkp.1)
  have l94 := hkp.1
  replace ng6 := x94.no ng6 hb6.lt
  replace hb6 := hb6.kp k94
  replace ng27 := x94.no ng27 hb27.lt
  replace hb27 := hb27.kp k94
  replace x9027 := (x9027.ext x94).kp k94
  replace le0 := le0.trans x94.1
  replace le1 := le1.trans x94.1
  have le2 := x94.1
  have hin := i94
  have h94q := rL.len2 h94
  refine LF.step (OpOk.assign rfl) (LF.nil (PF.next (CF.seq (CF.region (LF.step (OpOk.move rfl) (LF.step (OpOk.move rfl) ?_))))))
  refine LF.call (OpCall.fn Try.ent55 rfl rfl) (rRound_ct hin x9027 scr sp e (by first | omega | assumption | exact leastM_rng hmok (by omega)) (by first | omega | assumption | exact leastM_rng hmok (by omega)) (by first | omega | assumption | exact leastM_rng hmok (by omega)) hb27 ng27 h94 (by first | omega | assumption | exact leastM_rng hmok (by omega))) ?_
  rintro _ H97 ⟨F97, u97_0, rfl, x97, i97, k97, b97, x97_0, lk97_0⟩
  have zk97 := k97.1
  have l97 := hkp.1
  replace hx := hx.trans x97 hkp.1
  replace x97_0 := x97_0.rebase (fun k0 hk0 => (lk97_0 k0 hk0).elim (fun h9 => (x9027.blk _ h9).1) (fun h9 => by omega))
  replace hkp := hkp.kw k97 (by rintro k0 (rfl | hk0); omega; exact x9027.ge k0 hk0)
  replace ng6 := x97.no ng6 hb6.lt
  replace ng27 := x97.no ng27 hb27.lt
  replace hb6 := hb6.kw k97 (by rintro (h9 | h9); exact (Bx.ne hb6 hb27 (by decide)) h9; exact (x9027.neBx hb6 (by decide)) h9)
  replace le0 := le0.trans x97.1
  replace le1 := le1.trans x97.1
  replace le2 := le2.trans x97.1
  have le3 := x97.1
  replace hin := i97
  clear i97
  replace hb27 := b97
  clear b97
  refine LF.nil (PF.next (CF.seq (CF.region (LF.step (OpOk.assign rfl) (LF.nil (PF.next (CF.block ?_)))))))
  refine CF.loop (ι := Nat × Value × List D.Move × PH) (fun z9 H1 => z9.1 ≤ (circM mv (leastM mv)).length ∧ z9.2.2.1.length ≤ mv.length ∧ withoutAll mv (circM mv (leastM mv)) = withoutAll z9.2.2.1 ((circM mv (leastM mv)).drop z9.1) ∧ (rL rMove).rv z9.2.2.2 z9.2.1 z9.2.2.1 ∧ PH.ext H F z9.2.2.2 ∧ PH.le F97 z9.2.2.2 ∧ InH z9.2.2.2 H1 ∧ Kp H.size H H1 ∧ Bx H1 g6 56 [.slice none 0 0, .int .i64 0] ∧ z9.2.2.2 g6 = none ∧ Bx H1 g27 84 [u97_0, .int .i64 scr, .int .i64 sp, .int .i64 ((roundR scr sp (circM mv (leastM mv)) o e).2)] ∧ z9.2.2.2 g27 = none ∧ Gl rMach 39 z9.2.2.2 H1 H.size u97_0 ((roundR scr sp (circM mv (leastM mv)) o e).1)) (fun z9 => [(6, .pointer (some ⟨g6, 0, none⟩)), (8, .pointer (some ⟨g27, 0, none⟩)), (9, z9.2.1), (14, v94), (15, .int .i64 (↑z9.1))]) (fun z9 => (circM mv (leastM mv)).length - z9.1) (0, va, mv, F97) ⟨by dsimp only; omega, by dsimp only; omega, rfl, (hva.up le2), hx, PH.le.refl _, hin, hkp, hb6, ng6, hb27, ng27, x97_0⟩ ⟨rfl, rfl, rfl, rfl, eqI (by omega), trivial⟩ ?_
  clear hx hin hkp hb6 ng6 hb27 ng27 x97_0
  rintro ⟨j, vb, mw, Fm⟩ H1 ⟨hj, hmw, hW, hvb, hx, le4, hin, hkp, hb6, ng6, hb27, ng27, x97_0⟩
  dsimp only at hj hmw hW hvb hin hkp hb6 ng6 hb27 ng27 x97_0 ⊢
  replace le0 := le0.trans le4
  replace le1 := le1.trans le4
  replace le2 := le2.trans le4
  replace le3 := le3.trans le4
  have hvbq := rL.len2 hvb
  refine CF.seq (CF.seq (CF.region (LF.step (OpOk.move rfl) (LF.step (OpOk.move rfl) ?_))))
  refine LF.step (OpOk.lenL Try.underlying23 (h94.up le3) rfl) ?_
  refine LF.step (OpOk.lss rfl rfl) ?_
  refine LF.nil (PF.next ?_)
  refine CF.if rfl (fun hc7 => ?_) (fun hc7 => ?_)
  refine CF.skip (PF.next (CF.seq (CF.block (CF.region (LF.step (OpOk.move rfl) (LF.step (OpOk.move rfl) (LF.step (OpOk.move rfl) ?_)))))))
  refine LF.step (OpOk.idxL (i := j) Try.underlying23 Try.sz3 (h94.up le3) rfl rfl rfl (by omega)) ?_
  refine LF.step (OpOk.ldI hin (rL.ix (h94.up le3) j (by omega)) Try.one3 rfl) ?_
  refine LF.call (OpCall.fn Try.ent53 rfl rfl) (without_ct hin hvb (ix (circM mv (leastM mv)) j)) ?_
  rintro v109 H109 ⟨F109, x109, i109, k109, h109⟩
  have zk109 := k109.1
  replace hx := hx.trans x109 hkp.1
  replace hkp := hkp.trans (k109.mono hkp.1)
  have l109 := hkp.1
  replace ng6 := x109.no ng6 hb6.lt
  replace hb6 := hb6.kp k109
  replace ng27 := x109.no ng27 hb27.lt
  replace hb27 := hb27.kp k109
  replace x97_0 := (x97_0.ext x109).kp k109
  replace le0 := le0.trans x109.1
  replace le1 := le1.trans x109.1
  replace le2 := le2.trans x109.1
  replace le3 := le3.trans x109.1
  replace le4 := le4.trans x109.1
  have le5 := x109.1
  have hin := i109
  have h109q := rL.len2 h109
  refine LF.step (OpOk.assign rfl) (LF.nil (PF.blockNormal (PF.next (CF.region (LF.step (OpOk.move rfl) ?_)))))
  refine LF.step (OpOk.add rfl rfl (by omega)) ?_
  refine LF.step (OpOk.assign rfl) (LF.nil ?_)
  exact PF.again (j + 1, v109, withoutM mw (ix (circM mv (leastM mv)) j), F109) ⟨by dsimp only; omega, by dsimp only; have := withoutM_le mw (ix (circM mv (leastM mv)) j); omega, by dsimp only; rw [hW, withoutAll_step (by omega)], h109, hx, le4, hin, hkp, hb6, ng6, hb27, ng27, x97_0⟩ ⟨rfl, rfl, rfl, rfl, eqI (by omega), trivial⟩ (by omega)
  have hW2 : mw = withoutAll mv (circM mv (leastM mv)) := by rw [hW, List.drop_of_length_le (by omega)]; rfl
  refine CF.exit (PF.thenExit (PF.thenExit (PF.blockHere (PF.blockNormal ?_))))
  exact PF.again (f - 1, vb, mw, u97_0, (roundR scr sp (circM mv (leastM mv)) o e).1, (roundR scr sp (circM mv (leastM mv)) o e).2, Fm) ⟨roundR_rng _ _ he43, by dsimp only; rw [hW2]; have := circ_lt (mv := mv) (by omega); omega, by dsimp only; omega, by dsimp only; rw [hW2]; exact withoutAll_ok _ hmok, by dsimp only; have := roundR_len (scr := scr) (sp := sp) hgd.1 o e; omega, by dsimp only; rw [hO, hW2]; rw [show e = 0 from hc4.2]; exact orderGo_circ (by omega) hc5 hmf, hvb, hx, le1, hin, hkp, hb6, ng6, hb27, ng27, x97_0⟩ ⟨rfl, rfl, rfl, trivial⟩ (by dsimp only; omega)
  refine CF.exit (PF.thenExit (PF.thenExit (PF.blockHere (PF.next (CF.seq (CF.seq (CF.region (LF.step (OpOk.move rfl) ?_))))))))
  refine LF.step (OpOk.nilCheck rfl) ?_
  refine LF.step (OpOk.fieldAddr (Try.fld84_3) rfl) ?_
  refine LF.step (OpOk.ldBx hb27 Try.one35 rfl rfl) ?_
  refine LF.step (OpOk.neq rfl rfl) ?_
  refine LF.nil (PF.next ?_)
  refine CF.if rfl (fun hc8 => ?_) (fun hc8 => ?_)
  refine CF.seq (CF.region (LF.step (OpOk.move rfl) ?_))
  refine LF.step (OpOk.nilCheck rfl) ?_
  refine LF.step (OpOk.fieldAddr (Try.fld84_3) rfl) ?_
  refine LF.step (OpOk.ldBx hb27 Try.one35 rfl rfl) ?_
  refine LF.step (OpOk.build (v := .agg #[.slice none 0 0, .int .i64 e]) rfl (fun w => by kernel_rfl)) ?_
  refine LF.chg0 (OpCh.storeBA hb6 Try.sz56 rfl rfl rfl (allOne.mem (l := [.slice none 0 0, .int .i64 e]) ⟨rfl, rfl, trivial⟩) (by decide)) ?_
  rintro _ Hw5 ⟨tw5, bw5⟩
  have ztw5 := tw5.1
  replace hin := hin.tw tw5 ng6
  replace hkp := Tw.kp' hkp tw5 (by omega)
  replace hb27 := hb27.tw tw5 (Bx.ne hb27 hb6 (by decide))
  replace x9027 := x9027.tw tw5 (x9027.neBx hb6 (by decide))
  replace hb6 : Bx _ _ _ [.slice none 0 0, .int .i64 e] := bw5
  clear bw5 tw5
  refine LF.nil (PF.next (CF.ret (PF.thenRet ?_)))
  have hm : orderG l scr sp = (⟨[], e⟩) := by
    first | exact orderG_e hc1 | exact orderG_er hc1 hO hc4 hc8 | exact orderG_ok hc1 hO hc4 hc8
  exact PF.retC rfl rfl hb6 Try.agg56 Try.sz56 ⟨_, hx, hin, hkp, by rw [hm]; exact (rjacquardref11_Got.mk (m := ⟨[], e⟩) (rL.nil _) (IntWalk.i64_in e (by omega)))⟩
  refine CF.skip (PF.next (CF.seq (CF.region (LF.step (OpOk.move rfl) ?_))))
  refine LF.step (OpOk.nilCheck rfl) ?_
  refine LF.step (OpOk.fieldAddr (Try.fld84_0) rfl) ?_
  refine LF.step (OpOk.ldBx hb27 Try.one34 rfl rfl) ?_
  refine LF.step (OpOk.build (v := .agg #[vo, .int .i64 0]) rfl (fun w => by obtain ⟨xs9, h9, _⟩ := x9027; obtain ⟨a09, c09, e09⟩ := h9.len; rw [show (vo : Value) = _ from e09]; kernel_rfl)) ?_
  refine LF.chg0 (OpCh.storeBA hb6 Try.sz56 rfl rfl rfl (allOne.mem (l := [vo, .int .i64 0]) ⟨x9027.one1, rfl, trivial⟩) (by decide)) ?_
  rintro _ Hw6 ⟨tw6, bw6⟩
  have ztw6 := tw6.1
  replace hin := hin.tw tw6 ng6
  replace hkp := Tw.kp' hkp tw6 (by omega)
  replace hb27 := hb27.tw tw6 (Bx.ne hb27 hb6 (by decide))
  replace x9027 := x9027.tw tw6 (x9027.neBx hb6 (by decide))
  replace hb6 : Bx _ _ _ [vo, .int .i64 0] := bw6
  clear bw6 tw6
  refine LF.nil (PF.next (CF.ret ?_))
  obtain ⟨Fz7, hxz7, lez7, hinz7, noz7, hrz7⟩ := x9027.freezeX hin hx (Nat.le_refl _) (by first | (simp only [List.length_append, List.length_take, List.length_drop, List.length_nil, List.length_cons, List.length_set, List.length_replicate]; omega) | (simp; done) | (simp; omega) | omega)
  replace hin := hinz7
  replace hx := hxz7
  replace le0 := le0.trans lez7
  replace le1 := le1.trans lez7
  have le2 := lez7
  replace ng6 := (noz7 _ (x9027.neBx hb6 (by decide))).trans ng6
  replace ng27 := (noz7 _ (x9027.neBx hb27 (by decide))).trans ng27
  have hm : orderG l scr sp = (⟨o, 0⟩) := by
    first | exact orderG_e hc1 | exact orderG_er hc1 hO hc4 hc8 | exact orderG_ok hc1 hO hc4 hc8
  exact PF.retC rfl rfl hb6 Try.agg56 Try.sz56 ⟨_, hx, hin, hkp, by rw [hm]; exact (rjacquardref11_Got.mk (m := ⟨o, 0⟩) hrz7 (by decide : IntKind.i64.wrap 0 = 0))⟩

end Go.Proofs.Ytcceglmmpbdhiaa
