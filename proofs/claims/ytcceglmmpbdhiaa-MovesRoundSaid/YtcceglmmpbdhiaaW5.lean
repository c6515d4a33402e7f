/- Walks. Conditions: each contract names its own. -/
import Derived.Test.YtcceglmmpbdhiaaW4
namespace Go.Proofs.Ytcceglmmpbdhiaa
set_option linter.unusedVariables false
set_option linter.unusedSimpArgs false
set_option linter.unusedSectionVars false
set_option maxRecDepth 8000
open Go.JE

theorem Try.ent65 : Ent Try.prog 65 := ⟨_, Try.func65, by kernel_rfl, by kernel_rfl⟩
theorem Try.ent66 : Ent Try.prog 66 := ⟨_, Try.func66, by kernel_rfl, by kernel_rfl⟩
theorem Try.fld84_0 : Fld Try.prog 84 0 0 := ⟨_, _, Try.underlying84, rfl, rfl, 1, (by unfold Sz; kernel_rfl), by decide⟩
theorem Try.fld84_1 : Fld Try.prog 84 1 1 := ⟨_, _, Try.underlying84, rfl, rfl, 1, (by unfold Sz; kernel_rfl), by decide⟩
theorem Try.fld84_2 : Fld Try.prog 84 2 2 := ⟨_, _, Try.underlying84, rfl, rfl, 1, (by unfold Sz; kernel_rfl), by decide⟩
theorem Try.fld84_3 : Fld Try.prog 84 3 3 := ⟨_, _, Try.underlying84, rfl, rfl, 1, (by unfold Sz; kernel_rfl), by decide⟩
theorem Try.info39 : (Try.prog.info? 39).map (fun i => (i.zero, i.size, i.bytes)) = some (some (.agg #[.int .i64 0, .int .i64 0, .int .i64 0, .int .i64 0, .int .i64 0, .int .i64 0, .int .i32 0, .slice none 0 0]), 8, 80) := by kernel_rfl
theorem Try.one34 : One Try.prog 34 := ⟨_, Try.underlying34, rfl⟩
theorem Try.one35 : One Try.prog 35 := ⟨_, Try.underlying35, rfl⟩
theorem Try.sz34 : Sz Try.prog 34 1 := by unfold Sz; kernel_rfl
theorem Try.sz35 : Sz Try.prog 35 1 := by unfold Sz; kernel_rfl
/- ---------------------------------------------- a place into another one -/
def bringX (scr sp a b : Int) : Option (List D.Mach) :=
  if a < 16 ∧ b < 16 then some [⟨1, a, 0, b, 0, 0, 0, []⟩]
  else if a < 16 then some [loadM a b]
  else if b < 16 then some [storeM b a]
  else if 0 ≤ scr then some [loadM scr b, storeM scr a]
  else if sp < 0 then none
  else some [storeM 0 (16 + sp + 1), loadM 0 b, storeM 0 a, loadM 0 (16 + sp + 1)]
def bringL (scr sp a b : Int) (l : List D.Mach) (e : Int) : List D.Mach := if e ≠ 0 then l else l ++ (bringX scr sp a b).getD []
def bringE (scr sp a b : Int) (e : Int) : Int := if e ≠ 0 then e else if 16 ≤ a ∧ 16 ≤ b ∧ scr < 0 ∧ sp < 0 then 43 else 0
theorem bringLen : ∀ (scr sp a b : Int), ((bringX scr sp a b).getD []).length ≤ 4 := by
  intro scr sp a b; unfold bringX; (repeat' split) <;> simp
theorem bringL_len (scr sp a b : Int) (l : List D.Mach) (e : Int) : (bringL scr sp a b l e).length ≤ l.length + 4 := by
  unfold bringL; split
  · omega
  · have := bringLen scr sp a b; rw [List.length_append]; omega

-- (*jacquard/jacquardref11.layer).bring: function 51
theorem rBring_ct {F : PH} {H : Heap} (hin : InH F H) {a9 : Value} {l : List D.Mach} {Bp9 : Nat} (p9 : Gl rMach 39 F H Bp9 a9 l) (scr : Int) (sp : Int) (e : Int) (hl9 : l.length < 1000000) (hs : -9223372036854775808 ≤ scr ∧ scr < 16) (hsp : -9223372036854775808 ≤ sp ∧ sp < 16383) {g0 : Nat} (hb0 : Bx H g0 84 [a9, .int .i64 scr, .int .i64 sp, .int .i64 e]) (ng0 : F g0 = none) (a : Int) (b : Int) (ha : 0 ≤ a ∧ a < 16400) (hb : 0 ≤ b ∧ b < 16400) :
    Ct Try.prog 51 #[.pointer (some ⟨g0, 0, none⟩), .int .i64 a, .int .i64 b] H (fun v H' => ∃ (F' : PH) (u0 : Value), v = .tuple #[] ∧ PH.ext H F F' ∧ InH F' H' ∧ Kw (fun j9 => j9 = g0 ∨ a9.ownBlock = some j9) H H' ∧ Bx H' g0 84 [u0, .int .i64 scr, .int .i64 sp, .int .i64 (bringE scr sp a b e)] ∧ Gl rMach 39 F' H' 0 u0 (bringL scr sp a b l e) ∧ Lnk H.size a9 u0) := by
  replace p9 := p9.base (Nat.zero_le _)
  have lg0 := hb0.lt
  have hkp := Kw.refl (fun j9 => j9 = g0 ∨ a9.ownBlock = some j9) H
  have hx := PH.ext.refl (H := H) F
  refine Ct.enter (args := [.pointer (some ⟨g0, 0, none⟩), .int .i64 a, .int .i64 b]) Try.func51 rfl rfl rfl (fun w0 hw0 => ?_)
  refine CF.seq (CF.seq (CF.region (LF.step (OpOk.move rfl) ?_)))
  refine LF.step (OpOk.nilCheck rfl) ?_
  refine LF.step (OpOk.fieldAddr (Try.fld84_3) rfl) ?_
  refine LF.step (OpOk.ldBx hb0 Try.one35 rfl rfl) ?_
  refine LF.step (OpOk.neq rfl rfl) ?_
  refine LF.nil (PF.next ?_)
  refine CF.if rfl (fun hc1 => ?_) (fun hc1 => ?_)
  refine CF.ret (PF.thenRet ?_)
  have hm0 : (bringL scr sp a b l e) = l := by
    first | (unfold bringE; (repeat' split) <;> omega) | (unfold bringL bringX; (try rw [if_neg (by omega)]); (repeat rw [if_neg (by omega)]); (try rw [if_pos (by omega)]); (try simp); done)
  have hm3 : (bringE scr sp a b e) = e := by
    first | (unfold bringE; (repeat' split) <;> omega) | (unfold bringL bringX; (try rw [if_neg (by omega)]); (repeat rw [if_neg (by omega)]); (try rw [if_pos (by omega)]); (try simp); done)
  exact PF.ret0 rfl ⟨_, a9, rfl, hx, hin, hkp, by rw [hm3]; exact hb0, by rw [hm0]; exact (p9.base (Nat.zero_le _)), lnk_of (fun k9 h9 => (.inr (.inr h9))) (p9.neBx hb0 (by decide))⟩
  refine CF.skip (PF.next (CF.seq (CF.seq (CF.region (LF.step (OpOk.move rfl) ?_)))))
  refine LF.step (OpOk.lss rfl rfl) ?_
  refine LF.step (OpOk.move rfl) ?_
  refine LF.gstep rfl rfl (.t _) (fun hg => OpOk.move rfl) ?_
  refine LF.gstep rfl rfl (.t _) (fun hg => OpOk.lss (evg rfl hg) rfl) ?_
  refine LF.step (OpOk.pickAnd rfl rfl) ?_
  refine LF.nil (PF.next ?_)
  refine CF.if rfl (fun hc2 => ?_) (fun hc2 => ?_)
  refine CF.seq (CF.region (LF.step (OpOk.move rfl) (LF.step (OpOk.move rfl) ?_)))
  refine LF.step (OpOk.nilCheck rfl) ?_
  refine LF.step (OpOk.fieldAddr (Try.fld84_0) rfl) ?_
  refine LF.step (OpOk.ldBx hb0 Try.one34 rfl rfl) ?_
  refine LF.step (OpOk.move rfl) (LF.step (OpOk.move rfl) ?_)
  refine LF.step (OpOk.build (v := .agg #[.int .i64 1, .int .i64 a, .int .i64 0, .int .i64 b, .int .i64 0, .int .i64 0, .int .i32 0, .slice none 0 0]) rfl (fun w => by kernel_rfl)) ?_
  refine LF.appA (r := rMach) (a := ⟨1, a, 0, b, 0, 0, 0, []⟩) Try.underlying34 Try.info39 (by decide) rfl rfl (rMach.mk (m := ⟨1, a, 0, b, 0, 0, 0, []⟩) (rL.nil _) (by decide : IntKind.i64.wrap 1 = 1) (IntWalk.i64_in a (by omega)) (by decide : IntKind.i64.wrap 0 = 0) (IntWalk.i64_in b (by omega)) (by decide : IntKind.i64.wrap 0 = 0) (by decide : IntKind.i64.wrap 0 = 0) (by decide : IntKind.i32.wrap 0 = 0)) p9 hin (by first | (simp only [List.length_append, List.length_take, List.length_drop, List.length_nil, List.length_cons, List.length_set, List.length_replicate]; omega) | (simp; done) | (simp; omega) | omega) rfl ?_ (by first | exact hkp.1 | exact Nat.zero_le _)
  intro v27 H27 x27 gb27 nn27 ob27
  replace hin := hin.grown gb27 p9.no
  have wf27 := wf_grow (W := (fun j9 => j9 = g0 ∨ a9.ownBlock = some j9)) (fun k0 hk0 => (.inr (.inr hk0))) hkp.1 ob27
  replace hkp := gb27.kw2 hkp (fun k0 hk0 => (.inr (.inr hk0)))
  replace hb0 := hb0.of (gb27.2 _ hb0.lt (Ne.symm (by first | exact p9.neBx hb0 (by decide) | exact nqp9_0)))
  refine LF.step (OpOk.nilCheck rfl) ?_
  refine LF.step (OpOk.fieldAddr (Try.fld84_0) rfl) ?_
  refine LF.chg0 (OpCh.storeB hb0 Try.sz34 rfl rfl x27.one1 (by first | decide | (simp; done))) ?_
  rintro _ Hw1 ⟨tw1, bw1⟩
  have ztw1 := tw1.1
  replace hin := hin.tw tw1 ng0
  replace hkp := hkp.tw tw1 (.inr (.inl rfl))
  replace x27 := x27.tw tw1 (x27.neBx hb0 (by decide))
  replace hb0 : Bx _ _ _ [v27, .int .i64 scr, .int .i64 sp, .int .i64 e] := bw1
  clear bw1 tw1
  refine LF.nil (PF.next (CF.ret (PF.thenRet ?_)))
  have hm0 : (bringL scr sp a b l e) = (l ++ [⟨1, a, 0, b, 0, 0, 0, []⟩]) := by
    first | (unfold bringE; (repeat' split) <;> omega) | (unfold bringL bringX; (try rw [if_neg (by omega)]); (repeat rw [if_neg (by omega)]); (try rw [if_pos (by omega)]); (try simp); done)
  have hm3 : (bringE scr sp a b e) = e := by
    first | (unfold bringE; (repeat' split) <;> omega) | (unfold bringL bringX; (try rw [if_neg (by omega)]); (repeat rw [if_neg (by omega)]); (try rw [if_pos (by omega)]); (try simp); done)
  exact PF.ret0 rfl ⟨_, v27, rfl, hx, hin, hkp, by rw [hm3]; exact hb0, by rw [hm0]; exact (x27.base (Nat.zero_le _)), lnk_of (fun k9 h9 => (wf27 _ h9)) (x27.neBx hb0 (by decide))⟩
  refine CF.skip (PF.next (CF.seq (CF.seq (CF.region (LF.step (OpOk.move rfl) ?_)))))
  refine LF.step (OpOk.lss rfl rfl) ?_
  refine LF.nil (PF.next ?_)
  refine CF.if rfl (fun hc3 => ?_) (fun hc3 => ?_)
  refine CF.seq ?_
  refine CF.any (z := true) (fun H' => InH F H' ∧ Bx H' g0 84 [a9, .int .i64 scr, .int .i64 sp, .int .i64 e] ∧ True) Try.mixed ?_
  refine AF.take 0 rfl (by kernel_rfl) (by kernel_rfl) (by kernel_rfl) ⟨hin, hb0, trivial⟩ (fun _ ⟨hin, hb0, _⟩ => OpOk.move rfl) ?_
  refine AF.take 1 rfl (by kernel_rfl) (by kernel_rfl) (by kernel_rfl) ⟨hin, hb0, trivial⟩ (fun _ ⟨hin, hb0, _⟩ => OpOk.move rfl) ?_
  refine AF.take 2 rfl (by kernel_rfl) (by kernel_rfl) (by kernel_rfl) ⟨hin, hb0, trivial⟩ (fun _ ⟨hin, hb0, _⟩ => OpOk.nilCheck rfl) ?_
  refine AF.take 3 rfl (by kernel_rfl) (by kernel_rfl) (by kernel_rfl) ⟨hin, hb0, trivial⟩ (fun _ ⟨hin, hb0, _⟩ => OpOk.fieldAddr (Try.fld84_0) rfl) ?_
  refine AF.take 4 rfl (by kernel_rfl) (by kernel_rfl) (by kernel_rfl) ⟨hin, hb0, trivial⟩ (fun _ ⟨hin, hb0, _⟩ => OpOk.ldBx hb0 Try.one34 rfl rfl) ?_
  refine AF.take 5 rfl (by kernel_rfl) (by kernel_rfl) (by kernel_rfl) ⟨hin, hb0, trivial⟩ (fun _ ⟨hin, hb0, _⟩ => OpOk.move rfl) ?_
  refine AF.take 6 rfl (by kernel_rfl) (by kernel_rfl) (by kernel_rfl) ⟨hin, hb0, trivial⟩ (fun _ ⟨hin, hb0, _⟩ => OpOk.move rfl) ?_
  refine AF.call 7 rfl (by kernel_rfl) (OpCall.fn Try.ent65 rfl rfl) (rLoad_ct hin a b (by omega) (IntWalk.i64_in a (by omega))) (by rintro _ _ ⟨_, _, _, k, _⟩; exact ⟨(hin.kp k), (hb0.kp k), trivial⟩) ?_
  rintro v39 H39 ⟨F39, x39, i39, k39, h39⟩
  have zk39 := k39.1
  replace hx := hx.trans x39 hkp.1
  replace hkp := hkp.trans (k39.mono hkp.1)
  have l39 := hkp.1
  replace ng0 := x39.no ng0 hb0.lt
  replace hb0 := hb0.kp k39
  replace p9 := (p9.ext x39).kp k39
  have le0 := x39.1
  have hin := i39
  have h39k := rMach.any h39
  obtain ⟨v39c7, rfl, h39c7⟩ := rMach.open h39
  have h39c7q := rL.len2 h39c7
  refine AF.one 8 (by kernel_rfl) ?_
  refine AFN.chg rfl (OpCh.litL (F := F39) (r := rMach) (l := [loadM a b]) (us := [.agg #[.int .i64 ((loadM a b).Op), .int .i64 ((loadM a b).D), .int .i64 ((loadM a b).E), .int .i64 ((loadM a b).A), .int .i64 ((loadM a b).B), .int .i64 ((loadM a b).C), .int .i32 ((loadM a b).Imm), v39c7]]) (cs := [[.int .i64 ((loadM a b).Op), .int .i64 ((loadM a b).D), .int .i64 ((loadM a b).E), .int .i64 ((loadM a b).A), .int .i64 ((loadM a b).B), .int .i64 ((loadM a b).C), .int .i32 ((loadM a b).Imm), v39c7]]) Try.underlying34 Try.info39 (by decide) rfl rfl rfl ⟨rfl, rfl, (ra_ok h39), trivial⟩) ?_
  rintro _ H40 ⟨g40, rfl, e40, s40, k40, x40⟩
  have l40 := hkp.1
  have app9_40 := ap_new p9.lt (x40 hin).ge
  replace x40 := (x40 hin).base l40
  have zk40 := k40.1
  replace hin := hin.kp k40
  replace hkp := hkp.trans (k40.mono hkp.1)
  replace hb0 := hb0.kp k40
  replace p9 := p9.kp k40
  have ap40_p9 := ap_sym app9_40
  refine ⟨⟨(hin.down le0), hb0, trivial⟩, ?_⟩
  refine AF.one 9 (by kernel_rfl) ?_
  obtain ⟨Fz2, hxz2, lez2, hinz2, noz2, hrz2⟩ := x40.freezeX hin hx (Nat.le_refl _) (by first | (simp only [List.length_append, List.length_take, List.length_drop, List.length_nil, List.length_cons, List.length_set, List.length_replicate]; omega) | (simp; done) | (simp; omega) | omega)
  replace hin := hinz2
  replace hx := hxz2
  replace le0 := le0.trans lez2
  have le1 := lez2
  replace ng0 := (noz2 _ (x40.neBx hb0 (by decide))).trans ng0
  replace p9 := p9.frozen lez2 noz2 app9_40
  refine AFN.chg rfl (OpCh.appL (r := rMach) Try.underlying34 Try.info39 (by decide) rfl rfl rfl p9 hrz2 hin (by first | (simp only [List.length_append, List.length_take, List.length_drop, List.length_nil, List.length_cons, List.length_set, List.length_replicate]; omega) | (simp; done) | (simp; omega) | omega) (by first | omega | exact hkp.1)) ?_
  rintro v41 H41 ⟨x41, gb41, ob41⟩
  replace hin := hin.grown gb41 p9.no
  have wf41 := wf_grow (W := (fun j9 => j9 = g0 ∨ a9.ownBlock = some j9)) (fun k0 hk0 => (.inr (.inr hk0))) hkp.1 (ob_some ob41)
  replace hkp := gb41.kw2 hkp (fun k0 hk0 => (.inr (.inr hk0)))
  replace hb0 := hb0.of (gb41.2 _ hb0.lt (Ne.symm (by first | exact p9.neBx hb0 (by decide) | exact nqp9_0)))
  refine ⟨⟨(hin.down le0), hb0, trivial⟩, ?_⟩
  refine AF.take 10 rfl (by kernel_rfl) (by kernel_rfl) (by kernel_rfl) ⟨(hin.down le0), hb0, trivial⟩ (fun _ ⟨hin, hb0, _⟩ => OpOk.nilCheck rfl) ?_
  refine AF.take 11 rfl (by kernel_rfl) (by kernel_rfl) (by kernel_rfl) ⟨(hin.down le0), hb0, trivial⟩ (fun _ ⟨hin, hb0, _⟩ => OpOk.fieldAddr (Try.fld84_0) rfl) ?_
  refine AF.one 12 (by kernel_rfl) ?_
  refine AFN.chg0L rfl (noleft (by kernel_rfl)) rfl (OpCh.storeB hb0 Try.sz34 rfl rfl x41.one1 (by first | decide | (simp; done))) ?_
  rintro _ Hw3 ⟨tw3, bw3⟩
  have ztw3 := tw3.1
  replace hin := hin.tw tw3 ng0
  replace hkp := hkp.tw tw3 (.inr (.inl rfl))
  replace x41 := x41.tw tw3 (x41.neBx hb0 (by decide))
  replace hb0 : Bx _ _ _ [v41, .int .i64 scr, .int .i64 sp, .int .i64 e] := bw3
  clear bw3 tw3
  refine AF.done (by kernel_rfl) ?_
  refine PF.next (CF.ret (PF.thenRet ?_))
  have hm0 : (bringL scr sp a b l e) = (l ++ ([loadM a b])) := by
    first | (unfold bringE; (repeat' split) <;> omega) | (unfold bringL bringX; (try rw [if_neg (by omega)]); (repeat rw [if_neg (by omega)]); (try rw [if_pos (by omega)]); (try simp); done)
  have hm3 : (bringE scr sp a b e) = e := by
    first | (unfold bringE; (repeat' split) <;> omega) | (unfold bringL bringX; (try rw [if_neg (by omega)]); (repeat rw [if_neg (by omega)]); (try rw [if_pos (by omega)]); (try simp); done)
  exact PF.ret0 rfl ⟨_, v41, rfl, hx, hin, hkp, by rw [hm3]; exact hb0, by rw [hm0]; exact (x41.base (Nat.zero_le _)), lnk_of (fun k9 h9 => (wf41 _ h9)) (x41.neBx hb0 (by decide))⟩
  refine CF.skip (PF.next (CF.seq (CF.seq (CF.region (LF.step (OpOk.move rfl) ?_)))))
  refine LF.step (OpOk.lss rfl rfl) ?_
  refine LF.nil (PF.next ?_)
  refine CF.if rfl (fun hc4 => ?_) (fun hc4 => ?_)
  refine CF.seq ?_
  refine CF.any (z := true) (fun H' => InH F H' ∧ Bx H' g0 84 [a9, .int .i64 scr, .int .i64 sp, .int .i64 e] ∧ True) Try.mixed ?_
  refine AF.take 0 rfl (by kernel_rfl) (by kernel_rfl) (by kernel_rfl) ⟨hin, hb0, trivial⟩ (fun _ ⟨hin, hb0, _⟩ => OpOk.move rfl) ?_
  refine AF.take 1 rfl (by kernel_rfl) (by kernel_rfl) (by kernel_rfl) ⟨hin, hb0, trivial⟩ (fun _ ⟨hin, hb0, _⟩ => OpOk.move rfl) ?_
  refine AF.take 2 rfl (by kernel_rfl) (by kernel_rfl) (by kernel_rfl) ⟨hin, hb0, trivial⟩ (fun _ ⟨hin, hb0, _⟩ => OpOk.nilCheck rfl) ?_
  refine AF.take 3 rfl (by kernel_rfl) (by kernel_rfl) (by kernel_rfl) ⟨hin, hb0, trivial⟩ (fun _ ⟨hin, hb0, _⟩ => OpOk.fieldAddr (Try.fld84_0) rfl) ?_
  refine AF.take 4 rfl (by kernel_rfl) (by kernel_rfl) (by kernel_rfl) ⟨hin, hb0, trivial⟩ (fun _ ⟨hin, hb0, _⟩ => OpOk.ldBx hb0 Try.one34 rfl rfl) ?_
  refine AF.take 5 rfl (by kernel_rfl) (by kernel_rfl) (by kernel_rfl) ⟨hin, hb0, trivial⟩ (fun _ ⟨hin, hb0, _⟩ => OpOk.move rfl) ?_
  refine AF.take 6 rfl (by kernel_rfl) (by kernel_rfl) (by kernel_rfl) ⟨hin, hb0, trivial⟩ (fun _ ⟨hin, hb0, _⟩ => OpOk.move rfl) ?_
  refine AF.call 7 rfl (by kernel_rfl) (OpCall.fn Try.ent66 rfl rfl) (rStore_ct hin b a (by omega) (IntWalk.i64_in b (by omega))) (by rintro _ _ ⟨_, _, _, k, _⟩; exact ⟨(hin.kp k), (hb0.kp k), trivial⟩) ?_
  rintro v53 H53 ⟨F53, x53, i53, k53, h53⟩
  have zk53 := k53.1
  replace hx := hx.trans x53 hkp.1
  replace hkp := hkp.trans (k53.mono hkp.1)
  have l53 := hkp.1
  replace ng0 := x53.no ng0 hb0.lt
  replace hb0 := hb0.kp k53
  replace p9 := (p9.ext x53).kp k53
  have le0 := x53.1
  have hin := i53
  have h53k := rMach.any h53
  obtain ⟨v53c7, rfl, h53c7⟩ := rMach.open h53
  have h53c7q := rL.len2 h53c7
  refine AF.one 8 (by kernel_rfl) ?_
  refine AFN.chg rfl (OpCh.litL (F := F53) (r := rMach) (l := [storeM b a]) (us := [.agg #[.int .i64 ((storeM b a).Op), .int .i64 ((storeM b a).D), .int .i64 ((storeM b a).E), .int .i64 ((storeM b a).A), .int .i64 ((storeM b a).B), .int .i64 ((storeM b a).C), .int .i32 ((storeM b a).Imm), v53c7]]) (cs := [[.int .i64 ((storeM b a).Op), .int .i64 ((storeM b a).D), .int .i64 ((storeM b a).E), .int .i64 ((storeM b a).A), .int .i64 ((storeM b a).B), .int .i64 ((storeM b a).C), .int .i32 ((storeM b a).Imm), v53c7]]) Try.underlying34 Try.info39 (by decide) rfl rfl rfl ⟨rfl, rfl, (ra_ok h53), trivial⟩) ?_
  rintro _ H54 ⟨g54, rfl, e54, s54, k54, x54⟩
  have l54 := hkp.1
  have app9_54 := ap_new p9.lt (x54 hin).ge
  replace x54 := (x54 hin).base l54
  have zk54 := k54.1
  replace hin := hin.kp k54
  replace hkp := hkp.trans (k54.mono hkp.1)
  replace hb0 := hb0.kp k54
  replace p9 := p9.kp k54
  have ap54_p9 := ap_sym app9_54
  refine ⟨⟨(hin.down le0), hb0, trivial⟩, ?_⟩
  refine AF.one 9 (by kernel_rfl) ?_
  obtain ⟨Fz4, hxz4, lez4, hinz4, noz4, hrz4⟩ := x54.freezeX hin hx (Nat.le_refl _) (by first | (simp only [List.length_append, List.length_take, List.length_drop, List.length_nil, List.length_cons, List.length_set, List.length_replicate]; omega) | (simp; done) | (simp; omega) | omega)
  replace hin := hinz4
  replace hx := hxz4
  replace le0 := le0.trans lez4
  have le1 := lez4
  replace ng0 := (noz4 _ (x54.neBx hb0 (by decide))).trans ng0
  replace p9 := p9.frozen lez4 noz4 app9_54
  refine AFN.chg rfl (OpCh.appL (r := rMach) Try.underlying34 Try.info39 (by decide) rfl rfl rfl p9 hrz4 hin (by first | (simp only [List.length_append, List.length_take, List.length_drop, List.length_nil, List.length_cons, List.length_set, List.length_replicate]; omega) | (simp; done) | (simp; omega) | omega) (by first | omega | exact hkp.1)) ?_
  rintro v55 H55 ⟨x55, gb55, ob55⟩
  replace hin := hin.grown gb55 p9.no
  have wf55 := wf_grow (W := (fun j9 => j9 = g0 ∨ a9.ownBlock = some j9)) (fun k0 hk0 => (.inr (.inr hk0))) hkp.1 (ob_some ob55)
  replace hkp := gb55.kw2 hkp (fun k0 hk0 => (.inr (.inr hk0)))
  replace hb0 := hb0.of (gb55.2 _ hb0.lt (Ne.symm (by first | exact p9.neBx hb0 (by decide) | exact nqp9_0)))
  refine ⟨⟨(hin.down le0), hb0, trivial⟩, ?_⟩
  refine AF.take 10 rfl (by kernel_rfl) (by kernel_rfl) (by kernel_rfl) ⟨(hin.down le0), hb0, trivial⟩ (fun _ ⟨hin, hb0, _⟩ => OpOk.nilCheck rfl) ?_
  refine AF.take 11 rfl (by kernel_rfl) (by kernel_rfl) (by kernel_rfl) ⟨(hin.down le0), hb0, trivial⟩ (fun _ ⟨hin, hb0, _⟩ => OpOk.fieldAddr (Try.fld84_0) rfl) ?_
  refine AF.one 12 (by kernel_rfl) ?_
  refine AFN.chg0L rfl (noleft (by kernel_rfl)) rfl (OpCh.storeB hb0 Try.sz34 rfl rfl x55.one1 (by first | decide | (simp; done))) ?_
  rintro _ Hw5 ⟨tw5, bw5⟩
  have ztw5 := tw5.1
  replace hin := hin.tw tw5 ng0
  replace hkp := hkp.tw tw5 (.inr (.inl rfl))
  replace x55 := x55.tw tw5 (x55.neBx hb0 (by decide))
  replace hb0 : Bx _ _ _ [v55, .int .i64 scr, .int .i64 sp, .int .i64 e] := bw5
  clear bw5 tw5
  refine AF.done (by kernel_rfl) ?_
  refine PF.next (CF.ret (PF.thenRet ?_))
  have hm0 : (bringL scr sp a b l e) = (l ++ ([storeM b a])) := by
    first | (unfold bringE; (repeat' split) <;> omega) | (unfold bringL bringX; (try rw [if_neg (by omega)]); (repeat rw [if_neg (by omega)]); (try rw [if_pos (by omega)]); (try simp); done)
  have hm3 : (bringE scr sp a b e) = e := by
    first | (unfold bringE; (repeat' split) <;> omega) | (unfold bringL bringX; (try rw [if_neg (by omega)]); (repeat rw [if_neg (by omega)]); (try rw [if_pos (by omega)]); (try simp); done)
  exact PF.ret0 rfl ⟨_, v55, rfl, hx, hin, hkp, by rw [hm3]; exact hb0, by rw [hm0]; exact (x55.base (Nat.zero_le _)), lnk_of (fun k9 h9 => (wf55 _ h9)) (x55.neBx hb0 (by decide))⟩
  refine CF.skip (PF.next (CF.seq (CF.seq (CF.region (LF.step (OpOk.move rfl) ?_)))))
  refine LF.step (OpOk.nilCheck rfl) ?_
  refine LF.step (OpOk.fieldAddr (Try.fld84_1) rfl) ?_
  refine LF.step (OpOk.ldBx hb0 Try.one3 rfl rfl) ?_
  refine LF.step (OpOk.geq rfl rfl) ?_
  refine LF.nil (PF.next ?_)
  refine CF.if rfl (fun hc5 => ?_) (fun hc5 => ?_)
  refine CF.seq ?_
  refine CF.any (z := true) (fun H' => InH F H' ∧ Bx H' g0 84 [a9, .int .i64 scr, .int .i64 sp, .int .i64 e] ∧ True) Try.mixed ?_
  refine AF.take 0 rfl (by kernel_rfl) (by kernel_rfl) (by kernel_rfl) ⟨hin, hb0, trivial⟩ (fun _ ⟨hin, hb0, _⟩ => OpOk.move rfl) ?_
  refine AF.take 1 rfl (by kernel_rfl) (by kernel_rfl) (by kernel_rfl) ⟨hin, hb0, trivial⟩ (fun _ ⟨hin, hb0, _⟩ => OpOk.move rfl) ?_
  refine AF.take 2 rfl (by kernel_rfl) (by kernel_rfl) (by kernel_rfl) ⟨hin, hb0, trivial⟩ (fun _ ⟨hin, hb0, _⟩ => OpOk.nilCheck rfl) ?_
  refine AF.take 3 rfl (by kernel_rfl) (by kernel_rfl) (by kernel_rfl) ⟨hin, hb0, trivial⟩ (fun _ ⟨hin, hb0, _⟩ => OpOk.fieldAddr (Try.fld84_0) rfl) ?_
  refine AF.take 4 rfl (by kernel_rfl) (by kernel_rfl) (by kernel_rfl) ⟨hin, hb0, trivial⟩ (fun _ ⟨hin, hb0, _⟩ => OpOk.ldBx hb0 Try.one34 rfl rfl) ?_
  refine AF.take 5 rfl (by kernel_rfl) (by kernel_rfl) (by kernel_rfl) ⟨hin, hb0, trivial⟩ (fun _ ⟨hin, hb0, _⟩ => OpOk.move rfl) ?_
  refine AF.take 6 rfl (by kernel_rfl) (by kernel_rfl) (by kernel_rfl) ⟨hin, hb0, trivial⟩ (fun _ ⟨hin, hb0, _⟩ => OpOk.nilCheck rfl) ?_
  refine AF.take 7 rfl (by kernel_rfl) (by kernel_rfl) (by kernel_rfl) ⟨hin, hb0, trivial⟩ (fun _ ⟨hin, hb0, _⟩ => OpOk.fieldAddr (Try.fld84_1) rfl) ?_
  refine AF.take 8 rfl (by kernel_rfl) (by kernel_rfl) (by kernel_rfl) ⟨hin, hb0, trivial⟩ (fun _ ⟨hin, hb0, _⟩ => OpOk.ldBx hb0 Try.one3 rfl rfl) ?_
  refine AF.take 9 rfl (by kernel_rfl) (by kernel_rfl) (by kernel_rfl) ⟨hin, hb0, trivial⟩ (fun _ ⟨hin, hb0, _⟩ => OpOk.move rfl) ?_
  refine AF.take 11 rfl (by kernel_rfl) (by kernel_rfl) (by kernel_rfl) ⟨hin, hb0, trivial⟩ (fun _ ⟨hin, hb0, _⟩ => OpOk.move rfl) ?_
  refine AF.take 12 rfl (by kernel_rfl) (by kernel_rfl) (by kernel_rfl) ⟨hin, hb0, trivial⟩ (fun _ ⟨hin, hb0, _⟩ => OpOk.nilCheck rfl) ?_
  refine AF.take 13 rfl (by kernel_rfl) (by kernel_rfl) (by kernel_rfl) ⟨hin, hb0, trivial⟩ (fun _ ⟨hin, hb0, _⟩ => OpOk.fieldAddr (Try.fld84_1) rfl) ?_
  refine AF.take 14 rfl (by kernel_rfl) (by kernel_rfl) (by kernel_rfl) ⟨hin, hb0, trivial⟩ (fun _ ⟨hin, hb0, _⟩ => OpOk.ldBx hb0 Try.one3 rfl rfl) ?_
  refine AF.take 15 rfl (by kernel_rfl) (by kernel_rfl) (by kernel_rfl) ⟨hin, hb0, trivial⟩ (fun _ ⟨hin, hb0, _⟩ => OpOk.move rfl) ?_
  refine AF.call 10 rfl (by kernel_rfl) (OpCall.fn Try.ent65 rfl rfl) (rLoad_ct hin scr b (by omega) (IntWalk.i64_in scr (by omega))) (by rintro _ _ ⟨_, _, _, k, _⟩; exact ⟨(hin.kp k), (hb0.kp k), trivial⟩) ?_
  rintro v73 H73 ⟨F73, x73, i73, k73, h73⟩
  have zk73 := k73.1
  replace hx := hx.trans x73 hkp.1
  replace hkp := hkp.trans (k73.mono hkp.1)
  have l73 := hkp.1
  replace ng0 := x73.no ng0 hb0.lt
  replace hb0 := hb0.kp k73
  replace p9 := (p9.ext x73).kp k73
  have le0 := x73.1
  have hin := i73
  have h73k := rMach.any h73
  obtain ⟨v73c7, rfl, h73c7⟩ := rMach.open h73
  have h73c7q := rL.len2 h73c7
  refine AF.call 16 rfl (by kernel_rfl) (OpCall.fn Try.ent66 rfl rfl) (rStore_ct hin scr a (by omega) (IntWalk.i64_in scr (by omega))) (by rintro _ _ ⟨_, _, _, k, _⟩; exact ⟨((hin.down le0).kp k), (hb0.kp k), trivial⟩) ?_
  rintro v79 H79 ⟨F79, x79, i79, k79, h79⟩
  have zk79 := k79.1
  replace hx := hx.trans x79 hkp.1
  replace hkp := hkp.trans (k79.mono hkp.1)
  have l79 := hkp.1
  replace ng0 := x79.no ng0 hb0.lt
  replace hb0 := hb0.kp k79
  replace p9 := (p9.ext x79).kp k79
  replace le0 := le0.trans x79.1
  have le1 := x79.1
  have hin := i79
  have h79k := rMach.any h79
  obtain ⟨v79c7, rfl, h79c7⟩ := rMach.open h79
  have h79c7q := rL.len2 h79c7
  refine AF.one 17 (by kernel_rfl) ?_
  refine AFN.chg rfl (OpCh.litL (F := F79) (r := rMach) (l := [loadM scr b, storeM scr a]) (us := [.agg #[.int .i64 ((loadM scr b).Op), .int .i64 ((loadM scr b).D), .int .i64 ((loadM scr b).E), .int .i64 ((loadM scr b).A), .int .i64 ((loadM scr b).B), .int .i64 ((loadM scr b).C), .int .i32 ((loadM scr b).Imm), v73c7], .agg #[.int .i64 ((storeM scr a).Op), .int .i64 ((storeM scr a).D), .int .i64 ((storeM scr a).E), .int .i64 ((storeM scr a).A), .int .i64 ((storeM scr a).B), .int .i64 ((storeM scr a).C), .int .i32 ((storeM scr a).Imm), v79c7]]) (cs := [[.int .i64 ((loadM scr b).Op), .int .i64 ((loadM scr b).D), .int .i64 ((loadM scr b).E), .int .i64 ((loadM scr b).A), .int .i64 ((loadM scr b).B), .int .i64 ((loadM scr b).C), .int .i32 ((loadM scr b).Imm), v73c7], [.int .i64 ((storeM scr a).Op), .int .i64 ((storeM scr a).D), .int .i64 ((storeM scr a).E), .int .i64 ((storeM scr a).A), .int .i64 ((storeM scr a).B), .int .i64 ((storeM scr a).C), .int .i32 ((storeM scr a).Imm), v79c7]]) Try.underlying34 Try.info39 (by decide) rfl rfl rfl ⟨rfl, rfl, (ra_ok (h73.up le1)), ⟨rfl, rfl, (ra_ok h79), trivial⟩⟩) ?_
  rintro _ H80 ⟨g80, rfl, e80, s80, k80, x80⟩
  have l80 := hkp.1
  have app9_80 := ap_new p9.lt (x80 hin).ge
  replace x80 := (x80 hin).base l80
  have zk80 := k80.1
  replace hin := hin.kp k80
  replace hkp := hkp.trans (k80.mono hkp.1)
  replace hb0 := hb0.kp k80
  replace p9 := p9.kp k80
  have ap80_p9 := ap_sym app9_80
  refine ⟨⟨(hin.down le0), hb0, trivial⟩, ?_⟩
  refine AF.one 18 (by kernel_rfl) ?_
  obtain ⟨Fz6, hxz6, lez6, hinz6, noz6, hrz6⟩ := x80.freezeX hin hx (Nat.le_refl _) (by first | (simp only [List.length_append, List.length_take, List.length_drop, List.length_nil, List.length_cons, List.length_set, List.length_replicate]; omega) | (simp; done) | (simp; omega) | omega)
  replace hin := hinz6
  replace hx := hxz6
  replace le0 := le0.trans lez6
  replace le1 := le1.trans lez6
  have le2 := lez6
  replace ng0 := (noz6 _ (x80.neBx hb0 (by decide))).trans ng0
  replace p9 := p9.frozen lez6 noz6 app9_80
  refine AFN.chg rfl (OpCh.appL (r := rMach) Try.underlying34 Try.info39 (by decide) rfl rfl rfl p9 hrz6 hin (by first | (simp only [List.length_append, List.length_take, List.length_drop, List.length_nil, List.length_cons, List.length_set, List.length_replicate]; omega) | (simp; done) | (simp; omega) | omega) (by first | omega | exact hkp.1)) ?_
  rintro v81 H81 ⟨x81, gb81, ob81⟩
  replace hin := hin.grown gb81 p9.no
  have wf81 := wf_grow (W := (fun j9 => j9 = g0 ∨ a9.ownBlock = some j9)) (fun k0 hk0 => (.inr (.inr hk0))) hkp.1 (ob_some ob81)
  replace hkp := gb81.kw2 hkp (fun k0 hk0 => (.inr (.inr hk0)))
  replace hb0 := hb0.of (gb81.2 _ hb0.lt (Ne.symm (by first | exact p9.neBx hb0 (by decide) | exact nqp9_0)))
  refine ⟨⟨(hin.down le0), hb0, trivial⟩, ?_⟩
  refine AF.take 19 rfl (by kernel_rfl) (by kernel_rfl) (by kernel_rfl) ⟨(hin.down le0), hb0, trivial⟩ (fun _ ⟨hin, hb0, _⟩ => OpOk.nilCheck rfl) ?_
  refine AF.take 20 rfl (by kernel_rfl) (by kernel_rfl) (by kernel_rfl) ⟨(hin.down le0), hb0, trivial⟩ (fun _ ⟨hin, hb0, _⟩ => OpOk.fieldAddr (Try.fld84_0) rfl) ?_
  refine AF.one 21 (by kernel_rfl) ?_
  refine AFN.chg0L rfl (noleft (by kernel_rfl)) rfl (OpCh.storeB hb0 Try.sz34 rfl rfl x81.one1 (by first | decide | (simp; done))) ?_
  rintro _ Hw7 ⟨tw7, bw7⟩
  have ztw7 := tw7.1
  replace hin := hin.tw tw7 ng0
  replace hkp := hkp.tw tw7 (.inr (.inl rfl))
  replace x81 := x81.tw tw7 (x81.neBx hb0 (by decide))
  replace hb0 : Bx _ _ _ [v81, .int .i64 scr, .int .i64 sp, .int .i64 e] := bw7
  clear bw7 tw7
  refine AF.done (by kernel_rfl) ?_
  refine PF.next (CF.ret (PF.thenRet ?_))
  have hm0 : (bringL scr sp a b l e) = (l ++ ([loadM scr b, storeM scr a])) := by
    first | (unfold bringE; (repeat' split) <;> omega) | (unfold bringL bringX; (try rw [if_neg (by omega)]); (repeat rw [if_neg (by omega)]); (try rw [if_pos (by omega)]); (try simp); done)
  have hm3 : (bringE scr sp a b e) = e := by
    first | (unfold bringE; (repeat' split) <;> omega) | (unfold bringL bringX; (try rw [if_neg (by omega)]); (repeat rw [if_neg (by omega)]); (try rw [if_pos (by omega)]); (try simp); done)
  exact PF.ret0 rfl ⟨_, v81, rfl, hx, hin, hkp, by rw [hm3]; exact hb0, by rw [hm0]; exact (x81.base (Nat.zero_le _)), lnk_of (fun k9 h9 => (wf81 _ h9)) (x81.neBx hb0 (by decide))⟩
  refine CF.skip (PF.next (CF.seq (CF.seq (CF.region (LF.step (OpOk.move rfl) ?_)))))
  refine LF.step (OpOk.nilCheck rfl) ?_
  refine LF.step (OpOk.fieldAddr (Try.fld84_2) rfl) ?_
  refine LF.step (OpOk.ldBx hb0 Try.one3 rfl rfl) ?_
  refine LF.step (OpOk.lss rfl rfl) ?_
  refine LF.nil (PF.next ?_)
  refine CF.if rfl (fun hc6 => ?_) (fun hc6 => ?_)
  refine CF.seq (CF.region (LF.step (OpOk.move rfl) ?_))
  refine LF.step (OpOk.nilCheck rfl) ?_
  refine LF.step (OpOk.fieldAddr (Try.fld84_3) rfl) ?_
  refine LF.chg0 (OpCh.storeB hb0 Try.sz35 rfl rfl rfl (by first | decide | (simp; done))) ?_
  rintro _ Hw8 ⟨tw8, bw8⟩
  have ztw8 := tw8.1
  replace hin := hin.tw tw8 ng0
  replace hkp := hkp.tw tw8 (.inr (.inl rfl))
  replace p9 := p9.tw tw8 (p9.neBx hb0 (by decide))
  replace hb0 : Bx _ _ _ [a9, .int .i64 scr, .int .i64 sp, .int .i64 43] := bw8
  clear bw8 tw8
  refine LF.nil (PF.next (CF.ret (PF.thenRet ?_)))
  have hm0 : (bringL scr sp a b l e) = l := by
    first | (unfold bringE; (repeat' split) <;> omega) | (unfold bringL bringX; (try rw [if_neg (by omega)]); (repeat rw [if_neg (by omega)]); (try rw [if_pos (by omega)]); (try simp); done)
  have hm3 : (bringE scr sp a b e) = 43 := by
    first | (unfold bringE; (repeat' split) <;> omega) | (unfold bringL bringX; (try rw [if_neg (by omega)]); (repeat rw [if_neg (by omega)]); (try rw [if_pos (by omega)]); (try simp); done)
  exact PF.ret0 rfl ⟨_, a9, rfl, hx, hin, hkp, by rw [hm3]; exact hb0, by rw [hm0]; exact (p9.base (Nat.zero_le _)), lnk_of (fun k9 h9 => (.inr (.inr h9))) (p9.neBx hb0 (by decide))⟩
  refine CF.skip (PF.next (CF.seq (CF.region (LF.step (OpOk.move rfl) ?_))))
  refine LF.step (OpOk.nilCheck rfl) ?_
  refine LF.step (OpOk.fieldAddr (Try.fld84_2) rfl) ?_
  refine LF.step (OpOk.ldBx hb0 Try.one3 rfl rfl) ?_
  refine LF.step (OpOk.add rfl rfl (by omega)) ?_
  refine LF.step (OpOk.add rfl rfl (by omega)) ?_
  refine LF.step (OpOk.assign rfl) (LF.nil (PF.next ?_))
  refine CF.any (z := true) (fun H' => InH F H' ∧ Bx H' g0 84 [a9, .int .i64 scr, .int .i64 sp, .int .i64 e] ∧ True) Try.mixed ?_
  refine AF.take 0 rfl (by kernel_rfl) (by kernel_rfl) (by kernel_rfl) ⟨hin, hb0, trivial⟩ (fun _ ⟨hin, hb0, _⟩ => OpOk.move rfl) ?_
  refine AF.take 1 rfl (by kernel_rfl) (by kernel_rfl) (by kernel_rfl) ⟨hin, hb0, trivial⟩ (fun _ ⟨hin, hb0, _⟩ => OpOk.move rfl) ?_
  refine AF.take 2 rfl (by kernel_rfl) (by kernel_rfl) (by kernel_rfl) ⟨hin, hb0, trivial⟩ (fun _ ⟨hin, hb0, _⟩ => OpOk.nilCheck rfl) ?_
  refine AF.take 3 rfl (by kernel_rfl) (by kernel_rfl) (by kernel_rfl) ⟨hin, hb0, trivial⟩ (fun _ ⟨hin, hb0, _⟩ => OpOk.fieldAddr (Try.fld84_0) rfl) ?_
  refine AF.take 4 rfl (by kernel_rfl) (by kernel_rfl) (by kernel_rfl) ⟨hin, hb0, trivial⟩ (fun _ ⟨hin, hb0, _⟩ => OpOk.ldBx hb0 Try.one34 rfl rfl) ?_
  refine AF.take 5 rfl (by kernel_rfl) (by kernel_rfl) (by kernel_rfl) ⟨hin, hb0, trivial⟩ (fun _ ⟨hin, hb0, _⟩ => OpOk.move rfl) ?_
  refine AF.take 7 rfl (by kernel_rfl) (by kernel_rfl) (by kernel_rfl) ⟨hin, hb0, trivial⟩ (fun _ ⟨hin, hb0, _⟩ => OpOk.move rfl) ?_
  refine AF.take 9 rfl (by kernel_rfl) (by kernel_rfl) (by kernel_rfl) ⟨hin, hb0, trivial⟩ (fun _ ⟨hin, hb0, _⟩ => OpOk.move rfl) ?_
  refine AF.take 11 rfl (by kernel_rfl) (by kernel_rfl) (by kernel_rfl) ⟨hin, hb0, trivial⟩ (fun _ ⟨hin, hb0, _⟩ => OpOk.move rfl) ?_
  refine AF.call 6 rfl (by kernel_rfl) (OpCall.fn Try.ent66 rfl rfl) (rStore_ct hin 0 ((16 + sp) + 1) (by omega) (by decide : IntKind.i64.wrap 0 = 0)) (by rintro _ _ ⟨_, _, _, k, _⟩; exact ⟨(hin.kp k), (hb0.kp k), trivial⟩) ?_
  rintro v104 H104 ⟨F104, x104, i104, k104, h104⟩
  have zk104 := k104.1
  replace hx := hx.trans x104 hkp.1
  replace hkp := hkp.trans (k104.mono hkp.1)
  have l104 := hkp.1
  replace ng0 := x104.no ng0 hb0.lt
  replace hb0 := hb0.kp k104
  replace p9 := (p9.ext x104).kp k104
  have le0 := x104.1
  have hin := i104
  have h104k := rMach.any h104
  obtain ⟨v104c7, rfl, h104c7⟩ := rMach.open h104
  have h104c7q := rL.len2 h104c7
  refine AF.call 8 rfl (by kernel_rfl) (OpCall.fn Try.ent65 rfl rfl) (rLoad_ct hin 0 b (by omega) (by decide : IntKind.i64.wrap 0 = 0)) (by rintro _ _ ⟨_, _, _, k, _⟩; exact ⟨((hin.down le0).kp k), (hb0.kp k), trivial⟩) ?_
  rintro v106 H106 ⟨F106, x106, i106, k106, h106⟩
  have zk106 := k106.1
  replace hx := hx.trans x106 hkp.1
  replace hkp := hkp.trans (k106.mono hkp.1)
  have l106 := hkp.1
  replace ng0 := x106.no ng0 hb0.lt
  replace hb0 := hb0.kp k106
  replace p9 := (p9.ext x106).kp k106
  replace le0 := le0.trans x106.1
  have le1 := x106.1
  have hin := i106
  have h106k := rMach.any h106
  obtain ⟨v106c7, rfl, h106c7⟩ := rMach.open h106
  have h106c7q := rL.len2 h106c7
  refine AF.call 10 rfl (by kernel_rfl) (OpCall.fn Try.ent66 rfl rfl) (rStore_ct hin 0 a (by omega) (by decide : IntKind.i64.wrap 0 = 0)) (by rintro _ _ ⟨_, _, _, k, _⟩; exact ⟨((hin.down le0).kp k), (hb0.kp k), trivial⟩) ?_
  rintro v108 H108 ⟨F108, x108, i108, k108, h108⟩
  have zk108 := k108.1
  replace hx := hx.trans x108 hkp.1
  replace hkp := hkp.trans (k108.mono hkp.1)
  have l108 := hkp.1
  replace ng0 := x108.no ng0 hb0.lt
  replace hb0 := hb0.kp k108
  replace p9 := (p9.ext x108).kp k108
  replace le0 := le0.trans x108.1
  replace le1 := le1.trans x108.1
  have le2 := x108.1
  have hin := i108
  have h108k := rMach.any h108
  obtain ⟨v108c7, rfl, h108c7⟩ := rMach.open h108
  have h108c7q := rL.len2 h108c7
  refine AF.call 12 rfl (by kernel_rfl) (OpCall.fn Try.ent65 rfl rfl) (rLoad_ct hin 0 ((16 + sp) + 1) (by omega) (by decide : IntKind.i64.wrap 0 = 0)) (by rintro _ _ ⟨_, _, _, k, _⟩; exact ⟨((hin.down le0).kp k), (hb0.kp k), trivial⟩) ?_
  rintro v110 H110 ⟨F110, x110, i110, k110, h110⟩
  have zk110 := k110.1
  replace hx := hx.trans x110 hkp.1
  replace hkp := hkp.trans (k110.mono hkp.1)
  have l110 := hkp.1
  replace ng0 := x110.no ng0 hb0.lt
  replace hb0 := hb0.kp k110
  replace p9 := (p9.ext x110).kp k110
  replace le0 := le0.trans x110.1
  replace le1 := le1.trans x110.1
  replace le2 := le2.trans x110.1
  have le3 := x110.1
  have hin := i110
  have h110k := rMach.any h110
  obtain ⟨v110c7, rfl, h110c7⟩ := rMach.open h110
  have h110c7q := rL.len2 h110c7
  refine AF.one 13 (by kernel_rfl) ?_
  refine AFN.chg rfl (OpCh.litL (F := F110) (r := rMach) (l := [storeM 0 ((16 + sp) + 1), loadM 0 b, storeM 0 a, loadM 0 ((16 + sp) + 1)]) (us := [.agg #[.int .i64 ((storeM 0 ((16 + sp) + 1)).Op), .int .i64 ((storeM 0 ((16 + sp) + 1)).D), .int .i64 ((storeM 0 ((16 + sp) + 1)).E), .int .i64 ((storeM 0 ((16 + sp) + 1)).A), .int .i64 ((storeM 0 ((16 + sp) + 1)).B), .int .i64 ((storeM 0 ((16 + sp) + 1)).C), .int .i32 ((storeM 0 ((16 + sp) + 1)).Imm), v104c7], .agg #[.int .i64 ((loadM 0 b).Op), .int .i64 ((loadM 0 b).D), .int .i64 ((loadM 0 b).E), .int .i64 ((loadM 0 b).A), .int .i64 ((loadM 0 b).B), .int .i64 ((loadM 0 b).C), .int .i32 ((loadM 0 b).Imm), v106c7], .agg #[.int .i64 ((storeM 0 a).Op), .int .i64 ((storeM 0 a).D), .int .i64 ((storeM 0 a).E), .int .i64 ((storeM 0 a).A), .int .i64 ((storeM 0 a).B), .int .i64 ((storeM 0 a).C), .int .i32 ((storeM 0 a).Imm), v108c7], .agg #[.int .i64 ((loadM 0 ((16 + sp) + 1)).Op), .int .i64 ((loadM 0 ((16 + sp) + 1)).D), .int .i64 ((loadM 0 ((16 + sp) + 1)).E), .int .i64 ((loadM 0 ((16 + sp) + 1)).A), .int .i64 ((loadM 0 ((16 + sp) + 1)).B), .int .i64 ((loadM 0 ((16 + sp) + 1)).C), .int .i32 ((loadM 0 ((16 + sp) + 1)).Imm), v110c7]]) (cs := [[.int .i64 ((storeM 0 ((16 + sp) + 1)).Op), .int .i64 ((storeM 0 ((16 + sp) + 1)).D), .int .i64 ((storeM 0 ((16 + sp) + 1)).E), .int .i64 ((storeM 0 ((16 + sp) + 1)).A), .int .i64 ((storeM 0 ((16 + sp) + 1)).B), .int .i64 ((storeM 0 ((16 + sp) + 1)).C), .int .i32 ((storeM 0 ((16 + sp) + 1)).Imm), v104c7], [.int .i64 ((loadM 0 b).Op), .int .i64 ((loadM 0 b).D), .int .i64 ((loadM 0 b).E), .int .i64 ((loadM 0 b).A), .int .i64 ((loadM 0 b).B), .int .i64 ((loadM 0 b).C), .int .i32 ((loadM 0 b).Imm), v106c7], [.int .i64 ((storeM 0 a).Op), .int .i64 ((storeM 0 a).D), .int .i64 ((storeM 0 a).E), .int .i64 ((storeM 0 a).A), .int .i64 ((storeM 0 a).B), .int .i64 ((storeM 0 a).C), .int .i32 ((storeM 0 a).Imm), v108c7], [.int .i64 ((loadM 0 ((16 + sp) + 1)).Op), .int .i64 ((loadM 0 ((16 + sp) + 1)).D), .int .i64 ((loadM 0 ((16 + sp) + 1)).E), .int .i64 ((loadM 0 ((16 + sp) + 1)).A), .int .i64 ((loadM 0 ((16 + sp) + 1)).B), .int .i64 ((loadM 0 ((16 + sp) + 1)).C), .int .i32 ((loadM 0 ((16 + sp) + 1)).Imm), v110c7]]) Try.underlying34 Try.info39 (by decide) rfl rfl rfl ⟨rfl, rfl, (ra_ok (h104.up le1)), ⟨rfl, rfl, (ra_ok (h106.up le2)), ⟨rfl, rfl, (ra_ok (h108.up le3)), ⟨rfl, rfl, (ra_ok h110), trivial⟩⟩⟩⟩) ?_
  rintro _ H111 ⟨g111, rfl, e111, s111, k111, x111⟩
  have l111 := hkp.1
  have app9_111 := ap_new p9.lt (x111 hin).ge
  replace x111 := (x111 hin).base l111
  have zk111 := k111.1
  replace hin := hin.kp k111
  replace hkp := hkp.trans (k111.mono hkp.1)
  replace hb0 := hb0.kp k111
  replace p9 := p9.kp k111
  have ap111_p9 := ap_sym app9_111
  refine ⟨⟨(hin.down le0), hb0, trivial⟩, ?_⟩
  refine AF.one 14 (by kernel_rfl) ?_
  obtain ⟨Fz9, hxz9, lez9, hinz9, noz9, hrz9⟩ := x111.freezeX hin hx (Nat.le_refl _) (by first | (simp only [List.length_append, List.length_take, List.length_drop, List.length_nil, List.length_cons, List.length_set, List.length_replicate]; omega) | (simp; done) | (simp; omega) | omega)
  replace hin := hinz9
  replace hx := hxz9
  replace le0 := le0.trans lez9
  replace le1 := le1.trans lez9
  replace le2 := le2.trans lez9
  replace le3 := le3.trans lez9
  have le4 := lez9
  replace ng0 := (noz9 _ (x111.neBx hb0 (by decide))).trans ng0
  replace p9 := p9.frozen lez9 noz9 app9_111
  refine AFN.chg rfl (OpCh.appL (r := rMach) Try.underlying34 Try.info39 (by decide) rfl rfl rfl p9 hrz9 hin (by first | (simp only [List.length_append, List.length_take, List.length_drop, List.length_nil, List.length_cons, List.length_set, List.length_replicate]; omega) | (simp; done) | (simp; omega) | omega) (by first | omega | exact hkp.1)) ?_
  rintro v112 H112 ⟨x112, gb112, ob112⟩
  replace hin := hin.grown gb112 p9.no
  have wf112 := wf_grow (W := (fun j9 => j9 = g0 ∨ a9.ownBlock = some j9)) (fun k0 hk0 => (.inr (.inr hk0))) hkp.1 (ob_some ob112)
  replace hkp := gb112.kw2 hkp (fun k0 hk0 => (.inr (.inr hk0)))
  replace hb0 := hb0.of (gb112.2 _ hb0.lt (Ne.symm (by first | exact p9.neBx hb0 (by decide) | exact nqp9_0)))
  refine ⟨⟨(hin.down le0), hb0, trivial⟩, ?_⟩
  refine AF.take 15 rfl (by kernel_rfl) (by kernel_rfl) (by kernel_rfl) ⟨(hin.down le0), hb0, trivial⟩ (fun _ ⟨hin, hb0, _⟩ => OpOk.nilCheck rfl) ?_
  refine AF.take 16 rfl (by kernel_rfl) (by kernel_rfl) (by kernel_rfl) ⟨(hin.down le0), hb0, trivial⟩ (fun _ ⟨hin, hb0, _⟩ => OpOk.fieldAddr (Try.fld84_0) rfl) ?_
  refine AF.one 17 (by kernel_rfl) ?_
  refine AFN.chg0L rfl (noleft (by kernel_rfl)) rfl (OpCh.storeB hb0 Try.sz34 rfl rfl x112.one1 (by first | decide | (simp; done))) ?_
  rintro _ Hw10 ⟨tw10, bw10⟩
  have ztw10 := tw10.1
  replace hin := hin.tw tw10 ng0
  replace hkp := hkp.tw tw10 (.inr (.inl rfl))
  replace x112 := x112.tw tw10 (x112.neBx hb0 (by decide))
  replace hb0 : Bx _ _ _ [v112, .int .i64 scr, .int .i64 sp, .int .i64 e] := bw10
  clear bw10 tw10
  refine AF.done (by kernel_rfl) ?_
  have hm0 : (bringL scr sp a b l e) = (l ++ ([storeM 0 ((16 + sp) + 1), loadM 0 b, storeM 0 a, loadM 0 ((16 + sp) + 1)])) := by
    first | (unfold bringE; (repeat' split) <;> omega) | (unfold bringL bringX; (try rw [if_neg (by omega)]); (repeat rw [if_neg (by omega)]); (try rw [if_pos (by omega)]); (try simp); done)
  have hm3 : (bringE scr sp a b e) = e := by
    first | (unfold bringE; (repeat' split) <;> omega) | (unfold bringL bringX; (try rw [if_neg (by omega)]); (repeat rw [if_neg (by omega)]); (try rw [if_pos (by omega)]); (try simp); done)
  exact PF.end0 rfl ⟨_, v112, rfl, hx, hin, hkp, by rw [hm3]; exact hb0, by rw [hm0]; exact (x112.base (Nat.zero_le _)), lnk_of (fun k9 h9 => (wf112 _ h9)) (x112.neBx hb0 (by decide))⟩

end Go.Proofs.Ytcceglmmpbdhiaa
