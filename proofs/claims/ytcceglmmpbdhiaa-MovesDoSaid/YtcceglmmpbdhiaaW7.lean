/- Walks. Conditions: each contract names its own. -/
import Derived.Test.YtcceglmmpbdhiaaW6
namespace Go.Proofs.Ytcceglmmpbdhiaa
set_option linter.unusedVariables false
set_option linter.unusedSimpArgs false
set_option linter.unusedSectionVars false
set_option maxRecDepth 8000
open Go.JE

theorem Try.ent60 : Ent Try.prog 60 := ⟨_, Try.func60, by kernel_rfl, by kernel_rfl⟩
theorem Try.ent61 : Ent Try.prog 61 := ⟨_, Try.func61, by kernel_rfl, by kernel_rfl⟩
theorem Try.ent62 : Ent Try.prog 62 := ⟨_, Try.func62, by kernel_rfl, by kernel_rfl⟩
theorem Try.fld62_1 : Fld Try.prog 62 1 1 := ⟨_, _, Try.underlying62, rfl, rfl, 1, (by unfold Sz; kernel_rfl), by decide⟩
theorem Try.fld62_2 : Fld Try.prog 62 2 2 := ⟨_, _, Try.underlying62, rfl, rfl, 1, (by unfold Sz; kernel_rfl), by decide⟩
theorem Try.fld62_3 : Fld Try.prog 62 3 3 := ⟨_, _, Try.underlying62, rfl, rfl, 1, (by unfold Sz; kernel_rfl), by decide⟩
theorem Try.sz4 : Sz Try.prog 4 1 := by unfold Sz; kernel_rfl
-- (*jacquard/moves.layer).bring: function 37
theorem pBring_ct {F : PH} {H : Heap} (hin : InH F H) {a9 : Value} {l : List D.Mach} {Bp9 : Nat} (p9 : Gl rMach 39 F H Bp9 a9 l) (scr : Int) (sp : Int) (lk : Bool) (hl9 : l.length < 1000000) (hs : -9223372036854775808 ≤ scr ∧ scr < 16) (hsp : -9223372036854775808 ≤ sp ∧ sp < 16383) {g0 : Nat} (hb0 : Bx H g0 62 [a9, .int .i64 scr, .int .i64 sp, .bool lk]) (ng0 : F g0 = none) (a : Int) (b : Int) (ha : 0 ≤ a ∧ a < 16400) (hb : 0 ≤ b ∧ b < 16400) :
    Ct Try.prog 37 #[.pointer (some ⟨g0, 0, none⟩), .int .i64 a, .int .i64 b] H (fun v H' => ∃ (F' : PH) (u0 : Value), v = .tuple #[] ∧ PH.ext H F F' ∧ InH F' H' ∧ Kw (fun j9 => j9 = g0 ∨ a9.ownBlock = some j9) H H' ∧ Bx H' g0 62 [u0, .int .i64 scr, .int .i64 sp, .bool (lk || (bringX scr sp a b).isNone)] ∧ Gl rMach 39 F' H' 0 u0 (l ++ (bringX scr sp a b).getD []) ∧ Lnk H.size a9 u0) := by
  replace p9 := p9.base (Nat.zero_le _)
  have lg0 := hb0.lt
  have hkp := Kw.refl (fun j9 => j9 = g0 ∨ a9.ownBlock = some j9) H
  have hx := PH.ext.refl (H := H) F
  refine Ct.enter (args := [.pointer (some ⟨g0, 0, none⟩), .int .i64 a, .int .i64 b]) Try.func37 rfl rfl rfl (fun w0 hw0 => ?_)
  refine CF.block (CF.seq (CF.region (LF.step (OpOk.move rfl) ?_)))
  refine LF.step (OpOk.lss rfl rfl) ?_
  refine LF.step (OpOk.move rfl) ?_
  refine LF.gstep rfl rfl (.t _) (fun hg => OpOk.move rfl) ?_
  refine LF.gstep rfl rfl (.t _) (fun hg => OpOk.lss (evg rfl hg) rfl) ?_
  refine LF.step (OpOk.pickAnd rfl rfl) ?_
  refine LF.step (OpOk.assign rfl) (LF.nil (PF.next ?_))
  refine CF.if rfl (fun hc1 => ?_) (fun hc1 => ?_)
  refine CF.region (LF.step (OpOk.move rfl) (LF.step (OpOk.move rfl) (LF.step (OpOk.move rfl) ?_)))
  refine LF.step (OpOk.build (v := .agg #[.int .i64 1, .int .i64 a, .int .i64 0, .int .i64 b, .int .i64 0, .int .i64 0, .int .i32 0, .slice none 0 0]) rfl (fun w => by kernel_rfl)) ?_
  refine LF.chg (OpCh.litL (F := F) (r := rMach) (l := [⟨1, a, 0, b, 0, 0, 0, []⟩]) (us := [.agg #[.int .i64 1, .int .i64 a, .int .i64 0, .int .i64 b, .int .i64 0, .int .i64 0, .int .i32 0, .slice none 0 0]]) (cs := [[.int .i64 1, .int .i64 a, .int .i64 0, .int .i64 b, .int .i64 0, .int .i64 0, .int .i32 0, .slice none 0 0]]) Try.underlying34 Try.info39 (by decide) rfl rfl rfl ⟨rfl, rfl, (ra_ok (rMach.mk (m := ⟨1, a, 0, b, 0, 0, 0, []⟩) (rL.nil _) (by decide : IntKind.i64.wrap 1 = 1) (IntWalk.i64_in a (by omega)) (by decide : IntKind.i64.wrap 0 = 0) (IntWalk.i64_in b (by omega)) (by decide : IntKind.i64.wrap 0 = 0) (by decide : IntKind.i64.wrap 0 = 0) (by decide : IntKind.i32.wrap 0 = 0))), trivial⟩) ?_
  rintro _ H35 ⟨g35, rfl, e35, s35, k35, x35⟩
  have l35 := hkp.1
  have app9_35 := ap_new p9.lt (x35 hin).ge
  replace x35 := (x35 hin).base l35
  have zk35 := k35.1
  replace hin := hin.kp k35
  replace hkp := hkp.trans (k35.mono hkp.1)
  replace hb0 := hb0.kp k35
  replace p9 := p9.kp k35
  have ap35_p9 := ap_sym app9_35
  obtain ⟨Fz1, hxz1, lez1, hinz1, noz1, hrz1⟩ := x35.freezeX hin hx (Nat.le_refl _) (by first | (simp only [List.length_append, List.length_take, List.length_drop, List.length_nil, List.length_cons, List.length_set, List.length_replicate]; omega) | (simp; done) | (simp; omega) | omega)
  replace hin := hinz1
  replace hx := hxz1
  have le0 := lez1
  replace ng0 := (noz1 _ (x35.neBx hb0 (by decide))).trans ng0
  replace p9 := p9.frozen lez1 noz1 app9_35
  refine LF.call (OpCall.fn Try.ent60 rfl rfl) (pLay_ct hin p9 scr sp lk (by first | omega | (simp only [List.length_cons, List.length_nil]; omega)) hb0 ng0 hrz1 (by first | omega | (simp only [List.length_cons, List.length_nil]; omega))) ?_
  rintro _ H36 ⟨F36, u36_0, rfl, x36, i36, k36, b36, x36_0, lk36_0⟩
  have zk36 := k36.1
  have l36 := hkp.1
  replace hx := hx.trans x36 hkp.1
  have wf36_0 := Lnk.ge (W := (fun j9 => j9 = g0 ∨ a9.ownBlock = some j9)) lk36_0 (fun k0 hk0 => (.inr (.inr hk0))) hkp.1
  replace hkp := hkp.kw k36 (by intro k0 hl; rintro (rfl | hk0); exact (.inl rfl); exact (.inr hk0))
  replace ng0 := x36.no ng0 hb0.lt
  replace le0 := le0.trans x36.1
  have le1 := x36.1
  replace hin := i36
  clear i36
  replace hb0 := b36
  clear b36
  refine LF.nil (PF.blockNormal ?_)
  have hm0 : (l ++ (bringX scr sp a b).getD []) = (l ++ ([⟨1, a, 0, b, 0, 0, 0, []⟩])) := by
    first | rfl | (unfold bringX; (repeat rw [if_neg (by omega)]); (try rw [if_pos (by omega)]); (try simp); done) | (have hX : bringX scr sp a b = none := (by unfold bringX; (repeat rw [if_neg (by omega)]); (try rw [if_pos (by omega)])); rw [hX]; simp; done) | (have hX : (bringX scr sp a b).isNone = false := (by unfold bringX; (repeat rw [if_neg (by omega)]); (try rw [if_pos (by omega)]); rfl); rw [hX]; simp; done)
  have hm3 : (lk || (bringX scr sp a b).isNone) = lk := by
    first | rfl | (unfold bringX; (repeat rw [if_neg (by omega)]); (try rw [if_pos (by omega)]); (try simp); done) | (have hX : bringX scr sp a b = none := (by unfold bringX; (repeat rw [if_neg (by omega)]); (try rw [if_pos (by omega)])); rw [hX]; simp; done) | (have hX : (bringX scr sp a b).isNone = false := (by unfold bringX; (repeat rw [if_neg (by omega)]); (try rw [if_pos (by omega)]); rfl); rw [hX]; simp; done)
  exact PF.end0 rfl ⟨_, u36_0, rfl, hx, hin, hkp, by rw [hm3]; exact hb0, by rw [hm0]; exact (x36_0.base (Nat.zero_le _)), lnk_of (fun k9 h9 => (wf36_0 _ h9)) (x36_0.neBx hb0 (by decide))⟩
  refine CF.seq (CF.region (LF.step (OpOk.move rfl) ?_))
  refine LF.step (OpOk.lss rfl rfl) ?_
  refine LF.step (OpOk.assign rfl) (LF.nil (PF.next ?_))
  refine CF.if rfl (fun hc2 => ?_) (fun hc2 => ?_)
  refine CF.region (LF.step (OpOk.move rfl) (LF.step (OpOk.move rfl) (LF.step (OpOk.move rfl) ?_)))
  refine LF.call (OpCall.fn Try.ent61 rfl rfl) (pLoad_ct hin a b (by first | omega | (simp only [List.length_cons, List.length_nil]; omega)) (IntWalk.i64_in a (by omega))) ?_
  rintro v43 H43 ⟨F43, x43, i43, k43, h43⟩
  have zk43 := k43.1
  replace hx := hx.trans x43 hkp.1
  replace hkp := hkp.trans (k43.mono hkp.1)
  have l43 := hkp.1
  replace ng0 := x43.no ng0 hb0.lt
  replace hb0 := hb0.kp k43
  replace p9 := (p9.ext x43).kp k43
  have le0 := x43.1
  have hin := i43
  have h43k := rMach.any h43
  obtain ⟨v43c7, rfl, h43c7⟩ := rMach.open h43
  have h43c7q := rL.len2 h43c7
  refine LF.chg (OpCh.litL (F := F43) (r := rMach) (l := [loadM a b]) (us := [.agg #[.int .i64 ((loadM a b).Op), .int .i64 ((loadM a b).D), .int .i64 ((loadM a b).E), .int .i64 ((loadM a b).A), .int .i64 ((loadM a b).B), .int .i64 ((loadM a b).C), .int .i32 ((loadM a b).Imm), v43c7]]) (cs := [[.int .i64 ((loadM a b).Op), .int .i64 ((loadM a b).D), .int .i64 ((loadM a b).E), .int .i64 ((loadM a b).A), .int .i64 ((loadM a b).B), .int .i64 ((loadM a b).C), .int .i32 ((loadM a b).Imm), v43c7]]) Try.underlying34 Try.info39 (by decide) rfl rfl rfl ⟨rfl, rfl, (ra_ok h43), trivial⟩) ?_
  rintro _ H44 ⟨g44, rfl, e44, s44, k44, x44⟩
  have l44 := hkp.1
  have app9_44 := ap_new p9.lt (x44 hin).ge
  replace x44 := (x44 hin).base l44
  have zk44 := k44.1
  replace hin := hin.kp k44
  replace hkp := hkp.trans (k44.mono hkp.1)
  replace hb0 := hb0.kp k44
  replace p9 := p9.kp k44
  have ap44_p9 := ap_sym app9_44
  obtain ⟨Fz3, hxz3, lez3, hinz3, noz3, hrz3⟩ := x44.freezeX hin hx (Nat.le_refl _) (by first | (simp only [List.length_append, List.length_take, List.length_drop, List.length_nil, List.length_cons, List.length_set, List.length_replicate]; omega) | (simp; done) | (simp; omega) | omega)
  replace hin := hinz3
  replace hx := hxz3
  replace le0 := le0.trans lez3
  have le1 := lez3
  replace ng0 := (noz3 _ (x44.neBx hb0 (by decide))).trans ng0
  replace p9 := p9.frozen lez3 noz3 app9_44
  refine LF.call (OpCall.fn Try.ent60 rfl rfl) (pLay_ct hin p9 scr sp lk (by first | omega | (simp only [List.length_cons, List.length_nil]; omega)) hb0 ng0 hrz3 (by first | omega | (simp only [List.length_cons, List.length_nil]; omega))) ?_
  rintro _ H45 ⟨F45, u45_0, rfl, x45, i45, k45, b45, x45_0, lk45_0⟩
  have zk45 := k45.1
  have l45 := hkp.1
  replace hx := hx.trans x45 hkp.1
  have wf45_0 := Lnk.ge (W := (fun j9 => j9 = g0 ∨ a9.ownBlock = some j9)) lk45_0 (fun k0 hk0 => (.inr (.inr hk0))) hkp.1
  replace hkp := hkp.kw k45 (by intro k0 hl; rintro (rfl | hk0); exact (.inl rfl); exact (.inr hk0))
  replace ng0 := x45.no ng0 hb0.lt
  replace le0 := le0.trans x45.1
  replace le1 := le1.trans x45.1
  have le2 := x45.1
  replace hin := i45
  clear i45
  replace hb0 := b45
  clear b45
  refine LF.nil (PF.blockNormal ?_)
  have hm0 : (l ++ (bringX scr sp a b).getD []) = (l ++ ([loadM a b])) := by
    first | rfl | (unfold bringX; (repeat rw [if_neg (by omega)]); (try rw [if_pos (by omega)]); (try simp); done) | (have hX : bringX scr sp a b = none := (by unfold bringX; (repeat rw [if_neg (by omega)]); (try rw [if_pos (by omega)])); rw [hX]; simp; done) | (have hX : (bringX scr sp a b).isNone = false := (by unfold bringX; (repeat rw [if_neg (by omega)]); (try rw [if_pos (by omega)]); rfl); rw [hX]; simp; done)
  have hm3 : (lk || (bringX scr sp a b).isNone) = lk := by
    first | rfl | (unfold bringX; (repeat rw [if_neg (by omega)]); (try rw [if_pos (by omega)]); (try simp); done) | (have hX : bringX scr sp a b = none := (by unfold bringX; (repeat rw [if_neg (by omega)]); (try rw [if_pos (by omega)])); rw [hX]; simp; done) | (have hX : (bringX scr sp a b).isNone = false := (by unfold bringX; (repeat rw [if_neg (by omega)]); (try rw [if_pos (by omega)]); rfl); rw [hX]; simp; done)
  exact PF.end0 rfl ⟨_, u45_0, rfl, hx, hin, hkp, by rw [hm3]; exact hb0, by rw [hm0]; exact (x45_0.base (Nat.zero_le _)), lnk_of (fun k9 h9 => (wf45_0 _ h9)) (x45_0.neBx hb0 (by decide))⟩
  refine CF.seq (CF.region (LF.step (OpOk.move rfl) ?_))
  refine LF.step (OpOk.lss rfl rfl) ?_
  refine LF.step (OpOk.assign rfl) (LF.nil (PF.next ?_))
  refine CF.if rfl (fun hc3 => ?_) (fun hc3 => ?_)
  refine CF.region (LF.step (OpOk.move rfl) (LF.step (OpOk.move rfl) (LF.step (OpOk.move rfl) ?_)))
  refine LF.call (OpCall.fn Try.ent62 rfl rfl) (pStore_ct hin b a (by first | omega | (simp only [List.length_cons, List.length_nil]; omega)) (IntWalk.i64_in b (by omega))) ?_
  rintro v52 H52 ⟨F52, x52, i52, k52, h52⟩
  have zk52 := k52.1
  replace hx := hx.trans x52 hkp.1
  replace hkp := hkp.trans (k52.mono hkp.1)
  have l52 := hkp.1
  replace ng0 := x52.no ng0 hb0.lt
  replace hb0 := hb0.kp k52
  replace p9 := (p9.ext x52).kp k52
  have le0 := x52.1
  have hin := i52
  have h52k := rMach.any h52
  obtain ⟨v52c7, rfl, h52c7⟩ := rMach.open h52
  have h52c7q := rL.len2 h52c7
  refine LF.chg (OpCh.litL (F := F52) (r := rMach) (l := [storeM b a]) (us := [.agg #[.int .i64 ((storeM b a).Op), .int .i64 ((storeM b a).D), .int .i64 ((storeM b a).E), .int .i64 ((storeM b a).A), .int .i64 ((storeM b a).B), .int .i64 ((storeM b a).C), .int .i32 ((storeM b a).Imm), v52c7]]) (cs := [[.int .i64 ((storeM b a).Op), .int .i64 ((storeM b a).D), .int .i64 ((storeM b a).E), .int .i64 ((storeM b a).A), .int .i64 ((storeM b a).B), .int .i64 ((storeM b a).C), .int .i32 ((storeM b a).Imm), v52c7]]) Try.underlying34 Try.info39 (by decide) rfl rfl rfl ⟨rfl, rfl, (ra_ok h52), trivial⟩) ?_
  rintro _ H53 ⟨g53, rfl, e53, s53, k53, x53⟩
  have l53 := hkp.1
  have app9_53 := ap_new p9.lt (x53 hin).ge
  replace x53 := (x53 hin).base l53
  have zk53 := k53.1
  replace hin := hin.kp k53
  replace hkp := hkp.trans (k53.mono hkp.1)
  replace hb0 := hb0.kp k53
  replace p9 := p9.kp k53
  have ap53_p9 := ap_sym app9_53
  obtain ⟨Fz5, hxz5, lez5, hinz5, noz5, hrz5⟩ := x53.freezeX hin hx (Nat.le_refl _) (by first | (simp only [List.length_append, List.length_take, List.length_drop, List.length_nil, List.length_cons, List.length_set, List.length_replicate]; omega) | (simp; done) | (simp; omega) | omega)
  replace hin := hinz5
  replace hx := hxz5
  replace le0 := le0.trans lez5
  have le1 := lez5
  replace ng0 := (noz5 _ (x53.neBx hb0 (by decide))).trans ng0
  replace p9 := p9.frozen lez5 noz5 app9_53
  refine LF.call (OpCall.fn Try.ent60 rfl rfl) (pLay_ct hin p9 scr sp lk (by first | omega | (simp only [List.length_cons, List.length_nil]; omega)) hb0 ng0 hrz5 (by first | omega | (simp only [List.length_cons, List.length_nil]; omega))) ?_
  rintro _ H54 ⟨F54, u54_0, rfl, x54, i54, k54, b54, x54_0, lk54_0⟩
  have zk54 := k54.1
  have l54 := hkp.1
  replace hx := hx.trans x54 hkp.1
  have wf54_0 := Lnk.ge (W := (fun j9 => j9 = g0 ∨ a9.ownBlock = some j9)) lk54_0 (fun k0 hk0 => (.inr (.inr hk0))) hkp.1
  replace hkp := hkp.kw k54 (by intro k0 hl; rintro (rfl | hk0); exact (.inl rfl); exact (.inr hk0))
  replace ng0 := x54.no ng0 hb0.lt
  replace le0 := le0.trans x54.1
  replace le1 := le1.trans x54.1
  have le2 := x54.1
  replace hin := i54
  clear i54
  replace hb0 := b54
  clear b54
  refine LF.nil (PF.blockNormal ?_)
  have hm0 : (l ++ (bringX scr sp a b).getD []) = (l ++ ([storeM b a])) := by
    first | rfl | (unfold bringX; (repeat rw [if_neg (by omega)]); (try rw [if_pos (by omega)]); (try simp); done) | (have hX : bringX scr sp a b = none := (by unfold bringX; (repeat rw [if_neg (by omega)]); (try rw [if_pos (by omega)])); rw [hX]; simp; done) | (have hX : (bringX scr sp a b).isNone = false := (by unfold bringX; (repeat rw [if_neg (by omega)]); (try rw [if_pos (by omega)]); rfl); rw [hX]; simp; done)
  have hm3 : (lk || (bringX scr sp a b).isNone) = lk := by
    first | rfl | (unfold bringX; (repeat rw [if_neg (by omega)]); (try rw [if_pos (by omega)]); (try simp); done) | (have hX : bringX scr sp a b = none := (by unfold bringX; (repeat rw [if_neg (by omega)]); (try rw [if_pos (by omega)])); rw [hX]; simp; done) | (have hX : (bringX scr sp a b).isNone = false := (by unfold bringX; (repeat rw [if_neg (by omega)]); (try rw [if_pos (by omega)]); rfl); rw [hX]; simp; done)
  exact PF.end0 rfl ⟨_, u54_0, rfl, hx, hin, hkp, by rw [hm3]; exact hb0, by rw [hm0]; exact (x54_0.base (Nat.zero_le _)), lnk_of (fun k9 h9 => (wf54_0 _ h9)) (x54_0.neBx hb0 (by decide))⟩
  refine CF.seq (CF.region (LF.step (OpOk.move rfl) ?_))
  refine LF.step (OpOk.nilCheck rfl) ?_
  refine LF.step (OpOk.fieldAddr (Try.fld62_1) rfl) ?_
  refine LF.step (OpOk.ldBx hb0 Try.one3 rfl rfl) ?_
  refine LF.step (OpOk.geq rfl rfl) ?_
  refine LF.step (OpOk.assign rfl) (LF.nil (PF.next ?_))
  refine CF.if rfl (fun hc4 => ?_) (fun hc4 => ?_)
  refine CF.any (z := true) (fun H' => InH F H' ∧ Bx H' g0 62 [a9, .int .i64 scr, .int .i64 sp, .bool lk] ∧ True) Try.mixed ?_
  refine AF.take 0 rfl (by kernel_rfl) (by kernel_rfl) (by kernel_rfl) ⟨hin, hb0, trivial⟩ (fun _ ⟨hin, hb0, _⟩ => OpOk.move rfl) ?_
  refine AF.take 1 rfl (by kernel_rfl) (by kernel_rfl) (by kernel_rfl) ⟨hin, hb0, trivial⟩ (fun _ ⟨hin, hb0, _⟩ => OpOk.move rfl) ?_
  refine AF.take 2 rfl (by kernel_rfl) (by kernel_rfl) (by kernel_rfl) ⟨hin, hb0, trivial⟩ (fun _ ⟨hin, hb0, _⟩ => OpOk.nilCheck rfl) ?_
  refine AF.take 3 rfl (by kernel_rfl) (by kernel_rfl) (by kernel_rfl) ⟨hin, hb0, trivial⟩ (fun _ ⟨hin, hb0, _⟩ => OpOk.fieldAddr (Try.fld62_1) rfl) ?_
  refine AF.take 4 rfl (by kernel_rfl) (by kernel_rfl) (by kernel_rfl) ⟨hin, hb0, trivial⟩ (fun _ ⟨hin, hb0, _⟩ => OpOk.ldBx hb0 Try.one3 rfl rfl) ?_
  refine AF.take 5 rfl (by kernel_rfl) (by kernel_rfl) (by kernel_rfl) ⟨hin, hb0, trivial⟩ (fun _ ⟨hin, hb0, _⟩ => OpOk.move rfl) ?_
  refine AF.take 7 rfl (by kernel_rfl) (by kernel_rfl) (by kernel_rfl) ⟨hin, hb0, trivial⟩ (fun _ ⟨hin, hb0, _⟩ => OpOk.move rfl) ?_
  refine AF.take 8 rfl (by kernel_rfl) (by kernel_rfl) (by kernel_rfl) ⟨hin, hb0, trivial⟩ (fun _ ⟨hin, hb0, _⟩ => OpOk.nilCheck rfl) ?_
  refine AF.take 9 rfl (by kernel_rfl) (by kernel_rfl) (by kernel_rfl) ⟨hin, hb0, trivial⟩ (fun _ ⟨hin, hb0, _⟩ => OpOk.fieldAddr (Try.fld62_1) rfl) ?_
  refine AF.take 10 rfl (by kernel_rfl) (by kernel_rfl) (by kernel_rfl) ⟨hin, hb0, trivial⟩ (fun _ ⟨hin, hb0, _⟩ => OpOk.ldBx hb0 Try.one3 rfl rfl) ?_
  refine AF.take 11 rfl (by kernel_rfl) (by kernel_rfl) (by kernel_rfl) ⟨hin, hb0, trivial⟩ (fun _ ⟨hin, hb0, _⟩ => OpOk.move rfl) ?_
  refine AF.call 6 rfl (by kernel_rfl) (OpCall.fn Try.ent61 rfl rfl) (pLoad_ct hin scr b (by first | omega | (simp only [List.length_cons, List.length_nil]; omega)) (IntWalk.i64_in scr (by omega))) (by rintro _ _ ⟨_, _, _, k, _⟩; exact ⟨(hin.kp k), (hb0.kp k), trivial⟩) ?_
  rintro v67 H67 ⟨F67, x67, i67, k67, h67⟩
  have zk67 := k67.1
  replace hx := hx.trans x67 hkp.1
  replace hkp := hkp.trans (k67.mono hkp.1)
  have l67 := hkp.1
  replace ng0 := x67.no ng0 hb0.lt
  replace hb0 := hb0.kp k67
  replace p9 := (p9.ext x67).kp k67
  have le0 := x67.1
  have hin := i67
  have h67k := rMach.any h67
  obtain ⟨v67c7, rfl, h67c7⟩ := rMach.open h67
  have h67c7q := rL.len2 h67c7
  refine AF.call 12 rfl (by kernel_rfl) (OpCall.fn Try.ent62 rfl rfl) (pStore_ct hin scr a (by first | omega | (simp only [List.length_cons, List.length_nil]; omega)) (IntWalk.i64_in scr (by omega))) (by rintro _ _ ⟨_, _, _, k, _⟩; exact ⟨((hin.down le0).kp k), (hb0.kp k), trivial⟩) ?_
  rintro v73 H73 ⟨F73, x73, i73, k73, h73⟩
  have zk73 := k73.1
  replace hx := hx.trans x73 hkp.1
  replace hkp := hkp.trans (k73.mono hkp.1)
  have l73 := hkp.1
  replace ng0 := x73.no ng0 hb0.lt
  replace hb0 := hb0.kp k73
  replace p9 := (p9.ext x73).kp k73
  replace le0 := le0.trans x73.1
  have le1 := x73.1
  have hin := i73
  have h73k := rMach.any h73
  obtain ⟨v73c7, rfl, h73c7⟩ := rMach.open h73
  have h73c7q := rL.len2 h73c7
  refine AF.one 13 (by kernel_rfl) ?_
  refine AFN.chg rfl (OpCh.litL (F := F73) (r := rMach) (l := [loadM scr b, storeM scr a]) (us := [.agg #[.int .i64 ((loadM scr b).Op), .int .i64 ((loadM scr b).D), .int .i64 ((loadM scr b).E), .int .i64 ((loadM scr b).A), .int .i64 ((loadM scr b).B), .int .i64 ((loadM scr b).C), .int .i32 ((loadM scr b).Imm), v67c7], .agg #[.int .i64 ((storeM scr a).Op), .int .i64 ((storeM scr a).D), .int .i64 ((storeM scr a).E), .int .i64 ((storeM scr a).A), .int .i64 ((storeM scr a).B), .int .i64 ((storeM scr a).C), .int .i32 ((storeM scr a).Imm), v73c7]]) (cs := [[.int .i64 ((loadM scr b).Op), .int .i64 ((loadM scr b).D), .int .i64 ((loadM scr b).E), .int .i64 ((loadM scr b).A), .int .i64 ((loadM scr b).B), .int .i64 ((loadM scr b).C), .int .i32 ((loadM scr b).Imm), v67c7], [.int .i64 ((storeM scr a).Op), .int .i64 ((storeM scr a).D), .int .i64 ((storeM scr a).E), .int .i64 ((storeM scr a).A), .int .i64 ((storeM scr a).B), .int .i64 ((storeM scr a).C), .int .i32 ((storeM scr a).Imm), v73c7]]) Try.underlying34 Try.info39 (by decide) rfl rfl rfl ⟨rfl, rfl, (ra_ok (h67.up le1)), ⟨rfl, rfl, (ra_ok h73), trivial⟩⟩) ?_
  rintro _ H74 ⟨g74, rfl, e74, s74, k74, x74⟩
  have l74 := hkp.1
  have app9_74 := ap_new p9.lt (x74 hin).ge
  replace x74 := (x74 hin).base l74
  have zk74 := k74.1
  replace hin := hin.kp k74
  replace hkp := hkp.trans (k74.mono hkp.1)
  replace hb0 := hb0.kp k74
  replace p9 := p9.kp k74
  have ap74_p9 := ap_sym app9_74
  refine ⟨⟨(hin.down le0), hb0, trivial⟩, ?_⟩
  refine AF.one 14 (by kernel_rfl) ?_
  obtain ⟨Fz7, hxz7, lez7, hinz7, noz7, hrz7⟩ := x74.freezeX hin hx (Nat.le_refl _) (by first | (simp only [List.length_append, List.length_take, List.length_drop, List.length_nil, List.length_cons, List.length_set, List.length_replicate]; omega) | (simp; done) | (simp; omega) | omega)
  replace hin := hinz7
  replace hx := hxz7
  replace le0 := le0.trans lez7
  replace le1 := le1.trans lez7
  have le2 := lez7
  replace ng0 := (noz7 _ (x74.neBx hb0 (by decide))).trans ng0
  replace p9 := p9.frozen lez7 noz7 app9_74
  refine AFN.callL rfl (noleft (by kernel_rfl)) rfl (OpCall.fn Try.ent60 rfl rfl) (pLay_ct hin p9 scr sp lk (by first | omega | (simp only [List.length_cons, List.length_nil]; omega)) hb0 ng0 hrz7 (by first | omega | (simp only [List.length_cons, List.length_nil]; omega))) ?_
  rintro _ H75 ⟨F75, u75_0, rfl, x75, i75, k75, b75, x75_0, lk75_0⟩
  have zk75 := k75.1
  have l75 := hkp.1
  replace hx := hx.trans x75 hkp.1
  have wf75_0 := Lnk.ge (W := (fun j9 => j9 = g0 ∨ a9.ownBlock = some j9)) lk75_0 (fun k0 hk0 => (.inr (.inr hk0))) hkp.1
  replace hkp := hkp.kw k75 (by intro k0 hl; rintro (rfl | hk0); exact (.inl rfl); exact (.inr hk0))
  replace ng0 := x75.no ng0 hb0.lt
  replace le0 := le0.trans x75.1
  replace le1 := le1.trans x75.1
  replace le2 := le2.trans x75.1
  have le3 := x75.1
  replace hin := i75
  clear i75
  replace hb0 := b75
  clear b75
  refine AF.done (by kernel_rfl) ?_
  refine PF.blockNormal ?_
  have hm0 : (l ++ (bringX scr sp a b).getD []) = (l ++ ([loadM scr b, storeM scr a])) := by
    first | rfl | (unfold bringX; (repeat rw [if_neg (by omega)]); (try rw [if_pos (by omega)]); (try simp); done) | (have hX : bringX scr sp a b = none := (by unfold bringX; (repeat rw [if_neg (by omega)]); (try rw [if_pos (by omega)])); rw [hX]; simp; done) | (have hX : (bringX scr sp a b).isNone = false := (by unfold bringX; (repeat rw [if_neg (by omega)]); (try rw [if_pos (by omega)]); rfl); rw [hX]; simp; done)
  have hm3 : (lk || (bringX scr sp a b).isNone) = lk := by
    first | rfl | (unfold bringX; (repeat rw [if_neg (by omega)]); (try rw [if_pos (by omega)]); (try simp); done) | (have hX : bringX scr sp a b = none := (by unfold bringX; (repeat rw [if_neg (by omega)]); (try rw [if_pos (by omega)])); rw [hX]; simp; done) | (have hX : (bringX scr sp a b).isNone = false := (by unfold bringX; (repeat rw [if_neg (by omega)]); (try rw [if_pos (by omega)]); rfl); rw [hX]; simp; done)
  exact PF.end0 rfl ⟨_, u75_0, rfl, hx, hin, hkp, by rw [hm3]; exact hb0, by rw [hm0]; exact (x75_0.base (Nat.zero_le _)), lnk_of (fun k9 h9 => (wf75_0 _ h9)) (x75_0.neBx hb0 (by decide))⟩
  refine CF.seq (CF.region (LF.step (OpOk.move rfl) ?_))
  refine LF.step (OpOk.nilCheck rfl) ?_
  refine LF.step (OpOk.fieldAddr (Try.fld62_2) rfl) ?_
  refine LF.step (OpOk.ldBx hb0 Try.one3 rfl rfl) ?_
  refine LF.step (OpOk.lss rfl rfl) ?_
  refine LF.step (OpOk.assign rfl) (LF.nil (PF.next ?_))
  refine CF.if rfl (fun hc5 => ?_) (fun hc5 => ?_)
  refine CF.region (LF.step (OpOk.move rfl) ?_)
  refine LF.step (OpOk.nilCheck rfl) ?_
  refine LF.step (OpOk.fieldAddr (Try.fld62_3) rfl) ?_
  refine LF.chg0 (OpCh.storeB hb0 Try.sz4 rfl rfl rfl (by first | decide | (simp; done))) ?_
  rintro _ Hw9 ⟨tw9, bw9⟩
  have ztw9 := tw9.1
  replace hin := hin.tw tw9 ng0
  replace hkp := hkp.tw tw9 (.inr (.inl rfl))
  replace p9 := p9.tw tw9 (p9.neBx hb0 (by decide))
  replace hb0 : Bx _ _ _ [a9, .int .i64 scr, .int .i64 sp, .bool true] := bw9
  clear bw9 tw9
  refine LF.nil (PF.blockNormal ?_)
  have hm0 : (l ++ (bringX scr sp a b).getD []) = l := by
    first | rfl | (unfold bringX; (repeat rw [if_neg (by omega)]); (try rw [if_pos (by omega)]); (try simp); done) | (have hX : bringX scr sp a b = none := (by unfold bringX; (repeat rw [if_neg (by omega)]); (try rw [if_pos (by omega)])); rw [hX]; simp; done) | (have hX : (bringX scr sp a b).isNone = false := (by unfold bringX; (repeat rw [if_neg (by omega)]); (try rw [if_pos (by omega)]); rfl); rw [hX]; simp; done)
  have hm3 : (lk || (bringX scr sp a b).isNone) = true := by
    first | rfl | (unfold bringX; (repeat rw [if_neg (by omega)]); (try rw [if_pos (by omega)]); (try simp); done) | (have hX : bringX scr sp a b = none := (by unfold bringX; (repeat rw [if_neg (by omega)]); (try rw [if_pos (by omega)])); rw [hX]; simp; done) | (have hX : (bringX scr sp a b).isNone = false := (by unfold bringX; (repeat rw [if_neg (by omega)]); (try rw [if_pos (by omega)]); rfl); rw [hX]; simp; done)
  exact PF.end0 rfl ⟨_, a9, rfl, hx, hin, hkp, by rw [hm3]; exact hb0, by rw [hm0]; exact (p9.base (Nat.zero_le _)), lnk_of (fun k9 h9 => (.inr (.inr h9))) (p9.neBx hb0 (by decide))⟩
  refine CF.seq (CF.region (LF.step (OpOk.move rfl) ?_))
  refine LF.step (OpOk.nilCheck rfl) ?_
  refine LF.step (OpOk.fieldAddr (Try.fld62_2) rfl) ?_
  refine LF.step (OpOk.ldBx hb0 Try.one3 rfl rfl) ?_
  refine LF.step (OpOk.add rfl rfl (by omega)) ?_
  refine LF.step (OpOk.add rfl rfl (by omega)) ?_
  refine LF.step (OpOk.assign rfl) (LF.nil (PF.next (CF.region (LF.step (OpOk.move rfl) (LF.step (OpOk.move rfl) ?_)))))
  refine LF.call (OpCall.fn Try.ent62 rfl rfl) (pStore_ct hin 0 ((16 + sp) + 1) (by first | omega | (simp only [List.length_cons, List.length_nil]; omega)) (by decide : IntKind.i64.wrap 0 = 0)) ?_
  rintro v15 H15 ⟨F15, x15, i15, k15, h15⟩
  have zk15 := k15.1
  replace hx := hx.trans x15 hkp.1
  replace hkp := hkp.trans (k15.mono hkp.1)
  have l15 := hkp.1
  replace ng0 := x15.no ng0 hb0.lt
  replace hb0 := hb0.kp k15
  replace p9 := (p9.ext x15).kp k15
  have le0 := x15.1
  have hin := i15
  have h15k := rMach.any h15
  obtain ⟨v15c7, rfl, h15c7⟩ := rMach.open h15
  have h15c7q := rL.len2 h15c7
  refine LF.step (OpOk.move rfl) ?_
  refine LF.call (OpCall.fn Try.ent61 rfl rfl) (pLoad_ct hin 0 b (by first | omega | (simp only [List.length_cons, List.length_nil]; omega)) (by decide : IntKind.i64.wrap 0 = 0)) ?_
  rintro v17 H17 ⟨F17, x17, i17, k17, h17⟩
  have zk17 := k17.1
  replace hx := hx.trans x17 hkp.1
  replace hkp := hkp.trans (k17.mono hkp.1)
  have l17 := hkp.1
  replace ng0 := x17.no ng0 hb0.lt
  replace hb0 := hb0.kp k17
  replace p9 := (p9.ext x17).kp k17
  replace le0 := le0.trans x17.1
  have le1 := x17.1
  have hin := i17
  have h17k := rMach.any h17
  obtain ⟨v17c7, rfl, h17c7⟩ := rMach.open h17
  have h17c7q := rL.len2 h17c7
  refine LF.step (OpOk.move rfl) ?_
  refine LF.call (OpCall.fn Try.ent62 rfl rfl) (pStore_ct hin 0 a (by first | omega | (simp only [List.length_cons, List.length_nil]; omega)) (by decide : IntKind.i64.wrap 0 = 0)) ?_
  rintro v19 H19 ⟨F19, x19, i19, k19, h19⟩
  have zk19 := k19.1
  replace hx := hx.trans x19 hkp.1
  replace hkp := hkp.trans (k19.mono hkp.1)
  have l19 := hkp.1
  replace ng0 := x19.no ng0 hb0.lt
  replace hb0 := hb0.kp k19
  replace p9 := (p9.ext x19).kp k19
  replace le0 := le0.trans x19.1
  replace le1 := le1.trans x19.1
  have le2 := x19.1
  have hin := i19
  have h19k := rMach.any h19
  obtain ⟨v19c7, rfl, h19c7⟩ := rMach.open h19
  have h19c7q := rL.len2 h19c7
  refine LF.step (OpOk.move rfl) ?_
  refine LF.call (OpCall.fn Try.ent61 rfl rfl) (pLoad_ct hin 0 ((16 + sp) + 1) (by first | omega | (simp only [List.length_cons, List.length_nil]; omega)) (by decide : IntKind.i64.wrap 0 = 0)) ?_
  rintro v21 H21 ⟨F21, x21, i21, k21, h21⟩
  have zk21 := k21.1
  replace hx := hx.trans x21 hkp.1
  replace hkp := hkp.trans (k21.mono hkp.1)
  have l21 := hkp.1
  replace ng0 := x21.no ng0 hb0.lt
  replace hb0 := hb0.kp k21
  replace p9 := (p9.ext x21).kp k21
  replace le0 := le0.trans x21.1
  replace le1 := le1.trans x21.1
  replace le2 := le2.trans x21.1
  have le3 := x21.1
  have hin := i21
  have h21k := rMach.any h21
  obtain ⟨v21c7, rfl, h21c7⟩ := rMach.open h21
  have h21c7q := rL.len2 h21c7
  refine LF.chg (OpCh.litL (F := F21) (r := rMach) (l := [storeM 0 ((16 + sp) + 1), loadM 0 b, storeM 0 a, loadM 0 ((16 + sp) + 1)]) (us := [.agg #[.int .i64 ((storeM 0 ((16 + sp) + 1)).Op), .int .i64 ((storeM 0 ((16 + sp) + 1)).D), .int .i64 ((storeM 0 ((16 + sp) + 1)).E), .int .i64 ((storeM 0 ((16 + sp) + 1)).A), .int .i64 ((storeM 0 ((16 + sp) + 1)).B), .int .i64 ((storeM 0 ((16 + sp) + 1)).C), .int .i32 ((storeM 0 ((16 + sp) + 1)).Imm), v15c7], .agg #[.int .i64 ((loadM 0 b).Op), .int .i64 ((loadM 0 b).D), .int .i64 ((loadM 0 b).E), .int .i64 ((loadM 0 b).A), .int .i64 ((loadM 0 b).B), .int .i64 ((loadM 0 b).C), .int .i32 ((loadM 0 b).Imm), v17c7], .agg #[.int .i64 ((storeM 0 a).Op), .int .i64 ((storeM 0 a).D), .int .i64 ((storeM 0 a).E), .int .i64 ((storeM 0 a).A), .int .i64 ((storeM 0 a).B), .int .i64 ((storeM 0 a).C), .int .i32 ((storeM 0 a).Imm), v19c7], .agg #[.int .i64 ((loadM 0 ((16 + sp) + 1)).Op), .int .i64 ((loadM 0 ((16 + sp) + 1)).D), .int .i64 ((loadM 0 ((16 + sp) + 1)).E), .int .i64 ((loadM 0 ((16 + sp) + 1)).A), .int .i64 ((loadM 0 ((16 + sp) + 1)).B), .int .i64 ((loadM 0 ((16 + sp) + 1)).C), .int .i32 ((loadM 0 ((16 + sp) + 1)).Imm), v21c7]]) (cs := [[.int .i64 ((storeM 0 ((16 + sp) + 1)).Op), .int .i64 ((storeM 0 ((16 + sp) + 1)).D), .int .i64 ((storeM 0 ((16 + sp) + 1)).E), .int .i64 ((storeM 0 ((16 + sp) + 1)).A), .int .i64 ((storeM 0 ((16 + sp) + 1)).B), .int .i64 ((storeM 0 ((16 + sp) + 1)).C), .int .i32 ((storeM 0 ((16 + sp) + 1)).Imm), v15c7], [.int .i64 ((loadM 0 b).Op), .int .i64 ((loadM 0 b).D), .int .i64 ((loadM 0 b).E), .int .i64 ((loadM 0 b).A), .int .i64 ((loadM 0 b).B), .int .i64 ((loadM 0 b).C), .int .i32 ((loadM 0 b).Imm), v17c7], [.int .i64 ((storeM 0 a).Op), .int .i64 ((storeM 0 a).D), .int .i64 ((storeM 0 a).E), .int .i64 ((storeM 0 a).A), .int .i64 ((storeM 0 a).B), .int .i64 ((storeM 0 a).C), .int .i32 ((storeM 0 a).Imm), v19c7], [.int .i64 ((loadM 0 ((16 + sp) + 1)).Op), .int .i64 ((loadM 0 ((16 + sp) + 1)).D), .int .i64 ((loadM 0 ((16 + sp) + 1)).E), .int .i64 ((loadM 0 ((16 + sp) + 1)).A), .int .i64 ((loadM 0 ((16 + sp) + 1)).B), .int .i64 ((loadM 0 ((16 + sp) + 1)).C), .int .i32 ((loadM 0 ((16 + sp) + 1)).Imm), v21c7]]) Try.underlying34 Try.info39 (by decide) rfl rfl rfl ⟨rfl, rfl, (ra_ok (h15.up le1)), ⟨rfl, rfl, (ra_ok (h17.up le2)), ⟨rfl, rfl, (ra_ok (h19.up le3)), ⟨rfl, rfl, (ra_ok h21), trivial⟩⟩⟩⟩) ?_
  rintro _ H22 ⟨g22, rfl, e22, s22, k22, x22⟩
  have l22 := hkp.1
  have app9_22 := ap_new p9.lt (x22 hin).ge
  replace x22 := (x22 hin).base l22
  have zk22 := k22.1
  replace hin := hin.kp k22
  replace hkp := hkp.trans (k22.mono hkp.1)
  replace hb0 := hb0.kp k22
  replace p9 := p9.kp k22
  have ap22_p9 := ap_sym app9_22
  obtain ⟨Fz10, hxz10, lez10, hinz10, noz10, hrz10⟩ := x22.freezeX hin hx (Nat.le_refl _) (by first | (simp only [List.length_append, List.length_take, List.length_drop, List.length_nil, List.length_cons, List.length_set, List.length_replicate]; omega) | (simp; done) | (simp; omega) | omega)
  replace hin := hinz10
  replace hx := hxz10
  replace le0 := le0.trans lez10
  replace le1 := le1.trans lez10
  replace le2 := le2.trans lez10
  replace le3 := le3.trans lez10
  have le4 := lez10
  replace ng0 := (noz10 _ (x22.neBx hb0 (by decide))).trans ng0
  replace p9 := p9.frozen lez10 noz10 app9_22
  refine LF.call (OpCall.fn Try.ent60 rfl rfl) (pLay_ct hin p9 scr sp lk (by first | omega | (simp only [List.length_cons, List.length_nil]; omega)) hb0 ng0 hrz10 (by first | omega | (simp only [List.length_cons, List.length_nil]; omega))) ?_
  rintro _ H23 ⟨F23, u23_0, rfl, x23, i23, k23, b23, x23_0, lk23_0⟩
  have zk23 := k23.1
  have l23 := hkp.1
  replace hx := hx.trans x23 hkp.1
  have wf23_0 := Lnk.ge (W := (fun j9 => j9 = g0 ∨ a9.ownBlock = some j9)) lk23_0 (fun k0 hk0 => (.inr (.inr hk0))) hkp.1
  replace hkp := hkp.kw k23 (by intro k0 hl; rintro (rfl | hk0); exact (.inl rfl); exact (.inr hk0))
  replace ng0 := x23.no ng0 hb0.lt
  replace le0 := le0.trans x23.1
  replace le1 := le1.trans x23.1
  replace le2 := le2.trans x23.1
  replace le3 := le3.trans x23.1
  replace le4 := le4.trans x23.1
  have le5 := x23.1
  replace hin := i23
  clear i23
  replace hb0 := b23
  clear b23
  refine LF.nil (PF.blockNormal ?_)
  have hm0 : (l ++ (bringX scr sp a b).getD []) = (l ++ ([storeM 0 ((16 + sp) + 1), loadM 0 b, storeM 0 a, loadM 0 ((16 + sp) + 1)])) := by
    first | rfl | (unfold bringX; (repeat rw [if_neg (by omega)]); (try rw [if_pos (by omega)]); (try simp); done) | (have hX : bringX scr sp a b = none := (by unfold bringX; (repeat rw [if_neg (by omega)]); (try rw [if_pos (by omega)])); rw [hX]; simp; done) | (have hX : (bringX scr sp a b).isNone = false := (by unfold bringX; (repeat rw [if_neg (by omega)]); (try rw [if_pos (by omega)]); rfl); rw [hX]; simp; done)
  have hm3 : (lk || (bringX scr sp a b).isNone) = lk := by
    first | rfl | (unfold bringX; (repeat rw [if_neg (by omega)]); (try rw [if_pos (by omega)]); (try simp); done) | (have hX : bringX scr sp a b = none := (by unfold bringX; (repeat rw [if_neg (by omega)]); (try rw [if_pos (by omega)])); rw [hX]; simp; done) | (have hX : (bringX scr sp a b).isNone = false := (by unfold bringX; (repeat rw [if_neg (by omega)]); (try rw [if_pos (by omega)]); rfl); rw [hX]; simp; done)
  exact PF.end0 rfl ⟨_, u23_0, rfl, hx, hin, hkp, by rw [hm3]; exact hb0, by rw [hm0]; exact (x23_0.base (Nat.zero_le _)), lnk_of (fun k9 h9 => (wf23_0 _ h9)) (x23_0.neBx hb0 (by decide))⟩

end Go.Proofs.Ytcceglmmpbdhiaa
