/- Walks of the laws of chapter 14 on graphs: that the answers are told. Conditions: each contract names its own. -/
import Derived.Test.YtkhphpobccnodaaFl
namespace Go.Proofs.Ytkhphpobccnodaa
open Go.JE

theorem fldRun {P : Program} {T : TypeId} {i off : Nat} {fs : Array Field} {f : Field} (h1 : P.underlying T = some (.struct fs)) (h2 : fs[i]? = some f) (h3 : f.offset = off) {s : Nat} (h4 : Sz P f.type s) (h5 : s ≠ 0) : Fld P T i off := ⟨fs, f, h1, h2, h3, s, h4, h5⟩
theorem Try.fld25_0 : Fld Try.prog 25 0 0 := ⟨_, _, Try.underlying25, rfl, rfl, 1, by unfold Sz; kernel_rfl, by decide⟩
theorem Try.fld25_1 : Fld Try.prog 25 1 1 := ⟨_, _, Try.underlying25, rfl, rfl, 1, by unfold Sz; kernel_rfl, by decide⟩
theorem Try.fld25_2 : Fld Try.prog 25 2 2 := ⟨_, _, Try.underlying25, rfl, rfl, 1, by unfold Sz; kernel_rfl, by decide⟩
theorem Try.fld25_3 : Fld Try.prog 25 3 3 := ⟨_, _, Try.underlying25, rfl, rfl, 1, by unfold Sz; kernel_rfl, by decide⟩


theorem coloursOut_ct {H : Heap} {vq : Value} (n k : Int) (hn : n < 0 ∨ 8192 < n) :
    Ct Try.prog 11 #[.int .i64 n, vq, .int .i64 k] H (fun v H' => v = .slice none 0 0 ∧ Kp H.size H H') := by
  refine Ct.enterM (args := [.int .i64 n, vq, .int .i64 k]) Try.func11 rfl rfl rfl (fun w0 hw0 => ?_)
  refine CF.seq ?_
  refine CF.region ?_
  refine LF.chg (OpCh.box rfl) ?_
  rintro _ _ ⟨rfl, rfl⟩
  refine LF.chg (OpCh.box rfl) ?_
  rintro _ _ ⟨rfl, rfl⟩
  refine LF.step (OpOk.assign rfl) ?_
  refine LF.nil ?_
  refine PF.next ?_
  refine CF.seq ?_
  refine CF.seq ?_
  refine CF.region ?_
  have hbn : Rw ((H.push (.cells (Value.int .i64 n).cells 3)).push (.cells (Value.int .i64 k).cells 3)) H.size 3 1 (fun _ => .int .i64 n) := Rw.new1.push _
  have hkb : Kp H.size H ((H.push (.cells (Value.int .i64 n).cells 3)).push (.cells (Value.int .i64 k).cells 3)) := ((Kp.refl _ _).push (Nat.le_refl _) _).push (Nat.le_refl _) _
  refine LF.step (OpOk.load Try.one3 rfl rfl (hbn.cell (i := 0) (by omega))) ?_
  refine LF.step (OpOk.lss rfl rfl) ?_
  refine LF.step (OpOk.move rfl) ?_
  refine LF.gstep rfl rfl (.f _) (fun hg => OpOk.load Try.one3 rfl rfl (hbn.cell (i := 0) (by omega))) ?_
  refine LF.gstep rfl rfl (.f _) (fun hg => OpOk.gtr (evg rfl hg) rfl) ?_
  refine LF.step (OpOk.pickOr rfl rfl) ?_
  refine LF.nil ?_
  refine PF.next ?_
  refine CF.if rfl (fun hc1 => ?_) (fun hc1 => ?_)
  · refine CF.seq ?_
    refine CF.region ?_
    refine LF.step (OpOk.assign rfl) ?_
    refine LF.nil ?_
    refine PF.next ?_
    refine CF.ret ?_
    refine PF.thenRet ?_
    exact PF.ret1N rfl rfl ⟨rfl, hkb⟩
  · omega


theorem mergedOut_ct {H : Heap} {vq vm : Value} (n k : Int) (hn : n < 0 ∨ 8192 < n) :
    Ct Try.prog 15 #[.int .i64 n, vq, vm, .int .i64 k] H (fun v H' => v = .slice none 0 0 ∧ Kp H.size H H') := by
  refine Ct.enter (args := [.int .i64 n, vq, vm, .int .i64 k]) Try.func15 rfl rfl rfl (fun w0 hw0 => ?_)
  refine CF.seq ?_
  refine CF.region ?_
  refine LF.chg (OpCh.box rfl) ?_
  rintro _ _ ⟨rfl, rfl⟩
  refine LF.step (OpOk.assign rfl) ?_
  refine LF.nil ?_
  refine PF.next ?_
  refine CF.seq ?_
  refine CF.seq ?_
  refine CF.region ?_
  have hkb : Kp H.size H (H.push (.cells (Value.int .i64 k).cells 3)) := (Kp.refl _ _).push (Nat.le_refl _) _
  refine LF.step (OpOk.move rfl) ?_
  refine LF.step (OpOk.lss rfl rfl) ?_
  refine LF.step (OpOk.move rfl) ?_
  refine LF.gstep rfl rfl (.f _) (fun hg => OpOk.move rfl) ?_
  refine LF.gstep rfl rfl (.f _) (fun hg => OpOk.gtr (evg rfl hg) rfl) ?_
  refine LF.step (OpOk.pickOr rfl rfl) ?_
  refine LF.nil ?_
  refine PF.next ?_
  refine CF.if rfl (fun hc1 => ?_) (fun hc1 => ?_)
  · refine CF.seq ?_
    refine CF.region ?_
    refine LF.step (OpOk.assign rfl) ?_
    refine LF.nil ?_
    refine PF.next ?_
    refine CF.ret ?_
    refine PF.thenRet ?_
    exact PF.ret1 rfl rfl ⟨rfl, hkb⟩
  · omega


theorem awake_ct {H : Heap} : Ct Try.prog 7 #[] H (fun v H' => v = .bool true ∧ Kp H.size H H') := by
  refine Ct.enter (args := []) Try.func7 rfl rfl rfl (fun w0 hw0 => ?_)
  refine CF.seq ?_
  refine CF.region ?_
  refine LF.step (OpOk.assign rfl) ?_
  refine LF.nil ?_
  refine PF.next ?_
  refine CF.seq ?_
  refine CF.region ?_
  refine LF.step (OpOk.build rfl (Try.build44 _ _)) ?_
  refine LF.step (OpOk.build rfl (Try.build44 _ _)) ?_
  refine LF.step (OpOk.build rfl (Try.build44 _ _)) ?_
  refine LF.chg (OpCh.buildSlice rfl (Try.lit23_3 _ _ _ _ _ _)) ?_
  rintro _ H1 ⟨rfl, h9⟩
  have hp1 : Ps H1 (H.size + 1) (.slice (some ⟨H.size, 0, none⟩) 3 3) [(0, 1), (1, 2), (2, 0)] := by rw [h9]; exact lit_ps [(0, 1), (1, 2), (2, 0)] (by decide)
  have k1 : Kp H.size H H1 := by rw [h9]; exact (Kp.refl _ _).push (Nat.le_refl _) _
  clear h9
  refine LF.step (OpOk.assign rfl) ?_
  refine LF.nil ?_
  refine PF.next ?_
  refine CF.seq ?_
  refine CF.region ?_
  refine LF.step (OpOk.move rfl) ?_
  refine LF.call (OpCall.fn Try.ent11 rfl rfl) (colours_ct 3 (by omega) 3 (by omega) hp1) ?_
  rintro v2 H2 ⟨hv2, k2⟩
  rw [aw1] at hv2
  refine LF.chg (OpCh.buildSlice rfl (Try.lit22_3 _ _ _)) ?_
  rintro _ H3 ⟨rfl, h9⟩
  have hn3 : Ns H3 (H2.size + 1) (.slice (some ⟨H2.size, 0, none⟩) 3 3) [2, 1, 0] := by rw [h9]; exact lit_ns [2, 1, 0] (by decide)
  have k3 : Kp H2.size H2 H3 := by rw [h9]; exact (Kp.refl _ _).push (Nat.le_refl _) _
  clear h9
  refine LF.call (OpCall.fn Try.ent10 rfl rfl) (nums_ct (Sl.kpu hv2 k3) (Sl.up hn3)) ?_
  rintro _ H9 ⟨rfl, h9⟩
  obtain rfl : H3 = H9 := h9.symm
  refine LF.step (OpOk.assign rfl) ?_
  refine LF.nil ?_
  refine PF.next ?_
  refine CF.seq ?_
  refine CF.region ?_
  refine LF.step (OpOk.move rfl) ?_
  refine LF.call (OpCall.fn Try.ent11 rfl rfl) (colours_ct 3 (by omega) 2 (by omega) (Sl.kp (Sl.kp (Sl.up hp1) k2) (k3.mono k2.1))) ?_
  rintro v4 H4 ⟨hv4, k4⟩
  rw [aw2] at hv4
  refine LF.chg (OpCh.buildSlice rfl (Try.lit22_3 _ _ _)) ?_
  rintro _ H5 ⟨rfl, h9⟩
  have hn5 : Ns H5 (H4.size + 1) (.slice (some ⟨H4.size, 0, none⟩) 3 3) [-1, 1, 0] := by rw [h9]; exact lit_ns [-1, 1, 0] (by decide)
  have k5 : Kp H4.size H4 H5 := by rw [h9]; exact (Kp.refl _ _).push (Nat.le_refl _) _
  clear h9
  refine LF.call (OpCall.fn Try.ent10 rfl rfl) (nums_ct (Sl.kpu hv4 k5) (Sl.up hn5)) ?_
  rintro _ H9 ⟨rfl, h9⟩
  obtain rfl : H5 = H9 := h9.symm
  refine LF.step (OpOk.assign rfl) ?_
  refine LF.nil ?_
  refine PF.next ?_
  refine CF.seq ?_
  refine CF.region ?_
  refine LF.step (OpOk.build rfl (Try.build44 _ _)) ?_
  refine LF.chg (OpCh.buildSlice rfl (Try.lit23_1 _ _)) ?_
  rintro _ H6 ⟨rfl, h9⟩
  have hp6 : Ps H6 (H5.size + 1) (.slice (some ⟨H5.size, 0, none⟩) 1 1) [(0, 1)] := by rw [h9]; exact lit_ps [(0, 1)] (by decide)
  have k6 : Kp H5.size H5 H6 := by rw [h9]; exact (Kp.refl _ _).push (Nat.le_refl _) _
  clear h9
  refine LF.step (OpOk.build rfl (Try.build44 _ _)) ?_
  refine LF.chg (OpCh.buildSlice rfl (Try.lit23_1 _ _)) ?_
  rintro _ H7 ⟨rfl, h9⟩
  have hp7 : Ps H7 (H6.size + 1) (.slice (some ⟨H6.size, 0, none⟩) 1 1) [(0, 2)] := by rw [h9]; exact lit_ps [(0, 2)] (by decide)
  have k7 : Kp H6.size H6 H7 := by rw [h9]; exact (Kp.refl _ _).push (Nat.le_refl _) _
  clear h9
  refine LF.call (OpCall.fn Try.ent15 rfl rfl) (merged_ct 3 (by omega) 2 (Sl.kpu hp6 k7) hp7) ?_
  rintro v8 H8 ⟨hv8, k8⟩
  rw [aw3] at hv8
  refine LF.chg (OpCh.buildSlice rfl (Try.lit22_3 _ _ _)) ?_
  rintro _ H10 ⟨rfl, h9⟩
  have hn10 : Ns H10 (H8.size + 1) (.slice (some ⟨H8.size, 0, none⟩) 3 3) [0, 1, 0] := by rw [h9]; exact lit_ns [0, 1, 0] (by decide)
  have k10 : Kp H8.size H8 H10 := by rw [h9]; exact (Kp.refl _ _).push (Nat.le_refl _) _
  clear h9
  refine LF.call (OpCall.fn Try.ent10 rfl rfl) (nums_ct (Sl.kpu hv8 k10) (Sl.up hn10)) ?_
  rintro _ H9 ⟨rfl, h9⟩
  obtain rfl : H10 = H9 := h9.symm
  refine LF.step (OpOk.assign rfl) ?_
  refine LF.nil ?_
  refine PF.next ?_
  refine CF.seq ?_
  refine CF.region ?_
  refine LF.step (OpOk.move rfl) ?_
  refine LF.step (OpOk.move rfl) ?_
  refine LF.gstep rfl rfl (.t _) (fun hg => OpOk.move rfl) ?_
  refine LF.step (OpOk.pickAnd rfl rfl) ?_
  refine LF.step (OpOk.move rfl) ?_
  refine LF.gstep rfl rfl (.t _) (fun hg => OpOk.move rfl) ?_
  refine LF.step (OpOk.pickAnd rfl rfl) ?_
  refine LF.step (OpOk.assign rfl) ?_
  refine LF.nil ?_
  refine PF.next ?_
  refine CF.ret ?_
  have g1 := k1.1
  have kk2 := k1.trans (k2.mono g1)
  have kk3 := kk2.trans (k3.mono kk2.1)
  have kk4 := kk3.trans (k4.mono kk3.1)
  have kk5 := kk4.trans (k5.mono kk4.1)
  have kk6 := kk5.trans (k6.mono kk5.1)
  have kk7 := kk6.trans (k7.mono kk6.1)
  have kk8 := kk7.trans (k8.mono kk7.1)
  exact PF.ret1 rfl rfl ⟨congrArg _ (by simp), kk8.trans (k10.mono kk8.1)⟩


theorem coloursTell_ct {H : Heap} {B : Nat} {vs vq : Value} {l : List Int} {es : List (Int × Int)} (N k : Int) (hs : Ns H B vs l) (hq : Ps H B vq es) :
    Ct Try.prog 3 #[.agg #[.int .i64 N, vs, vq, .int .i64 k]] H (fun v H' => v = .bool true ∧ Kp H.size H H') := by
  refine Ct.enter (args := [.agg #[.int .i64 N, vs, vq, .int .i64 k]]) Try.func3 rfl rfl rfl (fun w0 hw0 => ?_)
  refine CF.seq ?_
  refine CF.region ?_
  refine LF.chg (OpCh.box rfl) ?_
  rintro _ _ ⟨rfl, rfl⟩
  refine LF.step (OpOk.assign rfl) ?_
  refine LF.nil ?_
  refine PF.next ?_
  refine CF.seq ?_
  refine CF.region ?_
  have kb : Kp H.size H (H.push (.cells (Value.agg #[.int .i64 N, vs, vq, .int .i64 k]).cells 25)) := (Kp.refl _ _).push (Nat.le_refl _) _
  have hbx := hn_new (H := H) (E := 25) [.int .i64 N, vs, vq, .int .i64 k]
  change ∀ j u, _ → hc (H.push (.cells (Value.agg #[.int .i64 N, vs, vq, .int .i64 k]).cells 25)) H.size (0 + j) = some u at hbx
  have hsb : (H.push (.cells (Value.agg #[.int .i64 N, vs, vq, .int .i64 k]).cells 25)).size = H.size + 1 := Array.size_push ..
  generalize H.push (.cells (Value.agg #[.int .i64 N, vs, vq, .int .i64 k]).cells 25) = Hb at kb hbx hsb ⊢
  refine LF.call (OpCall.fn Try.ent7 rfl rfl) (awake_ct) ?_
  rintro _ H1 ⟨rfl, k1⟩
  have kb1 := kb.trans (k1.mono kb.1)
  have hbx1 : ∀ j u, [Value.int .i64 N, vs, vq, .int .i64 k][j]? = some u → hc H1 H.size (0 + j) = some u := fun j u h => (hc_of (k1.2 _ (by omega))).trans (hbx j u h)
  refine LF.step (OpOk.assign rfl) ?_
  refine LF.nil ?_
  refine PF.next ?_
  refine CF.seq ?_
  refine CF.region ?_
  refine LF.step (OpOk.fieldAddr (Try.fld25_0) rfl) ?_
  refine LF.step (OpOk.load Try.one3 rfl rfl (hbx1 0 _ rfl)) ?_
  refine LF.call (OpCall.fn Try.ent8 rfl rfl) (rest_ct N 14 (by omega)) ?_
  rintro _ H9 ⟨rfl, h9⟩
  obtain rfl : H1 = H9 := h9.symm
  obtain ⟨n, hnn⟩ : ∃ n : Nat, 1 + N % ((14 : Nat) : Int) = n := ⟨(1 + N % 14).toNat, by omega⟩
  have hn1 : 1 ≤ n ∧ n ≤ 14 := by omega
  refine LF.step (OpOk.eqv (OpOk.add rfl rfl (by omega)) (congrArg _ hnn)) ?_
  refine LF.step (OpOk.assign rfl) ?_
  refine LF.nil ?_
  refine PF.next ?_
  refine CF.seq ?_
  refine CF.region ?_
  refine LF.step (OpOk.fieldAddr (Try.fld25_1) rfl) ?_
  refine LF.step (OpOk.load Try.one22 rfl rfl (hbx1 1 _ rfl)) ?_
  refine LF.step (OpOk.assign rfl) ?_
  refine LF.nil ?_
  refine PF.next ?_
  refine CF.seq ?_
  refine CF.region ?_
  refine LF.step (OpOk.fieldAddr (Try.fld25_2) rfl) ?_
  refine LF.step (OpOk.load Try.one23 rfl rfl (hbx1 2 _ rfl)) ?_
  refine LF.step (OpOk.assign rfl) ?_
  refine LF.nil ?_
  refine PF.next ?_
  refine CF.seq ?_
  refine CF.region ?_
  refine LF.step (OpOk.fieldAddr (Try.fld25_3) rfl) ?_
  refine LF.step (OpOk.load Try.one3 rfl rfl (hbx1 3 _ rfl)) ?_
  refine LF.step (OpOk.assign rfl) ?_
  refine LF.nil ?_
  refine PF.next ?_
  refine CF.seq ?_
  refine CF.region ?_
  refine LF.step (OpOk.move rfl) ?_
  refine LF.step (OpOk.move rfl) ?_
  refine LF.call (OpCall.fn Try.ent9 rfl rfl) (made_ct n (by omega) (Sl.kp (Sl.up hs) kb1)) ?_
  rintro ve He ⟨hpe, ke⟩
  have kbe := kb1.trans (ke.mono kb1.1)
  have hqe : Ps He He.size vq es := Sl.up (Sl.kp (Sl.up hq) kbe)
  refine LF.step (OpOk.assign rfl) ?_
  refine LF.nil ?_
  refine PF.next ?_
  refine CF.seq ?_
  refine CF.region ?_
  refine LF.step (OpOk.move rfl) ?_
  refine LF.call (OpCall.fn Try.ent8 rfl rfl) (rest_ct k 8 (by omega)) ?_
  rintro _ H9 ⟨rfl, h9⟩
  obtain rfl : He = H9 := h9.symm
  obtain ⟨c, hcc⟩ : ∃ c, c = k % ((8 : Nat) : Int) := ⟨_, rfl⟩
  rw [← hcc]
  have hc1 : 0 ≤ c ∧ c ≤ 7 := by omega
  refine LF.step (OpOk.assign rfl) ?_
  refine LF.nil ?_
  refine PF.next ?_
  refine CF.seq ?_
  refine CF.region ?_
  refine LF.step (OpOk.move rfl) ?_
  refine LF.step (OpOk.move rfl) ?_
  refine LF.step (OpOk.move rfl) ?_
  refine LF.call (OpCall.fn Try.ent11 rfl rfl) (colours_ct n (by omega) c (by omega) hpe) ?_
  rintro v2 H2 ⟨hv2, k2⟩
  have hg2 := k2.1
  refine LF.step (OpOk.move rfl) ?_
  refine LF.step (OpOk.move rfl) ?_
  refine LF.step (OpOk.move rfl) ?_
  refine LF.call (OpCall.fn Try.ent12 rfl rfl) (refColours_ct n (by omega) c (by omega) (Sl.kp hpe k2)) ?_
  rintro v3 H3 ⟨hv3, k3⟩
  refine LF.call (OpCall.fn Try.ent10 rfl rfl) (nums_ct (Sl.kpu hv2 k3) hv3) ?_
  rintro _ H9 ⟨rfl, h9⟩
  obtain rfl : H3 = H9 := h9.symm
  have ka := k2.trans (k3.mono hg2)
  have hga := ka.1
  refine LF.step (OpOk.assign rfl) ?_
  refine LF.nil ?_
  refine PF.next ?_
  refine CF.seq ?_
  refine CF.region ?_
  refine LF.step (OpOk.move rfl) ?_
  refine LF.step (OpOk.move rfl) ?_
  refine LF.call (OpCall.fn Try.ent13 rfl rfl) (few_ct (Sl.kp hqe ka)) ?_
  rintro vf H9 ⟨hvf, h9⟩
  obtain rfl : H3 = H9 := h9.symm
  refine LF.step (OpOk.move rfl) ?_
  refine LF.call (OpCall.fn Try.ent11 rfl rfl) (colours_ct n (by omega) c (by omega) hvf) ?_
  rintro v4 H4 ⟨hv4, k4⟩
  have kc := ka.trans (k4.mono hga)
  refine LF.step (OpOk.move rfl) ?_
  refine LF.step (OpOk.move rfl) ?_
  refine LF.call (OpCall.fn Try.ent13 rfl rfl) (few_ct (Sl.kp hqe kc)) ?_
  rintro vf2 H9 ⟨hvf2, h9⟩
  obtain rfl : H4 = H9 := h9.symm
  refine LF.step (OpOk.move rfl) ?_
  refine LF.call (OpCall.fn Try.ent12 rfl rfl) (refColours_ct n (by omega) c (by omega) hvf2) ?_
  rintro v5 H5 ⟨hv5, k5⟩
  refine LF.call (OpCall.fn Try.ent10 rfl rfl) (nums_ct (Sl.kpu hv4 k5) hv5) ?_
  rintro _ H9 ⟨rfl, h9⟩
  obtain rfl : H5 = H9 := h9.symm
  have kd := kc.trans (k5.mono kc.1)
  have hgd := kd.1
  refine LF.step (OpOk.assign rfl) ?_
  refine LF.nil ?_
  refine PF.next ?_
  refine CF.seq ?_
  refine CF.region ?_
  refine LF.step (OpOk.move rfl) ?_
  refine LF.step (OpOk.move rfl) ?_
  refine LF.step (OpOk.move rfl) ?_
  refine LF.step (OpOk.min rfl rfl) ?_
  refine LF.call (OpCall.fn Try.ent11 rfl rfl) (colours_ct n (by omega) _ (by split <;> omega) (Sl.kp hpe kd)) ?_
  rintro v6 H6 ⟨hv6, k6⟩
  have kf := kd.trans (k6.mono hgd)
  have hgf := kf.1
  refine LF.step (OpOk.move rfl) ?_
  refine LF.step (OpOk.move rfl) ?_
  refine LF.step (OpOk.move rfl) ?_
  refine LF.step (OpOk.min rfl rfl) ?_
  refine LF.call (OpCall.fn Try.ent12 rfl rfl) (refColours_ct n (by omega) _ (by split <;> omega) (Sl.kp hpe kf)) ?_
  rintro v7 H7 ⟨hv7, k7⟩
  refine LF.call (OpCall.fn Try.ent10 rfl rfl) (nums_ct (Sl.kpu hv6 k7) hv7) ?_
  rintro _ H9 ⟨rfl, h9⟩
  obtain rfl : H7 = H9 := h9.symm
  have kg := kf.trans (k7.mono hgf)
  have hgg := kg.1
  refine LF.step (OpOk.assign rfl) ?_
  refine LF.nil ?_
  refine PF.next ?_
  refine CF.seq ?_
  refine CF.region ?_
  refine LF.step (OpOk.move rfl) ?_
  refine LF.step (OpOk.move rfl) ?_
  refine LF.gstep rfl rfl (.t _) (fun hg => OpOk.move rfl) ?_
  refine LF.step (OpOk.pickAnd rfl rfl) ?_
  refine LF.step (OpOk.move rfl) ?_
  refine LF.gstep rfl rfl (.t _) (fun hg => OpOk.move rfl) ?_
  refine LF.step (OpOk.pickAnd rfl rfl) ?_
  refine LF.step (OpOk.move rfl) ?_
  refine LF.gstep rfl rfl (.t _) (fun hg => OpOk.move rfl) ?_
  refine LF.step (OpOk.pickAnd rfl rfl) ?_
  refine LF.step (OpOk.move rfl) ?_
  refine LF.gstep rfl rfl (.t _) (fun hg => OpOk.move rfl) ?_
  refine LF.gstep rfl rfl (.t _) (fun hg => OpOk.sub rfl (evg rfl hg) (by omega)) ?_
  refine LF.gstep rfl rfl (.t _) (fun hg => OpOk.move rfl) ?_
  refine LF.gstep rfl rfl (.t _) (fun hg => OpOk.move rfl) ?_
  refine LF.gcallR rfl rfl (.t _) (fun hg => OpCall.fn Try.ent11 rfl (evl3 (evg rfl hg) (evg rfl hg) (evg rfl hg))) (fun _ => coloursOut_ct _ c (by omega)) (fun _ _ h => h.1) ?_
  intro H8 h8
  have k8 : Kp H7.size H7 H8 := by rcases h8 with ⟨_, h8⟩ | ⟨_, rfl⟩; exact h8.2; exact Kp.refl _ _
  refine LF.gstep rfl rfl (.t _) (fun hg => OpOk.lenS (n := 0) Try.underlying22 (evg rfl hg)) ?_
  refine LF.gstep rfl rfl (.t _) (fun hg => OpOk.eql (evg rfl hg) rfl) ?_
  refine LF.step (OpOk.pickAnd rfl rfl) ?_
  refine LF.step (OpOk.move rfl) ?_
  refine LF.gstep rfl rfl (.t _) (fun hg => OpOk.move rfl) ?_
  refine LF.gcallR rfl rfl (.t _) (fun hg => OpCall.fn Try.ent11 rfl (evl3 rfl rfl (evg rfl hg))) (fun _ => coloursOut_ct 8193 c (by omega)) (fun _ _ h => h.1) ?_
  intro H10 h10
  have k10 : Kp H8.size H8 H10 := by rcases h10 with ⟨_, h10⟩ | ⟨_, rfl⟩; exact h10.2; exact Kp.refl _ _
  refine LF.gstep rfl rfl (.t _) (fun hg => OpOk.lenS (n := 0) Try.underlying22 (evg rfl hg)) ?_
  refine LF.gstep rfl rfl (.t _) (fun hg => OpOk.eql (evg rfl hg) rfl) ?_
  refine LF.step (OpOk.pickAnd rfl rfl) ?_
  refine LF.step (OpOk.assign rfl) ?_
  refine LF.nil ?_
  refine PF.next ?_
  refine CF.ret ?_
  have kh := kbe.trans (kg.mono kbe.1)
  have ki := kh.trans (k8.mono kh.1)
  exact PF.ret1 rfl rfl ⟨congrArg _ (by simp), ki.trans (k10.mono ki.1)⟩

end Go.Proofs.Ytkhphpobccnodaa
