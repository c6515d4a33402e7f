/- Walk of the law of chapter 14 that classes are told. Conditions: each contract names its own. -/
import Derived.Test.YtkhphpobccnodaaW9
namespace Go.Proofs.Ytkhphpobccnodaa
open Go.JE

theorem Try.fld40_0 : Fld Try.prog 40 0 0 := ⟨_, _, Try.underlying40, rfl, rfl, 1, by unfold Sz; kernel_rfl, by decide⟩
theorem Try.fld40_1 : Fld Try.prog 40 1 1 := ⟨_, _, Try.underlying40, rfl, rfl, 2, by unfold Sz; kernel_rfl, by decide⟩
theorem Try.fld40_2 : Fld Try.prog 40 2 3 := ⟨_, _, Try.underlying40, rfl, rfl, 1, by unfold Sz; kernel_rfl, by decide⟩
theorem Try.fld40_3 : Fld Try.prog 40 3 4 := ⟨_, _, Try.underlying40, rfl, rfl, 1, by unfold Sz; kernel_rfl, by decide⟩
theorem Try.agg38 : ∃ d, Try.prog.underlying 38 = some d ∧ (match d with | .struct _ | .array _ _ => true | _ => false) = true := ⟨_, Try.underlying38, rfl⟩
theorem Try.sz38 : Sz Try.prog 38 2 := by unfold Sz; kernel_rfl
theorem Try.zero38 : (Try.prog.info? 38).bind (·.zero) = some (.agg #[.slice none 0 0, .slice none 0 0]) := by kernel_rfl
theorem Sl.one {H : Heap} {B s n : Nat} {v : Value} {f : Nat → Value} (h : Sl H B v s n f) : v.oneCell' = true := by obtain ⟨_, a, c, rfl, _⟩ := h; rfl
theorem pairBoxT {H : Heap} {T : TypeId} {c : Array Value} (hc2 : c.size = 2) (x y : Value) : Rw (setl (H.push (.cells c T)) H.size 0 [x, y]) H.size T 2 (fun j => if j = 0 then x else y) ∧ Kp H.size H (setl (H.push (.cells c T)) H.size 0 [x, y]) ∧ (setl (H.push (.cells c T)) H.size 0 [x, y]).size = H.size + 1 := by
  refine ⟨?_, ⟨by rw [size_setl]; simp, fun k hk => by rw [setl_other (by omega)]; exact push_old hk⟩, by rw [size_setl]; simp⟩
  have h := Rw.setl [x, y] 0 (H.push (.cells c T)) _ (Rw.new (H := H) (c := c) (T := T))
  rw [hc2] at h
  refine h.congr fun i hi => ?_
  match i, hi with
  | 0, _ => simp
  | 1, _ => simp


theorem mergedTell_ct {H : Heap} {B0 B1 Bq : Nat} {s0 s1 vq : Value} {l0 l1 : List Int} {es : List (Int × Int)} (N k : Int) (hs0 : Ns H B0 s0 l0) (hs1 : Ns H B1 s1 l1) (hq : Ps H Bq vq es) :
    Ct Try.prog 5 #[.agg #[.int .i64 N, s0, s1, vq, .int .i64 k]] H (fun v H' => v = .bool true ∧ Kp H.size H H') := by
  refine Ct.enter (args := [.agg #[.int .i64 N, s0, s1, vq, .int .i64 k]]) Try.func5 rfl rfl rfl (fun w0 hw0 => ?_)
  refine CF.seq ?_
  refine CF.region ?_
  refine LF.chg (OpCh.box rfl) ?_
  rintro _ _ ⟨rfl, rfl⟩
  refine LF.step (OpOk.assign rfl) ?_
  refine LF.nil ?_
  refine PF.next ?_
  refine CF.seq ?_
  refine CF.region ?_
  have kb : Kp H.size H (H.push (.cells (Value.agg #[.int .i64 N, s0, s1, vq, .int .i64 k]).cells 40)) := (Kp.refl _ _).push (Nat.le_refl _) _
  have hbx := hn_new (H := H) (E := 40) [.int .i64 N, s0, s1, vq, .int .i64 k]
  change ∀ j u, _ → hc (H.push (.cells (Value.agg #[.int .i64 N, s0, s1, vq, .int .i64 k]).cells 40)) H.size (0 + j) = some u at hbx
  have hsb : (H.push (.cells (Value.agg #[.int .i64 N, s0, s1, vq, .int .i64 k]).cells 40)).size = H.size + 1 := Array.size_push ..
  generalize H.push (.cells (Value.agg #[.int .i64 N, s0, s1, vq, .int .i64 k]).cells 40) = Hb at kb hbx hsb ⊢
  refine LF.call (OpCall.fn Try.ent7 rfl rfl) (awake_ct) ?_
  rintro _ H1 ⟨rfl, k1⟩
  have kb1 := kb.trans (k1.mono kb.1)
  have hbx1 : ∀ j u, [Value.int .i64 N, s0, s1, vq, .int .i64 k][j]? = some u → hc H1 H.size (0 + j) = some u := fun j u h => (hc_of (k1.2 _ (by omega))).trans (hbx j u h)
  refine LF.step (OpOk.assign rfl) ?_
  refine LF.nil ?_
  refine PF.next ?_
  refine CF.seq ?_
  refine CF.region ?_
  refine LF.step (OpOk.fieldAddr (Try.fld40_0) rfl) ?_
  refine LF.step (OpOk.load Try.one3 rfl rfl (hbx1 0 _ rfl)) ?_
  refine LF.call (OpCall.fn Try.ent8 rfl rfl) (rest_ct N 10 (by omega)) ?_
  rintro _ H9 ⟨rfl, h9⟩
  obtain rfl : H1 = H9 := h9.symm
  obtain ⟨n, hnn⟩ : ∃ n : Nat, 1 + N % ((10 : Nat) : Int) = n := ⟨(1 + N % 10).toNat, by omega⟩
  have hn1 : 1 ≤ n ∧ n ≤ 10 := by omega
  refine LF.step (OpOk.eqv (OpOk.add rfl rfl (by omega)) (congrArg _ hnn)) ?_
  refine LF.step (OpOk.assign rfl) ?_
  refine LF.nil ?_
  refine PF.next ?_
  refine CF.seq ?_
  refine CF.region ?_
  refine LF.step (OpOk.fieldAddr (Try.fld40_1) rfl) ?_
  refine LF.step (OpOk.loadAgg (l := [s0, s1]) Try.agg38 Try.sz38 rfl rfl (fun j u h => by match j, h with | 0, h => (simp at h; subst h; exact hbx1 1 _ rfl) | 1, h => (simp at h; subst h; exact hbx1 2 _ rfl) | j + 2, h => simp at h)) ?_
  refine LF.chg (OpCh.alloc Try.zero38) ?_
  rintro _ _ ⟨rfl, rfl⟩
  refine LF.chg0 (OpCh.storeAgg (b := H1.size) (o := 0) (n := 2) (l := [s0, s1]) Try.sz38 rfl rfl rfl (by intro u hu; simp only [List.mem_cons, List.not_mem_nil, or_false] at hu; rcases hu with rfl | rfl; exact Sl.one hs0; exact Sl.one hs1) Rw.new (by omega)) ?_
  rintro _ _ rfl
  obtain ⟨heb, kE, hszE⟩ := pairBoxT (H := H1) (T := 38) (c := (Value.agg #[Value.slice none 0 0, .slice none 0 0]).cells) rfl s0 s1
  generalize setl (H1.push (.cells (Value.agg #[Value.slice none 0 0, .slice none 0 0]).cells 38)) H1.size 0 [s0, s1] = H3 at heb kE hszE ⊢
  have kb3 := kb1.trans (kE.mono kb1.1)
  have hbx3 : ∀ j u, [Value.int .i64 N, s0, s1, vq, .int .i64 k][j]? = some u → hc H3 H.size (0 + j) = some u := fun j u h => (hc_of (kE.2 _ (by have := k1.1; omega))).trans (hbx1 j u h)
  refine LF.nil ?_
  refine PF.next ?_
  refine CF.seq ?_
  refine CF.region ?_
  refine LF.step (OpOk.fieldAddr (Try.fld40_2) rfl) ?_
  refine LF.step (OpOk.load Try.one23 rfl rfl (hbx3 3 _ rfl)) ?_
  refine LF.step (OpOk.assign rfl) ?_
  refine LF.nil ?_
  refine PF.next ?_
  refine CF.seq ?_
  refine CF.region ?_
  refine LF.step (OpOk.fieldAddr (Try.fld40_3) rfl) ?_
  refine LF.step (OpOk.load Try.one3 rfl rfl (hbx3 4 _ rfl)) ?_
  refine LF.step (OpOk.assign rfl) ?_
  refine LF.nil ?_
  refine PF.next ?_
  refine CF.seq ?_
  refine CF.region ?_
  refine LF.step (OpOk.move rfl) ?_
  refine LF.step (OpOk.indexArr (i := 0) Try.underlying38 Try.sz22 rfl rfl rfl (by omega)) ?_
  refine LF.step (OpOk.load Try.one22 rfl rfl (show hc H3 H1.size (0 + 0 * 1) = some s0 from heb.cell (i := 0) (by omega))) ?_
  refine LF.call (OpCall.fn Try.ent9 rfl rfl) (made_ct n (by omega) (Sl.kp (Sl.up hs0) kb3)) ?_
  rintro ve He ⟨hpe, ke⟩
  have hge := ke.1
  have kbe := kb3.trans (ke.mono kb3.1)
  refine LF.step (OpOk.assign rfl) ?_
  refine LF.nil ?_
  refine PF.next ?_
  refine CF.seq ?_
  refine CF.region ?_
  refine LF.step (OpOk.move rfl) ?_
  refine LF.step (OpOk.indexArr (i := 1) Try.underlying38 Try.sz22 rfl rfl rfl (by omega)) ?_
  refine LF.step (OpOk.load Try.one22 rfl rfl (show hc He H1.size (0 + 1 * 1) = some s1 from (hc_of (ke.2 _ (by omega))).trans (heb.cell (i := 1) (by omega)))) ?_
  refine LF.call (OpCall.fn Try.ent9 rfl rfl) (made_ct n (by omega) (Sl.kp (Sl.up hs1) kbe)) ?_
  rintro vm Hm ⟨hpm0, km⟩
  have kbm := kbe.trans (km.mono kbe.1)
  have hpe := Sl.kpu hpe km
  change Ps Hm Hm.size ve _ at hpe
  change Ps Hm Hm.size vm _ at hpm0
  have hqm : Ps Hm Hm.size vq es := Sl.up (Sl.kp (Sl.up hq) kbm)
  refine LF.step (OpOk.assign rfl) ?_
  refine LF.nil ?_
  refine PF.next ?_
  refine CF.seq ?_
  refine CF.region ?_
  refine LF.step (OpOk.move rfl) ?_
  refine LF.call (OpCall.fn Try.ent8 rfl rfl) (rest_ct k 7 (by omega)) ?_
  rintro _ H9 ⟨rfl, h9⟩
  obtain rfl : Hm = H9 := h9.symm
  obtain ⟨c, hcc⟩ : ∃ c, c = k % ((7 : Nat) : Int) := ⟨_, rfl⟩
  rw [← hcc]
  have hc1 : 0 ≤ c ∧ c ≤ 6 := by omega
  refine LF.step (OpOk.assign rfl) ?_
  refine LF.nil ?_
  refine PF.next ?_
  refine CF.seq ?_
  refine CF.region ?_
  refine LF.step (OpOk.move rfl) ?_
  refine LF.step (OpOk.move rfl) ?_
  refine LF.step (OpOk.move rfl) ?_
  refine LF.step (OpOk.move rfl) ?_
  refine LF.call (OpCall.fn Try.ent15 rfl rfl) (merged_ct n (by omega) c hpe hpm0) ?_
  rintro v2 H2 ⟨hv2, k2⟩
  have hg2 := k2.1
  refine LF.step (OpOk.move rfl) ?_
  refine LF.step (OpOk.move rfl) ?_
  refine LF.step (OpOk.move rfl) ?_
  refine LF.step (OpOk.move rfl) ?_
  refine LF.call (OpCall.fn Try.ent16 rfl rfl) (refMerged_ct n (by omega) c (Sl.kp hpe k2) (Sl.kp hpm0 k2)) ?_
  rintro v3 H3 ⟨hv3, k3⟩
  refine LF.call (OpCall.fn Try.ent10 rfl rfl) (nums_ct (Sl.kpu hv2 k3) hv3) ?_
  rintro _ H9 ⟨rfl, h9⟩
  obtain rfl : H3 = H9 := h9.symm
  have ka := k2.trans (k3.mono hg2)
  have hga := ka.1
  refine LF.step (OpOk.assign rfl) ?_
  refine LF.nil ?_
  refine PF.next ?_
  refine CF.seq ?_
  refine CF.region ?_
  refine LF.step (OpOk.move rfl) ?_
  refine LF.step (OpOk.move rfl) ?_
  refine LF.call (OpCall.fn Try.ent13 rfl rfl) (few_ct (Sl.kp hqm ka)) ?_
  rintro vf H9 ⟨hvf, h9⟩
  obtain rfl : H3 = H9 := h9.symm
  refine LF.step (OpOk.move rfl) ?_
  refine LF.step (OpOk.move rfl) ?_
  refine LF.call (OpCall.fn Try.ent15 rfl rfl) (merged_ct n (by omega) c hvf (Sl.kp hpm0 ka)) ?_
  rintro v4 H4 ⟨hv4, k4⟩
  have kc := ka.trans (k4.mono hga)
  refine LF.step (OpOk.move rfl) ?_
  refine LF.step (OpOk.move rfl) ?_
  refine LF.call (OpCall.fn Try.ent13 rfl rfl) (few_ct (Sl.kp hqm kc)) ?_
  rintro vf2 H9 ⟨hvf2, h9⟩
  obtain rfl : H4 = H9 := h9.symm
  refine LF.step (OpOk.move rfl) ?_
  refine LF.step (OpOk.move rfl) ?_
  refine LF.call (OpCall.fn Try.ent16 rfl rfl) (refMerged_ct n (by omega) c hvf2 (Sl.kp hpm0 kc)) ?_
  rintro v5 H5 ⟨hv5, k5⟩
  refine LF.call (OpCall.fn Try.ent10 rfl rfl) (nums_ct (Sl.kpu hv4 k5) hv5) ?_
  rintro _ H9 ⟨rfl, h9⟩
  obtain rfl : H5 = H9 := h9.symm
  have kd := kc.trans (k5.mono kc.1)
  have hgd := kd.1
  refine LF.step (OpOk.assign rfl) ?_
  refine LF.nil ?_
  refine PF.next ?_
  refine CF.seq ?_
  refine CF.region ?_
  refine LF.step (OpOk.move rfl) ?_
  refine LF.step (OpOk.move rfl) ?_
  refine LF.step (OpOk.move rfl) ?_
  refine LF.call (OpCall.fn Try.ent13 rfl rfl) (few_ct (Sl.kp hqm kd)) ?_
  rintro vf3 H9 ⟨hvf3, h9⟩
  obtain rfl : H5 = H9 := h9.symm
  refine LF.step (OpOk.move rfl) ?_
  refine LF.call (OpCall.fn Try.ent15 rfl rfl) (merged_ct n (by omega) c (Sl.kp hpe kd) hvf3) ?_
  rintro v6 H6 ⟨hv6, k6⟩
  have kf := kd.trans (k6.mono hgd)
  have hgf := kf.1
  refine LF.step (OpOk.move rfl) ?_
  refine LF.step (OpOk.move rfl) ?_
  refine LF.step (OpOk.move rfl) ?_
  refine LF.call (OpCall.fn Try.ent13 rfl rfl) (few_ct (Sl.kp hqm kf)) ?_
  rintro vf4 H9 ⟨hvf4, h9⟩
  obtain rfl : H6 = H9 := h9.symm
  refine LF.step (OpOk.move rfl) ?_
  refine LF.call (OpCall.fn Try.ent16 rfl rfl) (refMerged_ct n (by omega) c (Sl.kp hpe kf) hvf4) ?_
  rintro v7 H7 ⟨hv7, k7⟩
  refine LF.call (OpCall.fn Try.ent10 rfl rfl) (nums_ct (Sl.kpu hv6 k7) hv7) ?_
  rintro _ H9 ⟨rfl, h9⟩
  obtain rfl : H7 = H9 := h9.symm
  have kg := kf.trans (k7.mono hgf)
  have hgg := kg.1
  refine LF.step (OpOk.assign rfl) ?_
  refine LF.nil ?_
  refine PF.next ?_
  refine CF.seq ?_
  refine CF.region ?_
  refine LF.step (OpOk.move rfl) ?_
  refine LF.step (OpOk.move rfl) ?_
  refine LF.gstep rfl rfl (.t _) (fun hg => OpOk.move rfl) ?_
  refine LF.step (OpOk.pickAnd rfl rfl) ?_
  refine LF.step (OpOk.move rfl) ?_
  refine LF.gstep rfl rfl (.t _) (fun hg => OpOk.move rfl) ?_
  refine LF.step (OpOk.pickAnd rfl rfl) ?_
  refine LF.step (OpOk.move rfl) ?_
  refine LF.gstep rfl rfl (.t _) (fun hg => OpOk.move rfl) ?_
  refine LF.step (OpOk.pickAnd rfl rfl) ?_
  refine LF.step (OpOk.move rfl) ?_
  refine LF.gstep rfl rfl (.t _) (fun hg => OpOk.move rfl) ?_
  refine LF.gstep rfl rfl (.t _) (fun hg => OpOk.sub rfl (evg rfl hg) (by omega)) ?_
  refine LF.gstep rfl rfl (.t _) (fun hg => OpOk.move rfl) ?_
  refine LF.gstep rfl rfl (.t _) (fun hg => OpOk.move rfl) ?_
  refine LF.gstep rfl rfl (.t _) (fun hg => OpOk.move rfl) ?_
  refine LF.gcallR rfl rfl (.t _) (fun hg => OpCall.fn Try.ent15 rfl (evl4 (evg rfl hg) (evg rfl hg) (evg rfl hg) (evg rfl hg))) (fun _ => mergedOut_ct _ c (by omega)) (fun _ _ h => h.1) ?_
  intro H8 h8
  have k8 : Kp H7.size H7 H8 := by rcases h8 with ⟨_, h8⟩ | ⟨_, rfl⟩; exact h8.2; exact Kp.refl _ _
  refine LF.gstep rfl rfl (.t _) (fun hg => OpOk.lenS (n := 0) Try.underlying22 (evg rfl hg)) ?_
  refine LF.gstep rfl rfl (.t _) (fun hg => OpOk.eql (evg rfl hg) rfl) ?_
  refine LF.step (OpOk.pickAnd rfl rfl) ?_
  refine LF.step (OpOk.assign rfl) ?_
  refine LF.nil ?_
  refine PF.next ?_
  refine CF.ret ?_
  have kh := kbm.trans (kg.mono kbm.1)
  exact PF.ret1 rfl rfl ⟨congrArg _ (by simp), kh.trans (k8.mono kh.1)⟩

end Go.Proofs.Ytkhphpobccnodaa
