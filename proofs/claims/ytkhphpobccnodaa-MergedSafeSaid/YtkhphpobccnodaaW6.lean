/- Walks of the functions of chapter 14 that the laws on graphs reach, sixth part. Conditions: each contract names its own. -/
import Derived.Test.YtkhphpobccnodaaFj
namespace Go.Proofs.Ytkhphpobccnodaa
open Go.JE

theorem cnt_step {H H6 : Heap} {bm m : Nat} {big : Bool} (hm : Rw H bm 3 1 (fun _ => .int .i64 (m : Nat))) (h6 : H6 = if big = true then setc H bm 0 (.int .i64 ((m : Int) + 1)) else H) :
    H6.size = H.size ∧ (∀ b, b ≠ bm → H6[b]? = H[b]?) ∧ Rw H6 bm 3 1 (fun _ => .int .i64 ((m + (if big = true then 1 else 0) : Nat) : Int)) := by
  cases big with
  | true =>
    have h7 : H6 = setc H bm 0 (.int .i64 ((m : Int) + 1)) := by simpa using h6
    subst h7
    exact ⟨size_setc, fun b hb => setc_other hb, hm.set.congr (fun i hi => by rw [if_pos (by omega)]; simp)⟩
  | false =>
    have h7 : H6 = H := by simpa using h6
    subst h7
    exact ⟨rfl, fun _ _ => rfl, hm.congr (fun i hi => by simp)⟩
/-- the neighbours, where b is merged into a: as far as one has come -/
def gV (g : Nat → Nat → Bool) (a b : Nat) (vis : List Int) (x y : Nat) : Bool := if x = a then (g a y || decide ((y : Int) ∈ vis)) else if (x : Int) ∈ vis then (if y = a then true else if y = b then false else g x y) else g x y
def jg (g : Nat → Nat → Bool) (a b x y : Nat) : Bool := if x = a then (g a y || g b y) else if g b x = true then (if y = a then true else if y = b then false else g x y) else g x y
theorem cntS_zero : ∀ n, cntS (fun _ => false) n = 0
  | 0 => rfl
  | n + 1 => by simp [cntS, cntS_zero n]


theorem find_ct {H : Heap} {Bc bc c n : Nat} {cls l : Nat → Nat} (hn : n ≤ 8192) (hcl : Cl n cls l) (hb : hc H bc 0 = some (.slice (some ⟨c, 0, none⟩) n n)) (hr : Nt H Bc (.slice (some ⟨c, 0, none⟩) n n) n cls) (a : Nat) (ha : a < n) :
    Ct Try.prog 22 #[.int .i64 a, .pointer (some ⟨bc, 0, none⟩)] H (fun v H' => v = .int .i64 (l a : Nat) ∧ H' = H) := by
  refine Ct.enter (args := [.int .i64 a, .pointer (some ⟨bc, 0, none⟩)]) Try.func22 rfl rfl rfl (fun w0 hw0 => ?_)
  refine CF.seq ?_
  refine CF.region ?_
  refine LF.step (OpOk.assign rfl) ?_
  refine LF.nil ?_
  refine PF.next ?_
  refine CF.seq ?_
  refine CF.block ?_
  refine CF.loop (ι := Nat) (fun x H1 => x < n ∧ l x = l a ∧ H = H1) (fun x => [(0, .int .i64 x), (1, .pointer (some ⟨bc, 0, none⟩))]) (fun x => x) a ⟨ha, rfl, rfl⟩ ⟨rfl, rfl, trivial⟩ ?_
  rintro x H1 ⟨hx, hlx, rfl⟩
  have hle := hcl.le x hx
  refine CF.seq ?_
  refine CF.seq ?_
  refine CF.region ?_
  refine LF.step (OpOk.load Try.one22 rfl rfl hb) ?_
  refine LF.step (OpOk.move rfl) ?_
  refine LF.step (OpOk.idx (i := x) Try.underlying22 Try.sz3 hr rfl rfl rfl (by omega)) ?_
  refine LF.step (OpOk.load Try.one3 rfl rfl (hr.at (by omega))) ?_
  refine LF.step (OpOk.move rfl) ?_
  refine LF.step (OpOk.neq rfl rfl) ?_
  refine LF.nil ?_
  refine PF.next ?_
  refine CF.if rfl (fun hc1 => ?_) (fun hc1 => ?_)
  · refine CF.skip ?_
    refine PF.next ?_
    refine CF.block ?_
    refine CF.region ?_
    refine LF.step (OpOk.load Try.one22 rfl rfl hb) ?_
    refine LF.step (OpOk.move rfl) ?_
    refine LF.step (OpOk.idx (i := x) Try.underlying22 Try.sz3 hr rfl rfl rfl (by omega)) ?_
    refine LF.step (OpOk.load Try.one3 rfl rfl (hr.at (by omega))) ?_
    refine LF.step (OpOk.assign rfl) ?_
    refine LF.nil ?_
    refine PF.blockNormal ?_
    exact PF.again (cls x) ⟨by omega, by rw [hcl.same x hx]; exact hlx, rfl⟩ ⟨rfl, rfl, trivial⟩ (by omega)
  · refine CF.exit ?_
    refine PF.thenExit ?_
    refine PF.thenExit ?_
    refine PF.blockHere ?_
    refine PF.next ?_
    refine CF.seq ?_
    refine CF.region ?_
    refine LF.step (OpOk.move rfl) ?_
    refine LF.step (OpOk.assign rfl) ?_
    refine LF.nil ?_
    refine PF.next ?_
    refine CF.ret ?_
    have hcx : cls x = x := by omega
    exact PF.ret1 rfl rfl ⟨congrArg _ (by rw [← hlx, (hcl.top x hx).1 hcx]), rfl⟩


theorem count_ct {H : Heap} {B ba bb bm n m a b x : Nat} {z : Ml} {k : Int} {r : Nat → Option Nat} {g : Nat → Nat → Bool} {cls : Nat → Nat} (hn : n ≤ 8192) (hms : MS H B z n k r g cls) (hra : Rw H ba 3 1 (fun _ => .int .i64 (a : Nat))) (hrb : Rw H bb 3 1 (fun _ => .int .i64 (b : Nat))) (hm : Rw H bm 3 1 (fun _ => .int .i64 (m : Nat))) (hm2 : m ≤ 100000)
    (ha : a < n) (hca : cls a = a) (hb : b < n) (hcb : cls b = b) (hx : x < n) (hcx : cls x = x) :
    Ct Try.prog 24 #[.int .i64 (x : Nat), .pointer (some ⟨z.bg, 0, none⟩), .pointer (some ⟨ba, 0, none⟩), .pointer (some ⟨bb, 0, none⟩), .pointer (some ⟨z.bk, 0, none⟩), .pointer (some ⟨bm, 0, none⟩)] H (fun _ H' => H' = if bigS n k g a b x = true then setc H bm 0 (.int .i64 ((m : Int) + 1)) else H) := by
  obtain ⟨rx, hrx, _, hax⟩ := hms.row x hx hcx
  obtain ⟨ra, hra2, _, haa⟩ := hms.row a ha hca
  obtain ⟨rb, hrb2, _, hab⟩ := hms.row b hb hcb
  have hgb := hms.hg.cell (i := 0) (by omega)
  have hcn := cntS_le (g x) n
  refine Ct.enter (args := [.int .i64 (x : Nat), .pointer (some ⟨z.bg, 0, none⟩), .pointer (some ⟨ba, 0, none⟩), .pointer (some ⟨bb, 0, none⟩), .pointer (some ⟨z.bk, 0, none⟩), .pointer (some ⟨bm, 0, none⟩)]) Try.func24 rfl rfl rfl (fun w0 hw0 => ?_)
  refine CF.seq ?_
  refine CF.region ?_
  refine LF.step (OpOk.load Try.one46 rfl rfl hgb) ?_
  refine LF.step (OpOk.move rfl) ?_
  refine LF.step (OpOk.idx (i := x) Try.underlying46 Try.sz35 (hms.sg hn) rfl rfl rfl hx) ?_
  refine LF.step (OpOk.eqv (OpOk.load Try.one35 rfl rfl ((hms.sg hn).at (i := x) (by omega))) (congrArg _ hrx)) ?_
  refine LF.step (len_cnt hax rfl) ?_
  refine LF.step (OpOk.assign rfl) ?_
  refine LF.nil ?_
  refine PF.next ?_
  refine CF.seq ?_
  refine CF.seq ?_
  refine CF.region ?_
  refine LF.step (OpOk.load Try.one46 rfl rfl hgb) ?_
  refine LF.step (OpOk.load Try.one3 rfl rfl (hra.cell (i := 0) (by omega))) ?_
  refine LF.step (OpOk.idx (i := a) Try.underlying46 Try.sz35 (hms.sg hn) rfl rfl rfl ha) ?_
  refine LF.step (OpOk.eqv (OpOk.load Try.one35 rfl rfl ((hms.sg hn).at (i := a) (by omega))) (congrArg _ hra2)) ?_
  refine LF.step (OpOk.move rfl) ?_
  refine LF.step (look_ad haa rfl rfl hx) ?_
  refine LF.step (OpOk.move rfl) ?_
  refine LF.gstep rfl rfl (.t _) (fun hg => OpOk.load Try.one46 rfl rfl hgb) ?_
  refine LF.gstep rfl rfl (.t _) (fun hg => OpOk.load Try.one3 rfl rfl (hrb.cell (i := 0) (by omega))) ?_
  refine LF.gstep rfl rfl (.t _) (fun hg => OpOk.idx (i := b) Try.underlying46 Try.sz35 (hms.sg hn) (evg rfl hg) (evg rfl hg) rfl hb) ?_
  refine LF.gstep rfl rfl (.t _) (fun hg => OpOk.eqv (OpOk.load Try.one35 (evg rfl hg) rfl ((hms.sg hn).at (i := b) (by omega))) (congrArg _ hrb2)) ?_
  refine LF.gstep rfl rfl (.t _) (fun hg => OpOk.move rfl) ?_
  refine LF.gstep rfl rfl (.t _) (fun hg => look_ad hab (evg rfl hg) (evg rfl hg) hx) ?_
  refine LF.step (OpOk.pickAnd rfl rfl) ?_
  refine LF.nil ?_
  refine PF.next ?_
  refine CF.if rfl (fun hc1 => ?_) (fun hc1 => ?_)
  · refine CF.region ?_
    refine LF.step (OpOk.move rfl) ?_
    refine LF.step (OpOk.sub rfl rfl (by omega)) ?_
    refine LF.step (OpOk.assign rfl) ?_
    refine LF.nil ?_
    refine PF.next ?_
    refine CF.seq ?_
    refine CF.region ?_
    refine LF.step (OpOk.move rfl) ?_
    refine LF.step (OpOk.load Try.one3 rfl rfl (hms.hk.cell (i := 0) (by omega))) ?_
    refine LF.step (OpOk.geq rfl rfl) ?_
    refine LF.nil ?_
    refine PF.next ?_
    refine CF.if rfl (fun hc2 => ?_) (fun hc2 => ?_)
    · refine CF.region ?_
      refine LF.step (OpOk.load Try.one3 rfl rfl (hm.cell (i := 0) (by omega))) ?_
      refine LF.step (OpOk.add rfl rfl (by omega)) ?_
      refine LF.chg0 (OpCh.store (b := bm) (i := 0) Try.sz3 rfl rfl rfl hm (by omega)) ?_
      rintro _ _ rfl
      refine LF.nil ?_
      have hbig : bigS n k g a b x = true := by unfold bigS; rw [if_pos hc1]; exact decide_eq_true (by omega)
      exact PF.end0 rfl (by rw [if_pos hbig])
    · refine CF.skip ?_
      have hbig : ¬ bigS n k g a b x = true := by unfold bigS; rw [if_pos hc1, decide_eq_true_eq]; omega
      exact PF.end0 rfl (by rw [if_neg hbig])
  · refine CF.skip ?_
    refine PF.next ?_
    refine CF.seq ?_
    refine CF.region ?_
    refine LF.step (OpOk.move rfl) ?_
    refine LF.step (OpOk.load Try.one3 rfl rfl (hms.hk.cell (i := 0) (by omega))) ?_
    refine LF.step (OpOk.geq rfl rfl) ?_
    refine LF.nil ?_
    refine PF.next ?_
    refine CF.if rfl (fun hc3 => ?_) (fun hc3 => ?_)
    · refine CF.region ?_
      refine LF.step (OpOk.load Try.one3 rfl rfl (hm.cell (i := 0) (by omega))) ?_
      refine LF.step (OpOk.add rfl rfl (by omega)) ?_
      refine LF.chg0 (OpCh.store (b := bm) (i := 0) Try.sz3 rfl rfl rfl hm (by omega)) ?_
      rintro _ _ rfl
      refine LF.nil ?_
      have hbig : bigS n k g a b x = true := by unfold bigS; rw [if_neg (by rintro ⟨h1, h2⟩; rcases hc1 with h | h <;> simp_all)]; exact decide_eq_true (by omega)
      exact PF.end0 rfl (by rw [if_pos hbig])
    · refine CF.skip ?_
      have hbig : ¬ bigS n k g a b x = true := by unfold bigS; rw [if_neg (by rintro ⟨h1, h2⟩; rcases hc1 with h | h <;> simp_all), decide_eq_true_eq]; omega
      exact PF.end0 rfl (by rw [if_neg hbig])


theorem harder_ct {H : Heap} {B n a b : Nat} {z : Ml} {k : Int} {r : Nat → Option Nat} {g : Nat → Nat → Bool} {cls : Nat → Nat} (hn : n ≤ 8192) (hms : MS H B z n k r g cls) (hrep : ∀ x y, g x y = true → cls y = y)
    (ha : a < n) (hca : cls a = a) (hb : b < n) (hcb : cls b = b) :
    Ct Try.prog 23 #[.int .i64 (a : Nat), .int .i64 (b : Nat), .pointer (some ⟨z.bg, 0, none⟩), .pointer (some ⟨z.bk, 0, none⟩)] H (fun v H' => v = .bool (decide (k ≤ (manyS n k g a b : Nat))) ∧ Kp H.size H H') := by
  obtain ⟨ra, hra2, _, La, hma, hla⟩ := hms.row a ha hca
  obtain ⟨rb, hrb2, _, Lb, hmb, hlb⟩ := hms.row b hb hcb
  have hral := hma.lt
  have hrbl := hmb.lt
  have hlt := hms.lt
  refine Ct.enter (args := [.int .i64 (a : Nat), .int .i64 (b : Nat), .pointer (some ⟨z.bg, 0, none⟩), .pointer (some ⟨z.bk, 0, none⟩)]) Try.func23 rfl rfl rfl (fun w0 hw0 => ?_)
  refine CF.seq ?_
  refine CF.region ?_
  refine LF.chg (OpCh.box rfl) ?_
  rintro _ _ ⟨rfl, rfl⟩
  refine LF.chg (OpCh.box rfl) ?_
  rintro _ _ ⟨rfl, rfl⟩
  refine LF.step (OpOk.assign rfl) ?_
  refine LF.nil ?_
  refine PF.next ?_
  refine CF.seq ?_
  refine CF.region ?_
  refine LF.chg (OpCh.alloc Try.zero3) ?_
  rintro _ _ ⟨rfl, rfl⟩
  refine LF.chg0 (OpCh.store (b := (((H.push (.cells (Value.int .i64 (a : Nat)).cells 3)).push (.cells (Value.int .i64 (b : Nat)).cells 3))).size) (i := 0) Try.sz3 rfl rfl rfl Rw.new (by decide)) ?_
  rintro _ _ rfl
  rw [Array.size_push, Array.size_push]
  obtain ⟨H3, hH3⟩ : ∃ H3, H3 = setc ((((H.push (.cells (Value.int .i64 (a : Nat)).cells 3)).push (.cells (Value.int .i64 (b : Nat)).cells 3))).push (.cells (Value.int .i64 0).cells 3)) (H.size + 1 + 1) 0 (.int .i64 0) := ⟨_, rfl⟩
  rw [← hH3]
  have hsz3 : H3.size = H.size + 3 := by rw [hH3, size_setc]; simp
  have hk3 : Kp H.size H H3 := by rw [hH3]; exact ((((Kp.refl _ _).push (Nat.le_refl _) _).push (Nat.le_refl _) _).push (Nat.le_refl _) _).setc (by omega)
  have hb3a : Rw H3 H.size 3 1 (fun _ => .int .i64 (a : Nat)) := by rw [hH3]; exact (((Rw.new1 (H := H) (T := 3) (v := .int .i64 (a : Nat))).push _).push _).setOther (by omega)
  have hb3b : Rw H3 (H.size + 1) 3 1 (fun _ => .int .i64 (b : Nat)) := by rw [hH3]; have h9 := Rw.new1 (H := H.push (.cells (Value.int .i64 (a : Nat)).cells 3)) (T := 3) (v := .int .i64 (b : Nat)); rw [Array.size_push] at h9; exact (h9.push _).setOther (by omega)
  have hb3m : Rw H3 (H.size + 2) 3 1 (fun _ => .int .i64 ((0 : Nat) : Int)) := by rw [hH3]; have h9 := Rw.new1 (H := (H.push (.cells (Value.int .i64 (a : Nat)).cells 3)).push (.cells (Value.int .i64 (b : Nat)).cells 3)) (T := 3) (v := .int .i64 0); rw [Array.size_push, Array.size_push] at h9; exact h9.set.congr (fun i hi => by rw [if_pos (by omega)]; rfl)
  clear hH3
  have hms3 := hms.kp hk3
  refine LF.nil ?_
  refine PF.next ?_
  refine CF.seq ?_
  refine CF.region ?_
  refine LF.step (OpOk.makeFunc5 rfl rfl rfl rfl rfl) ?_
  refine LF.step (OpOk.assign rfl) ?_
  refine LF.nil ?_
  refine PF.next ?_
  refine CF.seq ?_
  refine CF.seq ?_
  refine CF.region ?_
  refine LF.step (OpOk.load Try.one46 rfl rfl (hms3.hg.cell (i := 0) (by omega))) ?_
  refine LF.step (OpOk.load Try.one3 rfl rfl (hb3a.cell (i := 0) (by omega))) ?_
  refine LF.step (OpOk.idx (i := a) Try.underlying46 Try.sz35 (hms3.sg hn) rfl rfl rfl ha) ?_
  refine LF.step (OpOk.eqv (OpOk.load Try.one35 rfl rfl ((hms3.sg hn).at (i := a) (by omega))) (congrArg _ hra2)) ?_
  refine LF.chg (OpCh.range Try.underlying35 (hma.kp hk3 hral) rfl) ?_
  rintro _ H4 ⟨rfl, hit, hsz4, hold4⟩
  have hk4 : Kp H3.size H3 H4 := ⟨by omega, hold4⟩
  refine LF.nil ?_
  refine PF.next ?_
  refine CF.block ?_
  obtain ⟨it, hit0⟩ : ∃ it, it = H3.size := ⟨_, rfl⟩
  rw [← hit0] at hit ⊢
  have hrne : it ≠ ra := by omega
  have hna := hma.nodup
  have hnb := hmb.nodup
  have hcl : ∀ p, cntS p n ≤ n := fun p => cntS_le p n
  refine CF.loop (ι := List Int) (fun vis H4 => It H4 it ra La vis ∧ Rw H4 (H.size + 2) 3 1 (fun _ => .int .i64 (bigV n k g a b vis : Nat)) ∧ Rw H4 H.size 3 1 (fun _ => .int .i64 (a : Nat)) ∧ Rw H4 (H.size + 1) 3 1 (fun _ => .int .i64 (b : Nat)) ∧ Kp H.size H H4 ∧ it < H4.size) (fun vis => [(2, .pointer (some ⟨z.bg, 0, none⟩)), (3, .pointer (some ⟨z.bk, 0, none⟩)), (4, .pointer (some ⟨H.size, 0, none⟩)), (5, .pointer (some ⟨(H.size + 1), 0, none⟩)), (7, .pointer (some ⟨(H.size + 2), 0, none⟩)), (8, .func (.func 24) #[] #[.pointer (some ⟨z.bg, 0, none⟩), .pointer (some ⟨H.size, 0, none⟩), .pointer (some ⟨(H.size + 1), 0, none⟩), .pointer (some ⟨z.bk, 0, none⟩), .pointer (some ⟨(H.size + 2), 0, none⟩)]), (16, .pointer (some ⟨it, 0, none⟩))]) (fun vis => La.length - vis.length) [] ⟨hit, (hb3m.kp hk4 (by omega)), hb3a.kp hk4 (by omega), hb3b.kp hk4 (by omega), hk3.trans (hk4.mono hk3.1), by omega⟩ ⟨rfl, rfl, rfl, rfl, rfl, rfl, rfl, trivial⟩ ?_
  clear hit hk4 hold4
  rintro vis H4 ⟨hit, hb4m, hb4a, hb4b, hk4, hil⟩
  have hvl := hit.len
  have hbv : bigV n k g a b vis ≤ 8192 := Nat.le_trans (List.length_filter_le _ _) (by have := hla.cnt hna; have := hcl (g a); omega)
  refine CF.seq ?_
  refine CF.region ?_
  refine LF.chg (OpCh.next1 hrne hit rfl) ?_
  rintro _ H5 ⟨more, vs, rfl, hvs0, hfin, hgo⟩
  refine LF.step (OpOk.extract rfl hvs0) ?_
  refine LF.nil ?_
  refine PF.next ?_
  refine CF.seq ?_
  refine CF.if rfl (fun hc1 => ?_) (fun hc1 => ?_)
  · obtain ⟨kk, vv, hkv, hnv, hit5, htw⟩ := hgo hc1
    obtain ⟨x, rfl, hxn, hgx⟩ := hla.mem hna hkv
    have hcx := hrep _ _ hgx
    have hk5 : Kp H.size H H5 := hk4.trans ⟨by rw [htw.1]; exact Nat.le_refl _, fun b9 hb9 => htw.2 b9 (by omega)⟩
    have hms5 := hms.kp hk5
    have hb5m := hb4m.of (htw.2 _ (by omega))
    have hb5a := hb4a.of (htw.2 _ (by omega))
    have hb5b := hb4b.of (htw.2 _ (by omega))
    refine CF.skip ?_
    refine PF.next ?_
    refine CF.block ?_
    refine CF.seq ?_
    refine CF.region ?_
    refine LF.step (OpOk.entry hit5 hkv rfl) ?_
    refine LF.step (OpOk.extract rfl rfl) ?_
    refine LF.step (OpOk.assign rfl) ?_
    refine LF.nil ?_
    refine PF.next ?_
    refine CF.region ?_
    refine LF.step (OpOk.move rfl) ?_
    refine LF.step (OpOk.move rfl) ?_
    refine LF.call (OpCall.fnc Try.ent24 rfl rfl) (count_ct hn hms5 hb5a hb5b hb5m (by omega) ha hca hb hcb hxn hcx) ?_
    rintro _ H7 h7
    obtain ⟨hsz7, hot7, hbm7⟩ := cnt_step hb5m h7
    refine LF.nil ?_
    refine PF.blockNormal ?_
    refine PF.again (vis ++ [(x : Int)]) ⟨hit5.of (hot7 _ (by omega)) (hot7 _ (by omega)), by rw [bigV_snoc]; exact hbm7, hb5a.of (hot7 _ (by omega)), hb5b.of (hot7 _ (by omega)), hk5.trans ⟨by rw [hsz7]; exact Nat.le_refl _, fun b9 hb9 => hot7 b9 (by omega)⟩, by rw [hsz7, htw.1]; exact hil⟩ ⟨rfl, rfl, rfl, rfl, rfl, rfl, rfl, trivial⟩ ?_
    have := hit5.len; simp only [List.length_append, List.length_singleton] at this ⊢; omega
  · refine CF.exit ?_
    refine PF.thenExit ?_
    refine PF.thenExit ?_
    refine PF.blockHere ?_
    refine PF.next ?_
    refine CF.seq ?_
    refine CF.seq ?_
    obtain ⟨hall, h9⟩ := hfin hc1
    obtain rfl : H4 = H5 := h9.symm
    have hms4 := hms.kp hk4
    refine CF.region ?_
    refine LF.step (OpOk.load Try.one46 rfl rfl (hms4.hg.cell (i := 0) (by omega))) ?_
    refine LF.step (OpOk.load Try.one3 rfl rfl (hb4b.cell (i := 0) (by omega))) ?_
    refine LF.step (OpOk.idx (i := b) Try.underlying46 Try.sz35 (hms4.sg hn) rfl rfl rfl hb) ?_
    refine LF.step (OpOk.eqv (OpOk.load Try.one35 rfl rfl ((hms4.sg hn).at (i := b) (by omega))) (congrArg _ hrb2)) ?_
    refine LF.chg (OpCh.range Try.underlying35 (hmb.kp hk4 hrbl) rfl) ?_
    rintro _ H6 ⟨rfl, hit6, hsz6, hold6⟩
    have hk6 : Kp H4.size H4 H6 := ⟨by omega, hold6⟩
    refine LF.nil ?_
    refine PF.next ?_
    refine CF.block ?_
    obtain ⟨it2, hit20⟩ : ∃ it2, it2 = H4.size := ⟨_, rfl⟩
    rw [← hit20] at hit6 ⊢
    have hrne2 : it2 ≠ rb := by have := hk4.1; omega
    have hi2 : H.size + 3 ≤ it2 := by omega
    obtain ⟨M1, hM1⟩ : ∃ M1, M1 = bigV n k g a b vis := ⟨_, rfl⟩
    rw [← hM1] at hb4m
    have hM1c : M1 = cntS (fun x => g a x && bigS n k g a b x) n := by rw [hM1]; exact vis_cnt (q := fun x => bigS n k g a b x) hit.nodup (fun k9 hk9 => by obtain ⟨⟨k8, v8⟩, hp9, hp8⟩ := List.mem_map.1 (hit.sub k9 hk9); simp only at hp8; subst hp8; exact hla.mem hna hp9) (fun x hx hg9 => hall _ (hla.key hx hg9))
    have hM1n := hcl (fun x => g a x && bigS n k g a b x)
    refine CF.loop (ι := List Int) (fun vis2 H4 => It H4 it2 rb Lb vis2 ∧ Rw H4 (H.size + 2) 3 1 (fun _ => .int .i64 ((M1 + (vis2.filter (fun x => !g a x.toNat && bigS n k g a b x.toNat)).length : Nat) : Int)) ∧ Rw H4 H.size 3 1 (fun _ => .int .i64 (a : Nat)) ∧ Rw H4 (H.size + 1) 3 1 (fun _ => .int .i64 (b : Nat)) ∧ Kp H.size H H4 ∧ it2 < H4.size) (fun vis2 => [(2, .pointer (some ⟨z.bg, 0, none⟩)), (3, .pointer (some ⟨z.bk, 0, none⟩)), (4, .pointer (some ⟨H.size, 0, none⟩)), (7, .pointer (some ⟨(H.size + 2), 0, none⟩)), (8, .func (.func 24) #[] #[.pointer (some ⟨z.bg, 0, none⟩), .pointer (some ⟨H.size, 0, none⟩), .pointer (some ⟨(H.size + 1), 0, none⟩), .pointer (some ⟨z.bk, 0, none⟩), .pointer (some ⟨(H.size + 2), 0, none⟩)]), (28, .pointer (some ⟨it2, 0, none⟩))]) (fun vis2 => Lb.length - vis2.length) [] ⟨hit6, (hb4m.kp hk6 hb4m.lt), hb4a.kp hk6 hb4a.lt, hb4b.kp hk6 hb4b.lt, hk4.trans (hk6.mono hk4.1), by omega⟩ ⟨rfl, rfl, rfl, rfl, rfl, rfl, trivial⟩ ?_
    clear hit hit6 hk6 hold6 hb4m hb4a hb4b hk4 hil hvl hbv hall hms4
    rintro vis2 H4 ⟨hit, hb4m, hb4a, hb4b, hk4, hil⟩
    have hvl := hit.len
    have hbv : (vis2.filter (fun x => !g a x.toNat && bigS n k g a b x.toNat)).length ≤ 8192 := Nat.le_trans (List.length_filter_le _ _) (by have := hlb.cnt hnb; have := hcl (g b); omega)
    refine CF.seq ?_
    refine CF.region ?_
    refine LF.chg (OpCh.next1 hrne2 hit rfl) ?_
    rintro _ H5 ⟨more, vs, rfl, hvs0, hfin, hgo⟩
    refine LF.step (OpOk.extract rfl hvs0) ?_
    refine LF.nil ?_
    refine PF.next ?_
    refine CF.seq ?_
    refine CF.if rfl (fun hc2 => ?_) (fun hc2 => ?_)
    · obtain ⟨kk, vv, hkv, hnv, hit5, htw⟩ := hgo hc2
      obtain ⟨x, rfl, hxn, hgx⟩ := hlb.mem hnb hkv
      have hcx := hrep _ _ hgx
      have hk45 := hk4.1
      have hk5 : Kp H.size H H5 := hk4.trans ⟨by rw [htw.1]; exact Nat.le_refl _, fun b9 hb9 => htw.2 b9 (by omega)⟩
      have hms5 := hms.kp hk5
      have hb5m := hb4m.of (htw.2 _ (by omega))
      have hb5a := hb4a.of (htw.2 _ (by omega))
      have hb5b := hb4b.of (htw.2 _ (by omega))
      have hfs : ((vis2 ++ [(x : Int)]).filter (fun x => !g a x.toNat && bigS n k g a b x.toNat)).length = (vis2.filter (fun x => !g a x.toNat && bigS n k g a b x.toNat)).length + (if (!g a x && bigS n k g a b x) = true then 1 else 0) := by rw [List.filter_append, List.length_append]; by_cases h9 : (!g a x && bigS n k g a b x) = true <;> simp [h9]
      refine CF.skip ?_
      refine PF.next ?_
      refine CF.block ?_
      refine CF.seq ?_
      refine CF.region ?_
      refine LF.step (OpOk.entry hit5 hkv rfl) ?_
      refine LF.step (OpOk.extract rfl rfl) ?_
      refine LF.step (OpOk.assign rfl) ?_
      refine LF.nil ?_
      refine PF.next ?_
      refine CF.seq ?_
      refine CF.region ?_
      refine LF.step (OpOk.load Try.one46 rfl rfl (hms5.hg.cell (i := 0) (by omega))) ?_
      refine LF.step (OpOk.load Try.one3 rfl rfl (hb5a.cell (i := 0) (by omega))) ?_
      refine LF.step (OpOk.idx (i := a) Try.underlying46 Try.sz35 (hms5.sg hn) rfl rfl rfl ha) ?_
      refine LF.step (OpOk.eqv (OpOk.load Try.one35 rfl rfl ((hms5.sg hn).at (i := a) (by omega))) (congrArg _ hra2)) ?_
      refine LF.step (OpOk.move rfl) ?_
      refine LF.step (look_ad (⟨La, hma.kp hk5 hral, hla⟩ : Ad H5 ra n (g a)) rfl rfl hxn) ?_
      refine LF.step (OpOk.not rfl) ?_
      refine LF.nil ?_
      refine PF.next ?_
      refine CF.if rfl (fun hc3 => ?_) (fun hc3 => ?_)
      · refine CF.region ?_
        refine LF.step (OpOk.move rfl) ?_
        refine LF.step (OpOk.move rfl) ?_
        refine LF.call (OpCall.fnc Try.ent24 rfl rfl) (count_ct hn hms5 hb5a hb5b hb5m (by omega) ha hca hb hcb hxn hcx) ?_
        rintro _ H7 h7
        obtain ⟨hsz7, hot7, hbm7⟩ := cnt_step hb5m h7
        refine LF.nil ?_
        refine PF.blockNormal ?_
        rw [Nat.add_assoc] at hbm7
        refine PF.again (vis2 ++ [(x : Int)]) ⟨hit5.of (hot7 _ (by omega)) (hot7 _ (by omega)), by rw [hfs]; simp only [hc3, Bool.not_false, Bool.true_and]; exact hbm7, hb5a.of (hot7 _ (by omega)), hb5b.of (hot7 _ (by omega)), hk5.trans ⟨by rw [hsz7]; exact Nat.le_refl _, fun b9 hb9 => hot7 b9 (by omega)⟩, by rw [hsz7, htw.1]; exact hil⟩ ⟨rfl, rfl, rfl, rfl, rfl, rfl, trivial⟩ ?_
        have := hit5.len; simp only [List.length_append, List.length_singleton] at this ⊢; omega
      · refine CF.skip ?_
        refine PF.blockNormal ?_
        refine PF.again (vis2 ++ [(x : Int)]) ⟨hit5, by rw [hfs]; simp only [hc3, Bool.not_true, Bool.false_and]; exact hb5m, hb5a, hb5b, hk5, by rw [htw.1]; exact hil⟩ ⟨rfl, rfl, rfl, rfl, rfl, rfl, trivial⟩ ?_
        have := hit5.len; simp only [List.length_append, List.length_singleton] at this ⊢; omega
    · refine CF.exit ?_
      refine PF.thenExit ?_
      refine PF.thenExit ?_
      refine PF.blockHere ?_
      refine PF.next ?_
      refine CF.seq ?_
      obtain ⟨hall, h9⟩ := hfin hc2
      obtain rfl : H4 = H5 := h9.symm
      have hms4 := hms.kp hk4
      refine CF.region ?_
      refine LF.step (OpOk.load Try.one3 rfl rfl (hb4m.cell (i := 0) (by omega))) ?_
      refine LF.step (OpOk.load Try.one3 rfl rfl (hms4.hk.cell (i := 0) (by omega))) ?_
      refine LF.step (OpOk.geq rfl rfl) ?_
      refine LF.step (OpOk.assign rfl) ?_
      refine LF.nil ?_
      refine PF.next ?_
      refine CF.ret ?_
      have hM2c := vis_cnt (q := fun x => !g a x && bigS n k g a b x) (p := g b) (n := n) hit.nodup (fun k9 hk9 => by obtain ⟨⟨k8, v8⟩, hp9, hp8⟩ := List.mem_map.1 (hit.sub k9 hk9); simp only at hp8; subst hp8; exact hlb.mem hnb hp9) (fun x hx hg9 => hall _ (hlb.key hx hg9))
      have hsum := cntS_add (fun x => g a x && bigS n k g a b x) (fun x => g b x && (!g a x && bigS n k g a b x)) n
      have hz9 : cntS (fun x => (g a x && bigS n k g a b x) && (g b x && (!g a x && bigS n k g a b x))) n = 0 := by rw [cntS_congr (q := fun _ => false) (fun i _ => by cases g a i <;> simp)]; exact cntS_zero n
      have hm9 : cntS (fun x => (g a x && bigS n k g a b x) || (g b x && (!g a x && bigS n k g a b x))) n = manyS n k g a b := cntS_congr (fun i _ => by cases g a i <;> cases g b i <;> cases bigS n k g a b i <;> rfl)
      have htot : M1 + (vis2.filter (fun x => !g a x.toNat && bigS n k g a b x.toNat)).length = manyS n k g a b := by rw [hM1c, hM2c]; omega
      exact PF.ret1 rfl rfl ⟨by rw [htot], hk4⟩

end Go.Proofs.Ytkhphpobccnodaa
