/- Walks of the functions of chapter 14 that the laws on graphs reach, seventh part. Conditions: each contract names its own. -/
import Derived.Test.YtkhphpobccnodaaW6
namespace Go.Proofs.Ytkhphpobccnodaa
open Go.JE


theorem join_ct {H : Heap} {B n a b : Nat} {z : Ml} {k : Int} {r : Nat → Option Nat} {g : Nat → Nat → Bool} {cls : Nat → Nat} (hn : n ≤ 8192) (hms : MS H B z n k r g cls) (hab : a < b) (hb : b < n) (hca : cls a = a) (hcb : cls b = b)
    (hkey : ∀ y, g b y = true → cls y = y ∧ y ≠ a ∧ y ≠ b) :
    Ct Try.prog 25 #[.int .i64 (a : Nat), .int .i64 (b : Nat), .pointer (some ⟨z.bc, 0, none⟩), .pointer (some ⟨z.bg, 0, none⟩)] H (fun _ H' => ∃ r', MS H' B z n k r' (jg g a b) (fun x => if x = b then a else cls x) ∧ Kp B H H') := by
  have ha : a < n := by omega
  obtain ⟨ra, hra, hBa, haa⟩ := hms.row a ha hca
  obtain ⟨rb, hrb, hBb, Lb, hmb, hlb⟩ := hms.row b hb hcb
  have hrab : ra ≠ rb := fun e1 => by have := hms.apart a b ra ha hb hra (by rw [hrb, e1]); omega
  have hrbl := hmb.lt
  have hnb := hmb.nodup
  refine Ct.enter (args := [.int .i64 (a : Nat), .int .i64 (b : Nat), .pointer (some ⟨z.bc, 0, none⟩), .pointer (some ⟨z.bg, 0, none⟩)]) Try.func25 rfl rfl rfl (fun w0 hw0 => ?_)
  refine CF.seq ?_
  refine CF.region ?_
  refine LF.step (OpOk.load Try.one22 rfl rfl (hms.hc.cell (i := 0) (by omega))) ?_
  refine LF.step (OpOk.move rfl) ?_
  refine LF.step (OpOk.move rfl) ?_
  refine LF.step (OpOk.idx (i := b) Try.underlying22 Try.sz3 (hms.sc hn) rfl rfl rfl hb) ?_
  refine LF.chg0 (OpCh.store (b := z.c) (i := 0 + b) Try.sz3 rfl rfl rfl hms.rc (by omega)) ?_
  rintro _ _ rfl
  have hms1 := hms.setC (b := b) (a := a) (by omega)
  have hmb1 := hmb.of (setc_other (H := H) (b := z.c) (i := 0 + b) (v := .int .i64 (a : Nat)) (hms.ne hms.rc hb hcb hrb))
  have hkp1 := (Kp.refl B H).setc (b := z.c) (i := 0 + b) (v := .int .i64 (a : Nat)) hms.ord.2.2
  have hs1 : (setc H z.c (0 + b) (.int .i64 (a : Nat))).size = H.size := size_setc
  generalize setc H z.c (0 + b) (.int .i64 (a : Nat)) = H1 at hms1 hmb1 hkp1 hs1 ⊢
  refine LF.nil ?_
  refine PF.next ?_
  refine CF.seq ?_
  refine CF.seq ?_
  refine CF.region ?_
  refine LF.step (OpOk.load Try.one46 rfl rfl (hms1.hg.cell (i := 0) (by omega))) ?_
  refine LF.step (OpOk.move rfl) ?_
  refine LF.step (OpOk.idx (i := b) Try.underlying46 Try.sz35 (hms1.sg hn) rfl rfl rfl hb) ?_
  refine LF.step (OpOk.eqv (OpOk.load Try.one35 rfl rfl ((hms1.sg hn).at (i := b) (by omega))) (congrArg _ hrb)) ?_
  refine LF.chg (OpCh.range Try.underlying35 hmb1 rfl) ?_
  rintro _ H2 ⟨rfl, hit, hsz2, hold2⟩
  have hk2 : Kp H1.size H1 H2 := ⟨by omega, hold2⟩
  refine LF.nil ?_
  refine PF.next ?_
  refine CF.block ?_
  obtain ⟨it, hit0⟩ : ∃ it, it = H1.size := ⟨_, rfl⟩
  rw [← hit0] at hit ⊢
  have hrne : it ≠ rb := by have := hkp1.1; omega
  have hca1 : (if a = b then a else cls a) = a := by rw [if_neg (by omega)]; exact hca
  have hlt1 := hms1.lt
  rw [← hit0] at hlt1
  have hBH : ∀ b9, b9 < B → b9 < it := fun b9 h9 => by omega
  refine CF.loop (ι := List Int) (fun vis H4 => It H4 it rb Lb vis ∧ MS H4 B z n k r (gV g a b vis) (fun x => if x = b then a else cls x) ∧ Kp B H H4 ∧ H.size ≤ H4.size ∧ it < H4.size) (fun vis => [(0, .int .i64 (a : Nat)), (1, .int .i64 (b : Nat)), (3, .pointer (some ⟨z.bg, 0, none⟩)), (15, .pointer (some ⟨it, 0, none⟩))]) (fun vis => Lb.length - vis.length) [] ⟨hit, (hms1.kp hk2).congr (fun i y hi hy hc => by simp [gV]; intro h9; rw [h9]), hkp1.trans ⟨hk2.1, fun b9 hb9 => hk2.2 b9 (by have := hBH b9 hb9; omega)⟩, by omega, by omega⟩ ⟨rfl, rfl, rfl, rfl, trivial⟩ ?_
  clear hms1 hmb1 hk2 hit hold2
  rintro vis H4 ⟨hit, hms4, hkp4, hsz4, hil⟩
  have hvl := hit.len
  refine CF.seq ?_
  refine CF.region ?_
  refine LF.chg (OpCh.next1 hrne hit rfl) ?_
  rintro _ H5 ⟨more, vs, rfl, hvs0, hfin, hgo⟩
  refine LF.step (OpOk.extract rfl hvs0) ?_
  refine LF.nil ?_
  refine PF.next ?_
  refine CF.seq ?_
  refine CF.if rfl (fun hc1 => ?_) (fun hc1 => ?_)
  · obtain ⟨kk, vv, hkv, hnv, hit5, htw⟩ := hgo hc1
    obtain ⟨x, rfl, hxn, hgx⟩ := hlb.mem hnb hkv
    obtain ⟨hcx0, hxa, hxb⟩ := hkey x hgx
    have hcx : (if x = b then a else cls x) = x := by rw [if_neg hxb]; exact hcx0
    have hms5 := hms4.kpB hlt1 (fun b9 hb9 => htw.2 b9 (by omega))
    obtain ⟨rx, hrx, hBx, Lx, hmx, hlx⟩ := hms5.row x hxn hcx
    have hrxb : rx ≠ rb := fun e1 => hxb (hms.apart x b rx hxn hb hrx (by rw [hrb, e1]))
    have hrxa : rx ≠ ra := fun e1 => hxa (hms.apart x a rx hxn ha hrx (by rw [hra, e1]))
    have hrxi : rx < it := hlt1.rs x rx hxn hcx hrx
    have hrai : ra < it := hlt1.rs a ra ha hca1 hra
    refine CF.skip ?_
    refine PF.next ?_
    refine CF.block ?_
    refine CF.seq ?_
    refine CF.region ?_
    refine LF.step (OpOk.entry hit5 hkv rfl) ?_
    refine LF.step (OpOk.extract rfl rfl) ?_
    refine LF.step (OpOk.assign rfl) ?_
    refine LF.nil ?_
    refine PF.next ?_
    refine CF.seq ?_
    refine CF.region ?_
    refine LF.step (OpOk.load Try.one46 rfl rfl (hms5.hg.cell (i := 0) (by omega))) ?_
    refine LF.step (OpOk.move rfl) ?_
    refine LF.step (OpOk.idx (i := x) Try.underlying46 Try.sz35 (hms5.sg hn) rfl rfl rfl hxn) ?_
    refine LF.step (OpOk.eqv (OpOk.load Try.one35 rfl rfl ((hms5.sg hn).at (i := x) (by omega))) (congrArg _ hrx)) ?_
    refine LF.step (OpOk.move rfl) ?_
    refine LF.chg0 (OpCh.delete Try.underlying35 Try.underlying3 hmx rfl rfl) ?_
    rintro _ H6 ⟨L6, him6, hlk6, htw6⟩
    have hl6 := hlx.del hlk6
    have hms6 := hms5.setM hxn hrx hBx hcx ⟨L6, him6, hl6⟩ htw6
    have hg6 : hc H6 z.bg 0 = _ := hms6.hg.cell (i := 0) (by omega)
    refine LF.nil ?_
    refine PF.next ?_
    have hS0 : H6[z.bg]? = H6[z.bg]? ∧ H6[z.gb]? = H6[z.gb]? := ⟨rfl, rfl⟩
    have hnx1 : z.bg ≠ rx := (hms6.ne hms6.hg hxn hcx hrx).symm
    have hnx2 : z.gb ≠ rx := (hms6.ne hms6.rg hxn hcx hrx).symm
    have hna1 : z.bg ≠ ra := (hms6.ne hms6.hg ha hca1 hra).symm
    have hna2 : z.gb ≠ ra := (hms6.ne hms6.rg ha hca1 hra).symm
    refine CF.any (fun H' => H'[z.bg]? = H6[z.bg]? ∧ H'[z.gb]? = H6[z.gb]?) Try.mixed ?_
    refine AF.take 0 rfl (by kernel_rfl) (by kernel_rfl) (by kernel_rfl) hS0 (fun H9 hS9 => OpOk.load Try.one46 rfl rfl ((hc_of hS9.1).trans hg6)) ?_
    refine AF.take 1 rfl (by kernel_rfl) (by kernel_rfl) (by kernel_rfl) hS0 (fun H9 hS9 => OpOk.move rfl) ?_
    refine AF.take 2 rfl (by kernel_rfl) (by kernel_rfl) (by kernel_rfl) hS0 (fun H9 hS9 => OpOk.idx (i := x) Try.underlying46 Try.sz35 (Rw1 (hms6.rg.of hS9.2) (by omega)) rfl rfl rfl hxn) ?_
    refine AF.take 3 rfl (by kernel_rfl) (by kernel_rfl) (by kernel_rfl) hS0 (fun H9 hS9 => OpOk.eqv (OpOk.load Try.one35 rfl rfl ((Rw1 (hms6.rg.of hS9.2) (by omega)).at (i := x) (by omega))) (congrArg _ hrx)) ?_
    refine AF.take 4 rfl (by kernel_rfl) (by kernel_rfl) (by kernel_rfl) hS0 (fun H9 hS9 => OpOk.move rfl) ?_
    refine AF.take 5 rfl (by kernel_rfl) (by kernel_rfl) (by kernel_rfl) hS0 (fun H9 hS9 => OpOk.load Try.one46 rfl rfl ((hc_of hS9.1).trans hg6)) ?_
    refine AF.take 6 rfl (by kernel_rfl) (by kernel_rfl) (by kernel_rfl) hS0 (fun H9 hS9 => OpOk.move rfl) ?_
    refine AF.take 7 rfl (by kernel_rfl) (by kernel_rfl) (by kernel_rfl) hS0 (fun H9 hS9 => OpOk.idx (i := a) Try.underlying46 Try.sz35 (Rw1 (hms6.rg.of hS9.2) (by omega)) rfl rfl rfl ha) ?_
    refine AF.take 8 rfl (by kernel_rfl) (by kernel_rfl) (by kernel_rfl) hS0 (fun H9 hS9 => OpOk.eqv (OpOk.load Try.one35 rfl rfl ((Rw1 (hms6.rg.of hS9.2) (by omega)).at (i := a) (by omega))) (congrArg _ hra)) ?_
    refine AF.take 9 rfl (by kernel_rfl) (by kernel_rfl) (by kernel_rfl) hS0 (fun H9 hS9 => OpOk.move rfl) ?_
    refine AF.chg 10 rfl (by kernel_rfl) (OpCh.mapEntry Try.underlying35 Try.underlying3 Try.zero4 him6 rfl rfl) (by rintro _ _ ⟨st, rfl, him, htw⟩; exact ⟨htw.2 _ hnx1, htw.2 _ hnx2⟩) ?_
    rintro _ H7 ⟨st7, rfl, him7, htw7⟩
    have hS7 : H7[z.bg]? = H6[z.bg]? ∧ H7[z.gb]? = H6[z.gb]? := ⟨htw7.2 _ hnx1, htw7.2 _ hnx2⟩
    refine AF.take 11 rfl (by kernel_rfl) (by kernel_rfl) (by kernel_rfl) hS7 (fun H9 hS9 => OpOk.extract rfl rfl) ?_
    refine AF.one 12 (by kernel_rfl) (AF.next0 12 rfl (OpCh.entryStore him7 rfl rfl rfl) (by rintro _ _ ⟨him, htw⟩; exact ⟨(htw.2 _ hnx1).trans hS7.1, (htw.2 _ hnx2).trans hS7.2⟩) ?_)
    rintro _ H8 ⟨him8, htw8⟩
    have hS8 : H8[z.bg]? = H6[z.bg]? ∧ H8[z.gb]? = H6[z.gb]? := ⟨(htw8.2 _ hnx1).trans hS7.1, (htw8.2 _ hnx2).trans hS7.2⟩
    rw [upM_ins] at him8
    have htw78 : Tw rx H6 H8 := ⟨htw8.1.trans htw7.1, fun k hk => (htw8.2 k hk).trans (htw7.2 k hk)⟩
    have hms8 := hms6.setM hxn hrx hBx hcx ⟨_, him8, hl6.up ha⟩ htw78
    obtain ⟨ra', hra', _, La, hma, hla⟩ := hms8.row a ha hca1
    obtain rfl : ra = ra' := by rw [hra] at hra'; injection hra'
    refine AF.chg 13 rfl (by kernel_rfl) (OpCh.mapEntry Try.underlying35 Try.underlying3 Try.zero4 hma rfl rfl) (by rintro _ _ ⟨st, rfl, him, htw⟩; exact ⟨(htw.2 _ hna1).trans hS8.1, (htw.2 _ hna2).trans hS8.2⟩) ?_
    rintro _ H9 ⟨st9, rfl, him9, htw9⟩
    have hS9 : H9[z.bg]? = H6[z.bg]? ∧ H9[z.gb]? = H6[z.gb]? := ⟨(htw9.2 _ hna1).trans hS8.1, (htw9.2 _ hna2).trans hS8.2⟩
    refine AF.take 14 rfl (by kernel_rfl) (by kernel_rfl) (by kernel_rfl) hS9 (fun H9 hS9 => OpOk.extract rfl rfl) ?_
    refine AF.one 15 (by kernel_rfl) (AF.next0 15 rfl (OpCh.entryStore him9 rfl rfl rfl) (by rintro _ _ ⟨him, htw⟩; exact ⟨(htw.2 _ hna1).trans hS9.1, (htw.2 _ hna2).trans hS9.2⟩) ?_)
    rintro _ H10 ⟨him10, htw10⟩
    rw [upM_ins] at him10
    have htw90 : Tw ra H8 H10 := ⟨htw10.1.trans htw9.1, fun k hk => (htw10.2 k hk).trans (htw9.2 k hk)⟩
    have hms10 := hms8.setM ha hra hBa hca1 ⟨_, him10, hla.up hxn⟩ htw90
    refine AF.done (by kernel_rfl) ?_
    refine PF.blockNormal ?_
    refine PF.again (vis ++ [(x : Int)]) ⟨?_, hms10.congr ?_, ?_, ?_, ?_⟩ ⟨rfl, rfl, rfl, rfl, trivial⟩ ?_
    · have t1 : ∀ b9, b9 ≠ rx → b9 ≠ ra → H10[b9]? = H5[b9]? := fun b9 h1 h2 => ((htw90.2 b9 h2).trans (htw78.2 b9 h1)).trans (htw6.2 b9 h1)
      exact hit5.of (t1 it (by omega) (by omega)) (t1 rb hrxb.symm hrab.symm)
    · intro i y hi hy hc
      have e0 : ¬ a = x := fun h9 => hxa h9.symm
      simp only [gV, List.mem_append, List.mem_singleton]
      by_cases e1 : i = a
      · subst e1; simp only [if_true, if_neg e0]; by_cases e2 : y = x
        · subst e2; simp
        · have e3 : ¬ (y : Int) = x := by omega
          simp [e2, e3]
      · by_cases e2 : i = x
        · subst e2; simp [e1, hnv]
        · have e3 : ¬ (i : Int) = x := by omega
          simp [e1, e2, e3]
    · have t2 : ∀ b9, b9 < B → H10[b9]? = H5[b9]? := fun b9 h1 => ((htw90.2 b9 (by omega)).trans (htw78.2 b9 (by omega))).trans (htw6.2 b9 (by omega))
      exact hkp4.trans ⟨by rw [htw90.1, htw78.1, htw6.1, htw.1]; exact Nat.le_refl _, fun b9 h9 => (t2 b9 h9).trans (htw.2 b9 (by have := hBH b9 h9; omega))⟩
    · rw [htw90.1, htw78.1, htw6.1, htw.1]; exact hsz4
    · rw [htw90.1, htw78.1, htw6.1, htw.1]; exact hil
    · have := hit5.len; simp only [List.length_append, List.length_singleton] at this ⊢; omega
  · refine CF.exit ?_
    refine PF.thenExit ?_
    refine PF.thenExit ?_
    refine PF.blockHere ?_
    refine PF.next ?_
    obtain ⟨hall, h9⟩ := hfin hc1
    obtain rfl : H4 = H5 := h9.symm
    refine CF.region ?_
    refine LF.step (OpOk.load Try.one46 rfl rfl (hms4.hg.cell (i := 0) (by omega))) ?_
    refine LF.step (OpOk.move rfl) ?_
    refine LF.step (OpOk.idx (i := b) Try.underlying46 Try.sz35 (hms4.sg hn) rfl rfl rfl hb) ?_
    refine LF.chg0 (OpCh.store (b := z.gb) (i := 0 + b) Try.sz35 rfl rfl rfl hms4.rg (by omega)) ?_
    rintro _ _ rfl
    have hms9 := hms4.setN (b := b) (by simp only [if_true]; omega)
    refine LF.nil ?_
    have hiff : ∀ y, y < n → ((y : Int) ∈ vis ↔ g b y = true) := by
      intro y hy
      constructor
      · intro h9
        obtain ⟨⟨k8, v8⟩, hp9, hp8⟩ := List.mem_map.1 (hit.sub _ h9)
        simp only at hp8
        subst hp8
        obtain ⟨b9, h1, h2, h3⟩ := hlb.mem hnb hp9
        have h4 : y = b9 := by omega
        subst h4; exact h3
      · intro h9; exact hall _ (hlb.key hy h9)
    exact PF.end0 rfl ⟨_, hms9.congr (fun i y hi hy hc => by simp only [gV, jg, hiff y hy, hiff i hi]; by_cases e1 : i = a <;> simp [e1]), hkp4.setc hms4.ord.2.1⟩

end Go.Proofs.Ytkhphpobccnodaa
