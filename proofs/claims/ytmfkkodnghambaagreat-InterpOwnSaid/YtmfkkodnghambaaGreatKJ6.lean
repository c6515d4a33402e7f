/- Lemmas that the claim is made of. Conditions: each lemma names its own. -/
import Derived.Test.YtmfkkodnghambaaGreatKJ5
set_option linter.unusedSectionVars false
set_option linter.unusedSimpArgs false
set_option linter.unusedVariables false
namespace Go.Proofs.YtmfkkodnghambaaGreat
open Go.JE
set_option maxRecDepth 4000 in
theorem m3targ_ct {vs vb al : Value} {m : Mk} {nb c : Nat} {S : List Int} {g0 : Nat} (hok : okS nb c S m) (hc : c ≤ 900000) (n : Int) (hn9 : 1 ≤ n ∧ n ≤ 9) : KD Tryz.prog 62 [.int .i64 n] [] g0 vs vb al S (rL (rL (rI .i64))) ((targM n m).1) m ((targM n m).2) := by
 refine jenter (args := [.pointer (some ⟨g0,0,none⟩),.int .i64 n]) Tryz.func62 rfl rfl rfl fun w0 X => ?_
 have bd0 := okM.bnd hok.1
 refine jq (jr (ja Z (jn (jx (jq (jr (jm Z (jmk (m := (Int.toNat n)) (r := rV) U125 I22 Z Z Z (by omega) (by omega) (by omega) (wV Z) Z fun g13 => jrn (r := (rI .i64)) (T := 3) (Int.toNat n) (ja Z (jn ?_))))))))))
 refine jx (jq (jq (jr (ja Z (jn (jx (jb ?_)))))))
 refine jlp (u4 fun (k : Nat) (vs1 : List Value) (ls : List (List Int)) (mm : Mk) => ⟨1 ≤ k ∧ (k : Int) ≤ n ∧ vs1.length = n.toNat ∧ ls.length = n.toNat ∧ (∀ j,(ls.getD j []).length ≤ k) ∧ tgA (n.toNat - 1) 1 (List.replicate n.toNat []) m = tgA (n.toNat - k) k ls mm ∧ okS nb (c + 2 * k) S mm,[dv (rL (rI .i64)) vs S],[rw' X.n (rI .i64) 3 vs1 ls,gl X.n rV 22 (.slice (some ⟨g13,0,none⟩) (Int.toNat n) (Int.toNat n)) vs1,bx g0 108 [vs,.int .i64 mm.k,.int .i64 mm.par,vb,.int .i64 mm.nx,al]],[(0,.pointer (some ⟨g0,0,none⟩)),(1,.int .i64 n),(4,.slice none 0 0),(5,(.slice (some ⟨g13,0,none⟩) (Int.toNat n) (Int.toNat n))),(6,.int .i64 (↑k))],n.toNat - k⟩) (1,List.replicate (Int.toNat n) (.slice none 0 0),List.replicate (Int.toNat n) [],m) ⟨by omega,by omega,by simp,by simp,rows_rep,rfl,hok.mono (by omega)⟩ (dc d0 dn) (kd (kc k0 kn)) ⟨Z,Z,Z,Z,eqI (by omega),trivial⟩ ?_
 rintro ⟨k,vs1,ls,mm⟩; dsimp only [u4]; rintro ⟨hk1,hk2,hvl,hll,hrw,hR,okL1⟩
 have bdL1 := okM.bnd okL1.1
 clear bd0
 refine jq (jq (jr (jm Z (jm Z (js (jlss Z Z) (jn (jx ?_)))))))
 refine jif Z (fun hc1 => ?_) (fun hc1 => ?_)
 refine jsk (jx (jq (jb (jq (jr (jm Z (js (jsub Z Z (by omega)) (ja Z (jn (jx (jq ?_)))))))))))
 refine jq (jr (jm Z (jka E47 Z Z (m3take_ct okL1 (by omega) 3 (by first | decide | omega)) (dc d0 dn) k2 ⟨tO9 okL1.1,okL1.2⟩ fun m22 hm22 om22 bm22 => ?_)))
 have w22_0 : IntKind.i64.wrap (tVV 3 mm) = tVV 3 mm := (IntWalk.i64_in _ (by have h9 := @tV9 3 (by omega) mm; omega))
 have tr22 := @tV9 3 (by omega) mm
 clear bdL1
 refine js (jeql Z Z) (jn (jx ?_))
 refine jif Z (fun hc2 => ?_) (fun hc2 => ?_)
 refine jr (jm Z (jm Z (jka E47 Z Z (m3take_ct om22 (by omega) ↑k (by first | decide | omega)) (dc d0 dn) k0 ⟨tO9 om22.1,om22.2⟩ fun m26 hm26 om26 bm26 => ?_)))
 have w26_0 : IntKind.i64.wrap (tVV ↑k m22) = tVV ↑k m22 := (IntWalk.i64_in _ (by have h9 := @tV9 ↑k (by omega) m22; omega))
 have tr26 := @tV9 ↑k (by omega) m22
 clear bm22
 refine ja Z (jn (jx (jr (jm Z (jm Z (jm Z (jm Z (js (jig (i := (Int.toNat (tVV ↑k m22))) U125 Z22 k2 Z Z (by omega) (by omega)) (js (jgW k2 (by omega) O22 Z) (jm Z ?_))))))))))
 have hz := hrw (Int.toNat (tVV ↑k m22))
 refine jro (Int.toNat (tVV ↑k m22)) k1 (by omega) (by omega) (jgo k0 fun w2 => japv U22 I3 (by decide) Z Z k0 Z (wI (wp (IntWalk.i64_in _ (by omega)))) (by omega) (fun _ => Z) fun v35 _ w3 => js (jig (i := (Int.toNat (tVV ↑k m22))) U125 Z22 k3 Z Z (by omega) (by omega)) (jsg k3 Z Z22 Z Z w3.one (by omega) (wV w3.one) (jru k1 k1 (by omega) (by omega) (jn (jbn (jx (jr (jm Z (js (jadd Z Z (by omega)) ?_)))))))))
 refine ja Z (jn ?_)
 exact jag (k + 1,List.set vs1 (Int.toNat (tVV ((k : Nat) : Int) m22)) v35,List.set ls (Int.toNat (tVV ((k : Nat) : Int) m22)) ((List.getD ls (Int.toNat (tVV ((k : Nat) : Int) m22)) []) ++ [((k : Nat) : Int)]),m26) ⟨by dsimp only; omega,by dsimp only; omega,by simp [hvl],by simp [hll],rows_set hrw _ _,by dsimp only; rw [hR,show n.toNat - k = (n.toNat - (k + 1)) + 1 by omega,tgA]; (first | rw [if_pos ‹_›] | rw [if_neg ‹_›]); (try simp only [hm22,hm26]); rfl,om26.mono (by omega)⟩ (dc d0 dn) (kd (kc k0 kn)) ⟨Z,Z,Z,Z,eqI (by omega),trivial⟩
 refine jsk (jx (jr (jm Z (jm Z (jm Z (jm Z (js (jig (i := (Int.toNat (↑k - 1))) U125 Z22 k2 Z Z (by omega) (by omega)) (js (jgW k2 (by omega) O22 Z) (jm Z ?_)))))))))
 have hz := hrw (Int.toNat (↑k - 1))
 refine jro (Int.toNat (↑k - 1)) k1 (by omega) (by omega) (jgo k0 fun w5 => japv U22 I3 (by decide) Z Z k0 Z (wI (wp (IntWalk.i64_in _ (by omega)))) (by omega) (fun _ => Z) fun v35_6 _ w7 => js (jig (i := (Int.toNat (↑k - 1))) U125 Z22 k3 Z Z (by omega) (by omega)) (jsg k3 Z Z22 Z Z w7.one (by omega) (wV w7.one) (jru k1 k1 (by omega) (by omega) (jn (jbn (jx (jr (jm Z (js (jadd Z Z (by omega)) ?_)))))))))
 refine ja Z (jn ?_)
 exact jag (k + 1,List.set vs1 (Int.toNat (((k : Nat) : Int) - 1)) v35_6,List.set ls (Int.toNat (((k : Nat) : Int) - 1)) ((List.getD ls (Int.toNat (((k : Nat) : Int) - 1)) []) ++ [((k : Nat) : Int)]),m22) ⟨by dsimp only; omega,by dsimp only; omega,by simp [hvl],by simp [hll],rows_set hrw _ _,by dsimp only; rw [hR,show n.toNat - k = (n.toNat - (k + 1)) + 1 by omega,tgA]; (first | rw [if_pos ‹_›] | rw [if_neg ‹_›]); (try simp only [hm22]); rfl,om22.mono (by omega)⟩ (dc d0 dn) (kd (kc k0 kn)) ⟨Z,Z,Z,Z,eqI (by omega),trivial⟩
 have hA1 : targA n m = (ls,mm) := by rw [targA,hR,show n.toNat - k = 0 by omega]; rfl
 refine jex (jtx (jtx (jbh (jx (jq (jq (jr (ja Z (jn (jx (jb ?_)))))))))))
 refine jlp (u4 fun (b : Nat) (vs2 : List Value) (lt : List (List Int)) (mn : Mk) => ⟨(b : Int) ≤ n ∧ vs2.length = n.toNat ∧ lt.length = n.toNat ∧ (∀ j,(lt.getD j []).length ≤ 10 + 2 * b) ∧ tgB n n.toNat 0 ls mm = tgB n (n.toNat - b) b lt mn ∧ okS nb (c + 20 + 5 * b) S mn,[dv (rL (rI .i64)) vs S],[rw' X.n (rI .i64) 3 vs2 lt,gl X.n rV 22 (.slice (some ⟨g13,0,none⟩) (Int.toNat n) (Int.toNat n)) vs2,bx g0 108 [vs,.int .i64 mn.k,.int .i64 mn.par,vb,.int .i64 mn.nx,al]],[(0,.pointer (some ⟨g0,0,none⟩)),(1,.int .i64 n),(4,.slice none 0 0),(5,(.slice (some ⟨g13,0,none⟩) (Int.toNat n) (Int.toNat n))),(8,.int .i64 (↑b))],n.toNat - b⟩) (0,vs1,ls,mm) ⟨by omega,hvl,hll,rows_mono hrw (by omega),rfl,okL1.mono (by omega)⟩ (dc d0 dn) (kd (kc k0 kn)) ⟨Z,Z,Z,Z,eqI (by omega),trivial⟩ ?_
 rintro ⟨b,vs2,lt,mn⟩; dsimp only [u4]; rintro ⟨hb1,hvl2,hll2,hrw2,hR2,okL2⟩
 have bdL2 := okM.bnd okL2.1
 clear bdL1
 refine jq (jq (jr (jm Z (jm Z (js (jlss Z Z) (jn (jx ?_)))))))
 refine jif Z (fun hc3 => ?_) (fun hc3 => ?_)
 refine jsk (jx (jq (jb (jq (jr (jm Z (jka E47 Z Z (m3take_ct okL2 (by omega) 6 (by first | decide | omega)) (dc d0 dn) k2 ⟨tO9 okL2.1,okL2.2⟩ fun m43 hm43 om43 bm43 => ?_)))))))
 have w43_0 : IntKind.i64.wrap (tVV 6 mn) = tVV 6 mn := (IntWalk.i64_in _ (by have h9 := @tV9 6 (by omega) mn; omega))
 have tr43 := @tV9 6 (by omega) mn
 clear bdL2
 refine ja Z (jn (jx (jq (jr (ja Z (jn (jx (jb ?_))))))))
 refine jlp (u4 fun (i : Nat) (vs3 : List Value) (lu : List (List Int)) (mo : Mk) => ⟨i ≤ (if 1 < n then (tVV 6 mn - 3).toNat else 0) ∧ vs3.length = n.toNat ∧ lu.length = n.toNat ∧ (∀ j,(lu.getD j []).length ≤ 10 + 2 * b + i) ∧ tgI n b (if 1 < n then (tVV 6 mn - 3).toNat else 0) lt m43 = tgI n b ((if 1 < n then (tVV 6 mn - 3).toNat else 0) - i) lu mo ∧ okS nb (c + 20 + 5 * b + 1 + 2 * i) S mo,[dv (rL (rI .i64)) vs S],[bx g0 108 [vs,.int .i64 mo.k,.int .i64 mo.par,vb,.int .i64 mo.nx,al],rw' X.n (rI .i64) 3 vs3 lu,gl X.n rV 22 (.slice (some ⟨g13,0,none⟩) (Int.toNat n) (Int.toNat n)) vs3],[(0,.pointer (some ⟨g0,0,none⟩)),(1,.int .i64 n),(4,.slice none 0 0),(5,(.slice (some ⟨g13,0,none⟩) (Int.toNat n) (Int.toNat n))),(8,.int .i64 (↑b)),(9,.int .i64 (tVV 6 mn)),(10,.int .i64 (↑i))],(if 1 < n then (tVV 6 mn - 3).toNat else 0) - i⟩) (0,vs2,lt,m43) ⟨Nat.zero_le _,hvl2,hll2,rows_mono hrw2 (by omega),rfl,om43.mono (by omega)⟩ (dc d0 dn) (kd (kc k0 kn)) ⟨Z,Z,Z,Z,Z,Z,eqI (by omega),trivial⟩ ?_
 rintro ⟨i,vs3,lu,mo⟩; dsimp only [u4]; rintro ⟨hi1,hvl3,hll3,hrw3,hR3,okL3⟩
 have bdL3 := okM.bnd okL3.1
 clear bm43
 refine jq (jq (jr (jm Z (jm Z (js (jsub Z Z (by omega)) (js (jlss Z Z) (jm Z (jg Z Z (.t _) (fun hg => jmv Z) (jg Z Z (.t _) (fun hg => jgtr (evg Z hg) Z) (js (jand Z Z) (jn ?_)))))))))))
 refine jx ?_
 refine jif Z (fun hc4 => ?_) (fun hc4 => ?_)
 refine jsk (jx (jq (jb (jq (jr (jm Z (jm Z (js (jsub Z Z (by omega)) (jka E47 Z Z (m3take_ct okL3 (by omega) (n - 1) (by first | decide | omega)) (dc d0 dn) k0 ⟨tO9 okL3.1,okL3.2⟩ fun m57 hm57 om57 bm57 => ?_)))))))))
 have w57_0 : IntKind.i64.wrap (tVV (n - 1) mo) = tVV (n - 1) mo := (IntWalk.i64_in _ (by have h9 := @tV9 (n - 1) (by omega) mo; omega))
 have tr57 := @tV9 (n - 1) (by omega) mo
 clear bdL3
 refine js (jadd Z Z (by omega)) (ja Z (jn (jx (jq (jq (jr (jm Z (jm Z (js (jleq Z Z) (jm Z (jg Z Z (.t _) (fun hg => jmv Z) ?_)))))))))))
 refine jkga Z Z (.t _) E47 Z (fun hg => evl2 (evg Z hg) Z) (m3take_ct om57 (by omega) 2 (by first | decide | omega)) (dc d0 dn) k0 (by split; exact ⟨tO9 om57.1,om57.2⟩; exact om57.mono (by omega)) fun m64 hm64 om64 bm64 => ?_
 have w64_0 : IntKind.i64.wrap (tVV 2 m57) = tVV 2 m57 := (IntWalk.i64_in _ (by have h9 := @tV9 2 (by omega) m57; omega))
 have tr64 := @tV9 2 (by omega) m57
 clear bm57
 refine jg Z Z (.t _) (fun hg => jeql (evg Z hg) Z) (js (jand Z Z) (jn (jx ?_)))
 refine jif Z (fun hc5 => ?_) (fun hc5 => ?_)
 refine jr (jm Z (js (jadd Z Z (by omega)) (jm Z (js (jsub Z Z (by omega)) (js (jmin Z Z) (ja Z (jn (jx (jr (jm Z (jm Z ?_)))))))))))
 refine jm Z (jm Z (js (jig U125 Z22 k2 Z Z Z (by omega)) (js (jgW k2 (by omega) O22 Z) (jm Z ?_))))
 have hX : tgX n ((b : Nat) : Int) mo = (min (((b : Nat) : Int) + 1) (n - 1),m64) := by
   try simp only [hm57,hm64] at hc5
   simp only [hm57,hm64]
   by_cases hA : 1 + tVV (n - 1) mo ≤ (b : Int) <;> by_cases hB : tVV 2 (tSS mo) = 0 <;> simp [hA,hB] at hc5 <;> simp [tgX,hA,hB]
 have hz := hrw3 b
 refine jro b k1 (by omega) (by omega) (jgo k0 fun w9 => japv U22 I3 (by decide) Z Z k0 Z (wI (wp (IntWalk.i64_in _ (by omega)))) (by omega) (fun _ => Z) fun v80 _ w10 => js (jig U125 Z22 k3 Z Z Z (by omega)) (jsg k3 Z Z22 Z Z w10.one (by omega) (wV w10.one) (jru k1 k1 (by omega) (by omega) (jn (jbn (jx (jr (jm Z (js (jadd Z Z (by omega)) ?_)))))))))
 refine ja Z (jn ?_)
 exact jag (i + 1,List.set vs3 b v80,List.set lu b ((List.getD lu b []) ++ [min (((b : Nat) : Int) + 1) (n - 1)]),m64) ⟨by dsimp only; split <;> omega,by simp [hvl3],by simp [hll3],rows_set hrw3 _ _,by dsimp only; rw [hR3,show (if 1 < n then (tVV 6 mn - 3).toNat else 0) - i = ((if 1 < n then (tVV 6 mn - 3).toNat else 0) - (i + 1)) + 1 by split <;> omega,tgI,hX]; (first | done | rfl),om64.mono (by omega)⟩ (dc d0 dn) (kc k2 (kd kn)) ⟨Z,Z,Z,Z,Z,Z,eqI (by omega),trivial⟩ (by dsimp only; split <;> omega)
 refine jsk (jx (jr (jm Z (jm Z (jm Z (jm Z (js (jig U125 Z22 k2 Z Z Z (by omega)) (js (jgW k2 (by omega) O22 Z) (jm Z ?_)))))))))
 have hX : tgX n ((b : Nat) : Int) mo = (1 + (tVV (n - 1) mo),m64) := by
   try simp only [hm57,hm64] at hc5
   simp only [hm57,hm64]
   by_cases hA : 1 + tVV (n - 1) mo ≤ (b : Int) <;> by_cases hB : tVV 2 (tSS mo) = 0 <;> simp [hA,hB] at hc5 <;> simp [tgX,hA,hB]
 have hz := hrw3 b
 refine jro b k1 (by omega) (by omega) (jgo k0 fun w12 => japv U22 I3 (by decide) Z Z k0 Z (wI (wp (IntWalk.i64_in _ (by omega)))) (by omega) (fun _ => Z) fun v80_13 _ w14 => js (jig U125 Z22 k3 Z Z Z (by omega)) (jsg k3 Z Z22 Z Z w14.one (by omega) (wV w14.one) (jru k1 k1 (by omega) (by omega) (jn (jbn (jx (jr (jm Z (js (jadd Z Z (by omega)) ?_)))))))))
 refine ja Z (jn ?_)
 exact jag (i + 1,List.set vs3 b v80_13,List.set lu b ((List.getD lu b []) ++ [1 + (tVV (n - 1) mo)]),m64) ⟨by dsimp only; split <;> omega,by simp [hvl3],by simp [hll3],rows_set hrw3 _ _,by dsimp only; rw [hR3,show (if 1 < n then (tVV 6 mn - 3).toNat else 0) - i = ((if 1 < n then (tVV 6 mn - 3).toNat else 0) - (i + 1)) + 1 by split <;> omega,tgI,hX]; (first | done | rfl),om64.mono (by omega)⟩ (dc d0 dn) (kc k2 (kd kn)) ⟨Z,Z,Z,Z,Z,Z,eqI (by omega),trivial⟩ (by dsimp only; split <;> omega)
 have hI : tgI n ↑b (if 1 < n then (tVV 6 mn - 3).toNat else 0) lt (tSS mn) = (lu,mo) := by rw [← hm43,hR3,show (if 1 < n then (tVV 6 mn - 3).toNat else 0) - i = 0 by split <;> omega]; rfl
 have hJ9 : (if 1 < n then (tVV 6 mn - 3).toNat else 0) ≤ 2 := by have h6 := tV9 (n := 6) (by omega) mn; split <;> omega
 refine jex (jtx (jtx (jbh (jbn (jx (jr (jm Z (js (jadd Z Z (by omega)) (ja Z (jn ?_))))))))))
 exact jag (b + 1,vs3,lu,mo) ⟨by dsimp only; omega,hvl3,hll3,rows_mono hrw3 (by omega),by dsimp only; rw [hR2,show n.toNat - b = (n.toNat - (b + 1)) + 1 by omega,tgB,hI]; rfl,okL3.mono (by omega)⟩ (dc d0 dn) (kc k1 (kc k1 (kc k0 kn))) ⟨Z,Z,Z,Z,eqI (by omega),trivial⟩
 have hT : targM n m = (lt,mn) := by rw [targM,hA1]; dsimp only; rw [hR2,show n.toNat - b = 0 by omega]; rfl
 refine jex (jtx (jtx (jbh (jx (jq (jr (jm Z (ja Z (jn (jx (jrt ?_)))))))))))
 have hv0 : (targM n m).1 = lt := (by rw [hT])
 have hst : mn = (targM n m).2 := (by rw [hT])
 refine qfr k1 k0 (by omega) (by omega) (fun l9 h9 => by obtain ⟨j,hj,rfl⟩ := List.getElem_of_mem h9; have := hrw2 j; simp [List.getD,hj] at this; omega) ?_
 exact jr1 Z Z (.slice (some ⟨g13,0,none⟩) (Int.toNat n) (Int.toNat n)) Z (dc (dcast hv0 d0) dn) (fun _ _ => (kcb (by rw [← hst]) k0 kn))
def predsT3 (bs : List D.Block) : Nat → Int → List Int
 | 0,_ => []
 | k + 1,b => predsT3 bs k b ++ (if (ix bs k).Term.To.any (fun y => decide (y = b)) then [(k : Int)] else [])
def pd3 (f : D.Func) (b : Int) : List Int := predsT3 f.Blocks f.Blocks.length b
theorem predsT3_len (bs : List D.Block) (b : Int) : ∀ k,(predsT3 bs k b).length ≤ k
 | 0 => by simp [predsT3]
 | k + 1 => by have := predsT3_len bs b k; rw [predsT3,List.length_append]; split <;> simp <;> omega
theorem none_any {α : Type} {l : List α} {q : α → Bool} (h : ∀ x ∈ l,q x = false) : l.any q = false := by simpa [List.any_eq_false] using h
theorem none_snoc {α : Type} [Inhabited α] {l : List α} {q : α → Bool} {k : Nat} (hk : k < l.length) (h : ∀ x ∈ l.take k,q x = false) (h1 : q (ix l k) = false) : ∀ x ∈ l.take (k + 1),q x = false := by
 rw [take_ix hk]; intro x hx; rcases List.mem_append.1 hx with hx | hx
 · exact h x hx
 · simp at hx; subst hx; exact h1
theorem any_at {α : Type} [Inhabited α] {l : List α} {q : α → Bool} {k : Nat} (hk : k < l.length) (h1 : q (ix l k) = true) : l.any q = true := List.any_eq_true.2 ⟨_,ix_mem hk,h1⟩
def cnt3 (l : List Bool) : Nat := l.countP (fun x => !x)
theorem cnt3_set {l : List Bool} {i : Nat} (hi : i < l.length) (h : ix l i = false) : cnt3 (l.set i true) + 1 = cnt3 l := by
 unfold cnt3
 have h2 : l[i] = false := by rw [← ix_eq hi]; exact h
 rw [List.countP_set hi]
 have : 0 < l.countP (fun x => !x) := List.countP_pos_iff.2 ⟨_,List.getElem_mem hi,by simp [h2]⟩
 simp [h2]; omega
theorem cnt3_rep (n : Nat) : cnt3 (List.replicate n false) = n := by simp [cnt3,List.countP_replicate]
theorem ix_rep (n i : Nat) : ix (List.replicate n false) i = false := by by_cases h : i < n <;> simp [ix,h]
def b3In (w : Int) : List Bool → List Int → List Int → List Bool × List Int
 | se,q,[] => (se,q)
 | se,q,t :: ts => if (0 ≤ t ∧ t < se.length) ∧ ix se t.toNat = false ∧ t ≠ w then b3In w (se.set t.toNat true) (q ++ [t]) ts else b3In w se q ts
def b3 (bs : List D.Block) (w : Int) : Nat → List Bool → List Int → Nat → List Bool
 | 0,se,_,_ => se
 | f + 1,se,q,i => if i < q.length then b3 bs w f (b3In w se q (ix bs (ix q i).toNat).Term.To).1 (b3In w se q (ix bs (ix q i).toNat).Term.To).2 (i + 1) else se
def reach3 (f : D.Func) (w : Int) : List Bool :=
 if w ≠ 0 ∧ 0 < f.Blocks.length then b3 f.Blocks w f.Blocks.length ((List.replicate f.Blocks.length false).set 0 true) [0] 0
 else List.replicate f.Blocks.length false
theorem b3_step {bs : List D.Block} {w : Int} {f i : Nat} {se se2 : List Bool} {q q2 : List Int} (hf : 0 < f) (hi : i < q.length) (h : b3In w se q (ix bs (ix q i).toNat).Term.To = (se2,q2)) : b3 bs w f se q i = b3 bs w (f - 1) se2 q2 (i + 1) := by
 cases f with
 | zero => omega
 | succ f => rw [b3,if_pos hi,h]; rfl
theorem b3_end {bs : List D.Block} {w : Int} {f i : Nat} {se : List Bool} {q : List Int} (hi : q.length ≤ i) : b3 bs w f se q i = se := by
 cases f with
 | zero => rfl
 | succ f => rw [b3,if_neg (by omega)]
theorem b3_nil {bs : List D.Block} {w : Int} {f : Nat} {se : List Bool} : b3 bs w f se [] 0 = se := b3_end (by simp)
theorem b3In_new {w : Int} {se se0 : List Bool} {q q0 T : List Int} {j : Nat} (hj : j < T.length) (hIn : b3In w se q (T.drop j) = b3In w se0 q0 T) (h : (0 ≤ ix T j ∧ ix T j < se.length) ∧ ix se (ix T j).toNat = false ∧ ix T j ≠ w) : b3In w (se.set (ix T j).toNat true) (q ++ [ix T j]) (T.drop (j + 1)) = b3In w se0 q0 T := by
 rw [← hIn,drop_ix hj,b3In,if_pos h]
theorem b3In_old {w : Int} {se se0 : List Bool} {q q0 T : List Int} {j : Nat} (hj : j < T.length) (hIn : b3In w se q (T.drop j) = b3In w se0 q0 T) (h : ¬ ((0 ≤ ix T j ∧ ix T j < se.length) ∧ ix se (ix T j).toNat = false ∧ ix T j ≠ w)) : b3In w se q (T.drop (j + 1)) = b3In w se0 q0 T := by
 rw [← hIn,drop_ix hj,b3In,if_neg h]
theorem b3In_len {w : Int} : ∀ (T : List Int) (se : List Bool) (q : List Int),(b3In w se q T).1.length = se.length
 | [],_,_ => rfl
 | t :: ts,se,q => by rw [b3In]; split; (· rw [b3In_len ts]; simp); exact b3In_len ts se q
theorem b3_len {bs : List D.Block} {w : Int} : ∀ (f : Nat) (se : List Bool) (q : List Int) (i : Nat),(b3 bs w f se q i).length = se.length
 | 0,_,_,_ => rfl
 | f + 1,se,q,i => by rw [b3]; split; (· rw [b3_len f,b3In_len]); rfl
theorem reach3_len (f : D.Func) (w : Int) : (reach3 f w).length = f.Blocks.length := by unfold reach3; split; (· rw [b3_len]; simp); simp
def phT (b : Int) (i : Nat) (p : D.Phi) : D.Tg3 := ⟨b,-1 - i,[p.Dst],p.In.map (·.Val)⟩
def phL (b : Int) : Nat → List D.Phi → List D.Tg3
 | _,[] => []
 | i,p :: l => phT b i p :: phL b (i + 1) l
def inT (b : Int) (i : Nat) (x : D.Ins) : D.Tg3 := ⟨b,i,makes3 x,x.Args⟩
def inL (b : Int) : Nat → List D.Ins → List D.Tg3
 | _,[] => []
 | i,x :: l => inT b i x :: inL b (i + 1) l
def enT (b : Int) (x : D.Block) : D.Tg3 := ⟨b,(x.Ins.length : Nat),[],x.Term.Args⟩
def blL : Nat → List D.Block → List D.Tg3
 | _,[] => []
 | b,x :: l => phL b 0 x.Phis ++ (inL b 0 x.Ins ++ (enT b x :: blL (b + 1) l))
def things3 (f : D.Func) : List D.Tg3 := blL 0 f.Blocks
theorem phL_len (b : Int) : ∀ (l : List D.Phi) (i : Nat),(phL b i l).length = l.length
 | [],_ => rfl
 | _ :: l,i => by simp [phL,phL_len b l]
theorem inL_len (b : Int) : ∀ (l : List D.Ins) (i : Nat),(inL b i l).length = l.length
 | [],_ => rfl
 | _ :: l,i => by simp [inL,inL_len b l]
theorem blL_len : ∀ (l : List D.Block) (b : Nat),(blL b l).length = cntT l
 | [],_ => rfl
 | x :: l,b => by simp [blL,cntT,phL_len,inL_len,blL_len l]; omega
theorem pre_len {α : Type} {a b c : List α} (h : a = b ++ c) : b.length ≤ a.length := by rw [h]; simp
theorem bl_0 {a out : List D.Tg3} {l : List D.Block} {k : Nat} (hk : k < l.length) (h : a = out ++ blL k (l.drop k)) : a = out ++ (phL k 0 ((ix l k).Phis.drop 0) ++ (inL k 0 (ix l k).Ins ++ (enT k (ix l k) :: blL (k + 1) (l.drop (k + 1))))) := by rw [h,drop_ix hk,blL]; rfl
theorem ph_1 {a out r : List D.Tg3} {b : Int} {l : List D.Phi} {i : Nat} (hi : i < l.length) (h : a = out ++ (phL b i (l.drop i) ++ r)) : a = (out ++ [phT b i (ix l i)]) ++ (phL b (i + 1) (l.drop (i + 1)) ++ r) := by rw [h,drop_ix hi,phL]; simp
theorem ph_2 {a out r : List D.Tg3} {b : Int} {l : List D.Phi} {i : Nat} (hi : l.length ≤ i) (h : a = out ++ (phL b i (l.drop i) ++ r)) : a = out ++ r := by rw [h,List.drop_of_length_le hi]; rfl
theorem in_1 {a out r : List D.Tg3} {b : Int} {l : List D.Ins} {i : Nat} (hi : i < l.length) (h : a = out ++ (inL b i (l.drop i) ++ r)) : a = (out ++ [inT b i (ix l i)]) ++ (inL b (i + 1) (l.drop (i + 1)) ++ r) := by rw [h,drop_ix hi,inL]; simp
theorem in_2 {a out r : List D.Tg3} {b : Int} {l : List D.Ins} {i : Nat} (hi : l.length ≤ i) (h : a = out ++ (inL b i (l.drop i) ++ r)) : a = out ++ r := by rw [h,List.drop_of_length_le hi]; rfl
theorem bl_1 {a out r : List D.Tg3} {x : D.Tg3} (h : a = out ++ (x :: r)) : a = (out ++ [x]) ++ r := by rw [h]; simp
theorem map_snoc {α β : Type} [Inhabited α] {g : α → β} {l : List α} {k : Nat} (hk : k < l.length) : (l.take (k + 1)).map g = (l.take k).map g ++ [g (ix l k)] := by rw [take_ix hk]; simp
def stands3 (f : D.Func) (b : Int) (t : D.Tg3) : Bool := decide (t.Block = b) || !(ix (reach3 f t.Block) b.toNat)
def standL (f : D.Func) (b : Int) (l : List D.Tg3) : List Int := l.flatMap (fun t => if stands3 f b t then t.Makes else [])
def numsL (n : Nat) : List Int := (List.range n).map (fun (i : Nat) => (i : Int))
def stand3 (f : D.Func) (b : Int) : List Int := numsL f.Params.toNat ++ standL f b (things3 f)
theorem numsL_s (n : Nat) : numsL (n + 1) = numsL n ++ [(n : Int)] := by simp [numsL,List.range_succ]
theorem numsL_len (n : Nat) : (numsL n).length = n := by simp [numsL]
theorem standL_s {f : D.Func} {b : Int} {l : List D.Tg3} {k : Nat} (hk : k < l.length) : standL f b (l.take (k + 1)) = standL f b (l.take k) ++ (if stands3 f b (ix l k) then (ix l k).Makes else []) := by
 rw [take_ix hk]; simp [standL]
theorem makes_in {b : Int} : ∀ {l : List D.Ins} {i : Nat} {t : D.Tg3},t ∈ inL b i l → t.Makes.length ≤ 2
 | [],_,_,h => by cases h
 | x :: l,i,t,h => by
   rcases List.mem_cons.1 h with h | h
   · subst h; exact makes3_len x
   · exact makes_in h
theorem makes_ph {b : Int} : ∀ {l : List D.Phi} {i : Nat} {t : D.Tg3},t ∈ phL b i l → t.Makes.length ≤ 2
 | [],_,_,h => by cases h
 | x :: l,i,t,h => by
   rcases List.mem_cons.1 h with h | h
   · subst h; simp [phT]
   · exact makes_ph h
theorem makes_bl : ∀ {l : List D.Block} {b : Nat} {t : D.Tg3},t ∈ blL b l → t.Makes.length ≤ 2
 | [],_,_,h => by cases h
 | x :: l,b,t,h => by
   rw [blL] at h
   rcases List.mem_append.1 h with h | h
   · exact makes_ph h
   · rcases List.mem_append.1 h with h | h
     · exact makes_in h
     · rcases List.mem_cons.1 h with h | h
       · subst h; simp [enT]
       · exact makes_bl h
theorem standL_len {f : D.Func} {b : Int} : ∀ {l : List D.Tg3},(∀ t ∈ l,t.Makes.length ≤ 2) → (standL f b l).length ≤ 2 * l.length
 | [],_ => by simp [standL]
 | x :: l,h => by
   have h1 := standL_len (f := f) (b := b) (l := l) (fun t ht => h t (List.mem_cons_of_mem _ ht))
   have h2 := h x (List.mem_cons_self)
   unfold standL at *
   rw [List.flatMap_cons,List.length_append,List.length_cons]
   split
   · omega
   · simp only [List.length_nil]; omega
theorem things3_len (f : D.Func) : (things3 f).length = cntT f.Blocks := blL_len _ _
theorem things3_mk (f : D.Func) : ∀ t ∈ things3 f,t.Makes.length ≤ 2 := fun _ h => makes_bl h
theorem okM0 (s : List Int) : okM 0 0 ⟨s,0,0,[],0,[]⟩ := by simp [okM,cntT]
def wordsL : Nat → List Int → Mk → List Int × Mk
 | 0,l,m => (l,m)
 | n + 1,l,m => wordsL n (l ++ [wordV m]) (wordS m)
theorem words_1 {n i : Nat} {a l : List Int} {m0 m : Mk} (hi : i < n) (h : wordsL n a m0 = wordsL (n - i) l m) : wordsL n a m0 = wordsL (n - (i + 1)) (l ++ [wordV m]) (wordS m) := by
 rw [h,show n - i = (n - (i + 1)) + 1 by omega]; rfl
theorem words_2 {n i : Nat} {a l : List Int} {m0 m : Mk} (hi : n ≤ i) (h : wordsL n a m0 = wordsL (n - i) l m) : wordsL n a m0 = (l,m) := by
 rw [h,show n - i = 0 by omega]; rfl
def input3 (s : List Int) : D.Input :=
 let a := wordsL 4 [] ⟨s,0,0,[],0,[]⟩
 let b := wordsL (4 + tVV 13 a.2).toNat [] (tSS a.2)
 let c := wordsL (tVV 7 b.2).toNat [] (tSS b.2)
 ⟨a.1,b.1,c.1,300⟩
theorem r3preds_ct {a0 : Value} {f : D.Func} (block : Int) : Tg Tryz.prog 63 #[vFunc f a0,.int .i64 block] [da rFunc (vFunc f a0) f] [] (rI .i64) 3 (pd3 f block) := by
 refine jenter (args := [vFunc f a0,.int .i64 block]) Tryz.func63 rfl rfl rfl fun w0 X => ?_
 refine jq (jr (jbox Z Z fun g2 => ja Z (jn (jx (jq (jr (jlit (r := (rI .i64)) (l := []) U22 I3 (by decide) Z Z Z ln fun g9 => ja Z (jn (jx ?_)))))))))
 refine jq (jq (jr (ja Z (jn (jx (jb ?_))))))
 refine jlp (u3 fun (k : Nat) (vo : Value) (lo : List Int) => ⟨k ≤ f.Blocks.length ∧ lo = predsT3 f.Blocks k block,[da rFunc (vFunc f a0) f],[gl X.n (rI .i64) 3 vo lo,bx g2 49 [.int .i64 f.Params,a0]],[(1,.int .i64 block),(2,.pointer (some ⟨g2,0,none⟩)),(4,.slice none 0 0),(5,vo),(6,.int .i64 (↑k))],f.Blocks.length - k⟩) (0,(.slice (some ⟨g9,0,none⟩) 0 0),[]) ⟨by dsimp only; omega,rfl⟩ (dc d0 dn) (kd kn) ⟨Z,Z,Z,Z,eqI (by omega),trivial⟩ ?_
 rintro ⟨k,vo,lo⟩; dsimp only [u3]; rintro ⟨hk,hlo⟩
 refine cgo k0 fun w1 => ?_
 have hll : lo.length ≤ k := by rw [hlo]; exact predsT3_len _ _ _
 refine jq (jq (jr (jm Z (js (jf F49_1 Z) (js (jl k1 O47 Z Z) (jdq (rFunc.cB d0) fun q2 w2 => js (jln U47 (rFunc.cB d0) Z) (js (jlss Z Z) (jn (jx ?_)))))))))
 refine jif Z (fun hc1 => ?_) (fun hc1 => ?_)
 refine jsk (jx (jq (jb (jq (jr (js (jf F49_1 Z) (js (jl k1 O47 Z Z) (jm Z (js (jix U47 Z62 (rFunc.cB d0) Z Z Z (by omega)) (js (jf F62_2 Z) (js (jf F60_2 Z) ?_)))))))))))
 refine jev (jlV (rTerm.A_To (rBlock.A_Term (dix (rFunc.cB d0) k (by omega)))) O22 Z Z) fun v23 q3 w3 => ja Z (jn (jx (jq (jr (ja Z (jn (jx (jb ?_))))))))
 refine jlp (fun (j : Nat) => ⟨j ≤ (ix f.Blocks k).Term.To.length ∧ (∀ x ∈ (ix f.Blocks k).Term.To.take j,decide (x = block) = false),[dv (rL (rI .i64)) v23 (((ix f.Blocks k).Term).To),da rFunc (vFunc f a0) f],[gl X.n (rI .i64) 3 vo lo,bx g2 49 [.int .i64 f.Params,a0]],[(1,.int .i64 block),(2,.pointer (some ⟨g2,0,none⟩)),(4,.slice none 0 0),(5,vo),(6,.int .i64 (↑k)),(7,v23),(8,.int .i64 (↑j))],(ix f.Blocks k).Term.To.length - j⟩) 0 ⟨Nat.zero_le _,by simp⟩ (dc d0 (dc d1 dn)) (kd kn) ⟨Z,Z,Z,Z,Z,Z,eqI (by omega),trivial⟩ ?_
 rintro j; dsimp only; rintro ⟨hj,hno⟩
 refine jq (jq (jr (jm Z (jm Z (js (jln U22 d0 Z) (js (jlss Z Z) (jn (jx ?_))))))))
 refine jif Z (fun hc2 => ?_) (fun hc2 => ?_)
 refine jsk (jx (jq (jb (jq (jr (jm Z (jm Z (js (jix U22 Z3 d0 Z Z Z (by omega)) (js (jlI (dix d0 j (by omega)) O3 Z) (jm Z (js (jeql Z Z) ?_)))))))))))
 refine jn (jx ?_)
 refine jif Z (fun hc3 => ?_) (fun hc3 => ?_)
 refine jq (jr (jm Z (jm Z (japv U22 I3 (by decide) Z Z k0 Z (wI (wp (IntWalk.i64_in _ (by omega)))) (by omega) (fun _ => Z) fun v39 _ w5 => ja Z (jn (jx (jex (jbo (jtx (jtx ?_))))))))))
 refine jbh (jbn (jx (jr (jm Z (js (jadd Z Z (by omega)) (ja Z (jn ?_)))))))
 exact jag (k + 1,v39,lo ++ [((k : Nat) : Int)]) ⟨by dsimp only; omega,by dsimp only; rw [predsT3,any_at (k := j) (by omega) (by simpa using hc3),hlo]; simp⟩ (dc d1 dn) (kd kn) ⟨Z,Z,Z,Z,eqI (by omega),trivial⟩
 refine jsk (jbn (jx (jr (jm Z (js (jadd Z Z (by omega)) (ja Z (jn ?_)))))))
 exact jag (j + 1) ⟨by omega,none_snoc (by omega) hno (by simpa using hc3)⟩ (dc d0 (dc d1 dn)) (kd kn) ⟨Z,Z,Z,Z,Z,Z,eqI (by omega),trivial⟩
 refine jex (jtx (jtx (jbh (jbn (jx (jr (jm Z (js (jadd Z Z (by omega)) (ja Z (jn ?_))))))))))
 exact jag (k + 1,vo,lo) ⟨by dsimp only; omega,by dsimp only; rw [predsT3,none_any (l := (ix f.Blocks k).Term.To) (by have h9 := hno; rw [List.take_of_length_le (by omega)] at h9; exact h9),hlo]; simp⟩ (dc d1 dn) (kd kn) ⟨Z,Z,Z,Z,eqI (by omega),trivial⟩
 refine jex (jtx (jtx (jbh (jx (jq (jr (jm Z (ja Z (jn (jx (jrt ?_)))))))))))
 exact jrG Z Z (by have e9 : k = f.Blocks.length := (by omega); subst e9; exact hlo.symm) k0
set_option maxRecDepth 4000 in
theorem r3reach_ct {a0 : Value} {f : D.Func} (without : Int) : Tg Tryz.prog 65 #[vFunc f a0,.int .i64 without] [da rFunc (vFunc f a0) f] [] rB 4 (reach3 f without) := by
 refine jenter (args := [vFunc f a0,.int .i64 without]) Tryz.func65 rfl rfl rfl fun w0 X => ?_
 refine jq (jr (jbox Z Z fun g2 => ja Z (jn (jx (jq (jr (js (jf F49_1 Z) (js (jl k0 O47 Z Z) (jdq (rFunc.cB d0) fun q1 w1 => js (jln U47 (rFunc.cB d0) Z) ?_)))))))))
 refine jmk (m := (List.length f.Blocks)) (r := rB) U129 I4 Z Z Z Z Z (by omega) wB Z fun g13 => ja Z (jn (jx (jq (jr (jlit (r := (rI .i64)) (l := []) U22 I3 (by decide) Z Z Z ln fun g14 => ja Z (jn (jx (jq (jq ?_)))))))))
 refine jr (jm Z (js (jneq Z Z) (jm Z (jg Z Z (.t _) (fun hg => jf F49_1 Z) (jg Z Z (.t _) (fun hg => jl k2 O47 (evg Z hg) Z) (jg Z Z (.t _) (fun hg => jln U47 (rFunc.cB d0) (evg Z hg)) (jg Z Z (.t _) (fun hg => jgtr (evg Z hg) Z) (js (jand Z Z) (jn (jx ?_))))))))))
 refine jif Z (fun hc1 => ?_) (fun hc1 => ?_)
 refine jq (jr (jm Z (js (jig (i := 0) U129 Z4 k1 Z Z Z (by rw [lrep]; omega)) (jsg k1 Z Z4 Z Z Z (by rw [lrep]; omega) wB (jn (jx (jr (jm Z (japvz U22 I3 (by decide) Z Z k1 Z (wI (wl 0)) (fun _ => Z) fun v27 _ w2 => ja Z (jn ?_))))))))))
 refine jx (jq (jq (jr (ja Z (jn (jx (jb ?_)))))))
 refine jlp (u4 fun (i : Nat) (se : List Bool) (l : List Int) (vl : Value) => ⟨reach3 f without = b3 f.Blocks without (f.Blocks.length - i) se l i ∧ cnt3 se + l.length ≤ f.Blocks.length ∧ i ≤ l.length ∧ se.length = f.Blocks.length ∧ (∀ x ∈ l,0 ≤ x ∧ x < f.Blocks.length),[da rFunc (vFunc f a0) f],[gl X.n (rI .i64) 3 vl l,gl X.n rB 4 (.slice (some ⟨g13,0,none⟩) (List.length f.Blocks) (List.length f.Blocks)) se,bx g2 49 [.int .i64 f.Params,a0]],[(1,.int .i64 without),(2,.pointer (some ⟨g2,0,none⟩)),(4,.slice none 0 0),(5,(.slice (some ⟨g13,0,none⟩) (List.length f.Blocks) (List.length f.Blocks))),(6,vl),(7,.int .i64 (↑i))],f.Blocks.length - i⟩) (0,List.set (List.replicate (List.length f.Blocks) false) 0 true,[0],v27) ⟨by first | (unfold reach3; rw [if_pos (by omega)]; rfl) | (unfold reach3; rw [if_neg (by omega)]; exact b3_nil.symm),by dsimp only; first | (rw [cnt3_rep]; simp; done) | (have h9 := cnt3_set (l := List.replicate f.Blocks.length false) (i := 0) (by simp; omega) (ix_rep _ _); rw [cnt3_rep] at h9; simp only [List.length_cons,List.length_nil]; omega),by simp,by simp,by first | (simp; done) | (simp; omega)⟩ (dc d0 dn) (kd (kc k0 kn)) ⟨Z,Z,Z,Z,Z,eqI (by omega),trivial⟩ ?_
 rintro ⟨i,se,l,vl⟩; dsimp only [u4]; rintro ⟨hb,hcn,hil,hse,hq⟩
 refine cgo k0 fun w3 => jq (jq (jr (jm Z (jm Z (js (jlg U22 k0 Z) (js (jlss Z Z) (jn (jx ?_))))))))
 refine jif Z (fun hc2 => ?_) (fun hc2 => ?_)
 have hqi := hq _ (ix_mem (l := l) (i := i) (by omega))
 refine jsk (jx (jq (jb (jq (jstl Mixed (by kernel_rfl) (jt (jf F49_1 Z) (jt (jl k2 O47 Z Z) (jt (jmv Z) (jt (jmv Z) (jt (jig U22 Z3 k0 Z Z Z (by omega)) (jt (jgI k0 (by omega) O3 Z) ?_)))))))))))
 refine jt (jix (i := (Int.toNat (ix l i))) U47 Z62 (rFunc.cB d0) Z Z (by omega) (by omega)) (jt (jf F62_2 Z) (jt (jf F60_2 Z) (jtv (jlV (rTerm.A_To (rBlock.A_Term (dix (rFunc.cB d0) (Int.toNat (ix l i)) (by omega)))) O22 Z Z) fun v43 q4 w4 => jt (jas Z) (jdn (jx (jq (jr (ja Z (jn (jx ?_))))))))))
 refine jb ?_
 refine jlp (u4 fun (j : Nat) (se2 : List Bool) (l2 : List Int) (vl2 : Value) => ⟨j ≤ (ix f.Blocks (Int.toNat (ix l i))).Term.To.length ∧ b3In without se2 l2 ((ix f.Blocks (Int.toNat (ix l i))).Term.To.drop j) = b3In without se l (ix f.Blocks (Int.toNat (ix l i))).Term.To ∧ cnt3 se2 + l2.length ≤ f.Blocks.length ∧ se2.length = f.Blocks.length ∧ (∀ x ∈ l2,0 ≤ x ∧ x < f.Blocks.length) ∧ i < l2.length,[dv (rL (rI .i64)) v43 (((ix f.Blocks (Int.toNat (ix l i))).Term).To),da rFunc (vFunc f a0) f],[gl X.n (rI .i64) 3 vl2 l2,gl X.n rB 4 (.slice (some ⟨g13,0,none⟩) (List.length f.Blocks) (List.length f.Blocks)) se2,bx g2 49 [.int .i64 f.Params,a0]],[(1,.int .i64 without),(2,.pointer (some ⟨g2,0,none⟩)),(4,.slice none 0 0),(5,(.slice (some ⟨g13,0,none⟩) (List.length f.Blocks) (List.length f.Blocks))),(6,vl2),(7,.int .i64 (↑i)),(8,v43),(9,.int .i64 (↑j))],(ix f.Blocks (Int.toNat (ix l i))).Term.To.length - j⟩) (0,se,l,vl) ⟨Nat.zero_le _,rfl,hcn,hse,hq,by dsimp only; omega⟩ (dc d0 (dc d1 dn)) (kd (kc k0 kn)) ⟨Z,Z,Z,Z,Z,Z,Z,eqI (by omega),trivial⟩ ?_
 rintro ⟨j,se2,l2,vl2⟩; dsimp only [u4]; rintro ⟨hj,hIn,hcn2,hse2,hq2,hi2⟩
 refine cgo k0 fun w6 => jq (jq (jr (jm Z (jm Z (js (jln U22 d0 Z) (js (jlss Z Z) (jn (jx ?_))))))))
 refine jif Z (fun hc3 => ?_) (fun hc3 => ?_)
 refine jsk (jx (jq (jb (jq (jr (jm Z (jm Z (js (jix U22 Z3 d0 Z Z Z (by omega)) (js (jlI (dix d0 j (by omega)) O3 Z) (js (jgeq Z Z) (jm Z ?_)))))))))))
 refine jg Z Z (.t _) (fun hg => jmv Z) (jg Z Z (.t _) (fun hg => jmv Z) (jg Z Z (.t _) (fun hg => jix U22 Z3 d0 (evg Z hg) (evg Z hg) Z (by first | omega | (simp at hg; omega) | (simp only [List.length_set]; omega) | (simp; done))) (jg Z Z (.t _) (fun hg => jlI (dix d0 j (by first | omega | (simp at hg; omega) | (simp only [List.length_set]; omega) | (simp; done))) O3 (evg Z hg)) (jg Z Z (.t _) (fun hg => jmv Z) (jg Z Z (.t _) (fun hg => jlg U129 k1 (evg Z hg)) (jg Z Z (.t _) (fun hg => jlss (evg Z hg) (evg Z hg)) (js (jand Z Z) (jm Z (jg Z Z (.t _) (fun hg => jmv Z) (jg Z Z (.t _) (fun hg => jmv Z) (jg Z Z (.t _) (fun hg => jmv Z) ?_)))))))))))
 refine jg Z Z (.t _) (fun hg => jix U22 Z3 d0 (evg Z hg) (evg Z hg) Z (by first | omega | (simp at hg; omega) | (simp only [List.length_set]; omega) | (simp; done))) (jg Z Z (.t _) (fun hg => jlI (dix d0 j (by first | omega | (simp at hg; omega) | (simp only [List.length_set]; omega) | (simp; done))) O3 (evg Z hg)) (jg Z Z (.t _) (fun hg => jig (i := (Int.toNat (ix (((ix f.Blocks (Int.toNat (ix l i))).Term).To) j))) U129 Z4 k1 (evg Z hg) (evg Z hg) (by first | omega | (simp at hg; omega)) (by first | omega | (simp at hg; omega) | (simp only [List.length_set]; omega) | (simp; done))) (jg Z Z (.t _) (fun hg => jgB k1 (by first | omega | (simp at hg; omega) | (simp only [List.length_set]; omega) | (simp; done)) O4 (evg Z hg)) (jg Z Z (.t _) (fun hg => jnot (evg Z hg)) (js (jand Z Z) (jm Z (jg Z Z (.t _) (fun hg => jmv Z) (jg Z Z (.t _) (fun hg => jmv Z) (jg Z Z (.t _) (fun hg => jix U22 Z3 d0 (evg Z hg) (evg Z hg) Z (by first | omega | (simp at hg; omega) | (simp only [List.length_set]; omega) | (simp; done))) (jg Z Z (.t _) (fun hg => jlI (dix d0 j (by first | omega | (simp at hg; omega) | (simp only [List.length_set]; omega) | (simp; done))) O3 (evg Z hg)) (jg Z Z (.t _) (fun hg => jmv Z) ?_)))))))))))
 refine jg Z Z (.t _) (fun hg => jneq (evg Z hg) (evg Z hg)) (js (jand Z Z) (jn (jx ?_)))
 refine jif Z (fun hc4 => ?_) (fun hc4 => ?_)
 have hcx : ((0 ≤ ix (ix f.Blocks (Int.toNat (ix l i))).Term.To j ∧ ix (ix f.Blocks (Int.toNat (ix l i))).Term.To j < se2.length) ∧ ix se2 (Int.toNat (ix (ix f.Blocks (Int.toNat (ix l i))).Term.To j)) = false ∧ ix (ix f.Blocks (Int.toNat (ix l i))).Term.To j ≠ without) := by simpa [and_assoc] using hc4
 refine jq (jr (jm Z (jm Z (jm Z (js (jix U22 Z3 d0 Z Z Z (by omega)) (js (jlI (dix d0 j (by omega)) O3 Z) (js (jig (i := (Int.toNat (ix (((ix f.Blocks (Int.toNat (ix l i))).Term).To) j))) U129 Z4 k1 Z Z (by omega) (by omega)) (jsg k1 Z Z4 Z Z Z (by omega) wB (jn (jx (jr ?_)))))))))))
 refine jm Z (jm Z (jm Z (js (jix U22 Z3 d0 Z Z Z (by omega)) (js (jlI (dix d0 j (by omega)) O3 Z) (japv U22 I3 (by decide) Z Z k1 Z (wI (wad (dix d0 j (by omega)))) (by omega) (fun _ => Z) fun v94 _ w7 => ja Z (jn (jbn (jx (jr (jm Z ?_))))))))))
 refine js (jadd Z Z (by omega)) (ja Z (jn ?_))
 exact jag (j + 1,List.set se2 (Int.toNat (ix (((ix f.Blocks (Int.toNat (ix l i))).Term).To) j)) true,l2 ++ [ix (((ix f.Blocks (Int.toNat (ix l i))).Term).To) j],v94) ⟨by dsimp only; omega,b3In_new (by omega) hIn hcx,by dsimp only; have h9 := cnt3_set (l := se2) (i := Int.toNat (ix (ix f.Blocks (Int.toNat (ix l i))).Term.To j)) (by omega) hcx.2.1; rw [List.length_append]; simp; omega,by dsimp only; rw [List.length_set]; exact hse2,by dsimp only; intro x hx9; rcases List.mem_append.1 hx9 with h9 | h9; (· exact hq2 x h9); (simp at h9; subst h9; omega),by dsimp only; rw [List.length_append]; omega⟩ (dc d0 (dc d1 dn)) (kd (kc k0 kn)) ⟨Z,Z,Z,Z,Z,Z,Z,eqI (by omega),trivial⟩
 have hcx : ¬ ((0 ≤ ix (ix f.Blocks (Int.toNat (ix l i))).Term.To j ∧ ix (ix f.Blocks (Int.toNat (ix l i))).Term.To j < se2.length) ∧ ix se2 (Int.toNat (ix (ix f.Blocks (Int.toNat (ix l i))).Term.To j)) = false ∧ ix (ix f.Blocks (Int.toNat (ix l i))).Term.To j ≠ without) := by rintro ⟨⟨a1,a2⟩,a3,a4⟩; simp [a3,a4] at hc4; omega
 refine jsk (jbn (jx (jr (jm Z (js (jadd Z Z (by omega)) (ja Z (jn ?_)))))))
 exact jag (j + 1,se2,l2,vl2) ⟨by dsimp only; omega,b3In_old (by omega) hIn hcx,hcn2,hse2,hq2,hi2⟩ (dc d0 (dc d1 dn)) (kd (kc k0 kn)) ⟨Z,Z,Z,Z,Z,Z,Z,eqI (by omega),trivial⟩
 refine jex (jtx (jtx (jbh (jbn (jx (jr (jm Z (js (jadd Z Z (by omega)) (ja Z (jn ?_))))))))))
 exact jag (i + 1,se2,l2,vl2) ⟨by dsimp only; rw [hb,b3_step (by omega) (by omega) (show b3In _ _ _ _ = (se2,l2) by rw [← hIn,List.drop_of_length_le (by omega)]; rfl),show f.Blocks.length - i - 1 = f.Blocks.length - (i + 1) by omega],by dsimp only; omega,by dsimp only; omega,hse2,hq2⟩ (dc d1 dn) (kd (kc k0 kn)) ⟨Z,Z,Z,Z,Z,eqI (by omega),trivial⟩
 refine jex (jtx (jtx (jbh (jx (jq (jr (jm Z (ja Z (jn (jx (jrt ?_)))))))))))
 exact jrG Z Z (by rw [hb]; exact b3_end (by omega)) k1
 refine jsk (jx (jq (jq (jr (ja Z (jn (jx (jb ?_))))))))
 refine jlp (u4 fun (i : Nat) (se : List Bool) (l : List Int) (vl : Value) => ⟨reach3 f without = b3 f.Blocks without (f.Blocks.length - i) se l i ∧ cnt3 se + l.length ≤ f.Blocks.length ∧ i ≤ l.length ∧ se.length = f.Blocks.length ∧ (∀ x ∈ l,0 ≤ x ∧ x < f.Blocks.length),[da rFunc (vFunc f a0) f],[gl X.n (rI .i64) 3 vl l,gl X.n rB 4 (.slice (some ⟨g13,0,none⟩) (List.length f.Blocks) (List.length f.Blocks)) se,bx g2 49 [.int .i64 f.Params,a0]],[(1,.int .i64 without),(2,.pointer (some ⟨g2,0,none⟩)),(4,.slice none 0 0),(5,(.slice (some ⟨g13,0,none⟩) (List.length f.Blocks) (List.length f.Blocks))),(6,vl),(7,.int .i64 (↑i))],f.Blocks.length - i⟩) (0,List.replicate (List.length f.Blocks) false,[],(.slice (some ⟨g14,0,none⟩) 0 0)) ⟨by first | (unfold reach3; rw [if_pos (by omega)]; rfl) | (unfold reach3; rw [if_neg (by omega)]; exact b3_nil.symm),by dsimp only; first | (rw [cnt3_rep]; simp; done) | (have h9 := cnt3_set (l := List.replicate f.Blocks.length false) (i := 0) (by simp; omega) (ix_rep _ _); rw [cnt3_rep] at h9; simp only [List.length_cons,List.length_nil]; omega),by simp,by simp,by first | (simp; done) | (simp; omega)⟩ (dc d0 dn) (kd (kc k0 kn)) ⟨Z,Z,Z,Z,Z,eqI (by omega),trivial⟩ ?_
 rintro ⟨i,se,l,vl⟩; dsimp only [u4]; rintro ⟨hb,hcn,hil,hse,hq⟩
 refine cgo k0 fun w8 => jq (jq (jr (jm Z (jm Z (js (jlg U22 k0 Z) (js (jlss Z Z) (jn (jx ?_))))))))
 refine jif Z (fun hc5 => ?_) (fun hc5 => ?_)
 have hqi := hq _ (ix_mem (l := l) (i := i) (by omega))
 refine jsk (jx (jq (jb (jq (jstl Mixed (by kernel_rfl) (jt (jf F49_1 Z) (jt (jl k2 O47 Z Z) (jt (jmv Z) (jt (jmv Z) (jt (jig U22 Z3 k0 Z Z Z (by omega)) (jt (jgI k0 (by omega) O3 Z) ?_)))))))))))
 refine jt (jix (i := (Int.toNat (ix l i))) U47 Z62 (rFunc.cB d0) Z Z (by omega) (by omega)) (jt (jf F62_2 Z) (jt (jf F60_2 Z) (jtv (jlV (rTerm.A_To (rBlock.A_Term (dix (rFunc.cB d0) (Int.toNat (ix l i)) (by omega)))) O22 Z Z) fun v43_9 q10 w10 => jt (jas Z) (jdn (jx (jq (jr (ja Z (jn (jx ?_))))))))))
 refine jb ?_
 refine jlp (u4 fun (j : Nat) (se2 : List Bool) (l2 : List Int) (vl2 : Value) => ⟨j ≤ (ix f.Blocks (Int.toNat (ix l i))).Term.To.length ∧ b3In without se2 l2 ((ix f.Blocks (Int.toNat (ix l i))).Term.To.drop j) = b3In without se l (ix f.Blocks (Int.toNat (ix l i))).Term.To ∧ cnt3 se2 + l2.length ≤ f.Blocks.length ∧ se2.length = f.Blocks.length ∧ (∀ x ∈ l2,0 ≤ x ∧ x < f.Blocks.length) ∧ i < l2.length,[dv (rL (rI .i64)) v43_9 (((ix f.Blocks (Int.toNat (ix l i))).Term).To),da rFunc (vFunc f a0) f],[gl X.n (rI .i64) 3 vl2 l2,gl X.n rB 4 (.slice (some ⟨g13,0,none⟩) (List.length f.Blocks) (List.length f.Blocks)) se2,bx g2 49 [.int .i64 f.Params,a0]],[(1,.int .i64 without),(2,.pointer (some ⟨g2,0,none⟩)),(4,.slice none 0 0),(5,(.slice (some ⟨g13,0,none⟩) (List.length f.Blocks) (List.length f.Blocks))),(6,vl2),(7,.int .i64 (↑i)),(8,v43_9),(9,.int .i64 (↑j))],(ix f.Blocks (Int.toNat (ix l i))).Term.To.length - j⟩) (0,se,l,vl) ⟨Nat.zero_le _,rfl,hcn,hse,hq,by dsimp only; omega⟩ (dc d0 (dc d1 dn)) (kd (kc k0 kn)) ⟨Z,Z,Z,Z,Z,Z,Z,eqI (by omega),trivial⟩ ?_
 rintro ⟨j,se2,l2,vl2⟩; dsimp only [u4]; rintro ⟨hj,hIn,hcn2,hse2,hq2,hi2⟩
 refine cgo k0 fun w12 => jq (jq (jr (jm Z (jm Z (js (jln U22 d0 Z) (js (jlss Z Z) (jn (jx ?_))))))))
 refine jif Z (fun hc6 => ?_) (fun hc6 => ?_)
 refine jsk (jx (jq (jb (jq (jr (jm Z (jm Z (js (jix U22 Z3 d0 Z Z Z (by omega)) (js (jlI (dix d0 j (by omega)) O3 Z) (js (jgeq Z Z) (jm Z ?_)))))))))))
 refine jg Z Z (.t _) (fun hg => jmv Z) (jg Z Z (.t _) (fun hg => jmv Z) (jg Z Z (.t _) (fun hg => jix U22 Z3 d0 (evg Z hg) (evg Z hg) Z (by first | omega | (simp at hg; omega) | (simp only [List.length_set]; omega) | (simp; done))) (jg Z Z (.t _) (fun hg => jlI (dix d0 j (by first | omega | (simp at hg; omega) | (simp only [List.length_set]; omega) | (simp; done))) O3 (evg Z hg)) (jg Z Z (.t _) (fun hg => jmv Z) (jg Z Z (.t _) (fun hg => jlg U129 k1 (evg Z hg)) (jg Z Z (.t _) (fun hg => jlss (evg Z hg) (evg Z hg)) (js (jand Z Z) (jm Z (jg Z Z (.t _) (fun hg => jmv Z) (jg Z Z (.t _) (fun hg => jmv Z) (jg Z Z (.t _) (fun hg => jmv Z) ?_)))))))))))
 refine jg Z Z (.t _) (fun hg => jix U22 Z3 d0 (evg Z hg) (evg Z hg) Z (by first | omega | (simp at hg; omega) | (simp only [List.length_set]; omega) | (simp; done))) (jg Z Z (.t _) (fun hg => jlI (dix d0 j (by first | omega | (simp at hg; omega) | (simp only [List.length_set]; omega) | (simp; done))) O3 (evg Z hg)) (jg Z Z (.t _) (fun hg => jig (i := (Int.toNat (ix (((ix f.Blocks (Int.toNat (ix l i))).Term).To) j))) U129 Z4 k1 (evg Z hg) (evg Z hg) (by first | omega | (simp at hg; omega)) (by first | omega | (simp at hg; omega) | (simp only [List.length_set]; omega) | (simp; done))) (jg Z Z (.t _) (fun hg => jgB k1 (by first | omega | (simp at hg; omega) | (simp only [List.length_set]; omega) | (simp; done)) O4 (evg Z hg)) (jg Z Z (.t _) (fun hg => jnot (evg Z hg)) (js (jand Z Z) (jm Z (jg Z Z (.t _) (fun hg => jmv Z) (jg Z Z (.t _) (fun hg => jmv Z) (jg Z Z (.t _) (fun hg => jix U22 Z3 d0 (evg Z hg) (evg Z hg) Z (by first | omega | (simp at hg; omega) | (simp only [List.length_set]; omega) | (simp; done))) (jg Z Z (.t _) (fun hg => jlI (dix d0 j (by first | omega | (simp at hg; omega) | (simp only [List.length_set]; omega) | (simp; done))) O3 (evg Z hg)) (jg Z Z (.t _) (fun hg => jmv Z) ?_)))))))))))
 refine jg Z Z (.t _) (fun hg => jneq (evg Z hg) (evg Z hg)) (js (jand Z Z) (jn (jx ?_)))
 refine jif Z (fun hc7 => ?_) (fun hc7 => ?_)
 have hcx : ((0 ≤ ix (ix f.Blocks (Int.toNat (ix l i))).Term.To j ∧ ix (ix f.Blocks (Int.toNat (ix l i))).Term.To j < se2.length) ∧ ix se2 (Int.toNat (ix (ix f.Blocks (Int.toNat (ix l i))).Term.To j)) = false ∧ ix (ix f.Blocks (Int.toNat (ix l i))).Term.To j ≠ without) := by simpa [and_assoc] using hc7
 refine jq (jr (jm Z (jm Z (jm Z (js (jix U22 Z3 d0 Z Z Z (by omega)) (js (jlI (dix d0 j (by omega)) O3 Z) (js (jig (i := (Int.toNat (ix (((ix f.Blocks (Int.toNat (ix l i))).Term).To) j))) U129 Z4 k1 Z Z (by omega) (by omega)) (jsg k1 Z Z4 Z Z Z (by omega) wB (jn (jx (jr ?_)))))))))))
 refine jm Z (jm Z (jm Z (js (jix U22 Z3 d0 Z Z Z (by omega)) (js (jlI (dix d0 j (by omega)) O3 Z) (japv U22 I3 (by decide) Z Z k1 Z (wI (wad (dix d0 j (by omega)))) (by omega) (fun _ => Z) fun v94_13 _ w14 => ja Z (jn (jbn (jx (jr (jm Z ?_))))))))))
 refine js (jadd Z Z (by omega)) (ja Z (jn ?_))
 exact jag (j + 1,List.set se2 (Int.toNat (ix (((ix f.Blocks (Int.toNat (ix l i))).Term).To) j)) true,l2 ++ [ix (((ix f.Blocks (Int.toNat (ix l i))).Term).To) j],v94_13) ⟨by dsimp only; omega,b3In_new (by omega) hIn hcx,by dsimp only; have h9 := cnt3_set (l := se2) (i := Int.toNat (ix (ix f.Blocks (Int.toNat (ix l i))).Term.To j)) (by omega) hcx.2.1; rw [List.length_append]; simp; omega,by dsimp only; rw [List.length_set]; exact hse2,by dsimp only; intro x hx9; rcases List.mem_append.1 hx9 with h9 | h9; (· exact hq2 x h9); (simp at h9; subst h9; omega),by dsimp only; rw [List.length_append]; omega⟩ (dc d0 (dc d1 dn)) (kd (kc k0 kn)) ⟨Z,Z,Z,Z,Z,Z,Z,eqI (by omega),trivial⟩
 have hcx : ¬ ((0 ≤ ix (ix f.Blocks (Int.toNat (ix l i))).Term.To j ∧ ix (ix f.Blocks (Int.toNat (ix l i))).Term.To j < se2.length) ∧ ix se2 (Int.toNat (ix (ix f.Blocks (Int.toNat (ix l i))).Term.To j)) = false ∧ ix (ix f.Blocks (Int.toNat (ix l i))).Term.To j ≠ without) := by rintro ⟨⟨a1,a2⟩,a3,a4⟩; simp [a3,a4] at hc7; omega
 refine jsk (jbn (jx (jr (jm Z (js (jadd Z Z (by omega)) (ja Z (jn ?_)))))))
 exact jag (j + 1,se2,l2,vl2) ⟨by dsimp only; omega,b3In_old (by omega) hIn hcx,hcn2,hse2,hq2,hi2⟩ (dc d0 (dc d1 dn)) (kd (kc k0 kn)) ⟨Z,Z,Z,Z,Z,Z,Z,eqI (by omega),trivial⟩
 refine jex (jtx (jtx (jbh (jbn (jx (jr (jm Z (js (jadd Z Z (by omega)) (ja Z (jn ?_))))))))))
 exact jag (i + 1,se2,l2,vl2) ⟨by dsimp only; rw [hb,b3_step (by omega) (by omega) (show b3In _ _ _ _ = (se2,l2) by rw [← hIn,List.drop_of_length_le (by omega)]; rfl),show f.Blocks.length - i - 1 = f.Blocks.length - (i + 1) by omega],by dsimp only; omega,by dsimp only; omega,hse2,hq2⟩ (dc d1 dn) (kd (kc k0 kn)) ⟨Z,Z,Z,Z,Z,eqI (by omega),trivial⟩
 refine jex (jtx (jtx (jbh (jx (jq (jr (jm Z (ja Z (jn (jx (jrt ?_)))))))))))
 exact jrG Z Z (by rw [hb]; exact b3_end (by omega)) k1
abbrev U167 := @Tryz.underlying167
theorem A170 : ∃ d,Tryz.prog.underlying 170 = some d ∧ (match d with | .struct _ | .array _ _ => true | _ => false) = true := ⟨_,Tryz.underlying170,rfl⟩
theorem A62 : ∃ d,Tryz.prog.underlying 62 = some d ∧ (match d with | .struct _ | .array _ _ => true | _ => false) = true := ⟨_,Tryz.underlying62,rfl⟩
theorem F170_3 : Fld Tryz.prog 170 3 3 := ⟨_,_,Tryz.underlying170,rfl,rfl,1,(by unfold Sz; kernel_rfl),by decide⟩
theorem F62_0 : Fld Tryz.prog 62 0 0 := ⟨_,_,Tryz.underlying62,rfl,rfl,1,(by unfold Sz; kernel_rfl),by decide⟩
theorem F67_3 : Fld Tryz.prog 67 3 3 := ⟨_,_,Tryz.underlying67,rfl,rfl,1,(by unfold Sz; kernel_rfl),by decide⟩
theorem I170 : (Tryz.prog.info? 170).map (fun i => (i.zero,i.size,i.bytes)) = some (some (.agg #[.int .i64 0,.int .i64 0,.slice none 0 0,.slice none 0 0]),4,64) := by kernel_rfl
theorem Z170 : Sz Tryz.prog 170 4 := by unfold Sz; kernel_rfl
theorem J170 : (Tryz.prog.info? 170).bind (·.zero) = some (.agg #[.int .i64 0,.int .i64 0,.slice none 0 0,.slice none 0 0]) := by kernel_rfl
theorem J62 : (Tryz.prog.info? 62).bind (·.zero) = some (.agg #[.slice none 0 0,.slice none 0 0,.int .i64 0,.slice none 0 0,.slice none 0 0,.int .i32 0]) := by kernel_rfl
set_option maxRecDepth 8000 in
set_option maxHeartbeats 1000000 in
theorem r3things_ct {a0 : Value} {f : D.Func} (hsz : cntT f.Blocks < 1000000000) : Td Tryz.prog 105 #[vFunc f a0] [da rFunc (vFunc f a0) f] [] (rL rTg3) (things3 f) := by
 refine jenter (args := [vFunc f a0]) Tryz.func105 rfl rfl rfl fun w0 X => ?_
 have htl := things3_len f
 refine jq (jr (jbox Z Z fun g1 => ja Z (jn (jx (jq (jr (jlit (r := rTg3) (l := []) U167 I170 (by decide) Z Z Z ln fun g10 => ja Z (jn (jx ?_)))))))))
 refine jq (jq (jr (ja Z (jn (jx (jb ?_))))))
 refine jlp (u3 fun (k : Nat) (vo : Value) (out : List D.Tg3) => ⟨k ≤ f.Blocks.length ∧ things3 f = out ++ blL k (f.Blocks.drop k),[da rFunc (vFunc f a0) f],[gl X.n rTg3 170 vo out,bx g1 49 [.int .i64 f.Params,a0]],[(1,.pointer (some ⟨g1,0,none⟩)),(2,.slice none 0 0),(3,vo),(4,.int .i64 (↑k))],f.Blocks.length - k⟩) (0,(.slice (some ⟨g10,0,none⟩) 0 0),[]) ⟨Nat.zero_le _,rfl⟩ (dc d0 dn) (kd kn) ⟨Z,Z,Z,eqI (by omega),trivial⟩ ?_
 rintro ⟨k,vo,out⟩; dsimp only [u3]; rintro ⟨hk,hB⟩
 refine cgo k0 fun w1 => ?_
 have hpl1 := pre_len hB
 refine jq (jq (jr (jm Z (js (jf F49_1 Z) (js (jl k1 O47 Z Z) (jdq (rFunc.cB d0) fun q2 w2 => js (jln U47 (rFunc.cB d0) Z) (js (jlss Z Z) (jn (jx ?_)))))))))
 refine jif Z (fun hc1 => ?_) (fun hc1 => ?_)
 refine jsk (jx (jq (jb (jq (jr (js (jf F49_1 Z) (js (jl k1 O47 Z Z) (jm Z (js (jix U47 Z62 (rFunc.cB d0) Z Z Z (by omega)) (jA4 sBlock (jlA (dix (rFunc.cB d0) k (by omega)) A62 Z62 Z) fun c22a c22b c22c c22d => jalc J62 Z fun g5 => ?_))))))))))
 refine jdq (rBlock.cP d0) fun q4 w4 => jdq (rBlock.cI d0) fun q5 w5 => jdq (rBlock.c_Term_Args d0) fun q6 w6 => jdq (rBlock.c_Term_To d0) fun q7 w7 => jsta k0 Z62 Z Z Z ⟨w4.one,w5.one,Z,w6.one,w7.one,Z,trivial⟩ (saf Z) (jn (jx (jq (jq (jr (ja Z (jn ?_)))))))
 refine jx (jb ?_)
 refine jlp (u3 fun (i : Nat) (vp : Value) (out2 : List D.Tg3) => ⟨i ≤ (ix f.Blocks k).Phis.length ∧ things3 f = out2 ++ (phL k i ((ix f.Blocks k).Phis.drop i) ++ (inL k 0 (ix f.Blocks k).Ins ++ (enT k (ix f.Blocks k) :: blL (k + 1) (f.Blocks.drop (k + 1))))),[da rBlock (vBlock (ix f.Blocks k) (c22a,c22b,c22c,c22d)) (ix f.Blocks k),da rFunc (vFunc f a0) f],[bx g5 62 [c22a,c22b,.int .i64 (((ix f.Blocks k).Term).Kind),c22c,c22d,.int .i32 (((ix f.Blocks k).Term).Imm)],gl X.n rTg3 170 vp out2,bx g1 49 [.int .i64 f.Params,a0]],[(1,.pointer (some ⟨g1,0,none⟩)),(2,.slice none 0 0),(3,vp),(4,.int .i64 (↑k)),(5,.pointer (some ⟨g5,0,none⟩)),(6,.int .i64 (↑i))],(ix f.Blocks k).Phis.length - i⟩) (0,vo,out) ⟨Nat.zero_le _,bl_0 (by omega) hB⟩ (dc d0 (dc d1 dn)) (kd (kc k0 kn)) ⟨Z,Z,Z,Z,Z,eqI (by omega),trivial⟩ ?_
 rintro ⟨i,vp,out2⟩; dsimp only [u3]; rintro ⟨hi,hP⟩
 refine cgo k1 fun w8 => ?_
 have hpl2 := pre_len hP
 refine jq (jq (jr (jm Z (js (jf F62_0 Z) (js (jl k0 O57 Z Z) (js (jln U57 (rBlock.cP d0) Z) (js (jlss Z Z) (jn (jx ?_)))))))))
 refine jif Z (fun hc2 => ?_) (fun hc2 => ?_)
 refine jsk (jx (jq (jb (jq (jr (jm Z (jm Z (js (jsub Z Z (by omega)) (js (jf F62_0 Z) (js (jl k0 O57 Z Z) (jm Z ?_)))))))))))
 refine js (jix U57 Z65 (rBlock.cP d0) Z Z Z (by omega)) (js (jf F65_0 Z) (js (jlI (rPhi.A_Dst (dix (rBlock.cP d0) i (by omega))) O3 Z) (jlit (r := (rI .i64)) (l := [(ix ((ix f.Blocks k).Phis) i).Dst]) U22 I3 (by decide) Z Z Z (lV Z Z (wI (wad (rPhi.A_Dst (dix (rBlock.cP d0) i (by omega))))) ln) fun g39 => js (jbu (v := .agg #[.int .i64 (↑k),.int .i64 ((-1) - ↑i),(.slice (some ⟨g39,0,none⟩) 1 1),.slice none 0 0]) Z (fun _ => by kernel_rfl)) (jalc J170 Z fun g7 => jsta k0 Z170 Z Z Z ⟨Z,Z,Z,Z,trivial⟩ (saf Z) (jn (jx (jq (jq (jr ?_)))))))))
 refine ja Z (jn (jx (jb (cnl (r := (rI .i64)) (E := 3) ?_))))
 refine jlp (u3 fun (j : Nat) (ea : List Int) (ve : Value) => ⟨j ≤ (ix (ix f.Blocks k).Phis i).In.length ∧ ea = ((ix (ix f.Blocks k).Phis i).In.take j).map (·.Val),[da rBlock (vBlock (ix f.Blocks k) (c22a,c22b,c22c,c22d)) (ix f.Blocks k),da rFunc (vFunc f a0) f],[gl X.n (rI .i64) 3 ve ea,bx g7 170 [.int .i64 (↑k),.int .i64 ((-1) - ↑i),(.slice (some ⟨g39,0,none⟩) 1 1),ve],gl X.n (rI .i64) 3 (.slice (some ⟨g39,0,none⟩) 1 1) ([(ix ((ix f.Blocks k).Phis) i).Dst]),bx g5 62 [c22a,c22b,.int .i64 (((ix f.Blocks k).Term).Kind),c22c,c22d,.int .i32 (((ix f.Blocks k).Term).Imm)],gl X.n rTg3 170 vp out2,bx g1 49 [.int .i64 f.Params,a0]],[(1,.pointer (some ⟨g1,0,none⟩)),(2,.slice none 0 0),(3,vp),(4,.int .i64 (↑k)),(5,.pointer (some ⟨g5,0,none⟩)),(6,.int .i64 (↑i)),(7,.pointer (some ⟨g7,0,none⟩)),(8,.int .i64 (↑j))],(ix (ix f.Blocks k).Phis i).In.length - j⟩) (0,[],.slice none 0 0) ⟨Nat.zero_le _,rfl⟩ (dc d0 (dc d1 dn)) (kd (kd (kd kn))) ⟨Z,Z,Z,Z,Z,Z,Z,eqI (by omega),trivial⟩ ?_
 rintro ⟨j,ea,ve⟩; dsimp only [u3]; rintro ⟨hj,hea⟩
 refine cgo k0 fun w9 => ?_
 have hel : ea.length = j := by rw [hea]; simp; omega
 refine jq (jq (jr (jm Z (js (jf F62_0 Z) (js (jl k3 O57 Z Z) (jm Z (js (jix U57 Z65 (rBlock.cP d0) Z Z Z (by omega)) (js (jf F65_1 Z) (jev (jlV (rPhi.A_In (dix (rBlock.cP d0) i (by omega))) O63 Z Z) fun v47 q10 w10 => js (jln U63 d0 Z) (js (jlss Z Z) ?_))))))))))
 refine jn (jx ?_)
 refine jif Z (fun hc3 => ?_) (fun hc3 => ?_)
 refine jsk (jx (jq (jb (jany true (.a 0 (.a 1 (.a 2 (.a 3 (.a 4 (.a 5 (.a 6 (.a 7 (.a 8 (.a 9 (.a 10 (.a 11 (.o 12 (.o 13 (.a 14 (.o 15 .e)))))))))))))))) Mixed (by kernel_rfl) (kc k1 (kc k2 kn)) fun F12 => jy Z (jf F170_3 Z) (jy Z (jl k0 O22 Z Z) (jy Z (jf F62_0 Z) (jy Z (jl k1 O57 Z Z) (jy Z (jmv Z) (jy Z (jix U57 Z65 (rBlock.cP d1) Z Z Z (by omega)) (jy Z (jf F65_1 Z) ?_))))))))))
 refine jye (q := fun v => dv (rL rIn) v ((ix ((ix f.Blocks k).Phis) i).In)) Z (xlV (rPhi.A_In (dix (rBlock.cP d1) i (by omega))) O63 Z Z) fun v59 => jy Z (jmv Z) (adq d0 fun q14 w14 => jy Z (jix U63 Z111 d0 Z Z Z (by omega)) (jy Z (jf F111_1 Z) (jy Z (jlI (rIn.A_Val (dix d0 j (by omega))) O3 Z) (jyo Z (jlit (r := (rI .i64)) (l := [(ix ((ix ((ix f.Blocks k).Phis) i).In) j).Val]) U22 I3 (by decide) Z Z Z (lV Z Z (wI (wad (rIn.A_Val (dix d1 j (by omega))))) ln) fun g64 => jyn d0 (kc k2 (kc k3 kn)) (jyo Z (jfz k0 (by (try simp) <;> omega) (japl U22 I3 (by decide) Z k0 Z Z d0 (by (try simp) <;> omega) fun v65 w18 => ?_))))))))
 refine jyn d1 (kc k1 (kc k2 kn)) (jy Z (jf F170_3 Z) (jyo Z (jst k1 Z22 Z Z w18.one s3 (jyz d0 (jyd (jbn (jx (jr (jm Z (js (jadd Z Z (by omega)) (ja Z ?_)))))))))))
 refine jn ?_
 exact jag (j + 1,ea ++ ([(ix ((ix ((ix f.Blocks k).Phis) i).In) j).Val]),v65) ⟨by dsimp only; omega,by dsimp only; rw [hea,map_snoc (by omega)]⟩ (dc d6 (dc d7 dn)) (kc k1 (kd (kd (kc k0 kn)))) ⟨Z,Z,Z,Z,Z,Z,Z,eqI (by omega),trivial⟩
 refine jex (jtx (jtx (jbh (jx (jr (jm Z (js (jla k1 A170 Z170 Z Z Z) (jfz k2 (by (try simp) <;> omega) (jfz k0 (by omega) (jap U167 I170 (by decide) Z k2 Z (rTg3.M (m := ⟨↑k,(-1) - ↑i,[(ix ((ix f.Blocks k).Phis) i).Dst],ea⟩) (c := ((.slice (some ⟨g39,0,none⟩) 1 1),ve)) d1 d0 (wp (IntWalk.i64_in ↑k (by omega))) (wp (IntWalk.i64_in ((-1) - ↑i) (by omega)))) (by omega) (fun _ => Z) fun v70 _ w22 => ja Z ?_))))))))))
 refine jn (jbn (jx (jr (jm Z (js (jadd Z Z (by omega)) (ja Z (jn ?_)))))))
 exact jag (i + 1,v70,out2 ++ [⟨((k : Nat) : Int),(-1) - ((i : Nat) : Int),[(ix ((ix f.Blocks k).Phis) i).Dst],ea⟩]) ⟨by dsimp only; omega,by dsimp only; rw [show ea = (ix (ix f.Blocks k).Phis i).In.map (·.Val) by rw [hea,List.take_of_length_le (by omega)]]; exact ph_1 (by omega) hP⟩ (dc d3 (dc d4 dn)) (kc k2 (kc k0 (kc k1 kn))) ⟨Z,Z,Z,Z,Z,eqI (by omega),trivial⟩
 refine jex (jtx (jtx (jbh (jx (jq (jq (jr (ja Z (jn (jx (jb ?_)))))))))))
 refine jlp (u3 fun (j : Nat) (vq : Value) (out4 : List D.Tg3) => ⟨j ≤ (ix f.Blocks k).Ins.length ∧ things3 f = out4 ++ (inL k j ((ix f.Blocks k).Ins.drop j) ++ (enT k (ix f.Blocks k) :: blL (k + 1) (f.Blocks.drop (k + 1)))),[da rBlock (vBlock (ix f.Blocks k) (c22a,c22b,c22c,c22d)) (ix f.Blocks k),da rFunc (vFunc f a0) f],[bx g5 62 [c22a,c22b,.int .i64 (((ix f.Blocks k).Term).Kind),c22c,c22d,.int .i32 (((ix f.Blocks k).Term).Imm)],gl X.n rTg3 170 vq out4,bx g1 49 [.int .i64 f.Params,a0]],[(1,.pointer (some ⟨g1,0,none⟩)),(2,.slice none 0 0),(3,vq),(4,.int .i64 (↑k)),(5,.pointer (some ⟨g5,0,none⟩)),(9,.int .i64 (↑j))],(ix f.Blocks k).Ins.length - j⟩) (0,vp,out2) ⟨Nat.zero_le _,ph_2 (by omega) hP⟩ (dc d0 (dc d1 dn)) (kd (kc k0 kn)) ⟨Z,Z,Z,Z,Z,eqI (by omega),trivial⟩ ?_
 rintro ⟨j,vq,out4⟩; dsimp only [u3]; rintro ⟨hj,hI⟩
 refine cgo k1 fun w23 => ?_
 have hpl4 := pre_len hI
 refine jq (jq (jr (jm Z (js (jf F62_1 Z) (js (jl k0 O58 Z Z) (js (jln U58 (rBlock.cI d0) Z) (js (jlss Z Z) (jn (jx ?_)))))))))
 refine jif Z (fun hc4 => ?_) (fun hc4 => ?_)
 refine jsk (jx (jq (jb (jany false (.a 0 (.a 1 (.a 2 (.a 3 (.a 4 (.a 5 (.a 6 (.a 7 (.a 9 (.a 10 (.a 11 (.a 12 (.a 13 (.a 14 (.o 8 (.a 15 (.o 16 (.o 17 (.a 18 .e))))))))))))))))))) Mixed (by kernel_rfl) (kc k0 kn) fun F24 => jy Z (jmv Z) (jy Z (jmv Z) (jy Z (jmv Z) (jy Z (jf F62_1 Z) (jy Z (jl k0 O58 Z Z) (jy Z (jmv Z) (jy Z (jix U58 Z67 (rBlock.cI d0) Z Z Z (by omega)) ?_))))))))))
 refine jyA sIns Z (xlA (dix (rBlock.cI d0) j (by omega)) A67 Z67 Z) fun c85 => jy Z (jf F62_1 Z) (jy Z (jl k0 O58 Z Z) (jy Z (jmv Z) (jy Z (jix U58 Z67 (rBlock.cI d1) Z Z Z (by omega)) (jy Z (jf F67_3 Z) (jye (q := fun v => dv (rL (rI .i64)) v ((ix ((ix f.Blocks k).Ins) j).Args)) Z (xlV (rIns.A_Args (dix (rBlock.cI d1) j (by omega))) O22 Z Z) fun v92 => jyo Z (jcd E66 Z Z r3makes_ct (dc d2 dn) kn fun v86 q28 w28 => jyn d1 (kc k0 kn) (adq d2 fun q30 w30 => jy Z (jbu (v := .agg #[.int .i64 (↑k),.int .i64 (↑j),v86,v92]) Z (fun _ => by obtain ⟨_,_,_,rfl⟩ := w28; obtain ⟨_,_,_,rfl⟩ := w30; kernel_rfl)) ?_)))))))
 refine jyo Z (jlit (r := rTg3) (l := [⟨↑k,↑j,makes3 (ix ((ix f.Blocks k).Ins) j),(ix ((ix f.Blocks k).Ins) j).Args⟩]) U167 I170 (by decide) Z Z Z (lA (rTg3.M (m := ⟨↑k,↑j,makes3 (ix ((ix f.Blocks k).Ins) j),(ix ((ix f.Blocks k).Ins) j).Args⟩) (c := (v86,v92)) d1 d3 (wp (IntWalk.i64_in ↑k (by omega))) (wp (IntWalk.i64_in ↑j (by omega)))) ln) fun g94 => jyn d0 (kc k1 kn) (jyo Z (jfz k0 (by (try simp) <;> omega) (japl U167 I170 (by decide) Z k1 Z Z d0 (by (try simp) <;> omega) fun v95 w34 => jyn d1 (kc k1 kn) (jy Z (jas Z) (jyd (jbn (jx (jr ?_)))))))))
 refine jm Z (js (jadd Z Z (by omega)) (ja Z (jn ?_)))
 exact jag (j + 1,v95,out4 ++ ([⟨((k : Nat) : Int),((j : Nat) : Int),makes3 (ix ((ix f.Blocks k).Ins) j),(ix ((ix f.Blocks k).Ins) j).Args⟩])) ⟨by dsimp only; omega,by dsimp only; exact in_1 (by omega) hI⟩ (dc d7 (dc d8 dn)) (kc k1 (kd kn)) ⟨Z,Z,Z,Z,Z,eqI (by omega),trivial⟩
 refine jex (jtx (jtx (jbh (jx (jr (jm Z (jm Z (js (jf F62_1 Z) (js (jl k0 O58 Z Z) (js (jln U58 (rBlock.cI d0) Z) (js (jf F62_2 Z) ?_)))))))))))
 refine js (jf F60_1 Z) (js (jl k0 O22 Z Z) (js (jbu (v := .agg #[.int .i64 (↑k),.int .i64 (↑(List.length ((ix f.Blocks k).Ins))),.slice none 0 0,c22c]) Z (fun _ => by obtain ⟨_,_,_,rfl⟩ := w6; kernel_rfl)) (jap U167 I170 (by decide) Z k1 Z (rTg3.M (m := ⟨↑k,↑(List.length ((ix f.Blocks k).Ins)),[],((ix f.Blocks k).Term).Args⟩) (c := (.slice none 0 0,c22c)) wN (rBlock.c_Term_Args d0) (wp (IntWalk.i64_in ↑k (by omega))) (wp (IntWalk.i64_in (↑(List.length ((ix f.Blocks k).Ins))) (by omega)))) (by omega) (fun _ => Z) fun v106 _ w35 => ja Z (jn (jbn (jx (jr (jm Z (js (jadd Z Z (by omega)) (ja Z ?_))))))))))
 refine jn ?_
 exact jag (k + 1,v106,out4 ++ [⟨((k : Nat) : Int),((List.length ((ix f.Blocks k).Ins) : Nat) : Int),[],((ix f.Blocks k).Term).Args⟩]) ⟨by dsimp only; omega,by dsimp only; exact bl_1 (in_2 (by omega) hI)⟩ (dc d1 dn) (kc k0 (kc k1 kn)) ⟨Z,Z,Z,eqI (by omega),trivial⟩
 refine jex (jtx (jtx (jbh (jx (jq (jr (jm Z (ja Z (jn (jx (jrt ?_)))))))))))
 refine qfz k0 (by omega) ?_
 exact jrD Z Z (by rw [hB,List.drop_of_length_le (by omega)]; simp [blL]) d0
theorem A49 : ∃ d,Tryz.prog.underlying 49 = some d ∧ (match d with | .struct _ | .array _ _ => true | _ => false) = true := ⟨_,Tryz.underlying49,rfl⟩
theorem E105 : Ent Tryz.prog 105 := ⟨_,Tryz.func105,by kernel_rfl,by kernel_rfl⟩
theorem E65 : Ent Tryz.prog 65 := ⟨_,Tryz.func65,by kernel_rfl,by kernel_rfl⟩
theorem F170_0 : Fld Tryz.prog 170 0 0 := ⟨_,_,Tryz.underlying170,rfl,rfl,1,(by unfold Sz; kernel_rfl),by decide⟩
theorem F170_2 : Fld Tryz.prog 170 2 2 := ⟨_,_,Tryz.underlying170,rfl,rfl,1,(by unfold Sz; kernel_rfl),by decide⟩
theorem F49_0 : Fld Tryz.prog 49 0 0 := ⟨_,_,Tryz.underlying49,rfl,rfl,1,(by unfold Sz; kernel_rfl),by decide⟩
theorem Z49 : Sz Tryz.prog 49 2 := by unfold Sz; kernel_rfl
set_option maxRecDepth 8000 in
theorem r3stand_ct {a0 : Value} {f : D.Func} (block : Int) (hb9 : 0 ≤ block ∧ block < f.Blocks.length) (hsz : cntT f.Blocks < 100000000) (hpr : 0 ≤ f.Params ∧ f.Params ≤ 4) : Tg Tryz.prog 69 #[vFunc f a0,.int .i64 block] [da rFunc (vFunc f a0) f] [] (rI .i64) 3 (stand3 f block) := by
 refine jenter (args := [vFunc f a0,.int .i64 block]) Tryz.func69 rfl rfl rfl fun w0 X => ?_
 have htl := things3_len f
 refine jq (jr (jbox Z Z fun g2 => ja Z (jn (jx (jq (jr (jlit (r := (rI .i64)) (l := []) U22 I3 (by decide) Z Z Z ln fun g11 => ja Z (jn (jx ?_)))))))))
 refine jq (jq (jr (ja Z (jn (jx (jb ?_))))))
 refine jlp (u3 fun (i : Nat) (vo : Value) (out : List Int) => ⟨i ≤ f.Params.toNat ∧ out = numsL i,[da rFunc (vFunc f a0) f],[gl X.n (rI .i64) 3 vo out,bx g2 49 [.int .i64 f.Params,a0]],[(1,.int .i64 block),(2,.pointer (some ⟨g2,0,none⟩)),(4,.slice none 0 0),(5,vo),(6,.int .i64 (↑i))],f.Params.toNat - i⟩) (0,(.slice (some ⟨g11,0,none⟩) 0 0),[]) ⟨Nat.zero_le _,rfl⟩ (dc d0 dn) (kd kn) ⟨Z,Z,Z,Z,eqI (by omega),trivial⟩ ?_
 rintro ⟨i,vo,out⟩; dsimp only [u3]; rintro ⟨hi,ho⟩
 refine cgo k0 fun w1 => ?_
 have hol : out.length = i := by rw [ho]; exact numsL_len i
 refine jq (jq (jr (jm Z (js (jf F49_0 Z) (js (jl k1 O3 Z Z) (js (jlss Z Z) (jn (jx ?_))))))))
 refine jif Z (fun hc1 => ?_) (fun hc1 => ?_)
 refine jsk (jx (jq (jb (jr (jm Z (jm Z (japv U22 I3 (by decide) Z Z k0 Z (wI (wp (IntWalk.i64_in _ (by omega)))) (by omega) (fun _ => Z) fun v21 _ w2 => ja Z (jn (jbn (jx ?_))))))))))
 refine jr (jm Z (js (jadd Z Z (by omega)) (ja Z (jn ?_))))
 exact jag (i + 1,v21,out ++ [((i : Nat) : Int)]) ⟨by dsimp only; omega,by dsimp only; rw [ho,numsL_s]⟩ (dc d0 dn) (kd kn) ⟨Z,Z,Z,Z,eqI (by omega),trivial⟩
 refine jex (jtx (jtx (jbh (jx (jq (jr (js (jla k1 A49 Z49 Z Z Z) (jcd E105 Z Z (r3things_ct (by omega)) (dc d0 dn) kn fun v23 q3 w3 => ja Z (jn (jx ?_))))))))))
 refine jq (jq (jr (ja Z (jn (jx (jb ?_))))))
 refine jlp (u3 fun (i2 : Nat) (v2 : Value) (o2 : List Int) => ⟨i2 ≤ (things3 f).length ∧ o2 = numsL f.Params.toNat ++ standL f block ((things3 f).take i2),[dv (rL rTg3) v23 (things3 f),da rFunc (vFunc f a0) f],[gl X.n (rI .i64) 3 v2 o2,bx g2 49 [.int .i64 f.Params,a0]],[(1,.int .i64 block),(2,.pointer (some ⟨g2,0,none⟩)),(4,.slice none 0 0),(5,v2),(7,v23),(8,.int .i64 (↑i2))],(things3 f).length - i2⟩) (0,vo,out) ⟨Nat.zero_le _,by dsimp only; rw [ho,show i = f.Params.toNat by omega]; simp [standL]⟩ (dc d0 (dc d1 dn)) (kd kn) ⟨Z,Z,Z,Z,Z,eqI (by omega),trivial⟩ ?_
 rintro ⟨i2,v2,o2⟩; dsimp only [u3]; rintro ⟨hi2,ho2⟩
 refine cgo k0 fun w5 => ?_
 have hs2 := standL_len (f := f) (b := block) (l := (things3 f).take i2) (fun t ht => things3_mk f t (List.mem_of_mem_take ht))
 have ho2l : o2.length ≤ 4 + 2 * i2 := by rw [ho2,List.length_append,numsL_len]; rw [List.length_take] at hs2; omega
 refine jq (jq (jr (jm Z (jm Z (js (jln U167 d0 Z) (js (jlss Z Z) (jn (jx ?_))))))))
 refine jif Z (fun hc2 => ?_) (fun hc2 => ?_)
 refine jsk (jx (jq (jb (jq (jr (ja Z (jn (jx (jq (jq (jr ?_)))))))))))
 refine jm Z (jm Z (js (jix U167 Z170 d0 Z Z Z (by omega)) (js (jf F170_0 Z) (js (jlI (rTg3.A_Block (dix d0 i2 (by omega))) O3 Z) (jm Z (js (jneq Z Z) (jn (jx ?_))))))))
 refine jif Z (fun hc3 => ?_) (fun hc3 => ?_)
 refine jq (jtl 6 Mixed (by kernel_rfl) (jt (jla k1 A49 Z49 Z Z Z) (jt (jmv Z) (jt (jmv Z) (jt (jix U167 Z170 d0 Z Z Z (by omega)) (jt (jf F170_0 Z) (jt (jlI (rTg3.A_Block (dix d0 i2 (by omega))) O3 Z) (jtt (jcg E65 Z Z (r3reach_ct ((ix (things3 f) i2).Block)) (dc d1 dn) kn fun v43 w6 => ja Z (jn ?_))))))))))
 refine jx (jr (jm Z (jm Z ?_)))
 have hrl := reach3_len f (ix (things3 f) i2).Block
 refine js (jig (i := (Int.toNat block)) U129 Z4 k0 Z Z (by omega) (by omega)) (js (jgB k0 (by omega) O4 Z) (js (jnot Z) (ja Z (jn (jx (jq (jr (jm Z (jn (jx ?_))))))))))
 refine jif Z (fun hc4 => ?_) (fun hc4 => ?_)
 refine jr (jm Z (jm Z (jm Z (js (jix U167 Z170 d0 Z Z Z (by omega)) (js (jf F170_2 Z) (jev (jlV (rTg3.A_Makes (dix d0 i2 (by omega))) O22 Z Z) fun v55 q7 w7 => ?_))))))
 have hm2 := things3_mk f _ (ix_mem (l := things3 f) (i := i2) (by omega))
 refine japl U22 I3 (by decide) Z k1 Z Z d0 (by (try simp) <;> omega) fun v56 w9 => ja Z (jn (jbn (jx (jr (jm Z (js (jadd Z Z (by omega)) (ja Z (jn ?_))))))))
 exact jag (i2 + 1,v56,o2 ++ ((ix (things3 f) i2).Makes)) ⟨by dsimp only; omega,by dsimp only; rw [standL_s (by omega),ho2]; rw [if_pos (by simp [stands3,hc3,hc4])]; simp⟩ (dc d1 (dc d2 dn)) (kc k0 (kc k1 kn)) ⟨Z,Z,Z,Z,Z,eqI (by omega),trivial⟩
 refine jsk (jbn (jx (jr (jm Z (js (jadd Z Z (by omega)) (ja Z (jn ?_)))))))
 exact jag (i2 + 1,v2,o2) ⟨by dsimp only; omega,by dsimp only; rw [standL_s (by omega),ho2]; rw [if_neg (by simp [stands3,hc3,hc4])]; simp⟩ (dc d0 (dc d1 dn)) (kc k1 (kc k1 kn)) ⟨Z,Z,Z,Z,Z,eqI (by omega),trivial⟩
 refine jsk (jx (jq (jr (jm Z (jn (jx ?_))))))
 refine jif Z (fun hc5 => ?_) (fun hc5 => ?_)
 refine jr (jm Z (jm Z (jm Z (js (jix U167 Z170 d0 Z Z Z (by omega)) (js (jf F170_2 Z) (jev (jlV (rTg3.A_Makes (dix d0 i2 (by omega))) O22 Z Z) fun v55_10 q11 w11 => ?_))))))
 have hm2 := things3_mk f _ (ix_mem (l := things3 f) (i := i2) (by omega))
 refine japl U22 I3 (by decide) Z k0 Z Z d0 (by (try simp) <;> omega) fun v56_13 w14 => ja Z (jn (jbn (jx (jr (jm Z (js (jadd Z Z (by omega)) (ja Z (jn ?_))))))))
 exact jag (i2 + 1,v56_13,o2 ++ ((ix (things3 f) i2).Makes)) ⟨by dsimp only; omega,by dsimp only; rw [standL_s (by omega),ho2]; rw [if_pos (by simp [stands3,hc3,hc5])]; simp⟩ (dc d1 (dc d2 dn)) (kd kn) ⟨Z,Z,Z,Z,Z,eqI (by omega),trivial⟩
 exact absurd hc5 (by simp)
 refine jex (jtx (jtx (jbh (jx (jq (jr (jm Z (ja Z (jn (jx (jrt ?_)))))))))))
 exact jrG Z Z (by rw [ho2,List.take_of_length_le (by omega)]; rfl) k0
theorem J31 : (Tryz.prog.info? 31).bind (·.zero) = some (.agg #[.slice none 0 0,.slice none 0 0,.slice none 0 0,.int .i64 0]) := by kernel_rfl
set_option maxRecDepth 8000 in
theorem r3input_ct {a0 : Value} {s : List Int} : Ts Tryz.prog 34 #[a0] [dv (rL (rI .i64)) a0 s] [] rInput vInput (input3 s) := by
 refine jenter (args := [a0]) Tryz.func34 rfl rfl rfl fun w0 X => ?_
 refine jq (jr (jalc J31 Z fun g2 => jn (jx (jq (jr (jm Z (jdq d0 fun q1 w1 => js (jbu (v := .agg #[a0,.int .i64 0,.int .i64 0,.slice none 0 0,.int .i64 0,.slice none 0 0]) Z (fun _ => by obtain ⟨_,_,_,rfl⟩ := w1; kernel_rfl)) (jbox Z Z fun g11 => jkna (c := 0) ⟨s,0,0,[],0,[]⟩ k0 ⟨okM0 _,Z⟩ fun mm0 hmm0 omm0 bmm0 => ?_))))))))
 refine ja Z (jn (jx (jq (jr (js (jbu (v := .agg #[.slice none 0 0,.slice none 0 0,.slice none 0 0,.int .i64 300]) Z (fun _ => by kernel_rfl)) (jalc J31 Z fun g4 => jsta k0 Z31 Z Z Z ⟨Z,Z,Z,Z,trivial⟩ (saf Z) (jn (jx (jq (jq ?_))))))))))
 refine jr (ja Z (jn (jx (jb (cnl (r := (rI .i32)) (E := 21) ?_)))))
 refine jlp (u4 fun (ia : Nat) (la : List Int) (va : Value) (ma : Mk) => ⟨ia ≤ 4 ∧ wordsL 4 [] mm0 = wordsL (4 - ia) la ma ∧ la.length = ia ∧ okS 0 (0 + 2 * ia) s ma,[dv (rL (rI .i64)) a0 s],[gl X.n (rI .i32) 21 va la,bx g4 31 [va,.slice none 0 0,.slice none 0 0,.int .i64 300],bx g11 108 [a0,.int .i64 ma.k,.int .i64 ma.par,(.slice none 0 0),.int .i64 ma.nx,(.slice none 0 0)],bx g2 31 [.slice none 0 0,.slice none 0 0,.slice none 0 0,.int .i64 0]],[(2,.pointer (some ⟨g2,0,none⟩)),(3,.pointer (some ⟨g11,0,none⟩)),(4,.pointer (some ⟨g4,0,none⟩)),(5,.int .i64 (↑ia))],4 - ia⟩) (0,[],.slice none 0 0,mm0) ⟨Nat.zero_le _,rfl,rfl,omm0.mono (by omega)⟩ (dc d0 dn) (kd (kd kn)) ⟨Z,Z,Z,eqI (by omega),trivial⟩ ?_
 rintro ⟨ia,la,va,ma⟩; dsimp only [u4]; rintro ⟨hia,hRa,hla,okL1⟩
 refine cgo k0 fun w2 => ?_
 have bdL1 := okM.bnd okL1.1
 clear bmm0
 refine jq (jq (jr (jm Z (js (jlss Z Z) (jn (jx ?_))))))
 refine jif Z (fun hc1 => ?_) (fun hc1 => ?_)
 refine jsk (jx (jq (jb (jany true (.a 0 (.a 1 (.a 2 (.o 3 (.o 4 (.o 5 (.a 6 (.o 7 .e)))))))) Mixed (by kernel_rfl) (kc k1 kn) fun F3 => jy Z (jf F31_0 Z) (jy Z (jl k0 O29 Z Z) (jy Z (jmv Z) (jyo Z (jka E71 Z Z (m3word_ct okL1 (by omega)) (dc d1 dn) k2 ⟨word_ok okL1.1,okL1.2⟩ fun m20 hm20 om20 bm20 => ?_))))))))
 have w20_0 : IntKind.i32.wrap (wordV ma) = wordV ma := (word_w ma)
 clear bdL1
 refine jyn d0 (kc k2 kn) (jyo Z (jlit (r := (rI .i32)) (l := [wordV ma]) U29 I21 (by decide) Z Z Z (lV Z Z (wI (wp w20_0)) ln) fun g21 => jyn d0 (kc k3 kn) (jyo Z (jfz k0 (by (try simp) <;> omega) (japl U29 I21 (by decide) Z k1 Z Z d0 (by (try simp) <;> omega) fun v22 w8 => jyn d1 (kc k2 kn) (jy Z (jf F31_0 Z) (jyo Z (jst k2 Z29 Z Z w8.one s0 (jyz d0 ?_)))))))))
 refine jyd (jbn (jx (jr (jm Z (js (jadd Z Z (by omega)) (ja Z (jn ?_)))))))
 exact jag (ia + 1,la ++ ([wordV ma]),v22,m20) ⟨by dsimp only; omega,by dsimp only; rw [hm20]; exact words_1 (by omega) hRa,by simp; omega,om20.mono (by omega)⟩ (dc d5 dn) (kc k1 (kd (kc k0 kn))) ⟨Z,Z,Z,eqI (by omega),trivial⟩
 refine jex (jtx (jtx (jbh (jx (jq (jr (jm Z (jka E47 Z Z (m3take_ct okL1 (by omega) 13 (by first | decide | omega)) (dc d0 dn) k2 ⟨tO9 okL1.1,okL1.2⟩ fun m25 hm25 om25 bm25 => ?_))))))))
 have w25_0 : IntKind.i64.wrap (tVV 13 ma) = tVV 13 ma := (IntWalk.i64_in _ (by have h9 := @tV9 13 (by omega) ma; omega))
 have tr25 := @tV9 13 (by omega) ma
 clear bdL1
 refine js (jadd Z Z (by omega)) (ja Z (jn (jx (jq (jq (jr (ja Z (jn (jx (jb (cnl (r := (rI .i32)) (E := 21) ?_)))))))))))
 refine jlp (u4 fun (ib : Nat) (lb : List Int) (vb : Value) (mb : Mk) => ⟨ib ≤ (4 + (tVV 13 ma)).toNat ∧ wordsL (4 + (tVV 13 ma)).toNat [] m25 = wordsL ((4 + (tVV 13 ma)).toNat - ib) lb mb ∧ lb.length = ib ∧ okS 0 (0 + 2 * ia + 1 + 2 * ib) s mb,[dv (rL (rI .i64)) a0 s],[gl X.n (rI .i32) 21 vb lb,bx g11 108 [a0,.int .i64 mb.k,.int .i64 mb.par,(.slice none 0 0),.int .i64 mb.nx,(.slice none 0 0)],gl X.n (rI .i32) 21 va la,bx g4 31 [va,vb,.slice none 0 0,.int .i64 300],bx g2 31 [.slice none 0 0,.slice none 0 0,.slice none 0 0,.int .i64 0]],[(2,.pointer (some ⟨g2,0,none⟩)),(3,.pointer (some ⟨g11,0,none⟩)),(4,.pointer (some ⟨g4,0,none⟩)),(6,.int .i64 (4 + (tVV 13 ma))),(7,.int .i64 (↑ib))],(4 + (tVV 13 ma)).toNat - ib⟩) (0,[],.slice none 0 0,m25) ⟨Nat.zero_le _,rfl,rfl,om25.mono (by omega)⟩ (dc d0 dn) (kd (kd (kc k0 kn))) ⟨Z,Z,Z,Z,eqI (by omega),trivial⟩ ?_
 rintro ⟨ib,lb,vb,mb⟩; dsimp only [u4]; rintro ⟨hib,hRb,hlb,okL2⟩
 refine cgo k0 fun w10 => ?_
 have bdL2 := okM.bnd okL2.1
 clear bm25
 refine jq (jq (jr (jm Z (jm Z (js (jlss Z Z) (jn (jx ?_)))))))
 refine jif Z (fun hc2 => ?_) (fun hc2 => ?_)
 refine jsk (jx (jq (jb (jany true (.a 0 (.a 1 (.a 2 (.o 3 (.o 4 (.o 5 (.a 6 (.o 7 .e)))))))) Mixed (by kernel_rfl) (kc k3 kn) fun F11 => jy Z (jf F31_1 Z) (jy Z (jl k0 O29 Z Z) (jy Z (jmv Z) (jyo Z (jka E71 Z Z (m3word_ct okL2 (by omega)) (dc d1 dn) k1 ⟨word_ok okL2.1,okL2.2⟩ fun m35 hm35 om35 bm35 => ?_))))))))
 have w35_0 : IntKind.i32.wrap (wordV mb) = wordV mb := (word_w mb)
 clear bdL2
 refine jyn d0 (kc k3 kn) (jyo Z (jlit (r := (rI .i32)) (l := [wordV mb]) U29 I21 (by decide) Z Z Z (lV Z Z (wI (wp w35_0)) ln) fun g36 => jyn d0 (kc k4 kn) (jyo Z (jfz k0 (by (try simp) <;> omega) (japl U29 I21 (by decide) Z k1 Z Z d0 (by (try simp) <;> omega) fun v37 w16 => jyn d1 (kc k3 kn) (jy Z (jf F31_1 Z) (jyo Z (jst k3 Z29 Z Z w16.one s1 (jyz d0 ?_)))))))))
 refine jyd (jbn (jx (jr (jm Z (js (jadd Z Z (by omega)) (ja Z (jn ?_)))))))
 exact jag (ib + 1,lb ++ ([wordV mb]),v37,m35) ⟨by dsimp only; omega,by dsimp only; rw [hm35]; exact words_1 (by omega) hRb,by simp; omega,om35.mono (by omega)⟩ (dc d5 dn) (kc k1 (kc k1 (kc k1 (kd kn)))) ⟨Z,Z,Z,Z,eqI (by omega),trivial⟩
 refine jex (jtx (jtx (jbh (jx (jq (jr (jm Z (jka E47 Z Z (m3take_ct okL2 (by omega) 7 (by first | decide | omega)) (dc d0 dn) k1 ⟨tO9 okL2.1,okL2.2⟩ fun m40 hm40 om40 bm40 => ?_))))))))
 have w40_0 : IntKind.i64.wrap (tVV 7 mb) = tVV 7 mb := (IntWalk.i64_in _ (by have h9 := @tV9 7 (by omega) mb; omega))
 have tr40 := @tV9 7 (by omega) mb
 clear bdL2
 refine ja Z (jn (jx (jq (jq (jr (ja Z (jn (jx (jb (cnl (r := (rI .i32)) (E := 21) ?_))))))))))
 refine jlp (u4 fun (ic : Nat) (lc : List Int) (vc : Value) (mc : Mk) => ⟨ic ≤ (tVV 7 mb).toNat ∧ wordsL (tVV 7 mb).toNat [] m40 = wordsL ((tVV 7 mb).toNat - ic) lc mc ∧ lc.length = ic ∧ okS 0 (0 + 2 * ia + 1 + 2 * ib + 1 + 2 * ic) s mc,[dv (rL (rI .i64)) a0 s],[gl X.n (rI .i32) 21 vc lc,bx g11 108 [a0,.int .i64 mc.k,.int .i64 mc.par,(.slice none 0 0),.int .i64 mc.nx,(.slice none 0 0)],gl X.n (rI .i32) 21 vb lb,gl X.n (rI .i32) 21 va la,bx g4 31 [va,vb,vc,.int .i64 300],bx g2 31 [.slice none 0 0,.slice none 0 0,.slice none 0 0,.int .i64 0]],[(2,.pointer (some ⟨g2,0,none⟩)),(3,.pointer (some ⟨g11,0,none⟩)),(4,.pointer (some ⟨g4,0,none⟩)),(6,.int .i64 (tVV 7 mb)),(8,.int .i64 (↑ic))],(tVV 7 mb).toNat - ic⟩) (0,[],.slice none 0 0,m40) ⟨Nat.zero_le _,rfl,rfl,om40.mono (by omega)⟩ (dc d0 dn) (kd (kd (kd kn))) ⟨Z,Z,Z,Z,eqI (by omega),trivial⟩ ?_
 rintro ⟨ic,lc,vc,mc⟩; dsimp only [u4]; rintro ⟨hic,hRc,hlc,okL3⟩
 refine cgo k0 fun w18 => ?_
 have bdL3 := okM.bnd okL3.1
 clear bm40
 refine jq (jq (jr (jm Z (jm Z (js (jlss Z Z) (jn (jx ?_)))))))
 refine jif Z (fun hc3 => ?_) (fun hc3 => ?_)
 refine jsk (jx (jq (jb (jany true (.a 0 (.a 1 (.a 2 (.o 3 (.o 4 (.o 5 (.a 6 (.o 7 .e)))))))) Mixed (by kernel_rfl) (kc k4 kn) fun F19 => jy Z (jf F31_2 Z) (jy Z (jl k0 O29 Z Z) (jy Z (jmv Z) (jyo Z (jka E71 Z Z (m3word_ct okL3 (by omega)) (dc d1 dn) k1 ⟨word_ok okL3.1,okL3.2⟩ fun m49 hm49 om49 bm49 => ?_))))))))
 have w49_0 : IntKind.i32.wrap (wordV mc) = wordV mc := (word_w mc)
 clear bdL3
 refine jyn d0 (kc k4 kn) (jyo Z (jlit (r := (rI .i32)) (l := [wordV mc]) U29 I21 (by decide) Z Z Z (lV Z Z (wI (wp w49_0)) ln) fun g50 => jyn d0 (kc k5 kn) (jyo Z (jfz k0 (by (try simp) <;> omega) (japl U29 I21 (by decide) Z k1 Z Z d0 (by (try simp) <;> omega) fun v51 w24 => jyn d1 (kc k4 kn) (jy Z (jf F31_2 Z) (jyo Z (jst k4 Z29 Z Z w24.one s2 (jyz d0 ?_)))))))))
 refine jyd (jbn (jx (jr (jm Z (js (jadd Z Z (by omega)) (ja Z (jn ?_)))))))
 exact jag (ic + 1,lc ++ ([wordV mc]),v51,m49) ⟨by dsimp only; omega,by dsimp only; rw [hm49]; exact words_1 (by omega) hRc,by simp; omega,om49.mono (by omega)⟩ (dc d5 dn) (kc k1 (kc k1 (kc k1 (kc k1 (kd kn))))) ⟨Z,Z,Z,Z,eqI (by omega),trivial⟩
 refine jex (jtx (jtx (jbh (jx (jq (jr (js (jla k4 A31 Z31 Z Z Z) (jsta k5 Z31 Z Z Z ⟨w2.one,w10.one,w18.one,Z,trivial⟩ (saf Z) (jn (jx (jrt ?_)))))))))))
 refine qfz k4 (by omega) (qfz k3 (by omega) (qfz k1 (by omega) ?_))
 exact jrcA (val := vInput) (b := ⟨la,lb,lc,300⟩) (c := (va,vb,vc)) Z Z k0 A31 Z31 Z (by have ea := words_2 (by omega) hRa; have eb := words_2 (by omega) hRb; have ec := words_2 (by omega) hRc; simp only [hmm0,hm25,hm40] at ea eb ec; simp only [input3,ea,eb,ec]) (rInput.M (m := ⟨la,lb,lc,300⟩) (c := (va,vb,vc)) d2 d1 d0 (wl 300))
theorem poIn {Γ : List Dt} {L : List Res} {m : D.Phi} {u : Value} {l : List D.In} (h : Nd Γ L (dv (rL rIn) u l)) : PO Γ L rPhi m 1 [u] { m with In := l } := fun F H a b c f hf =>
 ⟨⟨hf.1.1,hf.1.2⟩,(rL rIn).ext (fun i hi => by rw [show i = 0 from Nat.lt_one_iff.1 hi]; rfl) (show (rL rIn).ok F l (fun _ => u) from h F H a b c)⟩
theorem ix_set {α : Type} [Inhabited α] {l : List α} {i j : Nat} {a : α} (hj : j < l.length) : ix (l.set j a) i = if i = j then a else ix l i := by
 by_cases h : i = j
 · subst h; rw [if_pos rfl]; simp [ix,hj]
 · rw [if_neg h]; simp [ix,List.getElem?_set_ne (Ne.symm h)]
def fnM (m : Mk) : D.Func := ⟨m.par,m.bs⟩
def setTo (b : Nat) (l : List Int) (m : Mk) : Mk := { m with bs := m.bs.set b { (ix m.bs b) with Term := { (ix m.bs b).Term with To := l } } }
def toS (to : List (List Int)) : Nat → Nat → Mk → Mk
 | 0,_,m => m
 | k + 1,b,m => toS to k (b + 1) (setTo b (ix to b) m)
def addP (b : Nat) (m : Mk) : Mk := { (freshS m) with bs := (freshS m).bs.set b { (ix (freshS m).bs b) with Phis := (ix (freshS m).bs b).Phis ++ [⟨m.nx,[]⟩] } }
def phiN (b : Nat) : Nat → Mk → Mk
 | 0,m => m
 | k + 1,m => phiN b k (addP b m)
def phiR (b : Nat) (ph : List Int) (m : Mk) : List Int :=
 if 1 < (pd3 (fnM m) b).length then ph.set b (tVV 4 m) else if tVV 6 m = 0 then ph.set b 1 else ph
def phiS : Nat → Nat → List Int → Mk → List Int × Mk
 | 0,_,ph,m => (ph,m)
 | k + 1,b,ph,m => phiS k (b + 1) (phiR b ph m) (phiN b (ix (phiR b ph m) b).toNat (tSS m))
def awayL (f : D.Func) (a : Nat) : List (List Bool) := (List.range a).map (fun (i : Nat) => reach3 f (i : Int))
def okA (f : D.Func) (dn : List Bool) (b a : Nat) : Bool := decide (a = b) || (ix dn a || ix (reach3 f (a : Int)) b)
def readyF (f : D.Func) (dn : List Bool) (b a : Nat) : Bool := !(ix dn b) && (List.range a).all (fun i => okA f dn b i)
def skipA (f : D.Func) (dn : List Bool) (b a : Nat) : Bool := !(decide (a = b)) && (!(ix dn a) || ix (reach3 f (a : Int)) b)
def lvB (f : D.Func) (dn : List Bool) (b a : Nat) : List Int := if skipA f dn b a then [] else (ix f.Blocks a).Phis.map (·.Dst) ++ (ix f.Blocks a).Ins.flatMap makes3
def lvF (f : D.Func) (dn : List Bool) (b a : Nat) : List Int := numsL f.Params.toNat ++ (List.range a).flatMap (fun i => lvB f dn b i)
def insN (b : Nat) : Nat → Mk → Mk
 | 0,m => m
 | k + 1,m => insN b k (insS b m)
def lvM (n b : Nat) (dn : List Bool) (m : Mk) : Mk := { m with lv := lvF (fnM m) dn b n }
def blkM (n : Nat) (to : List (List Int)) (b : Nat) (dn : List Bool) (m : Mk) : Mk := endS b (ix to b) (insN b (tVV 7 (lvM n b dn m)).toNat (tSS (lvM n b dn m)))
def rowS (n : Nat) (to : List (List Int)) : Nat → Nat → List Bool → Mk → List Bool × Mk
 | 0,_,dn,m => (dn,m)
 | k + 1,b,dn,m => if readyF (fnM m) dn b n then rowS n to k (b + 1) (dn.set b true) (blkM n to b (dn.set b true) m) else rowS n to k (b + 1) dn m
def turnS (n : Nat) (to : List (List Int)) : Nat → List Bool → Mk → List Bool × Mk
 | 0,dn,m => (dn,m)
 | k + 1,dn,m => turnS n to k (rowS n to n 0 dn m).1 (rowS n to n 0 dn m).2
def inX (p : Int) (m : Mk) : D.In × Mk :=
 if (stand3 (fnM m) p).length = 0 then (⟨p,ix [(wordS m).nx] (tVV 1 (constS p (wordV m) (wordS m))).toNat⟩,tSS (constS p (wordV m) (wordS m)))
 else (⟨p,ix (stand3 (fnM m) p) (tVV (stand3 (fnM m) p).length m).toNat⟩,tSS m)
def inS (p : List Int) : Nat → Nat → List D.In → Mk → List D.In × Mk
 | 0,_,l,m => (l,m)
 | c + 1,k,l,m => inS p c (k + 1) (l ++ [(inX (ix p k) m).1]) (inX (ix p k) m).2
def putIn (b i : Nat) (l : List D.In) (m : Mk) : Mk := { m with bs := m.bs.set b { (ix m.bs b) with Phis := (ix m.bs b).Phis.set i { (ix (ix m.bs b).Phis i) with In := l } } }
def inP (p : List Int) (b : Nat) : Nat → Nat → Mk → Mk
 | 0,_,m => m
 | c + 1,i,m => inP p b c (i + 1) (putIn b i (inS p p.length 0 [] m).1 (inS p p.length 0 [] m).2)
def finS (ph : List Int) : Nat → Nat → Mk → Mk
 | 0,_,m => m
 | c + 1,b,m => finS ph c (b + 1) (inP (pd3 (fnM m) b) b (ix ph b).toNat 0 m)
def mdP (m : Mk) : Mk := { (tSS m) with par := tVV 5 m }
def mdX (m : Mk) : Mk := { (mdP m) with nx := (mdP m).par }
def md0 (s : List Int) : Mk := mdX ⟨s,0,0,[],0,[]⟩
def mdN (s : List Int) : Int := 1 + tVV 9 (md0 s)
def mdT (s : List Int) : List (List Int) × Mk := targM (mdN s) (tSS (md0 s))
def mdB (s : List Int) : Mk := toS (mdT s).1 (mdN s).toNat 0 { (mdT s).2 with bs := List.replicate (mdN s).toNat default }
def mdH (s : List Int) : List Int × Mk := phiS ((mdN s).toNat - 1) 1 (List.replicate (mdN s).toNat 0) (mdB s)
def mdD (s : List Int) : List Bool × Mk := turnS (mdN s).toNat (mdT s).1 (mdN s).toNat (List.replicate (mdN s).toNat false) (mdH s).2
def mdF (s : List Int) : Mk := finS (mdH s).1 ((mdN s).toNat - 1) 1 (mdD s).2
def made3 (s : List Int) : D.Func := fnM (mdF s)
theorem awayL_s (f : D.Func) (a : Nat) : awayL f (a + 1) = awayL f a ++ [reach3 f (a : Int)] := by simp [awayL,List.range_succ]
theorem awayL_len (f : D.Func) (a : Nat) : (awayL f a).length = a := by simp [awayL]
theorem awayL_ix (f : D.Func) {n a : Nat} (h : a < n) : ix (awayL f n) a = reach3 f (a : Int) := by rw [ix_eq (by rw [awayL_len]; exact h)]; simp [awayL]
theorem readyF_s (f : D.Func) (dn : List Bool) (b a : Nat) : readyF f dn b (a + 1) = (readyF f dn b a && okA f dn b a) := by simp [readyF,List.range_succ,Bool.and_assoc]
theorem lvF_s (f : D.Func) (dn : List Bool) (b a : Nat) : lvF f dn b (a + 1) = lvF f dn b a ++ lvB f dn b a := by simp [lvF,List.range_succ]
theorem fm_len {l : List D.Ins} : (l.flatMap makes3).length ≤ 2 * l.length := by
 induction l with
 | nil => simp
 | cons x l ih => rw [List.flatMap_cons,List.length_append,List.length_cons]; have := makes3_len x; omega
theorem cntT_take : ∀ {l : List D.Block} {k : Nat},k < l.length → cntT (l.take (k + 1)) = cntT (l.take k) + ((ix l k).Phis.length + (ix l k).Ins.length + 1)
 | x :: l,0,_ => by simp [cntT,ix_zero]
 | x :: l,k + 1,h => by rw [List.take_succ_cons,List.take_succ_cons,cntT,cntT,ix_cons,cntT_take (l := l) (k := k) (by simpa using h)]; omega
theorem cntT_le : ∀ (l : List D.Block) (k : Nat),cntT (l.take k) ≤ cntT l
 | [],k => by simp [cntT]
 | x :: l,0 => by simp [cntT]
 | x :: l,k + 1 => by rw [List.take_succ_cons,cntT,cntT]; have := cntT_le l k; omega
theorem lvF_len {f : D.Func} {dn : List Bool} {b : Nat} : ∀ {a : Nat},a ≤ f.Blocks.length → (lvF f dn b a).length ≤ f.Params.toNat + 2 * cntT (f.Blocks.take a)
 | 0,_ => by simp [lvF,numsL_len,cntT]
 | a + 1,h => by
   have h1 := lvF_len (f := f) (dn := dn) (b := b) (a := a) (by omega)
   rw [lvF_s,List.length_append,cntT_take (by omega)]
   have h2 : (lvB f dn b a).length ≤ (ix f.Blocks a).Phis.length + 2 * (ix f.Blocks a).Ins.length := by
     unfold lvB; split
     · simp
     · rw [List.length_append,List.length_map]; have := fm_len (l := (ix f.Blocks a).Ins); omega
   omega
theorem rng_set {ph : List Int} {b : Nat} {x : Int} (h : ∀ j,0 ≤ ix ph j ∧ ix ph j ≤ 3) (hx : 0 ≤ x ∧ x ≤ 3) : ∀ j,0 ≤ ix (ph.set b x) j ∧ ix (ph.set b x) j ≤ 3 := by
 intro j
 by_cases e : b < ph.length
 · rw [ix_set e]; split
   · exact hx
   · exact h j
 · rw [List.set_eq_of_length_le (by omega)]; exact h j
theorem rng_rep {n : Nat} : ∀ j,0 ≤ ix (List.replicate n (0 : Int)) j ∧ ix (List.replicate n (0 : Int)) j ≤ 3 := by
 intro j; by_cases h : j < n <;> simp [ix,h]
def pl (m : Mk) : List Nat := m.bs.map (fun x => x.Phis.length)
theorem pl_set {m : Mk} {j : Nat} {b : D.Block} (h : b.Phis.length = (ix m.bs j).Phis.length) : (m.bs.set j b).map (fun x => x.Phis.length) = pl m := by
 unfold pl
 by_cases hj : j < m.bs.length
 · rw [List.map_set]
   refine List.ext_getElem (by simp) (fun i h1 h2 => ?_)
   rw [List.getElem_set]
   split
   · rename_i e; subst e; rw [h,ix_eq hj]; simp
   · rfl
 · rw [List.set_eq_of_length_le (by omega)]
theorem pl_add {b : Int} {i : D.Ins} {m : Mk} : pl (addS b i m) = pl m := pl_set (m := m) rfl
theorem pl_const {b n : Int} {m : Mk} : pl (constS b n m) = pl m := pl_add (m := freshS m)
theorem pl_value {m : Mk} : pl (valueS m) = pl m := by unfold valueS; split <;> rfl
theorem pl_some {b : Int} {m : Mk} : pl (sS9 b m) = pl m := by
 have h0 : pl (someM0 m) = pl m := by unfold someM0; split; exact pl_value; exact pl_value
 unfold sS9; split
 · exact pl_const.trans h0
 · exact h0
theorem pl_mem1 {b : Int} {m : Mk} : pl (mem1 b m).2 = pl m := by
 unfold mem1; dsimp only; split
 · exact pl_add.trans (pl_add.trans (pl_const.trans (pl_some.trans (pl_const (m := tSS m)))))
 · exact pl_const (m := tSS m)
theorem pl_mem2 {m : Mk} : pl (mem2 m).2 = pl m := by unfold mem2; dsimp only; split <;> rfl
theorem pl_mem {b : Int} {s : Bool} {m : Mk} : pl (memS b s m) = pl m := by
 unfold memS; dsimp only; split
 · exact pl_add.trans (pl_some.trans (pl_mem2.trans pl_mem1))
 · exact (pl_add (m := freshS _)).trans (pl_mem2.trans pl_mem1)
theorem pl_args {b : Int} : ∀ (n : Nat) (l : List Int) (m : Mk),pl (argsL b n l m).2 = pl m
 | 0,_,_ => rfl
 | n + 1,l,m => (pl_args n _ _).trans pl_some
theorem pl_ins {b : Int} {m : Mk} : pl (insS b m) = pl m := by
 have h2 : pl (sS9 b (sS9 b (tSS m))) = pl m := pl_some.trans (pl_some (m := tSS m))
 unfold insS; dsimp only
 repeat' split
 · exact (pl_add (m := freshS _)).trans ((pl_const (m := tSS (tSS _))).trans h2)
 · exact (pl_add (m := freshS (tSS _))).trans h2
 · exact (pl_add (m := freshS _)).trans h2
 · exact (pl_add (m := freshS _)).trans ((pl_const (m := tSS (tSS _))).trans ((pl_const (m := tSS _)).trans (pl_some (m := tSS m))))
 · exact (pl_add (m := freshS (tSS _))).trans ((pl_const (m := tSS _)).trans (pl_some (m := tSS m)))
 · exact pl_mem (m := tSS m)
 · exact (pl_add (m := tSS (freshS _))).trans (pl_args _ _ _)
 · exact (pl_add (m := freshS (freshS _))).trans h2
 · exact pl_const (m := wordS (tSS m))
theorem pl_setT {b : Int} {t : D.Term} {m : Mk} : pl (setT b t m) = pl m := pl_set (m := m) rfl
theorem pl_end {b : Int} {l : List Int} {m : Mk} : pl (endS b l m) = pl m := by
 unfold endS; dsimp only
 repeat' split
 · exact pl_setT (m := tSS (tSS m))
 · exact pl_setT.trans (pl_some (m := tSS m))
 · exact pl_setT (m := tSS m)
 · exact pl_setT
 · exact pl_setT.trans ((pl_add (m := tSS (freshS _))).trans ((pl_some (m := tSS _)).trans pl_some))
 · exact (pl_setT (m := tSS _)).trans pl_some
 · exact pl_setT.trans ((pl_add (m := freshS _)).trans (pl_const.trans pl_some))
theorem pl_insN {b : Nat} : ∀ (n : Nat) (m : Mk),pl (insN b n m) = pl m
 | 0,_ => rfl
 | n + 1,m => (pl_insN n _).trans pl_ins
theorem pl_putIn {b i : Nat} {l : List D.In} {m : Mk} : pl (putIn b i l m) = pl m := pl_set (m := m) (by simp)
theorem pl_get {m m' : Mk} (h : pl m = pl m') (j : Nat) : (ix m.bs j).Phis.length = (ix m'.bs j).Phis.length := by
 have hl : m.bs.length = m'.bs.length := by have := congrArg List.length h; simpa [pl] using this
 by_cases hj : j < m.bs.length
 · have h1 : (pl m).getD j 0 = (pl m').getD j 0 := by rw [h]
   simpa [pl,List.getD,hj,hl ▸ hj,ix] using h1
 · have hj' : ¬ j < m'.bs.length := by omega
   simp [ix,hj,hj']
theorem preds3_rng {f : D.Func} {b : Int} : ∀ x ∈ pd3 f b,0 ≤ x ∧ x < f.Blocks.length := by
 have : ∀ k,∀ x ∈ predsT3 f.Blocks k b,0 ≤ x ∧ x < k := by
   intro k
   induction k with
   | zero => intro x hx; cases hx
   | succ k ih =>
     intro x hx
     rw [predsT3] at hx
     rcases List.mem_append.1 hx with h | h
     · have := ih x h; omega
     · split at h
       · simp at h; subst h; omega
       · cases h
 exact this _
theorem preds3_len (f : D.Func) (b : Int) : (pd3 f b).length ≤ f.Blocks.length := predsT3_len _ _ _
theorem fm_snoc {l : List D.Ins} {k : Nat} (hk : k < l.length) : (l.take (k + 1)).flatMap makes3 = (l.take k).flatMap makes3 ++ makes3 (ix l k) := by rw [take_ix hk]; simp
def phiOK (b : Nat) (ph : List Int) (m : Mk) : Prop := (∀ j,(ix m.bs j).Phis.length = if j < b then (ix ph j).toNat else 0) ∧ ∀ j,b ≤ j → ix ph j = 0
theorem phi_start {m m' : Mk} {n : Nat} (h : pl m = pl m') (h2 : m'.bs = List.replicate n default) : phiOK 1 (List.replicate n 0) m := by
 have h0 : ∀ j,ix (List.replicate n (0 : Int)) j = 0 := fun j => by by_cases hj : j < n <;> simp [ix,hj]
 refine ⟨fun j => ?_,fun j _ => h0 j⟩
 rw [pl_get h,h2,h0]
 have : (ix (List.replicate n (default : D.Block)) j) = default := by by_cases hj : j < n <;> simp [ix,hj]
 rw [this]; split <;> rfl
theorem addP_len {b : Nat} {m : Mk} (hb : b < m.bs.length) (j : Nat) : (ix (addP b m).bs j).Phis.length = (ix m.bs j).Phis.length + if j = b then 1 else 0 := by
 show (ix (m.bs.set b _) j).Phis.length = _
 rw [ix_set hb]
 split
 · rename_i e; subst e; simp [freshS]
 · rfl
theorem phiN_len {b : Nat} : ∀ (k : Nat) (m : Mk),b < m.bs.length → ∀ j,(ix (phiN b k m).bs j).Phis.length = (ix m.bs j).Phis.length + if j = b then k else 0
 | 0,m,_,j => by simp [phiN]
 | k + 1,m,hb,j => by
   rw [phiN,phiN_len k (addP b m) (by simpa [addP,freshS] using hb) j,addP_len hb]
   split <;> omega
theorem phi_step {b : Nat} {ph ph' : List Int} {m : Mk} (h : phiOK b ph m) (hb : b < m.bs.length) (hl : b < ph.length) (hp : ph' = phiR b ph m) : phiOK (b + 1) ph' (phiN b (ix ph' b).toNat (tSS m)) := by
 have hne : ∀ j,j ≠ b → ix ph' j = ix ph j := fun j hj => by
   rw [hp]; unfold phiR; (repeat' split) <;> first | rfl | (rw [ix_set hl,if_neg hj])
 refine ⟨fun j => ?_,fun j hj => by rw [hne j (by omega)]; exact h.2 j (by omega)⟩
 rw [phiN_len _ _ (by exact hb) j]
 show (ix m.bs j).Phis.length + _ = _
 rw [h.1 j]
 by_cases e : j = b
 · subst e; rw [if_neg (by omega),if_pos rfl,if_pos (by omega)]; omega
 · rw [if_neg e,hne j e]
   by_cases e2 : j < b
   · rw [if_pos e2,if_pos (by omega)]; rfl
   · rw [if_neg e2,if_neg (by omega)]
theorem pl_setTo {b : Nat} {l : List Int} {m : Mk} : pl (setTo b l m) = pl m := pl_set (m := m) rfl
theorem stand3_len (f : D.Func) (b : Int) : (stand3 f b).length ≤ f.Params.toNat + 2 * cntT f.Blocks := by
 have h : ∀ l : List D.Tg3,(∀ t ∈ l,t.Makes.length ≤ 2) → (standL f b l).length ≤ 2 * l.length := by
   intro l
   induction l with
   | nil => intro _; simp [standL]
   | cons x l ih =>
     intro hl
     have h1 := ih (fun t ht => hl t (List.mem_cons_of_mem _ ht))
     have h2 := hl x (List.mem_cons_self ..)
     unfold standL at h1 ⊢
     rw [List.flatMap_cons,List.length_append,List.length_cons]
     split
     · omega
     · simp only [List.length_nil]; omega
 have h3 := h (things3 f) (things3_mk f)
 rw [things3_len] at h3
 unfold stand3
 rw [List.length_append,numsL_len]; omega
theorem phiR_rng {b : Nat} {ph : List Int} {m : Mk} (h : ∀ j,0 ≤ ix ph j ∧ ix ph j ≤ 3) : ∀ j,0 ≤ ix (phiR b ph m) j ∧ ix (phiR b ph m) j ≤ 3 := by
 have h4 := tV9 (n := 4) (by omega) m
 unfold phiR; split
 · exact rng_set h (by omega)
 split
 · exact rng_set h (by omega)
 · exact h
theorem phiR_len {b : Nat} {ph : List Int} {m : Mk} : (phiR b ph m).length = ph.length := by unfold phiR; (repeat' split) <;> simp
structure Mq where
 s : List Int
 k : Int
 nx : Int
 l : List D.Mach
def takeQV (n : Int) (m : Mq) : Int := Int.tmod (Int.tmod (if m.k < m.s.length then ix m.s m.k.toNat else 0) n + n) n
def takeQ (m : Mq) : Mq := { m with k := m.k + 1 }
def tempQ (m : Mq) : Mq := { m with nx := m.nx + 1 }
def putQ (i : D.Mach) (m : Mq) : Mq := { m with l := m.l ++ [i] }
def copV (r : Int) (m : Mq) : Int := if 0 < takeQV 4 m then r else m.nx
def copQ (r : Int) (m : Mq) : Mq := if 0 < takeQV 4 m then takeQ m else putQ ⟨1,m.nx,0,r,0,0,0,[]⟩ (tempQ (takeQ m))
def smallQ (n : Int) : Bool := decide (-32768 ≤ n) && decide (n < 32768)
def wordQ0 (n : Int) (m : Mq) : Mq := if smallQ n then takeQ m else m
def wordQ (d n : Int) (m : Mq) : Mq := if smallQ n = true ∧ takeQV 2 m = 0 then putQ ⟨3,d,0,0,0,0,n,[]⟩ (wordQ0 n m) else putQ ⟨4,d,0,0,0,0,n,[]⟩ (wordQ0 n m)
def opQ (x : D.Ins) (d a b : Int) : D.Mach := ⟨x.Op - 2 + 5,d,0,a,b,0,0,[]⟩
def two3 (x : D.Ins) (a b : Int) (m : Mq) : Mq :=
 if takeQV 6 m = 0 then putQ ⟨18,x.Dst,0,m.nx + 1,0,0,-100,[]⟩ (putQ ⟨18,m.nx + 1,0,m.nx,0,0,100,[]⟩ (putQ (opQ x m.nx a b) (tempQ (tempQ (takeQ m)))))
 else if takeQV 6 m = 1 then putQ ⟨20,x.Dst,0,m.nx,0,0,0,[]⟩ (putQ (opQ x m.nx a b) (tempQ (takeQ m)))
 else if takeQV 6 m = 2 ∧ x.Op = 4 then putQ ⟨23,x.Dst,0,a,b,m.nx,0,[]⟩ (wordQ m.nx 0 (tempQ (takeQ m)))
 else putQ (opQ x x.Dst a b) (takeQ m)
def twoQ (x : D.Ins) (m : Mq) : Mq := two3 x (copV (ix x.Args 0) m) (copV (ix x.Args 1) (copQ (ix x.Args 0) m)) (copQ (ix x.Args 1) (copQ (ix x.Args 0) m))
def byteQ (n : Int) : Bool := decide (0 ≤ n) && decide (n ≤ 255)
def memQ0 (n : Int) (m : Mq) : Mq := if byteQ n then takeQ m else m
def mem2Q (x : D.Ins) (a : Int) (m : Mq) : Mq :=
 if byteQ x.Imm = true ∧ 0 < takeQV 3 m then (if x.Op = 15 then putQ ⟨24,x.Dst,0,a,0,0,x.Imm,[]⟩ (takeQ m) else putQ ⟨26,0,0,a,ix x.Args 1,0,x.Imm,[]⟩ (takeQ m))
 else if x.Op = 15 then putQ ⟨25,x.Dst,0,a,m.nx,0,0,[]⟩ (wordQ m.nx x.Imm (tempQ (memQ0 x.Imm m)))
 else putQ ⟨27,0,0,a,m.nx,ix x.Args 1,0,[]⟩ (wordQ m.nx x.Imm (tempQ (memQ0 x.Imm m)))
def memQ (x : D.Ins) (m : Mq) : Mq := mem2Q x (copV (ix x.Args 0) m) (copQ (ix x.Args 0) m)
def insQ (x : D.Ins) (m : Mq) : Mq :=
 if x.Op = 1 then wordQ x.Dst x.Imm m
 else if x.Op = 15 ∨ x.Op = 16 then memQ x m
 else if x.Op = 17 then putQ ⟨28,x.Dst,0,0,0,0,x.Imm,x.Args⟩ m
 else if x.Op = 18 then putQ ⟨29,x.Dst,x.Two,ix x.Args 0,ix x.Args 1,0,0,[]⟩ m
 else twoQ x m
def endQ (t : D.Term) (m : Mq) : Mq :=
 if t.Kind = 2 then (if 1 < takeQV 4 m then takeQ m else wordQ m.nx 0 (tempQ (takeQ m)))
 else if t.Kind = 4 ∧ t.Args.length ≠ 0 then copQ (ix t.Args 0) m
 else m
def okQ (nb c : Nat) (m : Mq) : Prop := (0 ≤ m.k ∧ m.k ≤ c) ∧ (0 ≤ m.nx ∧ m.nx ≤ nb + c) ∧ m.l.length ≤ c ∧ nb ≤ 1000000
theorem okQ.bnd {nb c : Nat} {m : Mq} (h : okQ nb c m) : 0 ≤ m.k ∧ m.k ≤ c ∧ 0 ≤ m.nx ∧ m.nx ≤ nb + c ∧ m.l.length ≤ c ∧ nb ≤ 1000000 := ⟨h.1.1,h.1.2,h.2.1.1,h.2.1.2,h.2.2.1,h.2.2.2⟩
theorem okQ.mono {nb c c' : Nat} {m : Mq} (h : okQ nb c m) (hc : c ≤ c') : okQ nb c' m := by unfold okQ at *; omega
theorem okQ.setk {nb c c' : Nat} {m : Mq} {x : Int} (h : okQ nb c m) (hx : 0 ≤ x ∧ x ≤ c') (hc : c ≤ c') : okQ nb c' { m with k := x } := ⟨hx,(h.mono hc).2⟩
theorem okQ.setnx {nb c c' : Nat} {m : Mq} {x : Int} (h : okQ nb c m) (hx : 0 ≤ x ∧ x ≤ nb + c') (hc : c ≤ c') : okQ nb c' { m with nx := x } := ⟨(h.mono hc).1,hx,(h.mono hc).2.2⟩
theorem okQ.setl {nb c c' : Nat} {m : Mq} {x : List D.Mach} (h : okQ nb c m) (hx : x.length ≤ c') (hc : c ≤ c') : okQ nb c' { m with l := x } := ⟨(h.mono hc).1,(h.mono hc).2.1,hx,h.2.2.2⟩
section
variable {nb c : Nat} {m : Mq}
end
abbrev okSq (nb c : Nat) (S : List Int) (m : Mq) : Prop := okQ nb c m ∧ m.s = S
theorem okSq.mono {nb c c' : Nat} {S : List Int} {m : Mq} (h : okSq nb c S m) (hc : c ≤ c') : okSq nb c' S m := ⟨okQ.mono h.1 hc,h.2⟩
section
variable {P : Program} {Γ Γ' E D0 : List Dt} {L M N : List Res} {e : Env} {X : Cx} {n : Fs} {w0 : World} {Q : Exit → Act → World → Prop} {ops : Array Oper} {d : Nat} {ty : TypeId} {pos : String} {af : Array Edge} {rest : List Oper} {f : FuncId} {h : Operand} {xs : List Operand} {ws : List Value} {ts : Array TypeId} {g B nb c : Nat} {vs al val : Value} {S : List Int} {m st : Mq}
end
theorem F67_4 : Fld Tryz.prog 67 4 4 := ⟨_,_,Tryz.underlying67,rfl,rfl,1,(by unfold Sz; kernel_rfl),by decide⟩
end Go.Proofs.YtmfkkodnghambaaGreat
