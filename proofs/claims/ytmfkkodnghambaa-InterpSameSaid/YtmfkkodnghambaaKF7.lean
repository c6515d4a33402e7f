/- Lemmas that the claim is made of. Conditions: each lemma names its own. -/
import Derived.Test.YtmfkkodnghambaaKF6
import Derived.Test.YtmfkkodnghambaaKF5
import Derived.Recover
set_option linter.unusedSectionVars false
set_option linter.unusedSimpArgs false
set_option linter.unusedVariables false
namespace Go.Proofs.Ytmfkkodnghambaa
open Go.JE
theorem E62 : Ent Try.prog 62 := ⟨_,Try.func62,by kernel_rfl,by kernel_rfl⟩
theorem E64 : Ent Try.prog 64 := ⟨_,Try.func64,by kernel_rfl,by kernel_rfl⟩
theorem E76 : Ent Try.prog 76 := ⟨_,Try.func76,by kernel_rfl,by kernel_rfl⟩
theorem idom_ct {a0 : Value} {g : List (List Int)} (hn : 0 < g.length ∧ g.length ≤ 512) (hw : ∀ b,b < g.length → ∃ w,RB (fun q t => (t : Int) ∈ ix (cleanM g) q) w b) : Tr Try.prog 65 #[a0] [dv (rL (rL (rI .i64))) a0 g] [] (fun c : Value × List Int => c.1) (fun c => [dv (rL (rI .i64)) c.1 c.2,pu (DomG g c.2)]) (fun _ _ => []) := by
 refine jenter (args := [a0]) Try.func65 rfl rfl rfl fun w0 X => ?_
 refine jq (jr (ja Z (jn (jx (jq (jr (jm Z (jc E62 Z Z (order_ct hn hw) (dc d0 dn) kn (fun _ => p2) (fun _ => p0) fun c17 => jpu d1 fun hod => ja Z (jn ?_)))))))))
 refine jx (jq (jr (jm Z (jdq d2 fun q3 w3 => js (jln U109 d2 Z) (jmk (m := (List.length g)) (r := (rI .i64)) U32 I3 Z Z Z Z Z (by omega) (wI (wp (by decide))) Z fun g20 => ja Z (jn (jx (jq (jr ?_)))))))))
 refine jm Z (js (jln U109 d2 Z) (jmk (m := (List.length g)) (r := (rI .i64)) U32 I3 Z Z Z Z Z (by omega) (wI (wp (by decide))) Z fun g23 => ja Z (jn (jx (jq (jq (jr (jm Z (js (jln U109 d2 Z) (jm Z ?_))))))))))
 refine jn (jx (jb ?_))
 refine jlp (u3 fun (k : Nat) (nm : List Int) (ou : List Int) => ⟨k ≤ g.length ∧ nm.length = g.length ∧ ou = List.replicate k (-1) ++ List.replicate (g.length - k) 0,[dv (rL (rI .i64)) c17.1 c17.2,dv (rL (rL (rI .i64))) a0 g],[gl X.n (rI .i64) 3 (.slice (some ⟨g23,0,none⟩) (List.length g) (List.length g)) ou,gl X.n (rI .i64) 3 (.slice (some ⟨g20,0,none⟩) (List.length g) (List.length g)) nm],[(0,a0),(2,.slice none 0 0),(3,c17.1),(4,(.slice (some ⟨g20,0,none⟩) (List.length g) (List.length g))),(5,(.slice (some ⟨g23,0,none⟩) (List.length g) (List.length g))),(25,.int .i64 (↑(List.length g))),(26,.int .i64 (↑k))],g.length - k⟩) (0,List.replicate (List.length g) 0,List.replicate (List.length g) 0) ⟨by dsimp only; omega,by simp,by simp⟩ (dc d0 (dc d2 dn)) (kd kn) ⟨Z,Z,Z,Z,Z,Z,eqI (by omega),trivial⟩ ?_
 rintro ⟨k,nm,ou⟩; dsimp only [u3]; rintro ⟨hk,hnl,hou⟩
 have hol : ou.length = g.length := by rw [hou]; simp; omega
 refine jq (jr (js (jlss Z Z) (jn (jx (jq ?_)))))
 refine jif Z (fun hc1 => ?_) (fun hc1 => ?_)
 refine jsk (jx (jq (jb (jq (jr (jm Z (ja Z (jn (jx (jr (jm Z ?_)))))))))))
 refine jm Z (jm Z (jm Z (js (jig U32 Z3 k1 Z Z Z (by omega)) (jsg k1 Z Z3 Z Z Z (by omega) (wI (wl (-1))) (js (jig U32 Z3 k1 Z Z Z (by omega)) (jsg k1 Z Z3 Z Z Z (by omega) (wI (wl (-1))) (jn (jbn (jx (jr (js (jadd Z Z (by omega)) ?_)))))))))))
 refine jm Z (jn ?_)
 exact jag (k + 1,List.set nm k (-1),List.set ou k (-1)) ⟨by dsimp only; omega,by simpa using hnl,by dsimp only; rw [hou]; exact fill_put (by omega)⟩ (dc d0 (dc d1 dn)) (kd kn) ⟨Z,Z,Z,Z,Z,Z,eqI (by omega),trivial⟩
 refine jex (jtx (jtx (jbh (jx (jq (jq (jr (jm Z (jdq d0 fun q4 w4 => js (jln U32 d0 Z) (jm Z ?_))))))))))
 refine jn (jx (jb ?_))
 refine jlp (u2 fun (k2 : Nat) (nm : List Int) => ⟨k2 ≤ c17.2.length ∧ NK g.length c17.2 nm k2,[dv (rL (rI .i64)) c17.1 c17.2,dv (rL (rL (rI .i64))) a0 g],[gl X.n (rI .i64) 3 (.slice (some ⟨g23,0,none⟩) (List.length g) (List.length g)) ou,gl X.n (rI .i64) 3 (.slice (some ⟨g20,0,none⟩) (List.length g) (List.length g)) nm],[(0,a0),(2,.slice none 0 0),(3,c17.1),(4,(.slice (some ⟨g20,0,none⟩) (List.length g) (List.length g))),(5,(.slice (some ⟨g23,0,none⟩) (List.length g) (List.length g))),(36,c17.1),(37,.int .i64 (↑(List.length c17.2))),(38,.int .i64 (↑k2))],c17.2.length - k2⟩) (0,nm) ⟨by dsimp only; omega,⟨by dsimp only; exact hnl,fun j h => absurd h (Nat.not_lt_zero _)⟩⟩ (dc d0 (dc d1 dn)) (kd kn) ⟨Z,Z,Z,Z,Z,Z,Z,eqI (by omega),trivial⟩ ?_
 rintro ⟨k2,nm⟩; dsimp only [u2]; rintro ⟨hk2,hnk⟩
 have hnl2 := hnk.1
 refine jq (jr (js (jlss Z Z) (jn (jx (jq ?_)))))
 refine jif Z (fun hc2 => ?_) (fun hc2 => ?_)
 have hr8 := od_rng hod (k := k2) (by omega)
 refine jsk (jx (jq (jb (jq (jr (jm Z (js (jix U32 Z3 d0 Z Z Z (by omega)) (js (jlI (dix d0 k2 (by omega)) O3 Z) (ja Z (ja Z (jn ?_)))))))))))
 refine jx (jr (jm Z (jm Z (jm Z (js (jig (i := (Int.toNat (ix c17.2 k2))) U32 Z3 k1 Z Z (by omega) (by omega)) (jsg k1 Z Z3 Z Z Z (by omega) (wI (wp (IntWalk.i64_in _ (by omega)))) (jn (jbn (jx (jr (js (jadd Z Z (by omega)) ?_)))))))))))
 refine jm Z (jn ?_)
 exact jag (k2 + 1,List.set nm (Int.toNat (ix c17.2 k2)) ((k2 : Nat) : Int)) ⟨by dsimp only; omega,hnk.nx hod (by omega)⟩ (dc d0 (dc d1 dn)) (kc k1 (kc k0 kn)) ⟨Z,Z,Z,Z,Z,Z,Z,eqI (by omega),trivial⟩
 refine jex (jtx (jtx (jbh (jx (jq (jr (jfz k1 (by omega) ?_)))))))
 have hnu : NU g.length c17.2 nm := ⟨hnk.1,fun j h => hnk.2 j (by omega)⟩
 have hgn := (hod.gn hn.1 hnu).1
 have hfull := od_full hod
 have hlen9 := od_len hod
 have hpl := preds_len g
 refine jm Z (jcd E64 Z Z (preds_ct hn.2) (dc d2 dn) kn fun v49 q6 w6 => ja Z (jn (jx (jq (jq (jr (ja Z (jn (jx (jb ?_))))))))))
 refine jlp (u3 fun (f : Nat) (ch : Bool) (ou : List Int) => ⟨IS g.length nm (prG g) ou 1 ∧ (ch = false → IS g.length nm (prG g) ou (g.length : Int)) ∧ smI g.length nm ou g.length + (if ch = true then 1 else 0) ≤ f,[dv (rL (rL (rI .i64))) v49 (predsG g),dv (rL (rI .i64)) (.slice (some ⟨g20,0,none⟩) (List.length g) (List.length g)) nm,dv (rL (rI .i64)) c17.1 c17.2],[gl X.n (rI .i64) 3 (.slice (some ⟨g23,0,none⟩) (List.length g) (List.length g)) ou],[(2,.slice none 0 0),(3,c17.1),(4,(.slice (some ⟨g20,0,none⟩) (List.length g) (List.length g))),(5,(.slice (some ⟨g23,0,none⟩) (List.length g) (List.length g))),(9,v49),(10,.bool ch)],f⟩) (smI g.length nm ou g.length + 1,true,ou) ⟨by dsimp only; rw [hou]; exact (by have h9 := IS.beg hgn; rw [show g.length - k = 0 by omega]; simpa [show k = g.length by omega] using h9),(fun h => by cases h),by dsimp only; rw [if_pos rfl]; exact Nat.le_refl _⟩ (dc d0 (dc d1 (dc d2 dn))) (kc k0 kn) ⟨Z,Z,Z,Z,Z,Z,trivial⟩ ?_
 rintro ⟨f,ch,ou⟩; dsimp only [u3]; rintro ⟨his,hid,hfu⟩
 have hol := his.tv.len
 refine jq (jq (jr (jm Z (jn (jx ?_)))))
 refine jif Z (fun hc3 => ?_) (fun hc3 => ?_)
 have hf0 : 0 < f := by rw [hc3] at hfu; simp at hfu; omega
 refine jsk (jx (jb (jq (jr (ja Z (jn (jx (jq (jr (jm Z (jm Z ?_)))))))))))
 refine js (jln U32 d2 Z) (js (jmin Z Z) (js (jslo (lo := (Int.toNat (min 1 (↑(List.length c17.2))))) U32 Z3 d2 Z Z (by omega) (by omega)) (jdq (dlo d2 (Int.toNat (min 1 (↑(List.length c17.2)))) (by omega) (by omega)) fun q8 w8 => js (jln U32 (dlo d2 (Int.toNat (min 1 (↑(List.length c17.2)))) (by omega) (by omega)) Z) (jm Z (jn (jx (jb ?_)))))))
 refine jlp (u3 fun (k : Nat) (ch2 : Bool) (ou2 : List Int) => ⟨k ≤ c17.2.length - 1 ∧ IR g.length nm (prG g) ou ou2 ch2 k,[dv (rL (rL (rI .i64))) v49 (predsG g),dv (rL (rI .i64)) (.slice (some ⟨g20,0,none⟩) (List.length g) (List.length g)) nm,dv (rL (rI .i64)) c17.1 c17.2],[gl X.n (rI .i64) 3 (.slice (some ⟨g23,0,none⟩) (List.length g) (List.length g)) ou2],[(2,.slice none 0 0),(3,c17.1),(4,(.slice (some ⟨g20,0,none⟩) (List.length g) (List.length g))),(5,(.slice (some ⟨g23,0,none⟩) (List.length g) (List.length g))),(9,v49),(10,.bool ch2),(55,(resl 1 c17.1 (Int.toNat (min 1 (↑(List.length c17.2)))) (List.length c17.2))),(56,.int .i64 (↑(List.length (List.drop (Int.toNat (min 1 (↑(List.length c17.2)))) c17.2)))),(57,.int .i64 (↑k))],c17.2.length - 1 - k⟩) (0,false,ou) ⟨by dsimp only; omega,⟨his,Nat.le_refl _,fun h => by cases h⟩⟩ (dc d0 (dc d1 (dc d2 dn))) (kc k0 kn) ⟨Z,Z,Z,Z,Z,Z,Z,Z,eqI (by omega),trivial⟩ ?_
 rintro ⟨k,ch2,ou2⟩; dsimp only [u3]; rintro ⟨hk4,hir⟩
 have hol2 := hir.is.tv.len
 have hdl : (List.drop (min 1 (c17.2.length : Int)).toNat c17.2).length = c17.2.length - 1 := by rw [List.length_drop]; omega
 refine jq (jr (js (jlss Z Z) (jn (jx (jq ?_)))))
 refine jif Z (fun hc4 => ?_) (fun hc4 => ?_)
 refine jsk (jx (jq (jb (jq (jr (js (jix U32 Z3 (dlo d2 (Int.toNat (min 1 (↑(List.length c17.2)))) (by omega) (by omega)) Z Z Z (by omega)) (js (jlI (dix (dlo d2 (Int.toNat (min 1 (↑(List.length c17.2)))) (by omega) (by omega)) k (by omega)) O3 Z) (ja Z (jn (jx (jq ?_)))))))))))
 refine jr (ja Z (jn (jx (jq (jq (jr ?_))))))
 generalize hb : ix (List.drop (Int.toNat (min 1 (↑(List.length c17.2)))) c17.2) k = b at ⊢
 have hbe : b = ix c17.2 (k + 1) := by rw [← hb,ix_drop9]; congr 1; omega
 have hbr := od_rng hod (k := k + 1) (by omega)
 rw [← hbe] at hbr
 have hbn : ix nm b.toNat = ((k + 1 : Nat) : Int) := by rw [hbe]; exact hnu.pos (k + 1) (by omega)
 have hb0 : b.toNat ≠ 0 := fun h => by rw [h,hgn.zero] at hbn; omega
 refine jm Z (jm Z (js (jix (i := (Int.toNat b)) U109 Z32 d0 Z Z (by omega) (by omega)) (jev (jlV (dix d0 (Int.toNat b) (by omega)) O32 Z Z) fun v64 q9 w9 => js (jln U32 d0 Z) (jm Z (jn (jx (jb ?_)))))))
 refine jlp (u2 fun (j : Nat) (best : Int) => ⟨S9 g.length ou2 (ix (predsG g) (Int.toNat b)) j best,[dv (rL (rI .i64)) v64 (ix (predsG g) (Int.toNat b)),dv (rL (rL (rI .i64))) v49 (predsG g),dv (rL (rI .i64)) (.slice (some ⟨g20,0,none⟩) (List.length g) (List.length g)) nm,dv (rL (rI .i64)) c17.1 c17.2],[gl X.n (rI .i64) 3 (.slice (some ⟨g23,0,none⟩) (List.length g) (List.length g)) ou2],[(2,.slice none 0 0),(3,c17.1),(4,(.slice (some ⟨g20,0,none⟩) (List.length g) (List.length g))),(5,(.slice (some ⟨g23,0,none⟩) (List.length g) (List.length g))),(9,v49),(10,.bool ch2),(12,.int .i64 b),(13,.int .i64 best),(55,(resl 1 c17.1 (Int.toNat (min 1 (↑(List.length c17.2)))) (List.length c17.2))),(56,.int .i64 (↑(List.length (List.drop (Int.toNat (min 1 (↑(List.length c17.2)))) c17.2)))),(57,.int .i64 (↑k)),(64,v64),(65,.int .i64 (↑(List.length (ix (predsG g) (Int.toNat b))))),(66,.int .i64 (↑j))],(ix (predsG g) (Int.toNat b)).length - j⟩) (0,-1) ⟨by dsimp only; omega,BS.beg,by dsimp only; omega,by dsimp only; omega⟩ (dc d0 (dc d1 (dc d2 (dc d3 dn)))) (kc k0 kn) ⟨Z,Z,Z,Z,Z,Z,Z,eqI (by omega),Z,Z,Z,Z,Z,eqI (by omega),trivial⟩ ?_
 rintro ⟨j,best⟩; dsimp only [u2]; rintro ⟨hj,hbs,hb1,hb2⟩
 have hs9 : S9 g.length ou2 (ix (predsG g) (Int.toNat b)) j best := ⟨hj,hbs,hb1,hb2⟩
 refine jq (jr (js (jlss Z Z) (jn (jx (jq ?_)))))
 refine jif Z (fun hc5 => ?_) (fun hc5 => ?_)
 refine jsk (jx (jq (jb (jq (jr (js (jix U32 Z3 d0 Z Z Z (by omega)) (js (jlI (dix d0 j (by omega)) O3 Z) (ja Z (jn (jx (jq ?_)))))))))))
 refine jq (jr ?_)
 generalize ha : ix (ix (predsG g) (Int.toNat b)) j = a at ⊢
 have har := preds_rng (ix_mem (l := ix (predsG g) b.toNat) (i := j) (by omega))
 rw [ha] at har
 refine jm Z (jm Z (jdq d2 fun q11 w11 => js (jix (i := (Int.toNat a)) U32 Z3 d2 Z Z (by omega) (by omega)) (js (jlI (dix d2 (Int.toNat a) (by omega)) O3 Z) (js (jlss Z Z) (jm Z (jg Z Z (.f _) (fun hg => jmv Z) (jg Z Z (.f _) (fun hg => jneq (evg Z hg) Z) (jg Z Z (.f _) (fun hg => jmv (evg Z hg)) (jg Z Z (.gt _ _) (fun hg => jmv Z) (jg Z Z (.gt _ _) (fun hg => jmv Z) ?_))))))))))
 refine jg Z Z (.gt _ _) (fun hg => jig (i := (Int.toNat a)) U32 Z3 k0 (evg Z hg) (evg Z hg) (by first | omega | (simp at hg; omega)) (by first | omega | (simp at hg; omega) | (simp only [List.length_set]; omega) | (simp; done))) (jg Z Z (.gt _ _) (fun hg => jgI k0 (by first | omega | (simp at hg; omega) | (simp only [List.length_set]; omega) | (simp; done)) O3 (evg Z hg)) (jg Z Z (.gt _ _) (fun hg => jlss (evg Z hg) Z) (jg Z Z (.f _) (fun hg => jand2 hg Z Z) (js (jor Z Z) (jn (jx ?_))))))
 refine jif Z (fun hc6 => ?_) (fun hc6 => ?_)
 refine jex (jtx (jbh (jx (jr (js (jadd Z Z (by omega)) (jm Z (jn ?_)))))))
 exact jag (j + 1,best) (s9_skip hgn hir.is hs9 ha har (by omega) (by simpa using hc6)) (dc d0 (dc d1 (dc d2 (dc d3 dn)))) (kc k0 kn) ⟨Z,Z,Z,Z,Z,Z,Z,Z,Z,Z,Z,Z,Z,eqI (by omega),trivial⟩
 have hca : ¬ a = 0 → 0 ≤ ix ou2 a.toNat := by simp at hc6; exact fun h => hc6.2.resolve_left h
 refine jsk (jx (jq (jq (jr (jm Z (js (jlss Z Z) (jn (jx ?_))))))))
 refine jif Z (fun hc7 => ?_) (fun hc7 => ?_)
 refine jq (jr (jm Z (ja Z (jn (jx (jex (jtx (jbh (jx (jr (js (jadd Z Z (by omega)) ?_)))))))))))
 refine jm Z (jn ?_)
 exact jag (j + 1,a) (s9_first hir.is hs9 ha har (by omega) hca hc7) (dc d0 (dc d1 (dc d2 (dc d3 dn)))) (kc k0 kn) ⟨Z,Z,Z,Z,Z,Z,Z,eqI (by omega),Z,Z,Z,Z,Z,eqI (by omega),trivial⟩
 refine jsk (jx (jr (jm Z (jm Z (jm Z (jm Z (jc E76 Z Z (Tv.temp 1073741824 (common_ct best a (s9_ok hgn hnl2 hir.is hs9 har hca (by omega))) (by omega)) (dc d2 dn) (kc k0 kn) (fun _ => p0) (fun _ => p1) fun _ => ja Z (jn (jbn (jx ?_))))))))))
 refine jr (js (jadd Z Z (by omega)) (jm Z (jn ?_)))
 exact jag (j + 1,comM ou2 nm best a) (s9_com hgn hir.is hs9 ha har (by omega) hca (by omega)) (dc d0 (dc d1 (dc d2 (dc d3 dn)))) (kc k0 kn) ⟨Z,Z,Z,Z,Z,Z,Z,eqI (by omega),Z,Z,Z,Z,Z,eqI (by omega),trivial⟩
 refine jex (jtx (jtx (jbh (jx (jq (jr (jm Z (jm Z (js (jig (i := (Int.toNat b)) U32 Z3 k0 Z Z (by omega) (by omega)) (js (jgI k0 (by omega) O3 Z) (jm Z ?_)))))))))))
 refine js (jneq Z Z) (jn (jx ?_))
 refine jif Z (fun hc8 => ?_) (fun hc8 => ?_)
 refine jr (jm Z (jm Z (jm Z (js (jig (i := (Int.toNat b)) U32 Z3 k0 Z Z (by omega) (by omega)) (jsg k0 Z Z3 Z Z Z (by omega) (wI (wp (IntWalk.i64_in _ (by omega)))) (ja Z (jn (jbn (jx (jr (js (jadd Z Z (by omega)) ?_)))))))))))
 refine jm Z (jn ?_)
 exact jag (k + 1,true,List.set ou2 (Int.toNat b) best) ⟨by dsimp only; omega,hir.set hgn (by omega) hb0 hbn (hs9.all (by omega)) hc8⟩ (dc d1 (dc d2 (dc d3 dn))) (kc k0 kn) ⟨Z,Z,Z,Z,Z,Z,Z,Z,eqI (by omega),trivial⟩
 refine jsk (jbn (jx (jr (js (jadd Z Z (by omega)) (jm Z (jn ?_))))))
 exact jag (k + 1,ch2,ou2) ⟨by dsimp only; omega,hir.keep hgn (by omega) hb0 hbn (hs9.all (by omega)) (by omega)⟩ (dc d1 (dc d2 (dc d3 dn))) (kc k0 kn) ⟨Z,Z,Z,Z,Z,Z,Z,Z,eqI (by omega),trivial⟩
 refine jex (jtx (jtx (jbh (jbn ?_))))
 exact jag (f - 1,ch2,ou2) ⟨(hir.is.end9 (by omega)).round hgn,fun _ => hir.is.end9 (by omega),by have h8 := hir.le; have h9 := hir.lt; have hf9 := hfu; rw [if_pos hc3] at hf9; dsimp only; cases ch2 <;> simp at h9 ⊢ <;> omega⟩ (dc d0 (dc d1 (dc d2 dn))) (kc k0 kn) ⟨Z,Z,Z,Z,Z,Z,trivial⟩
 refine jex (jtx (jtx (jbh (jx (jq (jr (jm Z (ja Z (jn (jx (jrt ?_)))))))))))
 refine qfz k0 (by omega) ?_
 exact jr1 Z Z ((.slice (some ⟨g23,0,none⟩) (List.length g) (List.length g)),ou) Z (dc d0 (dc (wpu ((hid (by simpa using hc3)).dg hgn)) dn)) (fun _ _ => kn)
end Go.Proofs.Ytmfkkodnghambaa
namespace Go.JE
variable {P : Program} {D D0 : List Dt} {L M Ls L0 : List Res} {e : Env} {X : Cx} {n : Fs} {w0 : World} {Q : Exit → Act → World → Prop}
variable {ops : Array Oper} {op : Op} {d : Nat} {ty : TypeId} {pos : String} {af : Array Edge} {rest : List Oper} {T T' K E : TypeId} {x y z : Operand} {g : Nat} {l : List (Int × Value)} {k : Int} {v u : Value} {b : Bool}
theorem jlkoN (hT : P.underlying T = some (.map K E)) (hK : P.underlying K = some (.int .i64)) (hz : (P.info? E).bind (·.zero) = some u) (hm : Tk L (im g l) M) (hx : ev e x = some (.map (some g))) (hi : ev e z = some (.int .i64 k)) (hl : lkM l k = none) : OH P D L e (.lookup T x z true) (.tuple #[u,.bool false]) := by
 have := jlko (D := D) hT hK hz hm hx hi
 rw [hl] at this; exact this
theorem jlkoS (hT : P.underlying T = some (.map K E)) (hK : P.underlying K = some (.int .i64)) (hz : (P.info? E).bind (·.zero) = some u) (hm : Tk L (im g l) M) (hx : ev e x = some (.map (some g))) (hi : ev e z = some (.int .i64 k)) (hl : lkM l k = some v) : OH P D L e (.lookup T x z true) (.tuple #[v,.bool true]) := by
 have := jlko (D := D) hT hK hz hm hx hi
 rw [hl] at this; exact this
end Go.JE
namespace Go.Proofs.Ytmfkkodnghambaa
open Go.JE
abbrev U107 := @Try.underlying107
abbrev U35 := @Try.underlying35
abbrev U50 := @Try.underlying50
abbrev U97 := @Try.underlying97
theorem A34 : ∃ d,Try.prog.underlying 34 = some d ∧ (match d with | .struct _ | .array _ _ => true | _ => false) = true := ⟨_,Try.underlying34,rfl⟩
theorem A57 : ∃ d,Try.prog.underlying 57 = some d ∧ (match d with | .struct _ | .array _ _ => true | _ => false) = true := ⟨_,Try.underlying57,rfl⟩
theorem E53 : Ent Try.prog 53 := ⟨_,Try.func53,by kernel_rfl,by kernel_rfl⟩
theorem E54 : Ent Try.prog 54 := ⟨_,Try.func54,by kernel_rfl,by kernel_rfl⟩
theorem E57 : Ent Try.prog 57 := ⟨_,Try.func57,by kernel_rfl,by kernel_rfl⟩
theorem E58 : Ent Try.prog 58 := ⟨_,Try.func58,by kernel_rfl,by kernel_rfl⟩
theorem E59 : Ent Try.prog 59 := ⟨_,Try.func59,by kernel_rfl,by kernel_rfl⟩
theorem E60 : Ent Try.prog 60 := ⟨_,Try.func60,by kernel_rfl,by kernel_rfl⟩
theorem E68 : Ent Try.prog 68 := ⟨_,Try.func68,by kernel_rfl,by kernel_rfl⟩
theorem E69 : Ent Try.prog 69 := ⟨_,Try.func69,by kernel_rfl,by kernel_rfl⟩
theorem F105_0 : Fld Try.prog 105 0 0 := ⟨_,_,Try.underlying105,rfl,rfl,1,(by unfold Sz; kernel_rfl),by decide⟩
theorem F105_1 : Fld Try.prog 105 1 1 := ⟨_,_,Try.underlying105,rfl,rfl,1,(by unfold Sz; kernel_rfl),by decide⟩
theorem F105_2 : Fld Try.prog 105 2 2 := ⟨_,_,Try.underlying105,rfl,rfl,1,(by unfold Sz; kernel_rfl),by decide⟩
theorem F105_3 : Fld Try.prog 105 3 3 := ⟨_,_,Try.underlying105,rfl,rfl,1,(by unfold Sz; kernel_rfl),by decide⟩
theorem F30_0 : Fld Try.prog 30 0 0 := ⟨_,_,Try.underlying30,rfl,rfl,1,(by unfold Sz; kernel_rfl),by decide⟩
theorem F34_3 : Fld Try.prog 34 3 3 := ⟨_,_,Try.underlying34,rfl,rfl,1,(by unfold Sz; kernel_rfl),by decide⟩
theorem F37_0 : Fld Try.prog 37 0 0 := ⟨_,_,Try.underlying37,rfl,rfl,1,(by unfold Sz; kernel_rfl),by decide⟩
theorem F37_1 : Fld Try.prog 37 1 1 := ⟨_,_,Try.underlying37,rfl,rfl,1,(by unfold Sz; kernel_rfl),by decide⟩
theorem F52_0 : Fld Try.prog 52 0 0 := ⟨_,_,Try.underlying52,rfl,rfl,1,(by unfold Sz; kernel_rfl),by decide⟩
theorem F52_1 : Fld Try.prog 52 1 1 := ⟨_,_,Try.underlying52,rfl,rfl,1,(by unfold Sz; kernel_rfl),by decide⟩
theorem F57_0 : Fld Try.prog 57 0 0 := ⟨_,_,Try.underlying57,rfl,rfl,1,(by unfold Sz; kernel_rfl),by decide⟩
theorem F99_0 : Fld Try.prog 99 0 0 := ⟨_,_,Try.underlying99,rfl,rfl,2,(by unfold Sz; kernel_rfl),by decide⟩
theorem F99_1 : Fld Try.prog 99 1 2 := ⟨_,_,Try.underlying99,rfl,rfl,1,(by unfold Sz; kernel_rfl),by decide⟩
theorem O35 : One Try.prog 35 := ⟨_,Try.underlying35,rfl⟩
theorem O50 : One Try.prog 50 := ⟨_,Try.underlying50,rfl⟩
theorem O97 : One Try.prog 97 := ⟨_,Try.underlying97,rfl⟩
theorem Z105 : Sz Try.prog 105 4 := by unfold Sz; kernel_rfl
theorem Z115 : Sz Try.prog 115 2 := by unfold Sz; kernel_rfl
theorem Z34 : Sz Try.prog 34 5 := by unfold Sz; kernel_rfl
theorem Z57 : Sz Try.prog 57 2 := by unfold Sz; kernel_rfl
theorem J105 : (Try.prog.info? 105).bind (·.zero) = some (.agg #[.int .i64 0,.int .i64 0,.int .i64 0,.int .i64 0]) := by kernel_rfl
theorem J115 : (Try.prog.info? 115).bind (·.zero) = some (.agg #[.int .i64 0,.int .i64 0]) := by kernel_rfl
theorem J34 : (Try.prog.info? 34).bind (·.zero) = some (.agg #[.int .i64 0,.int .i64 0,.int .i64 0,.slice none 0 0,.int .i32 0]) := by kernel_rfl
theorem J57 : (Try.prog.info? 57).bind (·.zero) = some (.agg #[.int .i64 0,.slice none 0 0]) := by kernel_rfl
set_option maxRecDepth 4000
theorem must_ct (ok : Bool) (e : Int) (b : Int) (p : Int) (hok : ok = true) : Tr Try.prog 53 #[.bool ok,.int .i64 e,.int .i64 b,.int .i64 p] [] [] (fun _ : Unit => .tuple #[]) (fun _ => []) (fun _ _ => []) := by
 refine jenter (args := [.bool ok,.int .i64 e,.int .i64 b,.int .i64 p]) Try.func53 rfl rfl rfl fun w0 X => ?_
 refine jq (jr (jm Z (js (jnot Z) (jn (jx ?_)))))
 refine jif Z (fun hc1 => ?_) (fun hc1 => ?_)
 exact absurd hc1 (by rw [hok]; decide)
 refine jsk ?_
 exact jd0 Z () Z dn (fun _ _ => kn)
theorem kMake_ct {g0 gm : Nat} {cf : Value} {f : D.Func} {L : List (Int × Value)} (n : Int) (b : Int) (p : Int) (hok : withinM n f.Params 8191 = true) : Tr Try.prog 68 #[.pointer (some ⟨g0,0,none⟩),.int .i64 n,.int .i64 b,.int .i64 p] [da rFunc (vFunc f cf) f] [bx g0 99 [.int .i64 f.Params,cf,.map (some gm)],im gm L] (fun _ : Unit => .tuple #[]) (fun _ => []) (fun _ _ => [bx g0 99 [.int .i64 f.Params,cf,.map (some gm)],im gm L]) := by
 refine jenter (args := [.pointer (some ⟨g0,0,none⟩),.int .i64 n,.int .i64 b,.int .i64 p]) Try.func68 rfl rfl rfl fun w0 X => ?_
 refine jr (jm Z (jm Z (js (jnil Z) (js (jf F99_0 Z) (js (jf F30_0 Z) (js (jl k0 O3 Z Z) (jcv E54 Z Z (within_ct n f.Params 8191) dn kn (jm Z (jm Z (jc E53 Z Z (must_ct (withinM n f.Params 8191) 11 b p hok) dn kn (fun _ => p0) (fun _ => p0) fun _ => jn ?_))))))))))
 exact jd0 Z () Z dn (fun _ _ => (kd kn))
theorem kOnce_ct {g0 gm : Nat} {cf : Value} {f : D.Func} {L : List (Int × Value)} (n : Int) (b : Int) (p : Int) (hno : lkM L n = none) : Tr Try.prog 69 #[.pointer (some ⟨g0,0,none⟩),.int .i64 n,.int .i64 b,.int .i64 p] [da rFunc (vFunc f cf) f] [bx g0 99 [.int .i64 f.Params,cf,.map (some gm)],im gm L] (fun _ : Unit => .tuple #[]) (fun _ => []) (fun _ _ => [bx g0 99 [.int .i64 f.Params,cf,.map (some gm)],im gm (upM L n (wv b p))]) := by
 refine jenter (args := [.pointer (some ⟨g0,0,none⟩),.int .i64 n,.int .i64 b,.int .i64 p]) Try.func69 rfl rfl rfl fun w0 X => ?_
 refine jq (jr (jm Z (js (jnil Z) (js (jf F99_1 Z) (js (jl k0 O97 Z Z) (jm Z (js (jlkoN U97 U3 J115 k1 Z Z hno) (jm Z (js (jex' Z Z) (js (jex' Z Z) (jalc J115 Z fun g8 => ?_)))))))))))
 refine jsta k0 Z115 Z Z Z ⟨Z,Z,trivial⟩ (saf Z) (ja Z (jn (jx (jq (jr (jm Z (js (jnot Z) (jm Z (jm Z (jc E53 Z Z (must_ct (!false) 12 b p rfl) dn kn (fun _ => p0) (fun _ => p0) fun _ => jn ?_))))))))))
 refine jx (jr (jm Z (js (jnil Z) (js (jf F99_1 Z) (js (jl k1 O97 Z Z) (jm Z (jm Z (jm Z (js (jbu (v := .agg #[.int .i64 b,.int .i64 p]) Z (fun _ => by kernel_rfl)) (jup U97 U3 k2 Z Z Z Z (jn ?_)))))))))))
 exact jd0 Z () Z dn (fun _ _ => (kc k2 (kc k0 kn)))
theorem kAll_ct {g0 gm : Nat} {cf : Value} {f : D.Func} {L : List (Int × Value)} {a1 : Value} {l : List Int} (b : Int) (p : Int) (hmk : ∀ n ∈ l,withinM n f.Params 8191 = true) (hnd : l.Nodup) (hno : ∀ n ∈ l,lkM L n = none) : Tr Try.prog 57 #[.pointer (some ⟨g0,0,none⟩),a1,.int .i64 b,.int .i64 p] [da rFunc (vFunc f cf) f,dv (rL (rI .i64)) a1 l] [bx g0 99 [.int .i64 f.Params,cf,.map (some gm)],im gm L] (fun _ : Unit => .tuple #[]) (fun _ => []) (fun _ _ => [bx g0 99 [.int .i64 f.Params,cf,.map (some gm)],im gm (insA b p l L)]) := by
 refine jenter (args := [.pointer (some ⟨g0,0,none⟩),a1,.int .i64 b,.int .i64 p]) Try.func57 rfl rfl rfl fun w0 X => ?_
 refine jq (jq (jr (jm Z (jdq d1 fun q1 w1 => js (jln U32 d1 Z) (jm Z (jn (jx (jb ?_))))))))
 refine jlp (fun (k : Nat) => ⟨k ≤ l.length,[da rFunc (vFunc f cf) f,dv (rL (rI .i64)) a1 l],[bx g0 99 [.int .i64 f.Params,cf,.map (some gm)],im gm L],[(0,.pointer (some ⟨g0,0,none⟩)),(1,a1),(2,.int .i64 b),(3,.int .i64 p),(12,a1),(13,.int .i64 (↑(List.length l))),(14,.int .i64 (↑k))],l.length - k⟩) 0 (Nat.zero_le _) (dc d0 (dc d1 dn)) (kd kn) ⟨Z,Z,Z,Z,Z,Z,eqI (by omega),trivial⟩ ?_
 rintro k; dsimp only; rintro hk
 refine jq (jr (js (jlss Z Z) (jn (jx (jq ?_)))))
 refine jif Z (fun hc1 => ?_) (fun hc1 => ?_)
 refine jsk (jx (jq (jb (jq (jr (js (jix U32 Z3 d1 Z Z Z (by omega)) (js (jlI (dix d1 k (by omega)) O3 Z) (ja Z (jn (jx (jr ?_)))))))))))
 refine jm Z (jm Z (jm Z (jm Z (jc E68 Z Z (kMake_ct (f := f) _ _ _ (hmk _ (ix_mem (by omega)))) (dc d0 dn) (kd kn) (fun _ => p0) (fun _ => p2) fun _ => jn (jbn (jx (jr (js (jadd Z Z (by omega)) (jm Z (jn ?_))))))))))
 exact jag (k + 1) (by dsimp only; omega) (dc d0 (dc d1 dn)) (kd kn) ⟨Z,Z,Z,Z,Z,Z,eqI (by omega),trivial⟩
 refine jex (jtx (jtx (jbh (jx (jq (jr (jm Z (js (jln U32 d1 Z) (jm Z (jn (jx ?_)))))))))))
 refine jb ?_
 refine jlp (u2 fun (k : Nat) (L2 : List (Int × Value)) => ⟨k ≤ l.length ∧ L2 = insA b p (l.take k) L,[da rFunc (vFunc f cf) f,dv (rL (rI .i64)) a1 l],[bx g0 99 [.int .i64 f.Params,cf,.map (some gm)],im gm L2],[(0,.pointer (some ⟨g0,0,none⟩)),(2,.int .i64 b),(3,.int .i64 p),(24,a1),(25,.int .i64 (↑(List.length l))),(26,.int .i64 (↑k))],l.length - k⟩) (0,L) ⟨by dsimp only; omega,rfl⟩ (dc d0 (dc d1 dn)) (kd kn) ⟨Z,Z,Z,Z,Z,eqI (by omega),trivial⟩ ?_
 rintro ⟨k,L2⟩; dsimp only [u2]; rintro ⟨hk,hL2⟩
 refine jq (jr (js (jlss Z Z) (jn (jx (jq ?_)))))
 refine jif Z (fun hc2 => ?_) (fun hc2 => ?_)
 refine jsk (jx (jq (jb (jq (jr (js (jix U32 Z3 d1 Z Z Z (by omega)) (js (jlI (dix d1 k (by omega)) O3 Z) (ja Z (jn (jx (jr ?_)))))))))))
 refine jm Z (jm Z (jm Z (jm Z (jc E69 Z Z (kOnce_ct (f := f) _ _ _ (by rw [hL2]; exact ins_free (by omega) hnd hno)) (dc d0 dn) (kd kn) (fun _ => p0) (fun _ => p2) fun _ => jn (jbn (jx (jr (js (jadd Z Z (by omega)) (jm Z (jn ?_))))))))))
 exact jag (k + 1,upM L2 (ix l k) (wv b p)) ⟨by dsimp only; omega,by dsimp only; rw [hL2,ins_nx (by omega)]⟩ (dc d0 (dc d1 dn)) (kd kn) ⟨Z,Z,Z,Z,Z,eqI (by omega),trivial⟩
 refine jex (jtx (jtx (jbh ?_)))
 obtain rfl : L2 = insA b p l L := by rw [hL2,List.take_of_length_le (by omega)]
 exact jd0 Z () Z dn (fun _ _ => (kd kn))
theorem shapes_ct  : Tr Try.prog 60 #[] [] [] (fun g : Nat => .map (some g)) (fun _ => []) (fun _ g => [im g shL]) := by
 refine jenter (args := []) Try.func60 rfl rfl rfl fun w0 X => ?_
 refine jq (jr (ja Z (jn (jx (jq (jr (jmm fun g1 => js (jbu (v := .agg #[.int .i64 0,.int .i64 0,.int .i64 1,.int .i64 1]) Z (fun _ => by kernel_rfl)) (jin U107 U3 k0 Z Z Z Z (js (jbu (v := .agg #[.int .i64 1,.int .i64 1,.int .i64 2,.int .i64 2]) Z (fun _ => by kernel_rfl)) (jin U107 U3 k0 Z Z Z Z ?_))))))))))
 refine js (jbu (v := .agg #[.int .i64 1,.int .i64 1,.int .i64 2,.int .i64 65]) Z (fun _ => by kernel_rfl)) (jin U107 U3 k0 Z Z Z Z (js (jbu (v := .agg #[.int .i64 0,.int .i64 1,.int .i64 0,.int .i64 0]) Z (fun _ => by kernel_rfl)) (jin U107 U3 k0 Z Z Z Z (js (jbu (v := .agg #[.int .i64 0,.int .i64 0,.int .i64 0,.int .i64 0]) Z (fun _ => by kernel_rfl)) (jin U107 U3 k0 Z Z Z Z (jm Z (ja Z (jn (jx (jrt ?_))))))))))
 exact jr1 Z Z g1 Z dn (fun _ _ => (kc k0 kn))
set_option maxHeartbeats 800000 in
theorem kShape_ct {g0 gm : Nat} {cf : Value} {f : D.Func} {L : List (Int × Value)} (hG : GoodF f) (hL0 : L = []) : Tr Try.prog 55 #[.pointer (some ⟨g0,0,none⟩)] [da rFunc (vFunc f cf) f] [bx g0 99 [.int .i64 f.Params,cf,.map (some gm)],im gm L] (fun _ : Unit => .tuple #[]) (fun _ => []) (fun _ _ => [bx g0 99 [.int .i64 f.Params,cf,.map (some gm)],im gm (bkA f.Blocks f.Blocks.length)]) := by
 refine jenter (args := [.pointer (some ⟨g0,0,none⟩)]) Try.func55 rfl rfl rfl fun w0 X => ?_
 subst hL0
 refine jq (jr (jm Z (js (jnil Z) (js (jf F99_0 Z) (js (jf F30_1 Z) (js (jl k0 O28 Z Z) (jdq (rFunc.cB d0) fun q1 w1 => js (jln U28 (rFunc.cB d0) Z) (jm Z (jn (jx ?_))))))))))
 refine jb ?_
 refine jlp (u2 fun (k : Nat) (L1 : List (Int × Value)) => ⟨k ≤ f.Blocks.length ∧ L1 = bkA f.Blocks k,[da rFunc (vFunc f cf) f],[bx g0 99 [.int .i64 f.Params,cf,.map (some gm)],im gm L1],[(0,.pointer (some ⟨g0,0,none⟩)),(18,cf),(19,.int .i64 (↑(List.length f.Blocks))),(20,.int .i64 (↑k))],f.Blocks.length - k⟩) (0,[]) ⟨by dsimp only; omega,rfl⟩ (dc d0 dn) (kd kn) ⟨Z,Z,Z,eqI (by omega),trivial⟩ ?_
 rintro ⟨k,L1⟩; dsimp only [u2]; rintro ⟨hk,hL1⟩
 refine jq (jr (js (jlss Z Z) (jn (jx (jq ?_)))))
 refine jif Z (fun hc1 => ?_) (fun hc1 => ?_)
 have hb : k < f.Blocks.length := by omega
 obtain ⟨sh,hs1,hs2,hs3⟩ := hG.tm k hb
 refine jsk (jx (jq (jb (jq (jr (jm Z (js (jix U28 Z52 (rFunc.cB d0) Z Z Z (by omega)) (jA4 sBlock (jlA (dix (rFunc.cB d0) k (by omega)) A52 Z52 Z) fun c24a c24b c24c c24d => jalc J52 Z fun g3 => ja Z (jdq (rBlock.cP d0) fun q3 w3 => ?_)))))))))
 refine jdq (rBlock.cI d0) fun q4 w4 => jdq (rBlock.c_Term_Args d0) fun q5 w5 => jdq (rBlock.c_Term_To d0) fun q6 w6 => jsta k0 Z52 Z Z Z ⟨w3.one,w4.one,Z,w5.one,w6.one,Z,trivial⟩ (saf Z) (jn (jx (jq (jq (jr (js (jf F52_0 Z) (js (jl k0 O50 Z Z) (js (jln U50 (rBlock.cP d0) Z) ?_))))))))
 refine jm Z (jn (jx (jb ?_)))
 refine jlp (u2 fun (i : Nat) (L2 : List (Int × Value)) => ⟨i ≤ (ix f.Blocks k).Phis.length ∧ L2 = phA k (ix f.Blocks k).Phis L1 i,[da rBlock (vBlock (ix f.Blocks k) (c24a,c24b,c24c,c24d)) (ix f.Blocks k),da rFunc (vFunc f cf) f],[bx g3 52 [c24a,c24b,.int .i64 (((ix f.Blocks k).Term).Kind),c24c,c24d,.int .i32 (((ix f.Blocks k).Term).Imm)],bx g0 99 [.int .i64 f.Params,cf,.map (some gm)],im gm L2],[(0,.pointer (some ⟨g0,0,none⟩)),(2,.int .i64 (↑k)),(3,.pointer (some ⟨g3,0,none⟩)),(18,cf),(19,.int .i64 (↑(List.length f.Blocks))),(20,.int .i64 (↑k)),(26,c24a),(27,.int .i64 (↑(List.length ((ix f.Blocks k).Phis)))),(28,.int .i64 (↑i))],(ix f.Blocks k).Phis.length - i⟩) (0,L1) ⟨by dsimp only; omega,rfl⟩ (dc d0 (dc d1 dn)) (kd (kc k0 kn)) ⟨Z,Z,Z,Z,Z,Z,Z,Z,eqI (by omega),trivial⟩ ?_
 rintro ⟨i,L2⟩; dsimp only [u2]; rintro ⟨hi,hL2⟩
 refine jq (jr (js (jlss Z Z) (jn (jx (jq ?_)))))
 refine jif Z (fun hc2 => ?_) (fun hc2 => ?_)
 have hp9 := hG.pha hb (i := i) (by omega)
 refine jsk (jx (jq (jb (jq (jr (jm Z (js (jix U50 Z57 (rBlock.cP d0) Z Z Z (by omega)) (jA sPhi (jlA (dix (rBlock.cP d0) i (by omega)) A57 Z57 Z) fun c32 => jalc J57 Z fun g5 => ja Z (jdq (rPhi.c_In d0) fun q8 w8 => ?_)))))))))
 refine jsta k0 Z57 Z Z Z ⟨Z,w8.one,trivial⟩ (saf Z) (jn (jx (jr (jm Z (js (jf F57_0 Z) (js (jl k0 O3 Z Z) (jlit (r := (rI .i64)) (l := [(ix ((ix f.Blocks k).Phis) i).Dst]) U32 I3 (by decide) Z Z Z (lV Z Z (wI (rPhi.W_Dst d0)) ln) fun g36 => jm Z (jm Z (js (jsub Z Z (by omega)) (jfz k0 (by (try simp) <;> omega) ?_))))))))))
 refine jc E57 Z Z (kAll_ct (f := f) _ _ hp9.1 hp9.2.1 (by rw [hL2,hL1]; exact hp9.2.2)) (dc d3 (dc d0 dn)) (kc k2 (kc k2 kn)) (fun _ => p0) (fun _ => p2) fun _ => jn (jbn (jx (jr (js (jadd Z Z (by omega)) (jm Z (jn ?_))))))
 exact jag (i + 1,insA ((k : Nat) : Int) ((-1) - ((i : Nat) : Int)) ([(ix ((ix f.Blocks k).Phis) i).Dst]) L2) ⟨by dsimp only; omega,by dsimp only; rw [hL2]; rfl⟩ (dc d2 (dc d3 dn)) (kc k3 (kd kn)) ⟨Z,Z,Z,Z,Z,Z,Z,Z,eqI (by omega),trivial⟩
 refine jex (jtx (jtx (jbh (jx (jq (jq (jr (js (jf F52_1 Z) (js (jl k0 O35 Z Z) (js (jln U35 (rBlock.cI d0) Z) (jm Z ?_)))))))))))
 refine jn (jx (jb ?_))
 refine jlp (u2 fun (j : Nat) (L3 : List (Int × Value)) => ⟨j ≤ (ix f.Blocks k).Ins.length ∧ L3 = inA k (ix f.Blocks k).Ins L2 j,[da rBlock (vBlock (ix f.Blocks k) (c24a,c24b,c24c,c24d)) (ix f.Blocks k),da rFunc (vFunc f cf) f],[bx g3 52 [c24a,c24b,.int .i64 (((ix f.Blocks k).Term).Kind),c24c,c24d,.int .i32 (((ix f.Blocks k).Term).Imm)],bx g0 99 [.int .i64 f.Params,cf,.map (some gm)],im gm L3],[(0,.pointer (some ⟨g0,0,none⟩)),(2,.int .i64 (↑k)),(3,.pointer (some ⟨g3,0,none⟩)),(18,cf),(19,.int .i64 (↑(List.length f.Blocks))),(20,.int .i64 (↑k)),(43,c24b),(44,.int .i64 (↑(List.length ((ix f.Blocks k).Ins)))),(45,.int .i64 (↑j))],(ix f.Blocks k).Ins.length - j⟩) (0,L2) ⟨by dsimp only; omega,rfl⟩ (dc d0 (dc d1 dn)) (kd (kc k0 kn)) ⟨Z,Z,Z,Z,Z,Z,Z,Z,eqI (by omega),trivial⟩ ?_
 rintro ⟨j,L3⟩; dsimp only [u2]; rintro ⟨hj,hL3⟩
 refine jq (jr (js (jlss Z Z) (jn (jx (jq ?_)))))
 refine jif Z (fun hc3 => ?_) (fun hc3 => ?_)
 have hi9 := hG.ina hb (i := j) (by omega)
 have ho9 := hG.op k hb _ (ix_mem (l := (ix f.Blocks k).Ins) (i := j) (by omega))
 refine jsk (jx (jq (jb (jq (jr (jm Z (js (jix U35 Z34 (rBlock.cI d0) Z Z Z (by omega)) (jA sIns (jlA (dix (rBlock.cI d0) j (by omega)) A34 Z34 Z) fun c49 => jalc J34 Z fun g7 => ja Z (jdq (rIns.c_Args d0) fun q11 w11 => ?_)))))))))
 refine jsta k0 Z34 Z Z Z ⟨Z,Z,Z,w11.one,Z,trivial⟩ (saf Z) (jn (jx (jq (jr (js (jf F34_0 Z) (js (jl k0 O3 Z Z) (jcv E54 Z Z (within_ct ((ix ((ix f.Blocks k).Ins) j).Op) 1 18) dn kn (jm Z (jm Z (jc E53 Z Z (must_ct _ 10 ↑k ↑j (within_of ho9.1)) dn kn (fun _ => p0) (fun _ => p0) fun _ => jn ?_))))))))))
 refine jx (jq (jr (js (jf F34_0 Z) (js (jl k0 O3 Z Z) (jcv E58 Z Z (oper_ct ((ix ((ix f.Blocks k).Ins) j).Op)) dn kn (jm Z (js (jex' Z Z) (js (jex' Z Z) (ja Z (ja Z (jn ?_)))))))))))
 refine jx (jq (jr (js (jf F34_3 Z) (js (jl k0 O32 Z Z) (js (jln U32 (rIns.c_Args d0) Z) (jm Z (jm Z (jcv E54 Z Z (within_ct (↑(List.length ((ix ((ix f.Blocks k).Ins) j).Args))) ((operM ((ix ((ix f.Blocks k).Ins) j).Op)).1) ((operM ((ix ((ix f.Blocks k).Ins) j).Op)).2)) dn kn (jm Z (jm Z (jc E53 Z Z (must_ct _ 10 ↑k ↑j (within_of ho9.2)) dn kn (fun _ => p0) (fun _ => p0) fun _ => ?_)))))))))))
 refine jn (jx (jr (jm Z (js (jla k0 A34 Z34 Z Z Z) (jcd E59 Z Z kMakes_ct (dc d0 dn) kn fun v73 q12 w12 => jm Z (jm Z (jc E57 Z Z (kAll_ct (f := f) _ _ hi9.1 hi9.2.1 (by rw [hL3,hL2,hL1,show i = (ix f.Blocks k).Phis.length by omega]; exact hi9.2.2)) (dc d3 (dc d0 dn)) (kc k2 (kc k2 kn)) (fun _ => p0) (fun _ => p2) fun _ => jn (jbn (jx ?_)))))))))
 refine jr (js (jadd Z Z (by omega)) (jm Z (jn ?_)))
 exact jag (j + 1,insA ((k : Nat) : Int) ((j : Nat) : Int) (makes3 (ix ((ix f.Blocks k).Ins) j)) L3) ⟨by dsimp only; omega,by dsimp only; rw [hL3]; rfl⟩ (dc d2 (dc d3 dn)) (kc k3 (kd kn)) ⟨Z,Z,Z,Z,Z,Z,Z,Z,eqI (by omega),trivial⟩
 refine jex (jtx (jtx (jbh (jx (jq ?_)))))
 refine jjo (fun (gS : Nat) => ⟨0 ≤ gS,[da rBlock (vBlock (ix f.Blocks k) (c24a,c24b,c24c,c24d)) (ix f.Blocks k),da rFunc (vFunc f cf) f],[bx gS 105 [.int .i64 sh.1,.int .i64 sh.2.1,.int .i64 sh.2.2.1,.int .i64 sh.2.2.2],bx g3 52 [c24a,c24b,.int .i64 (((ix f.Blocks k).Term).Kind),c24c,c24d,.int .i32 (((ix f.Blocks k).Term).Imm)],bx g0 99 [.int .i64 f.Params,cf,.map (some gm)],im gm L3],[(0,.pointer (some ⟨g0,0,none⟩)),(2,.int .i64 (((k : Nat) : Int))),(3,.pointer (some ⟨g3,0,none⟩)),(10,.pointer (some ⟨gS,0,none⟩)),(11,.bool true),(18,cf),(19,.int .i64 (((List.length f.Blocks : Nat) : Int))),(20,.int .i64 (((k : Nat) : Int)))]⟩) ?_ ?_
 refine jany false (.a 1 (.a 2 (.a 3 (.w 0 8 (.w 4 8 (.a 5 (.a 6 (.a 7 (.o 8 (.o 9 (.a 10 .e)))))) (.o 4 (.a 5 (.a 6 (.a 7 (.o 9 (.a 10 .e))))))) (.o 0 (.o 4 (.a 5 (.a 6 (.a 7 (.o 9 (.a 10 .e))))))))))) Mixed (by kernel_rfl) (kc k0 kn) fun F15 => jy Z (jf F52_2 Z) (jy Z (jf F37_0 Z) (jy Z (jl k0 O3 Z Z) ?_))
 refine jyw Z Z ?_ ?_
 refine jc E60 Z Z shapes_ct dn kn (fun _ => p0) (fun _ => p1) fun g79 => jyn d0 (kc k1 kn) ?_
 refine jyw Z Z ?_ ?_
 refine js (jlkoS U107 U3 J105 k0 Z Z (shL_at hs1)) (jyn d0 (kc k1 kn) (jy Z (jmv Z) (jy Z (jex' Z Z) (jy Z (jex' Z Z) (jyo Z (jalc J105 Z fun g10 => jyn d0 (kc k2 kn) (jyo Z (jsta k0 Z105 Z Z Z ⟨Z,Z,Z,Z,trivial⟩ (saf Z) (jyn d0 (kc k2 kn) (jy Z (jas Z) ?_))))))))))
 refine jyd ?_
 exact jje g10 (Nat.zero_le _) (dc d4 (dc d5 dn)) (kc k0 (kc k1 (kc k1 (kc k1 kn)))) ⟨Z,Z,Z,Z,Z,Z,Z,Z,trivial⟩
 refine jalc J105 Z fun g10 => jyn d0 (kc k2 kn) (jyo Z (js (jlkoS U107 U3 J105 k1 Z Z (shL_at hs1)) (jyn d0 (kc k2 kn) (jy Z (jmv Z) (jy Z (jex' Z Z) (jy Z (jex' Z Z) (jyo Z (jsta k0 Z105 Z Z Z ⟨Z,Z,Z,Z,trivial⟩ (saf Z) (jyn d0 (kc k2 kn) (jy Z (jas Z) ?_))))))))))
 refine jyd ?_
 exact jje g10 (Nat.zero_le _) (dc d4 (dc d5 dn)) (kc k0 (kc k1 (kc k1 (kc k1 kn)))) ⟨Z,Z,Z,Z,Z,Z,Z,Z,trivial⟩
 refine jalc J105 Z fun g10 => jyn d0 (kc k1 kn) (jyo Z (jc E60 Z Z shapes_ct dn kn (fun _ => p0) (fun _ => p1) fun g79 => jyn d0 (kc k2 kn) (jyo Z (js (jlkoS U107 U3 J105 k0 Z Z (shL_at hs1)) (jyn d0 (kc k2 kn) (jy Z (jmv Z) (jy Z (jex' Z Z) (jy Z (jex' Z Z) (jyo Z ?_)))))))))
 refine jsta k1 Z105 Z Z Z ⟨Z,Z,Z,Z,trivial⟩ (saf Z) (jyn d0 (kc k2 kn) (jy Z (jas Z) (jyd ?_)))
 exact jje g10 (Nat.zero_le _) (dc d4 (dc d5 dn)) (kc k0 (kc k1 (kc k1 (kc k1 kn)))) ⟨Z,Z,Z,Z,Z,Z,Z,Z,trivial⟩
 rintro gS; dsimp only; rintro hgS
 refine jx (jq (jany false (.a 0 (.a 1 (.a 2 (.a 3 (.a 4 (.a 5 (.a 6 (.a 7 (.a 8 (.a 9 (.a 23 (.a 24 (.a 25 (.a 26 (.o 10 (.a 11 (.a 12 (.a 13 (.a 14 (.a 15 (.a 16 (.a 17 (.a 18 (.a 19 (.a 20 (.o 21 (.a 22 (.o 27 .e)))))))))))))))))))))))))))) Mixed (by kernel_rfl) (kd kn) fun F20 => jy Z (jmv Z) (jy Z (jmv Z) (jyk Z Z Z (.t _) (jf F52_2 Z) (jyk Z Z Z (.t _) (jf F37_1 Z) (jyk Z Z Z (.t _) (jl k1 O32 Z Z) (jyk Z Z Z (.t _) (jln U32 (rBlock.c_Term_Args d0) Z) (jyk Z Z Z (.t _) (jf F105_0 Z) (jyk Z Z Z (.t _) (jl k0 O3 Z Z) (jyk Z Z Z (.t _) (jf F105_1 Z) ?_))))))))))
 refine jyk Z Z Z (.t _) (jl k0 O3 Z Z) (jy Z (jmv Z) (jy Z (jf F52_1 Z) (jy Z (jl k1 O35 Z Z) (jy Z (jln U35 (rBlock.cI d0) Z) (jyo Z (jgk Z Z (.t _) (jcv E54 Z Z (within_ct (↑(List.length (((ix f.Blocks k).Term).Args))) sh.1 sh.2.1) dn kn (jyn d0 (kd kn) (jy Z (jand Z Z) (jy Z (jmv Z) (jyg Z Z Z (.t _) (fun hg => jf F52_2 Z) ?_)))))))))))
 refine jyg Z Z Z (.t _) (fun hg => jf F37_2 (evg Z hg)) (jyg Z Z Z (.t _) (fun hg => jl k1 O32 (evg Z hg) Z) (jyg Z Z Z (.t _) (fun hg => jln U32 (rBlock.c_Term_To d0) (evg Z hg)) (jyg Z Z Z (.t _) (fun hg => jf F105_2 Z) (jyg Z Z Z (.t _) (fun hg => jl k0 O3 (evg Z hg) Z) (jyg Z Z Z (.t _) (fun hg => jf F105_3 Z) (jyg Z Z Z (.t _) (fun hg => jl k0 O3 (evg Z hg) Z) (jyo Z (jgc Z Z (.t _) E54 Z (fun hg => evl3 (evg Z hg) (evg Z hg) (evg Z hg)) (fun hg => (within_ct (↑(List.length (((ix f.Blocks k).Term).To))) sh.2.2.1 sh.2.2.2)) (fun hg => dn) kn p0 (jyn d0 (kd kn) (jy Z (jand Z Z) (jyo Z ?_)))))))))))
 refine jc E53 Z Z (must_ct _ 10 ↑k (↑(List.length ((ix f.Blocks k).Ins))) (by simp [within_of hs2,within_of hs3])) dn kn (fun _ => p0) (fun _ => p0) fun _ => jyn d0 (kd kn) (jyd (jx (jq (jr (js (jf F52_2 Z) (js (jf F37_2 Z) (js (jl k1 O32 Z Z) (js (jln U32 (rBlock.c_Term_To d3) Z) (jm Z (jn ?_))))))))))
 refine jx (jb ?_)
 refine jlp (fun (m : Nat) => ⟨m ≤ (ix f.Blocks k).Term.To.length,[da rBlock (vBlock (ix f.Blocks k) (c24a,c24b,c24c,c24d)) (ix f.Blocks k),da rFunc (vFunc f cf) f],[bx g3 52 [c24a,c24b,.int .i64 (((ix f.Blocks k).Term).Kind),c24c,c24d,.int .i32 (((ix f.Blocks k).Term).Imm)],bx g0 99 [.int .i64 f.Params,cf,.map (some gm)],im gm L3],[(0,.pointer (some ⟨g0,0,none⟩)),(2,.int .i64 (↑k)),(3,.pointer (some ⟨g3,0,none⟩)),(18,cf),(19,.int .i64 (↑(List.length f.Blocks))),(20,.int .i64 (↑k)),(116,c24d),(117,.int .i64 (↑(List.length (((ix f.Blocks k).Term).To)))),(118,.int .i64 (↑m))],(ix f.Blocks k).Term.To.length - m⟩) 0 (Nat.zero_le _) (dc d3 (dc d4 dn)) (kc k1 (kc k1 (kc k1 kn))) ⟨Z,Z,Z,Z,Z,Z,Z,Z,eqI (by omega),trivial⟩ ?_
 rintro m; dsimp only; rintro hm
 refine jq (jr (js (jlss Z Z) (jn (jx (jq ?_)))))
 refine jif Z (fun hc4 => ?_) (fun hc4 => ?_)
 have ht9 := hG.to k hb _ (ix_mem (l := (ix f.Blocks k).Term.To) (i := m) (by omega))
 refine jsk (jx (jq (jb (jq (jr (js (jix U32 Z3 (rBlock.c_Term_To d0) Z Z Z (by omega)) (js (jlI (dix (rBlock.c_Term_To d0) m (by omega)) O3 Z) (ja Z (jn (jx (jany false (.a 0 (.a 1 (.a 2 (.a 3 (.a 4 (.a 5 (.a 6 (.a 7 (.a 9 (.a 10 (.a 11 (.a 12 (.o 8 (.o 13 .e)))))))))))))) Mixed (by kernel_rfl) (kd kn) fun F24 => ?_)))))))))))
 refine jy Z (jmv Z) (jy Z (jmv Z) (jy Z (jnil Z) (jy Z (jf F99_0 Z) (jy Z (jf F30_1 Z) (jy Z (jl k1 O28 Z Z) (jy Z (jln U28 (rFunc.cB d1) Z) (jy Z (jsub Z Z (by omega)) (jy Z (jmv Z) (jy Z (jf F52_1 Z) (jy Z (jl k0 O35 Z Z) (jy Z (jln U35 (rBlock.cI d0) Z) ?_)))))))))))
 refine jyo Z (jcv E54 Z Z (within_ct (ix (((ix f.Blocks k).Term).To) m) 1 _) dn kn (jyn d0 (kd kn) (jyo Z (jc E53 Z Z (must_ct _ 14 ↑k (↑(List.length ((ix f.Blocks k).Ins))) (within_of (by omega))) dn kn (fun _ => p0) (fun _ => p0) fun _ => jyn d0 (kd kn) (jyd (jbn (jx (jr (js (jadd Z Z (by omega)) (jm Z ?_))))))))))
 refine jn ?_
 exact jag (m + 1) (by dsimp only; omega) (dc d2 (dc d3 dn)) (kd (kc k0 kn)) ⟨Z,Z,Z,Z,Z,Z,Z,Z,eqI (by omega),trivial⟩
 refine jex (jtx (jtx (jbh (jbn (jx (jr (js (jadd Z Z (by omega)) (jm Z (jn ?_)))))))))
 exact jag (k + 1,L3) ⟨by dsimp only; omega,by dsimp only; rw [hL3,hL2,hL1,show i = (ix f.Blocks k).Phis.length by omega,show j = (ix f.Blocks k).Ins.length by omega]; rfl⟩ (dc d1 dn) (kc k1 (kc k1 kn)) ⟨Z,Z,Z,eqI (by omega),trivial⟩
 refine jex (jtx (jtx (jbh ?_)))
 obtain rfl : L1 = bkA f.Blocks f.Blocks.length := by rw [hL1,show k = f.Blocks.length by omega]
 exact jd0 Z () Z dn (fun _ _ => (kd kn))
end Go.Proofs.Ytmfkkodnghambaa
namespace Go.Proofs.Ytmfkkodnghambaa
open Go.JE
theorem A30 : ∃ d,Try.prog.underlying 30 = some d ∧ (match d with | .struct _ | .array _ _ => true | _ => false) = true := ⟨_,Try.underlying30,rfl⟩
theorem E61 : Ent Try.prog 61 := ⟨_,Try.func61,by kernel_rfl,by kernel_rfl⟩
theorem E63 : Ent Try.prog 63 := ⟨_,Try.func63,by kernel_rfl,by kernel_rfl⟩
theorem E65 : Ent Try.prog 65 := ⟨_,Try.func65,by kernel_rfl,by kernel_rfl⟩
theorem E66 : Ent Try.prog 66 := ⟨_,Try.func66,by kernel_rfl,by kernel_rfl⟩
theorem E67 : Ent Try.prog 67 := ⟨_,Try.func67,by kernel_rfl,by kernel_rfl⟩
theorem F115_0 : Fld Try.prog 115 0 0 := ⟨_,_,Try.underlying115,rfl,rfl,1,(by unfold Sz; kernel_rfl),by decide⟩
theorem F115_1 : Fld Try.prog 115 1 1 := ⟨_,_,Try.underlying115,rfl,rfl,1,(by unfold Sz; kernel_rfl),by decide⟩
theorem F54_0 : Fld Try.prog 54 0 0 := ⟨_,_,Try.underlying54,rfl,rfl,1,(by unfold Sz; kernel_rfl),by decide⟩
theorem F54_1 : Fld Try.prog 54 1 1 := ⟨_,_,Try.underlying54,rfl,rfl,1,(by unfold Sz; kernel_rfl),by decide⟩
theorem F57_1 : Fld Try.prog 57 1 1 := ⟨_,_,Try.underlying57,rfl,rfl,1,(by unfold Sz; kernel_rfl),by decide⟩
theorem O55 : One Try.prog 55 := ⟨_,Try.underlying55,rfl⟩
theorem O96 : One Try.prog 96 := ⟨_,Try.underlying96,rfl⟩
theorem Z30 : Sz Try.prog 30 2 := by unfold Sz; kernel_rfl
theorem J54 : (Try.prog.info? 54).bind (·.zero) = some (.agg #[.int .i64 0,.int .i64 0]) := by kernel_rfl
set_option maxRecDepth 4000
theorem kUse_ct {g0 gm : Nat} {cf : Value} {f : D.Func} {L : List (Int × Value)} (v : Int) (b : Int) (p : Int) (a : Int) (t : Int) {g5 : Nat} {vi : Value} {idom : List Int} {g6 : Nat} (hG : GoodF f) (hL0 : L = bkA f.Blocks f.Blocks.length) (hD : DomG (graphF f) idom) (hb : 0 ≤ b ∧ b < f.Blocks.length) (hU : US f v b.toNat a) : Tr Try.prog 66 #[.int .i64 v,.int .i64 b,.int .i64 p,.int .i64 a,.int .i64 t,.pointer (some ⟨g5,0,none⟩),.pointer (some ⟨g6,0,none⟩)] [da rFunc (vFunc f cf) f,dv (rL (rI .i64)) vi idom] [bx g0 99 [.int .i64 f.Params,cf,.map (some gm)],im gm L,bx g5 96 [.pointer (some ⟨g0,0,none⟩)],bx g6 32 [vi]] (fun _ : Unit => .tuple #[]) (fun _ => []) (fun _ _ => [bx g0 99 [.int .i64 f.Params,cf,.map (some gm)],im gm (bkA f.Blocks f.Blocks.length),bx g5 96 [.pointer (some ⟨g0,0,none⟩)],bx g6 32 [vi]]) := by
 refine jenter (args := [.int .i64 v,.int .i64 b,.int .i64 p,.int .i64 a,.int .i64 t,.pointer (some ⟨g5,0,none⟩),.pointer (some ⟨g6,0,none⟩)]) Try.func66 rfl rfl rfl fun w0 X => ?_
 subst hL0
 refine jq (jq (jr (jm Z (js (jgeq Z Z) (jm Z (jg Z Z (.t _) (fun hg => jmv Z) (jg Z Z (.t _) (fun hg => jl k2 O96 Z Z) (jg Z Z (.t _) (fun hg => jnil (evg Z hg)) (jg Z Z (.t _) (fun hg => jf F99_0 (evg Z hg)) (jg Z Z (.t _) (fun hg => jf F30_0 (evg Z hg)) (jg Z Z (.t _) (fun hg => jl k0 O3 (evg Z hg) Z) ?_)))))))))))
 refine jg Z Z (.t _) (fun hg => jlss (evg Z hg) (evg Z hg)) (js (jand Z Z) (jn (jx ?_)))
 refine jif Z (fun hc1 => ?_) (fun hc1 => ?_)
 refine jrt (jtr ?_)
 exact jr0 Z () Z dn (fun _ _ => (kd (kd kn)))
 obtain ⟨wb,wp,hpos,hor⟩ := hU.resolve_left (fun h9 => by simp [h9.1,h9.2] at hc1)
 have hat := hG.once.at hpos _ hpos.1
 have hor2 := use_ok hb hD hpos hor
 refine jsk (jx (jq (jr (js (jl k2 O96 Z Z) (js (jnil Z) (js (jf F99_1 Z) (js (jl k0 O97 Z Z) (jm Z (js (jlkoS U97 U3 J115 k1 Z Z hat) (jm Z (js (jex' Z Z) ?_)))))))))))
 refine js (jex' Z Z) (jalc J115 Z fun g12 => jsta k0 Z115 Z Z Z ⟨Z,Z,trivial⟩ (saf Z) (ja Z (jn (jx (jq (jr (jm Z (jm Z (jk Z Z (.t _) (jf F115_0 Z) (jk Z Z (.t _) (jl k0 O3 Z Z) ?_))))))))))
 refine jk Z Z (.t _) (jmv Z) (jk Z Z (.t _) (jeql Z Z) (jk Z Z (.t _) (jmv Z) (jg Z Z (.t _) (fun hg => jf F115_1 Z) (jg Z Z (.t _) (fun hg => jl k0 O3 (evg Z hg) Z) (jg Z Z (.t _) (fun hg => jmv Z) (jg Z Z (.t _) (fun hg => jlss (evg Z hg) (evg Z hg)) (jg Z Z (.t _) (fun hg => jmv (evg Z hg)) (jg Z Z (.gf _ _) (fun hg => jf F115_1 Z) (jg Z Z (.gf _ _) (fun hg => jl k0 O3 (evg Z hg) Z) (jg Z Z (.gf _ _) (fun hg => jlss (evg Z hg) Z) (jg Z Z (.t _) (fun hg => jor2 hg Z Z) ?_)))))))))))
 refine jk Z Z (.t _) (jand Z Z) (jk Z Z (.t _) (jmv Z) (jg Z Z (.f _) (fun hg => jf F115_0 Z) (jg Z Z (.f _) (fun hg => jl k0 O3 (evg Z hg) Z) (jg Z Z (.f _) (fun hg => jmv Z) (jg Z Z (.f _) (fun hg => jneq (evg Z hg) (evg Z hg)) (jg Z Z (.f _) (fun hg => jmv (evg Z hg)) (jg Z Z (.gt _ _) (fun hg => jl k4 O32 Z Z) (jg Z Z (.gt _ _) (fun hg => jf F115_0 Z) (jg Z Z (.gt _ _) (fun hg => jl k0 O3 (evg Z hg) Z) (jg Z Z (.gt _ _) (fun hg => jmv Z) (jdq d1 fun q1 w1 => ?_)))))))))))
 refine jgc Z Z (.gt _ _) E67 Z (fun hg => evl3 (evg Z hg) (evg Z hg) (evg Z hg)) (fun hg => (dominates_ct ↑wb b)) (fun hg => (dc d1 dn)) kn p0 (jg Z Z (.f _) (fun hg => jand2 hg Z Z) (jk Z Z (.t _) (jor Z Z) (js (jand Z Z) (ja Z (jn (jx (jr (jm Z (jm Z (jm Z (jc E53 Z Z (must_ct _ 13 t p (by rcases hor2 with ⟨h1,h2⟩ | ⟨h1,h2⟩ <;> simp [h1,h2])) dn kn (fun _ => p0) (fun _ => p0) fun _ => ?_)))))))))))
 refine jn ?_
 exact jd0 Z () Z dn (fun _ _ => (kc k1 (kc k1 (kc k1 (kc k1 kn)))))
theorem kIndex_ct {a0 : Value} {l : List Int} (v : Int) : Tv Try.prog 74 #[a0,.int .i64 v] [dv (rL (rI .i64)) a0 l] [] (.int .i64 (idzM l v)) := by
 refine jenter (args := [a0,.int .i64 v]) Try.func74 rfl rfl rfl fun w0 X => ?_
 refine jq (jr (ja Z (jn (jx (jq (jq (jr (jm Z (jdq d0 fun q1 w1 => js (jln U32 d0 Z) (jm Z ?_))))))))))
 refine jn (jx (jb ?_))
 refine jlp (fun (k : Nat) => ⟨k ≤ l.length ∧ idzM l v = idxA l v (l.length - k) k,[dv (rL (rI .i64)) a0 l],[],[(0,a0),(1,.int .i64 v),(7,.int .i64 (↑(List.length l))),(8,.int .i64 (↑k))],l.length - k⟩) 0 ⟨Nat.zero_le _,rfl⟩ (dc d0 dn) kn ⟨Z,Z,Z,eqI (by omega),trivial⟩ ?_
 rintro k; dsimp only; rintro ⟨hk,hix⟩
 refine jq (jr (js (jlss Z Z) (jn (jx (jq ?_)))))
 refine jif Z (fun hc1 => ?_) (fun hc1 => ?_)
 refine jsk (jx (jq (jb (jq (jr (jm Z (ja Z (jn (jx (jq (jr ?_)))))))))))
 refine jm Z (jm Z (jm Z (js (jix U32 Z3 d0 Z Z Z (by omega)) (js (jlI (dix d0 k (by omega)) O3 Z) (js (jeql Z Z) (jn (jx ?_)))))))
 refine jif Z (fun hc2 => ?_) (fun hc2 => ?_)
 refine jq (jr (jm Z (ja Z (jn (jx (jrt (jbr (jtr (jtr (jbr (jtr ?_)))))))))))
 exact jrI Z Z (by first | (rw [hix]; exact idxA_yes (by omega) hc2) | (rw [hix,show l.length - k = 0 by omega]; rfl))
 refine jsk (jbn (jx (jr (js (jadd Z Z (by omega)) (jm Z (jn ?_))))))
 exact jag (k + 1) ⟨by omega,by rw [hix]; exact idxA_no (by omega) hc2⟩ (dc d0 dn) kn ⟨Z,Z,Z,eqI (by omega),trivial⟩
 refine jex (jtx (jtx (jbh (jx (jq (jr (ja Z (jn (jx (jrt ?_))))))))))
 exact jrI Z Z (by first | (rw [hix]; exact idxA_yes (by omega) hc2) | (rw [hix,show l.length - k = 0 by omega]; rfl))
theorem kContains_ct {a0 : Value} {l : List Int} (v : Int) : Tv Try.prog 63 #[a0,.int .i64 v] [dv (rL (rI .i64)) a0 l] [] (.bool (conM l v)) := by
 refine jenter (args := [a0,.int .i64 v]) Try.func63 rfl rfl rfl fun w0 X => ?_
 refine jq (jr (ja Z (jn (jx (jq (jr (jm Z (jm Z (jdq d0 fun q1 w1 => jcv E74 Z Z (kIndex_ct v) (dc d0 dn) kn (js (jgeq Z Z) ?_))))))))))
 refine ja Z (jn (jx (jrt ?_)))
 exact jrB Z Z (by unfold conM; rfl)
set_option maxHeartbeats 2000000 in
theorem kUses_ct {g0 gm : Nat} {cf : Value} {f : D.Func} {L : List (Int × Value)} (hG : GoodF f) (hL0 : L = bkA f.Blocks f.Blocks.length) : Tr Try.prog 56 #[.pointer (some ⟨g0,0,none⟩)] [da rFunc (vFunc f cf) f] [bx g0 99 [.int .i64 f.Params,cf,.map (some gm)],im gm L] (fun _ : Unit => .tuple #[]) (fun _ => []) (fun _ _ => [bx g0 99 [.int .i64 f.Params,cf,.map (some gm)],im gm (bkA f.Blocks f.Blocks.length)]) := by
 refine jenter (args := [.pointer (some ⟨g0,0,none⟩)]) Try.func56 rfl rfl rfl fun w0 X => ?_
 subst hL0
 have hn := hG.gn
 have hw := hG.gw
 have hgl := graph_len f
 have hpl := preds_len (graphF f)
 refine jq (jr (jbox Z Z fun g1 => jn (jx (jq (jr (js (jl k0 O96 Z Z) (js (jnil Z) (js (jf F99_0 Z) (js (jla k1 A30 Z30 Z Z Z) (jcd E61 Z Z graphOf_ct (dc d0 dn) kn fun v27 q1 w1 => ?_))))))))))
 refine ja Z (jn (jx (jq (jr (jm Z (jc E62 Z Z (order_ct hn hw) (dc d0 dn) kn (fun _ => p2) (fun _ => p0) fun c29 => jpu d1 fun hod => ja Z (jn (jx (jq ?_)))))))))
 refine jq (jr (js (jl k0 O96 Z Z) (js (jnil Z) (js (jf F99_0 Z) (js (jf F30_1 Z) (js (jl k1 O28 Z Z) (jdq (rFunc.cB d3) fun q5 w5 => js (jln U28 (rFunc.cB d3) Z) (jm Z (jn (jx ?_))))))))))
 refine jb ?_
 refine jlp (fun (k : Nat) => ⟨k ≤ f.Blocks.length,[dv (rL (rI .i64)) c29.1 c29.2,dv (rL (rL (rI .i64))) v27 (graphF f),da rFunc (vFunc f cf) f],[bx g1 96 [.pointer (some ⟨g0,0,none⟩)],bx g0 99 [.int .i64 f.Params,cf,.map (some gm)],im gm (bkA f.Blocks f.Blocks.length)],[(1,.pointer (some ⟨g1,0,none⟩)),(2,v27),(3,c29.1),(35,.int .i64 (↑(List.length f.Blocks))),(36,.int .i64 (↑k))],f.Blocks.length - k⟩) 0 (Nat.zero_le _) (dc d0 (dc d2 (dc d3 dn))) (kd (kc k0 kn)) ⟨Z,Z,Z,Z,eqI (by omega),trivial⟩ ?_
 rintro k; dsimp only; rintro hk
 refine jq (jr (js (jlss Z Z) (jn (jx (jq ?_)))))
 refine jif Z (fun hc1 => ?_) (fun hc1 => ?_)
 have hcn := con_mem ((hod.all (k : Int)).2 ⟨by omega,by omega⟩)
 refine jsk (jx (jq (jb (jq (jr (jm Z (ja Z (jn (jx (jr (jm Z ?_)))))))))))
 refine jm Z (jdq d0 fun q6 w6 => jcv E63 Z Z (kContains_ct ↑k) (dc d0 dn) kn (jm Z (jc E53 Z Z (must_ct _ 15 ↑k 0 hcn) dn kn (fun _ => p0) (fun _ => p0) fun _ => jn (jbn (jx (jr (js (jadd Z Z (by omega)) (jm Z (jn ?_)))))))))
 exact jag (k + 1) (by dsimp only; omega) (dc d0 (dc d1 (dc d2 dn))) (kd (kc k0 kn)) ⟨Z,Z,Z,Z,eqI (by omega),trivial⟩
 refine jex (jtx (jtx (jbh (jx (jq (jr (jm Z (jcd E64 Z Z (preds_ct hn.2) (dc d1 dn) kn fun v46 q7 w7 => jm Z (jc E65 Z Z (idom_ct hn hw) (dc d2 dn) kn (fun _ => p2) (fun _ => p0) fun c48 => jpu d1 fun hdg => ?_)))))))))
 refine jalc J32 Z fun g6 => ja Z (jdq d0 fun q11 w11 => jst k0 Z32 Z Z w11.one s0 (jn (jx (jq (jr (js (jmf2 Z Z) (ja Z (jn (jx ?_)))))))))
 refine jq (jr (js (jl k1 O96 Z Z) (js (jnil Z) (js (jf F99_0 Z) (js (jf F30_1 Z) (js (jl k2 O28 Z Z) (js (jln U28 (rFunc.cB d5) Z) (jm Z (jn (jx (jb ?_)))))))))))
 refine jlp (fun (k : Nat) => ⟨k ≤ f.Blocks.length,[dv (rL (rI .i64)) c48.1 c48.2,dv (rL (rL (rI .i64))) v46 (predsG (graphF f)),da rFunc (vFunc f cf) f],[bx g6 32 [c48.1],bx g1 96 [.pointer (some ⟨g0,0,none⟩)],bx g0 99 [.int .i64 f.Params,cf,.map (some gm)],im gm (bkA f.Blocks f.Blocks.length)],[(1,.pointer (some ⟨g1,0,none⟩)),(5,v46),(7,.func (.func 66) #[] #[.pointer (some ⟨g1,0,none⟩),.pointer (some ⟨g6,0,none⟩)]),(54,cf),(55,.int .i64 (↑(List.length f.Blocks))),(56,.int .i64 (↑k))],f.Blocks.length - k⟩) 0 (Nat.zero_le _) (dc d0 (dc d2 (dc d5 dn))) (kd (kd kn)) ⟨Z,Z,Z,Z,Z,eqI (by omega),trivial⟩ ?_
 rintro k; dsimp only; rintro hk
 refine jq (jr (js (jlss Z Z) (jn (jx (jq ?_)))))
 refine jif Z (fun hc2 => ?_) (fun hc2 => ?_)
 have hb : k < f.Blocks.length := by omega
 refine jsk (jx (jq (jb (jq (jr (jm Z (js (jix U28 Z52 (rFunc.cB d2) Z Z Z (by omega)) (jA4 sBlock (jlA (dix (rFunc.cB d2) k (by omega)) A52 Z52 Z) fun c60a c60b c60c c60d => jalc J52 Z fun g9 => ja Z (jdq (rBlock.cP d0) fun q13 w13 => ?_)))))))))
 refine jdq (rBlock.cI d0) fun q14 w14 => jdq (rBlock.c_Term_Args d0) fun q15 w15 => jdq (rBlock.c_Term_To d0) fun q16 w16 => jsta k0 Z52 Z Z Z ⟨w13.one,w14.one,Z,w15.one,w16.one,Z,trivial⟩ (saf Z) (jn (jx (jq (jq (jr (js (jf F52_0 Z) (js (jl k0 O50 Z Z) (js (jln U50 (rBlock.cP d0) Z) ?_))))))))
 refine jm Z (jn (jx (jb ?_)))
 refine jlp (fun (i : Nat) => ⟨i ≤ (ix f.Blocks k).Phis.length,[da rBlock (vBlock (ix f.Blocks k) (c60a,c60b,c60c,c60d)) (ix f.Blocks k),dv (rL (rI .i64)) c48.1 c48.2,dv (rL (rL (rI .i64))) v46 (predsG (graphF f)),da rFunc (vFunc f cf) f],[bx g9 52 [c60a,c60b,.int .i64 (((ix f.Blocks k).Term).Kind),c60c,c60d,.int .i32 (((ix f.Blocks k).Term).Imm)],bx g6 32 [c48.1],bx g1 96 [.pointer (some ⟨g0,0,none⟩)],bx g0 99 [.int .i64 f.Params,cf,.map (some gm)],im gm (bkA f.Blocks f.Blocks.length)],[(1,.pointer (some ⟨g1,0,none⟩)),(5,v46),(7,.func (.func 66) #[] #[.pointer (some ⟨g1,0,none⟩),.pointer (some ⟨g6,0,none⟩)]),(8,.int .i64 (↑k)),(9,.pointer (some ⟨g9,0,none⟩)),(54,cf),(55,.int .i64 (↑(List.length f.Blocks))),(56,.int .i64 (↑k)),(62,c60a),(63,.int .i64 (↑(List.length ((ix f.Blocks k).Phis)))),(64,.int .i64 (↑i))],(ix f.Blocks k).Phis.length - i⟩) 0 (Nat.zero_le _) (dc d0 (dc d1 (dc d2 (dc d3 dn)))) (kd (kd (kc k0 kn))) ⟨Z,Z,Z,Z,Z,Z,Z,Z,Z,Z,eqI (by omega),trivial⟩ ?_
 rintro i; dsimp only; rintro hi
 refine jq (jr (js (jlss Z Z) (jn (jx (jq ?_)))))
 refine jif Z (fun hc3 => ?_) (fun hc3 => ?_)
 have hi9 := hG.in1 hb (i := i) (by omega)
 refine jsk (jx (jq (jb (jq (jr (jm Z (js (jix U50 Z57 (rBlock.cP d0) Z Z Z (by omega)) (jA sPhi (jlA (dix (rBlock.cP d0) i (by omega)) A57 Z57 Z) fun c68 => jalc J57 Z fun g11 => ja Z (jdq (rPhi.c_In d0) fun q18 w18 => ?_)))))))))
 refine jsta k0 Z57 Z Z Z ⟨Z,w18.one,trivial⟩ (saf Z) (jn (jx (jq (jstl Mixed (by kernel_rfl) (jt (jmv Z) (jt (jgtr Z Z) (jt (jmv Z) (jtg Z Z (.t _) (fun hg => jf F57_1 Z) (jtg Z Z (.t _) (fun hg => jl k0 O55 (evg Z hg) Z) (jtg Z Z (.t _) (fun hg => jln U55 (rPhi.c_In d0) (evg Z hg)) (jtg Z Z (.t _) (fun hg => jmv Z) ?_)))))))))))
 refine jtg Z Z (.t _) (fun hg => jmv Z) (jtg Z Z (.t _) (fun hg => jix U109 Z32 d3 (evg Z hg) (evg Z hg) Z (by first | omega | (simp at hg; omega) | (simp only [List.length_set]; omega) | (simp; done))) (jtge (q := fun v => dv (rL (rI .i64)) v (ix (predsG (graphF f)) k)) Z Z (.t _) (fun hg => jlV (dix d3 k (by first | omega | (simp at hg; omega) | (simp only [List.length_set]; omega) | (simp; done))) O32 Z (evg Z hg)) fun v78 => jtg Z Z (.t _) (fun hg => jln U32 (d0.on hg) (evg Z hg)) (jtg Z Z (.t _) (fun hg => jeql (evg Z hg) (evg Z hg)) (jt (jand Z Z) (jt (jas Z) (jdn (jx (jq (jq (jr ?_))))))))))
 refine js (jf F57_1 Z) (js (jl k0 O55 Z Z) (js (jln U55 (rPhi.c_In d1) Z) (jm Z (jn (jx (jb ?_))))))
 refine jlp (u2 fun (j : Nat) (ft : Bool) => ⟨j ≤ (ix (ix f.Blocks k).Phis i).In.length ∧ ft = true,[da rPhi (vPhi (ix ((ix f.Blocks k).Phis) i) c68) (ix ((ix f.Blocks k).Phis) i),da rBlock (vBlock (ix f.Blocks k) (c60a,c60b,c60c,c60d)) (ix f.Blocks k),dv (rL (rI .i64)) c48.1 c48.2,dv (rL (rL (rI .i64))) v46 (predsG (graphF f)),da rFunc (vFunc f cf) f],[bx g11 57 [.int .i64 ((ix ((ix f.Blocks k).Phis) i).Dst),c68],bx g9 52 [c60a,c60b,.int .i64 (((ix f.Blocks k).Term).Kind),c60c,c60d,.int .i32 (((ix f.Blocks k).Term).Imm)],bx g6 32 [c48.1],bx g1 96 [.pointer (some ⟨g0,0,none⟩)],bx g0 99 [.int .i64 f.Params,cf,.map (some gm)],im gm (bkA f.Blocks f.Blocks.length)],[(1,.pointer (some ⟨g1,0,none⟩)),(5,v46),(7,.func (.func 66) #[] #[.pointer (some ⟨g1,0,none⟩),.pointer (some ⟨g6,0,none⟩)]),(8,.int .i64 (↑k)),(9,.pointer (some ⟨g9,0,none⟩)),(10,.int .i64 (↑i)),(11,.pointer (some ⟨g11,0,none⟩)),(12,.bool ft),(54,cf),(55,.int .i64 (↑(List.length f.Blocks))),(56,.int .i64 (↑k)),(62,c60a),(63,.int .i64 (↑(List.length ((ix f.Blocks k).Phis)))),(64,.int .i64 (↑i)),(83,c68),(84,.int .i64 (↑(List.length ((ix ((ix f.Blocks k).Phis) i).In)))),(85,.int .i64 (↑j))],(ix (ix f.Blocks k).Phis i).In.length - j⟩) (0,(decide (0 < ((k : Nat) : Int))) && (decide (((List.length ((ix ((ix f.Blocks k).Phis) i).In) : Nat) : Int) = ((List.length (ix (predsG (graphF f)) k) : Nat) : Int)))) ⟨Nat.zero_le _,by simp [hi9]⟩ (dc d1 (dc d2 (dc d3 (dc d4 (dc d5 dn))))) (kd (kd (kd kn))) ⟨Z,Z,Z,Z,Z,Z,Z,Z,Z,Z,Z,Z,Z,Z,Z,Z,eqI (by omega),trivial⟩ ?_
 rintro ⟨j,ft⟩; dsimp only [u2]; rintro ⟨hj,hft⟩
 refine jq (jr (js (jlss Z Z) (jn (jx (jq ?_)))))
 refine jif Z (fun hc4 => ?_) (fun hc4 => ?_)
 have hj9 := hG.in2 hb (i := i) (j := j) (by omega) (by omega)
 refine jsk (jx (jq (jb (jq (jr (jm Z (js (jix U55 Z54 (rPhi.c_In d0) Z Z Z (by omega)) (jA sIn (jlA (dix (rPhi.c_In d0) j (by omega)) A54 Z54 Z) fun _ => jalc J54 Z fun g14 => ja Z (jsta k0 Z54 Z Z Z ⟨Z,Z,trivial⟩ (saf Z) ?_)))))))))
 refine jn (jx (jstl Mixed (by kernel_rfl) (jt (jmv Z) (jt (jmv Z) (jtg Z Z (.t _) (fun hg => jf F54_0 Z) (jtg Z Z (.t _) (fun hg => jl k0 O3 (evg Z hg) Z) (jtg Z Z (.t _) (fun hg => jmv Z) (jtg Z Z (.t _) (fun hg => jmv Z) (jtg Z Z (.t _) (fun hg => jix U109 Z32 d4 (evg Z hg) (evg Z hg) Z (by first | omega | (simp at hg; omega) | (simp only [List.length_set]; omega) | (simp; done))) (jtge (q := fun v => dv (rL (rI .i64)) v (ix (predsG (graphF f)) k)) Z Z (.t _) (fun hg => jlV (dix d4 k (by first | omega | (simp at hg; omega) | (simp only [List.length_set]; omega) | (simp; done))) O32 Z (evg Z hg)) fun v97 => jtg Z Z (.t _) (fun hg => jmv Z) ?_))))))))))
 refine jtg Z Z (.t _) (fun hg => jix U32 Z3 (d0.on hg) (evg Z hg) (evg Z hg) Z (by first | omega | (simp at hg; omega) | (simp only [List.length_set]; omega) | (simp; done))) (jtg Z Z (.t _) (fun hg => jlI (dix (d0.on hg) j (by first | omega | (simp at hg; omega) | (simp only [List.length_set]; omega) | (simp; done))) O3 (evg Z hg)) (jtg Z Z (.t _) (fun hg => jeql (evg Z hg) (evg Z hg)) (jt (jand Z Z) (jt (jas Z) (jdn (jbn (jx (jr (js (jadd Z Z (by omega)) (jm Z (jn ?_)))))))))))
 exact jag (j + 1,ft && (decide ((ix ((ix ((ix f.Blocks k).Phis) i).In) j).From = ix (ix (predsG (graphF f)) k) j))) ⟨by dsimp only; omega,by simp [hft,hj9]⟩ (dc d2 (dc d3 (dc d4 (dc d5 (dc d6 dn))))) (kc k1 (kc k1 (kc k1 (kc k1 (kc k1 (kc k1 kn)))))) ⟨Z,Z,Z,Z,Z,Z,Z,Z,Z,Z,Z,Z,Z,Z,Z,Z,eqI (by omega),trivial⟩
 refine jex (jtx (jtx (jbh (jx (jq (jr (jm Z (jm Z (jm Z (js (jsub Z Z (by omega)) (jc E53 Z Z (must_ct _ 16 ↑k _ hft) dn kn (fun _ => p0) (fun _ => p0) fun _ => ?_)))))))))))
 refine jn (jx (jq (jr (js (jf F57_1 Z) (js (jl k0 O55 Z Z) (js (jln U55 (rPhi.c_In d0) Z) (jm Z (jn (jx (jb ?_))))))))))
 refine jlp (fun (j : Nat) => ⟨j ≤ (ix (ix f.Blocks k).Phis i).In.length,[da rPhi (vPhi (ix ((ix f.Blocks k).Phis) i) c68) (ix ((ix f.Blocks k).Phis) i),da rBlock (vBlock (ix f.Blocks k) (c60a,c60b,c60c,c60d)) (ix f.Blocks k),dv (rL (rI .i64)) c48.1 c48.2,dv (rL (rL (rI .i64))) v46 (predsG (graphF f)),da rFunc (vFunc f cf) f],[bx g9 52 [c60a,c60b,.int .i64 (((ix f.Blocks k).Term).Kind),c60c,c60d,.int .i32 (((ix f.Blocks k).Term).Imm)],bx g6 32 [c48.1],bx g1 96 [.pointer (some ⟨g0,0,none⟩)],bx g0 99 [.int .i64 f.Params,cf,.map (some gm)],im gm (bkA f.Blocks f.Blocks.length)],[(1,.pointer (some ⟨g1,0,none⟩)),(5,v46),(7,.func (.func 66) #[] #[.pointer (some ⟨g1,0,none⟩),.pointer (some ⟨g6,0,none⟩)]),(8,.int .i64 (↑k)),(9,.pointer (some ⟨g9,0,none⟩)),(10,.int .i64 (↑i)),(54,cf),(55,.int .i64 (↑(List.length f.Blocks))),(56,.int .i64 (↑k)),(62,c60a),(63,.int .i64 (↑(List.length ((ix f.Blocks k).Phis)))),(64,.int .i64 (↑i)),(110,c68),(111,.int .i64 (↑(List.length ((ix ((ix f.Blocks k).Phis) i).In)))),(112,.int .i64 (↑j))],(ix (ix f.Blocks k).Phis i).In.length - j⟩) 0 (Nat.zero_le _) (dc d0 (dc d1 (dc d2 (dc d3 (dc d4 dn))))) (kc k1 (kc k1 (kc k1 (kc k1 (kc k1 kn))))) ⟨Z,Z,Z,Z,Z,Z,Z,Z,Z,Z,Z,Z,Z,Z,eqI (by omega),trivial⟩ ?_
 rintro j; dsimp only; rintro hj
 refine jq (jr (js (jlss Z Z) (jn (jx (jq ?_)))))
 refine jif Z (fun hc5 => ?_) (fun hc5 => ?_)
 have hj9 := hG.in2 hb (i := i) (j := j) (by omega) (by omega)
 have hu9 := hG.up k hb _ (ix_mem (l := (ix f.Blocks k).Phis) (i := i) (by omega)) _ (ix_mem (i := j) (by omega))
 refine jsk (jx (jq (jb (jq (jr (js (jix U55 Z54 (rPhi.c_In d0) Z Z Z (by omega)) (jA sIn (jlA (dix (rPhi.c_In d0) j (by omega)) A54 Z54 Z) fun _ => jalc J54 Z fun g16 => jsta k0 Z54 Z Z Z ⟨Z,Z,trivial⟩ (saf Z) (jn (jx ?_)))))))))
 refine jany false (.a 0 (.a 1 (.a 2 (.a 3 (.a 4 (.a 5 (.a 6 (.a 7 (.a 8 (.a 9 (.a 10 (.a 11 (.a 12 (.a 13 (.a 14 (.a 15 (.a 16 (.a 17 (.a 18 (.o 19 .e)))))))))))))))))))) Mixed (by kernel_rfl) (kc k0 (kc k2 (kc k2 kn))) fun F23 => jy Z (jmv Z) (jy Z (jf F54_1 Z) (jy Z (jl k0 O3 Z Z) (jy Z (jf F54_0 Z) (jy Z (jl k0 O3 Z Z) (jy Z (jmv Z) (jy Z (jsub Z Z (by omega)) (jy Z (jl k1 O96 Z Z) (jy Z (jnil Z) (jy Z (jf F99_0 Z) (jy Z (jf F30_1 Z) ?_))))))))))
 refine jy Z (jl k2 O28 Z Z) (jy Z (jf F54_0 Z) (jy Z (jl k0 O3 Z Z) (jy Z (jix (i := (Int.toNat ((ix ((ix ((ix f.Blocks k).Phis) i).In) j).From))) U28 Z52 (rFunc.cB d5) Z Z (by omega) (by omega)) (jy Z (jf F52_1 Z) (jye (q := fun v => dv (rL rIns) v ((ix f.Blocks (Int.toNat ((ix ((ix ((ix f.Blocks k).Phis) i).In) j).From))).Ins)) Z (xlV (rBlock.A_Ins (dix (rFunc.cB d5) (Int.toNat ((ix ((ix ((ix f.Blocks k).Phis) i).In) j).From)) (by omega))) O35 Z Z) fun v132 => adq d0 fun q25 w25 => jy Z (jln U35 d0 Z) (jy Z (jmv Z) (jyo Z (jc E66 Z Z (kUse_ct (f := f) _ _ _ _ _ hG rfl hdg hj9.2 hu9) (dc d7 (dc d5 dn)) (kc k4 (kc k4 (kc k3 (kc k2 kn)))) (fun _ => p0) (fun _ => p4) fun _ => jyn d0 (kc k4 (kc k2 (kc k0 kn))) ?_))))))))
 refine jyd (jbn (jx (jr (js (jadd Z Z (by omega)) (jm Z (jn ?_))))))
 exact jag (j + 1) (by dsimp only; omega) (dc d3 (dc d4 (dc d5 (dc d6 (dc d7 dn))))) (kc k5 (kc k3 (kc k2 (kd kn)))) ⟨Z,Z,Z,Z,Z,Z,Z,Z,Z,Z,Z,Z,Z,Z,eqI (by omega),trivial⟩
 refine jex (jtx (jtx (jbh (jbn (jx (jr (js (jadd Z Z (by omega)) (jm Z (jn ?_)))))))))
 exact jag (i + 1) (by dsimp only; omega) (dc d1 (dc d2 (dc d3 (dc d4 dn)))) (kd (kd (kc k0 kn))) ⟨Z,Z,Z,Z,Z,Z,Z,Z,Z,Z,eqI (by omega),trivial⟩
 refine jex (jtx (jtx (jbh (jx (jq (jq (jr (js (jf F52_1 Z) (js (jl k0 O35 Z Z) (js (jln U35 (rBlock.cI d0) Z) (jm Z ?_)))))))))))
 refine jn (jx (jb ?_))
 refine jlp (fun (i : Nat) => ⟨i ≤ (ix f.Blocks k).Ins.length,[da rBlock (vBlock (ix f.Blocks k) (c60a,c60b,c60c,c60d)) (ix f.Blocks k),dv (rL (rI .i64)) c48.1 c48.2,dv (rL (rL (rI .i64))) v46 (predsG (graphF f)),da rFunc (vFunc f cf) f],[bx g9 52 [c60a,c60b,.int .i64 (((ix f.Blocks k).Term).Kind),c60c,c60d,.int .i32 (((ix f.Blocks k).Term).Imm)],bx g6 32 [c48.1],bx g1 96 [.pointer (some ⟨g0,0,none⟩)],bx g0 99 [.int .i64 f.Params,cf,.map (some gm)],im gm (bkA f.Blocks f.Blocks.length)],[(1,.pointer (some ⟨g1,0,none⟩)),(5,v46),(7,.func (.func 66) #[] #[.pointer (some ⟨g1,0,none⟩),.pointer (some ⟨g6,0,none⟩)]),(8,.int .i64 (↑k)),(9,.pointer (some ⟨g9,0,none⟩)),(54,cf),(55,.int .i64 (↑(List.length f.Blocks))),(56,.int .i64 (↑k)),(139,c60b),(140,.int .i64 (↑(List.length ((ix f.Blocks k).Ins)))),(141,.int .i64 (↑i))],(ix f.Blocks k).Ins.length - i⟩) 0 (Nat.zero_le _) (dc d0 (dc d1 (dc d2 (dc d3 dn)))) (kd (kd (kc k0 kn))) ⟨Z,Z,Z,Z,Z,Z,Z,Z,Z,Z,eqI (by omega),trivial⟩ ?_
 rintro i; dsimp only; rintro hi
 refine jq (jr (js (jlss Z Z) (jn (jx (jq ?_)))))
 refine jif Z (fun hc6 => ?_) (fun hc6 => ?_)
 refine jsk (jx (jq (jb (jq (jr (jm Z (js (jix U35 Z34 (rBlock.cI d0) Z Z Z (by omega)) (jA sIns (jlA (dix (rBlock.cI d0) i (by omega)) A34 Z34 Z) fun c145 => jalc J34 Z fun g18 => ja Z (jdq (rIns.c_Args d0) fun q28 w28 => ?_)))))))))
 refine jsta k0 Z34 Z Z Z ⟨Z,Z,Z,w28.one,Z,trivial⟩ (saf Z) (jn (jx (jq (jr (js (jf F34_3 Z) (js (jl k0 O32 Z Z) (js (jln U32 (rIns.c_Args d0) Z) (jm Z (jn (jx (jb ?_)))))))))))
 refine jlp (fun (j : Nat) => ⟨j ≤ (ix (ix f.Blocks k).Ins i).Args.length,[da rIns (vIns (ix ((ix f.Blocks k).Ins) i) c145) (ix ((ix f.Blocks k).Ins) i),da rBlock (vBlock (ix f.Blocks k) (c60a,c60b,c60c,c60d)) (ix f.Blocks k),dv (rL (rI .i64)) c48.1 c48.2,dv (rL (rL (rI .i64))) v46 (predsG (graphF f)),da rFunc (vFunc f cf) f],[bx g9 52 [c60a,c60b,.int .i64 (((ix f.Blocks k).Term).Kind),c60c,c60d,.int .i32 (((ix f.Blocks k).Term).Imm)],bx g6 32 [c48.1],bx g1 96 [.pointer (some ⟨g0,0,none⟩)],bx g0 99 [.int .i64 f.Params,cf,.map (some gm)],im gm (bkA f.Blocks f.Blocks.length)],[(1,.pointer (some ⟨g1,0,none⟩)),(5,v46),(7,.func (.func 66) #[] #[.pointer (some ⟨g1,0,none⟩),.pointer (some ⟨g6,0,none⟩)]),(8,.int .i64 (↑k)),(9,.pointer (some ⟨g9,0,none⟩)),(17,.int .i64 (↑i)),(54,cf),(55,.int .i64 (↑(List.length f.Blocks))),(56,.int .i64 (↑k)),(139,c60b),(140,.int .i64 (↑(List.length ((ix f.Blocks k).Ins)))),(141,.int .i64 (↑i)),(147,c145),(148,.int .i64 (↑(List.length ((ix ((ix f.Blocks k).Ins) i).Args)))),(149,.int .i64 (↑j))],(ix (ix f.Blocks k).Ins i).Args.length - j⟩) 0 (Nat.zero_le _) (dc d0 (dc d1 (dc d2 (dc d3 (dc d4 dn))))) (kc k1 (kc k1 (kc k1 (kc k1 (kc k1 kn))))) ⟨Z,Z,Z,Z,Z,Z,Z,Z,Z,Z,Z,Z,Z,Z,eqI (by omega),trivial⟩ ?_
 rintro j; dsimp only; rintro hj
 refine jq (jr (js (jlss Z Z) (jn (jx (jq ?_)))))
 refine jif Z (fun hc7 => ?_) (fun hc7 => ?_)
 have hu9 := hG.ui k hb i (by omega) _ (ix_mem (l := (ix (ix f.Blocks k).Ins i).Args) (i := j) (by omega))
 refine jsk (jx (jq (jb (jq (jr (js (jix U32 Z3 (rIns.c_Args d0) Z Z Z (by omega)) (js (jlI (dix (rIns.c_Args d0) j (by omega)) O3 Z) (ja Z (jn (jx (jr ?_)))))))))))
 refine jm Z (jm Z (jm Z (jm Z (jm Z (jm Z (jc E66 Z Z (kUse_ct (f := f) _ _ _ _ _ hG rfl hdg ⟨by omega,by omega⟩ hu9) (dc d4 (dc d2 dn)) (kc k3 (kc k3 (kc k2 (kc k1 kn)))) (fun _ => p0) (fun _ => p4) fun _ => jn (jbn (jx (jr (js (jadd Z Z (by omega)) ?_))))))))))
 refine jm Z (jn ?_)
 exact jag (j + 1) (by dsimp only; omega) (dc d0 (dc d1 (dc d2 (dc d3 (dc d4 dn))))) (kc k4 (kc k3 (kc k2 (kd kn)))) ⟨Z,Z,Z,Z,Z,Z,Z,Z,Z,Z,Z,Z,Z,Z,eqI (by omega),trivial⟩
 refine jex (jtx (jtx (jbh (jbn (jx (jr (js (jadd Z Z (by omega)) (jm Z (jn ?_)))))))))
 exact jag (i + 1) (by dsimp only; omega) (dc d1 (dc d2 (dc d3 (dc d4 dn)))) (kd (kd (kc k0 kn))) ⟨Z,Z,Z,Z,Z,Z,Z,Z,Z,Z,eqI (by omega),trivial⟩
 refine jex (jtx (jtx (jbh (jx (jq (jr (js (jf F52_2 Z) (js (jf F37_1 Z) (js (jl k0 O32 Z Z) (js (jln U32 (rBlock.c_Term_Args d0) Z) (jm Z ?_)))))))))))
 refine jn (jx (jb ?_))
 refine jlp (fun (j : Nat) => ⟨j ≤ (ix f.Blocks k).Term.Args.length,[da rBlock (vBlock (ix f.Blocks k) (c60a,c60b,c60c,c60d)) (ix f.Blocks k),dv (rL (rI .i64)) c48.1 c48.2,dv (rL (rL (rI .i64))) v46 (predsG (graphF f)),da rFunc (vFunc f cf) f],[bx g9 52 [c60a,c60b,.int .i64 (((ix f.Blocks k).Term).Kind),c60c,c60d,.int .i32 (((ix f.Blocks k).Term).Imm)],bx g6 32 [c48.1],bx g1 96 [.pointer (some ⟨g0,0,none⟩)],bx g0 99 [.int .i64 f.Params,cf,.map (some gm)],im gm (bkA f.Blocks f.Blocks.length)],[(1,.pointer (some ⟨g1,0,none⟩)),(5,v46),(7,.func (.func 66) #[] #[.pointer (some ⟨g1,0,none⟩),.pointer (some ⟨g6,0,none⟩)]),(8,.int .i64 (↑k)),(9,.pointer (some ⟨g9,0,none⟩)),(54,cf),(55,.int .i64 (↑(List.length f.Blocks))),(56,.int .i64 (↑k)),(164,c60c),(165,.int .i64 (↑(List.length (((ix f.Blocks k).Term).Args)))),(166,.int .i64 (↑j))],(ix f.Blocks k).Term.Args.length - j⟩) 0 (Nat.zero_le _) (dc d0 (dc d1 (dc d2 (dc d3 dn)))) (kd (kd (kc k0 kn))) ⟨Z,Z,Z,Z,Z,Z,Z,Z,Z,Z,eqI (by omega),trivial⟩ ?_
 rintro j; dsimp only; rintro hj
 refine jq (jr (js (jlss Z Z) (jn (jx (jq ?_)))))
 refine jif Z (fun hc8 => ?_) (fun hc8 => ?_)
 have hu9 := hG.ut k hb _ (ix_mem (l := (ix f.Blocks k).Term.Args) (i := j) (by omega))
 refine jsk (jx (jq (jb (jq (jr (js (jix U32 Z3 (rBlock.c_Term_Args d0) Z Z Z (by omega)) (js (jlI (dix (rBlock.c_Term_Args d0) j (by omega)) O3 Z) (ja Z (jn (jx (jr ?_)))))))))))
 refine jm Z (jm Z (jm Z (js (jf F52_1 Z) (js (jl k0 O35 Z Z) (js (jln U35 (rBlock.cI d0) Z) (js (jf F52_1 Z) (js (jl k0 O35 Z Z) (js (jln U35 (rBlock.cI d0) Z) (jm Z (jc E66 Z Z (kUse_ct (f := f) _ _ _ _ _ hG rfl hdg ⟨by omega,by omega⟩ hu9) (dc d3 (dc d1 dn)) (kc k3 (kc k3 (kc k2 (kc k1 kn)))) (fun _ => p0) (fun _ => p4) fun _ => jn ?_))))))))))
 refine jbn (jx (jr (js (jadd Z Z (by omega)) (jm Z (jn ?_)))))
 exact jag (j + 1) (by dsimp only; omega) (dc d0 (dc d1 (dc d2 (dc d3 dn)))) (kc k4 (kc k3 (kc k2 (kd kn)))) ⟨Z,Z,Z,Z,Z,Z,Z,Z,Z,Z,eqI (by omega),trivial⟩
 refine jex (jtx (jtx (jbh (jbn (jx (jr (js (jadd Z Z (by omega)) (jm Z (jn ?_)))))))))
 exact jag (k + 1) (by dsimp only; omega) (dc d1 (dc d2 (dc d3 dn))) (kc k1 (kc k1 (kc k1 (kc k1 kn)))) ⟨Z,Z,Z,Z,Z,eqI (by omega),trivial⟩
 refine jex (jtx (jtx (jbh ?_)))
 exact jd0 Z () Z dn (fun _ _ => (kc k2 (kc k2 kn)))
end Go.Proofs.Ytmfkkodnghambaa
namespace Go.JE
variable {P : Program} {n : Fs} {w0 : World} {Q : Exit → Act → World → Prop} {e : Env} {H : Heap}
theorem resolve_fn {ρ : Operand → Value} {x : Operand} {t : TypeId} {f : FuncId} {lb : Array Value} (h : ρ x = .func (.func f) #[] lb) (w : World) : (resolve ρ { callee := .value x,args := #[],argTypes := #[] } t).run P w = .ok { target := .fn (.func f) lb,args := #[] } w := by
 simp [resolve,h,Deferred.ofValue]
theorem LF.dfr {ops : Array Oper} {x : Operand} {ty : TypeId} {pos : String} {af : Array Edge} {rest : List Oper} {f : FuncId} {lb : Array Value} (hx : ev e x = some (.func (.func f) #[] lb))
   (K : LF P ⟨n.sz,{ target := .fn (.func f) lb,args := #[] } :: n.ds⟩ w0 ops Q e rest H) : LF P n w0 ops Q e (⟨none,.defer { callee := .value x,args := #[],argTypes := #[] },ty,pos,af,none⟩ :: rest) H := by
 intro a w hf hw
 refine wpList_plain rfl fun K' hK' => ?_
 unfold Oper.wp
 have hr : (execOp a.eval ⟨none,.defer { callee := .value x,args := #[],argTypes := #[] },ty,pos,af,none⟩).run P w = .ok (.defer { target := .fn (.func f) lb,args := #[] }) w := by
   simp [execOp,resolve_fn (hf.ev hx)]
 rw [hr]
 exact hK' _ _ (K _ _ ⟨hf.size,by show _ :: a.defers = _; rw [hf.defers],hf.get⟩ hw)
theorem invoke_fn {f : FuncId} {lb : Array Value} (hE : Ent P f) (w : World) : (invoke (.fn (.func f) lb) #[]).run P w = .ok (.enter f lb) w := by
 simp only [invoke]
 rw [show (#[] ++ lb : Array Value) = lb by simp]
 exact hE.run lb w
theorem OpOk.eqlIf {T T' : TypeId} {x : Operand} (hT : P.underlying T = some (.interface #[])) (hx : ev e x = some .nilIface) : OpOk P e (.binOp .eql T x (.const .nilIface) T') H (.bool true) := by
 intro ρ o w ho hev _
 have h1 : ∀ d,(Op.equalIn (d + 1) T .nilIface .nilIface).run P w = .ok true w := fun d => by
   simp only [Op.equalIn,Sem.run_bind,run_underlying hT,Result.andThen_ok]; rfl
 have h2 : (Op.equal T .nilIface .nilIface).run P w = .ok true w := h1 9999
 have h3 : ∀ d,(Op.eqGuardIn (d + 1) T .nilIface .nilIface).run P w = .ok false w := fun d => by
   simp only [Op.eqGuardIn,Sem.run_bind,run_underlying hT,Result.andThen_ok]; rfl
 have hy : ρ (.const .nilIface) = .nilIface := hev _ _ rfl
 simp only [execOp,ho,hev _ _ hx,hy,eqGuard,binOp]
 simp [h2,h3]
theorem callsD_quiet {f : FuncId} {fn : Func} {args : List Value} {id d m : Nat} {ty : TypeId} {pos : String} {af : Array Edge} {c : Code} {R : Value → Heap → Prop} {w : World} (hf : P.funcs[f]? = some fn)
   (hb : fn.body = some (.seq (.region id #[⟨some d,.call { callee := .builtin .recover,args := #[],argTypes := #[] },ty,pos,af,none⟩] false) c)) (hn : fn.ntmps = m) (ha : Nat.ble args.length m = true) (hd : Nat.blt d m = true)
   (h : CF P ⟨m,[]⟩ w (BQ P fn w R) ((d,.nilIface) :: number 0 args) c w.heap) :
   CallsD P f args.toArray .returning w fun x u' w' => u' = .returning ∧ ∃ v,x = .returned v ∧ w'.os = w.os ∧ w'.tape = w.tape ∧ w'.output = w.output ∧ R v w'.heap := by
 refine callsD_of_wpS hf hb fun c₀ cs hu => wpS_seq (wpS_region ?_)
 have hl : List.range (#[(⟨some d,.call { callee := .builtin .recover,args := #[],argTypes := #[] },ty,pos,af,none⟩ : Oper)]).size = [0] := rfl
 rw [hl]
 have ha' : args.length ≤ m := by simpa [Nat.ble_eq] using ha
 have hfr : Fr ⟨m,[]⟩ (number 0 args) { tmps := args.toArray ++ Array.replicate (fn.ntmps - args.toArray.size) undef,defers := [] } := by
   refine ⟨by simp [hn]; omega,rfl,fun t v hv => ?_⟩
   obtain ⟨i,h1,h2⟩ := lk_number args 0 t v hv
   have hi : i < args.length := (List.getElem?_eq_some_iff.1 h2).1
   have e1 : t = i := by omega
   subst e1
   simp only [Array.getD_eq_getD_getElem?]
   rw [Array.getElem?_append_left (by simpa using hi)]
   simp [h2]
 have hrun : ∀ ρ,(execOp ρ (⟨some d,.call { callee := .builtin .recover,args := #[],argTypes := #[] },ty,pos,af,none⟩ : Oper)).run P w = .ok .recover w := fun ρ => by
   simp [execOp,resolve,invoke,builtin]
 have hrec : recoverD (c₀ :: cs) = none := by simp [recoverD,hu]
 simp only [wpOpsS,List.getElem?_toArray,List.getElem?_cons_zero,Region.wanted,if_true,hrun,hrec]
 have h2 := h _ _ (hfr.put hd .nilIface) ⟨rfl,rfl,rfl,rfl⟩
 refine wpS_of_wp (Code.wp_mono ?_ h2)
 intro x a' w' hq
 cases x with
 | normal => obtain ⟨h1,v,h3,h4⟩ := hq; exact ⟨h1,.returning,by rw [← hu],v,h3,rfl,v,rfl,by obtain ⟨_,e,h5⟩ := h4; injection e with e; subst e; exact h5⟩
 | ret => obtain ⟨h1,v,h3,h4⟩ := hq; exact ⟨h1,.returning,by rw [← hu],v,h3,rfl,v,rfl,by obtain ⟨_,e,h5⟩ := h4; injection e with e; subst e; exact h5⟩
 | panic ch => obtain ⟨_,_,e,_⟩ := hq; cases e
 | exit i => exact hq
 | goto l => exact hq
 | outgrown => obtain ⟨_,e,_⟩ := hq; cases e
def BQD (P : Program) (fn : Func) (w0 : World) (R : Value → Heap → Prop) : Exit → Act → World → Prop :=
 bodyPostD P fn fun x w' => ∃ v,x = .returned v ∧ w'.os = w0.os ∧ w'.tape = w0.tape ∧ w'.output = w0.output ∧ R v w'.heap
theorem Ct.enterD {f : FuncId} {fn : Func} {c : Code} {args : List Value} {m : Nat} {R : Value → Heap → Prop} (hf : P.funcs[f]? = some fn) (hb : fn.body = some c) (hn : fn.ntmps = m) (ha : Nat.ble args.length m = true)
   (h : ∀ w0 : World,w0.heap = H → CF P ⟨m,[]⟩ w0 (BQD P fn w0 R) (number 0 args) c H) : Ct P f args.toArray H R := by
 intro w hw
 refine calls_of_wp_defers hf hb ?_
 have ha' : args.length ≤ m := by simpa [Nat.ble_eq] using ha
 refine h w hw _ w ⟨by simp [hn]; omega,rfl,fun t v hv => ?_⟩ ⟨hw,rfl,rfl,rfl⟩
 obtain ⟨i,h1,h2⟩ := lk_number args 0 t v hv
 have hi : i < args.length := (List.getElem?_eq_some_iff.1 h2).1
 have e1 : t = i := by omega
 subst e1
 simp only [Array.getD_eq_getD_getElem?]
 rw [Array.getElem?_append_left (by simpa using hi)]
 simp [h2]
theorem results_cell3 {fn : Func} {p q r g g' g'' : Nat} {ty ty' ty'' : TypeId} {v v' v'' : Value} (h : fn.results = #[.cell p ty,.cell q ty',.cell r ty'']) (tmps : Array Value) (w : World) (hp : tmps.getD p undef = .pointer (some ⟨g,0,none⟩)) (hO : One P ty) (hc : w.cell? ⟨g,0,none⟩ = some v)
   (hp' : tmps.getD q undef = .pointer (some ⟨g',0,none⟩)) (hO' : One P ty') (hc' : w.cell? ⟨g',0,none⟩ = some v') (hp'' : tmps.getD r undef = .pointer (some ⟨g'',0,none⟩)) (hO'' : One P ty'') (hc'' : w.cell? ⟨g'',0,none⟩ = some v'') :
   (results fn tmps).run P w = .ok (.tuple #[v,v',v'']) w := by
 have h1 : tmps[p]?.getD undef = .pointer (some ⟨g,0,none⟩) := by simpa using hp
 have h2 : tmps[q]?.getD undef = .pointer (some ⟨g',0,none⟩) := by simpa using hp'
 have h3 : tmps[r]?.getD undef = .pointer (some ⟨g'',0,none⟩) := by simpa using hp''
 simp [results,h,h1,h2,h3,asAddr,loadVar,hO.run,hO'.run,hO''.run,hc,hc',hc'']
theorem PF.retD {fn : Func} {m f : Nat} {lb : Array Value} {R : Value → Heap → Prop} {v : Value} (hE : Ent P f) (hc : ∀ w : World,w.heap = H → CallsD P f lb .returning w fun x u' w' => u' = .returning ∧ ∃ v',x = .returned v' ∧ w'.os = w.os ∧ w'.tape = w.tape ∧ w'.output = w.output ∧ w'.heap = H)
   (hr : ∀ (a : Act) (w : World),Fr ⟨m,[{ target := .fn (.func f) lb,args := #[] }]⟩ e a → w.heap = H → (results fn a.tmps).run P w = .ok v w) (hR : R v H) : PF ⟨m,[{ target := .fn (.func f) lb,args := #[] }]⟩ w0 (BQD P fn w0 R) e .ret H := by
 intro a w hf hw
 show Leaves P fn a.tmps _ a.defers .returning w
 rw [hf.defers]
 refine leaves_cons (by simp) (invoke_fn hE w) ((hc w hw.heap).mono ?_)
 rintro x u' w' ⟨rfl,v',rfl,h1,h2,h3,h4⟩
 exact ⟨v,hr a w' hf h4,v,rfl,h1.trans hw.os,h2.trans hw.tape,h3.trans hw.output,h4 ▸ hR⟩
section
variable {f : FuncId} {fn : Func} {c : Code} {args : List Value} {D D0 : List Dt} {L L0 M : List Res} {X : Cx} {ι : Type} {val : ι → Value} {dr : ι → List Dt} {lr : Nat → ι → List Res}
def RQD (P : Program) (fn : Func) (w0 : World) (X : Cx) {ι : Type} (val : ι → Value) (dr : ι → List Dt) (lr : Nat → ι → List Res) : Exit → Act → World → Prop := BQD P fn w0 (fun v H' => ∃ i F',v = val i ∧ ∀ B,B ≤ X.n → Hp X (dr i) (lr B i) F' H')
theorem jenterD {m : Nat} (hf : P.funcs[f]? = some fn) (hb : fn.body = some c) (hn : fn.ntmps = m) (ha : Nat.ble args.length m = true)
   (h : ∀ (w0 : World) (X : Cx),CH P ⟨m,[]⟩ w0 (RQD P fn w0 X val dr lr) X D0 L0 (number 0 args) c) : Tr P f args.toArray D0 L0 val dr lr := fun F H hin hd ho =>
 Ct.enterD hf hb hn ha fun w0 hw => h w0 ⟨Own L0,H,F⟩ F H ⟨PH.ext.refl F,hin,Kw.refl _ _,hd,ho,fun k hk => .inr hk⟩
theorem jdf {ops : Array Oper} {x : Operand} {ty : TypeId} {pos : String} {af : Array Edge} {rest : List Oper} {f : FuncId} {lb : Array Value} (hx : ev e x = some (.func (.func f) #[] lb))
   (K : LH P ⟨n.sz,{ target := .fn (.func f) lb,args := #[] } :: n.ds⟩ w0 ops Q X D L e rest) : LH P n w0 ops Q X D L e (⟨none,.defer { callee := .value x,args := #[],argTypes := #[] },ty,pos,af,none⟩ :: rest) := fun F H hp => LF.dfr hx (K F H hp)
theorem jrD3 {m f' : Nat} {lb : Array Value} {p q r g g' g'' : Nat} {ty ty' ty'' T T' T'' : TypeId} {v v' v'' : Value} {N N' N'' : List Res} (hr : fn.results = #[.cell p ty,.cell q ty',.cell r ty'']) (hv : lk e p = some (.pointer (some ⟨g,0,none⟩))) (hv' : lk e q = some (.pointer (some ⟨g',0,none⟩))) (hv'' : lk e r = some (.pointer (some ⟨g'',0,none⟩)))
   (hb : Tk L (bx g T [v]) N) (hO : One P ty) (hb' : Tk L (bx g' T' [v']) N') (hO' : One P ty') (hb'' : Tk L (bx g'' T'' [v'']) N'') (hO'' : One P ty'') (hE : Ent P f')
   (hc : ∀ w : World,CallsD P f' lb .returning w fun x u' w' => u' = .returning ∧ ∃ v',x = .returned v' ∧ w'.os = w.os ∧ w'.tape = w.tape ∧ w'.output = w.output ∧ w'.heap = w.heap)
   (i : ι) (hm : .tuple #[v,v',v''] = val i) (hd : Sd D L (dr i)) (hk : ∀ B,B ≤ X.n → Tks L (lr B i) M) : QH ⟨m,[{ target := .fn (.func f') lb,args := #[] }]⟩ w0 (RQD P fn w0 X val dr lr) X D L e .ret := fun F H hp =>
 PF.retD hE (fun w hw => by have h := hc w; rw [hw] at h; exact h) (fun a w hf hw => results_cell3 hr _ w (hf.get p _ hv) hO (by rw [cell_hc,hw]; exact (hp.at hb).1.hc rfl) (hf.get q _ hv') hO' (by rw [cell_hc,hw]; exact (hp.at hb').1.hc rfl) (hf.get r _ hv'') hO'' (by rw [cell_hc,hw]; exact (hp.at hb'').1.hc rfl)) ⟨i,F,hm,fun B hB => hp.sub hd (hk B hB)⟩
end
end Go.JE
namespace Go.Proofs.Ytmfkkodnghambaa
open Go.JE
abbrev U20 := @Try.underlying20
theorem E45 : Ent Try.prog 45 := ⟨_,Try.func45,by kernel_rfl,by kernel_rfl⟩
theorem E52 : Ent Try.prog 52 := ⟨_,Try.func52,by kernel_rfl,by kernel_rfl⟩
theorem E55 : Ent Try.prog 55 := ⟨_,Try.func55,by kernel_rfl,by kernel_rfl⟩
theorem E56 : Ent Try.prog 56 := ⟨_,Try.func56,by kernel_rfl,by kernel_rfl⟩
theorem O83 : One Try.prog 83 := ⟨_,Try.underlying83,rfl⟩
theorem Z83 : Sz Try.prog 83 1 := by unfold Sz; kernel_rfl
theorem J3 : (Try.prog.info? 3).bind (·.zero) = some (.int .i64 0) := by kernel_rfl
theorem J83 : (Try.prog.info? 83).bind (·.zero) = some (.int .i64 0) := by kernel_rfl
set_option maxRecDepth 4000
theorem recov_ct (g2 g3 g4 : Nat) (w : World) : CallsD Try.prog 52 #[.pointer (some ⟨g2,0,none⟩),.pointer (some ⟨g3,0,none⟩),.pointer (some ⟨g4,0,none⟩)] .returning w fun x u' w' => u' = .returning ∧ ∃ v',x = .returned v' ∧ w'.os = w.os ∧ w'.tape = w.tape ∧ w'.output = w.output ∧ w'.heap = w.heap := by
 refine (callsD_quiet (args := [.pointer (some ⟨g2,0,none⟩),.pointer (some ⟨g3,0,none⟩),.pointer (some ⟨g4,0,none⟩)]) (R := fun _ H' => H' = w.heap) Try.func52 rfl rfl rfl rfl ?_)
 exact CF.block (CF.seq (CF.region (LF.step (OpOk.eqlIf U20 rfl) (LF.nil (PF.next (CF.cond rfl (fun _ => CF.region (LF.step (OpOk.assign rfl) (LF.nil (PF.blockNormal (PF.end0 rfl rfl))))) (fun h => by cases h)))))))
set_option maxHeartbeats 1000000 in
theorem kFunc_ct {a0 : Value} {f : D.Func} (hG : GoodF f) : Tv Try.prog 45 #[vFunc f a0] [da rFunc (vFunc f a0) f] [] (.tuple #[.int .i64 0,.int .i64 0,.int .i64 0]) := by
 refine jenterD (args := [vFunc f a0]) Try.func45 rfl rfl rfl fun w0 X => ?_
 have hln := hG.len
 have hpr := hG.par
 refine jq (jr (jbox Z Z fun g1 => jalc J83 Z fun g2 => jalc J3 Z fun g3 => jalc J3 Z fun g4 => jn (jx (jq (jr (js (jmf3 Z Z Z) (jdf Z ?_)))))))
 refine jn (jx (jq (jr (js (jf F30_0 Z) (js (jl k3 O3 Z Z) (jcv E54 Z Z (within_ct f.Params 0 4) dn kn (jc E53 Z Z (must_ct _ 1 0 0 (within_of hpr)) dn kn (fun _ => p0) (fun _ => p0) fun _ => jn (jx (jq (jr ?_))))))))))
 refine js (jf F30_1 Z) (js (jl k3 O28 Z Z) (jdq (rFunc.cB d0) fun q1 w1 => js (jln U28 (rFunc.cB d0) Z) (js (jgtr Z Z) (jc E53 Z Z (must_ct _ 14 0 0 (by simp; omega)) dn kn (fun _ => p0) (fun _ => p0) fun _ => jn (jx (jq (jr (js (jf F30_1 Z) (js (jl k3 O28 Z Z) ?_)))))))))
 refine js (jln U28 (rFunc.cB d0) Z) (ja Z (jn (jx (jq (jq (jr (js (jf F30_1 Z) (js (jl k3 O28 Z Z) (js (jln U28 (rFunc.cB d0) Z) (jm Z (jn ?_)))))))))))
 refine jx (jb ?_)
 refine jlp (u2 fun (k : Nat) (s : Int) => ⟨k ≤ f.Blocks.length ∧ s = ((f.Blocks.length + cntF3 (f.Blocks.take k) : Nat) : Int),[da rFunc (vFunc f a0) f],[bx g4 3 [.int .i64 0],bx g3 3 [.int .i64 0],bx g2 83 [.int .i64 0],bx g1 30 [.int .i64 f.Params,a0]],[(1,.pointer (some ⟨g1,0,none⟩)),(2,.pointer (some ⟨g2,0,none⟩)),(3,.pointer (some ⟨g3,0,none⟩)),(4,.pointer (some ⟨g4,0,none⟩)),(5,.int .i64 s),(23,a0),(24,.int .i64 (↑(List.length f.Blocks))),(25,.int .i64 (↑k))],f.Blocks.length - k⟩) (0,(f.Blocks.length : Int)) ⟨by dsimp only; omega,by dsimp only; simp [cntF3]⟩ (dc d0 dn) (kd (kd kn)) ⟨Z,Z,Z,Z,eqI (by omega),Z,Z,eqI (by omega),trivial⟩ ?_
 rintro ⟨k,s⟩; dsimp only [u2]; rintro ⟨hk,hs⟩
 have hs9 := cntF3_le f.Blocks k
 have hcn := hG.cnt
 refine jq (jr (js (jlss Z Z) (jn (jx (jq ?_)))))
 refine jif Z (fun hc1 => ?_) (fun hc1 => ?_)
 have hb9 := cntF3_nx (bs := f.Blocks) (k := k) (by omega)
 have hb8 := cntF3_le f.Blocks (k + 1)
 refine jsk (jx (jq (jb (jq (jr (js (jix U28 Z52 (rFunc.cB d0) Z Z Z (by omega)) (jA4 sBlock (jlA (dix (rFunc.cB d0) k (by omega)) A52 Z52 Z) fun c28a c28b c28c c28d => jalc J52 Z fun g7 => jdq (rBlock.cP d0) fun q3 w3 => jdq (rBlock.cI d0) fun q4 w4 => jdq (rBlock.c_Term_Args d0) fun q5 w5 => ?_)))))))
 refine jdq (rBlock.c_Term_To d0) fun q6 w6 => jsta k0 Z52 Z Z Z ⟨w3.one,w4.one,Z,w5.one,w6.one,Z,trivial⟩ (saf Z) (jn (jx (jr (jm Z (js (jf F52_0 Z) (js (jl k0 O50 Z Z) (js (jln U50 (rBlock.cP d0) Z) (js (jf F52_1 Z) (js (jl k0 O35 Z Z) (js (jln U35 (rBlock.cI d0) Z) ?_))))))))))
 refine js (jadd Z Z (by omega)) (js (jadd Z Z (by omega)) (ja Z (jn (jbn (jx (jr (js (jadd Z Z (by omega)) (jm Z (jn ?_)))))))))
 exact jag (k + 1,s + ((((List.length ((ix f.Blocks k).Phis) : Nat) : Int)) + (((List.length ((ix f.Blocks k).Ins) : Nat) : Int)))) ⟨by dsimp only; omega,by dsimp only; rw [hs,cntF3_nx (by omega)]; omega⟩ (dc d1 dn) (kc k1 (kc k1 (kc k1 (kc k1 kn)))) ⟨Z,Z,Z,Z,eqI (by omega),Z,Z,eqI (by omega),trivial⟩
 have hsn : s = ((f.Blocks.length + cntF3 f.Blocks : Nat) : Int) := by rw [hs,List.take_of_length_le (by omega)]
 refine jex (jtx (jtx (jbh (jx (jq (jr (js (jf F30_1 Z) (js (jl k3 O28 Z Z) (js (jln U28 (rFunc.cB d0) Z) (js (jleq Z Z) (jm Z ?_)))))))))))
 refine jg Z Z (.t _) (fun hg => jmv Z) (jg Z Z (.t _) (fun hg => jleq (evg Z hg) Z) (js (jand Z Z) (jc E53 Z Z (must_ct _ 2 0 0 (by simp; omega)) dn kn (fun _ => p0) (fun _ => p0) fun _ => jn (jx (jq (jr (js (jla k3 A30 Z30 Z Z Z) (jmm fun g49 => js (jbu (v := .agg #[.int .i64 f.Params,a0,.map (some g49)]) Z (fun _ => by obtain ⟨_,_,_,rfl⟩ := w1; kernel_rfl)) (jbox Z Z fun g51 => ?_)))))))))
 refine ja Z (jn (jx (jq (jr (jm Z (jc E55 Z Z (kShape_ct (f := f) hG rfl) (dc d0 dn) (kd kn) (fun _ => p0) (fun _ => p2) fun _ => jn (jx (jq (jr (jm Z ?_))))))))))
 refine jc E56 Z Z (kUses_ct (f := f) hG rfl) (dc d0 dn) (kd kn) (fun _ => p0) (fun _ => p2) fun _ => jn (jx (jq (jr (jst k4 Z83 Z Z Z s0 (jst k4 Z3 Z Z Z s0 (jst k4 Z3 Z Z Z s0 (jn (jx (jrt ?_)))))))))
 exact jrD3 Z Z Z Z k2 O83 k1 O3 k0 O3 E52 (recov_ct g2 g3 g4) () Z dn (fun _ _ => kn)
theorem kRight_ct {a0 : Value} {f : D.Func} (hG : GoodF f) : Tv Try.prog 22 #[vFunc f a0] [da rFunc (vFunc f a0) f] [] (.bool true) := by
 refine jenter (args := [vFunc f a0]) Try.func22 rfl rfl rfl fun w0 X => ?_
 refine jq (jr (jbox Z Z fun g1 => ja Z (jn (jx (jq (jr (js (jla k0 A30 Z30 Z Z Z) (jcv E45 Z Z (kFunc_ct hG) (dc d0 dn) kn (jm Z (js (jex' Z Z) ?_))))))))))
 refine js (jex' Z Z) (js (jex' Z Z) (ja Z (ja Z (ja Z (jn (jx (jq (jr (jm Z (js (jeql Z Z) (ja Z ?_)))))))))))
 refine jn (jx (jrt ?_))
 exact jrB Z Z (by simp)
end Go.Proofs.Ytmfkkodnghambaa
namespace Go.JE
variable {P : Program} {D D0 : List Dt} {L M Ls L0 : List Res} {e : Env} {X : Cx} {n : Fs} {w0 : World} {Q : Exit → Act → World → Prop}
def VmR (l : List (Int × Value)) (V : Int → Int) : Prop := ∀ k,(lkM l k).getD (.int .i32 0) = .int .i32 (V k)
def vm (g : Nat) (V : Int → Int) : Res where
 sat F H := ((∃ l,Im H g l ∧ VmR l V) ∧ ∀ k,IntKind.i32.wrap (V k) = V k) ∧ F g = none
 own k := k = g
 lt := fun ⟨⟨⟨l,h,_⟩,_⟩,_⟩ e => e ▸ h.lt
 no := fun h e => e ▸ h.2
 st := fun _ _ h1 h2 ⟨⟨⟨l,h,h3⟩,h4⟩,_⟩ => ⟨⟨⟨l,h.of (h2 g rfl),h3⟩,h4⟩,h1 g rfl⟩
def vme (g : Nat) (V : Int → Int) (k : Int) (st : Nat) : Res where
 sat F H := ((∃ l,ImS H g l k st ∧ VmR l V) ∧ ∀ k,IntKind.i32.wrap (V k) = V k) ∧ F g = none
 own k := k = g
 lt := fun ⟨⟨⟨l,h,_⟩,_⟩,_⟩ e => e ▸ h.im.lt
 no := fun h e => e ▸ h.2
 st := fun _ _ h1 h2 ⟨⟨⟨l,h,h3⟩,h4⟩,_⟩ => ⟨⟨⟨l,h.of (h2 g rfl),h3⟩,h4⟩,h1 g rfl⟩
def setV (V : Int → Int) (k v : Int) : Int → Int := fun j => if j = k then v else V j
theorem VmR.up {l : List (Int × Value)} {V : Int → Int} (h : VmR l V) (k v : Int) : VmR (upM l k (.int .i32 v)) (setV V k v) := fun j => by
 rw [upM_lk]; unfold setV
 split
 · rfl
 · exact h j
theorem VmR.ins {l : List (Int × Value)} {V : Int → Int} (h : VmR l V) (k : Int) : VmR (insM l k (.int .i32 0)) V := fun j => by
 have hj := h j
 unfold insM
 split
 · exact hj
 · rename_i hk
   have e : lkM (l ++ [(k,Value.int .i32 0)]) j = (lkM l j).or (lkM [(k,Value.int .i32 0)] j) := by
     unfold lkM; rw [List.find?_append]; cases List.find? (fun p => p.1 == j) l <;> rfl
   rw [e]
   cases h1 : lkM l j with
   | some u => rw [h1] at hj; exact hj
   | none =>
     rw [h1] at hj
     rw [← hj]
     unfold lkM
     simp only [List.find?_cons,List.find?_nil]
     cases k == j <;> rfl
theorem setV_wr {V : Int → Int} (h : ∀ k,IntKind.i32.wrap (V k) = V k) {k v : Int} (hv : IntKind.i32.wrap v = v) : ∀ j,IntKind.i32.wrap (setV V k v j) = setV V k v j := fun j => by
 unfold setV; split
 · exact hv
 · exact h j
def encW (nx : List (Int × Int)) : List (Int × Value) := nx.map (fun p => (p.1,.int .i32 p.2))
def nm (g : Nat) (nx : List (Int × Int)) : Res := im g (encW nx)
def upW : List (Int × Int) → Int → Int → List (Int × Int)
 | [],k,v => [(k,v)]
 | p :: r,k,v => if p.1 == k then (k,v) :: r else p :: upW r k v
theorem enc_up : ∀ (nx : List (Int × Int)) (k v : Int),upM (encW nx) k (.int .i32 v) = encW (upW nx k v)
 | [],k,v => rfl
 | p :: r,k,v => by
   show upM ((p.1,.int .i32 p.2) :: encW r) k (.int .i32 v) = encW (if p.1 == k then (k,v) :: r else p :: upW r k v)
   unfold upM
   split
   · rfl
   · rw [enc_up r k v]; rfl
def mit (r g : Nat) (nx : List (Int × Int)) (vis : List Int) : Res where
 sat F H := (It H r g (encW nx) vis ∧ r ≠ g) ∧ F r = none ∧ F g = none
 own k := k = r ∨ k = g
 lt := fun ⟨⟨h,_⟩,_⟩ e => by
   rcases e with e | e
   · obtain ⟨es,c,seen,_,_,h3,_⟩ := h
     rw [e]; exact (Array.getElem?_eq_some_iff.1 h3).1
   · rw [e]; exact h.im.lt
 no := fun h e => by rcases e with e | e <;> rw [e]; exact h.2.1; exact h.2.2
 st := fun _ _ h1 h2 ⟨⟨h,h3⟩,_⟩ => ⟨⟨h.of (h2 r (.inl rfl)) (h2 g (.inr rfl)),h3⟩,h1 r (.inl rfl),h1 g (.inr rfl)⟩
section
variable {ops : Array Oper} {op : Op} {d : Nat} {ty : TypeId} {pos : String} {af : Array Edge} {rest : List Oper} {T T' K E : TypeId} {x y z : Operand} {g r st : Nat} {V : Int → Int} {k v : Int} {nx : List (Int × Int)} {vis : List Int} {u : Value}
theorem jvn (kk : ∀ g,LH P n w0 ops Q X D (vm g (fun _ => 0) :: L) ((d,.map (some g)) :: e) rest) (hd : Nat.blt d n.sz = true := by rfl) : LH P n w0 ops Q X D L e (⟨some d,.makeMap T none,ty,pos,af,none⟩ :: rest) := fun F H hp =>
 LF.chg OpCh.makeMapB (by rintro _ H' ⟨g,rfl,eg,sg,kg,hb⟩; exact kk g F H' (hp.new (R := vm g (fun _ => 0)) kg ⟨⟨⟨[],hb,fun _ => rfl⟩,fun _ => by show IntKind.i32.wrap 0 = 0; decide⟩,hp.hin.nope (Nat.le_of_eq eg.symm)⟩ (fun k hk => by have : k = g := hk; omega))) hd
theorem jvk (hT : P.underlying T = some (.map K E)) (hK : P.underlying K = some (.int .i64)) (hz : (P.info? E).bind (·.zero) = some (.int .i32 0)) (hm : Tk L (vm g V) M) (hx : ev e x = some (.map (some g))) (hi : ev e z = some (.int .i64 k)) : OH P D L e (.lookup T x z false) (.int .i32 (V k)) := fun F H h1 h2 h => by
 obtain ⟨⟨⟨l,h3,h4⟩,_⟩,_⟩ := (hm.ok h).1
 rw [← h4 k]; exact OpOk.lookup hT hK hz h3 hx hi
theorem Tw.kwv {H H' : Heap} (h : Tw g H H') : Kw (vm g V).own H H' := ⟨Nat.le_of_eq h.1.symm,fun k _ h2 => h.2 k h2⟩
theorem jvu (hT : P.underlying T = some (.map K E)) (hK : P.underlying K = some (.int .i64)) (hm : Tk L (vm g V) M) (hx : ev e x = some (.map (some g))) (hi : ev e z = some (.int .i64 k)) (hy : ev e y = some (.int .i32 v)) (hw : Wr D L .i32 v)
   (kk : LH P n w0 ops Q X D (vm g (setV V k v) :: M) e rest) : LH P n w0 ops Q X D L e (⟨none,.mapUpdate T x z y,ty,pos,af,none⟩ :: rest) := fun F H hp => by
 obtain ⟨⟨⟨l,h3,h4⟩,h5⟩,h6⟩ := hp.at hm
 have h7 := hw F H hp.hin hp.hd hp.ok
 exact LF.chg0 (OpCh.mapUpdate hT hK h3 hx hi hy) (by rintro _ H' ⟨m,t⟩; exact kk F H' (hp.set (R' := vm g (setV V k v)) hm t.kwv ⟨⟨⟨_,m,h4.up k v⟩,setV_wr h5 h7⟩,h6⟩ (fun k h => .inr h)))
theorem jve (hT : P.underlying T = some (.map K E)) (hK : P.underlying K = some (.int .i64)) (hz : (P.info? E).bind (·.zero) = some (.int .i32 0)) (hm : Tk L (vm g V) M) (hx : ev e x = some (.map (some g))) (hi : ev e z = some (.int .i64 k))
   (kk : ∀ (u : Value) (st : Nat),LH P n w0 ops Q X D (vme g V k st :: M) ((d,.tuple #[u,.int .i64 st]) :: e) rest) (hd : Nat.blt d n.sz = true := by rfl) : LH P n w0 ops Q X D L e (⟨some d,.mapEntry T x z,ty,pos,af,none⟩ :: rest) := fun F H hp => by
 obtain ⟨⟨⟨l,h3,h4⟩,h5⟩,h6⟩ := hp.at hm
 exact LF.chg (OpCh.mapEntry hT hK hz h3 hx hi) (by rintro _ H' ⟨st,rfl,m,t⟩; exact kk _ st F H' (hp.set (R' := vme g V k st) hm t.kwv ⟨⟨⟨_,m,h4.ins k⟩,h5⟩,h6⟩ (fun k h => .inr h))) hd
theorem jvs (hm : Tk L (vme g V k st) M) (hx : ev e x = some (.map (some g))) (hi : ev e z = some (.int .i64 st)) (hy : ev e y = some (.int .i32 v)) (hw : Wr D L .i32 v)
   (kk : LH P n w0 ops Q X D (vm g (setV V k v) :: M) e rest) : LH P n w0 ops Q X D L e (⟨none,.entryStore T x z y,ty,pos,af,none⟩ :: rest) := fun F H hp => by
 obtain ⟨⟨⟨l,h3,h4⟩,h5⟩,h6⟩ := hp.at hm
 have h7 := hw F H hp.hin hp.hd hp.ok
 exact LF.chg0 (OpCh.entryStore h3 hx hi hy) (by rintro _ H' ⟨m,t⟩; exact kk F H' (hp.set (R' := vm g (setV V k v)) hm (t.kwv (V := V)) ⟨⟨⟨_,m,h4.up k v⟩,setV_wr h5 h7⟩,h6⟩ (fun k h => .inr h)))
theorem jvw (hm : Tk L (vm g V) M) (kk : (∀ k,IntKind.i32.wrap (V k) = V k) → LH P n w0 ops Q X D L e rest) : LH P n w0 ops Q X D L e rest := fun F H hp => kk (hp.at hm).1.2 F H hp
theorem cvw {c : Code} (hm : Tk L (vm g V) M) (kk : (∀ k,IntKind.i32.wrap (V k) = V k) → CH P n w0 Q X D L e c) : CH P n w0 Q X D L e c := fun F H hp => kk (hp.at hm).1.2 F H hp
theorem jnn (kk : ∀ g,LH P n w0 ops Q X D (nm g [] :: L) ((d,.map (some g)) :: e) rest) (hd : Nat.blt d n.sz = true := by rfl) : LH P n w0 ops Q X D L e (⟨some d,.makeMap T none,ty,pos,af,none⟩ :: rest) := jmm kk hd
theorem jnu (hT : P.underlying T = some (.map K E)) (hK : P.underlying K = some (.int .i64)) (hm : Tk L (nm g nx) M) (hx : ev e x = some (.map (some g))) (hi : ev e z = some (.int .i64 k)) (hy : ev e y = some (.int .i32 v))
   (kk : LH P n w0 ops Q X D (nm g (upW nx k v) :: M) e rest) : LH P n w0 ops Q X D L e (⟨none,.mapUpdate T x z y,ty,pos,af,none⟩ :: rest) := jup hT hK hm hx hi hy (enc_up nx k v) kk
theorem jri (hT : P.underlying T = some (.map K E)) (hm : Tk L (nm g nx) M) (hx : ev e x = some (.map (some g))) (kk : ∀ r,LH P n w0 ops Q X D (mit r g nx [] :: M) ((d,.pointer (some ⟨r,0,none⟩)) :: e) rest) (hd : Nat.blt d n.sz = true := by rfl) : LH P n w0 ops Q X D L e (⟨some d,.range T x,ty,pos,af,none⟩ :: rest) := fun F H hp => by
 obtain ⟨h3,h4⟩ := hp.at hm
 refine LF.chg (OpCh.range hT h3 hx) ?_ hd
 rintro _ H' ⟨rfl,h5,h6,h7⟩
 have hgl := h3.lt
 refine kk H.size F H' (hp.set (R' := mit H.size g nx []) hm ⟨by omega,fun k h1 _ => h7 k h1⟩ ⟨⟨h5,by omega⟩,hp.hin.nope (Nat.le_refl _),h4⟩ (fun k hk => ?_))
 rcases hk with hk | hk
 · exact .inl (by omega)
 · exact .inr hk
theorem jni (hk : Tk L (mit r g nx vis) M) (hx : ev e x = some (.pointer (some ⟨r,0,none⟩)))
   (k1 : (∀ p ∈ nx,p.1 ∈ vis) → LH P n w0 ops Q X D (mit r g nx vis :: M) ((d,.tuple #[.bool false]) :: e) rest)
   (k2 : ∀ k v,(k,v) ∈ nx → k ∉ vis → LH P n w0 ops Q X D (mit r g nx (vis ++ [k]) :: M) ((d,.tuple #[.bool true,.int .i64 k,.int .i32 v]) :: e) rest) (hd : Nat.blt d n.sz = true := by rfl) :
   LH P n w0 ops Q X D L e (⟨some d,.next x false,ty,pos,af,none⟩ :: rest) := fun F H hp => by
 obtain ⟨⟨h1,h2⟩,h3,h4⟩ := hp.at hk
 refine LF.chg (OpCh.next h2 h1 hx) ?_ hd
 rintro _ H' (⟨rfl,h5,rfl⟩ | ⟨k,w,rfl,h5,h6,h7,h8⟩)
 · refine k1 (fun p hp => h5 p.1 ?_) F H' (hp.set (R' := mit r g nx vis) hk (Kw.refl _ _) ⟨⟨h1,h2⟩,h3,h4⟩ (fun k h => .inr h))
   exact List.mem_map.2 ⟨(p.1,.int .i32 p.2),List.mem_map.2 ⟨p,hp,rfl⟩,rfl⟩
 · obtain ⟨p,h9,h10⟩ := List.mem_map.1 h5
   injection h10 with h10 h11
   subst h10; subst h11
   exact k2 p.1 p.2 h9 h6 F H' (hp.set (R' := mit r g nx (vis ++ [p.1])) hk ⟨Nat.le_of_eq h8.1.symm,fun k _ h2 => h8.2 k (fun e => h2 (.inl e))⟩ ⟨⟨h7,h2⟩,h3,h4⟩ (fun k h => .inr h))
theorem jei (hk : Tk L (mit r g nx (vis ++ [k])) M) (hi : (k,v) ∈ nx) (hx : ev e x = some (.pointer (some ⟨r,0,none⟩))) : OH P D L e (.entry x) (.tuple #[.int .i64 k,.int .i32 v]) := fun F H h1 h2 h3 => by
 obtain ⟨⟨h4,_⟩,_⟩ := (hk.ok h3).1
 exact OpOk.entry h4 (List.mem_map.2 ⟨_,hi,rfl⟩) hx
end
end Go.JE
