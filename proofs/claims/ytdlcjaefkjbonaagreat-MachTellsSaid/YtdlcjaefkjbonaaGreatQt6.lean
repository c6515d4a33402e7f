/- Lemmas that the claim is made of. Conditions: each lemma names its own. -/
import Derived.Test.YtdlcjaefkjbonaaGreatQt5
namespace Go.Proofs.YtdlcjaefkjbonaaGreat
set_option linter.unusedVariables false
set_option linter.unusedSimpArgs false
set_option linter.unusedSectionVars false
open Go.JE
abbrev U120 := @Tryz.underlying120
abbrev U4 := @Tryz.underlying4
theorem E104 : Ent Tryz.prog 104 := ⟨_, Tryz.func104, by kernel_rfl, by kernel_rfl⟩
theorem E139 : Ent Tryz.prog 139 := ⟨_, Tryz.func139, by kernel_rfl, by kernel_rfl⟩
theorem F73_0 : Fld Tryz.prog 73 0 0 := ⟨_, _, Tryz.underlying73, rfl, rfl, 1, (by unfold Sz; kernel_rfl), by decide⟩
theorem O4 : One Tryz.prog 4 := ⟨_, Tryz.underlying4, rfl⟩
theorem Z4 : Sz Tryz.prog 4 1 := by unfold Sz; kernel_rfl
theorem J73 : (Tryz.prog.info? 73).bind (·.zero) = some (.agg #[.int .i64 0, .int .i64 0]) := by kernel_rfl
def predsT (bs : List D.MBlock) (k : Nat) (b : Int) : List Int := ((List.range k).filter (fun a : Nat => decide (b ∈ (ix bs a).End.To))).map (fun a : Nat => (a : Int))
def predsM (bs : List D.MBlock) (b : Int) : List Int := predsT bs bs.length b
theorem predsT_succ (bs : List D.MBlock) (k : Nat) (b : Int) : predsT bs (k + 1) b = predsT bs k b ++ if b ∈ (ix bs k).End.To then [(k : Int)] else [] := by
  unfold predsT
  rw [List.range_succ, List.filter_append, List.map_append]
  congr 1
  by_cases h : b ∈ (ix bs k).End.To <;> simp [h]
theorem predsT_lt (bs : List D.MBlock) (k : Nat) (b : Int) : ∀ x ∈ predsT bs k b, x < k := by
  intro x hx
  unfold predsT at hx
  obtain ⟨a, ha, rfl⟩ := List.mem_map.1 hx
  have := List.mem_range.1 (List.mem_filter.1 ha).1
  omega
theorem predsT_len (bs : List D.MBlock) (k : Nat) (b : Int) : (predsT bs k b).length ≤ k := by
  unfold predsT
  rw [List.length_map]
  exact Nat.le_trans (List.length_filter_le _ _) (by simp)
def predsJ (bs : List D.MBlock) (k j : Nat) (b : Int) : List Int := predsT bs k b ++ if b ∈ (ix bs k).End.To.take j then [(k : Int)] else []
theorem predsJ_zero (bs : List D.MBlock) (k : Nat) (b : Int) : predsJ bs k 0 b = predsT bs k b := by simp [predsJ]
theorem predsJ_end (bs : List D.MBlock) (k j : Nat) (b : Int) (h : (ix bs k).End.To.length ≤ j) : predsJ bs k j b = predsT bs (k + 1) b := by
  rw [predsT_succ]; unfold predsJ; rw [List.take_of_length_le h]
theorem predsJ_len (bs : List D.MBlock) (k j : Nat) (b : Int) : (predsJ bs k j b).length ≤ k + 1 := by
  have := predsT_len bs k b
  unfold predsJ; rw [List.length_append]; split <;> simp <;> omega
theorem predsJ_mem (bs : List D.MBlock) (k j : Nat) (b : Int) : (k : Int) ∈ predsJ bs k j b ↔ b ∈ (ix bs k).End.To.take j := by
  unfold predsJ
  rw [List.mem_append]
  constructor
  · rintro (h | h)
    · have := predsT_lt bs k b _ h; omega
    · split at h
      · assumption
      · cases h
  · intro h; rw [if_pos h]; exact .inr (by simp)
theorem predsJ_old {bs : List D.MBlock} {k j : Nat} (hj : j < (ix bs k).End.To.length) (h : (k : Int) ∈ predsJ bs k j (ix (ix bs k).End.To j)) (b : Int) : predsJ bs k (j + 1) b = predsJ bs k j b := by
  rw [predsJ_mem] at h
  unfold predsJ
  rw [take_ix hj]
  by_cases h1 : b ∈ (ix bs k).End.To.take j
  · rw [if_pos (by simp [h1]), if_pos h1]
  · have h2 : b ≠ ix (ix bs k).End.To j := by rintro rfl; exact h1 h
    rw [if_neg (by simp [h1, h2]), if_neg h1]
theorem predsJ_new {bs : List D.MBlock} {k j : Nat} (hj : j < (ix bs k).End.To.length) (h : ¬ (k : Int) ∈ predsJ bs k j (ix (ix bs k).End.To j)) (b : Int) :
    predsJ bs k (j + 1) b = if b = ix (ix bs k).End.To j then predsJ bs k j b ++ [(k : Int)] else predsJ bs k j b := by
  rw [predsJ_mem] at h
  unfold predsJ
  rw [take_ix hj]
  by_cases h1 : b = ix (ix bs k).End.To j
  · subst h1; rw [if_pos (by simp), if_neg h, if_pos rfl]; simp
  · rw [if_neg h1]
    by_cases h2 : b ∈ (ix bs k).End.To.take j
    · rw [if_pos (by simp [h2]), if_pos h2]
    · rw [if_neg (by simp [h1, h2]), if_neg h2]
def bfsIn : List Bool → List Int → List Int → List Bool × List Int
  | seen, q, [] => (seen, q)
  | seen, q, t :: ts => if ix seen t.toNat = true then bfsIn seen q ts else bfsIn (seen.set t.toNat true) (q ++ [t]) ts
def bfs (bs : List D.MBlock) : Nat → List Bool → List Int → List Bool
  | 0, seen, _ => seen
  | _ + 1, seen, [] => seen
  | f + 1, seen, x :: q => bfs bs f (bfsIn seen (x :: q) (ix bs x.toNat).End.To).1 ((bfsIn seen (x :: q) (ix bs x.toNat).End.To).2.drop 1)
def reachedM (bs : List D.MBlock) : List Bool := bfs bs bs.length ((List.replicate bs.length false).set 0 true) [0]
def cntF (l : List Bool) : Nat := l.countP (fun x => !x)
theorem cntF_set {l : List Bool} {i : Nat} (hi : i < l.length) (h : ¬ ix l i = true) : cntF (l.set i true) + 1 = cntF l := by
  unfold cntF
  have h2 : l[i] = false := by rw [← ix_eq hi]; simpa using h
  rw [List.countP_set hi]
  have : 0 < l.countP (fun x => !x) := List.countP_pos_iff.2 ⟨_, List.getElem_mem hi, by simp [h2]⟩
  simp [h2]; omega
def badPhi (bs : List D.MBlock) (b : Nat) (p : D.Phi) : Bool := decide (b = 0) || !decide (p.In.map (·.From) = predsM bs b)
def graphPhis (bs : List D.MBlock) : Nat → List D.MBlock → Int × Int × Int
  | _, [] => (0, 0, 0)
  | b, x :: l => match x.Phis.findIdx? (badPhi bs b) with
    | some i => (16, b, -1 - i)
    | none => graphPhis bs (b + 1) l
def graphM (m : D.MFunc) : Int × Int × Int := if 0 ≤ idxM (reachedM m.Blocks) (fun x => false == x) then (15, idxM (reachedM m.Blocks) (fun x => false == x), 0) else graphPhis m.Blocks 0 m.Blocks
def eqfM (a : List D.In) (b : List Int) : Bool := decide (a.map (·.From) = b)
theorem eqf_len {a : List D.In} {b : List Int} (h : ¬ a.length = b.length) : eqfM a b = false := by simp only [eqfM, decide_eq_false_iff_not]; intro h1; have := congrArg List.length h1; simp at this; omega
theorem eqf_at {a : List D.In} {b : List Int} {k : Nat} (h1 : k < a.length) (h2 : a.length = b.length) (h : ¬ (ix a k).From = ix b k) : eqfM a b = false := by
  simp only [eqfM, decide_eq_false_iff_not]
  rintro rfl
  rw [ix_eq h1, ix_eq (by simpa using h1)] at h
  simp at h
theorem eqf_yes {a : List D.In} {b : List Int} {k : Nat} (h1 : a.length ≤ k) (h2 : a.length = b.length) (h : (a.take k).map (·.From) = b.take k) : eqfM a b = true := by
  rw [List.take_of_length_le h1, List.take_of_length_le (by omega)] at h
  simp [eqfM, h]
def hasM (l : List Int) (x : Int) : Bool := decide (x ∈ l)
theorem has_any (l : List Int) (x : Int) : decide (0 ≤ idxM l (fun y => decide (x = y))) = hasM l x := by
  rw [idx_any]; unfold anyM hasM
  rw [Bool.eq_iff_iff, List.any_eq_true, decide_eq_true_eq]
  constructor
  · rintro ⟨y, hy, h⟩; simp at h; subst h; exact hy
  · intro h; exact ⟨x, h, by simp⟩
section
variable {bs : List D.MBlock} {k j n : Nat} {ls : List (List Int)}
theorem stepOld (hj : j < (ix bs k).End.To.length) (hls : ∀ b : Nat, b < n → ls.getD b [] = predsJ bs k j b) (ht : 0 ≤ ix (ix bs k).End.To j ∧ ix (ix bs k).End.To j < n) (h : hasM (ls.getD (ix (ix bs k).End.To j).toNat []) k = true) :
    ∀ b : Nat, b < n → ls.getD b [] = predsJ bs k (j + 1) b := by
  intro b hb
  have h1 := hls (ix (ix bs k).End.To j).toNat (by omega)
  rw [show (((ix (ix bs k).End.To j).toNat : Nat) : Int) = ix (ix bs k).End.To j by omega] at h1
  unfold hasM at h; rw [h1, decide_eq_true_eq] at h
  rw [predsJ_old hj h]; exact hls b hb
theorem stepNew (hj : j < (ix bs k).End.To.length) (hls : ∀ b : Nat, b < n → ls.getD b [] = predsJ bs k j b) (ht : 0 ≤ ix (ix bs k).End.To j ∧ ix (ix bs k).End.To j < n) (hl : ls.length = n) (h : hasM (ls.getD (ix (ix bs k).End.To j).toNat []) k = false) :
    ∀ b : Nat, b < n → (ls.set (ix (ix bs k).End.To j).toNat (ls.getD (ix (ix bs k).End.To j).toNat [] ++ [(k : Int)])).getD b [] = predsJ bs k (j + 1) b := by
  intro b hb
  have h1 := hls (ix (ix bs k).End.To j).toNat (by omega)
  rw [show (((ix (ix bs k).End.To j).toNat : Nat) : Int) = ix (ix bs k).End.To j by omega] at h1
  unfold hasM at h; rw [h1, decide_eq_false_iff_not] at h
  rw [predsJ_new hj h]
  by_cases e1 : b = (ix (ix bs k).End.To j).toNat
  · subst e1
    rw [if_pos (by omega), h1, show (((ix (ix bs k).End.To j).toNat : Nat) : Int) = ix (ix bs k).End.To j by omega]
    have : (ix (ix bs k).End.To j).toNat < ls.length := by omega
    simp [List.getD, this]
  · rw [if_neg (by omega), ← hls b hb]
    simp [List.getD, List.getElem?_set_ne (Ne.symm e1)]
theorem rows_len (hl : ls.length = n) (hn : n < 1073741824) (hls : ∀ b : Nat, b < n → ls.getD b [] = predsT bs k b) (hk : k ≤ n) : ∀ l ∈ ls, l.length < 1073741824 := by
  intro l hm
  obtain ⟨i, hi, rfl⟩ := List.mem_iff_getElem.1 hm
  have h1 := hls i (by omega)
  rw [List.getD, List.getElem?_eq_getElem hi] at h1
  simp only [Option.getD_some] at h1
  rw [h1]
  have := predsT_len bs k i
  omega
theorem row_len (hn : n < 1073741824) (hls : ∀ b : Nat, b < n → ls.getD b [] = predsJ bs k j b) (hk : k < n) {t : Nat} (ht : t < n) : (ls.getD t []).length < 1073741825 := by
  rw [hls t ht]; have := predsJ_len bs k j t; omega
theorem cnt_start (hn : 0 < n) : cntF ((List.replicate n false).set 0 true) + [(0 : Int)].length ≤ n := by
  have := cntF_set (l := List.replicate n false) (i := 0) (by simpa using hn) (by rw [ix_eq (by simpa using hn)]; simp)
  have h2 : cntF (List.replicate n false) = n := by unfold cntF; rw [List.countP_replicate]; rfl
  simp only [List.length_cons, List.length_nil]; omega
theorem bfs_nil (f : Nat) (se : List Bool) : bfs bs f se [] = se := by cases f <;> rfl
theorem bfs_step {f : Nat} {se : List Bool} {q : List Int} (hf : 0 < f) (hq : 0 < q.length) : bfs bs f se q = bfs bs (f - 1) (bfsIn se q (ix bs (ix q 0).toNat).End.To).1 ((bfsIn se q (ix bs (ix q 0).toNat).End.To).2.drop 1) := by
  obtain ⟨f, rfl⟩ : ∃ g, f = g + 1 := ⟨f - 1, by omega⟩
  match q, hq with
  | x :: q, _ => rfl
theorem phis_bad {l : List D.MBlock} (hk : k < l.length) {i : Nat} (hi : i < (ix l k).Phis.length) (hG : graphPhis bs 0 l = graphPhis bs k (l.drop k)) (hno : ∀ p ∈ (ix l k).Phis.take i, badPhi bs k p = false) (h : badPhi bs k (ix (ix l k).Phis i) = true) : graphPhis bs 0 l = (16, (k : Int), -1 - (i : Int)) := by
  rw [hG, drop_ix hk, graphPhis]
  have := idx_hit hi hno h
  unfold idxM at this
  split at this
  · rename_i a ha; rw [ha]; have : a = i := by omega
    subst this; rfl
  · omega
theorem phis_good {l : List D.MBlock} (hk : k < l.length) {i : Nat} (hi : (ix l k).Phis.length ≤ i) (hG : graphPhis bs 0 l = graphPhis bs k (l.drop k)) (hno : ∀ p ∈ (ix l k).Phis.take i, badPhi bs k p = false) : graphPhis bs 0 l = graphPhis bs (k + 1) (l.drop (k + 1)) := by
  rw [hG, drop_ix hk, graphPhis]
  rw [List.take_of_length_le hi] at hno
  rw [List.findIdx?_eq_none_iff.2 hno]
end
def idxInt (l : List Int) (x : Int) : Int := idxM l (fun y => decide (x = y))
theorem idxInt_ct {a0 : Value} {l : List Int} {N0 : Nat} (x : Int) : Tv Tryz.prog 139 #[a0, .int .i64 x] [dv (rLn N0 (rI .i64)) a0 l] [] (.int .i64 (idxInt l x)) := by
  refine jenter (args := [a0, .int .i64 x]) Tryz.func139 rfl rfl rfl fun w0 X => ?_
  refine jq (jr (ja ζ (jn (jx (jq (jq (jr (jm ζ (jdq d0 fun q1 w1 => js (jln U22 d0 ζ) (jm ζ ?_))))))))))
  refine jn (jx (jb ?_))
  refine jlp (fun (k : Nat) => ⟨k ≤ l.length ∧ (∀ y ∈ l.take k, decide (x = y) = false), [dv (rLn N0 (rI .i64)) a0 l], [], [(0, a0), (1, .int .i64 x), (7, .int .i64 (↑(List.length l))), (8, .int .i64 (↑k))], l.length - k⟩) 0 ⟨by omega, by simp⟩ (dc d0 dn) kn ⟨ζ, ζ, ζ, eqI (by omega), trivial⟩ ?_
  rintro k; dsimp only; rintro ⟨hk, hR⟩
  refine jq (jr (js (jlss ζ ζ) (jn (jx (jq ?_)))))
  refine jif ζ (fun hc1 => ?_) (fun hc1 => ?_)
  refine jsk (jx (jq (jb (jq (jr (jm ζ (ja ζ (jn (jx (jq (jr ?_)))))))))))
  refine jm ζ (jm ζ (jm ζ (js (jix U22 Z3 d0 ζ ζ ζ (by omega)) (js (jlI (dix d0 k (by omega)) O3 ζ) (js (jeql ζ ζ) (jn (jx ?_)))))))
  refine jif ζ (fun hc2 => ?_) (fun hc2 => ?_)
  refine jq (jr (jm ζ (ja ζ (jn (jx (jrt (jbr (jtr (jtr (jbr (jtr ?_)))))))))))
  exact jrI ζ ζ (idx_hit (q := fun y => decide (x = y)) (by omega) hR (decide_eq_true hc2))
  refine jsk (jbn (jx (jr (js (jadd ζ ζ (by omega)) (jm ζ (jn ?_))))))
  exact jag (k + 1) ⟨by omega, no_snoc (q := fun y => decide (x = y)) (by omega) hR (decide_eq_false hc2)⟩ (dc d0 dn) kn ⟨ζ, ζ, ζ, eqI (by omega), trivial⟩
  refine jex (jtx (jtx (jbh (jx (jq (jr (ja ζ (jn (jx (jrt ?_))))))))))
  exact jrI ζ ζ (idx_none (q := fun y => decide (x = y)) (by omega) hR)
def idxBool (l : List Bool) (x : Bool) : Int := idxM l (fun y => (x == y))
theorem idxBool_ct {a0 : Value} {l : List Bool} {N0 : Nat} (x : Bool) : Tv Tryz.prog 102 #[a0, .bool x] [dv (rLn N0 rB) a0 l] [] (.int .i64 (idxBool l x)) := by
  refine jenter (args := [a0, .bool x]) Tryz.func102 rfl rfl rfl fun w0 X => ?_
  refine jq (jr (ja ζ (jn (jx (jq (jq (jr (jm ζ (jdq d0 fun q1 w1 => js (jln U120 d0 ζ) (jm ζ ?_))))))))))
  refine jn (jx (jb ?_))
  refine jlp (fun (k : Nat) => ⟨k ≤ l.length ∧ (∀ y ∈ l.take k, (x == y) = false), [dv (rLn N0 rB) a0 l], [], [(0, a0), (1, .bool x), (7, .int .i64 (↑(List.length l))), (8, .int .i64 (↑k))], l.length - k⟩) 0 ⟨by omega, by simp⟩ (dc d0 dn) kn ⟨ζ, ζ, ζ, eqI (by omega), trivial⟩ ?_
  rintro k; dsimp only; rintro ⟨hk, hR⟩
  refine jq (jr (js (jlss ζ ζ) (jn (jx (jq ?_)))))
  refine jif ζ (fun hc1 => ?_) (fun hc1 => ?_)
  refine jsk (jx (jq (jb (jq (jr (jm ζ (ja ζ (jn (jx (jq (jr ?_)))))))))))
  refine jm ζ (jm ζ (jm ζ (js (jix U120 Z4 d0 ζ ζ ζ (by omega)) (js (jlB (dix d0 k (by omega)) O4 ζ) (js (jeqlB U4 ζ ζ) (jn (jx ?_)))))))
  refine jif ζ (fun hc2 => ?_) (fun hc2 => ?_)
  refine jq (jr (jm ζ (ja ζ (jn (jx (jrt (jbr (jtr (jtr (jbr (jtr ?_)))))))))))
  exact jrI ζ ζ (idx_hit (q := fun y => (x == y)) (by omega) hR hc2)
  refine jsk (jbn (jx (jr (js (jadd ζ ζ (by omega)) (jm ζ (jn ?_))))))
  exact jag (k + 1) ⟨by omega, no_snoc (q := fun y => (x == y)) (by omega) hR hc2⟩ (dc d0 dn) kn ⟨ζ, ζ, ζ, eqI (by omega), trivial⟩
  refine jex (jtx (jtx (jbh (jx (jq (jr (ja ζ (jn (jx (jrt ?_))))))))))
  exact jrI ζ ζ (idx_none (q := fun y => (x == y)) (by omega) hR)
theorem has_ct {a0 : Value} {l : List Int} {N0 : Nat} (x : Int) : Tv Tryz.prog 101 #[a0, .int .i64 x] [dv (rLn N0 (rI .i64)) a0 l] [] (.bool (hasM l x)) := by
  refine jenter (args := [a0, .int .i64 x]) Tryz.func101 rfl rfl rfl fun w0 X => ?_
  refine jq (jr (ja ζ (jn (jx (jq (jr (jm ζ (jm ζ (jdq d0 fun q1 w1 => jcv E139 ζ ζ (idxInt_ct x) (dc d0 dn) kn (js (jgeq ζ ζ) ?_))))))))))
  refine ja ζ (jn (jx (jrt ?_)))
  exact jrB ζ ζ ((has_any l x).symm)
theorem pGraph1_ct {x : D.In} (y : Int) : Tv Tryz.prog 104 #[vIn x (), .int .i64 y] [da rIn (vIn x ()) x] [] (.bool ((fun (x : D.In) (y : Int) => decide (x.From = y)) x y)) := by
  refine jenter (args := [vIn x (), .int .i64 y]) Tryz.func104 rfl rfl rfl fun w0 X => ?_
  refine jq (jr (jbox ζ ζ fun g2 => ja ζ (jn (jx (jq (jr (js (jf F73_0 ζ) (js (jl k0 O3 ζ ζ) (jm ζ (js (jeql ζ ζ) ?_))))))))))
  refine ja ζ (jn (jx (jrt ?_)))
  exact jrB ζ ζ (by rfl)
theorem eqf_ct {a0 : Value} {a : List D.In} {a1 : Value} {b : List Int} : Tv Tryz.prog 103 #[a0, a1, .func (.func 104) #[] #[]] [dv (rL rIn) a0 a, dv (rL (rI .i64)) a1 b] [] (.bool (eqfM a b )) := by
  refine jenter (args := [a0, a1, .func (.func 104) #[] #[]]) Tryz.func103 rfl rfl rfl fun w0 X => ?_
  refine jq (jr (ja ζ (jn (jx (jq (jq (jr (jm ζ (jdq d0 fun q1 w1 => js (jln U74 d0 ζ) (jm ζ ?_))))))))))
  refine jdq d1 fun q2 w2 => js (jln U22 d1 ζ) (js (jneq ζ ζ) (jn (jx ?_)))
  refine jif ζ (fun hc1 => ?_) (fun hc1 => ?_)
  refine jq (jr (ja ζ (jn (jx (jrt (jtr ?_))))))
  exact jrB ζ ζ (eqf_len (by omega))
  refine jsk (jx (jq (jq (jr (jm ζ (js (jln U74 d0 ζ) (jm ζ (jn (jx (jb ?_))))))))))
  refine jlp (fun (k : Nat) => ⟨k ≤ a.length ∧ (a.take k).map (·.From) = b.take k, [dv (rL rIn) a0 a, dv (rL (rI .i64)) a1 b], [], [(1, a1), (2, .func (.func 104) #[] #[]), (15, a0), (16, .int .i64 (↑(List.length a))), (17, .int .i64 (↑k))], a.length - k⟩) 0 ⟨by omega, rfl⟩ (dc d0 (dc d1 dn)) kn ⟨ζ, ζ, ζ, ζ, eqI (by omega), trivial⟩ ?_
  rintro k; dsimp only; rintro ⟨hk, hR⟩
  refine jq (jr (js (jlss ζ ζ) (jn (jx (jq ?_)))))
  refine jif ζ (fun hc2 => ?_) (fun hc2 => ?_)
  refine jsk (jx (jq (jb (jq (jr (jm ζ (js (jix U74 Z73 d0 ζ ζ ζ (by omega)) (jA sIn (jlA (dix d0 k (by omega)) A73 Z73 ζ) fun _ => jalc J73 ζ fun g8 => ja ζ (jsta k0 Z73 ζ ζ ζ ⟨ζ, ζ, trivial⟩ (saf ζ) ?_)))))))))
  refine jn (jx (jq (jr (jm ζ (jm ζ (js (jix U22 Z3 d2 ζ ζ ζ (by omega)) (js (jlI (dix d2 k (by omega)) O3 ζ) (ja ζ (jn (jx (jq ?_)))))))))))
  refine jr (jm ζ (js (jla k0 A73 Z73 ζ ζ ζ) (jm ζ (jcv E104 ζ ζ (pGraph1_ct (ix b k)) (dc d0 dn) kn (js (jnot ζ) (jn (jx ?_)))))))
  refine jif ζ (fun hc3 => ?_) (fun hc3 => ?_)
  refine jq (jr (ja ζ (jn (jx (jrt (jbr (jtr (jtr (jbr (jtr ?_))))))))))
  exact jrB ζ ζ (eqf_at (k := k) (by omega) (by omega) hc3)
  refine jsk (jbn (jx (jr (js (jadd ζ ζ (by omega)) (jm ζ (jn ?_))))))
  exact jag (k + 1) ⟨by omega, by rw [take_ix (by omega), take_ix (by omega), List.map_append, hR]; simp [hc3]⟩ (dc d1 (dc d2 dn)) kn ⟨ζ, ζ, ζ, ζ, eqI (by omega), trivial⟩
  refine jex (jtx (jtx (jbh (jx (jq (jr (ja ζ (jn (jx (jrt ?_))))))))))
  exact jrB ζ ζ (eqf_yes (k := k) (by omega) (by omega) hR)
end Go.Proofs.YtdlcjaefkjbonaaGreat
namespace Go.Proofs.YtdlcjaefkjbonaaGreat
set_option linter.unusedVariables false
set_option linter.unusedSimpArgs false
set_option linter.unusedSectionVars false
open Go.JE
abbrev U116 := @Tryz.underlying116
abbrev U26 := @Tryz.underlying26
theorem A71 : ∃ d, Tryz.prog.underlying 71 = some d ∧ (match d with | .struct _ | .array _ _ => true | _ => false) = true := ⟨_, Tryz.underlying71, rfl⟩
theorem E101 : Ent Tryz.prog 101 := ⟨_, Tryz.func101, by kernel_rfl, by kernel_rfl⟩
theorem E102 : Ent Tryz.prog 102 := ⟨_, Tryz.func102, by kernel_rfl, by kernel_rfl⟩
theorem E103 : Ent Tryz.prog 103 := ⟨_, Tryz.func103, by kernel_rfl, by kernel_rfl⟩
theorem F28_1 : Fld Tryz.prog 28 1 1 := ⟨_, _, Tryz.underlying28, rfl, rfl, 1, (by unfold Sz; kernel_rfl), by decide⟩
theorem F71_0 : Fld Tryz.prog 71 0 0 := ⟨_, _, Tryz.underlying71, rfl, rfl, 1, (by unfold Sz; kernel_rfl), by decide⟩
theorem F71_2 : Fld Tryz.prog 71 2 2 := ⟨_, _, Tryz.underlying71, rfl, rfl, 5, (by unfold Sz; kernel_rfl), by decide⟩
theorem I22 : (Tryz.prog.info? 22).map (fun i => (i.zero, i.size, i.bytes)) = some (some (.slice none 0 0), 1, 24) := by kernel_rfl
theorem I4 : (Tryz.prog.info? 4).map (fun i => (i.zero, i.size, i.bytes)) = some (some (.bool false), 1, 1) := by kernel_rfl
theorem O26 : One Tryz.prog 26 := ⟨_, Tryz.underlying26, rfl⟩
theorem O68 : One Tryz.prog 68 := ⟨_, Tryz.underlying68, rfl⟩
theorem Z22 : Sz Tryz.prog 22 1 := by unfold Sz; kernel_rfl
theorem Z71 : Sz Tryz.prog 71 7 := by unfold Sz; kernel_rfl
theorem J71 : (Tryz.prog.info? 71).bind (·.zero) = some (.agg #[.slice none 0 0, .slice none 0 0, .int .i64 0, .int .i64 0, .int .i64 0, .slice none 0 0, .int .i32 0]) := by kernel_rfl
theorem J76 : (Tryz.prog.info? 76).bind (·.zero) = some (.agg #[.int .i64 0, .slice none 0 0]) := by kernel_rfl
theorem bad_yes {bs : List D.MBlock} {ls : List (List Int)} {k : Nat} {p : D.Phi} (hk : k < bs.length) (hls : ∀ b : Nat, b < bs.length → ls.getD b [] = predsT bs bs.length b) (h : (k : Int) = 0 ∨ eqfM p.In (ix ls k) = false) : badPhi bs k p = true := by
  have h1 : ix ls k = predsM bs k := hls k hk
  unfold badPhi
  rcases h with h | h
  · rw [decide_eq_true (by omega)]; rfl
  · rw [h1] at h; unfold eqfM at h; rw [h]; simp
theorem bad_no {bs : List D.MBlock} {ls : List (List Int)} {k : Nat} {p : D.Phi} (hk : k < bs.length) (hls : ∀ b : Nat, b < bs.length → ls.getD b [] = predsT bs bs.length b) (h : ¬ (k : Int) = 0 ∧ eqfM p.In (ix ls k) = true) : badPhi bs k p = false := by
  have h1 : ix ls k = predsM bs k := hls k hk
  unfold badPhi
  obtain ⟨h, h2⟩ := h
  rw [h1] at h2; unfold eqfM at h2; rw [h2, decide_eq_false (by omega)]; rfl
section
variable {m : D.MFunc} {f : Nat} {se : List Bool} {q : List Int}
theorem graph_re (hb : reachedM m.Blocks = bfs m.Blocks f se q) (hq : q = []) : reachedM m.Blocks = se := by rw [hb, hq, bfs_nil]
theorem graph_15 (hb : reachedM m.Blocks = bfs m.Blocks f se q) (hq : q = []) (h : 0 ≤ idxBool se false) : graphM m = (15, idxBool se false, 0) := by
  unfold graphM; rw [graph_re hb hq]; unfold idxBool at h ⊢; rw [if_pos h]
theorem graph_no (hb : reachedM m.Blocks = bfs m.Blocks f se q) (hq : q = []) (h : ¬ 0 ≤ idxBool se false) : graphM m = graphPhis m.Blocks 0 m.Blocks := by
  unfold graphM; rw [graph_re hb hq]; unfold idxBool at h; rw [if_neg h]
theorem graph_16 (hb : reachedM m.Blocks = bfs m.Blocks f se q) (hq : q = []) (h : ¬ 0 ≤ idxBool se false) {k i : Nat} (hk : k < m.Blocks.length) (hi : i < (ix m.Blocks k).Phis.length) (hG : graphPhis m.Blocks 0 m.Blocks = graphPhis m.Blocks k (m.Blocks.drop k)) (hno : ∀ p ∈ (ix m.Blocks k).Phis.take i, badPhi m.Blocks k p = false) (h2 : badPhi m.Blocks k (ix (ix m.Blocks k).Phis i) = true) : graphM m = (16, (k : Int), -1 - (i : Int)) := by
  rw [graph_no hb hq h]; exact phis_bad hk hi hG hno h2
theorem graph_0 (hb : reachedM m.Blocks = bfs m.Blocks f se q) (hq : q = []) (h : ¬ 0 ≤ idxBool se false) {k : Nat} (hk : m.Blocks.length ≤ k) (hG : graphPhis m.Blocks 0 m.Blocks = graphPhis m.Blocks k (m.Blocks.drop k)) : graphM m = (0, 0, 0) := by
  rw [graph_no hb hq h, hG, List.drop_of_length_le hk]; rfl
end
set_option maxRecDepth 4000 in
theorem pGraph_ct {a0 : Value} {m : D.MFunc} (hn : 0 < m.Blocks.length) (hT : ∀ x ∈ m.Blocks, ∀ t ∈ x.End.To, 1 ≤ t ∧ t < m.Blocks.length) : Tv Tryz.prog 49 #[vMFunc m a0] [da rMFunc (vMFunc m a0) m] [] (.tuple #[.int .i64 ((graphM m).1), .int .i64 ((graphM m).2.1), .int .i64 ((graphM m).2.2)]) := by
  refine jenter (args := [vMFunc m a0]) Tryz.func49 rfl rfl rfl fun w0 X => ?_
  refine jq (jr (jbox ζ ζ fun g1 => ja ζ (ja ζ (ja ζ (jn (jx (jq (jr (js (jf F28_1 ζ) (js (jl k0 O26 ζ ζ) ?_))))))))))
  refine jdq (rMFunc.c_Blocks d0) fun q1 w1 => js (jln U26 (rMFunc.c_Blocks d0) ζ) (jmk (m := (List.length m.Blocks)) (r := rV) U116 I22 ζ ζ ζ ζ ζ (by omega) (wV ζ) ζ fun g22 => jrn (r := (rI .i64)) (T := 3) (List.length m.Blocks) (ja ζ (jn (jx (jq (jr (js (jf F28_1 ζ) (js (jl k2 O26 ζ ζ) (js (jln U26 (rMFunc.c_Blocks d0) ζ) ?_)))))))))
  refine jmk (m := (List.length m.Blocks)) (r := rB) U120 I4 ζ ζ ζ ζ ζ (by omega) wB ζ fun g26 => ja ζ (jn (jx (jq (jq (jr (js (jf F28_1 ζ) (js (jl k3 O26 ζ ζ) (js (jln U26 (rMFunc.c_Blocks d0) ζ) (jm ζ (jn ?_))))))))))
  refine jx (jb ?_)
  refine jlp (u3 fun (k : Nat) (vs : List Value) (ls : List (List Int)) => ⟨k ≤ m.Blocks.length ∧ vs.length = m.Blocks.length ∧ ls.length = m.Blocks.length ∧ (∀ b : Nat, b < m.Blocks.length → ls.getD b [] = predsT m.Blocks k b), [da rMFunc (vMFunc m a0) m], [gl X.n rB 4 (.slice (some ⟨g26, 0, none⟩) (List.length m.Blocks) (List.length m.Blocks)) (List.replicate (List.length m.Blocks) false), rw' X.n (rI .i64) 3 vs ls, gl X.n rV 22 (.slice (some ⟨g22, 0, none⟩) (List.length m.Blocks) (List.length m.Blocks)) vs, bx g1 28 [.int .i64 m.Params, a0]], [(1, .pointer (some ⟨g1, 0, none⟩)), (2, .int .i64 0), (3, .int .i64 0), (4, .int .i64 0), (5, (.slice (some ⟨g22, 0, none⟩) (List.length m.Blocks) (List.length m.Blocks))), (6, (.slice (some ⟨g26, 0, none⟩) (List.length m.Blocks) (List.length m.Blocks))), (28, a0), (29, .int .i64 (↑(List.length m.Blocks))), (30, .int .i64 (↑k))], m.Blocks.length - k⟩) (0, List.replicate (List.length m.Blocks) (.slice none 0 0), List.replicate (List.length m.Blocks) []) ⟨by dsimp only; omega, by simp, by simp, by intro b hb; simp [predsT, List.getD, hb]⟩ (dc d0 dn) (kc k0 (kc k0 (kc k0 (kc k0 kn)))) ⟨ζ, ζ, ζ, ζ, ζ, ζ, ζ, ζ, eqI (by omega), trivial⟩ ?_
  rintro ⟨k, vs, ls⟩; dsimp only [u3]; rintro ⟨hk, hv, hl, hls⟩
  refine jq (jr (js (jlss ζ ζ) (jn (jx (jq ?_)))))
  refine jif ζ (fun hc1 => ?_) (fun hc1 => ?_)
  refine jsk (jx (jq (jb (jq (jr (jm ζ (js (jix U26 Z71 (rMFunc.c_Blocks d0) ζ ζ ζ (by omega)) (jA3 sMBlock (jlA (dix (rMFunc.c_Blocks d0) k (by omega)) A71 Z71 ζ) fun c34a c34b c34c => jalc J71 ζ fun g8 => ja ζ (jdq (rMBlock.c_Phis d0) fun q3 w3 => ?_)))))))))
  refine jdq (rMBlock.c_Ins d0) fun q4 w4 => jdq (rMBlock.c_End_To d0) fun q5 w5 => jsta k0 Z71 ζ ζ ζ ⟨w3.one, w4.one, ζ, ζ, ζ, w5.one, ζ, trivial⟩ (saf ζ) (jn (jx (jq (jr (js (jf F71_2 ζ) (js (jf F59_3 ζ) (js (jl k0 O22 ζ ζ) (js (jln U22 (rMBlock.c_End_To d0) ζ) (jm ζ ?_)))))))))
  refine jn (jx (jb ?_))
  refine jlp (u3 fun (j : Nat) (vs2 : List Value) (ls2 : List (List Int)) => ⟨j ≤ (ix m.Blocks k).End.To.length ∧ vs2.length = m.Blocks.length ∧ ls2.length = m.Blocks.length ∧ (∀ b : Nat, b < m.Blocks.length → ls2.getD b [] = predsJ m.Blocks k j b), [da rMBlock (vMBlock (ix m.Blocks k) (c34a, c34b, c34c)) (ix m.Blocks k), da rMFunc (vMFunc m a0) m], [gl X.n rB 4 (.slice (some ⟨g26, 0, none⟩) (List.length m.Blocks) (List.length m.Blocks)) (List.replicate (List.length m.Blocks) false), rw' X.n (rI .i64) 3 vs2 ls2, gl X.n rV 22 (.slice (some ⟨g22, 0, none⟩) (List.length m.Blocks) (List.length m.Blocks)) vs2, bx g1 28 [.int .i64 m.Params, a0]], [(1, .pointer (some ⟨g1, 0, none⟩)), (2, .int .i64 0), (3, .int .i64 0), (4, .int .i64 0), (5, (.slice (some ⟨g22, 0, none⟩) (List.length m.Blocks) (List.length m.Blocks))), (6, (.slice (some ⟨g26, 0, none⟩) (List.length m.Blocks) (List.length m.Blocks))), (7, .int .i64 (↑k)), (28, a0), (29, .int .i64 (↑(List.length m.Blocks))), (30, .int .i64 (↑k)), (37, c34c), (38, .int .i64 (↑(List.length (((ix m.Blocks k).End).To)))), (39, .int .i64 (↑j))], (ix m.Blocks k).End.To.length - j⟩) (0, vs, ls) ⟨by dsimp only; omega, hv, hl, by dsimp only; intro b hb; rw [predsJ_zero]; exact hls b hb⟩ (dc d0 (dc d1 dn)) (kc k1 (kc k1 (kc k1 (kc k1 kn)))) ⟨ζ, ζ, ζ, ζ, ζ, ζ, ζ, ζ, ζ, ζ, ζ, ζ, eqI (by omega), trivial⟩ ?_
  rintro ⟨j, vs2, ls2⟩; dsimp only [u3]; rintro ⟨hj, hv2, hl2, hls2⟩
  refine jq (jr (js (jlss ζ ζ) (jn (jx (jq ?_)))))
  refine jif ζ (fun hc2 => ?_) (fun hc2 => ?_)
  have htj := hT _ (ix_mem (l := m.Blocks) (i := k) (by omega)) _ (ix_mem (l := (ix m.Blocks k).End.To) (i := j) (by omega))
  have hrl := row_len (by omega) hls2 (by omega) (show (ix (ix m.Blocks k).End.To j).toNat < m.Blocks.length by omega)
  refine jsk (jx (jq (jb (jq (jr (js (jix U22 Z3 (rMBlock.c_End_To d0) ζ ζ ζ (by omega)) (js (jlI (dix (rMBlock.c_End_To d0) j (by omega)) O3 ζ) (ja ζ (jn (jx (jq ?_)))))))))))
  refine jr (jm ζ (jm ζ (js (jig (i := (Int.toNat (ix (((ix m.Blocks k).End).To) j))) U116 Z22 k2 ζ ζ (by omega) (by omega)) (js (jgW k2 (by omega) O22 ζ) (jm ζ (jro (Int.toNat (ix (((ix m.Blocks k).End).To) j)) k1 (by omega) (by omega) (jgo k0 fun w7 => jc E101 ζ ζ (Tv.temp 4294967296 (has_ct ↑k) (by omega)) dn (kc k0 kn) (fun _ => p0) (fun _ => p1) fun _ => jrx k0 k0 (by omega) (by omega) (js (jnot ζ) (jn ?_)))))))))
  refine jx ?_
  refine jif ζ (fun hc3 => ?_) (fun hc3 => ?_)
  refine jr (jm ζ (jm ζ (jm ζ (jm ζ (js (jig (i := (Int.toNat (ix (((ix m.Blocks k).End).To) j))) U116 Z22 k2 ζ ζ (by omega) (by omega)) (js (jgW k2 (by omega) O22 ζ) (jm ζ (jro (Int.toNat (ix (((ix m.Blocks k).End).To) j)) k0 (by omega) (by omega) (jgo k0 fun w9 => japv U22 I3 (by decide) ζ ζ k0 ζ (wI (wp (IntWalk.i64_in _ (by omega)))) (by omega) (fun _ => ζ) fun v58 _ w10 => js (jig (i := (Int.toNat (ix (((ix m.Blocks k).End).To) j))) U116 Z22 k3 ζ ζ (by omega) (by omega)) ?_)))))))))
  refine jsg k3 ζ Z22 ζ ζ w10.one (by omega) (wV w10.one) (jru k1 k1 (by omega) (by omega) (jn (jbn (jx (jr (js (jadd ζ ζ (by omega)) (jm ζ (jn ?_))))))))
  exact jag (j + 1, List.set vs2 (Int.toNat (ix (((ix m.Blocks k).End).To) j)) v58, List.set ls2 (Int.toNat (ix (((ix m.Blocks k).End).To) j)) ((List.getD ls2 (Int.toNat (ix (((ix m.Blocks k).End).To) j)) []) ++ [((k : Nat) : Int)])) ⟨by dsimp only; omega, by dsimp only; first | exact hv2 | (rw [List.length_set]; exact hv2), by dsimp only; first | exact hl2 | (rw [List.length_set]; exact hl2), by dsimp only; first | exact stepOld (by omega) hls2 (by omega) hc3 | exact stepNew (by omega) hls2 (by omega) hl2 hc3⟩ (dc d0 (dc d1 dn)) (kc k2 (kc k0 (kc k0 (kc k0 kn)))) ⟨ζ, ζ, ζ, ζ, ζ, ζ, ζ, ζ, ζ, ζ, ζ, ζ, eqI (by omega), trivial⟩
  refine jsk (jbn (jx (jr (js (jadd ζ ζ (by omega)) (jm ζ (jn ?_))))))
  exact jag (j + 1, vs2, ls2) ⟨by dsimp only; omega, by dsimp only; first | exact hv2 | (rw [List.length_set]; exact hv2), by dsimp only; first | exact hl2 | (rw [List.length_set]; exact hl2), by dsimp only; first | exact stepOld (by omega) hls2 (by omega) hc3 | exact stepNew (by omega) hls2 (by omega) hl2 hc3⟩ (dc d0 (dc d1 dn)) (kc k1 (kc k0 (kc k0 (kc k0 kn)))) ⟨ζ, ζ, ζ, ζ, ζ, ζ, ζ, ζ, ζ, ζ, ζ, ζ, eqI (by omega), trivial⟩
  refine jex (jtx (jtx (jbh (jbn (jx (jr (js (jadd ζ ζ (by omega)) (jm ζ (jn ?_)))))))))
  exact jag (k + 1, vs2, ls2) ⟨by dsimp only; omega, by dsimp only; exact hv2, by dsimp only; exact hl2, by dsimp only; intro b hb; rw [hls2 b hb, predsJ_end _ _ _ _ (by omega)]⟩ (dc d1 dn) (kc k0 (kc k0 (kc k0 (kc k0 kn)))) ⟨ζ, ζ, ζ, ζ, ζ, ζ, ζ, ζ, eqI (by omega), trivial⟩
  refine jex (jtx (jtx (jbh (jx (jq (cfr k2 k1 (by omega) (by omega) (rows_len hl (by omega) hls hk) (jr (jm ζ (js (jig (i := 0) U120 Z4 k0 ζ ζ ζ (by rw [lrep]; omega)) (jsg k0 ζ Z4 ζ ζ ζ (by rw [lrep]; omega) wB (jn ?_)))))))))))
  refine jx (jq (jq (jr (jlit (r := (rI .i64)) (l := [0]) U22 I3 (by decide) ζ ζ ζ (lV ζ ζ (wI (wl 0)) ln) fun g64 => ja ζ (jn (jx (jb (jgw k0 ζ (by simp) ?_))))))))
  refine jlp (u4 fun (f : Nat) (se : List Bool) (q : List Int) (vq : Value) => ⟨reachedM m.Blocks = bfs m.Blocks f se q ∧ cntF se + q.length ≤ f ∧ f ≤ m.Blocks.length ∧ se.length = m.Blocks.length ∧ (∀ x ∈ q, 0 ≤ x ∧ x < m.Blocks.length), [dv (rL (rL (rI .i64))) (.slice (some ⟨g22, 0, none⟩) (List.length m.Blocks) (List.length m.Blocks)) ls, da rMFunc (vMFunc m a0) m], [wn X.n (rI .i64) 3 vq q, gl X.n rB 4 (.slice (some ⟨g26, 0, none⟩) (List.length m.Blocks) (List.length m.Blocks)) se, bx g1 28 [.int .i64 m.Params, a0]], [(1, .pointer (some ⟨g1, 0, none⟩)), (2, .int .i64 0), (3, .int .i64 0), (4, .int .i64 0), (5, (.slice (some ⟨g22, 0, none⟩) (List.length m.Blocks) (List.length m.Blocks))), (6, (.slice (some ⟨g26, 0, none⟩) (List.length m.Blocks) (List.length m.Blocks))), (11, vq)], f⟩) (m.Blocks.length, List.set (List.replicate (List.length m.Blocks) false) 0 true, [0], (.slice (some ⟨g64, 0, none⟩) 1 1)) ⟨rfl, cnt_start hn, Nat.le_refl _, by simp, by simp; omega⟩ (dc d0 (dc d1 dn)) (kc k0 (kc k0 (kc k0 kn))) ⟨ζ, ζ, ζ, ζ, ζ, ζ, ζ, trivial⟩ ?_
  rintro ⟨f, se, q, vq⟩; dsimp only [u4]; rintro ⟨hb, hcn, hfn, hse, hq⟩
  refine cgw k0 fun w12 => jq (jq (jr (jm ζ (js (jlw U22 k0 ζ) (js (jgtr ζ ζ) (jn (jx ?_)))))))
  refine jif ζ (fun hc4 => ?_) (fun hc4 => ?_)
  have hq1 := hq _ (ix_mem (l := q) (i := 0) (by omega))
  refine jsk (jx (jq (jb (jq (jstl Mixed (by kernel_rfl) (jt (jf F28_1 ζ) (jt (jl k2 O26 ζ ζ) (jt (jmv ζ) (jt (jiw (i := 0) U22 Z3 k0 ζ ζ ζ (by omega)) (jt (jwI k0 (by omega) O3 ζ) (jt (jix (i := (Int.toNat (ix q 0))) U26 Z71 (rMFunc.c_Blocks d1) ζ ζ (by omega) (by omega)) ?_)))))))))))
  refine jt (jf F71_2 ζ) (jt (jf F59_3 ζ) (jtv (jlV (rEnd.A_To (rMBlock.A_End (dix (rMFunc.c_Blocks d1) (Int.toNat (ix q 0)) (by omega)))) O22 ζ ζ) fun v78 q13 w13 => jt (jln U22 d0 ζ) (jt (jmv ζ) (jdn (jx (jb ?_))))))
  refine jlp (u4 fun (j : Nat) (se2 : List Bool) (q2 : List Int) (vq2 : Value) => ⟨j ≤ (ix m.Blocks (Int.toNat (ix q 0))).End.To.length ∧ bfsIn se2 q2 ((ix m.Blocks (Int.toNat (ix q 0))).End.To.drop j) = bfsIn se q (ix m.Blocks (Int.toNat (ix q 0))).End.To ∧ cntF se2 + q2.length = cntF se + q.length ∧ se2.length = m.Blocks.length ∧ (∀ x ∈ q2, 0 ≤ x ∧ x < m.Blocks.length) ∧ 0 < q2.length, [dv (rL (rI .i64)) v78 (((ix m.Blocks (Int.toNat (ix q 0))).End).To), dv (rL (rL (rI .i64))) (.slice (some ⟨g22, 0, none⟩) (List.length m.Blocks) (List.length m.Blocks)) ls, da rMFunc (vMFunc m a0) m], [wn X.n (rI .i64) 3 vq2 q2, gl X.n rB 4 (.slice (some ⟨g26, 0, none⟩) (List.length m.Blocks) (List.length m.Blocks)) se2, bx g1 28 [.int .i64 m.Params, a0]], [(1, .pointer (some ⟨g1, 0, none⟩)), (2, .int .i64 0), (3, .int .i64 0), (4, .int .i64 0), (5, (.slice (some ⟨g22, 0, none⟩) (List.length m.Blocks) (List.length m.Blocks))), (6, (.slice (some ⟨g26, 0, none⟩) (List.length m.Blocks) (List.length m.Blocks))), (11, vq2), (78, v78), (79, .int .i64 (↑(List.length (((ix m.Blocks (Int.toNat (ix q 0))).End).To)))), (80, .int .i64 (↑j))], (ix m.Blocks (Int.toNat (ix q 0))).End.To.length - j⟩) (0, se, q, vq) ⟨by dsimp only; omega, rfl, rfl, hse, hq, by dsimp only; omega⟩ (dc d0 (dc d1 (dc d2 dn))) (kc k0 (kc k0 (kc k0 kn))) ⟨ζ, ζ, ζ, ζ, ζ, ζ, ζ, ζ, ζ, eqI (by omega), trivial⟩ ?_
  rintro ⟨j, se2, q2, vq2⟩; dsimp only [u4]; rintro ⟨hj, hIn, hcn2, hse2, hq2, hq0⟩
  refine cgw k0 fun w15 => jq (jr (js (jlss ζ ζ) (jn (jx (jq ?_)))))
  refine jif ζ (fun hc5 => ?_) (fun hc5 => ?_)
  have htq := hT _ (ix_mem (l := m.Blocks) (i := Int.toNat (ix q 0)) (by omega)) _ (ix_mem (l := (ix m.Blocks (Int.toNat (ix q 0))).End.To) (i := j) (by omega))
  refine jsk (jx (jq (jb (jq (jr (js (jix U22 Z3 d0 ζ ζ ζ (by omega)) (js (jlI (dix d0 j (by omega)) O3 ζ) (ja ζ (jn (jx (jq ?_)))))))))))
  refine jr (jm ζ (jm ζ (js (jig (i := (Int.toNat (ix (((ix m.Blocks (Int.toNat (ix q 0))).End).To) j))) U120 Z4 k1 ζ ζ (by omega) (by omega)) (js (jgB k1 (by omega) O4 ζ) (js (jnot ζ) (jn (jx ?_)))))))
  refine jif ζ (fun hc6 => ?_) (fun hc6 => ?_)
  refine jq (jr (jm ζ (jm ζ (js (jig (i := (Int.toNat (ix (((ix m.Blocks (Int.toNat (ix q 0))).End).To) j))) U120 Z4 k1 ζ ζ (by omega) (by omega)) (jsg k1 ζ Z4 ζ ζ ζ (by omega) wB (jn (jx (jr (jm ζ (jm ζ (jlit (r := (rI .i64)) (l := [ix (((ix m.Blocks (Int.toNat (ix q 0))).End).To) j]) U22 I3 (by decide) ζ ζ ζ (lV ζ ζ (wI (wad (dix d0 j (by omega)))) ln) fun g94 => ?_)))))))))))
  refine jaw U22 I3 (by decide) ζ ζ k2 k0 ζ ζ (by omega) fun v95 w16 => ja ζ (jn (jbn (jx (jr (js (jadd ζ ζ (by omega)) (jm ζ (jn ?_)))))))
  exact jag (j + 1, List.set se2 (Int.toNat (ix (((ix m.Blocks (Int.toNat (ix q 0))).End).To) j)) true, q2 ++ [ix (((ix m.Blocks (Int.toNat (ix q 0))).End).To) j], v95) ⟨by dsimp only; omega, by dsimp only; rw [← hIn, drop_ix (l := (ix m.Blocks (Int.toNat (ix q 0))).End.To) (i := j) (by omega)]; simp only [bfsIn]; rw [if_neg (by rw [hc6]; decide)], by dsimp only; have h9 := cntF_set (l := se2) (i := Int.toNat (ix (ix m.Blocks (Int.toNat (ix q 0))).End.To j)) (by omega) (by rw [hc6]; decide); rw [List.length_append]; simp; omega, by dsimp only; rw [List.length_set]; exact hse2, by dsimp only; intro x hx9; rcases List.mem_append.1 hx9 with h9 | h9; (· exact hq2 x h9); (simp at h9; subst h9; omega), by dsimp only; rw [List.length_append]; simp⟩ (dc d0 (dc d1 (dc d2 dn))) (kc k0 (kc k0 (kc k0 kn))) ⟨ζ, ζ, ζ, ζ, ζ, ζ, ζ, ζ, ζ, eqI (by omega), trivial⟩
  refine jsk (jbn (jx (jr (js (jadd ζ ζ (by omega)) (jm ζ (jn ?_))))))
  exact jag (j + 1, se2, q2, vq2) ⟨by dsimp only; omega, by dsimp only; rw [← hIn, drop_ix (l := (ix m.Blocks (Int.toNat (ix q 0))).End.To) (i := j) (by omega)]; simp only [bfsIn]; rw [if_pos hc6], hcn2, hse2, hq2, hq0⟩ (dc d0 (dc d1 (dc d2 dn))) (kc k0 (kc k0 (kc k0 kn))) ⟨ζ, ζ, ζ, ζ, ζ, ζ, ζ, ζ, ζ, eqI (by omega), trivial⟩
  refine jex (jtx (jtx (jbh (jbn (jx (jr (jm ζ (jsw (lo := 1) U22 Z3 k0 ζ ζ ζ (by omega) fun v69 w17 => ja ζ (jn ?_)))))))))
  exact jag (f - 1, se2, List.drop 1 q2, v69) ⟨by dsimp only; rw [hb, bfs_step (by omega) (by omega), ← hIn, List.drop_of_length_le (by omega)]; rfl, by dsimp only; rw [List.length_drop]; omega, by dsimp only; omega, hse2, by dsimp only; intro x hx9; exact hq2 x (List.mem_of_mem_drop hx9)⟩ (dc d1 (dc d2 dn)) (kc k0 (kc k0 (kc k0 kn))) ⟨ζ, ζ, ζ, ζ, ζ, ζ, ζ, trivial⟩
  have hq9 : q = [] := List.eq_nil_of_length_eq_zero (by omega)
  refine jex (jtx (jtx (jbh (jx (jq (jq (jr (jm ζ (jc E102 ζ ζ (Tv.temp 4294967296 (idxBool_ct false) (by omega)) dn (kc k1 kn) (fun _ => p0) (fun _ => p1) fun _ => ja ζ (jn ?_))))))))))
  refine jx (jq (jr (jm ζ (js (jgeq ζ ζ) (jn (jx ?_))))))
  refine jif ζ (fun hc7 => ?_) (fun hc7 => ?_)
  refine jq (jr (jm ζ (ja ζ (ja ζ (ja ζ (jn (jx (jrt (jtr ?_)))))))))
  exact jr3 ζ ζ ζ ζ () (tIII (by first | exact graph_15 hb hq9 hc7 | exact graph_16 hb hq9 hc7 (by omega) (by omega) hG hno (bad_yes (by omega) hls hc10) | exact graph_0 hb hq9 hc7 (by omega) hG)) dn (fun _ _ => kn)
  rw [show k = m.Blocks.length by omega] at hls
  refine jsk (jx (jq (jq (jr (js (jf F28_1 ζ) (js (jl k2 O26 ζ ζ) (js (jln U26 (rMFunc.c_Blocks d1) ζ) (jm ζ (jn (jx (jb ?_)))))))))))
  refine jlp (fun (k5 : Nat) => ⟨k5 ≤ m.Blocks.length ∧ graphPhis m.Blocks 0 m.Blocks = graphPhis m.Blocks k5 (m.Blocks.drop k5), [dv (rL (rL (rI .i64))) (.slice (some ⟨g22, 0, none⟩) (List.length m.Blocks) (List.length m.Blocks)) ls, da rMFunc (vMFunc m a0) m], [], [(5, (.slice (some ⟨g22, 0, none⟩) (List.length m.Blocks) (List.length m.Blocks))), (103, a0), (104, .int .i64 (↑(List.length m.Blocks))), (105, .int .i64 (↑k5))], m.Blocks.length - k5⟩) 0 ⟨by omega, rfl⟩ (dc d0 (dc d1 dn)) kn ⟨ζ, ζ, ζ, eqI (by omega), trivial⟩ ?_
  rintro k5; dsimp only; rintro ⟨hk5, hG⟩
  refine jq (jr (js (jlss ζ ζ) (jn (jx (jq ?_)))))
  refine jif ζ (fun hc8 => ?_) (fun hc8 => ?_)
  refine jsk (jx (jq (jb (jq (jr (jm ζ (js (jix U26 Z71 (rMFunc.c_Blocks d1) ζ ζ ζ (by omega)) (jA3 sMBlock (jlA (dix (rMFunc.c_Blocks d1) k5 (by omega)) A71 Z71 ζ) fun c109a c109b c109c => jalc J71 ζ fun g16 => ja ζ (jdq (rMBlock.c_Phis d0) fun q19 w19 => ?_)))))))))
  refine jdq (rMBlock.c_Ins d0) fun q20 w20 => jdq (rMBlock.c_End_To d0) fun q21 w21 => jsta k0 Z71 ζ ζ ζ ⟨w19.one, w20.one, ζ, ζ, ζ, w21.one, ζ, trivial⟩ (saf ζ) (jn (jx (jq (jr (js (jf F71_0 ζ) (js (jl k0 O68 ζ ζ) (js (jln U68 (rMBlock.c_Phis d0) ζ) (jm ζ (jn ?_)))))))))
  refine jx (jb ?_)
  refine jlp (fun (i6 : Nat) => ⟨i6 ≤ (ix m.Blocks k5).Phis.length ∧ (∀ p ∈ (ix m.Blocks k5).Phis.take i6, badPhi m.Blocks k5 p = false), [da rMBlock (vMBlock (ix m.Blocks k5) (c109a, c109b, c109c)) (ix m.Blocks k5), dv (rL (rL (rI .i64))) (.slice (some ⟨g22, 0, none⟩) (List.length m.Blocks) (List.length m.Blocks)) ls, da rMFunc (vMFunc m a0) m], [], [(5, (.slice (some ⟨g22, 0, none⟩) (List.length m.Blocks) (List.length m.Blocks))), (15, .int .i64 (↑k5)), (103, a0), (104, .int .i64 (↑(List.length m.Blocks))), (105, .int .i64 (↑k5)), (111, c109a), (112, .int .i64 (↑(List.length ((ix m.Blocks k5).Phis)))), (113, .int .i64 (↑i6))], (ix m.Blocks k5).Phis.length - i6⟩) 0 ⟨by omega, by simp⟩ (dc d0 (dc d1 (dc d2 dn))) kn ⟨ζ, ζ, ζ, ζ, ζ, ζ, ζ, eqI (by omega), trivial⟩ ?_
  rintro i6; dsimp only; rintro ⟨hi6, hno⟩
  refine jq (jr (js (jlss ζ ζ) (jn (jx (jq ?_)))))
  refine jif ζ (fun hc9 => ?_) (fun hc9 => ?_)
  refine jsk (jx (jq (jb (jq (jr (jm ζ (js (jix U68 Z76 (rMBlock.c_Phis d0) ζ ζ ζ (by omega)) (jA sPhi (jlA (dix (rMBlock.c_Phis d0) i6 (by omega)) A76 Z76 ζ) fun c117 => jalc J76 ζ fun g18 => ja ζ (jdq (rPhi.c_In d0) fun q23 w23 => ?_)))))))))
  refine jsta k0 Z76 ζ ζ ζ ⟨ζ, w23.one, trivial⟩ (saf ζ) (jn (jx (jq (jany false (.a 0 (.a 1 (.a 2 (.a 3 (.a 4 (.a 5 (.a 6 (.a 7 (.a 8 (.o 9 (.a 10 (.a 11 .e)))))))))))) Mixed (by kernel_rfl) (kc k0 kn) fun F24 => jy ζ (jmv ζ) (jy ζ (jeql ζ ζ) (jy ζ (jmv ζ) (jyg ζ ζ ζ (.f _) (fun hg => jf F76_1 ζ) (jyg ζ ζ ζ (.f _) (fun hg => jl k0 O74 (evg ζ hg) ζ) (jyg ζ ζ ζ (.f _) (fun hg => jmv ζ) (jyg ζ ζ ζ (.f _) (fun hg => jmv ζ) ?_))))))))))
  refine adq d2 fun q25 w25 => jyg ζ ζ ζ (.f _) (fun hg => jix U116 Z22 d2 (evg ζ hg) (evg ζ hg) ζ (by first | omega | (simp at hg; omega) | (simp only [List.length_set]; omega))) (jyge (q := fun v => dv (rL (rI .i64)) v (ix ls k5)) ζ ζ ζ (.f _) (fun hg => xlV (dix d2 k5 (by first | omega | (simp at hg; omega) | (simp only [List.length_set]; omega))) O22 ζ (evg ζ hg)) fun v126 => jyo ζ (jgc ζ ζ (.f _) E103 ζ (fun hg => evl3 (evg ζ hg) (evg ζ hg) ζ) (fun hg => eqf_ct) (fun hg => (dc (rPhi.c_In d2) (dc (d1.on hg) dn))) kn p0 (jyn d0 (kc k0 kn) (jyg ζ ζ ζ (.f _) (fun hg => jnot (evg ζ hg)) (jy ζ (jor ζ ζ) (jyd (jx ?_)))))))
  refine jif ζ (fun hc10 => ?_) (fun hc10 => ?_)
  refine jq (jr (jm ζ (jm ζ (js (jsub ζ ζ (by omega)) (ja ζ (ja ζ (ja ζ (jn (jx (jrt (jbr ?_)))))))))))
  refine jtr (jtr (jbr (jbr (jtr (jtr (jbr (jtr ?_)))))))
  exact jr3 ζ ζ ζ ζ () (tIII (by first | exact graph_15 hb hq9 hc7 | exact graph_16 hb hq9 hc7 (by omega) (by omega) hG hno (bad_yes (by omega) hls hc10) | exact graph_0 hb hq9 hc7 (by omega) hG)) dn (fun _ _ => kn)
  refine jsk (jbn (jx (jr (js (jadd ζ ζ (by omega)) (jm ζ (jn ?_))))))
  exact jag (i6 + 1) ⟨by omega, no_snoc (by omega) hno (bad_no (by omega) hls hc10)⟩ (dc d3 (dc d4 (dc d5 dn))) kn ⟨ζ, ζ, ζ, ζ, ζ, ζ, ζ, eqI (by omega), trivial⟩
  refine jex (jtx (jtx (jbh (jbn (jx (jr (js (jadd ζ ζ (by omega)) (jm ζ (jn ?_)))))))))
  exact jag (k5 + 1) ⟨by omega, phis_good (by omega) (by omega) hG hno⟩ (dc d1 (dc d2 dn)) kn ⟨ζ, ζ, ζ, eqI (by omega), trivial⟩
  refine jex (jtx (jtx (jbh (jx (jq (jr (ja ζ (ja ζ (ja ζ (jn (jx ?_)))))))))))
  refine jrt ?_
  exact jr3 ζ ζ ζ ζ () (tIII (by first | exact graph_15 hb hq9 hc7 | exact graph_16 hb hq9 hc7 (by omega) (by omega) hG hno (bad_yes (by omega) hls hc10) | exact graph_0 hb hq9 hc7 (by omega) hG)) dn (fun _ _ => kn)
end Go.Proofs.YtdlcjaefkjbonaaGreat
namespace Go.Proofs.YtdlcjaefkjbonaaGreat
set_option linter.unusedVariables false
set_option linter.unusedSimpArgs false
set_option linter.unusedSectionVars false
open Go.JE
abbrev U69 := @Tryz.underlying69
theorem A28 : ∃ d, Tryz.prog.underlying 28 = some d ∧ (match d with | .struct _ | .array _ _ => true | _ => false) = true := ⟨_, Tryz.underlying28, rfl⟩
theorem E24 : Ent Tryz.prog 24 := ⟨_, Tryz.func24, by kernel_rfl, by kernel_rfl⟩
theorem E46 : Ent Tryz.prog 46 := ⟨_, Tryz.func46, by kernel_rfl, by kernel_rfl⟩
theorem E47 : Ent Tryz.prog 47 := ⟨_, Tryz.func47, by kernel_rfl, by kernel_rfl⟩
theorem E48 : Ent Tryz.prog 48 := ⟨_, Tryz.func48, by kernel_rfl, by kernel_rfl⟩
theorem E49 : Ent Tryz.prog 49 := ⟨_, Tryz.func49, by kernel_rfl, by kernel_rfl⟩
theorem F28_0 : Fld Tryz.prog 28 0 0 := ⟨_, _, Tryz.underlying28, rfl, rfl, 1, (by unfold Sz; kernel_rfl), by decide⟩
theorem F71_1 : Fld Tryz.prog 71 1 1 := ⟨_, _, Tryz.underlying71, rfl, rfl, 1, (by unfold Sz; kernel_rfl), by decide⟩
theorem O69 : One Tryz.prog 69 := ⟨_, Tryz.underlying69, rfl⟩
theorem Z28 : Sz Tryz.prog 28 2 := by unfold Sz; kernel_rfl
theorem J46 : (Tryz.prog.info? 46).bind (·.zero) = some (.agg #[.int .i64 0, .int .i64 0, .int .i64 0, .int .i64 0, .int .i64 0, .int .i64 0, .int .i32 0, .slice none 0 0]) := by kernel_rfl
def insW : Nat → List D.Mach → Option (Int × Int)
  | _, [] => none
  | i, y :: l => if insE y = 0 then insW (i + 1) l else some (insE y, (i : Int))
def phiW (all : List D.Phi) : Nat → List D.Phi → Option (Int × Int)
  | _, [] => none
  | i, p :: l => if phiE p (all.take i) = 0 then phiW all (i + 1) l else some (phiE p (all.take i), -1 - (i : Int))
def blockW (n : Int) (x : D.MBlock) : Option (Int × Int) :=
  match phiW x.Phis 0 x.Phis with
  | some t => some t
  | none => match insW 0 x.Ins with
    | some t => some t
    | none => if endE x.End n = 0 then none else some (endE x.End n, (x.Ins.length : Int))
def thingsW (n : Int) : Nat → List D.MBlock → Option (Int × Int × Int)
  | _, [] => none
  | b, x :: l => match blockW n x with
    | some t => some (t.1, (b : Int), t.2)
    | none => thingsW n (b + 1) l
def cntB : List D.MBlock → Int
  | [] => 0
  | x :: l => x.Phis.length + x.Ins.length + 1 + cntB l
def funcM (m : D.MFunc) : Int × Int × Int :=
  if m.Params < 0 ∨ 4 < m.Params then (1, 0, 0)
  else if m.Blocks.length = 0 then (14, 0, 0)
  else if 512 < m.Blocks.length ∨ 16384 < cntB m.Blocks then (2, 0, 0)
  else match thingsW m.Blocks.length 0 m.Blocks with
    | some t => t
    | none => graphM m
def rightM (m : D.MFunc) : Bool := decide ((funcM m).1 = 0)
section
variable {n : Int} {bs : List D.MBlock} {k i : Nat}
theorem phiW_end {P : List D.Phi} (hi : P.length ≤ i) (h : phiW P 0 P = phiW P i (P.drop i)) : phiW P 0 P = none := by rw [h, List.drop_of_length_le hi]; rfl
theorem insW_end {P : List D.Mach} (hi : P.length ≤ i) (h : insW 0 P = insW i (P.drop i)) : insW 0 P = none := by rw [h, List.drop_of_length_le hi]; rfl
theorem phiW_next {P : List D.Phi} (hi : i < P.length) (h : phiW P 0 P = phiW P i (P.drop i)) (h0 : phiE (ix P i) (P.take i) = 0) : phiW P 0 P = phiW P (i + 1) (P.drop (i + 1)) := by rw [h, drop_ix hi, phiW, if_pos h0]
theorem insW_next {P : List D.Mach} (hi : i < P.length) (h : insW 0 P = insW i (P.drop i)) (h0 : insE (ix P i) = 0) : insW 0 P = insW (i + 1) (P.drop (i + 1)) := by rw [h, drop_ix hi, insW, if_pos h0]
theorem things_phi (hk : k < bs.length) (hB : thingsW n 0 bs = thingsW n k (bs.drop k)) (hi : i < (ix bs k).Phis.length) (hP : phiW (ix bs k).Phis 0 (ix bs k).Phis = phiW (ix bs k).Phis i ((ix bs k).Phis.drop i)) (h : ¬ phiE (ix (ix bs k).Phis i) ((ix bs k).Phis.take i) = 0) :
    thingsW n 0 bs = some (phiE (ix (ix bs k).Phis i) ((ix bs k).Phis.take i), (k : Int), -1 - (i : Int)) := by
  rw [drop_ix hi, phiW, if_neg h] at hP
  rw [hB, drop_ix hk, thingsW, blockW, hP]
theorem things_ins (hk : k < bs.length) (hB : thingsW n 0 bs = thingsW n k (bs.drop k)) (hP : phiW (ix bs k).Phis 0 (ix bs k).Phis = none) (hi : i < (ix bs k).Ins.length) (hI : insW 0 (ix bs k).Ins = insW i ((ix bs k).Ins.drop i)) (h : ¬ insE (ix (ix bs k).Ins i) = 0) :
    thingsW n 0 bs = some (insE (ix (ix bs k).Ins i), (k : Int), (i : Int)) := by
  rw [drop_ix hi, insW, if_neg h] at hI
  rw [hB, drop_ix hk, thingsW, blockW, hP, hI]
theorem things_end (hk : k < bs.length) (hB : thingsW n 0 bs = thingsW n k (bs.drop k)) (hP : phiW (ix bs k).Phis 0 (ix bs k).Phis = none) (hI : insW 0 (ix bs k).Ins = none) (h : ¬ endE (ix bs k).End n = 0) :
    thingsW n 0 bs = some (endE (ix bs k).End n, (k : Int), ((ix bs k).Ins.length : Int)) := by
  rw [hB, drop_ix hk, thingsW, blockW, hP, hI]
  simp only [if_neg h]
theorem things_next (hk : k < bs.length) (hB : thingsW n 0 bs = thingsW n k (bs.drop k)) (hP : phiW (ix bs k).Phis 0 (ix bs k).Phis = none) (hI : insW 0 (ix bs k).Ins = none) (h : endE (ix bs k).End n = 0) :
    thingsW n 0 bs = thingsW n (k + 1) (bs.drop (k + 1)) := by
  rw [hB, drop_ix hk, thingsW, blockW, hP, hI]
  simp only [if_pos h]
theorem things_done (hk : bs.length ≤ k) (hB : thingsW n 0 bs = thingsW n k (bs.drop k)) : thingsW n 0 bs = none := by rw [hB, List.drop_of_length_le hk]; rfl
theorem things_none : ∀ (bs : List D.MBlock) (b : Nat), thingsW n b bs = none → ∀ x ∈ bs, phiW x.Phis 0 x.Phis = none ∧ insW 0 x.Ins = none ∧ endE x.End n = 0
  | [], _, _, x, hx => by cases hx
  | y :: l, b, h, x, hx => by
    rw [thingsW] at h
    cases hb : blockW n y with
    | some t => rw [hb] at h; cases h
    | none =>
      rw [hb] at h
      rcases List.mem_cons.1 hx with rfl | hx
      · unfold blockW at hb
        cases h1 : phiW x.Phis 0 x.Phis with
        | some t => rw [h1] at hb; cases hb
        | none =>
          rw [h1] at hb
          cases h2 : insW 0 x.Ins with
          | some t => rw [h2] at hb; cases hb
          | none =>
            rw [h2] at hb
            refine ⟨rfl, rfl, ?_⟩
            by_cases h3 : endE x.End n = 0
            · exact h3
            · simp only [if_neg h3] at hb; cases hb
      · exact things_none l _ h x hx
theorem end_to {e : D.End} (h : endE e n = 0) : toM e = true ∧ regM (needsM e) = true ∧ ∀ t ∈ e.To, 1 ≤ t ∧ t < n := by
  unfold endE at h
  split at h
  · cases h
  · split at h
    · cases h
    · split at h
      · cases h
      · rename_i h1 h2 h3
        refine ⟨by simpa using h1, by simpa using h2, fun t ht => ?_⟩
        have := (List.any_eq_false.1 (by simpa [anyM] using h3)) t ht
        unfold badB at this; simp at this; omega
theorem things_to (h : thingsW n 0 bs = none) : ∀ x ∈ bs, ∀ t ∈ x.End.To, 1 ≤ t ∧ t < n := fun x hx => (end_to (things_none bs 0 h x hx).2.2).2.2
end
section
variable {m : D.MFunc}
theorem func_arg (h : m.Params < 0 ∨ 4 < m.Params) : funcM m = (1, 0, 0) := by unfold funcM; rw [if_pos h]
theorem func_block (h : ¬ m.Params < 0 ∧ ¬ 4 < m.Params) (h2 : (m.Blocks.length : Int) = 0) : funcM m = (14, 0, 0) := by unfold funcM; rw [if_neg (by omega), if_pos (by omega)]
theorem func_many (h : ¬ m.Params < 0 ∧ ¬ 4 < m.Params) (h2 : ¬ (m.Blocks.length : Int) = 0) (h3 : 512 < (m.Blocks.length : Int) ∨ 16384 < cntB m.Blocks) : funcM m = (2, 0, 0) := by unfold funcM; rw [if_neg (by omega), if_neg (by omega), if_pos (by omega)]
theorem func_some (h : ¬ m.Params < 0 ∧ ¬ 4 < m.Params) (h2 : ¬ (m.Blocks.length : Int) = 0) (h3 : ¬ 512 < (m.Blocks.length : Int) ∧ ¬ 16384 < cntB m.Blocks) {t : Int × Int × Int} (h4 : thingsW m.Blocks.length 0 m.Blocks = some t) : funcM m = t := by
  unfold funcM; rw [if_neg (by omega), if_neg (by omega), if_neg (by omega), h4]
theorem func_graph (h : ¬ m.Params < 0 ∧ ¬ 4 < m.Params) (h2 : ¬ (m.Blocks.length : Int) = 0) (h3 : ¬ 512 < (m.Blocks.length : Int) ∧ ¬ 16384 < cntB m.Blocks) (h4 : thingsW m.Blocks.length 0 m.Blocks = none) : funcM m = graphM m := by
  unfold funcM; rw [if_neg (by omega), if_neg (by omega), if_neg (by omega), h4]
end
set_option maxRecDepth 4000 in
theorem pFunc_ct {a0 : Value} {m : D.MFunc} : Tv Tryz.prog 24 #[vMFunc m a0] [da rMFunc (vMFunc m a0) m] [] (.tuple #[.int .i64 ((funcM m).1), .int .i64 ((funcM m).2.1), .int .i64 ((funcM m).2.2)]) := by
  refine jenter (args := [vMFunc m a0]) Tryz.func24 rfl rfl rfl fun w0 X => ?_
  refine jq (jr (jbox ζ ζ fun g1 => ja ζ (ja ζ (ja ζ (jn (jx (jq (jr (ja ζ (jn ?_))))))))))
  refine jx (jq (jq (jr (js (jf F28_1 ζ) (js (jl k0 O26 ζ ζ) (jdq (rMFunc.c_Blocks d0) fun q1 w1 => js (jln U26 (rMFunc.c_Blocks d0) ζ) (jm ζ (jn (jx (jb ?_))))))))))
  refine jlp (u2 fun (k : Nat) (c : Int) => ⟨k ≤ m.Blocks.length ∧ c + cntB (m.Blocks.drop k) = cntB m.Blocks ∧ 0 ≤ c ∧ c ≤ 2147483649 * k, [da rMFunc (vMFunc m a0) m], [bx g1 28 [.int .i64 m.Params, a0]], [(1, .pointer (some ⟨g1, 0, none⟩)), (2, .int .i64 0), (3, .int .i64 0), (4, .int .i64 0), (5, .int .i64 c), (18, a0), (19, .int .i64 (↑(List.length m.Blocks))), (20, .int .i64 (↑k))], m.Blocks.length - k⟩) (0, 0) ⟨by dsimp only; omega, by simp, by simp, by simp⟩ (dc d0 dn) (kc k0 kn) ⟨ζ, ζ, ζ, ζ, eqI (by omega), ζ, ζ, eqI (by omega), trivial⟩ ?_
  rintro ⟨k, c⟩; dsimp only [u2]; rintro ⟨hk, hc, h0, hc9⟩
  refine jq (jr (js (jlss ζ ζ) (jn (jx (jq ?_)))))
  refine jif ζ (fun hc1 => ?_) (fun hc1 => ?_)
  refine jsk (jx (jq (jb (jq (jr (js (jix U26 Z71 (rMFunc.c_Blocks d0) ζ ζ ζ (by omega)) (jA3 sMBlock (jlA (dix (rMFunc.c_Blocks d0) k (by omega)) A71 Z71 ζ) fun c23a c23b c23c => jalc J71 ζ fun g7 => jdq (rMBlock.c_Phis d0) fun q3 w3 => jdq (rMBlock.c_Ins d0) fun q4 w4 => jdq (rMBlock.c_End_To d0) fun q5 w5 => ?_)))))))
  refine jsta k0 Z71 ζ ζ ζ ⟨w3.one, w4.one, ζ, ζ, ζ, w5.one, ζ, trivial⟩ (saf ζ) (jn (jx (jr (jm ζ (js (jf F71_0 ζ) (js (jl k0 O68 ζ ζ) (js (jln U68 (rMBlock.c_Phis d0) ζ) (js (jf F71_1 ζ) (js (jl k0 O69 ζ ζ) (js (jln U69 (rMBlock.c_Ins d0) ζ) (js (jadd ζ ζ (by omega)) ?_)))))))))))
  refine js (jadd ζ ζ (by omega)) (js (jadd ζ ζ (by omega)) (ja ζ (jn (jbn (jx (jr (js (jadd ζ ζ (by omega)) (jm ζ (jn ?_)))))))))
  exact jag (k + 1, c + (((((List.length ((ix m.Blocks k).Phis) : Nat) : Int)) + (((List.length ((ix m.Blocks k).Ins) : Nat) : Int))) + 1)) ⟨by dsimp only; omega, by dsimp only; rw [← hc, drop_ix (l := m.Blocks) (i := k) (by omega), cntB]; omega, by dsimp only; omega, by dsimp only; omega⟩ (dc d1 dn) (kc k1 kn) ⟨ζ, ζ, ζ, ζ, ζ, ζ, ζ, eqI (by omega), trivial⟩
  have hcnt : c = cntB m.Blocks := by rw [← hc, List.drop_of_length_le (by omega)]; simp [cntB]
  subst hcnt
  refine jex (jtx (jtx (jbh (jx (jq (jb (jq (jr (js (jf F28_0 ζ) (js (jl k0 O3 ζ ζ) (js (jlss ζ ζ) ?_)))))))))))
  refine jm ζ (jg ζ ζ (.f _) (fun hg => jf F28_0 ζ) (jg ζ ζ (.f _) (fun hg => jl k0 O3 (evg ζ hg) ζ) (jg ζ ζ (.f _) (fun hg => jgtr (evg ζ hg) ζ) (js (jor ζ ζ) (ja ζ (jn (jx ?_)))))))
  refine jif ζ (fun hc2 => ?_) (fun hc2 => ?_)
  refine jq (jr (ja ζ (ja ζ (ja ζ (jn (jx (jrt (jbr (jtr ?_)))))))))
  exact jr3 ζ ζ ζ ζ () (tIII (by first | exact func_arg hc2 | exact func_block hc2 hc3 | exact func_many hc2 hc3 hc4 | exact func_some hc2 hc3 hc4 (things_phi (by omega) hB (by omega) hP hc7) | exact func_some hc2 hc3 hc4 (things_ins (by omega) hB (phiW_end (by omega) hP) (by omega) hI hc9) | exact func_some hc2 hc3 hc4 (things_end (by omega) hB (phiW_end (by omega) hP) (insW_end (by omega) hI) hc10) | exact func_graph hc2 hc3 hc4 (things_done (by omega) hB))) dn (fun _ _ => kn)
  refine jq (jr (js (jf F28_1 ζ) (js (jl k0 O26 ζ ζ) (js (jln U26 (rMFunc.c_Blocks d0) ζ) (js (jeql ζ ζ) (ja ζ (jn (jx ?_))))))))
  refine jif ζ (fun hc3 => ?_) (fun hc3 => ?_)
  refine jq (jr (ja ζ (ja ζ (ja ζ (jn (jx (jrt (jbr (jtr ?_)))))))))
  exact jr3 ζ ζ ζ ζ () (tIII (by first | exact func_arg hc2 | exact func_block hc2 hc3 | exact func_many hc2 hc3 hc4 | exact func_some hc2 hc3 hc4 (things_phi (by omega) hB (by omega) hP hc7) | exact func_some hc2 hc3 hc4 (things_ins (by omega) hB (phiW_end (by omega) hP) (by omega) hI hc9) | exact func_some hc2 hc3 hc4 (things_end (by omega) hB (phiW_end (by omega) hP) (insW_end (by omega) hI) hc10) | exact func_graph hc2 hc3 hc4 (things_done (by omega) hB))) dn (fun _ _ => kn)
  refine jq (jr (js (jf F28_1 ζ) (js (jl k0 O26 ζ ζ) (js (jln U26 (rMFunc.c_Blocks d0) ζ) (js (jgtr ζ ζ) (jm ζ (jg ζ ζ (.f _) (fun hg => jmv ζ) (jg ζ ζ (.f _) (fun hg => jgtr (evg ζ hg) ζ) (js (jor ζ ζ) (ja ζ (jn ?_)))))))))))
  refine jx ?_
  refine jif ζ (fun hc4 => ?_) (fun hc4 => ?_)
  refine jq (jr (ja ζ (ja ζ (ja ζ (jn (jx (jrt (jbr (jtr ?_)))))))))
  exact jr3 ζ ζ ζ ζ () (tIII (by first | exact func_arg hc2 | exact func_block hc2 hc3 | exact func_many hc2 hc3 hc4 | exact func_some hc2 hc3 hc4 (things_phi (by omega) hB (by omega) hP hc7) | exact func_some hc2 hc3 hc4 (things_ins (by omega) hB (phiW_end (by omega) hP) (by omega) hI hc9) | exact func_some hc2 hc3 hc4 (things_end (by omega) hB (phiW_end (by omega) hP) (insW_end (by omega) hI) hc10) | exact func_graph hc2 hc3 hc4 (things_done (by omega) hB))) dn (fun _ _ => kn)
  refine jsk (jbn (jx (jq (jq (jr (js (jf F28_1 ζ) (js (jl k0 O26 ζ ζ) (js (jln U26 (rMFunc.c_Blocks d0) ζ) (jm ζ (jn (jx ?_)))))))))))
  refine jb ?_
  refine jlp (fun (k : Nat) => ⟨k ≤ m.Blocks.length ∧ thingsW m.Blocks.length 0 m.Blocks = thingsW m.Blocks.length k (m.Blocks.drop k), [da rMFunc (vMFunc m a0) m], [bx g1 28 [.int .i64 m.Params, a0]], [(1, .pointer (some ⟨g1, 0, none⟩)), (59, a0), (60, .int .i64 (↑(List.length m.Blocks))), (61, .int .i64 (↑k))], m.Blocks.length - k⟩) 0 ⟨by omega, rfl⟩ (dc d0 dn) (kc k0 kn) ⟨ζ, ζ, ζ, eqI (by omega), trivial⟩ ?_
  rintro k; dsimp only; rintro ⟨hk, hB⟩
  refine jq (jr (js (jlss ζ ζ) (jn (jx (jq ?_)))))
  refine jif ζ (fun hc5 => ?_) (fun hc5 => ?_)
  refine jsk (jx (jq (jb (jq (jr (jm ζ (js (jix U26 Z71 (rMFunc.c_Blocks d0) ζ ζ ζ (by omega)) (jA3 sMBlock (jlA (dix (rMFunc.c_Blocks d0) k (by omega)) A71 Z71 ζ) fun c65a c65b c65c => jalc J71 ζ fun g9 => ja ζ (jdq (rMBlock.c_Phis d0) fun q7 w7 => ?_)))))))))
  refine jdq (rMBlock.c_Ins d0) fun q8 w8 => jdq (rMBlock.c_End_To d0) fun q9 w9 => jsta k0 Z71 ζ ζ ζ ⟨w7.one, w8.one, ζ, ζ, ζ, w9.one, ζ, trivial⟩ (saf ζ) (jn (jx (jq (jq (jr (js (jf F71_0 ζ) (js (jl k0 O68 ζ ζ) (js (jln U68 (rMBlock.c_Phis d0) ζ) (jm ζ ?_)))))))))
  refine jn (jx (jb ?_))
  refine jlp (fun (i : Nat) => ⟨i ≤ (ix m.Blocks k).Phis.length ∧ phiW (ix m.Blocks k).Phis 0 (ix m.Blocks k).Phis = phiW (ix m.Blocks k).Phis i ((ix m.Blocks k).Phis.drop i), [da rMBlock (vMBlock (ix m.Blocks k) (c65a, c65b, c65c)) (ix m.Blocks k), da rMFunc (vMFunc m a0) m], [bx g9 71 [c65a, c65b, .int .i64 (((ix m.Blocks k).End).Op), .int .i64 (((ix m.Blocks k).End).A), .int .i64 (((ix m.Blocks k).End).B), c65c, .int .i32 (((ix m.Blocks k).End).Imm)], bx g1 28 [.int .i64 m.Params, a0]], [(1, .pointer (some ⟨g1, 0, none⟩)), (8, .int .i64 (↑k)), (9, .pointer (some ⟨g9, 0, none⟩)), (59, a0), (60, .int .i64 (↑(List.length m.Blocks))), (61, .int .i64 (↑k)), (67, c65a), (68, .int .i64 (↑(List.length ((ix m.Blocks k).Phis)))), (69, .int .i64 (↑i))], (ix m.Blocks k).Phis.length - i⟩) 0 ⟨by omega, rfl⟩ (dc d0 (dc d1 dn)) (kc k0 (kc k0 kn)) ⟨ζ, ζ, ζ, ζ, ζ, ζ, ζ, ζ, eqI (by omega), trivial⟩ ?_
  rintro i; dsimp only; rintro ⟨hi, hP⟩
  refine jq (jr (js (jlss ζ ζ) (jn (jx (jq ?_)))))
  refine jif ζ (fun hc6 => ?_) (fun hc6 => ?_)
  refine jsk (jx (jq (jb (jq (jr (jm ζ (js (jix U68 Z76 (rMBlock.c_Phis d0) ζ ζ ζ (by omega)) (jA sPhi (jlA (dix (rMBlock.c_Phis d0) i (by omega)) A76 Z76 ζ) fun c73 => jalc J76 ζ fun g11 => ja ζ (jdq (rPhi.c_In d0) fun q11 w11 => ?_)))))))))
  refine jsta k0 Z76 ζ ζ ζ ⟨ζ, w11.one, trivial⟩ (saf ζ) (jn (jx (jq (jtl 5 Mixed (by kernel_rfl) (jt (jla k0 A76 Z76 ζ ζ ζ) (jt (jf F71_0 ζ) (jt (jl k1 O68 ζ ζ) (jt (jmv ζ) (jt (jshi (hi := i) U68 Z76 (rMBlock.c_Phis d1) ζ ζ ζ (by omega)) (jtt (jdq (dhi (rMBlock.c_Phis d1) i (by omega) (by omega)) fun q12 w12 => ?_)))))))))))
  refine jcv E46 ζ ζ pPhi_ct (dc d0 (dc (dhi (rMBlock.c_Phis d1) i (by omega) (by omega)) dn)) kn (ja ζ (jn (jx (jq (jr (jm ζ (js (jneq ζ ζ) (jn (jx ?_)))))))))
  refine jif ζ (fun hc7 => ?_) (fun hc7 => ?_)
  refine jq (jr (jm ζ (jm ζ (jm ζ (js (jsub ζ ζ (by omega)) (ja ζ (ja ζ (ja ζ (jn (jx (jrt ?_)))))))))))
  refine jbr (jtr (jtr (jbr (jtr (jbr (jtr (jtr (jbr (jtr ?_)))))))))
  exact jr3 ζ ζ ζ ζ () (tIII (by first | exact func_arg hc2 | exact func_block hc2 hc3 | exact func_many hc2 hc3 hc4 | exact func_some hc2 hc3 hc4 (things_phi (by omega) hB (by omega) hP hc7) | exact func_some hc2 hc3 hc4 (things_ins (by omega) hB (phiW_end (by omega) hP) (by omega) hI hc9) | exact func_some hc2 hc3 hc4 (things_end (by omega) hB (phiW_end (by omega) hP) (insW_end (by omega) hI) hc10) | exact func_graph hc2 hc3 hc4 (things_done (by omega) hB))) dn (fun _ _ => kn)
  refine jsk (jbn (jx (jr (js (jadd ζ ζ (by omega)) (jm ζ (jn ?_))))))
  exact jag (i + 1) ⟨by omega, phiW_next (by omega) hP hc7⟩ (dc d1 (dc d2 dn)) (kc k1 (kc k1 kn)) ⟨ζ, ζ, ζ, ζ, ζ, ζ, ζ, ζ, eqI (by omega), trivial⟩
  refine jex (jtx (jtx (jbh (jx (jq (jq (jr (js (jf F71_1 ζ) (js (jl k0 O69 ζ ζ) (js (jln U69 (rMBlock.c_Ins d0) ζ) (jm ζ ?_)))))))))))
  refine jn (jx (jb ?_))
  refine jlp (fun (j : Nat) => ⟨j ≤ (ix m.Blocks k).Ins.length ∧ insW 0 (ix m.Blocks k).Ins = insW j ((ix m.Blocks k).Ins.drop j), [da rMBlock (vMBlock (ix m.Blocks k) (c65a, c65b, c65c)) (ix m.Blocks k), da rMFunc (vMFunc m a0) m], [bx g9 71 [c65a, c65b, .int .i64 (((ix m.Blocks k).End).Op), .int .i64 (((ix m.Blocks k).End).A), .int .i64 (((ix m.Blocks k).End).B), c65c, .int .i32 (((ix m.Blocks k).End).Imm)], bx g1 28 [.int .i64 m.Params, a0]], [(1, .pointer (some ⟨g1, 0, none⟩)), (8, .int .i64 (↑k)), (9, .pointer (some ⟨g9, 0, none⟩)), (59, a0), (60, .int .i64 (↑(List.length m.Blocks))), (61, .int .i64 (↑k)), (88, c65b), (89, .int .i64 (↑(List.length ((ix m.Blocks k).Ins)))), (90, .int .i64 (↑j))], (ix m.Blocks k).Ins.length - j⟩) 0 ⟨by omega, rfl⟩ (dc d0 (dc d1 dn)) (kc k0 (kc k0 kn)) ⟨ζ, ζ, ζ, ζ, ζ, ζ, ζ, ζ, eqI (by omega), trivial⟩ ?_
  rintro j; dsimp only; rintro ⟨hj, hI⟩
  refine jq (jr (js (jlss ζ ζ) (jn (jx (jq ?_)))))
  refine jif ζ (fun hc8 => ?_) (fun hc8 => ?_)
  refine jsk (jx (jq (jb (jq (jr (jm ζ (js (jix U69 Z46 (rMBlock.c_Ins d0) ζ ζ ζ (by omega)) (jA sMach (jlA (dix (rMBlock.c_Ins d0) j (by omega)) A46 Z46 ζ) fun c94 => jalc J46 ζ fun g14 => ja ζ (jdq (rMach.c_Args d0) fun q14 w14 => ?_)))))))))
  refine jsta k0 Z46 ζ ζ ζ ⟨ζ, ζ, ζ, ζ, ζ, ζ, ζ, w14.one, trivial⟩ (saf ζ) (jn (jx (jq (jr (js (jla k0 A46 Z46 ζ ζ ζ) (jcv E47 ζ ζ pIns_ct (dc d0 dn) kn (ja ζ (jn (jx (jq (jr ?_)))))))))))
  refine jm ζ (js (jneq ζ ζ) (jn (jx ?_)))
  refine jif ζ (fun hc9 => ?_) (fun hc9 => ?_)
  refine jq (jr (jm ζ (jm ζ (jm ζ (ja ζ (ja ζ (ja ζ (jn (jx (jrt (jbr ?_)))))))))))
  refine jtr (jtr (jbr (jtr (jbr (jtr (jtr (jbr (jtr ?_))))))))
  exact jr3 ζ ζ ζ ζ () (tIII (by first | exact func_arg hc2 | exact func_block hc2 hc3 | exact func_many hc2 hc3 hc4 | exact func_some hc2 hc3 hc4 (things_phi (by omega) hB (by omega) hP hc7) | exact func_some hc2 hc3 hc4 (things_ins (by omega) hB (phiW_end (by omega) hP) (by omega) hI hc9) | exact func_some hc2 hc3 hc4 (things_end (by omega) hB (phiW_end (by omega) hP) (insW_end (by omega) hI) hc10) | exact func_graph hc2 hc3 hc4 (things_done (by omega) hB))) dn (fun _ _ => kn)
  refine jsk (jbn (jx (jr (js (jadd ζ ζ (by omega)) (jm ζ (jn ?_))))))
  exact jag (j + 1) ⟨by omega, insW_next (by omega) hI hc9⟩ (dc d1 (dc d2 dn)) (kc k1 (kc k1 kn)) ⟨ζ, ζ, ζ, ζ, ζ, ζ, ζ, ζ, eqI (by omega), trivial⟩
  refine jex (jtx (jtx (jbh (jx (jq (jr (js (jf F71_2 ζ) (js (jla k0 A59 Z59 ζ ζ ζ) (js (jf F28_1 ζ) (js (jl k1 O26 ζ ζ) (js (jln U26 (rMFunc.c_Blocks d1) ζ) ?_)))))))))))
  refine jcv E48 ζ ζ (pEnd_ct (↑(List.length m.Blocks))) (dc (rMBlock.P_End d0) dn) kn (ja ζ (jn (jx (jq (jr (jm ζ (js (jneq ζ ζ) (jn (jx ?_)))))))))
  refine jif ζ (fun hc10 => ?_) (fun hc10 => ?_)
  refine jq (jstl Mixed (by kernel_rfl) (jt (jmv ζ) (jt (jmv ζ) (jt (jf F71_1 ζ) (jt (jl k0 O69 ζ ζ) (jt (jln U69 (rMBlock.c_Ins d0) ζ) (jt (jas ζ) (jt (jas ζ) (jt (jas ζ) (jdn (jx ?_)))))))))))
  refine jrt (jbr (jtr (jtr (jbr (jtr ?_)))))
  exact jr3 ζ ζ ζ ζ () (tIII (by first | exact func_arg hc2 | exact func_block hc2 hc3 | exact func_many hc2 hc3 hc4 | exact func_some hc2 hc3 hc4 (things_phi (by omega) hB (by omega) hP hc7) | exact func_some hc2 hc3 hc4 (things_ins (by omega) hB (phiW_end (by omega) hP) (by omega) hI hc9) | exact func_some hc2 hc3 hc4 (things_end (by omega) hB (phiW_end (by omega) hP) (insW_end (by omega) hI) hc10) | exact func_graph hc2 hc3 hc4 (things_done (by omega) hB))) dn (fun _ _ => kn)
  refine jsk (jbn (jx (jr (js (jadd ζ ζ (by omega)) (jm ζ (jn ?_))))))
  exact jag (k + 1) ⟨by omega, things_next (by omega) hB (phiW_end (by omega) hP) (insW_end (by omega) hI) hc10⟩ (dc d1 dn) (kc k1 kn) ⟨ζ, ζ, ζ, eqI (by omega), trivial⟩
  refine jex (jtx (jtx (jbh (jx (jq (jr (js (jla k0 A28 Z28 ζ ζ ζ) (jcv E49 ζ ζ (pGraph_ct (by first | omega | exact things_to (things_done (by omega) hB)) (by first | omega | exact things_to (things_done (by omega) hB))) (dc d0 dn) kn (js (jex' ζ ζ) (js (jex' ζ ζ) (js (jex' ζ ζ) ?_)))))))))))
  refine ja ζ (ja ζ (ja ζ (jn (jx (jrt ?_)))))
  exact jr3 ζ ζ ζ ζ () (tIII (by first | exact func_arg hc2 | exact func_block hc2 hc3 | exact func_many hc2 hc3 hc4 | exact func_some hc2 hc3 hc4 (things_phi (by omega) hB (by omega) hP hc7) | exact func_some hc2 hc3 hc4 (things_ins (by omega) hB (phiW_end (by omega) hP) (by omega) hI hc9) | exact func_some hc2 hc3 hc4 (things_end (by omega) hB (phiW_end (by omega) hP) (insW_end (by omega) hI) hc10) | exact func_graph hc2 hc3 hc4 (things_done (by omega) hB))) dn (fun _ _ => kn)
theorem pRight_ct {a0 : Value} {m : D.MFunc} : Tv Tryz.prog 11 #[vMFunc m a0] [da rMFunc (vMFunc m a0) m] [] (.bool (rightM m)) := by
  refine jenter (args := [vMFunc m a0]) Tryz.func11 rfl rfl rfl fun w0 X => ?_
  refine jq (jr (jbox ζ ζ fun g1 => ja ζ (jn (jx (jq (jr (js (jla k0 A28 Z28 ζ ζ ζ) (jcv E24 ζ ζ pFunc_ct (dc d0 dn) kn (jm ζ (js (jex' ζ ζ) ?_))))))))))
  refine js (jex' ζ ζ) (js (jex' ζ ζ) (ja ζ (ja ζ (ja ζ (jn (jx (jq (jr (jm ζ (js (jeql ζ ζ) (ja ζ ?_)))))))))))
  refine jn (jx (jrt ?_))
  exact jrB ζ ζ (by rfl)
end Go.Proofs.YtdlcjaefkjbonaaGreat
namespace Go.Proofs.YtdlcjaefkjbonaaGreat
set_option linter.unusedVariables false
set_option linter.unusedSimpArgs false
set_option linter.unusedSectionVars false
open Go.JE
theorem E69 : Ent Tryz.prog 69 := ⟨_, Tryz.func69, by kernel_rfl, by kernel_rfl⟩
def isFrom (from' : Int) (x : D.In) : Bool := decide (x.From = from')
def phiVal (from' : Int) (regs : List Int) (p : D.Phi) : Int := ix regs (Int.toNat (ix p.In (Int.toNat (idxM p.In (isFrom from')))).Val)
def setP : List Int → List D.Phi → List Int → List Int
  | rs, p :: l, v :: vs => setP (rs.set (Int.toNat p.Dst) v) l vs
  | rs, _, _ => rs
def phisM (l : List D.Phi) (from' : Int) (regs : List Int) : List Int := setP regs l (l.map (phiVal from' regs))
theorem idx_lt {α : Type} (l : List α) (q : α → Bool) : idxM l q < l.length := by
  unfold idxM
  cases h : l.findIdx? q with
  | none => simp only; omega
  | some i => obtain ⟨hi, _⟩ := List.findIdx?_eq_some_iff_getElem.1 h; simp only; omega
theorem setP_len : ∀ (rs : List Int) (l : List D.Phi) (vs : List Int), (setP rs l vs).length = rs.length
  | rs, p :: l, v :: vs => by rw [setP, setP_len]; simp
  | rs, [], _ => by cases ‹List Int› <;> rfl
  | rs, _ :: _, [] => rfl
theorem setP_end (rs : List Int) (vs : List Int) : setP rs [] vs = rs := by cases vs <;> rfl
theorem setP_next {rs rs2 : List Int} {l : List D.Phi} {vs : List Int} {k : Nat} (h1 : k < l.length) (h2 : k < vs.length) (h : setP rs l vs = setP rs2 (l.drop k) (vs.drop k)) : setP rs l vs = setP (rs2.set (Int.toNat (ix l k).Dst) (ix vs k)) (l.drop (k + 1)) (vs.drop (k + 1)) := by
  rw [h, drop_ix (l := l) h1, drop_ix (l := vs) h2, setP]
def phiOk (from' : Int) (n : Nat) (p : D.Phi) : Prop := 0 ≤ p.Dst ∧ p.Dst < n ∧ 0 ≤ idxM p.In (isFrom from') ∧ ∀ x ∈ p.In, 0 ≤ x.Val ∧ x.Val < n
theorem phiOk.v {from' : Int} {n : Nat} {p : D.Phi} (h : phiOk from' n p) : 0 ≤ (ix p.In (Int.toNat (idxM p.In (isFrom from')))).Val ∧ (ix p.In (Int.toNat (idxM p.In (isFrom from')))).Val < n := by
  have := idx_lt p.In (isFrom from')
  exact h.2.2.2 _ (ix_mem (by have := h.2.2.1; omega))
theorem pPhis1_ct {x : D.In} {c : Int} {g1 : Nat} : Tr Tryz.prog 69 #[vIn x (), .pointer (some ⟨g1, 0, none⟩)] [da rIn (vIn x ()) x] [bx g1 3 [.int .i64 c]] (fun _ : Unit => .bool (isFrom c x)) (fun _ => []) (fun _ _ => [bx g1 3 [.int .i64 c]]) := by
  refine jenter (args := [vIn x (), .pointer (some ⟨g1, 0, none⟩)]) Tryz.func69 rfl rfl rfl fun w0 X => ?_
  refine jq (jr (jbox ζ ζ fun g2 => ja ζ (jn (jx (jq (jr (js (jf F73_0 ζ) (js (jl k0 O3 ζ ζ) (js (jl k1 O3 ζ ζ) (js (jeql ζ ζ) ?_))))))))))
  refine ja ζ (jn (jx (jrt ?_)))
  exact jr1 ζ ζ () (congrArg Value.bool (Eq.symm (by rfl))) dn (fun _ _ => (kc k1 kn))
set_option maxRecDepth 4000 in
theorem pPhis_ct {a0 : Value} {l : List D.Phi} (from' : Int) {a2 : Value} {regs : List Int} {B2 : Nat} (hrl0 : regs.length < 1073741824) (hp : ∀ p ∈ l, phiOk from' regs.length p) : Tr Tryz.prog 32 #[a0, .int .i64 from', a2] [dv (rL rPhi) a0 l] [gl B2 (rI .i32) 21 a2 regs] (fun _ : Unit => .tuple #[]) (fun _ => []) (fun _ _ => [gl B2 (rI .i32) 21 a2 (phisM l (from') regs)]) := by
  refine jenter (args := [a0, .int .i64 from', a2]) Tryz.func32 rfl rfl rfl fun w0 X => ?_
  refine cgo k0 fun w1 => jq (jr (jbox ζ ζ fun g4 => jn (jx (jq (jr (ja ζ (jn (jx (jq ?_)))))))))
  refine jq (jr (jm ζ (jdq d0 fun q2 w2 => js (jln U68 d0 ζ) (jm ζ (jn (jx (jb (cnl (r := (rI .i32)) (E := 21) ?_))))))))
  refine jlp (u3 fun (k : Nat) (vo : Value) (vs : List Int) => ⟨k ≤ l.length ∧ vs = (l.take k).map (phiVal from' regs), [dv (rL rPhi) a0 l], [gl X.n (rI .i32) 21 vo vs, bx g4 3 [.int .i64 (from')], gl B2 (rI .i32) 21 a2 regs], [(0, a0), (2, a2), (4, .pointer (some ⟨g4, 0, none⟩)), (6, vo), (12, a0), (13, .int .i64 (↑(List.length l))), (14, .int .i64 (↑k))], l.length - k⟩) (0, .slice none 0 0, []) ⟨by dsimp only; omega, rfl⟩ (dc d0 dn) (kc k0 (kc k0 (kc k0 kn))) ⟨ζ, ζ, ζ, ζ, ζ, ζ, eqI (by omega), trivial⟩ ?_
  rintro ⟨k, vo, vs⟩; dsimp only [u3]; rintro ⟨hk, hvs⟩
  refine cgo k0 fun w3 => ?_
  have hvl : vs.length = k := by rw [hvs]; simp; omega
  refine jq (jr (js (jlss ζ ζ) (jn (jx (jq ?_)))))
  refine jif ζ (fun hc1 => ?_) (fun hc1 => ?_)
  have hpk := hp _ (ix_mem (l := l) (i := k) (by omega))
  have hpv := hpk.v
  have hpi := idx_lt (ix l k).In (isFrom from')
  obtain ⟨hd0, hd1, hi0, _⟩ := hpk
  refine jsk (jx (jq (jb (jq (jr (js (jix U68 Z76 d0 ζ ζ ζ (by omega)) (jA sPhi (jlA (dix d0 k (by omega)) A76 Z76 ζ) fun c17 => jalc J76 ζ fun g8 => jdq (rPhi.c_In d0) fun q5 w5 => jsta k0 Z76 ζ ζ ζ ⟨ζ, w5.one, trivial⟩ (saf ζ) (jn ?_))))))))
  refine jx (jq (jr (js (jf F76_1 ζ) (js (jl k0 O74 ζ ζ) (js (jmf1 ζ) (jcp E68 ζ ζ (idxFIn_ct (isFrom from') E69 (fun x _ c => Tr.it pPhis1_ct ir)) (dc (rPhi.c_In d0) (dc (db dn) dn)) (kc k2 kn) p1 (ja ζ (jn (jx (jr (jm ζ ?_)))))))))))
  refine jm ζ (js (jf F76_1 ζ) (js (jl k1 O74 ζ ζ) (jm ζ (js (jix (i := (Int.toNat (idxM ((ix l k).In) (isFrom from')))) U74 Z73 (rPhi.c_In d0) ζ ζ (by omega) (by omega)) (js (jf F73_1 ζ) (js (jlI (rIn.A_Val (dix (rPhi.c_In d0) (Int.toNat (idxM ((ix l k).In) (isFrom from'))) (by omega))) O3 ζ) (js (jig (i := (Int.toNat ((ix ((ix l k).In) (Int.toNat (idxM ((ix l k).In) (isFrom from')))).Val))) U34 Z21 k3 ζ ζ (by omega) (by omega)) (js (jgI k3 (by omega) O21 ζ) (japv U34 I21 (by decide) ζ ζ k2 ζ (wI (wgl k3 (by omega))) (by omega) (fun _ => ζ) fun v33 _ w6 => ja ζ (jn ?_))))))))))
  refine jbn (jx (jr (js (jadd ζ ζ (by omega)) (jm ζ (jn ?_)))))
  exact jag (k + 1, v33, vs ++ [ix regs (Int.toNat ((ix ((ix l k).In) (Int.toNat (idxM ((ix l k).In) (isFrom from')))).Val))]) ⟨by dsimp only; omega, by dsimp only; rw [hvs, take_ix (by omega), List.map_append]; rfl⟩ (dc d1 dn) (kc k0 (kc k0 (kc k1 kn))) ⟨ζ, ζ, ζ, ζ, ζ, ζ, eqI (by omega), trivial⟩
  have hvl2 : vs.length = l.length := by omega
  refine jex (jtx (jtx (jbh (jx (jq (jr (jm ζ (js (jln U68 d0 ζ) (jm ζ (jn (jx ?_)))))))))))
  refine jb ?_
  refine jlp (u2 fun (k : Nat) (rs : List Int) => ⟨k ≤ l.length ∧ setP regs l vs = setP rs (l.drop k) (vs.drop k) ∧ rs.length = regs.length, [dv (rL rPhi) a0 l], [gl X.n (rI .i32) 21 vo vs, gl B2 (rI .i32) 21 a2 rs], [(2, a2), (6, vo), (35, a0), (36, .int .i64 (↑(List.length l))), (37, .int .i64 (↑k))], l.length - k⟩) (0, regs) ⟨by dsimp only; omega, rfl, rfl⟩ (dc d0 dn) (kc k0 (kc k1 kn)) ⟨ζ, ζ, ζ, ζ, eqI (by omega), trivial⟩ ?_
  rintro ⟨k, rs⟩; dsimp only [u2]; rintro ⟨hk, hS, hrl⟩
  refine jq (jr (js (jlss ζ ζ) (jn (jx (jq ?_)))))
  refine jif ζ (fun hc2 => ?_) (fun hc2 => ?_)
  have hpk := hp _ (ix_mem (l := l) (i := k) (by omega))
  obtain ⟨hd0, hd1, hi0, _⟩ := hpk
  refine jsk (jx (jq (jb (jq (jr (jm ζ (js (jix U68 Z76 d0 ζ ζ ζ (by omega)) (jA sPhi (jlA (dix d0 k (by omega)) A76 Z76 ζ) fun c41 => jalc J76 ζ fun g11 => ja ζ (jdq (rPhi.c_In d0) fun q8 w8 => ?_)))))))))
  refine jsta k0 Z76 ζ ζ ζ ⟨ζ, w8.one, trivial⟩ (saf ζ) (jn (jx (jtl 8 Mixed (by kernel_rfl) (jt (jmv ζ) (jt (jf F76_0 ζ) (jt (jl k0 O3 ζ ζ) (jt (jmv ζ) (jt (jmv ζ) (jt (jig U34 Z21 k1 ζ ζ ζ (by omega)) (jt (jgI k1 (by omega) O21 ζ) (jt (jig (i := (Int.toNat ((ix l k).Dst))) U34 Z21 k2 ζ ζ (by omega) (by omega)) ?_)))))))))))
  refine jtt (jsg k2 ζ Z21 ζ ζ ζ (by omega) (wI (wgl k1 (by omega))) (jn (jbn (jx (jr (js (jadd ζ ζ (by omega)) (jm ζ (jn ?_))))))))
  exact jag (k + 1, List.set rs (Int.toNat ((ix l k).Dst)) (ix vs k)) ⟨by dsimp only; omega, setP_next (by omega) (by omega) hS, by dsimp only; rw [List.length_set]; exact hrl⟩ (dc d1 dn) (kc k2 (kc k0 kn)) ⟨ζ, ζ, ζ, ζ, eqI (by omega), trivial⟩
  refine jex (jtx (jtx (jbh ?_)))
  exact jd0 ζ () ζ dn (fun _ _ => (kcg (by have e1 : k = l.length := (by omega); unfold phisM; rw [List.take_of_length_le (by omega)] at hvs; rw [← hvs, hS, List.drop_of_length_le (by omega), setP_end]) k1 kn))
end Go.Proofs.YtdlcjaefkjbonaaGreat
namespace Go.Proofs.YtdlcjaefkjbonaaGreat
set_option linter.unusedVariables false
set_option linter.unusedSimpArgs false
set_option linter.unusedSectionVars false
open Go.JE
def callR (rs : List Int) (d : Int) (an : List Int) : List Int := rs.set (Int.toNat d) (ix an 0)
def insRun (N : Int) (K : List Int → List Int → List D.Event → List Int → Int → D.Outcome) : List D.Mach → List Int → List Int → List D.Event → List Int → Int → D.Outcome
  | [], rs, me, cl, an, s => K rs me cl an s
  | i :: l, rs, me, cl, an, s =>
    if N ≤ s then ⟨3, 0, me, cl, s⟩
    else if i.Op = 28 then insRun N K l (callR rs i.D an) me (cl ++ [⟨i.Imm, i.Args.map (fun r => ix rs (Int.toNat r))⟩]) (an.drop 1) (s + 1)
    else if (stepM i rs me).1.2 = false then ⟨2, (stepM i rs me).1.1, (stepM i rs me).2.2, cl, s + 1⟩
    else insRun N K l (stepM i rs me).2.1 (stepM i rs me).2.2 cl an (s + 1)
def endRun (N : Int) (e : D.End) (go : Int → List Int → List Int → List D.Event → List Int → Int → D.Outcome) (rs me : List Int) (cl : List D.Event) (an : List Int) (s : Int) : D.Outcome :=
  if N ≤ s then ⟨3, 0, me, cl, s⟩
  else if e.Op = 7 then ⟨1, getM rs e.A, me, cl, s + 1⟩
  else if e.Op = 8 then ⟨2, e.Imm, me, cl, s + 1⟩
  else go (ix e.To (Int.toNat (goesM e rs))) rs me cl an (s + 1)
def blockRun (bs : List D.MBlock) (N : Int) : Nat → Int → Int → List Int → List Int → List D.Event → List Int → Int → D.Outcome
  | 0, _, _, _, me, cl, _, s => ⟨3, 0, me, cl, s⟩
  | f + 1, at', from', rs, me, cl, an, s => insRun N (endRun N (ix bs (Int.toNat at')).End (fun t => blockRun bs N f t at')) (ix bs (Int.toNat at')).Ins (phisM (ix bs (Int.toNat at')).Phis from' rs) me cl an s
def startR (m : D.MFunc) (i : D.Input) : List Int := List.take (min (Int.toNat m.Params) i.Args.length) i.Args ++ List.drop (min (Int.toNat m.Params) i.Args.length) (List.replicate 8192 0)
def runM (m : D.MFunc) (i : D.Input) : D.Outcome := if rightM m = false then ⟨4, 0, [], [], 0⟩ else blockRun m.Blocks i.Steps (Int.toNat i.Steps + 1) 0 (-1) (startR m i) (memM i) [] i.Answers 0
theorem blockRun_pos {bs : List D.MBlock} {N : Int} {f : Nat} (hf : 0 < f) (at' from' : Int) (rs me : List Int) (cl : List D.Event) (an : List Int) (s : Int) :
    blockRun bs N f at' from' rs me cl an s = insRun N (endRun N (ix bs (Int.toNat at')).End (fun t => blockRun bs N (f - 1) t at')) (ix bs (Int.toNat at')).Ins (phisM (ix bs (Int.toNat at')).Phis from' rs) me cl an s := by
  obtain ⟨f, rfl⟩ : ∃ g, f = g + 1 := ⟨f - 1, by omega⟩
  rfl
theorem phisM_len (l : List D.Phi) (from' : Int) (rs : List Int) : (phisM l from' rs).length = rs.length := setP_len _ _ _
theorem memM_len (i : D.Input) : (memM i).length ≤ 4096 := by unfold memM; simp; omega
def StepOk (rs me : List Int) (r : (Int × Bool) × List Int × List Int) : Prop := r.2.1.length = rs.length ∧ r.2.2.length = me.length
theorem StepOk.ite {rs me : List Int} {c : Prop} [Decidable c] {a b : (Int × Bool) × List Int × List Int} (h1 : StepOk rs me a) (h2 : StepOk rs me b) : StepOk rs me (if c then a else b) := by split <;> assumption
theorem stepM_ok (i : D.Mach) (rs me : List Int) : StepOk rs me (stepM i rs me) := by
  unfold stepM
  repeat' apply StepOk.ite
  all_goals (constructor <;> (try simp only [setM_len, storeM_len]))
theorem stepM_len (i : D.Mach) (rs me : List Int) : (stepM i rs me).2.1.length = rs.length ∧ (stepM i rs me).2.2.length = me.length := stepM_ok i rs me
structure WFm (m : D.MFunc) : Prop where
  p0 : 0 ≤ m.Params ∧ m.Params ≤ 4
  n0 : 0 < m.Blocks.length ∧ m.Blocks.length ≤ 512
  ins : ∀ x ∈ m.Blocks, ∀ i ∈ x.Ins, i.Op = 28 → 0 ≤ i.D ∧ i.D < 8192 ∧ i.Args.length ≤ 4 ∧ ∀ r ∈ i.Args, 0 ≤ r ∧ r < 8192
  to : ∀ x ∈ m.Blocks, toM x.End = true ∧ ∀ t ∈ x.End.To, 1 ≤ t ∧ t < m.Blocks.length
  phi : ∀ k : Nat, k < m.Blocks.length → ∀ p ∈ (ix m.Blocks k).Phis, 0 < k ∧ p.In.map (·.From) = predsM m.Blocks k ∧ 0 ≤ p.Dst ∧ p.Dst < 8192 ∧ ∀ x ∈ p.In, 0 ≤ x.Val ∧ x.Val < 8192
theorem regM_all : ∀ {l : List Int}, regM l = true → ∀ r ∈ l, 0 ≤ r ∧ r < 8192
  | [], _, r, hr => by cases hr
  | x :: l, h, r, hr => by
    rw [regM] at h
    split at h
    · cases h
    · rcases List.mem_cons.1 hr with rfl | hr
      · omega
      · exact regM_all h r hr
theorem insW_none : ∀ {l : List D.Mach} {k : Nat}, insW k l = none → ∀ i ∈ l, insE i = 0
  | [], _, _, i, hi => by cases hi
  | y :: l, k, h, i, hi => by
    rw [insW] at h
    split at h
    · rcases List.mem_cons.1 hi with rfl | hi
      · assumption
      · exact insW_none h i hi
    · cases h
theorem phiW_none {P : List D.Phi} : ∀ {l : List D.Phi} {k : Nat}, phiW P k l = none → ∀ p ∈ l, ∃ j, phiE p (P.take j) = 0
  | [], _, _, i, hi => by cases hi
  | y :: l, k, h, i, hi => by
    rw [phiW] at h
    split at h
    · rcases List.mem_cons.1 hi with rfl | hi
      · exact ⟨_, by assumption⟩
      · exact phiW_none h i hi
    · cases h
theorem graph_none : ∀ {l : List D.MBlock} {k : Nat} {bs : List D.MBlock}, (graphPhis bs k l).1 = 0 → ∀ j : Nat, j < l.length → ∀ p ∈ (ix l j).Phis, badPhi bs (k + j) p = false
  | [], _, _, _, j, hj => by cases hj
  | x :: l, k, bs, h, j, hj => by
    rw [graphPhis] at h
    cases hf : x.Phis.findIdx? (badPhi bs k) with
    | some i => rw [hf] at h; cases h
    | none =>
      rw [hf] at h
      intro p hp
      cases j with
      | zero => exact (List.findIdx?_eq_none_iff.1 hf) p hp
      | succ j =>
        have := graph_none h j (by simpa using hj) p (by simpa [ix] using hp)
        rw [show k + 1 + j = k + (j + 1) by omega] at this
        exact this
theorem right_wf {m : D.MFunc} (h : rightM m = true) : WFm m := by
  unfold rightM at h
  rw [decide_eq_true_eq] at h
  unfold funcM at h
  split at h
  · cases h
  split at h
  · cases h
  split at h
  · cases h
  rename_i h1 h2 h3
  cases ht : thingsW m.Blocks.length 0 m.Blocks with
  | some t =>
    rw [ht] at h
    exfalso
    have : ∀ (bs : List D.MBlock) (b : Nat) (n : Int) (t : Int × Int × Int), thingsW n b bs = some t → t.1 ≠ 0 := by
      intro bs
      induction bs with
      | nil => intro b n t h; cases h
      | cons x l ih =>
        intro b n t h
        rw [thingsW] at h
        cases hb : blockW n x with
        | none => rw [hb] at h; exact ih _ _ _ h
        | some u =>
          rw [hb] at h
          cases h
          show u.1 ≠ 0
          unfold blockW at hb
          have hp : ∀ (P l : List D.Phi) (k : Nat) (u : Int × Int), phiW P k l = some u → u.1 ≠ 0 := by
            intro P l
            induction l with
            | nil => intro k u h; cases h
            | cons p l ih2 => intro k u h; rw [phiW] at h; split at h; (· exact ih2 _ _ h); cases h; assumption
          have hi : ∀ (l : List D.Mach) (k : Nat) (u : Int × Int), insW k l = some u → u.1 ≠ 0 := by
            intro l
            induction l with
            | nil => intro k u h; cases h
            | cons p l ih2 => intro k u h; rw [insW] at h; split at h; (· exact ih2 _ _ h); cases h; assumption
          cases h1 : phiW x.Phis 0 x.Phis with
          | some t => rw [h1] at hb; cases hb; exact hp _ _ _ _ h1
          | none =>
            rw [h1] at hb
            cases h2 : insW 0 x.Ins with
            | some t => rw [h2] at hb; cases hb; exact hi _ _ _ h2
            | none =>
              rw [h2] at hb
              by_cases h3 : endE x.End n = 0
              · simp only [if_pos h3] at hb; cases hb
              · simp only [if_neg h3] at hb; cases hb; exact h3
    exact this _ _ _ _ ht h
  | none =>
    rw [ht] at h
    replace h : (graphM m).1 = 0 := h
    have hg : (graphPhis m.Blocks 0 m.Blocks).1 = 0 := by
      unfold graphM at h; split at h
      · cases h
      · exact h
    have hN := things_none _ _ ht
    refine ⟨by omega, ⟨by omega, by omega⟩, ?_, fun x hx => ?_, ?_⟩
    · intro x hx i hi h28
      have h9 := insW_none (hN x hx).2.1 i hi
      unfold insE at h9
      split at h9
      · cases h9
      split at h9
      · cases h9
      rename_i ha hb
      have hm : makesM i = [i.D] := by unfold makesM; repeat rw [if_neg (by omega)]
      have htk : takesM i = i.Args := by unfold takesM; repeat rw [if_neg (by omega)]
                                         rw [if_pos h28]
      rw [hm, htk] at hb
      simp only [not_or, Bool.not_eq_false] at hb
      have hD := regM_all hb.1 i.D (by simp)
      exact ⟨hD.1, hD.2, by omega, regM_all hb.2⟩
    · have := end_to (hN x hx).2.2
      exact ⟨this.1, this.2.2⟩
    · intro k hk p hp
      have hb := graph_none hg k hk p hp
      rw [Nat.zero_add] at hb
      unfold badPhi at hb
      simp only [Bool.or_eq_false_iff, decide_eq_false_iff_not, Bool.not_eq_false', decide_eq_true_eq] at hb
      obtain ⟨j, hj⟩ := phiW_none (hN _ (ix_mem hk)).1 p hp
      unfold phiE at hj
      split at hj
      · cases hj
      rename_i h5
      simp only [not_or, Bool.not_eq_false, Bool.not_eq_true] at h5
      have hD := regM_all h5.1 p.Dst (by simp)
      refine ⟨by omega, hb.2, hD.1, hD.2, fun x hx => ?_⟩
      have h6 := h5.2
      unfold anyM at h6
      rw [List.any_eq_false] at h6
      have h7 := h6 x hx
      simp only [Bool.not_eq_true, Bool.not_eq_false'] at h7
      exact regM_all h7 x.Val (by simp)
section
variable {m : D.MFunc} (hw : WFm m)
include hw
theorem WFm.from0 : ∀ p ∈ (ix m.Blocks (Int.toNat 0)).Phis, phiOk (-1) 8192 p := by
  intro p hp
  have := hw.phi 0 hw.n0.1 p hp
  omega
theorem WFm.from1 {at' t : Int} (ha : 0 ≤ at' ∧ at' < m.Blocks.length) (ht : t ∈ (ix m.Blocks (Int.toNat at')).End.To) : (0 ≤ t ∧ t < m.Blocks.length) ∧ ∀ p ∈ (ix m.Blocks (Int.toNat t)).Phis, phiOk at' 8192 p := by
  have h1 := (hw.to _ (ix_mem (l := m.Blocks) (i := Int.toNat at') (by omega))).2 t ht
  refine ⟨by omega, fun p hp => ?_⟩
  obtain ⟨h2, h3, h4, h5, h6⟩ := hw.phi (Int.toNat t) (by omega) p hp
  refine ⟨h4, h5, ?_, h6⟩
  have h7 : at' ∈ p.In.map (·.From) := by
    rw [h3]
    unfold predsM predsT
    refine List.mem_map.2 ⟨Int.toNat at', List.mem_filter.2 ⟨List.mem_range.2 (by omega), ?_⟩, by omega⟩
    rw [decide_eq_true_eq, show ((Int.toNat t : Nat) : Int) = t by omega]; exact ht
  obtain ⟨x, hx, hx2⟩ := List.mem_map.1 h7
  have h8 := idx_any p.In (isFrom at')
  have h9 : anyM p.In (isFrom at') = true := List.any_eq_true.2 ⟨x, hx, by unfold isFrom; rw [decide_eq_true_eq]; exact hx2⟩
  rw [h9, decide_eq_true_eq] at h8
  exact h8
theorem WFm.goes {at' : Int} (ha : 0 ≤ at' ∧ at' < m.Blocks.length) (rs : List Int) (h7 : ¬ (ix m.Blocks (Int.toNat at')).End.Op = 7) (h8 : ¬ (ix m.Blocks (Int.toNat at')).End.Op = 8) :
    0 ≤ goesM (ix m.Blocks (Int.toNat at')).End rs ∧ goesM (ix m.Blocks (Int.toNat at')).End rs < (ix m.Blocks (Int.toNat at')).End.To.length := by
  have h1 := (hw.to _ (ix_mem (l := m.Blocks) (i := Int.toNat at') (by omega))).1
  generalize (ix m.Blocks (Int.toNat at')).End = e at *
  unfold toM at h1
  rw [decide_eq_true_eq] at h1
  obtain ⟨ho1, ho2, hl1, hl2⟩ := h1
  have hu : 0 ≤ u32 (getM rs e.A) := by unfold u32; rw [IntKind.wrap_u32]; omega
  unfold limLo at hl1
  unfold limHi at hl2
  unfold goesM
  have hc : e.Op = 1 ∨ e.Op = 2 ∨ e.Op = 3 ∨ e.Op = 4 ∨ e.Op = 5 ∨ e.Op = 6 := by omega
  rcases hc with h | h | h | h | h | h <;> simp only [h] at hl1 hl2 ⊢ <;> simp at hl1 hl2 ⊢ <;> (repeat' split) <;> omega
end
theorem startR_len {m : D.MFunc} (hw : WFm m) (i : D.Input) : (startR m i).length = 8192 := by
  have := hw.p0
  unfold startR
  simp only [List.length_append, List.length_take, List.length_drop, List.length_replicate]; omega
theorem stepM_wr (i : D.Mach) (rs me : List Int) : IntKind.i32.wrap (stepM i rs me).1.1 = (stepM i rs me).1.1 := by
  have : ∀ (c : Prop) [Decidable c] (a b : (Int × Bool) × List Int × List Int), IntKind.i32.wrap a.1.1 = a.1.1 → IntKind.i32.wrap b.1.1 = b.1.1 → IntKind.i32.wrap (if c then a else b).1.1 = (if c then a else b).1.1 := by intro c _ a b h1 h2; split <;> assumption
  unfold stepM
  repeat' apply this
  all_goals first | exact (by decide : IntKind.i32.wrap 0 = 0) | exact (by decide : IntKind.i32.wrap (-1) = -1) | exact (by decide : IntKind.i32.wrap (-2) = -2) | (dsimp only; split <;> decide)
section
variable {N : Int} {K : List Int → List Int → List D.Event → List Int → Int → D.Outcome} {O : D.Outcome} {I : List D.Mach} {k j : Nat} {rs me an ea : List Int} {cl : List D.Event} {s : Int}
theorem ins_end (hI : O = insRun N K (I.drop k) rs me cl an s) (hk : I.length ≤ k) : O = K rs me cl an s := by rw [hI, List.drop_of_length_le hk]; rfl
theorem ins_stop (hI : O = insRun N K (I.drop k) rs me cl an s) (hk : k < I.length) (h : N ≤ s) : O = ⟨3, 0, me, cl, s⟩ := by rw [hI, drop_ix hk, insRun, if_pos h]
theorem ins_trap (hI : O = insRun N K (I.drop k) rs me cl an s) (hk : k < I.length) (h : ¬ N ≤ s) (h2 : ¬ (ix I k).Op = 28) (h3 : (stepM (ix I k) rs me).1.2 = false) :
    O = ⟨2, (stepM (ix I k) rs me).1.1, (stepM (ix I k) rs me).2.2, cl, s + 1⟩ := by rw [hI, drop_ix hk, insRun, if_neg h, if_neg h2, if_pos h3]
theorem ins_ok (hI : O = insRun N K (I.drop k) rs me cl an s) (hk : k < I.length) (h : ¬ N ≤ s) (h2 : ¬ (ix I k).Op = 28) (h3 : (stepM (ix I k) rs me).1.2 = true) :
    O = insRun N K (I.drop (k + 1)) (stepM (ix I k) rs me).2.1 (stepM (ix I k) rs me).2.2 cl an (s + 1) := by rw [hI, drop_ix hk, insRun, if_neg h, if_neg h2, if_neg (by rw [h3]; decide)]
theorem ins_callA (hI : O = insRun N K (I.drop k) rs me cl an s) (hk : k < I.length) (h : ¬ N ≤ s) (h2 : (ix I k).Op = 28) (hj : (ix I k).Args.length ≤ j) (hea : ea = ((ix I k).Args.take j).map (fun r => ix rs (Int.toNat r))) (h3 : ¬ 0 < (an.length : Int)) :
    O = insRun N K (I.drop (k + 1)) (List.set rs (Int.toNat (ix I k).D) 0) me (cl ++ [⟨(ix I k).Imm, ea⟩]) an (s + 1) := by
  have : an = [] := List.eq_nil_of_length_eq_zero (by omega)
  subst this
  rw [hI, drop_ix hk, insRun, if_neg h, if_pos h2, hea, List.take_of_length_le hj]; rfl
theorem ins_callB (hI : O = insRun N K (I.drop k) rs me cl an s) (hk : k < I.length) (h : ¬ N ≤ s) (h2 : (ix I k).Op = 28) (hj : (ix I k).Args.length ≤ j) (hea : ea = ((ix I k).Args.take j).map (fun r => ix rs (Int.toNat r))) :
    O = insRun N K (I.drop (k + 1)) (List.set (List.set rs (Int.toNat (ix I k).D) 0) (Int.toNat (ix I k).D) (ix an 0)) me (cl ++ [⟨(ix I k).Imm, ea⟩]) (an.drop 1) (s + 1) := by
  rw [hI, drop_ix hk, insRun, if_neg h, if_pos h2, hea, List.take_of_length_le hj, List.set_set]; rfl
end
section
variable {N : Int} {go : Int → List Int → List Int → List D.Event → List Int → Int → D.Outcome} {O : D.Outcome} {I : List D.Mach} {k : Nat} {rs me an : List Int} {cl : List D.Event} {s : Int} {e : D.End}
theorem end_stop (hI : O = insRun N (endRun N e go) (I.drop k) rs me cl an s) (hk : I.length ≤ k) (h : N ≤ s) : O = ⟨3, 0, me, cl, s⟩ := by rw [ins_end hI hk, endRun, if_pos h]
theorem end_ret (hI : O = insRun N (endRun N e go) (I.drop k) rs me cl an s) (hk : I.length ≤ k) (h : ¬ N ≤ s) (h7 : e.Op = 7) : O = ⟨1, getM rs e.A, me, cl, s + 1⟩ := by rw [ins_end hI hk, endRun, if_neg h, if_pos h7]
theorem end_trap (hI : O = insRun N (endRun N e go) (I.drop k) rs me cl an s) (hk : I.length ≤ k) (h : ¬ N ≤ s) (h7 : ¬ e.Op = 7) (h8 : e.Op = 8) : O = ⟨2, e.Imm, me, cl, s + 1⟩ := by rw [ins_end hI hk, endRun, if_neg h, if_neg h7, if_pos h8]
theorem end_go (hI : O = insRun N (endRun N e go) (I.drop k) rs me cl an s) (hk : I.length ≤ k) (h : ¬ N ≤ s) (h7 : ¬ e.Op = 7) (h8 : ¬ e.Op = 8) : O = go (ix e.To (Int.toNat (goesM e rs))) rs me cl an (s + 1) := by rw [ins_end hI hk, endRun, if_neg h, if_neg h7, if_neg h8]
end
theorem run_wrong {m : D.MFunc} {i : D.Input} (h : rightM m = false) : runM m i = ⟨4, 0, [], [], 0⟩ := by unfold runM; rw [if_pos h]
theorem run_right {m : D.MFunc} {i : D.Input} (h : rightM m = true) : runM m i = blockRun m.Blocks i.Steps (Int.toNat i.Steps + 1) 0 (-1) (startR m i) (memM i) [] i.Answers 0 := by unfold runM; rw [if_neg (by rw [h]; decide)]
end Go.Proofs.YtdlcjaefkjbonaaGreat
namespace Go.JE
set_option linter.unusedVariables false
set_option linter.unusedSimpArgs false
set_option linter.unusedSectionVars false
variable {P : Program} {D D0 D1 : List Dt} {L M N Ls L0 Rs : List Res} {e : Env} {X : Cx} {n : Fs} {w0 : World} {Q : Exit → Act → World → Prop}
section
variable {ops : Array Oper} {d : Nat} {ty : TypeId} {pos : String} {af : Array Edge} {rest : List Oper} {v u z w2 : Value} {x y : Operand} {T T' E : TypeId} {bytes B hi N' : Nat} {α : Type} {r : Rp α} {l m : List α} {a : α}
theorem jcpy (hT : P.underlying T = some (.slice E)) (hE : (P.info? E).map (fun i => (i.zero, i.size, i.bytes)) = some (some z, 1, bytes)) (hs : r.sz = 1) (hx : ev e x = some (JE.resl 1 v 0 hi)) (hy : ev e y = some w2) (hk : Tk L (gl B r E v l) M) (h2 : hi ≤ l.length) (hm : Nd D L (dv (rLn N' r) w2 m))
    (k : LH P n w0 ops Q X D (gl B r E v (m.take (min hi m.length) ++ l.drop (min hi m.length)) :: M) ((d, .int .i64 (min hi m.length : Nat)) :: e) rest) (hd : Nat.blt d n.sz = true := by rfl) : LH P n w0 ops Q X D L e (⟨some d, .call { callee := .builtin .copy, args := #[x, y], argTypes := #[T, T'] }, ty, pos, af, none⟩ :: rest) := fun F H hp =>
  LF.chg (OpCh.copyG hT hE hs hx hy (hp.at hk).1 h2 (hm F H hp.hin hp.hd hp.ok) hp.hin) (by
    rintro _ H' ⟨rfl, h3, h4⟩
    exact k F H' (hp.set (R' := gl B r E v (m.take (min hi m.length) ++ l.drop (min hi m.length))) hk h3 ⟨h4, Nat.le_trans (hp1 hp hk) h3.1⟩ (fun k h => .inr h))) hd
end
end Go.JE
