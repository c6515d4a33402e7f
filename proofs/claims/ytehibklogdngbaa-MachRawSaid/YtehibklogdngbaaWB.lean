/- Walks. Conditions: each contract names its own. -/
import Derived.Test.YtehibklogdngbaaWA
namespace Go.Proofs.Ytehibklogdngbaa
set_option linter.unusedVariables false
set_option linter.unusedSimpArgs false
set_option linter.unusedSectionVars false
open Go.JE

theorem Try.ent100 : Ent Try.prog 100 := ⟨_, Try.func100, by kernel_rfl, by kernel_rfl⟩
theorem Try.ent91 : Ent Try.prog 91 := ⟨_, Try.func91, by kernel_rfl, by kernel_rfl⟩
theorem Try.fld82_0 : Fld Try.prog 82 0 0 := ⟨_, _, Try.underlying82, rfl, rfl, 1, (by unfold Sz; kernel_rfl), by decide⟩
theorem Try.one4 : One Try.prog 4 := ⟨_, Try.underlying4, rfl⟩
theorem Try.sz4 : Sz Try.prog 4 1 := by unfold Sz; kernel_rfl
theorem Try.zero82 : (Try.prog.info? 82).bind (·.zero) = some (.agg #[.int .i64 0, .int .i64 0]) := by kernel_rfl
/- ---------------------------------------------- how blocks go to each other -/
def predsT (bs : List D.MBlock) (k : Nat) (b : Int) : List Int := ((List.range k).filter (fun a : Nat => decide (b ∈ (ix bs a).End.To))).map (fun a : Nat => (a : Int))
def predsM (bs : List D.MBlock) (b : Int) : List Int := predsT bs bs.length b
theorem predsT_succ (bs : List D.MBlock) (k : Nat) (b : Int) : predsT bs (k + 1) b = predsT bs k b ++ if b ∈ (ix bs k).End.To then [(k : Int)] else [] := by
  unfold predsT
  rw [List.range_succ, List.filter_append, List.map_append]
  congr 1
  by_cases h : b ∈ (ix bs k).End.To <;> simp [h]
theorem predsT_lt (bs : List D.MBlock) (k : Nat) (b : Int) : ∀ x ∈ predsT bs k b, x < k := by
  intro x hx
  unfold predsT at hx
  obtain ⟨a, ha, rfl⟩ := List.mem_map.1 hx
  have := List.mem_range.1 (List.mem_filter.1 ha).1
  omega
theorem predsT_len (bs : List D.MBlock) (k : Nat) (b : Int) : (predsT bs k b).length ≤ k := by
  unfold predsT
  rw [List.length_map]
  exact Nat.le_trans (List.length_filter_le _ _) (by simp)
def predsJ (bs : List D.MBlock) (k j : Nat) (b : Int) : List Int := predsT bs k b ++ if b ∈ (ix bs k).End.To.take j then [(k : Int)] else []
theorem predsJ_zero (bs : List D.MBlock) (k : Nat) (b : Int) : predsJ bs k 0 b = predsT bs k b := by simp [predsJ]
theorem predsJ_end (bs : List D.MBlock) (k j : Nat) (b : Int) (h : (ix bs k).End.To.length ≤ j) : predsJ bs k j b = predsT bs (k + 1) b := by
  rw [predsT_succ]; unfold predsJ; rw [List.take_of_length_le h]
theorem predsJ_len (bs : List D.MBlock) (k j : Nat) (b : Int) : (predsJ bs k j b).length ≤ k + 1 := by
  have := predsT_len bs k b
  unfold predsJ; rw [List.length_append]; split <;> simp <;> omega
theorem predsJ_mem (bs : List D.MBlock) (k j : Nat) (b : Int) : (k : Int) ∈ predsJ bs k j b ↔ b ∈ (ix bs k).End.To.take j := by
  unfold predsJ
  rw [List.mem_append]
  constructor
  · rintro (h | h)
    · have := predsT_lt bs k b _ h; omega
    · split at h
      · assumption
      · cases h
  · intro h; rw [if_pos h]; exact .inr (by simp)
/-- one more target, named before -/
theorem predsJ_old {bs : List D.MBlock} {k j : Nat} (hj : j < (ix bs k).End.To.length) (h : (k : Int) ∈ predsJ bs k j (ix (ix bs k).End.To j)) (b : Int) : predsJ bs k (j + 1) b = predsJ bs k j b := by
  rw [predsJ_mem] at h
  unfold predsJ
  rw [take_ix hj]
  by_cases h1 : b ∈ (ix bs k).End.To.take j
  · rw [if_pos (by simp [h1]), if_pos h1]
  · have h2 : b ≠ ix (ix bs k).End.To j := by rintro rfl; exact h1 h
    rw [if_neg (by simp [h1, h2]), if_neg h1]
theorem predsJ_new {bs : List D.MBlock} {k j : Nat} (hj : j < (ix bs k).End.To.length) (h : ¬ (k : Int) ∈ predsJ bs k j (ix (ix bs k).End.To j)) (b : Int) :
    predsJ bs k (j + 1) b = if b = ix (ix bs k).End.To j then predsJ bs k j b ++ [(k : Int)] else predsJ bs k j b := by
  rw [predsJ_mem] at h
  unfold predsJ
  rw [take_ix hj]
  by_cases h1 : b = ix (ix bs k).End.To j
  · subst h1; rw [if_pos (by simp), if_neg h, if_pos rfl]; simp
  · rw [if_neg h1]
    by_cases h2 : b ∈ (ix bs k).End.To.take j
    · rw [if_pos (by simp [h2]), if_pos h2]
    · rw [if_neg (by simp [h1, h2]), if_neg h2]
def bfsIn : List Bool → List Int → List Int → List Bool × List Int
  | seen, q, [] => (seen, q)
  | seen, q, t :: ts => if ix seen t.toNat = true then bfsIn seen q ts else bfsIn (seen.set t.toNat true) (q ++ [t]) ts
def bfs (bs : List D.MBlock) : Nat → List Bool → List Int → List Bool
  | 0, seen, _ => seen
  | _ + 1, seen, [] => seen
  | f + 1, seen, x :: q => bfs bs f (bfsIn seen (x :: q) (ix bs x.toNat).End.To).1 ((bfsIn seen (x :: q) (ix bs x.toNat).End.To).2.drop 1)
def reachedM (bs : List D.MBlock) : List Bool := bfs bs bs.length ((List.replicate bs.length false).set 0 true) [0]
def cntF (l : List Bool) : Nat := l.countP (fun x => !x)
theorem cntF_set {l : List Bool} {i : Nat} (hi : i < l.length) (h : ¬ ix l i = true) : cntF (l.set i true) + 1 = cntF l := by
  unfold cntF
  have h2 : l[i] = false := by rw [← ix_eq hi]; simpa using h
  rw [List.countP_set hi]
  have : 0 < l.countP (fun x => !x) := List.countP_pos_iff.2 ⟨_, List.getElem_mem hi, by simp [h2]⟩
  simp [h2]; omega
def badPhi (bs : List D.MBlock) (b : Nat) (p : D.Phi) : Bool := decide (b = 0) || !decide (p.In.map (·.From) = predsM bs b)
def graphPhis (bs : List D.MBlock) : Nat → List D.MBlock → Int × Int × Int
  | _, [] => (0, 0, 0)
  | b, x :: l => match x.Phis.findIdx? (badPhi bs b) with
    | some i => (16, b, -1 - i)
    | none => graphPhis bs (b + 1) l
def graphM (m : D.MFunc) : Int × Int × Int := if 0 ≤ idxM (reachedM m.Blocks) (fun x => false == x) then (15, idxM (reachedM m.Blocks) (fun x => false == x), 0) else graphPhis m.Blocks 0 m.Blocks
def eqfM (a : List D.In) (b : List Int) : Bool := decide (a.map (·.From) = b)
theorem eqf_len {a : List D.In} {b : List Int} (h : ¬ a.length = b.length) : eqfM a b = false := by simp only [eqfM, decide_eq_false_iff_not]; intro h1; have := congrArg List.length h1; simp at this; omega
theorem eqf_at {a : List D.In} {b : List Int} {k : Nat} (h1 : k < a.length) (h2 : a.length = b.length) (h : ¬ (ix a k).From = ix b k) : eqfM a b = false := by
  simp only [eqfM, decide_eq_false_iff_not]
  rintro rfl
  rw [ix_eq h1, ix_eq (by simpa using h1)] at h
  simp at h
theorem eqf_yes {a : List D.In} {b : List Int} {k : Nat} (h1 : a.length ≤ k) (h2 : a.length = b.length) (h : (a.take k).map (·.From) = b.take k) : eqfM a b = true := by
  rw [List.take_of_length_le h1, List.take_of_length_le (by omega)] at h
  simp [eqfM, h]
def hasM (l : List Int) (x : Int) : Bool := decide (x ∈ l)
theorem has_any (l : List Int) (x : Int) : decide (0 ≤ idxM l (fun y => decide (x = y))) = hasM l x := by
  rw [idx_any]; unfold anyM hasM
  rw [Bool.eq_iff_iff, List.any_eq_true, decide_eq_true_eq]
  constructor
  · rintro ⟨y, hy, h⟩; simp at h; subst h; exact hy
  · intro h; exact ⟨x, h, by simp⟩
section
variable {bs : List D.MBlock} {k j n : Nat} {ls : List (List Int)}
theorem stepOld (hj : j < (ix bs k).End.To.length) (hls : ∀ b : Nat, b < n → ls.getD b [] = predsJ bs k j b) (ht : 0 ≤ ix (ix bs k).End.To j ∧ ix (ix bs k).End.To j < n) (h : hasM (ls.getD (ix (ix bs k).End.To j).toNat []) k = true) :
    ∀ b : Nat, b < n → ls.getD b [] = predsJ bs k (j + 1) b := by
  intro b hb
  have h1 := hls (ix (ix bs k).End.To j).toNat (by omega)
  rw [show (((ix (ix bs k).End.To j).toNat : Nat) : Int) = ix (ix bs k).End.To j by omega] at h1
  unfold hasM at h; rw [h1, decide_eq_true_eq] at h
  rw [predsJ_old hj h]; exact hls b hb
theorem stepNew (hj : j < (ix bs k).End.To.length) (hls : ∀ b : Nat, b < n → ls.getD b [] = predsJ bs k j b) (ht : 0 ≤ ix (ix bs k).End.To j ∧ ix (ix bs k).End.To j < n) (hl : ls.length = n) (h : hasM (ls.getD (ix (ix bs k).End.To j).toNat []) k = false) :
    ∀ b : Nat, b < n → (ls.set (ix (ix bs k).End.To j).toNat (ls.getD (ix (ix bs k).End.To j).toNat [] ++ [(k : Int)])).getD b [] = predsJ bs k (j + 1) b := by
  intro b hb
  have h1 := hls (ix (ix bs k).End.To j).toNat (by omega)
  rw [show (((ix (ix bs k).End.To j).toNat : Nat) : Int) = ix (ix bs k).End.To j by omega] at h1
  unfold hasM at h; rw [h1, decide_eq_false_iff_not] at h
  rw [predsJ_new hj h]
  by_cases e1 : b = (ix (ix bs k).End.To j).toNat
  · subst e1
    rw [if_pos (by omega), h1, show (((ix (ix bs k).End.To j).toNat : Nat) : Int) = ix (ix bs k).End.To j by omega]
    have : (ix (ix bs k).End.To j).toNat < ls.length := by omega
    simp [List.getD, this]
  · rw [if_neg (by omega), ← hls b hb]
    simp [List.getD, List.getElem?_set_ne (Ne.symm e1)]
theorem rows_len (hl : ls.length = n) (hn : n < 1073741824) (hls : ∀ b : Nat, b < n → ls.getD b [] = predsT bs k b) (hk : k ≤ n) : ∀ l ∈ ls, l.length < 1073741824 := by
  intro l hm
  obtain ⟨i, hi, rfl⟩ := List.mem_iff_getElem.1 hm
  have h1 := hls i (by omega)
  rw [List.getD, List.getElem?_eq_getElem hi] at h1
  simp only [Option.getD_some] at h1
  rw [h1]
  have := predsT_len bs k i
  omega
theorem row_len (hn : n < 1073741824) (hls : ∀ b : Nat, b < n → ls.getD b [] = predsJ bs k j b) (hk : k < n) {t : Nat} (ht : t < n) : (ls.getD t []).length < 1073741825 := by
  rw [hls t ht]; have := predsJ_len bs k j t; omega
theorem cnt_start (hn : 0 < n) : cntF ((List.replicate n false).set 0 true) + [(0 : Int)].length ≤ n := by
  have := cntF_set (l := List.replicate n false) (i := 0) (by simpa using hn) (by rw [ix_eq (by simpa using hn)]; simp)
  have h2 : cntF (List.replicate n false) = n := by unfold cntF; rw [List.countP_replicate]; rfl
  simp only [List.length_cons, List.length_nil]; omega
theorem bfs_nil (f : Nat) (se : List Bool) : bfs bs f se [] = se := by cases f <;> rfl
theorem bfs_step {f : Nat} {se : List Bool} {q : List Int} (hf : 0 < f) (hq : 0 < q.length) : bfs bs f se q = bfs bs (f - 1) (bfsIn se q (ix bs (ix q 0).toNat).End.To).1 ((bfsIn se q (ix bs (ix q 0).toNat).End.To).2.drop 1) := by
  obtain ⟨f, rfl⟩ : ∃ g, f = g + 1 := ⟨f - 1, by omega⟩
  match q, hq with
  | x :: q, _ => rfl
theorem phis_bad {l : List D.MBlock} (hk : k < l.length) {i : Nat} (hi : i < (ix l k).Phis.length) (hG : graphPhis bs 0 l = graphPhis bs k (l.drop k)) (hno : ∀ p ∈ (ix l k).Phis.take i, badPhi bs k p = false) (h : badPhi bs k (ix (ix l k).Phis i) = true) : graphPhis bs 0 l = (16, (k : Int), -1 - (i : Int)) := by
  rw [hG, drop_ix hk, graphPhis]
  have := idx_hit hi hno h
  unfold idxM at this
  split at this
  · rename_i a ha; rw [ha]; have : a = i := by omega
    subst this; rfl
  · omega
theorem phis_good {l : List D.MBlock} (hk : k < l.length) {i : Nat} (hi : (ix l k).Phis.length ≤ i) (hG : graphPhis bs 0 l = graphPhis bs k (l.drop k)) (hno : ∀ p ∈ (ix l k).Phis.take i, badPhi bs k p = false) : graphPhis bs 0 l = graphPhis bs (k + 1) (l.drop (k + 1)) := by
  rw [hG, drop_ix hk, graphPhis]
  rw [List.take_of_length_le hi] at hno
  rw [List.findIdx?_eq_none_iff.2 hno]
end

def idxInt (l : List Int) (x : Int) : Int := idxM l (fun y => decide (x = y))
-- slices.Index[[]int,int]: function 100
theorem idxInt_ct {F : PH} {H : Heap} (hin : InH F H) {a0 : Value} {l : List Int} {N0 : Nat} (p0 : (rLn N0 (rI .i64)).rv F a0 l) (x : Int) :
    Ct Try.prog 100 #[a0, .int .i64 x] H (fun v H' => v = .int .i64 (idxInt l x) ∧ H' = H) := by
  have q0 := rL.len2 p0
  have hkp := Kp.refl H.size H
  have hx := PH.ext.refl (H := H) F
  refine Ct.enter (args := [a0, .int .i64 x]) Try.func100 rfl rfl rfl (fun w0 hw0 => ?_)
  refine CF.seq (CF.region (LF.step (OpOk.assign rfl) (LF.nil (PF.next (CF.seq (CF.seq (CF.region (LF.step (OpOk.move rfl) ?_))))))))
  refine LF.step (OpOk.lenL Try.underlying38 p0 rfl) ?_
  refine LF.step (OpOk.move rfl) (LF.nil (PF.next (CF.block ?_)))
  refine CF.loop (ι := Nat) (fun k H1 => k ≤ l.length ∧ (∀ y ∈ l.take k, decide (x = y) = false) ∧ H1 = H) (fun k => [(0, a0), (1, .int .i64 x), (7, .int .i64 (↑(List.length l))), (8, .int .i64 (↑k))]) (fun k => l.length - k) 0 ⟨by omega, by simp, rfl⟩ ⟨rfl, rfl, rfl, eqI (by omega), trivial⟩ ?_
  rintro k H1 ⟨hk, hR, rfl⟩
  refine CF.seq (CF.region ?_)
  refine LF.step (OpOk.lss rfl rfl) ?_
  refine LF.nil (PF.next (CF.seq ?_))
  refine CF.if rfl (fun hc1 => ?_) (fun hc1 => ?_)
  refine CF.skip (PF.next (CF.seq (CF.block (CF.seq (CF.region (LF.step (OpOk.move rfl) (LF.step (OpOk.assign rfl) (LF.nil (PF.next (CF.seq (CF.region ?_)))))))))))
  refine LF.step (OpOk.move rfl) (LF.step (OpOk.move rfl) (LF.step (OpOk.move rfl) ?_))
  refine LF.step (OpOk.idxL (i := k) Try.underlying38 Try.sz3 p0 rfl rfl rfl (by omega)) ?_
  refine LF.step (OpOk.ldI hin (rL.ix p0 k (by omega)) Try.one3 rfl) ?_
  refine LF.step (OpOk.eql rfl rfl) ?_
  refine LF.nil (PF.next ?_)
  refine CF.if rfl (fun hc2 => ?_) (fun hc2 => ?_)
  refine CF.seq (CF.region (LF.step (OpOk.move rfl) (LF.step (OpOk.assign rfl) (LF.nil (PF.next (CF.ret (PF.blockRet (PF.thenRet (PF.thenRet (PF.blockRet (PF.thenRet ?_)))))))))))
  have hm : idxInt l x = ((k : Nat) : Int) := by
    exact idx_hit (q := fun y => decide (x = y)) (by omega) hR (decide_eq_true hc2)
  exact PF.ret1 rfl rfl ⟨by rw [hm] <;> rfl, rfl⟩
  refine CF.skip (PF.blockNormal (PF.next (CF.region ?_)))
  refine LF.step (OpOk.add rfl rfl (by omega)) ?_
  refine LF.step (OpOk.move rfl) (LF.nil ?_)
  exact PF.again (k + 1) ⟨by omega, no_snoc (q := fun y => decide (x = y)) (by omega) hR (decide_eq_false hc2), rfl⟩ ⟨rfl, rfl, rfl, eqI (by omega), trivial⟩ (by omega)
  refine CF.exit (PF.thenExit (PF.thenExit (PF.blockHere (PF.next (CF.seq (CF.region (LF.step (OpOk.assign rfl) (LF.nil (PF.next (CF.ret ?_))))))))))
  have hm : idxInt l x = (-1) := by
    exact idx_none (q := fun y => decide (x = y)) (by omega) hR
  exact PF.ret1 rfl rfl ⟨by rw [hm] <;> rfl, rfl⟩

def idxBool (l : List Bool) (x : Bool) : Int := idxM l (fun y => (x == y))
-- slices.Index[[]bool,bool]: function 89
theorem idxBool_ct {F : PH} {H : Heap} (hin : InH F H) {a0 : Value} {l : List Bool} {N0 : Nat} (p0 : (rLn N0 rB).rv F a0 l) (x : Bool) :
    Ct Try.prog 89 #[a0, .bool x] H (fun v H' => v = .int .i64 (idxBool l x) ∧ H' = H) := by
  have q0 := rL.len2 p0
  have hkp := Kp.refl H.size H
  have hx := PH.ext.refl (H := H) F
  refine Ct.enter (args := [a0, .bool x]) Try.func89 rfl rfl rfl (fun w0 hw0 => ?_)
  refine CF.seq (CF.region (LF.step (OpOk.assign rfl) (LF.nil (PF.next (CF.seq (CF.seq (CF.region (LF.step (OpOk.move rfl) ?_))))))))
  refine LF.step (OpOk.lenL Try.underlying98 p0 rfl) ?_
  refine LF.step (OpOk.move rfl) (LF.nil (PF.next (CF.block ?_)))
  refine CF.loop (ι := Nat) (fun k H1 => k ≤ l.length ∧ (∀ y ∈ l.take k, (x == y) = false) ∧ H1 = H) (fun k => [(0, a0), (1, .bool x), (7, .int .i64 (↑(List.length l))), (8, .int .i64 (↑k))]) (fun k => l.length - k) 0 ⟨by omega, by simp, rfl⟩ ⟨rfl, rfl, rfl, eqI (by omega), trivial⟩ ?_
  rintro k H1 ⟨hk, hR, rfl⟩
  refine CF.seq (CF.region ?_)
  refine LF.step (OpOk.lss rfl rfl) ?_
  refine LF.nil (PF.next (CF.seq ?_))
  refine CF.if rfl (fun hc1 => ?_) (fun hc1 => ?_)
  refine CF.skip (PF.next (CF.seq (CF.block (CF.seq (CF.region (LF.step (OpOk.move rfl) (LF.step (OpOk.assign rfl) (LF.nil (PF.next (CF.seq (CF.region ?_)))))))))))
  refine LF.step (OpOk.move rfl) (LF.step (OpOk.move rfl) (LF.step (OpOk.move rfl) ?_))
  refine LF.step (OpOk.idxL (i := k) Try.underlying98 Try.sz4 p0 rfl rfl rfl (by omega)) ?_
  refine LF.step (OpOk.ldB hin (rL.ix p0 k (by omega)) Try.one4 rfl) ?_
  refine LF.step (OpOk.eqlB Try.underlying4 rfl rfl) ?_
  refine LF.nil (PF.next ?_)
  refine CF.if rfl (fun hc2 => ?_) (fun hc2 => ?_)
  refine CF.seq (CF.region (LF.step (OpOk.move rfl) (LF.step (OpOk.assign rfl) (LF.nil (PF.next (CF.ret (PF.blockRet (PF.thenRet (PF.thenRet (PF.blockRet (PF.thenRet ?_)))))))))))
  have hm : idxBool l x = ((k : Nat) : Int) := by
    exact idx_hit (q := fun y => (x == y)) (by omega) hR hc2
  exact PF.ret1 rfl rfl ⟨by rw [hm] <;> rfl, rfl⟩
  refine CF.skip (PF.blockNormal (PF.next (CF.region ?_)))
  refine LF.step (OpOk.add rfl rfl (by omega)) ?_
  refine LF.step (OpOk.move rfl) (LF.nil ?_)
  exact PF.again (k + 1) ⟨by omega, no_snoc (q := fun y => (x == y)) (by omega) hR hc2, rfl⟩ ⟨rfl, rfl, rfl, eqI (by omega), trivial⟩ (by omega)
  refine CF.exit (PF.thenExit (PF.thenExit (PF.blockHere (PF.next (CF.seq (CF.region (LF.step (OpOk.assign rfl) (LF.nil (PF.next (CF.ret ?_))))))))))
  have hm : idxBool l x = (-1) := by
    exact idx_none (q := fun y => (x == y)) (by omega) hR
  exact PF.ret1 rfl rfl ⟨by rw [hm] <;> rfl, rfl⟩

-- slices.Contains[[]int,int]: function 88
theorem has_ct {F : PH} {H : Heap} (hin : InH F H) {a0 : Value} {l : List Int} {N0 : Nat} (p0 : (rLn N0 (rI .i64)).rv F a0 l) (x : Int) :
    Ct Try.prog 88 #[a0, .int .i64 x] H (fun v H' => v = .bool (hasM l x) ∧ H' = H) := by
  have q0 := rL.len2 p0
  have hkp := Kp.refl H.size H
  have hx := PH.ext.refl (H := H) F
  refine Ct.enter (args := [a0, .int .i64 x]) Try.func88 rfl rfl rfl (fun w0 hw0 => ?_)
  refine CF.seq (CF.region (LF.step (OpOk.assign rfl) (LF.nil (PF.next (CF.seq (CF.region (LF.step (OpOk.move rfl) (LF.step (OpOk.move rfl) ?_))))))))
  refine LF.call (OpCall.fn Try.ent100 rfl rfl) (idxInt_ct hin p0 x) ?_
  rintro _ _ ⟨rfl, rfl⟩
  refine LF.step (OpOk.geq rfl rfl) ?_
  refine LF.step (OpOk.assign rfl) (LF.nil (PF.next (CF.ret ?_)))
  have hm : hasM l x = (decide (0 ≤ idxInt l x)) := by
    exact (has_any l x).symm
  exact PF.ret1 rfl rfl ⟨by rw [hm] <;> rfl, rfl⟩

-- jacquard/mach.graph$1: function 91
theorem pGraph1_ct {F : PH} {H : Heap} (hin : InH F H) {a0 : Value} {x : D.In} (p0 : rIn.ra F a0 x) (y : Int) :
    Ct Try.prog 91 #[a0, .int .i64 y] H (fun v H' => v = .bool ((fun (x : D.In) (y : Int) => decide (x.From = y)) x y) ∧ Kp H.size H H') := by
  have p0k := rIn.any p0
  obtain rfl := rIn.open p0
  have hkp := Kp.refl H.size H
  have hx := PH.ext.refl (H := H) F
  refine Ct.enter (args := [.agg #[.int .i64 x.From, .int .i64 x.Val], .int .i64 y]) Try.func91 rfl rfl rfl (fun w0 hw0 => ?_)
  refine CF.seq (CF.region ?_)
  refine LF.chg (OpCh.boxB rfl rfl) ?_
  rintro _ H2 ⟨g2, rfl, eg2, sg2, kg2, hb2⟩
  have ng2 := hin.nope (Nat.le_of_eq eg2.symm)
  have lg2 := hkp.1
  have zkg2 := kg2.1
  replace hin := hin.kp kg2
  replace hkp := hkp.trans (kg2.mono hkp.1)
  clear kg2
  refine LF.step (OpOk.assign rfl) (LF.nil (PF.next (CF.seq (CF.region ?_))))
  refine LF.step (OpOk.fieldAddr (Try.fld82_0) rfl) ?_
  refine LF.step (OpOk.ldBx hb2 Try.one3 rfl rfl) ?_
  refine LF.step (OpOk.move rfl) ?_
  refine LF.step (OpOk.eql rfl rfl) ?_
  refine LF.step (OpOk.assign rfl) (LF.nil (PF.next (CF.ret ?_)))
  have hm : (fun (x : D.In) (y : Int) => decide (x.From = y)) x y = (decide (x.From = y)) := by
    rfl
  exact PF.ret1 rfl rfl ⟨by rw [hm] <;> rfl, hkp⟩

-- slices.EqualFunc[[]jacquard/api.In,[]int,jacquard/api.In,int]: function 90
theorem eqf_ct {F : PH} {H : Heap} (hin : InH F H) {a0 : Value} {a : List D.In} (p0 : (rL rIn).rv F a0 a) {a1 : Value} {b : List Int} (p1 : (rL (rI .i64)).rv F a1 b)  :
    Ct Try.prog 90 #[a0, a1, .func (.func 91) #[] #[]] H (fun v H' => v = .bool (eqfM a b ) ∧ Kp H.size H H') := by
  have q0 := rL.len2 p0
  have q1 := rL.len2 p1
  have hkp := Kp.refl H.size H
  have hx := PH.ext.refl (H := H) F
  refine Ct.enter (args := [a0, a1, .func (.func 91) #[] #[]]) Try.func90 rfl rfl rfl (fun w0 hw0 => ?_)
  refine CF.seq (CF.region (LF.step (OpOk.assign rfl) (LF.nil (PF.next (CF.seq (CF.seq (CF.region (LF.step (OpOk.move rfl) ?_))))))))
  refine LF.step (OpOk.lenL Try.underlying68 p0 rfl) ?_
  refine LF.step (OpOk.move rfl) ?_
  refine LF.step (OpOk.lenL Try.underlying38 p1 rfl) ?_
  refine LF.step (OpOk.neq rfl rfl) ?_
  refine LF.nil (PF.next ?_)
  refine CF.if rfl (fun hc1 => ?_) (fun hc1 => ?_)
  refine CF.seq (CF.region (LF.step (OpOk.assign rfl) (LF.nil (PF.next (CF.ret (PF.thenRet ?_))))))
  have hm : eqfM a b  = false := by
    exact eqf_len (by omega)
  exact PF.ret1 rfl rfl ⟨by rw [hm] <;> rfl, hkp⟩
  refine CF.skip (PF.next (CF.seq (CF.seq (CF.region (LF.step (OpOk.move rfl) ?_)))))
  refine LF.step (OpOk.lenL Try.underlying68 p0 rfl) ?_
  refine LF.step (OpOk.move rfl) (LF.nil (PF.next (CF.block ?_)))
  refine CF.loop (ι := Nat) (fun k H1 => k ≤ a.length ∧ (a.take k).map (·.From) = b.take k ∧ InH F H1 ∧ Kp H.size H H1) (fun k => [(1, a1), (2, .func (.func 91) #[] #[]), (15, a0), (16, .int .i64 (↑(List.length a))), (17, .int .i64 (↑k))]) (fun k => a.length - k) 0 ⟨by omega, rfl, hin, hkp⟩ ⟨rfl, rfl, rfl, rfl, eqI (by omega), trivial⟩ ?_
  clear hin hkp
  rintro k H1 ⟨hk, hR, hin, hkp⟩
  refine CF.seq (CF.region ?_)
  refine LF.step (OpOk.lss rfl rfl) ?_
  refine LF.nil (PF.next (CF.seq ?_))
  refine CF.if rfl (fun hc2 => ?_) (fun hc2 => ?_)
  refine CF.skip (PF.next (CF.seq (CF.block (CF.seq (CF.region (LF.step (OpOk.move rfl) ?_))))))
  refine LF.step (OpOk.idxL (i := k) Try.underlying68 Try.sz82 p0 rfl rfl rfl (by omega)) ?_
  refine LF.stepE (OpOk.ldA hin (rL.ix p0 k (by omega)) Try.agg82 Try.sz82 rfl) ?_
  intro v21 h21
  have h21k := rIn.any h21
  obtain rfl := rIn.open h21
  refine LF.chg (OpCh.allocB Try.zero82 rfl) ?_
  rintro _ H8 ⟨g8, rfl, eg8, sg8, kg8, hb8⟩
  have ng8 := hin.nope (Nat.le_of_eq eg8.symm)
  have lg8 := hkp.1
  have zkg8 := kg8.1
  replace hin := hin.kp kg8
  replace hkp := hkp.trans (kg8.mono hkp.1)
  clear kg8
  refine LF.step (OpOk.assign rfl) ?_
  refine LF.chg0 (OpCh.storeBA hb8 Try.sz82 rfl rfl rfl (allOne.mem (l := [.int .i64 ((ix a k).From), .int .i64 ((ix a k).Val)]) ⟨rfl, rfl, trivial⟩) (by decide)) ?_
  rintro _ Hw1 ⟨tw1, bw1⟩
  have ztw1 := tw1.1
  replace hin := hin.tw tw1 ng8
  replace hkp := Tw.kp' hkp tw1 (by omega)
  replace hb8 : Bx _ _ _ [.int .i64 ((ix a k).From), .int .i64 ((ix a k).Val)] := bw1
  clear bw1 tw1
  refine LF.nil (PF.next (CF.seq (CF.region (LF.step (OpOk.move rfl) (LF.step (OpOk.move rfl) ?_)))))
  refine LF.step (OpOk.idxL (i := k) Try.underlying38 Try.sz3 p1 rfl rfl rfl (by omega)) ?_
  refine LF.step (OpOk.ldI hin (rL.ix p1 k (by omega)) Try.one3 rfl) ?_
  refine LF.step (OpOk.assign rfl) (LF.nil (PF.next (CF.seq (CF.region (LF.step (OpOk.move rfl) ?_)))))
  refine LF.step (OpOk.ldBxA hb8 Try.agg82 Try.sz82 rfl rfl rfl) ?_
  refine LF.step (OpOk.move rfl) ?_
  refine LF.call (OpCall.fn Try.ent91 rfl rfl) (pGraph1_ct hin h21 (ix b k)) ?_
  rintro _ H29 ⟨rfl, k29⟩
  have zk29 := k29.1
  replace hin := hin.kp k29
  replace hkp := hkp.trans (k29.mono hkp.1)
  replace hb8 := hb8.kp k29
  refine LF.step (OpOk.not rfl) ?_
  refine LF.nil (PF.next ?_)
  refine CF.if rfl (fun hc3 => ?_) (fun hc3 => ?_)
  refine CF.seq (CF.region (LF.step (OpOk.assign rfl) (LF.nil (PF.next (CF.ret (PF.blockRet (PF.thenRet (PF.thenRet (PF.blockRet (PF.thenRet ?_))))))))))
  have hm : eqfM a b  = false := by
    exact eqf_at (k := k) (by omega) (by omega) hc3
  exact PF.ret1 rfl rfl ⟨by rw [hm] <;> rfl, hkp⟩
  refine CF.skip (PF.blockNormal (PF.next (CF.region ?_)))
  refine LF.step (OpOk.add rfl rfl (by omega)) ?_
  refine LF.step (OpOk.move rfl) (LF.nil ?_)
  exact PF.again (k + 1) ⟨by omega, by rw [take_ix (by omega), take_ix (by omega), List.map_append, hR]; simp [hc3], hin, hkp⟩ ⟨rfl, rfl, rfl, rfl, eqI (by omega), trivial⟩ (by omega)
  refine CF.exit (PF.thenExit (PF.thenExit (PF.blockHere (PF.next (CF.seq (CF.region (LF.step (OpOk.assign rfl) (LF.nil (PF.next (CF.ret ?_))))))))))
  have hm : eqfM a b  = true := by
    exact eqf_yes (k := k) (by omega) (by omega) hR
  exact PF.ret1 rfl rfl ⟨by rw [hm] <;> rfl, hkp⟩

end Go.Proofs.Ytehibklogdngbaa
