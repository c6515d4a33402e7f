/- Moves in another order: plain mathematics. -/
import Derived.Test.YtcceglmmpbdhiaaM4
namespace Go.Proofs.Ytcceglmmpbdhiaa
set_option linter.unusedVariables false
set_option linter.unusedSimpArgs false
set_option linter.unusedSectionVars false
set_option maxRecDepth 8000
open Go.JE


/- ---------------------------------------------- in which order moves are handed in -/
theorem src_out {mv : List D.Move} {p : Int} (h : ∀ m ∈ mv, m.To ≠ p) : srcM mv p = -1 := by
  unfold srcM
  rcases sourceM_cases p mv (-1) with e | ⟨m, hm, he, _⟩
  · exact e
  · exact absurd he (h m hm)
theorem src_perm {mv mw : List D.Move} (hp : mv.Perm mw) (hn : (keysM mv).Nodup) (p : Int) : srcM mw p = srcM mv p := by
  have hn2 : (keysM mw).Nodup := (hp.map _).nodup_iff.1 hn
  by_cases h : ∃ m ∈ mv, m.To = p
  · obtain ⟨m, hm, rfl⟩ := h
    rw [src_eq hn hm, src_eq hn2 (hp.mem_iff.1 hm)]
  · rw [src_out (fun m hm e => h ⟨m, hm, e⟩), src_out (fun m hm e => h ⟨m, hp.mem_iff.2 hm, e⟩)]
theorem used_perm {mv mw : List D.Move} (hp : mv.Perm mw) (p : Int) : usedM mw p = usedM mv p := by
  unfold usedM
  rw [Bool.eq_iff_iff, List.any_eq_true, List.any_eq_true]
  constructor
  · rintro ⟨m, hm, h⟩; exact ⟨m, hp.mem_iff.2 hm, h⟩
  · rintro ⟨m, hm, h⟩; exact ⟨m, hp.mem_iff.1 hm, h⟩
theorem free_rng1 (mv : List D.Move) (hok : okM mv = true) : -1 ≤ freeM mv := by
  unfold freeM
  rcases freeF_cases mv mv (-1) with e | ⟨m, hm, e, _⟩
  · omega
  · have := okM_mem hok hm; omega
theorem free_le_perm {mv mw : List D.Move} (hp : mv.Perm mw) (hok : okM mv = true) (hok2 : okM mw = true) (h : 0 ≤ freeM mw) : 0 ≤ freeM mv ∧ freeM mv ≤ freeM mw := by
  obtain ⟨m, hm, he, hu⟩ := freeM_mem h
  have hm' := hp.mem_iff.2 hm
  have hu' : usedM mv m.To = false := by rw [← used_perm hp]; exact hu
  have h0 : 0 ≤ freeM mv := by
    rcases Int.lt_or_le (freeM mv) 0 with h9 | h9
    · have := free_no hok h9 m hm'; rw [hu'] at this; cases this
    · exact h9
  exact ⟨h0, by rw [← he]; exact free_least hok h0 m hm' hu'⟩
theorem free_perm {mv mw : List D.Move} (hp : mv.Perm mw) (hok : okM mv = true) (hok2 : okM mw = true) : freeM mw = freeM mv := by
  have h1 := free_rng1 mv hok
  have h2 := free_rng1 mw hok2
  by_cases h : 0 ≤ freeM mw
  · obtain ⟨a, b⟩ := free_le_perm hp hok hok2 h
    obtain ⟨c, d⟩ := free_le_perm hp.symm hok2 hok a
    omega
  · by_cases h' : 0 ≤ freeM mv
    · obtain ⟨c, d⟩ := free_le_perm hp.symm hok2 hok h'
      omega
    · omega
theorem least_perm {mv mw : List D.Move} (hp : mv.Perm mw) (h : 0 < mv.length) : leastM mw = leastM mv := by
  rw [← head_least h, ← head_least (by rw [← hp.length_eq]; exact h)]
  have e : sortM (keysM mv) = sortM (keysM mw) := sortM_congr (hp.map _)
  unfold leftL
  rw [e]
theorem circ_congr {mv mw : List D.Move} (h : ∀ p, srcM mw p = srcM mv p) (hl : mw.length = mv.length) (x : Int) : circM mw x = circM mv x := by
  have : ∀ (f : Nat) (p : Int), circGo mw x f p = circGo mv x f p := by
    intro f
    induction f with
    | zero => intro p; rfl
    | succ f ih => intro p; unfold circGo; rw [h, ih]
  unfold circM; rw [hl, h, this]
theorem withoutAll_perm : ∀ (c : List Int) {mv mw : List D.Move}, mv.Perm mw → (withoutAll mv c).Perm (withoutAll mw c)
  | [], _, _, h => h
  | p :: c, _, _, h => withoutAll_perm c (h.filter _)
theorem ok_perm {mv mw : List D.Move} (hp : mv.Perm mw) (h : okM mv = true) : okM mw = true := by
  unfold okM at *
  rw [List.all_eq_true] at *
  exact fun m hm => h m (hp.mem_iff.2 hm)
theorem orderGo_perm {scr sp : Int} : ∀ (f : Nat) {mv mw : List D.Move} (o : List D.Mach) (e : Int), mv.Perm mw → okM mv = true → (keysM mv).Nodup → orderGo scr sp f mw o e = orderGo scr sp f mv o e
  | 0, _, _, _, _, _, _, _ => rfl
  | f + 1, mv, mw, o, e, hp, hok, hn => by
    have hok2 := ok_perm hp hok
    have hl := hp.length_eq
    unfold orderGo
    rw [← hl, free_perm hp hok hok2]
    by_cases h0 : mv.length = 0 ∨ e ≠ 0
    · rw [if_pos h0, if_pos h0]
    · rw [if_neg h0, if_neg h0, src_perm hp hn, least_perm hp (by omega), circ_congr (src_perm hp hn) hl.symm]
      rw [orderGo_perm f _ _ (show (withoutM mv (freeM mv)).Perm (withoutM mw (freeM mv)) from hp.filter _) (withoutM_ok hok _) (without_nodup hn _),
        orderGo_perm f _ _ (withoutAll_perm (circM mv (leastM mv)) hp) (withoutAll_ok _ hok) (withoutAll_nodup _ hn)]
theorem orderR_perm {l m : List D.Move} {scr sp : Int} (hp : l.Perm m) (hn : (keysM l).Nodup) (h1 : wrongM l scr sp = 0) (h2 : wrongM m scr sp = 0) : orderR m scr sp = orderR l scr sp := by
  have hpl : (leftM l).Perm (leftM m) := hp.filter _
  have hok := leftM_ok (wrongM_ok h1).1
  have e : orderGo scr sp (leftM m).length (leftM m) [] 0 = orderGo scr sp (leftM l).length (leftM l) [] 0 := by
    rw [← hpl.length_eq, orderGo_perm _ [] 0 hpl hok (hn.sublist (List.filter_sublist.map _))]
  unfold orderR
  rw [h1, h2, e]
theorem turned_perm (l : List D.Move) (k : Nat) : l.Perm (l.drop k ++ l.take k) := by
  have h : (l.take k ++ l.drop k).Perm (l.drop k ++ l.take k) := List.perm_append_comm
  rwa [List.take_append_drop] at h
theorem turned_right (s : List Int) (k : Nat) {scr : Int} (hs : scr < 0 ∨ scr = 15) : orderR ((madeM s).drop k ++ (madeM s).take k) scr 10 = orderR (madeM s) scr 10 := by
  have hp := turned_perm (madeM s) k
  refine orderR_perm hp (made_keys s) (made_right s hs (.inr rfl)) (wrong_low (fun m hm => made_mem (hp.mem_iff.2 hm)) ?_ hs (.inr rfl))
  unfold nodupM
  exact decide_eq_true ((hp.map _).nodup_iff.1 (made_keys s))
theorem turned_law (s : List Int) (k : Nat) {scr : Int} (hs : scr < 0 ∨ scr = 15) :
    ((true && decide ((orderR (madeM s) scr 10).2 = 0) && decide ((orderR ((madeM s).drop k ++ (madeM s).take k) scr 10).2 = 0)) && sameM (orderR (madeM s) scr 10).1 (orderR ((madeM s).drop k ++ (madeM s).take k) scr 10).1) = true := by
  rw [turned_right s k hs, order_made s hs, sameM_self (orderR_args _ _ _)]; rfl
theorem rest_rng {x n : Int} (hn : 0 < n) (h : n < 100) : 0 ≤ restM x n ∧ restM x n < n := by
  have h1 := Int.tmod_lt_of_pos x hn
  have h2 := Int.lt_tmod_of_pos x hn
  unfold restM
  exact ⟨Int.tmod_nonneg _ (by omega), Int.tmod_lt_of_pos _ hn⟩

end Go.Proofs.Ytcceglmmpbdhiaa
