/- Walks. Conditions: each contract names its own. -/
import Derived.Test.YtcceglmmpbdhiaaWD
import Derived.Test.YtcceglmmpbdhiaaKa
namespace Go.Proofs.Ytcceglmmpbdhiaa
set_option linter.unusedVariables false
set_option linter.unusedSimpArgs false
set_option linter.unusedSectionVars false
set_option maxRecDepth 8000
open Go.JE


/- rows of instructions without operands stand in the frozen part of before, too -/
def NoArgs (l : List D.Mach) : Prop := ∀ m ∈ l, m.Args = []
theorem NoArgs.app {a b : List D.Mach} (h : NoArgs a) (h2 : NoArgs b) : NoArgs (a ++ b) := fun m hm => by
  rcases List.mem_append.1 hm with h9 | h9
  · exact h m h9
  · exact h2 m h9
theorem NoArgs.bringX (scr sp a b : Int) : NoArgs ((bringX scr sp a b).getD []) := by
  intro m hm
  unfold Go.Proofs.Ytcceglmmpbdhiaa.bringX at hm
  (repeat' split at hm) <;> simp [loadM, storeM] at hm <;> (first | (subst hm; rfl) | (rcases hm with rfl | rfl <;> rfl) | (rcases hm with rfl | rfl | rfl | rfl <;> rfl))
theorem nil_ok {N : Nat} {F G : PH} {r : Rp Int} {l : List Int} {f : Nat → Value} (h : (rLn N r).ok F l f) (hl : l = []) : (rLn N r).ok G l f := by
  subst hl
  obtain ⟨h1, a, cap, h2, h3, h4, g, h5, h6⟩ := h
  exact ⟨h1, a, cap, h2, h3, h4, g, fun i hi => by simp at hi, fun i hi => by simp at hi⟩
theorem mach_ok {F G : PH} {m : D.Mach} {f : Nat → Value} (h : rMach.ok F m f) (hn : m.Args = []) : rMach.ok G m f := by
  obtain ⟨h0, h1, h2, h3, h4, h5, h6, h7⟩ := h
  exact ⟨h0, h1, h2, h3, h4, h5, h6, nil_ok h7 hn⟩
theorem downM {F G : PH} {H : Heap} {B : Nat} {v : Value} {l : List D.Mach} (h : Gl rMach 39 G H B v l) (hl : F.le G) (hn : NoArgs l) : Gl rMach 39 F H B v l := by
  obtain ⟨xs, h1, h2, h3⟩ := h
  refine ⟨xs, h1, fun k hk => ?_, fun i hi => mach_ok (h3 i hi) (hn _ (List.getElem_mem hi))⟩
  cases h4 : F k with
  | none => rfl
  | some o => have := hl k o h4; rw [h2 k hk] at this; cases this
theorem swapI_args (q : Int × Int) : (swapI q).Args = [] := rfl
theorem pBringF_ct {F : PH} {H : Heap} (hin : InH F H) {a9 : Value} {l : List D.Mach} {Bp9 : Nat} (p9 : Gl rMach 39 F H Bp9 a9 l) (scr : Int) (sp : Int) (lk : Bool) (hl9 : l.length < 1000000) (hs : -9223372036854775808 ≤ scr ∧ scr < 16) (hsp : -9223372036854775808 ≤ sp ∧ sp < 16383) (hna : NoArgs l)
    {g0 : Nat} (hb0 : Bx H g0 62 [a9, .int .i64 scr, .int .i64 sp, .bool lk]) (ng0 : F g0 = none) (a : Int) (b : Int) (ha : 0 ≤ a ∧ a < 16400) (hb : 0 ≤ b ∧ b < 16400) :
    Ct Try.prog 37 #[.pointer (some ⟨g0, 0, none⟩), .int .i64 a, .int .i64 b] H (fun v H' => ∃ (u0 : Value), v = .tuple #[] ∧ InH F H' ∧ Kw (fun j9 => j9 = g0 ∨ a9.ownBlock = some j9) H H' ∧ Bx H' g0 62 [u0, .int .i64 scr, .int .i64 sp, .bool (lk || (bringX scr sp a b).isNone)] ∧ Gl rMach 39 F H' 0 u0 (l ++ (bringX scr sp a b).getD []) ∧ Lnk H.size a9 u0) :=
  (pBring_ct hin p9 scr sp lk hl9 hs hsp hb0 ng0 a b ha hb).mono fun v H' ⟨F', u0, h1, hx, h3, h4, h5, h6, h7⟩ => ⟨u0, h1, h3.down hx.1, h4, h5, downM h6 hx.1 (hna.app (NoArgs.bringX _ _ _ _)), h7⟩
theorem pLayF_ct {F : PH} {H : Heap} (hin : InH F H) {a9 : Value} {l : List D.Mach} {Bp9 : Nat} (p9 : Gl rMach 39 F H Bp9 a9 l) (scr : Int) (sp : Int) (lk : Bool) (hl9 : l.length < 1000000) (hna : NoArgs l)
    {g0 : Nat} (hb0 : Bx H g0 62 [a9, .int .i64 scr, .int .i64 sp, .bool lk]) (ng0 : F g0 = none) {a1 : Value} {x : List D.Mach} (p1 : (rL rMach).rv F a1 x) (hx9 : x.length < 1000000) (hxn : NoArgs x) :
    Ct Try.prog 60 #[.pointer (some ⟨g0, 0, none⟩), a1] H (fun v H' => ∃ (u0 : Value), v = .tuple #[] ∧ InH F H' ∧ Kw (fun j9 => j9 = g0 ∨ a9.ownBlock = some j9) H H' ∧ Bx H' g0 62 [u0, .int .i64 scr, .int .i64 sp, .bool lk] ∧ Gl rMach 39 F H' 0 u0 (l ++ x) ∧ Lnk H.size a9 u0) :=
  (pLay_ct hin p9 scr sp lk hl9 hb0 ng0 p1 hx9).mono fun v H' ⟨F', u0, h1, hx, h3, h4, h5, h6, h7⟩ => ⟨u0, h1, h3.down hx.1, h4, h5, downM h6 hx.1 (hna.app hxn), h7⟩

end Go.Proofs.Ytcceglmmpbdhiaa
