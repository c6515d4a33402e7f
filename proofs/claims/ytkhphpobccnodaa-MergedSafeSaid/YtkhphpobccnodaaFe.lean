/- The iterator that slices.Backward makes, over ints. Conditions: each contract names its own. -/
import Derived.Test.YtkhphpobccnodaaJi
import Derived.Test.YtkhphpobccnodaaFa
namespace Go.Proofs.Ytkhphpobccnodaa
open Go.JE

/-- a list's elements with their places, from the last on -/
def revT {α : Type} (l : List α) : Nat → List (Nat × α)
  | 0 => []
  | k + 1 => (match l[k]? with | some a => [(k, a)] | none => []) ++ revT l k
def backEnc {m : Nat} (x : Nat × Fin m) : List Value := [.int .i64 x.1, .int .i64 (x.2.val : Int)]

theorem revT_len {α : Type} (l : List α) : ∀ k, k ≤ l.length → (revT l k).length = k
  | 0, _ => rfl
  | k + 1, h => by
    have := revT_len l k (by omega)
    simp only [revT, List.getElem?_eq_getElem (show k < l.length by omega), List.length_append, this]; simp; omega
theorem revT_snd {α : Type} (l : List α) : ∀ k, k ≤ l.length → (revT l k).map (·.2) = (l.take k).reverse
  | 0, _ => by simp [revT]
  | k + 1, h => by
    simp only [revT, List.getElem?_eq_getElem (show k < l.length by omega), List.map_append, revT_snd l k (by omega)]
    rw [List.take_succ_eq_append_getElem (by omega), List.reverse_append]; rfl

theorem backward_iter {H : Heap} {bx B m : Nat} {vs : Value} {l : List (Fin m)} (hb : Rw H bx 22 1 (fun _ => vs)) (hs : Sl H B vs 1 l.length (fun i => .int .i64 (((l.map (·.val)).getD i 0 : Nat) : Int))) :
    Iter Try.prog 30 #[.pointer (some ⟨bx, 0, none⟩)] (fun x : Nat × Fin m => (backEnc x).toArray) [bx, vblk vs] (revT l l.length) H := by
  rintro w0 rfl lr J Jx W hW hJ hJx hY h0
  have hlen := hs.len
  have hl2 := revT_len l l.length (Nat.le_refl _)
  have hst : ∀ (W' : World), (∀ k ∈ [bx, vblk vs], W'.heap[k]? = w0.heap[k]?) → hc W'.heap bx 0 = some vs ∧ ∀ i, i < l.length → hc W'.heap (vblk vs) (voff vs + i) = some (.int .i64 (((l.map (·.val)).getD i 0 : Nat) : Int)) := by
    intro W' hk
    have h1 := hk bx (by simp)
    have h2 := hk (vblk vs) (by simp)
    refine ⟨by have := hb.cell (i := 0) (by omega); simpa [hc, h1] using this, fun i hi => ?_⟩
    have := hs.at (i := i) (by omega)
    simpa [hc, h2, elAt] using this
  have hvs : ∃ a cap, vs = .slice a l.length cap ∧ l.length ≤ cap ∧ (0 < l.length → ∃ b o, a = some ⟨b, o, none⟩) := by
    obtain ⟨_, a, cap, h1, h2, h3⟩ := hs
    refine ⟨a, cap, h1, h2, fun h => ?_⟩
    obtain ⟨b, o, h4, _⟩ := h3 0 (by omega)
    exact ⟨b, o, h4⟩
  have hsl : ∀ (W' : World), (∀ k ∈ [bx, vblk vs], W'.heap[k]? = w0.heap[k]?) → Sl W'.heap (vblk vs + 1) vs 1 l.length (fun i => .int .i64 (((l.map (·.val)).getD i 0 : Nat) : Int)) := by
    intro W' hk
    obtain ⟨a, cap, rfl, h2, h3⟩ := hvs
    refine ⟨hlen, a, cap, rfl, h2, fun i hi => ?_⟩
    obtain ⟨b, o, rfl⟩ := h3 (by omega)
    exact ⟨b, o, rfl, by simp [vblk], (hst W' hk).2 i (by omega)⟩
  have hkW : ∀ k ∈ [bx, vblk vs], k < w0.heap.size → W.heap[k]? = w0.heap[k]? := fun k _ hk => hW.block k hk
  have hkW2 : 0 < l.length → ∀ k ∈ [bx, vblk vs], W.heap[k]? = w0.heap[k]? := by
    intro hpos k hk
    refine hkW k hk ?_
    simp only [List.mem_cons, List.not_mem_nil, or_false] at hk
    rcases hk with rfl | rfl
    · exact hb.lt
    · have := hs.at (i := 0) (by omega)
      simp only [elAt, hc] at this
      cases h5 : w0.heap[vblk vs]? with
      | none => rw [h5] at this; cases this
      | some x => exact (Array.getElem?_eq_some_iff.1 h5).1
  have hbW : hc W.heap bx 0 = some vs := by
    have := hb.cell (i := 0) (by omega)
    simpa [hc, hW.block bx hb.lt] using this
  refine YC.enter (args := [.func (.yield lr) #[] #[], .pointer (some ⟨bx, 0, none⟩)]) Try.func30 rfl rfl rfl ?_
  refine YC.seq ?_
  refine YC.region ?_
  refine YL.step (OpOk.load Try.one22 rfl rfl hbW) ?_
  obtain ⟨av, cap, hv0, hcap, hav⟩ := hvs
  refine YL.step (OpOk.lenS (n := l.length) Try.underlying22 (by rw [hv0]; rfl)) ?_
  refine YL.step (OpOk.sub rfl rfl (by omega)) ?_
  refine YL.step (OpOk.assign rfl) ?_
  refine YL.nil ?_
  refine YP.next ?_
  refine YC.block ?_
  refine YC.loop (ι := Nat) (fun k W' => k ≤ l.length ∧ (∃ pre, pre ++ revT l k = revT l l.length ∧ J pre W') ∧ (0 < l.length → ∀ k ∈ [bx, vblk vs], W'.heap[k]? = w0.heap[k]?))
    (fun k => [(0, .func (.yield lr) #[] #[]), (1, .pointer (some ⟨bx, 0, none⟩)), (3, .int .i64 ((k : Int) - 1))]) (fun k => k) l.length ⟨Nat.le_refl _, ⟨[], rfl, h0⟩, hkW2⟩ ⟨rfl, rfl, rfl, trivial⟩ ?_
  rintro k W1 ⟨hk, ⟨pre, hpre, hJ1⟩, hkeep⟩
  refine YC.seq ?_
  refine YC.seq ?_
  refine YC.region ?_
  refine YL.step (OpOk.move rfl) ?_
  refine YL.step (OpOk.geq rfl rfl) ?_
  refine YL.nil ?_
  refine YP.next ?_
  refine YC.if rfl (fun hc1 => ?_) (fun hc1 => ?_)
  · have hk1 : 1 ≤ k := by omega
    have hkeep' := hkeep (by omega)
    have hlt : k - 1 < l.length := by omega
    have hrev : revT l k = (k - 1, l[k - 1]) :: revT l (k - 1) := by
      obtain ⟨j, rfl⟩ : ∃ j, k = j + 1 := ⟨k - 1, by omega⟩
      simp only [Nat.add_sub_cancel] at hlt ⊢
      simp [revT, hlt]
    refine YC.skip ?_
    refine YP.next ?_
    refine YC.seq ?_
    refine YC.block ?_
    refine YC.seq ?_
    refine YC.region ?_
    refine YL.step (OpOk.move rfl) ?_
    refine YL.step (OpOk.move rfl) ?_
    refine YL.step (OpOk.load Try.one22 rfl rfl (hst W1 hkeep').1) ?_
    refine YL.step (OpOk.move rfl) ?_
    refine YL.step (OpOk.idx (i := k - 1) Try.underlying22 Try.sz3 (hsl W1 hkeep') rfl rfl (by omega) hlt) ?_
    refine YL.step (OpOk.load Try.one3 rfl rfl ((hsl W1 hkeep').at (by omega))) ?_
    have hy := hY pre (k - 1, l[k - 1]) W1 hJ1 (by have := congrArg List.length hpre; rw [hrev] at this; simp at this; omega)
    have hval : ((l.map (·.val)).getD (k - 1) 0 : Nat) = (l[k - 1]).val := by simp [List.getD, hlt]
    refine YL.yield (l := lr) (args := (backEnc (k - 1, l[k - 1])).toArray) (OpYield.call rfl (show some [Value.int .i64 ((k : Int) - 1), Value.int .i64 (((l.map (·.val)).getD (k - 1) 0 : Nat) : Int)] = some (backEnc (k - 1, l[k - 1])) by rw [hval, show (k : Int) - 1 = ((k - 1 : Nat) : Int) by omega]; rfl)) hy ?_
    rintro z W2 (⟨rfl, hJ2, hk2⟩ | ⟨rfl, hJx2⟩)
    · refine ⟨_, rfl, ?_⟩
      refine YL.step (OpOk.not rfl) ?_
      refine YL.nil ?_
      refine YP.next ?_
      refine YC.if rfl (fun hc2 => ?_) (fun hc2 => ?_)
      · exact absurd hc2 (by simp)
      · refine YC.skip ?_
        refine YP.blockNormal ?_
        refine YP.next ?_
        refine YC.region ?_
        refine YL.step (OpOk.move rfl) ?_
        refine YL.step (OpOk.sub rfl rfl (by omega)) ?_
        refine YL.step (OpOk.assign rfl) ?_
        refine YL.nil ?_
        exact YP.again (k - 1) ⟨by omega, ⟨pre ++ [(k - 1, l[k - 1])], by rw [← hpre, hrev]; simp, hJ2⟩, fun _ j hj => (hk2 j hj).trans (hkeep' j hj)⟩ ⟨rfl, rfl, eqI (by omega), trivial⟩ (by omega)
    · refine ⟨_, rfl, ?_⟩
      refine YL.step (OpOk.not rfl) ?_
      refine YL.nil ?_
      refine YP.next ?_
      refine YC.if rfl (fun hc2 => ?_) (fun hc2 => ?_)
      · refine YC.ret ?_
        refine YP.blockRet ?_
        refine YP.thenRet ?_
        refine YP.thenRet ?_
        refine YP.blockRet ?_
        exact YP.ret0 rfl ⟨⟨_, rfl⟩, .inr ⟨_, trivial, hJx2⟩⟩
      · exact absurd hc2 (by simp)
  · refine YC.exit ?_
    refine YP.thenExit ?_
    refine YP.thenExit ?_
    refine YP.blockHere ?_
    have hk0 : k = 0 := by omega
    subst hk0
    simp only [revT, List.append_nil] at hpre
    exact YP.end0 rfl ⟨⟨_, rfl⟩, .inl ⟨pre, hpre, hJ1⟩⟩
end Go.Proofs.Ytkhphpobccnodaa
