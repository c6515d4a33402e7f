/- The places of a circle, told one by one. -/
import Derived.Test.YtcceglmmpbdhiaaWC
import Derived.Test.YtcceglmmpbdhiaaJi
namespace Go.Proofs.Ytcceglmmpbdhiaa
set_option linter.unusedVariables false
set_option linter.unusedSimpArgs false
set_option linter.unusedSectionVars false
set_option maxRecDepth 8000
open Go.JE


abbrev Pl := Fin 16400
def plEnc (q : Pl × Pl) : List Value := [.int .i64 (q.1.val : Int), .int .i64 (q.2.val : Int)]
def plP (q : Pl × Pl) : Int := (q.1.val : Int)
def plQ (q : Pl × Pl) : Int := (q.2.val : Int)
/-- c goes round from x on, by f -/
def IsRing (f : Int → Int) (x : Int) (c : List Int) : Prop :=
  0 < c.length ∧ ix c 0 = x ∧ (∀ i, i + 1 < c.length → f (ix c i) = ix c (i + 1) ∧ f (ix c i) ≠ x) ∧ f (ix c (c.length - 1)) = x
def ringL (f : Int → Int) (c : List Int) : List (Int × Int) := c.map fun p => (p, f p)
theorem ring_iter {H : Heap} {bx bm gm : Nat} {x : Int} {f : Int → Int} {c : List Int} (hb : Bx H bx 3 [.int .i64 x]) (hbm : Bx H bm 63 [.map (some gm)]) (hm : Mf H gm (.int .i64 0) (fun j => .int .i64 (f j))) (hc : IsRing f x c) {xs : List (Pl × Pl)} (hxl : xs.length = c.length) (hxs : ∀ k (h : k < xs.length), plP xs[k] = ix c k ∧ plQ xs[k] = f (ix c k)) :
    Iter Try.prog 63 #[.pointer (some ⟨bx, 0, none⟩), .pointer (some ⟨bm, 0, none⟩)] (fun q => (plEnc q).toArray) [bx, bm, gm] xs H := by
  rintro w0 rfl lr J Jx W hW hJ hJx hY h0
  obtain ⟨hc0, hcx, hcs, hce⟩ := hc
  have hst : ∀ (W' : World), (∀ k ∈ [bx, bm, gm], W'.heap[k]? = w0.heap[k]?) → Bx W'.heap bx 3 [.int .i64 x] ∧ Bx W'.heap bm 63 [.map (some gm)] ∧ Mf W'.heap gm (.int .i64 0) (fun j => .int .i64 (f j)) :=
    fun W' hk => ⟨hb.of (hk bx (by simp)), hbm.of (hk bm (by simp)), hm.of (hk gm (by simp))⟩
  have hkW : ∀ k ∈ [bx, bm, gm], W.heap[k]? = w0.heap[k]? := by
    intro k hk
    refine hW.block k ?_
    simp only [List.mem_cons, List.not_mem_nil, or_false] at hk
    rcases hk with rfl | rfl | rfl
    · exact hb.lt
    · exact hbm.lt
    · exact hm.lt
  have hW0 := hst W hkW
  have hsnoc : ∀ k (h : k < xs.length), xs.take k ++ [xs[k]] = xs.take (k + 1) := fun k hk => (List.take_succ_eq_append_getElem hk).symm
  refine YC.enter (args := [.func (.yield lr) #[] #[], .pointer (some ⟨bx, 0, none⟩), .pointer (some ⟨bm, 0, none⟩)]) Try.func63 rfl rfl rfl ?_
  refine YC.seq ?_
  refine YC.region ?_
  refine YL.step (OpOk.ldBx hW0.1 Try.one3 rfl rfl) ?_
  refine YL.step (OpOk.assign rfl) ?_
  refine YL.nil ?_
  refine YP.next ?_
  refine YC.block ?_
  refine YC.loop (ι := Nat) (fun k W' => k < c.length ∧ J (xs.take k) W' ∧ (∀ k ∈ [bx, bm, gm], W'.heap[k]? = w0.heap[k]?))
    (fun k => [(0, .func (.yield lr) #[] #[]), (1, .pointer (some ⟨bx, 0, none⟩)), (2, .pointer (some ⟨bm, 0, none⟩)), (4, .int .i64 (ix c k))]) (fun k => c.length - k) 0 ⟨hc0, h0, hkW⟩ ⟨rfl, rfl, rfl, eqI hcx.symm, trivial⟩ ?_
  rintro k W1 ⟨hk, hJ1, hkeep⟩
  have hW1 := hst W1 hkeep
  refine YC.seq ?_
  refine YC.block ?_
  refine YC.seq ?_
  refine YC.region ?_
  refine YL.step (OpOk.move rfl) ?_
  refine YL.step (OpOk.move rfl) ?_
  refine YL.step (OpOk.ldBx hW1.2.1 Try.one63 rfl rfl) ?_
  refine YL.step (OpOk.move rfl) ?_
  refine YL.step (OpOk.lookupF Try.underlying63 Try.underlying3 Try.zero3 hW1.2.2 rfl rfl) ?_
  have hkx : k < xs.length := by omega
  have hy := hY (xs.take k) xs[k] W1 hJ1 (by rw [List.length_take]; omega)
  refine YL.yield (l := lr) (args := (plEnc xs[k]).toArray) (OpYield.call rfl (show some [Value.int .i64 (ix c k), Value.int .i64 (f (ix c k))] = some (plEnc xs[k]) by rw [← (hxs k hkx).2, ← (hxs k hkx).1]; rfl)) hy ?_
  rintro z W2 (⟨rfl, hJ2, hk2⟩ | ⟨rfl, hJx2⟩)
  · have hkeep2 : ∀ j ∈ [bx, bm, gm], W2.heap[j]? = w0.heap[j]? := fun j hj => (hk2 j hj).trans (hkeep j hj)
    have hW2 := hst W2 hkeep2
    rw [hsnoc k hkx] at hJ2
    refine ⟨_, rfl, ?_⟩
    refine YL.step (OpOk.not rfl) ?_
    refine YL.step (OpOk.move rfl) ?_
    refine YL.gstep rfl rfl (.f _) (fun hg => OpOk.ldBx hW2.2.1 Try.one63 rfl rfl) ?_
    refine YL.gstep rfl rfl (.f _) (fun hg => OpOk.move rfl) ?_
    refine YL.gstep rfl rfl (.f _) (fun hg => OpOk.lookupF Try.underlying63 Try.underlying3 Try.zero3 hW2.2.2 (evg rfl hg) (evg rfl hg)) ?_
    refine YL.gstep rfl rfl (.f _) (fun hg => OpOk.ldBx hW2.1 Try.one3 rfl rfl) ?_
    refine YL.gstep rfl rfl (.f _) (fun hg => OpOk.eql (evg rfl hg) (evg rfl hg)) ?_
    refine YL.step (OpOk.pickOr rfl rfl) ?_
    refine YL.nil ?_
    refine YP.next ?_
    refine YC.if rfl (fun hc2 => ?_) (fun hc2 => ?_)
    · have hx2 : f (ix c k) = x := by simpa using hc2
      have hlast : k + 1 = c.length := by
        rcases Nat.lt_or_ge (k + 1) c.length with h9 | h9
        · exact absurd hx2 (hcs k h9).2
        · omega
      rw [List.take_of_length_le (by omega)] at hJ2
      refine YC.ret ?_
      refine YP.blockRet ?_
      refine YP.thenRet ?_
      refine YP.thenRet ?_
      refine YP.blockRet ?_
      exact YP.ret0 rfl ⟨⟨_, rfl⟩, .inl ⟨_, rfl, hJ2⟩⟩
    · have hx2 : ¬ f (ix c k) = x := by simpa using hc2
      have hlast : k + 1 < c.length := by
        rcases Nat.lt_or_ge (k + 1) c.length with h9 | h9
        · exact h9
        · rw [show k = c.length - 1 by omega] at hx2; exact absurd hce hx2
      refine YC.skip ?_
      refine YP.blockNormal ?_
      refine YP.next ?_
      refine YC.region ?_
      refine YL.step (OpOk.ldBx hW2.2.1 Try.one63 rfl rfl) ?_
      refine YL.step (OpOk.move rfl) ?_
      refine YL.step (OpOk.lookupF Try.underlying63 Try.underlying3 Try.zero3 hW2.2.2 rfl rfl) ?_
      refine YL.step (OpOk.assign rfl) ?_
      refine YL.nil ?_
      exact YP.again (k + 1) ⟨hlast, hJ2, hkeep2⟩ ⟨rfl, rfl, rfl, eqI (hcs k hlast).1, trivial⟩ (by omega)
  · refine ⟨_, rfl, ?_⟩
    refine YL.step (OpOk.not rfl) ?_
    refine YL.step (OpOk.move rfl) ?_
    refine YL.gstep (v := undef) rfl rfl (.f _) (fun hg => absurd hg (by decide)) ?_
    refine YL.gstep (v := undef) rfl rfl (.f _) (fun hg => absurd hg (by decide)) ?_
    refine YL.gstep (v := undef) rfl rfl (.f _) (fun hg => absurd hg (by decide)) ?_
    refine YL.gstep (v := undef) rfl rfl (.f _) (fun hg => absurd hg (by decide)) ?_
    refine YL.gstep (v := .bool false) rfl rfl (.f _) (fun hg => absurd hg (by decide)) ?_
    refine YL.step (OpOk.pickOr rfl rfl) ?_
    refine YL.nil ?_
    refine YP.next ?_
    refine YC.if rfl (fun hc2 => ?_) (fun hc2 => ?_)
    · refine YC.ret ?_
      refine YP.blockRet ?_
      refine YP.thenRet ?_
      refine YP.thenRet ?_
      refine YP.blockRet ?_
      exact YP.ret0 rfl ⟨⟨_, rfl⟩, .inr ⟨_, trivial, hJx2⟩⟩
    · exact absurd hc2 (by simp)

end Go.Proofs.Ytcceglmmpbdhiaa
