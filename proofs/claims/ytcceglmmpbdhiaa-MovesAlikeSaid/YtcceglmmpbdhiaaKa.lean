/- The walking engine: loops over functions whose bodies let rows grow; marks. Conditions: each rule names its own; lemmas over any program. -/
import Derived.Test.YtcceglmmpbdhiaaJz
import Derived.Test.YtcceglmmpbdhiaaJi
namespace Go.JE
set_option linter.unusedVariables false
set_option linter.unusedSimpArgs false
set_option linter.unusedSectionVars false
variable {P : Program} {n : Fs} {w0 : World} {Q : Exit → Act → World → Prop} {e : Env} {H : Heap}

/-- what an iterator may turn: blocks from N on that are no cells -/
def Cg (N : Nat) (H1 H2 : Heap) : Prop := H1.size ≤ H2.size ∧ ∀ k o, H1[k]? = some o → (k < N ∨ o.isCells = true) → H2[k]? = some o
section
variable {N : Nat} {H1 H2 : Heap}
theorem InH.cg {F : PH} (h : InH F H1) (hF : InH F H) (c : Cg H.size H1 H2) : InH F H2 := fun k o hk => c.2 k o (h k o hk) (.inl (hF.lt hk))
theorem Bx.cg {g : Nat} {T : TypeId} {l : List Value} (h : Bx H1 g T l) (c : Cg N H1 H2) : Bx H2 g T l := c.2 g _ h (.inr rfl)
theorem Gl.cg {α : Type} {r : Rp α} {E : TypeId} {F : PH} {B : Nat} {v : Value} {l : List α} (h : Gl r E F H1 B v l) (c : Cg N H1 H2) : Gl r E F H2 B v l := by
  refine h.of fun k hk => ?_
  obtain ⟨xs, hr, _⟩ := h
  rcases hr.2 with ⟨e1, _⟩ | ⟨g, cap, cur, e1, _, hg, _⟩
  · rw [e1] at hk; cases hk
  · rw [e1] at hk
    have hgk : g = k := by injection hk
    subst hgk
    rw [hg, c.2 g _ hg (.inr rfl)]
theorem Mf.cg {g : Nat} {z : Value} {f : Int → Value} (h : Mf H1 g z f) (hg : g < N) (c : Cg N H1 H2) : Mf H2 g z f := by
  refine h.of ?_
  have := h.lt
  rw [c.2 g _ (Array.getElem?_eq_getElem this) (.inl hg), Array.getElem?_eq_getElem this]
theorem Kw.cg {W : Nat → Prop} {H0 : Heap} (h : Kw W H0 H1) (hs : H0.size ≤ N) (c : Cg N H1 H2) : Kw W H0 H2 := by
  refine ⟨Nat.le_trans h.1 c.1, fun k hk hw => ?_⟩
  rw [← h.2 k hk hw]
  have : k < H1.size := Nat.lt_of_lt_of_le hk h.1
  rw [c.2 k _ (Array.getElem?_eq_getElem this) (.inl (by omega)), Array.getElem?_eq_getElem this]
theorem Kp.cg {B : Nat} {H0 : Heap} (h : Kp B H0 H1) (hB : B ≤ H0.size) (hs : H0.size ≤ N) (c : Cg N H1 H2) : Kp B H0 H2 := by
  refine ⟨Nat.le_trans h.1 c.1, fun k hk => ?_⟩
  rw [← h.2 k hk]
  have : k < H1.size := by have := h.1; omega
  rw [c.2 k _ (Array.getElem?_eq_getElem this) (.inl (by omega)), Array.getElem?_eq_getElem this]
end

/-- a mark: a block for calls put off, none there -/
def Mk (H : Heap) (D : Nat) : Prop := H[D]? = some (.deferred (some []))
section
variable {D : Nat} {H' : Heap}
theorem Mk.lt (h : Mk H D) : D < H.size := (Array.getElem?_eq_some_iff.1 h).1
theorem Mk.of (h : Mk H D) (hb : H'[D]? = H[D]?) : Mk H' D := by unfold Mk at *; rw [hb]; exact h
theorem Mk.kp {B : Nat} (h : Mk H D) (hk : Kp B H H') (hb : D < B) : Mk H' D := h.of (hk.2 D hb)
theorem Mk.neBx {T : TypeId} {l : List Value} {c : Nat} (h : Mk H D) (h' : Bx H c T l) : D ≠ c := by
  rintro rfl; unfold Mk at h; unfold Bx at h'; rw [h] at h'; cases h'
theorem Mk.neGl {α : Type} {r : Rp α} {E : TypeId} {F : PH} {B : Nat} {v : Value} {l : List α} (h : Mk H D) (h' : Gl r E F H B v l) : v.ownBlock ≠ some D := by
  intro hk
  obtain ⟨xs, hr, _⟩ := h'
  rcases hr.2 with ⟨h9, _⟩ | ⟨c, cap, cur, e1, _, hb, _⟩
  · rw [h9] at hk; cases hk
  · rw [e1] at hk
    have hcb : c = D := by injection hk
    unfold Mk at h
    rw [hcb, h] at hb; cases hb
theorem Mk.neMf {g : Nat} {z : Value} {f : Int → Value} (h : Mk H D) (h' : Mf H g z f) : D ≠ g := by
  rintro rfl
  obtain ⟨L, ⟨es, c, h1, _⟩, _⟩ := h'
  unfold Mk at h; rw [h] at h1; cases h1
theorem Mk.cg {N : Nat} {H2 : Heap} (h : Mk H D) (hg : D < N) (c : Cg N H H2) : Mk H2 D := c.2 D _ h (.inl hg)
end

/-- what is no cells, from N on, is as it was -/
def Nc (N : Nat) (H1 H2 : Heap) : Prop := ∀ k o, N ≤ k → H1[k]? = some o → o.isCells = false → H2[k]? = some o
section
variable {N : Nat} {H1 H2 H3 : Heap}
theorem Nc.start {A B : Heap} (h : A.size ≤ B.size) : Nc A.size B B := fun _ _ _ h _ => h
theorem Nc.refl (N : Nat) (H : Heap) : Nc N H H := fun _ _ _ h _ => h
theorem Nc.kp (h : Nc N H1 H2) (hk : Kp H2.size H2 H3) : Nc N H1 H3 := fun k o hN h1 ho => by
  have := h k o hN h1 ho
  rw [hk.2 k (Array.getElem?_eq_some_iff.1 this).1]; exact this
theorem Nc.tw {g : Nat} {T : TypeId} {l : List Value} (h : Nc N H1 H2) (ht : Tw g H2 H3) (hb : Bx H2 g T l) : Nc N H1 H3 := fun k o hN h1 ho => by
  have h2 := h k o hN h1 ho
  rw [ht.2 k ?_]; exact h2
  rintro rfl; unfold Bx at hb; rw [hb] at h2; injection h2 with h2; subst h2; cases ho
theorem Nc.kw {W : Nat → Prop} (h : Nc N H1 H2) (hk : Kw W H2 H3) (hw : ∀ k o, N ≤ k → H2[k]? = some o → W k → o.isCells = true) : Nc N H1 H3 := fun k o hN h1 ho => by
  have h2 := h k o hN h1 ho
  rw [hk.2 k (Array.getElem?_eq_some_iff.1 h2).1 ?_]; exact h2
  intro h9
  rw [hw k o hN h2 h9] at ho; cases ho
theorem Bx.isc {g : Nat} {T : TypeId} {l : List Value} (hb : Bx H g T l) {o : Obj} (h : H[g]? = some o) : o.isCells = true := by unfold Bx at hb; rw [hb] at h; injection h with h; subst h; rfl
theorem Gl.isc {α : Type} {r : Rp α} {E : TypeId} {F : PH} {B : Nat} {v : Value} {l : List α} (hg : Gl r E F H B v l) {k : Nat} (hk : v.ownBlock = some k) {o : Obj} (h : H[k]? = some o) : o.isCells = true := by
  obtain ⟨xs, hr, _⟩ := hg
  rcases hr.2 with ⟨h9, _⟩ | ⟨c, cap, cur, e1, _, hb, _⟩
  · rw [h9] at hk; cases hk
  · rw [e1] at hk
    have hcb : c = k := by injection hk
    rw [hcb, h] at hb; injection hb with hb; subst hb; rfl
end

/-- how a round's body ends -/
def RQC {α : Type} (w0 : World) (H : Heap) (bl : List Nat) (inv : List α → Heap → Prop) (ys : List α) (Hs : Heap) : Exit → Act → World → Prop
  | .normal, _, w => Wd w0 w.heap w ∧ Hs.size ≤ w.heap.size ∧ Nc H.size Hs w.heap ∧ (∀ k ∈ bl, w.heap[k]? = Hs[k]?) ∧ inv ys w.heap
  | _, _, _ => False
theorem PF.roundC {α : Type} {bl : List Nat} {inv : List α → Heap → Prop} {ys : List α} {Hs H' : Heap} (h1 : Hs.size ≤ H'.size) (h2 : Nc H.size Hs H') (h3 : ∀ k ∈ bl, H'[k]? = Hs[k]?) (h4 : inv ys H') :
    PF n w0 (RQC w0 H bl inv ys Hs) e .normal H' := by
  intro a w hf hw
  rw [← hw.heap] at h1 h2 h3 h4
  exact ⟨⟨rfl, hw.os, hw.tape, hw.output⟩, h1, h2, h3, h4⟩

theorem CF.rangeFuncC {α : Type} {g : Operand} {ps : List Nat} {assign body : Code} {gf : Nat} {lb : Array Value} {encs : α → List Value} {bl : List Nat} {xs : List α} (envx : α → Env)
    (inv : List α → Heap → Prop) (hg : ev e g = some (.func (.func gf) #[] lb)) (hE : Ent P gf) (hit : Iter P gf lb (fun x => (encs x).toArray) bl xs H) (hbl : ∀ k ∈ bl, k < H.size) (hlen : ∀ x, (encs x).length = ps.length)
    (hps : ps.all (fun p => Nat.blt p n.sz) = true)
    (hinv : ∀ pre H1 H2, inv pre H1 → Cg H.size H1 H2 → inv pre H2) (h0 : inv [] H)
    (hassign : ∀ (l : Nat) (x : α) (H' : Heap), RCF P ⟨n.sz, []⟩ w0 (some l) 1 (AQ ⟨n.sz, []⟩ w0 (envx x) H') (laid e ps (encs x)) assign H')
    (hbody : ∀ (l : Nat) (pre : List α) (x : α) (H' : Heap), inv pre H' → pre.length < xs.length → H.size ≤ H'.size → RCF P ⟨n.sz, []⟩ w0 (some l) 1 (RQC w0 H bl inv (pre ++ [x]) H') (envx x) body H')
    (hdone : ∀ (D : Nat) (H' : Heap), inv xs H' → H.size ≤ D → H.size ≤ H'.size → Mk H' D → PF (n.mark D) w0 Q e .normal H') :
    CF P n w0 Q e (.rangeFunc g ps.toArray assign body) H := by
  refine RCF.out (m := 3) fun a w hf hw => ?_
  have hw' := hw.heap
  have hB : w.heap.size = H.size := by rw [hw']
  refine wpIn_rangeFunc_ownH (α := α) (F := RW none) (n := 3) (gf := gf) (lb := lb) (encs := fun x => (encs x).toArray) (Kp := KeepsB bl) (S := fun ys => ys = xs) (Sp := fun _ => True) (N := xs.length) (w0 := w)
    rfl (by decide) (hf.ev hg) trivial (fun args w => hE.run args w) (hit w hw') (fun h1 h2 k hk => (h2 k hk).trans (h1 k hk))
    (fun W l o o' hl ho _ _ k hk => World.putObj_heap_other (by have := hbl k hk; omega)) (RowKit.Below.refl _ _) (fun x => by simp [hlen])
    (fun pre W => Wd w0 W.heap W ∧ H.size ≤ W.heap.size ∧ inv pre W.heap) (fun _ _ _ => False) ?own (fun _ _ _ _ _ h _ _ => h) ⟨⟨rfl, hw.os, hw.tape, hw.output⟩, by omega, by rw [hw']; exact h0⟩
    (fun x a' _ => Fr ⟨n.sz, []⟩ (envx x) a') (fun _ _ _ _ _ _ h _ _ => h) ?assign ?body ?done ?stop
  case own =>
    rintro pre W W' row ⟨h1, h2, h3⟩ hg' hr
    refine ⟨⟨rfl, hg'.os.trans h1.os, hg'.tape.trans h1.tape, hg'.output.trans h1.output⟩, Nat.le_trans h2 hg'.size, hinv pre _ _ h3 ⟨hg'.size, fun k o hk hc => ?_⟩⟩
    refine (hg'.block k (Array.getElem?_eq_some_iff.1 hk).1 (fun e1 => ?_)).trans hk
    obtain ⟨h5, o', h6, h7⟩ := hr k e1.symm
    rcases hc with hc | hc
    · omega
    · rw [hk] at h6; injection h6 with h6; subst h6; rw [hc] at h7; cases h7
  case assign =>
    rintro l pre x W K ⟨h1, h2, h3⟩ hK
    have hfr : Fr ⟨n.sz, []⟩ (laid e ps (encs x)) { tmps := (ps.toArray.zip (encs x).toArray).foldl (fun t p => t.setIfInBounds p.1 p.2) a.tmps, defers := [] } := by
      have := laid_fr ps (encs x) e a.tmps hps ⟨hf.size, rfl, hf.get⟩
      simpa using this
    refine wpIn_mono (hassign l x W.heap _ W hfr h1) ?_
    intro z a' W' hz
    cases z with
    | normal =>
      obtain ⟨h4, h5⟩ := hz
      have h6 : W'.heap = W.heap := h5.heap
      exact hK a' W' ⟨by rw [h6]; exact Nat.le_refl _, fun k o _ hk _ => by rw [h6]; exact hk⟩ (fun k _ => by rw [h6]) ⟨⟨rfl, h5.os, h5.tape, h5.output⟩, by rw [h6]; exact h2, by rw [h6]; exact h3⟩ h4
    | _ => exact hz
  case body =>
    rintro l pre x a' W _ _ ⟨h1, h2, h3⟩ hfr hlt
    refine wpIn_mono (hbody l pre x W.heap h3 hlt h2 a' W hfr h1) ?_
    intro z a2 W' hz
    cases z with
    | normal =>
      obtain ⟨h4, h5, h6, h7, h8⟩ := hz
      exact ⟨⟨h5, fun k o hk ho hc => h6 k o (by omega) ho hc⟩, h7, h4, Nat.le_trans h2 h5, h8⟩
    | _ => exact hz.elim
  case done =>
    rintro D ys W hD rfl ⟨h1, h2, h3⟩ hK
    exact hdone D W.heap h3 (by omega) h2 hK _ W ⟨hf.size, by simp [hf.defers], hf.get⟩ h1
  case stop =>
    rintro D c pre W _ _ h _
    exact h.elim

/- ---------------------------------------------- a return with marks -/
def Fs.marks (n : Fs) (Ds : List Nat) : Fs := ⟨n.sz, Ds.map (fun D => { target := .collected D, args := #[] }) ++ n.ds⟩
def putos : Heap → List Nat → Heap
  | H, [] => H
  | H, D :: Ds => putos (puto H D (.deferred none)) Ds
theorem Fs.marks_cons (D : Nat) (Ds : List Nat) : Fs.mark (Fs.marks n Ds) D = Fs.marks n (D :: Ds) := rfl
theorem Fs.marks_nil : Fs.marks n [] = n := rfl
section
variable {fn : Func} {R : Value → Heap → Prop}
theorem leavesMs {tmps : Array Value} {RR : Ending → World → Prop} : ∀ (Ds : List Nat) (w : World), Ds.Nodup → (∀ D ∈ Ds, Mk w.heap D) →
    (∀ w' : World, w'.heap = putos w.heap Ds → w'.os = w.os → w'.tape = w.tape → w'.output = w.output → LeavesInM Fence.wide 3 P fn tmps RR [] .returning w') →
    LeavesInM Fence.wide 3 P fn tmps RR (Ds.map (fun D => { target := .collected D, args := #[] })) .returning w
  | [], w, _, _, h => h w rfl rfl rfl rfl
  | D :: Ds, w, hn, hD, h => by
    have hD1 : w.heap[D]? = some (.deferred (some [])) := hD D (List.mem_cons_self ..)
    refine ⟨by simp, .inl ⟨_, _, rfl, run_takeDeferred hD1, ?_⟩⟩
    refine leavesMs Ds _ (List.nodup_cons.1 hn).2 (fun E hE => ?_) (fun w' h1 h2 h3 h4 => h w' h1 h2 h3 h4)
    have hne : E ≠ D := fun e1 => (List.nodup_cons.1 hn).1 (e1 ▸ hE)
    exact (hD E (List.mem_cons_of_mem _ hE)).of (World.putObj_heap_other hne)
theorem PF.ret0Ms {m : Nat} {Ds : List Nat} (hr : fn.results = #[]) (hn : Ds.Nodup) (hD : ∀ D ∈ Ds, Mk H D) (hR : R (.tuple #[]) (putos H Ds)) : PF (Fs.marks ⟨m, []⟩ Ds) w0 (BQM P fn w0 R) e .ret H := by
  intro a w hf hw
  have hd : a.defers = Ds.map (fun D => { target := .collected D, args := #[] }) := by rw [hf.defers]; simp [Fs.marks]
  show LeavesInM Fence.wide 3 P fn a.tmps _ a.defers .returning w
  rw [hd]
  refine leavesMs Ds w hn (fun D h => by rw [hw.heap]; exact hD D h) fun w' h1 h2 h3 h4 => ?_
  refine ⟨.tuple #[], results_none hr _ _ _, ?_⟩
  exact ⟨_, rfl, h2.trans hw.os, h3.trans hw.tape, h4.trans hw.output, by rw [h1, hw.heap]; exact hR⟩
theorem PF.end0Ms {m : Nat} {Ds : List Nat} (hr : fn.results = #[]) (hn : Ds.Nodup) (hD : ∀ D ∈ Ds, Mk H D) (hR : R (.tuple #[]) (putos H Ds)) : PF (Fs.marks ⟨m, []⟩ Ds) w0 (BQM P fn w0 R) e .normal H :=
  fun a w hf hw => PF.ret0Ms hr hn hD hR a w hf hw
theorem PF.ret2Ms {m t1 t2 : Nat} {v1 v2 : Value} {Ds : List Nat} (hr : fn.results = #[.tmp t1, .tmp t2]) (hv1 : lk e t1 = some v1) (hv2 : lk e t2 = some v2) (hn : Ds.Nodup) (hD : ∀ D ∈ Ds, Mk H D) (hR : R (.tuple #[v1, v2]) (putos H Ds)) :
    PF (Fs.marks ⟨m, []⟩ Ds) w0 (BQM P fn w0 R) e .ret H := by
  intro a w hf hw
  have hd : a.defers = Ds.map (fun D => { target := .collected D, args := #[] }) := by rw [hf.defers]; simp [Fs.marks]
  show LeavesInM Fence.wide 3 P fn a.tmps _ a.defers .returning w
  rw [hd]
  refine leavesMs Ds w hn (fun D h => by rw [hw.heap]; exact hD D h) fun w' h1 h2 h3 h4 => ?_
  refine ⟨.tuple #[v1, v2], ?_, ?_⟩
  · rw [results_tmp2 hr, hf.get t1 v1 hv1, hf.get t2 v2 hv2]
  · exact ⟨_, rfl, h2.trans hw.os, h3.trans hw.tape, h4.trans hw.output, by rw [h1, hw.heap]; exact hR⟩
/-- behind the marks that are taken all else is as it was -/
theorem putos_size : ∀ (Ds : List Nat) (H : Heap), (putos H Ds).size = H.size
  | [], _ => rfl
  | D :: Ds, H => by rw [putos, putos_size]; simp [puto]
theorem putos_other : ∀ (Ds : List Nat) (H : Heap) {k : Nat}, k ∉ Ds → (putos H Ds)[k]? = H[k]?
  | [], _, _, _ => rfl
  | D :: Ds, H, k, h => by
    rw [putos, putos_other Ds _ (fun h9 => h (List.mem_cons_of_mem _ h9))]
    unfold puto
    exact Array.getElem?_setIfInBounds_ne (fun e1 => h (by rw [e1]; exact List.mem_cons_self ..))
theorem Bx.putos {g : Nat} {T : TypeId} {l : List Value} {Ds : List Nat} (h : Bx H g T l) (hD : ∀ D ∈ Ds, Mk H D) : Bx (putos H Ds) g T l := h.of (putos_other _ _ fun h9 => (hD g h9).neBx h rfl)
theorem Gl.putos {α : Type} {r : Rp α} {E : TypeId} {F : PH} {B : Nat} {v : Value} {l : List α} {Ds : List Nat} (h : Gl r E F H B v l) (hD : ∀ D ∈ Ds, Mk H D) : Gl r E F (putos H Ds) B v l :=
  h.of fun k hk => putos_other _ _ fun h9 => (hD k h9).neGl h hk
theorem Mf.putos {g : Nat} {z : Value} {f : Int → Value} {Ds : List Nat} (h : Mf H g z f) (hD : ∀ D ∈ Ds, Mk H D) : Mf (putos H Ds) g z f := h.of (putos_other _ _ fun h9 => (hD g h9).neMf h rfl)
theorem InH.putos {F : PH} {Ds : List Nat} (h : InH F H) (hD : ∀ D ∈ Ds, F D = Option.none) : InH F (putos H Ds) := h.of fun k o hk => putos_other _ _ fun h9 => by rw [hD k h9] at hk; cases hk
theorem Kw.putos {W : Nat → Prop} {H0 : Heap} {Ds : List Nat} (h : Kw W H0 H) (hD : ∀ D ∈ Ds, H0.size ≤ D) : Kw W H0 (putos H Ds) :=
  ⟨by rw [putos_size]; exact h.1, fun k hk hw => (putos_other _ _ fun h9 => by have := hD k h9; omega).trans (h.2 k hk hw)⟩
theorem Kp.putos {B : Nat} {H0 : Heap} {Ds : List Nat} (h : Kp B H0 H) (hD : ∀ D ∈ Ds, B ≤ D) : Kp B H0 (putos H Ds) :=
  ⟨by rw [putos_size]; exact h.1, fun k hk => (putos_other _ _ fun h9 => by have := hD k h9; omega).trans (h.2 k hk)⟩
end
theorem all_nil {p : Nat → Prop} : ∀ D ∈ ([] : List Nat), p D := fun _ h => by cases h
theorem all_cons {p : Nat → Prop} {D : Nat} {Ds : List Nat} (h : p D) (t : ∀ D ∈ Ds, p D) : ∀ E ∈ D :: Ds, p E := fun E hE => by
  rcases List.mem_cons.1 hE with rfl | hE
  · exact h
  · exact t E hE
/- ---------------------------------------------- a loop that leaves marks -/
section
variable {x : Code}
def AgainM {ι : Type} (n : Fs) (w0 : World) (inv : ι → Heap → Prop) (env : ι → Env) (ds : ι → List Nat) (μ : ι → Nat) (i : ι) (a : Act) (w : World) : Prop :=
  ∃ j, inv j w.heap ∧ Fr (Fs.marks n (ds j)) (env j) a ∧ Wd w0 w.heap w ∧ μ j < μ i
theorem CF.loopM {ι : Type} (inv : ι → Heap → Prop) (env : ι → Env) (ds : ι → List Nat) (μ : ι → Nat) (i0 : ι) (h0 : inv i0 H) (hd : ds i0 = []) (hs : Sub e (env i0))
    (round : ∀ i H', inv i H' → CF P (Fs.marks n (ds i)) w0 (Exit.then (AgainM n w0 inv env ds μ i) Q) (env i) x H') : CF P n w0 Q e (.loop x) H := by
  intro a w hf hw
  have hf0 : Fr (Fs.marks n (ds i0)) e a := by rw [hd]; exact hf
  refine wp_loop_ghost (fun m a w => ∃ i, μ i = m ∧ inv i w.heap ∧ Fr (Fs.marks n (ds i)) (env i) a ∧ Wd w0 w.heap w) (μ i0) ⟨i0, rfl, hw.heap ▸ h0, hf0.sub hs, ⟨rfl, hw.os, hw.tape, hw.output⟩⟩ ?_
  rintro m a w ⟨i, hm, hi, hfi, hwi⟩
  refine wp_mono (round i w.heap hi a w hfi hwi) ?_
  intro x a' w' hq
  cases x with
  | normal => obtain ⟨j, h1, h2, h3, h4⟩ := hq; exact ⟨μ j, hm ▸ h4, j, rfl, h1, h2, h3⟩
  | _ => exact hq
theorem PF.againM {ι : Type} {inv : ι → Heap → Prop} {env : ι → Env} {ds : ι → List Nat} {μ : ι → Nat} {i : ι} {m : Fs} (j : ι) (hm0 : m = Fs.marks n (ds j)) (hj : inv j H) (hs : Sub e (env j)) (hm : μ j < μ i) :
    PF m w0 (Exit.then (AgainM n w0 inv env ds μ i) Q) e .normal H := by
  subst hm0
  intro a w hf hw
  exact ⟨j, hw.heap ▸ hj, hf.sub hs, ⟨rfl, hw.os, hw.tape, hw.output⟩, hm⟩
end
theorem Bx.same {H' : Heap} {g : Nat} {T : TypeId} {l : List Value} (h : Bx H' g T l) (h2 : Bx H g T l) : H'[g]? = H[g]? := by unfold Bx at h h2; rw [h, h2]
theorem keep3 {H' : Heap} {g1 g2 g3 : Nat} {T1 T2 : TypeId} {l1 l2 : List Value} (a : Bx H' g1 T1 l1) (a' : Bx H g1 T1 l1) (b : Bx H' g2 T2 l2) (b' : Bx H g2 T2 l2) (c : H'[g3]? = H[g3]?) : ∀ k ∈ [g1, g2, g3], H'[k]? = H[k]? := by
  intro k hk
  simp only [List.mem_cons, List.not_mem_nil, or_false] at hk
  rcases hk with rfl | rfl | rfl
  · exact a.same a'
  · exact b.same b'
  · exact c
/- ---------------------------------------------- a walk over a map -/
def Ir (H : Heap) (r : Nat) : Prop := ∃ a b c d, H[r]? = some (.mapIter a b c d)
section
variable {r : Nat} {H' : Heap}
theorem Ir.lt (h : Ir H r) : r < H.size := by obtain ⟨a, b, c, d, h⟩ := h; exact (Array.getElem?_eq_some_iff.1 h).1
theorem Ir.of (h : Ir H r) (hb : H'[r]? = H[r]?) : Ir H' r := by obtain ⟨a, b, c, d, h⟩ := h; exact ⟨a, b, c, d, hb.trans h⟩
theorem Ir.kp {B : Nat} (h : Ir H r) (hk : Kp B H H') (hb : r < B) : Ir H' r := h.of (hk.2 r hb)
theorem Ir.neBx {T : TypeId} {l : List Value} {c : Nat} (h : Ir H r) (h' : Bx H c T l) : r ≠ c := by
  rintro rfl; obtain ⟨a, b, c, d, h⟩ := h; unfold Bx at h'; rw [h] at h'; cases h'
theorem Ir.neGl {α : Type} {rr : Rp α} {E : TypeId} {F : PH} {B : Nat} {v : Value} {l : List α} (h : Ir H r) (h' : Gl rr E F H B v l) : v.ownBlock ≠ some r := by
  intro hk
  obtain ⟨xs, hr, _⟩ := h'
  obtain ⟨a, b, c, d, h⟩ := h
  rcases hr.2 with ⟨h9, _⟩ | ⟨c, cap, cur, e1, _, hb, _⟩
  · rw [h9] at hk; cases hk
  · rw [e1] at hk
    have hcb : c = r := by injection hk
    rw [hcb, h] at hb; cases hb
theorem It.ir {b : Nat} {L : List (Int × Value)} {vis : List Int} (h : It H r b L vis) : Ir H r := by obtain ⟨es, c, seen, h1, h2, h3, _⟩ := h; exact ⟨_, _, _, _, h3⟩
end
theorem OpCh.rangeB {T K E : TypeId} {x : Operand} {b : Nat} {L : List (Int × Value)} (hT : P.underlying T = some (.map K E)) (hm : Im H b L) (hx : ev e x = some (.map (some b))) :
    OpCh P e (.range T x) H (fun u H' => ∃ g, u = .pointer (some ⟨g, 0, none⟩) ∧ g = H.size ∧ H'.size = H.size + 1 ∧ Kp H.size H H' ∧ It H' g b L []) :=
  OpCh.imp (OpCh.range hT hm hx) fun _ H' ⟨h1, h2, h3, h4⟩ => ⟨H.size, h1, rfl, h3, ⟨by omega, h4⟩, h2⟩
/-- a mark becomes part of what stands still -/
theorem markF {F : PH} {D : Nat} (hin : InH F H) (hmk : Mk H D) (hD : F D = Option.none) : ∃ G : PH, F.le G ∧ InH G H ∧ G D = some (.deferred (some [])) ∧ ∀ k, k ≠ D → G k = F k := by
  refine ⟨fun k => if k = D then some (.deferred (some [])) else F k, fun k o hk => ?_, fun k o hk => ?_, by simp, fun k hk => by simp [hk]⟩
  · by_cases e : k = D
    · subst e; rw [hD] at hk; cases hk
    · simp [e, hk]
  · by_cases e : k = D
    · subst e; simp at hk; rw [← hk]; exact hmk
    · simp [e] at hk; exact hin k o hk
theorem Gl.reF {α : Type} {r : Rp α} {E : TypeId} {F G : PH} {B : Nat} {v : Value} {l : List α} (h : Gl r E F H B v l) (hl : F.le G) (hn : ∀ k, v.ownBlock = some k → G k = F k) : Gl r E G H B v l := by
  obtain ⟨xs, h1, h2, h3⟩ := h
  exact ⟨xs, h1, fun k hk => (hn k hk).trans (h2 k hk), fun i hi => r.up hl (h3 i hi)⟩
theorem Im.toMf {g : Nat} {z : Value} {f : Int → Value} {L : List (Int × Value)} (h : Im H g L) (hf : ∀ k, (lkM L k).getD z = f k) : Mf H g z f := ⟨L, h, hf⟩
theorem upM_new {L : List (Int × Value)} {k : Int} (h : k ∉ L.map (·.1)) (v : Value) : upM L k v = L ++ [(k, v)] := by
  induction L with
  | nil => rfl
  | cons a r ih =>
    simp only [List.map_cons, List.mem_cons, not_or] at h
    have := ih h.2
    unfold upM
    rw [if_neg (fun e => h.1 (by first | exact e.symm | exact e | (simp at e; exact e.symm)))]
    rw [this]; rfl
theorem PH.ext.mark {F0 F G : PH} {D : Nat} (hx : PH.ext H F0 F) (hl : F.le G) (hn : ∀ k, k ≠ D → G k = F k) (hD : H.size ≤ D) : PH.ext H F0 G :=
  ⟨hx.1.trans hl, fun k hk => (hn k (by omega)).trans (hx.2 k hk)⟩
section
variable {P : Program} {e : Env} {H : Heap}
/-- two structs of two numbers, held against each other -/
structure St2 (P : Program) (T : TypeId) (k : IntKind) : Prop where
  und : ∃ f0 f1, P.underlying T = some (.struct #[f0, f1]) ∧ f0.name ≠ "_" ∧ f1.name ≠ "_" ∧ f0.offset = 0 ∧ f1.offset = 1 ∧ P.underlying f0.type = some (.int k) ∧ P.underlying f1.type = some (.int k)
  stood : P.stoodInHeld T = false
  guard : P.eqGuardType P.depth T = false
theorem equalIn_int {T : TypeId} {k : IntKind} {a b : Int} (hT : P.underlying T = some (.int k)) (d : Nat) (w : World) : (Op.equalIn (d + 1) T (.int k a) (.int k b)).run P w = .ok (a == b) w := by
  simp only [Op.equalIn, Sem.run_bind, run_underlying hT, Result.andThen_ok]; simp
theorem equalIn_st2 {T : TypeId} {k : IntKind} {a b c d : Int} (h : St2 P T k) (n : Nat) (w : World) : (Op.equalIn (n + 2) T (.agg #[.int k a, .int k b]) (.agg #[.int k c, .int k d])).run P w = .ok (decide (a = c ∧ b = d)) w := by
  obtain ⟨⟨f0, f1, hu, n0, n1, o0, o1, u0, u1⟩, hs, _⟩ := h
  have q0 : (isAgg f0.type).run P w = .ok false w := by simp [isAgg, run_underlying u0]
  have q1 : (isAgg f1.type).run P w = .ok false w := by simp [isAgg, run_underlying u1]
  have e0 : ∀ x y, (Op.equalIn (n + 1) f0.type (.int k x) (.int k y)).run P w = .ok (x == y) w := fun x y => equalIn_int u0 n w
  have e1 : ∀ x y, (Op.equalIn (n + 1) f1.type (.int k x) (.int k y)).run P w = .ok (x == y) w := fun x y => equalIn_int u1 n w
  rw [Op.equalIn]
  simp only [Sem.run_bind, run_underlying hu, Result.andThen_ok]
  by_cases h1 : a = c
  · subst h1
    by_cases h2 : b = d
    · subst h2; simp [hs, n0, n1, part, o0, o1, q0, q1, e0, e1]
    · simp [hs, n0, n1, part, o0, o1, q0, q1, e0, e1, h2]
  · simp [hs, n0, n1, part, o0, o1, q0, q1, e0, e1, h1]
theorem OpOk.eqlSt2 {T T' : TypeId} {k : IntKind} {x y : Operand} {a b c d : Int} (h : St2 P T k) (hx : ev e x = some (.agg #[.int k a, .int k b])) (hy : ev e y = some (.agg #[.int k c, .int k d])) : OpOk P e (.binOp .eql T x y T') H (.bool (decide (a = c ∧ b = d))) := by
  intro ρ o w ho hev _
  have h1 : (Op.equal T (.agg #[.int k a, .int k b]) (.agg #[.int k c, .int k d])).run P w = .ok (decide (a = c ∧ b = d)) w := equalIn_st2 h 9998 w
  simp only [execOp, ho, hev _ _ hx, hev _ _ hy, eqGuard, binOp]
  simp [h1, h.guard]
theorem OpOk.neqSt2 {T T' : TypeId} {k : IntKind} {x y : Operand} {a b c d : Int} (h : St2 P T k) (hx : ev e x = some (.agg #[.int k a, .int k b])) (hy : ev e y = some (.agg #[.int k c, .int k d])) : OpOk P e (.binOp .neq T x y T') H (.bool (!decide (a = c ∧ b = d))) := by
  intro ρ o w ho hev _
  have h1 : (Op.equal T (.agg #[.int k a, .int k b]) (.agg #[.int k c, .int k d])).run P w = .ok (decide (a = c ∧ b = d)) w := equalIn_st2 h 9998 w
  simp only [execOp, ho, hev _ _ hx, hev _ _ hy, eqGuard, binOp]
  simp [h1, h.guard]
end
end Go.JE
