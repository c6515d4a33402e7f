/- The walking engine: the rounds of a range over a function. Conditions: each rule names its own; lemmas over any program. -/
import Derived.Test.YtcceglmmpbdhiaaJr
import Derived.RangeFuncNested
import Derived.RangeFuncCalls
import Derived.RangeFuncLeaves
import Derived.Below
namespace Go.JE
set_option linter.unusedVariables false
set_option linter.unusedSimpArgs false
set_option linter.unusedSectionVars false
variable {P : Program} {n : Fs} {w0 : World} {Q : Exit → Act → World → Prop} {e : Env} {H : Heap}

/-- the widest fence, in a round's frame or not -/
abbrev RW (ro : Option Nat) : Fence := { Fence.wide with round := ro }
/-- Q, but False where a goroutine outgrows its room -/
def NO (Q : Exit → Act → World → Prop) : Exit → Act → World → Prop
  | .outgrown, _, _ => False
  | x, a, w => Q x a w
theorem NO.imp {Q : Exit → Act → World → Prop} : ∀ (x : Exit) (a : Act) (w : World), NO Q x a w → Q x a w := fun x a w h => by
  cases x <;> first | exact h | exact (h : False).elim
theorem NO.lets {Q : Exit → Act → World → Prop} (h : LetsOut (NO Q)) : False := by obtain ⟨_, _, h⟩ := h; exact h

def noDefer (o : Oper) : Bool := match o.op with | .defer _ => false | _ => true

theorem callsRW {ro : Option Nat} {m : Nat} {f : FuncId} {args : Array Value} {w : World} {R : Ending → World → Prop} (h : Calls P f args w R) : CallsIn (RW ro) m P f args w R :=
  show CallsIn Fence.wide m P f args w R from callsIn_wide.2 h
theorem rowsRW {ro : Option Nat} {m : Nat} {row : String} {args : Array Value} {w : World} {R : Value → World → Prop} (h : Rows P row args w R) : RowsIn (RW ro) m P row args w R :=
  fun c cs _ => let ⟨v, w', r, s⟩ := h c cs; ⟨v, w', r, stepsIn_wide.2 s⟩

theorem uponRW {Q : Exit → Act → World → Prop} {ro : Option Nat} {m : Nat} {o : Oper} {a : Act} {next next' : Act → World → Prop} (hk : ∀ a w, next a w → next' a w) : ∀ r, o.upon P a next (NO Q) r → o.uponIn (RW ro) m P a next' (NO Q) r := by
  intro r h
  unfold Oper.upon at h
  unfold Oper.uponIn
  split at h
  · exact hk _ _ h
  · exact hk _ _ h
  · exact hk _ _ h
  · refine ⟨fun h0 => (by simp [Fence.wide] at h0), (callsRW h).mono fun x w' hx => ?_⟩
    cases x with
    | returned v => exact hk _ _ hx
    | panicked c => exact hx
    | outgrown => exact hx
  · exact ⟨fun h0 => (by simp [Fence.wide] at h0), (rowsRW h).mono fun v w' hx => hk _ _ hx⟩
  · exact h
  · exact h.elim

theorem listRW {Q : Exit → Act → World → Prop} {ro : Option Nat} {m : Nat} {ops : Array Oper} : ∀ (l : List Oper), l.all noDefer = true → ∀ a w, wpList P ops (NO Q) l a w → wpListIn (RW ro) m P ops (NO Q) l a w
  | [], _, _, _, h => h
  | o :: l, hd, a, w, h => by
    simp only [List.all_cons, Bool.and_eq_true] at hd
    have ih : ∀ a w, wpList P ops (NO Q) l a w → wpListIn (RW ro) m P ops (NO Q) l a w := listRW l hd.2
    simp only [wpList] at h
    simp only [wpListIn]
    split at h
    · rename_i hw
      rw [if_pos hw]
      rcases h with h | ⟨_, h⟩
      · refine ⟨fun _ _ => trivial, ?_⟩
        rw [Oper.semAt_eq _ _ _ (fun c hc => by have := hd.1; simp [noDefer, hc] at this)]
        exact uponRW (fun a w h => ih a w h) _ h
      · exact (NO.lets h).elim
    · rename_i hw
      rw [if_neg hw]
      exact ⟨fun _ _ => trivial, ih _ _ h⟩

/-- code in a round's frame -/
def RCF (P : Program) (n : Fs) (w0 : World) (ro : Option Nat) (m : Nat) (Q : Exit → Act → World → Prop) (e : Env) (c : Code) (H : Heap) : Prop :=
  ∀ a w, Fr n e a → Wd w0 H w → c.wpIn (RW ro) m P Q a w

section code
variable {x y : Code} {id : Nat} {l : List Oper} {ro : Option Nat} {m : Nat}
theorem RCF.region (h : LF P n w0 l.toArray (NO Q) e l H) (hd : l.all noDefer = true := by kernel_rfl) : RCF P n w0 ro m Q e (.region id l.toArray false) H :=
  fun a w hf hw => wpIn_mono (wpIn_region_lit (listRW l hd a w (h a w hf hw))) NO.imp
theorem RLF.nil {ops : Array Oper} (h : PF n w0 Q e .normal H) : LF P n w0 ops (NO Q) e [] H := fun a w hf hw => wpList_nil (h a w hf hw)
theorem RCF.seq (h : RCF P n w0 ro m (Exit.then (y.wpIn (RW ro) m P Q) Q) e x H) : RCF P n w0 ro m Q e (.seq x y) H := fun a w hf hw => wpIn_seq (h a w hf hw)
theorem RPF.next (h : RCF P n w0 ro m Q e y H) : PF n w0 (Exit.then (y.wpIn (RW ro) m P Q) Q) e .normal H := h
theorem RCF.block (h : RCF P n w0 ro m (Exit.inBlock id Q) e x H) : RCF P n w0 ro m Q e (.block id x) H := fun a w hf hw => wpIn_block (h a w hf hw)
theorem RCF.skip (h : PF n w0 Q e .normal H) : RCF P n w0 ro m Q e .skip H := fun a w hf hw => wpIn_skip (h a w hf hw)
theorem RCF.exit (h : PF n w0 Q e (.exit id) H) : RCF P n w0 ro m Q e (.exit id) H := fun a w hf hw => wpIn_exit (h a w hf hw)
theorem RCF.ret (h : PF n w0 Q e .ret H) : RCF P n w0 ro m Q e .ret H := fun a w hf hw => wpIn_ret (h a w hf hw)
theorem RCF.if {c : Operand} {b : Bool} {p q : Prop} (hc : ev e c = some (.bool b)) [hb : BoolP b p q] (ht : p → RCF P n w0 ro m Q e x H) (hf : q → RCF P n w0 ro m Q e y H) : RCF P n w0 ro m Q e (.cond c x y) H := by
  intro a w hfr hw
  exact wpIn_cond_split (hfr.ev hc) (fun h => ht (hb.pos h) a w hfr hw) (fun h => hf (hb.neg h) a w hfr hw)
theorem RCF.of (h : CF P n w0 Q e x H) : RCF P n w0 none m Q e x H := fun a w hf hw => show x.wpIn Fence.wide m P Q a w from wpIn_wide.2 (h a w hf hw)
theorem RCF.out (h : RCF P n w0 none m Q e x H) : CF P n w0 Q e x H := fun a w hf hw => (wpIn_wide (n := m)).1 (show x.wpIn Fence.wide m P Q a w from h a w hf hw)
theorem RCF.loop {ι : Type} (inv : ι → Heap → Prop) (env : ι → Env) (μ : ι → Nat) (i0 : ι) (h0 : inv i0 H) (hs : Sub e (env i0))
    (round : ∀ i H', inv i H' → RCF P n w0 ro m (Exit.then (Again n w0 inv env μ i) Q) (env i) x H') : RCF P n w0 ro m Q e (.loop x) H := by
  intro a w hf hw
  let I : Nat → Act → World → Prop := fun k a w => ∃ i, μ i = k ∧ inv i w.heap ∧ Fr n (env i) a ∧ Wd w0 w.heap w
  refine wpIn_loop (fun a w => ∃ k, I k a w) (fun a w => leastOf (fun k => I k a w)) ⟨μ i0, i0, rfl, hw.heap ▸ h0, hf.sub hs, ⟨rfl, hw.os, hw.tape, hw.output⟩⟩ ?_
  intro a w hI
  obtain ⟨i, hm, hi, hfi, hwi⟩ := (leastOf_spec hI).1
  refine wpIn_mono (round i w.heap hi a w hfi hwi) ?_
  intro z a' w' hq
  cases z with
  | normal =>
    obtain ⟨j, h1, h2, h3, h4⟩ := hq
    have hJ : ∃ k, I k a' w' := ⟨μ j, j, rfl, h1, h2, h3⟩
    exact ⟨hJ, Nat.lt_of_le_of_lt ((leastOf_spec hJ).2 (μ j) ⟨j, rfl, h1, h2, h3⟩) (hm ▸ h4)⟩
  | exit id => exact hq
  | goto l => exact hq
  | ret => exact hq
  | panic ch => exact hq
  | outgrown => exact hq
end code

/- ---------------------------------------------- a call of yield -/
/-- the operation is a call of yield -/
def OpYield (P : Program) (e : Env) (op : Op) (H : Heap) (l : Nat) (args : Array Value) : Prop :=
  ∀ (ρ : Operand → Value) (o : Oper) (w : World), o.op = op → (∀ x u, ev e x = some u → ρ x = u) → w.heap = H → (execOp ρ o).run P w = (Instr.yield l args).run P w
theorem OpYield.call {g : Operand} {l : Nat} {xs : List Operand} {vs : List Value} {ts : Array TypeId} (hf : ev e g = some (.func (.yield l) #[] #[])) (hl : evl e xs = some vs) :
    OpYield P e (.call { callee := .value g, args := xs.toArray, argTypes := ts }) H l vs.toArray := by
  intro ρ o w ho hev _
  have h1 : xs.toArray.map ρ = vs.toArray := by rw [← evl_map hev xs vs hl]; simp
  simp only [execOp, ho, resolve, h1, hev _ _ hf, Deferred.ofValue]
  simp only [Sem.run_bind, Sem.run_pure, Result.andThen_ok, invoke]
  simp

section yield
variable {ops : Array Oper} {op : Op} {d : Nat} {ty : TypeId} {pos : String} {af : Array Edge} {rest : List Oper} {m : Nat}
/-- a list of operations that calls yield in its midst: what stands ahead of it is walked already -/
theorem yield_step {l : Nat} {args : Array Value} {R : Ending → World → Prop} {a : Act} {w : World} (hf : Fr n e a) (hw : w.heap = H) (h : OpYield P e op H l args) (hy : YieldAt (RW none) (m - 1) P l args w R)
    (hR : ∀ x w', R x w' → ∃ v, x = .returned v ∧ wpListIn (RW none) m P ops Q rest (a.put (some d) v) w') :
    wpListIn (RW none) m P ops Q (⟨some d, op, ty, pos, af, none⟩ :: rest) a w := by
  obtain ⟨fn, tmps, assign, body, h1, h2⟩ := hy
  refine wpListIn_plain rfl fun K hK => ?_
  refine ⟨fun _ _ => trivial, ?_⟩
  have hs : (Oper.semAt (RW none).round a.eval ⟨some d, op, ty, pos, af, none⟩).run P w = .ok (.round l fn tmps assign body) w := by
    show (execOp a.eval ⟨some d, op, ty, pos, af, none⟩).run P w = _
    rw [h a.eval _ w rfl (fun x u hx => hf.ev hx) hw, h1]
  rw [hs]
  refine ⟨fun h0 => (by simp [Fence.wide] at h0), h2.mono fun x w' hx => ?_⟩
  obtain ⟨v, rfl, h3⟩ := hR x w' hx
  exact hK _ _ h3
end yield

/- ---------------------------------------------- the loop, as the caller sees it -/
/-- what a round keeps for the iterator: the blocks of bl -/
def KeepsB (bl : List Nat) (W W' : World) : Prop := ∀ k ∈ bl, W'.heap[k]? = W.heap[k]?
/-- an iterator that gives xs, one by one, and reads the blocks bl alone -/
def Iter {α : Type} (P : Program) (g : Nat) (lb : Array Value) (encs : α → Array Value) (bl : List Nat) (xs : List α) (H : Heap) : Prop :=
  ∀ w0 : World, w0.heap = H → SeqStopsK (RW none) 2 P g lb encs (KeepsB bl) (fun ys => ys = xs) (fun _ => True) xs.length w0

/-- how a round's body ends -/
def RQ {α : Type} (w0 : World) (H : Heap) (bl : List Nat) (inv : List α → Heap → Prop) (ys : List α) (Hs : Heap) : Exit → Act → World → Prop
  | .normal, _, w => Wd w0 w.heap w ∧ Hs.size ≤ w.heap.size ∧ (∀ k, H.size ≤ k → k < Hs.size → w.heap[k]? = Hs[k]?) ∧ (∀ k ∈ bl, w.heap[k]? = Hs[k]?) ∧ inv ys w.heap
  | _, _, _ => False
theorem PF.round {α : Type} {bl : List Nat} {inv : List α → Heap → Prop} {ys : List α} {Hs H' : Heap} (h1 : Hs.size ≤ H'.size) (h2 : ∀ k, H.size ≤ k → k < Hs.size → H'[k]? = Hs[k]?) (h3 : ∀ k ∈ bl, H'[k]? = Hs[k]?) (h4 : inv ys H') :
    PF n w0 (RQ w0 H bl inv ys Hs) e .normal H' := by
  intro a w hf hw
  rw [← hw.heap] at h1 h2 h3 h4
  exact ⟨⟨rfl, hw.os, hw.tape, hw.output⟩, h1, h2, h3, h4⟩
/-- how the left sides' assignment ends -/
def AQ (n : Fs) (w0 : World) (l : Env) (H : Heap) : Exit → Act → World → Prop
  | .normal, a, w => Fr n l a ∧ Wd w0 H w
  | _, _, _ => False
theorem PF.assigned {l : Env} (hs : Sub e l) : PF n w0 (AQ n w0 l H) e .normal H := fun _ _ hf hw => ⟨hf.sub hs, hw⟩

/-- what the left sides are: yield's parameters laid into their slots -/
def laid (e : Env) : List Nat → List Value → Env
  | p :: ps, v :: vs => laid ((p, v) :: e) ps vs
  | _, _ => e
theorem laid_fr {m : Nat} : ∀ (ps : List Nat) (vs : List Value) (e : Env) (t : Array Value), ps.all (fun p => Nat.blt p m) = true → Fr ⟨m, []⟩ e { tmps := t, defers := [] } →
    Fr ⟨m, []⟩ (laid e ps vs) { tmps := (ps.zip vs).foldl (fun t p => t.setIfInBounds p.1 p.2) t, defers := [] }
  | [], [], _, _, _, h => h
  | [], _ :: _, _, _, _, h => h
  | _ :: _, [], _, _, _, h => h
  | p :: ps, v :: vs, e, t, hp, h => by
    simp only [List.all_cons, Bool.and_eq_true] at hp
    exact laid_fr ps vs ((p, v) :: e) _ hp.2 (h.put (n := ⟨m, []⟩) hp.1 v)

/-- after a loop over a function the frame has a mark -/
abbrev Fs.mark (n : Fs) (D : Nat) : Fs := ⟨n.sz, { target := .collected D, args := #[] } :: n.ds⟩

theorem CF.rangeFunc {α : Type} {g : Operand} {ps : List Nat} {assign body : Code} {gf : Nat} {lb : Array Value} {encs : α → List Value} {bl : List Nat} {xs : List α} (envx : α → Env)
    (inv : List α → Heap → Prop) (hg : ev e g = some (.func (.func gf) #[] lb)) (hE : Ent P gf) (hit : Iter P gf lb (fun x => (encs x).toArray) bl xs H) (hbl : ∀ k ∈ bl, k < H.size) (hlen : ∀ x, (encs x).length = ps.length)
    (hps : ps.all (fun p => Nat.blt p n.sz) = true)
    (hinv : ∀ pre H1 H2, inv pre H1 → H1.size ≤ H2.size → (∀ k, k < H.size → H2[k]? = H1[k]?) → inv pre H2) (h0 : inv [] H)
    (hassign : ∀ (l : Nat) (x : α) (H' : Heap), RCF P ⟨n.sz, []⟩ w0 (some l) 1 (AQ ⟨n.sz, []⟩ w0 (envx x) H') (laid e ps (encs x)) assign H')
    (hbody : ∀ (l : Nat) (pre : List α) (x : α) (H' : Heap), inv pre H' → pre.length < xs.length → H.size ≤ H'.size → RCF P ⟨n.sz, []⟩ w0 (some l) 1 (RQ w0 H bl inv (pre ++ [x]) H') (envx x) body H')
    (hdone : ∀ (D : Nat) (H' : Heap), inv xs H' → H.size ≤ D → H.size ≤ H'.size → H'[D]? = some (.deferred (some [])) → PF (n.mark D) w0 Q e .normal H') :
    CF P n w0 Q e (.rangeFunc g ps.toArray assign body) H := by
  refine RCF.out (m := 3) fun a w hf hw => ?_
  have hw' := hw.heap
  have hB : w.heap.size = H.size := by rw [hw']
  refine wpIn_rangeFunc_ownH (α := α) (F := RW none) (n := 3) (gf := gf) (lb := lb) (encs := fun x => (encs x).toArray) (Kp := KeepsB bl) (S := fun ys => ys = xs) (Sp := fun _ => True) (N := xs.length) (w0 := w)
    rfl (by decide) (hf.ev hg) trivial (fun args w => hE.run args w) (hit w hw') (fun h1 h2 k hk => (h2 k hk).trans (h1 k hk))
    (fun W l o o' hl ho _ _ k hk => World.putObj_heap_other (by have := hbl k hk; omega)) (RowKit.Below.refl _ _) (fun x => by simp [hlen])
    (fun pre W => Wd w0 W.heap W ∧ H.size ≤ W.heap.size ∧ inv pre W.heap) (fun _ _ _ => False) ?own (fun _ _ _ _ _ h _ _ => h) ⟨⟨rfl, hw.os, hw.tape, hw.output⟩, by omega, by rw [hw']; exact h0⟩
    (fun x a' _ => Fr ⟨n.sz, []⟩ (envx x) a') (fun _ _ _ _ _ _ h _ _ => h) ?assign ?body ?done ?stop
  case own =>
    rintro pre W W' row ⟨h1, h2, h3⟩ hg' hr
    refine ⟨⟨rfl, hg'.os.trans h1.os, hg'.tape.trans h1.tape, hg'.output.trans h1.output⟩, Nat.le_trans h2 hg'.size, hinv pre _ _ h3 hg'.size fun k hk => ?_⟩
    exact hg'.block k (by omega) (fun e1 => by have := (hr k e1.symm).1; omega)
  case assign =>
    rintro l pre x W K ⟨h1, h2, h3⟩ hK
    have hfr : Fr ⟨n.sz, []⟩ (laid e ps (encs x)) { tmps := (ps.toArray.zip (encs x).toArray).foldl (fun t p => t.setIfInBounds p.1 p.2) a.tmps, defers := [] } := by
      have := laid_fr ps (encs x) e a.tmps hps ⟨hf.size, rfl, hf.get⟩
      simpa using this
    refine wpIn_mono (hassign l x W.heap _ W hfr h1) ?_
    intro z a' W' hz
    cases z with
    | normal =>
      obtain ⟨h4, h5⟩ := hz
      have h6 : W'.heap = W.heap := h5.heap
      exact hK a' W' ⟨by rw [h6]; exact Nat.le_refl _, fun k o _ hk _ => by rw [h6]; exact hk⟩ (fun k _ => by rw [h6]) ⟨⟨rfl, h5.os, h5.tape, h5.output⟩, by rw [h6]; exact h2, by rw [h6]; exact h3⟩ h4
    | _ => exact hz
  case body =>
    rintro l pre x a' W _ _ ⟨h1, h2, h3⟩ hfr hlt
    refine wpIn_mono (hbody l pre x W.heap h3 hlt h2 a' W hfr h1) ?_
    intro z a2 W' hz
    cases z with
    | normal =>
      obtain ⟨h4, h5, h6, h7, h8⟩ := hz
      exact ⟨⟨h5, fun k o hk ho _ => (h6 k (by omega) (Array.getElem?_eq_some_iff.1 ho).1).trans ho⟩, h7, h4, Nat.le_trans h2 h5, h8⟩
    | _ => exact hz.elim
  case done =>
    rintro D ys W hD rfl ⟨h1, h2, h3⟩ hK
    exact hdone D W.heap h3 (by omega) h2 hK _ W ⟨hf.size, by simp [hf.defers], hf.get⟩ h1
  case stop =>
    rintro D c pre W _ _ h _
    exact h.elim

/- ---------------------------------------------- a function that holds such a loop -/
section func
variable {f : FuncId} {fn : Func} {c : Code} {R : Value → Heap → Prop}
def BQM (P : Program) (fn : Func) (w0 : World) (R : Value → Heap → Prop) : Exit → Act → World → Prop :=
  bodyPostM Fence.wide 3 P fn fun x w' => ∃ v, x = .returned v ∧ w'.os = w0.os ∧ w'.tape = w0.tape ∧ w'.output = w0.output ∧ R v w'.heap
theorem Ct.enterM {args : List Value} {n : Nat} (hf : P.funcs[f]? = some fn) (hb : fn.body = some c) (hn : fn.ntmps = n) (ha : Nat.ble args.length n = true)
    (h : ∀ w0 : World, w0.heap = H → CF P ⟨n, []⟩ w0 (BQM P fn w0 R) (number 0 args) c H) : Ct P f args.toArray H R := by
  intro w hw
  refine callsIn_wide.1 (callsIn_of_wp_marks (n := 3) hf hb trivial ?_ rfl)
  have ha' : args.length ≤ n := by simpa [Nat.ble_eq] using ha
  refine wpIn_wide.2 (h w hw _ w ⟨?_, rfl, ?_⟩ ⟨hw, rfl, rfl, rfl⟩)
  · simp [hn]; omega
  · intro t v hv
    obtain ⟨i, h1, h2⟩ := lk_number args 0 t v hv
    have hi : i < args.length := (List.getElem?_eq_some_iff.1 h2).1
    have e1 : t = i := by omega
    subst e1
    simp only [Array.getD_eq_getD_getElem?]
    rw [Array.getElem?_append_left (by simpa using hi)]
    simp [h2]
/-- a block turned whole -/
def puto (H : Heap) (D : Nat) (o : Obj) : Heap := H.setIfInBounds D o
theorem PF.ret1M {m D t : Nat} {v : Value} (hr : fn.results = #[.tmp t]) (hv : lk e t = some v) (hD : H[D]? = some (.deferred (some []))) (hR : R v (puto H D (.deferred none))) : PF (Fs.mark ⟨m, []⟩ D) w0 (BQM P fn w0 R) e .ret H := by
  intro a w hf hw
  have hd := hf.defers
  have hD' : w.heap[D]? = some (.deferred (some [])) := by rw [hw.heap]; exact hD
  show LeavesInM Fence.wide 3 P fn a.tmps _ a.defers .returning w
  rw [hd]
  refine ⟨by simp, .inl ⟨_, _, rfl, run_takeDeferred hD', ?_⟩⟩
  refine ⟨v, ?_, ?_⟩
  · rw [results_tmp hr, hf.get t v hv]
  · exact ⟨v, rfl, hw.os, hw.tape, hw.output, by show R v (w.heap.setIfInBounds D _); rw [hw.heap]; exact hR⟩
theorem PF.ret1N {m t : Nat} {v : Value} (hr : fn.results = #[.tmp t]) (hv : lk e t = some v) (hR : R v H) : PF ⟨m, []⟩ w0 (BQM P fn w0 R) e .ret H := by
  intro a w hf hw
  have hd := hf.defers
  show LeavesInM Fence.wide 3 P fn a.tmps _ a.defers .returning w
  rw [hd]
  refine ⟨v, ?_, ?_⟩
  · rw [results_tmp hr, hf.get t v hv]
  · exact ⟨v, rfl, hw.os, hw.tape, hw.output, hw.heap ▸ hR⟩
end func
end Go.JE
