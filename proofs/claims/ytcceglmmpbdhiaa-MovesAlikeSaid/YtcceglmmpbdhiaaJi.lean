/- The walking engine: an iterator's own walk, the world in hand. Conditions: each rule names its own; lemmas over any program. -/
import Derived.Test.YtcceglmmpbdhiaaJs
namespace Go.JE
set_option linter.unusedVariables false
set_option linter.unusedSimpArgs false
set_option linter.unusedSectionVars false
variable {P : Program} {n : Fs} {Q : Exit → Act → World → Prop} {e : Env} {w : World} {m : Nat}

def YL (P : Program) (n : Fs) (ops : Array Oper) (Q : Exit → Act → World → Prop) (m : Nat) (e : Env) (l : List Oper) (w : World) : Prop := ∀ a, Fr n e a → wpListIn (RW none) m P ops Q l a w
def YC (P : Program) (n : Fs) (Q : Exit → Act → World → Prop) (m : Nat) (e : Env) (c : Code) (w : World) : Prop := ∀ a, Fr n e a → c.wpIn (RW none) m P Q a w
def YP (n : Fs) (Q : Exit → Act → World → Prop) (e : Env) (x : Exit) (w : World) : Prop := ∀ a, Fr n e a → Q x a w

section ops
variable {ops : Array Oper} {op : Op} {d : Nat} {ty : TypeId} {pos : String} {af : Array Edge} {rest : List Oper} {v : Value}
theorem YL.nil (h : YP n Q e .normal w) : YL P n ops Q m e [] w := fun a hf => wpListIn_nil (h a hf)
theorem YL.step (h : OpOk P e op w.heap v) (K : YL P n ops Q m ((d, v) :: e) rest w) (hd : Nat.blt d n.sz = true := by rfl) (hn : noDefer ⟨some d, op, ty, pos, af, none⟩ = true := by rfl) :
    YL P n ops Q m e (⟨some d, op, ty, pos, af, none⟩ :: rest) w := by
  intro a hf
  refine wpListIn_plain rfl fun K' hK' => ⟨fun _ _ => trivial, ?_⟩
  rw [Oper.semAt_eq _ _ _ (fun c hc => by simp only at hc; subst hc; cases hn), h a.eval _ w rfl (fun x u hx => hf.ev hx) rfl]
  exact hK' _ _ (K _ (hf.put hd v))
theorem YL.gstep {j t : Nat} {want B : Bool} {u : Value} (hj : (ops[j]?).bind (·.dst) = some t) (hu : lk e t = some u) (hB : Gd u want B) (h : B = true → OpOk P e op w.heap v) (K : YL P n ops Q m ((d, gv B v) :: e) rest w)
    (hd : Nat.blt d n.sz = true := by rfl) (ht : Nat.blt t n.sz = true := by rfl) (hn : noDefer ⟨some d, op, ty, pos, af, some (j, want)⟩ = true := by rfl) :
    YL P n ops Q m e (⟨some d, op, ty, pos, af, some (j, want)⟩ :: rest) w := by
  intro a hf
  have hwt := wanted_gd (o := ⟨some d, op, ty, pos, af, some (j, want)⟩) rfl hj ht hf hu hB
  simp only [wpListIn]
  rw [hwt]
  cases B with
  | true =>
    rw [if_pos rfl]
    refine ⟨fun _ _ => trivial, ?_⟩
    rw [Oper.semAt_eq _ _ _ (fun c hc => by simp only at hc; subst hc; cases hn), h rfl a.eval _ w rfl (fun x u hx => hf.ev hx) rfl]
    exact K _ (hf.put hd v)
  | false =>
    rw [if_neg (by decide)]
    exact ⟨fun _ _ => trivial, K _ (hf.put hd undef)⟩
theorem YL.yield {l : Nat} {args : Array Value} {R : Ending → World → Prop} (h : OpYield P e op w.heap l args) (hy : YieldAt (RW none) (m - 1) P l args w R)
    (K : ∀ x w', R x w' → ∃ v, x = .returned v ∧ YL P n ops Q m ((d, v) :: e) rest w') (hd : Nat.blt d n.sz = true := by rfl) :
    YL P n ops Q m e (⟨some d, op, ty, pos, af, none⟩ :: rest) w := by
  intro a hf
  refine yield_step hf rfl h hy fun x w' hx => ?_
  obtain ⟨v, rfl, h2⟩ := K x w' hx
  exact ⟨v, rfl, h2 _ (hf.put hd v)⟩
end ops
section code
variable {x y : Code} {id : Nat} {l : List Oper}
theorem YC.region (h : YL P n l.toArray Q m e l w) : YC P n Q m e (.region id l.toArray false) w := fun a hf => wpIn_region_lit (h a hf)
theorem YC.seq (h : YC P n (Exit.then (y.wpIn (RW none) m P Q) Q) m e x w) : YC P n Q m e (.seq x y) w := fun a hf => wpIn_seq (h a hf)
theorem YP.next (h : YC P n Q m e y w) : YP n (Exit.then (y.wpIn (RW none) m P Q) Q) e .normal w := h
theorem YC.block (h : YC P n (Exit.inBlock id Q) m e x w) : YC P n Q m e (.block id x) w := fun a hf => wpIn_block (h a hf)
theorem YC.skip (h : YP n Q e .normal w) : YC P n Q m e .skip w := fun a hf => wpIn_skip (h a hf)
theorem YC.exit (h : YP n Q e (.exit id) w) : YC P n Q m e (.exit id) w := fun a hf => wpIn_exit (h a hf)
theorem YC.ret (h : YP n Q e .ret w) : YC P n Q m e .ret w := fun a hf => wpIn_ret (h a hf)
theorem YC.if {c : Operand} {b : Bool} {p q : Prop} (hc : ev e c = some (.bool b)) [hb : BoolP b p q] (ht : p → YC P n Q m e x w) (hf : q → YC P n Q m e y w) : YC P n Q m e (.cond c x y) w := by
  intro a hfr
  exact wpIn_cond_split (hfr.ev hc) (fun h => ht (hb.pos h) a hfr) (fun h => hf (hb.neg h) a hfr)
theorem YP.thenExit {K : Act → World → Prop} (h : YP n Q e (.exit id) w) : YP n (Exit.then K Q) e (.exit id) w := h
theorem YP.thenRet {K : Act → World → Prop} (h : YP n Q e .ret w) : YP n (Exit.then K Q) e .ret w := h
theorem YP.blockNormal (h : YP n Q e .normal w) : YP n (Exit.inBlock id Q) e .normal w := h
theorem YP.blockRet (h : YP n Q e .ret w) : YP n (Exit.inBlock id Q) e .ret w := h
theorem YP.blockHere (h : YP n Q e .normal w) : YP n (Exit.inBlock id Q) e (.exit id) w := fun a hf => by
  show (if id = id then _ else _); rw [if_pos rfl]; exact h a hf
def YAgain {ι : Type} (n : Fs) (inv : ι → World → Prop) (env : ι → Env) (μ : ι → Nat) (i : ι) (a : Act) (w : World) : Prop := ∃ j, inv j w ∧ Fr n (env j) a ∧ μ j < μ i
theorem YC.loop {ι : Type} (inv : ι → World → Prop) (env : ι → Env) (μ : ι → Nat) (i0 : ι) (h0 : inv i0 w) (hs : Sub e (env i0))
    (round : ∀ i w', inv i w' → YC P n (Exit.then (YAgain n inv env μ i) Q) m (env i) x w') : YC P n Q m e (.loop x) w := by
  intro a hf
  let I : Nat → Act → World → Prop := fun k a w => ∃ i, μ i = k ∧ inv i w ∧ Fr n (env i) a
  refine wpIn_loop (fun a w => ∃ k, I k a w) (fun a w => leastOf (fun k => I k a w)) ⟨μ i0, i0, rfl, h0, hf.sub hs⟩ ?_
  intro a w hI
  obtain ⟨i, hm, hi, hfi⟩ := (leastOf_spec hI).1
  refine wpIn_mono (round i w hi a hfi) ?_
  intro z a' w' hq
  cases z with
  | normal =>
    obtain ⟨j, h1, h2, h3⟩ := hq
    have hJ : ∃ k, I k a' w' := ⟨μ j, j, rfl, h1, h2⟩
    exact ⟨hJ, Nat.lt_of_le_of_lt ((leastOf_spec hJ).2 (μ j) ⟨j, rfl, h1, h2⟩) (hm ▸ h3)⟩
  | exit id => exact hq
  | goto l => exact hq
  | ret => exact hq
  | panic ch => exact hq
  | outgrown => exact hq
theorem YP.again {ι : Type} {inv : ι → World → Prop} {env : ι → Env} {μ : ι → Nat} {i : ι} (j : ι) (hj : inv j w) (hs : Sub e (env j)) (hm : μ j < μ i) :
    YP n (Exit.then (YAgain n inv env μ i) Q) e .normal w := fun _ hf => ⟨j, hj, hf.sub hs, hm⟩
end code
section func
variable {f : FuncId} {fn : Func} {c : Code} {R : Ending → World → Prop}
theorem YC.enter {args : List Value} {k : Nat} (hf : P.funcs[f]? = some fn) (hb : fn.body = some c) (hn : fn.ntmps = k) (ha : Nat.ble args.length k = true)
    (h : YC P ⟨k, []⟩ (bodyPost P fn R) m (number 0 args) c w) : CallsIn (RW none) m P f args.toArray w R := by
  refine callsIn_of_wp hf hb trivial ?_ rfl
  have ha' : args.length ≤ k := by simpa [Nat.ble_eq] using ha
  refine h _ ⟨?_, rfl, ?_⟩
  · simp [hn]; omega
  · intro t v hv
    obtain ⟨i, h1, h2⟩ := lk_number args 0 t v hv
    have hi : i < args.length := (List.getElem?_eq_some_iff.1 h2).1
    have e1 : t = i := by omega
    subst e1
    simp only [Array.getD_eq_getD_getElem?]
    rw [Array.getElem?_append_left (by simpa using hi)]
    simp [h2]
theorem YP.ret0 {k : Nat} (hr : fn.results = #[]) (hR : R (.returned (.tuple #[])) w) : YP ⟨k, []⟩ (bodyPost P fn R) e .ret w := fun _ hf => bodyPost_ret (results_none hr _ _ _) hf.defers hR
theorem YP.end0 {k : Nat} (hr : fn.results = #[]) (hR : R (.returned (.tuple #[])) w) : YP ⟨k, []⟩ (bodyPost P fn R) e .normal w := fun _ hf => bodyPost_end (results_none hr _ _ _) hf.defers hR
end func
end Go.JE
