/- Lemmas that the claim is made of. Conditions: each lemma names its own. -/
import Derived.Test.YtehhjlkmbdhckaaGreatKB6
set_option linter.unusedSectionVars false
set_option linter.unusedSimpArgs false
set_option linter.unusedVariables false
namespace Go.Proofs.YtehhjlkmbdhckaaGreat
open Go.JE
structure Mk where
  s : List Int
  k : Int
  par : Int
  bs : List D.Block
  nx : Int
  lv : List Int
def takeV (n : Int) (m : Mk) : Int := Int.tmod (Int.tmod (if m.k < m.s.length then ix m.s m.k.toNat else 0) n + n) n
def takeS (m : Mk) : Mk := { m with k := m.k + 1 }
def wordV (m : Mk) : Int :=
  if takeV 8 (takeS m) = 0 then IntKind.i32.wrap (takeV 1048576 m * 4099)
  else if takeV 8 (takeS m) = 1 then -takeV 1048576 m
  else if takeV 8 (takeS m) = 2 then -2147483648
  else if takeV 8 (takeS m) = 3 then Int.tmod (takeV 1048576 m) 70000
  else Int.tmod (takeV 1048576 m) 20 - 4
def wordS (m : Mk) : Mk := takeS (takeS m)
def valueB (m : Mk) : Bool := !decide (m.lv.length = 0)
def valueI (m : Mk) : Int := if takeV 3 (takeS m) = 0 then (m.lv.length : Int) - 1 else takeV m.lv.length m
def valueV (m : Mk) : Int := if m.lv.length = 0 then 0 else ix m.lv (valueI m).toNat
def valueS (m : Mk) : Mk := if m.lv.length = 0 then m else takeS (takeS m)
def freshS (m : Mk) : Mk := { m with nx := m.nx + 1 }
def makes3 (i : D.Ins) : List Int := if i.Op = 16 then [] else if i.Op = 18 then [i.Dst, i.Two] else [i.Dst]
def addS (b : Int) (i : D.Ins) (m : Mk) : Mk := { m with bs := m.bs.set b.toNat { (ix m.bs b.toNat) with Ins := (ix m.bs b.toNat).Ins ++ [i] }, lv := m.lv ++ makes3 i }
def constS (b n : Int) (m : Mk) : Mk := addS b ⟨1, m.nx, 0, [], n⟩ (freshS m)
def someC (m : Mk) : Bool := !valueB m || decide (takeV 9 (valueS m) = 0)
def someM0 (m : Mk) : Mk := if valueB m then takeS (valueS m) else valueS m
def someV (m : Mk) : Int := if someC m then (wordS (someM0 m)).nx else valueV m
def someS (b : Int) (m : Mk) : Mk := if someC m then constS b (wordV (someM0 m)) (wordS (someM0 m)) else someM0 m
def cntT : List D.Block → Nat
  | [] => 0
  | x :: l => x.Phis.length + x.Ins.length + 1 + cntT l
theorem cntT_ix : ∀ {l : List D.Block} {j : Nat}, j < l.length → (ix l j).Phis.length + (ix l j).Ins.length ≤ cntT l
  | x :: l, 0, _ => by rw [ix_zero, cntT]; omega
  | x :: l, j + 1, h => by rw [ix_cons, cntT]; have := cntT_ix (l := l) (j := j) (by simpa using h); omega
theorem cntT_set : ∀ {l : List D.Block} {j d : Nat} {b : D.Block}, b.Phis.length + b.Ins.length ≤ (ix l j).Phis.length + (ix l j).Ins.length + d → cntT (l.set j b) ≤ cntT l + d
  | [], _, _, _, _ => by simp [cntT]
  | x :: l, 0, _, b, h => by rw [ix_zero] at h; rw [List.set_cons_zero, cntT, cntT]; omega
  | x :: l, j + 1, d, b, h => by rw [ix_cons] at h; rw [List.set_cons_succ, cntT, cntT]; have := cntT_set (l := l) h; omega
theorem cntT_rep (n : Nat) : cntT (List.replicate n default) = n := by
  induction n with
  | zero => rfl
  | succ n ih => rw [List.replicate_succ, cntT, ih]; show 0 + 0 + 1 + n = n + 1; omega
def okM (nb c : Nat) (m : Mk) : Prop := (0 ≤ m.k ∧ m.k ≤ c) ∧ (0 ≤ m.nx ∧ m.nx ≤ c) ∧ (0 ≤ m.par ∧ m.par ≤ 4) ∧ m.lv.length ≤ 2 * c + 4 ∧ m.bs.length = nb ∧ cntT m.bs ≤ c
theorem okM.bnd {nb c : Nat} {m : Mk} (h : okM nb c m) : 0 ≤ m.k ∧ m.k ≤ c ∧ 0 ≤ m.nx ∧ m.nx ≤ c ∧ 0 ≤ m.par ∧ m.par ≤ 4 ∧ m.lv.length ≤ 2 * c + 4 ∧ m.bs.length = nb ∧ cntT m.bs ≤ c := ⟨h.1.1, h.1.2, h.2.1.1, h.2.1.2, h.2.2.1.1, h.2.2.1.2, h.2.2.2.1, h.2.2.2.2.1, h.2.2.2.2.2⟩
theorem okM.row {nb c : Nat} {m : Mk} (h : okM nb c m) {j : Nat} (hj : j < nb) : (ix m.bs j).Phis.length ≤ c ∧ (ix m.bs j).Ins.length ≤ c := by
  have h1 := cntT_ix (l := m.bs) (j := j) (by rw [h.2.2.2.2.1]; exact hj)
  have h2 := h.2.2.2.2.2
  omega
theorem okM.mono {nb c c' : Nat} {m : Mk} (h : okM nb c m) (hc : c ≤ c') : okM nb c' m := ⟨⟨h.1.1, by have := h.1.2; omega⟩, ⟨h.2.1.1, by have := h.2.1.2; omega⟩, h.2.2.1, by have := h.2.2.2.1; omega, h.2.2.2.2.1, by have := h.2.2.2.2.2; omega⟩
theorem okM.setk {nb c c' : Nat} {m : Mk} {x : Int} (h : okM nb c m) (hx : 0 ≤ x ∧ x ≤ c') (hc : c ≤ c') : okM nb c' { m with k := x } := ⟨hx, (h.mono hc).2⟩
theorem okM.setnx {nb c c' : Nat} {m : Mk} {x : Int} (h : okM nb c m) (hx : 0 ≤ x ∧ x ≤ c') (hc : c ≤ c') : okM nb c' { m with nx := x } := ⟨(h.mono hc).1, hx, (h.mono hc).2.2⟩
theorem okM.setpar {nb c c' : Nat} {m : Mk} {x : Int} (h : okM nb c m) (hx : 0 ≤ x ∧ x ≤ 4) (hc : c ≤ c') : okM nb c' { m with par := x } := ⟨(h.mono hc).1, (h.mono hc).2.1, hx, (h.mono hc).2.2.2⟩
theorem okM.setlv {nb c c' : Nat} {m : Mk} {x : List Int} (h : okM nb c m) (hx : x.length ≤ 2 * c' + 4) (hc : c ≤ c') : okM nb c' { m with lv := x } := ⟨(h.mono hc).1, (h.mono hc).2.1, (h.mono hc).2.2.1, hx, (h.mono hc).2.2.2.2⟩
theorem okM.setb {nb c d : Nat} {m : Mk} {j : Nat} {b : D.Block} (h : okM nb c m) (hx : b.Phis.length + b.Ins.length ≤ (ix m.bs j).Phis.length + (ix m.bs j).Ins.length + d) : okM nb (c + d) { m with bs := m.bs.set j b } := by
  have h1 : cntT (m.bs.set j b) ≤ cntT m.bs + d := cntT_set (l := m.bs) hx
  have h2 := h.2.2.2.2.2
  have h3 : okM nb (c + d) m := h.mono (Nat.le_add_right _ _)
  exact ⟨h3.1, h3.2.1, h3.2.2.1, h3.2.2.2.1, by simpa using h3.2.2.2.2.1, Nat.le_trans h1 (by omega)⟩
theorem okM.setbs {nb c n : Nat} {m : Mk} (h : okM nb c m) : okM n (c + n) { m with bs := List.replicate n default } := by
  have h3 : okM nb (c + n) m := h.mono (Nat.le_add_right _ _)
  exact ⟨h3.1, h3.2.1, h3.2.2.1, h3.2.2.2.1, by simp, by show cntT (List.replicate n default) ≤ _; rw [cntT_rep]; omega⟩
section
variable {nb c : Nat} {m : Mk}
theorem take_ok (h : okM nb c m) : okM nb (c + 1) (takeS m) := h.setk (by have := h.bnd; omega) (by omega)
theorem word_ok (h : okM nb c m) : okM nb (c + 2) (wordS m) := take_ok (take_ok h)
theorem value_ok (h : okM nb c m) : okM nb (c + 2) (valueS m) := by unfold valueS; split; exact h.mono (by omega); exact take_ok (take_ok h)
theorem fresh_ok (h : okM nb c m) : okM nb (c + 1) (freshS m) := h.setnx (by have := h.bnd; omega) (by omega)
theorem makes3_len (i : D.Ins) : (makes3 i).length ≤ 2 := by unfold makes3; (repeat' split) <;> simp
theorem add_ok {b : Int} {i : D.Ins} (h : okM nb c m) (hb : b.toNat < nb) : okM nb (c + 2) (addS b i m) :=
  okM.setlv (m := { m with bs := m.bs.set b.toNat { (ix m.bs b.toNat) with Ins := (ix m.bs b.toNat).Ins ++ [i] } }) (c := c + 1) (h.setb (d := 1) (by dsimp only; rw [List.length_append]; simp only [List.length_cons, List.length_nil]; omega)) (by have := h.bnd; have := makes3_len i; simp only [List.length_append]; omega) (by omega)
theorem const_ok {b n : Int} (h : okM nb c m) (hb : b.toNat < nb) : okM nb (c + 3) (constS b n m) := add_ok (fresh_ok h) hb
theorem some0_ok (h : okM nb c m) : okM nb (c + 3) (someM0 m) := by unfold someM0; split; exact take_ok (value_ok h); exact (value_ok h).mono (by omega)
theorem some_ok {b : Int} (h : okM nb c m) (hb : b.toNat < nb) : okM nb (c + 8) (someS b m) := by
  unfold someS; split
  · exact (const_ok (word_ok (some0_ok h)) hb).mono (by omega)
  · exact (some0_ok h).mono (by omega)
theorem takeV_rng {n : Int} (hn : 0 < n) (m : Mk) : 0 ≤ takeV n m ∧ takeV n m < n := by
  unfold takeV
  generalize (if m.k < m.s.length then ix m.s m.k.toNat else 0) = x
  have h1 := Int.lt_tmod_of_pos x hn
  exact ⟨Int.tmod_nonneg _ (by omega), Int.tmod_lt_of_pos _ hn⟩
theorem word_w (m : Mk) : IntKind.i32.wrap (wordV m) = wordV m := by
  have h := takeV_rng (n := 1048576) (by omega) m
  have h2 := Int.tmod_nonneg 70000 h.1
  have h3 := Int.tmod_lt_of_pos (takeV 1048576 m) (b := 70000) (by omega)
  have h4 := Int.tmod_nonneg 20 h.1
  have h5 := Int.tmod_lt_of_pos (takeV 1048576 m) (b := 20) (by omega)
  unfold wordV
  repeat' split
  · exact wrap_wrap _ _
  all_goals exact IntWalk.i32_in _ (by omega)
theorem valueS_s : (valueS m).s = m.s := by unfold valueS; split <;> rfl
theorem addS_s {b : Int} {i : D.Ins} : (addS b i m).s = m.s := rfl
theorem constS_s {b n : Int} : (constS b n m).s = m.s := rfl
theorem someS_s {b : Int} : (someS b m).s = m.s := by unfold someS someM0; (repeat' split) <;> first | rfl | exact valueS_s
end
theorem okM.lens {nb c : Nat} {m : Mk} (h : okM nb c m) (hc : c < 1073741824) : ∀ b ∈ m.bs, b.Phis.length < 1073741824 ∧ b.Ins.length < 1073741824 := fun b hb => by
  obtain ⟨j, hj, rfl⟩ := List.getElem_of_mem hb
  have h1 := h.row (j := j) (by rw [← h.2.2.2.2.1]; exact hj)
  rw [ix_eq hj] at h1
  omega
theorem okM.s (nb c : Nat) (m : Mk) : True := trivial
abbrev okS (nb c : Nat) (S : List Int) (m : Mk) : Prop := okM nb c m ∧ m.s = S
abbrev bnd (nb c : Nat) (m : Mk) : Prop := 0 ≤ m.k ∧ m.k ≤ c ∧ 0 ≤ m.nx ∧ m.nx ≤ c ∧ 0 ≤ m.par ∧ m.par ≤ 4 ∧ m.lv.length ≤ 2 * c + 4 ∧ m.bs.length = nb ∧ cntT m.bs ≤ c
theorem okS.mono {nb c c' : Nat} {S : List Int} {m : Mk} (h : okS nb c S m) (hc : c ≤ c') : okS nb c' S m := ⟨okM.mono h.1 hc, h.2⟩
theorem okS.lens {nb c : Nat} {S : List Int} {m : Mk} (h : okS nb c S m) (hc : c < 1073741824) (hn : nb < 1073741824) : lensB m.bs := ⟨by rw [(okM.bnd h.1).2.2.2.2.2.2.2.1]; exact hn, okM.lens h.1 hc⟩
abbrev mc (m : Mk) (vs vb al : Value) : List Value := [vs, .int .i64 m.k, .int .i64 m.par, vb, .int .i64 m.nx, al]
abbrev KA (P : Program) (f : FuncId) (args : List Value) (D0 : List Dt) (g : Nat) (vs vb al : Value) (S : List Int) (m st : Mk) (val : Value) : Prop :=
  Tr P f (.pointer (some ⟨g, 0, none⟩) :: args).toArray (dv (rL (rI .i64)) vs S :: D0) [bx g 106 (mc m vs vb al)] (fun _ : Unit => val) (fun _ => []) (fun _ _ => [bx g 106 (mc st vs vb al)])
abbrev KB (P : Program) (f : FuncId) (args : List Value) (D0 : List Dt) (g : Nat) (vs vb al : Value) (S : List Int) (B B2 : Nat) (qs : List BV) (E : List Dt) (m st : Mk) (val : Value) : Prop :=
  Tr P f (.pointer (some ⟨g, 0, none⟩) :: args).toArray (dv (rL (rI .i64)) vs S :: D0) [bx g 106 (mc m vs vb al), gl B (rI .i64) 3 al m.lv, bk B2 vb qs m.bs] (fun _ : Value × List BV => val) (fun _ => E) (fun _ p => [bx g 106 (mc st vs vb p.1), gl B (rI .i64) 3 p.1 st.lv, bk B2 vb p.2 st.bs])
abbrev KD {α : Type} (P : Program) (f : FuncId) (args : List Value) (D0 : List Dt) (g : Nat) (vs vb al : Value) (S : List Int) (r : Rp α) (a : α) (m st : Mk) : Prop :=
  Tr P f (.pointer (some ⟨g, 0, none⟩) :: args).toArray (dv (rL (rI .i64)) vs S :: D0) [bx g 106 (mc m vs vb al)] (fun v : Value => v) (fun v => [dv r v a]) (fun _ _ => [bx g 106 (mc st vs vb al)])
def wf (k : IntKind) (n : Int) : Dt := ⟨fun _ => k.wrap n = n, fun _ h => h⟩
theorem wca {Γ : List Dt} {L : List Res} {k : IntKind} {a b : Int} (e : a = b) (h : Wr Γ L k b) : Nd Γ L (wf k a) := e ▸ h
theorem wfw {Γ : List Dt} {L : List Res} {k : IntKind} {a : Int} (h : Nd Γ L (wf k a)) : Wr Γ L k a := h
theorem kck {L M N Ls : List Res} {B : Nat} {v : Value} {qs : List BV} {bs bs' : List D.Block} (e : bs' = bs) (h : Tk L (bk B v qs bs) M) (h' : Tks M Ls N) : Tks L (bk B v qs bs' :: Ls) N := e ▸ kc h h'
section
variable {P : Program} {Γ Γ' E D0 : List Dt} {L M N : List Res} {e : Env} {X : Cx} {n : Fs} {w0 : World} {Q : Exit → Act → World → Prop} {ops : Array Oper} {d : Nat} {ty : TypeId} {pos : String} {af : Array Edge} {rest : List Oper} {f : FuncId} {h : Operand} {xs : List Operand} {ws : List Value} {ts : Array TypeId} {g B B2 nb c : Nat} {vs vb al val : Value} {S : List Int} {m st : Mk} {qs : List BV}
theorem ka_n (h : KA P f ws D0 g vs vb al S m st val) : KA P f (ws ++ []) D0 g vs vb al S m st val := by rw [List.append_nil]; exact h
theorem kb_n (h : KB P f ws D0 g vs vb al S B B2 qs E m st val) : KB P f (ws ++ []) D0 g vs vb al S B B2 qs E m st val := by rw [List.append_nil]; exact h
theorem jka (hE : Ent P f) (hf : ev e h = some (.func (.func f) #[] #[])) (hl : evl e xs = some (.pointer (some ⟨g, 0, none⟩) :: ws)) (hT : KA P f ws D0 g vs vb al S m st val) (hd : Sd Γ L (dv (rL (rI .i64)) vs S :: D0)) (hk : Tk L (bx g 106 (mc m vs vb al)) M) (ok : okS nb c S st)
    (k : ∀ x, x = st → okS nb c S x → bnd nb c x → LH P n w0 ops Q X Γ (bx g 106 (mc x vs vb al) :: M) ((d, val) :: e) rest) (hd1 : Nat.blt d n.sz = true := by rfl) : LH P n w0 ops Q X Γ L e (⟨some d, .call { callee := .value h, args := xs.toArray, argTypes := ts }, ty, pos, af, none⟩ :: rest) :=
  jc (cs := []) hE hf hl (ka_n hT) hd (kc hk kn) (fun _ => rfl) (fun _ => rfl) (fun _ => k st rfl ok (okM.bnd ok.1)) hd1
theorem tks1 {A : Res} {Ls : List Res} (h : Tks L (A :: Ls) M) : Tks L [A] (Ls ++ M) where
  ok := fun o => by
    obtain ⟨⟨a, b, c⟩, m, dj⟩ := h.ok o
    exact ⟨⟨a, fun _ _ => id, trivial⟩, Ok.app c m (fun k hk => dj k (.inr hk)), fun k hk ho => (Own.app.1 ho).elim (fun h2 => b k (hk.resolve_right id) h2) (dj k (.inl (hk.resolve_right id)))⟩
  own := fun ho => h.own (ho.elim (fun h => .inl (.inl (h.resolve_right id))) (fun h => (Own.app.1 h).imp .inr id))
theorem jkr (hE : Ent P f) (hf : ev e h = some (.func (.func f) #[] #[])) (hl : evl e xs = some (.pointer (some ⟨g, 0, none⟩) :: ws)) (hT : KA P f ws D0 g vs vb al S m st val) (hd : Sd Γ L (dv (rL (rI .i64)) vs S :: D0)) (hk : Tks L [bx g 106 (mc m vs vb al), gl B (rI .i64) 3 al m.lv, bk B2 vb qs m.bs] M) (ok : okS nb c S st)
    (k : ∀ x, x = st → okS nb c S x → bnd nb c x → LH P n w0 ops Q X Γ (bx g 106 (mc x vs vb al) :: gl B (rI .i64) 3 al x.lv :: bk B2 vb qs x.bs :: M) ((d, val) :: e) rest) (h1 : st.lv = m.lv := by rfl) (h2 : st.bs = m.bs := by rfl) (hd1 : Nat.blt d n.sz = true := by rfl) : LH P n w0 ops Q X Γ L e (⟨some d, .call { callee := .value h, args := xs.toArray, argTypes := ts }, ty, pos, af, none⟩ :: rest) :=
  jc (cs := []) hE hf hl (ka_n hT) hd (tks1 hk) (fun _ => rfl) (fun _ => rfl) (fun _ => by have := k st rfl ok (okM.bnd ok.1); rw [h1, h2] at this; exact this) hd1
theorem jkb (hE : Ent P f) (hf : ev e h = some (.func (.func f) #[] #[])) (hl : evl e xs = some (.pointer (some ⟨g, 0, none⟩) :: ws)) (hT : KB P f ws D0 g vs vb al S B B2 qs E m st val) (hd : Sd Γ L (dv (rL (rI .i64)) vs S :: D0)) (hk : Tks L [bx g 106 (mc m vs vb al), gl B (rI .i64) 3 al m.lv, bk B2 vb qs m.bs] M) (ok : okS nb c S st) (hp : Ap E Γ Γ')
    (k : ∀ x, x = st → okS nb c S x → bnd nb c x → ∀ al' qs', Sv al' → LH P n w0 ops Q X Γ' (bx g 106 (mc x vs vb al') :: gl B (rI .i64) 3 al' x.lv :: bk B2 vb qs' x.bs :: M) ((d, val) :: e) rest) (hd1 : Nat.blt d n.sz = true := by rfl) : LH P n w0 ops Q X Γ L e (⟨some d, .call { callee := .value h, args := xs.toArray, argTypes := ts }, ty, pos, af, none⟩ :: rest) :=
  jc (cs := []) hE hf hl (kb_n hT) hd hk (fun _ => hp) (fun _ => rfl) (fun p => jgo k1 fun h9 => k st rfl ok (okM.bnd ok.1) p.1 p.2 h9) hd1
theorem jkg {j t : Nat} {want Bb : Bool} {u : Value} (hj : (ops[j]?).bind (·.dst) = some t) (hu : lk e t = some u) (hB : Gd u want Bb) (hE : Ent P f) (hf : ev e h = some (.func (.func f) #[] #[])) (hl : Bb = true → evl e xs = some (.pointer (some ⟨g, 0, none⟩) :: ws)) (hT : KA P f ws D0 g vs vb al S m st val) (hd : Sd Γ L (dv (rL (rI .i64)) vs S :: D0)) (hk : Tks L [bx g 106 (mc m vs vb al), gl B (rI .i64) 3 al m.lv, bk B2 vb qs m.bs] M) (ok : okS nb c S (if Bb then st else m))
    (k : ∀ x, x = (if Bb then st else m) → okS nb c S x → bnd nb c x → LH P n w0 ops Q X Γ (bx g 106 (mc x vs vb al) :: gl B (rI .i64) 3 al x.lv :: bk B2 vb qs x.bs :: M) ((d, gv Bb val) :: e) rest) (h1 : st.lv = m.lv := by rfl) (h2 : st.bs = m.bs := by rfl) (hd1 : Nat.blt d n.sz = true := by rfl) (ht : Nat.blt t n.sz = true := by rfl) : LH P n w0 ops Q X Γ L e (⟨some d, .call { callee := .value h, args := xs.toArray, argTypes := ts }, ty, pos, af, some (j, want)⟩ :: rest) := fun F H hp => by
  have hk1 := tks1 hk
  refine LF.gcallF hj hu hB (fun hb => OpCall.fnc (cs := []) hE hf (hl hb)) (fun _ => (ka_n hT).run hp hd hk1) (fun v' H' hz => ?_) hd1 ht
  rcases hz with ⟨hb, _, F', rfl, h9⟩ | ⟨hb, rfl⟩
  · subst hb
    have := k st (by simp) (by simpa using ok) (okM.bnd (by simpa using ok.1))
    rw [h1, h2] at this
    exact this F' H' h9
  · subst hb
    have := k m (by simp) (by simpa using ok) (okM.bnd (by simpa using ok.1))
    exact this F _ (hp_tks hp hk)
theorem jkga {j t : Nat} {want Bb : Bool} {u : Value} (hj : (ops[j]?).bind (·.dst) = some t) (hu : lk e t = some u) (hB : Gd u want Bb) (hE : Ent P f) (hf : ev e h = some (.func (.func f) #[] #[])) (hl : Bb = true → evl e xs = some (.pointer (some ⟨g, 0, none⟩) :: ws)) (hT : KA P f ws D0 g vs vb al S m st val) (hd : Sd Γ L (dv (rL (rI .i64)) vs S :: D0)) (hk : Tk L (bx g 106 (mc m vs vb al)) M) (ok : okS nb c S (if Bb then st else m))
    (k : ∀ x, x = (if Bb then st else m) → okS nb c S x → bnd nb c x → LH P n w0 ops Q X Γ (bx g 106 (mc x vs vb al) :: M) ((d, gv Bb val) :: e) rest) (hd1 : Nat.blt d n.sz = true := by rfl) (ht : Nat.blt t n.sz = true := by rfl) : LH P n w0 ops Q X Γ L e (⟨some d, .call { callee := .value h, args := xs.toArray, argTypes := ts }, ty, pos, af, some (j, want)⟩ :: rest) := fun F H hp => by
  refine LF.gcallF hj hu hB (fun hb => OpCall.fnc (cs := []) hE hf (hl hb)) (fun _ => (ka_n hT).run hp hd hk.tks) (fun v' H' hz => ?_) hd1 ht
  rcases hz with ⟨hb, _, F', rfl, h9⟩ | ⟨hb, rfl⟩
  · subst hb
    exact k st (by simp) (by simpa using ok) (okM.bnd (by simpa using ok.1)) F' H' h9
  · subst hb
    exact k m (by simp) (by simpa using ok) (okM.bnd (by simpa using ok.1)) F _ (hp.front hk)
theorem jkd {α : Type} {r : Rp α} {N' : Nat} {a : List α} (hE : Ent P f) (hf : ev e h = some (.func (.func f) #[] #[])) (hl : evl e xs = some (.pointer (some ⟨g, 0, none⟩) :: ws)) (hT : KD P f (ws ++ []) D0 g vs vb al S (rLn N' r) a m st) (hd : Sd Γ L (dv (rL (rI .i64)) vs S :: D0)) (hk : Tks L [bx g 106 (mc m vs vb al), gl B (rI .i64) 3 al m.lv, bk B2 vb qs m.bs] M) (ok : okS nb c S st)
    (k : ∀ x, x = st → okS nb c S x → bnd nb c x → ∀ v, Qn N' a.length → Sv v → LH P n w0 ops Q X (dv (rLn N' r) v a :: Γ) (bx g 106 (mc x vs vb al) :: gl B (rI .i64) 3 al x.lv :: bk B2 vb qs x.bs :: M) ((d, v) :: e) rest) (h1 : st.lv = m.lv := by rfl) (h2 : st.bs = m.bs := by rfl) (hd1 : Nat.blt d n.sz = true := by rfl) : LH P n w0 ops Q X Γ L e (⟨some d, .call { callee := .value h, args := xs.toArray, argTypes := ts }, ty, pos, af, none⟩ :: rest) :=
  jc (cs := []) hE hf hl hT hd (tks1 hk) (fun _ => rfl) (fun _ => rfl) (fun v => jdq d0 fun h8 h9 => by have := k st rfl ok (okM.bnd ok.1) v h8 h9; rw [h1, h2] at this; exact this) hd1
theorem jkn (st : Mk) (hk : Tks L [bx g 106 (mc st vs vb al), gl B (rI .i64) 3 al st.lv, bk B2 vb qs st.bs] M) (ok : okS nb c S st)
    (k : ∀ x, x = st → okS nb c S x → bnd nb c x → LH P n w0 ops Q X Γ (bx g 106 (mc x vs vb al) :: gl B (rI .i64) 3 al x.lv :: bk B2 vb qs x.bs :: M) e rest) : LH P n w0 ops Q X Γ L e rest := fun F H hp => k st rfl ok (okM.bnd ok.1) F H (hp_tks hp hk)
theorem jkna (st : Mk) (hk : Tk L (bx g 106 (mc st vs vb al)) M) (ok : okS nb c S st)
    (k : ∀ x, x = st → okS nb c S x → bnd nb c x → LH P n w0 ops Q X Γ (bx g 106 (mc x vs vb al) :: M) e rest) : LH P n w0 ops Q X Γ L e rest := fun F H hp => k st rfl ok (okM.bnd ok.1) F H (hp.front hk)
end
theorem F106_0 : Fld Tryz.prog 106 0 0 := ⟨_, _, Tryz.underlying106, rfl, rfl, 1, (by unfold Sz; kernel_rfl), by decide⟩
theorem F106_1 : Fld Tryz.prog 106 1 1 := ⟨_, _, Tryz.underlying106, rfl, rfl, 1, (by unfold Sz; kernel_rfl), by decide⟩
set_option maxRecDepth 4000 in
theorem m3take_ct {vs vb al : Value} {m : Mk} {nb c : Nat} {S : List Int} {g0 : Nat} (hok : okS nb c S m) (hc : c ≤ 1000000) (n : Int) (hn9 : 0 < n ∧ n ≤ 1000000000) : KA Tryz.prog 54 [.int .i64 n] [] g0 vs vb al S m (takeS m) (.int .i64 (takeV n m)) := by
  refine jenter (args := [.pointer (some ⟨g0, 0, none⟩), .int .i64 n]) Tryz.func54 rfl rfl rfl fun w0 X => ?_
  have bd0 := okM.bnd hok.1
  refine jq (jr (ja Z (jn (jx (jq (jr (ja Z (jn (jx (jq (jq ?_)))))))))))
  refine jstl Mixed (by kernel_rfl) (jt (jmv Z) (jt (jnil Z) (jt (jf F106_1 Z) (jt (jl k0 O3 Z Z) (jt (jmv Z) (jt (jnil Z) (jt (jf F106_0 Z) (jt (jl k0 O22 Z Z) (tdq d0 fun q1 w1 => jt (jln U22 d0 Z) (jt (jlss Z Z) ?_))))))))))
  refine jdn (jx ?_)
  refine jif Z (fun hc1 => ?_) (fun hc1 => ?_)
  refine jstl Mixed (by kernel_rfl) (jt (jmv Z) (jt (jnil Z) (jt (jf F106_0 Z) (jt (jl k0 O22 Z Z) (jt (jmv Z) (jt (jnil Z) (jt (jf F106_1 Z) (jt (jl k0 O3 Z Z) (jt (jix (i := (Int.toNat m.k)) U22 Z3 d0 Z Z (by omega) (by omega)) (jt (jlI (dix d0 (Int.toNat m.k) (by omega)) O3 Z) (jt (jas Z) ?_)))))))))))
  refine jdn (jx (jq (jr (jm Z (jm Z (js (jnil Z) (js (jf F106_1 Z) (js (jl k0 O3 Z Z) (js (jadd Z Z (by omega)) (js (jnil Z) (js (jf F106_1 Z) ?_)))))))))))
  refine jst k0 Z3 Z Z Z s1 (jkna (c := c + 1) ({ m with k := m.k + 1 }) k0 ⟨(okM.setk hok.1 (by omega) (by omega)), hok.2⟩ fun ms2 hms2 oms2 bms2 => ?_)
  clear bd0
  refine jn (jx (jq (jr (jm Z (jm Z (js (jrem Z Z (by omega)) (jm Z ?_)))))))
  have hz1 := Int.tmod_lt_of_pos (ix S (Int.toNat m.k)) hn9.1
  have hz2 := Int.lt_tmod_of_pos (ix S (Int.toNat m.k)) hn9.1
  refine js (jadd Z Z (by omega)) (jm Z (js (jrem Z Z (by omega)) (ja Z (jn (jx (jrt ?_))))))
  have hv0 : takeV n m = (Int.tmod ((Int.tmod (ix S (Int.toNat m.k)) n) + n) n) := (by (try simp only [hms2] at hc1); (try simp only [hms2]); simp only [takeV, hok.2]; simp [*])
  have hst : ms2 = takeS m := (by (try simp only [hms2] at hc1); (try simp only [hms2]); all_goals first | rfl | (simp [takeV, takeS, hc1]; done) | (simp [takeV, takeS, hc1]; rfl) | (unfold takeV takeS; (repeat' split) <;> first | rfl | (exfalso; omega) | (simp [hc1] at *; done) | (simp_all; done)))
  exact jr1 Z Z () (by rw [hv0] <;> rfl) dn (fun _ _ => (kcb (by rw [← hst]) k0 kn))
  refine jsk (jx (jq (jr (jm Z (jm Z (js (jnil Z) (js (jf F106_1 Z) (js (jl k0 O3 Z Z) (js (jadd Z Z (by omega)) (js (jnil Z) (js (jf F106_1 Z) ?_)))))))))))
  refine jst k0 Z3 Z Z Z s1 (jkna (c := c + 1) ({ m with k := m.k + 1 }) k0 ⟨(okM.setk hok.1 (by omega) (by omega)), hok.2⟩ fun ms3 hms3 oms3 bms3 => ?_)
  clear bd0
  refine jn (jx (jq (jr (jm Z (jm Z (js (jrem Z Z (by omega)) (jm Z ?_)))))))
  have hz1 := Int.tmod_lt_of_pos 0 hn9.1
  have hz2 := Int.lt_tmod_of_pos 0 hn9.1
  refine js (jadd Z Z (by omega)) (jm Z (js (jrem Z Z (by omega)) (ja Z (jn (jx (jrt ?_))))))
  have hv0 : takeV n m = (Int.tmod ((Int.tmod 0 n) + n) n) := (by (try simp only [hms3] at hc1); (try simp only [hms3]); simp only [takeV, hok.2]; simp [*])
  have hst : ms3 = takeS m := (by (try simp only [hms3] at hc1); (try simp only [hms3]); all_goals first | rfl | (simp [takeV, takeS, hc1]; done) | (simp [takeV, takeS, hc1]; rfl) | (unfold takeV takeS; (repeat' split) <;> first | rfl | (exfalso; omega) | (simp [hc1] at *; done) | (simp_all; done)))
  exact jr1 Z Z () (by rw [hv0] <;> rfl) dn (fun _ _ => (kcb (by rw [← hst]) k0 kn))
theorem E54 : Ent Tryz.prog 54 := ⟨_, Tryz.func54, by kernel_rfl, by kernel_rfl⟩
theorem F106_3 : Fld Tryz.prog 106 3 4 := ⟨_, _, Tryz.underlying106, rfl, rfl, 1, (by unfold Sz; kernel_rfl), by decide⟩
theorem F106_4 : Fld Tryz.prog 106 4 5 := ⟨_, _, Tryz.underlying106, rfl, rfl, 1, (by unfold Sz; kernel_rfl), by decide⟩
theorem F163_0 : Fld Tryz.prog 163 0 0 := ⟨_, _, Tryz.underlying163, rfl, rfl, 1, (by unfold Sz; kernel_rfl), by decide⟩
theorem F163_1 : Fld Tryz.prog 163 1 1 := ⟨_, _, Tryz.underlying163, rfl, rfl, 1, (by unfold Sz; kernel_rfl), by decide⟩
theorem F163_2 : Fld Tryz.prog 163 2 2 := ⟨_, _, Tryz.underlying163, rfl, rfl, 1, (by unfold Sz; kernel_rfl), by decide⟩
set_option maxRecDepth 4000 in
theorem m3fresh_ct {vs vb al : Value} {m : Mk} {nb c : Nat} {S : List Int} {g0 : Nat} (hok : okS nb c S m) (hc : c ≤ 1000000) : KA Tryz.prog 99 [] [] g0 vs vb al S m (freshS m) (.int .i64 m.nx) := by
  refine jenter (args := [.pointer (some ⟨g0, 0, none⟩)]) Tryz.func99 rfl rfl rfl fun w0 X => ?_
  have bd0 := okM.bnd hok.1
  refine jq (jr (ja Z (jn (jx (jq (jr (jm Z (jm Z (js (jnil Z) (js (jf F106_3 Z) (js (jl k0 O3 Z Z) ?_)))))))))))
  refine js (jadd Z Z (by omega)) (js (jnil Z) (js (jf F106_3 Z) (jst k0 Z3 Z Z Z s4 (jkna (c := c + 1) ({ m with nx := m.nx + 1 }) k0 ⟨(okM.setnx hok.1 (by omega) (by omega)), hok.2⟩ fun ms1 hms1 oms1 bms1 => ?_))))
  clear bd0
  refine jn (jx (jq (jr (jm Z (js (jnil Z) (js (jf F106_3 Z) (js (jl k0 O3 Z Z) (js (jsub Z Z (by omega)) (ja Z (jn (jx ?_)))))))))))
  refine jrt ?_
  have hv0 : m.nx = (ms1.nx - 1) := (by (try simp only [hms1]); simp)
  have hst : ms1 = freshS m := (by (try simp only [hms1]); all_goals first | rfl | (simp [freshS]; done) | (simp [freshS]; rfl) | (unfold freshS; (repeat' split) <;> first | rfl | (exfalso; omega) | (simp [] at *; done) | (simp_all; done)))
  exact jr1 Z Z () (by rw [hv0] <;> rfl) dn (fun _ _ => (kcb (by rw [← hst]) k0 kn))
set_option maxRecDepth 4000 in
theorem m3word_ct {vs vb al : Value} {m : Mk} {nb c : Nat} {S : List Int} {g0 : Nat} (hok : okS nb c S m) (hc : c ≤ 990000) : KA Tryz.prog 53 [] [] g0 vs vb al S m (wordS m) (.int .i32 (wordV m)) := by
  refine jenter (args := [.pointer (some ⟨g0, 0, none⟩)]) Tryz.func53 rfl rfl rfl fun w0 X => ?_
  have bd0 := okM.bnd hok.1
  refine jq (jr (ja Z (jn (jx (jq (jr (jm Z (jka E54 Z Z (m3take_ct hok (by omega) 1048576 (by omega)) (dc d0 dn) k0 ⟨take_ok hok.1, hok.2⟩ fun m5 hm5 om5 bm5 => ?_))))))))
  have w5_0 : IntKind.i64.wrap (takeV 1048576 m) = takeV 1048576 m := (IntWalk.i64_in _ (by have h9 := @takeV_rng 1048576 (by omega) m; omega))
  have tr5 := @takeV_rng 1048576 (by omega) m
  clear bd0
  refine ja Z (jn (jx (jq (jq (jr (jm Z (jka E54 Z Z (m3take_ct om5 (by omega) 8 (by omega)) (dc d0 dn) k0 ⟨take_ok om5.1, om5.2⟩ fun m7 hm7 om7 bm7 => ?_)))))))
  have w7_0 : IntKind.i64.wrap (takeV 8 m5) = takeV 8 m5 := (IntWalk.i64_in _ (by have h9 := @takeV_rng 8 (by omega) m5; omega))
  have tr7 := @takeV_rng 8 (by omega) m5
  clear bm5
  refine jn (jx (jb (jq (jr (js (jeql Z Z) (ja Z (jn (jx ?_))))))))
  refine jif Z (fun hc1 => ?_) (fun hc1 => ?_)
  refine jq (jr (jm Z (js (jmul Z Z (by omega)) (js (jco U3 U21 Z Z) (ja Z (jn (jx (jrt (jbr (jtr ?_))))))))))
  have hv0 : wordV m = (IntKind.i32.wrap ((takeV 1048576 m) * 4099)) := (by (try simp only [hm5, hm7] at hc1); (try simp only [hm5, hm7]); have w1 : IntKind.i64.wrap (0 - takeV 1048576 m) = 0 - takeV 1048576 m := IntWalk.i64_in _ (by omega); have w2 : IntKind.i32.wrap (0 - takeV 1048576 m) = 0 - takeV 1048576 m := IntWalk.i32_in _ (by omega); have a1 := Int.tmod_nonneg 70000 tr5.1; have a2 := Int.tmod_lt_of_pos (takeV 1048576 m) (b := 70000) (by omega); have a3 := Int.tmod_nonneg 20 tr5.1; have a4 := Int.tmod_lt_of_pos (takeV 1048576 m) (b := 20) (by omega); have w3 : IntKind.i32.wrap (Int.tmod (takeV 1048576 m) 70000) = Int.tmod (takeV 1048576 m) 70000 := IntWalk.i32_in _ (by omega); have w4 : IntKind.i32.wrap (Int.tmod (takeV 1048576 m) 20 - 4) = Int.tmod (takeV 1048576 m) 20 - 4 := IntWalk.i32_in _ (by omega); first | (rw [w1, w2]; simp [wordV, hc1]; done) | (rw [w3]; simp [wordV, hc1]; done) | (rw [w4]; simp [wordV, hc1]; done) | (simp [wordV, hc1]; done))
  have hst : m7 = wordS m := (by (try simp only [hm5, hm7] at hc1); (try simp only [hm5, hm7]); all_goals first | rfl | (simp [wordV, wordS, hc1]; done) | (simp [wordV, wordS, hc1]; rfl) | (unfold wordV wordS; (repeat' split) <;> first | rfl | (exfalso; omega) | (simp [hc1] at *; done) | (simp_all; done)))
  exact jr1 Z Z () (by rw [hv0] <;> rfl) dn (fun _ _ => (kcb (by rw [← hst]) k0 kn))
  refine jq (jr (js (jeql Z Z) (ja Z (jn (jx ?_)))))
  refine jif Z (fun hc2 => ?_) (fun hc2 => ?_)
  refine jq (jr (jm Z (js (jneg Z) (js (jco U3 U21 Z Z) (ja Z (jn (jx (jrt (jbr (jtr ?_))))))))))
  have hv0 : wordV m = (IntKind.i32.wrap (IntKind.i64.wrap (0 - (takeV 1048576 m)))) := (by (try simp only [hm5, hm7] at hc1 hc2); (try simp only [hm5, hm7]); have w1 : IntKind.i64.wrap (0 - takeV 1048576 m) = 0 - takeV 1048576 m := IntWalk.i64_in _ (by omega); have w2 : IntKind.i32.wrap (0 - takeV 1048576 m) = 0 - takeV 1048576 m := IntWalk.i32_in _ (by omega); have a1 := Int.tmod_nonneg 70000 tr5.1; have a2 := Int.tmod_lt_of_pos (takeV 1048576 m) (b := 70000) (by omega); have a3 := Int.tmod_nonneg 20 tr5.1; have a4 := Int.tmod_lt_of_pos (takeV 1048576 m) (b := 20) (by omega); have w3 : IntKind.i32.wrap (Int.tmod (takeV 1048576 m) 70000) = Int.tmod (takeV 1048576 m) 70000 := IntWalk.i32_in _ (by omega); have w4 : IntKind.i32.wrap (Int.tmod (takeV 1048576 m) 20 - 4) = Int.tmod (takeV 1048576 m) 20 - 4 := IntWalk.i32_in _ (by omega); first | (rw [w1, w2]; simp [wordV, hc1, hc2]; done) | (rw [w3]; simp [wordV, hc1, hc2]; done) | (rw [w4]; simp [wordV, hc1, hc2]; done) | (simp [wordV, hc1, hc2]; done))
  have hst : m7 = wordS m := (by (try simp only [hm5, hm7] at hc1 hc2); (try simp only [hm5, hm7]); all_goals first | rfl | (simp [wordV, wordS, hc1, hc2]; done) | (simp [wordV, wordS, hc1, hc2]; rfl) | (unfold wordV wordS; (repeat' split) <;> first | rfl | (exfalso; omega) | (simp [hc1, hc2] at *; done) | (simp_all; done)))
  exact jr1 Z Z () (by rw [hv0] <;> rfl) dn (fun _ _ => (kcb (by rw [← hst]) k0 kn))
  refine jq (jr (js (jeql Z Z) (ja Z (jn (jx ?_)))))
  refine jif Z (fun hc3 => ?_) (fun hc3 => ?_)
  refine jq (jr (ja Z (jn (jx (jrt (jbr (jtr ?_)))))))
  have hv0 : wordV m = (-2147483648) := (by (try simp only [hm5, hm7] at hc1 hc2 hc3); (try simp only [hm5, hm7]); have w1 : IntKind.i64.wrap (0 - takeV 1048576 m) = 0 - takeV 1048576 m := IntWalk.i64_in _ (by omega); have w2 : IntKind.i32.wrap (0 - takeV 1048576 m) = 0 - takeV 1048576 m := IntWalk.i32_in _ (by omega); have a1 := Int.tmod_nonneg 70000 tr5.1; have a2 := Int.tmod_lt_of_pos (takeV 1048576 m) (b := 70000) (by omega); have a3 := Int.tmod_nonneg 20 tr5.1; have a4 := Int.tmod_lt_of_pos (takeV 1048576 m) (b := 20) (by omega); have w3 : IntKind.i32.wrap (Int.tmod (takeV 1048576 m) 70000) = Int.tmod (takeV 1048576 m) 70000 := IntWalk.i32_in _ (by omega); have w4 : IntKind.i32.wrap (Int.tmod (takeV 1048576 m) 20 - 4) = Int.tmod (takeV 1048576 m) 20 - 4 := IntWalk.i32_in _ (by omega); first | (rw [w1, w2]; simp [wordV, hc1, hc2, hc3]; done) | (rw [w3]; simp [wordV, hc1, hc2, hc3]; done) | (rw [w4]; simp [wordV, hc1, hc2, hc3]; done) | (simp [wordV, hc1, hc2, hc3]; done))
  have hst : m7 = wordS m := (by (try simp only [hm5, hm7] at hc1 hc2 hc3); (try simp only [hm5, hm7]); all_goals first | rfl | (simp [wordV, wordS, hc1, hc2, hc3]; done) | (simp [wordV, wordS, hc1, hc2, hc3]; rfl) | (unfold wordV wordS; (repeat' split) <;> first | rfl | (exfalso; omega) | (simp [hc1, hc2, hc3] at *; done) | (simp_all; done)))
  exact jr1 Z Z () (by rw [hv0] <;> rfl) dn (fun _ _ => (kcb (by rw [← hst]) k0 kn))
  refine jq (jr (js (jeql Z Z) (ja Z (jn (jx ?_)))))
  refine jif Z (fun hc4 => ?_) (fun hc4 => ?_)
  refine jq (jr (jm Z (js (jrem Z Z (by decide)) (js (jco U3 U21 Z Z) (ja Z (jn (jx (jrt (jbr (jtr ?_))))))))))
  have hv0 : wordV m = (IntKind.i32.wrap (Int.tmod (takeV 1048576 m) 70000)) := (by (try simp only [hm5, hm7] at hc1 hc2 hc3 hc4); (try simp only [hm5, hm7]); have w1 : IntKind.i64.wrap (0 - takeV 1048576 m) = 0 - takeV 1048576 m := IntWalk.i64_in _ (by omega); have w2 : IntKind.i32.wrap (0 - takeV 1048576 m) = 0 - takeV 1048576 m := IntWalk.i32_in _ (by omega); have a1 := Int.tmod_nonneg 70000 tr5.1; have a2 := Int.tmod_lt_of_pos (takeV 1048576 m) (b := 70000) (by omega); have a3 := Int.tmod_nonneg 20 tr5.1; have a4 := Int.tmod_lt_of_pos (takeV 1048576 m) (b := 20) (by omega); have w3 : IntKind.i32.wrap (Int.tmod (takeV 1048576 m) 70000) = Int.tmod (takeV 1048576 m) 70000 := IntWalk.i32_in _ (by omega); have w4 : IntKind.i32.wrap (Int.tmod (takeV 1048576 m) 20 - 4) = Int.tmod (takeV 1048576 m) 20 - 4 := IntWalk.i32_in _ (by omega); first | (rw [w1, w2]; simp [wordV, hc1, hc2, hc3, hc4]; done) | (rw [w3]; simp [wordV, hc1, hc2, hc3, hc4]; done) | (rw [w4]; simp [wordV, hc1, hc2, hc3, hc4]; done) | (simp [wordV, hc1, hc2, hc3, hc4]; done))
  have hst : m7 = wordS m := (by (try simp only [hm5, hm7] at hc1 hc2 hc3 hc4); (try simp only [hm5, hm7]); all_goals first | rfl | (simp [wordV, wordS, hc1, hc2, hc3, hc4]; done) | (simp [wordV, wordS, hc1, hc2, hc3, hc4]; rfl) | (unfold wordV wordS; (repeat' split) <;> first | rfl | (exfalso; omega) | (simp [hc1, hc2, hc3, hc4] at *; done) | (simp_all; done)))
  exact jr1 Z Z () (by rw [hv0] <;> rfl) dn (fun _ _ => (kcb (by rw [← hst]) k0 kn))
  refine jsk (jbn (jx (jq (jr (jm Z (js (jrem Z Z (by decide)) ?_))))))
  have b3 := Int.tmod_nonneg 20 tr5.1
  have b4 := Int.tmod_lt_of_pos (takeV 1048576 m) (b := 20) (by omega)
  refine js (jsub Z Z (by omega)) (js (jco U3 U21 Z Z) (ja Z (jn (jx (jrt ?_)))))
  have hv0 : wordV m = (IntKind.i32.wrap ((Int.tmod (takeV 1048576 m) 20) - 4)) := (by (try simp only [hm5, hm7] at hc1 hc2 hc3 hc4); (try simp only [hm5, hm7]); have w1 : IntKind.i64.wrap (0 - takeV 1048576 m) = 0 - takeV 1048576 m := IntWalk.i64_in _ (by omega); have w2 : IntKind.i32.wrap (0 - takeV 1048576 m) = 0 - takeV 1048576 m := IntWalk.i32_in _ (by omega); have a1 := Int.tmod_nonneg 70000 tr5.1; have a2 := Int.tmod_lt_of_pos (takeV 1048576 m) (b := 70000) (by omega); have a3 := Int.tmod_nonneg 20 tr5.1; have a4 := Int.tmod_lt_of_pos (takeV 1048576 m) (b := 20) (by omega); have w3 : IntKind.i32.wrap (Int.tmod (takeV 1048576 m) 70000) = Int.tmod (takeV 1048576 m) 70000 := IntWalk.i32_in _ (by omega); have w4 : IntKind.i32.wrap (Int.tmod (takeV 1048576 m) 20 - 4) = Int.tmod (takeV 1048576 m) 20 - 4 := IntWalk.i32_in _ (by omega); first | (rw [w1, w2]; simp [wordV, hc1, hc2, hc3, hc4]; done) | (rw [w3]; simp [wordV, hc1, hc2, hc3, hc4]; done) | (rw [w4]; simp [wordV, hc1, hc2, hc3, hc4]; done) | (simp [wordV, hc1, hc2, hc3, hc4]; done))
  have hst : m7 = wordS m := (by (try simp only [hm5, hm7] at hc1 hc2 hc3 hc4); (try simp only [hm5, hm7]); all_goals first | rfl | (simp [wordV, wordS, hc1, hc2, hc3, hc4]; done) | (simp [wordV, wordS, hc1, hc2, hc3, hc4]; rfl) | (unfold wordV wordS; (repeat' split) <;> first | rfl | (exfalso; omega) | (simp [hc1, hc2, hc3, hc4] at *; done) | (simp_all; done)))
  exact jr1 Z Z () (by rw [hv0] <;> rfl) dn (fun _ _ => (kcb (by rw [← hst]) k0 kn))
theorem r3makes_ct {a0 : Value} {i : D.Ins} : Td Tryz.prog 101 #[vIns i a0] [da rIns (vIns i a0) i] [] (rL (rI .i64)) (makes3 i) := by
  refine jenter (args := [vIns i a0]) Tryz.func101 rfl rfl rfl fun w0 X => ?_
  refine jq (jr (jbox Z Z fun g1 => ja Z (jn (jx (jq (jq (jr (js (jf F163_0 Z) (js (jl k0 O3 Z Z) (jn ?_))))))))))
  refine jx (jb (jq (jr (js (jeql Z Z) (ja Z (jn (jx ?_)))))))
  refine jif Z (fun hc1 => ?_) (fun hc1 => ?_)
  refine jq (jr (ja Z (jn (jx (jrt (jbr (jtr ?_)))))))
  exact jrD Z Z (by simp [makes3, *]) wN
  refine jq (jr (js (jeql Z Z) (ja Z (jn (jx ?_)))))
  refine jif Z (fun hc2 => ?_) (fun hc2 => ?_)
  refine jq (jr (js (jf F163_1 Z) (js (jl k0 O3 Z Z) (js (jf F163_2 Z) (js (jl k0 O3 Z Z) (jlit (r := (rI .i64)) (l := [i.Dst, i.Two]) U22 I3 (by decide) Z Z Z (lV Z Z (wI (rIns.W_Dst d0)) (lV Z Z (wI (rIns.W_Two d0)) ln)) fun g13 => ja Z (jn (jx (jrt (jbr ?_))))))))))
  refine jtr (qfz k0 (by (try simp) <;> omega) ?_)
  exact jrD Z Z (by simp [makes3, *]) d0
  refine jsk (jbn (jx (jq (jr (js (jf F163_1 Z) (js (jl k0 O3 Z Z) (jlit (r := (rI .i64)) (l := [i.Dst]) U22 I3 (by decide) Z Z Z (lV Z Z (wI (rIns.W_Dst d0)) ln) fun g16 => ja Z (jn (jx (jrt ?_))))))))))
  refine qfz k0 (by (try simp) <;> omega) ?_
  exact jrD Z Z (by simp [makes3, *]) d0
set_option maxRecDepth 4000 in
theorem m3value_ct {vs vb al : Value} {m : Mk} {nb c : Nat} {S : List Int} {g0 : Nat} {B0 B1 : Nat} {qs : List BV} (hok : okS nb c S m) (hc : c ≤ 990000) : KB Tryz.prog 170 [] [] g0 vs vb al S B0 B1 qs [wf .i64 (valueV m)] m (valueS m) (.tuple #[.int .i64 (valueV m), .bool (valueB m)]) := by
  refine jenter (args := [.pointer (some ⟨g0, 0, none⟩)]) Tryz.func170 rfl rfl rfl fun w0 X => ?_
  refine cgo k1 fun w1 => ?_
  have bd0 := okM.bnd hok.1
  refine cbk k2 (okM.bnd hok.1).2.2.2.2.2.2.2.1 fun hvb => jq (jr (ja Z (ja Z (jn (jx (jq (jq (jr (jm Z (js (jnil Z) ?_))))))))))
  refine js (jf F106_4 Z) (js (jl k0 O22 Z Z) (js (jlg U22 k1 Z) (js (jeql Z Z) (jn (jx ?_)))))
  refine jif Z (fun hc1 => ?_) (fun hc1 => ?_)
  have hz : m.lv.length = 0 := by omega
  refine jq (jr (ja Z (ja Z (jn (jx (jrt (jtr ?_)))))))
  have hv0 : valueV m = 0 := (by first | (simp [valueV, valueB, valueS, valueI, hz]; done) | (simp [valueV, valueB, valueS, valueI, hz]; rfl))
  have hv1 : valueB m = false := (by first | (simp [valueV, valueB, valueS, valueI, hz]; done) | (simp [valueV, valueB, valueS, valueI, hz]; rfl))
  have hst : m = valueS m := (by first | (simp [valueV, valueB, valueS, valueI, hz]; done) | (simp [valueV, valueB, valueS, valueI, hz]; rfl))
  exact jr2 Z Z Z (al, qs) (by rw [hv0, hv1] <;> rfl) (dc (wca hv0 (wl 0)) dn) (fun _ _ => (kcb (by rw [← hst]) k0 (kcg (by rw [← hst]) k0 (kck (by rw [← hst]) k0 kn))))
  have hz : ¬ m.lv.length = 0 := by omega
  refine jsk (jx (jq (jr (jm Z (jm Z (js (jnil Z) (js (jf F106_4 Z) (js (jl k0 O22 Z Z) (js (jlg U22 k1 Z) (jkr E54 Z Z (m3take_ct hok (by omega) (↑(List.length m.lv)) (by omega)) (dc d0 dn) (kd (kc k0 kn)) ⟨take_ok hok.1, hok.2⟩ fun m17 hm17 om17 bm17 => ?_))))))))))
  have w17_0 : IntKind.i64.wrap (takeV (↑(List.length m.lv)) m) = takeV (↑(List.length m.lv)) m := (IntWalk.i64_in _ (by have h9 := @takeV_rng (↑(List.length m.lv)) (by omega) m; omega))
  have tr17 := @takeV_rng (↑(List.length m.lv)) (by omega) m
  have llm17 : List.length m17.lv = List.length m.lv := by rw [hm17] <;> rfl
  clear bd0
  refine ja Z (jn (jx (jq (jq (jr (jm Z (jkr E54 Z Z (m3take_ct om17 (by omega) 3 (by omega)) (dc d0 dn) (kd (kc k0 kn)) ⟨take_ok om17.1, om17.2⟩ fun m19 hm19 om19 bm19 => ?_)))))))
  have w19_0 : IntKind.i64.wrap (takeV 3 m17) = takeV 3 m17 := (IntWalk.i64_in _ (by have h9 := @takeV_rng 3 (by omega) m17; omega))
  have tr19 := @takeV_rng 3 (by omega) m17
  have llm19 : List.length m19.lv = List.length m17.lv := by rw [hm19] <;> rfl
  clear bm17
  refine js (jeql Z Z) (jn (jx ?_))
  refine jif Z (fun hc2 => ?_) (fun hc2 => ?_)
  refine jr (jm Z (js (jnil Z) (js (jf F106_4 Z) (js (jl k0 O22 Z Z) (js (jlg U22 k1 Z) (js (jsub Z Z (by omega)) (ja Z (jn (jx (jq (jr ?_)))))))))))
  refine jm Z (js (jnil Z) (js (jf F106_4 Z) (js (jl k0 O22 Z Z) (jm Z (js (jig (i := (Int.toNat ((↑(List.length m19.lv)) - 1))) U22 Z3 k1 Z Z (by omega) (by omega)) (js (jgI k1 (by omega) O3 Z) (ja Z (ja Z (jn (jx (jrt ?_)))))))))))
  have hv0 : valueV m = (ix m19.lv (Int.toNat ((((List.length m19.lv : Nat) : Int)) - 1))) := (by (try simp only [hm17, hm19] at hc1 hc2); (try simp only [hm17, hm19]); first | (simp [valueV, valueB, valueS, valueI, hz, hc2]; done) | (simp [valueV, valueB, valueS, valueI, hz, hc2]; rfl))
  have hv1 : valueB m = true := (by (try simp only [hm17, hm19] at hc1 hc2); (try simp only [hm17, hm19]); first | (simp [valueV, valueB, valueS, valueI, hz, hc2]; done) | (simp [valueV, valueB, valueS, valueI, hz, hc2]; rfl))
  have hst : m19 = valueS m := (by (try simp only [hm17, hm19] at hc1 hc2); (try simp only [hm17, hm19]); first | (simp [valueV, valueB, valueS, valueI, hz, hc2]; done) | (simp [valueV, valueB, valueS, valueI, hz, hc2]; rfl))
  exact jr2 Z Z Z (al, qs) (by rw [hv0, hv1] <;> rfl) (dc (wca hv0 (wgl k1 (by omega))) dn) (fun _ _ => (kcb (by rw [← hst]) k0 (kcg (by rw [← hst]) k0 (kck (by rw [← hst]) k0 kn))))
  refine jsk (jx (jq (jr (jm Z (js (jnil Z) (js (jf F106_4 Z) (js (jl k0 O22 Z Z) (jm Z (js (jig (i := (Int.toNat (takeV (↑(List.length m.lv)) m))) U22 Z3 k1 Z Z (by omega) (by omega)) (js (jgI k1 (by omega) O3 Z) (ja Z ?_)))))))))))
  refine ja Z (jn (jx (jrt ?_)))
  have hv0 : valueV m = (ix m19.lv (Int.toNat (takeV (((List.length m.lv : Nat) : Int)) m))) := (by (try simp only [hm17, hm19] at hc1 hc2); (try simp only [hm17, hm19]); first | (simp [valueV, valueB, valueS, valueI, hz, hc2]; done) | (simp [valueV, valueB, valueS, valueI, hz, hc2]; rfl))
  have hv1 : valueB m = true := (by (try simp only [hm17, hm19] at hc1 hc2); (try simp only [hm17, hm19]); first | (simp [valueV, valueB, valueS, valueI, hz, hc2]; done) | (simp [valueV, valueB, valueS, valueI, hz, hc2]; rfl))
  have hst : m19 = valueS m := (by (try simp only [hm17, hm19] at hc1 hc2); (try simp only [hm17, hm19]); first | (simp [valueV, valueB, valueS, valueI, hz, hc2]; done) | (simp [valueV, valueB, valueS, valueI, hz, hc2]; rfl))
  exact jr2 Z Z Z (al, qs) (by rw [hv0, hv1] <;> rfl) (dc (wca hv0 (wgl k1 (by omega))) dn) (fun _ _ => (kcb (by rw [← hst]) k0 (kcg (by rw [← hst]) k0 (kck (by rw [← hst]) k0 kn))))
abbrev U102 := @Tryz.underlying102
abbrev U156 := @Tryz.underlying156
theorem A163 : ∃ d, Tryz.prog.underlying 163 = some d ∧ (match d with | .struct _ | .array _ _ => true | _ => false) = true := ⟨_, Tryz.underlying163, rfl⟩
theorem E101 : Ent Tryz.prog 101 := ⟨_, Tryz.func101, by kernel_rfl, by kernel_rfl⟩
theorem F104_1 : Fld Tryz.prog 104 1 1 := ⟨_, _, Tryz.underlying104, rfl, rfl, 1, (by unfold Sz; kernel_rfl), by decide⟩
theorem F106_2 : Fld Tryz.prog 106 2 2 := ⟨_, _, Tryz.underlying106, rfl, rfl, 2, (by unfold Sz; kernel_rfl), by decide⟩
theorem F160_1 : Fld Tryz.prog 160 1 1 := ⟨_, _, Tryz.underlying160, rfl, rfl, 1, (by unfold Sz; kernel_rfl), by decide⟩
theorem I163 : (Tryz.prog.info? 163).map (fun i => (i.zero, i.size, i.bytes)) = some (some (.agg #[.int .i64 0, .int .i64 0, .int .i64 0, .slice none 0 0, .int .i32 0]), 5, 56) := by kernel_rfl
theorem O102 : One Tryz.prog 102 := ⟨_, Tryz.underlying102, rfl⟩
theorem O156 : One Tryz.prog 156 := ⟨_, Tryz.underlying156, rfl⟩
theorem Z156 : Sz Tryz.prog 156 1 := by unfold Sz; kernel_rfl
theorem Z160 : Sz Tryz.prog 160 6 := by unfold Sz; kernel_rfl
theorem Z163 : Sz Tryz.prog 163 5 := by unfold Sz; kernel_rfl
set_option maxRecDepth 4000 in
theorem m3add_ct {vs vb al : Value} {m : Mk} {nb c : Nat} {S : List Int} {g0 : Nat} {B0 B1 : Nat} {qs : List BV} (hok : okS nb c S m) (hc : c ≤ 990000) (b : Int) {a2 : Value} {i : D.Ins} (hb9 : 0 ≤ b ∧ b < nb) : KB Tryz.prog 149 [.int .i64 b, vIns i a2] [da rIns (vIns i a2) i] g0 vs vb al S B0 B1 qs [] m (addS b i m) (.tuple #[]) := by
  refine jenter (args := [.pointer (some ⟨g0, 0, none⟩), .int .i64 b, vIns i a2]) Tryz.func149 rfl rfl rfl fun w0 X => ?_
  refine cgo k1 fun w1 => ?_
  have bd0 := okM.bnd hok.1
  refine cbk k2 (okM.bnd hok.1).2.2.2.2.2.2.2.1 fun hvb => jq (jr (jbox Z Z fun g5 => jn (jx (jq (jany true (.a 0 (.a 1 (.a 2 (.a 3 (.a 4 (.a 5 (.a 6 (.a 7 (.a 8 (.a 9 (.a 10 (.a 11 (.a 12 (.a 13 (.a 15 (.w 14 16 (.o 16 (.o 17 (.a 18 (.a 19 (.o 20 .e))))) (.o 14 (.o 17 (.a 18 (.a 19 (.o 20 .e))))))))))))))))))))) Mixed (by kernel_rfl) (kd kn) fun F2 => jy Z (jmv Z) (jy Z (jnil Z) (jy Z (jf F106_2 Z) (jy Z (jf F104_1 Z) ?_))))))))
  refine jy Z (jl k1 O102 Z Z) (jy Z (jmv Z) (jy Z (jmv Z) (jy Z (jnil Z) (jy Z (jf F106_2 Z) (jy Z (jf F104_1 Z) (jy Z (jl k1 O102 Z Z) (jy Z (jmv Z) (jy Z (jbi' (j := (Int.toNat b)) U102 Z160 hvb Z Z (by omega) (by omega)) (jy Z (jf F160_1 Z) (jy Z (jla k0 A163 Z163 Z Z Z) ?_))))))))))
  refine jyw Z Z ?_ ?_
  refine js (jbh1 k3 (by omega) O156 Z Z) (jyn d0 (kd kn) (jyo Z (jlit (r := rIns) (l := [i]) U156 I163 (by decide) Z Z Z (lA d3 ln) fun g23 => jyn d0 (kc k1 (kc k1 kn)) (jyo Z (jfz k0 (by (try simp) <;> omega) ?_)))))
  have hrF7 := okM.row hok.1 (j := (Int.toNat b)) (by omega)
  refine jbf1 (Int.toNat b) k3 (by omega) (jgo k0 fun w8 => japl U156 I163 (by decide) Z k0 Z Z d0 (by (try simp) <;> omega) fun v24 w9 => jyn d1 (kc k2 (kc k2 kn)) (jy Z (jbi' (j := (Int.toNat b)) U102 Z160 hvb Z Z (by omega) (by omega)) (jy Z (jf F160_1 Z) (jyo Z (jbs1 k0 k0 (by omega) Z156 Z Z Z w9.one (jkn (c := c + 1) ({ m with bs := List.set m.bs (Int.toNat b) { (ix m.bs (Int.toNat b)) with Ins := ((ix m.bs (Int.toNat b)).Ins) ++ ([i]) } }) (kc k2 (kc k2 (kc k0 kn))) ⟨(okM.setb (d := 1) hok.1 (by dsimp only; rw [List.length_append]; simp only [List.length_cons, List.length_nil]; omega)), hok.2⟩ fun ms11 hms11 oms11 bms11 => ?_))))))
  clear bd0
  refine jyz d0 (jyd (jx (jq (jr (js (jla k3 A163 Z163 Z Z Z) (jcd E101 Z Z r3makes_ct (dc d6 dn) kn fun v28 q12 w12 => ja Z (jn (jx (jr (jm Z ?_))))))))))
  refine jm Z (js (jnil Z) (js (jf F106_4 Z) (js (jl k0 O22 Z Z) (jm Z (japl U22 I3 (by decide) Z k1 Z Z d0 (by (try simp) <;> omega) fun v35 w14 => js (jnil Z) (js (jf F106_4 Z) (jst k1 Z22 Z Z w14.one s5 (jkn (c := c + 2) ({ ms11 with lv := ms11.lv ++ (makes3 i) }) (kd (kc k0 kn)) ⟨(okM.setlv oms11.1 (by have := makes3_len i; simp only [List.length_append]; omega) (by omega)), oms11.2⟩ fun ms15 hms15 oms15 bms15 => ?_))))))))
  clear bms11
  refine jn ?_
  have hst : ms15 = addS b i m := (by (try simp only [hms11, hms15]); all_goals first | rfl | (simp [addS]; done) | (simp [addS]; rfl) | (unfold addS; (repeat' split) <;> first | rfl | (exfalso; omega) | (simp [] at *; done) | (simp_all; done)))
  exact jd0 Z (v35, List.set qs (Int.toNat b) { (ix qs (Int.toNat b)) with I := v24 }) Z dn (fun _ _ => (kcb (by rw [← hst]) k0 (kcg (by rw [← hst]) k0 (kck (by rw [← hst]) k0 kn))))
  refine jlit (r := rIns) (l := [i]) U156 I163 (by decide) Z Z Z (lA d2 ln) fun g23 => jyn d0 (kc k1 (kc k1 kn)) (jyo Z (js (jbh1 k4 (by omega) O156 Z Z) (jyn d0 (kc k1 (kc k1 kn)) (jyo Z (jfz k0 (by (try simp) <;> omega) ?_)))))
  have hrF7 := okM.row hok.1 (j := (Int.toNat b)) (by omega)
  refine jbf1 (Int.toNat b) k3 (by omega) (jgo k0 fun w8 => japl U156 I163 (by decide) Z k0 Z Z d0 (by (try simp) <;> omega) fun v24 w9 => jyn d1 (kc k2 (kc k2 kn)) (jy Z (jbi' (j := (Int.toNat b)) U102 Z160 hvb Z Z (by omega) (by omega)) (jy Z (jf F160_1 Z) (jyo Z (jbs1 k0 k0 (by omega) Z156 Z Z Z w9.one (jkn (c := c + 1) ({ m with bs := List.set m.bs (Int.toNat b) { (ix m.bs (Int.toNat b)) with Ins := ((ix m.bs (Int.toNat b)).Ins) ++ ([i]) } }) (kc k2 (kc k2 (kc k0 kn))) ⟨(okM.setb (d := 1) hok.1 (by dsimp only; rw [List.length_append]; simp only [List.length_cons, List.length_nil]; omega)), hok.2⟩ fun ms11 hms11 oms11 bms11 => ?_))))))
  clear bd0
  refine jyz d0 (jyd (jx (jq (jr (js (jla k3 A163 Z163 Z Z Z) (jcd E101 Z Z r3makes_ct (dc d6 dn) kn fun v28 q12 w12 => ja Z (jn (jx (jr (jm Z ?_))))))))))
  refine jm Z (js (jnil Z) (js (jf F106_4 Z) (js (jl k0 O22 Z Z) (jm Z (japl U22 I3 (by decide) Z k1 Z Z d0 (by (try simp) <;> omega) fun v35 w14 => js (jnil Z) (js (jf F106_4 Z) (jst k1 Z22 Z Z w14.one s5 (jkn (c := c + 2) ({ ms11 with lv := ms11.lv ++ (makes3 i) }) (kd (kc k0 kn)) ⟨(okM.setlv oms11.1 (by have := makes3_len i; simp only [List.length_append]; omega) (by omega)), oms11.2⟩ fun ms15 hms15 oms15 bms15 => ?_))))))))
  clear bms11
  refine jn ?_
  have hst : ms15 = addS b i m := (by (try simp only [hms11, hms15]); all_goals first | rfl | (simp [addS]; done) | (simp [addS]; rfl) | (unfold addS; (repeat' split) <;> first | rfl | (exfalso; omega) | (simp [] at *; done) | (simp_all; done)))
  exact jd0 Z (v35, List.set qs (Int.toNat b) { (ix qs (Int.toNat b)) with I := v24 }) Z dn (fun _ _ => (kcb (by rw [← hst]) k0 (kcg (by rw [← hst]) k0 (kck (by rw [← hst]) k0 kn))))
theorem E105 : Ent Tryz.prog 105 := ⟨_, Tryz.func105, by kernel_rfl, by kernel_rfl⟩
theorem E149 : Ent Tryz.prog 149 := ⟨_, Tryz.func149, by kernel_rfl, by kernel_rfl⟩
theorem E170 : Ent Tryz.prog 170 := ⟨_, Tryz.func170, by kernel_rfl, by kernel_rfl⟩
theorem E53 : Ent Tryz.prog 53 := ⟨_, Tryz.func53, by kernel_rfl, by kernel_rfl⟩
theorem E99 : Ent Tryz.prog 99 := ⟨_, Tryz.func99, by kernel_rfl, by kernel_rfl⟩
set_option maxRecDepth 4000 in
theorem m3const_ct {vs vb al : Value} {m : Mk} {nb c : Nat} {S : List Int} {g0 : Nat} {B0 B1 : Nat} {qs : List BV} (hok : okS nb c S m) (hc : c ≤ 980000) (b : Int) (n : Int) (hb9 : 0 ≤ b ∧ b < nb) (ww2 : IntKind.i32.wrap n = n) : KB Tryz.prog 105 [.int .i64 b, .int .i32 n] [] g0 vs vb al S B0 B1 qs [wf .i64 m.nx] m (constS b n m) (.int .i64 m.nx) := by
  refine jenter (args := [.pointer (some ⟨g0, 0, none⟩), .int .i64 b, .int .i32 n]) Tryz.func105 rfl rfl rfl fun w0 X => ?_
  refine cgo k1 fun w1 => ?_
  have bd0 := okM.bnd hok.1
  refine cbk k2 (okM.bnd hok.1).2.2.2.2.2.2.2.1 fun hvb => ?_
  have hbn : b.toNat < nb := by omega
  refine jq (jr (ja Z (jn (jx (jq (jr (jm Z (jkr E99 Z Z (m3fresh_ct hok (by omega)) (dc d0 dn) (kd (kc k0 kn)) ⟨fresh_ok hok.1, hok.2⟩ fun m9 hm9 om9 bm9 => ?_))))))))
  have w9_0 : IntKind.i64.wrap (m.nx) = m.nx := (IntWalk.i64_in _ (by omega))
  clear bd0
  refine ja Z (jn (jx (jq (jr (jm Z (jm Z (jm Z (jm Z (js (jbu (v := .agg #[.int .i64 1, .int .i64 m.nx, .int .i64 0, .slice none 0 0, .int .i32 n]) Z (fun _ => by kernel_rfl)) (jkb E149 Z Z (m3add_ct (i := ⟨1, m.nx, 0, [], n⟩) om9 (by omega) b hb9) (dc d0 (dc (rIns.M (m := ⟨1, m.nx, 0, [], n⟩) (c := (.slice none 0 0)) wN (wl 1) (wp w9_0) (wl 0) (wp ww2)) dn)) (kd (kc k0 kn)) ⟨add_ok om9.1 hbn, (addS_s.trans om9.2)⟩ p0 fun m15 hm15 om15 bm15 ua15 qs15 w2 => ?_))))))))))
  clear bm9
  refine jn (jx (jq (jr (jm Z (ja Z (jn (jx (jrt ?_))))))))
  have hv0 : m.nx = m.nx := (by (try simp only [hm9, hm15]); all_goals first | rfl | (simp [constS]; done) | (simp [constS]; rfl) | (unfold constS; (repeat' split) <;> first | rfl | (exfalso; omega) | (simp [] at *; done) | (simp_all; done)))
  have hst : m15 = constS b n m := (by (try simp only [hm9, hm15]); all_goals first | rfl | (simp [constS]; done) | (simp [constS]; rfl) | (unfold constS; (repeat' split) <;> first | rfl | (exfalso; omega) | (simp [] at *; done) | (simp_all; done)))
  exact jr1 Z Z (ua15, qs15) (by rw [hv0] <;> rfl) (dc (wca hv0 (wp w9_0)) dn) (fun _ _ => (kcb (by rw [← hst]) k0 (kcg (by rw [← hst]) k0 (kck (by rw [← hst]) k0 kn))))
set_option maxRecDepth 4000 in
theorem m3some_ct {vs vb al : Value} {m : Mk} {nb c : Nat} {S : List Int} {g0 : Nat} {B0 B1 : Nat} {qs : List BV} (hok : okS nb c S m) (hc : c ≤ 970000) (b : Int) (hb9 : 0 ≤ b ∧ b < nb) : KB Tryz.prog 148 [.int .i64 b] [] g0 vs vb al S B0 B1 qs [wf .i64 (someV m)] m (someS b m) (.int .i64 (someV m)) := by
  refine jenter (args := [.pointer (some ⟨g0, 0, none⟩), .int .i64 b]) Tryz.func148 rfl rfl rfl fun w0 X => ?_
  refine cgo k1 fun w1 => ?_
  have bd0 := okM.bnd hok.1
  refine cbk k2 (okM.bnd hok.1).2.2.2.2.2.2.2.1 fun hvb => ?_
  have hbn : b.toNat < nb := by omega
  refine jq (jr (ja Z (jn (jx (jq (jr (jm Z (jkb E170 Z Z (m3value_ct hok (by omega)) (dc d0 dn) (kd (kc k0 kn)) ⟨value_ok hok.1, (valueS_s.trans hok.2)⟩ p1 fun m9 hm9 om9 bm9 ua9 qs9 w2 => ?_))))))))
  clear bd0
  refine jm Z (js (jex' Z Z) (js (jex' Z Z) (ja Z (ja Z (jn (jx (jq (jq (jr (jm Z (js (jnot Z) ?_)))))))))))
  refine jm Z (jg Z Z (.f _) (fun hg => jmv Z) (jkg Z Z (.f _) E54 Z (fun hg => evl2 (evg Z hg) Z) (m3take_ct om9 (by omega) 9 (by first | exact hb9 | decide | omega)) (dc d1 dn) (kd (kc k0 kn)) (by split; exact ⟨take_ok om9.1, om9.2⟩; exact om9.mono (by omega)) fun m16 hm16 om16 bm16 => ?_))
  have w16_0 : IntKind.i64.wrap (takeV 9 m9) = takeV 9 m9 := (IntWalk.i64_in _ (by have h9 := @takeV_rng 9 (by omega) m9; omega))
  have tr16 := @takeV_rng 9 (by omega) m9
  clear bm9
  refine jg Z Z (.f _) (fun hg => jeql (evg Z hg) Z) (js (jor Z Z) (jn (jx ?_)))
  refine jif Z (fun hc1 => ?_) (fun hc1 => ?_)
  refine jq (jr (jm Z (jm Z (jm Z (jkr E53 Z Z (m3word_ct om16 (by omega)) (dc d1 dn) (kd (kc k0 kn)) ⟨word_ok om16.1, om16.2⟩ fun m22 hm22 om22 bm22 => ?_)))))
  have w22_0 : IntKind.i32.wrap (wordV m16) = wordV m16 := (word_w m16)
  clear bm16
  refine jkb E105 Z Z (m3const_ct om22 (by omega) b (wordV m16) (by first | exact hb9 | decide | omega) w22_0) (dc d1 dn) (kd (kc k0 kn)) ⟨const_ok om22.1 hbn, (constS_s.trans om22.2)⟩ p1 fun m23 hm23 om23 bm23 ua23 qs23 w4 => ?_
  clear bm22
  refine ja Z (jn (jx (jrt (jtr ?_))))
  have hv0 : someV m = m22.nx := (by (try simp only [hm9, hm16, hm22, hm23] at hc1); (try simp only [hm9, hm16, hm22, hm23]); all_goals first | rfl | (simp [someS, someV, someC, someM0, hc1]; done) | (simp [someS, someV, someC, someM0, hc1]; rfl) | (unfold someS someV someC someM0; (repeat' split) <;> first | rfl | (exfalso; omega) | (simp [hc1] at *; done) | (simp_all; done)))
  have hst : m23 = someS b m := (by (try simp only [hm9, hm16, hm22, hm23] at hc1); (try simp only [hm9, hm16, hm22, hm23]); all_goals first | rfl | (simp [someS, someV, someC, someM0, hc1]; done) | (simp [someS, someV, someC, someM0, hc1]; rfl) | (unfold someS someV someC someM0; (repeat' split) <;> first | rfl | (exfalso; omega) | (simp [hc1] at *; done) | (simp_all; done)))
  exact jr1 Z Z (ua23, qs23) (by rw [hv0] <;> rfl) (dc (wca hv0 ((wfw d0))) dn) (fun _ _ => (kcb (by rw [← hst]) k0 (kcg (by rw [← hst]) k0 (kck (by rw [← hst]) k0 kn))))
  refine jsk (jx (jq (jr (jm Z (ja Z (jn (jx (jrt ?_))))))))
  have hv0 : someV m = (valueV m) := (by (try simp only [hm9, hm16] at hc1); (try simp only [hm9, hm16]); all_goals first | rfl | (simp [someS, someV, someC, someM0, hc1]; done) | (simp [someS, someV, someC, someM0, hc1]; rfl) | (unfold someS someV someC someM0; (repeat' split) <;> first | rfl | (exfalso; omega) | (simp [hc1] at *; done) | (simp_all; done)))
  have hst : m16 = someS b m := (by (try simp only [hm9, hm16] at hc1); (try simp only [hm9, hm16]); all_goals first | rfl | (simp [someS, someV, someC, someM0, hc1]; done) | (simp [someS, someV, someC, someM0, hc1]; rfl) | (unfold someS someV someC someM0; (repeat' split) <;> first | rfl | (exfalso; omega) | (simp [hc1] at *; done) | (simp_all; done)))
  exact jr1 Z Z (ua9, qs9) (by rw [hv0] <;> rfl) (dc (wca hv0 ((wfw d0))) dn) (fun _ _ => (kcb (by rw [← hst]) k0 (kcg (by rw [← hst]) k0 (kck (by rw [← hst]) k0 kn))))
def mem1 (b : Int) (m : Mk) : Int × Mk :=
  let m1 := constS b (IntKind.i32.wrap (takeV 9 m)) (takeS m)
  let m2 := takeS m1
  if takeV 3 m1 = 0 then
    let m3 := someS b m2
    let m4 := constS b 7 m3
    let m6 := addS b ⟨5, m4.nx, 0, [someV m2, m3.nx], 0⟩ (freshS m4)
    (m6.nx, addS b ⟨2, m6.nx, 0, [(takeS m).nx, m4.nx], 0⟩ (freshS m6))
  else ((takeS m).nx, m2)
def mem2 (m : Mk) : Int × Mk :=
  let m2 := takeS (takeS m)
  if takeV 12 (takeS m) = 0 then (wordV m2, wordS m2) else (IntKind.i32.wrap (takeV 4 m), m2)
def memS (b : Int) (st : Bool) (m : Mk) : Mk :=
  let a := mem1 b m
  let i := mem2 a.2
  if st then addS b ⟨16, 0, 0, [a.1, someV i.2], i.1⟩ (someS b i.2) else addS b ⟨15, i.2.nx, 0, [a.1], i.1⟩ (freshS i.2)
def argsL (b : Int) : Nat → List Int → Mk → List Int × Mk
  | 0, l, m => (l, m)
  | n + 1, l, m => argsL b n (l ++ [someV m]) (someS b m)
def insS (b : Int) (m : Mk) : Mk :=
  let k := takeV 20 m
  let m1 := takeS m
  let m2 := someS b m1
  let m3 := someS b m2
  if k < 12 then
    if takeV 3 m3 = 0 then
      let m4 := constS b (IntKind.i32.wrap (takeV 40 (takeS m3) - 8)) (takeS (takeS m3))
      addS b ⟨ix [2, 2, 3, 4, 5, 6, 7, 8, 9, 10, 12, 11] k.toNat, m4.nx, 0, [someV m1, (takeS (takeS m3)).nx], 0⟩ (freshS m4)
    else addS b ⟨ix [2, 2, 3, 4, 5, 6, 7, 8, 9, 10, 12, 11] k.toNat, (takeS m3).nx, 0, [someV m1, someV m2], 0⟩ (freshS (takeS m3))
  else if k = 12 then addS b ⟨13, m3.nx, 0, [someV m1, someV m2], 0⟩ (freshS m3)
  else if k = 13 then
    let m4 := constS b (IntKind.i32.wrap (takeV 12 m2)) (takeS m2)
    if 0 < takeV 3 m4 then
      let m5 := constS b (IntKind.i32.wrap (1 + IntKind.i32.wrap (takeV 12 (takeS m4)))) (takeS (takeS m4))
      addS b ⟨14, m5.nx, 0, [someV m1, (takeS (takeS m4)).nx], 0⟩ (freshS m5)
    else addS b ⟨14, (takeS m4).nx, 0, [someV m1, (takeS m2).nx], 0⟩ (freshS (takeS m4))
  else if k < 16 then memS b (decide (k = 15)) m1
  else if k = 16 then
    let r := argsL b (takeV 5 m1).toNat [] (takeS m1)
    addS b ⟨17, r.2.nx, 0, r.1, IntKind.i32.wrap (takeV 5 (freshS r.2))⟩ (takeS (freshS r.2))
  else if k = 17 then addS b ⟨18, m3.nx, (freshS m3).nx, [someV m1, someV m2], 0⟩ (freshS (freshS m3))
  else constS b (wordV m1) (wordS m1)
def setT (b : Int) (t : D.Term) (m : Mk) : Mk := { m with bs := m.bs.set b.toNat { (ix m.bs b.toNat) with Term := t } }
def endS (b : Int) (l : List Int) (m : Mk) : Mk :=
  if l.length = 0 then
    if takeV 8 m = 0 then setT b ⟨5, [], [], IntKind.i32.wrap (takeV 200 (takeS m))⟩ (takeS (takeS m))
    else if takeV 8 m > 1 then setT b ⟨4, [someV (takeS m)], [], 0⟩ (someS b (takeS m))
    else setT b ⟨4, [], [], 0⟩ (takeS m)
  else if l.length = 1 then setT b ⟨1, [], l, 0⟩ m
  else if l.length = 2 then
    let m1 := someS b m
    let m2 := takeS m1
    if takeV 2 m1 = 0 then
      let m3 := someS b m2
      let m4 := freshS m3
      setT b ⟨2, [m3.nx], l, 0⟩ (addS b ⟨ix [11, 12, 13] (takeV 3 m4).toNat, m3.nx, 0, [someV m, someV m2], 0⟩ (takeS m4))
    else setT b ⟨2, [someV m], l, 0⟩ m2
  else
    let m1 := someS b m
    let m2 := constS b 7 m1
    setT b ⟨3, [m2.nx], l, 0⟩ (addS b ⟨5, m2.nx, 0, [someV m, m1.nx], 0⟩ (freshS m2))
section
variable {nb c : Nat} {m : Mk} {b : Int}
theorem mem1_ok (h : okM nb c m) (hb : b.toNat < nb) : okM nb (c + 22) (mem1 b m).2 := by
  unfold mem1; dsimp only; split
  · exact (add_ok (fresh_ok (add_ok (fresh_ok (const_ok (some_ok (take_ok (const_ok (take_ok h) hb)) hb) hb)) hb)) hb).mono (by omega)
  · exact (take_ok (const_ok (take_ok h) hb)).mono (by omega)
theorem mem2_ok (h : okM nb c m) : okM nb (c + 4) (mem2 m).2 := by
  unfold mem2; dsimp only; split
  · exact (word_ok (take_ok (take_ok h))).mono (by omega)
  · exact (take_ok (take_ok h)).mono (by omega)
theorem mem_ok {st : Bool} (h : okM nb c m) (hb : b.toNat < nb) : okM nb (c + 40) (memS b st m) := by
  unfold memS; dsimp only; split
  · exact (add_ok (some_ok (mem2_ok (mem1_ok h hb)) hb) hb).mono (by omega)
  · exact (add_ok (fresh_ok (mem2_ok (mem1_ok h hb))) hb).mono (by omega)
theorem args_ok (hb : b.toNat < nb) : ∀ (n : Nat) (l : List Int) {c : Nat} {m : Mk}, okM nb c m → okM nb (c + 8 * n) (argsL b n l m).2
  | 0, _, _, _, h => h
  | n + 1, l, _, m, h => by have := args_ok hb n (l ++ [someV m]) (some_ok (b := b) h hb); exact this.mono (by omega)
theorem args_len : ∀ (n : Nat) (l : List Int) (m : Mk), (argsL b n l m).1.length = l.length + n
  | 0, _, _ => rfl
  | n + 1, l, m => by rw [argsL, args_len n]; simp; omega
theorem ins3_ok (h : okM nb c m) (hb : b.toNat < nb) : okM nb (c + 60) (insS b m) := by
  unfold insS; dsimp only
  repeat' split
  · exact (add_ok (fresh_ok (const_ok (take_ok (take_ok (some_ok (some_ok (take_ok h) hb) hb))) hb)) hb).mono (by omega)
  · exact (add_ok (fresh_ok (take_ok (some_ok (some_ok (take_ok h) hb) hb))) hb).mono (by omega)
  · exact (add_ok (fresh_ok (some_ok (some_ok (take_ok h) hb) hb)) hb).mono (by omega)
  · exact (add_ok (fresh_ok (const_ok (take_ok (take_ok (const_ok (take_ok (some_ok (take_ok h) hb)) hb))) hb)) hb).mono (by omega)
  · exact (add_ok (fresh_ok (take_ok (const_ok (take_ok (some_ok (take_ok h) hb)) hb))) hb).mono (by omega)
  · exact (mem_ok (take_ok h) hb).mono (by omega)
  · have h9 := takeV_rng (n := 5) (by omega) (takeS m)
    exact (add_ok (take_ok (fresh_ok (args_ok hb _ [] (take_ok (take_ok h))))) hb).mono (by omega)
  · exact (add_ok (fresh_ok (fresh_ok (some_ok (some_ok (take_ok h) hb) hb))) hb).mono (by omega)
  · exact (const_ok (word_ok (take_ok h)) hb).mono (by omega)
theorem setT_ok {t : D.Term} (h : okM nb c m) (hb : b.toNat < nb) : okM nb c (setT b t m) := h.setb (d := 0) (Nat.le_refl _)
theorem end_ok {l : List Int} (h : okM nb c m) (hb : b.toNat < nb) : okM nb (c + 40) (endS b l m) := by
  unfold endS; dsimp only
  repeat' split
  · exact (setT_ok (take_ok (take_ok h)) hb).mono (by omega)
  · exact (setT_ok (some_ok (take_ok h) hb) hb).mono (by omega)
  · exact (setT_ok (take_ok h) hb).mono (by omega)
  · exact (setT_ok h hb).mono (by omega)
  · exact (setT_ok (add_ok (take_ok (fresh_ok (some_ok (take_ok (some_ok h hb)) hb))) hb) hb).mono (by omega)
  · exact (setT_ok (take_ok (some_ok h hb)) hb).mono (by omega)
  · exact (setT_ok (add_ok (fresh_ok (const_ok (some_ok h hb) hb)) hb) hb).mono (by omega)
theorem mem1_s : (mem1 b m).2.s = m.s := by unfold mem1; dsimp only; split <;> simp only [addS_s, someS_s, constS_s, freshS, takeS]
theorem mem2_s : (mem2 m).2.s = m.s := by unfold mem2; dsimp only; split <;> rfl
theorem memS_s {st : Bool} : (memS b st m).s = m.s := by unfold memS; dsimp only; split <;> simp only [addS_s, someS_s, freshS, mem2_s, mem1_s]
theorem argsL_s : ∀ (n : Nat) (l : List Int) (m : Mk), (argsL b n l m).2.s = m.s
  | 0, _, _ => rfl
  | n + 1, l, m => by rw [argsL, argsL_s n, someS_s]
theorem insS_s : (insS b m).s = m.s := by unfold insS; dsimp only; (repeat' split) <;> simp only [addS_s, someS_s, constS_s, freshS, takeS, memS_s, argsL_s, wordS]
theorem endS_s {l : List Int} : (endS b l m).s = m.s := by unfold endS; dsimp only; (repeat' split) <;> simp only [setT, addS_s, someS_s, constS_s, freshS, takeS]
end
theorem E148 : Ent Tryz.prog 148 := ⟨_, Tryz.func148, by kernel_rfl, by kernel_rfl⟩
set_option maxRecDepth 4000 in
theorem m3mem_ct {vs vb al : Value} {m : Mk} {nb c : Nat} {S : List Int} {g0 : Nat} {B0 B1 : Nat} {qs : List BV} (hok : okS nb c S m) (hc : c ≤ 950000) (b : Int) (st : Bool) (hb9 : 0 ≤ b ∧ b < nb) : KB Tryz.prog 150 [.int .i64 b, .bool st] [] g0 vs vb al S B0 B1 qs [] m (memS b st m) (.tuple #[]) := by
  refine jenter (args := [.pointer (some ⟨g0, 0, none⟩), .int .i64 b, .bool st]) Tryz.func150 rfl rfl rfl fun w0 X => ?_
  refine cgo k1 fun w1 => ?_
  have bd0 := okM.bnd hok.1
  refine cbk k2 (okM.bnd hok.1).2.2.2.2.2.2.2.1 fun hvb => ?_
  have hbn : b.toNat < nb := by omega
  refine jq (jr (jm Z (jm Z (jm Z (jkr E54 Z Z (m3take_ct hok (by omega) 9 (by first | exact hb9 | decide | omega)) (dc d0 dn) (kd (kc k0 kn)) ⟨take_ok hok.1, hok.2⟩ fun m15 hm15 om15 bm15 => ?_)))))
  have w15_0 : IntKind.i64.wrap (takeV 9 m) = takeV 9 m := (IntWalk.i64_in _ (by have h9 := @takeV_rng 9 (by omega) m; omega))
  have tr15 := @takeV_rng 9 (by omega) m
  clear bd0
  refine js (jco U3 U21 Z Z) (jkb E105 Z Z (m3const_ct om15 (by omega) b (IntKind.i32.wrap (takeV 9 m)) (by first | exact hb9 | decide | omega) (wrap_wrap _ _)) (dc d0 dn) (kd (kc k0 kn)) ⟨const_ok om15.1 hbn, (constS_s.trans om15.2)⟩ p1 fun m17 hm17 om17 bm17 ua17 qs17 w2 => ?_)
  clear bm15
  refine ja Z (jn (jx (jq (jq (jr (jm Z (jkr E54 Z Z (m3take_ct om17 (by omega) 3 (by first | exact hb9 | decide | omega)) (dc d1 dn) (kd (kc k0 kn)) ⟨take_ok om17.1, om17.2⟩ fun m19 hm19 om19 bm19 => ?_)))))))
  have w19_0 : IntKind.i64.wrap (takeV 3 m17) = takeV 3 m17 := (IntWalk.i64_in _ (by have h9 := @takeV_rng 3 (by omega) m17; omega))
  have tr19 := @takeV_rng 3 (by omega) m17
  clear bm17
  refine js (jeql Z Z) (jn (jx ?_))
  refine jif Z (fun hc1 => ?_) (fun hc1 => ?_)
  refine jq (jr (jm Z (jm Z (jkb E148 Z Z (m3some_ct om19 (by omega) b (by first | exact hb9 | decide | omega)) (dc d1 dn) (kd (kc k0 kn)) ⟨some_ok om19.1 hbn, (someS_s.trans om19.2)⟩ p1 fun m23 hm23 om23 bm23 ua23 qs23 w4 => ?_))))
  clear bm19
  refine ja Z (jn (jx (jq (jr (jm Z (jm Z (jkb E105 Z Z (m3const_ct om23 (by omega) b 7 (by first | exact hb9 | decide | omega) (by decide)) (dc d2 dn) (kd (kc k0 kn)) ⟨const_ok om23.1 hbn, (constS_s.trans om23.2)⟩ p1 fun m26 hm26 om26 bm26 ua26 qs26 w6 => ?_)))))))
  clear bm23
  refine ja Z (jn (jx (jq (jr (jm Z (jkr E99 Z Z (m3fresh_ct om26 (by omega)) (dc d3 dn) (kd (kc k0 kn)) ⟨fresh_ok om26.1, om26.2⟩ fun m28 hm28 om28 bm28 => ?_))))))
  have w28_0 : IntKind.i64.wrap (m26.nx) = m26.nx := (IntWalk.i64_in _ (by omega))
  clear bm26
  refine ja Z (jn (jx (jq (jr (jm Z (jm Z (jm Z (jm Z (jm Z (jlit (r := (rI .i64)) (l := [someV m19, m23.nx]) U22 I3 (by decide) Z Z Z (lV Z Z (wI ((wfw d1))) (lV Z Z (wI ((wfw d0))) ln)) fun g34 => js (jbu (v := .agg #[.int .i64 5, .int .i64 m26.nx, .int .i64 0, (.slice (some ⟨g34, 0, none⟩) 2 2), .int .i32 0]) Z (fun _ => by kernel_rfl)) ?_))))))))))
  refine jfz k0 (by (try simp) <;> omega) (jkb E149 Z Z (m3add_ct (i := ⟨5, m26.nx, 0, [someV m19, m23.nx], 0⟩) om28 (by omega) b (by first | exact hb9 | decide | omega)) (dc d4 (dc (rIns.M (m := ⟨5, m26.nx, 0, [someV m19, m23.nx], 0⟩) (c := (.slice (some ⟨g34, 0, none⟩) 2 2)) d0 (wl 5) (wp w28_0) (wl 0) (wl 0)) dn)) (kd (kc k0 kn)) ⟨add_ok om28.1 hbn, (addS_s.trans om28.2)⟩ p0 fun m36 hm36 om36 bm36 ua36 qs36 w9 => ?_)
  clear bm28
  refine jn (jx (jq (jr (jm Z (jkr E99 Z Z (m3fresh_ct om36 (by omega)) (dc d4 dn) (kd (kc k0 kn)) ⟨fresh_ok om36.1, om36.2⟩ fun m38 hm38 om38 bm38 => ?_)))))
  have w38_0 : IntKind.i64.wrap (m36.nx) = m36.nx := (IntWalk.i64_in _ (by omega))
  clear bm36
  refine ja Z (jn (jx (jq (jr (jm Z (jm Z (jm Z (jm Z (jm Z (jlit (r := (rI .i64)) (l := [m15.nx, m26.nx]) U22 I3 (by decide) Z Z Z (lV Z Z (wI ((wfw d3))) (lV Z Z (wI (wp w28_0)) ln)) fun g44 => js (jbu (v := .agg #[.int .i64 2, .int .i64 m36.nx, .int .i64 0, (.slice (some ⟨g44, 0, none⟩) 2 2), .int .i32 0]) Z (fun _ => by kernel_rfl)) ?_))))))))))
  refine jfz k0 (by (try simp) <;> omega) (jkb E149 Z Z (m3add_ct (i := ⟨2, m36.nx, 0, [m15.nx, m26.nx], 0⟩) om38 (by omega) b (by first | exact hb9 | decide | omega)) (dc d5 (dc (rIns.M (m := ⟨2, m36.nx, 0, [m15.nx, m26.nx], 0⟩) (c := (.slice (some ⟨g44, 0, none⟩) 2 2)) d0 (wl 2) (wp w38_0) (wl 0) (wl 0)) dn)) (kd (kc k0 kn)) ⟨add_ok om38.1 hbn, (addS_s.trans om38.2)⟩ p0 fun m46 hm46 om46 bm46 ua46 qs46 w11 => ?_)
  clear bm38
  refine jn (jx (jr (jm Z (ja Z (jn (jx (jq (jr (jm Z (jkr E54 Z Z (m3take_ct om46 (by omega) 4 (by first | exact hb9 | decide | omega)) (dc d5 dn) (kd (kc k0 kn)) ⟨take_ok om46.1, om46.2⟩ fun m49 hm49 om49 bm49 => ?_))))))))))
  have w49_0 : IntKind.i64.wrap (takeV 4 m46) = takeV 4 m46 := (IntWalk.i64_in _ (by have h9 := @takeV_rng 4 (by omega) m46; omega))
  have tr49 := @takeV_rng 4 (by omega) m46
  clear bm46
  refine js (jco U3 U21 Z Z) (ja Z (jn (jx (jq (jq (jr (jm Z (jkr E54 Z Z (m3take_ct om49 (by omega) 12 (by first | exact hb9 | decide | omega)) (dc d5 dn) (kd (kc k0 kn)) ⟨take_ok om49.1, om49.2⟩ fun m52 hm52 om52 bm52 => ?_))))))))
  have w52_0 : IntKind.i64.wrap (takeV 12 m49) = takeV 12 m49 := (IntWalk.i64_in _ (by have h9 := @takeV_rng 12 (by omega) m49; omega))
  have tr52 := @takeV_rng 12 (by omega) m49
  clear bm49
  refine js (jeql Z Z) (jn (jx ?_))
  refine jif Z (fun hc2 => ?_) (fun hc2 => ?_)
  refine jr (jm Z (jkr E53 Z Z (m3word_ct om52 (by omega)) (dc d5 dn) (kd (kc k0 kn)) ⟨word_ok om52.1, om52.2⟩ fun m55 hm55 om55 bm55 => ?_))
  have w55_0 : IntKind.i32.wrap (wordV m52) = wordV m52 := (word_w m52)
  clear bm52
  refine ja Z (jn (jx (jq (jr (jm Z (jn (jx ?_)))))))
  refine jif Z (fun hc3 => ?_) (fun hc3 => ?_)
  refine jr (jm Z (jm Z (jm Z (jm Z (jm Z (jkb E148 Z Z (m3some_ct om55 (by omega) b (by first | exact hb9 | decide | omega)) (dc d5 dn) (kd (kc k0 kn)) ⟨some_ok om55.1 hbn, (someS_s.trans om55.2)⟩ p1 fun m62 hm62 om62 bm62 ua62 qs62 w12 => ?_))))))
  clear bm55
  refine jlit (r := (rI .i64)) (l := [m36.nx, someV m55]) U22 I3 (by decide) Z Z Z (lV Z Z (wI (wp w38_0)) (lV Z Z (wI ((wfw d0))) ln)) fun g63 => jm Z (js (jbu (v := .agg #[.int .i64 16, .int .i64 0, .int .i64 0, (.slice (some ⟨g63, 0, none⟩) 2 2), .int .i32 (wordV m52)]) Z (fun _ => by kernel_rfl)) (jfz k0 (by (try simp) <;> omega) (jkb E149 Z Z (m3add_ct (i := ⟨16, 0, 0, [m36.nx, someV m55], wordV m52⟩) om62 (by omega) b (by first | exact hb9 | decide | omega)) (dc d7 (dc (rIns.M (m := ⟨16, 0, 0, [m36.nx, someV m55], wordV m52⟩) (c := (.slice (some ⟨g63, 0, none⟩) 2 2)) d0 (wl 16) (wl 0) (wl 0) (wp w55_0)) dn)) (kd (kc k0 kn)) ⟨add_ok om62.1 hbn, (addS_s.trans om62.2)⟩ p0 fun m66 hm66 om66 bm66 ua66 qs66 w15 => ?_)))
  clear bm62
  refine jn ?_
  have hst : m66 = memS b st m := (by (try simp only [hm15, hm17, hm19, hm23, hm26, hm28, hm36, hm38, hm46, hm49, hm52, hm55, hm62, hm66] at hc1 hc2 hc3); (try simp only [hm15, hm17, hm19, hm23, hm26, hm28, hm36, hm38, hm46, hm49, hm52, hm55, hm62, hm66]); all_goals first | rfl | (simp [memS, mem1, mem2, hc1, hc2, hc3]; done) | (simp [memS, mem1, mem2, hc1, hc2, hc3]; rfl) | (unfold memS mem1 mem2; (repeat' split) <;> first | rfl | (exfalso; omega) | (simp [hc1, hc2, hc3] at *; done) | (simp_all; done)))
  exact jd0 Z (ua66, qs66) Z dn (fun _ _ => (kcb (by rw [← hst]) k0 (kcg (by rw [← hst]) k0 (kck (by rw [← hst]) k0 kn))))
  refine jr (jm Z (jm Z (jm Z (jkr E99 Z Z (m3fresh_ct om55 (by omega)) (dc d5 dn) (kd (kc k0 kn)) ⟨fresh_ok om55.1, om55.2⟩ fun m70 hm70 om70 bm70 => ?_))))
  have w70_0 : IntKind.i64.wrap (m55.nx) = m55.nx := (IntWalk.i64_in _ (by omega))
  clear bm55
  refine jm Z (jlit (r := (rI .i64)) (l := [m36.nx]) U22 I3 (by decide) Z Z Z (lV Z Z (wI (wp w38_0)) ln) fun g72 => jm Z (js (jbu (v := .agg #[.int .i64 15, .int .i64 m55.nx, .int .i64 0, (.slice (some ⟨g72, 0, none⟩) 1 1), .int .i32 (wordV m52)]) Z (fun _ => by kernel_rfl)) (jfz k0 (by (try simp) <;> omega) (jkb E149 Z Z (m3add_ct (i := ⟨15, m55.nx, 0, [m36.nx], wordV m52⟩) om70 (by omega) b (by first | exact hb9 | decide | omega)) (dc d6 (dc (rIns.M (m := ⟨15, m55.nx, 0, [m36.nx], wordV m52⟩) (c := (.slice (some ⟨g72, 0, none⟩) 1 1)) d0 (wl 15) (wp w70_0) (wl 0) (wp w55_0)) dn)) (kd (kc k0 kn)) ⟨add_ok om70.1 hbn, (addS_s.trans om70.2)⟩ p0 fun m75 hm75 om75 bm75 ua75 qs75 w17 => ?_))))
  clear bm70
  refine jn ?_
  have hst : m75 = memS b st m := (by (try simp only [hm15, hm17, hm19, hm23, hm26, hm28, hm36, hm38, hm46, hm49, hm52, hm55, hm70, hm75] at hc1 hc2 hc3); (try simp only [hm15, hm17, hm19, hm23, hm26, hm28, hm36, hm38, hm46, hm49, hm52, hm55, hm70, hm75]); all_goals first | rfl | (simp [memS, mem1, mem2, hc1, hc2, hc3]; done) | (simp [memS, mem1, mem2, hc1, hc2, hc3]; rfl) | (unfold memS mem1 mem2; (repeat' split) <;> first | rfl | (exfalso; omega) | (simp [hc1, hc2, hc3] at *; done) | (simp_all; done)))
  exact jd0 Z (ua75, qs75) Z dn (fun _ _ => (kcb (by rw [← hst]) k0 (kcg (by rw [← hst]) k0 (kck (by rw [← hst]) k0 kn))))
  refine jsk (jx (jq (jr (jm Z (jn (jx ?_))))))
  refine jif Z (fun hc4 => ?_) (fun hc4 => ?_)
  refine jr (jm Z (jm Z (jm Z (jm Z (jm Z (jkb E148 Z Z (m3some_ct om52 (by omega) b (by first | exact hb9 | decide | omega)) (dc d5 dn) (kd (kc k0 kn)) ⟨some_ok om52.1 hbn, (someS_s.trans om52.2)⟩ p1 fun m62 hm62 om62 bm62 ua62 qs62 w18 => ?_))))))
  clear bm52
  refine jlit (r := (rI .i64)) (l := [m36.nx, someV m52]) U22 I3 (by decide) Z Z Z (lV Z Z (wI (wp w38_0)) (lV Z Z (wI ((wfw d0))) ln)) fun g63_20 => jm Z (js (jbu (v := .agg #[.int .i64 16, .int .i64 0, .int .i64 0, (.slice (some ⟨g63_20, 0, none⟩) 2 2), .int .i32 (IntKind.i32.wrap (takeV 4 m46))]) Z (fun _ => by kernel_rfl)) (jfz k0 (by (try simp) <;> omega) (jkb E149 Z Z (m3add_ct (i := ⟨16, 0, 0, [m36.nx, someV m52], IntKind.i32.wrap (takeV 4 m46)⟩) om62 (by omega) b (by first | exact hb9 | decide | omega)) (dc d7 (dc (rIns.M (m := ⟨16, 0, 0, [m36.nx, someV m52], IntKind.i32.wrap (takeV 4 m46)⟩) (c := (.slice (some ⟨g63_20, 0, none⟩) 2 2)) d0 (wl 16) (wl 0) (wl 0) (wp (wrap_wrap _ _))) dn)) (kd (kc k0 kn)) ⟨add_ok om62.1 hbn, (addS_s.trans om62.2)⟩ p0 fun m66 hm66 om66 bm66 ua66 qs66 w22 => ?_)))
  clear bm62
  refine jn ?_
  have hst : m66 = memS b st m := (by (try simp only [hm15, hm17, hm19, hm23, hm26, hm28, hm36, hm38, hm46, hm49, hm52, hm62, hm66] at hc1 hc2 hc4); (try simp only [hm15, hm17, hm19, hm23, hm26, hm28, hm36, hm38, hm46, hm49, hm52, hm62, hm66]); all_goals first | rfl | (simp [memS, mem1, mem2, hc1, hc2, hc4]; done) | (simp [memS, mem1, mem2, hc1, hc2, hc4]; rfl) | (unfold memS mem1 mem2; (repeat' split) <;> first | rfl | (exfalso; omega) | (simp [hc1, hc2, hc4] at *; done) | (simp_all; done)))
  exact jd0 Z (ua66, qs66) Z dn (fun _ _ => (kcb (by rw [← hst]) k0 (kcg (by rw [← hst]) k0 (kck (by rw [← hst]) k0 kn))))
  refine jr (jm Z (jm Z (jm Z (jkr E99 Z Z (m3fresh_ct om52 (by omega)) (dc d5 dn) (kd (kc k0 kn)) ⟨fresh_ok om52.1, om52.2⟩ fun m70 hm70 om70 bm70 => ?_))))
  have w70_0 : IntKind.i64.wrap (m52.nx) = m52.nx := (IntWalk.i64_in _ (by omega))
  clear bm52
  refine jm Z (jlit (r := (rI .i64)) (l := [m36.nx]) U22 I3 (by decide) Z Z Z (lV Z Z (wI (wp w38_0)) ln) fun g72_23 => jm Z (js (jbu (v := .agg #[.int .i64 15, .int .i64 m52.nx, .int .i64 0, (.slice (some ⟨g72_23, 0, none⟩) 1 1), .int .i32 (IntKind.i32.wrap (takeV 4 m46))]) Z (fun _ => by kernel_rfl)) (jfz k0 (by (try simp) <;> omega) (jkb E149 Z Z (m3add_ct (i := ⟨15, m52.nx, 0, [m36.nx], IntKind.i32.wrap (takeV 4 m46)⟩) om70 (by omega) b (by first | exact hb9 | decide | omega)) (dc d6 (dc (rIns.M (m := ⟨15, m52.nx, 0, [m36.nx], IntKind.i32.wrap (takeV 4 m46)⟩) (c := (.slice (some ⟨g72_23, 0, none⟩) 1 1)) d0 (wl 15) (wp w70_0) (wl 0) (wp (wrap_wrap _ _))) dn)) (kd (kc k0 kn)) ⟨add_ok om70.1 hbn, (addS_s.trans om70.2)⟩ p0 fun m75 hm75 om75 bm75 ua75 qs75 w25 => ?_))))
  clear bm70
  refine jn ?_
  have hst : m75 = memS b st m := (by (try simp only [hm15, hm17, hm19, hm23, hm26, hm28, hm36, hm38, hm46, hm49, hm52, hm70, hm75] at hc1 hc2 hc4); (try simp only [hm15, hm17, hm19, hm23, hm26, hm28, hm36, hm38, hm46, hm49, hm52, hm70, hm75]); all_goals first | rfl | (simp [memS, mem1, mem2, hc1, hc2, hc4]; done) | (simp [memS, mem1, mem2, hc1, hc2, hc4]; rfl) | (unfold memS mem1 mem2; (repeat' split) <;> first | rfl | (exfalso; omega) | (simp [hc1, hc2, hc4] at *; done) | (simp_all; done)))
  exact jd0 Z (ua75, qs75) Z dn (fun _ _ => (kcb (by rw [← hst]) k0 (kcg (by rw [← hst]) k0 (kck (by rw [← hst]) k0 kn))))
  refine jsk (jx (jq (jr (jm Z (jkr E54 Z Z (m3take_ct om19 (by omega) 4 (by first | exact hb9 | decide | omega)) (dc d1 dn) (kd (kc k0 kn)) ⟨take_ok om19.1, om19.2⟩ fun m49 hm49 om49 bm49 => ?_)))))
  have w49_0 : IntKind.i64.wrap (takeV 4 m19) = takeV 4 m19 := (IntWalk.i64_in _ (by have h9 := @takeV_rng 4 (by omega) m19; omega))
  have tr49 := @takeV_rng 4 (by omega) m19
  clear bm19
  refine js (jco U3 U21 Z Z) (ja Z (jn (jx (jq (jq (jr (jm Z (jkr E54 Z Z (m3take_ct om49 (by omega) 12 (by first | exact hb9 | decide | omega)) (dc d1 dn) (kd (kc k0 kn)) ⟨take_ok om49.1, om49.2⟩ fun m52 hm52 om52 bm52 => ?_))))))))
  have w52_0 : IntKind.i64.wrap (takeV 12 m49) = takeV 12 m49 := (IntWalk.i64_in _ (by have h9 := @takeV_rng 12 (by omega) m49; omega))
  have tr52 := @takeV_rng 12 (by omega) m49
  clear bm49
  refine js (jeql Z Z) (jn (jx ?_))
  refine jif Z (fun hc5 => ?_) (fun hc5 => ?_)
  refine jr (jm Z (jkr E53 Z Z (m3word_ct om52 (by omega)) (dc d1 dn) (kd (kc k0 kn)) ⟨word_ok om52.1, om52.2⟩ fun m55 hm55 om55 bm55 => ?_))
  have w55_0 : IntKind.i32.wrap (wordV m52) = wordV m52 := (word_w m52)
  clear bm52
  refine ja Z (jn (jx (jq (jr (jm Z (jn (jx ?_)))))))
  refine jif Z (fun hc6 => ?_) (fun hc6 => ?_)
  refine jr (jm Z (jm Z (jm Z (jm Z (jm Z (jkb E148 Z Z (m3some_ct om55 (by omega) b (by first | exact hb9 | decide | omega)) (dc d1 dn) (kd (kc k0 kn)) ⟨some_ok om55.1 hbn, (someS_s.trans om55.2)⟩ p1 fun m62 hm62 om62 bm62 ua62 qs62 w26 => ?_))))))
  clear bm55
  refine jlit (r := (rI .i64)) (l := [m15.nx, someV m55]) U22 I3 (by decide) Z Z Z (lV Z Z (wI ((wfw d1))) (lV Z Z (wI ((wfw d0))) ln)) fun g63_28 => jm Z (js (jbu (v := .agg #[.int .i64 16, .int .i64 0, .int .i64 0, (.slice (some ⟨g63_28, 0, none⟩) 2 2), .int .i32 (wordV m52)]) Z (fun _ => by kernel_rfl)) (jfz k0 (by (try simp) <;> omega) (jkb E149 Z Z (m3add_ct (i := ⟨16, 0, 0, [m15.nx, someV m55], wordV m52⟩) om62 (by omega) b (by first | exact hb9 | decide | omega)) (dc d3 (dc (rIns.M (m := ⟨16, 0, 0, [m15.nx, someV m55], wordV m52⟩) (c := (.slice (some ⟨g63_28, 0, none⟩) 2 2)) d0 (wl 16) (wl 0) (wl 0) (wp w55_0)) dn)) (kd (kc k0 kn)) ⟨add_ok om62.1 hbn, (addS_s.trans om62.2)⟩ p0 fun m66 hm66 om66 bm66 ua66 qs66 w30 => ?_)))
  clear bm62
  refine jn ?_
  have hst : m66 = memS b st m := (by (try simp only [hm15, hm17, hm19, hm49, hm52, hm55, hm62, hm66] at hc1 hc5 hc6); (try simp only [hm15, hm17, hm19, hm49, hm52, hm55, hm62, hm66]); all_goals first | rfl | (simp [memS, mem1, mem2, hc1, hc5, hc6]; done) | (simp [memS, mem1, mem2, hc1, hc5, hc6]; rfl) | (unfold memS mem1 mem2; (repeat' split) <;> first | rfl | (exfalso; omega) | (simp [hc1, hc5, hc6] at *; done) | (simp_all; done)))
  exact jd0 Z (ua66, qs66) Z dn (fun _ _ => (kcb (by rw [← hst]) k0 (kcg (by rw [← hst]) k0 (kck (by rw [← hst]) k0 kn))))
  refine jr (jm Z (jm Z (jm Z (jkr E99 Z Z (m3fresh_ct om55 (by omega)) (dc d1 dn) (kd (kc k0 kn)) ⟨fresh_ok om55.1, om55.2⟩ fun m70 hm70 om70 bm70 => ?_))))
  have w70_0 : IntKind.i64.wrap (m55.nx) = m55.nx := (IntWalk.i64_in _ (by omega))
  clear bm55
  refine jm Z (jlit (r := (rI .i64)) (l := [m15.nx]) U22 I3 (by decide) Z Z Z (lV Z Z (wI ((wfw d0))) ln) fun g72_31 => jm Z (js (jbu (v := .agg #[.int .i64 15, .int .i64 m55.nx, .int .i64 0, (.slice (some ⟨g72_31, 0, none⟩) 1 1), .int .i32 (wordV m52)]) Z (fun _ => by kernel_rfl)) (jfz k0 (by (try simp) <;> omega) (jkb E149 Z Z (m3add_ct (i := ⟨15, m55.nx, 0, [m15.nx], wordV m52⟩) om70 (by omega) b (by first | exact hb9 | decide | omega)) (dc d2 (dc (rIns.M (m := ⟨15, m55.nx, 0, [m15.nx], wordV m52⟩) (c := (.slice (some ⟨g72_31, 0, none⟩) 1 1)) d0 (wl 15) (wp w70_0) (wl 0) (wp w55_0)) dn)) (kd (kc k0 kn)) ⟨add_ok om70.1 hbn, (addS_s.trans om70.2)⟩ p0 fun m75 hm75 om75 bm75 ua75 qs75 w33 => ?_))))
  clear bm70
  refine jn ?_
  have hst : m75 = memS b st m := (by (try simp only [hm15, hm17, hm19, hm49, hm52, hm55, hm70, hm75] at hc1 hc5 hc6); (try simp only [hm15, hm17, hm19, hm49, hm52, hm55, hm70, hm75]); all_goals first | rfl | (simp [memS, mem1, mem2, hc1, hc5, hc6]; done) | (simp [memS, mem1, mem2, hc1, hc5, hc6]; rfl) | (unfold memS mem1 mem2; (repeat' split) <;> first | rfl | (exfalso; omega) | (simp [hc1, hc5, hc6] at *; done) | (simp_all; done)))
  exact jd0 Z (ua75, qs75) Z dn (fun _ _ => (kcb (by rw [← hst]) k0 (kcg (by rw [← hst]) k0 (kck (by rw [← hst]) k0 kn))))
  refine jsk (jx (jq (jr (jm Z (jn (jx ?_))))))
  refine jif Z (fun hc7 => ?_) (fun hc7 => ?_)
  refine jr (jm Z (jm Z (jm Z (jm Z (jm Z (jkb E148 Z Z (m3some_ct om52 (by omega) b (by first | exact hb9 | decide | omega)) (dc d1 dn) (kd (kc k0 kn)) ⟨some_ok om52.1 hbn, (someS_s.trans om52.2)⟩ p1 fun m62 hm62 om62 bm62 ua62 qs62 w34 => ?_))))))
  clear bm52
  refine jlit (r := (rI .i64)) (l := [m15.nx, someV m52]) U22 I3 (by decide) Z Z Z (lV Z Z (wI ((wfw d1))) (lV Z Z (wI ((wfw d0))) ln)) fun g63_36 => jm Z (js (jbu (v := .agg #[.int .i64 16, .int .i64 0, .int .i64 0, (.slice (some ⟨g63_36, 0, none⟩) 2 2), .int .i32 (IntKind.i32.wrap (takeV 4 m19))]) Z (fun _ => by kernel_rfl)) (jfz k0 (by (try simp) <;> omega) (jkb E149 Z Z (m3add_ct (i := ⟨16, 0, 0, [m15.nx, someV m52], IntKind.i32.wrap (takeV 4 m19)⟩) om62 (by omega) b (by first | exact hb9 | decide | omega)) (dc d3 (dc (rIns.M (m := ⟨16, 0, 0, [m15.nx, someV m52], IntKind.i32.wrap (takeV 4 m19)⟩) (c := (.slice (some ⟨g63_36, 0, none⟩) 2 2)) d0 (wl 16) (wl 0) (wl 0) (wp (wrap_wrap _ _))) dn)) (kd (kc k0 kn)) ⟨add_ok om62.1 hbn, (addS_s.trans om62.2)⟩ p0 fun m66 hm66 om66 bm66 ua66 qs66 w38 => ?_)))
  clear bm62
  refine jn ?_
  have hst : m66 = memS b st m := (by (try simp only [hm15, hm17, hm19, hm49, hm52, hm62, hm66] at hc1 hc5 hc7); (try simp only [hm15, hm17, hm19, hm49, hm52, hm62, hm66]); all_goals first | rfl | (simp [memS, mem1, mem2, hc1, hc5, hc7]; done) | (simp [memS, mem1, mem2, hc1, hc5, hc7]; rfl) | (unfold memS mem1 mem2; (repeat' split) <;> first | rfl | (exfalso; omega) | (simp [hc1, hc5, hc7] at *; done) | (simp_all; done)))
  exact jd0 Z (ua66, qs66) Z dn (fun _ _ => (kcb (by rw [← hst]) k0 (kcg (by rw [← hst]) k0 (kck (by rw [← hst]) k0 kn))))
  refine jr (jm Z (jm Z (jm Z (jkr E99 Z Z (m3fresh_ct om52 (by omega)) (dc d1 dn) (kd (kc k0 kn)) ⟨fresh_ok om52.1, om52.2⟩ fun m70 hm70 om70 bm70 => ?_))))
  have w70_0 : IntKind.i64.wrap (m52.nx) = m52.nx := (IntWalk.i64_in _ (by omega))
  clear bm52
  refine jm Z (jlit (r := (rI .i64)) (l := [m15.nx]) U22 I3 (by decide) Z Z Z (lV Z Z (wI ((wfw d0))) ln) fun g72_39 => jm Z (js (jbu (v := .agg #[.int .i64 15, .int .i64 m52.nx, .int .i64 0, (.slice (some ⟨g72_39, 0, none⟩) 1 1), .int .i32 (IntKind.i32.wrap (takeV 4 m19))]) Z (fun _ => by kernel_rfl)) (jfz k0 (by (try simp) <;> omega) (jkb E149 Z Z (m3add_ct (i := ⟨15, m52.nx, 0, [m15.nx], IntKind.i32.wrap (takeV 4 m19)⟩) om70 (by omega) b (by first | exact hb9 | decide | omega)) (dc d2 (dc (rIns.M (m := ⟨15, m52.nx, 0, [m15.nx], IntKind.i32.wrap (takeV 4 m19)⟩) (c := (.slice (some ⟨g72_39, 0, none⟩) 1 1)) d0 (wl 15) (wp w70_0) (wl 0) (wp (wrap_wrap _ _))) dn)) (kd (kc k0 kn)) ⟨add_ok om70.1 hbn, (addS_s.trans om70.2)⟩ p0 fun m75 hm75 om75 bm75 ua75 qs75 w41 => ?_))))
  clear bm70
  refine jn ?_
  have hst : m75 = memS b st m := (by (try simp only [hm15, hm17, hm19, hm49, hm52, hm70, hm75] at hc1 hc5 hc7); (try simp only [hm15, hm17, hm19, hm49, hm52, hm70, hm75]); all_goals first | rfl | (simp [memS, mem1, mem2, hc1, hc5, hc7]; done) | (simp [memS, mem1, mem2, hc1, hc5, hc7]; rfl) | (unfold memS mem1 mem2; (repeat' split) <;> first | rfl | (exfalso; omega) | (simp [hc1, hc5, hc7] at *; done) | (simp_all; done)))
  exact jd0 Z (ua75, qs75) Z dn (fun _ _ => (kcb (by rw [← hst]) k0 (kcg (by rw [← hst]) k0 (kck (by rw [← hst]) k0 kn))))
abbrev U23 := @Tryz.underlying23
theorem A158 : ∃ d, Tryz.prog.underlying 158 = some d ∧ (match d with | .struct _ | .array _ _ => true | _ => false) = true := ⟨_, Tryz.underlying158, rfl⟩
theorem F158_0 : Fld Tryz.prog 158 0 0 := ⟨_, _, Tryz.underlying158, rfl, rfl, 1, (by unfold Sz; kernel_rfl), by decide⟩
theorem F158_1 : Fld Tryz.prog 158 1 1 := ⟨_, _, Tryz.underlying158, rfl, rfl, 1, (by unfold Sz; kernel_rfl), by decide⟩
theorem F158_2 : Fld Tryz.prog 158 2 2 := ⟨_, _, Tryz.underlying158, rfl, rfl, 1, (by unfold Sz; kernel_rfl), by decide⟩
theorem F158_3 : Fld Tryz.prog 158 3 3 := ⟨_, _, Tryz.underlying158, rfl, rfl, 1, (by unfold Sz; kernel_rfl), by decide⟩
theorem F160_2 : Fld Tryz.prog 160 2 2 := ⟨_, _, Tryz.underlying160, rfl, rfl, 4, (by unfold Sz; kernel_rfl), by decide⟩
theorem Z158 : Sz Tryz.prog 158 4 := by unfold Sz; kernel_rfl
theorem Z23 : Sz Tryz.prog 23 3 := by unfold Sz; kernel_rfl
theorem J158 : (Tryz.prog.info? 158).bind (·.zero) = some (.agg #[.int .i64 0, .slice none 0 0, .slice none 0 0, .int .i32 0]) := by kernel_rfl
theorem J23 : (Tryz.prog.info? 23).bind (·.zero) = some (.agg #[.int .i64 0, .int .i64 0, .int .i64 0]) := by kernel_rfl
set_option maxRecDepth 4000 in
theorem m3end_ct {vs vb al : Value} {m : Mk} {nb c : Nat} {S : List Int} {g0 : Nat} {B0 B1 : Nat} {qs : List BV} (hok : okS nb c S m) (hc : c ≤ 950000) (b : Int) {a2 : Value} {l : List Int} (hb9 : 0 ≤ b ∧ b < nb) : KB Tryz.prog 103 [.int .i64 b, a2] [dv (rL (rI .i64)) a2 l] g0 vs vb al S B0 B1 qs [] m (endS b l m) (.tuple #[]) := by
  refine jenter (args := [.pointer (some ⟨g0, 0, none⟩), .int .i64 b, a2]) Tryz.func103 rfl rfl rfl fun w0 X => ?_
  refine cgo k1 fun w1 => ?_
  have bd0 := okM.bnd hok.1
  refine cbk k2 (okM.bnd hok.1).2.2.2.2.2.2.2.1 fun hvb => ?_
  have hbn : b.toNat < nb := by omega
  refine jq (jr (js (jbu (v := .agg #[.int .i64 0, .slice none 0 0, .slice none 0 0, .int .i32 0]) Z (fun _ => by kernel_rfl)) (jalc J158 Z fun g6 => jsta k0 Z158 Z Z Z ⟨Z, Z, Z, Z, trivial⟩ (saf Z) (jn (jx (jq (jq (jr (jm Z (jdq d1 fun q2 w2 => ?_))))))))))
  refine js (jln U22 d1 Z) (jn (jx (jb (jq (jr (js (jeql Z Z) (ja Z (jn (jx ?_)))))))))
  refine jif Z (fun hc1 => ?_) (fun hc1 => ?_)
  refine jq (jr (js (jf F158_0 Z) (jst k0 Z3 Z Z Z s0 (jn (jx (jq (jr (jm Z (jkr E54 Z Z (m3take_ct hok (by omega) 8 (by first | exact hb9 | decide | omega)) (dc d0 dn) (kc k1 (kc k1 (kc k1 kn))) ⟨take_ok hok.1, hok.2⟩ fun m44 hm44 om44 bm44 => ?_)))))))))
  have w44_0 : IntKind.i64.wrap (takeV 8 m) = takeV 8 m := (IntWalk.i64_in _ (by have h9 := @takeV_rng 8 (by omega) m; omega))
  have tr44 := @takeV_rng 8 (by omega) m
  clear bd0
  refine ja Z (jn (jx (jq (jr (jm Z (js (jeql Z Z) (jn (jx ?_))))))))
  refine jif Z (fun hc2 => ?_) (fun hc2 => ?_)
  refine jq (jr (js (jf F158_0 Z) (jst k3 Z3 Z Z Z s0 (jn (jx (jr (jm Z (jkr E54 Z Z (m3take_ct om44 (by omega) 200 (by first | exact hb9 | decide | omega)) (dc d0 dn) (kc k1 (kc k1 (kc k1 kn))) ⟨take_ok om44.1, om44.2⟩ fun m49 hm49 om49 bm49 => ?_))))))))
  have w49_0 : IntKind.i64.wrap (takeV 200 m44) = takeV 200 m44 := (IntWalk.i64_in _ (by have h9 := @takeV_rng 200 (by omega) m44; omega))
  have tr49 := @takeV_rng 200 (by omega) m44
  clear bm44
  refine js (jco U3 U21 Z Z) (js (jf F158_3 Z) (jst k3 Z21 Z Z Z s3 (jn (jbn (jx (jtl 9 Mixed (by kernel_rfl) (jt (jmv Z) (jt (jnil Z) (jt (jf F106_2 Z) (jt (jf F104_1 Z) (jt (jl k1 O102 Z Z) ?_)))))))))))
  refine jt (jmv Z) (jt (jla k0 A158 Z158 Z Z Z) (jt (jbi' (j := (Int.toNat b)) U102 Z160 hvb Z Z (by omega) (by omega)) (jt (jf F160_2 Z) (jtt (jbT k3 (by omega) Z158 Z Z Z Z ⟨Z, Z, Z, Z, trivial⟩ (rTerm.M (m := ⟨5, [], [], IntKind.i32.wrap (takeV 200 m44)⟩) (c := (.slice none 0 0, .slice none 0 0)) wN wN (wl 5) (wp (wrap_wrap _ _))) (jkn (c := c + 2) ({ m49 with bs := List.set m49.bs (Int.toNat b) { (ix m49.bs (Int.toNat b)) with Term := ⟨5, [], [], IntKind.i32.wrap (takeV 200 m44)⟩ } }) (kc k2 (kc k2 (kc k0 kn))) ⟨(okM.setb (d := 0) om49.1 (Nat.le_refl _)), om49.2⟩ fun ms3 hms3 oms3 bms3 => ?_))))))
  clear bm49
  refine jn ?_
  have hst : ms3 = endS b l m := (by (try simp only [hm44, hm49, hms3] at hc1 hc2); (try simp only [hm44, hm49, hms3]); all_goals first | rfl | (simp [endS, setT, hc1, hc2]; done) | (simp [endS, setT, hc1, hc2]; rfl) | (unfold endS setT; (repeat' split) <;> first | rfl | (exfalso; omega) | (simp [hc1, hc2] at *; done) | (simp_all; done)))
  exact jd0 Z (al, List.set qs (Int.toNat b) { (ix qs (Int.toNat b)) with T := ⟨5, [], [], IntKind.i32.wrap (takeV 200 m44)⟩ }) Z dn (fun _ _ => (kcb (by rw [← hst]) k0 (kcg (by rw [← hst]) k0 (kck (by rw [← hst]) k0 kn))))
  refine jq (jr (jm Z (js (jgtr Z Z) (jn (jx ?_)))))
  refine jif Z (fun hc3 => ?_) (fun hc3 => ?_)
  refine jr (jm Z (jm Z (jkb E148 Z Z (m3some_ct om44 (by omega) b (by first | exact hb9 | decide | omega)) (dc d0 dn) (kd (kc k0 kn)) ⟨some_ok om44.1 hbn, (someS_s.trans om44.2)⟩ p1 fun m56 hm56 om56 bm56 ua56 qs56 w4 => ?_)))
  clear bm44
  refine jlit (r := (rI .i64)) (l := [someV m44]) U22 I3 (by decide) Z Z Z (lV Z Z (wI ((wfw d0))) ln) fun g57 => js (jf F158_1 Z) (jst k4 Z22 Z Z Z s1 (jn (jbn (jx (jtl 9 Mixed (by kernel_rfl) (jt (jmv Z) (jt (jnil Z) (jt (jf F106_2 Z) (jt (jf F104_1 Z) (jt (jl k2 O102 Z Z) ?_))))))))))
  refine jt (jmv Z) (jt (jla k0 A158 Z158 Z Z Z) (jt (jbi' (j := (Int.toNat b)) U102 Z160 hvb Z Z (by omega) (by omega)) (jt (jf F160_2 Z) (jtt (jfz k1 (by (try simp) <;> omega) (jbT k3 (by omega) Z158 Z Z Z Z ⟨Z, Z, Z, Z, trivial⟩ (rTerm.M (m := ⟨4, [someV m44], [], 0⟩) (c := ((.slice (some ⟨g57, 0, none⟩) 1 1), .slice none 0 0)) d0 wN (wl 4) (wl 0)) (jkn (c := c + 9) ({ m56 with bs := List.set m56.bs (Int.toNat b) { (ix m56.bs (Int.toNat b)) with Term := ⟨4, [someV m44], [], 0⟩ } }) (kc k2 (kc k2 (kc k0 kn))) ⟨(okM.setb (d := 0) om56.1 (Nat.le_refl _)), om56.2⟩ fun ms7 hms7 oms7 bms7 => ?_)))))))
  clear bm56
  refine jn ?_
  have hst : ms7 = endS b l m := (by (try simp only [hm44, hm56, hms7] at hc1 hc2 hc3); (try simp only [hm44, hm56, hms7]); all_goals first | rfl | (simp [endS, setT, hc1, hc2, hc3]; done) | (simp [endS, setT, hc1, hc2, hc3]; rfl) | (unfold endS setT; (repeat' split) <;> first | rfl | (exfalso; omega) | (simp [hc1, hc2, hc3] at *; done) | (simp_all; done)))
  exact jd0 Z (ua56, List.set qs56 (Int.toNat b) { (ix qs56 (Int.toNat b)) with T := ⟨4, [someV m44], [], 0⟩ }) Z dn (fun _ _ => (kcb (by rw [← hst]) k0 (kcg (by rw [← hst]) k0 (kck (by rw [← hst]) k0 kn))))
  refine jsk (jbn (jx (jtl 9 Mixed (by kernel_rfl) (jt (jmv Z) (jt (jnil Z) (jt (jf F106_2 Z) (jt (jf F104_1 Z) (jt (jl k0 O102 Z Z) (jt (jmv Z) (jt (jla k3 A158 Z158 Z Z Z) (jt (jbi' (j := (Int.toNat b)) U102 Z160 hvb Z Z (by omega) (by omega)) ?_)))))))))))
  refine jt (jf F160_2 Z) (jtt (jbT k2 (by omega) Z158 Z Z Z Z ⟨Z, Z, Z, Z, trivial⟩ (rTerm.M (m := ⟨4, [], [], 0⟩) (c := (.slice none 0 0, .slice none 0 0)) wN wN (wl 4) (wl 0)) (jkn (c := c + 1) ({ m44 with bs := List.set m44.bs (Int.toNat b) { (ix m44.bs (Int.toNat b)) with Term := ⟨4, [], [], 0⟩ } }) (kc k1 (kc k1 (kc k0 kn))) ⟨(okM.setb (d := 0) om44.1 (Nat.le_refl _)), om44.2⟩ fun ms8 hms8 oms8 bms8 => ?_)))
  clear bm44
  refine jn ?_
  have hst : ms8 = endS b l m := (by (try simp only [hm44, hms8] at hc1 hc2 hc3); (try simp only [hm44, hms8]); all_goals first | rfl | (simp [endS, setT, hc1, hc2, hc3]; done) | (simp [endS, setT, hc1, hc2, hc3]; rfl) | (unfold endS setT; (repeat' split) <;> first | rfl | (exfalso; omega) | (simp [hc1, hc2, hc3] at *; done) | (simp_all; done)))
  exact jd0 Z (al, List.set qs (Int.toNat b) { (ix qs (Int.toNat b)) with T := ⟨4, [], [], 0⟩ }) Z dn (fun _ _ => (kcb (by rw [← hst]) k0 (kcg (by rw [← hst]) k0 (kck (by rw [← hst]) k0 kn))))
  refine jq (jr (js (jeql Z Z) (ja Z (jn (jx ?_)))))
  refine jif Z (fun hc4 => ?_) (fun hc4 => ?_)
  refine jq (jr (js (jf F158_0 Z) (jst k0 Z3 Z Z Z s0 (jn (jx (jr (jm Z (js (jf F158_2 Z) (jst k0 Z22 Z Z w2.one s2 (jn (jbn ?_)))))))))))
  refine jx (jtl 9 Mixed (by kernel_rfl) (jt (jmv Z) (jt (jnil Z) (jt (jf F106_2 Z) (jt (jf F104_1 Z) (jt (jl k1 O102 Z Z) (jt (jmv Z) (jt (jla k0 A158 Z158 Z Z Z) (jt (jbi' (j := (Int.toNat b)) U102 Z160 hvb Z Z (by omega) (by omega)) (jt (jf F160_2 Z) (jtt ?_)))))))))))
  refine jbT k3 (by omega) Z158 Z Z Z Z ⟨Z, Z, w2.one, Z, trivial⟩ (rTerm.M (m := ⟨1, [], l, 0⟩) (c := (.slice none 0 0, a2)) wN d1 (wl 1) (wl 0)) (jkn (c := c) ({ m with bs := List.set m.bs (Int.toNat b) { (ix m.bs (Int.toNat b)) with Term := ⟨1, [], l, 0⟩ } }) (kc k2 (kc k2 (kc k0 kn))) ⟨(okM.setb (d := 0) hok.1 (Nat.le_refl _)), hok.2⟩ fun ms9 hms9 oms9 bms9 => ?_)
  clear bd0
  refine jn ?_
  have hst : ms9 = endS b l m := (by (try simp only [hms9] at hc1 hc4); (try simp only [hms9]); all_goals first | rfl | (simp [endS, setT, hc1, hc4]; done) | (simp [endS, setT, hc1, hc4]; rfl) | (unfold endS setT; (repeat' split) <;> first | rfl | (exfalso; omega) | (simp [hc1, hc4] at *; done) | (simp_all; done)))
  exact jd0 Z (al, List.set qs (Int.toNat b) { (ix qs (Int.toNat b)) with T := ⟨1, [], l, 0⟩ }) Z dn (fun _ _ => (kcb (by rw [← hst]) k0 (kcg (by rw [← hst]) k0 (kck (by rw [← hst]) k0 kn))))
  refine jq (jr (js (jeql Z Z) (ja Z (jn (jx ?_)))))
  refine jif Z (fun hc5 => ?_) (fun hc5 => ?_)
  refine jq (jr (js (jf F158_0 Z) (jst k0 Z3 Z Z Z s0 (jn (jx (jq (jr (jm Z (js (jf F158_2 Z) (jst k0 Z22 Z Z w2.one s2 (jn ?_)))))))))))
  refine jx (jq (jr (jm Z (jm Z (jkb E148 Z Z (m3some_ct hok (by omega) b (by first | exact hb9 | decide | omega)) (dc d0 dn) (kc k1 (kc k1 (kc k1 kn))) ⟨some_ok hok.1 hbn, (someS_s.trans hok.2)⟩ p1 fun m71 hm71 om71 bm71 ua71 qs71 w10 => ?_)))))
  clear bd0
  refine ja Z (jn (jx (jq (jq (jr (jm Z (jkr E54 Z Z (m3take_ct om71 (by omega) 2 (by first | exact hb9 | decide | omega)) (dc d1 dn) (kd (kc k0 kn)) ⟨take_ok om71.1, om71.2⟩ fun m73 hm73 om73 bm73 => ?_)))))))
  have w73_0 : IntKind.i64.wrap (takeV 2 m71) = takeV 2 m71 := (IntWalk.i64_in _ (by have h9 := @takeV_rng 2 (by omega) m71; omega))
  have tr73 := @takeV_rng 2 (by omega) m71
  clear bm71
  refine js (jeql Z Z) (jn (jx ?_))
  refine jif Z (fun hc6 => ?_) (fun hc6 => ?_)
  refine jq (jr (js (jbu (v := .agg #[.int .i64 11, .int .i64 12, .int .i64 13]) Z (fun _ => by kernel_rfl)) (jalc J23 Z fun g9 => jsta k0 Z23 Z Z Z ⟨Z, Z, Z, trivial⟩ (saf Z) (jn (jx (jq (jr (jm Z (jm Z (jkb E148 Z Z (m3some_ct om73 (by omega) b (by first | exact hb9 | decide | omega)) (dc d1 dn) (kc k1 (kc k1 (kc k1 kn))) ⟨some_ok om73.1 hbn, (someS_s.trans om73.2)⟩ p1 fun m78 hm78 om78 bm78 ua78 qs78 w12 => ?_))))))))))
  clear bm73
  refine ja Z (jn (jx (jq (jr (jm Z (jkr E99 Z Z (m3fresh_ct om78 (by omega)) (dc d2 dn) (kd (kc k0 kn)) ⟨fresh_ok om78.1, om78.2⟩ fun m80 hm80 om80 bm80 => ?_))))))
  have w80_0 : IntKind.i64.wrap (m78.nx) = m78.nx := (IntWalk.i64_in _ (by omega))
  clear bm78
  refine ja Z (jn (jx (jq (jr (jm Z (jm Z (jm Z (jkr E54 Z Z (m3take_ct om80 (by omega) 3 (by first | exact hb9 | decide | omega)) (dc d2 dn) (kd (kc k0 kn)) ⟨take_ok om80.1, om80.2⟩ fun m84 hm84 om84 bm84 => ?_))))))))
  have w84_0 : IntKind.i64.wrap (takeV 3 m80) = takeV 3 m80 := (IntWalk.i64_in _ (by have h9 := @takeV_rng 3 (by omega) m80; omega))
  have tr84 := @takeV_rng 3 (by omega) m80
  clear bm80
  refine js (jixa (i := (Int.toNat (takeV 3 m80))) U23 Z3 Z Z (by omega) (by omega)) (js (jli (i := (Int.toNat (takeV 3 m80))) (l := [11, 12, 13]) k3 (by show _ < 3; omega) (by omega) O3 Z) (jm Z (jm Z (jm Z (jlit (r := (rI .i64)) (l := [someV m, someV m73]) U22 I3 (by decide) Z Z Z (lV Z Z (wI ((wfw d1))) (lV Z Z (wI ((wfw d0))) ln)) fun g90 => js (jbu (v := .agg #[.int .i64 (ix [11, 12, 13] (Int.toNat (takeV 3 m80))), .int .i64 m78.nx, .int .i64 0, (.slice (some ⟨g90, 0, none⟩) 2 2), .int .i32 0]) Z (fun _ => by kernel_rfl)) (jfz k0 (by (try simp) <;> omega) (jkb E149 Z Z (m3add_ct (i := ⟨ix [11, 12, 13] (Int.toNat (takeV 3 m80)), m78.nx, 0, [someV m, someV m73], 0⟩) om84 (by omega) b (by first | exact hb9 | decide | omega)) (dc d3 (dc (rIns.M (m := ⟨ix [11, 12, 13] (Int.toNat (takeV 3 m80)), m78.nx, 0, [someV m, someV m73], 0⟩) (c := (.slice (some ⟨g90, 0, none⟩) 2 2)) d0 (wp (ix_w (l := [11, 12, 13]) (by decide) (by decide) (Int.toNat (takeV 3 m80)))) (wp w80_0) (wl 0) (wl 0)) dn)) (kd (kc k0 kn)) ⟨add_ok om84.1 hbn, (addS_s.trans om84.2)⟩ p0 fun m92 hm92 om92 bm92 ua92 qs92 w15 => ?_)))))))
  clear bm84
  refine jn (jx (jr (jm Z (ja Z (jn (jx (jr (jm Z (jlit (r := (rI .i64)) (l := [m78.nx]) U22 I3 (by decide) Z Z Z (lV Z Z (wI (wp w80_0)) ln) fun g95 => js (jf F158_1 Z) (jst k5 Z22 Z Z Z s1 ?_))))))))))
  refine jn (jbn (jx (jtl 9 Mixed (by kernel_rfl) (jt (jmv Z) (jt (jnil Z) (jt (jf F106_2 Z) (jt (jf F104_1 Z) (jt (jl k2 O102 Z Z) (jt (jmv Z) (jt (jla k0 A158 Z158 Z Z Z) (jt (jbi' (j := (Int.toNat b)) U102 Z160 hvb Z Z (by omega) (by omega)) ?_)))))))))))
  refine jt (jf F160_2 Z) (jtt (jfz k1 (by (try simp) <;> omega) (jbT k3 (by omega) Z158 Z Z Z Z ⟨Z, Z, w2.one, Z, trivial⟩ (rTerm.M (m := ⟨2, [m78.nx], l, 0⟩) (c := ((.slice (some ⟨g95, 0, none⟩) 1 1), a2)) d0 d5 (wl 2) (wl 0)) (jkn (c := c + 21) ({ m92 with bs := List.set m92.bs (Int.toNat b) { (ix m92.bs (Int.toNat b)) with Term := ⟨2, [m78.nx], l, 0⟩ } }) (kc k2 (kc k2 (kc k0 kn))) ⟨(okM.setb (d := 0) om92.1 (Nat.le_refl _)), om92.2⟩ fun ms17 hms17 oms17 bms17 => ?_))))
  clear bm92
  refine jn ?_
  have hst : ms17 = endS b l m := (by (try simp only [hm71, hm73, hm78, hm80, hm84, hm92, hms17] at hc1 hc4 hc5 hc6); (try simp only [hm71, hm73, hm78, hm80, hm84, hm92, hms17]); all_goals first | rfl | (simp [endS, setT, hc1, hc4, hc5, hc6]; done) | (simp [endS, setT, hc1, hc4, hc5, hc6]; rfl) | (unfold endS setT; (repeat' split) <;> first | rfl | (exfalso; omega) | (simp [hc1, hc4, hc5, hc6] at *; done) | (simp_all; done)))
  exact jd0 Z (ua92, List.set qs92 (Int.toNat b) { (ix qs92 (Int.toNat b)) with T := ⟨2, [m78.nx], l, 0⟩ }) Z dn (fun _ _ => (kcb (by rw [← hst]) k0 (kcg (by rw [← hst]) k0 (kck (by rw [← hst]) k0 kn))))
  refine jsk (jx (jr (jm Z (jlit (r := (rI .i64)) (l := [someV m]) U22 I3 (by decide) Z Z Z (lV Z Z (wI ((wfw d0))) ln) fun g95_18 => js (jf F158_1 Z) (jst k4 Z22 Z Z Z s1 (jn (jbn (jx (jtl 9 Mixed (by kernel_rfl) (jt (jmv Z) ?_))))))))))
  refine jt (jnil Z) (jt (jf F106_2 Z) (jt (jf F104_1 Z) (jt (jl k2 O102 Z Z) (jt (jmv Z) (jt (jla k0 A158 Z158 Z Z Z) (jt (jbi' (j := (Int.toNat b)) U102 Z160 hvb Z Z (by omega) (by omega)) (jt (jf F160_2 Z) (jtt (jfz k1 (by (try simp) <;> omega) (jbT k3 (by omega) Z158 Z Z Z Z ⟨Z, Z, w2.one, Z, trivial⟩ (rTerm.M (m := ⟨2, [someV m], l, 0⟩) (c := ((.slice (some ⟨g95_18, 0, none⟩) 1 1), a2)) d0 d3 (wl 2) (wl 0)) (jkn (c := c + 9) ({ m73 with bs := List.set m73.bs (Int.toNat b) { (ix m73.bs (Int.toNat b)) with Term := ⟨2, [someV m], l, 0⟩ } }) (kc k2 (kc k2 (kc k0 kn))) ⟨(okM.setb (d := 0) om73.1 (Nat.le_refl _)), om73.2⟩ fun ms20 hms20 oms20 bms20 => ?_)))))))))))
  clear bm73
  refine jn ?_
  have hst : ms20 = endS b l m := (by (try simp only [hm71, hm73, hms20] at hc1 hc4 hc5 hc6); (try simp only [hm71, hm73, hms20]); all_goals first | rfl | (simp [endS, setT, hc1, hc4, hc5, hc6]; done) | (simp [endS, setT, hc1, hc4, hc5, hc6]; rfl) | (unfold endS setT; (repeat' split) <;> first | rfl | (exfalso; omega) | (simp [hc1, hc4, hc5, hc6] at *; done) | (simp_all; done)))
  exact jd0 Z (ua71, List.set qs71 (Int.toNat b) { (ix qs71 (Int.toNat b)) with T := ⟨2, [someV m], l, 0⟩ }) Z dn (fun _ _ => (kcb (by rw [← hst]) k0 (kcg (by rw [← hst]) k0 (kck (by rw [← hst]) k0 kn))))
  refine jq (jr (js (jf F158_0 Z) (jst k0 Z3 Z Z Z s0 (jn (jx (jq (jr (jm Z (js (jf F158_2 Z) (jst k0 Z22 Z Z w2.one s2 (jn ?_)))))))))))
  refine jx (jq (jr (jm Z (jm Z (jkb E148 Z Z (m3some_ct hok (by omega) b (by first | exact hb9 | decide | omega)) (dc d0 dn) (kc k1 (kc k1 (kc k1 kn))) ⟨some_ok hok.1 hbn, (someS_s.trans hok.2)⟩ p1 fun m23 hm23 om23 bm23 ua23 qs23 w21 => ?_)))))
  clear bd0
  refine ja Z (jn (jx (jq (jr (jm Z (jm Z (jkb E105 Z Z (m3const_ct om23 (by omega) b 7 (by first | exact hb9 | decide | omega) (by decide)) (dc d1 dn) (kd (kc k0 kn)) ⟨const_ok om23.1 hbn, (constS_s.trans om23.2)⟩ p1 fun m26 hm26 om26 bm26 ua26 qs26 w23 => ?_)))))))
  clear bm23
  refine ja Z (jn (jx (jq (jr (jm Z (jkr E99 Z Z (m3fresh_ct om26 (by omega)) (dc d2 dn) (kd (kc k0 kn)) ⟨fresh_ok om26.1, om26.2⟩ fun m28 hm28 om28 bm28 => ?_))))))
  have w28_0 : IntKind.i64.wrap (m26.nx) = m26.nx := (IntWalk.i64_in _ (by omega))
  clear bm26
  refine ja Z (jn (jx (jq (jr (jm Z (jm Z (jm Z (jm Z (jm Z (jlit (r := (rI .i64)) (l := [someV m, m23.nx]) U22 I3 (by decide) Z Z Z (lV Z Z (wI ((wfw d1))) (lV Z Z (wI ((wfw d0))) ln)) fun g34 => js (jbu (v := .agg #[.int .i64 5, .int .i64 m26.nx, .int .i64 0, (.slice (some ⟨g34, 0, none⟩) 2 2), .int .i32 0]) Z (fun _ => by kernel_rfl)) ?_))))))))))
  refine jfz k0 (by (try simp) <;> omega) (jkb E149 Z Z (m3add_ct (i := ⟨5, m26.nx, 0, [someV m, m23.nx], 0⟩) om28 (by omega) b (by first | exact hb9 | decide | omega)) (dc d3 (dc (rIns.M (m := ⟨5, m26.nx, 0, [someV m, m23.nx], 0⟩) (c := (.slice (some ⟨g34, 0, none⟩) 2 2)) d0 (wl 5) (wp w28_0) (wl 0) (wl 0)) dn)) (kd (kc k0 kn)) ⟨add_ok om28.1 hbn, (addS_s.trans om28.2)⟩ p0 fun m36 hm36 om36 bm36 ua36 qs36 w26 => ?_)
  clear bm28
  refine jn (jx (jr (jm Z (jlit (r := (rI .i64)) (l := [m26.nx]) U22 I3 (by decide) Z Z Z (lV Z Z (wI (wp w28_0)) ln) fun g38 => js (jf F158_1 Z) (jst k4 Z22 Z Z Z s1 (jn (jbn (jx (jtl 9 Mixed (by kernel_rfl) (jt (jmv Z) ?_))))))))))
  refine jt (jnil Z) (jt (jf F106_2 Z) (jt (jf F104_1 Z) (jt (jl k2 O102 Z Z) (jt (jmv Z) (jt (jla k0 A158 Z158 Z Z Z) (jt (jbi' (j := (Int.toNat b)) U102 Z160 hvb Z Z (by omega) (by omega)) (jt (jf F160_2 Z) (jtt (jfz k1 (by (try simp) <;> omega) (jbT k3 (by omega) Z158 Z Z Z Z ⟨Z, Z, w2.one, Z, trivial⟩ (rTerm.M (m := ⟨3, [m26.nx], l, 0⟩) (c := ((.slice (some ⟨g38, 0, none⟩) 1 1), a2)) d0 d5 (wl 3) (wl 0)) (jkn (c := c + 14) ({ m36 with bs := List.set m36.bs (Int.toNat b) { (ix m36.bs (Int.toNat b)) with Term := ⟨3, [m26.nx], l, 0⟩ } }) (kc k2 (kc k2 (kc k0 kn))) ⟨(okM.setb (d := 0) om36.1 (Nat.le_refl _)), om36.2⟩ fun ms28 hms28 oms28 bms28 => ?_)))))))))))
  clear bm36
  refine jn ?_
  have hst : ms28 = endS b l m := (by (try simp only [hm23, hm26, hm28, hm36, hms28] at hc1 hc4 hc5); (try simp only [hm23, hm26, hm28, hm36, hms28]); all_goals first | rfl | (simp [endS, setT, hc1, hc4, hc5]; done) | (simp [endS, setT, hc1, hc4, hc5]; rfl) | (unfold endS setT; (repeat' split) <;> first | rfl | (exfalso; omega) | (simp [hc1, hc4, hc5] at *; done) | (simp_all; done)))
  exact jd0 Z (ua36, List.set qs36 (Int.toNat b) { (ix qs36 (Int.toNat b)) with T := ⟨3, [m26.nx], l, 0⟩ }) Z dn (fun _ _ => (kcb (by rw [← hst]) k0 (kcg (by rw [← hst]) k0 (kck (by rw [← hst]) k0 kn))))
end Go.Proofs.YtehhjlkmbdhckaaGreat
