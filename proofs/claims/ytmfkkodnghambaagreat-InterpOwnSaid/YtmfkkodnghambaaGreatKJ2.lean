/- Lemmas that the claim is made of. Conditions: each lemma names its own. -/
import Derived.Test.YtmfkkodnghambaaGreatKJ1
set_option linter.unusedSectionVars false
set_option linter.unusedSimpArgs false
set_option linter.unusedVariables false
namespace Go.JE
universe u
theorem Z {α : Sort u} {a : α} : a = a := rfl
structure Dt where
  sat : PH → Prop
  up : ∀ {F G : PH}, F.le G → sat F → sat G
structure Res where
  sat : PH → Heap → Prop
  own : Nat → Prop
  lt : ∀ {F : PH} {H : Heap} {k : Nat}, sat F H → own k → k < H.size
  no : ∀ {F : PH} {H : Heap} {k : Nat}, sat F H → own k → F k = none
  st : ∀ {F G : PH} {H H' : Heap}, F.le G → H.size ≤ H'.size → (∀ k, own k → G k = none) → (∀ k, own k → H'[k]? = H[k]?) → sat F H → sat G H'
def AllD (F : PH) : List Dt → Prop
  | [] => True
  | d :: D => d.sat F ∧ AllD F D
def Own : List Res → Nat → Prop
  | [], _ => False
  | R :: L, k => R.own k ∨ Own L k
def Ok (F : PH) (H : Heap) : List Res → Prop
  | [] => True
  | R :: L => R.sat F H ∧ (∀ k, R.own k → ¬ Own L k) ∧ Ok F H L
section
variable {F G : PH} {H H' : Heap} {D E : List Dt} {d : Dt} {L M Ls N : List Res} {R A : Res} {k : Nat}
theorem AllD.up : ∀ {D : List Dt}, F.le G → AllD F D → AllD G D
  | [], _, _ => trivial
  | _ :: _, h, ⟨h1, h2⟩ => ⟨Dt.up _ h h1, AllD.up h h2⟩
theorem AllD.app : ∀ {D : List Dt}, AllD F D → AllD F E → AllD F (D ++ E)
  | [], _, h => h
  | _ :: _, ⟨h1, h2⟩, h => ⟨h1, AllD.app h2 h⟩
theorem Ok.lt : ∀ {L : List Res}, Ok F H L → Own L k → k < H.size
  | _ :: _, h, .inl ho => Res.lt _ h.1 ho
  | _ :: _, h, .inr ho => Ok.lt h.2.2 ho
theorem Ok.no : ∀ {L : List Res}, Ok F H L → Own L k → F k = none
  | _ :: _, h, .inl ho => Res.no _ h.1 ho
  | _ :: _, h, .inr ho => Ok.no h.2.2 ho
theorem Ok.st : ∀ {L : List Res}, F.le G → H.size ≤ H'.size → (∀ k, Own L k → G k = none) → (∀ k, Own L k → H'[k]? = H[k]?) → Ok F H L → Ok G H' L
  | [], _, _, _, _, _ => trivial
  | _ :: _, h, h0, h1, h2, ⟨a, b, c⟩ => ⟨Res.st _ h h0 (fun k hk => h1 k (.inl hk)) (fun k hk => h2 k (.inl hk)) a, b, Ok.st h h0 (fun k hk => h1 k (.inr hk)) (fun k hk => h2 k (.inr hk)) c⟩
theorem Own.app : ∀ {L : List Res}, Own (L ++ M) k ↔ Own L k ∨ Own M k
  | [] => ⟨.inr, fun h => h.elim False.elim id⟩
  | R :: L => ⟨fun h => h.elim (fun h => .inl (.inl h)) (fun h => (Own.app.1 h).elim (fun h => .inl (.inr h)) .inr), fun h => h.elim (fun h => h.elim .inl (fun h => .inr (Own.app.2 (.inl h)))) (fun h => .inr (Own.app.2 (.inr h)))⟩
theorem Ok.app : ∀ {L : List Res}, Ok F H L → Ok F H M → (∀ k, Own L k → ¬ Own M k) → Ok F H (L ++ M)
  | [], _, h, _ => h
  | R :: L, ⟨a, b, c⟩, h, h' => ⟨a, fun k hk ho => (Own.app.1 ho).elim (b k hk) (h' k (.inl hk)), Ok.app c h fun k hk => h' k (.inr hk)⟩
structure Tk (L : List Res) (R : Res) (M : List Res) : Prop where
  ok : ∀ {F : PH} {H : Heap}, Ok F H L → Ok F H (R :: M)
  own : ∀ {k : Nat}, Own (R :: M) k → Own L k
theorem k0 : Tk (R :: M) R M := ⟨id, id⟩
theorem Tk.s (h : Tk L R M) : Tk (A :: L) R (A :: M) where
  ok := fun ⟨a, b, c⟩ => by
    obtain ⟨x, y, z⟩ := h.ok c
    exact ⟨x, fun k hk ho => ho.elim (fun h1 => b k h1 (h.own (.inl hk))) (y k hk), a, fun k hk ho => b k hk (h.own (.inr ho)), z⟩
  own := fun ho => by
    rcases ho with ho | ho | ho
    · exact .inr (h.own (.inl ho))
    · exact .inl ho
    · exact .inr (h.own (.inr ho))
theorem k1 {A0 : Res} : Tk (A0 :: R :: M) R (A0 :: M) := k0.s
theorem k2 {A0 A1 : Res} : Tk (A0 :: A1 :: R :: M) R (A0 :: A1 :: M) := k1.s
theorem k3 {A0 A1 A2 : Res} : Tk (A0 :: A1 :: A2 :: R :: M) R (A0 :: A1 :: A2 :: M) := k2.s
theorem k4 {A0 A1 A2 A3 : Res} : Tk (A0 :: A1 :: A2 :: A3 :: R :: M) R (A0 :: A1 :: A2 :: A3 :: M) := k3.s
theorem k5 {A0 A1 A2 A3 A4 : Res} : Tk (A0 :: A1 :: A2 :: A3 :: A4 :: R :: M) R (A0 :: A1 :: A2 :: A3 :: A4 :: M) := k4.s
theorem k6 {A0 A1 A2 A3 A4 A5 : Res} : Tk (A0 :: A1 :: A2 :: A3 :: A4 :: A5 :: R :: M) R (A0 :: A1 :: A2 :: A3 :: A4 :: A5 :: M) := k5.s
theorem k7 {A0 A1 A2 A3 A4 A5 A6 : Res} : Tk (A0 :: A1 :: A2 :: A3 :: A4 :: A5 :: A6 :: R :: M) R (A0 :: A1 :: A2 :: A3 :: A4 :: A5 :: A6 :: M) := k6.s
theorem k8 {A0 A1 A2 A3 A4 A5 A6 A7 : Res} : Tk (A0 :: A1 :: A2 :: A3 :: A4 :: A5 :: A6 :: A7 :: R :: M) R (A0 :: A1 :: A2 :: A3 :: A4 :: A5 :: A6 :: A7 :: M) := k7.s
theorem k9 {A0 A1 A2 A3 A4 A5 A6 A7 A8 : Res} : Tk (A0 :: A1 :: A2 :: A3 :: A4 :: A5 :: A6 :: A7 :: A8 :: R :: M) R (A0 :: A1 :: A2 :: A3 :: A4 :: A5 :: A6 :: A7 :: A8 :: M) := k8.s
theorem k10 {A0 A1 A2 A3 A4 A5 A6 A7 A8 A9 : Res} : Tk (A0 :: A1 :: A2 :: A3 :: A4 :: A5 :: A6 :: A7 :: A8 :: A9 :: R :: M) R (A0 :: A1 :: A2 :: A3 :: A4 :: A5 :: A6 :: A7 :: A8 :: A9 :: M) := k9.s
theorem k11 {A0 A1 A2 A3 A4 A5 A6 A7 A8 A9 A10 : Res} : Tk (A0 :: A1 :: A2 :: A3 :: A4 :: A5 :: A6 :: A7 :: A8 :: A9 :: A10 :: R :: M) R (A0 :: A1 :: A2 :: A3 :: A4 :: A5 :: A6 :: A7 :: A8 :: A9 :: A10 :: M) := k10.s
theorem k12 {A0 A1 A2 A3 A4 A5 A6 A7 A8 A9 A10 A11 : Res} : Tk (A0 :: A1 :: A2 :: A3 :: A4 :: A5 :: A6 :: A7 :: A8 :: A9 :: A10 :: A11 :: R :: M) R (A0 :: A1 :: A2 :: A3 :: A4 :: A5 :: A6 :: A7 :: A8 :: A9 :: A10 :: A11 :: M) := k11.s
theorem k13 {A0 A1 A2 A3 A4 A5 A6 A7 A8 A9 A10 A11 A12 : Res} : Tk (A0 :: A1 :: A2 :: A3 :: A4 :: A5 :: A6 :: A7 :: A8 :: A9 :: A10 :: A11 :: A12 :: R :: M) R (A0 :: A1 :: A2 :: A3 :: A4 :: A5 :: A6 :: A7 :: A8 :: A9 :: A10 :: A11 :: A12 :: M) := k12.s
theorem k14 {A0 A1 A2 A3 A4 A5 A6 A7 A8 A9 A10 A11 A12 A13 : Res} : Tk (A0 :: A1 :: A2 :: A3 :: A4 :: A5 :: A6 :: A7 :: A8 :: A9 :: A10 :: A11 :: A12 :: A13 :: R :: M) R (A0 :: A1 :: A2 :: A3 :: A4 :: A5 :: A6 :: A7 :: A8 :: A9 :: A10 :: A11 :: A12 :: A13 :: M) := k13.s
theorem k15 {A0 A1 A2 A3 A4 A5 A6 A7 A8 A9 A10 A11 A12 A13 A14 : Res} : Tk (A0 :: A1 :: A2 :: A3 :: A4 :: A5 :: A6 :: A7 :: A8 :: A9 :: A10 :: A11 :: A12 :: A13 :: A14 :: R :: M) R (A0 :: A1 :: A2 :: A3 :: A4 :: A5 :: A6 :: A7 :: A8 :: A9 :: A10 :: A11 :: A12 :: A13 :: A14 :: M) := k14.s
structure Tks (L Ls M : List Res) : Prop where
  ok : ∀ {F : PH} {H : Heap}, Ok F H L → Ok F H Ls ∧ Ok F H M ∧ ∀ k, Own Ls k → ¬ Own M k
  own : ∀ {k : Nat}, Own Ls k ∨ Own M k → Own L k
theorem kn : Tks L [] L := ⟨fun h => ⟨trivial, h, fun _ h => h.elim⟩, fun h => h.elim False.elim id⟩
theorem kc (h : Tk L R M) (h' : Tks M Ls N) : Tks L (R :: Ls) N where
  ok := fun o => by
    obtain ⟨a, b, c⟩ := h.ok o
    obtain ⟨x, y, z⟩ := h'.ok c
    exact ⟨⟨a, fun k hk ho => b k hk (h'.own (.inl ho)), x⟩, y, fun k hk ho => hk.elim (fun h1 => b k h1 (h'.own (.inr ho))) (fun h1 => z k h1 ho)⟩
  own := fun ho => h.own (by
    rcases ho with (ho | ho) | ho
    · exact .inl ho
    · exact .inr (h'.own (.inl ho))
    · exact .inr (h'.own (.inr ho)))
theorem kd {a b : Res} (h : Tks M Ls N) : Tks (a :: b :: M) (a :: b :: Ls) N := kc k0 (kc k0 h)
theorem Tk.tks (h : Tk L R M) : Tks L [R] M := kc h kn
def Nd (D : List Dt) (L : List Res) (d : Dt) : Prop := ∀ F H, InH F H → AllD F D → Ok F H L → d.sat F
theorem d0 : Nd (d :: D) L d := fun _ _ _ h _ => h.1
theorem Nd.s {c : Dt} (h : Nd D L d) : Nd (c :: D) L d := fun _ _ h0 h1 h2 => h _ _ h0 h1.2 h2
theorem d1 {c0 : Dt} : Nd (c0 :: d :: D) L d := d0.s
theorem d2 {c0 c1 : Dt} : Nd (c0 :: c1 :: d :: D) L d := d1.s
theorem d3 {c0 c1 c2 : Dt} : Nd (c0 :: c1 :: c2 :: d :: D) L d := d2.s
theorem d4 {c0 c1 c2 c3 : Dt} : Nd (c0 :: c1 :: c2 :: c3 :: d :: D) L d := d3.s
theorem d5 {c0 c1 c2 c3 c4 : Dt} : Nd (c0 :: c1 :: c2 :: c3 :: c4 :: d :: D) L d := d4.s
theorem d6 {c0 c1 c2 c3 c4 c5 : Dt} : Nd (c0 :: c1 :: c2 :: c3 :: c4 :: c5 :: d :: D) L d := d5.s
theorem d7 {c0 c1 c2 c3 c4 c5 c6 : Dt} : Nd (c0 :: c1 :: c2 :: c3 :: c4 :: c5 :: c6 :: d :: D) L d := d6.s
theorem d8 {c0 c1 c2 c3 c4 c5 c6 c7 : Dt} : Nd (c0 :: c1 :: c2 :: c3 :: c4 :: c5 :: c6 :: c7 :: d :: D) L d := d7.s
theorem d9 {c0 c1 c2 c3 c4 c5 c6 c7 c8 : Dt} : Nd (c0 :: c1 :: c2 :: c3 :: c4 :: c5 :: c6 :: c7 :: c8 :: d :: D) L d := d8.s
theorem d10 {c0 c1 c2 c3 c4 c5 c6 c7 c8 c9 : Dt} : Nd (c0 :: c1 :: c2 :: c3 :: c4 :: c5 :: c6 :: c7 :: c8 :: c9 :: d :: D) L d := d9.s
theorem d11 {c0 c1 c2 c3 c4 c5 c6 c7 c8 c9 c10 : Dt} : Nd (c0 :: c1 :: c2 :: c3 :: c4 :: c5 :: c6 :: c7 :: c8 :: c9 :: c10 :: d :: D) L d := d10.s
theorem d12 {c0 c1 c2 c3 c4 c5 c6 c7 c8 c9 c10 c11 : Dt} : Nd (c0 :: c1 :: c2 :: c3 :: c4 :: c5 :: c6 :: c7 :: c8 :: c9 :: c10 :: c11 :: d :: D) L d := d11.s
theorem d13 {c0 c1 c2 c3 c4 c5 c6 c7 c8 c9 c10 c11 c12 : Dt} : Nd (c0 :: c1 :: c2 :: c3 :: c4 :: c5 :: c6 :: c7 :: c8 :: c9 :: c10 :: c11 :: c12 :: d :: D) L d := d12.s
theorem d14 {c0 c1 c2 c3 c4 c5 c6 c7 c8 c9 c10 c11 c12 c13 : Dt} : Nd (c0 :: c1 :: c2 :: c3 :: c4 :: c5 :: c6 :: c7 :: c8 :: c9 :: c10 :: c11 :: c12 :: c13 :: d :: D) L d := d13.s
def Sd (D : List Dt) (L : List Res) (E : List Dt) : Prop := ∀ F H, InH F H → AllD F D → Ok F H L → AllD F E
theorem dn : Sd D L [] := fun _ _ _ _ _ => trivial
theorem dc (h : Nd D L d) (h' : Sd D L E) : Sd D L (d :: E) := fun _ _ a b c => ⟨h _ _ a b c, h' _ _ a b c⟩
end
structure Cx where
  W : Nat → Prop
  H : Heap
  F : PH
abbrev Cx.n (X : Cx) : Nat := X.H.size
structure Hp (X : Cx) (D : List Dt) (L : List Res) (F : PH) (H : Heap) : Prop where
  hx : PH.ext X.H X.F F
  hin : InH F H
  hw : Kw X.W X.H H
  hd : AllD F D
  ok : Ok F H L
  ge : ∀ k, Own L k → X.H.size ≤ k ∨ X.W k
section
variable {X : Cx} {F G : PH} {H H' : Heap} {D E : List Dt} {L M Ls Ls' : List Res} {R R' : Res}
theorem Hp.frame (h : Hp X D L F H) (hk : Tks L Ls M) (hx : PH.ext H F G) (hin : InH G H') (hw : Kw (Own Ls) H H') (hd : AllD G E) (ho : Ok G H' Ls') (hg : ∀ k, Own Ls' k → H.size ≤ k ∨ Own Ls k) : Hp X (E ++ D) (Ls' ++ M) G H' := by
  obtain ⟨o1, o2, o3⟩ := hk.ok h.ok
  refine ⟨h.hx.trans hx h.hw.1, hin, h.hw.kw hw fun k hk1 hk2 => (h.ge k (hk.own (.inl hk2))).resolve_left (by omega), hd.app (h.hd.up hx.1), Ok.app ho (o2.st hx.1 hw.1 (fun k hk1 => (hx.2 k (o2.lt hk1)).trans (o2.no hk1)) (fun k hk1 => hw.2 k (o2.lt hk1) (fun h9 => o3 k h9 hk1))) ?_, ?_⟩
  · intro k hk1 hk2
    rcases hg k hk1 with h9 | h9
    · have := o2.lt hk2; omega
    · exact o3 k h9 hk2
  · intro k hk1
    rcases Own.app.1 hk1 with h9 | h9
    · rcases hg k h9 with h8 | h8
      · exact .inl (Nat.le_trans h.hw.1 h8)
      · exact h.ge k (hk.own (.inl h8))
    · exact h.ge k (hk.own (.inr h9))
theorem Hp.new (h : Hp X D L F H) (hk : Kp H.size H H') (hs : R.sat F H') (ho : ∀ k, R.own k → H.size ≤ k) : Hp X D (R :: L) F H' :=
  h.frame kn (PH.ext.refl F) (h.hin.kp hk) ⟨hk.1, fun k h1 _ => hk.2 k h1⟩ (E := []) trivial (Ls' := [R]) ⟨hs, fun _ _ => id, trivial⟩ (fun k h1 => .inl (ho k (h1.resolve_right id)))
theorem Hp.set (h : Hp X D L F H) (hk : Tk L R M) (hw : Kw R.own H H') (hs : R'.sat F H') (ho : ∀ k, R'.own k → H.size ≤ k ∨ R.own k) : Hp X D (R' :: M) F H' :=
  h.frame hk.tks (PH.ext.refl F) (h.hin.kw hw fun k h1 => h.ok.no (hk.own (.inl h1))) ⟨hw.1, fun k h1 h2 => hw.2 k h1 (fun h3 => h2 (.inl h3))⟩ (E := []) trivial (Ls' := [R']) ⟨hs, fun _ _ => id, trivial⟩ (fun k h1 => (ho k (h1.resolve_right id)).imp id .inl)
theorem Hp.kp (h : Hp X D L F H) (hk : Kp H.size H H') : Hp X D L F H' :=
  h.frame kn (PH.ext.refl F) (h.hin.kp hk) ⟨hk.1, fun k h1 _ => hk.2 k h1⟩ (E := []) trivial (Ls' := []) trivial (fun k h1 => h1.elim)
theorem Hp.at (h : Hp X D L F H) (hk : Tk L R M) : R.sat F H := (hk.ok h.ok).1
theorem Hp.datum {d : Dt} (h : Hp X D L F H) (hs : d.sat F) : Hp X (d :: D) L F H := ⟨h.hx, h.hin, h.hw, ⟨hs, h.hd⟩, h.ok, h.ge⟩
theorem Hp.sub (h : Hp X D L F H) (hd : Sd D L E) (hk : Tks L Ls M) : Hp X E Ls F H := ⟨h.hx, h.hin, h.hw, hd _ _ h.hin h.hd h.ok, (hk.ok h.ok).1, fun k h1 => h.ge k (hk.own (.inl h1))⟩
theorem Hp.drop (h : Hp X D L F H) (hk : Tk L R M) : Hp X D M F H := ⟨h.hx, h.hin, h.hw, h.hd, (hk.ok h.ok).2.2, fun k h1 => h.ge k (hk.own (.inr h1))⟩
end
variable {P : Program} {n : Fs} {w0 : World} {Q : Exit → Act → World → Prop} {X : Cx} {D E : List Dt} {L M Ls : List Res} {e : Env}
def LH (P : Program) (n : Fs) (w0 : World) (ops : Array Oper) (Q : Exit → Act → World → Prop) (X : Cx) (D : List Dt) (L : List Res) (e : Env) (l : List Oper) : Prop := ∀ F H, Hp X D L F H → LF P n w0 ops Q e l H
def SH (P : Program) (n : Fs) (w0 : World) (ops : Array Oper) (K : Act → World → Prop) (X : Cx) (D : List Dt) (L : List Res) (e : Env) (l : List Oper) : Prop := ∀ F H, Hp X D L F H → LS P n w0 ops K e l H
def CH (P : Program) (n : Fs) (w0 : World) (Q : Exit → Act → World → Prop) (X : Cx) (D : List Dt) (L : List Res) (e : Env) (c : Code) : Prop := ∀ F H, Hp X D L F H → CF P n w0 Q e c H
def QH (n : Fs) (w0 : World) (Q : Exit → Act → World → Prop) (X : Cx) (D : List Dt) (L : List Res) (e : Env) (x : Exit) : Prop := ∀ F H, Hp X D L F H → PF n w0 Q e x H
def OH (P : Program) (D : List Dt) (L : List Res) (e : Env) (op : Op) (v : Value) : Prop := ∀ F H, InH F H → AllD F D → Ok F H L → OpOk P e op H v
def OE (P : Program) (D : List Dt) (L : List Res) (e : Env) (op : Op) (p : Value → PH → Prop) : Prop := ∀ F H, InH F H → AllD F D → Ok F H L → ∃ v, OpOk P e op H v ∧ p v F
section
variable {ops : Array Oper} {op : Op} {d : Nat} {ty : TypeId} {pos : String} {af : Array Edge} {rest : List Oper} {v : Value} {R : Res} {K : Act → World → Prop}
theorem jn (h : QH n w0 Q X D L e .normal) : LH P n w0 ops Q X D L e [] := fun F H hp => LF.nil (h F H hp)
theorem js (h : OH P D L e op v) (k : LH P n w0 ops Q X D L ((d, v) :: e) rest) (hd : Nat.blt d n.sz = true := by rfl) : LH P n w0 ops Q X D L e (⟨some d, op, ty, pos, af, none⟩ :: rest) :=
  fun F H hp => LF.step (h F H hp.hin hp.hd hp.ok) (k F H hp) hd
theorem jt (h : OH P D L e op v) (k : SH P n w0 ops K X D L ((d, v) :: e) rest) (hd : Nat.blt d n.sz = true := by rfl) : SH P n w0 ops K X D L e (⟨some d, op, ty, pos, af, none⟩ :: rest) :=
  fun F H hp => LS.step (h F H hp.hin hp.hd hp.ok) (k F H hp) hd
theorem jg {j t : Nat} {want B : Bool} {u : Value} (hj : (ops[j]?).bind (·.dst) = some t) (hu : lk e t = some u) (hB : Gd u want B) (h : B = true → OH P D L e op v)
    (k : LH P n w0 ops Q X D L ((d, gv B v) :: e) rest) (hd : Nat.blt d n.sz = true := by rfl) (ht : Nat.blt t n.sz = true := by rfl) : LH P n w0 ops Q X D L e (⟨some d, op, ty, pos, af, some (j, want)⟩ :: rest) :=
  fun F H hp => LF.gstep hj hu hB (fun hb => h hb F H hp.hin hp.hd hp.ok) (k F H hp) hd ht
theorem jtg {j t : Nat} {want B : Bool} {u : Value} (hj : (ops[j]?).bind (·.dst) = some t) (hu : lk e t = some u) (hB : Gd u want B) (h : B = true → OH P D L e op v)
    (k : SH P n w0 ops K X D L ((d, gv B v) :: e) rest) (hd : Nat.blt d n.sz = true := by rfl) (ht : Nat.blt t n.sz = true := by rfl) : SH P n w0 ops K X D L e (⟨some d, op, ty, pos, af, some (j, want)⟩ :: rest) :=
  fun F H hp => LS.gstep hj hu hB (fun hb => h hb F H hp.hin hp.hd hp.ok) (k F H hp) hd ht
def Dt.if (B : Bool) (d : Dt) : Dt := ⟨fun F => B = true → d.sat F, fun hl h hb => d.up hl (h hb)⟩
theorem Nd.on {B : Bool} {c : Dt} (h : Nd D L (c.if B)) (hb : B = true) : Nd D L c := fun F H a b o => h F H a b o hb
theorem jge {q : Value → Dt} {j t : Nat} {want B : Bool} {u : Value} (hj : (ops[j]?).bind (·.dst) = some t) (hu : lk e t = some u) (hB : Gd u want B) (h : B = true → OE P D L e op (fun v F => (q v).sat F))
    (k : ∀ v, LH P n w0 ops Q X ((q v).if B :: D) L ((d, gv B v) :: e) rest) (hd : Nat.blt d n.sz = true := by rfl) (ht : Nat.blt t n.sz = true := by rfl) : LH P n w0 ops Q X D L e (⟨some d, op, ty, pos, af, some (j, want)⟩ :: rest) := fun F H hp => by
  cases B with
  | true => obtain ⟨v, h1, h2⟩ := h rfl F H hp.hin hp.hd hp.ok; exact LF.gstep hj hu hB (fun _ => h1) (k v F H (hp.datum fun _ => h2)) hd ht
  | false => exact LF.gstep (v := undef) hj hu hB (fun h => by cases h) (k undef F H (hp.datum fun h => by cases h)) hd ht
theorem jtge {q : Value → Dt} {j t : Nat} {want B : Bool} {u : Value} (hj : (ops[j]?).bind (·.dst) = some t) (hu : lk e t = some u) (hB : Gd u want B) (h : B = true → OE P D L e op (fun v F => (q v).sat F))
    (k : ∀ v, SH P n w0 ops K X ((q v).if B :: D) L ((d, gv B v) :: e) rest) (hd : Nat.blt d n.sz = true := by rfl) (ht : Nat.blt t n.sz = true := by rfl) : SH P n w0 ops K X D L e (⟨some d, op, ty, pos, af, some (j, want)⟩ :: rest) := fun F H hp => by
  cases B with
  | true => obtain ⟨v, h1, h2⟩ := h rfl F H hp.hin hp.hd hp.ok; exact LS.gstep hj hu hB (fun _ => h1) (k v F H (hp.datum fun _ => h2)) hd ht
  | false => exact LS.gstep (v := undef) hj hu hB (fun h => by cases h) (k undef F H (hp.datum fun h => by cases h)) hd ht
theorem jk {j t : Nat} {want : Bool} {u : Value} (hj : (ops[j]?).bind (·.dst) = some t) (hu : lk e t = some u) (hB : Gd u want true) (h : OH P D L e op v)
    (k : LH P n w0 ops Q X D L ((d, v) :: e) rest) (hd : Nat.blt d n.sz = true := by rfl) (ht : Nat.blt t n.sz = true := by rfl) : LH P n w0 ops Q X D L e (⟨some d, op, ty, pos, af, some (j, want)⟩ :: rest) :=
  fun F H hp => LF.gstepK hj hu hB (h F H hp.hin hp.hd hp.ok) (k F H hp) hd ht
theorem jm {x : Operand} (hx : ev e x = some v) (k : LH P n w0 ops Q X D L ((d, v) :: e) rest) (hd : Nat.blt d n.sz = true := by rfl) : LH P n w0 ops Q X D L e (⟨some d, .move x, ty, pos, af, none⟩ :: rest) := js (fun _ _ _ _ _ => OpOk.move hx) k hd
theorem ja {x : Operand} (hx : ev e x = some v) (k : LH P n w0 ops Q X D L ((d, v) :: e) rest) (hd : Nat.blt d n.sz = true := by rfl) : LH P n w0 ops Q X D L e (⟨some d, .assign x, ty, pos, af, none⟩ :: rest) := js (fun _ _ _ _ _ => OpOk.assign hx) k hd
end
section
variable {x y : Code} {id : Nat} {l : List Oper}
theorem jr (h : LH P n w0 l.toArray Q X D L e l) : CH P n w0 Q X D L e (.region id l.toArray false) := fun F H hp => CF.region (h F H hp)
theorem jstl (hm : P.follows .mixedOrders = true) (hB : Region.lexB .any l.toArray = true) (h : SH P n w0 l.toArray (fun a w => Q .normal a w) X D L e l) : CH P n w0 Q X D L e (.region id l.toArray true) := fun F H hp => CF.still hm hB (h F H hp)
theorem jtl (m : Nat) (hm : P.follows .mixedOrders = true) (hB : Region.lexTailB .any l.toArray m = true) (h : SH P n w0 l.toArray (fun a w => wpList P l.toArray Q (l.drop m) a w) X D L e (l.take m)) : CH P n w0 Q X D L e (.region id l.toArray true) := fun F H hp => CF.tail m hm hB (h F H hp)
theorem jdn {ops : Array Oper} (h : QH n w0 Q X D L e .normal) : SH P n w0 ops (fun a w => Q .normal a w) X D L e [] := fun F H hp => LS.done (h F H hp)
theorem jtt {ops : Array Oper} {r : List Oper} (h : LH P n w0 ops Q X D L e r) : SH P n w0 ops (fun a w => wpList P ops Q r a w) X D L e [] := fun F H hp => LS.tail (h F H hp)
theorem jq (h : CH P n w0 (Exit.then (y.wp P Q) Q) X D L e x) : CH P n w0 Q X D L e (.seq x y) := fun F H hp => CF.seq (h F H hp)
theorem jx (h : CH P n w0 Q X D L e y) : QH n w0 (Exit.then (y.wp P Q) Q) X D L e .normal := fun F H hp => PF.next (h F H hp)
theorem jtx {k : Act → World → Prop} {i : Nat} (h : QH n w0 Q X D L e (.exit i)) : QH n w0 (Exit.then k Q) X D L e (.exit i) := fun F H hp => PF.thenExit (h F H hp)
theorem jtr {k : Act → World → Prop} (h : QH n w0 Q X D L e .ret) : QH n w0 (Exit.then k Q) X D L e .ret := fun F H hp => PF.thenRet (h F H hp)
theorem jb (h : CH P n w0 (Exit.inBlock id Q) X D L e x) : CH P n w0 Q X D L e (.block id x) := fun F H hp => CF.block (h F H hp)
theorem jbn (h : QH n w0 Q X D L e .normal) : QH n w0 (Exit.inBlock id Q) X D L e .normal := fun F H hp => PF.blockNormal (h F H hp)
theorem jbr (h : QH n w0 Q X D L e .ret) : QH n w0 (Exit.inBlock id Q) X D L e .ret := fun F H hp => PF.blockRet (h F H hp)
theorem jbh (h : QH n w0 Q X D L e .normal) : QH n w0 (Exit.inBlock id Q) X D L e (.exit id) := fun F H hp => PF.blockHere (h F H hp)
theorem jbo {i : Nat} (h : QH n w0 Q X D L e (.exit i)) (hne : Nat.beq i id = false := by rfl) : QH n w0 (Exit.inBlock id Q) X D L e (.exit i) := fun F H hp => PF.blockOther (h F H hp) hne
theorem jsk (h : QH n w0 Q X D L e .normal) : CH P n w0 Q X D L e .skip := fun F H hp => CF.skip (h F H hp)
theorem jex (h : QH n w0 Q X D L e (.exit id)) : CH P n w0 Q X D L e (.exit id) := fun F H hp => CF.exit (h F H hp)
theorem jrt (h : QH n w0 Q X D L e .ret) : CH P n w0 Q X D L e .ret := fun F H hp => CF.ret (h F H hp)
theorem jif {c : Operand} {b : Bool} {p q : Prop} (hc : ev e c = some (.bool b)) [hb : BoolP b p q] (ht : p → CH P n w0 Q X D L e x) (hf : q → CH P n w0 Q X D L e y) : CH P n w0 Q X D L e (.cond c x y) :=
  fun F H hp => CF.if hc (fun h => ht h F H hp) (fun h => hf h F H hp)
theorem jsc (h : CH P n w0 (Exit.noGoto Q) X D L e x) : CH P n w0 Q X D L e (.scope x) := fun F H hp => CF.scope (h F H hp)
theorem jso {z : Exit} (h : QH n w0 Q X D L e z) (hz : ∀ l, z ≠ .goto l := by simp) : QH n w0 (Exit.noGoto Q) X D L e z := fun F H hp => PF.scope (h F H hp) hz
theorem jlab {l : Nat} (h : QH n w0 Q X D L e .normal) : CH P n w0 Q X D L e (.label l) := fun F H hp => CF.label (h F H hp)
@[reducible] def u2 {α0 α1 ρ : Type} (f : α0 → α1 → ρ) (x : α0 × α1) : ρ := f x.1 x.2
@[reducible] def u3 {α0 α1 α2 ρ : Type} (f : α0 → α1 → α2 → ρ) (x : α0 × α1 × α2) : ρ := f x.1 x.2.1 x.2.2
@[reducible] def u4 {α0 α1 α2 α3 ρ : Type} (f : α0 → α1 → α2 → α3 → ρ) (x : α0 × α1 × α2 × α3) : ρ := f x.1 x.2.1 x.2.2.1 x.2.2.2
@[reducible] def u5 {α0 α1 α2 α3 α4 ρ : Type} (f : α0 → α1 → α2 → α3 → α4 → ρ) (x : α0 × α1 × α2 × α3 × α4) : ρ := f x.1 x.2.1 x.2.2.1 x.2.2.2.1 x.2.2.2.2
@[reducible] def u6 {α0 α1 α2 α3 α4 α5 ρ : Type} (f : α0 → α1 → α2 → α3 → α4 → α5 → ρ) (x : α0 × α1 × α2 × α3 × α4 × α5) : ρ := f x.1 x.2.1 x.2.2.1 x.2.2.2.1 x.2.2.2.2.1 x.2.2.2.2.2
@[reducible] def u7 {α0 α1 α2 α3 α4 α5 α6 ρ : Type} (f : α0 → α1 → α2 → α3 → α4 → α5 → α6 → ρ) (x : α0 × α1 × α2 × α3 × α4 × α5 × α6) : ρ := f x.1 x.2.1 x.2.2.1 x.2.2.2.1 x.2.2.2.2.1 x.2.2.2.2.2.1 x.2.2.2.2.2.2
@[reducible] def u8 {α0 α1 α2 α3 α4 α5 α6 α7 ρ : Type} (f : α0 → α1 → α2 → α3 → α4 → α5 → α6 → α7 → ρ) (x : α0 × α1 × α2 × α3 × α4 × α5 × α6 × α7) : ρ := f x.1 x.2.1 x.2.2.1 x.2.2.2.1 x.2.2.2.2.1 x.2.2.2.2.2.1 x.2.2.2.2.2.2.1 x.2.2.2.2.2.2.2
@[reducible] def u9 {α0 α1 α2 α3 α4 α5 α6 α7 α8 ρ : Type} (f : α0 → α1 → α2 → α3 → α4 → α5 → α6 → α7 → α8 → ρ) (x : α0 × α1 × α2 × α3 × α4 × α5 × α6 × α7 × α8) : ρ := f x.1 x.2.1 x.2.2.1 x.2.2.2.1 x.2.2.2.2.1 x.2.2.2.2.2.1 x.2.2.2.2.2.2.1 x.2.2.2.2.2.2.2.1 x.2.2.2.2.2.2.2.2
@[reducible] def u10 {α0 α1 α2 α3 α4 α5 α6 α7 α8 α9 ρ : Type} (f : α0 → α1 → α2 → α3 → α4 → α5 → α6 → α7 → α8 → α9 → ρ) (x : α0 × α1 × α2 × α3 × α4 × α5 × α6 × α7 × α8 × α9) : ρ := f x.1 x.2.1 x.2.2.1 x.2.2.2.1 x.2.2.2.2.1 x.2.2.2.2.2.1 x.2.2.2.2.2.2.1 x.2.2.2.2.2.2.2.1 x.2.2.2.2.2.2.2.2.1 x.2.2.2.2.2.2.2.2.2
@[reducible] def u11 {α0 α1 α2 α3 α4 α5 α6 α7 α8 α9 α10 ρ : Type} (f : α0 → α1 → α2 → α3 → α4 → α5 → α6 → α7 → α8 → α9 → α10 → ρ) (x : α0 × α1 × α2 × α3 × α4 × α5 × α6 × α7 × α8 × α9 × α10) : ρ := f x.1 x.2.1 x.2.2.1 x.2.2.2.1 x.2.2.2.2.1 x.2.2.2.2.2.1 x.2.2.2.2.2.2.1 x.2.2.2.2.2.2.2.1 x.2.2.2.2.2.2.2.2.1 x.2.2.2.2.2.2.2.2.2.1 x.2.2.2.2.2.2.2.2.2.2
@[reducible] def u12 {α0 α1 α2 α3 α4 α5 α6 α7 α8 α9 α10 α11 ρ : Type} (f : α0 → α1 → α2 → α3 → α4 → α5 → α6 → α7 → α8 → α9 → α10 → α11 → ρ) (x : α0 × α1 × α2 × α3 × α4 × α5 × α6 × α7 × α8 × α9 × α10 × α11) : ρ := f x.1 x.2.1 x.2.2.1 x.2.2.2.1 x.2.2.2.2.1 x.2.2.2.2.2.1 x.2.2.2.2.2.2.1 x.2.2.2.2.2.2.2.1 x.2.2.2.2.2.2.2.2.1 x.2.2.2.2.2.2.2.2.2.1 x.2.2.2.2.2.2.2.2.2.2.1 x.2.2.2.2.2.2.2.2.2.2.2
@[reducible] def u13 {α0 α1 α2 α3 α4 α5 α6 α7 α8 α9 α10 α11 α12 ρ : Type} (f : α0 → α1 → α2 → α3 → α4 → α5 → α6 → α7 → α8 → α9 → α10 → α11 → α12 → ρ) (x : α0 × α1 × α2 × α3 × α4 × α5 × α6 × α7 × α8 × α9 × α10 × α11 × α12) : ρ := f x.1 x.2.1 x.2.2.1 x.2.2.2.1 x.2.2.2.2.1 x.2.2.2.2.2.1 x.2.2.2.2.2.2.1 x.2.2.2.2.2.2.2.1 x.2.2.2.2.2.2.2.2.1 x.2.2.2.2.2.2.2.2.2.1 x.2.2.2.2.2.2.2.2.2.2.1 x.2.2.2.2.2.2.2.2.2.2.2.1 x.2.2.2.2.2.2.2.2.2.2.2.2
@[reducible] def u14 {α0 α1 α2 α3 α4 α5 α6 α7 α8 α9 α10 α11 α12 α13 ρ : Type} (f : α0 → α1 → α2 → α3 → α4 → α5 → α6 → α7 → α8 → α9 → α10 → α11 → α12 → α13 → ρ) (x : α0 × α1 × α2 × α3 × α4 × α5 × α6 × α7 × α8 × α9 × α10 × α11 × α12 × α13) : ρ := f x.1 x.2.1 x.2.2.1 x.2.2.2.1 x.2.2.2.2.1 x.2.2.2.2.2.1 x.2.2.2.2.2.2.1 x.2.2.2.2.2.2.2.1 x.2.2.2.2.2.2.2.2.1 x.2.2.2.2.2.2.2.2.2.1 x.2.2.2.2.2.2.2.2.2.2.1 x.2.2.2.2.2.2.2.2.2.2.2.1 x.2.2.2.2.2.2.2.2.2.2.2.2.1 x.2.2.2.2.2.2.2.2.2.2.2.2.2
@[reducible] def u15 {α0 α1 α2 α3 α4 α5 α6 α7 α8 α9 α10 α11 α12 α13 α14 ρ : Type} (f : α0 → α1 → α2 → α3 → α4 → α5 → α6 → α7 → α8 → α9 → α10 → α11 → α12 → α13 → α14 → ρ) (x : α0 × α1 × α2 × α3 × α4 × α5 × α6 × α7 × α8 × α9 × α10 × α11 × α12 × α13 × α14) : ρ := f x.1 x.2.1 x.2.2.1 x.2.2.2.1 x.2.2.2.2.1 x.2.2.2.2.2.1 x.2.2.2.2.2.2.1 x.2.2.2.2.2.2.2.1 x.2.2.2.2.2.2.2.2.1 x.2.2.2.2.2.2.2.2.2.1 x.2.2.2.2.2.2.2.2.2.2.1 x.2.2.2.2.2.2.2.2.2.2.2.1 x.2.2.2.2.2.2.2.2.2.2.2.2.1 x.2.2.2.2.2.2.2.2.2.2.2.2.2.1 x.2.2.2.2.2.2.2.2.2.2.2.2.2.2
@[reducible] def u16 {α0 α1 α2 α3 α4 α5 α6 α7 α8 α9 α10 α11 α12 α13 α14 α15 ρ : Type} (f : α0 → α1 → α2 → α3 → α4 → α5 → α6 → α7 → α8 → α9 → α10 → α11 → α12 → α13 → α14 → α15 → ρ) (x : α0 × α1 × α2 × α3 × α4 × α5 × α6 × α7 × α8 × α9 × α10 × α11 × α12 × α13 × α14 × α15) : ρ := f x.1 x.2.1 x.2.2.1 x.2.2.2.1 x.2.2.2.2.1 x.2.2.2.2.2.1 x.2.2.2.2.2.2.1 x.2.2.2.2.2.2.2.1 x.2.2.2.2.2.2.2.2.1 x.2.2.2.2.2.2.2.2.2.1 x.2.2.2.2.2.2.2.2.2.2.1 x.2.2.2.2.2.2.2.2.2.2.2.1 x.2.2.2.2.2.2.2.2.2.2.2.2.1 x.2.2.2.2.2.2.2.2.2.2.2.2.2.1 x.2.2.2.2.2.2.2.2.2.2.2.2.2.2.1 x.2.2.2.2.2.2.2.2.2.2.2.2.2.2.2
structure Lp where
  inv : Prop
  D : List Dt
  L : List Res
  env : Env
  mu : Nat
def Agn {ι : Type} (n : Fs) (w0 : World) (X : Cx) (S : ι → Lp) (i : ι) (a : Act) (w : World) : Prop :=
  ∃ j F, (S j).inv ∧ Hp X (S j).D (S j).L F w.heap ∧ Fr n (S j).env a ∧ Wd w0 w.heap w ∧ (S j).mu < (S i).mu
theorem jlp {ι : Type} (S : ι → Lp) (i0 : ι) (h0 : (S i0).inv) (hd : Sd D L (S i0).D) (hl : Tks L (S i0).L M) (hs : Sub e (S i0).env)
    (round : ∀ i, (S i).inv → CH P n w0 (Exit.then (Agn n w0 X S i) Q) X (S i).D (S i).L (S i).env x) : CH P n w0 Q X D L e (.loop x) := fun F H hp => by
  refine CF.loop (ι := ι) (fun i H => (S i).inv ∧ ∃ F, Hp X (S i).D (S i).L F H) (fun i => (S i).env) (fun i => (S i).mu) i0 ⟨h0, F, hp.sub hd hl⟩ hs ?_
  rintro i H' ⟨hi, F', hp'⟩ a w hf hw
  refine Code.wp_mono ?_ (round i hi F' H' hp' a w hf hw)
  intro z a' w' hq
  cases z with
  | normal => obtain ⟨j, F2, h1, h2, h3, h4, h5⟩ := hq; exact ⟨j, ⟨h1, F2, h2⟩, h3, h4, h5⟩
  | _ => exact hq
theorem jag {ι : Type} {S : ι → Lp} {i : ι} (j : ι) (hj : (S j).inv) (hd : Sd D L (S j).D) (hl : Tks L (S j).L M) (hs : Sub e (S j).env) (hm : (S j).mu < (S i).mu := by dsimp only [u2, u3, u4, u5, u6, u7, u8, u9, u10, u11, u12, u13, u14, u15, u16]; omega) :
    QH n w0 (Exit.then (Agn n w0 X S i) Q) X D L e .normal := fun F H hp a w hf hw =>
  ⟨j, F, hj, hw.heap ▸ hp.sub hd hl, hf.sub hs, ⟨rfl, hw.os, hw.tape, hw.output⟩, hm⟩
structure Jn where
  inv : Prop
  D : List Dt
  L : List Res
  env : Env
def QJn {ι : Type} (n : Fs) (w0 : World) (X : Cx) (S : ι → Jn) (Q : Exit → Act → World → Prop) (x : Exit) (a : Act) (w : World) : Prop := (x = .normal ∧ ∃ i F, (S i).inv ∧ Hp X (S i).D (S i).L F w.heap ∧ Fr n (S i).env a ∧ Wd w0 w.heap w) ∨ (x ≠ .normal ∧ Q x a w)
theorem jjo {ι : Type} (S : ι → Jn) (h : CH P n w0 (QJn n w0 X S Q) X D L e x) (k : ∀ i, (S i).inv → QH n w0 Q X (S i).D (S i).L (S i).env .normal) : CH P n w0 Q X D L e x := fun F H hp a w hf hw =>
  Code.wp_mono (fun _ _ _ h9 => h9.elim (fun ⟨h1, i, F', h2, h3, h4, h5⟩ => h1 ▸ k i h2 F' _ h3 _ _ h4 h5) (fun h => h.2)) (h F H hp a w hf hw)
theorem jje {ι : Type} {S : ι → Jn} (i : ι) (hi : (S i).inv) (hd : Sd D L (S i).D) (hl : Tks L (S i).L M) (hs : Sub e (S i).env) : QH n w0 (QJn n w0 X S Q) X D L e .normal := fun F H hp a w hf hw =>
  .inl ⟨rfl, i, F, hi, hw.heap ▸ hp.sub hd hl, hf.sub hs, ⟨rfl, hw.os, hw.tape, hw.output⟩⟩
end
def Tr (P : Program) (f : FuncId) (args : Array Value) (D0 : List Dt) (L0 : List Res) {ι : Type} (val : ι → Value) (dr : ι → List Dt) (lr : Nat → ι → List Res) : Prop :=
  ∀ F H, InH F H → AllD F D0 → Ok F H L0 → Ct P f args H (fun v H' => ∃ i F', v = val i ∧ ∀ B, B ≤ H.size → Hp ⟨Own L0, H, F⟩ (dr i) (lr B i) F' H')
section
variable {f : FuncId} {fn : Func} {c : Code} {args : List Value} {D0 : List Dt} {L0 : List Res} {ι : Type} {val : ι → Value} {dr : ι → List Dt} {lr : Nat → ι → List Res}
def RQ2 (P : Program) (fn : Func) (w0 : World) (X : Cx) {ι : Type} (val : ι → Value) (dr : ι → List Dt) (lr : Nat → ι → List Res) : Exit → Act → World → Prop := BQ P fn w0 (fun v H' => ∃ i F', v = val i ∧ ∀ B, B ≤ X.n → Hp X (dr i) (lr B i) F' H')
theorem jenter {m : Nat} (hf : P.funcs[f]? = some fn) (hb : fn.body = some c) (hn : fn.ntmps = m) (ha : Nat.ble args.length m = true)
    (h : ∀ (w0 : World) (X : Cx), CH P ⟨m, []⟩ w0 (RQ2 P fn w0 X val dr lr) X D0 L0 (number 0 args) c) : Tr P f args.toArray D0 L0 val dr lr := fun F H hin hd ho =>
  Ct.enter hf hb hn ha fun w0 hw => h w0 ⟨Own L0, H, F⟩ F H ⟨PH.ext.refl F, hin, Kw.refl _ _, hd, ho, fun k hk => .inr hk⟩
end
end Go.JE
namespace Go.JE
variable {P : Program} {D : List Dt} {L M : List Res} {e : Env}
def dv {α : Type} (r : Rp α) (v : Value) (a : α) : Dt := ⟨fun F => r.rv F v a,fun hl h => Rp.rv.up h hl⟩
def da {α : Type} (r : Rp α) (v : Value) (a : α) : Dt := ⟨fun F => r.ra F v a,fun hl h => Rp.ra.up h hl⟩
def ad {α : Type} (r : Rp α) (b o : Nat) (a : α) : Dt := ⟨fun F => At F r b o a,fun hl h => At.up h hl⟩
def Sv (v : Value) : Prop := ∃ a n c,v = .slice a n c
theorem Sv.one {v : Value} (h : Sv v) : v.oneCell' = true := by obtain ⟨_,_,_,rfl⟩ := h; rfl
theorem Sv.cells {v : Value} (h : Sv v) : v.cells = [v].toArray := cells1 h.one
theorem Gl.sv {α : Type} {r : Rp α} {T : TypeId} {F : PH} {H : Heap} {B : Nat} {v : Value} {l : List α} (h : Gl r T F H B v l) : Sv v := by obtain ⟨xs,h1,_⟩ := h; obtain ⟨a,c,e⟩ := h1.len; exact ⟨a,_,c,e⟩
theorem dv1 {α : Type} {r : Rp α} {v : Value} {l : List α} {N : Nat} {F : PH} (h : (dv (rLn N r) v l).sat F) : Sv v := by obtain ⟨_,a,c,e,_⟩ := h; exact ⟨a,_,c,e⟩
def bx (g : Nat) (T : TypeId) (cs : List Value) : Res where
 sat F H := Bx H g T cs ∧ F g = none
 own k := k = g
 lt := fun h e => e ▸ h.1.lt
 no := fun h e => e ▸ h.2
 st := fun _ _ h1 h2 h => ⟨h.1.of (h2 g rfl),h1 g rfl⟩
def gl {α : Type} (B : Nat) (r : Rp α) (T : TypeId) (v : Value) (l : List α) : Res where
 sat F H := Gl r T F H B v l ∧ B ≤ H.size
 own k := v.ownBlock = some k
 lt := fun h e => h.1.lt _ e
 no := fun h e => h.1.no _ e
 st := fun hl hs h1 h2 h => by
   obtain ⟨⟨xs,a,b,c⟩,hB⟩ := h
   exact ⟨⟨xs,a.of h2,h1,fun i hi => Rp.up _ hl (c i hi)⟩,Nat.le_trans hB hs⟩
def Wr (D : List Dt) (L : List Res) (k : IntKind) (n : Int) : Prop := Nd D L ⟨fun _ => k.wrap n = n,fun _ h => h⟩
abbrev Qn (N n : Nat) : Prop := n < N ∧ n ≤ 9223372036854775807
section
variable {α β : Type} {r : Rp α} {v : Value} {a : α} {l : List α} {b o N B : Nat} {k : IntKind} {m : Int}
theorem wp (h : k.wrap m = m) : Wr D L k m := fun _ _ _ _ _ => h
theorem wl (m : Int) (h : k.wrap m = m := by decide) : Wr D L k m := wp h
theorem lrep {n : Nat} {a : α} : (List.replicate n a).length = n := List.length_replicate
theorem wad (h : Nd D L (ad (rI k) b o m)) : Wr D L k m := fun F H x y z => At.wr (h F H x y z)
theorem wgl {E : TypeId} {l : List Int} {i : Nat} (hk : Tk L (gl B (rI k) E v l) M) (hi : i < l.length) : Wr D L k (ix l i) := fun F H _ _ z => Gl.wr (hk.ok z).1.1 hi
theorem wI (h : Wr D L k m) : Nd D L (dv (rI k) (.int k m) m) := fun F H x y z => ⟨rfl,h F H x y z⟩
theorem wB {b : Bool} : Nd D L (dv rB (.bool b) b) := fun _ _ _ _ _ => rfl
theorem wN : Nd D L (dv (rL r) (.slice none 0 0) []) := fun F _ _ _ _ => rL.nil F
theorem dix [Inhabited α] {l : List α} (h : Nd D L (dv (rLn N r) v l)) (i : Nat) (hi : i < l.length) : Nd D L (ad r (vblk v) (voff v + i * r.sz) (ix l i)) := fun F H x y z => rL.ix (h F H x y z) i hi
theorem dhi (h : Nd D L (dv (rLn N r) v l)) (hi : Nat) (h2 : hi ≤ l.length) (h3 : hi < 1073741824) : Nd D L (dv (rL r) (resl r.sz v 0 hi) (l.take hi)) := fun F H x y z => rL.hi (h F H x y z) hi h2 h3
theorem dlo (h : Nd D L (dv (rLn N r) v l)) (lo : Nat) (h2 : lo ≤ l.length) (h3 : l.length - lo < 1073741824) : Nd D L (dv (rL r) (resl r.sz v lo l.length) (l.drop lo)) := fun F H x y z => rL.lo (h F H x y z) lo h2 h3
theorem dcast {a' : α} (e : a' = a) (h : Nd D L (dv r v a)) : Nd D L (dv r v a') := e ▸ h
theorem kcg {E : TypeId} {Ls M' : List Res} {l' : List α} (e : l' = l) (h : Tk L (gl B r E v l) M) (h' : Tks M Ls M') : Tks L (gl B r E v l' :: Ls) M' := e ▸ kc h h'
theorem kcb {g : Nat} {T : TypeId} {cs cs' : List Value} {Ls M' : List Res} (e : cs' = cs) (h : Tk L (bx g T cs) M) (h' : Tks M Ls M') : Tks L (bx g T cs' :: Ls) M' := e ▸ kc h h'
end
section
variable {T T' : TypeId} {x y z : Operand} {k k' : IntKind} {m n r : Int} {b b2 C : Bool} {u v w : Value}
theorem jmv (hx : ev e x = some v) : OH P D L e (.move x) v := fun _ _ _ _ _ => OpOk.move hx
theorem jas (hx : ev e x = some v) : OH P D L e (.assign x) v := fun _ _ _ _ _ => OpOk.assign hx
theorem jand (hc : ev e z = some (.bool b)) (hx : ev e x = some (gv b (.bool b2))) : OH P D L e (.pick z x (.const (.bool false))) (.bool (b && b2)) := fun _ _ _ _ _ => OpOk.pickAnd hc hx
theorem jor (hc : ev e z = some (.bool b)) (hx : ev e x = some (gv (!b) (.bool b2))) : OH P D L e (.pick z (.const (.bool true)) x) (.bool (b || b2)) := fun _ _ _ _ _ => OpOk.pickOr hc hx
theorem jand2 (hC : C = true) (hc : ev e z = some (gv C (.bool b))) (hx : ev e x = some (gv (C && b) (.bool b2))) : OH P D L e (.pick z x (.const (.bool false))) (.bool (b && b2)) := fun _ _ _ _ _ => OpOk.pickAnd2 hC hc hx
theorem jor2 (hC : C = true) (hc : ev e z = some (gv C (.bool b))) (hx : ev e x = some (gv (C && !b) (.bool b2))) : OH P D L e (.pick z (.const (.bool true)) x) (.bool (b || b2)) := fun _ _ _ _ _ => OpOk.pickOr2 hC hc hx
theorem jnot (hx : ev e x = some (.bool b)) : OH P D L e (.unOp .not T x) (.bool (!b)) := fun _ _ _ _ _ => OpOk.not hx
theorem jneg (hx : ev e x = some (.int k m)) : OH P D L e (.unOp .neg T x) (.int k (k.wrap (0 - m))) := fun _ _ _ _ _ => OpOk.neg hx rfl
theorem jex' {vs : Array Value} {i : Nat} (hx : ev e x = some (.tuple vs)) (hi : vs[i]? = some v) : OH P D L e (.extract x i) v := fun _ _ _ _ _ => OpOk.extract hx hi
theorem jnil {a : Addr} (hx : ev e x = some (.pointer (some a))) : OH P D L e (.nilCheck x) (.pointer (some a)) := fun _ _ _ _ _ => OpOk.nilCheck hx
theorem jadd (hx : ev e x = some (.int .i64 m)) (hy : ev e y = some (.int .i64 n)) (hr : -9223372036854775808 ≤ m + n ∧ m + n ≤ 9223372036854775807) : OH P D L e (.binOp .add T x y T') (.int .i64 (m + n)) := fun _ _ _ _ _ => OpOk.add hx hy hr
theorem jsub (hx : ev e x = some (.int .i64 m)) (hy : ev e y = some (.int .i64 n)) (hr : -9223372036854775808 ≤ m - n ∧ m - n ≤ 9223372036854775807) : OH P D L e (.binOp .sub T x y T') (.int .i64 (m - n)) := fun _ _ _ _ _ => OpOk.sub hx hy hr
theorem jmul (hx : ev e x = some (.int .i64 m)) (hy : ev e y = some (.int .i64 n)) (hr : -9223372036854775808 ≤ m * n ∧ m * n ≤ 9223372036854775807) : OH P D L e (.binOp .mul T x y T') (.int .i64 (m * n)) := fun _ _ _ _ _ => OpOk.mul hx hy hr
theorem jaddw (hx : ev e x = some (.int k m)) (hy : ev e y = some (.int k n)) : OH P D L e (.binOp .add T x y T') (.int k (k.wrap (m + n))) := fun _ _ _ _ _ => OpOk.addw hx hy rfl
theorem jsubw (hx : ev e x = some (.int k m)) (hy : ev e y = some (.int k n)) : OH P D L e (.binOp .sub T x y T') (.int k (k.wrap (m - n))) := fun _ _ _ _ _ => OpOk.subw hx hy rfl
theorem jmulw (hx : ev e x = some (.int k m)) (hy : ev e y = some (.int k n)) : OH P D L e (.binOp .mul T x y T') (.int k (k.wrap (m * n))) := fun _ _ _ _ _ => OpOk.mulw hx hy rfl
theorem jrem (hx : ev e x = some (.int k m)) (hy : ev e y = some (.int k n)) (h0 : n ≠ 0) : OH P D L e (.binOp .rem T x y T') (.int k (m.tmod n)) := fun _ _ _ _ _ => OpOk.rem hx hy h0
theorem jquo (hx : ev e x = some (.int k m)) (hy : ev e y = some (.int k n)) (h0 : n ≠ 0) : OH P D L e (.binOp .quo T x y T') (.int k (k.wrap (m.tdiv n))) := fun _ _ _ _ _ => OpOk.quow hx hy h0 rfl
theorem jlss (hx : ev e x = some (.int k m)) (hy : ev e y = some (.int k n)) : OH P D L e (.binOp .lss T x y T') (.bool (decide (m < n))) := fun _ _ _ _ _ => OpOk.lss hx hy
theorem jleq (hx : ev e x = some (.int k m)) (hy : ev e y = some (.int k n)) : OH P D L e (.binOp .leq T x y T') (.bool (decide (m ≤ n))) := fun _ _ _ _ _ => OpOk.leq hx hy
theorem jgtr (hx : ev e x = some (.int k m)) (hy : ev e y = some (.int k n)) : OH P D L e (.binOp .gtr T x y T') (.bool (decide (n < m))) := fun _ _ _ _ _ => OpOk.gtr hx hy
theorem jgeq (hx : ev e x = some (.int k m)) (hy : ev e y = some (.int k n)) : OH P D L e (.binOp .geq T x y T') (.bool (decide (n ≤ m))) := fun _ _ _ _ _ => OpOk.geq hx hy
theorem jeql (hx : ev e x = some (.int k m)) (hy : ev e y = some (.int k n)) : OH P D L e (.binOp .eql T x y T') (.bool (decide (m = n))) := fun _ _ _ _ _ => OpOk.eql hx hy
theorem jneq (hx : ev e x = some (.int k m)) (hy : ev e y = some (.int k n)) : OH P D L e (.binOp .neq T x y T') (.bool (!decide (m = n))) := fun _ _ _ _ _ => OpOk.neq hx hy
theorem jandw (hx : ev e x = some (.int k m)) (hy : ev e y = some (.int k n)) : OH P D L e (.binOp .and T x y T') (.int k (andI k m n)) := fun _ _ _ _ _ => OpOk.andw hx hy
theorem jorw (hx : ev e x = some (.int k m)) (hy : ev e y = some (.int k n)) : OH P D L e (.binOp .or T x y T') (.int k (orI k m n)) := fun _ _ _ _ _ => OpOk.orw hx hy
theorem jxorw (hx : ev e x = some (.int k m)) (hy : ev e y = some (.int k n)) : OH P D L e (.binOp .xor T x y T') (.int k (xorI k m n)) := fun _ _ _ _ _ => OpOk.xorw hx hy
theorem jshl (hx : ev e x = some (.int k m)) (hy : ev e y = some (.int k' n)) (h0 : 0 ≤ n) : OH P D L e (.binOp .shl T x y T') (.int k (shlI k m n)) := fun _ _ _ _ _ => OpOk.shlw hx hy h0
theorem jshr (hx : ev e x = some (.int k m)) (hy : ev e y = some (.int k' n)) (h0 : 0 ≤ n) : OH P D L e (.binOp .shr T x y T') (.int k (shrI k m n)) := fun _ _ _ _ _ => OpOk.shrw hx hy h0
theorem jeqlF {ps rs : Array TypeId} {vr : Bool} {fn : Fn} {a1 a2 : Array Value} (hT : P.underlying T = some (.func ps rs vr)) (hx : ev e x = some (.func fn a1 a2)) (hy : ev e y = some .nilFunc) : OH P D L e (.binOp .eql T x y T') (.bool false) := fun _ _ _ _ _ => OpOk.eqlF hT hx hy
theorem jeqlN {ps rs : Array TypeId} {vr : Bool} (hT : P.underlying T = some (.func ps rs vr)) (hx : ev e x = some .nilFunc) (hy : ev e y = some .nilFunc) : OH P D L e (.binOp .eql T x y T') (.bool true) := fun _ _ _ _ _ => OpOk.eqlN hT hx hy
theorem jmin {ts : Array TypeId} (hx : ev e x = some (.int k m)) (hy : ev e y = some (.int k n)) : OH P D L e (.call { callee := .builtin .min,args := #[x,y],argTypes := ts }) (.int k (Min.min m n)) := fun _ _ _ _ _ => OpOk.min3 hx hy
theorem jmax {ts : Array TypeId} (hx : ev e x = some (.int k m)) (hy : ev e y = some (.int k n)) : OH P D L e (.call { callee := .builtin .max,args := #[x,y],argTypes := ts }) (.int k (Max.max m n)) := fun _ _ _ _ _ => OpOk.max3 hx hy
theorem jco {S : TypeId} {d} (hs : P.underlying S = some d) (hd : P.underlying T = some (.int k')) (hx : ev e x = some (.int k m)) (hk : k'.wrap m = r) : OH P D L e (.convert S T x) (.int k' r) := fun _ _ _ _ _ => OpOk.convI hs hd hx hk
theorem jmf1 {fn : Fn} (hx : ev e x = some u) : OH P D L e (.makeFunc fn #[] #[x]) (.func fn #[] #[u]) := fun _ _ _ _ _ => OpOk.makeFunc1 hx
theorem jmf2 {fn : Fn} (hx : ev e x = some u) (hy : ev e y = some v) : OH P D L e (.makeFunc fn #[] #[x,y]) (.func fn #[] #[u,v]) := fun _ _ _ _ _ => OpOk.makeFunc2 hx hy
theorem jmf3 {fn : Fn} (hx : ev e x = some u) (hy : ev e y = some v) (hz : ev e z = some w) : OH P D L e (.makeFunc fn #[] #[x,y,z]) (.func fn #[] #[u,v,w]) := fun _ _ _ _ _ => OpOk.makeFunc3 hx hy hz
theorem jmf4 {fn : Fn} {x1 x2 x3 x4 : Operand} {v1 v2 v3 v4 : Value} (h1 : ev e x1 = some v1) (h2 : ev e x2 = some v2) (h3 : ev e x3 = some v3) (h4 : ev e x4 = some v4) : OH P D L e (.makeFunc fn #[] #[x1,x2,x3,x4]) (.func fn #[] #[v1,v2,v3,v4]) := fun _ _ _ _ _ => OpOk.makeFunc4 h1 h2 h3 h4
theorem jf {i off b o : Nat} (hF : Fld P T i off) (hx : ev e x = some (.pointer (some ⟨b,o,none⟩))) : OH P D L e (.fieldAddr T x i) (.pointer (some ⟨b,o + off,none⟩)) := fun _ _ _ _ _ => OpOk.fieldAddr hF hx
theorem jixa {E : TypeId} {b o len s i : Nat} {I : Int} (hT : P.underlying T = some (.array len E)) (hE : Sz P E s) (hx : ev e x = some (.pointer (some ⟨b,o,none⟩))) (hi : ev e y = some (.int k I)) (hI : I = i) (h1 : i < len) : OH P D L e (.indexAddr T x y) (.pointer (some ⟨b,o + i * s,none⟩)) := fun _ _ _ _ _ => OpOk.indexArr hT hE hx hi hI h1
theorem jbu {l : List (Nat × Operand)} {r : List (Nat × Value)} (hl : evs e l = some r) (hb : ∀ w,(Instr.build T r.toArray).run P w = .ok v w) : OH P D L e (.build T l.toArray) v := fun _ _ _ _ _ => OpOk.build hl hb
end
section
variable {T : TypeId} {T' : TypeId} {x : Operand} {g o m : Nat} {cs ds : List Value} {v : Value}
theorem jl (hk : Tk L (bx g T cs) M) (hT : One P T') (hx : ev e x = some (.pointer (some ⟨g,o,none⟩))) (hl : cs[o]? = some v) : OH P D L e (.load T' x) v := fun F H _ _ h => OpOk.ldBx (hk.ok h).1.1 hT hx hl
theorem jla (hk : Tk L (bx g T cs) M) (hT : ∃ d,P.underlying T' = some d ∧ (match d with | .struct _ | .array _ _ => true | _ => false) = true) (hS : Sz P T' m) (hx : ev e x = some (.pointer (some ⟨g,o,none⟩))) (hl : (cs.drop o).take m = ds) (hm : ds.length = m) : OH P D L e (.load T' x) (.agg ds.toArray) := fun F H _ _ h => OpOk.ldBxA (hk.ok h).1.1 hT hS hx hl hm
theorem jli {k : IntKind} {l : List Int} {i : Nat} (hk : Tk L (bx g T (l.map (Value.int k))) M) (hi : i < l.length) (ho : o = i) (hT : One P T') (hx : ev e x = some (.pointer (some ⟨g,o,none⟩))) : OH P D L e (.load T' x) (.int k (ix l i)) := fun F H _ _ h => OpOk.ldBxI (hk.ok h).1.1 hi ho hT hx
end
section
variable {α : Type} {r : Rp α} {v : Value} {l : List α} {B : Nat} {T E : TypeId} {x y : Operand} {k k' : IntKind} {i N b o : Nat} {I m : Int} {a : α}
theorem jln (hT : P.underlying T = some (.slice E)) (hs : Nd D L (dv (rLn N r) v l)) (hx : ev e x = some v) : OH P D L e (.call { callee := .builtin .len,args := #[x],argTypes := #[T] }) (.int .i64 (l.length : Nat)) := fun F H a b c => OpOk.lenL hT (hs F H a b c) hx
theorem jix (hT : P.underlying T = some (.slice E)) (hE : Sz P E r.sz) (hs : Nd D L (dv (rLn N r) v l)) (hx : ev e x = some v) (hi : ev e y = some (.int k I)) (hI : I = i) (h1 : i < l.length) (hsz : 0 < r.sz := by exact Nat.le_of_ble_eq_true rfl) : OH P D L e (.indexAddr T x y) (.pointer (some ⟨vblk v,voff v + i * r.sz,none⟩)) := fun F H a b c => OpOk.idxL hT hE (hs F H a b c) hx hi hI h1 hsz
theorem jlI (hat : Nd D L (ad (rI k) b o m)) (hT : One P T) (hx : ev e x = some (.pointer (some ⟨b,o,none⟩))) : OH P D L e (.load T x) (.int k m) := fun F H a b c => OpOk.ldI a (hat F H a b c) hT hx
theorem jlB {m : Bool} (hat : Nd D L (ad rB b o m)) (hT : One P T) (hx : ev e x = some (.pointer (some ⟨b,o,none⟩))) : OH P D L e (.load T x) (.bool m) := fun F H a b c => OpOk.ldB a (hat F H a b c) hT hx
theorem jlV (hat : Nd D L (ad r b o a)) (hT : One P T) (hS : r.sz = 1) (hx : ev e x = some (.pointer (some ⟨b,o,none⟩))) : OE P D L e (.load T x) (fun v F => (dv r v a).sat F) := fun F H h1 h2 h3 => OpOk.ldV h1 (hat F H h1 h2 h3) hT hS hx
theorem jlA (hat : Nd D L (ad r b o a)) (hT : ∃ d,P.underlying T = some d ∧ (match d with | .struct _ | .array _ _ => true | _ => false) = true) (hS : Sz P T r.sz) (hx : ev e x = some (.pointer (some ⟨b,o,none⟩))) : OE P D L e (.load T x) (fun v F => (da r v a).sat F) := fun F H h1 h2 h3 => OpOk.ldA h1 (hat F H h1 h2 h3) hT hS hx
theorem jshi {z : Operand} {J : Int} {hi : Nat} (hT : P.underlying T = some (.slice E)) (hE : Sz P E r.sz) (hs : Nd D L (dv (rLn N r) v l)) (hx : ev e x = some v) (hh : ev e z = some (.int k' J)) (hJ : J = hi) (h2 : hi ≤ l.length) : OH P D L e (.slice T x none (some z) none) (resl r.sz v 0 hi) := fun F H a b c => OpOk.sliceHiL hT hE (hs F H a b c) a hx hh hJ h2
theorem jslo {z : Operand} {J : Int} {lo : Nat} (hT : P.underlying T = some (.slice E)) (hE : Sz P E r.sz) (hs : Nd D L (dv (rLn N r) v l)) (hx : ev e x = some v) (hh : ev e z = some (.int k' J)) (hJ : J = lo) (h2 : lo ≤ l.length) : OH P D L e (.slice T x (some z) none none) (resl r.sz v lo l.length) := fun F H a b c => OpOk.sliceLoL hT hE (hs F H a b c) a hx hh hJ h2
end
section
variable {α : Type} [Inhabited α] {r : Rp α} {v : Value} {l : List α} {B : Nat} {T E : TypeId} {x y : Operand} {k k' : IntKind} {i N b o : Nat} {I m : Int} {a : α}
omit [Inhabited α] in
theorem jlg (hT : P.underlying T = some (.slice E)) (hk : Tk L (gl B r E v l) M) (hx : ev e x = some v) : OH P D L e (.call { callee := .builtin .len,args := #[x],argTypes := #[T] }) (.int .i64 (l.length : Nat)) := fun F H _ _ h => OpOk.lenG hT (hk.ok h).1.1 hx
omit [Inhabited α] in
theorem jig (hT : P.underlying T = some (.slice E)) (hE : Sz P E r.sz) (hk : Tk L (gl B r E v l) M) (hx : ev e x = some v) (hi : ev e y = some (.int k I)) (hI : I = i) (h1 : i < l.length) (hsz : 0 < r.sz := by exact Nat.le_of_ble_eq_true rfl) : OH P D L e (.indexAddr T x y) (.pointer (some ⟨vblk v,voff v + i * r.sz,none⟩)) := fun F H _ _ h => OpOk.idxG hT hE (hk.ok h).1.1 hx hi hI h1 hsz
theorem jgI {l : List Int} (hk : Tk L (gl B (rI k) E v l) M) (hi : i < l.length) (hT : One P T) (hx : ev e x = some (.pointer (some ⟨vblk v,voff v + i * 1,none⟩))) : OH P D L e (.load T x) (.int k (ix l i)) := fun F H _ _ h => OpOk.ldGI (hk.ok h).1.1 hi hT hx
theorem jgB {l : List Bool} (hk : Tk L (gl B rB E v l) M) (hi : i < l.length) (hT : One P T) (hx : ev e x = some (.pointer (some ⟨vblk v,voff v + i * 1,none⟩))) : OH P D L e (.load T x) (.bool (ix l i)) := fun F H _ _ h => OpOk.ldGB (hk.ok h).1.1 hi hT hx
theorem jgV (hk : Tk L (gl B r E v l) M) (hi : i < l.length) (hT : One P T) (hs : r.sz = 1) (hx : ev e x = some (.pointer (some ⟨vblk v,voff v + i * 1,none⟩))) : OE P D L e (.load T x) (fun u F => (dv r u (ix l i)).sat F) := fun F H _ _ h => OpOk.ldGV (hk.ok h).1.1 hi hT hs hx
end
section
variable {n : Fs} {w0 : World} {Q : Exit → Act → World → Prop} {X : Cx} {ops : Array Oper} {op : Op} {d : Nat} {ty : TypeId} {pos : String} {af : Array Edge} {rest : List Oper} {K : Act → World → Prop} {α : Type} {r : Rp α} {l : List α} {N : Nat}
theorem jev (h : OE P D L e op (fun v F => (dv (rLn N r) v l).sat F)) (k : ∀ v,Qn N l.length → Sv v → LH P n w0 ops Q X (dv (rLn N r) v l :: D) L ((d,v) :: e) rest) (hd : Nat.blt d n.sz = true := by rfl) : LH P n w0 ops Q X D L e (⟨some d,op,ty,pos,af,none⟩ :: rest) :=
 fun F H hp => by
   obtain ⟨v,h1,h2⟩ := h F H hp.hin hp.hd hp.ok
   exact LF.step h1 (k v h2.1 (dv1 h2) F H (hp.datum h2)) hd
theorem jtv (h : OE P D L e op (fun v F => (dv (rLn N r) v l).sat F)) (k : ∀ v,Qn N l.length → Sv v → SH P n w0 ops K X (dv (rLn N r) v l :: D) L ((d,v) :: e) rest) (hd : Nat.blt d n.sz = true := by rfl) : SH P n w0 ops K X D L e (⟨some d,op,ty,pos,af,none⟩ :: rest) :=
 fun F H hp => by
   obtain ⟨v,h1,h2⟩ := h F H hp.hin hp.hd hp.ok
   exact LS.step h1 (k v h2.1 (dv1 h2) F H (hp.datum h2)) hd
variable {v : Value} {c : Code} {p : Prop}
theorem jdq (h : Nd D L (dv (rLn N r) v l)) (k : Qn N l.length → Sv v → LH P n w0 ops Q X D L e rest) : LH P n w0 ops Q X D L e rest := fun F H hp => by
 have h1 := h F H hp.hin hp.hd hp.ok; exact k h1.1 (dv1 h1) F H hp
theorem cdq (h : Nd D L (dv (rLn N r) v l)) (k : Qn N l.length → Sv v → CH P n w0 Q X D L e c) : CH P n w0 Q X D L e c := fun F H hp => by
 have h1 := h F H hp.hin hp.hd hp.ok; exact k h1.1 (dv1 h1) F H hp
theorem jwr {k : IntKind} {m : Int} (h : Wr D L k m) (K : k.wrap m = m → LH P n w0 ops Q X D L e rest) : LH P n w0 ops Q X D L e rest := fun F H hp => K (h F H hp.hin hp.hd hp.ok) F H hp
theorem jgo {α : Type} {r : Rp α} {B : Nat} {E : TypeId} {l : List α} (hk : Tk L (gl B r E v l) M) (K : Sv v → LH P n w0 ops Q X D L e rest) : LH P n w0 ops Q X D L e rest := fun F H hp => K (Gl.sv (hp.at hk).1) F H hp
theorem cgo {α : Type} {r : Rp α} {B : Nat} {E : TypeId} {l : List α} (hk : Tk L (gl B r E v l) M) (K : Sv v → CH P n w0 Q X D L e c) : CH P n w0 Q X D L e c := fun F H hp => K (Gl.sv (hp.at hk).1) F H hp
theorem qgo {α : Type} {r : Rp α} {B : Nat} {E : TypeId} {l : List α} {z : Exit} (hk : Tk L (gl B r E v l) M) (K : Sv v → QH n w0 Q X D L e z) : QH n w0 Q X D L e z := fun F H hp => K (Gl.sv (hp.at hk).1) F H hp
theorem tdq (h : Nd D L (dv (rLn N r) v l)) (k : Qn N l.length → Sv v → SH P n w0 ops K X D L e rest) : SH P n w0 ops K X D L e rest := fun F H hp => by
 have h1 := h F H hp.hin hp.hd hp.ok; exact k h1.1 (dv1 h1) F H hp
theorem qdq {x : Exit} (h : Nd D L (dv (rLn N r) v l)) (k : Qn N l.length → Sv v → QH n w0 Q X D L e x) : QH n w0 Q X D L e x := fun F H hp => by
 have h1 := h F H hp.hin hp.hd hp.ok; exact k h1.1 (dv1 h1) F H hp
end
end Go.JE
namespace Go.JE
variable {P : Program} {D : List Dt} {L M Ls : List Res} {e : Env} {X : Cx} {n : Fs} {w0 : World} {Q : Exit → Act → World → Prop}
section
variable {α : Type} {r : Rp α} {v : Value} {l l' : List α} {F : PH} {H H' : Heap} {E : TypeId} {B : Nat}
theorem hp1 (h : Hp X D L F H) (hk : Tk L (gl B r E v l) M) : B ≤ H.size := (h.at hk).2
theorem Hp.grow {v' : Value} (h : Hp X D L F H) (hk : Tk L (gl B r E v l) M) (hg : Gl r E F H' B v' l') (hb : GrownBy H H' v.ownBlock) (ho : v'.ownBlock = v.ownBlock ∨ ∃ g,v'.ownBlock = some g ∧ H.size ≤ g) : Hp X D (gl B r E v' l' :: M) F H' :=
 h.set (R' := gl B r E v' l') hk ⟨hb.1,fun k h1 h2 => hb.2 k h1 (fun h3 => h2 h3.symm)⟩ ⟨hg,Nat.le_trans (hp1 h hk) hb.1⟩ fun k h1 => by
   rcases ho with ho | ⟨g,ho,hg⟩
   · exact .inr (ho.symm.trans h1)
   · have h2 : some g = some k := ho.symm.trans h1
     injection h2 with h2; exact .inl (h2 ▸ hg)
end
section
variable {ops : Array Oper} {d : Nat} {ty : TypeId} {pos : String} {af : Array Edge} {rest : List Oper} {v u z : Value} {x y : Operand} {T T' E : TypeId} {g o m bytes : Nat} {cs cs' ds : List Value}
theorem jbox (hx : ev e x = some v) (hv : v.cells = cs.toArray) (k : ∀ g,LH P n w0 ops Q X D (bx g T cs :: L) ((d,.pointer (some ⟨g,0,none⟩)) :: e) rest) (hd : Nat.blt d n.sz = true := by rfl) : LH P n w0 ops Q X D L e (⟨some d,.box T x,ty,pos,af,none⟩ :: rest) := fun F H hp =>
 LF.chg (OpCh.boxB hx hv) (by rintro _ H' ⟨g,rfl,eg,sg,kg,hb⟩; exact k g F H' (hp.new (R := bx g T cs) kg ⟨hb,hp.hin.nope (Nat.le_of_eq eg.symm)⟩ (fun k hk => by have : k = g := hk; omega))) hd
theorem jalc (hz : (P.info? T).bind (·.zero) = some z) (hv : z.cells = cs.toArray) (k : ∀ g,LH P n w0 ops Q X D (bx g T cs :: L) ((d,.pointer (some ⟨g,0,none⟩)) :: e) rest) (hd : Nat.blt d n.sz = true := by rfl) : LH P n w0 ops Q X D L e (⟨some d,.alloc T,ty,pos,af,none⟩ :: rest) := fun F H hp =>
 LF.chg (OpCh.allocB hz hv) (by rintro _ H' ⟨g,rfl,eg,sg,kg,hb⟩; exact k g F H' (hp.new (R := bx g T cs) kg ⟨hb,hp.hin.nope (Nat.le_of_eq eg.symm)⟩ (fun k hk => by have : k = g := hk; omega))) hd
theorem Tw.kwb {H H' : Heap} (h : Tw g H H') : Kw (bx g T cs).own H H' := ⟨Nat.le_of_eq h.1.symm,fun k _ h2 => h.2 k h2⟩
def St (l : List Value) (o : Nat) (v : Value) (l' : List Value) : Prop := l.set o v = l' ∧ o < l.length
theorem s0 {a : Value} {l : List Value} : St (a :: l) 0 v (v :: l) := ⟨rfl,by simp⟩
theorem St.s {a : Value} {l l' : List Value} (h : St l o v l') : St (a :: l) (o + 1) v (a :: l') := ⟨by rw [List.set_cons_succ,h.1],by simpa using h.2⟩
theorem s1 {a a0 : Value} {l : List Value} : St (a0 :: a :: l) 1 v (a0 :: v :: l) := s0.s
theorem s2 {a a0 a1 : Value} {l : List Value} : St (a0 :: a1 :: a :: l) 2 v (a0 :: a1 :: v :: l) := s1.s
theorem s3 {a a0 a1 a2 : Value} {l : List Value} : St (a0 :: a1 :: a2 :: a :: l) 3 v (a0 :: a1 :: a2 :: v :: l) := s2.s
theorem s4 {a a0 a1 a2 a3 : Value} {l : List Value} : St (a0 :: a1 :: a2 :: a3 :: a :: l) 4 v (a0 :: a1 :: a2 :: a3 :: v :: l) := s3.s
theorem s5 {a a0 a1 a2 a3 a4 : Value} {l : List Value} : St (a0 :: a1 :: a2 :: a3 :: a4 :: a :: l) 5 v (a0 :: a1 :: a2 :: a3 :: a4 :: v :: l) := s4.s
theorem s6 {a a0 a1 a2 a3 a4 a5 : Value} {l : List Value} : St (a0 :: a1 :: a2 :: a3 :: a4 :: a5 :: a :: l) 6 v (a0 :: a1 :: a2 :: a3 :: a4 :: a5 :: v :: l) := s5.s
theorem jst (hk : Tk L (bx g T cs) M) (hT : Sz P T' 1) (hx : ev e x = some (.pointer (some ⟨g,o,none⟩))) (hy : ev e y = some v) (h1 : v.oneCell' = true) (hs : St cs o v cs') (k : LH P n w0 ops Q X D (bx g T cs' :: M) e rest) : LH P n w0 ops Q X D L e (⟨none,.store T' x y,ty,pos,af,none⟩ :: rest) := fun F H hp =>
 LF.chg0 (OpCh.storeB (hp.at hk).1 hT hx hy h1 hs.2) (by rintro _ H' ⟨t,b⟩; exact k F H' (hp.set (R' := bx g T cs') hk t.kwb ⟨hs.1 ▸ b,(hp.at hk).2⟩ (fun k h => .inr h)))
def Sta (l : List Value) (o : Nat) (c l' : List Value) : Prop := setAt l o c = l' ∧ o + c.length ≤ l.length
theorem setAt_cons {a : Value} : ∀ (c l : List Value) (o : Nat),setAt (a :: l) (o + 1) c = a :: setAt l o c
 | [],_,_ => rfl
 | v :: c,l,o => by show setAt ((a :: l).set (o + 1) v) (o + 1 + 1) c = _; rw [List.set_cons_succ,setAt_cons c]; rfl
theorem sa {l : List Value} : Sta l 0 [] l := ⟨rfl,by simp⟩
theorem Sta.c {a b : Value} {l c l' : List Value} (h : Sta l 0 c l') : Sta (a :: l) 0 (b :: c) (b :: l') := ⟨by show setAt ((a :: l).set 0 b) (0 + 1) c = _; rw [List.set_cons_zero,setAt_cons,h.1],by have := h.2; simp at this ⊢; omega⟩
theorem Sta.s {a : Value} {l c l' : List Value} (h : Sta l o c l') : Sta (a :: l) (o + 1) c (a :: l') := ⟨by rw [setAt_cons,h.1],by have := h.2; simp at this ⊢; omega⟩
theorem saf : ∀ {l c : List Value} (_ : c.length = l.length),Sta l 0 c c
 | [],[],_ => sa
 | _ :: _,_ :: _,h => (saf (by simpa using h)).c
 | [],_ :: _,h => by cases h
 | _ :: _,[],h => by cases h
theorem jsta (hk : Tk L (bx g T cs) M) (hT : Sz P T' m) (hx : ev e x = some (.pointer (some ⟨g,o,none⟩))) (hy : ev e y = some (.agg ds.toArray)) (hl : ds.length = m) (h1 : allOne ds) (hs : Sta cs o ds cs') (k : LH P n w0 ops Q X D (bx g T cs' :: M) e rest) : LH P n w0 ops Q X D L e (⟨none,.store T' x y,ty,pos,af,none⟩ :: rest) := fun F H hp =>
 LF.chg0 (OpCh.storeBA (hp.at hk).1 hT hx hy hl h1.mem (hl ▸ hs.2)) (by rintro _ H' ⟨t,b⟩; exact k F H' (hp.set (R' := bx g T cs') hk t.kwb ⟨hs.1 ▸ b,(hp.at hk).2⟩ (fun k h => .inr h)))
end
section
variable {ops : Array Oper} {d d2 : Nat} {ty ty2 : TypeId} {pos pos2 : String} {af af2 : Array Edge} {rest : List Oper} {v u z : Value} {x y : Operand} {T T' E : TypeId} {i m bytes B : Nat} {α : Type} {r : Rp α} {l : List α} {a : α}
theorem jnl (k : LH P n w0 ops Q X D (gl X.n r E (.slice none 0 0) [] :: L) e rest) : LH P n w0 ops Q X D L e rest := fun F H hp => k F H (hp.new (R := gl X.n r E (.slice none 0 0) []) (Kp.refl _ _) ⟨Gl.nil _ _ _,hp.hw.1⟩ (fun k h => by cases h))
theorem cnl {c : Code} (k : CH P n w0 Q X D (gl X.n r E (.slice none 0 0) [] :: L) e c) : CH P n w0 Q X D L e c := fun F H hp => k F H (hp.new (R := gl X.n r E (.slice none 0 0) []) (Kp.refl _ _) ⟨Gl.nil _ _ _,hp.hw.1⟩ (fun k h => by cases h))
theorem qnl {z : Exit} (k : QH n w0 Q X D (gl X.n r E (.slice none 0 0) [] :: L) e z) : QH n w0 Q X D L e z := fun F H hp => k F H (hp.new (R := gl X.n r E (.slice none 0 0) []) (Kp.refl _ _) ⟨Gl.nil _ _ _,hp.hw.1⟩ (fun k h => by cases h))
theorem Hp.newG {F : PH} {H H' : Heap} (hp : Hp X D L F H) (kg : Kp H.size H H') (hb : InH F H → Gl r E F H' H.size v l) : Hp X D (gl X.n r E v l :: L) F H' :=
 hp.new (R := gl X.n r E v l) kg ⟨(hb hp.hin).base hp.hw.1,Nat.le_trans hp.hw.1 kg.1⟩ (fun k hk => ((hb hp.hin).blk k hk).1)
theorem jmk {I J : Int} (hT : P.underlying T = some (.slice E)) (hE : (P.info? E).map (fun i => (i.zero,i.size,i.bytes)) = some (some z,1,bytes)) (hz : z.cells = #[z]) (hx : ev e x = some (.int .i64 I)) (hy : ev e y = some (.int .i64 J)) (hI : I = m) (hJ : J = m) (h1 : bytes * m ≤ 281474976710656 ∧ m ≤ 140737488355328) (hok : Nd D L (dv r z a)) (hs : r.sz = 1)
   (k : ∀ g,LH P n w0 ops Q X D (gl X.n r E (.slice (some ⟨g,0,none⟩) m m) (List.replicate m a) :: L) ((d,.slice (some ⟨g,0,none⟩) m m) :: e) rest) (hd : Nat.blt d n.sz = true := by rfl) : LH P n w0 ops Q X D L e (⟨some d,.makeSlice T x y,ty,pos,af,none⟩ :: rest) := fun F H hp =>
 LF.chg (OpCh.makeL (F := F) (r := r) (n := m) (a := a) hT hE hz hx hy hI hJ h1.1 h1.2 (hok F H hp.hin hp.hd hp.ok) hs) (by rintro _ H' ⟨g,rfl,eg,sg,kg,hb⟩; exact k g F H' (hp.newG kg hb)) hd
theorem litOk.up {F G : PH} (hl : F.le G) : ∀ {l : List α} {us : List Value} {cs : List (List Value)},litOk r F l us cs → litOk r G l us cs
 | [],[],[],h => h
 | _ :: _,_ :: _,_ :: _,h => ⟨h.1,h.2.1,Rp.up _ hl h.2.2.1,litOk.up hl h.2.2.2⟩
 | [],_ :: _,_,h => h.elim
 | [],[],_ :: _,h => h.elim
 | _ :: _,[],_,h => h.elim
 | _ :: _,_ :: _,[],h => h.elim
def dlit (r : Rp α) (l : List α) (us : List Value) (cs : List (List Value)) : Dt := ⟨fun F => litOk r F l us cs,fun hl h => litOk.up hl h⟩
theorem ln : Nd D L (dlit r [] [] []) := fun _ _ _ _ _ => trivial
theorem lA {us c : List Value} {cs : List (List Value)} (h : Nd D L (da r (.agg c.toArray) a)) (h' : Nd D L (dlit r l us cs)) : Nd D L (dlit r (a :: l) (.agg c.toArray :: us) (c :: cs)) := fun F H p q s => by
 obtain ⟨l',e,h1,h2⟩ := h F H p q s
 injection e with e; have e : c = l' := by simpa using e
 subst e; exact ⟨rfl,h1,h2,h' F H p q s⟩
theorem lV {u : Value} {us : List Value} {cs : List (List Value)} (hs : r.sz = 1) (h1 : u.oneCell' = true) (h : Nd D L (dv r u a)) (h' : Nd D L (dlit r l us cs)) : Nd D L (dlit r (a :: l) (u :: us) ([u] :: cs)) := fun F H p q s =>
 ⟨cells1 h1,hs.symm,r.ext (fun j hj => by rw [show j = 0 by omega]; rfl) (h F H p q s),h' F H p q s⟩
theorem jlit {ys : List (Nat × Operand)} {us : List Value} {cs : List (List Value)} (hT : P.underlying T = some (.slice E)) (hE : (P.info? E).map (fun i => (i.zero,i.size,i.bytes)) = some (some z,r.sz,bytes)) (hm : m ≤ 1000 ∧ 0 < r.sz ∧ r.sz ≤ 1000) (hz : z.cells.size = r.sz) (hr : evs e ys = some ((us.zipIdx 0).map fun p => (p.2,p.1))) (hlm : l.length = m)
   (hok : Nd D L (dlit r l us cs))
   (k : ∀ g,LH P n w0 ops Q X D (gl X.n r E (.slice (some ⟨g,0,none⟩) m m) l :: L) ((d,.slice (some ⟨g,0,none⟩) m m) :: e) rest) (hd : Nat.blt d n.sz = true := by rfl) : LH P n w0 ops Q X D L e (⟨some d,.buildSlice T m ys.toArray,ty,pos,af,none⟩ :: rest) := fun F H hp =>
 LF.chg (OpCh.litL (F := F) hT hE hm hz hr hlm (hok F H hp.hin hp.hd hp.ok)) (by rintro _ H' ⟨g,rfl,eg,sg,kg,hb⟩; exact k g F H' (hp.newG kg hb)) hd
theorem jsg (hk : Tk L (gl B r E v l) M) (hs : r.sz = 1) (hT : Sz P T 1) (hx : ev e x = some (.pointer (some ⟨vblk v,voff v + i * 1,none⟩))) (hy : ev e y = some u) (h1 : u.oneCell' = true) (hi : i < l.length) (hok : Nd D L (dv r u a))
   (k : LH P n w0 ops Q X D (gl B r E v (l.set i a) :: M) e rest) : LH P n w0 ops Q X D L e (⟨none,.store T x y,ty,pos,af,none⟩ :: rest) := fun F H hp =>
 LF.chg0 (OpCh.storeG (hp.at hk).1 hs hT hx hy h1 hi (hok F H hp.hin hp.hd hp.ok)) (by
   rintro _ H' ⟨g,hg,t,hb⟩
   exact k F H' (hp.set (R' := gl B r E v (l.set i a)) hk ⟨Nat.le_of_eq t.1.symm,fun k _ h2 => t.2 k (fun e1 => h2 (e1 ▸ hg))⟩ ⟨hb,by rw [t.1]; exact hp1 hp hk⟩ (fun k h => .inr h)))
theorem jap {lc : List Value} (hT : P.underlying T = some (.slice E)) (hE : (P.info? E).map (fun i => (i.zero,i.size,i.bytes)) = some (some z,r.sz,bytes)) (hs : 0 < r.sz ∧ r.sz ≤ 1000 ∧ bytes ≤ 8192) (hz : z.cells.size = r.sz)
   (hk : Tk L (gl B r E v l) M) (hy : ev e y = some (.agg lc.toArray)) (hra : Nd D L (da r (.agg lc.toArray) a)) (hb : l.length < 4294967295) (hx : ∀ w,ev ((d,w) :: e) x = some v)
   (k : ∀ v' g,Sv v' → LH P n w0 ops Q X D (gl B r E v' (l ++ [a]) :: M) ((d2,v') :: (d,.slice (some ⟨g,0,none⟩) 1 1) :: e) rest) (hd1 : Nat.blt d n.sz = true := by rfl) (hd2 : Nat.blt d2 n.sz = true := by rfl) :
   LH P n w0 ops Q X D L e (⟨some d,.buildSlice T 1 #[(0,y)],ty,pos,af,none⟩ :: ⟨some d2,.call { callee := .builtin .append,args := #[x,.tmp d],argTypes := #[T,T] },ty2,pos2,af2,none⟩ :: rest) := fun F H hp =>
 LF.appA hT hE hs hz hy (hra F H hp.hin hp.hd hp.ok) (hp.at hk).1 hp.hin hb (hx _) (fun v' H' h1 h2 _ h3 => k v' _ (Gl.sv h1) F H' (hp.grow hk h1 h2 h3)) (hp1 hp hk) hd1 hd2
theorem japv (hT : P.underlying T = some (.slice E)) (hE : (P.info? E).map (fun i => (i.zero,i.size,i.bytes)) = some (some z,r.sz,bytes)) (hs : 0 < r.sz ∧ r.sz ≤ 1000 ∧ bytes ≤ 8192) (hz : z.cells.size = r.sz) (hs1 : r.sz = 1)
   (hk : Tk L (gl B r E v l) M) (hy : ev e y = some u) (hra : Nd D L (dv r u a)) (hb : l.length < 4294967295) (hx : ∀ w,ev ((d,w) :: e) x = some v)
   (k : ∀ v' g,Sv v' → LH P n w0 ops Q X D (gl B r E v' (l ++ [a]) :: M) ((d2,v') :: (d,.slice (some ⟨g,0,none⟩) 1 1) :: e) rest) (hd1 : Nat.blt d n.sz = true := by rfl) (hd2 : Nat.blt d2 n.sz = true := by rfl) :
   LH P n w0 ops Q X D L e (⟨some d,.buildSlice T 1 #[(0,y)],ty,pos,af,none⟩ :: ⟨some d2,.call { callee := .builtin .append,args := #[x,.tmp d],argTypes := #[T,T] },ty2,pos2,af2,none⟩ :: rest) := fun F H hp =>
 LF.appV hT hE hs hz hs1 hy (hra F H hp.hin hp.hd hp.ok) (hp.at hk).1 hp.hin hb (hx _) (fun v' H' h1 h2 _ h3 => k v' _ (Gl.sv h1) F H' (hp.grow hk h1 h2 h3)) (hp1 hp hk) hd1 hd2
theorem japl {w2 : Value} {m : List α} {N : Nat} (hT : P.underlying T = some (.slice E)) (hE : (P.info? E).map (fun i => (i.zero,i.size,i.bytes)) = some (some z,r.sz,bytes)) (hs : 0 < r.sz ∧ r.sz ≤ 1000 ∧ bytes ≤ 8192) (hz : z.cells.size = r.sz)
   (hk : Tk L (gl B r E v l) M) (hx : ev e x = some v) (hy : ev e y = some w2) (hm : Nd D L (dv (rLn N r) w2 m)) (hb : l.length + m.length < 4294967296)
   (k : ∀ v',Sv v' → LH P n w0 ops Q X D (gl B r E v' (l ++ m) :: M) ((d,v') :: e) rest) (hd1 : Nat.blt d n.sz = true := by rfl) :
   LH P n w0 ops Q X D L e (⟨some d,.call { callee := .builtin .append,args := #[x,y],argTypes := #[T,T] },ty,pos,af,none⟩ :: rest) := fun F H hp =>
 LF.chg (OpCh.appL hT hE hs hz hx hy (hp.at hk).1 (hm F H hp.hin hp.hd hp.ok) hp.hin hb (hp1 hp hk)) (by rintro v' H' ⟨h1,h2,h3⟩; exact k v' (Gl.sv h1) F H' (hp.grow hk h1 h2 (ob_some h3))) hd1
theorem japvz (hT : P.underlying T = some (.slice E)) (hE : (P.info? E).map (fun i => (i.zero,i.size,i.bytes)) = some (some z,r.sz,bytes)) (hs : 0 < r.sz ∧ r.sz ≤ 1000 ∧ bytes ≤ 8192) (hz : z.cells.size = r.sz) (hs1 : r.sz = 1)
   (hk : Tk L (gl B r E v []) M) (hy : ev e y = some u) (hra : Nd D L (dv r u a)) (hx : ∀ w,ev ((d,w) :: e) x = some v)
   (k : ∀ v' g,Sv v' → LH P n w0 ops Q X D (gl B r E v' [a] :: M) ((d2,v') :: (d,.slice (some ⟨g,0,none⟩) 1 1) :: e) rest) (hd1 : Nat.blt d n.sz = true := by rfl) (hd2 : Nat.blt d2 n.sz = true := by rfl) :
   LH P n w0 ops Q X D L e (⟨some d,.buildSlice T 1 #[(0,y)],ty,pos,af,none⟩ :: ⟨some d2,.call { callee := .builtin .append,args := #[x,.tmp d],argTypes := #[T,T] },ty2,pos2,af2,none⟩ :: rest) := japv hT hE hs hz hs1 hk hy hra (Nat.lt_of_sub_eq_succ rfl) hx k hd1 hd2
theorem japlz {w2 : Value} {m : List α} {N : Nat} (hT : P.underlying T = some (.slice E)) (hE : (P.info? E).map (fun i => (i.zero,i.size,i.bytes)) = some (some z,r.sz,bytes)) (hs : 0 < r.sz ∧ r.sz ≤ 1000 ∧ bytes ≤ 8192) (hz : z.cells.size = r.sz)
   (hk : Tk L (gl B r E v []) M) (hx : ev e x = some v) (hy : ev e y = some w2) (hm : Nd D L (dv (rLn N r) w2 m)) (hb : m.length < 4294967296)
   (k : ∀ v',Sv v' → LH P n w0 ops Q X D (gl B r E v' m :: M) ((d,v') :: e) rest) (hd1 : Nat.blt d n.sz = true := by rfl) :
   LH P n w0 ops Q X D L e (⟨some d,.call { callee := .builtin .append,args := #[x,y],argTypes := #[T,T] },ty,pos,af,none⟩ :: rest) := japl hT hE hs hz hk hx hy hm (by simpa using hb) k hd1
theorem Hp.freeze {F : PH} {H : Heap} {N : Nat} (hp : Hp X D L F H) (hk : Tk L (gl X.n r E v l) M) (hM : l.length < N) : ∃ G,Hp X (dv (rLn N r) v l :: D) M G H := by
 obtain ⟨o1,o2,o3⟩ := hk.ok hp.ok
 have o1' : Gl r E F H X.n v l := o1.1
 obtain ⟨G,h1,h2,h3,h4,h5⟩ := o1'.freeze (N := N) hp.hin hM
 have h6 : ∀ k,Own M k → G k = F k := fun k hk1 => h4 k (fun e1 => o2 k e1 hk1)
 exact ⟨G,⟨⟨hp.hx.1.trans h1,fun k hk1 => (h3 k hk1).trans (hp.hx.2 k hk1)⟩,h2,hp.hw,⟨h5,hp.hd.up h1⟩,o3.st h1 (Nat.le_refl _) (fun k hk1 => (h6 k hk1).trans (o3.no hk1)) (fun _ _ => rfl),fun k hk1 => hp.ge k (hk.own (.inr hk1))⟩⟩
theorem jfz (hk : Tk L (gl X.n r E v l) M) (hM : l.length < 1073741824) (k : LH P n w0 ops Q X (dv (rL r) v l :: D) M e rest) : LH P n w0 ops Q X D L e rest := fun F H hp => by
 obtain ⟨G,h⟩ := hp.freeze hk hM; exact k G H h
theorem qfz {x : Exit} (hk : Tk L (gl X.n r E v l) M) (hM : l.length < 1073741824) (k : QH n w0 Q X (dv (rL r) v l :: D) M e x) : QH n w0 Q X D L e x := fun F H hp => by
 obtain ⟨G,h⟩ := hp.freeze hk hM; exact k G H h
end
end Go.JE
namespace Go.JE
variable {P : Program} {D D0 : List Dt} {L M Ls L0 : List Res} {e : Env} {X : Cx} {n : Fs} {w0 : World} {Q : Exit → Act → World → Prop}
def Ap {α : Type} (A M N : List α) : Prop := A ++ M = N
section
variable {α : Type} {a b c d f g : α} {M : List α}
theorem p0 : Ap [] M M := rfl
theorem p1 : Ap [a] M (a :: M) := rfl
theorem p2 : Ap [a,b] M (a :: b :: M) := rfl
theorem p3 : Ap [a,b,c] M (a :: b :: c :: M) := rfl
theorem p4 : Ap [a,b,c,d] M (a :: b :: c :: d :: M) := rfl
theorem p5 : Ap [a,b,c,d,f] M (a :: b :: c :: d :: f :: M) := rfl
theorem p6 : Ap [a,b,c,d,f,g] M (a :: b :: c :: d :: f :: g :: M) := rfl
end
abbrev Tv (P : Program) (f : FuncId) (args : Array Value) (D0 : List Dt) (L0 : List Res) (v : Value) : Prop := Tr P f args D0 L0 (fun _ : Unit => v) (fun _ => []) (fun _ _ => [])
abbrev Td {α : Type} (P : Program) (f : FuncId) (args : Array Value) (D0 : List Dt) (L0 : List Res) (r : Rp α) (a : α) : Prop := Tr P f args D0 L0 (fun v : Value => v) (fun v => [dv r v a]) (fun _ _ => [])
abbrev Tg {α : Type} (P : Program) (f : FuncId) (args : Array Value) (D0 : List Dt) (L0 : List Res) (r : Rp α) (T : TypeId) (a : List α) : Prop := Tr P f args D0 L0 (fun v : Value => v) (fun _ => []) (fun B v => [gl B r T v a])
section
variable {ops : Array Oper} {d : Nat} {ty : TypeId} {pos : String} {af : Array Edge} {rest : List Oper} {f : FuncId} {g : Operand} {xs : List Operand} {vs cs : List Value} {ts : Array TypeId} {ι : Type} {val : ι → Value} {dr : ι → List Dt} {lr : Nat → ι → List Res} {Dn : ι → List Dt} {Ln : ι → List Res} {v : Value} {args0 : Array Value}
theorem Tr.run {F : PH} {H : Heap} {args : Array Value} (h : Tr P f args D0 L0 val dr lr) (hp : Hp X D L F H) (hd : Sd D L D0) (hk : Tks L L0 M) : Ct P f args H (fun v H' => ∃ i F',v = val i ∧ Hp X (dr i ++ D) (lr X.n i ++ M) F' H') :=
 (h F H hp.hin (hd F H hp.hin hp.hd hp.ok) (hk.ok hp.ok).1).mono fun v H' ⟨i,F',h1,h2⟩ => ⟨i,F',h1,(fun h2 => hp.frame hk h2.hx h2.hin h2.hw h2.hd h2.ok h2.ge) (h2 X.n hp.hw.1)⟩
theorem Tr.fr {L1 M1 : List Res} (h : Tr P f args0 D0 L0 val dr lr) (hk : Tks L1 L0 M1) : Tr P f args0 D0 L1 val dr (fun B i => lr B i ++ M1) := fun F H hin hd ho =>
 (h F H hin hd (hk.ok ho).1).mono fun v H' ⟨i,F',h1,h2⟩ => ⟨i,F',h1,fun B hB => by
   have h3 := (⟨PH.ext.refl F,hin,Kw.refl _ _,hd,ho,fun k hk => .inr hk⟩ : Hp ⟨Own L1,H,F⟩ D0 L1 F H)
   have h4 := h2 B hB
   have h5 := h3.frame hk h4.hx h4.hin h4.hw h4.hd h4.ok h4.ge
   exact ⟨h5.hx,h5.hin,h5.hw,h4.hd,h5.ok,h5.ge⟩⟩
theorem jc (hE : Ent P f) (hf : ev e g = some (.func (.func f) #[] cs.toArray)) (hl : evl e xs = some vs) (hT : Tr P f (vs ++ cs).toArray D0 L0 val dr lr) (hd : Sd D L D0) (hk : Tks L L0 M) (hp : ∀ i,Ap (dr i) D (Dn i)) (hq : ∀ i,Ap (lr X.n i) M (Ln i))
   (k : ∀ i,LH P n w0 ops Q X (Dn i) (Ln i) ((d,val i) :: e) rest) (hd1 : Nat.blt d n.sz = true := by rfl) : LH P n w0 ops Q X D L e (⟨some d,.call { callee := .value g,args := xs.toArray,argTypes := ts },ty,pos,af,none⟩ :: rest) := fun F H h =>
 LF.call (OpCall.fnc hE hf hl) (hT.run h hd hk) (by rintro _ H' ⟨i,F',rfl,h2⟩; exact k i F' H' (hp i ▸ hq i ▸ h2)) hd1
theorem jcv (hE : Ent P f) (hf : ev e g = some (.func (.func f) #[] cs.toArray)) (hl : evl e xs = some vs) (hT : Tv P f (vs ++ cs).toArray D0 L0 v) (hd : Sd D L D0) (hk : Tks L L0 M)
   (k : LH P n w0 ops Q X D M ((d,v) :: e) rest) (hd1 : Nat.blt d n.sz = true := by rfl) : LH P n w0 ops Q X D L e (⟨some d,.call { callee := .value g,args := xs.toArray,argTypes := ts },ty,pos,af,none⟩ :: rest) := jc hE hf hl hT hd hk (fun _ => rfl) (fun _ => rfl) (fun _ => k) hd1
theorem jcd {α : Type} {r : Rp α} {N : Nat} {a : List α} (hE : Ent P f) (hf : ev e g = some (.func (.func f) #[] cs.toArray)) (hl : evl e xs = some vs) (hT : Td P f (vs ++ cs).toArray D0 L0 (rLn N r) a) (hd : Sd D L D0) (hk : Tks L L0 M)
   (k : ∀ v,Qn N a.length → Sv v → LH P n w0 ops Q X (dv (rLn N r) v a :: D) M ((d,v) :: e) rest) (hd1 : Nat.blt d n.sz = true := by rfl) : LH P n w0 ops Q X D L e (⟨some d,.call { callee := .value g,args := xs.toArray,argTypes := ts },ty,pos,af,none⟩ :: rest) :=
 jc hE hf hl hT hd hk (fun _ => rfl) (fun _ => rfl) (fun v => jdq d0 (k v)) hd1
theorem jcg {α : Type} {r : Rp α} {T : TypeId} {a : List α} (hE : Ent P f) (hf : ev e g = some (.func (.func f) #[] cs.toArray)) (hl : evl e xs = some vs) (hT : Tg P f (vs ++ cs).toArray D0 L0 r T a) (hd : Sd D L D0) (hk : Tks L L0 M)
   (k : ∀ v,Sv v → LH P n w0 ops Q X D (gl X.n r T v a :: M) ((d,v) :: e) rest) (hd1 : Nat.blt d n.sz = true := by rfl) : LH P n w0 ops Q X D L e (⟨some d,.call { callee := .value g,args := xs.toArray,argTypes := ts },ty,pos,af,none⟩ :: rest) :=
 jc hE hf hl hT hd hk (fun _ => rfl) (fun _ => rfl) (fun v => jgo k0 (k v)) hd1
theorem jgc {j t : Nat} {want B : Bool} {u : Value} {N : List Res} (hj : (ops[j]?).bind (·.dst) = some t) (hu : lk e t = some u) (hB : Gd u want B) (hE : Ent P f) (hf : ev e g = some (.func (.func f) #[] cs.toArray)) (hl : B = true → evl e xs = some vs) (hT : B = true → Tr P f (vs ++ cs).toArray D0 L0 (fun _ : Unit => v) (fun _ => []) (fun _ _ => L0)) (hd : B = true → Sd D L D0) (hk : Tks L L0 M) (hq : Ap L0 M N)
   (k : LH P n w0 ops Q X D N ((d,gv B v) :: e) rest) (hd1 : Nat.blt d n.sz = true := by rfl) (ht : Nat.blt t n.sz = true := by rfl) : LH P n w0 ops Q X D L e (⟨some d,.call { callee := .value g,args := xs.toArray,argTypes := ts },ty,pos,af,some (j,want)⟩ :: rest) := fun F H h => by
 refine LF.gcallF hj hu hB (fun hb => OpCall.fnc hE hf (hl hb)) (fun hb => (hT hb).run h (hd hb) hk) (fun v' H' hz => ?_) hd1 ht
 rcases hz with ⟨hb,i,F',rfl,h2⟩ | ⟨hb,rfl⟩
 · exact k F' H' (hq ▸ h2)
 · subst hb
   refine k F H' (hq ▸ ⟨h.hx,h.hin,h.hw,h.hd,?_,fun k h1 => h.ge k (hk.own (Own.app.1 h1))⟩)
   obtain ⟨a,b,c⟩ := hk.ok h.ok
   exact Ok.app a b c
end
section
variable {f : FuncId} {args : Array Value} {α β : Type} {r : Rp α} {T T2 : TypeId} {v x : Value} {l : List α} {N B : Nat}
theorem Hp.less {F G F' : PH} {H H' : Heap} {W : Nat → Prop} {D L} (h : Hp ⟨W,H,G⟩ D L F' H') (hin : InH F H) (hl : F.le G) : PH.ext H F F ∧ InH F H' ∧ Kw W H H' := ⟨PH.ext.refl F,h.hin.down (hl.trans h.hx.1),h.hw⟩
theorem Tv.temp (N : Nat) (h : Tv P f args (dv (rLn N r) v l :: D0) [] x) (hN : l.length < N) : Tr P f args D0 [gl B r T v l] (fun _ : Unit => x) (fun _ => []) (fun _ _ => [gl B r T v l]) := fun F H hin hd ho => by
 obtain ⟨G,g1,g2,g3,g4,g5⟩ := ho.1.1.freeze (N := N) hin hN
 refine (h G H g2 ⟨g5,hd.up g1⟩ trivial).mono ?_
 rintro _ H' ⟨i,F',rfl,h2⟩
 refine ⟨i,F,rfl,fun B' hB => ?_⟩
 have h3 := h2 0 (Nat.zero_le _)
 obtain ⟨a,b,c⟩ := h3.less hin g1
 refine ⟨a,b,⟨c.1,fun k hk hn => c.2 k hk id⟩,trivial,⟨⟨ho.1.1.of fun k hk => c.2 k (ho.1.1.lt k hk) id,Nat.le_trans ho.1.2 c.1⟩,fun _ _ => id,trivial⟩,fun k hk => .inr hk⟩
theorem Tr.dd {D2 : List Dt} {L0 : List Res} {ι : Type} {val : ι → Value} {dr : ι → List Dt} {lr : Nat → ι → List Res} (h : Tr P f args D0 L0 val dr lr) (hd : ∀ {F : PH},AllD F D2 → AllD F D0) : Tr P f args D2 L0 val dr lr := fun F H hin hD ho => h F H hin (hd hD) ho
theorem Tv.temp1 {d0 : Dt} (N : Nat) (h : Tv P f args (d0 :: dv (rLn N r) v l :: D0) [] x) (hN : l.length < N) : Tr P f args (d0 :: D0) [gl B r T v l] (fun _ : Unit => x) (fun _ => []) (fun _ _ => [gl B r T v l]) := Tv.temp N (h.dd fun ⟨a,b,c⟩ => ⟨b,a,c⟩) hN
theorem Tg.temp {k : IntKind} {m : List Int} (N : Nat) (h : Tg P f args (dv (rLn N r) v l :: D0) [] (rI k) T2 m) (hN : l.length < N) : Tr P f args D0 [gl B r T v l] (fun v : Value => v) (fun _ => []) (fun B' u => [gl B' (rI k) T2 u m,gl B r T v l]) := fun F H hin hd ho => by
 obtain ⟨G,g1,g2,g3,g4,g5⟩ := ho.1.1.freeze (N := N) hin hN
 refine (h G H g2 ⟨g5,hd.up g1⟩ trivial).mono ?_
 rintro u H' ⟨_,F',rfl,h2⟩
 refine ⟨u,F,rfl,fun B' hB => ?_⟩
 have h3 := h2 B' hB
 obtain ⟨a,b,c⟩ := h3.less hin g1
 have hu : ∀ k,u.ownBlock = some k → H.size ≤ k := fun k hk => (h3.ge k (.inl hk)).resolve_right id
 refine ⟨a,b,⟨c.1,fun k hk hn => c.2 k hk id⟩,trivial,⟨⟨h3.ok.1.1.flatI (g1.trans h3.hx.1),h3.ok.1.2⟩,fun k hk ho' => ?_,⟨ho.1.1.of fun k hk => c.2 k (ho.1.1.lt k hk) id,Nat.le_trans ho.1.2 c.1⟩,fun _ _ => id,trivial⟩,fun k hk => ?_⟩
 · have h4 := ho.1.1.lt k (ho'.resolve_right id)
   have h5 := hu k hk
   omega
 · rcases hk with hk | hk
   · exact .inl (hu k hk)
   · exact .inr hk
end
section
variable {fn : Func} {m : Nat} {ι : Type} {val : ι → Value} {dr : ι → List Dt} {lr : Nat → ι → List Res} {t u z : Nat} {v v' v'' : Value}
theorem jr1 (hr : fn.results = #[.tmp t]) (hv : lk e t = some v) (i : ι) (hm : v = val i) (hd : Sd D L (dr i)) (hk : ∀ B,B ≤ X.n → Tks L (lr B i) M) : QH ⟨m,[]⟩ w0 (RQ2 P fn w0 X val dr lr) X D L e .ret := fun F H hp => PF.ret1 hr hv ⟨i,F,hm,fun B hB => hp.sub hd (hk B hB)⟩
theorem jr0 (hr : fn.results = #[]) (i : ι) (hm : .tuple #[] = val i) (hd : Sd D L (dr i)) (hk : ∀ B,B ≤ X.n → Tks L (lr B i) M) : QH ⟨m,[]⟩ w0 (RQ2 P fn w0 X val dr lr) X D L e .ret := fun F H hp => PF.ret0 hr ⟨i,F,hm,fun B hB => hp.sub hd (hk B hB)⟩
theorem jd0 (hr : fn.results = #[]) (i : ι) (hm : .tuple #[] = val i) (hd : Sd D L (dr i)) (hk : ∀ B,B ≤ X.n → Tks L (lr B i) M) : QH ⟨m,[]⟩ w0 (RQ2 P fn w0 X val dr lr) X D L e .normal := fun F H hp => PF.end0 hr ⟨i,F,hm,fun B hB => hp.sub hd (hk B hB)⟩
theorem jr2 (hr : fn.results = #[.tmp t,.tmp u]) (hv : lk e t = some v) (hv' : lk e u = some v') (i : ι) (hm : .tuple #[v,v'] = val i) (hd : Sd D L (dr i)) (hk : ∀ B,B ≤ X.n → Tks L (lr B i) M) : QH ⟨m,[]⟩ w0 (RQ2 P fn w0 X val dr lr) X D L e .ret := fun F H hp => PF.ret2 hr hv hv' ⟨i,F,hm,fun B hB => hp.sub hd (hk B hB)⟩
theorem jrc {p g : Nat} {ty T : TypeId} {cs : List Value} {N : List Res} (hr : fn.results = #[.cell p ty]) (hv : lk e p = some (.pointer (some ⟨g,0,none⟩))) (hb : Tk L (bx g T cs) N) (hA : ∃ d,P.underlying ty = some d ∧ (match d with | .struct _ | .array _ _ => true | _ => false) = true) (hS : Sz P ty cs.length)
   (i : ι) (hm : .agg cs.toArray = val i) (hd : Sd D L (dr i)) (hk : ∀ B,B ≤ X.n → Tks L (lr B i) M) : QH ⟨m,[]⟩ w0 (RQ2 P fn w0 X val dr lr) X D L e .ret := fun F H hp => PF.retC hr hv (hp.at hb).1 hA hS ⟨i,F,hm,fun B hB => hp.sub hd (hk B hB)⟩
theorem jrI {k : IntKind} {a b : Int} (hr : fn.results = #[.tmp t]) (hv : lk e t = some (.int k b)) (hm : a = b) : QH ⟨m,[]⟩ w0 (RQ2 P fn w0 X (fun _ : Unit => .int k a) (fun _ => []) (fun _ _ => [])) X D L e .ret := jr1 hr hv () (by rw [hm]) dn (fun _ _ => kn)
theorem jrB {a b : Bool} (hr : fn.results = #[.tmp t]) (hv : lk e t = some (.bool b)) (hm : a = b) : QH ⟨m,[]⟩ w0 (RQ2 P fn w0 X (fun _ : Unit => .bool a) (fun _ => []) (fun _ _ => [])) X D L e .ret := jr1 hr hv () (by rw [hm]) dn (fun _ _ => kn)
theorem jrS {a b : ByteArray} (hr : fn.results = #[.tmp t]) (hv : lk e t = some (.string b)) (hm : a = b) : QH ⟨m,[]⟩ w0 (RQ2 P fn w0 X (fun _ : Unit => .string a) (fun _ => []) (fun _ _ => [])) X D L e .ret := jr1 hr hv () (by rw [hm]) dn (fun _ _ => kn)
theorem jrD {α : Type} {r : Rp α} {a b : α} (hr : fn.results = #[.tmp t]) (hv : lk e t = some v) (hm : a = b) (hd : Nd D L (dv r v b)) : QH ⟨m,[]⟩ w0 (RQ2 P fn w0 X (fun v : Value => v) (fun v => [dv r v a]) (fun _ _ => [])) X D L e .ret := jr1 hr hv v rfl (dc (dcast hm hd) dn) (fun _ _ => kn)
theorem kl {α : Type} {r : Rp α} {T : TypeId} {B : Nat} {l : List α} {N : List Res} (hB : B ≤ X.n) (h : Tk L (gl X.n r T v l) M) (h' : Tks M Ls N) : Tks L (gl B r T v l :: Ls) N where
 ok := fun o => by
   obtain ⟨⟨a,b,c⟩,x,y⟩ := (kc h h').ok o
   exact ⟨⟨⟨a.1.base hB,Nat.le_trans hB a.2⟩,b,c⟩,x,y⟩
 own := fun o => (kc h h').own o
theorem klc {α : Type} {r : Rp α} {T : TypeId} {B : Nat} {l l' : List α} {N : List Res} (e : l' = l) (hB : B ≤ X.n) (h : Tk L (gl X.n r T v l) M) (h' : Tks M Ls N) : Tks L (gl B r T v l' :: Ls) N := e ▸ kl hB h h'
theorem jrG {α : Type} {r : Rp α} {T : TypeId} {a b : List α} (hr : fn.results = #[.tmp t]) (hv : lk e t = some v) (hm : a = b) (hk : Tk L (gl X.n r T v b) M) : QH ⟨m,[]⟩ w0 (RQ2 P fn w0 X (fun v : Value => v) (fun _ => []) (fun B v => [gl B r T v a])) X D L e .ret := jr1 hr hv v rfl dn (fun _ hB => klc hm hB hk kn)
end
end Go.JE
namespace Go.JE
variable {P : Program} {D D0 : List Dt} {L M Ls L0 : List Res} {e : Env} {X : Cx} {n : Fs} {w0 : World} {Q : Exit → Act → World → Prop}
structure Sr {α β : Type} (r : Rp α) (val : α → β → Value) : Prop where
 op : ∀ {F : PH} {v : Value} {m : α},r.ra F v m → ∃ c,v = val m c
theorem leaf1 {α : Type} {r : Rp α} {F : PH} {a : α} {g : Nat → Value} {c : Value} (hs : r.sz = 1) (h : r.ok F a g) (e : g 0 = c) : r.rv F c a := r.ext (fun i hi => by rw [show i = 0 by omega]; exact e) h
abbrev Ts {α β : Type} (P : Program) (f : FuncId) (args : Array Value) (D0 : List Dt) (L0 : List Res) (r : Rp α) (val : α → β → Value) (a : α) : Prop := Tr P f args D0 L0 (fun c : β => val a c) (fun c => [da r (val a c) a]) (fun _ _ => [])
section
variable {ops : Array Oper} {op : Op} {d : Nat} {ty : TypeId} {pos : String} {af : Array Edge} {rest : List Oper} {K : Act → World → Prop} {α β : Type} {r : Rp α} {val : α → β → Value} {a b : α} {f : FuncId} {g : Operand} {xs : List Operand} {vs cs : List Value} {ts : Array TypeId}
theorem jA (hs : Sr r val) (h : OE P D L e op (fun v F => (da r v a).sat F)) (k : ∀ c,LH P n w0 ops Q X (da r (val a c) a :: D) L ((d,val a c) :: e) rest) (hd : Nat.blt d n.sz = true := by rfl) : LH P n w0 ops Q X D L e (⟨some d,op,ty,pos,af,none⟩ :: rest) := fun F H hp => by
 obtain ⟨v,h1,h2⟩ := h F H hp.hin hp.hd hp.ok
 obtain ⟨c,rfl⟩ := hs.op h2
 exact LF.step h1 (k c F H (hp.datum h2)) hd
theorem jA4 {val : α → Value × Value × Value × Value → Value} (hs : Sr r val) (h : OE P D L e op (fun v F => (da r v a).sat F)) (k : ∀ c0 c1 c2 c3,LH P n w0 ops Q X (da r (val a (c0,c1,c2,c3)) a :: D) L ((d,val a (c0,c1,c2,c3)) :: e) rest) (hd : Nat.blt d n.sz = true := by rfl) : LH P n w0 ops Q X D L e (⟨some d,op,ty,pos,af,none⟩ :: rest) := jA hs h (fun c => k c.1 c.2.1 c.2.2.1 c.2.2.2) hd
theorem jcs (hE : Ent P f) (hf : ev e g = some (.func (.func f) #[] cs.toArray)) (hl : evl e xs = some vs) (hT : Ts P f (vs ++ cs).toArray D0 L0 r val a) (hd : Sd D L D0) (hk : Tks L L0 M)
   (k : ∀ c,LH P n w0 ops Q X (da r (val a c) a :: D) M ((d,val a c) :: e) rest) (hd1 : Nat.blt d n.sz = true := by rfl) : LH P n w0 ops Q X D L e (⟨some d,.call { callee := .value g,args := xs.toArray,argTypes := ts },ty,pos,af,none⟩ :: rest) :=
 jc hE hf hl hT hd hk (fun _ => rfl) (fun _ => rfl) k hd1
theorem jcs2 {val : α → Value × Value → Value} (hE : Ent P f) (hf : ev e g = some (.func (.func f) #[] cs.toArray)) (hl : evl e xs = some vs) (hT : Ts P f (vs ++ cs).toArray D0 L0 r val a) (hd : Sd D L D0) (hk : Tks L L0 M) (k : ∀ c0 c1,LH P n w0 ops Q X (da r (val a (c0,c1)) a :: D) M ((d,val a (c0,c1)) :: e) rest) (hd1 : Nat.blt d n.sz = true := by rfl) : LH P n w0 ops Q X D L e (⟨some d,.call { callee := .value g,args := xs.toArray,argTypes := ts },ty,pos,af,none⟩ :: rest) := jcs hE hf hl hT hd hk (fun c => k c.1 c.2) hd1
theorem jcs3 {val : α → Value × Value × Value → Value} (hE : Ent P f) (hf : ev e g = some (.func (.func f) #[] cs.toArray)) (hl : evl e xs = some vs) (hT : Ts P f (vs ++ cs).toArray D0 L0 r val a) (hd : Sd D L D0) (hk : Tks L L0 M) (k : ∀ c0 c1 c2,LH P n w0 ops Q X (da r (val a (c0,c1,c2)) a :: D) M ((d,val a (c0,c1,c2)) :: e) rest) (hd1 : Nat.blt d n.sz = true := by rfl) : LH P n w0 ops Q X D L e (⟨some d,.call { callee := .value g,args := xs.toArray,argTypes := ts },ty,pos,af,none⟩ :: rest) := jcs hE hf hl hT hd hk (fun c => k c.1 c.2.1 c.2.2) hd1
variable {fn : Func} {m t : Nat} {c : β}
theorem jrcA {p g : Nat} {ty T : TypeId} {cs : List Value} (hr : fn.results = #[.cell p ty]) (hv : lk e p = some (.pointer (some ⟨g,0,none⟩))) (hb : Tk L (bx g T cs) M) (hA : ∃ d,P.underlying ty = some d ∧ (match d with | .struct _ | .array _ _ => true | _ => false) = true) (hS : Sz P ty cs.length)
   (he : .agg cs.toArray = val b c) (hm : a = b) (hd : Nd D L (da r (val b c) b)) : QH ⟨m,[]⟩ w0 (RQ2 P fn w0 X (fun c : β => val a c) (fun c => [da r (val a c) a]) (fun _ _ => [])) X D L e .ret := by
 subst hm; exact jrc hr hv hb hA hS c he (dc hd dn) (fun _ _ => kn)
end
section
variable {k k' k'' : IntKind} {a b c : Int} {p q s : Bool}
theorem tII {x : Int × Int} (h : x = (a,b)) : (.tuple #[.int k a,.int k' b] : Value) = .tuple #[.int k x.1,.int k' x.2] := by rw [h]
theorem tIB {x : Int × Bool} (h : x = (a,p)) : (.tuple #[.int k a,.bool p] : Value) = .tuple #[.int k x.1,.bool x.2] := by rw [h]
end
end Go.JE
namespace Go.JE
variable {P : Program} {D D0 : List Dt} {L M Ls L0 : List Res} {e : Env} {X : Cx} {n : Fs} {w0 : World} {Q : Exit → Act → World → Prop}
def im (g : Nat) (l : List (Int × Value)) : Res where
 sat F H := Im H g l ∧ F g = none
 own k := k = g
 lt := fun h e => e ▸ h.1.lt
 no := fun h e => e ▸ h.2
 st := fun _ _ h1 h2 h => ⟨h.1.of (h2 g rfl),h1 g rfl⟩
section
variable {ops : Array Oper} {op : Op} {d : Nat} {ty : TypeId} {pos : String} {af : Array Edge} {rest : List Oper} {T T' K E : TypeId} {x y z : Operand} {g : Nat} {l : List (Int × Value)} {k : Int} {v u : Value} {b : Bool}
theorem jmm (kk : ∀ g,LH P n w0 ops Q X D (im g [] :: L) ((d,.map (some g)) :: e) rest) (hd : Nat.blt d n.sz = true := by rfl) : LH P n w0 ops Q X D L e (⟨some d,.makeMap T none,ty,pos,af,none⟩ :: rest) := fun F H hp =>
 LF.chg OpCh.makeMapB (by rintro _ H' ⟨g,rfl,eg,sg,kg,hb⟩; exact kk g F H' (hp.new (R := im g []) kg ⟨hb,hp.hin.nope (Nat.le_of_eq eg.symm)⟩ (fun k hk => by have : k = g := hk; omega))) hd
theorem Tw.kwm {H H' : Heap} (h : Tw g H H') : Kw (im g l).own H H' := ⟨Nat.le_of_eq h.1.symm,fun k _ h2 => h.2 k h2⟩
theorem jin {l' : List (Int × Value)} (hT : P.underlying T = some (.map K E)) (hK : P.underlying K = some (.int .i64)) (hm : Tk L (im g l) M) (hx : ev e x = some (.map (some g))) (hi : ev e z = some (.int .i64 k)) (hy : ev e y = some v) (hu : upM l k v = l')
   (kk : LH P n w0 ops Q X D (im g l' :: M) e rest) : LH P n w0 ops Q X D L e (⟨none,.insert T x z y,ty,pos,af,none⟩ :: rest) := fun F H hp =>
 LF.chg0 (OpCh.insert hT hK (hp.at hm).1 hx hi hy) (by rintro _ H' ⟨m,t⟩; exact kk F H' (hp.set (R' := im g l') hm t.kwm ⟨hu ▸ m,(hp.at hm).2⟩ (fun k h => .inr h)))
theorem jup {l' : List (Int × Value)} (hT : P.underlying T = some (.map K E)) (hK : P.underlying K = some (.int .i64)) (hm : Tk L (im g l) M) (hx : ev e x = some (.map (some g))) (hi : ev e z = some (.int .i64 k)) (hy : ev e y = some v) (hu : upM l k v = l')
   (kk : LH P n w0 ops Q X D (im g l' :: M) e rest) : LH P n w0 ops Q X D L e (⟨none,.mapUpdate T x z y,ty,pos,af,none⟩ :: rest) := fun F H hp =>
 LF.chg0 (OpCh.mapUpdate hT hK (hp.at hm).1 hx hi hy) (by rintro _ H' ⟨m,t⟩; exact kk F H' (hp.set (R' := im g l') hm t.kwm ⟨hu ▸ m,(hp.at hm).2⟩ (fun k h => .inr h)))
theorem jlk (hT : P.underlying T = some (.map K E)) (hK : P.underlying K = some (.int .i64)) (hz : (P.info? E).bind (·.zero) = some u) (hm : Tk L (im g l) M) (hx : ev e x = some (.map (some g))) (hi : ev e z = some (.int .i64 k)) : OH P D L e (.lookup T x z false) ((lkM l k).getD u) := fun F H _ _ h => OpOk.lookup hT hK hz (hm.ok h).1.1 hx hi
theorem jlko (hT : P.underlying T = some (.map K E)) (hK : P.underlying K = some (.int .i64)) (hz : (P.info? E).bind (·.zero) = some u) (hm : Tk L (im g l) M) (hx : ev e x = some (.map (some g))) (hi : ev e z = some (.int .i64 k)) : OH P D L e (.lookup T x z true) (.tuple #[(lkM l k).getD u,.bool (lkM l k).isSome]) := fun F H _ _ h => OpOk.lookupOk hT hK hz (hm.ok h).1.1 hx hi
theorem jfk {p : Value → Prop} (h : ∃ v,OH P D L e op v ∧ p v) (kk : ∀ v,p v → LH P n w0 ops Q X D L ((d,v) :: e) rest) (hd : Nat.blt d n.sz = true := by rfl) : LH P n w0 ops Q X D L e (⟨some d,op,ty,pos,af,none⟩ :: rest) := by
 obtain ⟨v,h1,h2⟩ := h; exact js h1 (kk v h2) hd
theorem jeb {r : Bool → Prop} (h : OE P D L e op (fun v _ => ∃ b,v = .bool b ∧ r b)) (kk : ∀ b,r b → LH P n w0 ops Q X D L ((d,.bool b) :: e) rest) (hd : Nat.blt d n.sz = true := by rfl) : LH P n w0 ops Q X D L e (⟨some d,op,ty,pos,af,none⟩ :: rest) := fun F H hp => by
 obtain ⟨v,h1,b,rfl,h2⟩ := h F H hp.hin hp.hd hp.ok; exact LF.step h1 (kk b h2 F H hp) hd
theorem jeqlNil {α : Type} {r : Rp α} {N : Nat} {l : List α} (hT : P.underlying T = some (.slice E)) (hs : Nd D L (dv (rLn N r) v l)) (hx : ev e x = some v) (hy : ev e y = some (.slice none 0 0)) (hr : 0 < r.sz := by exact Nat.le_of_ble_eq_true rfl) : OE P D L e (.binOp .eql T x y T') (fun v _ => ∃ b,v = .bool b ∧ (b = true → l = [])) := fun F H h1 h2 h3 => by
 obtain ⟨u,h4,b,h5,h6⟩ := OpOk.eqlNilS (T' := T') (H := H) hT (hs F H h1 h2 h3) hr hx hy
 exact ⟨u,h4,b,h5,h6⟩
end
section
variable {ops : Array Oper} {d d2 : Nat} {ty ty2 : TypeId} {pos pos2 : String} {af af2 : Array Edge} {rest : List Oper} {v u z : Value} {x y lx : Operand} {T E : TypeId} {i bytes B lo : Nat} {α : Type} {r : Rp α} {l : List α} {a : α} {k : IntKind} {I : Int}
theorem Wn.sv {F : PH} {H : Heap} (h : Wn r E F H B v l) : Sv v := by obtain ⟨g,o,cap,cur,h1,_⟩ := h; exact ⟨_,_,_,h1⟩
end
end Go.JE
namespace Go.JE
variable {P : Program} {D D0 Ds : List Dt} {L M Ls L0 : List Res} {e : Env} {X : Cx} {n : Fs} {w0 : World} {Q : Exit → Act → World → Prop}
def bxv (g : Nat) (T : TypeId) (i : Nat) (v : Value) : Res where
 sat F H := ∃ cs,(bx g T cs).sat F H ∧ cs[i]? = some v
 own k := k = g
 lt := fun ⟨_,h,_⟩ e => Res.lt _ h e
 no := fun ⟨_,h,_⟩ e => Res.no _ h e
 st := fun hl hs h1 h2 ⟨cs,h,e⟩ => ⟨cs,Res.st _ hl hs h1 h2 h,e⟩
theorem kcv {g i : Nat} {T : TypeId} {cs : List Value} {v : Value} {N : List Res} (h : Tk L (bx g T cs) M) (e : cs[i]? = some v) (h' : Tks M Ls N) : Tks L (bxv g T i v :: Ls) N where
 ok := fun o => by
   obtain ⟨⟨a,b,c⟩,x,y⟩ := (kc h h').ok o
   exact ⟨⟨⟨cs,a,e⟩,b,c⟩,x,y⟩
 own := fun o => (kc h h').own o
theorem jlv {g i : Nat} {T T' : TypeId} {v : Value} {x : Operand} (hk : Tk L (bxv g T i v) M) (hT : One P T') (hx : ev e x = some (.pointer (some ⟨g,i,none⟩))) : OH P D L e (.load T' x) v := fun F H _ _ h => by
 obtain ⟨cs,h1,h2⟩ := (hk.ok h).1
 exact OpOk.ldBx h1.1 hT hx h2
def SS (X : Cx) (FS : PH) (Ls : List Res) (H : Heap) : Prop := ∃ F,FS.le F ∧ Hp X [] Ls F H
inductive Od where
 | e
 | a (i : Nat) (o : Od)
 | o (i : Nat) (o : Od)
 | w (i j : Nat) (p q : Od)
 | w3 (i j k : Nat) (p q r : Od)
def Od.sz : Od → Nat
 | .e => 0
 | .a _ q => q.sz + 1
 | .o _ q => q.sz + 1
 | .w _ _ p _ => p.sz + 1
 | .w3 _ _ _ p _ _ => p.sz + 1
def okO (ops : Array Oper) (z : Bool) : Array Bool → Od → Bool
 | listed,.e => decide (Region.ready .any ops listed = []) && (!z || listed.all (fun b => b))
 | listed,.a i q => (Region.free .any ops listed i && ((Region.ready .any ops listed).contains i && (!z || waits ops listed i))) && okO ops z (listed.setIfInBounds i true) q
 | listed,.o i q => decide (Region.ready .any ops listed = [i]) && okO ops z (listed.setIfInBounds i true) q
 | listed,.w i j p q => decide (Region.ready .any ops listed = [i,j]) && (okO ops z (listed.setIfInBounds i true) p && (okO ops z (listed.setIfInBounds j true) q && p.sz == q.sz))
 | listed,.w3 i j k p q r => decide (Region.ready .any ops listed = [i,j,k]) && (okO ops z (listed.setIfInBounds i true) p && (okO ops z (listed.setIfInBounds j true) q && (okO ops z (listed.setIfInBounds k true) r && (p.sz == q.sz && p.sz == r.sz))))
def fsD (FS : PH) (Ds : List Dt) : Dt := ⟨fun F => FS.le F ∧ AllD FS Ds,fun hl h => ⟨h.1.trans hl,h.2⟩⟩
def AH (P : Program) (n : Fs) (w0 : World) (l : List Oper) (Q : Exit → Act → World → Prop) (z : Bool) (X : Cx) (FS : PH) (Ds : List Dt) (Ls : List Res) (is : Od) (D : List Dt) (L : List Res) (e : Env) : Prop :=
 ∀ F H,FS.le F → AllD FS Ds → Hp X D L F H → (SS X FS Ls H ∨ (z = true ∧ is = .e)) → Region.noSelect l.toArray = true → ∀ listed,okO l.toArray z listed is = true → AF P n w0 l.toArray Q z (SS X FS Ls) is.sz listed e H
def YQ (P : Program) (n : Fs) (w0 : World) (l : List Oper) (Q : Exit → Act → World → Prop) (z : Bool) (X : Cx) (FS : PH) (Ls : List Res) (is : Od) : Exit → Act → World → Prop
 | .normal,a,w => Region.noSelect l.toArray = true → ∀ listed,okO l.toArray z listed is = true → (SS X FS Ls w.heap ∨ (z = true ∧ is = .e)) ∧ AnyL P l.toArray (NoP Q) z (fun w => SS X FS Ls w.heap) is.sz listed a w
 | x,a,w => NoP Q x a w
theorem jany {id : Nat} {l : List Oper} (z : Bool) (is : Od) (hm : P.follows .mixedOrders = true) (hO : (okO l.toArray z (Array.replicate l.length false) is && (Region.noSelect l.toArray && decide (l.length = is.sz))) = true) (hk : Tks L Ls M)
   (h : ∀ FS,AH P n w0 l Q z X FS D Ls is D L e) : CH P n w0 Q X D L e (.region id l.toArray true) := fun F H hp => by
 simp only [Bool.and_eq_true,decide_eq_true_eq] at hO
 refine CF.any (z := z) (SS X F Ls) hm ?_
 have := h F F H (PH.le.refl F) hp.hd hp (.inl ⟨F,PH.le.refl F,hp.sub dn hk⟩) hO.2.1 _ hO.1
 rw [hO.2.2] at this ⊢
 exact this
section
variable {l : List Oper} {z : Bool} {is js : Od} {i d : Nat} {op : Op} {oi oj : Oper} {ty : TypeId} {pos : String} {af : Array Edge} {v : Value} {FS : PH}
theorem jyd (h : QH n w0 Q X D L e .normal) : AH P n w0 l Q z X FS Ds Ls .e D L e := fun F H h1 h2 hp hS hs listed hO => by
 simp only [okO,Bool.and_eq_true,decide_eq_true_eq] at hO
 exact AF.done hO.1 (h F H hp)
theorem SS.oh {H : Heap} (h : OH P Ds Ls e op v) (hd : AllD FS Ds) (hS : SS X FS Ls H) : OpOk P e op H v := by
 obtain ⟨F,h1,h2⟩ := hS; exact h F H h2.hin (hd.up h1) h2.ok
theorem SS.get {H : Heap} (h : SS X FS Ls H ∨ (z = true ∧ is = .e)) (hn : is ≠ .e) : SS X FS Ls H := h.resolve_right fun h1 => hn h1.2
theorem okA {ops : Array Oper} {listed : Array Bool} (hO : okO ops z listed (.a i is) = true) : Region.free .any ops listed i = true ∧ (Region.ready .any ops listed).contains i = true ∧ (z = false ∨ waits ops listed i = true) ∧ okO ops z (listed.setIfInBounds i true) is = true := by
 simp only [okO,Bool.and_eq_true,Bool.or_eq_true,Bool.not_eq_true'] at hO
 exact ⟨hO.1.1,hO.1.2.1,hO.1.2.2,hO.2⟩
theorem jy (hi : l[i]? = some ⟨some d,op,ty,pos,af,none⟩) (h : OH P Ds Ls e op v) (K : AH P n w0 l Q z X FS Ds Ls is D L ((d,v) :: e)) (hd : Nat.blt d n.sz = true := by rfl) : AH P n w0 l Q z X FS Ds Ls (.a i is) D L e := fun F H h1 h2 hp hS hs listed hO => by
 obtain ⟨hf,hr,hz,hO⟩ := okA hO
 have hS' := SS.get hS (by simp)
 exact AF.take i hi hs hf hr hS' (fun H' hS'' => hS''.oh h h2) (K F H h1 h2 hp (.inl hS') hs _ hO) hd hz
theorem jyg {j t : Nat} {want B : Bool} {u : Value} (hi : l[i]? = some ⟨some d,op,ty,pos,af,some (j,want)⟩) (hj : (l.toArray[j]?).bind (·.dst) = some t) (hu : lk e t = some u) (hB : Gd u want B) (h : B = true → OH P Ds Ls e op v) (K : AH P n w0 l Q z X FS Ds Ls is D L ((d,gv B v) :: e)) (hd : Nat.blt d n.sz = true := by rfl) (ht : Nat.blt t n.sz = true := by rfl) : AH P n w0 l Q z X FS Ds Ls (.a i is) D L e := fun F H h1 h2 hp hS hs listed hO => by
 obtain ⟨hf,hr,hz,hO⟩ := okA hO
 have hS' := SS.get hS (by simp)
 exact AF.gtake i hi hs hf hr hS' hj hu hB (fun hb H' hS'' => hS''.oh (h hb) h2) (K F H h1 h2 hp (.inl hS') hs _ hO) hd ht hz
theorem jyk {j t : Nat} {want : Bool} {u : Value} (hi : l[i]? = some ⟨some d,op,ty,pos,af,some (j,want)⟩) (hj : (l.toArray[j]?).bind (·.dst) = some t) (hu : lk e t = some u) (hB : Gd u want true) (h : OH P Ds Ls e op v) (K : AH P n w0 l Q z X FS Ds Ls is D L ((d,v) :: e)) (hd : Nat.blt d n.sz = true := by rfl) (ht : Nat.blt t n.sz = true := by rfl) : AH P n w0 l Q z X FS Ds Ls (.a i is) D L e := jyg hi hj hu hB (fun _ => h) K hd ht
def OX (P : Program) (Ds : List Dt) (e : Env) (op : Op) (q : Value → Dt) : Prop := ∀ FS H,InH FS H → AllD FS Ds → ∃ v,(∀ H',InH FS H' → OpOk P e op H' v) ∧ (q v).sat FS
section
variable {α : Type} {r : Rp α} {a : α} {b o : Nat} {T : TypeId} {x : Operand}
theorem xlV (hat : Nd Ds [] (ad r b o a)) (hT : One P T) (hS : r.sz = 1) (hx : ev e x = some (.pointer (some ⟨b,o,none⟩))) : OX P Ds e (.load T x) (fun v => dv r v a) := fun FS H h1 h2 => OpOk.ldVS (hat FS H h1 h2 trivial) hT hS hx (fun _ h => h)
theorem xlA (hat : Nd Ds [] (ad r b o a)) (hT : ∃ d,P.underlying T = some d ∧ (match d with | .struct _ | .array _ _ => true | _ => false) = true) (hS : Sz P T r.sz) (hx : ev e x = some (.pointer (some ⟨b,o,none⟩))) : OX P Ds e (.load T x) (fun v => da r v a) := fun FS H h1 h2 => OpOk.ldAS (hat FS H h1 h2 trivial) hT hS hx (fun _ h => h)
end
theorem SS.inh {H : Heap} (hS : SS X FS Ls H) : InH FS H := by obtain ⟨F,h1,h2⟩ := hS; exact h2.hin.down h1
theorem jye {q : Value → Dt} (hi : l[i]? = some ⟨some d,op,ty,pos,af,none⟩) (h : OX P Ds e op q) (K : ∀ v,AH P n w0 l Q z X FS (q v :: Ds) Ls is (q v :: D) L ((d,v) :: e)) (hd : Nat.blt d n.sz = true := by rfl) : AH P n w0 l Q z X FS Ds Ls (.a i is) D L e := fun F H h1 h2 hp hS hs listed hO => by
 obtain ⟨hf,hr,hz,hO⟩ := okA hO
 have hS' := SS.get hS (by simp)
 obtain ⟨v,h3,h4⟩ := h FS H hS'.inh h2
 exact AF.take i hi hs hf hr hS' (fun H' hS'' => h3 H' hS''.inh) (K v F H h1 ⟨h4,h2⟩ (hp.datum (Dt.up _ h1 h4)) (.inl hS') hs _ hO) hd hz
theorem jyge {q : Value → Dt} {j t : Nat} {want B : Bool} {u : Value} (hi : l[i]? = some ⟨some d,op,ty,pos,af,some (j,want)⟩) (hj : (l.toArray[j]?).bind (·.dst) = some t) (hu : lk e t = some u) (hB : Gd u want B) (h : B = true → OX P Ds e op q) (K : ∀ v,AH P n w0 l Q z X FS ((q v).if B :: Ds) Ls is ((q v).if B :: D) L ((d,gv B v) :: e)) (hd : Nat.blt d n.sz = true := by rfl) (ht : Nat.blt t n.sz = true := by rfl) : AH P n w0 l Q z X FS Ds Ls (.a i is) D L e := fun F H h1 h2 hp hS hs listed hO => by
 obtain ⟨hf,hr,hz,hO⟩ := okA hO
 have hS' := SS.get hS (by simp)
 cases B with
 | true =>
   obtain ⟨v,h3,h4⟩ := h rfl FS H hS'.inh h2
   have h5 : ((q v).if true).sat FS := fun _ => h4
   exact AF.gtake i hi hs hf hr hS' hj hu hB (fun _ H' hS'' => h3 H' hS''.inh) (K v F H h1 ⟨h5,h2⟩ (hp.datum (Dt.up _ h1 h5)) (.inl hS') hs _ hO) hd ht hz
 | false =>
   have h5 : ∀ F,((q undef).if false).sat F := fun _ h => by cases h
   exact AF.gtake (v := undef) i hi hs hf hr hS' hj hu hB (fun h => by cases h) (K undef F H h1 ⟨h5 _,h2⟩ (hp.datum (h5 _)) (.inl hS') hs _ hO) hd ht hz
theorem jyA {α β : Type} {r : Rp α} {val : α → β → Value} {a : α} (hs : Sr r val) (hi : l[i]? = some ⟨some d,op,ty,pos,af,none⟩) (h : OX P Ds e op (fun v => da r v a)) (K : ∀ c,AH P n w0 l Q z X FS (da r (val a c) a :: Ds) Ls is (da r (val a c) a :: D) L ((d,val a c) :: e)) (hd : Nat.blt d n.sz = true := by rfl) : AH P n w0 l Q z X FS Ds Ls (.a i is) D L e := fun F H h1 h2 hp hS hs' listed hO => by
 obtain ⟨hf,hr,hz,hO⟩ := okA hO
 have hS' := SS.get hS (by simp)
 obtain ⟨v,h3,h4⟩ := h FS H hS'.inh h2
 obtain ⟨c,rfl⟩ := hs.op h4
 exact AF.take i hi hs' hf hr hS' (fun H' hS'' => h3 H' hS''.inh) (K c F H h1 ⟨h4,h2⟩ (hp.datum (Dt.up _ h1 h4)) (.inl hS') hs' _ hO) hd hz
theorem adq {α : Type} {r : Rp α} {N : Nat} {a : List α} (h : Nd D L (dv (rLn N r) v a)) (k : Qn N a.length → Sv v → AH P n w0 l Q z X FS Ds Ls is D L e) : AH P n w0 l Q z X FS Ds Ls is D L e := fun F H h0 h1 hp => by
 have h2 := h F H hp.hin hp.hd hp.ok; exact k h2.1 (dv1 h2) F H h0 h1 hp
theorem awr {k : IntKind} {m : Int} (h : Wr D L k m) (k' : k.wrap m = m → AH P n w0 l Q z X FS Ds Ls is D L e) : AH P n w0 l Q z X FS Ds Ls is D L e := fun F H h0 h1 hp => k' (h F H hp.hin hp.hd hp.ok) F H h0 h1 hp
theorem wpl_op {ops : Array Oper} {Y Q' : Exit → Act → World → Prop} {a : Act} {w : World} (hi : ops[i]? = some oi) (hp : ∀ c a w,Y (.panic c) a w → Q' (.panic c) a w) (ho : ∀ a w,Y .outgrown a w → Q' .outgrown a w) (h : wpList P ops Y [oi] a w) : wpOp P ops Q' i (fun a w => Y .normal a w) a w := by
 unfold wpOp
 simp only [hi]
 unfold wpList at h
 have hl : LetsOut Y → LetsOut Q' := fun ⟨a,w,h⟩ => ⟨a,w,ho a w h⟩
 split at h
 · rename_i hw
   rw [if_pos hw]
   refine h.imp (fun h => ?_) (fun h => ⟨h.1,hl h.2⟩)
   unfold Oper.wp at h ⊢
   generalize (execOp a.eval oi).run P w = r at h ⊢
   cases r with
   | ok x w' =>
     cases x <;> simp only [Oper.upon] at h ⊢ <;>
     first
       | exact h
       | exact Calls.mono h (fun x w'' he => by cases x <;> first | exact he | exact hp _ _ _ he | exact hl he)
       | exact Rows.mono h (fun _ _ he => he)
   | halt x w' => cases x <;> simp only [Oper.upon] at h ⊢ <;> first | exact hp _ _ _ h | exact h
 · rename_i hw
   rw [if_neg hw]; exact h
theorem no_left {ops : Array Oper} {listed : Array Bool} (hO : okO ops true listed .e = true) : ¬ leftB listed := by
 simp only [okO,Bool.and_eq_true,Bool.not_true,Bool.false_or] at hO
 rintro ⟨k,hk⟩
 rw [Array.getD_eq_getD_getElem?] at hk
 by_cases h : k < listed.size
 · rw [Array.getElem?_eq_getElem h] at hk
   have h2 := Array.all_eq_true.1 hO.2 k h
   simp only [Option.getD_some] at hk
   rw [hk] at h2; cases h2
 · rw [Array.getElem?_eq_none (Nat.le_of_not_lt h)] at hk; cases hk
theorem YQ.next {listed : Array Bool} {a : Act} {w : World} (hs : Region.noSelect l.toArray = true) (hO : okO l.toArray z (listed.setIfInBounds i true) is = true) (hi : l[i]? = some oi) (h : wpList P l.toArray (YQ P n w0 l Q z X FS Ls is) [oi] a w) :
   wpOp P l.toArray (NoP Q) i (fun a' w' => (z = false ∨ leftB (listed.setIfInBounds i true) → SS X FS Ls w'.heap) ∧ AnyL P l.toArray (NoP Q) z (fun w => SS X FS Ls w.heap) is.sz (listed.setIfInBounds i true) a' w') a w := by
 refine wpOp_mono (fun a' w' h' => ?_) (wpl_op (Y := YQ P n w0 l Q z X FS Ls is) (Q' := NoP Q) (by simpa using hi) (fun _ _ _ h => h) (fun _ _ h => h) h)
 obtain ⟨h1,h2⟩ := h' hs _ hO
 refine ⟨fun h3 => h1.resolve_right ?_,h2⟩
 rintro ⟨rfl,rfl⟩
 exact no_left hO (h3.resolve_left (by simp))
theorem jyo (hi : l[i]? = some oi) (h : LH P n w0 l.toArray (YQ P n w0 l Q z X FS Ls is) X (fsD FS Ds :: D) L e [oi]) : AH P n w0 l Q z X FS Ds Ls (.o i is) D L e := fun F H h1 h2 hp hS hs listed hO => by
 simp only [okO,Bool.and_eq_true,decide_eq_true_eq] at hO
 intro a w hf hw
 exact wpAnyH_one hO.1 (YQ.next hs hO.2 hi (h F H (hp.datum ⟨h1,h2⟩) a w hf hw))
theorem jyw {j : Nat} (hi : l[i]? = some oi) (hj : l[j]? = some oj) (h : LH P n w0 l.toArray (YQ P n w0 l Q z X FS Ls is) X (fsD FS Ds :: D) L e [oi]) (h' : LH P n w0 l.toArray (YQ P n w0 l Q z X FS Ls js) X (fsD FS Ds :: D) L e [oj]) : AH P n w0 l Q z X FS Ds Ls (.w i j is js) D L e := fun F H h1 h2 hp hS hs listed hO => by
 simp only [okO,Bool.and_eq_true,decide_eq_true_eq,beq_iff_eq] at hO
 obtain ⟨hr,ho1,ho2,hz⟩ := hO
 intro a w hf hw
 have a1 := YQ.next hs ho1 hi (h F H (hp.datum ⟨h1,h2⟩) a w hf hw)
 have a2 := YQ.next hs ho2 hj (h' F H (hp.datum ⟨h1,h2⟩) a w hf hw)
 rw [← hz] at a2
 refine ⟨fun h0 => (by rw [hr] at h0; cases h0),fun k hk => ?_⟩
 rw [hr] at hk
 simp only [List.mem_cons,List.not_mem_nil,or_false] at hk
 rcases hk with rfl | rfl
 · exact a1
 · exact a2
theorem jyw3 {j k : Nat} {ks : Od} {ok : Oper} (hi : l[i]? = some oi) (hj : l[j]? = some oj) (hk : l[k]? = some ok) (h : LH P n w0 l.toArray (YQ P n w0 l Q z X FS Ls is) X (fsD FS Ds :: D) L e [oi]) (h' : LH P n w0 l.toArray (YQ P n w0 l Q z X FS Ls js) X (fsD FS Ds :: D) L e [oj]) (h'' : LH P n w0 l.toArray (YQ P n w0 l Q z X FS Ls ks) X (fsD FS Ds :: D) L e [ok]) : AH P n w0 l Q z X FS Ds Ls (.w3 i j k is js ks) D L e := fun F H h1 h2 hp hS hs listed hO => by
 simp only [okO,Bool.and_eq_true,decide_eq_true_eq,beq_iff_eq] at hO
 obtain ⟨hr,ho1,ho2,ho3,hz,hz3⟩ := hO
 intro a w hf hw
 have a1 := YQ.next hs ho1 hi (h F H (hp.datum ⟨h1,h2⟩) a w hf hw)
 have a2 := YQ.next hs ho2 hj (h' F H (hp.datum ⟨h1,h2⟩) a w hf hw)
 have a3 := YQ.next hs ho3 hk (h'' F H (hp.datum ⟨h1,h2⟩) a w hf hw)
 rw [← hz] at a2
 rw [← hz3] at a3
 refine ⟨fun h0 => (by rw [hr] at h0; cases h0),fun k hk => ?_⟩
 rw [hr] at hk
 simp only [List.mem_cons,List.not_mem_nil,or_false] at hk
 rcases hk with rfl | rfl | rfl
 · exact a1
 · exact a2
 · exact a3
theorem jyn {ops : Array Oper} (hf : Nd D L (fsD FS Ds)) (hk : Tks L Ls M) (h : AH P n w0 l Q z X FS Ds Ls is D L e) : LH P n w0 ops (YQ P n w0 l Q z X FS Ls is) X D L e [] := jn fun F H hp a w hfr hw hs listed hO => by
 obtain ⟨h1,h2⟩ := hf F H hp.hin hp.hd hp.ok
 have hS : SS X FS Ls H := ⟨F,h1,hp.sub dn hk⟩
 exact ⟨.inl (hw.heap ▸ hS),h F H h1 h2 hp (.inl hS) hs listed hO a w hfr hw⟩
theorem jyz {ops : Array Oper} (hf : Nd D L (fsD FS Ds)) (h : AH P n w0 l Q true X FS Ds Ls .e D L e) : LH P n w0 ops (YQ P n w0 l Q true X FS Ls .e) X D L e [] := jn fun F H hp a w hfr hw hs listed hO => by
 obtain ⟨h1,h2⟩ := hf F H hp.hin hp.hd hp.ok
 exact ⟨.inr ⟨rfl,rfl⟩,h F H h1 h2 hp (.inr ⟨rfl,rfl⟩) hs listed hO a w hfr hw⟩
end
end Go.JE
namespace Go.JE
variable {P : Program} {D D0 D1 E : List Dt} {L M N Ls L0 : List Res} {e : Env} {X : Cx} {n : Fs} {w0 : World} {Q : Exit → Act → World → Prop}
def it (Ls : List Res) : Res where
 sat F H := Ok F H Ls
 own k := Own Ls k
 lt := Ok.lt
 no := Ok.no
 st := fun hl hs h1 h2 h => Ok.st hl hs h1 h2 h
def dl (E : List Dt) : Dt := ⟨fun F => AllD F E,fun hl h => h.up hl⟩
theorem db {d : List Dt} (h : Sd D L d) : Nd D L (dl d) := h
theorem Ok.un {F : PH} {H : Heap} : Ok F H (it Ls :: M) ↔ Ok F H (Ls ++ M) := by
 induction Ls with
 | nil => exact ⟨fun h => h.2.2,fun h => ⟨trivial,fun _ h => h.elim,h⟩⟩
 | cons R Ls ih =>
   constructor
   · rintro ⟨⟨a,b,c⟩,d,f⟩
     have := ih.1 ⟨c,fun k hk => d k (.inr hk),f⟩
     exact ⟨a,fun k hk ho => (Own.app.1 ho).elim (b k hk) (d k (.inl hk)),this⟩
   · rintro ⟨a,b,c⟩
     obtain ⟨c1,c2,c3⟩ := ih.2 c
     exact ⟨⟨a,fun k hk ho => b k hk (Own.app.2 (.inl ho)),c1⟩,fun k hk ho => hk.elim (fun h => b k h (Own.app.2 (.inr ho))) (fun h => c2 k h ho),c3⟩
theorem Own.un {k : Nat} : Own (it Ls :: M) k ↔ Own (Ls ++ M) k := ⟨fun h => Own.app.2 h,fun h => Own.app.1 h⟩
theorem Tks.it (h : Tks L Ls M) : Tks L [it Ls] M where
 ok := fun o => by
   obtain ⟨a,b,c⟩ := h.ok o
   exact ⟨⟨a,fun _ _ => id,trivial⟩,b,fun k hk => c k (hk.resolve_right id)⟩
 own := fun o => h.own (o.imp (·.resolve_right id) id)
theorem Hp.unit {F : PH} {H : Heap} (h : Hp X D (JE.it Ls :: M) F H) : Hp X D (Ls ++ M) F H := ⟨h.hx,h.hin,h.hw,h.hd,Ok.un.1 h.ok,fun k hk => h.ge k (Own.un.2 hk)⟩
section
variable {ops : Array Oper} {d : Nat} {ty : TypeId} {pos : String} {af : Array Edge} {rest : List Oper} {f : FuncId} {g : Operand} {xs : List Operand} {vs cs : List Value} {args : Array Value} {ts : Array TypeId} {ι : Type} {val : ι → Value} {dr : ι → List Dt} {lr : Nat → ι → List Res} {v : Value}
abbrev Pd (P : Program) (f : FuncId) (args : Array Value) (D0 : List Dt) (Ls : List Res) (b : Bool) : Prop := Tr P f args D0 [it Ls] (fun _ : Unit => .bool b) (fun _ => []) (fun _ _ => [it Ls])
theorem Tr.it {D2 : List Dt} (h : Tr P f args D0 Ls val dr (fun _ _ => Ls)) (hd : ∀ {F : PH},AllD F D2 → AllD F D0) : Tr P f args D2 [it Ls] val dr (fun _ _ => [JE.it Ls]) := fun F H hin hD ho =>
 (h F H hin (hd hD) ho.1).mono fun v H' ⟨i,F',h1,h2⟩ => ⟨i,F',h1,fun B hB => by
   have h3 := h2 B hB
   refine ⟨h3.hx,h3.hin,⟨h3.hw.1,fun k h1 h4 => h3.hw.2 k h1 (fun h5 => h4 (.inl h5))⟩,h3.hd,⟨h3.ok,fun _ _ => id,trivial⟩,fun k hk => (h3.ge k (hk.resolve_right id)).imp id .inl⟩⟩
theorem i1 {F : PH} {d : Dt} : AllD F [dl [d]] → AllD F [d] := fun h => h.1
theorem i0 {F : PH} {D2 : List Dt} : AllD F D2 → AllD F [] := fun _ => trivial
theorem il {F : PH} {c : Dt} {E : List Dt} : AllD F [c,dl E] → AllD F (c :: E) := fun h => ⟨h.1,h.2.1⟩
theorem ir {F : PH} {c : Dt} {E : List Dt} : AllD F [c,dl E] → AllD F [c] := fun h => ⟨h.1,trivial⟩
theorem jcp (hE : Ent P f) (hf : ev e g = some (.func (.func f) #[] cs.toArray)) (hl : evl e xs = some vs) (hT : Tr P f (vs ++ cs).toArray D0 [it Ls] (fun _ : Unit => v) (fun _ => []) (fun _ _ => [it Ls])) (hd : Sd D L D0) (hk : Tks L Ls M) (hq : Ap Ls M N)
   (k : LH P n w0 ops Q X D N ((d,v) :: e) rest) (hd1 : Nat.blt d n.sz = true := by rfl) : LH P n w0 ops Q X D L e (⟨some d,.call { callee := .value g,args := xs.toArray,argTypes := ts },ty,pos,af,none⟩ :: rest) :=
 jc hE hf hl hT hd hk.it (fun _ => rfl) (fun _ => rfl) (fun _ F H h => k F H (hq ▸ h.unit)) hd1
end
end Go.JE
