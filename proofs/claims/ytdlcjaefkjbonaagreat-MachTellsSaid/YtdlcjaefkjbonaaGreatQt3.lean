/- Lemmas that the claim is made of. Conditions: each lemma names its own. -/
import Derived.Test.YtdlcjaefkjbonaaGreatQt2
import Derived.Test.YtdlcjaefkjbonaaGreatRows
namespace Go.JE
set_option linter.unusedVariables false
set_option linter.unusedSimpArgs false
set_option linter.unusedSectionVars false
variable {P : Program} {D : List Dt} {L M Ls : List Res} {e : Env} {X : Cx} {n : Fs} {w0 : World} {Q : Exit → Act → World → Prop}
section
variable {α : Type} {r : Rp α} {v : Value} {l l' : List α} {F : PH} {H H' : Heap} {E : TypeId} {B : Nat}
theorem hp1 (h : Hp X D L F H) (hk : Tk L (gl B r E v l) M) : B ≤ H.size := (h.at hk).2
theorem Hp.grow {v' : Value} (h : Hp X D L F H) (hk : Tk L (gl B r E v l) M) (hg : Gl r E F H' B v' l') (hb : GrownBy H H' v.ownBlock) (ho : v'.ownBlock = v.ownBlock ∨ ∃ g, v'.ownBlock = some g ∧ H.size ≤ g) : Hp X D (gl B r E v' l' :: M) F H' :=
  h.set (R' := gl B r E v' l') hk ⟨hb.1, fun k h1 h2 => hb.2 k h1 (fun h3 => h2 h3.symm)⟩ ⟨hg, Nat.le_trans (hp1 h hk) hb.1⟩ fun k h1 => by
    rcases ho with ho | ⟨g, ho, hg⟩
    · exact .inr (ho.symm.trans h1)
    · have h2 : some g = some k := ho.symm.trans h1
      injection h2 with h2; exact .inl (h2 ▸ hg)
end
section
variable {ops : Array Oper} {d : Nat} {ty : TypeId} {pos : String} {af : Array Edge} {rest : List Oper} {v u z : Value} {x y : Operand} {T T' E : TypeId} {g o m bytes : Nat} {cs cs' ds : List Value}
theorem jbox (hx : ev e x = some v) (hv : v.cells = cs.toArray) (k : ∀ g, LH P n w0 ops Q X D (bx g T cs :: L) ((d, .pointer (some ⟨g, 0, none⟩)) :: e) rest) (hd : Nat.blt d n.sz = true := by rfl) : LH P n w0 ops Q X D L e (⟨some d, .box T x, ty, pos, af, none⟩ :: rest) := fun F H hp =>
  LF.chg (OpCh.boxB hx hv) (by rintro _ H' ⟨g, rfl, eg, sg, kg, hb⟩; exact k g F H' (hp.new (R := bx g T cs) kg ⟨hb, hp.hin.nope (Nat.le_of_eq eg.symm)⟩ (fun k hk => by have : k = g := hk; omega))) hd
theorem jalc (hz : (P.info? T).bind (·.zero) = some z) (hv : z.cells = cs.toArray) (k : ∀ g, LH P n w0 ops Q X D (bx g T cs :: L) ((d, .pointer (some ⟨g, 0, none⟩)) :: e) rest) (hd : Nat.blt d n.sz = true := by rfl) : LH P n w0 ops Q X D L e (⟨some d, .alloc T, ty, pos, af, none⟩ :: rest) := fun F H hp =>
  LF.chg (OpCh.allocB hz hv) (by rintro _ H' ⟨g, rfl, eg, sg, kg, hb⟩; exact k g F H' (hp.new (R := bx g T cs) kg ⟨hb, hp.hin.nope (Nat.le_of_eq eg.symm)⟩ (fun k hk => by have : k = g := hk; omega))) hd
theorem Tw.kwb {H H' : Heap} (h : Tw g H H') : Kw (bx g T cs).own H H' := ⟨Nat.le_of_eq h.1.symm, fun k _ h2 => h.2 k h2⟩
def St (l : List Value) (o : Nat) (v : Value) (l' : List Value) : Prop := l.set o v = l' ∧ o < l.length
theorem s0 {a : Value} {l : List Value} : St (a :: l) 0 v (v :: l) := ⟨rfl, by simp⟩
theorem St.s {a : Value} {l l' : List Value} (h : St l o v l') : St (a :: l) (o + 1) v (a :: l') := ⟨by rw [List.set_cons_succ, h.1], by simpa using h.2⟩
theorem s1 {a a0 : Value} {l : List Value} : St (a0 :: a :: l) 1 v (a0 :: v :: l) := s0.s
theorem s2 {a a0 a1 : Value} {l : List Value} : St (a0 :: a1 :: a :: l) 2 v (a0 :: a1 :: v :: l) := s1.s
theorem s3 {a a0 a1 a2 : Value} {l : List Value} : St (a0 :: a1 :: a2 :: a :: l) 3 v (a0 :: a1 :: a2 :: v :: l) := s2.s
theorem s4 {a a0 a1 a2 a3 : Value} {l : List Value} : St (a0 :: a1 :: a2 :: a3 :: a :: l) 4 v (a0 :: a1 :: a2 :: a3 :: v :: l) := s3.s
theorem s5 {a a0 a1 a2 a3 a4 : Value} {l : List Value} : St (a0 :: a1 :: a2 :: a3 :: a4 :: a :: l) 5 v (a0 :: a1 :: a2 :: a3 :: a4 :: v :: l) := s4.s
theorem s6 {a a0 a1 a2 a3 a4 a5 : Value} {l : List Value} : St (a0 :: a1 :: a2 :: a3 :: a4 :: a5 :: a :: l) 6 v (a0 :: a1 :: a2 :: a3 :: a4 :: a5 :: v :: l) := s5.s
theorem s7 {a a0 a1 a2 a3 a4 a5 a6 : Value} {l : List Value} : St (a0 :: a1 :: a2 :: a3 :: a4 :: a5 :: a6 :: a :: l) 7 v (a0 :: a1 :: a2 :: a3 :: a4 :: a5 :: a6 :: v :: l) := s6.s
theorem s8 {a a0 a1 a2 a3 a4 a5 a6 a7 : Value} {l : List Value} : St (a0 :: a1 :: a2 :: a3 :: a4 :: a5 :: a6 :: a7 :: a :: l) 8 v (a0 :: a1 :: a2 :: a3 :: a4 :: a5 :: a6 :: a7 :: v :: l) := s7.s
theorem s9 {a a0 a1 a2 a3 a4 a5 a6 a7 a8 : Value} {l : List Value} : St (a0 :: a1 :: a2 :: a3 :: a4 :: a5 :: a6 :: a7 :: a8 :: a :: l) 9 v (a0 :: a1 :: a2 :: a3 :: a4 :: a5 :: a6 :: a7 :: a8 :: v :: l) := s8.s
theorem jst (hk : Tk L (bx g T cs) M) (hT : Sz P T' 1) (hx : ev e x = some (.pointer (some ⟨g, o, none⟩))) (hy : ev e y = some v) (h1 : v.oneCell' = true) (hs : St cs o v cs') (k : LH P n w0 ops Q X D (bx g T cs' :: M) e rest) : LH P n w0 ops Q X D L e (⟨none, .store T' x y, ty, pos, af, none⟩ :: rest) := fun F H hp =>
  LF.chg0 (OpCh.storeB (hp.at hk).1 hT hx hy h1 hs.2) (by rintro _ H' ⟨t, b⟩; exact k F H' (hp.set (R' := bx g T cs') hk t.kwb ⟨hs.1 ▸ b, (hp.at hk).2⟩ (fun k h => .inr h)))
def Sta (l : List Value) (o : Nat) (c l' : List Value) : Prop := setAt l o c = l' ∧ o + c.length ≤ l.length
theorem setAt_cons {a : Value} : ∀ (c l : List Value) (o : Nat), setAt (a :: l) (o + 1) c = a :: setAt l o c
  | [], _, _ => rfl
  | v :: c, l, o => by show setAt ((a :: l).set (o + 1) v) (o + 1 + 1) c = _; rw [List.set_cons_succ, setAt_cons c]; rfl
theorem sa {l : List Value} : Sta l 0 [] l := ⟨rfl, by simp⟩
theorem Sta.c {a b : Value} {l c l' : List Value} (h : Sta l 0 c l') : Sta (a :: l) 0 (b :: c) (b :: l') := ⟨by show setAt ((a :: l).set 0 b) (0 + 1) c = _; rw [List.set_cons_zero, setAt_cons, h.1], by have := h.2; simp at this ⊢; omega⟩
theorem Sta.s {a : Value} {l c l' : List Value} (h : Sta l o c l') : Sta (a :: l) (o + 1) c (a :: l') := ⟨by rw [setAt_cons, h.1], by have := h.2; simp at this ⊢; omega⟩
theorem saf : ∀ {l c : List Value} (_ : c.length = l.length), Sta l 0 c c
  | [], [], _ => sa
  | _ :: _, _ :: _, h => (saf (by simpa using h)).c
  | [], _ :: _, h => by cases h
  | _ :: _, [], h => by cases h
theorem jsta (hk : Tk L (bx g T cs) M) (hT : Sz P T' m) (hx : ev e x = some (.pointer (some ⟨g, o, none⟩))) (hy : ev e y = some (.agg ds.toArray)) (hl : ds.length = m) (h1 : allOne ds) (hs : Sta cs o ds cs') (k : LH P n w0 ops Q X D (bx g T cs' :: M) e rest) : LH P n w0 ops Q X D L e (⟨none, .store T' x y, ty, pos, af, none⟩ :: rest) := fun F H hp =>
  LF.chg0 (OpCh.storeBA (hp.at hk).1 hT hx hy hl h1.mem (hl ▸ hs.2)) (by rintro _ H' ⟨t, b⟩; exact k F H' (hp.set (R' := bx g T cs') hk t.kwb ⟨hs.1 ▸ b, (hp.at hk).2⟩ (fun k h => .inr h)))
end
section
variable {ops : Array Oper} {d d2 : Nat} {ty ty2 : TypeId} {pos pos2 : String} {af af2 : Array Edge} {rest : List Oper} {v u z : Value} {x y : Operand} {T T' E : TypeId} {i m bytes B : Nat} {α : Type} {r : Rp α} {l : List α} {a : α}
theorem jnl (k : LH P n w0 ops Q X D (gl X.n r E (.slice none 0 0) [] :: L) e rest) : LH P n w0 ops Q X D L e rest := fun F H hp => k F H (hp.new (R := gl X.n r E (.slice none 0 0) []) (Kp.refl _ _) ⟨Gl.nil _ _ _, hp.hw.1⟩ (fun k h => by cases h))
theorem cnl {c : Code} (k : CH P n w0 Q X D (gl X.n r E (.slice none 0 0) [] :: L) e c) : CH P n w0 Q X D L e c := fun F H hp => k F H (hp.new (R := gl X.n r E (.slice none 0 0) []) (Kp.refl _ _) ⟨Gl.nil _ _ _, hp.hw.1⟩ (fun k h => by cases h))
theorem qnl {z : Exit} (k : QH n w0 Q X D (gl X.n r E (.slice none 0 0) [] :: L) e z) : QH n w0 Q X D L e z := fun F H hp => k F H (hp.new (R := gl X.n r E (.slice none 0 0) []) (Kp.refl _ _) ⟨Gl.nil _ _ _, hp.hw.1⟩ (fun k h => by cases h))
theorem Hp.newG {F : PH} {H H' : Heap} (hp : Hp X D L F H) (kg : Kp H.size H H') (hb : InH F H → Gl r E F H' H.size v l) : Hp X D (gl X.n r E v l :: L) F H' :=
  hp.new (R := gl X.n r E v l) kg ⟨(hb hp.hin).base hp.hw.1, Nat.le_trans hp.hw.1 kg.1⟩ (fun k hk => ((hb hp.hin).blk k hk).1)
theorem jmk {I J : Int} (hT : P.underlying T = some (.slice E)) (hE : (P.info? E).map (fun i => (i.zero, i.size, i.bytes)) = some (some z, 1, bytes)) (hz : z.cells = #[z]) (hx : ev e x = some (.int .i64 I)) (hy : ev e y = some (.int .i64 J)) (hI : I = m) (hJ : J = m) (h1 : bytes * m ≤ 281474976710656 ∧ m ≤ 140737488355328) (hok : Nd D L (dv r z a)) (hs : r.sz = 1)
    (k : ∀ g, LH P n w0 ops Q X D (gl X.n r E (.slice (some ⟨g, 0, none⟩) m m) (List.replicate m a) :: L) ((d, .slice (some ⟨g, 0, none⟩) m m) :: e) rest) (hd : Nat.blt d n.sz = true := by rfl) : LH P n w0 ops Q X D L e (⟨some d, .makeSlice T x y, ty, pos, af, none⟩ :: rest) := fun F H hp =>
  LF.chg (OpCh.makeL (F := F) (r := r) (n := m) (a := a) hT hE hz hx hy hI hJ h1.1 h1.2 (hok F H hp.hin hp.hd hp.ok) hs) (by rintro _ H' ⟨g, rfl, eg, sg, kg, hb⟩; exact k g F H' (hp.newG kg hb)) hd
theorem litOk.up {F G : PH} (hl : F.le G) : ∀ {l : List α} {us : List Value} {cs : List (List Value)}, litOk r F l us cs → litOk r G l us cs
  | [], [], [], h => h
  | _ :: _, _ :: _, _ :: _, h => ⟨h.1, h.2.1, Rp.up _ hl h.2.2.1, litOk.up hl h.2.2.2⟩
  | [], _ :: _, _, h => h.elim
  | [], [], _ :: _, h => h.elim
  | _ :: _, [], _, h => h.elim
  | _ :: _, _ :: _, [], h => h.elim
def dlit (r : Rp α) (l : List α) (us : List Value) (cs : List (List Value)) : Dt := ⟨fun F => litOk r F l us cs, fun hl h => litOk.up hl h⟩
theorem ln : Nd D L (dlit r [] [] []) := fun _ _ _ _ _ => trivial
theorem lA {us c : List Value} {cs : List (List Value)} (h : Nd D L (da r (.agg c.toArray) a)) (h' : Nd D L (dlit r l us cs)) : Nd D L (dlit r (a :: l) (.agg c.toArray :: us) (c :: cs)) := fun F H p q s => by
  obtain ⟨l', e, h1, h2⟩ := h F H p q s
  injection e with e; have e : c = l' := by simpa using e
  subst e; exact ⟨rfl, h1, h2, h' F H p q s⟩
theorem lV {u : Value} {us : List Value} {cs : List (List Value)} (hs : r.sz = 1) (h1 : u.oneCell' = true) (h : Nd D L (dv r u a)) (h' : Nd D L (dlit r l us cs)) : Nd D L (dlit r (a :: l) (u :: us) ([u] :: cs)) := fun F H p q s =>
  ⟨cells1 h1, hs.symm, r.ext (fun j hj => by rw [show j = 0 by omega]; rfl) (h F H p q s), h' F H p q s⟩
theorem jlit {ys : List (Nat × Operand)} {us : List Value} {cs : List (List Value)} (hT : P.underlying T = some (.slice E)) (hE : (P.info? E).map (fun i => (i.zero, i.size, i.bytes)) = some (some z, r.sz, bytes)) (hm : m ≤ 1000 ∧ 0 < r.sz ∧ r.sz ≤ 1000) (hz : z.cells.size = r.sz) (hr : evs e ys = some ((us.zipIdx 0).map fun p => (p.2, p.1))) (hlm : l.length = m)
    (hok : Nd D L (dlit r l us cs))
    (k : ∀ g, LH P n w0 ops Q X D (gl X.n r E (.slice (some ⟨g, 0, none⟩) m m) l :: L) ((d, .slice (some ⟨g, 0, none⟩) m m) :: e) rest) (hd : Nat.blt d n.sz = true := by rfl) : LH P n w0 ops Q X D L e (⟨some d, .buildSlice T m ys.toArray, ty, pos, af, none⟩ :: rest) := fun F H hp =>
  LF.chg (OpCh.litL (F := F) hT hE hm hz hr hlm (hok F H hp.hin hp.hd hp.ok)) (by rintro _ H' ⟨g, rfl, eg, sg, kg, hb⟩; exact k g F H' (hp.newG kg hb)) hd
theorem jsg (hk : Tk L (gl B r E v l) M) (hs : r.sz = 1) (hT : Sz P T 1) (hx : ev e x = some (.pointer (some ⟨vblk v, voff v + i * 1, none⟩))) (hy : ev e y = some u) (h1 : u.oneCell' = true) (hi : i < l.length) (hok : Nd D L (dv r u a))
    (k : LH P n w0 ops Q X D (gl B r E v (l.set i a) :: M) e rest) : LH P n w0 ops Q X D L e (⟨none, .store T x y, ty, pos, af, none⟩ :: rest) := fun F H hp =>
  LF.chg0 (OpCh.storeG (hp.at hk).1 hs hT hx hy h1 hi (hok F H hp.hin hp.hd hp.ok)) (by
    rintro _ H' ⟨g, hg, t, hb⟩
    exact k F H' (hp.set (R' := gl B r E v (l.set i a)) hk ⟨Nat.le_of_eq t.1.symm, fun k _ h2 => t.2 k (fun e1 => h2 (e1 ▸ hg))⟩ ⟨hb, by rw [t.1]; exact hp1 hp hk⟩ (fun k h => .inr h)))
theorem jap {lc : List Value} (hT : P.underlying T = some (.slice E)) (hE : (P.info? E).map (fun i => (i.zero, i.size, i.bytes)) = some (some z, r.sz, bytes)) (hs : 0 < r.sz ∧ r.sz ≤ 1000 ∧ bytes ≤ 8192) (hz : z.cells.size = r.sz)
    (hk : Tk L (gl B r E v l) M) (hy : ev e y = some (.agg lc.toArray)) (hra : Nd D L (da r (.agg lc.toArray) a)) (hb : l.length < 4294967295) (hx : ∀ w, ev ((d, w) :: e) x = some v)
    (k : ∀ v' g, Sv v' → LH P n w0 ops Q X D (gl B r E v' (l ++ [a]) :: M) ((d2, v') :: (d, .slice (some ⟨g, 0, none⟩) 1 1) :: e) rest) (hd1 : Nat.blt d n.sz = true := by rfl) (hd2 : Nat.blt d2 n.sz = true := by rfl) :
    LH P n w0 ops Q X D L e (⟨some d, .buildSlice T 1 #[(0, y)], ty, pos, af, none⟩ :: ⟨some d2, .call { callee := .builtin .append, args := #[x, .tmp d], argTypes := #[T, T] }, ty2, pos2, af2, none⟩ :: rest) := fun F H hp =>
  LF.appA hT hE hs hz hy (hra F H hp.hin hp.hd hp.ok) (hp.at hk).1 hp.hin hb (hx _) (fun v' H' h1 h2 _ h3 => k v' _ (Gl.sv h1) F H' (hp.grow hk h1 h2 h3)) (hp1 hp hk) hd1 hd2
theorem japv (hT : P.underlying T = some (.slice E)) (hE : (P.info? E).map (fun i => (i.zero, i.size, i.bytes)) = some (some z, r.sz, bytes)) (hs : 0 < r.sz ∧ r.sz ≤ 1000 ∧ bytes ≤ 8192) (hz : z.cells.size = r.sz) (hs1 : r.sz = 1)
    (hk : Tk L (gl B r E v l) M) (hy : ev e y = some u) (hra : Nd D L (dv r u a)) (hb : l.length < 4294967295) (hx : ∀ w, ev ((d, w) :: e) x = some v)
    (k : ∀ v' g, Sv v' → LH P n w0 ops Q X D (gl B r E v' (l ++ [a]) :: M) ((d2, v') :: (d, .slice (some ⟨g, 0, none⟩) 1 1) :: e) rest) (hd1 : Nat.blt d n.sz = true := by rfl) (hd2 : Nat.blt d2 n.sz = true := by rfl) :
    LH P n w0 ops Q X D L e (⟨some d, .buildSlice T 1 #[(0, y)], ty, pos, af, none⟩ :: ⟨some d2, .call { callee := .builtin .append, args := #[x, .tmp d], argTypes := #[T, T] }, ty2, pos2, af2, none⟩ :: rest) := fun F H hp =>
  LF.appV hT hE hs hz hs1 hy (hra F H hp.hin hp.hd hp.ok) (hp.at hk).1 hp.hin hb (hx _) (fun v' H' h1 h2 _ h3 => k v' _ (Gl.sv h1) F H' (hp.grow hk h1 h2 h3)) (hp1 hp hk) hd1 hd2
theorem japl {w2 : Value} {m : List α} {N : Nat} (hT : P.underlying T = some (.slice E)) (hE : (P.info? E).map (fun i => (i.zero, i.size, i.bytes)) = some (some z, r.sz, bytes)) (hs : 0 < r.sz ∧ r.sz ≤ 1000 ∧ bytes ≤ 8192) (hz : z.cells.size = r.sz)
    (hk : Tk L (gl B r E v l) M) (hx : ev e x = some v) (hy : ev e y = some w2) (hm : Nd D L (dv (rLn N r) w2 m)) (hb : l.length + m.length < 4294967296)
    (k : ∀ v', Sv v' → LH P n w0 ops Q X D (gl B r E v' (l ++ m) :: M) ((d, v') :: e) rest) (hd1 : Nat.blt d n.sz = true := by rfl) :
    LH P n w0 ops Q X D L e (⟨some d, .call { callee := .builtin .append, args := #[x, y], argTypes := #[T, T] }, ty, pos, af, none⟩ :: rest) := fun F H hp =>
  LF.chg (OpCh.appL hT hE hs hz hx hy (hp.at hk).1 (hm F H hp.hin hp.hd hp.ok) hp.hin hb (hp1 hp hk)) (by rintro v' H' ⟨h1, h2, h3⟩; exact k v' (Gl.sv h1) F H' (hp.grow hk h1 h2 (ob_some h3))) hd1
theorem japvz (hT : P.underlying T = some (.slice E)) (hE : (P.info? E).map (fun i => (i.zero, i.size, i.bytes)) = some (some z, r.sz, bytes)) (hs : 0 < r.sz ∧ r.sz ≤ 1000 ∧ bytes ≤ 8192) (hz : z.cells.size = r.sz) (hs1 : r.sz = 1)
    (hk : Tk L (gl B r E v []) M) (hy : ev e y = some u) (hra : Nd D L (dv r u a)) (hx : ∀ w, ev ((d, w) :: e) x = some v)
    (k : ∀ v' g, Sv v' → LH P n w0 ops Q X D (gl B r E v' [a] :: M) ((d2, v') :: (d, .slice (some ⟨g, 0, none⟩) 1 1) :: e) rest) (hd1 : Nat.blt d n.sz = true := by rfl) (hd2 : Nat.blt d2 n.sz = true := by rfl) :
    LH P n w0 ops Q X D L e (⟨some d, .buildSlice T 1 #[(0, y)], ty, pos, af, none⟩ :: ⟨some d2, .call { callee := .builtin .append, args := #[x, .tmp d], argTypes := #[T, T] }, ty2, pos2, af2, none⟩ :: rest) := japv hT hE hs hz hs1 hk hy hra (Nat.lt_of_sub_eq_succ rfl) hx k hd1 hd2
theorem japlz {w2 : Value} {m : List α} {N : Nat} (hT : P.underlying T = some (.slice E)) (hE : (P.info? E).map (fun i => (i.zero, i.size, i.bytes)) = some (some z, r.sz, bytes)) (hs : 0 < r.sz ∧ r.sz ≤ 1000 ∧ bytes ≤ 8192) (hz : z.cells.size = r.sz)
    (hk : Tk L (gl B r E v []) M) (hx : ev e x = some v) (hy : ev e y = some w2) (hm : Nd D L (dv (rLn N r) w2 m)) (hb : m.length < 4294967296)
    (k : ∀ v', Sv v' → LH P n w0 ops Q X D (gl B r E v' m :: M) ((d, v') :: e) rest) (hd1 : Nat.blt d n.sz = true := by rfl) :
    LH P n w0 ops Q X D L e (⟨some d, .call { callee := .builtin .append, args := #[x, y], argTypes := #[T, T] }, ty, pos, af, none⟩ :: rest) := japl hT hE hs hz hk hx hy hm (by simpa using hb) k hd1
theorem Hp.freeze {F : PH} {H : Heap} {N : Nat} (hp : Hp X D L F H) (hk : Tk L (gl X.n r E v l) M) (hM : l.length < N) : ∃ G, Hp X (dv (rLn N r) v l :: D) M G H := by
  obtain ⟨o1, o2, o3⟩ := hk.ok hp.ok
  have o1' : Gl r E F H X.n v l := o1.1
  obtain ⟨G, h1, h2, h3, h4, h5⟩ := o1'.freeze (N := N) hp.hin hM
  have h6 : ∀ k, Own M k → G k = F k := fun k hk1 => h4 k (fun e1 => o2 k e1 hk1)
  exact ⟨G, ⟨⟨hp.hx.1.trans h1, fun k hk1 => (h3 k hk1).trans (hp.hx.2 k hk1)⟩, h2, hp.hw, ⟨h5, hp.hd.up h1⟩, o3.st h1 (Nat.le_refl _) (fun k hk1 => (h6 k hk1).trans (o3.no hk1)) (fun _ _ => rfl), fun k hk1 => hp.ge k (hk.own (.inr hk1))⟩⟩
theorem jfz (hk : Tk L (gl X.n r E v l) M) (hM : l.length < 1073741824) (k : LH P n w0 ops Q X (dv (rL r) v l :: D) M e rest) : LH P n w0 ops Q X D L e rest := fun F H hp => by
  obtain ⟨G, h⟩ := hp.freeze hk hM; exact k G H h
theorem qfz {x : Exit} (hk : Tk L (gl X.n r E v l) M) (hM : l.length < 1073741824) (k : QH n w0 Q X (dv (rL r) v l :: D) M e x) : QH n w0 Q X D L e x := fun F H hp => by
  obtain ⟨G, h⟩ := hp.freeze hk hM; exact k G H h
end
end Go.JE
namespace Go.JE
set_option linter.unusedVariables false
set_option linter.unusedSimpArgs false
set_option linter.unusedSectionVars false
variable {P : Program} {D D0 : List Dt} {L M Ls L0 : List Res} {e : Env} {X : Cx} {n : Fs} {w0 : World} {Q : Exit → Act → World → Prop}
def Ap {α : Type} (A M N : List α) : Prop := A ++ M = N
section
variable {α : Type} {a b c d f g : α} {M : List α}
theorem p0 : Ap [] M M := rfl
theorem p1 : Ap [a] M (a :: M) := rfl
theorem p2 : Ap [a, b] M (a :: b :: M) := rfl
theorem p3 : Ap [a, b, c] M (a :: b :: c :: M) := rfl
end
abbrev Tv (P : Program) (f : FuncId) (args : Array Value) (D0 : List Dt) (L0 : List Res) (v : Value) : Prop := Tr P f args D0 L0 (fun _ : Unit => v) (fun _ => []) (fun _ _ => [])
abbrev Td {α : Type} (P : Program) (f : FuncId) (args : Array Value) (D0 : List Dt) (L0 : List Res) (r : Rp α) (a : α) : Prop := Tr P f args D0 L0 (fun v : Value => v) (fun v => [dv r v a]) (fun _ _ => [])
abbrev Tg {α : Type} (P : Program) (f : FuncId) (args : Array Value) (D0 : List Dt) (L0 : List Res) (r : Rp α) (T : TypeId) (a : List α) : Prop := Tr P f args D0 L0 (fun v : Value => v) (fun _ => []) (fun B v => [gl B r T v a])
section
variable {ops : Array Oper} {d : Nat} {ty : TypeId} {pos : String} {af : Array Edge} {rest : List Oper} {f : FuncId} {g : Operand} {xs : List Operand} {vs cs : List Value} {ts : Array TypeId} {ι : Type} {val : ι → Value} {dr : ι → List Dt} {lr : Nat → ι → List Res} {Dn : ι → List Dt} {Ln : ι → List Res} {v : Value} {args0 : Array Value}
theorem Tr.run {F : PH} {H : Heap} {args : Array Value} (h : Tr P f args D0 L0 val dr lr) (hp : Hp X D L F H) (hd : Sd D L D0) (hk : Tks L L0 M) : Ct P f args H (fun v H' => ∃ i F', v = val i ∧ Hp X (dr i ++ D) (lr X.n i ++ M) F' H') :=
  (h F H hp.hin (hd F H hp.hin hp.hd hp.ok) (hk.ok hp.ok).1).mono fun v H' ⟨i, F', h1, h2⟩ => ⟨i, F', h1, (fun h2 => hp.frame hk h2.hx h2.hin h2.hw h2.hd h2.ok h2.ge) (h2 X.n hp.hw.1)⟩
theorem Tr.fr {L1 M1 : List Res} (h : Tr P f args0 D0 L0 val dr lr) (hk : Tks L1 L0 M1) : Tr P f args0 D0 L1 val dr (fun B i => lr B i ++ M1) := fun F H hin hd ho =>
  (h F H hin hd (hk.ok ho).1).mono fun v H' ⟨i, F', h1, h2⟩ => ⟨i, F', h1, fun B hB => by
    have h3 := (⟨PH.ext.refl F, hin, Kw.refl _ _, hd, ho, fun k hk => .inr hk⟩ : Hp ⟨Own L1, H, F⟩ D0 L1 F H)
    have h4 := h2 B hB
    have h5 := h3.frame hk h4.hx h4.hin h4.hw h4.hd h4.ok h4.ge
    exact ⟨h5.hx, h5.hin, h5.hw, h4.hd, h5.ok, h5.ge⟩⟩
theorem jc (hE : Ent P f) (hf : ev e g = some (.func (.func f) #[] cs.toArray)) (hl : evl e xs = some vs) (hT : Tr P f (vs ++ cs).toArray D0 L0 val dr lr) (hd : Sd D L D0) (hk : Tks L L0 M) (hp : ∀ i, Ap (dr i) D (Dn i)) (hq : ∀ i, Ap (lr X.n i) M (Ln i))
    (k : ∀ i, LH P n w0 ops Q X (Dn i) (Ln i) ((d, val i) :: e) rest) (hd1 : Nat.blt d n.sz = true := by rfl) : LH P n w0 ops Q X D L e (⟨some d, .call { callee := .value g, args := xs.toArray, argTypes := ts }, ty, pos, af, none⟩ :: rest) := fun F H h =>
  LF.call (OpCall.fnc hE hf hl) (hT.run h hd hk) (by rintro _ H' ⟨i, F', rfl, h2⟩; exact k i F' H' (hp i ▸ hq i ▸ h2)) hd1
theorem jcv (hE : Ent P f) (hf : ev e g = some (.func (.func f) #[] cs.toArray)) (hl : evl e xs = some vs) (hT : Tv P f (vs ++ cs).toArray D0 L0 v) (hd : Sd D L D0) (hk : Tks L L0 M)
    (k : LH P n w0 ops Q X D M ((d, v) :: e) rest) (hd1 : Nat.blt d n.sz = true := by rfl) : LH P n w0 ops Q X D L e (⟨some d, .call { callee := .value g, args := xs.toArray, argTypes := ts }, ty, pos, af, none⟩ :: rest) := jc hE hf hl hT hd hk (fun _ => rfl) (fun _ => rfl) (fun _ => k) hd1
theorem jcd {α : Type} {r : Rp α} {N : Nat} {a : List α} (hE : Ent P f) (hf : ev e g = some (.func (.func f) #[] cs.toArray)) (hl : evl e xs = some vs) (hT : Td P f (vs ++ cs).toArray D0 L0 (rLn N r) a) (hd : Sd D L D0) (hk : Tks L L0 M)
    (k : ∀ v, Qn N a.length → Sv v → LH P n w0 ops Q X (dv (rLn N r) v a :: D) M ((d, v) :: e) rest) (hd1 : Nat.blt d n.sz = true := by rfl) : LH P n w0 ops Q X D L e (⟨some d, .call { callee := .value g, args := xs.toArray, argTypes := ts }, ty, pos, af, none⟩ :: rest) :=
  jc hE hf hl hT hd hk (fun _ => rfl) (fun _ => rfl) (fun v => jdq d0 (k v)) hd1
theorem jcg {α : Type} {r : Rp α} {T : TypeId} {a : List α} (hE : Ent P f) (hf : ev e g = some (.func (.func f) #[] cs.toArray)) (hl : evl e xs = some vs) (hT : Tg P f (vs ++ cs).toArray D0 L0 r T a) (hd : Sd D L D0) (hk : Tks L L0 M)
    (k : ∀ v, Sv v → LH P n w0 ops Q X D (gl X.n r T v a :: M) ((d, v) :: e) rest) (hd1 : Nat.blt d n.sz = true := by rfl) : LH P n w0 ops Q X D L e (⟨some d, .call { callee := .value g, args := xs.toArray, argTypes := ts }, ty, pos, af, none⟩ :: rest) :=
  jc hE hf hl hT hd hk (fun _ => rfl) (fun _ => rfl) (fun v => jgo k0 (k v)) hd1
theorem jgc {j t : Nat} {want B : Bool} {u : Value} {N : List Res} (hj : (ops[j]?).bind (·.dst) = some t) (hu : lk e t = some u) (hB : Gd u want B) (hE : Ent P f) (hf : ev e g = some (.func (.func f) #[] cs.toArray)) (hl : B = true → evl e xs = some vs) (hT : B = true → Tr P f (vs ++ cs).toArray D0 L0 (fun _ : Unit => v) (fun _ => []) (fun _ _ => L0)) (hd : B = true → Sd D L D0) (hk : Tks L L0 M) (hq : Ap L0 M N)
    (k : LH P n w0 ops Q X D N ((d, gv B v) :: e) rest) (hd1 : Nat.blt d n.sz = true := by rfl) (ht : Nat.blt t n.sz = true := by rfl) : LH P n w0 ops Q X D L e (⟨some d, .call { callee := .value g, args := xs.toArray, argTypes := ts }, ty, pos, af, some (j, want)⟩ :: rest) := fun F H h => by
  refine LF.gcallF hj hu hB (fun hb => OpCall.fnc hE hf (hl hb)) (fun hb => (hT hb).run h (hd hb) hk) (fun v' H' hz => ?_) hd1 ht
  rcases hz with ⟨hb, i, F', rfl, h2⟩ | ⟨hb, rfl⟩
  · exact k F' H' (hq ▸ h2)
  · subst hb
    refine k F H' (hq ▸ ⟨h.hx, h.hin, h.hw, h.hd, ?_, fun k h1 => h.ge k (hk.own (Own.app.1 h1))⟩)
    obtain ⟨a, b, c⟩ := hk.ok h.ok
    exact Ok.app a b c
theorem jgcd {α : Type} {r : Rp α} {N : Nat} {a : List α} {j t : Nat} {want B : Bool} {u : Value} (hj : (ops[j]?).bind (·.dst) = some t) (hu : lk e t = some u) (hB : Gd u want B) (hE : Ent P f) (hf : ev e g = some (.func (.func f) #[] cs.toArray)) (hl : B = true → evl e xs = some vs) (hT : B = true → Td P f (vs ++ cs).toArray D0 [] (rLn N r) a) (hd : B = true → Sd D L D0)
    (k : ∀ v, LH P n w0 ops Q X ((dv (rLn N r) v a).if B :: D) L ((d, gv B v) :: e) rest) (hd1 : Nat.blt d n.sz = true := by rfl) (ht : Nat.blt t n.sz = true := by rfl) : LH P n w0 ops Q X D L e (⟨some d, .call { callee := .value g, args := xs.toArray, argTypes := ts }, ty, pos, af, some (j, want)⟩ :: rest) := fun F H h => by
  refine LF.gcallF hj hu hB (fun hb => OpCall.fnc hE hf (hl hb)) (fun hb => (hT hb).run h (hd hb) kn) (fun v' H' hz => ?_) hd1 ht
  rcases hz with ⟨hb, i, F', rfl, h2⟩ | ⟨hb, rfl⟩
  · exact k _ F' H' ⟨h2.hx, h2.hin, h2.hw, ⟨fun _ => h2.hd.1, h2.hd.2⟩, h2.ok, h2.ge⟩
  · subst hb; exact k v' F H' (h.datum fun h => by cases h)
end
section
variable {f : FuncId} {args : Array Value} {α β : Type} {r : Rp α} {T T2 : TypeId} {v x : Value} {l : List α} {N B : Nat}
theorem Hp.less {F G F' : PH} {H H' : Heap} {W : Nat → Prop} {D L} (h : Hp ⟨W, H, G⟩ D L F' H') (hin : InH F H) (hl : F.le G) : PH.ext H F F ∧ InH F H' ∧ Kw W H H' := ⟨PH.ext.refl F, h.hin.down (hl.trans h.hx.1), h.hw⟩
theorem Tv.temp (N : Nat) (h : Tv P f args (dv (rLn N r) v l :: D0) [] x) (hN : l.length < N) : Tr P f args D0 [gl B r T v l] (fun _ : Unit => x) (fun _ => []) (fun _ _ => [gl B r T v l]) := fun F H hin hd ho => by
  obtain ⟨G, g1, g2, g3, g4, g5⟩ := ho.1.1.freeze (N := N) hin hN
  refine (h G H g2 ⟨g5, hd.up g1⟩ trivial).mono ?_
  rintro _ H' ⟨i, F', rfl, h2⟩
  refine ⟨i, F, rfl, fun B' hB => ?_⟩
  have h3 := h2 0 (Nat.zero_le _)
  obtain ⟨a, b, c⟩ := h3.less hin g1
  refine ⟨a, b, ⟨c.1, fun k hk hn => c.2 k hk id⟩, trivial, ⟨⟨ho.1.1.of fun k hk => c.2 k (ho.1.1.lt k hk) id, Nat.le_trans ho.1.2 c.1⟩, fun _ _ => id, trivial⟩, fun k hk => .inr hk⟩
theorem Tr.dd {D2 : List Dt} {L0 : List Res} {ι : Type} {val : ι → Value} {dr : ι → List Dt} {lr : Nat → ι → List Res} (h : Tr P f args D0 L0 val dr lr) (hd : ∀ {F : PH}, AllD F D2 → AllD F D0) : Tr P f args D2 L0 val dr lr := fun F H hin hD ho => h F H hin (hd hD) ho
theorem Tv.temp1 {d0 : Dt} (N : Nat) (h : Tv P f args (d0 :: dv (rLn N r) v l :: D0) [] x) (hN : l.length < N) : Tr P f args (d0 :: D0) [gl B r T v l] (fun _ : Unit => x) (fun _ => []) (fun _ _ => [gl B r T v l]) := Tv.temp N (h.dd fun ⟨a, b, c⟩ => ⟨b, a, c⟩) hN
theorem Tg.temp {k : IntKind} {m : List Int} (N : Nat) (h : Tg P f args (dv (rLn N r) v l :: D0) [] (rI k) T2 m) (hN : l.length < N) : Tr P f args D0 [gl B r T v l] (fun v : Value => v) (fun _ => []) (fun B' u => [gl B' (rI k) T2 u m, gl B r T v l]) := fun F H hin hd ho => by
  obtain ⟨G, g1, g2, g3, g4, g5⟩ := ho.1.1.freeze (N := N) hin hN
  refine (h G H g2 ⟨g5, hd.up g1⟩ trivial).mono ?_
  rintro u H' ⟨_, F', rfl, h2⟩
  refine ⟨u, F, rfl, fun B' hB => ?_⟩
  have h3 := h2 B' hB
  obtain ⟨a, b, c⟩ := h3.less hin g1
  have hu : ∀ k, u.ownBlock = some k → H.size ≤ k := fun k hk => (h3.ge k (.inl hk)).resolve_right id
  refine ⟨a, b, ⟨c.1, fun k hk hn => c.2 k hk id⟩, trivial, ⟨⟨h3.ok.1.1.flatI (g1.trans h3.hx.1), h3.ok.1.2⟩, fun k hk ho' => ?_, ⟨ho.1.1.of fun k hk => c.2 k (ho.1.1.lt k hk) id, Nat.le_trans ho.1.2 c.1⟩, fun _ _ => id, trivial⟩, fun k hk => ?_⟩
  · have h4 := ho.1.1.lt k (ho'.resolve_right id)
    have h5 := hu k hk
    omega
  · rcases hk with hk | hk
    · exact .inl (hu k hk)
    · exact .inr hk
end
section
variable {fn : Func} {m : Nat} {ι : Type} {val : ι → Value} {dr : ι → List Dt} {lr : Nat → ι → List Res} {t u z : Nat} {v v' v'' : Value}
theorem jr1 (hr : fn.results = #[.tmp t]) (hv : lk e t = some v) (i : ι) (hm : v = val i) (hd : Sd D L (dr i)) (hk : ∀ B, B ≤ X.n → Tks L (lr B i) M) : QH ⟨m, []⟩ w0 (RQ2 P fn w0 X val dr lr) X D L e .ret := fun F H hp => PF.ret1 hr hv ⟨i, F, hm, fun B hB => hp.sub hd (hk B hB)⟩
theorem jr0 (hr : fn.results = #[]) (i : ι) (hm : .tuple #[] = val i) (hd : Sd D L (dr i)) (hk : ∀ B, B ≤ X.n → Tks L (lr B i) M) : QH ⟨m, []⟩ w0 (RQ2 P fn w0 X val dr lr) X D L e .ret := fun F H hp => PF.ret0 hr ⟨i, F, hm, fun B hB => hp.sub hd (hk B hB)⟩
theorem jd0 (hr : fn.results = #[]) (i : ι) (hm : .tuple #[] = val i) (hd : Sd D L (dr i)) (hk : ∀ B, B ≤ X.n → Tks L (lr B i) M) : QH ⟨m, []⟩ w0 (RQ2 P fn w0 X val dr lr) X D L e .normal := fun F H hp => PF.end0 hr ⟨i, F, hm, fun B hB => hp.sub hd (hk B hB)⟩
theorem jr2 (hr : fn.results = #[.tmp t, .tmp u]) (hv : lk e t = some v) (hv' : lk e u = some v') (i : ι) (hm : .tuple #[v, v'] = val i) (hd : Sd D L (dr i)) (hk : ∀ B, B ≤ X.n → Tks L (lr B i) M) : QH ⟨m, []⟩ w0 (RQ2 P fn w0 X val dr lr) X D L e .ret := fun F H hp => PF.ret2 hr hv hv' ⟨i, F, hm, fun B hB => hp.sub hd (hk B hB)⟩
theorem jr3 (hr : fn.results = #[.tmp t, .tmp u, .tmp z]) (hv : lk e t = some v) (hv' : lk e u = some v') (hv'' : lk e z = some v'') (i : ι) (hm : .tuple #[v, v', v''] = val i) (hd : Sd D L (dr i)) (hk : ∀ B, B ≤ X.n → Tks L (lr B i) M) : QH ⟨m, []⟩ w0 (RQ2 P fn w0 X val dr lr) X D L e .ret := fun F H hp => PF.ret3 hr hv hv' hv'' ⟨i, F, hm, fun B hB => hp.sub hd (hk B hB)⟩
theorem jrc {p g : Nat} {ty T : TypeId} {cs : List Value} {N : List Res} (hr : fn.results = #[.cell p ty]) (hv : lk e p = some (.pointer (some ⟨g, 0, none⟩))) (hb : Tk L (bx g T cs) N) (hA : ∃ d, P.underlying ty = some d ∧ (match d with | .struct _ | .array _ _ => true | _ => false) = true) (hS : Sz P ty cs.length)
    (i : ι) (hm : .agg cs.toArray = val i) (hd : Sd D L (dr i)) (hk : ∀ B, B ≤ X.n → Tks L (lr B i) M) : QH ⟨m, []⟩ w0 (RQ2 P fn w0 X val dr lr) X D L e .ret := fun F H hp => PF.retC hr hv (hp.at hb).1 hA hS ⟨i, F, hm, fun B hB => hp.sub hd (hk B hB)⟩
theorem jrI {k : IntKind} {a b : Int} (hr : fn.results = #[.tmp t]) (hv : lk e t = some (.int k b)) (hm : a = b) : QH ⟨m, []⟩ w0 (RQ2 P fn w0 X (fun _ : Unit => .int k a) (fun _ => []) (fun _ _ => [])) X D L e .ret := jr1 hr hv () (by rw [hm]) dn (fun _ _ => kn)
theorem jrB {a b : Bool} (hr : fn.results = #[.tmp t]) (hv : lk e t = some (.bool b)) (hm : a = b) : QH ⟨m, []⟩ w0 (RQ2 P fn w0 X (fun _ : Unit => .bool a) (fun _ => []) (fun _ _ => [])) X D L e .ret := jr1 hr hv () (by rw [hm]) dn (fun _ _ => kn)
theorem jrD {α : Type} {r : Rp α} {a b : α} (hr : fn.results = #[.tmp t]) (hv : lk e t = some v) (hm : a = b) (hd : Nd D L (dv r v b)) : QH ⟨m, []⟩ w0 (RQ2 P fn w0 X (fun v : Value => v) (fun v => [dv r v a]) (fun _ _ => [])) X D L e .ret := jr1 hr hv v rfl (dc (dcast hm hd) dn) (fun _ _ => kn)
theorem kl {α : Type} {r : Rp α} {T : TypeId} {B : Nat} {l : List α} {N : List Res} (hB : B ≤ X.n) (h : Tk L (gl X.n r T v l) M) (h' : Tks M Ls N) : Tks L (gl B r T v l :: Ls) N where
  ok := fun o => by
    obtain ⟨⟨a, b, c⟩, x, y⟩ := (kc h h').ok o
    exact ⟨⟨⟨a.1.base hB, Nat.le_trans hB a.2⟩, b, c⟩, x, y⟩
  own := fun o => (kc h h').own o
theorem klc {α : Type} {r : Rp α} {T : TypeId} {B : Nat} {l l' : List α} {N : List Res} (e : l' = l) (hB : B ≤ X.n) (h : Tk L (gl X.n r T v l) M) (h' : Tks M Ls N) : Tks L (gl B r T v l' :: Ls) N := e ▸ kl hB h h'
theorem jrG {α : Type} {r : Rp α} {T : TypeId} {a b : List α} (hr : fn.results = #[.tmp t]) (hv : lk e t = some v) (hm : a = b) (hk : Tk L (gl X.n r T v b) M) : QH ⟨m, []⟩ w0 (RQ2 P fn w0 X (fun v : Value => v) (fun _ => []) (fun B v => [gl B r T v a])) X D L e .ret := jr1 hr hv v rfl dn (fun _ hB => klc hm hB hk kn)
end
end Go.JE
namespace Go.JE
set_option linter.unusedVariables false
set_option linter.unusedSimpArgs false
set_option linter.unusedSectionVars false
variable {P : Program} {D D0 : List Dt} {L M Ls L0 : List Res} {e : Env} {X : Cx} {n : Fs} {w0 : World} {Q : Exit → Act → World → Prop}
structure Sr {α β : Type} (r : Rp α) (val : α → β → Value) : Prop where
  op : ∀ {F : PH} {v : Value} {m : α}, r.ra F v m → ∃ c, v = val m c
theorem leaf1 {α : Type} {r : Rp α} {F : PH} {a : α} {g : Nat → Value} {c : Value} (hs : r.sz = 1) (h : r.ok F a g) (e : g 0 = c) : r.rv F c a := r.ext (fun i hi => by rw [show i = 0 by omega]; exact e) h
abbrev Ts {α β : Type} (P : Program) (f : FuncId) (args : Array Value) (D0 : List Dt) (L0 : List Res) (r : Rp α) (val : α → β → Value) (a : α) : Prop := Tr P f args D0 L0 (fun c : β => val a c) (fun c => [da r (val a c) a]) (fun _ _ => [])
section
variable {ops : Array Oper} {op : Op} {d : Nat} {ty : TypeId} {pos : String} {af : Array Edge} {rest : List Oper} {K : Act → World → Prop} {α β : Type} {r : Rp α} {val : α → β → Value} {a b : α} {f : FuncId} {g : Operand} {xs : List Operand} {vs cs : List Value} {ts : Array TypeId}
theorem jA (hs : Sr r val) (h : OE P D L e op (fun v F => (da r v a).sat F)) (k : ∀ c, LH P n w0 ops Q X (da r (val a c) a :: D) L ((d, val a c) :: e) rest) (hd : Nat.blt d n.sz = true := by rfl) : LH P n w0 ops Q X D L e (⟨some d, op, ty, pos, af, none⟩ :: rest) := fun F H hp => by
  obtain ⟨v, h1, h2⟩ := h F H hp.hin hp.hd hp.ok
  obtain ⟨c, rfl⟩ := hs.op h2
  exact LF.step h1 (k c F H (hp.datum h2)) hd
theorem jA2 {val : α → Value × Value → Value} (hs : Sr r val) (h : OE P D L e op (fun v F => (da r v a).sat F)) (k : ∀ c0 c1, LH P n w0 ops Q X (da r (val a (c0, c1)) a :: D) L ((d, val a (c0, c1)) :: e) rest) (hd : Nat.blt d n.sz = true := by rfl) : LH P n w0 ops Q X D L e (⟨some d, op, ty, pos, af, none⟩ :: rest) := jA hs h (fun c => k c.1 c.2) hd
theorem jA3 {val : α → Value × Value × Value → Value} (hs : Sr r val) (h : OE P D L e op (fun v F => (da r v a).sat F)) (k : ∀ c0 c1 c2, LH P n w0 ops Q X (da r (val a (c0, c1, c2)) a :: D) L ((d, val a (c0, c1, c2)) :: e) rest) (hd : Nat.blt d n.sz = true := by rfl) : LH P n w0 ops Q X D L e (⟨some d, op, ty, pos, af, none⟩ :: rest) := jA hs h (fun c => k c.1 c.2.1 c.2.2) hd
theorem jA4 {val : α → Value × Value × Value × Value → Value} (hs : Sr r val) (h : OE P D L e op (fun v F => (da r v a).sat F)) (k : ∀ c0 c1 c2 c3, LH P n w0 ops Q X (da r (val a (c0, c1, c2, c3)) a :: D) L ((d, val a (c0, c1, c2, c3)) :: e) rest) (hd : Nat.blt d n.sz = true := by rfl) : LH P n w0 ops Q X D L e (⟨some d, op, ty, pos, af, none⟩ :: rest) := jA hs h (fun c => k c.1 c.2.1 c.2.2.1 c.2.2.2) hd
theorem jcs (hE : Ent P f) (hf : ev e g = some (.func (.func f) #[] cs.toArray)) (hl : evl e xs = some vs) (hT : Ts P f (vs ++ cs).toArray D0 L0 r val a) (hd : Sd D L D0) (hk : Tks L L0 M)
    (k : ∀ c, LH P n w0 ops Q X (da r (val a c) a :: D) M ((d, val a c) :: e) rest) (hd1 : Nat.blt d n.sz = true := by rfl) : LH P n w0 ops Q X D L e (⟨some d, .call { callee := .value g, args := xs.toArray, argTypes := ts }, ty, pos, af, none⟩ :: rest) :=
  jc hE hf hl hT hd hk (fun _ => rfl) (fun _ => rfl) k hd1
theorem jcs2 {val : α → Value × Value → Value} (hE : Ent P f) (hf : ev e g = some (.func (.func f) #[] cs.toArray)) (hl : evl e xs = some vs) (hT : Ts P f (vs ++ cs).toArray D0 L0 r val a) (hd : Sd D L D0) (hk : Tks L L0 M) (k : ∀ c0 c1, LH P n w0 ops Q X (da r (val a (c0, c1)) a :: D) M ((d, val a (c0, c1)) :: e) rest) (hd1 : Nat.blt d n.sz = true := by rfl) : LH P n w0 ops Q X D L e (⟨some d, .call { callee := .value g, args := xs.toArray, argTypes := ts }, ty, pos, af, none⟩ :: rest) := jcs hE hf hl hT hd hk (fun c => k c.1 c.2) hd1
variable {fn : Func} {m t : Nat} {c : β}
theorem jrcA {p g : Nat} {ty T : TypeId} {cs : List Value} (hr : fn.results = #[.cell p ty]) (hv : lk e p = some (.pointer (some ⟨g, 0, none⟩))) (hb : Tk L (bx g T cs) M) (hA : ∃ d, P.underlying ty = some d ∧ (match d with | .struct _ | .array _ _ => true | _ => false) = true) (hS : Sz P ty cs.length)
    (he : .agg cs.toArray = val b c) (hm : a = b) (hd : Nd D L (da r (val b c) b)) : QH ⟨m, []⟩ w0 (RQ2 P fn w0 X (fun c : β => val a c) (fun c => [da r (val a c) a]) (fun _ _ => [])) X D L e .ret := by
  subst hm; exact jrc hr hv hb hA hS c he (dc hd dn) (fun _ _ => kn)
end
section
variable {k k' k'' : IntKind} {a b c : Int} {p q s : Bool}
theorem tII {x : Int × Int} (h : x = (a, b)) : (.tuple #[.int k a, .int k' b] : Value) = .tuple #[.int k x.1, .int k' x.2] := by rw [h]
theorem tIB {x : Int × Bool} (h : x = (a, p)) : (.tuple #[.int k a, .bool p] : Value) = .tuple #[.int k x.1, .bool x.2] := by rw [h]
theorem tIII {x : Int × Int × Int} (h : x = (a, b, c)) : (.tuple #[.int k a, .int k' b, .int k'' c] : Value) = .tuple #[.int k x.1, .int k' x.2.1, .int k'' x.2.2] := by rw [h]
end
end Go.JE
namespace Go.Proofs.YtdlcjaefkjbonaaGreat
set_option linter.unusedVariables false
set_option linter.unusedSimpArgs false
set_option linter.unusedSectionVars false
open Go.JE
structure D.In where
  From : Int
  Val : Int
deriving DecidableEq
instance : Inhabited D.In := ⟨⟨0, 0⟩⟩
def rIn : Rp D.In := rM (rP (rI .i64) (rI .i64)) (fun m => (m.From, m.Val))
theorem rIn.at_From {F : PH} {b o : Nat} {m : D.In} (h : At F rIn b o m) : At F (rI .i64) b (o + 0) m.From := At.part 0 h (Nat.le_of_ble_eq_true rfl) (fun _ h => h.1)
theorem rIn.at_Val {F : PH} {b o : Nat} {m : D.In} (h : At F rIn b o m) : At F (rI .i64) b (o + 1) m.Val := At.part 1 h (Nat.le_of_ble_eq_true rfl) (fun _ h => h.2)
theorem rIn.any {F : PH} {v : Value} {m : D.In} (h : rIn.ra F v m) : ∃ f, rIn.ok F m f := by obtain ⟨l, _, _, h⟩ := h; exact ⟨_, h⟩
theorem rIn.w_Val {F : PH} {m : D.In} (h : ∃ f, rIn.ok F m f) : IntKind.i64.wrap m.Val = m.Val := by obtain ⟨_, h⟩ := h; exact (h.2).2
theorem rIn.open {F : PH} {v : Value} {m : D.In} (h : rIn.ra F v m) : v = .agg #[.int .i64 m.From, .int .i64 m.Val] := by
  obtain ⟨l, rfl, hl, h⟩ := h
  match l, hl with
  | [a0, a1], _ =>
    obtain ⟨⟨h0, _⟩, ⟨h1, _⟩⟩ := h
    obtain rfl : a0 = _ := h0
    obtain rfl : a1 = _ := h1
    exact rfl
theorem rIn.mk {F : PH} {m : D.In}   (w0 : IntKind.i64.wrap m.From = m.From) (w1 : IntKind.i64.wrap m.Val = m.Val) : rIn.ra F (.agg #[.int .i64 m.From, .int .i64 m.Val]) m := ⟨[.int .i64 m.From, .int .i64 m.Val], rfl, rfl, ⟨⟨rfl, w0⟩, ⟨rfl, w1⟩⟩⟩
structure D.Phi where
  Dst : Int
  In : List D.In
deriving DecidableEq
instance : Inhabited D.Phi := ⟨⟨0, []⟩⟩
def rPhiN (N : Nat) : Rp D.Phi := rM (rP (rI .i64) (rLn N rIn)) (fun m => (m.Dst, m.In))
abbrev rPhi : Rp D.Phi := rPhiN 1073741824
theorem rPhi.at_Dst {N : Nat} {F : PH} {b o : Nat} {m : D.Phi} (h : At F (rPhiN N) b o m) : At F (rI .i64) b (o + 0) m.Dst := At.part 0 h (Nat.le_of_ble_eq_true rfl) (fun _ h => h.1)
theorem rPhi.at_In {N : Nat} {F : PH} {b o : Nat} {m : D.Phi} (h : At F (rPhiN N) b o m) : At F (rLn N rIn) b (o + 1) m.In := At.part 1 h (Nat.le_of_ble_eq_true rfl) (fun _ h => h.2)
theorem rPhi.any {N : Nat} {F : PH} {v : Value} {m : D.Phi} (h : (rPhiN N).ra F v m) : ∃ f, (rPhiN N).ok F m f := by obtain ⟨l, _, _, h⟩ := h; exact ⟨_, h⟩
theorem rPhi.w_Dst {N : Nat} {F : PH} {m : D.Phi} (h : ∃ f, (rPhiN N).ok F m f) : IntKind.i64.wrap m.Dst = m.Dst := by obtain ⟨_, h⟩ := h; exact (h.1).2
theorem rPhi.open {N : Nat} {F : PH} {v : Value} {m : D.Phi} (h : (rPhiN N).ra F v m) : ∃ c1, v = .agg #[.int .i64 m.Dst, c1] ∧ (rLn N rIn).rv F c1 m.In := by
  obtain ⟨l, rfl, hl, h⟩ := h
  match l, hl with
  | [a0, a1], _ =>
    obtain ⟨⟨h0, _⟩, h1⟩ := h
    obtain rfl : a0 = _ := h0
    exact ⟨a1, rfl, h1⟩
theorem rPhi.mk {N : Nat} {F : PH} {m : D.Phi} {c1 : Value} (h1 : (rLn N rIn).rv F c1 m.In) (w0 : IntKind.i64.wrap m.Dst = m.Dst) : (rPhiN N).ra F (.agg #[.int .i64 m.Dst, c1]) m := ⟨[.int .i64 m.Dst, c1], rfl, rfl, ⟨⟨rfl, w0⟩, h1⟩⟩
structure D.Mach where
  Op : Int
  D : Int
  E : Int
  A : Int
  B : Int
  C : Int
  Imm : Int
  Args : List Int
deriving DecidableEq
instance : Inhabited D.Mach := ⟨⟨0, 0, 0, 0, 0, 0, 0, []⟩⟩
def rMachN (N : Nat) : Rp D.Mach := rM (rP (rI .i64) (rP (rI .i64) (rP (rI .i64) (rP (rI .i64) (rP (rI .i64) (rP (rI .i64) (rP (rI .i32) (rLn N (rI .i64))))))))) (fun m => (m.Op, m.D, m.E, m.A, m.B, m.C, m.Imm, m.Args))
abbrev rMach : Rp D.Mach := rMachN 1073741824
theorem rMach.any {N : Nat} {F : PH} {v : Value} {m : D.Mach} (h : (rMachN N).ra F v m) : ∃ f, (rMachN N).ok F m f := by obtain ⟨l, _, _, h⟩ := h; exact ⟨_, h⟩
theorem rMach.w_D {N : Nat} {F : PH} {m : D.Mach} (h : ∃ f, (rMachN N).ok F m f) : IntKind.i64.wrap m.D = m.D := by obtain ⟨_, h⟩ := h; exact (h.2.1).2
theorem rMach.w_E {N : Nat} {F : PH} {m : D.Mach} (h : ∃ f, (rMachN N).ok F m f) : IntKind.i64.wrap m.E = m.E := by obtain ⟨_, h⟩ := h; exact (h.2.2.1).2
theorem rMach.w_A {N : Nat} {F : PH} {m : D.Mach} (h : ∃ f, (rMachN N).ok F m f) : IntKind.i64.wrap m.A = m.A := by obtain ⟨_, h⟩ := h; exact (h.2.2.2.1).2
theorem rMach.w_B {N : Nat} {F : PH} {m : D.Mach} (h : ∃ f, (rMachN N).ok F m f) : IntKind.i64.wrap m.B = m.B := by obtain ⟨_, h⟩ := h; exact (h.2.2.2.2.1).2
theorem rMach.w_C {N : Nat} {F : PH} {m : D.Mach} (h : ∃ f, (rMachN N).ok F m f) : IntKind.i64.wrap m.C = m.C := by obtain ⟨_, h⟩ := h; exact (h.2.2.2.2.2.1).2
theorem rMach.w_Imm {N : Nat} {F : PH} {m : D.Mach} (h : ∃ f, (rMachN N).ok F m f) : IntKind.i32.wrap m.Imm = m.Imm := by obtain ⟨_, h⟩ := h; exact (h.2.2.2.2.2.2.1).2
theorem rMach.open {N : Nat} {F : PH} {v : Value} {m : D.Mach} (h : (rMachN N).ra F v m) : ∃ c7, v = .agg #[.int .i64 m.Op, .int .i64 m.D, .int .i64 m.E, .int .i64 m.A, .int .i64 m.B, .int .i64 m.C, .int .i32 m.Imm, c7] ∧ (rLn N (rI .i64)).rv F c7 m.Args := by
  obtain ⟨l, rfl, hl, h⟩ := h
  match l, hl with
  | [a0, a1, a2, a3, a4, a5, a6, a7], _ =>
    obtain ⟨⟨h0, _⟩, ⟨h1, _⟩, ⟨h2, _⟩, ⟨h3, _⟩, ⟨h4, _⟩, ⟨h5, _⟩, ⟨h6, _⟩, h7⟩ := h
    obtain rfl : a0 = _ := h0
    obtain rfl : a1 = _ := h1
    obtain rfl : a2 = _ := h2
    obtain rfl : a3 = _ := h3
    obtain rfl : a4 = _ := h4
    obtain rfl : a5 = _ := h5
    obtain rfl : a6 = _ := h6
    exact ⟨a7, rfl, h7⟩
theorem rMach.mk {N : Nat} {F : PH} {m : D.Mach} {c7 : Value} (h7 : (rLn N (rI .i64)).rv F c7 m.Args) (w0 : IntKind.i64.wrap m.Op = m.Op) (w1 : IntKind.i64.wrap m.D = m.D) (w2 : IntKind.i64.wrap m.E = m.E) (w3 : IntKind.i64.wrap m.A = m.A) (w4 : IntKind.i64.wrap m.B = m.B) (w5 : IntKind.i64.wrap m.C = m.C) (w6 : IntKind.i32.wrap m.Imm = m.Imm) : (rMachN N).ra F (.agg #[.int .i64 m.Op, .int .i64 m.D, .int .i64 m.E, .int .i64 m.A, .int .i64 m.B, .int .i64 m.C, .int .i32 m.Imm, c7]) m := ⟨[.int .i64 m.Op, .int .i64 m.D, .int .i64 m.E, .int .i64 m.A, .int .i64 m.B, .int .i64 m.C, .int .i32 m.Imm, c7], rfl, rfl, ⟨⟨rfl, w0⟩, ⟨rfl, w1⟩, ⟨rfl, w2⟩, ⟨rfl, w3⟩, ⟨rfl, w4⟩, ⟨rfl, w5⟩, ⟨rfl, w6⟩, h7⟩⟩
structure D.End where
  Op : Int
  A : Int
  B : Int
  To : List Int
  Imm : Int
deriving DecidableEq
instance : Inhabited D.End := ⟨⟨0, 0, 0, [], 0⟩⟩
def rEndN (N : Nat) : Rp D.End := rM (rP (rI .i64) (rP (rI .i64) (rP (rI .i64) (rP (rLn N (rI .i64)) (rI .i32))))) (fun m => (m.Op, m.A, m.B, m.To, m.Imm))
abbrev rEnd : Rp D.End := rEndN 1073741824
theorem rEnd.at_To {N : Nat} {F : PH} {b o : Nat} {m : D.End} (h : At F (rEndN N) b o m) : At F (rLn N (rI .i64)) b (o + 3) m.To := At.part 3 h (Nat.le_of_ble_eq_true rfl) (fun _ h => h.2.2.2.1)
theorem rEnd.any {N : Nat} {F : PH} {v : Value} {m : D.End} (h : (rEndN N).ra F v m) : ∃ f, (rEndN N).ok F m f := by obtain ⟨l, _, _, h⟩ := h; exact ⟨_, h⟩
theorem rEnd.w_Op {N : Nat} {F : PH} {m : D.End} (h : ∃ f, (rEndN N).ok F m f) : IntKind.i64.wrap m.Op = m.Op := by obtain ⟨_, h⟩ := h; exact (h.1).2
theorem rEnd.w_A {N : Nat} {F : PH} {m : D.End} (h : ∃ f, (rEndN N).ok F m f) : IntKind.i64.wrap m.A = m.A := by obtain ⟨_, h⟩ := h; exact (h.2.1).2
theorem rEnd.w_B {N : Nat} {F : PH} {m : D.End} (h : ∃ f, (rEndN N).ok F m f) : IntKind.i64.wrap m.B = m.B := by obtain ⟨_, h⟩ := h; exact (h.2.2.1).2
theorem rEnd.w_Imm {N : Nat} {F : PH} {m : D.End} (h : ∃ f, (rEndN N).ok F m f) : IntKind.i32.wrap m.Imm = m.Imm := by obtain ⟨_, h⟩ := h; exact (h.2.2.2.2).2
theorem rEnd.open {N : Nat} {F : PH} {v : Value} {m : D.End} (h : (rEndN N).ra F v m) : ∃ c3, v = .agg #[.int .i64 m.Op, .int .i64 m.A, .int .i64 m.B, c3, .int .i32 m.Imm] ∧ (rLn N (rI .i64)).rv F c3 m.To := by
  obtain ⟨l, rfl, hl, h⟩ := h
  match l, hl with
  | [a0, a1, a2, a3, a4], _ =>
    obtain ⟨⟨h0, _⟩, ⟨h1, _⟩, ⟨h2, _⟩, h3, ⟨h4, _⟩⟩ := h
    obtain rfl : a0 = _ := h0
    obtain rfl : a1 = _ := h1
    obtain rfl : a2 = _ := h2
    obtain rfl : a4 = _ := h4
    exact ⟨a3, rfl, h3⟩
theorem rEnd.mk {N : Nat} {F : PH} {m : D.End} {c3 : Value} (h3 : (rLn N (rI .i64)).rv F c3 m.To) (w0 : IntKind.i64.wrap m.Op = m.Op) (w1 : IntKind.i64.wrap m.A = m.A) (w2 : IntKind.i64.wrap m.B = m.B) (w4 : IntKind.i32.wrap m.Imm = m.Imm) : (rEndN N).ra F (.agg #[.int .i64 m.Op, .int .i64 m.A, .int .i64 m.B, c3, .int .i32 m.Imm]) m := ⟨[.int .i64 m.Op, .int .i64 m.A, .int .i64 m.B, c3, .int .i32 m.Imm], rfl, rfl, ⟨⟨rfl, w0⟩, ⟨rfl, w1⟩, ⟨rfl, w2⟩, h3, ⟨rfl, w4⟩⟩⟩
structure D.MBlock where
  Phis : List D.Phi
  Ins : List D.Mach
  End : D.End
deriving DecidableEq
instance : Inhabited D.MBlock := ⟨⟨[], [], default⟩⟩
def rMBlockN (N : Nat) : Rp D.MBlock := rM (rP (rLn N (rPhiN N)) (rP (rLn N (rMachN N)) (rEndN N))) (fun m => (m.Phis, m.Ins, m.End))
abbrev rMBlock : Rp D.MBlock := rMBlockN 1073741824
theorem rMBlock.at_Phis {N : Nat} {F : PH} {b o : Nat} {m : D.MBlock} (h : At F (rMBlockN N) b o m) : At F (rLn N (rPhiN N)) b (o + 0) m.Phis := At.part 0 h (Nat.le_of_ble_eq_true rfl) (fun _ h => h.1)
theorem rMBlock.at_Ins {N : Nat} {F : PH} {b o : Nat} {m : D.MBlock} (h : At F (rMBlockN N) b o m) : At F (rLn N (rMachN N)) b (o + 1) m.Ins := At.part 1 h (Nat.le_of_ble_eq_true rfl) (fun _ h => h.2.1)
theorem rMBlock.at_End {N : Nat} {F : PH} {b o : Nat} {m : D.MBlock} (h : At F (rMBlockN N) b o m) : At F (rEndN N) b (o + 2) m.End := At.part 2 h (Nat.le_of_ble_eq_true rfl) (fun _ h => h.2.2)
theorem rMBlock.any {N : Nat} {F : PH} {v : Value} {m : D.MBlock} (h : (rMBlockN N).ra F v m) : ∃ f, (rMBlockN N).ok F m f := by obtain ⟨l, _, _, h⟩ := h; exact ⟨_, h⟩
theorem rMBlock.k_End {N : Nat} {F : PH} {m : D.MBlock} (h : ∃ f, (rMBlockN N).ok F m f) : ∃ f, (rEndN N).ok F m.End f := by obtain ⟨_, h⟩ := h; exact ⟨_, h.2.2⟩
theorem rMBlock.open {N : Nat} {F : PH} {v : Value} {m : D.MBlock} (h : (rMBlockN N).ra F v m) : ∃ c0 c1 c5, v = .agg #[c0, c1, .int .i64 m.End.Op, .int .i64 m.End.A, .int .i64 m.End.B, c5, .int .i32 m.End.Imm] ∧ (rLn N (rPhiN N)).rv F c0 m.Phis ∧ (rLn N (rMachN N)).rv F c1 m.Ins ∧ (rLn N (rI .i64)).rv F c5 m.End.To := by
  obtain ⟨l, rfl, hl, h⟩ := h
  match l, hl with
  | [a0, a1, a2, a3, a4, a5, a6], _ =>
    obtain ⟨h0, h1, ⟨⟨h2, _⟩, ⟨h3, _⟩, ⟨h4, _⟩, h5, ⟨h6, _⟩⟩⟩ := h
    obtain rfl : a2 = _ := h2
    obtain rfl : a3 = _ := h3
    obtain rfl : a4 = _ := h4
    obtain rfl : a6 = _ := h6
    exact ⟨a0, a1, a5, rfl, h0, h1, h5⟩
theorem rMBlock.mk {N : Nat} {F : PH} {m : D.MBlock} {c0 : Value} {c1 : Value} {c5 : Value} (h0 : (rLn N (rPhiN N)).rv F c0 m.Phis) (h1 : (rLn N (rMachN N)).rv F c1 m.Ins) (h5 : (rLn N (rI .i64)).rv F c5 m.End.To) (w2 : IntKind.i64.wrap m.End.Op = m.End.Op) (w3 : IntKind.i64.wrap m.End.A = m.End.A) (w4 : IntKind.i64.wrap m.End.B = m.End.B) (w6 : IntKind.i32.wrap m.End.Imm = m.End.Imm) : (rMBlockN N).ra F (.agg #[c0, c1, .int .i64 m.End.Op, .int .i64 m.End.A, .int .i64 m.End.B, c5, .int .i32 m.End.Imm]) m := ⟨[c0, c1, .int .i64 m.End.Op, .int .i64 m.End.A, .int .i64 m.End.B, c5, .int .i32 m.End.Imm], rfl, rfl, ⟨h0, h1, ⟨⟨rfl, w2⟩, ⟨rfl, w3⟩, ⟨rfl, w4⟩, h5, ⟨rfl, w6⟩⟩⟩⟩
structure D.MFunc where
  Params : Int
  Blocks : List D.MBlock
deriving DecidableEq
instance : Inhabited D.MFunc := ⟨⟨0, []⟩⟩
def rMFuncN (N : Nat) : Rp D.MFunc := rM (rP (rI .i64) (rLn N (rMBlockN N))) (fun m => (m.Params, m.Blocks))
abbrev rMFunc : Rp D.MFunc := rMFuncN 1073741824
theorem rMFunc.any {N : Nat} {F : PH} {v : Value} {m : D.MFunc} (h : (rMFuncN N).ra F v m) : ∃ f, (rMFuncN N).ok F m f := by obtain ⟨l, _, _, h⟩ := h; exact ⟨_, h⟩
theorem rMFunc.w_Params {N : Nat} {F : PH} {m : D.MFunc} (h : ∃ f, (rMFuncN N).ok F m f) : IntKind.i64.wrap m.Params = m.Params := by obtain ⟨_, h⟩ := h; exact (h.1).2
theorem rMFunc.open {N : Nat} {F : PH} {v : Value} {m : D.MFunc} (h : (rMFuncN N).ra F v m) : ∃ c1, v = .agg #[.int .i64 m.Params, c1] ∧ (rLn N (rMBlockN N)).rv F c1 m.Blocks := by
  obtain ⟨l, rfl, hl, h⟩ := h
  match l, hl with
  | [a0, a1], _ =>
    obtain ⟨⟨h0, _⟩, h1⟩ := h
    obtain rfl : a0 = _ := h0
    exact ⟨a1, rfl, h1⟩
theorem rMFunc.mk {N : Nat} {F : PH} {m : D.MFunc} {c1 : Value} (h1 : (rLn N (rMBlockN N)).rv F c1 m.Blocks) (w0 : IntKind.i64.wrap m.Params = m.Params) : (rMFuncN N).ra F (.agg #[.int .i64 m.Params, c1]) m := ⟨[.int .i64 m.Params, c1], rfl, rfl, ⟨⟨rfl, w0⟩, h1⟩⟩
structure D.Input where
  Args : List Int
  Mem : List Int
  Answers : List Int
  Steps : Int
deriving DecidableEq
instance : Inhabited D.Input := ⟨⟨[], [], [], 0⟩⟩
def rInputN (N : Nat) : Rp D.Input := rM (rP (rLn N (rI .i32)) (rP (rLn N (rI .i32)) (rP (rLn N (rI .i32)) (rI .i64)))) (fun m => (m.Args, m.Mem, m.Answers, m.Steps))
abbrev rInput : Rp D.Input := rInputN 1073741824
theorem rInput.open {N : Nat} {F : PH} {v : Value} {m : D.Input} (h : (rInputN N).ra F v m) : ∃ c0 c1 c2, v = .agg #[c0, c1, c2, .int .i64 m.Steps] ∧ (rLn N (rI .i32)).rv F c0 m.Args ∧ (rLn N (rI .i32)).rv F c1 m.Mem ∧ (rLn N (rI .i32)).rv F c2 m.Answers := by
  obtain ⟨l, rfl, hl, h⟩ := h
  match l, hl with
  | [a0, a1, a2, a3], _ =>
    obtain ⟨h0, h1, h2, ⟨h3, _⟩⟩ := h
    obtain rfl : a3 = _ := h3
    exact ⟨a0, a1, a2, rfl, h0, h1, h2⟩
theorem rInput.mk {N : Nat} {F : PH} {m : D.Input} {c0 : Value} {c1 : Value} {c2 : Value} (h0 : (rLn N (rI .i32)).rv F c0 m.Args) (h1 : (rLn N (rI .i32)).rv F c1 m.Mem) (h2 : (rLn N (rI .i32)).rv F c2 m.Answers) (w3 : IntKind.i64.wrap m.Steps = m.Steps) : (rInputN N).ra F (.agg #[c0, c1, c2, .int .i64 m.Steps]) m := ⟨[c0, c1, c2, .int .i64 m.Steps], rfl, rfl, ⟨h0, h1, h2, ⟨rfl, w3⟩⟩⟩
structure D.Event where
  Callee : Int
  Args : List Int
deriving DecidableEq
instance : Inhabited D.Event := ⟨⟨0, []⟩⟩
def rEventN (N : Nat) : Rp D.Event := rM (rP (rI .i32) (rLn N (rI .i32))) (fun m => (m.Callee, m.Args))
abbrev rEvent : Rp D.Event := rEventN 1073741824
theorem rEvent.open {N : Nat} {F : PH} {v : Value} {m : D.Event} (h : (rEventN N).ra F v m) : ∃ c1, v = .agg #[.int .i32 m.Callee, c1] ∧ (rLn N (rI .i32)).rv F c1 m.Args := by
  obtain ⟨l, rfl, hl, h⟩ := h
  match l, hl with
  | [a0, a1], _ =>
    obtain ⟨⟨h0, _⟩, h1⟩ := h
    obtain rfl : a0 = _ := h0
    exact ⟨a1, rfl, h1⟩
theorem rEvent.mk {N : Nat} {F : PH} {m : D.Event} {c1 : Value} (h1 : (rLn N (rI .i32)).rv F c1 m.Args) (w0 : IntKind.i32.wrap m.Callee = m.Callee) : (rEventN N).ra F (.agg #[.int .i32 m.Callee, c1]) m := ⟨[.int .i32 m.Callee, c1], rfl, rfl, ⟨⟨rfl, w0⟩, h1⟩⟩
structure D.Outcome where
  End : Int
  Val : Int
  Mem : List Int
  Calls : List D.Event
  Steps : Int
deriving DecidableEq
instance : Inhabited D.Outcome := ⟨⟨0, 0, [], [], 0⟩⟩
def rOutcomeN (N : Nat) : Rp D.Outcome := rM (rP (rI .i64) (rP (rI .i32) (rP (rLn N (rI .i32)) (rP (rLn N (rEventN N)) (rI .i64))))) (fun m => (m.End, m.Val, m.Mem, m.Calls, m.Steps))
abbrev rOutcome : Rp D.Outcome := rOutcomeN 1073741824
theorem rOutcome.open {N : Nat} {F : PH} {v : Value} {m : D.Outcome} (h : (rOutcomeN N).ra F v m) : ∃ c2 c3, v = .agg #[.int .i64 m.End, .int .i32 m.Val, c2, c3, .int .i64 m.Steps] ∧ (rLn N (rI .i32)).rv F c2 m.Mem ∧ (rLn N (rEventN N)).rv F c3 m.Calls := by
  obtain ⟨l, rfl, hl, h⟩ := h
  match l, hl with
  | [a0, a1, a2, a3, a4], _ =>
    obtain ⟨⟨h0, _⟩, ⟨h1, _⟩, h2, h3, ⟨h4, _⟩⟩ := h
    obtain rfl : a0 = _ := h0
    obtain rfl : a1 = _ := h1
    obtain rfl : a4 = _ := h4
    exact ⟨a2, a3, rfl, h2, h3⟩
theorem rOutcome.mk {N : Nat} {F : PH} {m : D.Outcome} {c2 : Value} {c3 : Value} (h2 : (rLn N (rI .i32)).rv F c2 m.Mem) (h3 : (rLn N (rEventN N)).rv F c3 m.Calls) (w0 : IntKind.i64.wrap m.End = m.End) (w1 : IntKind.i32.wrap m.Val = m.Val) (w4 : IntKind.i64.wrap m.Steps = m.Steps) : (rOutcomeN N).ra F (.agg #[.int .i64 m.End, .int .i32 m.Val, c2, c3, .int .i64 m.Steps]) m := ⟨[.int .i64 m.End, .int .i32 m.Val, c2, c3, .int .i64 m.Steps], rfl, rfl, ⟨⟨rfl, w0⟩, ⟨rfl, w1⟩, h2, h3, ⟨rfl, w4⟩⟩⟩
structure D.jacquardref07_Got where
  E : Int
  Block : Int
  Place : Int
deriving DecidableEq
instance : Inhabited D.jacquardref07_Got := ⟨⟨0, 0, 0⟩⟩
def rjacquardref07_Got : Rp D.jacquardref07_Got := rM (rP (rI .i64) (rP (rI .i64) (rI .i64))) (fun m => (m.E, m.Block, m.Place))
theorem rjacquardref07_Got.at_Block {F : PH} {b o : Nat} {m : D.jacquardref07_Got} (h : At F rjacquardref07_Got b o m) : At F (rI .i64) b (o + 1) m.Block := At.part 1 h (Nat.le_of_ble_eq_true rfl) (fun _ h => h.2.1)
theorem rjacquardref07_Got.any {F : PH} {v : Value} {m : D.jacquardref07_Got} (h : rjacquardref07_Got.ra F v m) : ∃ f, rjacquardref07_Got.ok F m f := by obtain ⟨l, _, _, h⟩ := h; exact ⟨_, h⟩
theorem rjacquardref07_Got.w_E {F : PH} {m : D.jacquardref07_Got} (h : ∃ f, rjacquardref07_Got.ok F m f) : IntKind.i64.wrap m.E = m.E := by obtain ⟨_, h⟩ := h; exact (h.1).2
theorem rjacquardref07_Got.open {F : PH} {v : Value} {m : D.jacquardref07_Got} (h : rjacquardref07_Got.ra F v m) : v = .agg #[.int .i64 m.E, .int .i64 m.Block, .int .i64 m.Place] := by
  obtain ⟨l, rfl, hl, h⟩ := h
  match l, hl with
  | [a0, a1, a2], _ =>
    obtain ⟨⟨h0, _⟩, ⟨h1, _⟩, ⟨h2, _⟩⟩ := h
    obtain rfl : a0 = _ := h0
    obtain rfl : a1 = _ := h1
    obtain rfl : a2 = _ := h2
    exact rfl
theorem rjacquardref07_Got.mk {F : PH} {m : D.jacquardref07_Got}   (w0 : IntKind.i64.wrap m.E = m.E) (w1 : IntKind.i64.wrap m.Block = m.Block) (w2 : IntKind.i64.wrap m.Place = m.Place) : rjacquardref07_Got.ra F (.agg #[.int .i64 m.E, .int .i64 m.Block, .int .i64 m.Place]) m := ⟨[.int .i64 m.E, .int .i64 m.Block, .int .i64 m.Place], rfl, rfl, ⟨⟨rfl, w0⟩, ⟨rfl, w1⟩, ⟨rfl, w2⟩⟩⟩
structure D.Ins where
  Op : Int
  Dst : Int
  Two : Int
  Args : List Int
  Imm : Int
deriving DecidableEq
instance : Inhabited D.Ins := ⟨⟨0, 0, 0, [], 0⟩⟩
def rInsN (N : Nat) : Rp D.Ins := rM (rP (rI .i64) (rP (rI .i64) (rP (rI .i64) (rP (rLn N (rI .i64)) (rI .i32))))) (fun m => (m.Op, m.Dst, m.Two, m.Args, m.Imm))
abbrev rIns : Rp D.Ins := rInsN 1073741824
theorem rIns.at_Args {N : Nat} {F : PH} {b o : Nat} {m : D.Ins} (h : At F (rInsN N) b o m) : At F (rLn N (rI .i64)) b (o + 3) m.Args := At.part 3 h (Nat.le_of_ble_eq_true rfl) (fun _ h => h.2.2.2.1)
theorem rIns.any {N : Nat} {F : PH} {v : Value} {m : D.Ins} (h : (rInsN N).ra F v m) : ∃ f, (rInsN N).ok F m f := by obtain ⟨l, _, _, h⟩ := h; exact ⟨_, h⟩
theorem rIns.w_Dst {N : Nat} {F : PH} {m : D.Ins} (h : ∃ f, (rInsN N).ok F m f) : IntKind.i64.wrap m.Dst = m.Dst := by obtain ⟨_, h⟩ := h; exact (h.2.1).2
theorem rIns.w_Two {N : Nat} {F : PH} {m : D.Ins} (h : ∃ f, (rInsN N).ok F m f) : IntKind.i64.wrap m.Two = m.Two := by obtain ⟨_, h⟩ := h; exact (h.2.2.1).2
theorem rIns.w_Imm {N : Nat} {F : PH} {m : D.Ins} (h : ∃ f, (rInsN N).ok F m f) : IntKind.i32.wrap m.Imm = m.Imm := by obtain ⟨_, h⟩ := h; exact (h.2.2.2.2).2
theorem rIns.open {N : Nat} {F : PH} {v : Value} {m : D.Ins} (h : (rInsN N).ra F v m) : ∃ c3, v = .agg #[.int .i64 m.Op, .int .i64 m.Dst, .int .i64 m.Two, c3, .int .i32 m.Imm] ∧ (rLn N (rI .i64)).rv F c3 m.Args := by
  obtain ⟨l, rfl, hl, h⟩ := h
  match l, hl with
  | [a0, a1, a2, a3, a4], _ =>
    obtain ⟨⟨h0, _⟩, ⟨h1, _⟩, ⟨h2, _⟩, h3, ⟨h4, _⟩⟩ := h
    obtain rfl : a0 = _ := h0
    obtain rfl : a1 = _ := h1
    obtain rfl : a2 = _ := h2
    obtain rfl : a4 = _ := h4
    exact ⟨a3, rfl, h3⟩
theorem rIns.mk {N : Nat} {F : PH} {m : D.Ins} {c3 : Value} (h3 : (rLn N (rI .i64)).rv F c3 m.Args) (w0 : IntKind.i64.wrap m.Op = m.Op) (w1 : IntKind.i64.wrap m.Dst = m.Dst) (w2 : IntKind.i64.wrap m.Two = m.Two) (w4 : IntKind.i32.wrap m.Imm = m.Imm) : (rInsN N).ra F (.agg #[.int .i64 m.Op, .int .i64 m.Dst, .int .i64 m.Two, c3, .int .i32 m.Imm]) m := ⟨[.int .i64 m.Op, .int .i64 m.Dst, .int .i64 m.Two, c3, .int .i32 m.Imm], rfl, rfl, ⟨⟨rfl, w0⟩, ⟨rfl, w1⟩, ⟨rfl, w2⟩, h3, ⟨rfl, w4⟩⟩⟩
structure D.Term where
  Kind : Int
  Args : List Int
  To : List Int
  Imm : Int
deriving DecidableEq
instance : Inhabited D.Term := ⟨⟨0, [], [], 0⟩⟩
def rTermN (N : Nat) : Rp D.Term := rM (rP (rI .i64) (rP (rLn N (rI .i64)) (rP (rLn N (rI .i64)) (rI .i32)))) (fun m => (m.Kind, m.Args, m.To, m.Imm))
abbrev rTerm : Rp D.Term := rTermN 1073741824
theorem rTerm.at_To {N : Nat} {F : PH} {b o : Nat} {m : D.Term} (h : At F (rTermN N) b o m) : At F (rLn N (rI .i64)) b (o + 2) m.To := At.part 2 h (Nat.le_of_ble_eq_true rfl) (fun _ h => h.2.2.1)
theorem rTerm.any {N : Nat} {F : PH} {v : Value} {m : D.Term} (h : (rTermN N).ra F v m) : ∃ f, (rTermN N).ok F m f := by obtain ⟨l, _, _, h⟩ := h; exact ⟨_, h⟩
theorem rTerm.w_Imm {N : Nat} {F : PH} {m : D.Term} (h : ∃ f, (rTermN N).ok F m f) : IntKind.i32.wrap m.Imm = m.Imm := by obtain ⟨_, h⟩ := h; exact (h.2.2.2).2
theorem rTerm.open {N : Nat} {F : PH} {v : Value} {m : D.Term} (h : (rTermN N).ra F v m) : ∃ c1 c2, v = .agg #[.int .i64 m.Kind, c1, c2, .int .i32 m.Imm] ∧ (rLn N (rI .i64)).rv F c1 m.Args ∧ (rLn N (rI .i64)).rv F c2 m.To := by
  obtain ⟨l, rfl, hl, h⟩ := h
  match l, hl with
  | [a0, a1, a2, a3], _ =>
    obtain ⟨⟨h0, _⟩, h1, h2, ⟨h3, _⟩⟩ := h
    obtain rfl : a0 = _ := h0
    obtain rfl : a3 = _ := h3
    exact ⟨a1, a2, rfl, h1, h2⟩
theorem rTerm.mk {N : Nat} {F : PH} {m : D.Term} {c1 : Value} {c2 : Value} (h1 : (rLn N (rI .i64)).rv F c1 m.Args) (h2 : (rLn N (rI .i64)).rv F c2 m.To) (w0 : IntKind.i64.wrap m.Kind = m.Kind) (w3 : IntKind.i32.wrap m.Imm = m.Imm) : (rTermN N).ra F (.agg #[.int .i64 m.Kind, c1, c2, .int .i32 m.Imm]) m := ⟨[.int .i64 m.Kind, c1, c2, .int .i32 m.Imm], rfl, rfl, ⟨⟨rfl, w0⟩, h1, h2, ⟨rfl, w3⟩⟩⟩
structure D.Block where
  Phis : List D.Phi
  Ins : List D.Ins
  Term : D.Term
deriving DecidableEq
instance : Inhabited D.Block := ⟨⟨[], [], default⟩⟩
def rBlockN (N : Nat) : Rp D.Block := rM (rP (rLn N (rPhiN N)) (rP (rLn N (rInsN N)) (rTermN N))) (fun m => (m.Phis, m.Ins, m.Term))
abbrev rBlock : Rp D.Block := rBlockN 1073741824
theorem rBlock.at_Phis {N : Nat} {F : PH} {b o : Nat} {m : D.Block} (h : At F (rBlockN N) b o m) : At F (rLn N (rPhiN N)) b (o + 0) m.Phis := At.part 0 h (Nat.le_of_ble_eq_true rfl) (fun _ h => h.1)
theorem rBlock.at_Ins {N : Nat} {F : PH} {b o : Nat} {m : D.Block} (h : At F (rBlockN N) b o m) : At F (rLn N (rInsN N)) b (o + 1) m.Ins := At.part 1 h (Nat.le_of_ble_eq_true rfl) (fun _ h => h.2.1)
theorem rBlock.at_Term {N : Nat} {F : PH} {b o : Nat} {m : D.Block} (h : At F (rBlockN N) b o m) : At F (rTermN N) b (o + 2) m.Term := At.part 2 h (Nat.le_of_ble_eq_true rfl) (fun _ h => h.2.2)
theorem rBlock.open {N : Nat} {F : PH} {v : Value} {m : D.Block} (h : (rBlockN N).ra F v m) : ∃ c0 c1 c3 c4, v = .agg #[c0, c1, .int .i64 m.Term.Kind, c3, c4, .int .i32 m.Term.Imm] ∧ (rLn N (rPhiN N)).rv F c0 m.Phis ∧ (rLn N (rInsN N)).rv F c1 m.Ins ∧ (rLn N (rI .i64)).rv F c3 m.Term.Args ∧ (rLn N (rI .i64)).rv F c4 m.Term.To := by
  obtain ⟨l, rfl, hl, h⟩ := h
  match l, hl with
  | [a0, a1, a2, a3, a4, a5], _ =>
    obtain ⟨h0, h1, ⟨⟨h2, _⟩, h3, h4, ⟨h5, _⟩⟩⟩ := h
    obtain rfl : a2 = _ := h2
    obtain rfl : a5 = _ := h5
    exact ⟨a0, a1, a3, a4, rfl, h0, h1, h3, h4⟩
structure D.Func where
  Params : Int
  Blocks : List D.Block
deriving DecidableEq
instance : Inhabited D.Func := ⟨⟨0, []⟩⟩
def rFuncN (N : Nat) : Rp D.Func := rM (rP (rI .i64) (rLn N (rBlockN N))) (fun m => (m.Params, m.Blocks))
abbrev rFunc : Rp D.Func := rFuncN 1073741824
theorem rFunc.any {N : Nat} {F : PH} {v : Value} {m : D.Func} (h : (rFuncN N).ra F v m) : ∃ f, (rFuncN N).ok F m f := by obtain ⟨l, _, _, h⟩ := h; exact ⟨_, h⟩
theorem rFunc.w_Params {N : Nat} {F : PH} {m : D.Func} (h : ∃ f, (rFuncN N).ok F m f) : IntKind.i64.wrap m.Params = m.Params := by obtain ⟨_, h⟩ := h; exact (h.1).2
theorem rFunc.open {N : Nat} {F : PH} {v : Value} {m : D.Func} (h : (rFuncN N).ra F v m) : ∃ c1, v = .agg #[.int .i64 m.Params, c1] ∧ (rLn N (rBlockN N)).rv F c1 m.Blocks := by
  obtain ⟨l, rfl, hl, h⟩ := h
  match l, hl with
  | [a0, a1], _ =>
    obtain ⟨⟨h0, _⟩, h1⟩ := h
    obtain rfl : a0 = _ := h0
    exact ⟨a1, rfl, h1⟩
theorem rFunc.mk {N : Nat} {F : PH} {m : D.Func} {c1 : Value} (h1 : (rLn N (rBlockN N)).rv F c1 m.Blocks) (w0 : IntKind.i64.wrap m.Params = m.Params) : (rFuncN N).ra F (.agg #[.int .i64 m.Params, c1]) m := ⟨[.int .i64 m.Params, c1], rfl, rfl, ⟨⟨rfl, w0⟩, h1⟩⟩
structure D.jacquardref03_Thing where
  Block : Int
  Place : Int
  Makes : List Int
  Takes : List Int
deriving DecidableEq
instance : Inhabited D.jacquardref03_Thing := ⟨⟨0, 0, [], []⟩⟩
def rjacquardref03_ThingN (N : Nat) : Rp D.jacquardref03_Thing := rM (rP (rI .i64) (rP (rI .i64) (rP (rLn N (rI .i64)) (rLn N (rI .i64))))) (fun m => (m.Block, m.Place, m.Makes, m.Takes))
abbrev rjacquardref03_Thing : Rp D.jacquardref03_Thing := rjacquardref03_ThingN 1073741824
theorem rjacquardref03_Thing.at_Block {N : Nat} {F : PH} {b o : Nat} {m : D.jacquardref03_Thing} (h : At F (rjacquardref03_ThingN N) b o m) : At F (rI .i64) b (o + 0) m.Block := At.part 0 h (Nat.le_of_ble_eq_true rfl) (fun _ h => h.1)
theorem rjacquardref03_Thing.at_Makes {N : Nat} {F : PH} {b o : Nat} {m : D.jacquardref03_Thing} (h : At F (rjacquardref03_ThingN N) b o m) : At F (rLn N (rI .i64)) b (o + 2) m.Makes := At.part 2 h (Nat.le_of_ble_eq_true rfl) (fun _ h => h.2.2.1)
theorem rjacquardref03_Thing.any {N : Nat} {F : PH} {v : Value} {m : D.jacquardref03_Thing} (h : (rjacquardref03_ThingN N).ra F v m) : ∃ f, (rjacquardref03_ThingN N).ok F m f := by obtain ⟨l, _, _, h⟩ := h; exact ⟨_, h⟩
theorem rjacquardref03_Thing.open {N : Nat} {F : PH} {v : Value} {m : D.jacquardref03_Thing} (h : (rjacquardref03_ThingN N).ra F v m) : ∃ c2 c3, v = .agg #[.int .i64 m.Block, .int .i64 m.Place, c2, c3] ∧ (rLn N (rI .i64)).rv F c2 m.Makes ∧ (rLn N (rI .i64)).rv F c3 m.Takes := by
  obtain ⟨l, rfl, hl, h⟩ := h
  match l, hl with
  | [a0, a1, a2, a3], _ =>
    obtain ⟨⟨h0, _⟩, ⟨h1, _⟩, h2, h3⟩ := h
    obtain rfl : a0 = _ := h0
    obtain rfl : a1 = _ := h1
    exact ⟨a2, a3, rfl, h2, h3⟩
theorem rjacquardref03_Thing.mk {N : Nat} {F : PH} {m : D.jacquardref03_Thing} {c2 : Value} {c3 : Value} (h2 : (rLn N (rI .i64)).rv F c2 m.Makes) (h3 : (rLn N (rI .i64)).rv F c3 m.Takes) (w0 : IntKind.i64.wrap m.Block = m.Block) (w1 : IntKind.i64.wrap m.Place = m.Place) : (rjacquardref03_ThingN N).ra F (.agg #[.int .i64 m.Block, .int .i64 m.Place, c2, c3]) m := ⟨[.int .i64 m.Block, .int .i64 m.Place, c2, c3], rfl, rfl, ⟨⟨rfl, w0⟩, ⟨rfl, w1⟩, h2, h3⟩⟩
@[reducible] def vIn (m : D.In) (c : Unit) : Value := .agg #[.int .i64 m.From, .int .i64 m.Val]
theorem sIn : Sr rIn vIn := ⟨fun h => ⟨(), rIn.open h⟩⟩
theorem rIn.W_Val {Γ : List Dt} {L : List Res} {v : Value} {m : D.In} (h : Nd Γ L (da rIn v m)) : Wr Γ L .i64 m.Val := fun F H x y z => rIn.w_Val (m := m) (rIn.any (h F H x y z))
theorem rIn.A_From {Γ : List Dt} {L : List Res} {b o : Nat} {m : D.In} (h : Nd Γ L (ad rIn b o m)) : Nd Γ L (ad (rI .i64) b (o + 0) m.From) := fun F H x y z => rIn.at_From (h F H x y z)
theorem rIn.A_Val {Γ : List Dt} {L : List Res} {b o : Nat} {m : D.In} (h : Nd Γ L (ad rIn b o m)) : Nd Γ L (ad (rI .i64) b (o + 1) m.Val) := fun F H x y z => rIn.at_Val (h F H x y z)
theorem rIn.M {Γ : List Dt} {L : List Res} {m : D.In} {c : Unit}  (w0 : Wr Γ L .i64 m.From) (w1 : Wr Γ L .i64 m.Val) : Nd Γ L (da rIn (vIn m c) m) := fun F H x y z => rIn.mk (m := m) (w0 F H x y z) (w1 F H x y z)
@[reducible] def vPhi (m : D.Phi) (c : Value) : Value := .agg #[.int .i64 m.Dst, c]
theorem sPhi {N : Nat} : Sr (rPhiN N) vPhi := ⟨fun h => by obtain ⟨c1, e, _⟩ := rPhi.open h; exact ⟨c1, e⟩⟩
theorem rPhi.c_In {N : Nat} {Γ : List Dt} {L : List Res} {m : D.Phi} {c : Value} (h : Nd Γ L (da (rPhiN N) (vPhi m c) m)) : Nd Γ L (dv (rLn N rIn) c m.In) := fun F H x y z => leaf1 rfl ((ra_ok (h F H x y z)).2) rfl
theorem rPhi.W_Dst {N : Nat} {Γ : List Dt} {L : List Res} {v : Value} {m : D.Phi} (h : Nd Γ L (da (rPhiN N) v m)) : Wr Γ L .i64 m.Dst := fun F H x y z => rPhi.w_Dst (m := m) (rPhi.any (h F H x y z))
theorem rPhi.A_Dst {N : Nat} {Γ : List Dt} {L : List Res} {b o : Nat} {m : D.Phi} (h : Nd Γ L (ad (rPhiN N) b o m)) : Nd Γ L (ad (rI .i64) b (o + 0) m.Dst) := fun F H x y z => rPhi.at_Dst (h F H x y z)
theorem rPhi.A_In {N : Nat} {Γ : List Dt} {L : List Res} {b o : Nat} {m : D.Phi} (h : Nd Γ L (ad (rPhiN N) b o m)) : Nd Γ L (ad (rLn N rIn) b (o + 1) m.In) := fun F H x y z => rPhi.at_In (h F H x y z)
theorem rPhi.M {N : Nat} {Γ : List Dt} {L : List Res} {m : D.Phi} {c : Value} (h0 : Nd Γ L (dv (rLn N rIn) c m.In)) (w0 : Wr Γ L .i64 m.Dst) : Nd Γ L (da (rPhiN N) (vPhi m c) m) := fun F H x y z => rPhi.mk (m := m) (h0 F H x y z) (w0 F H x y z)
@[reducible] def vMach (m : D.Mach) (c : Value) : Value := .agg #[.int .i64 m.Op, .int .i64 m.D, .int .i64 m.E, .int .i64 m.A, .int .i64 m.B, .int .i64 m.C, .int .i32 m.Imm, c]
theorem sMach {N : Nat} : Sr (rMachN N) vMach := ⟨fun h => by obtain ⟨c7, e, _⟩ := rMach.open h; exact ⟨c7, e⟩⟩
theorem rMach.c_Args {N : Nat} {Γ : List Dt} {L : List Res} {m : D.Mach} {c : Value} (h : Nd Γ L (da (rMachN N) (vMach m c) m)) : Nd Γ L (dv (rLn N (rI .i64)) c m.Args) := fun F H x y z => leaf1 rfl ((ra_ok (h F H x y z)).2.2.2.2.2.2.2) rfl
theorem rMach.W_D {N : Nat} {Γ : List Dt} {L : List Res} {v : Value} {m : D.Mach} (h : Nd Γ L (da (rMachN N) v m)) : Wr Γ L .i64 m.D := fun F H x y z => rMach.w_D (m := m) (rMach.any (h F H x y z))
theorem rMach.W_E {N : Nat} {Γ : List Dt} {L : List Res} {v : Value} {m : D.Mach} (h : Nd Γ L (da (rMachN N) v m)) : Wr Γ L .i64 m.E := fun F H x y z => rMach.w_E (m := m) (rMach.any (h F H x y z))
theorem rMach.W_A {N : Nat} {Γ : List Dt} {L : List Res} {v : Value} {m : D.Mach} (h : Nd Γ L (da (rMachN N) v m)) : Wr Γ L .i64 m.A := fun F H x y z => rMach.w_A (m := m) (rMach.any (h F H x y z))
theorem rMach.W_B {N : Nat} {Γ : List Dt} {L : List Res} {v : Value} {m : D.Mach} (h : Nd Γ L (da (rMachN N) v m)) : Wr Γ L .i64 m.B := fun F H x y z => rMach.w_B (m := m) (rMach.any (h F H x y z))
theorem rMach.W_C {N : Nat} {Γ : List Dt} {L : List Res} {v : Value} {m : D.Mach} (h : Nd Γ L (da (rMachN N) v m)) : Wr Γ L .i64 m.C := fun F H x y z => rMach.w_C (m := m) (rMach.any (h F H x y z))
theorem rMach.W_Imm {N : Nat} {Γ : List Dt} {L : List Res} {v : Value} {m : D.Mach} (h : Nd Γ L (da (rMachN N) v m)) : Wr Γ L .i32 m.Imm := fun F H x y z => rMach.w_Imm (m := m) (rMach.any (h F H x y z))
theorem rMach.M {N : Nat} {Γ : List Dt} {L : List Res} {m : D.Mach} {c : Value} (h0 : Nd Γ L (dv (rLn N (rI .i64)) c m.Args)) (w0 : Wr Γ L .i64 m.Op) (w1 : Wr Γ L .i64 m.D) (w2 : Wr Γ L .i64 m.E) (w3 : Wr Γ L .i64 m.A) (w4 : Wr Γ L .i64 m.B) (w5 : Wr Γ L .i64 m.C) (w6 : Wr Γ L .i32 m.Imm) : Nd Γ L (da (rMachN N) (vMach m c) m) := fun F H x y z => rMach.mk (m := m) (h0 F H x y z) (w0 F H x y z) (w1 F H x y z) (w2 F H x y z) (w3 F H x y z) (w4 F H x y z) (w5 F H x y z) (w6 F H x y z)
@[reducible] def vEnd (m : D.End) (c : Value) : Value := .agg #[.int .i64 m.Op, .int .i64 m.A, .int .i64 m.B, c, .int .i32 m.Imm]
theorem sEnd {N : Nat} : Sr (rEndN N) vEnd := ⟨fun h => by obtain ⟨c3, e, _⟩ := rEnd.open h; exact ⟨c3, e⟩⟩
theorem rEnd.c_To {N : Nat} {Γ : List Dt} {L : List Res} {m : D.End} {c : Value} (h : Nd Γ L (da (rEndN N) (vEnd m c) m)) : Nd Γ L (dv (rLn N (rI .i64)) c m.To) := fun F H x y z => leaf1 rfl ((ra_ok (h F H x y z)).2.2.2.1) rfl
theorem rEnd.W_Op {N : Nat} {Γ : List Dt} {L : List Res} {v : Value} {m : D.End} (h : Nd Γ L (da (rEndN N) v m)) : Wr Γ L .i64 m.Op := fun F H x y z => rEnd.w_Op (m := m) (rEnd.any (h F H x y z))
theorem rEnd.W_A {N : Nat} {Γ : List Dt} {L : List Res} {v : Value} {m : D.End} (h : Nd Γ L (da (rEndN N) v m)) : Wr Γ L .i64 m.A := fun F H x y z => rEnd.w_A (m := m) (rEnd.any (h F H x y z))
theorem rEnd.W_B {N : Nat} {Γ : List Dt} {L : List Res} {v : Value} {m : D.End} (h : Nd Γ L (da (rEndN N) v m)) : Wr Γ L .i64 m.B := fun F H x y z => rEnd.w_B (m := m) (rEnd.any (h F H x y z))
theorem rEnd.W_Imm {N : Nat} {Γ : List Dt} {L : List Res} {v : Value} {m : D.End} (h : Nd Γ L (da (rEndN N) v m)) : Wr Γ L .i32 m.Imm := fun F H x y z => rEnd.w_Imm (m := m) (rEnd.any (h F H x y z))
theorem rEnd.A_To {N : Nat} {Γ : List Dt} {L : List Res} {b o : Nat} {m : D.End} (h : Nd Γ L (ad (rEndN N) b o m)) : Nd Γ L (ad (rLn N (rI .i64)) b (o + 3) m.To) := fun F H x y z => rEnd.at_To (h F H x y z)
theorem rEnd.M {N : Nat} {Γ : List Dt} {L : List Res} {m : D.End} {c : Value} (h0 : Nd Γ L (dv (rLn N (rI .i64)) c m.To)) (w0 : Wr Γ L .i64 m.Op) (w1 : Wr Γ L .i64 m.A) (w2 : Wr Γ L .i64 m.B) (w3 : Wr Γ L .i32 m.Imm) : Nd Γ L (da (rEndN N) (vEnd m c) m) := fun F H x y z => rEnd.mk (m := m) (h0 F H x y z) (w0 F H x y z) (w1 F H x y z) (w2 F H x y z) (w3 F H x y z)
@[reducible] def vMBlock (m : D.MBlock) (c : Value × Value × Value) : Value := .agg #[c.1, c.2.1, .int .i64 m.End.Op, .int .i64 m.End.A, .int .i64 m.End.B, c.2.2, .int .i32 m.End.Imm]
theorem sMBlock {N : Nat} : Sr (rMBlockN N) vMBlock := ⟨fun h => by obtain ⟨c0, c1, c5, e, _, _, _⟩ := rMBlock.open h; exact ⟨(c0, c1, c5), e⟩⟩
theorem rMBlock.c_Phis {N : Nat} {Γ : List Dt} {L : List Res} {m : D.MBlock} {c : Value × Value × Value} (h : Nd Γ L (da (rMBlockN N) (vMBlock m c) m)) : Nd Γ L (dv (rLn N (rPhiN N)) c.1 m.Phis) := fun F H x y z => leaf1 rfl ((ra_ok (h F H x y z)).1) rfl
theorem rMBlock.c_Ins {N : Nat} {Γ : List Dt} {L : List Res} {m : D.MBlock} {c : Value × Value × Value} (h : Nd Γ L (da (rMBlockN N) (vMBlock m c) m)) : Nd Γ L (dv (rLn N (rMachN N)) c.2.1 m.Ins) := fun F H x y z => leaf1 rfl ((ra_ok (h F H x y z)).2.1) rfl
theorem rMBlock.c_End_To {N : Nat} {Γ : List Dt} {L : List Res} {m : D.MBlock} {c : Value × Value × Value} (h : Nd Γ L (da (rMBlockN N) (vMBlock m c) m)) : Nd Γ L (dv (rLn N (rI .i64)) c.2.2 m.End.To) := fun F H x y z => leaf1 rfl ((ra_ok (h F H x y z)).2.2.2.2.2.1) rfl
theorem rMBlock.W_End_Op {N : Nat} {Γ : List Dt} {L : List Res} {v : Value} {m : D.MBlock} (h : Nd Γ L (da (rMBlockN N) v m)) : Wr Γ L .i64 m.End.Op := fun F H x y z => rEnd.w_Op (m := m.End) (rMBlock.k_End (m := m) (rMBlock.any (h F H x y z)))
theorem rMBlock.W_End_A {N : Nat} {Γ : List Dt} {L : List Res} {v : Value} {m : D.MBlock} (h : Nd Γ L (da (rMBlockN N) v m)) : Wr Γ L .i64 m.End.A := fun F H x y z => rEnd.w_A (m := m.End) (rMBlock.k_End (m := m) (rMBlock.any (h F H x y z)))
theorem rMBlock.W_End_B {N : Nat} {Γ : List Dt} {L : List Res} {v : Value} {m : D.MBlock} (h : Nd Γ L (da (rMBlockN N) v m)) : Wr Γ L .i64 m.End.B := fun F H x y z => rEnd.w_B (m := m.End) (rMBlock.k_End (m := m) (rMBlock.any (h F H x y z)))
theorem rMBlock.W_End_Imm {N : Nat} {Γ : List Dt} {L : List Res} {v : Value} {m : D.MBlock} (h : Nd Γ L (da (rMBlockN N) v m)) : Wr Γ L .i32 m.End.Imm := fun F H x y z => rEnd.w_Imm (m := m.End) (rMBlock.k_End (m := m) (rMBlock.any (h F H x y z)))
theorem rMBlock.A_Phis {N : Nat} {Γ : List Dt} {L : List Res} {b o : Nat} {m : D.MBlock} (h : Nd Γ L (ad (rMBlockN N) b o m)) : Nd Γ L (ad (rLn N (rPhiN N)) b (o + 0) m.Phis) := fun F H x y z => rMBlock.at_Phis (h F H x y z)
theorem rMBlock.A_Ins {N : Nat} {Γ : List Dt} {L : List Res} {b o : Nat} {m : D.MBlock} (h : Nd Γ L (ad (rMBlockN N) b o m)) : Nd Γ L (ad (rLn N (rMachN N)) b (o + 1) m.Ins) := fun F H x y z => rMBlock.at_Ins (h F H x y z)
theorem rMBlock.A_End {N : Nat} {Γ : List Dt} {L : List Res} {b o : Nat} {m : D.MBlock} (h : Nd Γ L (ad (rMBlockN N) b o m)) : Nd Γ L (ad (rEndN N) b (o + 2) m.End) := fun F H x y z => rMBlock.at_End (h F H x y z)
theorem rMBlock.P_End {N : Nat} {Γ : List Dt} {L : List Res} {m : D.MBlock} {c : Value × Value × Value} (h : Nd Γ L (da (rMBlockN N) (vMBlock m c) m)) : Nd Γ L (da (rEndN N) (vEnd m.End c.2.2) m.End) := rEnd.M (m := m.End) (c := c.2.2) (rMBlock.c_End_To h) (rMBlock.W_End_Op h) (rMBlock.W_End_A h) (rMBlock.W_End_B h) (rMBlock.W_End_Imm h)
theorem rMBlock.M {N : Nat} {Γ : List Dt} {L : List Res} {m : D.MBlock} {c : Value × Value × Value} (h0 : Nd Γ L (dv (rLn N (rPhiN N)) c.1 m.Phis)) (h1 : Nd Γ L (dv (rLn N (rMachN N)) c.2.1 m.Ins)) (h2 : Nd Γ L (dv (rLn N (rI .i64)) c.2.2 m.End.To)) (w0 : Wr Γ L .i64 m.End.Op) (w1 : Wr Γ L .i64 m.End.A) (w2 : Wr Γ L .i64 m.End.B) (w3 : Wr Γ L .i32 m.End.Imm) : Nd Γ L (da (rMBlockN N) (vMBlock m c) m) := fun F H x y z => rMBlock.mk (m := m) (h0 F H x y z) (h1 F H x y z) (h2 F H x y z) (w0 F H x y z) (w1 F H x y z) (w2 F H x y z) (w3 F H x y z)
@[reducible] def vMFunc (m : D.MFunc) (c : Value) : Value := .agg #[.int .i64 m.Params, c]
theorem sMFunc {N : Nat} : Sr (rMFuncN N) vMFunc := ⟨fun h => by obtain ⟨c1, e, _⟩ := rMFunc.open h; exact ⟨c1, e⟩⟩
theorem rMFunc.c_Blocks {N : Nat} {Γ : List Dt} {L : List Res} {m : D.MFunc} {c : Value} (h : Nd Γ L (da (rMFuncN N) (vMFunc m c) m)) : Nd Γ L (dv (rLn N (rMBlockN N)) c m.Blocks) := fun F H x y z => leaf1 rfl ((ra_ok (h F H x y z)).2) rfl
theorem rMFunc.W_Params {N : Nat} {Γ : List Dt} {L : List Res} {v : Value} {m : D.MFunc} (h : Nd Γ L (da (rMFuncN N) v m)) : Wr Γ L .i64 m.Params := fun F H x y z => rMFunc.w_Params (m := m) (rMFunc.any (h F H x y z))
theorem rMFunc.M {N : Nat} {Γ : List Dt} {L : List Res} {m : D.MFunc} {c : Value} (h0 : Nd Γ L (dv (rLn N (rMBlockN N)) c m.Blocks)) (w0 : Wr Γ L .i64 m.Params) : Nd Γ L (da (rMFuncN N) (vMFunc m c) m) := fun F H x y z => rMFunc.mk (m := m) (h0 F H x y z) (w0 F H x y z)
@[reducible] def vInput (m : D.Input) (c : Value × Value × Value) : Value := .agg #[c.1, c.2.1, c.2.2, .int .i64 m.Steps]
theorem sInput {N : Nat} : Sr (rInputN N) vInput := ⟨fun h => by obtain ⟨c0, c1, c2, e, _, _, _⟩ := rInput.open h; exact ⟨(c0, c1, c2), e⟩⟩
theorem rInput.c_Args {N : Nat} {Γ : List Dt} {L : List Res} {m : D.Input} {c : Value × Value × Value} (h : Nd Γ L (da (rInputN N) (vInput m c) m)) : Nd Γ L (dv (rLn N (rI .i32)) c.1 m.Args) := fun F H x y z => leaf1 rfl ((ra_ok (h F H x y z)).1) rfl
theorem rInput.c_Mem {N : Nat} {Γ : List Dt} {L : List Res} {m : D.Input} {c : Value × Value × Value} (h : Nd Γ L (da (rInputN N) (vInput m c) m)) : Nd Γ L (dv (rLn N (rI .i32)) c.2.1 m.Mem) := fun F H x y z => leaf1 rfl ((ra_ok (h F H x y z)).2.1) rfl
theorem rInput.c_Answers {N : Nat} {Γ : List Dt} {L : List Res} {m : D.Input} {c : Value × Value × Value} (h : Nd Γ L (da (rInputN N) (vInput m c) m)) : Nd Γ L (dv (rLn N (rI .i32)) c.2.2 m.Answers) := fun F H x y z => leaf1 rfl ((ra_ok (h F H x y z)).2.2.1) rfl
theorem rInput.M {N : Nat} {Γ : List Dt} {L : List Res} {m : D.Input} {c : Value × Value × Value} (h0 : Nd Γ L (dv (rLn N (rI .i32)) c.1 m.Args)) (h1 : Nd Γ L (dv (rLn N (rI .i32)) c.2.1 m.Mem)) (h2 : Nd Γ L (dv (rLn N (rI .i32)) c.2.2 m.Answers)) (w0 : Wr Γ L .i64 m.Steps) : Nd Γ L (da (rInputN N) (vInput m c) m) := fun F H x y z => rInput.mk (m := m) (h0 F H x y z) (h1 F H x y z) (h2 F H x y z) (w0 F H x y z)
@[reducible] def vEvent (m : D.Event) (c : Value) : Value := .agg #[.int .i32 m.Callee, c]
theorem sEvent {N : Nat} : Sr (rEventN N) vEvent := ⟨fun h => by obtain ⟨c1, e, _⟩ := rEvent.open h; exact ⟨c1, e⟩⟩
theorem rEvent.M {N : Nat} {Γ : List Dt} {L : List Res} {m : D.Event} {c : Value} (h0 : Nd Γ L (dv (rLn N (rI .i32)) c m.Args)) (w0 : Wr Γ L .i32 m.Callee) : Nd Γ L (da (rEventN N) (vEvent m c) m) := fun F H x y z => rEvent.mk (m := m) (h0 F H x y z) (w0 F H x y z)
@[reducible] def vOutcome (m : D.Outcome) (c : Value × Value) : Value := .agg #[.int .i64 m.End, .int .i32 m.Val, c.1, c.2, .int .i64 m.Steps]
theorem sOutcome {N : Nat} : Sr (rOutcomeN N) vOutcome := ⟨fun h => by obtain ⟨c2, c3, e, _, _⟩ := rOutcome.open h; exact ⟨(c2, c3), e⟩⟩
theorem rOutcome.c_Mem {N : Nat} {Γ : List Dt} {L : List Res} {m : D.Outcome} {c : Value × Value} (h : Nd Γ L (da (rOutcomeN N) (vOutcome m c) m)) : Nd Γ L (dv (rLn N (rI .i32)) c.1 m.Mem) := fun F H x y z => leaf1 rfl ((ra_ok (h F H x y z)).2.2.1) rfl
theorem rOutcome.c_Calls {N : Nat} {Γ : List Dt} {L : List Res} {m : D.Outcome} {c : Value × Value} (h : Nd Γ L (da (rOutcomeN N) (vOutcome m c) m)) : Nd Γ L (dv (rLn N (rEventN N)) c.2 m.Calls) := fun F H x y z => leaf1 rfl ((ra_ok (h F H x y z)).2.2.2.1) rfl
theorem rOutcome.M {N : Nat} {Γ : List Dt} {L : List Res} {m : D.Outcome} {c : Value × Value} (h0 : Nd Γ L (dv (rLn N (rI .i32)) c.1 m.Mem)) (h1 : Nd Γ L (dv (rLn N (rEventN N)) c.2 m.Calls)) (w0 : Wr Γ L .i64 m.End) (w1 : Wr Γ L .i32 m.Val) (w2 : Wr Γ L .i64 m.Steps) : Nd Γ L (da (rOutcomeN N) (vOutcome m c) m) := fun F H x y z => rOutcome.mk (m := m) (h0 F H x y z) (h1 F H x y z) (w0 F H x y z) (w1 F H x y z) (w2 F H x y z)
@[reducible] def vjacquardref07_Got (m : D.jacquardref07_Got) (c : Unit) : Value := .agg #[.int .i64 m.E, .int .i64 m.Block, .int .i64 m.Place]
theorem sjacquardref07_Got : Sr rjacquardref07_Got vjacquardref07_Got := ⟨fun h => ⟨(), rjacquardref07_Got.open h⟩⟩
theorem rjacquardref07_Got.W_E {Γ : List Dt} {L : List Res} {v : Value} {m : D.jacquardref07_Got} (h : Nd Γ L (da rjacquardref07_Got v m)) : Wr Γ L .i64 m.E := fun F H x y z => rjacquardref07_Got.w_E (m := m) (rjacquardref07_Got.any (h F H x y z))
theorem rjacquardref07_Got.A_Block {Γ : List Dt} {L : List Res} {b o : Nat} {m : D.jacquardref07_Got} (h : Nd Γ L (ad rjacquardref07_Got b o m)) : Nd Γ L (ad (rI .i64) b (o + 1) m.Block) := fun F H x y z => rjacquardref07_Got.at_Block (h F H x y z)
theorem rjacquardref07_Got.M {Γ : List Dt} {L : List Res} {m : D.jacquardref07_Got} {c : Unit}  (w0 : Wr Γ L .i64 m.E) (w1 : Wr Γ L .i64 m.Block) (w2 : Wr Γ L .i64 m.Place) : Nd Γ L (da rjacquardref07_Got (vjacquardref07_Got m c) m) := fun F H x y z => rjacquardref07_Got.mk (m := m) (w0 F H x y z) (w1 F H x y z) (w2 F H x y z)
@[reducible] def vIns (m : D.Ins) (c : Value) : Value := .agg #[.int .i64 m.Op, .int .i64 m.Dst, .int .i64 m.Two, c, .int .i32 m.Imm]
theorem sIns {N : Nat} : Sr (rInsN N) vIns := ⟨fun h => by obtain ⟨c3, e, _⟩ := rIns.open h; exact ⟨c3, e⟩⟩
theorem rIns.c_Args {N : Nat} {Γ : List Dt} {L : List Res} {m : D.Ins} {c : Value} (h : Nd Γ L (da (rInsN N) (vIns m c) m)) : Nd Γ L (dv (rLn N (rI .i64)) c m.Args) := fun F H x y z => leaf1 rfl ((ra_ok (h F H x y z)).2.2.2.1) rfl
theorem rIns.W_Dst {N : Nat} {Γ : List Dt} {L : List Res} {v : Value} {m : D.Ins} (h : Nd Γ L (da (rInsN N) v m)) : Wr Γ L .i64 m.Dst := fun F H x y z => rIns.w_Dst (m := m) (rIns.any (h F H x y z))
theorem rIns.W_Two {N : Nat} {Γ : List Dt} {L : List Res} {v : Value} {m : D.Ins} (h : Nd Γ L (da (rInsN N) v m)) : Wr Γ L .i64 m.Two := fun F H x y z => rIns.w_Two (m := m) (rIns.any (h F H x y z))
theorem rIns.W_Imm {N : Nat} {Γ : List Dt} {L : List Res} {v : Value} {m : D.Ins} (h : Nd Γ L (da (rInsN N) v m)) : Wr Γ L .i32 m.Imm := fun F H x y z => rIns.w_Imm (m := m) (rIns.any (h F H x y z))
theorem rIns.A_Args {N : Nat} {Γ : List Dt} {L : List Res} {b o : Nat} {m : D.Ins} (h : Nd Γ L (ad (rInsN N) b o m)) : Nd Γ L (ad (rLn N (rI .i64)) b (o + 3) m.Args) := fun F H x y z => rIns.at_Args (h F H x y z)
theorem rIns.M {N : Nat} {Γ : List Dt} {L : List Res} {m : D.Ins} {c : Value} (h0 : Nd Γ L (dv (rLn N (rI .i64)) c m.Args)) (w0 : Wr Γ L .i64 m.Op) (w1 : Wr Γ L .i64 m.Dst) (w2 : Wr Γ L .i64 m.Two) (w3 : Wr Γ L .i32 m.Imm) : Nd Γ L (da (rInsN N) (vIns m c) m) := fun F H x y z => rIns.mk (m := m) (h0 F H x y z) (w0 F H x y z) (w1 F H x y z) (w2 F H x y z) (w3 F H x y z)
@[reducible] def vTerm (m : D.Term) (c : Value × Value) : Value := .agg #[.int .i64 m.Kind, c.1, c.2, .int .i32 m.Imm]
theorem sTerm {N : Nat} : Sr (rTermN N) vTerm := ⟨fun h => by obtain ⟨c1, c2, e, _, _⟩ := rTerm.open h; exact ⟨(c1, c2), e⟩⟩
theorem rTerm.c_Args {N : Nat} {Γ : List Dt} {L : List Res} {m : D.Term} {c : Value × Value} (h : Nd Γ L (da (rTermN N) (vTerm m c) m)) : Nd Γ L (dv (rLn N (rI .i64)) c.1 m.Args) := fun F H x y z => leaf1 rfl ((ra_ok (h F H x y z)).2.1) rfl
theorem rTerm.c_To {N : Nat} {Γ : List Dt} {L : List Res} {m : D.Term} {c : Value × Value} (h : Nd Γ L (da (rTermN N) (vTerm m c) m)) : Nd Γ L (dv (rLn N (rI .i64)) c.2 m.To) := fun F H x y z => leaf1 rfl ((ra_ok (h F H x y z)).2.2.1) rfl
theorem rTerm.W_Imm {N : Nat} {Γ : List Dt} {L : List Res} {v : Value} {m : D.Term} (h : Nd Γ L (da (rTermN N) v m)) : Wr Γ L .i32 m.Imm := fun F H x y z => rTerm.w_Imm (m := m) (rTerm.any (h F H x y z))
theorem rTerm.A_To {N : Nat} {Γ : List Dt} {L : List Res} {b o : Nat} {m : D.Term} (h : Nd Γ L (ad (rTermN N) b o m)) : Nd Γ L (ad (rLn N (rI .i64)) b (o + 2) m.To) := fun F H x y z => rTerm.at_To (h F H x y z)
theorem rTerm.M {N : Nat} {Γ : List Dt} {L : List Res} {m : D.Term} {c : Value × Value} (h0 : Nd Γ L (dv (rLn N (rI .i64)) c.1 m.Args)) (h1 : Nd Γ L (dv (rLn N (rI .i64)) c.2 m.To)) (w0 : Wr Γ L .i64 m.Kind) (w1 : Wr Γ L .i32 m.Imm) : Nd Γ L (da (rTermN N) (vTerm m c) m) := fun F H x y z => rTerm.mk (m := m) (h0 F H x y z) (h1 F H x y z) (w0 F H x y z) (w1 F H x y z)
@[reducible] def vBlock (m : D.Block) (c : Value × Value × Value × Value) : Value := .agg #[c.1, c.2.1, .int .i64 m.Term.Kind, c.2.2.1, c.2.2.2, .int .i32 m.Term.Imm]
theorem sBlock {N : Nat} : Sr (rBlockN N) vBlock := ⟨fun h => by obtain ⟨c0, c1, c3, c4, e, _, _, _, _⟩ := rBlock.open h; exact ⟨(c0, c1, c3, c4), e⟩⟩
theorem rBlock.c_Phis {N : Nat} {Γ : List Dt} {L : List Res} {m : D.Block} {c : Value × Value × Value × Value} (h : Nd Γ L (da (rBlockN N) (vBlock m c) m)) : Nd Γ L (dv (rLn N (rPhiN N)) c.1 m.Phis) := fun F H x y z => leaf1 rfl ((ra_ok (h F H x y z)).1) rfl
theorem rBlock.c_Ins {N : Nat} {Γ : List Dt} {L : List Res} {m : D.Block} {c : Value × Value × Value × Value} (h : Nd Γ L (da (rBlockN N) (vBlock m c) m)) : Nd Γ L (dv (rLn N (rInsN N)) c.2.1 m.Ins) := fun F H x y z => leaf1 rfl ((ra_ok (h F H x y z)).2.1) rfl
theorem rBlock.c_Term_Args {N : Nat} {Γ : List Dt} {L : List Res} {m : D.Block} {c : Value × Value × Value × Value} (h : Nd Γ L (da (rBlockN N) (vBlock m c) m)) : Nd Γ L (dv (rLn N (rI .i64)) c.2.2.1 m.Term.Args) := fun F H x y z => leaf1 rfl ((ra_ok (h F H x y z)).2.2.2.1) rfl
theorem rBlock.c_Term_To {N : Nat} {Γ : List Dt} {L : List Res} {m : D.Block} {c : Value × Value × Value × Value} (h : Nd Γ L (da (rBlockN N) (vBlock m c) m)) : Nd Γ L (dv (rLn N (rI .i64)) c.2.2.2 m.Term.To) := fun F H x y z => leaf1 rfl ((ra_ok (h F H x y z)).2.2.2.2.1) rfl
theorem rBlock.A_Phis {N : Nat} {Γ : List Dt} {L : List Res} {b o : Nat} {m : D.Block} (h : Nd Γ L (ad (rBlockN N) b o m)) : Nd Γ L (ad (rLn N (rPhiN N)) b (o + 0) m.Phis) := fun F H x y z => rBlock.at_Phis (h F H x y z)
theorem rBlock.A_Ins {N : Nat} {Γ : List Dt} {L : List Res} {b o : Nat} {m : D.Block} (h : Nd Γ L (ad (rBlockN N) b o m)) : Nd Γ L (ad (rLn N (rInsN N)) b (o + 1) m.Ins) := fun F H x y z => rBlock.at_Ins (h F H x y z)
theorem rBlock.A_Term {N : Nat} {Γ : List Dt} {L : List Res} {b o : Nat} {m : D.Block} (h : Nd Γ L (ad (rBlockN N) b o m)) : Nd Γ L (ad (rTermN N) b (o + 2) m.Term) := fun F H x y z => rBlock.at_Term (h F H x y z)
@[reducible] def vFunc (m : D.Func) (c : Value) : Value := .agg #[.int .i64 m.Params, c]
theorem sFunc {N : Nat} : Sr (rFuncN N) vFunc := ⟨fun h => by obtain ⟨c1, e, _⟩ := rFunc.open h; exact ⟨c1, e⟩⟩
theorem rFunc.c_Blocks {N : Nat} {Γ : List Dt} {L : List Res} {m : D.Func} {c : Value} (h : Nd Γ L (da (rFuncN N) (vFunc m c) m)) : Nd Γ L (dv (rLn N (rBlockN N)) c m.Blocks) := fun F H x y z => leaf1 rfl ((ra_ok (h F H x y z)).2) rfl
theorem rFunc.W_Params {N : Nat} {Γ : List Dt} {L : List Res} {v : Value} {m : D.Func} (h : Nd Γ L (da (rFuncN N) v m)) : Wr Γ L .i64 m.Params := fun F H x y z => rFunc.w_Params (m := m) (rFunc.any (h F H x y z))
theorem rFunc.M {N : Nat} {Γ : List Dt} {L : List Res} {m : D.Func} {c : Value} (h0 : Nd Γ L (dv (rLn N (rBlockN N)) c m.Blocks)) (w0 : Wr Γ L .i64 m.Params) : Nd Γ L (da (rFuncN N) (vFunc m c) m) := fun F H x y z => rFunc.mk (m := m) (h0 F H x y z) (w0 F H x y z)
@[reducible] def vjacquardref03_Thing (m : D.jacquardref03_Thing) (c : Value × Value) : Value := .agg #[.int .i64 m.Block, .int .i64 m.Place, c.1, c.2]
theorem sjacquardref03_Thing {N : Nat} : Sr (rjacquardref03_ThingN N) vjacquardref03_Thing := ⟨fun h => by obtain ⟨c2, c3, e, _, _⟩ := rjacquardref03_Thing.open h; exact ⟨(c2, c3), e⟩⟩
theorem rjacquardref03_Thing.A_Block {N : Nat} {Γ : List Dt} {L : List Res} {b o : Nat} {m : D.jacquardref03_Thing} (h : Nd Γ L (ad (rjacquardref03_ThingN N) b o m)) : Nd Γ L (ad (rI .i64) b (o + 0) m.Block) := fun F H x y z => rjacquardref03_Thing.at_Block (h F H x y z)
theorem rjacquardref03_Thing.A_Makes {N : Nat} {Γ : List Dt} {L : List Res} {b o : Nat} {m : D.jacquardref03_Thing} (h : Nd Γ L (ad (rjacquardref03_ThingN N) b o m)) : Nd Γ L (ad (rLn N (rI .i64)) b (o + 2) m.Makes) := fun F H x y z => rjacquardref03_Thing.at_Makes (h F H x y z)
theorem rjacquardref03_Thing.M {N : Nat} {Γ : List Dt} {L : List Res} {m : D.jacquardref03_Thing} {c : Value × Value} (h0 : Nd Γ L (dv (rLn N (rI .i64)) c.1 m.Makes)) (h1 : Nd Γ L (dv (rLn N (rI .i64)) c.2 m.Takes)) (w0 : Wr Γ L .i64 m.Block) (w1 : Wr Γ L .i64 m.Place) : Nd Γ L (da (rjacquardref03_ThingN N) (vjacquardref03_Thing m c) m) := fun F H x y z => rjacquardref03_Thing.mk (m := m) (h0 F H x y z) (h1 F H x y z) (w0 F H x y z) (w1 F H x y z)
end Go.Proofs.YtdlcjaefkjbonaaGreat
namespace Go.Proofs.YtdlcjaefkjbonaaGreat
set_option linter.unusedVariables false
set_option linter.unusedSimpArgs false
set_option linter.unusedSectionVars false
open Go.JE
def bitM (b : Bool) : Int := if b then 1 else 0
abbrev w32 (n : Int) : Int := IntKind.i32.wrap n
abbrev u32 (n : Int) : Int := IntKind.u32.wrap n
def shlM (a b : Int) : Int := w32 (a * 2 ^ (b % 32).toNat)
def shrM (a b : Int) : Int := w32 ((u32 a).fdiv (2 ^ (b % 32).toNat))
def sarM (a b : Int) : Int := a.fdiv (2 ^ (b % 32).toNat)
def divM (a b : Int) : Int := w32 (a.tdiv b)
def doM (op a b : Int) : Int × Bool :=
  if op = 2 then (w32 (a + b), true)
  else if op = 3 then (w32 (a - b), true)
  else if op = 4 then (w32 (a * b), true)
  else if op = 5 then (andI .i32 a b, true)
  else if op = 6 then (orI .i32 a b, true)
  else if op = 7 then (xorI .i32 a b, true)
  else if op = 8 then (shlM a b, true)
  else if op = 9 then (shrM a b, true)
  else if op = 10 then (sarM a b, true)
  else if op = 11 then (bitM (decide (a = b)), true)
  else if op = 12 then (bitM (decide (a < b)), true)
  else if op = 13 then (bitM (decide (u32 a < u32 b)), true)
  else if op = 14 then (if b = 0 then (0, false) else (divM a b, true))
  else (0, false)
def wideM (a b : Int) : Int × Int := (w32 (a * b), w32 ((a * b).fdiv 4294967296))
def fitsM (n bits : Int) : Bool := if bits < 1 then decide (n = 0) else if 32 < bits then true else decide (-(2 ^ (bits - 1).toNat) ≤ n ∧ n < 2 ^ (bits - 1).toNat)
theorem b32 (b : Int) : IntKind.u32.wrap b % 32 = b % 32 := by rw [IntKind.wrap_u32]; omega
theorem tmod32 (b : Int) : Int.tmod (IntKind.u32.wrap b) 32 = b % 32 := by rw [Int.tmod_eq_emod_of_nonneg (u32_nn b), b32]
theorem min32 (b : Int) : min (b % 32).toNat 32 = (b % 32).toNat := by omega
theorem shl_prog (a b : Int) : shlI .i32 a (Int.tmod (IntKind.u32.wrap b) 32) = shlM a b := by
  rw [tmod32]; unfold shlI shlM
  show w32 (a * 2 ^ (min (b % 32).toNat 32)) = _
  rw [min32]
theorem shr_prog (a b : Int) : IntKind.i32.wrap (shrI .u32 (IntKind.u32.wrap a) (Int.tmod (IntKind.u32.wrap b) 32)) = shrM a b := by
  rw [tmod32]; unfold shrI shrM
  show w32 ((u32 a).fdiv (2 ^ (min (b % 32).toNat 32))) = _
  rw [min32]
theorem sar_prog (a b : Int) : shrI .i32 a (Int.tmod (IntKind.u32.wrap b) 32) = sarM a b := by
  rw [tmod32]; unfold shrI sarM
  show a.fdiv (2 ^ (min (b % 32).toNat 32)) = _
  rw [min32]
theorem mul_rng {a b : Int} (ha : -2147483648 ≤ a ∧ a ≤ 2147483647) (hb : -2147483648 ≤ b ∧ b ≤ 2147483647) : -4611686018427387904 ≤ a * b ∧ a * b ≤ 4611686018427387904 := by
  have h1 : (a * b).natAbs = a.natAbs * b.natAbs := Int.natAbs_mul a b
  have h2 : a.natAbs * b.natAbs ≤ 2147483648 * 2147483648 := Nat.mul_le_mul (by omega) (by omega)
  omega
theorem fits_prog {n bits : Int} (hn : IntKind.i32.wrap n = n) (h1 : ¬ bits < 1) (h2 : ¬ 32 < bits) : decide (shrI .i32 (shlI .i32 n (32 - bits)) (32 - bits) = n) = fitsM n bits := by
  unfold fitsM
  rw [if_neg h1, if_neg h2]
  have hb : bits = 32 - (32 - bits).toNat := by omega
  have hs : (32 - bits).toNat ≤ 31 := by omega
  have hr := i32_rng hn
  have h5 : (bits - 1).toNat = 31 - (32 - bits).toNat := by omega
  rw [h5]
  generalize hk : (32 - bits).toNat = k at hs ⊢
  have h6 : 32 - bits = (k : Int) := by omega
  rw [h6]
  have hmin : min k 32 = k := by omega
  have e1 : shrI .i32 (shlI .i32 n k) k = (IntKind.i32.wrap (n * 2 ^ k)).fdiv (2 ^ k) := by
    show (IntKind.i32.wrap (n * 2 ^ (min k 32))).fdiv (2 ^ (min k 32)) = _
    rw [hmin]
  simp only [e1, IntKind.wrap_i32]
  clear h6 h5 hb h1 h2 hk hmin e1
  have hk : k = 0 ∨ k = 1 ∨ k = 2 ∨ k = 3 ∨ k = 4 ∨ k = 5 ∨ k = 6 ∨ k = 7 ∨ k = 8 ∨ k = 9 ∨ k = 10 ∨ k = 11 ∨ k = 12 ∨ k = 13 ∨ k = 14 ∨ k = 15 ∨ k = 16 ∨ k = 17 ∨ k = 18 ∨ k = 19 ∨ k = 20 ∨ k = 21 ∨ k = 22 ∨ k = 23 ∨ k = 24 ∨ k = 25 ∨ k = 26 ∨ k = 27 ∨ k = 28 ∨ k = 29 ∨ k = 30 ∨ k = 31 := by omega
  rcases hk with rfl | rfl | rfl | rfl | rfl | rfl | rfl | rfl | rfl | rfl | rfl | rfl | rfl | rfl | rfl | rfl | rfl | rfl | rfl | rfl | rfl | rfl | rfl | rfl | rfl | rfl | rfl | rfl | rfl | rfl | rfl | rfl <;>
    (rw [Int.fdiv_eq_ediv_of_nonneg _ (by decide), decide_eq_decide]; simp only [Int.reducePow, Nat.reduceSub]; omega)
theorem fits_ref {n bits : Int} (hn : IntKind.i32.wrap n = n) (h1 : ¬ bits < 1) (h2 : ¬ 32 < bits) :
    (decide (IntKind.i64.wrap (0 - shlI .i64 1 (bits - 1)) ≤ n) && decide (n < shlI .i64 1 (bits - 1))) = fitsM n bits := by
  have hr := i32_rng hn
  unfold fitsM
  rw [if_neg h1, if_neg h2]
  unfold shlI
  have hs : (bits - 1).toNat ≤ 31 := by omega
  generalize (bits - 1).toNat = k at hs ⊢
  have hmin : min k IntKind.i64.bits = k := by show min k 64 = k; omega
  rw [hmin]
  have hpn : 2 ^ k ≤ 2 ^ 31 := Nat.pow_le_pow_right (by decide) hs
  have hp : (2 : Int) ^ k ≤ 2 ^ 31 := by exact_mod_cast hpn
  have hp0 : (0 : Int) < 2 ^ k := Int.pow_pos (by decide)
  have h31 : (2 : Int) ^ 31 = 2147483648 := by decide
  rw [Int.one_mul, IntWalk.i64_in (2 ^ k) (by omega), IntWalk.i64_in (0 - 2 ^ k) (by omega)]
  rw [Bool.eq_iff_iff]
  simp only [Bool.and_eq_true, decide_eq_true_eq]
  omega
end Go.Proofs.YtdlcjaefkjbonaaGreat
namespace Go.Proofs.YtdlcjaefkjbonaaGreat
set_option linter.unusedVariables false
set_option linter.unusedSimpArgs false
set_option linter.unusedSectionVars false
open Go.JE
abbrev U139 := @Tryz.underlying139
abbrev U2 := @Tryz.underlying2
abbrev U21 := @Tryz.underlying21
theorem wbit_ct (b : Bool) : Tv Tryz.prog 129 #[.bool b] [] [] (.int .i32 (bitM b)) := by
  refine jenter (args := [.bool b]) Tryz.func129 rfl rfl rfl fun w0 X => ?_
  refine jq (jr (ja ζ (jn (jx (jq (jq (jr (jm ζ (jn (jx ?_))))))))))
  refine jif ζ (fun hc1 => ?_) (fun hc1 => ?_)
  refine jq (jr (ja ζ (jn (jx (jrt (jtr ?_))))))
  exact jrI ζ ζ (by first | (simp [bitM, hc1]; done) | (unfold bitM; (repeat' split) <;> first | rfl | (exfalso; omega) | (simp [bitM, hc1]; done)))
  refine jsk (jx (jq (jr (ja ζ (jn (jx (jrt ?_)))))))
  exact jrI ζ ζ (by first | (simp [bitM, hc1]; done) | (unfold bitM; (repeat' split) <;> first | rfl | (exfalso; omega) | (simp [bitM, hc1]; done)))
theorem rFits_ct (n : Int) (bits : Int) (ww0 : IntKind.i32.wrap n = n) : Tv Tryz.prog 147 #[.int .i32 n, .int .i64 bits] [] [] (.bool (fitsM n bits)) := by
  refine jenter (args := [.int .i32 n, .int .i64 bits]) Tryz.func147 rfl rfl rfl fun w0 X => ?_
  refine jq (jr (ja ζ (jn (jx (jq (jq (jr (jm ζ (js (jlss ζ ζ) (jn (jx ?_)))))))))))
  refine jif ζ (fun hc1 => ?_) (fun hc1 => ?_)
  refine jq (jr (jm ζ (js (jeql ζ ζ) (ja ζ (jn (jx (jrt (jtr ?_))))))))
  exact jrB ζ ζ (by first | (simp [fitsM, *]; done) | exact (fits_ref ww0 hc1 hc2).symm | exact (fits_ref ww0 ‹_› ‹_›).symm)
  refine jsk (jx (jq (jq (jr (jm ζ (js (jgtr ζ ζ) (jn (jx ?_))))))))
  refine jif ζ (fun hc2 => ?_) (fun hc2 => ?_)
  refine jq (jr (ja ζ (jn (jx (jrt (jtr ?_))))))
  exact jrB ζ ζ (by first | (simp [fitsM, *]; done) | exact (fits_ref ww0 hc1 hc2).symm | exact (fits_ref ww0 ‹_› ‹_›).symm)
  refine jsk (jx (jq (jr (jm ζ (js (jsub ζ ζ (by omega)) (js (jshl ζ ζ (by omega)) (ja ζ (jn (jx (jq (jr ?_)))))))))))
  refine jm ζ (js (jco U21 U2 ζ (up_i32_i64 ww0)) (jm ζ (js (jneg ζ) (js (jgeq ζ ζ) (jm ζ (jg ζ ζ (.t _) (fun hg => jmv ζ) (jg ζ ζ (.t _) (fun hg => jco U21 U2 (evg ζ hg) (up_i32_i64 ww0)) (jg ζ ζ (.t _) (fun hg => jmv ζ) (jg ζ ζ (.t _) (fun hg => jlss (evg ζ hg) (evg ζ hg)) (js (jand ζ ζ) (ja ζ ?_)))))))))))
  refine jn (jx (jrt ?_))
  exact jrB ζ ζ (by first | (simp [fitsM, *]; done) | exact (fits_ref ww0 hc1 hc2).symm | exact (fits_ref ww0 ‹_› ‹_›).symm)
theorem wFits_ct (n : Int) (bits : Int) (ww0 : IntKind.i32.wrap n = n) : Tv Tryz.prog 137 #[.int .i32 n, .int .i64 bits] [] [] (.bool (fitsM n bits)) := by
  refine jenter (args := [.int .i32 n, .int .i64 bits]) Tryz.func137 rfl rfl rfl fun w0 X => ?_
  refine jq (jr (ja ζ (jn (jx (jq (jq (jr (jm ζ (js (jlss ζ ζ) (jn (jx ?_)))))))))))
  refine jif ζ (fun hc1 => ?_) (fun hc1 => ?_)
  refine jq (jr (jm ζ (js (jeql ζ ζ) (ja ζ (jn (jx (jrt (jtr ?_))))))))
  exact jrB ζ ζ (by first | (simp [fitsM, *]; done) | exact (fits_prog ww0 hc1 hc2).symm | exact (fits_prog ww0 ‹_› ‹_›).symm)
  refine jsk (jx (jq (jq (jr (jm ζ (js (jgtr ζ ζ) (jn (jx ?_))))))))
  refine jif ζ (fun hc2 => ?_) (fun hc2 => ?_)
  refine jq (jr (ja ζ (jn (jx (jrt (jtr ?_))))))
  exact jrB ζ ζ (by first | (simp [fitsM, *]; done) | exact (fits_prog ww0 hc1 hc2).symm | exact (fits_prog ww0 ‹_› ‹_›).symm)
  refine jsk (jx (jq (jr (jm ζ (js (jsub ζ ζ (by omega)) (ja ζ (jn (jx (jq (jr (jm ζ ?_)))))))))))
  refine jm ζ (js (jshl ζ ζ (by omega)) (jm ζ (js (jshr ζ ζ (by omega)) (jm ζ (js (jeql ζ ζ) (ja ζ (jn (jx (jrt ?_)))))))))
  exact jrB ζ ζ (by first | (simp [fitsM, *]; done) | exact (fits_prog ww0 hc1 hc2).symm | exact (fits_prog ww0 ‹_› ‹_›).symm)
end Go.Proofs.YtdlcjaefkjbonaaGreat
namespace Go.JE
set_option linter.unusedVariables false
set_option linter.unusedSimpArgs false
set_option linter.unusedSectionVars false
variable {P : Program} {D D0 : List Dt} {L M Ls L0 : List Res} {e : Env} {X : Cx} {n : Fs} {w0 : World} {Q : Exit → Act → World → Prop}
def im (g : Nat) (l : List (Int × Value)) : Res where
  sat F H := Im H g l ∧ F g = none
  own k := k = g
  lt := fun h e => e ▸ h.1.lt
  no := fun h e => e ▸ h.2
  st := fun _ _ h1 h2 h => ⟨h.1.of (h2 g rfl), h1 g rfl⟩
section
variable {ops : Array Oper} {op : Op} {d : Nat} {ty : TypeId} {pos : String} {af : Array Edge} {rest : List Oper} {T T' K E : TypeId} {x y z : Operand} {g : Nat} {l : List (Int × Value)} {k : Int} {v u : Value} {b : Bool}
theorem jmm (kk : ∀ g, LH P n w0 ops Q X D (im g [] :: L) ((d, .map (some g)) :: e) rest) (hd : Nat.blt d n.sz = true := by rfl) : LH P n w0 ops Q X D L e (⟨some d, .makeMap T none, ty, pos, af, none⟩ :: rest) := fun F H hp =>
  LF.chg OpCh.makeMapB (by rintro _ H' ⟨g, rfl, eg, sg, kg, hb⟩; exact kk g F H' (hp.new (R := im g []) kg ⟨hb, hp.hin.nope (Nat.le_of_eq eg.symm)⟩ (fun k hk => by have : k = g := hk; omega))) hd
theorem Tw.kwm {H H' : Heap} (h : Tw g H H') : Kw (im g l).own H H' := ⟨Nat.le_of_eq h.1.symm, fun k _ h2 => h.2 k h2⟩
theorem jin {l' : List (Int × Value)} (hT : P.underlying T = some (.map K E)) (hK : P.underlying K = some (.int .i64)) (hm : Tk L (im g l) M) (hx : ev e x = some (.map (some g))) (hi : ev e z = some (.int .i64 k)) (hy : ev e y = some v) (hu : upM l k v = l')
    (kk : LH P n w0 ops Q X D (im g l' :: M) e rest) : LH P n w0 ops Q X D L e (⟨none, .insert T x z y, ty, pos, af, none⟩ :: rest) := fun F H hp =>
  LF.chg0 (OpCh.insert hT hK (hp.at hm).1 hx hi hy) (by rintro _ H' ⟨m, t⟩; exact kk F H' (hp.set (R' := im g l') hm t.kwm ⟨hu ▸ m, (hp.at hm).2⟩ (fun k h => .inr h)))
theorem jlk (hT : P.underlying T = some (.map K E)) (hK : P.underlying K = some (.int .i64)) (hz : (P.info? E).bind (·.zero) = some u) (hm : Tk L (im g l) M) (hx : ev e x = some (.map (some g))) (hi : ev e z = some (.int .i64 k)) : OH P D L e (.lookup T x z false) ((lkM l k).getD u) := fun F H _ _ h => OpOk.lookup hT hK hz (hm.ok h).1.1 hx hi
theorem jlko (hT : P.underlying T = some (.map K E)) (hK : P.underlying K = some (.int .i64)) (hz : (P.info? E).bind (·.zero) = some u) (hm : Tk L (im g l) M) (hx : ev e x = some (.map (some g))) (hi : ev e z = some (.int .i64 k)) : OH P D L e (.lookup T x z true) (.tuple #[(lkM l k).getD u, .bool (lkM l k).isSome]) := fun F H _ _ h => OpOk.lookupOk hT hK hz (hm.ok h).1.1 hx hi
theorem jfk {p : Value → Prop} (h : ∃ v, OH P D L e op v ∧ p v) (kk : ∀ v, p v → LH P n w0 ops Q X D L ((d, v) :: e) rest) (hd : Nat.blt d n.sz = true := by rfl) : LH P n w0 ops Q X D L e (⟨some d, op, ty, pos, af, none⟩ :: rest) := by
  obtain ⟨v, h1, h2⟩ := h; exact js h1 (kk v h2) hd
theorem jeb {r : Bool → Prop} (h : OE P D L e op (fun v _ => ∃ b, v = .bool b ∧ r b)) (kk : ∀ b, r b → LH P n w0 ops Q X D L ((d, .bool b) :: e) rest) (hd : Nat.blt d n.sz = true := by rfl) : LH P n w0 ops Q X D L e (⟨some d, op, ty, pos, af, none⟩ :: rest) := fun F H hp => by
  obtain ⟨v, h1, b, rfl, h2⟩ := h F H hp.hin hp.hd hp.ok; exact LF.step h1 (kk b h2 F H hp) hd
theorem jeqlNil {α : Type} {r : Rp α} {N : Nat} {l : List α} (hT : P.underlying T = some (.slice E)) (hs : Nd D L (dv (rLn N r) v l)) (hx : ev e x = some v) (hy : ev e y = some (.slice none 0 0)) (hr : 0 < r.sz := by exact Nat.le_of_ble_eq_true rfl) : OE P D L e (.binOp .eql T x y T') (fun v _ => ∃ b, v = .bool b ∧ (b = true → l = [])) := fun F H h1 h2 h3 => by
  obtain ⟨u, h4, b, h5, h6⟩ := OpOk.eqlNilS (T' := T') (H := H) hT (hs F H h1 h2 h3) hr hx hy
  exact ⟨u, h4, b, h5, h6⟩
end
def wn {α : Type} (B : Nat) (r : Rp α) (T : TypeId) (v : Value) (l : List α) : Res where
  sat F H := Wn r T F H B v l ∧ B ≤ H.size
  own k := v.ownBlock = some k
  lt := fun h e => h.1.lt _ e
  no := fun h e => h.1.no _ e
  st := fun hl hs h1 h2 h => by
    obtain ⟨⟨g, o, cap, cur, rfl, a1, a2, a3, a4, a5, a6, a7⟩, hB⟩ := h
    exact ⟨⟨g, o, cap, cur, rfl, a1, h1 g rfl, (h2 g rfl).trans a3, a4, a5, a6, fun i hi => (a7 i hi).up hl⟩, Nat.le_trans hB hs⟩
section
variable {ops : Array Oper} {d d2 : Nat} {ty ty2 : TypeId} {pos pos2 : String} {af af2 : Array Edge} {rest : List Oper} {v u z : Value} {x y lx : Operand} {T E : TypeId} {i bytes B lo : Nat} {α : Type} {r : Rp α} {l : List α} {a : α} {k : IntKind} {I : Int}
theorem jgw {c : Code} (hk : Tk L (gl B r E v l) M) (hs : r.sz = 1) (hn : 0 < l.length) (kk : CH P n w0 Q X D (wn B r E v l :: M) e c) : CH P n w0 Q X D L e c := fun F H hp =>
  kk F H (hp.set (R' := wn B r E v l) hk (Kw.refl _ _) ⟨(hp.at hk).1.wn hs hn, (hp.at hk).2⟩ (fun k h => .inr h))
theorem jlw (hT : P.underlying T = some (.slice E)) (hk : Tk L (wn B r E v l) M) (hx : ev e x = some v) : OH P D L e (.call { callee := .builtin .len, args := #[x], argTypes := #[T] }) (.int .i64 (l.length : Nat)) := fun F H _ _ h => OpOk.lenW hT (hk.ok h).1.1 hx
theorem jiw (hT : P.underlying T = some (.slice E)) (hE : Sz P E 1) (hk : Tk L (wn B r E v l) M) (hx : ev e x = some v) (hi : ev e y = some (.int k I)) (hI : I = i) (h1 : i < l.length) : OH P D L e (.indexAddr T x y) (.pointer (some ⟨vblk v, voff v + i * 1, none⟩)) := fun F H _ _ h => OpOk.idxW hT hE (hk.ok h).1.1 hx hi hI h1
theorem jwI {l : List Int} (hk : Tk L (wn B (rI k) E v l) M) (hi : i < l.length) (hT : One P T) (hx : ev e x = some (.pointer (some ⟨vblk v, voff v + i * 1, none⟩))) : OH P D L e (.load T x) (.int k (ix l i)) := fun F H _ _ h => OpOk.ldWI (hk.ok h).1.1 hi hT hx
theorem Wn.sv {F : PH} {H : Heap} (h : Wn r E F H B v l) : Sv v := by obtain ⟨g, o, cap, cur, h1, _⟩ := h; exact ⟨_, _, _, h1⟩
theorem jsw (hT : P.underlying T = some (.slice E)) (hE : Sz P E 1) (hk : Tk L (wn B r E v l) M) (hx : ev e x = some v) (hl : ev e lx = some (.int k I)) (hI : I = lo) (h2 : lo ≤ l.length)
    (kk : ∀ v', Sv v' → LH P n w0 ops Q X D (wn B r E v' (l.drop lo) :: M) ((d, v') :: e) rest) (hd : Nat.blt d n.sz = true := by rfl) : LH P n w0 ops Q X D L e (⟨some d, .slice T x (some lx) none none, ty, pos, af, none⟩ :: rest) := fun F H hp => by
  obtain ⟨u, h3, h4, h5⟩ := OpOk.sliceW hT hE (hp.at hk).1 hx hl hI h2
  exact LF.step h3 (kk u h5.sv F H (hp.set (R' := wn B r E u (l.drop lo)) hk (Kw.refl _ _) ⟨h5, (hp.at hk).2⟩ (fun k h => .inr (h4.symm.trans h)))) hd
theorem cgw {c : Code} (hk : Tk L (wn B r E v l) M) (kk : Sv v → CH P n w0 Q X D L e c) : CH P n w0 Q X D L e c := fun F H hp => kk (Wn.sv (hp.at hk).1) F H hp
theorem jaw {g m : Nat} (hT : P.underlying T = some (.slice E)) (hE : (P.info? E).map (fun i => (i.zero, i.size, i.bytes)) = some (some z, 1, bytes)) (hby : bytes ≤ 8192) (hz : z.cells.size = 1) (hs : r.sz = 1) {B2 : Nat} {N : List Res} (hk : Tk L (wn B r E v l) M) (hk2 : Tk M (gl B2 r E (.slice (some ⟨g, 0, none⟩) 1 m) [a]) N)
    (hx : ev e x = some v) (hy : ev e y = some (.slice (some ⟨g, 0, none⟩) 1 m)) (hb : l.length < 4294967295)
    (kk : ∀ v', Sv v' → LH P n w0 ops Q X D (wn B r E v' (l ++ [a]) :: N) ((d, v') :: e) rest) (hd : Nat.blt d n.sz = true := by rfl) : LH P n w0 ops Q X D L e (⟨some d, .call { callee := .builtin .append, args := #[x, y], argTypes := #[T, T] }, ty, pos, af, none⟩ :: rest) := fun F H hp => by
  have h1 := hp.at hk
  haveI : Inhabited α := ⟨a⟩
  have hg := ((hk2.ok (hk.ok hp.ok).2.2).1).1
  obtain ⟨u, hu, hra⟩ := hg.cell0 (i := 0) (by simp) hs
  refine LF.chg (OpCh.appW (r := r) (a := a) hT hE hby hz hs hx hy (by simpa [vblk, voff] using hu) hra h1.1 hp.hin hb h1.2) ?_ hd
  rintro v' H' ⟨h3, h4, h5⟩
  have h6 := hp.set (R' := wn B r E v' (l ++ [a])) hk ⟨h4.1, fun k h1 h2 => h4.2 k h1 (fun h3 => h2 h3.symm)⟩ ⟨h3, Nat.le_trans h1.2 h4.1⟩ (fun k hk1 => by
    rcases h5 with h5 | h5
    · exact .inr (h5.symm.trans hk1)
    · have h7 : some H.size = some k := h5.symm.trans hk1
      injection h7 with h7; exact .inl (Nat.le_of_eq h7))
  refine kk v' h3.sv F H' ⟨h6.hx, h6.hin, h6.hw, h6.hd, ?_, fun k hk1 => ?_⟩
  · obtain ⟨a1, a2, a3⟩ := h6.ok
    exact ⟨a1, fun k h1 h2 => a2 k h1 (hk2.own (.inr h2)), (hk2.ok a3).2.2⟩
  · exact hk1.elim (fun h => h6.ge k (.inl h)) (fun h => h6.ge k (.inr (hk2.own (.inr h))))
end
end Go.JE
